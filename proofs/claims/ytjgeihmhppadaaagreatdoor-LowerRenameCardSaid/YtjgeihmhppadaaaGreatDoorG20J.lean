import Derived.Test.YtjgeihmhppadaaaGreatDoorG19J
set_option linter.all false
set_option synthInstance.maxHeartbeats 1000000
set_option synthInstance.maxSize 1000000
set_option maxHeartbeats 1600000
set_option maxRecDepth 100000
namespace Go.Proofs.YtjgeihmhppadaaaGreatDoor
open Go.Proofs.Tryz
open List (length_append length_cons length_nil mem_append mem_cons not_mem_nil append_assoc getElem_mem take_of_length_le)
section
open Go.RowKit
theorem bO3(A B:List Box)(W m:Nat)(v:Value)(bs:List UInt8)(rw:List bA):aL prog 170 [pP W] [W] (WS A W m none v bs B rw) λt s'=>t=.tup [] /\ s'=WS A W m (some ⟨W,0,none⟩) v bs B rw:=by
 refine acX 20 func170 ?_
 refine go 6 ?_
 refine wyz Y (fL (hy:=bNp (j:=Tryz.t179) Y Y Y underlying177 B6) (bZ (show (none:Option Addr).isNone=true from Y))) (go 6 ?_)
 refine wyz Y (bR9 (j:=Tryz.t179) A Y Y Y underlying177 underlying248 B6 V (Nat.succ_pos _) G0) ?_
 refine wyz Y (bP6 Y Y func188 B6 B6 B6 B6) ?_
 refine wyz Y (bRc (j:=Tryz.t179) A Y Y Y underlying248 underlying177 B6 B6 G0) (go 4 ?_)
 exact ⟨.inl Y,_,WS A W m (some ⟨W,0,none⟩) v bs B rw,cH Y,aA (.refl _) (.refl _),Y,Y⟩
theorem bOz(A B:List Box)(W m:Nat)(v:Value)(bs:List UInt8)(rw:List bA):aL prog 170 [pP W] [W] (WS A W m (some ⟨W,0,none⟩) v bs B rw) λt s'=>t=.tup [] /\ s'=WS A W m (some ⟨W,0,none⟩) v bs B rw:=by
 refine acX 20 func170 ?_
 refine go 6 ?_
 refine wyz Y (fL (hy:=bNp (j:=Tryz.t179) Y Y Y underlying177 B6) (bZ (show (some ⟨W,0,none⟩:Option Addr).isNone=false from Y))) (go 10 ?_)
 refine wyz Y (bQ4 (j:=Tryz.t179) Y Y Y underlying177 B6) (go 4 ?_)
 exact ⟨.inl Y,_,WS A W m (some ⟨W,0,none⟩) v bs B rw,cH Y,aA (.refl _) (.refl _),Y,Y⟩
theorem bM8(A B:List Box)(W m:Nat)(a:Option Addr)(v:Value)(bs:List UInt8)(rw:List bA)(ha:okA W a):aL prog 170 [pP W] [W] (WS A W m a v bs B rw) λt s'=>t=.tup [] /\ s'=WS A W m (some ⟨W,0,none⟩) v bs B rw:=by
 rcases ha with rfl|rfl
 ·exact bO3 A B W m v bs rw
 exact bOz A B W m v bs rw
theorem bM3(c:UInt8)(A B:List Box)(W m:Nat)(a:Option Addr)(v:Value)(bs:List UInt8)(rw:List bA)(ha:okA W a)(hb:bs.length <= 100000000000000):aL prog 145 [pP W,Cv (.int .u8 ((c.toNat:Nat):Int))] (W::aY v) (WS A W m a v bs B rw) λt s'=>t=Cv .nilIface /\ ∃a' v',okA W a' /\ s'=WS A W m a' v' (bs++[c]) B rw:=by
 refine acX 17 func145 ?_
 refine go 8 ?_
 refine wo Y (bD [W] Y Y V call170 Y (bM8 A B W m a v bs rw ha) (bDj) (bDj (h:=by simp [Sto.bl])) (λ_=>bDj) ?_)
 rintro _ _ ⟨rfl,rfl⟩
 refine go 10 ?_
 refine wo Y (bDk (r:=iF [c]) zb8 ?_)
 refine wo Y (bDm [] dFt Y Y V B1 J (show bs.length+1=(bs++[c]).length by simp only [length_append,length_cons,length_nil]) Bo Bq (bLc bs [c]) λw1=>?_)
 refine go 11 ?_
 exact ⟨.inr Y,_,WS A W m (some ⟨W,0,none⟩) w1 _ B rw,aR Y (aF Y),aA (.refl _) (.refl _),Y,(some ⟨W,0,none⟩),w1,.inr Y,Y⟩
theorem bNm(x:ByteArray)(A B:List Box)(W m:Nat)(a:Option Addr)(v:Value)(bs:List UInt8)(rw:List bA)(ha:okA W a)(hb:bs.length+x.data.toList.length <= 100000000000000):aL prog 146 [pP W,Cs x] (W::aY v) (WS A W m a v bs B rw) λt s'=>t=.tup [nI x.size,Cv .nilIface] /\ ∃a' v',okA W a' /\ s'=WS A W m a' v' (bs++x.data.toList) B rw:=by
 refine acX 19 func146 ?_
 refine go 9 ?_
 refine wo Y (bD [W] Y Y V call170 Y (bM8 A B W m a v bs rw ha) (bDj) (bDj (h:=by simp [Sto.bl])) (λ_=>bDj) ?_)
 rintro _ _ ⟨rfl,rfl⟩
 refine go 10 ?_
 refine wo Y (bHb [] Tryz.t5 (z:=x) Y Y V Y Y underlying58 underlying9 B6 Y Y Y (by unfold maxLen;show bs.length+x.data.toList.length <= _;omega) (by show bs.length+x.data.toList.length <= _;omega) (@length_append _ bs x.data.toList).symm Y Bo Bq (bLc bs x.data.toList) λw1=>?_)
 refine go 14 ?_
 exact ⟨.inr Y,_,WS A W m (some ⟨W,0,none⟩) w1 _ B rw,uM Y (aF Y) (aF Y),aA (.refl _) (.refl _),Y,(some ⟨W,0,none⟩),w1,.inr Y,Y⟩
def bK6(m:Nat)(ps:List ByteArray):List UInt8:=List.replicate m 9++(ps.map λx=>x.data.toList).flatten++[10]
def bLi(ps:List ByteArray):List UInt8:=(ps.map λx=>x.data.toList).flatten
theorem bM4(ps:List ByteArray)(k:Nat)(h:k<ps.length):bLi (ps.take (k+1))=bLi (ps.take k)++ps[k].data.toList:=by
 unfold bLi;rw [List.take_succ_eq_append_getElem h,List.map_append,List.flatten_append];simp only [List.map_cons,List.map_nil,List.flatten_cons,List.flatten_nil,List.append_nil]
theorem bNj:∀(ps:List ByteArray)(k:Nat),(bLi (ps.take k)).length <= (bLi ps).length
 |[],k=>G0
 |x::ps,0=>by simp [bLi]
 |x::ps,k+1=>by
  have:=bNj ps k
  simp only [bLi,List.take_succ_cons,List.map_cons,List.flatten_cons,length_append] at this⊢
  omega
theorem bPj(ps:List ByteArray)(k:Nat)(h:k<ps.length):(bLi (ps.take k)).length+ps[k].data.toList.length <= (bLi ps).length:=by
 have h1:=bNj ps (k+1)
 rw [bM4 ps k h,length_append] at h1;exact h1
theorem bP3(m:Nat)(ps:List ByteArray):(bK6 m ps).length=m+(bLi ps).length+1:=by unfold bK6 bLi;simp [Nat.add_assoc]
theorem bRf(bs:List UInt8)(m:Nat)(ps:List ByteArray):bs++bK6 m ps≠[]:=by unfold bK6;simp
theorem bLe(ps:List ByteArray)(A B:List Box)(W m:Nat)(a:Option Addr)(v:Value)(bs:List UInt8)(rw:List bA)(ha:okA W a)(hps:ps.length <= 1000000)(hb:bs.length+(bK6 m ps).length <= 100000000000000):aL prog 122 [pP W,.c (.sl ps.length (ps.map λx=>Vs x))] (W::aY v) (WS A W m a v bs B rw) λt s'=>t=.tup [] /\ ∃a' v',okA W a' /\ s'=WS A W m a' v' (bs++bK6 m ps) B rw:=by
 have hll:=bP3 m ps
 refine acX 33 func122 ?_
 refine go 11 ?_
 refine bMj (α:=Option Addr×Value) (λj g=>okA W g.1) (m) 10 (λg=>aY g.2++[W]) (λj g=>WS A W m g.1 g.2 (bs++List.replicate j 9) B rw) (λj=>[(0,pP W),(1,.c (.sl ps.length (ps.map λx=>Vs x))),(9,nI m)]) (a,v) ha (bMm (h:=sA Y) (.refl _) (bLf (A:=A) (G0:bs=(bs++List.replicate 0 9)))) ?_
 rintro j ⟨a1,v1⟩ hj hC1
 dsimp only at hC1
 try dsimp only
 refine go 2 ?_
 by_cases h2:((j:Nat):Int)<((m:Nat):Int)
 ·refine wcp true Y (jZ h2) (go 12 ?_)
  refine wo Y (wcW Y call145 Y (bM3 9 A B W m a1 v1 (bs++List.replicate j 9) rw hC1 AF) G0 Bq Be λa4 v4 hC4=>?_)
  refine go 4 ?_
  refine wad Y (go 2 ?_)
  exact ⟨J,(a4,v4),hC4,bMm (.refl _) (bLf (A:=A) (by rw [List.replicate_succ',append_assoc]:((bs++List.replicate j 9)++[9])=(bs++List.replicate (j+1) 9)))⟩
 refine wcp false Y (jQ h2) (go 12 ?_)
 obtain rfl:m=j:=J
 refine go 6 ?_
 refine bMj (α:=Option Addr×Value) (λk g=>okA W g.1) (ps.length) 19 (λg=>aY g.2++[W]) (λk g=>WS A W m g.1 g.2 ((bs++List.replicate m 9)++bLi (ps.take k)) B rw) (λk=>[(0,pP W),(17,.c (.sl ps.length (ps.map λx=>Vs x))),(18,nI ps.length)]) (a1,v1) hC1 (bMm (h:=sA Y) (.refl _) (bLf (A:=A) (by rw [List.take_zero];exact (List.append_nil _).symm:(bs++List.replicate m 9)=((bs++List.replicate m 9)++bLi (ps.take 0))))) ?_
 rintro k ⟨a6,v6⟩ hk hC6
 dsimp only at hC6
 try dsimp only
 refine go 2 ?_
 by_cases h7:((k:Nat):Int)<((ps.length:Nat):Int)
 ·refine wcp true Y (jZ h7) (go 10 ?_)
  refine wyz Y (rT (λx=>Vs x) ps k Y Y Y Y J runUnderlying61 sizeOf9) (go 9 ?_)
  refine wo Y (wcW Y call146 Y (bNm ps[k] A B W m a6 v6 ((bs++List.replicate m 9)++bLi (ps.take k)) rw hC6 (by have:=bPj ps k J;(try simp only [length_append,length_cons,length_nil,List.length_replicate]);omega)) G0 Bq Be λa9 v9 hC9=>?_)
  refine go 4 ?_
  refine wad Y (go 2 ?_)
  exact ⟨J,(a9,v9),hC9,bMm (.refl _) (bLf (A:=A) (by rw [bM4 ps k J,append_assoc]:(((bs++List.replicate m 9)++bLi (ps.take k))++ps[k].data.toList)=((bs++List.replicate m 9)++bLi (ps.take (k+1)))))⟩
 refine wcp false Y (jQ h7) (go 10 ?_)
 obtain rfl:k=ps.length:=J
 rw [List.take_length]
 refine go 3 ?_
 refine wo Y (wcW Y call145 Y (bM3 10 A B W m a6 v6 ((bs++List.replicate m 9)++bLi ps) rw hC6 AF) G0 Bq Be λa11 v11 hC11=>?_)
 refine go 1 ?_
 exact ⟨.inl Y,_,WS A W m a11 v11 _ B rw,cH Y,aA (.refl _) (.refl _),Y,a11,v11,hC11,bLf (by unfold bK6 bLi;simp only [append_assoc])⟩
theorem bMz(e:aH)(hN:e.nodes <= 10000000)(hs:e.sane)(hv:dM e=true)(s:Sto):aL prog 173 [bK5 (.agg (cU e))] [] s λt s'=>t=Cs (bytes (aP e)) /\ s'=s:=by
 have h:=bQg e J hs (λhv=>by have:=tU hs (kR hv);omega) s
 unfold bRv at h
 rw [if_pos hv] at h
 exact h
theorem bL7{α:Type}(f:α -> List UInt8)(l:List α):Lib.join (l.map f) [44,32]=bW f l:=by
 cases l with
 |nil=>rfl
 |cons x r=>rw [List.map_cons,Lib.join_cons,bW];unfold Lib.joinTail;rw [List.map_map];rfl
theorem bRa(xs:List ByteArray)(sep:ByteArray)(hN:xs.length <= 10000000)(hlen:(Lib.join (xs.map (·.data.toList)) sep.data.toList).length <= 100000000000000)(s:Sto):aL prog 124 [.c (.sl xs.length (xs.map λx=>Vs x)),Cs sep] [] s λt s'=>t=Cs (bytes (Lib.join (xs.map (·.data.toList)) sep.data.toList)) /\ s'=s:=by
 intro vs w hm _ hl hr
 obtain ⟨v1,v2,rfl⟩:∃v1 v2,vs=[v1,v2]:=by
  match vs,hl with
  |[x,y],_=>exact ⟨x,y,rfl⟩
 obtain rfl:v2=_:=(show dO _ (.c (.val (.string sep))) v2 from hr 1 G0 G0).val
 have h1:dO (bI s.bl w) (.c (.sl xs.length (xs.map λx=>Vs x))) v1:=hr 0 G0 G0
 cases h1 with
 |c _ _ h1=>cases h1 with
  |sl _ _ us _ hra hul hu hcap=>
   have hR:fG (bI s.bl w) ((xs.map Value.string).map .val) us:=by rw [List.map_map];exact ⟨hul,hu⟩
   obtain rfl:=yC hR
   obtain ⟨a,cap,rfl,hc,hra⟩:=hra
   have key:Calls prog 124 #[.slice a xs.length cap,.string sep] w λe w'=>e=.returned (.string ⟨(Lib.join (xs.map (·.data.toList)) sep.data.toList).toArray⟩) /\ Below w.heap.size w w':=by
    rcases hra with h0|⟨b,off,rfl,hcell⟩
    ·obtain rfl:xs=[]:=by simpa using h0
     exact (Tryz.strings_Join_none a cap sep w).mono λe w' ⟨h1,h2⟩=>by subst h2;exact ⟨h1,Below.refl _ _⟩
    cases xs with
    |nil=>exact (Tryz.strings_Join_none _ cap sep w).mono λe w' ⟨h1,h2⟩=>by subst h2;exact ⟨h1,Below.refl _ _⟩
    |cons x0 xs=>
     have hcell':∀(j:Nat) x,(x0::xs)[j]?=some x -> w.cell? ⟨b,off+j,none⟩=some (.string x):=λj x hj=>(gA (hcell j (.string x) (by rw [List.getElem?_map,hj];rfl))).1
     exact Tryz.strings_Join b off cap (x0::xs) sep w hcell' (gV (hcell' 0 x0 Y)) J hc J
   refine key.mono λe w' ⟨he,hb⟩=>?_
   obtain ⟨hk,hm'⟩:=aBl hm hb
   exact ⟨_,_,s,he,⟨Y,Y⟩,dO.c _ _ (.val _ Y),hm',hk,λb hb=>.inl hb⟩
def bLx(a:eN):ByteArray:=bytes (dE a)
theorem bO4(l:List eN):(l.map bLx).map (·.data.toList)=l.map dE:=Gy
theorem bM0(r:cY)(hs:r.sane)(hN:cZ r.index <= 10000000)(hok0:okRefB r=true)(s:Sto):aL prog 175 [bK5 (.agg (encR r))] [] s λt s'=>t=Cs (bytes (dC r)) /\ s'=s:=by
 obtain ⟨bx,rw⟩:=s
 have hok:=xE hok0
 refine acX 19 func175 ?_
 refine go 12 λb1=>?_
 by_cases h1:((r.index.length:Nat):Int)=0
 ·refine wcp true Y (eR h1) (go 12 ?_)
  exact bHe (s':=⟨bx,rw⟩) Y sb1 ⟨oW (by rw [aCa J];exact (back _).symm),Y⟩
 refine wcp false Y (eD h1) (go 6 ?_)
 refine dx [b1] ?_
 have h0:0<r.index.length:=J
 have hnl:r.name.data.toList.length <= 4611686018427387904:=hs.1
 have htl:=tU (mV _ hs.2 _ (getElem_mem h0)) (kR (hok.2.2 _ (getElem_mem h0)))
 have hnn:=nM r.index 0 h0
 refine tz [(0,true),(1,true)] 9 (go 3 ?_)
 refine tx 2 Y (cz r.name.data.toList ([91]:List UInt8) Y Y Y (back _) Y) (tz [(3,true),(4,true)] 6 (go 3 ?_))
 refine tx 5 Y (bH fO cU r.index iU fP 0 Y Y Y Y J V runUnderlying85 sizeOf87) (tz [(6,true)] 4 (go 2 ?_))
 refine ox 7 Y Y (bMg 0 [] Y Y V call173 Y Y (bMz r.index[0] (by have:=nM r.index 0 J;omega) (mV _ hs.2 _ (getElem_mem _)) (hok.2.2 _ (getElem_mem _)) _) bDl bDl (λ_=>bDl) ?_)
 rintro _ _ ⟨rfl,rfl⟩
 refine tx 8 Y (cz (r.name.data.toList++([91]:List UInt8)) (aP r.index[0]) Y Y Y Y Y) ?_
 refine tx 9 Y (cz ((r.name.data.toList++([91]:List UInt8))++(aP r.index[0])) [93] Y Y Y Y Y) (tz [(10,true)] 0 (go 2 ?_))
 refine ax (go 2 ?_)
 exact bHe (s':=⟨bx,rw⟩) Y sb1 ⟨oW (by rw [wI J]),Y⟩
theorem bSe(a:eN)(hm:a.mutex=false)(hs:a.sane)(hw:a.wt <= 9000000)(hp:(a.mutex=true -> okRefB a.ref=true) /\ (a.mutex=false -> dM a.expr=true))(s:Sto):aL prog 173 [bK5 (.agg (cU a.expr))] [] s λt s'=>t=Cs (bLx a) /\ s'=s:=by
 unfold bLx
 rw [oZ hm]
 exact bMz a.expr (by unfold eN.wt at hw;omega) hs.2 (hp.2 hm) s
theorem bRw(l:List eN)(hN:l.length <= 10000000)(hlen:(bW dE l).length <= 100000000000000)(s:Sto):aL prog 124 [.c (.sl (l.map bLx).length ((l.map bLx).map λx=>Vs x)),Cs ⟨#[44,32]⟩] [] s λt s'=>t=Cs (bytes (bW dE l)) /\ s'=s:=by
 have h:=bRa (l.map bLx) ⟨#[44,32]⟩ (by rw [List.length_map];exact hN) (by rw [bO4];rw [show (⟨#[44,32]⟩:ByteArray).data.toList=[44,32] from rfl,bL7];exact hlen) s
 rw [bO4,show (⟨#[44,32]⟩:ByteArray).data.toList=[44,32] from rfl,bL7] at h
 exact h
theorem bPp(x:aJ)(hs:x.sane)(hw:x.wt <= 9000000)(hok:x.args.all fY=true)(hL:(bW dE x.args).length <= 100000000000000)(hln:x.args.length <= 10000000)(s:Sto):aL prog 174 [bK5 (.agg (dG x))] [] s λt s'=>t=Cs (bytes (x.name.data.toList++dF x.args++[59])) /\ s'=s:=by
 obtain ⟨bx,rw⟩:=s
 obtain ⟨hsn,hse,hsr,hsa,hst,hsf⟩:=yW hs
 rw [gD] at hw
 have hal:=aCj x.args
 have hnl:x.name.data.toList.length <= 4611686018427387904:=hsn
 refine acX 36 func174 ?_
 refine go 21 λb1=>?_
 refine qR 9 1 ?_
 refine aO2 (λk=>True) (x.args.length) 9 3 9 1 (λk=>((x.args.take k).map bLx).length) (λk=>bP ((x.args.take k).map bLx)) [b1] (λk=>[(0,bK5 (.agg (dG x))),(1,pP b1),(7,.c (Sq eJ x.args)),(8,nI x.args.length)]) trivial (cQf Cc) λk v hk hvk=>?_
 replace hvk:True:=hvk
 try dsimp only
 refine go 2 ?_
 by_cases h1:((k:Nat):Int)<((x.args.length:Nat):Int)
 ·refine wcp true Y (jZ h1) (go 10 ?_)
  refine wyz Y (bH eJ eJ x.args iD (λ_=>Y) k Y Y Y Y J V runUnderlying118 sizeOf135) (go 8 λb2=>?_)
  have hlt:k<x.args.length:=J
  have hka:=hsa _ (getElem_mem hlt)
  have hkp:=xN (List.all_eq_true.1 hok _ (getElem_mem hlt))
  have hkw:=aDf x.args k hlt
  have hkw2:=hkw
  unfold eN.wt cY.wt at hkw2
  have hit:=aGp dE x.args k hlt
  have hcl:((x.args.take k).map bLx).length <= k:=EU
  refine go 1 ?_
  rcases Bool.eq_false_or_eq_true (x.args[k].mutex) with h3|h3
  focus
   refine wyz Y (fL (bZ h3)) (go 5 ?_)
   have hq:=congrArg List.length (pD h3)
   simp only [length_append] at hq
   refine go 3 ?_
   refine wcR 0 Y call175 Y (bM0 x.args[k].ref hka.1 J (hkp.1 h3) _) ?_
   refine wyz Y (fL (hy:=cz [109,117,116,101,120,32] (dC x.args[k].ref) Y Y Y Y Y) (jX (show (bytes ([109,117,116,101,120,32]++(dC x.args[k].ref)))=(bLx x.args[k]) by unfold bLx;rw [pD h3]))) ?_
   refine wo Y (bDk (r:=bP [(bLx x.args[k])]) cG8 ?_)
   refine wo Y (bDm [] dFs Y Y V B1 J (@length_append _ ((x.args.take k).map bLx) [(bLx x.args[k])]).symm Bo Bq (List.map_append (f:=λx=>AC.val (.string x))).symm λw3=>?_)
   refine go 8 ?_
  rotate_left
  refine wyz Y (fL (bZ h3)) (go 9 ?_)
  refine wcR 0 Y call173 Y (bSe x.args[k] h3 hka J hkp _) ?_
  refine wo Y (bDk (r:=bP [(bLx x.args[k])]) cG8 ?_)
  refine wo Y (bDm [] dFs Y Y V B1 J (@length_append _ ((x.args.take k).map bLx) [(bLx x.args[k])]).symm Bo Bq (List.map_append (f:=λx=>AC.val (.string x))).symm λw4=>?_)
  refine go 5 ?_
  all_goals
   refine wad Y (go 2 ?_)
   rw [show (x.args.take k).map bLx++[bLx x.args[k]]=(x.args.take (k+1)).map bLx by rw [List.take_succ_eq_append_getElem J,List.map_append];rfl]
   exact ⟨J,trivial,_,cQf (h1:=(.cons _ (.refl _))) (h:=aG Y (gQ J) (sA Y)) Dr⟩
 refine wcp false Y (jQ h1) (go 10 ?_)
 obtain rfl:k=x.args.length:=J
 rw [List.take_length]
 refine aH0 3 Y ?_
 refine dx [b1] (tz [(0,true),(1,true)] 6 (go 3 ?_))
 refine tx 2 Y (cz x.name.data.toList ([40]:List UInt8) Y Y Y (back _) Y) (tz [(3,true)] 4 (go 2 ?_))
 refine ox 4 Y Y (bV Y Y V call124 Y (bRw x.args J J _) ?_)
 rintro _ _ ⟨rfl,rfl⟩
 refine tx 5 Y (cz (x.name.data.toList++([40]:List UInt8)) (bW dE x.args) Y Y Y Y Y) ?_
 refine tx 6 Y (cz ((x.name.data.toList++([40]:List UInt8))++(bW dE x.args)) [41,59] Y Y Y Y Y) (tz [(7,true)] 0 (go 2 ?_))
 refine ax (go 2 ?_)
 exact bHe (s':=⟨bx,rw⟩) Y sb1 ⟨oW (by unfold dF;simp only [append_assoc];rfl),Y⟩
theorem bOo{D:Nat}{x:aJ}(h:bK9 D x=true):(x.kind=1∨x.kind=2∨x.kind=7∨x.kind=8 -> dM x.expr=true) /\ (1 <= x.kind /\ x.kind <= 9) /\ x.args.all fY=true /\ (x.els.length=0∨x.kind=7):=by
 obtain ⟨k,n,e,r,args,t,el⟩:=x
 rw [bK9] at h
 simp only [Bool.and_eq_true,Bool.or_eq_true,decide_eq_true_eq] at h
 obtain ⟨⟨⟨⟨⟨⟨⟨h1,h2⟩,h3⟩,h4⟩,h5⟩,h6⟩,h7⟩,h8⟩:=h
 exact ⟨λhp=>by
  have hp:k=1∨k=2∨k=7∨k=8:=hp
  rwa [if_pos hp] at h3,h1,h6,h8.imp id (λh=>h.1)⟩
abbrev tabs(m:Nat):List UInt8:=List.replicate m 9
theorem bN4(m:Nat):tabs m++[9]=tabs (m+1):=by unfold tabs;rw [List.replicate_succ']
theorem bLa(l:List UInt8):(bytes l).data.toList=l:=Dn
section
variable {m:Nat}{x:aJ}
theorem bRi(h:x.kind=1):bK6 m [⟨#[118,97,114,32]⟩,x.name,⟨#[32,61,32]⟩,bytes (aP x.expr),⟨#[59]⟩]=bY (tabs m) x:=by
 rw [tP h];unfold bK6;simp only [List.map_cons,List.map_nil,List.flatten_cons,List.flatten_nil,bLa,append_assoc];rfl
theorem bQ9(h:x.kind=2):bK6 m [x.name,⟨#[32,61,32]⟩,bytes (aP x.expr),⟨#[59]⟩]=bY (tabs m) x:=by
 rw [tT h];unfold bK6;simp only [List.map_cons,List.map_nil,List.flatten_cons,List.flatten_nil,bLa,append_assoc];rfl
theorem bRd(h:x.kind=3):bK6 m [bytes (x.name.data.toList++dF x.args++[59])]=bY (tabs m) x:=by
 rw [tZ h];unfold bK6;simp only [List.map_cons,List.map_nil,List.flatten_cons,List.flatten_nil,bLa,append_assoc];rfl
theorem bRh(h:x.kind=4):bK6 m [⟨#[103,111,32]⟩,bytes (x.name.data.toList++dF x.args++[59])]=bY (tabs m) x:=by
 rw [tH h];unfold bK6;simp only [List.map_cons,List.map_nil,List.flatten_cons,List.flatten_nil,bLa,append_assoc];rfl
theorem bQ5(h:x.kind=5):bK6 m [⟨#[108,111,99,107,32]⟩,bytes (dC x.ref),⟨#[59]⟩]=bY (tabs m) x:=by
 rw [uD h];unfold bK6;simp only [List.map_cons,List.map_nil,List.flatten_cons,List.flatten_nil,bLa,append_assoc];rfl
theorem bQz(h:x.kind=6):bK6 m [⟨#[117,110,108,111,99,107,32]⟩,bytes (dC x.ref),⟨#[59]⟩]=bY (tabs m) x:=by
 rw [tI h];unfold bK6;simp only [List.map_cons,List.map_nil,List.flatten_cons,List.flatten_nil,bLa,append_assoc];rfl
theorem bQm(h:x.kind=9):bK6 m [⟨#[114,101,116,117,114,110,59]⟩]=bY (tabs m) x:=by
 rw [uB J];unfold bK6;rfl
def bLl(x:aJ):ByteArray:=if x.kind=8 then ⟨#[119,104,105,108,101,32]⟩ else ⟨#[105,102,32]⟩
theorem bPg(h:x.kind=7∨x.kind=8)(he:x.els.length=0):bK6 m [bLl x,bytes (aP x.expr),⟨#[32,123]⟩]++aC (tabs (m+1)) x.thn++bK6 m [⟨#[125]⟩]=bY (tabs m) x:=by
 unfold bLl
 rcases h with h|h
 ·rw [pU h,if_neg J,if_pos he,bN4];unfold bK6;simp only [List.map_cons,List.map_nil,List.flatten_cons,List.flatten_nil,bLa,append_assoc];rfl
 rw [pV h,if_pos h,if_pos he,bN4];unfold bK6;simp only [List.map_cons,List.map_nil,List.flatten_cons,List.flatten_nil,bLa,append_assoc];rfl
theorem bPl(h:x.kind=7∨x.kind=8)(he:¬x.els.length=0):bK6 m [bLl x,bytes (aP x.expr),⟨#[32,123]⟩]++aC (tabs (m+1)) x.thn++bK6 m [⟨#[125,32,101,108,115,101,32,123]⟩]++aC (tabs (m+1)) x.els++bK6 m [⟨#[125]⟩]=bY (tabs m) x:=by
 unfold bLl
 rcases h with h|h
 ·rw [pU h,if_neg J,if_neg he,bN4];unfold bK6;simp only [List.map_cons,List.map_nil,List.flatten_cons,List.flatten_nil,bLa,append_assoc];rfl
 rw [pV h,if_pos h,if_neg he,bN4];unfold bK6;simp only [List.map_cons,List.map_nil,List.flatten_cons,List.flatten_nil,bLa,append_assoc];rfl
end
theorem bOv{x:aJ}(m:Nat)(h:x.kind=3∨x.kind=4):(bW dE x.args).length <= (bY (tabs m) x).length:=by
 rcases h with h|h
 ·rw [tZ h];unfold dF;simp only [length_append];omega
 rw [tH h];unfold dF;simp only [length_append];omega
theorem bPk(x:aJ)(A B:List Box)(W m:Nat)(a:Option Addr)(v:Value)(bs:List UInt8)(rw:List bA)(ha:okA W a)(D:Nat)(hok:bK9 D x=true)(hs:x.sane)(hw:x.wt <= 9000000)(hm:m <= 1000)(hb:bs.length+(bY (tabs m) x).length <= 100000000000000)(hco:(x.kind=7∨x.kind=8) -> ∀(A B:List Box) (W:Nat) (a:Option Addr) (v:Value) (bs:List UInt8) (rw:List bA) (ha:okA W a) (hb:bs.length+(bY (tabs m) x).length <= 100000000000000),aL prog 176 [bK5 (pP W),.agg (dG x)] (W::aY v) (WS A W m a v bs B rw) λt s'=>t=.tup [] /\ ∃a' v',okA W a' /\ s'=WS A W m a' v' (bs++bY (tabs m) x) B rw):aL prog 149 [bK5 (pP W),.agg (dG x)] (W::aY v) (WS A W m a v bs B rw) λt s'=>t=.tup [] /\ ∃a' v',okA W a' /\ s'=WS A W m a' v' (bs++bY (tabs m) x) B rw:=by
 obtain ⟨hsn,hse,hsr,hsa,hst,hsf⟩:=yW hs
 have hw2:=hw
 rw [gD] at hw2
 unfold cY.wt at hw2
 have hal:=aCj x.args
 have ok1:=aHv hs hok
 have ok2:=bOo hok
 refine acX 64 func149 ?_
 refine go 14 λb1=>?_
 by_cases h1:x.kind=1
 ·refine wcp true Y (eR h1) (go 4 ?_)
  refine dx [b1] ?_
  have hle:=congrArg List.length (bRi (m:=m) (x:=x) J)
  refine tz [(0,true),(1,true),(2,true),(3,true),(4,true)] 3 (go 6 ?_)
  refine ox 5 Y Y (bMg 0 [] Y Y V call173 Y Y (bMz x.expr J hse (ok2.1 J) _) bDl bDl (λ_=>bDl) ?_)
  rintro _ _ ⟨rfl,rfl⟩
  refine ox 6 Y Y (bDk (r:=bP [(⟨#[118,97,114,32]⟩:ByteArray),x.name,(⟨#[32,61,32]⟩:ByteArray),(bytes (aP x.expr)),(⟨#[59]⟩:ByteArray)]) (hps:=(.cons Y (.cons Y (.cons Y (.cons Y (.cons Y .nil)))))) bGy ?_)
  refine ox 7 Y Y (wcW Y call122 Y (bLe [(⟨#[118,97,114,32]⟩:ByteArray),x.name,(⟨#[32,61,32]⟩:ByteArray),(bytes (aP x.expr)),(⟨#[59]⟩:ByteArray)] (_::A) B W m a v bs rw ha (Nat.le_of_ble_eq_true Y) AF) G0 Bq (λhn=>⟨jJ hn,λb hb=>qW hn hb⟩) λa4 v4 hC4=>?_)
  refine ax (go 1 ?_)
  exact ⟨.inl Y,_,WS A W m a4 v4 _ B rw,cH Y,aA (.cons _ (.refl _)) (.refl _),Y,a4,v4,hC4,bLf (by rw [bRi J])⟩
 refine wcp false Y (eD h1) (go 6 ?_)
 by_cases h6:x.kind=2
 ·refine wcp true Y (eR h6) (go 4 ?_)
  refine dx [b1] ?_
  have hle:=congrArg List.length (bQ9 (m:=m) (x:=x) J)
  refine tz [(0,true),(1,true),(2,true),(3,true),(4,true)] 3 (go 6 ?_)
  refine ox 5 Y Y (bMg 0 [] Y Y V call173 Y Y (bMz x.expr J hse (ok2.1 J) _) bDl bDl (λ_=>bDl) ?_)
  rintro _ _ ⟨rfl,rfl⟩
  refine ox 6 Y Y (wbs Tryz.t9 [Vs ⟨#[]⟩,Vs ⟨#[]⟩,Vs ⟨#[]⟩,Vs ⟨#[]⟩] Y Y V (.cons Y (.cons Y (.cons Y (.cons Y .nil)))) underlying61 B6 Y V V B6 B6 (r:=bP [x.name,(⟨#[32,61,32]⟩:ByteArray),(bytes (aP x.expr)),(⟨#[59]⟩:ByteArray)]) Y ?_)
  refine ox 7 Y Y (wcW Y call122 Y (bLe [x.name,(⟨#[32,61,32]⟩:ByteArray),(bytes (aP x.expr)),(⟨#[59]⟩:ByteArray)] (_::A) B W m a v bs rw ha (Nat.le_of_ble_eq_true Y) AF) G0 Bq (λhn=>⟨jJ hn,λb hb=>qW hn hb⟩) λa9 v9 hC9=>?_)
  refine ax (go 1 ?_)
  exact ⟨.inl Y,_,WS A W m a9 v9 _ B rw,cH Y,aA (.cons _ (.refl _)) (.refl _),Y,a9,v9,hC9,bLf (by rw [bQ9 J])⟩
 refine wcp false Y (eD h6) (go 6 ?_)
 by_cases h11:x.kind=3
 ·refine wcp true Y (eR h11) (go 5 ?_)
  have hle:=congrArg List.length (bRd (m:=m) (x:=x) J)
  refine go 2 ?_
  refine wcR 0 Y call174 Y (bPp x hs J ok2.2.2.1 Fa J _) ?_
  refine wo Y (bDk (r:=bP [(bytes (x.name.data.toList++dF x.args++[59]))]) cG8 ?_)
  refine wo Y (wcW Y call122 Y (bLe [(bytes (x.name.data.toList++dF x.args++[59]))] (_::A) B W m a v bs rw ha (Nat.le_of_ble_eq_true Y) AF) G0 Bq Be λa13 v13 hC13=>?_)
  refine go 2 ?_
  exact ⟨.inl Y,_,WS A W m a13 v13 _ B rw,cH Y,aA (.cons _ (.refl _)) (.refl _),Y,a13,v13,hC13,bLf (by rw [bRd J])⟩
 refine wcp false Y (eD h11) (go 6 ?_)
 by_cases h15:x.kind=4
 ·refine wcp true Y (eR h15) (go 5 ?_)
  have hle:=congrArg List.length (bRh (m:=m) (x:=x) J)
  refine go 2 ?_
  refine wcR 0 Y call174 Y (bPp x hs J ok2.2.2.1 Fa J _) ?_
  refine wo Y (bDk (r:=bP [(⟨#[103,111,32]⟩:ByteArray),(bytes (x.name.data.toList++dF x.args++[59]))]) (hps:=(.cons Y (.cons Y .nil))) cL1 ?_)
  refine wo Y (wcW Y call122 Y (bLe [(⟨#[103,111,32]⟩:ByteArray),(bytes (x.name.data.toList++dF x.args++[59]))] (_::A) B W m a v bs rw ha (Nat.le_of_ble_eq_true Y) AF) G0 Bq Be λa17 v17 hC17=>?_)
  refine go 2 ?_
  exact ⟨.inl Y,_,WS A W m a17 v17 _ B rw,cH Y,aA (.cons _ (.refl _)) (.refl _),Y,a17,v17,hC17,bLf (by rw [bRh J])⟩
 refine wcp false Y (eD h15) (go 6 ?_)
 by_cases h19:x.kind=5
 ·refine wcp true Y (eR h19) (go 5 ?_)
  have hle:=congrArg List.length (bQ5 (m:=m) (x:=x) J)
  refine go 3 ?_
  refine wcR 0 Y call175 Y (bM0 x.ref hsr J (ok1.ref J) _) ?_
  refine wo Y (bDk (r:=bP [(⟨#[108,111,99,107,32]⟩:ByteArray),(bytes (dC x.ref)),(⟨#[59]⟩:ByteArray)]) (hps:=(.cons Y (.cons Y (.cons Y .nil)))) bT4 ?_)
  refine wo Y (wcW Y call122 Y (bLe [(⟨#[108,111,99,107,32]⟩:ByteArray),(bytes (dC x.ref)),(⟨#[59]⟩:ByteArray)] (_::A) B W m a v bs rw ha (Nat.le_of_ble_eq_true Y) AF) G0 Bq Be λa21 v21 hC21=>?_)
  refine go 2 ?_
  exact ⟨.inl Y,_,WS A W m a21 v21 _ B rw,cH Y,aA (.cons _ (.refl _)) (.refl _),Y,a21,v21,hC21,bLf (by rw [bQ5 J])⟩
 refine wcp false Y (eD h19) (go 6 ?_)
 by_cases h23:x.kind=6
 ·refine wcp true Y (eR h23) (go 5 ?_)
  have hle:=congrArg List.length (bQz (m:=m) (x:=x) J)
  refine go 3 ?_
  refine wcR 0 Y call175 Y (bM0 x.ref hsr J (ok1.ref J) _) ?_
  refine wo Y (bDk (r:=bP [(⟨#[117,110,108,111,99,107,32]⟩:ByteArray),(bytes (dC x.ref)),(⟨#[59]⟩:ByteArray)]) (hps:=(.cons Y (.cons Y (.cons Y .nil)))) bT4 ?_)
  refine wo Y (wcW Y call122 Y (bLe [(⟨#[117,110,108,111,99,107,32]⟩:ByteArray),(bytes (dC x.ref)),(⟨#[59]⟩:ByteArray)] (_::A) B W m a v bs rw ha (Nat.le_of_ble_eq_true Y) AF) G0 Bq Be λa25 v25 hC25=>?_)
  refine go 2 ?_
  exact ⟨.inl Y,_,WS A W m a25 v25 _ B rw,cH Y,aA (.cons _ (.refl _)) (.refl _),Y,a25,v25,hC25,bLf (by rw [bQz J])⟩
 refine wcp false Y (eD h23) (go 6 ?_)
 by_cases h27:x.kind=9
 ·refine wcp true Y (eR h27) (go 5 ?_)
  have hle:=congrArg List.length (bQm (m:=m) (x:=x) J)
  refine go 1 ?_
  refine wo Y (bDk (r:=bP [(⟨#[114,101,116,117,114,110,59]⟩:ByteArray)]) cG8 ?_)
  refine wo Y (wcW Y call122 Y (bLe [(⟨#[114,101,116,117,114,110,59]⟩:ByteArray)] (_::A) B W m a v bs rw ha (Nat.le_of_ble_eq_true Y) AF) G0 Bq Be λa29 v29 hC29=>?_)
  refine go 2 ?_
  exact ⟨.inl Y,_,WS A W m a29 v29 _ B rw,cH Y,aA (.cons _ (.refl _)) (.refl _),Y,a29,v29,hC29,bLf (by rw [bQm J])⟩
 refine wcp false Y (eD h27) (go 7 ?_)
 refine wo Y (bO5 0 Y call176 Y (hco J (_::A) B W a v bs rw ha hb) G0 Bq Be λa31 v31 hC31=>?_)
 refine go 2 ?_
 exact ⟨.inl Y,_,WS A W m a31 v31 _ B rw,cH Y,aA (.cons _ (.refl _)) (.refl _),Y,a31,v31,hC31,Y⟩
theorem bPn(x:aJ)(A B:List Box)(W m:Nat)(a:Option Addr)(v:Value)(bs:List UInt8)(rw:List bA)(ha:okA W a)(D:Nat)(hok:bK9 D x=true)(hs:x.sane)(hw:x.wt <= 9000000)(hm:m <= 1000)(hb:bs.length+(bY (tabs m) x).length <= 100000000000000)(hk:x.kind=7∨x.kind=8)(ih1:∀(A B:List Box) (W:Nat) (a:Option Addr) (v:Value) (bs:List UInt8) (rw:List bA) (ha:okA W a) (hb:bs.length+(aC (tabs (m+1)) x.thn).length <= 100000000000000),aL prog 125 [bK5 (pP W),.c (Sq encS x.thn)] (W::aY v) (WS A W m a v bs B rw) λt s'=>t=.tup [] /\ ∃a' v',okA W a' /\ s'=WS A W m a' v' (bs++aC (tabs (m+1)) x.thn) B rw)(ih2:∀(A B:List Box) (W:Nat) (a:Option Addr) (v:Value) (bs:List UInt8) (rw:List bA) (ha:okA W a) (hb:bs.length+(aC (tabs (m+1)) x.els).length <= 100000000000000),aL prog 125 [bK5 (pP W),.c (Sq encS x.els)] (W::aY v) (WS A W m a v bs B rw) λt s'=>t=.tup [] /\ ∃a' v',okA W a' /\ s'=WS A W m a' v' (bs++aC (tabs (m+1)) x.els) B rw):aL prog 176 [bK5 (pP W),.agg (dG x)] (W::aY v) (WS A W m a v bs B rw) λt s'=>t=.tup [] /\ ∃a' v',okA W a' /\ s'=WS A W m a' v' (bs++bY (tabs m) x) B rw:=by
 obtain ⟨hsn,hse,hsr,hsa,hst,hsf⟩:=yW hs
 have hw2:=hw
 rw [gD] at hw2
 unfold cY.wt at hw2
 have hal:=aCj x.args
 have ok1:=aHv hs hok
 have ok2:=bOo hok
 have hle:(bK6 m [bLl x,bytes (aP x.expr),⟨#[32,123]⟩]).length+(aC (tabs (m+1)) x.thn).length+(bK6 m [⟨#[125]⟩]).length+(if x.els.length=0 then 0 else (bK6 m [⟨#[125,32,101,108,115,101,32,123]⟩]).length+(aC (tabs (m+1)) x.els).length)=(bY (tabs m) x).length:=by
  by_cases he:x.els.length=0
  ·rw [if_pos he,←bPg hk he];(simp only [length_append];try omega)
  rw [if_neg he,←bPl hk he];(simp only [length_append];try omega)
 refine acX 33 func176 ?_
 refine go 15 λb1=>?_
 by_cases h1:x.kind=8
 focus
  refine wcp true Y (eR h1) (go 9 ?_)
  refine eA 4 Y (jX (show _=bLl x by unfold bLl;rw [if_pos J])) (go 4 ?_)
 rotate_left
 refine wcp false Y (eD h1) (go 7 ?_)
 refine eA 4 Y (jX (show _=bLl x by unfold bLl;rw [if_neg J])) (go 4 ?_)
 all_goals
  refine wcR 0 Y call173 Y (bMz x.expr J hse (ok2.1 J) _) ?_
  refine wo Y (bDk (r:=bP [(bLl x),(bytes (aP x.expr)),(⟨#[32,123]⟩:ByteArray)]) (hps:=(.cons Y (.cons Y (.cons Y .nil)))) bT4 ?_)
  refine wo Y (wcW Y call122 Y (bLe [(bLl x),(bytes (aP x.expr)),(⟨#[32,123]⟩:ByteArray)] (_::A) B W m a v bs rw ha (Nat.le_of_ble_eq_true Y) AF) G0 Bq Be λa13 v13 hC13=>?_)
  refine go 7 ?_
  refine wo Y (bO5 0 Y call125 Y (ih1 (_::A) B W a13 v13 (bs++bK6 m [(bLl x),(bytes (aP x.expr)),(⟨#[32,123]⟩:ByteArray)]) rw hC13 AF) G0 Bq Be λa14 v14 hC14=>?_)
  refine go 8 ?_
  by_cases h15:(0:Int)<((x.els.length:Nat):Int)
  ·refine wcp true Y (mH h15) (go 5 ?_)
   rw [if_neg J] at hle
   refine go 1 ?_
   refine wo Y (bDk (r:=bP [(⟨#[125,32,101,108,115,101,32,123]⟩:ByteArray)]) cG8 ?_)
   refine wo Y (wcW Y call122 Y (bLe [(⟨#[125,32,101,108,115,101,32,123]⟩:ByteArray)] (_::A) B W m a14 v14 ((bs++bK6 m [(bLl x),(bytes (aP x.expr)),(⟨#[32,123]⟩:ByteArray)])++aC (tabs (m+1)) x.thn) rw hC14 (Nat.le_of_ble_eq_true Y) AF) G0 Bq Be λa17 v17 hC17=>?_)
   refine go 6 ?_
   refine wo Y (bO5 0 Y call125 Y (ih2 (_::A) B W a17 v17 (((bs++bK6 m [(bLl x),(bytes (aP x.expr)),(⟨#[32,123]⟩:ByteArray)])++aC (tabs (m+1)) x.thn)++bK6 m [(⟨#[125,32,101,108,115,101,32,123]⟩:ByteArray)]) rw hC17 AF) G0 Bq Be λa18 v18 hC18=>?_)
   refine go 4 ?_
   refine wo Y (bDk (r:=bP [(⟨#[125]⟩:ByteArray)]) cG8 ?_)
   refine wo Y (wcW Y call122 Y (bLe [(⟨#[125]⟩:ByteArray)] (_::A) B W m a18 v18 ((((bs++bK6 m [(bLl x),(bytes (aP x.expr)),(⟨#[32,123]⟩:ByteArray)])++aC (tabs (m+1)) x.thn)++bK6 m [(⟨#[125,32,101,108,115,101,32,123]⟩:ByteArray)])++aC (tabs (m+1)) x.els) rw hC18 (Nat.le_of_ble_eq_true Y) AF) G0 Bq Be λa19 v19 hC19=>?_)
   refine go 1 ?_
   exact ⟨.inl Y,_,WS A W m a19 v19 _ B rw,cH Y,aA (.cons _ (.refl _)) (.refl _),Y,a19,v19,hC19,bLf (by rw [←bPl hk J];try simp only [append_assoc])⟩
  refine wcp false Y (mI h15) (go 7 ?_)
  refine wo Y (bDk (r:=bP [(⟨#[125]⟩:ByteArray)]) cG8 ?_)
  refine wo Y (wcW Y call122 Y (bLe [(⟨#[125]⟩:ByteArray)] (_::A) B W m a14 v14 ((bs++bK6 m [(bLl x),(bytes (aP x.expr)),(⟨#[32,123]⟩:ByteArray)])++aC (tabs (m+1)) x.thn) rw hC14 (Nat.le_of_ble_eq_true Y) AF) G0 Bq Be λa21 v21 hC21=>?_)
  refine go 1 ?_
  exact ⟨.inl Y,_,WS A W m a21 v21 _ B rw,cH Y,aA (.cons _ (.refl _)) (.refl _),Y,a21,v21,hC21,bLf (by rw [←bPg hk J];try simp only [append_assoc])⟩
theorem bPc(tb:List UInt8)(l:List aJ)(k:Nat)(hk:k<l.length):(aC tb (l.take k)).length+(bY tb l[k]).length <= (aC tb l).length:=by
 have h1:=nQ tb l (k+1)
 rw [dX tb l k hk,length_append] at h1;exact h1
theorem bM2(l:List aJ)(A B:List Box)(W m:Nat)(a:Option Addr)(v:Value)(bs:List UInt8)(rw:List bA)(ha:okA W a)(hm:m <= 900)(hl:l.length <= 1000000000)(hb:bs.length+(aC (tabs (m+1)) l).length <= 100000000000000)(ih:∀k (h:k<l.length),∀(A B:List Box) (W:Nat) (a:Option Addr) (v:Value) (bs:List UInt8) (rw:List bA) (ha:okA W a) (hb:bs.length+(bY (tabs (m+1)) l[k]).length <= 100000000000000),aL prog 149 [bK5 (pP W),.agg (dG l[k])] (W::aY v) (WS A W (m+1) a v bs B rw) λt s'=>t=.tup [] /\ ∃a' v',okA W a' /\ s'=WS A W (m+1) a' v' (bs++bY (tabs (m+1)) l[k]) B rw):aL prog 125 [bK5 (pP W),.c (Sq encS l)] (W::aY v) (WS A W m a v bs B rw) λt s'=>t=.tup [] /\ ∃a' v',okA W a' /\ s'=WS A W m a' v' (bs++aC (tabs (m+1)) l) B rw:=by
 refine acX 30 func125 ?_
 refine go 6 ?_
 refine wyz Y (fL (hy:=bB Y Y Y J J) (gQ (show ((m:Nat):Int)+1=((m+1:Nat):Int) by omega))) (go 14 ?_)
 refine bMj (α:=Option Addr×Value) (λk g=>okA W g.1) (l.length) 15 (λg=>aY g.2++[W]) (λk g=>WS A W (m+1) g.1 g.2 (bs++aC (tabs (m+1)) (l.take k)) B rw) (λk=>[(0,bK5 (pP W)),(13,.c (Sq encS l)),(14,nI l.length)]) (a,v) ha (bMm (h:=sA Y) (.refl _) (bLf (A:=A) (by rw [List.take_zero,aC];exact (List.append_nil _).symm:bs=(bs++aC (tabs (m+1)) (l.take 0))))) ?_
 rintro k ⟨a1,v1⟩ hk hC1
 dsimp only at hC1
 try dsimp only
 refine go 2 ?_
 by_cases h2:((k:Nat):Int)<((l.length:Nat):Int)
 ·refine wcp true Y (jZ h2) (go 10 ?_)
  refine wyz Y (bH encS dG l cZo cJ k Y Y Y Y J V runUnderlying65 sizeOf120) (go 8 λb1=>?_)
  refine wo Y (bO5 0 Y call149 Y (ih k J (_::A) B W a1 v1 (bs++aC (tabs (m+1)) (l.take k)) rw hC1 (by have:=bPc (tabs (m+1)) l k J;(try simp only [length_append]);omega)) G0 Bq Be λa4 v4 hC4=>?_)
  refine go 4 ?_
  refine wad Y (go 2 ?_)
  exact ⟨J,(a4,v4),hC4,bMm (.cons _ (.refl _)) (bLf (A:=A) (by rw [dX _ _ _ J,append_assoc]:((bs++aC (tabs (m+1)) (l.take k))++bY (tabs (m+1)) l[k])=(bs++aC (tabs (m+1)) (l.take (k+1)))))⟩
 refine wcp false Y (jQ h2) (go 10 ?_)
 obtain rfl:k=l.length:=J
 rw [List.take_length]
 refine go 4 ?_
 refine wyz Y (fL (hy:=qC) (gQ (show ((m+1:Nat):Int)-1=((m:Nat):Int) by omega))) (go 4 ?_)
 exact ⟨.inl Y,_,WS A W m a1 v1 _ B rw,cH Y,aA (.refl _) (.refl _),Y,a1,v1,hC1,Y⟩
end
section
open Go.RowKit
theorem bQw{D:Nat}{x:aJ}(h:bK9 D x=true)(hk:x.kind=7∨x.kind=8):bM (D+1) x.thn=true /\ bM (D+1) x.els=true:=by
 obtain ⟨k,n,e,r,args,t,el⟩:=x
 rw [bK9] at h
 simp only [Bool.and_eq_true,Bool.or_eq_true,decide_eq_true_eq] at h
 obtain ⟨⟨-,h7⟩,h8⟩:=h
 have hk:k=7∨k=8:=hk
 rw [if_pos hk] at h7
 refine ⟨h7,?_⟩
 rcases h8 with h|h
 ·obtain rfl:el=[]:=List.length_eq_zero_iff.1 h
  show bM (D+1) []=true
  rw [bLq] at h7⊢
  simp only [Bool.and_eq_true,List.all_nil,and_true] at h7⊢;exact h7.1
 exact h.2
theorem bOd:∀(N:Nat)(l:List aJ)(D:Nat),N <= 9000000 -> wtS l <= N -> bM D l=true -> gC l -> ∀(A B:List Box)(W:Nat)(a:Option Addr)(v:Value)(bs:List UInt8)(rw:List bA),okA W a -> bs.length+(aC (tabs (D+1)) l).length <= 100000000000000 -> aL prog 125 [bK5 (pP W),.c (Sq encS l)] (W::aY v) (WS A W D a v bs B rw) λt s'=>t=.tup [] /\ ∃a' v',okA W a' /\ s'=WS A W D a' v' (bs++aC (tabs (D+1)) l) B rw
 |0,l,D,hN,hw,hok,hs,A,B,W,a,v,bs,rw,ha,hb=>bM2 l A B W D a v bs rw ha (by rw [bLq] at hok;simp only [Bool.and_eq_true,decide_eq_true_eq] at hok;omega) Cy hb λk hk=>absurd (uZ l) J
 |N+1,l,D,hN,hw,hok,hs,A,B,W,a,v,bs,rw,ha,hb=>by
  have hok1:=hok
  rw [bLq] at hok1
  simp only [Bool.and_eq_true,decide_eq_true_eq] at hok1
  obtain ⟨hD,hall⟩:=hok1
  refine bM2 l A B W D a v bs rw ha J Cy hb λk hk A B W a v bs rw ha hb=>?_
  have hst:=List.all_eq_true.1 hall _ (getElem_mem hk)
  have hwk:=uF l k hk
  have hwp:=hwk
  rw [gD] at hwp
  have hsk:=oS _ hs _ (getElem_mem hk)
  obtain ⟨-,-,-,-,hsth,hsf⟩:=yW hsk
  refine bPk l[k] A B W (D+1) a v bs rw ha D hst hsk J J hb λhkind A B W a v bs rw ha hb=>?_
  obtain ⟨o1,o2⟩:=bQw hst hkind
  exact bPn l[k] A B W (D+1) a v bs rw ha D hst hsk J J hb hkind (λA B W a v bs rw ha hb=>bOd N _ (D+1) J J o1 hsth A B W a v bs rw ha hb) (λA B W a v bs rw ha hb=>bOd N _ (D+1) J J o2 hsf A B W a v bs rw ha hb)
theorem bQt(l:List aJ)(A B:List Box)(W m:Nat)(a:Option Addr)(v:Value)(bs:List UInt8)(rw:List bA)(ha:okA W a)(hm:m=0)(hok:bM 0 l=true)(hs:gC l)(hw:wtS l <= 9000000)(hb:bs.length+(aC [9] l).length <= 100000000000000):aL prog 125 [bK5 (pP W),.c (Sq encS l)] (W::aY v) (WS A W m a v bs B rw) λt s'=>t=.tup [] /\ ∃a' v',okA W a' /\ s'=WS A W m a' v' (bs++aC [9] l) B rw:=by
 subst hm
 exact bOd _ l 0 hw (Nat.le_refl _) hok hs A B W a v bs rw ha hb
section
variable {m:Nat}
theorem bOe{g:aI}(hm:m=0)(h:g.init=0):bK6 m [⟨#[118,97,114,32]⟩,g.name,⟨#[59]⟩]=aU g:=by
 subst hm;unfold aU bK6;rw [if_pos h];simp only [List.map_cons,List.map_nil,List.flatten_cons,List.flatten_nil,append_assoc];rfl
theorem bOc{g:aI}(hm:m=0)(h:¬g.init=0):bK6 m [⟨#[118,97,114,32]⟩,g.name,⟨#[32,61,32]⟩,bytes (eH g.init),⟨#[59]⟩]=aU g:=by
 subst hm;unfold aU bK6;rw [if_neg h];simp only [List.map_cons,List.map_nil,List.flatten_cons,List.flatten_nil,bLa,append_assoc];rfl
theorem bOb{x:cL}(hm:m=0)(h:x.reentrant=true)(h0:¬0<x.size):bK6 m [⟨#[114,109,117,116,101,120,32]⟩,x.name,⟨#[59]⟩]=bE x:=by
 subst hm;unfold bE bK6;rw [if_pos h,if_neg h0];simp only [List.map_cons,List.map_nil,List.flatten_cons,List.flatten_nil,append_assoc];rfl
theorem bOg{x:cL}(hm:m=0)(h:x.reentrant=false)(h0:¬0<x.size):bK6 m [⟨#[109,117,116,101,120,32]⟩,x.name,⟨#[59]⟩]=bE x:=by
 subst hm;unfold bE bK6;rw [if_neg B5,if_neg h0];simp only [List.map_cons,List.map_nil,List.flatten_cons,List.flatten_nil,append_assoc];rfl
theorem bOj{x:cL}(hm:m=0)(h:x.reentrant=false)(h0:0<x.size):bK6 m [⟨#[109,117,116,101,120,32]⟩,x.name,⟨#[91]⟩,bytes (eH x.size),⟨#[93,59]⟩]=bE x:=by
 subst hm;unfold bE bK6;rw [if_neg B5,if_pos h0];simp only [List.map_cons,List.map_nil,List.flatten_cons,List.flatten_nil,bLa,append_assoc];rfl
theorem bPm{f:bS}(hm:m=0):bK6 m [⟨#[102,117,110,99,32]⟩,f.name,⟨#[40]⟩,bytes (bW bX f.params),⟨#[41,32,123]⟩]++aC [9] f.body++bK6 m [⟨#[125]⟩]=funcText f:=by
 subst hm;unfold funcText bK6;simp only [List.map_cons,List.map_nil,List.flatten_cons,List.flatten_nil,bLa,append_assoc];rfl
end
theorem bNg{x:cL}(h:fS x=true)(hr:x.reentrant=true):¬0<x.size:=λh0=>by
 unfold fS at h;rw [hr,decide_eq_true h0] at h;simp at h
theorem bMi{bs:List UInt8}{m:Nat}{ps:List ByteArray}{v:Value}:nz (bs++bK6 m ps) v:=λh=>absurd h (bRf bs m ps)
theorem bMk{x y:List UInt8}{v:Value}(h:x=y)(hz:nz x v):nz y v:=h▸hz
theorem bNk{α:Type}(f:α -> List UInt8)(l:List α)(k:Nat)(h:k<l.length):(((l.take k).map f).flatten).length+(f l[k]).length <= ((l.map f).flatten).length:=by
 have h1:=rO f l (k+1)
 rw [kQ f l k h,length_append] at h1;exact h1
def bLu(x:aS):ByteArray:=bytes (bX x)
theorem bSb{x:aS}(h:x.mutex=true):bytes ([109,117,116,101,120,32]++x.name.data.toList)=bLu x:=by unfold bLu;rw [wR h]
theorem bSf{x:aS}(h:x.mutex=false):x.name=bLu x:=by unfold bLu;rw [xC h];exact back _
theorem bRu(l:List aS)(hN:l.length <= 10000000)(hlen:(bW bX l).length <= 100000000000000)(s:Sto):aL prog 124 [.c (.sl (l.map bLu).length ((l.map bLu).map λx=>Vs x)),Cs ⟨#[44,32]⟩] [] s λt s'=>t=Cs (bytes (bW bX l)) /\ s'=s:=by
 have hmap:(l.map bLu).map (·.data.toList)=l.map bX:=Gy
 have h:=bRa (l.map bLu) ⟨#[44,32]⟩ (by rw [List.length_map];exact hN) (by rw [hmap];rw [show (⟨#[44,32]⟩:ByteArray).data.toList=[44,32] from rfl,bL7];exact hlen) s
 rw [hmap,show (⟨#[44,32]⟩:ByteArray).data.toList=[44,32] from rfl,bL7] at h
 exact h
theorem bRp(p:cK)(A B:List Box)(W m:Nat)(a:Option Addr)(v:Value)(bs:List UInt8)(rw:List bA)(ha:okA W a)(hz:nz bs v)(hm:m=0)(hv:nY p=true)(hs:p.sane)(hw:p.wt <= 9000000)(hb:bs.length+(cR p).length <= 100000000000000):aL prog 92 [bK5 (pP W),.agg (jV p)] (W::aY v) (WS A W m a v bs B rw) λt s'=>t=.tup [] /\ ∃a' v',(okA W a' /\ nz (bs++cR p) v') /\ s'=WS A W m a' v' (bs++cR p) B rw:=by
 have hb1:=hb
 unfold cR at hb1
 simp only [length_append] at hb1
 have hv0:=hv
 unfold nY at hv
 simp only [Bool.and_eq_true,List.all_eq_true,decide_eq_true_eq] at hv
 obtain ⟨⟨⟨hcnt,hvg⟩,hvm⟩,hvf⟩:=hv
 have hv:True /\ (∀x∈p.mutexes,fS x=true) /\ True:=⟨trivial,hvm,trivial⟩
 unfold cK.wt at hw
 refine acX 113 func92 ?_
 refine go 15 λb1=>?_
 refine bMj (α:=Option Addr×Value) (λk g=>okA W g.1 /\ nz (bs++((p.globals.take k).map aU).flatten) g.2) (p.globals.length) 16 (λg=>aY g.2++[W]) (λk g=>WS (⟨b1,27,(jV p)⟩::A) W m g.1 g.2 (bs++((p.globals.take k).map aU).flatten) B rw) (λk=>[(0,bK5 (pP W)),(3,pP b1),(14,.c (Sq dB p.globals)),(15,nI p.globals.length)]) (a,v) ⟨ha,bMk (G0:bs=(bs++((p.globals.take 0).map aU).flatten)) hz⟩ (bMm (h:=sA Y) (.refl _) (bLf (A:=(_::A)) (G0:bs=(bs++((p.globals.take 0).map aU).flatten)))) ?_
 rintro k ⟨a1,v1⟩ hk hC1
 dsimp only at hC1
 try dsimp only
 obtain ⟨hC1,hZ⟩:=hC1
 refine go 2 ?_
 by_cases h2:((k:Nat):Int)<((p.globals.length:Nat):Int)
 ·refine wcp true Y (jZ h2) (go 10 ?_)
  have hkl:k<p.globals.length:=J
  have hgs:=hs.globals _ (getElem_mem hkl)
  have hcn:=bNk aU p.globals k hkl
  refine wyz Y (bH dB dB p.globals nS (λ_=>Y) k Y Y Y Y J V runUnderlying23 sizeOf63) (go 10 λb2=>?_)
  by_cases h4:p.globals[k].init=0
  ·refine wcp true Y (eR h4) (go 5 ?_)
   have hle:=congrArg List.length (bOe (g:=p.globals[k]) hm J)
   refine go 3 ?_
   refine wo Y (bDk (r:=bP [(⟨#[118,97,114,32]⟩:ByteArray),p.globals[k].name,(⟨#[59]⟩:ByteArray)]) (hps:=(.cons Y (.cons Y (.cons Y .nil)))) bT4 ?_)
   refine wo Y (wcW Y call122 Y (bLe [(⟨#[118,97,114,32]⟩:ByteArray),p.globals[k].name,(⟨#[59]⟩:ByteArray)] (_::_::A) B W m a1 v1 (bs++((p.globals.take k).map aU).flatten) rw hC1 (Nat.le_of_ble_eq_true Y) AF) G0 Bq Be λa6 v6 hC6=>?_)
   refine go 7 ?_
   refine wad Y (go 2 ?_)
   exact ⟨J,(a6,v6),⟨hC6,bMk (DY:((bs++((p.globals.take k).map aU).flatten)++bK6 m [(⟨#[118,97,114,32]⟩:ByteArray),p.globals[k].name,(⟨#[59]⟩:ByteArray)])=(bs++((p.globals.take (k+1)).map aU).flatten)) bMi⟩,bMm (.cons _ (.refl _)) (bLf (A:=(_::A)) (DY:((bs++((p.globals.take k).map aU).flatten)++bK6 m [(⟨#[118,97,114,32]⟩:ByteArray),p.globals[k].name,(⟨#[59]⟩:ByteArray)])=(bs++((p.globals.take (k+1)).map aU).flatten)))⟩
  refine wcp false Y (eD h4) (go 5 ?_)
  refine dx [b2,b1] ?_
  have hle:=congrArg List.length (bOc (g:=p.globals[k]) hm J)
  refine tz [(0,true),(1,true),(2,true),(3,true),(4,true)] 3 (go 6 ?_)
  refine ox 5 Y Y (bMg 0 [] Y Y V call123 Y Y (bPs p.globals[k].init hgs.1 _) bDl bDl (λ_=>bDl) ?_)
  rintro _ _ ⟨rfl,rfl⟩
  refine ox 6 Y Y (bDk (r:=bP [(⟨#[118,97,114,32]⟩:ByteArray),p.globals[k].name,(⟨#[32,61,32]⟩:ByteArray),(bytes (eH p.globals[k].init)),(⟨#[59]⟩:ByteArray)]) (hps:=(.cons Y (.cons Y (.cons Y (.cons Y (.cons Y .nil)))))) bGy ?_)
  refine ox 7 Y Y (wcW Y call122 Y (bLe [(⟨#[118,97,114,32]⟩:ByteArray),p.globals[k].name,(⟨#[32,61,32]⟩:ByteArray),(bytes (eH p.globals[k].init)),(⟨#[59]⟩:ByteArray)] (_::_::A) B W m a1 v1 (bs++((p.globals.take k).map aU).flatten) rw hC1 (Nat.le_of_ble_eq_true Y) AF) G0 Bq (λhn=>⟨jJ hn,λb hb=>qW hn hb⟩) λa9 v9 hC9=>?_)
  refine ax (go 3 ?_)
  refine wad Y (go 2 ?_)
  exact ⟨J,(a9,v9),⟨hC9,bMk (DZ:((bs++((p.globals.take k).map aU).flatten)++bK6 m [(⟨#[118,97,114,32]⟩:ByteArray),p.globals[k].name,(⟨#[32,61,32]⟩:ByteArray),(bytes (eH p.globals[k].init)),(⟨#[59]⟩:ByteArray)])=(bs++((p.globals.take (k+1)).map aU).flatten)) bMi⟩,bMm (.cons _ (.refl _)) (bLf (A:=(_::A)) (DZ:((bs++((p.globals.take k).map aU).flatten)++bK6 m [(⟨#[118,97,114,32]⟩:ByteArray),p.globals[k].name,(⟨#[32,61,32]⟩:ByteArray),(bytes (eH p.globals[k].init)),(⟨#[59]⟩:ByteArray)])=(bs++((p.globals.take (k+1)).map aU).flatten)))⟩
 refine wcp false Y (jQ h2) (go 12 ?_)
 obtain rfl:k=p.globals.length:=J
 rw [List.take_length] at hZ⊢
 refine go 7 ?_
 refine bMj (α:=Option Addr×Value) (λi g=>okA W g.1 /\ nz ((bs++((p.globals.map aU).flatten))++((p.mutexes.take i).map bE).flatten) g.2) (p.mutexes.length) 40 (λg=>aY g.2++[W]) (λi g=>WS (⟨b1,27,(jV p)⟩::A) W m g.1 g.2 ((bs++((p.globals.map aU).flatten))++((p.mutexes.take i).map bE).flatten) B rw) (λi=>[(0,bK5 (pP W)),(3,pP b1),(38,.c (Sq bT p.mutexes)),(39,nI p.mutexes.length)]) (a1,v1) ⟨hC1,bMk (G0:(bs++((p.globals.map aU).flatten))=((bs++((p.globals.map aU).flatten))++((p.mutexes.take 0).map bE).flatten)) hZ⟩ (bMm (h:=sA Y) (.refl _) (bLf (A:=(_::A)) (G0:(bs++((p.globals.map aU).flatten))=((bs++((p.globals.map aU).flatten))++((p.mutexes.take 0).map bE).flatten)))) ?_
 rintro i ⟨a11,v11⟩ hi hC11
 dsimp only at hC11
 try dsimp only
 obtain ⟨hC11,hZ⟩:=hC11
 refine go 2 ?_
 by_cases h12:((i:Nat):Int)<((p.mutexes.length:Nat):Int)
 ·refine wcp true Y (jZ h12) (go 10 ?_)
  have hil:i<p.mutexes.length:=J
  have hms:=hs.mutexes _ (getElem_mem hil)
  have hmok:=hv.2.1 _ (getElem_mem hil)
  have hcn:=bNk bE p.mutexes i hil
  refine wyz Y (bH bT bT p.mutexes mZ (λ_=>Y) i Y Y Y Y J V runUnderlying24 sizeOf60) (go 9 λb3=>?_)
  rcases Bool.eq_false_or_eq_true (p.mutexes[i].reentrant) with h14|h14
  ·refine wyz Y (fL (bZ h14)) (go 5 ?_)
   have hle:=congrArg List.length (bOb (x:=p.mutexes[i]) hm h14 (bNg hmok h14))
   refine go 3 ?_
   refine wo Y (bDk (r:=bP [(⟨#[114,109,117,116,101,120,32]⟩:ByteArray),p.mutexes[i].name,(⟨#[59]⟩:ByteArray)]) (hps:=(.cons Y (.cons Y (.cons Y .nil)))) bT4 ?_)
   refine wo Y (wcW Y call122 Y (bLe [(⟨#[114,109,117,116,101,120,32]⟩:ByteArray),p.mutexes[i].name,(⟨#[59]⟩:ByteArray)] (_::_::A) B W m a11 v11 ((bs++((p.globals.map aU).flatten))++((p.mutexes.take i).map bE).flatten) rw hC11 (Nat.le_of_ble_eq_true Y) AF) G0 Bq Be λa16 v16 hC16=>?_)
   refine go 5 ?_
   refine wad Y (go 2 ?_)
   exact ⟨J,(a16,v16),⟨hC16,bMk (D1:(((bs++((p.globals.map aU).flatten))++((p.mutexes.take i).map bE).flatten)++bK6 m [(⟨#[114,109,117,116,101,120,32]⟩:ByteArray),p.mutexes[i].name,(⟨#[59]⟩:ByteArray)])=((bs++((p.globals.map aU).flatten))++((p.mutexes.take (i+1)).map bE).flatten)) bMi⟩,bMm (.cons _ (.refl _)) (bLf (A:=(_::A)) (D1:(((bs++((p.globals.map aU).flatten))++((p.mutexes.take i).map bE).flatten)++bK6 m [(⟨#[114,109,117,116,101,120,32]⟩:ByteArray),p.mutexes[i].name,(⟨#[59]⟩:ByteArray)])=((bs++((p.globals.map aU).flatten))++((p.mutexes.take (i+1)).map bE).flatten)))⟩
  refine wyz Y (fL (bZ h14)) (go 8 ?_)
  by_cases h18:(0:Int)<p.mutexes[i].size
  ·refine wcp true Y (mH h18) (go 4 ?_)
   refine dx [b3,b1] ?_
   have hle:=congrArg List.length (bOj (x:=p.mutexes[i]) hm h14 J)
   refine tz [(0,true),(1,true),(2,true),(3,true),(4,true)] 3 (go 6 ?_)
   refine ox 5 Y Y (bMg 0 [] Y Y V call123 Y Y (bPs p.mutexes[i].size hms.1 _) bDl bDl (λ_=>bDl) ?_)
   rintro _ _ ⟨rfl,rfl⟩
   refine ox 6 Y Y (bDk (r:=bP [(⟨#[109,117,116,101,120,32]⟩:ByteArray),p.mutexes[i].name,(⟨#[91]⟩:ByteArray),(bytes (eH p.mutexes[i].size)),(⟨#[93,59]⟩:ByteArray)]) (hps:=(.cons Y (.cons Y (.cons Y (.cons Y (.cons Y .nil)))))) bGy ?_)
   refine ox 7 Y Y (wcW Y call122 Y (bLe [(⟨#[109,117,116,101,120,32]⟩:ByteArray),p.mutexes[i].name,(⟨#[91]⟩:ByteArray),(bytes (eH p.mutexes[i].size)),(⟨#[93,59]⟩:ByteArray)] (_::_::A) B W m a11 v11 ((bs++((p.globals.map aU).flatten))++((p.mutexes.take i).map bE).flatten) rw hC11 (Nat.le_of_ble_eq_true Y) AF) G0 Bq (λhn=>⟨jJ hn,λb hb=>qW hn hb⟩) λa21 v21 hC21=>?_)
   refine ax (go 4 ?_)
   refine wad Y (go 2 ?_)
   exact ⟨J,(a21,v21),⟨hC21,bMk (DW:(((bs++((p.globals.map aU).flatten))++((p.mutexes.take i).map bE).flatten)++bK6 m [(⟨#[109,117,116,101,120,32]⟩:ByteArray),p.mutexes[i].name,(⟨#[91]⟩:ByteArray),(bytes (eH p.mutexes[i].size)),(⟨#[93,59]⟩:ByteArray)])=((bs++((p.globals.map aU).flatten))++((p.mutexes.take (i+1)).map bE).flatten)) bMi⟩,bMm (.cons _ (.refl _)) (bLf (A:=(_::A)) (DW:(((bs++((p.globals.map aU).flatten))++((p.mutexes.take i).map bE).flatten)++bK6 m [(⟨#[109,117,116,101,120,32]⟩:ByteArray),p.mutexes[i].name,(⟨#[91]⟩:ByteArray),(bytes (eH p.mutexes[i].size)),(⟨#[93,59]⟩:ByteArray)])=((bs++((p.globals.map aU).flatten))++((p.mutexes.take (i+1)).map bE).flatten)))⟩
  refine wcp false Y (mI h18) (go 5 ?_)
  have hle:=congrArg List.length (bOg (x:=p.mutexes[i]) hm h14 J)
  refine go 3 ?_
  refine wo Y (bDk (r:=bP [(⟨#[109,117,116,101,120,32]⟩:ByteArray),p.mutexes[i].name,(⟨#[59]⟩:ByteArray)]) (hps:=(.cons Y (.cons Y (.cons Y .nil)))) bT4 ?_)
  refine wo Y (wcW Y call122 Y (bLe [(⟨#[109,117,116,101,120,32]⟩:ByteArray),p.mutexes[i].name,(⟨#[59]⟩:ByteArray)] (_::_::A) B W m a11 v11 ((bs++((p.globals.map aU).flatten))++((p.mutexes.take i).map bE).flatten) rw hC11 (Nat.le_of_ble_eq_true Y) AF) G0 Bq Be λa23 v23 hC23=>?_)
  refine go 5 ?_
  refine wad Y (go 2 ?_)
  exact ⟨J,(a23,v23),⟨hC23,bMk (DX:(((bs++((p.globals.map aU).flatten))++((p.mutexes.take i).map bE).flatten)++bK6 m [(⟨#[109,117,116,101,120,32]⟩:ByteArray),p.mutexes[i].name,(⟨#[59]⟩:ByteArray)])=((bs++((p.globals.map aU).flatten))++((p.mutexes.take (i+1)).map bE).flatten)) bMi⟩,bMm (.cons _ (.refl _)) (bLf (A:=(_::A)) (DX:(((bs++((p.globals.map aU).flatten))++((p.mutexes.take i).map bE).flatten)++bK6 m [(⟨#[109,117,116,101,120,32]⟩:ByteArray),p.mutexes[i].name,(⟨#[59]⟩:ByteArray)])=((bs++((p.globals.map aU).flatten))++((p.mutexes.take (i+1)).map bE).flatten)))⟩
 refine wcp false Y (jQ h12) (go 11 ?_)
 obtain rfl:i=p.mutexes.length:=J
 rw [List.take_length] at hZ⊢
 refine go 7 ?_
 refine bMj (α:=Option Addr×Value) (λf g=>okA W g.1 /\ nz (((bs++((p.globals.map aU).flatten))++((p.mutexes.map bE).flatten))++((p.funcs.take f).map funcText).flatten) g.2) (p.funcs.length) 73 (λg=>aY g.2++[W]) (λf g=>WS (⟨b1,27,(jV p)⟩::A) W m g.1 g.2 (((bs++((p.globals.map aU).flatten))++((p.mutexes.map bE).flatten))++((p.funcs.take f).map funcText).flatten) B rw) (λf=>[(0,bK5 (pP W)),(3,pP b1),(71,.c (Sq fV p.funcs)),(72,nI p.funcs.length)]) (a11,v11) ⟨hC11,bMk (G0:((bs++((p.globals.map aU).flatten))++((p.mutexes.map bE).flatten))=(((bs++((p.globals.map aU).flatten))++((p.mutexes.map bE).flatten))++((p.funcs.take 0).map funcText).flatten)) hZ⟩ (bMm (h:=sA Y) (.refl _) (bLf (A:=(_::A)) (G0:((bs++((p.globals.map aU).flatten))++((p.mutexes.map bE).flatten))=(((bs++((p.globals.map aU).flatten))++((p.mutexes.map bE).flatten))++((p.funcs.take 0).map funcText).flatten)))) ?_
 rintro f ⟨a25,v25⟩ hf hC25
 dsimp only at hC25
 try dsimp only
 obtain ⟨hC25,hZ⟩:=hC25
 refine go 2 ?_
 by_cases h26:((f:Nat):Int)<((p.funcs.length:Nat):Int)
 ·refine wcp true Y (jZ h26) (go 10 ?_)
  have hfl:f<p.funcs.length:=J
  have hfs:=hs.funcs _ (getElem_mem hfl)
  have hcn:=bNk funcText p.funcs f hfl
  have hle:=congrArg List.length (bPm (f:=p.funcs[f]) hm)
  simp only [length_append] at hle
  have hft:=congrArg List.length (wP p.funcs[f])
  simp only [length_append] at hft
  have hfw:=aDi bS.wt p.funcs f hfl
  rw [show bS.wt p.funcs[f]=1+p.funcs[f].params.length+wtS p.funcs[f].body from rfl] at hfw
  have hfb:=aJv hv0 _ (getElem_mem hfl)
  refine wyz Y (bH fV fV p.funcs vC (λ_=>Y) f Y Y Y Y J V runUnderlying25 sizeOf67) (go 20 λb4=>?_)
  refine qR 9 1 ?_
  refine aO2 (λj=>True) (p.funcs[f].params.length) 80 10 9 1 (λj=>((p.funcs[f].params.take j).map bLu).length) (λj=>bP ((p.funcs[f].params.take j).map bLu)) (b4::(aY v25++[W])) (λj=>[(0,bK5 (pP W)),(3,pP b1),(9,pP b4),(71,.c (Sq fV p.funcs)),(72,nI p.funcs.length),(73,nI f),(78,.c (Sq cP p.funcs[f].params)),(79,Ci ((p.funcs[f].params.length:Nat):Int))]) trivial (cQf (by intro x hx;simp only [aY,Value.ownBlock,Option.toList,List.nil_append] at hx;exact hx)) λj vp hj _=>?_
  show AWp prog _ ⟨113,_,⟨_,⟨_,_,_,((p.funcs[f].params.take j).map bLu).length,bP ((p.funcs[f].params.take j).map bLu)⟩::_⟩,(80,nI j)::(10,Cv vp)::[(0,bK5 (pP W)),(3,pP b1),(9,pP b4),(71,.c (Sq fV p.funcs)),(72,nI p.funcs.length),(73,nI f),(78,.c (Sq cP p.funcs[f].params)),(79,Ci ((p.funcs[f].params.length:Nat):Int))]⟩ _
  refine go 2 ?_
  by_cases h28:((j:Nat):Int)<((p.funcs[f].params.length:Nat):Int)
  ·refine wcp true Y (jZ h28) (go 10 ?_)
   have hjl:j<p.funcs[f].params.length:=J
   have hcl:((p.funcs[f].params.take j).map bLu).length <= j:=EU
   have hpn:p.funcs[f].params[j].name.data.toList.length <= 4611686018427387904:=hfs.2.1 _ (getElem_mem hjl)
   refine wyz Y (bH cP cP p.funcs[f].params gL (λ_=>Y) j Y Y Y Y J V runUnderlying64 sizeOf69) (go 9 λb5=>?_)
   rcases Bool.eq_false_or_eq_true (p.funcs[f].params[j].mutex) with h30|h30
   focus
    refine wyz Y (fL (bZ h30)) (go 8 ?_)
    refine wyz Y (fL (hy:=cz ([109,117,116,101,120,32]:List UInt8) p.funcs[f].params[j].name.data.toList Y Y Y Y (back _)) (jX (show (bytes (([109,117,116,101,120,32]:List UInt8)++p.funcs[f].params[j].name.data.toList))=(bLu p.funcs[f].params[j]) by exact bSb h30))) ?_
    refine wo Y (bDk (r:=bP [(bLu p.funcs[f].params[j])]) cG8 ?_)
    refine wo Y (bDm [] dFs Y Y V B1 J (@length_append _ ((p.funcs[f].params.take j).map bLu) [(bLu p.funcs[f].params[j])]).symm Bo Bq (List.map_append (f:=λx=>AC.val (.string x))).symm λw6=>?_)
    refine go 8 ?_
   rotate_left
   refine wyz Y (fL (bZ h30)) (go 8 ?_)
   refine wyz Y (fL (hy:=aX [] isAgg9 sizeOf9) (jX (show p.funcs[f].params[j].name=(bLu p.funcs[f].params[j]) by exact bSf h30))) ?_
   refine wo Y (bDk (r:=bP [(bLu p.funcs[f].params[j])]) cG8 ?_)
   refine wo Y (bDm [] dFs Y Y V B1 J (@length_append _ ((p.funcs[f].params.take j).map bLu) [(bLu p.funcs[f].params[j])]).symm Bo Bq (List.map_append (f:=λx=>AC.val (.string x))).symm λw7=>?_)
   refine go 5 ?_
   all_goals
    refine wad Y (go 2 ?_)
    rw [show ((p.funcs[f].params.take j).map bLu)++[bLu p.funcs[f].params[j]]=(p.funcs[f].params.take (j+1)).map bLu by rw [List.take_succ_eq_append_getElem J,List.map_append];rfl]
    exact ⟨J,trivial,_,cQf (h1:=(.cons _ (.refl _))) (h:=aG Y (gQ J) (sA Y)) Dr⟩
  refine wcp false Y (jQ h28) (go 10 ?_)
  obtain rfl:j=p.funcs[f].params.length:=J
  rw [List.take_length]
  refine aH0 10 Y ?_
  refine dx [b4,b1] (tz [(0,true),(1,true),(2,true),(3,true)] 3 (go 5 ?_))
  refine ox 4 Y Y (bV Y Y V call124 Y (bRu p.funcs[f].params J J _) ?_)
  rintro _ _ ⟨rfl,rfl⟩
  refine ox 5 Y Y (bDk (r:=bP [(⟨#[102,117,110,99,32]⟩:ByteArray),p.funcs[f].name,(⟨#[40]⟩:ByteArray),(bytes (bW bX p.funcs[f].params)),(⟨#[41,32,123]⟩:ByteArray)]) (hps:=(.cons Y (.cons Y (.cons Y (.cons Y (.cons Y .nil)))))) bGy ?_)
  refine ox 6 Y Y (wcW Y call122 Y (bLe [(⟨#[102,117,110,99,32]⟩:ByteArray),p.funcs[f].name,(⟨#[40]⟩:ByteArray),(bytes (bW bX p.funcs[f].params)),(⟨#[41,32,123]⟩:ByteArray)] (_::_::A) B W m a25 v25 (((bs++((p.globals.map aU).flatten))++((p.mutexes.map bE).flatten))++((p.funcs.take f).map funcText).flatten) rw hC25 (Nat.le_of_ble_eq_true Y) AF) G0 Bq (λhn=>⟨jJ hn,λb hb=>qW hn hb⟩) λa35 v35 hC35=>?_)
  refine ax (go 6 ?_)
  refine wo Y (bO5 0 Y call125 Y (bQt p.funcs[f].body (_::_::A) B W m a35 v35 ((((bs++((p.globals.map aU).flatten))++((p.mutexes.map bE).flatten))++((p.funcs.take f).map funcText).flatten)++bK6 m [(⟨#[102,117,110,99,32]⟩:ByteArray),p.funcs[f].name,(⟨#[40]⟩:ByteArray),(bytes (bW bX p.funcs[f].params)),(⟨#[41,32,123]⟩:ByteArray)]) rw hC35 hm hfb.1 hfs.2.2 J AF) G0 Bq Be λa36 v36 hC36=>?_)
  refine go 4 ?_
  refine wo Y (bDk (r:=bP [(⟨#[125]⟩:ByteArray)]) cG8 ?_)
  refine wo Y (wcW Y call122 Y (bLe [(⟨#[125]⟩:ByteArray)] (_::_::A) B W m a36 v36 (((((bs++((p.globals.map aU).flatten))++((p.mutexes.map bE).flatten))++((p.funcs.take f).map funcText).flatten)++bK6 m [(⟨#[102,117,110,99,32]⟩:ByteArray),p.funcs[f].name,(⟨#[40]⟩:ByteArray),(bytes (bW bX p.funcs[f].params)),(⟨#[41,32,123]⟩:ByteArray)])++aC [9] p.funcs[f].body) rw hC36 (Nat.le_of_ble_eq_true Y) AF) G0 Bq Be λa37 v37 hC37=>?_)
  refine go 4 ?_
  refine wad Y (go 2 ?_)
  exact ⟨J,(a37,v37),⟨hC37,bMk (Dy:((((((bs++((p.globals.map aU).flatten))++((p.mutexes.map bE).flatten))++((p.funcs.take f).map funcText).flatten)++bK6 m [(⟨#[102,117,110,99,32]⟩:ByteArray),p.funcs[f].name,(⟨#[40]⟩:ByteArray),(bytes (bW bX p.funcs[f].params)),(⟨#[41,32,123]⟩:ByteArray)])++aC [9] p.funcs[f].body)++bK6 m [(⟨#[125]⟩:ByteArray)])=(((bs++((p.globals.map aU).flatten))++((p.mutexes.map bE).flatten))++((p.funcs.take (f+1)).map funcText).flatten)) bMi⟩,bMm (.cons _ (.refl _)) (bLf (A:=(_::A)) (Dy:((((((bs++((p.globals.map aU).flatten))++((p.mutexes.map bE).flatten))++((p.funcs.take f).map funcText).flatten)++bK6 m [(⟨#[102,117,110,99,32]⟩:ByteArray),p.funcs[f].name,(⟨#[40]⟩:ByteArray),(bytes (bW bX p.funcs[f].params)),(⟨#[41,32,123]⟩:ByteArray)])++aC [9] p.funcs[f].body)++bK6 m [(⟨#[125]⟩:ByteArray)])=(((bs++((p.globals.map aU).flatten))++((p.mutexes.map bE).flatten))++((p.funcs.take (f+1)).map funcText).flatten)))⟩
 refine wcp false Y (jQ h26) (go 8 ?_)
 obtain rfl:f=p.funcs.length:=J
 rw [List.take_length] at hZ⊢
 exact ⟨.inl Y,_,WS A W m a25 v25 _ B rw,cH Y,aA (.cons _ (.refl _)) (.refl _),Y,a25,v25,⟨hC25,bMk (by unfold cR;simp only [append_assoc]) hZ⟩,bLf (by unfold cR;simp only [append_assoc])⟩
end
end Go.Proofs.YtjgeihmhppadaaaGreatDoor
