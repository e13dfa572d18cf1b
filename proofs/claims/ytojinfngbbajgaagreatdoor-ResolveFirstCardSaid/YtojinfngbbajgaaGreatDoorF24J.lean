import Derived.Test.YtojinfngbbajgaaGreatDoorF5J
import Derived.Test.YtojinfngbbajgaaGreatDoorF19J
import Derived.Test.YtojinfngbbajgaaGreatDoorF23J
import Derived.Test.YtojinfngbbajgaaGreatDoorF12J
import Derived.Lib.Join
set_option linter.all false
set_option synthInstance.maxHeartbeats 1000000
set_option synthInstance.maxSize 1000000
set_option maxHeartbeats 1600000
set_option maxRecDepth 100000
namespace Go.Proofs.YtojinfngbbajgaaGreatDoor
open Go.Proofs.Tryz
open List (length_append length_cons length_nil mem_append mem_cons not_mem_nil append_assoc getElem_mem take_of_length_le)
section
open Go.RowKit
theorem bO3(A B:List Box)(W m:Nat)(v:Value)(bs:List UInt8)(rw:List bA):aL prog 179 [pP W] [W] (WS A W m none v bs B rw) fun t s'=>t=.tup [] /\ s'=WS A W m (some ⟨W,0,none⟩) v bs B rw:=by
 refine acB func179 rfl ?_
 show AWp prog _ ⟨20,[W],⟨A++⟨W,135,[.val (.pointer none),.val v,nC m]⟩::B,⟨v,5,1,bs.length,iF bs⟩::rw⟩,[(0,pP W)]⟩ _
 refine go 6 ?_
 refine wyz rfl (fL (bZ (show (none:Option Addr).isNone=true from rfl)) (bNp (j:=Tryz.t133) rfl rfl rfl underlying131 (by kernel_rfl))) (go 6 ?_)
 refine wyz rfl (bR9 (j:=Tryz.t133) A rfl rfl rfl underlying131 underlying242 (by kernel_rfl) (by decide) (Nat.succ_pos _) (by simp)) ?_
 refine wyz rfl (bP6 rfl rfl func208 (by kernel_rfl) (by kernel_rfl) (by kernel_rfl) (by kernel_rfl)) ?_
 refine wyz rfl (bRc (j:=Tryz.t133) A rfl rfl rfl underlying242 underlying131 (by kernel_rfl) (by kernel_rfl) (by simp)) (go 4 ?_)
 exact ⟨.inl rfl,_,WS A W m (some ⟨W,0,none⟩) v bs B rw,cH rfl,aA (.refl _) (.refl _),rfl,rfl⟩
theorem bOz(A B:List Box)(W m:Nat)(v:Value)(bs:List UInt8)(rw:List bA):aL prog 179 [pP W] [W] (WS A W m (some ⟨W,0,none⟩) v bs B rw) fun t s'=>t=.tup [] /\ s'=WS A W m (some ⟨W,0,none⟩) v bs B rw:=by
 refine acB func179 rfl ?_
 show AWp prog _ ⟨20,[W],⟨A++⟨W,135,[.val (.pointer (some ⟨W,0,none⟩)),.val v,nC m]⟩::B,⟨v,5,1,bs.length,iF bs⟩::rw⟩,[(0,pP W)]⟩ _
 refine go 6 ?_
 refine wyz rfl (fL (bZ (show (some ⟨W,0,none⟩:Option Addr).isNone=false from rfl)) (bNp (j:=Tryz.t133) rfl rfl rfl underlying131 (by kernel_rfl))) (go 10 ?_)
 refine wyz rfl (bQ4 (j:=Tryz.t133) rfl rfl rfl underlying131 (by kernel_rfl)) (go 4 ?_)
 exact ⟨.inl rfl,_,WS A W m (some ⟨W,0,none⟩) v bs B rw,cH rfl,aA (.refl _) (.refl _),rfl,rfl⟩
theorem bM8(A B:List Box)(W m:Nat)(a:Option Addr)(v:Value)(bs:List UInt8)(rw:List bA)(ha:okA W a):aL prog 179 [pP W] [W] (WS A W m a v bs B rw) fun t s'=>t=.tup [] /\ s'=WS A W m (some ⟨W,0,none⟩) v bs B rw:=by
 rcases ha with rfl|rfl
 ·exact bO3 A B W m v bs rw
 exact bOz A B W m v bs rw
theorem bM3(c:UInt8)(A B:List Box)(W m:Nat)(a:Option Addr)(v:Value)(bs:List UInt8)(rw:List bA)(ha:okA W a)(hb:bs.length <= 100000000000000):aL prog 147 [pP W,.c (.val (.int .u8 ((c.toNat:Nat):Int)))] (W::aY v) (WS A W m a v bs B rw) fun t s'=>t=.c (.val .nilIface) /\ ∃a' v',okA W a' /\ s'=WS A W m a' v' (bs++[c]) B rw:=by
 refine acB func147 rfl ?_
 show AWp prog _ ⟨17,W::aY v,⟨A++⟨W,135,[.val (.pointer a),.val v,nC m]⟩::B,⟨v,5,1,bs.length,iF bs⟩::rw⟩,[(0,pP W),(1,.c (.val (.int .u8 ((c.toNat:Nat):Int))))]⟩ _
 refine go 8 ?_
 refine wo rfl (bD [W] rfl rfl (by decide) call179 rfl (bM8 A B W m a v bs rw ha) (bDj (by simp)) (bDj (by simp [Sto.bl])) (fun _=>bDj (by simp)) ?_)
 rintro _ _ ⟨rfl,rfl⟩
 refine go 10 ?_
 refine wo rfl (bDk zb6 rfl (.cons rfl .nil) (r:=iF [c]) rfl ?_)
 refine wo rfl (bDm [] bN3 rfl rfl (by decide) (by unfold maxLen;omega) (by omega) (show bs.length+1=(bs++[c]).length by simp only [length_append,length_cons,length_nil]) (fun _ b hb=>by simp [hb]) (fun b hb=>by simp [hb]) (bLc bs [c]) fun w1=>?_)
 refine go 11 ?_
 exact ⟨.inr rfl,_,WS A W m (some ⟨W,0,none⟩) w1 _ B rw,aR rfl (aF rfl),aA (.refl _) (.refl _),rfl,(some ⟨W,0,none⟩),w1,.inr rfl,rfl⟩
theorem bNm(x:ByteArray)(A B:List Box)(W m:Nat)(a:Option Addr)(v:Value)(bs:List UInt8)(rw:List bA)(ha:okA W a)(hb:bs.length+x.data.toList.length <= 100000000000000):aL prog 148 [pP W,.c (.val (.string x))] (W::aY v) (WS A W m a v bs B rw) fun t s'=>t=.tup [nI x.size,.c (.val .nilIface)] /\ ∃a' v',okA W a' /\ s'=WS A W m a' v' (bs++x.data.toList) B rw:=by
 refine acB func148 rfl ?_
 show AWp prog _ ⟨19,W::aY v,⟨A++⟨W,135,[.val (.pointer a),.val v,nC m]⟩::B,⟨v,5,1,bs.length,iF bs⟩::rw⟩,[(0,pP W),(1,.c (.val (.string x)))]⟩ _
 refine go 9 ?_
 refine wo rfl (bD [W] rfl rfl (by decide) call179 rfl (bM8 A B W m a v bs rw ha) (bDj (by simp)) (bDj (by simp [Sto.bl])) (fun _=>bDj (by simp)) ?_)
 rintro _ _ ⟨rfl,rfl⟩
 refine go 10 ?_
 refine wo rfl (bHb [] Tryz.t5 (z:=x) rfl rfl (by decide) rfl rfl underlying23 underlying9 (by kernel_rfl) rfl rfl rfl (by unfold maxLen;show bs.length+x.data.toList.length <= _;omega) (by show bs.length+x.data.toList.length <= _;omega) (@length_append _ bs x.data.toList).symm rfl (fun _ b hb=>by simp [hb]) (fun b hb=>by simp [hb]) (bLc bs x.data.toList) fun w1=>?_)
 refine go 14 ?_
 exact ⟨.inr rfl,_,WS A W m (some ⟨W,0,none⟩) w1 _ B rw,uM rfl (aF rfl) (aF rfl),aA (.refl _) (.refl _),rfl,(some ⟨W,0,none⟩),w1,.inr rfl,rfl⟩
def bK6(m:Nat)(ps:List ByteArray):List UInt8:=List.replicate m 9++(ps.map fun x=>x.data.toList).flatten++[10]
def bLi(ps:List ByteArray):List UInt8:=(ps.map fun x=>x.data.toList).flatten
theorem bM4(ps:List ByteArray)(k:Nat)(h:k<ps.length):bLi (ps.take (k+1))=bLi (ps.take k)++ps[k].data.toList:=by
 unfold bLi;rw [List.take_succ_eq_append_getElem h,List.map_append,List.flatten_append];simp only [List.map_cons,List.map_nil,List.flatten_cons,List.flatten_nil,List.append_nil]
theorem bNj:∀(ps:List ByteArray)(k:Nat),(bLi (ps.take k)).length <= (bLi ps).length
 |[],k=>by simp
 |x::ps,0=>by simp [bLi]
 |x::ps,k+1=>by
  have:=bNj ps k
  simp only [bLi,List.take_succ_cons,List.map_cons,List.flatten_cons,length_append] at this⊢
  omega
theorem bPj(ps:List ByteArray)(k:Nat)(h:k<ps.length):(bLi (ps.take k)).length+ps[k].data.toList.length <= (bLi ps).length:=by
 have h1:=bNj ps (k+1)
 rw [bM4 ps k h,length_append] at h1;exact h1
theorem bP3(m:Nat)(ps:List ByteArray):(bK6 m ps).length=m+(bLi ps).length+1:=by unfold bK6 bLi;simp [Nat.add_assoc]
theorem bRf(bs:List UInt8)(m:Nat)(ps:List ByteArray):bs++bK6 m ps≠[]:=by unfold bK6;simp
theorem bLe(ps:List ByteArray)(A B:List Box)(W m:Nat)(a:Option Addr)(v:Value)(bs:List UInt8)(rw:List bA)(ha:okA W a)(hps:ps.length <= 1000000)(hb:bs.length+(bK6 m ps).length <= 100000000000000):aL prog 115 [pP W,.c (.sl ps.length (ps.map fun x=>.val (.string x)))] (W::aY v) (WS A W m a v bs B rw) fun t s'=>t=.tup [] /\ ∃a' v',okA W a' /\ s'=WS A W m a' v' (bs++bK6 m ps) B rw:=by
 have hll:=bP3 m ps
 refine acB func115 rfl ?_
 show AWp prog _ ⟨33,W::aY v,⟨A++⟨W,135,[.val (.pointer a),.val v,nC m]⟩::B,⟨v,5,1,bs.length,iF bs⟩::rw⟩,[(0,pP W),(1,.c (.sl ps.length (ps.map fun x=>.val (.string x))))]⟩ _
 refine go 11 ?_
 refine bMj (α:=Option Addr×Value) (fun j g=>okA W g.1) (m) 10 (fun g=>aY g.2++[W]) (fun j g=>WS A W m g.1 g.2 (bs++List.replicate j 9) B rw) (fun j=>[(0,pP W),(1,.c (.sl ps.length (ps.map fun x=>.val (.string x)))),(9,nI m)]) (a,v) ha (bMm (.refl _) (.refl _) (bLf (A:=A) (by simp:bs=(bs++List.replicate 0 9))) (by intro x hx;simp only [mem_append,mem_cons,not_mem_nil,or_false] at hx⊢;rcases hx with hx|hx<;>simp [hx]) (sA rfl)) ?_
 rintro j ⟨a1,v1⟩ hj hC1
 dsimp only at hC1
 show AWp prog _ ⟨33,aY v1++[W],WS A W m a1 v1 (bs++List.replicate j 9) B rw,(10,nI j)::[(0,pP W),(1,.c (.sl ps.length (ps.map fun x=>.val (.string x)))),(9,nI m)]⟩ _
 refine go 2 ?_
 by_cases h2:((j:Nat):Int)<((m:Nat):Int)
 ·refine wcp true rfl (jZ h2) (go 12 ?_)
  refine wo rfl (wcW rfl call147 rfl (bM3 9 A B W m a1 v1 (bs++List.replicate j 9) rw hC1 (by (try simp only [length_append,length_cons,length_nil,List.length_replicate]);omega)) (by simp) (fun b hb=>by simp [hb]) (fun _=>⟨by simp,fun b hb=>by simp [hb]⟩) fun a4 v4 hC4=>?_)
  refine go 4 ?_
  refine wad rfl (go 2 ?_)
  exact ⟨by omega,(a4,v4),hC4,bMm (.refl _) (.refl _) (bLf (A:=A) (by rw [List.replicate_succ',append_assoc]:((bs++List.replicate j 9)++[9])=(bs++List.replicate (j+1) 9))) (by intro x hx;simp only [mem_append,mem_cons,not_mem_nil,or_false] at hx⊢;rcases hx with hx|hx<;>simp [hx]) (aG rfl (gQ (by omega)) (sA rfl))⟩
 refine wcp false rfl (jQ h2) (go 12 ?_)
 obtain rfl:m=j:=by omega
 refine go 6 ?_
 refine bMj (α:=Option Addr×Value) (fun k g=>okA W g.1) (ps.length) 19 (fun g=>aY g.2++[W]) (fun k g=>WS A W m g.1 g.2 ((bs++List.replicate m 9)++bLi (ps.take k)) B rw) (fun k=>[(0,pP W),(17,.c (.sl ps.length (ps.map fun x=>.val (.string x)))),(18,nI ps.length)]) (a1,v1) hC1 (bMm (.refl _) (.refl _) (bLf (A:=A) (by rw [List.take_zero];exact (List.append_nil _).symm:(bs++List.replicate m 9)=((bs++List.replicate m 9)++bLi (ps.take 0)))) (by intro x hx;simp only [mem_append,mem_cons,not_mem_nil,or_false] at hx⊢;rcases hx with hx|hx<;>simp [hx]) (sA rfl)) ?_
 rintro k ⟨a6,v6⟩ hk hC6
 dsimp only at hC6
 show AWp prog _ ⟨33,aY v6++[W],WS A W m a6 v6 ((bs++List.replicate m 9)++bLi (ps.take k)) B rw,(19,nI k)::[(0,pP W),(17,.c (.sl ps.length (ps.map fun x=>.val (.string x)))),(18,nI ps.length)]⟩ _
 refine go 2 ?_
 by_cases h7:((k:Nat):Int)<((ps.length:Nat):Int)
 ·refine wcp true rfl (jZ h7) (go 10 ?_)
  refine wyz rfl (rT (fun x=>.val (.string x)) ps k rfl rfl rfl rfl (by omega) runUnderlying50 sizeOf9) (go 9 ?_)
  refine wo rfl (wcW rfl call148 rfl (bNm ps[k] A B W m a6 v6 ((bs++List.replicate m 9)++bLi (ps.take k)) rw hC6 (by have:=bPj ps k (by omega);(try simp only [length_append,length_cons,length_nil,List.length_replicate]);omega)) (by simp) (fun b hb=>by simp [hb]) (fun _=>⟨by simp,fun b hb=>by simp [hb]⟩) fun a9 v9 hC9=>?_)
  refine go 4 ?_
  refine wad rfl (go 2 ?_)
  exact ⟨by omega,(a9,v9),hC9,bMm (.refl _) (.refl _) (bLf (A:=A) (by rw [bM4 ps k (by omega),append_assoc]:(((bs++List.replicate m 9)++bLi (ps.take k))++ps[k].data.toList)=((bs++List.replicate m 9)++bLi (ps.take (k+1))))) (by intro x hx;simp only [mem_append,mem_cons,not_mem_nil,or_false] at hx⊢;rcases hx with hx|hx<;>simp [hx]) (aG rfl (gQ (by omega)) (sA rfl))⟩
 refine wcp false rfl (jQ h7) (go 10 ?_)
 obtain rfl:k=ps.length:=by omega
 rw [List.take_length]
 refine go 3 ?_
 refine wo rfl (wcW rfl call147 rfl (bM3 10 A B W m a6 v6 ((bs++List.replicate m 9)++bLi ps) rw hC6 (by (try simp only [length_append,length_cons,length_nil,List.length_replicate]);omega)) (by simp) (fun b hb=>by simp [hb]) (fun _=>⟨by simp,fun b hb=>by simp [hb]⟩) fun a11 v11 hC11=>?_)
 refine go 1 ?_
 exact ⟨.inl rfl,_,WS A W m a11 v11 _ B rw,cH rfl,aA (.refl _) (.refl _),rfl,a11,v11,hC11,bLf (by unfold bK6 bLi;simp only [append_assoc])⟩
end
section
open Go.RowKit
theorem bMz(e:aH)(hN:e.nodes <= 10000000)(hs:e.sane)(hv:dM e=true)(s:Sto):aL prog 182 [bK5 (.agg (cU e))] [] s fun t s'=>t=.c (.val (.string (bytes (aP e)))) /\ s'=s:=by
 have h:=bQg e (by omega) hs (fun hv=>by have:=tU hs (kR hv);omega) s
 unfold bRv at h
 rw [if_pos hv] at h
 exact h
theorem bL7{α:Type}(f:α -> List UInt8)(l:List α):Lib.join (l.map f) [44,32]=bW f l:=by
 cases l with
 |nil=>rfl
 |cons x r=>rw [List.map_cons,Lib.join_cons,bW];unfold Lib.joinTail;rw [List.map_map];rfl
theorem bRa(xs:List ByteArray)(sep:ByteArray)(hN:xs.length <= 10000000)(hlen:(Lib.join (xs.map (·.data.toList)) sep.data.toList).length <= 100000000000000)(s:Sto):aL prog 117 [.c (.sl xs.length (xs.map fun x=>.val (.string x))),.c (.val (.string sep))] [] s fun t s'=>t=.c (.val (.string (bytes (Lib.join (xs.map (·.data.toList)) sep.data.toList)))) /\ s'=s:=by
 intro vs w hm _ hl hr
 obtain ⟨v1,v2,rfl⟩:∃v1 v2,vs=[v1,v2]:=by
  match vs,hl with
  |[x,y],_=>exact ⟨x,y,rfl⟩
 obtain rfl:v2=_:=(show dO _ (.c (.val (.string sep))) v2 from hr 1 (by simp) (by simp)).val
 have h1:dO (bI s.bl w) (.c (.sl xs.length (xs.map fun x=>.val (.string x)))) v1:=hr 0 (by simp) (by simp)
 cases h1 with
 |c _ _ h1=>cases h1 with
  |sl _ _ us _ hra hul hu hcap=>
   have hR:fG (bI s.bl w) ((xs.map Value.string).map .val) us:=by rw [List.map_map];exact ⟨hul,hu⟩
   obtain rfl:=yC hR
   obtain ⟨a,cap,rfl,hc,hra⟩:=hra
   have key:Calls prog 117 #[.slice a xs.length cap,.string sep] w fun e w'=>e=.returned (.string ⟨(Lib.join (xs.map (·.data.toList)) sep.data.toList).toArray⟩) /\ Below w.heap.size w w':=by
    rcases hra with h0|⟨b,off,rfl,hcell⟩
    ·obtain rfl:xs=[]:=by simpa using h0
     exact (Tryz.strings_Join_none a cap sep w).mono fun e w' ⟨h1,h2⟩=>by subst h2;exact ⟨h1,Below.refl _ _⟩
    cases xs with
    |nil=>exact (Tryz.strings_Join_none _ cap sep w).mono fun e w' ⟨h1,h2⟩=>by subst h2;exact ⟨h1,Below.refl _ _⟩
    |cons x0 xs=>
     have hcell':∀(j:Nat) x,(x0::xs)[j]?=some x -> w.cell? ⟨b,off+j,none⟩=some (.string x):=fun j x hj=>(gA (hcell j (.string x) (by rw [List.getElem?_map,hj];rfl))).1
     exact Tryz.strings_Join b off cap (x0::xs) sep w hcell' (gV (hcell' 0 x0 rfl)) (by omega) hc (by omega)
   refine key.mono fun e w' ⟨he,hb⟩=>?_
   obtain ⟨hk,hm'⟩:=aBl hm hb
   exact ⟨_,_,s,he,⟨rfl,rfl⟩,dO.c _ _ (.val _ rfl),hm',hk,fun b hb=>.inl hb⟩
def bLx(a:eN):ByteArray:=bytes (dE a)
theorem bO4(l:List eN):(l.map bLx).map (·.data.toList)=l.map dE:=by rw [List.map_map];rfl
theorem bM0(r:cY)(hs:r.sane)(hN:cZ r.index <= 10000000)(hok0:okRefB r=true)(s:Sto):aL prog 184 [bK5 (.agg (encR r))] [] s fun t s'=>t=.c (.val (.string (bytes (dC r)))) /\ s'=s:=by
 obtain ⟨bx,rw⟩:=s
 have hok:=xE hok0
 refine acB func184 rfl ?_
 show AWp prog _ ⟨19,_,⟨bx,rw⟩,[(0,bK5 (.agg (encR r)))]⟩ _
 refine go 12 fun b1=>?_
 by_cases h1:((r.index.length:Nat):Int)=0
 ·refine wcp true rfl (eR h1) (go 12 ?_)
  exact bHe (s':=⟨bx,rw⟩) rfl sb1 ⟨oW (by rw [aCa (by omega)];exact (back _).symm),rfl⟩
 refine wcp false rfl (eD h1) (go 6 ?_)
 refine dx [b1] ?_
 have h0:0<r.index.length:=by omega
 have hnl:r.name.data.toList.length <= 4611686018427387904:=hs.1
 have htl:=tU (mV _ hs.2 _ (getElem_mem h0)) (kR (hok.2.2 _ (getElem_mem h0)))
 have hnn:=nM r.index 0 h0
 refine tz [(0,true),(1,true)] 9 (go 3 ?_)
 refine tx 2 rfl (cz r.name.data.toList ([91]:List UInt8) rfl rfl rfl (back _) rfl) (tz [(3,true),(4,true)] 6 (go 3 ?_))
 refine tx 5 rfl (bH fO cU r.index iU fP 0 rfl rfl rfl rfl (by omega) (by decide) runUnderlying71 sizeOf73) (tz [(6,true)] 4 (go 2 ?_))
 refine ox 7 rfl rfl (bMg 0 [] rfl rfl (by decide) call182 rfl rfl (bMz r.index[0] (by have:=nM r.index 0 (by omega);omega) (mV _ hs.2 _ (getElem_mem _)) (hok.2.2 _ (getElem_mem _)) _) bDl bDl (fun _=>bDl) ?_)
 rintro _ _ ⟨rfl,rfl⟩
 refine tx 8 rfl (cz (r.name.data.toList++([91]:List UInt8)) (aP r.index[0]) rfl rfl rfl rfl rfl) ?_
 refine tx 9 rfl (cz ((r.name.data.toList++([91]:List UInt8))++(aP r.index[0])) [93] rfl rfl rfl rfl rfl) (tz [(10,true)] 0 (go 2 ?_))
 refine ax (go 2 ?_)
 exact bHe (s':=⟨bx,rw⟩) rfl sb1 ⟨oW (by rw [wI (by omega)]),rfl⟩
theorem bSe(a:eN)(hm:a.mutex=false)(hs:a.sane)(hw:a.wt <= 9000000)(hp:(a.mutex=true -> okRefB a.ref=true) /\ (a.mutex=false -> dM a.expr=true))(s:Sto):aL prog 182 [bK5 (.agg (cU a.expr))] [] s fun t s'=>t=.c (.val (.string (bLx a))) /\ s'=s:=by
 unfold bLx
 rw [oZ hm]
 exact bMz a.expr (by unfold eN.wt at hw;omega) hs.2 (hp.2 hm) s
theorem bRw(l:List eN)(hN:l.length <= 10000000)(hlen:(bW dE l).length <= 100000000000000)(s:Sto):aL prog 117 [.c (.sl (l.map bLx).length ((l.map bLx).map fun x=>.val (.string x))),.c (.val (.string ⟨#[44,32]⟩))] [] s fun t s'=>t=.c (.val (.string (bytes (bW dE l)))) /\ s'=s:=by
 have h:=bRa (l.map bLx) ⟨#[44,32]⟩ (by rw [List.length_map];exact hN) (by rw [bO4];rw [show (⟨#[44,32]⟩:ByteArray).data.toList=[44,32] from rfl,bL7];exact hlen) s
 rw [bO4,show (⟨#[44,32]⟩:ByteArray).data.toList=[44,32] from rfl,bL7] at h
 exact h
theorem bPp(x:aJ)(hs:x.sane)(hw:x.wt <= 9000000)(hok:x.args.all fY=true)(hL:(bW dE x.args).length <= 100000000000000)(hln:x.args.length <= 10000000)(s:Sto):aL prog 183 [bK5 (.agg (dG x))] [] s fun t s'=>t=.c (.val (.string (bytes (x.name.data.toList++dF x.args++[59])))) /\ s'=s:=by
 obtain ⟨bx,rw⟩:=s
 obtain ⟨hsn,hse,hsr,hsa,hst,hsf⟩:=yW hs
 rw [gD] at hw
 have hal:=aCj x.args
 have hnl:x.name.data.toList.length <= 4611686018427387904:=hsn
 refine acB func183 rfl ?_
 show AWp prog _ ⟨36,_,⟨bx,rw⟩,[(0,bK5 (.agg (dG x)))]⟩ _
 refine go 21 fun b1=>?_
 refine qR 9 1 ?_
 refine aO2 (fun k=>True) (x.args.length) 9 3 9 1 (fun k=>((x.args.take k).map bLx).length) (fun k=>bP ((x.args.take k).map bLx)) [b1] (fun k=>[(0,bK5 (.agg (dG x))),(1,pP b1),(7,.c (.sl x.args.length (x.args.flatMap eJ))),(8,nI x.args.length)]) trivial (cA (.refl _) (.refl _) (by intro x hx;simpa [aY,Value.ownBlock] using hx) (sA rfl)) fun k v hk hvk=>?_
 replace hvk:True:=hvk
 show AWp prog _ ⟨36,_,⟨_,⟨_,_,_,((x.args.take k).map bLx).length,bP ((x.args.take k).map bLx)⟩::_⟩,(9,nI k)::(3,.c (.val v))::[(0,bK5 (.agg (dG x))),(1,pP b1),(7,.c (.sl x.args.length (x.args.flatMap eJ))),(8,nI x.args.length)]⟩ _
 refine go 2 ?_
 by_cases h1:((k:Nat):Int)<((x.args.length:Nat):Int)
 ·refine wcp true rfl (jZ h1) (go 10 ?_)
  refine wyz rfl (bH eJ eJ x.args iD (fun _=>rfl) k rfl rfl rfl rfl (by omega) (by decide) runUnderlying76 sizeOf141) (go 8 fun b2=>?_)
  have hlt:k<x.args.length:=by omega
  have hka:=hsa _ (getElem_mem hlt)
  have hkp:=xN (List.all_eq_true.1 hok _ (getElem_mem hlt))
  have hkw:=aDf x.args k hlt
  have hkw2:=hkw
  unfold eN.wt cY.wt at hkw2
  have hit:=aGp dE x.args k hlt
  have hcl:((x.args.take k).map bLx).length <= k:=by rw [List.length_map,List.length_take];omega
  refine go 1 ?_
  rcases Bool.eq_false_or_eq_true (x.args[k].mutex) with h3|h3
  ·refine wyz rfl (fL (bZ h3) (aX [] rfl rfl rfl isAgg4 sizeOf4 rfl (fun _ h=>by cases h))) (go 5 ?_)
   have hq:=congrArg List.length (pD h3)
   simp only [length_append] at hq
   refine go 3 ?_
   refine wcR 0 rfl call184 rfl (bM0 x.args[k].ref hka.1 (by omega) (hkp.1 h3) _) ?_
   refine wyz rfl (fL (jX (show (bytes ([109,117,116,101,120,32]++(dC x.args[k].ref)))=(bLx x.args[k]) by unfold bLx;rw [pD h3])) (cz [109,117,116,101,120,32] (dC x.args[k].ref) rfl rfl rfl rfl rfl)) ?_
   refine wo rfl (bDk bT4 rfl (.cons rfl .nil) (r:=bP [(bLx x.args[k])]) rfl ?_)
   refine wo rfl (bDm [] bWi rfl rfl (by decide) (by unfold maxLen;omega) (by omega) (@length_append _ ((x.args.take k).map bLx) [(bLx x.args[k])]).symm (fun _ b hb=>by simp [hb]) (fun b hb=>by simp [hb]) (List.map_append (f:=fun x=>AC.val (.string x))).symm fun w3=>?_)
   refine go 8 ?_
   refine wad rfl (go 2 ?_)
   rw [show (x.args.take k).map bLx++[bLx x.args[k]]=(x.args.take (k+1)).map bLx by rw [List.take_succ_eq_append_getElem (by omega),List.map_append];rfl]
   exact ⟨by omega,trivial,_,cA (.cons _ (.refl _)) (.refl _) (by grind) (aG rfl (gQ (by omega)) (sA rfl))⟩
  refine wyz rfl (fL (bZ h3) (aX [] rfl rfl rfl isAgg4 sizeOf4 rfl (fun _ h=>by cases h))) (go 9 ?_)
  refine wcR 0 rfl call182 rfl (bSe x.args[k] h3 hka (by omega) hkp _) ?_
  refine wo rfl (bDk bT4 rfl (.cons rfl .nil) (r:=bP [(bLx x.args[k])]) rfl ?_)
  refine wo rfl (bDm [] bWi rfl rfl (by decide) (by unfold maxLen;omega) (by omega) (@length_append _ ((x.args.take k).map bLx) [(bLx x.args[k])]).symm (fun _ b hb=>by simp [hb]) (fun b hb=>by simp [hb]) (List.map_append (f:=fun x=>AC.val (.string x))).symm fun w4=>?_)
  refine go 5 ?_
  refine wad rfl (go 2 ?_)
  rw [show (x.args.take k).map bLx++[bLx x.args[k]]=(x.args.take (k+1)).map bLx by rw [List.take_succ_eq_append_getElem (by omega),List.map_append];rfl]
  exact ⟨by omega,trivial,_,cA (.cons _ (.refl _)) (.refl _) (by grind) (aG rfl (gQ (by omega)) (sA rfl))⟩
 refine wcp false rfl (jQ h1) (go 10 ?_)
 obtain rfl:k=x.args.length:=by omega
 rw [List.take_length]
 refine aH0 3 rfl ?_
 refine dx [b1] (tz [(0,true),(1,true)] 6 (go 3 ?_))
 refine tx 2 rfl (cz x.name.data.toList ([40]:List UInt8) rfl rfl rfl (back _) rfl) (tz [(3,true)] 4 (go 2 ?_))
 refine ox 4 rfl rfl (bV rfl rfl (by decide) call117 rfl (bRw x.args (by omega) (by omega) _) ?_)
 rintro _ _ ⟨rfl,rfl⟩
 refine tx 5 rfl (cz (x.name.data.toList++([40]:List UInt8)) (bW dE x.args) rfl rfl rfl rfl rfl) ?_
 refine tx 6 rfl (cz ((x.name.data.toList++([40]:List UInt8))++(bW dE x.args)) [41,59] rfl rfl rfl rfl rfl) (tz [(7,true)] 0 (go 2 ?_))
 refine ax (go 2 ?_)
 exact bHe (s':=⟨bx,rw⟩) rfl sb1 ⟨oW (by unfold dF;simp only [append_assoc];rfl),rfl⟩
theorem bOo{D:Nat}{x:aJ}(h:bK9 D x=true):(x.kind=1∨x.kind=2∨x.kind=7∨x.kind=8 -> dM x.expr=true) /\ (1 <= x.kind /\ x.kind <= 9) /\ x.args.all fY=true /\ (x.els.length=0∨x.kind=7):=by
 obtain ⟨k,n,e,r,args,t,el⟩:=x
 rw [bK9] at h
 simp only [Bool.and_eq_true,Bool.or_eq_true,decide_eq_true_eq] at h
 obtain ⟨⟨⟨⟨⟨⟨⟨h1,h2⟩,h3⟩,h4⟩,h5⟩,h6⟩,h7⟩,h8⟩:=h
 exact ⟨fun hp=>by
  have hp:k=1∨k=2∨k=7∨k=8:=hp
  rwa [if_pos hp] at h3,h1,h6,h8.imp id (fun h=>h.1)⟩
abbrev tabs(m:Nat):List UInt8:=List.replicate m 9
theorem bN4(m:Nat):tabs m++[9]=tabs (m+1):=by unfold tabs;rw [List.replicate_succ']
theorem bLa(l:List UInt8):(bytes l).data.toList=l:=by simp [bytes]
section
variable {m:Nat}{x:aJ}
theorem bRi(h:x.kind=1):bK6 m [⟨#[118,97,114,32]⟩,x.name,⟨#[32,61,32]⟩,bytes (aP x.expr),⟨#[59]⟩]=bY (tabs m) x:=by
 rw [tP h];unfold bK6;simp only [List.map_cons,List.map_nil,List.flatten_cons,List.flatten_nil,bLa,append_assoc];rfl
theorem bQ9(h:x.kind=2):bK6 m [x.name,⟨#[32,61,32]⟩,bytes (aP x.expr),⟨#[59]⟩]=bY (tabs m) x:=by
 rw [tT h];unfold bK6;simp only [List.map_cons,List.map_nil,List.flatten_cons,List.flatten_nil,bLa,append_assoc];rfl
theorem bRd(h:x.kind=3):bK6 m [bytes (x.name.data.toList++dF x.args++[59])]=bY (tabs m) x:=by
 rw [tZ h];unfold bK6;simp only [List.map_cons,List.map_nil,List.flatten_cons,List.flatten_nil,bLa,append_assoc];rfl
theorem bRh(h:x.kind=4):bK6 m [⟨#[103,111,32]⟩,bytes (x.name.data.toList++dF x.args++[59])]=bY (tabs m) x:=by
 rw [tH h];unfold bK6;simp only [List.map_cons,List.map_nil,List.flatten_cons,List.flatten_nil,bLa,append_assoc];rfl
theorem bQ5(h:x.kind=5):bK6 m [⟨#[108,111,99,107,32]⟩,bytes (dC x.ref),⟨#[59]⟩]=bY (tabs m) x:=by
 rw [uD h];unfold bK6;simp only [List.map_cons,List.map_nil,List.flatten_cons,List.flatten_nil,bLa,append_assoc];rfl
theorem bQz(h:x.kind=6):bK6 m [⟨#[117,110,108,111,99,107,32]⟩,bytes (dC x.ref),⟨#[59]⟩]=bY (tabs m) x:=by
 rw [tI h];unfold bK6;simp only [List.map_cons,List.map_nil,List.flatten_cons,List.flatten_nil,bLa,append_assoc];rfl
theorem bQm(h:x.kind=9):bK6 m [⟨#[114,101,116,117,114,110,59]⟩]=bY (tabs m) x:=by
 rw [uB (by omega)];unfold bK6;rfl
def bLl(x:aJ):ByteArray:=if x.kind=8 then ⟨#[119,104,105,108,101,32]⟩ else ⟨#[105,102,32]⟩
theorem bPg(h:x.kind=7∨x.kind=8)(he:x.els.length=0):bK6 m [bLl x,bytes (aP x.expr),⟨#[32,123]⟩]++aC (tabs (m+1)) x.thn++bK6 m [⟨#[125]⟩]=bY (tabs m) x:=by
 unfold bLl
 rcases h with h|h
 ·rw [pU h,if_neg (by omega),if_pos he,bN4];unfold bK6;simp only [List.map_cons,List.map_nil,List.flatten_cons,List.flatten_nil,bLa,append_assoc];rfl
 rw [pV h,if_pos h,if_pos he,bN4];unfold bK6;simp only [List.map_cons,List.map_nil,List.flatten_cons,List.flatten_nil,bLa,append_assoc];rfl
theorem bPl(h:x.kind=7∨x.kind=8)(he:¬x.els.length=0):bK6 m [bLl x,bytes (aP x.expr),⟨#[32,123]⟩]++aC (tabs (m+1)) x.thn++bK6 m [⟨#[125,32,101,108,115,101,32,123]⟩]++aC (tabs (m+1)) x.els++bK6 m [⟨#[125]⟩]=bY (tabs m) x:=by
 unfold bLl
 rcases h with h|h
 ·rw [pU h,if_neg (by omega),if_neg he,bN4];unfold bK6;simp only [List.map_cons,List.map_nil,List.flatten_cons,List.flatten_nil,bLa,append_assoc];rfl
 rw [pV h,if_pos h,if_neg he,bN4];unfold bK6;simp only [List.map_cons,List.map_nil,List.flatten_cons,List.flatten_nil,bLa,append_assoc];rfl
end
theorem bOv{x:aJ}(m:Nat)(h:x.kind=3∨x.kind=4):(bW dE x.args).length <= (bY (tabs m) x).length:=by
 rcases h with h|h
 ·rw [tZ h];unfold dF;simp only [length_append];omega
 rw [tH h];unfold dF;simp only [length_append];omega
theorem bPk(x:aJ)(A B:List Box)(W m:Nat)(a:Option Addr)(v:Value)(bs:List UInt8)(rw:List bA)(ha:okA W a)(D:Nat)(hok:bK9 D x=true)(hs:x.sane)(hw:x.wt <= 9000000)(hm:m <= 1000)(hb:bs.length+(bY (tabs m) x).length <= 100000000000000)(hco:(x.kind=7∨x.kind=8) -> ∀(A B:List Box) (W:Nat) (a:Option Addr) (v:Value) (bs:List UInt8) (rw:List bA) (ha:okA W a) (hb:bs.length+(bY (tabs m) x).length <= 100000000000000),aL prog 185 [bK5 (pP W),.agg (dG x)] (W::aY v) (WS A W m a v bs B rw) fun t s'=>t=.tup [] /\ ∃a' v',okA W a' /\ s'=WS A W m a' v' (bs++bY (tabs m) x) B rw):aL prog 151 [bK5 (pP W),.agg (dG x)] (W::aY v) (WS A W m a v bs B rw) fun t s'=>t=.tup [] /\ ∃a' v',okA W a' /\ s'=WS A W m a' v' (bs++bY (tabs m) x) B rw:=by
 obtain ⟨hsn,hse,hsr,hsa,hst,hsf⟩:=yW hs
 have hw2:=hw
 rw [gD] at hw2
 unfold cY.wt at hw2
 have hal:=aCj x.args
 have ok1:=aHv hs hok
 have ok2:=bOo hok
 refine acB func151 rfl ?_
 show AWp prog _ ⟨64,W::aY v,⟨A++⟨W,135,[.val (.pointer a),.val v,nC m]⟩::B,⟨v,5,1,bs.length,iF bs⟩::rw⟩,[(0,bK5 (pP W)),(1,.agg (dG x))]⟩ _
 refine go 14 fun b1=>?_
 by_cases h1:x.kind=1
 ·refine wcp true rfl (eR h1) (go 4 ?_)
  refine dx [b1] ?_
  have hle:=congrArg List.length (bRi (m:=m) (x:=x) (by omega))
  refine tz [(0,true),(1,true),(2,true),(3,true),(4,true)] 3 (go 6 ?_)
  refine ox 5 rfl rfl (bMg 0 [] rfl rfl (by decide) call182 rfl rfl (bMz x.expr (by omega) hse (ok2.1 (by omega)) _) bDl bDl (fun _=>bDl) ?_)
  rintro _ _ ⟨rfl,rfl⟩
  refine ox 6 rfl rfl (bDk bDx rfl (.cons rfl (.cons rfl (.cons rfl (.cons rfl (.cons rfl .nil))))) (r:=bP [(⟨#[118,97,114,32]⟩:ByteArray),x.name,(⟨#[32,61,32]⟩:ByteArray),(bytes (aP x.expr)),(⟨#[59]⟩:ByteArray)]) rfl ?_)
  refine ox 7 rfl rfl (wcW rfl call115 rfl (bLe [(⟨#[118,97,114,32]⟩:ByteArray),x.name,(⟨#[32,61,32]⟩:ByteArray),(bytes (aP x.expr)),(⟨#[59]⟩:ByteArray)] (_::A) B W m a v bs rw ha (Nat.le_of_ble_eq_true rfl) (by (try simp only [length_append,length_cons,length_nil,List.length_replicate]);omega)) (by simp) (fun b hb=>by simp [hb]) (fun hn=>⟨jJ hn,fun b hb=>qW hn hb⟩) fun a4 v4 hC4=>?_)
  refine ax (go 1 ?_)
  exact ⟨.inl rfl,_,WS A W m a4 v4 _ B rw,cH rfl,aA (.cons _ (.refl _)) (.refl _),rfl,a4,v4,hC4,bLf (by rw [bRi (by omega)])⟩
 refine wcp false rfl (eD h1) (go 6 ?_)
 by_cases h6:x.kind=2
 ·refine wcp true rfl (eR h6) (go 4 ?_)
  refine dx [b1] ?_
  have hle:=congrArg List.length (bQ9 (m:=m) (x:=x) (by omega))
  refine tz [(0,true),(1,true),(2,true),(3,true),(4,true)] 3 (go 6 ?_)
  refine ox 5 rfl rfl (bMg 0 [] rfl rfl (by decide) call182 rfl rfl (bMz x.expr (by omega) hse (ok2.1 (by omega)) _) bDl bDl (fun _=>bDl) ?_)
  rintro _ _ ⟨rfl,rfl⟩
  refine ox 6 rfl rfl (wbs Tryz.t9 [.val (.string ⟨#[]⟩),.val (.string ⟨#[]⟩),.val (.string ⟨#[]⟩),.val (.string ⟨#[]⟩)] rfl rfl (by decide) (.cons rfl (.cons rfl (.cons rfl (.cons rfl .nil)))) underlying50 (by kernel_rfl) rfl (by decide) (by decide) (by kernel_rfl) (by kernel_rfl) (r:=bP [x.name,(⟨#[32,61,32]⟩:ByteArray),(bytes (aP x.expr)),(⟨#[59]⟩:ByteArray)]) rfl ?_)
  refine ox 7 rfl rfl (wcW rfl call115 rfl (bLe [x.name,(⟨#[32,61,32]⟩:ByteArray),(bytes (aP x.expr)),(⟨#[59]⟩:ByteArray)] (_::A) B W m a v bs rw ha (Nat.le_of_ble_eq_true rfl) (by (try simp only [length_append,length_cons,length_nil,List.length_replicate]);omega)) (by simp) (fun b hb=>by simp [hb]) (fun hn=>⟨jJ hn,fun b hb=>qW hn hb⟩) fun a9 v9 hC9=>?_)
  refine ax (go 1 ?_)
  exact ⟨.inl rfl,_,WS A W m a9 v9 _ B rw,cH rfl,aA (.cons _ (.refl _)) (.refl _),rfl,a9,v9,hC9,bLf (by rw [bQ9 (by omega)])⟩
 refine wcp false rfl (eD h6) (go 6 ?_)
 by_cases h11:x.kind=3
 ·refine wcp true rfl (eR h11) (go 5 ?_)
  have hle:=congrArg List.length (bRd (m:=m) (x:=x) (by omega))
  refine go 2 ?_
  refine wcR 0 rfl call183 rfl (bPp x hs (by omega) ok2.2.2.1 (by have:=bOv m (x:=x) (by omega);omega) (by omega) _) ?_
  refine wo rfl (bDk bT4 rfl (.cons rfl .nil) (r:=bP [(bytes (x.name.data.toList++dF x.args++[59]))]) rfl ?_)
  refine wo rfl (wcW rfl call115 rfl (bLe [(bytes (x.name.data.toList++dF x.args++[59]))] (_::A) B W m a v bs rw ha (Nat.le_of_ble_eq_true rfl) (by (try simp only [length_append,length_cons,length_nil,List.length_replicate]);omega)) (by simp) (fun b hb=>by simp [hb]) (fun _=>⟨by simp,fun b hb=>by simp [hb]⟩) fun a13 v13 hC13=>?_)
  refine go 2 ?_
  exact ⟨.inl rfl,_,WS A W m a13 v13 _ B rw,cH rfl,aA (.cons _ (.refl _)) (.refl _),rfl,a13,v13,hC13,bLf (by rw [bRd (by omega)])⟩
 refine wcp false rfl (eD h11) (go 6 ?_)
 by_cases h15:x.kind=4
 ·refine wcp true rfl (eR h15) (go 5 ?_)
  have hle:=congrArg List.length (bRh (m:=m) (x:=x) (by omega))
  refine go 2 ?_
  refine wcR 0 rfl call183 rfl (bPp x hs (by omega) ok2.2.2.1 (by have:=bOv m (x:=x) (by omega);omega) (by omega) _) ?_
  refine wo rfl (bDk bSq rfl (.cons rfl (.cons rfl .nil)) (r:=bP [(⟨#[103,111,32]⟩:ByteArray),(bytes (x.name.data.toList++dF x.args++[59]))]) rfl ?_)
  refine wo rfl (wcW rfl call115 rfl (bLe [(⟨#[103,111,32]⟩:ByteArray),(bytes (x.name.data.toList++dF x.args++[59]))] (_::A) B W m a v bs rw ha (Nat.le_of_ble_eq_true rfl) (by (try simp only [length_append,length_cons,length_nil,List.length_replicate]);omega)) (by simp) (fun b hb=>by simp [hb]) (fun _=>⟨by simp,fun b hb=>by simp [hb]⟩) fun a17 v17 hC17=>?_)
  refine go 2 ?_
  exact ⟨.inl rfl,_,WS A W m a17 v17 _ B rw,cH rfl,aA (.cons _ (.refl _)) (.refl _),rfl,a17,v17,hC17,bLf (by rw [bRh (by omega)])⟩
 refine wcp false rfl (eD h15) (go 6 ?_)
 by_cases h19:x.kind=5
 ·refine wcp true rfl (eR h19) (go 5 ?_)
  have hle:=congrArg List.length (bQ5 (m:=m) (x:=x) (by omega))
  refine go 3 ?_
  refine wcR 0 rfl call184 rfl (bM0 x.ref hsr (by omega) (ok1.ref (by omega)) _) ?_
  refine wo rfl (bDk bGy rfl (.cons rfl (.cons rfl (.cons rfl .nil))) (r:=bP [(⟨#[108,111,99,107,32]⟩:ByteArray),(bytes (dC x.ref)),(⟨#[59]⟩:ByteArray)]) rfl ?_)
  refine wo rfl (wcW rfl call115 rfl (bLe [(⟨#[108,111,99,107,32]⟩:ByteArray),(bytes (dC x.ref)),(⟨#[59]⟩:ByteArray)] (_::A) B W m a v bs rw ha (Nat.le_of_ble_eq_true rfl) (by (try simp only [length_append,length_cons,length_nil,List.length_replicate]);omega)) (by simp) (fun b hb=>by simp [hb]) (fun _=>⟨by simp,fun b hb=>by simp [hb]⟩) fun a21 v21 hC21=>?_)
  refine go 2 ?_
  exact ⟨.inl rfl,_,WS A W m a21 v21 _ B rw,cH rfl,aA (.cons _ (.refl _)) (.refl _),rfl,a21,v21,hC21,bLf (by rw [bQ5 (by omega)])⟩
 refine wcp false rfl (eD h19) (go 6 ?_)
 by_cases h23:x.kind=6
 ·refine wcp true rfl (eR h23) (go 5 ?_)
  have hle:=congrArg List.length (bQz (m:=m) (x:=x) (by omega))
  refine go 3 ?_
  refine wcR 0 rfl call184 rfl (bM0 x.ref hsr (by omega) (ok1.ref (by omega)) _) ?_
  refine wo rfl (bDk bGy rfl (.cons rfl (.cons rfl (.cons rfl .nil))) (r:=bP [(⟨#[117,110,108,111,99,107,32]⟩:ByteArray),(bytes (dC x.ref)),(⟨#[59]⟩:ByteArray)]) rfl ?_)
  refine wo rfl (wcW rfl call115 rfl (bLe [(⟨#[117,110,108,111,99,107,32]⟩:ByteArray),(bytes (dC x.ref)),(⟨#[59]⟩:ByteArray)] (_::A) B W m a v bs rw ha (Nat.le_of_ble_eq_true rfl) (by (try simp only [length_append,length_cons,length_nil,List.length_replicate]);omega)) (by simp) (fun b hb=>by simp [hb]) (fun _=>⟨by simp,fun b hb=>by simp [hb]⟩) fun a25 v25 hC25=>?_)
  refine go 2 ?_
  exact ⟨.inl rfl,_,WS A W m a25 v25 _ B rw,cH rfl,aA (.cons _ (.refl _)) (.refl _),rfl,a25,v25,hC25,bLf (by rw [bQz (by omega)])⟩
 refine wcp false rfl (eD h23) (go 6 ?_)
 by_cases h27:x.kind=9
 ·refine wcp true rfl (eR h27) (go 5 ?_)
  have hle:=congrArg List.length (bQm (m:=m) (x:=x) (by omega))
  refine go 1 ?_
  refine wo rfl (bDk bT4 rfl (.cons rfl .nil) (r:=bP [(⟨#[114,101,116,117,114,110,59]⟩:ByteArray)]) rfl ?_)
  refine wo rfl (wcW rfl call115 rfl (bLe [(⟨#[114,101,116,117,114,110,59]⟩:ByteArray)] (_::A) B W m a v bs rw ha (Nat.le_of_ble_eq_true rfl) (by (try simp only [length_append,length_cons,length_nil,List.length_replicate]);omega)) (by simp) (fun b hb=>by simp [hb]) (fun _=>⟨by simp,fun b hb=>by simp [hb]⟩) fun a29 v29 hC29=>?_)
  refine go 2 ?_
  exact ⟨.inl rfl,_,WS A W m a29 v29 _ B rw,cH rfl,aA (.cons _ (.refl _)) (.refl _),rfl,a29,v29,hC29,bLf (by rw [bQm (by omega)])⟩
 refine wcp false rfl (eD h27) (go 7 ?_)
 refine wo rfl (bO5 0 rfl call185 rfl (hco (by omega) (_::A) B W a v bs rw ha hb) (by simp) (fun b hb=>by simp [hb]) (fun _=>⟨by simp,fun b hb=>by simp [hb]⟩) fun a31 v31 hC31=>?_)
 refine go 2 ?_
 exact ⟨.inl rfl,_,WS A W m a31 v31 _ B rw,cH rfl,aA (.cons _ (.refl _)) (.refl _),rfl,a31,v31,hC31,rfl⟩
theorem bPn(x:aJ)(A B:List Box)(W m:Nat)(a:Option Addr)(v:Value)(bs:List UInt8)(rw:List bA)(ha:okA W a)(D:Nat)(hok:bK9 D x=true)(hs:x.sane)(hw:x.wt <= 9000000)(hm:m <= 1000)(hb:bs.length+(bY (tabs m) x).length <= 100000000000000)(hk:x.kind=7∨x.kind=8)(ih1:∀(A B:List Box) (W:Nat) (a:Option Addr) (v:Value) (bs:List UInt8) (rw:List bA) (ha:okA W a) (hb:bs.length+(aC (tabs (m+1)) x.thn).length <= 100000000000000),aL prog 118 [bK5 (pP W),.c (.sl x.thn.length (x.thn.flatMap encS))] (W::aY v) (WS A W m a v bs B rw) fun t s'=>t=.tup [] /\ ∃a' v',okA W a' /\ s'=WS A W m a' v' (bs++aC (tabs (m+1)) x.thn) B rw)(ih2:∀(A B:List Box) (W:Nat) (a:Option Addr) (v:Value) (bs:List UInt8) (rw:List bA) (ha:okA W a) (hb:bs.length+(aC (tabs (m+1)) x.els).length <= 100000000000000),aL prog 118 [bK5 (pP W),.c (.sl x.els.length (x.els.flatMap encS))] (W::aY v) (WS A W m a v bs B rw) fun t s'=>t=.tup [] /\ ∃a' v',okA W a' /\ s'=WS A W m a' v' (bs++aC (tabs (m+1)) x.els) B rw):aL prog 185 [bK5 (pP W),.agg (dG x)] (W::aY v) (WS A W m a v bs B rw) fun t s'=>t=.tup [] /\ ∃a' v',okA W a' /\ s'=WS A W m a' v' (bs++bY (tabs m) x) B rw:=by
 obtain ⟨hsn,hse,hsr,hsa,hst,hsf⟩:=yW hs
 have hw2:=hw
 rw [gD] at hw2
 unfold cY.wt at hw2
 have hal:=aCj x.args
 have ok1:=aHv hs hok
 have ok2:=bOo hok
 have hle:(bK6 m [bLl x,bytes (aP x.expr),⟨#[32,123]⟩]).length+(aC (tabs (m+1)) x.thn).length+(bK6 m [⟨#[125]⟩]).length+(if x.els.length=0 then 0 else (bK6 m [⟨#[125,32,101,108,115,101,32,123]⟩]).length+(aC (tabs (m+1)) x.els).length)=(bY (tabs m) x).length:=by
  by_cases he:x.els.length=0
  ·rw [if_pos he,←bPg hk he];(simp only [length_append];try omega)
  rw [if_neg he,←bPl hk he];(simp only [length_append];try omega)
 refine acB func185 rfl ?_
 show AWp prog _ ⟨33,W::aY v,⟨A++⟨W,135,[.val (.pointer a),.val v,nC m]⟩::B,⟨v,5,1,bs.length,iF bs⟩::rw⟩,[(0,bK5 (pP W)),(1,.agg (dG x))]⟩ _
 refine go 15 fun b1=>?_
 by_cases h1:x.kind=8
 ·refine wcp true rfl (eR h1) (go 9 ?_)
  refine eA 4 rfl (jX (show _=bLl x by unfold bLl;rw [if_pos (by omega)])) (go 4 ?_)
  refine wcR 0 rfl call182 rfl (bMz x.expr (by omega) hse (ok2.1 (by omega)) _) ?_
  refine wo rfl (bDk bGy rfl (.cons rfl (.cons rfl (.cons rfl .nil))) (r:=bP [(bLl x),(bytes (aP x.expr)),(⟨#[32,123]⟩:ByteArray)]) rfl ?_)
  refine wo rfl (wcW rfl call115 rfl (bLe [(bLl x),(bytes (aP x.expr)),(⟨#[32,123]⟩:ByteArray)] (_::A) B W m a v bs rw ha (Nat.le_of_ble_eq_true rfl) (by (try simp only [length_append,length_cons,length_nil,List.length_replicate]);omega)) (by simp) (fun b hb=>by simp [hb]) (fun _=>⟨by simp,fun b hb=>by simp [hb]⟩) fun a3 v3 hC3=>?_)
  refine go 7 ?_
  refine wo rfl (bO5 0 rfl call118 rfl (ih1 (_::A) B W a3 v3 (bs++bK6 m [(bLl x),(bytes (aP x.expr)),(⟨#[32,123]⟩:ByteArray)]) rw hC3 (by (try simp only [length_append,length_cons,length_nil,List.length_replicate]);omega)) (by simp) (fun b hb=>by simp [hb]) (fun _=>⟨by simp,fun b hb=>by simp [hb]⟩) fun a4 v4 hC4=>?_)
  refine go 8 ?_
  by_cases h5:(0:Int)<((x.els.length:Nat):Int)
  ·refine wcp true rfl (mH h5) (go 5 ?_)
   rw [if_neg (by omega)] at hle
   refine go 1 ?_
   refine wo rfl (bDk bT4 rfl (.cons rfl .nil) (r:=bP [(⟨#[125,32,101,108,115,101,32,123]⟩:ByteArray)]) rfl ?_)
   refine wo rfl (wcW rfl call115 rfl (bLe [(⟨#[125,32,101,108,115,101,32,123]⟩:ByteArray)] (_::A) B W m a4 v4 ((bs++bK6 m [(bLl x),(bytes (aP x.expr)),(⟨#[32,123]⟩:ByteArray)])++aC (tabs (m+1)) x.thn) rw hC4 (Nat.le_of_ble_eq_true rfl) (by (try simp only [length_append,length_cons,length_nil,List.length_replicate]);omega)) (by simp) (fun b hb=>by simp [hb]) (fun _=>⟨by simp,fun b hb=>by simp [hb]⟩) fun a7 v7 hC7=>?_)
   refine go 6 ?_
   refine wo rfl (bO5 0 rfl call118 rfl (ih2 (_::A) B W a7 v7 (((bs++bK6 m [(bLl x),(bytes (aP x.expr)),(⟨#[32,123]⟩:ByteArray)])++aC (tabs (m+1)) x.thn)++bK6 m [(⟨#[125,32,101,108,115,101,32,123]⟩:ByteArray)]) rw hC7 (by (try simp only [length_append,length_cons,length_nil,List.length_replicate]);omega)) (by simp) (fun b hb=>by simp [hb]) (fun _=>⟨by simp,fun b hb=>by simp [hb]⟩) fun a8 v8 hC8=>?_)
   refine go 4 ?_
   refine wo rfl (bDk bT4 rfl (.cons rfl .nil) (r:=bP [(⟨#[125]⟩:ByteArray)]) rfl ?_)
   refine wo rfl (wcW rfl call115 rfl (bLe [(⟨#[125]⟩:ByteArray)] (_::A) B W m a8 v8 ((((bs++bK6 m [(bLl x),(bytes (aP x.expr)),(⟨#[32,123]⟩:ByteArray)])++aC (tabs (m+1)) x.thn)++bK6 m [(⟨#[125,32,101,108,115,101,32,123]⟩:ByteArray)])++aC (tabs (m+1)) x.els) rw hC8 (Nat.le_of_ble_eq_true rfl) (by (try simp only [length_append,length_cons,length_nil,List.length_replicate]);omega)) (by simp) (fun b hb=>by simp [hb]) (fun _=>⟨by simp,fun b hb=>by simp [hb]⟩) fun a9 v9 hC9=>?_)
   refine go 1 ?_
   exact ⟨.inl rfl,_,WS A W m a9 v9 _ B rw,cH rfl,aA (.cons _ (.refl _)) (.refl _),rfl,a9,v9,hC9,bLf (by rw [←bPl hk (by omega)];try simp only [append_assoc])⟩
  refine wcp false rfl (mI h5) (go 7 ?_)
  refine wo rfl (bDk bT4 rfl (.cons rfl .nil) (r:=bP [(⟨#[125]⟩:ByteArray)]) rfl ?_)
  refine wo rfl (wcW rfl call115 rfl (bLe [(⟨#[125]⟩:ByteArray)] (_::A) B W m a4 v4 ((bs++bK6 m [(bLl x),(bytes (aP x.expr)),(⟨#[32,123]⟩:ByteArray)])++aC (tabs (m+1)) x.thn) rw hC4 (Nat.le_of_ble_eq_true rfl) (by (try simp only [length_append,length_cons,length_nil,List.length_replicate]);omega)) (by simp) (fun b hb=>by simp [hb]) (fun _=>⟨by simp,fun b hb=>by simp [hb]⟩) fun a11 v11 hC11=>?_)
  refine go 1 ?_
  exact ⟨.inl rfl,_,WS A W m a11 v11 _ B rw,cH rfl,aA (.cons _ (.refl _)) (.refl _),rfl,a11,v11,hC11,bLf (by rw [←bPg hk (by omega)];try simp only [append_assoc])⟩
 refine wcp false rfl (eD h1) (go 7 ?_)
 refine eA 4 rfl (jX (show _=bLl x by unfold bLl;rw [if_neg (by omega)])) (go 4 ?_)
 refine wcR 0 rfl call182 rfl (bMz x.expr (by omega) hse (ok2.1 (by omega)) _) ?_
 refine wo rfl (bDk bGy rfl (.cons rfl (.cons rfl (.cons rfl .nil))) (r:=bP [(bLl x),(bytes (aP x.expr)),(⟨#[32,123]⟩:ByteArray)]) rfl ?_)
 refine wo rfl (wcW rfl call115 rfl (bLe [(bLl x),(bytes (aP x.expr)),(⟨#[32,123]⟩:ByteArray)] (_::A) B W m a v bs rw ha (Nat.le_of_ble_eq_true rfl) (by (try simp only [length_append,length_cons,length_nil,List.length_replicate]);omega)) (by simp) (fun b hb=>by simp [hb]) (fun _=>⟨by simp,fun b hb=>by simp [hb]⟩) fun a13 v13 hC13=>?_)
 refine go 7 ?_
 refine wo rfl (bO5 0 rfl call118 rfl (ih1 (_::A) B W a13 v13 (bs++bK6 m [(bLl x),(bytes (aP x.expr)),(⟨#[32,123]⟩:ByteArray)]) rw hC13 (by (try simp only [length_append,length_cons,length_nil,List.length_replicate]);omega)) (by simp) (fun b hb=>by simp [hb]) (fun _=>⟨by simp,fun b hb=>by simp [hb]⟩) fun a14 v14 hC14=>?_)
 refine go 8 ?_
 by_cases h15:(0:Int)<((x.els.length:Nat):Int)
 ·refine wcp true rfl (mH h15) (go 5 ?_)
  rw [if_neg (by omega)] at hle
  refine go 1 ?_
  refine wo rfl (bDk bT4 rfl (.cons rfl .nil) (r:=bP [(⟨#[125,32,101,108,115,101,32,123]⟩:ByteArray)]) rfl ?_)
  refine wo rfl (wcW rfl call115 rfl (bLe [(⟨#[125,32,101,108,115,101,32,123]⟩:ByteArray)] (_::A) B W m a14 v14 ((bs++bK6 m [(bLl x),(bytes (aP x.expr)),(⟨#[32,123]⟩:ByteArray)])++aC (tabs (m+1)) x.thn) rw hC14 (Nat.le_of_ble_eq_true rfl) (by (try simp only [length_append,length_cons,length_nil,List.length_replicate]);omega)) (by simp) (fun b hb=>by simp [hb]) (fun _=>⟨by simp,fun b hb=>by simp [hb]⟩) fun a17 v17 hC17=>?_)
  refine go 6 ?_
  refine wo rfl (bO5 0 rfl call118 rfl (ih2 (_::A) B W a17 v17 (((bs++bK6 m [(bLl x),(bytes (aP x.expr)),(⟨#[32,123]⟩:ByteArray)])++aC (tabs (m+1)) x.thn)++bK6 m [(⟨#[125,32,101,108,115,101,32,123]⟩:ByteArray)]) rw hC17 (by (try simp only [length_append,length_cons,length_nil,List.length_replicate]);omega)) (by simp) (fun b hb=>by simp [hb]) (fun _=>⟨by simp,fun b hb=>by simp [hb]⟩) fun a18 v18 hC18=>?_)
  refine go 4 ?_
  refine wo rfl (bDk bT4 rfl (.cons rfl .nil) (r:=bP [(⟨#[125]⟩:ByteArray)]) rfl ?_)
  refine wo rfl (wcW rfl call115 rfl (bLe [(⟨#[125]⟩:ByteArray)] (_::A) B W m a18 v18 ((((bs++bK6 m [(bLl x),(bytes (aP x.expr)),(⟨#[32,123]⟩:ByteArray)])++aC (tabs (m+1)) x.thn)++bK6 m [(⟨#[125,32,101,108,115,101,32,123]⟩:ByteArray)])++aC (tabs (m+1)) x.els) rw hC18 (Nat.le_of_ble_eq_true rfl) (by (try simp only [length_append,length_cons,length_nil,List.length_replicate]);omega)) (by simp) (fun b hb=>by simp [hb]) (fun _=>⟨by simp,fun b hb=>by simp [hb]⟩) fun a19 v19 hC19=>?_)
  refine go 1 ?_
  exact ⟨.inl rfl,_,WS A W m a19 v19 _ B rw,cH rfl,aA (.cons _ (.refl _)) (.refl _),rfl,a19,v19,hC19,bLf (by rw [←bPl hk (by omega)];try simp only [append_assoc])⟩
 refine wcp false rfl (mI h15) (go 7 ?_)
 refine wo rfl (bDk bT4 rfl (.cons rfl .nil) (r:=bP [(⟨#[125]⟩:ByteArray)]) rfl ?_)
 refine wo rfl (wcW rfl call115 rfl (bLe [(⟨#[125]⟩:ByteArray)] (_::A) B W m a14 v14 ((bs++bK6 m [(bLl x),(bytes (aP x.expr)),(⟨#[32,123]⟩:ByteArray)])++aC (tabs (m+1)) x.thn) rw hC14 (Nat.le_of_ble_eq_true rfl) (by (try simp only [length_append,length_cons,length_nil,List.length_replicate]);omega)) (by simp) (fun b hb=>by simp [hb]) (fun _=>⟨by simp,fun b hb=>by simp [hb]⟩) fun a21 v21 hC21=>?_)
 refine go 1 ?_
 exact ⟨.inl rfl,_,WS A W m a21 v21 _ B rw,cH rfl,aA (.cons _ (.refl _)) (.refl _),rfl,a21,v21,hC21,bLf (by rw [←bPg hk (by omega)];try simp only [append_assoc])⟩
theorem bPc(tb:List UInt8)(l:List aJ)(k:Nat)(hk:k<l.length):(aC tb (l.take k)).length+(bY tb l[k]).length <= (aC tb l).length:=by
 have h1:=nQ tb l (k+1)
 rw [dX tb l k hk,length_append] at h1;exact h1
theorem bM2(l:List aJ)(A B:List Box)(W m:Nat)(a:Option Addr)(v:Value)(bs:List UInt8)(rw:List bA)(ha:okA W a)(hm:m <= 900)(hl:l.length <= 1000000000)(hb:bs.length+(aC (tabs (m+1)) l).length <= 100000000000000)(ih:∀k (h:k<l.length),∀(A B:List Box) (W:Nat) (a:Option Addr) (v:Value) (bs:List UInt8) (rw:List bA) (ha:okA W a) (hb:bs.length+(bY (tabs (m+1)) l[k]).length <= 100000000000000),aL prog 151 [bK5 (pP W),.agg (dG l[k])] (W::aY v) (WS A W (m+1) a v bs B rw) fun t s'=>t=.tup [] /\ ∃a' v',okA W a' /\ s'=WS A W (m+1) a' v' (bs++bY (tabs (m+1)) l[k]) B rw):aL prog 118 [bK5 (pP W),.c (.sl l.length (l.flatMap encS))] (W::aY v) (WS A W m a v bs B rw) fun t s'=>t=.tup [] /\ ∃a' v',okA W a' /\ s'=WS A W m a' v' (bs++aC (tabs (m+1)) l) B rw:=by
 refine acB func118 rfl ?_
 show AWp prog _ ⟨30,W::aY v,⟨A++⟨W,135,[.val (.pointer a),.val v,nC m]⟩::B,⟨v,5,1,bs.length,iF bs⟩::rw⟩,[(0,bK5 (pP W)),(1,.c (.sl l.length (l.flatMap encS)))]⟩ _
 refine go 6 ?_
 refine wyz rfl (fL (gQ (show ((m:Nat):Int)+1=((m+1:Nat):Int) by omega)) (bB rfl rfl rfl (by omega) (by omega))) (go 14 ?_)
 refine bMj (α:=Option Addr×Value) (fun k g=>okA W g.1) (l.length) 15 (fun g=>aY g.2++[W]) (fun k g=>WS A W (m+1) g.1 g.2 (bs++aC (tabs (m+1)) (l.take k)) B rw) (fun k=>[(0,bK5 (pP W)),(13,.c (.sl l.length (l.flatMap encS))),(14,nI l.length)]) (a,v) ha (bMm (.refl _) (.refl _) (bLf (A:=A) (by rw [List.take_zero,aC];exact (List.append_nil _).symm:bs=(bs++aC (tabs (m+1)) (l.take 0)))) (by intro x hx;simp only [mem_append,mem_cons,not_mem_nil,or_false] at hx⊢;rcases hx with hx|hx<;>simp [hx]) (sA rfl)) ?_
 rintro k ⟨a1,v1⟩ hk hC1
 dsimp only at hC1
 show AWp prog _ ⟨30,aY v1++[W],WS A W (m+1) a1 v1 (bs++aC (tabs (m+1)) (l.take k)) B rw,(15,nI k)::[(0,bK5 (pP W)),(13,.c (.sl l.length (l.flatMap encS))),(14,nI l.length)]⟩ _
 refine go 2 ?_
 by_cases h2:((k:Nat):Int)<((l.length:Nat):Int)
 ·refine wcp true rfl (jZ h2) (go 10 ?_)
  refine wyz rfl (bH encS dG l mE cJ k rfl rfl rfl rfl (by omega) (by decide) runUnderlying56 sizeOf78) (go 8 fun b1=>?_)
  refine wo rfl (bO5 0 rfl call151 rfl (ih k (by omega) (_::A) B W a1 v1 (bs++aC (tabs (m+1)) (l.take k)) rw hC1 (by have:=bPc (tabs (m+1)) l k (by omega);(try simp only [length_append]);omega)) (by simp) (fun b hb=>by simp [hb]) (fun _=>⟨by simp,fun b hb=>by simp [hb]⟩) fun a4 v4 hC4=>?_)
  refine go 4 ?_
  refine wad rfl (go 2 ?_)
  exact ⟨by omega,(a4,v4),hC4,bMm (.cons _ (.refl _)) (.refl _) (bLf (A:=A) (by rw [dX _ _ _ (by omega),append_assoc]:((bs++aC (tabs (m+1)) (l.take k))++bY (tabs (m+1)) l[k])=(bs++aC (tabs (m+1)) (l.take (k+1))))) (by intro x hx;simp only [mem_append,mem_cons,not_mem_nil,or_false] at hx⊢;rcases hx with hx|hx<;>simp [hx]) (aG rfl (gQ (by omega)) (sA rfl))⟩
 refine wcp false rfl (jQ h2) (go 10 ?_)
 obtain rfl:k=l.length:=by omega
 rw [List.take_length]
 refine go 4 ?_
 refine wyz rfl (fL (gQ (show ((m+1:Nat):Int)-1=((m:Nat):Int) by omega)) (qC rfl rfl rfl (by omega) (by omega))) (go 4 ?_)
 exact ⟨.inl rfl,_,WS A W m a1 v1 _ B rw,cH rfl,aA (.refl _) (.refl _),rfl,a1,v1,hC1,rfl⟩
end
end Go.Proofs.YtojinfngbbajgaaGreatDoor
