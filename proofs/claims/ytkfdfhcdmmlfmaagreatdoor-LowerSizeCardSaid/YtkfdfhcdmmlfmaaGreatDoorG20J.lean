import Derived.Test.YtkfdfhcdmmlfmaaGreatDoorG19J
set_option linter.all false
set_option synthInstance.maxHeartbeats 1000000
set_option synthInstance.maxSize 1000000
set_option maxHeartbeats 3200000
set_option maxRecDepth 100000
namespace Go.Proofs.YtkfdfhcdmmlfmaaGreatDoor
open Go.Proofs.Tryz
open List (length_append length_cons length_nil mem_append mem_cons not_mem_nil append_assoc getElem_mem take_of_length_le)
section
open Go.RowKit
structure cJ0 where
 globals:List Int
 mutexes:List cL
 procs:List cI1
 main:Nat
def cK1(u:cJ0):List AC:=[.sl u.globals.length (u.globals.map λx=>Vi x),Sq bT u.mutexes,Sq cF9 u.procs,nC u.main]
def cKk(p:cK):cJ0:=if (cFx p).2.2=0 then ⟨p.globals.map aI.init,p.mutexes,p.funcs.map (cGe p),(cFb (cFd p) cFl).n⟩ else ⟨[],[],[],0⟩
instance cNi{x:cI1}:mR (cF9 x) 5:=⟨rfl⟩
instance cMa{x:cI1}:iY (cF9 x) [Vs x.name,nC x.ints,nC x.locks,nC x.locals,Sq encI x.code]:=⟨rfl⟩
theorem cH3:∀{l:List cFc} {s:ByteArray} {v:cFc},cFa l s=some v -> v∈l
 |[],_,_,h=>DV
 |x::l,s,v,h=>by
  rw [cFa] at h;split at h
  ·cases h;exact List.mem_cons_self
  exact List.mem_cons_of_mem _ (cH3 h)
theorem cI9(p:cK):cHo p (cFd p):=by
 have h:∀v,v∈cFd p -> (v.kind=2 -> v.n<p.mutexes.length) /\ (v.kind=3 -> v.n<p.funcs.length):=λv hv=>by
  unfold cFd at hv
  rcases mem_append.1 hv with hv|hv
  ·obtain ⟨i,hi,rfl⟩:=List.mem_mapIdx.1 hv
   exact ⟨λh=>absurd h (by show ¬(1:Int)=2;decide),λh=>absurd h GQ⟩
  rcases mem_append.1 hv with hv|hv
  ·obtain ⟨i,hi,rfl⟩:=List.mem_mapIdx.1 hv
   exact ⟨λ_=>hi,λh=>absurd h GP⟩
  obtain ⟨i,hi,rfl⟩:=List.mem_mapIdx.1 hv
  exact ⟨λh=>absurd h (by show ¬(3:Int)=2;decide),λ_=>hi⟩
 exact ⟨λs v hf=>(h v (cH3 hf)).1,λs v hf=>(h v (cH3 hf)).2⟩
theorem cG1{p:cK}{f s:Int}{e:Nat}(h:cFx p=(f,s,e))(he:e≠0):cKk p=⟨[],[],[],0⟩:=by unfold cKk;rw [h,if_neg he]
theorem cLm{p:cK}(h:cFx p=(0,0,0)):cKk p=⟨p.globals.map aI.init,p.mutexes,p.funcs.map (cGe p),(cFb (cFd p) cFl).n⟩:=by unfold cKk;rw [h];rfl
theorem cJ9{α:Type}(f:α -> Int)(l:List α)(k:Nat)(h:k<l.length):((l.take k).map f).map (λx=>AC.val (.int .i64 x))++[AC.val (.int .i64 (f l[k]))]=((l.take (k+1)).map f).map λx=>AC.val (.int .i64 x):=by
 rw [List.take_succ_eq_append_getElem h,List.map_append,List.map_append];rfl
instance cN5{x:cJ0}:mR (cK1 x) 4:=⟨rfl⟩
instance cNj{x:cJ0}:iY (cK1 x) [.sl x.globals.length (x.globals.map λx=>Vi x),Sq bT x.mutexes,Sq cF9 x.procs,nC x.main]:=⟨rfl⟩
theorem cUt{bx:List Box}{rw rw':List bA}(h:rw'.Perm rw):aAz ⟨bx,rw⟩ ⟨bx,rw'⟩:=by
 intro w hm
 have hp:((⟨bx,rw'⟩:Sto).bl).Perm ((⟨bx,rw⟩:Sto).bl):=List.Perm.append (List.Perm.refl _) (h.flatMap_right _)
 have hu:Up2 (bI (⟨bx,rw⟩:Sto).bl w) (bI (⟨bx,rw'⟩:Sto).bl w):=up_sub λb hb=>hp.mem_iff.1 hb
 exact ⟨⟨hp.nodup_iff.2 hm.nodup,λb hb=>hm.lt b (hp.mem_iff.1 hb),λx hx=>let ⟨us,e,r⟩:=hm.box x hx;⟨us,e,r.mono hu⟩,λx hx=>let ⟨us,e,r⟩:=hm.row x (h.mem_iff.1 hx);⟨us,e,r.mono hu⟩⟩,λb hb=>hp.mem_iff.1 hb⟩
theorem cV6{P:Program}{ops:Array Oper}{l:List Oper}{n:Nat}{T:List Nat}{bx:List Box}{rw:List bA}{ts:List (Nat×AT)}{Q:Exit -> AS -> Prop}{a b:bA}(h:eQ P ops l ⟨n,T,⟨bx,b::a::rw⟩,ts⟩ Q):eQ P ops l ⟨n,T,⟨bx,a::b::rw⟩,ts⟩ Q:=uQ (vU (cUt (.swap _ _ _))) h
theorem cU9{l:Vis}{s:ByteArray}(h:bZu l s=none)(a:Int):(bZq l s a).length=l.length+1:=by
 induction l with
 |nil=>rfl
 |cons p l ih=>
  unfold bZu at h
  split at h
  ·cases h
  rename_i h1
  unfold bZq;rw [if_neg h1,length_cons,ih h,length_cons]
theorem MR.no_lk{gs ms fs lk lo:Vis}{l:List cFc}(m:MR gs ms fs lk lo l){s:ByteArray}(h:cFa l s=none):bZu lk s=none:=by rw [m.lk,h]
theorem MR.lkp{gs ms fs lk lo:Vis}{l:List cFc}(m:MR gs ms fs lk lo l){s:ByteArray}(h:cFa l s=none)(n:Nat):MR gs ms fs (bZq lk s ((n:Nat):Int)) lo (l++[⟨s,5,n⟩]):=by
 refine ⟨λt=>?_,λt=>?_,λt v hv hk=>?_,λt v hv hk=>?_,λt v hv hk=>?_⟩
 ·rw [cGu,m.lo t]
  by_cases e:s=t
  ·subst e;rw [h];dsimp only;rw [if_pos rfl];rfl
  rcases cFa l t with _|v
  ·dsimp only;rw [if_neg e]
  rfl
 ·rw [cBo,cGu,m.lk t]
  by_cases e:s=t
  ·subst e;rw [if_pos rfl,h];dsimp only;rw [if_pos rfl];rfl
  rw [if_neg e]
  rcases cFa l t with _|v
  ·dsimp only;rw [if_neg e]
  rfl
 all_goals
  rw [cGu] at hv
  rcases h1:cFa l t with _|u
  ·rw [h1] at hv;dsimp only at hv;split at hv
   ·cases hv;cases hk
   cases hv
  rw [h1] at hv
  obtain rfl:=Option.some.inj hv
  first|exact m.gs t u h1 hk|exact m.ms t u h1 hk|exact m.fs t u h1 hk
theorem cU7{ps:List aS}{l:List cFc}{i m k:Nat}{r:List cFc×Nat×Nat}(hk:k<ps.length)(h:cGd (ps.drop k) l i m=some r):
  cFa l ps[k].name=none /\ (ps[k].mutex=true -> cGd (ps.drop (k+1)) (l++[⟨ps[k].name,5,m⟩]) i (m+1)=some r) /\ (ps[k].mutex=false -> cGd (ps.drop (k+1)) (l++[⟨ps[k].name,4,i⟩]) (i+1) m=some r):=by
 rcases h0:cFa l ps[k].name with _|v
 ·exact ⟨Y,(cGt hk h).2 Hb⟩
 have:=(cGt hk h).1 Hb;cases this
theorem cUj{p:cK}{f:bS}(h:(cGk p f).1=0):∃l i m,cGd f.params (cFd p) 0 0=some (l,i,m) /\ (cFe p f.body (LS.init l i)).q.1=0:=by
 unfold cGk at h
 split at h
 ·cases h
 rename_i l i m h1;exact ⟨l,i,m,h1,h⟩
theorem cUn(A B:List Box)(D gg gm gf:Nat)(p:cK)(gs ms fs:Vis)(c3 c4 c5 c6 c7 c8:AC)(rw:List bA)(f:bS)(hM:MR gs ms fs [] [] (cFd p))(hgg:cR3 gg 0 evI gs∈rw)(hgm:cR3 gm 0 evI ms∈rw)(hgf:cR3 gf 0 evI fs∈rw)(hok:cHo p (cFd p))(hl:(cFd p).length <= 10000000)(hw:f.wt <= 20000000)(hkn:cSh f.body)(hE:(cGk p f).1=0):aL prog 53 [pP D,.agg (fV f)] [D] ⟨A++⟨D,127,[Vm gg,Vm gm,Vm gf,c3,c4,c5,c6,c7,c8]⟩::B,rw⟩ λt s'=>t=.agg (cF9 (cGe p f)) /\ ∃c3' c4' c5' c6' c8',s'=⟨A++⟨D,127,[Vm gg,Vm gm,Vm gf,c3',c4',c5',c6',.sl (cJl p f).length ((cJl p f).map λx=>Vi x),c8']⟩::B,rw⟩:=by
 have hwf:f.wt=1+f.params.length+wtS f.body:=Y
 refine acX 100 func53 ?_
 refine go 14 λb1 b2=>?_
 refine wo Y (cB3 0 (evI) Y Y V λgl=>?_)
 refine wo Y (cB3 0 (evI) Y Y V λgk=>?_)
 refine go 30 ?_
 obtain ⟨l1,i1,m1,hp1,hq1⟩:=cUj hE
 refine bMj (α:=List cFc×Nat×Nat×Vis×Vis) (λk g=>cGd (f.params.drop k) g.1 g.2.1 g.2.2.1=some (l1,i1,m1) /\ MR gs ms fs g.2.2.2.1 g.2.2.2.2 g.1 /\ KN g.2.2.2.2 /\ g.2.2.2.1.length=g.2.2.1 /\ g.2.1+g.2.2.1 <= k /\ g.1.length <= (cFd p).length+k /\ cHo p g.1) (f.params.length) 31 (λ_=>[gk,gl,b2,b1,D]) (λ_ g=>⟨⟨b2,51,[Vs aK,Vi 0,Vi 0,Vi 0,Nl]⟩::⟨b1,56,[Vs f.name,Sq cP f.params,Sq encS f.body]⟩::A++⟨D,127,[Vm gg,Vm gm,Vm gf,Vm gl,Vm gk,nC g.2.1,Nl,Nl,Vi 0]⟩::B,cR3 gk 0 evI g.2.2.2.1::cR3 gl 0 evI g.2.2.2.2::rw⟩) (λ_=>[(0,pP D),(3,pP b1),(4,pP b2),(29,.c (Sq cP f.params)),(30,nI f.params.length)]) (cFd p,0,0,[],[]) ⟨hp1,hM,List.Pairwise.nil,Y,Nat.le_refl _,Nat.le_refl _,hok⟩ (cQf AK) ?_
 rintro k ⟨l,i,m,lk,lo⟩ hk ⟨hpar,hM,hK,hlk,him,hll,hlo⟩
 dsimp only at hpar hM hK hlk him hll hlo
 try dsimp only
 refine go 2 ?_
 by_cases h1:((k:Nat):Int)<((f.params.length:Nat):Int)
 ·refine wcp true Y (jZ h1) (go 10 ?_)
  refine wyz Y (bH cP cP f.params gL (λ_=>Y) k Y Y Y Y J V runUnderlying53 sizeOf106) (go 7 λb5=>?_)
  have hkp:k<f.params.length:=J
  have hps:=cU7 hkp hpar
  refine go 2 ?_
  rcases Bool.eq_false_or_eq_true (f.params[k].mutex) with h3|h3
  ·refine wyz Y (fL (bZ h3)) (go 4 ?_)
   refine bTy 11 [b5,b2,b1,D,gl,gk] [] #[true,true,true,true,true,true,true,true,true,true,true,false] B6 B6 B6 ?_
   refine tz [(0,true),(1,true),(2,true),(3,true),(4,true),(5,true),(6,true),(7,true),(8,true),(9,true)] 1 (go 11 ?_)
   refine tx 10 Y (cTu (m:=0) (ev:=evI) lk Y Y G0 cB9 underlying125 Cf) ?_
   refine ax ?_
   refine id ?_
   refine ox 11 Y Y (cAt lk [] Y Y Y Y Y underlying125 underlying9 G0 Dc ?_)
   refine ax (go 6 ?_)
   refine wad Y (go 2 ?_)
   exact ⟨J,(l++[⟨f.params[k].name,5,m⟩],i,m+1,bZq lk f.params[k].name ((lk.length:Nat):Int),lo),⟨hps.2.1 h3,(by dsimp only;rw [hlk];exact hM.lkp hps.1 m),hK,by show (bZq _ _ _).length=m+1;rw [cU9 (hM.no_lk hps.1),hlk],by dsimp only;omega,AN,hlo.app (by show (5:Int)≠2;decide) (by show (5:Int)≠3;decide)⟩,cQf (h1:=(.cons _ (.refl _))) (h:=aG Y (gQ J) (sA Y)) AK⟩
  refine wyz Y (fL (bZ h3)) (go 6 ?_)
  refine bTy 10 [b5,b2,b1,D,gl,gk] [] #[true,true,true,true,true,true,true,true,true,true,false] B6 B6 B6 ?_
  refine tz [(0,true),(1,true),(2,true),(3,true),(4,true),(5,true),(6,true),(7,true),(8,true),(9,true)] 0 (go 11 ?_)
  refine ax ?_
  refine id ?_
  refine ox 10 Y Y (cAt lo [_] Y Y Y Y Y underlying125 underlying9 G0 Dc ?_)
  refine ax (go 6 ?_)
  refine wad Y (go 2 ?_)
  refine eA 62 Y (t:=nI (i+1)) (gQ J) (go 5 ?_)
  refine wad Y (go 2 ?_)
  exact ⟨J,(l++[⟨f.params[k].name,4,i⟩],i+1,m,lk,bZq lo f.params[k].name ((i:Nat):Int)),⟨hps.2.2 h3,hM.var hps.1 i,hK.put _ _,hlk,by dsimp only;omega,AN,hlo.app (by show (4:Int)≠2;decide) Cu⟩,cQf (h1:=(.cons _ (.refl _))) (h:=aG Y (gQ J) (sA Y)) AK⟩
 refine wcp false Y (jQ h1) (go 10 ?_)
 refine dx [b2,b1,D,gk,gl] (tz [(0,true),(1,true),(2,true),(3,true),(4,true),(5,true),(6,true),(7,true),(8,true),(9,true)] 4 (go 11 ?_))
 refine tx 10 Y (cTu (m:=0) (ev:=evI) lk Y Y G0 cB9 underlying125 Cf) ?_
 refine tx 11 Y (id <|aNs Tryz.t51 [(0,1),(1,1),(2,1),(3,1),(4,1)] Y (.cons Y (.cons Y (.cons Y .nil))) underlying51 B6 Y B6 Y Y) ?_
 refine cJ4 77 Y (Wk.refl _:Wk _ (.agg [Vs f.name,nC i,nC lk.length,Vi 0,Nl])) ?_
 refine ox 12 Y Y (id <|jK Y Y V zeroValue51 Y λb6=>?_)
 refine ox 13 Y Y (id <|cVt Y Y Y Y Y sizeOf51 Y (Nat.le_of_ble_eq_true Y) (zC Y) G0 G8 ?_)
 refine ax (go 3 ?_)
 obtain rfl:k=f.params.length:=J
 have hpl:cGd f.params (cFd p) 0 0=some (l,i,m):=by rw [hp1,←hpar,List.drop_eq_nil_of_le (Nat.le_refl _),cGd]
 obtain ⟨rfl,rfl,rfl⟩:l1=l /\ i1=i /\ m1=m:=by rw [hp1] at hpl;cases hpl;exact ⟨rfl,rfl,rfl⟩
 refine cV6 ?_
 refine bR3 3 1 ?_
 refine bR3 64 12 ?_
 refine go 3 ?_
 have hlk2:RmL p (LS.init l1 i1) (wtS f.body+1):=⟨hlo,by show 0+_ <= _;omega,Y,by show 0+_ <= _;omega,by show i1+_ <= _;omega,by show l1.length+_ <= _;omega⟩
 have hbk:=cH2 p f.body (LS.init l1 i1) 1 hlk2
 have hW4:MW4 gg gm gf gk gs ms fs lk (cR3 gk 0 evI lk::rw):=⟨by simp [hgg],by simp [hgm],DT,G0⟩
 refine wo Y (cU1 Y Y V call86 Y (cTe _ f.body (Nat.le_refl _) hkn (_::_::_::A) B D gg gm gf gk gl p (LS.init l1 i1) gs ms fs lk lo (.slice none 0 0) (.slice none 0 0) (cR3 gk 0 evI lk::rw) hM hW4 hK (hlk2.mono J) hq1) G0 G0 Bc Bc (λ_=>⟨G0,G0,Bc,Bc⟩) λvc7 vs7 lo7 hp7=>?_)
 refine go 10 ?_
 refine eA 87 Y ((Wk.agg (.r (.r (.r (.r (.r (.r (.n (.r (.r (.n (.n (.n .nil))))))))))))):Wk _ (.agg (encI (opI 8 .zero)))) ?_
 have hz8:(cRs p f.body (LS.init l1 i1)).code.length <= 100000000 /\ (cRs p f.body (LS.init l1 i1)).sites.length=(cRs p f.body (LS.init l1 i1)).code.length:=⟨by have:=hbk.code;omega,hbk.sites⟩
 refine wo Y (wcL Y Y V call87 Y (cSa (_::_::_::A) B D gg gm gf gk gl (cRs p f.body (LS.init l1 i1)) vc7 vs7 _ (opI 8 .zero) (cRs p f.body (LS.init l1 i1)).n hz8.1 hz8.2) G0 cFh.h cFh.h Bj λvc8 vs8=>?_)
 refine go 3 ?_
 refine dx [b2,b1,D] (tz [(0,true),(1,true),(2,true),(3,true),(4,true),(5,true),(6,true),(7,true),(8,true),(9,false),(10,true),(11,false)] 0 (go 13 ?_))
 refine ax (go 2 ?_)
 refine cKs (cs':=[Vs f.name,nC i1,nC lk.length,Vi ((((cRs p f.body (LS.init l1 i1)).put (opI 8 .zero) (cRs p f.body (LS.init l1 i1)).n).locals:Nat):Int),.sl ((cRs p f.body (LS.init l1 i1)).put (opI 8 .zero) (cRs p f.body (LS.init l1 i1)).n).code.length (((cRs p f.body (LS.init l1 i1)).put (opI 8 .zero) (cRs p f.body (LS.init l1 i1)).n).code.flatMap encI)]) [] 4 Y Y ?_
 refine cKs (cs':=[Vm gg,Vm gm,Vm gf,Vm gl,Vm gk,Vi ((((cRs p f.body (LS.init l1 i1)).put (opI 8 .zero) (cRs p f.body (LS.init l1 i1)).n).locals:Nat):Int),.val vc8,.sl ((cRs p f.body (LS.init l1 i1)).put (opI 8 .zero) (cRs p f.body (LS.init l1 i1)).n).sites.length (((cRs p f.body (LS.init l1 i1)).put (opI 8 .zero) (cRs p f.body (LS.init l1 i1)).n).sites.map λx=>Vi x),Vi ((((cRs p f.body (LS.init l1 i1)).put (opI 8 .zero) (cRs p f.body (LS.init l1 i1)).n).n:Nat):Int)]) (_::_::_::A) 7 Y Y ?_
 refine go 6 ?_
 subst hlk
 exact ⟨.inr Y,_,⟨A++⟨D,127,[Vm gg,Vm gm,Vm gf,Vm gl,Vm gk,(Vi ((((cRs p f.body (LS.init l1 i1)).put (opI 8 .zero) (cRs p f.body (LS.init l1 i1)).n).locals:Nat):Int)),.val vc8,.sl ((cRs p f.body (LS.init l1 i1)).put (opI 8 .zero) (cRs p f.body (LS.init l1 i1)).n).sites.length (((cRs p f.body (LS.init l1 i1)).put (opI 8 .zero) (cRs p f.body (LS.init l1 i1)).n).sites.map λx=>Vi x),(Vi ((((cRs p f.body (LS.init l1 i1)).put (opI 8 .zero) (cRs p f.body (LS.init l1 i1)).n).n:Nat):Int))]⟩::B,rw⟩,aR Y (aO [_] Y Y isAgg51 sizeOf51 (bK Y Y)),aA (.cons _ (.cons _ (.cons _ (.refl _)))) (.cons _ (.cons _ (.refl _))),by unfold cGe;rw [hp1];rfl,_,_,_,_,_,by unfold cJl;rw [hp1];rfl⟩
end
section
theorem cJi:∀(ow:List ByteArray)(v:Vis),KN v -> KN (ow.foldl bZy v) /\ (∀s,s∈ow -> bZp (ow.foldl bZy v) s=0) /\ ∀s,s∉ow -> bZp (ow.foldl bZy v) s=bZp v s
 |[],v,h=>⟨h,λs hs=>absurd hs not_mem_nil,λs _=>rfl⟩
 |k::ow,v,h=>by
  obtain ⟨h1,h2,h3⟩:=cJi ow (bZy v k) (h.del k)
  refine ⟨h1,λs hs=>?_,λs hs=>?_⟩
  ·rw [List.foldl_cons]
   by_cases hm:s∈ow
   ·exact h2 s hm
   rw [h3 s hm,cCs h]
   rcases mem_cons.1 hs with rfl|hs
   ·rw [if_pos rfl]
   exact absurd hs hm
  simp only [mem_cons,not_or] at hs
  rw [List.foldl_cons,h3 s hs.2,cCs h,if_neg (λe=>hs.1 e.symm)]
theorem cIf{fs:Fns}{r:Nat×List ByteArray×RS}{v:Vis}(h0:r.1=0)(hk:KN r.2.2.vis)(h1:∀q,q∈r.2.1 -> bZp v q=0)(h2:∀q,q∉r.2.1 -> bZp r.2.2.vis q=bZp v q):KN (cA7 r).2.vis /\ ∀q,bZp (cA7 r).2.vis q=bZp v q:=by
 obtain ⟨d1,d2,d3⟩:=cJi r.2.1 r.2.2.vis hk
 unfold cA7
 rw [if_pos h0]
 refine ⟨d1,λq=>?_⟩
 by_cases hm:q∈r.2.1
 ·rw [h1 q hm];exact d2 q hm
 rw [←h2 q hm];exact d3 q hm
theorem cHi(r:Nat×List ByteArray×RS):(cA7 r).1=r.1:=by unfold cA7;split<;>simp_all
theorem cK9(r:Nat×List ByteArray×RS):(cA7 r).2.at_=r.2.2.at_:=by unfold cA7;split<;>rfl
mutual
theorem cKc(fs:Fns):∀(s:aJ)(x:RS),KN x.vis -> (bZ4 fs s x).1=0 -> KN (bZ4 fs s x).2.vis /\ (∀q,(s.kind=1 -> s.name≠q) -> bZp (bZ4 fs s x).2.vis q=bZp x.vis q) /\ (s.kind=1 -> bZp x.vis s.name=0)
 |.mk k name e r args t f,x,hk,h=>by
  have hb:KN (cAy (.mk k name e r args t f) x).vis /\ ∀q,(k=1 -> name≠q) -> bZp (cAy (.mk k name e r args t f) x).vis q=bZp x.vis q:=by
   show KN (if k=1 then bZq x.vis name 1 else x.vis) /\ ∀q,_ -> bZp (if k=1 then bZq x.vis name 1 else x.vis) q=_
   by_cases h1:k=1
   ·rw [if_pos h1];exact ⟨hk.put _ _,λq hq=>by rw [cAl,if_neg (hq h1)]⟩
   rw [if_neg h1];exact ⟨hk,λq _=>rfl⟩
  rw [bZ4] at h⊢
  by_cases hp:bZ5 x.vis fs (.mk k name e r args t f)=0
  ·rw [if_pos hp] at h⊢
   by_cases ht:(cA7 (bZr fs t [] (cAy (.mk k name e r args t f) x))).1=0
   ·rw [if_pos ht] at h⊢
    obtain ⟨a1,a2,a3⟩:=cGw fs t [] _ hb.1 (by rw [←cHi];exact ht)
    obtain ⟨b1,b2⟩:=cIf (fs:=fs) (by rw [←cHi];exact ht) a1 (λq hq=>(a2 q hq).resolve_left not_mem_nil) a3
    obtain ⟨c1,c2,c3⟩:=cGw fs f [] _ b1 (by rw [←cHi];exact h)
    obtain ⟨d1,d2⟩:=cIf (fs:=fs) (by rw [←cHi];exact h) c1 (λq hq=>(c2 q hq).resolve_left not_mem_nil) c3
    refine ⟨d1,λq hq=>by rw [d2,b2];exact hb.2 q hq,λh1=>?_⟩
    have h1:k=1:=h1
    have hp:(if k=1 then (if bZp x.vis name=0 then _ else 5) else _)=0:=hp
    rw [if_pos h1] at hp
    split at hp
    ·rename_i h9;exact h9
    cases hp
   rw [if_neg ht] at h;exact absurd h ht
  rw [if_neg hp] at h;exact absurd h hp
theorem cGw(fs:Fns):∀(l:List aJ)(own:List ByteArray)(x:RS),KN x.vis -> (bZr fs l own x).1=0 -> KN (bZr fs l own x).2.2.vis /\ (∀q,q∈(bZr fs l own x).2.1 -> q∈own∨bZp x.vis q=0) /\ (∀q,q∉(bZr fs l own x).2.1 -> bZp (bZr fs l own x).2.2.vis q=bZp x.vis q)
 |[],own,x,hk,_=>by rw [bZr];exact ⟨hk,λq hq=>.inl hq,λq _=>rfl⟩
 |s::l,own,x,hk,h=>by
  rw [bZr] at h⊢
  by_cases h0:(bZ4 fs s x).1=0
  ·rw [if_pos h0] at h⊢
   obtain ⟨a1,a2,a3⟩:=cKc fs s x hk h0
   obtain ⟨b1,b2,b3⟩:=cGw fs l (cCp s own) _ a1 h
   have hsub:=cIw fs l (cCp s own) (bZ4 fs s x).2
   refine ⟨b1,λq hq=>?_,λq hq=>?_⟩
   ·by_cases hn:s.kind=1 /\ s.name=q
    ·obtain ⟨hn1,rfl⟩:=hn
     exact .inr (a3 hn1)
    have hn':s.kind=1 -> s.name≠q:=λh1 h2=>hn ⟨h1,h2⟩
    rcases b2 q hq with h9|h9
    ·unfold cCp at h9
     split at h9
     ·rename_i h1
      rcases mem_append.1 h9 with h9|h9
      ·exact .inl h9
      exact absurd (List.mem_singleton.1 h9).symm (hn' h1)
     exact .inl h9
    rw [a2 q hn'] at h9;exact .inr h9
   rw [b3 q hq]
   refine a2 q λh1 h2=>hq (hsub q ?_)
   unfold cCp;rw [if_pos h1,←h2];simp
  rw [if_neg h0] at h;exact absurd h h0
theorem cIw(fs:Fns):∀(l:List aJ)(own:List ByteArray)(x:RS),∀q,q∈own -> q∈(bZr fs l own x).2.1
 |[],own,x,q,hq=>by rw [bZr];exact hq
 |s::l,own,x,q,hq=>by
  rw [bZr]
  split
  ·exact cIw fs l _ _ q (by unfold cCp;split<;>simp [hq])
  exact hq
end
theorem cG7.same{p:cK}{fs:Fns}{v v':Vis}{l:List cFc}(h:cG7 p fs v l)(hk:KN v')(hv:∀q,bZp v' q=bZp v q):cG7 p fs v' l:=⟨hk,λs=>by rw [hv];exact h.get s,h.fn⟩
theorem cG7.put{p:cK}{fs:Fns}{v:Vis}{l:List cFc}(h:cG7 p fs v l){s:ByteArray}(h0:bZp v s=0){x:cFc}(hx:x.name=s){a:Int}(ha:cFr p x=a)(h3:x.kind≠3):cG7 p fs (bZq v s a) (l++[x]):=by
 have hn:cFa l s=none:=by
  have h1:=h.get s
  rw [h0] at h1
  rcases hf:cFa l s with _|y
  ·rfl
  rw [hf] at h1;exact absurd h1.symm (cGv p y)
 refine ⟨h.kn.put _ _,λq=>?_,λq y hf hy=>?_⟩
 ·rw [cAl,cGu]
  by_cases hq:s=q
  ·subst hq
   rw [if_pos rfl,hn];dsimp only;rw [if_pos hx];exact ha.symm
  rw [if_neg hq,h.get q]
  rcases cFa l q with _|y
  ·dsimp only;rw [if_neg (by rw [hx];exact hq)]
  rfl
 rw [cGu] at hf
 split at hf
 ·rename_i hf2;cases hf;exact h.fn q _ hf2 hy
 split at hf
 ·cases hf;exact absurd hy h3
 cases hf
structure cIc (p:cK) (fs:Fns) (x:RS) (y:LS):Prop where
 rel:cG7 p fs x.vis y.ents
 n:x.n=y.n
 q:y.q.1=0
def Step(p:cK)(fs:Fns)(e:Nat)(x':RS)(y':LS):Prop:=(e=0 -> cIc p fs x' y') /\ (e≠0 -> y'.q=(e,x'.at_))
end
section
section
variable {p:cK}{fs:Fns}
theorem cIc.mod{x:RS}{y y':LS}(h:cIc p fs x y)(h1:y'.ents=y.ents)(h2:y'.n=y.n)(h3:y'.q=y.q):cIc p fs x y':=⟨by rw [h1];exact h.rel,by rw [h2];exact h.n,by rw [h3];exact h.q⟩
theorem Step.mod{e:Nat}{x:RS}{y y':LS}(h:Step p fs e x y)(h1:y'.ents=y.ents)(h2:y'.n=y.n)(h3:y'.q=y.q):Step p fs e x y':=⟨λh0=>(h.1 h0).mod h1 h2 h3,λh0=>by rw [h3];exact h.2 h0⟩
theorem cHh{l:List aJ}{x:RS}{y:LS}(hS:Step p fs (bZr fs l [] x).1 (bZr fs l [] x).2.2 (cFe p l y))(he:cIc p fs x y):Step p fs (cA7 (bZr fs l [] x)).1 (cA7 (bZr fs l [] x)).2 (cRs p l y):=by
 refine ⟨λh0=>?_,λh0=>?_⟩
 ·rw [cHi] at h0
  have h1:=hS.1 h0
  obtain ⟨a1,a2,a3⟩:=cGw fs l [] x he.rel.kn h0
  obtain ⟨b1,b2⟩:=cIf (fs:=fs) h0 a1 (λq hq=>(a2 q hq).resolve_left not_mem_nil) a3
  exact ⟨he.rel.same b1 b2,by rw [cCd];exact h1.n,h1.q⟩
 rw [cHi] at h0⊢
 rw [cK9];exact hS.2 h0
theorem cIe(x:RS):cA7 (bZr fs [] [] x)=(0,x):=by rw [bZr];rfl
theorem cKr{s:aJ}{x:RS}{y:LS}(he:cIc p fs x y)(h1:s.kind≠1)(e:aH)(hq:cFf y.ents e=0):cIc p fs (cAy s x) (y.branch e):=by
 have hv:(cAy s x).vis=x.vis:=by show (if s.kind=1 then _ else x.vis)=_;rw [if_neg h1]
 refine ⟨by rw [hv];exact he.rel,by show x.n+1=y.n+1;rw [he.n],?_⟩
 show (cFg y.q (cFf y.ents e) y.n).1=0
 rw [hq,cGg];exact he.q
mutual
theorem cKz:∀(s:aJ)(x:RS)(y:LS),shS s -> cIc p fs x y -> Step p fs (bZ4 fs s x).1 (bZ4 fs s x).2 (cFs p s y)
 |.mk k name e r args t f,x,y,hsh,he=>by
  rw [shS] at hsh
  obtain ⟨h5,ha,ht,hf,hst,hsf⟩:=hsh
  have hp:bZ5 x.vis fs (.mk k name e r args t f)=cIu p y.ents (.mk k name e r args t f):=cLy he.rel _ h5 ha
  have hbq:∀e0,cFf y.ents e=e0 -> (y.branch e).q=cFg y.q e0 y.n:=λe0 h=>by show cFg y.q (cFf y.ents e) y.n=_;rw [h]
  rw [bZ4]
  by_cases h0:bZ5 x.vis fs (.mk k name e r args t f)=0
  ·rw [if_pos h0]
   rw [hp] at h0
   by_cases h78:k=7∨k=8
   ·have hex:cFf y.ents e=0:=by
     have h9:(if k=1 then _ else if k=2 then _ else if k=5∨k=6 then _ else if k=3∨k=4 then _ else if k=7∨k=8 then cFf y.ents e else 0)=0:=h0
     rw [if_neg J,if_neg J,if_neg J,if_neg J,if_pos h78] at h9;exact h9
    have hbe:cIc p fs (cAy (.mk k name e r args t f) x) (y.branch e):=cKr he Ha e hex
    have HT:=cHh (cHp t [] _ _ hst hbe) hbe
    rw [cFs]
    by_cases hT:(cA7 (bZr fs t [] (cAy (.mk k name e r args t f) x))).1=0
    ·rw [if_pos hT]
     have hE1:=HT.1 hT
     by_cases h7:k=7
     ·rw [if_pos h7]
      by_cases hfl:f.length=0
      ·obtain rfl:=List.length_eq_zero_iff.1 hfl
       rw [if_pos hfl,cIe]
       exact ⟨λ_=>hE1.mod Y Y Y,λh=>absurd Y h⟩
      rw [if_neg hfl]
      have hE2:cIc p fs (cA7 (bZr fs t [] (cAy (.mk k name e r args t f) x))).2 ((((y.branch e).back (cFe p t (y.branch e))).put (opI 7 .zero) y.n).patch y.code.length):=hE1.mod Y Y Y
      have HF:=cHh (cHp f [] _ _ hsf hE2) hE2
      exact HF.mod Y Y Y
     rw [if_neg h7,if_pos (J:k=8)]
     obtain rfl:=hf h7
     rw [cIe]
     exact ⟨λ_=>hE1.mod Y Y Y,λh=>absurd Y h⟩
    rw [if_neg hT]
    have hq:=HT.2 hT
    refine ⟨λh=>absurd h hT,λ_=>?_⟩
    have hne:(cRs p t (y.branch e)).q.1≠0:=by rw [hq];exact hT
    by_cases h7:k=7
    ·rw [if_pos h7]
     by_cases hfl:f.length=0
     ·rw [if_pos hfl];exact hq
     rw [if_neg hfl]
     show (cFe p f _).q=_
     rw [cF5 p f _ (by show (cFe p t (y.branch e)).q.1≠0;exact hne)];exact hq
    rw [if_neg h7,if_pos (J:k=8)];exact hq
   ·have h7:k≠7:=λh=>h78 (.inl h)
    have h8:k≠8:=λh=>h78 (.inr h)
    obtain rfl:=ht h7 h8
    obtain rfl:=hf h7
    rw [cIe];dsimp only
    rw [if_pos rfl,cIe,cFs,if_neg h7,if_neg h8]
    obtain ⟨s1,s2,s3⟩:=cIr p (.mk k name e r args [] []) y h7 h8
    refine ⟨λ_=>⟨?_,by rw [s2];show x.n+1=_;rw [he.n],by rw [s1,h0,cGg];exact he.q⟩,λh=>absurd Y h⟩
    rw [s3]
    show cG7 p fs (if k=1 then bZq x.vis name 1 else x.vis) (if k=1 then y.ents++[⟨name,4,y.locals⟩] else y.ents)
    by_cases h1:k=1
    ·rw [if_pos h1,if_pos h1]
     have h9:(if k=1 then cFj (cFv y.ents name) (cFf y.ents e) else _)=0:=h0
     rw [if_pos h1] at h9
     have hd:cFv y.ents name=0:=by unfold cFj at h9;split at h9<;>assumption
     have hn:cFa y.ents name=none:=by
      unfold cFv at hd
      rcases hfd:cFa y.ents name with _|z
      ·rfl
      rw [hfd] at hd;cases hd
     exact he.rel.put (s:=name) (x:=⟨name,4,y.locals⟩) (a:=1) (by rw [he.rel.get,hn];rfl) Y (by unfold cFr;rw [if_pos (.inr rfl)]) Cu
    rw [if_neg h1,if_neg h1];exact he.rel
  rw [if_neg h0]
  refine ⟨λh=>absurd h h0,λ_=>?_⟩
  rw [hp] at h0⊢
  show (cFs p _ y).q=(cIu p y.ents _,(x.n:Int))
  rw [he.n]
  by_cases h78:k=7∨k=8
  ·have hpe:cIu p y.ents (.mk k name e r args t f)=cFf y.ents e:=by
    show (if k=1 then _ else if k=2 then _ else if k=5∨k=6 then _ else if k=3∨k=4 then _ else if k=7∨k=8 then cFf y.ents e else 0)=_
    rw [if_neg J,if_neg J,if_neg J,if_neg J,if_pos h78]
   rw [hpe] at h0⊢
   have hb:(y.branch e).q=(cFf y.ents e,(y.n:Int)):=cJf he.q h0 _
   have hne:(y.branch e).q.1≠0:=by rw [hb];exact h0
   have hq:(cFe p t (y.branch e)).q=(cFf y.ents e,(y.n:Int)):=by rw [cF5 p t _ hne,hb]
   rw [cFs]
   by_cases h7:k=7
   ·rw [if_pos h7]
    by_cases hfl:f.length=0
    ·rw [if_pos hfl];exact hq
    rw [if_neg hfl]
    show (cFe p f _).q=_
    rw [cF5 p f _ (by show (cFe p t (y.branch e)).q.1≠0;rw [hq];exact h0)];exact hq
   rw [if_neg h7,if_pos (J:k=8)];exact hq
  ·have h7:k≠7:=λh=>h78 (.inl h)
   have h8:k≠8:=λh=>h78 (.inr h)
   rw [cFs,if_neg h7,if_neg h8,(cIr p (.mk k name e r args t f) y h7 h8).1]
   exact cJf he.q h0 _
theorem cHp:∀(l:List aJ)(own:List ByteArray)(x:RS)(y:LS),cId l -> cIc p fs x y -> Step p fs (bZr fs l own x).1 (bZr fs l own x).2.2 (cFe p l y)
 |[],own,x,y,_,he=>by rw [bZr,cFe];exact ⟨λ_=>he,λh=>absurd rfl h⟩
 |s::l,own,x,y,hsh,he=>by
  rw [cId] at hsh
  have h1:=cKz s x y hsh.1 he
  rw [bZr,cFe]
  by_cases h0:(bZ4 fs s x).1=0
  ·rw [if_pos h0];exact cHp l _ _ _ hsh.2 (h1.1 h0)
  rw [if_neg h0]
  refine ⟨λh=>absurd h h0,λ_=>?_⟩
  have hq:=h1.2 h0
  rw [cF5 p l _ (by rw [hq];exact h0)];exact hq
end
end
end
section
section
variable {p:cK}{fs:Fns}
theorem cKl:∀(ps:List aS)(v:Vis)(l:List cFc)(i m:Nat),cG7 p fs v l -> (cGd ps l i m=none -> (bZv ps v).1=false) /\ ∀l' i' m',cGd ps l i m=some (l',i',m') -> (bZv ps v).1=true /\ cG7 p fs (bZv ps v).2 l'
 |[],v,l,i,m,h=>by
  rw [cGd,bZv]
  exact ⟨λh=>DV,λl' i' m' e=>by cases e;exact ⟨rfl,h⟩⟩
 |x::r,v,l,i,m,h=>by
  rw [cGd,bZv,h.get x.name]
  rcases hf:cFa l x.name with _|y
  ·have hz:bZp v x.name=0:=by rw [h.get,hf];rfl
   rw [if_neg V,if_pos (show cH8 p none=0 from rfl)]
   by_cases hm:x.mutex=true
   ·rw [if_pos hm]
    have hs:cAw x=4:=if_pos hm
    rw [hs]
    exact cKl r _ _ i (m+1) (h.put (s:=x.name) (x:=⟨x.name,5,m⟩) (a:=4) hz Y (by unfold cFr;rfl) (by show (5:Int)≠3;decide))
   rw [if_neg hm]
   have hs:cAw x=1:=if_neg hm
   rw [hs]
   exact cKl r _ _ (i+1) m (h.put (s:=x.name) (x:=⟨x.name,4,i⟩) (a:=1) hz Y (by unfold cFr;rfl) Cu)
  rw [if_pos Fs,if_neg (show ¬cH8 p (some y)=0 from cGv p y)]
  exact ⟨λ_=>Y,λl' i' m' e=>by cases e⟩
theorem cIh:∀(ps:List aS)(v:Vis),KN v -> (bZv ps v).1=true -> KN (bZv ps v).2 /\ (∀x,x∈ps -> bZp v x.name=0) /\ ∀q,(∀x,x∈ps -> x.name≠q) -> bZp (bZv ps v).2 q=bZp v q
 |[],v,hk,_=>⟨hk,λx hx=>absurd hx not_mem_nil,λq _=>rfl⟩
 |x::r,v,hk,h=>by
  rw [bZv] at h⊢
  by_cases h0:bZp v x.name=0
  ·rw [if_pos h0] at h⊢
   obtain ⟨a1,a2,a3⟩:=cIh r _ (hk.put _ _) h
   refine ⟨a1,λy hy=>?_,λq hq=>?_⟩
   ·rcases mem_cons.1 hy with rfl|hy
    ·exact h0
    have h9:=a2 y hy
    rw [cAl] at h9
    split at h9
    ·unfold cAw at h9;split at h9<;>cases h9
    exact h9
   rw [a3 q λy hy=>hq y (List.mem_cons_of_mem _ hy),cAl,if_neg (hq x List.mem_cons_self)]
  rw [if_neg h0] at h;cases h
theorem cI7:∀(ps:List aS)(v:Vis),KN v -> KN (cAk ps v) /\ (∀x,x∈ps -> bZp (cAk ps v) x.name=0) /\ ∀q,(∀x,x∈ps -> x.name≠q) -> bZp (cAk ps v) q=bZp v q
 |[],v,h=>⟨h,λx hx=>absurd hx not_mem_nil,λs _=>rfl⟩
 |y::ps,v,h=>by
  obtain ⟨h1,h2,h3⟩:=cI7 ps (bZy v y.name) (h.del y.name)
  have e:cAk (y::ps) v=cAk ps (bZy v y.name):=Y
  refine ⟨h1,λx hx=>?_,λq hq=>?_⟩
  ·rw [e]
   by_cases hm:∃z,z∈ps /\ z.name=x.name
   ·obtain ⟨z,hz,hn⟩:=hm
    rw [←hn];exact h2 z hz
   rw [h3 _ (λz hz hn=>hm ⟨z,hz,hn⟩),cCs h]
   rcases mem_cons.1 hx with rfl|hx
   ·rw [if_pos rfl]
   exact absurd ⟨x,hx,Y⟩ hm
  rw [e,h3 q λz hz=>hq z (List.mem_cons_of_mem _ hz),cCs h,if_neg (hq y List.mem_cons_self)]
theorem cL4{f:bS}{v:Vis}(h:cG7 p fs v (cFd p))(hsh:cId f.body):(cAe fs f v).1=(cGk p f).1 /\ ((cAe fs f v).1≠0 -> (cAe fs f v).2.at_=(cGk p f).2) /\ ((cAe fs f v).1=0 -> cG7 p fs (cAe fs f v).2.vis (cFd p)):=by
 obtain ⟨p1,p2⟩:=cKl f.params v (cFd p) 0 0 h
 unfold cAe cGk
 rcases hq:cGd f.params (cFd p) 0 0 with _|⟨l,i,m⟩
 ·rw [p1 hq,if_neg V]
  exact ⟨Y,λ_=>Y,λh=>DV⟩
 obtain ⟨q1,q2⟩:=p2 l i m hq
 rw [q1,if_pos rfl]
 have he:cIc p fs ⟨(bZv f.params v).2,0,-1⟩ (LS.init l i):=⟨q2,Y,Y⟩
 have hb:Step p fs (bZ2 fs f.body ⟨(bZv f.params v).2,0,-1⟩).1 (bZ2 fs f.body ⟨(bZv f.params v).2,0,-1⟩).2 (cRs p f.body (LS.init l i)):=cHh (cHp f.body [] _ _ hsh he) he
 have hbq:(cJg p f l i).q=(cRs p f.body (LS.init l i)).q:=Y
 dsimp only
 rw [hbq]
 by_cases h0:(bZ2 fs f.body ⟨(bZv f.params v).2,0,-1⟩).1=0
 ·have hE:=hb.1 h0
  refine ⟨by rw [h0];exact hE.q.symm,λh=>absurd h0 h,λ_=>?_⟩
  obtain ⟨a1,a2,a3⟩:=cIh f.params v h.kn q1
  have h0':=h0
  unfold bZ2 at h0'
  rw [cHi] at h0'
  obtain ⟨b1,b2,b3⟩:=cGw fs f.body [] _ q2.kn h0'
  obtain ⟨c1,c2⟩:=cIf (fs:=fs) h0' b1 (λq hq=>(b2 q hq).resolve_left not_mem_nil) b3
  obtain ⟨d1,d2,d3⟩:=cI7 f.params _ c1
  refine h.same d1 λq=>?_
  by_cases hm:∃x,x∈f.params /\ x.name=q
  ·obtain ⟨x,hx,rfl⟩:=hm
   rw [a2 x hx];exact d2 x hx
  have hm':∀x,x∈f.params -> x.name≠q:=λx hx hn=>hm ⟨x,hx,hn⟩
  rw [←a3 q hm',←c2 q];exact d3 q hm'
 have hq2:=hb.2 h0
 rw [hq2]
 exact ⟨Y,λ_=>Y,λh=>absurd h h0⟩
theorem cKp:∀(l:List bS)(i:Nat)(v:Vis),cG7 p fs v (cFd p) -> (∀f,f∈l -> cId f.body) -> cAg fs l i v=cGh p l i
 |[],i,v,_,_=>rfl
 |f::r,i,v,h,hs=>by
  obtain ⟨b1,b2,b3⟩:=cL4 h (hs f List.mem_cons_self)
  rw [cAg,cGh,←b1]
  by_cases h0:(cAe fs f v).1=0
  ·rw [if_pos h0,if_pos h0];exact cKp r (i+1) _ (b3 h0) λg hg=>hs g (List.mem_cons_of_mem _ hg)
  rw [if_neg h0,if_neg h0,b2 h0]
end
theorem cLg{p:cK}:∀(es:List cFc)(v:Vis)(l:List cFc),KN v -> (∀s,bZp v s=cH8 p (cFa l s)) -> (∀i,cG0 l es=some i -> (bZz (es.map λx=>(x.name,cFr p x)) v l.length).1=some i) /\ (cG0 l es=none -> (bZz (es.map λx=>(x.name,cFr p x)) v l.length).1=none /\ KN (bZz (es.map λx=>(x.name,cFr p x)) v l.length).2 /\ ∀s,bZp (bZz (es.map λx=>(x.name,cFr p x)) v l.length).2 s=cH8 p (cFa (l++es) s))
 |[],v,l,hk,hg=>by
  rw [cG0]
  exact ⟨λi h=>DV,λ_=>⟨Y,hk,λs=>by rw [List.append_nil];exact hg s⟩⟩
 |x::es,v,l,hk,hg=>by
  rw [cG0,List.map_cons,bZz,hg x.name]
  rcases hf:cFa l x.name with _|y
  ·rw [if_neg V,if_pos (show cH8 p none=0 from rfl)]
   have hr:∀s,bZp (bZq v x.name (cFr p x)) s=cH8 p (cFa (l++[x]) s):=λs=>by
    rw [cAl,cGu]
    by_cases hq:x.name=s
    ·subst hq;rw [if_pos rfl,hf];dsimp only;rw [if_pos rfl];rfl
    rw [if_neg hq,hg s]
    rcases cFa l s with _|z
    ·dsimp only;rw [if_neg hq]
    rfl
   have h9:=cLg es _ (l++[x]) (hk.put _ _) hr
   rw [length_append,append_assoc] at h9
   exact h9
  rw [if_pos Fs,if_neg (show ¬cH8 p (some y)=0 from cGv p y)]
  exact ⟨λi h=>h,λh=>DV⟩
theorem cKv(p:cK):bZs p=(cFd p).map λx=>(x.name,cFr p x):=by
 unfold bZs cFd
 rw [List.map_append,List.map_append]
 congr 1
 ·apply List.ext_getElem
  ·simp
  intro i h1 h2;simp [cFr]
 congr 1
 ·apply List.ext_getElem
  ·simp
  intro i h1 h2
  simp only [List.length_map] at h1
  simp only [List.getElem_map,List.getElem_mapIdx]
  unfold cFr cAr
  rw [cGz h1];rfl
 apply List.ext_getElem
 ·simp
 intro i h1 h2;simp [cFr]
end
section
theorem cIt:∀{l:List cFc} {s:ByteArray} {v:cFc},cFa l s=some v -> v∈l /\ v.name=s
 |[],_,_,h=>DV
 |x::l,s,v,h=>by
  rw [cFa] at h;split at h
  ·rename_i hx;cases h;exact ⟨List.mem_cons_self,hx⟩
  exact ⟨List.mem_cons_of_mem _ (cIt h).1,(cIt h).2⟩
theorem cI6:∀{l:List cFc} {x:cFc},(l.map cFc.name).Nodup -> x∈l -> cFa l x.name=some x
 |[],_,_,h=>absurd h not_mem_nil
 |y::l,x,hd,h=>by
  simp only [List.map_cons,List.nodup_cons] at hd
  rw [cFa]
  rcases mem_cons.1 h with rfl|h
  ·rw [if_pos rfl]
  rw [if_neg (λe=>hd.1 (by rw [e];exact List.mem_map_of_mem h))];exact cI6 hd.2 h
theorem cIm:∀(es l:List cFc),cG0 l es=none -> (es.map cFc.name).Nodup /\ ∀x,x∈es -> cFa l x.name=none
 |[],l,_=>⟨G0,λx hx=>absurd hx not_mem_nil⟩
 |x::es,l,h=>by
  rw [cG0] at h
  rcases hf:cFa l x.name with _|y
  ·rw [hf,if_neg V] at h
   obtain ⟨h1,h2⟩:=cIm es _ h
   have h3:∀y,y∈es -> cFa l y.name=none /\ x.name≠y.name:=λy hy=>by
    have h9:=h2 y hy
    rw [cGu] at h9
    split at h9
    ·cases h9
    rename_i h8
    exact ⟨h8,λe=>by rw [if_pos e] at h9;cases h9⟩
   refine ⟨?_,λy hy=>?_⟩
   ·simp only [List.map_cons,List.nodup_cons]
    refine ⟨λhm=>?_,h1⟩
    obtain ⟨y,hy,e⟩:=List.mem_map.1 hm
    exact (h3 y hy).2 e.symm
   rcases mem_cons.1 hy with rfl|hy
   ·exact hf
   exact (h3 y hy).1
  rw [hf,if_pos Fs] at h;cases h
theorem cIy:∀(l:List bS)(m:Fns)(s:ByteArray),s∉l.map bS.name -> bZu (l.foldl (λm f=>bZq m f.name f) m) s=bZu m s
 |[],m,s,_=>rfl
 |f::l,m,s,h=>by
  simp only [List.map_cons,mem_cons,not_or] at h
  rw [List.foldl_cons,cIy l _ s h.2,cBo,if_neg (λe=>h.1 e.symm)]
theorem cJj:∀(l:List bS)(m:Fns),(l.map bS.name).Nodup -> ∀f,f∈l -> bZu (l.foldl (λm f=>bZq m f.name f) m) f.name=some f
 |[],_,_,f,h=>absurd h not_mem_nil
 |g::l,m,hd,f,h=>by
  simp only [List.map_cons,List.nodup_cons] at hd
  rw [List.foldl_cons]
  rcases mem_cons.1 h with rfl|h
  ·rw [cIy l _ _ hd.1,cBo,if_pos rfl]
  exact cJj l _ hd.2 f h
theorem cJx:∀(l:List bS)(m:Fns)(s:ByteArray)(f:bS),bZu (l.foldl (λm f=>bZq m f.name f) m) s=some f -> (f∈l /\ f.name=s)∨bZu m s=some f
 |[],m,s,f,h=>.inr h
 |g::l,m,s,f,h=>by
  rw [List.foldl_cons] at h
  rcases cJx l _ s f h with h|h
  ·exact .inl ⟨List.mem_cons_of_mem _ h.1,h.2⟩
  rw [cBo] at h
  split at h
  ·rename_i hg;cases h;exact .inl ⟨List.mem_cons_self,hg⟩
  exact .inr h
theorem cK7{p:cK}{x:cFc}(h:x∈cFd p)(h3:x.kind=3):∃(i:Nat) (hi:i<p.funcs.length),x=⟨p.funcs[i].name,3,i⟩:=by
 unfold cFd at h
 rcases mem_append.1 h with h|h
 ·obtain ⟨i,hi,rfl⟩:=List.mem_mapIdx.1 h
  exact absurd h3 GQ
 rcases mem_append.1 h with h|h
 ·obtain ⟨i,hi,rfl⟩:=List.mem_mapIdx.1 h
  exact absurd h3 GP
 obtain ⟨i,hi,rfl⟩:=List.mem_mapIdx.1 h
 exact ⟨i,hi,Y⟩
theorem cK0{p:cK}{f:bS}(h:f∈p.funcs):∃i:Nat,(⟨f.name,3,i⟩:cFc)∈cFd p:=by
 obtain ⟨i,hi,rfl⟩:=List.getElem_of_mem h
 refine ⟨i,?_⟩
 unfold cFd
 exact List.mem_append_right _ (List.mem_append_right _ (List.mem_mapIdx.2 ⟨i,hi,Y⟩))
theorem cKg{p:cK}(h:((cFd p).map cFc.name).Nodup):(p.funcs.map bS.name).Nodup:=by
 unfold cFd at h
 rw [List.map_append,List.map_append] at h
 have h1:=(List.nodup_append.1 (List.nodup_append.1 h).2.1).2.1
 have e:(p.funcs.mapIdx λi f=>(⟨f.name,3,i⟩:cFc)).map cFc.name=p.funcs.map bS.name:=by
  apply List.ext_getElem
  ·simp
  intro i h1 h2;simp
 rw [e] at h1;exact h1
section
variable {p:cK}(hn:((cFd p).map cFc.name).Nodup)
include hn
theorem cKw(s:ByteArray)(x:cFc)(hf:cFa (cFd p) s=some x)(h3:x.kind=3):∃f,bZu (bZ7 p.funcs) s=some f /\ cGc p x.n=f.params:=by
 obtain ⟨h1,h2⟩:=cIt hf
 obtain ⟨i,hi,rfl⟩:=cK7 h1 h3
 refine ⟨p.funcs[i],?_,cHc hi⟩
 rw [←h2];exact cJj p.funcs [] (cKg hn) _ (getElem_mem hi)
theorem cLi(s:ByteArray)(h:∀x,cFa (cFd p) s=some x -> x.kind≠3):bZu (bZ7 p.funcs) s=none:=by
 rcases hl:bZu (bZ7 p.funcs) s with _|f
 ·rfl
 exfalso
 rcases cJx p.funcs [] s f hl with ⟨h1,h2⟩|h1
 ·obtain ⟨i,hi⟩:=cK0 h1
  have h9:=cI6 hn hi
  exact h _ (by rw [←h2];exact h9) Y
 cases h1
theorem cL8:cA9 p=cHa p:=by
 unfold cA9 cHa
 rw [show cCg=cFl from rfl]
 rcases hf:cFa (cFd p) cFl with _|x
 ·rw [cLi hn cFl (λx h=>by rw [hf] at h;cases h)]
 by_cases h3:x.kind=3
 ·obtain ⟨f,h1,h2⟩:=cKw hn cFl x hf h3
  rw [h1];dsimp only;rw [h2,decide_eq_true h3,Bool.true_and]
 rw [cLi hn cFl (λy h=>by rw [hf] at h;cases h;exact h3)];dsimp only;rw [decide_eq_false h3,Bool.false_and]
end
theorem cLp(p:cK):cAb p=cFx p:=by
 unfold cAb cFx
 by_cases hv:jI p=false
 ·rw [if_pos hv,if_pos hv]
 rw [if_neg hv,if_neg hv,cKv]
 obtain ⟨d1,d2⟩:=cLg (p:=p) (cFd p) [] [] (by unfold KN;simp) (λs=>rfl)
 rw [length_nil] at d1 d2
 rcases hb:cG0 [] (cFd p) with _|i
 ·obtain ⟨e1,e2,e3⟩:=d2 hb
  rw [e1];dsimp only
  obtain ⟨hn,-⟩:=cIm _ _ hb
  rw [cL8 hn]
  by_cases hm:cHa p=true
  ·rw [if_pos hm,if_pos hm]
   refine cKp p.funcs 0 _ ⟨e2,λs=>by rw [e3];rfl,cKw hn⟩ λf hf=>?_
   have hvt:jI p=true:=by simpa using hv
   rw [nX,Bool.and_eq_true] at hvt
   exact cJd 0 f.body (aJv hvt.1 f hf).1
  rw [if_neg hm,if_neg hm]
 rw [d1 i hb]
end
section
theorem cSl{α:Type}(nm:α -> ByteArray)(l:List α)(hd:(l.map nm).Nodup):∀k,k <= l.length -> ∀i (h:i<l.length),i<k -> bZu (cR5 nm l k) (nm l[i])=some ((i:Nat):Int)
 |0,_,i,_,hi=>absurd hi (Nat.not_lt_zero i)
 |k+1,hk,i,h,hi=>by
  rw [←cSk nm l k J,cBo]
  by_cases e:i=k
  ·subst e;rw [if_pos rfl]
  rw [if_neg,cSl nm l hd k J i h J]
  have:=List.pairwise_iff_getElem.1 hd i k (by rw [List.length_map];omega) (by rw [List.length_map];omega) J
  rw [List.getElem_map,List.getElem_map] at this
  exact λh=>this h.symm
theorem cTn:∀{l:List cFc} {s:ByteArray} {v:cFc},cFa l s=some v -> v.name=s
 |[],_,_,h=>DV
 |x::l,s,v,h=>by
  rw [cFa] at h;split at h
  ·rename_i h1;cases h;exact h1
  exact cTn h
theorem cUe(p:cK):(cFd p).map cFc.name=p.globals.map aI.name++(p.mutexes.map cL.name++p.funcs.map bS.name):=by
 have e:∀{α:Type} (f:Nat -> α -> cFc) (nm:α -> ByteArray) (h:∀i a,(f i a).name=nm a) (l:List α),(l.mapIdx f).map cFc.name=l.map nm:=λf nm h l=>by
  apply List.ext_getElem G0
  intro i h1 h2
  simp [h]
 unfold cFd
 rw [List.map_append,List.map_append,e _ aI.name (λ_ _=>rfl),e _ cL.name (λ_ _=>rfl),e _ bS.name (λ_ _=>rfl)]
theorem cT1{p:cK}{v:cFc}(h:v∈cFd p):(∃i,∃(h:i<p.globals.length),v=⟨p.globals[i].name,1,i⟩)∨(∃i,∃(h:i<p.mutexes.length),v=⟨p.mutexes[i].name,2,i⟩)∨∃i,∃(h:i<p.funcs.length),v=⟨p.funcs[i].name,3,i⟩:=by
 unfold cFd at h
 rcases mem_append.1 h with h|h
 ·obtain ⟨i,hi,rfl⟩:=List.mem_mapIdx.1 h;exact .inl ⟨i,hi,rfl⟩
 rcases mem_append.1 h with h|h
 ·obtain ⟨i,hi,rfl⟩:=List.mem_mapIdx.1 h;exact .inr (.inl ⟨i,hi,rfl⟩)
 obtain ⟨i,hi,rfl⟩:=List.mem_mapIdx.1 h;exact .inr (.inr ⟨i,hi,rfl⟩)
theorem cU6{p:cK}(hb:cG0 [] (cFd p)=none):MR (cR5 aI.name p.globals p.globals.length) (cR5 cL.name p.mutexes p.mutexes.length) (cR5 bS.name p.funcs p.funcs.length) [] [] (cFd p):=by
 have hn:=(cIm _ _ hb).1
 rw [cUe] at hn
 obtain ⟨h1,h23,-⟩:=List.nodup_append.1 hn
 obtain ⟨h2,h3,-⟩:=List.nodup_append.1 h23
 have no:∀(k:Int)(hk:k=4∨k=5)(s:ByteArray),(none:Option Int)=(match cFa (cFd p) s with|some v=>if v.kind=k then some ((v.n:Nat):Int) else none|none=>none):=λk hk s=>by
  rcases hf:cFa (cFd p) s with _|v
  ·rfl
  dsimp only
  rw [if_neg]
  rcases cT1 (cH3 hf) with ⟨i,hi,rfl⟩|⟨i,hi,rfl⟩|⟨i,hi,rfl⟩
  ·show ¬(1:Int)=k;omega
  ·show ¬(2:Int)=k;omega
  show ¬(3:Int)=k;omega
 refine ⟨no 4 (.inl Y),no 5 (.inr Y),λs v hv hk=>?_,λs v hv hk=>?_,λs v hv hk=>?_⟩
 all_goals
  have hs:=cTn hv
  rcases cT1 (cH3 hv) with ⟨i,hi,rfl⟩|⟨i,hi,rfl⟩|⟨i,hi,rfl⟩
 ·subst hs;exact cSl aI.name p.globals h1 _ (Nat.le_refl _) i hi hi
 ·exact absurd hk (by show ¬(2:Int)=1;decide)
 ·exact absurd hk (by show ¬(3:Int)=1;decide)
 ·exact absurd hk (by show ¬(1:Int)=2;decide)
 ·subst hs;exact cSl cL.name p.mutexes h2 _ (Nat.le_refl _) i hi hi
 ·exact absurd hk (by show ¬(3:Int)=2;decide)
 ·exact absurd hk GQ
 ·exact absurd hk GP
 subst hs;exact cSl bS.name p.funcs h3 _ (Nat.le_refl _) i hi hi
theorem cTr{p:cK}(h:cFx p=(0,0,0)):jI p=true /\ MR (cR5 aI.name p.globals p.globals.length) (cR5 cL.name p.mutexes p.mutexes.length) (cR5 bS.name p.funcs p.funcs.length) [] [] (cFd p) /\ (∀f,f∈p.funcs -> (cGk p f).1=0 /\ cSh f.body) /\ bZp (cR5 bS.name p.funcs p.funcs.length) cFl=(((cFb (cFd p) cFl).n:Nat):Int):=by
 obtain ⟨h1,h2,h3,h4⟩:=cTy h
 have hm:=cU6 h2
 refine ⟨h1,hm,λf hf=>⟨h4 f hf,?_⟩,?_⟩
 ·have hv:=h1
  unfold jI at hv
  simp only [Bool.and_eq_true] at hv
  have h5:=List.all_eq_true.1 hv.1.2 f hf
  unfold gW at h5
  simp only [Bool.and_eq_true] at h5
  exact cT4 0 f.body h5.1.2
 unfold cHa at h3
 unfold bZp cFb
 rcases hf:cFa (cFd p) cFl with _|v
 ·rw [hf] at h3;cases h3
 rw [hf] at h3
 simp only [Bool.and_eq_true,decide_eq_true_eq] at h3
 rw [hm.fs _ v hf h3.1];rfl
end
end Go.Proofs.YtkfdfhcdmmlfmaaGreatDoor
