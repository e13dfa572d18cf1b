import Derived.Test.YtjgeihmhppadaaaGreatDoorG16J
import Derived.Test.YtjgeihmhppadaaaGreatDoorG14J
set_option linter.all false
set_option synthInstance.maxHeartbeats 1000000
set_option synthInstance.maxSize 1000000
set_option maxHeartbeats 3200000
set_option maxRecDepth 100000
namespace Go.Proofs.YtjgeihmhppadaaaGreatDoor
open Go.Proofs.Tryz
open List (length_append length_cons length_nil mem_append mem_cons not_mem_nil append_assoc getElem_mem take_of_length_le)
section
open Go.RowKit
theorem aA6{r:cY}(hs:r.sane)(h:okRefB r=true):(dC r).length <= r.wt*2000000:=by
 obtain ⟨h1,h2,h3⟩:=xE h
 have h4:=nL h1
 unfold cY.wt
 rcases h2 with h2|h2
 ·rw [aCa h2];omega
 have h0:0<r.index.length:=J
 have h5:=nM r.index 0 h0
 have h6:=tU (mV _ hs.2 _ (getElem_mem h0)) (kR (h3 _ (getElem_mem h0)))
 rw [wI h0];simp only [length_append,length_cons,length_nil];omega
theorem aAp:∀(l:List eN),(∀a,a∈l -> a.sane) -> (∀a,a∈l -> fY a=true) -> (bW dE l).length <= wtA l*2000010
 |[],_,_=>FE
 |a::l,hs,h=>by
  have h1:=aAp l (λx hx=>hs x (by simp [hx])) (λx hx=>h x (by simp [hx]))
  have h2:(dE a).length+2 <= a.wt*2000010:=by
   have h3:=xN (h a G0)
   have h4:=hs a G0
   unfold eN.wt
   cases hm:a.mutex with
   |true=>rw [pD hm];have:=aA6 h4.1 (h3.1 hm);simp only [length_append,length_cons,length_nil];omega
   |false=>rw [oZ hm];have:=tU h4.2 (kR (h3.2 hm));omega
  have h5:(bW dE (a::l)).length <= (dE a).length+2+(bW dE l).length:=by
   cases l with
   |nil=>simp [bW]
   |cons b r=>simp [bW];omega
  rw [wtA];omega
theorem oJ:∀(N D:Nat)(l:List aJ)(tabs:List UInt8),wtS l <= N -> bM D l=true -> gC l -> tabs.length <= D+1 -> (aC tabs l).length <= wtS l*3000000
 |_,_,[],_,_,_,_,_=>by rw [aC];simp
 |0,D,s::l,tabs,hw,_,_,_=>by rw [wtS,gD] at hw;omega
 |N+1,D,s::l,tabs,hw,hok,hs,ht=>by
  have hD:=iL D _ hok
  rw [bM,Bool.and_eq_true] at hok
  rw [gC] at hs
  rw [wtS,gD] at hw
  have ok:=aHv hs.1 hok.1
  have h1:=oJ (N+1) D l tabs J hok.2 hs.2 ht
  have ht1:(tabs++[(9:UInt8)]).length <= D+1+1:=DR
  have hE:(s.kind=1∨s.kind=2∨s.kind=7∨s.kind=8) -> (aP s.expr).length <= s.expr.nodes*2000000:=λh=>tU ok.saneE (ok.expr h)
  have hR:(s.kind=5∨s.kind=6) -> (dC s.ref).length <= s.ref.wt*2000000:=λh=>aA6 ok.saneR (ok.ref h)
  have hA:(dF s.args).length <= wtA s.args*2000010+2:=by have:=aAp s.args ok.saneA ok.args;unfold dF;simp only [length_append,length_cons,length_nil];omega
  have hT:(s.kind=7∨s.kind=8) -> (aC (tabs++[9]) s.thn).length <= wtS s.thn*3000000:=λh=>oJ N (D+1) s.thn (tabs++[9]) J (ok.thn h) ok.saneT ht1
  have hF:(if s.els.length=0 then ([]:List UInt8) else [32,101,108,115,101,32,123,10]++aC (tabs++[9]) s.els++tabs++[125]).length <= wtS s.els*3000000+40:=by
   rcases ok.els with h|h
   ·rw [if_pos h];simp
   have:=oJ N (D+1) s.els (tabs++[9]) J h ok.saneF ht1
   split
   ·simp
   simp only [length_append,length_cons,length_nil];omega
  have hn:(1 <= s.kind /\ s.kind <= 4) -> s.name.data.toList.length <= 16:=λh=>by
   have h2:=hok.1
   obtain ⟨k,n,e,r,a,t,f⟩:=s
   rw [bK9] at h2
   simp only [Bool.and_eq_true] at h2
   have h3:=h2.1.1.1.1.1.1.2
   have h:1 <= k /\ k <= 4:=h
   rw [if_pos h] at h3
   exact nL h3
  have hs1:(bY tabs s).length <= s.wt*3000000:=by
   rw [gD]
   have hk:s.kind=1∨s.kind=2∨s.kind=3∨s.kind=4∨s.kind=5∨s.kind=6∨s.kind=7∨s.kind=8∨(¬s.kind=1 /\ ¬s.kind=2 /\ ¬s.kind=3 /\ ¬s.kind=4 /\ ¬s.kind=5 /\ ¬s.kind=6 /\ ¬s.kind=7 /\ ¬s.kind=8):=J
   rcases hk with h|h|h|h|h|h|h|h|h
   ·have:=hE J;have:=hn J;rw [tP h];simp only [length_append,length_cons,length_nil];omega
   ·have:=hE J;have:=hn J;rw [tT h];simp only [length_append,length_cons,length_nil];omega
   ·have:=hn J;rw [tZ h];simp only [length_append,length_cons,length_nil];omega
   ·have:=hn J;rw [tH h];simp only [length_append,length_cons,length_nil];omega
   ·have:=hR J;rw [uD h];simp only [length_append,length_cons,length_nil];omega
   ·have:=hR J;rw [tI h];simp only [length_append,length_cons,length_nil];omega
   ·have:=hE J;have:=hT J;rw [pU h];simp only [length_append,length_cons,length_nil] at hF⊢;omega
   ·have:=hE J;have:=hT J;rw [pV h];simp only [length_append,length_cons,length_nil] at hF⊢;omega
   rw [uB h];simp only [length_append,length_cons,length_nil];omega
  rw [aC,wtS,length_append];omega
theorem sH{α:Type}(f:α -> List UInt8)(g:α -> Nat)(c:Nat):∀l:List α,(∀x,x∈l -> (f x).length <= g x*c) -> ((l.map f).flatten).length <= (l.map g).sum*c
 |[],_=>G0
 |x::r,h=>by
  have h1:=sH f g c r Gu
  have h2:=h x G0
  simp only [List.map_cons,List.flatten_cons,length_append,List.sum_cons,Nat.add_mul];omega
theorem aO9{α:Type}(l:List α):(l.map λ_=>1).sum=l.length:=by induction l with|nil=>rfl|cons a l ih=>simp [ih];omega
theorem aAd{p:cK}(hs:p.sane)(h:nY p=true):(cR p).length <= p.wt*3000000:=by
 unfold nY at h
 simp only [Bool.and_eq_true] at h
 obtain ⟨⟨⟨-,hg⟩,hm⟩,hf⟩:=h
 have h1:=sH aU (λ_=>1) 3000000 p.globals (λg hgm=>by
  have h2:=List.all_eq_true.1 hg g hgm
  unfold gH at h2
  rw [Bool.and_eq_true] at h2
  have h3:=nL h2.1
  have h4:=pS (hs.globals g hgm).1
  unfold aU;split<;>(simp only [length_append,length_cons,length_nil];omega))
 have h2:=sH bE (λ_=>1) 3000000 p.mutexes (λm hmm=>by
  have h2:=List.all_eq_true.1 hm m hmm
  unfold fS at h2
  simp only [Bool.and_eq_true] at h2
  have h3:=nL h2.1.1
  have h4:=pS (hs.mutexes m hmm).1
  unfold bE;split<;>split<;>(simp only [length_append,length_cons,length_nil];omega))
 have h3:=sH funcText bS.wt 3000000 p.funcs (λf hfm=>by
  have h2:=List.all_eq_true.1 hf f hfm
  unfold gW at h2
  simp only [Bool.and_eq_true,decide_eq_true_eq] at h2
  have h3:=nL h2.1.1.1
  have h4:=oJ _ 0 f.body [9] (Nat.le_refl _) h2.1.2 (hs.funcs f hfm).2.2 V
  have h5:(bW bX f.params).length <= f.params.length*30:=by
   have:∀(l:List aS),(∀x,x∈l -> bQ x.name=true) -> (bW bX l).length <= l.length*30:=by
    intro l
    induction l with
    |nil=>intro _;simp [bW]
    |cons x l ih=>
     intro hx
     have h6:=ih (λy hy=>hx y (by simp [hy]))
     have h7:=nL (hx x G0)
     have h8:(bX x).length <= 22:=by unfold bX;split<;>(simp only [length_append,length_cons,length_nil];omega)
     have h9:(bW bX (x::l)).length <= (bX x).length+2+(bW bX l).length:=by
      cases l with
      |nil=>simp [bW]
      |cons b r=>simp [bW];omega
     simp only [length_cons];omega
   exact this f.params (List.all_eq_true.1 h2.2)
  rw [wP];unfold bS.wt
  simp only [length_append,length_cons,length_nil];omega)
 rw [aO9] at h1 h2
 unfold cR cK.wt
 simp only [length_append];omega
theorem yD{α:Type}(f:α -> Bool)(l:List α)(h:∀i (h:i<l.length),f l[i]=true):l.all f=true:=List.all_eq_true.2 λx hx=>by obtain ⟨i,hi,rfl⟩:=List.getElem_of_mem hx;exact h i hi
structure cJ0 where
 globals:List Int
 mutexes:List cL
 procs:List cI1
 main:Nat
def cK1(u:cJ0):List AC:=[.sl u.globals.length (u.globals.map λx=>Vi x),Sq bT u.mutexes,Sq cF9 u.procs,nC u.main]
def cKk(p:cK):cJ0:=if (cFx p).2.2=0 then ⟨p.globals.map aI.init,p.mutexes,p.funcs.map (cGe p),(cFb (cFd p) cFl).n⟩ else ⟨[],[],[],0⟩
instance cNi{x:cI1}:cZr (cF9 x) 5:=⟨rfl⟩
instance cMa{x:cI1}:iY (cF9 x) [Vs x.name,nC x.ints,nC x.locks,nC x.locals,Sq encI x.code]:=⟨rfl⟩
theorem cH3:∀{l:List cFc} {s:ByteArray} {v:cFc},cFa l s=some v -> v∈l
 |[],_,_,h=>DV
 |x::l,s,v,h=>by
  rw [cFa] at h;split at h
  ·cases h;exact List.mem_cons_self
  exact List.mem_cons_of_mem _ (cH3 h)
theorem cI9(p:cK):cHo p (cFd p):=by
 have h:∀v,v∈cFd p -> (v.kind=2 -> v.n<p.mutexes.length) /\ (v.kind=3 -> v.n<p.funcs.length):=λv hv=>by
  unfold cFd at hv
  rcases mem_append.1 hv with hv|hv
  ·obtain ⟨i,hi,rfl⟩:=List.mem_mapIdx.1 hv
   exact ⟨λh=>absurd h (by show ¬(1:Int)=2;decide),λh=>absurd h GZ⟩
  rcases mem_append.1 hv with hv|hv
  ·obtain ⟨i,hi,rfl⟩:=List.mem_mapIdx.1 hv
   exact ⟨λ_=>hi,λh=>absurd h GY⟩
  obtain ⟨i,hi,rfl⟩:=List.mem_mapIdx.1 hv
  exact ⟨λh=>absurd h (by show ¬(3:Int)=2;decide),λ_=>hi⟩
 exact ⟨λs v hf=>(h v (cH3 hf)).1,λs v hf=>(h v (cH3 hf)).2⟩
theorem cG1{p:cK}{f s:Int}{e:Nat}(h:cFx p=(f,s,e))(he:e≠0):cKk p=⟨[],[],[],0⟩:=by unfold cKk;rw [h,if_neg he]
theorem cLm{p:cK}(h:cFx p=(0,0,0)):cKk p=⟨p.globals.map aI.init,p.mutexes,p.funcs.map (cGe p),(cFb (cFd p) cFl).n⟩:=by unfold cKk;rw [h];rfl
theorem cJ9{α:Type}(f:α -> Int)(l:List α)(k:Nat)(h:k<l.length):((l.take k).map f).map (λx=>AC.val (.int .i64 x))++[AC.val (.int .i64 (f l[k]))]=((l.take (k+1)).map f).map λx=>AC.val (.int .i64 x):=by
 rw [List.take_succ_eq_append_getElem h,List.map_append,List.map_append];rfl
instance cN5{x:cJ0}:cZr (cK1 x) 4:=⟨rfl⟩
instance cNj{x:cJ0}:iY (cK1 x) [.sl x.globals.length (x.globals.map λx=>Vi x),Sq bT x.mutexes,Sq cF9 x.procs,nC x.main]:=⟨rfl⟩
theorem cUt{bx:List Box}{rw rw':List bA}(h:rw'.Perm rw):aAz ⟨bx,rw⟩ ⟨bx,rw'⟩:=by
 intro w hm
 have hp:((⟨bx,rw'⟩:Sto).bl).Perm ((⟨bx,rw⟩:Sto).bl):=List.Perm.append (List.Perm.refl _) (h.flatMap_right _)
 have hu:Up2 (bI (⟨bx,rw⟩:Sto).bl w) (bI (⟨bx,rw'⟩:Sto).bl w):=up_sub λb hb=>hp.mem_iff.1 hb
 exact ⟨⟨hp.nodup_iff.2 hm.nodup,λb hb=>hm.lt b (hp.mem_iff.1 hb),λx hx=>let ⟨us,e,r⟩:=hm.box x hx;⟨us,e,r.mono hu⟩,λx hx=>let ⟨us,e,r⟩:=hm.row x (h.mem_iff.1 hx);⟨us,e,r.mono hu⟩⟩,λb hb=>hp.mem_iff.1 hb⟩
theorem cV6{P:Program}{ops:Array Oper}{l:List Oper}{n:Nat}{T:List Nat}{bx:List Box}{rw:List bA}{ts:List (Nat×AT)}{Q:Exit -> AS -> Prop}{a b:bA}(h:eQ P ops l ⟨n,T,⟨bx,b::a::rw⟩,ts⟩ Q):eQ P ops l ⟨n,T,⟨bx,a::b::rw⟩,ts⟩ Q:=uQ (vU (cUt (.swap _ _ _))) h
theorem cU9{l:Vis}{s:ByteArray}(h:bZu l s=none)(a:Int):(bZq l s a).length=l.length+1:=by
 induction l with
 |nil=>rfl
 |cons p l ih=>
  unfold bZu at h
  split at h
  ·cases h
  rename_i h1
  unfold bZq;rw [if_neg h1,length_cons,ih h,length_cons]
theorem MR.no_lk{gs ms fs lk lo:Vis}{l:List cFc}(m:MR gs ms fs lk lo l){s:ByteArray}(h:cFa l s=none):bZu lk s=none:=by rw [m.lk,h]
theorem MR.lkp{gs ms fs lk lo:Vis}{l:List cFc}(m:MR gs ms fs lk lo l){s:ByteArray}(h:cFa l s=none)(n:Nat):MR gs ms fs (bZq lk s ((n:Nat):Int)) lo (l++[⟨s,5,n⟩]):=by
 refine ⟨λt=>?_,λt=>?_,λt v hv hk=>?_,λt v hv hk=>?_,λt v hv hk=>?_⟩
 ·rw [cGu,m.lo t]
  by_cases e:s=t
  ·subst e;rw [h];dsimp only;rw [if_pos rfl];rfl
  rcases cFa l t with _|v
  ·dsimp only;rw [if_neg e]
  rfl
 ·rw [cBo,cGu,m.lk t]
  by_cases e:s=t
  ·subst e;rw [if_pos rfl,h];dsimp only;rw [if_pos rfl];rfl
  rw [if_neg e]
  rcases cFa l t with _|v
  ·dsimp only;rw [if_neg e]
  rfl
 all_goals
  rw [cGu] at hv
  rcases h1:cFa l t with _|u
  ·rw [h1] at hv;dsimp only at hv;split at hv
   ·cases hv;cases hk
   cases hv
  rw [h1] at hv
  obtain rfl:=Option.some.inj hv
  first|exact m.gs t u h1 hk|exact m.ms t u h1 hk|exact m.fs t u h1 hk
theorem cU7{ps:List aS}{l:List cFc}{i m k:Nat}{r:List cFc×Nat×Nat}(hk:k<ps.length)(h:cGd (ps.drop k) l i m=some r):
  cFa l ps[k].name=none /\ (ps[k].mutex=true -> cGd (ps.drop (k+1)) (l++[⟨ps[k].name,5,m⟩]) i (m+1)=some r) /\ (ps[k].mutex=false -> cGd (ps.drop (k+1)) (l++[⟨ps[k].name,4,i⟩]) (i+1) m=some r):=by
 rcases h0:cFa l ps[k].name with _|v
 ·exact ⟨Y,(cGt hk h).2 Hk⟩
 have:=(cGt hk h).1 Hk;cases this
theorem cUj{p:cK}{f:bS}(h:(cGk p f).1=0):∃l i m,cGd f.params (cFd p) 0 0=some (l,i,m) /\ (cFe p f.body (LS.init l i)).q.1=0:=by
 unfold cGk at h
 split at h
 ·cases h
 rename_i l i m h1;exact ⟨l,i,m,h1,h⟩
theorem cUn(A B:List Box)(D gg gm gf:Nat)(p:cK)(gs ms fs:Vis)(c3 c4 c5 c6 c7 c8:AC)(rw:List bA)(f:bS)(hM:MR gs ms fs [] [] (cFd p))(hgg:cR3 gg 0 evI gs∈rw)(hgm:cR3 gm 0 evI ms∈rw)(hgf:cR3 gf 0 evI fs∈rw)(hok:cHo p (cFd p))(hl:(cFd p).length <= 10000000)(hw:f.wt <= 20000000)(hkn:cSh f.body)(hE:(cGk p f).1=0):aL prog 27 [pP D,.agg (fV f)] [D] ⟨A++⟨D,77,[Vm gg,Vm gm,Vm gf,c3,c4,c5,c6,c7,c8]⟩::B,rw⟩ λt s'=>t=.agg (cF9 (cGe p f)) /\ ∃c3' c4' c5' c6' c8',s'=⟨A++⟨D,77,[Vm gg,Vm gm,Vm gf,c3',c4',c5',c6',.sl (cJl p f).length ((cJl p f).map λx=>Vi x),c8']⟩::B,rw⟩:=by
 have hwf:f.wt=1+f.params.length+wtS f.body:=Y
 refine acX 100 func27 ?_
 refine go 14 λb1 b2=>?_
 refine wo Y (cB3 0 (evI) Y Y V λgl=>?_)
 refine wo Y (cB3 0 (evI) Y Y V λgk=>?_)
 refine go 30 ?_
 obtain ⟨l1,i1,m1,hp1,hq1⟩:=cUj hE
 refine bMj (α:=List cFc×Nat×Nat×Vis×Vis) (λk g=>cGd (f.params.drop k) g.1 g.2.1 g.2.2.1=some (l1,i1,m1) /\ MR gs ms fs g.2.2.2.1 g.2.2.2.2 g.1 /\ KN g.2.2.2.2 /\ g.2.2.2.1.length=g.2.2.1 /\ g.2.1+g.2.2.1 <= k /\ g.1.length <= (cFd p).length+k /\ cHo p g.1) (f.params.length) 31 (λ_=>[gk,gl,b2,b1,D]) (λ_ g=>⟨⟨b2,79,[Vs aK,Vi 0,Vi 0,Vi 0,Nl]⟩::⟨b1,67,[Vs f.name,Sq cP f.params,Sq encS f.body]⟩::A++⟨D,77,[Vm gg,Vm gm,Vm gf,Vm gl,Vm gk,nC g.2.1,Nl,Nl,Vi 0]⟩::B,cR3 gk 0 evI g.2.2.2.1::cR3 gl 0 evI g.2.2.2.2::rw⟩) (λ_=>[(0,pP D),(3,pP b1),(4,pP b2),(29,.c (Sq cP f.params)),(30,nI f.params.length)]) (cFd p,0,0,[],[]) ⟨hp1,hM,List.Pairwise.nil,Y,Nat.le_refl _,Nat.le_refl _,hok⟩ (cQf AK) ?_
 rintro k ⟨l,i,m,lk,lo⟩ hk ⟨hpar,hM,hK,hlk,him,hll,hlo⟩
 dsimp only at hpar hM hK hlk him hll hlo
 try dsimp only
 refine go 2 ?_
 by_cases h1:((k:Nat):Int)<((f.params.length:Nat):Int)
 ·refine wcp true Y (jZ h1) (go 10 ?_)
  refine wyz Y (bH cP cP f.params gL (λ_=>Y) k Y Y Y Y J V runUnderlying64 sizeOf69) (go 7 λb5=>?_)
  have hkp:k<f.params.length:=J
  have hps:=cU7 hkp hpar
  refine go 2 ?_
  rcases Bool.eq_false_or_eq_true (f.params[k].mutex) with h3|h3
  ·refine wyz Y (fL (bZ h3)) (go 4 ?_)
   refine bTy 11 [b5,b2,b1,D,gl,gk] [] #[true,true,true,true,true,true,true,true,true,true,true,false] B6 B6 B6 ?_
   refine tz [(0,true),(1,true),(2,true),(3,true),(4,true),(5,true),(6,true),(7,true),(8,true),(9,true)] 1 (go 11 ?_)
   refine tx 10 Y (cTu (m:=0) (ev:=evI) lk Y Y G0 cB9 underlying74 Cf) ?_
   refine ax ?_
   refine id ?_
   refine ox 11 Y Y (cAt lk [] Y Y Y Y Y underlying74 underlying9 G0 Dc ?_)
   refine ax (go 6 ?_)
   refine wad Y (go 2 ?_)
   exact ⟨J,(l++[⟨f.params[k].name,5,m⟩],i,m+1,bZq lk f.params[k].name ((lk.length:Nat):Int),lo),⟨hps.2.1 h3,(by dsimp only;rw [hlk];exact hM.lkp hps.1 m),hK,by show (bZq _ _ _).length=m+1;rw [cU9 (hM.no_lk hps.1),hlk],E7,AN,hlo.app (by show (5:Int)≠2;decide) (by show (5:Int)≠3;decide)⟩,cQf (h1:=(.cons _ (.refl _))) (h:=aG Y (gQ J) (sA Y)) AK⟩
  refine wyz Y (fL (bZ h3)) (go 6 ?_)
  refine bTy 10 [b5,b2,b1,D,gl,gk] [] #[true,true,true,true,true,true,true,true,true,true,false] B6 B6 B6 ?_
  refine tz [(0,true),(1,true),(2,true),(3,true),(4,true),(5,true),(6,true),(7,true),(8,true),(9,true)] 0 (go 11 ?_)
  refine ax ?_
  refine id ?_
  refine ox 10 Y Y (cAt lo [_] Y Y Y Y Y underlying74 underlying9 G0 Dc ?_)
  refine ax (go 6 ?_)
  refine wad Y (go 2 ?_)
  refine eA 62 Y (t:=nI (i+1)) (gQ J) (go 5 ?_)
  refine wad Y (go 2 ?_)
  exact ⟨J,(l++[⟨f.params[k].name,4,i⟩],i+1,m,lk,bZq lo f.params[k].name ((i:Nat):Int)),⟨hps.2.2 h3,hM.var hps.1 i,hK.put _ _,hlk,E7,AN,hlo.app (by show (4:Int)≠2;decide) Cu⟩,cQf (h1:=(.cons _ (.refl _))) (h:=aG Y (gQ J) (sA Y)) AK⟩
 refine wcp false Y (jQ h1) (go 10 ?_)
 refine dx [b2,b1,D,gk,gl] (tz [(0,true),(1,true),(2,true),(3,true),(4,true),(5,true),(6,true),(7,true),(8,true),(9,true)] 4 (go 11 ?_))
 refine tx 10 Y (cTu (m:=0) (ev:=evI) lk Y Y G0 cB9 underlying74 Cf) ?_
 refine tx 11 Y (id <|aNs Tryz.t79 [(0,1),(1,1),(2,1),(3,1),(4,1)] Y (.cons Y (.cons Y (.cons Y .nil))) underlying79 B6 Y B6 Y Y) ?_
 refine cJ4 77 Y (Wk.refl _:Wk _ (.agg [Vs f.name,nC i,nC lk.length,Vi 0,Nl])) ?_
 refine ox 12 Y Y (id <|jK Y Y V zeroValue79 Y λb6=>?_)
 refine ox 13 Y Y (id <|cVt Y Y Y Y Y sizeOf79 Y (Nat.le_of_ble_eq_true Y) (zC Y) G0 G7 ?_)
 refine ax (go 3 ?_)
 obtain rfl:k=f.params.length:=J
 have hpl:cGd f.params (cFd p) 0 0=some (l,i,m):=by rw [hp1,←hpar,List.drop_eq_nil_of_le (Nat.le_refl _),cGd]
 obtain ⟨rfl,rfl,rfl⟩:l1=l /\ i1=i /\ m1=m:=by rw [hp1] at hpl;cases hpl;exact ⟨rfl,rfl,rfl⟩
 refine cV6 ?_
 refine bR3 3 1 ?_
 refine bR3 92 12 ?_
 refine go 3 ?_
 have hlk2:RmL p (LS.init l1 i1) (wtS f.body+1):=⟨hlo,by show 0+_ <= _;omega,Y,by show 0+_ <= _;omega,by show i1+_ <= _;omega,by show l1.length+_ <= _;omega⟩
 have hbk:=cH2 p f.body (LS.init l1 i1) 1 hlk2
 have hW4:MW4 gg gm gf gk gs ms fs lk (cR3 gk 0 evI lk::rw):=⟨by simp [hgg],by simp [hgm],DT,G0⟩
 refine wo Y (cU1 Y Y V call51 Y (cTe _ f.body (Nat.le_refl _) hkn (_::_::_::A) B D gg gm gf gk gl p (LS.init l1 i1) gs ms fs lk lo (.slice none 0 0) (.slice none 0 0) (cR3 gk 0 evI lk::rw) hM hW4 hK (hlk2.mono J) hq1) G0 G0 Bc Bc (λ_=>⟨G0,G0,Bc,Bc⟩) λvc7 vs7 lo7 hp7=>?_)
 refine go 10 ?_
 refine eA 87 Y ((Wk.agg (.r (.r (.r (.r (.r (.r (.n (.r (.r (.n (.n (.n .nil))))))))))))):Wk _ (.agg (encI (opI 8 .zero)))) ?_
 have hz8:(cRs p f.body (LS.init l1 i1)).code.length <= 100000000 /\ (cRs p f.body (LS.init l1 i1)).sites.length=(cRs p f.body (LS.init l1 i1)).code.length:=⟨by have:=hbk.code;omega,hbk.sites⟩
 refine wo Y (wcL Y Y V call52 Y (cSa (_::_::_::A) B D gg gm gf gk gl (cRs p f.body (LS.init l1 i1)) vc7 vs7 _ (opI 8 .zero) (cRs p f.body (LS.init l1 i1)).n hz8.1 hz8.2) G0 cFh.h cFh.h Bj λvc8 vs8=>?_)
 refine go 3 ?_
 refine dx [b2,b1,D] (tz [(0,true),(1,true),(2,true),(3,true),(4,true),(5,true),(6,true),(7,true),(8,true),(9,false),(10,true),(11,false)] 0 (go 13 ?_))
 refine ax (go 2 ?_)
 refine cKs (cs':=[Vs f.name,nC i1,nC lk.length,Vi ((((cRs p f.body (LS.init l1 i1)).put (opI 8 .zero) (cRs p f.body (LS.init l1 i1)).n).locals:Nat):Int),.sl ((cRs p f.body (LS.init l1 i1)).put (opI 8 .zero) (cRs p f.body (LS.init l1 i1)).n).code.length (((cRs p f.body (LS.init l1 i1)).put (opI 8 .zero) (cRs p f.body (LS.init l1 i1)).n).code.flatMap encI)]) [] 4 Y Y ?_
 refine cKs (cs':=[Vm gg,Vm gm,Vm gf,Vm gl,Vm gk,Vi ((((cRs p f.body (LS.init l1 i1)).put (opI 8 .zero) (cRs p f.body (LS.init l1 i1)).n).locals:Nat):Int),.val vc8,.sl ((cRs p f.body (LS.init l1 i1)).put (opI 8 .zero) (cRs p f.body (LS.init l1 i1)).n).sites.length (((cRs p f.body (LS.init l1 i1)).put (opI 8 .zero) (cRs p f.body (LS.init l1 i1)).n).sites.map λx=>Vi x),Vi ((((cRs p f.body (LS.init l1 i1)).put (opI 8 .zero) (cRs p f.body (LS.init l1 i1)).n).n:Nat):Int)]) (_::_::_::A) 7 Y Y ?_
 refine go 6 ?_
 subst hlk
 exact ⟨.inr Y,_,⟨A++⟨D,77,[Vm gg,Vm gm,Vm gf,Vm gl,Vm gk,(Vi ((((cRs p f.body (LS.init l1 i1)).put (opI 8 .zero) (cRs p f.body (LS.init l1 i1)).n).locals:Nat):Int)),.val vc8,.sl ((cRs p f.body (LS.init l1 i1)).put (opI 8 .zero) (cRs p f.body (LS.init l1 i1)).n).sites.length (((cRs p f.body (LS.init l1 i1)).put (opI 8 .zero) (cRs p f.body (LS.init l1 i1)).n).sites.map λx=>Vi x),(Vi ((((cRs p f.body (LS.init l1 i1)).put (opI 8 .zero) (cRs p f.body (LS.init l1 i1)).n).n:Nat):Int))]⟩::B,rw⟩,aR Y (aO [_] Y Y isAgg79 sizeOf79 (bK Y Y)),aA (.cons _ (.cons _ (.cons _ (.refl _)))) (.cons _ (.cons _ (.refl _))),by unfold cGe;rw [hp1];rfl,_,_,_,_,_,by unfold cJl;rw [hp1];rfl⟩
end
section
def dCn(fs fs':Fns):Prop:=∀s,(bZu fs s).map bS.params=(bZu fs' s).map bS.params
theorem dCn.put{fs fs':Fns}(h:dCn fs fs')(k:ByteArray){f f':bS}(hp:f.params=f'.params):dCn (bZq fs k f) (bZq fs' k f'):=λs=>by
 rw [cBo,cBo];split
 ·simp [hp]
 exact h s
section
variable {fs fs':Fns}(hs:dCn fs fs')
include hs
end
end
section
def cFr(p:cK)(v:cFc):Int:=if v.kind=1∨v.kind=4 then 1 else if v.kind=2 then (if 0<cHk p v.n then 3 else 2) else if v.kind=5 then 4 else if v.kind=3 then 5 else 9
def cH8(p:cK):Option cFc -> Int
 |none=>0
 |some v=>cFr p v
theorem cGl(p:cK)(x:cFc):(x.kind=2 /\ 0<cHk p x.n /\ cFr p x=3)∨(x.kind=2 /\ ¬0<cHk p x.n /\ cFr p x=2)∨(x.kind=5 /\ cFr p x=4)∨(x.kind≠2 /\ x.kind≠5 /\ (x.kind=1∨x.kind=4) /\ cFr p x=1)∨(x.kind=3 /\ cFr p x=5)∨(x.kind≠1 /\ x.kind≠2 /\ x.kind≠3 /\ x.kind≠4 /\ x.kind≠5 /\ cFr p x=9):=by
 unfold cFr
 by_cases h1:x.kind=1∨x.kind=4
 ·rw [if_pos h1];exact .inr (.inr (.inr (.inl ⟨J,J,h1,rfl⟩)))
 rw [if_neg h1]
 by_cases h2:x.kind=2
 ·rw [if_pos h2]
  by_cases hm:0<cHk p x.n
  ·rw [if_pos hm];exact .inl ⟨h2,hm,rfl⟩
  rw [if_neg hm];exact .inr (.inl ⟨h2,hm,rfl⟩)
 rw [if_neg h2]
 by_cases h5:x.kind=5
 ·rw [if_pos h5];exact .inr (.inr (.inl ⟨h5,rfl⟩))
 rw [if_neg h5]
 by_cases h3:x.kind=3
 ·rw [if_pos h3];exact .inr (.inr (.inr (.inr (.inl ⟨h3,rfl⟩))))
 rw [if_neg h3];exact .inr (.inr (.inr (.inr (.inr ⟨J,h2,h3,J,h5,rfl⟩))))
theorem cGv(p:cK)(v:cFc):cFr p v≠0:=by rcases cGl p v with h|h|h|h|h|h<;>omega
structure cG7 (p:cK) (fs:Fns) (v:Vis) (l:List cFc):Prop where
 kn:KN v
 get:∀s,bZp v s=cH8 p (cFa l s)
 fn:∀s x,cFa l s=some x -> x.kind=3 -> ∃f,bZu fs s=some f /\ cGc p x.n=f.params
section
variable {p:cK}{fs:Fns}{v:Vis}{l:List cFc}(h:cG7 p fs v l)
include h
theorem cMe(s:ByteArray):cBh v s=cGq l s:=by
 unfold cBh cGq
 rw [h.get s]
 rcases cFa l s with _|x
 ·rfl
 show (if cFr p x=0 then 6 else if cFr p x=1 then 0 else 8)=if x.kind=1∨x.kind=4 then 0 else 8
 rw [if_neg (cGv p x)]
 rcases cGl p x with ⟨h2,-,e⟩|⟨h2,-,e⟩|⟨h2,e⟩|⟨-,-,h2,e⟩|⟨h2,e⟩|⟨h2,-,-,h3,-,e⟩<;>rw [e]
 rotate_left
 rotate_left
 rotate_left
 ·rw [if_pos h2];rfl
 rotate_left
 all_goals
  rw [if_neg (J:¬(x.kind=1∨x.kind=4))];rfl
end
mutual
theorem cJ3{p:cK}{fs:Fns}{v:Vis}{l:List cFc}(h:cG7 p fs v l):∀e:aH,bZ1 v e=cFf l e
 |.mk op num name args=>by rw [bZ1,cFf,cMe h,cKj h args]
theorem cKj{p:cK}{fs:Fns}{v:Vis}{l:List cFc}(h:cG7 p fs v l):∀r:List aH,bZ0 v r=cFq l r
 |[]=>by rw [bZ0,cFq]
 |e::r=>by rw [bZ0,cFq,cJ3 h e,cKj h r];rfl
end
section
variable {p:cK}{fs:Fns}{v:Vis}{l:List cFc}(h:cG7 p fs v l)
include h
theorem cMc(r:cY)(hr:r.index.length <= 1):cA3 v r=cGo p l r:=by
 have hix:cFq l r.index=if r.index.length=0 then 0 else cDo v r.index:=by
  rcases hi:r.index with _|⟨e,_|⟨a,b⟩⟩
  ·rw [cFq];rfl
  ·rw [cFq,cFq,if_neg G0];show cFj _ 0=bZ1 v e
   rw [cJ3 h];unfold cFj;split<;>simp_all
  rw [hi] at hr;simp at hr
 unfold cA3 cGo cAj
 rw [h.get r.name,hix]
 rcases cFa l r.name with _|x
 ·rfl
 show (if cFr p x=0 then 6 else if ((decide (cFr p x≠2) && decide (cFr p x≠3) && decide (cFr p x≠4))||(decide (cFr p x=3) != decide (0<r.index.length)))=true then 8 else if cFr p x=3 then cDo v r.index else 0)=cFj (if x.kind=2∨x.kind=5 then (if (decide (x.kind=2) && decide (0<cHk p x.n))=decide (0<r.index.length) then 0 else 8) else 8) _
 rw [if_neg (cGv p x)]
 have hlen:r.index.length=0∨r.index.length=1:=J
 rcases cGl p x with ⟨h2,hm,e⟩|⟨h2,hm,e⟩|⟨h2,e⟩|⟨h2,h5,-,e⟩|⟨h2,e⟩|⟨-,h2,-,-,h5,e⟩<;>rw [e]
 ·rw [if_pos (Or.inl h2:x.kind=2∨x.kind=5),decide_eq_true h2,decide_eq_true hm]
  rcases hlen with h0|h0<;>rw [h0]<;>rfl
 ·rw [if_pos (Or.inl h2:x.kind=2∨x.kind=5),decide_eq_true h2,decide_eq_false hm]
  rcases hlen with h0|h0<;>rw [h0]<;>rfl
 ·rw [if_pos (Or.inr h2:x.kind=2∨x.kind=5),decide_eq_false (show ¬x.kind=2 by omega)]
  rcases hlen with h0|h0<;>rw [h0]<;>rfl
 ·rw [if_neg (J:¬(x.kind=2∨x.kind=5))];rfl
 ·rw [if_neg (J:¬(x.kind=2∨x.kind=5))];rfl
 rw [if_neg (J:¬(x.kind=2∨x.kind=5))];rfl
theorem cLe:∀(al:List eN)(xs:List aS),(∀a,a∈al -> a.mutex=true -> a.ref.index.length <= 1) -> bZ3 v al xs=cF8 p l al xs
 |[],xs,_=>by cases xs<;>simp [bZ3,cF8]
 |a::al,[],_=>by simp [bZ3,cF8]
 |a::al,x::xs,hi=>by
  rw [bZ3,cF8,cLe al xs λb hb=>hi b (List.mem_cons_of_mem _ hb)]
  unfold cBb cJh
  by_cases hm:a.mutex=x.mutex
  ·rw [if_pos hm,if_pos hm]
   by_cases hx:a.mutex=true
   ·rw [if_pos hx,if_pos hx,cMc h a.ref (hi a List.mem_cons_self hx)];rfl
   rw [if_neg hx,if_neg hx,cJ3 h];rfl
  rw [if_neg hm,if_neg hm];rfl
theorem cL5(s:aJ)(hi:∀a,a∈s.args -> a.mutex=true -> a.ref.index.length <= 1):cAx v fs s.name s.args=cFy p l s:=by
 unfold cAx cFy
 rw [h.get s.name]
 rcases hf:cFa l s.name with _|x
 ·rfl
 show (if cFr p x=0 then 6 else if cFr p x=5 then cD1 v s.args (bZu fs s.name) else 8)=if x.kind=3 then (if (cGc p x.n).length=s.args.length then cF8 p l s.args (cGc p x.n) else 7) else 8
 rw [if_neg (cGv p x)]
 by_cases h3:x.kind=3
 ·obtain ⟨f,hl,hp⟩:=h.fn _ x hf h3
  rw [if_pos h3,hl,hp,if_pos (show cFr p x=5 by rcases cGl p x with h|h|h|h|h|h<;>omega)]
  show (if s.args.length=f.params.length then bZ3 v s.args f.params else 7)=_
  rw [cLe h _ _ hi]
  by_cases hl2:s.args.length=f.params.length
  ·rw [if_pos hl2,if_pos hl2.symm]
  rw [if_neg hl2,if_neg (λe=>hl2 e.symm)]
 rw [if_neg h3,if_neg]
 rcases cGl p x with h|h|h|h|h|h<;>omega
end
end
section
mutual
def shS:aJ -> Prop
 |.mk k _ _ r args t f=>(k=5∨k=6 -> r.index.length <= 1) /\ (∀a,a∈args -> a.mutex=true -> a.ref.index.length <= 1) /\ (k≠7 -> k≠8 -> t=[]) /\ (k≠7 -> f=[]) /\ cId t /\ cId f
def cId:List aJ -> Prop
 |[]=>True
 |s::l=>shS s /\ cId l
end
theorem cIz{r:cY}(h:okRefB r=true):r.index.length <= 1:=by have:=(xE h).2.1;omega
mutual
theorem cMb:∀(D:Nat)(s:aJ),bK9 D s=true -> shS s
 |D,.mk k name e r args t f,h=>by
  rw [bK9] at h
  simp only [Bool.and_eq_true,Bool.or_eq_true,decide_eq_true_eq] at h
  obtain ⟨⟨⟨⟨⟨⟨-,-⟩,-⟩,h5⟩,-⟩,ha⟩,ht⟩:=h.1
  have hf:=h.2
  rw [shS]
  refine ⟨λhk=>?_,λa hm hx=>?_,λh7 h8=>?_,λh7=>?_,?_,?_⟩
  ·rw [if_pos hk] at h5;exact cIz h5
  ·have h9:=List.all_eq_true.1 ha a hm
   unfold fY at h9
   rw [if_pos hx,Bool.and_eq_true] at h9
   exact cIz h9.1
  ·rw [if_neg J,decide_eq_true_eq] at ht;exact List.length_eq_zero_iff.1 ht
  ·rcases hf with hf|hf
   ·exact List.length_eq_zero_iff.1 hf
   exact absurd hf.1 h7
  ·by_cases hk:k=7∨k=8
   ·rw [if_pos hk] at ht;exact cJd (D+1) t ht
   rw [if_neg hk,decide_eq_true_eq] at ht
   rw [List.length_eq_zero_iff.1 ht,cId];trivial
  rcases hf with hf|hf
  ·rw [List.length_eq_zero_iff.1 hf,cId];trivial
  exact cJd (D+1) f hf.2
theorem cJd:∀(D:Nat)(l:List aJ),bM D l=true -> cId l
 |_,[],_=>by rw [cId];trivial
 |D,s::l,h=>by
  rw [bM,Bool.and_eq_true] at h
  rw [cId];exact ⟨cMb D s h.1,cJd D l h.2⟩
end
def cIu(p:cK)(l:List cFc)(s:aJ):Nat:=
 if s.kind=1 then cFj (cFv l s.name) (cFf l s.expr)
 else if s.kind=2 then cFj (cGq l s.name) (cFf l s.expr)
 else if s.kind=5∨s.kind=6 then cGo p l s.ref
 else if s.kind=3∨s.kind=4 then cFy p l s
 else if s.kind=7∨s.kind=8 then cFf l s.expr else 0
theorem cLy{p:cK}{fs:Fns}{v:Vis}{l:List cFc}(h:cG7 p fs v l)(s:aJ)(hr:s.kind=5∨s.kind=6 -> s.ref.index.length <= 1)(ha:∀a,a∈s.args -> a.mutex=true -> a.ref.index.length <= 1):bZ5 v fs s=cIu p l s:=by
 unfold bZ5 cIu
 rw [cJ3 h,cMe h,cL5 h s ha]
 by_cases h1:s.kind=1
 ·rw [if_pos h1,if_pos h1,h.get s.name]
  unfold cFv
  rcases cFa l s.name with _|x
  ·rfl
  show (if cFr p x=0 then _ else 5)=_;rw [if_neg (cGv p x)];rfl
 rw [if_neg h1,if_neg h1]
 by_cases h2:s.kind=2
 ·rw [if_pos h2,if_pos h2];rfl
 rw [if_neg h2,if_neg h2]
 by_cases h5:s.kind=5∨s.kind=6
 ·rw [if_pos h5,if_pos h5,cMc h s.ref (hr h5)]
 rw [if_neg h5,if_neg h5]
theorem cIr(p:cK)(s:aJ)(x:LS)(h7:s.kind≠7)(h8:s.kind≠8):(cFu p s x).q=cFg x.q (cIu p x.ents s) x.n /\ (cFu p s x).n=x.n+1 /\ (cFu p s x).ents=if s.kind=1 then x.ents++[⟨s.name,4,x.locals⟩] else x.ents:=by
 unfold cFu cIu
 by_cases h1:s.kind=1
 ·rw [if_pos h1,if_pos h1,if_pos h1];exact ⟨rfl,rfl,rfl⟩
 rw [if_neg h1,if_neg h1,if_neg h1]
 by_cases h2:s.kind=2
 ·rw [if_pos h2,if_pos h2];exact ⟨rfl,rfl,rfl⟩
 rw [if_neg h2,if_neg h2]
 by_cases h3:s.kind=3∨s.kind=4
 ·rw [if_pos h3,if_neg (J:¬(s.kind=5∨s.kind=6)),if_pos h3];exact ⟨rfl,rfl,rfl⟩
 rw [if_neg h3]
 by_cases h5:s.kind=5
 ·rw [if_pos h5,if_pos (.inl h5:s.kind=5∨s.kind=6)];exact ⟨rfl,rfl,rfl⟩
 rw [if_neg h5]
 by_cases h6:s.kind=6
 ·rw [if_pos h6,if_pos (.inr h6:s.kind=5∨s.kind=6)];exact ⟨rfl,rfl,rfl⟩
 rw [if_neg h6,if_neg (J:¬(s.kind=5∨s.kind=6)),if_neg h3,if_neg (J:¬(s.kind=7∨s.kind=8))];exact ⟨rfl,rfl,rfl⟩
theorem cI4{q:ES}(h:q.1≠0)(e:Nat)(s:Int):cFg q e s=q:=by unfold cFg;rw [if_neg (λhh=>h hh.1)]
theorem cJf{q:ES}(h:q.1=0){e:Nat}(he:e≠0)(s:Int):cFg q e s=(e,s):=by unfold cFg;rw [if_pos ⟨h,he⟩]
mutual
theorem cJt(p:cK):∀(s:aJ)(x:LS),x.q.1≠0 -> (cFs p s x).q=x.q
 |.mk k name e r args t f,x,h=>by
  have hb:(x.branch e).q=x.q:=cI4 h _ _
  have ht:(cFe p t (x.branch e)).q=x.q:=by rw [cF5 p t _ (by rw [hb];exact h),hb]
  rw [cFs]
  split
  ·split
   ·exact ht
   show (cFe p f _).q=_
   rw [cF5 p f _ (by show (cFe p t (x.branch e)).q.1≠0;rw [ht];exact h)]
   exact ht
  split
  ·exact ht
  rename_i h7 h8
  rw [(cIr p (.mk k name e r args t f) x h7 h8).1];exact cI4 h _ _
theorem cF5(p:cK):∀(l:List aJ)(x:LS),x.q.1≠0 -> (cFe p l x).q=x.q
 |[],x,_=>by rw [cFe]
 |s::l,x,h=>by
  have h1:=cJt p s x h
  rw [cFe,cF5 p l _ (by rw [h1];exact h),h1]
end
end
section
open Go.RowKit
theorem bPs(n:Int)(h0:fit n)(s:Sto):aL prog 123 [bK5 (Ci n)] [] s λt s'=>t=Cs (bytes (eH n)) /\ s'=s:=by
 intro vs w hm _ hl hr
 obtain ⟨v,rfl⟩:∃v,vs=[v]:=by
  cases vs with
  |nil=>cases hl
  |cons v vs=>cases vs with
   |nil=>exact ⟨v,rfl⟩
   |cons _ _=>simp at hl
 have h1:dO (bI s.bl w) (bK5 (Ci n)) v:=hr 0 G0 G0
 obtain rfl:=(bPv _ _ h1).val
 refine (Tryz.strconv_Itoa n h0.1 h0.2 w (bMx h1).tab).mono ?_
 rintro e w' ⟨rfl,k,os,rfl⟩
 obtain ⟨hk,hm'⟩:=aBl hm (bOw w k os)
 have he:bytes (eH n)=⟨(Lib.itoa n).toArray⟩:=by rw [bQn];rfl
 rw [he]
 exact ⟨_,_,s,Y,⟨Y,Y⟩,dO.c _ _ (.val _ Y),hm',hk,λb hb=>.inl hb⟩
end
end Go.Proofs.YtjgeihmhppadaaaGreatDoor
