import Derived.Test.YtojinfngbbajgaaGreatDoorF5J
import Derived.Test.YtojinfngbbajgaaGreatDoorF21J
import Derived.Test.YtojinfngbbajgaaGreatDoorF8J
set_option linter.all false
set_option synthInstance.maxHeartbeats 1000000
set_option synthInstance.maxSize 1000000
namespace Go.Proofs.YtojinfngbbajgaaGreatDoor
open List (length_append length_cons length_nil mem_append mem_cons not_mem_nil append_assoc getElem_mem take_of_length_le)
section
open Go.RowKit
theorem nL{s:ByteArray}(h:bQ s=true):s.data.toList.length <= 16:=by
 unfold bQ at h
 split at h
 ·cases h
 simp only [Bool.and_eq_true,decide_eq_true_eq] at h;exact h.1.2
mutual
theorem zK:∀(e:aH),e.sane -> eO e=true -> e.tame
 |.mk op num name args,hs,h=>by
  have hv:=yT _ hs h
  rw [aH.sane] at hs
  rw [eO] at h
  simp only [Bool.and_eq_true] at h
  rw [aH.tame]
  refine ⟨?_,?_,xH args hs.2.2 h.2⟩
  ·cases hv with
   |num n hn=>show ((n:Nat):Int).natAbs<_;omega
   |_=>decide
  ·cases hv with
   |name s hn=>exact Nat.le_trans (nL hn) (by decide)
   |_=>decide
theorem xH:∀(l:List aH),iI l -> dY l=true -> oG l
 |[],_,_=>by rw [oG];trivial
 |y::l,hs,h=>by
  rw [iI] at hs
  rw [dY,Bool.and_eq_true] at h
  rw [oG]
  exact ⟨zK y hs.1 h.1,xH l hs.2 h.2⟩
end
theorem tU{e:aH}(hs:e.sane)(h:eO e=true):(aP e).length <= e.nodes*2000000:=by
 have:=vQ e.nodes e (Nat.le_refl _) (zK e hs h);omega
theorem aA6{r:cY}(hs:r.sane)(h:okRefB r=true):(dC r).length <= r.wt*2000000:=by
 obtain ⟨h1,h2,h3⟩:=xE h
 have h4:=nL h1
 unfold cY.wt
 rcases h2 with h2|h2
 ·rw [aCa h2];omega
 have h0:0<r.index.length:=by omega
 have h5:=nM r.index 0 h0
 have h6:=tU (mV _ hs.2 _ (getElem_mem h0)) (kR (h3 _ (getElem_mem h0)))
 rw [wI h0];simp only [length_append,length_cons,length_nil];omega
theorem aAp:∀(l:List eN),(∀a,a∈l -> a.sane) -> (∀a,a∈l -> fY a=true) -> (bW dE l).length <= wtA l*2000010
 |[],_,_=>by simp [bW]
 |a::l,hs,h=>by
  have h1:=aAp l (fun x hx=>hs x (by simp [hx])) (fun x hx=>h x (by simp [hx]))
  have h2:(dE a).length+2 <= a.wt*2000010:=by
   have h3:=xN (h a (by simp))
   have h4:=hs a (by simp)
   unfold eN.wt
   cases hm:a.mutex with
   |true=>rw [pD hm];have:=aA6 h4.1 (h3.1 hm);simp only [length_append,length_cons,length_nil];omega
   |false=>rw [oZ hm];have:=tU h4.2 (kR (h3.2 hm));omega
  have h5:(bW dE (a::l)).length <= (dE a).length+2+(bW dE l).length:=by
   cases l with
   |nil=>simp [bW]
   |cons b r=>simp [bW];omega
  rw [wtA];omega
theorem oJ:∀(N D:Nat)(l:List aJ)(tabs:List UInt8),wtS l <= N -> bM D l=true -> gC l -> tabs.length <= D+1 -> (aC tabs l).length <= wtS l*3000000
 |_,_,[],_,_,_,_,_=>by rw [aC];simp
 |0,D,s::l,tabs,hw,_,_,_=>by rw [wtS,gD] at hw;omega
 |N+1,D,s::l,tabs,hw,hok,hs,ht=>by
  have hD:=iL D _ hok
  rw [bM,Bool.and_eq_true] at hok
  rw [gC] at hs
  rw [wtS,gD] at hw
  have ok:=aHv hs.1 hok.1
  have h1:=oJ (N+1) D l tabs (by omega) hok.2 hs.2 ht
  have ht1:(tabs++[(9:UInt8)]).length <= D+1+1:=by simp;omega
  have hE:(s.kind=1∨s.kind=2∨s.kind=7∨s.kind=8) -> (aP s.expr).length <= s.expr.nodes*2000000:=fun h=>tU ok.saneE (ok.expr h)
  have hR:(s.kind=5∨s.kind=6) -> (dC s.ref).length <= s.ref.wt*2000000:=fun h=>aA6 ok.saneR (ok.ref h)
  have hA:(dF s.args).length <= wtA s.args*2000010+2:=by have:=aAp s.args ok.saneA ok.args;unfold dF;simp only [length_append,length_cons,length_nil];omega
  have hT:(s.kind=7∨s.kind=8) -> (aC (tabs++[9]) s.thn).length <= wtS s.thn*3000000:=fun h=>oJ N (D+1) s.thn (tabs++[9]) (by omega) (ok.thn h) ok.saneT ht1
  have hF:(if s.els.length=0 then ([]:List UInt8) else [32,101,108,115,101,32,123,10]++aC (tabs++[9]) s.els++tabs++[125]).length <= wtS s.els*3000000+40:=by
   rcases ok.els with h|h
   ·rw [if_pos h];simp
   have:=oJ N (D+1) s.els (tabs++[9]) (by omega) h ok.saneF ht1
   split
   ·simp
   simp only [length_append,length_cons,length_nil];omega
  have hn:(1 <= s.kind /\ s.kind <= 4) -> s.name.data.toList.length <= 16:=fun h=>by
   have h2:=hok.1
   obtain ⟨k,n,e,r,a,t,f⟩:=s
   rw [bK9] at h2
   simp only [Bool.and_eq_true] at h2
   have h3:=h2.1.1.1.1.1.1.2
   have h:1 <= k /\ k <= 4:=h
   rw [if_pos h] at h3
   exact nL h3
  have hs1:(bY tabs s).length <= s.wt*3000000:=by
   rw [gD]
   have hk:s.kind=1∨s.kind=2∨s.kind=3∨s.kind=4∨s.kind=5∨s.kind=6∨s.kind=7∨s.kind=8∨(¬s.kind=1 /\ ¬s.kind=2 /\ ¬s.kind=3 /\ ¬s.kind=4 /\ ¬s.kind=5 /\ ¬s.kind=6 /\ ¬s.kind=7 /\ ¬s.kind=8):=by omega
   rcases hk with h|h|h|h|h|h|h|h|h
   ·have:=hE (by omega);have:=hn (by omega);rw [tP h];simp only [length_append,length_cons,length_nil];omega
   ·have:=hE (by omega);have:=hn (by omega);rw [tT h];simp only [length_append,length_cons,length_nil];omega
   ·have:=hn (by omega);rw [tZ h];simp only [length_append,length_cons,length_nil];omega
   ·have:=hn (by omega);rw [tH h];simp only [length_append,length_cons,length_nil];omega
   ·have:=hR (by omega);rw [uD h];simp only [length_append,length_cons,length_nil];omega
   ·have:=hR (by omega);rw [tI h];simp only [length_append,length_cons,length_nil];omega
   ·have:=hE (by omega);have:=hT (by omega);rw [pU h];simp only [length_append,length_cons,length_nil] at hF⊢;omega
   ·have:=hE (by omega);have:=hT (by omega);rw [pV h];simp only [length_append,length_cons,length_nil] at hF⊢;omega
   rw [uB h];simp only [length_append,length_cons,length_nil];omega
  rw [aC,wtS,length_append];omega
theorem sH{α:Type}(f:α -> List UInt8)(g:α -> Nat)(c:Nat):∀l:List α,(∀x,x∈l -> (f x).length <= g x*c) -> ((l.map f).flatten).length <= (l.map g).sum*c
 |[],_=>by simp
 |x::r,h=>by
  have h1:=sH f g c r (fun y hy=>h y (by simp [hy]))
  have h2:=h x (by simp)
  simp only [List.map_cons,List.flatten_cons,length_append,List.sum_cons,Nat.add_mul];omega
theorem aO9{α:Type}(l:List α):(l.map fun _=>1).sum=l.length:=by induction l with|nil=>rfl|cons a l ih=>simp [ih];omega
theorem aAd{p:cK}(hs:p.sane)(h:nY p=true):(cR p).length <= p.wt*3000000:=by
 unfold nY at h
 simp only [Bool.and_eq_true] at h
 obtain ⟨⟨⟨-,hg⟩,hm⟩,hf⟩:=h
 have h1:=sH aU (fun _=>1) 3000000 p.globals (fun g hgm=>by
  have h2:=List.all_eq_true.1 hg g hgm
  unfold gH at h2
  rw [Bool.and_eq_true] at h2
  have h3:=nL h2.1
  have h4:=pS (hs.globals g hgm).1
  unfold aU;split<;>(simp only [length_append,length_cons,length_nil];omega))
 have h2:=sH bE (fun _=>1) 3000000 p.mutexes (fun m hmm=>by
  have h2:=List.all_eq_true.1 hm m hmm
  unfold fS at h2
  simp only [Bool.and_eq_true] at h2
  have h3:=nL h2.1.1
  have h4:=pS (hs.mutexes m hmm).1
  unfold bE;split<;>split<;>(simp only [length_append,length_cons,length_nil];omega))
 have h3:=sH funcText bS.wt 3000000 p.funcs (fun f hfm=>by
  have h2:=List.all_eq_true.1 hf f hfm
  unfold gW at h2
  simp only [Bool.and_eq_true,decide_eq_true_eq] at h2
  have h3:=nL h2.1.1.1
  have h4:=oJ _ 0 f.body [9] (Nat.le_refl _) h2.1.2 (hs.funcs f hfm).2.2 (by decide)
  have h5:(bW bX f.params).length <= f.params.length*30:=by
   have:∀(l:List aS),(∀x,x∈l -> bQ x.name=true) -> (bW bX l).length <= l.length*30:=by
    intro l
    induction l with
    |nil=>intro _;simp [bW]
    |cons x l ih=>
     intro hx
     have h6:=ih (fun y hy=>hx y (by simp [hy]))
     have h7:=nL (hx x (by simp))
     have h8:(bX x).length <= 22:=by unfold bX;split<;>(simp only [length_append,length_cons,length_nil];omega)
     have h9:(bW bX (x::l)).length <= (bX x).length+2+(bW bX l).length:=by
      cases l with
      |nil=>simp [bW]
      |cons b r=>simp [bW];omega
     simp only [length_cons];omega
   exact this f.params (List.all_eq_true.1 h2.2)
  rw [wP];unfold bS.wt
  simp only [length_append,length_cons,length_nil];omega)
 rw [aO9] at h1 h2
 unfold cR cK.wt
 simp only [length_append];omega
theorem yD{α:Type}(f:α -> Bool)(l:List α)(h:∀i (h:i<l.length),f l[i]=true):l.all f=true:=List.all_eq_true.2 fun x hx=>by obtain ⟨i,hi,rfl⟩:=List.getElem_of_mem hx;exact h i hi
end
end Go.Proofs.YtojinfngbbajgaaGreatDoor
