import Derived.Test.YtlmpchoaebhhmaaGreatDoorL5J
import Derived.Test.YtlmpchoaebhhmaaGreatDoorL19J
import Derived.Test.YtlmpchoaebhhmaaGreatDoorL7J
import Derived.Test.YtlmpchoaebhhmaaGreatDoorL8J
import Derived.Test.YtlmpchoaebhhmaaGreatDoorL16J
import Derived.Test.YtlmpchoaebhhmaaGreatDoorL12J
import Derived.Test.YtlmpchoaebhhmaaGreatDoorL6J
set_option linter.all false
set_option synthInstance.maxHeartbeats 1000000
set_option synthInstance.maxSize 1000000
set_option maxHeartbeats 1600000
set_option maxRecDepth 100000
namespace Go.Proofs.YtlmpchoaebhhmaaGreatDoor
open Go.Proofs.Tryz
open List (length_append length_cons length_nil mem_append mem_cons not_mem_nil append_assoc getElem_mem take_of_length_le)
section
open Go.RowKit
theorem wF:∀(N:Nat)(D:Nat)(l:List aJ),wtS l <= N -> N <= 900000000 -> gC l -> D <= 1000000000-N -> ∀s:Sto,aL prog 45 [.c (.sl l.length (l.flatMap encS)),nI D] [] s fun t s'=>t=.c (.val (.bool (bM D l))) /\ s'=s
 |0,D,l,hw,hN,hs,hD,s=>by
  have h0:=uZ l
  exact uP D l hs (by omega) (fun k hk=>by omega) (fun k hk=>by omega) s
 |N+1,D,l,hw,hN,hs,hD,s=>by
  have hp:∀k (hk:k<l.length),wtS l[k].thn <= N /\ wtS l[k].els <= N /\ gC l[k].thn /\ gC l[k].els:=fun k hk=>by
   have h3:=uF l k hk
   rw [gD] at h3
   have h4:=yW (oS _ hs _ (getElem_mem hk))
   exact ⟨by omega,by omega,h4.2.2.2.2.1,h4.2.2.2.2.2⟩
  exact uP D l hs (by omega) (fun k hk s=>wF N (D+1) l[k].thn (hp k hk).1 (by omega) (hp k hk).2.2.1 (by omega) s)
   (fun k hk s=>wF N (D+1) l[k].els (hp k hk).2.1 (by omega) (hp k hk).2.2.2 (by omega) s) s
theorem nL{s:ByteArray}(h:bQ s=true):s.data.toList.length <= 16:=by
 unfold bQ at h
 split at h
 ·cases h
 simp only [Bool.and_eq_true,decide_eq_true_eq] at h;exact h.1.2
mutual
theorem zK:∀(e:aH),e.sane -> eO e=true -> e.tame
 |.mk op num name args,hs,h=>by
  have hv:=yT _ hs h
  rw [aH.sane] at hs
  rw [eO] at h
  simp only [Bool.and_eq_true] at h
  rw [aH.tame]
  refine ⟨?_,?_,xH args hs.2.2 h.2⟩
  ·cases hv with
   |num n hn=>show ((n:Nat):Int).natAbs<_;omega
   |_=>decide
  ·cases hv with
   |name s hn=>exact Nat.le_trans (nL hn) (by decide)
   |_=>decide
theorem xH:∀(l:List aH),iI l -> dY l=true -> oG l
 |[],_,_=>by rw [oG];trivial
 |y::l,hs,h=>by
  rw [iI] at hs
  rw [dY,Bool.and_eq_true] at h
  rw [oG]
  exact ⟨zK y hs.1 h.1,xH l hs.2 h.2⟩
end
theorem tU{e:aH}(hs:e.sane)(h:eO e=true):(aP e).length <= e.nodes*2000000:=by
 have:=vQ e.nodes e (Nat.le_refl _) (zK e hs h);omega
theorem aA6{r:cY}(hs:r.sane)(h:okRefB r=true):(dC r).length <= r.wt*2000000:=by
 obtain ⟨h1,h2,h3⟩:=xE h
 have h4:=nL h1
 unfold cY.wt
 rcases h2 with h2|h2
 ·rw [aCa h2];omega
 have h0:0<r.index.length:=by omega
 have h5:=nM r.index 0 h0
 have h6:=tU (mV _ hs.2 _ (getElem_mem h0)) (kR (h3 _ (getElem_mem h0)))
 rw [wI h0];simp only [length_append,length_cons,length_nil];omega
theorem aAp:∀(l:List eN),(∀a,a∈l -> a.sane) -> (∀a,a∈l -> fY a=true) -> (bW dE l).length <= wtA l*2000010
 |[],_,_=>by simp [bW]
 |a::l,hs,h=>by
  have h1:=aAp l (fun x hx=>hs x (by simp [hx])) (fun x hx=>h x (by simp [hx]))
  have h2:(dE a).length+2 <= a.wt*2000010:=by
   have h3:=xN (h a (by simp))
   have h4:=hs a (by simp)
   unfold eN.wt
   cases hm:a.mutex with
   |true=>rw [pD hm];have:=aA6 h4.1 (h3.1 hm);simp only [length_append,length_cons,length_nil];omega
   |false=>rw [oZ hm];have:=tU h4.2 (kR (h3.2 hm));omega
  have h5:(bW dE (a::l)).length <= (dE a).length+2+(bW dE l).length:=by
   cases l with
   |nil=>simp [bW]
   |cons b r=>simp [bW];omega
  rw [wtA];omega
theorem oJ:∀(N D:Nat)(l:List aJ)(tabs:List UInt8),wtS l <= N -> bM D l=true -> gC l -> tabs.length <= D+1 -> (aC tabs l).length <= wtS l*3000000
 |_,_,[],_,_,_,_,_=>by rw [aC];simp
 |0,D,s::l,tabs,hw,_,_,_=>by rw [wtS,gD] at hw;omega
 |N+1,D,s::l,tabs,hw,hok,hs,ht=>by
  have hD:=iL D _ hok
  rw [bM,Bool.and_eq_true] at hok
  rw [gC] at hs
  rw [wtS,gD] at hw
  have ok:=aHv hs.1 hok.1
  have h1:=oJ (N+1) D l tabs (by omega) hok.2 hs.2 ht
  have ht1:(tabs++[(9:UInt8)]).length <= D+1+1:=by simp;omega
  have hE:(s.kind=1∨s.kind=2∨s.kind=7∨s.kind=8) -> (aP s.expr).length <= s.expr.nodes*2000000:=fun h=>tU ok.saneE (ok.expr h)
  have hR:(s.kind=5∨s.kind=6) -> (dC s.ref).length <= s.ref.wt*2000000:=fun h=>aA6 ok.saneR (ok.ref h)
  have hA:(dF s.args).length <= wtA s.args*2000010+2:=by have:=aAp s.args ok.saneA ok.args;unfold dF;simp only [length_append,length_cons,length_nil];omega
  have hT:(s.kind=7∨s.kind=8) -> (aC (tabs++[9]) s.thn).length <= wtS s.thn*3000000:=fun h=>oJ N (D+1) s.thn (tabs++[9]) (by omega) (ok.thn h) ok.saneT ht1
  have hF:(if s.els.length=0 then ([]:List UInt8) else [32,101,108,115,101,32,123,10]++aC (tabs++[9]) s.els++tabs++[125]).length <= wtS s.els*3000000+40:=by
   rcases ok.els with h|h
   ·rw [if_pos h];simp
   have:=oJ N (D+1) s.els (tabs++[9]) (by omega) h ok.saneF ht1
   split
   ·simp
   simp only [length_append,length_cons,length_nil];omega
  have hn:(1 <= s.kind /\ s.kind <= 4) -> s.name.data.toList.length <= 16:=fun h=>by
   have h2:=hok.1
   obtain ⟨k,n,e,r,a,t,f⟩:=s
   rw [hZ] at h2
   simp only [Bool.and_eq_true] at h2
   have h3:=h2.1.1.1.1.1.1.2
   have h:1 <= k /\ k <= 4:=h
   rw [if_pos h] at h3
   exact nL h3
  have hs1:(bY tabs s).length <= s.wt*3000000:=by
   rw [gD]
   have hk:s.kind=1∨s.kind=2∨s.kind=3∨s.kind=4∨s.kind=5∨s.kind=6∨s.kind=7∨s.kind=8∨(¬s.kind=1 /\ ¬s.kind=2 /\ ¬s.kind=3 /\ ¬s.kind=4 /\ ¬s.kind=5 /\ ¬s.kind=6 /\ ¬s.kind=7 /\ ¬s.kind=8):=by omega
   rcases hk with h|h|h|h|h|h|h|h|h
   ·have:=hE (by omega);have:=hn (by omega);rw [tP h];simp only [length_append,length_cons,length_nil];omega
   ·have:=hE (by omega);have:=hn (by omega);rw [tT h];simp only [length_append,length_cons,length_nil];omega
   ·have:=hn (by omega);rw [tZ h];simp only [length_append,length_cons,length_nil];omega
   ·have:=hn (by omega);rw [tH h];simp only [length_append,length_cons,length_nil];omega
   ·have:=hR (by omega);rw [uD h];simp only [length_append,length_cons,length_nil];omega
   ·have:=hR (by omega);rw [tI h];simp only [length_append,length_cons,length_nil];omega
   ·have:=hE (by omega);have:=hT (by omega);rw [pU h];simp only [length_append,length_cons,length_nil] at hF⊢;omega
   ·have:=hE (by omega);have:=hT (by omega);rw [pV h];simp only [length_append,length_cons,length_nil] at hF⊢;omega
   rw [uB h];simp only [length_append,length_cons,length_nil];omega
  rw [aC,wtS,length_append];omega
theorem sH{α:Type}(f:α -> List UInt8)(g:α -> Nat)(c:Nat):∀l:List α,(∀x,x∈l -> (f x).length <= g x*c) -> ((l.map f).flatten).length <= (l.map g).sum*c
 |[],_=>by simp
 |x::r,h=>by
  have h1:=sH f g c r (fun y hy=>h y (by simp [hy]))
  have h2:=h x (by simp)
  simp only [List.map_cons,List.flatten_cons,length_append,List.sum_cons,Nat.add_mul];omega
theorem aO9{α:Type}(l:List α):(l.map fun _=>1).sum=l.length:=by induction l with|nil=>rfl|cons a l ih=>simp [ih];omega
theorem aAd{p:cK}(hs:p.sane)(h:nY p=true):(cR p).length <= p.wt*3000000:=by
 unfold nY at h
 simp only [Bool.and_eq_true] at h
 obtain ⟨⟨⟨-,hg⟩,hm⟩,hf⟩:=h
 have h1:=sH aU (fun _=>1) 3000000 p.globals (fun g hgm=>by
  have h2:=List.all_eq_true.1 hg g hgm
  unfold gH at h2
  rw [Bool.and_eq_true] at h2
  have h3:=nL h2.1
  have h4:=pS (hs.globals g hgm).1
  unfold aU;split<;>(simp only [length_append,length_cons,length_nil];omega))
 have h2:=sH bE (fun _=>1) 3000000 p.mutexes (fun m hmm=>by
  have h2:=List.all_eq_true.1 hm m hmm
  unfold fS at h2
  simp only [Bool.and_eq_true] at h2
  have h3:=nL h2.1.1
  have h4:=pS (hs.mutexes m hmm).1
  unfold bE;split<;>split<;>(simp only [length_append,length_cons,length_nil];omega))
 have h3:=sH funcText bS.wt 3000000 p.funcs (fun f hfm=>by
  have h2:=List.all_eq_true.1 hf f hfm
  unfold gW at h2
  simp only [Bool.and_eq_true,decide_eq_true_eq] at h2
  have h3:=nL h2.1.1.1
  have h4:=oJ _ 0 f.body [9] (Nat.le_refl _) h2.1.2 (hs.funcs f hfm).2.2 (by decide)
  have h5:(bW bX f.params).length <= f.params.length*30:=by
   have:∀(l:List aS),(∀x,x∈l -> bQ x.name=true) -> (bW bX l).length <= l.length*30:=by
    intro l
    induction l with
    |nil=>intro _;simp [bW]
    |cons x l ih=>
     intro hx
     have h6:=ih (fun y hy=>hx y (by simp [hy]))
     have h7:=nL (hx x (by simp))
     have h8:(bX x).length <= 22:=by unfold bX;split<;>(simp only [length_append,length_cons,length_nil];omega)
     have h9:(bW bX (x::l)).length <= (bX x).length+2+(bW bX l).length:=by
      cases l with
      |nil=>simp [bW]
      |cons b r=>simp [bW];omega
     simp only [length_cons];omega
   exact this f.params (List.all_eq_true.1 h2.2)
  rw [wP];unfold bS.wt
  simp only [length_append,length_cons,length_nil];omega)
 rw [aO9] at h1 h2
 unfold cR cK.wt
 simp only [length_append];omega
theorem yJ{p:cK}(h:¬(p.globals.length <= 16 /\ p.mutexes.length <= 12 /\ p.funcs.length <= 16)):jI p=false:=by
 unfold jI;rw [decide_eq_false h];rfl
theorem aMu{p:cK}(k:Nat)(h:k<p.globals.length)(hb:gH p.globals[k]=false):jI p=false:=by
 unfold jI;rw [oA gH _ k h hb];simp
theorem aDn{p:cK}(k:Nat)(h:k<p.mutexes.length)(hb:fS p.mutexes[k]=false):jI p=false:=by
 unfold jI;rw [oA fS _ k h hb];simp
theorem aDv{p:cK}(k:Nat)(h:k<p.funcs.length)(hb:gW p.funcs[k]=false):jI p=false:=by
 unfold jI;rw [oA gW _ k h hb];simp
theorem yD{α:Type}(f:α -> Bool)(l:List α)(h:∀i (h:i<l.length),f l[i]=true):l.all f=true:=List.all_eq_true.2 fun x hx=>by obtain ⟨i,hi,rfl⟩:=List.getElem_of_mem hx;exact h i hi
theorem aPt(p:cK)(hs:p.sane)(hw:p.wt <= 100000000)(s:Sto):aL prog 22 [.agg (jV p)] [] s fun t s'=>t=.c (.val (.bool (jI p))) /\ s'=s:=by
 obtain ⟨bx,rw⟩:=s
 have hw1:=hw
 unfold cK.wt at hw1
 have hfn:=aDr bS.wt (fun x=>by unfold bS.wt;omega) p.funcs
 refine acB func22 rfl ?_
 show AWp prog _ ⟨140,_,⟨bx,rw⟩,[(0,.agg (jV p))]⟩ _
 refine go 12 fun b1=>?_
 by_cases h1:(16:Int)<((p.globals.length:Nat):Int)
 ·refine wcp true rfl (mH h1) ?_
  refine go 22 ?_
  exact bHe (s':=⟨bx,rw⟩) rfl sb1 ⟨cX (yJ (by omega)),rfl⟩
 refine wcp false rfl (mI h1) ?_
 refine go 4 ?_
 by_cases h3:(12:Int)<((p.mutexes.length:Nat):Int)
 ·refine wcp true rfl (mH h3) ?_
  refine go 17 ?_
  exact bHe (s':=⟨bx,rw⟩) rfl sb1 ⟨cX (yJ (by omega)),rfl⟩
 refine wcp false rfl (mI h3) ?_
 refine go 5 ?_
 by_cases h5:(16:Int)<((p.funcs.length:Nat):Int)
 ·refine wcp true rfl (mH h5) ?_
  refine go 11 ?_
  exact bHe (s':=⟨bx,rw⟩) rfl sb1 ⟨cX (yJ (by omega)),rfl⟩
 refine wcp false rfl (mI h5) ?_
 refine go 13 ?_
 refine lE (fun k=>∀q (h:q<p.globals.length),q<k -> gH p.globals[q]=true) (p.globals.length) 3 (fun k=>[(1,pP b1)]) (fun _ _ h=>absurd h (by omega)) (sA rfl) fun k hk hvk=>?_
 replace hvk:∀q (h:q<p.globals.length),q<k -> gH p.globals[q]=true:=hvk
 show AWp prog _ ⟨140,_,_,(3,nI k)::[(1,pP b1)]⟩ _
 refine go 7 ?_
 by_cases h8:((k:Nat):Int)<((p.globals.length:Nat):Int)
 ·refine wcp true rfl (jZ h8) ?_
  refine go 9 ?_
  have hgs:=hs.globals p.globals[k] (getElem_mem _)
  refine go 3 ?_
  refine wyz rfl (bH dB dB p.globals nS (fun _=>rfl) k rfl rfl rfl rfl (by omega) (by decide) runUnderlying31 sizeOf69) ?_
  refine go 2 ?_
  refine wc0 rfl call44 rfl (pG p.globals[k].name hgs.2 _) ?_
  rintro _ _ ⟨hr10,rfl⟩
  rcases Bool.eq_false_or_eq_true (bQ p.globals[k].name) with h11|h11
  ·rw [h11] at hr10
   subst hr10
   refine go 5 ?_
   refine wyz rfl (bH dB dB p.globals nS (fun _=>rfl) k rfl rfl rfl rfl (by omega) (by decide) runUnderlying31 sizeOf69) ?_
   refine go 2 ?_
   by_cases h12:p.globals[k].init=-9223372036854775808
   ·refine wcp true rfl (eR h12) ?_
    refine go 15 ?_
    exact bHe (s':=⟨bx,rw⟩) rfl sb1 ⟨cX (aMu k (by omega) (by unfold gH;rw [h11,decide_eq_false (by omega)];rfl)),rfl⟩
   refine wcp false rfl (eD h12) ?_
   refine go 9 ?_
   refine wad rfl ?_
   refine go 2 ?_
   exact ⟨by omega,(fun q hq hlt2=>(Nat.lt_or_ge q k).elim (fun h9=>hvk q hq h9) (fun h9=>by have h8:k=q:=(by omega);subst h8;exact (by unfold gH;rw [h11,decide_eq_true (by omega)];rfl))),(aG rfl (gQ (by omega)) (sA rfl))⟩
  rw [h11] at hr10
  subst hr10
  refine go 24 ?_
  exact bHe (s':=⟨bx,rw⟩) rfl sb1 ⟨cX (aMu k (by omega) (by unfold gH;rw [h11];rfl)),rfl⟩
 refine wcp false rfl (jQ h8) ?_
 refine go 15 ?_
 refine lE (fun i=>∀q (h:q<p.mutexes.length),q<i -> fS p.mutexes[q]=true) (p.mutexes.length) 4 (fun i=>[(1,pP b1)]) (fun _ _ h=>absurd h (by omega)) (sA rfl) fun i hi hvi=>?_
 replace hvi:∀q (h:q<p.mutexes.length),q<i -> fS p.mutexes[q]=true:=hvi
 show AWp prog _ ⟨140,_,_,(4,nI i)::[(1,pP b1)]⟩ _
 refine go 7 ?_
 by_cases h17:((i:Nat):Int)<((p.mutexes.length:Nat):Int)
 ·refine wcp true rfl (jZ h17) ?_
  refine go 9 ?_
  have hms:=hs.mutexes p.mutexes[i] (getElem_mem _)
  refine go 3 ?_
  refine wyz rfl (bH bT bT p.mutexes mZ (fun _=>rfl) i rfl rfl rfl rfl (by omega) (by decide) runUnderlying32 sizeOf71) ?_
  refine go 9 fun b2=>?_
  refine wc0 rfl call44 rfl (pG p.mutexes[i].name hms.2 _) ?_
  rintro _ _ ⟨hr19,rfl⟩
  rcases Bool.eq_false_or_eq_true (bQ p.mutexes[i].name) with h20|h20
  ·rw [h20] at hr19
   subst hr19
   refine go 4 ?_
   by_cases h21:p.mutexes[i].size<0
   ·refine wcp true rfl (jZ h21) ?_
    refine go 29 ?_
    exact bHe (s':=⟨bx,rw⟩) rfl sb2 ⟨cX (aDn i (by omega) (by unfold fS;rw [decide_eq_false (show ¬(0 <= p.mutexes[i].size /\ p.mutexes[i].size <= 64) by omega)];simp)),rfl⟩
   refine wcp false rfl (jQ h21) ?_
   refine go 4 ?_
   by_cases h23:(64:Int)<p.mutexes[i].size
   ·refine wcp true rfl (mH h23) ?_
    refine go 24 ?_
    exact bHe (s':=⟨bx,rw⟩) rfl sb2 ⟨cX (aDn i (by omega) (by unfold fS;rw [decide_eq_false (show ¬(0 <= p.mutexes[i].size /\ p.mutexes[i].size <= 64) by omega)];simp)),rfl⟩
   refine wcp false rfl (mI h23) ?_
   refine go 3 ?_
   rcases Bool.eq_false_or_eq_true (p.mutexes[i].reentrant) with h25|h25
   ·refine wyz rfl (fL (bZ h25) (aX [] rfl rfl rfl isAgg4 sizeOf4 rfl (fun _ h=>by cases h))) ?_
    refine go 3 ?_
    by_cases h26:(0:Int)<p.mutexes[i].size
    ·refine wcp true rfl (mH h26) ?_
     refine go 16 ?_
     exact bHe (s':=⟨bx,rw⟩) rfl sb2 ⟨cX (aDn i (by omega) (by unfold fS;rw [h20,decide_eq_true (show 0 <= p.mutexes[i].size /\ p.mutexes[i].size <= 64 by omega),h25,decide_eq_true (show 0<p.mutexes[i].size by omega)];rfl)),rfl⟩
    refine wcp false rfl (mI h26) ?_
    refine go 10 ?_
    refine wad rfl ?_
    refine go 2 ?_
    exact ⟨by omega,(fun q hq hlt2=>(Nat.lt_or_ge q i).elim (fun h9=>hvi q hq h9) (fun h9=>by have h8:i=q:=(by omega);subst h8;exact (by unfold fS;rw [h20,decide_eq_true (show 0 <= p.mutexes[i].size /\ p.mutexes[i].size <= 64 by omega),h25,decide_eq_false (show ¬0<p.mutexes[i].size by omega)];rfl))),cA (.cons _ (.refl _)) (.refl _) (fun b hb=>List.mem_cons_of_mem _ (hb)) (aG rfl (gQ (by omega)) (sA rfl))⟩
   refine wyz rfl (fL (bZ h25) (aX [] rfl rfl rfl isAgg4 sizeOf4 rfl (fun _ h=>by cases h))) ?_
   refine go 14 ?_
   refine wad rfl ?_
   refine go 2 ?_
   exact ⟨by omega,(fun q hq hlt2=>(Nat.lt_or_ge q i).elim (fun h9=>hvi q hq h9) (fun h9=>by have h8:i=q:=(by omega);subst h8;exact (by unfold fS;rw [h20,decide_eq_true (show 0 <= p.mutexes[i].size /\ p.mutexes[i].size <= 64 by omega),h25];rfl))),cA (.cons _ (.refl _)) (.refl _) (fun b hb=>List.mem_cons_of_mem _ (hb)) (aG rfl (gQ (by omega)) (sA rfl))⟩
  rw [h20] at hr19
  subst hr19
  refine go 34 ?_
  exact bHe (s':=⟨bx,rw⟩) rfl sb2 ⟨cX (aDn i (by omega) (by unfold fS;rw [h20];rfl)),rfl⟩
 refine wcp false rfl (jQ h17) ?_
 refine go 15 ?_
 refine lE (fun f=>∀q (h:q<p.funcs.length),q<f -> gW p.funcs[q]=true) (p.funcs.length) 6 (fun f=>[(1,pP b1)]) (fun _ _ h=>absurd h (by omega)) (sA rfl) fun f hf hvf=>?_
 replace hvf:∀q (h:q<p.funcs.length),q<f -> gW p.funcs[q]=true:=hvf
 show AWp prog _ ⟨140,_,_,(6,nI f)::[(1,pP b1)]⟩ _
 refine go 7 ?_
 by_cases h32:((f:Nat):Int)<((p.funcs.length:Nat):Int)
 ·refine wcp true rfl (jZ h32) ?_
  refine go 9 ?_
  have hfl:f<p.funcs.length:=by omega
  have hfs:=hs.funcs p.funcs[f] (getElem_mem hfl)
  have hfw:=aDi bS.wt p.funcs f hfl
  rw [show bS.wt p.funcs[f]=1+p.funcs[f].params.length+wtS p.funcs[f].body from rfl] at hfw
  refine go 3 ?_
  refine wyz rfl (bH fV fV p.funcs vC (fun _=>rfl) f rfl rfl rfl rfl (by omega) (by decide) runUnderlying33 sizeOf44) ?_
  refine go 10 fun b3=>?_
  refine wc0 rfl call44 rfl (pG p.funcs[f].name hfs.1 _) ?_
  rintro _ _ ⟨hr34,rfl⟩
  rcases Bool.eq_false_or_eq_true (bQ p.funcs[f].name) with h35|h35
  ·rw [h35] at hr34
   subst hr34
   refine go 5 ?_
   by_cases h36:(6:Int)<((p.funcs[f].params.length:Nat):Int)
   ·refine wcp true rfl (mH h36) ?_
    refine go 22 ?_
    exact bHe (s':=⟨bx,rw⟩) rfl sb2 ⟨cX (aDv f (by omega) (by unfold gW;rw [decide_eq_false (show ¬p.funcs[f].params.length <= 6 by omega)];simp)),rfl⟩
   refine wcp false rfl (mI h36) ?_
   refine go 4 ?_
   refine wc0 rfl call45 rfl (wF _ 0 p.funcs[f].body (Nat.le_refl _) (by omega) hfs.2.2 (by omega) _) ?_
   rintro _ _ ⟨hr38,rfl⟩
   rcases Bool.eq_false_or_eq_true (bM 0 p.funcs[f].body) with h39|h39
   ·rw [h39] at hr38
    subst hr38
    refine go 13 ?_
    refine lE (fun j=>∀q (h:q<p.funcs[f].params.length),q<j -> bQ p.funcs[f].params[q].name=true) (p.funcs[f].params.length) 8 (fun j=>[(1,pP b1),(6,nI f),(7,pP b3)]) (fun _ _ h=>absurd h (by omega)) (sA rfl) fun j hj hvj=>?_
    replace hvj:∀q (h:q<p.funcs[f].params.length),q<j -> bQ p.funcs[f].params[q].name=true:=hvj
    show AWp prog _ ⟨140,_,_,(8,nI j)::[(1,pP b1),(6,nI f),(7,pP b3)]⟩ _
    refine go 7 ?_
    by_cases h41:((j:Nat):Int)<((p.funcs[f].params.length:Nat):Int)
    ·refine wcp true rfl (jZ h41) ?_
     refine go 12 ?_
     refine wyz rfl (bH cP cP p.funcs[f].params gL (fun _=>rfl) j rfl rfl rfl rfl (by omega) (by decide) runUnderlying41 sizeOf73) ?_
     refine go 2 ?_
     refine wc0 rfl call44 rfl (pG p.funcs[f].params[j].name (hfs.2.1 _ (getElem_mem _)) _) ?_
     rintro _ _ ⟨hr43,rfl⟩
     rcases Bool.eq_false_or_eq_true (bQ p.funcs[f].params[j].name) with h44|h44
     ·rw [h44] at hr43
      subst hr43
      refine go 9 ?_
      refine wad rfl ?_
      refine go 2 ?_
      exact ⟨by omega,(fun q hq hlt2=>(Nat.lt_or_ge q j).elim (fun h9=>hvj q hq h9) (fun h9=>by have h8:j=q:=(by omega);subst h8;exact h44)),(aG rfl (gQ (by omega)) (sA rfl))⟩
     rw [h44] at hr43
     subst hr43
     refine go 19 ?_
     exact bHe (s':=⟨bx,rw⟩) rfl sb2 ⟨cX (aDv f (by omega) (by unfold gW;rw [oA (fun x:aS=>bQ x.name) _ j (by omega) h44];simp)),rfl⟩
    refine wcp false rfl (jQ h41) ?_
    refine go 11 ?_
    refine wad rfl ?_
    refine go 2 ?_
    exact ⟨by omega,(fun q hq hlt2=>(Nat.lt_or_ge q f).elim (fun h9=>hvf q hq h9) (fun h9=>by have h8:f=q:=(by omega);subst h8;exact (by unfold gW;rw [h35,decide_eq_true (show p.funcs[f].params.length <= 6 by omega),h39,yD _ _ (fun q hq=>hvj q hq (by omega))];rfl))),cA (.cons _ (.refl _)) (.refl _) (fun b hb=>List.mem_cons_of_mem _ (hb)) (aG rfl (gQ (by omega)) (sA rfl))⟩
   rw [h39] at hr38
   subst hr38
   refine go 17 ?_
   exact bHe (s':=⟨bx,rw⟩) rfl sb2 ⟨cX (aDv f (by omega) (by unfold gW;rw [h39];simp)),rfl⟩
  rw [h35] at hr34
  subst hr34
  refine go 28 ?_
  exact bHe (s':=⟨bx,rw⟩) rfl sb2 ⟨cX (aDv f (by omega) (by unfold gW;rw [h35];rfl)),rfl⟩
 refine wcp false rfl (jQ h32) ?_
 refine go 10 ?_
 have hform:nY p=true:=by unfold nY;rw [decide_eq_true (by omega),yD _ _ (fun q hq=>hvk q hq (by omega)),yD _ _ (fun q hq=>hvi q hq (by omega)),yD _ _ (fun q hq=>hvf q hq (by omega))];rfl
 have hpb:=aAd hs hform
 have hw0:p.wt <= 100000000:=hw
 have hnz:(cR p).length <= 1000000000000000:=by omega
 refine go 1 ?_
 refine wc0 rfl call46 rfl (aB2 p hform hs (by omega) hnz _) ?_
 rintro _ _ ⟨rfl,rfl⟩
 refine wo rfl (aDc rfl rfl (by decide) rfl underlying9 underlying23 underlying5 (by first|(rw [kT];omega)|omega) (N:=(cR p).length) rfl (cs:=iF (cR p)) rfl ?_)
 refine wc0 rfl call30 rfl (aLb (cR p) _) ?_
 rintro _ _ ⟨(⟨tl52,hlx52,rfl,htl52⟩|⟨p52,e52,hlx52,rfl,he52⟩),rfl⟩
 ·refine go 12 ?_
  refine wcp true rfl (by simp [bC]) ?_
  refine go 4 ?_
  exact bHe (s':=⟨bx,rw⟩) rfl sb1 ⟨cX (by rw [nX,hform,hlx52];rfl),rfl⟩
 refine go 12 ?_
 refine wcp false rfl (eD (by omega)) ?_
 refine go 4 ?_
 exact bHe (s':=⟨bx,rw⟩) rfl sb1 ⟨cX (by rw [nX,hform,hlx52];rfl),rfl⟩
theorem aNw(p:cK)(hs:p.sane)(hw:p.wt <= 100000000)(s:Sto):aL prog 24 [.agg (jV p)] [] s fun t s'=>t=.c (.val (.string (bytes (vI p)))) /\ s'=s:=by
 obtain ⟨bx,rw⟩:=s
 refine acB func24 rfl ?_
 show AWp prog _ ⟨8,_,⟨bx,rw⟩,[(0,.agg (jV p))]⟩ _
 refine go 10 fun b1=>?_
 refine wc0 rfl call22 rfl (aPt p hs hw _) ?_
 rintro _ _ ⟨hr1,rfl⟩
 rcases Bool.eq_false_or_eq_true (jI p) with h2|h2
 ·rw [h2] at hr1
  subst hr1
  refine go 8 ?_
  have hform:nY p=true:=by have h9:=h2;rw [nX,Bool.and_eq_true] at h9;exact h9.1
  have hpb:=aAd hs hform
  refine go 1 ?_
  refine wc0 rfl call46 rfl (aB2 p hform hs (by omega) (by omega) _) ?_
  rintro _ _ ⟨rfl,rfl⟩
  refine go 4 ?_
  exact bHe (s':=⟨bx,rw⟩) rfl sb1 ⟨oW (by unfold vI;rw [h2];rfl),rfl⟩
 rw [h2] at hr1
 subst hr1
 refine go 11 ?_
 exact bHe (s':=⟨bx,rw⟩) rfl sb1 ⟨oW (by unfold vI;rw [h2];rfl),rfl⟩
end
section
theorem dV{s:ByteArray}(h:bQ s=true):s.size <= 16:=by
 unfold bQ at h
 split at h
 ·cases h
 simp only [Bool.and_eq_true,decide_eq_true_eq] at h;exact h.1.2
theorem eT.nodes{names:List ByteArray}{d:Nat}{e:aH}(h:eT names d e):e.nodes+3 <= 4*2 ^ d:=by
 induction h with
 |@name d x h=>rw [aH.nodes,cZ];have:=Nat.one_le_two_pow (n:=d);omega
 |@num d n h0 h1=>rw [aH.nodes,cZ];have:=Nat.one_le_two_pow (n:=d);omega
 |@un d op e ho he ih=>rw [aH.nodes,cZ,cZ,Nat.pow_succ];have:=Nat.one_le_two_pow (n:=d);omega
 |@bin d op a b h0 h1 ha hb iha ihb=>rw [aH.nodes,cZ,cZ,cZ,Nat.pow_succ];have:=Nat.one_le_two_pow (n:=d);omega
theorem eT.tame{names:List ByteArray}{d:Nat}{e:aH}(hn:∀x,x∈names -> bQ x=true)(h:eT names d e):e.tame:=by
 induction h with
 |@name d x h=>rw [aH.tame];exact ⟨by decide,Nat.le_trans (dV (hn x h)) (by decide),by rw [oG];trivial⟩
 |@num d n h0 h1=>rw [aH.tame];exact ⟨by omega,by decide,by rw [oG];trivial⟩
 |@un d op e ho he ih=>rw [aH.tame];exact ⟨by decide,by decide,by rw [oG,oG];exact ⟨ih,trivial⟩⟩
 |@bin d op a b h0 h1 ha hb iha ihb=>rw [aH.tame];exact ⟨by decide,by decide,by rw [oG,oG,oG];exact ⟨iha,ihb,trivial⟩⟩
theorem sX{op:Int}(h0:5 <= op)(h1:op <= 17):aM op<5:=by
 unfold aM
 repeat' split
 all_goals omega
theorem aDj{op:Int}(h:op=3∨op=4):aM op=5:=by
 rcases h with rfl|rfl<;>rfl
theorem eT.shape{names:List ByteArray}{d:Nat}{e:aH}(hn:∀x,x∈names -> bQ x=true)(h:eT names d e):eO e=true:=by
 induction h with
 |@name d x h=>
  rw [eO,dY,show aM 2=6 from rfl,if_pos rfl,jG,arity,show aM 2=6 from rfl,if_pos rfl,hn x h];simp
 |@num d n h0 h1=>
  rw [eO,dY,show aM 1=6 from rfl,if_pos rfl,jG,arity,show aM 1=6 from rfl,if_pos rfl];simp [h0]
 |@un d op e ho he ih=>
  have hs:=aDj ho
  rw [eO,dY,dY,arity,hs,if_neg (by decide),if_neg (by decide),if_pos rfl,ih];simp
 |@bin d op a b h0 h1 ha hb iha ihb=>
  have hs:=sX h0 h1
  rw [eO,dY,dY,dY,arity,if_neg (by omega),if_neg (by omega),if_neg (by omega),iha,ihb];simp
theorem eT.height{names:List ByteArray}{d:Nat}{e:aH}(h:eT names d e):dI e <= 2*d:=by
 induction h with
 |@name d x h=>rw [dI,cF,if_neg (by decide)];omega
 |@num d n h0 h1=>rw [dI,cF,if_neg (by decide)];omega
 |@un d op e ho he ih=>rw [dI,cF,cF];split<;>split<;>omega
 |@bin d op a b h0 h1 ha hb iha ihb=>rw [dI,cF,cF,cF];split<;>split<;>split<;>omega
theorem eT.valid{names:List ByteArray}{d:Nat}{e:aH}(hn:∀x,x∈names -> bQ x=true)(h:eT names d e)(hd:d <= 12):dM e=true:=by
 rw [dM,h.shape hn,Bool.true_and,decide_eq_true_eq];have:=h.height;omega
theorem eT.sane{names:List ByteArray}{d:Nat}{e:aH}(hn:∀x,x∈names -> bQ x=true)(h:eT names d e):e.sane:=by
 induction h with
 |@name d x h=>rw [aH.sane];exact ⟨by unfold fit;omega,Nat.le_trans (dV (hn x h)) (by decide),by rw [iI];trivial⟩
 |@num d n h0 h1=>rw [aH.sane];exact ⟨by unfold fit;omega,by decide,by rw [iI];trivial⟩
 |@un d op e ho he ih=>rw [aH.sane];exact ⟨by unfold fit;omega,by decide,by rw [iI,iI];exact ⟨ih,trivial⟩⟩
 |@bin d op a b h0 h1 ha hb iha ihb=>rw [aH.sane];exact ⟨by unfold fit;omega,by decide,by rw [iI,iI,iI];exact ⟨iha,ihb,trivial⟩⟩
theorem rQ{n:Int}(h0:-9223372036854775808 <= n)(h1:n <= 9223372036854775807):(eH n).length <= 21:=by
 have:=kC n.natAbs (by omega)
 unfold eH
 split<;>simp<;>omega
theorem eT.len{names:List ByteArray}{d:Nat}{e:aH}(hn:∀x,x∈names -> bQ x=true)(h:eT names d e):(aP e).length+10 <= 31*2 ^ d:=by
 induction h with
 |@name d x h=>
  have h1:=dV (hn x h)
  have h2:x.data.toList.length=x.size:=rfl
  rw [aP,iX,if_neg (by decide),if_pos rfl];have:=Nat.one_le_two_pow (n:=d);omega
 |@num d n h0 h1=>
  have:=rQ (n:=n) (by omega) (by omega)
  rw [aP,iX,if_pos rfl];have:=Nat.one_le_two_pow (n:=d);omega
 |@un d op e ho he ih=>
  rw [aP,dP,dP,Nat.pow_succ]
  have hl:∀x:List UInt8,(iX op 0 aK [x]).length=x.length+1:=by
   intro x;rcases ho with rfl|rfl<;>simp [iX]
  rw [hl]
  have:=Nat.one_le_two_pow (n:=d)
  split
  ·simp only [length_append,length_cons,length_nil];omega
  ·omega
 |@bin d op a b h0 h1 ha hb iha ihb=>
  rw [aP,dP,dP,dP,Nat.pow_succ]
  have hs:=sX h0 h1
  have ho:=aAr op
  have hl:∀x y:List UInt8,(iX op 0 aK [x,y]).length=x.length+1+(iW op).length+1+y.length:=by
   intro x y;rw [iX,if_neg (by omega),if_neg (by omega),if_neg (by omega),if_neg (by omega),if_pos hs];simp;omega
  rw [hl]
  split<;>split<;>(try simp only [length_append,length_cons,length_nil])<;>omega
end
section
theorem aH.zero_sane:aH.zero.sane:=by unfold aH.zero;rw [aH.sane];exact ⟨by unfold fit;omega,by decide,by rw [iI];trivial⟩
theorem cY.zero_sane:cY.zero.sane:=⟨by decide,by show iI [];rw [iI];trivial⟩
theorem aH.zero_nodes:aH.zero.nodes=1:=by unfold aH.zero;rw [aH.nodes,cZ]
theorem cY.zero_wt:cY.zero.wt=1:=by unfold cY.wt cY.zero;rw [cZ]
def lC(l:List ByteArray):Prop:=∀x,x∈l -> bQ x=true
theorem mQ:hI .zero=true:=by simp [hI,aH.zero,aH.op,aH.num,aH.name,aH.args]
theorem jN:kM .zero=true:=by simp [kM,cY.zero]
section
variable {ms:List cL}{fs:List Sig}{ps:List aS}
theorem uA.ok{vars:List ByteArray}{r:cY}(hm:∀m,m∈ms -> bQ m.name=true)(hp:∀x,x∈ps -> bQ x.name=true)(hv:lC vars)(h:uA ms ps vars r):
  okRefB r=true /\ (r.sane /\ r.wt <= 7) /\ (dC r).length <= 70:=by
 have size:∀x:ByteArray,bQ x=true -> x.data.toList.length <= 16:=fun x h=>dV h
 cases h with
 |@arr m e h1 h2 he=>
  have hl:=he.len hv
  have:=size _ (hm m h1)
  refine ⟨by show (bQ m.name && dM e)=true;rw [hm m h1,he.valid hv (by omega)];rfl,⟨⟨Nat.le_trans (dV (hm m h1)) (by decide),by show iI [e];rw [iI,iI];exact ⟨he.sane hv,trivial⟩⟩,by have:=he.nodes;unfold cY.wt;show 1+cZ [e] <= 7;rw [cZ,cZ];omega⟩,?_⟩
  ·simp only [dC,length_append,length_cons,length_nil];omega
 |@scalar m h1 h2=>
  have:=size _ (hm m h1)
  exact ⟨by show (bQ m.name && true)=true;rw [hm m h1];rfl,⟨⟨Nat.le_trans (dV (hm m h1)) (by decide),by show iI [];rw [iI];trivial⟩,by unfold cY.wt;show 1+cZ [] <= 7;rw [cZ];omega⟩,by simp only [dC];omega⟩
 |@param x h1 h2=>
  have:=size _ (hp x h1)
  exact ⟨by show (bQ x.name && true)=true;rw [hp x h1];rfl,⟨⟨Nat.le_trans (dV (hp x h1)) (by decide),by show iI [];rw [iI];trivial⟩,by unfold cY.wt;show 1+cZ [] <= 7;rw [cZ];omega⟩,by simp only [dC];omega⟩
theorem nO{α:Type}(f:α -> List UInt8)(x:α)(l:List α):(bW f (x::l)).length <= (f x).length+2+(bW f l).length:=by
 cases l with
 |nil=>simp [bW]
 |cons y r=>simp [bW];omega
theorem nB.ok{vars:List ByteArray}{l:List aS}{al:List eN}(hm:∀m,m∈ms -> bQ m.name=true)(hp:∀x,x∈ps -> bQ x.name=true)(hv:lC vars)(h:nB ms ps vars l al):
  al.all fY=true /\ ((∀a,a∈al -> a.sane) /\ wtA al <= 15*l.length) /\ al.length=l.length /\ (bW dE al).length <= 122*l.length:=by
 induction h with
 |nil=>exact ⟨rfl,⟨(fun a h=>by simp at h),by rw [wtA];simp⟩,rfl,by simp [bW]⟩
 |@mutex x l al r hx hr h ih=>
  obtain ⟨i1,i2,i3,i4⟩:=ih
  obtain ⟨h1,h2,h3⟩:=hr.ok hm hp hv
  refine ⟨by rw [List.all_cons,i1,fY,if_pos rfl,h1,mQ];rfl,⟨?_,?_⟩,by simp [i3],?_⟩
  ·intro a ha
   rcases mem_cons.1 ha with rfl|ha
   ·exact ⟨h2.1,aH.zero_sane⟩
   exact i2.1 a ha
  ·have:=i2.2;have:=h2.2;rw [wtA];unfold eN.wt;rw [aH.zero_nodes,length_cons];show 1+r.wt+1+wtA al <= _;omega
  ·have:=nO dE ⟨true,r,.zero⟩ al
   have h4:(dE ⟨true,r,.zero⟩).length=6+(dC r).length:=by simp [dE];omega
   rw [length_cons];omega
 |@expr x l al e hx he h ih=>
  obtain ⟨i1,i2,i3,i4⟩:=ih
  have hl:=he.len hv
  refine ⟨by rw [List.all_cons,i1,fY,if_neg (by simp),jN,he.valid hv (by omega)];rfl,⟨?_,?_⟩,by simp [i3],?_⟩
  ·intro a ha
   rcases mem_cons.1 ha with rfl|ha
   ·exact ⟨cY.zero_sane,he.sane hv⟩
   exact i2.1 a ha
  ·have:=i2.2;have:=he.nodes;rw [wtA];unfold eN.wt;rw [cY.zero_wt,length_cons];show 1+1+e.nodes+wtA al <= _;omega
  have:=nO dE ⟨false,.zero,e⟩ al
  have h4:(dE ⟨false,.zero,e⟩).length=(aP e).length:=by simp [dE]
  rw [length_cons];omega
theorem aAe:∀left,left<24 -> bQ (cM left)=true:=by
 intro left h
 have:(List.range 24).all (fun k=>bQ (cM k))=true:=by kernel_rfl
 exact List.all_eq_true.1 this left (List.mem_range.2 h)
end
theorem qL(D:Nat)(hD:D<24):∀(a b:List aJ),bM D (a++b)=(bM D a && bM D b)
 |[],b=>by rw [List.nil_append,bM,decide_eq_true hD,Bool.true_and]
 |s::r,b=>by rw [List.cons_append,bM,bM,qL D hD r b,Bool.and_assoc]
theorem uJ:∀(a b:List aJ),gC (a++b)↔gC a /\ gC b
 |[],b=>by rw [List.nil_append,gC];simp
 |s::r,b=>by rw [List.cons_append,gC,gC,uJ r b,and_assoc]
theorem aAn:∀(a b:List aJ),wtS (a++b)=wtS a+wtS b
 |[],b=>by rw [List.nil_append,wtS];omega
 |s::r,b=>by rw [List.cons_append,wtS,wtS,aAn r b];omega
theorem qZ:gC []:=by rw [gC];trivial
structure SOk (D:Nat) (tabs:List UInt8) (n:Nat) (s:aJ):Prop where
 ok:hZ D s=true
 sane:s.sane
 wt:s.wt <= 60*n
 len:(bY tabs s).length <= 700*n
structure LOk (D:Nat) (tabs:List UInt8) (n:Nat) (l:List aJ):Prop where
 ok:bM D l=true
 sane:gC l
 wt:wtS l <= 60*n
 len:(aC tabs l).length <= 700*n
theorem LOk.cons{D n m k:Nat}{tabs:List UInt8}{s:aJ}{l:List aJ}(h:SOk D tabs n s)(hl:LOk D tabs m l)(hk:n+m <= k):LOk D tabs k (s::l):=
 ⟨by rw [bM,h.ok,hl.ok];rfl,by rw [gC];exact ⟨h.sane,hl.sane⟩,by rw [wtS];have:=h.wt;have:=hl.wt;omega,by rw [aC,length_append];have:=h.len;have:=hl.len;omega⟩
theorem LOk.cons'{D n m k:Nat}{tabs:List UInt8}{s:aJ}{l:List aJ}(hl:LOk D tabs m l)(h:SOk D tabs n s)(hk:n+m <= k):LOk D tabs k (s::l):=LOk.cons h hl hk
theorem LOk.nil{D n:Nat}{tabs:List UInt8}(hD:D<24):LOk D tabs n []:=
 ⟨by rw [bM];exact decide_eq_true hD,by rw [gC];trivial,by rw [wtS];omega,by rw [aC];simp⟩
section
variable {ms:List cL}{fs:List Sig}{ps:List aS}
theorem SOk.of{D n:Nat}{tabs:List UInt8}{k:Int}{name:ByteArray}{e:aH}{r:cY}{al:List eN}{t el:List aJ}
  (h0:1 <= k /\ k <= 9) (h1:(if 1 <= k /\ k <= 4 then bQ name else decide (name=aK))=true) (h2:(if k=1∨k=2∨k=7∨k=8 then dM e else hI e)=true)
  (h3:(if k=5∨k=6 then okRefB r else kM r)=true) (h4:(decide (k=3∨k=4)||decide (al.length=0))=true) (h5:al.all fY=true)
  (h6:(if k=7∨k=8 then bM (D+1) t else decide (t.length=0))=true) (h7:(decide (el.length=0)||(decide (k=7) && bM (D+1) el))=true)
  (hf:(aJ.mk k name e r al t el).sane) (hc:(aJ.mk k name e r al t el).wt <= 60*n) (hl:(bY tabs (.mk k name e r al t el)).length <= 700*n):SOk D tabs n (.mk k name e r al t el):=
 ⟨by rw [hZ,decide_eq_true h0,h1,h2,h3,h4,h5,h6,h7];rfl,hf,hc,hl⟩
theorem aAo{x:ByteArray}(h:bQ x=true):x.data.toList.length <= 16:=dV h
theorem yA{D:Nat}{tabs:List UInt8}{vars:List ByteArray}{k:Int}{r:cY}(hk:k=5∨k=6)(ht:tabs.length <= 4)(hm:∀m,m∈ms -> bQ m.name=true)(hp:∀x,x∈ps -> bQ x.name=true)(hv:lC vars)(h:uA ms ps vars r):
  SOk D tabs 1 (.mk k aK .zero r [] [] []) /\ (bY tabs (.mk k aK .zero r [] [] [])).length <= 90:=by
 obtain ⟨h1,h2,h3⟩:=h.ok hm hp hv
 have hl:(bY tabs (.mk k aK .zero r [] [] [])).length <= 90:=by
  rw [bY]
  rcases hk with rfl|rfl<;>simp<;>omega
 refine ⟨SOk.of (by omega) (by rw [if_neg (by omega)];exact decide_eq_true rfl) (by rw [if_neg (by omega)];exact mQ) (by rw [if_pos hk];exact h1) (by simp) rfl (by rw [if_neg (by omega)];rfl) (by simp) ?_ ?_ (by omega),hl⟩
 ·rw [aJ.sane];exact ⟨by decide,aH.zero_sane,h2.1,(fun a ha=>by cases ha),qZ,qZ⟩
 rw [gD];show 1+aH.zero.nodes+r.wt+wtA []+wtS []+wtS [] <= _;rw [aH.zero_nodes,wtA,wtS];have:=h2.2;omega
theorem dJ.ok{vars:List ByteArray}{deep left left':Nat}{l:List aJ}(hm:∀m,m∈ms -> bQ m.name=true)(hp:∀x,x∈ps -> bQ x.name=true)
  (hg:∀g,g∈fs -> bQ g.1=true /\ g.2.length <= 2) (h:dJ ms fs ps vars deep left l left'):
  lC vars -> left <= 24 -> ∀(D:Nat)(tabs:List UInt8),D+deep<24 -> tabs.length+deep <= 4 -> LOk D tabs (left-left') l:=by
 induction h with
 |nil=>intro _ _ D tabs hD _;exact .nil (by omega)
 |lock hr h ih=>
  intro hv hl D tabs hD ht
  have:=h.le
  exact (ih hv (by omega) D tabs hD ht).cons' (yA (.inl rfl) (by omega) hm hp hv hr).1 (by omega)
 |unlock hr h ih=>
  intro hv hl D tabs hD ht
  have:=h.le
  exact (ih hv (by omega) D tabs hD ht).cons' (yA (.inr rfl) (by omega) hm hp hv hr).1 (by omega)
 |@var vars deep left left' e rest he h ih=>
  intro hv hl D tabs hD ht
  have:=h.le
  have hn:=aAe left (by omega)
  have hnl:=aAo hn
  have hns:=dV hn
  have hel:=he.len hv
  refine (ih (fun x hx=>?_) (by omega) D tabs hD ht).cons' (n:=1) (SOk.of (by omega) (by rw [if_pos (by decide)];exact hn) (by rw [if_pos (by decide)];exact he.valid hv (by omega)) (by rw [if_neg (by decide)];exact jN) (by simp) rfl (by rw [if_neg (by decide)];rfl) (by simp) ?_ ?_ ?_) (by omega)
  ·rcases mem_append.1 hx with hx|hx
   ·exact hv x hx
   simp only [List.mem_singleton] at hx;subst hx;exact hn
  ·rw [aJ.sane];exact ⟨Nat.le_trans hns (by decide),he.sane hv,cY.zero_sane,(fun a ha=>by cases ha),qZ,qZ⟩
  ·rw [gD];show 1+e.nodes+cY.zero.wt+wtA []+wtS []+wtS [] <= _;rw [cY.zero_wt,wtA,wtS];have:=he.nodes;omega
  ·rw [bY];simp;omega
 |@assign vars deep left left' x e rest hx he h ih=>
  intro hv hl D tabs hD ht
  have:=h.le
  have hn:=hv x hx
  have hnl:=aAo hn
  have hns:=dV hn
  have hel:=he.len hv
  refine (ih hv (by omega) D tabs hD ht).cons' (n:=1) (SOk.of (by omega) (by rw [if_pos (by decide)];exact hn) (by rw [if_pos (by decide)];exact he.valid hv (by omega)) (by rw [if_neg (by decide)];exact jN) (by simp) rfl (by rw [if_neg (by decide)];rfl) (by simp) ?_ ?_ ?_) (by omega)
  ·rw [aJ.sane];exact ⟨Nat.le_trans hns (by decide),he.sane hv,cY.zero_sane,(fun a ha=>by cases ha),qZ,qZ⟩
  ·rw [gD];show 1+e.nodes+cY.zero.wt+wtA []+wtS []+wtS [] <= _;rw [cY.zero_wt,wtA,wtS];have:=he.nodes;omega
  ·rw [bY];simp;omega
 |@call vars deep left left' k g al rest hk hgm ha h ih=>
  intro hv hl D tabs hD ht
  have:=h.le
  obtain ⟨hn,hg2⟩:=hg g hgm
  have hnl:=aAo hn
  have hns:=dV hn
  obtain ⟨a1,a2,a3,a4⟩:=ha.ok hm hp hv
  refine (ih hv (by omega) D tabs hD ht).cons' (n:=1) (SOk.of (by omega) (by rw [if_pos (by omega)];exact hn) (by rw [if_neg (by omega)];exact mQ) (by rw [if_neg (by omega)];exact jN) (by rw [decide_eq_true hk];rfl) a1 (by rw [if_neg (by omega)];rfl) (by simp) ?_ ?_ ?_) (by omega)
  ·rw [aJ.sane];exact ⟨Nat.le_trans hns (by decide),aH.zero_sane,cY.zero_sane,a2.1,qZ,qZ⟩
  ·rw [gD];show 1+aH.zero.nodes+cY.zero.wt+wtA al+wtS []+wtS [] <= _;rw [aH.zero_nodes,cY.zero_wt,wtS];have:=a2.2;omega
  ·have hat:(dF al).length <= 250:=by simp only [dF,length_append,length_cons,length_nil];omega
   rw [bY];rcases hk with rfl|rfl<;>simp<;>omega
 |@cond vars deep left l1 l2 left' e thn els rest he h1 h2 h3 i1 i2 i3=>
  intro hv hl D tabs hD ht
  have:=h1.le
  have:=h2.le
  have:=h3.le
  have hel:=he.len hv
  have j1:=i1 hv (by omega) (D+1) (tabs++[9]) (by omega) (by simp;omega)
  have j2:=i2 hv (by omega) (D+1) (tabs++[9]) (by omega) (by simp;omega)
  refine (i3 hv (by omega) D tabs hD ht).cons' (n:=1+(left-l1)+(l1-l2)) (SOk.of (by omega) (by rw [if_neg (by decide)];exact decide_eq_true rfl) (by rw [if_pos (by decide)];exact he.valid hv (by omega)) (by rw [if_neg (by decide)];exact jN) (by simp) rfl (by rw [if_pos (by decide)];exact j1.ok) (by rw [j2.ok];simp) ?_ ?_ ?_) (by omega)
  ·rw [aJ.sane];exact ⟨by decide,he.sane hv,cY.zero_sane,(fun a ha=>by cases ha),j1.sane,j2.sane⟩
  ·rw [gD];show 1+e.nodes+cY.zero.wt+wtA []+wtS thn+wtS els <= _;rw [cY.zero_wt,wtA];have:=he.nodes;have:=j1.wt;have:=j2.wt;omega
  ·have:=j1.len;have:=j2.len;rw [bY,if_neg (by decide),if_neg (by decide),if_neg (by decide),if_neg (by decide),if_neg (by decide),if_neg (by decide),if_pos (by decide),if_neg (by decide)];simp only [length_append,length_cons,length_nil]
   split<;>(try simp only [length_append,length_cons,length_nil])<;>omega
 |@loop vars deep left l1 left' e thn rest he h1 h3 i1 i3=>
  intro hv hl D tabs hD ht
  have:=h1.le
  have:=h3.le
  have hel:=he.len hv
  have j1:=i1 hv (by omega) (D+1) (tabs++[9]) (by omega) (by simp;omega)
  refine (i3 hv (by omega) D tabs hD ht).cons' (n:=1+(left-l1)) (SOk.of (by omega) (by rw [if_neg (by decide)];exact decide_eq_true rfl) (by rw [if_pos (by decide)];exact he.valid hv (by omega)) (by rw [if_neg (by decide)];exact jN) (by simp) rfl (by rw [if_pos (by decide)];exact j1.ok) (by simp) ?_ ?_ ?_) (by omega)
  ·rw [aJ.sane];exact ⟨by decide,he.sane hv,cY.zero_sane,(fun a ha=>by cases ha),j1.sane,qZ⟩
  ·rw [gD];show 1+e.nodes+cY.zero.wt+wtA []+wtS thn+wtS [] <= _;rw [cY.zero_wt,wtA,wtS];have:=he.nodes;have:=j1.wt;omega
  ·have:=j1.len;rw [bY];simp;omega
 |@ret vars deep left left' rest h ih=>
  intro hv hl D tabs hD ht
  have:=h.le
  refine (ih hv (by omega) D tabs hD ht).cons' (n:=1) (SOk.of (by omega) (by rw [if_neg (by decide)];exact decide_eq_true rfl) (by rw [if_neg (by decide)];exact mQ) (by rw [if_neg (by decide)];exact jN) (by simp) rfl (by rw [if_neg (by decide)];rfl) (by simp) ?_ ?_ ?_) (by omega)
  ·rw [aJ.sane];exact ⟨by decide,aH.zero_sane,cY.zero_sane,(fun a ha=>by cases ha),qZ,qZ⟩
  ·rw [gD];show 1+aH.zero.nodes+cY.zero.wt+wtA []+wtS []+wtS [] <= _;rw [aH.zero_nodes,cY.zero_wt,wtA,wtS];omega
  ·rw [bY];simp;omega
 |@pair vars deep left l1 left' r mid rest hr h1 h3 i1 i3=>
  intro hv hl D tabs hD ht
  have:=h1.le
  have:=h3.le
  have j1:=i1 hv (by omega) D tabs (by omega) (by omega)
  have j3:=i3 hv (by omega) D tabs hD ht
  obtain ⟨s5,t5⟩:=yA (D:=D) (tabs:=tabs) (.inl rfl) (by omega) hm hp hv hr
  obtain ⟨s6,t6⟩:=yA (D:=D) (tabs:=tabs) (.inr rfl) (by omega) hm hp hv hr
  refine ⟨?_,?_,?_,?_⟩
  ·rw [bM,qL D (by omega),bM,s5.ok,s6.ok,j1.ok,j3.ok];rfl
  ·rw [gC,uJ,gC];exact ⟨s5.sane,j1.sane,s6.sane,j3.sane⟩
  ·have w5:∀k:Int,(aJ.mk k aK .zero r [] [] []).wt <= 20:=fun k=>by rw [gD];show 1+aH.zero.nodes+r.wt+wtA []+wtS []+wtS [] <= _;rw [aH.zero_nodes,wtA,wtS];have:=(hr.ok hm hp hv).2.1.2;omega
   rw [wtS,aAn,wtS];have:=j1.wt;have:=j3.wt;have:=w5 5;have:=w5 6;omega
  rw [aC,oX,aC];have:=j1.len;have:=j3.len;simp only [length_append];omega
end
theorem aFt:∀i,i<4 -> bQ (bytes [UInt8.ofNat (97+i)])=true:=by
 intro i h
 have:(List.range 4).all (fun k=>bQ (bytes [UInt8.ofNat (97+k)]))=true:=by kernel_rfl
 exact List.all_eq_true.1 this i (List.mem_range.2 h)
theorem vO:∀i,i<4 -> bQ (bytes [103,UInt8.ofNat (48+i)])=true:=by
 intro i h
 have:(List.range 4).all (fun k=>bQ (bytes [103,UInt8.ofNat (48+k)]))=true:=by kernel_rfl
 exact List.all_eq_true.1 this i (List.mem_range.2 h)
theorem aF0:∀i,i<4 -> bQ (bytes [112,UInt8.ofNat (48+i)])=true:=by
 intro i h
 have:(List.range 4).all (fun k=>bQ (bytes [112,UInt8.ofNat (48+k)]))=true:=by kernel_rfl
 exact List.all_eq_true.1 this i (List.mem_range.2 h)
theorem aHd:∀i,i<4 -> bQ (bytes [102,UInt8.ofNat (48+i)])=true:=by
 intro i h
 have:(List.range 4).all (fun k=>bQ (bytes [102,UInt8.ofNat (48+k)]))=true:=by kernel_rfl
 exact List.all_eq_true.1 this i (List.mem_range.2 h)
theorem aGx:bQ (bytes [109,97,105,110])=true:=by kernel_rfl
theorem pM.names{l:List aS}(h:pM l):∀x,x∈l -> bQ x.name=true:=by
 intro x hx
 obtain ⟨k,hk,rfl⟩:=List.getElem_of_mem hx
 rw [h.2 k hk];have:=h.1;exact aF0 _ (by omega)
theorem aMn.name{i:Nat}{f:bS}(h:aMn i f)(hi:i<4):bQ f.name=true:=by
 rcases Nat.eq_zero_or_pos i with h0|h0
 ·rw [(h.1 h0).1];exact aGx
 rw [h.2.1 h0];exact aHd i hi
theorem kZ.all{ms:List cL}{fs:List Sig}{gs:List aI}(hm:∀m,m∈ms -> bQ m.name=true)(hg:∀g,g∈fs -> bQ g.1=true /\ g.2.length <= 2)(hgl:∀g,g∈gs -> bQ g.name=true)
  {left:Nat} {l:List bS} (h:kZ ms fs gs left l):left <= 24 -> (∀f,f∈l -> ∀x,x∈f.params -> bQ x.name=true) -> ∀f,f∈l -> LOk 0 [9] 24 f.body:=by
 induction h with
 |nil=>intro _ _ f hf;simp at hf
 |@cons left left' f l hb hl ih=>
  intro hle hps g hgm
  have h1:=hb.le
  have hv:lC (uS gs f.params):=by
   intro x hx
   simp only [uS,mem_append,List.mem_map,List.mem_filter] at hx
   rcases hx with ⟨g,hg,rfl⟩|⟨y,⟨hy,_⟩,rfl⟩
   ·exact hgl g hg
   exact hps f (by simp) y hy
  rcases mem_cons.1 hgm with rfl|hgm
  ·have:=hb.ok hm (hps g (by simp)) hg hv hle 0 [9] (by omega) (by simp)
   exact ⟨this.ok,this.sane,by have:=this.wt;omega,by have:=this.len;omega⟩
  exact ih (by omega) (fun f hf=>hps f (by simp [hf])) g hgm
theorem yF{α:Type}(f:α -> List UInt8)(c:Nat):∀l:List α,(∀x,x∈l -> (f x).length <= c) -> ((l.map f).flatten).length <= c*l.length
 |[],_=>by simp
 |x::r,h=>by
  have h1:=yF f c r (fun y hy=>h y (by simp [hy]))
  have h2:=h x (by simp)
  simp only [List.map_cons,List.flatten_cons,length_append,length_cons,Nat.mul_add,Nat.mul_one];omega
theorem aAv{x:aS}(h:bQ x.name=true):(bX x).length <= 22:=by
 have:=dV h
 rw [bX];split<;>simp<;>omega
theorem zH{α:Type}(f:α -> List UInt8)(c:Nat):∀l:List α,(∀x,x∈l -> (f x).length <= c) -> (bW f l).length <= (c+2)*l.length
 |[],_=>by simp [bW]
 |x::r,h=>by
  have h1:=zH f c r (fun y hy=>h y (by simp [hy]))
  have h2:=h x (by simp)
  have h3:=nO f x r
  simp only [length_cons,Nat.mul_add,Nat.mul_one];omega
structure aQz (p:cK):Prop where
 form:nY p=true
 sane:p.sane
 wt:p.wt <= 100000
 len:(cR p).length <= 75000
theorem sY.facts{p:cK}(h:sY p):aQz p:=by
 obtain ⟨gs,ms,fs⟩:=p
 obtain ⟨⟨hm1,hm2,hm⟩,⟨hg1,hg⟩,⟨hf1,hf2,hf⟩,hb⟩:=h
 dsimp only at hm1 hm2 hm hg1 hg hf1 hf2 hf hb
 have nm:∀m,m∈ms -> bQ m.name=true:=by
  intro m hmm;obtain ⟨k,hk,rfl⟩:=List.getElem_of_mem hmm;rw [(hm k hk).1];exact aFt k (by omega)
 have ng:∀g,g∈gs -> bQ g.name=true:=by
  intro g hgm;obtain ⟨k,hk,rfl⟩:=List.getElem_of_mem hgm;rw [(hg k hk).1];exact vO k (by omega)
 have nf:∀f,f∈fs -> bQ f.name=true /\ pM f.params:=by
  intro f hfm;obtain ⟨k,hk,rfl⟩:=List.getElem_of_mem hfm;exact ⟨(hf k hk).name (by omega),(hf k hk).2.2⟩
 have bodies:=hb.all nm (by
  intro g hgm
  obtain ⟨f,hfm,rfl⟩:=List.mem_map.1 hgm
  exact ⟨(nf f hfm).1,(nf f hfm).2.1⟩) ng (Nat.le_refl _) (fun f hfm=>(nf f hfm).2.names)
 have lg:∀g,g∈gs -> (aU g).length <= 60 /\ g.init≠-9223372036854775808 /\ fit g.init:=by
  intro g hgm
  have h1:=dV (ng g hgm)
  obtain ⟨k,hk,rfl⟩:=List.getElem_of_mem hgm
  obtain ⟨_,h2,h3⟩:=hg k hk
  have h4:=rQ (n:=gs[k].init) (by omega) (by omega)
  refine ⟨?_,by omega,by constructor<;>omega⟩
  rw [aU];split<;>simp<;>omega
 have lm:∀m,m∈ms -> (bE m).length <= 60 /\ fS m=true /\ fit m.size:=by
  intro m hmm
  have h1:=dV (nm m hmm)
  have h0:=nm m hmm
  obtain ⟨k,hk,rfl⟩:=List.getElem_of_mem hmm
  have h2:0 <= ms[k].size /\ ms[k].size <= 3 /\ (ms[k].reentrant=true -> ms[k].size=0):=by
   rcases (hm k hk).2 with ⟨a,b,c⟩|⟨a,b⟩
   ·exact ⟨b,c,fun h=>by rw [a] at h;cases h⟩
   exact ⟨by omega,by omega,fun _=>b⟩
  have h4:=rQ (n:=ms[k].size) (by omega) (by omega)
  refine ⟨?_,?_,by constructor<;>omega⟩
  ·rw [bE];split<;>split<;>simp<;>omega
  rw [fS,h0,decide_eq_true (by omega)]
  cases hr:ms[k].reentrant with
  |false=>rfl
  |true=>rw [decide_eq_false (by have:=h2.2.2 hr;omega)];rfl
 have lf:∀f,f∈fs -> (funcText f).length <= 17000 /\ gW f=true:=by
  intro f hfm
  obtain ⟨h0,h1⟩:=nf f hfm
  have h2:=dV h0
  have h3:=bodies f hfm
  have h4:=h3.len
  have h5:=zH bX 22 f.params (fun x hx=>aAv (h1.names x hx))
  have h6:=h1.1
  refine ⟨?_,?_⟩
  ·rw [funcText];simp only [length_append,length_cons,length_nil];have:f.name.data.toList.length=f.name.size:=rfl;omega
  rw [gW,h0,decide_eq_true (by omega),h3.ok,List.all_eq_true.2 (fun x hx=>h1.names x hx)];rfl
 have len:(cR ⟨gs,ms,fs⟩).length <= 75000:=by
  have h1:=yF aU 60 gs (fun g h=>(lg g h).1)
  have h2:=yF bE 60 ms (fun g h=>(lm g h).1)
  have h3:=yF funcText 17000 fs (fun g h=>(lf g h).1)
  rw [cR];simp only [length_append];omega
 refine ⟨?_,⟨fun g h=>⟨(lg g h).2.2,Nat.le_trans (dV (ng g h)) (by decide)⟩,fun m h=>⟨(lm m h).2.2,Nat.le_trans (dV (nm m h)) (by decide)⟩,fun f h=>⟨Nat.le_trans (dV (nf f h).1) (by decide),fun x hx=>Nat.le_trans (dV ((nf f h).2.names x hx)) (by decide),(bodies f h).sane⟩⟩,?_,len⟩
 ·unfold nY
  rw [decide_eq_true (by dsimp only;omega),List.all_eq_true.2 (fun g h=>by rw [gH,ng g h,decide_eq_true (lg g h).2.1];rfl),List.all_eq_true.2 (fun m h=>(lm m h).2.1),List.all_eq_true.2 (fun f h=>(lf f h).2)];rfl
 unfold cK.wt
 have h1:(fs.map bS.wt).sum <= 2000*fs.length:=by
  have:∀l:List bS,(∀f,f∈l -> f.wt <= 2000) -> (l.map bS.wt).sum <= 2000*l.length:=by
   intro l
   induction l with
   |nil=>intro _;simp
   |cons f l ih=>intro hx;have:=ih (fun g hg=>hx g (by simp [hg]));have:=hx f (by simp);simp only [List.map_cons,List.sum_cons,length_cons];omega
  exact this fs (fun f hfm=>by unfold bS.wt;have:=(bodies f hfm).wt;have:=(nf f hfm).2.1;omega)
 show gs.length+ms.length+(fs.map bS.wt).sum <= _
 omega
end
section
def aPn(t:Tok):Prop:=(t.kind=3 -> dA t.text=true) /\ (t.kind=4 -> dA t.text=false) /\ t.num <= 9223372036854775807
theorem aBk:∀(r:List UInt8)(n m:Nat),n <= 9223372036854775807 -> iT n r=some m -> m <= 9223372036854775807
 |[],n,m,h,he=>by unfold iT at he;cases he;exact h
 |c::r,n,m,h,he=>by
  unfold iT at he
  split at he
  ·cases he
  exact aBk r _ m (by have:=c.toNat_lt;omega) he
theorem aKj:∀x,x∈words -> fU (x.data.toList.headD 0)=true:=by decide
theorem aKh{c:UInt8}{r:List UInt8}(h:fU c=false){n:Nat}(hn:n≠0):dA (bytes ((c::r).take n))=false:=by
 cases hr:dA (bytes ((c::r).take n)) with
 |false=>rfl
 |true=>
  have h1:=aKj _ ((mK _).1 hr)
  obtain ⟨m,rfl⟩:∃m,n=m+1:=⟨n-1,by omega⟩
  simp [bytes] at h1
  rw [h] at h1;cases h1
theorem aKe{c:UInt8}{r:List UInt8}{kind len num:Nat}(p:Nat)(h:dQ (c::r)=.tok kind len num):aPn ⟨kind,bytes ((c::r).take len),num,p⟩ /\ kind≠5:=by
 cases hc:fU c with
 |true=>
  rw [kK hc] at h
  split at h
  ·cases h
  ·injection h with h1 h2 h3
   subst h2;subst h3;subst h1
   have ht:(c::r).take ((c::r).takeWhile cT).length=(c::r).takeWhile cT:=by
    have:=List.takeWhile_prefix (l:=c::r) cT
    exact (List.prefix_iff_eq_take.1 this).symm
   rw [ht]
   refine ⟨⟨fun h3=>?_,fun h4=>?_,by show 0 <= _;omega⟩,?_⟩
   ·change (if dA (bytes ((c::r).takeWhile cT))=true then 3 else 1)=3 at h3
    split at h3
    ·assumption
    omega
   ·change (if dA (bytes ((c::r).takeWhile cT))=true then 3 else 1)=4 at h4
    split at h4<;>omega
   ·split<;>omega
 |false=>
  cases hd:cD c with
  |true=>
   cases hn:iT 0 ((c::r).takeWhile cD) with
   |none=>rw [nK hc hd hn] at h;cases h
   |some n=>
    rw [lP hc hd hn] at h
    injection h with h1 h2 h3
    subst h1;subst h2;subst h3
    exact ⟨⟨fun h=>absurd h (show ¬(2=3) by decide),fun h=>absurd h (show ¬(2=4) by decide),aBk _ _ _ (by omega) hn⟩,by omega⟩
  |false=>
   rw [iN hc hd] at h
   split at h
   ·cases h
   rename_i h0
   injection h with h1 h2 h3
   subst h1;subst h2;subst h3
   exact ⟨⟨fun h=>absurd h (show ¬(4=3) by decide),fun _=>aKh hc h0,Nat.zero_le _⟩,by omega⟩
structure aX5 (l:List Tok):Prop where
 ends:rP l
 reg:∀t,t∈l -> aPn t
 few:l.length <= 4001
theorem aFf:∀(m:Nat)(s:List UInt8)(k n:Nat),s.length-k <= m -> k <= s.length -> n <= 4000 -> ∀L,kD s k n=.ok L -> (∃h:0<L.length,(L[L.length-1]'(by omega)).kind=5) /\ (∀t,t∈L -> aPn t) /\ L.length+n <= 4001
 |m,s,k,n,hm,hk,hn,L,h=>by
  by_cases he:s.length <= bF s k
  ·rw [mX he] at h
   cases h
   refine ⟨⟨by simp,rfl⟩,fun t ht=>?_,by simp;omega⟩
   simp at ht;subst ht
   exact ⟨fun h=>(by cases h),fun h=>(by cases h),by show 0 <= _;omega⟩
  have hlt:bF s k<s.length:=by omega
  cases hx:dQ (s.drop (bF s k)) with
  |err e=>rw [uY hlt hx] at h;cases h
  |tok kind len num=>
   by_cases h4:n=4000
   ·subst h4;rw [sG hlt hx] at h;cases h
   rw [nD hk hlt hx h4] at h
   have hg:=lG s k hk
   have hd:s.drop (bF s k)≠[]:=by intro hd;have:=congrArg List.length hd;rw [List.length_drop] at this;simp at this;omega
   have hl:=mS hd hx
   rw [List.length_drop] at hl
   obtain ⟨c,r,hcr⟩:=List.exists_cons_of_ne_nil hd
   rw [hcr] at hx h
   have hreg:=aKe (bF s k) hx
   cases m with
   |zero=>omega
   |succ m=>
    cases ht:kD s (bF s k+len) (n+1) with
    |err p e=>rw [ht] at h;cases h
    |ok L'=>
     rw [ht] at h
     cases h
     obtain ⟨⟨h0,h5⟩,h2,h3⟩:=aFf m s (bF s k+len) (n+1) (by omega) (by omega) (by omega) L' ht
     refine ⟨⟨by simp,?_⟩,fun t ht=>?_,by simp;omega⟩
     ·simp only [length_cons]
      rw [List.getElem_cons]
      rw [dif_neg (by omega)]
      simpa using h5
     rcases mem_cons.1 ht with rfl|ht
     ·exact hreg.1
     exact h2 t ht
theorem wD{s:List UInt8}{L:List Tok}(h:iH s=.ok L):aX5 L:=by
 unfold iH at h
 split at h
 ·cases h
 obtain ⟨h1,h2,h3⟩:=aFf s.length s 0 0 (by omega) (by omega) (by omega) L h
 exact ⟨h1,h2,by omega⟩
end
section
open Go.RowKit
theorem bEq{p:cK}(h:sY p):(vI p).length <= 75000:=by
 unfold vI
 split
 ·exact h.facts.len
 simp
theorem bE3(l0:List Int)(hl0:l0.length <= 9223372036854775807)(s:Sto):aL prog 15 [.c (.sl l0.length (l0.map fun i=>.val (.int .i64 i)))] [] s fun t s'=>∃p,sY p /\ t=.c (.val (.string (bytes (vI p)))) /\ s'=s:=by
 obtain ⟨bx,rw⟩:=s
 refine acB func15 rfl ?_
 show AWp prog _ ⟨6,_,⟨bx,rw⟩,[(0,.c (.sl l0.length (l0.map fun i=>.val (.int .i64 i))))]⟩ _
 refine go 8 ?_
 refine wc0 rfl call20 rfl (aHs l0 hl0 _) ?_
 rintro _ _ ⟨p,rfl,hp,rfl⟩
 have hfa:=hp.facts
 refine wc0 rfl call24 rfl (aNw p hfa.sane (by have:=hfa.wt;omega) _) ?_
 rintro _ _ ⟨rfl,rfl⟩
 refine go 4 ?_
 exact bHe (s':=⟨bx,rw⟩) rfl sb0 ⟨p,hp,rfl,rfl⟩
end
end Go.Proofs.YtlmpchoaebhhmaaGreatDoor
