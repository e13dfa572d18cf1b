import Derived.Test.YtojinfngbbajgaaGreatDoorP5J
import Derived.Test.YtojinfngbbajgaaGreatDoorP18J
import Derived.Test.YtojinfngbbajgaaGreatDoorP8J
set_option linter.all false
set_option synthInstance.maxHeartbeats 1000000
set_option synthInstance.maxSize 1000000
set_option maxHeartbeats 1600000
set_option maxRecDepth 100000
namespace Go.Proofs.YtojinfngbbajgaaGreatDoor
open Go.Proofs.Tryz
open List (length_append length_cons length_nil mem_append mem_cons not_mem_nil append_assoc getElem_mem take_of_length_le)
section
open Go.RowKit
theorem wF:∀(N:Nat)(D:Nat)(l:List aJ),wtS l <= N -> N <= 900000000 -> gC l -> D <= 1000000000-N -> ∀s:Sto,aL prog 91 [.c (.sl l.length (l.flatMap encS)),nI D] [] s fun t s'=>t=.c (.val (.bool (bM D l))) /\ s'=s
 |0,D,l,hw,hN,hs,hD,s=>by
  have h0:=uZ l
  exact uP D l hs (by omega) (fun k hk=>by omega) (fun k hk=>by omega) s
 |N+1,D,l,hw,hN,hs,hD,s=>by
  have hp:∀k (hk:k<l.length),wtS l[k].thn <= N /\ wtS l[k].els <= N /\ gC l[k].thn /\ gC l[k].els:=fun k hk=>by
   have h3:=uF l k hk
   rw [gD] at h3
   have h4:=yW (oS _ hs _ (getElem_mem hk))
   exact ⟨by omega,by omega,h4.2.2.2.2.1,h4.2.2.2.2.2⟩
  exact uP D l hs (by omega) (fun k hk s=>wF N (D+1) l[k].thn (hp k hk).1 (by omega) (hp k hk).2.2.1 (by omega) s)
   (fun k hk s=>wF N (D+1) l[k].els (hp k hk).2.1 (by omega) (hp k hk).2.2.2 (by omega) s) s
theorem nL{s:ByteArray}(h:bQ s=true):s.data.toList.length <= 16:=by
 unfold bQ at h
 split at h
 ·cases h
 simp only [Bool.and_eq_true,decide_eq_true_eq] at h;exact h.1.2
mutual
theorem zK:∀(e:aH),e.sane -> eO e=true -> e.tame
 |.mk op num name args,hs,h=>by
  have hv:=yT _ hs h
  rw [aH.sane] at hs
  rw [eO] at h
  simp only [Bool.and_eq_true] at h
  rw [aH.tame]
  refine ⟨?_,?_,xH args hs.2.2 h.2⟩
  ·cases hv with
   |num n hn=>show ((n:Nat):Int).natAbs<_;omega
   |_=>decide
  ·cases hv with
   |name s hn=>exact Nat.le_trans (nL hn) (by decide)
   |_=>decide
theorem xH:∀(l:List aH),iI l -> dY l=true -> oG l
 |[],_,_=>by rw [oG];trivial
 |y::l,hs,h=>by
  rw [iI] at hs
  rw [dY,Bool.and_eq_true] at h
  rw [oG]
  exact ⟨zK y hs.1 h.1,xH l hs.2 h.2⟩
end
theorem tU{e:aH}(hs:e.sane)(h:eO e=true):(aP e).length <= e.nodes*2000000:=by
 have:=vQ e.nodes e (Nat.le_refl _) (zK e hs h);omega
theorem aA6{r:cY}(hs:r.sane)(h:okRefB r=true):(dC r).length <= r.wt*2000000:=by
 obtain ⟨h1,h2,h3⟩:=xE h
 have h4:=nL h1
 unfold cY.wt
 rcases h2 with h2|h2
 ·rw [aCa h2];omega
 have h0:0<r.index.length:=by omega
 have h5:=nM r.index 0 h0
 have h6:=tU (mV _ hs.2 _ (getElem_mem h0)) (kR (h3 _ (getElem_mem h0)))
 rw [wI h0];simp only [length_append,length_cons,length_nil];omega
theorem aAp:∀(l:List eN),(∀a,a∈l -> a.sane) -> (∀a,a∈l -> fY a=true) -> (bW dE l).length <= wtA l*2000010
 |[],_,_=>by simp [bW]
 |a::l,hs,h=>by
  have h1:=aAp l (fun x hx=>hs x (by simp [hx])) (fun x hx=>h x (by simp [hx]))
  have h2:(dE a).length+2 <= a.wt*2000010:=by
   have h3:=xN (h a (by simp))
   have h4:=hs a (by simp)
   unfold eN.wt
   cases hm:a.mutex with
   |true=>rw [pD hm];have:=aA6 h4.1 (h3.1 hm);simp only [length_append,length_cons,length_nil];omega
   |false=>rw [oZ hm];have:=tU h4.2 (kR (h3.2 hm));omega
  have h5:(bW dE (a::l)).length <= (dE a).length+2+(bW dE l).length:=by
   cases l with
   |nil=>simp [bW]
   |cons b r=>simp [bW];omega
  rw [wtA];omega
theorem oJ:∀(N D:Nat)(l:List aJ)(tabs:List UInt8),wtS l <= N -> bM D l=true -> gC l -> tabs.length <= D+1 -> (aC tabs l).length <= wtS l*3000000
 |_,_,[],_,_,_,_,_=>by rw [aC];simp
 |0,D,s::l,tabs,hw,_,_,_=>by rw [wtS,gD] at hw;omega
 |N+1,D,s::l,tabs,hw,hok,hs,ht=>by
  have hD:=iL D _ hok
  rw [bM,Bool.and_eq_true] at hok
  rw [gC] at hs
  rw [wtS,gD] at hw
  have ok:=aHv hs.1 hok.1
  have h1:=oJ (N+1) D l tabs (by omega) hok.2 hs.2 ht
  have ht1:(tabs++[(9:UInt8)]).length <= D+1+1:=by simp;omega
  have hE:(s.kind=1∨s.kind=2∨s.kind=7∨s.kind=8) -> (aP s.expr).length <= s.expr.nodes*2000000:=fun h=>tU ok.saneE (ok.expr h)
  have hR:(s.kind=5∨s.kind=6) -> (dC s.ref).length <= s.ref.wt*2000000:=fun h=>aA6 ok.saneR (ok.ref h)
  have hA:(dF s.args).length <= wtA s.args*2000010+2:=by have:=aAp s.args ok.saneA ok.args;unfold dF;simp only [length_append,length_cons,length_nil];omega
  have hT:(s.kind=7∨s.kind=8) -> (aC (tabs++[9]) s.thn).length <= wtS s.thn*3000000:=fun h=>oJ N (D+1) s.thn (tabs++[9]) (by omega) (ok.thn h) ok.saneT ht1
  have hF:(if s.els.length=0 then ([]:List UInt8) else [32,101,108,115,101,32,123,10]++aC (tabs++[9]) s.els++tabs++[125]).length <= wtS s.els*3000000+40:=by
   rcases ok.els with h|h
   ·rw [if_pos h];simp
   have:=oJ N (D+1) s.els (tabs++[9]) (by omega) h ok.saneF ht1
   split
   ·simp
   simp only [length_append,length_cons,length_nil];omega
  have hn:(1 <= s.kind /\ s.kind <= 4) -> s.name.data.toList.length <= 16:=fun h=>by
   have h2:=hok.1
   obtain ⟨k,n,e,r,a,t,f⟩:=s
   rw [bK9] at h2
   simp only [Bool.and_eq_true] at h2
   have h3:=h2.1.1.1.1.1.1.2
   have h:1 <= k /\ k <= 4:=h
   rw [if_pos h] at h3
   exact nL h3
  have hs1:(bY tabs s).length <= s.wt*3000000:=by
   rw [gD]
   have hk:s.kind=1∨s.kind=2∨s.kind=3∨s.kind=4∨s.kind=5∨s.kind=6∨s.kind=7∨s.kind=8∨(¬s.kind=1 /\ ¬s.kind=2 /\ ¬s.kind=3 /\ ¬s.kind=4 /\ ¬s.kind=5 /\ ¬s.kind=6 /\ ¬s.kind=7 /\ ¬s.kind=8):=by omega
   rcases hk with h|h|h|h|h|h|h|h|h
   ·have:=hE (by omega);have:=hn (by omega);rw [tP h];simp only [length_append,length_cons,length_nil];omega
   ·have:=hE (by omega);have:=hn (by omega);rw [tT h];simp only [length_append,length_cons,length_nil];omega
   ·have:=hn (by omega);rw [tZ h];simp only [length_append,length_cons,length_nil];omega
   ·have:=hn (by omega);rw [tH h];simp only [length_append,length_cons,length_nil];omega
   ·have:=hR (by omega);rw [uD h];simp only [length_append,length_cons,length_nil];omega
   ·have:=hR (by omega);rw [tI h];simp only [length_append,length_cons,length_nil];omega
   ·have:=hE (by omega);have:=hT (by omega);rw [pU h];simp only [length_append,length_cons,length_nil] at hF⊢;omega
   ·have:=hE (by omega);have:=hT (by omega);rw [pV h];simp only [length_append,length_cons,length_nil] at hF⊢;omega
   rw [uB h];simp only [length_append,length_cons,length_nil];omega
  rw [aC,wtS,length_append];omega
theorem sH{α:Type}(f:α -> List UInt8)(g:α -> Nat)(c:Nat):∀l:List α,(∀x,x∈l -> (f x).length <= g x*c) -> ((l.map f).flatten).length <= (l.map g).sum*c
 |[],_=>by simp
 |x::r,h=>by
  have h1:=sH f g c r (fun y hy=>h y (by simp [hy]))
  have h2:=h x (by simp)
  simp only [List.map_cons,List.flatten_cons,length_append,List.sum_cons,Nat.add_mul];omega
theorem aO9{α:Type}(l:List α):(l.map fun _=>1).sum=l.length:=by induction l with|nil=>rfl|cons a l ih=>simp [ih];omega
theorem aAd{p:cK}(hs:p.sane)(h:nY p=true):(cR p).length <= p.wt*3000000:=by
 unfold nY at h
 simp only [Bool.and_eq_true] at h
 obtain ⟨⟨⟨-,hg⟩,hm⟩,hf⟩:=h
 have h1:=sH aU (fun _=>1) 3000000 p.globals (fun g hgm=>by
  have h2:=List.all_eq_true.1 hg g hgm
  unfold gH at h2
  rw [Bool.and_eq_true] at h2
  have h3:=nL h2.1
  have h4:=pS (hs.globals g hgm).1
  unfold aU;split<;>(simp only [length_append,length_cons,length_nil];omega))
 have h2:=sH bE (fun _=>1) 3000000 p.mutexes (fun m hmm=>by
  have h2:=List.all_eq_true.1 hm m hmm
  unfold fS at h2
  simp only [Bool.and_eq_true] at h2
  have h3:=nL h2.1.1
  have h4:=pS (hs.mutexes m hmm).1
  unfold bE;split<;>split<;>(simp only [length_append,length_cons,length_nil];omega))
 have h3:=sH funcText bS.wt 3000000 p.funcs (fun f hfm=>by
  have h2:=List.all_eq_true.1 hf f hfm
  unfold gW at h2
  simp only [Bool.and_eq_true,decide_eq_true_eq] at h2
  have h3:=nL h2.1.1.1
  have h4:=oJ _ 0 f.body [9] (Nat.le_refl _) h2.1.2 (hs.funcs f hfm).2.2 (by decide)
  have h5:(bW bX f.params).length <= f.params.length*30:=by
   have:∀(l:List aS),(∀x,x∈l -> bQ x.name=true) -> (bW bX l).length <= l.length*30:=by
    intro l
    induction l with
    |nil=>intro _;simp [bW]
    |cons x l ih=>
     intro hx
     have h6:=ih (fun y hy=>hx y (by simp [hy]))
     have h7:=nL (hx x (by simp))
     have h8:(bX x).length <= 22:=by unfold bX;split<;>(simp only [length_append,length_cons,length_nil];omega)
     have h9:(bW bX (x::l)).length <= (bX x).length+2+(bW bX l).length:=by
      cases l with
      |nil=>simp [bW]
      |cons b r=>simp [bW];omega
     simp only [length_cons];omega
   exact this f.params (List.all_eq_true.1 h2.2)
  rw [wP];unfold bS.wt
  simp only [length_append,length_cons,length_nil];omega)
 rw [aO9] at h1 h2
 unfold cR cK.wt
 simp only [length_append];omega
theorem yJ{p:cK}(h:¬(p.globals.length <= 16 /\ p.mutexes.length <= 12 /\ p.funcs.length <= 16)):jI p=false:=by
 unfold jI;rw [decide_eq_false h];rfl
theorem aMu{p:cK}(k:Nat)(h:k<p.globals.length)(hb:gH p.globals[k]=false):jI p=false:=by
 unfold jI;rw [oA gH _ k h hb];simp
theorem aDn{p:cK}(k:Nat)(h:k<p.mutexes.length)(hb:fS p.mutexes[k]=false):jI p=false:=by
 unfold jI;rw [oA fS _ k h hb];simp
theorem aDv{p:cK}(k:Nat)(h:k<p.funcs.length)(hb:gW p.funcs[k]=false):jI p=false:=by
 unfold jI;rw [oA gW _ k h hb];simp
theorem yD{α:Type}(f:α -> Bool)(l:List α)(h:∀i (h:i<l.length),f l[i]=true):l.all f=true:=List.all_eq_true.2 fun x hx=>by obtain ⟨i,hi,rfl⟩:=List.getElem_of_mem hx;exact h i hi
theorem aPt(p:cK)(hs:p.sane)(hw:p.wt <= 100000000)(s:Sto):aL prog 61 [.agg (jV p)] [] s fun t s'=>t=.c (.val (.bool (jI p))) /\ s'=s:=by
 obtain ⟨bx,rw⟩:=s
 have hw1:=hw
 unfold cK.wt at hw1
 have hfn:=aDr bS.wt (fun x=>by unfold bS.wt;omega) p.funcs
 refine acB func61 rfl ?_
 show AWp prog _ ⟨140,_,⟨bx,rw⟩,[(0,.agg (jV p))]⟩ _
 refine go 12 fun b1=>?_
 by_cases h1:(16:Int)<((p.globals.length:Nat):Int)
 ·refine wcp true rfl (mH h1) (go 22 ?_)
  exact bHe (s':=⟨bx,rw⟩) rfl sb1 ⟨cX (yJ (by omega)),rfl⟩
 refine wcp false rfl (mI h1) (go 4 ?_)
 by_cases h3:(12:Int)<((p.mutexes.length:Nat):Int)
 ·refine wcp true rfl (mH h3) (go 17 ?_)
  exact bHe (s':=⟨bx,rw⟩) rfl sb1 ⟨cX (yJ (by omega)),rfl⟩
 refine wcp false rfl (mI h3) (go 5 ?_)
 by_cases h5:(16:Int)<((p.funcs.length:Nat):Int)
 ·refine wcp true rfl (mH h5) (go 11 ?_)
  exact bHe (s':=⟨bx,rw⟩) rfl sb1 ⟨cX (yJ (by omega)),rfl⟩
 refine wcp false rfl (mI h5) (go 13 ?_)
 refine lE (fun k=>∀q (h:q<p.globals.length),q<k -> gH p.globals[q]=true) (p.globals.length) 3 (fun k=>[(1,pP b1)]) (fun _ _ h=>absurd h (by omega)) (sA rfl) fun k hk hvk=>?_
 replace hvk:∀q (h:q<p.globals.length),q<k -> gH p.globals[q]=true:=hvk
 show AWp prog _ ⟨140,_,_,(3,nI k)::[(1,pP b1)]⟩ _
 refine go 7 ?_
 by_cases h8:((k:Nat):Int)<((p.globals.length:Nat):Int)
 ·refine wcp true rfl (jZ h8) (go 9 ?_)
  have hgs:=hs.globals p.globals[k] (getElem_mem _)
  refine go 3 ?_
  refine wyz rfl (bH dB dB p.globals nS (fun _=>rfl) k rfl rfl rfl rfl (by omega) (by decide) runUnderlying26 sizeOf86) (go 2 ?_)
  refine wc0 rfl call90 rfl (pG p.globals[k].name hgs.2 _) ?_
  rintro _ _ ⟨hr10,rfl⟩
  rcases Bool.eq_false_or_eq_true (bQ p.globals[k].name) with h11|h11
  ·rw [h11] at hr10
   subst hr10
   refine go 5 ?_
   refine wyz rfl (bH dB dB p.globals nS (fun _=>rfl) k rfl rfl rfl rfl (by omega) (by decide) runUnderlying26 sizeOf86) (go 2 ?_)
   by_cases h12:p.globals[k].init=-9223372036854775808
   ·refine wcp true rfl (eR h12) (go 15 ?_)
    exact bHe (s':=⟨bx,rw⟩) rfl sb1 ⟨cX (aMu k (by omega) (by unfold gH;rw [h11,decide_eq_false (by omega)];rfl)),rfl⟩
   refine wcp false rfl (eD h12) (go 9 ?_)
   refine wad rfl (go 2 ?_)
   exact ⟨by omega,(fun q hq hlt2=>(Nat.lt_or_ge q k).elim (fun h9=>hvk q hq h9) (fun h9=>by have h8:k=q:=(by omega);subst h8;exact (by unfold gH;rw [h11,decide_eq_true (by omega)];rfl))),(aG rfl (gQ (by omega)) (sA rfl))⟩
  rw [h11] at hr10
  subst hr10
  refine go 24 ?_
  exact bHe (s':=⟨bx,rw⟩) rfl sb1 ⟨cX (aMu k (by omega) (by unfold gH;rw [h11];rfl)),rfl⟩
 refine wcp false rfl (jQ h8) (go 15 ?_)
 refine lE (fun i=>∀q (h:q<p.mutexes.length),q<i -> fS p.mutexes[q]=true) (p.mutexes.length) 4 (fun i=>[(1,pP b1)]) (fun _ _ h=>absurd h (by omega)) (sA rfl) fun i hi hvi=>?_
 replace hvi:∀q (h:q<p.mutexes.length),q<i -> fS p.mutexes[q]=true:=hvi
 show AWp prog _ ⟨140,_,_,(4,nI i)::[(1,pP b1)]⟩ _
 refine go 7 ?_
 by_cases h17:((i:Nat):Int)<((p.mutexes.length:Nat):Int)
 ·refine wcp true rfl (jZ h17) (go 9 ?_)
  have hms:=hs.mutexes p.mutexes[i] (getElem_mem _)
  refine go 3 ?_
  refine wyz rfl (bH bT bT p.mutexes mZ (fun _=>rfl) i rfl rfl rfl rfl (by omega) (by decide) runUnderlying27 sizeOf70) (go 9 fun b2=>?_)
  refine wc0 rfl call90 rfl (pG p.mutexes[i].name hms.2 _) ?_
  rintro _ _ ⟨hr19,rfl⟩
  rcases Bool.eq_false_or_eq_true (bQ p.mutexes[i].name) with h20|h20
  ·rw [h20] at hr19
   subst hr19
   refine go 4 ?_
   by_cases h21:p.mutexes[i].size<0
   ·refine wcp true rfl (jZ h21) (go 29 ?_)
    exact bHe (s':=⟨bx,rw⟩) rfl sb2 ⟨cX (aDn i (by omega) (by unfold fS;rw [decide_eq_false (show ¬(0 <= p.mutexes[i].size /\ p.mutexes[i].size <= 64) by omega)];simp)),rfl⟩
   refine wcp false rfl (jQ h21) (go 4 ?_)
   by_cases h23:(64:Int)<p.mutexes[i].size
   ·refine wcp true rfl (mH h23) (go 24 ?_)
    exact bHe (s':=⟨bx,rw⟩) rfl sb2 ⟨cX (aDn i (by omega) (by unfold fS;rw [decide_eq_false (show ¬(0 <= p.mutexes[i].size /\ p.mutexes[i].size <= 64) by omega)];simp)),rfl⟩
   refine wcp false rfl (mI h23) (go 3 ?_)
   rcases Bool.eq_false_or_eq_true (p.mutexes[i].reentrant) with h25|h25
   ·refine wyz rfl (fL (bZ h25) (aX [] rfl rfl rfl isAgg4 sizeOf4 rfl (fun _ h=>by cases h))) (go 3 ?_)
    by_cases h26:(0:Int)<p.mutexes[i].size
    ·refine wcp true rfl (mH h26) (go 16 ?_)
     exact bHe (s':=⟨bx,rw⟩) rfl sb2 ⟨cX (aDn i (by omega) (by unfold fS;rw [h20,decide_eq_true (show 0 <= p.mutexes[i].size /\ p.mutexes[i].size <= 64 by omega),h25,decide_eq_true (show 0<p.mutexes[i].size by omega)];rfl)),rfl⟩
    refine wcp false rfl (mI h26) (go 10 ?_)
    refine wad rfl (go 2 ?_)
    exact ⟨by omega,(fun q hq hlt2=>(Nat.lt_or_ge q i).elim (fun h9=>hvi q hq h9) (fun h9=>by have h8:i=q:=(by omega);subst h8;exact (by unfold fS;rw [h20,decide_eq_true (show 0 <= p.mutexes[i].size /\ p.mutexes[i].size <= 64 by omega),h25,decide_eq_false (show ¬0<p.mutexes[i].size by omega)];rfl))),cA (.cons _ (.refl _)) (.refl _) (fun b hb=>List.mem_cons_of_mem _ (hb)) (aG rfl (gQ (by omega)) (sA rfl))⟩
   refine wyz rfl (fL (bZ h25) (aX [] rfl rfl rfl isAgg4 sizeOf4 rfl (fun _ h=>by cases h))) (go 14 ?_)
   refine wad rfl (go 2 ?_)
   exact ⟨by omega,(fun q hq hlt2=>(Nat.lt_or_ge q i).elim (fun h9=>hvi q hq h9) (fun h9=>by have h8:i=q:=(by omega);subst h8;exact (by unfold fS;rw [h20,decide_eq_true (show 0 <= p.mutexes[i].size /\ p.mutexes[i].size <= 64 by omega),h25];rfl))),cA (.cons _ (.refl _)) (.refl _) (fun b hb=>List.mem_cons_of_mem _ (hb)) (aG rfl (gQ (by omega)) (sA rfl))⟩
  rw [h20] at hr19
  subst hr19
  refine go 34 ?_
  exact bHe (s':=⟨bx,rw⟩) rfl sb2 ⟨cX (aDn i (by omega) (by unfold fS;rw [h20];rfl)),rfl⟩
 refine wcp false rfl (jQ h17) (go 15 ?_)
 refine lE (fun f=>∀q (h:q<p.funcs.length),q<f -> gW p.funcs[q]=true) (p.funcs.length) 6 (fun f=>[(1,pP b1)]) (fun _ _ h=>absurd h (by omega)) (sA rfl) fun f hf hvf=>?_
 replace hvf:∀q (h:q<p.funcs.length),q<f -> gW p.funcs[q]=true:=hvf
 show AWp prog _ ⟨140,_,_,(6,nI f)::[(1,pP b1)]⟩ _
 refine go 7 ?_
 by_cases h32:((f:Nat):Int)<((p.funcs.length:Nat):Int)
 ·refine wcp true rfl (jZ h32) (go 9 ?_)
  have hfl:f<p.funcs.length:=by omega
  have hfs:=hs.funcs p.funcs[f] (getElem_mem hfl)
  have hfw:=aDi bS.wt p.funcs f hfl
  rw [show bS.wt p.funcs[f]=1+p.funcs[f].params.length+wtS p.funcs[f].body from rfl] at hfw
  refine go 3 ?_
  refine wyz rfl (bH fV fV p.funcs vC (fun _=>rfl) f rfl rfl rfl rfl (by omega) (by decide) runUnderlying28 sizeOf58) (go 10 fun b3=>?_)
  refine wc0 rfl call90 rfl (pG p.funcs[f].name hfs.1 _) ?_
  rintro _ _ ⟨hr34,rfl⟩
  rcases Bool.eq_false_or_eq_true (bQ p.funcs[f].name) with h35|h35
  ·rw [h35] at hr34
   subst hr34
   refine go 5 ?_
   by_cases h36:(6:Int)<((p.funcs[f].params.length:Nat):Int)
   ·refine wcp true rfl (mH h36) (go 22 ?_)
    exact bHe (s':=⟨bx,rw⟩) rfl sb2 ⟨cX (aDv f (by omega) (by unfold gW;rw [decide_eq_false (show ¬p.funcs[f].params.length <= 6 by omega)];simp)),rfl⟩
   refine wcp false rfl (mI h36) (go 4 ?_)
   refine wc0 rfl call91 rfl (wF _ 0 p.funcs[f].body (Nat.le_refl _) (by omega) hfs.2.2 (by omega) _) ?_
   rintro _ _ ⟨hr38,rfl⟩
   rcases Bool.eq_false_or_eq_true (bM 0 p.funcs[f].body) with h39|h39
   ·rw [h39] at hr38
    subst hr38
    refine go 13 ?_
    refine lE (fun j=>∀q (h:q<p.funcs[f].params.length),q<j -> bQ p.funcs[f].params[q].name=true) (p.funcs[f].params.length) 8 (fun j=>[(1,pP b1),(6,nI f),(7,pP b3)]) (fun _ _ h=>absurd h (by omega)) (sA rfl) fun j hj hvj=>?_
    replace hvj:∀q (h:q<p.funcs[f].params.length),q<j -> bQ p.funcs[f].params[q].name=true:=hvj
    show AWp prog _ ⟨140,_,_,(8,nI j)::[(1,pP b1),(6,nI f),(7,pP b3)]⟩ _
    refine go 7 ?_
    by_cases h41:((j:Nat):Int)<((p.funcs[f].params.length:Nat):Int)
    ·refine wcp true rfl (jZ h41) (go 12 ?_)
     refine wyz rfl (bH cP cP p.funcs[f].params gL (fun _=>rfl) j rfl rfl rfl rfl (by omega) (by decide) runUnderlying55 sizeOf89) (go 2 ?_)
     refine wc0 rfl call90 rfl (pG p.funcs[f].params[j].name (hfs.2.1 _ (getElem_mem _)) _) ?_
     rintro _ _ ⟨hr43,rfl⟩
     rcases Bool.eq_false_or_eq_true (bQ p.funcs[f].params[j].name) with h44|h44
     ·rw [h44] at hr43
      subst hr43
      refine go 9 ?_
      refine wad rfl (go 2 ?_)
      exact ⟨by omega,(fun q hq hlt2=>(Nat.lt_or_ge q j).elim (fun h9=>hvj q hq h9) (fun h9=>by have h8:j=q:=(by omega);subst h8;exact h44)),(aG rfl (gQ (by omega)) (sA rfl))⟩
     rw [h44] at hr43
     subst hr43
     refine go 19 ?_
     exact bHe (s':=⟨bx,rw⟩) rfl sb2 ⟨cX (aDv f (by omega) (by unfold gW;rw [oA (fun x:aS=>bQ x.name) _ j (by omega) h44];simp)),rfl⟩
    refine wcp false rfl (jQ h41) (go 11 ?_)
    refine wad rfl (go 2 ?_)
    exact ⟨by omega,(fun q hq hlt2=>(Nat.lt_or_ge q f).elim (fun h9=>hvf q hq h9) (fun h9=>by have h8:f=q:=(by omega);subst h8;exact (by unfold gW;rw [h35,decide_eq_true (show p.funcs[f].params.length <= 6 by omega),h39,yD _ _ (fun q hq=>hvj q hq (by omega))];rfl))),cA (.cons _ (.refl _)) (.refl _) (fun b hb=>List.mem_cons_of_mem _ (hb)) (aG rfl (gQ (by omega)) (sA rfl))⟩
   rw [h39] at hr38
   subst hr38
   refine go 17 ?_
   exact bHe (s':=⟨bx,rw⟩) rfl sb2 ⟨cX (aDv f (by omega) (by unfold gW;rw [h39];simp)),rfl⟩
  rw [h35] at hr34
  subst hr34
  refine go 28 ?_
  exact bHe (s':=⟨bx,rw⟩) rfl sb2 ⟨cX (aDv f (by omega) (by unfold gW;rw [h35];rfl)),rfl⟩
 refine wcp false rfl (jQ h32) (go 10 ?_)
 have hform:nY p=true:=by unfold nY;rw [decide_eq_true (by omega),yD _ _ (fun q hq=>hvk q hq (by omega)),yD _ _ (fun q hq=>hvi q hq (by omega)),yD _ _ (fun q hq=>hvf q hq (by omega))];rfl
 have hpb:=aAd hs hform
 have hw0:p.wt <= 100000000:=hw
 have hnz:(cR p).length <= 1000000000000000:=by omega
 refine go 1 ?_
 refine wc0 rfl call62 rfl (aB2 p hform hs (by omega) hnz _) ?_
 rintro _ _ ⟨rfl,rfl⟩
 refine wo rfl (aDc rfl rfl (by decide) rfl underlying9 underlying23 underlying5 (by first|(rw [kT];omega)|omega) (N:=(cR p).length) rfl (cs:=iF (cR p)) rfl ?_)
 refine wc0 rfl call16 rfl (aLb (cR p) _) ?_
 rintro _ _ ⟨(⟨tl52,hlx52,rfl,htl52⟩|⟨p52,e52,hlx52,rfl,he52⟩),rfl⟩
 ·refine go 12 ?_
  refine wcp true rfl (by simp [bC]) (go 4 ?_)
  exact bHe (s':=⟨bx,rw⟩) rfl sb1 ⟨cX (by rw [nX,hform,hlx52];rfl),rfl⟩
 refine go 12 ?_
 refine wcp false rfl (eD (by omega)) (go 4 ?_)
 exact bHe (s':=⟨bx,rw⟩) rfl sb1 ⟨cX (by rw [nX,hform,hlx52];rfl),rfl⟩
theorem aNw(p:cK)(hs:p.sane)(hw:p.wt <= 100000000)(s:Sto):aL prog 29 [.agg (jV p)] [] s fun t s'=>t=.c (.val (.string (bytes (vI p)))) /\ s'=s:=by
 obtain ⟨bx,rw⟩:=s
 refine acB func29 rfl ?_
 show AWp prog _ ⟨8,_,⟨bx,rw⟩,[(0,.agg (jV p))]⟩ _
 refine go 10 fun b1=>?_
 refine wc0 rfl call61 rfl (aPt p hs hw _) ?_
 rintro _ _ ⟨hr1,rfl⟩
 rcases Bool.eq_false_or_eq_true (jI p) with h2|h2
 ·rw [h2] at hr1
  subst hr1
  refine go 8 ?_
  have hform:nY p=true:=by have h9:=h2;rw [nX,Bool.and_eq_true] at h9;exact h9.1
  have hpb:=aAd hs hform
  refine go 1 ?_
  refine wc0 rfl call62 rfl (aB2 p hform hs (by omega) (by omega) _) ?_
  rintro _ _ ⟨rfl,rfl⟩
  refine go 4 ?_
  exact bHe (s':=⟨bx,rw⟩) rfl sb1 ⟨oW (by unfold vI;rw [h2];rfl),rfl⟩
 rw [h2] at hr1
 subst hr1
 refine go 11 ?_
 exact bHe (s':=⟨bx,rw⟩) rfl sb1 ⟨oW (by unfold vI;rw [h2];rfl),rfl⟩
end
end Go.Proofs.YtojinfngbbajgaaGreatDoor
