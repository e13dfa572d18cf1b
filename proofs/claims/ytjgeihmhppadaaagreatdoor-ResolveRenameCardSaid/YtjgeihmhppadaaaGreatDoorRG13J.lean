import Derived.Test.YtjgeihmhppadaaaGreatDoorRG12J
set_option linter.all false
set_option synthInstance.maxHeartbeats 1000000
set_option synthInstance.maxSize 1000000
namespace Go.Proofs.YtjgeihmhppadaaaGreatDoor
open List (length_append length_cons length_nil mem_append mem_cons not_mem_nil append_assoc getElem_mem take_of_length_le)
section
open Go.RowKit
def isN(s:aJ):Bool:=decide (1 <= s.kind /\ s.kind <= 4)
def isC(s:aJ):Bool:=decide (s.kind=3∨s.kind=4)
def isE(s:aJ):Bool:=decide (s.kind=1∨s.kind=2∨s.kind=7∨s.kind=8)
def isR(s:aJ):Bool:=decide (s.kind=5∨s.kind=6)
def isB(s:aJ):Bool:=decide (s.kind=7∨s.kind=8)
def aG7(s:aJ):Bool:=decide (¬(1 <= s.kind /\ s.kind <= 9))
def aEf(s:aJ):Bool:=aG7 s||isN s && !bQ s.name
def aF5(s:aJ):Bool:=aEf s||!isN s && !decide (s.name=aK)
def aD3(s:aJ):Bool:=aF5 s||isE s && !dM s.expr
def aFc(s:aJ):Bool:=aD3 s||!isE s && !bLg s.expr
def aFs(s:aJ):Bool:=aFc s||isR s && !okRefB s.ref
def aEx(s:aJ):Bool:=aFs s||!isR s && !kM s.ref
def aHl(s:aJ):Bool:=aEx s||!isC s && !decide (s.args.length=0)
def aOc(D:Nat)(s:aJ):Bool:=(if isB s then bM (D+1) s.thn else decide (s.thn.length=0)) && (decide (s.els.length=0)||(decide (s.kind=7) && bM (D+1) s.els))
theorem kN(D:Nat)(s:aJ):bK9 D s=(!aHl s && s.args.all fY && aOc D s):=by
 obtain ⟨k,n,e,r,args,t,el⟩:=s
 rw [bK9]
 unfold aOc aHl aEx aFs aFc aD3 aF5 aEf
 rw [show aG7 (.mk k n e r args t el)=!decide (1 <= k /\ k <= 9) from decide_not,show isN (.mk k n e r args t el)=decide (1 <= k /\ k <= 4) from rfl,show isC (.mk k n e r args t el)=decide (k=3∨k=4) from rfl,show isE (.mk k n e r args t el)=decide (k=1∨k=2∨k=7∨k=8) from rfl,show isR (.mk k n e r args t el)=decide (k=5∨k=6) from rfl,show isB (.mk k n e r args t el)=decide (k=7∨k=8) from rfl]
 show _=(_ && args.all fY && ((if decide (k=7∨k=8)=true then bM (D+1) t else decide (t.length=0)) && (decide (el.length=0)||(decide (k=7) && bM (D+1) el))))
 simp only [aJ.name,aJ.expr,aJ.ref,aJ.args]
 have hi:∀(p:Prop) [Decidable p] (a b:Bool),(if p then a else b)=((decide p && a)||(!decide p && b)):=λp _ a b=>by by_cases h:p<;>simp [h]
 simp only [hi,Bool.decide_eq_true]
 generalize decide (1 <= k /\ k <= 9)=b1
 generalize decide (1 <= k /\ k <= 4)=b2
 generalize decide (k=1∨k=2∨k=7∨k=8)=b3
 generalize decide (k=5∨k=6)=b4
 generalize decide (k=3∨k=4)=b5
 generalize decide (k=7∨k=8)=b6
 cases b1<;>cases b2<;>cases b3<;>cases b4<;>cases b5<;>cases b6<;>(simp [Bool.and_assoc];try rfl)
theorem aCi{a:eN}(h:a.mutex=true):fY a=(okRefB a.ref && bLg a.expr):=by unfold fY;rw [if_pos h]
theorem aCv{a:eN}(h:a.mutex=false):fY a=(kM a.ref && dM a.expr):=by unfold fY;rw [if_neg B5]
theorem oA{α:Type}(f:α -> Bool)(l:List α)(k:Nat)(h:k<l.length)(hf:f l[k]=false):l.all f=false:=by
 cases ha:l.all f with
 |false=>rfl
 |true=>rw [List.all_eq_true.1 ha _ (getElem_mem h)] at hf;cases hf
def c1(D:Nat)(s:aJ):Bool:=isB s && !bM (D+1) s.thn
def c2(D:Nat)(s:aJ):Bool:=c1 D s||!isB s && !decide (s.thn.length=0)
def c3(D:Nat)(s:aJ):Bool:=c2 D s||!decide (s.els.length=0) && (!decide (s.kind=7)||!bM (D+1) s.els)
theorem yW{s:aJ}(h:s.sane):s.name.size <= 4611686018427387904 /\ s.expr.sane /\ s.ref.sane /\ (∀a,a∈s.args -> a.sane) /\ gC s.thn /\ gC s.els:=by cases s;rw [aJ.sane] at h;exact h
theorem aA6{r:cY}(hs:r.sane)(h:okRefB r=true):(dC r).length <= r.wt*2000000:=by
 obtain ⟨h1,h2,h3⟩:=xE h
 have h4:=nL h1
 unfold cY.wt
 rcases h2 with h2|h2
 ·rw [aCa h2];omega
 have h0:0<r.index.length:=J
 have h5:=nM r.index 0 h0
 have h6:=tU (mV _ hs.2 _ (getElem_mem h0)) (kR (h3 _ (getElem_mem h0)))
 rw [wI h0];simp only [length_append,length_cons,length_nil];omega
theorem aAp:∀(l:List eN),(∀a,a∈l -> a.sane) -> (∀a,a∈l -> fY a=true) -> (bW dE l).length <= wtA l*2000010
 |[],_,_=>FE
 |a::l,hs,h=>by
  have h1:=aAp l (λx hx=>hs x (by simp [hx])) (λx hx=>h x (by simp [hx]))
  have h2:(dE a).length+2 <= a.wt*2000010:=by
   have h3:=xN (h a G0)
   have h4:=hs a G0
   unfold eN.wt
   cases hm:a.mutex with
   |true=>rw [pD hm];have:=aA6 h4.1 (h3.1 hm);simp only [length_append,length_cons,length_nil];omega
   |false=>rw [oZ hm];have:=tU h4.2 (kR (h3.2 hm));omega
  have h5:(bW dE (a::l)).length <= (dE a).length+2+(bW dE l).length:=by
   cases l with
   |nil=>simp [bW]
   |cons b r=>simp [bW];omega
  rw [wtA];omega
theorem oJ:∀(N D:Nat)(l:List aJ)(tabs:List UInt8),wtS l <= N -> bM D l=true -> gC l -> tabs.length <= D+1 -> (aC tabs l).length <= wtS l*3000000
 |_,_,[],_,_,_,_,_=>by rw [aC];simp
 |0,D,s::l,tabs,hw,_,_,_=>by rw [wtS,gD] at hw;omega
 |N+1,D,s::l,tabs,hw,hok,hs,ht=>by
  have hD:=iL D _ hok
  rw [bM,Bool.and_eq_true] at hok
  rw [gC] at hs
  rw [wtS,gD] at hw
  have ok:=aHv hs.1 hok.1
  have h1:=oJ (N+1) D l tabs J hok.2 hs.2 ht
  have ht1:(tabs++[(9:UInt8)]).length <= D+1+1:=DR
  have hE:(s.kind=1∨s.kind=2∨s.kind=7∨s.kind=8) -> (aP s.expr).length <= s.expr.nodes*2000000:=λh=>tU ok.saneE (ok.expr h)
  have hR:(s.kind=5∨s.kind=6) -> (dC s.ref).length <= s.ref.wt*2000000:=λh=>aA6 ok.saneR (ok.ref h)
  have hA:(dF s.args).length <= wtA s.args*2000010+2:=by have:=aAp s.args ok.saneA ok.args;unfold dF;simp only [length_append,length_cons,length_nil];omega
  have hT:(s.kind=7∨s.kind=8) -> (aC (tabs++[9]) s.thn).length <= wtS s.thn*3000000:=λh=>oJ N (D+1) s.thn (tabs++[9]) J (ok.thn h) ok.saneT ht1
  have hF:(if s.els.length=0 then ([]:List UInt8) else [32,101,108,115,101,32,123,10]++aC (tabs++[9]) s.els++tabs++[125]).length <= wtS s.els*3000000+40:=by
   rcases ok.els with h|h
   ·rw [if_pos h];simp
   have:=oJ N (D+1) s.els (tabs++[9]) J h ok.saneF ht1
   split
   ·simp
   simp only [length_append,length_cons,length_nil];omega
  have hn:(1 <= s.kind /\ s.kind <= 4) -> s.name.data.toList.length <= 16:=λh=>by
   have h2:=hok.1
   obtain ⟨k,n,e,r,a,t,f⟩:=s
   rw [bK9] at h2
   simp only [Bool.and_eq_true] at h2
   have h3:=h2.1.1.1.1.1.1.2
   have h:1 <= k /\ k <= 4:=h
   rw [if_pos h] at h3
   exact nL h3
  have hs1:(bY tabs s).length <= s.wt*3000000:=by
   rw [gD]
   have hk:s.kind=1∨s.kind=2∨s.kind=3∨s.kind=4∨s.kind=5∨s.kind=6∨s.kind=7∨s.kind=8∨(¬s.kind=1 /\ ¬s.kind=2 /\ ¬s.kind=3 /\ ¬s.kind=4 /\ ¬s.kind=5 /\ ¬s.kind=6 /\ ¬s.kind=7 /\ ¬s.kind=8):=J
   rcases hk with h|h|h|h|h|h|h|h|h
   ·have:=hE J;have:=hn J;rw [tP h];simp only [length_append,length_cons,length_nil];omega
   ·have:=hE J;have:=hn J;rw [tT h];simp only [length_append,length_cons,length_nil];omega
   ·have:=hn J;rw [tZ h];simp only [length_append,length_cons,length_nil];omega
   ·have:=hn J;rw [tH h];simp only [length_append,length_cons,length_nil];omega
   ·have:=hR J;rw [uD h];simp only [length_append,length_cons,length_nil];omega
   ·have:=hR J;rw [tI h];simp only [length_append,length_cons,length_nil];omega
   ·have:=hE J;have:=hT J;rw [pU h];simp only [length_append,length_cons,length_nil] at hF⊢;omega
   ·have:=hE J;have:=hT J;rw [pV h];simp only [length_append,length_cons,length_nil] at hF⊢;omega
   rw [uB h];simp only [length_append,length_cons,length_nil];omega
  rw [aC,wtS,length_append];omega
theorem sH{α:Type}(f:α -> List UInt8)(g:α -> Nat)(c:Nat):∀l:List α,(∀x,x∈l -> (f x).length <= g x*c) -> ((l.map f).flatten).length <= (l.map g).sum*c
 |[],_=>G0
 |x::r,h=>by
  have h1:=sH f g c r Gu
  have h2:=h x G0
  simp only [List.map_cons,List.flatten_cons,length_append,List.sum_cons,Nat.add_mul];omega
theorem aO9{α:Type}(l:List α):(l.map λ_=>1).sum=l.length:=by induction l with|nil=>rfl|cons a l ih=>simp [ih];omega
theorem aAd{p:cK}(hs:p.sane)(h:nY p=true):(cR p).length <= p.wt*3000000:=by
 unfold nY at h
 simp only [Bool.and_eq_true] at h
 obtain ⟨⟨⟨-,hg⟩,hm⟩,hf⟩:=h
 have h1:=sH aU (λ_=>1) 3000000 p.globals (λg hgm=>by
  have h2:=List.all_eq_true.1 hg g hgm
  unfold gH at h2
  rw [Bool.and_eq_true] at h2
  have h3:=nL h2.1
  have h4:=pS (hs.globals g hgm).1
  unfold aU;split<;>(simp only [length_append,length_cons,length_nil];omega))
 have h2:=sH bE (λ_=>1) 3000000 p.mutexes (λm hmm=>by
  have h2:=List.all_eq_true.1 hm m hmm
  unfold fS at h2
  simp only [Bool.and_eq_true] at h2
  have h3:=nL h2.1.1
  have h4:=pS (hs.mutexes m hmm).1
  unfold bE;split<;>split<;>(simp only [length_append,length_cons,length_nil];omega))
 have h3:=sH funcText bS.wt 3000000 p.funcs (λf hfm=>by
  have h2:=List.all_eq_true.1 hf f hfm
  unfold gW at h2
  simp only [Bool.and_eq_true,decide_eq_true_eq] at h2
  have h3:=nL h2.1.1.1
  have h4:=oJ _ 0 f.body [9] (Nat.le_refl _) h2.1.2 (hs.funcs f hfm).2.2 V
  have h5:(bW bX f.params).length <= f.params.length*30:=by
   have:∀(l:List aS),(∀x,x∈l -> bQ x.name=true) -> (bW bX l).length <= l.length*30:=by
    intro l
    induction l with
    |nil=>intro _;simp [bW]
    |cons x l ih=>
     intro hx
     have h6:=ih (λy hy=>hx y (by simp [hy]))
     have h7:=nL (hx x G0)
     have h8:(bX x).length <= 22:=by unfold bX;split<;>(simp only [length_append,length_cons,length_nil];omega)
     have h9:(bW bX (x::l)).length <= (bX x).length+2+(bW bX l).length:=by
      cases l with
      |nil=>simp [bW]
      |cons b r=>simp [bW];omega
     simp only [length_cons];omega
   exact this f.params (List.all_eq_true.1 h2.2)
  rw [wP];unfold bS.wt
  simp only [length_append,length_cons,length_nil];omega)
 rw [aO9] at h1 h2
 unfold cR cK.wt
 simp only [length_append];omega
theorem yD{α:Type}(f:α -> Bool)(l:List α)(h:∀i (h:i<l.length),f l[i]=true):l.all f=true:=List.all_eq_true.2 λx hx=>by obtain ⟨i,hi,rfl⟩:=List.getElem_of_mem hx;exact h i hi
end
end Go.Proofs.YtjgeihmhppadaaaGreatDoor
