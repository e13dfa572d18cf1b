import Derived.Test.YtojinfngbbajgaaGreatDoorP5J
import Derived.Test.YtojinfngbbajgaaGreatDoorP17J
import Derived.Test.YtojinfngbbajgaaGreatDoorP10J
import Derived.Test.YtojinfngbbajgaaGreatDoorP9J
set_option linter.all false
set_option synthInstance.maxHeartbeats 1000000
set_option synthInstance.maxSize 1000000
set_option maxHeartbeats 1600000
set_option maxRecDepth 100000
namespace Go.Proofs.YtojinfngbbajgaaGreatDoor
open Go.Proofs.Tryz
open List (length_append length_cons length_nil mem_append mem_cons not_mem_nil append_assoc getElem_mem take_of_length_le)
section
open Go.RowKit
theorem aPg{r:cY}(h:r.index.length=0):okRefB r=bQ r.name:=by
 obtain ⟨n,ix⟩:=r
 obtain rfl:ix=[]:=List.length_eq_zero_iff.1 h
 unfold okRefB;simp
theorem aIw{r:cY}(h:r.index.length=1):okRefB r=(bQ r.name && dM (r.index[0]'(by omega))):=by
 obtain ⟨n,ix⟩:=r
 match ix,h with
 |[e],_=>rfl
theorem aN6{r:cY}(h:¬r.index.length=0)(h1:¬r.index.length=1):okRefB r=false:=by
 obtain ⟨n,ix⟩:=r
 match ix,h,h1 with
 |[],h,_=>exact absurd rfl h
 |[e],_,h=>exact absurd rfl h
 |_::_::_,_,_=>unfold okRefB;simp
def isN(s:aJ):Bool:=decide (1 <= s.kind /\ s.kind <= 4)
def isC(s:aJ):Bool:=decide (s.kind=3∨s.kind=4)
def isE(s:aJ):Bool:=decide (s.kind=1∨s.kind=2∨s.kind=7∨s.kind=8)
def isR(s:aJ):Bool:=decide (s.kind=5∨s.kind=6)
def isB(s:aJ):Bool:=decide (s.kind=7∨s.kind=8)
def aG7(s:aJ):Bool:=decide (¬(1 <= s.kind /\ s.kind <= 9))
def aEf(s:aJ):Bool:=aG7 s||isN s && !bQ s.name
def aF5(s:aJ):Bool:=aEf s||!isN s && !decide (s.name=aK)
def aD3(s:aJ):Bool:=aF5 s||isE s && !dM s.expr
def aFc(s:aJ):Bool:=aD3 s||!isE s && !bLg s.expr
def aFs(s:aJ):Bool:=aFc s||isR s && !okRefB s.ref
def aEx(s:aJ):Bool:=aFs s||!isR s && !kM s.ref
def aHl(s:aJ):Bool:=aEx s||!isC s && !decide (s.args.length=0)
def aOc(D:Nat)(s:aJ):Bool:=(if isB s then bM (D+1) s.thn else decide (s.thn.length=0)) && (decide (s.els.length=0)||(decide (s.kind=7) && bM (D+1) s.els))
theorem kN(D:Nat)(s:aJ):bK9 D s=(!aHl s && s.args.all fY && aOc D s):=by
 obtain ⟨k,n,e,r,args,t,el⟩:=s
 rw [bK9]
 unfold aOc aHl aEx aFs aFc aD3 aF5 aEf
 rw [show aG7 (.mk k n e r args t el)=!decide (1 <= k /\ k <= 9) from decide_not,show isN (.mk k n e r args t el)=decide (1 <= k /\ k <= 4) from rfl,show isC (.mk k n e r args t el)=decide (k=3∨k=4) from rfl,show isE (.mk k n e r args t el)=decide (k=1∨k=2∨k=7∨k=8) from rfl,show isR (.mk k n e r args t el)=decide (k=5∨k=6) from rfl,show isB (.mk k n e r args t el)=decide (k=7∨k=8) from rfl]
 show _=(_ && args.all fY && ((if decide (k=7∨k=8)=true then bM (D+1) t else decide (t.length=0)) && (decide (el.length=0)||(decide (k=7) && bM (D+1) el))))
 simp only [aJ.name,aJ.expr,aJ.ref,aJ.args]
 have hi:∀(p:Prop) [Decidable p] (a b:Bool),(if p then a else b)=((decide p && a)||(!decide p && b)):=fun p _ a b=>by by_cases h:p<;>simp [h]
 simp only [hi,Bool.decide_eq_true]
 generalize decide (1 <= k /\ k <= 9)=b1
 generalize decide (1 <= k /\ k <= 4)=b2
 generalize decide (k=1∨k=2∨k=7∨k=8)=b3
 generalize decide (k=5∨k=6)=b4
 generalize decide (k=3∨k=4)=b5
 generalize decide (k=7∨k=8)=b6
 cases b1<;>cases b2<;>cases b3<;>cases b4<;>cases b5<;>cases b6<;>(simp [Bool.and_assoc];try rfl)
theorem iO(D:Nat):∀(l:List aJ)(k:Nat)(h:k<l.length),bK9 D l[k]=false -> bM D l=false
 |s::l,0,_,h=>by rw [bM];simp only [List.getElem_cons_zero] at h;rw [h];rfl
 |s::l,k+1,hk,h=>by rw [bM,iO D l k (by simpa using hk) (by simpa using h),Bool.and_false]
theorem vW(D:Nat)(hD:D<24):∀(l:List aJ),(∀k (h:k<l.length),bK9 D l[k]=true) -> bM D l=true
 |[],_=>by rw [bM];exact decide_eq_true hD
 |s::l,h=>by rw [bM,show bK9 D s=true from h 0 (by simp),vW D hD l (fun k hk=>h (k+1) (by simpa using hk))];rfl
theorem aCm(D:Nat)(hD:¬D<24)(l:List aJ):bM D l=false:=by
 cases h:bM D l with
 |false=>rfl
 |true=>exact absurd (iL D l h) hD
theorem aEi(e:aH)(s:Sto):aL prog 129 [.agg (cU e)] [] s fun t s'=>t=.c (.val (.bool (bLg e))) /\ s'=s:=by
 obtain ⟨bx,rw⟩:=s
 refine acB func129 rfl ?_
 show AWp prog _ ⟨22,_,⟨bx,rw⟩,[(0,.agg (cU e))]⟩ _
 refine go 10 fun b1=>?_
 by_cases h1:e.op=0
 ·refine wcp true rfl (eR h1) (go 3 ?_)
  by_cases h2:e.num=0
  ·refine wcp true rfl (eR h2) (go 4 ?_)
   by_cases h3:e.name=aK
   ·refine wyz rfl (aZ true rfl rfl rfl (aL8 h3)) (go 5 ?_)
    by_cases h4:((e.args.length:Nat):Int)=0
    ·refine wcp true rfl (eR h4) (go 5 ?_)
     exact bHe (s':=⟨bx,rw⟩) rfl sb1 ⟨cX (by unfold bLg;rw [decide_eq_true (show e.op=0 /\ e.num=0 by omega),decide_eq_true (show e.name=aK by assumption),decide_eq_true (show e.args.length=0 by omega)];rfl),rfl⟩
    refine wcp false rfl (eD h4) (go 5 ?_)
    exact bHe (s':=⟨bx,rw⟩) rfl sb1 ⟨cX (Bool.eq_false_iff.2 fun hh=>by simp only [bLg,Bool.and_eq_true,decide_eq_true_eq] at hh;first|omega|exact h4 hh.1.2),rfl⟩
   refine wyz rfl (aZ false rfl rfl rfl (aLs h3)) (go 11 ?_)
   exact bHe (s':=⟨bx,rw⟩) rfl sb1 ⟨cX (Bool.eq_false_iff.2 fun hh=>by simp only [bLg,Bool.and_eq_true,decide_eq_true_eq] at hh;first|omega|exact h3 hh.1.2),rfl⟩
  refine wcp false rfl (eD h2) (go 16 ?_)
  exact bHe (s':=⟨bx,rw⟩) rfl sb1 ⟨cX (Bool.eq_false_iff.2 fun hh=>by simp only [bLg,Bool.and_eq_true,decide_eq_true_eq] at hh;first|omega|exact h2 hh.1.2),rfl⟩
 refine wcp false rfl (eD h1) (go 20 ?_)
 exact bHe (s':=⟨bx,rw⟩) rfl sb1 ⟨cX (Bool.eq_false_iff.2 fun hh=>by simp only [bLg,Bool.and_eq_true,decide_eq_true_eq] at hh;first|omega|exact h1 hh.1.2),rfl⟩
theorem aIb(r:cY)(s:Sto):aL prog 131 [.agg (encR r)] [] s fun t s'=>t=.c (.val (.bool (kM r))) /\ s'=s:=by
 obtain ⟨bx,rw⟩:=s
 refine acB func131 rfl ?_
 show AWp prog _ ⟨12,_,⟨bx,rw⟩,[(0,.agg (encR r))]⟩ _
 refine go 10 fun b1=>?_
 by_cases h1:r.name=aK
 ·refine wyz rfl (aZ true rfl rfl rfl (aL8 h1)) (go 4 ?_)
  by_cases h2:((r.index.length:Nat):Int)=0
  ·refine wcp true rfl (eR h2) (go 5 ?_)
   exact bHe (s':=⟨bx,rw⟩) rfl sb1 ⟨cX (by unfold kM;rw [decide_eq_true (show r.name=aK by assumption),decide_eq_true (show r.index.length=0 by omega)];rfl),rfl⟩
  refine wcp false rfl (eD h2) (go 5 ?_)
  exact bHe (s':=⟨bx,rw⟩) rfl sb1 ⟨cX (Bool.eq_false_iff.2 fun hh=>by simp only [kM,Bool.and_eq_true,decide_eq_true_eq] at hh;first|omega|exact h2 hh.1),rfl⟩
 refine wyz rfl (aZ false rfl rfl rfl (aLs h1)) (go 10 ?_)
 exact bHe (s':=⟨bx,rw⟩) rfl sb1 ⟨cX (Bool.eq_false_iff.2 fun hh=>by simp only [kM,Bool.and_eq_true,decide_eq_true_eq] at hh;first|omega|exact h1 hh.1),rfl⟩
theorem aIq(r:cY)(hs:r.sane)(hN:cZ r.index <= 900000000)(s:Sto):aL prog 130 [.agg (encR r)] [] s fun t s'=>t=.c (.val (.bool (okRefB r))) /\ s'=s:=by
 obtain ⟨bx,rw⟩:=s
 refine acB func130 rfl ?_
 show AWp prog _ ⟨25,_,⟨bx,rw⟩,[(0,.agg (encR r))]⟩ _
 refine go 10 fun b1=>?_
 refine wc0 rfl call90 rfl (pG r.name (by first|assumption|exact hs.1) _) ?_
 rintro _ _ ⟨hr1,rfl⟩
 rcases Bool.eq_false_or_eq_true (bQ r.name) with h2|h2
 ·rw [h2] at hr1
  subst hr1
  refine go 4 ?_
  by_cases h3:((r.index.length:Nat):Int)=0
  ·refine wcp true rfl (eR h3) (go 18 ?_)
   exact bHe (s':=⟨bx,rw⟩) rfl sb1 ⟨cX (by rw [aPg (by omega),h2]),rfl⟩
  refine wcp false rfl (eD h3) (go 4 ?_)
  by_cases h4:((r.index.length:Nat):Int)=1
  ·refine wcp true rfl (eR h4) (go 3 ?_)
   refine wyz rfl (bH fO cU r.index iU fP 0 rfl rfl rfl rfl (by omega) (by decide) runUnderlying71 sizeOf73) (go 1 ?_)
   refine wc0 rfl call128 rfl (qT r.index[0] (by have:=nM r.index 0 (by omega);omega) (mV _ hs.2 _ (getElem_mem _)) _) ?_
   rintro _ _ ⟨hr5,rfl⟩
   rcases Bool.eq_false_or_eq_true (dM r.index[0]) with h6|h6
   ·rw [h6] at hr5
    subst hr5
    refine go 7 ?_
    exact bHe (s':=⟨bx,rw⟩) rfl sb1 ⟨cX (by rw [aIw (by omega),h2,h6];rfl),rfl⟩
   rw [h6] at hr5
   subst hr5
   refine go 7 ?_
   exact bHe (s':=⟨bx,rw⟩) rfl sb1 ⟨cX (by rw [aIw (by omega),h2,h6];rfl),rfl⟩
  refine wcp false rfl (eD h4) (go 13 ?_)
  exact bHe (s':=⟨bx,rw⟩) rfl sb1 ⟨cX (aN6 (by omega) (by omega)),rfl⟩
 rw [h2] at hr1
 subst hr1
 refine go 23 ?_
 exact bHe (s':=⟨bx,rw⟩) rfl sb1 ⟨cX (by unfold okRefB;rw [h2];rfl),rfl⟩
theorem aCi{a:eN}(h:a.mutex=true):fY a=(okRefB a.ref && bLg a.expr):=by unfold fY;rw [if_pos h]
theorem aCv{a:eN}(h:a.mutex=false):fY a=(kM a.ref && dM a.expr):=by unfold fY;rw [if_neg (by rw [h];decide)]
theorem oA{α:Type}(f:α -> Bool)(l:List α)(k:Nat)(h:k<l.length)(hf:f l[k]=false):l.all f=false:=by
 cases ha:l.all f with
 |false=>rfl
 |true=>rw [List.all_eq_true.1 ha _ (getElem_mem h)] at hf;cases hf
def c1(D:Nat)(s:aJ):Bool:=isB s && !bM (D+1) s.thn
def c2(D:Nat)(s:aJ):Bool:=c1 D s||!isB s && !decide (s.thn.length=0)
def c3(D:Nat)(s:aJ):Bool:=c2 D s||!decide (s.els.length=0) && (!decide (s.kind=7)||!bM (D+1) s.els)
theorem aIy(D:Nat)(s:aJ):aOc D s=!c3 D s:=by
 unfold aOc c3 c2 c1
 cases isB s<;>simp [Bool.not_or]
theorem yW{s:aJ}(h:s.sane):s.name.size <= 4611686018427387904 /\ s.expr.sane /\ s.ref.sane /\ (∀a,a∈s.args -> a.sane) /\ gC s.thn /\ gC s.els:=by cases s;rw [aJ.sane] at h;exact h
theorem uP(D:Nat)(l:List aJ)(hs:gC l)(hw:wtS l <= 900000000)(ih1:∀k (h:k<l.length) (s:Sto),aL prog 91 [.c (.sl l[k].thn.length (l[k].thn.flatMap encS)),.c (.val (.int .i64 (((D:Nat):Int)+1)))] [] s fun t s'=>t=.c (.val (.bool (bM (D+1) l[k].thn))) /\ s'=s)(ih2:∀k (h:k<l.length) (s:Sto),aL prog 91 [.c (.sl l[k].els.length (l[k].els.flatMap encS)),.c (.val (.int .i64 (((D:Nat):Int)+1)))] [] s fun t s'=>t=.c (.val (.bool (bM (D+1) l[k].els))) /\ s'=s)(s:Sto):aL prog 91 [.c (.sl l.length (l.flatMap encS)),nI D] [] s fun t s'=>t=.c (.val (.bool (bM D l))) /\ s'=s:=by
 obtain ⟨bx,rw⟩:=s
 have hll:=uZ l
 refine acB func91 rfl ?_
 show AWp prog _ ⟨219,_,⟨bx,rw⟩,[(0,.c (.sl l.length (l.flatMap encS))),(1,nI D)]⟩ _
 refine go 9 ?_
 by_cases h1:(24:Int) <= ((D:Nat):Int)
 ·refine wcp true rfl (aMq h1) (go 10 ?_)
  exact bHe (s':=⟨bx,rw⟩) rfl sb0 ⟨cX (aCm D (by omega) l),rfl⟩
 refine wcp false rfl (aMx h1) (go 12 ?_)
 refine lE (fun k=>∀i (h:i<l.length),i<k -> bK9 D l[i]=true) (l.length) 5 (fun k=>[(0,.c (.sl l.length (l.flatMap encS))),(1,nI D)]) (fun _ _ h=>absurd h (by omega)) (sA rfl) fun k hk hvk=>?_
 replace hvk:∀i (h:i<l.length),i<k -> bK9 D l[i]=true:=hvk
 show AWp prog _ ⟨219,_,_,(5,nI k)::[(0,.c (.sl l.length (l.flatMap encS))),(1,nI D)]⟩ _
 refine go 6 ?_
 by_cases h4:((k:Nat):Int)<((l.length:Nat):Int)
 ·refine wcp true rfl (jZ h4) (go 9 ?_)
  have hlt:k<l.length:=by omega
  have hsk:=oS _ hs _ (getElem_mem hlt)
  obtain ⟨hsn,hse,hsr,hsa,hst,hsf⟩:=yW hsk
  have hwk:=uF l k hlt
  rw [gD] at hwk
  unfold cY.wt at hwk
  have hwa:=aCj l[k].args
  refine go 2 ?_
  refine wyz rfl (bH encS dG l mE cJ k rfl rfl rfl rfl (by omega) (by decide) runUnderlying56 sizeOf78) (go 12 fun b1=>?_)
  refine xX [(8,.c (.val (.bool (isN l[k])))),(9,.c (.val (.bool (isC l[k])))),(0,.c (.sl l.length (l.flatMap encS))),(1,nI D),(5,nI k),(6,pP b1),(7,.c (.val (.int .i64 l[k].kind)))] ?_ ?_
  ·refine go 2 ?_
   by_cases h6:(1:Int) <= l[k].kind
   ·refine wcp true rfl (aMq h6) (go 2 ?_)
    by_cases h7:l[k].kind <= 4
    ·refine wcp true rfl (aPz h7) (go 2 ?_)
     by_cases h8:l[k].kind=3
     ·refine wcp true rfl (eR h8) (go 7 ?_)
      exact ⟨rfl,(aG rfl (bZ (by unfold isN;first|exact (decide_eq_true (by omega)).symm|exact (decide_eq_false (by omega)).symm)) (aG rfl (bZ (by unfold isC;first|exact (decide_eq_true (by omega)).symm|exact (decide_eq_false (by omega)).symm)) (sA rfl)))⟩
     refine wcp false rfl (eD h8) (go 2 ?_)
     by_cases h9:l[k].kind=4
     ·refine wcp true rfl (eR h9) (go 4 ?_)
      exact ⟨rfl,(aG rfl (bZ (by unfold isN;first|exact (decide_eq_true (by omega)).symm|exact (decide_eq_false (by omega)).symm)) (aG rfl (bZ (by unfold isC;first|exact (decide_eq_true (by omega)).symm|exact (decide_eq_false (by omega)).symm)) (sA rfl)))⟩
     refine wcp false rfl (eD h9) (go 4 ?_)
     exact ⟨rfl,(aG rfl (bZ (by unfold isN;first|exact (decide_eq_true (by omega)).symm|exact (decide_eq_false (by omega)).symm)) (aG rfl (bZ (by unfold isC;first|exact (decide_eq_true (by omega)).symm|exact (decide_eq_false (by omega)).symm)) (sA rfl)))⟩
    refine wcp false rfl (aPx h7) (go 2 ?_)
    refine wcp false rfl (eD (by omega)) (go 2 ?_)
    refine wcp false rfl (eD (by omega)) (go 4 ?_)
    exact ⟨rfl,(aG rfl (bZ (by unfold isN;first|exact (decide_eq_true (by omega)).symm|exact (decide_eq_false (by omega)).symm)) (aG rfl (bZ (by unfold isC;first|exact (decide_eq_true (by omega)).symm|exact (decide_eq_false (by omega)).symm)) (sA rfl)))⟩
   refine wcp false rfl (aMx h6) (go 5 ?_)
   refine wcp false rfl (eD (by omega)) (go 2 ?_)
   refine wcp false rfl (eD (by omega)) (go 4 ?_)
   exact ⟨rfl,(aG rfl (bZ (by unfold isN;first|exact (decide_eq_true (by omega)).symm|exact (decide_eq_false (by omega)).symm)) (aG rfl (bZ (by unfold isC;first|exact (decide_eq_true (by omega)).symm|exact (decide_eq_false (by omega)).symm)) (sA rfl)))⟩
  refine xX [(10,.c (.val (.bool (isE l[k])))),(0,.c (.sl l.length (l.flatMap encS))),(1,nI D),(5,nI k),(6,pP b1),(7,.c (.val (.int .i64 l[k].kind))),(8,.c (.val (.bool (isN l[k])))),(9,.c (.val (.bool (isC l[k]))))] ?_ ?_
  ·refine go 2 ?_
   by_cases h10:l[k].kind=1
   ·refine wcp true rfl (eR h10) (go 14 ?_)
    exact ⟨rfl,(aG rfl (bZ (by unfold isE;first|exact (decide_eq_true (by omega)).symm|exact (decide_eq_false (by omega)).symm)) (sA rfl))⟩
   refine wcp false rfl (eD h10) (go 2 ?_)
   by_cases h11:l[k].kind=2
   ·refine wcp true rfl (eR h11) (go 11 ?_)
    exact ⟨rfl,(aG rfl (bZ (by unfold isE;first|exact (decide_eq_true (by omega)).symm|exact (decide_eq_false (by omega)).symm)) (sA rfl))⟩
   refine wcp false rfl (eD h11) (go 3 ?_)
   by_cases h12:l[k].kind=7
   ·refine wcp true rfl (eR h12) (go 7 ?_)
    exact ⟨rfl,(aG rfl (bZ (by unfold isE;first|exact (decide_eq_true (by omega)).symm|exact (decide_eq_false (by omega)).symm)) (sA rfl))⟩
   refine wcp false rfl (eD h12) (go 3 ?_)
   by_cases h13:l[k].kind=8
   ·refine wcp true rfl (eR h13) (go 3 ?_)
    exact ⟨rfl,(aG rfl (bZ (by unfold isE;first|exact (decide_eq_true (by omega)).symm|exact (decide_eq_false (by omega)).symm)) (sA rfl))⟩
   refine wcp false rfl (eD h13) (go 3 ?_)
   exact ⟨rfl,(aG rfl (bZ (by unfold isE;first|exact (decide_eq_true (by omega)).symm|exact (decide_eq_false (by omega)).symm)) (sA rfl))⟩
  refine xX [(11,.c (.val (.bool (isR l[k])))),(0,.c (.sl l.length (l.flatMap encS))),(1,nI D),(5,nI k),(6,pP b1),(7,.c (.val (.int .i64 l[k].kind))),(8,.c (.val (.bool (isN l[k])))),(9,.c (.val (.bool (isC l[k])))),(10,.c (.val (.bool (isE l[k]))))] ?_ ?_
  ·refine go 2 ?_
   by_cases h14:l[k].kind=5
   ·refine wcp true rfl (eR h14) (go 6 ?_)
    exact ⟨rfl,(aG rfl (bZ (by unfold isR;first|exact (decide_eq_true (by omega)).symm|exact (decide_eq_false (by omega)).symm)) (sA rfl))⟩
   refine wcp false rfl (eD h14) (go 2 ?_)
   by_cases h15:l[k].kind=6
   ·refine wcp true rfl (eR h15) (go 3 ?_)
    exact ⟨rfl,(aG rfl (bZ (by unfold isR;first|exact (decide_eq_true (by omega)).symm|exact (decide_eq_false (by omega)).symm)) (sA rfl))⟩
   refine wcp false rfl (eD h15) (go 3 ?_)
   exact ⟨rfl,(aG rfl (bZ (by unfold isR;first|exact (decide_eq_true (by omega)).symm|exact (decide_eq_false (by omega)).symm)) (sA rfl))⟩
  refine go 3 ?_
  refine iE 7 [(67,.c (.val (.bool (aG7 l[k])))),(0,.c (.sl l.length (l.flatMap encS))),(1,nI D),(5,nI k),(6,pP b1),(7,.c (.val (.int .i64 l[k].kind))),(8,.c (.val (.bool (isN l[k])))),(9,.c (.val (.bool (isC l[k])))),(10,.c (.val (.bool (isE l[k])))),(11,.c (.val (.bool (isR l[k]))))] ?_ ?_
  ·refine go 1 ?_
   by_cases h16:l[k].kind<1
   ·refine wcp true rfl (jZ h16) (go 6 ?_)
    exact ⟨rfl,(aG rfl (bZ (by unfold aG7;first|exact (decide_eq_true (by omega)).symm|exact (decide_eq_false (by omega)).symm)) (sA rfl))⟩
   refine wcp false rfl (jQ h16) (go 2 ?_)
   by_cases h17:(9:Int)<l[k].kind
   ·refine wcp true rfl (mH h17) (go 3 ?_)
    exact ⟨rfl,(aG rfl (bZ (by unfold aG7;first|exact (decide_eq_true (by omega)).symm|exact (decide_eq_false (by omega)).symm)) (sA rfl))⟩
   refine wcp false rfl (mI h17) (go 3 ?_)
   exact ⟨rfl,(aG rfl (bZ (by unfold aG7;first|exact (decide_eq_true (by omega)).symm|exact (decide_eq_false (by omega)).symm)) (sA rfl))⟩
  refine iE 9 [(76,.c (.val (.bool (aEf l[k])))),(0,.c (.sl l.length (l.flatMap encS))),(1,nI D),(5,nI k),(6,pP b1),(7,.c (.val (.int .i64 l[k].kind))),(8,.c (.val (.bool (isN l[k])))),(9,.c (.val (.bool (isC l[k])))),(10,.c (.val (.bool (isE l[k])))),(11,.c (.val (.bool (isR l[k]))))] ?_ ?_
  ·rcases Bool.eq_false_or_eq_true (aG7 l[k]) with h18|h18
   ·refine eA 67 rfl (bZ h18) (go 10 ?_)
    exact ⟨rfl,(aG rfl (bZ (by unfold aEf;rw [h18];rfl)) (sA rfl))⟩
   refine eA 67 rfl (bZ h18) (go 1 ?_)
   rcases Bool.eq_false_or_eq_true (isN l[k]) with h19|h19
   ·refine wyz rfl (fL (bZ h19) (lW rfl rfl)) (go 2 ?_)
    refine wc0 rfl call90 rfl (pG l[k].name (by first|assumption|exact hsn) _) ?_
    rintro _ _ ⟨hr20,rfl⟩
    rcases Bool.eq_false_or_eq_true (bQ l[k].name) with h21|h21
    ·rw [h21] at hr20
     subst hr20
     refine go 5 ?_
     exact ⟨rfl,(aG rfl (bZ (by unfold aEf;rw [h18,h19,h21];rfl)) (sA rfl))⟩
    rw [h21] at hr20
    subst hr20
    refine go 5 ?_
    exact ⟨rfl,(aG rfl (bZ (by unfold aEf;rw [h18,h19,h21];rfl)) (sA rfl))⟩
   refine wyz rfl (fL (bZ h19) (lW rfl rfl)) (go 8 ?_)
   exact ⟨rfl,(aG rfl (bZ (by unfold aEf;rw [h18,h19];rfl)) (sA rfl))⟩
  refine iE 9 [(85,.c (.val (.bool (aF5 l[k])))),(0,.c (.sl l.length (l.flatMap encS))),(1,nI D),(5,nI k),(6,pP b1),(7,.c (.val (.int .i64 l[k].kind))),(8,.c (.val (.bool (isN l[k])))),(9,.c (.val (.bool (isC l[k])))),(10,.c (.val (.bool (isE l[k])))),(11,.c (.val (.bool (isR l[k]))))] ?_ ?_
  ·rcases Bool.eq_false_or_eq_true (aEf l[k]) with h22|h22
   ·refine eA 76 rfl (bZ h22) (go 10 ?_)
    exact ⟨rfl,(aG rfl (bZ (by unfold aF5;rw [h22];rfl)) (sA rfl))⟩
   refine eA 76 rfl (bZ h22) (go 1 ?_)
   rcases Bool.eq_false_or_eq_true (isN l[k]) with h23|h23
   ·refine wyz rfl (fL (bZ (aKs h23)) (lF rfl rfl)) (go 8 ?_)
    exact ⟨rfl,(aG rfl (bZ (by unfold aF5;rw [h22,h23];rfl)) (sA rfl))⟩
   refine wyz rfl (fL (bZ (aKt h23)) (lF rfl rfl)) (go 3 ?_)
   by_cases h24:l[k].name=aK
   ·refine wyz rfl (aZ false rfl rfl rfl (aMz h24)) (go 4 ?_)
    exact ⟨rfl,(aG rfl (bZ (by unfold aF5;rw [h22,h23,decide_eq_true h24];rfl)) (sA rfl))⟩
   refine wyz rfl (aZ true rfl rfl rfl (aLc h24)) (go 4 ?_)
   exact ⟨rfl,(aG rfl (bZ (by unfold aF5;rw [h22,h23,decide_eq_false h24];rfl)) (sA rfl))⟩
  refine iE 9 [(94,.c (.val (.bool (aD3 l[k])))),(0,.c (.sl l.length (l.flatMap encS))),(1,nI D),(5,nI k),(6,pP b1),(7,.c (.val (.int .i64 l[k].kind))),(8,.c (.val (.bool (isN l[k])))),(9,.c (.val (.bool (isC l[k])))),(10,.c (.val (.bool (isE l[k])))),(11,.c (.val (.bool (isR l[k]))))] ?_ ?_
  ·rcases Bool.eq_false_or_eq_true (aF5 l[k]) with h25|h25
   ·refine eA 85 rfl (bZ h25) (go 10 ?_)
    exact ⟨rfl,(aG rfl (bZ (by unfold aD3;rw [h25];rfl)) (sA rfl))⟩
   refine eA 85 rfl (bZ h25) (go 1 ?_)
   rcases Bool.eq_false_or_eq_true (isE l[k]) with h26|h26
   ·refine wyz rfl (fL (bZ h26) (lW rfl rfl)) (go 2 ?_)
    refine wc0 rfl call128 rfl (qT l[k].expr (by omega) hse _) ?_
    rintro _ _ ⟨hr27,rfl⟩
    rcases Bool.eq_false_or_eq_true (dM l[k].expr) with h28|h28
    ·rw [h28] at hr27
     subst hr27
     refine go 5 ?_
     exact ⟨rfl,(aG rfl (bZ (by unfold aD3;rw [h25,h26,h28];rfl)) (sA rfl))⟩
    rw [h28] at hr27
    subst hr27
    refine go 5 ?_
    exact ⟨rfl,(aG rfl (bZ (by unfold aD3;rw [h25,h26,h28];rfl)) (sA rfl))⟩
   refine wyz rfl (fL (bZ h26) (lW rfl rfl)) (go 8 ?_)
   exact ⟨rfl,(aG rfl (bZ (by unfold aD3;rw [h25,h26];rfl)) (sA rfl))⟩
  refine iE 10 [(104,.c (.val (.bool (aFc l[k])))),(0,.c (.sl l.length (l.flatMap encS))),(1,nI D),(5,nI k),(6,pP b1),(7,.c (.val (.int .i64 l[k].kind))),(8,.c (.val (.bool (isN l[k])))),(9,.c (.val (.bool (isC l[k])))),(10,.c (.val (.bool (isE l[k])))),(11,.c (.val (.bool (isR l[k]))))] ?_ ?_
  ·rcases Bool.eq_false_or_eq_true (aD3 l[k]) with h29|h29
   ·refine eA 94 rfl (bZ h29) (go 11 ?_)
    exact ⟨rfl,(aG rfl (bZ (by unfold aFc;rw [h29];rfl)) (sA rfl))⟩
   refine eA 94 rfl (bZ h29) (go 1 ?_)
   rcases Bool.eq_false_or_eq_true (isE l[k]) with h30|h30
   ·refine wyz rfl (fL (bZ (aKs h30)) (lF rfl rfl)) (go 9 ?_)
    exact ⟨rfl,(aG rfl (bZ (by unfold aFc;rw [h29,h30];rfl)) (sA rfl))⟩
   refine wyz rfl (fL (bZ (aKt h30)) (lF rfl rfl)) (go 3 ?_)
   refine wc0 rfl call129 rfl (aEi l[k].expr _) ?_
   rintro _ _ ⟨hr31,rfl⟩
   rcases Bool.eq_false_or_eq_true (bLg l[k].expr) with h32|h32
   ·rw [h32] at hr31
    subst hr31
    refine go 5 ?_
    exact ⟨rfl,(aG rfl (bZ (by unfold aFc;rw [h29,h30,h32];rfl)) (sA rfl))⟩
   rw [h32] at hr31
   subst hr31
   refine go 5 ?_
   exact ⟨rfl,(aG rfl (bZ (by unfold aFc;rw [h29,h30,h32];rfl)) (sA rfl))⟩
  refine iE 9 [(113,.c (.val (.bool (aFs l[k])))),(0,.c (.sl l.length (l.flatMap encS))),(1,nI D),(5,nI k),(6,pP b1),(7,.c (.val (.int .i64 l[k].kind))),(8,.c (.val (.bool (isN l[k])))),(9,.c (.val (.bool (isC l[k])))),(10,.c (.val (.bool (isE l[k])))),(11,.c (.val (.bool (isR l[k]))))] ?_ ?_
  ·rcases Bool.eq_false_or_eq_true (aFc l[k]) with h33|h33
   ·refine eA 104 rfl (bZ h33) (go 10 ?_)
    exact ⟨rfl,(aG rfl (bZ (by unfold aFs;rw [h33];rfl)) (sA rfl))⟩
   refine eA 104 rfl (bZ h33) (go 1 ?_)
   rcases Bool.eq_false_or_eq_true (isR l[k]) with h34|h34
   ·refine wyz rfl (fL (bZ h34) (lW rfl rfl)) (go 2 ?_)
    refine wc0 rfl call130 rfl (aIq l[k].ref hsr (by omega) _) ?_
    rintro _ _ ⟨hr35,rfl⟩
    rcases Bool.eq_false_or_eq_true (okRefB l[k].ref) with h36|h36
    ·rw [h36] at hr35
     subst hr35
     refine go 5 ?_
     exact ⟨rfl,(aG rfl (bZ (by unfold aFs;rw [h33,h34,h36];rfl)) (sA rfl))⟩
    rw [h36] at hr35
    subst hr35
    refine go 5 ?_
    exact ⟨rfl,(aG rfl (bZ (by unfold aFs;rw [h33,h34,h36];rfl)) (sA rfl))⟩
   refine wyz rfl (fL (bZ h34) (lW rfl rfl)) (go 8 ?_)
   exact ⟨rfl,(aG rfl (bZ (by unfold aFs;rw [h33,h34];rfl)) (sA rfl))⟩
  refine iE 10 [(123,.c (.val (.bool (aEx l[k])))),(0,.c (.sl l.length (l.flatMap encS))),(1,nI D),(5,nI k),(6,pP b1),(7,.c (.val (.int .i64 l[k].kind))),(8,.c (.val (.bool (isN l[k])))),(9,.c (.val (.bool (isC l[k])))),(10,.c (.val (.bool (isE l[k])))),(11,.c (.val (.bool (isR l[k]))))] ?_ ?_
  ·rcases Bool.eq_false_or_eq_true (aFs l[k]) with h37|h37
   ·refine eA 113 rfl (bZ h37) (go 11 ?_)
    exact ⟨rfl,(aG rfl (bZ (by unfold aEx;rw [h37];rfl)) (sA rfl))⟩
   refine eA 113 rfl (bZ h37) (go 1 ?_)
   rcases Bool.eq_false_or_eq_true (isR l[k]) with h38|h38
   ·refine wyz rfl (fL (bZ (aKs h38)) (lF rfl rfl)) (go 9 ?_)
    exact ⟨rfl,(aG rfl (bZ (by unfold aEx;rw [h37,h38];rfl)) (sA rfl))⟩
   refine wyz rfl (fL (bZ (aKt h38)) (lF rfl rfl)) (go 3 ?_)
   refine wc0 rfl call131 rfl (aIb l[k].ref _) ?_
   rintro _ _ ⟨hr39,rfl⟩
   rcases Bool.eq_false_or_eq_true (kM l[k].ref) with h40|h40
   ·rw [h40] at hr39
    subst hr39
    refine go 5 ?_
    exact ⟨rfl,(aG rfl (bZ (by unfold aEx;rw [h37,h38,h40];rfl)) (sA rfl))⟩
   rw [h40] at hr39
   subst hr39
   refine go 5 ?_
   exact ⟨rfl,(aG rfl (bZ (by unfold aEx;rw [h37,h38,h40];rfl)) (sA rfl))⟩
  refine iE 9 [(132,.c (.val (.bool (aHl l[k])))),(0,.c (.sl l.length (l.flatMap encS))),(1,nI D),(5,nI k),(6,pP b1),(7,.c (.val (.int .i64 l[k].kind))),(8,.c (.val (.bool (isN l[k])))),(9,.c (.val (.bool (isC l[k])))),(10,.c (.val (.bool (isE l[k])))),(11,.c (.val (.bool (isR l[k]))))] ?_ ?_
  ·rcases Bool.eq_false_or_eq_true (aEx l[k]) with h41|h41
   ·refine eA 123 rfl (bZ h41) (go 10 ?_)
    exact ⟨rfl,(aG rfl (bZ (by unfold aHl;rw [h41];rfl)) (sA rfl))⟩
   refine eA 123 rfl (bZ h41) (go 1 ?_)
   rcases Bool.eq_false_or_eq_true (isC l[k]) with h42|h42
   ·refine wyz rfl (fL (bZ (aKs h42)) (lF rfl rfl)) (go 8 ?_)
    exact ⟨rfl,(aG rfl (bZ (by unfold aHl;rw [h41,h42];rfl)) (sA rfl))⟩
   refine wyz rfl (fL (bZ (aKt h42)) (lF rfl rfl)) (go 4 ?_)
   by_cases h43:(0:Int)<((l[k].args.length:Nat):Int)
   ·refine wcp true rfl (mH h43) (go 3 ?_)
    exact ⟨rfl,(aG rfl (bZ (by unfold aHl;rw [h41,h42,decide_eq_false (show ¬l[k].args.length=0 by omega)];rfl)) (sA rfl))⟩
   refine wcp false rfl (mI h43) (go 3 ?_)
   exact ⟨rfl,(aG rfl (bZ (by unfold aHl;rw [h41,h42,decide_eq_true (show l[k].args.length=0 by omega)];rfl)) (sA rfl))⟩
  refine go 2 ?_
  refine gY rfl (fun h44=>?_) (fun h44=>?_)
  ·refine go 12 ?_
   exact bHe (s':=⟨bx,rw⟩) rfl sb1 ⟨cX (iO D l k hlt (by rw [kN,h44];rfl)),rfl⟩
  refine go 9 ?_
  refine lE (fun j=>∀i (h:i<l[k].args.length),i<j -> fY l[k].args[i]=true) (l[k].args.length) 12 (fun j=>[(0,.c (.sl l.length (l.flatMap encS))),(1,nI D),(5,nI k),(6,pP b1),(7,.c (.val (.int .i64 l[k].kind)))]) (fun _ _ h=>absurd h (by omega)) (sA rfl) fun j hj hvj=>?_
  replace hvj:∀i (h:i<l[k].args.length),i<j -> fY l[k].args[i]=true:=hvj
  show AWp prog _ ⟨219,_,_,(12,nI j)::[(0,.c (.sl l.length (l.flatMap encS))),(1,nI D),(5,nI k),(6,pP b1),(7,.c (.val (.int .i64 l[k].kind)))]⟩ _
  refine go 7 ?_
  by_cases h45:((j:Nat):Int)<((l[k].args.length:Nat):Int)
  ·refine wcp true rfl (jZ h45) (go 9 ?_)
   have hjl:j<l[k].args.length:=by omega
   have haj:=hsa _ (getElem_mem hjl)
   have hwj:=aDf l[k].args j hjl
   unfold eN.wt cY.wt at hwj
   refine go 3 ?_
   refine wyz rfl (bH eJ eJ l[k].args iD (fun _=>rfl) j rfl rfl rfl rfl (by omega) (by decide) runUnderlying76 sizeOf141) (go 8 fun b2=>?_)
   rcases Bool.eq_false_or_eq_true (l[k].args[j].mutex) with h47|h47
   ·refine wyz rfl (fL (bZ h47) (aX [] rfl rfl rfl isAgg4 sizeOf4 rfl (fun _ h=>by cases h))) (go 3 ?_)
    refine wc0 rfl call130 rfl (aIq l[k].args[j].ref haj.1 (by omega) _) ?_
    rintro _ _ ⟨hr48,rfl⟩
    rcases Bool.eq_false_or_eq_true (okRefB l[k].args[j].ref) with h49|h49
    ·rw [h49] at hr48
     subst hr48
     refine go 4 ?_
     refine wc0 rfl call129 rfl (aEi l[k].args[j].expr _) ?_
     rintro _ _ ⟨hr50,rfl⟩
     rcases Bool.eq_false_or_eq_true (bLg l[k].args[j].expr) with h51|h51
     ·rw [h51] at hr50
      subst hr50
      refine go 5 ?_
      refine wyz rfl (fL (bZ h47) (aX [] rfl rfl rfl isAgg4 sizeOf4 rfl (fun _ h=>by cases h))) (go 22 ?_)
      refine wad rfl (go 2 ?_)
      exact ⟨by omega,(fun i hi hlt2=>(Nat.lt_or_ge i j).elim (fun h9=>hvj i hi h9) (fun h9=>by have h8:i=j:=(by omega);subst h8;rw [aCi h47,h49,h51];rfl)),cA (.cons _ (.refl _)) (.refl _) (fun b hb=>List.mem_cons_of_mem _ (hb)) (aG rfl (gQ (by omega)) (sA rfl))⟩
     rw [h51] at hr50
     subst hr50
     refine go 39 ?_
     exact bHe (s':=⟨bx,rw⟩) rfl sb2 ⟨cX (iO D l k hlt (by rw [kN,oA fY _ j hjl (by rw [aCi h47,h49,h51];rfl)];simp)),rfl⟩
    rw [h49] at hr48
    subst hr48
    refine go 44 ?_
    exact bHe (s':=⟨bx,rw⟩) rfl sb2 ⟨cX (iO D l k hlt (by rw [kN,oA fY _ j hjl (by rw [aCi h47,h49];rfl)];simp)),rfl⟩
   refine wyz rfl (fL (bZ h47) (aX [] rfl rfl rfl isAgg4 sizeOf4 rfl (fun _ h=>by cases h))) (go 14 ?_)
   refine wyz rfl (fL (bZ h47) (aX [] rfl rfl rfl isAgg4 sizeOf4 rfl (fun _ h=>by cases h))) (go 4 ?_)
   refine wc0 rfl call131 rfl (aIb l[k].args[j].ref _) ?_
   rintro _ _ ⟨hr55,rfl⟩
   rcases Bool.eq_false_or_eq_true (kM l[k].args[j].ref) with h56|h56
   ·rw [h56] at hr55
    subst hr55
    refine go 4 ?_
    refine wc0 rfl call128 rfl (qT l[k].args[j].expr (by omega) haj.2 _) ?_
    rintro _ _ ⟨hr57,rfl⟩
    rcases Bool.eq_false_or_eq_true (dM l[k].args[j].expr) with h58|h58
    ·rw [h58] at hr57
     subst hr57
     refine go 12 ?_
     refine wad rfl (go 2 ?_)
     exact ⟨by omega,(fun i hi hlt2=>(Nat.lt_or_ge i j).elim (fun h9=>hvj i hi h9) (fun h9=>by have h8:i=j:=(by omega);subst h8;rw [aCv h47,h56,h58];rfl)),cA (.cons _ (.refl _)) (.refl _) (fun b hb=>List.mem_cons_of_mem _ (hb)) (aG rfl (gQ (by omega)) (sA rfl))⟩
    rw [h58] at hr57
    subst hr57
    refine go 23 ?_
    exact bHe (s':=⟨bx,rw⟩) rfl sb2 ⟨cX (iO D l k hlt (by rw [kN,oA fY _ j hjl (by rw [aCv h47,h56,h58];rfl)];simp)),rfl⟩
   rw [h56] at hr55
   subst hr55
   refine go 28 ?_
   exact bHe (s':=⟨bx,rw⟩) rfl sb2 ⟨cX (iO D l k hlt (by rw [kN,oA fY _ j hjl (by rw [aCv h47,h56];rfl)];simp)),rfl⟩
  refine wcp false rfl (jQ h45) (go 8 ?_)
  refine xX [(14,.c (.val (.bool (isB l[k])))),(0,.c (.sl l.length (l.flatMap encS))),(1,nI D),(5,nI k),(6,pP b1),(7,.c (.val (.int .i64 l[k].kind)))] ?_ ?_
  ·refine go 2 ?_
   by_cases h63:l[k].kind=7
   ·refine wcp true rfl (eR h63) (go 6 ?_)
    exact ⟨rfl,(aG rfl (bZ (by unfold isB;first|exact (decide_eq_true (by omega)).symm|exact (decide_eq_false (by omega)).symm)) (sA rfl))⟩
   refine wcp false rfl (eD h63) (go 2 ?_)
   by_cases h64:l[k].kind=8
   ·refine wcp true rfl (eR h64) (go 3 ?_)
    exact ⟨rfl,(aG rfl (bZ (by unfold isB;first|exact (decide_eq_true (by omega)).symm|exact (decide_eq_false (by omega)).symm)) (sA rfl))⟩
   refine wcp false rfl (eD h64) (go 3 ?_)
   exact ⟨rfl,(aG rfl (bZ (by unfold isB;first|exact (decide_eq_true (by omega)).symm|exact (decide_eq_false (by omega)).symm)) (sA rfl))⟩
  refine go 2 ?_
  refine iE 10 [(191,.c (.val (.bool (c1 D l[k])))),(0,.c (.sl l.length (l.flatMap encS))),(1,nI D),(5,nI k),(6,pP b1),(7,.c (.val (.int .i64 l[k].kind))),(14,.c (.val (.bool (isB l[k]))))] ?_ ?_
  ·refine go 1 ?_
   rcases Bool.eq_false_or_eq_true (isB l[k]) with h65|h65
   ·refine wyz rfl (fL (bZ h65) (lW rfl rfl)) (go 3 ?_)
    refine wad rfl ?_
    refine wc0 rfl call91 rfl (ih1 k (by omega) _) ?_
    rintro _ _ ⟨hr66,rfl⟩
    rcases Bool.eq_false_or_eq_true (bM (D+1) l[k].thn) with h67|h67
    ·rw [h67] at hr66
     subst hr66
     refine go 4 ?_
     exact ⟨rfl,(aG rfl (bZ (by unfold c1;rw [h65,h67];rfl)) (sA rfl))⟩
    rw [h67] at hr66
    subst hr66
    refine go 4 ?_
    exact ⟨rfl,(aG rfl (bZ (by unfold c1;rw [h65,h67];rfl)) (sA rfl))⟩
   refine wyz rfl (fL (bZ h65) (lW rfl rfl)) (go 9 ?_)
   exact ⟨rfl,(aG rfl (bZ (by unfold c1;rw [h65];rfl)) (sA rfl))⟩
  refine iE 10 [(201,.c (.val (.bool (c2 D l[k])))),(0,.c (.sl l.length (l.flatMap encS))),(1,nI D),(5,nI k),(6,pP b1),(7,.c (.val (.int .i64 l[k].kind))),(14,.c (.val (.bool (isB l[k]))))] ?_ ?_
  ·rcases Bool.eq_false_or_eq_true (c1 D l[k]) with h68|h68
   ·refine eA 191 rfl (bZ h68) (go 11 ?_)
    exact ⟨rfl,(aG rfl (bZ (by unfold c2;rw [h68];rfl)) (sA rfl))⟩
   refine eA 191 rfl (bZ h68) (go 1 ?_)
   rcases Bool.eq_false_or_eq_true (isB l[k]) with h69|h69
   ·refine wyz rfl (fL (bZ (aKs h69)) (lF rfl rfl)) (go 9 ?_)
    exact ⟨rfl,(aG rfl (bZ (by unfold c2;rw [h68,h69];rfl)) (sA rfl))⟩
   refine wyz rfl (fL (bZ (aKt h69)) (lF rfl rfl)) (go 4 ?_)
   by_cases h70:(0:Int)<((l[k].thn.length:Nat):Int)
   ·refine wcp true rfl (mH h70) (go 4 ?_)
    exact ⟨rfl,(aG rfl (bZ (by unfold c2;rw [h68,h69,decide_eq_false (show ¬l[k].thn.length=0 by omega)];rfl)) (sA rfl))⟩
   refine wcp false rfl (mI h70) (go 4 ?_)
   exact ⟨rfl,(aG rfl (bZ (by unfold c2;rw [h68,h69,decide_eq_true (show l[k].thn.length=0 by omega)];rfl)) (sA rfl))⟩
  refine iE 17 [(218,.c (.val (.bool (c3 D l[k])))),(0,.c (.sl l.length (l.flatMap encS))),(1,nI D),(5,nI k),(6,pP b1),(7,.c (.val (.int .i64 l[k].kind))),(14,.c (.val (.bool (isB l[k]))))] ?_ ?_
  ·rcases Bool.eq_false_or_eq_true (c2 D l[k]) with h71|h71
   ·refine eA 201 rfl (bZ h71) (go 18 ?_)
    exact ⟨rfl,(aG rfl (bZ (by unfold c3;rw [h71];rfl)) (sA rfl))⟩
   refine eA 201 rfl (bZ h71) (go 3 ?_)
   by_cases h72:(0:Int)<((l[k].els.length:Nat):Int)
   ·refine wcp true rfl (mH h72) (go 2 ?_)
    by_cases h73:l[k].kind=7
    ·refine wcp false rfl (xG h73) (go 4 ?_)
     refine wad rfl ?_
     refine wc0 rfl call91 rfl (ih2 k (by omega) _) ?_
     rintro _ _ ⟨hr74,rfl⟩
     rcases Bool.eq_false_or_eq_true (bM (D+1) l[k].els) with h75|h75
     ·rw [h75] at hr74
      subst hr74
      refine go 5 ?_
      exact ⟨rfl,(aG rfl (bZ (by unfold c3;rw [h71,decide_eq_false (show ¬l[k].els.length=0 by omega),decide_eq_true (show l[k].kind=7 by omega),h75];rfl)) (sA rfl))⟩
     rw [h75] at hr74
     subst hr74
     refine go 5 ?_
     exact ⟨rfl,(aG rfl (bZ (by unfold c3;rw [h71,decide_eq_false (show ¬l[k].els.length=0 by omega),decide_eq_true (show l[k].kind=7 by omega),h75];rfl)) (sA rfl))⟩
    refine wcp true rfl (xL h73) (go 11 ?_)
    exact ⟨rfl,(aG rfl (bZ (by unfold c3;rw [h71,decide_eq_false (show ¬l[k].els.length=0 by omega),decide_eq_false (show ¬l[k].kind=7 by omega)];rfl)) (sA rfl))⟩
   refine wcp false rfl (mI h72) (go 14 ?_)
   exact ⟨rfl,(aG rfl (bZ (by unfold c3;rw [h71,decide_eq_true (show l[k].els.length=0 by omega)];rfl)) (sA rfl))⟩
  refine go 2 ?_
  refine gY rfl (fun h76=>?_) (fun h76=>?_)
  ·refine go 11 ?_
   exact bHe (s':=⟨bx,rw⟩) rfl sb1 ⟨cX (iO D l k hlt (by rw [kN,aIy,h76];simp)),rfl⟩
  refine go 5 ?_
  refine wad rfl (go 2 ?_)
  exact ⟨by omega,(fun i hi hlt2=>(Nat.lt_or_ge i k).elim (fun h9=>hvk i hi h9) (fun h9=>by have h8:i=k:=(by omega);subst h8;rw [kN,aIy,h44,h76,show l[i].args.all fY=true from List.all_eq_true.2 (fun x hx=>by obtain ⟨q,hq,rfl⟩:=List.getElem_of_mem hx;exact hvj q hq (by omega))];rfl)),cA (.cons _ (.refl _)) (.refl _) (fun b hb=>List.mem_cons_of_mem _ (hb)) (aG rfl (gQ (by omega)) (sA rfl))⟩
 refine wcp false rfl (jQ h4) (go 14 ?_)
 exact bHe (s':=⟨bx,rw⟩) rfl sb0 ⟨cX (vW D (by omega) l (fun i hi=>hvk i hi (by omega))),rfl⟩
end
section
mutual
def aH.tame:aH -> Prop
 |.mk _ num name args=>num.natAbs<9223372036854775808 /\ name.size <= 1048576 /\ oG args
def oG:List aH -> Prop
 |[]=>True
 |e::es=>e.tame /\ oG es
end
def lL:List (List UInt8) -> Nat
 |[]=>0
 |t::ts=>t.length+lL ts
theorem aMh(ts:List (List UInt8)):(ts.getD 0 []).length <= lL ts:=by
 cases ts with
 |nil=>simp [lL]
 |cons t ts=>simp [lL]
theorem aJj(ts:List (List UInt8)):(ts.getD 0 []).length+(ts.getD 1 []).length <= lL ts:=by
 match ts with
 |[]=>simp [lL]
 |[t]=>simp [lL]
 |t::u::ts=>first|(simp [lL];done)|(simp [lL];omega)
theorem aI4{c:Prop}[Decidable c]{l r:List UInt8}{n:Nat}(h1:l.length <= n)(h2:r.length <= n):(if c then l else r).length <= n:=by
 by_cases h:c
 ·rw [if_pos h];exact h1
 rw [if_neg h];exact h2
theorem aAr(op:Int):(iW op).length <= 2:=by
 unfold iW
 repeat' (with_reducible apply aI4)
 all_goals decide
theorem aH5(op num:Int)(name:ByteArray)(ts:List (List UInt8))(h1:num.natAbs<9223372036854775808)(h2:name.size <= 1048576):
  (iX op num name ts).length <= 1048576+lL ts:=by
 have a0:=aMh ts
 have a1:=aJj ts
 have a2:=aAr op
 have a3:(eH num).length <= 21:=by
  have:=kC _ (Nat.lt_trans h1 (by decide))
  unfold eH
  split<;>simp<;>omega
 have a4:name.data.toList.length=name.size:=rfl
 unfold iX
 repeat' (with_reducible apply aI4)
 all_goals ((try simp only [length_append,length_cons,length_nil]);omega)
theorem vQ:∀(N:Nat)(e:aH),e.nodes <= N -> e.tame -> (aP e).length+2 <= e.nodes*2000000
 |0,.mk op num name args,h,_=>by rw [aH.nodes] at h;omega
 |N+1,.mk op num name args,h,ht=>by
  rw [aH.nodes] at h
  rw [aH.tame] at ht
  have key:∀(l:List aH)(k:Nat),cZ l <= N -> oG l -> lL (dP op k l) <= cZ l*2000000:=by
   intro l
   induction l with
   |nil=>intro k _ _;rw [dP,lL];omega
   |cons e es ih=>
    intro k hl hm
    rw [cZ] at hl⊢
    rw [oG] at hm
    rw [dP,lL]
    have h1:=vQ N e (by omega) hm.1
    have h2:=ih (k+1) (by omega) hm.2
    split
    ·simp only [length_append,length_cons,length_nil];omega
    omega
  have h1:=key args 0 (by omega) ht.2.2
  have h2:=aH5 op num name (dP op 0 args) ht.1 ht.2.1
  rw [aP,aH.nodes]
  omega
end
end Go.Proofs.YtojinfngbbajgaaGreatDoor
