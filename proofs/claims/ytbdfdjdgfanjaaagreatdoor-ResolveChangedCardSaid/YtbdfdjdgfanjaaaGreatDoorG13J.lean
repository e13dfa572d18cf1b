import Derived.Test.YtbdfdjdgfanjaaaGreatDoorG12J
set_option linter.all false
set_option synthInstance.maxHeartbeats 1000000
set_option synthInstance.maxSize 1000000
set_option maxHeartbeats 1600000
set_option maxRecDepth 100000
namespace Go.Proofs.YtbdfdjdgfanjaaaGreatDoor
open Go.Proofs.Tryz
open List (length_append length_cons length_nil mem_append mem_cons not_mem_nil append_assoc getElem_mem take_of_length_le)
section
open Go.RowKit
theorem aPg{r:cY}(h:r.index.length=0):okRefB r=bQ r.name:=by
 obtain ⟨n,ix⟩:=r
 obtain rfl:ix=[]:=List.length_eq_zero_iff.1 h
 unfold okRefB;simp
theorem aIw{r:cY}(h:r.index.length=1):okRefB r=(bQ r.name && dM (r.index[0]'(by omega))):=by
 obtain ⟨n,ix⟩:=r
 match ix,h with
 |[e],_=>rfl
theorem aN6{r:cY}(h:¬r.index.length=0)(h1:¬r.index.length=1):okRefB r=false:=by
 obtain ⟨n,ix⟩:=r
 match ix,h,h1 with
 |[],h,_=>exact absurd rfl h
 |[e],_,h=>exact absurd rfl h
 |_::_::_,_,_=>unfold okRefB;simp
def isN(s:aJ):Bool:=decide (1 <= s.kind /\ s.kind <= 4)
def isC(s:aJ):Bool:=decide (s.kind=3∨s.kind=4)
def isE(s:aJ):Bool:=decide (s.kind=1∨s.kind=2∨s.kind=7∨s.kind=8)
def isR(s:aJ):Bool:=decide (s.kind=5∨s.kind=6)
def isB(s:aJ):Bool:=decide (s.kind=7∨s.kind=8)
def aG7(s:aJ):Bool:=decide (¬(1 <= s.kind /\ s.kind <= 9))
def aEf(s:aJ):Bool:=aG7 s||isN s && !bQ s.name
def aF5(s:aJ):Bool:=aEf s||!isN s && !decide (s.name=aK)
def aD3(s:aJ):Bool:=aF5 s||isE s && !dM s.expr
def aFc(s:aJ):Bool:=aD3 s||!isE s && !bLg s.expr
def aFs(s:aJ):Bool:=aFc s||isR s && !okRefB s.ref
def aEx(s:aJ):Bool:=aFs s||!isR s && !kM s.ref
def aHl(s:aJ):Bool:=aEx s||!isC s && !decide (s.args.length=0)
def aOc(D:Nat)(s:aJ):Bool:=(if isB s then bM (D+1) s.thn else decide (s.thn.length=0)) && (decide (s.els.length=0)||(decide (s.kind=7) && bM (D+1) s.els))
theorem kN(D:Nat)(s:aJ):bK9 D s=(!aHl s && s.args.all fY && aOc D s):=by
 obtain ⟨k,n,e,r,args,t,el⟩:=s
 rw [bK9]
 unfold aOc aHl aEx aFs aFc aD3 aF5 aEf
 rw [show aG7 (.mk k n e r args t el)=!decide (1 <= k /\ k <= 9) from decide_not,show isN (.mk k n e r args t el)=decide (1 <= k /\ k <= 4) from rfl,show isC (.mk k n e r args t el)=decide (k=3∨k=4) from rfl,show isE (.mk k n e r args t el)=decide (k=1∨k=2∨k=7∨k=8) from rfl,show isR (.mk k n e r args t el)=decide (k=5∨k=6) from rfl,show isB (.mk k n e r args t el)=decide (k=7∨k=8) from rfl]
 show _=(_ && args.all fY && ((if decide (k=7∨k=8)=true then bM (D+1) t else decide (t.length=0)) && (decide (el.length=0)||(decide (k=7) && bM (D+1) el))))
 simp only [aJ.name,aJ.expr,aJ.ref,aJ.args]
 have hi:∀(p:Prop) [Decidable p] (a b:Bool),(if p then a else b)=((decide p && a)||(!decide p && b)):=λp _ a b=>by by_cases h:p<;>simp [h]
 simp only [hi,Bool.decide_eq_true]
 generalize decide (1 <= k /\ k <= 9)=b1
 generalize decide (1 <= k /\ k <= 4)=b2
 generalize decide (k=1∨k=2∨k=7∨k=8)=b3
 generalize decide (k=5∨k=6)=b4
 generalize decide (k=3∨k=4)=b5
 generalize decide (k=7∨k=8)=b6
 cases b1<;>cases b2<;>cases b3<;>cases b4<;>cases b5<;>cases b6<;>(simp [Bool.and_assoc];try rfl)
theorem iO(D:Nat):∀(l:List aJ)(k:Nat)(h:k<l.length),bK9 D l[k]=false -> bM D l=false
 |s::l,0,_,h=>by rw [bM];simp only [List.getElem_cons_zero] at h;rw [h];rfl
 |s::l,k+1,hk,h=>by rw [bM,iO D l k Cz Er,Bool.and_false]
theorem vW(D:Nat)(hD:D<24):∀(l:List aJ),(∀k (h:k<l.length),bK9 D l[k]=true) -> bM D l=true
 |[],_=>by rw [bM];exact decide_eq_true hD
 |s::l,h=>by rw [bM,show bK9 D s=true from h 0 G0,vW D hD l (λk hk=>h (k+1) Cz)];rfl
theorem aCm(D:Nat)(hD:¬D<24)(l:List aJ):bM D l=false:=by
 cases h:bM D l with
 |false=>rfl
 |true=>exact absurd (iL D l h) hD
theorem aEi(e:aH)(s:Sto):aL prog 109 [.agg (cU e)] [] s λt s'=>t=Cb (bLg e) /\ s'=s:=by
 obtain ⟨bx,rw⟩:=s
 refine acX 22 func109 ?_
 refine go 10 λb1=>?_
 by_cases h1:e.op=0
 ·refine wcp true Y (eR h1) (go 3 ?_)
  by_cases h2:e.num=0
  ·refine wcp true Y (eR h2) (go 4 ?_)
   by_cases h3:e.name=aK
   ·refine wyz Y (aZ true Y Y Y (aL8 h3)) (go 5 ?_)
    by_cases h4:((e.args.length:Nat):Int)=0
    ·refine wcp true Y (eR h4) (go 5 ?_)
     exact bHe (s':=⟨bx,rw⟩) Y sb1 ⟨cX As,Y⟩
    refine wcp false Y (eD h4) (go 5 ?_)
    exact bHe (s':=⟨bx,rw⟩) Y sb1 ⟨cX (Bool.eq_false_iff.2 λhh=>CH),Y⟩
   refine wyz Y (aZ false Y Y Y (aLs h3)) (go 11 ?_)
   exact bHe (s':=⟨bx,rw⟩) Y sb1 ⟨cX (Bool.eq_false_iff.2 λhh=>CI),Y⟩
  refine wcp false Y (eD h2) (go 16 ?_)
  exact bHe (s':=⟨bx,rw⟩) Y sb1 ⟨cX (Bool.eq_false_iff.2 λhh=>CJ),Y⟩
 refine wcp false Y (eD h1) (go 20 ?_)
 exact bHe (s':=⟨bx,rw⟩) Y sb1 ⟨cX (Bool.eq_false_iff.2 λhh=>CK),Y⟩
theorem aIb(r:cY)(s:Sto):aL prog 111 [.agg (encR r)] [] s λt s'=>t=Cb (kM r) /\ s'=s:=by
 obtain ⟨bx,rw⟩:=s
 refine acX 12 func111 ?_
 refine go 10 λb1=>?_
 by_cases h1:r.name=aK
 ·refine wyz Y (aZ true Y Y Y (aL8 h1)) (go 4 ?_)
  by_cases h2:((r.index.length:Nat):Int)=0
  ·refine wcp true Y (eR h2) (go 5 ?_)
   exact bHe (s':=⟨bx,rw⟩) Y sb1 ⟨cX BH,Y⟩
  refine wcp false Y (eD h2) (go 5 ?_)
  exact bHe (s':=⟨bx,rw⟩) Y sb1 ⟨cX (Bool.eq_false_iff.2 λhh=>CN),Y⟩
 refine wyz Y (aZ false Y Y Y (aLs h1)) (go 10 ?_)
 exact bHe (s':=⟨bx,rw⟩) Y sb1 ⟨cX (Bool.eq_false_iff.2 λhh=>CO),Y⟩
theorem aIq(r:cY)(hs:r.sane)(hN:cZ r.index <= 900000000)(s:Sto):aL prog 110 [.agg (encR r)] [] s λt s'=>t=Cb (okRefB r) /\ s'=s:=by
 obtain ⟨bx,rw⟩:=s
 refine acX 25 func110 ?_
 refine go 10 λb1=>?_
 refine wc0 Y call85 Y (pG r.name (by first|assumption|exact hs.1) _) ?_
 rintro _ _ ⟨hr1,rfl⟩
 rcases Bool.eq_false_or_eq_true (bQ r.name) with h2|h2
 ·rw [h2] at hr1
  subst hr1
  refine go 4 ?_
  by_cases h3:((r.index.length:Nat):Int)=0
  ·refine wcp true Y (eR h3) (go 18 ?_)
   exact bHe (s':=⟨bx,rw⟩) Y sb1 ⟨cX (by rw [aPg J,h2]),Y⟩
  refine wcp false Y (eD h3) (go 4 ?_)
  by_cases h4:((r.index.length:Nat):Int)=1
  ·refine wcp true Y (eR h4) (go 3 ?_)
   refine wyz Y (bH fO cU r.index iU fP 0 Y Y Y Y J V runUnderlying63 sizeOf65) (go 1 ?_)
   refine wc0 Y call108 Y (qT r.index[0] EZ (mV _ hs.2 _ (getElem_mem _)) _) ?_
   rintro _ _ ⟨hr5,rfl⟩
   rcases Bool.eq_false_or_eq_true (dM r.index[0]) with h6|h6
   rotate_left
   all_goals
    rw [h6] at hr5
    subst hr5
    refine go 7 ?_
    exact bHe (s':=⟨bx,rw⟩) Y sb1 ⟨cX (by rw [aIw J,h2,h6];rfl),Y⟩
  refine wcp false Y (eD h4) (go 13 ?_)
  exact bHe (s':=⟨bx,rw⟩) Y sb1 ⟨cX (aN6 J J),Y⟩
 rw [h2] at hr1
 subst hr1
 refine go 23 ?_
 exact bHe (s':=⟨bx,rw⟩) Y sb1 ⟨cX (by unfold okRefB;rw [h2];rfl),Y⟩
theorem aCi{a:eN}(h:a.mutex=true):fY a=(okRefB a.ref && bLg a.expr):=by unfold fY;rw [if_pos h]
theorem aCv{a:eN}(h:a.mutex=false):fY a=(kM a.ref && dM a.expr):=by unfold fY;rw [if_neg B5]
theorem oA{α:Type}(f:α -> Bool)(l:List α)(k:Nat)(h:k<l.length)(hf:f l[k]=false):l.all f=false:=by
 cases ha:l.all f with
 |false=>rfl
 |true=>rw [List.all_eq_true.1 ha _ (getElem_mem h)] at hf;cases hf
def c1(D:Nat)(s:aJ):Bool:=isB s && !bM (D+1) s.thn
def c2(D:Nat)(s:aJ):Bool:=c1 D s||!isB s && !decide (s.thn.length=0)
def c3(D:Nat)(s:aJ):Bool:=c2 D s||!decide (s.els.length=0) && (!decide (s.kind=7)||!bM (D+1) s.els)
theorem aIy(D:Nat)(s:aJ):aOc D s=!c3 D s:=by
 unfold aOc c3 c2 c1
 cases isB s<;>simp [Bool.not_or]
theorem yW{s:aJ}(h:s.sane):s.name.size <= 4611686018427387904 /\ s.expr.sane /\ s.ref.sane /\ (∀a,a∈s.args -> a.sane) /\ gC s.thn /\ gC s.els:=by cases s;rw [aJ.sane] at h;exact h
theorem uP(D:Nat)(l:List aJ)(hs:gC l)(hw:wtS l <= 900000000)(ih1:∀k (h:k<l.length) (s:Sto),aL prog 86 [.c (Sq encS l[k].thn),Ci (((D:Nat):Int)+1)] [] s λt s'=>t=Cb (bM (D+1) l[k].thn) /\ s'=s)(ih2:∀k (h:k<l.length) (s:Sto),aL prog 86 [.c (Sq encS l[k].els),Ci (((D:Nat):Int)+1)] [] s λt s'=>t=Cb (bM (D+1) l[k].els) /\ s'=s)(s:Sto):aL prog 86 [.c (Sq encS l),nI D] [] s λt s'=>t=Cb (bM D l) /\ s'=s:=by
 obtain ⟨bx,rw⟩:=s
 have hll:=uZ l
 refine acX 219 func86 ?_
 refine go 9 ?_
 by_cases h1:(24:Int) <= ((D:Nat):Int)
 ·refine wcp true Y (aMq h1) (go 10 ?_)
  exact bHe (s':=⟨bx,rw⟩) Y sb0 ⟨cX (aCm D J l),Y⟩
 refine wcp false Y (aMx h1) (go 12 ?_)
 refine lE (λk=>∀i (h:i<l.length),i<k -> bK9 D l[i]=true) (l.length) 5 (λk=>[(0,.c (Sq encS l)),(1,nI D)]) Bh (sA Y) λk hk hvk=>?_
 replace hvk:∀i (h:i<l.length),i<k -> bK9 D l[i]=true:=hvk
 try dsimp only
 refine go 6 ?_
 by_cases h4:((k:Nat):Int)<((l.length:Nat):Int)
 ·refine wcp true Y (jZ h4) (go 9 ?_)
  have hlt:k<l.length:=J
  have hsk:=oS _ hs _ (getElem_mem hlt)
  obtain ⟨hsn,hse,hsr,hsa,hst,hsf⟩:=yW hsk
  have hwk:=uF l k hlt
  rw [gD] at hwk
  unfold cY.wt at hwk
  have hwa:=aCj l[k].args
  refine go 2 ?_
  refine wyz Y (bH encS dG l mE cJ k Y Y Y Y J V runUnderlying60 sizeOf138) (go 12 λb1=>?_)
  refine xX [(8,Cb (isN l[k])),(9,Cb (isC l[k])),(0,.c (Sq encS l)),(1,nI D),(5,nI k),(6,pP b1),(7,Ci (l[k].kind))] ?_ ?_
  ·refine go 2 ?_
   by_cases h6:(1:Int) <= l[k].kind
   focus
    refine wcp true Y (aMq h6) (go 2 ?_)
    by_cases h7:l[k].kind <= 4
    focus
     refine wcp true Y (aPz h7) (go 2 ?_)
     by_cases h8:l[k].kind=3
     focus
      refine wcp true Y (eR h8) (go 7 ?_)
     rotate_left
     focus
      refine wcp false Y (eD h8) (go 2 ?_)
      by_cases h9:l[k].kind=4
      focus
       refine wcp true Y (eR h9) (go 4 ?_)
      rotate_left
      refine wcp false Y (eD h9) (go 4 ?_)
    rotate_left 3
    refine wcp false Y (aPx h7) (go 2 ?_)
    refine wcp false Y (eD J) (go 2 ?_)
    refine wcp false Y (eD J) (go 4 ?_)
   rotate_left 4
   refine wcp false Y (aMx h6) (go 5 ?_)
   refine wcp false Y (eD J) (go 2 ?_)
   refine wcp false Y (eD J) (go 4 ?_)
   all_goals
    exact ⟨Y,(aG Y (bZ (by unfold isN;first|exact (decide_eq_true J).symm|exact (decide_eq_false J).symm)) (aG Y (bZ (by unfold isC;first|exact (decide_eq_true J).symm|exact (decide_eq_false J).symm)) (sA Y)))⟩
  refine xX [(10,Cb (isE l[k])),(0,.c (Sq encS l)),(1,nI D),(5,nI k),(6,pP b1),(7,Ci (l[k].kind)),(8,Cb (isN l[k])),(9,Cb (isC l[k]))] ?_ ?_
  ·refine go 2 ?_
   by_cases h10:l[k].kind=1
   focus
    refine wcp true Y (eR h10) (go 14 ?_)
   rotate_left
   focus
    refine wcp false Y (eD h10) (go 2 ?_)
    by_cases h11:l[k].kind=2
    focus
     refine wcp true Y (eR h11) (go 11 ?_)
    rotate_left
    focus
     refine wcp false Y (eD h11) (go 3 ?_)
     by_cases h12:l[k].kind=7
     focus
      refine wcp true Y (eR h12) (go 7 ?_)
     rotate_left
     focus
      refine wcp false Y (eD h12) (go 3 ?_)
      by_cases h13:l[k].kind=8
      focus
       refine wcp true Y (eR h13) (go 3 ?_)
      rotate_left
      refine wcp false Y (eD h13) (go 3 ?_)
   all_goals
    exact ⟨Y,(aG Y (bZ (by unfold isE;first|exact (decide_eq_true J).symm|exact (decide_eq_false J).symm)) (sA Y))⟩
  refine xX [(11,Cb (isR l[k])),(0,.c (Sq encS l)),(1,nI D),(5,nI k),(6,pP b1),(7,Ci (l[k].kind)),(8,Cb (isN l[k])),(9,Cb (isC l[k])),(10,Cb (isE l[k]))] ?_ ?_
  ·refine go 2 ?_
   by_cases h14:l[k].kind=5
   focus
    refine wcp true Y (eR h14) (go 6 ?_)
   rotate_left
   focus
    refine wcp false Y (eD h14) (go 2 ?_)
    by_cases h15:l[k].kind=6
    focus
     refine wcp true Y (eR h15) (go 3 ?_)
    rotate_left
    refine wcp false Y (eD h15) (go 3 ?_)
   all_goals
    exact ⟨Y,(aG Y (bZ (by unfold isR;first|exact (decide_eq_true J).symm|exact (decide_eq_false J).symm)) (sA Y))⟩
  refine go 3 ?_
  refine iE 7 [(67,Cb (aG7 l[k])),(0,.c (Sq encS l)),(1,nI D),(5,nI k),(6,pP b1),(7,Ci (l[k].kind)),(8,Cb (isN l[k])),(9,Cb (isC l[k])),(10,Cb (isE l[k])),(11,Cb (isR l[k]))] ?_ ?_
  ·refine go 1 ?_
   by_cases h16:l[k].kind<1
   focus
    refine wcp true Y (jZ h16) (go 6 ?_)
   rotate_left
   focus
    refine wcp false Y (jQ h16) (go 2 ?_)
    by_cases h17:(9:Int)<l[k].kind
    focus
     refine wcp true Y (mH h17) (go 3 ?_)
    rotate_left
    refine wcp false Y (mI h17) (go 3 ?_)
   all_goals
    exact ⟨Y,(aG Y (bZ (by unfold aG7;first|exact (decide_eq_true J).symm|exact (decide_eq_false J).symm)) (sA Y))⟩
  refine iE 9 [(76,Cb (aEf l[k])),(0,.c (Sq encS l)),(1,nI D),(5,nI k),(6,pP b1),(7,Ci (l[k].kind)),(8,Cb (isN l[k])),(9,Cb (isC l[k])),(10,Cb (isE l[k])),(11,Cb (isR l[k]))] ?_ ?_
  ·rcases Bool.eq_false_or_eq_true (aG7 l[k]) with h18|h18
   ·refine eA 67 Y (bZ h18) (go 10 ?_)
    exact ⟨Y,(aG Y (bZ (by unfold aEf;rw [h18];rfl)) (sA Y))⟩
   refine eA 67 Y (bZ h18) (go 1 ?_)
   rcases Bool.eq_false_or_eq_true (isN l[k]) with h19|h19
   ·refine wyz Y (fL (bZ h19) (lW Y Y)) (go 2 ?_)
    refine wc0 Y call85 Y (pG l[k].name (by first|assumption|exact hsn) _) ?_
    rintro _ _ ⟨hr20,rfl⟩
    rcases Bool.eq_false_or_eq_true (bQ l[k].name) with h21|h21
    rotate_left
    all_goals
     rw [h21] at hr20
     subst hr20
     refine go 5 ?_
     exact ⟨Y,(aG Y (bZ (by unfold aEf;rw [h18,h19,h21];rfl)) (sA Y))⟩
   refine wyz Y (fL (bZ h19) (lW Y Y)) (go 8 ?_)
   exact ⟨Y,(aG Y (bZ (by unfold aEf;rw [h18,h19];rfl)) (sA Y))⟩
  refine iE 9 [(85,Cb (aF5 l[k])),(0,.c (Sq encS l)),(1,nI D),(5,nI k),(6,pP b1),(7,Ci (l[k].kind)),(8,Cb (isN l[k])),(9,Cb (isC l[k])),(10,Cb (isE l[k])),(11,Cb (isR l[k]))] ?_ ?_
  ·rcases Bool.eq_false_or_eq_true (aEf l[k]) with h22|h22
   ·refine eA 76 Y (bZ h22) (go 10 ?_)
    exact ⟨Y,(aG Y (bZ (by unfold aF5;rw [h22];rfl)) (sA Y))⟩
   refine eA 76 Y (bZ h22) (go 1 ?_)
   rcases Bool.eq_false_or_eq_true (isN l[k]) with h23|h23
   ·refine wyz Y (fL (bZ (aKs h23)) (lF Y Y)) (go 8 ?_)
    exact ⟨Y,(aG Y (bZ (by unfold aF5;rw [h22,h23];rfl)) (sA Y))⟩
   refine wyz Y (fL (bZ (aKt h23)) (lF Y Y)) (go 3 ?_)
   by_cases h24:l[k].name=aK
   ·refine wyz Y (aZ false Y Y Y (aMz h24)) (go 4 ?_)
    exact ⟨Y,(aG Y (bZ (by unfold aF5;rw [h22,h23,decide_eq_true h24];rfl)) (sA Y))⟩
   refine wyz Y (aZ true Y Y Y (aLc h24)) (go 4 ?_)
   exact ⟨Y,(aG Y (bZ (by unfold aF5;rw [h22,h23,decide_eq_false h24];rfl)) (sA Y))⟩
  refine iE 9 [(94,Cb (aD3 l[k])),(0,.c (Sq encS l)),(1,nI D),(5,nI k),(6,pP b1),(7,Ci (l[k].kind)),(8,Cb (isN l[k])),(9,Cb (isC l[k])),(10,Cb (isE l[k])),(11,Cb (isR l[k]))] ?_ ?_
  ·rcases Bool.eq_false_or_eq_true (aF5 l[k]) with h25|h25
   ·refine eA 85 Y (bZ h25) (go 10 ?_)
    exact ⟨Y,(aG Y (bZ (by unfold aD3;rw [h25];rfl)) (sA Y))⟩
   refine eA 85 Y (bZ h25) (go 1 ?_)
   rcases Bool.eq_false_or_eq_true (isE l[k]) with h26|h26
   ·refine wyz Y (fL (bZ h26) (lW Y Y)) (go 2 ?_)
    refine wc0 Y call108 Y (qT l[k].expr J hse _) ?_
    rintro _ _ ⟨hr27,rfl⟩
    rcases Bool.eq_false_or_eq_true (dM l[k].expr) with h28|h28
    rotate_left
    all_goals
     rw [h28] at hr27
     subst hr27
     refine go 5 ?_
     exact ⟨Y,(aG Y (bZ (by unfold aD3;rw [h25,h26,h28];rfl)) (sA Y))⟩
   refine wyz Y (fL (bZ h26) (lW Y Y)) (go 8 ?_)
   exact ⟨Y,(aG Y (bZ (by unfold aD3;rw [h25,h26];rfl)) (sA Y))⟩
  refine iE 10 [(104,Cb (aFc l[k])),(0,.c (Sq encS l)),(1,nI D),(5,nI k),(6,pP b1),(7,Ci (l[k].kind)),(8,Cb (isN l[k])),(9,Cb (isC l[k])),(10,Cb (isE l[k])),(11,Cb (isR l[k]))] ?_ ?_
  ·rcases Bool.eq_false_or_eq_true (aD3 l[k]) with h29|h29
   ·refine eA 94 Y (bZ h29) (go 11 ?_)
    exact ⟨Y,(aG Y (bZ (by unfold aFc;rw [h29];rfl)) (sA Y))⟩
   refine eA 94 Y (bZ h29) (go 1 ?_)
   rcases Bool.eq_false_or_eq_true (isE l[k]) with h30|h30
   ·refine wyz Y (fL (bZ (aKs h30)) (lF Y Y)) (go 9 ?_)
    exact ⟨Y,(aG Y (bZ (by unfold aFc;rw [h29,h30];rfl)) (sA Y))⟩
   refine wyz Y (fL (bZ (aKt h30)) (lF Y Y)) (go 3 ?_)
   refine wc0 Y call109 Y (aEi l[k].expr _) ?_
   rintro _ _ ⟨hr31,rfl⟩
   rcases Bool.eq_false_or_eq_true (bLg l[k].expr) with h32|h32
   rotate_left
   all_goals
    rw [h32] at hr31
    subst hr31
    refine go 5 ?_
    exact ⟨Y,(aG Y (bZ (by unfold aFc;rw [h29,h30,h32];rfl)) (sA Y))⟩
  refine iE 9 [(113,Cb (aFs l[k])),(0,.c (Sq encS l)),(1,nI D),(5,nI k),(6,pP b1),(7,Ci (l[k].kind)),(8,Cb (isN l[k])),(9,Cb (isC l[k])),(10,Cb (isE l[k])),(11,Cb (isR l[k]))] ?_ ?_
  ·rcases Bool.eq_false_or_eq_true (aFc l[k]) with h33|h33
   ·refine eA 104 Y (bZ h33) (go 10 ?_)
    exact ⟨Y,(aG Y (bZ (by unfold aFs;rw [h33];rfl)) (sA Y))⟩
   refine eA 104 Y (bZ h33) (go 1 ?_)
   rcases Bool.eq_false_or_eq_true (isR l[k]) with h34|h34
   ·refine wyz Y (fL (bZ h34) (lW Y Y)) (go 2 ?_)
    refine wc0 Y call110 Y (aIq l[k].ref hsr J _) ?_
    rintro _ _ ⟨hr35,rfl⟩
    rcases Bool.eq_false_or_eq_true (okRefB l[k].ref) with h36|h36
    rotate_left
    all_goals
     rw [h36] at hr35
     subst hr35
     refine go 5 ?_
     exact ⟨Y,(aG Y (bZ (by unfold aFs;rw [h33,h34,h36];rfl)) (sA Y))⟩
   refine wyz Y (fL (bZ h34) (lW Y Y)) (go 8 ?_)
   exact ⟨Y,(aG Y (bZ (by unfold aFs;rw [h33,h34];rfl)) (sA Y))⟩
  refine iE 10 [(123,Cb (aEx l[k])),(0,.c (Sq encS l)),(1,nI D),(5,nI k),(6,pP b1),(7,Ci (l[k].kind)),(8,Cb (isN l[k])),(9,Cb (isC l[k])),(10,Cb (isE l[k])),(11,Cb (isR l[k]))] ?_ ?_
  ·rcases Bool.eq_false_or_eq_true (aFs l[k]) with h37|h37
   ·refine eA 113 Y (bZ h37) (go 11 ?_)
    exact ⟨Y,(aG Y (bZ (by unfold aEx;rw [h37];rfl)) (sA Y))⟩
   refine eA 113 Y (bZ h37) (go 1 ?_)
   rcases Bool.eq_false_or_eq_true (isR l[k]) with h38|h38
   ·refine wyz Y (fL (bZ (aKs h38)) (lF Y Y)) (go 9 ?_)
    exact ⟨Y,(aG Y (bZ (by unfold aEx;rw [h37,h38];rfl)) (sA Y))⟩
   refine wyz Y (fL (bZ (aKt h38)) (lF Y Y)) (go 3 ?_)
   refine wc0 Y call111 Y (aIb l[k].ref _) ?_
   rintro _ _ ⟨hr39,rfl⟩
   rcases Bool.eq_false_or_eq_true (kM l[k].ref) with h40|h40
   rotate_left
   all_goals
    rw [h40] at hr39
    subst hr39
    refine go 5 ?_
    exact ⟨Y,(aG Y (bZ (by unfold aEx;rw [h37,h38,h40];rfl)) (sA Y))⟩
  refine iE 9 [(132,Cb (aHl l[k])),(0,.c (Sq encS l)),(1,nI D),(5,nI k),(6,pP b1),(7,Ci (l[k].kind)),(8,Cb (isN l[k])),(9,Cb (isC l[k])),(10,Cb (isE l[k])),(11,Cb (isR l[k]))] ?_ ?_
  ·rcases Bool.eq_false_or_eq_true (aEx l[k]) with h41|h41
   ·refine eA 123 Y (bZ h41) (go 10 ?_)
    exact ⟨Y,(aG Y (bZ (by unfold aHl;rw [h41];rfl)) (sA Y))⟩
   refine eA 123 Y (bZ h41) (go 1 ?_)
   rcases Bool.eq_false_or_eq_true (isC l[k]) with h42|h42
   ·refine wyz Y (fL (bZ (aKs h42)) (lF Y Y)) (go 8 ?_)
    exact ⟨Y,(aG Y (bZ (by unfold aHl;rw [h41,h42];rfl)) (sA Y))⟩
   refine wyz Y (fL (bZ (aKt h42)) (lF Y Y)) (go 4 ?_)
   by_cases h43:(0:Int)<((l[k].args.length:Nat):Int)
   ·refine wcp true Y (mH h43) (go 3 ?_)
    exact ⟨Y,(aG Y (bZ (by unfold aHl;rw [h41,h42,decide_eq_false (show ¬l[k].args.length=0 by omega)];rfl)) (sA Y))⟩
   refine wcp false Y (mI h43) (go 3 ?_)
   exact ⟨Y,(aG Y (bZ (by unfold aHl;rw [h41,h42,decide_eq_true (show l[k].args.length=0 by omega)];rfl)) (sA Y))⟩
  refine go 2 ?_
  refine gY Y (λh44=>?_) (λh44=>?_)
  ·refine go 12 ?_
   exact bHe (s':=⟨bx,rw⟩) Y sb1 ⟨cX (iO D l k hlt (by rw [kN,h44];rfl)),Y⟩
  refine go 9 ?_
  refine lE (λj=>∀i (h:i<l[k].args.length),i<j -> fY l[k].args[i]=true) (l[k].args.length) 12 (λj=>[(0,.c (Sq encS l)),(1,nI D),(5,nI k),(6,pP b1),(7,Ci (l[k].kind))]) Bh (sA Y) λj hj hvj=>?_
  replace hvj:∀i (h:i<l[k].args.length),i<j -> fY l[k].args[i]=true:=hvj
  try dsimp only
  refine go 7 ?_
  by_cases h45:((j:Nat):Int)<((l[k].args.length:Nat):Int)
  ·refine wcp true Y (jZ h45) (go 9 ?_)
   have hjl:j<l[k].args.length:=J
   have haj:=hsa _ (getElem_mem hjl)
   have hwj:=aDf l[k].args j hjl
   unfold eN.wt cY.wt at hwj
   refine go 3 ?_
   refine wyz Y (bH eJ eJ l[k].args iD (λ_=>Y) j Y Y Y Y J V runUnderlying136 sizeOf151) (go 8 λb2=>?_)
   rcases Bool.eq_false_or_eq_true (l[k].args[j].mutex) with h47|h47
   ·refine wyz Y (fL (bZ h47) (aX [] isAgg4 sizeOf4)) (go 3 ?_)
    refine wc0 Y call110 Y (aIq l[k].args[j].ref haj.1 J _) ?_
    rintro _ _ ⟨hr48,rfl⟩
    rcases Bool.eq_false_or_eq_true (okRefB l[k].args[j].ref) with h49|h49
    ·rw [h49] at hr48
     subst hr48
     refine go 4 ?_
     refine wc0 Y call109 Y (aEi l[k].args[j].expr _) ?_
     rintro _ _ ⟨hr50,rfl⟩
     rcases Bool.eq_false_or_eq_true (bLg l[k].args[j].expr) with h51|h51
     ·rw [h51] at hr50
      subst hr50
      refine go 5 ?_
      refine wyz Y (fL (bZ h47) (aX [] isAgg4 sizeOf4)) (go 22 ?_)
      refine wad Y (go 2 ?_)
      exact ⟨J,(λi hi hlt2=>(Nat.lt_or_ge i j).elim (λh9=>hvj i hi h9) (λh9=>by have h8:i=j:=J;subst h8;rw [aCi h47,h49,h51];rfl)),cQf (h1:=(.cons _ (.refl _))) (h:=aG Y (gQ J) (sA Y)) (λb hb=>List.mem_cons_of_mem _ (hb))⟩
     rw [h51] at hr50
     subst hr50
     refine go 39 ?_
     exact bHe (s':=⟨bx,rw⟩) Y sb2 ⟨cX (iO D l k hlt (by rw [kN,oA fY _ j hjl (by rw [aCi h47,h49,h51];rfl)];simp)),Y⟩
    rw [h49] at hr48
    subst hr48
    refine go 44 ?_
    exact bHe (s':=⟨bx,rw⟩) Y sb2 ⟨cX (iO D l k hlt (by rw [kN,oA fY _ j hjl (by rw [aCi h47,h49];rfl)];simp)),Y⟩
   refine wyz Y (fL (bZ h47) (aX [] isAgg4 sizeOf4)) (go 14 ?_)
   refine wyz Y (fL (bZ h47) (aX [] isAgg4 sizeOf4)) (go 4 ?_)
   refine wc0 Y call111 Y (aIb l[k].args[j].ref _) ?_
   rintro _ _ ⟨hr55,rfl⟩
   rcases Bool.eq_false_or_eq_true (kM l[k].args[j].ref) with h56|h56
   ·rw [h56] at hr55
    subst hr55
    refine go 4 ?_
    refine wc0 Y call108 Y (qT l[k].args[j].expr J haj.2 _) ?_
    rintro _ _ ⟨hr57,rfl⟩
    rcases Bool.eq_false_or_eq_true (dM l[k].args[j].expr) with h58|h58
    ·rw [h58] at hr57
     subst hr57
     refine go 12 ?_
     refine wad Y (go 2 ?_)
     exact ⟨J,(λi hi hlt2=>(Nat.lt_or_ge i j).elim (λh9=>hvj i hi h9) (λh9=>by have h8:i=j:=J;subst h8;rw [aCv h47,h56,h58];rfl)),cQf (h1:=(.cons _ (.refl _))) (h:=aG Y (gQ J) (sA Y)) (λb hb=>List.mem_cons_of_mem _ (hb))⟩
    rw [h58] at hr57
    subst hr57
    refine go 23 ?_
    exact bHe (s':=⟨bx,rw⟩) Y sb2 ⟨cX (iO D l k hlt (by rw [kN,oA fY _ j hjl (by rw [aCv h47,h56,h58];rfl)];simp)),Y⟩
   rw [h56] at hr55
   subst hr55
   refine go 28 ?_
   exact bHe (s':=⟨bx,rw⟩) Y sb2 ⟨cX (iO D l k hlt (by rw [kN,oA fY _ j hjl (by rw [aCv h47,h56];rfl)];simp)),Y⟩
  refine wcp false Y (jQ h45) (go 8 ?_)
  refine xX [(14,Cb (isB l[k])),(0,.c (Sq encS l)),(1,nI D),(5,nI k),(6,pP b1),(7,Ci (l[k].kind))] ?_ ?_
  ·refine go 2 ?_
   by_cases h63:l[k].kind=7
   focus
    refine wcp true Y (eR h63) (go 6 ?_)
   rotate_left
   focus
    refine wcp false Y (eD h63) (go 2 ?_)
    by_cases h64:l[k].kind=8
    focus
     refine wcp true Y (eR h64) (go 3 ?_)
    rotate_left
    refine wcp false Y (eD h64) (go 3 ?_)
   all_goals
    exact ⟨Y,(aG Y (bZ (by unfold isB;first|exact (decide_eq_true J).symm|exact (decide_eq_false J).symm)) (sA Y))⟩
  refine go 2 ?_
  refine iE 10 [(191,Cb (c1 D l[k])),(0,.c (Sq encS l)),(1,nI D),(5,nI k),(6,pP b1),(7,Ci (l[k].kind)),(14,Cb (isB l[k]))] ?_ ?_
  ·refine go 1 ?_
   rcases Bool.eq_false_or_eq_true (isB l[k]) with h65|h65
   ·refine wyz Y (fL (bZ h65) (lW Y Y)) (go 3 ?_)
    refine wad Y ?_
    refine wc0 Y call86 Y (ih1 k J _) ?_
    rintro _ _ ⟨hr66,rfl⟩
    rcases Bool.eq_false_or_eq_true (bM (D+1) l[k].thn) with h67|h67
    rotate_left
    all_goals
     rw [h67] at hr66
     subst hr66
     refine go 4 ?_
     exact ⟨Y,(aG Y (bZ (by unfold c1;rw [h65,h67];rfl)) (sA Y))⟩
   refine wyz Y (fL (bZ h65) (lW Y Y)) (go 9 ?_)
   exact ⟨Y,(aG Y (bZ (by unfold c1;rw [h65];rfl)) (sA Y))⟩
  refine iE 10 [(201,Cb (c2 D l[k])),(0,.c (Sq encS l)),(1,nI D),(5,nI k),(6,pP b1),(7,Ci (l[k].kind)),(14,Cb (isB l[k]))] ?_ ?_
  ·rcases Bool.eq_false_or_eq_true (c1 D l[k]) with h68|h68
   ·refine eA 191 Y (bZ h68) (go 11 ?_)
    exact ⟨Y,(aG Y (bZ (by unfold c2;rw [h68];rfl)) (sA Y))⟩
   refine eA 191 Y (bZ h68) (go 1 ?_)
   rcases Bool.eq_false_or_eq_true (isB l[k]) with h69|h69
   ·refine wyz Y (fL (bZ (aKs h69)) (lF Y Y)) (go 9 ?_)
    exact ⟨Y,(aG Y (bZ (by unfold c2;rw [h68,h69];rfl)) (sA Y))⟩
   refine wyz Y (fL (bZ (aKt h69)) (lF Y Y)) (go 4 ?_)
   by_cases h70:(0:Int)<((l[k].thn.length:Nat):Int)
   ·refine wcp true Y (mH h70) (go 4 ?_)
    exact ⟨Y,(aG Y (bZ (by unfold c2;rw [h68,h69,decide_eq_false (show ¬l[k].thn.length=0 by omega)];rfl)) (sA Y))⟩
   refine wcp false Y (mI h70) (go 4 ?_)
   exact ⟨Y,(aG Y (bZ (by unfold c2;rw [h68,h69,decide_eq_true (show l[k].thn.length=0 by omega)];rfl)) (sA Y))⟩
  refine iE 17 [(218,Cb (c3 D l[k])),(0,.c (Sq encS l)),(1,nI D),(5,nI k),(6,pP b1),(7,Ci (l[k].kind)),(14,Cb (isB l[k]))] ?_ ?_
  ·rcases Bool.eq_false_or_eq_true (c2 D l[k]) with h71|h71
   ·refine eA 201 Y (bZ h71) (go 18 ?_)
    exact ⟨Y,(aG Y (bZ (by unfold c3;rw [h71];rfl)) (sA Y))⟩
   refine eA 201 Y (bZ h71) (go 3 ?_)
   by_cases h72:(0:Int)<((l[k].els.length:Nat):Int)
   ·refine wcp true Y (mH h72) (go 2 ?_)
    by_cases h73:l[k].kind=7
    ·refine wcp false Y (xG h73) (go 4 ?_)
     refine wad Y ?_
     refine wc0 Y call86 Y (ih2 k J _) ?_
     rintro _ _ ⟨hr74,rfl⟩
     rcases Bool.eq_false_or_eq_true (bM (D+1) l[k].els) with h75|h75
     rotate_left
     all_goals
      rw [h75] at hr74
      subst hr74
      refine go 5 ?_
      exact ⟨Y,(aG Y (bZ (by unfold c3;rw [h71,decide_eq_false (show ¬l[k].els.length=0 by omega),decide_eq_true (show l[k].kind=7 by omega),h75];rfl)) (sA Y))⟩
    refine wcp true Y (xL h73) (go 11 ?_)
    exact ⟨Y,(aG Y (bZ (by unfold c3;rw [h71,decide_eq_false (show ¬l[k].els.length=0 by omega),decide_eq_false (show ¬l[k].kind=7 by omega)];rfl)) (sA Y))⟩
   refine wcp false Y (mI h72) (go 14 ?_)
   exact ⟨Y,(aG Y (bZ (by unfold c3;rw [h71,decide_eq_true (show l[k].els.length=0 by omega)];rfl)) (sA Y))⟩
  refine go 2 ?_
  refine gY Y (λh76=>?_) (λh76=>?_)
  ·refine go 11 ?_
   exact bHe (s':=⟨bx,rw⟩) Y sb1 ⟨cX (iO D l k hlt (by rw [kN,aIy,h76];simp)),Y⟩
  refine go 5 ?_
  refine wad Y (go 2 ?_)
  exact ⟨J,(λi hi hlt2=>(Nat.lt_or_ge i k).elim (λh9=>hvk i hi h9) (λh9=>by have h8:i=k:=J;subst h8;rw [kN,aIy,h44,h76,show l[i].args.all fY=true from List.all_eq_true.2 (λx hx=>by obtain ⟨q,hq,rfl⟩:=List.getElem_of_mem hx;exact hvj q hq J)];rfl)),cQf (h1:=(.cons _ (.refl _))) (h:=aG Y (gQ J) (sA Y)) (λb hb=>List.mem_cons_of_mem _ (hb))⟩
 refine wcp false Y (jQ h4) (go 14 ?_)
 exact bHe (s':=⟨bx,rw⟩) Y sb0 ⟨cX (vW D J l Ce),Y⟩
theorem wF:∀(N:Nat)(D:Nat)(l:List aJ),wtS l <= N -> N <= 900000000 -> gC l -> D <= 1000000000-N -> ∀s:Sto,aL prog 86 [.c (Sq encS l),nI D] [] s λt s'=>t=Cb (bM D l) /\ s'=s
 |0,D,l,hw,hN,hs,hD,s=>by
  have h0:=uZ l
  exact uP D l hs J EI EI s
 |N+1,D,l,hw,hN,hs,hD,s=>by
  have hp:∀k (hk:k<l.length),wtS l[k].thn <= N /\ wtS l[k].els <= N /\ gC l[k].thn /\ gC l[k].els:=λk hk=>by
   have h3:=uF l k hk
   rw [gD] at h3
   have h4:=yW (oS _ hs _ (getElem_mem hk))
   exact ⟨J,J,h4.2.2.2.2.1,h4.2.2.2.2.2⟩
  exact uP D l hs J (λk hk s=>wF N (D+1) l[k].thn (hp k hk).1 J (hp k hk).2.2.1 J s)
   (λk hk s=>wF N (D+1) l[k].els (hp k hk).2.1 J (hp k hk).2.2.2 J s) s
theorem aA6{r:cY}(hs:r.sane)(h:okRefB r=true):(dC r).length <= r.wt*2000000:=by
 obtain ⟨h1,h2,h3⟩:=xE h
 have h4:=nL h1
 unfold cY.wt
 rcases h2 with h2|h2
 ·rw [aCa h2];omega
 have h0:0<r.index.length:=J
 have h5:=nM r.index 0 h0
 have h6:=tU (mV _ hs.2 _ (getElem_mem h0)) (kR (h3 _ (getElem_mem h0)))
 rw [wI h0];simp only [length_append,length_cons,length_nil];omega
theorem aAp:∀(l:List eN),(∀a,a∈l -> a.sane) -> (∀a,a∈l -> fY a=true) -> (bW dE l).length <= wtA l*2000010
 |[],_,_=>FE
 |a::l,hs,h=>by
  have h1:=aAp l (λx hx=>hs x EA) (λx hx=>h x EA)
  have h2:(dE a).length+2 <= a.wt*2000010:=by
   have h3:=xN (h a G0)
   have h4:=hs a G0
   unfold eN.wt
   cases hm:a.mutex with
   |true=>rw [pD hm];have:=aA6 h4.1 (h3.1 hm);simp only [length_append,length_cons,length_nil];omega
   |false=>rw [oZ hm];have:=tU h4.2 (kR (h3.2 hm));omega
  have h5:(bW dE (a::l)).length <= (dE a).length+2+(bW dE l).length:=by
   cases l with
   |nil=>simp [bW]
   |cons b r=>simp [bW];omega
  rw [wtA];omega
theorem oJ:∀(N D:Nat)(l:List aJ)(tabs:List UInt8),wtS l <= N -> bM D l=true -> gC l -> tabs.length <= D+1 -> (aC tabs l).length <= wtS l*3000000
 |_,_,[],_,_,_,_,_=>by rw [aC];simp
 |0,D,s::l,tabs,hw,_,_,_=>by rw [wtS,gD] at hw;omega
 |N+1,D,s::l,tabs,hw,hok,hs,ht=>by
  have hD:=iL D _ hok
  rw [bM,Bool.and_eq_true] at hok
  rw [gC] at hs
  rw [wtS,gD] at hw
  have ok:=aHv hs.1 hok.1
  have h1:=oJ (N+1) D l tabs J hok.2 hs.2 ht
  have ht1:(tabs++[(9:UInt8)]).length <= D+1+1:=DR
  have hE:(s.kind=1∨s.kind=2∨s.kind=7∨s.kind=8) -> (aP s.expr).length <= s.expr.nodes*2000000:=λh=>tU ok.saneE (ok.expr h)
  have hR:(s.kind=5∨s.kind=6) -> (dC s.ref).length <= s.ref.wt*2000000:=λh=>aA6 ok.saneR (ok.ref h)
  have hA:(dF s.args).length <= wtA s.args*2000010+2:=by have:=aAp s.args ok.saneA ok.args;unfold dF;simp only [length_append,length_cons,length_nil];omega
  have hT:(s.kind=7∨s.kind=8) -> (aC (tabs++[9]) s.thn).length <= wtS s.thn*3000000:=λh=>oJ N (D+1) s.thn (tabs++[9]) J (ok.thn h) ok.saneT ht1
  have hF:(if s.els.length=0 then ([]:List UInt8) else [32,101,108,115,101,32,123,10]++aC (tabs++[9]) s.els++tabs++[125]).length <= wtS s.els*3000000+40:=by
   rcases ok.els with h|h
   ·rw [if_pos h];simp
   have:=oJ N (D+1) s.els (tabs++[9]) J h ok.saneF ht1
   split
   ·simp
   simp only [length_append,length_cons,length_nil];omega
  have hn:(1 <= s.kind /\ s.kind <= 4) -> s.name.data.toList.length <= 16:=λh=>by
   have h2:=hok.1
   obtain ⟨k,n,e,r,a,t,f⟩:=s
   rw [bK9] at h2
   simp only [Bool.and_eq_true] at h2
   have h3:=h2.1.1.1.1.1.1.2
   have h:1 <= k /\ k <= 4:=h
   rw [if_pos h] at h3
   exact nL h3
  have hs1:(bY tabs s).length <= s.wt*3000000:=by
   rw [gD]
   have hk:s.kind=1∨s.kind=2∨s.kind=3∨s.kind=4∨s.kind=5∨s.kind=6∨s.kind=7∨s.kind=8∨(¬s.kind=1 /\ ¬s.kind=2 /\ ¬s.kind=3 /\ ¬s.kind=4 /\ ¬s.kind=5 /\ ¬s.kind=6 /\ ¬s.kind=7 /\ ¬s.kind=8):=J
   rcases hk with h|h|h|h|h|h|h|h|h
   ·have:=hE J;have:=hn J;rw [tP h];simp only [length_append,length_cons,length_nil];omega
   ·have:=hE J;have:=hn J;rw [tT h];simp only [length_append,length_cons,length_nil];omega
   ·have:=hn J;rw [tZ h];simp only [length_append,length_cons,length_nil];omega
   ·have:=hn J;rw [tH h];simp only [length_append,length_cons,length_nil];omega
   ·have:=hR J;rw [uD h];simp only [length_append,length_cons,length_nil];omega
   ·have:=hR J;rw [tI h];simp only [length_append,length_cons,length_nil];omega
   ·have:=hE J;have:=hT J;rw [pU h];simp only [length_append,length_cons,length_nil] at hF⊢;omega
   ·have:=hE J;have:=hT J;rw [pV h];simp only [length_append,length_cons,length_nil] at hF⊢;omega
   rw [uB h];simp only [length_append,length_cons,length_nil];omega
  rw [aC,wtS,length_append];omega
theorem sH{α:Type}(f:α -> List UInt8)(g:α -> Nat)(c:Nat):∀l:List α,(∀x,x∈l -> (f x).length <= g x*c) -> ((l.map f).flatten).length <= (l.map g).sum*c
 |[],_=>G0
 |x::r,h=>by
  have h1:=sH f g c r Gu
  have h2:=h x G0
  simp only [List.map_cons,List.flatten_cons,length_append,List.sum_cons,Nat.add_mul];omega
theorem aO9{α:Type}(l:List α):(l.map λ_=>1).sum=l.length:=by induction l with|nil=>rfl|cons a l ih=>simp [ih];omega
theorem aAd{p:cK}(hs:p.sane)(h:nY p=true):(cR p).length <= p.wt*3000000:=by
 unfold nY at h
 simp only [Bool.and_eq_true] at h
 obtain ⟨⟨⟨-,hg⟩,hm⟩,hf⟩:=h
 have h1:=sH aU (λ_=>1) 3000000 p.globals (λg hgm=>by
  have h2:=List.all_eq_true.1 hg g hgm
  unfold gH at h2
  rw [Bool.and_eq_true] at h2
  have h3:=nL h2.1
  have h4:=pS (hs.globals g hgm).1
  unfold aU;split<;>(simp only [length_append,length_cons,length_nil];omega))
 have h2:=sH bE (λ_=>1) 3000000 p.mutexes (λm hmm=>by
  have h2:=List.all_eq_true.1 hm m hmm
  unfold fS at h2
  simp only [Bool.and_eq_true] at h2
  have h3:=nL h2.1.1
  have h4:=pS (hs.mutexes m hmm).1
  unfold bE;split<;>split<;>(simp only [length_append,length_cons,length_nil];omega))
 have h3:=sH funcText bS.wt 3000000 p.funcs (λf hfm=>by
  have h2:=List.all_eq_true.1 hf f hfm
  unfold gW at h2
  simp only [Bool.and_eq_true,decide_eq_true_eq] at h2
  have h3:=nL h2.1.1.1
  have h4:=oJ _ 0 f.body [9] (Nat.le_refl _) h2.1.2 (hs.funcs f hfm).2.2 V
  have h5:(bW bX f.params).length <= f.params.length*30:=by
   have:∀(l:List aS),(∀x,x∈l -> bQ x.name=true) -> (bW bX l).length <= l.length*30:=by
    intro l
    induction l with
    |nil=>intro _;simp [bW]
    |cons x l ih=>
     intro hx
     have h6:=ih (λy hy=>hx y (by simp [hy]))
     have h7:=nL (hx x G0)
     have h8:(bX x).length <= 22:=by unfold bX;split<;>(simp only [length_append,length_cons,length_nil];omega)
     have h9:(bW bX (x::l)).length <= (bX x).length+2+(bW bX l).length:=by
      cases l with
      |nil=>simp [bW]
      |cons b r=>simp [bW];omega
     simp only [length_cons];omega
   exact this f.params (List.all_eq_true.1 h2.2)
  rw [wP];unfold bS.wt
  simp only [length_append,length_cons,length_nil];omega)
 rw [aO9] at h1 h2
 unfold cR cK.wt
 simp only [length_append];omega
theorem yJ{p:cK}(h:¬(p.globals.length <= 16 /\ p.mutexes.length <= 12 /\ p.funcs.length <= 16)):jI p=false:=by
 unfold jI;rw [decide_eq_false h];rfl
theorem aMu{p:cK}(k:Nat)(h:k<p.globals.length)(hb:gH p.globals[k]=false):jI p=false:=by
 unfold jI;rw [oA gH _ k h hb];simp
theorem aDn{p:cK}(k:Nat)(h:k<p.mutexes.length)(hb:fS p.mutexes[k]=false):jI p=false:=by
 unfold jI;rw [oA fS _ k h hb];simp
theorem aDv{p:cK}(k:Nat)(h:k<p.funcs.length)(hb:gW p.funcs[k]=false):jI p=false:=by
 unfold jI;rw [oA gW _ k h hb];simp
theorem yD{α:Type}(f:α -> Bool)(l:List α)(h:∀i (h:i<l.length),f l[i]=true):l.all f=true:=List.all_eq_true.2 λx hx=>by obtain ⟨i,hi,rfl⟩:=List.getElem_of_mem hx;exact h i hi
theorem aPt(p:cK)(hs:p.sane)(hw:p.wt <= 100000000)(s:Sto):aL prog 55 [.agg (jV p)] [] s λt s'=>t=Cb (jI p) /\ s'=s:=by
 obtain ⟨bx,rw⟩:=s
 have hw1:=hw
 unfold cK.wt at hw1
 have hfn:=aDr bS.wt Cg p.funcs
 refine acX 140 func55 ?_
 refine go 12 λb1=>?_
 by_cases h1:(16:Int)<((p.globals.length:Nat):Int)
 ·refine wcp true Y (mH h1) (go 22 ?_)
  exact bHe (s':=⟨bx,rw⟩) Y sb1 ⟨cX (yJ J),Y⟩
 refine wcp false Y (mI h1) (go 4 ?_)
 by_cases h3:(12:Int)<((p.mutexes.length:Nat):Int)
 ·refine wcp true Y (mH h3) (go 17 ?_)
  exact bHe (s':=⟨bx,rw⟩) Y sb1 ⟨cX (yJ J),Y⟩
 refine wcp false Y (mI h3) (go 5 ?_)
 by_cases h5:(16:Int)<((p.funcs.length:Nat):Int)
 ·refine wcp true Y (mH h5) (go 11 ?_)
  exact bHe (s':=⟨bx,rw⟩) Y sb1 ⟨cX (yJ J),Y⟩
 refine wcp false Y (mI h5) (go 13 ?_)
 refine lE (λk=>∀q (h:q<p.globals.length),q<k -> gH p.globals[q]=true) (p.globals.length) 3 (λk=>[(1,pP b1)]) Bh (sA Y) λk hk hvk=>?_
 replace hvk:∀q (h:q<p.globals.length),q<k -> gH p.globals[q]=true:=hvk
 try dsimp only
 refine go 7 ?_
 by_cases h8:((k:Nat):Int)<((p.globals.length:Nat):Int)
 ·refine wcp true Y (jZ h8) (go 9 ?_)
  have hgs:=hs.globals p.globals[k] (getElem_mem _)
  refine go 3 ?_
  refine wyz Y (bH dB dB p.globals nS (λ_=>Y) k Y Y Y Y J V runUnderlying23 sizeOf75) (go 2 ?_)
  refine wc0 Y call85 Y (pG p.globals[k].name hgs.2 _) ?_
  rintro _ _ ⟨hr10,rfl⟩
  rcases Bool.eq_false_or_eq_true (bQ p.globals[k].name) with h11|h11
  ·rw [h11] at hr10
   subst hr10
   refine go 5 ?_
   refine wyz Y (bH dB dB p.globals nS (λ_=>Y) k Y Y Y Y J V runUnderlying23 sizeOf75) (go 2 ?_)
   by_cases h12:p.globals[k].init=-9223372036854775808
   ·refine wcp true Y (eR h12) (go 15 ?_)
    exact bHe (s':=⟨bx,rw⟩) Y sb1 ⟨cX (aMu k J (by unfold gH;rw [h11,decide_eq_false J];rfl)),Y⟩
   refine wcp false Y (eD h12) (go 9 ?_)
   refine wad Y (go 2 ?_)
   exact ⟨J,(λq hq hlt2=>(Nat.lt_or_ge q k).elim (λh9=>hvk q hq h9) (λh9=>by have h8:k=q:=J;subst h8;exact (by unfold gH;rw [h11,decide_eq_true J];rfl))),(aG Y (gQ J) (sA Y))⟩
  rw [h11] at hr10
  subst hr10
  refine go 24 ?_
  exact bHe (s':=⟨bx,rw⟩) Y sb1 ⟨cX (aMu k J (by unfold gH;rw [h11];rfl)),Y⟩
 refine wcp false Y (jQ h8) (go 15 ?_)
 refine lE (λi=>∀q (h:q<p.mutexes.length),q<i -> fS p.mutexes[q]=true) (p.mutexes.length) 4 (λi=>[(1,pP b1)]) Bh (sA Y) λi hi hvi=>?_
 replace hvi:∀q (h:q<p.mutexes.length),q<i -> fS p.mutexes[q]=true:=hvi
 try dsimp only
 refine go 7 ?_
 by_cases h17:((i:Nat):Int)<((p.mutexes.length:Nat):Int)
 ·refine wcp true Y (jZ h17) (go 9 ?_)
  have hms:=hs.mutexes p.mutexes[i] (getElem_mem _)
  refine go 3 ?_
  refine wyz Y (bH bT bT p.mutexes mZ (λ_=>Y) i Y Y Y Y J V runUnderlying24 sizeOf77) (go 9 λb2=>?_)
  refine wc0 Y call85 Y (pG p.mutexes[i].name hms.2 _) ?_
  rintro _ _ ⟨hr19,rfl⟩
  rcases Bool.eq_false_or_eq_true (bQ p.mutexes[i].name) with h20|h20
  ·rw [h20] at hr19
   subst hr19
   refine go 4 ?_
   by_cases h21:p.mutexes[i].size<0
   ·refine wcp true Y (jZ h21) (go 29 ?_)
    exact bHe (s':=⟨bx,rw⟩) Y sb2 ⟨cX (aDn i J A3),Y⟩
   refine wcp false Y (jQ h21) (go 4 ?_)
   by_cases h23:(64:Int)<p.mutexes[i].size
   ·refine wcp true Y (mH h23) (go 24 ?_)
    exact bHe (s':=⟨bx,rw⟩) Y sb2 ⟨cX (aDn i J A3),Y⟩
   refine wcp false Y (mI h23) (go 3 ?_)
   rcases Bool.eq_false_or_eq_true (p.mutexes[i].reentrant) with h25|h25
   ·refine wyz Y (fL (bZ h25) (aX [] isAgg4 sizeOf4)) (go 3 ?_)
    by_cases h26:(0:Int)<p.mutexes[i].size
    ·refine wcp true Y (mH h26) (go 16 ?_)
     exact bHe (s':=⟨bx,rw⟩) Y sb2 ⟨cX (aDn i J (by unfold fS;rw [h20,decide_eq_true (show 0 <= p.mutexes[i].size /\ p.mutexes[i].size <= 64 by omega),h25,decide_eq_true (show 0<p.mutexes[i].size by omega)];rfl)),Y⟩
    refine wcp false Y (mI h26) (go 10 ?_)
    refine wad Y (go 2 ?_)
    exact ⟨J,(λq hq hlt2=>(Nat.lt_or_ge q i).elim (λh9=>hvi q hq h9) (λh9=>by have h8:i=q:=J;subst h8;exact (by unfold fS;rw [h20,decide_eq_true (show 0 <= p.mutexes[i].size /\ p.mutexes[i].size <= 64 by omega),h25,decide_eq_false (show ¬0<p.mutexes[i].size by omega)];rfl))),cQf (h1:=(.cons _ (.refl _))) (h:=aG Y (gQ J) (sA Y)) (λb hb=>List.mem_cons_of_mem _ (hb))⟩
   refine wyz Y (fL (bZ h25) (aX [] isAgg4 sizeOf4)) (go 14 ?_)
   refine wad Y (go 2 ?_)
   exact ⟨J,(λq hq hlt2=>(Nat.lt_or_ge q i).elim (λh9=>hvi q hq h9) (λh9=>by have h8:i=q:=J;subst h8;exact (by unfold fS;rw [h20,decide_eq_true (show 0 <= p.mutexes[i].size /\ p.mutexes[i].size <= 64 by omega),h25];rfl))),cQf (h1:=(.cons _ (.refl _))) (h:=aG Y (gQ J) (sA Y)) (λb hb=>List.mem_cons_of_mem _ (hb))⟩
  rw [h20] at hr19
  subst hr19
  refine go 34 ?_
  exact bHe (s':=⟨bx,rw⟩) Y sb2 ⟨cX (aDn i J (by unfold fS;rw [h20];rfl)),Y⟩
 refine wcp false Y (jQ h17) (go 15 ?_)
 refine lE (λf=>∀q (h:q<p.funcs.length),q<f -> gW p.funcs[q]=true) (p.funcs.length) 6 (λf=>[(1,pP b1)]) Bh (sA Y) λf hf hvf=>?_
 replace hvf:∀q (h:q<p.funcs.length),q<f -> gW p.funcs[q]=true:=hvf
 try dsimp only
 refine go 7 ?_
 by_cases h32:((f:Nat):Int)<((p.funcs.length:Nat):Int)
 ·refine wcp true Y (jZ h32) (go 9 ?_)
  have hfl:f<p.funcs.length:=J
  have hfs:=hs.funcs p.funcs[f] (getElem_mem hfl)
  have hfw:=aDi bS.wt p.funcs f hfl
  rw [show bS.wt p.funcs[f]=1+p.funcs[f].params.length+wtS p.funcs[f].body from rfl] at hfw
  refine go 3 ?_
  refine wyz Y (bH fV fV p.funcs vC (λ_=>Y) f Y Y Y Y J V runUnderlying25 sizeOf62) (go 10 λb3=>?_)
  refine wc0 Y call85 Y (pG p.funcs[f].name hfs.1 _) ?_
  rintro _ _ ⟨hr34,rfl⟩
  rcases Bool.eq_false_or_eq_true (bQ p.funcs[f].name) with h35|h35
  ·rw [h35] at hr34
   subst hr34
   refine go 5 ?_
   by_cases h36:(6:Int)<((p.funcs[f].params.length:Nat):Int)
   ·refine wcp true Y (mH h36) (go 22 ?_)
    exact bHe (s':=⟨bx,rw⟩) Y sb2 ⟨cX (aDv f J (by unfold gW;rw [decide_eq_false (show ¬p.funcs[f].params.length <= 6 by omega)];simp)),Y⟩
   refine wcp false Y (mI h36) (go 4 ?_)
   refine wc0 Y call86 Y (wF _ 0 p.funcs[f].body (Nat.le_refl _) J hfs.2.2 J _) ?_
   rintro _ _ ⟨hr38,rfl⟩
   rcases Bool.eq_false_or_eq_true (bM 0 p.funcs[f].body) with h39|h39
   ·rw [h39] at hr38
    subst hr38
    refine go 13 ?_
    refine lE (λj=>∀q (h:q<p.funcs[f].params.length),q<j -> bQ p.funcs[f].params[q].name=true) (p.funcs[f].params.length) 8 (λj=>[(1,pP b1),(6,nI f),(7,pP b3)]) Bh (sA Y) λj hj hvj=>?_
    replace hvj:∀q (h:q<p.funcs[f].params.length),q<j -> bQ p.funcs[f].params[q].name=true:=hvj
    try dsimp only
    refine go 7 ?_
    by_cases h41:((j:Nat):Int)<((p.funcs[f].params.length:Nat):Int)
    ·refine wcp true Y (jZ h41) (go 12 ?_)
     refine wyz Y (bH cP cP p.funcs[f].params gL (λ_=>Y) j Y Y Y Y J V runUnderlying59 sizeOf79) (go 2 ?_)
     refine wc0 Y call85 Y (pG p.funcs[f].params[j].name (hfs.2.1 _ (getElem_mem _)) _) ?_
     rintro _ _ ⟨hr43,rfl⟩
     rcases Bool.eq_false_or_eq_true (bQ p.funcs[f].params[j].name) with h44|h44
     ·rw [h44] at hr43
      subst hr43
      refine go 9 ?_
      refine wad Y (go 2 ?_)
      exact ⟨J,(λq hq hlt2=>(Nat.lt_or_ge q j).elim (λh9=>hvj q hq h9) (λh9=>by have h8:j=q:=J;subst h8;exact h44)),(aG Y (gQ J) (sA Y))⟩
     rw [h44] at hr43
     subst hr43
     refine go 19 ?_
     exact bHe (s':=⟨bx,rw⟩) Y sb2 ⟨cX (aDv f J (by unfold gW;rw [oA (λx:aS=>bQ x.name) _ j J h44];simp)),Y⟩
    refine wcp false Y (jQ h41) (go 11 ?_)
    refine wad Y (go 2 ?_)
    exact ⟨J,(λq hq hlt2=>(Nat.lt_or_ge q f).elim (λh9=>hvf q hq h9) (λh9=>by have h8:f=q:=J;subst h8;exact (by unfold gW;rw [h35,decide_eq_true (show p.funcs[f].params.length <= 6 by omega),h39,yD _ _ (λq hq=>hvj q hq J)];rfl))),cQf (h1:=(.cons _ (.refl _))) (h:=aG Y (gQ J) (sA Y)) (λb hb=>List.mem_cons_of_mem _ (hb))⟩
   rw [h39] at hr38
   subst hr38
   refine go 17 ?_
   exact bHe (s':=⟨bx,rw⟩) Y sb2 ⟨cX (aDv f J (by unfold gW;rw [h39];simp)),Y⟩
  rw [h35] at hr34
  subst hr34
  refine go 28 ?_
  exact bHe (s':=⟨bx,rw⟩) Y sb2 ⟨cX (aDv f J (by unfold gW;rw [h35];rfl)),Y⟩
 refine wcp false Y (jQ h32) (go 10 ?_)
 have hform:nY p=true:=by unfold nY;rw [decide_eq_true J,yD _ _ (λq hq=>hvk q hq J),yD _ _ (λq hq=>hvi q hq J),yD _ _ (λq hq=>hvf q hq J)];rfl
 have hpb:=aAd hs hform
 have hw0:p.wt <= 100000000:=hw
 have hnz:(cR p).length <= 1000000000000000:=J
 refine go 1 ?_
 refine wc0 Y call87 Y (aB2 p hform hs J hnz _) ?_
 rintro _ _ ⟨rfl,rfl⟩
 refine wo Y (aDc Y Y V Y underlying9 underlying38 underlying5 (by first|(rw [kT];omega)|omega) (N:=(cR p).length) Y (cs:=iF (cR p)) Y ?_)
 refine wc0 Y call38 Y (aLb (cR p) _) ?_
 rintro _ _ ⟨(⟨tl52,hlx52,rfl,htl52⟩|⟨p52,e52,hlx52,rfl,he52⟩),rfl⟩
 ·refine go 12 ?_
  refine wcp true Y B7 (go 4 ?_)
  exact bHe (s':=⟨bx,rw⟩) Y sb1 ⟨cX (by rw [nX,hform,hlx52];rfl),Y⟩
 refine go 12 ?_
 refine wcp false Y (eD J) (go 4 ?_)
 exact bHe (s':=⟨bx,rw⟩) Y sb1 ⟨cX (by rw [nX,hform,hlx52];rfl),Y⟩
end
end Go.Proofs.YtbdfdjdgfanjaaaGreatDoor
