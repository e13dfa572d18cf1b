import Derived.Test.YtjgeihmhppadaaaGreatDoorG6J
set_option linter.all false
set_option synthInstance.maxHeartbeats 1000000
set_option synthInstance.maxSize 1000000
set_option maxHeartbeats 1600000
set_option maxRecDepth 100000
namespace Go.Proofs.YtjgeihmhppadaaaGreatDoor
open Go.Proofs.Tryz
open List (length_append length_cons length_nil mem_append mem_cons not_mem_nil append_assoc getElem_mem take_of_length_le)
section
open Go.RowKit
abbrev aF6(l:List ByteArray):AC:=.sl l.length (l.map λs=>Vs s)
abbrev aEm(l:List Int):AC:=.sl l.length (l.map λn=>Vi n)
theorem aOi(s:Sto):aL prog 140 [nI 0] [] s λt s'=>t=.tup [.c (aF6 (jP 0)),.c (aEm (dS 0))] /\ s'=s:=by
 obtain ⟨bx,rw⟩:=s
 refine acX 23 func140 ?_
 refine go 15 ?_
 refine wcp true Y B7 (go 6 ?_)
 refine wo Y (bDk cG8 ?_)
 refine wo Y (bDk zb6 ?_)
 refine go 7 ?_
 exact ⟨.inr Y,_,⟨bx,rw⟩,uM Y (aF Y) (aF Y),aA (.refl _) (.refl _),Y,Y⟩
theorem aOy(s:Sto):aL prog 140 [nI 1] [] s λt s'=>t=.tup [.c (aF6 (jP 1)),.c (aEm (dS 1))] /\ s'=s:=by
 obtain ⟨bx,rw⟩:=s
 refine acX 23 func140 ?_
 refine go 15 ?_
 refine wcp false Y Y (go 6 ?_)
 refine wcp true Y B7 (go 6 ?_)
 refine wo Y (bDk cG8 ?_)
 refine wo Y (bDk zb6 ?_)
 refine go 7 ?_
 exact ⟨.inr Y,_,⟨bx,rw⟩,uM Y (aF Y) (aF Y),aA (.refl _) (.refl _),Y,Y⟩
theorem aPo(s:Sto):aL prog 140 [nI 2] [] s λt s'=>t=.tup [.c (aF6 (jP 2)),.c (aEm (dS 2))] /\ s'=s:=by
 obtain ⟨bx,rw⟩:=s
 refine acX 23 func140 ?_
 refine go 15 ?_
 refine wcp false Y Y (go 6 ?_)
 refine wcp false Y Y (go 6 ?_)
 refine wcp true Y B7 (go 6 ?_)
 refine wo Y (wbs Tryz.t9 [Vs ⟨#[]⟩,Vs ⟨#[]⟩,Vs ⟨#[]⟩,Vs ⟨#[]⟩,Vs ⟨#[]⟩,Vs ⟨#[]⟩] Y Y V (.cons Y (.cons Y (.cons Y (.cons Y (.cons Y (.cons Y .nil)))))) underlying61 B6 Y V V B6 B6 Y ?_)
 refine wo Y (wbs Tryz.t3 [Vi 0,Vi 0,Vi 0,Vi 0,Vi 0,Vi 0] Y Y V (.cons Y (.cons Y (.cons Y (.cons Y (.cons Y (.cons Y .nil)))))) underlying22 B6 Y V V B6 B6 Y ?_)
 refine go 7 ?_
 exact ⟨.inr Y,_,⟨bx,rw⟩,uM Y (aF Y) (aF Y),aA (.refl _) (.refl _),Y,Y⟩
theorem aPj(s:Sto):aL prog 140 [nI 3] [] s λt s'=>t=.tup [.c (aF6 (jP 3)),.c (aEm (dS 3))] /\ s'=s:=by
 obtain ⟨bx,rw⟩:=s
 refine acX 23 func140 ?_
 refine go 15 ?_
 refine wcp false Y Y (go 6 ?_)
 refine wcp false Y Y (go 6 ?_)
 refine wcp false Y Y (go 6 ?_)
 refine wcp true Y B7 (go 6 ?_)
 refine wo Y (bDk (hps:=(.cons Y (.cons Y .nil))) cL1 ?_)
 refine wo Y (wbs Tryz.t3 [Vi 0,Vi 0] Y Y V (.cons Y (.cons Y .nil)) underlying22 B6 Y V V B6 B6 Y ?_)
 refine go 7 ?_
 exact ⟨.inr Y,_,⟨bx,rw⟩,uM Y (aF Y) (aF Y),aA (.refl _) (.refl _),Y,Y⟩
theorem aOe(s:Sto):aL prog 140 [nI 4] [] s λt s'=>t=.tup [.c (aF6 (jP 4)),.c (aEm (dS 4))] /\ s'=s:=by
 obtain ⟨bx,rw⟩:=s
 refine acX 23 func140 ?_
 refine go 15 ?_
 refine wcp false Y Y (go 6 ?_)
 refine wcp false Y Y (go 6 ?_)
 refine wcp false Y Y (go 6 ?_)
 refine wcp false Y Y (go 9 ?_)
 refine wo Y (bDk (hps:=(.cons Y (.cons Y (.cons Y .nil)))) bT4 ?_)
 refine wo Y (wbs Tryz.t3 [Vi 0,Vi 0,Vi 0] Y Y V (.cons Y (.cons Y (.cons Y .nil))) underlying22 B6 Y V V B6 B6 Y ?_)
 refine go 5 ?_
 exact ⟨.inr Y,_,⟨bx,rw⟩,uM Y (aF Y) (aF Y),aA (.refl _) (.refl _),Y,Y⟩
theorem aO6(lv:Nat)(h:lv<5)(s:Sto):aL prog 140 [Ci (lv:Int)] [] s λt s'=>t=.tup [.c (aF6 (jP lv)),.c (aEm (dS lv))] /\ s'=s:=by
 rcases (show lv=0∨lv=1∨lv=2∨lv=3∨lv=4 by omega) with rfl|rfl|rfl|rfl|rfl
 ·exact aOi s
 ·exact aOy s
 ·exact aPo s
 ·exact aPj s
 exact aOe s
end
section
def zJ(n:Nat)(l:List UInt8):Nat:=l.foldl (λn c=>10*n+(c.toNat-48)) n
theorem aEo(n:Nat):zJ n []=n:=rfl
theorem vY(n:Nat)(c:UInt8)(r:List UInt8):zJ n (c::r)=zJ (10*n+(c.toNat-48)) r:=by unfold zJ;rw [List.foldl_cons]
theorem aJ4(l:List UInt8)(c:UInt8)(n:Nat):zJ n (l++[c])=10*zJ n l+(c.toNat-48):=by
 unfold zJ;rw [List.foldl_append];rfl
theorem aEy(k:Nat):cD (UInt8.ofNat (48+k%10))=true:=by
 have hc:(UInt8.ofNat (48+k%10)).toNat=48+k%10:=Dd
 simp only [cD,decide_eq_true_eq,hc];omega
theorem aOv(l:List UInt8):∀n,n <= zJ n l:=by
 induction l with
 |nil=>intro n;exact Nat.le_refl _
 |cons c r ih=>intro n;have:=ih (10*n+(c.toNat-48));rw [vY];omega
theorem aK8(l:List UInt8)(h:∀c∈l,cD c=true):∀n,n <= 9223372036854775807 -> iT n l=if zJ n l <= 9223372036854775807 then some (zJ n l) else none:=by
 induction l with
 |nil=>intro n hn;rw [iT,aEo,if_pos hn]
 |cons c r ih=>
  intro n hn
  have hc:=h c (List.mem_cons_self ..)
  simp only [cD,decide_eq_true_eq] at hc
  rw [iT,vY]
  by_cases ho:(9223372036854775807-(c.toNat-48))/10<n
  ·rw [if_pos ho]
   have:=aOv r (10*n+(c.toNat-48))
   rw [if_neg J]
  rw [if_neg ho,ih (λd hd=>h d (List.mem_cons_of_mem _ hd)) _ J]
theorem aKo(c:UInt8)(h:cD c=true):fU c=false /\ isSp c=false /\ c≠47:=by
 simp only [cD,decide_eq_true_eq] at h
 refine ⟨?_,?_,?_⟩
 ·simp only [fU,decide_eq_false_iff_not];omega
 ·simp only [isSp,decide_eq_false_iff_not];omega
 rintro rfl;revert h;decide
end
section
structure PT where
 kind:Nat
 text:ByteArray
 num:Nat
def Tok.pt(t:Tok):PT:=⟨t.kind,t.text,t.num⟩
def aAa:PT:=⟨5,⟨#[]⟩,0⟩
def sgn(s:List UInt8):PT:=⟨4,bytes s,0⟩
def wrd(s:List UInt8):PT:=⟨3,bytes s,0⟩
inductive Lx:List UInt8 -> List PT -> Prop where
 |nil {s:List UInt8} (h:eY s=[]):Lx s []
 |cons {s r:List UInt8} {kind len num:Nat} {ps:List PT} (h:eY s=r) (h0:r≠[]) (hn:dQ r=.tok kind len num) (ht:Lx (r.drop len) ps):Lx s (⟨kind,bytes (r.take len),num⟩::ps)
theorem Lx.same{s s':List UInt8}{ps:List PT}(h:Lx s ps)(he:eY s'=eY s):Lx s' ps:=by
 cases h with
 |nil h=>exact .nil (he.trans h)
 |cons h h0 hn ht=>exact .cons (he.trans h) h0 hn ht
theorem Lx.sp{c:UInt8}{r:List UInt8}{ps:List PT}(h:Lx r ps)(hc:isSp c=true):Lx (c::r) ps:=h.same (oP hc)
theorem Lx.bl{r:List UInt8}{ps:List PT}(h:Lx r ps):Lx (32::r) ps:=h.sp V
theorem Lx.end:Lx [] []:=.nil lO
theorem aPc{r:List UInt8}{ps:List PT}(h:Lx r ps):∀(s:List UInt8)(k n:Nat),s.drop k=r -> k <= s.length -> n+ps.length <= 4000 -> ∃L,kD s k n=.ok L /\ L.map Tok.pt=ps++[aAa]:=by
 induction h with
 |@nil r h=>
  intro s k n hd hk _
  refine ⟨_,dAd (by unfold bF;rw [hd,h];simp),Y⟩
 |@cons r0 r kind len num ps h h0 hn _ ih=>
  intro s k n hd hk hl
  simp only [length_cons] at hl
  have hs:s.drop (bF s k)=r:=by rw [qJ,hd,h]
  have hlt:bF s k<s.length:=by
   rcases Nat.lt_or_ge (bF s k) s.length with h1|h1
   ·exact h1
   rw [List.drop_eq_nil_of_le h1] at hs;exact absurd hs.symm h0
  have hlen:=cZy h0 hn
  have hr:r.length=s.length-bF s k:=by rw [←hs,List.length_drop]
  obtain ⟨L,h1,h2⟩:=ih s (bF s k+len) (n+1) (by rw [←List.drop_drop,hs]) J J
  rw [nD hk hlt (by rw [hs];exact hn) J,h1,hs]
  exact ⟨_,Y,by rw [List.map_cons,h2];rfl⟩
theorem aIz{s:List UInt8}{ps:List PT}(h:Lx s ps)(hs:s.length <= 262144)(hp:ps.length <= 4000):∃L,iH s=.ok L /\ L.map Tok.pt=ps++[aAa]:=by
 unfold iH
 rw [if_neg J]
 exact aPc h s 0 0 Y J J
def uL(r:List UInt8):Prop:=∀c,r.head?=some c -> cT c=false
theorem tB{p:UInt8 -> Bool}{l r:List UInt8}(h:∀c∈l,p c=true)(hr:∀c,r.head?=some c -> p c=false):(l++r).takeWhile p=l:=by
 induction l with
 |nil=>
  cases r with
  |nil=>rfl
  |cons c r=>rw [List.nil_append,List.takeWhile_cons_of_neg];rw [hr c rfl];simp
 |cons c l ih=>rw [List.cons_append,List.takeWhile_cons_of_pos (h c (List.mem_cons_self ..)),ih λd hd=>h d (List.mem_cons_of_mem _ hd)]
theorem aCe{c:UInt8}(h:fU c=true):isSp c=false /\ c≠47:=by
 simp only [fU,decide_eq_true_eq] at h
 refine ⟨?_,?_⟩
 ·simp only [isSp,decide_eq_false_iff_not];omega
 rintro rfl;revert h;decide
theorem Lx.letters{s r:List UInt8}{ps:List PT}(h:Lx r ps)(c:UInt8)(q:List UInt8)(hs:s=c::q)(hc:fU c=true)(hq:∀d∈q,cT d=true)(hl:s.length <= 16)(hr:uL r):Lx (s++r) (⟨if dA (bytes s) then 3 else 1,bytes s,0⟩::ps):=by
 subst hs
 have ht:((c::q)++r).takeWhile cT=c::q:=tB (λd hd=>by
  rcases mem_cons.1 hd with rfl|hd
  ·simp [cT,hc]
  exact hq d hd) hr
 have hn:dQ ((c::q)++r)=.tok (if dA (bytes (c::q)) then 3 else 1) (c::q).length 0:=by
  rw [List.cons_append] at ht⊢
  rw [kK hc,ht,if_neg J]
 have:=Lx.cons (s:=(c::q)++r) (r:=(c::q)++r) (iK (r:=q++r) (aCe hc).1 (λh=>(aCe hc).2 h.1)) G0 hn (ps:=ps) (by rw [List.drop_left];exact h)
 rw [List.take_left] at this
 exact this
theorem aK4(s:ByteArray):bytes s.data.toList=s:=Dn
theorem Lx.name{r:List UInt8}{ps:List PT}(h:Lx r ps)(s:ByteArray)(hs:bQ s=true)(hr:uL r):Lx (s.data.toList++r) (⟨1,s,0⟩::ps):=by
 unfold bQ at hs
 split at hs
 ·cases hs
 rename_i c q he
 simp only [Bool.and_eq_true,List.all_eq_true,decide_eq_true_eq,Bool.not_eq_true'] at hs
 obtain ⟨⟨⟨h1,h2⟩,h3⟩,h4⟩:=hs
 have:=h.letters (s:=s.data.toList) c q he h1 h2 (by exact h3) hr
 rw [aK4,h4] at this
 exact this
theorem aMi:∀x,x∈words -> x.size <= 16 /\ fU (x.data.toList.headD 0)=true /\ (x.data.toList.tail.all cT)=true:=V
theorem Lx.word{r:List UInt8}{ps:List PT}(h:Lx r ps)(s:List UInt8)(hs:dA (bytes s)=true)(hr:uL r):Lx (s++r) (wrd s::ps):=by
 obtain ⟨h1,h2,h3⟩:=aMi _ ((cZx _).1 hs)
 have e:(bytes s).data.toList=s:=Dn
 rw [e] at h2 h3
 have e2:(bytes s).size=s.length:=Co
 rw [e2] at h1
 cases s with
 |nil=>exact absurd h2 V
 |cons c q=>
  have:=h.letters (s:=c::q) c q rfl h2 (List.all_eq_true.1 h3) h1 hr
  rw [hs] at this
  exact this
theorem zI(n:Nat):∀c∈cO n,cD c=true:=by
 induction n using cO.induct with
 |case1 n h=>
  rw [cO,if_pos h]
  intro c hc
  simp only [List.mem_singleton] at hc
  subst hc
  have:=aEy n
  rwa [Nat.mod_eq_of_lt h] at this
 |case2 n h ih=>
  rw [cO,if_neg h]
  intro c hc
  rcases mem_append.1 hc with hc|hc
  ·exact ih c hc
  simp only [List.mem_singleton] at hc;subst hc;exact aEy n
theorem aBi(n:Nat):cO n≠[]:=by rw [cO];split<;>simp
theorem aGk(n:Nat):zJ 0 (cO n)=n:=by
 induction n using cO.induct with
 |case1 n h=>
  have hc:(UInt8.ofNat (48+n)).toNat=48+n:=Dd
  rw [cO,if_pos h,vY,aEo,hc];omega
 |case2 n h ih=>
  have hc:(UInt8.ofNat (48+n%10)).toNat=48+n%10:=Dd
  rw [cO,if_neg h,aJ4,ih,hc];omega
theorem Lx.num{r:List UInt8}{ps:List PT}(h:Lx r ps)(n:Nat)(hn:n <= 9223372036854775807)(hr:uL r):Lx (cO n++r) (⟨2,bytes (cO n),n⟩::ps):=by
 obtain ⟨c,q,he⟩:=List.exists_cons_of_ne_nil (aBi n)
 have hd:=zI n
 have hv:=aK8 (cO n) hd 0 J
 rw [aGk,if_pos hn] at hv
 have ht:(cO n++r).takeWhile cD=cO n:=tB hd λc hc=>by
  have:=hr c hc
  unfold cT at this
  simp only [Bool.or_eq_false_iff] at this
  exact this.2
 have hc:=hd c Hi
 have hx:=aKo c hc
 have hnx:dQ (cO n++r)=.tok 2 (cO n).length n:=by
  rw [he,List.cons_append] at ht⊢
  rw [lP hx.1 hc (n:=n) (by rw [ht,←he];exact hv),ht]
 have:=Lx.cons (s:=cO n++r) (r:=cO n++r) (by rw [he];exact iK (r:=q++r) hx.2.1 (λh=>hx.2.2 h.1)) (by rw [he];simp) hnx (ps:=ps) (by rw [List.drop_left];exact h)
 rw [List.take_left] at this
 exact this
theorem aEc:∀c,c∈dW -> fU c=false /\ cD c=false /\ isSp c=false:=V
theorem Lx.one{r:List UInt8}{ps:List PT}(h:Lx r ps)(c:UInt8)(hc:c∈dW)(hr:∀d,r.head?=some d -> [c,d]∉fE /\ ¬(c=47 /\ d=47)):Lx (c::r) (sgn [c]::ps):=by
 obtain ⟨h1,h2,h3⟩:=aEc c hc
 have hno:¬(2 <= (c::r).length /\ (c::r).take 2∈fE):=by
  rintro ⟨h4,h5⟩
  cases r with
  |nil=>simp at h4
  |cons d r=>exact (hr d rfl).1 h5
 have hn:dQ (c::r)=.tok 4 1 0:=by rw [iN h1 h2,oR hno hc];rfl
 exact Lx.cons (iK h3 (λ⟨h4,h5⟩=>(hr 47 h5).2 ⟨h4,Y⟩)) G0 hn h
theorem aJw:∀x,x∈fE -> fU (x.headD 0)=false /\ cD (x.headD 0)=false /\ isSp (x.headD 0)=false /\ x.headD 0≠47:=V
theorem Lx.two{r:List UInt8}{ps:List PT}(h:Lx r ps)(c d:UInt8)(hc:[c,d]∈fE):Lx (c::d::r) (sgn [c,d]::ps):=by
 obtain ⟨h1,h2,h3,h4⟩:=aJw _ hc
 have hn:dQ (c::d::r)=.tok 4 2 0:=by rw [iN (c:=c) h1 h2,pA (l:=c::d::r) G0 hc];rfl
 exact Lx.cons (iK h3 (λh5=>h4 h5.1)) G0 hn h
def Fin(r:List UInt8):Prop:=∀c,r.head?=some c -> c∈([32,41,93,59,44]:List UInt8)
theorem aCs:∀c,c∈([32,41,93,59,44]:List UInt8) -> cT c=false /\ c≠47 /\ ∀d,d∈dW -> [d,c]∉fE:=V
theorem Fin.nam{r:List UInt8}(h:Fin r):uL r:=λc hc=>(aCs c (h c hc)).1
theorem Fin.cons{c:UInt8}{r:List UInt8}(h:c∈([32,41,93,59,44]:List UInt8)):Fin (c::r):=λd hd=>by cases hd;exact h
theorem Fin.nil:Fin []:=λc hc=>by cases hc
theorem uL.cons{c:UInt8}{r:List UInt8}(h:cT c=false):uL (c::r):=λd hd=>by cases hd;exact h
theorem Lx.one'{r:List UInt8}{ps:List PT}(h:Lx r ps)(c:UInt8)(hc:c∈dW)(hr:Fin r):Lx (c::r) (sgn [c]::ps):=
 h.one c hc λd hd=>⟨(aCs d (hr d hd)).2.2 c hc,λh2=>(aCs d (hr d hd)).2.1 h2.2⟩
theorem aL9:∀c,c∈([40,41,123,125,91,93,44,59,43,45,42,37]:List UInt8) -> c∈dW /\ c≠47 /\ ∀x,x∈fE -> x.headD 0≠c:=V
theorem Lx.free{r:List UInt8}{ps:List PT}(h:Lx r ps)(c:UInt8)(hc:c∈([40,41,123,125,91,93,44,59,43,45,42,37]:List UInt8)):Lx (c::r) (sgn [c]::ps):=by
 obtain ⟨h1,h2,h3⟩:=aL9 c hc
 exact h.one c h1 λd _=>⟨λhm=>h3 _ hm Y,λh4=>h2 h4.1⟩
end
section
inductive VE:aH -> Prop where
 |num (n:Nat) (h:n <= 9223372036854775807):VE (.mk 1 n aK [])
 |name (s:ByteArray) (h:bQ s=true):VE (.mk 2 0 s [])
 |un (op:Int) (x:aH) (h:op=3∨op=4) (hx:VE x):VE (.mk op 0 aK [x])
 |bin (op:Int) (x y:aH) (h:5 <= op /\ op <= 17) (hx:VE x) (hy:VE y):VE (.mk op 0 aK [x,y])
def aH3(b:Bool)(t:List UInt8):List UInt8:=if b then [40]++t++[41] else t
def dAe(b:Bool)(t:List PT):List PT:=if b then sgn [40]::(t++[sgn [41]]) else t
def aM3(op num:Int)(name:ByteArray)(ts:List (List PT)):List PT:=
 if op=1 then [⟨2,bytes (cO num.natAbs),num.natAbs⟩] else if op=2 then [⟨1,name,0⟩] else if op=3 then sgn [45]::ts.getD 0 [] else if op=4 then sgn [33]::ts.getD 0 [] else
 ts.getD 0 []++sgn (iW op)::ts.getD 1 []
mutual
def aT:aH -> List PT
 |.mk op num name args=>aM3 op num name (mL op 0 args)
def mL(b:Int):Nat -> List aH -> List (List PT)
 |_,[]=>[]
 |k,e::es=>dAe (cV b k e.op) (aT e)::mL b (k+1) es
end
theorem aDy{op:Int}(h:5 <= op /\ op <= 17):op=5∨op=6∨op=7∨op=8∨op=9∨op=10∨op=11∨op=12∨op=13∨op=14∨op=15∨op=16∨op=17:=J
theorem qB{op:Int}(h:5 <= op /\ op <= 17):aM op<5:=by
 rcases aDy h with rfl|rfl|rfl|rfl|rfl|rfl|rfl|rfl|rfl|rfl|rfl|rfl|rfl<;>decide
theorem wE(n:Nat):aP (.mk 1 n aK [])=cO n:=by
 rw [aP,dP]
 show eH (n:Int)=_
 unfold eH;rw [if_neg J];rfl
theorem zB(s:ByteArray):aP (.mk 2 0 s [])=s.data.toList:=by rw [aP,dP];rfl
theorem uO(n:Nat):aT (.mk 1 n aK [])=[⟨2,bytes (cO n),n⟩]:=by rw [aT,mL];rfl
theorem sC(s:ByteArray):aT (.mk 2 0 s [])=[⟨1,s,0⟩]:=by rw [aT,mL];rfl
theorem aFl{op:Int}(h:op=3∨op=4)(x:aH):aP (.mk op 0 aK [x])=(if op=3 then 45 else 33)::aH3 (cV op 0 x.op) (aP x):=by
 rw [aP,dP,dP]
 rcases h with rfl|rfl<;>rfl
theorem yB{op:Int}(h:op=3∨op=4)(x:aH):aT (.mk op 0 aK [x])=sgn [if op=3 then 45 else 33]::dAe (cV op 0 x.op) (aT x):=by
 rw [aT,mL,mL]
 rcases h with rfl|rfl<;>rfl
theorem aB4{op:Int}(h:5 <= op /\ op <= 17)(x y:aH):aP (.mk op 0 aK [x,y])=aH3 (cV op 0 x.op) (aP x)++([32]++iW op++[32])++aH3 (cV op 1 y.op) (aP y):=by
 rw [aP,dP,dP,dP]
 unfold iX
 have hs:=qB h
 rw [if_neg J,if_neg J,if_neg J,if_neg J,if_pos hs]
 simp [aH3]
theorem uI{op:Int}(h:5 <= op /\ op <= 17)(x y:aH):aT (.mk op 0 aK [x,y])=dAe (cV op 0 x.op) (aT x)++sgn (iW op)::dAe (cV op 1 y.op) (aT y):=by
 rw [aT,mL,mL,mL]
 unfold aM3
 rw [if_neg J,if_neg J,if_neg J,if_neg J]
 rfl
theorem aJb{op:Int}(h:op=3∨op=4)(x:aH):dI (.mk op 0 aK [x])=(dI x+if cV op 0 x.op then 1 else 0)+1:=by
 rw [dI,bSm,bSm]
 have hs:aM op=5:=by rcases h with rfl|rfl<;>rfl
 rw [if_pos hs];omega
theorem aGo{op:Int}(h:5 <= op /\ op <= 17)(x y:aH):dI (.mk op 0 aK [x,y])=max (dI x+if cV op 0 x.op then 1 else 0) (dI y+if cV op 1 y.op then 1 else 0):=by
 rw [dI,bSm,bSm,bSm]
 have hs:=qB h
 rw [if_neg (show ¬aM op=5 by omega),Nat.zero_add];omega
def Sta(r:List UInt8):Prop:=∃c q,r=c::q /\ c≠61 /\ c≠38 /\ c≠124 /\ c≠47
theorem Sta.app{r:List UInt8}(h:Sta r)(s:List UInt8):Sta (r++s):=by
 obtain ⟨c,q,rfl,h1⟩:=h
 exact ⟨c,q++s,Y,h1⟩
theorem aIg{c:UInt8}(h:cT c=true)(q:List UInt8):Sta (c::q):=by
 refine ⟨c,q,Y,?_,?_,?_,?_⟩<;>(rintro rfl;revert h;decide)
theorem aIa{b:Bool}{t:List UInt8}(h:Sta t):Sta (aH3 b t):=by
 cases b
 ·exact h
 exact ⟨40,t++[41],Y,V,V,V,V⟩
theorem VE.sta{e:aH}(h:VE e):Sta (aP e):=by
 induction h with
 |num n h=>
  rw [wE]
  obtain ⟨c,q,he⟩:=List.exists_cons_of_ne_nil (aBi n)
  rw [he]
  exact aIg (by unfold cT;rw [zI n c Hi];simp) q
 |name s h=>
  rw [zB]
  unfold bQ at h
  split at h
  ·cases h
  ·rename_i c q he
   simp only [Bool.and_eq_true] at h
   rw [he]
   exact aIg (by unfold cT;rw [h.1.1.1];rfl) q
 |un op x h hx ih=>
  rw [aFl h]
  rcases h with rfl|rfl
  ·exact ⟨45,_,Y,V,V,V,V⟩
  ·exact ⟨33,_,Y,V,V,V,V⟩
 |bin op x y h hx hy ihx ihy=>
  rw [aB4 h,append_assoc]
  exact (aIa ihx).app _
theorem aJu:∀x,x∈fE -> x.getD 1 0=61∨x.getD 1 0=38∨x.getD 1 0=124:=V
theorem Lx.pre{r:List UInt8}{ps:List PT}(h:Lx r ps)(c:UInt8)(hc:c∈dW)(hr:Sta r):Lx (c::r) (sgn [c]::ps):=by
 obtain ⟨d,q,rfl,h1,h2,h3,h4⟩:=hr
 refine h.one c hc λd' hd=>?_
 cases hd
 refine ⟨λhm=>?_,λh5=>h4 h5.2⟩
 rcases aJu _ hm with h5|h5|h5
 ·exact h1 h5
 ·exact h2 h5
 exact h3 h5
theorem Lx.oper{r:List UInt8}{ps:List PT}(h:Lx r ps){op:Int}(ho:5 <= op /\ op <= 17):Lx ([32]++iW op++[32]++r) (sgn (iW op)::ps):=by
 have h1:=h.bl
 have hf:Fin (32::r):=Fin.cons V
 rcases aDy ho with rfl|rfl|rfl|rfl|rfl|rfl|rfl|rfl|rfl|rfl|rfl|rfl|rfl
 ·exact (h1.one' 42 V hf).bl
 ·exact (h1.one' 47 V hf).bl
 ·exact (h1.one' 37 V hf).bl
 ·exact (h1.one' 43 V hf).bl
 ·exact (h1.one' 45 V hf).bl
 ·exact (h1.one' 60 V hf).bl
 ·exact (h1.two 60 61 V).bl
 ·exact (h1.one' 62 V hf).bl
 ·exact (h1.two 62 61 V).bl
 ·exact (h1.two 61 61 V).bl
 ·exact (h1.two 33 61 V).bl
 ·exact (h1.two 38 38 V).bl
 exact (h1.two 124 124 V).bl
theorem VE.lx{e:aH}(h:VE e):∀(r:List UInt8)(ps:List PT),Fin r -> Lx r ps -> Lx (aP e++r) (aT e++ps):=by
 have par:∀(b:Bool)(x:aH),VE x -> (∀(r:List UInt8)(ps:List PT),Fin r -> Lx r ps -> Lx (aP x++r) (aT x++ps)) -> ∀(r:List UInt8)(ps:List PT),Fin r -> Lx r ps -> Lx (aH3 b (aP x)++r) (dAe b (aT x)++ps):=by
  intro b x hx ih r ps hf hr
  cases b with
  |false=>exact ih r ps hf hr
  |true=>
   have h1:=(ih (41::r) (sgn [41]::ps) (Fin.cons V) (hr.free 41 V)).free 40 V
   simpa [aH3,dAe] using h1
 induction h with
 |num n h=>intro r ps hf hr;rw [wE,uO];exact hr.num n h hf.nam
 |name s h=>intro r ps hf hr;rw [zB,sC];exact hr.name s h hf.nam
 |un op x h hx ih=>
  intro r ps hf hr
  rw [aFl h,yB h]
  have h1:=par (cV op 0 x.op) x hx ih r ps hf hr
  have h2:=(aIa (b:=cV op 0 x.op) hx.sta).app r
  rcases h with rfl|rfl
  ·exact h1.pre 45 V h2
  ·exact h1.pre 33 V h2
 |bin op x y h hx hy ihx ihy=>
  intro r ps hf hr
  rw [aB4 h,uI h]
  have h1:=(par (cV op 1 y.op) y hy ihy r ps hf hr).oper h
  have h2:=par (cV op 0 x.op) x hx ihx _ _ (Fin.cons V) h1
  simpa using h2
def Seg(l:List Tok)(k:Nat)(ps:List PT):Prop:=ps <+:(l.map Tok.pt).drop k
theorem Seg.app{l:List Tok}{k:Nat}{a b:List PT}(h:Seg l k (a++b)):Seg l k a /\ Seg l (k+a.length) b:=by
 obtain ⟨t,ht⟩:=h
 refine ⟨⟨b++t,by rw [←ht,append_assoc]⟩,⟨t,?_⟩⟩
 rw [←List.drop_drop,←ht,append_assoc,List.drop_left]
theorem Seg.head{l:List Tok}{k:Nat}{t:PT}{ps:List PT}(h:Seg l k (t::ps)):(bU l k).pt=t /\ k<l.length /\ Seg l (k+1) ps:=by
 obtain ⟨q,ht⟩:=h
 have h1:(l.map Tok.pt).drop k=t::(ps++q):=ht.symm
 have hk:k<l.length:=by
  rcases Nat.lt_or_ge k l.length with h2|h2
  ·exact h2
  rw [List.drop_eq_nil_of_le B4] at h1;cases h1
 have h2:=List.drop_eq_getElem_cons (l:=l.map Tok.pt) (i:=k) Cz
 rw [h2] at h1
 injection h1 with h3 h4
 refine ⟨by rw [bG hk];simpa using h3,hk,⟨q,h4.symm⟩⟩
theorem pX{l:List Tok}{k:Nat}{s:List UInt8}(h:(bU l k).pt=sgn s):(bU l k).kind=4 /\ (bU l k).text=bytes s:=by
 have h1:=congrArg PT.kind h
 have h2:=congrArg PT.text h
 exact ⟨h1,h2⟩
theorem gK{l:List Tok}{k:Nat}{s:List UInt8}(h:(bU l k).pt=sgn s)(u:List UInt8):cS l k u=decide (bytes s=bytes u):=by
 obtain ⟨h1,h2⟩:=pX h
 unfold cS;rw [h1,h2];simp
def Fol(l:List Tok)(k m:Nat):Prop:=¬((bU l k).kind=4 /\ m <= (binOp (bU l k).text).2)
theorem Fol.mono{l:List Tok}{k m n:Nat}(h:Fol l k m)(hn:m <= n):Fol l k n:=λhh=>h ⟨hh.1,J⟩
theorem aAb{l:List Tok}{k m:Nat}{s:List UInt8}(h:(bU l k).pt=sgn s)(hs:(binOp (bytes s)).2<m):Fol l k m:=by
 rintro ⟨_,h2⟩
 rw [(pX h).2] at h2;omega
section
variable {l:List Tok}
structure Reads (l:List Tok) (e:aH):Prop where
 single:∀d k,dI e <= d -> Seg l k (aT e) -> 5 <= aM e.op -> bL l d k=.ok e (k+(aT e).length)
 bin:∀d k j,dI e <= d -> Seg l k (aT e) -> j <= 5 -> 5 <= aM e.op+j -> Fol l (k+(aT e).length) (6-j) -> gS l (bL l d) j k=.ok e (k+(aT e).length)
 chain:∀d k j,dI e <= d -> Seg l k (aT e) -> j<5 -> 5 <= aM e.op+(j+1) -> Fol l (k+(aT e).length) (6-j) -> ∃a k0 m,gS l (bL l d) j k=.ok a k0 /\ m <= (aT e).length /\ ∀n,fR l (gS l (bL l d) j) (5-j) (m+n) a k0=fR l (gS l (bL l d) j) (5-j) n e (k+(aT e).length)
theorem Reads.par{x:aH}(h:Reads l x)(b:Bool)(d k:Nat)(hb:b=false -> 5 <= aM x.op)(hd:(dI x+if b then 1 else 0) <= d)(hs:Seg l k (dAe b (aT x))):bL l d k=.ok x (k+(dAe b (aT x)).length):=by
 cases b with
 |false=>exact h.single d k (by simpa using hd) hs (hb rfl)
 |true=>
  simp only [if_true] at hd
  obtain ⟨d,rfl⟩:∃d',d=d'+1:=⟨d-1,J⟩
  have hs':Seg l k (sgn [40]::(aT x++[sgn [41]])):=hs
  obtain ⟨h1,hk,h2⟩:=hs'.head
  obtain ⟨h3,h4⟩:=h2.app
  obtain ⟨h5,hk5,_⟩:=h4.head
  have hkd:=(pX h1).1
  unfold bL
  rw [hkd,if_neg V,if_neg V,gK h1,gK h1,gK h1,if_neg V,if_neg V,if_pos V]
  rw [h.bin d (k+1) 5 J h3 (Nat.le_refl _) J (aAb h5 V)]
  show (if cS l _ [41] then _ else _)=_
  rw [gK h5,if_pos V]
  congr 1
  simp [dAe];omega
theorem Reads.of{e:aH}(single:∀d k,dI e <= d -> Seg l k (aT e) -> 5 <= aM e.op -> bL l d k=.ok e (k+(aT e).length))
  (step:∀d k j,dI e <= d -> Seg l k (aT e) -> j<5 -> aM e.op+j=4 -> Fol l (k+(aT e).length) (6-j) -> ∃a k0 m,gS l (bL l d) j k=.ok a k0 /\ m <= (aT e).length /\ ∀n,fR l (gS l (bL l d) j) (5-j) (m+n) a k0=fR l (gS l (bL l d) j) (5-j) n e (k+(aT e).length)):Reads l e:=by
 have bin:∀j d k,dI e <= d -> Seg l k (aT e) -> j <= 5 -> 5 <= aM e.op+j -> Fol l (k+(aT e).length) (6-j) -> gS l (bL l d) j k=.ok e (k+(aT e).length):=by
  intro j
  induction j with
  |zero=>intro d k hd hs _ h5 hf;exact single d k hd hs J
  |succ j ih=>
   intro d k hd hs hj h5 hf
   by_cases h6:5 <= aM e.op+j
   ·unfold gS
    rw [ih d k hd hs J h6 (hf.mono J)]
    show fR l _ (5-j) (l.length+1) _ _=_
    unfold fR
    rw [if_neg]
    rintro ⟨h1,h2⟩
    exact hf ⟨h1,J⟩
   obtain ⟨a,k0,m,h1,h2,h3⟩:=step d k j hd hs J J (hf.mono J)
   have hl:(aT e).length <= l.length:=by
    obtain ⟨t,ht⟩:=hs
    have:=congrArg List.length ht
    simp at this;omega
   unfold gS
   rw [h1]
   show fR l _ (5-j) (l.length+1) _ _=_
   have:=h3 (l.length-m+1)
   rw [show m+(l.length-m+1)=l.length+1 by omega] at this
   rw [this]
   unfold fR
   rw [if_neg]
   rintro ⟨h1,h2⟩
   exact hf ⟨h1,J⟩
 refine ⟨single,λd k j hd hs hj h5 hf=>bin j d k hd hs hj h5 hf,λd k j hd hs hj h5 hf=>?_⟩
 by_cases h6:5 <= aM e.op+j
 ·exact ⟨e,_,0,bin j d k hd hs J h6 hf,J,λn=>by rw [Nat.zero_add]⟩
 exact step d k j hd hs hj J hf
end
end
section
def nmT(s:ByteArray):PT:=⟨1,s,0⟩
def nuT(n:Nat):PT:=⟨2,bytes (cO n),n⟩
def VX(e:aH):Prop:=VE e /\ dI e <= 24
inductive VR:cY -> Prop where
 |one (n:ByteArray) (h:bQ n=true):VR ⟨n,[]⟩
 |el (n:ByteArray) (e:aH) (h:bQ n=true) (he:VX e):VR ⟨n,[e]⟩
inductive VA:eN -> Prop where
 |mutex (r:cY) (h:VR r):VA ⟨true,r,.zero⟩
 |expr (e:aH) (h:VX e):VA ⟨false,.zero,e⟩
inductive VSs:Nat -> List aJ -> Prop where
 |nil {d:Nat}:VSs d []
 |var {d:Nat} {n:ByteArray} {e:aH} {r:List aJ} (hn:bQ n=true) (he:VX e) (h:VSs d r):VSs d (.mk 1 n e .zero [] [] []::r)
 |assign {d:Nat} {n:ByteArray} {e:aH} {r:List aJ} (hn:bQ n=true) (he:VX e) (h:VSs d r):VSs d (.mk 2 n e .zero [] [] []::r)
 |call {d:Nat} {n:ByteArray} {a:List eN} {r:List aJ} (hn:bQ n=true) (ha:∀x,x∈a -> VA x) (h:VSs d r):VSs d (.mk 3 n .zero .zero a [] []::r)
 |go {d:Nat} {n:ByteArray} {a:List eN} {r:List aJ} (hn:bQ n=true) (ha:∀x,x∈a -> VA x) (h:VSs d r):VSs d (.mk 4 n .zero .zero a [] []::r)
 |lock {d:Nat} {f:cY} {r:List aJ} (hf:VR f) (h:VSs d r):VSs d (.mk 5 aK .zero f [] [] []::r)
 |unlock {d:Nat} {f:cY} {r:List aJ} (hf:VR f) (h:VSs d r):VSs d (.mk 6 aK .zero f [] [] []::r)
 |cond {d:Nat} {e:aH} {t f r:List aJ} (he:VX e) (ht:VSs d t) (hf:VSs d f) (h:VSs (d+1) r):VSs (d+1) (.mk 7 aK e .zero [] t f::r)
 |loop {d:Nat} {e:aH} {t r:List aJ} (he:VX e) (ht:VSs d t) (h:VSs (d+1) r):VSs (d+1) (.mk 8 aK e .zero [] t []::r)
 |ret {d:Nat} {r:List aJ} (h:VSs d r):VSs d (.mk 9 aK .zero .zero [] [] []::r)
def hY(r:cY):List PT:=match r.index with|[]=>[nmT r.name]|e::_=>nmT r.name::sgn [91]::(aT e++[sgn [93]])
def wH(a:eN):List PT:=if a.mutex then wrd [109,117,116,101,120]::hY a.ref else aT a.expr
def fZ{α:Type}(f:α -> List PT):List α -> List PT
 |[]=>[]
 |x::r=>f x++(r.map λy=>sgn [44]::f y).flatten
theorem nW{α:Type}(f:α -> List PT)(x y:α)(r:List α):fZ f (x::y::r)=f x++sgn [44]::fZ f (y::r):=by simp [fZ]
theorem aHu{α:Type}(f:α -> List UInt8)(x y:α)(r:List α):bW f (x::y::r)=f x++[44,32]++bW f (y::r):=FE
def iG(l:List eN):List PT:=sgn [40]::(fZ wH l++[sgn [41]])
mutual
def cE:aJ -> List PT
 |.mk kind name expr ref args thn els=>
  (if kind=1 then wrd [118,97,114]::nmT name::sgn [61]::(aT expr++[sgn [59]])
   else if kind=2 then nmT name::sgn [61]::(aT expr++[sgn [59]])
   else if kind=3 then nmT name::(iG args++[sgn [59]])
   else if kind=4 then wrd [103,111]::nmT name::(iG args++[sgn [59]])
   else if kind=5 then wrd [108,111,99,107]::(hY ref++[sgn [59]])
   else if kind=6 then wrd [117,110,108,111,99,107]::(hY ref++[sgn [59]])
   else if kind=7∨kind=8 then
    (if kind=8 then wrd [119,104,105,108,101] else wrd [105,102])::(aT expr++sgn [123]::(aQ thn++sgn [125]::
     (if els.length=0 then [] else wrd [101,108,115,101]::sgn [123]::(aQ els++[sgn [125]]))))
   else [wrd [114,101,116,117,114,110],sgn [59]])
def aQ:List aJ -> List PT
 |[]=>[]
 |s::r=>cE s++aQ r
end
theorem aIf{l r:List UInt8}(h:l≠[])(hr:uL l):uL (l++r):=by
 obtain ⟨c,q,rfl⟩:=List.exists_cons_of_ne_nil h
 intro d hd
 obtain rfl:c=d:=by simpa using hd
 exact hr _ Y
section
variable {r:List UInt8}{ps:List PT}
theorem VX.lx{e:aH}(h:VX e)(hf:Fin r)(hr:Lx r ps):Lx (aP e++r) (aT e++ps):=h.1.lx r ps hf hr
theorem VR.lx{f:cY}(h:VR f)(hf:Fin r)(hr:Lx r ps):Lx (dC f++r) (hY f++ps):=by
 cases h with
 |one n h=>exact hr.name n h hf.nam
 |el n e h he=>
  have h1:=((he.lx (Fin.cons (c:=93) V) (hr.free 93 V)).free 91 V).name n h (.cons V)
  simpa [dC,hY,nmT] using h1
theorem VA.lx{a:eN}(h:VA a)(hf:Fin r)(hr:Lx r ps):Lx (dE a++r) (wH a++ps):=by
 cases h with
 |mutex f h=>exact (h.lx hf hr).bl.word [109,117,116,101,120] V (.cons V)
 |expr e h=>exact h.lx hf hr
theorem yR{α:Type}{fT:α -> List UInt8}{fK:α -> List PT}:∀(l:List α),(∀x,x∈l -> ∀(r:List UInt8)(ps:List PT),Fin r -> Lx r ps -> Lx (fT x++r) (fK x++ps)) -> Fin r -> Lx r ps -> Lx (bW fT l++r) (fZ fK l++ps)
 |[],_,_,hr=>hr
 |[x],h,hf,hr=>by simpa [bW,fZ] using h x (List.mem_cons_self ..) r ps hf hr
 |x::y::q,h,hf,hr=>by
  have h1:=((yR (y::q) (λz hz=>h z (List.mem_cons_of_mem _ hz)) hf hr).bl.free 44 V)
  have h2:=h x (List.mem_cons_self ..) _ _ (Fin.cons V) h1
  rw [aHu,nW]
  simpa using h2
theorem aIr{l:List eN}(h:∀x,x∈l -> VA x)(hr:Lx r ps):Lx (dF l++r) (iG l++ps):=by
 have h1:=(yR (fT:=dE) (fK:=wH) l (λx hx r ps hf hr=>(h x hx).lx hf hr) (Fin.cons (c:=41) V) (hr.free 41 V)).free 40 V
 simpa [dF,iG] using h1
theorem kG{t:List UInt8}(ht:∀c∈t,isSp c=true)(hr:Lx r ps):Lx (t++r) ps:=by
 induction t with
 |nil=>exact hr
 |cons c q ih=>exact (ih λd hd=>ht d (List.mem_cons_of_mem _ hd)).sp (ht c (List.mem_cons_self ..))
theorem Lx.nl(h:Lx r ps):Lx (10::r) ps:=h.sp V
theorem Lx.semi(h:Lx r ps):Lx (59::10::r) (sgn [59]::ps):=h.nl.free 59 V
theorem Lx.kw(h:Lx r ps)(s:List UInt8)(hs:dA (bytes s)=true):Lx (s++32::r) (wrd s::ps):=h.bl.word s hs (.cons V)
end
theorem VSs.lx{d:Nat}{l:List aJ}(h:VSs d l):∀(tabs r:List UInt8)(ps:List PT),(∀c∈tabs,isSp c=true) -> Lx r ps -> Lx (aC tabs l++r) (aQ l++ps):=by
 have f59:∀q,Fin (59::q):=λq=>Fin.cons V
 induction h with
 |nil=>intro tabs r ps _ hr;exact hr
 |@var d n e q hn he h ih=>
  intro tabs r ps ht hr
  have h0:=ih tabs r ps ht hr
  have h1:=((((he.lx (f59 _) h0.semi).bl.one' 61 V (Fin.cons V)).bl.name n hn (.cons V)).kw [118,97,114] V)
  simpa [aC,bY,aQ,cE,nmT] using kG ht h1
 |@assign d n e q hn he h ih=>
  intro tabs r ps ht hr
  have h0:=ih tabs r ps ht hr
  have h1:=(((he.lx (f59 _) h0.semi).bl.one' 61 V (Fin.cons V)).bl.name n hn (.cons V))
  simpa [aC,bY,aQ,cE,nmT] using kG ht h1
 |@call d n a q hn ha h ih=>
  intro tabs r ps ht hr
  have h0:=ih tabs r ps ht hr
  have h1:=((aIr ha h0.semi).name n hn (aIf (by simp [dF]) Hd))
  simpa [aC,bY,aQ,cE,nmT] using kG ht h1
 |@go d n a q hn ha h ih=>
  intro tabs r ps ht hr
  have h0:=ih tabs r ps ht hr
  have h1:=(((aIr ha h0.semi).name n hn (aIf (by simp [dF]) Hd)).kw [103,111] V)
  simpa [aC,bY,aQ,cE,nmT] using kG ht h1
 |@lock d f q hf h ih=>
  intro tabs r ps ht hr
  have h0:=ih tabs r ps ht hr
  have h1:=((hf.lx (f59 _) h0.semi).kw [108,111,99,107] V)
  simpa [aC,bY,aQ,cE,nmT] using kG ht h1
 |@unlock d f q hf h ih=>
  intro tabs r ps ht hr
  have h0:=ih tabs r ps ht hr
  have h1:=((hf.lx (f59 _) h0.semi).kw [117,110,108,111,99,107] V)
  simpa [aC,bY,aQ,cE,nmT] using kG ht h1
 |@cond d e t f q he htt hff h iht ihf ih=>
  intro tabs r ps ht hr
  have h0:=(ih tabs r ps ht hr).nl
  have ht2:∀c∈tabs++[9],isSp c=true:=by
   intro c hc
   rcases mem_append.1 hc with hc|hc
   ·exact ht c hc
   simp at hc;subst hc;decide
  have h2:Lx ((if f.length=0 then [] else [32,101,108,115,101,32,123,10]++aC (tabs++[9]) f++tabs++[125])++10::(aC tabs q++r)) ((if f.length=0 then [] else wrd [101,108,115,101]::sgn [123]::(aQ f++[sgn [125]]))++(aQ q++ps)):=by
   by_cases hz:f.length=0
   ·rw [if_pos hz,if_pos hz];exact h0
   rw [if_neg hz,if_neg hz]
   have h3:=((ihf (tabs++[9]) _ _ ht2 (kG ht (h0.free 125 V))).nl.free 123 V).kw [101,108,115,101] V
   simpa using h3.bl
  have h4:=((iht (tabs++[9]) _ _ ht2 (kG ht (h2.free 125 V))).nl.free 123 V).bl
  have h5:=(he.lx (Fin.cons V) h4).kw [105,102] V
  have h6:=kG ht h5
  rw [aC,bY,aQ,cE]
  simpa using h6
 |@loop d e t q he htt h iht ih=>
  intro tabs r ps ht hr
  have h0:=(ih tabs r ps ht hr).nl
  have ht2:∀c∈tabs++[9],isSp c=true:=by
   intro c hc
   rcases mem_append.1 hc with hc|hc
   ·exact ht c hc
   simp at hc;subst hc;decide
  have h4:=((iht (tabs++[9]) _ _ ht2 (kG ht (h0.free 125 V))).nl.free 123 V).bl
  have h5:=(he.lx (Fin.cons V) h4).kw [119,104,105,108,101] V
  have h6:=kG ht h5
  rw [aC,bY,aQ,cE]
  simpa using h6
 |@ret d q h ih=>
  intro tabs r ps ht hr
  have h0:=ih tabs r ps ht hr
  have h1:=h0.semi.word [114,101,116,117,114,110] V (.cons V)
  simpa [aC,bY,aQ,cE,nmT] using kG ht h1
section
variable {l:List Tok}{k:Nat}
theorem Seg.len{ps:List PT}(h:Seg l k ps)(hk:k <= l.length):k+ps.length <= l.length:=by
 obtain ⟨t,ht⟩:=h
 have:=congrArg List.length ht
 simp at this;omega
theorem xY{s:List UInt8}(h:(bU l k).pt=wrd s)(u:List UInt8):dN l k u=decide (bytes s=bytes u):=by
 have h1:(bU l k).kind=3:=congrArg PT.kind h
 have h2:(bU l k).text=bytes s:=congrArg PT.text h
 unfold dN;rw [h1,h2];simp
theorem yE{t:PT}(h:(bU l k).pt=t)(ht:t.kind≠3)(u:List UInt8):dN l k u=false:=by
 have h1:(bU l k).kind=t.kind:=congrArg PT.kind h
 unfold dN;rw [h1,decide_eq_false ht];rfl
def aGb(t:PT):Prop:=t.kind=1∨t.kind=2∨∃c,t=sgn [c] /\ c∈([45,33,40]:List UInt8)
theorem aGb.word{t:PT}(h:aGb t):t.kind≠3:=by
 rcases h with h|h|⟨c,rfl,_⟩
 ·omega
 ·omega
 show (4:Nat)≠3;omega
theorem VE.beg{e:aH}(h:VE e):∃t q,aT e=t::q /\ aGb t:=by
 induction h with
 |num n h=>exact ⟨_,_,uO n,.inr (.inl rfl)⟩
 |name s h=>exact ⟨_,_,sC s,.inl rfl⟩
 |un op x h hx ih=>
  refine ⟨_,_,yB h x,.inr (.inr ⟨_,Y,?_⟩)⟩
  rcases h with rfl|rfl<;>decide
 |bin op x y h hx hy ihx ihy=>
  rw [uI h]
  cases cV op 0 x.op with
  |true=>exact ⟨_,_,rfl,.inr (.inr ⟨40,rfl,V⟩)⟩
  |false=>
   obtain ⟨t,q,h1,h2⟩:=ihx
   exact ⟨t,_,by show aT x++_=_;rw [h1];rfl,h2⟩
theorem VA.beg{a:eN}(h:VA a):∃t q,wH a=t::q /\ (t.kind=3∨aGb t):=by
 cases h with
 |mutex f h=>exact ⟨_,_,rfl,.inl rfl⟩
 |expr e h=>
  obtain ⟨t,q,h1,h2⟩:=h.1.beg
  exact ⟨t,q,h1,.inr h2⟩
end
end
section
section
variable {l:List Tok}
def aNb(t:PT):Prop:=t.kind=1∨∃s,t=wrd s /\ decide (bytes s=bytes [101,108,115,101])=false
theorem aNb.els{t:PT}{k:Nat}(h:aNb t)(ht:(bU l k).pt=t):dN l k [101,108,115,101]=false:=by
 rcases h with h|⟨u,rfl,hu⟩
 ·exact yE ht J _
 rw [xY ht];exact hu
theorem VSs.beg{d:Nat}{s:aJ}{r:List aJ}(h:VSs d (s::r)):∃t q,cE s=t::q /\ aNb t:=by
 cases h with
 |var|go|lock|unlock|ret|loop|cond=>exact ⟨_,_,by rw [cE];rfl,.inr ⟨_,rfl,V⟩⟩
 |assign|call=>exact ⟨_,_,by rw [cE];rfl,.inl rfl⟩
theorem VSs.tail{d:Nat}{s:aJ}{r:List aJ}(h:VSs d (s::r)):VSs d r:=by cases h<;>assumption
end
end
section
inductive fF where
 |glob (g:aI)
 |mtx (m:cL)
 |fn (f:bS)
def VG(g:aI):Prop:=bQ g.name=true /\ g.init.natAbs <= 9223372036854775807
def VM(m:cL):Prop:=bQ m.name=true /\ 0 <= m.size /\ m.size <= 64 /\ (m.reentrant=true -> m.size=0)
def VF(f:bS):Prop:=bQ f.name=true /\ f.params.length <= 6 /\ (∀x,x∈f.params -> bQ x.name=true) /\ VSs 23 f.body
def fF.ok:fF -> Prop
 |.glob g=>VG g
 |.mtx m=>VM m
 |.fn f=>VF f
def fF.text:fF -> List UInt8
 |.glob g=>aU g
 |.mtx m=>bE m
 |.fn f=>funcText f
def bEr(g:aI):List PT:=wrd [118,97,114]::nmT g.name::((if g.init=0 then [] else sgn [61]::(if g.init<0 then [sgn [45],nuT g.init.natAbs] else [nuT g.init.natAbs]))++[sgn [59]])
def gT(m:cL):List PT:=(if m.reentrant then wrd [114,109,117,116,101,120] else wrd [109,117,116,101,120])::nmT m.name::((if 0<m.size then [sgn [91],nuT m.size.natAbs,sgn [93]] else [])++[sgn [59]])
def lQ(x:aS):List PT:=(if x.mutex then [wrd [109,117,116,101,120]] else [])++[nmT x.name]
def kA(f:bS):List PT:=wrd [102,117,110,99]::nmT f.name::sgn [40]::(fZ lQ f.params++sgn [41]::sgn [123]::(aQ f.body++[sgn [125]]))
def fF.toks:fF -> List PT
 |.glob g=>bEr g
 |.mtx m=>gT m
 |.fn f=>kA f
def fF.add(x:cK):fF -> cK
 |.glob g=>{x with globals:=x.globals++[g]}
 |.mtx m=>{x with mutexes:=x.mutexes++[m]}
 |.fn f=>{x with funcs:=x.funcs++[f]}
section
variable {r:List UInt8}{ps:List PT}
theorem VG.lx{g:aI}(h:VG g)(hr:Lx r ps):Lx (aU g++r) (bEr g++ps):=by
 obtain ⟨hn,hi⟩:=h
 unfold aU bEr
 by_cases h0:g.init=0
 ·rw [if_pos h0,if_pos h0]
  have h1:=(hr.semi.name g.name hn (.cons V)).kw [118,97,114] V
  simpa [nmT] using h1
 rw [if_neg h0,if_neg h0]
 have h1:=hr.semi.num g.init.natAbs hi (.cons V)
 have hsta:Sta (cO g.init.natAbs++59::10::r):=by
  have:=(VE.num g.init.natAbs hi).sta
  rw [wE] at this
  exact this.app _
 unfold eH
 by_cases hneg:g.init<0
 ·rw [if_pos hneg,if_pos hneg]
  have h2:=(((h1.pre 45 V hsta).bl.one' 61 V (Fin.cons V)).bl.name g.name hn (.cons V)).kw [118,97,114] V
  simpa [nmT,nuT] using h2
 rw [if_neg hneg,if_neg hneg]
 have h2:=((h1.bl.one' 61 V (Fin.cons V)).bl.name g.name hn (.cons V)).kw [118,97,114] V
 simpa [nmT,nuT] using h2
theorem VM.lx{m:cL}(h:VM m)(hr:Lx r ps):Lx (bE m++r) (gT m++ps):=by
 obtain ⟨hn,h0,h1,h2⟩:=h
 have key:Lx (m.name.data.toList++(if 0<m.size then [91]++eH m.size++[93] else [])++[59,10]++r) (nmT m.name::((if 0<m.size then [sgn [91],nuT m.size.natAbs,sgn [93]] else [])++[sgn [59]])++ps):=by
  by_cases hp:0<m.size
  ·rw [if_pos hp,if_pos hp]
   have h3:=(((hr.semi.free 93 V).num m.size.natAbs J (.cons V)).free 91 V).name m.name hn (.cons V)
   unfold eH
   rw [if_neg J]
   simpa [nmT,nuT] using h3
  rw [if_neg hp,if_neg hp]
  have h3:=hr.semi.name m.name hn (.cons V)
  simpa [nmT] using h3
 unfold bE gT
 cases hre:m.reentrant with
 |true=>
  have:=key.kw [114,109,117,116,101,120] V
  simpa using this
 |false=>
  have:=key.kw [109,117,116,101,120] V
  simpa using this
theorem aNk{x:aS}(h:bQ x.name=true)(hf:Fin r)(hr:Lx r ps):Lx (bX x++r) (lQ x++ps):=by
 unfold bX lQ
 have h1:=hr.name x.name h hf.nam
 cases x.mutex with
 |true=>
  have h2:=h1.kw [109,117,116,101,120] V
  simpa [nmT] using h2
 |false=>simpa [nmT] using h1
theorem VF.lx{f:bS}(h:VF f)(hr:Lx r ps):Lx (funcText f++r) (kA f++ps):=by
 obtain ⟨hn,h0,h1,h2⟩:=h
 have h3:=((h2.lx [9] _ _ V (hr.nl.free 125 V)).nl.free 123 V).bl.free 41 V
 have h4:=((yR (fT:=bX) (fK:=lQ) f.params (λx hx r ps hf hr=>aNk (h1 x hx) hf hr) (Fin.cons V) h3).free 40 V).name f.name hn (.cons V)
 have h5:=h4.kw [102,117,110,99] V
 unfold funcText kA
 simpa [nmT] using h5
theorem fF.lx{x:fF}(h:x.ok)(hr:Lx r ps):Lx (x.text++r) (x.toks++ps):=by
 cases x with
 |glob g=>exact VG.lx h hr
 |mtx m=>exact VM.lx h hr
 |fn f=>exact VF.lx h hr
theorem uR:∀(ds:List fF),(∀x,x∈ds -> x.ok) -> Lx r ps -> Lx ((ds.map fF.text).flatten++r) ((ds.map fF.toks).flatten++ps)
 |[],_,hr=>hr
 |x::ds,h,hr=>by
  have h1:=fF.lx (h x (List.mem_cons_self ..)) (uR ds (λy hy=>h y (List.mem_cons_of_mem _ hy)) hr)
  simpa using h1
end
section
variable {l:List Tok}
end
def iA(p:cK):List fF:=p.globals.map .glob++(p.mutexes.map .mtx++p.funcs.map .fn)
end
end Go.Proofs.YtjgeihmhppadaaaGreatDoor
