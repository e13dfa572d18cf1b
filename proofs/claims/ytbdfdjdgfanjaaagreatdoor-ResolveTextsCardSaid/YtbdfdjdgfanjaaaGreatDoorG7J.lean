import Derived.Test.YtbdfdjdgfanjaaaGreatDoorM0J
import Derived.Test.YtbdfdjdgfanjaaaGreatDoorG5J
import Derived.Test.YtbdfdjdgfanjaaaGreatDoorG6J
import Derived.Test.YtbdfdjdgfanjaaaGreatDoorG3J
import Derived.Test.YtbdfdjdgfanjaaaGreatDoorProg
import Derived.Test.YtbdfdjdgfanjaaaGreatDoorA1J
import Derived.Test.YtbdfdjdgfanjaaaGreatDoorG1J
set_option linter.all false
set_option synthInstance.maxHeartbeats 1000000
set_option synthInstance.maxSize 1000000
set_option maxHeartbeats 1600000
set_option maxRecDepth 100000
namespace Go.Proofs.YtbdfdjdgfanjaaaGreatDoor
open Go.Proofs.Tryz
open List (length_append length_cons length_nil mem_append mem_cons not_mem_nil append_assoc getElem_mem take_of_length_le)
section
def cY.small(N:Nat)(r:cY):Prop:=r.index.length <= 1 /\ ∀x,x∈r.index -> x.nodes <= N
def eN.small(N:Nat)(a:eN):Prop:=a.ref.small N /\ a.expr.nodes <= N
mutual
def aJ.small(N:Nat):aJ -> Prop
 |.mk _ _ e r a t f=>e.nodes <= N /\ r.small N /\ a.length <= N /\ (∀x,x∈a -> x.small N) /\ t.length <= N /\ smalls N t /\ f.length <= N /\ smalls N f
def smalls(N:Nat):List aJ -> Prop
 |[]=>True
 |s::r=>s.small N /\ smalls N r
end
def bS.small(N:Nat)(f:bS):Prop:=f.params.length <= N /\ f.body.length <= N /\ smalls N f.body
def cK.small(N:Nat)(p:cK):Prop:=p.globals.length <= N /\ p.mutexes.length <= N /\ p.funcs.length <= N /\ ∀f,f∈p.funcs -> f.small N
section
variable {l:List Tok}{N:Nat}(hel:rP l)(h1:1 <= N)(hlN:l.length <= N)(hf:∀k x k',k<l.length -> lJ l k=.ok x k' -> x.nodes <= N)
include hel hf
include h1
omit h1 hf in
omit h1 hf in
include hlN
omit hlN h1 hf hel in
omit hlN hel hf in
omit hlN hel hf in
omit h1 hlN hf in
end
end
section
open Go.RowKit
abbrev aF6(l:List ByteArray):AC:=.sl l.length (l.map λs=>Vs s)
abbrev aEm(l:List Int):AC:=.sl l.length (l.map λn=>Vi n)
theorem aOi(s:Sto):aL prog 121 [nI 0] [] s λt s'=>t=.tup [.c (aF6 (jP 0)),.c (aEm (dS 0))] /\ s'=s:=by
 obtain ⟨bx,rw⟩:=s
 refine acX 23 func121 ?_
 refine go 15 ?_
 refine wcp true Y B7 (go 6 ?_)
 refine wo Y (bDk cQs ?_)
 refine wo Y (bDk zb6 ?_)
 refine go 7 ?_
 exact ⟨.inr Y,_,⟨bx,rw⟩,uM Y (aF Y) (aF Y),aA (.refl _) (.refl _),Y,Y⟩
theorem aOy(s:Sto):aL prog 121 [nI 1] [] s λt s'=>t=.tup [.c (aF6 (jP 1)),.c (aEm (dS 1))] /\ s'=s:=by
 obtain ⟨bx,rw⟩:=s
 refine acX 23 func121 ?_
 refine go 15 ?_
 refine wcp false Y Y (go 6 ?_)
 refine wcp true Y B7 (go 6 ?_)
 refine wo Y (bDk cQs ?_)
 refine wo Y (bDk zb6 ?_)
 refine go 7 ?_
 exact ⟨.inr Y,_,⟨bx,rw⟩,uM Y (aF Y) (aF Y),aA (.refl _) (.refl _),Y,Y⟩
theorem aPo(s:Sto):aL prog 121 [nI 2] [] s λt s'=>t=.tup [.c (aF6 (jP 2)),.c (aEm (dS 2))] /\ s'=s:=by
 obtain ⟨bx,rw⟩:=s
 refine acX 23 func121 ?_
 refine go 15 ?_
 refine wcp false Y Y (go 6 ?_)
 refine wcp false Y Y (go 6 ?_)
 refine wcp true Y B7 (go 6 ?_)
 refine wo Y (wbs Tryz.t9 [Vs ⟨#[]⟩,Vs ⟨#[]⟩,Vs ⟨#[]⟩,Vs ⟨#[]⟩,Vs ⟨#[]⟩,Vs ⟨#[]⟩] Y Y V (.cons Y (.cons Y (.cons Y (.cons Y (.cons Y (.cons Y .nil)))))) underlying33 B6 Y V V B6 B6 Y ?_)
 refine wo Y (wbs Tryz.t3 [Vi 0,Vi 0,Vi 0,Vi 0,Vi 0,Vi 0] Y Y V (.cons Y (.cons Y (.cons Y (.cons Y (.cons Y (.cons Y .nil)))))) underlying22 B6 Y V V B6 B6 Y ?_)
 refine go 7 ?_
 exact ⟨.inr Y,_,⟨bx,rw⟩,uM Y (aF Y) (aF Y),aA (.refl _) (.refl _),Y,Y⟩
theorem aPj(s:Sto):aL prog 121 [nI 3] [] s λt s'=>t=.tup [.c (aF6 (jP 3)),.c (aEm (dS 3))] /\ s'=s:=by
 obtain ⟨bx,rw⟩:=s
 refine acX 23 func121 ?_
 refine go 15 ?_
 refine wcp false Y Y (go 6 ?_)
 refine wcp false Y Y (go 6 ?_)
 refine wcp false Y Y (go 6 ?_)
 refine wcp true Y B7 (go 6 ?_)
 refine wo Y (bDk (hps:=(.cons Y (.cons Y .nil))) cG8 ?_)
 refine wo Y (wbs Tryz.t3 [Vi 0,Vi 0] Y Y V (.cons Y (.cons Y .nil)) underlying22 B6 Y V V B6 B6 Y ?_)
 refine go 7 ?_
 exact ⟨.inr Y,_,⟨bx,rw⟩,uM Y (aF Y) (aF Y),aA (.refl _) (.refl _),Y,Y⟩
theorem aOe(s:Sto):aL prog 121 [nI 4] [] s λt s'=>t=.tup [.c (aF6 (jP 4)),.c (aEm (dS 4))] /\ s'=s:=by
 obtain ⟨bx,rw⟩:=s
 refine acX 23 func121 ?_
 refine go 15 ?_
 refine wcp false Y Y (go 6 ?_)
 refine wcp false Y Y (go 6 ?_)
 refine wcp false Y Y (go 6 ?_)
 refine wcp false Y Y (go 9 ?_)
 refine wo Y (bDk (hps:=(.cons Y (.cons Y (.cons Y .nil)))) cL1 ?_)
 refine wo Y (wbs Tryz.t3 [Vi 0,Vi 0,Vi 0] Y Y V (.cons Y (.cons Y (.cons Y .nil))) underlying22 B6 Y V V B6 B6 Y ?_)
 refine go 5 ?_
 exact ⟨.inr Y,_,⟨bx,rw⟩,uM Y (aF Y) (aF Y),aA (.refl _) (.refl _),Y,Y⟩
theorem aO6(lv:Nat)(h:lv<5)(s:Sto):aL prog 121 [Ci (lv:Int)] [] s λt s'=>t=.tup [.c (aF6 (jP lv)),.c (aEm (dS lv))] /\ s'=s:=by
 rcases (show lv=0∨lv=1∨lv=2∨lv=3∨lv=4 by omega) with rfl|rfl|rfl|rfl|rfl
 ·exact aOi s
 ·exact aOy s
 ·exact aPo s
 ·exact aPj s
 exact aOe s
end
section
def zJ(n:Nat)(l:List UInt8):Nat:=l.foldl (λn c=>10*n+(c.toNat-48)) n
theorem aEo(n:Nat):zJ n []=n:=rfl
theorem vY(n:Nat)(c:UInt8)(r:List UInt8):zJ n (c::r)=zJ (10*n+(c.toNat-48)) r:=by unfold zJ;rw [List.foldl_cons]
theorem aJ4(l:List UInt8)(c:UInt8)(n:Nat):zJ n (l++[c])=10*zJ n l+(c.toNat-48):=by
 unfold zJ;rw [List.foldl_append];rfl
theorem aEy(k:Nat):cD (UInt8.ofNat (48+k%10))=true:=by
 have hc:(UInt8.ofNat (48+k%10)).toNat=48+k%10:=Dd
 simp only [cD,decide_eq_true_eq,hc];omega
theorem aOv(l:List UInt8):∀n,n <= zJ n l:=by
 induction l with
 |nil=>intro n;exact Nat.le_refl _
 |cons c r ih=>intro n;have:=ih (10*n+(c.toNat-48));rw [vY];omega
theorem aK8(l:List UInt8)(h:∀c∈l,cD c=true):∀n,n <= 9223372036854775807 -> iT n l=if zJ n l <= 9223372036854775807 then some (zJ n l) else none:=by
 induction l with
 |nil=>intro n hn;rw [iT,aEo,if_pos hn]
 |cons c r ih=>
  intro n hn
  have hc:=h c (List.mem_cons_self ..)
  simp only [cD,decide_eq_true_eq] at hc
  rw [iT,vY]
  by_cases ho:(9223372036854775807-(c.toNat-48))/10<n
  ·rw [if_pos ho]
   have:=aOv r (10*n+(c.toNat-48))
   rw [if_neg J]
  rw [if_neg ho,ih (λd hd=>h d (List.mem_cons_of_mem _ hd)) _ J]
theorem aKo(c:UInt8)(h:cD c=true):fU c=false /\ isSp c=false /\ c≠47:=by
 simp only [cD,decide_eq_true_eq] at h
 refine ⟨?_,?_,?_⟩
 ·simp only [fU,decide_eq_false_iff_not];omega
 ·simp only [isSp,decide_eq_false_iff_not];omega
 rintro rfl;revert h;decide
end
section
structure PT where
 kind:Nat
 text:ByteArray
 num:Nat
def Tok.pt(t:Tok):PT:=⟨t.kind,t.text,t.num⟩
def aAa:PT:=⟨5,⟨#[]⟩,0⟩
def sgn(s:List UInt8):PT:=⟨4,bytes s,0⟩
def wrd(s:List UInt8):PT:=⟨3,bytes s,0⟩
inductive Lx:List UInt8 -> List PT -> Prop where
 |nil {s:List UInt8} (h:eY s=[]):Lx s []
 |cons {s r:List UInt8} {kind len num:Nat} {ps:List PT} (h:eY s=r) (h0:r≠[]) (hn:dQ r=.tok kind len num) (ht:Lx (r.drop len) ps):Lx s (⟨kind,bytes (r.take len),num⟩::ps)
theorem Lx.same{s s':List UInt8}{ps:List PT}(h:Lx s ps)(he:eY s'=eY s):Lx s' ps:=by
 cases h with
 |nil h=>exact .nil (he.trans h)
 |cons h h0 hn ht=>exact .cons (he.trans h) h0 hn ht
theorem Lx.sp{c:UInt8}{r:List UInt8}{ps:List PT}(h:Lx r ps)(hc:isSp c=true):Lx (c::r) ps:=h.same (oP hc)
theorem Lx.bl{r:List UInt8}{ps:List PT}(h:Lx r ps):Lx (32::r) ps:=h.sp V
theorem Lx.end:Lx [] []:=.nil lO
theorem aPc{r:List UInt8}{ps:List PT}(h:Lx r ps):∀(s:List UInt8)(k n:Nat),s.drop k=r -> k <= s.length -> n+ps.length <= 4000 -> ∃L,kD s k n=.ok L /\ L.map Tok.pt=ps++[aAa]:=by
 induction h with
 |@nil r h=>
  intro s k n hd hk _
  refine ⟨_,mX (by unfold bF;rw [hd,h];simp),Y⟩
 |@cons r0 r kind len num ps h h0 hn _ ih=>
  intro s k n hd hk hl
  simp only [length_cons] at hl
  have hs:s.drop (bF s k)=r:=by rw [qJ,hd,h]
  have hlt:bF s k<s.length:=by
   rcases Nat.lt_or_ge (bF s k) s.length with h1|h1
   ·exact h1
   rw [List.drop_eq_nil_of_le h1] at hs;exact absurd hs.symm h0
  have hlen:=mS h0 hn
  have hr:r.length=s.length-bF s k:=by rw [←hs,List.length_drop]
  obtain ⟨L,h1,h2⟩:=ih s (bF s k+len) (n+1) (by rw [←List.drop_drop,hs]) J J
  rw [nD hk hlt (by rw [hs];exact hn) J,h1,hs]
  exact ⟨_,Y,by rw [List.map_cons,h2];rfl⟩
theorem aIz{s:List UInt8}{ps:List PT}(h:Lx s ps)(hs:s.length <= 262144)(hp:ps.length <= 4000):∃L,iH s=.ok L /\ L.map Tok.pt=ps++[aAa]:=by
 unfold iH
 rw [if_neg J]
 exact aPc h s 0 0 Y J J
def uL(r:List UInt8):Prop:=∀c,r.head?=some c -> cT c=false
theorem tB{p:UInt8 -> Bool}{l r:List UInt8}(h:∀c∈l,p c=true)(hr:∀c,r.head?=some c -> p c=false):(l++r).takeWhile p=l:=by
 induction l with
 |nil=>
  cases r with
  |nil=>rfl
  |cons c r=>rw [List.nil_append,List.takeWhile_cons_of_neg];rw [hr c rfl];simp
 |cons c l ih=>rw [List.cons_append,List.takeWhile_cons_of_pos (h c (List.mem_cons_self ..)),ih λd hd=>h d (List.mem_cons_of_mem _ hd)]
theorem aCe{c:UInt8}(h:fU c=true):isSp c=false /\ c≠47:=by
 simp only [fU,decide_eq_true_eq] at h
 refine ⟨?_,?_⟩
 ·simp only [isSp,decide_eq_false_iff_not];omega
 rintro rfl;revert h;decide
theorem Lx.letters{s r:List UInt8}{ps:List PT}(h:Lx r ps)(c:UInt8)(q:List UInt8)(hs:s=c::q)(hc:fU c=true)(hq:∀d∈q,cT d=true)(hl:s.length <= 16)(hr:uL r):Lx (s++r) (⟨if dA (bytes s) then 3 else 1,bytes s,0⟩::ps):=by
 subst hs
 have ht:((c::q)++r).takeWhile cT=c::q:=tB (λd hd=>by
  rcases mem_cons.1 hd with rfl|hd
  ·simp [cT,hc]
  exact hq d hd) hr
 have hn:dQ ((c::q)++r)=.tok (if dA (bytes (c::q)) then 3 else 1) (c::q).length 0:=by
  rw [List.cons_append] at ht⊢
  rw [kK hc,ht,if_neg J]
 have:=Lx.cons (s:=(c::q)++r) (r:=(c::q)++r) (iK (r:=q++r) (aCe hc).1 (λh=>(aCe hc).2 h.1)) M hn (ps:=ps) (by rw [List.drop_left];exact h)
 rw [List.take_left] at this
 exact this
theorem aK4(s:ByteArray):bytes s.data.toList=s:=Dn
theorem Lx.name{r:List UInt8}{ps:List PT}(h:Lx r ps)(s:ByteArray)(hs:bQ s=true)(hr:uL r):Lx (s.data.toList++r) (⟨1,s,0⟩::ps):=by
 unfold bQ at hs
 split at hs
 ·cases hs
 rename_i c q he
 simp only [Bool.and_eq_true,List.all_eq_true,decide_eq_true_eq,Bool.not_eq_true'] at hs
 obtain ⟨⟨⟨h1,h2⟩,h3⟩,h4⟩:=hs
 have:=h.letters (s:=s.data.toList) c q he h1 h2 (by exact h3) hr
 rw [aK4,h4] at this
 exact this
theorem aMi:∀x,x∈words -> x.size <= 16 /\ fU (x.data.toList.headD 0)=true /\ (x.data.toList.tail.all cT)=true:=V
theorem Lx.word{r:List UInt8}{ps:List PT}(h:Lx r ps)(s:List UInt8)(hs:dA (bytes s)=true)(hr:uL r):Lx (s++r) (wrd s::ps):=by
 obtain ⟨h1,h2,h3⟩:=aMi _ ((mK _).1 hs)
 have e:(bytes s).data.toList=s:=Dn
 rw [e] at h2 h3
 have e2:(bytes s).size=s.length:=Co
 rw [e2] at h1
 cases s with
 |nil=>exact absurd h2 V
 |cons c q=>
  have:=h.letters (s:=c::q) c q rfl h2 (List.all_eq_true.1 h3) h1 hr
  rw [hs] at this
  exact this
theorem zI(n:Nat):∀c∈cO n,cD c=true:=by
 induction n using cO.induct with
 |case1 n h=>
  rw [cO,if_pos h]
  intro c hc
  simp only [List.mem_singleton] at hc
  subst hc
  have:=aEy n
  rwa [Nat.mod_eq_of_lt h] at this
 |case2 n h ih=>
  rw [cO,if_neg h]
  intro c hc
  rcases mem_append.1 hc with hc|hc
  ·exact ih c hc
  simp only [List.mem_singleton] at hc;subst hc;exact aEy n
theorem aBi(n:Nat):cO n≠[]:=by rw [cO];split<;>simp
theorem aGk(n:Nat):zJ 0 (cO n)=n:=by
 induction n using cO.induct with
 |case1 n h=>
  have hc:(UInt8.ofNat (48+n)).toNat=48+n:=Dd
  rw [cO,if_pos h,vY,aEo,hc];omega
 |case2 n h ih=>
  have hc:(UInt8.ofNat (48+n%10)).toNat=48+n%10:=Dd
  rw [cO,if_neg h,aJ4,ih,hc];omega
theorem Lx.num{r:List UInt8}{ps:List PT}(h:Lx r ps)(n:Nat)(hn:n <= 9223372036854775807)(hr:uL r):Lx (cO n++r) (⟨2,bytes (cO n),n⟩::ps):=by
 obtain ⟨c,q,he⟩:=List.exists_cons_of_ne_nil (aBi n)
 have hd:=zI n
 have hv:=aK8 (cO n) hd 0 J
 rw [aGk,if_pos hn] at hv
 have ht:(cO n++r).takeWhile cD=cO n:=tB hd λc hc=>by
  have:=hr c hc
  unfold cT at this
  simp only [Bool.or_eq_false_iff] at this
  exact this.2
 have hc:=hd c (by rw [he];exact List.mem_cons_self ..)
 have hx:=aKo c hc
 have hnx:dQ (cO n++r)=.tok 2 (cO n).length n:=by
  rw [he,List.cons_append] at ht⊢
  rw [lP hx.1 hc (n:=n) (by rw [ht,←he];exact hv),ht]
 have:=Lx.cons (s:=cO n++r) (r:=cO n++r) (by rw [he];exact iK (r:=q++r) hx.2.1 (λh=>hx.2.2 h.1)) (by rw [he];simp) hnx (ps:=ps) (by rw [List.drop_left];exact h)
 rw [List.take_left] at this
 exact this
theorem aEc:∀c,c∈dW -> fU c=false /\ cD c=false /\ isSp c=false:=V
theorem Lx.one{r:List UInt8}{ps:List PT}(h:Lx r ps)(c:UInt8)(hc:c∈dW)(hr:∀d,r.head?=some d -> [c,d]∉fE /\ ¬(c=47 /\ d=47)):Lx (c::r) (sgn [c]::ps):=by
 obtain ⟨h1,h2,h3⟩:=aEc c hc
 have hno:¬(2 <= (c::r).length /\ (c::r).take 2∈fE):=by
  rintro ⟨h4,h5⟩
  cases r with
  |nil=>simp at h4
  |cons d r=>exact (hr d rfl).1 h5
 have hn:dQ (c::r)=.tok 4 1 0:=by rw [iN h1 h2,oR hno hc];rfl
 exact Lx.cons (iK h3 (λ⟨h4,h5⟩=>(hr 47 h5).2 ⟨h4,Y⟩)) M hn h
theorem aJw:∀x,x∈fE -> fU (x.headD 0)=false /\ cD (x.headD 0)=false /\ isSp (x.headD 0)=false /\ x.headD 0≠47:=V
theorem Lx.two{r:List UInt8}{ps:List PT}(h:Lx r ps)(c d:UInt8)(hc:[c,d]∈fE):Lx (c::d::r) (sgn [c,d]::ps):=by
 obtain ⟨h1,h2,h3,h4⟩:=aJw _ hc
 have hn:dQ (c::d::r)=.tok 4 2 0:=by rw [iN (c:=c) h1 h2,pA (l:=c::d::r) M hc];rfl
 exact Lx.cons (iK h3 (λh5=>h4 h5.1)) M hn h
def Fin(r:List UInt8):Prop:=∀c,r.head?=some c -> c∈([32,41,93,59,44]:List UInt8)
theorem aCs:∀c,c∈([32,41,93,59,44]:List UInt8) -> cT c=false /\ c≠47 /\ ∀d,d∈dW -> [d,c]∉fE:=V
theorem Fin.cons{c:UInt8}{r:List UInt8}(h:c∈([32,41,93,59,44]:List UInt8)):Fin (c::r):=λd hd=>by cases hd;exact h
theorem Fin.nil:Fin []:=λc hc=>by cases hc
theorem uL.cons{c:UInt8}{r:List UInt8}(h:cT c=false):uL (c::r):=λd hd=>by cases hd;exact h
theorem Lx.one'{r:List UInt8}{ps:List PT}(h:Lx r ps)(c:UInt8)(hc:c∈dW)(hr:Fin r):Lx (c::r) (sgn [c]::ps):=
 h.one c hc λd hd=>⟨(aCs d (hr d hd)).2.2 c hc,λh2=>(aCs d (hr d hd)).2.1 h2.2⟩
theorem aL9:∀c,c∈([40,41,123,125,91,93,44,59,43,45,42,37]:List UInt8) -> c∈dW /\ c≠47 /\ ∀x,x∈fE -> x.headD 0≠c:=V
theorem Lx.free{r:List UInt8}{ps:List PT}(h:Lx r ps)(c:UInt8)(hc:c∈([40,41,123,125,91,93,44,59,43,45,42,37]:List UInt8)):Lx (c::r) (sgn [c]::ps):=by
 obtain ⟨h1,h2,h3⟩:=aL9 c hc
 exact h.one c h1 λd _=>⟨λhm=>h3 _ hm Y,λh4=>h2 h4.1⟩
end
section
inductive VE:aH -> Prop where
 |num (n:Nat) (h:n <= 9223372036854775807):VE (.mk 1 n aK [])
 |name (s:ByteArray) (h:bQ s=true):VE (.mk 2 0 s [])
 |un (op:Int) (x:aH) (h:op=3∨op=4) (hx:VE x):VE (.mk op 0 aK [x])
 |bin (op:Int) (x y:aH) (h:5 <= op /\ op <= 17) (hx:VE x) (hy:VE y):VE (.mk op 0 aK [x,y])
def mF(b:Bool)(t:List PT):List PT:=if b then sgn [40]::(t++[sgn [41]]) else t
def aM3(op num:Int)(name:ByteArray)(ts:List (List PT)):List PT:=
 if op=1 then [⟨2,bytes (cO num.natAbs),num.natAbs⟩] else if op=2 then [⟨1,name,0⟩] else if op=3 then sgn [45]::ts.getD 0 [] else if op=4 then sgn [33]::ts.getD 0 [] else
 ts.getD 0 []++sgn (iW op)::ts.getD 1 []
mutual
def aT:aH -> List PT
 |.mk op num name args=>aM3 op num name (mL op 0 args)
def mL(b:Int):Nat -> List aH -> List (List PT)
 |_,[]=>[]
 |k,e::es=>mF (cV b k e.op) (aT e)::mL b (k+1) es
end
theorem aDy{op:Int}(h:5 <= op /\ op <= 17):op=5∨op=6∨op=7∨op=8∨op=9∨op=10∨op=11∨op=12∨op=13∨op=14∨op=15∨op=16∨op=17:=J
theorem qB{op:Int}(h:5 <= op /\ op <= 17):aM op<5:=by
 rcases aDy h with rfl|rfl|rfl|rfl|rfl|rfl|rfl|rfl|rfl|rfl|rfl|rfl|rfl<;>decide
theorem uO(n:Nat):aT (.mk 1 n aK [])=[⟨2,bytes (cO n),n⟩]:=by rw [aT,mL];rfl
theorem sC(s:ByteArray):aT (.mk 2 0 s [])=[⟨1,s,0⟩]:=by rw [aT,mL];rfl
theorem yB{op:Int}(h:op=3∨op=4)(x:aH):aT (.mk op 0 aK [x])=sgn [if op=3 then 45 else 33]::mF (cV op 0 x.op) (aT x):=by
 rw [aT,mL,mL]
 rcases h with rfl|rfl<;>rfl
theorem uI{op:Int}(h:5 <= op /\ op <= 17)(x y:aH):aT (.mk op 0 aK [x,y])=mF (cV op 0 x.op) (aT x)++sgn (iW op)::mF (cV op 1 y.op) (aT y):=by
 rw [aT,mL,mL,mL]
 unfold aM3
 rw [if_neg J,if_neg J,if_neg J,if_neg J]
 rfl
theorem aJb{op:Int}(h:op=3∨op=4)(x:aH):dI (.mk op 0 aK [x])=(dI x+if cV op 0 x.op then 1 else 0)+1:=by
 rw [dI,bSm,bSm]
 have hs:aM op=5:=by rcases h with rfl|rfl<;>rfl
 rw [if_pos hs];omega
theorem aGo{op:Int}(h:5 <= op /\ op <= 17)(x y:aH):dI (.mk op 0 aK [x,y])=max (dI x+if cV op 0 x.op then 1 else 0) (dI y+if cV op 1 y.op then 1 else 0):=by
 rw [dI,bSm,bSm,bSm]
 have hs:=qB h
 rw [if_neg (show ¬aM op=5 by omega),Nat.zero_add];omega
def Sta(r:List UInt8):Prop:=∃c q,r=c::q /\ c≠61 /\ c≠38 /\ c≠124 /\ c≠47
theorem Sta.app{r:List UInt8}(h:Sta r)(s:List UInt8):Sta (r++s):=by
 obtain ⟨c,q,rfl,h1⟩:=h
 exact ⟨c,q++s,Y,h1⟩
def Seg(l:List Tok)(k:Nat)(ps:List PT):Prop:=ps <+:(l.map Tok.pt).drop k
theorem Seg.app{l:List Tok}{k:Nat}{a b:List PT}(h:Seg l k (a++b)):Seg l k a /\ Seg l (k+a.length) b:=by
 obtain ⟨t,ht⟩:=h
 refine ⟨⟨b++t,by rw [←ht,append_assoc]⟩,⟨t,?_⟩⟩
 rw [←List.drop_drop,←ht,append_assoc,List.drop_left]
theorem Seg.head{l:List Tok}{k:Nat}{t:PT}{ps:List PT}(h:Seg l k (t::ps)):(bU l k).pt=t /\ k<l.length /\ Seg l (k+1) ps:=by
 obtain ⟨q,ht⟩:=h
 have h1:(l.map Tok.pt).drop k=t::(ps++q):=ht.symm
 have hk:k<l.length:=by
  rcases Nat.lt_or_ge k l.length with h2|h2
  ·exact h2
  rw [List.drop_eq_nil_of_le B4] at h1;cases h1
 have h2:=List.drop_eq_getElem_cons (l:=l.map Tok.pt) (i:=k) Cz
 rw [h2] at h1
 injection h1 with h3 h4
 refine ⟨by rw [bG hk];simpa using h3,hk,⟨q,h4.symm⟩⟩
theorem pX{l:List Tok}{k:Nat}{s:List UInt8}(h:(bU l k).pt=sgn s):(bU l k).kind=4 /\ (bU l k).text=bytes s:=by
 have h1:=congrArg PT.kind h
 have h2:=congrArg PT.text h
 exact ⟨h1,h2⟩
theorem gK{l:List Tok}{k:Nat}{s:List UInt8}(h:(bU l k).pt=sgn s)(u:List UInt8):cS l k u=decide (bytes s=bytes u):=by
 obtain ⟨h1,h2⟩:=pX h
 unfold cS;rw [h1,h2];simp
def Fol(l:List Tok)(k m:Nat):Prop:=¬((bU l k).kind=4 /\ m <= (binOp (bU l k).text).2)
theorem Fol.mono{l:List Tok}{k m n:Nat}(h:Fol l k m)(hn:m <= n):Fol l k n:=λhh=>h ⟨hh.1,J⟩
theorem aGz{op:Int}(h:5 <= op /\ op <= 17):(binOp (bytes (iW op))).1=op.toNat /\ (binOp (bytes (iW op))).2=aM op+1:=by
 rcases aDy h with rfl|rfl|rfl|rfl|rfl|rfl|rfl|rfl|rfl|rfl|rfl|rfl|rfl<;>decide
theorem aAb{l:List Tok}{k m:Nat}{s:List UInt8}(h:(bU l k).pt=sgn s)(hs:(binOp (bytes s)).2<m):Fol l k m:=by
 rintro ⟨_,h2⟩
 rw [(pX h).2] at h2;omega
theorem wB{l:List Tok}{single:Nat -> bN aH}{k k':Nat}{x:aH}(h:single k=.ok x k'):∀j,j <= 5 -> Fol l k' (6-j) -> gS l single j k=.ok x k'
 |0,_,_=>h
 |j+1,hj,hf=>by
  unfold gS
  rw [wB h j J (hf.mono J)]
  show fR l _ (5-j) (l.length+1) x k'=_
  unfold fR
  rw [if_neg]
  rintro ⟨h1,h2⟩
  exact hf ⟨h1,J⟩
theorem yN{op a:Int}{k:Nat}(h:cV op k a=false):aM op <= aM a /\ (k=1 -> aM op<aM a):=by
 unfold cV at h
 rw [decide_eq_false_iff_not] at h
 omega
section
variable {l:List Tok}
structure Reads (l:List Tok) (e:aH):Prop where
 single:∀d k,dI e <= d -> Seg l k (aT e) -> 5 <= aM e.op -> bL l d k=.ok e (k+(aT e).length)
 bin:∀d k j,dI e <= d -> Seg l k (aT e) -> j <= 5 -> 5 <= aM e.op+j -> Fol l (k+(aT e).length) (6-j) -> gS l (bL l d) j k=.ok e (k+(aT e).length)
 chain:∀d k j,dI e <= d -> Seg l k (aT e) -> j<5 -> 5 <= aM e.op+(j+1) -> Fol l (k+(aT e).length) (6-j) -> ∃a k0 m,gS l (bL l d) j k=.ok a k0 /\ m <= (aT e).length /\ ∀n,fR l (gS l (bL l d) j) (5-j) (m+n) a k0=fR l (gS l (bL l d) j) (5-j) n e (k+(aT e).length)
theorem Reads.par{x:aH}(h:Reads l x)(b:Bool)(d k:Nat)(hb:b=false -> 5 <= aM x.op)(hd:(dI x+if b then 1 else 0) <= d)(hs:Seg l k (mF b (aT x))):bL l d k=.ok x (k+(mF b (aT x)).length):=by
 cases b with
 |false=>exact h.single d k (by simpa using hd) hs (hb rfl)
 |true=>
  simp only [if_true] at hd
  obtain ⟨d,rfl⟩:∃d',d=d'+1:=⟨d-1,J⟩
  have hs':Seg l k (sgn [40]::(aT x++[sgn [41]])):=hs
  obtain ⟨h1,hk,h2⟩:=hs'.head
  obtain ⟨h3,h4⟩:=h2.app
  obtain ⟨h5,hk5,_⟩:=h4.head
  have hkd:=(pX h1).1
  unfold bL
  rw [hkd,if_neg V,if_neg V,gK h1,gK h1,gK h1,if_neg V,if_neg V,if_pos V]
  rw [h.bin d (k+1) 5 J h3 (Nat.le_refl _) J (aAb h5 V)]
  show (if cS l _ [41] then _ else _)=_
  rw [gK h5,if_pos V]
  congr 1
  simp [mF];omega
theorem Reads.of{e:aH}(single:∀d k,dI e <= d -> Seg l k (aT e) -> 5 <= aM e.op -> bL l d k=.ok e (k+(aT e).length))
  (step:∀d k j,dI e <= d -> Seg l k (aT e) -> j<5 -> aM e.op+j=4 -> Fol l (k+(aT e).length) (6-j) -> ∃a k0 m,gS l (bL l d) j k=.ok a k0 /\ m <= (aT e).length /\ ∀n,fR l (gS l (bL l d) j) (5-j) (m+n) a k0=fR l (gS l (bL l d) j) (5-j) n e (k+(aT e).length)):Reads l e:=by
 have bin:∀j d k,dI e <= d -> Seg l k (aT e) -> j <= 5 -> 5 <= aM e.op+j -> Fol l (k+(aT e).length) (6-j) -> gS l (bL l d) j k=.ok e (k+(aT e).length):=by
  intro j
  induction j with
  |zero=>intro d k hd hs _ h5 hf;exact single d k hd hs J
  |succ j ih=>
   intro d k hd hs hj h5 hf
   by_cases h6:5 <= aM e.op+j
   ·unfold gS
    rw [ih d k hd hs J h6 (hf.mono J)]
    show fR l _ (5-j) (l.length+1) _ _=_
    unfold fR
    rw [if_neg]
    rintro ⟨h1,h2⟩
    exact hf ⟨h1,J⟩
   obtain ⟨a,k0,m,h1,h2,h3⟩:=step d k j hd hs J J (hf.mono J)
   have hl:(aT e).length <= l.length:=by
    obtain ⟨t,ht⟩:=hs
    have:=congrArg List.length ht
    simp at this;omega
   unfold gS
   rw [h1]
   show fR l _ (5-j) (l.length+1) _ _=_
   have:=h3 (l.length-m+1)
   rw [show m+(l.length-m+1)=l.length+1 by omega] at this
   rw [this]
   unfold fR
   rw [if_neg]
   rintro ⟨h1,h2⟩
   exact hf ⟨h1,J⟩
 refine ⟨single,λd k j hd hs hj h5 hf=>bin j d k hd hs hj h5 hf,λd k j hd hs hj h5 hf=>?_⟩
 by_cases h6:5 <= aM e.op+j
 ·exact ⟨e,_,0,bin j d k hd hs J h6 hf,J,λn=>by rw [Nat.zero_add]⟩
 exact step d k j hd hs hj J hf
theorem VE.reads{e:aH}(h:VE e):Reads l e:=by
 induction h with
 |num n h=>
  refine .of (λd k hd hs _=>?_) (λd k j _ _ _ h4 _=>?_)
  ·rw [uO] at hs⊢
   obtain ⟨h1,hk,_⟩:=hs.head
   have e1:(bU l k).kind=2:=congrArg PT.kind h1
   have e2:(bU l k).num=n:=congrArg PT.num h1
   cases d<;>(unfold bL;rw [if_pos e1,e2];rfl)
  ·have:aM (aH.mk 1 n aK []).op=6:=rfl
   omega
 |name s h=>
  refine .of (λd k hd hs _=>?_) (λd k j _ _ _ h4 _=>?_)
  ·rw [sC] at hs⊢
   obtain ⟨h1,hk,_⟩:=hs.head
   have e1:(bU l k).kind=1:=congrArg PT.kind h1
   have e2:(bU l k).text=s:=congrArg PT.text h1
   cases d<;>(unfold bL;rw [if_neg J,if_pos e1,e2];rfl)
  ·have:aM (aH.mk 2 0 s []).op=6:=rfl
   omega
 |un op x h hx ih=>
  have hs5:aM op=5:=by rcases h with rfl|rfl<;>rfl
  refine .of (λd k hd hs _=>?_) (λd k j _ _ _ h4 _=>?_)
  ·rw [aJb h] at hd
   obtain ⟨d,rfl⟩:∃d',d=d'+1:=⟨d-1,J⟩
   rw [yB h] at hs⊢
   obtain ⟨h1,hk,h2⟩:=hs.head
   have hp:=ih.par (cV op 0 x.op) d (k+1) (λhb=>by have:=yN hb;omega) J h2
   have hkd:=(pX h1).1
   unfold bL
   rw [hkd,if_neg V,if_neg V,gK h1,gK h1,hp]
   rcases h with rfl|rfl
   ·rw [if_pos V]
    show bN.ok _ _=_
    congr 1;simp;omega
   rw [if_neg V,if_pos V]
   show bN.ok _ _=_
   congr 1;simp;omega
  ·have:aM (aH.mk op 0 aK [x]).op=5:=hs5
   omega
 |bin op x y h hx hy ihx ihy=>
  have hlt:=qB h
  refine .of (λd k hd hs h5=>?_) (λd k j hd hs hj h4 hf=>?_)
  ·have:aM op<5:=hlt
   have h5:5 <= aM op:=h5
   omega
  rw [aGo h] at hd
  have h4:aM op+j=4:=h4
  rw [uI h] at hs hf⊢
  obtain ⟨s1,s2⟩:=hs.app
  obtain ⟨t1,hk1,s3⟩:=s2.head
  obtain ⟨b1,b2⟩:=aGz h
  have f1:Fol l (k+(mF (cV op 0 x.op) (aT x)).length) (6-j):=aAb t1 J
  have hlen:(mF (cV op 0 x.op) (aT x)++sgn (iW op)::mF (cV op 1 y.op) (aT y)).length=(mF (cV op 0 x.op) (aT x)).length+1+(mF (cV op 1 y.op) (aT y)).length:=DR
  rw [hlen] at hf⊢
  have left:∃a k0 m,gS l (bL l d) j k=.ok a k0 /\ m <= (mF (cV op 0 x.op) (aT x)).length /\ ∀n,fR l (gS l (bL l d) j) (5-j) (m+n) a k0=fR l (gS l (bL l d) j) (5-j) n x (k+(mF (cV op 0 x.op) (aT x)).length):=by
   cases hb:cV op 0 x.op with
   |false=>
    rw [hb] at s1 f1
    have:=yN hb
    obtain ⟨a,k0,m,g1,g2,g3⟩:=ihx.chain d k j J s1 hj J f1
    exact ⟨a,k0,m,g1,g2,g3⟩
   |true=>
    rw [hb] at s1 f1 hd
    have hp:=ihx.par true d k M J s1
    exact ⟨x,_,0,wB hp j J f1,J,λn=>by rw [Nat.zero_add]⟩
  have right:gS l (bL l d) j (k+(mF (cV op 0 x.op) (aT x)).length+1)=.ok y (k+(mF (cV op 0 x.op) (aT x)).length+1+(mF (cV op 1 y.op) (aT y)).length):=by
   cases hb:cV op 1 y.op with
   |false=>
    rw [hb] at s3 hf
    have:=yN hb
    exact ihy.bin d _ j J s3 J J (by have e:mF false (aT y)=aT y:=rfl;rw [e] at hf;simpa [Nat.add_assoc] using hf)
   |true=>
    rw [hb] at s3 hf hd
    have hp:=ihy.par true d _ M J s3
    exact wB hp j J (by simpa [Nat.add_assoc] using hf)
  obtain ⟨a,k0,m,g1,g2,g3⟩:=left
  refine ⟨a,k0,m+1,g1,J,λn=>?_⟩
  rw [Nat.add_assoc,g3 (1+n),Nat.add_comm 1 n]
  conv=>lhs;unfold fR
  have hc:(bU l (k+(mF (cV op 0 x.op) (aT x)).length)).kind=4 /\ (binOp (bU l (k+(mF (cV op 0 x.op) (aT x)).length)).text).2=5-j:=by
   rw [(pX t1).1,(pX t1).2,b2];exact ⟨rfl,J⟩
  rw [if_pos hc,right,(pX t1).2,b1,show ((op.toNat:Nat):Int)=op by omega]
  simp only [Nat.add_assoc]
end
theorem VE.parse{e:aH}(h:VE e)(hh:dI e <= 24){l:List Tok}{k:Nat}(hs:Seg l k (aT e))(hf:Fol l (k+(aT e).length) 1):lJ l k=.ok e (k+(aT e).length):=
 h.reads.bin 24 k 5 hh hs (Nat.le_refl _) J hf
end
section
def nmT(s:ByteArray):PT:=⟨1,s,0⟩
def nuT(n:Nat):PT:=⟨2,bytes (cO n),n⟩
def VX(e:aH):Prop:=VE e /\ dI e <= 24
inductive VR:cY -> Prop where
 |one (n:ByteArray) (h:bQ n=true):VR ⟨n,[]⟩
 |el (n:ByteArray) (e:aH) (h:bQ n=true) (he:VX e):VR ⟨n,[e]⟩
inductive VA:eN -> Prop where
 |mutex (r:cY) (h:VR r):VA ⟨true,r,.zero⟩
 |expr (e:aH) (h:VX e):VA ⟨false,.zero,e⟩
inductive VSs:Nat -> List aJ -> Prop where
 |nil {d:Nat}:VSs d []
 |var {d:Nat} {n:ByteArray} {e:aH} {r:List aJ} (hn:bQ n=true) (he:VX e) (h:VSs d r):VSs d (.mk 1 n e .zero [] [] []::r)
 |assign {d:Nat} {n:ByteArray} {e:aH} {r:List aJ} (hn:bQ n=true) (he:VX e) (h:VSs d r):VSs d (.mk 2 n e .zero [] [] []::r)
 |call {d:Nat} {n:ByteArray} {a:List eN} {r:List aJ} (hn:bQ n=true) (ha:∀x,x∈a -> VA x) (h:VSs d r):VSs d (.mk 3 n .zero .zero a [] []::r)
 |go {d:Nat} {n:ByteArray} {a:List eN} {r:List aJ} (hn:bQ n=true) (ha:∀x,x∈a -> VA x) (h:VSs d r):VSs d (.mk 4 n .zero .zero a [] []::r)
 |lock {d:Nat} {f:cY} {r:List aJ} (hf:VR f) (h:VSs d r):VSs d (.mk 5 aK .zero f [] [] []::r)
 |unlock {d:Nat} {f:cY} {r:List aJ} (hf:VR f) (h:VSs d r):VSs d (.mk 6 aK .zero f [] [] []::r)
 |cond {d:Nat} {e:aH} {t f r:List aJ} (he:VX e) (ht:VSs d t) (hf:VSs d f) (h:VSs (d+1) r):VSs (d+1) (.mk 7 aK e .zero [] t f::r)
 |loop {d:Nat} {e:aH} {t r:List aJ} (he:VX e) (ht:VSs d t) (h:VSs (d+1) r):VSs (d+1) (.mk 8 aK e .zero [] t []::r)
 |ret {d:Nat} {r:List aJ} (h:VSs d r):VSs d (.mk 9 aK .zero .zero [] [] []::r)
def hY(r:cY):List PT:=match r.index with|[]=>[nmT r.name]|e::_=>nmT r.name::sgn [91]::(aT e++[sgn [93]])
def wH(a:eN):List PT:=if a.mutex then wrd [109,117,116,101,120]::hY a.ref else aT a.expr
def fZ{α:Type}(f:α -> List PT):List α -> List PT
 |[]=>[]
 |x::r=>f x++(r.map λy=>sgn [44]::f y).flatten
theorem nW{α:Type}(f:α -> List PT)(x y:α)(r:List α):fZ f (x::y::r)=f x++sgn [44]::fZ f (y::r):=by simp [fZ]
def iG(l:List eN):List PT:=sgn [40]::(fZ wH l++[sgn [41]])
mutual
def cE:aJ -> List PT
 |.mk kind name expr ref args thn els=>
  (if kind=1 then wrd [118,97,114]::nmT name::sgn [61]::(aT expr++[sgn [59]])
   else if kind=2 then nmT name::sgn [61]::(aT expr++[sgn [59]])
   else if kind=3 then nmT name::(iG args++[sgn [59]])
   else if kind=4 then wrd [103,111]::nmT name::(iG args++[sgn [59]])
   else if kind=5 then wrd [108,111,99,107]::(hY ref++[sgn [59]])
   else if kind=6 then wrd [117,110,108,111,99,107]::(hY ref++[sgn [59]])
   else if kind=7∨kind=8 then
    (if kind=8 then wrd [119,104,105,108,101] else wrd [105,102])::(aT expr++sgn [123]::(aQ thn++sgn [125]::
     (if els.length=0 then [] else wrd [101,108,115,101]::sgn [123]::(aQ els++[sgn [125]]))))
   else [wrd [114,101,116,117,114,110],sgn [59]])
def aQ:List aJ -> List PT
 |[]=>[]
 |s::r=>cE s++aQ r
end
section
variable {r:List UInt8}{ps:List PT}
theorem Lx.nl(h:Lx r ps):Lx (10::r) ps:=h.sp V
theorem Lx.semi(h:Lx r ps):Lx (59::10::r) (sgn [59]::ps):=h.nl.free 59 V
end
section
variable {l:List Tok}{k:Nat}
theorem Seg.len{ps:List PT}(h:Seg l k ps)(hk:k <= l.length):k+ps.length <= l.length:=by
 obtain ⟨t,ht⟩:=h
 have:=congrArg List.length ht
 simp at this;omega
theorem jY{s:List UInt8}(h:(bU l k).pt=sgn s):cS l k s=true:=by rw [gK h];simp
theorem iV{s:List UInt8}(h:(bU l k).pt=sgn s):fD l s k=.ok () (k+1):=by unfold fD;rw [if_pos (jY h)]
theorem xY{s:List UInt8}(h:(bU l k).pt=wrd s)(u:List UInt8):dN l k u=decide (bytes s=bytes u):=by
 have h1:(bU l k).kind=3:=congrArg PT.kind h
 have h2:(bU l k).text=bytes s:=congrArg PT.text h
 unfold dN;rw [h1,h2];simp
theorem yE{t:PT}(h:(bU l k).pt=t)(ht:t.kind≠3)(u:List UInt8):dN l k u=false:=by
 have h1:(bU l k).kind=t.kind:=congrArg PT.kind h
 unfold dN;rw [h1,decide_eq_false ht];rfl
theorem sQ{t:PT}(h:(bU l k).pt=t)(ht:t.kind≠4)(u:List UInt8):cS l k u=false:=by
 have h1:(bU l k).kind=t.kind:=congrArg PT.kind h
 unfold cS;rw [h1,decide_eq_false ht];rfl
theorem jH{s:ByteArray}(h:(bU l k).pt=nmT s):jW l k=.ok s (k+1):=by
 have h1:(bU l k).kind=1:=congrArg PT.kind h
 have h2:(bU l k).text=s:=congrArg PT.text h
 unfold jW;rw [if_pos h1,h2]
theorem aDu{n:Nat}(h:(bU l k).pt=nuT n):qE l k=.ok n (k+1):=by
 have h1:(bU l k).kind=2:=congrArg PT.kind h
 have h2:(bU l k).num=n:=congrArg PT.num h
 unfold qE;rw [if_pos h1,h2]
theorem VX.parse{e:aH}(h:VX e){s:List UInt8}{q:List PT}(hs:Seg l k (aT e++sgn s::q))(hb:(binOp (bytes s)).2=0):lJ l k=.ok e (k+(aT e).length) /\ Seg l (k+(aT e).length) (sgn s::q):=by
 obtain ⟨h1,h2⟩:=hs.app
 exact ⟨h.1.parse h.2 h1 (aAb h2.head.1 J),h2⟩
theorem VR.parse{f:cY}(h:VR f){s:List UInt8}{q:List PT}(hs:Seg l k (hY f++sgn s::q))(ht:decide (bytes s=bytes [91])=false):xV l k=.ok f (k+(hY f).length) /\ Seg l (k+(hY f).length) (sgn s::q):=by
 cases h with
 |one n h=>
  have hs':Seg l k (nmT n::sgn s::q):=hs
  obtain ⟨h1,_,h2⟩:=hs'.head
  refine ⟨?_,h2⟩
  unfold xV
  rw [jH h1,bind_ok]
  unfold jT
  rw [if_neg];·rfl
  rw [gK h2.head.1,ht];simp
 |el n e h he=>
  have hs':Seg l k (nmT n::sgn [91]::(aT e++sgn [93]::sgn s::q)):=by simpa [hY] using hs
  obtain ⟨h1,_,h2⟩:=hs'.head
  obtain ⟨h3,_,h4⟩:=h2.head
  obtain ⟨h5,h6⟩:=he.parse h4 V
  obtain ⟨h7,_,h8⟩:=h6.head
  have hl:k+(hY ⟨n,[e]⟩).length=k+1+1+(aT e).length+1:=by simp [hY];omega
  rw [hl]
  refine ⟨?_,h8⟩
  unfold xV
  rw [jH h1,bind_ok]
  unfold jT
  rw [if_pos (jY h3),h5,bind_ok,iV h7,bind_ok]
def aGb(t:PT):Prop:=t.kind=1∨t.kind=2∨∃c,t=sgn [c] /\ c∈([45,33,40]:List UInt8)
theorem aGb.word{t:PT}(h:aGb t):t.kind≠3:=by
 rcases h with h|h|⟨c,rfl,_⟩
 ·omega
 ·omega
 show (4:Nat)≠3;omega
theorem aGb.sign{t:PT}(h:aGb t)(ht:(bU l k).pt=t)(s:List UInt8)(hs:∀c,c∈([45,33,40]:List UInt8) -> decide (bytes [c]=bytes s)=false):cS l k s=false:=by
 rcases h with h|h|⟨c,rfl,hc⟩
 ·exact sQ ht J s
 ·exact sQ ht J s
 rw [gK ht];exact hs c hc
theorem VE.beg{e:aH}(h:VE e):∃t q,aT e=t::q /\ aGb t:=by
 induction h with
 |num n h=>exact ⟨_,_,uO n,.inr (.inl rfl)⟩
 |name s h=>exact ⟨_,_,sC s,.inl rfl⟩
 |un op x h hx ih=>
  refine ⟨_,_,yB h x,.inr (.inr ⟨_,Y,?_⟩)⟩
  rcases h with rfl|rfl<;>decide
 |bin op x y h hx hy ihx ihy=>
  rw [uI h]
  cases cV op 0 x.op with
  |true=>exact ⟨_,_,rfl,.inr (.inr ⟨40,rfl,V⟩)⟩
  |false=>
   obtain ⟨t,q,h1,h2⟩:=ihx
   exact ⟨t,_,by show aT x++_=_;rw [h1];rfl,h2⟩
theorem VA.parse{a:eN}(h:VA a){s:List UInt8}{q:List PT}(hs:Seg l k (wH a++sgn s::q))(ht:decide (bytes s=bytes [91])=false)(hb:(binOp (bytes s)).2=0):rC l k=.ok a (k+(wH a).length):=by
 cases h with
 |mutex f h=>
  have hs':Seg l k (wrd [109,117,116,101,120]::(hY f++sgn s::q)):=hs
  obtain ⟨h1,_,h2⟩:=hs'.head
  unfold rC
  rw [if_pos (by rw [xY h1];simp),(h.parse h2 ht).1,bind_ok]
  congr 1
  simp [wH];omega
 |expr e h=>
  have hs':Seg l k (aT e++sgn s::q):=hs
  obtain ⟨t,q',h1,h2⟩:=h.1.beg
  have h3:Seg l k (t::(q'++sgn s::q)):=by rw [h1] at hs';exact hs'
  unfold rC
  rw [if_neg (by rw [yE h3.head.1 h2.word];simp),(h.parse hs' hb).1,bind_ok]
  rfl
theorem VA.beg{a:eN}(h:VA a):∃t q,wH a=t::q /\ (t.kind=3∨aGb t):=by
 cases h with
 |mutex f h=>exact ⟨_,_,rfl,.inl rfl⟩
 |expr e h=>
  obtain ⟨t,q,h1,h2⟩:=h.1.beg
  exact ⟨t,q,h1,.inr h2⟩
theorem zS{α:Type}{f:α -> List PT}{el:Nat -> Nat -> bN α}:∀(rest acc:List α)(n k:Nat),rest≠[] -> rest.length <= n ->
  (∀i (h:i<rest.length) k s q,s=[44]∨s=[41] -> Seg l k (f rest[i]++sgn s::q) -> el (acc.length+i) k=.ok rest[i] (k+(f rest[i]).length)) ->
  ∀q,Seg l k (fZ f rest++sgn [41]::q) -> lI l el n acc k=.ok (acc++rest) (k+(fZ f rest).length+1)
 |[],_,_,_,h,_,_,_,_=>absurd rfl h
 |[x],acc,n,k,_,hn,he,q,hs=>by
  obtain ⟨n,rfl⟩:∃n',n=n'+1:=⟨n-1,F3⟩
  have hs':Seg l k (f x++sgn [41]::q):=by simpa [fZ] using hs
  have h1:=he 0 M k [41] q (.inr Y) hs'
  have h2:=(hs'.app.2).head.1
  unfold lI
  have h1':el acc.length k=.ok x (k+(f x).length):=h1
  rw [h1',bind_ok,if_neg (by rw [gK h2];decide),iV h2,bind_ok]
  simp [fZ]
 |x::y::r,acc,n,k,_,hn,he,q,hs=>by
  obtain ⟨n,rfl⟩:∃n',n=n'+1:=⟨n-1,F3⟩
  rw [nW] at hs
  have hs':Seg l k (f x++sgn [44]::(fZ f (y::r)++sgn [41]::q)):=F5
  have h1:=he 0 M k [44] _ (.inl Y) hs'
  obtain ⟨h2,_,h3⟩:=(hs'.app.2).head
  unfold lI
  have h1':el acc.length k=.ok x (k+(f x).length):=h1
  rw [h1',bind_ok,if_pos (jY h2)]
  rw [zS (y::r) (acc++[x]) n _ M (by simp at hn⊢;omega) (λi h k s q hq hs=>by
   have:=he (i+1) (by simp at h⊢;omega) k s q hq F5
   simpa [Nat.add_assoc,Nat.add_comm,Nat.add_left_comm] using this) q h3,nW]
  simp;omega
theorem vN{α:Type}{f:α -> List PT}{el:Nat -> Nat -> bN α}(xs:List α)(k:Nat)(q:List PT)(hk:k <= l.length)(hs:Seg l k (sgn [40]::(fZ f xs++sgn [41]::q)))
  (hb:∀x,x∈xs -> ∃t p,f x=t::p /\ (t.kind=3∨aGb t))
  (he:∀i (h:i<xs.length) k s q,s=[44]∨s=[41] -> Seg l k (f xs[i]++sgn s::q) -> el i k=.ok xs[i] (k+(f xs[i]).length)):jC l el k=.ok xs (k+(fZ f xs).length+2):=by
 obtain ⟨h1,_,h2⟩:=hs.head
 unfold jC
 rw [iV h1,bind_ok]
 cases xs with
 |nil=>
  have h3:Seg l (k+1) (sgn [41]::q):=h2
  rw [if_pos (jY h3.head.1)]
  rfl
 |cons x r=>
  obtain ⟨t,p,hx,ht⟩:=hb x (List.mem_cons_self ..)
  have h3:∃u,fZ f (x::r)++sgn [41]::q=t::u:=⟨p++(r.map λy=>sgn [44]::f y).flatten++sgn [41]::q,by show (f x++(r.map λy=>sgn [44]::f y).flatten)++sgn [41]::q=_;rw [hx];simp⟩
  obtain ⟨u,hu⟩:=h3
  have h4:Seg l (k+1) (t::u):=by rw [←hu];exact h2
  have h5:cS l (k+1) [41]=false:=by
   rcases ht with ht|ht
   ·exact sQ h4.head.1 J _
   exact ht.sign h4.head.1 _ V
  rw [if_neg (by rw [h5];simp)]
  have hlen:(x::r).length <= l.length:=by
   have h6:∀(ys:List α),(∀y,y∈ys -> ∃t p,f y=t::p /\ (t.kind=3∨aGb t)) -> ys.length <= (fZ f ys).length:=by
    intro ys
    induction ys with
    |nil=>intro _;simp
    |cons y ys ih=>
     intro hh
     cases ys with
     |nil=>
      obtain ⟨t,p,h7,_⟩:=hh y (List.mem_cons_self ..)
      simp [fZ,h7]
     |cons z zs=>
      have:=ih λy hy=>hh y (List.mem_cons_of_mem _ hy)
      rw [nW]
      simp at this⊢;omega
   have h7:=h6 (x::r) hb
   have h8:=hs.len hk
   simp at h8;omega
  rw [zS (x::r) [] l.length (k+1) M hlen (λi h k s q hq hs=>by simpa using he i h k s q hq hs) q h2]
  simp;omega
theorem yY{a:List eN}(h:∀x,x∈a -> VA x){q:List PT}(hk:k <= l.length)(hs:Seg l k (iG a++q)):rA l k=.ok a (k+(iG a).length) /\ Seg l (k+(iG a).length) q:=by
 refine ⟨?_,hs.app.2⟩
 have hs':Seg l k (sgn [40]::(fZ wH a++sgn [41]::q)):=by simpa [iG] using hs
 have:=vN (el:=λ_=>rC l) a k q hk hs' (λx hx=>(h x hx).beg) (λi hi k s q hq hs=>(h _ (getElem_mem hi)).parse hs (by rcases hq with rfl|rfl<;>decide) (by rcases hq with rfl|rfl<;>decide))
 unfold rA
 rw [this]
 simp [iG];omega
theorem kI(s:aJ){q:List PT}(hs:Seg l k (sgn [59]::q)):oO l s k=.ok s (k+1):=by
 unfold oO;rw [iV hs.head.1,bind_ok]
end
end
section
section
variable {l:List Tok}
def aNb(t:PT):Prop:=t.kind=1∨∃s,t=wrd s /\ decide (bytes s=bytes [101,108,115,101])=false
theorem aNb.sign{t:PT}{k:Nat}(h:aNb t)(ht:(bU l k).pt=t)(s:List UInt8):cS l k s=false:=by
 rcases h with h|⟨u,rfl,_⟩
 ·exact sQ ht J s
 exact sQ ht (by show (3:Nat)≠4;omega) s
theorem aNb.els{t:PT}{k:Nat}(h:aNb t)(ht:(bU l k).pt=t):dN l k [101,108,115,101]=false:=by
 rcases h with h|⟨u,rfl,hu⟩
 ·exact yE ht J _
 rw [xY ht];exact hu
theorem VSs.beg{d:Nat}{s:aJ}{r:List aJ}(h:VSs d (s::r)):∃t q,cE s=t::q /\ aNb t:=by
 cases h with
 |var|go|lock|unlock|ret|loop|cond=>exact ⟨_,_,by rw [cE];rfl,.inr ⟨_,rfl,V⟩⟩
 |assign|call=>exact ⟨_,_,by rw [cE];rfl,.inl rfl⟩
theorem VSs.tail{d:Nat}{s:aJ}{r:List aJ}(h:VSs d (s::r)):VSs d r:=by cases h<;>assumption
theorem aJk{d:Nat}{r:List aJ}(h:VSs d r){k:Nat}{q:List PT}(hs:Seg l k (aQ r++sgn [125]::q)):dN l k [101,108,115,101]=false:=by
 cases r with
 |nil=>
  have hs':Seg l k (sgn [125]::q):=hs
  exact yE hs'.head.1 (by show (4:Nat)≠3;omega) _
 |cons s r=>
  obtain ⟨t,p,h1,h2⟩:=h.beg
  rw [aQ,h1] at hs
  have hs':Seg l k (t::(p++aQ r++sgn [125]::q)):=F5
  exact h2.els hs'.head.1
theorem gI{k:Nat}{s:List UInt8}(h:(bU l k).pt=wrd s):dN l k s=true:=by rw [xY h];simp
theorem cG{k:Nat}{s u:List UInt8}(h:(bU l k).pt=wrd s)(hu:decide (bytes s=bytes u)=false):¬dN l k u=true:=by rw [xY h,hu];simp
theorem wM{k:Nat}{n:ByteArray}(h:(bU l k).pt=nmT n)(u:List UInt8):¬dN l k u=true:=by rw [yE h (by show (1:Nat)≠3;omega)];simp
theorem aGl{d:Nat}{s:aJ}{r:List aJ}(h:VSs d (s::r))(blk:Nat -> bN (List aJ))
  (hb:∀d' b k q,d=d'+1 -> VSs d' b -> k <= l.length -> Seg l k (sgn [123]::(aQ b++sgn [125]::q)) -> b.length <= (aQ b).length -> blk k=.ok b (k+(aQ b).length+2))
  (hc:∀d' b,VSs d' b -> b.length <= (aQ b).length) {k:Nat} {q:List PT} (hk:k <= l.length) (hs:Seg l k (cE s++(aQ r++sgn [125]::q))):fB l blk k=.ok s (k+(cE s).length):=by
 have hlen:=hs.app.1.len hk
 cases h with
 |@var _ n e _ hn he h=>
  rw [cE] at hs hlen⊢
  simp only [if_true] at hs hlen⊢
  obtain ⟨h1,_,h2⟩:=hs.head
  unfold fB
  rw [if_pos (gI h1)]
  obtain ⟨h3,_,h4⟩:=h2.head
  obtain ⟨h5,_,h6⟩:=h4.head
  obtain ⟨h7,h8⟩:=he.parse (s:=[59]) (q:=aQ r++sgn [125]::q) (by simpa using h6) V
  unfold qI
  rw [jH h3,bind_ok,iV h5,bind_ok,h7,bind_ok,kI _ h8]
  simp;omega
 |@assign _ n e _ hn he h=>
  rw [cE] at hs hlen⊢
  simp only [if_true,show ¬((2:Int)=1) by decide,if_false] at hs hlen⊢
  obtain ⟨h3,_,h4⟩:=hs.head
  obtain ⟨h5,_,h6⟩:=h4.head
  obtain ⟨h7,h8⟩:=he.parse (s:=[59]) (q:=aQ r++sgn [125]::q) (by simpa using h6) V
  unfold fB
  repeat rw [if_neg (wM h3 _)]
  unfold mG
  rw [jH h3,bind_ok]
  unfold iB
  rw [if_pos (jY h5),h7,bind_ok,kI _ h8]
  simp;omega
 |@call _ n a _ hn ha h=>
  rw [cE] at hs hlen⊢
  simp only [if_true,show ¬((3:Int)=1) by decide,show ¬((3:Int)=2) by decide,if_false] at hs hlen⊢
  obtain ⟨h3,hk3,h4⟩:=hs.head
  have h4':Seg l (k+1) (iG a++sgn [59]::(aQ r++sgn [125]::q)):=F9
  have h5:Seg l (k+1) (sgn [40]::(fZ wH a++[sgn [41]]++sgn [59]::(aQ r++sgn [125]::q))):=by simpa [iG] using h4'
  obtain ⟨h7,h8⟩:=yY ha J h4'
  unfold fB
  repeat rw [if_neg (wM h3 _)]
  unfold mG
  rw [jH h3,bind_ok]
  unfold iB
  rw [if_neg (by rw [gK h5.head.1];decide),h7,bind_ok,kI _ h8]
  simp;omega
 |@go _ n a _ hn ha h=>
  rw [cE] at hs hlen⊢
  simp only [if_true,show ¬((4:Int)=1) by decide,show ¬((4:Int)=2) by decide,show ¬((4:Int)=3) by decide,if_false] at hs hlen⊢
  obtain ⟨h1,_,h2⟩:=hs.head
  obtain ⟨h3,hk3,h4⟩:=h2.head
  have h4':Seg l (k+1+1) (iG a++sgn [59]::(aQ r++sgn [125]::q)):=F9
  obtain ⟨h7,h8⟩:=yY ha J h4'
  unfold fB
  rw [if_neg (cG h1 V),if_pos (gI h1)]
  unfold goP
  rw [jH h3,bind_ok,h7,bind_ok,kI _ h8]
  simp;omega
 |@lock _ f _ hf h=>
  rw [cE] at hs hlen⊢
  simp only [if_true,show ¬((5:Int)=1) by decide,show ¬((5:Int)=2) by decide,show ¬((5:Int)=3) by decide,show ¬((5:Int)=4) by decide,if_false] at hs hlen⊢
  obtain ⟨h1,_,h2⟩:=hs.head
  obtain ⟨h7,h8⟩:=hf.parse (s:=[59]) (q:=aQ r++sgn [125]::q) B4 V
  unfold fB
  rw [if_neg (cG h1 V),if_neg (cG h1 V),if_pos (gI h1)]
  unfold nH
  rw [h7,bind_ok,kI _ h8]
  simp;omega
 |@unlock _ f _ hf h=>
  rw [cE] at hs hlen⊢
  simp only [if_true,show ¬((6:Int)=1) by decide,show ¬((6:Int)=2) by decide,show ¬((6:Int)=3) by decide,show ¬((6:Int)=4) by decide,show ¬((6:Int)=5) by decide,if_false] at hs hlen⊢
  obtain ⟨h1,_,h2⟩:=hs.head
  obtain ⟨h7,h8⟩:=hf.parse (s:=[59]) (q:=aQ r++sgn [125]::q) B4 V
  unfold fB
  rw [if_neg (cG h1 V),if_neg (cG h1 V),if_neg (cG h1 V),if_pos (gI h1)]
  unfold nH
  rw [h7,bind_ok,kI _ h8]
  simp;omega
 |@cond d e t f _ he ht hf h=>
  rw [cE] at hs hlen⊢
  simp only [if_true,show ¬((7:Int)=1) by decide,show ¬((7:Int)=2) by decide,show ¬((7:Int)=3) by decide,show ¬((7:Int)=4) by decide,show ¬((7:Int)=5) by decide,show ¬((7:Int)=6) by decide,show ¬((7:Int)=8) by decide,true_or,if_false] at hs hlen⊢
  obtain ⟨h1,_,h2⟩:=hs.head
  obtain ⟨h7,h8⟩:=he.parse (s:=[123]) (q:=aQ t++sgn [125]::((if f.length=0 then [] else wrd [101,108,115,101]::sgn [123]::(aQ f++[sgn [125]]))++(aQ r++sgn [125]::q))) B4 V
  have hk8:=h8.head.2.1
  have h9:=hb d t _ _ Y ht J h8 (hc _ _ ht)
  obtain ⟨_,_,h10⟩:=(h8.head.2.2.app.2).head
  unfold fB
  rw [if_neg (cG h1 V),if_neg (cG h1 V),if_neg (cG h1 V),if_neg (cG h1 V),if_pos (gI h1)]
  unfold ifP
  rw [h7,bind_ok,h9,bind_ok]
  have ek:k+1+(aT e).length+(aQ t).length+2=k+1+(aT e).length+1+(aQ t).length+1:=J
  rw [ek]
  unfold tA
  by_cases hz:f.length=0
  ·rw [if_pos hz] at h10 hlen⊢
   rw [if_neg (by rw [aJk h h10];simp)]
   have:f=[]:=List.length_eq_zero_iff.1 hz
   subst this
   simp;omega
  ·rw [if_neg hz] at h10 hlen⊢
   obtain ⟨h11,_,h12⟩:=h10.head
   rw [if_pos (gI h11)]
   have h12':Seg l (k+1+(aT e).length+1+(aQ t).length+1+1) (sgn [123]::(aQ f++sgn [125]::(aQ r++sgn [125]::q))):=by simpa using h12
   have hk12:=h12'.head.2.1
   rw [hb d f _ _ rfl hf J h12' (hc _ _ hf),bind_ok]
   simp;omega
 |@loop d e t _ he ht h=>
  rw [cE] at hs hlen⊢
  simp only [if_true,show ¬((8:Int)=1) by decide,show ¬((8:Int)=2) by decide,show ¬((8:Int)=3) by decide,show ¬((8:Int)=4) by decide,show ¬((8:Int)=5) by decide,show ¬((8:Int)=6) by decide,or_true,if_false,length_nil] at hs hlen⊢
  obtain ⟨h1,_,h2⟩:=hs.head
  obtain ⟨h7,h8⟩:=he.parse (s:=[123]) (q:=aQ t++sgn [125]::(aQ r++sgn [125]::q)) B4 V
  have hk8:=h8.head.2.1
  have h9:=hb d t _ _ Y ht J h8 (hc _ _ ht)
  unfold fB
  rw [if_neg (cG h1 V),if_neg (cG h1 V),if_neg (cG h1 V),if_neg (cG h1 V),if_neg (cG h1 V),if_pos (gI h1)]
  unfold pJ
  rw [h7,bind_ok,h9,bind_ok]
  simp;omega
 |@ret _ _ h=>
  rw [cE] at hs hlen⊢
  simp only [show ¬((9:Int)=1) by decide,show ¬((9:Int)=2) by decide,show ¬((9:Int)=3) by decide,show ¬((9:Int)=4) by decide,show ¬((9:Int)=5) by decide,show ¬((9:Int)=6) by decide,show ¬((9:Int)=8) by decide,show ¬((9:Int)=7) by decide,or_self,if_false] at hs hlen⊢
  obtain ⟨h1,_,h2⟩:=hs.head
  unfold fB
  rw [if_neg (cG h1 V),if_neg (cG h1 V),if_neg (cG h1 V),if_neg (cG h1 V),if_neg (cG h1 V),if_neg (cG h1 V),if_pos (gI h1)]
  unfold aD8
  rw [kI _ h2]
  rfl
theorem VSs.count{d:Nat}{b:List aJ}(h:VSs d b):b.length <= (aQ b).length:=by
 induction b with
 |nil=>simp
 |cons s r ih=>
  obtain ⟨t,q,h1,_⟩:=h.beg
  have:=ih h.tail
  rw [aQ,h1]
  simp;omega
theorem xJ{d:Nat}(st:Nat -> bN aJ)(hst:∀s r k q,VSs d (s::r) -> k <= l.length -> Seg l k (cE s++(aQ r++sgn [125]::q)) -> st k=.ok s (k+(cE s).length)):
  ∀(b acc:List aJ)(n k:Nat)(q:List PT),VSs d b -> b.length<n -> k <= l.length -> Seg l k (aQ b++sgn [125]::q) -> eS l st n acc k=.ok (acc++b) (k+(aQ b).length+1)
 |[],acc,n,k,q,_,hn,_,hs=>by
  obtain ⟨n,rfl⟩:∃n',n=n'+1:=⟨n-1,F3⟩
  have hs':Seg l k (sgn [125]::q):=hs
  unfold eS
  rw [if_pos (jY hs'.head.1)]
  simp [aQ]
 |s::r,acc,n,k,q,h,hn,hk,hs=>by
  obtain ⟨n,rfl⟩:∃n',n=n'+1:=⟨n-1,F3⟩
  rw [aQ] at hs
  have hs':Seg l k (cE s++(aQ r++sgn [125]::q)):=F5
  obtain ⟨t,p,h1,h2⟩:=h.beg
  have h3:Seg l k (t::(p++(aQ r++sgn [125]::q))):=by rw [h1] at hs';exact hs'
  have hlen:=hs'.app.1.len hk
  unfold eS
  rw [if_neg (by rw [h2.sign h3.head.1];simp),hst s r k q h hk hs',bind_ok,xJ st hst r (acc++[s]) n _ q h.tail F3 hlen hs'.app.2]
  rw [aQ]
  simp;omega
theorem xI:∀(d:Nat)(b:List aJ)(k:Nat)(q:List PT),VSs d b -> k <= l.length -> Seg l k (sgn [123]::(aQ b++sgn [125]::q)) -> eX l (d+1) k=.ok b (k+(aQ b).length+2)
 |d,b,k,q,h,hk,hs=>by
  obtain ⟨h1,hk1,h2⟩:=hs.head
  have hlen:=hs.len hk
  have hcnt:=h.count
  simp at hlen
  unfold eX
  rw [iV h1,bind_ok]
  rw [xJ (d:=d) (fB l (eX l d)) (λs r k q hh hk hs=>aGl hh (eX l d) (λd' b k q hd hb hk hs _=>by
   subst hd
   exact xI d' b k q hb hk hs) (λ_ _ hb=>hb.count) hk hs) b [] l.length (k+1) q h J J h2]
  simp;omega
end
end
end Go.Proofs.YtbdfdjdgfanjaaaGreatDoor
