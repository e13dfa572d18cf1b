import Derived.Test.YtojinfngbbajgaaGreatDoorF5J
import Derived.Test.YtojinfngbbajgaaGreatDoorF9J
import Derived.Test.YtojinfngbbajgaaGreatDoorF4J
import Derived.Test.YtojinfngbbajgaaGreatDoorF10J
import Derived.Test.YtojinfngbbajgaaGreatDoorProg
import Derived.Test.YtojinfngbbajgaaGreatDoorQ1J
import Derived.Test.YtojinfngbbajgaaGreatDoorF1J
import Derived.Test.YtojinfngbbajgaaGreatDoorF8J
set_option linter.all false
set_option synthInstance.maxHeartbeats 1000000
set_option synthInstance.maxSize 1000000
set_option maxHeartbeats 1600000
set_option maxRecDepth 100000
namespace Go.Proofs.YtojinfngbbajgaaGreatDoor
open Go.Proofs.Tryz
open List (length_append length_cons length_nil mem_append mem_cons not_mem_nil append_assoc getElem_mem take_of_length_le)
section
open Go.RowKit
abbrev aF6(l:List ByteArray):AC:=.sl l.length (l.map fun s=>.val (.string s))
abbrev aEm(l:List Int):AC:=.sl l.length (l.map fun n=>.val (.int .i64 n))
theorem aOi(s:Sto):aL prog 160 [nI 0] [] s fun t s'=>t=.tup [.c (aF6 (jP 0)),.c (aEm (dS 0))] /\ s'=s:=by
 obtain ⟨bx,rw⟩:=s
 refine acB func160 rfl ?_
 show AWp prog _ ⟨23,_,⟨bx,rw⟩,[(0,nI 0)]⟩ _
 refine go 15 ?_
 refine wcp true rfl (by simp [bC]) (go 6 ?_)
 refine wo rfl (bDk bT4 rfl (.cons rfl .nil) rfl ?_)
 refine wo rfl (bDk zb4 rfl (.cons rfl .nil) rfl ?_)
 refine go 7 ?_
 exact ⟨.inr rfl,_,⟨bx,rw⟩,uM rfl (aF rfl) (aF rfl),aA (.refl _) (.refl _),rfl,rfl⟩
theorem aOy(s:Sto):aL prog 160 [nI 1] [] s fun t s'=>t=.tup [.c (aF6 (jP 1)),.c (aEm (dS 1))] /\ s'=s:=by
 obtain ⟨bx,rw⟩:=s
 refine acB func160 rfl ?_
 show AWp prog _ ⟨23,_,⟨bx,rw⟩,[(0,nI 1)]⟩ _
 refine go 15 ?_
 refine wcp false rfl rfl (go 6 ?_)
 refine wcp true rfl (by simp [bC]) (go 6 ?_)
 refine wo rfl (bDk bT4 rfl (.cons rfl .nil) rfl ?_)
 refine wo rfl (bDk zb4 rfl (.cons rfl .nil) rfl ?_)
 refine go 7 ?_
 exact ⟨.inr rfl,_,⟨bx,rw⟩,uM rfl (aF rfl) (aF rfl),aA (.refl _) (.refl _),rfl,rfl⟩
theorem aPo(s:Sto):aL prog 160 [nI 2] [] s fun t s'=>t=.tup [.c (aF6 (jP 2)),.c (aEm (dS 2))] /\ s'=s:=by
 obtain ⟨bx,rw⟩:=s
 refine acB func160 rfl ?_
 show AWp prog _ ⟨23,_,⟨bx,rw⟩,[(0,nI 2)]⟩ _
 refine go 15 ?_
 refine wcp false rfl rfl (go 6 ?_)
 refine wcp false rfl rfl (go 6 ?_)
 refine wcp true rfl (by simp [bC]) (go 6 ?_)
 refine wo rfl (wbs Tryz.t9 [.val (.string ⟨#[]⟩),.val (.string ⟨#[]⟩),.val (.string ⟨#[]⟩),.val (.string ⟨#[]⟩),.val (.string ⟨#[]⟩),.val (.string ⟨#[]⟩)] rfl rfl (by decide) (.cons rfl (.cons rfl (.cons rfl (.cons rfl (.cons rfl (.cons rfl .nil)))))) underlying50 (by kernel_rfl) rfl (by decide) (by decide) (by kernel_rfl) (by kernel_rfl) rfl ?_)
 refine wo rfl (wbs Tryz.t3 [.val (.int .i64 0),.val (.int .i64 0),.val (.int .i64 0),.val (.int .i64 0),.val (.int .i64 0),.val (.int .i64 0)] rfl rfl (by decide) (.cons rfl (.cons rfl (.cons rfl (.cons rfl (.cons rfl (.cons rfl .nil)))))) underlying22 (by kernel_rfl) rfl (by decide) (by decide) (by kernel_rfl) (by kernel_rfl) rfl ?_)
 refine go 7 ?_
 exact ⟨.inr rfl,_,⟨bx,rw⟩,uM rfl (aF rfl) (aF rfl),aA (.refl _) (.refl _),rfl,rfl⟩
theorem aPj(s:Sto):aL prog 160 [nI 3] [] s fun t s'=>t=.tup [.c (aF6 (jP 3)),.c (aEm (dS 3))] /\ s'=s:=by
 obtain ⟨bx,rw⟩:=s
 refine acB func160 rfl ?_
 show AWp prog _ ⟨23,_,⟨bx,rw⟩,[(0,nI 3)]⟩ _
 refine go 15 ?_
 refine wcp false rfl rfl (go 6 ?_)
 refine wcp false rfl rfl (go 6 ?_)
 refine wcp false rfl rfl (go 6 ?_)
 refine wcp true rfl (by simp [bC]) (go 6 ?_)
 refine wo rfl (bDk bSq rfl (.cons rfl (.cons rfl .nil)) rfl ?_)
 refine wo rfl (wbs Tryz.t3 [.val (.int .i64 0),.val (.int .i64 0)] rfl rfl (by decide) (.cons rfl (.cons rfl .nil)) underlying22 (by kernel_rfl) rfl (by decide) (by decide) (by kernel_rfl) (by kernel_rfl) rfl ?_)
 refine go 7 ?_
 exact ⟨.inr rfl,_,⟨bx,rw⟩,uM rfl (aF rfl) (aF rfl),aA (.refl _) (.refl _),rfl,rfl⟩
theorem aOe(s:Sto):aL prog 160 [nI 4] [] s fun t s'=>t=.tup [.c (aF6 (jP 4)),.c (aEm (dS 4))] /\ s'=s:=by
 obtain ⟨bx,rw⟩:=s
 refine acB func160 rfl ?_
 show AWp prog _ ⟨23,_,⟨bx,rw⟩,[(0,nI 4)]⟩ _
 refine go 15 ?_
 refine wcp false rfl rfl (go 6 ?_)
 refine wcp false rfl rfl (go 6 ?_)
 refine wcp false rfl rfl (go 6 ?_)
 refine wcp false rfl rfl (go 9 ?_)
 refine wo rfl (bDk bGy rfl (.cons rfl (.cons rfl (.cons rfl .nil))) rfl ?_)
 refine wo rfl (wbs Tryz.t3 [.val (.int .i64 0),.val (.int .i64 0),.val (.int .i64 0)] rfl rfl (by decide) (.cons rfl (.cons rfl (.cons rfl .nil))) underlying22 (by kernel_rfl) rfl (by decide) (by decide) (by kernel_rfl) (by kernel_rfl) rfl ?_)
 refine go 5 ?_
 exact ⟨.inr rfl,_,⟨bx,rw⟩,uM rfl (aF rfl) (aF rfl),aA (.refl _) (.refl _),rfl,rfl⟩
theorem aO6(lv:Nat)(h:lv<5)(s:Sto):aL prog 160 [.c (.val (.int .i64 (lv:Int)))] [] s fun t s'=>t=.tup [.c (aF6 (jP lv)),.c (aEm (dS lv))] /\ s'=s:=by
 rcases (show lv=0∨lv=1∨lv=2∨lv=3∨lv=4 by omega) with rfl|rfl|rfl|rfl|rfl
 ·exact aOi s
 ·exact aOy s
 ·exact aPo s
 ·exact aPj s
 exact aOe s
end
section
def zJ(n:Nat)(l:List UInt8):Nat:=l.foldl (fun n c=>10*n+(c.toNat-48)) n
theorem aEo(n:Nat):zJ n []=n:=rfl
theorem vY(n:Nat)(c:UInt8)(r:List UInt8):zJ n (c::r)=zJ (10*n+(c.toNat-48)) r:=by unfold zJ;rw [List.foldl_cons]
theorem aJ4(l:List UInt8)(c:UInt8)(n:Nat):zJ n (l++[c])=10*zJ n l+(c.toNat-48):=by
 unfold zJ;rw [List.foldl_append];rfl
theorem aEy(k:Nat):cD (UInt8.ofNat (48+k%10))=true:=by
 have hc:(UInt8.ofNat (48+k%10)).toNat=48+k%10:=by rw [UInt8.toNat_ofNat'];omega
 simp only [cD,decide_eq_true_eq,hc];omega
theorem aOv(l:List UInt8):∀n,n <= zJ n l:=by
 induction l with
 |nil=>intro n;exact Nat.le_refl _
 |cons c r ih=>intro n;have:=ih (10*n+(c.toNat-48));rw [vY];omega
theorem aK8(l:List UInt8)(h:∀c∈l,cD c=true):∀n,n <= 9223372036854775807 -> iT n l=if zJ n l <= 9223372036854775807 then some (zJ n l) else none:=by
 induction l with
 |nil=>intro n hn;rw [iT,aEo,if_pos hn]
 |cons c r ih=>
  intro n hn
  have hc:=h c (List.mem_cons_self ..)
  simp only [cD,decide_eq_true_eq] at hc
  rw [iT,vY]
  by_cases ho:(9223372036854775807-(c.toNat-48))/10<n
  ·rw [if_pos ho]
   have:=aOv r (10*n+(c.toNat-48))
   rw [if_neg (by omega)]
  rw [if_neg ho,ih (fun d hd=>h d (List.mem_cons_of_mem _ hd)) _ (by omega)]
theorem aKo(c:UInt8)(h:cD c=true):fU c=false /\ isSp c=false /\ c≠47:=by
 simp only [cD,decide_eq_true_eq] at h
 refine ⟨?_,?_,?_⟩
 ·simp only [fU,decide_eq_false_iff_not];omega
 ·simp only [isSp,decide_eq_false_iff_not];omega
 rintro rfl;revert h;decide
end
section
structure PT where
 kind:Nat
 text:ByteArray
 num:Nat
def Tok.pt(t:Tok):PT:=⟨t.kind,t.text,t.num⟩
def sgn(s:List UInt8):PT:=⟨4,bytes s,0⟩
def wrd(s:List UInt8):PT:=⟨3,bytes s,0⟩
inductive Lx:List UInt8 -> List PT -> Prop where
 |nil {s:List UInt8} (h:eY s=[]):Lx s []
 |cons {s r:List UInt8} {kind len num:Nat} {ps:List PT} (h:eY s=r) (h0:r≠[]) (hn:dQ r=.tok kind len num) (ht:Lx (r.drop len) ps):Lx s (⟨kind,bytes (r.take len),num⟩::ps)
theorem Lx.same{s s':List UInt8}{ps:List PT}(h:Lx s ps)(he:eY s'=eY s):Lx s' ps:=by
 cases h with
 |nil h=>exact .nil (he.trans h)
 |cons h h0 hn ht=>exact .cons (he.trans h) h0 hn ht
theorem Lx.sp{c:UInt8}{r:List UInt8}{ps:List PT}(h:Lx r ps)(hc:isSp c=true):Lx (c::r) ps:=h.same (oP hc)
theorem Lx.bl{r:List UInt8}{ps:List PT}(h:Lx r ps):Lx (32::r) ps:=h.sp (by decide)
theorem Lx.end:Lx [] []:=.nil lO
def uL(r:List UInt8):Prop:=∀c,r.head?=some c -> cT c=false
theorem tB{p:UInt8 -> Bool}{l r:List UInt8}(h:∀c∈l,p c=true)(hr:∀c,r.head?=some c -> p c=false):(l++r).takeWhile p=l:=by
 induction l with
 |nil=>
  cases r with
  |nil=>rfl
  |cons c r=>rw [List.nil_append,List.takeWhile_cons_of_neg];rw [hr c rfl];simp
 |cons c l ih=>rw [List.cons_append,List.takeWhile_cons_of_pos (h c (List.mem_cons_self ..)),ih fun d hd=>h d (List.mem_cons_of_mem _ hd)]
theorem aCe{c:UInt8}(h:fU c=true):isSp c=false /\ c≠47:=by
 simp only [fU,decide_eq_true_eq] at h
 refine ⟨?_,?_⟩
 ·simp only [isSp,decide_eq_false_iff_not];omega
 rintro rfl;revert h;decide
theorem Lx.letters{s r:List UInt8}{ps:List PT}(h:Lx r ps)(c:UInt8)(q:List UInt8)(hs:s=c::q)(hc:fU c=true)(hq:∀d∈q,cT d=true)(hl:s.length <= 16)(hr:uL r):Lx (s++r) (⟨if dA (bytes s) then 3 else 1,bytes s,0⟩::ps):=by
 subst hs
 have ht:((c::q)++r).takeWhile cT=c::q:=tB (fun d hd=>by
  rcases mem_cons.1 hd with rfl|hd
  ·simp [cT,hc]
  exact hq d hd) hr
 have hn:dQ ((c::q)++r)=.tok (if dA (bytes (c::q)) then 3 else 1) (c::q).length 0:=by
  rw [List.cons_append] at ht⊢
  rw [kK hc,ht,if_neg (by omega)]
 have:=Lx.cons (s:=(c::q)++r) (r:=(c::q)++r) (iK (r:=q++r) (aCe hc).1 (fun h=>(aCe hc).2 h.1)) (by simp) hn (ps:=ps) (by rw [List.drop_left];exact h)
 rw [List.take_left] at this
 exact this
theorem aK4(s:ByteArray):bytes s.data.toList=s:=by simp [bytes]
theorem Lx.name{r:List UInt8}{ps:List PT}(h:Lx r ps)(s:ByteArray)(hs:bQ s=true)(hr:uL r):Lx (s.data.toList++r) (⟨1,s,0⟩::ps):=by
 unfold bQ at hs
 split at hs
 ·cases hs
 rename_i c q he
 simp only [Bool.and_eq_true,List.all_eq_true,decide_eq_true_eq,Bool.not_eq_true'] at hs
 obtain ⟨⟨⟨h1,h2⟩,h3⟩,h4⟩:=hs
 have:=h.letters (s:=s.data.toList) c q he h1 h2 (by exact h3) hr
 rw [aK4,h4] at this
 exact this
theorem zI(n:Nat):∀c∈cO n,cD c=true:=by
 induction n using cO.induct with
 |case1 n h=>
  rw [cO,if_pos h]
  intro c hc
  simp only [List.mem_singleton] at hc
  subst hc
  have:=aEy n
  rwa [Nat.mod_eq_of_lt h] at this
 |case2 n h ih=>
  rw [cO,if_neg h]
  intro c hc
  rcases mem_append.1 hc with hc|hc
  ·exact ih c hc
  simp only [List.mem_singleton] at hc;subst hc;exact aEy n
theorem aBi(n:Nat):cO n≠[]:=by rw [cO];split<;>simp
theorem aGk(n:Nat):zJ 0 (cO n)=n:=by
 induction n using cO.induct with
 |case1 n h=>
  have hc:(UInt8.ofNat (48+n)).toNat=48+n:=by rw [UInt8.toNat_ofNat'];omega
  rw [cO,if_pos h,vY,aEo,hc];omega
 |case2 n h ih=>
  have hc:(UInt8.ofNat (48+n%10)).toNat=48+n%10:=by rw [UInt8.toNat_ofNat'];omega
  rw [cO,if_neg h,aJ4,ih,hc];omega
theorem Lx.num{r:List UInt8}{ps:List PT}(h:Lx r ps)(n:Nat)(hn:n <= 9223372036854775807)(hr:uL r):Lx (cO n++r) (⟨2,bytes (cO n),n⟩::ps):=by
 obtain ⟨c,q,he⟩:=List.exists_cons_of_ne_nil (aBi n)
 have hd:=zI n
 have hv:=aK8 (cO n) hd 0 (by omega)
 rw [aGk,if_pos hn] at hv
 have ht:(cO n++r).takeWhile cD=cO n:=tB hd fun c hc=>by
  have:=hr c hc
  unfold cT at this
  simp only [Bool.or_eq_false_iff] at this
  exact this.2
 have hc:=hd c (by rw [he];exact List.mem_cons_self ..)
 have hx:=aKo c hc
 have hnx:dQ (cO n++r)=.tok 2 (cO n).length n:=by
  rw [he,List.cons_append] at ht⊢
  rw [lP hx.1 hc (n:=n) (by rw [ht,←he];exact hv),ht]
 have:=Lx.cons (s:=cO n++r) (r:=cO n++r) (by rw [he];exact iK (r:=q++r) hx.2.1 (fun h=>hx.2.2 h.1)) (by rw [he];simp) hnx (ps:=ps) (by rw [List.drop_left];exact h)
 rw [List.take_left] at this
 exact this
theorem aEc:∀c,c∈dW -> fU c=false /\ cD c=false /\ isSp c=false:=by decide
theorem Lx.one{r:List UInt8}{ps:List PT}(h:Lx r ps)(c:UInt8)(hc:c∈dW)(hr:∀d,r.head?=some d -> [c,d]∉fE /\ ¬(c=47 /\ d=47)):Lx (c::r) (sgn [c]::ps):=by
 obtain ⟨h1,h2,h3⟩:=aEc c hc
 have hno:¬(2 <= (c::r).length /\ (c::r).take 2∈fE):=by
  rintro ⟨h4,h5⟩
  cases r with
  |nil=>simp at h4
  |cons d r=>exact (hr d rfl).1 h5
 have hn:dQ (c::r)=.tok 4 1 0:=by rw [iN h1 h2,oR hno hc];rfl
 exact Lx.cons (iK h3 (fun ⟨h4,h5⟩=>(hr 47 h5).2 ⟨h4,rfl⟩)) (by simp) hn h
theorem aJw:∀x,x∈fE -> fU (x.headD 0)=false /\ cD (x.headD 0)=false /\ isSp (x.headD 0)=false /\ x.headD 0≠47:=by decide
theorem Lx.two{r:List UInt8}{ps:List PT}(h:Lx r ps)(c d:UInt8)(hc:[c,d]∈fE):Lx (c::d::r) (sgn [c,d]::ps):=by
 obtain ⟨h1,h2,h3,h4⟩:=aJw _ hc
 have hn:dQ (c::d::r)=.tok 4 2 0:=by rw [iN (c:=c) h1 h2,pA (l:=c::d::r) (by simp) hc];rfl
 exact Lx.cons (iK h3 (fun h5=>h4 h5.1)) (by simp) hn h
def Fin(r:List UInt8):Prop:=∀c,r.head?=some c -> c∈([32,41,93,59,44]:List UInt8)
theorem Fin.cons{c:UInt8}{r:List UInt8}(h:c∈([32,41,93,59,44]:List UInt8)):Fin (c::r):=fun d hd=>by cases hd;exact h
theorem Fin.nil:Fin []:=fun c hc=>by cases hc
theorem uL.cons{c:UInt8}{r:List UInt8}(h:cT c=false):uL (c::r):=fun d hd=>by cases hd;exact h
theorem aL9:∀c,c∈([40,41,123,125,91,93,44,59,43,45,42,37]:List UInt8) -> c∈dW /\ c≠47 /\ ∀x,x∈fE -> x.headD 0≠c:=by decide
theorem Lx.free{r:List UInt8}{ps:List PT}(h:Lx r ps)(c:UInt8)(hc:c∈([40,41,123,125,91,93,44,59,43,45,42,37]:List UInt8)):Lx (c::r) (sgn [c]::ps):=by
 obtain ⟨h1,h2,h3⟩:=aL9 c hc
 exact h.one c h1 fun d _=>⟨fun hm=>h3 _ hm rfl,fun h4=>h2 h4.1⟩
end
section
inductive VE:aH -> Prop where
 |num (n:Nat) (h:n <= 9223372036854775807):VE (.mk 1 n aK [])
 |name (s:ByteArray) (h:bQ s=true):VE (.mk 2 0 s [])
 |un (op:Int) (x:aH) (h:op=3∨op=4) (hx:VE x):VE (.mk op 0 aK [x])
 |bin (op:Int) (x y:aH) (h:5 <= op /\ op <= 17) (hx:VE x) (hy:VE y):VE (.mk op 0 aK [x,y])
def mF(b:Bool)(t:List PT):List PT:=if b then sgn [40]::(t++[sgn [41]]) else t
def aM3(op num:Int)(name:ByteArray)(ts:List (List PT)):List PT:=
 if op=1 then [⟨2,bytes (cO num.natAbs),num.natAbs⟩] else if op=2 then [⟨1,name,0⟩] else if op=3 then sgn [45]::ts.getD 0 [] else if op=4 then sgn [33]::ts.getD 0 [] else
 ts.getD 0 []++sgn (iW op)::ts.getD 1 []
mutual
def aT:aH -> List PT
 |.mk op num name args=>aM3 op num name (mL op 0 args)
def mL(b:Int):Nat -> List aH -> List (List PT)
 |_,[]=>[]
 |k,e::es=>mF (cV b k e.op) (aT e)::mL b (k+1) es
end
def Sta(r:List UInt8):Prop:=∃c q,r=c::q /\ c≠61 /\ c≠38 /\ c≠124 /\ c≠47
theorem Sta.app{r:List UInt8}(h:Sta r)(s:List UInt8):Sta (r++s):=by
 obtain ⟨c,q,rfl,h1⟩:=h
 exact ⟨c,q++s,rfl,h1⟩
def Seg(l:List Tok)(k:Nat)(ps:List PT):Prop:=ps <+:(l.map Tok.pt).drop k
theorem Seg.app{l:List Tok}{k:Nat}{a b:List PT}(h:Seg l k (a++b)):Seg l k a /\ Seg l (k+a.length) b:=by
 obtain ⟨t,ht⟩:=h
 refine ⟨⟨b++t,by rw [←ht,append_assoc]⟩,⟨t,?_⟩⟩
 rw [←List.drop_drop,←ht,append_assoc,List.drop_left]
def Fol(l:List Tok)(k m:Nat):Prop:=¬((bU l k).kind=4 /\ m <= (binOp (bU l k).text).2)
theorem Fol.mono{l:List Tok}{k m n:Nat}(h:Fol l k m)(hn:m <= n):Fol l k n:=fun hh=>h ⟨hh.1,by omega⟩
section
variable {l:List Tok}
structure Reads (l:List Tok) (e:aH):Prop where
 single:∀d k,dI e <= d -> Seg l k (aT e) -> 5 <= aM e.op -> bL l d k=.ok e (k+(aT e).length)
 bin:∀d k j,dI e <= d -> Seg l k (aT e) -> j <= 5 -> 5 <= aM e.op+j -> Fol l (k+(aT e).length) (6-j) -> gS l (bL l d) j k=.ok e (k+(aT e).length)
 chain:∀d k j,dI e <= d -> Seg l k (aT e) -> j<5 -> 5 <= aM e.op+(j+1) -> Fol l (k+(aT e).length) (6-j) -> ∃a k0 m,gS l (bL l d) j k=.ok a k0 /\ m <= (aT e).length /\ ∀n,fR l (gS l (bL l d) j) (5-j) (m+n) a k0=fR l (gS l (bL l d) j) (5-j) n e (k+(aT e).length)
theorem Reads.of{e:aH}(single:∀d k,dI e <= d -> Seg l k (aT e) -> 5 <= aM e.op -> bL l d k=.ok e (k+(aT e).length))
  (step:∀d k j,dI e <= d -> Seg l k (aT e) -> j<5 -> aM e.op+j=4 -> Fol l (k+(aT e).length) (6-j) -> ∃a k0 m,gS l (bL l d) j k=.ok a k0 /\ m <= (aT e).length /\ ∀n,fR l (gS l (bL l d) j) (5-j) (m+n) a k0=fR l (gS l (bL l d) j) (5-j) n e (k+(aT e).length)):Reads l e:=by
 have bin:∀j d k,dI e <= d -> Seg l k (aT e) -> j <= 5 -> 5 <= aM e.op+j -> Fol l (k+(aT e).length) (6-j) -> gS l (bL l d) j k=.ok e (k+(aT e).length):=by
  intro j
  induction j with
  |zero=>intro d k hd hs _ h5 hf;exact single d k hd hs (by omega)
  |succ j ih=>
   intro d k hd hs hj h5 hf
   by_cases h6:5 <= aM e.op+j
   ·unfold gS
    rw [ih d k hd hs (by omega) h6 (hf.mono (by omega))]
    show fR l _ (5-j) (l.length+1) _ _=_
    unfold fR
    rw [if_neg]
    rintro ⟨h1,h2⟩
    exact hf ⟨h1,by omega⟩
   obtain ⟨a,k0,m,h1,h2,h3⟩:=step d k j hd hs (by omega) (by omega) (hf.mono (by omega))
   have hl:(aT e).length <= l.length:=by
    obtain ⟨t,ht⟩:=hs
    have:=congrArg List.length ht
    simp at this;omega
   unfold gS
   rw [h1]
   show fR l _ (5-j) (l.length+1) _ _=_
   have:=h3 (l.length-m+1)
   rw [show m+(l.length-m+1)=l.length+1 by omega] at this
   rw [this]
   unfold fR
   rw [if_neg]
   rintro ⟨h1,h2⟩
   exact hf ⟨h1,by omega⟩
 refine ⟨single,fun d k j hd hs hj h5 hf=>bin j d k hd hs hj h5 hf,fun d k j hd hs hj h5 hf=>?_⟩
 by_cases h6:5 <= aM e.op+j
 ·exact ⟨e,_,0,bin j d k hd hs (by omega) h6 hf,by omega,fun n=>by rw [Nat.zero_add]⟩
 exact step d k j hd hs hj (by omega) hf
end
end
end Go.Proofs.YtojinfngbbajgaaGreatDoor
