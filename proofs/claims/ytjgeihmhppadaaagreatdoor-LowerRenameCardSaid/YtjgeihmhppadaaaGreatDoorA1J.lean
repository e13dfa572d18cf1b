import Derived.Test.YtjgeihmhppadaaaGreatDoorM0J
import Derived.WalkSpells
import Derived.WalkLawsBesides
import Derived.Lib.Hide
import Derived.Lib.IndexAny
set_option linter.all false
namespace Go.Proofs.YtjgeihmhppadaaaGreatDoor
section
open Go.RowKit
theorem ownsRow_below{w w':World}{base B:Nat}{e:TypeId}{size:Nat}{v:Value}{n:Nat}{xs:List Value}(h:w.ownsRow base e size v n xs)(hb:Below B w w')(hB:w.heap.size <= B):w'.ownsRow base e size v n xs:=by
 obtain ⟨h1,h2⟩:=h
 refine ⟨h1,?_⟩
 rcases h2 with h2|⟨g,cap,cur,hv,hg,hh,r⟩
 ·exact .inl h2
 refine .inr ⟨g,cap,cur,hv,hg,?_,r⟩
 have hlt:g<w.heap.size:=by
  rcases Nat.lt_or_ge g w.heap.size with h|h
  ·exact h
  rw [Array.getElem?_eq_none h] at hh;cases hh
 rw [hb.block g J];exact hh
theorem ownsRow_nil(w:World)(base:Nat)(e:TypeId)(size:Nat):w.ownsRow base e size (.slice none 0 0) 0 []:=⟨G0,.inl ⟨rfl,rfl⟩⟩
def dD(w:World)(v:Value)(n:Nat)(cells:List Value):Prop:=
 ∃a cap,v=.slice a n cap /\ n <= cap /\ (cells=[]∨∃b off,a=some ⟨b,off,none⟩ /\ ∀j u,cells[j]?=some u -> w.cell? ⟨b,off+j,none⟩=some u)
theorem gV{w:World}{a:Addr}{u:Value}(h:w.cell? a=some u):a.block<w.heap.size:=by
 unfold World.cell? at h
 rcases Nat.lt_or_ge a.block w.heap.size with hl|hl
 ·exact hl
 rw [Array.getElem?_eq_none hl] at h;cases h
theorem dD.below{w w':World}{B:Nat}{v:Value}{n:Nat}{cells:List Value}(h:dD w v n cells)(hb:Below B w w')(hB:w.heap.size <= B):dD w' v n cells:=by
 obtain ⟨a,cap,rfl,hc,h⟩:=h
 refine ⟨a,cap,Y,hc,h.imp id λ⟨b,off,ha,hr⟩=>⟨b,off,ha,λj u hu=>?_⟩⟩
 have h1:=hr j u hu
 rw [hb.cell (p:=⟨b,off+j,none⟩) (Nat.lt_of_lt_of_le (gV h1) hB)];exact h1
theorem dD.nil(w:World):dD w (.slice none 0 0) 0 []:=⟨none,0,rfl,Nat.le_refl _,.inl rfl⟩
theorem dD.of_owns{w:World}{base:Nat}{e:TypeId}{size:Nat}{v:Value}{n:Nat}{xs:List Value}(h:w.ownsRow base e size v n xs):dD w v n xs:=by
 obtain ⟨h1,h2⟩:=h
 rcases h2 with ⟨rfl,rfl⟩|⟨g,cap,cur,rfl,hg,hh,hc,_,hs,ht⟩
 ·obtain rfl:xs=[]:=List.eq_nil_of_length_eq_zero C2
  exact .nil w
 refine ⟨_,_,Y,hc,.inr ⟨g,0,Y,λj u hu=>?_⟩⟩
 rw [←ht] at hu
 rw [List.getElem?_take] at hu
 split at hu
 ·unfold World.cell?
  simp only [hh]
  simpa using hu
 cases hu
theorem aN8{w:World}{base:Nat}{e:TypeId}{size:Nat}{v:Value}{n:Nat}{xs:List Value}(h:w.ownsRow base e size v n xs){k:Nat}(hk:v.ownBlock=some k):base <= k:=by
 obtain ⟨h1,h2⟩:=h
 rcases h2 with ⟨rfl,rfl⟩|⟨g,cap,cur,rfl,hg,_⟩
 ·simp [Value.ownBlock] at hk
 simp [Value.ownBlock] at hk;omega
theorem lR{w:World}{base:Nat}{e:TypeId}{size:Nat}{v:Value}{n:Nat}{xs:List Value}(h:w.ownsRow base e size v n xs):∃a c,v=.slice a n c:=by
 obtain ⟨_,⟨rfl,rfl⟩|⟨g,cap,cur,rfl,_⟩⟩:=h
 ·exact ⟨_,_,Y⟩
 exact ⟨_,_,Y⟩
theorem sK(w:World)(l:List Value)(T:TypeId):∀j u,l[j]?=some u -> (w.alloc (Obj.cells l.toArray T)).cell? ((⟨w.heap.size,0,none⟩:Addr).add j)=some u:=by
 intro j u hu
 have e:(⟨w.heap.size,0,none⟩:Addr).add j=⟨w.heap.size,j,none⟩:=Cl
 rw [e]
 simp [go_sem,hu]
theorem bXs(w:World)(l:List Value)(T:TypeId)(n:Nat)(hn:n=w.heap.size):∀j u,l[j]?=some u -> (w.alloc (Obj.cells l.toArray T)).cell? ((⟨n,0,none⟩:Addr).add j)=some u:=by
 subst hn;exact sK w l T
theorem pF{w:World}{base:Nat}{e:TypeId}{size:Nat}{v:Value}{n:Nat}{xs:List Value}(h:w.ownsRow base e size v n xs){k:Nat}(hk:v.ownBlock=some k):k<w.heap.size:=by
 obtain ⟨_,⟨rfl,rfl⟩|⟨g,cap,cur,rfl,_,hh,_⟩⟩:=h
 ·simp [Value.ownBlock] at hk
 simp [Value.ownBlock] at hk;subst hk
 rcases Nat.lt_or_ge g w.heap.size with h|h
 ·exact h
 rw [Array.getElem?_eq_none h] at hh;cases hh
theorem aKa{wr w w':World}{v:Value}{base n size:Nat}{e:TypeId}{xs:List Value}(hg:w.grownBy w' v.ownBlock)(hown:wr.ownsRow base e size v n xs){k:Nat}(h1:wr.heap.size <= k)(h2:k<w.heap.size)(o:Nat):w'.cell? ⟨k,o,none⟩=w.cell? ⟨k,o,none⟩:=
 World.cell?_of_block (a:=⟨k,o,none⟩) (hg.block k h2 (λh=>by have:=pF hown h.symm;omega))
theorem dD.new(w:World)(l:List Value)(T:TypeId)(n:Nat):dD (w.alloc (Obj.cells l.toArray T)) (.slice (some ⟨w.heap.size,0,none⟩) n n) n l:=
 ⟨_,_,rfl,Nat.le_refl _,.inr ⟨_,0,rfl,λj u hu=>by simp [go_sem,hu]⟩⟩
theorem sI{a b:ByteArray}(h:a.data.toList=b.data.toList):a=b:=by
 cases a;cases b;simp at h;subst h;rfl
theorem zZ{a b:ByteArray}(h:a=b):(a.toList == b.toList)=true:=by subst h;simp
theorem xB{a b:ByteArray}(h:a≠b):(a.toList == b.toList)=false:=by
 rw [beq_eq_false_iff_ne];intro e;apply h;rw [ByteArray.toList_eq,ByteArray.toList_eq] at e;exact sI e
theorem dD.new_at(w:World)(l:List Value)(T:TypeId)(n k:Nat)(hk:k=w.heap.size):dD (w.alloc (Obj.cells l.toArray T)) (.slice (some ⟨k,0,none⟩) n n) n l:=by
 subst hk;exact dD.new w l T n
theorem Below.step{w a b:World}(h:Below w.heap.size w a)(hb:Below a.heap.size a b):Below w.heap.size w b:=h.trans (hb.mono h.size)
theorem Below.grow{B:Nat}{W w w':World}{v:Value}{base n size:Nat}{e:TypeId}{xs:List Value}(h:Below B W w)(hg:w.grownBy w' v.ownBlock)(hB:B <= w.heap.size)(hown:w.ownsRow base e size v n xs)(hb:B <= base):Below B W w':=
 Below.grown h hg hB (λ_ hk=>Nat.le_trans hb (aN8 hown hk))
end
section
def isSp(c:UInt8):Bool:=decide ((c.toNat:Int)=32∨(c.toNat:Int)=9∨(c.toNat:Int)=13∨(c.toNat:Int)=10)
def fU(c:UInt8):Bool:=decide ((97 <= (c.toNat:Int) /\ (c.toNat:Int) <= 122)∨(65 <= (c.toNat:Int) /\ (c.toNat:Int) <= 90)∨(c.toNat:Int)=95)
def cD(c:UInt8):Bool:=decide (48 <= (c.toNat:Int) /\ (c.toNat:Int) <= 57)
def cT(c:UInt8):Bool:=fU c||cD c
def eY:List UInt8 -> List UInt8
 |[]=>[]
 |c::r=>if isSp c then eY r else if c=47 /\ r.head?=some 47 then eY (r.dropWhile (·!= 10)) else c::r
termination_by l=>l.length
decreasing_by
 ·simp
 have:=(List.dropWhile_sublist (l:=r) (·!= 10)).length_le;simp;omega
theorem lO:eY []=[]:=by rw [eY]
theorem oP{c:UInt8}{r:List UInt8}(h:isSp c=true):eY (c::r)=eY r:=by rw [eY,if_pos h]
theorem wJ{r:List UInt8}:eY (47::47::r)=eY (r.dropWhile (·!= 10)):=by
 rw [eY,if_neg V,if_pos ⟨rfl,rfl⟩];rfl
theorem iK{c:UInt8}{r:List UInt8}(h:isSp c=false)(hc:¬(c=47 /\ r.head?=some 47)):eY (c::r)=c::r:=by
 rw [eY,if_neg Dq,if_neg hc]
theorem pN(l:List UInt8):eY l <:+l:=by
 induction l using eY.induct with
 |case1=>rw [eY];exact List.suffix_refl _
 |case2 c r h ih=>rw [oP h];exact ih.trans (List.suffix_cons c r)
 |case3 c r h hc ih=>rw [eY,if_neg h,if_pos hc];exact (ih.trans (List.dropWhile_suffix _)).trans (List.suffix_cons c r)
 |case4 c r h hc=>rw [eY,if_neg h,if_neg hc];exact List.suffix_refl _
def bF(s:List UInt8)(k:Nat):Nat:=s.length-(eY (s.drop k)).length
theorem aLf(s:List UInt8)(k:Nat):bF s k <= s.length:=Nat.sub_le _ _
theorem lG(s:List UInt8)(k:Nat)(hk:k <= s.length):k <= bF s k:=by
 have:=(pN (s.drop k)).length_le
 rw [List.length_drop] at this
 unfold bF;omega
theorem aFu{α:Type}{a l:List α}(h:a <:+l):l.drop (l.length-a.length)=a:=by
 obtain ⟨t,rfl⟩:=h;simp
theorem qJ(s:List UInt8)(k:Nat):s.drop (bF s k)=eY (s.drop k):=
 aFu ((pN _).trans (List.drop_suffix k s))
theorem dR(s:List UInt8)(k:Nat)(hk:k<s.length):s.drop k=s[k]::s.drop (k+1):=List.drop_eq_getElem_cons hk
theorem aGh(s:List UInt8)(k:Nat)(hk:k<s.length)(h:isSp s[k]=true):bF s (k+1)=bF s k:=by
 unfold bF;rw [dR s k hk,oP h]
theorem aA5(s:List UInt8)(k:Nat)(hk:s.length <= k):bF s k=s.length:=by
 unfold bF;rw [List.drop_eq_nil_of_le hk,lO];simp
theorem zX(s:List UInt8)(k:Nat)(hk:k<s.length)(h:isSp s[k]=false)(hc:¬(s[k]=47 /\ (s.drop (k+1)).head?=some 47)):bF s k=k:=by
 unfold bF;rw [dR s k hk,iK h hc];simp;omega
theorem sZ(l:List UInt8):Lib.hasPrefix l [47,47]=true↔∃r,l=47::47::r:=by
 unfold Lib.hasPrefix
 rcases l with _|⟨a,_|⟨b,r⟩⟩<;>simp [List.isPrefixOf]
 constructor
 ·rintro ⟨rfl,rfl⟩;exact ⟨rfl,rfl⟩
 rintro ⟨rfl,rfl⟩;exact ⟨rfl,rfl⟩
theorem aAl(l:List UInt8)(c:UInt8):(Lib.indexByte l c<0 -> l.dropWhile (·!= c)=[]) /\ (∀j:Nat,Lib.indexByte l c=j -> l.dropWhile (·!= c)=l.drop j /\ j<l.length):=by
 induction l with
 |nil=>simp [Lib.indexByte]
 |cons b l ih=>
  unfold Lib.indexByte
  by_cases h:b=c
  ·subst h;simp;intro j hj;obtain rfl:j=0:=J
   simp
  have hb:(b == c)=false:=Dq
  have hn:(b != c)=true:=Dq
  rw [hb,show (b::l).dropWhile (·!= c)=l.dropWhile (·!= c) from List.dropWhile_cons_of_pos hn]
  by_cases hm:Lib.indexByte l c=-1
  ·simp [hm];exact ih.1 J
  have h1:(Lib.indexByte l c == -1)=false:=by simp [hm]
  simp only [h1,Bool.false_eq_true,if_false]
  refine ⟨λh=>ih.1 J,λj hj=>?_⟩
  obtain ⟨j,rfl⟩:∃i,j=i+1:=by
   refine ⟨j-1,?_⟩
   have h0:j≠0:=by
    rintro rfl
    have:=ih.1 J
    have h2:-1 <= Lib.indexByte l c:=by
     clear ih hm h1 hj this
     induction l with
     |nil=>simp [Lib.indexByte]
     |cons x l ih=>
      unfold Lib.indexByte
      split
      ·omega
      split<;>omega
    omega
   omega
  have:=ih.2 j J
  refine ⟨by rw [this.1];rfl,DR⟩
theorem aJa(s:List UInt8)(k:Nat)(hk:k<s.length)(h:Lib.hasPrefix (s.drop k) [47,47]=true):
  (Lib.indexByte (s.drop k) 10<0 -> bF s k=s.length) /\ (∀j:Nat,Lib.indexByte (s.drop k) 10=j -> bF s (k+j)=bF s k /\ k+j <= s.length /\ 0<j):=by
 obtain ⟨r,hr⟩:=(sZ _).1 h
 have hd:=aAl (s.drop k) 10
 have e:(s.drop k).dropWhile (·!= 10)=r.dropWhile (·!= 10):=by rw [hr];rfl
 refine ⟨λhn=>?_,λj hj=>?_⟩
 ·have:=hd.1 hn
  unfold bF;rw [hr,wJ,←e,this,lO];simp
 have:=hd.2 j hj
 refine ⟨?_,?_,?_⟩
 ·unfold bF;rw [hr,wJ,←e,this.1,List.drop_drop]
 ·have:=this.2;rw [List.length_drop] at this;omega
 rcases Nat.eq_zero_or_pos j with rfl|h0
 ·rw [hr] at hj;simp [Lib.indexByte] at hj
  split at hj<;>(try split at hj)<;>omega
 exact h0
def words:List ByteArray:=[⟨#[118,97,114]⟩,⟨#[109,117,116,101,120]⟩,⟨#[114,109,117,116,101,120]⟩,⟨#[102,117,110,99]⟩,⟨#[108,111,99,107]⟩,⟨#[117,110,108,111,99,107]⟩,⟨#[103,111]⟩,⟨#[105,102]⟩,⟨#[101,108,115,101]⟩,⟨#[119,104,105,108,101]⟩,⟨#[114,101,116,117,114,110]⟩]
def dA(s:ByteArray):Bool:=words.any λx=>decide (x=s)
theorem cZx(s:ByteArray):dA s=true↔s∈words:=by simp [dA]
def iT:Nat -> List UInt8 -> Option Nat
 |n,[]=>some n
 |n,c::r=>if (9223372036854775807-(c.toNat-48))/10<n then none else iT (10*n+(c.toNat-48)) r
def fE:List (List UInt8):=[[60,61],[62,61],[61,61],[33,61],[38,38],[124,124]]
def dW:List UInt8:=[40,41,123,125,91,93,44,59,61,43,45,42,47,37,60,62,33]
def jE(l:List UInt8):Nat:=if 2 <= l.length /\ l.take 2∈fE then 2 else if ∃c,l.head?=some c /\ c∈dW then 1 else 0
def bytes(l:List UInt8):ByteArray:=⟨l.toArray⟩
inductive Next where
 |tok (kind len num:Nat)
 |err (e:Nat)
def dQ(l:List UInt8):Next:=
 if fU (l.headD 0) then
  if 16<(l.takeWhile cT).length then .err 3 else .tok (if dA (bytes (l.takeWhile cT)) then 3 else 1) (l.takeWhile cT).length 0
 else if cD (l.headD 0) then
  match iT 0 (l.takeWhile cD) with
  |none=>.err 2
  |some n=>.tok 2 (l.takeWhile cD).length n
 else if jE l=0 then .err 1 else .tok 4 (jE l) 0
structure Tok where
 kind:Nat
 text:ByteArray
 num:Nat
 pos:Nat
 deriving DecidableEq,Inhabited
inductive fX where
 |ok (l:List Tok)
 |err (pos e:Nat)
def fX.cons(t:Tok):fX -> fX
 |.ok l=>.ok (t::l)
 |.err p e=>.err p e
def fX.app(l:List Tok):fX -> fX
 |.ok r=>.ok (l++r)
 |.err p e=>.err p e
theorem fX.app_nil(r:fX):fX.app [] r=r:=by cases r<;>rfl
theorem fX.app_cons(l:List Tok)(t:Tok)(r:fX):fX.app l (fX.cons t r)=fX.app (l++[t]) r:=by cases r<;>simp [fX.app,fX.cons]
def kD(s:List UInt8)(k n:Nat):fX:=
 if s.length <= bF s k then .ok [⟨5,⟨#[]⟩,0,s.length⟩]
 else match dQ (s.drop (bF s k)) with
  |.err e=>.err (bF s k) e
  |.tok kind len num=>
   if n=4000 then .err (bF s k) 3
   else if _h:k<bF s k+len /\ k<s.length then fX.cons ⟨kind,bytes ((s.drop (bF s k)).take len),num,bF s k⟩ (kD s (bF s k+len) (n+1))
   else .err 0 0
termination_by s.length-k
def iH(s:List UInt8):fX:=if 262144<s.length then .err 262144 3 else kD s 0 0
theorem kK{c:UInt8}{r:List UInt8}(h:fU c=true):dQ (c::r)=if 16<((c::r).takeWhile cT).length then .err 3 else .tok (if dA (bytes ((c::r).takeWhile cT)) then 3 else 1) ((c::r).takeWhile cT).length 0:=by
 unfold dQ;rw [List.headD_cons,if_pos h]
theorem nK{c:UInt8}{r:List UInt8}(h:fU c=false)(hd:cD c=true)(hn:iT 0 ((c::r).takeWhile cD)=none):dQ (c::r)=.err 2:=by
 unfold dQ;rw [List.headD_cons,if_neg Dq,if_pos hd,hn]
theorem lP{c:UInt8}{r:List UInt8}{n:Nat}(h:fU c=false)(hd:cD c=true)(hn:iT 0 ((c::r).takeWhile cD)=some n):dQ (c::r)=.tok 2 ((c::r).takeWhile cD).length n:=by
 unfold dQ;rw [List.headD_cons,if_neg Dq,if_pos hd,hn]
theorem iN{c:UInt8}{r:List UInt8}(h:fU c=false)(hd:cD c=false):dQ (c::r)=if jE (c::r)=0 then .err 1 else .tok 4 (jE (c::r)) 0:=by
 unfold dQ;rw [List.headD_cons,if_neg Dq,if_neg (by simp [hd])]
theorem aEk(l:List UInt8):jE l <= 2 /\ jE l <= l.length:=by
 unfold jE
 by_cases h:2 <= l.length /\ l.take 2∈fE
 ·rw [if_pos h];exact ⟨J,h.1⟩
 rw [if_neg h]
 by_cases h2:∃c,l.head?=some c /\ c∈dW
 ·rw [if_pos h2];obtain ⟨c,hc,_⟩:=h2;cases l<;>simp at hc⊢
 rw [if_neg h2];omega
theorem cZy{l:List UInt8}(hl:l≠[]){kind len num:Nat}(h:dQ l=.tok kind len num):0<len /\ len <= l.length:=by
 obtain ⟨c,r,rfl⟩:=List.exists_cons_of_ne_nil hl
 cases hc:fU c with
 |true=>
  rw [kK hc] at h
  by_cases hl:16<((c::r).takeWhile cT).length
  ·rw [if_pos hl] at h;cases h
  ·rw [if_neg hl] at h
   injection h with _ h2 _
   rw [←h2]
   exact ⟨by rw [List.takeWhile_cons_of_pos (by simp [cT,hc])];simp,(List.takeWhile_sublist _).length_le⟩
 |false=>
  cases hd:cD c with
  |true=>
   cases hn:iT 0 ((c::r).takeWhile cD) with
   |none=>rw [nK hc hd hn] at h;cases h
   |some n=>
    rw [lP hc hd hn] at h
    injection h with _ h2 _
    rw [←h2]
    exact ⟨by rw [List.takeWhile_cons_of_pos hd];simp,(List.takeWhile_sublist _).length_le⟩
  |false=>
   rw [iN hc hd] at h
   by_cases h0:jE (c::r)=0
   ·rw [if_pos h0] at h;cases h
   rw [if_neg h0] at h
   injection h with _ h2 _
   rw [←h2]
   exact ⟨J,(aEk _).2⟩
theorem dAd{s:List UInt8}{k n:Nat}(h:s.length <= bF s k):kD s k n=.ok [⟨5,⟨#[]⟩,0,s.length⟩]:=by
 rw [kD,if_pos h]
theorem uY{s:List UInt8}{k n e:Nat}(h:bF s k<s.length)(he:dQ (s.drop (bF s k))=.err e):kD s k n=.err (bF s k) e:=by
 rw [kD,if_neg J,he]
theorem sG{s:List UInt8}{k kind len num:Nat}(h:bF s k<s.length)(he:dQ (s.drop (bF s k))=.tok kind len num):kD s k 4000=.err (bF s k) 3:=by
 rw [kD,if_neg J,he];simp
theorem nD{s:List UInt8}{k n kind len num:Nat}(hk:k <= s.length)(h:bF s k<s.length)(he:dQ (s.drop (bF s k))=.tok kind len num)(hn:n≠4000):
  kD s k n=fX.cons ⟨kind,bytes ((s.drop (bF s k)).take len),num,bF s k⟩ (kD s (bF s k+len) (n+1)):=by
 have h1:=lG s k hk
 have h2:=cZy (by intro hd;have:=congrArg List.length hd;simp at this;omega) he
 rw [kD,if_neg J,he]
 simp only [hn,if_false]
 rw [dif_pos ⟨J,J⟩]
theorem aAs(x:UInt8)(l sub:List UInt8):Lib.contains (x::l) sub=(sub.isPrefixOf (x::l)||Lib.contains l sub):=by
 have:=Lib.index_ge l sub
 unfold Lib.contains
 rw [Lib.index]
 cases h:sub.isPrefixOf (x::l) with
 |true=>simp
 |false=>
  simp only [Bool.false_eq_true,if_false,Bool.false_or]
  by_cases hm:Lib.index l sub=-1
  ·simp [hm]
  have h1:(Lib.index l sub == -1)=false:=by simp [hm]
  simp only [h1,Bool.false_eq_true,if_false]
  congr 1;apply propext;omega
theorem aC4(a b:UInt8)(l:List UInt8):Lib.contains l [a,b]=true↔(a,b)∈l.zip l.tail:=by
 induction l with
 |nil=>simp [Lib.contains,Lib.index]
 |cons x l ih=>
  rw [aAs,Bool.or_eq_true,ih]
  cases l with
  |nil=>simp [List.isPrefixOf]
  |cons y r=>simp [List.isPrefixOf]
def wG:List UInt8:=[60,61,32,62,61,32,61,61,32,33,61,32,38,38,32,124,124]
theorem aBy(a b:UInt8)(ha:a≠32)(hb:b≠32):Lib.contains wG [a,b]=true↔[a,b]∈fE:=by
 rw [aC4]
 simp only [wG,fE,List.zip,List.tail,List.zipWith,List.mem_cons,Prod.mk.injEq,List.cons.injEq,and_true,List.not_mem_nil,or_false]
 constructor
 ·intro h
  rcases h with h|h|h|h|h|h|h|h|h|h|h|h|h|h|h|h
  all_goals (obtain ⟨h1,h2⟩:=h;first|exact absurd h1 ha|exact absurd h2 hb|(subst h1;subst h2;decide))
 intro h
 rcases h with h|h|h|h|h|h
 all_goals (obtain ⟨h1,h2⟩:=h;subst h1;subst h2;decide)
theorem rK(a b:UInt8)(h:[a,b]∈fE):a≠32 /\ b≠32:=by
 simp only [fE,List.mem_cons,List.cons.injEq,and_true,List.not_mem_nil,or_false] at h
 rcases h with h|h|h|h|h|h
 all_goals (obtain ⟨h1,h2⟩:=h;subst h1;subst h2;decide)
theorem vL(c:UInt8):Lib.indexByte dW c<0↔c∉dW:=by
 have:=Lib.contains_iff_indexByte dW c
 constructor
 ·intro h hm
  rw [List.contains_iff_mem.2 hm] at this
  have:=of_decide_eq_true this.symm
  omega
 intro h
 rw [Bool.eq_false_iff.2 (λhc=>h (List.contains_iff_mem.1 hc))] at this
 have:=of_decide_eq_false this.symm
 omega
theorem pA{l:List UInt8}(h:2 <= l.length)(hm:l.take 2∈fE):jE l=2:=if_pos ⟨h,hm⟩
theorem oR{c:UInt8}{r:List UInt8}(h:¬(2 <= (c::r).length /\ (c::r).take 2∈fE))(hc:c∈dW):jE (c::r)=1:=by
 unfold jE;rw [if_neg h,if_pos ⟨c,rfl,hc⟩]
theorem tL{c:UInt8}{r:List UInt8}(h:¬(2 <= (c::r).length /\ (c::r).take 2∈fE))(hc:c∉dW):jE (c::r)=0:=by
 unfold jE;rw [if_neg h,if_neg (by rintro ⟨d,hd,hs⟩;cases hd;exact hc hs)]
end
section
theorem aHj(s:List UInt8)(k j:Nat)(hk:k+1<s.length)(h1:s[k]=47)(h2:s[k+1]=47)(hj:(s.drop k).dropWhile (·!= 10)=s.drop j):bF s j=bF s k:=by
 have e:s.drop k=47::47::s.drop (k+2):=by rw [dR s k J,dR s (k+1) hk,h1,h2]
 have e2:(s.drop k).dropWhile (·!= 10)=(s.drop (k+2)).dropWhile (·!= 10):=by rw [e];rfl
 unfold bF
 rw [←hj,e2]
 conv=>rhs;rw [e,wJ]
theorem aK3(s:List UInt8)(k j:Nat)(hj:j<s.length)(h:(s.drop k).dropWhile (·!= 10)=(s.drop j).dropWhile (·!= 10)):
  (s[j]=10 -> (s.drop k).dropWhile (·!= 10)=s.drop j) /\ (s[j]≠10 -> (s.drop k).dropWhile (·!= 10)=(s.drop (j+1)).dropWhile (·!= 10)):=by
 rw [h,dR s j hj]
 refine ⟨λe=>?_,λe=>?_⟩
 ·rw [List.dropWhile_cons_of_neg (by simp [e])]
 rw [List.dropWhile_cons_of_pos (by simpa using e)]
theorem aGs{s:List UInt8}{k:Nat}(hk:k<s.length)(h:¬(∃h2:k+1<s.length,s[k]=47 /\ s[k+1]=47)):¬(s[k]=47 /\ (s.drop (k+1)).head?=some 47):=by
 rintro ⟨h1,h2⟩
 apply h
 rw [List.head?_drop] at h2
 obtain ⟨h3,h4⟩:=List.getElem?_eq_some_iff.1 h2
 exact ⟨h3,h1,h4⟩
theorem aJ1(c:UInt8)(n:Nat)(m:Int)(hm:m=(n:Int))(hn:n<256):(c=UInt8.ofNat n -> ((c.toNat:Int) == m)=true /\ ((c.toNat:Int) != m)=false) /\ (c≠UInt8.ofNat n -> ((c.toNat:Int) == m)=false /\ ((c.toNat:Int) != m)=true):=by
 subst hm
 refine ⟨λh=>?_,λh=>?_⟩
 ·subst h
  have:(UInt8.ofNat n).toNat=n:=Dd
  rw [this];simp
 have:(c.toNat:Int)≠n:=by
  intro h3;apply h;apply UInt8.toNat_inj.1;rw [UInt8.toNat_ofNat'];omega
 simp [this]
end
section
end
end Go.Proofs.YtjgeihmhppadaaaGreatDoor
