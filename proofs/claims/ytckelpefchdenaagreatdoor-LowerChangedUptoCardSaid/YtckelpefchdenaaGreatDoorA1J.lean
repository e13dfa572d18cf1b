import Derived.Test.YtckelpefchdenaaGreatDoorM0J
import Derived.WalkSpells
import Derived.WalkLawsBesides
import Derived.Lib.Hide
import Derived.Lib.IndexAny
set_option linter.all false
namespace Go.Proofs.YtckelpefchdenaaGreatDoor
section
open Go.RowKit
def ownsRow_below{w w':aa}{base B:Nat}{e:ax}{size:Nat}{v:aN}{n:Nat}{xs:List aN}(h:w.ownsRow base e size v n xs)(hb:Below B w w')(hB:w.heap.size <= B):w'.ownsRow base e size v n xs:=by
 obtain ⟨h1,h2⟩:=h;refine ⟨h1,?_⟩;rcases h2 with h2|⟨g,cap,cur,hv,hg,hh,r⟩
 ·exact .inl h2
 refine .inr ⟨g,cap,cur,hv,hg,?_,r⟩;have hlt:g<w.heap.size:=by
  rcases jn g w.heap.size with h|h
  ·exact h
  rw [qO h] at hh;cases hh
 rw [hb.block g Y];exact hh
def ownsRow_nil(w:aa)(base:Nat)(e:ax)(size:Nat):w.ownsRow base e size (.slice none 0 0) 0 []:=⟨aM,.inl ⟨rfl,rfl⟩⟩
def eD(w:World)(v:Value)(n:Nat)(cells:List Value):Prop:=
 ∃a cap,v=.slice a n cap /\ n <= cap /\ (cells=[]∨∃b off,a=some ⟨b,off,none⟩ /\ ∀j u,cells[j]?=some u -> w.cell? ⟨b,off+j,none⟩=some u)
def mj{w:aa}{a:Addr}{u:aN}(h:w.cell? a=some u):a.block<w.heap.size:=by
 unfold World.cell? at h;rcases jn a.block w.heap.size with hl|hl
 ·exact hl
 rw [qO hl] at h;cases h
def eD.below{w w':aa}{B:Nat}{v:aN}{n:Nat}{cells:List aN}(h:eD w v n cells)(hb:Below B w w')(hB:w.heap.size <= B):eD w' v n cells:=by
 obtain ⟨a,cap,rfl,hc,h⟩:=h;refine ⟨a,cap,J,hc,h.imp id λ⟨b,off,ha,hr⟩=>⟨b,off,ha,λj u hu=>?_⟩⟩;have h1:=hr j u hu;rw [hb.cell (p:=⟨b,off+j,none⟩) (mM (mj h1) hB)];exact h1
def eD.nil(w:aa):eD w (.slice none 0 0) 0 []:=⟨none,0,rfl,bY _,.inl rfl⟩
def eD.Fk{w:aa}{base:Nat}{e:ax}{size:Nat}{v:aN}{n:Nat}{xs:List aN}(h:w.ownsRow base e size v n xs):eD w v n xs:=by
 obtain ⟨h1,h2⟩:=h;rcases h2 with ⟨rfl,rfl⟩|⟨g,cap,cur,rfl,hg,hh,hc,_,hs,ht⟩
 ·obtain rfl:xs=[]:=yz ta;exact .nil w
 refine ⟨_,_,J,hc,.inr ⟨g,0,J,λj u hu=>?_⟩⟩;rw [←ht] at hu;rw [pD] at hu;split at hu
 ·unfold World.cell?;simp only [hh];simpa using hu
 cases hu
def Ta{w:aa}{base:Nat}{e:ax}{size:Nat}{v:aN}{n:Nat}{xs:List aN}(h:w.ownsRow base e size v n xs){k:Nat}(hk:v.ownBlock=some k):base <= k:=by
 obtain ⟨h1,h2⟩:=h;rcases h2 with ⟨rfl,rfl⟩|⟨g,cap,cur,rfl,hg,_⟩
 ·simp [Value.ownBlock] at hk
 simp [Value.ownBlock] at hk;omega
def Af{w:aa}{base:Nat}{e:ax}{size:Nat}{v:aN}{n:Nat}{xs:List aN}(h:w.ownsRow base e size v n xs):∃a c,v=.slice a n c:=by
 obtain ⟨_,⟨rfl,rfl⟩|⟨g,cap,cur,rfl,_⟩⟩:=h
 ·exact ⟨_,_,J⟩
 exact ⟨_,_,J⟩
def EL(w:aa)(l:List aN)(T:ax):∀j u,l[j]?=some u -> (w.alloc (Obj.cells l.toArray T)).cell? ((⟨w.heap.size,0,none⟩:Addr).add j)=some u:=by
 intro j u hu;have e:(⟨w.heap.size,0,none⟩:Addr).add j=⟨w.heap.size,j,none⟩:=Aq;rw [e];simp [go_sem,hu]
def tI(w:aa)(l:List aN)(T:ax)(n:Nat)(hn:n=w.heap.size):∀j u,l[j]?=some u -> (w.alloc (Obj.cells l.toArray T)).cell? ((⟨n,0,none⟩:Addr).add j)=some u:=by
 subst hn;exact EL w l T
def P5{w:aa}{base:Nat}{e:ax}{size:Nat}{v:aN}{n:Nat}{xs:List aN}(h:w.ownsRow base e size v n xs){k:Nat}(hk:v.ownBlock=some k):k<w.heap.size:=by
 obtain ⟨_,⟨rfl,rfl⟩|⟨g,cap,cur,rfl,_,hh,_⟩⟩:=h
 ·simp [Value.ownBlock] at hk
 simp [Value.ownBlock] at hk;subst hk;rcases jn g w.heap.size with h|h
 ·exact h
 rw [qO h] at hh;cases hh
def ZX{wr w w':aa}{v:aN}{base n size:Nat}{e:ax}{xs:List aN}(hg:w.grownBy w' v.ownBlock)(hown:wr.ownsRow base e size v n xs){k:Nat}(h1:wr.heap.size <= k)(h2:k<w.heap.size)(o:Nat):w'.cell? ⟨k,o,none⟩=w.cell? ⟨k,o,none⟩:=
 A5 (a:=⟨k,o,none⟩) (hg.block k h2 (λh=>by have:=P5 hown h.symm;omega))
def eD.new(w:aa)(l:List aN)(T:ax)(n:Nat):eD (w.alloc (Obj.cells l.toArray T)) (.slice (some ⟨w.heap.size,0,none⟩) n n) n l:=
 ⟨_,_,rfl,bY _,.inr ⟨_,0,rfl,λj u hu=>by simp [go_sem,hu]⟩⟩
def CP{a b:aI}(h:a.data.toList=b.data.toList):a=b:=by
 cases a;cases b;simp at h;subst h;rfl
def Ke{a b:aI}(h:a=b):(a.toList == b.toList)=true:=by subst h;simp
def Jo{a b:aI}(h:a≠b):(a.toList == b.toList)=false:=by
 rw [beq_eq_false_iff_ne];intro e;apply h;rw [ByteArray.toList_eq,ByteArray.toList_eq] at e;exact CP e
def eD.aHz(w:aa)(l:List aN)(T:ax)(n k:Nat)(hk:k=w.heap.size):eD (w.alloc (Obj.cells l.toArray T)) (.slice (some ⟨k,0,none⟩) n n) n l:=by
 subst hk;exact eD.new w l T n
def Below.step{w a b:aa}(h:Below w.heap.size w a)(hb:Below a.heap.size a b):Below w.heap.size w b:=h.trans (hb.mono h.size)
def Below.grow{B:Nat}{W w w':aa}{v:aN}{base n size:Nat}{e:ax}{xs:List aN}(h:Below B W w)(hg:w.grownBy w' v.ownBlock)(hB:B <= w.heap.size)(hown:w.ownsRow base e size v n xs)(hb:B <= base):Below B W w':=
 Below.grown h hg hB (λ_ hk=>iN hb (Ta hown hk))
end
section
def isSp(c:UInt8):Bool:=decide ((c.toNat:Int)=32∨(c.toNat:Int)=9∨(c.toNat:Int)=13∨(c.toNat:Int)=10)
def gH(c:UInt8):Bool:=decide ((97 <= (c.toNat:Int) /\ (c.toNat:Int) <= 122)∨(65 <= (c.toNat:Int) /\ (c.toNat:Int) <= 90)∨(c.toNat:Int)=95)
def dT(c:UInt8):Bool:=decide (48 <= (c.toNat:Int) /\ (c.toNat:Int) <= 57)
def dV(c:UInt8):Bool:=gH c||dT c
def js:List UInt8 -> List UInt8
 |[]=>[]
 |c::r=>if isSp c then js r else if c=47 /\ r.head?=some 47 then js (r.dropWhile (·!= 10)) else c::r
termination_by l=>l.length
decreasing_by
 ·simp
 have:=(List.dropWhile_sublist (l:=r) (·!= 10)).length_le;simp;omega
def FT:js []=[]:=by rw [js]
def IZ{c:UInt8}{r:List UInt8}(h:isSp c=true):js (c::r)=js r:=by rw [js,if_pos h]
def EZ{r:List UInt8}:js (47::47::r)=js (r.dropWhile (·!= 10)):=by
 rw [js,if_neg V,if_pos ⟨rfl,rfl⟩];rfl
def yV{c:UInt8}{r:List UInt8}(h:isSp c=false)(hc:¬(c=47 /\ r.head?=some 47)):js (c::r)=c::r:=by
 rw [js,if_neg sq,if_neg hc]
def VH(l:List UInt8):js l <:+l:=by
 induction l using js.induct with
 |case1=>rw [js];exact List.suffix_refl _
 |case2 c r h ih=>rw [IZ h];exact ih.trans (List.suffix_cons c r)
 |case3 c r h hc ih=>rw [js,if_neg h,if_pos hc];exact (ih.trans (List.dropWhile_suffix _)).trans (List.suffix_cons c r)
 |case4 c r h hc=>rw [js,if_neg h,if_neg hc];exact List.suffix_refl _
def cc(s:List UInt8)(k:Nat):Nat:=s.length-(js (s.drop k)).length
def Ru(s:List UInt8)(k:Nat):cc s k <= s.length:=Nat.sub_le _ _
def tT(s:List UInt8)(k:Nat)(hk:k <= s.length):k <= cc s k:=by
 have:=(VH (s.drop k)).length_le;rw [kA] at this;unfold cc;omega
def jw(s:List UInt8)(k:Nat)(hk:k<s.length):s.drop k=s[k]::s.drop (k+1):=ii hk
def Je(s:List UInt8)(k:Nat)(hk:k<s.length)(h:isSp s[k]=true):cc s (k+1)=cc s k:=by
 unfold cc;rw [jw s k hk,IZ h]
def GT(s:List UInt8)(k:Nat)(hk:s.length <= k):cc s k=s.length:=by
 unfold cc;rw [m6 hk,FT];simp
def G0(s:List UInt8)(k:Nat)(hk:k<s.length)(h:isSp s[k]=false)(hc:¬(s[k]=47 /\ (s.drop (k+1)).head?=some 47)):cc s k=k:=by
 unfold cc;rw [jw s k hk,yV h hc];simp;omega
def K8(l:List UInt8):Lib.hasPrefix l [47,47]=true↔∃r,l=47::47::r:=by
 unfold Lib.hasPrefix;rcases l with _|⟨a,_|⟨b,r⟩⟩<;>simp [List.isPrefixOf];constructor
 ·rintro ⟨rfl,rfl⟩;exact ⟨rfl,rfl⟩
 rintro ⟨rfl,rfl⟩;exact ⟨rfl,rfl⟩
def Ye(l:List UInt8)(c:UInt8):(Lib.indexByte l c<0 -> l.dropWhile (·!= c)=[]) /\ (∀j:Nat,Lib.indexByte l c=j -> l.dropWhile (·!= c)=l.drop j /\ j<l.length):=by
 induction l with
 |nil=>simp [Lib.indexByte]
 |cons b l ih=>
  unfold Lib.indexByte;by_cases h:b=c
  ·subst h;simp;intro j hj;obtain rfl:j=0:=Y;simp
  have hb:(b == c)=false:=sq;have hn:(b != c)=true:=sq;rw [hb,show (b::l).dropWhile (·!= c)=l.dropWhile (·!= c) from List.dropWhile_cons_of_pos hn]
  by_cases hm:Lib.indexByte l c=-1
  ·simp [hm];exact ih.1 Y
  have h1:(Lib.indexByte l c == -1)=false:=by simp [hm]
  simp only [h1,m4,if_false];refine ⟨λh=>ih.1 Y,λj hj=>?_⟩;obtain ⟨j,rfl⟩:∃i,j=i+1:=by
   refine ⟨j-1,?_⟩;have h0:j≠0:=by
    rintro rfl;have:=ih.1 Y;have h2:-1 <= Lib.indexByte l c:=by
     clear ih hm h1 hj this;induction l with
     |nil=>simp [Lib.indexByte]
     |cons x l ih=>
      unfold Lib.indexByte;split
      ·omega
      split<;>omega
    omega
   omega
  have:=ih.2 j Y;refine ⟨by rw [this.1];rfl,dr⟩
def Sn(s:List UInt8)(k:Nat)(hk:k<s.length)(h:Lib.hasPrefix (s.drop k) [47,47]=true):
  (Lib.indexByte (s.drop k) 10<0 -> cc s k=s.length) /\ (∀j:Nat,Lib.indexByte (s.drop k) 10=j -> cc s (k+j)=cc s k /\ k+j <= s.length /\ 0<j):=by
 obtain ⟨r,hr⟩:=(K8 _).1 h;have hd:=Ye (s.drop k) 10;have e:(s.drop k).dropWhile (·!= 10)=r.dropWhile (·!= 10):=by rw [hr];rfl
 refine ⟨λhn=>?_,λj hj=>?_⟩
 ·have:=hd.1 hn;unfold cc;rw [hr,EZ,←e,this,FT];simp
 have:=hd.2 j hj;refine ⟨?_,?_,?_⟩
 ·unfold cc;rw [hr,EZ,←e,this.1,C3]
 ·have:=this.2;rw [kA] at this;omega
 rcases yD j with rfl|h0
 ·rw [hr] at hj;simp [Lib.indexByte] at hj;split at hj<;>(try split at hj)<;>omega
 exact h0
def words:List ByteArray:=[⟨#[118,97,114]⟩,⟨#[109,117,116,101,120]⟩,⟨#[114,109,117,116,101,120]⟩,⟨#[102,117,110,99]⟩,⟨#[108,111,99,107]⟩,⟨#[117,110,108,111,99,107]⟩,⟨#[103,111]⟩,⟨#[105,102]⟩,⟨#[101,108,115,101]⟩,⟨#[119,104,105,108,101]⟩,⟨#[114,101,116,117,114,110]⟩]
def fT(s:ByteArray):Bool:=words.any λx=>decide (x=s)
def F8(s:aI):fT s=true↔s∈words:=by simp [fT]
def fY:Nat -> List UInt8 -> Option Nat
 |n,[]=>some n
 |n,c::r=>if (9223372036854775807-(c.toNat-48))/10<n then none else fY (10*n+(c.toNat-48)) r
def kV:List (List UInt8):=[[60,61],[62,61],[61,61],[33,61],[38,38],[124,124]]
def j_:List UInt8:=[40,41,123,125,91,93,44,59,61,43,45,42,47,37,60,62,33]
def kI(l:List UInt8):Nat:=if 2 <= l.length /\ l.take 2∈kV then 2 else if ∃c,l.head?=some c /\ c∈j_ then 1 else 0
def bytes(l:List UInt8):ByteArray:=⟨l.toArray⟩
inductive Next where
 |tok (kind len num:Nat)
 |err (e:Nat)
def eK(l:List UInt8):Next:=
 if gH (l.headD 0) then
  if 16<(l.takeWhile dV).length then .err 3 else .tok (if fT (bytes (l.takeWhile dV)) then 3 else 1) (l.takeWhile dV).length 0
 else if dT (l.headD 0) then
  match fY 0 (l.takeWhile dT) with
  |none=>.err 2
  |some n=>.tok 2 (l.takeWhile dT).length n
 else if kI l=0 then .err 1 else .tok 4 (kI l) 0
structure Tok where
 kind:Nat
 text:ByteArray
 num:Nat
 pos:Nat
 deriving DecidableEq,Inhabited
inductive gU where
 |ok (l:List Tok)
 |err (pos e:Nat)
def gU.cons(t:Tok):gU -> gU
 |.ok l=>.ok (t::l)
 |.err p e=>.err p e
def gU.app(l:List Tok):gU -> gU
 |.ok r=>.ok (l++r)
 |.err p e=>.err p e
def gU.aIb(r:gU):gU.app [] r=r:=by cases r<;>rfl
def gU.WD(l:List Tok)(t:Tok)(r:gU):gU.app l (gU.cons t r)=gU.app (l++[t]) r:=by cases r<;>simp [gU.app,gU.cons]
def gx(s:List UInt8)(k n:Nat):gU:=
 if s.length <= cc s k then .ok [⟨5,⟨#[]⟩,0,s.length⟩]
 else match eK (s.drop (cc s k)) with
  |.err e=>.err (cc s k) e
  |.tok kind len num=>
   if n=4000 then .err (cc s k) 3
   else if _h:k<cc s k+len /\ k<s.length then gU.cons ⟨kind,bytes ((s.drop (cc s k)).take len),num,cc s k⟩ (gx s (cc s k+len) (n+1))
   else .err 0 0
termination_by s.length-k
def gj(s:List UInt8):gU:=if 262144<s.length then .err 262144 3 else gx s 0 0
def ut{c:UInt8}{r:List UInt8}(h:gH c=true):eK (c::r)=if 16<((c::r).takeWhile dV).length then .err 3 else .tok (if fT (bytes ((c::r).takeWhile dV)) then 3 else 1) ((c::r).takeWhile dV).length 0:=by
 unfold eK;rw [BV,if_pos h]
def yS{c:UInt8}{r:List UInt8}(h:gH c=false)(hd:dT c=true)(hn:fY 0 ((c::r).takeWhile dT)=none):eK (c::r)=.err 2:=by
 unfold eK;rw [BV,if_neg sq,if_pos hd,hn]
def xO{c:UInt8}{r:List UInt8}{n:Nat}(h:gH c=false)(hd:dT c=true)(hn:fY 0 ((c::r).takeWhile dT)=some n):eK (c::r)=.tok 2 ((c::r).takeWhile dT).length n:=by
 unfold eK;rw [BV,if_neg sq,if_pos hd,hn]
def wB{c:UInt8}{r:List UInt8}(h:gH c=false)(hd:dT c=false):eK (c::r)=if kI (c::r)=0 then .err 1 else .tok 4 (kI (c::r)) 0:=by
 unfold eK;rw [BV,if_neg sq,if_neg (by simp [hd])]
def KA(l:List UInt8):kI l <= 2 /\ kI l <= l.length:=by
 unfold kI;by_cases h:2 <= l.length /\ l.take 2∈kV
 ·rw [if_pos h];exact ⟨Y,h.1⟩
 rw [if_neg h];by_cases h2:∃c,l.head?=some c /\ c∈j_
 ·rw [if_pos h2];obtain ⟨c,hc,_⟩:=h2;cases l<;>simp at hc⊢
 rw [if_neg h2];omega
def BF{l:List UInt8}(hl:l≠[]){kind len num:Nat}(h:eK l=.tok kind len num):0<len /\ len <= l.length:=by
 obtain ⟨c,r,rfl⟩:=EO hl;cases hc:gH c with
 |true=>
  rw [ut hc] at h;by_cases hl:16<((c::r).takeWhile dV).length
  ·rw [if_pos hl] at h;cases h
  ·rw [if_neg hl] at h;injection h with _ h2 _
   rw [←h2];exact ⟨by rw [uJ (by simp [dV,hc])];simp,(xF _).length_le⟩
 |false=>
  cases hd:dT c with
  |true=>
   cases hn:fY 0 ((c::r).takeWhile dT) with
   |none=>rw [yS hc hd hn] at h;cases h
   |some n=>
    rw [xO hc hd hn] at h;injection h with _ h2 _
    rw [←h2];exact ⟨by rw [uJ hd];simp,(xF _).length_le⟩
  |false=>
   rw [wB hc hd] at h;by_cases h0:kI (c::r)=0
   ·rw [if_pos h0] at h;cases h
   rw [if_neg h0] at h;injection h with _ h2 _
   rw [←h2];exact ⟨Y,(KA _).2⟩
def Az{s:List UInt8}{k n:Nat}(h:s.length <= cc s k):gx s k n=.ok [⟨5,⟨#[]⟩,0,s.length⟩]:=by
 rw [gx,if_pos h]
def ER{s:List UInt8}{k n e:Nat}(h:cc s k<s.length)(he:eK (s.drop (cc s k))=.err e):gx s k n=.err (cc s k) e:=by
 rw [gx,if_neg Y,he]
def C2{s:List UInt8}{k kind len num:Nat}(h:cc s k<s.length)(he:eK (s.drop (cc s k))=.tok kind len num):gx s k 4000=.err (cc s k) 3:=by
 rw [gx,if_neg Y,he];simp
def Ds{s:List UInt8}{k n kind len num:Nat}(hk:k <= s.length)(h:cc s k<s.length)(he:eK (s.drop (cc s k))=.tok kind len num)(hn:n≠4000):
  gx s k n=gU.cons ⟨kind,bytes ((s.drop (cc s k)).take len),num,cc s k⟩ (gx s (cc s k+len) (n+1)):=by
 have h1:=tT s k hk;have h2:=BF (by intro hd;have:=congrArg List.length hd;simp at this;omega) he;rw [gx,if_neg Y,he];simp only [hn,if_false];rw [dif_pos ⟨Y,Y⟩]
def Uv(x:UInt8)(l sub:List UInt8):Lib.contains (x::l) sub=(sub.isPrefixOf (x::l)||Lib.contains l sub):=by
 have:=Lib.index_ge l sub;unfold Lib.contains;rw [Lib.index];cases h:sub.isPrefixOf (x::l) with
 |true=>simp
 |false=>
  simp only [m4,if_false,Bool.false_or];by_cases hm:Lib.index l sub=-1
  ·simp [hm]
  have h1:(Lib.index l sub == -1)=false:=by simp [hm]
  simp only [h1,m4,if_false]
  congr 1;apply propext;omega
def RQ(a b:UInt8)(l:List UInt8):Lib.contains l [a,b]=true↔(a,b)∈l.zip l.tail:=by
 induction l with
 |nil=>simp [Lib.contains,Lib.index]
 |cons x l ih=>
  rw [Uv,nP,ih];cases l with
  |nil=>simp [List.isPrefixOf]
  |cons y r=>simp [List.isPrefixOf]
def xE:List UInt8:=[60,61,32,62,61,32,61,61,32,33,61,32,38,38,32,124,124]
def Qu(a b:UInt8)(ha:a≠32)(hb:b≠32):Lib.contains xE [a,b]=true↔[a,b]∈kV:=by
 rw [RQ];simp only [xE,kV,List.zip,List.tail,List.zipWith,oX,jB,tN,and_true,List.not_mem_nil,or_false];constructor
 ·intro h;rcases h with h|h|h|h|h|h|h|h|h|h|h|h|h|h|h|h;all_goals (obtain ⟨h1,h2⟩:=h;first|exact absurd h1 ha|exact absurd h2 hb|(subst h1;subst h2;decide))
 intro h;rcases h with h|h|h|h|h|h;all_goals (obtain ⟨h1,h2⟩:=h;subst h1;subst h2;decide)
def Nw(a b:UInt8)(h:[a,b]∈kV):a≠32 /\ b≠32:=by
 simp only [kV,oX,tN,and_true,List.not_mem_nil,or_false] at h;rcases h with h|h|h|h|h|h;all_goals (obtain ⟨h1,h2⟩:=h;subst h1;subst h2;decide)
def NI(c:UInt8):Lib.indexByte j_ c<0↔c∉j_:=by
 have:=Lib.contains_iff_indexByte j_ c;constructor
 ·intro h hm;rw [List.contains_iff_mem.2 hm] at this;have:=of_decide_eq_true this.symm;omega
 intro h;rw [kf.2 (λhc=>h (List.contains_iff_mem.1 hc))] at this;have:=of_decide_eq_false this.symm;omega
def GK{l:List UInt8}(h:2 <= l.length)(hm:l.take 2∈kV):kI l=2:=if_pos ⟨h,hm⟩
def GR{c:UInt8}{r:List UInt8}(h:¬(2 <= (c::r).length /\ (c::r).take 2∈kV))(hc:c∈j_):kI (c::r)=1:=by
 unfold kI;rw [if_neg h,if_pos ⟨c,rfl,hc⟩]
def QI{c:UInt8}{r:List UInt8}(h:¬(2 <= (c::r).length /\ (c::r).take 2∈kV))(hc:c∉j_):kI (c::r)=0:=by
 unfold kI;rw [if_neg h,if_neg (by rintro ⟨d,hd,hs⟩;cases hd;exact hc hs)]
end
section
def Yb(s:List UInt8)(k j:Nat)(hk:k+1<s.length)(h1:s[k]=47)(h2:s[k+1]=47)(hj:(s.drop k).dropWhile (·!= 10)=s.drop j):cc s j=cc s k:=by
 have e:s.drop k=47::47::s.drop (k+2):=by rw [jw s k Y,jw s (k+1) hk,h1,h2]
 have e2:(s.drop k).dropWhile (·!= 10)=(s.drop (k+2)).dropWhile (·!= 10):=by rw [e];rfl
 unfold cc;rw [←hj,e2]
 conv=>rhs;rw [e,EZ]
def Vh(s:List UInt8)(k j:Nat)(hj:j<s.length)(h:(s.drop k).dropWhile (·!= 10)=(s.drop j).dropWhile (·!= 10)):
  (s[j]=10 -> (s.drop k).dropWhile (·!= 10)=s.drop j) /\ (s[j]≠10 -> (s.drop k).dropWhile (·!= 10)=(s.drop (j+1)).dropWhile (·!= 10)):=by
 rw [h,jw s j hj];refine ⟨λe=>?_,λe=>?_⟩
 ·rw [List.dropWhile_cons_of_neg (by simp [e])]
 rw [List.dropWhile_cons_of_pos (by simpa using e)]
def Sf{s:List UInt8}{k:Nat}(hk:k<s.length)(h:¬(∃h2:k+1<s.length,s[k]=47 /\ s[k+1]=47)):¬(s[k]=47 /\ (s.drop (k+1)).head?=some 47):=by
 rintro ⟨h1,h2⟩
 apply h
 rw [List.head?_drop] at h2;obtain ⟨h3,h4⟩:=mN.1 h2;exact ⟨h3,h1,h4⟩
def we(c:UInt8)(n:Nat)(m:Int)(hm:m=(n:Int))(hn:n<256):(c=UInt8.ofNat n -> ((c.toNat:Int) == m)=true /\ ((c.toNat:Int) != m)=false) /\ (c≠UInt8.ofNat n -> ((c.toNat:Int) == m)=false /\ ((c.toNat:Int) != m)=true):=by
 subst hm;refine ⟨λh=>?_,λh=>?_⟩
 ·subst h;have:(UInt8.ofNat n).toNat=n:=CY;rw [this];simp
 have:(c.toNat:Int)≠n:=by
  intro h3;apply h;apply UInt8.toNat_inj.1;rw [UInt8.toNat_ofNat'];omega
 simp [this]
end
end Go.Proofs.YtckelpefchdenaaGreatDoor
