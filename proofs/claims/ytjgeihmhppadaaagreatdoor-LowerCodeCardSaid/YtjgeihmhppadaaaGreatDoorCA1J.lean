import Derived.Test.YtjgeihmhppadaaaGreatDoorCM0J
import Derived.WalkSpells
import Derived.WalkLawsBesides
import Derived.Lib.Hide
import Derived.Lib.IndexAny
set_option linter.all false
namespace Go.Proofs.YtjgeihmhppadaaaGreatDoor
section
open Go.RowKit
def ownsRow_below{w w':aV}{base B:Nat}{e:bA}{size:Nat}{v:aM}{n:Nat}{xs:List aM}(h:w.ownsRow base e size v n xs)(hb:Below B w w')(hB:w.heap.size <= B):w'.ownsRow base e size v n xs:=by
 obtain ⟨h1,h2⟩:=h;refine ⟨h1,?_⟩;rcases h2 with h2|⟨g,cap,cur,hv,hg,hh,r⟩
 ·exact .inl h2
 refine .inr ⟨g,cap,cur,hv,hg,?_,r⟩;have hlt:g<w.heap.size:=by
  rcases iQ g w.heap.size with h|h
  ·exact h
  rw [or h] at hh;cases hh
 rw [hb.block g Y];exact hh
def ownsRow_nil(w:aV)(base:Nat)(e:bA)(size:Nat):w.ownsRow base e size (.slice none 0 0) 0 []:=⟨aK,.inl ⟨rfl,rfl⟩⟩
def dr(w:World)(v:Value)(n:Nat)(cells:List Value):Prop:=
 ∃a cap,v=.slice a n cap /\ n <= cap /\ (cells=[]∨∃b off,a=some ⟨b,off,none⟩ /\ ∀j u,cells[j]?=some u -> w.cell? ⟨b,off+j,none⟩=some u)
def lL{w:aV}{a:Addr}{u:aM}(h:w.cell? a=some u):a.block<w.heap.size:=by
 unfold World.cell? at h;rcases iQ a.block w.heap.size with hl|hl
 ·exact hl
 rw [or hl] at h;cases h
def dr.below{w w':aV}{B:Nat}{v:aM}{n:Nat}{cells:List aM}(h:dr w v n cells)(hb:Below B w w')(hB:w.heap.size <= B):dr w' v n cells:=by
 obtain ⟨a,cap,rfl,hc,h⟩:=h;refine ⟨a,cap,J,hc,h.imp id λ⟨b,off,ha,hr⟩=>⟨b,off,ha,λj u hu=>?_⟩⟩;have h1:=hr j u hu;rw [hb.cell (p:=⟨b,off+j,none⟩) (k_ (lL h1) hB)];exact h1
def dr.nil(w:aV):dr w (.slice none 0 0) 0 []:=⟨none,0,rfl,bW _,.inl rfl⟩
def dr.of_owns{w:aV}{base:Nat}{e:bA}{size:Nat}{v:aM}{n:Nat}{xs:List aM}(h:w.ownsRow base e size v n xs):dr w v n xs:=by
 obtain ⟨h1,h2⟩:=h;rcases h2 with ⟨rfl,rfl⟩|⟨g,cap,cur,rfl,hg,hh,hc,_,hs,ht⟩
 ·obtain rfl:xs=[]:=uv q';exact .nil w
 refine ⟨_,_,J,hc,.inr ⟨g,0,J,λj u hu=>?_⟩⟩;rw [←ht] at hu;rw [m0] at hu;split at hu
 ·unfold World.cell?;simp only [hh];simpa using hu
 cases hu
def Tj{w:aV}{base:Nat}{e:bA}{size:Nat}{v:aM}{n:Nat}{xs:List aM}(h:w.ownsRow base e size v n xs){k:Nat}(hk:v.ownBlock=some k):base <= k:=by
 obtain ⟨h1,h2⟩:=h;rcases h2 with ⟨rfl,rfl⟩|⟨g,cap,cur,rfl,hg,_⟩
 ·simp [Value.ownBlock] at hk
 simp [Value.ownBlock] at hk;omega
def vK{w:aV}{base:Nat}{e:bA}{size:Nat}{v:aM}{n:Nat}{xs:List aM}(h:w.ownsRow base e size v n xs):∃a c,v=.slice a n c:=by
 obtain ⟨_,⟨rfl,rfl⟩|⟨g,cap,cur,rfl,_⟩⟩:=h
 ·exact ⟨_,_,J⟩
 exact ⟨_,_,J⟩
def ym(w:aV)(l:List aM)(T:bA):∀j u,l[j]?=some u -> (w.alloc (Obj.cells l.toArray T)).cell? ((⟨w.heap.size,0,none⟩:Addr).add j)=some u:=by
 intro j u hu;have e:(⟨w.heap.size,0,none⟩:Addr).add j=⟨w.heap.size,j,none⟩:=xp;rw [e];simp [go_sem,hu]
def qD(w:aV)(l:List aM)(T:bA)(n:Nat)(hn:n=w.heap.size):∀j u,l[j]?=some u -> (w.alloc (Obj.cells l.toArray T)).cell? ((⟨n,0,none⟩:Addr).add j)=some u:=by
 subst hn;exact ym w l T
def KL{w:aV}{base:Nat}{e:bA}{size:Nat}{v:aM}{n:Nat}{xs:List aM}(h:w.ownsRow base e size v n xs){k:Nat}(hk:v.ownBlock=some k):k<w.heap.size:=by
 obtain ⟨_,⟨rfl,rfl⟩|⟨g,cap,cur,rfl,_,hh,_⟩⟩:=h
 ·simp [Value.ownBlock] at hk
 simp [Value.ownBlock] at hk;subst hk;rcases iQ g w.heap.size with h|h
 ·exact h
 rw [or h] at hh;cases hh
def QA{wr w w':aV}{v:aM}{base n size:Nat}{e:bA}{xs:List aM}(hg:w.grownBy w' v.ownBlock)(hown:wr.ownsRow base e size v n xs){k:Nat}(h1:wr.heap.size <= k)(h2:k<w.heap.size)(o:Nat):w'.cell? ⟨k,o,none⟩=w.cell? ⟨k,o,none⟩:=
 World.cell?_of_block (a:=⟨k,o,none⟩) (hg.block k h2 (λh=>by have:=KL hown h.symm;omega))
def dr.new(w:aV)(l:List aM)(T:bA)(n:Nat):dr (w.alloc (Obj.cells l.toArray T)) (.slice (some ⟨w.heap.size,0,none⟩) n n) n l:=
 ⟨_,_,rfl,bW _,.inr ⟨_,0,rfl,λj u hu=>by simp [go_sem,hu]⟩⟩
def xX{a b:aG}(h:a.data.toList=b.data.toList):a=b:=by
 cases a;cases b;simp at h;subst h;rfl
def Fh{a b:aG}(h:a=b):(a.toList == b.toList)=true:=by subst h;simp
def L6{a b:aG}(h:a≠b):(a.toList == b.toList)=false:=by
 rw [beq_eq_false_iff_ne];intro e;apply h;rw [ByteArray.toList_eq,ByteArray.toList_eq] at e;exact xX e
def dr.new_at(w:aV)(l:List aM)(T:bA)(n k:Nat)(hk:k=w.heap.size):dr (w.alloc (Obj.cells l.toArray T)) (.slice (some ⟨k,0,none⟩) n n) n l:=by
 subst hk;exact dr.new w l T n
def Below.step{w a b:aV}(h:Below w.heap.size w a)(hb:Below a.heap.size a b):Below w.heap.size w b:=h.trans (hb.mono h.size)
def Below.grow{B:Nat}{W w w':aV}{v:aM}{base n size:Nat}{e:bA}{xs:List aM}(h:Below B W w)(hg:w.grownBy w' v.ownBlock)(hB:B <= w.heap.size)(hown:w.ownsRow base e size v n xs)(hb:B <= base):Below B W w':=
 Below.grown h hg hB (λ_ hk=>gb hb (Tj hown hk))
end
section
def isSp(c:UInt8):Bool:=decide ((c.toNat:Int)=32∨(c.toNat:Int)=9∨(c.toNat:Int)=13∨(c.toNat:Int)=10)
def fR(c:UInt8):Bool:=decide ((97 <= (c.toNat:Int) /\ (c.toNat:Int) <= 122)∨(65 <= (c.toNat:Int) /\ (c.toNat:Int) <= 90)∨(c.toNat:Int)=95)
def dJ(c:UInt8):Bool:=decide (48 <= (c.toNat:Int) /\ (c.toNat:Int) <= 57)
def cv(c:UInt8):Bool:=fR c||dJ c
def iz:List UInt8 -> List UInt8
 |[]=>[]
 |c::r=>if isSp c then iz r else if c=47 /\ r.head?=some 47 then iz (r.dropWhile (·!= 10)) else c::r
termination_by l=>l.length
decreasing_by
 ·simp
 have:=(List.dropWhile_sublist (l:=r) (·!= 10)).length_le;simp;omega
def CJ:iz []=[]:=by rw [iz]
def C9{c:UInt8}{r:List UInt8}(h:isSp c=true):iz (c::r)=iz r:=by rw [iz,if_pos h]
def Ew{r:List UInt8}:iz (47::47::r)=iz (r.dropWhile (·!= 10)):=by
 rw [iz,if_neg V,if_pos ⟨rfl,rfl⟩];rfl
def vJ{c:UInt8}{r:List UInt8}(h:isSp c=false)(hc:¬(c=47 /\ r.head?=some 47)):iz (c::r)=c::r:=by
 rw [iz,if_neg qz,if_neg hc]
def JE(l:List UInt8):iz l <:+l:=by
 induction l using iz.induct with
 |case1=>rw [iz];exact List.suffix_refl _
 |case2 c r h ih=>rw [C9 h];exact ih.trans (List.suffix_cons c r)
 |case3 c r h hc ih=>rw [iz,if_neg h,if_pos hc];exact (ih.trans (List.dropWhile_suffix _)).trans (List.suffix_cons c r)
 |case4 c r h hc=>rw [iz,if_neg h,if_neg hc];exact List.suffix_refl _
def cR(s:List UInt8)(k:Nat):Nat:=s.length-(iz (s.drop k)).length
def TH(s:List UInt8)(k:Nat):cR s k <= s.length:=Nat.sub_le _ _
def p9(s:List UInt8)(k:Nat)(hk:k <= s.length):k <= cR s k:=by
 have:=(JE (s.drop k)).length_le;rw [jk] at this;unfold cR;omega
def RX{α:Type}{a l:List α}(h:a <:+l):l.drop (l.length-a.length)=a:=by
 obtain ⟨t,rfl⟩:=h;simp
def TA(s:List UInt8)(k:Nat):s.drop (cR s k)=iz (s.drop k):=
 RX ((JE _).trans (List.drop_suffix k s))
def jL(s:List UInt8)(k:Nat)(hk:k<s.length):s.drop k=s[k]::s.drop (k+1):=iK hk
def GV(s:List UInt8)(k:Nat)(hk:k<s.length)(h:isSp s[k]=true):cR s (k+1)=cR s k:=by
 unfold cR;rw [jL s k hk,C9 h]
def DJ(s:List UInt8)(k:Nat)(hk:s.length <= k):cR s k=s.length:=by
 unfold cR;rw [ka hk,CJ];simp
def DZ(s:List UInt8)(k:Nat)(hk:k<s.length)(h:isSp s[k]=false)(hc:¬(s[k]=47 /\ (s.drop (k+1)).head?=some 47)):cR s k=k:=by
 unfold cR;rw [jL s k hk,vJ h hc];simp;omega
def It(l:List UInt8):Lib.hasPrefix l [47,47]=true↔∃r,l=47::47::r:=by
 unfold Lib.hasPrefix;rcases l with _|⟨a,_|⟨b,r⟩⟩<;>simp [List.isPrefixOf];constructor
 ·rintro ⟨rfl,rfl⟩;exact ⟨rfl,rfl⟩
 rintro ⟨rfl,rfl⟩;exact ⟨rfl,rfl⟩
def TQ(l:List UInt8)(c:UInt8):(Lib.indexByte l c<0 -> l.dropWhile (·!= c)=[]) /\ (∀j:Nat,Lib.indexByte l c=j -> l.dropWhile (·!= c)=l.drop j /\ j<l.length):=by
 induction l with
 |nil=>simp [Lib.indexByte]
 |cons b l ih=>
  unfold Lib.indexByte;by_cases h:b=c
  ·subst h;simp;intro j hj;obtain rfl:j=0:=Y;simp
  have hb:(b == c)=false:=qz;have hn:(b != c)=true:=qz;rw [hb,show (b::l).dropWhile (·!= c)=l.dropWhile (·!= c) from List.dropWhile_cons_of_pos hn]
  by_cases hm:Lib.indexByte l c=-1
  ·simp [hm];exact ih.1 Y
  have h1:(Lib.indexByte l c == -1)=false:=by simp [hm]
  simp only [h1,lK,if_false];refine ⟨λh=>ih.1 Y,λj hj=>?_⟩;obtain ⟨j,rfl⟩:∃i,j=i+1:=by
   refine ⟨j-1,?_⟩;have h0:j≠0:=by
    rintro rfl;have:=ih.1 Y;have h2:-1 <= Lib.indexByte l c:=by
     clear ih hm h1 hj this;induction l with
     |nil=>simp [Lib.indexByte]
     |cons x l ih=>
      unfold Lib.indexByte;split
      ·omega
      split<;>omega
    omega
   omega
  have:=ih.2 j Y;refine ⟨by rw [this.1];rfl,di⟩
def Ss(s:List UInt8)(k:Nat)(hk:k<s.length)(h:Lib.hasPrefix (s.drop k) [47,47]=true):
  (Lib.indexByte (s.drop k) 10<0 -> cR s k=s.length) /\ (∀j:Nat,Lib.indexByte (s.drop k) 10=j -> cR s (k+j)=cR s k /\ k+j <= s.length /\ 0<j):=by
 obtain ⟨r,hr⟩:=(It _).1 h;have hd:=TQ (s.drop k) 10;have e:(s.drop k).dropWhile (·!= 10)=r.dropWhile (·!= 10):=by rw [hr];rfl
 refine ⟨λhn=>?_,λj hj=>?_⟩
 ·have:=hd.1 hn;unfold cR;rw [hr,Ew,←e,this,CJ];simp
 have:=hd.2 j hj;refine ⟨?_,?_,?_⟩
 ·unfold cR;rw [hr,Ew,←e,this.1,xu]
 ·have:=this.2;rw [jk] at this;omega
 rcases ud j with rfl|h0
 ·rw [hr] at hj;simp [Lib.indexByte] at hj;split at hj<;>(try split at hj)<;>omega
 exact h0
def words:List ByteArray:=[⟨#[118,97,114]⟩,⟨#[109,117,116,101,120]⟩,⟨#[114,109,117,116,101,120]⟩,⟨#[102,117,110,99]⟩,⟨#[108,111,99,107]⟩,⟨#[117,110,108,111,99,107]⟩,⟨#[103,111]⟩,⟨#[105,102]⟩,⟨#[101,108,115,101]⟩,⟨#[119,104,105,108,101]⟩,⟨#[114,101,116,117,114,110]⟩]
def ee(s:ByteArray):Bool:=words.any λx=>decide (x=s)
def zk(s:aG):ee s=true↔s∈words:=by simp [ee]
def e1:Nat -> List UInt8 -> Option Nat
 |n,[]=>some n
 |n,c::r=>if (9223372036854775807-(c.toNat-48))/10<n then none else e1 (10*n+(c.toNat-48)) r
def jM:List (List UInt8):=[[60,61],[62,61],[61,61],[33,61],[38,38],[124,124]]
def iT:List UInt8:=[40,41,123,125,91,93,44,59,61,43,45,42,47,37,60,62,33]
def jZ(l:List UInt8):Nat:=if 2 <= l.length /\ l.take 2∈jM then 2 else if ∃c,l.head?=some c /\ c∈iT then 1 else 0
def bytes(l:List UInt8):ByteArray:=⟨l.toArray⟩
inductive Next where
 |tok (kind len num:Nat)
 |err (e:Nat)
def d1(l:List UInt8):Next:=
 if fR (l.headD 0) then
  if 16<(l.takeWhile cv).length then .err 3 else .tok (if ee (bytes (l.takeWhile cv)) then 3 else 1) (l.takeWhile cv).length 0
 else if dJ (l.headD 0) then
  match e1 0 (l.takeWhile dJ) with
  |none=>.err 2
  |some n=>.tok 2 (l.takeWhile dJ).length n
 else if jZ l=0 then .err 1 else .tok 4 (jZ l) 0
structure Tok where
 kind:Nat
 text:ByteArray
 num:Nat
 pos:Nat
 deriving DecidableEq,Inhabited
inductive gD where
 |ok (l:List Tok)
 |err (pos e:Nat)
def gD.cons(t:Tok):gD -> gD
 |.ok l=>.ok (t::l)
 |.err p e=>.err p e
def gD.app(l:List Tok):gD -> gD
 |.ok r=>.ok (l++r)
 |.err p e=>.err p e
def gD.app_nil(r:gD):gD.app [] r=r:=by cases r<;>rfl
def gD.app_cons(l:List Tok)(t:Tok)(r:gD):gD.app l (gD.cons t r)=gD.app (l++[t]) r:=by cases r<;>simp [gD.app,gD.cons]
def gN(s:List UInt8)(k n:Nat):gD:=
 if s.length <= cR s k then .ok [⟨5,⟨#[]⟩,0,s.length⟩]
 else match d1 (s.drop (cR s k)) with
  |.err e=>.err (cR s k) e
  |.tok kind len num=>
   if n=4000 then .err (cR s k) 3
   else if _h:k<cR s k+len /\ k<s.length then gD.cons ⟨kind,bytes ((s.drop (cR s k)).take len),num,cR s k⟩ (gN s (cR s k+len) (n+1))
   else .err 0 0
termination_by s.length-k
def fo(s:List UInt8):gD:=if 262144<s.length then .err 262144 3 else gN s 0 0
def sv{c:UInt8}{r:List UInt8}(h:fR c=true):d1 (c::r)=if 16<((c::r).takeWhile cv).length then .err 3 else .tok (if ee (bytes ((c::r).takeWhile cv)) then 3 else 1) ((c::r).takeWhile cv).length 0:=by
 unfold d1;rw [zr,if_pos h]
def u'{c:UInt8}{r:List UInt8}(h:fR c=false)(hd:dJ c=true)(hn:e1 0 ((c::r).takeWhile dJ)=none):d1 (c::r)=.err 2:=by
 unfold d1;rw [zr,if_neg qz,if_pos hd,hn]
def tD{c:UInt8}{r:List UInt8}{n:Nat}(h:fR c=false)(hd:dJ c=true)(hn:e1 0 ((c::r).takeWhile dJ)=some n):d1 (c::r)=.tok 2 ((c::r).takeWhile dJ).length n:=by
 unfold d1;rw [zr,if_neg qz,if_pos hd,hn]
def rk{c:UInt8}{r:List UInt8}(h:fR c=false)(hd:dJ c=false):d1 (c::r)=if jZ (c::r)=0 then .err 1 else .tok 4 (jZ (c::r)) 0:=by
 unfold d1;rw [zr,if_neg qz,if_neg (by simp [hd])]
def Jh(l:List UInt8):jZ l <= 2 /\ jZ l <= l.length:=by
 unfold jZ;by_cases h:2 <= l.length /\ l.take 2∈jM
 ·rw [if_pos h];exact ⟨Y,h.1⟩
 rw [if_neg h];by_cases h2:∃c,l.head?=some c /\ c∈iT
 ·rw [if_pos h2];obtain ⟨c,hc,_⟩:=h2;cases l<;>simp at hc⊢
 rw [if_neg h2];omega
def xL{l:List UInt8}(hl:l≠[]){kind len num:Nat}(h:d1 l=.tok kind len num):0<len /\ len <= l.length:=by
 obtain ⟨c,r,rfl⟩:=uJ hl;cases hc:fR c with
 |true=>
  rw [sv hc] at h;by_cases hl:16<((c::r).takeWhile cv).length
  ·rw [if_pos hl] at h;cases h
  ·rw [if_neg hl] at h;injection h with _ h2 _
   rw [←h2];exact ⟨by rw [q8 (by simp [cv,hc])];simp,(uV _).length_le⟩
 |false=>
  cases hd:dJ c with
  |true=>
   cases hn:e1 0 ((c::r).takeWhile dJ) with
   |none=>rw [u' hc hd hn] at h;cases h
   |some n=>
    rw [tD hc hd hn] at h;injection h with _ h2 _
    rw [←h2];exact ⟨by rw [q8 hd];simp,(uV _).length_le⟩
  |false=>
   rw [rk hc hd] at h;by_cases h0:jZ (c::r)=0
   ·rw [if_pos h0] at h;cases h
   rw [if_neg h0] at h;injection h with _ h2 _
   rw [←h2];exact ⟨Y,(Jh _).2⟩
def wG{s:List UInt8}{k n:Nat}(h:s.length <= cR s k):gN s k n=.ok [⟨5,⟨#[]⟩,0,s.length⟩]:=by
 rw [gN,if_pos h]
def yC{s:List UInt8}{k n e:Nat}(h:cR s k<s.length)(he:d1 (s.drop (cR s k))=.err e):gN s k n=.err (cR s k) e:=by
 rw [gN,if_neg Y,he]
def yx{s:List UInt8}{k kind len num:Nat}(h:cR s k<s.length)(he:d1 (s.drop (cR s k))=.tok kind len num):gN s k 4000=.err (cR s k) 3:=by
 rw [gN,if_neg Y,he];simp
def wl{s:List UInt8}{k n kind len num:Nat}(hk:k <= s.length)(h:cR s k<s.length)(he:d1 (s.drop (cR s k))=.tok kind len num)(hn:n≠4000):
  gN s k n=gD.cons ⟨kind,bytes ((s.drop (cR s k)).take len),num,cR s k⟩ (gN s (cR s k+len) (n+1)):=by
 have h1:=p9 s k hk;have h2:=xL (by intro hd;have:=congrArg List.length hd;simp at this;omega) he;rw [gN,if_neg Y,he];simp only [hn,if_false];rw [dif_pos ⟨Y,Y⟩]
def QR(x:UInt8)(l sub:List UInt8):Lib.contains (x::l) sub=(sub.isPrefixOf (x::l)||Lib.contains l sub):=by
 have:=Lib.index_ge l sub;unfold Lib.contains;rw [Lib.index];cases h:sub.isPrefixOf (x::l) with
 |true=>simp
 |false=>
  simp only [lK,if_false,Bool.false_or];by_cases hm:Lib.index l sub=-1
  ·simp [hm]
  have h1:(Lib.index l sub == -1)=false:=by simp [hm]
  simp only [h1,lK,if_false]
  congr 1;apply propext;omega
def UE(a b:UInt8)(l:List UInt8):Lib.contains l [a,b]=true↔(a,b)∈l.zip l.tail:=by
 induction l with
 |nil=>simp [Lib.contains,Lib.index]
 |cons x l ih=>
  rw [QR,lT,ih];cases l with
  |nil=>simp [List.isPrefixOf]
  |cons y r=>simp [List.isPrefixOf]
def tf:List UInt8:=[60,61,32,62,61,32,61,61,32,33,61,32,38,38,32,124,124]
def MK(a b:UInt8)(ha:a≠32)(hb:b≠32):Lib.contains tf [a,b]=true↔[a,b]∈jM:=by
 rw [UE];simp only [tf,jM,List.zip,List.tail,List.zipWith,nO,iN,qY,and_true,List.not_mem_nil,or_false];constructor
 ·intro h;rcases h with h|h|h|h|h|h|h|h|h|h|h|h|h|h|h|h;all_goals (obtain ⟨h1,h2⟩:=h;first|exact absurd h1 ha|exact absurd h2 hb|(subst h1;subst h2;decide))
 intro h;rcases h with h|h|h|h|h|h;all_goals (obtain ⟨h1,h2⟩:=h;subst h1;subst h2;decide)
def GD(a b:UInt8)(h:[a,b]∈jM):a≠32 /\ b≠32:=by
 simp only [jM,nO,qY,and_true,List.not_mem_nil,or_false] at h;rcases h with h|h|h|h|h|h;all_goals (obtain ⟨h1,h2⟩:=h;subst h1;subst h2;decide)
def ID(c:UInt8):Lib.indexByte iT c<0↔c∉iT:=by
 have:=Lib.contains_iff_indexByte iT c;constructor
 ·intro h hm;rw [List.contains_iff_mem.2 hm] at this;have:=of_decide_eq_true this.symm;omega
 intro h;rw [jg.2 (λhc=>h (List.contains_iff_mem.1 hc))] at this;have:=of_decide_eq_false this.symm;omega
def C5{l:List UInt8}(h:2 <= l.length)(hm:l.take 2∈jM):jZ l=2:=if_pos ⟨h,hm⟩
def Cr{c:UInt8}{r:List UInt8}(h:¬(2 <= (c::r).length /\ (c::r).take 2∈jM))(hc:c∈iT):jZ (c::r)=1:=by
 unfold jZ;rw [if_neg h,if_pos ⟨c,rfl,hc⟩]
def LG{c:UInt8}{r:List UInt8}(h:¬(2 <= (c::r).length /\ (c::r).take 2∈jM))(hc:c∉iT):jZ (c::r)=0:=by
 unfold jZ;rw [if_neg h,if_neg (by rintro ⟨d,hd,hs⟩;cases hd;exact hc hs)]
end
section
def RD(s:List UInt8)(k j:Nat)(hk:k+1<s.length)(h1:s[k]=47)(h2:s[k+1]=47)(hj:(s.drop k).dropWhile (·!= 10)=s.drop j):cR s j=cR s k:=by
 have e:s.drop k=47::47::s.drop (k+2):=by rw [jL s k Y,jL s (k+1) hk,h1,h2]
 have e2:(s.drop k).dropWhile (·!= 10)=(s.drop (k+2)).dropWhile (·!= 10):=by rw [e];rfl
 unfold cR;rw [←hj,e2]
 conv=>rhs;rw [e,Ew]
def Om(s:List UInt8)(k j:Nat)(hj:j<s.length)(h:(s.drop k).dropWhile (·!= 10)=(s.drop j).dropWhile (·!= 10)):
  (s[j]=10 -> (s.drop k).dropWhile (·!= 10)=s.drop j) /\ (s[j]≠10 -> (s.drop k).dropWhile (·!= 10)=(s.drop (j+1)).dropWhile (·!= 10)):=by
 rw [h,jL s j hj];refine ⟨λe=>?_,λe=>?_⟩
 ·rw [List.dropWhile_cons_of_neg (by simp [e])]
 rw [List.dropWhile_cons_of_pos (by simpa using e)]
def QS{s:List UInt8}{k:Nat}(hk:k<s.length)(h:¬(∃h2:k+1<s.length,s[k]=47 /\ s[k+1]=47)):¬(s[k]=47 /\ (s.drop (k+1)).head?=some 47):=by
 rintro ⟨h1,h2⟩
 apply h
 rw [List.head?_drop] at h2;obtain ⟨h3,h4⟩:=mM.1 h2;exact ⟨h3,h1,h4⟩
def uR(c:UInt8)(n:Nat)(m:Int)(hm:m=(n:Int))(hn:n<256):(c=UInt8.ofNat n -> ((c.toNat:Int) == m)=true /\ ((c.toNat:Int) != m)=false) /\ (c≠UInt8.ofNat n -> ((c.toNat:Int) == m)=false /\ ((c.toNat:Int) != m)=true):=by
 subst hm;refine ⟨λh=>?_,λh=>?_⟩
 ·subst h;have:(UInt8.ofNat n).toNat=n:=Aa;rw [this];simp
 have:(c.toNat:Int)≠n:=by
  intro h3;apply h;apply UInt8.toNat_inj.1;rw [UInt8.toNat_ofNat'];omega
 simp [this]
end
end Go.Proofs.YtjgeihmhppadaaaGreatDoor
