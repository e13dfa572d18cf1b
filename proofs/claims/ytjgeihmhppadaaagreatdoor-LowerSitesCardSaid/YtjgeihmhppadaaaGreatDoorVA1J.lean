import Derived.Test.YtjgeihmhppadaaaGreatDoorVM0J
import Derived.WalkSpells
import Derived.WalkLawsBesides
import Derived.Lib.Hide
import Derived.Lib.IndexAny
set_option linter.all false
namespace Go.Proofs.YtjgeihmhppadaaaGreatDoor
section
open Go.RowKit
def ownsRow_below{w w':ab}{base B:Nat}{e:bA}{size:Nat}{v:aN}{n:Nat}{xs:List aN}(h:w.ownsRow base e size v n xs)(hb:Below B w w')(hB:w.heap.size <= B):w'.ownsRow base e size v n xs:=by
 obtain ⟨h1,h2⟩:=h;refine ⟨h1,?_⟩;rcases h2 with h2|⟨g,cap,cur,hv,hg,hh,r⟩
 ·exact .inl h2
 refine .inr ⟨g,cap,cur,hv,hg,?_,r⟩;have hlt:g<w.heap.size:=by
  rcases jv g w.heap.size with h|h
  ·exact h
  rw [qC h] at hh;cases hh
 rw [hb.block g Y];exact hh
def ownsRow_nil(w:ab)(base:Nat)(e:bA)(size:Nat):w.ownsRow base e size (.slice none 0 0) 0 []:=⟨aL,.inl ⟨rfl,rfl⟩⟩
def d_(w:World)(v:Value)(n:Nat)(cells:List Value):Prop:=
 ∃a cap,v=.slice a n cap /\ n <= cap /\ (cells=[]∨∃b off,a=some ⟨b,off,none⟩ /\ ∀j u,cells[j]?=some u -> w.cell? ⟨b,off+j,none⟩=some u)
def mq{w:ab}{a:Addr}{u:aN}(h:w.cell? a=some u):a.block<w.heap.size:=by
 unfold World.cell? at h;rcases jv a.block w.heap.size with hl|hl
 ·exact hl
 rw [qC hl] at h;cases h
def d_.below{w w':ab}{B:Nat}{v:aN}{n:Nat}{cells:List aN}(h:d_ w v n cells)(hb:Below B w w')(hB:w.heap.size <= B):d_ w' v n cells:=by
 obtain ⟨a,cap,rfl,hc,h⟩:=h;refine ⟨a,cap,J,hc,h.imp id λ⟨b,off,ha,hr⟩=>⟨b,off,ha,λj u hu=>?_⟩⟩;have h1:=hr j u hu;rw [hb.cell (p:=⟨b,off+j,none⟩) (mK (mq h1) hB)];exact h1
def d_.nil(w:ab):d_ w (.slice none 0 0) 0 []:=⟨none,0,rfl,bX _,.inl rfl⟩
def d_.DS{w:ab}{base:Nat}{e:bA}{size:Nat}{v:aN}{n:Nat}{xs:List aN}(h:w.ownsRow base e size v n xs):d_ w v n xs:=by
 obtain ⟨h1,h2⟩:=h;rcases h2 with ⟨rfl,rfl⟩|⟨g,cap,cur,rfl,hg,hh,hc,_,hs,ht⟩
 ·obtain rfl:xs=[]:=ym sn;exact .nil w
 refine ⟨_,_,J,hc,.inr ⟨g,0,J,λj u hu=>?_⟩⟩;rw [←ht] at hu;rw [oy] at hu;split at hu
 ·unfold World.cell?;simp only [hh];simpa using hu
 cases hu
def TV{w:ab}{base:Nat}{e:bA}{size:Nat}{v:aN}{n:Nat}{xs:List aN}(h:w.ownsRow base e size v n xs){k:Nat}(hk:v.ownBlock=some k):base <= k:=by
 obtain ⟨h1,h2⟩:=h;rcases h2 with ⟨rfl,rfl⟩|⟨g,cap,cur,rfl,hg,_⟩
 ·simp [Value.ownBlock] at hk
 simp [Value.ownBlock] at hk;omega
def yp{w:ab}{base:Nat}{e:bA}{size:Nat}{v:aN}{n:Nat}{xs:List aN}(h:w.ownsRow base e size v n xs):∃a c,v=.slice a n c:=by
 obtain ⟨_,⟨rfl,rfl⟩|⟨g,cap,cur,rfl,_⟩⟩:=h
 ·exact ⟨_,_,J⟩
 exact ⟨_,_,J⟩
def Cq(w:ab)(l:List aN)(T:bA):∀j u,l[j]?=some u -> (w.alloc (Obj.cells l.toArray T)).cell? ((⟨w.heap.size,0,none⟩:Addr).add j)=some u:=by
 intro j u hu;have e:(⟨w.heap.size,0,none⟩:Addr).add j=⟨w.heap.size,j,none⟩:=Af;rw [e];simp [go_sem,hu]
def sv(w:ab)(l:List aN)(T:bA)(n:Nat)(hn:n=w.heap.size):∀j u,l[j]?=some u -> (w.alloc (Obj.cells l.toArray T)).cell? ((⟨n,0,none⟩:Addr).add j)=some u:=by
 subst hn;exact Cq w l T
def J6{w:ab}{base:Nat}{e:bA}{size:Nat}{v:aN}{n:Nat}{xs:List aN}(h:w.ownsRow base e size v n xs){k:Nat}(hk:v.ownBlock=some k):k<w.heap.size:=by
 obtain ⟨_,⟨rfl,rfl⟩|⟨g,cap,cur,rfl,_,hh,_⟩⟩:=h
 ·simp [Value.ownBlock] at hk
 simp [Value.ownBlock] at hk;subst hk;rcases jv g w.heap.size with h|h
 ·exact h
 rw [qC h] at hh;cases hh
def Xu{wr w w':ab}{v:aN}{base n size:Nat}{e:bA}{xs:List aN}(hg:w.grownBy w' v.ownBlock)(hown:wr.ownsRow base e size v n xs){k:Nat}(h1:wr.heap.size <= k)(h2:k<w.heap.size)(o:Nat):w'.cell? ⟨k,o,none⟩=w.cell? ⟨k,o,none⟩:=
 Cr (a:=⟨k,o,none⟩) (hg.block k h2 (λh=>by have:=J6 hown h.symm;omega))
def d_.new(w:ab)(l:List aN)(T:bA)(n:Nat):d_ (w.alloc (Obj.cells l.toArray T)) (.slice (some ⟨w.heap.size,0,none⟩) n n) n l:=
 ⟨_,_,rfl,bX _,.inr ⟨_,0,rfl,λj u hu=>by simp [go_sem,hu]⟩⟩
def DI{a b:aH}(h:a.data.toList=b.data.toList):a=b:=by
 cases a;cases b;simp at h;subst h;rfl
def Iv{a b:aH}(h:a=b):(a.toList == b.toList)=true:=by subst h;simp
def Na{a b:aH}(h:a≠b):(a.toList == b.toList)=false:=by
 rw [beq_eq_false_iff_ne];intro e;apply h;rw [ByteArray.toList_eq,ByteArray.toList_eq] at e;exact DI e
def d_.aGv(w:ab)(l:List aN)(T:bA)(n k:Nat)(hk:k=w.heap.size):d_ (w.alloc (Obj.cells l.toArray T)) (.slice (some ⟨k,0,none⟩) n n) n l:=by
 subst hk;exact d_.new w l T n
def Below.step{w a b:ab}(h:Below w.heap.size w a)(hb:Below a.heap.size a b):Below w.heap.size w b:=h.trans (hb.mono h.size)
def Below.grow{B:Nat}{W w w':ab}{v:aN}{base n size:Nat}{e:bA}{xs:List aN}(h:Below B W w)(hg:w.grownBy w' v.ownBlock)(hB:B <= w.heap.size)(hown:w.ownsRow base e size v n xs)(hb:B <= base):Below B W w':=
 Below.grown h hg hB (λ_ hk=>iS hb (TV hown hk))
end
section
def isSp(c:UInt8):Bool:=decide ((c.toNat:Int)=32∨(c.toNat:Int)=9∨(c.toNat:Int)=13∨(c.toNat:Int)=10)
def gC(c:UInt8):Bool:=decide ((97 <= (c.toNat:Int) /\ (c.toNat:Int) <= 122)∨(65 <= (c.toNat:Int) /\ (c.toNat:Int) <= 90)∨(c.toNat:Int)=95)
def dR(c:UInt8):Bool:=decide (48 <= (c.toNat:Int) /\ (c.toNat:Int) <= 57)
def dU(c:UInt8):Bool:=gC c||dR c
def js:List UInt8 -> List UInt8
 |[]=>[]
 |c::r=>if isSp c then js r else if c=47 /\ r.head?=some 47 then js (r.dropWhile (·!= 10)) else c::r
termination_by l=>l.length
decreasing_by
 ·simp
 have:=(List.dropWhile_sublist (l:=r) (·!= 10)).length_le;simp;omega
def Er:js []=[]:=by rw [js]
def HH{c:UInt8}{r:List UInt8}(h:isSp c=true):js (c::r)=js r:=by rw [js,if_pos h]
def Eb{r:List UInt8}:js (47::47::r)=js (r.dropWhile (·!= 10)):=by
 rw [js,if_neg V,if_pos ⟨rfl,rfl⟩];rfl
def yO{c:UInt8}{r:List UInt8}(h:isSp c=false)(hc:¬(c=47 /\ r.head?=some 47)):js (c::r)=c::r:=by
 rw [js,if_neg sf,if_neg hc]
def Vu(l:List UInt8):js l <:+l:=by
 induction l using js.induct with
 |case1=>rw [js];exact List.suffix_refl _
 |case2 c r h ih=>rw [HH h];exact ih.trans (List.suffix_cons c r)
 |case3 c r h hc ih=>rw [js,if_neg h,if_pos hc];exact (ih.trans (List.dropWhile_suffix _)).trans (List.suffix_cons c r)
 |case4 c r h hc=>rw [js,if_neg h,if_neg hc];exact List.suffix_refl _
def cb(s:List UInt8)(k:Nat):Nat:=s.length-(js (s.drop k)).length
def UI(s:List UInt8)(k:Nat):cb s k <= s.length:=Nat.sub_le _ _
def sY(s:List UInt8)(k:Nat)(hk:k <= s.length):k <= cb s k:=by
 have:=(Vu (s.drop k)).length_le;rw [kL] at this;unfold cb;omega
def je(s:List UInt8)(k:Nat)(hk:k<s.length):s.drop k=s[k]::s.drop (k+1):=ic hk
def NG(s:List UInt8)(k:Nat)(hk:k<s.length)(h:isSp s[k]=true):cb s (k+1)=cb s k:=by
 unfold cb;rw [je s k hk,HH h]
def II(s:List UInt8)(k:Nat)(hk:s.length <= k):cb s k=s.length:=by
 unfold cb;rw [mi hk,Er];simp
def GZ(s:List UInt8)(k:Nat)(hk:k<s.length)(h:isSp s[k]=false)(hc:¬(s[k]=47 /\ (s.drop (k+1)).head?=some 47)):cb s k=k:=by
 unfold cb;rw [je s k hk,yO h hc];simp;omega
def KV(l:List UInt8):Lib.hasPrefix l [47,47]=true↔∃r,l=47::47::r:=by
 unfold Lib.hasPrefix;rcases l with _|⟨a,_|⟨b,r⟩⟩<;>simp [List.isPrefixOf];constructor
 ·rintro ⟨rfl,rfl⟩;exact ⟨rfl,rfl⟩
 rintro ⟨rfl,rfl⟩;exact ⟨rfl,rfl⟩
def Q7(l:List UInt8)(c:UInt8):(Lib.indexByte l c<0 -> l.dropWhile (·!= c)=[]) /\ (∀j:Nat,Lib.indexByte l c=j -> l.dropWhile (·!= c)=l.drop j /\ j<l.length):=by
 induction l with
 |nil=>simp [Lib.indexByte]
 |cons b l ih=>
  unfold Lib.indexByte;by_cases h:b=c
  ·subst h;simp;intro j hj;obtain rfl:j=0:=Y;simp
  have hb:(b == c)=false:=sf;have hn:(b != c)=true:=sf;rw [hb,show (b::l).dropWhile (·!= c)=l.dropWhile (·!= c) from List.dropWhile_cons_of_pos hn]
  by_cases hm:Lib.indexByte l c=-1
  ·simp [hm];exact ih.1 Y
  have h1:(Lib.indexByte l c == -1)=false:=by simp [hm]
  simp only [h1,mz,if_false];refine ⟨λh=>ih.1 Y,λj hj=>?_⟩;obtain ⟨j,rfl⟩:∃i,j=i+1:=by
   refine ⟨j-1,?_⟩;have h0:j≠0:=by
    rintro rfl;have:=ih.1 Y;have h2:-1 <= Lib.indexByte l c:=by
     clear ih hm h1 hj this;induction l with
     |nil=>simp [Lib.indexByte]
     |cons x l ih=>
      unfold Lib.indexByte;split
      ·omega
      split<;>omega
    omega
   omega
  have:=ih.2 j Y;refine ⟨by rw [this.1];rfl,dh⟩
def XR(s:List UInt8)(k:Nat)(hk:k<s.length)(h:Lib.hasPrefix (s.drop k) [47,47]=true):
  (Lib.indexByte (s.drop k) 10<0 -> cb s k=s.length) /\ (∀j:Nat,Lib.indexByte (s.drop k) 10=j -> cb s (k+j)=cb s k /\ k+j <= s.length /\ 0<j):=by
 obtain ⟨r,hr⟩:=(KV _).1 h;have hd:=Q7 (s.drop k) 10;have e:(s.drop k).dropWhile (·!= 10)=r.dropWhile (·!= 10):=by rw [hr];rfl
 refine ⟨λhn=>?_,λj hj=>?_⟩
 ·have:=hd.1 hn;unfold cb;rw [hr,Eb,←e,this,Er];simp
 have:=hd.2 j hj;refine ⟨?_,?_,?_⟩
 ·unfold cb;rw [hr,Eb,←e,this.1,List.drop_drop]
 ·have:=this.2;rw [kL] at this;omega
 rcases xL j with rfl|h0
 ·rw [hr] at hj;simp [Lib.indexByte] at hj;split at hj<;>(try split at hj)<;>omega
 exact h0
def words:List ByteArray:=[⟨#[118,97,114]⟩,⟨#[109,117,116,101,120]⟩,⟨#[114,109,117,116,101,120]⟩,⟨#[102,117,110,99]⟩,⟨#[108,111,99,107]⟩,⟨#[117,110,108,111,99,107]⟩,⟨#[103,111]⟩,⟨#[105,102]⟩,⟨#[101,108,115,101]⟩,⟨#[119,104,105,108,101]⟩,⟨#[114,101,116,117,114,110]⟩]
def fP(s:ByteArray):Bool:=words.any λx=>decide (x=s)
def IK(s:aH):fP s=true↔s∈words:=by simp [fP]
def fQ:Nat -> List UInt8 -> Option Nat
 |n,[]=>some n
 |n,c::r=>if (9223372036854775807-(c.toNat-48))/10<n then none else fQ (10*n+(c.toNat-48)) r
def kU:List (List UInt8):=[[60,61],[62,61],[61,61],[33,61],[38,38],[124,124]]
def j':List UInt8:=[40,41,123,125,91,93,44,59,61,43,45,42,47,37,60,62,33]
def kD(l:List UInt8):Nat:=if 2 <= l.length /\ l.take 2∈kU then 2 else if ∃c,l.head?=some c /\ c∈j' then 1 else 0
def bytes(l:List UInt8):ByteArray:=⟨l.toArray⟩
inductive Next where
 |tok (kind len num:Nat)
 |err (e:Nat)
def eC(l:List UInt8):Next:=
 if gC (l.headD 0) then
  if 16<(l.takeWhile dU).length then .err 3 else .tok (if fP (bytes (l.takeWhile dU)) then 3 else 1) (l.takeWhile dU).length 0
 else if dR (l.headD 0) then
  match fQ 0 (l.takeWhile dR) with
  |none=>.err 2
  |some n=>.tok 2 (l.takeWhile dR).length n
 else if kD l=0 then .err 1 else .tok 4 (kD l) 0
structure Tok where
 kind:Nat
 text:ByteArray
 num:Nat
 pos:Nat
 deriving DecidableEq,Inhabited
inductive gS where
 |ok (l:List Tok)
 |err (pos e:Nat)
def gS.cons(t:Tok):gS -> gS
 |.ok l=>.ok (t::l)
 |.err p e=>.err p e
def gS.app(l:List Tok):gS -> gS
 |.ok r=>.ok (l++r)
 |.err p e=>.err p e
def gS.aG5(r:gS):gS.app [] r=r:=by cases r<;>rfl
def gS.Rd(l:List Tok)(t:Tok)(r:gS):gS.app l (gS.cons t r)=gS.app (l++[t]) r:=by cases r<;>simp [gS.app,gS.cons]
def iD(s:List UInt8)(k n:Nat):gS:=
 if s.length <= cb s k then .ok [⟨5,⟨#[]⟩,0,s.length⟩]
 else match eC (s.drop (cb s k)) with
  |.err e=>.err (cb s k) e
  |.tok kind len num=>
   if n=4000 then .err (cb s k) 3
   else if _h:k<cb s k+len /\ k<s.length then gS.cons ⟨kind,bytes ((s.drop (cb s k)).take len),num,cb s k⟩ (iD s (cb s k+len) (n+1))
   else .err 0 0
termination_by s.length-k
def ge(s:List UInt8):gS:=if 262144<s.length then .err 262144 3 else iD s 0 0
def vO{c:UInt8}{r:List UInt8}(h:gC c=true):eC (c::r)=if 16<((c::r).takeWhile dU).length then .err 3 else .tok (if fP (bytes ((c::r).takeWhile dU)) then 3 else 1) ((c::r).takeWhile dU).length 0:=by
 unfold eC;rw [Cg,if_pos h]
def yJ{c:UInt8}{r:List UInt8}(h:gC c=false)(hd:dR c=true)(hn:fQ 0 ((c::r).takeWhile dR)=none):eC (c::r)=.err 2:=by
 unfold eC;rw [Cg,if_neg sf,if_pos hd,hn]
def xA{c:UInt8}{r:List UInt8}{n:Nat}(h:gC c=false)(hd:dR c=true)(hn:fQ 0 ((c::r).takeWhile dR)=some n):eC (c::r)=.tok 2 ((c::r).takeWhile dR).length n:=by
 unfold eC;rw [Cg,if_neg sf,if_pos hd,hn]
def uh{c:UInt8}{r:List UInt8}(h:gC c=false)(hd:dR c=false):eC (c::r)=if kD (c::r)=0 then .err 1 else .tok 4 (kD (c::r)) 0:=by
 unfold eC;rw [Cg,if_neg sf,if_neg (by simp [hd])]
def I1(l:List UInt8):kD l <= 2 /\ kD l <= l.length:=by
 unfold kD;by_cases h:2 <= l.length /\ l.take 2∈kU
 ·rw [if_pos h];exact ⟨Y,h.1⟩
 rw [if_neg h];by_cases h2:∃c,l.head?=some c /\ c∈j'
 ·rw [if_pos h2];obtain ⟨c,hc,_⟩:=h2;cases l<;>simp at hc⊢
 rw [if_neg h2];omega
def Cv{l:List UInt8}(hl:l≠[]){kind len num:Nat}(h:eC l=.tok kind len num):0<len /\ len <= l.length:=by
 obtain ⟨c,r,rfl⟩:=C2 hl;cases hc:gC c with
 |true=>
  rw [vO hc] at h;by_cases hl:16<((c::r).takeWhile dU).length
  ·rw [if_pos hl] at h;cases h
  ·rw [if_neg hl] at h;injection h with _ h2 _
   rw [←h2];exact ⟨by rw [su (by simp [dU,hc])];simp,(xT _).length_le⟩
 |false=>
  cases hd:dR c with
  |true=>
   cases hn:fQ 0 ((c::r).takeWhile dR) with
   |none=>rw [yJ hc hd hn] at h;cases h
   |some n=>
    rw [xA hc hd hn] at h;injection h with _ h2 _
    rw [←h2];exact ⟨by rw [su hd];simp,(xT _).length_le⟩
  |false=>
   rw [uh hc hd] at h;by_cases h0:kD (c::r)=0
   ·rw [if_pos h0] at h;cases h
   rw [if_neg h0] at h;injection h with _ h2 _
   rw [←h2];exact ⟨Y,(I1 _).2⟩
def Df{s:List UInt8}{k n:Nat}(h:s.length <= cb s k):iD s k n=.ok [⟨5,⟨#[]⟩,0,s.length⟩]:=by
 rw [iD,if_pos h]
def DX{s:List UInt8}{k n e:Nat}(h:cb s k<s.length)(he:eC (s.drop (cb s k))=.err e):iD s k n=.err (cb s k) e:=by
 rw [iD,if_neg Y,he]
def DD{s:List UInt8}{k kind len num:Nat}(h:cb s k<s.length)(he:eC (s.drop (cb s k))=.tok kind len num):iD s k 4000=.err (cb s k) 3:=by
 rw [iD,if_neg Y,he];simp
def Ce{s:List UInt8}{k n kind len num:Nat}(hk:k <= s.length)(h:cb s k<s.length)(he:eC (s.drop (cb s k))=.tok kind len num)(hn:n≠4000):
  iD s k n=gS.cons ⟨kind,bytes ((s.drop (cb s k)).take len),num,cb s k⟩ (iD s (cb s k+len) (n+1)):=by
 have h1:=sY s k hk;have h2:=Cv (by intro hd;have:=congrArg List.length hd;simp at this;omega) he;rw [iD,if_neg Y,he];simp only [hn,if_false];rw [dif_pos ⟨Y,Y⟩]
def Tr(x:UInt8)(l sub:List UInt8):Lib.contains (x::l) sub=(sub.isPrefixOf (x::l)||Lib.contains l sub):=by
 have:=Lib.index_ge l sub;unfold Lib.contains;rw [Lib.index];cases h:sub.isPrefixOf (x::l) with
 |true=>simp
 |false=>
  simp only [mz,if_false,Bool.false_or];by_cases hm:Lib.index l sub=-1
  ·simp [hm]
  have h1:(Lib.index l sub == -1)=false:=by simp [hm]
  simp only [h1,mz,if_false]
  congr 1;apply propext;omega
def Yb(a b:UInt8)(l:List UInt8):Lib.contains l [a,b]=true↔(a,b)∈l.zip l.tail:=by
 induction l with
 |nil=>simp [Lib.contains,Lib.index]
 |cons x l ih=>
  rw [Tr,nN,ih];cases l with
  |nil=>simp [List.isPrefixOf]
  |cons y r=>simp [List.isPrefixOf]
def v7:List UInt8:=[60,61,32,62,61,32,61,61,32,33,61,32,38,38,32,124,124]
def Jd(a b:UInt8)(ha:a≠32)(hb:b≠32):Lib.contains v7 [a,b]=true↔[a,b]∈kU:=by
 rw [Yb];simp only [v7,kU,List.zip,List.tail,List.zipWith,oo,jC,sV,and_true,List.not_mem_nil,or_false];constructor
 ·intro h;rcases h with h|h|h|h|h|h|h|h|h|h|h|h|h|h|h|h;all_goals (obtain ⟨h1,h2⟩:=h;first|exact absurd h1 ha|exact absurd h2 hb|(subst h1;subst h2;decide))
 intro h;rcases h with h|h|h|h|h|h;all_goals (obtain ⟨h1,h2⟩:=h;subst h1;subst h2;decide)
def My(a b:UInt8)(h:[a,b]∈kU):a≠32 /\ b≠32:=by
 simp only [kU,oo,sV,and_true,List.not_mem_nil,or_false] at h;rcases h with h|h|h|h|h|h;all_goals (obtain ⟨h1,h2⟩:=h;subst h1;subst h2;decide)
def Jx(c:UInt8):Lib.indexByte j' c<0↔c∉j':=by
 have:=Lib.contains_iff_indexByte j' c;constructor
 ·intro h hm;rw [List.contains_iff_mem.2 hm] at this;have:=of_decide_eq_true this.symm;omega
 intro h;rw [kX.2 (λhc=>h (List.contains_iff_mem.1 hc))] at this;have:=of_decide_eq_false this.symm;omega
def G_{l:List UInt8}(h:2 <= l.length)(hm:l.take 2∈kU):kD l=2:=if_pos ⟨h,hm⟩
def Ei{c:UInt8}{r:List UInt8}(h:¬(2 <= (c::r).length /\ (c::r).take 2∈kU))(hc:c∈j'):kD (c::r)=1:=by
 unfold kD;rw [if_neg h,if_pos ⟨c,rfl,hc⟩]
def OE{c:UInt8}{r:List UInt8}(h:¬(2 <= (c::r).length /\ (c::r).take 2∈kU))(hc:c∉j'):kD (c::r)=0:=by
 unfold kD;rw [if_neg h,if_neg (by rintro ⟨d,hd,hs⟩;cases hd;exact hc hs)]
end
section
def Su(s:List UInt8)(k j:Nat)(hk:k+1<s.length)(h1:s[k]=47)(h2:s[k+1]=47)(hj:(s.drop k).dropWhile (·!= 10)=s.drop j):cb s j=cb s k:=by
 have e:s.drop k=47::47::s.drop (k+2):=by rw [je s k Y,je s (k+1) hk,h1,h2]
 have e2:(s.drop k).dropWhile (·!= 10)=(s.drop (k+2)).dropWhile (·!= 10):=by rw [e];rfl
 unfold cb;rw [←hj,e2]
 conv=>rhs;rw [e,Eb]
def Q8(s:List UInt8)(k j:Nat)(hj:j<s.length)(h:(s.drop k).dropWhile (·!= 10)=(s.drop j).dropWhile (·!= 10)):
  (s[j]=10 -> (s.drop k).dropWhile (·!= 10)=s.drop j) /\ (s[j]≠10 -> (s.drop k).dropWhile (·!= 10)=(s.drop (j+1)).dropWhile (·!= 10)):=by
 rw [h,je s j hj];refine ⟨λe=>?_,λe=>?_⟩
 ·rw [List.dropWhile_cons_of_neg (by simp [e])]
 rw [List.dropWhile_cons_of_pos (by simpa using e)]
def UE{s:List UInt8}{k:Nat}(hk:k<s.length)(h:¬(∃h2:k+1<s.length,s[k]=47 /\ s[k+1]=47)):¬(s[k]=47 /\ (s.drop (k+1)).head?=some 47):=by
 rintro ⟨h1,h2⟩
 apply h
 rw [List.head?_drop] at h2;obtain ⟨h3,h4⟩:=m6.1 h2;exact ⟨h3,h1,h4⟩
def vx(c:UInt8)(n:Nat)(m:Int)(hm:m=(n:Int))(hn:n<256):(c=UInt8.ofNat n -> ((c.toNat:Int) == m)=true /\ ((c.toNat:Int) != m)=false) /\ (c≠UInt8.ofNat n -> ((c.toNat:Int) == m)=false /\ ((c.toNat:Int) != m)=true):=by
 subst hm;refine ⟨λh=>?_,λh=>?_⟩
 ·subst h;have:(UInt8.ofNat n).toNat=n:=C6;rw [this];simp
 have:(c.toNat:Int)≠n:=by
  intro h3;apply h;apply UInt8.toNat_inj.1;rw [UInt8.toNat_ofNat'];omega
 simp [this]
end
end Go.Proofs.YtjgeihmhppadaaaGreatDoor
