import Derived.Test.YtlmpchoaebhhmaaGreatDoorL5J
import Derived.Test.YtlmpchoaebhhmaaGreatDoorL7J
import Derived.Test.YtlmpchoaebhhmaaGreatDoorL4J
import Derived.Test.YtlmpchoaebhhmaaGreatDoorL1J
set_option linter.all false
set_option synthInstance.maxHeartbeats 1000000
set_option synthInstance.maxSize 1000000
set_option maxHeartbeats 1600000
set_option maxRecDepth 100000
namespace Go.Proofs.YtlmpchoaebhhmaaGreatDoor
open Go.Proofs.Tryz
open List (length_append length_cons length_nil mem_append mem_cons not_mem_nil append_assoc getElem_mem take_of_length_le)
section
open Go.RowKit
abbrev SSt(A B:List Box)(rw:List bA)(S:Nat)(l:List Int)(i:Nat):Sto:=⟨A++⟨S,78,[.sl l.length (l.map fun i=>.val (.int .i64 i)),nC i]⟩::B,rw⟩
theorem aTv(l:List Int)(n:Nat)(s:Sto):aL prog 40 [.c (.sl l.length (l.map fun i=>.val (.int .i64 i))),nI n] [] s fun r s'=>r=.c (.sl (l.take n).length ((l.take n).map fun i=>.val (.int .i64 i))) /\ s'=s:=by
 obtain ⟨bx,rw⟩:=s
 refine acB func40 rfl ?_
 show AWp prog _ ⟨13,[],⟨bx,rw⟩,[(0,.c (.sl l.length (l.map fun i=>.val (.int .i64 i)))),(1,nI n)]⟩ _
 refine go 11 ?_
 by_cases hlt:n<l.length
 ·refine wcp true rfl (by first|exact eU (by omega)|(simp [bC]<;>omega)) ?_
  refine go 7 ?_
  refine wyz rfl (aGm (h:=(l.take n).length) (z:=1) rfl rfl rfl (by rw [List.length_take];omega) (by rw [List.length_take];omega) (by kernel_rfl) (by kernel_rfl) sizeOf3 (by rw [List.length_take,Nat.min_eq_left (by omega),Nat.mul_one,←List.map_take])) ?_
  refine go 5 ?_
  exact bHe (s':=⟨bx,rw⟩) rfl sb0 ⟨rfl,rfl⟩
 rw [take_of_length_le (l:=l) (i:=n) (by omega)]
 refine wcp false rfl (by first|exact eE (by omega)|(simp [bC]<;>omega)) ?_
 refine go 12 ?_
 exact bHe (s':=⟨bx,rw⟩) rfl sb0 ⟨rfl,rfl⟩
theorem aC2(A B:List Box)(rw:List bA)(S:Nat)(l:List Int)(i0:Nat)(n:Int)(hi0:i0 <= l.length)(hl:l.length <= 1000000)(hn0:0<n)(hn1:n <= 4611686018427387904):aL prog 41 [pP S,.c (.val (.int .i64 n))] [S] (SSt A B rw S l i0) fun r s=>∃(z:Int) (i:Nat),r=.c (.val (.int .i64 z)) /\ 0 <= z /\ z<n /\ i <= l.length /\ s=SSt A B rw S l i:=by
 refine acB func41 rfl ?_
 show AWp prog _ ⟨35,[S],⟨A++⟨S,78,[.sl l.length (l.map fun i=>.val (.int .i64 i)),nC i0]⟩::B,rw⟩,[(0,pP S),(1,.c (.val (.int .i64 n)))]⟩ _
 refine go 7 ?_
 refine aB [S] (by kernel_rfl) ?_
 refine tks [(0,true),(1,true),(2,true),(3,true),(4,true),(5,true),(6,true),(7,true),(8,true)] 1 (by kernel_rfl) ?_
 refine go 10 ?_
 refine tr 9 (by kernel_rfl) rfl (bO _ rfl rfl rfl rfl) ?_
 refine aE (by kernel_rfl) ?_
 refine go 1 ?_
 refine gY rfl (fun hc1=>?_) (fun hc1=>?_)
 ·have hge:l.length <= i0:=by simpa using hc1
  refine go 7 ?_
  exact bHe (s':=SSt A B rw S l i0) rfl sb0 ⟨0,i0,rfl,by omega,hn0,hi0,rfl⟩
 have hlt:i0<l.length:=by simpa using hc1
 refine go 8 ?_
 refine wad rfl ?_
 refine go 6 ?_
 refine aB [S] (by kernel_rfl) ?_
 refine tks [(0,true),(1,true),(2,true),(3,true),(4,true),(5,true),(6,true),(7,true)] 6 (by kernel_rfl) ?_
 refine go 9 ?_
 refine tr 8 (by kernel_rfl) rfl (cI ((i0:Nat):Int) rfl rfl rfl (by omega) (by omega) (by omega)) ?_
 refine tr 9 (by kernel_rfl) rfl (rT (fun i=>.val (.int .i64 i)) l i0 rfl rfl rfl rfl hlt runUnderlying22 sizeOf3) ?_
 refine tks [(10,true),(11,true)] 2 (by kernel_rfl) ?_
 refine go 3 ?_
 refine one 12 (by kernel_rfl) rfl rfl (bD [] rfl rfl (by decide) call16 rfl (aNz _ _ hn0 hn1 _) bDl bDl (fun _=>bDl) ?_)
 rintro rj sj ⟨rfl,rfl⟩
 refine tks [(13,true)] 0 (by kernel_rfl) ?_
 refine go 2 ?_
 refine aE (by kernel_rfl) ?_
 refine go 2 ?_
 exact bHe (s':=SSt A B rw S l (i0+1)) rfl sb0 ⟨l[i0]%n,i0+1,rfl,Int.emod_nonneg _ (by omega),Int.emod_lt_of_pos _ hn0,hlt,rfl⟩
theorem vH(A B:List Box)(rw:List bA)(S:Nat)(l:List Int)(i0:Nat)(hi0:i0 <= l.length)(hl:l.length <= 1000000):aL prog 144 [pP S] [S] (SSt A B rw S l i0) fun r s=>∃(z:Int) (i:Nat),r=.c (.val (.int .i64 z)) /\ 0 <= z /\ z<4611686018427387904 /\ i <= l.length /\ s=SSt A B rw S l i:=by
 refine acB func144 rfl ?_
 show AWp prog _ ⟨10,[S],⟨A++⟨S,78,[.sl l.length (l.map fun i=>.val (.int .i64 i)),nC i0]⟩::B,rw⟩,[(0,pP S)]⟩ _
 refine go 9 ?_
 refine wo rfl (bD [S] rfl rfl (by decide) call41 rfl (aC2 A _ _ _ l i0 _ hi0 hl (by decide) (by decide)) (bDj (by simp)) (bDj (by simp [Sto.bl])) (fun _=>bDj (by simp)) ?_)
 rintro r1 s1 ⟨z1,i1,rfl,hz1,hy1,hi1,rfl⟩
 refine wyz rfl (bO _ rfl rfl rfl rfl) ?_
 refine go 2 ?_
 refine gY rfl (fun hc1=>?_) (fun hc1=>?_)
 ·refine go 3 ?_
  refine wo rfl (bD [S] rfl rfl (by decide) call41 rfl (aC2 A _ _ _ l i1 _ hi1 hl (by decide) (by decide)) (bDj (by simp)) (bDj (by simp [Sto.bl])) (fun _=>bDj (by simp)) ?_)
  rintro r2 s2 ⟨z2,i2,rfl,hz2,hy2,hi2,rfl⟩
  refine go 5 ?_
  exact bHe (s':=SSt A B rw S l i2) rfl sb0 ⟨z2,i2,rfl,hz2,by omega,hi2,rfl⟩
 refine go 5 ?_
 refine wo rfl (bD [S] rfl rfl (by decide) call41 rfl (aC2 A _ _ _ l i1 _ hi1 hl (by decide) (by decide)) (bDj (by simp)) (bDj (by simp [Sto.bl])) (fun _=>bDj (by simp)) ?_)
 rintro r2 s2 ⟨z2,i2,rfl,hz2,hy2,hi2,rfl⟩
 refine go 4 ?_
 exact bHe (s':=SSt A B rw S l i2) rfl sb0 ⟨z2,i2,rfl,hz2,by omega,hi2,rfl⟩
end
section
open Go.RowKit
abbrev bP(l:List ByteArray):List AC:=l.map fun x=>.val (.string x)
theorem rB(names:List ByteArray)(j:Nat)(h:j<names.length):pk false 1 (bP names) (0+j*1)=some (.c (.val (.string names[j]))):=by
 unfold pk bP
 rw [if_neg (by decide),Nat.zero_add,Nat.mul_one,List.getElem?_map,List.getElem?_eq_getElem h];rfl
end
section
inductive eT (names:List ByteArray):Nat -> aH -> Prop
 |name {d:Nat} {x:ByteArray} (h:x∈names):eT names d (.mk 2 0 x [])
 |num {d:Nat} {n:Int} (h0:0 <= n) (h1:n<4611686018427387904):eT names d (.mk 1 n aK [])
 |un {d:Nat} {op:Int} {e:aH} (ho:op=3∨op=4) (he:eT names d e):eT names (d+1) (.mk op 0 aK [e])
 |bin {d:Nat} {op:Int} {a b:aH} (h0:5 <= op) (h1:op <= 17) (ha:eT names d a) (hb:eT names d b):eT names (d+1) (.mk op 0 aK [a,b])
theorem eT.mono{names:List ByteArray}{d d':Nat}{e:aH}(h:eT names d e)(hd:d <= d'):eT names d' e:=by
 induction h generalizing d' with
 |name h=>exact .name h
 |num h0 h1=>exact .num h0 h1
 |@un d op e ho he ih=>
  obtain ⟨k,rfl⟩:∃k,d'=k+1:=⟨d'-1,by omega⟩
  exact .un ho (ih (by omega))
 |@bin d op a b h0 h1 ha hb iha ihb=>
  obtain ⟨k,rfl⟩:∃k,d'=k+1:=⟨d'-1,by omega⟩
  exact .bin h0 h1 (iha (by omega)) (ihb (by omega))
inductive uA (ms:List cL) (ps:List aS) (vars:List ByteArray):cY -> Prop
 |arr {m:cL} {e:aH} (hm:m∈ms) (hs:0<m.size) (he:eT vars 1 e):uA ms ps vars ⟨m.name,[e]⟩
 |scalar {m:cL} (hm:m∈ms) (hs:m.size <= 0):uA ms ps vars ⟨m.name,[]⟩
 |param {x:aS} (hx:x∈ps) (hm:x.mutex=true):uA ms ps vars ⟨x.name,[]⟩
inductive nB (ms:List cL) (ps:List aS) (vars:List ByteArray):List aS -> List eN -> Prop
 |nil:nB ms ps vars [] []
 |mutex {x:aS} {l:List aS} {asl:List eN} {r:cY} (hx:x.mutex=true) (hr:uA ms ps vars r) (h:nB ms ps vars l asl):nB ms ps vars (x::l) (⟨true,r,.zero⟩::asl)
 |expr {x:aS} {l:List aS} {asl:List eN} {e:aH} (hx:x.mutex=false) (he:eT vars 2 e) (h:nB ms ps vars l asl):nB ms ps vars (x::l) (⟨false,.zero,e⟩::asl)
def cM(left:Nat):ByteArray:=bytes [118,UInt8.ofNat (97+left%26),UInt8.ofNat (97+left/26%26)]
abbrev Sig:=ByteArray×List aS
inductive dJ (ms:List cL) (fs:List Sig) (ps:List aS):List ByteArray -> Nat -> Nat -> List aJ -> Nat -> Prop
 |nil {vars:List ByteArray} {deep left:Nat}:dJ ms fs ps vars deep left [] left
 |lock {vars:List ByteArray} {deep left left':Nat} {r:cY} {rest:List aJ} (hr:uA ms ps vars r) (h:dJ ms fs ps vars deep left rest left'):
   dJ ms fs ps vars deep (left+1) (.mk 5 aK .zero r [] [] []::rest) left'
 |unlock {vars:List ByteArray} {deep left left':Nat} {r:cY} {rest:List aJ} (hr:uA ms ps vars r) (h:dJ ms fs ps vars deep left rest left'):
   dJ ms fs ps vars deep (left+1) (.mk 6 aK .zero r [] [] []::rest) left'
 |var {vars:List ByteArray} {deep left left':Nat} {e:aH} {rest:List aJ} (he:eT vars 2 e) (h:dJ ms fs ps (vars++[cM left]) deep left rest left'):
   dJ ms fs ps vars deep (left+1) (.mk 1 (cM left) e .zero [] [] []::rest) left'
 |assign {vars:List ByteArray} {deep left left':Nat} {x:ByteArray} {e:aH} {rest:List aJ} (hx:x∈vars) (he:eT vars 2 e) (h:dJ ms fs ps vars deep left rest left'):
   dJ ms fs ps vars deep (left+1) (.mk 2 x e .zero [] [] []::rest) left'
 |call {vars:List ByteArray} {deep left left':Nat} {k:Int} {g:Sig} {asl:List eN} {rest:List aJ} (hk:k=3∨k=4) (hg:g∈fs) (ha:nB ms ps vars g.2 asl) (h:dJ ms fs ps vars deep left rest left'):
   dJ ms fs ps vars deep (left+1) (.mk k g.1 .zero .zero asl [] []::rest) left'
 |cond {vars:List ByteArray} {deep left l1 l2 left':Nat} {e:aH} {thn els rest:List aJ} (he:eT vars 2 e) (ht:dJ ms fs ps vars deep left thn l1) (hel:dJ ms fs ps vars deep l1 els l2) (h:dJ ms fs ps vars (deep+1) l2 rest left'):
   dJ ms fs ps vars (deep+1) (left+1) (.mk 7 aK e .zero [] thn els::rest) left'
 |loop {vars:List ByteArray} {deep left l1 left':Nat} {e:aH} {thn rest:List aJ} (he:eT vars 2 e) (ht:dJ ms fs ps vars deep left thn l1) (h:dJ ms fs ps vars (deep+1) l1 rest left'):
   dJ ms fs ps vars (deep+1) (left+1) (.mk 8 aK e .zero [] thn []::rest) left'
 |ret {vars:List ByteArray} {deep left left':Nat} {rest:List aJ} (h:dJ ms fs ps vars deep left rest left'):
   dJ ms fs ps vars deep (left+1) (.mk 9 aK .zero .zero [] [] []::rest) left'
 |pair {vars:List ByteArray} {deep left l1 left':Nat} {r:cY} {mid rest:List aJ} (hr:uA ms ps vars r) (hm:dJ ms fs ps vars 0 left mid l1) (h:dJ ms fs ps vars deep l1 rest left'):
   dJ ms fs ps vars deep (left+1) (.mk 5 aK .zero r [] [] []::(mid++.mk 6 aK .zero r [] [] []::rest)) left'
theorem dJ.le{ms:List cL}{fs:List Sig}{ps:List aS}{vars:List ByteArray}{deep left left':Nat}{l:List aJ}(h:dJ ms fs ps vars deep left l left'):left' <= left:=by
 induction h<;>omega
def aDx(i:Nat)(m:cL):Prop:=m.name=bytes [UInt8.ofNat (97+i)] /\ ((m.reentrant=false /\ 0 <= m.size /\ m.size <= 3)∨(m.reentrant=true /\ m.size=0))
def aDa(i:Nat)(g:aI):Prop:=g.name=bytes [103,UInt8.ofNat (48+i)] /\ -2 <= g.init /\ g.init <= 2
def pM(l:List aS):Prop:=l.length <= 2 /\ ∀k (h:k<l.length),l[k].name=bytes [112,UInt8.ofNat (48+(l.length-k))]
def aMn(i:Nat)(f:bS):Prop:=(i=0 -> f.name=bytes [109,97,105,110] /\ f.params=[]) /\ (0<i -> f.name=bytes [102,UInt8.ofNat (48+i)]) /\ pM f.params
def bS.sig(f:bS):Sig:=(f.name,f.params)
def uS(gs:List aI)(ps:List aS):List ByteArray:=gs.map aI.name++(ps.filter fun x=>!x.mutex).map aS.name
inductive kZ (ms:List cL) (fs:List Sig) (gs:List aI):Nat -> List bS -> Prop
 |nil {left:Nat}:kZ ms fs gs left []
 |cons {left left':Nat} {f:bS} {l:List bS} (h:dJ ms fs f.params (uS gs f.params) 2 left f.body left') (hl:kZ ms fs gs left' l):kZ ms fs gs left (f::l)
structure sY (p:cK):Prop where
 mutexes:1 <= p.mutexes.length /\ p.mutexes.length <= 4 /\ ∀k (h:k<p.mutexes.length),aDx k p.mutexes[k]
 globals:p.globals.length <= 2 /\ ∀k (h:k<p.globals.length),aDa k p.globals[k]
 funcs:1 <= p.funcs.length /\ p.funcs.length <= 4 /\ ∀k (h:k<p.funcs.length),aMn k p.funcs[k]
 bodies:kZ p.mutexes (p.funcs.map bS.sig) p.globals 24 p.funcs
end
section
open Go.RowKit
instance (priority:=900) boxIn_appG{A0 R A B:List Box}{b:Nat}{T:TypeId}{cs:List AC}[h:lY R b A T cs B]:lY (A0++R) b (A0++A) T cs B:=⟨by rw [h.h,append_assoc]⟩
instance (priority:=1050) appL_app{A0 X ds r:List Box}[h:aDk X ds r]:aDk (A0++X) ds (A0++r):=⟨by rw [append_assoc,h.h]⟩
instance aS8:hP 1 1 2:=⟨rfl⟩
instance aSv:hP 1 2 3:=⟨rfl⟩
instance aSi:hP 1 3 4:=⟨rfl⟩
instance aTa:hP 1 4 5:=⟨rfl⟩
instance aTf:hP 1 5 6:=⟨rfl⟩
instance aS0:hP 2 1 3:=⟨rfl⟩
instance aSx:hP 2 2 4:=⟨rfl⟩
instance aTk:hP 2 3 5:=⟨rfl⟩
instance aT2:hP 2 4 6:=⟨rfl⟩
instance aRx:hP 2 5 7:=⟨rfl⟩
instance aTw:hP 3 1 4:=⟨rfl⟩
instance aSs:hP 3 2 5:=⟨rfl⟩
instance aSa:hP 3 3 6:=⟨rfl⟩
instance aS6:hP 3 4 7:=⟨rfl⟩
instance aRv:hP 3 5 8:=⟨rfl⟩
instance aR2:hP 4 1 5:=⟨rfl⟩
instance aSy:hP 4 2 6:=⟨rfl⟩
instance aR1:hP 4 3 7:=⟨rfl⟩
instance aSw:hP 4 4 8:=⟨rfl⟩
instance aTt:hP 4 5 9:=⟨rfl⟩
instance aSj:hP 5 1 6:=⟨rfl⟩
instance aSz:hP 5 2 7:=⟨rfl⟩
instance aTg:hP 5 3 8:=⟨rfl⟩
instance aR9:hP 5 4 9:=⟨rfl⟩
instance aTb:hP 5 5 10:=⟨rfl⟩
instance aS4:hP 6 1 7:=⟨rfl⟩
instance aT5:hP 6 2 8:=⟨rfl⟩
instance aSt:hP 6 3 9:=⟨rfl⟩
instance aS5:hP 6 4 10:=⟨rfl⟩
instance aSl:hP 6 5 11:=⟨rfl⟩
instance aSu:hP 7 1 8:=⟨rfl⟩
instance aTz:hP 7 2 9:=⟨rfl⟩
instance aTl:hP 7 3 10:=⟨rfl⟩
instance aS3:hP 7 4 11:=⟨rfl⟩
instance aR7:hP 7 5 12:=⟨rfl⟩
instance aR6:hP 8 1 9:=⟨rfl⟩
instance aTy:hP 8 2 10:=⟨rfl⟩
instance aS2:hP 8 3 11:=⟨rfl⟩
instance aR5:hP 8 4 12:=⟨rfl⟩
instance aSe:hP 8 5 13:=⟨rfl⟩
theorem jJ{bx:List Box}{rw:List bA}{Z:List Nat}{b:Nat}[h1:BIn bx b][h2:aLt bx b Z](hn:(⟨bx,rw⟩:Sto).bl.Nodup):b∈lM ⟨bx,rw⟩ Z:=kH.2 ⟨List.mem_append_left _ h1.h,h2.h (List.nodup_append.1 hn).1⟩
theorem kV{P:Program}{U:List Nat}{o:Oper}{st:AS}{x:Operand}{t e E:TypeId}{v:Value}{z n:Nat}{cs:List AC}(A:List bA){B:List bA}(ho:o.op=.call {callee:=.builtin .len,args:=#[x],argTypes:=#[t]})(hx:evA st x=some (.c (.val v)))(hrow:st.s.rows=A++⟨v,E,z,n,cs⟩::B)(hu:∀w,(underlying t).run P w=.ok (.slice e) w):AY P U o st (.c (.val (.int .i64 n))):=
 fW rfl fun a w hs w'=>by
  obtain ⟨us,hown,-⟩:=hs.mem.row ⟨v,E,z,n,cs⟩ (by rw [hrow];simp)
  have hv:∃p c,v=.slice p n c:=by
   rcases hown.2 with ⟨h1,h2⟩|⟨g,cap,cur,h1,-⟩
   ·dsimp only at h1 h2;subst h2;exact ⟨_,_,h1⟩
   exact ⟨_,_,h1⟩
  obtain ⟨p,c,rfl⟩:=hv
  simp only [execOp,ho,resolve,List.map_toArray,List.map_cons,List.map_nil,hs.val hx]
  simp [go_sem,invoke,builtin,Builtin.len_,hu,goInt]
class aL0 (bx:List Box) (Z:List Nat):Prop where h:∀z,z∈Z -> z∈bx.map Box.b
instance aTn{bx:List Box}:aL0 bx []:=⟨by simp⟩
instance aRr{bx:List Box}{z:Nat}{Z:List Nat}[h1:BIn bx z][h2:aL0 bx Z]:aL0 bx (z::Z):=⟨fun y hy=>by rcases mem_cons.1 hy with rfl|h;exact h1.h;exact h2.h _ h⟩
theorem qW{bx:List Box}{rw:List bA}{Z:List Nat}{v:Value}{E:TypeId}{z n b:Nat}{cs:List AC}[h1:aL0 bx Z](hn:(⟨bx,⟨v,E,z,n,cs⟩::rw⟩:Sto).bl.Nodup)(hb:b∈aY v):b∈lM ⟨bx,⟨v,E,z,n,cs⟩::rw⟩ Z:=by
 have h3:b∈(⟨v,E,z,n,cs⟩::rw:List bA).flatMap fun r=>aY r.v:=by simp [hb]
 refine kH.2 ⟨List.mem_append_right _ h3,fun hz=>?_⟩
 exact (List.nodup_append.1 hn).2.2 b (h1.h b hz) b h3 rfl
theorem aE1{P:Program}{ops:Array Oper}{n:Nat}{T:List Nat}{bx:List Box}{rw:List bA}{ts:List (Nat×AT)}{Q:Exit -> AS -> Prop}{l:List Oper}(i:Nat){v:Value}{E:TypeId}{z k:Nat}{cs:List AC}(hi:look ts i=some (.c (.val v)))(h:eQ P ops l ⟨n,T,⟨bx,rw⟩,(i,.c (.sl k cs))::ts⟩ Q):eQ P ops l ⟨n,T,⟨bx,⟨v,E,z,k,cs⟩::rw⟩,ts⟩ Q:=
 uQ (yS (st:=⟨n,T,⟨bx,⟨v,E,z,k,cs⟩::rw⟩,ts⟩) (A:=[]) i hi rfl) h
end
section
open Go.RowKit
section
variable {P:Program}{ops:Array Oper}{U T:List Nat}{o:Oper}{n d:Nat}{bx:List Box}{rw:List bA}{ts:List (Nat×AT)}{Q:Exit -> AS -> Prop}{l:List Oper}{K:AS -> Prop}{st:AS}{t:AT}
theorem rV{s:Sto}{w:World}(hm:Mem s w){r:bA}(hr:r∈s.rows)(hn:0<r.n):∃g cap,r.v=.slice (some ⟨g,0,none⟩) r.n cap:=by
 obtain ⟨us,⟨h1,h2⟩,-⟩:=hm.row r hr
 rcases h2 with ⟨-,h2⟩|⟨g,cap,cur,h2,-⟩
 ·omega
 exact ⟨g,cap,h2⟩
theorem aF1(A:List bA){B:List bA}{v:Value}{E:TypeId}{z k:Nat}{cs:List AC}(hk:0<k)(h:∀g cap,v=.slice (some ⟨g,0,none⟩) k cap -> eQ P ops l ⟨n,T,⟨bx,A++⟨v,E,z,k,cs⟩::B⟩,ts⟩ Q):eQ P ops l ⟨n,T,⟨bx,A++⟨v,E,z,k,cs⟩::B⟩,ts⟩ Q:=fun a w hs QQ hQ=>by
 obtain ⟨g,cap,hv⟩:=rV hs.mem (r:=⟨v,E,z,k,cs⟩) (by simp) hk
 exact h g cap hv a w hs QQ hQ
theorem aEw(A:List bA){c:Code}{B:List bA}{v:Value}{E:TypeId}{z k:Nat}{cs:List AC}(hk:0<k)(h:∀g cap,v=.slice (some ⟨g,0,none⟩) k cap -> AWp P c ⟨n,T,⟨bx,A++⟨v,E,z,k,cs⟩::B⟩,ts⟩ Q):AWp P c ⟨n,T,⟨bx,A++⟨v,E,z,k,cs⟩::B⟩,ts⟩ Q:=fun a w hs QQ hQ=>by
 obtain ⟨g,cap,hv⟩:=rV hs.mem (r:=⟨v,E,z,k,cs⟩) (by simp) hk
 exact h g cap hv a w hs QQ hQ
theorem rM{E E0:TypeId}{x:Operand}{g off z zz k cap:Nat}{cs:List AC}{ag:Bool}(A:List bA){B:List bA}(ho:o.op=.load E x)(hx:evA st x=some (.c (.val (.pointer (some ⟨g,off,none⟩)))))(hrow:st.s.rows=A++⟨.slice (some ⟨g,0,none⟩) k cap,E0,zz,k,cs⟩::B)
  (hA:∀w,(isAgg E).run P w=.ok ag w) (hS:∀w,(sizeOf E).run P w=.ok z w) (hp:pk ag z cs off=some t) (hU:st.s.bl.Nodup -> g∉U):AY P U o st t:=by
 intro a w hs hU2
 obtain ⟨us,hown,h2⟩:=hs.mem.row ⟨.slice (some ⟨g,0,none⟩) k cap,E0,zz,k,cs⟩ (by rw [hrow];simp)
 obtain ⟨h3,h4⟩:=hown
 rcases h4 with ⟨h4,-⟩|⟨g',cap',cur,hv,-,hh,hk,hcm,hcs,htk⟩
 ·cases h4
 cases hv
 obtain ⟨v,hv,hl⟩:=pR (P:=P) (b:=g) (o:=0) hA hS h2 hp
 refine ⟨v,hv,fun w' hkp=>?_⟩
 have hlt:g<w.heap.size:=hs.mem.lt g (List.mem_append_right _ (by rw [hrow];simp [aY,Value.ownBlock]))
 have hb:=hkp.block g hlt (hU hs.mem.nodup)
 have hl2:=hl w' (fun j u hj=>by
  unfold World.cell?
  simp only [hb,hh]
  have h9:(cur.toList.take (k*zz))[j]?=some u:=by rw [htk];exact hj
  rw [List.getElem?_take] at h9
  split at h9
  ·simpa using h9
  cases h9)
 simp only [Nat.zero_add] at hl2
 simp only [execOp,ho,hs.val hx,Instr.loadAt,Instr.sureAddr,Sem.run_bind,Sem.run_pure,Result.andThen_ok]
 rw [hl2];rfl
theorem aTr{E e:TypeId}{z:Nat}(ho:o.op=.buildSlice E 0 #[])(hd:o.dst=some d)(hn:d<n)(hu:P.underlying E=some (.slice e))(hS:∀w,(sizeOf e).run P w=.ok z w)
  (h:∀g,K ⟨n,g::T,⟨bx,⟨.slice (some ⟨g,0,none⟩) 0 0,e,z,0,[]⟩::rw⟩,(d,.c (.val (.slice (some ⟨g,0,none⟩) 0 0)))::ts⟩):AO P U o ⟨n,T,⟨bx,rw⟩,ts⟩ K:=by
 intro a w hs KK QQ hK
 unfold Oper.wp
 have hrun:(execOp a.eval o).run P w=.ok (.value (.slice (some ⟨w.heap.size,0,none⟩) 0 0)) (w.alloc (.cells #[] e)):=by
  have h1:(underlying E).run P w=.ok (.slice e) w:=run_underlying hu w
  have h2:(sizeOf e).run P w=.ok z w:=hS w
  simp only [execOp,ho,Instr.buildSlice,Sem.run_bind,h1,Result.andThen_ok,h2,Nat.zero_mul]
  simp [go_sem,Instr.fill,newRow]
 rw [hrun,Oper.upon_value,hd]
 have hk:cW [] w (w.alloc (.cells #[] e)):=(cW.refl _ _).alloc _
 have hne:w.heap.size∉(⟨bx,rw⟩:Sto).bl:=fun hm=>by have h9:w.heap.size<w.heap.size:=hs.mem.lt _ hm;omega
 have hbl:(⟨bx,⟨.slice (some ⟨w.heap.size,0,none⟩) 0 0,e,z,0,[]⟩::rw⟩:Sto).bl=bx.map Box.b++w.heap.size::rw.flatMap fun r=>aY r.v:=by unfold Sto.bl;simp [aY,Value.ownBlock]
 have hsub:∀b,b∈(⟨bx,⟨.slice (some ⟨w.heap.size,0,none⟩) 0 0,e,z,0,[]⟩::rw⟩:Sto).bl -> b∈(⟨bx,rw⟩:Sto).bl∨w.heap.size <= b:=fun b hb=>by
  rw [hbl] at hb
  simp only [mem_append,mem_cons] at hb
  rcases hb with h|rfl|h
  ·exact .inl (List.mem_append_left _ h)
  ·exact .inr (Nat.le_refl _)
  exact .inl (List.mem_append_right _ h)
 have hup:Up2 (bI (⟨bx,rw⟩:Sto).bl w) (bI (⟨bx,⟨.slice (some ⟨w.heap.size,0,none⟩) 0 0,e,z,0,[]⟩::rw⟩:Sto).bl (w.alloc (.cells #[] e))):=jA hk (fun _ h=>by cases h) hsub
 have hsz:(w.alloc (.cells #[] e)).heap.size=w.heap.size+1:=by simp
 have hm:Mem ⟨bx,⟨.slice (some ⟨w.heap.size,0,none⟩) 0 0,e,z,0,[]⟩::rw⟩ (w.alloc (.cells #[] e)):=by
  refine ⟨?_,fun b hb=>?_,fun x hx=>?_,fun r hr=>?_⟩
  ·rw [hbl]
   have hnd:(bx.map Box.b++rw.flatMap fun r=>aY r.v).Nodup:=hs.mem.nodup
   rw [List.nodup_append] at hnd⊢
   refine ⟨hnd.1,List.nodup_cons.2 ⟨fun h=>hne (List.mem_append_right _ h),hnd.2.1⟩,fun a ha b hb=>?_⟩
   rcases mem_cons.1 hb with rfl|hb
   ·intro he;subst he;exact hne (List.mem_append_left _ ha)
   exact hnd.2.2 a ha b hb
  ·rw [hbl] at hb
   simp only [mem_append,mem_cons] at hb
   rw [hsz]
   rcases hb with h|rfl|h
   ·exact Nat.lt_succ_of_lt (hs.mem.lt b (List.mem_append_left _ h))
   ·exact Nat.lt_succ_self _
   exact Nat.lt_succ_of_lt (hs.mem.lt b (List.mem_append_right _ h))
  ·obtain ⟨us,e1,e2⟩:=hs.mem.box x hx
   exact ⟨us,by rw [hk.block _ (hs.mem.lt _ (List.mem_append_left _ (List.mem_map.2 ⟨x,hx,rfl⟩))) (by simp)];exact e1,e2.mono hup⟩
  rcases mem_cons.1 hr with rfl|hr
  ·refine ⟨[],⟨by simp,.inr ⟨w.heap.size,0,#[],rfl,Nat.zero_le _,?_,Nat.le_refl _,Nat.zero_le _,by simp,by simp⟩⟩,.nil _⟩
   show (w.heap.push _)[w.heap.size]?=_
   simp
  obtain ⟨us,e1,e2⟩:=hs.mem.row r hr
  exact ⟨us,lV e1 fun g hg=>hk.block g (hs.mem.lt g (List.mem_append_right _ (List.mem_flatMap.2 ⟨r,hr,hg⟩))) (by simp),e2.mono hup⟩
 have s1:=hs.step (st:=⟨n,T,⟨bx,rw⟩,ts⟩) (w.heap.size::T) (hk.mono (by simp)) hm hsub
 refine hK _ _ _ (h _) (s1.put (v:=.slice (some ⟨w.heap.size,0,none⟩) 0 0) hn (.c _ _ (.val _ rfl))) ⟨hk.mono (by simp),hk.mono (by simp),hsub,fun b hb=>?_⟩ (hk.mono (by simp))
 rcases mem_cons.1 hb with rfl|hb
 ·exact .inr (Nat.le_refl _)
 exact .inl hb
end
end
section
open Go.RowKit
theorem eC(A B:List Box)(rw:List bA)(S:Nat)(l:List Int)(i0:Nat)(n:Int)(hi0:i0 <= l.length)(hl:l.length <= 1000000)(hn0:0<n)(hn1:n <= 4611686018427387904):aL prog 41 [pP S,.c (.val (.int .i64 n))] [S] (SSt A B rw S l i0) fun r s=>∃(z:Nat) (i:Nat),r=nI z /\ (z:Int)<n /\ i <= l.length /\ s=SSt A B rw S l i:=
 (aC2 A B rw S l i0 n hi0 hl hn0 hn1).mono fun r s ⟨z,i,h1,h2,h3,h4,h5⟩=>⟨z.toNat,i,h1.trans (congrArg (fun x=>AT.c (.val (.int .i64 x))) (Int.toNat_of_nonneg h2).symm),by rw [Int.toNat_of_nonneg h2];exact h3,h4,h5⟩
abbrev gP(RA:List bA)(nv:Value)(names:List ByteArray)(rw:List bA):List bA:=RA++⟨nv,9,1,names.length,bP names⟩::rw
theorem aNv{P:Program}{U:List Nat}{o:Oper}{st:AS}{E yt:TypeId}{x y:Operand}{m:Nat}(r:Nat)(ho:o.op=.binOp .rem E x y yt)(hx:evA st x=some (nI m))(hy:evA st y=some (.c (.val (.int .i64 2))))(hr:m%2=r):AY P U o st (nI r):=by
 subst hr
 exact aG3 ho hx hy (by decide) rfl
theorem yU(A B:List Box)(RA rw:List bA)(nv:Value)(S:Nat)(l:List Int)(i0:Nat)(names:List ByteArray)(d:Nat)(hi0:i0 <= l.length)(hl:l.length <= 1000000)(hnl:names.length <= 1000000)(hd:d <= 100)(ih:d≠0 -> ∀(A:List Box)(i:Nat),i <= l.length -> aL prog 105 [pP S,.c (.val nv),.c (.val (.int .i64 ((d-1:Nat):Int)))] [S] (SSt A B (gP RA nv names rw) S l i) (fun r s=>∃(e:aH) (i:Nat),r=.agg (cU e) /\ eT names (d-1) e /\ i <= l.length /\ s=SSt A B (gP RA nv names rw) S l i)):aL prog 105 [pP S,.c (.val nv),nI d] [S] (SSt A B (gP RA nv names rw) S l i0) (fun r s=>∃(e:aH) (i:Nat),r=.agg (cU e) /\ eT names (d) e /\ i <= l.length /\ s=SSt A B (gP RA nv names rw) S l i):=by
 refine acB func105 rfl ?_
 show AWp prog _ ⟨64,[S],⟨A++⟨S,78,[.sl l.length (l.map fun i=>.val (.int .i64 i)),nC i0]⟩::B,RA++⟨nv,9,1,names.length,bP names⟩::rw⟩,[(0,pP S),(1,.c (.val nv)),(2,nI d)]⟩ _
 refine go 8 fun b1=>?_
 refine wo rfl (bD [S] rfl rfl (by decide) call41 rfl (eC (_::A) _ _ _ l i0 _ hi0 hl (by decide) (by decide)) (bDj (by simp)) (bDj (by simp [Sto.bl])) (fun _=>bDj (by simp)) ?_)
 rintro r1 s1 ⟨z1,i1,rfl,hy1,hi1,rfl⟩
 refine go 8 ?_
 by_cases hd0:d=0
 ·refine wcp true rfl (by first|exact eU (by omega)|(simp [bC]<;>omega)) ?_
  refine go 12 ?_
  refine wyz rfl (kV RA rfl rfl rfl runUnderlying26) ?_
  by_cases hn0:0<names.length
  ·refine wcp true rfl (by first|exact eU (by omega)|(simp [bC]<;>omega)) ?_
   refine go 2 ?_
   refine wo rfl (bD [S] rfl rfl (by decide) call41 rfl (eC (_::A) _ _ _ l i1 _ hi1 hl (by decide) (by decide)) (bDj (by simp)) (bDj (by simp [Sto.bl])) (fun _=>bDj (by simp)) ?_)
   rintro r2 s2 ⟨z2,i2,rfl,hy2,hi2,rfl⟩
   by_cases hz21:z2=1
   ·refine wcp true rfl (by first|exact eU (by omega)|(simp [bC]<;>omega)) ?_
    refine go 9 ?_
    refine wyz rfl (kV RA rfl rfl rfl runUnderlying26) ?_
    refine wo rfl (bD [S] rfl rfl (by decide) call41 rfl (eC (_::A) _ _ _ l i2 _ hi2 hl (by omega) (by omega)) (bDj (by simp)) (bDj (by simp [Sto.bl])) (fun _=>bDj (by simp)) ?_)
    rintro r3 s3 ⟨z3,i3,rfl,hy3,hi3,rfl⟩
    have hj2:z3<names.length:=by omega
    refine aF1 RA (by omega) fun g cap hg=>?_
    subst hg
    refine wyz rfl (dH z3 rfl rfl rfl rfl hj2 runUnderlying26 sizeOf9) ?_
    refine wyz rfl (rM RA rfl rfl rfl isAgg9 sizeOf9 (rB names _ hj2) (fun _ h=>by cases h)) ?_
    refine go 8 ?_
    exact ⟨.inr rfl,_,SSt A B (gP RA _ names rw) S l i3,(eK (Wk.agg (.r (.r (.r (.n .nil))))) (aR rfl (aO [] rfl rfl isAgg89 sizeOf89 (bK rfl rfl)))),aA (.cons _ (.refl _)) (.refl _),⟨(.mk 2 0 names[z3] []),i3,rfl,(.name (getElem_mem hj2)),hi3,rfl⟩⟩
   refine wcp false rfl (by first|exact eE (by omega)|(simp [bC]<;>omega)) ?_
   refine go 9 ?_
   refine wo rfl (bD [S] rfl rfl (by decide) call144 rfl (vH (_::A) _ _ _ l i2 hi2 hl) (bDj (by simp)) (bDj (by simp [Sto.bl])) (fun _=>bDj (by simp)) ?_)
   rintro r3 s3 ⟨z3,i3,rfl,hz3,hy3,hi3,rfl⟩
   refine go 7 ?_
   exact ⟨.inr rfl,_,SSt A B (gP RA _ names rw) S l i3,(eK (Wk.agg (.r (.r (.r (.n .nil))))) (aR rfl (aO [] rfl rfl isAgg89 sizeOf89 (bK rfl rfl)))),aA (.cons _ (.refl _)) (.refl _),⟨(.mk 1 z3 aK []),i3,rfl,(.num hz3 hy3),hi3,rfl⟩⟩
  refine wcp false rfl (by first|exact eE (by omega)|(simp [bC]<;>omega)) ?_
  refine go 13 ?_
  refine wo rfl (bD [S] rfl rfl (by decide) call144 rfl (vH (_::A) _ _ _ l i1 hi1 hl) (bDj (by simp)) (bDj (by simp [Sto.bl])) (fun _=>bDj (by simp)) ?_)
  rintro r2 s2 ⟨z2,i2,rfl,hz2,hy2,hi2,rfl⟩
  refine go 7 ?_
  exact ⟨.inr rfl,_,SSt A B (gP RA _ names rw) S l i2,(eK (Wk.agg (.r (.r (.r (.n .nil))))) (aR rfl (aO [] rfl rfl isAgg89 sizeOf89 (bK rfl rfl)))),aA (.cons _ (.refl _)) (.refl _),⟨(.mk 1 z2 aK []),i2,rfl,(.num hz2 hy2),hi2,rfl⟩⟩
 refine wcp false rfl (by first|exact eE (by omega)|(simp [bC]<;>omega)) ?_
 refine go 2 ?_
 by_cases hz2:z1<2
 ·refine wcp true rfl (by first|exact eU (by omega)|(simp [bC]<;>omega)) ?_
  refine go 9 ?_
  refine wyz rfl (kV RA rfl rfl rfl runUnderlying26) ?_
  by_cases hn0:0<names.length
  ·refine wcp true rfl (by first|exact eU (by omega)|(simp [bC]<;>omega)) ?_
   refine go 2 ?_
   refine wo rfl (bD [S] rfl rfl (by decide) call41 rfl (eC (_::A) _ _ _ l i1 _ hi1 hl (by decide) (by decide)) (bDj (by simp)) (bDj (by simp [Sto.bl])) (fun _=>bDj (by simp)) ?_)
   rintro r2 s2 ⟨z2,i2,rfl,hy2,hi2,rfl⟩
   by_cases hz21:z2=1
   ·refine wcp true rfl (by first|exact eU (by omega)|(simp [bC]<;>omega)) ?_
    refine go 9 ?_
    refine wyz rfl (kV RA rfl rfl rfl runUnderlying26) ?_
    refine wo rfl (bD [S] rfl rfl (by decide) call41 rfl (eC (_::A) _ _ _ l i2 _ hi2 hl (by omega) (by omega)) (bDj (by simp)) (bDj (by simp [Sto.bl])) (fun _=>bDj (by simp)) ?_)
    rintro r3 s3 ⟨z3,i3,rfl,hy3,hi3,rfl⟩
    have hj2:z3<names.length:=by omega
    refine aF1 RA (by omega) fun g cap hg=>?_
    subst hg
    refine wyz rfl (dH z3 rfl rfl rfl rfl hj2 runUnderlying26 sizeOf9) ?_
    refine wyz rfl (rM RA rfl rfl rfl isAgg9 sizeOf9 (rB names _ hj2) (fun _ h=>by cases h)) ?_
    refine go 8 ?_
    exact ⟨.inr rfl,_,SSt A B (gP RA _ names rw) S l i3,(eK (Wk.agg (.r (.r (.r (.n .nil))))) (aR rfl (aO [] rfl rfl isAgg89 sizeOf89 (bK rfl rfl)))),aA (.cons _ (.refl _)) (.refl _),⟨(.mk 2 0 names[z3] []),i3,rfl,(.name (getElem_mem hj2)),hi3,rfl⟩⟩
   refine wcp false rfl (by first|exact eE (by omega)|(simp [bC]<;>omega)) ?_
   refine go 9 ?_
   refine wo rfl (bD [S] rfl rfl (by decide) call144 rfl (vH (_::A) _ _ _ l i2 hi2 hl) (bDj (by simp)) (bDj (by simp [Sto.bl])) (fun _=>bDj (by simp)) ?_)
   rintro r3 s3 ⟨z3,i3,rfl,hz3,hy3,hi3,rfl⟩
   refine go 7 ?_
   exact ⟨.inr rfl,_,SSt A B (gP RA _ names rw) S l i3,(eK (Wk.agg (.r (.r (.r (.n .nil))))) (aR rfl (aO [] rfl rfl isAgg89 sizeOf89 (bK rfl rfl)))),aA (.cons _ (.refl _)) (.refl _),⟨(.mk 1 z3 aK []),i3,rfl,(.num hz3 hy3),hi3,rfl⟩⟩
  refine wcp false rfl (by first|exact eE (by omega)|(simp [bC]<;>omega)) ?_
  refine go 13 ?_
  refine wo rfl (bD [S] rfl rfl (by decide) call144 rfl (vH (_::A) _ _ _ l i1 hi1 hl) (bDj (by simp)) (bDj (by simp [Sto.bl])) (fun _=>bDj (by simp)) ?_)
  rintro r2 s2 ⟨z2,i2,rfl,hz2,hy2,hi2,rfl⟩
  refine go 7 ?_
  exact ⟨.inr rfl,_,SSt A B (gP RA _ names rw) S l i2,(eK (Wk.agg (.r (.r (.r (.n .nil))))) (aR rfl (aO [] rfl rfl isAgg89 sizeOf89 (bK rfl rfl)))),aA (.cons _ (.refl _)) (.refl _),⟨(.mk 1 z2 aK []),i2,rfl,(.num hz2 hy2),hi2,rfl⟩⟩
 refine wcp false rfl (by first|exact eE (by omega)|(simp [bC]<;>omega)) ?_
 refine go 8 ?_
 by_cases hz4:z1<4
 ·refine wcp true rfl (by first|exact eU (by omega)|(simp [bC]<;>omega)) ?_
  refine go 7 ?_
  refine wyz rfl (aNv (z1%2) rfl rfl rfl rfl) ?_
  refine wad rfl ?_
  refine go 3 ?_
  refine wyz rfl (cI ((d-1:Nat):Int) rfl rfl rfl (by omega) (by omega) (by omega)) ?_
  refine wo rfl (bD [S] rfl rfl (by decide) call105 rfl (ih hd0 (_::A) i1 hi1) (bDj (by simp)) (bDj (by simp [Sto.bl])) (fun _=>bDj (by simp)) ?_)
  rintro r2 s2 ⟨x2,i2,rfl,hm2,hi2,rfl⟩
  refine wo rfl (bDk bHf rfl (.cons rfl .nil) (aV fO cU x2 (fP _) rfl rfl) ?_)
  refine go 7 ?_
  exact ⟨.inr rfl,_,SSt A B (gP RA _ names rw) S l i2,(eK (Wk.agg (.r (.r (.r (.r .nil))))) (aR rfl (aO [] rfl rfl isAgg89 sizeOf89 (bK rfl rfl)))),aA (.cons _ (.refl _)) (.refl _),⟨(.mk (3+((z1%2:Nat):Int)) 0 aK [x2]),i2,rfl,(by obtain ⟨d',rfl⟩:∃d',d=d'+1:=⟨d-1,by omega⟩;exact .un (by omega) hm2),hi2,rfl⟩⟩
 refine wcp false rfl (by first|exact eE (by omega)|(simp [bC]<;>omega)) ?_
 refine go 10 ?_
 refine wo rfl (bD [S] rfl rfl (by decide) call41 rfl (eC (_::A) _ _ _ l i1 _ hi1 hl (by decide) (by decide)) (bDj (by simp)) (bDj (by simp [Sto.bl])) (fun _=>bDj (by simp)) ?_)
 rintro r2 s2 ⟨z2,i2,rfl,hy2,hi2,rfl⟩
 refine wad rfl ?_
 refine go 3 ?_
 refine wyz rfl (cI ((d-1:Nat):Int) rfl rfl rfl (by omega) (by omega) (by omega)) ?_
 refine wo rfl (bD [S] rfl rfl (by decide) call105 rfl (ih hd0 (_::A) i2 hi2) (bDj (by simp)) (bDj (by simp [Sto.bl])) (fun _=>bDj (by simp)) ?_)
 rintro r3 s3 ⟨x3,i3,rfl,hm3,hi3,rfl⟩
 refine go 3 ?_
 refine wyz rfl (cI ((d-1:Nat):Int) rfl rfl rfl (by omega) (by omega) (by omega)) ?_
 refine wo rfl (bD [S] rfl rfl (by decide) call105 rfl (ih hd0 (_::A) i3 hi3) (bDj (by simp)) (bDj (by simp [Sto.bl])) (fun _=>bDj (by simp)) ?_)
 rintro r4 s4 ⟨x4,i4,rfl,hm4,hi4,rfl⟩
 refine wo rfl (bDk bDu rfl (.cons rfl (.cons rfl .nil)) (aEp fO cU x3 x4 fP rfl (fun _=>rfl)) ?_)
 refine go 5 ?_
 exact ⟨.inr rfl,_,SSt A B (gP RA _ names rw) S l i4,(eK (Wk.agg (.r (.r (.r (.r .nil))))) (aR rfl (aO [] rfl rfl isAgg89 sizeOf89 (bK rfl rfl)))),aA (.cons _ (.refl _)) (.refl _),⟨(.mk (5+((z2:Nat):Int)) 0 aK [x3,x4]),i4,rfl,(by obtain ⟨d',rfl⟩:∃d',d=d'+1:=⟨d-1,by omega⟩;exact .bin (by omega) (by omega) hm3 hm4),hi4,rfl⟩⟩
theorem xZ(B:List Box)(RA rw:List bA)(nv:Value)(S:Nat)(l:List Int)(names:List ByteArray)(hl:l.length <= 1000000)(hnl:names.length <= 1000000):∀(d:Nat),d <= 100 -> ∀(A:List Box)(i:Nat),i <= l.length -> aL prog 105 [pP S,.c (.val nv),nI d] [S] (SSt A B (gP RA nv names rw) S l i) (fun r s=>∃(e:aH) (i:Nat),r=.agg (cU e) /\ eT names (d) e /\ i <= l.length /\ s=SSt A B (gP RA nv names rw) S l i)
 |0,hd,A,i,hi=>yU A B RA rw nv S l i names 0 hi hl hnl hd (fun h=>absurd rfl h)
 |d+1,hd,A,i,hi=>yU A B RA rw nv S l i names (d+1) hi hl hnl hd (fun _ A i hi=>xZ B RA rw nv S l names hl hnl d (by omega) A i hi)
theorem aM1(A B:List Box)(RA rw:List bA)(nv:Value)(S W:Nat)(l:List Int)(i0:Nat)(names:List ByteArray)(G M F:AC)(left:Int)(ar:Bool)(size:Int)(hs0:0<size)(hs1:size <= 4611686018427387904)(hi0:i0 <= l.length)(hl:l.length <= 1000000)(hnl:names.length <= 1000000):aL prog 104 [pP W,.c (.val nv),.c (.val (.int .i64 size))] [S] (SSt A (⟨W,80,[.val (.pointer (some ⟨S,0,none⟩)),G,M,F,.val (.int .i64 left),.val (.bool ar)]⟩::B) (gP RA nv names rw) S l i0) (fun r s=>∃(e:aH) (i:Nat),r=.agg (cU e) /\ eT names 1 e /\ i <= l.length /\ s=SSt A (⟨W,80,[.val (.pointer (some ⟨S,0,none⟩)),G,M,F,.val (.int .i64 left),.val (.bool ar)]⟩::B) (gP RA nv names rw) S l i):=by
 cases ar
 ·refine acB func104 rfl ?_
  show AWp prog _ ⟨32,[S],⟨A++⟨S,78,[.sl l.length (l.map fun i=>.val (.int .i64 i)),nC i0]⟩::⟨W,80,[.val (.pointer (some ⟨S,0,none⟩)),G,M,F,.val (.int .i64 left),.val (.bool false)]⟩::B,RA++⟨nv,9,1,names.length,bP names⟩::rw⟩,[(0,pP W),(1,.c (.val nv)),(2,.c (.val (.int .i64 size)))]⟩ _
  refine go 32 fun b1=>?_
  refine wo rfl (bD [S] rfl rfl (by decide) call41 rfl (eC (_::A) _ _ _ l i0 _ hi0 hl hs0 hs1) (bDj (by simp)) (bDj (by simp [Sto.bl])) (fun _=>bDj (by simp)) ?_)
  rintro r1 s1 ⟨z1,i1,rfl,hy1,hi1,rfl⟩
  refine go 5 ?_
  exact ⟨.inr rfl,_,SSt A (⟨W,80,[.val (.pointer (some ⟨S,0,none⟩)),G,M,F,.val (.int .i64 left),.val (.bool false)]⟩::B) (gP RA nv names rw) S l i1,(eK (Wk.agg (.r (.r (.r (.n .nil))))) (aR rfl (aO [] rfl rfl isAgg89 sizeOf89 (bK rfl rfl)))),aA (.cons _ (.refl _)) (.refl _),⟨.mk 1 z1 aK [],i1,rfl,.num (by omega) (by omega),hi1,rfl⟩⟩
 refine acB func104 rfl ?_
 show AWp prog _ ⟨32,[S],⟨A++⟨S,78,[.sl l.length (l.map fun i=>.val (.int .i64 i)),nC i0]⟩::⟨W,80,[.val (.pointer (some ⟨S,0,none⟩)),G,M,F,.val (.int .i64 left),.val (.bool true)]⟩::B,RA++⟨nv,9,1,names.length,bP names⟩::rw⟩,[(0,pP W),(1,.c (.val nv)),(2,.c (.val (.int .i64 size)))]⟩ _
 refine go 17 fun b1=>?_
 refine wo rfl (bD [S] rfl rfl (by decide) call41 rfl (eC (_::A) _ _ _ l i0 _ hi0 hl (by decide) (by decide)) (bDj (by simp)) (bDj (by simp [Sto.bl])) (fun _=>bDj (by simp)) ?_)
 rintro r1 s1 ⟨z1,i1,rfl,hy1,hi1,rfl⟩
 by_cases hz1:z1=1
 ·refine wcp true rfl (by first|exact eU (by omega)|(simp [bC]<;>omega)) ?_
  refine go 11 ?_
  refine wo rfl (bD [S] rfl rfl (by decide) call105 rfl (xZ _ RA _ _ S l names hl hnl 1 (by first|decide|omega) (_::A) i1 hi1) (bDj (by simp)) (bDj (by simp [Sto.bl])) (fun _=>bDj (by simp)) ?_)
  rintro r2 s2 ⟨x2,i2,rfl,hm2,hi2,rfl⟩
  refine go 5 ?_
  exact ⟨.inr rfl,_,SSt A (⟨W,80,[.val (.pointer (some ⟨S,0,none⟩)),G,M,F,.val (.int .i64 left),.val (.bool true)]⟩::B) (gP RA nv names rw) S l i2,(aR rfl (aO [] rfl rfl isAgg89 sizeOf89 (bK rfl rfl))),aA (.cons _ (.refl _)) (.refl _),⟨x2,i2,rfl,hm2,hi2,rfl⟩⟩
 refine wcp false rfl (by first|exact eE (by omega)|(simp [bC]<;>omega)) ?_
 refine go 13 ?_
 refine wo rfl (bD [S] rfl rfl (by decide) call41 rfl (eC (_::A) _ _ _ l i1 _ hi1 hl hs0 hs1) (bDj (by simp)) (bDj (by simp [Sto.bl])) (fun _=>bDj (by simp)) ?_)
 rintro r2 s2 ⟨z2,i2,rfl,hy2,hi2,rfl⟩
 refine go 5 ?_
 exact ⟨.inr rfl,_,SSt A (⟨W,80,[.val (.pointer (some ⟨S,0,none⟩)),G,M,F,.val (.int .i64 left),.val (.bool true)]⟩::B) (gP RA nv names rw) S l i2,(eK (Wk.agg (.r (.r (.r (.n .nil))))) (aR rfl (aO [] rfl rfl isAgg89 sizeOf89 (bK rfl rfl)))),aA (.cons _ (.refl _)) (.refl _),⟨.mk 1 z2 aK [],i2,rfl,.num (by omega) (by omega),hi2,rfl⟩⟩
theorem pQ(A B:List Box)(RA rw:List bA)(nv:Value)(S W:Nat)(l:List Int)(i0:Nat)(names:List ByteArray)(G M F:AC)(left:Int)(ar:Bool)(hi0:i0 <= l.length)(hl:l.length <= 1000000)(hnl:names.length <= 1000000):aL prog 72 [pP W,.c (.val nv)] [S] (SSt A (⟨W,80,[.val (.pointer (some ⟨S,0,none⟩)),G,M,F,.val (.int .i64 left),.val (.bool ar)]⟩::B) (gP RA nv names rw) S l i0) (fun r s=>∃(e:aH) (i:Nat),r=.agg (cU e) /\ eT names 2 e /\ i <= l.length /\ s=SSt A (⟨W,80,[.val (.pointer (some ⟨S,0,none⟩)),G,M,F,.val (.int .i64 left),.val (.bool ar)]⟩::B) (gP RA nv names rw) S l i):=by
 cases ar
 ·refine acB func72 rfl ?_
  show AWp prog _ ⟨28,[S],⟨A++⟨S,78,[.sl l.length (l.map fun i=>.val (.int .i64 i)),nC i0]⟩::⟨W,80,[.val (.pointer (some ⟨S,0,none⟩)),G,M,F,.val (.int .i64 left),.val (.bool false)]⟩::B,RA++⟨nv,9,1,names.length,bP names⟩::rw⟩,[(0,pP W),(1,.c (.val nv))]⟩ _
  refine go 23 fun b1=>?_
  refine wo rfl (bD [S] rfl rfl (by decide) call105 rfl (xZ _ RA _ _ S l names hl hnl 0 (by first|decide|omega) (_::A) i0 hi0) (bDj (by simp)) (bDj (by simp [Sto.bl])) (fun _=>bDj (by simp)) ?_)
  rintro r1 s1 ⟨x1,i1,rfl,hm1,hi1,rfl⟩
  refine go 5 ?_
  exact ⟨.inr rfl,_,SSt A (⟨W,80,[.val (.pointer (some ⟨S,0,none⟩)),G,M,F,.val (.int .i64 left),.val (.bool false)]⟩::B) (gP RA nv names rw) S l i1,(aR rfl (aO [] rfl rfl isAgg89 sizeOf89 (bK rfl rfl))),aA (.cons _ (.refl _)) (.refl _),⟨x1,i1,rfl,(hm1.mono (by omega)),hi1,rfl⟩⟩
 refine acB func72 rfl ?_
 show AWp prog _ ⟨28,[S],⟨A++⟨S,78,[.sl l.length (l.map fun i=>.val (.int .i64 i)),nC i0]⟩::⟨W,80,[.val (.pointer (some ⟨S,0,none⟩)),G,M,F,.val (.int .i64 left),.val (.bool true)]⟩::B,RA++⟨nv,9,1,names.length,bP names⟩::rw⟩,[(0,pP W),(1,.c (.val nv))]⟩ _
 refine go 19 fun b1=>?_
 refine aB [W] (by kernel_rfl) ?_
 refine tks [(0,true),(1,true),(2,true),(3,true),(4,true),(5,true),(6,true),(7,true),(8,true)] 4 (by kernel_rfl) ?_
 refine go 10 ?_
 refine one 9 (by kernel_rfl) rfl rfl (bD [S] rfl rfl (by decide) call41 rfl (eC (_::A) _ _ _ l i0 _ hi0 hl (by decide) (by decide)) (by intro b hb;simp at hb;subst hb;simp) (by intro b hb;simp at hb;subst hb;simp [Sto.bl]) (fun hn b hb=>by simp at hb;subst hb<;>exact jJ hn) ?_)
 rintro r1 s1 ⟨z1,i1,rfl,hy1,hi1,rfl⟩
 refine tr 10 (by kernel_rfl) rfl (bB rfl rfl rfl (by omega) (by omega)) ?_
 refine one 11 (by kernel_rfl) rfl rfl (bD [S] rfl rfl (by decide) call105 rfl (xZ _ RA _ _ S l names hl hnl (1+z1) (by first|decide|omega) (_::A) i1 hi1) (by intro b hb;simp at hb;subst hb;simp) (by intro b hb;simp at hb;subst hb;simp [Sto.bl]) (fun hn b hb=>by simp at hb;subst hb<;>exact jJ hn) ?_)
 rintro r2 s2 ⟨x2,i2,rfl,hm2,hi2,rfl⟩
 refine tks [(12,false)] 0 (by kernel_rfl) ?_
 refine go 2 ?_
 refine aE (by kernel_rfl) ?_
 refine go 2 ?_
 exact ⟨.inr rfl,_,SSt A (⟨W,80,[.val (.pointer (some ⟨S,0,none⟩)),G,M,F,.val (.int .i64 left),.val (.bool true)]⟩::B) (gP RA nv names rw) S l i2,(aR rfl (aO [] rfl rfl isAgg89 sizeOf89 (bK rfl rfl))),aA (.cons _ (.refl _)) (.refl _),⟨x2,i2,rfl,(hm2.mono (by omega)),hi2,rfl⟩⟩
end
section
def iZ(ms:List cL):List ByteArray:=ms.map cL.name
def jB(ps:List aS):List ByteArray:=(ps.map fun x=>if x.mutex then [x.name,x.name] else []).flatten
theorem aDs(ms:List cL)(k:Nat)(h:k<ms.length):iZ (ms.take (k+1))=iZ (ms.take k)++[ms[k].name]:=by
 rw [List.take_succ_eq_append_getElem h,iZ,List.map_append];rfl
theorem vX(ps:List aS)(k:Nat)(h:k<ps.length):jB (ps.take (k+1))=jB (ps.take k)++(if ps[k].mutex then [ps[k].name,ps[k].name] else []):=by
 rw [List.take_succ_eq_append_getElem h,jB,List.map_append,List.flatten_append];simp [jB]
theorem xK:∀(ps:List aS),(jB ps).length <= 2*ps.length
 |[]=>by simp [jB]
 |x::r=>by
  have:=xK r
  simp only [jB,List.map_cons,List.flatten_cons,length_append,length_cons] at this⊢
  split<;>(simp only [length_cons,length_nil];omega)
theorem aE4(ps:List aS)(n:ByteArray)(h:n∈jB ps):∃x,x∈ps /\ x.mutex=true /\ x.name=n:=by
 simp only [jB,List.mem_flatten,List.mem_map] at h
 obtain ⟨l,⟨x,hx,rfl⟩,hn⟩:=h
 cases hm:x.mutex with
 |true=>rw [hm] at hn;simp at hn;exact ⟨x,hx,hm,hn.symm⟩
 |false=>rw [hm] at hn;simp at hn
end
end Go.Proofs.YtlmpchoaebhhmaaGreatDoor
