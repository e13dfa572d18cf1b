import Derived.Test.YtojinfngbbajgaaGreatDoorF5J
import Derived.Test.YtojinfngbbajgaaGreatDoorF26J
import Derived.Test.YtojinfngbbajgaaGreatDoorF30J
import Derived.Test.YtojinfngbbajgaaGreatDoorF9J
import Derived.Test.YtojinfngbbajgaaGreatDoorF1J
import Derived.Test.YtojinfngbbajgaaGreatDoorF12J
import Derived.Test.YtojinfngbbajgaaGreatDoorF6J
set_option linter.all false
set_option synthInstance.maxHeartbeats 1000000
set_option synthInstance.maxSize 1000000
set_option maxHeartbeats 1600000
set_option maxRecDepth 100000
namespace Go.Proofs.YtojinfngbbajgaaGreatDoor
open Go.Proofs.Tryz
open List (length_append length_cons length_nil mem_append mem_cons not_mem_nil append_assoc getElem_mem take_of_length_le)
section
open Go.RowKit
def cDq:List UInt8:=[109,117,116,101,120,32,97,59,32,102,117,110,99,32,109,97,105,110,40,41,32,123,32,108,111,99,107,32,97,59,32,117,110,108,111,99,107,32,97,59,32,125]
def cDj:List UInt8:=[109,117,116,101,120,32,97,59,32,102,117,110,99,32,109,97,105,110,40,41,32,123,32,108,111,99,107,32,97,59,32,108,111,99,107,32,98,59,32,125]
def cDr:List UInt8:=[]
def cE0(k:Int)(n:List UInt8):aJ:=.mk k aK .zero ⟨bytes n,[]⟩ [] [] []
def cE5(l:List aJ):cK:=⟨[],[⟨⟨#[97]⟩,false,0⟩],[⟨⟨#[109,97,105,110]⟩,[],l⟩]⟩
theorem cEm(k:Int)(n:List UInt8)(h0:0 <= k)(h1:k <= 9)(hn:n.length <= 9):(cE0 k n).sane:=by
 have e:aK.size <= 4611686018427387904:=by decide
 have f0:fit 0:=by unfold fit;decide
 have f1:fit k:=by unfold fit;omega
 have e2:(bytes n).size <= 4611686018427387904:=by rw [kT];omega
 simp only [cE0,aH.zero,aJ.sane,aH.sane,cY.sane,iI,gC,e,f0,f1,e2,not_mem_nil,and_true,true_and,false_implies,implies_true,forall_const]
theorem cEw{l:List aJ}(h:gC l):(cE5 l).sane:=by
 refine ⟨fun g hg=>(by cases hg),fun m hm=>?_,fun f hf=>?_⟩
 ·obtain rfl:m=_:=List.mem_singleton.1 hm
  exact ⟨by unfold fit;decide,by decide⟩
 obtain rfl:f=_:=List.mem_singleton.1 hf
 exact ⟨(by decide:(⟨#[109,97,105,110]⟩:ByteArray).size <= 4611686018427387904),fun x hx=>(by cases hx),h⟩
theorem cE8:jM cDq=(cE5 [cE0 5 [97],cE0 6 [97]],42,0):=by kernel_rfl
theorem cE7:jM cDj=(cE5 [cE0 5 [97],cE0 5 [98]],40,0):=by kernel_rfl
theorem cE6:jM cDr=(⟨[],[],[]⟩,0,0):=by kernel_rfl
theorem cCn:(jM cDq).1.sane /\ (jM cDq).1.wt <= 16000 /\ cAb (jM cDq).1=(0,0,0):=by
 rw [cE8];exact ⟨cEw (by simp only [gC];exact ⟨cEm _ _ (by decide) (by decide) (by decide),cEm _ _ (by decide) (by decide) (by decide),trivial⟩),of_decide_eq_true (by kernel_rfl),by kernel_rfl⟩
theorem cCv:(jM cDj).1.sane /\ (jM cDj).1.wt <= 16000 /\ cAb (jM cDj).1=(0,1,6):=by
 rw [cE7];exact ⟨cEw (by simp only [gC];exact ⟨cEm _ _ (by decide) (by decide) (by decide),cEm _ _ (by decide) (by decide) (by decide),trivial⟩),of_decide_eq_true (by kernel_rfl),by kernel_rfl⟩
theorem cCu:(jM cDr).1.sane /\ (jM cDr).1.wt <= 16000 /\ cAb (jM cDr).1=(-1,-1,9):=by
 rw [cE6];exact ⟨⟨fun g hg=>(by cases hg),fun g hg=>(by cases hg),fun g hg=>(by cases hg)⟩,of_decide_eq_true (by kernel_rfl),by kernel_rfl⟩
theorem cBy(l:List UInt8)(hl:l.length <= 100000)(hs:(jM l).1.sane)(hw:(jM l).1.wt <= 16000){f s0:Int}{e:Nat}(hc:cAb (jM l).1=(f,s0,e))(s:Sto):aL prog 47 [bK5 (.c (.val (.string (bytes l))))] [] s fun t s'=>t=.tup [.c (.val (.int .i64 f)),.c (.val (.int .i64 s0)),nI e] /\ s'=s:=by
 obtain ⟨bx,rw⟩:=s
 refine acB func47 rfl ?_
 show AWp prog _ ⟨20,[],⟨bx,rw⟩,[(0,bK5 (.c (.val (.string (bytes l)))))]⟩ _
 refine go 10 ?_
 refine wo rfl (aDc rfl rfl (by decide) rfl underlying9 underlying23 underlying5 (by rw [kT];omega) (N:=l.length) rfl (cs:=iF l) rfl ?_)
 refine wc0 rfl call24 rfl (bGw l _) ?_
 rintro _ _ ⟨rfl,rfl⟩
 refine go 13 fun b1=>?_
 refine wo rfl (bMg 0 [] rfl rfl (by decide) call19 rfl rfl (cCm _ hs (by omega) _) bDl bDl (fun _=>bDl) ?_)
 rintro _ _ ⟨f1,s1,e1,hc1,rfl,rfl⟩
 rw [hc] at hc1
 cases hc1
 refine go 9 ?_
 exact ⟨.inr rfl,_,⟨bx,rw⟩,pC rfl (aF rfl) (aF rfl) (aF rfl),aA ((List.sublist_cons_self _ _)) (List.Sublist.refl _),rfl,rfl⟩
theorem cEd(s:Sto):aL prog 47 [bK5 (.c (.val (.string ⟨#[109,117,116,101,120,32,97,59,32,102,117,110,99,32,109,97,105,110,40,41,32,123,32,108,111,99,107,32,97,59,32,117,110,108,111,99,107,32,97,59,32,125]⟩)))] [] s fun t s'=>t=.tup [.c (.val (.int .i64 0)),.c (.val (.int .i64 0)),.c (.val (.int .i64 0))] /\ s'=s:=cBy cDq (by decide) cCn.1 cCn.2.1 cCn.2.2 s
theorem cEi(s:Sto):aL prog 47 [bK5 (.c (.val (.string ⟨#[109,117,116,101,120,32,97,59,32,102,117,110,99,32,109,97,105,110,40,41,32,123,32,108,111,99,107,32,97,59,32,108,111,99,107,32,98,59,32,125]⟩)))] [] s fun t s'=>t=.tup [.c (.val (.int .i64 0)),.c (.val (.int .i64 1)),.c (.val (.int .i64 6))] /\ s'=s:=cBy cDj (by decide) cCv.1 cCv.2.1 cCv.2.2 s
theorem cEe(s:Sto):aL prog 47 [bK5 (.c (.val (.string ⟨#[]⟩)))] [] s fun t s'=>t=.tup [.c (.val (.int .i64 (-1))),.c (.val (.int .i64 (-1))),.c (.val (.int .i64 9))] /\ s'=s:=cBy cDr (by decide) cCu.1 cCu.2.1 cCu.2.2 s
theorem cCo(w:World)(he:bM9 w):Calls prog 21 #[] w fun e w'=>e=.returned (.bool true) /\ Below w.heap.size w w':=by
 refine bPa func21 rfl 42 (Nat.le_of_ble_eq_true rfl) he ?_
 show AWp prog _ ⟨43,[],⟨[],[]⟩,[(42,bK5 (.raw undef))]⟩ _
 refine go 7 ?_
 refine wcR 42 rfl call47 rfl (cEd _) (go 11 ?_)
 refine wcR 42 rfl call47 rfl (cEi _) (go 11 ?_)
 refine wcR 42 rfl call47 rfl (cEe _) (go 12 ?_)
 refine wcp true rfl (by simp [bC]) (go 2 ?_)
 refine wcp true rfl (by simp [bC]) (go 3 ?_)
 refine wcp true rfl (by simp [bC]) (go 3 ?_)
 refine wcp true rfl (by simp [bC]) (go 3 ?_)
 refine wcp true rfl (by simp [bC]) (go 5 ?_)
 exact ⟨.inr rfl,_,⟨[],[]⟩,aR rfl (aF rfl),aA (List.nil_sublist _) (List.nil_sublist _),rfl,rfl⟩
end
section
open Go.RowKit
abbrev SSt(A B:List Box)(rw:List bA)(S:Nat)(l:List Int)(i:Nat):Sto:=⟨A++⟨S,102,[.sl l.length (l.map fun i=>.val (.int .i64 i)),nC i]⟩::B,rw⟩
theorem aTv(l:List Int)(n:Nat)(s:Sto):aL prog 44 [.c (.sl l.length (l.map fun i=>.val (.int .i64 i))),nI n] [] s fun r s'=>r=.c (.sl (l.take n).length ((l.take n).map fun i=>.val (.int .i64 i))) /\ s'=s:=by
 obtain ⟨bx,rw⟩:=s
 refine acB func44 rfl ?_
 show AWp prog _ ⟨13,[],⟨bx,rw⟩,[(0,.c (.sl l.length (l.map fun i=>.val (.int .i64 i)))),(1,nI n)]⟩ _
 refine go 11 ?_
 by_cases hlt:n<l.length
 ·refine wcp true rfl (by first|exact eU (by omega)|(simp [bC]<;>omega)) (go 7 ?_)
  refine wyz rfl (aGm (h:=(l.take n).length) (z:=1) rfl rfl rfl (by rw [List.length_take];omega) (by rw [List.length_take];omega) (by kernel_rfl) (by kernel_rfl) sizeOf3 (by rw [List.length_take,Nat.min_eq_left (by omega),Nat.mul_one,←List.map_take])) (go 5 ?_)
  exact bHe (s':=⟨bx,rw⟩) rfl sb0 ⟨rfl,rfl⟩
 rw [take_of_length_le (l:=l) (i:=n) (by omega)]
 refine wcp false rfl (by first|exact eE (by omega)|(simp [bC]<;>omega)) (go 12 ?_)
 exact bHe (s':=⟨bx,rw⟩) rfl sb0 ⟨rfl,rfl⟩
theorem aC2(A B:List Box)(rw:List bA)(S:Nat)(l:List Int)(i0:Nat)(n:Int)(hi0:i0 <= l.length)(hl:l.length <= 1000000)(hn0:0<n)(hn1:n <= 4611686018427387904):aL prog 45 [pP S,.c (.val (.int .i64 n))] [S] (SSt A B rw S l i0) fun r s=>∃(z:Int) (i:Nat),r=.c (.val (.int .i64 z)) /\ 0 <= z /\ z<n /\ i <= l.length /\ s=SSt A B rw S l i:=by
 refine acB func45 rfl ?_
 show AWp prog _ ⟨35,[S],⟨A++⟨S,102,[.sl l.length (l.map fun i=>.val (.int .i64 i)),nC i0]⟩::B,rw⟩,[(0,pP S),(1,.c (.val (.int .i64 n)))]⟩ _
 refine go 7 ?_
 refine dx [S] (tz [(0,true),(1,true),(2,true),(3,true),(4,true),(5,true),(6,true),(7,true),(8,true)] 1 (go 10 ?_))
 refine tx 9 rfl (bO _ rfl rfl rfl rfl) ?_
 refine ax (go 1 ?_)
 refine gY rfl (fun hc1=>?_) (fun hc1=>?_)
 ·have hge:l.length <= i0:=by simpa using hc1
  refine go 7 ?_
  exact bHe (s':=SSt A B rw S l i0) rfl sb0 ⟨0,i0,rfl,by omega,hn0,hi0,rfl⟩
 have hlt:i0<l.length:=by simpa using hc1
 refine go 8 ?_
 refine wad rfl (go 6 ?_)
 refine dx [S] (tz [(0,true),(1,true),(2,true),(3,true),(4,true),(5,true),(6,true),(7,true)] 6 (go 9 ?_))
 refine tx 8 rfl (cI ((i0:Nat):Int) rfl rfl rfl (by omega) (by omega) (by omega)) ?_
 refine tx 9 rfl (rT (fun i=>.val (.int .i64 i)) l i0 rfl rfl rfl rfl hlt runUnderlying22 sizeOf3) (tz [(10,true),(11,true)] 2 (go 3 ?_))
 refine ox 12 rfl rfl (bD [] rfl rfl (by decide) call12 rfl (aNz _ _ hn0 hn1 _) bDl bDl (fun _=>bDl) ?_)
 rintro rj sj ⟨rfl,rfl⟩
 refine tz [(13,true)] 0 (go 2 ?_)
 refine ax (go 2 ?_)
 exact bHe (s':=SSt A B rw S l (i0+1)) rfl sb0 ⟨l[i0]%n,i0+1,rfl,Int.emod_nonneg _ (by omega),Int.emod_lt_of_pos _ hn0,hlt,rfl⟩
theorem vH(A B:List Box)(rw:List bA)(S:Nat)(l:List Int)(i0:Nat)(hi0:i0 <= l.length)(hl:l.length <= 1000000):aL prog 156 [pP S] [S] (SSt A B rw S l i0) fun r s=>∃(z:Int) (i:Nat),r=.c (.val (.int .i64 z)) /\ 0 <= z /\ z<4611686018427387904 /\ i <= l.length /\ s=SSt A B rw S l i:=by
 refine acB func156 rfl ?_
 show AWp prog _ ⟨10,[S],⟨A++⟨S,102,[.sl l.length (l.map fun i=>.val (.int .i64 i)),nC i0]⟩::B,rw⟩,[(0,pP S)]⟩ _
 refine go 9 ?_
 refine wo rfl (bD [S] rfl rfl (by decide) call45 rfl (aC2 A _ _ _ l i0 _ hi0 hl (by decide) (by decide)) (bDj (by simp)) (bDj (by simp [Sto.bl])) (fun _=>bDj (by simp)) ?_)
 rintro r1 s1 ⟨z1,i1,rfl,hz1,hy1,hi1,rfl⟩
 refine wyz rfl (bO _ rfl rfl rfl rfl) (go 2 ?_)
 refine gY rfl (fun hc1=>?_) (fun hc1=>?_)
 ·refine go 3 ?_
  refine wo rfl (bD [S] rfl rfl (by decide) call45 rfl (aC2 A _ _ _ l i1 _ hi1 hl (by decide) (by decide)) (bDj (by simp)) (bDj (by simp [Sto.bl])) (fun _=>bDj (by simp)) ?_)
  rintro r2 s2 ⟨z2,i2,rfl,hz2,hy2,hi2,rfl⟩
  refine go 5 ?_
  exact bHe (s':=SSt A B rw S l i2) rfl sb0 ⟨z2,i2,rfl,hz2,by omega,hi2,rfl⟩
 refine go 5 ?_
 refine wo rfl (bD [S] rfl rfl (by decide) call45 rfl (aC2 A _ _ _ l i1 _ hi1 hl (by decide) (by decide)) (bDj (by simp)) (bDj (by simp [Sto.bl])) (fun _=>bDj (by simp)) ?_)
 rintro r2 s2 ⟨z2,i2,rfl,hz2,hy2,hi2,rfl⟩
 refine go 4 ?_
 exact bHe (s':=SSt A B rw S l i2) rfl sb0 ⟨z2,i2,rfl,hz2,by omega,hi2,rfl⟩
end
section
inductive eT (names:List ByteArray):Nat -> aH -> Prop
 |name {d:Nat} {x:ByteArray} (h:x∈names):eT names d (.mk 2 0 x [])
 |num {d:Nat} {n:Int} (h0:0 <= n) (h1:n<4611686018427387904):eT names d (.mk 1 n aK [])
 |un {d:Nat} {op:Int} {e:aH} (ho:op=3∨op=4) (he:eT names d e):eT names (d+1) (.mk op 0 aK [e])
 |bin {d:Nat} {op:Int} {a b:aH} (h0:5 <= op) (h1:op <= 17) (ha:eT names d a) (hb:eT names d b):eT names (d+1) (.mk op 0 aK [a,b])
theorem eT.mono{names:List ByteArray}{d d':Nat}{e:aH}(h:eT names d e)(hd:d <= d'):eT names d' e:=by
 induction h generalizing d' with
 |name h=>exact .name h
 |num h0 h1=>exact .num h0 h1
 |@un d op e ho he ih=>
  obtain ⟨k,rfl⟩:∃k,d'=k+1:=⟨d'-1,by omega⟩
  exact .un ho (ih (by omega))
 |@bin d op a b h0 h1 ha hb iha ihb=>
  obtain ⟨k,rfl⟩:∃k,d'=k+1:=⟨d'-1,by omega⟩
  exact .bin h0 h1 (iha (by omega)) (ihb (by omega))
inductive uA (ms:List cL) (ps:List aS) (vars:List ByteArray):cY -> Prop
 |arr {m:cL} {e:aH} (hm:m∈ms) (hs:0<m.size) (he:eT vars 1 e):uA ms ps vars ⟨m.name,[e]⟩
 |scalar {m:cL} (hm:m∈ms) (hs:m.size <= 0):uA ms ps vars ⟨m.name,[]⟩
 |param {x:aS} (hx:x∈ps) (hm:x.mutex=true):uA ms ps vars ⟨x.name,[]⟩
inductive nB (ms:List cL) (ps:List aS) (vars:List ByteArray):List aS -> List eN -> Prop
 |nil:nB ms ps vars [] []
 |mutex {x:aS} {l:List aS} {asl:List eN} {r:cY} (hx:x.mutex=true) (hr:uA ms ps vars r) (h:nB ms ps vars l asl):nB ms ps vars (x::l) (⟨true,r,.zero⟩::asl)
 |expr {x:aS} {l:List aS} {asl:List eN} {e:aH} (hx:x.mutex=false) (he:eT vars 2 e) (h:nB ms ps vars l asl):nB ms ps vars (x::l) (⟨false,.zero,e⟩::asl)
def cM(left:Nat):ByteArray:=bytes [118,UInt8.ofNat (97+left%26),UInt8.ofNat (97+left/26%26)]
abbrev Sig:=ByteArray×List aS
inductive dJ (ms:List cL) (fs:List Sig) (ps:List aS):List ByteArray -> Nat -> Nat -> List aJ -> Nat -> Prop
 |nil {vars:List ByteArray} {deep left:Nat}:dJ ms fs ps vars deep left [] left
 |lock {vars:List ByteArray} {deep left left':Nat} {r:cY} {rest:List aJ} (hr:uA ms ps vars r) (h:dJ ms fs ps vars deep left rest left'):
   dJ ms fs ps vars deep (left+1) (.mk 5 aK .zero r [] [] []::rest) left'
 |unlock {vars:List ByteArray} {deep left left':Nat} {r:cY} {rest:List aJ} (hr:uA ms ps vars r) (h:dJ ms fs ps vars deep left rest left'):
   dJ ms fs ps vars deep (left+1) (.mk 6 aK .zero r [] [] []::rest) left'
 |var {vars:List ByteArray} {deep left left':Nat} {e:aH} {rest:List aJ} (he:eT vars 2 e) (h:dJ ms fs ps (vars++[cM left]) deep left rest left'):
   dJ ms fs ps vars deep (left+1) (.mk 1 (cM left) e .zero [] [] []::rest) left'
 |assign {vars:List ByteArray} {deep left left':Nat} {x:ByteArray} {e:aH} {rest:List aJ} (hx:x∈vars) (he:eT vars 2 e) (h:dJ ms fs ps vars deep left rest left'):
   dJ ms fs ps vars deep (left+1) (.mk 2 x e .zero [] [] []::rest) left'
 |call {vars:List ByteArray} {deep left left':Nat} {k:Int} {g:Sig} {asl:List eN} {rest:List aJ} (hk:k=3∨k=4) (hg:g∈fs) (ha:nB ms ps vars g.2 asl) (h:dJ ms fs ps vars deep left rest left'):
   dJ ms fs ps vars deep (left+1) (.mk k g.1 .zero .zero asl [] []::rest) left'
 |cond {vars:List ByteArray} {deep left l1 l2 left':Nat} {e:aH} {thn els rest:List aJ} (he:eT vars 2 e) (ht:dJ ms fs ps vars deep left thn l1) (hel:dJ ms fs ps vars deep l1 els l2) (h:dJ ms fs ps vars (deep+1) l2 rest left'):
   dJ ms fs ps vars (deep+1) (left+1) (.mk 7 aK e .zero [] thn els::rest) left'
 |loop {vars:List ByteArray} {deep left l1 left':Nat} {e:aH} {thn rest:List aJ} (he:eT vars 2 e) (ht:dJ ms fs ps vars deep left thn l1) (h:dJ ms fs ps vars (deep+1) l1 rest left'):
   dJ ms fs ps vars (deep+1) (left+1) (.mk 8 aK e .zero [] thn []::rest) left'
 |ret {vars:List ByteArray} {deep left left':Nat} {rest:List aJ} (h:dJ ms fs ps vars deep left rest left'):
   dJ ms fs ps vars deep (left+1) (.mk 9 aK .zero .zero [] [] []::rest) left'
 |pair {vars:List ByteArray} {deep left l1 left':Nat} {r:cY} {mid rest:List aJ} (hr:uA ms ps vars r) (hm:dJ ms fs ps vars 0 left mid l1) (h:dJ ms fs ps vars deep l1 rest left'):
   dJ ms fs ps vars deep (left+1) (.mk 5 aK .zero r [] [] []::(mid++.mk 6 aK .zero r [] [] []::rest)) left'
theorem dJ.le{ms:List cL}{fs:List Sig}{ps:List aS}{vars:List ByteArray}{deep left left':Nat}{l:List aJ}(h:dJ ms fs ps vars deep left l left'):left' <= left:=by
 induction h<;>omega
def aDx(i:Nat)(m:cL):Prop:=m.name=bytes [UInt8.ofNat (97+i)] /\ ((m.reentrant=false /\ 0 <= m.size /\ m.size <= 3)∨(m.reentrant=true /\ m.size=0))
def aDa(i:Nat)(g:aI):Prop:=g.name=bytes [103,UInt8.ofNat (48+i)] /\ -2 <= g.init /\ g.init <= 2
def pM(l:List aS):Prop:=l.length <= 2 /\ ∀k (h:k<l.length),l[k].name=bytes [112,UInt8.ofNat (48+(l.length-k))]
def aMn(i:Nat)(f:bS):Prop:=(i=0 -> f.name=bytes [109,97,105,110] /\ f.params=[]) /\ (0<i -> f.name=bytes [102,UInt8.ofNat (48+i)]) /\ pM f.params
def bS.sig(f:bS):Sig:=(f.name,f.params)
def uS(gs:List aI)(ps:List aS):List ByteArray:=gs.map aI.name++(ps.filter fun x=>!x.mutex).map aS.name
inductive kZ (ms:List cL) (fs:List Sig) (gs:List aI):Nat -> List bS -> Prop
 |nil {left:Nat}:kZ ms fs gs left []
 |cons {left left':Nat} {f:bS} {l:List bS} (h:dJ ms fs f.params (uS gs f.params) 2 left f.body left') (hl:kZ ms fs gs left' l):kZ ms fs gs left (f::l)
structure sY (p:cK):Prop where
 mutexes:1 <= p.mutexes.length /\ p.mutexes.length <= 4 /\ ∀k (h:k<p.mutexes.length),aDx k p.mutexes[k]
 globals:p.globals.length <= 2 /\ ∀k (h:k<p.globals.length),aDa k p.globals[k]
 funcs:1 <= p.funcs.length /\ p.funcs.length <= 4 /\ ∀k (h:k<p.funcs.length),aMn k p.funcs[k]
 bodies:kZ p.mutexes (p.funcs.map bS.sig) p.globals 24 p.funcs
end
section
open Go.RowKit
theorem eC(A B:List Box)(rw:List bA)(S:Nat)(l:List Int)(i0:Nat)(n:Int)(hi0:i0 <= l.length)(hl:l.length <= 1000000)(hn0:0<n)(hn1:n <= 4611686018427387904):aL prog 45 [pP S,.c (.val (.int .i64 n))] [S] (SSt A B rw S l i0) fun r s=>∃(z:Nat) (i:Nat),r=nI z /\ (z:Int)<n /\ i <= l.length /\ s=SSt A B rw S l i:=
 (aC2 A B rw S l i0 n hi0 hl hn0 hn1).mono fun r s ⟨z,i,h1,h2,h3,h4,h5⟩=>⟨z.toNat,i,h1.trans (congrArg (fun x=>AT.c (.val (.int .i64 x))) (Int.toNat_of_nonneg h2).symm),by rw [Int.toNat_of_nonneg h2];exact h3,h4,h5⟩
abbrev gP(RA:List bA)(nv:Value)(names:List ByteArray)(rw:List bA):List bA:=RA++⟨nv,9,1,names.length,bP names⟩::rw
theorem aNv{P:Program}{U:List Nat}{o:Oper}{st:AS}{E yt:TypeId}{x y:Operand}{m:Nat}(r:Nat)(ho:o.op=.binOp .rem E x y yt)(hx:evA st x=some (nI m))(hy:evA st y=some (.c (.val (.int .i64 2))))(hr:m%2=r):AY P U o st (nI r):=by
 subst hr
 exact aG3 ho hx hy (by decide) rfl
theorem yU(A B:List Box)(RA rw:List bA)(nv:Value)(S:Nat)(l:List Int)(i0:Nat)(names:List ByteArray)(d:Nat)(hi0:i0 <= l.length)(hl:l.length <= 1000000)(hnl:names.length <= 1000000)(hd:d <= 100)(ih:d≠0 -> ∀(A:List Box)(i:Nat),i <= l.length -> aL prog 121 [pP S,.c (.val nv),.c (.val (.int .i64 ((d-1:Nat):Int)))] [S] (SSt A B (gP RA nv names rw) S l i) (fun r s=>∃(e:aH) (i:Nat),r=.agg (cU e) /\ eT names (d-1) e /\ i <= l.length /\ s=SSt A B (gP RA nv names rw) S l i)):aL prog 121 [pP S,.c (.val nv),nI d] [S] (SSt A B (gP RA nv names rw) S l i0) (fun r s=>∃(e:aH) (i:Nat),r=.agg (cU e) /\ eT names (d) e /\ i <= l.length /\ s=SSt A B (gP RA nv names rw) S l i):=by
 refine acB func121 rfl ?_
 show AWp prog _ ⟨64,[S],⟨A++⟨S,102,[.sl l.length (l.map fun i=>.val (.int .i64 i)),nC i0]⟩::B,RA++⟨nv,9,1,names.length,bP names⟩::rw⟩,[(0,pP S),(1,.c (.val nv)),(2,nI d)]⟩ _
 refine go 8 fun b1=>?_
 refine wo rfl (bD [S] rfl rfl (by decide) call45 rfl (eC (_::A) _ _ _ l i0 _ hi0 hl (by decide) (by decide)) (bDj (by simp)) (bDj (by simp [Sto.bl])) (fun _=>bDj (by simp)) ?_)
 rintro r1 s1 ⟨z1,i1,rfl,hy1,hi1,rfl⟩
 refine go 8 ?_
 by_cases hd0:d=0
 ·refine wcp true rfl (by first|exact eU (by omega)|(simp [bC]<;>omega)) (go 12 ?_)
  refine wyz rfl (kV RA rfl rfl rfl runUnderlying50) ?_
  by_cases hn0:0<names.length
  ·refine wcp true rfl (by first|exact eU (by omega)|(simp [bC]<;>omega)) (go 2 ?_)
   refine wo rfl (bD [S] rfl rfl (by decide) call45 rfl (eC (_::A) _ _ _ l i1 _ hi1 hl (by decide) (by decide)) (bDj (by simp)) (bDj (by simp [Sto.bl])) (fun _=>bDj (by simp)) ?_)
   rintro r2 s2 ⟨z2,i2,rfl,hy2,hi2,rfl⟩
   by_cases hz21:z2=1
   ·refine wcp true rfl (by first|exact eU (by omega)|(simp [bC]<;>omega)) (go 9 ?_)
    refine wyz rfl (kV RA rfl rfl rfl runUnderlying50) ?_
    refine wo rfl (bD [S] rfl rfl (by decide) call45 rfl (eC (_::A) _ _ _ l i2 _ hi2 hl (by omega) (by omega)) (bDj (by simp)) (bDj (by simp [Sto.bl])) (fun _=>bDj (by simp)) ?_)
    rintro r3 s3 ⟨z3,i3,rfl,hy3,hi3,rfl⟩
    have hj2:z3<names.length:=by omega
    refine aF1 RA (by omega) fun g cap hg=>?_
    subst hg
    refine wyz rfl (dH z3 rfl rfl rfl rfl hj2 runUnderlying50 sizeOf9) ?_
    refine wyz rfl (rM RA rfl rfl rfl isAgg9 sizeOf9 (rB names _ hj2) (fun _ h=>by cases h)) (go 8 ?_)
    exact ⟨.inr rfl,_,SSt A B (gP RA _ names rw) S l i3,(eK (Wk.agg (.r (.r (.r (.n .nil))))) (aR rfl (aO [] rfl rfl isAgg73 sizeOf73 (bK rfl rfl)))),aA (.cons _ (.refl _)) (.refl _),⟨(.mk 2 0 names[z3] []),i3,rfl,(.name (getElem_mem hj2)),hi3,rfl⟩⟩
   refine wcp false rfl (by first|exact eE (by omega)|(simp [bC]<;>omega)) (go 9 ?_)
   refine wo rfl (bD [S] rfl rfl (by decide) call156 rfl (vH (_::A) _ _ _ l i2 hi2 hl) (bDj (by simp)) (bDj (by simp [Sto.bl])) (fun _=>bDj (by simp)) ?_)
   rintro r3 s3 ⟨z3,i3,rfl,hz3,hy3,hi3,rfl⟩
   refine go 7 ?_
   exact ⟨.inr rfl,_,SSt A B (gP RA _ names rw) S l i3,(eK (Wk.agg (.r (.r (.r (.n .nil))))) (aR rfl (aO [] rfl rfl isAgg73 sizeOf73 (bK rfl rfl)))),aA (.cons _ (.refl _)) (.refl _),⟨(.mk 1 z3 aK []),i3,rfl,(.num hz3 hy3),hi3,rfl⟩⟩
  refine wcp false rfl (by first|exact eE (by omega)|(simp [bC]<;>omega)) (go 13 ?_)
  refine wo rfl (bD [S] rfl rfl (by decide) call156 rfl (vH (_::A) _ _ _ l i1 hi1 hl) (bDj (by simp)) (bDj (by simp [Sto.bl])) (fun _=>bDj (by simp)) ?_)
  rintro r2 s2 ⟨z2,i2,rfl,hz2,hy2,hi2,rfl⟩
  refine go 7 ?_
  exact ⟨.inr rfl,_,SSt A B (gP RA _ names rw) S l i2,(eK (Wk.agg (.r (.r (.r (.n .nil))))) (aR rfl (aO [] rfl rfl isAgg73 sizeOf73 (bK rfl rfl)))),aA (.cons _ (.refl _)) (.refl _),⟨(.mk 1 z2 aK []),i2,rfl,(.num hz2 hy2),hi2,rfl⟩⟩
 refine wcp false rfl (by first|exact eE (by omega)|(simp [bC]<;>omega)) (go 2 ?_)
 by_cases hz2:z1<2
 ·refine wcp true rfl (by first|exact eU (by omega)|(simp [bC]<;>omega)) (go 9 ?_)
  refine wyz rfl (kV RA rfl rfl rfl runUnderlying50) ?_
  by_cases hn0:0<names.length
  ·refine wcp true rfl (by first|exact eU (by omega)|(simp [bC]<;>omega)) (go 2 ?_)
   refine wo rfl (bD [S] rfl rfl (by decide) call45 rfl (eC (_::A) _ _ _ l i1 _ hi1 hl (by decide) (by decide)) (bDj (by simp)) (bDj (by simp [Sto.bl])) (fun _=>bDj (by simp)) ?_)
   rintro r2 s2 ⟨z2,i2,rfl,hy2,hi2,rfl⟩
   by_cases hz21:z2=1
   ·refine wcp true rfl (by first|exact eU (by omega)|(simp [bC]<;>omega)) (go 9 ?_)
    refine wyz rfl (kV RA rfl rfl rfl runUnderlying50) ?_
    refine wo rfl (bD [S] rfl rfl (by decide) call45 rfl (eC (_::A) _ _ _ l i2 _ hi2 hl (by omega) (by omega)) (bDj (by simp)) (bDj (by simp [Sto.bl])) (fun _=>bDj (by simp)) ?_)
    rintro r3 s3 ⟨z3,i3,rfl,hy3,hi3,rfl⟩
    have hj2:z3<names.length:=by omega
    refine aF1 RA (by omega) fun g cap hg=>?_
    subst hg
    refine wyz rfl (dH z3 rfl rfl rfl rfl hj2 runUnderlying50 sizeOf9) ?_
    refine wyz rfl (rM RA rfl rfl rfl isAgg9 sizeOf9 (rB names _ hj2) (fun _ h=>by cases h)) (go 8 ?_)
    exact ⟨.inr rfl,_,SSt A B (gP RA _ names rw) S l i3,(eK (Wk.agg (.r (.r (.r (.n .nil))))) (aR rfl (aO [] rfl rfl isAgg73 sizeOf73 (bK rfl rfl)))),aA (.cons _ (.refl _)) (.refl _),⟨(.mk 2 0 names[z3] []),i3,rfl,(.name (getElem_mem hj2)),hi3,rfl⟩⟩
   refine wcp false rfl (by first|exact eE (by omega)|(simp [bC]<;>omega)) (go 9 ?_)
   refine wo rfl (bD [S] rfl rfl (by decide) call156 rfl (vH (_::A) _ _ _ l i2 hi2 hl) (bDj (by simp)) (bDj (by simp [Sto.bl])) (fun _=>bDj (by simp)) ?_)
   rintro r3 s3 ⟨z3,i3,rfl,hz3,hy3,hi3,rfl⟩
   refine go 7 ?_
   exact ⟨.inr rfl,_,SSt A B (gP RA _ names rw) S l i3,(eK (Wk.agg (.r (.r (.r (.n .nil))))) (aR rfl (aO [] rfl rfl isAgg73 sizeOf73 (bK rfl rfl)))),aA (.cons _ (.refl _)) (.refl _),⟨(.mk 1 z3 aK []),i3,rfl,(.num hz3 hy3),hi3,rfl⟩⟩
  refine wcp false rfl (by first|exact eE (by omega)|(simp [bC]<;>omega)) (go 13 ?_)
  refine wo rfl (bD [S] rfl rfl (by decide) call156 rfl (vH (_::A) _ _ _ l i1 hi1 hl) (bDj (by simp)) (bDj (by simp [Sto.bl])) (fun _=>bDj (by simp)) ?_)
  rintro r2 s2 ⟨z2,i2,rfl,hz2,hy2,hi2,rfl⟩
  refine go 7 ?_
  exact ⟨.inr rfl,_,SSt A B (gP RA _ names rw) S l i2,(eK (Wk.agg (.r (.r (.r (.n .nil))))) (aR rfl (aO [] rfl rfl isAgg73 sizeOf73 (bK rfl rfl)))),aA (.cons _ (.refl _)) (.refl _),⟨(.mk 1 z2 aK []),i2,rfl,(.num hz2 hy2),hi2,rfl⟩⟩
 refine wcp false rfl (by first|exact eE (by omega)|(simp [bC]<;>omega)) (go 8 ?_)
 by_cases hz4:z1<4
 ·refine wcp true rfl (by first|exact eU (by omega)|(simp [bC]<;>omega)) (go 7 ?_)
  refine wyz rfl (aNv (z1%2) rfl rfl rfl rfl) ?_
  refine wad rfl (go 3 ?_)
  refine wyz rfl (cI ((d-1:Nat):Int) rfl rfl rfl (by omega) (by omega) (by omega)) ?_
  refine wo rfl (bD [S] rfl rfl (by decide) call121 rfl (ih hd0 (_::A) i1 hi1) (bDj (by simp)) (bDj (by simp [Sto.bl])) (fun _=>bDj (by simp)) ?_)
  rintro r2 s2 ⟨x2,i2,rfl,hm2,hi2,rfl⟩
  refine wo rfl (bDk bDs rfl (.cons rfl .nil) (aV fO cU x2 (fP _) rfl rfl) ?_)
  refine go 7 ?_
  exact ⟨.inr rfl,_,SSt A B (gP RA _ names rw) S l i2,(eK (Wk.agg (.r (.r (.r (.r .nil))))) (aR rfl (aO [] rfl rfl isAgg73 sizeOf73 (bK rfl rfl)))),aA (.cons _ (.refl _)) (.refl _),⟨(.mk (3+((z1%2:Nat):Int)) 0 aK [x2]),i2,rfl,(by obtain ⟨d',rfl⟩:∃d',d=d'+1:=⟨d-1,by omega⟩;exact .un (by omega) hm2),hi2,rfl⟩⟩
 refine wcp false rfl (by first|exact eE (by omega)|(simp [bC]<;>omega)) (go 10 ?_)
 refine wo rfl (bD [S] rfl rfl (by decide) call45 rfl (eC (_::A) _ _ _ l i1 _ hi1 hl (by decide) (by decide)) (bDj (by simp)) (bDj (by simp [Sto.bl])) (fun _=>bDj (by simp)) ?_)
 rintro r2 s2 ⟨z2,i2,rfl,hy2,hi2,rfl⟩
 refine wad rfl (go 3 ?_)
 refine wyz rfl (cI ((d-1:Nat):Int) rfl rfl rfl (by omega) (by omega) (by omega)) ?_
 refine wo rfl (bD [S] rfl rfl (by decide) call121 rfl (ih hd0 (_::A) i2 hi2) (bDj (by simp)) (bDj (by simp [Sto.bl])) (fun _=>bDj (by simp)) ?_)
 rintro r3 s3 ⟨x3,i3,rfl,hm3,hi3,rfl⟩
 refine go 3 ?_
 refine wyz rfl (cI ((d-1:Nat):Int) rfl rfl rfl (by omega) (by omega) (by omega)) ?_
 refine wo rfl (bD [S] rfl rfl (by decide) call121 rfl (ih hd0 (_::A) i3 hi3) (bDj (by simp)) (bDj (by simp [Sto.bl])) (fun _=>bDj (by simp)) ?_)
 rintro r4 s4 ⟨x4,i4,rfl,hm4,hi4,rfl⟩
 refine wo rfl (bDk zb9 rfl (.cons rfl (.cons rfl .nil)) (aEp fO cU x3 x4 fP rfl (fun _=>rfl)) ?_)
 refine go 5 ?_
 exact ⟨.inr rfl,_,SSt A B (gP RA _ names rw) S l i4,(eK (Wk.agg (.r (.r (.r (.r .nil))))) (aR rfl (aO [] rfl rfl isAgg73 sizeOf73 (bK rfl rfl)))),aA (.cons _ (.refl _)) (.refl _),⟨(.mk (5+((z2:Nat):Int)) 0 aK [x3,x4]),i4,rfl,(by obtain ⟨d',rfl⟩:∃d',d=d'+1:=⟨d-1,by omega⟩;exact .bin (by omega) (by omega) hm3 hm4),hi4,rfl⟩⟩
theorem xZ(B:List Box)(RA rw:List bA)(nv:Value)(S:Nat)(l:List Int)(names:List ByteArray)(hl:l.length <= 1000000)(hnl:names.length <= 1000000):∀(d:Nat),d <= 100 -> ∀(A:List Box)(i:Nat),i <= l.length -> aL prog 121 [pP S,.c (.val nv),nI d] [S] (SSt A B (gP RA nv names rw) S l i) (fun r s=>∃(e:aH) (i:Nat),r=.agg (cU e) /\ eT names (d) e /\ i <= l.length /\ s=SSt A B (gP RA nv names rw) S l i)
 |0,hd,A,i,hi=>yU A B RA rw nv S l i names 0 hi hl hnl hd (fun h=>absurd rfl h)
 |d+1,hd,A,i,hi=>yU A B RA rw nv S l i names (d+1) hi hl hnl hd (fun _ A i hi=>xZ B RA rw nv S l names hl hnl d (by omega) A i hi)
theorem aM1(A B:List Box)(RA rw:List bA)(nv:Value)(S W:Nat)(l:List Int)(i0:Nat)(names:List ByteArray)(G M F:AC)(left:Int)(ar:Bool)(size:Int)(hs0:0<size)(hs1:size <= 4611686018427387904)(hi0:i0 <= l.length)(hl:l.length <= 1000000)(hnl:names.length <= 1000000):aL prog 120 [pP W,.c (.val nv),.c (.val (.int .i64 size))] [S] (SSt A (⟨W,104,[.val (.pointer (some ⟨S,0,none⟩)),G,M,F,.val (.int .i64 left),.val (.bool ar)]⟩::B) (gP RA nv names rw) S l i0) (fun r s=>∃(e:aH) (i:Nat),r=.agg (cU e) /\ eT names 1 e /\ i <= l.length /\ s=SSt A (⟨W,104,[.val (.pointer (some ⟨S,0,none⟩)),G,M,F,.val (.int .i64 left),.val (.bool ar)]⟩::B) (gP RA nv names rw) S l i):=by
 cases ar
 ·refine acB func120 rfl ?_
  show AWp prog _ ⟨32,[S],⟨A++⟨S,102,[.sl l.length (l.map fun i=>.val (.int .i64 i)),nC i0]⟩::⟨W,104,[.val (.pointer (some ⟨S,0,none⟩)),G,M,F,.val (.int .i64 left),.val (.bool false)]⟩::B,RA++⟨nv,9,1,names.length,bP names⟩::rw⟩,[(0,pP W),(1,.c (.val nv)),(2,.c (.val (.int .i64 size)))]⟩ _
  refine go 32 fun b1=>?_
  refine wo rfl (bD [S] rfl rfl (by decide) call45 rfl (eC (_::A) _ _ _ l i0 _ hi0 hl hs0 hs1) (bDj (by simp)) (bDj (by simp [Sto.bl])) (fun _=>bDj (by simp)) ?_)
  rintro r1 s1 ⟨z1,i1,rfl,hy1,hi1,rfl⟩
  refine go 5 ?_
  exact ⟨.inr rfl,_,SSt A (⟨W,104,[.val (.pointer (some ⟨S,0,none⟩)),G,M,F,.val (.int .i64 left),.val (.bool false)]⟩::B) (gP RA nv names rw) S l i1,(eK (Wk.agg (.r (.r (.r (.n .nil))))) (aR rfl (aO [] rfl rfl isAgg73 sizeOf73 (bK rfl rfl)))),aA (.cons _ (.refl _)) (.refl _),⟨.mk 1 z1 aK [],i1,rfl,.num (by omega) (by omega),hi1,rfl⟩⟩
 refine acB func120 rfl ?_
 show AWp prog _ ⟨32,[S],⟨A++⟨S,102,[.sl l.length (l.map fun i=>.val (.int .i64 i)),nC i0]⟩::⟨W,104,[.val (.pointer (some ⟨S,0,none⟩)),G,M,F,.val (.int .i64 left),.val (.bool true)]⟩::B,RA++⟨nv,9,1,names.length,bP names⟩::rw⟩,[(0,pP W),(1,.c (.val nv)),(2,.c (.val (.int .i64 size)))]⟩ _
 refine go 17 fun b1=>?_
 refine wo rfl (bD [S] rfl rfl (by decide) call45 rfl (eC (_::A) _ _ _ l i0 _ hi0 hl (by decide) (by decide)) (bDj (by simp)) (bDj (by simp [Sto.bl])) (fun _=>bDj (by simp)) ?_)
 rintro r1 s1 ⟨z1,i1,rfl,hy1,hi1,rfl⟩
 by_cases hz1:z1=1
 ·refine wcp true rfl (by first|exact eU (by omega)|(simp [bC]<;>omega)) (go 11 ?_)
  refine wo rfl (bD [S] rfl rfl (by decide) call121 rfl (xZ _ RA _ _ S l names hl hnl 1 (by first|decide|omega) (_::A) i1 hi1) (bDj (by simp)) (bDj (by simp [Sto.bl])) (fun _=>bDj (by simp)) ?_)
  rintro r2 s2 ⟨x2,i2,rfl,hm2,hi2,rfl⟩
  refine go 5 ?_
  exact ⟨.inr rfl,_,SSt A (⟨W,104,[.val (.pointer (some ⟨S,0,none⟩)),G,M,F,.val (.int .i64 left),.val (.bool true)]⟩::B) (gP RA nv names rw) S l i2,(aR rfl (aO [] rfl rfl isAgg73 sizeOf73 (bK rfl rfl))),aA (.cons _ (.refl _)) (.refl _),⟨x2,i2,rfl,hm2,hi2,rfl⟩⟩
 refine wcp false rfl (by first|exact eE (by omega)|(simp [bC]<;>omega)) (go 13 ?_)
 refine wo rfl (bD [S] rfl rfl (by decide) call45 rfl (eC (_::A) _ _ _ l i1 _ hi1 hl hs0 hs1) (bDj (by simp)) (bDj (by simp [Sto.bl])) (fun _=>bDj (by simp)) ?_)
 rintro r2 s2 ⟨z2,i2,rfl,hy2,hi2,rfl⟩
 refine go 5 ?_
 exact ⟨.inr rfl,_,SSt A (⟨W,104,[.val (.pointer (some ⟨S,0,none⟩)),G,M,F,.val (.int .i64 left),.val (.bool true)]⟩::B) (gP RA nv names rw) S l i2,(eK (Wk.agg (.r (.r (.r (.n .nil))))) (aR rfl (aO [] rfl rfl isAgg73 sizeOf73 (bK rfl rfl)))),aA (.cons _ (.refl _)) (.refl _),⟨.mk 1 z2 aK [],i2,rfl,.num (by omega) (by omega),hi2,rfl⟩⟩
theorem pQ(A B:List Box)(RA rw:List bA)(nv:Value)(S W:Nat)(l:List Int)(i0:Nat)(names:List ByteArray)(G M F:AC)(left:Int)(ar:Bool)(hi0:i0 <= l.length)(hl:l.length <= 1000000)(hnl:names.length <= 1000000):aL prog 83 [pP W,.c (.val nv)] [S] (SSt A (⟨W,104,[.val (.pointer (some ⟨S,0,none⟩)),G,M,F,.val (.int .i64 left),.val (.bool ar)]⟩::B) (gP RA nv names rw) S l i0) (fun r s=>∃(e:aH) (i:Nat),r=.agg (cU e) /\ eT names 2 e /\ i <= l.length /\ s=SSt A (⟨W,104,[.val (.pointer (some ⟨S,0,none⟩)),G,M,F,.val (.int .i64 left),.val (.bool ar)]⟩::B) (gP RA nv names rw) S l i):=by
 cases ar
 ·refine acB func83 rfl ?_
  show AWp prog _ ⟨28,[S],⟨A++⟨S,102,[.sl l.length (l.map fun i=>.val (.int .i64 i)),nC i0]⟩::⟨W,104,[.val (.pointer (some ⟨S,0,none⟩)),G,M,F,.val (.int .i64 left),.val (.bool false)]⟩::B,RA++⟨nv,9,1,names.length,bP names⟩::rw⟩,[(0,pP W),(1,.c (.val nv))]⟩ _
  refine go 23 fun b1=>?_
  refine wo rfl (bD [S] rfl rfl (by decide) call121 rfl (xZ _ RA _ _ S l names hl hnl 0 (by first|decide|omega) (_::A) i0 hi0) (bDj (by simp)) (bDj (by simp [Sto.bl])) (fun _=>bDj (by simp)) ?_)
  rintro r1 s1 ⟨x1,i1,rfl,hm1,hi1,rfl⟩
  refine go 5 ?_
  exact ⟨.inr rfl,_,SSt A (⟨W,104,[.val (.pointer (some ⟨S,0,none⟩)),G,M,F,.val (.int .i64 left),.val (.bool false)]⟩::B) (gP RA nv names rw) S l i1,(aR rfl (aO [] rfl rfl isAgg73 sizeOf73 (bK rfl rfl))),aA (.cons _ (.refl _)) (.refl _),⟨x1,i1,rfl,(hm1.mono (by omega)),hi1,rfl⟩⟩
 refine acB func83 rfl ?_
 show AWp prog _ ⟨28,[S],⟨A++⟨S,102,[.sl l.length (l.map fun i=>.val (.int .i64 i)),nC i0]⟩::⟨W,104,[.val (.pointer (some ⟨S,0,none⟩)),G,M,F,.val (.int .i64 left),.val (.bool true)]⟩::B,RA++⟨nv,9,1,names.length,bP names⟩::rw⟩,[(0,pP W),(1,.c (.val nv))]⟩ _
 refine go 19 fun b1=>?_
 refine dx [W] (tz [(0,true),(1,true),(2,true),(3,true),(4,true),(5,true),(6,true),(7,true),(8,true)] 4 (go 10 ?_))
 refine ox 9 rfl rfl (bD [S] rfl rfl (by decide) call45 rfl (eC (_::A) _ _ _ l i0 _ hi0 hl (by decide) (by decide)) (by intro b hb;simp at hb;subst hb;simp) (by intro b hb;simp at hb;subst hb;simp [Sto.bl]) (fun hn b hb=>by simp at hb;subst hb<;>exact jJ hn) ?_)
 rintro r1 s1 ⟨z1,i1,rfl,hy1,hi1,rfl⟩
 refine tx 10 rfl (bB rfl rfl rfl (by omega) (by omega)) ?_
 refine ox 11 rfl rfl (bD [S] rfl rfl (by decide) call121 rfl (xZ _ RA _ _ S l names hl hnl (1+z1) (by first|decide|omega) (_::A) i1 hi1) (by intro b hb;simp at hb;subst hb;simp) (by intro b hb;simp at hb;subst hb;simp [Sto.bl]) (fun hn b hb=>by simp at hb;subst hb<;>exact jJ hn) ?_)
 rintro r2 s2 ⟨x2,i2,rfl,hm2,hi2,rfl⟩
 refine tz [(12,false)] 0 (go 2 ?_)
 refine ax (go 2 ?_)
 exact ⟨.inr rfl,_,SSt A (⟨W,104,[.val (.pointer (some ⟨S,0,none⟩)),G,M,F,.val (.int .i64 left),.val (.bool true)]⟩::B) (gP RA nv names rw) S l i2,(aR rfl (aO [] rfl rfl isAgg73 sizeOf73 (bK rfl rfl))),aA (.cons _ (.refl _)) (.refl _),⟨x2,i2,rfl,(hm2.mono (by omega)),hi2,rfl⟩⟩
end
section
def iZ(ms:List cL):List ByteArray:=ms.map cL.name
def jB(ps:List aS):List ByteArray:=(ps.map fun x=>if x.mutex then [x.name,x.name] else []).flatten
theorem aDs(ms:List cL)(k:Nat)(h:k<ms.length):iZ (ms.take (k+1))=iZ (ms.take k)++[ms[k].name]:=by
 rw [List.take_succ_eq_append_getElem h,iZ,List.map_append];rfl
theorem vX(ps:List aS)(k:Nat)(h:k<ps.length):jB (ps.take (k+1))=jB (ps.take k)++(if ps[k].mutex then [ps[k].name,ps[k].name] else []):=by
 rw [List.take_succ_eq_append_getElem h,jB,List.map_append,List.flatten_append];simp [jB]
theorem xK:∀(ps:List aS),(jB ps).length <= 2*ps.length
 |[]=>by simp [jB]
 |x::r=>by
  have:=xK r
  simp only [jB,List.map_cons,List.flatten_cons,length_append,length_cons] at this⊢
  split<;>(simp only [length_cons,length_nil];omega)
theorem aE4(ps:List aS)(n:ByteArray)(h:n∈jB ps):∃x,x∈ps /\ x.mutex=true /\ x.name=n:=by
 simp only [jB,List.mem_flatten,List.mem_map] at h
 obtain ⟨l,⟨x,hx,rfl⟩,hn⟩:=h
 cases hm:x.mutex with
 |true=>rw [hm] at hn;simp at hn;exact ⟨x,hx,hm,hn.symm⟩
 |false=>rw [hm] at hn;simp at hn
end
end Go.Proofs.YtojinfngbbajgaaGreatDoor
