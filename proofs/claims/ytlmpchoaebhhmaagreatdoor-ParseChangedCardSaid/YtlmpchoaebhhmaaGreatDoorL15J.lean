import Derived.Test.YtlmpchoaebhhmaaGreatDoorL14J
import Derived.Test.YtlmpchoaebhhmaaGreatDoorL7J
set_option linter.all false
set_option synthInstance.maxHeartbeats 1000000
set_option synthInstance.maxSize 1000000
namespace Go.Proofs.YtlmpchoaebhhmaaGreatDoor
open List (length_append length_cons length_nil mem_append mem_cons not_mem_nil append_assoc getElem_mem take_of_length_le)
section
inductive VE:aH -> Prop where
 |num (n:Nat) (h:n <= 9223372036854775807):VE (.mk 1 n aK [])
 |name (s:ByteArray) (h:bQ s=true):VE (.mk 2 0 s [])
 |un (op:Int) (x:aH) (h:op=3∨op=4) (hx:VE x):VE (.mk op 0 aK [x])
 |bin (op:Int) (x y:aH) (h:5 <= op /\ op <= 17) (hx:VE x) (hy:VE y):VE (.mk op 0 aK [x,y])
def mF(b:Bool)(t:List PT):List PT:=if b then sgn [40]::(t++[sgn [41]]) else t
def aM3(op num:Int)(name:ByteArray)(ts:List (List PT)):List PT:=
 if op=1 then [⟨2,bytes (cO num.natAbs),num.natAbs⟩] else if op=2 then [⟨1,name,0⟩] else if op=3 then sgn [45]::ts.getD 0 [] else if op=4 then sgn [33]::ts.getD 0 [] else
 ts.getD 0 []++sgn (iW op)::ts.getD 1 []
mutual
def aT:aH -> List PT
 |.mk op num name args=>aM3 op num name (mL op 0 args)
def mL(b:Int):Nat -> List aH -> List (List PT)
 |_,[]=>[]
 |k,e::es=>mF (cV b k e.op) (aT e)::mL b (k+1) es
end
def Sta(r:List UInt8):Prop:=∃c q,r=c::q /\ c≠61 /\ c≠38 /\ c≠124 /\ c≠47
theorem Sta.app{r:List UInt8}(h:Sta r)(s:List UInt8):Sta (r++s):=by
 obtain ⟨c,q,rfl,h1⟩:=h
 exact ⟨c,q++s,rfl,h1⟩
def Seg(l:List Tok)(k:Nat)(ps:List PT):Prop:=ps <+:(l.map Tok.pt).drop k
theorem Seg.app{l:List Tok}{k:Nat}{a b:List PT}(h:Seg l k (a++b)):Seg l k a /\ Seg l (k+a.length) b:=by
 obtain ⟨t,ht⟩:=h
 refine ⟨⟨b++t,by rw [←ht,append_assoc]⟩,⟨t,?_⟩⟩
 rw [←List.drop_drop,←ht,append_assoc,List.drop_left]
def Fol(l:List Tok)(k m:Nat):Prop:=¬((bU l k).kind=4 /\ m <= (binOp (bU l k).text).2)
theorem Fol.mono{l:List Tok}{k m n:Nat}(h:Fol l k m)(hn:m <= n):Fol l k n:=fun hh=>h ⟨hh.1,by omega⟩
section
variable {l:List Tok}
structure Reads (l:List Tok) (e:aH):Prop where
 single:∀d k,dI e <= d -> Seg l k (aT e) -> 5 <= aM e.op -> bL l d k=.ok e (k+(aT e).length)
 bin:∀d k j,dI e <= d -> Seg l k (aT e) -> j <= 5 -> 5 <= aM e.op+j -> Fol l (k+(aT e).length) (6-j) -> gS l (bL l d) j k=.ok e (k+(aT e).length)
 chain:∀d k j,dI e <= d -> Seg l k (aT e) -> j<5 -> 5 <= aM e.op+(j+1) -> Fol l (k+(aT e).length) (6-j) -> ∃a k0 m,gS l (bL l d) j k=.ok a k0 /\ m <= (aT e).length /\ ∀n,fR l (gS l (bL l d) j) (5-j) (m+n) a k0=fR l (gS l (bL l d) j) (5-j) n e (k+(aT e).length)
theorem Reads.of{e:aH}(single:∀d k,dI e <= d -> Seg l k (aT e) -> 5 <= aM e.op -> bL l d k=.ok e (k+(aT e).length))
  (step:∀d k j,dI e <= d -> Seg l k (aT e) -> j<5 -> aM e.op+j=4 -> Fol l (k+(aT e).length) (6-j) -> ∃a k0 m,gS l (bL l d) j k=.ok a k0 /\ m <= (aT e).length /\ ∀n,fR l (gS l (bL l d) j) (5-j) (m+n) a k0=fR l (gS l (bL l d) j) (5-j) n e (k+(aT e).length)):Reads l e:=by
 have bin:∀j d k,dI e <= d -> Seg l k (aT e) -> j <= 5 -> 5 <= aM e.op+j -> Fol l (k+(aT e).length) (6-j) -> gS l (bL l d) j k=.ok e (k+(aT e).length):=by
  intro j
  induction j with
  |zero=>intro d k hd hs _ h5 hf;exact single d k hd hs (by omega)
  |succ j ih=>
   intro d k hd hs hj h5 hf
   by_cases h6:5 <= aM e.op+j
   ·unfold gS
    rw [ih d k hd hs (by omega) h6 (hf.mono (by omega))]
    show fR l _ (5-j) (l.length+1) _ _=_
    unfold fR
    rw [if_neg]
    rintro ⟨h1,h2⟩
    exact hf ⟨h1,by omega⟩
   obtain ⟨a,k0,m,h1,h2,h3⟩:=step d k j hd hs (by omega) (by omega) (hf.mono (by omega))
   have hl:(aT e).length <= l.length:=by
    obtain ⟨t,ht⟩:=hs
    have:=congrArg List.length ht
    simp at this;omega
   unfold gS
   rw [h1]
   show fR l _ (5-j) (l.length+1) _ _=_
   have:=h3 (l.length-m+1)
   rw [show m+(l.length-m+1)=l.length+1 by omega] at this
   rw [this]
   unfold fR
   rw [if_neg]
   rintro ⟨h1,h2⟩
   exact hf ⟨h1,by omega⟩
 refine ⟨single,fun d k j hd hs hj h5 hf=>bin j d k hd hs hj h5 hf,fun d k j hd hs hj h5 hf=>?_⟩
 by_cases h6:5 <= aM e.op+j
 ·exact ⟨e,_,0,bin j d k hd hs (by omega) h6 hf,by omega,fun n=>by rw [Nat.zero_add]⟩
 exact step d k j hd hs hj (by omega) hf
end
end
section
def nmT(s:ByteArray):PT:=⟨1,s,0⟩
def nuT(n:Nat):PT:=⟨2,bytes (cO n),n⟩
def VX(e:aH):Prop:=VE e /\ dI e <= 24
inductive VR:cY -> Prop where
 |one (n:ByteArray) (h:bQ n=true):VR ⟨n,[]⟩
 |el (n:ByteArray) (e:aH) (h:bQ n=true) (he:VX e):VR ⟨n,[e]⟩
inductive VA:eN -> Prop where
 |mutex (r:cY) (h:VR r):VA ⟨true,r,.zero⟩
 |expr (e:aH) (h:VX e):VA ⟨false,.zero,e⟩
inductive VSs:Nat -> List aJ -> Prop where
 |nil {d:Nat}:VSs d []
 |var {d:Nat} {n:ByteArray} {e:aH} {r:List aJ} (hn:bQ n=true) (he:VX e) (h:VSs d r):VSs d (.mk 1 n e .zero [] [] []::r)
 |assign {d:Nat} {n:ByteArray} {e:aH} {r:List aJ} (hn:bQ n=true) (he:VX e) (h:VSs d r):VSs d (.mk 2 n e .zero [] [] []::r)
 |call {d:Nat} {n:ByteArray} {a:List eN} {r:List aJ} (hn:bQ n=true) (ha:∀x,x∈a -> VA x) (h:VSs d r):VSs d (.mk 3 n .zero .zero a [] []::r)
 |go {d:Nat} {n:ByteArray} {a:List eN} {r:List aJ} (hn:bQ n=true) (ha:∀x,x∈a -> VA x) (h:VSs d r):VSs d (.mk 4 n .zero .zero a [] []::r)
 |lock {d:Nat} {f:cY} {r:List aJ} (hf:VR f) (h:VSs d r):VSs d (.mk 5 aK .zero f [] [] []::r)
 |unlock {d:Nat} {f:cY} {r:List aJ} (hf:VR f) (h:VSs d r):VSs d (.mk 6 aK .zero f [] [] []::r)
 |cond {d:Nat} {e:aH} {t f r:List aJ} (he:VX e) (ht:VSs d t) (hf:VSs d f) (h:VSs (d+1) r):VSs (d+1) (.mk 7 aK e .zero [] t f::r)
 |loop {d:Nat} {e:aH} {t r:List aJ} (he:VX e) (ht:VSs d t) (h:VSs (d+1) r):VSs (d+1) (.mk 8 aK e .zero [] t []::r)
 |ret {d:Nat} {r:List aJ} (h:VSs d r):VSs d (.mk 9 aK .zero .zero [] [] []::r)
def hY(r:cY):List PT:=match r.index with|[]=>[nmT r.name]|e::_=>nmT r.name::sgn [91]::(aT e++[sgn [93]])
def wH(a:eN):List PT:=if a.mutex then wrd [109,117,116,101,120]::hY a.ref else aT a.expr
def fZ{α:Type}(f:α -> List PT):List α -> List PT
 |[]=>[]
 |x::r=>f x++(r.map fun y=>sgn [44]::f y).flatten
def iG(l:List eN):List PT:=sgn [40]::(fZ wH l++[sgn [41]])
mutual
def cE:aJ -> List PT
 |.mk kind name expr ref args thn els=>
  (if kind=1 then wrd [118,97,114]::nmT name::sgn [61]::(aT expr++[sgn [59]])
   else if kind=2 then nmT name::sgn [61]::(aT expr++[sgn [59]])
   else if kind=3 then nmT name::(iG args++[sgn [59]])
   else if kind=4 then wrd [103,111]::nmT name::(iG args++[sgn [59]])
   else if kind=5 then wrd [108,111,99,107]::(hY ref++[sgn [59]])
   else if kind=6 then wrd [117,110,108,111,99,107]::(hY ref++[sgn [59]])
   else if kind=7∨kind=8 then
    (if kind=8 then wrd [119,104,105,108,101] else wrd [105,102])::(aT expr++sgn [123]::(aQ thn++sgn [125]::
     (if els.length=0 then [] else wrd [101,108,115,101]::sgn [123]::(aQ els++[sgn [125]]))))
   else [wrd [114,101,116,117,114,110],sgn [59]])
def aQ:List aJ -> List PT
 |[]=>[]
 |s::r=>cE s++aQ r
end
section
variable {r:List UInt8}{ps:List PT}
theorem Lx.nl(h:Lx r ps):Lx (10::r) ps:=h.sp (by decide)
theorem Lx.semi(h:Lx r ps):Lx (59::10::r) (sgn [59]::ps):=h.nl.free 59 (by decide)
end
section
variable {l:List Tok}{k:Nat}
theorem Seg.len{ps:List PT}(h:Seg l k ps)(hk:k <= l.length):k+ps.length <= l.length:=by
 obtain ⟨t,ht⟩:=h
 have:=congrArg List.length ht
 simp at this;omega
theorem xY{s:List UInt8}(h:(bU l k).pt=wrd s)(u:List UInt8):dN l k u=decide (bytes s=bytes u):=by
 have h1:(bU l k).kind=3:=congrArg PT.kind h
 have h2:(bU l k).text=bytes s:=congrArg PT.text h
 unfold dN;rw [h1,h2];simp
theorem yE{t:PT}(h:(bU l k).pt=t)(ht:t.kind≠3)(u:List UInt8):dN l k u=false:=by
 have h1:(bU l k).kind=t.kind:=congrArg PT.kind h
 unfold dN;rw [h1,decide_eq_false ht];rfl
end
end
section
section
variable {l:List Tok}
def aNb(t:PT):Prop:=t.kind=1∨∃s,t=wrd s /\ decide (bytes s=bytes [101,108,115,101])=false
theorem aNb.els{t:PT}{k:Nat}(h:aNb t)(ht:(bU l k).pt=t):dN l k [101,108,115,101]=false:=by
 rcases h with h|⟨u,rfl,hu⟩
 ·exact yE ht (by omega) _
 rw [xY ht];exact hu
theorem VSs.tail{d:Nat}{s:aJ}{r:List aJ}(h:VSs d (s::r)):VSs d r:=by cases h<;>assumption
end
end
section
inductive fF where
 |glob (g:aI)
 |mtx (m:cL)
 |fn (f:bS)
def VG(g:aI):Prop:=bQ g.name=true /\ g.init.natAbs <= 9223372036854775807
def VM(m:cL):Prop:=bQ m.name=true /\ 0 <= m.size /\ m.size <= 64 /\ (m.reentrant=true -> m.size=0)
def VF(f:bS):Prop:=bQ f.name=true /\ f.params.length <= 6 /\ (∀x,x∈f.params -> bQ x.name=true) /\ VSs 23 f.body
def fF.ok:fF -> Prop
 |.glob g=>VG g
 |.mtx m=>VM m
 |.fn f=>VF f
def fF.text:fF -> List UInt8
 |.glob g=>aU g
 |.mtx m=>bE m
 |.fn f=>funcText f
def bEr(g:aI):List PT:=wrd [118,97,114]::nmT g.name::((if g.init=0 then [] else sgn [61]::(if g.init<0 then [sgn [45],nuT g.init.natAbs] else [nuT g.init.natAbs]))++[sgn [59]])
def gT(m:cL):List PT:=(if m.reentrant then wrd [114,109,117,116,101,120] else wrd [109,117,116,101,120])::nmT m.name::((if 0<m.size then [sgn [91],nuT m.size.natAbs,sgn [93]] else [])++[sgn [59]])
def lQ(x:aS):List PT:=(if x.mutex then [wrd [109,117,116,101,120]] else [])++[nmT x.name]
def kA(f:bS):List PT:=wrd [102,117,110,99]::nmT f.name::sgn [40]::(fZ lQ f.params++sgn [41]::sgn [123]::(aQ f.body++[sgn [125]]))
def fF.toks:fF -> List PT
 |.glob g=>bEr g
 |.mtx m=>gT m
 |.fn f=>kA f
def fF.add(x:cK):fF -> cK
 |.glob g=>{x with globals:=x.globals++[g]}
 |.mtx m=>{x with mutexes:=x.mutexes++[m]}
 |.fn f=>{x with funcs:=x.funcs++[f]}
section
variable {r:List UInt8}{ps:List PT}
end
section
variable {l:List Tok}
end
end
end Go.Proofs.YtlmpchoaebhhmaaGreatDoor
