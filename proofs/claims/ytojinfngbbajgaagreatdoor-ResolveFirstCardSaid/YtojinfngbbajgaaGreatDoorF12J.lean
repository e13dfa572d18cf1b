import Derived.Test.YtojinfngbbajgaaGreatDoorF11J
import Derived.Test.YtojinfngbbajgaaGreatDoorF8J
import Derived.Test.YtojinfngbbajgaaGreatDoorF1J
import Derived.Test.YtojinfngbbajgaaGreatDoorF9J
import Derived.Test.YtojinfngbbajgaaGreatDoorF4J
set_option linter.all false
set_option synthInstance.maxHeartbeats 1000000
set_option synthInstance.maxSize 1000000
namespace Go.Proofs.YtojinfngbbajgaaGreatDoor
open List (length_append length_cons length_nil mem_append mem_cons not_mem_nil append_assoc getElem_mem take_of_length_le)
section
def nmT(s:ByteArray):PT:=⟨1,s,0⟩
def nuT(n:Nat):PT:=⟨2,bytes (cO n),n⟩
def VX(e:aH):Prop:=VE e /\ dI e <= 24
inductive VR:cY -> Prop where
 |one (n:ByteArray) (h:bQ n=true):VR ⟨n,[]⟩
 |el (n:ByteArray) (e:aH) (h:bQ n=true) (he:VX e):VR ⟨n,[e]⟩
inductive VA:eN -> Prop where
 |mutex (r:cY) (h:VR r):VA ⟨true,r,.zero⟩
 |expr (e:aH) (h:VX e):VA ⟨false,.zero,e⟩
inductive VSs:Nat -> List aJ -> Prop where
 |nil {d:Nat}:VSs d []
 |var {d:Nat} {n:ByteArray} {e:aH} {r:List aJ} (hn:bQ n=true) (he:VX e) (h:VSs d r):VSs d (.mk 1 n e .zero [] [] []::r)
 |assign {d:Nat} {n:ByteArray} {e:aH} {r:List aJ} (hn:bQ n=true) (he:VX e) (h:VSs d r):VSs d (.mk 2 n e .zero [] [] []::r)
 |call {d:Nat} {n:ByteArray} {a:List eN} {r:List aJ} (hn:bQ n=true) (ha:∀x,x∈a -> VA x) (h:VSs d r):VSs d (.mk 3 n .zero .zero a [] []::r)
 |go {d:Nat} {n:ByteArray} {a:List eN} {r:List aJ} (hn:bQ n=true) (ha:∀x,x∈a -> VA x) (h:VSs d r):VSs d (.mk 4 n .zero .zero a [] []::r)
 |lock {d:Nat} {f:cY} {r:List aJ} (hf:VR f) (h:VSs d r):VSs d (.mk 5 aK .zero f [] [] []::r)
 |unlock {d:Nat} {f:cY} {r:List aJ} (hf:VR f) (h:VSs d r):VSs d (.mk 6 aK .zero f [] [] []::r)
 |cond {d:Nat} {e:aH} {t f r:List aJ} (he:VX e) (ht:VSs d t) (hf:VSs d f) (h:VSs (d+1) r):VSs (d+1) (.mk 7 aK e .zero [] t f::r)
 |loop {d:Nat} {e:aH} {t r:List aJ} (he:VX e) (ht:VSs d t) (h:VSs (d+1) r):VSs (d+1) (.mk 8 aK e .zero [] t []::r)
 |ret {d:Nat} {r:List aJ} (h:VSs d r):VSs d (.mk 9 aK .zero .zero [] [] []::r)
def hY(r:cY):List PT:=match r.index with|[]=>[nmT r.name]|e::_=>nmT r.name::sgn [91]::(aT e++[sgn [93]])
def wH(a:eN):List PT:=if a.mutex then wrd [109,117,116,101,120]::hY a.ref else aT a.expr
def fZ{α:Type}(f:α -> List PT):List α -> List PT
 |[]=>[]
 |x::r=>f x++(r.map fun y=>sgn [44]::f y).flatten
def iG(l:List eN):List PT:=sgn [40]::(fZ wH l++[sgn [41]])
mutual
def cE:aJ -> List PT
 |.mk kind name expr ref args thn els=>
  (if kind=1 then wrd [118,97,114]::nmT name::sgn [61]::(aT expr++[sgn [59]])
   else if kind=2 then nmT name::sgn [61]::(aT expr++[sgn [59]])
   else if kind=3 then nmT name::(iG args++[sgn [59]])
   else if kind=4 then wrd [103,111]::nmT name::(iG args++[sgn [59]])
   else if kind=5 then wrd [108,111,99,107]::(hY ref++[sgn [59]])
   else if kind=6 then wrd [117,110,108,111,99,107]::(hY ref++[sgn [59]])
   else if kind=7∨kind=8 then
    (if kind=8 then wrd [119,104,105,108,101] else wrd [105,102])::(aT expr++sgn [123]::(aQ thn++sgn [125]::
     (if els.length=0 then [] else wrd [101,108,115,101]::sgn [123]::(aQ els++[sgn [125]]))))
   else [wrd [114,101,116,117,114,110],sgn [59]])
def aQ:List aJ -> List PT
 |[]=>[]
 |s::r=>cE s++aQ r
end
section
variable {r:List UInt8}{ps:List PT}
theorem Lx.nl(h:Lx r ps):Lx (10::r) ps:=h.sp (by decide)
theorem Lx.semi(h:Lx r ps):Lx (59::10::r) (sgn [59]::ps):=h.nl.free 59 (by decide)
end
section
variable {l:List Tok}{k:Nat}
theorem Seg.len{ps:List PT}(h:Seg l k ps)(hk:k <= l.length):k+ps.length <= l.length:=by
 obtain ⟨t,ht⟩:=h
 have:=congrArg List.length ht
 simp at this;omega
theorem xY{s:List UInt8}(h:(bU l k).pt=wrd s)(u:List UInt8):dN l k u=decide (bytes s=bytes u):=by
 have h1:(bU l k).kind=3:=congrArg PT.kind h
 have h2:(bU l k).text=bytes s:=congrArg PT.text h
 unfold dN;rw [h1,h2];simp
theorem yE{t:PT}(h:(bU l k).pt=t)(ht:t.kind≠3)(u:List UInt8):dN l k u=false:=by
 have h1:(bU l k).kind=t.kind:=congrArg PT.kind h
 unfold dN;rw [h1,decide_eq_false ht];rfl
end
end
section
section
variable {l:List Tok}
def aNb(t:PT):Prop:=t.kind=1∨∃s,t=wrd s /\ decide (bytes s=bytes [101,108,115,101])=false
theorem aNb.els{t:PT}{k:Nat}(h:aNb t)(ht:(bU l k).pt=t):dN l k [101,108,115,101]=false:=by
 rcases h with h|⟨u,rfl,hu⟩
 ·exact yE ht (by omega) _
 rw [xY ht];exact hu
theorem VSs.tail{d:Nat}{s:aJ}{r:List aJ}(h:VSs d (s::r)):VSs d r:=by cases h<;>assumption
end
end
section
inductive fF where
 |glob (g:aI)
 |mtx (m:cL)
 |fn (f:bS)
def VG(g:aI):Prop:=bQ g.name=true /\ g.init.natAbs <= 9223372036854775807
def VM(m:cL):Prop:=bQ m.name=true /\ 0 <= m.size /\ m.size <= 64 /\ (m.reentrant=true -> m.size=0)
def VF(f:bS):Prop:=bQ f.name=true /\ f.params.length <= 6 /\ (∀x,x∈f.params -> bQ x.name=true) /\ VSs 23 f.body
def fF.ok:fF -> Prop
 |.glob g=>VG g
 |.mtx m=>VM m
 |.fn f=>VF f
def fF.text:fF -> List UInt8
 |.glob g=>aU g
 |.mtx m=>bE m
 |.fn f=>funcText f
def bEr(g:aI):List PT:=wrd [118,97,114]::nmT g.name::((if g.init=0 then [] else sgn [61]::(if g.init<0 then [sgn [45],nuT g.init.natAbs] else [nuT g.init.natAbs]))++[sgn [59]])
def gT(m:cL):List PT:=(if m.reentrant then wrd [114,109,117,116,101,120] else wrd [109,117,116,101,120])::nmT m.name::((if 0<m.size then [sgn [91],nuT m.size.natAbs,sgn [93]] else [])++[sgn [59]])
def lQ(x:aS):List PT:=(if x.mutex then [wrd [109,117,116,101,120]] else [])++[nmT x.name]
def kA(f:bS):List PT:=wrd [102,117,110,99]::nmT f.name::sgn [40]::(fZ lQ f.params++sgn [41]::sgn [123]::(aQ f.body++[sgn [125]]))
def fF.toks:fF -> List PT
 |.glob g=>bEr g
 |.mtx m=>gT m
 |.fn f=>kA f
def fF.add(x:cK):fF -> cK
 |.glob g=>{x with globals:=x.globals++[g]}
 |.mtx m=>{x with mutexes:=x.mutexes++[m]}
 |.fn f=>{x with funcs:=x.funcs++[f]}
section
variable {r:List UInt8}{ps:List PT}
end
section
variable {l:List Tok}
end
end
section
def fit(n:Int):Prop:=-9223372036854775808 <= n /\ n <= 9223372036854775807
mutual
def aH.sane:aH -> Prop
 |.mk _ num name args=>fit num /\ name.size <= 4611686018427387904 /\ iI args
def iI:List aH -> Prop
 |[]=>True
 |e::es=>e.sane /\ iI es
end
def cY.sane(r:cY):Prop:=r.name.size <= 4611686018427387904 /\ iI r.index
def eN.sane(a:eN):Prop:=a.ref.sane /\ a.expr.sane
mutual
def aJ.sane:aJ -> Prop
 |.mk _ n e r args t el=>n.size <= 4611686018427387904 /\ e.sane /\ r.sane /\ (∀a,a∈args -> a.sane) /\ gC t /\ gC el
def gC:List aJ -> Prop
 |[]=>True
 |s::r=>s.sane /\ gC r
end
def bS.sane(f:bS):Prop:=f.name.size <= 4611686018427387904 /\ (∀x,x∈f.params -> x.name.size <= 4611686018427387904) /\ gC f.body
structure cK.sane (p:cK):Prop where
 globals:∀g,g∈p.globals -> fit g.init /\ g.name.size <= 4611686018427387904
 mutexes:∀m,m∈p.mutexes -> fit m.size /\ m.name.size <= 4611686018427387904
 funcs:∀f,f∈p.funcs -> f.sane
theorem mV:∀(l:List aH),iI l -> ∀e,e∈l -> e.sane
 |[],_,_,h=>by cases h
 |x::l,hs,e,h=>by
  rw [iI] at hs
  rcases mem_cons.1 h with rfl|h
  ·exact hs.1
  exact mV l hs.2 e h
theorem oS:∀(l:List aJ),gC l -> ∀e,e∈l -> e.sane
 |[],_,_,h=>by cases h
 |x::l,hs,e,h=>by
  rw [gC] at hs
  rcases mem_cons.1 h with rfl|h
  ·exact hs.1
  exact oS l hs.2 e h
theorem rW(op:Int):(aM op<5 /\ 5 <= op /\ op <= 17)∨(aM op=5 /\ (op=3∨op=4))∨aM op=6:=by
 unfold aM
 repeat' split
 all_goals omega
mutual
theorem yT:∀(e:aH),e.sane -> eO e=true -> VE e
 |.mk op num name args,hs,h=>by
  rw [aH.sane] at hs
  rw [eO] at h
  simp only [Bool.and_eq_true,decide_eq_true_eq] at h
  obtain ⟨⟨h1,h2⟩,h3⟩:=h
  have hv:=aB0 args hs.2.2 h3
  rcases rW op with ⟨k1,k2⟩|⟨k1,k2⟩|k1
  ·rw [if_neg (by omega)] at h1
   simp only [Bool.and_eq_true,decide_eq_true_eq] at h1
   obtain ⟨rfl,rfl⟩:=h1
   rw [arity,if_neg (by omega),if_neg (by omega)] at h2
   match args,h2,hv with
   |[a,b],_,hv=>exact .bin op a b k2 (hv a (by simp)) (hv b (by simp))
  ·rw [if_neg (by omega)] at h1
   simp only [Bool.and_eq_true,decide_eq_true_eq] at h1
   obtain ⟨rfl,rfl⟩:=h1
   rw [arity,if_neg (by omega),if_pos k1] at h2
   match args,h2,hv with
   |[a],_,hv=>exact .un op a k2 (hv a (by simp))
  rw [if_pos k1] at h1
  rw [arity,if_pos k1] at h2
  obtain rfl:=List.length_eq_zero_iff.1 h2
  unfold jG at h1
  simp only [Bool.or_eq_true,Bool.and_eq_true,decide_eq_true_eq] at h1
  rcases h1 with ⟨⟨rfl,h0⟩,rfl⟩|⟨⟨rfl,rfl⟩,h0⟩
  ·obtain ⟨n,rfl⟩:∃n:Nat,num=n:=⟨num.toNat,by omega⟩
   exact .num n (by have:=hs.1.2;omega)
  exact .name name h0
theorem aB0:∀(l:List aH),iI l -> dY l=true -> ∀x,x∈l -> VE x
 |[],_,_,_,h=>by cases h
 |y::l,hs,h,x,hx=>by
  rw [iI] at hs
  rw [dY,Bool.and_eq_true] at h
  rcases mem_cons.1 hx with hx|hx
  ·rw [hx];exact yT y hs.1 h.1
  exact aB0 l hs.2 h.2 x hx
end
theorem iL(D:Nat):∀(l:List aJ),bM D l=true -> D<24
 |[],h=>by rw [bM] at h;exact of_decide_eq_true h
 |s::r,h=>by rw [bM,Bool.and_eq_true] at h;exact iL D r h.2
end
section
open Go.RowKit
abbrev bP(l:List ByteArray):List AC:=l.map fun x=>.val (.string x)
theorem rB(names:List ByteArray)(j:Nat)(h:j<names.length):pk false 1 (bP names) (0+j*1)=some (.c (.val (.string names[j]))):=by
 unfold pk bP
 rw [if_neg (by decide),Nat.zero_add,Nat.mul_one,List.getElem?_map,List.getElem?_eq_getElem h];rfl
end
end Go.Proofs.YtojinfngbbajgaaGreatDoor
