import Derived.Test.YtbdfdjdgfanjaaaDoorV5J
import Derived.Test.YtbdfdjdgfanjaaaDoorV4J
import Derived.Test.YtbdfdjdgfanjaaaDoorV1J
set_option linter.all false
set_option synthInstance.maxHeartbeats 1000000
set_option synthInstance.maxSize 1000000
namespace Go.Proofs.YtbdfdjdgfanjaaaDoor
open Go.Proofs.Tryd
open List (length_append length_cons length_nil mem_append mem_cons not_mem_nil append_assoc getElem_mem take_of_length_le)
section
inductive VE:aH -> Prop where
 |num (n:Nat) (h:n <= 9223372036854775807):VE (.mk 1 n aK [])
 |name (s:ByteArray) (h:bQ s=true):VE (.mk 2 0 s [])
 |un (op:Int) (x:aH) (h:op=3∨op=4) (hx:VE x):VE (.mk op 0 aK [x])
 |bin (op:Int) (x y:aH) (h:5 <= op /\ op <= 17) (hx:VE x) (hy:VE y):VE (.mk op 0 aK [x,y])
def mF(b:Bool)(t:List PT):List PT:=if b then sgn [40]::(t++[sgn [41]]) else t
def aM3(op num:Int)(name:ByteArray)(ts:List (List PT)):List PT:=
 if op=1 then [⟨2,bytes (cO num.natAbs),num.natAbs⟩] else if op=2 then [⟨1,name,0⟩] else if op=3 then sgn [45]::ts.getD 0 [] else if op=4 then sgn [33]::ts.getD 0 [] else
 ts.getD 0 []++sgn (iW op)::ts.getD 1 []
mutual
def aT:aH -> List PT
 |.mk op num name args=>aM3 op num name (mL op 0 args)
def mL(b:Int):Nat -> List aH -> List (List PT)
 |_,[]=>[]
 |k,e::es=>mF (cV b k e.op) (aT e)::mL b (k+1) es
end
def Sta(r:List UInt8):Prop:=∃c q,r=c::q /\ c≠61 /\ c≠38 /\ c≠124 /\ c≠47
theorem Sta.app{r:List UInt8}(h:Sta r)(s:List UInt8):Sta (r++s):=by
 obtain ⟨c,q,rfl,h1⟩:=h
 exact ⟨c,q++s,rfl,h1⟩
def Seg(l:List Tok)(k:Nat)(ps:List PT):Prop:=ps <+:(l.map Tok.pt).drop k
theorem Seg.app{l:List Tok}{k:Nat}{a b:List PT}(h:Seg l k (a++b)):Seg l k a /\ Seg l (k+a.length) b:=by
 obtain ⟨t,ht⟩:=h
 refine ⟨⟨b++t,by rw [←ht,append_assoc]⟩,⟨t,?_⟩⟩
 rw [←List.drop_drop,←ht,append_assoc,List.drop_left]
def Fol(l:List Tok)(k m:Nat):Prop:=¬((bU l k).kind=4 /\ m <= (binOp (bU l k).text).2)
theorem Fol.mono{l:List Tok}{k m n:Nat}(h:Fol l k m)(hn:m <= n):Fol l k n:=fun hh=>h ⟨hh.1,by omega⟩
section
variable {l:List Tok}
structure Reads (l:List Tok) (e:aH):Prop where
 single:∀d k,dI e <= d -> Seg l k (aT e) -> 5 <= aM e.op -> bL l d k=.ok e (k+(aT e).length)
 bin:∀d k j,dI e <= d -> Seg l k (aT e) -> j <= 5 -> 5 <= aM e.op+j -> Fol l (k+(aT e).length) (6-j) -> gS l (bL l d) j k=.ok e (k+(aT e).length)
 chain:∀d k j,dI e <= d -> Seg l k (aT e) -> j<5 -> 5 <= aM e.op+(j+1) -> Fol l (k+(aT e).length) (6-j) -> ∃a k0 m,gS l (bL l d) j k=.ok a k0 /\ m <= (aT e).length /\ ∀n,fR l (gS l (bL l d) j) (5-j) (m+n) a k0=fR l (gS l (bL l d) j) (5-j) n e (k+(aT e).length)
theorem Reads.of{e:aH}(single:∀d k,dI e <= d -> Seg l k (aT e) -> 5 <= aM e.op -> bL l d k=.ok e (k+(aT e).length))
  (step:∀d k j,dI e <= d -> Seg l k (aT e) -> j<5 -> aM e.op+j=4 -> Fol l (k+(aT e).length) (6-j) -> ∃a k0 m,gS l (bL l d) j k=.ok a k0 /\ m <= (aT e).length /\ ∀n,fR l (gS l (bL l d) j) (5-j) (m+n) a k0=fR l (gS l (bL l d) j) (5-j) n e (k+(aT e).length)):Reads l e:=by
 have bin:∀j d k,dI e <= d -> Seg l k (aT e) -> j <= 5 -> 5 <= aM e.op+j -> Fol l (k+(aT e).length) (6-j) -> gS l (bL l d) j k=.ok e (k+(aT e).length):=by
  intro j
  induction j with
  |zero=>intro d k hd hs _ h5 hf;exact single d k hd hs (by omega)
  |succ j ih=>
   intro d k hd hs hj h5 hf
   by_cases h6:5 <= aM e.op+j
   ·unfold gS
    rw [ih d k hd hs (by omega) h6 (hf.mono (by omega))]
    show fR l _ (5-j) (l.length+1) _ _=_
    unfold fR
    rw [if_neg]
    rintro ⟨h1,h2⟩
    exact hf ⟨h1,by omega⟩
   obtain ⟨a,k0,m,h1,h2,h3⟩:=step d k j hd hs (by omega) (by omega) (hf.mono (by omega))
   have hl:(aT e).length <= l.length:=by
    obtain ⟨t,ht⟩:=hs
    have:=congrArg List.length ht
    simp at this;omega
   unfold gS
   rw [h1]
   show fR l _ (5-j) (l.length+1) _ _=_
   have:=h3 (l.length-m+1)
   rw [show m+(l.length-m+1)=l.length+1 by omega] at this
   rw [this]
   unfold fR
   rw [if_neg]
   rintro ⟨h1,h2⟩
   exact hf ⟨h1,by omega⟩
 refine ⟨single,fun d k j hd hs hj h5 hf=>bin j d k hd hs hj h5 hf,fun d k j hd hs hj h5 hf=>?_⟩
 by_cases h6:5 <= aM e.op+j
 ·exact ⟨e,_,0,bin j d k hd hs (by omega) h6 hf,by omega,fun n=>by rw [Nat.zero_add]⟩
 exact step d k j hd hs hj (by omega) hf
end
end
section
def nmT(s:ByteArray):PT:=⟨1,s,0⟩
def nuT(n:Nat):PT:=⟨2,bytes (cO n),n⟩
def VX(e:aH):Prop:=VE e /\ dI e <= 24
inductive VR:cY -> Prop where
 |one (n:ByteArray) (h:bQ n=true):VR ⟨n,[]⟩
 |el (n:ByteArray) (e:aH) (h:bQ n=true) (he:VX e):VR ⟨n,[e]⟩
inductive VA:eN -> Prop where
 |mutex (r:cY) (h:VR r):VA ⟨true,r,.zero⟩
 |expr (e:aH) (h:VX e):VA ⟨false,.zero,e⟩
inductive VSs:Nat -> List aJ -> Prop where
 |nil {d:Nat}:VSs d []
 |var {d:Nat} {n:ByteArray} {e:aH} {r:List aJ} (hn:bQ n=true) (he:VX e) (h:VSs d r):VSs d (.mk 1 n e .zero [] [] []::r)
 |assign {d:Nat} {n:ByteArray} {e:aH} {r:List aJ} (hn:bQ n=true) (he:VX e) (h:VSs d r):VSs d (.mk 2 n e .zero [] [] []::r)
 |call {d:Nat} {n:ByteArray} {a:List eN} {r:List aJ} (hn:bQ n=true) (ha:∀x,x∈a -> VA x) (h:VSs d r):VSs d (.mk 3 n .zero .zero a [] []::r)
 |go {d:Nat} {n:ByteArray} {a:List eN} {r:List aJ} (hn:bQ n=true) (ha:∀x,x∈a -> VA x) (h:VSs d r):VSs d (.mk 4 n .zero .zero a [] []::r)
 |lock {d:Nat} {f:cY} {r:List aJ} (hf:VR f) (h:VSs d r):VSs d (.mk 5 aK .zero f [] [] []::r)
 |unlock {d:Nat} {f:cY} {r:List aJ} (hf:VR f) (h:VSs d r):VSs d (.mk 6 aK .zero f [] [] []::r)
 |cond {d:Nat} {e:aH} {t f r:List aJ} (he:VX e) (ht:VSs d t) (hf:VSs d f) (h:VSs (d+1) r):VSs (d+1) (.mk 7 aK e .zero [] t f::r)
 |loop {d:Nat} {e:aH} {t r:List aJ} (he:VX e) (ht:VSs d t) (h:VSs (d+1) r):VSs (d+1) (.mk 8 aK e .zero [] t []::r)
 |ret {d:Nat} {r:List aJ} (h:VSs d r):VSs d (.mk 9 aK .zero .zero [] [] []::r)
def hY(r:cY):List PT:=match r.index with|[]=>[nmT r.name]|e::_=>nmT r.name::sgn [91]::(aT e++[sgn [93]])
def wH(a:eN):List PT:=if a.mutex then wrd [109,117,116,101,120]::hY a.ref else aT a.expr
def fZ{α:Type}(f:α -> List PT):List α -> List PT
 |[]=>[]
 |x::r=>f x++(r.map fun y=>sgn [44]::f y).flatten
def iG(l:List eN):List PT:=sgn [40]::(fZ wH l++[sgn [41]])
mutual
def cE:aJ -> List PT
 |.mk kind name expr ref args thn els=>
  (if kind=1 then wrd [118,97,114]::nmT name::sgn [61]::(aT expr++[sgn [59]])
   else if kind=2 then nmT name::sgn [61]::(aT expr++[sgn [59]])
   else if kind=3 then nmT name::(iG args++[sgn [59]])
   else if kind=4 then wrd [103,111]::nmT name::(iG args++[sgn [59]])
   else if kind=5 then wrd [108,111,99,107]::(hY ref++[sgn [59]])
   else if kind=6 then wrd [117,110,108,111,99,107]::(hY ref++[sgn [59]])
   else if kind=7∨kind=8 then
    (if kind=8 then wrd [119,104,105,108,101] else wrd [105,102])::(aT expr++sgn [123]::(aQ thn++sgn [125]::
     (if els.length=0 then [] else wrd [101,108,115,101]::sgn [123]::(aQ els++[sgn [125]]))))
   else [wrd [114,101,116,117,114,110],sgn [59]])
def aQ:List aJ -> List PT
 |[]=>[]
 |s::r=>cE s++aQ r
end
section
variable {r:List UInt8}{ps:List PT}
end
section
variable {l:List Tok}{k:Nat}
theorem Seg.len{ps:List PT}(h:Seg l k ps)(hk:k <= l.length):k+ps.length <= l.length:=by
 obtain ⟨t,ht⟩:=h
 have:=congrArg List.length ht
 simp at this;omega
theorem xY{s:List UInt8}(h:(bU l k).pt=wrd s)(u:List UInt8):dN l k u=decide (bytes s=bytes u):=by
 have h1:(bU l k).kind=3:=congrArg PT.kind h
 have h2:(bU l k).text=bytes s:=congrArg PT.text h
 unfold dN;rw [h1,h2];simp
theorem yE{t:PT}(h:(bU l k).pt=t)(ht:t.kind≠3)(u:List UInt8):dN l k u=false:=by
 have h1:(bU l k).kind=t.kind:=congrArg PT.kind h
 unfold dN;rw [h1,decide_eq_false ht];rfl
end
end
section
section
variable {l:List Tok}
def aNb(t:PT):Prop:=t.kind=1∨∃s,t=wrd s /\ decide (bytes s=bytes [101,108,115,101])=false
theorem aNb.els{t:PT}{k:Nat}(h:aNb t)(ht:(bU l k).pt=t):dN l k [101,108,115,101]=false:=by
 rcases h with h|⟨u,rfl,hu⟩
 ·exact yE ht (by omega) _
 rw [xY ht];exact hu
theorem VSs.tail{d:Nat}{s:aJ}{r:List aJ}(h:VSs d (s::r)):VSs d r:=by cases h<;>assumption
end
end
section
inductive fF where
 |glob (g:aI)
 |mtx (m:cL)
 |fn (f:bS)
def VG(g:aI):Prop:=bQ g.name=true /\ g.init.natAbs <= 9223372036854775807
def VM(m:cL):Prop:=bQ m.name=true /\ 0 <= m.size /\ m.size <= 64 /\ (m.reentrant=true -> m.size=0)
def VF(f:bS):Prop:=bQ f.name=true /\ f.params.length <= 6 /\ (∀x,x∈f.params -> bQ x.name=true) /\ VSs 23 f.body
def fF.ok:fF -> Prop
 |.glob g=>VG g
 |.mtx m=>VM m
 |.fn f=>VF f
def fF.text:fF -> List UInt8
 |.glob g=>aU g
 |.mtx m=>bE m
 |.fn f=>funcText f
def bEr(g:aI):List PT:=wrd [118,97,114]::nmT g.name::((if g.init=0 then [] else sgn [61]::(if g.init<0 then [sgn [45],nuT g.init.natAbs] else [nuT g.init.natAbs]))++[sgn [59]])
def gT(m:cL):List PT:=(if m.reentrant then wrd [114,109,117,116,101,120] else wrd [109,117,116,101,120])::nmT m.name::((if 0<m.size then [sgn [91],nuT m.size.natAbs,sgn [93]] else [])++[sgn [59]])
def lQ(x:aS):List PT:=(if x.mutex then [wrd [109,117,116,101,120]] else [])++[nmT x.name]
def kA(f:bS):List PT:=wrd [102,117,110,99]::nmT f.name::sgn [40]::(fZ lQ f.params++sgn [41]::sgn [123]::(aQ f.body++[sgn [125]]))
def fF.toks:fF -> List PT
 |.glob g=>bEr g
 |.mtx m=>gT m
 |.fn f=>kA f
def fF.add(x:cK):fF -> cK
 |.glob g=>{x with globals:=x.globals++[g]}
 |.mtx m=>{x with mutexes:=x.mutexes++[m]}
 |.fn f=>{x with funcs:=x.funcs++[f]}
section
variable {r:List UInt8}{ps:List PT}
end
section
variable {l:List Tok}
end
end
section
def fit(n:Int):Prop:=-9223372036854775808 <= n /\ n <= 9223372036854775807
mutual
def aH.sane:aH -> Prop
 |.mk _ num name args=>fit num /\ name.size <= 4611686018427387904 /\ iI args
def iI:List aH -> Prop
 |[]=>True
 |e::es=>e.sane /\ iI es
end
def cY.sane(r:cY):Prop:=r.name.size <= 4611686018427387904 /\ iI r.index
def eN.sane(a:eN):Prop:=a.ref.sane /\ a.expr.sane
mutual
def aJ.sane:aJ -> Prop
 |.mk _ n e r args t el=>n.size <= 4611686018427387904 /\ e.sane /\ r.sane /\ (∀a,a∈args -> a.sane) /\ gC t /\ gC el
def gC:List aJ -> Prop
 |[]=>True
 |s::r=>s.sane /\ gC r
end
def bS.sane(f:bS):Prop:=f.name.size <= 4611686018427387904 /\ (∀x,x∈f.params -> x.name.size <= 4611686018427387904) /\ gC f.body
structure cK.sane (p:cK):Prop where
 globals:∀g,g∈p.globals -> fit g.init /\ g.name.size <= 4611686018427387904
 mutexes:∀m,m∈p.mutexes -> fit m.size /\ m.name.size <= 4611686018427387904
 funcs:∀f,f∈p.funcs -> f.sane
theorem mV:∀(l:List aH),iI l -> ∀e,e∈l -> e.sane
 |[],_,_,h=>by cases h
 |x::l,hs,e,h=>by
  rw [iI] at hs
  rcases mem_cons.1 h with rfl|h
  ·exact hs.1
  exact mV l hs.2 e h
end
section
theorem dV{s:ByteArray}(h:bQ s=true):s.size <= 16:=by
 unfold bQ at h
 split at h
 ·cases h
 simp only [Bool.and_eq_true,decide_eq_true_eq] at h;exact h.1.2
theorem eT.nodes{names:List ByteArray}{d:Nat}{e:aH}(h:eT names d e):e.nodes+3 <= 4*2 ^ d:=by
 induction h with
 |@name d x h=>rw [aH.nodes,cZ];have:=Nat.one_le_two_pow (n:=d);omega
 |@num d n h0 h1=>rw [aH.nodes,cZ];have:=Nat.one_le_two_pow (n:=d);omega
 |@un d op e ho he ih=>rw [aH.nodes,cZ,cZ,Nat.pow_succ];have:=Nat.one_le_two_pow (n:=d);omega
 |@bin d op a b h0 h1 ha hb iha ihb=>rw [aH.nodes,cZ,cZ,cZ,Nat.pow_succ];have:=Nat.one_le_two_pow (n:=d);omega
theorem sX{op:Int}(h0:5 <= op)(h1:op <= 17):aM op<5:=by
 unfold aM
 repeat' split
 all_goals omega
theorem aDj{op:Int}(h:op=3∨op=4):aM op=5:=by
 rcases h with rfl|rfl<;>rfl
theorem eT.shape{names:List ByteArray}{d:Nat}{e:aH}(hn:∀x,x∈names -> bQ x=true)(h:eT names d e):eO e=true:=by
 induction h with
 |@name d x h=>
  rw [eO,dY,show aM 2=6 from rfl,if_pos rfl,jG,arity,show aM 2=6 from rfl,if_pos rfl,hn x h];simp
 |@num d n h0 h1=>
  rw [eO,dY,show aM 1=6 from rfl,if_pos rfl,jG,arity,show aM 1=6 from rfl,if_pos rfl];simp [h0]
 |@un d op e ho he ih=>
  have hs:=aDj ho
  rw [eO,dY,dY,arity,hs,if_neg (by decide),if_neg (by decide),if_pos rfl,ih];simp
 |@bin d op a b h0 h1 ha hb iha ihb=>
  have hs:=sX h0 h1
  rw [eO,dY,dY,dY,arity,if_neg (by omega),if_neg (by omega),if_neg (by omega),iha,ihb];simp
theorem eT.height{names:List ByteArray}{d:Nat}{e:aH}(h:eT names d e):dI e <= 2*d:=by
 induction h with
 |@name d x h=>rw [dI,bSm,if_neg (by decide)];omega
 |@num d n h0 h1=>rw [dI,bSm,if_neg (by decide)];omega
 |@un d op e ho he ih=>rw [dI,bSm,bSm];split<;>split<;>omega
 |@bin d op a b h0 h1 ha hb iha ihb=>rw [dI,bSm,bSm,bSm];split<;>split<;>split<;>omega
theorem eT.valid{names:List ByteArray}{d:Nat}{e:aH}(hn:∀x,x∈names -> bQ x=true)(h:eT names d e)(hd:d <= 12):dM e=true:=by
 rw [dM,h.shape hn,Bool.true_and,decide_eq_true_eq];have:=h.height;omega
theorem eT.sane{names:List ByteArray}{d:Nat}{e:aH}(hn:∀x,x∈names -> bQ x=true)(h:eT names d e):e.sane:=by
 induction h with
 |@name d x h=>rw [aH.sane];exact ⟨by unfold fit;omega,Nat.le_trans (dV (hn x h)) (by decide),by rw [iI];trivial⟩
 |@num d n h0 h1=>rw [aH.sane];exact ⟨by unfold fit;omega,by decide,by rw [iI];trivial⟩
 |@un d op e ho he ih=>rw [aH.sane];exact ⟨by unfold fit;omega,by decide,by rw [iI,iI];exact ⟨ih,trivial⟩⟩
 |@bin d op a b h0 h1 ha hb iha ihb=>rw [aH.sane];exact ⟨by unfold fit;omega,by decide,by rw [iI,iI,iI];exact ⟨iha,ihb,trivial⟩⟩
theorem rQ{n:Int}(h0:-9223372036854775808 <= n)(h1:n <= 9223372036854775807):(eH n).length <= 21:=by
 have:=kC n.natAbs (by omega)
 unfold eH
 split<;>simp<;>omega
theorem eT.len{names:List ByteArray}{d:Nat}{e:aH}(hn:∀x,x∈names -> bQ x=true)(h:eT names d e):(aP e).length+10 <= 31*2 ^ d:=by
 induction h with
 |@name d x h=>
  have h1:=dV (hn x h)
  have h2:x.data.toList.length=x.size:=rfl
  rw [aP,iX,if_neg (by decide),if_pos rfl];have:=Nat.one_le_two_pow (n:=d);omega
 |@num d n h0 h1=>
  have:=rQ (n:=n) (by omega) (by omega)
  rw [aP,iX,if_pos rfl];have:=Nat.one_le_two_pow (n:=d);omega
 |@un d op e ho he ih=>
  rw [aP,dP,dP,Nat.pow_succ]
  have hl:∀x:List UInt8,(iX op 0 aK [x]).length=x.length+1:=by
   intro x;rcases ho with rfl|rfl<;>simp [iX]
  rw [hl]
  have:=Nat.one_le_two_pow (n:=d)
  split
  ·simp only [length_append,length_cons,length_nil];omega
  ·omega
 |@bin d op a b h0 h1 ha hb iha ihb=>
  rw [aP,dP,dP,dP,Nat.pow_succ]
  have hs:=sX h0 h1
  have ho:=aAr op
  have hl:∀x y:List UInt8,(iX op 0 aK [x,y]).length=x.length+1+(iW op).length+1+y.length:=by
   intro x y;rw [iX,if_neg (by omega),if_neg (by omega),if_neg (by omega),if_neg (by omega),if_pos hs];simp;omega
  rw [hl]
  split<;>split<;>(try simp only [length_append,length_cons,length_nil])<;>omega
end
section
open Go.RowKit
section
variable {P:Program}{U T:List Nat}{o:Oper}{n d:Nat}{bx:List Box}{rw:List bA}{ts:List (Nat×AT)}{K:AS -> Prop}{st:AS}{t:AT}
theorem aF2(w:World)(t ty e:TypeId)(i:TypeInfo)(size:Nat)(ht:P.underlying t=some (.slice e))(hi:P.info? e=some i)(v:Value)(n:Nat)(xs:List Value)(hown:w.ownsRow 0 e size v n xs)(b:Option Addr)(c:Nat):
  (Builtin.append_ #[t,t] ty #[v,.slice b 0 c]).run P w=.ok v w:=by
 have hl:∀a:Addr,(loadCells a 0).run P w=.ok #[] w:=fun a=>run_loadCells_list (P:=P) w a [] (fun j v hj=>by simp at hj)
 rcases hown.2 with ⟨rfl,rfl⟩|⟨g,cap,cur,rfl,_,_,hnc,_⟩
 ·cases b<;>simp [Builtin.append_,run_underlying ht,sizeOf,typeInfo,hi,Builtin.lenOf,Builtin.firstCells,hl]
 cases b<;>simp [Builtin.append_,run_underlying ht,sizeOf,typeInfo,hi,Builtin.lenOf,Builtin.firstCells,hnc,storeCells,hl]
theorem aAk{t e:TypeId}{x y:Operand}{z k:Nat}{v:Value}{cs:List AC}{i:TypeInfo}(A:List bA){B:List bA}(ho:o.op=.call {callee:=.builtin .append,args:=#[x,y],argTypes:=#[t,t]})(hd:o.dst=some d)(hn:d<n)
  (hx:evA ⟨n,T,⟨bx,A++⟨v,e,z,k,cs⟩::B⟩,ts⟩ x=some (.c (.val v))) (hy:∀a w,Sim ⟨n,T,⟨bx,A++⟨v,e,z,k,cs⟩::B⟩,ts⟩ a w -> ∃b c,a.eval y=.slice b 0 c) (hu:P.underlying t=some (.slice e)) (hi:P.info? e=some i) (hT:∀b,b∈aY v -> b∈T) (h0:0<z)
  (h:K ⟨n,aY v++T,⟨bx,A++⟨v,e,z,k,cs⟩::B⟩,(d,.c (.val v))::ts⟩):AO P U o ⟨n,T,⟨bx,A++⟨v,e,z,k,cs⟩::B⟩,ts⟩ K:=by
 intro a w hs KK QQ hK
 obtain ⟨us,hownR,hrep⟩:=hs.mem.row ⟨v,e,z,k,cs⟩ (by simp)
 have hown:=hownR.row h0
 obtain ⟨b,c,hyv⟩:=hy a w hs
 have hr:=aF2 (P:=P) w t o.type e i z hu hi v k us hown b c
 have s2:=hs.step (w1:=w) (aY v++T) (cW.refl _ _) hs.mem (fun b hb=>.inl hb)
 have h1c:v.oneCell'=true:=by obtain ⟨_,_,he⟩:=lR hown;dsimp only at he;rw [he];rfl
 have hxv:=hs.val hx
 have goal:KK (a.put o.dst v) w:=by
  rw [hd]
  refine hK _ _ _ h (s2.put (v:=v) hn (.c _ _ (.val _ h1c))) ⟨cW.refl _ _,cW.refl _ _,fun b hb=>.inl hb,fun g hg=>?_⟩ (cW.refl _ _)
  rcases mem_append.1 hg with hg|hg
  ·exact .inl (hT g hg)
  exact .inl hg
 unfold Oper.wp execOp
 simp only [ho,resolve,invoke,builtin,Sem.run_bind,Sem.run_pure,Result.andThen_ok,List.map_toArray,List.map_cons,List.map_nil,hxv,hyv,hr]
 exact goal
theorem jU{E e:TypeId}{x y:Operand}{k m z:Nat}{v zv:Value}{cs ds r:List AC}(A:List bA)(i:TypeInfo)(bytes:Nat){B:List bA}(ho:o.op=.call {callee:=.builtin .append,args:=#[x,y],argTypes:=#[E,E]})(hd:o.dst=some d)(hn:d<n)
  (hx:evA ⟨n,T,⟨bx,A++⟨v,e,z,k,cs⟩::B⟩,ts⟩ x=some (.c (.val v))) (hy:evA ⟨n,T,⟨bx,A++⟨v,e,z,k,cs⟩::B⟩,ts⟩ y=some (.c (.sl m ds))) (hu:P.underlying E=some (.slice e)) (hi:P.info? e=some i) (hz:i.zero=some zv) (hsz:i.size=z) (hby:i.bytes=bytes) (hzs:zv.cells.size=z) (h0:0<z)
  (hm:ds.length=m*z) (hlen:k+m <= maxLen) (hbytes:(k+m)*bytes <= 140737488355328) {N:Nat} (hN:k+m=N) (hU:(⟨bx,A++⟨v,e,z,k,cs⟩::B⟩:Sto).bl.Nodup -> ∀b,b∈aY v -> b∈U) (hT:∀b,b∈aY v -> b∈T) (hr:cs++ds=r)
  (h:∀v',K ⟨n,aY v'++T,⟨bx,A++⟨v',e,z,N,r⟩::B⟩,(d,.c (.val v'))::ts⟩):AO P U o ⟨n,T,⟨bx,A++⟨v,e,z,k,cs⟩::B⟩,ts⟩ K:=by
 rcases Nat.eq_zero_or_pos m with rfl|hm0
 ·have hds:ds=[]:=List.eq_nil_of_length_eq_zero (by rw [hm,Nat.zero_mul])
  subst hds;subst hr;subst hN
  refine aAk A ho hd hn hx (fun a w hs=>?_) hu hi hT h0 ?_
  ·obtain ⟨p,cap,hv,-⟩:=aI0 (hs.ev hy);exact ⟨p,cap,hv⟩
  have:=h v;rw [List.append_nil,Nat.add_zero] at this;exact this
 subst hr;subst hN
 exact aBj A ho hd hn hx rfl hy hu hi hz hsz hby hzs h0 hm hm0 hlen hbytes hU hT h
end
theorem aG8{w:World}{u v:Value}(h:Rep w (.val v) u):u=v:=by cases h;rfl
theorem cK8{U:List Nat}{o:Oper}{st:AS}{x:Operand}{t:List UInt8}{k:Nat}(ho:o.op=.convert 46 9 x)(hx:evA st x=some (.c (.sl k (iF t))))(hk:k=t.length):AY prog U o st (.c (.val (.string (bytes t)))):=by
 subst hk
 intro a w hs hU
 refine ⟨_,.c _ _ (.val _ rfl),fun w' hkp=>?_⟩
 have hv:=hs.ev hx
 generalize hxe:a.eval x=v at hv
 cases hv with
 |c _ _ hv=>cases hv with
  |sl _ _ us _ hr hl hh hc=>
   obtain ⟨p,cap,rfl,hcap,hr⟩:=hr
   have hus:us=cC t:=by
    refine List.ext_getElem (by rw [hl];simp [iF,cC]) fun j h1 h2=>?_
    have h3:=hh j (by simpa [iF,cC] using h2) h1
    have h4:(iF t)[j]'(by simpa [iF,cC] using h2)=.val (cC t)[j]:=by simp [iF,cC]
    rw [h4] at h3;exact aG8 h3
   subst hus
   have hcv:=zN t p cap w' (by
    rcases hr with h0|⟨b,off,rfl,hr⟩
    ·exact .inl h0
    refine .inr ⟨b,off,rfl,fun j u hj=>?_⟩
    obtain ⟨h4,h5⟩:=hI (hr j u hj)
    rw [hkp.cell (gV h4) (fun hm=>h5 (hU _ hm))];exact h4)
   simp only [execOp,ho,Sem.run_bind,hxe]
   rw [hcv];rfl
instance aRs{P:Program}{U T:List Nat}{n N:Nat}{ts:List (Nat×AT)}{t:AT}{g:Prop}{K:AS -> Prop}{E T0:TypeId}{x y:Operand}{ty:TypeId}{pos:String}{af:Array Edge}{gd:Option (Nat×Bool)}{b off z:Nat}{cs ds r:List AC}{ag:Bool}{bx A B:List Box}{rw:List bA}[h1:Ev ts x (.c (.val (.pointer (some ⟨b,off,none⟩))))][h2:Ev ts y t][h3:rF t ds][h4:lY bx b A T0 cs B][h5:TY P E ag z][h6:Spl cs off ds z r]{bx2:List Box}[h7:aNc bx rw T U b][h8:aDk A (⟨b,T0,r⟩::B) bx2][h:Go1 N (K ⟨n,T,⟨bx2,rw⟩,ts⟩) g]:Go1 (N+1) (AO P U ⟨none,.store E x y,ty,pos,af,gd⟩ ⟨n,T,⟨bx,rw⟩,ts⟩ K) g:=⟨fun k=>
 zQ A rfl rfl (h1.h _ _ _) (h2.h _ _ _) h3.h h4.h h5.h.2 h6.h.2.2 h6.h.2.1 h6.h.1 h7.h.1 h7.h.2 (by rw [h8.h];exact h.out k)⟩
end
section
open Go.RowKit
theorem Mem.setRowR{s:Sto}{w:World}{A B:List bA}{g cap k z:Nat}{E:TypeId}{cs ds:List AC}{cur cur':Array Value}{us':List Value}(h:Mem s w)(hb:s.rows=A++⟨.slice (some ⟨g,0,none⟩) k cap,E,z,k,cs⟩::B)(h1:w.heap[g]?=some (.cells cur E (0,0)))(hr:fG (bI s.bl w) ds us')
  (hkc:k <= cap) (hcm:cap <= maxLen) (hsz:cur'.size=cap*z) (htk:cur'.toList.take (k*z)=us') (hlen:us'.length=k*z):
  Mem ⟨s.boxes,A++⟨.slice (some ⟨g,0,none⟩) k cap,E,z,k,ds⟩::B⟩ (w.setRow g cur'):=by
 have hbl:(⟨s.boxes,A++⟨.slice (some ⟨g,0,none⟩) k cap,E,z,k,ds⟩::B⟩:Sto).bl=s.bl:=by unfold Sto.bl;rw [hb];simp
 have hmem:g∈s.bl:=by unfold Sto.bl;rw [hb];simp [aY,Value.ownBlock]
 have hk:=oI w g cur'
 have hu:Up2 (bI s.bl w) (bI s.bl (w.setRow g cur')):=jA hk (fun x hx=>by simp at hx;subst hx;exact hmem) (fun x hx=>.inl hx)
 have hnd:=h.nodup
 have hg:g∈aY (.slice (some ⟨g,0,none⟩) k cap):=by simp [aY,Value.ownBlock]
 have hnd2:(s.boxes.map Box.b++(A.flatMap (fun r=>aY r.v)++(aY (.slice (some ⟨g,0,none⟩) k cap)++B.flatMap fun r=>aY r.v))).Nodup:=by
  have:=hnd;unfold Sto.bl at this;rw [hb] at this;simpa using this
 have hbox:∀x,x∈s.boxes -> x.b≠g:=fun x hx he=>(List.nodup_append.1 hnd2).2.2 x.b (List.mem_map.2 ⟨x,hx,rfl⟩) g (by simp [hg]) he
 have hrow:∀r,r∈A∨r∈B -> g∉aY r.v:=by
  intro r hr hm
  have h2:=(List.nodup_append.1 hnd2).2.1
  rcases hr with hr|hr
  ·exact (List.nodup_append.1 h2).2.2 g (List.mem_flatMap.2 ⟨r,hr,hm⟩) g (List.mem_append_left _ hg) rfl
  exact (List.nodup_append.1 (List.nodup_append.1 h2).2.1).2.2 g hg g (List.mem_flatMap.2 ⟨r,hr,hm⟩) rfl
 refine ⟨by rw [hbl];exact hnd,fun x hx=>by rw [hbl] at hx;exact Nat.lt_of_lt_of_le (h.lt x hx) hk.size,fun x hx=>?_,fun r hr2=>?_⟩
 ·rw [hbl]
  obtain ⟨us,e1,e2⟩:=h.box x hx
  exact ⟨us,by rw [hk.block _ (h.lt _ (List.mem_append_left _ (List.mem_map.2 ⟨x,hx,rfl⟩))) (by simp;exact hbox x hx)];exact e1,e2.mono hu⟩
 rw [hbl]
 have old:r∈A∨r∈B -> ∃us,bWg (w.setRow g cur') r us /\ fG (bI s.bl (w.setRow g cur')) r.cs us:=fun hr=>by
  have hr3:r∈s.rows:=by rw [hb];simp only [mem_append,mem_cons];rcases hr with h|h;exact .inl h;exact .inr (.inr h)
  obtain ⟨us,e1,e2⟩:=h.row r hr3
  exact ⟨us,e1.keep fun q hq=>hk.block q (h.lt q (List.mem_append_right _ (List.mem_flatMap.2 ⟨r,hr3,hq⟩))) (by simp;intro he;subst he;exact hrow r hr hq),e2.mono hu⟩
 simp only [mem_append,mem_cons] at hr2
 rcases hr2 with hr2|rfl|hr2
 ·exact old (.inl hr2)
 ·exact ⟨us',.inl ⟨hlen,.inr ⟨g,cap,cur',rfl,Nat.zero_le _,setRow_heap w g cur _ E (0,0) h1,hkc,hcm,hsz,htk⟩⟩,hr.mono hu⟩
 exact old (.inr hr2)
theorem aCy{P:Program}{U:List Nat}{o:Oper}{st:AS}{K:AS -> Prop}{ty E:TypeId}{x y:Operand}{g off z zz k cap:Nat}{cs ds r:List AC}{t:AT}(A:List bA){B:List bA}(ho:o.op=.store ty x y)(hd:o.dst=none)(hx:evA st x=some (.c (.val (.pointer (some ⟨g,off,none⟩)))))(hy:evA st y=some t)(hc:jL t=some ds)
  (hb:st.s.rows=A++⟨.slice (some ⟨g,0,none⟩) k cap,E,zz,k,cs⟩::B) (hS:∀w,(sizeOf ty).run P w=.ok z w) (hz:ds.length=z) (hl:off+z <= cs.length) (hr:splice cs off ds=r) (hT:g∈st.T) (hU:st.s.bl.Nodup -> g∈U)
  (h:K {st with s:=⟨st.s.boxes,A++⟨.slice (some ⟨g,0,none⟩) k cap,E,zz,k,r⟩::B⟩}):AO P U o st K:=by
 intro a w hs KK QQ hK
 subst hr
 have hmem:(⟨.slice (some ⟨g,0,none⟩) k cap,E,zz,k,cs⟩:bA)∈st.s.rows:=by rw [hb];simp
 obtain ⟨us,hownR,h2⟩:=hs.mem.row _ hmem
 obtain ⟨h0,h1⟩:=hownR.row0 rfl
 rcases h1 with ⟨h1,-⟩|⟨g',cap',cur,hv,-,hh,hkc,hcm,hcs,htk⟩
 ·cases h1
 cases hv
 dsimp only at h0 hh hkc hcs htk
 have hv:=mU hc (hs.ev hy)
 have hlen:=hv.len
 have hl2:us.length=cs.length:=h2.len
 have hle:k*zz <= cur.size:=by rw [hcs];exact Nat.mul_le_mul_right _ hkc
 have hbl:(⟨st.s.boxes,A++⟨.slice (some ⟨g,0,none⟩) k cap,E,zz,k,splice cs off ds⟩::B⟩:Sto).bl=st.s.bl:=by unfold Sto.bl;rw [hb];simp
 have hbm:g∈st.s.bl:=by unfold Sto.bl;rw [hb];simp [aY,Value.ownBlock]
 generalize hvs:(a.eval y).cells.toList=vs at hv hlen
 have hst:=run_storeCells_at (P:=P) g off E vs 0 cur w hh (by omega) hv.one
 simp only [Nat.add_zero] at hst
 have hk:=oI w g (cur.toList.take off++vs++cur.toList.drop (off+vs.length)).toArray
 unfold Oper.wp
 have hrun:(execOp a.eval o).run P w=.ok .skip (w.setRow g (cur.toList.take off++vs++cur.toList.drop (off+vs.length)).toArray):=by
  have hsz:(a.eval y).cells.size=z:=by rw [←Array.length_toList,hvs,hlen,hz]
  simp only [execOp,ho,hs.val hx,Instr.storeAt,Instr.sureAddr,storeVar,Sem.run_bind,Sem.run_pure,Result.andThen_ok,hS,hsz,ne_eq,not_true_eq_false,if_false,hvs]
  rw [hst];rfl
 rw [hrun,Oper.upon_skip,hd]
 have htk2:(cur.toList.take off++vs++cur.toList.drop (off+vs.length)).take (k*zz)=us.take off++vs++us.drop (off+vs.length):=by
  subst htk
  refine List.ext_getElem? fun j=>?_
  rw [List.getElem?_take]
  by_cases hj:j<k*zz
  ·rw [if_pos hj]
   simp only [List.getElem?_append,length_append,List.length_take,Array.length_toList,List.getElem?_take,List.getElem?_drop]
   repeat' split
   all_goals first|rfl|omega|(congr 1;omega)|skip
  rw [if_neg hj,List.getElem?_eq_none]
  simp only [length_append,List.length_take,List.length_drop,Array.length_toList]
  omega
 have hm:=hs.mem.setRowR (cur':=(cur.toList.take off++vs++cur.toList.drop (off+vs.length)).toArray) hb hh (h2.splice hv off) hkc hcm (by simp only [List.size_toArray,length_append,List.length_take,List.length_drop,Array.length_toList];omega) htk2 (by simp only [length_append,List.length_take,List.length_drop];omega)
 refine hK _ _ _ h (hs.step st.T (hk.mono (by simp;exact hbm)) hm (fun x hx=>.inl (by rw [hbl] at hx;exact hx))) ⟨hk.mono (by simp;exact hbm),hk.mono (by simp;exact hT),fun x hx=>.inl (by rw [hbl] at hx;exact hx),fun x hx=>.inl hx⟩ (hk.mono (by simp;exact hU hs.mem.nodup))
section
variable {P:Program}{ops:Array Oper}{Z T:List Nat}{o:Oper}{n:Nat}{s:Sto}{ts:List (Nat×AT)}{K:AS -> Prop}{bx:List Box}{rw:List bA}{Q:Exit -> AS -> Prop}{l:List Oper}
end
theorem aO0{P:Program}{U T:List Nat}{o:Oper}{n:Nat}{bx:List Box}{ts:List (Nat×AT)}{K:AS -> Prop}{ty E:TypeId}{x y:Operand}{g off z zz k cap:Nat}{cs ds r:List AC}{t:AT}(A:List bA){B:List bA}(ho:o.op=.store ty x y)(hd:o.dst=none)(hx:evA ⟨n,T,⟨bx,A++⟨.slice (some ⟨g,0,none⟩) k cap,E,zz,k,cs⟩::B⟩,ts⟩ x=some (.c (.val (.pointer (some ⟨g,off,none⟩)))))(hy:evA ⟨n,T,⟨bx,A++⟨.slice (some ⟨g,0,none⟩) k cap,E,zz,k,cs⟩::B⟩,ts⟩ y=some t)(hc:jL t=some ds)
  (hS:∀w,(sizeOf ty).run P w=.ok z w) (hz:ds.length=z) (hl:off+z <= cs.length) (hr:splice cs off ds=r) (hT:g∈T) (hU:(⟨bx,A++⟨.slice (some ⟨g,0,none⟩) k cap,E,zz,k,cs⟩::B⟩:Sto).bl.Nodup -> g∈U)
  (h:K ⟨n,T,⟨bx,A++⟨.slice (some ⟨g,0,none⟩) k cap,E,zz,k,r⟩::B⟩,ts⟩):AO P U o ⟨n,T,⟨bx,A++⟨.slice (some ⟨g,0,none⟩) k cap,E,zz,k,cs⟩::B⟩,ts⟩ K:=aCy A ho hd hx hy hc rfl hS hz hl hr hT hU h
end
end Go.Proofs.YtbdfdjdgfanjaaaDoor
