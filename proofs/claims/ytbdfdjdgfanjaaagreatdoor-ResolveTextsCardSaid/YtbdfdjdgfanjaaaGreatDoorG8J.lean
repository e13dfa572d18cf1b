import Derived.Test.YtbdfdjdgfanjaaaGreatDoorM0J
import Derived.Test.YtbdfdjdgfanjaaaGreatDoorG7J
import Derived.Test.YtbdfdjdgfanjaaaGreatDoorG1J
import Derived.Test.YtbdfdjdgfanjaaaGreatDoorG6J
import Derived.Test.YtbdfdjdgfanjaaaGreatDoorG3J
set_option linter.all false
set_option synthInstance.maxHeartbeats 1000000
set_option synthInstance.maxSize 1000000
set_option maxHeartbeats 1600000
set_option maxRecDepth 100000
namespace Go.Proofs.YtbdfdjdgfanjaaaGreatDoor
open Go.Proofs.Tryz
open List (length_append length_cons length_nil mem_append mem_cons not_mem_nil append_assoc getElem_mem take_of_length_le)
section
inductive fF where
 |glob (g:aI)
 |mtx (m:cL)
 |fn (f:bS)
def VG(g:aI):Prop:=bQ g.name=true /\ g.init.natAbs <= 9223372036854775807
def VM(m:cL):Prop:=bQ m.name=true /\ 0 <= m.size /\ m.size <= 64 /\ (m.reentrant=true -> m.size=0)
def VF(f:bS):Prop:=bQ f.name=true /\ f.params.length <= 6 /\ (∀x,x∈f.params -> bQ x.name=true) /\ VSs 23 f.body
def fF.ok:fF -> Prop
 |.glob g=>VG g
 |.mtx m=>VM m
 |.fn f=>VF f
def fF.text:fF -> List UInt8
 |.glob g=>aU g
 |.mtx m=>bE m
 |.fn f=>funcText f
def bEr(g:aI):List PT:=wrd [118,97,114]::nmT g.name::((if g.init=0 then [] else sgn [61]::(if g.init<0 then [sgn [45],nuT g.init.natAbs] else [nuT g.init.natAbs]))++[sgn [59]])
def gT(m:cL):List PT:=(if m.reentrant then wrd [114,109,117,116,101,120] else wrd [109,117,116,101,120])::nmT m.name::((if 0<m.size then [sgn [91],nuT m.size.natAbs,sgn [93]] else [])++[sgn [59]])
def lQ(x:aS):List PT:=(if x.mutex then [wrd [109,117,116,101,120]] else [])++[nmT x.name]
def kA(f:bS):List PT:=wrd [102,117,110,99]::nmT f.name::sgn [40]::(fZ lQ f.params++sgn [41]::sgn [123]::(aQ f.body++[sgn [125]]))
def fF.toks:fF -> List PT
 |.glob g=>bEr g
 |.mtx m=>gT m
 |.fn f=>kA f
def fF.add(x:cK):fF -> cK
 |.glob g=>{x with globals:=x.globals++[g]}
 |.mtx m=>{x with mutexes:=x.mutexes++[m]}
 |.fn f=>{x with funcs:=x.funcs++[f]}
section
variable {r:List UInt8}{ps:List PT}
end
section
variable {l:List Tok}
theorem aFa{x:aS}(h:bQ x.name=true){n k:Nat}{s:List UInt8}{q:List PT}(hn:n<6)(hs:Seg l k (lQ x++sgn s::q)):fQ l n k=.ok x (k+(lQ x).length):=by
 obtain ⟨nm,mu⟩:=x
 unfold fQ
 rw [if_neg (λhh=>J)]
 cases mu with
 |true=>
  have hs':Seg l k (wrd [109,117,116,101,120]::nmT nm::sgn s::q):=hs
  obtain ⟨h1,_,h2⟩:=hs'.head
  rw [if_pos (gI h1),jH h2.head.1]
  rfl
 |false=>
  have hs':Seg l k (nmT nm::sgn s::q):=hs
  rw [if_neg (wM hs'.head.1 _),jH hs'.head.1]
  rfl
theorem VG.parse{g:aI}{k:Nat}{q:List PT}(hs:Seg l k (bEr g++q)):mP l (k+1)=.ok g (k+(bEr g).length):=by
 obtain ⟨nm,i⟩:=g
 unfold bEr at hs⊢
 simp only at hs⊢
 obtain ⟨h1,_,h2⟩:=hs.head
 obtain ⟨h3,_,h4⟩:=h2.head
 unfold mP
 rw [jH h3,bind_ok]
 by_cases h0:i=0
 ·rw [if_pos h0] at h4⊢
  have h5:Seg l (k+1+1) (sgn [59]::q):=h4
  rw [if_neg (by rw [gK h5.head.1];decide),iV h5.head.1,bind_ok,h0]
  rfl
 rw [if_neg h0] at h4⊢
 by_cases hn:i<0
 ·rw [if_pos hn] at h4⊢
  have h5:Seg l (k+1+1) (sgn [61]::sgn [45]::nuT i.natAbs::sgn [59]::q):=h4
  obtain ⟨h6,_,h7⟩:=h5.head
  obtain ⟨h8,_,h9⟩:=h7.head
  obtain ⟨h10,_,h11⟩:=h9.head
  rw [if_pos (jY h6),if_pos (jY h8),aDu h10,bind_ok,iV h11.head.1,bind_ok]
  rw [show -((i.natAbs:Nat):Int)=i by omega]
  rfl
 rw [if_neg hn] at h4⊢
 have h5:Seg l (k+1+1) (sgn [61]::nuT i.natAbs::sgn [59]::q):=h4
 obtain ⟨h6,_,h7⟩:=h5.head
 obtain ⟨h8,_,h9⟩:=h7.head
 rw [if_pos (jY h6),if_neg (by rw [sQ h8 (by show (2:Nat)≠4;omega)];simp),aDu h8,bind_ok,iV h9.head.1,bind_ok]
 rw [show ((i.natAbs:Nat):Int)=i by omega]
 rfl
theorem VM.parse{m:cL}(h:VM m){k:Nat}{q:List PT}(hs:Seg l k (gT m++q)):nE l m.reentrant (k+1)=.ok m (k+(gT m).length):=by
 obtain ⟨nm,re,sz⟩:=m
 obtain ⟨_,g0,g1,g2⟩:=h
 simp only at g0 g1 g2
 unfold gT at hs⊢
 simp only at hs⊢
 obtain ⟨h1,_,h2⟩:=hs.head
 obtain ⟨h3,_,h4⟩:=h2.head
 unfold nE
 rw [jH h3,bind_ok]
 by_cases h0:0<sz
 ·have hre:re=false:=by
   cases re with
   |false=>rfl
   |true=>have:=g2 rfl;omega
  rw [if_pos h0] at h4⊢
  have h5:Seg l (k+1+1) (sgn [91]::nuT sz.natAbs::sgn [93]::sgn [59]::q):=h4
  obtain ⟨h6,_,h7⟩:=h5.head
  obtain ⟨h8,_,h9⟩:=h7.head
  obtain ⟨h10,_,h11⟩:=h9.head
  rw [if_pos ⟨hre,jY h6⟩]
  unfold qX
  rw [aDu h8,bind_ok,if_neg J,bind_ok,iV h10,bind_ok,iV h11.head.1,bind_ok]
  rw [show ((sz.natAbs:Nat):Int)=sz by omega]
  rfl
 ·rw [if_neg h0] at h4⊢
  have h5:Seg l (k+1+1) (sgn [59]::q):=h4
  rw [if_neg (λhh=>by rw [gK h5.head.1] at hh;exact absurd hh.2 V),iV h5.head.1,bind_ok]
  rw [show sz=0 by omega]
  rfl
theorem VF.parse{f:bS}(h:VF f){k:Nat}{q:List PT}(hk:k <= l.length)(hs:Seg l k (kA f++q)):sW l (k+1)=.ok f (k+(kA f).length):=by
 obtain ⟨nm,pa,bd⟩:=f
 obtain ⟨_,g0,g1,g2⟩:=h
 simp only at g0 g1 g2
 have hlen:=hs.app.1.len hk
 unfold kA at hs hlen⊢
 simp only at hs hlen⊢
 obtain ⟨h1,hk1,h2⟩:=hs.head
 obtain ⟨h3,hk2,h4⟩:=h2.head
 have h4':Seg l (k+1+1) (sgn [40]::(fZ lQ pa++sgn [41]::(sgn [123]::(aQ bd++sgn [125]::q)))):=F9
 unfold sW
 rw [jH h3,bind_ok,vN (f:=lQ) pa (k+1+1) _ J h4' (λx hx=>by
  unfold lQ
  cases x.mutex with
  |true=>exact ⟨_,_,rfl,.inl rfl⟩
  |false=>exact ⟨_,_,rfl,.inr (.inl rfl)⟩) (λi hi k s q _ hs=>aFa (g1 _ (getElem_mem hi)) J hs),bind_ok]
 have h5:=h4'.head.2.2.app.2.head.2.2
 simp at hlen
 rw [show k+1+1+(fZ lQ pa).length+2=k+1+1+1+(fZ lQ pa).length+1 by omega]
 rw [xI 23 bd _ q g2 J h5,bind_ok]
 simp;omega
def gN:List fF -> Nat
 |[]=>0
 |.glob _::r=>gN r+1
 |_::r=>gN r
def mN:List fF -> Nat
 |[]=>0
 |.mtx _::r=>mN r+1
 |_::r=>mN r
def fN:List fF -> Nat
 |[]=>0
 |.fn _::r=>fN r+1
 |_::r=>fN r
theorem aD6(x:fF):∃s q,x.toks=wrd s::q:=by
 cases x with
 |glob g=>exact ⟨_,_,rfl⟩
 |fn f=>exact ⟨_,_,rfl⟩
 |mtx m=>
  show ∃s q,gT m=wrd s::q
  unfold gT
  cases m.reentrant<;>exact ⟨_,_,rfl⟩
theorem aGi{d:fF}{x:cK}(h:d.ok){k:Nat}{q:List PT}(hk:k <= l.length)(hs:Seg l k (d.toks++q))(hg:x.globals.length+gN [d] <= 16)(hm:x.mutexes.length+mN [d] <= 12)(hf:x.funcs.length+fN [d] <= 16):gR l x k=.ok (d.add x) (k+d.toks.length):=by
 cases d with
 |glob g=>
  simp only [gN] at hg
  have h1:Seg l k (bEr g++q):=hs
  have hw:(bU l k).pt=wrd [118,97,114]:=h1.head.1
  unfold gR
  rw [if_pos (gI hw),if_neg J,VG.parse h1,bind_ok]
  rfl
 |mtx m=>
  simp only [mN] at hm
  have h1:Seg l k (gT m++q):=hs
  have h2:=VM.parse h h1
  unfold gR
  cases hre:m.reentrant with
  |true=>
   have hw:(bU l k).pt=wrd [114,109,117,116,101,120]:=by
    have:=h1.head.1
    rw [hre] at this;exact this
   rw [hre] at h2
   rw [if_neg (cG hw V),if_neg (cG hw V),if_pos (gI hw),if_neg J,h2,bind_ok]
   rfl
  |false=>
   have hw:(bU l k).pt=wrd [109,117,116,101,120]:=by
    have:=h1.head.1
    rw [hre] at this;exact this
   rw [hre] at h2
   rw [if_neg (cG hw V),if_pos (gI hw),if_neg J,h2,bind_ok]
   rfl
 |fn f=>
  simp only [fN] at hf
  have h1:Seg l k (kA f++q):=hs
  have hw:(bU l k).pt=wrd [102,117,110,99]:=h1.head.1
  unfold gR
  rw [if_neg (cG hw V),if_neg (cG hw V),if_neg (cG hw V),if_pos (gI hw),if_neg J,VF.parse h hk h1,bind_ok]
  rfl
theorem vZ(d:fF)(ds:List fF):gN (d::ds)=gN [d]+gN ds /\ mN (d::ds)=mN [d]+mN ds /\ fN (d::ds)=fN [d]+fN ds:=by
 cases d<;>simp [gN,mN,fN]<;>omega
theorem aMg(d:fF)(x:cK):(d.add x).globals.length=x.globals.length+gN [d] /\ (d.add x).mutexes.length=x.mutexes.length+mN [d] /\ (d.add x).funcs.length=x.funcs.length+fN [d]:=by
 cases d<;>simp [fF.add,gN,mN,fN]
theorem yX:∀(ds:List fF)(x:cK)(n k:Nat),(∀d,d∈ds -> d.ok) -> ds.length<n -> k <= l.length -> Seg l k ((ds.map fF.toks).flatten++[aAa]) -> x.globals.length+gN ds <= 16 -> x.mutexes.length+mN ds <= 12 -> x.funcs.length+fN ds <= 16 -> lK l n x k=.ok (ds.foldl fF.add x) (k+(ds.map fF.toks).flatten.length)
 |[],x,n,k,_,hn,_,hs,_,_,_=>by
  obtain ⟨n,rfl⟩:∃n',n=n'+1:=⟨n-1,F3⟩
  have hs':Seg l k [aAa]:=hs
  have h1:(bU l k).kind=5:=congrArg PT.kind hs'.head.1
  unfold lK
  rw [if_pos h1]
  rfl
 |d::ds,x,n,k,h,hn,hk,hs,hg,hm,hf=>by
  obtain ⟨n,rfl⟩:∃n',n=n'+1:=⟨n-1,F3⟩
  have hs':Seg l k (d.toks++((ds.map fF.toks).flatten++[aAa])):=F5
  obtain ⟨s,q,hb⟩:=aD6 d
  have h1:(bU l k).kind=3:=by
   have h2:=hs'
   rw [hb] at h2
   exact congrArg PT.kind h2.head.1
  obtain ⟨n1,n2,n3⟩:=vZ d ds
  obtain ⟨m1,m2,m3⟩:=aMg d x
  have hlen:=hs'.app.1.len hk
  unfold lK
  rw [if_neg J,aGi (h d (List.mem_cons_self ..)) hk hs' J J J,bind_ok]
  rw [yX ds _ n _ (λy hy=>h y (List.mem_cons_of_mem _ hy)) F3 hlen hs'.app.2 J J J]
  simp;omega
end
def iA(p:cK):List fF:=p.globals.map .glob++(p.mutexes.map .mtx++p.funcs.map .fn)
theorem aG5(l:List aI):∀(x:cK),(l.map fF.glob).foldl fF.add x={x with globals:=x.globals++l}:=by
 induction l with
 |nil=>intro x;simp
 |cons a r ih=>intro x;rw [List.map_cons,List.foldl_cons,ih];simp [fF.add]
theorem aKl(l:List cL):∀(x:cK),(l.map fF.mtx).foldl fF.add x={x with mutexes:=x.mutexes++l}:=by
 induction l with
 |nil=>intro x;simp
 |cons a r ih=>intro x;rw [List.map_cons,List.foldl_cons,ih];simp [fF.add]
theorem aNx(l:List bS):∀(x:cK),(l.map fF.fn).foldl fF.add x={x with funcs:=x.funcs++l}:=by
 induction l with
 |nil=>intro x;simp
 |cons a r ih=>intro x;rw [List.map_cons,List.foldl_cons,ih];simp [fF.add]
theorem aD7(a b:List fF):gN (a++b)=gN a+gN b /\ mN (a++b)=mN a+mN b /\ fN (a++b)=fN a+fN b:=by
 induction a with
 |nil=>simp [gN,mN,fN]
 |cons x a ih=>
  obtain ⟨h1,h2,h3⟩:=ih
  obtain ⟨a1,a2,a3⟩:=vZ x (a++b)
  obtain ⟨b1,b2,b3⟩:=vZ x a
  rw [List.cons_append]
  omega
theorem aLo(gs:List aI)(ms:List cL)(fs:List bS):(gN (gs.map .glob)=gs.length /\ mN (gs.map .glob)=0 /\ fN (gs.map .glob)=0) /\ (gN (ms.map .mtx)=0 /\ mN (ms.map .mtx)=ms.length /\ fN (ms.map .mtx)=0) /\ (gN (fs.map .fn)=0 /\ mN (fs.map .fn)=0 /\ fN (fs.map .fn)=fs.length):=by
 refine ⟨?_,?_,?_⟩
 ·induction gs with
  |nil=>simp [gN,mN,fN]
  |cons a r ih=>simpa [gN,mN,fN] using ih
 ·induction ms with
  |nil=>simp [gN,mN,fN]
  |cons a r ih=>simpa [gN,mN,fN] using ih
 ·induction fs with
  |nil=>simp [gN,mN,fN]
  |cons a r ih=>simpa [gN,mN,fN] using ih
end
section
def fit(n:Int):Prop:=-9223372036854775808 <= n /\ n <= 9223372036854775807
mutual
def aH.sane:aH -> Prop
 |.mk _ num name args=>fit num /\ name.size <= 4611686018427387904 /\ iI args
def iI:List aH -> Prop
 |[]=>True
 |e::es=>e.sane /\ iI es
end
def cY.sane(r:cY):Prop:=r.name.size <= 4611686018427387904 /\ iI r.index
def eN.sane(a:eN):Prop:=a.ref.sane /\ a.expr.sane
mutual
def aJ.sane:aJ -> Prop
 |.mk _ n e r args t el=>n.size <= 4611686018427387904 /\ e.sane /\ r.sane /\ (∀a,a∈args -> a.sane) /\ gC t /\ gC el
def gC:List aJ -> Prop
 |[]=>True
 |s::r=>s.sane /\ gC r
end
def bS.sane(f:bS):Prop:=f.name.size <= 4611686018427387904 /\ (∀x,x∈f.params -> x.name.size <= 4611686018427387904) /\ gC f.body
structure cK.sane (p:cK):Prop where
 globals:∀g,g∈p.globals -> fit g.init /\ g.name.size <= 4611686018427387904
 mutexes:∀m,m∈p.mutexes -> fit m.size /\ m.name.size <= 4611686018427387904
 funcs:∀f,f∈p.funcs -> f.sane
theorem mV:∀(l:List aH),iI l -> ∀e,e∈l -> e.sane
 |[],_,_,h=>DV
 |x::l,hs,e,h=>by
  rw [iI] at hs
  rcases mem_cons.1 h with rfl|h
  ·exact hs.1
  exact mV l hs.2 e h
theorem oS:∀(l:List aJ),gC l -> ∀e,e∈l -> e.sane
 |[],_,_,h=>DV
 |x::l,hs,e,h=>by
  rw [gC] at hs
  rcases mem_cons.1 h with rfl|h
  ·exact hs.1
  exact oS l hs.2 e h
theorem rW(op:Int):(aM op<5 /\ 5 <= op /\ op <= 17)∨(aM op=5 /\ (op=3∨op=4))∨aM op=6:=by
 unfold aM
 repeat' split
 all_goals omega
mutual
theorem yT:∀(e:aH),e.sane -> eO e=true -> VE e
 |.mk op num name args,hs,h=>by
  rw [aH.sane] at hs
  rw [eO] at h
  simp only [Bool.and_eq_true,decide_eq_true_eq] at h
  obtain ⟨⟨h1,h2⟩,h3⟩:=h
  have hv:=aB0 args hs.2.2 h3
  rcases rW op with ⟨k1,k2⟩|⟨k1,k2⟩|k1
  ·rw [if_neg J] at h1
   simp only [Bool.and_eq_true,decide_eq_true_eq] at h1
   obtain ⟨rfl,rfl⟩:=h1
   rw [arity,if_neg J,if_neg J] at h2
   match args,h2,hv with
   |[a,b],_,hv=>exact .bin op a b k2 (hv a M) (hv b M)
  ·rw [if_neg J] at h1
   simp only [Bool.and_eq_true,decide_eq_true_eq] at h1
   obtain ⟨rfl,rfl⟩:=h1
   rw [arity,if_neg J,if_pos k1] at h2
   match args,h2,hv with
   |[a],_,hv=>exact .un op a k2 (hv a M)
  rw [if_pos k1] at h1
  rw [arity,if_pos k1] at h2
  obtain rfl:=List.length_eq_zero_iff.1 h2
  unfold jG at h1
  simp only [Bool.or_eq_true,Bool.and_eq_true,decide_eq_true_eq] at h1
  rcases h1 with ⟨⟨rfl,h0⟩,rfl⟩|⟨⟨rfl,rfl⟩,h0⟩
  ·obtain ⟨n,rfl⟩:∃n:Nat,num=n:=⟨num.toNat,J⟩
   exact .num n (by have:=hs.1.2;omega)
  exact .name name h0
theorem aB0:∀(l:List aH),iI l -> dY l=true -> ∀x,x∈l -> VE x
 |[],_,_,_,h=>DV
 |y::l,hs,h,x,hx=>by
  rw [iI] at hs
  rw [dY,Bool.and_eq_true] at h
  rcases mem_cons.1 hx with hx|hx
  ·rw [hx];exact yT y hs.1 h.1
  exact aB0 l hs.2 h.2 x hx
end
theorem zD{e:aH}(hs:e.sane)(h:dM e=true):VX e:=by
 rw [dM,Bool.and_eq_true,decide_eq_true_eq] at h
 exact ⟨yT e hs h.1,h.2⟩
theorem wQ{e:aH}(h:bLg e=true):e=.zero:=by
 obtain ⟨op,num,name,args⟩:=e
 unfold bLg at h
 rw [Bool.and_eq_true,Bool.and_eq_true] at h
 obtain ⟨⟨h1,h2⟩,h3⟩:=h
 obtain ⟨h4,h5⟩:=of_decide_eq_true h1
 have h6:=of_decide_eq_true h2
 have h7:=of_decide_eq_true h3
 simp only [aH.op,aH.num,aH.name,aH.args] at h4 h5 h6 h7
 subst h4;subst h5;subst h6
 have h:=h7
 rw [List.length_eq_zero_iff.1 h];rfl
theorem zP{r:cY}(h:kM r=true):r=.zero:=by
 obtain ⟨name,index⟩:=r
 simp only [kM,Bool.and_eq_true,decide_eq_true_eq] at h
 obtain ⟨rfl,h⟩:=h
 rw [List.length_eq_zero_iff.1 h];rfl
theorem aFr{r:cY}(hs:r.sane)(h:okRefB r=true):VR r:=by
 obtain ⟨name,index⟩:=r
 unfold okRefB at h
 rw [Bool.and_eq_true] at h
 obtain ⟨h1,h2⟩:=h
 match index,hs,h2 with
 |[],_,_=>exact .one name h1
 |[e],hs,h2=>exact .el name e h1 (zD (mV _ hs.2 e M) h2)
theorem aLi{a:eN}(hs:a.sane)(h:fY a=true):VA a:=by
 obtain ⟨m,r,e⟩:=a
 unfold fY at h
 cases m with
 |true=>
  rw [if_pos rfl,Bool.and_eq_true] at h
  obtain rfl:=wQ h.2
  exact .mutex r (aFr hs.1 h.1)
 |false=>
  rw [if_neg M,Bool.and_eq_true] at h
  obtain rfl:=zP h.1
  exact .expr e (zD hs.2 h.2)
theorem iL(D:Nat):∀(l:List aJ),bM D l=true -> D<24
 |[],h=>by rw [bM] at h;exact of_decide_eq_true h
 |s::r,h=>by rw [bM,Bool.and_eq_true] at h;exact iL D r h.2
mutual
theorem aJ3:∀(s:aJ)(d D:Nat),D+d=23 -> s.sane -> bK9 D s=true -> ∀l,VSs d l -> VSs d (s::l)
 |.mk k n e r args t el,d,D,hd,hs,h,l,ih=>by
  rw [aJ.sane] at hs
  rw [bK9] at h
  obtain ⟨-,he,hr,ha,ht,hel⟩:=hs
  simp only [Bool.and_eq_true,Bool.or_eq_true,decide_eq_true_eq] at h
  obtain ⟨⟨⟨⟨⟨⟨⟨h1,h2⟩,h3⟩,h4⟩,h5⟩,h6⟩,h7⟩,h8⟩:=h
  have hva:∀x,x∈args -> VA x:=λx hx=>aLi (ha x hx) (List.all_eq_true.1 h6 x hx)
  have hk:k=1∨k=2∨k=3∨k=4∨k=5∨k=6∨k=7∨k=8∨k=9:=J
  have hname:¬(1 <= k /\ k <= 4) -> n=aK:=λhp=>by rw [if_neg hp] at h2;exact of_decide_eq_true h2
  have hname1:1 <= k /\ k <= 4 -> bQ n=true:=λhp=>by rwa [if_pos hp] at h2
  have hex:¬(k=1∨k=2∨k=7∨k=8) -> e=.zero:=λhp=>by rw [if_neg hp] at h3;exact wQ h3
  have hex1:(k=1∨k=2∨k=7∨k=8) -> VX e:=λhp=>by rw [if_pos hp] at h3;exact zD he h3
  have href:¬(k=5∨k=6) -> r=.zero:=λhp=>by rw [if_neg hp] at h4;exact zP h4
  have href1:(k=5∨k=6) -> VR r:=λhp=>by rw [if_pos hp] at h4;exact aFr hr h4
  have hargs:¬(k=3∨k=4) -> args=[]:=λhp=>List.length_eq_zero_iff.1 (h5.resolve_left hp)
  have hthn:¬(k=7∨k=8) -> t=[]:=λhp=>by rw [if_neg hp] at h7;exact List.length_eq_zero_iff.1 (of_decide_eq_true h7)
  have hels:k≠7 -> el=[]:=λhp=>h8.elim List.length_eq_zero_iff.1 (λh=>absurd h.1 hp)
  rcases hk with rfl|rfl|rfl|rfl|rfl|rfl|rfl|rfl|rfl
  ·rw [href J,hargs J,hthn J,hels J];exact .var (hname1 J) (hex1 J) ih
  ·rw [href J,hargs J,hthn J,hels J];exact .assign (hname1 J) (hex1 J) ih
  ·rw [hex J,href J,hthn J,hels J];exact .call (hname1 J) hva ih
  ·rw [hex J,href J,hthn J,hels J];exact .go (hname1 J) hva ih
  ·rw [hname J,hex J,hargs J,hthn J,hels J];exact .lock (href1 J) ih
  ·rw [hname J,hex J,hargs J,hthn J,hels J];exact .unlock (href1 J) ih
  ·rw [if_pos (.inl rfl)] at h7
   obtain ⟨d',rfl⟩:∃d',d=d'+1:=⟨d-1,by have:=iL _ _ h7;omega⟩
   have h9:=lS t d' (D+1) J ht h7
   rw [hname J,href J,hargs J]
   refine .cond (hex1 J) h9 ?_ ih
   rcases h8 with h8|h8
   ·rw [List.length_eq_zero_iff.1 h8];exact .nil
   exact lS el d' (D+1) J hel h8.2
  ·rw [if_pos (.inr rfl)] at h7
   obtain ⟨d',rfl⟩:∃d',d=d'+1:=⟨d-1,by have:=iL _ _ h7;omega⟩
   have h9:=lS t d' (D+1) J ht h7
   rw [hname J,href J,hargs J,hels J]
   exact .loop (hex1 J) h9 ih
  rw [hname J,hex J,href J,hargs J,hthn J,hels J];exact .ret ih
theorem lS:∀(l:List aJ)(d D:Nat),D+d=23 -> gC l -> bM D l=true -> VSs d l
 |[],_,_,_,_,_=>.nil
 |s::l,d,D,hd,hs,h=>by
  rw [gC] at hs
  rw [bM,Bool.and_eq_true] at h
  exact aJ3 s d D hd hs.1 h.1 l (lS l d D hd hs.2 h.2)
end
end
section
open Go.RowKit
abbrev bP(l:List ByteArray):List AC:=l.map λx=>Vs x
end
section
open Go.RowKit
theorem aGf{e:aH}(h:e.sane)(k:Nat)(hk:k<e.args.length):e.args[k].sane:=by
 cases e with
 |mk op num name args=>rw [aH.sane] at h;exact mV _ h.2.2 _ (getElem_mem hk)
theorem aJn{e:aH}(h:e.sane):e.name.size <= 4611686018427387904:=by cases e;rw [aH.sane] at h;exact h.2.1
theorem aIc:∀(N:Nat)(e:aH),e.nodes <= N -> N <= 1000000000 -> e.sane -> ∀s:Sto,aL prog 142 [.agg (cU e)] [] s λr s'=>r=Cb (eO e) /\ s'=s
 |0,e,h,_,_=>Bm
 |N+1,e,h,hN,hs=>aHf e (aJn hs) J λk hk s=>aIc N e.args[k] B0 J (aGf hs k hk) s
theorem qT(e:aH)(hN:e.nodes <= 1000000000)(hs:e.sane)(s:Sto):aL prog 108 [.agg (cU e)] [] s λt s'=>t=Cb (dM e) /\ s'=s:=by
 obtain ⟨bx,rw⟩:=s
 refine acX 10 func108 ?_
 refine go 9 λb1=>?_
 refine wc0 Y call142 Y (aIc _ e (Nat.le_refl _) hN hs _) ?_
 rintro _ _ ⟨hr1,rfl⟩
 rcases Bool.eq_false_or_eq_true (eO e) with h2|h2
 ·rw [h2] at hr1
  subst hr1
  refine go 2 ?_
  refine wc0 Y call143 Y (aGd _ e (Nat.le_refl _) hN _) ?_
  rintro _ _ ⟨rfl,rfl⟩
  by_cases h4:((dI e:Nat):Int) <= 24
  ·refine wcp true Y (aPz h4) (go 5 ?_)
   exact bHe (s':=⟨bx,rw⟩) Y sb1 ⟨cX BV,Y⟩
  refine wcp false Y (aPx h4) (go 5 ?_)
  exact bHe (s':=⟨bx,rw⟩) Y sb1 ⟨cX BV,Y⟩
 rw [h2] at hr1
 subst hr1
 refine go 9 ?_
 exact bHe (s':=⟨bx,rw⟩) Y sb1 ⟨cX BV,Y⟩
theorem sM(z:Int)(h:fit z)(s:Sto):aL prog 112 [Ci z] [] s λr s'=>r=Cs (bytes (eH z)) /\ s'=s:=
 aHq (us:=[.int .i64 z]) rfl rfl (λw=>aHb z w h.1 h.2) s
theorem kU(e:aH):aP e=iX e.op e.num e.name (dP e.op 0 e.args):=by cases e;rw [aP];rfl
theorem vS(b:Int):∀(l:List aH)(j:Nat),(dP b j l).length=l.length
 |[],j=>by rw [dP];rfl
 |e::es,j=>by rw [dP,length_cons,length_cons,vS b es]
theorem pL(b:Int):∀(l:List aH)(j k:Nat)(h:k<l.length),(dP b j l)[k]?=some (if cV b (j+k) l[k].op then [40]++aP l[k]++[41] else aP l[k])
 |e::es,j,0,h=>by rw [dP];rfl
 |e::es,j,k+1,h=>by
  rw [dP,List.getElem?_cons_succ,pL b es (j+1) k Er]
  rw [show j+1+k=j+(k+1) by omega];rfl
theorem aCb{e:aH}(h:eO e=true):(e.op=1 /\ e.args.length=0)∨(e.op=2 /\ e.args.length=0)∨((e.op=3∨e.op=4) /\ e.args.length=1 /\ aM e.op=5)∨(aM e.op<5 /\ 5 <= e.op /\ e.op <= 17 /\ e.args.length=2):=by
 rw [dZ,Bool.and_eq_true,Bool.and_eq_true,decide_eq_true_eq] at h
 obtain ⟨⟨h1,h2⟩,-⟩:=h
 unfold arity at h2
 rcases rW e.op with ⟨k1,k2⟩|⟨k1,k2⟩|k1
 ·rw [if_neg J,if_neg J] at h2;exact .inr (.inr (.inr ⟨k1,k2.1,k2.2,h2⟩))
 ·rw [if_neg J,if_pos k1] at h2;exact .inr (.inr (.inl ⟨k2,h2,k1⟩))
 rw [if_pos k1] at h1 h2
 unfold jG at h1
 simp only [Bool.or_eq_true,Bool.and_eq_true,decide_eq_true_eq] at h1
 rcases h1 with h1|h1
 ·exact .inl ⟨h1.1.1,h2⟩
 exact .inr (.inl ⟨h1.1.1,h2⟩)
theorem aKx{e:aH}(h:eO e=true)(k:Nat)(hk:k<e.args.length):eO e.args[k]=true:=by
 cases hs:eO e.args[k] with
 |true=>rfl
 |false=>rw [dZ,oF _ _ hk hs,Bool.and_false] at h;cases h
theorem aIl{e:aH}(h:eO e=true)(k:Nat)(hk:k<e.args.length):((dP e.op 0 e.args).getD k []).length <= (aP e).length:=by
 rw [kU]
 rcases aCb h with h1|h1|h1|h1
 ·omega
 ·omega
 ·obtain rfl:k=0:=J
  unfold iX
  rcases h1.1 with h3|h3<;>simp [h3]
 unfold iX
 rw [if_neg J,if_neg J,if_neg J,if_neg J,if_pos h1.1]
 have:k=0∨k=1:=J
 rcases this with rfl|rfl<;>(simp only [length_append];omega)
theorem aD4{e:aH}(h:eO e=true)(k:Nat)(hk:k<e.args.length):(aP e.args[k]).length <= (aP e).length:=by
 have h1:=aIl h k hk
 have h2:=pL e.op e.args 0 k hk
 rw [List.getD_eq_getElem?_getD,h2,Option.getD_some] at h1
 split at h1<;>(try simp only [length_append] at h1)<;>omega
theorem aLd{op:Int}(h:5 <= op /\ op <= 17):op=5∨op=6∨op=7∨op=8∨op=9∨op=10∨op=11∨op=12∨op=13∨op=14∨op=15∨op=16∨op=17:=J
theorem aKw{op:Int}(h:5 <= op /\ op <= 17):op∈dS (aM op):=by
 rcases aLd h with rfl|rfl|rfl|rfl|rfl|rfl|rfl|rfl|rfl|rfl|rfl|rfl|rfl<;>decide
theorem aNo{op:Int}(h:5 <= op /\ op <= 17):∀i (h1:i<(dS (aM op)).length) (h2:i<(jP (aM op)).length),(dS (aM op))[i]=op -> (jP (aM op))[i]=bytes (iW op):=by
 rcases aLd h with rfl|rfl|rfl|rfl|rfl|rfl|rfl|rfl|rfl|rfl|rfl|rfl|rfl<;>decide
theorem aQc{c:Prop}[Decidable c]{l r:List UInt8}{n:Nat}(h1:l.length <= n)(h2:r.length <= n):(if c then l else r).length <= n:=by split<;>assumption
theorem kW(op:Int):(iW op).length <= 2:=by
 unfold iW
 repeat' (with_reducible apply aQc)
 all_goals decide
theorem pE(ts:List (List UInt8))(j:Nat)(h:j<(ts.map bytes).length):(ts.map bytes)[j]=bytes (ts.getD j []):=by
 have h1:j<ts.length:=Er
 simp [List.getD,h1]
theorem aJ7(e:aH)(hN:e.nodes <= 1000000000)(hs:e.sane)(hsh:eO e=true)(hL:(aP e).length <= 1000000000000000)(ih:∀k (h:k<e.args.length) (s:Sto),aL prog 145 [.agg (cU e.args[k])] [] s λr s'=>r=Cs (bytes (aP e.args[k])) /\ s'=s)(s:Sto):aL prog 145 [.agg (cU e)] [] s λt s'=>t=Cs (bytes (aP e)) /\ s'=s:=by
 obtain ⟨bx,rw⟩:=s
 have hlen:=uC e
 have hops:=aCb hsh
 have hfit:fit e.num:=by cases e;rw [aH.sane] at hs;exact hs.1
 have hget:=pL e.op e.args 0
 have htl:=vS e.op e.args 0
 have hal:=aIl hsh
 simp only [Nat.zero_add] at hget
 obtain ⟨ts,hts⟩:∃ts,dP e.op 0 e.args=ts:=⟨_,rfl⟩
 rw [hts] at hget htl hal
 refine acX 95 func145 ?_
 refine go 18 λb1=>?_
 refine qR 9 1 ?_
 refine aO2 (λk=>True) (e.args.length) 4 3 9 1 (λk=>((ts.take k).map bytes).length) (λk=>bP ((ts.take k).map bytes)) [b1] (λk=>[(1,pP b1)]) trivial (cQf (.refl _) Cc) λk v hk hvk=>?_
 replace hvk:True:=hvk
 try dsimp only
 have hrl:((ts.take k).map bytes).length <= k:=by simp only [List.length_map,List.length_take];omega
 refine go 7 ?_
 by_cases h1:((k:Nat):Int)<((e.args.length:Nat):Int)
 ·refine wcp true Y (jZ h1) (go 12 ?_)
  refine wyz Y (bH fO cU e.args iU fP k Y Y Y Y J V runUnderlying63 sizeOf65) (go 1 ?_)
  refine wc0 Y call145 Y (ih k J _) ?_
  rintro _ _ ⟨rfl,rfl⟩
  refine go 6 ?_
  have hpl:=aD4 hsh k J
  refine go 2 ?_
  refine wc0 Y call168 Y (aIh e k J _) ?_
  rintro _ _ ⟨hr4,rfl⟩
  rcases Bool.eq_false_or_eq_true (cV e.op k e.args[k].op) with h5|h5
  ·rw [h5] at hr4
   subst hr4
   refine go 5 ?_
   refine wyz Y (aN [40] (aP e.args[k]) Y Y Y Y Y AM) ?_
   refine wyz Y (aN ([40]++(aP e.args[k])) [41] Y Y Y Y Y AM) (go 6 ?_)
   refine wo Y (bDk (r:=bP [(bytes (([40]++(aP e.args[k]))++[41]))]) cQs ?_)
   refine wo Y (bDm [] bDv Y Y V B1 J (@length_append _ ((ts.take k).map bytes) [(bytes (([40]++(aP e.args[k]))++[41]))]).symm Bo Bq (List.map_append (f:=λx=>AC.val (.string x))).symm λw2=>?_)
   refine go 6 ?_
   refine wad Y (go 2 ?_)
   rw [show (ts.take (k+1)).map bytes=(ts.take k).map bytes++[(bytes (([40]++(aP e.args[k]))++[41]))] by rw [List.take_succ,hget k J,h5];simp]
   exact ⟨J,trivial,_,cQf (h:=aG Y (gQ J) (sA Y)) (.refl _) Dr⟩
  rw [h5] at hr4
  subst hr4
  refine go 8 ?_
  refine wo Y (bDk (r:=bP [(bytes (aP e.args[k]))]) cQs ?_)
  refine wo Y (bDm [] bDv Y Y V B1 J (@length_append _ ((ts.take k).map bytes) [(bytes (aP e.args[k]))]).symm Bo Bq (List.map_append (f:=λx=>AC.val (.string x))).symm λw3=>?_)
  refine go 6 ?_
  refine wad Y (go 2 ?_)
  rw [show (ts.take (k+1)).map bytes=(ts.take k).map bytes++[(bytes (aP e.args[k]))] by rw [List.take_succ,hget k J,h5];simp]
  exact ⟨J,trivial,_,cQf (h:=aG Y (gQ J) (sA Y)) (.refl _) Dr⟩
 refine wcp false Y (jQ h1) (go 12 ?_)
 obtain rfl:k=e.args.length:=J
 rw [take_of_length_le J]
 refine aE1 3 Y ?_
 refine go 2 ?_
 by_cases h9:e.op=1
 ·refine wcp true Y (eR h9) (go 8 ?_)
  refine wc0 Y call112 Y (sM e.num hfit _) ?_
  rintro _ _ ⟨rfl,rfl⟩
  refine go 6 ?_
  exact bHe (s':=⟨bx,rw⟩) Y sb1 ⟨oW (by rw [kU,hts];unfold iX;simp only [if_pos h9];try rfl),Y⟩
 refine wcp false Y (eD h9) (go 8 ?_)
 by_cases h13:e.op=2
 ·refine wcp true Y (eR h13) (go 14 ?_)
  exact bHe (s':=⟨bx,rw⟩) Y sb1 ⟨oW (by rw [kU,hts];unfold iX;simp only [if_neg h9,if_pos h13];try exact (back _).symm),Y⟩
 refine wcp false Y (eD h13) (go 8 ?_)
 by_cases h16:e.op=3
 ·refine wcp true Y (eR h16) (go 6 ?_)
  have hl1:e.args.length=1:=Ck
  have hg0:=hal 0 J
  refine go 1 ?_
  refine wyz Y (rT (λx=>Vs x) (ts.map bytes) 0 Y Y Y Y Bl runUnderlying33 sizeOf9) (go 1 ?_)
  refine wyz Y (aN [45] (ts.getD 0 []) Y Y Y Y (pE _ _ Bl) AM) (go 6 ?_)
  exact bHe (s':=⟨bx,rw⟩) Y sb1 ⟨oW (by rw [kU,hts];unfold iX;simp only [if_neg h9,if_neg h13,if_pos h16];try rfl),Y⟩
 refine wcp false Y (eD h16) (go 8 ?_)
 by_cases h19:e.op=4
 ·refine wcp true Y (eR h19) (go 6 ?_)
  have hl1:e.args.length=1:=Ck
  have hg0:=hal 0 J
  refine go 1 ?_
  refine wyz Y (rT (λx=>Vs x) (ts.map bytes) 0 Y Y Y Y Bl runUnderlying33 sizeOf9) (go 1 ?_)
  refine wyz Y (aN [33] (ts.getD 0 []) Y Y Y Y (pE _ _ Bl) AM) (go 6 ?_)
  exact bHe (s':=⟨bx,rw⟩) Y sb1 ⟨oW (by rw [kU,hts];unfold iX;simp only [if_neg h9,if_neg h13,if_neg h16,if_pos h19];try rfl),Y⟩
 refine wcp false Y (eD h19) (go 11 ?_)
 have hlt5:aM e.op<5:=Ck
 have hop:5 <= e.op /\ e.op <= 17:=Ck
 have hl2:e.args.length=2:=Ck
 have hsl:=aKy (aM e.op)
 have hg0:=hal 0 J
 have hg1:=hal 1 J
 refine wc0 Y call167 Y (nA e.op _) ?_
 rintro _ _ ⟨rfl,rfl⟩
 refine wc0 Y call121 Y (aO6 (aM e.op) J _) ?_
 rintro _ _ ⟨rfl,rfl⟩
 refine go 14 ?_
 refine lE (λi=>∀j (h:j<(dS (aM e.op)).length),j<i -> (dS (aM e.op))[j]≠e.op) ((dS (aM e.op)).length) 8 (λi=>[(1,pP b1),(3,.c (.sl (ts.map bytes).length ((ts.map bytes).map λx=>Vs x))),(6,.c (aF6 (jP (aM e.op)))),(7,.c (aEm (dS (aM e.op))))]) Bh (sA Y) λi hi hvi=>?_
 replace hvi:∀j (h:j<(dS (aM e.op)).length),j<i -> (dS (aM e.op))[j]≠e.op:=hvi
 try dsimp only
 refine go 6 ?_
 by_cases h24:((i:Nat):Int)<(((dS (aM e.op)).length:Nat):Int)
 ·refine wcp true Y (jZ h24) (go 8 ?_)
  refine dx [b1] (tz [(0,true),(1,true)] 5 (go 3 ?_))
  refine tx 2 Y (rT (λx=>Vi x) (dS (aM e.op)) i Y Y Y Y J runUnderlying22 sizeOf3) (tz [(3,true),(4,true),(5,true)] 1 (go 4 ?_))
  by_cases h26:(dS (aM e.op))[i]=e.op
  ·refine tx 6 Y (bO true Y Y Y (eR h26)) ?_
   refine ax (go 3 ?_)
   refine dx [b1] (tz [(0,true)] 14 (go 2 ?_))
   refine tx 1 Y (rT (λx=>Vs x) (ts.map bytes) 0 Y Y Y Y Bl runUnderlying33 sizeOf9) (tz [(2,true)] 12 (go 2 ?_))
   refine tx 3 Y (aN (ts.getD 0 []) [32] Y Y Y (pE _ _ Bl) Y AM) (tz [(4,true),(5,true)] 9 (go 3 ?_))
   refine tx 6 Y (rT (λx=>Vs x) (jP (aM e.op)) i Y Y Y Y J runUnderlying33 sizeOf9) (tz [(7,true)] 7 (go 2 ?_))
   refine tx 8 Y (aN ((ts.getD 0 [])++[32]) (iW e.op) Y Y Y Y (aNo hop i J J h26) AM) ?_
   refine tx 9 Y (aN (((ts.getD 0 [])++[32])++(iW e.op)) [32] Y Y Y Y Y AM) (tz [(10,true)] 4 (go 2 ?_))
   refine tx 11 Y (rT (λx=>Vs x) (ts.map bytes) 1 Y Y Y Y Bl runUnderlying33 sizeOf9) (tz [(12,true)] 2 (go 2 ?_))
   refine tx 13 Y (aN ((((ts.getD 0 [])++[32])++(iW e.op))++[32]) (ts.getD 1 []) Y Y Y Y (pE _ _ Bl) AM) (tz [(14,true)] 0 (go 2 ?_))
   refine ax (go 7 ?_)
   exact bHe (s':=⟨bx,rw⟩) Y sb1 ⟨oW (by rw [kU,hts];unfold iX;simp only [if_neg h9,if_neg h13,if_neg h16,if_neg h19,if_pos hlt5];try rfl),Y⟩
  refine tx 6 Y (bO false Y Y Y (eD h26)) ?_
  refine ax (go 7 ?_)
  refine wad Y (go 2 ?_)
  exact ⟨J,(λj hj hlt hq=>(Nat.lt_or_ge j i).elim (λh9=>hvi j hj h9 hq) (λh9=>by have h8:j=i:=J;subst h8;exact h26 hq)),(aG Y (gQ J) (sA Y))⟩
 refine wcp false Y (jQ h24) (go 14 ?_)
 exact absurd (List.mem_iff_getElem.1 (aKw hop)) (λ⟨j,hj,hq⟩=>hvi j hj J hq)
end
section
open Go.RowKit
theorem rR:∀(N:Nat)(e:aH),e.nodes <= N -> N <= 1000000000 -> e.sane -> eO e=true -> (aP e).length <= 1000000000000000 -> ∀s:Sto,aL prog 145 [.agg (cU e)] [] s λr s'=>r=Cs (bytes (aP e)) /\ s'=s
 |0,e,h,_,_,_,_=>Bm
 |N+1,e,h,hN,hs,hsh,hL=>aJ7 e J hs hsh hL λk hk s=>rR N e.args[k] B0 J (aGf hs k hk) (aKx hsh k hk) (Nat.le_trans (aD4 hsh k hk) hL) s
end
section
open Go.RowKit
def cY.wt(r:cY):Nat:=1+cZ r.index
def eN.wt(a:eN):Nat:=1+a.ref.wt+a.expr.nodes
def wtA:List eN -> Nat
 |[]=>0
 |a::l=>a.wt+wtA l
mutual
def aJ.wt:aJ -> Nat
 |.mk _ _ e r a t f=>1+e.nodes+r.wt+wtA a+wtS t+wtS f
def wtS:List aJ -> Nat
 |[]=>0
 |s::l=>s.wt+wtS l
end
theorem aDf:∀(l:List eN)(k:Nat)(h:k<l.length),l[k].wt <= wtA l
 |a::l,0,_=>by rw [wtA];simp
 |a::l,k+1,h=>by have:=aDf l k Er;rw [wtA];simp;omega
theorem aCj:∀(l:List eN),l.length <= wtA l
 |[]=>M
 |a::l=>by have:=aCj l;rw [wtA,eN.wt];simp;omega
theorem uF:∀(l:List aJ)(k:Nat)(h:k<l.length),l[k].wt <= wtS l
 |a::l,0,_=>by rw [wtS];simp
 |a::l,k+1,h=>by have:=uF l k Er;rw [wtS];simp;omega
theorem gD(s:aJ):s.wt=1+s.expr.nodes+s.ref.wt+wtA s.args+wtS s.thn+wtS s.els:=by cases s;rw [aJ.wt];rfl
theorem uZ:∀(l:List aJ),l.length <= wtS l
 |[]=>M
 |a::l=>by have:=uZ l;rw [wtS,gD];simp;omega
theorem xE{r:cY}(h:okRefB r=true):bQ r.name=true /\ (r.index.length=0∨r.index.length=1) /\ ∀e,e∈r.index -> dM e=true:=by
 obtain ⟨n,ix⟩:=r
 unfold okRefB at h
 rw [Bool.and_eq_true] at h
 match ix,h with
 |[],h=>exact ⟨h.1,.inl rfl,λe he=>by cases he⟩
 |[e],h=>exact ⟨h.1,.inr rfl,λx hx=>by rw [List.mem_singleton.1 hx];exact h.2⟩
 |_::_::_,h=>simp at h
theorem kR{e:aH}(h:dM e=true):eO e=true:=by rw [dM,Bool.and_eq_true] at h;exact h.1
theorem wI{r:cY}(h:0<r.index.length):dC r=r.name.data.toList++[(91:UInt8)]++aP r.index[0]++[93]:=by
 obtain ⟨n,ix⟩:=r
 match ix,h with
 |e::_,_=>rfl
theorem aCa{r:cY}(h:r.index.length=0):dC r=r.name.data.toList:=by
 obtain ⟨n,ix⟩:=r
 rw [List.length_eq_zero_iff] at h
 dsimp only at h
 subst h;rfl
theorem rS{α:Type}(f:α -> List UInt8):∀(l:List α)(k:Nat),(bW f (l.take k)).length <= (bW f l).length
 |[],k=>FE
 |x::l,0=>FE
 |x::l,k+1=>by
  simp only [List.take_succ_cons,bW,length_append,List.length_flatten,List.map_map]
  have:∀(m:List α)(k:Nat),(List.map (List.length ∘ λy=>[44,32]++f y) (m.take k)).sum <= (List.map (List.length ∘ λy=>[44,32]++f y) m).sum:=by
   intro m
   induction m with
   |nil=>intro k;simp
   |cons a m ih=>intro k;cases k with
    |zero=>simp
    |succ k=>have:=ih k;simp only [List.take_succ_cons,List.map_cons,List.sum_cons];omega
  have:=this l k;omega
theorem aGp{α:Type}(f:α -> List UInt8)(l:List α)(k:Nat)(h:k<l.length):(f l[k]).length <= (bW f l).length:=by
 have h1:=rS f l (k+1)
 rw [hJ f l k h] at h1
 simp only [length_append] at h1;omega
theorem pD{a:eN}(h:a.mutex=true):dE a=[109,117,116,101,120,32]++dC a.ref:=by unfold dE;rw [if_pos h]
theorem oZ{a:eN}(h:a.mutex=false):dE a=aP a.expr:=by unfold dE;rw [if_neg B5]
theorem xN{a:eN}(h:fY a=true):(a.mutex=true -> okRefB a.ref=true) /\ (a.mutex=false -> dM a.expr=true):=by
 unfold fY at h
 constructor
 ·intro hm;rw [hm,if_pos rfl,Bool.and_eq_true] at h;exact h.1
 intro hm;rw [hm,if_neg V,Bool.and_eq_true] at h;exact h.2
theorem sP(r:cY)(hok:okRefB r=true)(hs:r.sane)(hN:cZ r.index <= 900000000)(hL:(dC r).length <= 1000000000000000)(s:Sto):aL prog 147 [.agg (encR r)] [] s λt s'=>t=Cs (bytes (dC r)) /\ s'=s:=by
 obtain ⟨bx,rw⟩:=s
 replace hok:=xE hok
 have hnm:r.name.data.toList.length <= 4611686018427387904:=hs.1
 refine acX 19 func147 ?_
 refine go 12 λb1=>?_
 by_cases h1:((r.index.length:Nat):Int)=0
 ·refine wcp true Y (eR h1) (go 12 ?_)
  exact bHe (s':=⟨bx,rw⟩) Y sb1 ⟨oW EP,Y⟩
 refine wcp false Y (eD h1) (go 6 ?_)
 refine dx [b1] ?_
 have hi0:0<r.index.length:=J
 have hse:=mV _ hs.2 _ (getElem_mem hi0)
 have hsh:=kR (hok.2.2 _ (getElem_mem hi0))
 have hni:=nM r.index 0 hi0
 have hL1:=hL
 rw [wI hi0] at hL1
 simp only [length_append] at hL1
 replace hL1:(aP r.index[0]).length <= 1000000000000000:=by omega
 refine tz [(0,true),(1,true)] 9 (go 3 ?_)
 refine tx 2 Y (cz r.name.data.toList ([91]:List UInt8) Y Y Y (back _) Y) (tz [(3,true),(4,true)] 6 (go 3 ?_))
 refine tx 5 Y (bH fO cU r.index iU fP 0 Y Y Y Y J V runUnderlying63 sizeOf65) (tz [(6,true)] 4 (go 2 ?_))
 refine ox 7 Y Y (bV call145 (rR _ r.index[0] (Nat.le_refl _) J hse hsh hL1 _) ?_)
 rintro _ _ ⟨rfl,rfl⟩
 refine tx 8 Y (cz (r.name.data.toList++([91]:List UInt8)) (aP r.index[0]) Y Y Y Y Y) ?_
 refine tx 9 Y (cz ((r.name.data.toList++([91]:List UInt8))++(aP r.index[0])) [93] Y Y Y Y Y) (tz [(10,true)] 0 (go 2 ?_))
 refine ax (go 2 ?_)
 exact bHe (s':=⟨bx,rw⟩) Y sb1 ⟨oW (by rw [wI hi0]),Y⟩
theorem zL(l:List eN)(hok:∀a,a∈l -> fY a=true)(hs:∀a,a∈l -> a.sane)(hw:wtA l <= 900000000)(hL:(dF l).length <= 1000000000000000)(s:Sto):aL prog 146 [.c (Sq eJ l)] [] s λt s'=>t=Cs (bytes (dF l)) /\ s'=s:=by
 obtain ⟨bx,rw⟩:=s
 have hal:=aCj l
 have hL1:=hL
 unfold dF at hL1
 simp only [length_append] at hL1
 refine acX 39 func146 ?_
 refine go 17 ?_
 refine oC (l.length) 4 (λk=>[(3,Cs (bytes ([40]++bW dE (l.take (k))))),(0,.c (Sq eJ l))]) (sA Y) λk hk=>?_
 show AWp prog _ ⟨39,_,_,(4,nI k)::[(3,Cs (bytes ([40]++bW dE (l.take (k))))),(0,.c (Sq eJ l))]⟩ _
 have hcm:=rS dE l k
 refine go 6 ?_
 by_cases h1:((k:Nat):Int)<((l.length:Nat):Int)
 ·refine wcp true Y (jZ h1) (go 10 ?_)
  have hlt:k<l.length:=J
  have hsa:=hs _ (getElem_mem hlt)
  have hoa:=xN (hok _ (getElem_mem hlt))
  have hwa:=aDf l k hlt
  unfold eN.wt cY.wt at hwa
  have hci:=aGp dE l k hlt
  refine go 1 ?_
  by_cases h3:(0:Int)<((k:Nat):Int)
  ·refine wcp true Y (mH h3) (go 5 ?_)
   refine wyz Y (cz ([40]++bW dE (l.take (k))) [44,32] Y Y Y Y Y) (go 7 ?_)
   refine wyz Y (bH eJ eJ l iD (λ_=>Y) k Y Y Y Y J V runUnderlying136 sizeOf151) (go 1 ?_)
   rcases Bool.eq_false_or_eq_true (l[k].mutex) with h5|h5
   ·refine wyz Y (fL (bZ h5) (iP Y Y isAgg4 sizeOf4 Y)) (go 4 ?_)
    have hmx:=h5
    have hri:(dC l[k].ref).length <= 1000000000000000:=Es
    refine go 1 ?_
    refine wyz Y (cz (([40]++bW dE (l.take (k)))++[44,32]) [109,117,116,101,120,32] Y Y Y Y Y) (go 2 ?_)
    refine wyz Y (bH eJ eJ l iD (λ_=>Y) k Y Y Y Y J V runUnderlying136 sizeOf151) (go 2 ?_)
    refine wc0 Y call147 Y (sP l[k].ref (hoa.1 hmx) hsa.1 J J _) ?_
    rintro _ _ ⟨rfl,rfl⟩
    refine wyz Y (cz ((([40]++bW dE (l.take (k)))++[44,32])++[109,117,116,101,120,32]) (dC l[k].ref) Y Y Y Y Y) (go 6 ?_)
    refine wad Y (go 2 ?_)
    exact ⟨J,(aG Y (gQ J) (aG Y (jX (by rw [hJ dE l k J,if_neg J];rw [pD h5];simp)) (sA Y)))⟩
   refine wyz Y (fL (bZ h5) (iP Y Y isAgg4 sizeOf4 Y)) (go 4 ?_)
   have hmx:=h5
   have hri:(aP l[k].expr).length <= 1000000000000000:=by have h9:=hci;rw [oZ hmx] at h9;omega
   refine go 3 ?_
   refine wyz Y (bH eJ eJ l iD (λ_=>Y) k Y Y Y Y J V runUnderlying136 sizeOf151) (go 2 ?_)
   refine wc0 Y call145 Y (rR _ l[k].expr (Nat.le_refl _) J hsa.2 (kR (hoa.2 hmx)) J _) ?_
   rintro _ _ ⟨rfl,rfl⟩
   refine wyz Y (cz (([40]++bW dE (l.take (k)))++[44,32]) (aP l[k].expr) Y Y Y Y Y) (go 6 ?_)
   refine wad Y (go 2 ?_)
   exact ⟨J,(aG Y (gQ J) (aG Y (jX (by rw [hJ dE l k J,if_neg J];rw [oZ h5];simp)) (sA Y)))⟩
  refine wcp false Y (mI h3) (go 9 ?_)
  refine wyz Y (bH eJ eJ l iD (λ_=>Y) k Y Y Y Y J V runUnderlying136 sizeOf151) (go 1 ?_)
  rcases Bool.eq_false_or_eq_true (l[k].mutex) with h11|h11
  ·refine wyz Y (fL (bZ h11) (iP Y Y isAgg4 sizeOf4 Y)) (go 4 ?_)
   have hmx:=h11
   have hri:(dC l[k].ref).length <= 1000000000000000:=Es
   refine go 1 ?_
   refine wyz Y (cz ([40]++bW dE (l.take (k))) [109,117,116,101,120,32] Y Y Y Y Y) (go 2 ?_)
   refine wyz Y (bH eJ eJ l iD (λ_=>Y) k Y Y Y Y J V runUnderlying136 sizeOf151) (go 2 ?_)
   refine wc0 Y call147 Y (sP l[k].ref (hoa.1 hmx) hsa.1 J J _) ?_
   rintro _ _ ⟨rfl,rfl⟩
   refine wyz Y (cz (([40]++bW dE (l.take (k)))++[109,117,116,101,120,32]) (dC l[k].ref) Y Y Y Y Y) (go 6 ?_)
   refine wad Y (go 2 ?_)
   exact ⟨J,(aG Y (gQ J) (aG Y (jX (by rw [hJ dE l k J,if_pos J];rw [pD h11];simp)) (sA Y)))⟩
  refine wyz Y (fL (bZ h11) (iP Y Y isAgg4 sizeOf4 Y)) (go 4 ?_)
  have hmx:=h11
  have hri:(aP l[k].expr).length <= 1000000000000000:=by have h9:=hci;rw [oZ hmx] at h9;omega
  refine go 3 ?_
  refine wyz Y (bH eJ eJ l iD (λ_=>Y) k Y Y Y Y J V runUnderlying136 sizeOf151) (go 2 ?_)
  refine wc0 Y call145 Y (rR _ l[k].expr (Nat.le_refl _) J hsa.2 (kR (hoa.2 hmx)) J _) ?_
  rintro _ _ ⟨rfl,rfl⟩
  refine wyz Y (cz ([40]++bW dE (l.take (k))) (aP l[k].expr) Y Y Y Y Y) (go 6 ?_)
  refine wad Y (go 2 ?_)
  exact ⟨J,(aG Y (gQ J) (aG Y (jX (by rw [hJ dE l k J,if_pos J];rw [oZ h11];simp)) (sA Y)))⟩
 refine wcp false Y (jQ h1) (go 11 ?_)
 refine wyz Y (cz ([40]++bW dE (l.take (k))) [41] Y Y Y Y Y) (go 4 ?_)
 exact bHe (s':=⟨bx,rw⟩) Y sb0 ⟨oW (by unfold dF;rw [take_of_length_le J]),Y⟩
end
end Go.Proofs.YtbdfdjdgfanjaaaGreatDoor
