import Derived.Test.YtjgeihmhppadaaaGreatDoorRG7J
set_option linter.all false
set_option synthInstance.maxHeartbeats 1000000
set_option synthInstance.maxSize 1000000
namespace Go.Proofs.YtjgeihmhppadaaaGreatDoor
open List (length_append length_cons length_nil mem_append mem_cons not_mem_nil append_assoc getElem_mem take_of_length_le)
section
inductive fF where
 |glob (g:aI)
 |mtx (m:cL)
 |fn (f:bS)
def VG(g:aI):Prop:=bQ g.name=true /\ g.init.natAbs <= 9223372036854775807
def VM(m:cL):Prop:=bQ m.name=true /\ 0 <= m.size /\ m.size <= 64 /\ (m.reentrant=true -> m.size=0)
def VF(f:bS):Prop:=bQ f.name=true /\ f.params.length <= 6 /\ (∀x,x∈f.params -> bQ x.name=true) /\ VSs 23 f.body
def fF.ok:fF -> Prop
 |.glob g=>VG g
 |.mtx m=>VM m
 |.fn f=>VF f
def fF.text:fF -> List UInt8
 |.glob g=>aU g
 |.mtx m=>bE m
 |.fn f=>funcText f
def bEr(g:aI):List PT:=wrd [118,97,114]::nmT g.name::((if g.init=0 then [] else sgn [61]::(if g.init<0 then [sgn [45],nuT g.init.natAbs] else [nuT g.init.natAbs]))++[sgn [59]])
def gT(m:cL):List PT:=(if m.reentrant then wrd [114,109,117,116,101,120] else wrd [109,117,116,101,120])::nmT m.name::((if 0<m.size then [sgn [91],nuT m.size.natAbs,sgn [93]] else [])++[sgn [59]])
def lQ(x:aS):List PT:=(if x.mutex then [wrd [109,117,116,101,120]] else [])++[nmT x.name]
def kA(f:bS):List PT:=wrd [102,117,110,99]::nmT f.name::sgn [40]::(fZ lQ f.params++sgn [41]::sgn [123]::(aQ f.body++[sgn [125]]))
def fF.toks:fF -> List PT
 |.glob g=>bEr g
 |.mtx m=>gT m
 |.fn f=>kA f
def fF.add(x:cK):fF -> cK
 |.glob g=>{x with globals:=x.globals++[g]}
 |.mtx m=>{x with mutexes:=x.mutexes++[m]}
 |.fn f=>{x with funcs:=x.funcs++[f]}
section
variable {r:List UInt8}{ps:List PT}
theorem VG.lx{g:aI}(h:VG g)(hr:Lx r ps):Lx (aU g++r) (bEr g++ps):=by
 obtain ⟨hn,hi⟩:=h
 unfold aU bEr
 by_cases h0:g.init=0
 ·rw [if_pos h0,if_pos h0]
  have h1:=(hr.semi.name g.name hn (.cons V)).kw [118,97,114] V
  simpa [nmT] using h1
 rw [if_neg h0,if_neg h0]
 have h1:=hr.semi.num g.init.natAbs hi (.cons V)
 have hsta:Sta (cO g.init.natAbs++59::10::r):=by
  have:=(VE.num g.init.natAbs hi).sta
  rw [wE] at this
  exact this.app _
 unfold eH
 by_cases hneg:g.init<0
 ·rw [if_pos hneg,if_pos hneg]
  have h2:=(((h1.pre 45 V hsta).bl.one' 61 V (Fin.cons V)).bl.name g.name hn (.cons V)).kw [118,97,114] V
  simpa [nmT,nuT] using h2
 rw [if_neg hneg,if_neg hneg]
 have h2:=((h1.bl.one' 61 V (Fin.cons V)).bl.name g.name hn (.cons V)).kw [118,97,114] V
 simpa [nmT,nuT] using h2
theorem VM.lx{m:cL}(h:VM m)(hr:Lx r ps):Lx (bE m++r) (gT m++ps):=by
 obtain ⟨hn,h0,h1,h2⟩:=h
 have key:Lx (m.name.data.toList++(if 0<m.size then [91]++eH m.size++[93] else [])++[59,10]++r) (nmT m.name::((if 0<m.size then [sgn [91],nuT m.size.natAbs,sgn [93]] else [])++[sgn [59]])++ps):=by
  by_cases hp:0<m.size
  ·rw [if_pos hp,if_pos hp]
   have h3:=(((hr.semi.free 93 V).num m.size.natAbs J (.cons V)).free 91 V).name m.name hn (.cons V)
   unfold eH
   rw [if_neg J]
   simpa [nmT,nuT] using h3
  rw [if_neg hp,if_neg hp]
  have h3:=hr.semi.name m.name hn (.cons V)
  simpa [nmT] using h3
 unfold bE gT
 cases hre:m.reentrant with
 |true=>
  have:=key.kw [114,109,117,116,101,120] V
  simpa using this
 |false=>
  have:=key.kw [109,117,116,101,120] V
  simpa using this
theorem aNk{x:aS}(h:bQ x.name=true)(hf:Fin r)(hr:Lx r ps):Lx (bX x++r) (lQ x++ps):=by
 unfold bX lQ
 have h1:=hr.name x.name h hf.nam
 cases x.mutex with
 |true=>
  have h2:=h1.kw [109,117,116,101,120] V
  simpa [nmT] using h2
 |false=>simpa [nmT] using h1
theorem VF.lx{f:bS}(h:VF f)(hr:Lx r ps):Lx (funcText f++r) (kA f++ps):=by
 obtain ⟨hn,h0,h1,h2⟩:=h
 have h3:=((h2.lx [9] _ _ V (hr.nl.free 125 V)).nl.free 123 V).bl.free 41 V
 have h4:=((yR (fT:=bX) (fK:=lQ) f.params (λx hx r ps hf hr=>aNk (h1 x hx) hf hr) (Fin.cons V) h3).free 40 V).name f.name hn (.cons V)
 have h5:=h4.kw [102,117,110,99] V
 unfold funcText kA
 simpa [nmT] using h5
theorem fF.lx{x:fF}(h:x.ok)(hr:Lx r ps):Lx (x.text++r) (x.toks++ps):=by
 cases x with
 |glob g=>exact VG.lx h hr
 |mtx m=>exact VM.lx h hr
 |fn f=>exact VF.lx h hr
theorem uR:∀(ds:List fF),(∀x,x∈ds -> x.ok) -> Lx r ps -> Lx ((ds.map fF.text).flatten++r) ((ds.map fF.toks).flatten++ps)
 |[],_,hr=>hr
 |x::ds,h,hr=>by
  have h1:=fF.lx (h x (List.mem_cons_self ..)) (uR ds (λy hy=>h y (List.mem_cons_of_mem _ hy)) hr)
  simpa using h1
end
section
variable {l:List Tok}
end
def iA(p:cK):List fF:=p.globals.map .glob++(p.mutexes.map .mtx++p.funcs.map .fn)
end
section
def fit(n:Int):Prop:=-9223372036854775808 <= n /\ n <= 9223372036854775807
mutual
def aH.sane:aH -> Prop
 |.mk _ num name args=>fit num /\ name.size <= 4611686018427387904 /\ iI args
def iI:List aH -> Prop
 |[]=>True
 |e::es=>e.sane /\ iI es
end
def cY.sane(r:cY):Prop:=r.name.size <= 4611686018427387904 /\ iI r.index
def eN.sane(a:eN):Prop:=a.ref.sane /\ a.expr.sane
mutual
def aJ.sane:aJ -> Prop
 |.mk _ n e r args t el=>n.size <= 4611686018427387904 /\ e.sane /\ r.sane /\ (∀a,a∈args -> a.sane) /\ gC t /\ gC el
def gC:List aJ -> Prop
 |[]=>True
 |s::r=>s.sane /\ gC r
end
def bS.sane(f:bS):Prop:=f.name.size <= 4611686018427387904 /\ (∀x,x∈f.params -> x.name.size <= 4611686018427387904) /\ gC f.body
structure cK.sane (p:cK):Prop where
 globals:∀g,g∈p.globals -> fit g.init /\ g.name.size <= 4611686018427387904
 mutexes:∀m,m∈p.mutexes -> fit m.size /\ m.name.size <= 4611686018427387904
 funcs:∀f,f∈p.funcs -> f.sane
theorem mV:∀(l:List aH),iI l -> ∀e,e∈l -> e.sane
 |[],_,_,h=>DV
 |x::l,hs,e,h=>by
  rw [iI] at hs
  rcases mem_cons.1 h with rfl|h
  ·exact hs.1
  exact mV l hs.2 e h
theorem oS:∀(l:List aJ),gC l -> ∀e,e∈l -> e.sane
 |[],_,_,h=>DV
 |x::l,hs,e,h=>by
  rw [gC] at hs
  rcases mem_cons.1 h with rfl|h
  ·exact hs.1
  exact oS l hs.2 e h
theorem rW(op:Int):(aM op<5 /\ 5 <= op /\ op <= 17)∨(aM op=5 /\ (op=3∨op=4))∨aM op=6:=by
 unfold aM
 repeat' split
 all_goals omega
mutual
theorem yT:∀(e:aH),e.sane -> eO e=true -> VE e
 |.mk op num name args,hs,h=>by
  rw [aH.sane] at hs
  rw [eO] at h
  simp only [Bool.and_eq_true,decide_eq_true_eq] at h
  obtain ⟨⟨h1,h2⟩,h3⟩:=h
  have hv:=aB0 args hs.2.2 h3
  rcases rW op with ⟨k1,k2⟩|⟨k1,k2⟩|k1
  ·rw [if_neg J] at h1
   simp only [Bool.and_eq_true,decide_eq_true_eq] at h1
   obtain ⟨rfl,rfl⟩:=h1
   rw [arity,if_neg J,if_neg J] at h2
   match args,h2,hv with
   |[a,b],_,hv=>exact .bin op a b k2 (hv a G0) (hv b G0)
  ·rw [if_neg J] at h1
   simp only [Bool.and_eq_true,decide_eq_true_eq] at h1
   obtain ⟨rfl,rfl⟩:=h1
   rw [arity,if_neg J,if_pos k1] at h2
   match args,h2,hv with
   |[a],_,hv=>exact .un op a k2 (hv a G0)
  rw [if_pos k1] at h1
  rw [arity,if_pos k1] at h2
  obtain rfl:=List.length_eq_zero_iff.1 h2
  unfold jG at h1
  simp only [Bool.or_eq_true,Bool.and_eq_true,decide_eq_true_eq] at h1
  rcases h1 with ⟨⟨rfl,h0⟩,rfl⟩|⟨⟨rfl,rfl⟩,h0⟩
  ·obtain ⟨n,rfl⟩:∃n:Nat,num=n:=⟨num.toNat,J⟩
   exact .num n (by have:=hs.1.2;omega)
  exact .name name h0
theorem aB0:∀(l:List aH),iI l -> dY l=true -> ∀x,x∈l -> VE x
 |[],_,_,_,h=>DV
 |y::l,hs,h,x,hx=>by
  rw [iI] at hs
  rw [dY,Bool.and_eq_true] at h
  rcases mem_cons.1 hx with hx|hx
  ·rw [hx];exact yT y hs.1 h.1
  exact aB0 l hs.2 h.2 x hx
end
theorem zD{e:aH}(hs:e.sane)(h:dM e=true):VX e:=by
 rw [dM,Bool.and_eq_true,decide_eq_true_eq] at h
 exact ⟨yT e hs h.1,h.2⟩
theorem wQ{e:aH}(h:bLg e=true):e=.zero:=by
 obtain ⟨op,num,name,args⟩:=e
 unfold bLg at h
 rw [Bool.and_eq_true,Bool.and_eq_true] at h
 obtain ⟨⟨h1,h2⟩,h3⟩:=h
 obtain ⟨h4,h5⟩:=of_decide_eq_true h1
 have h6:=of_decide_eq_true h2
 have h7:=of_decide_eq_true h3
 simp only [aH.op,aH.num,aH.name,aH.args] at h4 h5 h6 h7
 subst h4;subst h5;subst h6
 have h:=h7
 rw [List.length_eq_zero_iff.1 h];rfl
theorem zP{r:cY}(h:kM r=true):r=.zero:=by
 obtain ⟨name,index⟩:=r
 simp only [kM,Bool.and_eq_true,decide_eq_true_eq] at h
 obtain ⟨rfl,h⟩:=h
 rw [List.length_eq_zero_iff.1 h];rfl
theorem aFr{r:cY}(hs:r.sane)(h:okRefB r=true):VR r:=by
 obtain ⟨name,index⟩:=r
 unfold okRefB at h
 rw [Bool.and_eq_true] at h
 obtain ⟨h1,h2⟩:=h
 match index,hs,h2 with
 |[],_,_=>exact .one name h1
 |[e],hs,h2=>exact .el name e h1 (zD (mV _ hs.2 e G0) h2)
theorem aLi{a:eN}(hs:a.sane)(h:fY a=true):VA a:=by
 obtain ⟨m,r,e⟩:=a
 unfold fY at h
 cases m with
 |true=>
  rw [if_pos rfl,Bool.and_eq_true] at h
  obtain rfl:=wQ h.2
  exact .mutex r (aFr hs.1 h.1)
 |false=>
  rw [if_neg G0,Bool.and_eq_true] at h
  obtain rfl:=zP h.1
  exact .expr e (zD hs.2 h.2)
theorem iL(D:Nat):∀(l:List aJ),bM D l=true -> D<24
 |[],h=>by rw [bM] at h;exact of_decide_eq_true h
 |s::r,h=>by rw [bM,Bool.and_eq_true] at h;exact iL D r h.2
mutual
theorem aJ3:∀(s:aJ)(d D:Nat),D+d=23 -> s.sane -> bK9 D s=true -> ∀l,VSs d l -> VSs d (s::l)
 |.mk k n e r args t el,d,D,hd,hs,h,l,ih=>by
  rw [aJ.sane] at hs
  rw [bK9] at h
  obtain ⟨-,he,hr,ha,ht,hel⟩:=hs
  simp only [Bool.and_eq_true,Bool.or_eq_true,decide_eq_true_eq] at h
  obtain ⟨⟨⟨⟨⟨⟨⟨h1,h2⟩,h3⟩,h4⟩,h5⟩,h6⟩,h7⟩,h8⟩:=h
  have hva:∀x,x∈args -> VA x:=λx hx=>aLi (ha x hx) (List.all_eq_true.1 h6 x hx)
  have hk:k=1∨k=2∨k=3∨k=4∨k=5∨k=6∨k=7∨k=8∨k=9:=J
  have hname:¬(1 <= k /\ k <= 4) -> n=aK:=λhp=>by rw [if_neg hp] at h2;exact of_decide_eq_true h2
  have hname1:1 <= k /\ k <= 4 -> bQ n=true:=λhp=>by rwa [if_pos hp] at h2
  have hex:¬(k=1∨k=2∨k=7∨k=8) -> e=.zero:=λhp=>by rw [if_neg hp] at h3;exact wQ h3
  have hex1:(k=1∨k=2∨k=7∨k=8) -> VX e:=λhp=>by rw [if_pos hp] at h3;exact zD he h3
  have href:¬(k=5∨k=6) -> r=.zero:=λhp=>by rw [if_neg hp] at h4;exact zP h4
  have href1:(k=5∨k=6) -> VR r:=λhp=>by rw [if_pos hp] at h4;exact aFr hr h4
  have hargs:¬(k=3∨k=4) -> args=[]:=λhp=>List.length_eq_zero_iff.1 (h5.resolve_left hp)
  have hthn:¬(k=7∨k=8) -> t=[]:=λhp=>by rw [if_neg hp] at h7;exact List.length_eq_zero_iff.1 (of_decide_eq_true h7)
  have hels:k≠7 -> el=[]:=λhp=>h8.elim List.length_eq_zero_iff.1 (λh=>absurd h.1 hp)
  rcases hk with rfl|rfl|rfl|rfl|rfl|rfl|rfl|rfl|rfl
  ·rw [href J,hargs J,hthn J,hels J];exact .var (hname1 J) (hex1 J) ih
  ·rw [href J,hargs J,hthn J,hels J];exact .assign (hname1 J) (hex1 J) ih
  ·rw [hex J,href J,hthn J,hels J];exact .call (hname1 J) hva ih
  ·rw [hex J,href J,hthn J,hels J];exact .go (hname1 J) hva ih
  ·rw [hname J,hex J,hargs J,hthn J,hels J];exact .lock (href1 J) ih
  ·rw [hname J,hex J,hargs J,hthn J,hels J];exact .unlock (href1 J) ih
  ·rw [if_pos (.inl rfl)] at h7
   obtain ⟨d',rfl⟩:∃d',d=d'+1:=⟨d-1,by have:=iL _ _ h7;omega⟩
   have h9:=lS t d' (D+1) J ht h7
   rw [hname J,href J,hargs J]
   refine .cond (hex1 J) h9 ?_ ih
   rcases h8 with h8|h8
   ·rw [List.length_eq_zero_iff.1 h8];exact .nil
   exact lS el d' (D+1) J hel h8.2
  ·rw [if_pos (.inr rfl)] at h7
   obtain ⟨d',rfl⟩:∃d',d=d'+1:=⟨d-1,by have:=iL _ _ h7;omega⟩
   have h9:=lS t d' (D+1) J ht h7
   rw [hname J,href J,hargs J,hels J]
   exact .loop (hex1 J) h9 ih
  rw [hname J,hex J,href J,hargs J,hthn J,hels J];exact .ret ih
theorem lS:∀(l:List aJ)(d D:Nat),D+d=23 -> gC l -> bM D l=true -> VSs d l
 |[],_,_,_,_,_=>.nil
 |s::l,d,D,hd,hs,h=>by
  rw [gC] at hs
  rw [bM,Bool.and_eq_true] at h
  exact aJ3 s d D hd hs.1 h.1 l (lS l d D hd hs.2 h.2)
end
theorem wC(p:cK):cR p=((iA p).map fF.text).flatten:=by
 simp only [cR,iA,List.map_append,List.map_map,List.flatten_append,append_assoc]
 rfl
theorem aL4{r:List UInt8}{ps:List PT}(h:Lx r ps):∀(s:List UInt8)(k n:Nat),s.drop k=r -> k <= s.length -> n <= 4000 -> (kD s k n).isOk=true -> n+ps.length <= 4000:=by
 induction h with
 |@nil r h=>intro s k n hd hk hn _;simpa using hn
 |@cons r0 r kind len num ps h h0 hn _ ih=>
  intro s k n hd hk hl hok
  have hs:s.drop (bF s k)=r:=by rw [qJ,hd,h]
  have hlt:bF s k<s.length:=by
   rcases Nat.lt_or_ge (bF s k) s.length with h1|h1
   ·exact h1
   rw [List.drop_eq_nil_of_le h1] at hs;exact absurd hs.symm h0
  have hlen:=cZy h0 hn
  have hr:r.length=s.length-bF s k:=by rw [←hs,List.length_drop]
  have h4:n≠4000:=by
   rintro rfl
   rw [kD,if_neg J,hs,hn] at hok
   simp [fX.isOk] at hok
  rw [nD hk hlt (by rw [hs];exact hn) J] at hok
  have h5:=ih s (bF s k+len) (n+1) (by rw [←List.drop_drop,hs]) J J (by
   cases h6:kD s (bF s k+len) (n+1) with
   |ok l=>rfl
   |err a b=>rw [h6] at hok;exact hok)
  simp only [length_cons];omega
theorem aNe{s:List UInt8}{ps:List PT}(h:Lx s ps)(hok:(iH s).isOk=true):s.length <= 262144 /\ ps.length <= 4000:=by
 unfold iH at hok
 split at hok
 ·simp [fX.isOk] at hok
 rename_i hl
 have:=aL4 h s 0 0 rfl J J hok
 exact ⟨J,J⟩
end
section
open Go.RowKit
abbrev bP(l:List ByteArray):List AC:=l.map λx=>Vs x
theorem rB(names:List ByteArray)(j:Nat)(h:j<names.length):pk false 1 (bP names) (0+j*1)=some (Cs (names[j])):=by
 unfold pk bP
 rw [if_neg V,Nat.zero_add,Nat.mul_one,List.getElem?_map,List.getElem?_eq_getElem h];rfl
theorem kU(e:aH):aP e=iX e.op e.num e.name (dP e.op 0 e.args):=by cases e;rw [aP];rfl
theorem pL(b:Int):∀(l:List aH)(j k:Nat)(h:k<l.length),(dP b j l)[k]?=some (if cV b (j+k) l[k].op then [40]++aP l[k]++[41] else aP l[k])
 |e::es,j,0,h=>by rw [dP];rfl
 |e::es,j,k+1,h=>by
  rw [dP,List.getElem?_cons_succ,pL b es (j+1) k Er]
  rw [show j+1+k=j+(k+1) by omega];rfl
def cY.wt(r:cY):Nat:=1+cZ r.index
def eN.wt(a:eN):Nat:=1+a.ref.wt+a.expr.nodes
def wtA:List eN -> Nat
 |[]=>0
 |a::l=>a.wt+wtA l
mutual
def aJ.wt:aJ -> Nat
 |.mk _ _ e r a t f=>1+e.nodes+r.wt+wtA a+wtS t+wtS f
def wtS:List aJ -> Nat
 |[]=>0
 |s::l=>s.wt+wtS l
end
theorem aDf:∀(l:List eN)(k:Nat)(h:k<l.length),l[k].wt <= wtA l
 |a::l,0,_=>by rw [wtA];simp
 |a::l,k+1,h=>by have:=aDf l k Er;rw [wtA];simp;omega
theorem aCj:∀(l:List eN),l.length <= wtA l
 |[]=>G0
 |a::l=>by have:=aCj l;rw [wtA,eN.wt];simp;omega
theorem uF:∀(l:List aJ)(k:Nat)(h:k<l.length),l[k].wt <= wtS l
 |a::l,0,_=>by rw [wtS];simp
 |a::l,k+1,h=>by have:=uF l k Er;rw [wtS];simp;omega
theorem gD(s:aJ):s.wt=1+s.expr.nodes+s.ref.wt+wtA s.args+wtS s.thn+wtS s.els:=by cases s;rw [aJ.wt];rfl
theorem uZ:∀(l:List aJ),l.length <= wtS l
 |[]=>G0
 |a::l=>by have:=uZ l;rw [wtS,gD];simp;omega
theorem xE{r:cY}(h:okRefB r=true):bQ r.name=true /\ (r.index.length=0∨r.index.length=1) /\ ∀e,e∈r.index -> dM e=true:=by
 obtain ⟨n,ix⟩:=r
 unfold okRefB at h
 rw [Bool.and_eq_true] at h
 match ix,h with
 |[],h=>exact ⟨h.1,.inl rfl,λe he=>by cases he⟩
 |[e],h=>exact ⟨h.1,.inr rfl,λx hx=>by rw [List.mem_singleton.1 hx];exact h.2⟩
 |_::_::_,h=>simp at h
theorem kR{e:aH}(h:dM e=true):eO e=true:=by rw [dM,Bool.and_eq_true] at h;exact h.1
theorem wI{r:cY}(h:0<r.index.length):dC r=r.name.data.toList++[(91:UInt8)]++aP r.index[0]++[93]:=by
 obtain ⟨n,ix⟩:=r
 match ix,h with
 |e::_,_=>rfl
theorem aCa{r:cY}(h:r.index.length=0):dC r=r.name.data.toList:=by
 obtain ⟨n,ix⟩:=r
 rw [List.length_eq_zero_iff] at h
 dsimp only at h
 subst h;rfl
theorem rS{α:Type}(f:α -> List UInt8):∀(l:List α)(k:Nat),(bW f (l.take k)).length <= (bW f l).length
 |[],k=>FE
 |x::l,0=>FE
 |x::l,k+1=>by
  simp only [List.take_succ_cons,bW,length_append,List.length_flatten,List.map_map]
  have:∀(m:List α)(k:Nat),(List.map (List.length ∘ λy=>[44,32]++f y) (m.take k)).sum <= (List.map (List.length ∘ λy=>[44,32]++f y) m).sum:=by
   intro m
   induction m with
   |nil=>intro k;simp
   |cons a m ih=>intro k;cases k with
    |zero=>simp
    |succ k=>have:=ih k;simp only [List.take_succ_cons,List.map_cons,List.sum_cons];omega
  have:=this l k;omega
theorem aGp{α:Type}(f:α -> List UInt8)(l:List α)(k:Nat)(h:k<l.length):(f l[k]).length <= (bW f l).length:=by
 have h1:=rS f l (k+1)
 rw [hJ f l k h] at h1
 simp only [length_append] at h1;omega
theorem pD{a:eN}(h:a.mutex=true):dE a=[109,117,116,101,120,32]++dC a.ref:=by unfold dE;rw [if_pos h]
theorem oZ{a:eN}(h:a.mutex=false):dE a=aP a.expr:=by unfold dE;rw [if_neg B5]
theorem xN{a:eN}(h:fY a=true):(a.mutex=true -> okRefB a.ref=true) /\ (a.mutex=false -> dM a.expr=true):=by
 unfold fY at h
 constructor
 ·intro hm;rw [hm,if_pos rfl,Bool.and_eq_true] at h;exact h.1
 intro hm;rw [hm,if_neg V,Bool.and_eq_true] at h;exact h.2
end
end Go.Proofs.YtjgeihmhppadaaaGreatDoor
