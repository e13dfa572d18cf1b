import Derived.Test.YtbdfdjdgfanjaaaGreatDoorG7J
set_option linter.all false
set_option synthInstance.maxHeartbeats 1000000
set_option synthInstance.maxSize 1000000
set_option maxHeartbeats 1600000
set_option maxRecDepth 100000
namespace Go.Proofs.YtbdfdjdgfanjaaaGreatDoor
open Go.Proofs.Tryz
open List (length_append length_cons length_nil mem_append mem_cons not_mem_nil append_assoc getElem_mem take_of_length_le)
section
inductive fF where
 |glob (g:aI)
 |mtx (m:cL)
 |fn (f:bS)
def VG(g:aI):Prop:=bQ g.name=true /\ g.init.natAbs <= 9223372036854775807
def VM(m:cL):Prop:=bQ m.name=true /\ 0 <= m.size /\ m.size <= 64 /\ (m.reentrant=true -> m.size=0)
def VF(f:bS):Prop:=bQ f.name=true /\ f.params.length <= 6 /\ (∀x,x∈f.params -> bQ x.name=true) /\ VSs 23 f.body
def fF.ok:fF -> Prop
 |.glob g=>VG g
 |.mtx m=>VM m
 |.fn f=>VF f
def fF.text:fF -> List UInt8
 |.glob g=>aU g
 |.mtx m=>bE m
 |.fn f=>funcText f
def bEr(g:aI):List PT:=wrd [118,97,114]::nmT g.name::((if g.init=0 then [] else sgn [61]::(if g.init<0 then [sgn [45],nuT g.init.natAbs] else [nuT g.init.natAbs]))++[sgn [59]])
def gT(m:cL):List PT:=(if m.reentrant then wrd [114,109,117,116,101,120] else wrd [109,117,116,101,120])::nmT m.name::((if 0<m.size then [sgn [91],nuT m.size.natAbs,sgn [93]] else [])++[sgn [59]])
def lQ(x:aS):List PT:=(if x.mutex then [wrd [109,117,116,101,120]] else [])++[nmT x.name]
def kA(f:bS):List PT:=wrd [102,117,110,99]::nmT f.name::sgn [40]::(fZ lQ f.params++sgn [41]::sgn [123]::(aQ f.body++[sgn [125]]))
def fF.toks:fF -> List PT
 |.glob g=>bEr g
 |.mtx m=>gT m
 |.fn f=>kA f
def fF.add(x:cK):fF -> cK
 |.glob g=>{x with globals:=x.globals++[g]}
 |.mtx m=>{x with mutexes:=x.mutexes++[m]}
 |.fn f=>{x with funcs:=x.funcs++[f]}
section
variable {r:List UInt8}{ps:List PT}
end
section
variable {l:List Tok}
end
end
section
def fit(n:Int):Prop:=-9223372036854775808 <= n /\ n <= 9223372036854775807
mutual
def aH.sane:aH -> Prop
 |.mk _ num name args=>fit num /\ name.size <= 4611686018427387904 /\ iI args
def iI:List aH -> Prop
 |[]=>True
 |e::es=>e.sane /\ iI es
end
def cY.sane(r:cY):Prop:=r.name.size <= 4611686018427387904 /\ iI r.index
def eN.sane(a:eN):Prop:=a.ref.sane /\ a.expr.sane
mutual
def aJ.sane:aJ -> Prop
 |.mk _ n e r args t el=>n.size <= 4611686018427387904 /\ e.sane /\ r.sane /\ (∀a,a∈args -> a.sane) /\ gC t /\ gC el
def gC:List aJ -> Prop
 |[]=>True
 |s::r=>s.sane /\ gC r
end
def bS.sane(f:bS):Prop:=f.name.size <= 4611686018427387904 /\ (∀x,x∈f.params -> x.name.size <= 4611686018427387904) /\ gC f.body
structure cK.sane (p:cK):Prop where
 globals:∀g,g∈p.globals -> fit g.init /\ g.name.size <= 4611686018427387904
 mutexes:∀m,m∈p.mutexes -> fit m.size /\ m.name.size <= 4611686018427387904
 funcs:∀f,f∈p.funcs -> f.sane
theorem mV:∀(l:List aH),iI l -> ∀e,e∈l -> e.sane
 |[],_,_,h=>DV
 |x::l,hs,e,h=>by
  rw [iI] at hs
  rcases mem_cons.1 h with rfl|h
  ·exact hs.1
  exact mV l hs.2 e h
theorem oS:∀(l:List aJ),gC l -> ∀e,e∈l -> e.sane
 |[],_,_,h=>DV
 |x::l,hs,e,h=>by
  rw [gC] at hs
  rcases mem_cons.1 h with rfl|h
  ·exact hs.1
  exact oS l hs.2 e h
theorem rW(op:Int):(aM op<5 /\ 5 <= op /\ op <= 17)∨(aM op=5 /\ (op=3∨op=4))∨aM op=6:=by
 unfold aM
 repeat' split
 all_goals omega
mutual
theorem yT:∀(e:aH),e.sane -> eO e=true -> VE e
 |.mk op num name args,hs,h=>by
  rw [aH.sane] at hs
  rw [eO] at h
  simp only [Bool.and_eq_true,decide_eq_true_eq] at h
  obtain ⟨⟨h1,h2⟩,h3⟩:=h
  have hv:=aB0 args hs.2.2 h3
  rcases rW op with ⟨k1,k2⟩|⟨k1,k2⟩|k1
  ·rw [if_neg J] at h1
   simp only [Bool.and_eq_true,decide_eq_true_eq] at h1
   obtain ⟨rfl,rfl⟩:=h1
   rw [arity,if_neg J,if_neg J] at h2
   match args,h2,hv with
   |[a,b],_,hv=>exact .bin op a b k2 (hv a G0) (hv b G0)
  ·rw [if_neg J] at h1
   simp only [Bool.and_eq_true,decide_eq_true_eq] at h1
   obtain ⟨rfl,rfl⟩:=h1
   rw [arity,if_neg J,if_pos k1] at h2
   match args,h2,hv with
   |[a],_,hv=>exact .un op a k2 (hv a G0)
  rw [if_pos k1] at h1
  rw [arity,if_pos k1] at h2
  obtain rfl:=List.length_eq_zero_iff.1 h2
  unfold jG at h1
  simp only [Bool.or_eq_true,Bool.and_eq_true,decide_eq_true_eq] at h1
  rcases h1 with ⟨⟨rfl,h0⟩,rfl⟩|⟨⟨rfl,rfl⟩,h0⟩
  ·obtain ⟨n,rfl⟩:∃n:Nat,num=n:=⟨num.toNat,J⟩
   exact .num n (by have:=hs.1.2;omega)
  exact .name name h0
theorem aB0:∀(l:List aH),iI l -> dY l=true -> ∀x,x∈l -> VE x
 |[],_,_,_,h=>DV
 |y::l,hs,h,x,hx=>by
  rw [iI] at hs
  rw [dY,Bool.and_eq_true] at h
  rcases mem_cons.1 hx with hx|hx
  ·rw [hx];exact yT y hs.1 h.1
  exact aB0 l hs.2 h.2 x hx
end
theorem iL(D:Nat):∀(l:List aJ),bM D l=true -> D<24
 |[],h=>by rw [bM] at h;exact of_decide_eq_true h
 |s::r,h=>by rw [bM,Bool.and_eq_true] at h;exact iL D r h.2
end
section
open Go.RowKit
abbrev bP(l:List ByteArray):List AC:=l.map λx=>Vs x
theorem rB(names:List ByteArray)(j:Nat)(h:j<names.length):pk false 1 (bP names) (0+j*1)=some (Cs (names[j])):=by
 unfold pk bP
 rw [if_neg V,Nat.zero_add,Nat.mul_one,List.getElem?_map,List.getElem?_eq_getElem h];rfl
theorem aGf{e:aH}(h:e.sane)(k:Nat)(hk:k<e.args.length):e.args[k].sane:=by
 cases e with
 |mk op num name args=>rw [aH.sane] at h;exact mV _ h.2.2 _ (getElem_mem hk)
theorem aJn{e:aH}(h:e.sane):e.name.size <= 4611686018427387904:=by cases e;rw [aH.sane] at h;exact h.2.1
theorem aIc:∀(N:Nat)(e:aH),e.nodes <= N -> N <= 1000000000 -> e.sane -> ∀s:Sto,aL prog 142 [.agg (cU e)] [] s λr s'=>r=Cb (eO e) /\ s'=s
 |0,e,h,_,_=>Bm
 |N+1,e,h,hN,hs=>aHf e (aJn hs) J λk hk s=>aIc N e.args[k] B0 J (aGf hs k hk) s
theorem qT(e:aH)(hN:e.nodes <= 1000000000)(hs:e.sane)(s:Sto):aL prog 108 [.agg (cU e)] [] s λt s'=>t=Cb (dM e) /\ s'=s:=by
 obtain ⟨bx,rw⟩:=s
 refine acX 10 func108 ?_
 refine go 9 λb1=>?_
 refine wc0 Y call142 Y (aIc _ e (Nat.le_refl _) hN hs _) ?_
 rintro _ _ ⟨hr1,rfl⟩
 rcases Bool.eq_false_or_eq_true (eO e) with h2|h2
 focus
  rw [h2] at hr1
  subst hr1
  refine go 2 ?_
  refine wc0 Y call143 Y (aGd _ e (Nat.le_refl _) hN _) ?_
  rintro _ _ ⟨rfl,rfl⟩
  by_cases h4:((dI e:Nat):Int) <= 24
  focus
   refine wcp true Y (aPz h4) (go 5 ?_)
  rotate_left
  refine wcp false Y (aPx h4) (go 5 ?_)
 rotate_left 2
 rw [h2] at hr1
 subst hr1
 refine go 9 ?_
 all_goals
  exact bHe (s':=⟨bx,rw⟩) Y sb1 ⟨cX (by unfold dM;first|(rw [h2];simp;omega)|(rw [h2];rfl)),Y⟩
theorem sM(z:Int)(h:fit z)(s:Sto):aL prog 112 [Ci z] [] s λr s'=>r=Cs (bytes (eH z)) /\ s'=s:=
 aHq (us:=[.int .i64 z]) rfl rfl (λw=>aHb z w h.1 h.2) s
theorem kU(e:aH):aP e=iX e.op e.num e.name (dP e.op 0 e.args):=by cases e;rw [aP];rfl
theorem vS(b:Int):∀(l:List aH)(j:Nat),(dP b j l).length=l.length
 |[],j=>by rw [dP];rfl
 |e::es,j=>by rw [dP,length_cons,length_cons,vS b es]
theorem pL(b:Int):∀(l:List aH)(j k:Nat)(h:k<l.length),(dP b j l)[k]?=some (if cV b (j+k) l[k].op then [40]++aP l[k]++[41] else aP l[k])
 |e::es,j,0,h=>by rw [dP];rfl
 |e::es,j,k+1,h=>by
  rw [dP,List.getElem?_cons_succ,pL b es (j+1) k Er]
  rw [show j+1+k=j+(k+1) by omega];rfl
theorem aCb{e:aH}(h:eO e=true):(e.op=1 /\ e.args.length=0)∨(e.op=2 /\ e.args.length=0)∨((e.op=3∨e.op=4) /\ e.args.length=1 /\ aM e.op=5)∨(aM e.op<5 /\ 5 <= e.op /\ e.op <= 17 /\ e.args.length=2):=by
 rw [dZ,Bool.and_eq_true,Bool.and_eq_true,decide_eq_true_eq] at h
 obtain ⟨⟨h1,h2⟩,-⟩:=h
 unfold arity at h2
 rcases rW e.op with ⟨k1,k2⟩|⟨k1,k2⟩|k1
 ·rw [if_neg J,if_neg J] at h2;exact .inr (.inr (.inr ⟨k1,k2.1,k2.2,h2⟩))
 ·rw [if_neg J,if_pos k1] at h2;exact .inr (.inr (.inl ⟨k2,h2,k1⟩))
 rw [if_pos k1] at h1 h2
 unfold jG at h1
 simp only [Bool.or_eq_true,Bool.and_eq_true,decide_eq_true_eq] at h1
 rcases h1 with h1|h1
 ·exact .inl ⟨h1.1.1,h2⟩
 exact .inr (.inl ⟨h1.1.1,h2⟩)
theorem aKx{e:aH}(h:eO e=true)(k:Nat)(hk:k<e.args.length):eO e.args[k]=true:=by
 cases hs:eO e.args[k] with
 |true=>rfl
 |false=>rw [dZ,oF _ _ hk hs,Bool.and_false] at h;cases h
theorem aIl{e:aH}(h:eO e=true)(k:Nat)(hk:k<e.args.length):((dP e.op 0 e.args).getD k []).length <= (aP e).length:=by
 rw [kU]
 rcases aCb h with h1|h1|h1|h1
 ·omega
 ·omega
 ·obtain rfl:k=0:=J
  unfold iX
  rcases h1.1 with h3|h3<;>simp [h3]
 unfold iX
 rw [if_neg J,if_neg J,if_neg J,if_neg J,if_pos h1.1]
 have:k=0∨k=1:=J
 rcases this with rfl|rfl<;>(simp only [length_append];omega)
theorem aD4{e:aH}(h:eO e=true)(k:Nat)(hk:k<e.args.length):(aP e.args[k]).length <= (aP e).length:=by
 have h1:=aIl h k hk
 have h2:=pL e.op e.args 0 k hk
 rw [List.getD_eq_getElem?_getD,h2,Option.getD_some] at h1
 split at h1<;>(try simp only [length_append] at h1)<;>omega
theorem aLd{op:Int}(h:5 <= op /\ op <= 17):op=5∨op=6∨op=7∨op=8∨op=9∨op=10∨op=11∨op=12∨op=13∨op=14∨op=15∨op=16∨op=17:=J
theorem aKw{op:Int}(h:5 <= op /\ op <= 17):op∈dS (aM op):=by
 rcases aLd h with rfl|rfl|rfl|rfl|rfl|rfl|rfl|rfl|rfl|rfl|rfl|rfl|rfl<;>decide
theorem aNo{op:Int}(h:5 <= op /\ op <= 17):∀i (h1:i<(dS (aM op)).length) (h2:i<(jP (aM op)).length),(dS (aM op))[i]=op -> (jP (aM op))[i]=bytes (iW op):=by
 rcases aLd h with rfl|rfl|rfl|rfl|rfl|rfl|rfl|rfl|rfl|rfl|rfl|rfl|rfl<;>decide
theorem aQc{c:Prop}[Decidable c]{l r:List UInt8}{n:Nat}(h1:l.length <= n)(h2:r.length <= n):(if c then l else r).length <= n:=by split<;>assumption
theorem kW(op:Int):(iW op).length <= 2:=by
 unfold iW
 repeat' (with_reducible apply aQc)
 all_goals decide
theorem pE(ts:List (List UInt8))(j:Nat)(h:j<(ts.map bytes).length):(ts.map bytes)[j]=bytes (ts.getD j []):=by
 have h1:j<ts.length:=Er
 simp [List.getD,h1]
theorem aJ7(e:aH)(hN:e.nodes <= 1000000000)(hs:e.sane)(hsh:eO e=true)(hL:(aP e).length <= 1000000000000000)(ih:∀k (h:k<e.args.length) (s:Sto),aL prog 145 [.agg (cU e.args[k])] [] s λr s'=>r=Cs (bytes (aP e.args[k])) /\ s'=s)(s:Sto):aL prog 145 [.agg (cU e)] [] s λt s'=>t=Cs (bytes (aP e)) /\ s'=s:=by
 obtain ⟨bx,rw⟩:=s
 have hlen:=uC e
 have hops:=aCb hsh
 have hfit:fit e.num:=by cases e;rw [aH.sane] at hs;exact hs.1
 have hget:=pL e.op e.args 0
 have htl:=vS e.op e.args 0
 have hal:=aIl hsh
 simp only [Nat.zero_add] at hget
 obtain ⟨ts,hts⟩:∃ts,dP e.op 0 e.args=ts:=⟨_,rfl⟩
 rw [hts] at hget htl hal
 refine acX 95 func145 ?_
 refine go 18 λb1=>?_
 refine qR 9 1 ?_
 refine aO2 (λk=>True) (e.args.length) 4 3 9 1 (λk=>((ts.take k).map bytes).length) (λk=>bP ((ts.take k).map bytes)) [b1] (λk=>[(1,pP b1)]) trivial (cQf Cc) λk v hk hvk=>?_
 replace hvk:True:=hvk
 try dsimp only
 have hrl:((ts.take k).map bytes).length <= k:=by simp only [List.length_map,List.length_take];omega
 refine go 7 ?_
 by_cases h1:((k:Nat):Int)<((e.args.length:Nat):Int)
 ·refine wcp true Y (jZ h1) (go 12 ?_)
  refine wyz Y (bH fO cU e.args iU fP k Y Y Y Y J V runUnderlying63 sizeOf65) (go 1 ?_)
  refine wc0 Y call145 Y (ih k J _) ?_
  rintro _ _ ⟨rfl,rfl⟩
  refine go 6 ?_
  have hpl:=aD4 hsh k J
  refine go 2 ?_
  refine wc0 Y call168 Y (aIh e k J _) ?_
  rintro _ _ ⟨hr4,rfl⟩
  rcases Bool.eq_false_or_eq_true (cV e.op k e.args[k].op) with h5|h5
  focus
   rw [h5] at hr4
   subst hr4
   refine go 5 ?_
   refine wyz Y (aN [40] (aP e.args[k]) Y Y Y Y Y AM) ?_
   refine wyz Y (aN ([40]++(aP e.args[k])) [41] Y Y Y Y Y AM) (go 6 ?_)
   refine wo Y (bDk (r:=bP [(bytes (([40]++(aP e.args[k]))++[41]))]) cRt ?_)
   refine wo Y (bDm [] bDv Y Y V B1 J (@length_append _ ((ts.take k).map bytes) [(bytes (([40]++(aP e.args[k]))++[41]))]).symm Bo Bq (List.map_append (f:=λx=>AC.val (.string x))).symm λw2=>?_)
   refine go 6 ?_
   refine wad Y (go 2 ?_)
   rw [show (ts.take (k+1)).map bytes=(ts.take k).map bytes++[(bytes (([40]++(aP e.args[k]))++[41]))] by rw [List.take_succ,hget k J,h5];simp]
  rotate_left
  rw [h5] at hr4
  subst hr4
  refine go 8 ?_
  refine wo Y (bDk (r:=bP [(bytes (aP e.args[k]))]) cRt ?_)
  refine wo Y (bDm [] bDv Y Y V B1 J (@length_append _ ((ts.take k).map bytes) [(bytes (aP e.args[k]))]).symm Bo Bq (List.map_append (f:=λx=>AC.val (.string x))).symm λw3=>?_)
  refine go 6 ?_
  refine wad Y (go 2 ?_)
  rw [show (ts.take (k+1)).map bytes=(ts.take k).map bytes++[(bytes (aP e.args[k]))] by rw [List.take_succ,hget k J,h5];simp]
  all_goals
   exact ⟨J,trivial,_,cQf (h:=aG Y (gQ J) (sA Y)) Dr⟩
 refine wcp false Y (jQ h1) (go 12 ?_)
 obtain rfl:k=e.args.length:=J
 rw [take_of_length_le J]
 refine aE1 3 Y ?_
 refine go 2 ?_
 by_cases h9:e.op=1
 ·refine wcp true Y (eR h9) (go 8 ?_)
  refine wc0 Y call112 Y (sM e.num hfit _) ?_
  rintro _ _ ⟨rfl,rfl⟩
  refine go 6 ?_
  exact bHe (s':=⟨bx,rw⟩) Y sb1 ⟨oW (by rw [kU,hts];unfold iX;simp only [if_pos h9];try rfl),Y⟩
 refine wcp false Y (eD h9) (go 8 ?_)
 by_cases h13:e.op=2
 ·refine wcp true Y (eR h13) (go 14 ?_)
  exact bHe (s':=⟨bx,rw⟩) Y sb1 ⟨oW (by rw [kU,hts];unfold iX;simp only [if_neg h9,if_pos h13];try exact (back _).symm),Y⟩
 refine wcp false Y (eD h13) (go 8 ?_)
 by_cases h16:e.op=3
 ·refine wcp true Y (eR h16) (go 6 ?_)
  have hl1:e.args.length=1:=Ck
  have hg0:=hal 0 J
  refine go 1 ?_
  refine wyz Y (rT (λx=>Vs x) (ts.map bytes) 0 Y Y Y Y Bl runUnderlying33 sizeOf9) (go 1 ?_)
  refine wyz Y (aN [45] (ts.getD 0 []) Y Y Y Y (pE _ _ Bl) AM) (go 6 ?_)
  exact bHe (s':=⟨bx,rw⟩) Y sb1 ⟨oW (by rw [kU,hts];unfold iX;simp only [if_neg h9,if_neg h13,if_pos h16];try rfl),Y⟩
 refine wcp false Y (eD h16) (go 8 ?_)
 by_cases h19:e.op=4
 ·refine wcp true Y (eR h19) (go 6 ?_)
  have hl1:e.args.length=1:=Ck
  have hg0:=hal 0 J
  refine go 1 ?_
  refine wyz Y (rT (λx=>Vs x) (ts.map bytes) 0 Y Y Y Y Bl runUnderlying33 sizeOf9) (go 1 ?_)
  refine wyz Y (aN [33] (ts.getD 0 []) Y Y Y Y (pE _ _ Bl) AM) (go 6 ?_)
  exact bHe (s':=⟨bx,rw⟩) Y sb1 ⟨oW (by rw [kU,hts];unfold iX;simp only [if_neg h9,if_neg h13,if_neg h16,if_pos h19];try rfl),Y⟩
 refine wcp false Y (eD h19) (go 11 ?_)
 have hlt5:aM e.op<5:=Ck
 have hop:5 <= e.op /\ e.op <= 17:=Ck
 have hl2:e.args.length=2:=Ck
 have hsl:=aKy (aM e.op)
 have hg0:=hal 0 J
 have hg1:=hal 1 J
 refine wc0 Y call167 Y (nA e.op _) ?_
 rintro _ _ ⟨rfl,rfl⟩
 refine wc0 Y call121 Y (aO6 (aM e.op) J _) ?_
 rintro _ _ ⟨rfl,rfl⟩
 refine go 14 ?_
 refine lE (λi=>∀j (h:j<(dS (aM e.op)).length),j<i -> (dS (aM e.op))[j]≠e.op) ((dS (aM e.op)).length) 8 (λi=>[(1,pP b1),(3,.c (.sl (ts.map bytes).length ((ts.map bytes).map λx=>Vs x))),(6,.c (aF6 (jP (aM e.op)))),(7,.c (aEm (dS (aM e.op))))]) Bh (sA Y) λi hi hvi=>?_
 replace hvi:∀j (h:j<(dS (aM e.op)).length),j<i -> (dS (aM e.op))[j]≠e.op:=hvi
 try dsimp only
 refine go 6 ?_
 by_cases h24:((i:Nat):Int)<(((dS (aM e.op)).length:Nat):Int)
 ·refine wcp true Y (jZ h24) (go 8 ?_)
  refine dx [b1] (tz [(0,true),(1,true)] 5 (go 3 ?_))
  refine tx 2 Y (rT (λx=>Vi x) (dS (aM e.op)) i Y Y Y Y J runUnderlying22 sizeOf3) (tz [(3,true),(4,true),(5,true)] 1 (go 4 ?_))
  by_cases h26:(dS (aM e.op))[i]=e.op
  ·refine tx 6 Y (bO true Y Y Y (eR h26)) ?_
   refine ax (go 3 ?_)
   refine dx [b1] (tz [(0,true)] 14 (go 2 ?_))
   refine tx 1 Y (rT (λx=>Vs x) (ts.map bytes) 0 Y Y Y Y Bl runUnderlying33 sizeOf9) (tz [(2,true)] 12 (go 2 ?_))
   refine tx 3 Y (aN (ts.getD 0 []) [32] Y Y Y (pE _ _ Bl) Y AM) (tz [(4,true),(5,true)] 9 (go 3 ?_))
   refine tx 6 Y (rT (λx=>Vs x) (jP (aM e.op)) i Y Y Y Y J runUnderlying33 sizeOf9) (tz [(7,true)] 7 (go 2 ?_))
   refine tx 8 Y (aN ((ts.getD 0 [])++[32]) (iW e.op) Y Y Y Y (aNo hop i J J h26) AM) ?_
   refine tx 9 Y (aN (((ts.getD 0 [])++[32])++(iW e.op)) [32] Y Y Y Y Y AM) (tz [(10,true)] 4 (go 2 ?_))
   refine tx 11 Y (rT (λx=>Vs x) (ts.map bytes) 1 Y Y Y Y Bl runUnderlying33 sizeOf9) (tz [(12,true)] 2 (go 2 ?_))
   refine tx 13 Y (aN ((((ts.getD 0 [])++[32])++(iW e.op))++[32]) (ts.getD 1 []) Y Y Y Y (pE _ _ Bl) AM) (tz [(14,true)] 0 (go 2 ?_))
   refine ax (go 7 ?_)
   exact bHe (s':=⟨bx,rw⟩) Y sb1 ⟨oW (by rw [kU,hts];unfold iX;simp only [if_neg h9,if_neg h13,if_neg h16,if_neg h19,if_pos hlt5];try rfl),Y⟩
  refine tx 6 Y (bO false Y Y Y (eD h26)) ?_
  refine ax (go 7 ?_)
  refine wad Y (go 2 ?_)
  exact ⟨J,(λj hj hlt hq=>(Nat.lt_or_ge j i).elim (λh9=>hvi j hj h9 hq) (λh9=>by have h8:j=i:=J;subst h8;exact h26 hq)),(aG Y (gQ J) (sA Y))⟩
 refine wcp false Y (jQ h24) (go 14 ?_)
 exact absurd (List.mem_iff_getElem.1 (aKw hop)) (λ⟨j,hj,hq⟩=>hvi j hj J hq)
theorem rR:∀(N:Nat)(e:aH),e.nodes <= N -> N <= 1000000000 -> e.sane -> eO e=true -> (aP e).length <= 1000000000000000 -> ∀s:Sto,aL prog 145 [.agg (cU e)] [] s λr s'=>r=Cs (bytes (aP e)) /\ s'=s
 |0,e,h,_,_,_,_=>Bm
 |N+1,e,h,hN,hs,hsh,hL=>aJ7 e J hs hsh hL λk hk s=>rR N e.args[k] B0 J (aGf hs k hk) (aKx hsh k hk) (Nat.le_trans (aD4 hsh k hk) hL) s
def cY.wt(r:cY):Nat:=1+cZ r.index
def eN.wt(a:eN):Nat:=1+a.ref.wt+a.expr.nodes
def wtA:List eN -> Nat
 |[]=>0
 |a::l=>a.wt+wtA l
mutual
def aJ.wt:aJ -> Nat
 |.mk _ _ e r a t f=>1+e.nodes+r.wt+wtA a+wtS t+wtS f
def wtS:List aJ -> Nat
 |[]=>0
 |s::l=>s.wt+wtS l
end
theorem aDf:∀(l:List eN)(k:Nat)(h:k<l.length),l[k].wt <= wtA l
 |a::l,0,_=>by rw [wtA];simp
 |a::l,k+1,h=>by have:=aDf l k Er;rw [wtA];simp;omega
theorem aCj:∀(l:List eN),l.length <= wtA l
 |[]=>G0
 |a::l=>by have:=aCj l;rw [wtA,eN.wt];simp;omega
theorem uF:∀(l:List aJ)(k:Nat)(h:k<l.length),l[k].wt <= wtS l
 |a::l,0,_=>by rw [wtS];simp
 |a::l,k+1,h=>by have:=uF l k Er;rw [wtS];simp;omega
theorem gD(s:aJ):s.wt=1+s.expr.nodes+s.ref.wt+wtA s.args+wtS s.thn+wtS s.els:=by cases s;rw [aJ.wt];rfl
theorem uZ:∀(l:List aJ),l.length <= wtS l
 |[]=>G0
 |a::l=>by have:=uZ l;rw [wtS,gD];simp;omega
theorem xE{r:cY}(h:okRefB r=true):bQ r.name=true /\ (r.index.length=0∨r.index.length=1) /\ ∀e,e∈r.index -> dM e=true:=by
 obtain ⟨n,ix⟩:=r
 unfold okRefB at h
 rw [Bool.and_eq_true] at h
 match ix,h with
 |[],h=>exact ⟨h.1,.inl rfl,λe he=>by cases he⟩
 |[e],h=>exact ⟨h.1,.inr rfl,λx hx=>by rw [List.mem_singleton.1 hx];exact h.2⟩
 |_::_::_,h=>simp at h
theorem kR{e:aH}(h:dM e=true):eO e=true:=by rw [dM,Bool.and_eq_true] at h;exact h.1
theorem wI{r:cY}(h:0<r.index.length):dC r=r.name.data.toList++[(91:UInt8)]++aP r.index[0]++[93]:=by
 obtain ⟨n,ix⟩:=r
 match ix,h with
 |e::_,_=>rfl
theorem aCa{r:cY}(h:r.index.length=0):dC r=r.name.data.toList:=by
 obtain ⟨n,ix⟩:=r
 rw [List.length_eq_zero_iff] at h
 dsimp only at h
 subst h;rfl
theorem rS{α:Type}(f:α -> List UInt8):∀(l:List α)(k:Nat),(bW f (l.take k)).length <= (bW f l).length
 |[],k=>FE
 |x::l,0=>FE
 |x::l,k+1=>by
  simp only [List.take_succ_cons,bW,length_append,List.length_flatten,List.map_map]
  have:∀(m:List α)(k:Nat),(List.map (List.length ∘ λy=>[44,32]++f y) (m.take k)).sum <= (List.map (List.length ∘ λy=>[44,32]++f y) m).sum:=by
   intro m
   induction m with
   |nil=>intro k;simp
   |cons a m ih=>intro k;cases k with
    |zero=>simp
    |succ k=>have:=ih k;simp only [List.take_succ_cons,List.map_cons,List.sum_cons];omega
  have:=this l k;omega
theorem aGp{α:Type}(f:α -> List UInt8)(l:List α)(k:Nat)(h:k<l.length):(f l[k]).length <= (bW f l).length:=by
 have h1:=rS f l (k+1)
 rw [hJ f l k h] at h1
 simp only [length_append] at h1;omega
theorem pD{a:eN}(h:a.mutex=true):dE a=[109,117,116,101,120,32]++dC a.ref:=by unfold dE;rw [if_pos h]
theorem oZ{a:eN}(h:a.mutex=false):dE a=aP a.expr:=by unfold dE;rw [if_neg B5]
theorem xN{a:eN}(h:fY a=true):(a.mutex=true -> okRefB a.ref=true) /\ (a.mutex=false -> dM a.expr=true):=by
 unfold fY at h
 constructor
 ·intro hm;rw [hm,if_pos rfl,Bool.and_eq_true] at h;exact h.1
 intro hm;rw [hm,if_neg V,Bool.and_eq_true] at h;exact h.2
theorem sP(r:cY)(hok:okRefB r=true)(hs:r.sane)(hN:cZ r.index <= 900000000)(hL:(dC r).length <= 1000000000000000)(s:Sto):aL prog 147 [.agg (encR r)] [] s λt s'=>t=Cs (bytes (dC r)) /\ s'=s:=by
 obtain ⟨bx,rw⟩:=s
 replace hok:=xE hok
 have hnm:r.name.data.toList.length <= 4611686018427387904:=hs.1
 refine acX 19 func147 ?_
 refine go 12 λb1=>?_
 by_cases h1:((r.index.length:Nat):Int)=0
 ·refine wcp true Y (eR h1) (go 12 ?_)
  exact bHe (s':=⟨bx,rw⟩) Y sb1 ⟨oW EP,Y⟩
 refine wcp false Y (eD h1) (go 6 ?_)
 refine dx [b1] ?_
 have hi0:0<r.index.length:=J
 have hse:=mV _ hs.2 _ (getElem_mem hi0)
 have hsh:=kR (hok.2.2 _ (getElem_mem hi0))
 have hni:=nM r.index 0 hi0
 have hL1:=hL
 rw [wI hi0] at hL1
 simp only [length_append] at hL1
 replace hL1:(aP r.index[0]).length <= 1000000000000000:=by omega
 refine tz [(0,true),(1,true)] 9 (go 3 ?_)
 refine tx 2 Y (cz r.name.data.toList ([91]:List UInt8) Y Y Y (back _) Y) (tz [(3,true),(4,true)] 6 (go 3 ?_))
 refine tx 5 Y (bH fO cU r.index iU fP 0 Y Y Y Y J V runUnderlying63 sizeOf65) (tz [(6,true)] 4 (go 2 ?_))
 refine ox 7 Y Y (bV call145 (rR _ r.index[0] (Nat.le_refl _) J hse hsh hL1 _) ?_)
 rintro _ _ ⟨rfl,rfl⟩
 refine tx 8 Y (cz (r.name.data.toList++([91]:List UInt8)) (aP r.index[0]) Y Y Y Y Y) ?_
 refine tx 9 Y (cz ((r.name.data.toList++([91]:List UInt8))++(aP r.index[0])) [93] Y Y Y Y Y) (tz [(10,true)] 0 (go 2 ?_))
 refine ax (go 2 ?_)
 exact bHe (s':=⟨bx,rw⟩) Y sb1 ⟨oW (by rw [wI hi0]),Y⟩
theorem zL(l:List eN)(hok:∀a,a∈l -> fY a=true)(hs:∀a,a∈l -> a.sane)(hw:wtA l <= 900000000)(hL:(dF l).length <= 1000000000000000)(s:Sto):aL prog 146 [.c (Sq eJ l)] [] s λt s'=>t=Cs (bytes (dF l)) /\ s'=s:=by
 obtain ⟨bx,rw⟩:=s
 have hal:=aCj l
 have hL1:=hL
 unfold dF at hL1
 simp only [length_append] at hL1
 refine acX 39 func146 ?_
 refine go 17 ?_
 refine oC (l.length) 4 (λk=>[(3,Cs (bytes ([40]++bW dE (l.take (k))))),(0,.c (Sq eJ l))]) (sA Y) λk hk=>?_
 show AWp prog _ ⟨39,_,_,(4,nI k)::[(3,Cs (bytes ([40]++bW dE (l.take (k))))),(0,.c (Sq eJ l))]⟩ _
 have hcm:=rS dE l k
 refine go 6 ?_
 by_cases h1:((k:Nat):Int)<((l.length:Nat):Int)
 ·refine wcp true Y (jZ h1) (go 10 ?_)
  have hlt:k<l.length:=J
  have hsa:=hs _ (getElem_mem hlt)
  have hoa:=xN (hok _ (getElem_mem hlt))
  have hwa:=aDf l k hlt
  unfold eN.wt cY.wt at hwa
  have hci:=aGp dE l k hlt
  refine go 1 ?_
  by_cases h3:(0:Int)<((k:Nat):Int)
  ·refine wcp true Y (mH h3) (go 5 ?_)
   refine wyz Y (cz ([40]++bW dE (l.take (k))) [44,32] Y Y Y Y Y) (go 7 ?_)
   refine wyz Y (bH eJ eJ l iD (λ_=>Y) k Y Y Y Y J V runUnderlying136 sizeOf151) (go 1 ?_)
   rcases Bool.eq_false_or_eq_true (l[k].mutex) with h5|h5
   ·refine wyz Y (fL (bZ h5) (iP Y Y isAgg4 sizeOf4 Y)) (go 4 ?_)
    have hmx:=h5
    have hri:(dC l[k].ref).length <= 1000000000000000:=Es
    refine go 1 ?_
    refine wyz Y (cz (([40]++bW dE (l.take (k)))++[44,32]) [109,117,116,101,120,32] Y Y Y Y Y) (go 2 ?_)
    refine wyz Y (bH eJ eJ l iD (λ_=>Y) k Y Y Y Y J V runUnderlying136 sizeOf151) (go 2 ?_)
    refine wc0 Y call147 Y (sP l[k].ref (hoa.1 hmx) hsa.1 J J _) ?_
    rintro _ _ ⟨rfl,rfl⟩
    refine wyz Y (cz ((([40]++bW dE (l.take (k)))++[44,32])++[109,117,116,101,120,32]) (dC l[k].ref) Y Y Y Y Y) (go 6 ?_)
    refine wad Y (go 2 ?_)
    exact ⟨J,(aG Y (gQ J) (aG Y (jX (by rw [hJ dE l k J,if_neg J];rw [pD h5];simp)) (sA Y)))⟩
   refine wyz Y (fL (bZ h5) (iP Y Y isAgg4 sizeOf4 Y)) (go 4 ?_)
   have hmx:=h5
   have hri:(aP l[k].expr).length <= 1000000000000000:=by have h9:=hci;rw [oZ hmx] at h9;omega
   refine go 3 ?_
   refine wyz Y (bH eJ eJ l iD (λ_=>Y) k Y Y Y Y J V runUnderlying136 sizeOf151) (go 2 ?_)
   refine wc0 Y call145 Y (rR _ l[k].expr (Nat.le_refl _) J hsa.2 (kR (hoa.2 hmx)) J _) ?_
   rintro _ _ ⟨rfl,rfl⟩
   refine wyz Y (cz (([40]++bW dE (l.take (k)))++[44,32]) (aP l[k].expr) Y Y Y Y Y) (go 6 ?_)
   refine wad Y (go 2 ?_)
   exact ⟨J,(aG Y (gQ J) (aG Y (jX (by rw [hJ dE l k J,if_neg J];rw [oZ h5];simp)) (sA Y)))⟩
  refine wcp false Y (mI h3) (go 9 ?_)
  refine wyz Y (bH eJ eJ l iD (λ_=>Y) k Y Y Y Y J V runUnderlying136 sizeOf151) (go 1 ?_)
  rcases Bool.eq_false_or_eq_true (l[k].mutex) with h11|h11
  ·refine wyz Y (fL (bZ h11) (iP Y Y isAgg4 sizeOf4 Y)) (go 4 ?_)
   have hmx:=h11
   have hri:(dC l[k].ref).length <= 1000000000000000:=Es
   refine go 1 ?_
   refine wyz Y (cz ([40]++bW dE (l.take (k))) [109,117,116,101,120,32] Y Y Y Y Y) (go 2 ?_)
   refine wyz Y (bH eJ eJ l iD (λ_=>Y) k Y Y Y Y J V runUnderlying136 sizeOf151) (go 2 ?_)
   refine wc0 Y call147 Y (sP l[k].ref (hoa.1 hmx) hsa.1 J J _) ?_
   rintro _ _ ⟨rfl,rfl⟩
   refine wyz Y (cz (([40]++bW dE (l.take (k)))++[109,117,116,101,120,32]) (dC l[k].ref) Y Y Y Y Y) (go 6 ?_)
   refine wad Y (go 2 ?_)
   exact ⟨J,(aG Y (gQ J) (aG Y (jX (by rw [hJ dE l k J,if_pos J];rw [pD h11];simp)) (sA Y)))⟩
  refine wyz Y (fL (bZ h11) (iP Y Y isAgg4 sizeOf4 Y)) (go 4 ?_)
  have hmx:=h11
  have hri:(aP l[k].expr).length <= 1000000000000000:=by have h9:=hci;rw [oZ hmx] at h9;omega
  refine go 3 ?_
  refine wyz Y (bH eJ eJ l iD (λ_=>Y) k Y Y Y Y J V runUnderlying136 sizeOf151) (go 2 ?_)
  refine wc0 Y call145 Y (rR _ l[k].expr (Nat.le_refl _) J hsa.2 (kR (hoa.2 hmx)) J _) ?_
  rintro _ _ ⟨rfl,rfl⟩
  refine wyz Y (cz ([40]++bW dE (l.take (k))) (aP l[k].expr) Y Y Y Y Y) (go 6 ?_)
  refine wad Y (go 2 ?_)
  exact ⟨J,(aG Y (gQ J) (aG Y (jX (by rw [hJ dE l k J,if_pos J];rw [oZ h11];simp)) (sA Y)))⟩
 refine wcp false Y (jQ h1) (go 11 ?_)
 refine wyz Y (cz ([40]++bW dE (l.take (k))) [41] Y Y Y Y Y) (go 4 ?_)
 exact bHe (s':=⟨bx,rw⟩) Y sb0 ⟨oW (by unfold dF;rw [take_of_length_le J]),Y⟩
end
end Go.Proofs.YtbdfdjdgfanjaaaGreatDoor
