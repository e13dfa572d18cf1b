import Derived.Test.YtlmpchoaebhhmaaGreatDoorL15J
import Derived.Test.YtlmpchoaebhhmaaGreatDoorL1J
import Derived.Test.YtlmpchoaebhhmaaGreatDoorL13J
import Derived.Test.YtlmpchoaebhhmaaGreatDoorL5J
import Derived.Test.YtlmpchoaebhhmaaGreatDoorL14J
import Derived.Test.YtlmpchoaebhhmaaGreatDoorL8J
set_option linter.all false
set_option synthInstance.maxHeartbeats 1000000
set_option synthInstance.maxSize 1000000
set_option maxHeartbeats 1600000
set_option maxRecDepth 100000
namespace Go.Proofs.YtlmpchoaebhhmaaGreatDoor
open Go.Proofs.Tryz
open List (length_append length_cons length_nil mem_append mem_cons not_mem_nil append_assoc getElem_mem take_of_length_le)
section
def fit(n:Int):Prop:=-9223372036854775808 <= n /\ n <= 9223372036854775807
mutual
def aH.sane:aH -> Prop
 |.mk _ num name args=>fit num /\ name.size <= 4611686018427387904 /\ iI args
def iI:List aH -> Prop
 |[]=>True
 |e::es=>e.sane /\ iI es
end
def cY.sane(r:cY):Prop:=r.name.size <= 4611686018427387904 /\ iI r.index
def eN.sane(a:eN):Prop:=a.ref.sane /\ a.expr.sane
mutual
def aJ.sane:aJ -> Prop
 |.mk _ n e r args t el=>n.size <= 4611686018427387904 /\ e.sane /\ r.sane /\ (∀a,a∈args -> a.sane) /\ gC t /\ gC el
def gC:List aJ -> Prop
 |[]=>True
 |s::r=>s.sane /\ gC r
end
def bS.sane(f:bS):Prop:=f.name.size <= 4611686018427387904 /\ (∀x,x∈f.params -> x.name.size <= 4611686018427387904) /\ gC f.body
structure cK.sane (p:cK):Prop where
 globals:∀g,g∈p.globals -> fit g.init /\ g.name.size <= 4611686018427387904
 mutexes:∀m,m∈p.mutexes -> fit m.size /\ m.name.size <= 4611686018427387904
 funcs:∀f,f∈p.funcs -> f.sane
theorem mV:∀(l:List aH),iI l -> ∀e,e∈l -> e.sane
 |[],_,_,h=>by cases h
 |x::l,hs,e,h=>by
  rw [iI] at hs
  rcases mem_cons.1 h with rfl|h
  ·exact hs.1
  exact mV l hs.2 e h
theorem oS:∀(l:List aJ),gC l -> ∀e,e∈l -> e.sane
 |[],_,_,h=>by cases h
 |x::l,hs,e,h=>by
  rw [gC] at hs
  rcases mem_cons.1 h with rfl|h
  ·exact hs.1
  exact oS l hs.2 e h
theorem rW(op:Int):(aM op<5 /\ 5 <= op /\ op <= 17)∨(aM op=5 /\ (op=3∨op=4))∨aM op=6:=by
 unfold aM
 repeat' split
 all_goals omega
mutual
theorem yT:∀(e:aH),e.sane -> eO e=true -> VE e
 |.mk op num name args,hs,h=>by
  rw [aH.sane] at hs
  rw [eO] at h
  simp only [Bool.and_eq_true,decide_eq_true_eq] at h
  obtain ⟨⟨h1,h2⟩,h3⟩:=h
  have hv:=aB0 args hs.2.2 h3
  rcases rW op with ⟨k1,k2⟩|⟨k1,k2⟩|k1
  ·rw [if_neg (by omega)] at h1
   simp only [Bool.and_eq_true,decide_eq_true_eq] at h1
   obtain ⟨rfl,rfl⟩:=h1
   rw [arity,if_neg (by omega),if_neg (by omega)] at h2
   match args,h2,hv with
   |[a,b],_,hv=>exact .bin op a b k2 (hv a (by simp)) (hv b (by simp))
  ·rw [if_neg (by omega)] at h1
   simp only [Bool.and_eq_true,decide_eq_true_eq] at h1
   obtain ⟨rfl,rfl⟩:=h1
   rw [arity,if_neg (by omega),if_pos k1] at h2
   match args,h2,hv with
   |[a],_,hv=>exact .un op a k2 (hv a (by simp))
  rw [if_pos k1] at h1
  rw [arity,if_pos k1] at h2
  obtain rfl:=List.length_eq_zero_iff.1 h2
  unfold jG at h1
  simp only [Bool.or_eq_true,Bool.and_eq_true,decide_eq_true_eq] at h1
  rcases h1 with ⟨⟨rfl,h0⟩,rfl⟩|⟨⟨rfl,rfl⟩,h0⟩
  ·obtain ⟨n,rfl⟩:∃n:Nat,num=n:=⟨num.toNat,by omega⟩
   exact .num n (by have:=hs.1.2;omega)
  exact .name name h0
theorem aB0:∀(l:List aH),iI l -> dY l=true -> ∀x,x∈l -> VE x
 |[],_,_,_,h=>by cases h
 |y::l,hs,h,x,hx=>by
  rw [iI] at hs
  rw [dY,Bool.and_eq_true] at h
  rcases mem_cons.1 hx with hx|hx
  ·rw [hx];exact yT y hs.1 h.1
  exact aB0 l hs.2 h.2 x hx
end
theorem iL(D:Nat):∀(l:List aJ),bM D l=true -> D<24
 |[],h=>by rw [bM] at h;exact of_decide_eq_true h
 |s::r,h=>by rw [bM,Bool.and_eq_true] at h;exact iL D r h.2
end
section
open Go.RowKit
theorem aGf{e:aH}(h:e.sane)(k:Nat)(hk:k<e.args.length):e.args[k].sane:=by
 cases e with
 |mk op num name args=>rw [aH.sane] at h;exact mV _ h.2.2 _ (getElem_mem hk)
theorem aJn{e:aH}(h:e.sane):e.name.size <= 4611686018427387904:=by cases e;rw [aH.sane] at h;exact h.2.1
theorem aIc:∀(N:Nat)(e:aH),e.nodes <= N -> N <= 1000000000 -> e.sane -> ∀s:Sto,aL prog 115 [.agg (cU e)] [] s fun r s'=>r=.c (.val (.bool (eO e))) /\ s'=s
 |0,e,h,_,_=>by cases e;rw [aH.nodes] at h;omega
 |N+1,e,h,hN,hs=>aHf e (aJn hs) (by omega) fun k hk s=>aIc N e.args[k] (by have:=sF e k hk;omega) (by omega) (aGf hs k hk) s
theorem qT(e:aH)(hN:e.nodes <= 1000000000)(hs:e.sane)(s:Sto):aL prog 80 [.agg (cU e)] [] s fun t s'=>t=.c (.val (.bool (dM e))) /\ s'=s:=by
 obtain ⟨bx,rw⟩:=s
 refine acB func80 rfl ?_
 show AWp prog _ ⟨10,_,⟨bx,rw⟩,[(0,.agg (cU e))]⟩ _
 refine go 9 fun b1=>?_
 refine wc0 rfl call115 rfl (aIc _ e (Nat.le_refl _) hN hs _) ?_
 rintro _ _ ⟨hr1,rfl⟩
 rcases Bool.eq_false_or_eq_true (eO e) with h2|h2
 ·rw [h2] at hr1
  subst hr1
  refine go 2 ?_
  refine wc0 rfl call116 rfl (aGd _ e (Nat.le_refl _) hN _) ?_
  rintro _ _ ⟨rfl,rfl⟩
  by_cases h4:((dI e:Nat):Int) <= 24
  ·refine wcp true rfl (aPz h4) ?_
   refine go 5 ?_
   exact bHe (s':=⟨bx,rw⟩) rfl sb1 ⟨cX (by unfold dM;first|(rw [h2];simp;omega)|(rw [h2];rfl)),rfl⟩
  refine wcp false rfl (aPx h4) ?_
  refine go 5 ?_
  exact bHe (s':=⟨bx,rw⟩) rfl sb1 ⟨cX (by unfold dM;first|(rw [h2];simp;omega)|(rw [h2];rfl)),rfl⟩
 rw [h2] at hr1
 subst hr1
 refine go 9 ?_
 exact bHe (s':=⟨bx,rw⟩) rfl sb1 ⟨cX (by unfold dM;first|(rw [h2];simp;omega)|(rw [h2];rfl)),rfl⟩
theorem sM(z:Int)(h:fit z)(s:Sto):aL prog 84 [.c (.val (.int .i64 z))] [] s fun r s'=>r=.c (.val (.string (bytes (eH z)))) /\ s'=s:=
 aHq (us:=[.int .i64 z]) rfl rfl (fun w=>aHb z w h.1 h.2) s
theorem kU(e:aH):aP e=iX e.op e.num e.name (dP e.op 0 e.args):=by cases e;rw [aP];rfl
theorem vS(b:Int):∀(l:List aH)(j:Nat),(dP b j l).length=l.length
 |[],j=>by rw [dP];rfl
 |e::es,j=>by rw [dP,length_cons,length_cons,vS b es]
theorem pL(b:Int):∀(l:List aH)(j k:Nat)(h:k<l.length),(dP b j l)[k]?=some (if cV b (j+k) l[k].op then [40]++aP l[k]++[41] else aP l[k])
 |e::es,j,0,h=>by rw [dP];rfl
 |e::es,j,k+1,h=>by
  rw [dP,List.getElem?_cons_succ,pL b es (j+1) k (by simpa using h)]
  rw [show j+1+k=j+(k+1) by omega];rfl
theorem aCb{e:aH}(h:eO e=true):(e.op=1 /\ e.args.length=0)∨(e.op=2 /\ e.args.length=0)∨((e.op=3∨e.op=4) /\ e.args.length=1 /\ aM e.op=5)∨(aM e.op<5 /\ 5 <= e.op /\ e.op <= 17 /\ e.args.length=2):=by
 rw [dZ,Bool.and_eq_true,Bool.and_eq_true,decide_eq_true_eq] at h
 obtain ⟨⟨h1,h2⟩,-⟩:=h
 unfold arity at h2
 rcases rW e.op with ⟨k1,k2⟩|⟨k1,k2⟩|k1
 ·rw [if_neg (by omega),if_neg (by omega)] at h2;exact .inr (.inr (.inr ⟨k1,k2.1,k2.2,h2⟩))
 ·rw [if_neg (by omega),if_pos k1] at h2;exact .inr (.inr (.inl ⟨k2,h2,k1⟩))
 rw [if_pos k1] at h1 h2
 unfold jG at h1
 simp only [Bool.or_eq_true,Bool.and_eq_true,decide_eq_true_eq] at h1
 rcases h1 with h1|h1
 ·exact .inl ⟨h1.1.1,h2⟩
 exact .inr (.inl ⟨h1.1.1,h2⟩)
theorem aKx{e:aH}(h:eO e=true)(k:Nat)(hk:k<e.args.length):eO e.args[k]=true:=by
 cases hs:eO e.args[k] with
 |true=>rfl
 |false=>rw [dZ,oF _ _ hk hs,Bool.and_false] at h;cases h
theorem aIl{e:aH}(h:eO e=true)(k:Nat)(hk:k<e.args.length):((dP e.op 0 e.args).getD k []).length <= (aP e).length:=by
 rw [kU]
 rcases aCb h with h1|h1|h1|h1
 ·omega
 ·omega
 ·obtain rfl:k=0:=by omega
  unfold iX
  rcases h1.1 with h3|h3<;>simp [h3]
 unfold iX
 rw [if_neg (by omega),if_neg (by omega),if_neg (by omega),if_neg (by omega),if_pos h1.1]
 have:k=0∨k=1:=by omega
 rcases this with rfl|rfl<;>(simp only [length_append];omega)
theorem aD4{e:aH}(h:eO e=true)(k:Nat)(hk:k<e.args.length):(aP e.args[k]).length <= (aP e).length:=by
 have h1:=aIl h k hk
 have h2:=pL e.op e.args 0 k hk
 rw [List.getD_eq_getElem?_getD,h2,Option.getD_some] at h1
 split at h1<;>(try simp only [length_append] at h1)<;>omega
theorem aLd{op:Int}(h:5 <= op /\ op <= 17):op=5∨op=6∨op=7∨op=8∨op=9∨op=10∨op=11∨op=12∨op=13∨op=14∨op=15∨op=16∨op=17:=by omega
theorem aKw{op:Int}(h:5 <= op /\ op <= 17):op∈dS (aM op):=by
 rcases aLd h with rfl|rfl|rfl|rfl|rfl|rfl|rfl|rfl|rfl|rfl|rfl|rfl|rfl<;>decide
theorem aNo{op:Int}(h:5 <= op /\ op <= 17):∀i (h1:i<(dS (aM op)).length) (h2:i<(jP (aM op)).length),(dS (aM op))[i]=op -> (jP (aM op))[i]=bytes (iW op):=by
 rcases aLd h with rfl|rfl|rfl|rfl|rfl|rfl|rfl|rfl|rfl|rfl|rfl|rfl|rfl<;>decide
theorem aQc{c:Prop}[Decidable c]{l r:List UInt8}{n:Nat}(h1:l.length <= n)(h2:r.length <= n):(if c then l else r).length <= n:=by split<;>assumption
theorem kW(op:Int):(iW op).length <= 2:=by
 unfold iW
 repeat' (with_reducible apply aQc)
 all_goals decide
theorem pE(ts:List (List UInt8))(j:Nat)(h:j<(ts.map bytes).length):(ts.map bytes)[j]=bytes (ts.getD j []):=by
 have h1:j<ts.length:=by simpa using h
 simp [List.getD,h1]
theorem aJ7(e:aH)(hN:e.nodes <= 1000000000)(hs:e.sane)(hsh:eO e=true)(hL:(aP e).length <= 1000000000000000)(ih:∀k (h:k<e.args.length) (s:Sto),aL prog 118 [.agg (cU e.args[k])] [] s fun r s'=>r=.c (.val (.string (bytes (aP e.args[k])))) /\ s'=s)(s:Sto):aL prog 118 [.agg (cU e)] [] s fun t s'=>t=.c (.val (.string (bytes (aP e)))) /\ s'=s:=by
 obtain ⟨bx,rw⟩:=s
 have hlen:=uC e
 have hops:=aCb hsh
 have hfit:fit e.num:=by cases e;rw [aH.sane] at hs;exact hs.1
 have hget:=pL e.op e.args 0
 have htl:=vS e.op e.args 0
 have hal:=aIl hsh
 simp only [Nat.zero_add] at hget
 obtain ⟨ts,hts⟩:∃ts,dP e.op 0 e.args=ts:=⟨_,rfl⟩
 rw [hts] at hget htl hal
 refine acB func118 rfl ?_
 show AWp prog _ ⟨95,_,⟨bx,rw⟩,[(0,.agg (cU e))]⟩ _
 refine go 18 fun b1=>?_
 refine qR 9 1 ?_
 refine aO2 (fun k=>True) (e.args.length) 4 3 9 1 (fun k=>((ts.take k).map bytes).length) (fun k=>bP ((ts.take k).map bytes)) [b1] (fun k=>[(1,pP b1)]) trivial (cA (.refl _) (.refl _) (by intro x hx;simpa [aY,Value.ownBlock] using hx) (sA rfl)) fun k v hk hvk=>?_
 replace hvk:True:=hvk
 show AWp prog _ ⟨95,_,⟨_,⟨_,_,_,((ts.take k).map bytes).length,bP ((ts.take k).map bytes)⟩::_⟩,(4,nI k)::(3,.c (.val v))::[(1,pP b1)]⟩ _
 have hrl:((ts.take k).map bytes).length <= k:=by simp only [List.length_map,List.length_take];omega
 refine go 7 ?_
 by_cases h1:((k:Nat):Int)<((e.args.length:Nat):Int)
 ·refine wcp true rfl (jZ h1) ?_
  refine go 12 ?_
  refine wyz rfl (bH fO cU e.args iU fP k rfl rfl rfl rfl (by omega) (by decide) runUnderlying87 sizeOf89) ?_
  refine go 1 ?_
  refine wc0 rfl call118 rfl (ih k (by omega) _) ?_
  rintro _ _ ⟨rfl,rfl⟩
  refine go 6 ?_
  have hpl:=aD4 hsh k (by omega)
  refine go 2 ?_
  refine wc0 rfl call155 rfl (aIh e k (by omega) _) ?_
  rintro _ _ ⟨hr4,rfl⟩
  rcases Bool.eq_false_or_eq_true (cV e.op k e.args[k].op) with h5|h5
  ·rw [h5] at hr4
   subst hr4
   refine go 5 ?_
   refine wyz rfl (aN [40] (aP e.args[k]) rfl rfl rfl rfl rfl (by have h1:=kW e.op;simp only [length_append,length_cons,length_nil];omega)) ?_
   refine wyz rfl (aN ([40]++(aP e.args[k])) [41] rfl rfl rfl rfl rfl (by have h1:=kW e.op;simp only [length_append,length_cons,length_nil];omega)) ?_
   refine go 6 ?_
   refine wo rfl (bDk bDw rfl (.cons rfl .nil) (r:=bP [(bytes (([40]++(aP e.args[k]))++[41]))]) rfl ?_)
   refine wo rfl (bDm [] bDn rfl rfl (by decide) (by unfold maxLen;omega) (by omega) (@length_append _ ((ts.take k).map bytes) [(bytes (([40]++(aP e.args[k]))++[41]))]).symm (fun _ b hb=>by simp [hb]) (fun b hb=>by simp [hb]) (List.map_append (f:=fun x=>AC.val (.string x))).symm fun w2=>?_)
   refine go 6 ?_
   refine wad rfl ?_
   refine go 2 ?_
   rw [show (ts.take (k+1)).map bytes=(ts.take k).map bytes++[(bytes (([40]++(aP e.args[k]))++[41]))] by rw [List.take_succ,hget k (by omega),h5];simp]
   exact ⟨by omega,trivial,_,cA (.refl _) (.refl _) (by grind) (aG rfl (gQ (by omega)) (sA rfl))⟩
  rw [h5] at hr4
  subst hr4
  refine go 8 ?_
  refine wo rfl (bDk bDw rfl (.cons rfl .nil) (r:=bP [(bytes (aP e.args[k]))]) rfl ?_)
  refine wo rfl (bDm [] bDn rfl rfl (by decide) (by unfold maxLen;omega) (by omega) (@length_append _ ((ts.take k).map bytes) [(bytes (aP e.args[k]))]).symm (fun _ b hb=>by simp [hb]) (fun b hb=>by simp [hb]) (List.map_append (f:=fun x=>AC.val (.string x))).symm fun w3=>?_)
  refine go 6 ?_
  refine wad rfl ?_
  refine go 2 ?_
  rw [show (ts.take (k+1)).map bytes=(ts.take k).map bytes++[(bytes (aP e.args[k]))] by rw [List.take_succ,hget k (by omega),h5];simp]
  exact ⟨by omega,trivial,_,cA (.refl _) (.refl _) (by grind) (aG rfl (gQ (by omega)) (sA rfl))⟩
 refine wcp false rfl (jQ h1) ?_
 refine go 12 ?_
 obtain rfl:k=e.args.length:=by omega
 rw [take_of_length_le (by omega)]
 refine aE1 3 rfl ?_
 refine go 2 ?_
 by_cases h9:e.op=1
 ·refine wcp true rfl (eR h9) ?_
  refine go 8 ?_
  refine wc0 rfl call84 rfl (sM e.num hfit _) ?_
  rintro _ _ ⟨rfl,rfl⟩
  refine go 6 ?_
  exact bHe (s':=⟨bx,rw⟩) rfl sb1 ⟨oW (by rw [kU,hts];unfold iX;simp only [if_pos h9];try rfl),rfl⟩
 refine wcp false rfl (eD h9) ?_
 refine go 8 ?_
 by_cases h13:e.op=2
 ·refine wcp true rfl (eR h13) ?_
  refine go 14 ?_
  exact bHe (s':=⟨bx,rw⟩) rfl sb1 ⟨oW (by rw [kU,hts];unfold iX;simp only [if_neg h9,if_pos h13];try exact (back _).symm),rfl⟩
 refine wcp false rfl (eD h13) ?_
 refine go 8 ?_
 by_cases h16:e.op=3
 ·refine wcp true rfl (eR h16) ?_
  refine go 6 ?_
  have hl1:e.args.length=1:=by rcases hops with h|h|h|h<;>omega
  have hg0:=hal 0 (by omega)
  refine go 1 ?_
  refine wyz rfl (rT (fun x=>.val (.string x)) (ts.map bytes) 0 rfl rfl rfl rfl (by simp only [List.length_map];omega) runUnderlying26 sizeOf9) ?_
  refine go 1 ?_
  refine wyz rfl (aN [45] (ts.getD 0 []) rfl rfl rfl rfl (pE _ _ (by simp only [List.length_map];omega)) (by have h1:=kW e.op;simp only [length_append,length_cons,length_nil];omega)) ?_
  refine go 6 ?_
  exact bHe (s':=⟨bx,rw⟩) rfl sb1 ⟨oW (by rw [kU,hts];unfold iX;simp only [if_neg h9,if_neg h13,if_pos h16];try rfl),rfl⟩
 refine wcp false rfl (eD h16) ?_
 refine go 8 ?_
 by_cases h19:e.op=4
 ·refine wcp true rfl (eR h19) ?_
  refine go 6 ?_
  have hl1:e.args.length=1:=by rcases hops with h|h|h|h<;>omega
  have hg0:=hal 0 (by omega)
  refine go 1 ?_
  refine wyz rfl (rT (fun x=>.val (.string x)) (ts.map bytes) 0 rfl rfl rfl rfl (by simp only [List.length_map];omega) runUnderlying26 sizeOf9) ?_
  refine go 1 ?_
  refine wyz rfl (aN [33] (ts.getD 0 []) rfl rfl rfl rfl (pE _ _ (by simp only [List.length_map];omega)) (by have h1:=kW e.op;simp only [length_append,length_cons,length_nil];omega)) ?_
  refine go 6 ?_
  exact bHe (s':=⟨bx,rw⟩) rfl sb1 ⟨oW (by rw [kU,hts];unfold iX;simp only [if_neg h9,if_neg h13,if_neg h16,if_pos h19];try rfl),rfl⟩
 refine wcp false rfl (eD h19) ?_
 refine go 11 ?_
 have hlt5:aM e.op<5:=by rcases hops with h|h|h|h<;>omega
 have hop:5 <= e.op /\ e.op <= 17:=by rcases hops with h|h|h|h<;>omega
 have hl2:e.args.length=2:=by rcases hops with h|h|h|h<;>omega
 have hsl:=aKy (aM e.op)
 have hg0:=hal 0 (by omega)
 have hg1:=hal 1 (by omega)
 refine wc0 rfl call154 rfl (nA e.op _) ?_
 rintro _ _ ⟨rfl,rfl⟩
 refine wc0 rfl call156 rfl (aO6 (aM e.op) (by omega) _) ?_
 rintro _ _ ⟨rfl,rfl⟩
 refine go 14 ?_
 refine lE (fun i=>∀j (h:j<(dS (aM e.op)).length),j<i -> (dS (aM e.op))[j]≠e.op) ((dS (aM e.op)).length) 8 (fun i=>[(1,pP b1),(3,.c (.sl (ts.map bytes).length ((ts.map bytes).map fun x=>.val (.string x)))),(6,.c (aF6 (jP (aM e.op)))),(7,.c (aEm (dS (aM e.op))))]) (fun _ _ h=>absurd h (by omega)) (sA rfl) fun i hi hvi=>?_
 replace hvi:∀j (h:j<(dS (aM e.op)).length),j<i -> (dS (aM e.op))[j]≠e.op:=hvi
 show AWp prog _ ⟨95,_,_,(8,nI i)::[(1,pP b1),(3,.c (.sl (ts.map bytes).length ((ts.map bytes).map fun x=>.val (.string x)))),(6,.c (aF6 (jP (aM e.op)))),(7,.c (aEm (dS (aM e.op))))]⟩ _
 refine go 6 ?_
 by_cases h24:((i:Nat):Int)<(((dS (aM e.op)).length:Nat):Int)
 ·refine wcp true rfl (jZ h24) ?_
  refine go 8 ?_
  refine aB [b1] (by kernel_rfl) ?_
  refine tks [(0,true),(1,true)] 5 (by kernel_rfl) ?_
  refine go 3 ?_
  refine tr 2 (by kernel_rfl) rfl (rT (fun x=>.val (.int .i64 x)) (dS (aM e.op)) i rfl rfl rfl rfl (by omega) runUnderlying22 sizeOf3) ?_
  refine tks [(3,true),(4,true),(5,true)] 1 (by kernel_rfl) ?_
  refine go 4 ?_
  by_cases h26:(dS (aM e.op))[i]=e.op
  ·refine tr 6 (by kernel_rfl) rfl (bO true rfl rfl rfl (eR h26)) ?_
   refine aE (by kernel_rfl) ?_
   refine go 3 ?_
   refine aB [b1] (by kernel_rfl) ?_
   refine tks [(0,true)] 14 (by kernel_rfl) ?_
   refine go 2 ?_
   refine tr 1 (by kernel_rfl) rfl (rT (fun x=>.val (.string x)) (ts.map bytes) 0 rfl rfl rfl rfl (by simp only [List.length_map];omega) runUnderlying26 sizeOf9) ?_
   refine tks [(2,true)] 12 (by kernel_rfl) ?_
   refine go 2 ?_
   refine tr 3 (by kernel_rfl) rfl (aN (ts.getD 0 []) [32] rfl rfl rfl (pE _ _ (by simp only [List.length_map];omega)) rfl (by have h1:=kW e.op;simp only [length_append,length_cons,length_nil];omega)) ?_
   refine tks [(4,true),(5,true)] 9 (by kernel_rfl) ?_
   refine go 3 ?_
   refine tr 6 (by kernel_rfl) rfl (rT (fun x=>.val (.string x)) (jP (aM e.op)) i rfl rfl rfl rfl (by omega) runUnderlying26 sizeOf9) ?_
   refine tks [(7,true)] 7 (by kernel_rfl) ?_
   refine go 2 ?_
   refine tr 8 (by kernel_rfl) rfl (aN ((ts.getD 0 [])++[32]) (iW e.op) rfl rfl rfl rfl (aNo hop i (by omega) (by omega) h26) (by have h1:=kW e.op;simp only [length_append,length_cons,length_nil];omega)) ?_
   refine tr 9 (by kernel_rfl) rfl (aN (((ts.getD 0 [])++[32])++(iW e.op)) [32] rfl rfl rfl rfl rfl (by have h1:=kW e.op;simp only [length_append,length_cons,length_nil];omega)) ?_
   refine tks [(10,true)] 4 (by kernel_rfl) ?_
   refine go 2 ?_
   refine tr 11 (by kernel_rfl) rfl (rT (fun x=>.val (.string x)) (ts.map bytes) 1 rfl rfl rfl rfl (by simp only [List.length_map];omega) runUnderlying26 sizeOf9) ?_
   refine tks [(12,true)] 2 (by kernel_rfl) ?_
   refine go 2 ?_
   refine tr 13 (by kernel_rfl) rfl (aN ((((ts.getD 0 [])++[32])++(iW e.op))++[32]) (ts.getD 1 []) rfl rfl rfl rfl (pE _ _ (by simp only [List.length_map];omega)) (by have h1:=kW e.op;simp only [length_append,length_cons,length_nil];omega)) ?_
   refine tks [(14,true)] 0 (by kernel_rfl) ?_
   refine go 2 ?_
   refine aE (by kernel_rfl) ?_
   refine go 7 ?_
   exact bHe (s':=⟨bx,rw⟩) rfl sb1 ⟨oW (by rw [kU,hts];unfold iX;simp only [if_neg h9,if_neg h13,if_neg h16,if_neg h19,if_pos hlt5];try rfl),rfl⟩
  refine tr 6 (by kernel_rfl) rfl (bO false rfl rfl rfl (eD h26)) ?_
  refine aE (by kernel_rfl) ?_
  refine go 7 ?_
  refine wad rfl ?_
  refine go 2 ?_
  exact ⟨by omega,(fun j hj hlt hq=>(Nat.lt_or_ge j i).elim (fun h9=>hvi j hj h9 hq) (fun h9=>by have h8:j=i:=(by omega);subst h8;exact h26 hq)),(aG rfl (gQ (by omega)) (sA rfl))⟩
 refine wcp false rfl (jQ h24) ?_
 refine go 14 ?_
 exact absurd (List.mem_iff_getElem.1 (aKw hop)) (fun ⟨j,hj,hq⟩=>hvi j hj (by omega) hq)
end
section
open Go.RowKit
def cY.wt(r:cY):Nat:=1+cZ r.index
def eN.wt(a:eN):Nat:=1+a.ref.wt+a.expr.nodes
def wtA:List eN -> Nat
 |[]=>0
 |a::l=>a.wt+wtA l
mutual
def aJ.wt:aJ -> Nat
 |.mk _ _ e r a t f=>1+e.nodes+r.wt+wtA a+wtS t+wtS f
def wtS:List aJ -> Nat
 |[]=>0
 |s::l=>s.wt+wtS l
end
theorem aDf:∀(l:List eN)(k:Nat)(h:k<l.length),l[k].wt <= wtA l
 |a::l,0,_=>by rw [wtA];simp
 |a::l,k+1,h=>by have:=aDf l k (by simpa using h);rw [wtA];simp;omega
theorem aCj:∀(l:List eN),l.length <= wtA l
 |[]=>by simp
 |a::l=>by have:=aCj l;rw [wtA,eN.wt];simp;omega
theorem uF:∀(l:List aJ)(k:Nat)(h:k<l.length),l[k].wt <= wtS l
 |a::l,0,_=>by rw [wtS];simp
 |a::l,k+1,h=>by have:=uF l k (by simpa using h);rw [wtS];simp;omega
theorem gD(s:aJ):s.wt=1+s.expr.nodes+s.ref.wt+wtA s.args+wtS s.thn+wtS s.els:=by cases s;rw [aJ.wt];rfl
theorem uZ:∀(l:List aJ),l.length <= wtS l
 |[]=>by simp
 |a::l=>by have:=uZ l;rw [wtS,gD];simp;omega
theorem xE{r:cY}(h:okRefB r=true):bQ r.name=true /\ (r.index.length=0∨r.index.length=1) /\ ∀e,e∈r.index -> dM e=true:=by
 obtain ⟨n,ix⟩:=r
 unfold okRefB at h
 rw [Bool.and_eq_true] at h
 match ix,h with
 |[],h=>exact ⟨h.1,.inl rfl,fun e he=>by cases he⟩
 |[e],h=>exact ⟨h.1,.inr rfl,fun x hx=>by rw [List.mem_singleton.1 hx];exact h.2⟩
 |_::_::_,h=>simp at h
theorem kR{e:aH}(h:dM e=true):eO e=true:=by rw [dM,Bool.and_eq_true] at h;exact h.1
theorem wI{r:cY}(h:0<r.index.length):dC r=r.name.data.toList++[(91:UInt8)]++aP r.index[0]++[93]:=by
 obtain ⟨n,ix⟩:=r
 match ix,h with
 |e::_,_=>rfl
theorem aCa{r:cY}(h:r.index.length=0):dC r=r.name.data.toList:=by
 obtain ⟨n,ix⟩:=r
 rw [List.length_eq_zero_iff] at h
 dsimp only at h
 subst h;rfl
theorem rS{α:Type}(f:α -> List UInt8):∀(l:List α)(k:Nat),(bW f (l.take k)).length <= (bW f l).length
 |[],k=>by simp [bW]
 |x::l,0=>by simp [bW]
 |x::l,k+1=>by
  simp only [List.take_succ_cons,bW,length_append,List.length_flatten,List.map_map]
  have:∀(m:List α)(k:Nat),(List.map (List.length ∘ fun y=>[44,32]++f y) (m.take k)).sum <= (List.map (List.length ∘ fun y=>[44,32]++f y) m).sum:=by
   intro m
   induction m with
   |nil=>intro k;simp
   |cons a m ih=>intro k;cases k with
    |zero=>simp
    |succ k=>have:=ih k;simp only [List.take_succ_cons,List.map_cons,List.sum_cons];omega
  have:=this l k;omega
theorem aGp{α:Type}(f:α -> List UInt8)(l:List α)(k:Nat)(h:k<l.length):(f l[k]).length <= (bW f l).length:=by
 have h1:=rS f l (k+1)
 rw [hJ f l k h] at h1
 simp only [length_append] at h1;omega
theorem pD{a:eN}(h:a.mutex=true):dE a=[109,117,116,101,120,32]++dC a.ref:=by unfold dE;rw [if_pos h]
theorem oZ{a:eN}(h:a.mutex=false):dE a=aP a.expr:=by unfold dE;rw [if_neg (by rw [h];decide)]
theorem xN{a:eN}(h:fY a=true):(a.mutex=true -> okRefB a.ref=true) /\ (a.mutex=false -> dM a.expr=true):=by
 unfold fY at h
 constructor
 ·intro hm;rw [hm,if_pos rfl,Bool.and_eq_true] at h;exact h.1
 intro hm;rw [hm,if_neg (by decide),Bool.and_eq_true] at h;exact h.2
theorem rR:∀(N:Nat)(e:aH),e.nodes <= N -> N <= 1000000000 -> e.sane -> eO e=true -> (aP e).length <= 1000000000000000 -> ∀s:Sto,aL prog 118 [.agg (cU e)] [] s fun r s'=>r=.c (.val (.string (bytes (aP e)))) /\ s'=s
 |0,e,h,_,_,_,_=>by cases e;rw [aH.nodes] at h;omega
 |N+1,e,h,hN,hs,hsh,hL=>aJ7 e (by omega) hs hsh hL fun k hk s=>rR N e.args[k] (by have:=sF e k hk;omega) (by omega) (aGf hs k hk) (aKx hsh k hk) (Nat.le_trans (aD4 hsh k hk) hL) s
theorem sP(r:cY)(hok:okRefB r=true)(hs:r.sane)(hN:cZ r.index <= 900000000)(hL:(dC r).length <= 1000000000000000)(s:Sto):aL prog 120 [.agg (encR r)] [] s fun t s'=>t=.c (.val (.string (bytes (dC r)))) /\ s'=s:=by
 obtain ⟨bx,rw⟩:=s
 replace hok:=xE hok
 have hnm:r.name.data.toList.length <= 4611686018427387904:=hs.1
 refine acB func120 rfl ?_
 show AWp prog _ ⟨19,_,⟨bx,rw⟩,[(0,.agg (encR r))]⟩ _
 refine go 12 fun b1=>?_
 by_cases h1:((r.index.length:Nat):Int)=0
 ·refine wcp true rfl (eR h1) ?_
  refine go 12 ?_
  exact bHe (s':=⟨bx,rw⟩) rfl sb1 ⟨oW (by rw [aCa (by omega)];exact (back _).symm),rfl⟩
 refine wcp false rfl (eD h1) ?_
 refine go 6 ?_
 refine aB [b1] (by kernel_rfl) ?_
 have hi0:0<r.index.length:=by omega
 have hse:=mV _ hs.2 _ (getElem_mem hi0)
 have hsh:=kR (hok.2.2 _ (getElem_mem hi0))
 have hni:=nM r.index 0 hi0
 have hL1:=hL
 rw [wI hi0] at hL1
 simp only [length_append] at hL1
 replace hL1:(aP r.index[0]).length <= 1000000000000000:=by omega
 refine tks [(0,true),(1,true)] 9 (by kernel_rfl) ?_
 refine go 3 ?_
 refine tr 2 (by kernel_rfl) rfl (aN r.name.data.toList ([91]:List UInt8) rfl rfl rfl (back _) rfl (by first|omega|grind)) ?_
 refine tks [(3,true),(4,true)] 6 (by kernel_rfl) ?_
 refine go 3 ?_
 refine tr 5 (by kernel_rfl) rfl (bH fO cU r.index iU fP 0 rfl rfl rfl rfl (by omega) (by decide) runUnderlying87 sizeOf89) ?_
 refine tks [(6,true)] 4 (by kernel_rfl) ?_
 refine go 2 ?_
 refine one 7 (by kernel_rfl) rfl rfl (bV rfl rfl (by decide) call118 rfl (rR _ r.index[0] (Nat.le_refl _) (by omega) hse hsh hL1 _) ?_)
 rintro _ _ ⟨rfl,rfl⟩
 refine tr 8 (by kernel_rfl) rfl (aN (r.name.data.toList++([91]:List UInt8)) (aP r.index[0]) rfl rfl rfl rfl rfl (by first|omega|grind)) ?_
 refine tr 9 (by kernel_rfl) rfl (aN ((r.name.data.toList++([91]:List UInt8))++(aP r.index[0])) [93] rfl rfl rfl rfl rfl (by first|omega|grind)) ?_
 refine tks [(10,true)] 0 (by kernel_rfl) ?_
 refine go 2 ?_
 refine aE (by kernel_rfl) ?_
 refine go 2 ?_
 exact bHe (s':=⟨bx,rw⟩) rfl sb1 ⟨oW (by rw [wI hi0]),rfl⟩
theorem zL(l:List eN)(hok:∀a,a∈l -> fY a=true)(hs:∀a,a∈l -> a.sane)(hw:wtA l <= 900000000)(hL:(dF l).length <= 1000000000000000)(s:Sto):aL prog 119 [.c (.sl l.length (l.flatMap eJ))] [] s fun t s'=>t=.c (.val (.string (bytes (dF l)))) /\ s'=s:=by
 obtain ⟨bx,rw⟩:=s
 have hal:=aCj l
 have hL1:=hL
 unfold dF at hL1
 simp only [length_append] at hL1
 refine acB func119 rfl ?_
 show AWp prog _ ⟨39,_,⟨bx,rw⟩,[(0,.c (.sl l.length (l.flatMap eJ)))]⟩ _
 refine go 17 ?_
 refine oC (l.length) 4 (fun k=>[(3,.c (.val (.string (bytes ([40]++bW dE (l.take (k))))))),(0,.c (.sl l.length (l.flatMap eJ)))]) (sA rfl) fun k hk=>?_
 show AWp prog _ ⟨39,_,_,(4,nI k)::[(3,.c (.val (.string (bytes ([40]++bW dE (l.take (k))))))),(0,.c (.sl l.length (l.flatMap eJ)))]⟩ _
 have hcm:=rS dE l k
 refine go 6 ?_
 by_cases h1:((k:Nat):Int)<((l.length:Nat):Int)
 ·refine wcp true rfl (jZ h1) ?_
  refine go 10 ?_
  have hlt:k<l.length:=by omega
  have hsa:=hs _ (getElem_mem hlt)
  have hoa:=xN (hok _ (getElem_mem hlt))
  have hwa:=aDf l k hlt
  unfold eN.wt cY.wt at hwa
  have hci:=aGp dE l k hlt
  refine go 1 ?_
  by_cases h3:(0:Int)<((k:Nat):Int)
  ·refine wcp true rfl (mH h3) ?_
   refine go 5 ?_
   refine wyz rfl (aN ([40]++bW dE (l.take (k))) [44,32] rfl rfl rfl rfl rfl (by first|omega|grind)) ?_
   refine go 7 ?_
   refine wyz rfl (bH eJ eJ l iD (fun _=>rfl) k rfl rfl rfl rfl (by omega) (by decide) runUnderlying92 sizeOf142) ?_
   refine go 1 ?_
   rcases Bool.eq_false_or_eq_true (l[k].mutex) with h5|h5
   ·refine wyz rfl (fL (bZ h5) (iP rfl rfl isAgg4 sizeOf4 rfl)) ?_
    refine go 4 ?_
    have hmx:=h5
    have hri:(dC l[k].ref).length <= 1000000000000000:=by have h9:=hci;rw [pD hmx,length_append] at h9;omega
    refine go 1 ?_
    refine wyz rfl (aN (([40]++bW dE (l.take (k)))++[44,32]) [109,117,116,101,120,32] rfl rfl rfl rfl rfl (by (try simp only [length_append,length_cons,length_nil]);omega)) ?_
    refine go 2 ?_
    refine wyz rfl (bH eJ eJ l iD (fun _=>rfl) k rfl rfl rfl rfl (by omega) (by decide) runUnderlying92 sizeOf142) ?_
    refine go 2 ?_
    refine wc0 rfl call120 rfl (sP l[k].ref (hoa.1 hmx) hsa.1 (by omega) (by omega) _) ?_
    rintro _ _ ⟨rfl,rfl⟩
    refine wyz rfl (aN ((([40]++bW dE (l.take (k)))++[44,32])++[109,117,116,101,120,32]) (dC l[k].ref) rfl rfl rfl rfl rfl (by (try simp only [length_append,length_cons,length_nil]);omega)) ?_
    refine go 6 ?_
    refine wad rfl ?_
    refine go 2 ?_
    exact ⟨by omega,(aG rfl (gQ (by omega)) (aG rfl (jX (by rw [hJ dE l k (by omega),if_neg (by omega)];rw [pD h5];simp)) (sA rfl)))⟩
   refine wyz rfl (fL (bZ h5) (iP rfl rfl isAgg4 sizeOf4 rfl)) ?_
   refine go 4 ?_
   have hmx:=h5
   have hri:(aP l[k].expr).length <= 1000000000000000:=by have h9:=hci;rw [oZ hmx] at h9;omega
   refine go 3 ?_
   refine wyz rfl (bH eJ eJ l iD (fun _=>rfl) k rfl rfl rfl rfl (by omega) (by decide) runUnderlying92 sizeOf142) ?_
   refine go 2 ?_
   refine wc0 rfl call118 rfl (rR _ l[k].expr (Nat.le_refl _) (by omega) hsa.2 (kR (hoa.2 hmx)) (by omega) _) ?_
   rintro _ _ ⟨rfl,rfl⟩
   refine wyz rfl (aN (([40]++bW dE (l.take (k)))++[44,32]) (aP l[k].expr) rfl rfl rfl rfl rfl (by first|omega|grind)) ?_
   refine go 6 ?_
   refine wad rfl ?_
   refine go 2 ?_
   exact ⟨by omega,(aG rfl (gQ (by omega)) (aG rfl (jX (by rw [hJ dE l k (by omega),if_neg (by omega)];rw [oZ h5];simp)) (sA rfl)))⟩
  refine wcp false rfl (mI h3) ?_
  refine go 9 ?_
  refine wyz rfl (bH eJ eJ l iD (fun _=>rfl) k rfl rfl rfl rfl (by omega) (by decide) runUnderlying92 sizeOf142) ?_
  refine go 1 ?_
  rcases Bool.eq_false_or_eq_true (l[k].mutex) with h11|h11
  ·refine wyz rfl (fL (bZ h11) (iP rfl rfl isAgg4 sizeOf4 rfl)) ?_
   refine go 4 ?_
   have hmx:=h11
   have hri:(dC l[k].ref).length <= 1000000000000000:=by have h9:=hci;rw [pD hmx,length_append] at h9;omega
   refine go 1 ?_
   refine wyz rfl (aN ([40]++bW dE (l.take (k))) [109,117,116,101,120,32] rfl rfl rfl rfl rfl (by (try simp only [length_append,length_cons,length_nil]);omega)) ?_
   refine go 2 ?_
   refine wyz rfl (bH eJ eJ l iD (fun _=>rfl) k rfl rfl rfl rfl (by omega) (by decide) runUnderlying92 sizeOf142) ?_
   refine go 2 ?_
   refine wc0 rfl call120 rfl (sP l[k].ref (hoa.1 hmx) hsa.1 (by omega) (by omega) _) ?_
   rintro _ _ ⟨rfl,rfl⟩
   refine wyz rfl (aN (([40]++bW dE (l.take (k)))++[109,117,116,101,120,32]) (dC l[k].ref) rfl rfl rfl rfl rfl (by (try simp only [length_append,length_cons,length_nil]);omega)) ?_
   refine go 6 ?_
   refine wad rfl ?_
   refine go 2 ?_
   exact ⟨by omega,(aG rfl (gQ (by omega)) (aG rfl (jX (by rw [hJ dE l k (by omega),if_pos (by omega)];rw [pD h11];simp)) (sA rfl)))⟩
  refine wyz rfl (fL (bZ h11) (iP rfl rfl isAgg4 sizeOf4 rfl)) ?_
  refine go 4 ?_
  have hmx:=h11
  have hri:(aP l[k].expr).length <= 1000000000000000:=by have h9:=hci;rw [oZ hmx] at h9;omega
  refine go 3 ?_
  refine wyz rfl (bH eJ eJ l iD (fun _=>rfl) k rfl rfl rfl rfl (by omega) (by decide) runUnderlying92 sizeOf142) ?_
  refine go 2 ?_
  refine wc0 rfl call118 rfl (rR _ l[k].expr (Nat.le_refl _) (by omega) hsa.2 (kR (hoa.2 hmx)) (by omega) _) ?_
  rintro _ _ ⟨rfl,rfl⟩
  refine wyz rfl (aN ([40]++bW dE (l.take (k))) (aP l[k].expr) rfl rfl rfl rfl rfl (by first|omega|grind)) ?_
  refine go 6 ?_
  refine wad rfl ?_
  refine go 2 ?_
  exact ⟨by omega,(aG rfl (gQ (by omega)) (aG rfl (jX (by rw [hJ dE l k (by omega),if_pos (by omega)];rw [oZ h11];simp)) (sA rfl)))⟩
 refine wcp false rfl (jQ h1) ?_
 refine go 11 ?_
 refine wyz rfl (aN ([40]++bW dE (l.take (k))) [41] rfl rfl rfl rfl rfl (by first|omega|grind)) ?_
 refine go 4 ?_
 exact bHe (s':=⟨bx,rw⟩) rfl sb0 ⟨oW (by unfold dF;rw [take_of_length_le (by omega)]),rfl⟩
end
end Go.Proofs.YtlmpchoaebhhmaaGreatDoor
