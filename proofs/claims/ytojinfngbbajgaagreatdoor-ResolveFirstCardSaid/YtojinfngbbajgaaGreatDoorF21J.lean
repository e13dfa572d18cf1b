import Derived.Test.YtojinfngbbajgaaGreatDoorF5J
import Derived.Test.YtojinfngbbajgaaGreatDoorF15J
import Derived.Test.YtojinfngbbajgaaGreatDoorF9J
set_option linter.all false
set_option synthInstance.maxHeartbeats 1000000
set_option synthInstance.maxSize 1000000
namespace Go.Proofs.YtojinfngbbajgaaGreatDoor
open List (length_append length_cons length_nil mem_append mem_cons not_mem_nil append_assoc getElem_mem take_of_length_le)
section
open Go.RowKit
def isN(s:aJ):Bool:=decide (1 <= s.kind /\ s.kind <= 4)
def isC(s:aJ):Bool:=decide (s.kind=3∨s.kind=4)
def isE(s:aJ):Bool:=decide (s.kind=1∨s.kind=2∨s.kind=7∨s.kind=8)
def isR(s:aJ):Bool:=decide (s.kind=5∨s.kind=6)
def isB(s:aJ):Bool:=decide (s.kind=7∨s.kind=8)
def aG7(s:aJ):Bool:=decide (¬(1 <= s.kind /\ s.kind <= 9))
def aEf(s:aJ):Bool:=aG7 s||isN s && !bQ s.name
def aF5(s:aJ):Bool:=aEf s||!isN s && !decide (s.name=aK)
def aD3(s:aJ):Bool:=aF5 s||isE s && !dM s.expr
def aFc(s:aJ):Bool:=aD3 s||!isE s && !bLg s.expr
def aFs(s:aJ):Bool:=aFc s||isR s && !okRefB s.ref
def aEx(s:aJ):Bool:=aFs s||!isR s && !kM s.ref
def aHl(s:aJ):Bool:=aEx s||!isC s && !decide (s.args.length=0)
def aOc(D:Nat)(s:aJ):Bool:=(if isB s then bM (D+1) s.thn else decide (s.thn.length=0)) && (decide (s.els.length=0)||(decide (s.kind=7) && bM (D+1) s.els))
theorem kN(D:Nat)(s:aJ):bK9 D s=(!aHl s && s.args.all fY && aOc D s):=by
 obtain ⟨k,n,e,r,args,t,el⟩:=s
 rw [bK9]
 unfold aOc aHl aEx aFs aFc aD3 aF5 aEf
 rw [show aG7 (.mk k n e r args t el)=!decide (1 <= k /\ k <= 9) from decide_not,show isN (.mk k n e r args t el)=decide (1 <= k /\ k <= 4) from rfl,show isC (.mk k n e r args t el)=decide (k=3∨k=4) from rfl,show isE (.mk k n e r args t el)=decide (k=1∨k=2∨k=7∨k=8) from rfl,show isR (.mk k n e r args t el)=decide (k=5∨k=6) from rfl,show isB (.mk k n e r args t el)=decide (k=7∨k=8) from rfl]
 show _=(_ && args.all fY && ((if decide (k=7∨k=8)=true then bM (D+1) t else decide (t.length=0)) && (decide (el.length=0)||(decide (k=7) && bM (D+1) el))))
 simp only [aJ.name,aJ.expr,aJ.ref,aJ.args]
 have hi:∀(p:Prop) [Decidable p] (a b:Bool),(if p then a else b)=((decide p && a)||(!decide p && b)):=fun p _ a b=>by by_cases h:p<;>simp [h]
 simp only [hi,Bool.decide_eq_true]
 generalize decide (1 <= k /\ k <= 9)=b1
 generalize decide (1 <= k /\ k <= 4)=b2
 generalize decide (k=1∨k=2∨k=7∨k=8)=b3
 generalize decide (k=5∨k=6)=b4
 generalize decide (k=3∨k=4)=b5
 generalize decide (k=7∨k=8)=b6
 cases b1<;>cases b2<;>cases b3<;>cases b4<;>cases b5<;>cases b6<;>(simp [Bool.and_assoc];try rfl)
theorem aCi{a:eN}(h:a.mutex=true):fY a=(okRefB a.ref && bLg a.expr):=by unfold fY;rw [if_pos h]
theorem aCv{a:eN}(h:a.mutex=false):fY a=(kM a.ref && dM a.expr):=by unfold fY;rw [if_neg (by rw [h];decide)]
theorem oA{α:Type}(f:α -> Bool)(l:List α)(k:Nat)(h:k<l.length)(hf:f l[k]=false):l.all f=false:=by
 cases ha:l.all f with
 |false=>rfl
 |true=>rw [List.all_eq_true.1 ha _ (getElem_mem h)] at hf;cases hf
def c1(D:Nat)(s:aJ):Bool:=isB s && !bM (D+1) s.thn
def c2(D:Nat)(s:aJ):Bool:=c1 D s||!isB s && !decide (s.thn.length=0)
theorem yW{s:aJ}(h:s.sane):s.name.size <= 4611686018427387904 /\ s.expr.sane /\ s.ref.sane /\ (∀a,a∈s.args -> a.sane) /\ gC s.thn /\ gC s.els:=by cases s;rw [aJ.sane] at h;exact h
end
section
mutual
def aH.tame:aH -> Prop
 |.mk _ num name args=>num.natAbs<9223372036854775808 /\ name.size <= 1048576 /\ oG args
def oG:List aH -> Prop
 |[]=>True
 |e::es=>e.tame /\ oG es
end
def lL:List (List UInt8) -> Nat
 |[]=>0
 |t::ts=>t.length+lL ts
theorem aMh(ts:List (List UInt8)):(ts.getD 0 []).length <= lL ts:=by
 cases ts with
 |nil=>simp [lL]
 |cons t ts=>simp [lL]
theorem aJj(ts:List (List UInt8)):(ts.getD 0 []).length+(ts.getD 1 []).length <= lL ts:=by
 match ts with
 |[]=>simp [lL]
 |[t]=>simp [lL]
 |t::u::ts=>first|(simp [lL];done)|(simp [lL];omega)
theorem aI4{c:Prop}[Decidable c]{l r:List UInt8}{n:Nat}(h1:l.length <= n)(h2:r.length <= n):(if c then l else r).length <= n:=by
 by_cases h:c
 ·rw [if_pos h];exact h1
 rw [if_neg h];exact h2
theorem aAr(op:Int):(iW op).length <= 2:=by
 unfold iW
 repeat' (with_reducible apply aI4)
 all_goals decide
theorem aH5(op num:Int)(name:ByteArray)(ts:List (List UInt8))(h1:num.natAbs<9223372036854775808)(h2:name.size <= 1048576):
  (iX op num name ts).length <= 1048576+lL ts:=by
 have a0:=aMh ts
 have a1:=aJj ts
 have a2:=aAr op
 have a3:(eH num).length <= 21:=by
  have:=kC _ (Nat.lt_trans h1 (by decide))
  unfold eH
  split<;>simp<;>omega
 have a4:name.data.toList.length=name.size:=rfl
 unfold iX
 repeat' (with_reducible apply aI4)
 all_goals ((try simp only [length_append,length_cons,length_nil]);omega)
theorem vQ:∀(N:Nat)(e:aH),e.nodes <= N -> e.tame -> (aP e).length+2 <= e.nodes*2000000
 |0,.mk op num name args,h,_=>by rw [aH.nodes] at h;omega
 |N+1,.mk op num name args,h,ht=>by
  rw [aH.nodes] at h
  rw [aH.tame] at ht
  have key:∀(l:List aH)(k:Nat),cZ l <= N -> oG l -> lL (dP op k l) <= cZ l*2000000:=by
   intro l
   induction l with
   |nil=>intro k _ _;rw [dP,lL];omega
   |cons e es ih=>
    intro k hl hm
    rw [cZ] at hl⊢
    rw [oG] at hm
    rw [dP,lL]
    have h1:=vQ N e (by omega) hm.1
    have h2:=ih (k+1) (by omega) hm.2
    split
    ·simp only [length_append,length_cons,length_nil];omega
    omega
  have h1:=key args 0 (by omega) ht.2.2
  have h2:=aH5 op num name (dP op 0 args) ht.1 ht.2.1
  rw [aP,aH.nodes]
  omega
end
end Go.Proofs.YtojinfngbbajgaaGreatDoor
