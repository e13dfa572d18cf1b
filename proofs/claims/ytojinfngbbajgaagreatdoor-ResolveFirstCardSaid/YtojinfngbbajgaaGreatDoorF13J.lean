import Derived.Test.YtojinfngbbajgaaGreatDoorF5J
import Derived.Test.YtojinfngbbajgaaGreatDoorF10J
import Derived.Test.YtojinfngbbajgaaGreatDoorF11J
import Derived.Test.YtojinfngbbajgaaGreatDoorF12J
set_option linter.all false
set_option synthInstance.maxHeartbeats 1000000
set_option synthInstance.maxSize 1000000
namespace Go.Proofs.YtojinfngbbajgaaGreatDoor
open List (length_append length_cons length_nil mem_append mem_cons not_mem_nil append_assoc getElem_mem take_of_length_le)
section
open Go.RowKit
theorem kU(e:aH):aP e=iX e.op e.num e.name (dP e.op 0 e.args):=by cases e;rw [aP];rfl
theorem pL(b:Int):∀(l:List aH)(j k:Nat)(h:k<l.length),(dP b j l)[k]?=some (if cV b (j+k) l[k].op then [40]++aP l[k]++[41] else aP l[k])
 |e::es,j,0,h=>by rw [dP];rfl
 |e::es,j,k+1,h=>by
  rw [dP,List.getElem?_cons_succ,pL b es (j+1) k (by simpa using h)]
  rw [show j+1+k=j+(k+1) by omega];rfl
end
section
open Go.RowKit
def cY.wt(r:cY):Nat:=1+cZ r.index
def eN.wt(a:eN):Nat:=1+a.ref.wt+a.expr.nodes
def wtA:List eN -> Nat
 |[]=>0
 |a::l=>a.wt+wtA l
mutual
def aJ.wt:aJ -> Nat
 |.mk _ _ e r a t f=>1+e.nodes+r.wt+wtA a+wtS t+wtS f
def wtS:List aJ -> Nat
 |[]=>0
 |s::l=>s.wt+wtS l
end
theorem aDf:∀(l:List eN)(k:Nat)(h:k<l.length),l[k].wt <= wtA l
 |a::l,0,_=>by rw [wtA];simp
 |a::l,k+1,h=>by have:=aDf l k (by simpa using h);rw [wtA];simp;omega
theorem aCj:∀(l:List eN),l.length <= wtA l
 |[]=>by simp
 |a::l=>by have:=aCj l;rw [wtA,eN.wt];simp;omega
theorem uF:∀(l:List aJ)(k:Nat)(h:k<l.length),l[k].wt <= wtS l
 |a::l,0,_=>by rw [wtS];simp
 |a::l,k+1,h=>by have:=uF l k (by simpa using h);rw [wtS];simp;omega
theorem gD(s:aJ):s.wt=1+s.expr.nodes+s.ref.wt+wtA s.args+wtS s.thn+wtS s.els:=by cases s;rw [aJ.wt];rfl
theorem uZ:∀(l:List aJ),l.length <= wtS l
 |[]=>by simp
 |a::l=>by have:=uZ l;rw [wtS,gD];simp;omega
theorem xE{r:cY}(h:okRefB r=true):bQ r.name=true /\ (r.index.length=0∨r.index.length=1) /\ ∀e,e∈r.index -> dM e=true:=by
 obtain ⟨n,ix⟩:=r
 unfold okRefB at h
 rw [Bool.and_eq_true] at h
 match ix,h with
 |[],h=>exact ⟨h.1,.inl rfl,fun e he=>by cases he⟩
 |[e],h=>exact ⟨h.1,.inr rfl,fun x hx=>by rw [List.mem_singleton.1 hx];exact h.2⟩
 |_::_::_,h=>simp at h
theorem kR{e:aH}(h:dM e=true):eO e=true:=by rw [dM,Bool.and_eq_true] at h;exact h.1
theorem wI{r:cY}(h:0<r.index.length):dC r=r.name.data.toList++[(91:UInt8)]++aP r.index[0]++[93]:=by
 obtain ⟨n,ix⟩:=r
 match ix,h with
 |e::_,_=>rfl
theorem aCa{r:cY}(h:r.index.length=0):dC r=r.name.data.toList:=by
 obtain ⟨n,ix⟩:=r
 rw [List.length_eq_zero_iff] at h
 dsimp only at h
 subst h;rfl
theorem rS{α:Type}(f:α -> List UInt8):∀(l:List α)(k:Nat),(bW f (l.take k)).length <= (bW f l).length
 |[],k=>by simp [bW]
 |x::l,0=>by simp [bW]
 |x::l,k+1=>by
  simp only [List.take_succ_cons,bW,length_append,List.length_flatten,List.map_map]
  have:∀(m:List α)(k:Nat),(List.map (List.length ∘ fun y=>[44,32]++f y) (m.take k)).sum <= (List.map (List.length ∘ fun y=>[44,32]++f y) m).sum:=by
   intro m
   induction m with
   |nil=>intro k;simp
   |cons a m ih=>intro k;cases k with
    |zero=>simp
    |succ k=>have:=ih k;simp only [List.take_succ_cons,List.map_cons,List.sum_cons];omega
  have:=this l k;omega
theorem aGp{α:Type}(f:α -> List UInt8)(l:List α)(k:Nat)(h:k<l.length):(f l[k]).length <= (bW f l).length:=by
 have h1:=rS f l (k+1)
 rw [hJ f l k h] at h1
 simp only [length_append] at h1;omega
theorem pD{a:eN}(h:a.mutex=true):dE a=[109,117,116,101,120,32]++dC a.ref:=by unfold dE;rw [if_pos h]
theorem oZ{a:eN}(h:a.mutex=false):dE a=aP a.expr:=by unfold dE;rw [if_neg (by rw [h];decide)]
theorem xN{a:eN}(h:fY a=true):(a.mutex=true -> okRefB a.ref=true) /\ (a.mutex=false -> dM a.expr=true):=by
 unfold fY at h
 constructor
 ·intro hm;rw [hm,if_pos rfl,Bool.and_eq_true] at h;exact h.1
 intro hm;rw [hm,if_neg (by decide),Bool.and_eq_true] at h;exact h.2
end
end Go.Proofs.YtojinfngbbajgaaGreatDoor
