import Derived.Test.YtojinfngbbajgaaGreatDoorF5J
import Derived.Test.YtojinfngbbajgaaGreatDoorF9J
import Derived.Deep.RegionHeld3
import Derived.Test.YtojinfngbbajgaaGreatDoorF6J
import Derived.Test.YtojinfngbbajgaaGreatDoorF8J
set_option linter.all false
set_option synthInstance.maxHeartbeats 1000000
set_option synthInstance.maxSize 1000000
namespace Go.Proofs.YtojinfngbbajgaaGreatDoor
open List (length_append length_cons length_nil mem_append mem_cons not_mem_nil append_assoc getElem_mem take_of_length_le)
section
open Go.RowKit
theorem qQ(b:Int):∀(l:List aH)(j:Nat)(x:aH),bSm b j (l++[x])=max (bSm b j l) (dI x+if cV b (j+l.length) x.op then 1 else 0)
 |[],j,x=>by simp [bSm]
 |y::l,j,x=>by
  rw [List.cons_append,bSm,qQ b l (j+1) x,bSm,Nat.max_assoc]
  have:j+1+l.length=j+(y::l).length:=by simp;omega
  rw [this]
theorem kF(b:Int)(l:List aH)(k:Nat)(h:k<l.length):bSm b 0 (l.take (k+1))=max (bSm b 0 (l.take k)) (dI l[k]+if cV b k l[k].op then 1 else 0):=by
 rw [List.take_succ_eq_append_getElem h,qQ,List.length_take,Nat.min_eq_left (by omega),Nat.zero_add]
theorem aBa(N:Nat):∀(e:aH),e.nodes <= N -> dI e+1 <= 2*e.nodes:=by
 induction N with
 |zero=>intro e h;cases e;rw [aH.nodes] at h;omega
 |succ N ih=>
  rintro ⟨op,num,name,args⟩ h
  rw [aH.nodes] at h
  have key:∀(l:List aH)(k:Nat),cZ l <= N -> bSm op k l <= 2*cZ l:=by
   intro l
   induction l with
   |nil=>intro k _;rw [bSm];omega
   |cons e es ih2=>
    intro k hl
    rw [cZ] at hl⊢
    rw [bSm]
    have h1:=ih e (by omega)
    have h2:=ih2 (k+1) (by omega)
    split<;>omega
  have:=key args 0 (by omega)
  rw [dI,aH.nodes]
  split<;>omega
theorem sF(e:aH)(k:Nat)(h:k<e.args.length):e.args[k].nodes<e.nodes:=by
 cases e with
 |mk op num name args=>have:=nM args k h;rw [aH.nodes];show args[k].nodes<_;omega
theorem uC(e:aH):e.args.length<e.nodes:=by
 cases e with
 |mk op num name args=>have:=tN args;rw [aH.nodes];show args.length<_;omega
theorem tX(e:aH):dI e=bSm e.op 0 e.args+if aM e.op=5 then 1 else 0:=by cases e;rw [dI];rfl
theorem dZ(e:aH):eO e=((if aM e.op=6 then jG e.op e.num e.name else decide (e.num=0) && decide (e.name=aK)) && decide (e.args.length=arity e.op) && dY e.args):=by cases e;rw [eO];rfl
theorem oF:∀(l:List aH)(k:Nat)(h:k<l.length),eO l[k]=false -> dY l=false
 |e::es,0,_,hs=>by rw [dY];simp only [List.getElem_cons_zero] at hs;rw [hs];rfl
 |e::es,k+1,h,hs=>by rw [dY,oF es k (by simpa using h) (by simpa using hs),Bool.and_false]
end
section
def cY.small(N:Nat)(r:cY):Prop:=r.index.length <= 1 /\ ∀x,x∈r.index -> x.nodes <= N
def eN.small(N:Nat)(a:eN):Prop:=a.ref.small N /\ a.expr.nodes <= N
mutual
def aJ.small(N:Nat):aJ -> Prop
 |.mk _ _ e r a t f=>e.nodes <= N /\ r.small N /\ a.length <= N /\ (∀x,x∈a -> x.small N) /\ t.length <= N /\ smalls N t /\ f.length <= N /\ smalls N f
def smalls(N:Nat):List aJ -> Prop
 |[]=>True
 |s::r=>s.small N /\ smalls N r
end
def bS.small(N:Nat)(f:bS):Prop:=f.params.length <= N /\ f.body.length <= N /\ smalls N f.body
def cK.small(N:Nat)(p:cK):Prop:=p.globals.length <= N /\ p.mutexes.length <= N /\ p.funcs.length <= N /\ ∀f,f∈p.funcs -> f.small N
section
variable {l:List Tok}{N:Nat}(hel:rP l)(h1:1 <= N)(hlN:l.length <= N)(hf:∀k x k',k<l.length -> lJ l k=.ok x k' -> x.nodes <= N)
include hel hf
include h1
omit h1 hf in
omit h1 hf in
include hlN
omit hlN h1 hf hel in
omit hlN hel hf in
omit hlN hel hf in
omit h1 hlN hf in
end
end
end Go.Proofs.YtojinfngbbajgaaGreatDoor
