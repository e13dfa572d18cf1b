import Derived.Test.YtjgeihmhppadaaaGreatDoorRG27J
set_option linter.all false
set_option synthInstance.maxHeartbeats 1000000
set_option synthInstance.maxSize 1000000
namespace Go.Proofs.YtjgeihmhppadaaaGreatDoor
open List (length_append length_cons length_nil mem_append mem_cons not_mem_nil append_assoc getElem_mem take_of_length_le)
section
open Go.RowKit
def cF9(x:cI1):List AC:=[Vs x.name,nC x.ints,nC x.locks,nC x.locals,Sq encI x.code]
theorem cKs{P:Program}{c:Code}{n:Nat}{T:List Nat}{ts:List (Nat×AT)}{Q:Exit -> AS -> Prop}{rw:List bA}{b:Nat}{E:TypeId}{cs cs':List AC}{v:Value}{E2:TypeId}{z k:Nat}{ds:List AC}(A:List Box){B:List Box}(i:Nat)(hi:cs[i]?=some (.val v))(hr:cs.set i (.sl k ds)=cs')(h:AWp P c ⟨n,T,⟨A++⟨b,E,cs'⟩::B,rw⟩,ts⟩ Q)(hz:0<z:=by decide):AWp P c ⟨n,T,⟨A++⟨b,E,cs⟩::B,⟨v,E2,z,k,ds⟩::rw⟩,ts⟩ Q:=by
 subst hr
 exact zU (vU (st:=⟨n,T,⟨A++⟨b,E,cs⟩::B,⟨v,E2,z,k,ds⟩::rw⟩,ts⟩) (aBg (r:=⟨v,E2,z,k,ds⟩) A i hi hz)) h
structure cJ0 where
 globals:List Int
 mutexes:List cL
 procs:List cI1
 main:Nat
def cK1(u:cJ0):List AC:=[.sl u.globals.length (u.globals.map λx=>Vi x),Sq bT u.mutexes,Sq cF9 u.procs,nC u.main]
instance cNi{x:cI1}:cZr (cF9 x) 5:=⟨rfl⟩
instance cMa{x:cI1}:iY (cF9 x) [Vs x.name,nC x.ints,nC x.locks,nC x.locals,Sq encI x.code]:=⟨rfl⟩
instance cN5{x:cJ0}:cZr (cK1 x) 4:=⟨rfl⟩
instance cNj{x:cJ0}:iY (cK1 x) [.sl x.globals.length (x.globals.map λx=>Vi x),Sq bT x.mutexes,Sq cF9 x.procs,nC x.main]:=⟨rfl⟩
end
section
def dCn(fs fs':Fns):Prop:=∀s,(bZu fs s).map bS.params=(bZu fs' s).map bS.params
theorem dCn.put{fs fs':Fns}(h:dCn fs fs')(k:ByteArray){f f':bS}(hp:f.params=f'.params):dCn (bZq fs k f) (bZq fs' k f'):=λs=>by
 rw [cBo,cBo];split
 ·simp [hp]
 exact h s
section
variable {fs fs':Fns}(hs:dCn fs fs')
include hs
end
end
section
def cFr(p:cK)(v:cFc):Int:=if v.kind=1∨v.kind=4 then 1 else if v.kind=2 then (if 0<cHk p v.n then 3 else 2) else if v.kind=5 then 4 else if v.kind=3 then 5 else 9
def cH8(p:cK):Option cFc -> Int
 |none=>0
 |some v=>cFr p v
theorem cGl(p:cK)(x:cFc):(x.kind=2 /\ 0<cHk p x.n /\ cFr p x=3)∨(x.kind=2 /\ ¬0<cHk p x.n /\ cFr p x=2)∨(x.kind=5 /\ cFr p x=4)∨(x.kind≠2 /\ x.kind≠5 /\ (x.kind=1∨x.kind=4) /\ cFr p x=1)∨(x.kind=3 /\ cFr p x=5)∨(x.kind≠1 /\ x.kind≠2 /\ x.kind≠3 /\ x.kind≠4 /\ x.kind≠5 /\ cFr p x=9):=by
 unfold cFr
 by_cases h1:x.kind=1∨x.kind=4
 ·rw [if_pos h1];exact .inr (.inr (.inr (.inl ⟨J,J,h1,rfl⟩)))
 rw [if_neg h1]
 by_cases h2:x.kind=2
 ·rw [if_pos h2]
  by_cases hm:0<cHk p x.n
  ·rw [if_pos hm];exact .inl ⟨h2,hm,rfl⟩
  rw [if_neg hm];exact .inr (.inl ⟨h2,hm,rfl⟩)
 rw [if_neg h2]
 by_cases h5:x.kind=5
 ·rw [if_pos h5];exact .inr (.inr (.inl ⟨h5,rfl⟩))
 rw [if_neg h5]
 by_cases h3:x.kind=3
 ·rw [if_pos h3];exact .inr (.inr (.inr (.inr (.inl ⟨h3,rfl⟩))))
 rw [if_neg h3];exact .inr (.inr (.inr (.inr (.inr ⟨J,h2,h3,J,h5,rfl⟩))))
theorem cGv(p:cK)(v:cFc):cFr p v≠0:=by rcases cGl p v with h|h|h|h|h|h<;>omega
structure cG7 (p:cK) (fs:Fns) (v:Vis) (l:List cFc):Prop where
 kn:KN v
 get:∀s,bZp v s=cH8 p (cFa l s)
 fn:∀s x,cFa l s=some x -> x.kind=3 -> ∃f,bZu fs s=some f /\ cGc p x.n=f.params
section
variable {p:cK}{fs:Fns}{v:Vis}{l:List cFc}(h:cG7 p fs v l)
include h
theorem cMe(s:ByteArray):cBh v s=cGq l s:=by
 unfold cBh cGq
 rw [h.get s]
 rcases cFa l s with _|x
 ·rfl
 show (if cFr p x=0 then 6 else if cFr p x=1 then 0 else 8)=if x.kind=1∨x.kind=4 then 0 else 8
 rw [if_neg (cGv p x)]
 rcases cGl p x with ⟨h2,-,e⟩|⟨h2,-,e⟩|⟨h2,e⟩|⟨-,-,h2,e⟩|⟨h2,e⟩|⟨h2,-,-,h3,-,e⟩<;>rw [e]
 rotate_left
 rotate_left
 rotate_left
 ·rw [if_pos h2];rfl
 rotate_left
 all_goals
  rw [if_neg (J:¬(x.kind=1∨x.kind=4))];rfl
end
mutual
theorem cJ3{p:cK}{fs:Fns}{v:Vis}{l:List cFc}(h:cG7 p fs v l):∀e:aH,bZ1 v e=cFf l e
 |.mk op num name args=>by rw [bZ1,cFf,cMe h,cKj h args]
theorem cKj{p:cK}{fs:Fns}{v:Vis}{l:List cFc}(h:cG7 p fs v l):∀r:List aH,bZ0 v r=cFq l r
 |[]=>by rw [bZ0,cFq]
 |e::r=>by rw [bZ0,cFq,cJ3 h e,cKj h r];rfl
end
section
variable {p:cK}{fs:Fns}{v:Vis}{l:List cFc}(h:cG7 p fs v l)
include h
theorem cMc(r:cY)(hr:r.index.length <= 1):cA3 v r=cGo p l r:=by
 have hix:cFq l r.index=if r.index.length=0 then 0 else cDo v r.index:=by
  rcases hi:r.index with _|⟨e,_|⟨a,b⟩⟩
  ·rw [cFq];rfl
  ·rw [cFq,cFq,if_neg G0];show cFj _ 0=bZ1 v e
   rw [cJ3 h];unfold cFj;split<;>simp_all
  rw [hi] at hr;simp at hr
 unfold cA3 cGo cAj
 rw [h.get r.name,hix]
 rcases cFa l r.name with _|x
 ·rfl
 show (if cFr p x=0 then 6 else if ((decide (cFr p x≠2) && decide (cFr p x≠3) && decide (cFr p x≠4))||(decide (cFr p x=3) != decide (0<r.index.length)))=true then 8 else if cFr p x=3 then cDo v r.index else 0)=cFj (if x.kind=2∨x.kind=5 then (if (decide (x.kind=2) && decide (0<cHk p x.n))=decide (0<r.index.length) then 0 else 8) else 8) _
 rw [if_neg (cGv p x)]
 have hlen:r.index.length=0∨r.index.length=1:=J
 rcases cGl p x with ⟨h2,hm,e⟩|⟨h2,hm,e⟩|⟨h2,e⟩|⟨h2,h5,-,e⟩|⟨h2,e⟩|⟨-,h2,-,-,h5,e⟩<;>rw [e]
 ·rw [if_pos (Or.inl h2:x.kind=2∨x.kind=5),decide_eq_true h2,decide_eq_true hm]
  rcases hlen with h0|h0<;>rw [h0]<;>rfl
 ·rw [if_pos (Or.inl h2:x.kind=2∨x.kind=5),decide_eq_true h2,decide_eq_false hm]
  rcases hlen with h0|h0<;>rw [h0]<;>rfl
 ·rw [if_pos (Or.inr h2:x.kind=2∨x.kind=5),decide_eq_false (show ¬x.kind=2 by omega)]
  rcases hlen with h0|h0<;>rw [h0]<;>rfl
 ·rw [if_neg (J:¬(x.kind=2∨x.kind=5))];rfl
 ·rw [if_neg (J:¬(x.kind=2∨x.kind=5))];rfl
 rw [if_neg (J:¬(x.kind=2∨x.kind=5))];rfl
theorem cLe:∀(al:List eN)(xs:List aS),(∀a,a∈al -> a.mutex=true -> a.ref.index.length <= 1) -> bZ3 v al xs=cF8 p l al xs
 |[],xs,_=>by cases xs<;>simp [bZ3,cF8]
 |a::al,[],_=>by simp [bZ3,cF8]
 |a::al,x::xs,hi=>by
  rw [bZ3,cF8,cLe al xs λb hb=>hi b (List.mem_cons_of_mem _ hb)]
  unfold cBb cJh
  by_cases hm:a.mutex=x.mutex
  ·rw [if_pos hm,if_pos hm]
   by_cases hx:a.mutex=true
   ·rw [if_pos hx,if_pos hx,cMc h a.ref (hi a List.mem_cons_self hx)];rfl
   rw [if_neg hx,if_neg hx,cJ3 h];rfl
  rw [if_neg hm,if_neg hm];rfl
theorem cL5(s:aJ)(hi:∀a,a∈s.args -> a.mutex=true -> a.ref.index.length <= 1):cAx v fs s.name s.args=cFy p l s:=by
 unfold cAx cFy
 rw [h.get s.name]
 rcases hf:cFa l s.name with _|x
 ·rfl
 show (if cFr p x=0 then 6 else if cFr p x=5 then cD1 v s.args (bZu fs s.name) else 8)=if x.kind=3 then (if (cGc p x.n).length=s.args.length then cF8 p l s.args (cGc p x.n) else 7) else 8
 rw [if_neg (cGv p x)]
 by_cases h3:x.kind=3
 ·obtain ⟨f,hl,hp⟩:=h.fn _ x hf h3
  rw [if_pos h3,hl,hp,if_pos (show cFr p x=5 by rcases cGl p x with h|h|h|h|h|h<;>omega)]
  show (if s.args.length=f.params.length then bZ3 v s.args f.params else 7)=_
  rw [cLe h _ _ hi]
  by_cases hl2:s.args.length=f.params.length
  ·rw [if_pos hl2,if_pos hl2.symm]
  rw [if_neg hl2,if_neg (λe=>hl2 e.symm)]
 rw [if_neg h3,if_neg]
 rcases cGl p x with h|h|h|h|h|h<;>omega
end
end
section
mutual
def shS:aJ -> Prop
 |.mk k _ _ r args t f=>(k=5∨k=6 -> r.index.length <= 1) /\ (∀a,a∈args -> a.mutex=true -> a.ref.index.length <= 1) /\ (k≠7 -> k≠8 -> t=[]) /\ (k≠7 -> f=[]) /\ cId t /\ cId f
def cId:List aJ -> Prop
 |[]=>True
 |s::l=>shS s /\ cId l
end
theorem cIz{r:cY}(h:okRefB r=true):r.index.length <= 1:=by have:=(xE h).2.1;omega
mutual
theorem cMb:∀(D:Nat)(s:aJ),bK9 D s=true -> shS s
 |D,.mk k name e r args t f,h=>by
  rw [bK9] at h
  simp only [Bool.and_eq_true,Bool.or_eq_true,decide_eq_true_eq] at h
  obtain ⟨⟨⟨⟨⟨⟨-,-⟩,-⟩,h5⟩,-⟩,ha⟩,ht⟩:=h.1
  have hf:=h.2
  rw [shS]
  refine ⟨λhk=>?_,λa hm hx=>?_,λh7 h8=>?_,λh7=>?_,?_,?_⟩
  ·rw [if_pos hk] at h5;exact cIz h5
  ·have h9:=List.all_eq_true.1 ha a hm
   unfold fY at h9
   rw [if_pos hx,Bool.and_eq_true] at h9
   exact cIz h9.1
  ·rw [if_neg J,decide_eq_true_eq] at ht;exact List.length_eq_zero_iff.1 ht
  ·rcases hf with hf|hf
   ·exact List.length_eq_zero_iff.1 hf
   exact absurd hf.1 h7
  ·by_cases hk:k=7∨k=8
   ·rw [if_pos hk] at ht;exact cJd (D+1) t ht
   rw [if_neg hk,decide_eq_true_eq] at ht
   rw [List.length_eq_zero_iff.1 ht,cId];trivial
  rcases hf with hf|hf
  ·rw [List.length_eq_zero_iff.1 hf,cId];trivial
  exact cJd (D+1) f hf.2
theorem cJd:∀(D:Nat)(l:List aJ),bM D l=true -> cId l
 |_,[],_=>by rw [cId];trivial
 |D,s::l,h=>by
  rw [bM,Bool.and_eq_true] at h
  rw [cId];exact ⟨cMb D s h.1,cJd D l h.2⟩
end
def cIu(p:cK)(l:List cFc)(s:aJ):Nat:=
 if s.kind=1 then cFj (cFv l s.name) (cFf l s.expr)
 else if s.kind=2 then cFj (cGq l s.name) (cFf l s.expr)
 else if s.kind=5∨s.kind=6 then cGo p l s.ref
 else if s.kind=3∨s.kind=4 then cFy p l s
 else if s.kind=7∨s.kind=8 then cFf l s.expr else 0
theorem cLy{p:cK}{fs:Fns}{v:Vis}{l:List cFc}(h:cG7 p fs v l)(s:aJ)(hr:s.kind=5∨s.kind=6 -> s.ref.index.length <= 1)(ha:∀a,a∈s.args -> a.mutex=true -> a.ref.index.length <= 1):bZ5 v fs s=cIu p l s:=by
 unfold bZ5 cIu
 rw [cJ3 h,cMe h,cL5 h s ha]
 by_cases h1:s.kind=1
 ·rw [if_pos h1,if_pos h1,h.get s.name]
  unfold cFv
  rcases cFa l s.name with _|x
  ·rfl
  show (if cFr p x=0 then _ else 5)=_;rw [if_neg (cGv p x)];rfl
 rw [if_neg h1,if_neg h1]
 by_cases h2:s.kind=2
 ·rw [if_pos h2,if_pos h2];rfl
 rw [if_neg h2,if_neg h2]
 by_cases h5:s.kind=5∨s.kind=6
 ·rw [if_pos h5,if_pos h5,cMc h s.ref (hr h5)]
 rw [if_neg h5,if_neg h5]
theorem cIr(p:cK)(s:aJ)(x:LS)(h7:s.kind≠7)(h8:s.kind≠8):(cFu p s x).q=cFg x.q (cIu p x.ents s) x.n /\ (cFu p s x).n=x.n+1 /\ (cFu p s x).ents=if s.kind=1 then x.ents++[⟨s.name,4,x.locals⟩] else x.ents:=by
 unfold cFu cIu
 by_cases h1:s.kind=1
 ·rw [if_pos h1,if_pos h1,if_pos h1];exact ⟨rfl,rfl,rfl⟩
 rw [if_neg h1,if_neg h1,if_neg h1]
 by_cases h2:s.kind=2
 ·rw [if_pos h2,if_pos h2];exact ⟨rfl,rfl,rfl⟩
 rw [if_neg h2,if_neg h2]
 by_cases h3:s.kind=3∨s.kind=4
 ·rw [if_pos h3,if_neg (J:¬(s.kind=5∨s.kind=6)),if_pos h3];exact ⟨rfl,rfl,rfl⟩
 rw [if_neg h3]
 by_cases h5:s.kind=5
 ·rw [if_pos h5,if_pos (.inl h5:s.kind=5∨s.kind=6)];exact ⟨rfl,rfl,rfl⟩
 rw [if_neg h5]
 by_cases h6:s.kind=6
 ·rw [if_pos h6,if_pos (.inr h6:s.kind=5∨s.kind=6)];exact ⟨rfl,rfl,rfl⟩
 rw [if_neg h6,if_neg (J:¬(s.kind=5∨s.kind=6)),if_neg h3,if_neg (J:¬(s.kind=7∨s.kind=8))];exact ⟨rfl,rfl,rfl⟩
theorem cI4{q:ES}(h:q.1≠0)(e:Nat)(s:Int):cFg q e s=q:=by unfold cFg;rw [if_neg (λhh=>h hh.1)]
theorem cJf{q:ES}(h:q.1=0){e:Nat}(he:e≠0)(s:Int):cFg q e s=(e,s):=by unfold cFg;rw [if_pos ⟨h,he⟩]
mutual
theorem cJt(p:cK):∀(s:aJ)(x:LS),x.q.1≠0 -> (cFs p s x).q=x.q
 |.mk k name e r args t f,x,h=>by
  have hb:(x.branch e).q=x.q:=cI4 h _ _
  have ht:(cFe p t (x.branch e)).q=x.q:=by rw [cF5 p t _ (by rw [hb];exact h),hb]
  rw [cFs]
  split
  ·split
   ·exact ht
   show (cFe p f _).q=_
   rw [cF5 p f _ (by show (cFe p t (x.branch e)).q.1≠0;rw [ht];exact h)]
   exact ht
  split
  ·exact ht
  rename_i h7 h8
  rw [(cIr p (.mk k name e r args t f) x h7 h8).1];exact cI4 h _ _
theorem cF5(p:cK):∀(l:List aJ)(x:LS),x.q.1≠0 -> (cFe p l x).q=x.q
 |[],x,_=>by rw [cFe]
 |s::l,x,h=>by
  have h1:=cJt p s x h
  rw [cFe,cF5 p l _ (by rw [h1];exact h),h1]
end
end
end Go.Proofs.YtjgeihmhppadaaaGreatDoor
