import Derived.Test.YtkfdfhcdmmlfmaaGreatDoorG9J
import Derived.StillTailTactics
set_option linter.all false
set_option synthInstance.maxHeartbeats 1000000
set_option synthInstance.maxSize 1000000
set_option maxHeartbeats 1600000
set_option maxRecDepth 100000
namespace Go.Proofs.YtkfdfhcdmmlfmaaGreatDoor
open Go.Proofs.Tryz
open List (length_append length_cons length_nil mem_append mem_cons not_mem_nil append_assoc getElem_mem take_of_length_le)
section
def hG(fs fs':Fns):Prop:=∀s,(bZu fs s).map bS.params=(bZu fs' s).map bS.params
theorem hG.put{fs fs':Fns}(h:hG fs fs')(k:ByteArray){f f':bS}(hp:f.params=f'.params):hG (bZq fs k f) (bZq fs' k f'):=λs=>by
 rw [cBo,cBo];split
 ·simp [hp]
 exact h s
section
variable {fs fs':Fns}(hs:hG fs fs')
include hs
end
end
section
def cFr(p:cK)(v:cFc):Int:=if v.kind=1∨v.kind=4 then 1 else if v.kind=2 then (if 0<cHk p v.n then 3 else 2) else if v.kind=5 then 4 else if v.kind=3 then 5 else 9
def cH8(p:cK):Option cFc -> Int
 |none=>0
 |some v=>cFr p v
theorem cGl(p:cK)(x:cFc):(x.kind=2 /\ 0<cHk p x.n /\ cFr p x=3)∨(x.kind=2 /\ ¬0<cHk p x.n /\ cFr p x=2)∨(x.kind=5 /\ cFr p x=4)∨(x.kind≠2 /\ x.kind≠5 /\ (x.kind=1∨x.kind=4) /\ cFr p x=1)∨(x.kind=3 /\ cFr p x=5)∨(x.kind≠1 /\ x.kind≠2 /\ x.kind≠3 /\ x.kind≠4 /\ x.kind≠5 /\ cFr p x=9):=by
 unfold cFr
 by_cases h1:x.kind=1∨x.kind=4
 ·rw [if_pos h1];exact .inr (.inr (.inr (.inl ⟨J,J,h1,rfl⟩)))
 rw [if_neg h1]
 by_cases h2:x.kind=2
 ·rw [if_pos h2]
  by_cases hm:0<cHk p x.n
  ·rw [if_pos hm];exact .inl ⟨h2,hm,rfl⟩
  rw [if_neg hm];exact .inr (.inl ⟨h2,hm,rfl⟩)
 rw [if_neg h2]
 by_cases h5:x.kind=5
 ·rw [if_pos h5];exact .inr (.inr (.inl ⟨h5,rfl⟩))
 rw [if_neg h5]
 by_cases h3:x.kind=3
 ·rw [if_pos h3];exact .inr (.inr (.inr (.inr (.inl ⟨h3,rfl⟩))))
 rw [if_neg h3];exact .inr (.inr (.inr (.inr (.inr ⟨J,h2,h3,J,h5,rfl⟩))))
theorem cGv(p:cK)(v:cFc):cFr p v≠0:=by rcases cGl p v with h|h|h|h|h|h<;>omega
structure cG7 (p:cK) (fs:Fns) (v:Vis) (l:List cFc):Prop where
 kn:KN v
 get:∀s,bZp v s=cH8 p (cFa l s)
 fn:∀s x,cFa l s=some x -> x.kind=3 -> ∃f,bZu fs s=some f /\ cGc p x.n=f.params
section
variable {p:cK}{fs:Fns}{v:Vis}{l:List cFc}(h:cG7 p fs v l)
include h
theorem cMe(s:ByteArray):cBh v s=cGq l s:=by
 unfold cBh cGq
 rw [h.get s]
 rcases cFa l s with _|x
 ·rfl
 show (if cFr p x=0 then 6 else if cFr p x=1 then 0 else 8)=if x.kind=1∨x.kind=4 then 0 else 8
 rw [if_neg (cGv p x)]
 rcases cGl p x with ⟨h2,-,e⟩|⟨h2,-,e⟩|⟨h2,e⟩|⟨-,-,h2,e⟩|⟨h2,e⟩|⟨h2,-,-,h3,-,e⟩<;>rw [e]
 rotate_left
 rotate_left
 rotate_left
 ·rw [if_pos h2];rfl
 rotate_left
 all_goals
  rw [if_neg (J:¬(x.kind=1∨x.kind=4))];rfl
end
mutual
theorem cJ3{p:cK}{fs:Fns}{v:Vis}{l:List cFc}(h:cG7 p fs v l):∀e:aH,bZ1 v e=cFf l e
 |.mk op num name args=>by rw [bZ1,cFf,cMe h,cKj h args]
theorem cKj{p:cK}{fs:Fns}{v:Vis}{l:List cFc}(h:cG7 p fs v l):∀r:List aH,bZ0 v r=cFq l r
 |[]=>by rw [bZ0,cFq]
 |e::r=>by rw [bZ0,cFq,cJ3 h e,cKj h r];rfl
end
section
variable {p:cK}{fs:Fns}{v:Vis}{l:List cFc}(h:cG7 p fs v l)
include h
theorem cMc(r:cY)(hr:r.index.length <= 1):cA3 v r=cGo p l r:=by
 have hix:cFq l r.index=if r.index.length=0 then 0 else cDo v r.index:=by
  rcases hi:r.index with _|⟨e,_|⟨a,b⟩⟩
  ·rw [cFq];rfl
  ·rw [cFq,cFq,if_neg G0];show cFj _ 0=bZ1 v e
   rw [cJ3 h];unfold cFj;split<;>simp_all
  rw [hi] at hr;simp at hr
 unfold cA3 cGo cAj
 rw [h.get r.name,hix]
 rcases cFa l r.name with _|x
 ·rfl
 show (if cFr p x=0 then 6 else if ((decide (cFr p x≠2) && decide (cFr p x≠3) && decide (cFr p x≠4))||(decide (cFr p x=3) != decide (0<r.index.length)))=true then 8 else if cFr p x=3 then cDo v r.index else 0)=cFj (if x.kind=2∨x.kind=5 then (if (decide (x.kind=2) && decide (0<cHk p x.n))=decide (0<r.index.length) then 0 else 8) else 8) _
 rw [if_neg (cGv p x)]
 have hlen:r.index.length=0∨r.index.length=1:=J
 rcases cGl p x with ⟨h2,hm,e⟩|⟨h2,hm,e⟩|⟨h2,e⟩|⟨h2,h5,-,e⟩|⟨h2,e⟩|⟨-,h2,-,-,h5,e⟩<;>rw [e]
 ·rw [if_pos (Or.inl h2:x.kind=2∨x.kind=5),decide_eq_true h2,decide_eq_true hm]
  rcases hlen with h0|h0<;>rw [h0]<;>rfl
 ·rw [if_pos (Or.inl h2:x.kind=2∨x.kind=5),decide_eq_true h2,decide_eq_false hm]
  rcases hlen with h0|h0<;>rw [h0]<;>rfl
 ·rw [if_pos (Or.inr h2:x.kind=2∨x.kind=5),decide_eq_false (show ¬x.kind=2 by omega)]
  rcases hlen with h0|h0<;>rw [h0]<;>rfl
 ·rw [if_neg (J:¬(x.kind=2∨x.kind=5))];rfl
 ·rw [if_neg (J:¬(x.kind=2∨x.kind=5))];rfl
 rw [if_neg (J:¬(x.kind=2∨x.kind=5))];rfl
theorem cLe:∀(al:List eN)(xs:List aS),(∀a,a∈al -> a.mutex=true -> a.ref.index.length <= 1) -> bZ3 v al xs=cF8 p l al xs
 |[],xs,_=>by cases xs<;>simp [bZ3,cF8]
 |a::al,[],_=>by simp [bZ3,cF8]
 |a::al,x::xs,hi=>by
  rw [bZ3,cF8,cLe al xs λb hb=>hi b (List.mem_cons_of_mem _ hb)]
  unfold cBb cJh
  by_cases hm:a.mutex=x.mutex
  ·rw [if_pos hm,if_pos hm]
   by_cases hx:a.mutex=true
   ·rw [if_pos hx,if_pos hx,cMc h a.ref (hi a List.mem_cons_self hx)];rfl
   rw [if_neg hx,if_neg hx,cJ3 h];rfl
  rw [if_neg hm,if_neg hm];rfl
theorem cL5(s:aJ)(hi:∀a,a∈s.args -> a.mutex=true -> a.ref.index.length <= 1):cAx v fs s.name s.args=cFy p l s:=by
 unfold cAx cFy
 rw [h.get s.name]
 rcases hf:cFa l s.name with _|x
 ·rfl
 show (if cFr p x=0 then 6 else if cFr p x=5 then cD1 v s.args (bZu fs s.name) else 8)=if x.kind=3 then (if (cGc p x.n).length=s.args.length then cF8 p l s.args (cGc p x.n) else 7) else 8
 rw [if_neg (cGv p x)]
 by_cases h3:x.kind=3
 ·obtain ⟨f,hl,hp⟩:=h.fn _ x hf h3
  rw [if_pos h3,hl,hp,if_pos (show cFr p x=5 by rcases cGl p x with h|h|h|h|h|h<;>omega)]
  show (if s.args.length=f.params.length then bZ3 v s.args f.params else 7)=_
  rw [cLe h _ _ hi]
  by_cases hl2:s.args.length=f.params.length
  ·rw [if_pos hl2,if_pos hl2.symm]
  rw [if_neg hl2,if_neg (λe=>hl2 e.symm)]
 rw [if_neg h3,if_neg]
 rcases cGl p x with h|h|h|h|h|h<;>omega
end
end
section
mutual
def shS:aJ -> Prop
 |.mk k _ _ r args t f=>(k=5∨k=6 -> r.index.length <= 1) /\ (∀a,a∈args -> a.mutex=true -> a.ref.index.length <= 1) /\ (k≠7 -> k≠8 -> t=[]) /\ (k≠7 -> f=[]) /\ cId t /\ cId f
def cId:List aJ -> Prop
 |[]=>True
 |s::l=>shS s /\ cId l
end
theorem cIz{r:cY}(h:okRefB r=true):r.index.length <= 1:=by have:=(xE h).2.1;omega
mutual
theorem cMb:∀(D:Nat)(s:aJ),bK9 D s=true -> shS s
 |D,.mk k name e r args t f,h=>by
  rw [bK9] at h
  simp only [Bool.and_eq_true,Bool.or_eq_true,decide_eq_true_eq] at h
  obtain ⟨⟨⟨⟨⟨⟨-,-⟩,-⟩,h5⟩,-⟩,ha⟩,ht⟩:=h.1
  have hf:=h.2
  rw [shS]
  refine ⟨λhk=>?_,λa hm hx=>?_,λh7 h8=>?_,λh7=>?_,?_,?_⟩
  ·rw [if_pos hk] at h5;exact cIz h5
  ·have h9:=List.all_eq_true.1 ha a hm
   unfold fY at h9
   rw [if_pos hx,Bool.and_eq_true] at h9
   exact cIz h9.1
  ·rw [if_neg J,decide_eq_true_eq] at ht;exact List.length_eq_zero_iff.1 ht
  ·rcases hf with hf|hf
   ·exact List.length_eq_zero_iff.1 hf
   exact absurd hf.1 h7
  ·by_cases hk:k=7∨k=8
   ·rw [if_pos hk] at ht;exact cJd (D+1) t ht
   rw [if_neg hk,decide_eq_true_eq] at ht
   rw [List.length_eq_zero_iff.1 ht,cId];trivial
  rcases hf with hf|hf
  ·rw [List.length_eq_zero_iff.1 hf,cId];trivial
  exact cJd (D+1) f hf.2
theorem cJd:∀(D:Nat)(l:List aJ),bM D l=true -> cId l
 |_,[],_=>by rw [cId];trivial
 |D,s::l,h=>by
  rw [bM,Bool.and_eq_true] at h
  rw [cId];exact ⟨cMb D s h.1,cJd D l h.2⟩
end
def cIu(p:cK)(l:List cFc)(s:aJ):Nat:=
 if s.kind=1 then cFj (cFv l s.name) (cFf l s.expr)
 else if s.kind=2 then cFj (cGq l s.name) (cFf l s.expr)
 else if s.kind=5∨s.kind=6 then cGo p l s.ref
 else if s.kind=3∨s.kind=4 then cFy p l s
 else if s.kind=7∨s.kind=8 then cFf l s.expr else 0
theorem cLy{p:cK}{fs:Fns}{v:Vis}{l:List cFc}(h:cG7 p fs v l)(s:aJ)(hr:s.kind=5∨s.kind=6 -> s.ref.index.length <= 1)(ha:∀a,a∈s.args -> a.mutex=true -> a.ref.index.length <= 1):bZ5 v fs s=cIu p l s:=by
 unfold bZ5 cIu
 rw [cJ3 h,cMe h,cL5 h s ha]
 by_cases h1:s.kind=1
 ·rw [if_pos h1,if_pos h1,h.get s.name]
  unfold cFv
  rcases cFa l s.name with _|x
  ·rfl
  show (if cFr p x=0 then _ else 5)=_;rw [if_neg (cGv p x)];rfl
 rw [if_neg h1,if_neg h1]
 by_cases h2:s.kind=2
 ·rw [if_pos h2,if_pos h2];rfl
 rw [if_neg h2,if_neg h2]
 by_cases h5:s.kind=5∨s.kind=6
 ·rw [if_pos h5,if_pos h5,cMc h s.ref (hr h5)]
 rw [if_neg h5,if_neg h5]
theorem cIr(p:cK)(s:aJ)(x:LS)(h7:s.kind≠7)(h8:s.kind≠8):(cFu p s x).q=cFg x.q (cIu p x.ents s) x.n /\ (cFu p s x).n=x.n+1 /\ (cFu p s x).ents=if s.kind=1 then x.ents++[⟨s.name,4,x.locals⟩] else x.ents:=by
 unfold cFu cIu
 by_cases h1:s.kind=1
 ·rw [if_pos h1,if_pos h1,if_pos h1];exact ⟨rfl,rfl,rfl⟩
 rw [if_neg h1,if_neg h1,if_neg h1]
 by_cases h2:s.kind=2
 ·rw [if_pos h2,if_pos h2];exact ⟨rfl,rfl,rfl⟩
 rw [if_neg h2,if_neg h2]
 by_cases h3:s.kind=3∨s.kind=4
 ·rw [if_pos h3,if_neg (J:¬(s.kind=5∨s.kind=6)),if_pos h3];exact ⟨rfl,rfl,rfl⟩
 rw [if_neg h3]
 by_cases h5:s.kind=5
 ·rw [if_pos h5,if_pos (.inl h5:s.kind=5∨s.kind=6)];exact ⟨rfl,rfl,rfl⟩
 rw [if_neg h5]
 by_cases h6:s.kind=6
 ·rw [if_pos h6,if_pos (.inr h6:s.kind=5∨s.kind=6)];exact ⟨rfl,rfl,rfl⟩
 rw [if_neg h6,if_neg (J:¬(s.kind=5∨s.kind=6)),if_neg h3,if_neg (J:¬(s.kind=7∨s.kind=8))];exact ⟨rfl,rfl,rfl⟩
theorem cI4{q:ES}(h:q.1≠0)(e:Nat)(s:Int):cFg q e s=q:=by unfold cFg;rw [if_neg (λhh=>h hh.1)]
theorem cJf{q:ES}(h:q.1=0){e:Nat}(he:e≠0)(s:Int):cFg q e s=(e,s):=by unfold cFg;rw [if_pos ⟨h,he⟩]
mutual
theorem cJt(p:cK):∀(s:aJ)(x:LS),x.q.1≠0 -> (cFs p s x).q=x.q
 |.mk k name e r args t f,x,h=>by
  have hb:(x.branch e).q=x.q:=cI4 h _ _
  have ht:(cFe p t (x.branch e)).q=x.q:=by rw [cF5 p t _ (by rw [hb];exact h),hb]
  rw [cFs]
  split
  ·split
   ·exact ht
   show (cFe p f _).q=_
   rw [cF5 p f _ (by show (cFe p t (x.branch e)).q.1≠0;rw [ht];exact h)]
   exact ht
  split
  ·exact ht
  rename_i h7 h8
  rw [(cIr p (.mk k name e r args t f) x h7 h8).1];exact cI4 h _ _
theorem cF5(p:cK):∀(l:List aJ)(x:LS),x.q.1≠0 -> (cFe p l x).q=x.q
 |[],x,_=>by rw [cFe]
 |s::l,x,h=>by
  have h1:=cJt p s x h
  rw [cFe,cF5 p l _ (by rw [h1];exact h),h1]
end
end
section
open Go.RowKit
theorem gJ{s:ByteArray}{l:List UInt8}(h:s=bytes l):(s.toList == l)=true:=by subst h;rw [ByteArray.toList_eq];simp [bytes]
theorem fI{s:ByteArray}{l:List UInt8}(h:s≠bytes l):(s.toList == l)=false:=by
 rw [beq_eq_false_iff_ne,ByteArray.toList_eq];intro e;apply h;apply sI;rw [e];simp [bytes]
theorem aDq(s:ByteArray)(w:World):Calls prog 279 #[.string s] w λe w'=>e=.returned (.tuple #[.int .i64 (binOp s).1,.int .i64 (binOp s).2]) /\ w=w':=by
 go_enter func279,Tryz.ntmps279
 by_cases h0:s=bytes [124,124]
 ·have g0:(s.toList == [124,124])=true:=gJ h0
  have hb:binOp s=(17,1):=by rw [binOp,if_pos h0]
  rw [hb]
  clear hb h0
  go_wp2_with fail
  refine bodyPost_ret (v:=.tuple #[.int .i64 17,.int .i64 1]) G4 Y ?_
  exact ⟨Y,Y⟩
 have g0:(s.toList == [124,124])=false:=fI h0
 by_cases h1:s=bytes [38,38]
 ·have g1:(s.toList == [38,38])=true:=gJ h1
  have hb:binOp s=(16,2):=by rw [binOp,if_neg h0,if_pos h1]
  rw [hb]
  clear hb h0 h1
  go_wp2_with fail
  refine bodyPost_ret (v:=.tuple #[.int .i64 16,.int .i64 2]) G4 Y ?_
  exact ⟨Y,Y⟩
 have g1:(s.toList == [38,38])=false:=fI h1
 by_cases h2:s=bytes [61,61]
 ·have g2:(s.toList == [61,61])=true:=gJ h2
  have hb:binOp s=(14,3):=by rw [binOp,if_neg h0,if_neg h1,if_pos h2]
  rw [hb]
  clear hb h0 h1 h2
  go_wp2_with fail
  refine bodyPost_ret (v:=.tuple #[.int .i64 14,.int .i64 3]) G4 Y ?_
  exact ⟨Y,Y⟩
 have g2:(s.toList == [61,61])=false:=fI h2
 by_cases h3:s=bytes [33,61]
 ·have g3:(s.toList == [33,61])=true:=gJ h3
  have hb:binOp s=(15,3):=by rw [binOp,if_neg h0,if_neg h1,if_neg h2,if_pos h3]
  rw [hb]
  clear hb h0 h1 h2 h3
  go_wp2_with fail
  refine bodyPost_ret (v:=.tuple #[.int .i64 15,.int .i64 3]) G4 Y ?_
  exact ⟨Y,Y⟩
 have g3:(s.toList == [33,61])=false:=fI h3
 by_cases h4:s=bytes [60]
 ·have g4:(s.toList == [60])=true:=gJ h4
  have hb:binOp s=(10,3):=by rw [binOp,if_neg h0,if_neg h1,if_neg h2,if_neg h3,if_pos h4]
  rw [hb]
  clear hb h0 h1 h2 h3 h4
  go_wp2_with fail
  refine bodyPost_ret (v:=.tuple #[.int .i64 10,.int .i64 3]) G4 Y ?_
  exact ⟨Y,Y⟩
 have g4:(s.toList == [60])=false:=fI h4
 by_cases h5:s=bytes [60,61]
 ·have g5:(s.toList == [60,61])=true:=gJ h5
  have hb:binOp s=(11,3):=by rw [binOp,if_neg h0,if_neg h1,if_neg h2,if_neg h3,if_neg h4,if_pos h5]
  rw [hb]
  clear hb h0 h1 h2 h3 h4 h5
  go_wp2_with fail
  refine bodyPost_ret (v:=.tuple #[.int .i64 11,.int .i64 3]) G4 Y ?_
  exact ⟨Y,Y⟩
 have g5:(s.toList == [60,61])=false:=fI h5
 by_cases h6:s=bytes [62]
 ·have g6:(s.toList == [62])=true:=gJ h6
  have hb:binOp s=(12,3):=by rw [binOp,if_neg h0,if_neg h1,if_neg h2,if_neg h3,if_neg h4,if_neg h5,if_pos h6]
  rw [hb]
  clear hb h0 h1 h2 h3 h4 h5 h6
  go_wp2_with fail
  refine bodyPost_ret (v:=.tuple #[.int .i64 12,.int .i64 3]) G4 Y ?_
  exact ⟨Y,Y⟩
 have g6:(s.toList == [62])=false:=fI h6
 by_cases h7:s=bytes [62,61]
 ·have g7:(s.toList == [62,61])=true:=gJ h7
  have hb:binOp s=(13,3):=by rw [binOp,if_neg h0,if_neg h1,if_neg h2,if_neg h3,if_neg h4,if_neg h5,if_neg h6,if_pos h7]
  rw [hb]
  clear hb h0 h1 h2 h3 h4 h5 h6 h7
  go_wp2_with fail
  refine bodyPost_ret (v:=.tuple #[.int .i64 13,.int .i64 3]) G4 Y ?_
  exact ⟨Y,Y⟩
 have g7:(s.toList == [62,61])=false:=fI h7
 by_cases h8:s=bytes [43]
 ·have g8:(s.toList == [43])=true:=gJ h8
  have hb:binOp s=(8,4):=by rw [binOp,if_neg h0,if_neg h1,if_neg h2,if_neg h3,if_neg h4,if_neg h5,if_neg h6,if_neg h7,if_pos h8]
  rw [hb]
  clear hb h0 h1 h2 h3 h4 h5 h6 h7 h8
  go_wp2_with fail
  refine bodyPost_ret (v:=.tuple #[.int .i64 8,.int .i64 4]) G4 Y ?_
  exact ⟨Y,Y⟩
 have g8:(s.toList == [43])=false:=fI h8
 by_cases h9:s=bytes [45]
 ·have g9:(s.toList == [45])=true:=gJ h9
  have hb:binOp s=(9,4):=by rw [binOp,if_neg h0,if_neg h1,if_neg h2,if_neg h3,if_neg h4,if_neg h5,if_neg h6,if_neg h7,if_neg h8,if_pos h9]
  rw [hb]
  clear hb h0 h1 h2 h3 h4 h5 h6 h7 h8 h9
  go_wp2_with fail
  refine bodyPost_ret (v:=.tuple #[.int .i64 9,.int .i64 4]) G4 Y ?_
  exact ⟨Y,Y⟩
 have g9:(s.toList == [45])=false:=fI h9
 by_cases h10:s=bytes [42]
 ·have g10:(s.toList == [42])=true:=gJ h10
  have hb:binOp s=(5,5):=by rw [binOp,if_neg h0,if_neg h1,if_neg h2,if_neg h3,if_neg h4,if_neg h5,if_neg h6,if_neg h7,if_neg h8,if_neg h9,if_pos h10]
  rw [hb]
  clear hb h0 h1 h2 h3 h4 h5 h6 h7 h8 h9 h10
  go_wp2_with fail
  refine bodyPost_ret (v:=.tuple #[.int .i64 5,.int .i64 5]) G4 Y ?_
  exact ⟨Y,Y⟩
 have g10:(s.toList == [42])=false:=fI h10
 by_cases h11:s=bytes [47]
 ·have g11:(s.toList == [47])=true:=gJ h11
  have hb:binOp s=(6,5):=by rw [binOp,if_neg h0,if_neg h1,if_neg h2,if_neg h3,if_neg h4,if_neg h5,if_neg h6,if_neg h7,if_neg h8,if_neg h9,if_neg h10,if_pos h11]
  rw [hb]
  clear hb h0 h1 h2 h3 h4 h5 h6 h7 h8 h9 h10 h11
  go_wp2_with fail
  refine bodyPost_ret (v:=.tuple #[.int .i64 6,.int .i64 5]) G4 Y ?_
  exact ⟨Y,Y⟩
 have g11:(s.toList == [47])=false:=fI h11
 by_cases h12:s=bytes [37]
 ·have g12:(s.toList == [37])=true:=gJ h12
  have hb:binOp s=(7,5):=by rw [binOp,if_neg h0,if_neg h1,if_neg h2,if_neg h3,if_neg h4,if_neg h5,if_neg h6,if_neg h7,if_neg h8,if_neg h9,if_neg h10,if_neg h11,if_pos h12]
  rw [hb]
  clear hb h0 h1 h2 h3 h4 h5 h6 h7 h8 h9 h10 h11 h12
  go_wp2_with fail
  refine bodyPost_ret (v:=.tuple #[.int .i64 7,.int .i64 5]) G4 Y ?_
  exact ⟨Y,Y⟩
 have g12:(s.toList == [37])=false:=fI h12
 have hb:binOp s=(0,0):=by rw [binOp,if_neg h0,if_neg h1,if_neg h2,if_neg h3,if_neg h4,if_neg h5,if_neg h6,if_neg h7,if_neg h8,if_neg h9,if_neg h10,if_neg h11,if_neg h12]
 rw [hb]
 clear hb h0 h1 h2 h3 h4 h5 h6 h7 h8 h9 h10 h11 h12
 go_wp2_with fail
 refine bodyPost_ret (v:=.tuple #[.int .i64 0,.int .i64 0]) G4 Y ?_
 exact ⟨Y,Y⟩
def bLb:List ByteArray:=[⟨#[]⟩,⟨#[]⟩,⟨#[]⟩,⟨#[45]⟩,⟨#[33]⟩,⟨#[42]⟩,⟨#[47]⟩,⟨#[37]⟩,⟨#[43]⟩,⟨#[45]⟩,⟨#[60]⟩,⟨#[60,61]⟩,⟨#[62]⟩,⟨#[62,61]⟩,⟨#[61,61]⟩,⟨#[33,61]⟩,⟨#[38,38]⟩,⟨#[124,124]⟩]
structure bOp (w:World):Prop where
 signs:∀j (h:j<bLb.length),w.cell? ⟨5,j,none⟩=some (.string bLb[j])
theorem bOp.keep{L:List Nat}{w w':World}(h:bOp w)(hk:cW L w w')(hn:5∉L):bOp w':=
 ⟨λj hj=>by rw [hk.cell (gV (h.signs j hj)) hn];exact h.signs j hj⟩
theorem bOp.below{w w':World}(h:bOp w)(hb:Below w.heap.size w w'):bOp w':=h.keep (L:=[]) (cW.of_below hb) G0
def bLk(op:Int):Nat:=if op=17 then 1 else if op=16 then 2 else if 10 <= op /\ op <= 15 then 3 else if op=8∨op=9 then 4 else if 5 <= op /\ op <= 7 then 5 else if op=3∨op=4 then 6 else if op=1∨op=2 then 7 else 0
theorem bQb:∀j (h:j<bLb.length),j≠1 -> j≠2 -> j≠3 -> j≠4 -> (binOp bLb[j]).2=bLk j:=V
theorem bOt(op:Int)(h:op<0∨18 <= op):bLk op=0:=by
 unfold bLk
 repeat rw [if_neg J]
theorem bNc(op:Int)(h:1 <= op /\ op <= 17):bLk op=aM op+1:=by
 unfold bLk aM
 split
 ·rfl
 split
 ·rfl
 split
 ·rfl
 split
 ·rfl
 split
 ·rfl
 split
 ·rfl
 rw [if_pos J]
theorem bQf(op:Int)(w:World)(he:bOp w):Calls prog 271 #[.int .i64 op] w λe w'=>e=.returned (.int .i64 (bLk op)) /\ w=w':=by
 have HE:=Lib.hid he
 clear he
 by_cases h1:op=1
 ·subst h1
  go_enter func271,Tryz.ntmps271
  go_wp2_with fail
  go_ret
  exact ⟨Y,Y⟩
 by_cases h2:op=2
 ·subst h2
  go_enter func271,Tryz.ntmps271
  go_wp2_with fail
  go_ret
  exact ⟨Y,Y⟩
 by_cases h3:op=3
 ·subst h3
  go_enter func271,Tryz.ntmps271
  go_wp2_with fail
  go_ret
  exact ⟨Y,Y⟩
 by_cases h4:op=4
 ·subst h4
  go_enter func271,Tryz.ntmps271
  go_wp2_with fail
  go_ret
  exact ⟨Y,Y⟩
 have b1:(op == 1)=false:=C2
 have b2:(op == 2)=false:=B4
 have b3:(op == 3)=false:=DL
 have b4:(op == 4)=false:=by simpa using h4
 by_cases hneg:op<0
 ·have hd:decide (op<0)=true:=by simpa using hneg
  have hs:=bOt op (.inl hneg)
  rw [hs]
  clear hs h1 h2 h3 h4
  go_enter func271,Tryz.ntmps271
  go_wp2_with fail
  go_ret
  exact ⟨Y,Y⟩
 have hd:decide (op<0)=false:=by simpa using hneg
 by_cases hbig:18 <= op
 ·have hd2:decide (18 <= op)=true:=by simpa using hbig
  have hs:=bOt op (.inr hbig)
  rw [hs]
  clear hs h1 h2 h3 h4
  go_enter func271,Tryz.ntmps271
  go_wp2_with fail
  go_ret
  exact ⟨Y,Y⟩
 obtain ⟨j,rfl⟩:∃j:Nat,op=j:=⟨op.toNat,J⟩
 have hj:j<bLb.length:=by simp [bLb];omega
 have hs:=bQb j hj J J J J
 have hc:=HE.out.signs j hj
 have hd2:decide ((18:Int) <= j)=false:=by simpa using hbig
 have hlt:(j:Int)<18:=J
 obtain ⟨s,hs2⟩:∃s,s=bLb[j]:=⟨_,rfl⟩
 rw [←hs2] at hs hc
 rw [←hs]
 clear hs h1 h2 h3 h4 hs2
 go_enter func271,Tryz.ntmps271
 go_wp2_with fail
 refine (aDq s w).mono ?_
 rintro e w' ⟨rfl,rfl⟩
 go_wp2_with fail
 go_ret
 exact ⟨Y,Y⟩
structure bM9 (w:World):Prop where
 words:∀j (h:j<words.length),w.cell? ⟨1,j,none⟩=some (.string words[j])
 maxLen:∃m:Int,w.cell? ⟨4,0,none⟩=some (.int .i64 m)
 signs:bOp w
 tab : Lib.TabIs prog w "internal/strconv.uint64pow10" .u64 Lib.pow10Tab
theorem bM9.up{w w':World}(h:bM9 w)(hu:Up2 w w'):bM9 w':=by
 refine ⟨λj hj=>hu.1 _ _ (h.words j hj),h.maxLen.imp λm hm=>hu.1 _ _ hm,⟨λj hj=>hu.1 _ _ (h.signs.signs j hj)⟩,?_⟩
 have h1:=h.tab
 unfold Lib.TabIs World.var? at h1⊢
 cases hg : prog.globalNamed "internal/strconv.uint64pow10" with
 |none=>rw [hg] at h1;exact absurd h1 G0
 |some g=>
  rw [hg,Option.bind_some] at h1
  rw [Option.bind_some]
  cases hb:w.heap[g]? with
  |none=>rw [hb] at h1;exact absurd h1 G0
  |some o=>
   rw [hb] at h1
   cases o with
   |cells cs t fz=>
    simp only [Option.some.injEq] at h1
    subst h1
    rw [hu.2 g _ t fz hb (by rw [List.size_toArray,List.length_map];decide)]
   |_=>exact absurd h1 G0
abbrev bK5(t:AT):AT:=.ride t bM9
theorem bL3{w:World}{t u:AT}{p:World -> Prop}{v0 v:Value}(h0:dO w (.ride t p) v0)(h:dO w u v):dO w (.ride u p) v:=by
 cases h0 with|ride _ _ _ _ hp=>exact .ride _ _ _ h hp
theorem bMx{bl:List Nat}{w:World}{t:AT}{p:World -> Prop}{v:Value}(h:dO (bI bl w) (.ride t p) v):p w:=by
 cases h with|ride _ _ _ _ hp=>exact hp w (bRm bl w)
theorem bNx{w:World}{t:AT}{p:World -> Prop}{v:Value}(h:dO w (.ride t p) v):p w:=by
 cases h with|ride _ _ _ _ hp=>exact hp w ⟨λ_ _ h=>h,λ_ _ _ _ h _=>h⟩
theorem bOr{w:World}{t:AT}{v:Value}(h:dO w t v)(he:bM9 w):dO w (bK5 t) v:=.ride _ _ _ h λ_ hu=>he.up hu
theorem bPv{t:AT}{p:World -> Prop}:Wk (.ride t p) t:=λw v h=>by cases h with|ride _ _ _ h _=>exact h
theorem bQv{w:World}{t u:AT}{v0 v:Value}(h0:dO w (bK5 t) v0)(h:dO w u v):∃m,dO w (aA2 u m) v:=by
 have he:=bNx h0
 obtain ⟨m,hm⟩:=he.maxLen
 refine ⟨m,.fact _ _ _ _ [.int .i64 m] _ (.fact _ _ _ _ (words.map .string) _ h ?_ ?_) ?_ ?_⟩
 ·have h9:=gU w (words.map .string) AW
  rw [List.map_map] at h9;exact h9
 ·intro j u hj
  have hjl:j<words.length:=by have:=(List.getElem?_eq_some_iff.1 hj).1;simpa using this
  rw [Nat.zero_add,he.words j hjl]
  rw [List.getElem?_map,List.getElem?_eq_getElem hjl] at hj
  exact hj
 ·exact gU _ [.int .i64 m] (λu hu=>by simp at hu;subst hu;rfl)
 intro j u hj
 match j,hj with
 |0,hj=>simp at hj;subst hj;exact hm
 |j+1,hj=>simp at hj
section
variable {P:Program}{U T:List Nat}{o:Oper}{n d:Nat}{ts:List (Nat×AT)}{s:Sto}{K:AS -> Prop}{p:World -> Prop}{t0 u:AT}{us:List AT}{ops:Array Oper}{l:List Oper}{Q:Exit -> AS -> Prop}
theorem bMg{F:FuncId}{ars:Array Operand}{tys:Array TypeId}(i0:Nat)(T':List Nat){QQ:AT -> Sto -> Prop}(ho:o.op=.call {callee:=.value (.func F),args:=ars,argTypes:=tys})(hd:o.dst=some d)(hn:d<n)
  (hcf:∀args w,(callFunc F args).run P w=.ok (.enter F args) w) (hl:look ts i0=some (.ride t0 p)) (has:ars.toList.map (evA ⟨n,T,s,ts⟩)=(u::us).map some) (hc:aL P F (.ride u p::us) T' s QQ) (hT:∀b,b∈T' -> b∈T) (hTb:∀b,b∈T' -> b∈s.bl) (hU:s.bl.Nodup -> ∀b,b∈T' -> b∈U)
  (h:∀r s',QQ r s' -> K ⟨n,T,s',(d,r)::ts⟩):AO P U o ⟨n,T,s,ts⟩ K:=by
 intro a w hs KK QQ' hK
 obtain ⟨h1,h2⟩:=rU hs has
 obtain ⟨v0,-,hv0⟩:=hs.tm i0 _ hl
 refine aCf (st:=⟨n,T,s,ts⟩) (ts:=.ride u p::us) hs hd hn h1 (λi hi hi'=>?_) ?_ hc hT hTb hU h KK QQ' hK
 ·match i,hi with
  |0,hi=>exact bL3 hv0 (h2 0 G0 hi')
  |i+1,hi=>exact h2 (i+1) B3 hi'
 ·simp only [execOp,ho,resolve,Deferred.ofValue,Act.eval,Sem.run_bind,Sem.run_pure,Result.andThen_ok,invoke]
  rw [hcf]
  congr 2
  rw [←Array.toList_inj];simp
theorem bN9{F:FuncId}{ars:Array Operand}{tys:Array TypeId}(i0:Nat)(T':List Nat){QQ:AT -> Sto -> Prop}(ho:o.op=.call {callee:=.value (.func F),args:=ars,argTypes:=tys})(hd:o.dst=some d)(hn:d<n)
  (hcf:∀args w,(callFunc F args).run P w=.ok (.enter F args) w) (hl:look ts i0=some (bK5 t0)) (has:ars.toList.map (evA ⟨n,T,s,ts⟩)=(u::us).map some) (hc:∀m,aL P F (aA2 u m::us) T' s QQ) (hT:∀b,b∈T' -> b∈T) (hTb:∀b,b∈T' -> b∈s.bl) (hU:s.bl.Nodup -> ∀b,b∈T' -> b∈U)
  (h:∀r s',QQ r s' -> K ⟨n,T,s',(d,r)::ts⟩):AO P U o ⟨n,T,s,ts⟩ K:=by
 intro a w hs KK QQ' hK
 obtain ⟨h1,h2⟩:=rU hs has
 obtain ⟨v0,-,hv0⟩:=hs.tm i0 _ hl
 obtain ⟨m,hm⟩:=bQv hv0 (h2 0 G0 (by rw [h1];simp))
 refine aCf (st:=⟨n,T,s,ts⟩) (ts:=aA2 u m::us) hs hd hn h1 (λi hi hi'=>?_) ?_ (hc m) hT hTb hU h KK QQ' hK
 ·match i,hi with
  |0,hi=>exact hm
  |i+1,hi=>exact h2 (i+1) B3 hi'
 ·simp only [execOp,ho,resolve,Deferred.ofValue,Act.eval,Sem.run_bind,Sem.run_pure,Result.andThen_ok,invoke]
  rw [hcf]
  congr 2
  rw [←Array.toList_inj];simp
theorem bRz{F:FuncId}{x:Operand}{cap:Array Value}{ars:Array Operand}{tys:Array TypeId}(i0:Nat)(T':List Nat){QQ:AT -> Sto -> Prop}(ho:o.op=.call {callee:=.value x,args:=ars,argTypes:=tys})(hx:evA ⟨n,T,s,ts⟩ x=some (Cv (.func (.func F) #[] cap)))(hd:o.dst=some d)(hn:d<n)
  (hcf:∀args w,(callFunc F args).run P w=.ok (.enter F args) w) (hl:look ts i0=some (.ride t0 p)) (has:ars.toList.map (evA ⟨n,T,s,ts⟩)=(u::us).map some) (hc:aL P F (.ride u p::(us++cap.toList.map cst)) T' s QQ) (hT:∀b,b∈T' -> b∈T) (hTb:∀b,b∈T' -> b∈s.bl) (hU:s.bl.Nodup -> ∀b,b∈T' -> b∈U)
  (h:∀r s',QQ r s' -> K ⟨n,T,s',(d,r)::ts⟩):AO P U o ⟨n,T,s,ts⟩ K:=by
 intro a w hs KK QQ' hK
 obtain ⟨h1,h2⟩:=rU hs has
 obtain ⟨v0,-,hv0⟩:=hs.tm i0 _ hl
 obtain ⟨d1,d2⟩:=aA7 (bI s.bl w) cap.toList
 have h3:(ars.toList.map a.eval).length=(AT.ride u p::us).length /\ ∀i (h:i<(AT.ride u p::us).length) (h':i<(ars.toList.map a.eval).length),dO (bI s.bl w) (AT.ride u p::us)[i] (ars.toList.map a.eval)[i]:=by
  refine ⟨h1,λi hi hi'=>?_⟩
  match i,hi with
  |0,hi=>exact bL3 hv0 (h2 0 G0 hi')
  |i+1,hi=>exact h2 (i+1) B3 hi'
 obtain ⟨g3,g4⟩:=aBo h3.1 h3.2 d1 d2
 refine aCf (st:=⟨n,T,s,ts⟩) (ts:=.ride u p::(us++cap.toList.map cst)) hs hd hn g3 g4 ?_ hc hT hTb hU h KK QQ' hK
 simp only [execOp,ho,resolve,hs.val hx,Deferred.ofValue,Sem.run_bind,Sem.run_pure,Result.andThen_ok,invoke]
 rw [hcf]
 congr 2
 rw [←Array.toList_inj];simp
theorem noT{X:List Nat}:∀b,b∈([]:List Nat) -> b∈X:=λ_ h=>DV
theorem wcR{F:FuncId}{ars:Array Operand}{tys:Array TypeId}{r:AT}(i0:Nat)(h0:(fC ops o ⟨n,T,s,ts⟩,o.op,o.dst,Nat.blt d n,look ts i0)=(some true,.call {callee:=.value (.func F),args:=ars,argTypes:=tys},some d,true,some (.ride t0 p)))
  (hcf:∀args w,(callFunc F args).run P w=.ok (.enter F args) w) (has:ars.toList.map (evA ⟨n,T,s,ts⟩)=(u::us).map some) (hc:aL P F (.ride u p::us) [] s λt s'=>t=r /\ s'=s) (h:eQ P ops l ⟨n,T,s,(d,r)::ts⟩ Q):eQ P ops (o::l) ⟨n,T,s,ts⟩ Q:=by
 simp only [Prod.mk.injEq] at h0
 exact wo h0.1 (bMg i0 [] h0.2.1 h0.2.2.1 (Nat.le_of_ble_eq_true h0.2.2.2.1) hcf h0.2.2.2.2 has hc noT noT (λ_=>noT) λr s' ⟨h1,h2⟩=>Ej)
theorem bK8{F:FuncId}{ars:Array Operand}{tys:Array TypeId}{b c:Bool}(i0:Nat)(h0:(fC ops o ⟨n,T,s,ts⟩,o.op,o.dst,Nat.blt d n,look ts i0)=(some true,.call {callee:=.value (.func F),args:=ars,argTypes:=tys},some d,true,some (.ride t0 p)))
  (hcf:∀args w,(callFunc F args).run P w=.ok (.enter F args) w) (has:ars.toList.map (evA ⟨n,T,s,ts⟩)=(u::us).map some) (hc:aL P F (.ride u p::us) [] s λt s'=>t=Cb b /\ s'=s) (hb:b=c) (h:eQ P ops l ⟨n,T,s,(d,Cb c)::ts⟩ Q):eQ P ops (o::l) ⟨n,T,s,ts⟩ Q:=by
 subst hb;exact wcR i0 h0 hcf has hc h
theorem wc1{F:FuncId}{ars:Array Operand}{tys:Array TypeId}{r:AT}(h0:(fC ops o ⟨n,T,s,ts⟩,o.op,o.dst,Nat.blt d n)=(some true,.call {callee:=.value (.func F),args:=ars,argTypes:=tys},some d,true))
  (hcf:∀args w,(callFunc F args).run P w=.ok (.enter F args) w) (has:ars.toList.map (evA ⟨n,T,s,ts⟩)=us.map some) (hc:aL P F us [] s λt s'=>t=r /\ s'=s) (h:eQ P ops l ⟨n,T,s,(d,r)::ts⟩ Q):eQ P ops (o::l) ⟨n,T,s,ts⟩ Q:=by
 simp only [Prod.mk.injEq] at h0
 exact wo h0.1 (bD [] h0.2.1 h0.2.2.1 (Nat.le_of_ble_eq_true h0.2.2.2) hcf has hc noT noT (λ_=>noT) λr s' ⟨h1,h2⟩=>Ej)
theorem bOu{F:FuncId}{ars:Array Operand}{tys:Array TypeId}{b c:Bool}(h0:(fC ops o ⟨n,T,s,ts⟩,o.op,o.dst,Nat.blt d n)=(some true,.call {callee:=.value (.func F),args:=ars,argTypes:=tys},some d,true))
  (hcf:∀args w,(callFunc F args).run P w=.ok (.enter F args) w) (has:ars.toList.map (evA ⟨n,T,s,ts⟩)=us.map some) (hc:aL P F us [] s λt s'=>t=Cb b /\ s'=s) (hb:b=c) (h:eQ P ops l ⟨n,T,s,(d,Cb c)::ts⟩ Q):eQ P ops (o::l) ⟨n,T,s,ts⟩ Q:=by
 subst hb;exact wc1 h0 hcf has hc h
theorem bRr{t e:TypeId}{y:Operand}{k:IntKind}{i:Int}{N:Nat}(i0 j:Nat)(ho:o.op=.indexAddr t (.global 5) y)(hl:look ts i0=some (bK5 t0))(hy:evA ⟨n,T,s,ts⟩ y=some (Cv (.int k i)))(hi:i=j)(hj:j<bLb.length)(hN:bLb.length=N)
  (hu:∀w,(underlying t).run P w=.ok (.array N e) w) (hS:∀w,(sizeOf e).run P w=.ok 1 w):AY P U o ⟨n,T,s,ts⟩ (.el [Vs (bLb[j])]):=by
 intro a w hs _
 subst hi;subst hN
 obtain ⟨v0,-,hv0⟩:=hs.tm i0 _ hl
 have he:=(bNx hv0).signs.signs j hj
 refine ⟨.pointer (some ⟨5,j,none⟩),.el _ _ _ [.string bLb[j]] (gU _ [.string bLb[j]] (λu hu=>by simp at hu;subst hu;rfl)) (λi u hu=>?_) (gV he),λw' _=>?_⟩
 ·match i,hu with
  |0,hu=>simp at hu;subst hu;exact he
  |i+1,hu=>simp at hu
 ·simp only [execOp,ho,hs.val hy,show a.eval (.global 5)=.pointer (some ⟨5,0,none⟩) from rfl,Instr.indexAt,asIntOf,Sem.run_bind,Sem.run_pure,Result.andThen_ok,hu]
  simp [go_sem,hS,hj,oU]
end
end
section
def aPn(t:Tok):Prop:=(t.kind=3 -> dA t.text=true) /\ (t.kind=4 -> dA t.text=false) /\ t.num <= 9223372036854775807
theorem aBk:∀(r:List UInt8)(n m:Nat),n <= 9223372036854775807 -> iT n r=some m -> m <= 9223372036854775807
 |[],n,m,h,he=>by unfold iT at he;cases he;exact h
 |c::r,n,m,h,he=>by
  unfold iT at he
  split at he
  ·cases he
  exact aBk r _ m (by have:=c.toNat_lt;omega) he
theorem aKj:∀x,x∈words -> fU (x.data.toList.headD 0)=true:=V
theorem aKh{c:UInt8}{r:List UInt8}(h:fU c=false){n:Nat}(hn:n≠0):dA (bytes ((c::r).take n))=false:=by
 cases hr:dA (bytes ((c::r).take n)) with
 |false=>rfl
 |true=>
  have h1:=aKj _ ((mK _).1 hr)
  obtain ⟨m,rfl⟩:∃m,n=m+1:=⟨n-1,J⟩
  simp [bytes] at h1
  rw [h] at h1;cases h1
theorem aKe{c:UInt8}{r:List UInt8}{kind len num:Nat}(p:Nat)(h:dQ (c::r)=.tok kind len num):aPn ⟨kind,bytes ((c::r).take len),num,p⟩ /\ kind≠5:=by
 cases hc:fU c with
 |true=>
  rw [kK hc] at h
  split at h
  ·cases h
  ·injection h with h1 h2 h3
   subst h2;subst h3;subst h1
   have ht:(c::r).take ((c::r).takeWhile cT).length=(c::r).takeWhile cT:=by
    have:=List.takeWhile_prefix (l:=c::r) cT
    exact (List.prefix_iff_eq_take.1 this).symm
   rw [ht]
   refine ⟨⟨λh3=>?_,λh4=>?_,by show 0 <= _;omega⟩,?_⟩
   ·change (if dA (bytes ((c::r).takeWhile cT))=true then 3 else 1)=3 at h3
    split at h3
    ·assumption
    omega
   ·change (if dA (bytes ((c::r).takeWhile cT))=true then 3 else 1)=4 at h4
    split at h4<;>omega
   ·split<;>omega
 |false=>
  cases hd:cD c with
  |true=>
   cases hn:iT 0 ((c::r).takeWhile cD) with
   |none=>rw [nK hc hd hn] at h;cases h
   |some n=>
    rw [lP hc hd hn] at h
    injection h with h1 h2 h3
    subst h1;subst h2;subst h3
    exact ⟨⟨λh=>absurd h (show ¬(2=3) by decide),λh=>absurd h (show ¬(2=4) by decide),aBk _ _ _ J hn⟩,J⟩
  |false=>
   rw [iN hc hd] at h
   split at h
   ·cases h
   rename_i h0
   injection h with h1 h2 h3
   subst h1;subst h2;subst h3
   exact ⟨⟨λh=>absurd h (show ¬(4=3) by decide),λ_=>aKh hc h0,Nat.zero_le _⟩,J⟩
structure aX5 (l:List Tok):Prop where
 ends:rP l
 reg:∀t,t∈l -> aPn t
 few:l.length <= 4001
theorem aFf:∀(m:Nat)(s:List UInt8)(k n:Nat),s.length-k <= m -> k <= s.length -> n <= 4000 -> ∀L,kD s k n=.ok L -> (∃h:0<L.length,(L[L.length-1]'(by omega)).kind=5) /\ (∀t,t∈L -> aPn t) /\ L.length+n <= 4001
 |m,s,k,n,hm,hk,hn,L,h=>by
  by_cases he:s.length <= bF s k
  ·rw [mX he] at h
   cases h
   refine ⟨⟨G0,Y⟩,λt ht=>?_,DR⟩
   simp at ht;subst ht
   exact ⟨λh=>DV,λh=>DV,by show 0 <= _;omega⟩
  have hlt:bF s k<s.length:=J
  cases hx:dQ (s.drop (bF s k)) with
  |err e=>rw [uY hlt hx] at h;cases h
  |tok kind len num=>
   by_cases h4:n=4000
   ·subst h4;rw [sG hlt hx] at h;cases h
   rw [nD hk hlt hx h4] at h
   have hg:=lG s k hk
   have hd:s.drop (bF s k)≠[]:=CF
   have hl:=mS hd hx
   rw [List.length_drop] at hl
   obtain ⟨c,r,hcr⟩:=List.exists_cons_of_ne_nil hd
   rw [hcr] at hx h
   have hreg:=aKe (bF s k) hx
   cases m with
   |zero=>omega
   |succ m=>
    cases ht:kD s (bF s k+len) (n+1) with
    |err p e=>rw [ht] at h;cases h
    |ok L'=>
     rw [ht] at h
     cases h
     obtain ⟨⟨h0,h5⟩,h2,h3⟩:=aFf m s (bF s k+len) (n+1) J J J L' ht
     refine ⟨⟨G0,?_⟩,λt ht=>?_,DR⟩
     ·simp only [length_cons]
      rw [List.getElem_cons]
      rw [dif_neg J]
      simpa using h5
     rcases mem_cons.1 ht with rfl|ht
     ·exact hreg.1
     exact h2 t ht
theorem wD{s:List UInt8}{L:List Tok}(h:iH s=.ok L):aX5 L:=by
 unfold iH at h
 split at h
 ·cases h
 obtain ⟨h1,h2,h3⟩:=aFf s.length s 0 0 J J J L h
 exact ⟨h1,h2,J⟩
end
section
theorem bOa{c:UInt8}{r:List UInt8}{len num:Nat}(h:dQ (c::r)=.tok 1 len num):bQ (bytes ((c::r).take len))=true:=by
 cases hc:fU c with
 |true=>
  rw [kK hc] at h
  split at h
  ·cases h
  ·rename_i h16
   injection h with h1 h2 h3
   subst h2
   have ht:(c::r).take ((c::r).takeWhile cT).length=(c::r).takeWhile cT:=
    (List.prefix_iff_eq_take.1 (List.takeWhile_prefix (l:=c::r) cT)).symm
   rw [ht]
   have hn:cT c=true:=by simp [cT,hc]
   have hd:(bytes ((c::r).takeWhile cT)).data.toList=c::r.takeWhile cT:=by rw [List.takeWhile_cons_of_pos hn];simp [bytes]
   unfold bQ
   rw [hd]
   have hsz:(bytes ((c::r).takeWhile cT)).size=((c::r).takeWhile cT).length:=Co
   have hres:dA (bytes ((c::r).takeWhile cT))=false:=by
    cases hr:dA (bytes ((c::r).takeWhile cT)) with
    |false=>rfl
    |true=>rw [if_pos hr] at h1;omega
   have hall:(r.takeWhile cT).all cT=true:=List.all_eq_true.2 λx hx=>by
    have:=List.all_takeWhile (p:=cT) (l:=r)
    exact List.all_eq_true.1 this x hx
   simp only [hc,hall,hres,hsz,decide_eq_true (show ((c::r).takeWhile cT).length <= 16 by omega),Bool.and_self,Bool.not_false]
 |false=>
  cases hd:cD c with
  |true=>
   cases hn:iT 0 ((c::r).takeWhile cD) with
   |none=>rw [nK hc hd hn] at h;cases h
   |some n=>rw [lP hc hd hn] at h;injection h with h1;omega
  |false=>
   rw [iN hc hd] at h
   split at h
   ·cases h
   injection h with h1;omega
theorem bNf:∀(m:Nat)(s:List UInt8)(k n:Nat),s.length-k <= m -> k <= s.length -> ∀L,kD s k n=.ok L -> ∀t,t∈L -> t.kind=1 -> bQ t.text=true
 |m,s,k,n,hm,hk,L,h,t,ht,h1=>by
  by_cases he:s.length <= bF s k
  ·rw [mX he] at h
   cases h
   simp at ht;subst ht;cases h1
  have hlt:bF s k<s.length:=J
  cases hx:dQ (s.drop (bF s k)) with
  |err e=>rw [uY hlt hx] at h;cases h
  |tok kind len num=>
   by_cases h4:n=4000
   ·subst h4;rw [sG hlt hx] at h;cases h
   rw [nD hk hlt hx h4] at h
   have hg:=lG s k hk
   have hd:s.drop (bF s k)≠[]:=CF
   have hl:=mS hd hx
   rw [List.length_drop] at hl
   obtain ⟨c,r,hcr⟩:=List.exists_cons_of_ne_nil hd
   rw [hcr] at hx h
   cases m with
   |zero=>omega
   |succ m=>
    cases hq:kD s (bF s k+len) (n+1) with
    |err p e=>rw [hq] at h;cases h
    |ok L'=>
     rw [hq] at h
     cases h
     rcases mem_cons.1 ht with rfl|ht
     ·dsimp only at h1
      subst h1
      exact bOa hx
     exact bNf m s (bF s k+len) (n+1) J J L' hq t ht h1
theorem bO7{s:List UInt8}{L:List Tok}(h:iH s=.ok L):∀t,t∈L -> t.kind=1 -> bQ t.text=true:=by
 unfold iH at h
 split at h
 ·cases h
 exact bNf s.length s 0 0 J J L h
theorem bMf{p:UInt8 -> Bool}:∀{l:List UInt8},(∀x,x∈l -> p x=true) -> l.takeWhile p=l
 |[],_=>rfl
 |x::l,h=>by rw [List.takeWhile_cons_of_pos (h x G0),bMf λy hy=>h y (by simp [hy])]
theorem bP2{c:UInt8}(h:fU c=true):isSp c=false /\ c≠47:=by
 unfold fU at h
 rw [decide_eq_true_eq] at h
 refine ⟨by unfold isSp;rw [decide_eq_false_iff_not];omega,?_⟩
 rintro rfl
 revert h;decide
theorem bNq{s:ByteArray}(h:bQ s=true):iH s.data.toList=.ok [⟨1,s,0,0⟩,⟨5,⟨#[]⟩,0,s.size⟩]:=by
 unfold bQ at h
 have hsz:s.size=s.data.toList.length:=Y
 have hb:bytes s.data.toList=s:=Dn
 rw [hsz] at h⊢
 cases hd:s.data.toList with
 |nil=>rw [hd] at h;simp at h
 |cons c r=>
  rw [hd] at h hb
  simp only [Bool.and_eq_true,decide_eq_true_eq,Bool.not_eq_true'] at h
  obtain ⟨⟨⟨h1,h2⟩,h3⟩,h4⟩:=h
  have hall:(c::r).takeWhile cT=c::r:=bMf (by
   intro x hx
   rcases mem_cons.1 hx with rfl|hx
   ·simp [cT,h1]
   exact List.all_eq_true.1 h2 x hx)
  have hk:bF (c::r) 0=0:=zX _ 0 G0 (bP2 h1).1 (λh=>(bP2 h1).2 h.1)
  unfold iH
  rw [if_neg J,kD,hk,if_neg G0,List.drop_zero,kK h1,hall,if_neg J]
  dsimp only
  rw [if_neg J,dif_pos ⟨G0,G0⟩,kD,aA5 _ _ G0,if_pos (Nat.le_refl _),List.take_length,hb,h4]
  rfl
theorem bL0{s:ByteArray}{L:List Tok}(h:iH s.data.toList=.ok L):(L.length=2 /\ ∃h0:0<L.length,L[0].kind=1 /\ L[0].text=s)↔bQ s=true:=by
 constructor
 ·rintro ⟨_,h0,h1,h2⟩
  rw [←h2]
  exact bO7 h _ (getElem_mem _) h1
 intro hn
 rw [bNq hn] at h
 cases h
 exact ⟨Y,G0,Y,Y⟩
theorem bOs{s:ByteArray}{p e:Nat}(h:iH s.data.toList=.err p e):bQ s=false:=by
 cases hn:bQ s with
 |false=>rfl
 |true=>rw [bNq hn] at h;cases h
end
section
open Go.RowKit
theorem bNt{F:FuncId}{u0:Value}{us:List Value}{u:Value}(h1:u.oneCell'=true)(h:∀w,bM9 w -> Calls prog F (u0::us).toArray w λe w'=>e=.returned u /\ w=w')(s:Sto):aL prog F (bK5 (Cv u0)::us.map λu=>Cv u) [] s λr s'=>r=Cv u /\ s'=s:=by
 intro vs w hm _ hl hr
 cases vs with
 |nil=>cases hl
 |cons v vs=>
  have h0:dO (bI s.bl w) (bK5 (Cv u0)) v:=hr 0 G0 G0
  obtain rfl:=(bPv _ _ h0).val
  obtain rfl:vs=us:=by
   refine List.ext_getElem Dm λi h1 h2=>?_
   have h3:=hr (i+1) B4 C2
   simp only [List.getElem_cons_succ,List.getElem_map] at h3
   exact h3.val
  exact (h w (bMx h0)).mono λe w' ⟨h2,h3⟩=>CE
theorem bOf(op:Int)(s:Sto):aL prog 271 [bK5 (Ci op)] [] s λr s'=>r=Ci ((bLk op:Nat):Int) /\ s'=s:=
 bNt (us:=[]) rfl (λw he=>bQf op w he.signs) s
theorem bPh{op:Int}(h:bLk op=7):op=1∨op=2:=by
 unfold bLk at h;(repeat' split at h)<;>omega
theorem bSc{op:Int}(h:bLk op=6):op=3∨op=4:=by
 unfold bLk at h;(repeat' split at h)<;>omega
theorem bNd(op:Int):bLk op <= 7:=by unfold bLk;(repeat' split)<;>omega
theorem bR4{op:Int}(h:bLk op=0):¬(1 <= op /\ op <= 17):=by
 unfold bLk at h;(repeat' split at h)<;>omega
theorem bN2{op:Int}(h:¬bLk op=0):1 <= op /\ op <= 17:=by
 unfold bLk at h;(repeat' split at h)<;>omega
def bLj(e:aH):Bool:=
 if bLk e.op=0 then false else if bLk e.op=7 then decide (e.args.length=0) && jG e.op e.num e.name
 else decide (e.args.length=if bLk e.op=6 then 1 else 2) && decide (e.num=0) && decide (e.name=aK) && dY e.args
theorem bK7(e:aH):eO e=bLj e:=by
 rw [dZ]
 unfold bLj
 by_cases h0:bLk e.op=0
 ·have h1:=bR4 h0
  have hs:aM e.op=6:=D9
  have hl:jG e.op e.num e.name=false:=by
   unfold jG
   rw [decide_eq_false (show ¬(e.op=1 /\ 0 <= e.num) by omega),decide_eq_false (show ¬(e.op=2 /\ e.num=0) by omega)];rfl
  rw [if_pos h0,if_pos hs,hl];rfl
 have hop:=bN2 h0
 have h2:=bNc e.op hop
 rw [if_neg h0]
 by_cases h7:bLk e.op=7
 ·rw [if_pos h7,if_pos J]
  unfold arity
  rw [if_pos J]
  cases ha:e.args with
  |nil=>simp [dY]
  |cons x l=>simp
 rw [if_neg h7,if_neg (by have:=bNd e.op;omega)]
 unfold arity
 rw [if_neg (by have:=bNd e.op;omega)]
 by_cases h6:bLk e.op=6
 ·rw [if_pos h6,if_pos J]
  cases decide (e.num=0)<;>cases decide (e.name=aK)<;>cases dY e.args<;>simp
 rw [if_neg h6,if_neg J]
 cases decide (e.num=0)<;>cases decide (e.name=aK)<;>cases dY e.args<;>simp
theorem bPx:∀{l:List aH} (h:l.length=1),dY l=eO (l[0]'(by omega))
 |[x],_=>by simp [dY]
theorem bOm:∀{l:List aH} (h:l.length=2),dY l=(eO (l[0]'(by omega)) && eO (l[1]'(by omega)))
 |[x,y],_=>by simp [dY]
theorem bLd{e:aH}(h:eO e=true):(1 <= e.op /\ e.op <= 17) /\ ∀k (hk:k<e.args.length),eO e.args[k]=true:=by
 refine ⟨bN2 λh0=>?_,λk hk=>?_⟩
 ·rw [bK7] at h;unfold bLj at h;rw [if_pos h0] at h;cases h
 cases hs:eO e.args[k] with
 |true=>rfl
 |false=>
  rw [dZ,oF _ _ _ hs,Bool.and_false] at h;cases h
theorem bOl(e:aH)(k:Nat)(hk:k<e.args.length)(ho:1 <= e.op /\ e.op <= 17)(hok:1 <= e.args[k].op /\ e.args[k].op <= 17)(s:Sto):aL prog 273 [bK5 (.agg (cU e)),nI k] [] s λt s'=>t=Cb (cV e.op k e.args[k].op) /\ s'=s:=by
 obtain ⟨bx,rw⟩:=s
 refine acX 29 func273 ?_
 refine go 7 λb1=>?_
 refine dx [b1] (tz [(0,true),(1,true),(2,true)] 9 (go 4 ?_))
 refine tx 3 Y (bH fO cU e.args iU fP k Y Y Y Y J V runUnderlying57 sizeOf59) (tz [(4,true),(5,true),(7,true),(8,true)] 4 (go 5 ?_))
 refine ox 6 Y Y (bMg 0 [] Y Y V call271 Y Y (bOf e.args[k].op _) bDl bDl (λ_=>bDl) ?_)
 rintro _ _ ⟨rfl,rfl⟩
 refine ox 9 Y Y (bMg 0 [] Y Y V call271 Y Y (bOf e.op _) bDl bDl (λ_=>bDl) ?_)
 rintro _ _ ⟨rfl,rfl⟩
 refine tz [(10,true),(11,true)] 0 (go 3 ?_)
 refine ax (go 3 ?_)
 have hs1:=bNc e.op ho
 have hs2:=bNc e.args[k].op hok
 refine go 2 ?_
 by_cases h3:((bLk e.args[k].op:Nat):Int)<((bLk e.op:Nat):Int)
 focus
  refine wcp true Y (jZ h3) (go 13 ?_)
 rotate_left
 focus
  refine wcp false Y (jQ h3) (go 3 ?_)
  by_cases h4:((bLk e.args[k].op:Nat):Int)=((bLk e.op:Nat):Int)
  focus
   refine wcp true Y (eR h4) (go 2 ?_)
   by_cases h5:((k:Nat):Int)=1
   focus
    refine wcp true Y (eR h5) (go 6 ?_)
   rotate_left
   refine wcp false Y (eD h5) (go 6 ?_)
  rotate_left 2
  refine wcp false Y (eD h4) (go 9 ?_)
 all_goals
  exact bHe (s':=⟨bx,rw⟩) Y sb1 ⟨cX (by unfold cV;first|exact decide_eq_true J|exact decide_eq_false J),Y⟩
theorem bP1(x:ByteArray)(hx:x.size <= 4611686018427387904)(s:Sto):aL prog 272 [bK5 (Cs x)] [] s λt s'=>t=Cb (bQ x) /\ s'=s:=by
 obtain ⟨bx,rw⟩:=s
 refine acX 35 func272 ?_
 refine go 8 ?_
 refine wo Y (aDc Y Y V Y underlying9 underlying99 underlying5 D5 (N:=x.data.toList.length) Y (cs:=iF x.data.toList) Y ?_)
 refine wo Y (bN9 0 [] Y Y V call127 Y Y (λm=>aP8 x.data.toList m _) bDl bDl (λ_=>bDl) ?_)
 rintro _ _ ⟨(⟨tl1,hlx1,rfl,htl1⟩|⟨p1,e1,hlx1,rfl,he1⟩),rfl⟩
 ·refine go 12 ?_
  refine wcp true Y B7 (go 3 ?_)
  by_cases h2:((tl1.length:Nat):Int)=2
  ·refine wcp true Y (eR h2) (go 3 ?_)
   refine wyz Y (bH aW aW tl1 bJ (λ_=>Y) 0 Y Y Y Y J V runUnderlying178 sizeOf199) (go 2 ?_)
   by_cases h3:((tl1[0].kind:Nat):Int)=1
   ·refine wcp true Y (eR h3) (go 3 ?_)
    refine wyz Y (bH aW aW tl1 bJ (λ_=>Y) 0 Y Y Y Y J V runUnderlying178 sizeOf199) (go 3 ?_)
    by_cases h4:tl1[0].text=x
    ·refine wyz Y (aZ true Y Y Y (aL8 h4)) (go 5 ?_)
     exact bHe (s':=⟨bx,rw⟩) Y sb0 ⟨cX ((bL0 hlx1).1 ⟨J,J,J,h4⟩),Y⟩
    refine wyz Y (aZ false Y Y Y (aLs h4)) (go 5 ?_)
    exact bHe (s':=⟨bx,rw⟩) Y sb0 ⟨cX (Bool.eq_false_iff.2 λhh=>D2),Y⟩
   refine wcp false Y (eD h3) (go 13 ?_)
   exact bHe (s':=⟨bx,rw⟩) Y sb0 ⟨cX (Bool.eq_false_iff.2 λhh=>D3),Y⟩
  refine wcp false Y (eD h2) (go 20 ?_)
  exact bHe (s':=⟨bx,rw⟩) Y sb0 ⟨cX (Bool.eq_false_iff.2 λhh=>D4),Y⟩
 refine go 12 ?_
 refine wcp false Y (eD J) (go 24 ?_)
 exact bHe (s':=⟨bx,rw⟩) Y sb0 ⟨cX (bOs hlx1),Y⟩
theorem bQi(e:aH)(hx:e.name.size <= 4611686018427387904)(ih:∀k (h:k<e.args.length) (s:Sto),aL prog 261 [bK5 (.agg (cU e.args[k]))] [] s λr s'=>r=Cb (eO e.args[k]) /\ s'=s)(s:Sto):aL prog 261 [bK5 (.agg (cU e))] [] s λt s'=>t=Cb (eO e) /\ s'=s:=by
 obtain ⟨bx,rw⟩:=s
 refine acX 93 func261 ?_
 refine go 11 λb1=>?_
 refine wcR 0 Y call271 Y (bOf e.op _) (go 5 ?_)
 by_cases h1:((bLk e.op:Nat):Int)=0
 ·have h7:=bPh (op:=e.op)
  have hle:=bNd e.op
  refine wcp true Y (eR h1) (go 12 ?_)
  exact bHe (s':=⟨bx,rw⟩) Y sb1 ⟨cX (by rw [bK7];unfold bLj;rw [if_pos J]),Y⟩
 have h7:=bPh (op:=e.op)
 have hle:=bNd e.op
 refine wcp false Y (eD h1) (go 6 ?_)
 by_cases h4:((bLk e.op:Nat):Int)=7
 ·refine wcp true Y (eR h4) (go 10 ?_)
  by_cases h6:(0:Int)<((e.args.length:Nat):Int)
  ·refine wcp true Y (mH h6) (go 12 ?_)
   exact bHe (s':=⟨bx,rw⟩) Y sb1 ⟨cX (by rw [bK7];unfold bLj;rw [if_neg J,if_pos J];rw [decide_eq_false J];rfl),Y⟩
  refine wcp false Y (mI h6) (go 9 ?_)
  by_cases h9:e.op=1
  ·refine wcp true Y (eR h9) (go 3 ?_)
   by_cases h10:(0:Int) <= e.num
   ·refine wcp true Y (aMq h10) (go 4 ?_)
    by_cases h11:e.name=aK
    ·refine wyz Y (aZ true Y Y Y (aL8 h11)) (go 22 ?_)
     exact bHe (s':=⟨bx,rw⟩) Y sb1 ⟨cX (by rw [bK7];unfold bLj;rw [if_neg J,if_pos J];rw [decide_eq_true (show e.args.length=0 by omega)];unfold jG;rw [decide_eq_true (show e.op=1 /\ 0 <= e.num by omega),decide_eq_true h11,decide_eq_false (show ¬(e.op=2 /\ e.num=0) by omega)];rfl),Y⟩
    refine wyz Y (aZ false Y Y Y (aLs h11)) (go 4 ?_)
    refine wcp false Y (eD J) (go 17 ?_)
    exact bHe (s':=⟨bx,rw⟩) Y sb1 ⟨cX (by rw [bK7];unfold bLj;rw [if_neg J,if_pos J];rw [decide_eq_true (show e.args.length=0 by omega)];unfold jG;rw [decide_eq_true (show e.op=1 /\ 0 <= e.num by omega),decide_eq_false h11,decide_eq_false (show ¬(e.op=2 /\ e.num=0) by omega)];rfl),Y⟩
   refine wcp false Y (aMx h10) (go 9 ?_)
   refine wcp false Y (eD J) (go 17 ?_)
   exact bHe (s':=⟨bx,rw⟩) Y sb1 ⟨cX (by rw [bK7];unfold bLj;rw [if_neg J,if_pos J];rw [decide_eq_true (show e.args.length=0 by omega)];unfold jG;rw [decide_eq_false (show ¬(e.op=1 /\ 0 <= e.num) by omega),decide_eq_false (show ¬(e.op=2 /\ e.num=0) by omega)];rfl),Y⟩
  refine wcp false Y (eD h9) (go 13 ?_)
  by_cases h12:e.op=2
  focus
   refine wcp true Y (eR h12) (go 3 ?_)
   by_cases h13:e.num=0
   ·refine wcp true Y (eR h13) (go 4 ?_)
    rcases Bool.eq_false_or_eq_true (bQ e.name) with h14|h14
    rotate_left
    all_goals
     refine bK8 0 Y call272 Y (bP1 e.name (by first|assumption|omega) _) h14 (go 8 ?_)
     exact bHe (s':=⟨bx,rw⟩) Y sb1 ⟨cX (by rw [bK7];unfold bLj;rw [if_neg J,if_pos J];rw [decide_eq_true (show e.args.length=0 by omega)];unfold jG;rw [decide_eq_false (show ¬(e.op=1 /\ 0 <= e.num) by omega)];rw [decide_eq_true (show e.op=2 /\ e.num=0 by omega),h14];rfl),Y⟩
   refine wcp false Y (eD h13) (go 13 ?_)
  rotate_left
  refine wcp false Y (eD h12) (go 17 ?_)
  all_goals
   exact bHe (s':=⟨bx,rw⟩) Y sb1 ⟨cX (by rw [bK7];unfold bLj;rw [if_neg J,if_pos J];rw [decide_eq_true (show e.args.length=0 by omega)];unfold jG;rw [decide_eq_false (show ¬(e.op=1 /\ 0 <= e.num) by omega)];rw [decide_eq_false (show ¬(e.op=2 /\ e.num=0) by omega)];rfl),Y⟩
 refine wcp false Y (eD h4) (go 6 ?_)
 by_cases h16:((bLk e.op:Nat):Int)=6
 ·refine wcp true Y (eR h16) (go 9 ?_)
  by_cases h18:((e.args.length:Nat):Int)=1
  ·refine wcp true Y (eR h18) (go 3 ?_)
   by_cases h19:e.num=0
   ·refine wcp true Y (eR h19) (go 4 ?_)
    by_cases h20:e.name=aK
    ·refine wyz Y (aZ true Y Y Y (aL8 h20)) (go 4 ?_)
     refine wyz Y (bH fO cU e.args iU fP 0 Y Y Y Y J V runUnderlying57 sizeOf59) (go 1 ?_)
     rcases Bool.eq_false_or_eq_true (eO e.args[0]) with h21|h21
     rotate_left
     all_goals
      refine bK8 0 Y call261 Y (ih 0 J _) h21 (go 7 ?_)
      exact bHe (s':=⟨bx,rw⟩) Y sb1 ⟨cX (by rw [bK7];unfold bLj;rw [if_neg J,if_neg J,if_pos J];rw [decide_eq_true J,decide_eq_true (show e.num=0 by omega),decide_eq_true h20,bPx J,h21];rfl),Y⟩
    refine wyz Y (aZ false Y Y Y (aLs h20)) (go 14 ?_)
    exact bHe (s':=⟨bx,rw⟩) Y sb1 ⟨cX (by rw [bK7];unfold bLj;rw [if_neg J,if_neg J,if_pos J];rw [decide_eq_true J,decide_eq_true (show e.num=0 by omega),decide_eq_false h20];rfl),Y⟩
   refine wcp false Y (eD h19) (go 19 ?_)
   exact bHe (s':=⟨bx,rw⟩) Y sb1 ⟨cX (by rw [bK7];unfold bLj;rw [if_neg J,if_neg J,if_pos J];rw [decide_eq_true J,decide_eq_false (show ¬e.num=0 by omega)];rfl),Y⟩
  refine wcp false Y (eD h18) (go 23 ?_)
  exact bHe (s':=⟨bx,rw⟩) Y sb1 ⟨cX (by rw [bK7];unfold bLj;rw [if_neg J,if_neg J,if_pos J];rw [decide_eq_false J];rfl),Y⟩
 refine wcp false Y (eD h16) (go 12 ?_)
 by_cases h23:((e.args.length:Nat):Int)=2
 ·refine wcp true Y (eR h23) (go 3 ?_)
  by_cases h24:e.num=0
  ·refine wcp true Y (eR h24) (go 4 ?_)
   by_cases h25:e.name=aK
   ·refine wyz Y (aZ true Y Y Y (aL8 h25)) (go 4 ?_)
    refine wyz Y (bH fO cU e.args iU fP 0 Y Y Y Y J V runUnderlying57 sizeOf59) (go 1 ?_)
    rcases Bool.eq_false_or_eq_true (eO e.args[0]) with h26|h26
    ·refine bK8 0 Y call261 Y (ih 0 J _) h26 (go 4 ?_)
     refine wyz Y (bH fO cU e.args iU fP 1 Y Y Y Y J V runUnderlying57 sizeOf59) (go 1 ?_)
     rcases Bool.eq_false_or_eq_true (eO e.args[1]) with h27|h27
     rotate_left
     all_goals
      refine bK8 0 Y call261 Y (ih 1 J _) h27 (go 5 ?_)
      exact bHe (s':=⟨bx,rw⟩) Y sb1 ⟨cX (by rw [bK7];unfold bLj;rw [if_neg J,if_neg J,if_neg J];rw [decide_eq_true J,decide_eq_true (show e.num=0 by omega),decide_eq_true h25,bOm J,h26,h27];rfl),Y⟩
    refine bK8 0 Y call261 Y (ih 0 J _) h26 (go 12 ?_)
    exact bHe (s':=⟨bx,rw⟩) Y sb1 ⟨cX (by rw [bK7];unfold bLj;rw [if_neg J,if_neg J,if_neg J];rw [decide_eq_true J,decide_eq_true (show e.num=0 by omega),decide_eq_true h25,bOm J,h26];rfl),Y⟩
   refine wyz Y (aZ false Y Y Y (aLs h25)) (go 19 ?_)
   exact bHe (s':=⟨bx,rw⟩) Y sb1 ⟨cX (by rw [bK7];unfold bLj;rw [if_neg J,if_neg J,if_neg J];rw [decide_eq_true J,decide_eq_true (show e.num=0 by omega),decide_eq_false h25];rfl),Y⟩
  refine wcp false Y (eD h24) (go 24 ?_)
  exact bHe (s':=⟨bx,rw⟩) Y sb1 ⟨cX (by rw [bK7];unfold bLj;rw [if_neg J,if_neg J,if_neg J];rw [decide_eq_true J,decide_eq_false (show ¬e.num=0 by omega)];rfl),Y⟩
 refine wcp false Y (eD h23) (go 28 ?_)
 exact bHe (s':=⟨bx,rw⟩) Y sb1 ⟨cX (by rw [bK7];unfold bLj;rw [if_neg J,if_neg J,if_neg J];rw [decide_eq_false J];rfl),Y⟩
theorem bM1{e:aH}(h:e.sane):e.name.size <= 4611686018427387904 /\ iI e.args:=by cases e;rw [aH.sane] at h;first|exact ⟨h.2.2.1,h.2.2.2⟩|exact ⟨h.2.1,h.2.2⟩|exact ⟨h.1,h.2⟩
theorem bO9:∀(N:Nat)(e:aH),e.nodes <= N -> e.sane -> ∀s:Sto,aL prog 261 [bK5 (.agg (cU e))] [] s λr s'=>r=Cb (eO e) /\ s'=s
 |0,e,h,_,_=>Bm
 |N+1,e,h,hs,s=>bQi e (bM1 hs).1 (λk hk s=>bO9 N e.args[k] B0 (mV _ (bM1 hs).2 _ (getElem_mem _)) s) s
theorem bN7(e:aH)(hN:e.nodes <= 1000000000)(hsh:eO e=true)(ih:∀k (h:k<e.args.length) (s:Sto),aL prog 262 [bK5 (.agg (cU e.args[k]))] [] s λr s'=>r=Ci ((dI e.args[k]:Nat):Int) /\ s'=s)(s:Sto):aL prog 262 [bK5 (.agg (cU e))] [] s λt s'=>t=Ci ((dI e:Nat):Int) /\ s'=s:=by
 obtain ⟨bx,rw⟩:=s
 have hlen:=uC e
 refine acX 34 func262 ?_
 refine go 21 λb1=>?_
 refine oC (e.args.length) 9 (λk=>[(3,Ci ((bSm e.op 0 (e.args.take (k)):Nat):Int)),(0,bK5 (.agg (cU e))),(1,pP b1),(8,nI e.args.length)]) (sA Y) λk hk=>?_
 show AWp prog _ ⟨34,_,_,(9,nI k)::[(3,Ci ((bSm e.op 0 (e.args.take (k)):Nat):Int)),(0,bK5 (.agg (cU e))),(1,pP b1),(8,nI e.args.length)]⟩ _
 refine go 2 ?_
 by_cases h1:((k:Nat):Int)<((e.args.length:Nat):Int)
 ·refine wcp true Y (jZ h1) (go 16 ?_)
  have hle:=aBa _ e.args[k] (Nat.le_refl _)
  have hnk:=sF e k J
  have hmx:=kF e.op e.args k J
  refine go 3 ?_
  refine wyz Y (bH fO cU e.args iU fP k Y Y Y Y J V runUnderlying57 sizeOf59) (go 1 ?_)
  refine wcR 0 Y call262 Y (ih k J _) (go 8 ?_)
  rcases Bool.eq_false_or_eq_true (cV e.op k e.args[k].op) with h3|h3
  focus
   refine bK8 0 Y call273 Y (bOl e k J (bLd hsh).1 (bLd ((bLd hsh).2 k J)).1 _) h3 (go 5 ?_)
   refine wad Y (go 6 ?_)
  rotate_left
  refine bK8 0 Y call273 Y (bOl e k J (bLd hsh).1 (bLd ((bLd hsh).2 k J)).1 _) h3 (go 8 ?_)
  all_goals
   refine wyz Y (aNq _ Y Y Y Y) (go 5 ?_)
   refine wad Y (go 2 ?_)
   exact ⟨J,(aG Y (gQ J) (aG Y (gQ (by rw [kF _ _ _ J,h3];simp only [if_true,Bool.false_eq_true,if_false];omega)) (sA Y)))⟩
 refine wcp false Y (jQ h1) (go 12 ?_)
 have hle0:=aBa _ e (Nat.le_refl _)
 have hq:=tX e
 obtain rfl:k=e.args.length:=J
 rw [take_of_length_le (Nat.le_refl _)]
 have hsE:=bNc e.op (bLd hsh).1
 refine go 2 ?_
 refine wcR 0 Y call271 Y (bOf e.op _) ?_
 by_cases h7:((bLk e.op:Nat):Int)=6
 ·refine wcp true Y (eR h7) (go 5 ?_)
  refine wad Y (go 10 ?_)
  exact bHe (s':=⟨bx,rw⟩) Y sb1 ⟨aPy (by rw [tX,if_pos J];first|rfl|simp),Y⟩
 refine wcp false Y (eD h7) (go 12 ?_)
 exact bHe (s':=⟨bx,rw⟩) Y sb1 ⟨aPy (by rw [tX,if_neg J];first|rfl|simp),Y⟩
theorem bNv:∀(N:Nat)(e:aH),e.nodes <= N -> N <= 1000000000 -> eO e=true -> ∀s:Sto,aL prog 262 [bK5 (.agg (cU e))] [] s λr s'=>r=Ci ((dI e:Nat):Int) /\ s'=s
 |0,e,h,_,_,_=>Bm
 |N+1,e,h,hN,hs,s=>bN7 e J hs (λk hk s=>bNv N e.args[k] B0 J ((bLd hs).2 k hk) s) s
theorem bLw(e:aH)(hN:e.nodes <= 1000000000)(hs:e.sane)(s:Sto):aL prog 239 [bK5 (.agg (cU e))] [] s λt s'=>t=Cb (dM e) /\ s'=s:=by
 obtain ⟨bx,rw⟩:=s
 refine acX 10 func239 ?_
 refine go 9 λb1=>?_
 rcases Bool.eq_false_or_eq_true (eO e) with h1|h1
 ·refine bK8 0 Y call261 Y (bO9 _ e (Nat.le_refl _) hs _) h1 (go 2 ?_)
  refine wcR 0 Y call262 Y (bNv _ e (Nat.le_refl _) hN h1 _) ?_
  by_cases h2:((dI e:Nat):Int) <= 24
  ·refine wcp true Y (aPz h2) (go 5 ?_)
   exact bHe (s':=⟨bx,rw⟩) Y sb1 ⟨cX (by unfold dM;rw [h1,decide_eq_true J];rfl),Y⟩
  refine wcp false Y (aPx h2) (go 5 ?_)
  exact bHe (s':=⟨bx,rw⟩) Y sb1 ⟨cX (by unfold dM;rw [h1,decide_eq_false J];rfl),Y⟩
 refine bK8 0 Y call261 Y (bO9 _ e (Nat.le_refl _) hs _) h1 (go 9 ?_)
 exact bHe (s':=⟨bx,rw⟩) Y sb1 ⟨cX (by unfold dM;rw [h1];rfl),Y⟩
section
variable {P:Program}{U:List Nat}{o:Oper}{st:AS}
end
theorem bEj(x n:Int)(hn:0<n):∃k:Nat,x%n=k /\ (k:Int)<n:=
 ⟨(x%n).toNat,by have:=Int.emod_nonneg x (b:=n) J;omega,by have:=Int.emod_nonneg x (b:=n) J;have:=Int.emod_lt_of_pos x (b:=n) hn;omega⟩
theorem bEl(x n:Int)(k:Nat)(hn:0<n)(hn2:n <= 4611686018427387904)(hk:x%n=k)(s:Sto):aL prog 20 [Ci x,Ci n] [] s λr s'=>r=nI k /\ s'=s:=by
 have h:=aNz x n hn hn2 s
 rw [hk] at h
 exact h
end
section
open Go.RowKit
section
variable {P:Program}{U T:List Nat}{o:Oper}{n d:Nat}{bx:List Box}{rw:List bA}{ts:List (Nat×AT)}{K:AS -> Prop}{st:AS}{t:AT}
theorem bGr{g:Nat}{E:TypeId}{cs ds:List AC}{N C:Nat}{B:List Box}(i:Nat)(hi:look st.ts i=some (Cv (.slice (some ⟨g,0,none⟩) N C)))(hrow:st.s.boxes=⟨g,E,cs++ds⟩::B)(hC:N <= C)(hC2:C <= 9223372036854775807):Sub st {st with s:=⟨B,st.s.rows⟩,ts:=(i,.c (.sl N cs))::st.ts}:=λa w hs=>by
 have hsub:aAz st.s ⟨B,st.s.rows⟩:=aA (by rw [hrow];exact List.sublist_cons_self _ _) (List.Sublist.refl _)
 obtain ⟨h1,h2,h3⟩:=vU hsub a w hs
 refine ⟨⟨h1.df,h1.sz,λj x hx=>?_,h1.mem⟩,h2,h3⟩
 simp only [look] at hx
 split at hx
 ·rename_i he;subst he;cases hx
  obtain ⟨u,e1,e2⟩:=hs.tm i _ hi
  have:=e2.val
  subst this
  obtain ⟨us,⟨fz,-,hh⟩,hrep⟩:=hs.mem.box ⟨g,E,cs++ds⟩ C1
  have hlen:us.length=cs.length+ds.length:=by have:=hrep.len;simpa using this
  have hr2:=hrep.take cs.length
  rw [List.take_left] at hr2
  have hnm:g∉(⟨B,st.s.rows⟩:Sto).bl:=by
   have hnd:=hs.mem.nodup
   have hbl:st.s.bl=g::(⟨B,st.s.rows⟩:Sto).bl:=Ei
   rw [hbl] at hnd
   exact (List.nodup_cons.1 hnd).1
  refine ⟨_,e1,.c _ _ (.sl _ _ (us.take cs.length) _ ⟨_,_,Y,hC,.inr ⟨g,0,Y,λj x hj=>?_⟩⟩ hr2.len (λk h h'=>(hr2.at_ k h h').mono (up_sub h2)) (λ_ _ _ h=>by cases h;exact hC2))⟩
  rw [eW _ _ _ hnm]
  unfold World.cell?
  simp only [hh]
  rw [List.getElem?_take] at hj
  split at hj
  ·simpa using hj
  cases hj
 exact h1.tm j x hx
theorem bHa{ops:Array Oper}{l:List Oper}{Q:Exit -> AS -> Prop}{g:Nat}{E:TypeId}{cs ds:List AC}{N C:Nat}(i:Nat)(hi:look ts i=some (Cv (.slice (some ⟨g,0,none⟩) N C)))(hC:N <= C)(hC2:C <= 9223372036854775807)(h:eQ P ops l ⟨n,T,⟨bx,rw⟩,(i,.c (.sl N cs))::ts⟩ Q):eQ P ops l ⟨n,T,⟨⟨g,E,cs++ds⟩::bx,rw⟩,ts⟩ Q:=
 uQ (bGr (st:=⟨n,T,⟨⟨g,E,cs++ds⟩::bx,rw⟩,ts⟩) i hi rfl hC hC2) h
theorem bG0(w:World){a:Act}{K:Act -> World -> Prop}{Q:Exit -> Act -> World -> Prop}(s x:Operand)(t u:TypeId)
  (ho:o.op=.call {callee:=.builtin .append,args:=#[s,x],argTypes:=#[t,u]})
  (e:TypeId) (i:TypeInfo) (ht:P.underlying t=some (.slice e)) (hu:P.underlying u=some .string) (hi:P.info? e=some i) (hz:i.zero=some (.int .u8 0)) (hsize:i.size=1) (hby:i.bytes=1)
  (v:Value) (n:Nat) (xs:List Value) (hs:a.eval s=v) (hown:w.ownsRow 0 e 1 v n xs) (z:ByteArray) (hx:a.eval x=.string z) (h63:n+z.size <= maxLen) (hbytes:n+z.size <= 140737488355328)
  (h:∀v' w',w'.ownsRow 0 e 1 v' (n+z.size) (xs++Lib.strCells z) -> w.grownBy w' v.ownBlock -> (∀g,v'.ownBlock=some g -> v.ownBlock=some g∨w.heap.size <= g) -> K (a.put o.dst v') w'):o.wp P a w K Q:=by
 obtain ⟨v',w',hr,h2,h3,h4⟩:=Lib.run_append_own_string (P:=P) w 0 t u o.type e i ht hu hi hz hsize hby v n xs hown z h63 hbytes (Nat.zero_le _)
 have hfr:∀g,v'.ownBlock=some g -> v.ownBlock=some g∨w.heap.size <= g:=by
  rcases hown.2 with ⟨hv0,hn0⟩|⟨g,cap,cur,hv0,hbg,hg,hnc,hcm,hcs,htake⟩
  ·obtain ⟨v2,w2,hr2,h5,_,_⟩:=Lib.run_append_own_string (P:=P) w w.heap.size t u o.type e i ht hu hi hz hsize hby v n xs ⟨hown.1,.inl ⟨hv0,hn0⟩⟩ z h63 hbytes (Nat.le_refl _)
   rw [hr] at hr2
   injection hr2 with e1 e2
   subst e1
   intro k hk
   exact Or.inr (h5.lt k hk).1
  subst hv0
  by_cases hroom:n+z.size <= cap
  ·have hr2:=Lib.run_append_room_string (P:=P) w t u o.type e i ht hu hi hsize g n cap cur hg z hroom J
   rw [hr] at hr2
   injection hr2 with e1 e2
   subst e1
   intro k hk
   exact .inl hk
  have holds:∀j u,xs[j]?=some u -> w.cell? ((⟨g,0,none⟩:Addr).add j)=some u:=hown.cells (g:=g) Y
  have hr2:=Lib.run_append_grow_string (P:=P) w t u o.type e i (.int .u8 0) ht hu hi hz ⟨g,0,none⟩ n cap xs (by rw [hsize];exact hown.1) holds z J (by simp only [maxLen] at h63;omega) (by rw [hby];exact growslice_fits J J)
  rw [hr] at hr2
  injection hr2 with e1 e2
  subst e1
  intro k hk
  simp [Value.ownBlock] at hk
  exact .inr J
 unfold Oper.wp execOp
 simp only [ho,resolve,invoke,builtin,Sem.run_bind,Sem.run_pure,Result.andThen_ok,List.map_toArray,List.map_cons,List.map_nil,hs,hx,hr]
 exact h v' w' h2 h3 hfr
theorem bHb{E E2 e:TypeId}{x y:Operand}{k:Nat}{v:Value}{cs ds r:List AC}(A:List bA)(i:TypeInfo){B:List bA}{z:ByteArray}(ho:o.op=.call {callee:=.builtin .append,args:=#[x,y],argTypes:=#[E,E2]})(hd:o.dst=some d)(hn:d<n)
  (hx:evA ⟨n,T,⟨bx,A++⟨v,e,1,k,cs⟩::B⟩,ts⟩ x=some (Cv v)) (hy:evA ⟨n,T,⟨bx,A++⟨v,e,1,k,cs⟩::B⟩,ts⟩ y=some (Cs z)) (hu:P.underlying E=some (.slice e)) (hu2:P.underlying E2=some .string) (hi:P.info? e=some i) (hz:i.zero=some (.int .u8 0)) (hsz:i.size=1) (hby:i.bytes=1)
  (hlen:k+z.size <= maxLen) (hbytes:k+z.size <= 140737488355328) {N:Nat} (hN:k+z.size=N) (hds:iF z.data.toList=ds) (hU:(⟨bx,A++⟨v,e,1,k,cs⟩::B⟩:Sto).bl.Nodup -> ∀b,b∈aY v -> b∈U) (hT:∀b,b∈aY v -> b∈T) (hr:cs++ds=r)
  (h:∀v',K ⟨n,aY v'++T,⟨bx,A++⟨v',e,1,N,r⟩::B⟩,(d,Cv v')::ts⟩):AO P U o ⟨n,T,⟨bx,A++⟨v,e,1,k,cs⟩::B⟩,ts⟩ K:=by
 subst hr;subst hN;subst hds
 refine bGt A hd hn Y V (λa w hs us hown=>⟨Lib.strCells z,?_,λKK QQ hK=>bG0 w x y E E2 ho e i hu hu2 hi hz hsz hby v k us (hs.val hx) hown z (hs.val hy) hlen hbytes hK⟩) hU hT h
 have hR:=gU (bI (⟨bx,A++⟨v,e,1,k,cs⟩::B⟩:Sto).bl w) (Lib.strCells z) AW
 have e1:(Lib.strCells z).map AC.val=iF z.data.toList:=by simp [Lib.strCells,iF]
 rw [e1] at hR
 exact hR
end
end
end Go.Proofs.YtkfdfhcdmmlfmaaGreatDoor
