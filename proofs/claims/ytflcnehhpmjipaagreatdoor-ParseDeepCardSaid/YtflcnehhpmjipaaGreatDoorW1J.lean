import Derived.Test.YtflcnehhpmjipaaGreatDoorB1J
import Derived.Deep.RegionHeld3
import Derived.Deep.LoopGhost
import Derived.Scope
set_option linter.unusedVariables false
set_option linter.unusedSimpArgs false
namespace Go.Proofs.YtflcnehhpmjipaaGreatDoor
open Go.RowKit
inductive AC where
 | val (v : Value)
 | sl (n : Nat) (cs : List AC)
inductive Rep (w : World) : AC → Value → Prop
 | val (v : Value) (h : v.oneCell' = true) : Rep w (.val v) v
 | sl (n : Nat) (cs : List AC) (us : List Value) (v : Value) (h : RowAt w v n us) (hl : us.length = cs.length) (hr : ∀ i (h : i < cs.length) (h' : i < us.length), Rep w cs[i] us[i]) (hcap : ∀ a k c, v = .slice a k c → c ≤ 9223372036854775807) : Rep w (.sl n cs) v
structure RepL (w : World) (cs : List AC) (us : List Value) : Prop where
 len : us.length = cs.length
 at_ : ∀ i (h : i < cs.length) (h' : i < us.length), Rep w cs[i] us[i]
inductive AT where
 | c (x : AC)
 | agg (cs : List AC)
 | tup (ts : List AT)
 | el (cs : List AC)
 | raw (v : Value)
 | fact (t : AT) (b o : Nat) (cs : List AC)
inductive RepT (w : World) : AT → Value → Prop
 | c (x : AC) (v : Value) (h : Rep w x v) : RepT w (.c x) v
 | agg (cs : List AC) (us : List Value) (h : RepL w cs us) : RepT w (.agg cs) (.agg us.toArray)
 | tup (ts : List AT) (vs : List Value) (hl : vs.length = ts.length) (h : ∀ i (h : i < ts.length) (h' : i < vs.length), RepT w ts[i] vs[i]) : RepT w (.tup ts) (.tuple vs.toArray)
 | el (cs : List AC) (b o : Nat) (us : List Value) (h : RepL w cs us) (hc : ∀ j u, us[j]? = some u → w.cell? ⟨b, o + j, none⟩ = some u) (hb : b < w.heap.size) : RepT w (.el cs) (.pointer (some ⟨b, o, none⟩))
 | raw (v : Value) : RepT w (.raw v) v
 | fact (t : AT) (b o : Nat) (cs : List AC) (us : List Value) (v : Value) (h : RepT w t v) (hc : RepL w cs us) (ha : ∀ j u, us[j]? = some u → w.cell? ⟨b, o + j, none⟩ = some u) : RepT w (.fact t b o cs) v
def Up2 (w w' : World) : Prop := ∀ a u, w.cell? a = some u → w'.cell? a = some u
theorem Rep.mono {w w' : World} (hm : Up2 w w') {x : AC} {v : Value} (h : Rep w x v) : Rep w' x v := by
 induction h with
 | val v h => exact .val v h
 | sl n cs us v h hl _ hcap ih => exact .sl n cs us v (h.mono hm) hl ih hcap
theorem RepL.mono {w w' : World} (hm : Up2 w w') {cs : List AC} {us : List Value} (h : RepL w cs us) : RepL w' cs us := ⟨h.len, fun i h1 h2 => (h.at_ i h1 h2).mono hm⟩
theorem RepT.mono {w w' : World} (hm : Up2 w w') (hs : w.heap.size ≤ w'.heap.size) {x : AT} {v : Value} (h : RepT w x v) : RepT w' x v := by
 induction h with
 | c x v h => exact .c x v (h.mono hm)
 | agg cs us h => exact .agg cs us (h.mono hm)
 | tup ts vs hl _ ih => exact .tup ts vs hl ih
 | el cs b o us h hc hb => exact .el cs b o us (h.mono hm) (fun j u hj => hm _ _ (hc j u hj)) (by omega)
 | raw v => exact .raw v
 | fact t b o cs us v _ hc ha ih => exact .fact t b o cs us v ih (hc.mono hm) (fun j u hj => hm _ _ (ha j u hj))
theorem RepL.nil (w : World) : RepL w [] [] := ⟨rfl, fun i h => absurd h (by simp)⟩
theorem RepL.cons {w : World} {c : AC} {u : Value} {cs : List AC} {us : List Value} (h : Rep w c u) (t : RepL w cs us) : RepL w (c :: cs) (u :: us) :=
 ⟨by simp [t.len], fun i h1 h2 => by cases i with | zero => exact h | succ i => exact t.at_ i (by simpa using h1) (by simpa using h2)⟩
theorem repL_vals (w : World) : ∀ (us : List Value), (∀ u, u ∈ us → u.oneCell' = true) → RepL w (us.map .val) us
 | [], _ => .nil w
 | u :: us, h => .cons (.val u (h u (by simp))) (repL_vals w us fun x hx => h x (by simp [hx]))
theorem Rep.one {w : World} {x : AC} {v : Value} (h : Rep w x v) : v.oneCell' = true := by
 cases h with
 | val _ h => exact h
 | sl n cs us v hr hl hh => obtain ⟨a, cap, he, _⟩ := hr; rw [he]; rfl
theorem RepL.get {w : World} {cs : List AC} {us : List Value} (h : RepL w cs us) {i : Nat} {x : AC} (hx : cs[i]? = some x) : ∃ u, us[i]? = some u ∧ Rep w x u := by
 obtain ⟨hi, rfl⟩ := List.getElem?_eq_some_iff.1 hx
 have h2 : i < us.length := by rw [h.len]; exact hi
 exact ⟨us[i], by simp [h2], h.at_ i hi h2⟩
theorem RepL.drop {w : World} {cs : List AC} {us : List Value} (h : RepL w cs us) (k : Nat) : RepL w (cs.drop k) (us.drop k) :=
 ⟨by simp [h.len], fun i h1 h2 => by simpa using h.at_ (k + i) (by simp at h1; omega) (by simp at h2; omega)⟩
theorem RepL.take {w : World} {cs : List AC} {us : List Value} (h : RepL w cs us) (k : Nat) : RepL w (cs.take k) (us.take k) :=
 ⟨by simp [h.len], fun i h1 h2 => by simpa using h.at_ i (by simp at h1; omega) (by simp at h2; omega)⟩
theorem RepL.app {w : World} {cs ds : List AC} {us vs : List Value} (h : RepL w cs us) (k : RepL w ds vs) : RepL w (cs ++ ds) (us ++ vs) := by
 refine ⟨by simp [h.len, k.len], fun i h1 h2 => ?_⟩
 rcases Nat.lt_or_ge i cs.length with hi | hi
 ·rw [List.getElem_append_left hi, List.getElem_append_left (by rw [h.len]; exact hi)]; exact h.at_ _ _ _
 ·rw [List.getElem_append_right hi, List.getElem_append_right (by rw [h.len]; exact hi)]
  have e := h.len
  simp only [e]
  exact k.at_ _ (by simp at h1; omega) (by simp at h2; omega)
theorem RepL.set {w : World} {cs : List AC} {us : List Value} (h : RepL w cs us) (k : Nat) {x : AC} {u : Value} (hx : Rep w x u) : RepL w (cs.set k x) (us.set k u) := by
 refine ⟨by simp [h.len], fun i h1 h2 => ?_⟩
 rw [List.getElem_set, List.getElem_set]
 split
 ·exact hx
 ·exact h.at_ _ _ _
theorem RepL.one {w : World} {cs : List AC} {us : List Value} (h : RepL w cs us) : ∀ u, u ∈ us → u.oneCell' = true := by
 intro u hu
 obtain ⟨i, hi, rfl⟩ := List.getElem_of_mem hu
 exact (h.at_ i (by rw [← h.len]; exact hi) hi).one
def rowB (u : Value) : List Nat := match u.ownBlock with | some g => [g] | none => []
structure Box where
 b : Nat
 T : TypeId
 cs : List AC
structure ORow where
 v : Value
 E : TypeId
 z : Nat
 n : Nat
 cs : List AC
structure Sto where
 boxes : List Box
 rows : List ORow
def Sto.bl (s : Sto) : List Nat := s.boxes.map Box.b ++ s.rows.flatMap fun r => rowB r.v
structure Mem (s : Sto) (w : World) : Prop where
 nodup : s.bl.Nodup
 lt : ∀ b, b ∈ s.bl → b < w.heap.size
 box : ∀ x, x ∈ s.boxes → ∃ us, w.heap[x.b]? = some (.cells us.toArray x.T (0, 0)) ∧ RepL (hideL s.bl w) x.cs us
 row : ∀ r, r ∈ s.rows → ∃ us, w.ownsRow 0 r.E r.z r.v r.n us ∧ RepL (hideL s.bl w) r.cs us
end Go.Proofs.YtflcnehhpmjipaaGreatDoor
namespace Go.Proofs.YtflcnehhpmjipaaGreatDoor
open Go.RowKit
structure AS where
 n : Nat
 T : List Nat
 s : Sto
 ts : List (Nat × AT)
def look : List (Nat × AT) → Nat → Option AT
 | [], _ => none
 | (i, t) :: r, j => if i = j then some t else look r j
structure Sim (st : AS) (a : Act) (w : World) : Prop where
 df : a.defers = []
 sz : a.tmps.size = st.n
 tm : ∀ i t, look st.ts i = some t → ∃ v, a.tmps[i]? = some v ∧ RepT (hideL st.s.bl w) t v
 mem : Mem st.s w
structure Ext (st : AS) (w : World) (st' : AS) (w' : World) : Prop where
 keep : Keep st.s.bl w w'
 keepT : Keep st.T w w'
 bl : ∀ b, b ∈ st'.s.bl → b ∈ st.s.bl ∨ w.heap.size ≤ b
 T : ∀ b, b ∈ st'.T → b ∈ st.T ∨ w.heap.size ≤ b
theorem keep_trans2 {T T1 : List Nat} {w w1 w2 : World} (h : Keep T w w1) (k : Keep T1 w1 w2) (hT : ∀ b, b ∈ T1 → b ∈ T ∨ w.heap.size ≤ b) : Keep T w w2 :=
 ⟨k.os.trans h.os, k.tape.trans h.tape, k.output.trans h.output, Nat.le_trans h.size k.size, fun i hi hn => (k.block i (Nat.lt_of_lt_of_le hi h.size) (fun hm => (hT i hm).elim hn (fun h => by omega))).trans (h.block i hi hn)⟩
theorem Ext.trans {s0 s1 s2 : AS} {w0 w1 w2 : World} (h : Ext s0 w0 s1 w1) (k : Ext s1 w1 s2 w2) : Ext s0 w0 s2 w2 :=
 ⟨keep_trans2 h.keep k.keep h.bl, keep_trans2 h.keepT k.keepT h.T, fun b hb => (k.bl b hb).elim (h.bl b) (fun h1 => .inr (Nat.le_trans h.keep.size h1)), fun b hb => (k.T b hb).elim (h.T b) (fun h1 => .inr (Nat.le_trans h.keep.size h1))⟩
theorem Ext.refl (st : AS) (w : World) : Ext st w st w := ⟨Keep.refl _ _, Keep.refl _ _, fun _ h => .inl h, fun _ h => .inl h⟩
theorem up_keep {T bl bl1 : List Nat} {w w1 : World} (hk : Keep T w w1) (hT : ∀ b, b ∈ T → b ∈ bl) (hb : ∀ b, b ∈ bl1 → b ∈ bl ∨ w.heap.size ≤ b) : Up2 (hideL bl w) (hideL bl1 w1) := fun a u h => by
 obtain ⟨h1, h2⟩ := hideL_cell h
 have hl := cell_lt h1
 rw [hideL_cell_ne _ _ _ (fun hm => (hb _ hm).elim h2 (fun h => by omega)), hk.cell hl (fun hm => h2 (hT _ hm))]; exact h1
theorem up_sub {bl bl1 : List Nat} {w : World} (hb : ∀ b, b ∈ bl1 → b ∈ bl) : Up2 (hideL bl w) (hideL bl1 w) := up_keep (T := []) (Keep.refl _ _) (fun _ h => by cases h) (fun b h => .inl (hb b h))
theorem hide_size {bl bl1 : List Nat} {w w1 : World} (h : w.heap.size ≤ w1.heap.size) : (hideL bl w).heap.size ≤ (hideL bl1 w1).heap.size := by rw [hideL_size, hideL_size]; exact h
theorem RepT.keep {T bl bl1 : List Nat} {w w1 : World} {t : AT} {v : Value} (h : RepT (hideL bl w) t v) (hk : Keep T w w1) (hT : ∀ b, b ∈ T → b ∈ bl) (hb : ∀ b, b ∈ bl1 → b ∈ bl ∨ w.heap.size ≤ b) : RepT (hideL bl1 w1) t v :=
 h.mono (up_keep hk hT hb) (hide_size hk.size)
theorem Sim.put {st : AS} {a : Act} {w : World} {d : Nat} {t : AT} {v : Value} (h : Sim st a w) (hd : d < st.n) (hr : RepT (hideL st.s.bl w) t v) : Sim { st with ts := (d, t) :: st.ts } (a.put (some d) v) w := by
 refine ⟨h.df, by simp [Act.put, h.sz], fun i u hu => ?_, h.mem⟩
 simp only [look] at hu
 split at hu
 ·rename_i he; subst he; cases hu
  exact ⟨v, by simp [Act.put, h.sz, hd], hr⟩
 ·rename_i he
  obtain ⟨x, h1, h2⟩ := h.tm i u hu
  exact ⟨x, by simp only [Act.put]; rw [Array.getElem?_setIfInBounds_ne he]; exact h1, h2⟩
theorem RepT.keepB {bl bl1 : List Nat} {w w1 : World} {t : AT} {v : Value} (h : RepT (hideL bl w) t v) (hk : Keep bl w w1) (hb : ∀ b, b ∈ bl1 → b ∈ bl ∨ w.heap.size ≤ b) : RepT (hideL bl1 w1) t v := h.keep hk (fun _ h => h) hb
theorem Sim.step {st : AS} {a : Act} {w w1 : World} {s1 : Sto} (T1 : List Nat) (h : Sim st a w) (hk : Keep st.s.bl w w1) (hm : Mem s1 w1) (hb : ∀ b, b ∈ s1.bl → b ∈ st.s.bl ∨ w.heap.size ≤ b) : Sim { st with s := s1, T := T1 } a w1 :=
 ⟨h.df, h.sz, fun i t ht => let ⟨v, h1, h2⟩ := h.tm i t ht; ⟨v, h1, h2.keepB hk hb⟩, hm⟩
theorem up_drew (bl : List Nat) (w : World) : Up2 (hideL bl w) (hideL bl w.drew) := up_keep (T := []) (Keep.refl _ _).drew (fun _ h => by cases h) (fun b h => .inl h)
theorem Mem.drew {s : Sto} {w : World} (h : Mem s w) : Mem s w.drew :=
 ⟨h.nodup, h.lt, fun x hx => let ⟨us, h1, h2⟩ := h.box x hx; ⟨us, h1, h2.mono (up_drew _ _)⟩, fun r hr => let ⟨us, h1, h2⟩ := h.row r hr; ⟨us, h1, h2.mono (up_drew _ _)⟩⟩
theorem Sim.drew {st : AS} {a : Act} {w : World} (h : Sim st a w) : Sim st a w.drew := ⟨h.df, h.sz, fun i t ht => let ⟨v, h1, h2⟩ := h.tm i t ht; ⟨v, h1, h2.mono (up_drew _ _) (hide_size (Nat.le_refl _))⟩, h.mem.drew⟩
def cst : Value → AT
 | .agg cs => if cs.toList.all (·.oneCell') then .agg (cs.toList.map .val) else .raw (.agg cs)
 | .tuple vs => .raw (.tuple vs)
 | v => .c (.val v)
theorem cst_ok (w : World) (v : Value) : RepT w (cst v) v := by
 cases v with
 | agg cs =>
  show RepT w (if cs.toList.all (·.oneCell') then .agg (cs.toList.map .val) else .raw (.agg cs)) _
  split
  ·rename_i h; exact RepT.agg _ cs.toList (repL_vals w _ fun u hu => by simpa using List.all_eq_true.1 h u hu)
  ·exact .raw _
 | tuple vs => exact .raw _
 | _ => exact RepT.c _ _ (.val _ rfl)
def AT.bare : AT → AT
 | .fact (.fact t _ _ _) _ _ _ => t
 | .fact t _ _ _ => t
 | t => t
theorem RepT.bare {w : World} {t : AT} {v : Value} (h : RepT w t v) : RepT w t.bare v := by
 cases h with
 | fact t b o cs us v h _ _ =>
  cases h with
  | fact t b o cs us v h _ _ => exact h
  | c x v h => exact .c x v h
  | agg cs us h => exact .agg cs us h
  | tup ts vs hl h => exact .tup ts vs hl h
  | el cs b o us h hc hb => exact .el cs b o us h hc hb
  | raw v => exact .raw v
 | c x v h => exact .c x v h
 | agg cs us h => exact .agg cs us h
 | tup ts vs hl h => exact .tup ts vs hl h
 | el cs b o us h hc hb => exact .el cs b o us h hc hb
 | raw v => exact .raw v
def evA (st : AS) : Operand → Option AT
 | .tmp t => (look st.ts t).map AT.bare
 | .const v => some (cst v)
 | .global g => some (.c (.val (.pointer (some ⟨g, 0, none⟩))))
 | .func f => some (.c (.val (.func (.func f) #[] #[])))
theorem Sim.ev {st : AS} {a : Act} {w : World} (h : Sim st a w) {x : Operand} {t : AT} (hx : evA st x = some t) : RepT (hideL st.s.bl w) t (a.eval x) := by
 cases x with
 | tmp i =>
  obtain ⟨t0, h0, rfl⟩ := Option.map_eq_some_iff.1 hx
  obtain ⟨v, h1, h2⟩ := h.tm i t0 h0
  show RepT _ _ (a.tmps.getD i undef)
  rw [Array.getD_eq_getD_getElem?, h1]; exact h2.bare
 | const v => cases hx; exact cst_ok _ v
 | global g => cases hx; exact RepT.c _ _ (.val _ rfl)
 | func f => cases hx; exact RepT.c _ _ (.val _ rfl)
theorem Sim.val {st : AS} {a : Act} {w : World} (h : Sim st a w) {x : Operand} {v : Value} (hx : evA st x = some (.c (.val v))) : a.eval x = v := by
 have := h.ev hx
 generalize a.eval x = u at this
 cases this with | c _ _ h => cases h; rfl
def wantV (want : Bool) : Value → Bool
 | .bool b => b == want
 | _ => false
def wantA (ops : Array Oper) (o : Oper) (st : AS) : Option Bool :=
 match o.guard with
 | none => some true
 | some (j, want) =>
  match (ops.toList[j]?).bind (·.dst) with
  | none => none
  | some t => match look st.ts t with
   | some (.c (.val v)) => some (wantV want v)
   | some (.raw v) => some (wantV want v)
   | _ => none
theorem want_ok {ops : Array Oper} {o : Oper} {st : AS} {a : Act} {w : World} {b : Bool} (h : Sim st a w) (hw : wantA ops o st = some b) : Region.wanted o (yielded ops a.tmps) = b := by
 unfold wantA at hw
 unfold Region.wanted
 cases hg : o.guard with
 | none => rw [hg] at hw; cases hw; rfl
 | some p =>
  obtain ⟨j, want⟩ := p
  rw [hg] at hw
  dsimp only at hw ⊢
  cases hd : (ops.toList[j]?).bind (·.dst) with
  | none => rw [hd] at hw; cases hw
  | some t =>
   rw [hd] at hw
   dsimp only at hw
   cases hl : look st.ts t with
   | none => rw [hl] at hw; cases hw
   | some x =>
    have key : ∀ v, (∀ u, RepT (hideL st.s.bl w) x u → u = v) → some (wantV want v) = some b → ((yielded ops a.tmps j) == some want) = b := by
     intro v hv hw
     injection hw with hw
     obtain ⟨u, h1, h2⟩ := h.tm t _ hl
     have hu : u = v := hv u h2
     subst hu
     have hd' : (ops[j]?).bind (·.dst) = some t := by rw [← Array.getElem?_toList]; exact hd
     rw [← hw]
     have hy : ∀ z : Option Value, a.tmps[t]? = z → yielded ops a.tmps j = (match z with | some (.bool b) => some b | _ => none) := by
      rintro _ rfl; unfold yielded; rw [hd']; rfl
     rw [hy _ h1]
     clear hy h2 hl hw h1 hv
     cases u <;> simp [wantV]
    cases x with
    | c y =>
     cases y with
     | val v =>
      rw [hl] at hw
      exact key v (fun u hu => by cases hu with | c _ _ h => cases h; rfl) hw
     | sl _ _ => rw [hl] at hw; cases hw
    | raw v =>
     rw [hl] at hw
     exact key v (fun u hu => by cases hu; rfl) hw
    | _ => rw [hl] at hw; cases hw
end Go.Proofs.YtflcnehhpmjipaaGreatDoor
namespace Go.Proofs.YtflcnehhpmjipaaGreatDoor
open Go.RowKit
section
variable {P : Program}
def AWp (P : Program) (c : Code) (st : AS) (Q : Exit → AS → Prop) : Prop :=
 ∀ a w, Sim st a w → ∀ QQ : Exit → Act → World → Prop, (∀ e a' w' st', Q e st' → Sim st' a' w' → Ext st w st' w' → QQ e a' w') → c.wp P QQ a w
def AOps (P : Program) (ops : Array Oper) (l : List Oper) (st : AS) (Q : Exit → AS → Prop) : Prop :=
 ∀ a w, Sim st a w → ∀ QQ : Exit → Act → World → Prop, (∀ e a' w' st', Q e st' → Sim st' a' w' → Ext st w st' w' → QQ e a' w') → wpList P ops QQ l a w
def AY (P : Program) (U : List Nat) (o : Oper) (st : AS) (t : AT) : Prop :=
 ∀ a w, Sim st a w → (∀ b, b ∈ U → b ∈ st.s.bl) → ∃ v, RepT (hideL st.s.bl w) t v ∧ ∀ w', Keep U w w' → (execOp a.eval o).run P w' = .ok (.value v) w'
def AO (P : Program) (U : List Nat) (o : Oper) (st : AS) (K : AS → Prop) : Prop :=
 ∀ a w, Sim st a w → ∀ (KK : Act → World → Prop) (QQ : Exit → Act → World → Prop), (∀ a' w' st', K st' → Sim st' a' w' → Ext st w st' w' → Keep U w w' → KK a' w') → o.wp P a w KK QQ
def Then (K : AS → Prop) (Q : Exit → AS → Prop) : Exit → AS → Prop
 | .normal, s => K s
 | e, s => Q e s
def InB (id : Nat) (Q : Exit → AS → Prop) : Exit → AS → Prop
 | .exit id', s => if id' = id then Q .normal s else Q (.exit id') s
 | e, s => Q e s
theorem aw_mono {c : Code} {st : AS} {Q Q' : Exit → AS → Prop} (h : AWp P c st Q) (hq : ∀ e s, Q e s → Q' e s) : AWp P c st Q' :=
 fun a w hs QQ hQ => h a w hs QQ fun e a' w' st' q => hQ e a' w' st' (hq _ _ q)
def Sub (st st' : AS) : Prop := ∀ a w, Sim st a w → Sim st' a w ∧ (∀ b, b ∈ st'.s.bl → b ∈ st.s.bl) ∧ ∀ b, b ∈ st'.T → b ∈ st.T
theorem Sub.ext {st st' : AS} (h : Sub st st') {a : Act} {w : World} (hs : Sim st a w) : Ext st w st' w := ⟨Keep.refl _ _, Keep.refl _ _, fun b hb => .inl ((h a w hs).2.1 b hb), fun b hb => .inl ((h a w hs).2.2 b hb)⟩
theorem Sub.refl (st : AS) : Sub st st := fun a w h => ⟨h, fun _ h => h, fun _ h => h⟩
theorem Sub.trans {a b c : AS} (h : Sub a b) (k : Sub b c) : Sub a c := fun x w hs => ⟨(k x w (h x w hs).1).1, fun y hy => (h x w hs).2.1 y ((k x w (h x w hs).1).2.1 y hy), fun y hy => (h x w hs).2.2 y ((k x w (h x w hs).1).2.2 y hy)⟩
theorem aw_sub {c : Code} {st st' : AS} {Q : Exit → AS → Prop} (hs : Sub st st') (h : AWp P c st' Q) : AWp P c st Q :=
 fun a w hS QQ hQ => h a w (hs a w hS).1 QQ fun e a' w' st2 q s2 k => hQ e a' w' st2 q s2 ((hs.ext hS).trans k)
theorem aops_sub {ops : Array Oper} {l : List Oper} {st st' : AS} {Q : Exit → AS → Prop} (hs : Sub st st') (h : AOps P ops l st' Q) : AOps P ops l st Q :=
 fun a w hS QQ hQ => h a w (hs a w hS).1 QQ fun e a' w' st2 q s2 k => hQ e a' w' st2 q s2 ((hs.ext hS).trans k)
theorem aw_seq {x y : Code} {st : AS} {Q : Exit → AS → Prop} (h : AWp P x st (Then (fun s => AWp P y s Q) Q)) : AWp P (.seq x y) st Q := by
 intro a w hs QQ hQ
 refine wp_seq (h a w hs _ ?_)
 intro e a' w' st' q s' k
 cases e with
 | normal => exact q a' w' s' QQ fun e a2 w2 st2 q2 s2 k2 => hQ e a2 w2 st2 q2 s2 (k.trans k2)
 | _ => exact hQ _ a' w' st' q s' k
theorem aw_cond {c : Operand} {x y : Code} {st : AS} {Q : Exit → AS → Prop} {b : Bool} (hc : evA st c = some (.c (.val (.bool b)))) (ht : b = true → AWp P x st Q) (hf : b = false → AWp P y st Q) : AWp P (.cond c x y) st Q := by
 intro a w hs QQ hQ
 exact wp_cond_split (hs.val hc) (fun h => ht h a w hs QQ hQ) (fun h => hf h a w hs QQ hQ)
theorem aw_block {id : Nat} {c : Code} {st : AS} {Q : Exit → AS → Prop} (h : AWp P c st (InB id Q)) : AWp P (.block id c) st Q := by
 intro a w hs QQ hQ
 refine wp_block (h a w hs _ ?_)
 intro e a' w' st' q s' k
 cases e with
 | exit id' =>
  simp only [InB] at q
  simp only [Exit.inBlock]
  split
  ·rename_i he; rw [if_pos he] at q; exact hQ _ a' w' st' q s' k
  ·rename_i he; rw [if_neg he] at q; exact hQ _ a' w' st' q s' k
 | _ => exact hQ _ a' w' st' q s' k
theorem aw_exit {id : Nat} {st : AS} {Q : Exit → AS → Prop} (h : Q (.exit id) st) : AWp P (.exit id) st Q := fun a w hs QQ hQ => wp_exit (hQ _ a w st h hs (Ext.refl _ _))
theorem aw_ret {st : AS} {Q : Exit → AS → Prop} (h : Q .ret st) : AWp P .ret st Q := fun a w hs QQ hQ => wp_ret (hQ _ a w st h hs (Ext.refl _ _))
theorem aw_skip {st : AS} {Q : Exit → AS → Prop} (h : Q .normal st) : AWp P .skip st Q := fun a w hs QQ hQ => wp_skip (hQ _ a w st h hs (Ext.refl _ _))
theorem aw_loop {α : Type} (I : α → AS) (p : α → Prop) (μ : α → Nat) (g0 : α) {c : Code} {st : AS} {Q : Exit → AS → Prop} (hs : Sub st (I g0)) (hp : p g0)
  (round : ∀ g, p g → AWp P c (I g) (Then (fun s => ∃ g', p g' ∧ μ g' < μ g ∧ Sub s (I g')) Q)) : AWp P (.loop c) st Q := by
 intro a w hS QQ hQ
 refine wp_loop_ghost (fun n a' w' => ∃ g, p g ∧ μ g = n ∧ Sim (I g) a' w' ∧ Ext st w (I g) w') (μ g0) ⟨g0, hp, rfl, (hs a w hS).1, hs.ext hS⟩ ?_
 rintro n a1 w1 ⟨g, hg, rfl, s1, k1⟩
 refine round g hg a1 w1 s1 _ ?_
 intro e a' w' st' q s' k
 cases e with
 | normal =>
  obtain ⟨g', hg', hlt, hsub⟩ := q
  exact ⟨_, hlt, g', hg', rfl, (hsub a' w' s').1, (k1.trans k).trans (hsub.ext s')⟩
 | _ => exact hQ _ a' w' st' q s' (k1.trans k)
theorem aw_region {id : Nat} {l : List Oper} {st : AS} {Q : Exit → AS → Prop} (h : AOps P l.toArray l st Q) : AWp P (.region id l.toArray false) st Q :=
 fun a w hs QQ hQ => wp_region_lit (h a w hs QQ hQ)
theorem aops_nil {ops : Array Oper} {st : AS} {Q : Exit → AS → Prop} (h : Q .normal st) : AOps P ops [] st Q := fun a w hs QQ hQ => hQ _ a w st h hs (Ext.refl _ _)
theorem aops_y {ops : Array Oper} {o : Oper} {l : List Oper} {st : AS} {Q : Exit → AS → Prop} {d : Nat} {t : AT} (hw : wantA ops o st = some true) (hd : o.dst = some d) (hn : d < st.n) (hy : AY P [] o st t)
  (h : AOps P ops l { st with ts := (d, t) :: st.ts } Q) : AOps P ops (o :: l) st Q := by
 intro a w hs QQ hQ
 obtain ⟨v, hr, hx⟩ := hy a w hs (fun _ h => by cases h)
 refine wpList_step fun K hK => ?_
 rw [if_pos (want_ok hs hw)]
 unfold Oper.wp
 rw [hx w (Keep.refl _ _), Oper.upon_value, hd]
 exact hK _ _ (h _ _ (hs.put hn hr) QQ fun e a' w' st' q s' k => hQ e a' w' st' q s' ⟨k.keep, k.keepT, k.bl, k.T⟩)
theorem aops_skip {ops : Array Oper} {o : Oper} {l : List Oper} {st : AS} {Q : Exit → AS → Prop} {d : Nat} (hw : wantA ops o st = some false) (hd : o.dst = some d) (hn : d < st.n)
  (h : AOps P ops l { st with ts := (d, .raw undef) :: st.ts } Q) : AOps P ops (o :: l) st Q := by
 intro a w hs QQ hQ
 refine wpList_step fun K hK => ?_
 rw [if_neg (by rw [want_ok hs hw]; decide), hd]
 exact hK _ _ (h _ _ (hs.put hn (.raw _)) QQ fun e a' w' st' q s' k => hQ e a' w' st' q s' ⟨k.keep, k.keepT, k.bl, k.T⟩)
theorem aops_o {ops : Array Oper} {o : Oper} {l : List Oper} {st : AS} {Q : Exit → AS → Prop} (hw : wantA ops o st = some true) (h : AO P st.T o st fun s => AOps P ops l s Q) : AOps P ops (o :: l) st Q := by
 intro a w hs QQ hQ
 refine wpList_step fun K hK => ?_
 rw [if_pos (want_ok hs hw)]
 refine h a w hs K QQ fun a' w' st' q s' k _ => hK _ _ (q a' w' s' QQ fun e a2 w2 st2 q2 s2 k2 => hQ e a2 w2 st2 q2 s2 (k.trans k2))
theorem anyH_strong {md : Region.Mode} {ops : Array Oper} {Q : Exit → Act → World → Prop} {S S' : World → Prop} (hS : ∀ w, S' w → S w) : ∀ (fuel : Nat) (listed : Array Bool) (a : Act) (w : World), wpAnyH P md ops Q S' fuel listed a w → wpAnyH P md ops Q S fuel listed a w
 | 0, _, _, _, h => h
 | fuel + 1, _, _, _, h => ⟨h.1, fun i hi => wpOp_mono (fun _ _ h' => ⟨hS _ h'.1, anyH_strong hS fuel _ _ _ h'.2⟩) (h.2 i hi)⟩
def offB (s : Sto) (Z : List Nat) : List Nat := s.bl.filter fun b => !Z.contains b
theorem mem_off {s : Sto} {Z : List Nat} {b : Nat} : b ∈ offB s Z ↔ b ∈ s.bl ∧ b ∉ Z := by unfold offB; simp
theorem off_sub {s : Sto} {Z : List Nat} : ∀ b, b ∈ offB s Z → b ∈ s.bl := fun _ h => (mem_off.1 h).1
def AAny (P : Program) (ops : Array Oper) (Z : List Nat) (fuel : Nat) (listed : Array Bool) (st : AS) (Q : AS → Prop) : Prop :=
 ∀ a w, Sim st a w → ∀ QQ : Exit → Act → World → Prop, (∀ c a w, ¬ QQ (.panic c) a w) → (∀ a' w' st', Q st' → Sim st' a' w' → Ext st w st' w' → QQ .normal a' w') →
  wpAnyH P .any ops QQ (fun w' => Keep (offB st.s Z) w w') fuel listed a w
theorem aw_region_drew {id : Nat} {ops : Array Oper} {st : AS} {Q : Exit → AS → Prop} (Z : List Nat) (hm : P.follows .mixedOrders = true) (h : AAny P ops Z ops.size (Array.replicate ops.size false) st (Q .normal)) : AWp P (.region id ops true) st Q := by
 intro a w hs QQ hQ
 refine Code.wp_mono (Q := fun e a' w' => match e with | .normal => QQ .normal a' w' | _ => False) (fun e a' w' q => by cases e <;> first | exact q | exact q.elim) ?_
 refine wp_region_held_drew (S := fun w' => Keep (offB st.s Z) w.drew w') hm (Keep.refl _ _) fun _ => ?_
 refine h a w.drew hs.drew _ (fun _ _ _ q => q) fun a' w' st' q s' k => hQ _ a' w' st' q s' ⟨⟨k.keep.os, k.keep.tape, k.keep.output, k.keep.size, k.keep.block⟩, ⟨k.keepT.os, k.keepT.tape, k.keepT.output, k.keepT.size, k.keepT.block⟩, k.bl, k.T⟩
theorem any_done {ops : Array Oper} {Z : List Nat} {fuel : Nat} {listed : Array Bool} {st : AS} {Q : AS → Prop} (hr : Region.ready .any ops listed = []) (h : Q st) : AAny P ops Z fuel listed st Q :=
 fun a w hs QQ _ hQ => wpAnyH_done hr (hQ a w st h hs (Ext.refl _ _)) _
theorem any_take (i : Nat) {ops : Array Oper} {Z : List Nat} {fuel : Nat} {listed : Array Bool} {st : AS} {Q : AS → Prop} {o : Oper} {d : Nat} {t : AT} (hr : (Region.ready .any ops listed).contains i = true) (hi : ops.toList[i]? = some o) (hf : Region.free .any ops listed i = true) (hsel : Region.noSelect ops = true)
  (hw : wantA ops o st = some true) (hd : o.dst = some d) (hn : d < st.n) (hy : AY P (offB st.s Z) o st t) (h : AAny P ops Z fuel (listed.setIfInBounds i true) { st with ts := (d, t) :: st.ts } Q) : AAny P ops Z (fuel + 1) listed st Q := by
 intro a w hs QQ hp hQ
 obtain ⟨v, hrep, hx⟩ := hy a w hs off_sub
 refine wpAnyH_take (v := v) (by rw [← Array.getElem?_toList]; exact hi) hsel hf hr (fun c a w q => (hp _ _ _ q).elim) (Or.inl ⟨want_ok hs hw, hx⟩) (Keep.refl _ _) ?_
 rw [hd]
 exact h _ _ (hs.put hn hrep) QQ hp fun a' w' st' q s' k => hQ a' w' st' q s' ⟨k.keep, k.keepT, k.bl, k.T⟩
theorem any_skip (i : Nat) {ops : Array Oper} {Z : List Nat} {fuel : Nat} {listed : Array Bool} {st : AS} {Q : AS → Prop} {o : Oper} {d : Nat} (hr : (Region.ready .any ops listed).contains i = true) (hi : ops.toList[i]? = some o) (hf : Region.free .any ops listed i = true) (hsel : Region.noSelect ops = true)
  (hw : wantA ops o st = some false) (hd : o.dst = some d) (hn : d < st.n) (h : AAny P ops Z fuel (listed.setIfInBounds i true) { st with ts := (d, .raw undef) :: st.ts } Q) : AAny P ops Z (fuel + 1) listed st Q := by
 intro a w hs QQ hp hQ
 refine wpAnyH_take (v := undef) (by rw [← Array.getElem?_toList]; exact hi) hsel hf hr (fun c a w q => (hp _ _ _ q).elim) (Or.inr ⟨want_ok hs hw, rfl⟩) (Keep.refl _ _) ?_
 rw [hd]
 exact h _ _ (hs.put hn (.raw _)) QQ hp fun a' w' st' q s' k => hQ a' w' st' q s' ⟨k.keep, k.keepT, k.bl, k.T⟩
def AReady (P : Program) (ops : Array Oper) (Z : List Nat) (fuel : Nat) (listed : Array Bool) (st : AS) (Q : AS → Prop) (rs : List Nat) : Prop :=
 ∀ a w, Sim st a w → ∀ QQ : Exit → Act → World → Prop, (∀ c a w, ¬ QQ (.panic c) a w) → (∀ a' w' st', Q st' → Sim st' a' w' → Ext st w st' w' → QQ .normal a' w') →
  AllReadyH P .any ops QQ (fun w' => Keep (offB st.s Z) w w') fuel listed a w rs
theorem any_many {rs : List Nat} {ops : Array Oper} {Z : List Nat} {fuel : Nat} {listed : Array Bool} {st : AS} {Q : AS → Prop} (hr : Region.ready .any ops listed = rs) (hne : rs.isEmpty = false) (h : AReady P ops Z fuel listed st Q rs) : AAny P ops Z (fuel + 1) listed st Q :=
 fun a w hs QQ hp hQ => wpAnyH_ready hr (by cases rs; cases hne; simp) (h a w hs QQ hp hQ)
theorem aready_nil {ops : Array Oper} {Z : List Nat} {fuel : Nat} {listed : Array Bool} {st : AS} {Q : AS → Prop} : AReady P ops Z fuel listed st Q [] := fun a w hs QQ hp hQ => AllReadyH.nil
theorem aready_o {i : Nat} {rs : List Nat} {ops : Array Oper} {Z : List Nat} {fuel : Nat} {listed : Array Bool} {st : AS} {Q : AS → Prop} {o : Oper} (hi : ops.toList[i]? = some o) (hw : wantA ops o st = some true)
  (h : AO P (offB st.s Z) o st fun s => AAny P ops Z fuel (listed.setIfInBounds i true) s Q) (hs2 : AReady P ops Z fuel listed st Q rs) : AReady P ops Z fuel listed st Q (i :: rs) := by
 intro a w hs QQ hp hQ
 refine AllReadyH.cons (by rw [← Array.getElem?_toList]; exact hi) (fun K' hK => ?_) (hs2 a w hs QQ hp hQ)
 rw [if_pos (want_ok hs hw)]
 refine h a w hs K' QQ fun a' w' st' q s' k hk => ?_
 refine hK.out a' w' hk fun _ => ?_
 refine anyH_strong (S' := fun w2 => Keep (offB st'.s Z) w' w2) (fun w2 h2 => keep_trans2 hk h2 fun b hb => ?_) _ _ _ _ ?_
 ·obtain ⟨h3, h4⟩ := mem_off.1 hb
  exact (k.bl b h3).imp (fun h5 => mem_off.2 ⟨h5, h4⟩) id
 ·exact q a' w' s' QQ hp fun a2 w2 st2 q2 s2 k2 => hQ a2 w2 st2 q2 s2 (k.trans k2)
def ACall (P : Program) (F : FuncId) (args : List AT) (T : List Nat) (s : Sto) (Q : AT → Sto → Prop) : Prop :=
 ∀ (vs : List Value) (w : World), Mem s w → (∀ b, b ∈ T → b ∈ s.bl) → vs.length = args.length → (∀ i (h : i < args.length) (h' : i < vs.length), RepT (hideL s.bl w) args[i] vs[i]) →
  Calls P F vs.toArray w fun en w' => ∃ r v s', en = .returned v ∧ Q r s' ∧ RepT (hideL s'.bl w') r v ∧ Mem s' w' ∧ Keep T w w' ∧ ∀ b, b ∈ s'.bl → b ∈ s.bl ∨ w.heap.size ≤ b
theorem ACall.mono {F : FuncId} {args : List AT} {T : List Nat} {s : Sto} {Q Q' : AT → Sto → Prop} (h : ACall P F args T s Q) (hq : ∀ r s, Q r s → Q' r s) : ACall P F args T s Q' :=
 fun vs w hm hT hl hr => (h vs w hm hT hl hr).mono fun _ _ ⟨r, v, s', h1, h2, h3⟩ => ⟨r, v, s', h1, hq _ _ h2, h3⟩
theorem sub_flatMap {α β : Type} (f : α → List β) {l m : List α} (h : l.Sublist m) : (l.flatMap f).Sublist (m.flatMap f) := by
 induction h with
 | slnil => exact List.Sublist.slnil
 | cons a _ ih => rw [List.flatMap_cons]; exact ih.trans (List.sublist_append_right _ _)
 | cons_cons a _ ih => rw [List.flatMap_cons, List.flatMap_cons]; exact List.Sublist.append (List.Sublist.refl _) ih
def SubS (s s' : Sto) : Prop := ∀ w, Mem s w → Mem s' w ∧ ∀ b, b ∈ s'.bl → b ∈ s.bl
theorem SubS.refl (s : Sto) : SubS s s := fun _ h => ⟨h, fun _ h => h⟩
theorem subS_of {s s' : Sto} (h1 : s'.boxes.Sublist s.boxes) (h2 : s'.rows.Sublist s.rows) : SubS s s' := by
 intro w hm
 have hbl : s'.bl.Sublist s.bl := List.Sublist.append (h1.map _) (sub_flatMap _ h2)
 have hu : Up2 (hideL s.bl w) (hideL s'.bl w) := up_sub fun b hb => hbl.subset hb
 exact ⟨⟨hbl.nodup hm.nodup, fun b hb => hm.lt b (hbl.subset hb), fun x hx => let ⟨us, e, r⟩ := hm.box x (h1.subset hx); ⟨us, e, r.mono hu⟩, fun x hx => let ⟨us, e, r⟩ := hm.row x (h2.subset hx); ⟨us, e, r.mono hu⟩⟩, fun b hb => hbl.subset hb⟩
def ResA (P : Program) (fn : Func) (st : AS) (r : AT) : Prop := ∀ a w, Sim st a w → ∃ v, RepT (hideL st.s.bl w) r v ∧ (results fn a.tmps).run P w = .ok v w
def initTs : Nat → List AT → List (Nat × AT)
 | _, [] => []
 | k, t :: ts => (k, t) :: initTs (k + 1) ts
theorem look_init : ∀ (ts : List AT) (k i : Nat) (t : AT), look (initTs k ts) i = some t → k ≤ i ∧ ts[i - k]? = some t
 | [], _, _, _, h => by cases h
 | u :: ts, k, i, t, h => by
  simp only [initTs, look] at h
  split at h
  ·rename_i he; subst he; cases h; simp
  ·obtain ⟨h1, h2⟩ := look_init ts (k + 1) i t h
   refine ⟨by omega, ?_⟩
   obtain ⟨j, rfl⟩ : ∃ j, i = k + 1 + j := ⟨i - (k + 1), by omega⟩
   have e1 : k + 1 + j - k = j + 1 := by omega
   have e2 : k + 1 + j - (k + 1) = j := by omega
   rw [e1]; rw [e2] at h2; simpa using h2
theorem acall_body {F : FuncId} {fn : Func} {c : Code} {args : List AT} {T : List Nat} {s : Sto} {Q : AT → Sto → Prop} (hf : P.funcs[F]? = some fn) (hb : fn.body = some c) (hl : args.length ≤ fn.ntmps)
  (h : AWp P c ⟨fn.ntmps, T, s, initTs 0 args⟩ fun e st => (e = .normal ∨ e = .ret) ∧ ∃ r s', ResA P fn st r ∧ SubS st.s s' ∧ Q r s') : ACall P F args T s Q := by
 intro vs w hm hT hvl hr
 refine calls_of_wp hf hb ?_
 refine h _ w ⟨rfl, ?_, fun i t ht => ?_, hm⟩ _ ?_
 ·simp; omega
 ·obtain ⟨-, h2⟩ := look_init args 0 i t ht
  simp only [Nat.sub_zero] at h2
  obtain ⟨hi, rfl⟩ := List.getElem?_eq_some_iff.1 h2
  have hi' : i < vs.length := by omega
  refine ⟨vs[i], ?_, hr i hi hi'⟩
  rw [Array.getElem?_append_left (by simpa using hi')]
  simp [hi']
 ·intro e a' w' st' q s' k
  obtain ⟨he, r, s2, hres, hsub, hq⟩ := q
  obtain ⟨v, h1, h2⟩ := hres a' w' s'
  obtain ⟨hm2, hbl⟩ := hsub w' s'.mem
  rcases he with rfl | rfl
  ·exact ⟨s'.df, v, h2, ⟨r, v, s2, rfl, hq, h1.mono (up_sub hbl) (hide_size (Nat.le_refl _)), hm2, k.keepT, fun b hb => k.bl b (hbl b hb)⟩⟩
  ·exact ⟨s'.df, v, h2, ⟨r, v, s2, rfl, hq, h1.mono (up_sub hbl) (hide_size (Nat.le_refl _)), hm2, k.keepT, fun b hb => k.bl b (hbl b hb)⟩⟩
end
end Go.Proofs.YtflcnehhpmjipaaGreatDoor
