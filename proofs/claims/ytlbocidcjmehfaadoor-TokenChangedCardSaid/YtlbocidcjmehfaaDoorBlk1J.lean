import Derived.Test.YtlbocidcjmehfaaDoorC3J
import Derived.Test.YtlbocidcjmehfaaDoorMadeJ
import Derived.Deep.Upon
set_option linter.unusedVariables false
set_option linter.unusedSimpArgs false
namespace Go.Proofs.YtlbocidcjmehfaaDoor
open Go.RowKit
theorem MBlock.len {ms : List AMutex} {fs : List Sig} {ps : List AParam} {vars : List ByteArray} {deep left left' : Nat} {l : List AStmt} (h : MBlock ms fs ps vars deep left l left') : l.length + 2 * left' ≤ 2 * left := by
 induction h <;> (try simp only [List.length_cons, List.length_append, List.length_nil]) <;> omega
def BlTo (ms : List AMutex) (fs : List Sig) (ps : List AParam) (vars0 : List ByteArray) (deep left0 : Nat) (vs : List ByteArray) (left : Nat) (al : List AStmt) : Prop :=
 ∀ rest l', MBlock ms fs ps vs deep left rest l' → MBlock ms fs ps vars0 deep left0 (al ++ rest) l'
theorem BlTo.refl (ms : List AMutex) (fs : List Sig) (ps : List AParam) (vars : List ByteArray) (deep left : Nat) : BlTo ms fs ps vars deep left vars left [] := fun _ _ h => h
theorem BlTo.step {ms : List AMutex} {fs : List Sig} {ps : List AParam} {vars0 vs vs' : List ByteArray} {deep left0 left left' : Nat} {al : List AStmt} (h : BlTo ms fs ps vars0 deep left0 vs left al) (x : List AStmt)
  (hx : ∀ rest l', MBlock ms fs ps vs' deep left' rest l' → MBlock ms fs ps vs deep left (x ++ rest) l') : BlTo ms fs ps vars0 deep left0 vs' left' (al ++ x) := fun rest l' hr => by
 rw [List.append_assoc]; exact h _ _ (hx _ _ hr)
theorem BlTo.fin {ms : List AMutex} {fs : List Sig} {ps : List AParam} {vars0 vs : List ByteArray} {deep left0 left : Nat} {al : List AStmt} (h : BlTo ms fs ps vars0 deep left0 vs left al) : MBlock ms fs ps vars0 deep left0 al left := by
 have := h [] left .nil
 rwa [List.append_nil] at this
theorem CT.sub {H H' : List Nat} {w : World} (hs : ∀ x, x ∈ H' → x ∈ H) : CT H w H' w := fun _ _ h => hideL_sub hs h
theorem CT.fresh {H L F : List Nat} {w w' : World} (h : Keep L w w') (hL : ∀ x, x ∈ L → x ∈ H) (hF : ∀ x, x ∈ F → w.heap.size ≤ x) : CT H w (F ++ H) w' := fun a u ha => by
 obtain ⟨h1, h2⟩ := hideL_cell ha
 have hl := cell_lt h1
 rw [hideL_cell_ne _ _ _ ?_, h.cell hl (fun hm => h2 (hL _ hm))]
 ·exact h1
 ·simp only [List.mem_append, not_or]
  exact ⟨fun hm => by have := hF _ hm; omega, h2⟩
theorem Keep.drop {F L : List Nat} {a b : World} (h : Keep (F ++ L) a b) (hF : ∀ x, x ∈ F → a.heap.size ≤ x) : Keep L a b :=
 ⟨h.os, h.tape, h.output, h.size, fun k hk hn => h.block k hk (by simp only [List.mem_append, not_or]; exact ⟨fun hm => by have := hF k hm; omega, hn⟩)⟩
theorem ownsRow_keepD {H : List Nat} {w w' : World} {base : Nat} {e : TypeId} {size : Nat} {v : Value} {n : Nat} {xs : List Value} (h : w.ownsRow base e size v n xs) (hb : Keep H w w') (hH : ∀ g, g ∈ ownB v → g ∉ H) : w'.ownsRow base e size v n xs := by
 obtain ⟨h1, h2⟩ := h
 refine ⟨h1, ?_⟩
 rcases h2 with h2 | ⟨g, cap, cur, hv, hg, hh, r⟩
 ·exact .inl h2
 ·refine .inr ⟨g, cap, cur, hv, hg, ?_, r⟩
  have hlt : g < w.heap.size := by
   rcases Nat.lt_or_ge g w.heap.size with h | h
   ·exact h
   ·rw [Array.getElem?_eq_none h] at hh; cases hh
  rw [hb.block g hlt (hH g (ownB_mem.2 (by rw [hv]; rfl)))]; exact hh
theorem owns_hide {N : List Nat} {w : World} {base : Nat} {e : TypeId} {size : Nat} {v : Value} {n : Nat} {xs : List Value} (h : w.ownsRow base e size v n xs) (hN : ∀ x, x ∈ N → x < base) : RowAt (hideL N w) v n xs := by
 obtain ⟨a, cap, he, hc, hr⟩ := RowAt.of_owns h
 refine ⟨a, cap, he, hc, ?_⟩
 rcases hr with h0 | ⟨b, off, rfl, hr⟩
 ·exact .inl h0
 ·refine .inr ⟨b, off, rfl, fun j v hj => ?_⟩
  have hb : base ≤ b := owns_lt h (by rw [he]; rfl)
  rw [hideL_cell_ne]
  ·exact hr j v hj
  ·intro hm; have h9 : b < base := hN b hm; omega
theorem Coll.ct {α : Type} {R : World → α → List Value → Prop} {z : Nat} {E : TypeId} {base : Nat} {H H' : List Nat} {u : Value} {l : List α} {w w' : World} (h : Coll R z E base H u l w) (hR : ∀ w w' a cs, (∀ p v, w.cell? p = some v → w'.cell? p = some v) → R w a cs → R w' a cs)
  (hc : CT (ownB u ++ H) w (ownB u ++ H') w') (ho : ∀ xs, w.ownsRow base E z u l.length xs → w'.ownsRow base E z u l.length xs) : Coll R z E base H' u l w' := by
 obtain ⟨rows, h1, h2, h3⟩ := h.holds
 exact ⟨rows, h1, fun i h h' => ⟨hR _ _ _ _ hc (h2 i h h').1, (h2 i h h').2⟩, ho _ h3⟩
theorem Coll.more {α : Type} {R : World → α → List Value → Prop} {z : Nat} {E : TypeId} {base : Nat} {H : List Nat} {u u' : Value} {l l2 : List α} {w w' : World} {rows2 : List (List Value)} (hR : ∀ w w' a cs, (∀ p v, w.cell? p = some v → w'.cell? p = some v) → R w a cs → R w' a cs)
  (rows : List (List Value)) (h1 : rows.length = l.length) (h2 : ∀ i (h : i < l.length) (h' : i < rows.length), R (hideL (ownB u ++ H) w) l[i] rows[i] ∧ rows[i].length = z)
  (h3 : rows2.length = l2.length) (h4 : ∀ i (h : i < l2.length) (h' : i < rows2.length), R (hideL (ownB u ++ H) w) l2[i] rows2[i] ∧ rows2[i].length = z)
  (hg : w.grownBy w' u.ownBlock) (hf : ∀ g, u'.ownBlock = some g → u.ownBlock = some g ∨ w.heap.size ≤ g) (ho : w'.ownsRow base E z u' (l.length + l2.length) (rows.flatten ++ rows2.flatten)) : Coll R z E base H u' (l ++ l2) w' := by
 have ct := ct_grown (H := H) hg hf
 refine ⟨rows ++ rows2, by simp [h1, h3], fun i h h' => ?_, by simpa using ho⟩
 rcases Nat.lt_or_ge i l.length with hi | hi
 ·rw [List.getElem_append_left hi, List.getElem_append_left (by omega)]
  exact ⟨hR _ _ _ _ ct (h2 i hi (by omega)).1, (h2 i hi (by omega)).2⟩
 ·rw [List.length_append] at h h'
  rw [List.getElem_append_right hi, List.getElem_append_right (by omega)]
  have hx := h4 (i - l.length) (by omega) (by omega)
  simp only [h1]
  exact ⟨hR _ _ _ _ ct hx.1, hx.2⟩
theorem stmtRep_mono : ∀ (w w' : World) (a : AStmt) (cs : List Value), (∀ p v, w.cell? p = some v → w'.cell? p = some v) → StmtRep w a cs → StmtRep w' a cs := fun _ _ a _ hm h => StmtRep.mono hm a h
theorem wp_append_row {P : Program} (w : World) {o : Oper} {a : Act} {K : Act → World → Prop} {Q : Exit → Act → World → Prop} (s x : Operand) (t : TypeId)
  (ho : o.op = .call { callee := .builtin .append, args := #[s, x], argTypes := #[t, t] })
  (base : Nat) (e : TypeId) (i : TypeInfo) (z : Value) (size bytes : Nat) (ht : P.underlying t = some (.slice e)) (hi : P.info? e = some i) (hz : i.zero = some z)
  (hsize : i.size = size) (hby : i.bytes = bytes) (hzs : z.cells.size = size) (hsz : 0 < size)
  (v : Value) (n : Nat) (xs : List Value) (hs : a.eval s = v) (hown : w.ownsRow base e size v n xs)
  (v2 : Value) (m : Nat) (news : List Value) (hx : a.eval x = v2) (hrow : RowAt w v2 m news) (hl : news.length = m * size) (h1 : ∀ u ∈ news, u.oneCell' = true)
  (h63 : n + m ≤ maxLen) (hbytes : (n + m) * bytes ≤ 140737488355328) (hbase : base ≤ w.heap.size)
  (h : ∀ v' w', w'.ownsRow base e size v' (n + m) (xs ++ news) → w.grownBy w' v.ownBlock → (∀ g, v'.ownBlock = some g → v.ownBlock = some g ∨ w.heap.size ≤ g) → K (a.put o.dst v') w') : o.wp P a w K Q := by
 obtain ⟨ad, cap, rfl, hc, hr⟩ := hrow
 cases ad with
 | some ad =>
  refine wp_append_fresh w s x t ho base e i z size bytes ht hi hz hsize hby hzs hsz v n xs hs hown ad m cap news hx hl (fun j u hj => ?_) h1 h63 hbytes hbase h
  rcases hr with rfl | ⟨b, off, he, hr⟩
  ·simp at hj
  ·injection he with he; subst he; have hjj := hr j u hj; simp only [Addr.add]; split; exact (by rename_i h0; subst h0; simpa using hjj); exact hjj
 | none =>
  obtain rfl : news = [] := by
   rcases hr with h0 | ⟨b, off, he, _⟩
   ·exact h0
   ·cases he
  obtain rfl : m = 0 := by
   rcases Nat.eq_zero_or_pos m with h0 | h0
   ·exact h0
   ·have := Nat.mul_pos h0 hsz; simp at hl; omega
  obtain ⟨sa, sc, hv, hle⟩ : ∃ sa sc, v = .slice sa n sc ∧ n ≤ sc := by
   rcases hown.2 with ⟨rfl, rfl⟩ | ⟨g, c, cur, rfl, _, _, hnc, _⟩
   ·exact ⟨_, _, rfl, Nat.le_refl _⟩
   ·exact ⟨_, _, rfl, hnc⟩
  have hr2 := run_append_nothing (P := P) w t t o.type e i ht hi sa n sc hle (.slice none 0 cap) (by rw [hsize]; exact Go.Src.ofNil w ht cap)
  unfold Oper.wp execOp
  subst hv
  simp only [ho, resolve, invoke, builtin, Sem.run_bind, Sem.run_pure, Result.andThen_ok, List.map_toArray, List.map_cons, List.map_nil, hs, hx, hr2]
  refine h _ _ (by simpa using hown) ⟨rfl, rfl, rfl, Nat.le_refl _, fun _ _ _ => rfl⟩ (fun g hg => .inl hg)
theorem wpList_append_row {P : Program} (w : World) {ops : Array Oper} {rest : List Oper} {o : Oper} {a : Act} {Q : Exit → Act → World → Prop} (hgd : o.guard = none) (s x : Operand) (t : TypeId)
  (ho : o.op = .call { callee := .builtin .append, args := #[s, x], argTypes := #[t, t] })
  (base : Nat) (e : TypeId) (i : TypeInfo) (z : Value) (size bytes : Nat) (ht : P.underlying t = some (.slice e)) (hi : P.info? e = some i) (hz : i.zero = some z)
  (hsize : i.size = size) (hby : i.bytes = bytes) (hzs : z.cells.size = size) (hsz : 0 < size)
  (v : Value) (n : Nat) (xs : List Value) (hs : a.eval s = v) (hown : w.ownsRow base e size v n xs)
  (v2 : Value) (m : Nat) (news : List Value) (hx : a.eval x = v2) (hrow : RowAt w v2 m news) (hl : news.length = m * size) (h1 : ∀ u ∈ news, u.oneCell' = true)
  (h63 : n + m ≤ maxLen) (hbytes : (n + m) * bytes ≤ 140737488355328) (hbase : base ≤ w.heap.size)
  (h : ∀ v' w', w'.ownsRow base e size v' (n + m) (xs ++ news) → w.grownBy w' v.ownBlock → (∀ g, v'.ownBlock = some g → v.ownBlock = some g ∨ w.heap.size ≤ g) → wpList P ops Q rest (a.put o.dst v') w') : wpList P ops Q (o :: rest) a w :=
 wpList_plain hgd fun _ hK => wp_append_row w s x t ho base e i z size bytes ht hi hz hsize hby hzs hsz v n xs hs hown v2 m news hx hrow hl h1 h63 hbytes hbase fun v' w' h2 h3 h4 => hK _ _ (h v' w' h2 h3 h4)
theorem exprRep_one {w : World} {e : AExpr} {cs : List Value} (h : ExprRep w e cs) : ∀ u, u ∈ cs → u.oneCell' = true := by
 cases e with
 | mk op num name args =>
  rw [ExprRep] at h
  obtain ⟨v, rows, rfl, ⟨a, c, rfl, _⟩, _⟩ := h
  intro u hu
  simp only [List.mem_cons, List.not_mem_nil, or_false] at hu
  rcases hu with rfl | rfl | rfl | rfl <;> rfl
theorem refRep_one {w : World} {r : ARef} {cs : List Value} (h : RefRep w r cs) : ∀ u, u ∈ cs → u.oneCell' = true := by
 obtain ⟨v, rfl, ⟨_, ⟨a, c, rfl, _⟩, _⟩⟩ := h
 intro u hu
 simp only [List.mem_cons, List.not_mem_nil, or_false] at hu
 rcases hu with rfl | rfl <;> rfl
theorem stmtRep_one {w : World} {s : AStmt} {cs : List Value} (h : StmtRep w s cs) : ∀ u, u ∈ cs → u.oneCell' = true := by
 cases s with
 | mk k name e r args t el =>
  rw [StmtRep] at h
  obtain ⟨ce, cr, va, vt, ve, rt, re, rfl, h1, h2, ⟨_, ⟨a1, c1, rfl, _⟩, _⟩, ⟨a2, c2, rfl, _⟩, _, ⟨a3, c3, rfl, _⟩, _⟩ := h
  intro u hu
  simp only [List.mem_append, List.mem_cons, List.not_mem_nil, or_false] at hu
  rcases hu with ((((rfl | rfl) | hu) | hu) | rfl | rfl | rfl)
  ·rfl
  ·rfl
  ·exact exprRep_one h1 u hu
  ·exact refRep_one h2 u hu
  ·rfl
  ·rfl
  ·rfl
theorem rows_one {w : World} {l : List AStmt} {rows : List (List Value)} (h1 : rows.length = l.length) (h2 : ∀ i (h : i < l.length) (h' : i < rows.length), StmtRep w l[i] rows[i] ∧ rows[i].length = 11) : (∀ u, u ∈ rows.flatten → u.oneCell' = true) ∧ rows.flatten.length = l.length * 11 := by
 have hall : ∀ r, r ∈ rows → (∀ u, u ∈ r → u.oneCell' = true) ∧ r.length = 11 := fun r hr => by
  obtain ⟨i, hi, rfl⟩ := List.getElem_of_mem hr
  have := h2 i (by omega) hi
  exact ⟨stmtRep_one this.1, this.2⟩
 refine ⟨fun u hu => ?_, ?_⟩
 ·obtain ⟨r, hr, hu⟩ := List.mem_flatten.1 hu
  exact (hall r hr).1 u hu
 ·rw [← h1]
  clear h1 h2
  induction rows with
  | nil => rfl
  | cons r rs ih =>
   rw [List.flatten_cons, List.length_append, ih (fun r hr => hall r (List.mem_cons_of_mem _ hr)), (hall r (List.mem_cons_self ..)).2, List.length_cons]; omega
def WCells (W S left : Nat) (ar : Bool) (vg vm vf : Value) (w : World) : Prop :=
 w.cell? ⟨W, 0, none⟩ = some (.pointer (some ⟨S, 0, none⟩)) ∧ w.cell? ⟨W, 1, none⟩ = some vg ∧ w.cell? ⟨W, 2, none⟩ = some vm ∧ w.cell? ⟨W, 3, none⟩ = some vf ∧ w.cell? ⟨W, 4, none⟩ = some (.int .i64 left) ∧ w.cell? ⟨W, 5, none⟩ = some (.bool ar)
theorem WCells.keep {W S left : Nat} {ar : Bool} {vg vm vf : Value} {L : List Nat} {a b : World} (h : WCells W S left ar vg vm vf a) (hk : Keep L a b) (hn : W ∉ L) : WCells W S left ar vg vm vf b := by
 have hW : W < a.heap.size := cell_lt h.1
 have c := fun o => hk.cell (p := ⟨W, o, none⟩) hW hn
 unfold WCells
 rw [c, c, c, c, c, c]; exact h
structure BlSt (H : List Nat) (S W B : Nat) (vg vm vf : Value) (ar : Bool) (W2 : World) (vs : List ByteArray) (u : Value) (al : List AStmt) (o : Value) (left : Nat) (wr : World) : Prop where
 vown : wr.ownsRow B 9 1 u vs.length (vs.map .string)
 coll : Coll StmtRep 11 136 B (ownB u ++ H) o al wr
 src : Src (ownB o ++ (ownB u ++ H)) S wr
 keep : Keep [S, W] W2 wr
 wc : WCells W S left ar vg vm vf wr
 free : wr.frozen? ⟨W, 4, none⟩ = false
 dis : ∀ g, g ∈ ownB u → g ∉ ownB o
 dH : ∀ x, x ∈ H → x ∉ ownB u ∧ x ∉ ownB o
 hH : ∀ x, x ∈ H → x < wr.heap.size
 mS : S ∈ H
 mW : W ∈ H
 ne : W ≠ S
 hB : W2.heap.size ≤ B
 hS : S < W2.heap.size
 hW : W < W2.heap.size
theorem BlSt.uB {H : List Nat} {S W B : Nat} {vg vm vf : Value} {ar : Bool} {W2 wr : World} {vs : List ByteArray} {u o : Value} {al : List AStmt} {left : Nat} (h : BlSt H S W B vg vm vf ar W2 vs u al o left wr) : ∀ g, g ∈ ownB u → B ≤ g ∧ g < wr.heap.size :=
 fun _ hg => ⟨owns_lt h.vown (ownB_mem.1 hg), owns_lt_size h.vown (ownB_mem.1 hg)⟩
theorem BlSt.oB {H : List Nat} {S W B : Nat} {vg vm vf : Value} {ar : Bool} {W2 wr : World} {vs : List ByteArray} {u o : Value} {al : List AStmt} {left : Nat} (h : BlSt H S W B vg vm vf ar W2 vs u al o left wr) : ∀ g, g ∈ ownB o → B ≤ g ∧ g < wr.heap.size := fun g hg => by
 obtain ⟨rows, _, _, h3⟩ := h.coll.holds
 exact ⟨owns_lt h3 (ownB_mem.1 hg), owns_lt_size h3 (ownB_mem.1 hg)⟩
theorem BlSt.allB {H : List Nat} {S W B : Nat} {vg vm vf : Value} {ar : Bool} {W2 wr : World} {vs : List ByteArray} {u o : Value} {al : List AStmt} {left : Nat} (h : BlSt H S W B vg vm vf ar W2 vs u al o left wr) : ∀ g, g ∈ ownB o ++ (ownB u ++ H) → g < wr.heap.size := fun g hg => by
 rcases List.mem_append.1 hg with hg | hg
 ·exact (h.oB g hg).2
 ·rcases List.mem_append.1 hg with hg | hg
  ·exact (h.uB g hg).2
  ·exact h.hH g hg
theorem BlSt.mem {H : List Nat} {S W B : Nat} {vg vm vf : Value} {ar : Bool} {W2 wr : World} {vs : List ByteArray} {u o : Value} {al : List AStmt} {left : Nat} (h : BlSt H S W B vg vm vf ar W2 vs u al o left wr) : ∀ x, x ∈ H → x ∈ ownB o ++ (ownB u ++ H) := fun _ hx => List.mem_append_right _ (List.mem_append_right _ hx)
theorem BlSt.names {H : List Nat} {S W B : Nat} {vg vm vf : Value} {ar : Bool} {W2 wr : World} {vs : List ByteArray} {u o : Value} {al : List AStmt} {left : Nat} (h : BlSt H S W B vg vm vf ar W2 vs u al o left wr) : RowAt (hideL [S, W] wr) u vs.length (vs.map .string) :=
 owns_hide h.vown (by have := h.hB; have := h.hS; have := h.hW; intro x hx; simp at hx; rcases hx with rfl | rfl <;> omega)
theorem BlSt.move {H : List Nat} {S W B : Nat} {vg vm vf : Value} {ar : Bool} {W2 wr : World} {vs : List ByteArray} {u o : Value} {al : List AStmt} {left : Nat} {w2 : World} {left' : Nat} {L : List Nat} (h : BlSt H S W B vg vm vf ar W2 vs u al o left wr) (hk : Keep L wr w2) (hL : ∀ x, x ∈ L → x ∈ H ∧ (x = S ∨ x = W ∨ W2.heap.size ≤ x)) (hs : Src (ownB o ++ (ownB u ++ H)) S w2) (wc : WCells W S left' ar vg vm vf w2) (hf : w2.frozen? ⟨W, 4, none⟩ = false) :
  BlSt H S W B vg vm vf ar W2 vs u al o left' w2 := by
 refine ⟨ownsRow_keepD h.vown hk (fun g hg hm => (h.dH g (hL g hm).1).1 hg), ?_, hs, ?_, wc, hf, h.dis, h.dH, fun x hx => Nat.lt_of_lt_of_le (h.hH x hx) hk.size, h.mS, h.mW, h.ne, h.hB, h.hS, h.hW⟩
 ·exact h.coll.ct stmtRep_mono (CT.of_keep hk (fun x hx => List.mem_append_right _ (List.mem_append_right _ (hL x hx).1))) (fun _ hx => ownsRow_keepD hx hk (fun g hg hm => (h.dH g (hL g hm).1).2 hg))
 ·have hk0 := h.keep
  refine ⟨hk.os.trans hk0.os, hk.tape.trans hk0.tape, hk.output.trans hk0.output, Nat.le_trans hk0.size hk.size, fun k hkl hn => ?_⟩
  rw [hk.block k (Nat.lt_of_lt_of_le hkl hk0.size) (fun hm => ?_)]
  ·exact hk0.block k hkl hn
  ·simp only [List.mem_cons, List.not_mem_nil, or_false, not_or] at hn
   rcases (hL k hm).2 with h1 | h1 | h1
   ·exact hn.1 h1
   ·exact hn.2 h1
   ·omega
theorem BlSt.callS {H : List Nat} {S W B : Nat} {vg vm vf : Value} {ar : Bool} {W2 wr : World} {vs : List ByteArray} {u o : Value} {al : List AStmt} {left : Nat} {w2 : World} (h : BlSt H S W B vg vm vf ar W2 vs u al o left wr) (hs : Src (ownB o ++ (ownB u ++ H)) S w2) (hk : Keep [S] wr w2) : BlSt H S W B vg vm vf ar W2 vs u al o left w2 :=
 have hn : W ∉ [S] := by simpa using h.ne
 h.move hk (by intro x hx; simp at hx; subst hx; exact ⟨h.mS, .inl rfl⟩) hs (h.wc.keep hk hn) (by rw [hk.frozen (p := ⟨W, 4, none⟩) (show W < wr.heap.size from cell_lt h.wc.1) hn]; exact h.free)
theorem BlSt.callW {H : List Nat} {S W B : Nat} {vg vm vf : Value} {ar : Bool} {W2 wr : World} {vs : List ByteArray} {u o : Value} {al : List AStmt} {left : Nat} {w2 : World} {left' : Nat} (h : BlSt H S W B vg vm vf ar W2 vs u al o left wr) (hs : Src (ownB o ++ (ownB u ++ H)) S w2) (hk : Keep [S, W] wr w2) (wc : WCells W S left' ar vg vm vf w2) (hf : w2.frozen? ⟨W, 4, none⟩ = false) : BlSt H S W B vg vm vf ar W2 vs u al o left' w2 :=
 h.move hk (by intro x hx; simp at hx; rcases hx with rfl | rfl; exact ⟨h.mS, .inl rfl⟩; exact ⟨h.mW, .inr (.inl rfl)⟩) hs wc hf
theorem BlSt.boxed {H : List Nat} {S W B : Nat} {vg vm vf : Value} {ar : Bool} {W2 wr : World} {vs : List ByteArray} {u o : Value} {al : List AStmt} {left : Nat} {w2 : World} {L : List Nat} (h : BlSt H S W B vg vm vf ar W2 vs u al o left wr) (hk : Keep L wr w2) (hL : ∀ x, x ∈ L → x ∈ H ∧ W2.heap.size ≤ x) : BlSt H S W B vg vm vf ar W2 vs u al o left w2 :=
 have hn : W ∉ L := fun hm => by have := (hL W hm).2; have := h.hW; omega
 have hs : S ∉ L := fun hm => by have := (hL S hm).2; have := h.hS; omega
 h.move hk (fun x hx => ⟨(hL x hx).1, .inr (.inr (hL x hx).2)⟩) (h.src.keep hk (fun x hx => h.mem x (hL x hx).1) hs) (h.wc.keep hk hn) (by rw [hk.frozen (p := ⟨W, 4, none⟩) (show W < wr.heap.size from cell_lt h.wc.1) hn]; exact h.free)
theorem BlSt.alloc {H : List Nat} {S W B : Nat} {vg vm vf : Value} {ar : Bool} {W2 wr : World} {vs : List ByteArray} {u o : Value} {al : List AStmt} {left : Nat} (h : BlSt H S W B vg vm vf ar W2 vs u al o left wr) (ob : Obj) : BlSt H S W B vg vm vf ar W2 vs u al o left (wr.alloc ob) := h.boxed (L := []) ((Keep.refl _ _).alloc ob) (fun _ hx => by simp at hx)
theorem BlSt.drew {H : List Nat} {S W B : Nat} {vg vm vf : Value} {ar : Bool} {W2 wr : World} {vs : List ByteArray} {u o : Value} {al : List AStmt} {left : Nat} (h : BlSt H S W B vg vm vf ar W2 vs u al o left wr) : BlSt H S W B vg vm vf ar W2 vs u al o left wr.drew := h.boxed (L := []) ((Keep.refl _ _).drew) (fun _ hx => by simp at hx)
theorem BlSt.box {H : List Nat} {S W B : Nat} {vg vm vf : Value} {ar : Bool} {W2 wr : World} {vs : List ByteArray} {u o : Value} {al : List AStmt} {left : Nat} {w2 : World} {left' T : Nat} (h : BlSt H S W B vg vm vf ar W2 vs u al o left wr) (hk : Keep [W] wr w2) (hT : T = wr.heap.size) (hT2 : T < w2.heap.size) (wc : WCells W S left' ar vg vm vf w2) (hf : w2.frozen? ⟨W, 4, none⟩ = false) : BlSt (T :: H) S W B vg vm vf ar W2 vs u al o left' w2 := by
 subst hT
 have ct : CT (ownB o ++ (ownB u ++ H)) wr (ownB o ++ (ownB u ++ wr.heap.size :: H)) w2 :=
  (CT.fresh (F := [wr.heap.size]) hk (fun x hx => by simp at hx; subst hx; exact h.mem _ h.mW) (fun x hx => by simp at hx; omega)).trans
   (CT.sub (fun x hx => by simp only [List.mem_append, List.mem_cons, List.not_mem_nil, or_false] at hx ⊢; rcases hx with hx | hx | hx | hx <;> simp [hx]))
 have hW2 := h.keep.size
 refine ⟨ownsRow_keepD h.vown hk (fun g hg hm => ?_), h.coll.ct stmtRep_mono ct (fun _ hx => ownsRow_keepD hx hk (fun g hg hm => ?_)), h.src.ct ct hk (by simpa using Ne.symm h.ne) (List.mem_append_right _ (List.mem_append_right _ (List.mem_cons_of_mem _ h.mS))), ?_, wc, hf, h.dis, ?_, ?_, List.mem_cons_of_mem _ h.mS, List.mem_cons_of_mem _ h.mW, h.ne, h.hB, h.hS, h.hW⟩
 ·simp at hm; subst hm; exact (h.dH _ h.mW).1 hg
 ·simp at hm; subst hm; exact (h.dH _ h.mW).2 hg
 ·exact h.keep.trans (hk.mono (by intro x hx; simp at hx; simp [hx]))
 ·intro x hx
  rcases List.mem_cons.1 hx with rfl | hx
  ·exact ⟨fun hm => by have := (h.uB _ hm).2; omega, fun hm => by have := (h.oB _ hm).2; omega⟩
  ·exact h.dH x hx
 ·intro x hx
  rcases List.mem_cons.1 hx with rfl | hx
  ·exact hT2
  ·exact Nat.lt_of_lt_of_le (h.hH x hx) hk.size
theorem BlSt.unbox {T : Nat} {H : List Nat} {S W B : Nat} {vg vm vf : Value} {ar : Bool} {W2 wr : World} {vs : List ByteArray} {u o : Value} {al : List AStmt} {left : Nat} (h : BlSt (T :: H) S W B vg vm vf ar W2 vs u al o left wr) (hS : S ∈ H) (hW : W ∈ H) : BlSt H S W B vg vm vf ar W2 vs u al o left wr := by
 have ct : CT (ownB o ++ (ownB u ++ T :: H)) wr (ownB o ++ (ownB u ++ H)) wr := CT.sub (fun x hx => by simp only [List.mem_append, List.mem_cons] at hx ⊢; rcases hx with hx | hx | hx <;> simp [hx])
 exact ⟨h.vown, h.coll.ct stmtRep_mono ct (fun _ hx => hx), h.src.ct ct (Keep.refl [] _) (by simp) (List.mem_append_right _ (List.mem_append_right _ hS)), h.keep, h.wc, h.free, h.dis, fun x hx => h.dH x (List.mem_cons_of_mem _ hx), fun x hx => h.hH x (List.mem_cons_of_mem _ hx), hS, hW, h.ne, h.hB, h.hS, h.hW⟩
theorem BlSt.out {H : List Nat} {S W B : Nat} {vg vm vf : Value} {ar : Bool} {W2 w3 w4 : World} {vs : List ByteArray} {u o o' : Value} {al l2 : List AStmt} {left : Nat} {rows2 : List (List Value)} (h : BlSt H S W B vg vm vf ar W2 vs u al o left w3)
  (rows : List (List Value)) (h1 : rows.length = al.length) (h2 : ∀ i (h : i < al.length) (h' : i < rows.length), StmtRep (hideL (ownB o ++ (ownB u ++ H)) w3) al[i] rows[i] ∧ rows[i].length = 11)
  (h3 : rows2.length = l2.length) (h4 : ∀ i (h : i < l2.length) (h' : i < rows2.length), StmtRep (hideL (ownB o ++ (ownB u ++ H)) w3) l2[i] rows2[i] ∧ rows2[i].length = 11)
  (hg : w3.grownBy w4 o.ownBlock) (hf : ∀ g, o'.ownBlock = some g → o.ownBlock = some g ∨ w3.heap.size ≤ g) (ho : w4.ownsRow B 136 11 o' (al.length + l2.length) (rows.flatten ++ rows2.flatten)) :
  BlSt H S W B vg vm vf ar W2 vs u (al ++ l2) o' left w4 := by
 have hk := keep_of_grown hg
 have hoB := h.oB
 have hB := h.hB
 have hSo : S ∉ ownB o := (h.dH S h.mS).2
 have hWo : W ∉ ownB o := (h.dH W h.mW).2
 have hWl : W < w3.heap.size := cell_lt h.wc.1
 have hfo : ∀ g, g ∈ ownB o' → g ∈ ownB o ∨ w3.heap.size ≤ g := fun g hg => by
  rcases hf g (ownB_mem.1 hg) with h5 | h5
  ·exact .inl (ownB_mem.2 h5)
  ·exact .inr h5
 refine ⟨ownsRow_keepD h.vown hk h.dis, Coll.more stmtRep_mono rows h1 h2 h3 h4 hg hf ho, h.src.ct (ct_grown (H := ownB u ++ H) hg hf) hk hSo (List.mem_append_right _ (List.mem_append_right _ h.mS)),
  h.keep.grow hk (fun x hx => by have := (hoB x hx).1; omega), h.wc.keep hk hWo, by rw [hk.frozen hWl hWo]; exact h.free, fun g hu hm => ?_, fun x hx => ⟨(h.dH x hx).1, fun hm => ?_⟩, fun x hx => Nat.lt_of_lt_of_le (h.hH x hx) hk.size, h.mS, h.mW, h.ne, h.hB, h.hS, h.hW⟩
 ·rcases hfo g hm with h5 | h5
  ·exact h.dis g hu h5
  ·have := (h.uB g hu).2; omega
 ·rcases hfo x hm with h5 | h5
  ·exact (h.dH x hx).2 h5
  ·have := h.hH x hx; omega
theorem BlSt.vars {H : List Nat} {S W B : Nat} {vg vm vf : Value} {ar : Bool} {W2 w3 w4 : World} {vs : List ByteArray} {u u' o : Value} {al : List AStmt} {left : Nat} {nm : ByteArray} (h : BlSt H S W B vg vm vf ar W2 vs u al o left w3)
  (hg : w3.grownBy w4 u.ownBlock) (hf : ∀ g, u'.ownBlock = some g → u.ownBlock = some g ∨ w3.heap.size ≤ g) (ho : w4.ownsRow B 9 1 u' (vs.length + 1) (vs.map .string ++ [.string nm])) :
  BlSt H S W B vg vm vf ar W2 (vs ++ [nm]) u' al o left w4 := by
 have hk := keep_of_grown hg
 have huB := h.uB
 have hB := h.hB
 have hSu : S ∉ ownB u := (h.dH S h.mS).1
 have hWu : W ∉ ownB u := (h.dH W h.mW).1
 have hWl : W < w3.heap.size := cell_lt h.wc.1
 have hfo : ∀ g, g ∈ ownB u' → g ∈ ownB u ∨ w3.heap.size ≤ g := fun g hg => by
  rcases hf g (ownB_mem.1 hg) with h5 | h5
  ·exact .inl (ownB_mem.2 h5)
  ·exact .inr h5
 have c1 : CT (ownB o ++ (ownB u ++ H)) w3 (ownB u ++ (ownB o ++ H)) w3 := CT.sub (fun x hx => by simp only [List.mem_append] at hx ⊢; rcases hx with hx | hx | hx <;> simp [hx])
 have c3 : CT (ownB u' ++ (ownB o ++ H)) w4 (ownB o ++ (ownB u' ++ H)) w4 := CT.sub (fun x hx => by simp only [List.mem_append] at hx ⊢; rcases hx with hx | hx | hx <;> simp [hx])
 have c := (c1.trans (ct_grown (H := ownB o ++ H) hg hf)).trans c3
 refine ⟨by simpa using ho, h.coll.ct stmtRep_mono c (fun xs hx => ownsRow_keepD hx hk (fun g hg hm => h.dis g hm hg)), h.src.ct c hk hSu (List.mem_append_right _ (List.mem_append_right _ h.mS)),
  h.keep.grow hk (fun x hx => by have := (huB x hx).1; omega), h.wc.keep hk hWu, by rw [hk.frozen hWl hWu]; exact h.free, fun g hu hm => ?_, fun x hx => ⟨fun hm => ?_, (h.dH x hx).2⟩, fun x hx => Nat.lt_of_lt_of_le (h.hH x hx) hk.size, h.mS, h.mW, h.ne, h.hB, h.hS, h.hW⟩
 ·rcases hfo g hu with h5 | h5
  ·exact h.dis g h5 hm
  ·have := (h.oB g hm).2; omega
 ·rcases hfo x hm with h5 | h5
  ·exact (h.dH x hx).1 h5
  ·have := h.hH x hx; omega
theorem BlSt.list {H : List Nat} {S W B : Nat} {vg vm vf : Value} {ar : Bool} {W2 wr : World} {vs : List ByteArray} {u o : Value} {al : List AStmt} {left : Nat} (h : BlSt H S W B vg vm vf ar W2 vs u al o left wr) (hH : ∀ x, x ∈ H → x < B) : ListRep (hideL H wr) (StmtRep (hideL H wr)) 11 o al :=
 (h.coll.ct (H' := H) stmtRep_mono (CT.sub (fun x hx => by simp only [List.mem_append] at hx ⊢; rcases hx with hx | hx <;> simp [hx])) (fun _ h => h)).list hH stmtRep_mono
theorem BlSt.srcH {H : List Nat} {S W B : Nat} {vg vm vf : Value} {ar : Bool} {W2 wr : World} {vs : List ByteArray} {u o : Value} {al : List AStmt} {left : Nat} (h : BlSt H S W B vg vm vf ar W2 vs u al o left wr) : Src H S wr :=
 h.src.ct (CT.sub (fun x hx => by simp only [List.mem_append] at hx ⊢; simp [hx])) (Keep.refl [] _) (by simp) h.mS
def SigRep (w : World) (s : Sig) (cs : List Value) : Prop := ∃ (pa : Option Addr) (pc : Nat) (vb : Value), cs = [.string s.1, .slice pa s.2.length pc, vb] ∧ ListRep w ParamRep 2 (.slice pa s.2.length pc) s.2 ∧ ∃ ba bn bc, vb = .slice ba bn bc
structure BlkIn (ms : List AMutex) (fs : List Sig) (ps : List AParam) (ma pa fa : Option Addr) (mc pc fc : Nat) (H : List Nat) (S W : Nat) (vg : Value) (ar : Bool) (vars : List ByteArray) (vv : Value) (left : Nat) (w : World) : Prop where
 src : Src H S w
 hH : ∀ x, x ∈ H → x < w.heap.size
 mem : W ∈ H
 hv : RowAt (hideL [S, W] w) vv vars.length (vars.map .string)
 wc : WCells W S left ar vg (.slice ma ms.length mc) (.slice fa fs.length fc) w
 free : w.frozen? ⟨W, 4, none⟩ = false
 ne : W ≠ S
 hms : ListRep (hideL H w) MutexRep 3 (.slice ma ms.length mc) ms
 hps : ListRep (hideL H w) ParamRep 2 (.slice pa ps.length pc) ps
 hfs : ListRep (hideL [S, W] w) (SigRep (hideL H w)) 3 (.slice fa fs.length fc) fs
theorem SigRep.mono {w w' : World} (hm : ∀ a u, w.cell? a = some u → w'.cell? a = some u) {s : Sig} {cs : List Value} (h : SigRep w s cs) : SigRep w' s cs := by
 obtain ⟨pa, pc, vb, rfl, h, hb⟩ := h
 exact ⟨pa, pc, vb, rfl, h.mono hm (fun _ _ _ h => h), hb⟩
theorem BlSt.ctIn {ms : List AMutex} {fs : List Sig} {ps : List AParam} {ma pa fa : Option Addr} {mc pc fc : Nat} {H : List Nat} {S W B T : Nat} {vg : Value} {ar : Bool} {vars vs : List ByteArray} {vv u o : Value} {al : List AStmt} {left left' : Nat} {w W2 a : World}
  (k : BlSt (T :: H) S W B vg (.slice ma ms.length mc) (.slice fa fs.length fc) ar W2 vs u al o left' a) (h : BlkIn ms fs ps ma pa fa mc pc fc H S W vg ar vars vv left w) (hb : Below w.heap.size w W2) (hT : W2.heap.size ≤ T) :
  CT H w (ownB o ++ (ownB u ++ T :: H)) a := by
 have hk : Keep [S, W] w a := (Keep.of_below hb).trans k.keep
 have hsz := hb.size
 have hB := k.hB
 have hlow : ∀ x, x ∈ ownB o ++ ownB u ++ [T] → w.heap.size ≤ x := fun x hx => by
  rcases List.mem_append.1 hx with hx | hx
  ·rcases List.mem_append.1 hx with hx | hx
   ·have := (k.oB x hx).1; omega
   ·have := (k.uB x hx).1; omega
  ·simp at hx; omega
 exact (CT.fresh (F := ownB o ++ ownB u ++ [T]) hk (by intro x hx; simp at hx; rcases hx with rfl | rfl; exact h.src.mem; exact h.mem) hlow).trans
  (CT.sub (fun x hx => by simp only [List.mem_append, List.mem_cons, List.not_mem_nil, or_false] at hx ⊢; rcases hx with hx | hx | hx | hx <;> simp [hx]))
theorem BlSt.into {ms : List AMutex} {fs : List Sig} {ps : List AParam} {ma pa fa : Option Addr} {mc pc fc : Nat} {H : List Nat} {S W B T : Nat} {vg : Value} {ar : Bool} {vars vs : List ByteArray} {vv u o : Value} {al : List AStmt} {left left' : Nat} {w W2 a : World}
  (k : BlSt (T :: H) S W B vg (.slice ma ms.length mc) (.slice fa fs.length fc) ar W2 vs u al o left' a) (h : BlkIn ms fs ps ma pa fa mc pc fc H S W vg ar vars vv left w) (hb : Below w.heap.size w W2) (hT : W2.heap.size ≤ T) :
  BlkIn ms fs ps ma pa fa mc pc fc (ownB o ++ (ownB u ++ T :: H)) S W vg ar vs u left' a := by
 have ct := k.ctIn h hb hT
 have hk : Keep [S, W] w a := (Keep.of_below hb).trans k.keep
 exact ⟨k.src, k.allB, k.mem _ k.mW, k.names, k.wc, k.free, k.ne, h.hms.mono ct (fun _ _ _ h => h), h.hps.mono ct (fun _ _ _ h => h), h.hfs.mono (CT.of_keep hk (fun x hx => hx)) (fun _ _ _ h => h.mono ct)⟩
theorem BlSt.start {ms : List AMutex} {fs : List Sig} {ps : List AParam} {ma pa fa : Option Addr} {mc pc fc : Nat} {H : List Nat} {S W B : Nat} {vg : Value} {ar : Bool} {vars : List ByteArray} {vv u : Value} {left : Nat} {w W2 w1 : World}
  (h : BlkIn ms fs ps ma pa fa mc pc fc H S W vg ar vars vv left w) (hb : Below w.heap.size w W2) (hB : W2.heap.size = B) (hlt : w.heap.size ≤ B) (hk : Below W2.heap.size W2 w1) (ho : w1.ownsRow B 9 1 u vars.length (vars.map .string)) :
  BlSt H S W B vg (.slice ma ms.length mc) (.slice fa fs.length fc) ar W2 vars u [] (.slice none 0 0) left w1 := by
 have hb1 : Below w.heap.size w w1 := hb.trans (hk.mono hb.size)
 have hk0 : Keep [] w w1 := Keep.of_below hb1
 have hu : ∀ x, x ∈ ownB u → B ≤ x ∧ x < w1.heap.size := fun x hx => ⟨owns_lt ho (ownB_mem.1 hx), owns_lt_size ho (ownB_mem.1 hx)⟩
 have ct : CT H w (ownB u ++ H) w1 := CT.fresh hk0 (fun x hx => by simp at hx) (fun x hx => by have := (hu x hx).1; omega)
 have hWl : W < w.heap.size := h.hH W h.mem
 have hSl := h.src.lt
 refine ⟨ho, Coll.nil _ _ _ _ _ _, h.src.ct ct hk0 (by simp) (show S ∈ [] ++ (ownB u ++ H) from List.mem_append_right _ (List.mem_append_right _ h.src.mem)), Keep.of_below hk, h.wc.keep hk0 (by simp), by rw [hk0.frozen (p := ⟨W, 4, none⟩) hWl (by simp)]; exact h.free, fun g hg hm => by simp [ownB, Value.ownBlock] at hm, fun x hx => ⟨fun hm => ?_, by simp [ownB, Value.ownBlock]⟩, fun x hx => Nat.lt_of_lt_of_le (h.hH x hx) hb1.size, h.src.mem, h.mem, h.ne, by omega, by omega, by omega⟩
 have h1 := (hu x hm).1
 have h2 := h.hH x hx
 omega
def BlkOk (ms : List AMutex) (fs : List Sig) (ps : List AParam) (vm vf : Value) (H : List Nat) (S W : Nat) (vg : Value) (ar : Bool) (vars : List ByteArray) (deep left : Nat) (w : World) (e : Ending) (w' : World) : Prop :=
 (∃ (out : List AStmt) (oa : Option Addr) (oc left' : Nat), e = .returned (.slice oa out.length oc) ∧ MBlock ms fs ps vars deep left out left' ∧ ListRep (hideL H w') (StmtRep (hideL H w')) 11 (.slice oa out.length oc) out ∧ WCells W S left' ar vg vm vf w') ∧
  Src H S w' ∧ Keep [S, W] w w' ∧ w'.frozen? ⟨W, 4, none⟩ = false
def zeroE : List Value := [.int .i64 0, .int .i64 0, .string ⟨#[]⟩, .slice none 0 0]
def zeroR : List Value := [.string ⟨#[]⟩, .slice none 0 0]
theorem zeroE_rep (w : World) : ExprRep w .zero zeroE := exprRep_leaf _ _ _ _
theorem zeroR_rep (w : World) : RefRep w .zero zeroR := ⟨_, rfl, ListRep.nil _ _ _⟩
end Go.Proofs.YtlbocidcjmehfaaDoor
