import Derived.Test.YtlbocidcjmehfaaDoorB1J
import Derived.Test.YtlbocidcjmehfaaDoorMExprJ
import Derived.Test.YtlbocidcjmehfaaDoorMW2J
set_option linter.unusedVariables false
set_option linter.unusedSimpArgs false
namespace Go.Proofs.YtlbocidcjmehfaaDoor
open Go.RowKit
theorem wp_append_fresh {P : Program} (w : World) {o : Oper} {a : Act} {K : Act → World → Prop} {Q : Exit → Act → World → Prop} (s x : Operand) (t : TypeId)
  (ho : o.op = .call { callee := .builtin .append, args := #[s, x], argTypes := #[t, t] })
  (base : Nat) (e : TypeId) (i : TypeInfo) (z : Value) (size bytes : Nat) (ht : P.underlying t = some (.slice e)) (hi : P.info? e = some i) (hz : i.zero = some z)
  (hsize : i.size = size) (hby : i.bytes = bytes) (hzs : z.cells.size = size) (hsz : 0 < size)
  (v : Value) (n : Nat) (xs : List Value) (hs : a.eval s = v) (hown : w.ownsRow base e size v n xs)
  (ad : Addr) (m c : Nat) (news : List Value) (hx : a.eval x = .slice (some ad) m c) (hl : news.length = m * size) (hnews : ∀ j u, news[j]? = some u → w.cell? (ad.add j) = some u) (h1 : ∀ u ∈ news, u.oneCell' = true)
  (h63 : n + m ≤ maxLen) (hbytes : (n + m) * bytes ≤ 140737488355328) (hbase : base ≤ w.heap.size)
  (h : ∀ v' w', w'.ownsRow base e size v' (n + m) (xs ++ news) → w.grownBy w' v.ownBlock → (∀ g, v'.ownBlock = some g → v.ownBlock = some g ∨ w.heap.size ≤ g) → K (a.put o.dst v') w') : o.wp P a w K Q := by
 obtain ⟨v', w', hr, h2, h3, h4⟩ := run_append_own (P := P) w base t o.type e i z size bytes ht hi hz hsize hby hzs hsz v n xs hown ad m c news hl hnews h1 h63 hbytes hbase
 have hfr : ∀ g, v'.ownBlock = some g → v.ownBlock = some g ∨ w.heap.size ≤ g := by
  rcases hown.2 with ⟨hv0, hn0⟩ | ⟨g, cap, cur, hv0, hbg, hg, hnc, hcm, hcs, htake⟩
  ·obtain ⟨v2, w2, hr2, h5, _, _⟩ := run_append_own (P := P) w w.heap.size t o.type e i z size bytes ht hi hz hsize hby hzs hsz v n xs ⟨hown.1, .inl ⟨hv0, hn0⟩⟩ ad m c news hl hnews h1 h63 hbytes (Nat.le_refl _)
   rw [hr] at hr2
   injection hr2 with e1 e2
   subst e1
   intro k hk
   exact Or.inr (h5.lt k hk).1
  ·subst hv0
   by_cases hroom : n + m ≤ cap
   ·have hr2 := run_append_room (P := P) w t o.type e i ht hi g n cap cur hg ad m c news (by rw [hsize]; exact hl) hnews h1 hroom (by rw [hsize, hl, hcs, ← Nat.add_mul]; exact Nat.mul_le_mul_right _ hroom)
    rw [hr] at hr2
    injection hr2 with e1 e2
    subst e1
    intro k hk
    exact .inl hk
   ·have holds : ∀ j u, xs[j]? = some u → w.cell? ((⟨g, 0, none⟩ : Addr).add j) = some u := hown.cells (g := g) rfl
    have hr2 := run_append_grow (P := P) w t o.type e i z ht hi hz ⟨g, 0, none⟩ n cap xs (by rw [hsize]; exact hown.1) holds ad m c news (by rw [hsize]; exact hl) hnews (by omega) (by simp only [maxLen] at h63; omega) (by rw [hby]; exact growslice_fits (by omega) hbytes)
    rw [hr] at hr2
    injection hr2 with e1 e2
    subst e1
    intro k hk
    simp [Value.ownBlock] at hk
    exact .inr (by omega)
 unfold Oper.wp execOp
 simp only [ho, resolve, invoke, builtin, Sem.run_bind, Sem.run_pure, Result.andThen_ok, List.map_toArray, List.map_cons, List.map_nil, hs, hx, hr]
 exact h v' w' h2 h3 hfr
theorem wpList_append_fresh {P : Program} (w : World) {ops : Array Oper} {rest : List Oper} {o : Oper} {a : Act} {Q : Exit → Act → World → Prop} (hgd : o.guard = none) (s x : Operand) (t : TypeId)
  (ho : o.op = .call { callee := .builtin .append, args := #[s, x], argTypes := #[t, t] })
  (base : Nat) (e : TypeId) (i : TypeInfo) (z : Value) (size bytes : Nat) (ht : P.underlying t = some (.slice e)) (hi : P.info? e = some i) (hz : i.zero = some z)
  (hsize : i.size = size) (hby : i.bytes = bytes) (hzs : z.cells.size = size) (hsz : 0 < size)
  (v : Value) (n : Nat) (xs : List Value) (hs : a.eval s = v) (hown : w.ownsRow base e size v n xs)
  (ad : Addr) (m c : Nat) (news : List Value) (hx : a.eval x = .slice (some ad) m c) (hl : news.length = m * size) (hnews : ∀ j u, news[j]? = some u → w.cell? (ad.add j) = some u) (h1 : ∀ u ∈ news, u.oneCell' = true)
  (h63 : n + m ≤ maxLen) (hbytes : (n + m) * bytes ≤ 140737488355328) (hbase : base ≤ w.heap.size)
  (h : ∀ v' w', w'.ownsRow base e size v' (n + m) (xs ++ news) → w.grownBy w' v.ownBlock → (∀ g, v'.ownBlock = some g → v.ownBlock = some g ∨ w.heap.size ≤ g) → wpList P ops Q rest (a.put o.dst v') w') : wpList P ops Q (o :: rest) a w :=
 wpList_plain hgd fun _ hK => wp_append_fresh w s x t ho base e i z size bytes ht hi hz hsize hby hzs hsz v n xs hs hown ad m c news hx hl hnews h1 h63 hbytes hbase fun v' w' h2 h3 h4 => hK _ _ (h v' w' h2 h3 h4)
end Go.Proofs.YtlbocidcjmehfaaDoor
namespace Go.Proofs.YtlbocidcjmehfaaDoor
open Go.RowKit
def CT (H : List Nat) (w : World) (H' : List Nat) (w' : World) : Prop := ∀ a u, (hideL H w).cell? a = some u → (hideL H' w').cell? a = some u
theorem CT.refl (H : List Nat) (w : World) : CT H w H w := fun _ _ h => h
theorem CT.trans {H H' H'' : List Nat} {a b c : World} (h : CT H a H' b) (k : CT H' b H'' c) : CT H a H'' c := fun p u hp => k p u (h p u hp)
theorem CT.of_keep {H L : List Nat} {w w' : World} (h : Keep L w w') (hL : ∀ x, x ∈ L → x ∈ H) : CT H w H w' := fun a u ha => by
 obtain ⟨h1, h2⟩ := hideL_cell ha
 rw [hideL_cell_ne _ _ _ h2, h.cell (cell_lt h1) (fun hm => h2 (hL _ hm))]; exact h1
theorem CT.of_below {H : List Nat} {w w' : World} (h : Below w.heap.size w w') : CT H w H w' := CT.of_keep (L := []) (Keep.of_below h) (fun _ hx => by simp at hx)
theorem Src.ct {H H' L : List Nat} {S : Nat} {w w' : World} (h : Src H S w) (hc : CT H w H' w') (hk : Keep L w w') (hS : S ∉ L) (hm : S ∈ H') : Src H' S w' := by
 obtain ⟨l, a, cap, i, h1, h2, h3, h4, h5⟩ := h.holds
 exact ⟨hm, Nat.lt_of_lt_of_le h.lt hk.size, by rw [hk.frozen h.lt hS]; exact h.free, l, a, cap, i, by rw [hk.cell h.lt hS]; exact h1, h2.mono hc, by rw [hk.cell h.lt hS]; exact h3, h4, h5⟩
def ownB (u : Value) : List Nat := match u.ownBlock with | some g => [g] | none => []
theorem ownB_mem {u : Value} {g : Nat} : g ∈ ownB u ↔ u.ownBlock = some g := by
 unfold ownB
 cases h : u.ownBlock with
 | none => simp
 | some k => simp [eq_comm]
theorem keep_of_grown {w w' : World} {u : Value} (h : w.grownBy w' u.ownBlock) : Keep (ownB u) w w' :=
 ⟨h.os, h.tape, h.output, h.size, fun k hk hn => h.block k hk (fun he => hn (ownB_mem.2 he.symm))⟩
theorem ct_grown {H : List Nat} {w w' : World} {u u' : Value} (h : w.grownBy w' u.ownBlock) (hf : ∀ g, u'.ownBlock = some g → u.ownBlock = some g ∨ w.heap.size ≤ g) : CT (ownB u ++ H) w (ownB u' ++ H) w' := fun a v ha => by
 obtain ⟨h1, h2⟩ := hideL_cell ha
 have hl := cell_lt h1
 simp only [List.mem_append, not_or] at h2
 rw [hideL_cell_ne _ _ _ ?_, (keep_of_grown h).cell hl h2.1]
 ·exact h1
 ·simp only [List.mem_append, not_or]
  refine ⟨fun hm => ?_, h2.2⟩
  rcases hf _ (ownB_mem.1 hm) with h3 | h3
  ·exact h2.1 (ownB_mem.2 h3)
  ·omega
theorem ownsRow_keep {H : List Nat} {w w' : World} {base : Nat} {e : TypeId} {size : Nat} {v : Value} {n : Nat} {xs : List Value} (h : w.ownsRow base e size v n xs) (hb : Keep H w w') (hH : ∀ x, x ∈ H → x < base) : w'.ownsRow base e size v n xs := by
 obtain ⟨h1, h2⟩ := h
 refine ⟨h1, ?_⟩
 rcases h2 with h2 | ⟨g, cap, cur, hv, hg, hh, r⟩
 ·exact .inl h2
 ·refine .inr ⟨g, cap, cur, hv, hg, ?_, r⟩
  have hlt : g < w.heap.size := by
   rcases Nat.lt_or_ge g w.heap.size with h | h
   ·exact h
   ·rw [Array.getElem?_eq_none h] at hh; cases hh
  rw [hb.block g hlt (fun hm => by have := hH g hm; omega)]; exact hh
structure Coll {α : Type} (R : World → α → List Value → Prop) (z : Nat) (E : TypeId) (base : Nat) (H : List Nat) (u : Value) (l : List α) (w : World) : Prop where
 holds : ∃ rows : List (List Value), rows.length = l.length ∧ (∀ i (h : i < l.length) (h' : i < rows.length), R (hideL (ownB u ++ H) w) l[i] rows[i] ∧ rows[i].length = z) ∧ w.ownsRow base E z u l.length rows.flatten
theorem Coll.nil {α : Type} (R : World → α → List Value → Prop) (z : Nat) (E : TypeId) (base : Nat) (H : List Nat) (w : World) : Coll R z E base H (.slice none 0 0) ([] : List α) w :=
 ⟨[], rfl, fun i h => absurd h (by simp), ownsRow_nil _ _ _ _⟩
theorem Coll.keep {α : Type} {R : World → α → List Value → Prop} {z : Nat} {E : TypeId} {base : Nat} {H L : List Nat} {u : Value} {l : List α} {w w' : World} (h : Coll R z E base H u l w) (hR : ∀ w w' a cs, (∀ p v, w.cell? p = some v → w'.cell? p = some v) → R w a cs → R w' a cs)
  (hk : Keep L w w') (hL : ∀ x, x ∈ L → x ∈ H ∧ x < base) : Coll R z E base H u l w' := by
 obtain ⟨rows, h1, h2, h3⟩ := h.holds
 exact ⟨rows, h1, fun i h h' => ⟨hR _ _ _ _ (CT.of_keep hk (fun x hx => List.mem_append_right _ (hL x hx).1)) (h2 i h h').1, (h2 i h h').2⟩, ownsRow_keep h3 hk (fun x hx => (hL x hx).2)⟩
theorem Coll.snoc {α : Type} {R : World → α → List Value → Prop} {z : Nat} {E : TypeId} {base : Nat} {H : List Nat} {u u' : Value} {l : List α} {w w' : World} {x : α} {row : List Value} (hR : ∀ w w' a cs, (∀ p v, w.cell? p = some v → w'.cell? p = some v) → R w a cs → R w' a cs)
  (rows : List (List Value)) (h1 : rows.length = l.length) (h2 : ∀ i (h : i < l.length) (h' : i < rows.length), R (hideL (ownB u ++ H) w) l[i] rows[i] ∧ rows[i].length = z)
  (hx : R (hideL (ownB u ++ H) w) x row) (hz : row.length = z) (hg : w.grownBy w' u.ownBlock) (hf : ∀ g, u'.ownBlock = some g → u.ownBlock = some g ∨ w.heap.size ≤ g) (ho : w'.ownsRow base E z u' (l.length + 1) (rows.flatten ++ row)) : Coll R z E base H u' (l ++ [x]) w' := by
 have ct := ct_grown (H := H) hg hf
 refine ⟨rows ++ [row], by simp [h1], fun i h h' => ?_, by simpa using ho⟩
 rcases Nat.lt_or_ge i l.length with hi | hi
 ·rw [List.getElem_append_left hi, List.getElem_append_left (by omega)]
  exact ⟨hR _ _ _ _ ct (h2 i hi (by omega)).1, (h2 i hi (by omega)).2⟩
 ·have hie : i = l.length := by simp at h; omega
  subst hie
  rw [List.getElem_append_right (by omega), List.getElem_append_right (by omega)]
  simp only [Nat.sub_self, h1, List.getElem_singleton]
  exact ⟨hR _ _ _ _ ct hx, hz⟩
theorem Coll.list {α : Type} {R : World → α → List Value → Prop} {z : Nat} {E : TypeId} {base : Nat} {H : List Nat} {u : Value} {l : List α} {w : World} (h : Coll R z E base H u l w) (hH : ∀ x, x ∈ H → x < base) (hR : ∀ w w' a cs, (∀ p v, w.cell? p = some v → w'.cell? p = some v) → R w a cs → R w' a cs) :
  ListRep (hideL H w) (R (hideL H w)) z u l := by
 obtain ⟨rows, h1, h2, h3⟩ := h.holds
 refine ⟨rows, ?_, h1, fun k hk hk' => ⟨hR _ _ _ _ (fun _ _ h => hideL_sub (fun x hx => List.mem_append_right _ hx) h) (h2 k hk hk').1, (h2 k hk hk').2⟩⟩
 obtain ⟨a, cap, he, hc, hr⟩ := RowAt.of_owns h3
 refine ⟨a, cap, he, hc, ?_⟩
 rcases hr with h0 | ⟨b, off, rfl, hr⟩
 ·exact .inl h0
 ·refine .inr ⟨b, off, rfl, fun j v hj => ?_⟩
  have hb : base ≤ b := owns_lt h3 (by rw [he]; rfl)
  rw [hideL_cell_ne]
  ·exact hr j v hj
  ·intro hm; have h9 : b < base := hH b hm; omega
end Go.Proofs.YtlbocidcjmehfaaDoor
namespace Go.Proofs.YtlbocidcjmehfaaDoor
open Go.RowKit
theorem argInfo : (Tryd.prog.info? 150).map (fun i => (i.zero, i.size, i.bytes)) = some (some (.agg #[.bool false, .string ⟨#[]⟩, .slice none 0 0, .int .i64 0, .int .i64 0, .string ⟨#[]⟩, .slice none 0 0]), 7, 104) := by kernel_rfl
theorem MArgs.snoc {ms : List AMutex} {ps : List AParam} {vars : List ByteArray} {l : List AParam} {al : List AArg} {x : AParam} {a : AArg} (h : MArgs ms ps vars l al) (hx : MArgs ms ps vars [x] [a]) : MArgs ms ps vars (l ++ [x]) (al ++ [a]) := by
 induction h with
 | nil => exact hx
 | mutex hm hr h ih => exact .mutex hm hr ih
 | expr hm he h ih => exact .expr hm he ih
theorem MArgs.len {ms : List AMutex} {ps : List AParam} {vars : List ByteArray} {l : List AParam} {al : List AArg} (h : MArgs ms ps vars l al) : al.length = l.length := by
 induction h with
 | nil => rfl
 | mutex hm hr h ih => simp [ih]
 | expr hm he h ih => simp [ih]
theorem argRep_mono : ∀ (w w' : World) (a : AArg) (cs : List Value), (∀ p v, w.cell? p = some v → w'.cell? p = some v) → ArgRep w a cs → ArgRep w' a cs := fun _ _ _ _ hm h => h.mono hm
theorem cells3K {S b : Nat} {a c : World} {u0 u1 u2 : Value} (h : a.cell? ⟨b, 0, none⟩ = some u0 ∧ a.cell? ⟨b, 1, none⟩ = some u1 ∧ a.cell? ⟨b, 2, none⟩ = some u2) (hb : Keep [S] a c) (hB : b < a.heap.size) (hn : b ≠ S) :
  c.cell? ⟨b, 0, none⟩ = some u0 ∧ c.cell? ⟨b, 1, none⟩ = some u1 ∧ c.cell? ⟨b, 2, none⟩ = some u2 := by
 have e := fun o => hb.cell (p := ⟨b, o, none⟩) hB (by simpa using hn)
 rw [e, e, e]; exact h
theorem Keep.grow {H L : List Nat} {a w w' : World} (h : Keep H a w) (hk : Keep L w w') (hL : ∀ x, x ∈ L → a.heap.size ≤ x) : Keep H a w' :=
 ⟨hk.os.trans h.os, hk.tape.trans h.tape, hk.output.trans h.output, Nat.le_trans h.size hk.size, fun k hkl hn => by rw [hk.block k (Nat.lt_of_lt_of_le hkl h.size) (fun hm => by have := hL k hm; omega)]; exact h.block k hkl hn⟩
def ArgsOk (ms : List AMutex) (ps : List AParam) (vars : List ByteArray) (gps : List AParam) (H : List Nat) (S : Nat) (w : World) (e : Ending) (w' : World) : Prop :=
 (∃ (al : List AArg) (v : Value), e = .returned v ∧ MArgs ms ps vars gps al ∧ ListRep (hideL H w') (ArgRep (hideL H w')) 7 v al) ∧ Src H S w' ∧ Keep [S] w w'
structure ArSt (ms : List AMutex) (ps : List AParam) (vm vp : Value) (H : List Nat) (S B : Nat) (W2 : World) (u : Value) (al : List AArg) (wr : World) : Prop where
 coll : Coll ArgRep 7 150 B H u al wr
 src : Src (ownB u ++ H) S wr
 ms : ListRep (hideL (ownB u ++ H) wr) MutexRep 3 vm ms
 ps : ListRep (hideL (ownB u ++ H) wr) ParamRep 2 vp ps
 keep : Keep [S] W2 wr
def arR (ms : List AMutex) (ps : List AParam) (vars : List ByteArray) (vm vp : Value) (gps : List AParam) (H : List Nat) (S B : Nat) (W2 : World) (u v : Value) (wr : World) : Prop :=
 ∃ (k : Nat) (al : List AArg), v = .int .i64 k ∧ k ≤ gps.length ∧ MArgs ms ps vars (gps.take k) al ∧ ArSt ms ps vm vp H S B W2 u al wr
theorem ownB_lt {α : Type} {R : World → α → List Value → Prop} {z : Nat} {E : TypeId} {base : Nat} {H : List Nat} {u : Value} {l : List α} {w : World} (h : Coll R z E base H u l w) : ∀ x, x ∈ ownB u → base ≤ x ∧ x < w.heap.size := fun x hx => by
 obtain ⟨rows, h1, h2, h3⟩ := h.holds
 exact h3.lt x (ownB_mem.1 hx)
theorem ArSt.next {ms : List AMutex} {ps : List AParam} {vm vp : Value} {H : List Nat} {S B : Nat} {W2 wr w2 w4 : World} {u u' : Value} {al : List AArg} {a : AArg} {row : List Value} (h : ArSt ms ps vm vp H S B W2 u al wr)
  (hB : B = W2.heap.size) (hSB : S < B) (hSH : S ∈ H) (hk2 : Keep [S] wr w2) (hs2 : Src (ownB u ++ H) S w2) (o : Obj) (rows : List (List Value)) (h1 : rows.length = al.length) (h2 : ∀ i (h : i < al.length) (h' : i < rows.length), ArgRep (hideL (ownB u ++ H) (w2.alloc o)) al[i] rows[i] ∧ rows[i].length = 7)
  (hx : ArgRep (hideL (ownB u ++ H) (w2.alloc o)) a row) (hz : row.length = 7) (hg : (w2.alloc o).grownBy w4 u.ownBlock) (hf' : ∀ g, u'.ownBlock = some g → u.ownBlock = some g ∨ w2.heap.size + 1 ≤ g) (ho : w4.ownsRow B 150 7 u' (al.length + 1) (rows.flatten ++ row)) :
  ArSt ms ps vm vp H S B W2 u' (al ++ [a]) w4 := by
 have hf : ∀ g, u'.ownBlock = some g → u.ownBlock = some g ∨ (w2.alloc o).heap.size ≤ g := by simpa using hf'
 have hob := ownB_lt h.coll
 have hSu : S ∉ ownB u := fun hm => by have := (hob S hm).1; omega
 have c1 : CT (ownB u ++ H) wr (ownB u ++ H) w2 := CT.of_keep hk2 (by intro y hy; simp at hy; subst hy; exact List.mem_append_right _ hSH)
 have c2 : CT (ownB u ++ H) w2 (ownB u ++ H) (w2.alloc o) := CT.of_below ((Below.refl _ _).alloc (Nat.le_refl _) o)
 have c3 := ct_grown (H := H) hg hf
 have c := (c1.trans c2).trans c3
 have hk4 : Keep (ownB u) w2 w4 := ((Keep.refl _ w2).alloc o).trans (keep_of_grown hg)
 exact ⟨Coll.snoc argRep_mono rows h1 h2 hx hz hg hf ho, hs2.ct (c2.trans c3) hk4 hSu (List.mem_append_right _ hSH), h.ms.mono c (fun _ _ _ h => h), h.ps.mono c (fun _ _ _ h => h),
  (h.keep.trans hk2).grow hk4 (fun x hx => by have := (hob x hx).1; omega)⟩
set_option maxRecDepth 100000 in
set_option maxHeartbeats 8000000 in
theorem margs_any {H N : List Nat} {S W left : Nat} {ar : Bool} {vg vf : Value} {w : World} (ms : List AMutex) (ps gps : List AParam) (vars : List ByteArray) (vv : Value) (fn gn : ByteArray) (ma pa ba qa b2 : Option Addr) (mc pc bn bc qc b2n b2c : Nat)
  (h : Src H S w) (hSN : S ∈ N) (hH : ∀ x, x ∈ H → x < w.heap.size) (hv : RowAt (hideL N w) vv vars.length (vars.map .string)) (hl : vars.length ≤ 1000000)
  (wc : w.cell? ⟨W, 0, none⟩ = some (.pointer (some ⟨S, 0, none⟩)) ∧ w.cell? ⟨W, 1, none⟩ = some vg ∧ w.cell? ⟨W, 2, none⟩ = some (.slice ma ms.length mc) ∧ w.cell? ⟨W, 3, none⟩ = some vf ∧ w.cell? ⟨W, 4, none⟩ = some (.int .i64 left) ∧ w.cell? ⟨W, 5, none⟩ = some (.bool ar))
  (hWS : W ≠ S) (hWl : W < w.heap.size) (hms : ListRep (hideL H w) MutexRep 3 (.slice ma ms.length mc) ms) (hm1 : 1 ≤ ms.length) (hm2 : ms.length ≤ 1000) (hmz : ∀ m, m ∈ ms → m.size ≤ 1000)
  (hps : ListRep (hideL H w) ParamRep 2 (.slice pa ps.length pc) ps) (hp2 : ps.length ≤ 1000) (hqs : ListRep (hideL H w) ParamRep 2 (.slice qa gps.length qc) gps) (hq2 : gps.length ≤ 1000) :
  Calls Tryd.prog 90 #[.pointer (some ⟨W, 0, none⟩), .agg #[.string fn, .slice pa ps.length pc, .slice ba bn bc], .agg #[.string gn, .slice qa gps.length qc, .slice b2 b2n b2c], vv] w (ArgsOk ms ps vars gps H S w) := by
 obtain ⟨va, vc, hve, hvc, hvr⟩ := hv
 subst hve
 have hv : RowAt (hideL N w) (.slice va vars.length vc) vars.length (vars.map .string) := ⟨va, vc, rfl, hvc, hvr⟩
 obtain ⟨i0, hi, hz0, hz1, hz2⟩ := info_parts argInfo
 have hSl := h.lt
 have HWS := Lib.hid hWS
 have HS := Lib.hid h
 have HH := Lib.hid hH
 have HV := Lib.hid hv
 have HSN := Lib.hid hSN
 have HMS := Lib.hid hms
 have HPS := Lib.hid hps
 have HQS := Lib.hid hqs
 have HMZ := Lib.hid hmz
 have WC := Lib.hid wc
 clear h hSN hH hv hms hps hqs hmz wc hvr hWS
 go_enter Tryd.func90, Tryd.ntmps90
 go_wp2_with fail
 obtain ⟨W2, hW2⟩ : ∃ W2, W2 = (w.alloc (.cells #[.string fn, .slice pa ps.length pc, .slice ba bn bc] 76)).alloc (.cells #[.string gn, .slice qa gps.length qc, .slice b2 b2n b2c] 76) := ⟨_, rfl⟩
 have HW2 := Lib.hid hW2
 rw [← hW2]
 have hBW : Below w.heap.size w W2 := by rw [hW2]; go_grown
 have hW2s : W2.heap.size = w.heap.size + 2 := by rw [hW2]; simp
 have HW2S := Lib.hid hW2s
 have fbx : W2.cell? ⟨w.heap.size, 0, none⟩ = some (.string fn) ∧ W2.cell? ⟨w.heap.size, 1, none⟩ = some (.slice pa ps.length pc) ∧ W2.cell? ⟨w.heap.size, 2, none⟩ = some (.slice ba bn bc) := by rw [hW2]; exact ⟨by go_simp, by go_simp, by go_simp⟩
 have gbx : W2.cell? ⟨w.heap.size + 1, 0, none⟩ = some (.string gn) ∧ W2.cell? ⟨w.heap.size + 1, 1, none⟩ = some (.slice qa gps.length qc) ∧ W2.cell? ⟨w.heap.size + 1, 2, none⟩ = some (.slice b2 b2n b2c) := by rw [hW2]; exact ⟨by go_simp, by go_simp, by go_simp⟩
 have FBX := Lib.hid fbx
 have GBX := Lib.hid gbx
 have wcW := cells6 WC.out hBW
 have WCW := Lib.hid wcW
 have ctW : CT H w H W2 := CT.of_below hBW
 have ST0 : ArSt ms ps (.slice ma ms.length mc) (.slice pa ps.length pc) H S (w.heap.size + 2) W2 (.slice none 0 0) [] W2 :=
  ⟨Coll.nil _ _ _ _ _ _, HS.out.below hBW, HMS.out.mono ctW (fun _ _ _ h => h), HPS.out.mono ctW (fun _ _ _ h => h), Keep.refl _ _⟩
 have HST0 := Lib.hid ST0
 have HCTW := Lib.hid ctW
 clear hW2 hW2s fbx gbx wcW ST0 ctW
 go_loopw [9, 10] (fun u v wr => arR ms ps vars (.slice ma ms.length mc) (.slice pa ps.length pc) gps H S (w.heap.size + 2) W2 u v wr) (fun _ v _ => gps.length - (intOf v).toNat)
 case atStart => exact ⟨0, [], rfl, by omega, .nil, HST0.out⟩
 case round =>
  obtain ⟨k, al, rfl, hk, hma, hst⟩ := hrel
  have hkp := hst.keep
  have hkw : Keep [S] w wr := (Keep.of_below hBW).trans hkp
  have hsz : w.heap.size + 2 ≤ wr.heap.size := by have := hkp.size; have := HW2S.out; omega
  have fbr := cells3K FBX.out hkp (by have := HW2S.out; omega) (by omega)
  have gbr := cells3K GBX.out hkp (by have := HW2S.out; omega) (by omega)
  by_cases hlt : k < gps.length
  ·have hlt' : (k : Int) < gps.length := by omega
   obtain ⟨b, off, cap', row, hsl, hc', hR, hrow, hblt, hcells⟩ := (HQS.out).get (by omega) hlt
   cases hsl
   have hmem := List.getElem_mem hlt
   have hgt : gps.take (k + 1) = gps.take k ++ [gps[k]] := List.take_succ_eq_append_getElem hlt
   generalize hsk : gps[k] = x at hR hmem hgt
   obtain ⟨name, mu⟩ := x
   cases hR
   have d1 := hcells 1 _ rfl
   dsimp only at d1
   obtain ⟨g1, hbH⟩ := hideL_cell d1
   have g2 : wr.cell? ⟨b, off + k * 2 + 1, none⟩ = some (.bool mu) := by
    rw [hkw.cell (p := ⟨b, off + k * 2 + 1, none⟩) (cell_lt g1) (by simp; intro he; exact hbH (he ▸ HS.out.mem))]; exact g1
   have hal : al.length = k := by rw [hma.len, List.length_take]; omega
   have wcr := wcells WCW.out hkp (by have := HW2S.out; omega) HWS.out
   have hob := ownB_lt hst.coll
   have HST := Lib.hid hst
   have HMA := Lib.hid hma
   have HGT := Lib.hid hgt
   have HAL := Lib.hid hal
   have HKW := Lib.hid hkw
   have hHu : ∀ x, x ∈ ownB u9 ++ H → x < wr.heap.size := fun x hx => by
    rcases List.mem_append.1 hx with hx | hx
    ·exact (hob x hx).2
    ·have := HH.out x hx; omega
   have HHU := Lib.hid hHu
   have WCR := Lib.hid wcr
   have hal2 : al.length ≤ 1000 := by omega
   clear hcells hrow d1 g1 hsk hst hma hgt hal hkw hkp wcr hob hHu
   cases mu
   ·go_wp2_with fail
    refine (wexpr_any (H := ownB u9 ++ H) (N := N) _ HST.out.src HSN.out HHU.out (HV.out.below (HKW.out.mono (by intro y hy; simp at hy; subst hy; exact HSN.out)).hide (Nat.le_refl _)) hl WCR.out HWS.out (by omega)).mono ?_
    intro e w2 hq
    obtain ⟨⟨x, xa, xc, rfl, rm, rr⟩, hs2, hk2⟩ := hq
    have RR := Lib.hid rr
    clear rr
    have hcl := HST.out.coll.keep argRep_mono (hk2.alloc (.cells #[.bool false, .string ⟨#[]⟩, .slice none 0 0, .int .i64 x.op, .int .i64 x.num, .string x.name, .slice xa x.args.length xc] 150)) (by intro y hy; simp at hy; subst hy; exact ⟨HS.out.mem, by omega⟩)
    obtain ⟨rows, hr1, hr2, hr3⟩ := hcl.holds
    have HR2 := Lib.hid hr2
    have HR3 := Lib.hid hr3
    have HS2 := Lib.hid hs2
    have HK2 := Lib.hid hk2
    have hz2' := hk2.size
    have RM := Lib.hid rm
    have fb2 := cells3K fbr hk2 (by omega) (by omega)
    have gb2 := cells3K gbr hk2 (by omega) (by omega)
    clear hcl hr2 hr3 hs2 hk2 rm fbr gbr g2
    go_wp2_with (at_builtin; refine wpList_append_fresh _ rfl _ _ 134 rfl (w.heap.size + 2) 150 i0 _ 7 104 Tryd.underlying134 hi hz0 hz1 hz2 rfl (by decide) _ al.length rows.flatten rfl HR3.out ⟨w2.heap.size, 0, none⟩ 1 1 [.bool false, .string ⟨#[]⟩, .slice none 0 0, .int .i64 x.op, .int .i64 x.num, .string x.name, .slice xa x.args.length xc] rfl rfl (new_cells _ _ _) (by simp [Value.oneCell']) (by unfold maxLen; omega) (by omega) (by simp; omega) ?_)
    intro v' w4 hown4 hgrow hfr
    have ST4 := HST.out.next (a := ⟨false, .zero, x⟩) HW2S.out.symm (by omega) HS.out.mem HK2.out HS2.out (.cells #[.bool false, .string ⟨#[]⟩, .slice none 0 0, .int .i64 x.op, .int .i64 x.num, .string x.name, .slice xa x.args.length xc] 150) rows hr1 HR2.out ⟨_, _, rfl, ⟨_, rfl, ListRep.nil _ _ _⟩, ExprRep.mono (CT.of_below ((Below.refl _ _).alloc (Nat.le_refl _) _)) _ RR.out⟩ rfl hgrow hfr hown4
    have HST4 := Lib.hid ST4
    clear ST4 hown4 hgrow hfr hr1 fb2 gb2
    go_wp2_with fail
    go_roundw
    case rel => exact ⟨k + 1, al ++ [⟨false, .zero, x⟩], by go_num, by omega, by rw [HGT.out]; exact HMA.out.snoc (.expr rfl RM.out .nil), HST4.out⟩
    case measure => simp [intOf]; omega
   ·go_wp2_with fail
    refine (mref_any (H := ownB u9 ++ H) (N := N) ms ps vars _ fn ma pa ba mc pc bn bc HST.out.src HSN.out HHU.out (HV.out.below (HKW.out.mono (by intro y hy; simp at hy; subst hy; exact HSN.out)).hide (Nat.le_refl _)) hl WCR.out HWS.out (by omega) HST.out.ms hm1 hm2 HMZ.out HST.out.ps hp2).mono ?_
    intro e w2 hq
    obtain ⟨⟨r, ra, rc, rfl, rm, rr⟩, hs2, hk2⟩ := hq
    have RR := Lib.hid rr
    clear rr
    have hcl := HST.out.coll.keep argRep_mono (hk2.alloc (.cells #[.bool true, .string r.name, .slice ra r.index.length rc, .int .i64 0, .int .i64 0, .string ⟨#[]⟩, .slice none 0 0] 150)) (by intro y hy; simp at hy; subst hy; exact ⟨HS.out.mem, by omega⟩)
    obtain ⟨rows, hr1, hr2, hr3⟩ := hcl.holds
    have HR2 := Lib.hid hr2
    have HR3 := Lib.hid hr3
    have HS2 := Lib.hid hs2
    have HK2 := Lib.hid hk2
    have hz2' := hk2.size
    have RM := Lib.hid rm
    have fb2 := cells3K fbr hk2 (by omega) (by omega)
    have gb2 := cells3K gbr hk2 (by omega) (by omega)
    clear hcl hr2 hr3 hs2 hk2 rm fbr gbr g2
    go_wp2_with (at_builtin; refine wpList_append_fresh _ rfl _ _ 134 rfl (w.heap.size + 2) 150 i0 _ 7 104 Tryd.underlying134 hi hz0 hz1 hz2 rfl (by decide) _ al.length rows.flatten rfl HR3.out ⟨w2.heap.size, 0, none⟩ 1 1 [.bool true, .string r.name, .slice ra r.index.length rc, .int .i64 0, .int .i64 0, .string ⟨#[]⟩, .slice none 0 0] rfl rfl (new_cells _ _ _) (by simp [Value.oneCell']) (by unfold maxLen; omega) (by omega) (by simp; omega) ?_)
    intro v' w4 hown4 hgrow hfr
    have ST4 := HST.out.next (a := ⟨true, r, .zero⟩) HW2S.out.symm (by omega) HS.out.mem HK2.out HS2.out (.cells #[.bool true, .string r.name, .slice ra r.index.length rc, .int .i64 0, .int .i64 0, .string ⟨#[]⟩, .slice none 0 0] 150) rows hr1 HR2.out ⟨_, _, rfl, RR.out.mono (CT.of_below ((Below.refl _ _).alloc (Nat.le_refl _) _)), exprRep_leaf _ _ _ _⟩ rfl hgrow hfr hown4
    have HST4 := Lib.hid ST4
    clear ST4 hown4 hgrow hfr hr1 fb2 gb2
    go_wp2_with fail
    go_roundw
    case rel => exact ⟨k + 1, al ++ [⟨true, r, .zero⟩], by go_num, by omega, by rw [HGT.out]; exact HMA.out.snoc (.mutex rfl RM.out .nil), HST4.out⟩
    case measure => simp [intOf]; omega
  ·have hke : k = gps.length := by omega
   subst hke
   have hge : ¬ ((gps.length : Int) < gps.length) := by omega
   rw [List.take_of_length_le (Nat.le_refl _)] at hma
   have HST := Lib.hid hst
   have HMA := Lib.hid hma
   have HKW := Lib.hid hkw
   clear hst hma hkw hkp
   go_wp2_with fail
   go_ret
   refine ⟨⟨al, _, rfl, HMA.out, HST.out.coll.list (fun x hx => by have := HH.out x hx; omega) argRep_mono⟩, ?_, HKW.out⟩
   exact HST.out.src.ct (fun _ _ h => hideL_sub (fun x hx => List.mem_append_right _ hx) h) (Keep.refl [] _) (by simp) HS.out.mem
end Go.Proofs.YtlbocidcjmehfaaDoor
