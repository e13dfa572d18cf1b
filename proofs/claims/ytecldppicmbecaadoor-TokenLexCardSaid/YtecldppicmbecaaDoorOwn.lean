/-
  Small lemmas on what a call owns and what stays as it was, and on slices that read as lists. No conditions of their own.
-/
import Derived.WalkKit
import Derived.WalkSpells
import Derived.WalkLawsBesides
import Derived.Handy
import Derived.Lib.Hide
namespace Go.Proofs.YtecldppicmbecaaDoor
open Go.RowKit

theorem ownsRow_below {w w' : World} {base B : Nat} {e : TypeId} {size : Nat} {v : Value} {n : Nat} {xs : List Value} (h : w.ownsRow base e size v n xs) (hb : Below B w w') (hB : w.heap.size ≤ B) : w'.ownsRow base e size v n xs := by
  obtain ⟨h1, h2⟩ := h
  refine ⟨h1, ?_⟩
  rcases h2 with h2 | ⟨g, cap, cur, hv, hg, hh, r⟩
  · exact .inl h2
  · refine .inr ⟨g, cap, cur, hv, hg, ?_, r⟩
    have hlt : g < w.heap.size := by
      rcases Nat.lt_or_ge g w.heap.size with h | h
      · exact h
      · rw [Array.getElem?_eq_none h] at hh; cases hh
    rw [hb.block g (by omega)]; exact hh
theorem ownsRow_nil (w : World) (base : Nat) (e : TypeId) (size : Nat) : w.ownsRow base e size (.slice none 0 0) 0 [] := ⟨by simp, .inl ⟨rfl, rfl⟩⟩

/-- A SLICE THAT READS AS A LIST OF CELLS: n elements, their cells in a row -/
def RowAt (w : World) (v : Value) (n : Nat) (cells : List Value) : Prop :=
  ∃ a cap, v = .slice a n cap ∧ n ≤ cap ∧ (cells = [] ∨ ∃ b off, a = some ⟨b, off, none⟩ ∧ ∀ j u, cells[j]? = some u → w.cell? ⟨b, off + j, none⟩ = some u)
theorem cell_lt {w : World} {a : Addr} {u : Value} (h : w.cell? a = some u) : a.block < w.heap.size := by
  unfold World.cell? at h
  rcases Nat.lt_or_ge a.block w.heap.size with hl | hl
  · exact hl
  · rw [Array.getElem?_eq_none hl] at h; cases h
theorem RowAt.below {w w' : World} {B : Nat} {v : Value} {n : Nat} {cells : List Value} (h : RowAt w v n cells) (hb : Below B w w') (hB : w.heap.size ≤ B) : RowAt w' v n cells := by
  obtain ⟨a, cap, rfl, hc, h⟩ := h
  refine ⟨a, cap, rfl, hc, h.imp id fun ⟨b, off, ha, hr⟩ => ⟨b, off, ha, fun j u hu => ?_⟩⟩
  have h1 := hr j u hu
  rw [hb.cell (p := ⟨b, off + j, none⟩) (Nat.lt_of_lt_of_le (cell_lt h1) hB)]; exact h1
theorem RowAt.nil (w : World) : RowAt w (.slice none 0 0) 0 [] := ⟨none, 0, rfl, Nat.le_refl _, .inl rfl⟩
theorem RowAt.of_owns {w : World} {base : Nat} {e : TypeId} {size : Nat} {v : Value} {n : Nat} {xs : List Value} (h : w.ownsRow base e size v n xs) : RowAt w v n xs := by
  obtain ⟨h1, h2⟩ := h
  rcases h2 with ⟨rfl, rfl⟩ | ⟨g, cap, cur, rfl, hg, hh, hc, _, hs, ht⟩
  · obtain rfl : xs = [] := List.eq_nil_of_length_eq_zero (by simpa using h1)
    exact .nil w
  · refine ⟨_, _, rfl, hc, .inr ⟨g, 0, rfl, fun j u hu => ?_⟩⟩
    rw [← ht] at hu
    rw [List.getElem?_take] at hu
    split at hu
    · unfold World.cell?
      simp only [hh]
      simpa using hu
    · cases hu
theorem owns_lt {w : World} {base : Nat} {e : TypeId} {size : Nat} {v : Value} {n : Nat} {xs : List Value} (h : w.ownsRow base e size v n xs) {k : Nat} (hk : v.ownBlock = some k) : base ≤ k := by
  obtain ⟨h1, h2⟩ := h
  rcases h2 with ⟨rfl, rfl⟩ | ⟨g, cap, cur, rfl, hg, _⟩
  · simp [Value.ownBlock] at hk
  · simp [Value.ownBlock] at hk; omega
theorem owns_slice {w : World} {base : Nat} {e : TypeId} {size : Nat} {v : Value} {n : Nat} {xs : List Value} (h : w.ownsRow base e size v n xs) : ∃ a c, v = .slice a n c := by
  obtain ⟨_, ⟨rfl, rfl⟩ | ⟨g, cap, cur, rfl, _⟩⟩ := h
  · exact ⟨_, _, rfl⟩
  · exact ⟨_, _, rfl⟩
theorem new_cells (w : World) (l : List Value) (T : TypeId) : ∀ j u, l[j]? = some u → (w.alloc (Obj.cells l.toArray T)).cell? ((⟨w.heap.size, 0, none⟩ : Addr).add j) = some u := by
  intro j u hu
  have e : (⟨w.heap.size, 0, none⟩ : Addr).add j = ⟨w.heap.size, j, none⟩ := by unfold Addr.add; split <;> simp_all
  rw [e]
  simp [go_sem, hu]
theorem new_cells_at (w : World) (l : List Value) (T : TypeId) (n : Nat) (hn : n = w.heap.size) : ∀ j u, l[j]? = some u → (w.alloc (Obj.cells l.toArray T)).cell? ((⟨n, 0, none⟩ : Addr).add j) = some u := by
  subst hn; exact new_cells w l T
theorem owns_lt_size {w : World} {base : Nat} {e : TypeId} {size : Nat} {v : Value} {n : Nat} {xs : List Value} (h : w.ownsRow base e size v n xs) {k : Nat} (hk : v.ownBlock = some k) : k < w.heap.size := by
  obtain ⟨_, ⟨rfl, rfl⟩ | ⟨g, cap, cur, rfl, _, hh, _⟩⟩ := h
  · simp [Value.ownBlock] at hk
  · simp [Value.ownBlock] at hk; subst hk
    rcases Nat.lt_or_ge g w.heap.size with h | h
    · exact h
    · rw [Array.getElem?_eq_none h] at hh; cases hh
/-- behind an append to a row of an elder world a younger block reads as it did -/
theorem grow_cell {wr w w' : World} {v : Value} {base n size : Nat} {e : TypeId} {xs : List Value} (hg : w.grownBy w' v.ownBlock) (hown : wr.ownsRow base e size v n xs) {k : Nat} (h1 : wr.heap.size ≤ k) (h2 : k < w.heap.size) (o : Nat) : w'.cell? ⟨k, o, none⟩ = w.cell? ⟨k, o, none⟩ :=
  World.cell?_of_block (a := ⟨k, o, none⟩) (hg.block k h2 (fun h => by have := owns_lt_size hown h.symm; omega))
theorem RowAt.new (w : World) (l : List Value) (T : TypeId) (n : Nat) : RowAt (w.alloc (Obj.cells l.toArray T)) (.slice (some ⟨w.heap.size, 0, none⟩) n n) n l :=
  ⟨_, _, rfl, Nat.le_refl _, .inr ⟨_, 0, rfl, fun j u hu => by simp [go_sem, hu]⟩⟩
theorem bytes_ext {a b : ByteArray} (h : a.data.toList = b.data.toList) : a = b := by
  cases a; cases b; simp at h; subst h; rfl
theorem strEq_true {a b : ByteArray} (h : a = b) : (a.toList == b.toList) = true := by subst h; simp
theorem strEq_false {a b : ByteArray} (h : a ≠ b) : (a.toList == b.toList) = false := by
  rw [beq_eq_false_iff_ne]; intro e; apply h; rw [ByteArray.toList_eq, ByteArray.toList_eq] at e; exact bytes_ext e
theorem strNe_true {a b : ByteArray} (h : a ≠ b) : (a.toList != b.toList) = true := by rw [bne, strEq_false h]; rfl
theorem strNe_false {a b : ByteArray} (h : a = b) : (a.toList != b.toList) = false := by rw [bne, strEq_true h]; rfl
theorem RowAt.new_at (w : World) (l : List Value) (T : TypeId) (n k : Nat) (hk : k = w.heap.size) : RowAt (w.alloc (Obj.cells l.toArray T)) (.slice (some ⟨k, 0, none⟩) n n) n l := by
  subst hk; exact RowAt.new w l T n
theorem Below.step {w a b : World} (h : Below w.heap.size w a) (hb : Below a.heap.size a b) : Below w.heap.size w b := h.trans (hb.mono h.size)
theorem Below.grow {B : Nat} {W w w' : World} {v : Value} {base n size : Nat} {e : TypeId} {xs : List Value} (h : Below B W w) (hg : w.grownBy w' v.ownBlock) (hB : B ≤ w.heap.size) (hown : w.ownsRow base e size v n xs) (hb : B ≤ base) : Below B W w' :=
  Below.grown h hg hB (fun _ hk => Nat.le_trans hb (owns_lt hown hk))
end Go.Proofs.YtecldppicmbecaaDoor
