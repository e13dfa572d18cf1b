/-
  A string turned into bytes, and Lex and 'same' of it. Conditions: the package's table of words; the string's size within Go's reach.
-/
import Derived.Test.YtecldppicmbecaaDoorAwake
namespace Go.Proofs.YtecldppicmbecaaDoor
open Go.RowKit

theorem grownCap_le (w : World) (n : Nat) (e : TypeId) (hn : n < 9223372036854775808) : n ≤ grownCap w n 0 e ∧ grownCap w n 0 e ≤ 9223372036854775807 := by
  unfold grownCap Question.cut
  have : w.tape w.drawn (.appendCap n 0 e) % (2 ^ 63 - n) < 2 ^ 63 - n := Nat.mod_lt _ (by omega)
  simp only
  omega
theorem row_of_string (w : World) (s : ByteArray) (c : Nat) (T : TypeId) (hc : s.size ≤ c) (fr : Nat × Nat) : RowAt (w.drew.alloc (.cells (bytesRow s c) T fr)) (.slice (some ⟨w.heap.size, 0, none⟩) s.size c) s.data.toList.length (bcells s.data.toList) := by
  refine ⟨_, _, rfl, hc, .inr ⟨_, 0, rfl, fun j u hu => ?_⟩⟩
  have hm := World.cell?_alloc_mark w.drew (bytesRow s c) T fr j
  rw [Nat.zero_add]
  have e : (⟨w.drew.heap.size, j, none⟩ : Addr) = ⟨w.heap.size, j, none⟩ := rfl
  rw [← e, hm]
  have hj : j < s.data.toList.length := by
    have := (List.getElem?_eq_some_iff.1 hu).1
    simpa [bcells] using this
  unfold bytesRow
  rw [Array.getElem?_append_left (by simpa using hj)]
  simp only [bcells, List.getElem?_map] at hu
  simpa using hu
/-- what the walk rewrites '[]byte(s)' to -/
theorem bytes_of (w : World) (s : ByteArray) : (convert 9 22 (.string s)).run Tryd.prog w = .ok (.slice (some ⟨w.heap.size, 0, none⟩) s.size (grownCap w s.size 0 5))
      (w.drew.alloc (.cells (bytesRow s (grownCap w s.size 0 5)) 5 ((bytesRow s (grownCap w s.size 0 5)).size, (bytesRow s (grownCap w s.size 0 5)).size + 1))) :=
  run_bytes_of_string w 9 22 5 s Tryd.underlying9 Tryd.underlying22 Tryd.underlying5
theorem below_str (w : World) (o : Obj) : Below w.heap.size w (w.drew.alloc o) := ((Below.refl _ _).drew).alloc (Nat.le_refl _) _
theorem lex_str (s : ByteArray) (w : World) (he : Env w) (hs : s.size < 9223372036854775808) (c : Nat) (hc : c = grownCap w s.size 0 5) (fr : Nat × Nat) :
    Calls Tryd.prog 14 #[.slice (some ⟨w.heap.size, 0, none⟩) s.size c] ((w.alloc (.cells (bytesRow s c) 5 fr)).drew)
      fun e w' => (∃ v pos er, e = .returned (.tuple #[v, .int .i64 pos, .int .i64 er]) ∧ LexR w' s.data.toList v pos er) ∧ Below w.heap.size w w' := by
  subst hc
  exact (tLex_any s.data.toList _ (w.drew.alloc _) (he.below (below_str w _) he.size) (row_of_string w s _ _ (grownCap_le w _ _ hs).1 _)).mono fun e w' ⟨h, hb⟩ => ⟨h, Below.step (below_str w _) hb⟩
theorem same_str (s : ByteArray) (w : World) (he : Env w) (hs : s.size < 9223372036854775808) (c : Nat) (hc : c = grownCap w s.size 0 5) (fr : Nat × Nat) :
    Calls Tryd.prog 10 #[.slice (some ⟨w.heap.size, 0, none⟩) s.size c] ((w.alloc (.cells (bytesRow s c) 5 fr)).drew)
      fun e w' => e = .returned (.bool true) ∧ Below w.heap.size w w' := by
  subst hc
  exact (same_any s.data.toList _ (w.drew.alloc _) (he.below (below_str w _) he.size) (row_of_string w s _ _ (grownCap_le w _ _ hs).1 _) (fun _ _ c h => by cases h; exact (grownCap_le w _ _ hs).2)).mono fun e w' ⟨h, hb⟩ => ⟨h, Below.step (below_str w _) hb⟩
end Go.Proofs.YtecldppicmbecaaDoor
