/-
  The walk over the laws' sanity check 'awake': it returns true. Condition: the package's table of words.
-/
import Derived.Test.YtecldppicmbecaaDoorText
import Derived.KernelRfl
import Derived.Lib.SlBytesConst
namespace Go.Proofs.YtecldppicmbecaaDoor
open Go.RowKit

def awakeB : List UInt8 := [108, 111, 99, 107, 32, 97, 91, 49, 93, 59, 32, 47, 47, 32, 98]
def awakeT : List Tok := [⟨3, bytes [108, 111, 99, 107], 0, 0⟩, ⟨1, bytes [97], 0, 5⟩, ⟨4, bytes [91], 0, 6⟩, ⟨2, bytes [49], 1, 7⟩, ⟨4, bytes [93], 0, 8⟩, ⟨4, bytes [59], 0, 9⟩, ⟨5, ⟨#[]⟩, 0, 15⟩]
theorem awake_lex : lexL awakeB = .ok awakeT := by kernel_rfl
theorem awake_err : lexL [97, 32, 38, 32, 98] = .err 2 1 := by kernel_rfl
theorem awake_text : textL awakeT = [108, 111, 99, 107, 32, 97, 32, 91, 32, 49, 32, 93, 32, 59] := by kernel_rfl
theorem awake_go : reserved ⟨#[103, 111]⟩ = true := by kernel_rfl
theorem RowAt.new_mark (w : World) (l : List Value) (T : TypeId) (n : Nat) (fr : Nat × Nat) : RowAt (w.alloc (Obj.cells l.toArray T fr)) (.slice (some ⟨w.heap.size, 0, none⟩) n n) n l :=
  ⟨_, _, rfl, Nat.le_refl _, .inr ⟨_, 0, rfl, fun j u hu => by rw [Nat.zero_add, World.cell?_alloc_mark]; simpa using hu⟩⟩
theorem lex_awake (w : World) (he : Env w) :
    Calls Tryd.prog 14 #[.slice (some ⟨w.heap.size, 0, none⟩) 15 15] (w.alloc (Obj.cells #[Value.int .u8 108, Value.int .u8 111, Value.int .u8 99, Value.int .u8 107, Value.int .u8 32, Value.int .u8 97, Value.int .u8 91, Value.int .u8 49, Value.int .u8 93, Value.int .u8 59, Value.int .u8 32, Value.int .u8 47, Value.int .u8 47, Value.int .u8 32, Value.int .u8 98] 5 (15, 16))) fun e w' => (∃ b off c, e = .returned (.tuple #[.slice (some ⟨b, off, none⟩) 7 c, .int .i64 15, .int .i64 0]) ∧ 7 ≤ c ∧ ∀ j u, (toksCells awakeT)[j]? = some u → w'.cell? ⟨b, off + j, none⟩ = some u) ∧ Below w.heap.size w w' := by
  refine (tLex_any awakeB _ _ (he.alloc _) (RowAt.new_mark w (bcells awakeB) 5 15 (15, 16))).mono fun e w' ⟨⟨v, p, er, h, hR⟩, hb⟩ => ⟨?_, ((Below.refl _ _).alloc (Nat.le_refl _) _).trans (hb.mono (by simp))⟩
  rcases hR with ⟨l, h1, ⟨a, c, hv, hc, hr⟩, h3, h4, h5⟩ | ⟨a, b, h1, h2, h3, h4, h5⟩
  · rw [awake_lex] at h1; cases h1
    rcases hr with h0 | ⟨b, off, ha, hr⟩
    · exact absurd h0 (by simp [toksCells, awakeT, Tok.cells])
    · exact ⟨b, off, c, by rw [h, hv, ha, h3, h4]; rfl, hc, hr⟩
  · rw [awake_lex] at h1; cases h1
theorem lex_awake2 (w : World) (he : Env w) :
    Calls Tryd.prog 14 #[.slice (some ⟨w.heap.size, 0, none⟩) 5 5] (w.alloc (Obj.cells #[Value.int .u8 97, Value.int .u8 32, Value.int .u8 38, Value.int .u8 32, Value.int .u8 98] 5 (5, 6))) fun e w' => (e = .returned (.tuple #[.slice none 0 0, .int .i64 2, .int .i64 1])) ∧ Below w.heap.size w w' := by
  refine (tLex_any [97, 32, 38, 32, 98] _ _ (he.alloc _) (RowAt.new_mark w (bcells [97, 32, 38, 32, 98]) 5 5 (5, 6))).mono fun e w' ⟨⟨v, p, er, h, hR⟩, hb⟩ => ⟨?_, ((Below.refl _ _).alloc (Nat.le_refl _) _).trans (hb.mono (by simp))⟩
  rcases hR with ⟨l, h1, ⟨a, c, hv, hc, hr⟩, h3, h4, h5⟩ | ⟨a, b, h1, h2, h3, h4, h5⟩
  · rw [awake_err] at h1; cases h1
  · rw [awake_err] at h1; cases h1
    rw [h, h2, h3, h4]; rfl
theorem text_awake (b off c : Nat) (w : World) (hc : 7 ≤ c) (hr : ∀ j u, (toksCells awakeT)[j]? = some u → w.cell? ⟨b, off + j, none⟩ = some u) :
    Calls Tryd.prog 15 #[.slice (some ⟨b, off, none⟩) 7 c] w fun e w' => e = .returned (.string ⟨#[108, 111, 99, 107, 32, 97, 32, 91, 32, 49, 32, 93, 32, 59]⟩) ∧ Below w.heap.size w w' := by
  refine (text_any awakeT _ w ⟨_, c, rfl, hc, .inr ⟨b, off, rfl, hr⟩⟩ (by decide) (by rw [awake_text]; decide)).mono fun e w' ⟨h, hb⟩ => ⟨?_, hb⟩
  rw [h, awake_text]; rfl
theorem reserved_go (w : World) (he : Env w) :
    Calls Tryd.prog 21 #[.string ⟨#[103, 111]⟩] w fun e w' => e = .returned (.bool true) ∧ w = w' :=
  (reserved_any _ w he).mono fun e w' ⟨h, hw⟩ => ⟨by rw [h, awake_go], hw⟩

set_option maxRecDepth 100000 in
set_option maxHeartbeats 800000 in
theorem awake_any (w : World) (he : Env w) :
    Calls Tryd.prog 11 #[] w fun e w' => e = .returned (.bool true) ∧ Below w.heap.size w w' := by
  have kc := fun (w : World) (C : Array Value) (n c : Nat) => Lib.run_convert_bytes_const (P := Tryd.prog) w 22 5 C n c Tryd.underlying22 Tryd.underlying5
  go_enter Tryd.func11, Tryd.ntmps11
  go_wp2_with (go_at_call 14; ((with_reducible refine (lex_awake w he).mono ?_); rintro e w1 ⟨⟨b, off, c, rfl, hc, hr⟩, hb1⟩; have HR := Lib.hid hr; clear hr))
  have he1 : Env w1 := he.below hb1 he.size
  have key : ∀ w2, Below w1.heap.size w1 w2 → Env w2 ∧ (∀ j u, (toksCells awakeT)[j]? = some u → w2.cell? ⟨b, off + j, none⟩ = some u) ∧ w2.cell? ⟨b, off, none⟩ = some (.int .i64 3) ∧ w2.cell? ⟨b, off + 12 + 2, none⟩ = some (.int .i64 1) ∧ w2.cell? ⟨b, off + 14, none⟩ = some (.int .i64 1) := by
    intro w2 hb2
    have hr2 : ∀ j u, (toksCells awakeT)[j]? = some u → w2.cell? ⟨b, off + j, none⟩ = some u := fun j u hu => by
      have h1 := HR.out j u hu
      rw [hb2.cell (p := ⟨b, off + j, none⟩) (cell_lt h1)]; exact h1
    exact ⟨he1.below hb2 he1.size, hr2, hr2 0 _ rfl, hr2 14 _ rfl, hr2 14 _ rfl⟩
  have KEY := Lib.hid key
  clear key
  go_wp2_with (first | (go_at_call 14; ((with_reducible refine (lex_awake2 w1 he1).mono ?_); rintro e w2 ⟨rfl, hb2⟩; obtain ⟨he2, hr2, q0, q1, q2⟩ := KEY.out w2 hb2; have HR2 := Lib.hid hr2; clear hr2)) | (go_at_call 15; ((with_reducible refine (text_awake b off c _ hc HR2.out).mono ?_); rintro e w3 ⟨rfl, hb3⟩)) | (go_at_call 21; ((with_reducible refine (reserved_go _ (he2.below hb3 he2.size)).mono ?_); rintro e w' ⟨rfl, rfl⟩)))
  go_ret
  exact ⟨rfl, (hb1.trans (hb2.mono hb1.size)).trans (hb3.mono (Nat.le_trans hb1.size hb2.size))⟩
end Go.Proofs.YtecldppicmbecaaDoor
