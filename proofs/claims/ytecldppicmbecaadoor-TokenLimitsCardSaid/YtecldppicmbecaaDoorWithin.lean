/-
  The walk over made.Within: the remainder from 0 on. Condition: the divisor is above 0 and at most 2^62.
-/
import Derived.Test.YtecldppicmbecaaDoorLexWalks
namespace Go.Proofs.YtecldppicmbecaaDoor
open Go.RowKit

theorem neg_lt_tmod (x n : Int) (hn : 0 < n) : -n < x.tmod n := by
  by_cases hx : 0 ≤ x
  · have := Int.tmod_nonneg n hx; omega
  · have h1 := Int.tmod_lt_of_pos (-x) hn
    rw [Int.neg_tmod] at h1; omega
theorem tmod_within (x n : Int) (hn : 0 < n) : (x.tmod n + n).tmod n = x % n := by
  have h1 := Int.tmod_lt_of_pos x hn
  have h2 := neg_lt_tmod x n hn
  rw [Int.tmod_eq_emod_of_nonneg (by omega), Int.add_emod_right]
  rw [Int.tmod_def]
  rw [show x - n * x.tdiv n = x + n * (-(x.tdiv n)) by rw [Int.mul_neg]; omega, Int.add_mul_emod_self_left]
set_option maxHeartbeats 400000 in
theorem within_any (x n : Int) (w : World) (hn : 0 < n) (hn2 : n ≤ 4611686018427387904) :
    Calls Tryd.prog 13 #[.int .i64 x, .int .i64 n] w fun e w' => e = .returned (.int .i64 (x % n)) ∧ w = w' := by
  have h1 := Int.tmod_lt_of_pos x hn
  have h2 := neg_lt_tmod x n hn
  have h3 := tmod_within x n hn
  have h4 : 0 ≤ x % n := Int.emod_nonneg x (by omega)
  have h5 : x % n < n := Int.emod_lt_of_pos x hn
  have hw1 : IntKind.i64.wrap (x.tmod n) = x.tmod n := IntWalk.i64_in _ (by omega)
  have hw2 : IntKind.i64.wrap (x.tmod n + n) = x.tmod n + n := IntWalk.i64_in _ (by omega)
  have hw3 : IntKind.i64.wrap (x % n) = x % n := IntWalk.i64_in _ (by omega)
  go_enter Tryd.func13, Tryd.ntmps13
  go_wp2
  go_ret
  exact ⟨ret_int (by simp [h3]), rfl⟩
end Go.Proofs.YtecldppicmbecaaDoor
