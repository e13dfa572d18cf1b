/-
  The value of digits, in plain Lean: what numL gives, and the tokens of a text that is all digits. No conditions.
-/
import Derived.Test.YtecldppicmbecaaDoorPlainLex2
namespace Go.Proofs.YtecldppicmbecaaDoor

def valL (n : Nat) (l : List UInt8) : Nat := l.foldl (fun n c => 10 * n + (c.toNat - 48)) n
theorem valL_nil (n : Nat) : valL n [] = n := rfl
theorem valL_cons (n : Nat) (c : UInt8) (r : List UInt8) : valL n (c :: r) = valL (10 * n + (c.toNat - 48)) r := by unfold valL; rw [List.foldl_cons]
theorem valL_add (l : List UInt8) : ∀ n, valL n l = n * 10 ^ l.length + valL 0 l := by
  induction l with
  | nil => intro n; simp [valL_nil]
  | cons c r ih =>
    intro n
    rw [valL_cons, valL_cons, ih (10 * n + _), ih (10 * 0 + _), List.length_cons, Nat.pow_succ, Nat.add_mul, Nat.add_mul]
    rw [show 10 * n * 10 ^ r.length = n * (10 ^ r.length * 10) by rw [Nat.mul_comm 10 n, Nat.mul_assoc, Nat.mul_comm 10]]
    omega
theorem valL_front (c : UInt8) (l : List UInt8) : valL 0 (c :: l) = (c.toNat - 48) * 10 ^ l.length + valL 0 l := by
  rw [valL_cons, valL_add]; simp
theorem valL_back (l : List UInt8) (c : UInt8) (n : Nat) : valL n (l ++ [c]) = 10 * valL n l + (c.toNat - 48) := by
  unfold valL; rw [List.foldl_append]; rfl
/-- one more digit at the front of what remains -/
theorem digit_step (n k : Nat) (l : List UInt8) (hv : n = k * 10 ^ l.length + valL 0 l) :
    n = k / 10 * 10 ^ (l.length + 1) + valL 0 (UInt8.ofNat (48 + k % 10) :: l) := by
  have hc : (UInt8.ofNat (48 + k % 10)).toNat = 48 + k % 10 := by rw [UInt8.toNat_ofNat']; omega
  rw [valL_front, hc, Nat.pow_succ, Nat.add_sub_cancel_left]
  have : k * 10 ^ l.length = k / 10 * (10 ^ l.length * 10) + k % 10 * 10 ^ l.length := by
    have h := Nat.div_add_mod k 10
    conv => lhs; rw [← h]
    rw [Nat.add_mul, Nat.mul_comm 10 (k / 10), Nat.mul_assoc, Nat.mul_comm 10 (10 ^ _)]
  omega
theorem few_digits (n k m : Nat) (v : Nat) (hn : n < 18446744073709551616) (hk : 0 < k) (hv : n = k * 10 ^ m + v) : m < 20 := by
  rcases Nat.lt_or_ge m 20 with h | h
  · exact h
  · have h1 : 10 ^ 20 ≤ 10 ^ m := Nat.pow_le_pow_right (by omega) h
    have h2 : 10 ^ m ≤ k * 10 ^ m := Nat.le_mul_of_pos_left _ hk
    have h3 : (10 : Nat) ^ 20 = 100000000000000000000 := by decide
    omega
theorem isDig_of (k : Nat) : isDig (UInt8.ofNat (48 + k % 10)) = true := by
  have hc : (UInt8.ofNat (48 + k % 10)).toNat = 48 + k % 10 := by rw [UInt8.toNat_ofNat']; omega
  simp only [isDig, decide_eq_true_eq, hc]; omega
theorem valL_ge (l : List UInt8) : ∀ n, n ≤ valL n l := by
  induction l with
  | nil => intro n; exact Nat.le_refl _
  | cons c r ih => intro n; have := ih (10 * n + (c.toNat - 48)); rw [valL_cons]; omega
theorem numL_val (l : List UInt8) (h : ∀ c ∈ l, isDig c = true) : ∀ n, n ≤ 9223372036854775807 → numL n l = if valL n l ≤ 9223372036854775807 then some (valL n l) else none := by
  induction l with
  | nil => intro n hn; rw [numL, valL_nil, if_pos hn]
  | cons c r ih =>
    intro n hn
    have hc := h c (List.mem_cons_self ..)
    simp only [isDig, decide_eq_true_eq] at hc
    rw [numL, valL_cons]
    by_cases ho : (9223372036854775807 - (c.toNat - 48)) / 10 < n
    · rw [if_pos ho]
      have := valL_ge r (10 * n + (c.toNat - 48))
      rw [if_neg (by omega)]
    · rw [if_neg ho, ih (fun d hd => h d (List.mem_cons_of_mem _ hd)) _ (by omega)]
theorem isDig_not (c : UInt8) (h : isDig c = true) : isLet c = false ∧ isSp c = false ∧ c ≠ 47 := by
  simp only [isDig, decide_eq_true_eq] at h
  refine ⟨?_, ?_, ?_⟩
  · simp only [isLet, decide_eq_false_iff_not]; omega
  · simp only [isSp, decide_eq_false_iff_not]; omega
  · rintro rfl; revert h; decide
theorem takeWhile_all {p : UInt8 → Bool} {l : List UInt8} (h : ∀ c ∈ l, p c = true) : l.takeWhile p = l := by
  induction l with
  | nil => rfl
  | cons c r ih => rw [List.takeWhile_cons_of_pos (h c (List.mem_cons_self ..)), ih fun d hd => h d (List.mem_cons_of_mem _ hd)]
/-- a text of digits alone -/
theorem lexL_digits {l : List UInt8} (h : ∀ c ∈ l, isDig c = true) (h0 : l ≠ []) (hn : l.length ≤ 262144) :
    lexL l = match numL 0 l with | none => .err 0 2 | some v => .ok [⟨2, bytes l, v, 0⟩, ⟨5, ⟨#[]⟩, 0, l.length⟩] := by
  obtain ⟨c, r, rfl⟩ := List.exists_cons_of_ne_nil h0
  have hc := isDig_not c (h c (List.mem_cons_self ..))
  have hs : skipN (c :: r) 0 = 0 := skipN_stop _ 0 (by simp) (by simpa using hc.2.1) (by rintro ⟨h1, _⟩; exact hc.2.2 (by simpa using h1))
  have ht : (c :: r).takeWhile isDig = c :: r := takeWhile_all h
  unfold lexL
  rw [if_neg (by omega)]
  cases hv : numL 0 (c :: r) with
  | none =>
    have hx : nextL (c :: r) = .err 2 := nextL_none hc.1 (h c (List.mem_cons_self ..)) (by rw [ht]; exact hv)
    have := lexT_err (s := c :: r) (k := 0) (n := 0) (e := 2) (by rw [hs]; simp) (by rw [hs]; exact hx)
    rw [this, hs]
  | some v =>
    have hx : nextL (c :: r) = .tok 2 (c :: r).length v := by
      have := nextL_num (c := c) (r := r) (n := v) hc.1 (h c (List.mem_cons_self ..)) (by rw [ht]; exact hv)
      rw [ht] at this; exact this
    have := lexT_tok (s := c :: r) (k := 0) (n := 0) (by omega) (by rw [hs]; simp) (by rw [hs]; exact hx) (by omega)
    rw [this, hs, lexT_end (by rw [skipN_end _ _ (by simp)]; exact Nat.le_refl _)]
    simp [Lexed.cons, bytes]
end Go.Proofs.YtecldppicmbecaaDoor
