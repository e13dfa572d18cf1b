/-
  More plain laws on the bytes of a text: comments, tests on bytes. No conditions.
-/
import Derived.Test.YtecldppicmbecaaDoorPlainLex
namespace Go.Proofs.YtecldppicmbecaaDoor

theorem skipN_line (s : List UInt8) (k j : Nat) (hk : k + 1 < s.length) (h1 : s[k] = 47) (h2 : s[k + 1] = 47) (hj : (s.drop k).dropWhile (· != 10) = s.drop j) : skipN s j = skipN s k := by
  have e : s.drop k = 47 :: 47 :: s.drop (k + 2) := by rw [drop_cons s k (by omega), drop_cons s (k + 1) hk, h1, h2]
  have e2 : (s.drop k).dropWhile (· != 10) = (s.drop (k + 2)).dropWhile (· != 10) := by rw [e]; rfl
  unfold skipN
  rw [← hj, e2]
  conv => rhs; rw [e, skipL_com]
theorem line_step (s : List UInt8) (k j : Nat) (hj : j < s.length) (h : (s.drop k).dropWhile (· != 10) = (s.drop j).dropWhile (· != 10)) :
    (s[j] = 10 → (s.drop k).dropWhile (· != 10) = s.drop j) ∧ (s[j] ≠ 10 → (s.drop k).dropWhile (· != 10) = (s.drop (j + 1)).dropWhile (· != 10)) := by
  rw [h, drop_cons s j hj]
  refine ⟨fun e => ?_, fun e => ?_⟩
  · rw [List.dropWhile_cons_of_neg (by simp [e])]
  · rw [List.dropWhile_cons_of_pos (by simpa using e)]
theorem not_com_of {s : List UInt8} {k : Nat} (hk : k < s.length) (h : ¬ (∃ h2 : k + 1 < s.length, s[k] = 47 ∧ s[k + 1] = 47)) : ¬ (s[k] = 47 ∧ (s.drop (k + 1)).head? = some 47) := by
  rintro ⟨h1, h2⟩
  apply h
  rw [List.head?_drop] at h2
  obtain ⟨h3, h4⟩ := List.getElem?_eq_some_iff.1 h2
  exact ⟨h3, h1, h4⟩
theorem u8eq (c : UInt8) (n : Nat) (m : Int) (hm : m = (n : Int)) (hn : n < 256) : (c = UInt8.ofNat n → ((c.toNat : Int) == m) = true ∧ ((c.toNat : Int) != m) = false) ∧ (c ≠ UInt8.ofNat n → ((c.toNat : Int) == m) = false ∧ ((c.toNat : Int) != m) = true) := by
  subst hm
  refine ⟨fun h => ?_, fun h => ?_⟩
  · subst h
    have : (UInt8.ofNat n).toNat = n := by rw [UInt8.toNat_ofNat']; omega
    rw [this]; simp
  · have : (c.toNat : Int) ≠ n := by
      intro h3; apply h; apply UInt8.toNat_inj.1; rw [UInt8.toNat_ofNat']; omega
    simp [this]

end Go.Proofs.YtecldppicmbecaaDoor
