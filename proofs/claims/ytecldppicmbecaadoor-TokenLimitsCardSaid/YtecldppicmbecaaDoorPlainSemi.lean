/-
  The tokens of a text that is one sign again and again, in plain Lean. No conditions.
-/
import Derived.Test.YtecldppicmbecaaDoorPlainLex2
namespace Go.Proofs.YtecldppicmbecaaDoor

def segL (c : Bool) : List UInt8 := if c then [59, 47, 47, 10] else [59]
def semis (c : Bool) : Nat → List UInt8
  | 0 => []
  | j + 1 => segL c ++ semis c j
theorem semis_snoc (c : Bool) (j : Nat) : semis c j ++ segL c = semis c (j + 1) := by
  induction j with
  | zero => simp [semis]
  | succ j ih => rw [semis, List.append_assoc, ih]; rfl
theorem semis_len (c : Bool) (j : Nat) : (semis c j).length ≤ 4 * j := by
  induction j with
  | zero => simp [semis]
  | succ j ih => rw [semis, List.length_append]; cases c <;> simp [segL] <;> omega
theorem skipL_semis (c : Bool) (j : Nat) : skipL (semis c j) = semis c j := by
  cases j with
  | zero => exact skipL_nil
  | succ j => cases c <;> exact skipL_stop (by decide) (by simp)
theorem skipL_seg (c : Bool) (j : Nat) : ∃ r, semis c (j + 1) = 59 :: r ∧ skipL r = semis c j := by
  cases c with
  | false => exact ⟨semis false j, rfl, skipL_semis _ _⟩
  | true =>
    refine ⟨47 :: 47 :: 10 :: semis true j, rfl, ?_⟩
    rw [skipL_com, List.dropWhile_cons_of_neg (by decide), skipL_sp (by decide), skipL_semis]
theorem nextL_semi (r : List UInt8) : nextL (59 :: r) = .tok 4 1 0 := by
  have h : signL (59 :: r) = 1 := by
    refine signL_one ?_ (by decide)
    rintro ⟨h1, h2⟩
    cases r with
    | nil => simp at h1
    | cons a r => simp [pairsL] at h2
  rw [nextL_sign (by decide) (by decide), h]; rfl
theorem lexT_semis (c : Bool) (s : List UInt8) (j : Nat) : ∀ k m, k ≤ s.length → skipL (s.drop k) = semis c j → m ≤ 4000 →
    (m + j ≤ 4000 → ∃ l, lexT s k m = .ok l ∧ l.length = j + 1) ∧ (4000 < m + j → ∃ p, lexT s k m = .err p 3) := by
  induction j with
  | zero =>
    intro k m hk hs hm
    have he : s.length ≤ skipN s k := by unfold skipN; rw [hs]; simp [semis]
    exact ⟨fun _ => ⟨_, lexT_end he, rfl⟩, fun h => by omega⟩
  | succ j ih =>
    intro k m hk hs hm
    obtain ⟨r, hr, hsr⟩ := skipL_seg c j
    have hd : s.drop (skipN s k) = 59 :: r := by rw [skipN_drop, hs, hr]
    have hlt : skipN s k < s.length := by
      have := congrArg List.length hd
      rw [List.length_drop, List.length_cons] at this; omega
    have hn : nextL (s.drop (skipN s k)) = .tok 4 1 0 := by rw [hd]; exact nextL_semi r
    have hd1 : s.drop (skipN s k + 1) = r := by
      have := drop_cons s (skipN s k) hlt
      rw [hd] at this
      exact (List.cons.inj this).2.symm
    by_cases h4 : m = 4000
    · subst h4
      exact ⟨fun h => by omega, fun _ => ⟨_, lexT_full hlt hn⟩⟩
    · have h1 := lexT_tok hk hlt hn h4
      have h2 := ih (skipN s k + 1) (m + 1) (by omega) (by rw [hd1, hsr]) (by omega)
      refine ⟨fun h => ?_, fun h => ?_⟩
      · obtain ⟨l, hl, hll⟩ := h2.1 (by omega)
        rw [h1, hl]; exact ⟨_, rfl, by simp [hll]⟩
      · obtain ⟨p, hp⟩ := h2.2 (by omega)
        rw [h1, hp]; exact ⟨_, rfl⟩
theorem lexL_semis (c : Bool) (j : Nat) (hj : j ≤ 60000) : (j ≤ 4000 → ∃ l, lexL (semis c j) = .ok l ∧ l.length = j + 1) ∧ (4000 < j → ∃ p, lexL (semis c j) = .err p 3) := by
  have hl := semis_len c j
  have h := lexT_semis c (semis c j) j 0 0 (by omega) (by rw [List.drop_zero]; exact skipL_semis c j) (by omega)
  unfold lexL
  rw [if_neg (by omega)]
  exact ⟨fun h1 => h.1 (by omega), fun h1 => h.2 (by omega)⟩
end Go.Proofs.YtecldppicmbecaaDoor
