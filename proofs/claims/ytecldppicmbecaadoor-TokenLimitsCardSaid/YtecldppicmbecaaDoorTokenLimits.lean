/-
  The walk over lockorderlaw01.TokenLimits: for every number it returns true. Condition: the package's table of words.
-/
import Derived.Test.YtecldppicmbecaaDoorStr
import Derived.Test.YtecldppicmbecaaDoorWithin
import Derived.Test.YtecldppicmbecaaDoorPlainSemi
namespace Go.Proofs.YtecldppicmbecaaDoor
open Go.RowKit

theorem u8Info : (Tryd.prog.info? 5).map (fun i => (i.zero, i.size, i.bytes)) = some (some (.int .u8 0), 1, 1) := by kernel_rfl
theorem owns_cap {w : World} {base : Nat} {e : TypeId} {size : Nat} {v : Value} {n : Nat} {xs : List Value} (h : w.ownsRow base e size v n xs) : ∀ a m c, v = .slice a m c → c ≤ 9223372036854775807 := by
  obtain ⟨_, ⟨rfl, rfl⟩ | ⟨g, cap, cur, rfl, _, _, _, hm, _⟩⟩ := h
  · intro a m c h; cases h; omega
  · intro a m c h; cases h; unfold maxLen at hm; omega
def nameR (u v : Value) : Prop := ∃ (i : Nat) (s : ByteArray), v = .int .i64 i ∧ u = .string s ∧ s.size = i ∧ i ≤ 20
def semiR (c : Bool) (n : Nat) (w : World) (u v : Value) (wr : World) : Prop := ∃ i : Nat, v = .int .i64 i ∧ i ≤ n ∧ wr.ownsRow w.heap.size 5 1 u (semis c i).length (bcells (semis c i)) ∧ Below w.heap.size w wr
/-- what Lex answers for the signs -/
theorem lexR_semis {w : World} {c : Bool} {n : Nat} {v : Value} {p er : Int} (h : LexR w (semis c n) v p er) (hn : n ≤ 60000) :
    (n ≤ 4000 ∧ er = 0 ∧ ∃ a c, v = .slice a (n + 1) c) ∨ (4000 < n ∧ er = 3) := by
  have hl := lexL_semis c n hn
  by_cases h4 : n ≤ 4000
  · obtain ⟨l, h1, h2⟩ := hl.1 h4
    rcases h with ⟨l', g1, ⟨a, cp, rfl, _, _⟩, g3, g4, _⟩ | ⟨a, b, g1, _⟩
    · rw [h1] at g1; cases g1; exact .inl ⟨h4, g4, a, cp, by rw [h2]⟩
    · rw [h1] at g1; cases g1
  · obtain ⟨q, h1⟩ := hl.2 (by omega)
    rcases h with ⟨l', g1, _⟩ | ⟨a, b, g1, _, _, g4, _⟩
    · rw [h1] at g1; cases g1
    · rw [h1] at g1; cases g1; exact .inr ⟨by omega, g4⟩
set_option maxRecDepth 100000 in
set_option maxHeartbeats 1600000 in
theorem tokenLimits_false (length count : Int) (w : World) (he : Env w) :
    Calls Tryd.prog 6 #[.int .i64 length, .int .i64 count, .bool false] w fun e w' => e = .returned (.bool true) ∧ Below w.heap.size w w' := by
  obtain ⟨i0, hi, hz0, hz1, hz2⟩ := info_parts u8Info
  have hl1 : 0 ≤ length % 20 := Int.emod_nonneg length (by omega)
  have hl2 : length % 20 < 20 := Int.emod_lt_of_pos length (by omega)
  have hc1 : 0 ≤ count % 20 := Int.emod_nonneg count (by omega)
  have hc2 : count % 20 < 20 := Int.emod_lt_of_pos count (by omega)
  go_enter Tryd.func6, Tryd.ntmps6
  go_wp2_with fail
  go_loop [7, 8] (fun u v => nameR u v) (fun _ v => 21 - (intOf v).toNat)
  case atStart => exact ⟨0, ⟨#[]⟩, rfl, rfl, rfl, by omega⟩
  case round =>
    obtain ⟨i, s, rfl, rfl, hs, hi20⟩ := hrel
    have z1 : ((⟨#[110]⟩ : ByteArray).size : Int) ≤ 8388608 := by decide
    have z2 : (s.size : Int) ≤ 8388608 := by omega
    have hs2 : (⟨#[97, 32]⟩ ++ s : ByteArray).size = 2 + s.size := by rw [ByteArray.size_append]; rfl
    have hs3 : (⟨#[97, 32]⟩ ++ s ++ ⟨#[32, 98]⟩ : ByteArray).size = 4 + s.size := by rw [ByteArray.size_append, hs2]; show 2 + s.size + 2 = _; omega
    have ha1 := fun w : World => run_string_add_sum (P := Tryd.prog) (w := w) ⟨#[97, 32]⟩ s (by rw [show (⟨#[97, 32]⟩ : ByteArray).size = 2 from rfl]; omega)
    obtain ⟨S, hS⟩ : ∃ S : ByteArray, S = ⟨#[97, 32]⟩ ++ s ++ ⟨#[32, 98]⟩ := ⟨_, rfl⟩
    have ha2 : ∀ w : World, (Op.stringOp .add (⟨#[97, 32]⟩ ++ s : ByteArray) ⟨#[32, 98]⟩).run Tryd.prog w = .ok (.string S) w := fun w => by
      rw [hS]; exact run_string_add_sum (P := Tryd.prog) (w := w) (⟨#[97, 32]⟩ ++ s) ⟨#[32, 98]⟩ (by rw [hs2, show (⟨#[32, 98]⟩ : ByteArray).size = 2 from rfl]; omega)
    rw [← hS] at hs3
    clear hS
    have HS2 := Lib.hid hs2
    have HS3 := Lib.hid hs3
    have HS := Lib.hid hs
    clear hs hs2 hs3
    by_cases hlt : (i : Int) < 1 + length % 20
    · go_wp2_with (go_at_call 13; ((with_reducible refine (within_any _ 20 _ (by omega) (by omega)).mono ?_); rintro e w' ⟨rfl, rfl⟩))
      go_round
      case rel => exact ⟨i + 1, _, by go_num, rfl, by rw [ByteArray.size_append, HS.out]; rfl, by omega⟩
      case measure => simp [intOf]; omega
    · have hbs := bytes_of
      obtain ⟨n, hn⟩ : ∃ n : Nat, (3990 : Int) + count % 20 = n := ⟨(3990 + count % 20).toNat, by omega⟩
      have hn1 : 3990 ≤ n := by omega
      have hn2 : n ≤ 4009 := by omega
      have HNN := Lib.hid hn
      clear hc1 hc2
      go_wp2_with (first | (go_at_call 13; ((with_reducible refine (within_any _ 20 _ (by omega) (by omega)).mono ?_); rintro e w' ⟨rfl, rfl⟩)) | (go_at_call 10; ((with_reducible refine (same_str _ _ (he.below (by go_grown) he.size) (by rw [HS3.out]; omega) _ rfl _).mono ?_); rintro e w2 ⟨rfl, hb4⟩)) | (at_make; refine wpList_make_own _ rfl _ _ 22 rfl w.heap.size 5 i0 _ 1 Tryd.underlying22 hi hz0 hz1 _ _ _ (3 * n) rfl rfl (by omega) (by rw [hz2]; omega) (by unfold maxLen; omega) (by have := hb4.size; omega) ?_))
      intro w3 hown3 hgrow3
      have hB := Below.step (w := w) (by go_grown) hb4
      have hB3 : Below w.heap.size w w3 := Below.grown hB hgrow3 hB.size (fun k hk => by cases hk)
      clear hgrow3
      go_wp2_with fail
      go_loopw [10, 11] (fun u v wr => semiR false n w u v wr) (fun _ v _ => n - (intOf v).toNat)
      case atStart => exact ⟨0, rfl, by omega, by simpa [semis, bcells] using hown3, hB3⟩
      case round =>
        obtain ⟨k, rfl, hkn, hown, hb⟩ := hrel
        obtain ⟨oa, oc, rfl⟩ := owns_slice hown
        have hsz := hb.size
        have hsl := semis_len false k
        by_cases hkl : k < n
        · go_wp2_with (at_builtin; refine wpList_append_own _ rfl _ _ 22 rfl w.heap.size 5 i0 _ 1 1 Tryd.underlying22 hi hz0 hz1 hz2 rfl (by decide) _ _ _ rfl (ownsRow_below hown (by go_grown) (Nat.le_refl _)) _ 1 1 [.int .u8 59] rfl rfl (new_cells_at _ _ _ _ (by simp)) (by simp [Value.oneCell']) (by unfold maxLen; omega) (by omega) (by simp; omega) ?_)
          intro v1 w1 hown1 hgrow1 _
          have hb1 : Below w.heap.size w w1 := Below.grow (by go_grown) hgrow1 (by simp; omega) (ownsRow_below hown (by go_grown) (Nat.le_refl _)) (Nat.le_refl _)
          clear hgrow1
          go_wp2_with fail
          have hown2 := hown1
          have hb2 := hb1
          go_roundw
          case rel =>
            refine ⟨k + 1, by go_num, by omega, ?_, hb2⟩
            have := semis_snoc false k
            rw [← this]
            simpa [bcells, segL] using hown2
          case measure => simp [intOf]; omega
        · obtain rfl : k = n := by omega
          have hrow := RowAt.of_owns hown
          have hcap := owns_cap hown
          have HR := Lib.hid hrow
          have HC := Lib.hid hcap
          clear hrow hcap
          have q1 : ((k : Int) + 1 == k + 1) = true := by simp
          go_wp2_with (first | (go_at_call 14; ((with_reducible refine (tLex_any (semis false k) _ _ (he.below hb he.size) HR.out).mono ?_); rintro e w4 ⟨⟨v, p, er, rfl, hR⟩, hb5⟩; have hB5 := Below.step (w := w) hb hb5; have HR5 := Lib.hid (RowAt.below HR.out hb5 (Nat.le_refl _)); obtain ⟨h4, rfl, a4, c4, rfl⟩ | ⟨h4, rfl⟩ := lexR_semis hR (by omega))) | (go_at_call 10; ((with_reducible refine (same_any (semis false k) _ _ (he.below (by go_grown) he.size) HR5.out HC.out).mono ?_); rintro e w5 ⟨rfl, hb6⟩; have hB6 := Below.step (w := w) (by go_grown) hb6)) | (go_at_call 11; ((with_reducible refine (awake_any _ (he.below (by go_grown) he.size)).mono ?_); rintro e w6 ⟨rfl, hb7⟩; have hB7 := Below.step (w := w) (by go_grown) hb7)))
          all_goals (go_ret; refine ⟨?_, hB7⟩; first | rfl | (refine ret_bool ?_; simp; omega))
set_option maxRecDepth 100000 in
set_option maxHeartbeats 1600000 in
theorem tokenLimits_true (length count : Int) (w : World) (he : Env w) :
    Calls Tryd.prog 6 #[.int .i64 length, .int .i64 count, .bool true] w fun e w' => e = .returned (.bool true) ∧ Below w.heap.size w w' := by
  obtain ⟨i0, hi, hz0, hz1, hz2⟩ := info_parts u8Info
  have hl1 : 0 ≤ length % 20 := Int.emod_nonneg length (by omega)
  have hl2 : length % 20 < 20 := Int.emod_lt_of_pos length (by omega)
  have hc1 : 0 ≤ count % 20 := Int.emod_nonneg count (by omega)
  have hc2 : count % 20 < 20 := Int.emod_lt_of_pos count (by omega)
  go_enter Tryd.func6, Tryd.ntmps6
  go_wp2_with fail
  go_loop [7, 8] (fun u v => nameR u v) (fun _ v => 21 - (intOf v).toNat)
  case atStart => exact ⟨0, ⟨#[]⟩, rfl, rfl, rfl, by omega⟩
  case round =>
    obtain ⟨i, s, rfl, rfl, hs, hi20⟩ := hrel
    have z1 : ((⟨#[110]⟩ : ByteArray).size : Int) ≤ 8388608 := by decide
    have z2 : (s.size : Int) ≤ 8388608 := by omega
    have hs2 : (⟨#[97, 32]⟩ ++ s : ByteArray).size = 2 + s.size := by rw [ByteArray.size_append]; rfl
    have hs3 : (⟨#[97, 32]⟩ ++ s ++ ⟨#[32, 98]⟩ : ByteArray).size = 4 + s.size := by rw [ByteArray.size_append, hs2]; show 2 + s.size + 2 = _; omega
    have ha1 := fun w : World => run_string_add_sum (P := Tryd.prog) (w := w) ⟨#[97, 32]⟩ s (by rw [show (⟨#[97, 32]⟩ : ByteArray).size = 2 from rfl]; omega)
    obtain ⟨S, hS⟩ : ∃ S : ByteArray, S = ⟨#[97, 32]⟩ ++ s ++ ⟨#[32, 98]⟩ := ⟨_, rfl⟩
    have ha2 : ∀ w : World, (Op.stringOp .add (⟨#[97, 32]⟩ ++ s : ByteArray) ⟨#[32, 98]⟩).run Tryd.prog w = .ok (.string S) w := fun w => by
      rw [hS]; exact run_string_add_sum (P := Tryd.prog) (w := w) (⟨#[97, 32]⟩ ++ s) ⟨#[32, 98]⟩ (by rw [hs2, show (⟨#[32, 98]⟩ : ByteArray).size = 2 from rfl]; omega)
    rw [← hS] at hs3
    clear hS
    have HS2 := Lib.hid hs2
    have HS3 := Lib.hid hs3
    have HS := Lib.hid hs
    clear hs hs2 hs3
    by_cases hlt : (i : Int) < 1 + length % 20
    · go_wp2_with (go_at_call 13; ((with_reducible refine (within_any _ 20 _ (by omega) (by omega)).mono ?_); rintro e w' ⟨rfl, rfl⟩))
      go_round
      case rel => exact ⟨i + 1, _, by go_num, rfl, by rw [ByteArray.size_append, HS.out]; rfl, by omega⟩
      case measure => simp [intOf]; omega
    · have hbs := bytes_of
      obtain ⟨n, hn⟩ : ∃ n : Nat, (3990 : Int) + count % 20 = n := ⟨(3990 + count % 20).toNat, by omega⟩
      have hn1 : 3990 ≤ n := by omega
      have hn2 : n ≤ 4009 := by omega
      have HNN := Lib.hid hn
      clear hc1 hc2
      go_wp2_with (first | (go_at_call 13; ((with_reducible refine (within_any _ 20 _ (by omega) (by omega)).mono ?_); rintro e w' ⟨rfl, rfl⟩)) | (go_at_call 10; ((with_reducible refine (same_str _ _ (he.below (by go_grown) he.size) (by rw [HS3.out]; omega) _ rfl _).mono ?_); rintro e w2 ⟨rfl, hb4⟩)) | (at_make; refine wpList_make_own _ rfl _ _ 22 rfl w.heap.size 5 i0 _ 1 Tryd.underlying22 hi hz0 hz1 _ _ _ (3 * n) rfl rfl (by omega) (by rw [hz2]; omega) (by unfold maxLen; omega) (by have := hb4.size; omega) ?_))
      intro w3 hown3 hgrow3
      have hB := Below.step (w := w) (by go_grown) hb4
      have hB3 : Below w.heap.size w w3 := Below.grown hB hgrow3 hB.size (fun k hk => by cases hk)
      clear hgrow3
      go_wp2_with fail
      go_loopw [10, 11] (fun u v wr => semiR true n w u v wr) (fun _ v _ => n - (intOf v).toNat)
      case atStart => exact ⟨0, rfl, by omega, by simpa [semis, bcells] using hown3, hB3⟩
      case round =>
        obtain ⟨k, rfl, hkn, hown, hb⟩ := hrel
        obtain ⟨oa, oc, rfl⟩ := owns_slice hown
        have hsz := hb.size
        have hsl := semis_len true k
        by_cases hkl : k < n
        · go_wp2_with (at_builtin; refine wpList_append_own _ rfl _ _ 22 rfl w.heap.size 5 i0 _ 1 1 Tryd.underlying22 hi hz0 hz1 hz2 rfl (by decide) _ _ _ rfl (ownsRow_below hown (by go_grown) (Nat.le_refl _)) _ 1 1 [.int .u8 59] rfl rfl (new_cells_at _ _ _ _ (by simp)) (by simp [Value.oneCell']) (by unfold maxLen; omega) (by omega) (by simp; omega) ?_)
          intro v1 w1 hown1 hgrow1 _
          have hb1 : Below w.heap.size w w1 := Below.grow (by go_grown) hgrow1 (by simp; omega) (ownsRow_below hown (by go_grown) (Nat.le_refl _)) (Nat.le_refl _)
          clear hgrow1
          obtain ⟨oa1, oc1, rfl⟩ := owns_slice hown1
          have hsz1 := hb1.size
          go_wp2_with (at_builtin; refine wpList_append_own _ rfl _ _ 22 rfl w.heap.size 5 i0 _ 1 1 Tryd.underlying22 hi hz0 hz1 hz2 rfl (by decide) _ _ _ rfl (ownsRow_below hown1 (by go_grown) (Nat.le_refl _)) _ 3 3 [.int .u8 47, .int .u8 47, .int .u8 10] rfl rfl (new_cells_at _ _ _ _ (by simp)) (by simp [Value.oneCell']) (by unfold maxLen; omega) (by omega) (by simp; omega) ?_)
          intro v2 w2 hown2 hgrow2 _
          have hb2 : Below w.heap.size w w2 := Below.grow (by go_grown) hgrow2 (by simp; omega) (ownsRow_below hown1 (by go_grown) (Nat.le_refl _)) (Nat.le_refl _)
          clear hgrow2
          go_wp2_with fail
          go_roundw
          case rel =>
            refine ⟨k + 1, by go_num, by omega, ?_, hb2⟩
            have := semis_snoc true k
            rw [← this]
            simpa [bcells, segL] using hown2
          case measure => simp [intOf]; omega
        · obtain rfl : k = n := by omega
          have hrow := RowAt.of_owns hown
          have hcap := owns_cap hown
          have HR := Lib.hid hrow
          have HC := Lib.hid hcap
          clear hrow hcap
          have q1 : ((k : Int) + 1 == k + 1) = true := by simp
          go_wp2_with (first | (go_at_call 14; ((with_reducible refine (tLex_any (semis true k) _ _ (he.below hb he.size) HR.out).mono ?_); rintro e w4 ⟨⟨v, p, er, rfl, hR⟩, hb5⟩; have hB5 := Below.step (w := w) hb hb5; have HR5 := Lib.hid (RowAt.below HR.out hb5 (Nat.le_refl _)); obtain ⟨h4, rfl, a4, c4, rfl⟩ | ⟨h4, rfl⟩ := lexR_semis hR (by omega))) | (go_at_call 10; ((with_reducible refine (same_any (semis true k) _ _ (he.below (by go_grown) he.size) HR5.out HC.out).mono ?_); rintro e w5 ⟨rfl, hb6⟩; have hB6 := Below.step (w := w) (by go_grown) hb6)) | (go_at_call 11; ((with_reducible refine (awake_any _ (he.below (by go_grown) he.size)).mono ?_); rintro e w6 ⟨rfl, hb7⟩; have hB7 := Below.step (w := w) (by go_grown) hb7)))
          all_goals (go_ret; refine ⟨?_, hB7⟩; first | rfl | (refine ret_bool ?_; simp; omega))
theorem tokenLimits_walk (length count : Int) (c : Bool) (w : World) (he : Env w) :
    Calls Tryd.prog 6 #[.int .i64 length, .int .i64 count, .bool c] w fun e w' => e = .returned (.bool true) ∧ Below w.heap.size w w' := by
  cases c
  · exact tokenLimits_false length count w he
  · exact tokenLimits_true length count w he
end Go.Proofs.YtecldppicmbecaaDoor
