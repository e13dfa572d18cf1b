/-
  Walks over the functions of package token that read one token: what each returns. Conditions: sizes within Go's reach; the package's table of words where it is read.
-/
import Derived.Test.YtecldppicmbecaaDoorRows
import Derived.Test.YtecldppicmbecaaDoorShelf
import Derived.Test.YtecldppicmbecaaDoorPlainLex
import Derived.WalkKit
import Derived.WalkSpells
import Derived.WalkLawsBesides
import Derived.Handy
import Derived.Lib.Hide
namespace Go.Proofs.YtecldppicmbecaaDoor
open Go.RowKit

theorem ret_bool {a b : Bool} (h : a = true ↔ b = true) : Ending.returned (.bool a) = .returned (.bool b) := by rw [Bool.eq_iff_iff.2 h]
theorem ret_int {k : IntKind} {a b : Int} (h : a = b) : Ending.returned (.int k a) = .returned (.int k b) := by rw [h]

set_option maxHeartbeats 400000 in
theorem space_any (c : UInt8) (w : World) :
    Calls Tryd.prog 38 #[.int .u8 c.toNat] w fun e w' => e = .returned (.bool (isSp c)) ∧ w = w' := by
  unfold isSp
  generalize (c.toNat : Int) = n
  go_enter Tryd.func38, Tryd.ntmps38
  go_wp2
  all_goals (go_ret; refine ⟨ret_bool ?_, rfl⟩; simp; try omega)
set_option maxHeartbeats 400000 in
theorem letter_any (c : UInt8) (w : World) :
    Calls Tryd.prog 41 #[.int .u8 c.toNat] w fun e w' => e = .returned (.bool (isLet c)) ∧ w = w' := by
  unfold isLet
  generalize (c.toNat : Int) = n
  go_enter Tryd.func41, Tryd.ntmps41
  go_wp2
  all_goals (go_ret; refine ⟨ret_bool ?_, rfl⟩; simp; try omega)
set_option maxHeartbeats 400000 in
theorem digit_any (c : UInt8) (w : World) :
    Calls Tryd.prog 43 #[.int .u8 c.toNat] w fun e w' => e = .returned (.bool (isDig c)) ∧ w = w' := by
  unfold isDig
  generalize (c.toNat : Int) = n
  go_enter Tryd.func43, Tryd.ntmps43
  go_wp2
  all_goals (go_ret; refine ⟨ret_bool ?_, rfl⟩; simp; try omega)
set_option maxHeartbeats 400000 in
theorem nameClass_any (c : UInt8) (w : World) :
    Calls Tryd.prog 60 #[.int .u8 c.toNat] w fun e w' => e = .returned (.bool (isNam c)) ∧ w = w' := by
  go_enter Tryd.func60, Tryd.ntmps60
  go_wp2_with (first | (go_at_call 41; refine (letter_any _ _).mono ?_; rintro e w' ⟨rfl, rfl⟩) | (go_at_call 43; refine (digit_any _ _).mono ?_; rintro e w' ⟨rfl, rfl⟩))
  all_goals (go_ret; refine ⟨ret_bool ?_, rfl⟩; simp [isNam, *])

theorem hasPrefix_any (s p : ByteArray) (w : World) :
    Calls Tryd.prog 39 #[.string s, .string p] w fun e w' => e = .returned (.bool (Lib.hasPrefix s.data.toList p.data.toList)) ∧ w = w' :=
  (Tryd.strings_HasPrefix s p w).mono fun _ _ h => ⟨h.1, h.2.symm⟩
theorem indexByte_any (s : ByteArray) (c : Int) (w : World) :
    Calls Tryd.prog 40 #[.string s, .int .u8 c] w fun e w' => e = .returned (.int .i64 (Lib.indexByte s.data.toList c.toNat.toUInt8)) ∧ w = w' :=
  (Tryd.strings_IndexByte s c w).mono fun _ _ h => ⟨h.1, h.2.symm⟩

set_option maxHeartbeats 400000 in
theorem skip_any (s : ByteArray) (k0 : Nat) (w : World) (hs : s.size ≤ 9223372036854775807) (hk : k0 ≤ s.size) :
    Calls Tryd.prog 25 #[.string s, .int .i64 k0] w fun e w' => e = .returned (.int .i64 (skipN s.data.toList k0)) ∧ w = w' := by
  have hlen : s.data.toList.length = s.size := rfl
  go_enter Tryd.func25, Tryd.ntmps25
  go_wp2_with fail
  go_loop [1, 5] (fun v _ => ∃ k : Nat, k ≤ s.size ∧ v = .int .i64 k ∧ skipN s.data.toList k = skipN s.data.toList k0) (fun v _ => s.size - (intOf v).toNat)
  case atStart => exact ⟨k0, hk, rfl, rfl⟩
  case round =>
    obtain ⟨k, hk, rfl, hr⟩ := hrel
    have HR := Lib.hid hr; clear hr
    have HL := Lib.hid hlen; clear hlen
    by_cases hlt : k < s.size
    · by_cases hsp : isSp s[k] = true
      · go_wp2_with (first | (go_at_call 38; refine (space_any _ _).mono ?_; rintro e w' ⟨rfl, rfl⟩))
        go_round
        case rel => exact ⟨k + 1, by omega, by go_num, (skipN_sp _ _ (by rw [HL.out]; exact hlt) hsp).trans HR.out⟩
        case measure => simp [intOf]; omega
      · have hsp' : isSp s[k] = false := by simpa using hsp
        clear hsp
        by_cases hc : Lib.hasPrefix (s.data.toList.drop k) [47, 47] = true
        · have hcom := skipN_com _ _ (by rw [HL.out]; exact hlt) hc
          have HC := Lib.hid hcom; clear hcom
          have htk : List.take (s.size - k) (List.drop k s.data.toList) = List.drop k s.data.toList := List.take_of_length_le (by simp)
          by_cases hn : Lib.indexByte (s.data.toList.drop k) 10 < 0
          · go_wp2_with (first | (go_at_call 38; refine (space_any _ _).mono ?_; rintro e w' ⟨rfl, rfl⟩) | (go_at_call 39; refine (hasPrefix_any _ _ _).mono ?_; rintro e w' ⟨rfl, rfl⟩)| (go_at_call 40; refine (indexByte_any _ _ _).mono ?_; rintro e w' ⟨rfl, rfl⟩))
            go_ret
            exact ⟨ret_int (by rw [← HR.out, HC.out.1 hn, HL.out]), rfl⟩
          · obtain ⟨j, hj⟩ : ∃ j : Nat, Lib.indexByte (s.data.toList.drop k) 10 = j := ⟨(Lib.indexByte (s.data.toList.drop k) 10).toNat, by omega⟩
            obtain ⟨h1, h2, h3⟩ := HC.out.2 j hj
            rw [HL.out] at h2
            have H1 := Lib.hid h1; clear h1
            clear hn
            go_wp2_with (first | (go_at_call 38; refine (space_any _ _).mono ?_; rintro e w' ⟨rfl, rfl⟩) | (go_at_call 39; refine (hasPrefix_any _ _ _).mono ?_; rintro e w' ⟨rfl, rfl⟩)| (go_at_call 40; refine (indexByte_any _ _ _).mono ?_; rintro e w' ⟨rfl, rfl⟩))
            go_round
            case rel => exact ⟨k + j, by omega, by go_num, H1.out.trans HR.out⟩
            case measure => simp [intOf]; omega
        · have hc' : Lib.hasPrefix (s.data.toList.drop k) [47, 47] = false := by simpa using hc
          have hstop : skipN s.data.toList k = k := by
            refine skipN_stop _ _ (by rw [HL.out]; exact hlt) hsp' ?_
            rintro ⟨h1, h2⟩
            apply hc
            rw [hasPrefix_com, drop_cons _ _ (by rw [HL.out]; exact hlt), h1]
            cases hd : s.data.toList.drop (k + 1) with
            | nil => simp [hd] at h2
            | cons a r => rw [hd] at h2; simp at h2; subst h2; exact ⟨r, rfl⟩
          have HS := Lib.hid hstop; clear hstop
          clear hc
          have htk : List.take (s.size - k) (List.drop k s.data.toList) = List.drop k s.data.toList := List.take_of_length_le (by simp)
          go_wp2_with (first | (go_at_call 38; refine (space_any _ _).mono ?_; rintro e w' ⟨rfl, rfl⟩) | (go_at_call 39; refine (hasPrefix_any _ _ _).mono ?_; rintro e w' ⟨rfl, rfl⟩))
          go_ret
          exact ⟨ret_int (by rw [← HR.out, HS.out]), rfl⟩
    · go_wp2_with fail
      go_ret
      exact ⟨ret_int (by rw [← HR.out, skipN_end _ _ (by rw [HL.out]; omega), HL.out]; omega), rfl⟩

theorem takeWhile_step (p : UInt8 → Bool) (l : List UInt8) (k : Nat) (hk : k < l.length) (h : (l.takeWhile p).length = k + ((l.drop k).takeWhile p).length) :
    (p l[k] = true → (l.takeWhile p).length = (k + 1) + ((l.drop (k + 1)).takeWhile p).length) ∧ (p l[k] = false → (l.takeWhile p).length = k) := by
  rw [drop_cons l k hk] at h
  refine ⟨fun hp => ?_, fun hp => ?_⟩
  · rw [List.takeWhile_cons_of_pos hp] at h; simp at h; omega
  · rw [List.takeWhile_cons_of_neg (by simp [hp])] at h; simpa using h

set_option maxHeartbeats 400000 in
theorem run_digit (s : ByteArray) (w : World) (hs : s.size ≤ 9223372036854775807) :
    Calls Tryd.prog 59 #[.string s, .func (.func 43) #[] #[]] w fun e w' => e = .returned (.int .i64 (s.data.toList.takeWhile isDig).length) ∧ w = w' := by
  have HL := Lib.hid (show s.data.toList.length = s.size from rfl)
  go_enter Tryd.func59, Tryd.ntmps59
  go_wp2_with fail
  go_loop [5] (fun v => ∃ k : Nat, k ≤ s.size ∧ v = .int .i64 k ∧ (s.data.toList.takeWhile isDig).length = k + ((s.data.toList.drop k).takeWhile isDig).length) (fun v => s.size - (intOf v).toNat)
  case atStart => exact ⟨0, by omega, rfl, by simp⟩
  case round =>
    obtain ⟨k, hk, rfl, hr⟩ := hrel
    by_cases hlt : k < s.size
    · have HT := Lib.hid (takeWhile_step isDig s.data.toList k (by rw [HL.out]; exact hlt) hr); clear hr
      by_cases hp : isDig s[k] = true
      · go_wp2_with (first | (go_at_call 43; refine (digit_any _ _).mono ?_; rintro e w' ⟨rfl, rfl⟩))
        go_round
        case rel => exact ⟨k + 1, by omega, by go_num, HT.out.1 hp⟩
        case measure => simp [intOf]; omega
      · have hp' : isDig s[k] = false := by simpa using hp
        clear hp
        go_wp2_with (first | (go_at_call 43; refine (digit_any _ _).mono ?_; rintro e w' ⟨rfl, rfl⟩))
        go_ret
        exact ⟨ret_int (by rw [HT.out.2 hp']), rfl⟩
    · have HR := Lib.hid hr; clear hr
      go_wp2_with fail
      go_ret
      refine ⟨ret_int ?_, rfl⟩
      rw [HR.out, List.drop_eq_nil_of_le (by rw [HL.out]; omega)]; rfl

set_option maxHeartbeats 400000 in
theorem run_name (s : ByteArray) (w : World) (hs : s.size ≤ 9223372036854775807) :
    Calls Tryd.prog 59 #[.string s, .func (.func 60) #[] #[]] w fun e w' => e = .returned (.int .i64 (s.data.toList.takeWhile isNam).length) ∧ w = w' := by
  have HL := Lib.hid (show s.data.toList.length = s.size from rfl)
  go_enter Tryd.func59, Tryd.ntmps59
  go_wp2_with fail
  go_loop [5] (fun v => ∃ k : Nat, k ≤ s.size ∧ v = .int .i64 k ∧ (s.data.toList.takeWhile isNam).length = k + ((s.data.toList.drop k).takeWhile isNam).length) (fun v => s.size - (intOf v).toNat)
  case atStart => exact ⟨0, by omega, rfl, by simp⟩
  case round =>
    obtain ⟨k, hk, rfl, hr⟩ := hrel
    by_cases hlt : k < s.size
    · have HT := Lib.hid (takeWhile_step isNam s.data.toList k (by rw [HL.out]; exact hlt) hr); clear hr
      by_cases hp : isNam s[k] = true
      · go_wp2_with (first | (go_at_call 60; refine (nameClass_any _ _).mono ?_; rintro e w' ⟨rfl, rfl⟩))
        go_round
        case rel => exact ⟨k + 1, by omega, by go_num, HT.out.1 hp⟩
        case measure => simp [intOf]; omega
      · have hp' : isNam s[k] = false := by simpa using hp
        clear hp
        go_wp2_with (first | (go_at_call 60; refine (nameClass_any _ _).mono ?_; rintro e w' ⟨rfl, rfl⟩))
        go_ret
        exact ⟨ret_int (by rw [HT.out.2 hp']), rfl⟩
    · have HR := Lib.hid hr; clear hr
      go_wp2_with fail
      go_ret
      refine ⟨ret_int ?_, rfl⟩
      rw [HR.out, List.drop_eq_nil_of_le (by rw [HL.out]; omega)]; rfl

end Go.Proofs.YtecldppicmbecaaDoor
