import Derived.Test.YtflcnehhpmjipaaGreatDoorRows
import Derived.Test.YtflcnehhpmjipaaGreatDoorShelfJ
import Derived.Test.YtflcnehhpmjipaaGreatDoorA1J
import Derived.WalkKit
import Derived.WalkSpells
import Derived.WalkLawsBesides
import Derived.Handy
import Derived.Lib.Hide
set_option linter.unusedVariables false
set_option linter.unusedSimpArgs false
namespace Go.Proofs.YtflcnehhpmjipaaGreatDoor
open Go.RowKit
theorem ret_bool {a b : Bool} (h : a = true ↔ b = true) : Ending.returned (.bool a) = .returned (.bool b) := by rw [Bool.eq_iff_iff.2 h]
theorem ret_int {k : IntKind} {a b : Int} (h : a = b) : Ending.returned (.int k a) = .returned (.int k b) := by rw [h]
set_option maxHeartbeats 400000 in
theorem space_any (c : UInt8) (w : World) :
  Calls Tryz.prog 93 #[.int .u8 c.toNat] w fun e w' => e = .returned (.bool (isSp c)) ∧ w = w' := by
 unfold isSp
 generalize (c.toNat : Int) = n
 go_enter Tryz.func93, Tryz.ntmps93
 go_wp2
 all_goals (go_ret; refine ⟨ret_bool ?_, rfl⟩; simp; try omega)
set_option maxHeartbeats 400000 in
theorem letter_any (c : UInt8) (w : World) :
  Calls Tryz.prog 96 #[.int .u8 c.toNat] w fun e w' => e = .returned (.bool (isLet c)) ∧ w = w' := by
 unfold isLet
 generalize (c.toNat : Int) = n
 go_enter Tryz.func96, Tryz.ntmps96
 go_wp2
 all_goals (go_ret; refine ⟨ret_bool ?_, rfl⟩; simp; try omega)
set_option maxHeartbeats 400000 in
theorem digit_any (c : UInt8) (w : World) :
  Calls Tryz.prog 98 #[.int .u8 c.toNat] w fun e w' => e = .returned (.bool (isDig c)) ∧ w = w' := by
 unfold isDig
 generalize (c.toNat : Int) = n
 go_enter Tryz.func98, Tryz.ntmps98
 go_wp2
 all_goals (go_ret; refine ⟨ret_bool ?_, rfl⟩; simp; try omega)
set_option maxHeartbeats 400000 in
theorem nameClass_any (c : UInt8) (w : World) :
  Calls Tryz.prog 130 #[.int .u8 c.toNat] w fun e w' => e = .returned (.bool (isNam c)) ∧ w = w' := by
 go_enter Tryz.func130, Tryz.ntmps130
 go_wp2_with (first | (go_at_call 96; refine (letter_any _ _).mono ?_; rintro e w' ⟨rfl, rfl⟩) | (go_at_call 98; refine (digit_any _ _).mono ?_; rintro e w' ⟨rfl, rfl⟩))
 all_goals (go_ret; refine ⟨ret_bool ?_, rfl⟩; simp [isNam, *])
theorem hasPrefix_any (s p : ByteArray) (w : World) :
  Calls Tryz.prog 94 #[.string s, .string p] w fun e w' => e = .returned (.bool (Lib.hasPrefix s.data.toList p.data.toList)) ∧ w = w' :=
 (Tryz.strings_HasPrefix s p w).mono fun _ _ h => ⟨h.1, h.2.symm⟩
theorem indexByte_any (s : ByteArray) (c : Int) (w : World) :
  Calls Tryz.prog 95 #[.string s, .int .u8 c] w fun e w' => e = .returned (.int .i64 (Lib.indexByte s.data.toList c.toNat.toUInt8)) ∧ w = w' :=
 (Tryz.strings_IndexByte s c w).mono fun _ _ h => ⟨h.1, h.2.symm⟩
set_option maxHeartbeats 400000 in
theorem skip_any (s : ByteArray) (k0 : Nat) (w : World) (hs : s.size ≤ 9223372036854775807) (hk : k0 ≤ s.size) :
  Calls Tryz.prog 64 #[.string s, .int .i64 k0] w fun e w' => e = .returned (.int .i64 (skipN s.data.toList k0)) ∧ w = w' := by
 have hlen : s.data.toList.length = s.size := rfl
 go_enter Tryz.func64, Tryz.ntmps64
 go_wp2_with fail
 go_loop [1, 5] (fun v _ => ∃ k : Nat, k ≤ s.size ∧ v = .int .i64 k ∧ skipN s.data.toList k = skipN s.data.toList k0) (fun v _ => s.size - (intOf v).toNat)
 case atStart => exact ⟨k0, hk, rfl, rfl⟩
 case round =>
  obtain ⟨k, hk, rfl, hr⟩ := hrel
  have HR := Lib.hid hr; clear hr
  have HL := Lib.hid hlen; clear hlen
  by_cases hlt : k < s.size
  ·by_cases hsp : isSp s[k] = true
   ·go_wp2_with (first | (go_at_call 93; refine (space_any _ _).mono ?_; rintro e w' ⟨rfl, rfl⟩))
    go_round
    case rel => exact ⟨k + 1, by omega, by go_num, (skipN_sp _ _ (by rw [HL.out]; exact hlt) hsp).trans HR.out⟩
    case measure => simp [intOf]; omega
   ·have hsp' : isSp s[k] = false := by simpa using hsp
    clear hsp
    by_cases hc : Lib.hasPrefix (s.data.toList.drop k) [47, 47] = true
    ·have hcom := skipN_com _ _ (by rw [HL.out]; exact hlt) hc
     have HC := Lib.hid hcom; clear hcom
     have htk : List.take (s.size - k) (List.drop k s.data.toList) = List.drop k s.data.toList := List.take_of_length_le (by simp)
     by_cases hn : Lib.indexByte (s.data.toList.drop k) 10 < 0
     ·go_wp2_with (first | (go_at_call 93; refine (space_any _ _).mono ?_; rintro e w' ⟨rfl, rfl⟩) | (go_at_call 94; refine (hasPrefix_any _ _ _).mono ?_; rintro e w' ⟨rfl, rfl⟩)| (go_at_call 95; refine (indexByte_any _ _ _).mono ?_; rintro e w' ⟨rfl, rfl⟩))
      go_ret
      exact ⟨ret_int (by rw [← HR.out, HC.out.1 hn, HL.out]), rfl⟩
     ·obtain ⟨j, hj⟩ : ∃ j : Nat, Lib.indexByte (s.data.toList.drop k) 10 = j := ⟨(Lib.indexByte (s.data.toList.drop k) 10).toNat, by omega⟩
      obtain ⟨h1, h2, h3⟩ := HC.out.2 j hj
      rw [HL.out] at h2
      have H1 := Lib.hid h1; clear h1
      clear hn
      go_wp2_with (first | (go_at_call 93; refine (space_any _ _).mono ?_; rintro e w' ⟨rfl, rfl⟩) | (go_at_call 94; refine (hasPrefix_any _ _ _).mono ?_; rintro e w' ⟨rfl, rfl⟩)| (go_at_call 95; refine (indexByte_any _ _ _).mono ?_; rintro e w' ⟨rfl, rfl⟩))
      go_round
      case rel => exact ⟨k + j, by omega, by go_num, H1.out.trans HR.out⟩
      case measure => simp [intOf]; omega
    ·have hc' : Lib.hasPrefix (s.data.toList.drop k) [47, 47] = false := by simpa using hc
     have hstop : skipN s.data.toList k = k := by
      refine skipN_stop _ _ (by rw [HL.out]; exact hlt) hsp' ?_
      rintro ⟨h1, h2⟩
      apply hc
      rw [hasPrefix_com, drop_cons _ _ (by rw [HL.out]; exact hlt), h1]
      cases hd : s.data.toList.drop (k + 1) with
      | nil => simp [hd] at h2
      | cons a r => rw [hd] at h2; simp at h2; subst h2; exact ⟨r, rfl⟩
     have HS := Lib.hid hstop; clear hstop
     clear hc
     have htk : List.take (s.size - k) (List.drop k s.data.toList) = List.drop k s.data.toList := List.take_of_length_le (by simp)
     go_wp2_with (first | (go_at_call 93; refine (space_any _ _).mono ?_; rintro e w' ⟨rfl, rfl⟩) | (go_at_call 94; refine (hasPrefix_any _ _ _).mono ?_; rintro e w' ⟨rfl, rfl⟩))
     go_ret
     exact ⟨ret_int (by rw [← HR.out, HS.out]), rfl⟩
  ·go_wp2_with fail
   go_ret
   exact ⟨ret_int (by rw [← HR.out, skipN_end _ _ (by rw [HL.out]; omega), HL.out]; omega), rfl⟩
theorem takeWhile_step (p : UInt8 → Bool) (l : List UInt8) (k : Nat) (hk : k < l.length) (h : (l.takeWhile p).length = k + ((l.drop k).takeWhile p).length) :
  (p l[k] = true → (l.takeWhile p).length = (k + 1) + ((l.drop (k + 1)).takeWhile p).length) ∧ (p l[k] = false → (l.takeWhile p).length = k) := by
 rw [drop_cons l k hk] at h
 refine ⟨fun hp => ?_, fun hp => ?_⟩
 ·rw [List.takeWhile_cons_of_pos hp] at h; simp at h; omega
 ·rw [List.takeWhile_cons_of_neg (by simp [hp])] at h; simpa using h
set_option maxHeartbeats 400000 in
theorem run_digit (s : ByteArray) (w : World) (hs : s.size ≤ 9223372036854775807) :
  Calls Tryz.prog 129 #[.string s, .func (.func 98) #[] #[]] w fun e w' => e = .returned (.int .i64 (s.data.toList.takeWhile isDig).length) ∧ w = w' := by
 have HL := Lib.hid (show s.data.toList.length = s.size from rfl)
 go_enter Tryz.func129, Tryz.ntmps129
 go_wp2_with fail
 go_loop [5] (fun v => ∃ k : Nat, k ≤ s.size ∧ v = .int .i64 k ∧ (s.data.toList.takeWhile isDig).length = k + ((s.data.toList.drop k).takeWhile isDig).length) (fun v => s.size - (intOf v).toNat)
 case atStart => exact ⟨0, by omega, rfl, by simp⟩
 case round =>
  obtain ⟨k, hk, rfl, hr⟩ := hrel
  by_cases hlt : k < s.size
  ·have HT := Lib.hid (takeWhile_step isDig s.data.toList k (by rw [HL.out]; exact hlt) hr); clear hr
   by_cases hp : isDig s[k] = true
   ·go_wp2_with (first | (go_at_call 98; refine (digit_any _ _).mono ?_; rintro e w' ⟨rfl, rfl⟩))
    go_round
    case rel => exact ⟨k + 1, by omega, by go_num, HT.out.1 hp⟩
    case measure => simp [intOf]; omega
   ·have hp' : isDig s[k] = false := by simpa using hp
    clear hp
    go_wp2_with (first | (go_at_call 98; refine (digit_any _ _).mono ?_; rintro e w' ⟨rfl, rfl⟩))
    go_ret
    exact ⟨ret_int (by rw [HT.out.2 hp']), rfl⟩
  ·have HR := Lib.hid hr; clear hr
   go_wp2_with fail
   go_ret
   refine ⟨ret_int ?_, rfl⟩
   rw [HR.out, List.drop_eq_nil_of_le (by rw [HL.out]; omega)]; rfl
set_option maxHeartbeats 400000 in
theorem run_name (s : ByteArray) (w : World) (hs : s.size ≤ 9223372036854775807) :
  Calls Tryz.prog 129 #[.string s, .func (.func 130) #[] #[]] w fun e w' => e = .returned (.int .i64 (s.data.toList.takeWhile isNam).length) ∧ w = w' := by
 have HL := Lib.hid (show s.data.toList.length = s.size from rfl)
 go_enter Tryz.func129, Tryz.ntmps129
 go_wp2_with fail
 go_loop [5] (fun v => ∃ k : Nat, k ≤ s.size ∧ v = .int .i64 k ∧ (s.data.toList.takeWhile isNam).length = k + ((s.data.toList.drop k).takeWhile isNam).length) (fun v => s.size - (intOf v).toNat)
 case atStart => exact ⟨0, by omega, rfl, by simp⟩
 case round =>
  obtain ⟨k, hk, rfl, hr⟩ := hrel
  by_cases hlt : k < s.size
  ·have HT := Lib.hid (takeWhile_step isNam s.data.toList k (by rw [HL.out]; exact hlt) hr); clear hr
   by_cases hp : isNam s[k] = true
   ·go_wp2_with (first | (go_at_call 130; refine (nameClass_any _ _).mono ?_; rintro e w' ⟨rfl, rfl⟩))
    go_round
    case rel => exact ⟨k + 1, by omega, by go_num, HT.out.1 hp⟩
    case measure => simp [intOf]; omega
   ·have hp' : isNam s[k] = false := by simpa using hp
    clear hp
    go_wp2_with (first | (go_at_call 130; refine (nameClass_any _ _).mono ?_; rintro e w' ⟨rfl, rfl⟩))
    go_ret
    exact ⟨ret_int (by rw [HT.out.2 hp']), rfl⟩
  ·have HR := Lib.hid hr; clear hr
   go_wp2_with fail
   go_ret
   refine ⟨ret_int ?_, rfl⟩
   rw [HR.out, List.drop_eq_nil_of_le (by rw [HL.out]; omega)]; rfl
end Go.Proofs.YtflcnehhpmjipaaGreatDoor
namespace Go.Proofs.YtflcnehhpmjipaaGreatDoor
open Go.RowKit
structure Env (w : World) : Prop where
 words : ∀ j, j < words.length → w.cell? ⟨0, 0 + j, none⟩ = some (.string (words.getD j ByteArray.empty))
 maxLen : ∃ m : Int, w.cell? ⟨1, 0, none⟩ = some (.int .i64 m)
 size : Nat.max 0 1 + 1 ≤ w.heap.size
theorem Env.below {B : Nat} {w w' : World} (h : Env w) (hb : Below B w w') (hB : Nat.max 0 1 + 1 ≤ B) : Env w' := by
 refine ⟨fun j hj => ?_, ?_, Nat.le_trans h.size hb.size⟩
 ·rw [hb.cell (p := ⟨0, 0 + j, none⟩) (Nat.lt_of_lt_of_le (by decide : 0 < Nat.max 0 1 + 1) hB)]; exact h.words j hj
 ·rw [hb.cell (p := ⟨1, 0, none⟩) (Nat.lt_of_lt_of_le (by decide : 1 < Nat.max 0 1 + 1) hB)]; exact h.maxLen
theorem Env.alloc {w : World} (h : Env w) (o : Obj) : Env (w.alloc o) := h.below ((Below.refl w.heap.size w).alloc (Nat.le_refl _) o) h.size
theorem Env.drew {w : World} (h : Env w) : Env w.drew := h.below ((Below.refl w.heap.size w).drew) h.size
theorem Env.setCell {w : World} (h : Env w) {a : Addr} (ha : Nat.max 0 1 + 1 ≤ a.block) (u : Value) : Env (w.setCell a u) := h.below ((Below.refl (Nat.max 0 1 + 1) w).setCell ha u) (Nat.le_refl _)
theorem contains_words (s : ByteArray) (w : World) (he : Env w) :
  Calls Tryz.prog 157 #[.slice (some ⟨0, 0, none⟩) 11 11, .string s] w fun e w' => e = .returned (.bool (reserved s)) ∧ w = w' := by
 refine (Tryz.slices_Contains_string 0 0 11 11 words s w (by decide) (by decide) he.words).mono fun e w' h => ⟨?_, h.2.symm⟩
 rw [h.1]
 refine ret_bool ?_
 rw [Lib.containsS_iff, reserved_iff]; rfl
set_option maxHeartbeats 400000 in
theorem reserved_any (s : ByteArray) (w : World) (he : Env w) :
  Calls Tryz.prog 131 #[.string s] w fun e w' => e = .returned (.bool (reserved s)) ∧ w = w' := by
 go_enter Tryz.func131, Tryz.ntmps131
 go_wp2_with (first | (go_at_call 157; refine (contains_words _ _ he).mono ?_; rintro e w' ⟨rfl, rfl⟩))
 go_ret
 exact ⟨rfl, rfl⟩
theorem extract_takeWhile (s : ByteArray) (p : UInt8 → Bool) : s.extract 0 (s.data.toList.takeWhile p).length = bytes (s.data.toList.takeWhile p) := by
 have := ByteArray.extract_mk s.data.toList 0 (s.data.toList.takeWhile p).length
 rw [show (ByteArray.mk s.data.toList.toArray) = s from by simp] at this
 rw [this, bytes, List.drop_zero, Nat.sub_zero]
 congr 2
 conv => rhs; rw [List.takeWhile_eq_take_findIdx_not]
 rw [List.takeWhile_eq_take_findIdx_not, List.length_take, List.take_eq_take_iff]; omega
set_option maxHeartbeats 400000 in
theorem name_any (s : ByteArray) (w : World) (hs : s.size ≤ 9223372036854775807) (he : Env w) :
  Calls Tryz.prog 97 #[.string s] w fun e w' => e = .returned (.tuple #[.agg #[.int .i64 ((if reserved (bytes (s.data.toList.takeWhile isNam)) then 3 else 1 : Nat) : Int), .string (bytes (s.data.toList.takeWhile isNam)), .int .i64 0, .int .i64 0], .int .i64 ((if 16 < (s.data.toList.takeWhile isNam).length then 3 else 0 : Nat) : Int)]) ∧ Below w.heap.size w w' := by
 have hle : (s.data.toList.takeWhile isNam).length ≤ s.size := (List.takeWhile_sublist _).length_le
 have hx := extract_takeWhile s isNam
 have hsz : (bytes (s.data.toList.takeWhile isNam)).size = (s.data.toList.takeWhile isNam).length := by simp [bytes, ByteArray.size]
 go_enter Tryz.func97, Tryz.ntmps97
 go_wp2_with (first | (go_at_call 129; refine (run_name _ _ hs).mono ?_; rintro e w' ⟨rfl, rfl⟩) | (go_at_call 131; refine (reserved_any _ _ ((he.alloc _).alloc _)).mono ?_; rintro e w' ⟨rfl, rfl⟩))
 all_goals (go_returns; refine ⟨?_, by go_grown⟩)
 all_goals first | rfl | (rw [if_pos (by omega)]; rfl) | (rw [if_neg (by omega)]; rfl)
theorem numL_step (t : ByteArray) (k n : Nat) (hk : k < t.size) (h : numL 0 t.data.toList = numL n (t.data.toList.drop k)) :
  ((9223372036854775807 - (t[k].toNat - 48)) / 10 < n → numL 0 t.data.toList = none) ∧ (¬ (9223372036854775807 - (t[k].toNat - 48)) / 10 < n → numL 0 t.data.toList = numL (10 * n + (t[k].toNat - 48)) (t.data.toList.drop (k + 1))) := by
 rw [drop_cons _ k (by exact hk), numL] at h
 refine ⟨fun hn => ?_, fun hn => ?_⟩
 ·rw [h]; exact if_pos hn
 ·rw [h]; exact if_neg hn
def numR (t : ByteArray) (e : Ending) : Prop := ∃ n : Nat, (n : Int) ≤ 9223372036854775807 ∧ ((numL 0 t.data.toList = none ∧ e = .returned (.tuple #[.agg #[.int .i64 2, .string t, .int .i64 n, .int .i64 0], .int .i64 2])) ∨ (numL 0 t.data.toList = some n ∧ e = .returned (.tuple #[.agg #[.int .i64 2, .string t, .int .i64 n, .int .i64 0], .int .i64 0])))
set_option maxHeartbeats 400000 in
theorem number_any (s : ByteArray) (w : World) (hs : s.size ≤ 9223372036854775807) :
  Calls Tryz.prog 99 #[.string s] w fun e w' => numR (bytes (s.data.toList.takeWhile isDig)) e ∧ Below w.heap.size w w' := by
 have hle : (s.data.toList.takeWhile isDig).length ≤ s.size := (List.takeWhile_sublist _).length_le
 have hx := extract_takeWhile s isDig
 have hsz : (bytes (s.data.toList.takeWhile isDig)).size = (s.data.toList.takeWhile isDig).length := by simp [bytes, ByteArray.size]
 have hall : ∀ c ∈ (bytes (s.data.toList.takeWhile isDig)).data.toList, isDig c = true := by
  intro c hc; simp only [bytes] at hc; exact (List.all_eq_true.1 (List.all_takeWhile (p := isDig) (l := s.data.toList))) c hc
 generalize hm : (s.data.toList.takeWhile isDig).length = m at *
 generalize ht : bytes (s.data.toList.takeWhile isDig) = t at *
 have HM := Lib.hid hm
 have HT := Lib.hid ht
 have HA := Lib.hid hall
 have HX := Lib.hid hx
 clear hm ht hall
 subst hsz
 go_enter Tryz.func99, Tryz.ntmps99
 go_wp2_with (first | (go_at_call 129; refine (run_digit _ _ hs).mono ?_; rintro e w' ⟨rfl, rfl⟩; rw [HM.out]))
 go_loopw [15] (fun v wr => ∃ k n : Nat, k ≤ t.size ∧ v = .int .i64 k ∧ n ≤ 9223372036854775807 ∧ numL 0 t.data.toList = numL n (t.data.toList.drop k) ∧ wr = (w.alloc (Obj.cells #[Value.int IntKind.i64 0, Value.string { data := #[] }, Value.int IntKind.i64 0, Value.int IntKind.i64 0] 72)).alloc (Obj.cells #[Value.int IntKind.i64 2, Value.string t, Value.int IntKind.i64 n, Value.int IntKind.i64 0] 72)) (fun v _ => t.size - (intOf v).toNat)
 case atStart => exact ⟨0, 0, by omega, rfl, by omega, rfl, rfl⟩
 case round =>
  obtain ⟨k, n, hk, rfl, hn, hv, rfl⟩ := hrel
  by_cases hlt : k < t.size
  ·have hst := numL_step t k n hlt hv
   have hd : isDig t[k] = true := HA.out _ (by simp [ByteArray.getElem_eq_getElem_data])
   have HS := Lib.hid hst
   clear hst hv
   simp only [isDig, decide_eq_true_eq] at hd
   obtain ⟨hd1, hd2⟩ := hd
   by_cases hov : (9223372036854775807 - (t[k].toNat - 48)) / 10 < n
   ·have hov' : (9223372036854775807 - ((t[k].toNat : Int) - 48)) / 10 < (n : Int) := by omega
    have HO := Lib.hid hov
    clear hov
    go_wp2_with fail
    go_returns
    exact ⟨⟨n, by omega, .inl ⟨HS.out.1 HO.out, rfl⟩⟩, by go_grown⟩
   ·have hov' : (n : Int) ≤ (9223372036854775807 - ((t[k].toNat : Int) - 48)) / 10 := by omega
    have HO := Lib.hid hov
    clear hov
    go_wp2_with fail
    go_roundw
    case rel => exact ⟨k + 1, 10 * n + (t[k].toNat - 48), by omega, by go_num, by omega, HS.out.2 HO.out, by congr 5; go_num⟩
    case measure => simp [intOf]; omega
  ·have HV := Lib.hid hv
   clear hv
   go_wp2_with fail
   go_returns
   refine ⟨⟨n, by omega, .inr ⟨?_, rfl⟩⟩, by go_grown⟩
   rw [HV.out, List.drop_eq_nil_of_le (by show t.size ≤ k; omega), numL]
theorem contains_pairs (sub : ByteArray) (w : World) (he : Env w) :
  Calls Tryz.prog 132 #[.string ⟨#[60, 61, 32, 62, 61, 32, 61, 61, 32, 33, 61, 32, 38, 38, 32, 124, 124]⟩, .string sub] w fun e w' => e = .returned (.bool (Lib.contains pairsS sub.data.toList)) ∧ w = w' := by
 obtain ⟨m, hm⟩ := he.maxLen
 exact (Tryz.strings_Contains _ sub m w (by decide) hm).mono fun e w' h => ⟨h.1, h.2.symm⟩
theorem indexByte_singles (c : UInt8) (w : World) :
  Calls Tryz.prog 95 #[.string ⟨#[40, 41, 123, 125, 91, 93, 44, 59, 61, 43, 45, 42, 47, 37, 60, 62, 33]⟩, .int .u8 c.toNat] w fun e w' => e = .returned (.int .i64 (Lib.indexByte singlesL c)) ∧ w = w' := by
 refine (indexByte_any _ _ _).mono fun e w' h => ⟨?_, h.2⟩
 rw [h.1]; congr 3; simp
def signV (s : ByteArray) (n : Nat) : Value := .tuple #[.agg #[.int .i64 (if n = 0 then 0 else 4), .string (bytes (s.data.toList.take n)), .int .i64 0, .int .i64 0], .int .i64 (if n = 0 then 1 else 0)]
theorem extract_take (s : ByteArray) (n : Nat) : s.extract 0 n = bytes (s.data.toList.take n) := by
 have := ByteArray.extract_mk s.data.toList 0 n
 rw [show (ByteArray.mk s.data.toList.toArray) = s from by simp] at this
 rw [this, bytes, List.drop_zero, Nat.sub_zero]
theorem bytes_toList (l : List UInt8) : (bytes l).data.toList = l := by simp [bytes]
set_option maxHeartbeats 400000 in
theorem sign_two (s : ByteArray) (w : World) (he : Env w) (h2 : 1 < s.size) (h0 : ((s[0].toNat : Int) == 32) = false) (h1 : ((s[1].toNat : Int) == 32) = false) (hc : Lib.contains pairsS (s.data.toList.take 2) = true) :
  Calls Tryz.prog 100 #[.string s] w fun e w' => e = .returned (signV s 2) ∧ Below w.heap.size w w' := by
 have h0' : ((s[0].toNat : Int) != 32) = true := by simp at h0 ⊢; exact h0
 have h1' : ((s[1].toNat : Int) != 32) = true := by simp at h1 ⊢; exact h1
 have h2' : (1 : Int) < s.size := by omega
 have hx := extract_take s 2
 have hbd := bytes_toList (s.data.toList.take 2)
 go_enter Tryz.func100, Tryz.ntmps100
 go_wp2_with (first | (go_at_call 132; refine (contains_pairs _ _ (he.alloc _)).mono ?_; rintro e w' ⟨rfl, rfl⟩))
 go_returns
 exact ⟨rfl, by go_grown⟩
inductive NoPair (s : ByteArray) : Prop
 | short (h : (s.size : Int) ≤ 1)
 | first (h2 : (1 : Int) < s.size) (h0 : 0 < s.size) (h : ((s[0].toNat : Int) != 32) = false)
 | second (h2 : (1 : Int) < s.size) (h3 : 1 < s.size) (h0 : ((s[0].toNat : Int) != 32) = true) (h : ((s[1].toNat : Int) != 32) = false)
 | other (h2 : (1 : Int) < s.size) (h3 : 1 < s.size) (h0 : ((s[0].toNat : Int) != 32) = true) (h1 : ((s[1].toNat : Int) != 32) = true) (hc : Lib.contains pairsS (s.data.toList.take 2) = false)
set_option maxHeartbeats 400000 in
theorem sign_one (s : ByteArray) (w : World) (he : Env w) (h2 : 0 < s.size) (hn : NoPair s) (hb : 0 ≤ Lib.indexByte singlesL s[0]) :
  Calls Tryz.prog 100 #[.string s] w fun e w' => e = .returned (signV s 1) ∧ Below w.heap.size w w' := by
 have hx := extract_take s 1
 cases hn
 all_goals
  go_enter Tryz.func100, Tryz.ntmps100
  go_wp2_with (first | (go_at_call 132; refine (contains_pairs _ _ (he.alloc _)).mono ?_; rintro e w' ⟨rfl, rfl⟩) | (go_at_call 95; refine (indexByte_singles _ _).mono ?_; rintro e w' ⟨rfl, rfl⟩))
  go_returns
  exact ⟨rfl, by go_grown⟩
set_option maxHeartbeats 400000 in
theorem sign_none (s : ByteArray) (w : World) (he : Env w) (h2 : 0 < s.size) (hn : NoPair s) (hb : Lib.indexByte singlesL s[0] < 0) :
  Calls Tryz.prog 100 #[.string s] w fun e w' => e = .returned (signV s 0) ∧ Below w.heap.size w w' := by
 have hx := extract_take s 1
 cases hn
 all_goals
  go_enter Tryz.func100, Tryz.ntmps100
  go_wp2_with (first | (go_at_call 132; refine (contains_pairs _ _ (he.alloc _)).mono ?_; rintro e w' ⟨rfl, rfl⟩) | (go_at_call 95; refine (indexByte_singles _ _).mono ?_; rintro e w' ⟨rfl, rfl⟩))
  go_returns
  exact ⟨rfl, by go_grown⟩
theorem ne32 (c : UInt8) : (c ≠ 32 → ((c.toNat : Int) != 32) = true) ∧ (c = 32 → ((c.toNat : Int) != 32) = false) := by
 refine ⟨fun h => ?_, fun h => by subst h; rfl⟩
 simp only [bne_iff_ne, ne_eq]
 intro h3; apply h; apply UInt8.toNat_inj.1; show c.toNat = 32; omega
theorem sign_any (s : ByteArray) (w : World) (he : Env w) (h0 : 0 < s.size) :
  Calls Tryz.prog 100 #[.string s] w fun e w' => e = .returned (signV s (signL s.data.toList)) ∧ Below w.heap.size w w' := by
 have hl : s.data.toList.length = s.size := rfl
 have hcons := drop_cons s.data.toList 0 (by omega)
 rw [List.drop_zero] at hcons
 have key : NoPair s ∧ ¬ (2 ≤ s.data.toList.length ∧ s.data.toList.take 2 ∈ pairsL) → Calls Tryz.prog 100 #[.string s] w fun e w' => e = .returned (signV s (signL s.data.toList)) ∧ Below w.heap.size w w' := by
  rintro ⟨hn, hm⟩
  by_cases hb : Lib.indexByte singlesL s[0] < 0
  ·have := (singles_byte _).1 hb
   rw [show signL s.data.toList = 0 from by rw [hcons] at hm ⊢; exact signL_none hm this]
   exact sign_none s w he h0 hn hb
  ·have : s[0] ∈ singlesL := Classical.byContradiction fun h => hb ((singles_byte _).2 h)
   rw [show signL s.data.toList = 1 from by rw [hcons] at hm ⊢; exact signL_one hm this]
   exact sign_one s w he h0 hn (by omega)
 by_cases h2 : 1 < s.size
 ·have e2 : s.data.toList.take 2 = [s[0], s[1]] := by
   rw [hcons, drop_cons s.data.toList 1 (by omega)]; rfl
  by_cases ha : s[0] = 32
  ·refine key ⟨.first (by omega) h0 ((ne32 _).2 ha), fun h => ?_⟩
   rw [e2] at h; exact (pairs_no_blank _ _ h.2).1 ha
  by_cases hb : s[1] = 32
  ·refine key ⟨.second (by omega) h2 ((ne32 _).1 ha) ((ne32 _).2 hb), fun h => ?_⟩
   rw [e2] at h; exact (pairs_no_blank _ _ h.2).2 hb
  by_cases hc : Lib.contains pairsS (s.data.toList.take 2) = true
  ·have hm : s.data.toList.take 2 ∈ pairsL := by rw [e2] at hc ⊢; exact (pairs_mem _ _ ha hb).1 hc
   rw [signL_two (by omega) hm]
   have h3 := (ne32 _).1 ha
   have h4 := (ne32 _).1 hb
   exact sign_two s w he h2 (by simp at h3 ⊢; exact h3) (by simp at h4 ⊢; exact h4) hc
  ·refine key ⟨.other (by omega) h2 ((ne32 _).1 ha) ((ne32 _).1 hb) (by simpa using hc), fun h => hc ?_⟩
   have hm := h.2
   rw [e2] at hm ⊢; exact (pairs_mem _ _ ha hb).2 hm
 ·exact key ⟨.short (by omega), by rintro ⟨h, _⟩; omega⟩
end Go.Proofs.YtflcnehhpmjipaaGreatDoor
namespace Go.Proofs.YtflcnehhpmjipaaGreatDoor
open Go.RowKit
theorem bcell {W w1 : World} (hb : Below W.heap.size W w1) : (∀ b o, b < W.heap.size → w1.cell? ⟨b, o, none⟩ = W.cell? ⟨b, o, none⟩) ∧ (∀ b o, b < W.heap.size → w1.frozen? ⟨b, o, none⟩ = W.frozen? ⟨b, o, none⟩) :=
 ⟨fun b o h => hb.cell (p := ⟨b, o, none⟩) h, fun b o h => hb.frozen (p := ⟨b, o, none⟩) h⟩
def nextP (l : List UInt8) (k num er : Int) (text : ByteArray) : Prop :=
 (∃ n : Nat, nextL l = .err n ∧ er = n ∧ n ≠ 0) ∨ (∃ kd len nu : Nat, nextL l = .tok kd len nu ∧ er = 0 ∧ k = kd ∧ num = nu ∧ text = bytes (l.take len))
def nextR (l : List UInt8) (e : Ending) : Prop := ∃ (k num er : Int) (text : ByteArray), e = .returned (.tuple #[.agg #[.int .i64 k, .string text, .int .i64 num, .int .i64 0], .int .i64 er]) ∧ nextP l k num er text
theorem takeWhile_take {α : Type} (p : α → Bool) (l : List α) : l.take (l.takeWhile p).length = l.takeWhile p :=
 (List.prefix_iff_eq_take.1 (List.takeWhile_prefix p)).symm
theorem toList_cons (s : ByteArray) (h0 : 0 < s.size) : s.data.toList = s[0] :: s.data.toList.drop 1 := by
 have := drop_cons s.data.toList 0 (by exact h0)
 rw [List.drop_zero] at this; exact this
theorem name_next (s : ByteArray) (w : World) (hs : s.size ≤ 9223372036854775807) (he : Env w) (h0 : 0 < s.size) (hl : isLet s[0] = true) :
  Calls Tryz.prog 97 #[.string s] w fun e w' => nextR s.data.toList e ∧ Below w.heap.size w w' := by
 refine (name_any s w hs he).mono fun e w' ⟨h, hb⟩ => ⟨⟨_, _, _, _, h, ?_⟩, hb⟩
 have hn := nextL_name (c := s[0]) (r := s.data.toList.drop 1) hl
 rw [← toList_cons s h0] at hn
 by_cases h16 : 16 < (s.data.toList.takeWhile isNam).length
 ·rw [if_pos h16] at hn; exact .inl ⟨3, hn, by rw [if_pos h16], by omega⟩
 ·rw [if_neg h16] at hn; exact .inr ⟨_, _, _, hn, by rw [if_neg h16]; rfl, rfl, rfl, by rw [takeWhile_take]⟩
theorem number_next (s : ByteArray) (w : World) (hs : s.size ≤ 9223372036854775807) (h0 : 0 < s.size) (hl : isLet s[0] = false) (hd : isDig s[0] = true) :
  Calls Tryz.prog 99 #[.string s] w fun e w' => nextR s.data.toList e ∧ Below w.heap.size w w' := by
 refine (number_any s w hs).mono fun e w' ⟨h, hb⟩ => ⟨?_, hb⟩
 obtain ⟨n, _, ⟨hn, h⟩ | ⟨hn, h⟩⟩ := h
 ·refine ⟨_, _, _, _, h, .inl ⟨2, ?_, rfl, by omega⟩⟩
  rw [bytes_toList] at hn
  rw [toList_cons s h0] at hn; have hq := nextL_none hl hd hn; rw [← toList_cons s h0] at hq; exact hq
 ·refine ⟨_, _, _, _, h, .inr ⟨2, (s.data.toList.takeWhile isDig).length, n, ?_, rfl, rfl, rfl, by rw [takeWhile_take]⟩⟩
  rw [bytes_toList] at hn
  rw [toList_cons s h0] at hn; have hq := nextL_num hl hd hn; rw [← toList_cons s h0] at hq; exact hq
theorem sign_next (s : ByteArray) (w : World) (he : Env w) (h0 : 0 < s.size) (hl : isLet s[0] = false) (hd : isDig s[0] = false) :
  Calls Tryz.prog 100 #[.string s] w fun e w' => nextR s.data.toList e ∧ Below w.heap.size w w' := by
 refine (sign_any s w he h0).mono fun e w' ⟨h, hb⟩ => ⟨?_, hb⟩
 have hn := nextL_sign (c := s[0]) (r := s.data.toList.drop 1) hl hd
 rw [← toList_cons s h0] at hn
 by_cases hz : signL s.data.toList = 0
 ·rw [if_pos hz] at hn
  rw [hz] at h; exact ⟨_, _, _, _, h, .inl ⟨1, hn, rfl, by omega⟩⟩
 ·rw [if_neg hz] at hn
  refine ⟨_, _, _, _, h, .inr ⟨_, _, _, hn, by rw [if_neg hz], by rw [if_neg hz]; rfl, rfl, rfl⟩⟩
set_option maxHeartbeats 400000 in
theorem next_any (s : ByteArray) (w : World) (hs : s.size ≤ 9223372036854775807) (he : Env w) (h0 : 0 < s.size) :
  Calls Tryz.prog 65 #[.string s] w fun e w' => nextR s.data.toList e ∧ Below w.heap.size w w' := by
 by_cases hl : isLet s[0] = true
 ·go_enter Tryz.func65, Tryz.ntmps65
  go_wp2_with (first | (go_at_call 96; refine (letter_any _ _).mono ?_; rintro e w' ⟨rfl, rfl⟩) | (go_at_call 97; refine (name_next _ _ hs (he.alloc _) h0 hl).mono ?_; rintro e w' ⟨⟨k, num, er, text, rfl, hR⟩, hb⟩; have HR := Lib.hid hR; clear hR; obtain ⟨hc, hf⟩ := bcell hb))
  refine bodyPost_ret (v := .tuple #[.agg #[.int .i64 k, .string text, .int .i64 num, .int .i64 0], .int .i64 er]) (by simp [results, Tryz.results65, go_sem, hc]) rfl ?_
  exact ⟨⟨_, _, _, _, rfl, HR.out⟩, ((((Below.refl _ _).alloc (Nat.le_refl _) _).trans (hb.mono (by simp))).setCell (by simp) _).setCell (by simp) _ |>.setCell (by simp) _ |>.setCell (by simp) _⟩
 have hl' : isLet s[0] = false := by simpa using hl
 clear hl
 by_cases hd : isDig s[0] = true
 ·go_enter Tryz.func65, Tryz.ntmps65
  go_wp2_with (first | (go_at_call 96; refine (letter_any _ _).mono ?_; rintro e w' ⟨rfl, rfl⟩) | (go_at_call 98; refine (digit_any _ _).mono ?_; rintro e w' ⟨rfl, rfl⟩) | (go_at_call 99; refine (number_next _ _ hs h0 hl' hd).mono ?_; rintro e w' ⟨⟨k, num, er, text, rfl, hR⟩, hb⟩; have HR := Lib.hid hR; clear hR; obtain ⟨hc, hf⟩ := bcell hb))
  refine bodyPost_ret (v := .tuple #[.agg #[.int .i64 k, .string text, .int .i64 num, .int .i64 0], .int .i64 er]) (by simp [results, Tryz.results65, go_sem, hc]) rfl ?_
  exact ⟨⟨_, _, _, _, rfl, HR.out⟩, ((((Below.refl _ _).alloc (Nat.le_refl _) _).trans (hb.mono (by simp))).setCell (by simp) _).setCell (by simp) _ |>.setCell (by simp) _ |>.setCell (by simp) _⟩
 have hd' : isDig s[0] = false := by simpa using hd
 clear hd
 ·go_enter Tryz.func65, Tryz.ntmps65
  go_wp2_with (first | (go_at_call 96; refine (letter_any _ _).mono ?_; rintro e w' ⟨rfl, rfl⟩) | (go_at_call 98; refine (digit_any _ _).mono ?_; rintro e w' ⟨rfl, rfl⟩) | (go_at_call 100; refine (sign_next _ _ (he.alloc _) h0 hl' hd').mono ?_; rintro e w' ⟨⟨k, num, er, text, rfl, hR⟩, hb⟩; have HR := Lib.hid hR; clear hR; obtain ⟨hc, hf⟩ := bcell hb))
  refine bodyPost_ret (v := .tuple #[.agg #[.int .i64 k, .string text, .int .i64 num, .int .i64 0], .int .i64 er]) (by simp [results, Tryz.results65, go_sem, hc]) rfl ?_
  exact ⟨⟨_, _, _, _, rfl, HR.out⟩, ((((Below.refl _ _).alloc (Nat.le_refl _) _).trans (hb.mono (by simp))).setCell (by simp) _).setCell (by simp) _ |>.setCell (by simp) _ |>.setCell (by simp) _⟩
end Go.Proofs.YtflcnehhpmjipaaGreatDoor
