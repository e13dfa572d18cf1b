/-
  Walks over token.Reserved, name, number, sign, next: what each returns. Conditions: the package's table of words holds its words; sizes within Go's reach.
-/
import Derived.Test.YtecldppicmbecaaDoorLexWalks
namespace Go.Proofs.YtecldppicmbecaaDoor
open Go.RowKit

/-- WHAT THE PACKAGE-LEVEL VARIABLES HOLD -/
structure Env (w : World) : Prop where
  words : ∀ j, j < words.length → w.cell? ⟨0, 0 + j, none⟩ = some (.string (words.getD j ByteArray.empty))
  maxLen : ∃ m : Int, w.cell? ⟨1, 0, none⟩ = some (.int .i64 m)
  size : 2 ≤ w.heap.size
theorem Env.below {B : Nat} {w w' : World} (h : Env w) (hb : Below B w w') (hB : 2 ≤ B) : Env w' := by
  refine ⟨fun j hj => ?_, ?_, Nat.le_trans h.size hb.size⟩
  · rw [hb.cell (p := ⟨0, 0 + j, none⟩) (Nat.lt_of_lt_of_le (by decide : 0 < 2) hB)]; exact h.words j hj
  · rw [hb.cell (p := ⟨1, 0, none⟩) (Nat.lt_of_lt_of_le (by decide : 1 < 2) hB)]; exact h.maxLen

theorem Env.alloc {w : World} (h : Env w) (o : Obj) : Env (w.alloc o) := h.below ((Below.refl w.heap.size w).alloc (Nat.le_refl _) o) h.size
theorem Env.drew {w : World} (h : Env w) : Env w.drew := h.below ((Below.refl w.heap.size w).drew) h.size
theorem Env.setCell {w : World} (h : Env w) {a : Addr} (ha : 2 ≤ a.block) (u : Value) : Env (w.setCell a u) := h.below ((Below.refl 2 w).setCell ha u) (Nat.le_refl _)

theorem contains_words (s : ByteArray) (w : World) (he : Env w) :
    Calls Tryd.prog 33 #[.slice (some ⟨0, 0, none⟩) 11 11, .string s] w fun e w' => e = .returned (.bool (reserved s)) ∧ w = w' := by
  refine (Tryd.slices_Contains_string 0 0 11 11 words s w (by decide) (by decide) he.words).mono fun e w' h => ⟨?_, h.2.symm⟩
  rw [h.1]
  refine ret_bool ?_
  rw [Lib.containsS_iff, reserved_iff]; rfl

set_option maxHeartbeats 400000 in
theorem reserved_any (s : ByteArray) (w : World) (he : Env w) :
    Calls Tryd.prog 21 #[.string s] w fun e w' => e = .returned (.bool (reserved s)) ∧ w = w' := by
  go_enter Tryd.func21, Tryd.ntmps21
  go_wp2_with (first | (go_at_call 33; refine (contains_words _ _ he).mono ?_; rintro e w' ⟨rfl, rfl⟩))
  go_ret
  exact ⟨rfl, rfl⟩

theorem extract_takeWhile (s : ByteArray) (p : UInt8 → Bool) : s.extract 0 (s.data.toList.takeWhile p).length = bytes (s.data.toList.takeWhile p) := by
  have := ByteArray.extract_mk s.data.toList 0 (s.data.toList.takeWhile p).length
  rw [show (ByteArray.mk s.data.toList.toArray) = s from by simp] at this
  rw [this, bytes, List.drop_zero, Nat.sub_zero]
  congr 2
  conv => rhs; rw [List.takeWhile_eq_take_findIdx_not]
  rw [List.takeWhile_eq_take_findIdx_not, List.length_take, List.take_eq_take_iff]; omega

set_option maxHeartbeats 400000 in
theorem name_any (s : ByteArray) (w : World) (hs : s.size ≤ 9223372036854775807) (he : Env w) :
    Calls Tryd.prog 42 #[.string s] w fun e w' => e = .returned (.tuple #[.agg #[.int .i64 ((if reserved (bytes (s.data.toList.takeWhile isNam)) then 3 else 1 : Nat) : Int), .string (bytes (s.data.toList.takeWhile isNam)), .int .i64 0, .int .i64 0], .int .i64 ((if 16 < (s.data.toList.takeWhile isNam).length then 3 else 0 : Nat) : Int)]) ∧ Below w.heap.size w w' := by
  have hle : (s.data.toList.takeWhile isNam).length ≤ s.size := (List.takeWhile_sublist _).length_le
  have hx := extract_takeWhile s isNam
  have hsz : (bytes (s.data.toList.takeWhile isNam)).size = (s.data.toList.takeWhile isNam).length := by simp [bytes, ByteArray.size]
  go_enter Tryd.func42, Tryd.ntmps42
  go_wp2_with (first | (go_at_call 59; refine (run_name _ _ hs).mono ?_; rintro e w' ⟨rfl, rfl⟩) | (go_at_call 21; refine (reserved_any _ _ ((he.alloc _).alloc _)).mono ?_; rintro e w' ⟨rfl, rfl⟩))
  all_goals (go_returns; refine ⟨?_, by go_grown⟩)
  all_goals first | rfl | (rw [if_pos (by omega)]; rfl) | (rw [if_neg (by omega)]; rfl)

theorem numL_step (t : ByteArray) (k n : Nat) (hk : k < t.size) (h : numL 0 t.data.toList = numL n (t.data.toList.drop k)) :
    ((9223372036854775807 - (t[k].toNat - 48)) / 10 < n → numL 0 t.data.toList = none) ∧ (¬ (9223372036854775807 - (t[k].toNat - 48)) / 10 < n → numL 0 t.data.toList = numL (10 * n + (t[k].toNat - 48)) (t.data.toList.drop (k + 1))) := by
  rw [drop_cons _ k (by exact hk), numL] at h
  refine ⟨fun hn => ?_, fun hn => ?_⟩
  · rw [h]; exact if_pos hn
  · rw [h]; exact if_neg hn

def numR (t : ByteArray) (e : Ending) : Prop := ∃ n : Nat, (n : Int) ≤ 9223372036854775807 ∧ ((numL 0 t.data.toList = none ∧ e = .returned (.tuple #[.agg #[.int .i64 2, .string t, .int .i64 n, .int .i64 0], .int .i64 2])) ∨ (numL 0 t.data.toList = some n ∧ e = .returned (.tuple #[.agg #[.int .i64 2, .string t, .int .i64 n, .int .i64 0], .int .i64 0])))
set_option maxHeartbeats 400000 in
theorem number_any (s : ByteArray) (w : World) (hs : s.size ≤ 9223372036854775807) :
    Calls Tryd.prog 44 #[.string s] w fun e w' => numR (bytes (s.data.toList.takeWhile isDig)) e ∧ Below w.heap.size w w' := by
  have hle : (s.data.toList.takeWhile isDig).length ≤ s.size := (List.takeWhile_sublist _).length_le
  have hx := extract_takeWhile s isDig
  have hsz : (bytes (s.data.toList.takeWhile isDig)).size = (s.data.toList.takeWhile isDig).length := by simp [bytes, ByteArray.size]
  have hall : ∀ c ∈ (bytes (s.data.toList.takeWhile isDig)).data.toList, isDig c = true := by
    intro c hc; simp only [bytes] at hc; exact (List.all_eq_true.1 (List.all_takeWhile (p := isDig) (l := s.data.toList))) c hc
  generalize hm : (s.data.toList.takeWhile isDig).length = m at *
  generalize ht : bytes (s.data.toList.takeWhile isDig) = t at *
  have HM := Lib.hid hm
  have HT := Lib.hid ht
  have HA := Lib.hid hall
  have HX := Lib.hid hx
  clear hm ht hall
  subst hsz
  go_enter Tryd.func44, Tryd.ntmps44
  go_wp2_with (first | (go_at_call 59; refine (run_digit _ _ hs).mono ?_; rintro e w' ⟨rfl, rfl⟩; rw [HM.out]))
  go_loopw [15] (fun v wr => ∃ k n : Nat, k ≤ t.size ∧ v = .int .i64 k ∧ n ≤ 9223372036854775807 ∧ numL 0 t.data.toList = numL n (t.data.toList.drop k) ∧ wr = (w.alloc (Obj.cells #[Value.int IntKind.i64 0, Value.string { data := #[] }, Value.int IntKind.i64 0, Value.int IntKind.i64 0] 35)).alloc (Obj.cells #[Value.int IntKind.i64 2, Value.string t, Value.int IntKind.i64 n, Value.int IntKind.i64 0] 35)) (fun v _ => t.size - (intOf v).toNat)
  case atStart => exact ⟨0, 0, by omega, rfl, by omega, rfl, rfl⟩
  case round =>
    obtain ⟨k, n, hk, rfl, hn, hv, rfl⟩ := hrel
    by_cases hlt : k < t.size
    · have hst := numL_step t k n hlt hv
      have hd : isDig t[k] = true := HA.out _ (by simp [ByteArray.getElem_eq_getElem_data])
      have HS := Lib.hid hst
      clear hst hv
      simp only [isDig, decide_eq_true_eq] at hd
      obtain ⟨hd1, hd2⟩ := hd
      by_cases hov : (9223372036854775807 - (t[k].toNat - 48)) / 10 < n
      · have hov' : (9223372036854775807 - ((t[k].toNat : Int) - 48)) / 10 < (n : Int) := by omega
        have HO := Lib.hid hov
        clear hov
        go_wp2_with fail
        go_returns
        exact ⟨⟨n, by omega, .inl ⟨HS.out.1 HO.out, rfl⟩⟩, by go_grown⟩
      · have hov' : (n : Int) ≤ (9223372036854775807 - ((t[k].toNat : Int) - 48)) / 10 := by omega
        have HO := Lib.hid hov
        clear hov
        go_wp2_with fail
        go_roundw
        case rel => exact ⟨k + 1, 10 * n + (t[k].toNat - 48), by omega, by go_num, by omega, HS.out.2 HO.out, by congr 5; go_num⟩
        case measure => simp [intOf]; omega
    · have HV := Lib.hid hv
      clear hv
      go_wp2_with fail
      go_returns
      refine ⟨⟨n, by omega, .inr ⟨?_, rfl⟩⟩, by go_grown⟩
      rw [HV.out, List.drop_eq_nil_of_le (by show t.size ≤ k; omega), numL]
theorem contains_pairs (sub : ByteArray) (w : World) (he : Env w) :
    Calls Tryd.prog 61 #[.string ⟨#[60, 61, 32, 62, 61, 32, 61, 61, 32, 33, 61, 32, 38, 38, 32, 124, 124]⟩, .string sub] w fun e w' => e = .returned (.bool (Lib.contains pairsS sub.data.toList)) ∧ w = w' := by
  obtain ⟨m, hm⟩ := he.maxLen
  exact (Tryd.strings_Contains _ sub m w (by decide) hm).mono fun e w' h => ⟨h.1, h.2.symm⟩

theorem indexByte_singles (c : UInt8) (w : World) :
    Calls Tryd.prog 40 #[.string ⟨#[40, 41, 123, 125, 91, 93, 44, 59, 61, 43, 45, 42, 47, 37, 60, 62, 33]⟩, .int .u8 c.toNat] w fun e w' => e = .returned (.int .i64 (Lib.indexByte singlesL c)) ∧ w = w' := by
  refine (indexByte_any _ _ _).mono fun e w' h => ⟨?_, h.2⟩
  rw [h.1]; congr 3; simp

def signV (s : ByteArray) (n : Nat) : Value := .tuple #[.agg #[.int .i64 (if n = 0 then 0 else 4), .string (bytes (s.data.toList.take n)), .int .i64 0, .int .i64 0], .int .i64 (if n = 0 then 1 else 0)]
theorem extract_take (s : ByteArray) (n : Nat) : s.extract 0 n = bytes (s.data.toList.take n) := by
  have := ByteArray.extract_mk s.data.toList 0 n
  rw [show (ByteArray.mk s.data.toList.toArray) = s from by simp] at this
  rw [this, bytes, List.drop_zero, Nat.sub_zero]
theorem bytes_toList (l : List UInt8) : (bytes l).data.toList = l := by simp [bytes]
set_option maxHeartbeats 400000 in
theorem sign_two (s : ByteArray) (w : World) (he : Env w) (h2 : 1 < s.size) (h0 : ((s[0].toNat : Int) == 32) = false) (h1 : ((s[1].toNat : Int) == 32) = false) (hc : Lib.contains pairsS (s.data.toList.take 2) = true) :
    Calls Tryd.prog 45 #[.string s] w fun e w' => e = .returned (signV s 2) ∧ Below w.heap.size w w' := by
  have h0' : ((s[0].toNat : Int) != 32) = true := by simp at h0 ⊢; exact h0
  have h1' : ((s[1].toNat : Int) != 32) = true := by simp at h1 ⊢; exact h1
  have h2' : (1 : Int) < s.size := by omega
  have hx := extract_take s 2
  have hbd := bytes_toList (s.data.toList.take 2)
  go_enter Tryd.func45, Tryd.ntmps45
  go_wp2_with (first | (go_at_call 61; refine (contains_pairs _ _ (he.alloc _)).mono ?_; rintro e w' ⟨rfl, rfl⟩))
  go_returns
  exact ⟨rfl, by go_grown⟩
/-- where no sign of two bytes begins: in four ways -/
inductive NoPair (s : ByteArray) : Prop
  | short (h : (s.size : Int) ≤ 1)
  | first (h2 : (1 : Int) < s.size) (h0 : 0 < s.size) (h : ((s[0].toNat : Int) != 32) = false)
  | second (h2 : (1 : Int) < s.size) (h3 : 1 < s.size) (h0 : ((s[0].toNat : Int) != 32) = true) (h : ((s[1].toNat : Int) != 32) = false)
  | other (h2 : (1 : Int) < s.size) (h3 : 1 < s.size) (h0 : ((s[0].toNat : Int) != 32) = true) (h1 : ((s[1].toNat : Int) != 32) = true) (hc : Lib.contains pairsS (s.data.toList.take 2) = false)
set_option maxHeartbeats 400000 in
theorem sign_one (s : ByteArray) (w : World) (he : Env w) (h2 : 0 < s.size) (hn : NoPair s) (hb : 0 ≤ Lib.indexByte singlesL s[0]) :
    Calls Tryd.prog 45 #[.string s] w fun e w' => e = .returned (signV s 1) ∧ Below w.heap.size w w' := by
  have hx := extract_take s 1
  cases hn
  all_goals
    go_enter Tryd.func45, Tryd.ntmps45
    go_wp2_with (first | (go_at_call 61; refine (contains_pairs _ _ (he.alloc _)).mono ?_; rintro e w' ⟨rfl, rfl⟩) | (go_at_call 40; refine (indexByte_singles _ _).mono ?_; rintro e w' ⟨rfl, rfl⟩))
    go_returns
    exact ⟨rfl, by go_grown⟩
set_option maxHeartbeats 400000 in
theorem sign_none (s : ByteArray) (w : World) (he : Env w) (h2 : 0 < s.size) (hn : NoPair s) (hb : Lib.indexByte singlesL s[0] < 0) :
    Calls Tryd.prog 45 #[.string s] w fun e w' => e = .returned (signV s 0) ∧ Below w.heap.size w w' := by
  have hx := extract_take s 1
  cases hn
  all_goals
    go_enter Tryd.func45, Tryd.ntmps45
    go_wp2_with (first | (go_at_call 61; refine (contains_pairs _ _ (he.alloc _)).mono ?_; rintro e w' ⟨rfl, rfl⟩) | (go_at_call 40; refine (indexByte_singles _ _).mono ?_; rintro e w' ⟨rfl, rfl⟩))
    go_returns
    exact ⟨rfl, by go_grown⟩
theorem ne32 (c : UInt8) : (c ≠ 32 → ((c.toNat : Int) != 32) = true) ∧ (c = 32 → ((c.toNat : Int) != 32) = false) := by
  refine ⟨fun h => ?_, fun h => by subst h; rfl⟩
  simp only [bne_iff_ne, ne_eq]
  intro h3; apply h; apply UInt8.toNat_inj.1; show c.toNat = 32; omega
theorem sign_any (s : ByteArray) (w : World) (he : Env w) (h0 : 0 < s.size) :
    Calls Tryd.prog 45 #[.string s] w fun e w' => e = .returned (signV s (signL s.data.toList)) ∧ Below w.heap.size w w' := by
  have hl : s.data.toList.length = s.size := rfl
  have hcons := drop_cons s.data.toList 0 (by omega)
  rw [List.drop_zero] at hcons
  have key : NoPair s ∧ ¬ (2 ≤ s.data.toList.length ∧ s.data.toList.take 2 ∈ pairsL) → Calls Tryd.prog 45 #[.string s] w fun e w' => e = .returned (signV s (signL s.data.toList)) ∧ Below w.heap.size w w' := by
    rintro ⟨hn, hm⟩
    by_cases hb : Lib.indexByte singlesL s[0] < 0
    · have := (singles_byte _).1 hb
      rw [show signL s.data.toList = 0 from by rw [hcons] at hm ⊢; exact signL_none hm this]
      exact sign_none s w he h0 hn hb
    · have : s[0] ∈ singlesL := Classical.byContradiction fun h => hb ((singles_byte _).2 h)
      rw [show signL s.data.toList = 1 from by rw [hcons] at hm ⊢; exact signL_one hm this]
      exact sign_one s w he h0 hn (by omega)
  by_cases h2 : 1 < s.size
  · have e2 : s.data.toList.take 2 = [s[0], s[1]] := by
      rw [hcons, drop_cons s.data.toList 1 (by omega)]; rfl
    by_cases ha : s[0] = 32
    · refine key ⟨.first (by omega) h0 ((ne32 _).2 ha), fun h => ?_⟩
      rw [e2] at h; exact (pairs_no_blank _ _ h.2).1 ha
    by_cases hb : s[1] = 32
    · refine key ⟨.second (by omega) h2 ((ne32 _).1 ha) ((ne32 _).2 hb), fun h => ?_⟩
      rw [e2] at h; exact (pairs_no_blank _ _ h.2).2 hb
    by_cases hc : Lib.contains pairsS (s.data.toList.take 2) = true
    · have hm : s.data.toList.take 2 ∈ pairsL := by rw [e2] at hc ⊢; exact (pairs_mem _ _ ha hb).1 hc
      rw [signL_two (by omega) hm]
      have h3 := (ne32 _).1 ha
      have h4 := (ne32 _).1 hb
      exact sign_two s w he h2 (by simp at h3 ⊢; exact h3) (by simp at h4 ⊢; exact h4) hc
    · refine key ⟨.other (by omega) h2 ((ne32 _).1 ha) ((ne32 _).1 hb) (by simpa using hc), fun h => hc ?_⟩
      have hm := h.2
      rw [e2] at hm ⊢; exact (pairs_mem _ _ ha hb).2 hm
  · exact key ⟨.short (by omega), by rintro ⟨h, _⟩; omega⟩

end Go.Proofs.YtecldppicmbecaaDoor
