/-
  The walk over lockorderlaw01.TokenNumbers: for every number it returns true. Condition: the package's table of words.
-/
import Derived.Test.YtecldppicmbecaaDoorStr
import Derived.Test.YtecldppicmbecaaDoorWithin
import Derived.Test.YtecldppicmbecaaDoorPlainNum
namespace Go.Proofs.YtecldppicmbecaaDoor
open Go.RowKit

theorem conv_one (w : World) (c : UInt8) : (convert 22 9 (.slice (some ⟨w.heap.size, 0, none⟩) 1 1)).run Tryd.prog (w.alloc (.cells #[.int .u8 c.toNat] 5)) = .ok (.string (bytes [c])) (w.alloc (.cells #[.int .u8 c.toNat] 5)) :=
  conv_row [c] (some ⟨w.heap.size, 0, none⟩) 1 _ (.inr ⟨w.heap.size, 0, rfl, fun j u hu => by
    have := new_cells w (bcells [c]) 5 j u hu
    have e : (⟨w.heap.size, 0, none⟩ : Addr).add j = ⟨w.heap.size, 0 + j, none⟩ := by unfold Addr.add; split <;> simp_all
    rw [e] at this; exact this⟩)

def tnR (n : Nat) (w : World) (u v : Value) (wr : World) : Prop := ∃ (k : Nat) (t : ByteArray), v = .int .u64 k ∧ u = .string t ∧ (∀ c ∈ t.data.toList, isDig c = true) ∧ t.size ≤ 20 ∧ n = k * 10 ^ t.size + valL 0 t.data.toList ∧ Below w.heap.size w wr
def emptyV : Value → Nat
  | .string t => if t.size = 0 then 1 else 0
  | _ => 0
/-- the zeros are put in front -/
def tzR (V : Nat) (w : World) (u v : Value) (wr : World) : Prop := ∃ (i : Nat) (s : ByteArray), v = .int .i64 i ∧ u = .string s ∧ (∀ c ∈ s.data.toList, isDig c = true) ∧ 0 < s.size ∧ s.size ≤ 21 + i ∧ i ≤ 30 ∧ valL 0 s.data.toList = V ∧ Below w.heap.size w wr
theorem zero_front (s : ByteArray) : valL 0 (bytes [48] ++ s).data.toList = valL 0 s.data.toList := by
  rw [show (bytes [48] ++ s).data.toList = 48 :: s.data.toList by simp [bytes], valL_front]
  rw [show ((48 : UInt8).toNat - 48) = 0 from rfl]; omega
theorem zero_back (s : ByteArray) : valL 0 (s ++ bytes [48]).data.toList = 10 * valL 0 s.data.toList := by
  rw [show (s ++ bytes [48]).data.toList = s.data.toList ++ [48] by simp [bytes], valL_back]
  rw [show ((48 : UInt8).toNat - 48) = 0 from rfl]; omega
/-- what Lex answers for digits -/
theorem lexR_digits {w : World} {s : ByteArray} {v : Value} {p er : Int} (h : LexR w s.data.toList v p er) (hd : ∀ c ∈ s.data.toList, isDig c = true) (h0 : 0 < s.size) (hn : s.size ≤ 262144) :
    (9223372036854775807 < valL 0 s.data.toList ∧ er = 2) ∨ (valL 0 s.data.toList ≤ 9223372036854775807 ∧ er = 0 ∧ ∃ b off c, v = .slice (some ⟨b, off, none⟩) 2 c ∧ 2 ≤ c ∧ w.cell? ⟨b, off, none⟩ = some (.int .i64 2) ∧ w.cell? ⟨b, off + 1, none⟩ = some (.string s) ∧ w.cell? ⟨b, off + 2, none⟩ = some (.int .i64 (valL 0 s.data.toList))) := by
  have hl := lexL_digits hd (by intro h; have h2 : s.size = 0 := (show s.size = s.data.toList.length from rfl).trans (by rw [h]; rfl); omega) hn
  rw [numL_val _ hd 0 (by omega)] at hl
  by_cases hv : valL 0 s.data.toList ≤ 9223372036854775807
  · right
    rw [if_pos hv] at hl
    rcases h with ⟨l, h1, ⟨a, c, rfl, hc, hr⟩, h3, h4, h5⟩ | ⟨a, b, h1, h2, h3, h4, h5⟩
    · rw [hl] at h1; cases h1
      refine ⟨hv, h4, ?_⟩
      rcases hr with h0 | ⟨b, off, rfl, hr⟩
      · exact absurd h0 (by simp [toksCells, Tok.cells])
      · refine ⟨b, off, c, rfl, hc, hr 0 _ rfl, ?_, hr 2 _ rfl⟩
        have := hr 1 _ rfl
        rw [this]; simp [bytes]
    · rw [hl] at h1; cases h1
  · left
    rw [if_neg hv] at hl
    rcases h with ⟨l, h1, _⟩ | ⟨a, b, h1, h2, h3, h4, h5⟩
    · rw [hl] at h1; cases h1
    · rw [hl] at h1; cases h1; exact ⟨by omega, h4⟩

theorem lexR_digitsV {w : World} {s : ByteArray} {v : Value} {p er : Int} (h : LexR w s.data.toList v p er) (hd : ∀ c ∈ s.data.toList, isDig c = true) (h0 : 0 < s.size) (hn : s.size ≤ 262144) {V : Nat} (hV : valL 0 s.data.toList = V) :
    (decide ((V : Int) < 9223372036854775808) = false ∧ er = 2) ∨ (decide ((V : Int) < 9223372036854775808) = true ∧ er = 0 ∧ ∃ b off c, v = .slice (some ⟨b, off, none⟩) 2 c ∧ 2 ≤ c ∧ w.cell? ⟨b, off, none⟩ = some (.int .i64 2) ∧ w.cell? ⟨b, off + 1, none⟩ = some (.string s) ∧ w.cell? ⟨b, off + 2, none⟩ = some (.int .i64 V)) := by
  have := lexR_digits h hd h0 hn
  rw [hV] at this
  rcases this with ⟨h1, h2⟩ | ⟨h1, h2, h3⟩
  · exact .inl ⟨by rw [decide_eq_false_iff_not]; omega, h2⟩
  · exact .inr ⟨by rw [decide_eq_true_eq]; omega, h2, h3⟩
set_option maxRecDepth 100000 in
set_option maxHeartbeats 1600000 in
theorem tokenNumbers_less (n : Nat) (zeros : Int) (w : World) (he : Env w) (hn : n < 18446744073709551616) :
    Calls Tryd.prog 5 #[.int .u64 n, .int .i64 zeros, .bool false] w fun e w' => e = .returned (.bool true) ∧ Below w.heap.size w w' := by
  go_enter Tryd.func5, Tryd.ntmps5
  go_wp2_with fail
  go_loopw [7, 8] (fun u v wr => tnR n w u v wr) (fun u v _ => 2 * (intOf v).toNat + emptyV u)
  case atStart => exact ⟨n, ⟨#[]⟩, rfl, rfl, by simp, by decide, by show n = n * 10 ^ 0 + valL 0 []; rw [valL_nil]; omega, Below.refl _ _⟩
  case round =>
    obtain ⟨k, t, rfl, rfl, hd, hl, hv, hb⟩ := hrel
    have hlen : t.data.toList.length = t.size := rfl
    obtain ⟨c, hcd⟩ : ∃ c, c = UInt8.ofNat (48 + k % 10) := ⟨_, rfl⟩
    have hstep := digit_step n k t.data.toList hv
    have hc : (c.toNat : Int) = 48 + (k : Int) % 10 := by rw [hcd, UInt8.toNat_ofNat']; omega
    have hdg : isDig c = true := by rw [hcd]; exact isDig_of k
    rw [← hcd] at hstep
    clear hcd
    have hcv := conv_one wr c
    rw [hc] at hcv
    have hone : (bytes [c]).size = 1 := rfl
    have hnew : (bytes [c] ++ t).data.toList = c :: t.data.toList := by simp [bytes]
    have hnsz : (bytes [c] ++ t).size = t.size + 1 := by show (bytes [c] ++ t).data.toList.length = _; rw [hnew, List.length_cons, hlen]
    have hfew : 0 < k → t.size < 20 := fun hk => few_digits n k _ _ hn hk hv
    have hkb : (k : Int) ≤ 18446744073709551615 := by
      have : k ≤ k * 10 ^ t.size := Nat.le_mul_of_pos_right _ (Nat.pow_pos (by omega))
      omega
    have hdn : ∀ d ∈ (bytes [c] ++ t).data.toList, isDig d = true := by
      rw [hnew]; intro d hd'
      rcases List.mem_cons.1 hd' with rfl | h
      · exact hdg
      · exact hd d h
    have hvn : n = k / 10 * 10 ^ (bytes [c] ++ t).size + valL 0 (bytes [c] ++ t).data.toList := by
      rw [hnew, hnsz]; exact hstep
    have HD := Lib.hid hd
    have HV := Lib.hid hv
    have HDN := Lib.hid hdn
    have HVN := Lib.hid hvn
    have HSZ := Lib.hid hnsz
    clear hd hv hlen hstep hc hnew hdn hvn hnsz hdg
    have z1 : ((bytes [c]).size : Int) ≤ 8388608 := by rw [hone]; decide
    have z2 : (t.size : Int) ≤ 8388608 := by omega
    have hsz := hb.size
    clear hone
    by_cases hk : 0 < k
    · have g1 : (0 : Int) < k := by omega
      have hf := hfew hk
      clear hfew
      go_wp2_with fail
      go_roundw
      case rel => exact ⟨k / 10, _, by go_num, rfl, HDN.out, by rw [HSZ.out]; omega, HVN.out, by go_grown⟩
      case measure => simp [intOf, emptyV, HSZ.out]; omega
    · have g1 : (k : Int) ≤ 0 := by omega
      have HK := Lib.hid (show k = 0 by omega)
      clear hfew hk
      have z3 : ((bytes [48]).size : Int) ≤ 8388608 := by decide
      have z4 : ((⟨#[48]⟩ : ByteArray).size : Int) ≤ 8388608 := by decide
      by_cases ht : t.size = 0
      · have te : t.toList.isEmpty = true := by rw [ByteArray.toList_eq, List.isEmpty_iff]; exact List.eq_nil_of_length_eq_zero ht
        have HT := Lib.hid ht
        have hcv0 : (convert 22 9 (.slice (some ⟨wr.heap.size, 0, none⟩) 1 1)).run Tryd.prog (wr.alloc (.cells #[.int .u8 48] 5)) = .ok (.string (bytes [48])) (wr.alloc (.cells #[.int .u8 48] 5)) := conv_one wr 48
        have hr0 : tnR n w (.string (bytes [48] ++ t)) (.int .i64 0) (wr.alloc (.cells #[.int .u8 48] 5)) ∨ True := .inr trivial
        have htl : t.data.toList = [] := List.eq_nil_of_length_eq_zero ht
        have HTL := Lib.hid htl
        clear hcv ht htl hr0
        go_wp2_with fail
        go_roundw
        case rel =>
          have e : (bytes [48] ++ t).data.toList = [48] := by simp [bytes, HTL.out]
          refine ⟨0, _, rfl, rfl, by rw [e]; decide, by rw [show (bytes [48] ++ t).size = (bytes [48] ++ t).data.toList.length from rfl, e]; decide, ?_, by go_grown⟩
          have h := HV.out
          rw [HK.out, HTL.out] at h
          rw [e, h]; simp [valL_nil, valL_front]
        case measure =>
          have e : (bytes [48] ++ t).size = 1 := by rw [show (bytes [48] ++ t).size = (bytes [48] ++ t).data.toList.length from rfl]; simp [bytes, HTL.out]
          simp [intOf, emptyV, e, HT.out]
      · have te : t.toList.isEmpty = false := by rw [ByteArray.toList_eq, Bool.eq_false_iff, ne_eq, List.isEmpty_iff]; intro h; apply ht; exact congrArg List.length h
        have hV : valL 0 t.data.toList = n := by have h := HV.out; rw [HK.out] at h; omega
        have HVV := Lib.hid hV
        have HT := Lib.hid ht
        clear ht hV hcv
        go_wp2_with fail
        go_loopw [7, 9] (fun u v wr2 => tzR n w u v wr2) (fun _ v _ => 31 - (intOf v).toNat)
        case atStart => exact ⟨0, t, rfl, rfl, HD.out, by have := HT.out; omega, by omega, by omega, HVV.out, hb⟩
        case round =>
          obtain ⟨i, s, rfl, rfl, hds, hs0, hsl, hi, hvs, hb2⟩ := hrel
          have hz1 : 0 ≤ zeros % 30 := Int.emod_nonneg zeros (by omega)
          have hz2 : zeros % 30 < 30 := Int.emod_lt_of_pos zeros (by omega)
          have z5 : (s.size : Int) ≤ 8388608 := by omega
          have hsz2 := hb2.size
          have HDS := Lib.hid hds
          have HVS := Lib.hid hvs
          clear hds hvs
          by_cases hlt : (i : Int) < zeros % 30
          · go_wp2_with (go_at_call 13; ((with_reducible refine (within_any zeros 30 _ (by omega) (by omega)).mono ?_); rintro e w' ⟨rfl, rfl⟩))
            go_roundw
            case rel =>
              have e : (bytes [48] ++ s).data.toList = 48 :: s.data.toList := by simp [bytes]
              have e2 : (bytes [48] ++ s).size = s.size + 1 := by rw [show (bytes [48] ++ s).size = (bytes [48] ++ s).data.toList.length from rfl, e]; rfl
              refine ⟨i + 1, bytes [48] ++ s, by go_num, rfl, ?_, by omega, by omega, by omega, by rw [zero_front]; exact HVS.out, hb2⟩
              rw [e]; intro d hd'
              rcases List.mem_cons.1 hd' with rfl | h
              · decide
              · exact HDS.out d h
            case measure => simp [intOf]; omega
          · have hbs := bytes_of
            have n2 := strNe_false (rfl : s = s)
            have n3 : ((n : Int) != n) = false := by simp
            have hw : IntKind.u64.wrap (n : Int) = n := IntWalk.u64_in _ (by omega)
            have HN := Lib.hid hn
            clear hn hkb
            go_wp2_with (first | (go_at_call 13; ((with_reducible refine (within_any zeros 30 _ (by omega) (by omega)).mono ?_); rintro e w' ⟨rfl, rfl⟩)) | (go_at_call 14; ((with_reducible refine (lex_str s _ (he.below (by go_grown) he.size) (by omega) _ rfl _).mono ?_); rintro e w1 ⟨⟨v, p, er, rfl, hR⟩, hb3⟩; have hB := Below.step (w := w) (by go_grown) hb3; obtain ⟨d1, rfl⟩ | ⟨d1, rfl, b, off, c, rfl, hc2, q1, q2, q3⟩ := lexR_digitsV hR HDS.out hs0 (by omega) HVS.out)) | (go_at_call 10; ((with_reducible refine (same_str s _ (he.below (by go_grown) he.size) (by omega) _ rfl _).mono ?_); rintro e w2 ⟨rfl, hb4⟩; have hB2 := Below.step (w := w) (by go_grown) hb4)) | (go_at_call 11; ((with_reducible refine (awake_any _ (he.below (by go_grown) he.size)).mono ?_); rintro e w3 ⟨rfl, hb5⟩; have hB3 := Below.step (w := w) (by go_grown) hb5)))
            all_goals (go_ret; exact ⟨rfl, hB3⟩)
set_option maxRecDepth 100000 in
set_option maxHeartbeats 1600000 in
theorem tokenNumbers_more (n : Nat) (zeros : Int) (w : World) (he : Env w) (hn : n < 18446744073709551616) :
    Calls Tryd.prog 5 #[.int .u64 n, .int .i64 zeros, .bool true] w fun e w' => e = .returned (.bool true) ∧ Below w.heap.size w w' := by
  go_enter Tryd.func5, Tryd.ntmps5
  go_wp2_with fail
  go_loopw [7, 8] (fun u v wr => tnR n w u v wr) (fun u v _ => 2 * (intOf v).toNat + emptyV u)
  case atStart => exact ⟨n, ⟨#[]⟩, rfl, rfl, by simp, by decide, by show n = n * 10 ^ 0 + valL 0 []; rw [valL_nil]; omega, Below.refl _ _⟩
  case round =>
    obtain ⟨k, t, rfl, rfl, hd, hl, hv, hb⟩ := hrel
    have hlen : t.data.toList.length = t.size := rfl
    obtain ⟨c, hcd⟩ : ∃ c, c = UInt8.ofNat (48 + k % 10) := ⟨_, rfl⟩
    have hstep := digit_step n k t.data.toList hv
    have hc : (c.toNat : Int) = 48 + (k : Int) % 10 := by rw [hcd, UInt8.toNat_ofNat']; omega
    have hdg : isDig c = true := by rw [hcd]; exact isDig_of k
    rw [← hcd] at hstep
    clear hcd
    have hcv := conv_one wr c
    rw [hc] at hcv
    have hone : (bytes [c]).size = 1 := rfl
    have hnew : (bytes [c] ++ t).data.toList = c :: t.data.toList := by simp [bytes]
    have hnsz : (bytes [c] ++ t).size = t.size + 1 := by show (bytes [c] ++ t).data.toList.length = _; rw [hnew, List.length_cons, hlen]
    have hfew : 0 < k → t.size < 20 := fun hk => few_digits n k _ _ hn hk hv
    have hkb : (k : Int) ≤ 18446744073709551615 := by
      have : k ≤ k * 10 ^ t.size := Nat.le_mul_of_pos_right _ (Nat.pow_pos (by omega))
      omega
    have hdn : ∀ d ∈ (bytes [c] ++ t).data.toList, isDig d = true := by
      rw [hnew]; intro d hd'
      rcases List.mem_cons.1 hd' with rfl | h
      · exact hdg
      · exact hd d h
    have hvn : n = k / 10 * 10 ^ (bytes [c] ++ t).size + valL 0 (bytes [c] ++ t).data.toList := by
      rw [hnew, hnsz]; exact hstep
    have HD := Lib.hid hd
    have HV := Lib.hid hv
    have HDN := Lib.hid hdn
    have HVN := Lib.hid hvn
    have HSZ := Lib.hid hnsz
    clear hd hv hlen hstep hc hnew hdn hvn hnsz hdg
    have z1 : ((bytes [c]).size : Int) ≤ 8388608 := by rw [hone]; decide
    have z2 : (t.size : Int) ≤ 8388608 := by omega
    have hsz := hb.size
    clear hone
    by_cases hk : 0 < k
    · have g1 : (0 : Int) < k := by omega
      have hf := hfew hk
      clear hfew
      go_wp2_with fail
      go_roundw
      case rel => exact ⟨k / 10, _, by go_num, rfl, HDN.out, by rw [HSZ.out]; omega, HVN.out, by go_grown⟩
      case measure => simp [intOf, emptyV, HSZ.out]; omega
    · have g1 : (k : Int) ≤ 0 := by omega
      have HK := Lib.hid (show k = 0 by omega)
      clear hfew hk
      have z3 : ((bytes [48]).size : Int) ≤ 8388608 := by decide
      have z4 : ((⟨#[48]⟩ : ByteArray).size : Int) ≤ 8388608 := by decide
      by_cases ht : t.size = 0
      · have te : t.toList.isEmpty = true := by rw [ByteArray.toList_eq, List.isEmpty_iff]; exact List.eq_nil_of_length_eq_zero ht
        have HT := Lib.hid ht
        have hcv0 : (convert 22 9 (.slice (some ⟨wr.heap.size, 0, none⟩) 1 1)).run Tryd.prog (wr.alloc (.cells #[.int .u8 48] 5)) = .ok (.string (bytes [48])) (wr.alloc (.cells #[.int .u8 48] 5)) := conv_one wr 48
        have hr0 : tnR n w (.string (bytes [48] ++ t)) (.int .i64 0) (wr.alloc (.cells #[.int .u8 48] 5)) ∨ True := .inr trivial
        have htl : t.data.toList = [] := List.eq_nil_of_length_eq_zero ht
        have HTL := Lib.hid htl
        clear hcv ht htl hr0
        go_wp2_with fail
        go_roundw
        case rel =>
          have e : (bytes [48] ++ t).data.toList = [48] := by simp [bytes, HTL.out]
          refine ⟨0, _, rfl, rfl, by rw [e]; decide, by rw [show (bytes [48] ++ t).size = (bytes [48] ++ t).data.toList.length from rfl, e]; decide, ?_, by go_grown⟩
          have h := HV.out
          rw [HK.out, HTL.out] at h
          rw [e, h]; simp [valL_nil, valL_front]
        case measure =>
          have e : (bytes [48] ++ t).size = 1 := by rw [show (bytes [48] ++ t).size = (bytes [48] ++ t).data.toList.length from rfl]; simp [bytes, HTL.out]
          simp [intOf, emptyV, e, HT.out]
      · have te : t.toList.isEmpty = false := by rw [ByteArray.toList_eq, Bool.eq_false_iff, ne_eq, List.isEmpty_iff]; intro h; apply ht; exact congrArg List.length h
        have hV : valL 0 t.data.toList = n := by have h := HV.out; rw [HK.out] at h; omega
        have HVV := Lib.hid hV
        have HT := Lib.hid ht
        clear ht hV hcv
        go_wp2_with fail
        go_loopw [7, 9] (fun u v wr2 => tzR (10 * n) w u v wr2) (fun _ v _ => 31 - (intOf v).toNat)
        case atStart =>
          refine ⟨0, t ++ bytes [48], rfl, rfl, ?_, ?_, ?_, by omega, ?_, hb⟩
          · intro d hd'
            rw [show (t ++ bytes [48]).data.toList = t.data.toList ++ [48] by simp [bytes]] at hd'
            rcases List.mem_append.1 hd' with h | h
            · exact HD.out d h
            · obtain rfl : d = 48 := by simpa using h
              decide
          · rw [show (t ++ bytes [48]).size = (t ++ bytes [48]).data.toList.length from rfl, show (t ++ bytes [48]).data.toList = t.data.toList ++ [48] by simp [bytes]]; simp
          · rw [show (t ++ bytes [48]).size = (t ++ bytes [48]).data.toList.length from rfl, show (t ++ bytes [48]).data.toList = t.data.toList ++ [48] by simp [bytes], List.length_append, show t.data.toList.length = t.size from rfl]; simp; omega
          · rw [zero_back, HVV.out]
        case round =>
          obtain ⟨i, s, rfl, rfl, hds, hs0, hsl, hi, hvs, hb2⟩ := hrel
          have hz1 : 0 ≤ zeros % 30 := Int.emod_nonneg zeros (by omega)
          have hz2 : zeros % 30 < 30 := Int.emod_lt_of_pos zeros (by omega)
          have z5 : (s.size : Int) ≤ 8388608 := by omega
          have hsz2 := hb2.size
          have HDS := Lib.hid hds
          have HVS := Lib.hid hvs
          clear hds hvs
          by_cases hlt : (i : Int) < zeros % 30
          · go_wp2_with (go_at_call 13; ((with_reducible refine (within_any zeros 30 _ (by omega) (by omega)).mono ?_); rintro e w' ⟨rfl, rfl⟩))
            go_roundw
            case rel =>
              have e : (bytes [48] ++ s).data.toList = 48 :: s.data.toList := by simp [bytes]
              have e2 : (bytes [48] ++ s).size = s.size + 1 := by rw [show (bytes [48] ++ s).size = (bytes [48] ++ s).data.toList.length from rfl, e]; rfl
              refine ⟨i + 1, bytes [48] ++ s, by go_num, rfl, ?_, by omega, by omega, by omega, by rw [zero_front]; exact HVS.out, hb2⟩
              rw [e]; intro d hd'
              rcases List.mem_cons.1 hd' with rfl | h
              · decide
              · exact HDS.out d h
            case measure => simp [intOf]; omega
          · have hbs := bytes_of
            have n2 := strNe_false (rfl : s = s)
            have HN := Lib.hid hn
            clear hn hkb
            go_wp2_with (first | (go_at_call 13; ((with_reducible refine (within_any zeros 30 _ (by omega) (by omega)).mono ?_); rintro e w' ⟨rfl, rfl⟩)) | (go_at_call 14; ((with_reducible refine (lex_str s _ (he.below (by go_grown) he.size) (by omega) _ rfl _).mono ?_); rintro e w1 ⟨⟨v, p, er, rfl, hR⟩, hb3⟩; have hB := Below.step (w := w) (by go_grown) hb3; obtain ⟨d1, rfl⟩ | ⟨d1, rfl, b, off, c, rfl, hc2, q1, q2, q3⟩ := lexR_digitsV hR HDS.out hs0 (by omega) HVS.out)) | (go_at_call 10; ((with_reducible refine (same_str s _ (he.below (by go_grown) he.size) (by omega) _ rfl _).mono ?_); rintro e w2 ⟨rfl, hb4⟩; have hB2 := Below.step (w := w) (by go_grown) hb4)) | (go_at_call 11; ((with_reducible refine (awake_any _ (he.below (by go_grown) he.size)).mono ?_); rintro e w3 ⟨rfl, hb5⟩; have hB3 := Below.step (w := w) (by go_grown) hb5)))
            all_goals (go_ret; exact ⟨rfl, hB3⟩)
theorem tokenNumbers_walk (n : Nat) (zeros : Int) (more : Bool) (w : World) (he : Env w) (hn : n < 18446744073709551616) :
    Calls Tryd.prog 5 #[.int .u64 n, .int .i64 zeros, .bool more] w fun e w' => e = .returned (.bool true) ∧ Below w.heap.size w w' := by
  cases more
  · exact tokenNumbers_less n zeros w he hn
  · exact tokenNumbers_more n zeros w he hn
end Go.Proofs.YtecldppicmbecaaDoor
