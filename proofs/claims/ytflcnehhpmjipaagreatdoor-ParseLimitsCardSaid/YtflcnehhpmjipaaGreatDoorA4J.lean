import Derived.Test.YtflcnehhpmjipaaGreatDoorA3J
import Derived.Test.YtflcnehhpmjipaaGreatDoorA1J
set_option linter.unusedVariables false
set_option linter.unusedSimpArgs false
namespace Go.Proofs.YtflcnehhpmjipaaGreatDoor
open Go.RowKit
def bcells (s : List UInt8) : List Value := s.map fun c => .int .u8 c.toNat
theorem ByteRow.cell {w : World} {b off : Nat} {s : List UInt8} (h : ∀ j u, (bcells s)[j]? = some u → w.cell? ⟨b, off + j, none⟩ = some u) (k : Nat) (hk : k < s.length) : w.cell? ⟨b, off + k, none⟩ = some (.int .u8 s[k].toNat) :=
 h k _ (by simp [bcells, hk])
set_option maxHeartbeats 400000 in
theorem rletter_any (c : UInt8) (w : World) :
  Calls Tryz.prog 39 #[.int .u8 c.toNat] w fun e w' => e = .returned (.bool (isLet c)) ∧ w = w' := by
 unfold isLet
 generalize (c.toNat : Int) = n
 go_enter Tryz.func39, Tryz.ntmps39
 go_wp2
 all_goals (go_ret; refine ⟨ret_bool ?_, rfl⟩; simp; try omega)
set_option maxHeartbeats 400000 in
theorem rdigit_any (c : UInt8) (w : World) :
  Calls Tryz.prog 40 #[.int .u8 c.toNat] w fun e w' => e = .returned (.bool (isDig c)) ∧ w = w' := by
 unfold isDig
 generalize (c.toNat : Int) = n
 go_enter Tryz.func40, Tryz.ntmps40
 go_wp2
 all_goals (go_ret; refine ⟨ret_bool ?_, rfl⟩; simp; try omega)
theorem mem_drop_step (zs : List ByteArray) (x : ByteArray) (k : Nat) (hk : k < zs.length) (h : x ∈ zs ↔ x ∈ zs.drop k) : (zs[k] = x → x ∈ zs) ∧ (zs[k] ≠ x → (x ∈ zs ↔ x ∈ zs.drop (k + 1))) := by
 refine ⟨fun e => e ▸ List.getElem_mem hk, fun e => ?_⟩
 rw [h, List.drop_eq_getElem_cons hk, List.mem_cons]
 exact ⟨fun h => h.resolve_left (fun e' => e e'.symm), .inr⟩
set_option maxHeartbeats 400000 in
theorem has_any (zs : List ByteArray) (x : ByteArray) (v : Value) (w : World) (hv : RowAt w v zs.length (zs.map .string)) (hn : zs.length ≤ 9223372036854775807) :
  Calls Tryz.prog 72 #[v, .string x] w fun e w' => e = .returned (.bool (zs.any fun y => decide (y = x))) ∧ w = w' := by
 obtain ⟨a, cap, rfl, hc, hr⟩ := hv
 go_enter Tryz.func72, Tryz.ntmps72
 go_wp2_with fail
 go_loop [5] (fun v => ∃ k : Nat, k ≤ zs.length ∧ v = .int .i64 k ∧ (x ∈ zs ↔ x ∈ zs.drop k)) (fun v => zs.length - (intOf v).toNat)
 case atStart => exact ⟨0, by omega, rfl, by simp⟩
 case round =>
  obtain ⟨k, hk, rfl, hm⟩ := hrel
  have HM := Lib.hid hm
  clear hm
  by_cases hlt : k < zs.length
  ·rcases hr with h0 | ⟨b, off, rfl, hr⟩
   ·have : zs.length = 0 := by simpa using congrArg List.length h0
    omega
   ·have hcell := hr k (.string zs[k]) (by simp [hlt])
    clear hr
    have hst := mem_drop_step zs x k hlt HM.out
    have HST := Lib.hid hst
    clear hst
    by_cases he : zs[k] = x
    ·have hm := HST.out.1 he
     have HM2 := Lib.hid hm
     clear hm
     have hq := strEq_true he
     clear he
     go_wp2_with fail
     go_ret
     refine ⟨ret_bool ?_, rfl⟩
     simp [HM2.out]
    ·have hq := strEq_false he
     have HE := Lib.hid he
     clear he
     go_wp2_with fail
     go_round
     case rel => exact ⟨k + 1, by omega, by go_num, HST.out.2 HE.out⟩
     case measure => simp [intOf]; omega
  ·clear hr
   go_wp2_with fail
   go_ret
   refine ⟨ret_bool ?_, rfl⟩
   have : x ∉ zs := by rw [HM.out, List.drop_eq_nil_of_le (by omega)]; simp
   simp [this]
set_option maxHeartbeats 400000 in
theorem rreserved_any (s : ByteArray) (w : World) :
  Calls Tryz.prog 41 #[.string s] w fun e w' => e = .returned (.bool (reserved s)) ∧ Below w.heap.size w w' := by
 go_enter Tryz.func41, Tryz.ntmps41
 go_wp2_with (first | (go_at_call 72; refine (has_any words _ _ _ (RowAt.new w (words.map .string) 9 11) (by decide)).mono ?_; rintro e w' ⟨rfl, rfl⟩))
 go_ret
 exact ⟨rfl, by go_grown⟩
set_option maxHeartbeats 400000 in
theorem rskip_any (s : List UInt8) (k0 : Nat) (v : Value) (w : World) (hv : RowAt w v s.length (bcells s)) (hs : s.length ≤ 1000000) (hk : k0 ≤ s.length) :
  Calls Tryz.prog 38 #[v, .int .i64 k0] w fun e w' => e = .returned (.int .i64 (skipN s k0)) ∧ w = w' := by
 obtain ⟨a, cap, rfl, hc, hr⟩ := hv
 go_enter Tryz.func38, Tryz.ntmps38
 go_wp2_with fail
 go_loop [1] (fun v => ∃ k : Nat, k ≤ s.length ∧ v = .int .i64 k ∧ skipN s k = skipN s k0) (fun v => s.length - (intOf v).toNat)
 case atStart => exact ⟨k0, hk, rfl, rfl⟩
 case round =>
  obtain ⟨k, hk, rfl, hm⟩ := hrel
  have HM := Lib.hid hm
  clear hm
  by_cases hlt : k < s.length
  ·rcases hr with h0 | ⟨b, off, rfl, hr⟩
   ·have : s.length = 0 := by simpa [bcells] using congrArg List.length h0
    omega
   ·have hcell := ByteRow.cell hr k hlt
    have HR := Lib.hid hr
    clear hr
    cases hsp : isSp s[k] with
    | true =>
     have hn := skipN_sp s k hlt hsp
     have HN := Lib.hid hn
     simp only [isSp, decide_eq_true_eq] at hsp
     clear hn
     rcases hsp with h | h | h | h
     ·have e32 : ((s[k].toNat : Int) == 32) = true := by rw [h]; rfl
      clear h
      go_wp2_with fail
      go_round
      case rel => exact ⟨k + 1, by omega, by go_num, HN.out.trans HM.out⟩
      case measure => simp [intOf]; omega
     ·have e32 : ((s[k].toNat : Int) == 32) = false := by rw [h]; rfl
      have e9 : ((s[k].toNat : Int) == 9) = true := by rw [h]; rfl
      clear h
      go_wp2_with fail
      go_round
      case rel => exact ⟨k + 1, by omega, by go_num, HN.out.trans HM.out⟩
      case measure => simp [intOf]; omega
     ·have e32 : ((s[k].toNat : Int) == 32) = false := by rw [h]; rfl
      have e9 : ((s[k].toNat : Int) == 9) = false := by rw [h]; rfl
      have e10 : ((s[k].toNat : Int) == 10) = false := by rw [h]; rfl
      have e13 : ((s[k].toNat : Int) == 13) = true := by rw [h]; rfl
      clear h
      go_wp2_with fail
      go_round
      case rel => exact ⟨k + 1, by omega, by go_num, HN.out.trans HM.out⟩
      case measure => simp [intOf]; omega
     ·have e32 : ((s[k].toNat : Int) == 32) = false := by rw [h]; rfl
      have e9 : ((s[k].toNat : Int) == 9) = false := by rw [h]; rfl
      have e10 : ((s[k].toNat : Int) == 10) = true := by rw [h]; rfl
      clear h
      go_wp2_with fail
      go_round
      case rel => exact ⟨k + 1, by omega, by go_num, HN.out.trans HM.out⟩
      case measure => simp [intOf]; omega
    | false =>
     have HP := Lib.hid hsp
     simp only [isSp, decide_eq_false_iff_not, not_or] at hsp
     have f1 : ((s[k].toNat : Int) == 32) = false := by rw [beq_eq_false_iff_ne]; exact hsp.1
     have f2 : ((s[k].toNat : Int) == 9) = false := by rw [beq_eq_false_iff_ne]; exact hsp.2.1
     have f3 : ((s[k].toNat : Int) == 13) = false := by rw [beq_eq_false_iff_ne]; exact hsp.2.2.1
     have f4 : ((s[k].toNat : Int) == 10) = false := by rw [beq_eq_false_iff_ne]; exact hsp.2.2.2
     clear hsp
     have stop : ¬ (∃ h2 : k + 1 < s.length, s[k] = 47 ∧ s[k + 1] = 47) → skipN s k0 = k := fun h => by rw [← HM.out]; exact skipN_stop s k hlt HP.out (not_com_of hlt h)
     have STOP := Lib.hid stop
     clear stop
     by_cases h1 : s.length ≤ k + 1
     ·have g1 : (s.length : Int) ≤ k + 1 := by omega
      have hst := STOP.out (by rintro ⟨h, _⟩; omega)
      have HST := Lib.hid hst
      clear hst h1
      go_wp2_with fail
      go_ret
      exact ⟨ret_int (by rw [HST.out]), rfl⟩
     have g1 : (k : Int) + 1 < s.length := by omega
     have h1' : k + 1 < s.length := by omega
     clear h1
     by_cases h2 : s[k] = 47
     ·have g2 := ((u8eq s[k] 47 47 rfl (by omega)).1 h2).1
      have hcell2 := ByteRow.cell HR.out (k + 1) h1'
      have hcell3 := hcell2
      rw [← Nat.add_assoc] at hcell3
      by_cases h3 : s[k + 1] = 47
      ·have g3 := ((u8eq s[k + 1] 47 47 rfl (by omega)).1 h3).1
       have H2 := Lib.hid h2
       have H3 := Lib.hid h3
       clear h2 h3
       go_wp2_with fail
       go_hide hQ
       go_loop [1] (fun v => ∃ j : Nat, k ≤ j ∧ j ≤ s.length ∧ v = .int .i64 j ∧ (s.drop k).dropWhile (· != 10) = (s.drop j).dropWhile (· != 10)) (fun v => s.length - (intOf v).toNat)
       case atStart => exact ⟨k, by omega, by omega, rfl, rfl⟩
       case round =>
        obtain ⟨j, hkj, hj, rfl, hd⟩ := hrel
        have HD := Lib.hid hd
        clear hd hcell2 hcell3 hcell
        have fin : (s.drop k).dropWhile (· != 10) = s.drop j → skipN s j = skipN s k0 := fun h => (skipN_line s k j h1' H2.out H3.out h).trans HM.out
        have FIN := Lib.hid fin
        clear fin
        by_cases hje : j < s.length
        ·have hcell := ByteRow.cell HR.out j hje
         have hst := line_step s k j hje HD.out
         have HST := Lib.hid hst
         clear hst
         by_cases h10 : s[j] = 10
         ·have e10 := ((u8eq s[j] 10 10 rfl (by omega)).1 h10).2
          have hfin := FIN.out (HST.out.1 h10)
          have hne : k ≠ j := by rintro rfl; rw [H2.out] at h10; exact absurd h10 (by decide)
          have HF := Lib.hid hfin
          clear hfin h10
          go_wp2_with fail
          subst hQ
          go_wp2_with fail
          go_round
          case rel => exact ⟨j, by omega, rfl, HF.out⟩
          case measure => simp [intOf]; omega
         ·have e10 := ((u8eq s[j] 10 10 rfl (by omega)).2 h10).2
          have hnx := HST.out.2 h10
          have HNX := Lib.hid hnx
          clear hnx h10
          go_wp2_with fail
          go_round
          case rel => exact ⟨j + 1, by omega, by omega, by go_num, HNX.out⟩
          case measure => simp [intOf]; omega
        ·have hfin := FIN.out (by rw [HD.out, List.drop_eq_nil_of_le (by omega)]; rfl)
         have HF := Lib.hid hfin
         clear hfin
         go_wp2_with fail
         subst hQ
         go_wp2_with fail
         go_round
         case rel => exact ⟨j, by omega, rfl, HF.out⟩
         case measure => simp [intOf]; omega
      ·have g3 := ((u8eq s[k + 1] 47 47 rfl (by omega)).2 h3).1
       have hst := STOP.out (by rintro ⟨_, _, h⟩; exact h3 h)
       have HST := Lib.hid hst
       clear hst h2 h3
       go_wp2_with fail
       go_ret
       exact ⟨ret_int (by rw [HST.out]), rfl⟩
     ·have g2 := ((u8eq s[k] 47 47 rfl (by omega)).2 h2).1
      have hst := STOP.out (by rintro ⟨_, h, _⟩; exact h2 h)
      have HST := Lib.hid hst
      clear hst h2
      go_wp2_with fail
      go_ret
      exact ⟨ret_int (by rw [HST.out]), rfl⟩
  ·clear hr
   go_wp2_with fail
   go_ret
   exact ⟨ret_int (by rw [← HM.out, skipN_end _ _ (by omega)]; omega), rfl⟩
end Go.Proofs.YtflcnehhpmjipaaGreatDoor
namespace Go.Proofs.YtflcnehhpmjipaaGreatDoor
open Go.RowKit
theorem numL_stepL (t : List UInt8) (k n : Nat) (hk : k < t.length) (h : numL 0 t = numL n (t.drop k)) :
  ((9223372036854775807 - (t[k].toNat - 48)) / 10 < n → numL 0 t = none) ∧ (¬ (9223372036854775807 - (t[k].toNat - 48)) / 10 < n → numL 0 t = numL (10 * n + (t[k].toNat - 48)) (t.drop (k + 1))) := by
 rw [drop_cons _ k hk, numL] at h
 refine ⟨fun hn => ?_, fun hn => ?_⟩
 ·rw [h]; exact if_pos hn
 ·rw [h]; exact if_neg hn
def numI (t : List UInt8) : Int := match numL 0 t with | none => -1 | some n => n
set_option maxHeartbeats 400000 in
theorem rnumber_any (t : List UInt8) (v : Value) (w : World) (hv : RowAt w v t.length (bcells t)) (hs : t.length ≤ 1000000) (hd : ∀ c ∈ t, isDig c = true) :
  Calls Tryz.prog 42 #[v] w fun e w' => e = .returned (.int .i64 (numI t)) ∧ w = w' := by
 obtain ⟨a, cap, rfl, hc, hr⟩ := hv
 have HA := Lib.hid hd
 clear hd
 go_enter Tryz.func42, Tryz.ntmps42
 go_wp2_with fail
 go_loop [3, 4] (fun u v => ∃ k n : Nat, k ≤ t.length ∧ v = .int .i64 k ∧ u = .int .i64 n ∧ n ≤ 9223372036854775807 ∧ numL 0 t = numL n (t.drop k)) (fun _ v => t.length - (intOf v).toNat)
 case atStart => exact ⟨0, 0, by omega, rfl, rfl, by omega, rfl⟩
 case round =>
  obtain ⟨k, n, hk, rfl, rfl, hn, hv⟩ := hrel
  by_cases hlt : k < t.length
  ·rcases hr with h0 | ⟨b, off, rfl, hr⟩
   ·have : t.length = 0 := by simpa [bcells] using congrArg List.length h0
    omega
   have hcell := ByteRow.cell hr k hlt
   clear hr
   have hst := numL_stepL t k n hlt hv
   have hd : isDig t[k] = true := HA.out _ (List.getElem_mem hlt)
   have HS := Lib.hid hst
   clear hst hv
   simp only [isDig, decide_eq_true_eq] at hd
   obtain ⟨hd1, hd2⟩ := hd
   by_cases hov : (9223372036854775807 - (t[k].toNat - 48)) / 10 < n
   ·have hov' : (9223372036854775807 - ((t[k].toNat : Int) - 48)) / 10 < (n : Int) := by omega
    have HO := Lib.hid hov
    clear hov
    go_wp2_with fail
    go_ret
    exact ⟨ret_int (by rw [numI, HS.out.1 HO.out]), rfl⟩
   ·have hov' : (n : Int) ≤ (9223372036854775807 - ((t[k].toNat : Int) - 48)) / 10 := by omega
    have HO := Lib.hid hov
    clear hov
    go_wp2_with fail
    go_round
    case rel => exact ⟨k + 1, 10 * n + (t[k].toNat - 48), by omega, by go_num, by go_num, by omega, HS.out.2 HO.out⟩
    case measure => simp [intOf]; omega
  ·have HV := Lib.hid hv
   clear hv hr
   go_wp2_with fail
   go_ret
   refine ⟨ret_int ?_, rfl⟩
   rw [numI, HV.out, List.drop_eq_nil_of_le (by omega), numL]
theorem conv_row (t : List UInt8) (a : Option Addr) (cap : Nat) (w : World) (hv : bcells t = [] ∨ ∃ b off, a = some ⟨b, off, none⟩ ∧ ∀ j u, (bcells t)[j]? = some u → w.cell? ⟨b, off + j, none⟩ = some u) :
  (convert 23 9 (.slice a t.length cap)).run Tryz.prog w = .ok (.string (bytes t)) w := by
 rcases hv with h0 | ⟨b, off, rfl, hr⟩
 ·obtain rfl : t = [] := by simpa [bcells] using h0
  cases a with
  | none => exact run_convert_bytes_nil w _ _ Tryz.underlying23 Tryz.underlying5 _ _ _ Tryz.underlying9
  | some a =>
   have hl := run_loadCells_list (P := Tryz.prog) w a [] (fun j v hj => by simp at hj)
   rw [run_convert_bytes_string w _ _ _ _ _ _ Tryz.underlying23 Tryz.underlying5 Tryz.underlying9, List.length_nil, run_bytesToString w a 0 cap [] (by simpa using hl)]
   rfl
 ·rw [run_convert_bytes_arg w _ _ Tryz.underlying23 Tryz.underlying5 b off t.length cap (t.map fun c => (c.toNat : Int)) (by simp) ?_ _ Tryz.underlying9]
  ·rw [strOfNums, List.map_map, bytes]; congr 3; rw [show ((fun n : Int => UInt8.ofNat n.toNat) ∘ fun c : UInt8 => (c.toNat : Int)) = id from by funext c; simp]; simp
  ·intro i hi
   rw [ByteRow.cell hr i hi]; simp [hi]
theorem subRow2 {w : World} {b off : Nat} {s : List UInt8} (h : ∀ j u, (bcells s)[j]? = some u → w.cell? ⟨b, off + j, none⟩ = some u) (i n : Nat) :
  ∀ j u, (bcells ((s.drop i).take n))[j]? = some u → w.cell? ⟨b, off + i + j, none⟩ = some u := by
 intro j u hu
 have : (bcells s)[i + j]? = some u := by
  simp only [bcells, List.getElem?_map, List.getElem?_take, List.getElem?_drop] at hu ⊢
  split at hu
  ·exact hu
  ·simp at hu
 rw [Nat.add_assoc]; exact h _ _ this
def pairsB : List ByteArray := [⟨#[60, 61]⟩, ⟨#[62, 61]⟩, ⟨#[61, 61]⟩, ⟨#[33, 61]⟩, ⟨#[38, 38]⟩, ⟨#[124, 124]⟩]
def singlesB : List ByteArray := [⟨#[40]⟩, ⟨#[41]⟩, ⟨#[123]⟩, ⟨#[125]⟩, ⟨#[91]⟩, ⟨#[93]⟩, ⟨#[44]⟩, ⟨#[59]⟩, ⟨#[61]⟩, ⟨#[43]⟩, ⟨#[45]⟩, ⟨#[42]⟩, ⟨#[47]⟩, ⟨#[37]⟩, ⟨#[60]⟩, ⟨#[62]⟩, ⟨#[33]⟩]
theorem bytes_inj {a b : List UInt8} (h : bytes a = bytes b) : a = b := by
 have := congrArg (fun x => x.data.toList) h
 simpa [bytes] using this
theorem any_bytes (L : List (List UInt8)) (x : List UInt8) : ((L.map bytes).any fun y => decide (y = bytes x)) = decide (x ∈ L) := by
 rw [Bool.eq_iff_iff, List.any_eq_true]
 simp only [List.mem_map, decide_eq_true_eq]
 constructor
 ·rintro ⟨y, ⟨z, hz, rfl⟩, h⟩; rw [← bytes_inj h]; exact hz
 ·intro h; exact ⟨_, ⟨x, h, rfl⟩, rfl⟩
theorem conv_sub {s : List UInt8} {b off : Nat} {w : World} (hr : ∀ j u, (bcells s)[j]? = some u → w.cell? ⟨b, off + j, none⟩ = some u) (i n cap : Nat) (hin : i + n ≤ s.length) (w' : World) (hw : ∀ o, w'.cell? ⟨b, o, none⟩ = w.cell? ⟨b, o, none⟩) :
  (convert 23 9 (.slice (some ⟨b, off + i, none⟩) n cap)).run Tryz.prog w' = .ok (.string (bytes ((s.drop i).take n))) w' := by
 have hl : ((s.drop i).take n).length = n := by rw [List.length_take, List.length_drop]; omega
 have := conv_row ((s.drop i).take n) (some ⟨b, off + i, none⟩) cap w' (.inr ⟨b, off + i, rfl, fun j u hu => by rw [hw]; exact subRow2 hr i n j u hu⟩)
 rw [hl] at this; exact this
end Go.Proofs.YtflcnehhpmjipaaGreatDoor
namespace Go.Proofs.YtflcnehhpmjipaaGreatDoor
open Go.RowKit
theorem has_pairs (w : World) (x : ByteArray) (q : Bool) (hq : (pairsB.any fun y => decide (y = x)) = q) :
  Calls Tryz.prog 72 #[.slice (some ⟨w.heap.size, 0, none⟩) 6 6, .string x] (w.alloc (Obj.cells #[Value.string ⟨#[60, 61]⟩, Value.string ⟨#[62, 61]⟩, Value.string ⟨#[61, 61]⟩, Value.string ⟨#[33, 61]⟩, Value.string ⟨#[38, 38]⟩, Value.string ⟨#[124, 124]⟩] 9)) fun e w' => e = .returned (.bool q) ∧ w.alloc (Obj.cells #[Value.string ⟨#[60, 61]⟩, Value.string ⟨#[62, 61]⟩, Value.string ⟨#[61, 61]⟩, Value.string ⟨#[33, 61]⟩, Value.string ⟨#[38, 38]⟩, Value.string ⟨#[124, 124]⟩] 9) = w' := by
 subst hq; exact has_any pairsB x _ _ (RowAt.new w (pairsB.map .string) 9 6) (by decide)
theorem has_singles (w : World) (x : ByteArray) (k : Nat) (hk : k = w.heap.size) (q : Bool) (hq : (singlesB.any fun y => decide (y = x)) = q) :
  Calls Tryz.prog 72 #[.slice (some ⟨k, 0, none⟩) 17 17, .string x] (w.alloc (Obj.cells #[Value.string ⟨#[40]⟩, Value.string ⟨#[41]⟩, Value.string ⟨#[123]⟩, Value.string ⟨#[125]⟩, Value.string ⟨#[91]⟩, Value.string ⟨#[93]⟩, Value.string ⟨#[44]⟩, Value.string ⟨#[59]⟩, Value.string ⟨#[61]⟩, Value.string ⟨#[43]⟩, Value.string ⟨#[45]⟩, Value.string ⟨#[42]⟩, Value.string ⟨#[47]⟩, Value.string ⟨#[37]⟩, Value.string ⟨#[60]⟩, Value.string ⟨#[62]⟩, Value.string ⟨#[33]⟩] 9)) fun e w' => e = .returned (.bool q) ∧ w.alloc (Obj.cells #[Value.string ⟨#[40]⟩, Value.string ⟨#[41]⟩, Value.string ⟨#[123]⟩, Value.string ⟨#[125]⟩, Value.string ⟨#[91]⟩, Value.string ⟨#[93]⟩, Value.string ⟨#[44]⟩, Value.string ⟨#[59]⟩, Value.string ⟨#[61]⟩, Value.string ⟨#[43]⟩, Value.string ⟨#[45]⟩, Value.string ⟨#[42]⟩, Value.string ⟨#[47]⟩, Value.string ⟨#[37]⟩, Value.string ⟨#[60]⟩, Value.string ⟨#[62]⟩, Value.string ⟨#[33]⟩] 9) = w' := by
 subst hq; exact has_any singlesB x _ _ (RowAt.new_at w (singlesB.map .string) 9 17 k hk) (by decide)
set_option maxRecDepth 100000 in
set_option maxHeartbeats 800000 in
theorem rsign_w2 (n k b off cap : Nat) (w : World) (x1 x2 : ByteArray) (hk : k < n) (hc : n ≤ cap) (hcm : cap ≤ 9223372036854775807) (hn : n ≤ 1000000) (hkc : ¬ cap = k) (g2 : (k : Int) + 1 < n) (hcv1 : ∀ O, (convert 23 9 (.slice (some ⟨b, off + k, none⟩) 2 (cap - k))).run Tryz.prog (w.alloc O) = .ok (.string x2) (w.alloc O)) (ha : (pairsB.any fun y => decide (y = x2)) = true) :
  Calls Tryz.prog 43 #[.slice (some ⟨b, off, none⟩) n cap, .int .i64 k] w fun e w' => e = .returned (.int .i64 2) ∧ Below w.heap.size w w' := by
 have HA := Lib.hid ha
 clear ha
 go_enter Tryz.func43, Tryz.ntmps43
 go_wp2_with (first | (go_at_call 72; ((with_reducible refine (has_pairs _ _ _ HA.out).mono ?_); rintro e w' ⟨rfl, rfl⟩)))
 go_ret
 exact ⟨rfl, by go_grown⟩
set_option maxRecDepth 100000 in
set_option maxHeartbeats 800000 in
theorem rsign_w1 (n k b off cap : Nat) (w : World) (x1 x2 : ByteArray) (hk : k < n) (hc : n ≤ cap) (hcm : cap ≤ 9223372036854775807) (hn : n ≤ 1000000) (hkc : ¬ cap = k) (q : Bool) (g2 : (k : Int) + 1 < n) (hcv1 : ∀ O, (convert 23 9 (.slice (some ⟨b, off + k, none⟩) 2 (cap - k))).run Tryz.prog (w.alloc O) = .ok (.string x2) (w.alloc O)) (hcv2 : ∀ O O', (convert 23 9 (.slice (some ⟨b, off + k, none⟩) 1 (cap - k))).run Tryz.prog ((w.alloc O).alloc O') = .ok (.string x1) ((w.alloc O).alloc O')) (ha : (pairsB.any fun y => decide (y = x2)) = false) (ha1 : (singlesB.any fun y => decide (y = x1)) = q) :
  Calls Tryz.prog 43 #[.slice (some ⟨b, off, none⟩) n cap, .int .i64 k] w fun e w' => e = .returned (.int .i64 (if q then 1 else 0)) ∧ Below w.heap.size w w' := by
 have HA := Lib.hid ha
 clear ha
 have HA1 := Lib.hid ha1
 clear ha1
 go_enter Tryz.func43, Tryz.ntmps43
 go_wp2_with (first | (go_at_call 72; ((with_reducible refine (has_pairs _ _ _ HA.out).mono ?_); rintro e w' ⟨rfl, rfl⟩)) | (go_at_call 72; ((with_reducible refine (has_singles _ _ _ (by simp) _ HA1.out).mono ?_); rintro e w' ⟨rfl, rfl⟩)))
 all_goals (go_ret; exact ⟨by simp [*], by go_grown⟩)
set_option maxRecDepth 100000 in
set_option maxHeartbeats 800000 in
theorem rsign_w0 (n k b off cap : Nat) (w : World) (x1 x2 : ByteArray) (hk : k < n) (hc : n ≤ cap) (hcm : cap ≤ 9223372036854775807) (hn : n ≤ 1000000) (hkc : ¬ cap = k) (q : Bool) (g2 : (n : Int) ≤ k + 1) (hcv3 : ∀ O, (convert 23 9 (.slice (some ⟨b, off + k, none⟩) 1 (cap - k))).run Tryz.prog (w.alloc O) = .ok (.string x1) (w.alloc O)) (ha1 : (singlesB.any fun y => decide (y = x1)) = q) :
  Calls Tryz.prog 43 #[.slice (some ⟨b, off, none⟩) n cap, .int .i64 k] w fun e w' => e = .returned (.int .i64 (if q then 1 else 0)) ∧ Below w.heap.size w w' := by
 have HA1 := Lib.hid ha1
 clear ha1
 go_enter Tryz.func43, Tryz.ntmps43
 go_wp2_with (first | (go_at_call 72; ((with_reducible refine (has_singles _ _ _ (by simp) _ HA1.out).mono ?_); rintro e w' ⟨rfl, rfl⟩)))
 all_goals (go_ret; exact ⟨by simp [*], by go_grown⟩)
theorem rsign_any (s : List UInt8) (k : Nat) (b off cap : Nat) (w : World) (hr : ∀ j u, (bcells s)[j]? = some u → w.cell? ⟨b, off + j, none⟩ = some u) (hc : s.length ≤ cap) (hcm : cap ≤ 9223372036854775807) (hs : s.length ≤ 1000000) (hk : k < s.length) :
  Calls Tryz.prog 43 #[.slice (some ⟨b, off, none⟩) s.length cap, .int .i64 k] w fun e w' => e = .returned (.int .i64 (signL (s.drop k))) ∧ Below w.heap.size w w' := by
 have hblt : b < w.heap.size := cell_lt (ByteRow.cell hr k hk)
 have hcv1 : k + 2 ≤ s.length → ∀ O, (convert 23 9 (.slice (some ⟨b, off + k, none⟩) 2 (cap - k))).run Tryz.prog (w.alloc O) = .ok (.string (bytes ((s.drop k).take 2))) (w.alloc O) := fun h O => conv_sub hr k 2 _ h _ (fun o => World.cell?_alloc_lt w O ⟨b, o, none⟩ hblt)
 have hcv2 : ∀ O O', (convert 23 9 (.slice (some ⟨b, off + k, none⟩) 1 (cap - k))).run Tryz.prog ((w.alloc O).alloc O') = .ok (.string (bytes ((s.drop k).take 1))) ((w.alloc O).alloc O') := fun O O' => conv_sub hr k 1 _ (by omega) _ (fun o => by rw [World.cell?_alloc_lt _ _ _ (by simp; omega), World.cell?_alloc_lt _ _ _ hblt])
 have hcv3 : ∀ O, (convert 23 9 (.slice (some ⟨b, off + k, none⟩) 1 (cap - k))).run Tryz.prog (w.alloc O) = .ok (.string (bytes ((s.drop k).take 1))) (w.alloc O) := fun O => conv_sub hr k 1 _ (by omega) _ (fun o => World.cell?_alloc_lt w O ⟨b, o, none⟩ hblt)
 have hd1 : (s.drop k).take 1 = [s[k]] := by rw [drop_cons s k hk]; rfl
 have one : ¬ (2 ≤ (s.drop k).length ∧ (s.drop k).take 2 ∈ pairsL) → signL (s.drop k) = if s[k] ∈ singlesL then 1 else 0 := by
  intro h
  rw [drop_cons s k hk] at h ⊢
  by_cases hm : s[k] ∈ singlesL
  ·rw [if_pos hm, signL_one h hm]
  ·rw [if_neg hm, signL_none h hm]
 have hany : (singlesB.any fun y => decide (y = bytes ((s.drop k).take 1))) = decide (s[k] ∈ singlesL) := by
  rw [hd1, show singlesB = (singlesL.map fun c => [c]).map bytes from rfl, any_bytes]
  simp
 by_cases h2 : k + 1 < s.length
 ·have hany2 : (pairsB.any fun y => decide (y = bytes ((s.drop k).take 2))) = decide ((s.drop k).take 2 ∈ pairsL) := by
   rw [show pairsB = pairsL.map bytes from rfl, any_bytes]
  by_cases hm : (s.drop k).take 2 ∈ pairsL
  ·rw [signL_two (l := s.drop k) (by rw [List.length_drop]; omega) hm]
   exact rsign_w2 s.length k b off cap w ⟨#[]⟩ _ hk hc hcm hs (by omega) (by omega) (hcv1 (by omega)) (by rw [hany2]; simpa using hm)
  ·rw [one (fun h => hm h.2)]
   refine (rsign_w1 s.length k b off cap w _ _ hk hc hcm hs (by omega) _ (by omega) (hcv1 (by omega)) hcv2 (by rw [hany2]; simpa using hm) hany).mono fun e w' ⟨h, hb⟩ => ⟨?_, hb⟩
   rw [h]; refine ret_int ?_; by_cases hq : s[k] ∈ singlesL <;> simp [hq]
 ·rw [one (fun h => by have := h.1; rw [List.length_drop] at this; omega)]
  refine (rsign_w0 s.length k b off cap w _ ⟨#[]⟩ hk hc hcm hs (by omega) _ (by omega) hcv3 hany).mono fun e w' ⟨h, hb⟩ => ⟨?_, hb⟩
  rw [h]; refine ret_int ?_; by_cases hq : s[k] ∈ singlesL <;> simp [hq]
end Go.Proofs.YtflcnehhpmjipaaGreatDoor
