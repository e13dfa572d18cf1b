/-
  Walks over the reference's number, sign and Lex. Conditions: the bytes lie in memory; sizes within Go's reach.
-/
import Derived.Test.YtecldppicmbecaaDoorRef1
namespace Go.Proofs.YtecldppicmbecaaDoor
open Go.RowKit

theorem numL_stepL (t : List UInt8) (k n : Nat) (hk : k < t.length) (h : numL 0 t = numL n (t.drop k)) :
    ((9223372036854775807 - (t[k].toNat - 48)) / 10 < n → numL 0 t = none) ∧ (¬ (9223372036854775807 - (t[k].toNat - 48)) / 10 < n → numL 0 t = numL (10 * n + (t[k].toNat - 48)) (t.drop (k + 1))) := by
  rw [drop_cons _ k hk, numL] at h
  refine ⟨fun hn => ?_, fun hn => ?_⟩
  · rw [h]; exact if_pos hn
  · rw [h]; exact if_neg hn
def numI (t : List UInt8) : Int := match numL 0 t with | none => -1 | some n => n
set_option maxHeartbeats 400000 in
theorem rnumber_any (t : List UInt8) (v : Value) (w : World) (hv : RowAt w v t.length (bcells t)) (hs : t.length ≤ 1000000) (hd : ∀ c ∈ t, isDig c = true) :
    Calls Tryd.prog 31 #[v] w fun e w' => e = .returned (.int .i64 (numI t)) ∧ w = w' := by
  obtain ⟨a, cap, rfl, hc, hr⟩ := hv
  have HA := Lib.hid hd
  clear hd
  go_enter Tryd.func31, Tryd.ntmps31
  go_wp2_with fail
  go_loop [3, 4] (fun u v => ∃ k n : Nat, k ≤ t.length ∧ v = .int .i64 k ∧ u = .int .i64 n ∧ n ≤ 9223372036854775807 ∧ numL 0 t = numL n (t.drop k)) (fun _ v => t.length - (intOf v).toNat)
  case atStart => exact ⟨0, 0, by omega, rfl, rfl, by omega, rfl⟩
  case round =>
    obtain ⟨k, n, hk, rfl, rfl, hn, hv⟩ := hrel
    by_cases hlt : k < t.length
    · rcases hr with h0 | ⟨b, off, rfl, hr⟩
      · have : t.length = 0 := by simpa [bcells] using congrArg List.length h0
        omega
      have hcell := ByteRow.cell hr k hlt
      clear hr
      have hst := numL_stepL t k n hlt hv
      have hd : isDig t[k] = true := HA.out _ (List.getElem_mem hlt)
      have HS := Lib.hid hst
      clear hst hv
      simp only [isDig, decide_eq_true_eq] at hd
      obtain ⟨hd1, hd2⟩ := hd
      by_cases hov : (9223372036854775807 - (t[k].toNat - 48)) / 10 < n
      · have hov' : (9223372036854775807 - ((t[k].toNat : Int) - 48)) / 10 < (n : Int) := by omega
        have HO := Lib.hid hov
        clear hov
        go_wp2_with fail
        go_ret
        exact ⟨ret_int (by rw [numI, HS.out.1 HO.out]), rfl⟩
      · have hov' : (n : Int) ≤ (9223372036854775807 - ((t[k].toNat : Int) - 48)) / 10 := by omega
        have HO := Lib.hid hov
        clear hov
        go_wp2_with fail
        go_round
        case rel => exact ⟨k + 1, 10 * n + (t[k].toNat - 48), by omega, by go_num, by go_num, by omega, HS.out.2 HO.out⟩
        case measure => simp [intOf]; omega
    · have HV := Lib.hid hv
      clear hv hr
      go_wp2_with fail
      go_ret
      refine ⟨ret_int ?_, rfl⟩
      rw [numI, HV.out, List.drop_eq_nil_of_le (by omega), numL]

/-- a string made of bytes in memory -/
theorem conv_row (t : List UInt8) (a : Option Addr) (cap : Nat) (w : World) (hv : bcells t = [] ∨ ∃ b off, a = some ⟨b, off, none⟩ ∧ ∀ j u, (bcells t)[j]? = some u → w.cell? ⟨b, off + j, none⟩ = some u) :
    (convert 22 9 (.slice a t.length cap)).run Tryd.prog w = .ok (.string (bytes t)) w := by
  rcases hv with h0 | ⟨b, off, rfl, hr⟩
  · obtain rfl : t = [] := by simpa [bcells] using h0
    cases a with
    | none => exact run_convert_bytes_nil w _ _ Tryd.underlying22 Tryd.underlying5 _ _ _ Tryd.underlying9
    | some a =>
      have hl := run_loadCells_list (P := Tryd.prog) w a [] (fun j v hj => by simp at hj)
      rw [run_convert_bytes_string w _ _ _ _ _ _ Tryd.underlying22 Tryd.underlying5 Tryd.underlying9, List.length_nil, run_bytesToString w a 0 cap [] (by simpa using hl)]
      rfl
  · rw [run_convert_bytes_arg w _ _ Tryd.underlying22 Tryd.underlying5 b off t.length cap (t.map fun c => (c.toNat : Int)) (by simp) ?_ _ Tryd.underlying9]
    · rw [strOfNums, List.map_map, bytes]; congr 3; rw [show ((fun n : Int => UInt8.ofNat n.toNat) ∘ fun c : UInt8 => (c.toNat : Int)) = id from by funext c; simp]; simp
    · intro i hi
      rw [ByteRow.cell hr i hi]; simp [hi]
/-- a part of the bytes -/
theorem sub_row {w : World} {b off : Nat} {s : List UInt8} (h : ∀ j u, (bcells s)[j]? = some u → w.cell? ⟨b, off + j, none⟩ = some u) (i n : Nat) :
    ∀ j u, (bcells ((s.drop i).take n))[j]? = some u → w.cell? ⟨b, off + i + j, none⟩ = some u := by
  intro j u hu
  have : (bcells s)[i + j]? = some u := by
    simp only [bcells, List.getElem?_map, List.getElem?_take, List.getElem?_drop] at hu ⊢
    split at hu
    · exact hu
    · simp at hu
  rw [Nat.add_assoc]; exact h _ _ this

def pairsB : List ByteArray := [⟨#[60, 61]⟩, ⟨#[62, 61]⟩, ⟨#[61, 61]⟩, ⟨#[33, 61]⟩, ⟨#[38, 38]⟩, ⟨#[124, 124]⟩]
def singlesB : List ByteArray := [⟨#[40]⟩, ⟨#[41]⟩, ⟨#[123]⟩, ⟨#[125]⟩, ⟨#[91]⟩, ⟨#[93]⟩, ⟨#[44]⟩, ⟨#[59]⟩, ⟨#[61]⟩, ⟨#[43]⟩, ⟨#[45]⟩, ⟨#[42]⟩, ⟨#[47]⟩, ⟨#[37]⟩, ⟨#[60]⟩, ⟨#[62]⟩, ⟨#[33]⟩]
theorem bytes_inj {a b : List UInt8} (h : bytes a = bytes b) : a = b := by
  have := congrArg (fun x => x.data.toList) h
  simpa [bytes] using this
theorem any_bytes (L : List (List UInt8)) (x : List UInt8) : ((L.map bytes).any fun y => decide (y = bytes x)) = decide (x ∈ L) := by
  rw [Bool.eq_iff_iff, List.any_eq_true]
  simp only [List.mem_map, decide_eq_true_eq]
  constructor
  · rintro ⟨y, ⟨z, hz, rfl⟩, h⟩; rw [← bytes_inj h]; exact hz
  · intro h; exact ⟨_, ⟨x, h, rfl⟩, rfl⟩

theorem conv_sub {s : List UInt8} {b off : Nat} {w : World} (hr : ∀ j u, (bcells s)[j]? = some u → w.cell? ⟨b, off + j, none⟩ = some u) (i n cap : Nat) (hin : i + n ≤ s.length) (w' : World) (hw : ∀ o, w'.cell? ⟨b, o, none⟩ = w.cell? ⟨b, o, none⟩) :
    (convert 22 9 (.slice (some ⟨b, off + i, none⟩) n cap)).run Tryd.prog w' = .ok (.string (bytes ((s.drop i).take n))) w' := by
  have hl : ((s.drop i).take n).length = n := by rw [List.length_take, List.length_drop]; omega
  have := conv_row ((s.drop i).take n) (some ⟨b, off + i, none⟩) cap w' (.inr ⟨b, off + i, rfl, fun j u hu => by rw [hw]; exact sub_row hr i n j u hu⟩)
  rw [hl] at this; exact this
end Go.Proofs.YtecldppicmbecaaDoor
