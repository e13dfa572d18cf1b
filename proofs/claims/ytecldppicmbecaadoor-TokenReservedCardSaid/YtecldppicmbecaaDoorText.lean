/-
  The walk over token.Text: the texts of the tokens but the end's, joined by blanks. Conditions: the slice reads as a list of tokens; sizes.
-/
import Derived.Test.YtecldppicmbecaaDoorLaw1
namespace Go.Proofs.YtecldppicmbecaaDoor
open Go.RowKit

def textsB (l : List Tok) : List ByteArray := (l.filter fun t => decide (t.kind ≠ 5)).map Tok.text
def textL (l : List Tok) : List UInt8 := Lib.join ((textsB l).map (·.data.toList)) [32]
theorem textsB_take (l : List Tok) (k : Nat) (hk : k < l.length) : textsB (l.take (k + 1)) = if l[k].kind = 5 then textsB (l.take k) else textsB (l.take k) ++ [l[k].text] := by
  unfold textsB
  rw [List.take_succ_eq_append_getElem hk, List.filter_append, List.map_append]
  by_cases h : l[k].kind = 5
  · rw [if_pos h]; simp [h]
  · rw [if_neg h]; simp [h]
theorem textsB_len (l : List Tok) : (textsB l).length ≤ l.length := by
  unfold textsB; rw [List.length_map]; exact (List.filter_sublist).length_le
theorem strInfo : (Tryd.prog.info? 9).map (fun i => (i.zero, i.size, i.bytes)) = some (some (.string ⟨#[]⟩), 1, 16) := by kernel_rfl
theorem join_any (xs : List ByteArray) (v : Value) (w : World) (hv : RowAt w v xs.length (xs.map .string)) (hn : xs.length ≤ 1000000) (hlen : (Lib.join (xs.map (·.data.toList)) [32]).length ≤ 140737488355328) :
    Calls Tryd.prog 27 #[v, .string ⟨#[32]⟩] w fun e w' => e = .returned (.string (bytes (Lib.join (xs.map (·.data.toList)) [32]))) ∧ Below w.heap.size w w' := by
  obtain ⟨a, c, rfl, hc, hr⟩ := hv
  rcases hr with h0 | ⟨b, off, rfl, hr⟩
  · obtain rfl : xs = [] := by simpa using h0
    exact (Tryd.strings_Join_none a c ⟨#[32]⟩ w).mono fun e w' ⟨h, hw⟩ => ⟨h, hw ▸ Below.refl _ _⟩
  · by_cases h0 : xs = []
    · subst h0
      exact (Tryd.strings_Join_none _ c ⟨#[32]⟩ w).mono fun e w' ⟨h, hw⟩ => ⟨h, hw ▸ Below.refl _ _⟩
    have hb : b < w.heap.size := by
      obtain ⟨x, r, rfl⟩ := List.exists_cons_of_ne_nil h0
      exact cell_lt (hr 0 (.string x) (by simp))
    exact Tryd.strings_Join b off c xs ⟨#[32]⟩ w (fun j x hx => hr j (.string x) (by simp [hx])) hb (by omega) hc hlen

set_option maxRecDepth 100000 in
set_option maxHeartbeats 800000 in
theorem text_any (l : List Tok) (v : Value) (w : World) (hv : RowAt w v l.length (toksCells l)) (hn : l.length ≤ 1000000) (hlen : (textL l).length ≤ 140737488355328) :
    Calls Tryd.prog 15 #[v] w fun e w' => e = .returned (.string (bytes (textL l))) ∧ Below w.heap.size w w' := by
  obtain ⟨a, c, rfl, hc, hr⟩ := hv
  obtain ⟨i0, hi, hz0, hz1, hz2⟩ := info_parts strInfo
  have HN := Lib.hid hlen
  clear hlen
  go_enter Tryd.func15, Tryd.ntmps15
  go_wp2_with fail
  go_loopw [3, 8] (fun v i wr => ∃ k : Nat, k ≤ l.length ∧ i = .int .i64 k ∧ wr.ownsRow w.heap.size 9 1 v (textsB (l.take k)).length ((textsB (l.take k)).map .string) ∧ Below w.heap.size w wr) (fun _ i _ => l.length - (intOf i).toNat)
  case atStart => exact ⟨0, by omega, rfl, ownsRow_nil _ _ _ _, Below.refl _ _⟩
  case round =>
    obtain ⟨k, hk, rfl, hown, hb⟩ := hrel
    obtain ⟨oa, oc, rfl⟩ := owns_slice hown
    have hsz := hb.size
    by_cases hlt : k < l.length
    · rcases hr with h0 | ⟨b, off, rfl, hr⟩
      · rw [toksCells_nil h0] at hlt; simp at hlt
      obtain ⟨q1, q2, q3, q4⟩ := tokRow hr k hlt
      have hB := bcell hb
      have B1 := cell_lt q1
      rw [← hB.1 _ _ B1] at q1 q2 q3 q4
      have htk := textsB_take l k hlt
      have HTK := Lib.hid htk
      have hln := textsB_len (l.take k)
      rw [List.length_take] at hln
      clear hr hB B1 htk
      by_cases h5 : l[k].kind = 5
      · have n1 : ((l[k].kind : Int) != 5) = false := by simp; omega
        have H5 := Lib.hid h5
        clear h5
        go_wp2_with fail
        go_roundw
        case rel => exact ⟨k + 1, by omega, by go_num, by rw [HTK.out, if_pos H5.out]; exact ownsRow_below hown (by go_grown) (Nat.le_refl _), by go_grown⟩
        case measure => simp [intOf]; omega
      · have n1 : ((l[k].kind : Int) != 5) = true := by simp; omega
        have H5 := Lib.hid h5
        clear h5
        go_wp2_with (at_builtin; refine wpList_append_own _ rfl _ _ 45 rfl w.heap.size 9 i0 _ 1 16 Tryd.underlying45 hi hz0 hz1 hz2 rfl (by decide) _ (textsB (l.take k)).length ((textsB (l.take k)).map .string) rfl (ownsRow_below hown (by go_grown) (Nat.le_refl _)) _ 1 1 [.string l[k].text] rfl rfl (new_cells_at _ _ _ _ (by simp)) (by simp [Value.oneCell']) (by unfold maxLen; omega) (by omega) (by simp; omega) ?_)
        intro v' w2 hown2 hgrow _
        have hb2 : Below w.heap.size w w2 := Below.grow (by go_grown) hgrow (by simp; omega) (ownsRow_below hown (by go_grown) (Nat.le_refl _)) (Nat.le_refl _)
        clear hgrow
        go_wp2_with fail
        go_roundw
        case rel => exact ⟨k + 1, by omega, by go_num, by rw [HTK.out, if_neg H5.out]; simpa using hown2, hb2⟩
        case measure => simp [intOf]; omega
    · have hkl : k = l.length := by omega
      subst hkl
      have hrow := RowAt.of_owns hown
      rw [List.take_length] at hrow
      have hll := textsB_len l
      have hoc : (textsB l).length = (textsB (l.take l.length)).length := by rw [List.take_length]
      rw [← hoc]
      have HJ : Hid ((Lib.join ((textsB l).map (·.data.toList)) [32]).length ≤ 140737488355328) := HN
      clear hr hoc
      go_wp2_with (go_at_call 27; ((with_reducible refine (join_any (textsB l) _ _ hrow (by omega) HJ.out).mono ?_); rintro e w1 ⟨rfl, hb1⟩))
      go_ret
      exact ⟨rfl, hb.trans (hb1.mono hsz)⟩
end Go.Proofs.YtecldppicmbecaaDoor
