/-
  Proved: for every slice of integers, place and two switches lockorderlaw02.ExprTokens returns true and leaves its arguments as they were. No condition beyond the row's own. (Printed by genext.py.)
-/
import Derived.Test.YtiimofjemiffgaaDoorE6J
import Derived.Test.YtiimofjemiffgaaDoorA3J
set_option linter.unusedVariables false
set_option linter.unusedSimpArgs false
namespace Go.Proofs.YtiimofjemiffgaaDoor
open Go.ChangeShapes Go.WideShapes Go.ChangeAt Go.RowKit
def LA : List Tok := [tk 1 [97] 0 0, tk 1 [98] 0 2, tk 2 [55] 7 4, tk 4 [40] 0 6, tk 4 [41] 0 8, tk 4 [45] 0 10, tk 4 [33] 0 12, tk 4 [43] 0 14, tk 4 [42] 0 16, tk 4 [47] 0 18, tk 4 [37] 0 20, tk 4 [60] 0 22, tk 4 [60, 61] 0 24, tk 4 [62] 0 27, tk 4 [62, 61] 0 29, tk 4 [61, 61] 0 32, tk 4 [33, 61] 0 35, tk 4 [38, 38] 0 38, tk 4 [124, 124] 0 41, tk 4 [59] 0 44, tk 4 [61] 0 46, tk 4 [123] 0 48, tk 4 [125] 0 50, tk 4 [91] 0 52, tk 4 [93] 0 54, tk 4 [44] 0 56, tk 2 [49, 50] 12 58, tk 1 [120, 49] 0 61, tk 3 [108, 111, 99, 107] 0 64, tk 3 [103, 111] 0 69, tk 3 [105, 102] 0 72, tk 5 [] 0 74]
theorem la_lex : lexL (⟨#[97, 32, 98, 32, 55, 32, 40, 32, 41, 32, 45, 32, 33, 32, 43, 32, 42, 32, 47, 32, 37, 32, 60, 32, 60, 61, 32, 62, 32, 62, 61, 32, 61, 61, 32, 33, 61, 32, 38, 38, 32, 124, 124, 32, 59, 32, 61, 32, 123, 32, 125, 32, 91, 32, 93, 32, 44, 32, 49, 50, 32, 120, 49, 32, 108, 111, 99, 107, 32, 103, 111, 32, 105, 102]⟩ : ByteArray).data.toList = .ok LA := by kernel_rfl
def regB (t : Tok) : Bool := (decide (t.kind ≠ 3) || reserved t.text) && (decide (t.kind ≠ 4) || !reserved t.text)
theorem la_reg : LA.all regB = true := by kernel_rfl
theorem reg_of {l : List Tok} (h : ∀ x, x ∈ l → regB x = true) : Reg l := fun k hk => by
 rw [tokAt_lt hk]
 have := h _ (List.getElem_mem hk)
 unfold regB at this
 simp only [Bool.and_eq_true, Bool.or_eq_true, decide_eq_true_eq, Bool.not_eq_true'] at this
 exact ⟨fun h3 => by rcases this.1 with h | h; exact absurd h3 h; exact h, fun h4 => by rcases this.2 with h | h; exact absurd h4 h; exact h⟩
theorem int_atE {w : World} {a : Option Addr} {n cap : Nat} {l : List Int} {i : Nat} (h : RowAt w (.slice a n cap) n (l.map (.int .i64))) (hi : i < l.length) : ∃ b off, a = some ⟨b, off, none⟩ ∧ w.cell? ⟨b, off + i, none⟩ = some (.int .i64 l[i]) := by
 obtain ⟨a', cap', he, hc, hr⟩ := h
 cases he
 rcases hr with h0 | ⟨b, off, rfl, hr⟩
 ·exfalso; have := congrArg List.length h0; rw [List.length_map] at this; simp only [List.length_nil] at this; omega
 ·exact ⟨b, off, rfl, hr i _ (by simp [hi])⟩
def etR (l : List Int) (w1 : World) (v i : Value) (wr : World) : Prop := ∃ (k : Nat) (ts : List Tok), i = .int .i64 k ∧ k ≤ l.length ∧ k ≤ 60 ∧ ts.length = k ∧ (∀ x, x ∈ ts → regB x = true) ∧ wr.ownsRow w1.heap.size 26 4 v ts.length (toksCells ts) ∧ Below w1.heap.size w1 wr
set_option maxRecDepth 100000 in
set_option maxHeartbeats 6400000 in
theorem exprTokens_walkA (A : List Tok) (hlx : lexL (⟨#[97, 32, 98, 32, 55, 32, 40, 32, 41, 32, 45, 32, 33, 32, 43, 32, 42, 32, 47, 32, 37, 32, 60, 32, 60, 61, 32, 62, 32, 62, 61, 32, 61, 61, 32, 33, 61, 32, 38, 38, 32, 124, 124, 32, 59, 32, 61, 32, 123, 32, 125, 32, 91, 32, 93, 32, 44, 32, 49, 50, 32, 120, 49, 32, 108, 111, 99, 107, 32, 103, 111, 32, 105, 102]⟩ : ByteArray).data.toList = .ok A) (hlA : A.length = 32) (hrA : ∀ x, x ∈ A → regB x = true) (l : List Int) (a : Option Addr) (cap : Nat) (at_ : Int) (raw en : Bool) (w : World) (he : Env w) (hes : EnvS w) (hr : RowAt w (.slice a l.length cap) l.length (l.map (.int .i64))) :
  Calls Tryd.prog 3 #[.slice a l.length cap, .int .i64 at_, .bool raw, .bool en] w fun e w' => e = .returned (.bool true) ∧ Below w.heap.size w w' := by
 have HR := Lib.hid hr
 have HE := Lib.hid he
 have HES := Lib.hid hes
 obtain ⟨i0, hi, hz0, hz1, hz2⟩ := info_parts tokInfo
 have HLX := Lib.hid hlx
 have HRA := Lib.hid hrA
 clear hr he hes hlx hrA
 go_enter Tryd.func3, Tryd.ntmps3
 go_wp2_with fail
 refine (tokens_ok _ A w (by decide) HLX.out).mono ?_
 rintro e w1 ⟨⟨v1, rfl, r1⟩, hb1⟩
 obtain ⟨la, lc, rfl, hlc, hlr⟩ := r1
 rw [hlA] at hlc ⊢
 rcases hlr with h0 | ⟨lb, lo, rfl, hlr⟩
 ·rw [toksCells_nil h0] at hlA; simp at hlA
 have HLR := Lib.hid hlr
 have HB1 := Lib.hid hb1
 have hsz1 : w.heap.size ≤ w1.heap.size := hb1.size
 clear hlr hb1
 go_wp2_with fail
 have HLA := Lib.hid hlA
 clear hlA
 go_loopw [10, 11] (fun v i wr => etR l w1 v i wr) (fun _ i _ => l.length - (intOf i).toNat)
 case atStart => exact ⟨0, [], rfl, by omega, by omega, rfl, by simp, ownsRow_nil _ _ _ _, Below.refl _ _⟩
 case round =>
  obtain ⟨k, ts, rfl, hk1, hk2, hlen, hreg, hown, hb⟩ := hrel
  obtain ⟨oa, oc, rfl⟩ := owns_slice hown
  have HBR := Lib.hid (HB1.out.trans (hb.mono hsz1))
  have hszr := hb.size
  have HREG := Lib.hid hreg
  have HLEN := Lib.hid hlen
  have hts : ts.length ≤ 60 := by omega
  by_cases h1 : k < l.length
  ·have h1i : (k : Int) < l.length := by omega
   by_cases h2 : k < 60
   ·have h2i : (k : Int) < 60 := by omega
    obtain ⟨b, off, rfl, q⟩ := int_atE HR.out h1
    have q := cell_step q HBR.out
    obtain ⟨x, hx⟩ : ∃ x, x = l[k] := ⟨_, rfl⟩
    rw [← hx] at q
    obtain ⟨j, hj⟩ : ∃ j : Nat, x % 32 = j := ⟨(x % 32).toNat, by omega⟩
    have hjn : j < 32 := by omega
    have hjl : j < A.length := by rw [HLA.out]; omega
    have hji : (j : Int) < 32 := by omega
    obtain ⟨q1, q2, q3, q4⟩ := tokRow HLR.out j hjl
    have q1 := cell_step q1 hb
    have q2 := cell_step q2 hb
    have q3 := cell_step q3 hb
    have q4 := cell_step q4 hb
    have hrt : regB A[j] = true := HRA.out _ (List.getElem_mem hjl)
    obtain ⟨t, ht⟩ : ∃ t, t = A[j] := ⟨_, rfl⟩
    rw [← ht] at q1 q2 q3 q4 hrt
    have HB := Lib.hid hb
    have HRT := Lib.hid hrt
    have HJ := Lib.hid hj
    have hwk : IntKind.i64.wrap ((k : Int) + 1) = ((k + 1 : Nat) : Int) := IntWalk.i64_in _ (by omega)
    clear hx ht hreg hlen hb hrt hj
    go_wp2_with (first
     | (go_at_call 12; ((with_reducible refine (within_any x 32 _ (by omega) (by omega)).mono ?_); rintro e w2 ⟨rfl, rfl⟩; rw [HJ.out]))
     | (at_builtin; refine wpList_append_own _ rfl _ _ 23 rfl w1.heap.size 26 i0 _ 4 40 Tryd.underlying23 hi hz0 hz1 hz2 rfl (by decide) _ ts.length (toksCells ts) rfl (ownsRow_below hown ((Below.refl _ _).alloc (Nat.le_refl _) _) (Nat.le_refl _)) ⟨wr.heap.size, 0, none⟩ 1 1 [.int .i64 t.kind, .string t.text, .int .i64 t.num, .int .i64 t.pos] rfl rfl (new_cells _ _ _) (by simp [Value.oneCell']) (by unfold maxLen; omega) (by omega) (by simp; omega) ?_))
    intro v2 w2 hown2 hgrow _
    have hb2 : Below w1.heap.size w1 w2 := Below.grow ((HB.out).trans ((Below.refl _ _).alloc hszr _)) hgrow (by simp; omega) (ownsRow_below hown ((Below.refl _ _).alloc (Nat.le_refl _) _) (Nat.le_refl _)) (Nat.le_refl _)
    clear hgrow
    go_wp2_with fail
    go_roundw
    case rel => exact ⟨k + 1, ts ++ [t], by go_num, by omega, by omega, by rw [List.length_append, HLEN.out]; rfl, by intro z hz; rcases List.mem_append.1 hz with hz | hz; exact HREG.out z hz; rw [List.mem_singleton.1 hz]; exact HRT.out, by rw [← toksCells_snoc, List.length_append]; exact hown2, hb2⟩
    case measure => simp [intOf]; omega
   ·have h2i : ¬ (k : Int) < 60 := by omega
    have h2d : decide ((k : Int) < 60) = false := by rw [decide_eq_false_iff_not]; exact h2i
    subst hlen
    cases en with
    | false =>
     have HRF := Lib.hid HREG.out
     have HLF := Lib.hid hts
     cases raw with
     | true =>
      go_wp2_with fail
      refine (sameE_law ts _ at_ wr (RowAt.of_owns hown) (reg_of HRF.out) (by have := HLF.out; omega)).mono ?_
      rintro e w5 ⟨rfl, hb5⟩
      have HB5 := Lib.hid (HBR.out.trans (hb5.mono HBR.out.size))
      clear hb5
      go_wp2_with fail
      refine (awakeE w5 (HE.out.below HB5.out HE.out.size) (HES.out.below HB5.out)).mono ?_
      rintro e w6 ⟨rfl, hb6⟩
      have HB6 := Lib.hid (HB5.out.trans (hb6.mono HB5.out.size))
      clear hb6
      go_wp2_with fail
      go_ret
      exact ⟨rfl, HB6.out⟩
     | false =>
      go_wp2_with fail
      refine (within_any at_ 10 _ (by omega) (by omega)).mono ?_
      rintro e w4 ⟨rfl, rfl⟩
      go_wp2_with fail
      refine (sameE_law ts _ (at_ % 10) wr (RowAt.of_owns hown) (reg_of HRF.out) (by have := HLF.out; omega)).mono ?_
      rintro e w5 ⟨rfl, hb5⟩
      have HB5 := Lib.hid (HBR.out.trans (hb5.mono HBR.out.size))
      clear hb5
      go_wp2_with fail
      refine (awakeE w5 (HE.out.below HB5.out HE.out.size) (HES.out.below HB5.out)).mono ?_
      rintro e w6 ⟨rfl, hb6⟩
      have HB6 := Lib.hid (HB5.out.trans (hb6.mono HB5.out.size))
      clear hb6
      go_wp2_with fail
      go_ret
      exact ⟨rfl, HB6.out⟩
    | true =>
     go_wp2_with (first | (go_at_call 12; fail) | (at_builtin; refine wpList_append_own _ rfl _ _ 23 rfl w1.heap.size 26 i0 _ 4 40 Tryd.underlying23 hi hz0 hz1 hz2 rfl (by decide) _ ts.length (toksCells ts) rfl (ownsRow_below hown ((Below.refl _ _).alloc (Nat.le_refl _) _) (Nat.le_refl _)) ⟨wr.heap.size, 0, none⟩ 1 1 [.int .i64 5, .string ⟨#[]⟩, .int .i64 0, .int .i64 0] rfl rfl (new_cells _ _ _) (by simp [Value.oneCell']) (by unfold maxLen; omega) (by omega) (by simp; omega) ?_))
     intro v2 w2 hown2 hgrow _
     have hb2 : Below w1.heap.size w1 w2 := Below.grow (hb.trans ((Below.refl _ _).alloc hszr _)) hgrow (by simp; omega) (ownsRow_below hown ((Below.refl _ _).alloc (Nat.le_refl _) _) (Nat.le_refl _)) (Nat.le_refl _)
     have hown3 : w2.ownsRow w1.heap.size 26 4 v2 (ts ++ [(⟨5, ⟨#[]⟩, 0, 0⟩ : Tok)]).length (toksCells (ts ++ [(⟨5, ⟨#[]⟩, 0, 0⟩ : Tok)])) := by rw [← toksCells_snoc, List.length_append]; exact hown2
     have HB2 := Lib.hid (HB1.out.trans (hb2.mono hsz1))
     have HRF : Hid (∀ x, x ∈ ts ++ [(⟨5, ⟨#[]⟩, 0, 0⟩ : Tok)] → regB x = true) := Lib.hid (by intro z hz; rcases List.mem_append.1 hz with hz | hz; exact HREG.out z hz; rw [List.mem_singleton.1 hz]; rfl)
     have HLF : Hid ((ts ++ [(⟨5, ⟨#[]⟩, 0, 0⟩ : Tok)]).length ≤ 61) := Lib.hid (by rw [List.length_append]; simp; omega)
     have hlE : (ts ++ [(⟨5, ⟨#[]⟩, 0, 0⟩ : Tok)]).length = ts.length + 1 := by simp
     rw [hlE] at hown3
     clear hgrow hb2 hown2
     cases raw with
     | true =>
      go_wp2_with fail
      refine (sameE_law (ts ++ [(⟨5, ⟨#[]⟩, 0, 0⟩ : Tok)]) _ at_ w2 (RowAt.of_owns (by rw [hlE]; exact hown3)) (reg_of HRF.out) (by have := HLF.out; omega)).mono ?_
      rintro e w5 ⟨rfl, hb5⟩
      have HB5 := Lib.hid (HB2.out.trans (hb5.mono HB2.out.size))
      clear hb5
      go_wp2_with fail
      refine (awakeE w5 (HE.out.below HB5.out HE.out.size) (HES.out.below HB5.out)).mono ?_
      rintro e w6 ⟨rfl, hb6⟩
      have HB6 := Lib.hid (HB5.out.trans (hb6.mono HB5.out.size))
      clear hb6
      go_wp2_with fail
      go_ret
      exact ⟨rfl, HB6.out⟩
     | false =>
      go_wp2_with fail
      refine (within_any at_ 10 _ (by omega) (by omega)).mono ?_
      rintro e w4 ⟨rfl, rfl⟩
      go_wp2_with fail
      refine (sameE_law (ts ++ [(⟨5, ⟨#[]⟩, 0, 0⟩ : Tok)]) _ (at_ % 10) w2 (RowAt.of_owns (by rw [hlE]; exact hown3)) (reg_of HRF.out) (by have := HLF.out; omega)).mono ?_
      rintro e w5 ⟨rfl, hb5⟩
      have HB5 := Lib.hid (HB2.out.trans (hb5.mono HB2.out.size))
      clear hb5
      go_wp2_with fail
      refine (awakeE w5 (HE.out.below HB5.out HE.out.size) (HES.out.below HB5.out)).mono ?_
      rintro e w6 ⟨rfl, hb6⟩
      have HB6 := Lib.hid (HB5.out.trans (hb6.mono HB5.out.size))
      clear hb6
      go_wp2_with fail
      go_ret
      exact ⟨rfl, HB6.out⟩
  ·have h1i : ¬ (k : Int) < l.length := by omega
   have h1d : decide ((k : Int) < l.length) = false := by rw [decide_eq_false_iff_not]; exact h1i
   subst hlen
   cases en with
   | false =>
    have HRF := Lib.hid HREG.out
    have HLF := Lib.hid hts
    cases raw with
    | true =>
     go_wp2_with fail
     refine (sameE_law ts _ at_ wr (RowAt.of_owns hown) (reg_of HRF.out) (by have := HLF.out; omega)).mono ?_
     rintro e w5 ⟨rfl, hb5⟩
     have HB5 := Lib.hid (HBR.out.trans (hb5.mono HBR.out.size))
     clear hb5
     go_wp2_with fail
     refine (awakeE w5 (HE.out.below HB5.out HE.out.size) (HES.out.below HB5.out)).mono ?_
     rintro e w6 ⟨rfl, hb6⟩
     have HB6 := Lib.hid (HB5.out.trans (hb6.mono HB5.out.size))
     clear hb6
     go_wp2_with fail
     go_ret
     exact ⟨rfl, HB6.out⟩
    | false =>
     go_wp2_with fail
     refine (within_any at_ 10 _ (by omega) (by omega)).mono ?_
     rintro e w4 ⟨rfl, rfl⟩
     go_wp2_with fail
     refine (sameE_law ts _ (at_ % 10) wr (RowAt.of_owns hown) (reg_of HRF.out) (by have := HLF.out; omega)).mono ?_
     rintro e w5 ⟨rfl, hb5⟩
     have HB5 := Lib.hid (HBR.out.trans (hb5.mono HBR.out.size))
     clear hb5
     go_wp2_with fail
     refine (awakeE w5 (HE.out.below HB5.out HE.out.size) (HES.out.below HB5.out)).mono ?_
     rintro e w6 ⟨rfl, hb6⟩
     have HB6 := Lib.hid (HB5.out.trans (hb6.mono HB5.out.size))
     clear hb6
     go_wp2_with fail
     go_ret
     exact ⟨rfl, HB6.out⟩
   | true =>
    go_wp2_with (first | (go_at_call 12; fail) | (at_builtin; refine wpList_append_own _ rfl _ _ 23 rfl w1.heap.size 26 i0 _ 4 40 Tryd.underlying23 hi hz0 hz1 hz2 rfl (by decide) _ ts.length (toksCells ts) rfl (ownsRow_below hown ((Below.refl _ _).alloc (Nat.le_refl _) _) (Nat.le_refl _)) ⟨wr.heap.size, 0, none⟩ 1 1 [.int .i64 5, .string ⟨#[]⟩, .int .i64 0, .int .i64 0] rfl rfl (new_cells _ _ _) (by simp [Value.oneCell']) (by unfold maxLen; omega) (by omega) (by simp; omega) ?_))
    intro v2 w2 hown2 hgrow _
    have hb2 : Below w1.heap.size w1 w2 := Below.grow (hb.trans ((Below.refl _ _).alloc hszr _)) hgrow (by simp; omega) (ownsRow_below hown ((Below.refl _ _).alloc (Nat.le_refl _) _) (Nat.le_refl _)) (Nat.le_refl _)
    have hown3 : w2.ownsRow w1.heap.size 26 4 v2 (ts ++ [(⟨5, ⟨#[]⟩, 0, 0⟩ : Tok)]).length (toksCells (ts ++ [(⟨5, ⟨#[]⟩, 0, 0⟩ : Tok)])) := by rw [← toksCells_snoc, List.length_append]; exact hown2
    have HB2 := Lib.hid (HB1.out.trans (hb2.mono hsz1))
    have HRF : Hid (∀ x, x ∈ ts ++ [(⟨5, ⟨#[]⟩, 0, 0⟩ : Tok)] → regB x = true) := Lib.hid (by intro z hz; rcases List.mem_append.1 hz with hz | hz; exact HREG.out z hz; rw [List.mem_singleton.1 hz]; rfl)
    have HLF : Hid ((ts ++ [(⟨5, ⟨#[]⟩, 0, 0⟩ : Tok)]).length ≤ 61) := Lib.hid (by rw [List.length_append]; simp; omega)
    have hlE : (ts ++ [(⟨5, ⟨#[]⟩, 0, 0⟩ : Tok)]).length = ts.length + 1 := by simp
    rw [hlE] at hown3
    clear hgrow hb2 hown2
    cases raw with
    | true =>
     go_wp2_with fail
     refine (sameE_law (ts ++ [(⟨5, ⟨#[]⟩, 0, 0⟩ : Tok)]) _ at_ w2 (RowAt.of_owns (by rw [hlE]; exact hown3)) (reg_of HRF.out) (by have := HLF.out; omega)).mono ?_
     rintro e w5 ⟨rfl, hb5⟩
     have HB5 := Lib.hid (HB2.out.trans (hb5.mono HB2.out.size))
     clear hb5
     go_wp2_with fail
     refine (awakeE w5 (HE.out.below HB5.out HE.out.size) (HES.out.below HB5.out)).mono ?_
     rintro e w6 ⟨rfl, hb6⟩
     have HB6 := Lib.hid (HB5.out.trans (hb6.mono HB5.out.size))
     clear hb6
     go_wp2_with fail
     go_ret
     exact ⟨rfl, HB6.out⟩
    | false =>
     go_wp2_with fail
     refine (within_any at_ 10 _ (by omega) (by omega)).mono ?_
     rintro e w4 ⟨rfl, rfl⟩
     go_wp2_with fail
     refine (sameE_law (ts ++ [(⟨5, ⟨#[]⟩, 0, 0⟩ : Tok)]) _ (at_ % 10) w2 (RowAt.of_owns (by rw [hlE]; exact hown3)) (reg_of HRF.out) (by have := HLF.out; omega)).mono ?_
     rintro e w5 ⟨rfl, hb5⟩
     have HB5 := Lib.hid (HB2.out.trans (hb5.mono HB2.out.size))
     clear hb5
     go_wp2_with fail
     refine (awakeE w5 (HE.out.below HB5.out HE.out.size) (HES.out.below HB5.out)).mono ?_
     rintro e w6 ⟨rfl, hb6⟩
     have HB6 := Lib.hid (HB5.out.trans (hb6.mono HB5.out.size))
     clear hb6
     go_wp2_with fail
     go_ret
     exact ⟨rfl, HB6.out⟩
theorem exprTokens_walk (l : List Int) (a : Option Addr) (cap : Nat) (at_ : Int) (raw en : Bool) (w : World) (he : Env w) (hes : EnvS w) (hr : RowAt w (.slice a l.length cap) l.length (l.map (.int .i64))) :
  Calls Tryd.prog 3 #[.slice a l.length cap, .int .i64 at_, .bool raw, .bool en] w fun e w' => e = .returned (.bool true) ∧ Below w.heap.size w w' :=
 exprTokens_walkA LA la_lex rfl (List.all_eq_true.1 la_reg) l a cap at_ raw en w he hes hr
set_option maxRecDepth 100000 in
theorem exprTokens_contract (H : Type) (enc : TypeId × Value → H) (W : World) (base : Nat) (args : Array Value) (ds gs : List (DataW H)) (before : List MemPlace)
  (hval : ∀ (j : Nat) t v, Tryd.f3.params[j]? = some t → args[j]? = some v → Value.okWide Tryd.prog W .any base t v)
  (hW : DataW.Whole enc Tryd.prog Tryd.f3.params.toList Rows.exprTokensSpec.vars false W args.toList ds gs before) (he : Env W ∧ EnvS W) :
  Calls Tryd.prog 3 args W fun e W' => ∃ v, e = .returned v ∧ Rows.exprTokensSpec.post enc Tryd.prog Tryd.f3 false true false false W args v W' := by
 have hW' := hW
 obtain ⟨p, q, hA0, hV, rfl, hfz, hnd⟩ := hW
 have hA : DataW.TrodAll enc Tryd.prog W 0 (fun _ => true) true Tryd.f3.params.toList args.toList ds p := hA0
 rw [Tryd.params3] at hA hval
 obtain ⟨v0, vs0, d0, ds0, p0, q0, hargs, rfl, rfl, h0, r0⟩ := trodAll_cons hA
 obtain ⟨v1, vs1, d1, ds1, p1, q1, rfl, rfl, rfl, h1, r1⟩ := trodAll_cons r0
 obtain ⟨v2, vs2, d2, ds2, p2, q2, rfl, rfl, rfl, h2, r2⟩ := trodAll_cons r1
 obtain ⟨v3, vs3, d3, ds3, p3, q3, rfl, rfl, rfl, h3, r3⟩ := trodAll_cons r2
 obtain ⟨rfl, rfl, rfl⟩ := trodAll_nil r3
 obtain rfl : args = #[v0, v1, v2, v3] := by cases args; simp_all
 have walk : Calls Tryd.prog 3 #[v0, v1, v2, v3] W fun e w' => e = .returned (.bool true) ∧ Below W.heap.size W w' := by
  obtain ⟨l, a, cap, rfl, hc, hcm, hr⟩ := open_intsR (hval 0 22 v0 rfl rfl) h0
  obtain ⟨n, rfl, rfl, rfl, hn⟩ := open_int Tryd.underlying3 (hval 1 3 v1 rfl rfl) h1
  obtain ⟨m, rfl, rfl, rfl⟩ := open_bool Tryd.underlying4 (hval 2 4 v2 rfl rfl) h2
  obtain ⟨m3, rfl, rfl, rfl⟩ := open_bool Tryd.underlying4 (hval 3 4 v3 rfl rfl) h3
  exact exprTokens_walk l a cap n m m3 W he.1 he.2 hr
 refine walk.mono fun e W' ⟨he, hb⟩ => ?_
 subst he
 exact law_post hW' rfl rfl (by rw [Tryd.params3]; intro t ht; simp at ht; rcases ht with rfl | rfl | rfl | rfl <;> exact ⟨by kernel_rfl, of_decide_eq_true (by kernel_rfl)⟩) rfl hb
theorem exprTokens_reads (os : Os) {H : Type} (enc : TypeId × Value → H) : ∃ places, DataW.whole enc Tryd.prog ((World.doorLaid Tryd.prog 60 os).forCall (fun _ _ => 0) ⟨#[], #[.slice none 0 0, .int .i64 0, .bool false, .bool false], []⟩).memory Tryd.f3.params.toList Rows.exprTokensSpec.vars false (#[.slice none 0 0, .int .i64 0, .bool false, .bool false] : Array Value).toList 8 = some ([.nil, .lit (.int .i64 0), .lit (.bool false), .lit (.bool false)], [], places) :=
 ⟨[], by kernel_rfl⟩
set_option maxRecDepth 100000 in
theorem exprTokens_lifted (os : Os) (started : os.Started) (H : Type) (enc : TypeId × Value → H) (F : Stop.Interp) :
  ReturnsInHanded {} Tryd.checked os 3 .any ((OpenSpec.ofChange Rows.exprTokensSpec).preRow enc Tryd.prog Tryd.f3 Rows.exprTokensRow.domain false Rows.exprTokensRow.laid) (((OpenSpec.ofChange Rows.exprTokensSpec).at F).post enc Tryd.prog Tryd.f3 false true false false) := by
 obtain ⟨places, hx⟩ := exprTokens_reads os enc
 refine returnsInHanded_of_row (C := Tryd.checked) (s := OpenSpec.ofChange Rows.exprTokensSpec) own started (by kernel_rfl) Tryd.func3
  (witness_row_at (enc := enc) (C := Tryd.checked) false (World.doorLaid Tryd.prog 60 os) #[.slice none 0 0, .int .i64 0, .bool false, .bool false] rfl (by kernel_rfl) (by kernel_rfl) (by kernel_rfl)
   (OpenSpec.preRow_of_cond 8 hx (by kernel_rfl) (fun k hk => by cases hk) (by kernel_rfl) (laid_met5 os _))) ?_
 intro W base args ds gs before hval hW _ _ _ hL hSh _
 exact exprTokens_contract H enc W base args ds gs before hval hW (env_of5 hL hSh)
theorem exprTokens_said : Rows.ExprTokensSaid :=
 OpenClaim.holds_of_cond 3 Tryd.f3 rfl rfl rfl rfl rfl rfl rfl ⟨rfl, rfl, rfl, rfl, rfl⟩ rfl rfl rfl rfl rfl (by kernel_rfl) Tryd.func3 (by kernel_rfl)
  (of_decide_eq_true (by kernel_rfl)) (by unfold Func.isWrapper; first | (rw [if_pos (by decide +kernel)]; kernel_rfl) | (rw [if_neg (by decide +kernel)]; exact ⟨rfl, rfl⟩))
  (fun os started H enc _ F => by rw [OpenClaim.pre_eq_preRow]; exact exprTokens_lifted os started H enc F)
theorem exprTokens_plain (f : FuncId) (fn : Func) (hf : Tryd.pinned.checked.prog.funcNamed "lockorder/lockorderlaw02.ExprTokens" = some f) (hfn : Tryd.pinned.checked.prog.funcs[f]? = some fn) :
  false = Tryd.pinned.checked.prog.looks [] ∧ ∀ (j : Nat) t, fn.params[j]? = some t → Tryd.pinned.checked.prog.wantsStandIn t = false := by
 obtain rfl : f = 3 := Option.some.inj ((show Tryd.prog.funcNamed "lockorder/lockorderlaw02.ExprTokens" = some 3 by kernel_rfl).symm.trans hf) |>.symm
 obtain rfl : fn = Tryd.f3 := (Option.some.inj (Tryd.func3.symm.trans hfn)).symm
 refine ⟨by kernel_rfl, fun j t ht => ?_⟩
 rw [Tryd.params3] at ht
 have hm : t ∈ [22, 3, 4, 4] := by simpa using Array.mem_of_getElem? ht
 have hall : ([22, 3, 4, 4].all fun u => !Tryd.prog.wantsStandIn u) = true := by kernel_rfl
 exact (show Tryd.prog.wantsStandIn t = false by simpa using List.all_eq_true.1 hall t hm)
theorem exprTokens_card : Rows.ExprTokensCardSaid :=
 Claim7.holds_tied_plain_at .later [] _ _ _ _ exprTokens_said (fun _ h => by cases h) (by kernel_rfl) (fun _ h => by cases h) exprTokens_row_tie rfl ⟨rfl, rfl⟩ (by kernel_rfl) rfl exprTokens_plain (by kernel_rfl)
#print axioms exprTokens_card
end Go.Proofs.YtiimofjemiffgaaDoor
