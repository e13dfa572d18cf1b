import Derived.Test.YtiimofjemiffgaaDoorEFmtJ
import Derived.Test.YtiimofjemiffgaaDoorA5J
import Derived.Test.YtiimofjemiffgaaDoorA6J
set_option linter.unusedVariables false
set_option linter.unusedSimpArgs false
namespace Go.Proofs.YtiimofjemiffgaaDoor
open Go.RowKit
def NoRead (l : List Tok) (k : Int) : Prop := k < 0 ∨ (l.length : Int) ≤ k ∨ ∃ h : 0 < l.length, 0 ≤ k ∧ k < l.length ∧ (l[l.length - 1]'(by omega)).kind ≠ 5
theorem read_or (l : List Tok) (k : Int) : NoRead l k ∨ ∃ j : Nat, k = j ∧ j < l.length ∧ EndAt l := by
 by_cases h1 : k < 0
 ·exact .inl (.inl h1)
 by_cases h2 : (l.length : Int) ≤ k
 ·exact .inl (.inr (.inl h2))
 have h0 : 0 < l.length := by omega
 by_cases h3 : (l[l.length - 1]'(by omega)).kind = 5
 ·exact .inr ⟨k.toNat, by omega, by omega, h0, h3⟩
 ·exact .inl (.inr (.inr ⟨h0, by omega, by omega, h3⟩))
set_option maxRecDepth 100000 in
set_option maxHeartbeats 1600000 in
theorem exprParse_bad (l : List Tok) (v : Value) (k : Int) (w : World) (hv : RowAt w v l.length (toksCells l)) (hbig : l.length ≤ 1000000) (hb : NoRead l k) :
  Calls Tryd.prog 15 #[v, .int .i64 k] w fun e w' => e = .returned (.tuple #[.agg #[.int .i64 0, .int .i64 0, .string ⟨#[]⟩, .slice none 0 0], .int .i64 k, .int .i64 4]) ∧ Below w.heap.size w w' := by
 obtain ⟨a, c, rfl, hc, hr⟩ := hv
 rcases hb with h1 | h1 | ⟨h0, h1, h2, h5⟩
 ·have hd : decide (k < 0) = true := by rw [decide_eq_true_iff]; exact h1
  clear hr
  go_enter Tryd.func15, Tryd.ntmps15
  go_wp2_with fail
  refine bodyPost_ret (v := .tuple #[.agg #[.int .i64 0, .int .i64 0, .string ⟨#[]⟩, .slice none 0 0], .int .i64 k, .int .i64 4]) (by simp [results, Tryd.results15, go_sem]) rfl ?_
  exact ⟨rfl, (Below.refl _ _).alloc (Nat.le_refl _) _⟩
 ·by_cases hneg : k < 0
  ·have hd : decide (k < 0) = true := by rw [decide_eq_true_iff]; exact hneg
   clear hr h1
   go_enter Tryd.func15, Tryd.ntmps15
   go_wp2_with fail
   refine bodyPost_ret (v := .tuple #[.agg #[.int .i64 0, .int .i64 0, .string ⟨#[]⟩, .slice none 0 0], .int .i64 k, .int .i64 4]) (by simp [results, Tryd.results15, go_sem]) rfl ?_
   exact ⟨rfl, (Below.refl _ _).alloc (Nat.le_refl _) _⟩
  have hd : decide (k < 0) = false := by rw [decide_eq_false_iff_not]; omega
  have hd2 : decide ((l.length : Int) ≤ k) = true := by rw [decide_eq_true_iff]; exact h1
  clear hr
  have h1' : ¬ k < 0 := hneg
  go_enter Tryd.func15, Tryd.ntmps15
  go_wp2_with fail
  refine bodyPost_ret (v := .tuple #[.agg #[.int .i64 0, .int .i64 0, .string ⟨#[]⟩, .slice none 0 0], .int .i64 k, .int .i64 4]) (by simp [results, Tryd.results15, go_sem]) rfl ?_
  exact ⟨rfl, (Below.refl _ _).alloc (Nat.le_refl _) _⟩
 ·rcases hr with hz | ⟨b, off, rfl, hr⟩
  ·rw [toksCells_nil hz] at h0; simp at h0
  obtain ⟨q1, _, _, _⟩ := tokRow hr (l.length - 1) (by omega)
  have hd : decide (k < 0) = false := by rw [decide_eq_false_iff_not]; omega
  have hd2 : decide ((l.length : Int) ≤ k) = false := by rw [decide_eq_false_iff_not]; omega
  have n5 : ((((l[l.length - 1]'(by omega)).kind : Nat) : Int) != 5) = true := by simp; omega
  have hw1 : IntKind.i64.wrap ((l.length : Int) - 1) = ((l.length - 1 : Nat) : Int) := by rw [show (l.length : Int) - 1 = ((l.length - 1 : Nat) : Int) by omega]; exact IntWalk.i64_in _ (by omega)
  have hlt1 : ((l.length - 1 : Nat) : Int) < l.length := by omega
  have q1 := cell_step q1 ((Below.refl w.heap.size w).alloc (Nat.le_refl _) (.cells #[.int .i64 0, .int .i64 0, .string ⟨#[]⟩, .slice none 0 0] 34))
  obtain ⟨kd, hkd⟩ : ∃ kd, kd = (l[l.length - 1]'(by omega)).kind := ⟨_, rfl⟩
  rw [← hkd] at q1 n5
  clear hr h5 hkd
  go_enter Tryd.func15, Tryd.ntmps15
  go_wp2_with fail
  refine bodyPost_ret (v := .tuple #[.agg #[.int .i64 0, .int .i64 0, .string ⟨#[]⟩, .slice none 0 0], .int .i64 k, .int .i64 4]) (by simp [results, Tryd.results15, go_sem]) rfl ?_
  exact ⟨rfl, (Below.refl _ _).alloc (Nat.le_refl _) _⟩
set_option maxRecDepth 100000 in
set_option maxHeartbeats 1600000 in
theorem open_bad (l : List Tok) (v : Value) (k : Int) (w : World) (hv : RowAt w v l.length (toksCells l)) (hbig : l.length ≤ 1000000) (hb : NoRead l k) :
  Calls Tryd.prog 46 #[v, .int .i64 k] w fun e w' => e = .returned (.bool false) ∧ w = w' := by
 obtain ⟨a, c, rfl, hc, hr⟩ := hv
 rcases hb with h1 | h1 | ⟨h0, h1, h2, h5⟩
 ·have hd : decide (0 ≤ k) = false := by rw [decide_eq_false_iff_not]; omega
  clear hr
  go_enter Tryd.func46, Tryd.ntmps46
  go_wp2_with fail
  go_ret
  exact ⟨rfl, rfl⟩
 ·by_cases hneg : k < 0
  ·have hd : decide (0 ≤ k) = false := by rw [decide_eq_false_iff_not]; omega
   clear hr h1
   go_enter Tryd.func46, Tryd.ntmps46
   go_wp2_with fail
   go_ret
   exact ⟨rfl, rfl⟩
  have hd : decide (0 ≤ k) = true := by rw [decide_eq_true_iff]; omega
  have hd2 : decide (k < (l.length : Int)) = false := by rw [decide_eq_false_iff_not]; omega
  clear hr
  have h1' : ¬ k < 0 := hneg
  go_enter Tryd.func46, Tryd.ntmps46
  go_wp2_with fail
  go_ret
  exact ⟨rfl, rfl⟩
 ·rcases hr with hz | ⟨b, off, rfl, hr⟩
  ·rw [toksCells_nil hz] at h0; simp at h0
  obtain ⟨q1, _, _, _⟩ := tokRow hr (l.length - 1) (by omega)
  have hd : decide (0 ≤ k) = true := by rw [decide_eq_true_iff]; omega
  have hd2 : decide (k < (l.length : Int)) = true := by rw [decide_eq_true_iff]; omega
  have n5 : ((((l[l.length - 1]'(by omega)).kind : Nat) : Int) == 5) = false := by rw [beq_eq_false_iff_ne]; omega
  have hw1 : IntKind.i64.wrap ((l.length : Int) - 1) = ((l.length - 1 : Nat) : Int) := by rw [show (l.length : Int) - 1 = ((l.length - 1 : Nat) : Int) by omega]; exact IntWalk.i64_in _ (by omega)
  have hlt1 : ((l.length - 1 : Nat) : Int) < l.length := by omega
  obtain ⟨kd, hkd⟩ : ∃ kd, kd = (l[l.length - 1]'(by omega)).kind := ⟨_, rfl⟩
  rw [← hkd] at q1 n5
  clear hr h5 hkd
  go_enter Tryd.func46, Tryd.ntmps46
  go_wp2_with fail
  go_ret
  exact ⟨rfl, rfl⟩
set_option maxRecDepth 100000 in
set_option maxHeartbeats 1600000 in
theorem refExpr_bad (l : List Tok) (v : Value) (k : Int) (w : World) (hv : RowAt w v l.length (toksCells l)) (hbig : l.length ≤ 1000000) (hb : NoRead l k) :
  Calls Tryd.prog 26 #[v, .int .i64 k] w fun e w' => e = .returned (.tuple #[.agg #[.int .i64 0, .int .i64 0, .string ⟨#[]⟩, .slice none 0 0], .int .i64 k, .int .i64 4]) ∧ Below w.heap.size w w' := by
 have HO := Lib.hid (open_bad l v k _ (rowAt_old hv (.cells #[.int .i64 0, .int .i64 0, .string ⟨#[]⟩, .slice none 0 0] 34)) hbig hb)
 clear hb
 obtain ⟨a, c, rfl, hc, hr⟩ := hv
 go_enter Tryd.func26, Tryd.ntmps26
 go_wp2_with fail
 refine HO.out.mono ?_
 rintro e w1 ⟨rfl, rfl⟩
 go_wp2_with fail
 refine bodyPost_ret (v := .tuple #[.agg #[.int .i64 0, .int .i64 0, .string ⟨#[]⟩, .slice none 0 0], .int .i64 k, .int .i64 4]) (by simp [results, Tryd.results26, go_sem]) rfl ?_
 exact ⟨rfl, (Below.refl _ _).alloc (Nat.le_refl _) _⟩
theorem rlexE_str (s : ByteArray) (w : World) (hs : s.size < 9223372036854775808) (c : Nat) (hc : c = grownCap w s.size 0 5) (fr : Nat × Nat) :
  Calls Tryd.prog 20 #[.slice (some ⟨w.heap.size, 0, none⟩) s.size c] ((w.alloc (.cells (bytesRow s c) 5 fr)).drew)
   fun e w' => (∃ v pos er, e = .returned (.tuple #[v, .int .i64 pos, .int .i64 er]) ∧ LexR w' s.data.toList v pos er) ∧ Below w.heap.size w w' := by
 subst hc
 exact (rLex_any s.data.toList _ (w.drew.alloc _) (row_of_string w s _ _ (grownCap_le w _ _ hs).1 _) (fun _ _ c h => by cases h; exact (grownCap_le w _ _ hs).2)).mono fun e w' ⟨h, hb⟩ => ⟨h, Below.step (below_str w _) hb⟩
set_option maxRecDepth 100000 in
set_option maxHeartbeats 1600000 in
theorem tokens_ok (s : ByteArray) (l : List Tok) (w : World) (hs : s.size < 9223372036854775808) (hl : lexL s.data.toList = .ok l) :
  Calls Tryd.prog 11 #[.string s] w fun e w' => (∃ v, e = .returned v ∧ RowAt w' v l.length (toksCells l)) ∧ Below w.heap.size w w' := by
 have HL := Lib.hid hl
 have hbo := bytes_of w s
 clear hl
 go_enter Tryd.func11, Tryd.ntmps11
 go_wp2_with fail
 refine (rlexE_str s w hs _ rfl _).mono ?_
 rintro e w1 ⟨⟨v, pos, er, rfl, hr⟩, hb⟩
 have hrow : RowAt w1 v l.length (toksCells l) := by
  rcases hr with ⟨l', h1, h2, _⟩ | ⟨p, e, h1, _⟩
  ·rw [HL.out] at h1; cases h1; exact h2
  ·rw [HL.out] at h1; cases h1
 have HR := Lib.hid hrow
 clear hr hrow
 go_wp2_with fail
 go_ret
 exact ⟨⟨v, rfl, HR.out⟩, hb⟩
theorem row_h {w : World} {v : Value} {n : Nat} {c : List Value} (h : RowAt w v n c) : RowAt (hideL [] w) v n c := h.mono fun a u ha => by rw [hideL_cell_ne _ _ _ (by simp)]; exact ha
theorem keep_bel {w w' : World} (h : Keep [] w w') : Below w.heap.size w w' := h.below (Nat.le_refl _) (by simp)
set_option maxRecDepth 100000 in
set_option maxHeartbeats 3200000 in
theorem sameE_law (l : List Tok) (v : Value) (k : Int) (w : World) (hv : RowAt w v l.length (toksCells l)) (hreg : Reg l) (hbig : l.length ≤ 300000) :
  Calls Tryd.prog 13 #[v, .int .i64 k] w fun e w' => e = .returned (.bool true) ∧ Below w.heap.size w w' := by
 have key : ∃ (x : AExpr) (n er : Int), x.nodes ≤ 1000000 ∧
   (∀ w1 : World, RowAt w1 v l.length (toksCells l) → Calls Tryd.prog 15 #[v, .int .i64 k] w1 fun e w' => (∃ (a : Option Addr) (c : Nat), e = .returned (.tuple #[.agg #[.int .i64 x.op, .int .i64 x.num, .string x.name, .slice a x.args.length c], .int .i64 n, .int .i64 er]) ∧ ExprRep w' x [.int .i64 x.op, .int .i64 x.num, .string x.name, .slice a x.args.length c]) ∧ Below w1.heap.size w1 w') ∧
   (∀ w1 : World, RowAt w1 v l.length (toksCells l) → Calls Tryd.prog 26 #[v, .int .i64 k] w1 fun e w' => (∃ (a : Option Addr) (c : Nat), e = .returned (.tuple #[.agg #[.int .i64 x.op, .int .i64 x.num, .string x.name, .slice a x.args.length c], .int .i64 n, .int .i64 er]) ∧ ExprRep w' x [.int .i64 x.op, .int .i64 x.num, .string x.name, .slice a x.args.length c]) ∧ Below w1.heap.size w1 w') := by
  rcases read_or l k with hn | ⟨j, rfl, hj, hel⟩
  ·refine ⟨.mk 0 0 emptyB [], k, 4, by rw [nodes_zero]; omega, fun w1 h1 => (exprParse_bad l v k w1 h1 (by omega) hn).mono ?_, fun w1 h1 => (refExpr_bad l v k w1 h1 (by omega) hn).mono ?_⟩
   ·rintro e w' ⟨rfl, hb⟩; exact ⟨⟨none, 0, rfl, exprRep_leaf _ _ _ _⟩, hb⟩
   ·rintro e w' ⟨rfl, hb⟩; exact ⟨⟨none, 0, rfl, exprRep_leaf _ _ _ _⟩, hb⟩
  ·have hfew := exprP_few l j
   have hin := exprP_in hel hj
   cases hr : exprP l j with
   | ok x k' =>
    rw [hr] at hfew hin
    have h2 : x.nodes + 3 * j ≤ 3 * k' := hfew
    refine ⟨x, k', 0, by have := hin.2; omega, fun w1 h1 => (exprParse_ok l v j [] w1 (row_h h1) hel hj (by omega) (by simp)).mono ?_, fun w1 h1 => (refExpr_ok l v j [] w1 (row_h h1) hreg hel hj (by omega) (by simp)).mono ?_⟩
    ·rintro e w' ⟨h3, hb⟩; rw [hr] at h3; obtain ⟨a, c, rfl, h4⟩ := h3; exact ⟨⟨a, c, rfl, ExprRep.mono unhide _ h4⟩, keep_bel hb⟩
    ·rintro e w' ⟨h3, hb⟩; rw [hr] at h3; obtain ⟨a, c, rfl, h4⟩ := h3; exact ⟨⟨a, c, rfl, ExprRep.mono unhide _ h4⟩, keep_bel hb⟩
   | err a er =>
    refine ⟨.mk 0 0 emptyB [], a, er, by rw [nodes_zero]; omega, fun w1 h1 => (exprParse_ok l v j [] w1 (row_h h1) hel hj (by omega) (by simp)).mono ?_, fun w1 h1 => (refExpr_ok l v j [] w1 (row_h h1) hreg hel hj (by omega) (by simp)).mono ?_⟩
    ·rintro e w' ⟨h3, hb⟩; rw [hr] at h3; obtain rfl := h3; exact ⟨⟨none, 0, rfl, exprRep_leaf _ _ _ _⟩, keep_bel hb⟩
    ·rintro e w' ⟨h3, hb⟩; rw [hr] at h3; obtain rfl := h3; exact ⟨⟨none, 0, rfl, exprRep_leaf _ _ _ _⟩, keep_bel hb⟩
 obtain ⟨x, n, er, hnd, h1, h2⟩ := key
 have H1 := Lib.hid h1
 have H2 := Lib.hid h2
 have HV := Lib.hid hv
 have HSE := Lib.hid (sameE_any _ x (Nat.le_refl _) hnd)
 clear h1 h2 hnd hreg
 obtain ⟨sa, sc, rfl, hsc, hr⟩ := hv
 clear hr
 have n1 : (n == n) = true := by simp
 have n2 : (er == er) = true := by simp
 go_enter Tryd.func13, Tryd.ntmps13
 go_wp2_with fail
 refine (H1.out w HV.out).mono ?_
 rintro e w1 ⟨⟨xa, xc, rfl, xr⟩, hb1⟩
 have hA := (Below.refl w1.heap.size w1).alloc (Nat.le_refl _) (.cells #[.int .i64 x.op, .int .i64 x.num, .string x.name, .slice xa x.args.length xc] 34)
 have HXR := Lib.hid (ExprRep.below hA _ xr)
 have HB2 := Lib.hid (Below.step hb1 hA)
 have bx := box4_new w1 (.int .i64 x.op) (.int .i64 x.num) (.string x.name) (.slice xa x.args.length xc) 34
 have hz : w1.heap.size < (w1.alloc (.cells #[.int .i64 x.op, .int .i64 x.num, .string x.name, .slice xa x.args.length xc] 34)).heap.size := by simp
 clear xr hb1 hA
 go_wp2_with fail
 generalize w1.alloc (.cells #[.int .i64 x.op, .int .i64 x.num, .string x.name, .slice xa x.args.length xc] 34) = w2 at HXR HB2 bx hz ⊢
 generalize w1.heap.size = B at bx hz ⊢
 refine (H2.out w2 (HV.out.below HB2.out (Nat.le_refl _))).mono ?_
 rintro e w3 ⟨⟨ya, yc, rfl, yr⟩, hb3⟩
 have hA := (Below.refl w3.heap.size w3).alloc (Nat.le_refl _) (.cells #[.int .i64 x.op, .int .i64 x.num, .string x.name, .slice ya x.args.length yc] 34)
 have hb4 := Below.step hb3 hA
 have HXR4 := Lib.hid (ExprRep.below hb4 _ HXR.out)
 have HYR4 := Lib.hid (ExprRep.below hA _ yr)
 have HB4 := Lib.hid (Below.step HB2.out hb4)
 have bx4 := bx.keep (Keep.of_below (H := []) hb4) (by simp)
 unfold Box4 at bx4
 clear yr hb3 hA hb4 bx
 go_wp2_with fail
 refine (HSE.out _ _ _ HXR4.out HYR4.out).mono ?_
 rintro e w5 ⟨rfl, hb5⟩
 go_wp2_with fail
 go_ret
 exact ⟨rfl, Below.step HB4.out hb5⟩
end Go.Proofs.YtiimofjemiffgaaDoor
namespace Go.Proofs.YtiimofjemiffgaaDoor
open Go.RowKit
def tk (k : Nat) (s : List UInt8) (n p : Nat) : Tok := ⟨k, bytes s, n, p⟩
def L1 : List Tok := [tk 1 [97] 0 0, tk 4 [43] 0 2, tk 1 [98] 0 4, tk 4 [42] 0 6, tk 4 [45] 0 8, tk 2 [49] 1 9, tk 4 [60] 0 11, tk 2 [50] 2 13, tk 5 [] 0 14]
def L2 : List Tok := [tk 1 [97] 0 0, tk 4 [45] 0 2, tk 4 [40] 0 4, tk 1 [98] 0 5, tk 4 [45] 0 7, tk 1 [99] 0 9, tk 4 [41] 0 10, tk 5 [] 0 11]
def L3 : List Tok := [tk 1 [97] 0 0, tk 4 [43] 0 2, tk 4 [41] 0 4, tk 5 [] 0 5]
theorem l1_lex : lexL (⟨#[97, 32, 43, 32, 98, 32, 42, 32, 45, 49, 32, 60, 32, 50]⟩ : ByteArray).data.toList = .ok L1 := by kernel_rfl
theorem l2_lex : lexL (⟨#[97, 32, 45, 32, 40, 98, 32, 45, 32, 99, 41]⟩ : ByteArray).data.toList = .ok L2 := by kernel_rfl
theorem l3_lex : lexL (⟨#[97, 32, 43, 32, 41]⟩ : ByteArray).data.toList = .ok L3 := by kernel_rfl
def lf (s : List UInt8) : AExpr := .mk 2 0 (bytes s) []
def nf (n : Int) : AExpr := .mk 1 n emptyB []
def X1 : AExpr := .mk 10 0 emptyB [.mk 8 0 emptyB [lf [97], .mk 5 0 emptyB [lf [98], .mk 3 0 emptyB [nf 1]]], nf 2]
def X2 : AExpr := .mk 9 0 emptyB [lf [97], .mk 9 0 emptyB [lf [98], lf [99]]]
theorem l1_parse : exprP L1 0 = .ok X1 8 := by kernel_rfl
theorem l2_parse : exprP L2 0 = .ok X2 7 := by kernel_rfl
theorem l3_parse : exprP L3 0 = .err 2 4 := by kernel_rfl
theorem l1_end : EndAt L1 := ⟨by decide, rfl⟩
theorem l2_end : EndAt L2 := ⟨by decide, rfl⟩
theorem l3_end : EndAt L3 := ⟨by decide, rfl⟩
theorem x1_facts : shapeB X1 = true ∧ heightN X1 = 1 ∧ X1.nodes = 15 ∧ X1.op = 10 := ⟨by kernel_rfl, by kernel_rfl, by kernel_rfl, rfl⟩
theorem x2_facts : shapeB X2 = true ∧ heightN X2 = 1 ∧ X2.nodes = 9 ∧ noNum X2 = true ∧ exprText X2 = [97, 32, 45, 32, 40, 98, 32, 45, 32, 99, 41] := ⟨by kernel_rfl, by kernel_rfl, by kernel_rfl, by kernel_rfl, by kernel_rfl⟩
set_option maxRecDepth 100000 in
set_option maxHeartbeats 6400000 in
theorem awakeE (w : World) (he : Env w) (hes : EnvS w) : Calls Tryd.prog 14 #[] w fun e w' => e = .returned (.bool true) ∧ Below w.heap.size w w' := by
 obtain ⟨X, hX⟩ : ∃ X, X = X1 := ⟨_, rfl⟩
 obtain ⟨Y, hY⟩ : ∃ Y, Y = X2 := ⟨_, rfl⟩
 have P1 := l1_parse
 have P2 := l2_parse
 have F1 := x1_facts
 have F2 := x2_facts
 rw [← hX] at P1 F1
 rw [← hY] at P2 F2
 have HP1 := Lib.hid P1
 have HP2 := Lib.hid P2
 have HF1 := Lib.hid F1
 have HF2 := Lib.hid F2
 have n10 : (X.op == 10) = true := by rw [F1.2.2.2]; rfl
 have HE := Lib.hid he
 have HES := Lib.hid hes
 have hst := strL_true (rfl : bytes [97, 32, 45, 32, 40, 98, 32, 45, 32, 99, 41] = bytes [97, 32, 45, 32, 40, 98, 32, 45, 32, 99, 41])
 clear hX hY P1 P2 F1 F2 he hes
 go_enter Tryd.func14, Tryd.ntmps14
 go_wp2_with fail
 refine (tokens_ok _ L1 w (by decide) l1_lex).mono ?_
 rintro e w1 ⟨⟨v1, rfl, r1⟩, hb1⟩
 have HR1 := Lib.hid r1
 clear r1
 go_wp2_with fail
 refine (exprParse_ok L1 v1 0 [] w1 (row_h HR1.out) l1_end (by decide) (by decide) (by simp)).mono ?_
 rintro e w2 ⟨hp, hk2⟩
 rw [HP1.out] at hp
 obtain ⟨xa, xc, rfl, xr⟩ := hp
 have hb2 := Below.step hb1 (keep_bel hk2)
 have hA := (Below.refl w2.heap.size w2).alloc (Nat.le_refl _) (.cells #[.int .i64 X.op, .int .i64 X.num, .string X.name, .slice xa X.args.length xc] 34)
 have HX3 := Lib.hid (ExprRep.below hA _ (ExprRep.mono unhide _ xr))
 have HB3 := Lib.hid (Below.step hb2 hA)
 have bx3 := Lib.hid (box4_new w2 (.int .i64 X.op) (.int .i64 X.num) (.string X.name) (.slice xa X.args.length xc) 34)
 clear hb1 hb2 hA hk2 xr HR1
 go_wp2_with fail
 generalize w2.alloc (.cells #[.int .i64 X.op, .int .i64 X.num, .string X.name, .slice xa X.args.length xc] 34) = w3 at HX3 HB3 bx3 ⊢
 generalize w2.heap.size = BX at bx3 ⊢
 refine (tokens_ok _ L2 w3 (by decide) l2_lex).mono ?_
 rintro e w4 ⟨⟨v4, rfl, r4⟩, hb4⟩
 have HR4 := Lib.hid r4
 have HB4' := Lib.hid hb4
 clear r4 hb4
 go_wp2_with fail
 refine (exprParse_ok L2 v4 0 [] w4 (row_h HR4.out) l2_end (by decide) (by decide) (by simp)).mono ?_
 rintro e w5 ⟨hp, hk5⟩
 rw [HP2.out] at hp
 obtain ⟨ya, yc, rfl, yr⟩ := hp
 have hb5 := Below.step HB4'.out (keep_bel hk5)
 have hA := (Below.refl w5.heap.size w5).alloc (Nat.le_refl _) (.cells #[.int .i64 Y.op, .int .i64 Y.num, .string Y.name, .slice ya Y.args.length yc] 34)
 have hb6 := Below.step hb5 hA
 have HX6 := Lib.hid (ExprRep.below hb6 _ HX3.out)
 have HY6 := Lib.hid (ExprRep.below hA _ (ExprRep.mono unhide _ yr))
 have HB6 := Lib.hid (Below.step HB3.out hb6)
 have bx6 := Lib.hid (bx3.out.keep (Keep.of_below (H := []) hb6) (by simp))
 have by6 := Lib.hid (box4_new w5 (.int .i64 Y.op) (.int .i64 Y.num) (.string Y.name) (.slice ya Y.args.length yc) 34)
 clear hb5 hA hb6 hk5 yr HR4 HB4' HX3 HB3 bx3
 go_wp2_with fail
 generalize w5.alloc (.cells #[.int .i64 Y.op, .int .i64 Y.num, .string Y.name, .slice ya Y.args.length yc] 34) = w6 at HX6 HY6 HB6 bx6 by6 ⊢
 generalize w5.heap.size = BY at by6 ⊢
 refine (tokens_ok _ L3 w6 (by decide) l3_lex).mono ?_
 rintro e w7 ⟨⟨v7, rfl, r7⟩, hb7⟩
 have HR7 := Lib.hid r7
 have HB7' := Lib.hid hb7
 clear r7 hb7
 go_wp2_with fail
 refine (exprParse_ok L3 v7 0 [] w7 (row_h HR7.out) l3_end (by decide) (by decide) (by simp)).mono ?_
 rintro e w8 ⟨hp, hk8⟩
 rw [l3_parse] at hp
 obtain rfl := hp
 have hb8 := Below.step HB7'.out (keep_bel hk8)
 have hA := (Below.refl w8.heap.size w8).alloc (Nat.le_refl _) (.cells #[.int .i64 0, .int .i64 0, .string ⟨#[]⟩, .slice none 0 0] 34)
 have hb9 := Below.step hb8 hA
 have HX9 := Lib.hid (ExprRep.below hb9 _ HX6.out)
 have HY9 := Lib.hid (ExprRep.below hb9 _ HY6.out)
 have HB9 := Lib.hid (Below.step HB6.out hb9)
 have bx9 := bx6.out.keep (Keep.of_below (H := []) hb9) (by simp)
 have by9 := by6.out.keep (Keep.of_below (H := []) hb9) (by simp)
 have HE9 := Lib.hid (HE.out.below HB9.out HE.out.size)
 have HS9 := Lib.hid (HES.out.below HB9.out)
 unfold Box4 at bx9 by9
 obtain ⟨x0, x1, x2, x3, x4, x5, x6, x7⟩ := bx9
 obtain ⟨y0, y1, y2, y3, y4, y5, y6, y7⟩ := by9
 clear hb8 hA hb9 hk8 HR7 HB7' HX6 HY6 HB6 bx6 by6 x4 x5 x6 x7 y4 y5 y6 y7
 go_wp2_with fail
 generalize w8.alloc (.cells #[.int .i64 0, .int .i64 0, .string ⟨#[]⟩, .slice none 0 0] 34) = w9 at HX9 HY9 HB9 HE9 HS9 x0 x1 x2 x3 y0 y1 y2 y3 ⊢
 refine (formatE Y _ w9 HF2.out.1 (by rw [HF2.out.2.1]; decide) (by rw [HF2.out.2.2.1]; decide) HF2.out.2.2.2.1 (by rw [HF2.out.2.2.2.2]; decide) HY9.out HS9.out HE9.out).mono ?_
 rintro e w10 ⟨rfl, hb10⟩
 rw [HF2.out.2.2.2.2]
 have z0 := cell_step x0 hb10
 have z1 := cell_step x1 hb10
 have z2 := cell_step x2 hb10
 have z3 := cell_step x3 hb10
 have HX10 := Lib.hid (ExprRep.below hb10 _ HX9.out)
 have HE10 := Lib.hid (HE9.out.below hb10 HE9.out.size)
 have HS10 := Lib.hid (HS9.out.below hb10)
 have HB10 := Lib.hid (Below.step HB9.out hb10)
 clear x0 x1 x2 x3 y0 y1 y2 y3 hb10 HX9 HY9 HB9 HE9 HS9
 go_wp2_with fail
 refine (heightE_any _ X (Nat.le_refl _) (by rw [HF1.out.2.2.1]; decide) HF1.out.1 _ w10 HX10.out HS10.out).mono ?_
 rintro e w11 ⟨rfl, hb11⟩
 rw [HF1.out.2.1]
 have u0 := cell_step z0 hb11
 have u1 := cell_step z1 hb11
 have u2 := cell_step z2 hb11
 have u3 := cell_step z3 hb11
 have HX11 := Lib.hid (ExprRep.below hb11 _ HX10.out)
 have HE11 := Lib.hid (HE10.out.below hb11 HE10.out.size)
 have HS11 := Lib.hid (HS10.out.below hb11)
 have HB11 := Lib.hid (Below.step HB10.out hb11)
 clear z0 z1 z2 z3 hb11 HX10 HE10 HS10 HB10
 go_wp2_with fail
 refine (validE X _ w11 HF1.out.1 (by rw [HF1.out.2.1]; decide) (by rw [HF1.out.2.2.1]; decide) HX11.out HS11.out HE11.out).mono ?_
 rintro e w12 ⟨rfl, hb12⟩
 go_wp2_with fail
 go_ret
 exact ⟨rfl, Below.step HB11.out hb12⟩
end Go.Proofs.YtiimofjemiffgaaDoor
namespace Go.Proofs.YtiimofjemiffgaaDoor
open Go.ChangeShapes Go.WideShapes Go.ChangeAt Go.RowKit
theorem gSigns : Tryd.prog.globalNamed "lockorder/expr.signs" = some 0 := by kernel_rfl
def signsL : List (List UInt8) := signsAll.map fun b => b.data.toList
abbrev laid5 : List (String × DataW Unit) := [("math/bits.deBruijn32tab", Rows.laid_math_bits_deBruijn32tab), ("math/bits.deBruijn64tab", Rows.laid_math_bits_deBruijn64tab), ("internal/strconv.uint64pow10", Rows.laid_internal_strconv_uint64pow10), ("lockorder/token.words", Rows.laid_lockorder_token_words), ("lockorder/expr.signs", Rows.laid_lockorder_expr_signs)]
theorem env_of5 {W : World} (h : laidMetH Tryd.prog laid5 W) (hs : W.ShapedOpen Tryd.prog) : Env W ∧ EnvS W := by
 obtain ⟨ps, hL, _⟩ := (show laidMet Tryd.prog laid5 W from h)
 obtain ⟨_, _, _, _, _, _, _, _, _, _, hL, _⟩ := hL
 obtain ⟨_, _, _, _, _, _, _, _, _, _, hL, _⟩ := hL
 obtain ⟨_, _, _, _, _, _, _, _, _, _, hL, _⟩ := hL
 obtain ⟨g', t', cs, fuel, p, q, hg', ht', hvar, hd, hL, _⟩ := hL
 obtain ⟨g2, t2, cs2, fuel2, p2, q2, hg2, ht2, hvar2, hd2, _, _⟩ := hL
 refine ⟨?_, ?_⟩
 ·obtain rfl := Option.some.inj (gWords.symm.trans hg')
  obtain rfl : t' = 144 := Option.some.inj (ht'.symm.trans (show (Tryd.prog.globals[1]?).map (·.type) = some 144 by kernel_rfl))
  have hc := cells_of_strs (zs := wordsL) (n := 11) (e := 9) Tryd.underlying144 Tryd.underlying9 (by kernel_rfl) (by kernel_rfl) hd
  refine ⟨fun j hj => ?_, ?_, ?_⟩
  ·have := World.var?_cell hg' hvar j
   rw [← Array.getElem?_toList, hc] at this
   rw [Nat.zero_add, this]
   have hj' : j < 11 := hj
   have : ∀ i, i < 11 → (wordsL.map fun z => Value.string (bytes z))[i]? = some (.string (words.getD i ByteArray.empty)) := by
    intro i hi
    simp only [wordsL, List.map_map]
    rw [List.getElem?_map, List.getElem?_eq_getElem (show i < words.length from hi)]
    simp [List.getD, show i < words.length from hi, bytes]
   simpa using this j hj'
  ·exact cell_of_shapedOpen_int (zero := #[.int .i64 0]) (t := 3) hs (of_decide_eq_true (by kernel_rfl)) (by kernel_rfl) rfl (by kernel_rfl) (by kernel_rfl) Tryd.underlying3
  ·obtain ⟨m, hm⟩ := cell_of_shapedOpen_int (zero := #[.int .i64 0]) (t := 3) (g := 3) hs (of_decide_eq_true (by kernel_rfl)) (by kernel_rfl) rfl (by kernel_rfl) (by kernel_rfl) Tryd.underlying3
   have := cell_lt hm
   exact this
 ·obtain rfl := Option.some.inj (gSigns.symm.trans hg2)
  obtain rfl : t2 = 91 := Option.some.inj (ht2.symm.trans (show (Tryd.prog.globals[0]?).map (·.type) = some 91 by kernel_rfl))
  have hc := cells_of_strs (zs := signsL) (n := 18) (e := 9) Tryd.underlying91 Tryd.underlying9 (by kernel_rfl) (by kernel_rfl) hd2
  refine ⟨fun j hj => ?_⟩
  have := World.var?_cell hg2 hvar2 j
  rw [← Array.getElem?_toList, hc] at this
  rw [this]
  simp only [signsL, List.map_map]
  rw [List.getElem?_map, List.getElem?_eq_getElem hj]
  simp [bytes]
theorem laid_met5 (os : Os) (args : Array Value) : laidMet Tryd.prog laid5 ((World.doorLaid Tryd.prog 60 os).forCall (fun _ _ => 0) ⟨#[], args, []⟩).memory :=
 laidMet_of_run' 8 (by kernel_rfl) (by kernel_rfl)
end Go.Proofs.YtiimofjemiffgaaDoor
