import Derived.Test.YtiimofjemiffgaaDoorRBinJ
import Derived.Maps.RangeWalk
set_option linter.unusedVariables false
set_option linter.unusedSimpArgs false
namespace Go.Proofs.YtiimofjemiffgaaDoor
open Go.RowKit
theorem rbin_any (l : List Tok) (b off tc P nest d : Nat) (hreg : Reg l) (hel : EndAt l) (ih : ROpC l b off tc P nest (singleP l d)) : ∀ (j : Nat), j ≤ 5 → RBinC l b off tc P nest ((5 - j : Nat) : Int) (binP l (singleP l d) j)
 | 0, _ => rbinary_zero l b off tc P nest (singleP l d) ih
 | j + 1, hj => by
  have h1 := rbin_any l b off tc P nest d hreg hel ih j (by omega)
  have h2 := rbinary_succ l b off tc P nest (4 - j) (binP l (singleP l d) j) hreg hel (by omega) (by rw [show 4 - j + 1 = 5 - j by omega]; exact h1) (fun k hk => binP_in hel (fun k hk => singleP_in hel d k hk) j k hk)
  rw [show 4 - j + 1 = 5 - j by omega] at h2
  rw [show 5 - (j + 1) = 4 - j by omega]
  exact h2
theorem rsingle_all (l : List Tok) (b off tc P : Nat) (hreg : Reg l) (hel : EndAt l) : ∀ (d nest : Nat), nest + d = 24 → ROpC l b off tc P nest (singleP l d)
 | 0, nest, hd => by
  obtain rfl : nest = 24 := by omega
  intro H k bad deep w h hk hH
  rw [singR_zero]
  exact operand_any (singleP l 0) (singleP l 0) _ _ l b off tc P 24 k bad deep H w hreg hel (by omega) (fun op => by rw [if_pos rfl]) (by rw [if_pos rfl]) (fun h => by omega) (fun h => by omega) (fun k hk => singleP_in hel 0 k hk) (fun k hk => singleP_in hel 0 k hk) h hk hH
 | d + 1, nest, hd => by
  have ih := rsingle_all l b off tc P hreg hel d (nest + 1) (by omega)
  have hb := rbin_any l b off tc P (nest + 1) d hreg hel ih 5 (by omega)
  intro H k bad deep w h hk hH
  rw [singR_succ]
  exact operand_any (singleP l d) (binP l (singleP l d) 5) _ _ l b off tc P nest k bad deep H w hreg hel (by omega) (fun op => by rw [if_neg (by omega)]) (by rw [if_neg (by omega)]) (fun _ => ih) (fun _ => hb) (fun k hk => singleP_in hel d k hk) (fun k hk => binP_in hel (fun k hk => singleP_in hel d k hk) 5 k hk) h hk hH
theorem rbinary_all (l : List Tok) (b off tc P : Nat) (hreg : Reg l) (hel : EndAt l) : RBinC l b off tc P 0 0 (exprP l) := rbin_any l b off tc P 0 24 hreg hel (rsingle_all l b off tc P hreg hel 24 0 rfl) 5 (by omega)
set_option maxRecDepth 100000 in
set_option maxHeartbeats 3200000 in
theorem open_ok (l : List Tok) (b off tc : Nat) (k : Nat) (w : World) (hq : w.cell? ⟨b, off + (l.length - 1) * 4, none⟩ = some (.int .i64 5)) (hk : k < l.length) (hbig : l.length ≤ 1000000) (hc : l.length ≤ tc) :
  Calls Tryd.prog 46 #[.slice (some ⟨b, off, none⟩) l.length tc, .int .i64 k] w fun e w' => e = .returned (.bool true) ∧ w = w' := by
 have hd1 : decide ((0 : Int) ≤ k) = true := by rw [decide_eq_true_iff]; omega
 have hd2 : decide ((k : Int) < l.length) = true := by rw [decide_eq_true_iff]; omega
 have hlt : (k : Int) < l.length := by omega
 have hw1 : IntKind.i64.wrap ((l.length : Int) - 1) = ((l.length - 1 : Nat) : Int) := by rw [show (l.length : Int) - 1 = ((l.length - 1 : Nat) : Int) by omega]; exact IntWalk.i64_in _ (by omega)
 have hlt1 : ((l.length - 1 : Nat) : Int) < l.length := by omega
 go_enter Tryd.func46, Tryd.ntmps46
 go_wp2_with fail
 go_ret
 exact ⟨rfl, rfl⟩
set_option maxRecDepth 100000 in
set_option maxHeartbeats 3200000 in
theorem refExpr_ok (l : List Tok) (v : Value) (k : Nat) (H : List Nat) (w : World) (hv : RowAt (hideL H w) v l.length (toksCells l)) (hreg : Reg l) (hel : EndAt l) (hk : k < l.length) (hbig : l.length ≤ 1000000) (hH : ∀ x, x ∈ H → x < w.heap.size) :
  Calls Tryd.prog 26 #[v, .int .i64 k] w fun e w' => EPOk H (exprP l k) e w' ∧ Keep [] w w' := by
 obtain ⟨a, tc, rfl, hc, hr⟩ := hv
 rcases hr with h0 | ⟨b, off, rfl, hr⟩
 ·rw [toksCells_nil h0] at hk; simp at hk
 obtain ⟨q1, _, _, _⟩ := tokRow hr (l.length - 1) (by omega)
 have hel' := hel
 obtain ⟨hl0, h5⟩ := hel'
 rw [h5] at q1
 have q1 := (hideL_cell q1).1
 have hbl := cell_lt q1
 simp at hbl
 have HR := Lib.hid hr
 have HH := Lib.hid hH
 have HEL := Lib.hid hel
 have hd1 : decide ((k : Int) < 0) = false := by rw [decide_eq_false_iff_not]; omega
 have hd2 : decide ((l.length : Int) ≤ k) = false := by rw [decide_eq_false_iff_not]; omega
 have hnn : ¬ (l.length : Int) ≤ k := by omega
 have hw1 : IntKind.i64.wrap ((l.length : Int) - 1) = ((l.length - 1 : Nat) : Int) := by rw [show (l.length : Int) - 1 = ((l.length - 1 : Nat) : Int) by omega]; exact IntWalk.i64_in _ (by omega)
 have hlt1 : ((l.length - 1 : Nat) : Int) < l.length := by omega
 have HREG := Lib.hid hreg
 clear hr hH hel h5 hreg
 go_enter Tryd.func26, Tryd.ntmps26
 go_wp2_with fail
 refine (open_ok l b off tc k _ (cell_step q1 ((Below.refl _ _).alloc (Nat.le_refl _) _)) hk hbig hc).mono ?_
 rintro e w9 ⟨rfl, rfl⟩
 go_wp2_with fail
 have HP0 : Hid (RS l b off tc (w.heap.size + 1) ((w.heap.size + 1) :: w.heap.size :: H) k 0 0 0 0 ((w.alloc (.cells #[.int .i64 0, .int .i64 0, .string ⟨#[]⟩, .slice none 0 0] 34)).alloc (.cells #[.slice (some ⟨b, off, none⟩) l.length tc, .int .i64 k, .int .i64 0, .int .i64 0, .int .i64 0, .int .i64 0] 81))) := Lib.hid ⟨List.mem_cons_self .., by simp, fun o => by simp [go_sem], by go_simp, by go_simp, by go_simp, by go_simp, by go_simp, by go_simp, fun j u hj => by
   obtain ⟨g1, g2⟩ := hideL_cell (HR.out j u hj)
   have g3 := cell_lt g1
   simp at g3
   rw [hideL_cell_ne _ _ _ (by simp only [List.mem_cons, not_or]; exact ⟨by omega, by omega, g2⟩)]
   exact cell_step (cell_step g1 ((Below.refl _ _).alloc (Nat.le_refl _) _)) ((Below.refl _ _).alloc (Nat.le_refl _) _), ⟨hc, hbig⟩⟩
 have HB0 := Lib.hid ((box4_new w (.int .i64 0) (.int .i64 0) (.string ⟨#[]⟩) (.slice none 0 0) 34).keep ((Keep.refl [] _).alloc (.cells #[.slice (some ⟨b, off, none⟩) l.length tc, .int .i64 k, .int .i64 0, .int .i64 0, .int .i64 0, .int .i64 0] 81)) (by simp))
 have HK0 : Hid (Keep [] w ((w.alloc (.cells #[.int .i64 0, .int .i64 0, .string ⟨#[]⟩, .slice none 0 0] 34)).alloc (.cells #[.slice (some ⟨b, off, none⟩) l.length tc, .int .i64 k, .int .i64 0, .int .i64 0, .int .i64 0, .int .i64 0] 81))) := Lib.hid (((Keep.refl [] w).alloc _).alloc _)
 have hz0 : w.heap.size + 2 = ((w.alloc (.cells #[.int .i64 0, .int .i64 0, .string ⟨#[]⟩, .slice none 0 0] 34)).alloc (.cells #[.slice (some ⟨b, off, none⟩) l.length tc, .int .i64 k, .int .i64 0, .int .i64 0, .int .i64 0, .int .i64 0] 81)).heap.size := by simp
 generalize ((w.alloc (.cells #[.int .i64 0, .int .i64 0, .string ⟨#[]⟩, .slice none 0 0] 34)).alloc (.cells #[.slice (some ⟨b, off, none⟩) l.length tc, .int .i64 k, .int .i64 0, .int .i64 0, .int .i64 0, .int .i64 0] 81)) = w1 at HP0 HB0 HK0 hz0 ⊢
 obtain ⟨P, hP⟩ : ∃ P, P = w.heap.size + 1 := ⟨_, rfl⟩
 rw [← hP] at HP0 ⊢
 have HNP := Lib.hid (show w.heap.size ≠ P by omega)
 have HPL := Lib.hid (show w.heap.size ≤ P by omega)
 have hPlt : P < w1.heap.size := by omega
 refine (rbinary_all l b off tc P HREG.out HEL.out (P :: w.heap.size :: H) k 0 0 _ HP0.out hk (by intro q hq; rcases List.mem_cons.1 hq with rfl | hq; omega; rcases List.mem_cons.1 hq with rfl | hq; omega; have := HH.out q hq; omega)).mono ?_
 intro e w2 hq
 clear hP
 cases hr : exprP l k with
 | ok x k' =>
  rw [hr] at hq
  obtain ⟨⟨xa, xc, rfl, xr⟩, hs2, hk2⟩ := hq
  have hs3 := hs2.below ((Below.refl _ _).alloc (Nat.le_refl _) (.cells #[.int .i64 x.op, .int .i64 x.num, .string x.name, .slice xa x.args.length xc] 34))
  have c1 := hs3.c1
  have c3 := hs3.c3
  have hbx := box4_new w2 (.int .i64 x.op) (.int .i64 x.num) (.string x.name) (.slice xa x.args.length xc) 34
  have hb0 := Lib.hid ((HB0.out.keep hk2 (by simpa using HNP.out)).keep ((Keep.refl [] _).alloc (.cells #[.int .i64 x.op, .int .i64 x.num, .string x.name, .slice xa x.args.length xc] 34)) (by simp))
  have hz2 := hk2.size
  have HK2 := Lib.hid (show Keep [] w w2 from ⟨hk2.os.trans HK0.out.os, hk2.tape.trans HK0.out.tape, hk2.output.trans HK0.out.output, Nat.le_trans HK0.out.size hk2.size, fun q hq _ => by rw [hk2.block q (by omega) (by have := HPL.out; simp; omega)]; exact HK0.out.block q hq (by simp)⟩)
  have HK3 := Lib.hid (HK2.out.alloc (.cells #[.int .i64 x.op, .int .i64 x.num, .string x.name, .slice xa x.args.length xc] 34))
  have HRR := Lib.hid hr
  have HXP := Lib.hid (show w.heap.size ≠ w2.heap.size by omega)
  have HX := Lib.hid (ExprRep.below ((Keep.refl (P :: w.heap.size :: H) w2).alloc (.cells #[.int .i64 x.op, .int .i64 x.num, .string x.name, .slice xa x.args.length xc] 34)).hide _ xr)
  clear hs2 hk2 hr hs3 HB0 HP0 HK0 HK2 xr
  unfold Box4 at hbx
  go_wp2_with fail
  obtain ⟨x0, x1, x2, x3, x4, x5, x6, x7⟩ := hbx
  generalize w2.alloc (.cells #[.int .i64 x.op, .int .i64 x.num, .string x.name, .slice xa x.args.length xc] 34) = w3 at c1 c3 x0 x1 x2 x3 x4 x5 x6 x7 hb0 HK3 HX ⊢
  obtain ⟨X, hX⟩ : ∃ X, X = w2.heap.size := ⟨_, rfl⟩
  rw [← hX] at x0 x1 x2 x3 x4 x5 x6 x7 HXP ⊢
  clear hX hz2
  refine wp_region_held_drew (S := fun w' => w'.cell? ⟨P, 1, none⟩ = some (.int .i64 k') ∧ w'.cell? ⟨P, 3, none⟩ = some (.int .i64 0) ∧ w'.cell? ⟨X, 0, none⟩ = some (.int .i64 x.op) ∧ w'.cell? ⟨X, 1, none⟩ = some (.int .i64 x.num) ∧ w'.cell? ⟨X, 2, none⟩ = some (.string x.name) ∧ w'.cell? ⟨X, 3, none⟩ = some (.slice xa x.args.length xc)) (by kernel_rfl) ⟨c1, c3, x0, x1, x2, x3⟩ (fun hHeld => ?_)
  have HB4 := Lib.hid (hb0.out.keep (Keep.refl [] w3).drew (by simp))
  have HK4 := Lib.hid (HK3.out.trans (Keep.refl [] w3).drew)
  have HX4 := Lib.hid (ExprRep.below (Keep.refl (P :: w.heap.size :: H) w3).drew.hide _ HX.out)
  clear c1 c3 x0 x1 x2 x3 x4 x5 x6 x7 hb0 HK3 HX
  generalize w3.drew = w4 at hHeld HB4 HK4 HX4 ⊢
  refine held_take 0 (v := ?vv1) (by kernel_rfl) rfl (by rfl) (by kernel_rfl) (by kernel_rfl) (fun _ _ _ h => h) ?hyy1 (by assumption) ?rest1
  case hyy1 => (intro w hSw; (try dsimp only at hSw); go_simp; (try with_reducible rfl))
  (try go_frame)
  refine held_take 1 (v := ?vv2) (by kernel_rfl) rfl (by rfl) (by kernel_rfl) (by kernel_rfl) (fun _ _ _ h => h) ?hyy2 (by assumption) ?rest2
  case hyy2 => (intro w hSw; (try dsimp only at hSw); go_simp; (try with_reducible rfl))
  (try go_frame)
  refine held_take 2 (v := ?vv3) (by kernel_rfl) rfl (by rfl) (by kernel_rfl) (by kernel_rfl) (fun _ _ _ h => h) ?hyy3 (by assumption) ?rest3
  case hyy3 => (intro w hSw; (try dsimp only at hSw); go_simp; (try with_reducible rfl))
  (try go_frame)
  refine held_take 3 (v := ?vv4) (by kernel_rfl) rfl (by rfl) (by kernel_rfl) (by kernel_rfl) (fun _ _ _ h => h) ?hyy4 (by assumption) ?rest4
  case hyy4 => (intro w hSw; (try dsimp only at hSw); go_simp; (try with_reducible rfl))
  (try go_frame)
  refine held_take 4 (v := ?vv5) (by kernel_rfl) rfl (by rfl) (by kernel_rfl) (by kernel_rfl) (fun _ _ _ h => h) ?hyy5 (by assumption) ?rest5
  case hyy5 => (intro w hSw; (try dsimp only at hSw); go_simp; (try with_reducible rfl))
  (try go_frame)
  have hb4 := HB4.out
  unfold Box4 at hb4
  refine held_one 5 (by kernel_rfl) rfl (by rfl) (fun K' hK => ?_)
  go_simp
  (try dsimp only)
  refine hK.out _ _ (cells6k hHeld (keep4 _ _ _ _ _ _) (by simpa using HNP.out.symm) (by simpa using HXP.out.symm)) (fun hHeld' => ?_)
  clear hK K' hHeld
  have hHeld := hHeld'
  clear hHeld'
  (try go_frame)
  refine held_take 6 (v := ?vv6) (by kernel_rfl) rfl (by rfl) (by kernel_rfl) (by kernel_rfl) (fun _ _ _ h => h) ?hyy6 (by assumption) ?rest6
  case hyy6 => (intro w hSw; (try dsimp only at hSw); go_simp; (try with_reducible rfl))
  (try go_frame)
  refine held_take 7 (v := ?vv7) (by kernel_rfl) rfl (by rfl) (by kernel_rfl) (by kernel_rfl) (fun _ _ _ h => h) ?hyy7 (by assumption) ?rest7
  case hyy7 => (intro w hSw; (try dsimp only at hSw); go_simp; (try with_reducible rfl))
  (try go_frame)
  clear hHeld
  refine wpAnyH_done (by kernel_rfl) ?_ _
  go_wp2_with fail
  have bz := box4_put HB4.out (.int .i64 x.op) (.int .i64 x.num) (.string x.name) (.slice xa x.args.length xc)
  unfold Box4 at bz
  refine bodyPost_ret (v := .tuple #[.agg #[.int .i64 x.op, .int .i64 x.num, .string x.name, .slice xa x.args.length xc], .int .i64 k', .int .i64 0]) (by simp [results, Tryd.results26, go_sem, bz]) rfl ?_
  rw [HRR.out]
  refine ⟨⟨xa, xc, rfl, ?_⟩, ?_⟩
  ·exact ExprRep.mono (fun _ _ h => hideL_sub (fun q hq => List.mem_cons_of_mem _ (List.mem_cons_of_mem _ hq)) h) _ (ExprRep.below ((keep4 w.heap.size w4 _ _ _ _).mono (H' := P :: w.heap.size :: H) (by intro q hq; simp at hq; subst hq; simp)).hide _ HX4.out)
  exact (((HK4.out.setCell (.inr (Nat.le_refl _)) _).setCell (.inr (Nat.le_refl _)) _).setCell (.inr (Nat.le_refl _)) _).setCell (.inr (Nat.le_refl _)) _
 | err a' er =>
  have hinn := exprP_in HEL.out hk
  rw [hr] at hq hinn
  obtain ⟨hin1, hin2, hin3, hin4⟩ := hinn
  obtain ⟨⟨y0, y1, y2, y3, yn, yc, rfl⟩, ⟨k3, hk3, hs2⟩, hk2⟩ := hq
  have hs3 := hs2.below ((Below.refl _ _).alloc (Nat.le_refl _) (.cells #[.int .i64 y0, .int .i64 y1, .string y2, .slice y3 yn yc] 34))
  have c1 := hs3.c2
  have c3 := hs3.c3
  have hbx := box4_new w2 (.int .i64 y0) (.int .i64 y1) (.string y2) (.slice y3 yn yc) 34
  have hb0 := Lib.hid ((HB0.out.keep hk2 (by simpa using HNP.out)).keep ((Keep.refl [] _).alloc (.cells #[.int .i64 y0, .int .i64 y1, .string y2, .slice y3 yn yc] 34)) (by simp))
  have hz2 := hk2.size
  have HK2 := Lib.hid (show Keep [] w w2 from ⟨hk2.os.trans HK0.out.os, hk2.tape.trans HK0.out.tape, hk2.output.trans HK0.out.output, Nat.le_trans HK0.out.size hk2.size, fun q hq _ => by rw [hk2.block q (by omega) (by have := HPL.out; simp; omega)]; exact HK0.out.block q hq (by simp)⟩)
  have HK3 := Lib.hid (HK2.out.alloc (.cells #[.int .i64 y0, .int .i64 y1, .string y2, .slice y3 yn yc] 34))
  have HRR := Lib.hid hr
  have HXP := Lib.hid (show w.heap.size ≠ w2.heap.size by omega)
  clear hs2 hk2 hr hs3 HB0 HP0 HK0 HK2
  unfold Box4 at hbx
  have heb : ((er : Int) != 0) = true := by simp; omega
  go_wp2_with fail
  obtain ⟨x0, x1, x2, x3, x4, x5, x6, x7⟩ := hbx
  generalize w2.alloc (.cells #[.int .i64 y0, .int .i64 y1, .string y2, .slice y3 yn yc] 34) = w3 at c1 c3 x0 x1 x2 x3 x4 x5 x6 x7 hb0 HK3 ⊢
  obtain ⟨X, hX⟩ : ∃ X, X = w2.heap.size := ⟨_, rfl⟩
  rw [← hX] at x0 x1 x2 x3 x4 x5 x6 x7 HXP ⊢
  clear hX hz2
  refine wp_region_held_drew (S := fun w' => w'.cell? ⟨P, 2, none⟩ = some (.int .i64 a') ∧ w'.cell? ⟨P, 3, none⟩ = some (.int .i64 er) ∧ w'.cell? ⟨X, 0, none⟩ = some (.int .i64 y0) ∧ w'.cell? ⟨X, 1, none⟩ = some (.int .i64 y1) ∧ w'.cell? ⟨X, 2, none⟩ = some (.string y2) ∧ w'.cell? ⟨X, 3, none⟩ = some (.slice y3 yn yc)) (by kernel_rfl) ⟨c1, c3, x0, x1, x2, x3⟩ (fun hHeld => ?_)
  have HB4 := Lib.hid (hb0.out.keep (Keep.refl [] w3).drew (by simp))
  have HK4 := Lib.hid (HK3.out.trans (Keep.refl [] w3).drew)
  clear c1 c3 x0 x1 x2 x3 x4 x5 x6 x7 hb0 HK3
  generalize w3.drew = w4 at hHeld HB4 HK4 ⊢
  refine held_take 0 (v := ?vv8) (by kernel_rfl) rfl (by rfl) (by kernel_rfl) (by kernel_rfl) (fun _ _ _ h => h) ?hyy8 (by assumption) ?rest8
  case hyy8 => (intro w hSw; (try dsimp only at hSw); go_simp; (try with_reducible rfl))
  (try go_frame)
  refine held_take 1 (v := ?vv9) (by kernel_rfl) rfl (by rfl) (by kernel_rfl) (by kernel_rfl) (fun _ _ _ h => h) ?hyy9 (by assumption) ?rest9
  case hyy9 => (intro w hSw; (try dsimp only at hSw); go_simp; (try with_reducible rfl))
  (try go_frame)
  refine held_take 2 (v := ?vv10) (by kernel_rfl) rfl (by rfl) (by kernel_rfl) (by kernel_rfl) (fun _ _ _ h => h) ?hyy10 (by assumption) ?rest10
  case hyy10 => (intro w hSw; (try dsimp only at hSw); go_simp; (try with_reducible rfl))
  (try go_frame)
  refine held_take 3 (v := ?vv11) (by kernel_rfl) rfl (by rfl) (by kernel_rfl) (by kernel_rfl) (fun _ _ _ h => h) ?hyy11 (by assumption) ?rest11
  case hyy11 => (intro w hSw; (try dsimp only at hSw); go_simp; (try with_reducible rfl))
  (try go_frame)
  refine held_take 4 (v := ?vv12) (by kernel_rfl) rfl (by rfl) (by kernel_rfl) (by kernel_rfl) (fun _ _ _ h => h) ?hyy12 (by assumption) ?rest12
  case hyy12 => (intro w hSw; (try dsimp only at hSw); go_simp; (try with_reducible rfl))
  (try go_frame)
  refine held_take 5 (v := ?vv13) (by kernel_rfl) rfl (by rfl) (by kernel_rfl) (by kernel_rfl) (fun _ _ _ h => h) ?hyy13 (by assumption) ?rest13
  case hyy13 => (intro w hSw; (try dsimp only at hSw); go_simp; (try with_reducible rfl))
  (try go_frame)
  refine held_take 6 (v := ?vv14) (by kernel_rfl) rfl (by rfl) (by kernel_rfl) (by kernel_rfl) (fun _ _ _ h => h) ?hyy14 (by assumption) ?rest14
  case hyy14 => (intro w hSw; (try dsimp only at hSw); go_simp; (try with_reducible rfl))
  (try go_frame)
  refine held_take 7 (v := ?vv15) (by kernel_rfl) rfl (by rfl) (by kernel_rfl) (by kernel_rfl) (fun _ _ _ h => h) ?hyy15 (by assumption) ?rest15
  case hyy15 => (intro w hSw; (try dsimp only at hSw); go_simp; (try with_reducible rfl))
  (try go_frame)
  refine held_take 8 (v := ?vv16) (by kernel_rfl) rfl (by rfl) (by kernel_rfl) (by kernel_rfl) (fun _ _ _ h => h) ?hyy16 (by assumption) ?rest16
  case hyy16 => (intro w hSw; (try dsimp only at hSw); go_simp; (try with_reducible rfl))
  (try go_frame)
  have hb4 := HB4.out
  unfold Box4 at hb4
  refine held_one 9 (by kernel_rfl) rfl (by rfl) (fun K' hK => ?_)
  go_simp
  (try dsimp only)
  refine hK.out _ _ (cells6k hHeld (keep4 _ _ _ _ _ _) (by simpa using HNP.out.symm) (by simpa using HXP.out.symm)) (fun hHeld' => ?_)
  clear hK K' hHeld
  have hHeld := hHeld'
  clear hHeld'
  (try go_frame)
  refine held_take 10 (v := ?vv17) (by kernel_rfl) rfl (by rfl) (by kernel_rfl) (by kernel_rfl) (fun _ _ _ h => h) ?hyy17 (by assumption) ?rest17
  case hyy17 => (intro w hSw; (try dsimp only at hSw); go_simp; (try with_reducible rfl))
  (try go_frame)
  refine held_take 11 (v := ?vv18) (by kernel_rfl) rfl (by rfl) (by kernel_rfl) (by kernel_rfl) (fun _ _ _ h => h) ?hyy18 (by assumption) ?rest18
  case hyy18 => (intro w hSw; (try dsimp only at hSw); go_simp; (try with_reducible rfl))
  (try go_frame)
  clear hHeld
  refine wpAnyH_done (by kernel_rfl) ?_ _
  go_wp2_with fail
  have bz := box4_put HB4.out (.int .i64 0) (.int .i64 0) (.string ⟨#[]⟩) (.slice none 0 0)
  unfold Box4 at bz
  refine bodyPost_ret (v := .tuple #[.agg #[.int .i64 0, .int .i64 0, .string ⟨#[]⟩, .slice none 0 0], .int .i64 a', .int .i64 er]) (by simp [results, Tryd.results26, go_sem, bz]) rfl ?_
  rw [HRR.out]
  refine ⟨rfl, ?_⟩
  exact (((HK4.out.setCell (.inr (Nat.le_refl _)) _).setCell (.inr (Nat.le_refl _)) _).setCell (.inr (Nat.le_refl _)) _).setCell (.inr (Nat.le_refl _)) _
end Go.Proofs.YtiimofjemiffgaaDoor
