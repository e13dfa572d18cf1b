/-
  Proved: for every two slices of integers lockorderlaw02.ExprHeight returns true and leaves its arguments as they were. No condition beyond the row's own. (Printed by genheight.py.)
-/
import Derived.Test.YtiimofjemiffgaaDoorE6J
import Derived.Test.YtiimofjemiffgaaDoorE7J
import Derived.Test.YtiimofjemiffgaaDoorB2J
import Derived.Maps.RangeWalk
set_option linter.unusedVariables false
set_option linter.unusedSimpArgs false
namespace Go.Proofs.YtiimofjemiffgaaDoor
open Go.ChangeShapes Go.WideShapes Go.ChangeAt Go.RowKit
theorem hide_newE {w : World} {H : List Nat} (o : Obj) : ∀ a u, (hideL H w).cell? a = some u → (hideL (w.heap.size :: H) (w.alloc o)).cell? a = some u := by
 intro a u h
 obtain ⟨h1, h2⟩ := hideL_cell h
 have h3 := cell_lt h1
 rw [hideL_cell_ne _ _ _ (by simp only [List.mem_cons, not_or]; exact ⟨by omega, h2⟩)]
 exact cell_step h1 ((Below.refl _ _).alloc (Nat.le_refl _) _)
theorem height_two (x z : AExpr) : heightN x ≤ heightN (.mk 5 0 emptyB [x, z]) := by
 rw [heightN, argsHeight, argsHeight, argsHeight]; omega
def mulE (x z : AExpr) : AExpr := .mk 5 0 emptyB [x, z]
theorem hideE {w : World} {e : AExpr} {cs : List Value} (h : ExprRep w e cs) : ExprRep (hideL [] w) e cs := ExprRep.mono (fun a u h => by rw [hideL_cell_ne _ _ _ (by simp)]; exact h) _ h
set_option maxRecDepth 100000 in
set_option maxHeartbeats 6400000 in
theorem exprHeight_walk (l m : List Int) (a b : Option Addr) (cap cbp : Nat) (w : World) (he : Env w) (hes : EnvS w) (hr : RowAt w (.slice a l.length cap) l.length (l.map (.int .i64))) (hr' : RowAt w (.slice b m.length cbp) m.length (m.map (.int .i64))) (hl : l.length ≤ 9223372036854775807) (hm : m.length ≤ 9223372036854775807) :
  Calls Tryd.prog 7 #[.slice a l.length cap, .slice b m.length cbp] w fun e w' => e = .returned (.bool true) ∧ Below w.heap.size w w' := by
 have HR' := Lib.hid hr'
 have HE := Lib.hid he
 have HES := Lib.hid hes
 have HRR := Lib.hid (row_h hr)
 clear hr hr' he hes
 go_enter Tryd.func7, Tryd.ntmps7
 go_wp2_with fail
 refine (madeExpr_any [] l a cap w (by simp) HRR.out hl).mono ?_
 rintro e w1 ⟨⟨x, xa, xc, rfl, hmx, xr⟩, hb1⟩
 have hA := (Below.refl w1.heap.size w1).alloc (Nat.le_refl _) (.cells #[.int .i64 x.op, .int .i64 x.num, .string x.name, .slice xa x.args.length xc] 34)
 have HX := Lib.hid (hideE (ExprRep.below hA _ (ExprRep.mono unhide _ xr)))
 have HB := Lib.hid (Below.step hb1 hA)
 have bx := Lib.hid (box4_new w1 (.int .i64 x.op) (.int .i64 x.num) (.string x.name) (.slice xa x.args.length xc) 34)
 have HMX := Lib.hid hmx
 clear hA xr hb1 hmx
 go_wp2_with fail
 generalize w1.alloc (.cells #[.int .i64 x.op, .int .i64 x.num, .string x.name, .slice xa x.args.length xc] 34) = w2 at HX HB bx ⊢
 generalize w1.heap.size = X at bx ⊢
 have bX := bx.out
 unfold Box4 at bX
 obtain ⟨x0, x1, x2, x3, _⟩ := bX
 refine wp_region_held_drew (S := fun w' => w'.cell? ⟨X, 0, none⟩ = some (.int .i64 x.op) ∧ w'.cell? ⟨X, 1, none⟩ = some (.int .i64 x.num) ∧ w'.cell? ⟨X, 2, none⟩ = some (.string x.name) ∧ w'.cell? ⟨X, 3, none⟩ = some (.slice xa x.args.length xc)) (by kernel_rfl) ⟨x0, x1, x2, x3⟩ (fun hHeld => ?_)
 clear x0 x1 x2 x3
 have hd : Below w2.heap.size w2 w2.drew := (Below.refl _ _).drew
 have HX' := Lib.hid (ExprRep.below ((Keep.of_below (H := []) hd).hide) _ HX.out)
 have HB' := Lib.hid (Below.step HB.out hd)
 have bx' := Lib.hid (bx.out.keep (Keep.of_below (H := []) hd) (by simp))
 clear HX HB bx hd
 generalize w2.drew = w3 at hHeld HX' HB' bx' ⊢
 have HX := HX'
 have HB := HB'
 have bx := bx'
 clear HX' HB' bx'
 refine held_take 0 (v := ?vv1) (by kernel_rfl) rfl (by rfl) (by kernel_rfl) (by kernel_rfl) (fun _ _ _ h => h) ?hyy1 (by assumption) ?rest1
 case hyy1 => (intro w hSw; (try dsimp only at hSw); go_simp; (try with_reducible rfl))
 (try go_frame)
 refine held_take 1 (v := ?vv2) (by kernel_rfl) rfl (by rfl) (by kernel_rfl) (by kernel_rfl) (fun _ _ _ h => h) ?hyy2 (by assumption) ?rest2
 case hyy2 => (intro w hSw; (try dsimp only at hSw); go_simp; (try with_reducible rfl))
 (try go_frame)
 refine held_two 2 5 (by kernel_rfl) rfl rfl (by rfl) (by rfl) (fun K' hK => ?_) (fun K' hK => ?_)
 ·go_simp
  refine (madeExpr_any [] m b cbp w3 (by simp) (row_h (HR'.out.below HB.out (Nat.le_refl _))) hm).mono ?_
  rintro e w4 ⟨⟨z, za, zc, rfl, hmz, zr⟩, hbb⟩
  (try dsimp only)
  refine hK.out _ _ ⟨cell_step hHeld.1 hbb, cell_step hHeld.2.1 hbb, cell_step hHeld.2.2.1 hbb, cell_step hHeld.2.2.2 hbb⟩ (fun hHeld' => ?_)
  clear hK K' hHeld
  have hHeld := hHeld'
  clear hHeld'
  have HB' := Lib.hid (Below.step HB.out hbb)
  have bx' := Lib.hid (bx.out.keep (Keep.of_below (H := []) hbb) (by simp))
  have HX' := Lib.hid (ExprRep.below ((Keep.of_below (H := []) hbb).hide) _ HX.out)
  have HMZ := Lib.hid hmz
  have HZ := Lib.hid zr
  clear hbb zr hmz
  clear HB
  have HB := HB'
  clear HB'
  clear bx
  have bx := bx'
  clear bx'
  clear HX
  have HX := HX'
  clear HX'
  (try go_frame)
  refine held_two 3 5 (by kernel_rfl) rfl rfl (by rfl) (by rfl) (fun K' hK => ?_) (fun K' hK => ?_)
  ·go_simp
   have hbb := (Below.refl w4.heap.size w4).alloc (Nat.le_refl _) (.cells #[.int .i64 x.op, .int .i64 x.num, .string x.name, .slice xa x.args.length xc, .int .i64 z.op, .int .i64 z.num, .string z.name, .slice za z.args.length zc] 34)
   have HY := Lib.hid (exprRep_row (H := []) (w := w4) (by simp) 5 0 emptyB [x, z] [[.int .i64 x.op, .int .i64 x.num, .string x.name, .slice xa x.args.length xc], [.int .i64 z.op, .int .i64 z.num, .string z.name, .slice za z.args.length zc]] 34 rfl (fun k h h' => by rcases (show k = 0 ∨ k = 1 by simp at h; omega) with rfl | rfl; exact HX.out; exact HZ.out) #[.int .i64 x.op, .int .i64 x.num, .string x.name, .slice xa x.args.length xc, .int .i64 z.op, .int .i64 z.num, .string z.name, .slice za z.args.length zc] rfl)
   refine hK.out _ _ ⟨cell_step hHeld.1 hbb, cell_step hHeld.2.1 hbb, cell_step hHeld.2.2.1 hbb, cell_step hHeld.2.2.2 hbb⟩ (fun hHeld' => ?_)
   clear hK K' hHeld
   have hHeld := hHeld'
   clear hHeld'
   have HB' := Lib.hid (Below.step HB.out hbb)
   have bx' := Lib.hid (bx.out.keep (Keep.of_below (H := []) hbb) (by simp))
   clear hbb HZ
   clear HB
   have HB := HB'
   clear HB'
   clear bx
   have bx := bx'
   clear bx'
   have HX' := Lib.hid (ExprRep.below ((Keep.of_below (H := []) ((Below.refl w4.heap.size w4).alloc (Nat.le_refl _) (.cells #[.int .i64 x.op, .int .i64 x.num, .string x.name, .slice xa x.args.length xc, .int .i64 z.op, .int .i64 z.num, .string z.name, .slice za z.args.length zc] 34))).hide) _ HX.out)
   clear HX
   have HX := HX'
   clear HX'
   generalize w4.alloc (.cells #[.int .i64 x.op, .int .i64 x.num, .string x.name, .slice xa x.args.length xc, .int .i64 z.op, .int .i64 z.num, .string z.name, .slice za z.args.length zc] 34) = w5 at hHeld HB bx HY HX ⊢
   generalize w4.heap.size = BA at HY ⊢
   (try go_frame)
   refine held_take 4 (v := ?vv3) (by kernel_rfl) rfl (by rfl) (by kernel_rfl) (by kernel_rfl) (fun _ _ _ h => h) ?hyy3 (by assumption) ?rest3
   case hyy3 => (intro w hSw; (try dsimp only at hSw); go_simp; (try with_reducible rfl))
   (try go_frame)
   refine held_one 5 (by kernel_rfl) rfl (by rfl) (fun K' hK => ?_)
   go_simp
   have hbb := (Below.refl w5.heap.size w5).alloc (Nat.le_refl _) (.cells #[.int .i64 0, .int .i64 0, .string ⟨#[]⟩, .slice none 0 0] 34)
   refine hK.out _ _ ⟨cell_step hHeld.1 hbb, cell_step hHeld.2.1 hbb, cell_step hHeld.2.2.1 hbb, cell_step hHeld.2.2.2 hbb⟩ (fun hHeld' => ?_)
   clear hK K' hHeld
   have hHeld := hHeld'
   clear hHeld'
   have HB' := Lib.hid (Below.step HB.out hbb)
   have bx' := Lib.hid (bx.out.keep (Keep.of_below (H := []) hbb) (by simp))
   have HY' := Lib.hid (ExprRep.mono (hide_newE (.cells #[.int .i64 0, .int .i64 0, .string ⟨#[]⟩, .slice none 0 0] 34)) _ HY.out)
   have HX' := Lib.hid (ExprRep.mono (hide_newE (.cells #[.int .i64 0, .int .i64 0, .string ⟨#[]⟩, .slice none 0 0] 34)) _ HX.out)
   have bY := Lib.hid (box4_new w5 (.int .i64 0) (.int .i64 0) (.string ⟨#[]⟩) (.slice none 0 0) 34)
   have HYS : Hid (w.heap.size ≤ w5.heap.size) := Lib.hid HB.out.size
   have HXY : Hid (X < w5.heap.size) := Lib.hid (cell_lt bx.out.1)
   clear hbb
   clear HB
   have HB := HB'
   clear HB'
   clear bx
   have bx := bx'
   clear bx'
   clear HY
   have HY := HY'
   clear HY'
   clear HX
   have HX := HX'
   clear HX'
   generalize w5.alloc (.cells #[.int .i64 0, .int .i64 0, .string ⟨#[]⟩, .slice none 0 0] 34) = w6 at hHeld HB bx bY HX HY ⊢
   have HRY : Hid (∀ v, Below w.heap.size w v → RowAt (hideL [w5.heap.size] v) (.slice b m.length cbp) m.length (m.map (.int .i64))) := Lib.hid (fun v hv => HR'.out.mono fun p u hu => by have h3 := cell_lt hu; rw [hideL_cell_ne _ _ _ (by simp only [List.mem_singleton]; have := HYS.out; omega)]; rw [hv.cell h3]; exact hu)
   generalize w5.heap.size = Y at bY HYS HXY HRY HX HY ⊢
   (try go_frame)
   have by4 := bY.out
   unfold Box4 at by4
   refine held_one 6 (by kernel_rfl) rfl (by rfl) (fun K' hK => ?_)
   go_simp
   clear by4
   have hkp : Keep [Y] w6 ((((w6.setCell ⟨Y, 0, none⟩ (.int .i64 5)).setCell ⟨Y, 1, none⟩ (.int .i64 0)).setCell ⟨Y, 2, none⟩ (.string ⟨#[]⟩)).setCell ⟨Y, 3, none⟩ (.slice (some ⟨BA, 0, none⟩) 2 2)) := keep4 _ _ _ _ _ _
   have hXY : X ≠ Y := by have := HXY.out; omega
   have HB' : Hid (Below w.heap.size w ((((w6.setCell ⟨Y, 0, none⟩ (.int .i64 5)).setCell ⟨Y, 1, none⟩ (.int .i64 0)).setCell ⟨Y, 2, none⟩ (.string ⟨#[]⟩)).setCell ⟨Y, 3, none⟩ (.slice (some ⟨BA, 0, none⟩) 2 2))) := Lib.hid (HB.out.trans (hkp.below HB.out.size (by intro q hq; simp at hq; subst hq; exact HYS.out)))
   have bx' := Lib.hid (bx.out.keep hkp (by simpa using hXY))
   have bY' := Lib.hid (box4_put bY.out (.int .i64 5) (.int .i64 0) (.string ⟨#[]⟩) (.slice (some ⟨BA, 0, none⟩) 2 2))
   have HX' := Lib.hid (ExprRep.mono unhide _ (ExprRep.below (hkp.hide) _ HX.out))
   have HY' := Lib.hid (ExprRep.mono unhide _ (ExprRep.below (hkp.hide) _ HY.out))
   have h4 := bx'.out
   unfold Box4 at h4
   refine hK.out _ _ ⟨h4.1, h4.2.1, h4.2.2.1, h4.2.2.2.1⟩ (fun hHeld' => ?_)
   clear hK K' hHeld hHeld' hkp h4 HB bx bY HX HY HRY HXY HYS
   (try go_frame)
   refine wpAnyH_done (by kernel_rfl) ?_ _
   generalize (((w6.setCell ⟨Y, 0, none⟩ (.int .i64 5)).setCell ⟨Y, 1, none⟩ (.int .i64 0)).setCell ⟨Y, 2, none⟩ (.string ⟨#[]⟩)).setCell ⟨Y, 3, none⟩ (.slice (some ⟨BA, 0, none⟩) 2 2) = w8 at HB' bx' bY' HX' HY' ⊢
   go_wp2_with fail
   have bX := bx'.out
   have bY2 := bY'.out
   unfold Box4 at bX bY2
   obtain ⟨x0, x1, x2, x3, _⟩ := bX
   obtain ⟨y0, y1, y2, y3, _⟩ := bY2
   have hMY : MExpr names3 6 (mulE x z) := .bin (by decide) (by decide) HMX.out HMZ.out
   have HSX := Lib.hid (HMX.out.shape names3_ok)
   have HSY := Lib.hid (hMY.shape names3_ok)
   have HNX : Hid (x.nodes ≤ 1000000) := Lib.hid (by have := HMX.out.nodes; omega)
   have HNY : Hid ((mulE x z).nodes ≤ 1000000) := Lib.hid (by have := hMY.nodes; omega)
   obtain ⟨hx, hhx⟩ : ∃ hx, hx = heightN x := ⟨_, rfl⟩
   obtain ⟨hy, hhy⟩ : ∃ hy, hy = heightN (mulE x z) := ⟨_, rfl⟩
   have hxy : hx ≤ hy := by rw [hhx, hhy]; exact height_two x z
   have hdl : decide (hx ≤ hy) = true := decide_eq_true hxy
   have HHX := Lib.hid hhx
   have HHY := Lib.hid hhy
   clear hMY hhx hhy HMX HMZ bx' bY' hxy
   refine wp_region_held_drew (S := fun w' => w'.cell? ⟨X, 0, none⟩ = some (.int .i64 x.op) ∧ w'.cell? ⟨X, 1, none⟩ = some (.int .i64 x.num) ∧ w'.cell? ⟨X, 2, none⟩ = some (.string x.name) ∧ w'.cell? ⟨X, 3, none⟩ = some (.slice xa x.args.length xc) ∧ w'.cell? ⟨Y, 0, none⟩ = some (.int .i64 5) ∧ w'.cell? ⟨Y, 1, none⟩ = some (.int .i64 0) ∧ w'.cell? ⟨Y, 2, none⟩ = some (.string ⟨#[]⟩) ∧ w'.cell? ⟨Y, 3, none⟩ = some (.slice (some ⟨BA, 0, none⟩) 2 2)) (by kernel_rfl) ⟨x0, x1, x2, x3, y0, y1, y2, y3⟩ (fun hHeld => ?_)
   clear x0 x1 x2 x3 y0 y1 y2 y3
   have hd : Below w8.heap.size w8 w8.drew := (Below.refl _ _).drew
   have HX := Lib.hid (ExprRep.below hd _ HX'.out)
   have HY := Lib.hid (ExprRep.below hd _ HY'.out)
   have HB := Lib.hid (Below.step HB'.out hd)
   clear HX' HY' HB' hd
   generalize w8.drew = w9 at hHeld HX HY HB ⊢
   refine held_take 0 (v := ?vv4) (by kernel_rfl) rfl (by rfl) (by kernel_rfl) (by kernel_rfl) (fun _ _ _ h => h) ?hyy4 (by assumption) ?rest4
   case hyy4 => (intro w hSw; (try dsimp only at hSw); go_simp; (try with_reducible rfl))
   (try go_frame)
   refine held_take 2 (v := ?vv5) (by kernel_rfl) rfl (by rfl) (by kernel_rfl) (by kernel_rfl) (fun _ _ _ h => h) ?hyy5 (by assumption) ?rest5
   case hyy5 => (intro w hSw; (try dsimp only at hSw); go_simp; (try with_reducible rfl))
   (try go_frame)
   refine held_one 1 (by kernel_rfl) rfl (by rfl) (fun K' hK => ?_)
   go_simp
   refine ((by rw [HHX.out]; exact heightE_any _ x (Nat.le_refl _) HNX.out HSX.out _ w9 HX.out (HES.out.below HB.out) : Calls Tryd.prog 21 _ w9 fun r w' => r = .returned (.int .i64 (hx : Nat)) ∧ Below w9.heap.size w9 w')).mono ?_
   rintro e w10 ⟨rfl, hbb⟩
   (try dsimp only)
   obtain ⟨s0, s1, s2, s3, s4, s5, s6, s7⟩ := hHeld
   refine hK.out _ _ ⟨cell_step s0 hbb, cell_step s1 hbb, cell_step s2 hbb, cell_step s3 hbb, cell_step s4 hbb, cell_step s5 hbb, cell_step s6 hbb, cell_step s7 hbb⟩ (fun hHeld' => ?_)
   clear hK K' s0 s1 s2 s3 s4 s5 s6 s7
   have hHeld := hHeld'
   clear hHeld'
   have HX' := Lib.hid (ExprRep.below hbb _ HX.out)
   have HY' := Lib.hid (ExprRep.below hbb _ HY.out)
   have HB' := Lib.hid (Below.step HB.out hbb)
   clear HX HY HB hbb
   have HX := HX'
   have HY := HY'
   have HB := HB'
   clear HX' HY' HB'
   (try go_frame)
   refine held_one 3 (by kernel_rfl) rfl (by rfl) (fun K' hK => ?_)
   go_simp
   refine ((by rw [HHX.out]; exact height_any _ x (Nat.le_refl _) HNX.out _ w10 HX.out : Calls Tryd.prog 22 _ w10 fun r w' => r = .returned (.int .i64 (hx : Nat)) ∧ Below w10.heap.size w10 w')).mono ?_
   rintro e w11 ⟨rfl, hbb⟩
   (try dsimp only)
   obtain ⟨s0, s1, s2, s3, s4, s5, s6, s7⟩ := hHeld
   refine hK.out _ _ ⟨cell_step s0 hbb, cell_step s1 hbb, cell_step s2 hbb, cell_step s3 hbb, cell_step s4 hbb, cell_step s5 hbb, cell_step s6 hbb, cell_step s7 hbb⟩ (fun hHeld' => ?_)
   clear hK K' s0 s1 s2 s3 s4 s5 s6 s7
   have hHeld := hHeld'
   clear hHeld'
   have HX' := Lib.hid (ExprRep.below hbb _ HX.out)
   have HY' := Lib.hid (ExprRep.below hbb _ HY.out)
   have HB' := Lib.hid (Below.step HB.out hbb)
   clear HX HY HB hbb
   have HX := HX'
   have HY := HY'
   have HB := HB'
   clear HX' HY' HB'
   (try go_frame)
   refine held_take 4 (v := ?vv6) (by kernel_rfl) rfl (by rfl) (by kernel_rfl) (by kernel_rfl) (fun _ _ _ h => h) ?hyy6 (by assumption) ?rest6
   case hyy6 => (intro w hSw; (try dsimp only at hSw); go_simp; (try with_reducible rfl))
   (try go_frame)
   refine held_take 5 (v := ?vv7) (by kernel_rfl) rfl (by rfl) (by kernel_rfl) (by kernel_rfl) (fun _ _ _ h => h) ?hyy7 (by assumption) ?rest7
   case hyy7 => (intro w hSw; (try dsimp only at hSw); go_simp; (try with_reducible rfl))
   (try go_frame)
   refine held_take 6 (v := ?vv8) (by kernel_rfl) rfl (by rfl) (by kernel_rfl) (by kernel_rfl) (fun _ _ _ h => h) ?hyy8 (by assumption) ?rest8
   case hyy8 => (intro w hSw; (try dsimp only at hSw); go_simp; (try with_reducible rfl))
   (try go_frame)
   refine held_take 8 (v := ?vv9) (by kernel_rfl) rfl (by rfl) (by kernel_rfl) (by kernel_rfl) (fun _ _ _ h => h) ?hyy9 (by assumption) ?rest9
   case hyy9 => (intro w hSw; (try dsimp only at hSw); go_simp; (try with_reducible rfl))
   (try go_frame)
   refine held_one 7 (by kernel_rfl) rfl (by rfl) (fun K' hK => ?_)
   go_simp
   refine ((by rw [HHY.out]; exact heightE_any _ (mulE x z) (Nat.le_refl _) HNY.out HSY.out _ w11 HY.out (HES.out.below HB.out) : Calls Tryd.prog 21 _ w11 fun r w' => r = .returned (.int .i64 (hy : Nat)) ∧ Below w11.heap.size w11 w')).mono ?_
   rintro e w12 ⟨rfl, hbb⟩
   (try dsimp only)
   obtain ⟨s0, s1, s2, s3, s4, s5, s6, s7⟩ := hHeld
   refine hK.out _ _ ⟨cell_step s0 hbb, cell_step s1 hbb, cell_step s2 hbb, cell_step s3 hbb, cell_step s4 hbb, cell_step s5 hbb, cell_step s6 hbb, cell_step s7 hbb⟩ (fun hHeld' => ?_)
   clear hK K' s0 s1 s2 s3 s4 s5 s6 s7
   have hHeld := hHeld'
   clear hHeld'
   have HX' := Lib.hid (ExprRep.below hbb _ HX.out)
   have HY' := Lib.hid (ExprRep.below hbb _ HY.out)
   have HB' := Lib.hid (Below.step HB.out hbb)
   clear HX HY HB hbb
   have HX := HX'
   have HY := HY'
   have HB := HB'
   clear HX' HY' HB'
   (try go_frame)
   refine held_one 9 (by kernel_rfl) rfl (by rfl) (fun K' hK => ?_)
   go_simp
   refine ((by rw [HHY.out]; exact height_any _ (mulE x z) (Nat.le_refl _) HNY.out _ w12 HY.out : Calls Tryd.prog 22 _ w12 fun r w' => r = .returned (.int .i64 (hy : Nat)) ∧ Below w12.heap.size w12 w')).mono ?_
   rintro e w13 ⟨rfl, hbb⟩
   (try dsimp only)
   obtain ⟨s0, s1, s2, s3, s4, s5, s6, s7⟩ := hHeld
   refine hK.out _ _ ⟨cell_step s0 hbb, cell_step s1 hbb, cell_step s2 hbb, cell_step s3 hbb, cell_step s4 hbb, cell_step s5 hbb, cell_step s6 hbb, cell_step s7 hbb⟩ (fun hHeld' => ?_)
   clear hK K' s0 s1 s2 s3 s4 s5 s6 s7
   have hHeld := hHeld'
   clear hHeld'
   have HX' := Lib.hid (ExprRep.below hbb _ HX.out)
   have HY' := Lib.hid (ExprRep.below hbb _ HY.out)
   have HB' := Lib.hid (Below.step HB.out hbb)
   clear HX HY HB hbb
   have HX := HX'
   have HY := HY'
   have HB := HB'
   clear HX' HY' HB'
   (try go_frame)
   refine held_take 10 (v := ?vv10) (by kernel_rfl) rfl (by rfl) (by kernel_rfl) (by kernel_rfl) (fun _ _ _ h => h) ?hyy10 (by assumption) ?rest10
   case hyy10 => (intro w hSw; (try dsimp only at hSw); go_simp; (try with_reducible rfl))
   (try go_frame)
   refine held_take 11 (v := ?vv11) (by kernel_rfl) rfl (by rfl) (by kernel_rfl) (by kernel_rfl) (fun _ _ _ h => h) ?hyy11 (by assumption) ?rest11
   case hyy11 => (intro w hSw; (try dsimp only at hSw); go_simp; (try with_reducible rfl))
   (try go_frame)
   refine held_take 12 (v := ?vv12) (by kernel_rfl) rfl (by rfl) (by kernel_rfl) (by kernel_rfl) (fun _ _ _ h => h) ?hyy12 (by assumption) ?rest12
   case hyy12 => (intro w hSw; (try dsimp only at hSw); go_simp; (try with_reducible rfl))
   (try go_frame)
   refine held_take 13 (v := ?vv13) (by kernel_rfl) rfl (by rfl) (by kernel_rfl) (by kernel_rfl) (fun _ _ _ h => h) ?hyy13 (by assumption) ?rest13
   case hyy13 => (intro w hSw; (try dsimp only at hSw); go_simp; (try with_reducible rfl))
   (try go_frame)
   refine held_take 15 (v := ?vv14) (by kernel_rfl) rfl (by rfl) (by kernel_rfl) (by kernel_rfl) (fun _ _ _ h => h) ?hyy14 (by assumption) ?rest14
   case hyy14 => (intro w hSw; (try dsimp only at hSw); go_simp; (try with_reducible rfl))
   (try go_frame)
   refine held_one 14 (by kernel_rfl) rfl (by rfl) (fun K' hK => ?_)
   go_simp
   refine ((by rw [HHY.out]; exact heightE_any _ (mulE x z) (Nat.le_refl _) HNY.out HSY.out _ w13 HY.out (HES.out.below HB.out) : Calls Tryd.prog 21 _ w13 fun r w' => r = .returned (.int .i64 (hy : Nat)) ∧ Below w13.heap.size w13 w')).mono ?_
   rintro e w14 ⟨rfl, hbb⟩
   (try dsimp only)
   obtain ⟨s0, s1, s2, s3, s4, s5, s6, s7⟩ := hHeld
   refine hK.out _ _ ⟨cell_step s0 hbb, cell_step s1 hbb, cell_step s2 hbb, cell_step s3 hbb, cell_step s4 hbb, cell_step s5 hbb, cell_step s6 hbb, cell_step s7 hbb⟩ (fun hHeld' => ?_)
   clear hK K' s0 s1 s2 s3 s4 s5 s6 s7
   have hHeld := hHeld'
   clear hHeld'
   have HX' := Lib.hid (ExprRep.below hbb _ HX.out)
   have HY' := Lib.hid (ExprRep.below hbb _ HY.out)
   have HB' := Lib.hid (Below.step HB.out hbb)
   clear HX HY HB hbb
   have HX := HX'
   have HY := HY'
   have HB := HB'
   clear HX' HY' HB'
   (try go_frame)
   refine held_one 16 (by kernel_rfl) rfl (by rfl) (fun K' hK => ?_)
   go_simp
   refine ((by rw [HHX.out]; exact heightE_any _ x (Nat.le_refl _) HNX.out HSX.out _ w14 HX.out (HES.out.below HB.out) : Calls Tryd.prog 21 _ w14 fun r w' => r = .returned (.int .i64 (hx : Nat)) ∧ Below w14.heap.size w14 w')).mono ?_
   rintro e w15 ⟨rfl, hbb⟩
   (try dsimp only)
   obtain ⟨s0, s1, s2, s3, s4, s5, s6, s7⟩ := hHeld
   refine hK.out _ _ ⟨cell_step s0 hbb, cell_step s1 hbb, cell_step s2 hbb, cell_step s3 hbb, cell_step s4 hbb, cell_step s5 hbb, cell_step s6 hbb, cell_step s7 hbb⟩ (fun hHeld' => ?_)
   clear hK K' s0 s1 s2 s3 s4 s5 s6 s7
   have hHeld := hHeld'
   clear hHeld'
   have HX' := Lib.hid (ExprRep.below hbb _ HX.out)
   have HY' := Lib.hid (ExprRep.below hbb _ HY.out)
   have HB' := Lib.hid (Below.step HB.out hbb)
   clear HX HY HB hbb
   have HX := HX'
   have HY := HY'
   have HB := HB'
   clear HX' HY' HB'
   (try go_frame)
   refine held_take 17 (v := ?vv15) (by kernel_rfl) rfl (by rfl) (by kernel_rfl) (by kernel_rfl) (fun _ _ _ h => h) ?hyy15 (by assumption) ?rest15
   case hyy15 => (intro w hSw; (try dsimp only at hSw); go_simp; (try with_reducible rfl))
   (try go_frame)
   refine held_take 18 (v := ?vv16) (by kernel_rfl) rfl (by rfl) (by kernel_rfl) (by kernel_rfl) (fun _ _ _ h => h) ?hyy16 (by assumption) ?rest16
   case hyy16 => (intro w hSw; (try dsimp only at hSw); go_simp; (try with_reducible rfl))
   (try go_frame)
   refine held_take 19 (v := ?vv17) (by kernel_rfl) rfl (by rfl) (by kernel_rfl) (by kernel_rfl) (fun _ _ _ h => h) ?hyy17 (by assumption) ?rest17
   case hyy17 => (intro w hSw; (try dsimp only at hSw); go_simp; (try with_reducible rfl))
   (try go_frame)
   refine held_one 20 (by kernel_rfl) rfl (by rfl) (fun K' hK => ?_)
   go_simp
   refine (awakeE w15 (HE.out.below HB.out HE.out.size) (HES.out.below HB.out)).mono ?_
   rintro e wz ⟨rfl, hbb⟩
   (try dsimp only)
   obtain ⟨s0, s1, s2, s3, s4, s5, s6, s7⟩ := hHeld
   refine hK.out _ _ ⟨cell_step s0 hbb, cell_step s1 hbb, cell_step s2 hbb, cell_step s3 hbb, cell_step s4 hbb, cell_step s5 hbb, cell_step s6 hbb, cell_step s7 hbb⟩ (fun hHeld' => ?_)
   clear hK K' s0 s1 s2 s3 s4 s5 s6 s7
   have hHeld := hHeld'
   clear hHeld'
   have HBZ := Lib.hid (Below.step HB.out hbb)
   clear hbb
   (try go_frame)
   refine held_take 21 (v := ?vv18) (by kernel_rfl) rfl (by rfl) (by kernel_rfl) (by kernel_rfl) (fun _ _ _ h => h) ?hyy18 (by assumption) ?rest18
   case hyy18 => (intro w hSw; (try dsimp only at hSw); go_simp; (try with_reducible rfl))
   (try go_frame)
   refine held_take 22 (v := ?vv19) (by kernel_rfl) rfl (by rfl) (by kernel_rfl) (by kernel_rfl) (fun _ _ _ h => h) ?hyy19 (by assumption) ?rest19
   case hyy19 => (intro w hSw; (try dsimp only at hSw); go_simp; (try with_reducible rfl))
   (try go_frame)
   refine wpAnyH_done (by kernel_rfl) ?_ _
   go_wp2_with fail
   go_ret
   exact ⟨rfl, HBZ.out⟩
  ·go_simp
   have hbb := (Below.refl w4.heap.size w4).alloc (Nat.le_refl _) (.cells #[.int .i64 0, .int .i64 0, .string ⟨#[]⟩, .slice none 0 0] 34)
   refine hK.out _ _ ⟨cell_step hHeld.1 hbb, cell_step hHeld.2.1 hbb, cell_step hHeld.2.2.1 hbb, cell_step hHeld.2.2.2 hbb⟩ (fun hHeld' => ?_)
   clear hK K' hHeld
   have hHeld := hHeld'
   clear hHeld'
   have HB' := Lib.hid (Below.step HB.out hbb)
   have bx' := Lib.hid (bx.out.keep (Keep.of_below (H := []) hbb) (by simp))
   have HZ' := Lib.hid (ExprRep.mono (hide_newE (.cells #[.int .i64 0, .int .i64 0, .string ⟨#[]⟩, .slice none 0 0] 34)) _ HZ.out)
   have HX' := Lib.hid (ExprRep.mono (hide_newE (.cells #[.int .i64 0, .int .i64 0, .string ⟨#[]⟩, .slice none 0 0] 34)) _ HX.out)
   have bY := Lib.hid (box4_new w4 (.int .i64 0) (.int .i64 0) (.string ⟨#[]⟩) (.slice none 0 0) 34)
   have HYS : Hid (w.heap.size ≤ w4.heap.size) := Lib.hid HB.out.size
   have HXY : Hid (X < w4.heap.size) := Lib.hid (cell_lt bx.out.1)
   clear hbb
   clear HB
   have HB := HB'
   clear HB'
   clear bx
   have bx := bx'
   clear bx'
   clear HZ
   have HZ := HZ'
   clear HZ'
   clear HX
   have HX := HX'
   clear HX'
   generalize w4.alloc (.cells #[.int .i64 0, .int .i64 0, .string ⟨#[]⟩, .slice none 0 0] 34) = w5 at hHeld HB bx bY HX HZ ⊢
   have HRY : Hid (∀ v, Below w.heap.size w v → RowAt (hideL [w4.heap.size] v) (.slice b m.length cbp) m.length (m.map (.int .i64))) := Lib.hid (fun v hv => HR'.out.mono fun p u hu => by have h3 := cell_lt hu; rw [hideL_cell_ne _ _ _ (by simp only [List.mem_singleton]; have := HYS.out; omega)]; rw [hv.cell h3]; exact hu)
   generalize w4.heap.size = Y at bY HYS HXY HRY HX HZ ⊢
   (try go_frame)
   refine held_one 3 (by kernel_rfl) rfl (by rfl) (fun K' hK => ?_)
   go_simp
   have hbb := (Below.refl w5.heap.size w5).alloc (Nat.le_refl _) (.cells #[.int .i64 x.op, .int .i64 x.num, .string x.name, .slice xa x.args.length xc, .int .i64 z.op, .int .i64 z.num, .string z.name, .slice za z.args.length zc] 34)
   have HY := Lib.hid (exprRep_row (H := [Y]) (w := w5) (by intro q hq; simp at hq; subst hq; exact cell_lt bY.out.1) 5 0 emptyB [x, z] [[.int .i64 x.op, .int .i64 x.num, .string x.name, .slice xa x.args.length xc], [.int .i64 z.op, .int .i64 z.num, .string z.name, .slice za z.args.length zc]] 34 rfl (fun k h h' => by rcases (show k = 0 ∨ k = 1 by simp at h; omega) with rfl | rfl; exact HX.out; exact HZ.out) #[.int .i64 x.op, .int .i64 x.num, .string x.name, .slice xa x.args.length xc, .int .i64 z.op, .int .i64 z.num, .string z.name, .slice za z.args.length zc] rfl)
   refine hK.out _ _ ⟨cell_step hHeld.1 hbb, cell_step hHeld.2.1 hbb, cell_step hHeld.2.2.1 hbb, cell_step hHeld.2.2.2 hbb⟩ (fun hHeld' => ?_)
   clear hK K' hHeld
   have hHeld := hHeld'
   clear hHeld'
   have HB' := Lib.hid (Below.step HB.out hbb)
   have bx' := Lib.hid (bx.out.keep (Keep.of_below (H := []) hbb) (by simp))
   have bY' := Lib.hid (bY.out.keep (Keep.of_below (H := []) hbb) (by simp))
   clear hbb HZ
   clear HB
   have HB := HB'
   clear HB'
   clear bx
   have bx := bx'
   clear bx'
   clear bY
   have bY := bY'
   clear bY'
   have HX' := Lib.hid (ExprRep.below ((Keep.of_below (H := [Y]) ((Below.refl w5.heap.size w5).alloc (Nat.le_refl _) (.cells #[.int .i64 x.op, .int .i64 x.num, .string x.name, .slice xa x.args.length xc, .int .i64 z.op, .int .i64 z.num, .string z.name, .slice za z.args.length zc] 34))).hide) _ HX.out)
   clear HX
   have HX := HX'
   clear HX'
   generalize w5.alloc (.cells #[.int .i64 x.op, .int .i64 x.num, .string x.name, .slice xa x.args.length xc, .int .i64 z.op, .int .i64 z.num, .string z.name, .slice za z.args.length zc] 34) = w6 at hHeld HB bx HY HX bY ⊢
   generalize w5.heap.size = BA at HY ⊢
   (try go_frame)
   refine held_take 4 (v := ?vv20) (by kernel_rfl) rfl (by rfl) (by kernel_rfl) (by kernel_rfl) (fun _ _ _ h => h) ?hyy20 (by assumption) ?rest20
   case hyy20 => (intro w hSw; (try dsimp only at hSw); go_simp; (try with_reducible rfl))
   (try go_frame)
   have by4 := bY.out
   unfold Box4 at by4
   refine held_one 6 (by kernel_rfl) rfl (by rfl) (fun K' hK => ?_)
   go_simp
   clear by4
   have hkp : Keep [Y] w6 ((((w6.setCell ⟨Y, 0, none⟩ (.int .i64 5)).setCell ⟨Y, 1, none⟩ (.int .i64 0)).setCell ⟨Y, 2, none⟩ (.string ⟨#[]⟩)).setCell ⟨Y, 3, none⟩ (.slice (some ⟨BA, 0, none⟩) 2 2)) := keep4 _ _ _ _ _ _
   have hXY : X ≠ Y := by have := HXY.out; omega
   have HB' : Hid (Below w.heap.size w ((((w6.setCell ⟨Y, 0, none⟩ (.int .i64 5)).setCell ⟨Y, 1, none⟩ (.int .i64 0)).setCell ⟨Y, 2, none⟩ (.string ⟨#[]⟩)).setCell ⟨Y, 3, none⟩ (.slice (some ⟨BA, 0, none⟩) 2 2))) := Lib.hid (HB.out.trans (hkp.below HB.out.size (by intro q hq; simp at hq; subst hq; exact HYS.out)))
   have bx' := Lib.hid (bx.out.keep hkp (by simpa using hXY))
   have bY' := Lib.hid (box4_put bY.out (.int .i64 5) (.int .i64 0) (.string ⟨#[]⟩) (.slice (some ⟨BA, 0, none⟩) 2 2))
   have HX' := Lib.hid (ExprRep.mono unhide _ (ExprRep.below (hkp.hide) _ HX.out))
   have HY' := Lib.hid (ExprRep.mono unhide _ (ExprRep.below (hkp.hide) _ HY.out))
   have h4 := bx'.out
   unfold Box4 at h4
   refine hK.out _ _ ⟨h4.1, h4.2.1, h4.2.2.1, h4.2.2.2.1⟩ (fun hHeld' => ?_)
   clear hK K' hHeld hHeld' hkp h4 HB bx bY HX HY HRY HXY HYS
   (try go_frame)
   refine wpAnyH_done (by kernel_rfl) ?_ _
   generalize (((w6.setCell ⟨Y, 0, none⟩ (.int .i64 5)).setCell ⟨Y, 1, none⟩ (.int .i64 0)).setCell ⟨Y, 2, none⟩ (.string ⟨#[]⟩)).setCell ⟨Y, 3, none⟩ (.slice (some ⟨BA, 0, none⟩) 2 2) = w8 at HB' bx' bY' HX' HY' ⊢
   go_wp2_with fail
   have bX := bx'.out
   have bY2 := bY'.out
   unfold Box4 at bX bY2
   obtain ⟨x0, x1, x2, x3, _⟩ := bX
   obtain ⟨y0, y1, y2, y3, _⟩ := bY2
   have hMY : MExpr names3 6 (mulE x z) := .bin (by decide) (by decide) HMX.out HMZ.out
   have HSX := Lib.hid (HMX.out.shape names3_ok)
   have HSY := Lib.hid (hMY.shape names3_ok)
   have HNX : Hid (x.nodes ≤ 1000000) := Lib.hid (by have := HMX.out.nodes; omega)
   have HNY : Hid ((mulE x z).nodes ≤ 1000000) := Lib.hid (by have := hMY.nodes; omega)
   obtain ⟨hx, hhx⟩ : ∃ hx, hx = heightN x := ⟨_, rfl⟩
   obtain ⟨hy, hhy⟩ : ∃ hy, hy = heightN (mulE x z) := ⟨_, rfl⟩
   have hxy : hx ≤ hy := by rw [hhx, hhy]; exact height_two x z
   have hdl : decide (hx ≤ hy) = true := decide_eq_true hxy
   have HHX := Lib.hid hhx
   have HHY := Lib.hid hhy
   clear hMY hhx hhy HMX HMZ bx' bY' hxy
   refine wp_region_held_drew (S := fun w' => w'.cell? ⟨X, 0, none⟩ = some (.int .i64 x.op) ∧ w'.cell? ⟨X, 1, none⟩ = some (.int .i64 x.num) ∧ w'.cell? ⟨X, 2, none⟩ = some (.string x.name) ∧ w'.cell? ⟨X, 3, none⟩ = some (.slice xa x.args.length xc) ∧ w'.cell? ⟨Y, 0, none⟩ = some (.int .i64 5) ∧ w'.cell? ⟨Y, 1, none⟩ = some (.int .i64 0) ∧ w'.cell? ⟨Y, 2, none⟩ = some (.string ⟨#[]⟩) ∧ w'.cell? ⟨Y, 3, none⟩ = some (.slice (some ⟨BA, 0, none⟩) 2 2)) (by kernel_rfl) ⟨x0, x1, x2, x3, y0, y1, y2, y3⟩ (fun hHeld => ?_)
   clear x0 x1 x2 x3 y0 y1 y2 y3
   have hd : Below w8.heap.size w8 w8.drew := (Below.refl _ _).drew
   have HX := Lib.hid (ExprRep.below hd _ HX'.out)
   have HY := Lib.hid (ExprRep.below hd _ HY'.out)
   have HB := Lib.hid (Below.step HB'.out hd)
   clear HX' HY' HB' hd
   generalize w8.drew = w9 at hHeld HX HY HB ⊢
   refine held_take 0 (v := ?vv21) (by kernel_rfl) rfl (by rfl) (by kernel_rfl) (by kernel_rfl) (fun _ _ _ h => h) ?hyy21 (by assumption) ?rest21
   case hyy21 => (intro w hSw; (try dsimp only at hSw); go_simp; (try with_reducible rfl))
   (try go_frame)
   refine held_take 2 (v := ?vv22) (by kernel_rfl) rfl (by rfl) (by kernel_rfl) (by kernel_rfl) (fun _ _ _ h => h) ?hyy22 (by assumption) ?rest22
   case hyy22 => (intro w hSw; (try dsimp only at hSw); go_simp; (try with_reducible rfl))
   (try go_frame)
   refine held_one 1 (by kernel_rfl) rfl (by rfl) (fun K' hK => ?_)
   go_simp
   refine ((by rw [HHX.out]; exact heightE_any _ x (Nat.le_refl _) HNX.out HSX.out _ w9 HX.out (HES.out.below HB.out) : Calls Tryd.prog 21 _ w9 fun r w' => r = .returned (.int .i64 (hx : Nat)) ∧ Below w9.heap.size w9 w')).mono ?_
   rintro e w10 ⟨rfl, hbb⟩
   (try dsimp only)
   obtain ⟨s0, s1, s2, s3, s4, s5, s6, s7⟩ := hHeld
   refine hK.out _ _ ⟨cell_step s0 hbb, cell_step s1 hbb, cell_step s2 hbb, cell_step s3 hbb, cell_step s4 hbb, cell_step s5 hbb, cell_step s6 hbb, cell_step s7 hbb⟩ (fun hHeld' => ?_)
   clear hK K' s0 s1 s2 s3 s4 s5 s6 s7
   have hHeld := hHeld'
   clear hHeld'
   have HX' := Lib.hid (ExprRep.below hbb _ HX.out)
   have HY' := Lib.hid (ExprRep.below hbb _ HY.out)
   have HB' := Lib.hid (Below.step HB.out hbb)
   clear HX HY HB hbb
   have HX := HX'
   have HY := HY'
   have HB := HB'
   clear HX' HY' HB'
   (try go_frame)
   refine held_one 3 (by kernel_rfl) rfl (by rfl) (fun K' hK => ?_)
   go_simp
   refine ((by rw [HHX.out]; exact height_any _ x (Nat.le_refl _) HNX.out _ w10 HX.out : Calls Tryd.prog 22 _ w10 fun r w' => r = .returned (.int .i64 (hx : Nat)) ∧ Below w10.heap.size w10 w')).mono ?_
   rintro e w11 ⟨rfl, hbb⟩
   (try dsimp only)
   obtain ⟨s0, s1, s2, s3, s4, s5, s6, s7⟩ := hHeld
   refine hK.out _ _ ⟨cell_step s0 hbb, cell_step s1 hbb, cell_step s2 hbb, cell_step s3 hbb, cell_step s4 hbb, cell_step s5 hbb, cell_step s6 hbb, cell_step s7 hbb⟩ (fun hHeld' => ?_)
   clear hK K' s0 s1 s2 s3 s4 s5 s6 s7
   have hHeld := hHeld'
   clear hHeld'
   have HX' := Lib.hid (ExprRep.below hbb _ HX.out)
   have HY' := Lib.hid (ExprRep.below hbb _ HY.out)
   have HB' := Lib.hid (Below.step HB.out hbb)
   clear HX HY HB hbb
   have HX := HX'
   have HY := HY'
   have HB := HB'
   clear HX' HY' HB'
   (try go_frame)
   refine held_take 4 (v := ?vv23) (by kernel_rfl) rfl (by rfl) (by kernel_rfl) (by kernel_rfl) (fun _ _ _ h => h) ?hyy23 (by assumption) ?rest23
   case hyy23 => (intro w hSw; (try dsimp only at hSw); go_simp; (try with_reducible rfl))
   (try go_frame)
   refine held_take 5 (v := ?vv24) (by kernel_rfl) rfl (by rfl) (by kernel_rfl) (by kernel_rfl) (fun _ _ _ h => h) ?hyy24 (by assumption) ?rest24
   case hyy24 => (intro w hSw; (try dsimp only at hSw); go_simp; (try with_reducible rfl))
   (try go_frame)
   refine held_take 6 (v := ?vv25) (by kernel_rfl) rfl (by rfl) (by kernel_rfl) (by kernel_rfl) (fun _ _ _ h => h) ?hyy25 (by assumption) ?rest25
   case hyy25 => (intro w hSw; (try dsimp only at hSw); go_simp; (try with_reducible rfl))
   (try go_frame)
   refine held_take 8 (v := ?vv26) (by kernel_rfl) rfl (by rfl) (by kernel_rfl) (by kernel_rfl) (fun _ _ _ h => h) ?hyy26 (by assumption) ?rest26
   case hyy26 => (intro w hSw; (try dsimp only at hSw); go_simp; (try with_reducible rfl))
   (try go_frame)
   refine held_one 7 (by kernel_rfl) rfl (by rfl) (fun K' hK => ?_)
   go_simp
   refine ((by rw [HHY.out]; exact heightE_any _ (mulE x z) (Nat.le_refl _) HNY.out HSY.out _ w11 HY.out (HES.out.below HB.out) : Calls Tryd.prog 21 _ w11 fun r w' => r = .returned (.int .i64 (hy : Nat)) ∧ Below w11.heap.size w11 w')).mono ?_
   rintro e w12 ⟨rfl, hbb⟩
   (try dsimp only)
   obtain ⟨s0, s1, s2, s3, s4, s5, s6, s7⟩ := hHeld
   refine hK.out _ _ ⟨cell_step s0 hbb, cell_step s1 hbb, cell_step s2 hbb, cell_step s3 hbb, cell_step s4 hbb, cell_step s5 hbb, cell_step s6 hbb, cell_step s7 hbb⟩ (fun hHeld' => ?_)
   clear hK K' s0 s1 s2 s3 s4 s5 s6 s7
   have hHeld := hHeld'
   clear hHeld'
   have HX' := Lib.hid (ExprRep.below hbb _ HX.out)
   have HY' := Lib.hid (ExprRep.below hbb _ HY.out)
   have HB' := Lib.hid (Below.step HB.out hbb)
   clear HX HY HB hbb
   have HX := HX'
   have HY := HY'
   have HB := HB'
   clear HX' HY' HB'
   (try go_frame)
   refine held_one 9 (by kernel_rfl) rfl (by rfl) (fun K' hK => ?_)
   go_simp
   refine ((by rw [HHY.out]; exact height_any _ (mulE x z) (Nat.le_refl _) HNY.out _ w12 HY.out : Calls Tryd.prog 22 _ w12 fun r w' => r = .returned (.int .i64 (hy : Nat)) ∧ Below w12.heap.size w12 w')).mono ?_
   rintro e w13 ⟨rfl, hbb⟩
   (try dsimp only)
   obtain ⟨s0, s1, s2, s3, s4, s5, s6, s7⟩ := hHeld
   refine hK.out _ _ ⟨cell_step s0 hbb, cell_step s1 hbb, cell_step s2 hbb, cell_step s3 hbb, cell_step s4 hbb, cell_step s5 hbb, cell_step s6 hbb, cell_step s7 hbb⟩ (fun hHeld' => ?_)
   clear hK K' s0 s1 s2 s3 s4 s5 s6 s7
   have hHeld := hHeld'
   clear hHeld'
   have HX' := Lib.hid (ExprRep.below hbb _ HX.out)
   have HY' := Lib.hid (ExprRep.below hbb _ HY.out)
   have HB' := Lib.hid (Below.step HB.out hbb)
   clear HX HY HB hbb
   have HX := HX'
   have HY := HY'
   have HB := HB'
   clear HX' HY' HB'
   (try go_frame)
   refine held_take 10 (v := ?vv27) (by kernel_rfl) rfl (by rfl) (by kernel_rfl) (by kernel_rfl) (fun _ _ _ h => h) ?hyy27 (by assumption) ?rest27
   case hyy27 => (intro w hSw; (try dsimp only at hSw); go_simp; (try with_reducible rfl))
   (try go_frame)
   refine held_take 11 (v := ?vv28) (by kernel_rfl) rfl (by rfl) (by kernel_rfl) (by kernel_rfl) (fun _ _ _ h => h) ?hyy28 (by assumption) ?rest28
   case hyy28 => (intro w hSw; (try dsimp only at hSw); go_simp; (try with_reducible rfl))
   (try go_frame)
   refine held_take 12 (v := ?vv29) (by kernel_rfl) rfl (by rfl) (by kernel_rfl) (by kernel_rfl) (fun _ _ _ h => h) ?hyy29 (by assumption) ?rest29
   case hyy29 => (intro w hSw; (try dsimp only at hSw); go_simp; (try with_reducible rfl))
   (try go_frame)
   refine held_take 13 (v := ?vv30) (by kernel_rfl) rfl (by rfl) (by kernel_rfl) (by kernel_rfl) (fun _ _ _ h => h) ?hyy30 (by assumption) ?rest30
   case hyy30 => (intro w hSw; (try dsimp only at hSw); go_simp; (try with_reducible rfl))
   (try go_frame)
   refine held_take 15 (v := ?vv31) (by kernel_rfl) rfl (by rfl) (by kernel_rfl) (by kernel_rfl) (fun _ _ _ h => h) ?hyy31 (by assumption) ?rest31
   case hyy31 => (intro w hSw; (try dsimp only at hSw); go_simp; (try with_reducible rfl))
   (try go_frame)
   refine held_one 14 (by kernel_rfl) rfl (by rfl) (fun K' hK => ?_)
   go_simp
   refine ((by rw [HHY.out]; exact heightE_any _ (mulE x z) (Nat.le_refl _) HNY.out HSY.out _ w13 HY.out (HES.out.below HB.out) : Calls Tryd.prog 21 _ w13 fun r w' => r = .returned (.int .i64 (hy : Nat)) ∧ Below w13.heap.size w13 w')).mono ?_
   rintro e w14 ⟨rfl, hbb⟩
   (try dsimp only)
   obtain ⟨s0, s1, s2, s3, s4, s5, s6, s7⟩ := hHeld
   refine hK.out _ _ ⟨cell_step s0 hbb, cell_step s1 hbb, cell_step s2 hbb, cell_step s3 hbb, cell_step s4 hbb, cell_step s5 hbb, cell_step s6 hbb, cell_step s7 hbb⟩ (fun hHeld' => ?_)
   clear hK K' s0 s1 s2 s3 s4 s5 s6 s7
   have hHeld := hHeld'
   clear hHeld'
   have HX' := Lib.hid (ExprRep.below hbb _ HX.out)
   have HY' := Lib.hid (ExprRep.below hbb _ HY.out)
   have HB' := Lib.hid (Below.step HB.out hbb)
   clear HX HY HB hbb
   have HX := HX'
   have HY := HY'
   have HB := HB'
   clear HX' HY' HB'
   (try go_frame)
   refine held_one 16 (by kernel_rfl) rfl (by rfl) (fun K' hK => ?_)
   go_simp
   refine ((by rw [HHX.out]; exact heightE_any _ x (Nat.le_refl _) HNX.out HSX.out _ w14 HX.out (HES.out.below HB.out) : Calls Tryd.prog 21 _ w14 fun r w' => r = .returned (.int .i64 (hx : Nat)) ∧ Below w14.heap.size w14 w')).mono ?_
   rintro e w15 ⟨rfl, hbb⟩
   (try dsimp only)
   obtain ⟨s0, s1, s2, s3, s4, s5, s6, s7⟩ := hHeld
   refine hK.out _ _ ⟨cell_step s0 hbb, cell_step s1 hbb, cell_step s2 hbb, cell_step s3 hbb, cell_step s4 hbb, cell_step s5 hbb, cell_step s6 hbb, cell_step s7 hbb⟩ (fun hHeld' => ?_)
   clear hK K' s0 s1 s2 s3 s4 s5 s6 s7
   have hHeld := hHeld'
   clear hHeld'
   have HX' := Lib.hid (ExprRep.below hbb _ HX.out)
   have HY' := Lib.hid (ExprRep.below hbb _ HY.out)
   have HB' := Lib.hid (Below.step HB.out hbb)
   clear HX HY HB hbb
   have HX := HX'
   have HY := HY'
   have HB := HB'
   clear HX' HY' HB'
   (try go_frame)
   refine held_take 17 (v := ?vv32) (by kernel_rfl) rfl (by rfl) (by kernel_rfl) (by kernel_rfl) (fun _ _ _ h => h) ?hyy32 (by assumption) ?rest32
   case hyy32 => (intro w hSw; (try dsimp only at hSw); go_simp; (try with_reducible rfl))
   (try go_frame)
   refine held_take 18 (v := ?vv33) (by kernel_rfl) rfl (by rfl) (by kernel_rfl) (by kernel_rfl) (fun _ _ _ h => h) ?hyy33 (by assumption) ?rest33
   case hyy33 => (intro w hSw; (try dsimp only at hSw); go_simp; (try with_reducible rfl))
   (try go_frame)
   refine held_take 19 (v := ?vv34) (by kernel_rfl) rfl (by rfl) (by kernel_rfl) (by kernel_rfl) (fun _ _ _ h => h) ?hyy34 (by assumption) ?rest34
   case hyy34 => (intro w hSw; (try dsimp only at hSw); go_simp; (try with_reducible rfl))
   (try go_frame)
   refine held_one 20 (by kernel_rfl) rfl (by rfl) (fun K' hK => ?_)
   go_simp
   refine (awakeE w15 (HE.out.below HB.out HE.out.size) (HES.out.below HB.out)).mono ?_
   rintro e wz ⟨rfl, hbb⟩
   (try dsimp only)
   obtain ⟨s0, s1, s2, s3, s4, s5, s6, s7⟩ := hHeld
   refine hK.out _ _ ⟨cell_step s0 hbb, cell_step s1 hbb, cell_step s2 hbb, cell_step s3 hbb, cell_step s4 hbb, cell_step s5 hbb, cell_step s6 hbb, cell_step s7 hbb⟩ (fun hHeld' => ?_)
   clear hK K' s0 s1 s2 s3 s4 s5 s6 s7
   have hHeld := hHeld'
   clear hHeld'
   have HBZ := Lib.hid (Below.step HB.out hbb)
   clear hbb
   (try go_frame)
   refine held_take 21 (v := ?vv35) (by kernel_rfl) rfl (by rfl) (by kernel_rfl) (by kernel_rfl) (fun _ _ _ h => h) ?hyy35 (by assumption) ?rest35
   case hyy35 => (intro w hSw; (try dsimp only at hSw); go_simp; (try with_reducible rfl))
   (try go_frame)
   refine held_take 22 (v := ?vv36) (by kernel_rfl) rfl (by rfl) (by kernel_rfl) (by kernel_rfl) (fun _ _ _ h => h) ?hyy36 (by assumption) ?rest36
   case hyy36 => (intro w hSw; (try dsimp only at hSw); go_simp; (try with_reducible rfl))
   (try go_frame)
   refine wpAnyH_done (by kernel_rfl) ?_ _
   go_wp2_with fail
   go_ret
   exact ⟨rfl, HBZ.out⟩
 ·go_simp
  have hbb := (Below.refl w3.heap.size w3).alloc (Nat.le_refl _) (.cells #[.int .i64 0, .int .i64 0, .string ⟨#[]⟩, .slice none 0 0] 34)
  refine hK.out _ _ ⟨cell_step hHeld.1 hbb, cell_step hHeld.2.1 hbb, cell_step hHeld.2.2.1 hbb, cell_step hHeld.2.2.2 hbb⟩ (fun hHeld' => ?_)
  clear hK K' hHeld
  have hHeld := hHeld'
  clear hHeld'
  have HB' := Lib.hid (Below.step HB.out hbb)
  have bx' := Lib.hid (bx.out.keep (Keep.of_below (H := []) hbb) (by simp))
  have HX' := Lib.hid (ExprRep.mono (hide_newE (.cells #[.int .i64 0, .int .i64 0, .string ⟨#[]⟩, .slice none 0 0] 34)) _ HX.out)
  have bY := Lib.hid (box4_new w3 (.int .i64 0) (.int .i64 0) (.string ⟨#[]⟩) (.slice none 0 0) 34)
  have HYS : Hid (w.heap.size ≤ w3.heap.size) := Lib.hid HB.out.size
  have HXY : Hid (X < w3.heap.size) := Lib.hid (cell_lt bx.out.1)
  clear hbb
  clear HB
  have HB := HB'
  clear HB'
  clear bx
  have bx := bx'
  clear bx'
  clear HX
  have HX := HX'
  clear HX'
  generalize w3.alloc (.cells #[.int .i64 0, .int .i64 0, .string ⟨#[]⟩, .slice none 0 0] 34) = w4 at hHeld HB bx bY HX ⊢
  have HRY : Hid (∀ v, Below w.heap.size w v → RowAt (hideL [w3.heap.size] v) (.slice b m.length cbp) m.length (m.map (.int .i64))) := Lib.hid (fun v hv => HR'.out.mono fun p u hu => by have h3 := cell_lt hu; rw [hideL_cell_ne _ _ _ (by simp only [List.mem_singleton]; have := HYS.out; omega)]; rw [hv.cell h3]; exact hu)
  generalize w3.heap.size = Y at bY HYS HXY HRY HX ⊢
  (try go_frame)
  refine held_one 2 (by kernel_rfl) rfl (by rfl) (fun K' hK => ?_)
  go_simp
  refine (madeExpr_any [Y] m b cbp w4 (by intro q hq; simp at hq; subst hq; exact cell_lt bY.out.1) (HRY.out _ HB.out) hm).mono ?_
  rintro e w5 ⟨⟨z, za, zc, rfl, hmz, zr⟩, hbb⟩
  (try dsimp only)
  refine hK.out _ _ ⟨cell_step hHeld.1 hbb, cell_step hHeld.2.1 hbb, cell_step hHeld.2.2.1 hbb, cell_step hHeld.2.2.2 hbb⟩ (fun hHeld' => ?_)
  clear hK K' hHeld
  have hHeld := hHeld'
  clear hHeld'
  have HB' := Lib.hid (Below.step HB.out hbb)
  have bx' := Lib.hid (bx.out.keep (Keep.of_below (H := []) hbb) (by simp))
  have HX' := Lib.hid (ExprRep.below ((Keep.of_below (H := [Y]) hbb).hide) _ HX.out)
  have bY' := Lib.hid (bY.out.keep (Keep.of_below (H := []) hbb) (by simp))
  have HMZ := Lib.hid hmz
  have HZ := Lib.hid zr
  clear hbb zr hmz
  clear HB
  have HB := HB'
  clear HB'
  clear bx
  have bx := bx'
  clear bx'
  clear HX
  have HX := HX'
  clear HX'
  clear bY
  have bY := bY'
  clear bY'
  (try go_frame)
  refine held_one 3 (by kernel_rfl) rfl (by rfl) (fun K' hK => ?_)
  go_simp
  have hbb := (Below.refl w5.heap.size w5).alloc (Nat.le_refl _) (.cells #[.int .i64 x.op, .int .i64 x.num, .string x.name, .slice xa x.args.length xc, .int .i64 z.op, .int .i64 z.num, .string z.name, .slice za z.args.length zc] 34)
  have HY := Lib.hid (exprRep_row (H := [Y]) (w := w5) (by intro q hq; simp at hq; subst hq; exact cell_lt bY.out.1) 5 0 emptyB [x, z] [[.int .i64 x.op, .int .i64 x.num, .string x.name, .slice xa x.args.length xc], [.int .i64 z.op, .int .i64 z.num, .string z.name, .slice za z.args.length zc]] 34 rfl (fun k h h' => by rcases (show k = 0 ∨ k = 1 by simp at h; omega) with rfl | rfl; exact HX.out; exact HZ.out) #[.int .i64 x.op, .int .i64 x.num, .string x.name, .slice xa x.args.length xc, .int .i64 z.op, .int .i64 z.num, .string z.name, .slice za z.args.length zc] rfl)
  refine hK.out _ _ ⟨cell_step hHeld.1 hbb, cell_step hHeld.2.1 hbb, cell_step hHeld.2.2.1 hbb, cell_step hHeld.2.2.2 hbb⟩ (fun hHeld' => ?_)
  clear hK K' hHeld
  have hHeld := hHeld'
  clear hHeld'
  have HB' := Lib.hid (Below.step HB.out hbb)
  have bx' := Lib.hid (bx.out.keep (Keep.of_below (H := []) hbb) (by simp))
  have bY' := Lib.hid (bY.out.keep (Keep.of_below (H := []) hbb) (by simp))
  clear hbb HZ
  clear HB
  have HB := HB'
  clear HB'
  clear bx
  have bx := bx'
  clear bx'
  clear bY
  have bY := bY'
  clear bY'
  have HX' := Lib.hid (ExprRep.below ((Keep.of_below (H := [Y]) ((Below.refl w5.heap.size w5).alloc (Nat.le_refl _) (.cells #[.int .i64 x.op, .int .i64 x.num, .string x.name, .slice xa x.args.length xc, .int .i64 z.op, .int .i64 z.num, .string z.name, .slice za z.args.length zc] 34))).hide) _ HX.out)
  clear HX
  have HX := HX'
  clear HX'
  generalize w5.alloc (.cells #[.int .i64 x.op, .int .i64 x.num, .string x.name, .slice xa x.args.length xc, .int .i64 z.op, .int .i64 z.num, .string z.name, .slice za z.args.length zc] 34) = w6 at hHeld HB bx HY HX bY ⊢
  generalize w5.heap.size = BA at HY ⊢
  (try go_frame)
  refine held_take 4 (v := ?vv37) (by kernel_rfl) rfl (by rfl) (by kernel_rfl) (by kernel_rfl) (fun _ _ _ h => h) ?hyy37 (by assumption) ?rest37
  case hyy37 => (intro w hSw; (try dsimp only at hSw); go_simp; (try with_reducible rfl))
  (try go_frame)
  have by4 := bY.out
  unfold Box4 at by4
  refine held_one 6 (by kernel_rfl) rfl (by rfl) (fun K' hK => ?_)
  go_simp
  clear by4
  have hkp : Keep [Y] w6 ((((w6.setCell ⟨Y, 0, none⟩ (.int .i64 5)).setCell ⟨Y, 1, none⟩ (.int .i64 0)).setCell ⟨Y, 2, none⟩ (.string ⟨#[]⟩)).setCell ⟨Y, 3, none⟩ (.slice (some ⟨BA, 0, none⟩) 2 2)) := keep4 _ _ _ _ _ _
  have hXY : X ≠ Y := by have := HXY.out; omega
  have HB' : Hid (Below w.heap.size w ((((w6.setCell ⟨Y, 0, none⟩ (.int .i64 5)).setCell ⟨Y, 1, none⟩ (.int .i64 0)).setCell ⟨Y, 2, none⟩ (.string ⟨#[]⟩)).setCell ⟨Y, 3, none⟩ (.slice (some ⟨BA, 0, none⟩) 2 2))) := Lib.hid (HB.out.trans (hkp.below HB.out.size (by intro q hq; simp at hq; subst hq; exact HYS.out)))
  have bx' := Lib.hid (bx.out.keep hkp (by simpa using hXY))
  have bY' := Lib.hid (box4_put bY.out (.int .i64 5) (.int .i64 0) (.string ⟨#[]⟩) (.slice (some ⟨BA, 0, none⟩) 2 2))
  have HX' := Lib.hid (ExprRep.mono unhide _ (ExprRep.below (hkp.hide) _ HX.out))
  have HY' := Lib.hid (ExprRep.mono unhide _ (ExprRep.below (hkp.hide) _ HY.out))
  have h4 := bx'.out
  unfold Box4 at h4
  refine hK.out _ _ ⟨h4.1, h4.2.1, h4.2.2.1, h4.2.2.2.1⟩ (fun hHeld' => ?_)
  clear hK K' hHeld hHeld' hkp h4 HB bx bY HX HY HRY HXY HYS
  (try go_frame)
  refine wpAnyH_done (by kernel_rfl) ?_ _
  generalize (((w6.setCell ⟨Y, 0, none⟩ (.int .i64 5)).setCell ⟨Y, 1, none⟩ (.int .i64 0)).setCell ⟨Y, 2, none⟩ (.string ⟨#[]⟩)).setCell ⟨Y, 3, none⟩ (.slice (some ⟨BA, 0, none⟩) 2 2) = w8 at HB' bx' bY' HX' HY' ⊢
  go_wp2_with fail
  have bX := bx'.out
  have bY2 := bY'.out
  unfold Box4 at bX bY2
  obtain ⟨x0, x1, x2, x3, _⟩ := bX
  obtain ⟨y0, y1, y2, y3, _⟩ := bY2
  have hMY : MExpr names3 6 (mulE x z) := .bin (by decide) (by decide) HMX.out HMZ.out
  have HSX := Lib.hid (HMX.out.shape names3_ok)
  have HSY := Lib.hid (hMY.shape names3_ok)
  have HNX : Hid (x.nodes ≤ 1000000) := Lib.hid (by have := HMX.out.nodes; omega)
  have HNY : Hid ((mulE x z).nodes ≤ 1000000) := Lib.hid (by have := hMY.nodes; omega)
  obtain ⟨hx, hhx⟩ : ∃ hx, hx = heightN x := ⟨_, rfl⟩
  obtain ⟨hy, hhy⟩ : ∃ hy, hy = heightN (mulE x z) := ⟨_, rfl⟩
  have hxy : hx ≤ hy := by rw [hhx, hhy]; exact height_two x z
  have hdl : decide (hx ≤ hy) = true := decide_eq_true hxy
  have HHX := Lib.hid hhx
  have HHY := Lib.hid hhy
  clear hMY hhx hhy HMX HMZ bx' bY' hxy
  refine wp_region_held_drew (S := fun w' => w'.cell? ⟨X, 0, none⟩ = some (.int .i64 x.op) ∧ w'.cell? ⟨X, 1, none⟩ = some (.int .i64 x.num) ∧ w'.cell? ⟨X, 2, none⟩ = some (.string x.name) ∧ w'.cell? ⟨X, 3, none⟩ = some (.slice xa x.args.length xc) ∧ w'.cell? ⟨Y, 0, none⟩ = some (.int .i64 5) ∧ w'.cell? ⟨Y, 1, none⟩ = some (.int .i64 0) ∧ w'.cell? ⟨Y, 2, none⟩ = some (.string ⟨#[]⟩) ∧ w'.cell? ⟨Y, 3, none⟩ = some (.slice (some ⟨BA, 0, none⟩) 2 2)) (by kernel_rfl) ⟨x0, x1, x2, x3, y0, y1, y2, y3⟩ (fun hHeld => ?_)
  clear x0 x1 x2 x3 y0 y1 y2 y3
  have hd : Below w8.heap.size w8 w8.drew := (Below.refl _ _).drew
  have HX := Lib.hid (ExprRep.below hd _ HX'.out)
  have HY := Lib.hid (ExprRep.below hd _ HY'.out)
  have HB := Lib.hid (Below.step HB'.out hd)
  clear HX' HY' HB' hd
  generalize w8.drew = w9 at hHeld HX HY HB ⊢
  refine held_take 0 (v := ?vv38) (by kernel_rfl) rfl (by rfl) (by kernel_rfl) (by kernel_rfl) (fun _ _ _ h => h) ?hyy38 (by assumption) ?rest38
  case hyy38 => (intro w hSw; (try dsimp only at hSw); go_simp; (try with_reducible rfl))
  (try go_frame)
  refine held_take 2 (v := ?vv39) (by kernel_rfl) rfl (by rfl) (by kernel_rfl) (by kernel_rfl) (fun _ _ _ h => h) ?hyy39 (by assumption) ?rest39
  case hyy39 => (intro w hSw; (try dsimp only at hSw); go_simp; (try with_reducible rfl))
  (try go_frame)
  refine held_one 1 (by kernel_rfl) rfl (by rfl) (fun K' hK => ?_)
  go_simp
  refine ((by rw [HHX.out]; exact heightE_any _ x (Nat.le_refl _) HNX.out HSX.out _ w9 HX.out (HES.out.below HB.out) : Calls Tryd.prog 21 _ w9 fun r w' => r = .returned (.int .i64 (hx : Nat)) ∧ Below w9.heap.size w9 w')).mono ?_
  rintro e w10 ⟨rfl, hbb⟩
  (try dsimp only)
  obtain ⟨s0, s1, s2, s3, s4, s5, s6, s7⟩ := hHeld
  refine hK.out _ _ ⟨cell_step s0 hbb, cell_step s1 hbb, cell_step s2 hbb, cell_step s3 hbb, cell_step s4 hbb, cell_step s5 hbb, cell_step s6 hbb, cell_step s7 hbb⟩ (fun hHeld' => ?_)
  clear hK K' s0 s1 s2 s3 s4 s5 s6 s7
  have hHeld := hHeld'
  clear hHeld'
  have HX' := Lib.hid (ExprRep.below hbb _ HX.out)
  have HY' := Lib.hid (ExprRep.below hbb _ HY.out)
  have HB' := Lib.hid (Below.step HB.out hbb)
  clear HX HY HB hbb
  have HX := HX'
  have HY := HY'
  have HB := HB'
  clear HX' HY' HB'
  (try go_frame)
  refine held_one 3 (by kernel_rfl) rfl (by rfl) (fun K' hK => ?_)
  go_simp
  refine ((by rw [HHX.out]; exact height_any _ x (Nat.le_refl _) HNX.out _ w10 HX.out : Calls Tryd.prog 22 _ w10 fun r w' => r = .returned (.int .i64 (hx : Nat)) ∧ Below w10.heap.size w10 w')).mono ?_
  rintro e w11 ⟨rfl, hbb⟩
  (try dsimp only)
  obtain ⟨s0, s1, s2, s3, s4, s5, s6, s7⟩ := hHeld
  refine hK.out _ _ ⟨cell_step s0 hbb, cell_step s1 hbb, cell_step s2 hbb, cell_step s3 hbb, cell_step s4 hbb, cell_step s5 hbb, cell_step s6 hbb, cell_step s7 hbb⟩ (fun hHeld' => ?_)
  clear hK K' s0 s1 s2 s3 s4 s5 s6 s7
  have hHeld := hHeld'
  clear hHeld'
  have HX' := Lib.hid (ExprRep.below hbb _ HX.out)
  have HY' := Lib.hid (ExprRep.below hbb _ HY.out)
  have HB' := Lib.hid (Below.step HB.out hbb)
  clear HX HY HB hbb
  have HX := HX'
  have HY := HY'
  have HB := HB'
  clear HX' HY' HB'
  (try go_frame)
  refine held_take 4 (v := ?vv40) (by kernel_rfl) rfl (by rfl) (by kernel_rfl) (by kernel_rfl) (fun _ _ _ h => h) ?hyy40 (by assumption) ?rest40
  case hyy40 => (intro w hSw; (try dsimp only at hSw); go_simp; (try with_reducible rfl))
  (try go_frame)
  refine held_take 5 (v := ?vv41) (by kernel_rfl) rfl (by rfl) (by kernel_rfl) (by kernel_rfl) (fun _ _ _ h => h) ?hyy41 (by assumption) ?rest41
  case hyy41 => (intro w hSw; (try dsimp only at hSw); go_simp; (try with_reducible rfl))
  (try go_frame)
  refine held_take 6 (v := ?vv42) (by kernel_rfl) rfl (by rfl) (by kernel_rfl) (by kernel_rfl) (fun _ _ _ h => h) ?hyy42 (by assumption) ?rest42
  case hyy42 => (intro w hSw; (try dsimp only at hSw); go_simp; (try with_reducible rfl))
  (try go_frame)
  refine held_take 8 (v := ?vv43) (by kernel_rfl) rfl (by rfl) (by kernel_rfl) (by kernel_rfl) (fun _ _ _ h => h) ?hyy43 (by assumption) ?rest43
  case hyy43 => (intro w hSw; (try dsimp only at hSw); go_simp; (try with_reducible rfl))
  (try go_frame)
  refine held_one 7 (by kernel_rfl) rfl (by rfl) (fun K' hK => ?_)
  go_simp
  refine ((by rw [HHY.out]; exact heightE_any _ (mulE x z) (Nat.le_refl _) HNY.out HSY.out _ w11 HY.out (HES.out.below HB.out) : Calls Tryd.prog 21 _ w11 fun r w' => r = .returned (.int .i64 (hy : Nat)) ∧ Below w11.heap.size w11 w')).mono ?_
  rintro e w12 ⟨rfl, hbb⟩
  (try dsimp only)
  obtain ⟨s0, s1, s2, s3, s4, s5, s6, s7⟩ := hHeld
  refine hK.out _ _ ⟨cell_step s0 hbb, cell_step s1 hbb, cell_step s2 hbb, cell_step s3 hbb, cell_step s4 hbb, cell_step s5 hbb, cell_step s6 hbb, cell_step s7 hbb⟩ (fun hHeld' => ?_)
  clear hK K' s0 s1 s2 s3 s4 s5 s6 s7
  have hHeld := hHeld'
  clear hHeld'
  have HX' := Lib.hid (ExprRep.below hbb _ HX.out)
  have HY' := Lib.hid (ExprRep.below hbb _ HY.out)
  have HB' := Lib.hid (Below.step HB.out hbb)
  clear HX HY HB hbb
  have HX := HX'
  have HY := HY'
  have HB := HB'
  clear HX' HY' HB'
  (try go_frame)
  refine held_one 9 (by kernel_rfl) rfl (by rfl) (fun K' hK => ?_)
  go_simp
  refine ((by rw [HHY.out]; exact height_any _ (mulE x z) (Nat.le_refl _) HNY.out _ w12 HY.out : Calls Tryd.prog 22 _ w12 fun r w' => r = .returned (.int .i64 (hy : Nat)) ∧ Below w12.heap.size w12 w')).mono ?_
  rintro e w13 ⟨rfl, hbb⟩
  (try dsimp only)
  obtain ⟨s0, s1, s2, s3, s4, s5, s6, s7⟩ := hHeld
  refine hK.out _ _ ⟨cell_step s0 hbb, cell_step s1 hbb, cell_step s2 hbb, cell_step s3 hbb, cell_step s4 hbb, cell_step s5 hbb, cell_step s6 hbb, cell_step s7 hbb⟩ (fun hHeld' => ?_)
  clear hK K' s0 s1 s2 s3 s4 s5 s6 s7
  have hHeld := hHeld'
  clear hHeld'
  have HX' := Lib.hid (ExprRep.below hbb _ HX.out)
  have HY' := Lib.hid (ExprRep.below hbb _ HY.out)
  have HB' := Lib.hid (Below.step HB.out hbb)
  clear HX HY HB hbb
  have HX := HX'
  have HY := HY'
  have HB := HB'
  clear HX' HY' HB'
  (try go_frame)
  refine held_take 10 (v := ?vv44) (by kernel_rfl) rfl (by rfl) (by kernel_rfl) (by kernel_rfl) (fun _ _ _ h => h) ?hyy44 (by assumption) ?rest44
  case hyy44 => (intro w hSw; (try dsimp only at hSw); go_simp; (try with_reducible rfl))
  (try go_frame)
  refine held_take 11 (v := ?vv45) (by kernel_rfl) rfl (by rfl) (by kernel_rfl) (by kernel_rfl) (fun _ _ _ h => h) ?hyy45 (by assumption) ?rest45
  case hyy45 => (intro w hSw; (try dsimp only at hSw); go_simp; (try with_reducible rfl))
  (try go_frame)
  refine held_take 12 (v := ?vv46) (by kernel_rfl) rfl (by rfl) (by kernel_rfl) (by kernel_rfl) (fun _ _ _ h => h) ?hyy46 (by assumption) ?rest46
  case hyy46 => (intro w hSw; (try dsimp only at hSw); go_simp; (try with_reducible rfl))
  (try go_frame)
  refine held_take 13 (v := ?vv47) (by kernel_rfl) rfl (by rfl) (by kernel_rfl) (by kernel_rfl) (fun _ _ _ h => h) ?hyy47 (by assumption) ?rest47
  case hyy47 => (intro w hSw; (try dsimp only at hSw); go_simp; (try with_reducible rfl))
  (try go_frame)
  refine held_take 15 (v := ?vv48) (by kernel_rfl) rfl (by rfl) (by kernel_rfl) (by kernel_rfl) (fun _ _ _ h => h) ?hyy48 (by assumption) ?rest48
  case hyy48 => (intro w hSw; (try dsimp only at hSw); go_simp; (try with_reducible rfl))
  (try go_frame)
  refine held_one 14 (by kernel_rfl) rfl (by rfl) (fun K' hK => ?_)
  go_simp
  refine ((by rw [HHY.out]; exact heightE_any _ (mulE x z) (Nat.le_refl _) HNY.out HSY.out _ w13 HY.out (HES.out.below HB.out) : Calls Tryd.prog 21 _ w13 fun r w' => r = .returned (.int .i64 (hy : Nat)) ∧ Below w13.heap.size w13 w')).mono ?_
  rintro e w14 ⟨rfl, hbb⟩
  (try dsimp only)
  obtain ⟨s0, s1, s2, s3, s4, s5, s6, s7⟩ := hHeld
  refine hK.out _ _ ⟨cell_step s0 hbb, cell_step s1 hbb, cell_step s2 hbb, cell_step s3 hbb, cell_step s4 hbb, cell_step s5 hbb, cell_step s6 hbb, cell_step s7 hbb⟩ (fun hHeld' => ?_)
  clear hK K' s0 s1 s2 s3 s4 s5 s6 s7
  have hHeld := hHeld'
  clear hHeld'
  have HX' := Lib.hid (ExprRep.below hbb _ HX.out)
  have HY' := Lib.hid (ExprRep.below hbb _ HY.out)
  have HB' := Lib.hid (Below.step HB.out hbb)
  clear HX HY HB hbb
  have HX := HX'
  have HY := HY'
  have HB := HB'
  clear HX' HY' HB'
  (try go_frame)
  refine held_one 16 (by kernel_rfl) rfl (by rfl) (fun K' hK => ?_)
  go_simp
  refine ((by rw [HHX.out]; exact heightE_any _ x (Nat.le_refl _) HNX.out HSX.out _ w14 HX.out (HES.out.below HB.out) : Calls Tryd.prog 21 _ w14 fun r w' => r = .returned (.int .i64 (hx : Nat)) ∧ Below w14.heap.size w14 w')).mono ?_
  rintro e w15 ⟨rfl, hbb⟩
  (try dsimp only)
  obtain ⟨s0, s1, s2, s3, s4, s5, s6, s7⟩ := hHeld
  refine hK.out _ _ ⟨cell_step s0 hbb, cell_step s1 hbb, cell_step s2 hbb, cell_step s3 hbb, cell_step s4 hbb, cell_step s5 hbb, cell_step s6 hbb, cell_step s7 hbb⟩ (fun hHeld' => ?_)
  clear hK K' s0 s1 s2 s3 s4 s5 s6 s7
  have hHeld := hHeld'
  clear hHeld'
  have HX' := Lib.hid (ExprRep.below hbb _ HX.out)
  have HY' := Lib.hid (ExprRep.below hbb _ HY.out)
  have HB' := Lib.hid (Below.step HB.out hbb)
  clear HX HY HB hbb
  have HX := HX'
  have HY := HY'
  have HB := HB'
  clear HX' HY' HB'
  (try go_frame)
  refine held_take 17 (v := ?vv49) (by kernel_rfl) rfl (by rfl) (by kernel_rfl) (by kernel_rfl) (fun _ _ _ h => h) ?hyy49 (by assumption) ?rest49
  case hyy49 => (intro w hSw; (try dsimp only at hSw); go_simp; (try with_reducible rfl))
  (try go_frame)
  refine held_take 18 (v := ?vv50) (by kernel_rfl) rfl (by rfl) (by kernel_rfl) (by kernel_rfl) (fun _ _ _ h => h) ?hyy50 (by assumption) ?rest50
  case hyy50 => (intro w hSw; (try dsimp only at hSw); go_simp; (try with_reducible rfl))
  (try go_frame)
  refine held_take 19 (v := ?vv51) (by kernel_rfl) rfl (by rfl) (by kernel_rfl) (by kernel_rfl) (fun _ _ _ h => h) ?hyy51 (by assumption) ?rest51
  case hyy51 => (intro w hSw; (try dsimp only at hSw); go_simp; (try with_reducible rfl))
  (try go_frame)
  refine held_one 20 (by kernel_rfl) rfl (by rfl) (fun K' hK => ?_)
  go_simp
  refine (awakeE w15 (HE.out.below HB.out HE.out.size) (HES.out.below HB.out)).mono ?_
  rintro e wz ⟨rfl, hbb⟩
  (try dsimp only)
  obtain ⟨s0, s1, s2, s3, s4, s5, s6, s7⟩ := hHeld
  refine hK.out _ _ ⟨cell_step s0 hbb, cell_step s1 hbb, cell_step s2 hbb, cell_step s3 hbb, cell_step s4 hbb, cell_step s5 hbb, cell_step s6 hbb, cell_step s7 hbb⟩ (fun hHeld' => ?_)
  clear hK K' s0 s1 s2 s3 s4 s5 s6 s7
  have hHeld := hHeld'
  clear hHeld'
  have HBZ := Lib.hid (Below.step HB.out hbb)
  clear hbb
  (try go_frame)
  refine held_take 21 (v := ?vv52) (by kernel_rfl) rfl (by rfl) (by kernel_rfl) (by kernel_rfl) (fun _ _ _ h => h) ?hyy52 (by assumption) ?rest52
  case hyy52 => (intro w hSw; (try dsimp only at hSw); go_simp; (try with_reducible rfl))
  (try go_frame)
  refine held_take 22 (v := ?vv53) (by kernel_rfl) rfl (by rfl) (by kernel_rfl) (by kernel_rfl) (fun _ _ _ h => h) ?hyy53 (by assumption) ?rest53
  case hyy53 => (intro w hSw; (try dsimp only at hSw); go_simp; (try with_reducible rfl))
  (try go_frame)
  refine wpAnyH_done (by kernel_rfl) ?_ _
  go_wp2_with fail
  go_ret
  exact ⟨rfl, HBZ.out⟩
set_option maxRecDepth 100000 in
theorem exprHeight_contract (H : Type) (enc : TypeId × Value → H) (W : World) (base : Nat) (args : Array Value) (ds gs : List (DataW H)) (before : List MemPlace)
  (hval : ∀ (j : Nat) t v, Tryd.f7.params[j]? = some t → args[j]? = some v → Value.okWide Tryd.prog W .any base t v)
  (hW : DataW.Whole enc Tryd.prog Tryd.f7.params.toList Rows.exprHeightSpec.vars false W args.toList ds gs before) (he : Env W ∧ EnvS W) :
  Calls Tryd.prog 7 args W fun e W' => ∃ v, e = .returned v ∧ Rows.exprHeightSpec.post enc Tryd.prog Tryd.f7 false true false false W args v W' := by
 have hW' := hW
 obtain ⟨p, q, hA0, hV, rfl, hfz, hnd⟩ := hW
 have hA : DataW.TrodAll enc Tryd.prog W 0 (fun _ => true) true Tryd.f7.params.toList args.toList ds p := hA0
 rw [Tryd.params7] at hA hval
 obtain ⟨v0, vs0, d0, ds0, p0, q0, hargs, rfl, rfl, h0, r0⟩ := trodAll_cons hA
 obtain ⟨v1, vs1, d1, ds1, p1, q1, rfl, rfl, rfl, h1, r1⟩ := trodAll_cons r0
 obtain ⟨rfl, rfl, rfl⟩ := trodAll_nil r1
 obtain rfl : args = #[v0, v1] := by cases args; simp_all
 have walk : Calls Tryd.prog 7 #[v0, v1] W fun e w' => e = .returned (.bool true) ∧ Below W.heap.size W w' := by
  obtain ⟨l0, a0, cap0, rfl, hc0, hcm0, hr0⟩ := open_intsR (hval 0 22 v0 rfl rfl) h0
  obtain ⟨l1, a1, cap1, rfl, hc1, hcm1, hr1⟩ := open_intsR (hval 1 22 v1 rfl rfl) h1
  exact exprHeight_walk l0 l1 a0 a1 cap0 cap1 W he.1 he.2 hr0 hr1 (by unfold maxLen at hcm0; omega) (by unfold maxLen at hcm1; omega)
 refine walk.mono fun e W' ⟨he, hb⟩ => ?_
 subst he
 exact law_post hW' rfl rfl (by rw [Tryd.params7]; intro t ht; simp at ht; subst ht; exact ⟨by kernel_rfl, of_decide_eq_true (by kernel_rfl)⟩) rfl hb
theorem exprHeight_reads (os : Os) {H : Type} (enc : TypeId × Value → H) : ∃ places, DataW.whole enc Tryd.prog ((World.doorLaid Tryd.prog 60 os).forCall (fun _ _ => 0) ⟨#[], #[.slice none 0 0, .slice none 0 0], []⟩).memory Tryd.f7.params.toList Rows.exprHeightSpec.vars false (#[.slice none 0 0, .slice none 0 0] : Array Value).toList 8 = some ([.nil, .nil], [], places) :=
 ⟨[], by kernel_rfl⟩
set_option maxRecDepth 100000 in
theorem exprHeight_lifted (os : Os) (started : os.Started) (H : Type) (enc : TypeId × Value → H) (F : Stop.Interp) :
  ReturnsInHanded {} Tryd.checked os 7 .any ((OpenSpec.ofChange Rows.exprHeightSpec).preRow enc Tryd.prog Tryd.f7 Rows.exprHeightRow.domain false Rows.exprHeightRow.laid) (((OpenSpec.ofChange Rows.exprHeightSpec).at F).post enc Tryd.prog Tryd.f7 false true false false) := by
 obtain ⟨places, hx⟩ := exprHeight_reads os enc
 refine returnsInHanded_of_row (C := Tryd.checked) (s := OpenSpec.ofChange Rows.exprHeightSpec) own started (by kernel_rfl) Tryd.func7
  (witness_row_at (enc := enc) (C := Tryd.checked) false (World.doorLaid Tryd.prog 60 os) #[.slice none 0 0, .slice none 0 0] rfl (by kernel_rfl) (by kernel_rfl) (by kernel_rfl)
   (OpenSpec.preRow_of_cond 8 hx (by kernel_rfl) (fun k hk => by cases hk) (by kernel_rfl) (laid_met5 os _))) ?_
 intro W base args ds gs before hval hW _ _ _ hL hSh _
 exact exprHeight_contract H enc W base args ds gs before hval hW (env_of5 hL hSh)
theorem exprHeight_said : Rows.ExprHeightSaid :=
 OpenClaim.holds_of_cond 7 Tryd.f7 rfl rfl rfl rfl rfl rfl rfl ⟨rfl, rfl, rfl, rfl, rfl⟩ rfl rfl rfl rfl rfl (by kernel_rfl) Tryd.func7 (by kernel_rfl)
  (of_decide_eq_true (by kernel_rfl)) (by unfold Func.isWrapper; first | (rw [if_pos (by decide +kernel)]; kernel_rfl) | (rw [if_neg (by decide +kernel)]; exact ⟨rfl, rfl⟩))
  (fun os started H enc _ F => by rw [OpenClaim.pre_eq_preRow]; exact exprHeight_lifted os started H enc F)
theorem exprHeight_plain (f : FuncId) (fn : Func) (hf : Tryd.pinned.checked.prog.funcNamed "lockorder/lockorderlaw02.ExprHeight" = some f) (hfn : Tryd.pinned.checked.prog.funcs[f]? = some fn) :
  false = Tryd.pinned.checked.prog.looks [] ∧ ∀ (j : Nat) t, fn.params[j]? = some t → Tryd.pinned.checked.prog.wantsStandIn t = false := by
 obtain rfl : f = 7 := Option.some.inj ((show Tryd.prog.funcNamed "lockorder/lockorderlaw02.ExprHeight" = some 7 by kernel_rfl).symm.trans hf) |>.symm
 obtain rfl : fn = Tryd.f7 := (Option.some.inj (Tryd.func7.symm.trans hfn)).symm
 refine ⟨by kernel_rfl, fun j t ht => ?_⟩
 rw [Tryd.params7] at ht
 have hm : t ∈ [22, 22] := by simpa using Array.mem_of_getElem? ht
 have hall : ([22, 22].all fun u => !Tryd.prog.wantsStandIn u) = true := by kernel_rfl
 exact (show Tryd.prog.wantsStandIn t = false by simpa using List.all_eq_true.1 hall t hm)
theorem exprHeight_card : Rows.ExprHeightCardSaid :=
 Claim7.holds_tied_plain_at .later [] _ _ _ _ exprHeight_said (fun _ h => by cases h) (by kernel_rfl) (fun _ h => by cases h) exprHeight_row_tie rfl ⟨rfl, rfl⟩ (by kernel_rfl) rfl exprHeight_plain (by kernel_rfl)
#print axioms exprHeight_card
end Go.Proofs.YtiimofjemiffgaaDoor
