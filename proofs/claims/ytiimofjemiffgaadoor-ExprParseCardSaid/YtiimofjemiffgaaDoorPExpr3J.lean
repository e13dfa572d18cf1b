import Derived.Test.YtiimofjemiffgaaDoorPExpr2J
set_option linter.unusedVariables false
set_option linter.unusedSimpArgs false
namespace Go.Proofs.YtiimofjemiffgaaDoor
open Go.RowKit
def Box4 (w : World) (B : Nat) (u0 u1 u2 u3 : Value) : Prop := w.cell? ⟨B, 0, none⟩ = some u0 ∧ w.cell? ⟨B, 1, none⟩ = some u1 ∧ w.cell? ⟨B, 2, none⟩ = some u2 ∧ w.cell? ⟨B, 3, none⟩ = some u3 ∧ w.frozen? ⟨B, 0, none⟩ = false ∧ w.frozen? ⟨B, 1, none⟩ = false ∧ w.frozen? ⟨B, 2, none⟩ = false ∧ w.frozen? ⟨B, 3, none⟩ = false
theorem Box4.keep {L : List Nat} {B : Nat} {a b : World} {u0 u1 u2 u3 : Value} (h : Box4 a B u0 u1 u2 u3) (hk : Keep L a b) (hn : B ∉ L) : Box4 b B u0 u1 u2 u3 := by
 unfold Box4 at h ⊢
 have hB := cell_lt h.1
 have c := fun o => hk.cell (p := ⟨B, o, none⟩) hB hn
 have f := fun o => hk.frozen (p := ⟨B, o, none⟩) hB hn
 rw [c, c, c, c, f, f, f, f]; exact h
theorem box4_new (w : World) (u0 u1 u2 u3 : Value) (T : TypeId) : Box4 (w.alloc (.cells #[u0, u1, u2, u3] T)) w.heap.size u0 u1 u2 u3 := by
 unfold Box4
 exact ⟨by go_simp, by go_simp, by go_simp, by go_simp, by go_simp, by go_simp, by go_simp, by go_simp⟩
theorem box4_put {B : Nat} {a : World} {v0 v1 v2 v3 : Value} (h : Box4 a B v0 v1 v2 v3) (u0 u1 u2 u3 : Value) : Box4 ((((a.setCell ⟨B, 0, none⟩ u0).setCell ⟨B, 1, none⟩ u1).setCell ⟨B, 2, none⟩ u2).setCell ⟨B, 3, none⟩ u3) B u0 u1 u2 u3 := by
 unfold Box4 at h ⊢
 exact ⟨by go_simp, by go_simp, by go_simp, by go_simp, by go_simp, by go_simp, by go_simp, by go_simp⟩
def BinRel (l : List Tok) (b off tc P dep : Nat) (H : List Nat) (lev : Nat) (R : Nat → PRes AExpr) (r : PRes AExpr) (B : Nat) (w wr : World) : Prop :=
 Keep [P] w wr ∧ B < wr.heap.size ∧ Box4 wr w.heap.size (.int .i64 0) (.int .i64 0) (.string ⟨#[]⟩) (.slice none 0 0) ∧
 ((∃ (x : AExpr) (xa : Option Addr) (xc k m : Nat), k < l.length ∧ l.length - k < m ∧ loopP l R lev m x k = r ∧ PS l b off tc P (B :: w.heap.size :: H) k dep 0 wr ∧ ExprRep (hideL (B :: w.heap.size :: H) wr) x [.int .i64 x.op, .int .i64 x.num, .string x.name, .slice xa x.args.length xc] ∧ Box4 wr B (.int .i64 x.op) (.int .i64 x.num) (.string x.name) (.slice xa x.args.length xc)) ∨
  (∃ (a er d' : Nat) (y0 y1 : Int) (y2 : ByteArray) (y3 : Option Addr) (yn yc : Nat), r = .err a er ∧ 0 < er ∧ a < l.length ∧ dep ≤ d' ∧ d' ≤ 24 ∧ PS l b off tc P (B :: w.heap.size :: H) a d' er wr ∧ Box4 wr B (.int .i64 y0) (.int .i64 y1) (.string y2) (.slice y3 yn yc)))
def atOf (P : Nat) (w : World) : Nat := match w.cell? ⟨P, 1, none⟩ with | some v => (intOf v).toNat | none => 0
def mOf (n P : Nat) (w : World) : Nat := match w.cell? ⟨P, 3, none⟩ with | some (.int _ e) => (if e = 0 then n + 1 - atOf P w else 0) | _ => 0
theorem mOf_ok {l : List Tok} {b off tc P k d : Nat} {H : List Nat} {w : World} (h : PS l b off tc P H k d 0 w) : mOf l.length P w = l.length + 1 - k := by
 unfold mOf atOf; rw [h.c3, h.c1]; simp [intOf]
theorem mOf_err {l : List Tok} {b off tc P k d e : Nat} {H : List Nat} {w : World} (h : PS l b off tc P H k d e w) (he : 0 < e) : mOf l.length P w = 0 := by
 unfold mOf; rw [h.c3]; simp; omega
theorem loop_ok {l : List Tok} {R : Nat → PRes AExpr} {lev m k k' : Nat} {x y : AExpr} (h4 : (tokAt l k).kind = 4) (hb : (binOp (tokAt l k).text).2 = lev) (hr : R (k + 1) = .ok y k') (hm : 0 < m) : loopP l R lev m x k = loopP l R lev (m - 1) (.mk ((binOp (tokAt l k).text).1 : Int) 0 emptyB [x, y]) k' := by
 obtain ⟨n, rfl⟩ : ∃ n, m = n + 1 := ⟨m - 1, by omega⟩
 rw [loopP, if_pos ⟨h4, hb⟩, hr]; rfl
theorem loop_err {l : List Tok} {R : Nat → PRes AExpr} {lev m k a e : Nat} {x : AExpr} (h4 : (tokAt l k).kind = 4) (hb : (binOp (tokAt l k).text).2 = lev) (hr : R (k + 1) = .err a e) (hm : 0 < m) : loopP l R lev m x k = .err a e := by
 obtain ⟨n, rfl⟩ : ∃ n, m = n + 1 := ⟨m - 1, by omega⟩
 rw [loopP, if_pos ⟨h4, hb⟩, hr]
theorem loop_done {l : List Tok} {R : Nat → PRes AExpr} {lev m k : Nat} {x : AExpr} (h : ¬ ((tokAt l k).kind = 4 ∧ (binOp (tokAt l k).text).2 = lev)) : loopP l R lev m x k = .ok x k := by
 cases m with
 | zero => rfl
 | succ n => rw [loopP, if_neg h]
def binR (l : List Tok) (R : Nat → PRes AExpr) (lev k : Nat) : PRes AExpr :=
 match R k with
 | .ok x k' => loopP l R lev (l.length + 1) x k'
 | .err a e => .err a e
set_option maxRecDepth 100000 in
set_option maxHeartbeats 3200000 in
theorem binary_zero (l : List Tok) (b off tc P dep : Nat) (R : Nat → PRes AExpr) (ih : SingleC l b off tc P dep R) : BinC l b off tc P dep 6 R := by
 intro H k w h hk hH
 have hl := h.lt
 have HN := Lib.hid (show w.heap.size ≠ P by omega)
 have HS := Lib.hid h
 have HH := Lib.hid hH
 have IH := Lib.hid ih
 have HS1 := Lib.hid (h.new (.cells #[.int .i64 0, .int .i64 0, .string ⟨#[]⟩, .slice none 0 0] 34))
 have HK1 := Lib.hid ((Keep.refl [P] w).alloc (.cells #[.int .i64 0, .int .i64 0, .string ⟨#[]⟩, .slice none 0 0] 34))
 have bx1 := box4_new w (.int .i64 0) (.int .i64 0) (.string ⟨#[]⟩) (.slice none 0 0) 34
 have hz1 : w.heap.size + 1 ≤ (w.alloc (.cells #[.int .i64 0, .int .i64 0, .string ⟨#[]⟩, .slice none 0 0] 34)).heap.size := by simp
 clear h hH ih
 go_enter Tryd.func29, Tryd.ntmps29
 go_wp2_with fail
 generalize w.alloc (.cells #[.int .i64 0, .int .i64 0, .string ⟨#[]⟩, .slice none 0 0] 34) = w1 at HS1 HK1 bx1 hz1 ⊢
 refine (IH.out (w.heap.size :: H) k _ HS1.out hk (hsub HH.out (by omega))).mono ?_
 intro e w2 hq
 cases hr : R k with
 | ok x k' =>
  rw [hr] at hq
  obtain ⟨⟨xa, xc, rfl, xr⟩, hs2, hk2⟩ := hq
  have bx2 := bx1.keep hk2 (by simpa using HN.out)
  unfold Box4 at bx2
  have HS2 := Lib.hid hs2
  have HK2 := Lib.hid (HK1.out.trans hk2)
  have HR := Lib.hid hr
  have HX := Lib.hid xr
  clear bx1 hs2 hk2 xr hr
  go_wp2_with fail
  refine bodyPost_ret (v := .agg #[.int .i64 x.op, .int .i64 x.num, .string x.name, .slice xa x.args.length xc]) (by simp [results, Tryd.results29, go_sem, bx2]) rfl ?_
  rw [HR.out]
  exact eok_ok HS2.out HS.out.mem hl HK2.out HX.out rfl (by exact keep4 _ _ _ _ _ _)
 | err a er =>
  rw [hr] at hq
  obtain ⟨⟨y0, y1, y2, y3, yn, yc, rfl⟩, ⟨d', hd1, hd2, hs2⟩, hk2⟩ := hq
  have bx2 := bx1.keep hk2 (by simpa using HN.out)
  unfold Box4 at bx2
  have HS2 := Lib.hid hs2
  have HK2 := Lib.hid (HK1.out.trans hk2)
  have HR := Lib.hid hr
  clear bx1 hs2 hk2 hr
  go_wp2_with fail
  refine bodyPost_ret (v := .agg #[.int .i64 y0, .int .i64 y1, .string y2, .slice y3 yn yc]) (by simp [results, Tryd.results29, go_sem, bx2]) rfl ?_
  rw [HR.out]
  exact eok_err HS2.out HS.out.mem hl HK2.out hd1 hd2 rfl (by exact keep4 _ _ _ _ _ _)
set_option maxRecDepth 100000 in
set_option maxHeartbeats 3200000 in
theorem binary_succ (l : List Tok) (b off tc P dep lev : Nat) (R : Nat → PRes AExpr) (hel : EndAt l) (hdep : dep ≤ 24) (h1 : 1 ≤ lev) (h5 : lev ≤ 5) (ih : BinC l b off tc P dep ((lev + 1 : Nat) : Int) R) (hin : ∀ k, k < l.length → (R k).In l k) : BinC l b off tc P dep lev (binR l R lev) := by
 intro H k w h hk hH
 have hl := h.lt
 have HN := Lib.hid (show w.heap.size ≠ P by omega)
 have HS := Lib.hid h
 have HH := Lib.hid hH
 have IH := Lib.hid ih
 have HIN := Lib.hid hin
 have HS1 := Lib.hid (h.new (.cells #[.int .i64 0, .int .i64 0, .string ⟨#[]⟩, .slice none 0 0] 34))
 have HK1 := Lib.hid ((Keep.refl [P] w).alloc (.cells #[.int .i64 0, .int .i64 0, .string ⟨#[]⟩, .slice none 0 0] 34))
 have bx1 := Lib.hid (box4_new w (.int .i64 0) (.int .i64 0) (.string ⟨#[]⟩) (.slice none 0 0) 34)
 have hz1 : w.heap.size + 1 ≤ (w.alloc (.cells #[.int .i64 0, .int .i64 0, .string ⟨#[]⟩, .slice none 0 0] 34)).heap.size := by simp
 have hwl : IntKind.i64.wrap ((lev : Int) + 1) = ((lev + 1 : Nat) : Int) := by rw [show (lev : Int) + 1 = ((lev + 1 : Nat) : Int) by omega]; exact IntWalk.i64_in _ (by omega)
 clear h hH ih hin
 go_enter Tryd.func29, Tryd.ntmps29
 go_wp2_with fail
 generalize w.alloc (.cells #[.int .i64 0, .int .i64 0, .string ⟨#[]⟩, .slice none 0 0] 34) = w1 at HS1 HK1 bx1 hz1 ⊢
 refine (IH.out (w.heap.size :: H) k _ HS1.out hk (hsub HH.out (by omega))).mono ?_
 intro e w2 hq
 obtain ⟨RR, hRR⟩ : ∃ RR, RR = binR l R lev k := ⟨_, rfl⟩
 have HRR := Lib.hid hRR
 obtain ⟨z0, z1, z2, z3, zn, zc, rfl, hsz, hrel⟩ : ∃ (z0 z1 : Int) (z2 : ByteArray) (z3 : Option Addr) (zn zc : Nat), e = .returned (.agg #[.int .i64 z0, .int .i64 z1, .string z2, .slice z3 zn zc]) ∧ w1.heap.size ≤ w2.heap.size ∧ BinRel l b off tc P dep H lev R RR w2.heap.size w (w2.alloc (.cells #[.int .i64 z0, .int .i64 z1, .string z2, .slice z3 zn zc] 34)) := by
  have hinn := HIN.out k hk
  rw [hRR]
  unfold binR
  cases hr : R k with
  | ok x k' =>
   rw [hr] at hq hinn
   obtain ⟨⟨xa, xc, he, xr⟩, hs2, hk2⟩ := hq
   refine ⟨_, _, _, _, _, _, he, hk2.size, (HK1.out.trans hk2).alloc _, by simp, (bx1.out.keep hk2 (by simpa using HN.out)).keep ((Keep.refl [] _).alloc _) (by simp), .inl ⟨x, xa, xc, k', l.length + 1, hinn.2, by omega, rfl, hs2.new _, ?_, box4_new _ _ _ _ _ _⟩⟩
   refine ExprRep.mono ?_ _ xr
   intro p u hp
   obtain ⟨q1, q2⟩ := hideL_cell hp
   have hpl := cell_lt q1
   rw [hideL_cell_ne _ _ _ (by simp only [List.mem_cons, not_or] at q2 ⊢; exact ⟨by omega, q2⟩), ((Below.refl w2.heap.size w2).alloc (Nat.le_refl _) _).cell hpl]; exact q1
  | err a er =>
   rw [hr] at hq hinn
   obtain ⟨⟨y0, y1, y2, y3, yn, yc, he⟩, ⟨d', hd1, hd2, hs2⟩, hk2⟩ := hq
   exact ⟨_, _, _, _, _, _, he, hk2.size, (HK1.out.trans hk2).alloc _, by simp, (bx1.out.keep hk2 (by simpa using HN.out)).keep ((Keep.refl [] _).alloc _) (by simp), .inr ⟨a, er, d', y0, y1, y2, y3, yn, yc, rfl, hinn.2.2.1, hinn.2.1, hd1, hd2, hs2.new _, box4_new _ _ _ _ _ _⟩⟩
 have hB0 : w.heap.size < w2.heap.size := by omega
 have hrel' := Lib.hid hrel
 clear hq hrel bx1 HS1 HK1
 go_wp2_with fail
 generalize w2.alloc (.cells #[.int .i64 z0, .int .i64 z1, .string z2, .slice z3 zn zc] 34) = w3 at hrel' ⊢
 obtain ⟨B, hB⟩ : ∃ B, B = w2.heap.size := ⟨_, rfl⟩
 rw [← hB] at hrel' hB0 ⊢
 clear hB hsz hRR
 have HBP := Lib.hid (show B ≠ P by omega)
 go_loopw [] (fun wr => BinRel l b off tc P dep H lev R RR B w wr) (fun wr => mOf l.length P wr)
 case atStart => exact hrel'.out
 case round =>
  obtain ⟨hK, hBl, hb0, hor⟩ := hrel
  rcases hor with ⟨x, xa, xc, k1, m, hk1, hm, hlp, hps, hxr, hbx⟩ | ⟨a, er, d', y0, y1, y2, y3, yn, yc, hr, he0, hal, hd1, hd2, hps, hbx⟩
  ·obtain ⟨q1, q2, q3, q4, hbH, hbl⟩ := hps.tok hk1
   have c0 := hps.c0
   have c1 := hps.c1
   have c3 := hps.c3
   have hbig := hps.big
   have hlen : (k1 : Int) < l.length := by omega
   obtain ⟨n, hn⟩ : ∃ n, n = l.length := ⟨_, rfl⟩
   have HNL := Lib.hid hn
   rw [← hn] at c0 hlen hbig
   obtain ⟨t, ht⟩ : ∃ t, t = tokAt l k1 := ⟨_, rfl⟩
   have HT := Lib.hid ht
   rw [← ht] at q1 q2 q3 q4
   clear ht hn hbH
   have HPS := Lib.hid hps
   have HXR := Lib.hid hxr
   have HBX := Lib.hid hbx
   have HB4 := Lib.hid hb0
   have HLP := Lib.hid hlp
   have HM := Lib.hid hm
   have HK := Lib.hid hK
   clear hps hxr hlp hm hK
   by_cases hkd : t.kind = 4
   ·have hkb : ((t.kind : Int) == 4) = true := by simp; omega
    by_cases hbo : (binOp t.text).2 = lev
    ·have hnb : (((binOp t.text).2 : Int) != (lev : Int)) = false := by simp; omega
     have HBO := Lib.hid hbo
     clear hbo
     have f1 := HPS.out.free 1
     have hlt := HPS.out.lt
     have hw1 : IntKind.i64.wrap ((k1 : Int) + 1) = ((k1 + 1 : Nat) : Int) := by rw [show (k1 : Int) + 1 = ((k1 + 1 : Nat) : Int) by omega]; exact IntWalk.i64_in _ (by omega)
     have hk2 : k1 + 1 < l.length := hel.more hk1 (by rw [← HT.out]; omega)
     go_wp2_with fail
     go_quiet (fail)
     revert nq
     intro na
     go_wp2_with fail
     go_quiet ((go_at_call 51; first | exact quiet_left (binaryOp_any _ _) | exact quiet_add_left (binaryOp_any _ _)))
     go_wp2_with fail
     have kd : Keep [P] wr ((wr.drewN (na + nq)).setCell ⟨P, 1, none⟩ (.int .i64 ((k1 : Int) + 1))) := keepP ((Keep.refl _ _).drewN _) _ _
     have hb4 := Lib.hid (HB4.out.keep kd (by simpa using HN.out))
     have hbx4 := Lib.hid (HBX.out.keep kd (by simpa using HBP.out))
     have HK4 := Lib.hid (HK.out.trans kd)
     have HS4 := Lib.hid ((HPS.out.drewN (na + nq)).at (k1 + 1))
     have HX4 := Lib.hid (ExprRep.below (kd.mono (H' := B :: w.heap.size :: H) (by intro y hy; simp at hy; subst hy; exact List.mem_cons_of_mem _ (List.mem_cons_of_mem _ HS.out.mem))).hide _ HXR.out)
     have hz4 : B < ((wr.drewN (na + nq)).setCell ⟨P, 1, none⟩ (.int .i64 ((k1 : Int) + 1))).heap.size := Nat.lt_of_lt_of_le hBl kd.size
     clear kd hb0 hbx q1 q2 q3 q4 c0 c1 c3 f1 hlt hbl
     have HS4' : Hid (PS l b off tc P (B :: w.heap.size :: H) (k1 + 1) dep 0 ((wr.drewN (na + nq)).setCell ⟨P, 1, none⟩ (.int .i64 ((k1 : Int) + 1)))) := HS4
     clear HS4
     have HS4 := HS4'
     clear HS4'
     generalize ((wr.drewN (na + nq)).setCell ⟨P, 1, none⟩ (.int .i64 ((k1 : Int) + 1))) = w4 at hb4 hbx4 HK4 HS4 HX4 hz4 ⊢
     refine (IH.out (B :: w.heap.size :: H) (k1 + 1) _ HS4.out hk2 (by intro q hq; rcases List.mem_cons.1 hq with rfl | hq; exact hz4; rcases List.mem_cons.1 hq with rfl | hq; omega; have := HH.out q hq; omega)).mono ?_
     intro e w5 hq
     have hinn := HIN.out (k1 + 1) hk2
     cases hr : R (k1 + 1) with
     | ok y k2 =>
      rw [hr] at hq hinn
      obtain ⟨hin1, hin2⟩ := hinn
      obtain ⟨⟨ya, yc, rfl, yr⟩, hs5, hk5⟩ := hq
      have hb5 := Lib.hid (hb4.out.keep hk5 (by simpa using HN.out))
      have hbx5 := hbx4.out.keep hk5 (by simpa using HBP.out)
      have HK5 := Lib.hid (HK4.out.trans hk5)
      have HS5 := Lib.hid hs5
      have hz5 := Nat.le_trans hz4 hk5.size
      have HR := Lib.hid hr
      have HX5 := Lib.hid (ExprRep.below (hk5.mono (H' := B :: w.heap.size :: H) (by intro y hy; simp at hy; subst hy; exact List.mem_cons_of_mem _ (List.mem_cons_of_mem _ HS.out.mem))).hide _ HX4.out)
      have HY5 := Lib.hid yr
      have hbz := (hbx5.keep ((Keep.refl [] _).alloc (.cells #[.int .i64 y.op, .int .i64 y.num, .string y.name, .slice ya y.args.length yc] 34)) (by simp)).keep ((Keep.refl [] _).alloc (.cells #[.int .i64 x.op, .int .i64 x.num, .string x.name, .slice xa x.args.length xc, .int .i64 y.op, .int .i64 y.num, .string y.name, .slice ya y.args.length yc] 34)) (by simp)
      have hbZ := Lib.hid hbz
      have hbY := hbx5.keep ((Keep.refl [] _).alloc (.cells #[.int .i64 y.op, .int .i64 y.num, .string y.name, .slice ya y.args.length yc] 34)) (by simp)
      unfold Box4 at hbz hbx5 hbY
      clear hb4 hbx4 HX4 hs5 hk5 hr HS4 HK4 yr
      go_wp2_with fail
      go_roundw
      case rel =>
       have hszY : (w5.alloc (.cells #[.int .i64 y.op, .int .i64 y.num, .string y.name, .slice ya y.args.length yc] 34)).heap.size = w5.heap.size + 1 := by simp
       have hx := exprRep_row (H := B :: w.heap.size :: H) (w := w5.alloc (.cells #[.int .i64 y.op, .int .i64 y.num, .string y.name, .slice ya y.args.length yc] 34)) (by intro q hq; rw [hszY]; rcases List.mem_cons.1 hq with rfl | hq; omega; rcases List.mem_cons.1 hq with rfl | hq; omega; have := HH.out q hq; omega) ((binOp t.text).1 : Int) 0 emptyB [x, y] [[.int .i64 x.op, .int .i64 x.num, .string x.name, .slice xa x.args.length xc], [.int .i64 y.op, .int .i64 y.num, .string y.name, .slice ya y.args.length yc]] 34 rfl (fun k h h' => by rcases (show k = 0 ∨ k = 1 by simp at h; omega) with rfl | rfl; exact ExprRep.below ((Keep.refl (B :: w.heap.size :: H) w5).alloc _).hide _ HX5.out; exact ExprRep.below ((Keep.refl (B :: w.heap.size :: H) w5).alloc _).hide _ HY5.out) _ rfl
       rw [hszY] at hx
       exact ⟨(((((HK5.out.alloc (.cells #[.int .i64 y.op, .int .i64 y.num, .string y.name, .slice ya y.args.length yc] 34)).alloc (.cells #[.int .i64 x.op, .int .i64 x.num, .string x.name, .slice xa x.args.length xc, .int .i64 y.op, .int .i64 y.num, .string y.name, .slice ya y.args.length yc] 34)).setCell (.inr (by simp; omega)) _).setCell (.inr (by simp; omega)) _).setCell (.inr (by simp; omega)) _).setCell (.inr (by simp; omega)) _, by simp; omega, ((hb5.out.keep ((Keep.refl [] _).alloc _) (by simp)).keep ((Keep.refl [] _).alloc _) (by simp)).keep (keep4 B ((w5.alloc (.cells #[.int .i64 y.op, .int .i64 y.num, .string y.name, .slice ya y.args.length yc] 34)).alloc (.cells #[.int .i64 x.op, .int .i64 x.num, .string x.name, .slice xa x.args.length xc, .int .i64 y.op, .int .i64 y.num, .string y.name, .slice ya y.args.length yc] 34)) _ _ _ _) (by simp; omega), .inl ⟨.mk ((binOp t.text).1 : Int) 0 emptyB [x, y], some ⟨w5.heap.size + 1, 0, none⟩, 2, k2, m - 1, by omega, by have := HM.out; omega, by rw [← HLP.out, HT.out]; exact (loop_ok (by rw [← HT.out]; omega) (by rw [← HT.out]; exact HBO.out) HR.out (by have := HM.out; omega)).symm, ((HS5.out.below ((Below.refl _ _).alloc (Nat.le_refl _) _)).below ((Below.refl _ _).alloc (Nat.le_refl _) _)).keep (keep4 B ((w5.alloc (.cells #[.int .i64 y.op, .int .i64 y.num, .string y.name, .slice ya y.args.length yc] 34)).alloc (.cells #[.int .i64 x.op, .int .i64 x.num, .string x.name, .slice xa x.args.length xc, .int .i64 y.op, .int .i64 y.num, .string y.name, .slice ya y.args.length yc] 34)) _ _ _ _) (by intro q hq; simp at hq; subst hq; simp) (by have := HBP.out; simp; omega), ExprRep.below ((keep4 B ((w5.alloc (.cells #[.int .i64 y.op, .int .i64 y.num, .string y.name, .slice ya y.args.length yc] 34)).alloc (.cells #[.int .i64 x.op, .int .i64 x.num, .string x.name, .slice xa x.args.length xc, .int .i64 y.op, .int .i64 y.num, .string y.name, .slice ya y.args.length yc] 34)) _ _ _ _).mono (H' := B :: w.heap.size :: H) (by intro q hq; simp at hq; subst hq; simp)).hide _ hx, box4_put hbZ.out _ _ _ _⟩⟩
      case measure =>
       rw [mOf_ok HPS.out]
       rw [mOf_ok (((HS5.out.below ((Below.refl _ _).alloc (Nat.le_refl _) (.cells #[.int .i64 y.op, .int .i64 y.num, .string y.name, .slice ya y.args.length yc] 34))).below ((Below.refl _ _).alloc (Nat.le_refl _) (.cells #[.int .i64 x.op, .int .i64 x.num, .string x.name, .slice xa x.args.length xc, .int .i64 y.op, .int .i64 y.num, .string y.name, .slice ya y.args.length yc] 34))).keep (keep4 B ((w5.alloc (.cells #[.int .i64 y.op, .int .i64 y.num, .string y.name, .slice ya y.args.length yc] 34)).alloc (.cells #[.int .i64 x.op, .int .i64 x.num, .string x.name, .slice xa x.args.length xc, .int .i64 y.op, .int .i64 y.num, .string y.name, .slice ya y.args.length yc] 34)) _ _ _ _) (by intro q hq; simp at hq; subst hq; simp) (by have := HBP.out; simp; omega))]
       omega
     | err k2 er =>
      rw [hr] at hq hinn
      obtain ⟨hin1, hin2, hin3, hin4⟩ := hinn
      obtain ⟨⟨y0, y1, y2, y3, yn, yc, rfl⟩, ⟨d', hd1, hd2, hs5⟩, hk5⟩ := hq
      have hb5 := Lib.hid (hb4.out.keep hk5 (by simpa using HN.out))
      have hbx5 := hbx4.out.keep hk5 (by simpa using HBP.out)
      have HK5 := Lib.hid (HK4.out.trans hk5)
      have HS5 := Lib.hid hs5
      have hz5 := Nat.le_trans hz4 hk5.size
      have HR := Lib.hid hr
      have HX5 := Lib.hid (ExprRep.below (hk5.mono (H' := B :: w.heap.size :: H) (by intro y hy; simp at hy; subst hy; exact List.mem_cons_of_mem _ (List.mem_cons_of_mem _ HS.out.mem))).hide _ HX4.out)
      have hbz := (hbx5.keep ((Keep.refl [] _).alloc (.cells #[.int .i64 y0, .int .i64 y1, .string y2, .slice y3 yn yc] 34)) (by simp)).keep ((Keep.refl [] _).alloc (.cells #[.int .i64 x.op, .int .i64 x.num, .string x.name, .slice xa x.args.length xc, .int .i64 y0, .int .i64 y1, .string y2, .slice y3 yn yc] 34)) (by simp)
      have hbZ := Lib.hid hbz
      have hbY := hbx5.keep ((Keep.refl [] _).alloc (.cells #[.int .i64 y0, .int .i64 y1, .string y2, .slice y3 yn yc] 34)) (by simp)
      unfold Box4 at hbz hbx5 hbY
      clear hb4 hbx4 HX4 hs5 hk5 hr HS4 HK4
      go_wp2_with fail
      go_roundw
      case rel =>
       exact ⟨(((((HK5.out.alloc (.cells #[.int .i64 y0, .int .i64 y1, .string y2, .slice y3 yn yc] 34)).alloc (.cells #[.int .i64 x.op, .int .i64 x.num, .string x.name, .slice xa x.args.length xc, .int .i64 y0, .int .i64 y1, .string y2, .slice y3 yn yc] 34)).setCell (.inr (by simp; omega)) _).setCell (.inr (by simp; omega)) _).setCell (.inr (by simp; omega)) _).setCell (.inr (by simp; omega)) _, by simp; omega, ((hb5.out.keep ((Keep.refl [] _).alloc _) (by simp)).keep ((Keep.refl [] _).alloc _) (by simp)).keep (keep4 B ((w5.alloc (.cells #[.int .i64 y0, .int .i64 y1, .string y2, .slice y3 yn yc] 34)).alloc (.cells #[.int .i64 x.op, .int .i64 x.num, .string x.name, .slice xa x.args.length xc, .int .i64 y0, .int .i64 y1, .string y2, .slice y3 yn yc] 34)) _ _ _ _) (by simp; omega), .inr ⟨k2, er, d', (binOp t.text).1, 0, ⟨#[]⟩, some ⟨w5.heap.size + 1, 0, none⟩, 2, 2, by rw [← HLP.out]; exact loop_err (by rw [← HT.out]; omega) (by rw [← HT.out]; exact HBO.out) HR.out (by have := HM.out; omega), by omega, by omega, hd1, hd2, ((HS5.out.below ((Below.refl _ _).alloc (Nat.le_refl _) _)).below ((Below.refl _ _).alloc (Nat.le_refl _) _)).keep (keep4 B ((w5.alloc (.cells #[.int .i64 y0, .int .i64 y1, .string y2, .slice y3 yn yc] 34)).alloc (.cells #[.int .i64 x.op, .int .i64 x.num, .string x.name, .slice xa x.args.length xc, .int .i64 y0, .int .i64 y1, .string y2, .slice y3 yn yc] 34)) _ _ _ _) (by intro q hq; simp at hq; subst hq; simp) (by have := HBP.out; simp; omega), box4_put hbZ.out _ _ _ _⟩⟩
      case measure =>
       rw [mOf_ok HPS.out]
       rw [mOf_err (((HS5.out.below ((Below.refl _ _).alloc (Nat.le_refl _) (.cells #[.int .i64 y0, .int .i64 y1, .string y2, .slice y3 yn yc] 34))).below ((Below.refl _ _).alloc (Nat.le_refl _) (.cells #[.int .i64 x.op, .int .i64 x.num, .string x.name, .slice xa x.args.length xc, .int .i64 y0, .int .i64 y1, .string y2, .slice y3 yn yc] 34))).keep (keep4 B ((w5.alloc (.cells #[.int .i64 y0, .int .i64 y1, .string y2, .slice y3 yn yc] 34)).alloc (.cells #[.int .i64 x.op, .int .i64 x.num, .string x.name, .slice xa x.args.length xc, .int .i64 y0, .int .i64 y1, .string y2, .slice y3 yn yc] 34)) _ _ _ _) (by intro q hq; simp at hq; subst hq; simp) (by have := HBP.out; simp; omega)) hin3]
       omega
    ·have hnb : (((binOp t.text).2 : Int) != (lev : Int)) = true := by simp; omega
     unfold Box4 at hb0 hbx
     go_wp2_with fail
     go_quiet (fail)
     revert nq
     intro na
     go_wp2_with fail
     go_quiet ((go_at_call 51; first | exact quiet_left (binaryOp_any _ _) | exact quiet_add_left (binaryOp_any _ _)))
     go_wp2_with fail
     refine bodyPost_ret (v := .agg #[.int .i64 x.op, .int .i64 x.num, .string x.name, .slice xa x.args.length xc]) (by simp [results, Tryd.results29, go_sem, hb0]) rfl ?_
     rw [← HRR.out, ← HLP.out, loop_done (by rw [← HT.out]; omega)]
     exact eok_ok ((HPS.out.drewN (na + nq)).drop (List.mem_cons_of_mem _ HS.out.mem)) HS.out.mem hl (HK.out.drewN (na + nq)) (ExprRep.mono (fun _ _ h => hideL_sub (fun q hq => List.mem_cons_of_mem _ hq) h) _ (ExprRep.below (((Keep.refl [P] wr).drewN (na + nq)).mono (H' := B :: w.heap.size :: H) (by intro y hy; simp at hy; subst hy; exact List.mem_cons_of_mem _ (List.mem_cons_of_mem _ HS.out.mem))).hide _ HXR.out)) rfl (by exact keep4 _ _ _ _ _ _)
   ·have hkb : ((t.kind : Int) == 4) = false := by rw [beq_eq_false_iff_ne]; omega
    unfold Box4 at hb0 hbx
    go_wp2_with fail
    go_quiet (fail)
    go_wp2_with fail
    refine bodyPost_ret (v := .agg #[.int .i64 x.op, .int .i64 x.num, .string x.name, .slice xa x.args.length xc]) (by simp [results, Tryd.results29, go_sem, hb0]) rfl ?_
    rw [← HRR.out, ← HLP.out, loop_done (by rw [← HT.out]; omega)]
    exact eok_ok ((HPS.out.drewN nq).drop (List.mem_cons_of_mem _ HS.out.mem)) HS.out.mem hl (HK.out.drewN nq) (ExprRep.mono (fun _ _ h => hideL_sub (fun q hq => List.mem_cons_of_mem _ hq) h) _ (ExprRep.below (((Keep.refl [P] wr).drewN nq).mono (H' := B :: w.heap.size :: H) (by intro y hy; simp at hy; subst hy; exact List.mem_cons_of_mem _ (List.mem_cons_of_mem _ HS.out.mem))).hide _ HXR.out)) rfl (by exact keep4 _ _ _ _ _ _)
  ·have c0 := hps.c0
   have c3 := hps.c3
   have heb : ((er : Int) == 0) = false := by rw [beq_eq_false_iff_ne]; omega
   unfold Box4 at hb0 hbx
   have HPS := Lib.hid hps
   have HK := Lib.hid hK
   have HR := Lib.hid hr
   clear hps hK hr
   go_wp2_with fail
   go_quiet (fail)
   go_wp2_with fail
   refine bodyPost_ret (v := .agg #[.int .i64 y0, .int .i64 y1, .string y2, .slice y3 yn yc]) (by simp [results, Tryd.results29, go_sem, hb0]) rfl ?_
   rw [← HRR.out, HR.out]
   exact eok_err ((HPS.out.drewN nq).drop (List.mem_cons_of_mem _ HS.out.mem)) HS.out.mem hl (HK.out.drewN nq) hd1 hd2 rfl (by exact keep4 _ _ _ _ _ _)
end Go.Proofs.YtiimofjemiffgaaDoor
