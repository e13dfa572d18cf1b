import Derived.Test.YtiimofjemiffgaaDoorE1J
set_option linter.unusedVariables false
set_option linter.unusedSimpArgs false
namespace Go.Proofs.YtiimofjemiffgaaDoor
open Go.RowKit
def EOk (l : List Tok) (b off tc P : Nat) (H : List Nat) (dep : Nat) (w : World) : PRes AExpr → Ending → World → Prop
 | .ok x k', e, w' => (∃ (a : Option Addr) (cap : Nat), e = .returned (.agg #[.int .i64 x.op, .int .i64 x.num, .string x.name, .slice a x.args.length cap]) ∧ ExprRep (hideL H w') x [.int .i64 x.op, .int .i64 x.num, .string x.name, .slice a x.args.length cap]) ∧ PS l b off tc P H k' dep 0 w' ∧ Keep [P] w w'
 | .err k' er, e, w' => (∃ (y0 y1 : Int) (y2 : ByteArray) (y3 : Option Addr) (n c : Nat), e = .returned (.agg #[.int .i64 y0, .int .i64 y1, .string y2, .slice y3 n c])) ∧ (∃ d', dep ≤ d' ∧ d' ≤ 24 ∧ PS l b off tc P H k' d' er w') ∧ Keep [P] w w'
def SingleC (l : List Tok) (b off tc P dep : Nat) (R : Nat → PRes AExpr) : Prop := ∀ (H : List Nat) (k : Nat) (w : World), PS l b off tc P H k dep 0 w → k < l.length → (∀ x, x ∈ H → x < w.heap.size) →
 Calls Tryd.prog 50 #[.pointer (some ⟨P, 0, none⟩)] w (EOk l b off tc P H dep w (R k))
def BinC (l : List Tok) (b off tc P dep : Nat) (lev : Int) (R : Nat → PRes AExpr) : Prop := ∀ (H : List Nat) (k : Nat) (w : World), PS l b off tc P H k dep 0 w → k < l.length → (∀ x, x ∈ H → x < w.heap.size) →
 Calls Tryd.prog 29 #[.pointer (some ⟨P, 0, none⟩), .int .i64 lev] w (EOk l b off tc P H dep w (R k))
theorem box4_set {B P : Nat} {a : World} {u0 u1 u2 u3 : Value} (h : a.cell? ⟨B, 0, none⟩ = some u0 ∧ a.cell? ⟨B, 1, none⟩ = some u1 ∧ a.cell? ⟨B, 2, none⟩ = some u2 ∧ a.cell? ⟨B, 3, none⟩ = some u3 ∧ a.frozen? ⟨B, 0, none⟩ = false ∧ a.frozen? ⟨B, 1, none⟩ = false ∧ a.frozen? ⟨B, 2, none⟩ = false ∧ a.frozen? ⟨B, 3, none⟩ = false) (hB : B < a.heap.size) (hn : B ≠ P) (o : Nat) (u : Value) :
  (a.setCell ⟨P, o, none⟩ u).cell? ⟨B, 0, none⟩ = some u0 ∧ (a.setCell ⟨P, o, none⟩ u).cell? ⟨B, 1, none⟩ = some u1 ∧ (a.setCell ⟨P, o, none⟩ u).cell? ⟨B, 2, none⟩ = some u2 ∧ (a.setCell ⟨P, o, none⟩ u).cell? ⟨B, 3, none⟩ = some u3 ∧ (a.setCell ⟨P, o, none⟩ u).frozen? ⟨B, 0, none⟩ = false ∧ (a.setCell ⟨P, o, none⟩ u).frozen? ⟨B, 1, none⟩ = false ∧ (a.setCell ⟨P, o, none⟩ u).frozen? ⟨B, 2, none⟩ = false ∧ (a.setCell ⟨P, o, none⟩ u).frozen? ⟨B, 3, none⟩ = false :=
 box4 h (keepP (Keep.refl _ _) o u) hB hn
theorem eok_err {l : List Tok} {b off tc P k d' er dep : Nat} {H : List Nat} {w wk w' : World} {e : Ending} {y0 y1 : Int} {y2 : ByteArray} {y3 : Option Addr} {n c : Nat} (hs : PS l b off tc P (w.heap.size :: H) k d' er wk) (hP : P ∈ H) (hPl : P < w.heap.size) (hk : Keep [P] w wk) (h1 : dep ≤ d') (h2 : d' ≤ 24)
  (he : e = .returned (.agg #[.int .i64 y0, .int .i64 y1, .string y2, .slice y3 n c])) (hw : Keep [w.heap.size] wk w') : EOk l b off tc P H dep w (.err k er) e w' :=
 have hf := ps_fin hs hP hPl hk hw
 ⟨⟨_, _, _, _, _, _, he⟩, ⟨d', h1, h2, hf.1⟩, hf.2⟩
theorem eok_ok {l : List Tok} {b off tc P k dep : Nat} {H : List Nat} {w wk w' : World} {e : Ending} {x : AExpr} {a : Option Addr} {cap : Nat} (hs : PS l b off tc P (w.heap.size :: H) k dep 0 wk) (hP : P ∈ H) (hPl : P < w.heap.size) (hk : Keep [P] w wk)
  (hr : ExprRep (hideL (w.heap.size :: H) wk) x [.int .i64 x.op, .int .i64 x.num, .string x.name, .slice a x.args.length cap]) (he : e = .returned (.agg #[.int .i64 x.op, .int .i64 x.num, .string x.name, .slice a x.args.length cap])) (hw : Keep [w.heap.size] wk w') : EOk l b off tc P H dep w (.ok x k) e w' := by
 have hf := ps_fin hs hP hPl hk hw
 have hw2 : Keep (w.heap.size :: H) wk w' := hw.mono (by intro y hy; simp at hy; subst hy; simp)
 exact ⟨⟨a, cap, he, ExprRep.mono (fun _ _ h => hideL_sub (fun x hx => List.mem_cons_of_mem _ hx) h) _ (ExprRep.below hw2.hide _ hr)⟩, hf.1, hf.2⟩
theorem hsub {H : List Nat} {w w' : World} (h : ∀ x, x ∈ H → x < w.heap.size) (hs : w.heap.size < w'.heap.size) : ∀ x, x ∈ w.heap.size :: H → x < w'.heap.size := fun x hx => by
 rcases List.mem_cons.1 hx with rfl | hx
 ·exact hs
 ·have := h x hx; omega
set_option maxRecDepth 100000 in
set_option maxHeartbeats 1600000 in
theorem prefixed_zero (op : Int) (l : List Tok) (b off tc P k : Nat) (H : List Nat) (w : World) (h : PS l b off tc P H k 24 0 w) (hk : k < l.length) (hH : ∀ x, x ∈ H → x < w.heap.size) :
  Calls Tryd.prog 74 #[.pointer (some ⟨P, 0, none⟩), .int .i64 op] w (EOk l b off tc P H 24 w (.err k 3)) := by
 have hl := h.lt
 have HN := Lib.hid (show w.heap.size ≠ P by omega)
 have HS := Lib.hid h
 clear h
 go_enter Tryd.func74, Tryd.ntmps74
 go_wp2_with fail
 refine (enter_ps l b off tc P k 24 0 (w.heap.size :: H) _ (HS.out.new _) (by omega) hk).mono ?_
 intro e w1 hq
 obtain ⟨hk1, hq⟩ := hq
 rcases hq with ⟨_, rfl, hs1⟩ | ⟨h24, _⟩
 ·have bx := box4 (B := w.heap.size) (u0 := .int .i64 0) (u1 := .int .i64 0) (u2 := .string ⟨#[]⟩) (u3 := .slice none 0 0) ⟨by go_simp, by go_simp, by go_simp, by go_simp, by go_simp, by go_simp, by go_simp, by go_simp⟩ hk1 (by simp) HN.out
  have HS1 := Lib.hid hs1
  have HK1 := Lib.hid (((Keep.refl [P] w).alloc _).trans hk1)
  clear hs1 hk1
  go_wp2_with fail
  refine bodyPost_ret (v := .agg #[.int .i64 0, .int .i64 0, .string ⟨#[]⟩, .slice none 0 0]) (by simp [results, Tryd.results74, go_sem, bx]) rfl ?_
  exact eok_err HS1.out HS.out.mem hl HK1.out (by omega) (by omega) rfl (by exact keep4 _ _ _ _ _ _)
 ·omega
set_option maxRecDepth 100000 in
set_option maxHeartbeats 1600000 in
theorem prefixed_succ (op : Int) (R : Nat → PRes AExpr) (l : List Tok) (b off tc P dep k : Nat) (H : List Nat) (w : World) (ih : SingleC l b off tc P (dep + 1) R) (hd : dep < 24) (h : PS l b off tc P H k dep 0 w) (hk : k < l.length) (hk2 : k + 1 < l.length) (hH : ∀ x, x ∈ H → x < w.heap.size) :
  Calls Tryd.prog 74 #[.pointer (some ⟨P, 0, none⟩), .int .i64 op] w (EOk l b off tc P H dep w (negP op (R (k + 1)))) := by
 have hl := h.lt
 have HN := Lib.hid (show w.heap.size ≠ P by omega)
 have HS := Lib.hid h
 have HH := Lib.hid hH
 have IH := Lib.hid ih
 clear h hH ih
 go_enter Tryd.func74, Tryd.ntmps74
 go_wp2_with fail
 refine (enter_ps l b off tc P k dep 0 (w.heap.size :: H) _ (HS.out.new _) (by omega) hk).mono ?_
 intro e w1 hq
 obtain ⟨hk1, hq⟩ := hq
 rcases hq with ⟨h24, _⟩ | ⟨_, rfl, hs1⟩
 ·omega
 have bx := box4 (B := w.heap.size) (u0 := .int .i64 0) (u1 := .int .i64 0) (u2 := .string ⟨#[]⟩) (u3 := .slice none 0 0) ⟨by go_simp, by go_simp, by go_simp, by go_simp, by go_simp, by go_simp, by go_simp, by go_simp⟩ hk1 (by simp) HN.out
 have hz1 := hk1.size
 simp at hz1
 have HS1 := Lib.hid hs1
 have HK1 := Lib.hid (((Keep.refl [P] w).alloc _).trans hk1)
 clear hs1 hk1
 go_wp2_with fail
 refine (IH.out (w.heap.size :: H) (k + 1) _ HS1.out hk2 (hsub HH.out (by omega))).mono ?_
 intro e w2 hq
 cases hR : R (k + 1) with
 | ok x k' =>
  rw [hR] at hq
  obtain ⟨⟨xa, xc, rfl, xr⟩, hs2, hk2'⟩ := hq
  have bx2 := box4 bx hk2' (by omega) HN.out
  have hz2 := Nat.le_trans hz1 hk2'.size
  have HS2 := Lib.hid hs2
  have HK2 := Lib.hid (HK1.out.trans hk2')
  have HX := Lib.hid xr
  have hc2 := hs2.c2
  have hf2 := hs2.free 2
  have hlt := hs2.lt
  have HRR := Lib.hid hR
  clear bx hs2 hk2' xr hR
  have hw1 : IntKind.i64.wrap (((dep + 1 : Nat) : Int) - 1) = dep := by rw [show (((dep + 1 : Nat) : Int) - 1) = dep by omega]; exact IntWalk.i64_in _ (by omega)
  have bz := box4_alloc (box4_alloc (box4_set bx2 (by omega) HN.out 2 (.int .i64 dep)) (by simp; omega) (.cells #[.int .i64 x.op, .int .i64 x.num, .string x.name, .slice xa x.args.length xc] 34)) (by simp; omega) (.cells #[.int .i64 x.op, .int .i64 x.num, .string x.name, .slice xa x.args.length xc] 34)
  go_wp2_with fail
  refine bodyPost_ret (v := .agg #[.int .i64 op, .int .i64 0, .string ⟨#[]⟩, .slice (some ⟨w2.heap.size + 1, 0, none⟩) 1 1]) (by simp [results, Tryd.results74, go_sem, bz]) rfl ?_
  have hsz : ((w2.setCell ⟨P, 2, none⟩ (.int .i64 dep)).alloc (.cells #[.int .i64 x.op, .int .i64 x.num, .string x.name, .slice xa x.args.length xc] 34)).heap.size = w2.heap.size + 1 := by simp
  have hr := exprRep_row (H := w.heap.size :: H) (w := (w2.setCell ⟨P, 2, none⟩ (.int .i64 dep)).alloc (.cells #[.int .i64 x.op, .int .i64 x.num, .string x.name, .slice xa x.args.length xc] 34)) (hsub HH.out (by rw [hsz]; omega)) op 0 emptyB [x] [[.int .i64 x.op, .int .i64 x.num, .string x.name, .slice xa x.args.length xc]] 34 rfl (fun k h h' => by obtain rfl : k = 0 := (by simpa using h); exact ExprRep.below (((keepP (Keep.refl [P] w2) 2 (.int .i64 dep)).alloc _).mono (H' := w.heap.size :: H) (by intro y hy; simp at hy; subst hy; exact List.mem_cons_of_mem _ HS.out.mem)).hide _ HX.out) _ rfl
  rw [hsz] at hr
  rw [HRR.out]
  change EOk l b off tc P H dep w (.ok (.mk op 0 emptyB [x]) k') _ _
  exact eok_ok (x := .mk op 0 emptyB [x]) (((HS2.out.dep dep).below ((Below.refl _ _).alloc (Nat.le_refl _) _)).below ((Below.refl _ _).alloc (Nat.le_refl _) _)) HS.out.mem hl (((keepP HK2.out _ _).alloc _).alloc _) hr rfl (by exact keep4 _ _ _ _ _ _)
 | err a er =>
  rw [hR] at hq
  obtain ⟨⟨y0, y1, y2, y3, yn, yc, rfl⟩, ⟨d', hd1, hd2, hs2⟩, hk2'⟩ := hq
  have bx2 := box4 bx hk2' (by omega) HN.out
  have hz2 := Nat.le_trans hz1 hk2'.size
  have HS2 := Lib.hid hs2
  have HK2 := Lib.hid (HK1.out.trans hk2')
  have hc2 := hs2.c2
  have hf2 := hs2.free 2
  have hlt := hs2.lt
  have HRR := Lib.hid hR
  clear bx hs2 hk2' hR
  obtain ⟨d2, rfl⟩ : ∃ d2, d' = d2 + 1 := ⟨d' - 1, by omega⟩
  have hw1 : IntKind.i64.wrap (((d2 + 1 : Nat) : Int) - 1) = d2 := by rw [show (((d2 + 1 : Nat) : Int) - 1) = d2 by omega]; exact IntWalk.i64_in _ (by omega)
  have bz := box4_alloc (box4_alloc (box4_set bx2 (by omega) HN.out 2 (.int .i64 d2)) (by simp; omega) (.cells #[.int .i64 y0, .int .i64 y1, .string y2, .slice y3 yn yc] 34)) (by simp; omega) (.cells #[.int .i64 y0, .int .i64 y1, .string y2, .slice y3 yn yc] 34)
  go_wp2_with fail
  refine bodyPost_ret (v := .agg #[.int .i64 op, .int .i64 0, .string ⟨#[]⟩, .slice (some ⟨w2.heap.size + 1, 0, none⟩) 1 1]) (by simp [results, Tryd.results74, go_sem, bz]) rfl ?_
  rw [HRR.out]
  change EOk l b off tc P H dep w (.err a er) _ _
  exact eok_err (d' := d2) (wk := ((w2.setCell ⟨P, 2, none⟩ (.int .i64 d2)).alloc (.cells #[.int .i64 y0, .int .i64 y1, .string y2, .slice y3 yn yc] 34)).alloc (.cells #[.int .i64 y0, .int .i64 y1, .string y2, .slice y3 yn yc] 34)) (((HS2.out.dep d2).below ((Below.refl _ _).alloc (Nat.le_refl _) _)).below ((Below.refl _ _).alloc (Nat.le_refl _) _)) HS.out.mem hl (((keepP HK2.out _ _).alloc _).alloc _) (by omega) (by omega) rfl (by exact keep4 _ _ _ _ _ _)
set_option maxRecDepth 100000 in
set_option maxHeartbeats 1600000 in
theorem enclosed_zero (l : List Tok) (b off tc P k : Nat) (H : List Nat) (w : World) (h : PS l b off tc P H k 24 0 w) (hk : k < l.length) (hH : ∀ x, x ∈ H → x < w.heap.size) :
  Calls Tryd.prog 75 #[.pointer (some ⟨P, 0, none⟩)] w (EOk l b off tc P H 24 w (.err k 3)) := by
 have hl := h.lt
 have HN := Lib.hid (show w.heap.size ≠ P by omega)
 have HS := Lib.hid h
 clear h
 go_enter Tryd.func75, Tryd.ntmps75
 go_wp2_with fail
 refine (enter_ps l b off tc P k 24 0 (w.heap.size :: H) _ (HS.out.new _) (by omega) hk).mono ?_
 intro e w1 hq
 obtain ⟨hk1, hq⟩ := hq
 rcases hq with ⟨_, rfl, hs1⟩ | ⟨h24, _⟩
 ·have bx := box4 (B := w.heap.size) (u0 := .int .i64 0) (u1 := .int .i64 0) (u2 := .string ⟨#[]⟩) (u3 := .slice none 0 0) ⟨by go_simp, by go_simp, by go_simp, by go_simp, by go_simp, by go_simp, by go_simp, by go_simp⟩ hk1 (by simp) HN.out
  have HS1 := Lib.hid hs1
  have HK1 := Lib.hid (((Keep.refl [P] w).alloc _).trans hk1)
  clear hs1 hk1
  go_wp2_with fail
  refine bodyPost_ret (v := .agg #[.int .i64 0, .int .i64 0, .string ⟨#[]⟩, .slice none 0 0]) (by simp [results, Tryd.results75, go_sem, bx]) rfl ?_
  exact eok_err HS1.out HS.out.mem hl HK1.out (by omega) (by omega) rfl (by exact keep4 _ _ _ _ _ _)
 ·omega
set_option maxRecDepth 100000 in
set_option maxHeartbeats 1600000 in
theorem enclosed_succ (R : Nat → PRes AExpr) (l : List Tok) (b off tc P dep k : Nat) (H : List Nat) (w : World) (ih : BinC l b off tc P (dep + 1) 1 R) (hR : ∀ k, k < l.length → (R k).In l k) (hel : EndAt l) (hd : dep < 24) (h : PS l b off tc P H k dep 0 w) (hk : k < l.length) (hk2 : k + 1 < l.length) (hH : ∀ x, x ∈ H → x < w.heap.size) :
  Calls Tryd.prog 75 #[.pointer (some ⟨P, 0, none⟩)] w (EOk l b off tc P H dep w (parP l (R (k + 1)))) := by
 have hl := h.lt
 have HN := Lib.hid (show w.heap.size ≠ P by omega)
 have HS := Lib.hid h
 have HH := Lib.hid hH
 have IH := Lib.hid ih
 have HR := Lib.hid hR
 clear h hH ih hR
 go_enter Tryd.func75, Tryd.ntmps75
 go_wp2_with fail
 refine (enter_ps l b off tc P k dep 0 (w.heap.size :: H) _ (HS.out.new _) (by omega) hk).mono ?_
 intro e w1 hq
 obtain ⟨hk1, hq⟩ := hq
 rcases hq with ⟨h24, _⟩ | ⟨_, rfl, hs1⟩
 ·omega
 have bx := box4 (B := w.heap.size) (u0 := .int .i64 0) (u1 := .int .i64 0) (u2 := .string ⟨#[]⟩) (u3 := .slice none 0 0) ⟨by go_simp, by go_simp, by go_simp, by go_simp, by go_simp, by go_simp, by go_simp, by go_simp⟩ hk1 (by simp) HN.out
 have hz1 := hk1.size
 simp at hz1
 have HS1 := Lib.hid hs1
 have HK1 := Lib.hid (((Keep.refl [P] w).alloc _).trans hk1)
 clear hs1 hk1
 go_wp2_with fail
 refine (IH.out (w.heap.size :: H) (k + 1) _ HS1.out hk2 (hsub HH.out (by omega))).mono ?_
 intro e w2 hq
 have hin := HR.out (k + 1) hk2
 cases hRR : R (k + 1) with
 | ok x k' =>
  rw [hRR] at hq hin
  obtain ⟨hin1, hin2⟩ := hin
  obtain ⟨⟨xa, xc, rfl, xr⟩, hs2, hk2'⟩ := hq
  have bx2 := box4_alloc (box4 bx hk2' (by omega) HN.out) (by have := hk2'.size; omega) (.cells #[.int .i64 x.op, .int .i64 x.num, .string x.name, .slice xa x.args.length xc] 34)
  have hz2 := Nat.le_trans hz1 hk2'.size
  have hz3 : (w2.alloc (.cells #[.int .i64 x.op, .int .i64 x.num, .string x.name, .slice xa x.args.length xc] 34)).heap.size = w2.heap.size + 1 := by simp
  have HS2 := Lib.hid (hs2.new (.cells #[.int .i64 x.op, .int .i64 x.num, .string x.name, .slice xa x.args.length xc] 34))
  have HK2 := Lib.hid ((HK1.out.trans hk2').alloc (.cells #[.int .i64 x.op, .int .i64 x.num, .string x.name, .slice xa x.args.length xc] 34))
  have HX := Lib.hid (ExprRep.below (Keep.hide (((Keep.refl (w.heap.size :: H) w2).alloc (.cells #[.int .i64 x.op, .int .i64 x.num, .string x.name, .slice xa x.args.length xc] 34)))) _ xr)
  have hc3 := HS2.out.c3
  have hlt := HS2.out.lt
  have fx : (w2.alloc (.cells #[.int .i64 x.op, .int .i64 x.num, .string x.name, .slice xa x.args.length xc] 34)).cell? ⟨w2.heap.size, 0, none⟩ = some (.int .i64 x.op) ∧ (w2.alloc (.cells #[.int .i64 x.op, .int .i64 x.num, .string x.name, .slice xa x.args.length xc] 34)).cell? ⟨w2.heap.size, 1, none⟩ = some (.int .i64 x.num) ∧ (w2.alloc (.cells #[.int .i64 x.op, .int .i64 x.num, .string x.name, .slice xa x.args.length xc] 34)).cell? ⟨w2.heap.size, 2, none⟩ = some (.string x.name) ∧ (w2.alloc (.cells #[.int .i64 x.op, .int .i64 x.num, .string x.name, .slice xa x.args.length xc] 34)).cell? ⟨w2.heap.size, 3, none⟩ = some (.slice xa x.args.length xc) ∧ (w2.alloc (.cells #[.int .i64 x.op, .int .i64 x.num, .string x.name, .slice xa x.args.length xc] 34)).frozen? ⟨w2.heap.size, 0, none⟩ = false ∧ (w2.alloc (.cells #[.int .i64 x.op, .int .i64 x.num, .string x.name, .slice xa x.args.length xc] 34)).frozen? ⟨w2.heap.size, 1, none⟩ = false ∧ (w2.alloc (.cells #[.int .i64 x.op, .int .i64 x.num, .string x.name, .slice xa x.args.length xc] 34)).frozen? ⟨w2.heap.size, 2, none⟩ = false ∧ (w2.alloc (.cells #[.int .i64 x.op, .int .i64 x.num, .string x.name, .slice xa x.args.length xc] 34)).frozen? ⟨w2.heap.size, 3, none⟩ = false := ⟨by go_simp, by go_simp, by go_simp, by go_simp, by go_simp, by go_simp, by go_simp, by go_simp⟩
  have HRR := Lib.hid hRR
  have HN3 := Lib.hid (show w2.heap.size ≠ P by have := hs2.lt; omega)
  clear bx hs2 hk2' xr hRR
  go_wp2_with fail
  generalize w2.alloc (.cells #[.int .i64 x.op, .int .i64 x.num, .string x.name, .slice xa x.args.length xc] 34) = w3 at bx2 hz3 HS2 HK2 HX hc3 hlt fx ⊢
  obtain ⟨B, hB⟩ : ∃ B, B = w2.heap.size := ⟨_, rfl⟩
  rw [← hB] at hz3 HS2 fx HN3 hz2 ⊢
  clear hB
  refine (is_ps [41] l b off tc P k' (dep + 1) 0 (B :: w.heap.size :: H) _ HS2.out hin2).mono ?_
  intro e w4 hq
  obtain ⟨rfl, n, rfl⟩ := hq
  have kd : Keep [P] w3 (w3.drewN n) := (Keep.refl _ _).drewN n
  have bx4 := box4 bx2 kd (by omega) HN.out
  have fx4 := box4 fx kd (by omega) HN3.out
  have HS4 := Lib.hid ((HS2.out.drewN n).drop (List.mem_cons_of_mem _ HS.out.mem))
  have HK4 := Lib.hid (HK2.out.trans kd)
  have HX4 := Lib.hid (ExprRep.below (Keep.hide (kd.mono (H' := w.heap.size :: H) (by intro y hy; simp at hy; subst hy; exact List.mem_cons_of_mem _ HS.out.mem))) _ HX.out)
  have hz4 : (w3.drewN n).heap.size = B + 1 := hz3
  have c1 := HS4.out.c1
  have c2 := HS4.out.c2
  have f1 := HS4.out.free 1
  have f2 := HS4.out.free 2
  have hbig := HS4.out.big.2
  clear kd bx2 fx HS2 HK2 HX hc3
  generalize w3.drewN n = w4 at bx4 fx4 HS4 HK4 HX4 hz4 c1 c2 f1 f2 ⊢
  cases hsg : signAt l k' [41] with
  | true =>
   have HSG := Lib.hid hsg
   clear hsg
   have hlt4 : P < w4.heap.size := HS4.out.lt
   have hw1 : IntKind.i64.wrap ((k' : Int) + 1) = ((k' + 1 : Nat) : Int) := by rw [show (k' : Int) + 1 = ((k' + 1 : Nat) : Int) by omega]; exact IntWalk.i64_in _ (by omega)
   have hw2 : IntKind.i64.wrap (((dep + 1 : Nat) : Int) - 1) = dep := by rw [show (((dep + 1 : Nat) : Int) - 1) = dep by omega]; exact IntWalk.i64_in _ (by omega)
   have bz := box4_set (box4_set bx4 (by omega) HN.out 1 (.int .i64 ((k' : Int) + 1))) (by simp; omega) HN.out 2 (.int .i64 dep)
   have fz := box4_set (box4_set fx4 (by omega) HN3.out 1 (.int .i64 ((k' : Int) + 1))) (by simp; omega) HN3.out 2 (.int .i64 dep)
   go_wp2_with fail
   refine bodyPost_ret (v := .agg #[.int .i64 x.op, .int .i64 x.num, .string x.name, .slice xa x.args.length xc]) (by simp [results, Tryd.results75, go_sem, bz]) rfl ?_
   rw [HRR.out]
   change EOk l b off tc P H dep w (if signAt l k' [41] then .ok x (k' + 1) else .err k' 4) _ _
   rw [if_pos HSG.out]
   exact eok_ok (wk := (w4.setCell ⟨P, 1, none⟩ (.int .i64 ((k' : Int) + 1))).setCell ⟨P, 2, none⟩ (.int .i64 dep)) ((HS4.out.at (k' + 1)).dep dep) HS.out.mem hl (keepP (keepP HK4.out _ _) _ _) (ExprRep.below ((keepP (keepP (Keep.refl [P] w4) 1 (.int .i64 ((k' : Int) + 1))) 2 (.int .i64 dep)).mono (H' := w.heap.size :: H) (by intro y hy; simp at hy; subst hy; exact List.mem_cons_of_mem _ HS.out.mem)).hide _ HX4.out) rfl (by exact keep4 _ _ _ _ _ _)
  | false =>
   have HSG := Lib.hid hsg
   clear hsg
   go_wp2_with fail
   refine (fail_ps 4 l b off tc P k' (dep + 1) 0 (w.heap.size :: H) _ HS4.out).mono ?_
   intro e w5 hq
   obtain ⟨rfl, hs5, hk5⟩ := hq
   have bx5 := box4 bx4 hk5 (by omega) HN.out
   have HS5 := Lib.hid hs5
   have HK5 := Lib.hid (HK4.out.trans hk5)
   clear bx4 fx4 hs5 hk5
   go_wp2_with fail
   refine bodyPost_ret (v := .agg #[.int .i64 0, .int .i64 0, .string ⟨#[]⟩, .slice none 0 0]) (by simp [results, Tryd.results75, go_sem, bx5]) rfl ?_
   rw [HRR.out]
   change EOk l b off tc P H dep w (if signAt l k' [41] then .ok x (k' + 1) else .err k' 4) _ _
   rw [if_neg (by rw [HSG.out]; simp)]
   exact eok_err (d' := dep + 1) HS5.out HS.out.mem hl HK5.out (by omega) (by omega) rfl (by exact keep4 _ _ _ _ _ _)
 | err a er =>
  rw [hRR] at hq hin
  obtain ⟨hin1, hin2, hin3, hin4⟩ := hin
  obtain ⟨⟨y0, y1, y2, y3, yn, yc, rfl⟩, ⟨d', hd1, hd2, hs2⟩, hk2'⟩ := hq
  have bx2 := box4_alloc (box4 bx hk2' (by omega) HN.out) (by have := hk2'.size; omega) (.cells #[.int .i64 y0, .int .i64 y1, .string y2, .slice y3 yn yc] 34)
  have hz2 := Nat.le_trans hz1 hk2'.size
  have HS2 := Lib.hid (hs2.below ((Below.refl _ _).alloc (Nat.le_refl _) (.cells #[.int .i64 y0, .int .i64 y1, .string y2, .slice y3 yn yc] 34)))
  have HK2 := Lib.hid ((HK1.out.trans hk2').alloc (.cells #[.int .i64 y0, .int .i64 y1, .string y2, .slice y3 yn yc] 34))
  have hc3 := HS2.out.c3
  have hlt := HS2.out.lt
  have fx : (w2.alloc (.cells #[.int .i64 y0, .int .i64 y1, .string y2, .slice y3 yn yc] 34)).cell? ⟨w2.heap.size, 0, none⟩ = some (.int .i64 y0) ∧ (w2.alloc (.cells #[.int .i64 y0, .int .i64 y1, .string y2, .slice y3 yn yc] 34)).cell? ⟨w2.heap.size, 1, none⟩ = some (.int .i64 y1) ∧ (w2.alloc (.cells #[.int .i64 y0, .int .i64 y1, .string y2, .slice y3 yn yc] 34)).cell? ⟨w2.heap.size, 2, none⟩ = some (.string y2) ∧ (w2.alloc (.cells #[.int .i64 y0, .int .i64 y1, .string y2, .slice y3 yn yc] 34)).cell? ⟨w2.heap.size, 3, none⟩ = some (.slice y3 yn yc) ∧ (w2.alloc (.cells #[.int .i64 y0, .int .i64 y1, .string y2, .slice y3 yn yc] 34)).frozen? ⟨w2.heap.size, 0, none⟩ = false ∧ (w2.alloc (.cells #[.int .i64 y0, .int .i64 y1, .string y2, .slice y3 yn yc] 34)).frozen? ⟨w2.heap.size, 1, none⟩ = false ∧ (w2.alloc (.cells #[.int .i64 y0, .int .i64 y1, .string y2, .slice y3 yn yc] 34)).frozen? ⟨w2.heap.size, 2, none⟩ = false ∧ (w2.alloc (.cells #[.int .i64 y0, .int .i64 y1, .string y2, .slice y3 yn yc] 34)).frozen? ⟨w2.heap.size, 3, none⟩ = false := ⟨by go_simp, by go_simp, by go_simp, by go_simp, by go_simp, by go_simp, by go_simp, by go_simp⟩
  have HRR := Lib.hid hRR
  have her : ((er : Int) != 0) = true := by simp; omega
  clear bx hs2 hk2' hRR
  go_wp2_with fail
  refine bodyPost_ret (v := .agg #[.int .i64 y0, .int .i64 y1, .string y2, .slice y3 yn yc]) (by simp [results, Tryd.results75, go_sem, bx2]) rfl ?_
  rw [HRR.out]
  change EOk l b off tc P H dep w (.err a er) _ _
  exact eok_err (d' := d') (wk := w2.alloc (.cells #[.int .i64 y0, .int .i64 y1, .string y2, .slice y3 yn yc] 34)) HS2.out HS.out.mem hl HK2.out (by omega) (by omega) rfl (by exact keep4 _ _ _ _ _ _)
end Go.Proofs.YtiimofjemiffgaaDoor
