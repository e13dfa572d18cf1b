import Derived.Test.YtiimofjemiffgaaDoorC1J
import Derived.Test.YtiimofjemiffgaaDoorMadeJ
set_option linter.unusedVariables false
set_option linter.unusedSimpArgs false
namespace Go.Proofs.YtiimofjemiffgaaDoor
open Go.RowKit
def ExprOk (names : List ByteArray) (d : Nat) (H : List Nat) (S : Nat) (w : World) (e : Ending) (w' : World) : Prop :=
 (∃ (x : AExpr) (a : Option Addr) (cap : Nat), e = .returned (.agg #[.int .i64 x.op, .int .i64 x.num, .string x.name, .slice a x.args.length cap]) ∧ MExpr names d x ∧ ExprRep (hideL H w') x [.int .i64 x.op, .int .i64 x.num, .string x.name, .slice a x.args.length cap]) ∧ Src H S w' ∧ Keep [S] w w'
theorem box4 {B S : Nat} {a b : World} {u0 u1 u2 u3 : Value} (h : a.cell? ⟨B, 0, none⟩ = some u0 ∧ a.cell? ⟨B, 1, none⟩ = some u1 ∧ a.cell? ⟨B, 2, none⟩ = some u2 ∧ a.cell? ⟨B, 3, none⟩ = some u3 ∧ a.frozen? ⟨B, 0, none⟩ = false ∧ a.frozen? ⟨B, 1, none⟩ = false ∧ a.frozen? ⟨B, 2, none⟩ = false ∧ a.frozen? ⟨B, 3, none⟩ = false)
  (hk : Keep [S] a b) (hB : B < a.heap.size) (hn : B ≠ S) :
  b.cell? ⟨B, 0, none⟩ = some u0 ∧ b.cell? ⟨B, 1, none⟩ = some u1 ∧ b.cell? ⟨B, 2, none⟩ = some u2 ∧ b.cell? ⟨B, 3, none⟩ = some u3 ∧ b.frozen? ⟨B, 0, none⟩ = false ∧ b.frozen? ⟨B, 1, none⟩ = false ∧ b.frozen? ⟨B, 2, none⟩ = false ∧ b.frozen? ⟨B, 3, none⟩ = false := by
 have hm : B ∉ [S] := by simpa using hn
 have c := fun o => hk.cell (p := ⟨B, o, none⟩) hB hm
 have f := fun o => hk.frozen (p := ⟨B, o, none⟩) hB hm
 rw [c, c, c, c, f, f, f, f]; exact h
theorem hideL_sub {H H' : List Nat} {w : World} (hs : ∀ x, x ∈ H → x ∈ H') {a : Addr} {u : Value} (h : (hideL H' w).cell? a = some u) : (hideL H w).cell? a = some u := by
 obtain ⟨h1, h2⟩ := hideL_cell h
 rw [hideL_cell_ne H w a (fun hm => h2 (hs _ hm))]; exact h1
theorem rowAt_new {H : List Nat} {w : World} {v : Value} {n : Nat} {cells : List Value} (h : RowAt (hideL H w) v n cells) (o : Obj) : RowAt (hideL (w.heap.size :: H) (w.alloc o)) v n cells := by
 refine h.mono fun a u ha => ?_
 obtain ⟨h1, h2⟩ := hideL_cell ha
 have hl := cell_lt h1
 rw [hideL_cell_ne _ _ _ (by simp only [List.mem_cons, not_or]; exact ⟨by omega, h2⟩)]
 rw [((Below.refl w.heap.size w).alloc (Nat.le_refl _) o).cell hl]; exact h1
theorem Src.new {H : List Nat} {S : Nat} {w : World} (h : Src H S w) (o : Obj) : Src (w.heap.size :: H) S (w.alloc o) := by
 obtain ⟨l, a, cap, i, h1, h2, h3, h4, h5⟩ := h.holds
 have hb := (Below.refl w.heap.size w).alloc (Nat.le_refl _) o
 refine ⟨List.mem_cons_of_mem _ h.mem, by have := h.lt; simp; omega, by rw [hb.frozen h.lt]; exact h.free, l, a, cap, i, by rw [hb.cell h.lt]; exact h1, rowAt_new h2 o, by rw [hb.cell h.lt]; exact h3, h4, h5⟩
theorem Src.drop {H : List Nat} {S B : Nat} {w : World} (h : Src (B :: H) S w) (hm : S ∈ H) : Src H S w := by
 obtain ⟨l, a, cap, i, h1, h2, h3, h4, h5⟩ := h.holds
 exact ⟨hm, h.lt, h.free, l, a, cap, i, h1, h2.mono fun _ _ h => hideL_sub (fun x hx => List.mem_cons_of_mem _ hx) h, h3, h4, h5⟩
theorem exprOk_fin {names : List ByteArray} {d : Nat} {H : List Nat} {S : Nat} {w wk w' : World} {x : AExpr} {a : Option Addr} {cap : Nat} (hm : MExpr names d x) (hs : Src (w.heap.size :: H) S wk) (hS : S ∈ H) (hSl : S < w.heap.size) (hk : Keep [S] w wk)
  (hr : ExprRep (hideL (w.heap.size :: H) wk) x [.int .i64 x.op, .int .i64 x.num, .string x.name, .slice a x.args.length cap]) {e : Ending} (he : e = .returned (.agg #[.int .i64 x.op, .int .i64 x.num, .string x.name, .slice a x.args.length cap])) (hw : Keep [w.heap.size] wk w') : ExprOk names d H S w e w' := by
 have hw2 : Keep (w.heap.size :: H) wk w' := hw.mono (by intro y hy; simp at hy; subst hy; simp)
 refine ⟨⟨x, a, cap, he, hm, ?_⟩, (hs.keep hw (by intro y hy; simp at hy; subst hy; simp) (by simp; omega)).drop hS, ?_⟩
 ·exact ExprRep.mono (fun _ _ h => hideL_sub (fun x hx => List.mem_cons_of_mem _ hx) h) _ (ExprRep.below hw2.hide _ hr)
 ·refine ⟨hw.os.trans hk.os, hw.tape.trans hk.tape, hw.output.trans hk.output, Nat.le_trans hk.size hw.size, fun k hkl hn => ?_⟩
  rw [hw.block k (Nat.lt_of_lt_of_le hkl hk.size) (by simp; omega)]; exact hk.block k hkl hn
theorem exprRep_leaf (w : World) (op num : Int) (name : ByteArray) : ExprRep w (.mk op num name []) [.int .i64 op, .int .i64 num, .string name, .slice none 0 0] :=
 exprRep_iff.2 ⟨_, rfl, ListRep.nil _ _ _⟩
theorem keep4 (B : Nat) (w : World) (u0 u1 u2 u3 : Value) : Keep [B] w ((((w.setCell ⟨B, 0, none⟩ u0).setCell ⟨B, 1, none⟩ u1).setCell ⟨B, 2, none⟩ u2).setCell ⟨B, 3, none⟩ u3) :=
 ((((Keep.refl _ _).setCell (.inl (by simp)) _).setCell (.inl (by simp)) _).setCell (.inl (by simp)) _).setCell (.inl (by simp)) _
theorem box4_alloc {B : Nat} {a : World} {u0 u1 u2 u3 : Value} (h : a.cell? ⟨B, 0, none⟩ = some u0 ∧ a.cell? ⟨B, 1, none⟩ = some u1 ∧ a.cell? ⟨B, 2, none⟩ = some u2 ∧ a.cell? ⟨B, 3, none⟩ = some u3 ∧ a.frozen? ⟨B, 0, none⟩ = false ∧ a.frozen? ⟨B, 1, none⟩ = false ∧ a.frozen? ⟨B, 2, none⟩ = false ∧ a.frozen? ⟨B, 3, none⟩ = false) (hB : B < a.heap.size) (o : Obj) :
  (a.alloc o).cell? ⟨B, 0, none⟩ = some u0 ∧ (a.alloc o).cell? ⟨B, 1, none⟩ = some u1 ∧ (a.alloc o).cell? ⟨B, 2, none⟩ = some u2 ∧ (a.alloc o).cell? ⟨B, 3, none⟩ = some u3 ∧ (a.alloc o).frozen? ⟨B, 0, none⟩ = false ∧ (a.alloc o).frozen? ⟨B, 1, none⟩ = false ∧ (a.alloc o).frozen? ⟨B, 2, none⟩ = false ∧ (a.alloc o).frozen? ⟨B, 3, none⟩ = false := by
 have hb := (Below.refl a.heap.size a).alloc (Nat.le_refl _) o
 have c := fun i => hb.cell (p := ⟨B, i, none⟩) hB
 have f := fun i => hb.frozen (p := ⟨B, i, none⟩) hB
 rw [c, c, c, c, f, f, f, f]; exact h
theorem exprRep_row {H : List Nat} {w : World} (hH : ∀ x, x ∈ H → x < w.heap.size) (op num : Int) (name : ByteArray) (args : List AExpr) (rows : List (List Value)) (T : TypeId) (hl : rows.length = args.length) (hr : ∀ k (h : k < args.length) (h' : k < rows.length), ExprRep (hideL H w) args[k] rows[k]) (cells : Array Value) (hc : cells = rows.flatten.toArray) :
  ExprRep (hideL H (w.alloc (Obj.cells cells T))) (.mk op num name args) [.int .i64 op, .int .i64 num, .string name, .slice (some ⟨w.heap.size, 0, none⟩) args.length args.length] := by
 subst hc
 refine exprRep_iff.2 ⟨_, rfl, rows, RowAt.hide_new H w rows.flatten T _ _ rfl hH, hl, fun k h h' => ?_⟩
 have := hr k h h'
 exact ⟨ExprRep.below ((Keep.refl H w).alloc _).hide _ this, this.len⟩
theorem strRow {w : World} {H : List Nat} {a : Option Addr} {n cap : Nat} {l : List ByteArray} {i : Nat} (h : RowAt (hideL H w) (.slice a n cap) n (l.map .string)) (hi : i < l.length) :
  ∃ b off, a = some ⟨b, off, none⟩ ∧ w.cell? ⟨b, off + i, none⟩ = some (.string l[i]) := by
 obtain ⟨a', cap', he, hc, hr⟩ := h
 cases he
 rcases hr with h0 | ⟨b, off, rfl, hr⟩
 ·exfalso; have := congrArg List.length h0; simp at this; rw [this] at hi; simp at hi
 ·have h1 := hr i (.string l[i]) (by simp [hi])
  exact ⟨b, off, rfl, (hideL_cell h1).1⟩
set_option maxRecDepth 100000 in
set_option maxHeartbeats 8000000 in
theorem mexpr_node (d : Nat) (hd : d ≤ 100) (names : List ByteArray) (v : Value) (H N : List Nat) (S : Nat) (w : World) (h : Src H S w) (hSN : S ∈ N) (hH : ∀ x, x ∈ H → x < w.heap.size) (hv : RowAt (hideL N w) v names.length (names.map .string)) (hl : names.length ≤ 1000000)
  (ih : ∀ d', d = d' + 1 → ∀ (H : List Nat) (v : Value) (w : World), Src H S w → (∀ x, x ∈ H → x < w.heap.size) → RowAt (hideL N w) v names.length (names.map .string) → Calls Tryd.prog 32 #[.pointer (some ⟨S, 0, none⟩), v, .int .i64 d'] w (ExprOk names d' H S w)) :
  Calls Tryd.prog 32 #[.pointer (some ⟨S, 0, none⟩), v, .int .i64 d] w (ExprOk names d H S w) := by
 obtain ⟨va, vc, hve, hvc, hvr⟩ := hv
 subst hve
 have hv : RowAt (hideL N w) (.slice va names.length vc) names.length (names.map .string) := ⟨va, vc, rfl, hvc, hvr⟩
 have hSl := h.lt
 have hne : w.heap.size ≠ S := by omega
 have HS := Lib.hid h
 have HV := Lib.hid hv
 have HH := Lib.hid hH
 have IH := Lib.hid ih
 have HN := Lib.hid hne
 have hk0 := fun o => (Keep.refl [S] w).alloc o
 clear h hv hH ih hne hvr
 go_enter Tryd.func32, Tryd.ntmps32
 go_wp2_with fail
 refine (next_src 10 (w.heap.size :: H) S _ (HS.out.new _) (by omega) (by omega)).mono ?_
 intro e w1 hq
 obtain ⟨k, rfl, h0, h1, hs1, hk1⟩ := Src.next hq
 clear hq
 have hz1 : w.heap.size + 1 ≤ w1.heap.size := by have := hk1.size; simpa using this
 have bx := box4 (B := w.heap.size) (a := w.alloc _) (u0 := .int .i64 0) (u1 := .int .i64 0) (u2 := .string ⟨#[]⟩) (u3 := .slice none 0 0) ⟨by go_simp, by go_simp, by go_simp, by go_simp, by go_simp, by go_simp, by go_simp, by go_simp⟩ hk1 (by simp) HN.out
 have hk1' : Keep [S] w w1 := (hk0 _).trans hk1
 have HS1 := Lib.hid hs1
 have HK1 := Lib.hid hk1'
 have HSN := Lib.hid hSN
 have HV1 := Lib.hid (HV.out.below (hk1'.mono (by intro y hy; simp at hy; subst hy; exact HSN.out)).hide (Nat.le_refl _))
 clear hSN
 clear hs1 hk1 hk1' hk0
 have bx1 := bx
 clear bx
 have hkw : 0 ≤ k := h0
 by_cases hd0 : d = 0
 ·subst hd0
  by_cases hnl : names.length = 0
  ·have hnl' : decide (0 < names.length) = false := by rw [decide_eq_false_iff_not]; omega
   have hnl2 : ¬ 0 < names.length := by omega
   go_wp2_with fail
   refine (number_src (w.heap.size :: H) S _ HS1.out).mono ?_
   intro e w2 hq
   obtain ⟨⟨q, rfl, g0, g1⟩, hs2, hk2⟩ := hq
   have bx2 := box4 bx1 hk2 (by omega) HN.out
   have HS2 := Lib.hid hs2
   have HK2 := Lib.hid (HK1.out.trans hk2)
   have hz2 := Nat.le_trans hz1 hk2.size
   clear bx1 hs2 hk2
   go_wp2_with fail
   refine bodyPost_ret (v := .agg #[.int .i64 1, .int .i64 q, .string ⟨#[]⟩, .slice none 0 0]) (by simp [results, Tryd.results32, go_sem, bx2]) rfl ?_
   exact exprOk_fin (x := .mk 1 q emptyB []) (a := none) (cap := 0) (.num g0 g1) HS2.out HS.out.mem hSl HK2.out (exprRep_leaf _ _ _ _) rfl (by exact keep4 _ _ _ _ _ _)
  ·have hnl' : decide (0 < names.length) = true := by rw [decide_eq_true_iff]; omega
   have hnl2 : 0 < names.length := by omega
   go_wp2_with fail
   refine (next_src 2 (w.heap.size :: H) S _ HS1.out (by omega) (by omega)).mono ?_
   intro e w2 hq
   obtain ⟨r, rfl, r0, r1, hs2, hk2⟩ := Src.next hq
   clear hq
   have bx2 := box4 bx1 hk2 (by omega) HN.out
   have hz2 := Nat.le_trans hz1 hk2.size
   have HS2 := Lib.hid hs2
   have HK2 := Lib.hid (HK1.out.trans hk2)
   have HV2 := Lib.hid (HV1.out.below (hk2.mono (by intro y hy; simp at hy; subst hy; exact HSN.out)).hide (Nat.le_refl _))
   clear bx1 hs2 hk2
   by_cases hr : r = 1
   ·have hb : (r == 1) = true := by simpa using hr
    clear hr
    go_wp2_with fail
    refine (next_src names.length (w.heap.size :: H) S _ HS2.out (by omega) (by omega)).mono ?_
    intro e w3 hq
    obtain ⟨s, rfl, s0, s1, hs3, hk3⟩ := Src.next hq
    clear hq
    have bx3 := box4 bx2 hk3 (by omega) HN.out
    have hz3 := Nat.le_trans hz2 hk3.size
    have HS3 := Lib.hid hs3
    have HK3 := Lib.hid (HK2.out.trans hk3)
    have HV3 := Lib.hid (HV2.out.below (hk3.mono (by intro y hy; simp at hy; subst hy; exact HSN.out)).hide (Nat.le_refl _))
    clear bx2 hs3 hk3
    obtain ⟨j, rfl⟩ : ∃ j : Nat, s = j := ⟨s.toNat, by omega⟩
    have hj : j < names.length := by omega
    obtain ⟨nb, no, rfl, hnc⟩ := strRow (i := j) (w := w3) (H := N) (l := names) (HV3.out) hj
    have hjm := List.getElem_mem hj
    obtain ⟨x, hx⟩ : ∃ x, x = names[j] := ⟨_, rfl⟩
    rw [← hx] at hnc hjm
    clear hx
    go_wp2_with fail
    refine bodyPost_ret (v := .agg #[.int .i64 2, .int .i64 0, .string x, .slice none 0 0]) (by simp [results, Tryd.results32, go_sem, bx3]) rfl ?_
    exact exprOk_fin (x := .mk 2 0 x []) (a := none) (cap := 0) (.name hjm) HS3.out HS.out.mem hSl HK3.out (exprRep_leaf _ _ _ _) rfl (by exact keep4 _ _ _ _ _ _)
   ·have hb : (r == 1) = false := by simpa using hr
    clear hr
    go_wp2_with fail
    refine (number_src (w.heap.size :: H) S _ HS2.out).mono ?_
    intro e w3 hq
    obtain ⟨⟨q, rfl, g0, g1⟩, hs3, hk3⟩ := hq
    have bx3 := box4 bx2 hk3 (by omega) HN.out
    have HS3 := Lib.hid hs3
    have HK3 := Lib.hid (HK2.out.trans hk3)
    have hz3 := Nat.le_trans hz2 hk3.size
    clear bx2 hs3 hk3
    go_wp2_with fail
    refine bodyPost_ret (v := .agg #[.int .i64 1, .int .i64 q, .string ⟨#[]⟩, .slice none 0 0]) (by simp [results, Tryd.results32, go_sem, bx3]) rfl ?_
    exact exprOk_fin (x := .mk 1 q emptyB []) (a := none) (cap := 0) (.num g0 g1) HS3.out HS.out.mem hSl HK3.out (exprRep_leaf _ _ _ _) rfl (by exact keep4 _ _ _ _ _ _)
 ·obtain ⟨d', hdd⟩ : ∃ d', d = d' + 1 := ⟨d - 1, by omega⟩
  have hdb : ((d : Int) == 0) = false := by rw [beq_eq_false_iff_ne]; omega
  by_cases hk2 : k < 2
  ·have hkd : decide (k < 2) = true := by simpa using hk2
   by_cases hnl : names.length = 0
   ·have hnl' : decide (0 < names.length) = false := by rw [decide_eq_false_iff_not]; omega
    have hnl2 : ¬ 0 < names.length := by omega
    go_wp2_with fail
    refine (number_src (w.heap.size :: H) S _ HS1.out).mono ?_
    intro e w2 hq
    obtain ⟨⟨q, rfl, g0, g1⟩, hs2, hk2⟩ := hq
    have bx2 := box4 bx1 hk2 (by omega) HN.out
    have HS2 := Lib.hid hs2
    have HK2 := Lib.hid (HK1.out.trans hk2)
    have hz2 := Nat.le_trans hz1 hk2.size
    clear bx1 hs2 hk2
    go_wp2_with fail
    refine bodyPost_ret (v := .agg #[.int .i64 1, .int .i64 q, .string ⟨#[]⟩, .slice none 0 0]) (by simp [results, Tryd.results32, go_sem, bx2]) rfl ?_
    exact exprOk_fin (x := .mk 1 q emptyB []) (a := none) (cap := 0) (.num g0 g1) HS2.out HS.out.mem hSl HK2.out (exprRep_leaf _ _ _ _) rfl (by exact keep4 _ _ _ _ _ _)
   ·have hnl' : decide (0 < names.length) = true := by rw [decide_eq_true_iff]; omega
    have hnl2 : 0 < names.length := by omega
    go_wp2_with fail
    refine (next_src 2 (w.heap.size :: H) S _ HS1.out (by omega) (by omega)).mono ?_
    intro e w2 hq
    obtain ⟨r, rfl, r0, r1, hs2, hk2⟩ := Src.next hq
    clear hq
    have bx2 := box4 bx1 hk2 (by omega) HN.out
    have hz2 := Nat.le_trans hz1 hk2.size
    have HS2 := Lib.hid hs2
    have HK2 := Lib.hid (HK1.out.trans hk2)
    have HV2 := Lib.hid (HV1.out.below (hk2.mono (by intro y hy; simp at hy; subst hy; exact HSN.out)).hide (Nat.le_refl _))
    clear bx1 hs2 hk2
    by_cases hr : r = 1
    ·have hb : (r == 1) = true := by simpa using hr
     clear hr
     go_wp2_with fail
     refine (next_src names.length (w.heap.size :: H) S _ HS2.out (by omega) (by omega)).mono ?_
     intro e w3 hq
     obtain ⟨s, rfl, s0, s1, hs3, hk3⟩ := Src.next hq
     clear hq
     have bx3 := box4 bx2 hk3 (by omega) HN.out
     have hz3 := Nat.le_trans hz2 hk3.size
     have HS3 := Lib.hid hs3
     have HK3 := Lib.hid (HK2.out.trans hk3)
     have HV3 := Lib.hid (HV2.out.below (hk3.mono (by intro y hy; simp at hy; subst hy; exact HSN.out)).hide (Nat.le_refl _))
     clear bx2 hs3 hk3
     obtain ⟨j, rfl⟩ : ∃ j : Nat, s = j := ⟨s.toNat, by omega⟩
     have hj : j < names.length := by omega
     obtain ⟨nb, no, rfl, hnc⟩ := strRow (i := j) (w := w3) (H := N) (l := names) (HV3.out) hj
     have hjm := List.getElem_mem hj
     obtain ⟨x, hx⟩ : ∃ x, x = names[j] := ⟨_, rfl⟩
     rw [← hx] at hnc hjm
     clear hx
     go_wp2_with fail
     refine bodyPost_ret (v := .agg #[.int .i64 2, .int .i64 0, .string x, .slice none 0 0]) (by simp [results, Tryd.results32, go_sem, bx3]) rfl ?_
     exact exprOk_fin (x := .mk 2 0 x []) (a := none) (cap := 0) (.name hjm) HS3.out HS.out.mem hSl HK3.out (exprRep_leaf _ _ _ _) rfl (by exact keep4 _ _ _ _ _ _)
    ·have hb : (r == 1) = false := by simpa using hr
     clear hr
     go_wp2_with fail
     refine (number_src (w.heap.size :: H) S _ HS2.out).mono ?_
     intro e w3 hq
     obtain ⟨⟨q, rfl, g0, g1⟩, hs3, hk3⟩ := hq
     have bx3 := box4 bx2 hk3 (by omega) HN.out
     have HS3 := Lib.hid hs3
     have HK3 := Lib.hid (HK2.out.trans hk3)
     have hz3 := Nat.le_trans hz2 hk3.size
     clear bx2 hs3 hk3
     go_wp2_with fail
     refine bodyPost_ret (v := .agg #[.int .i64 1, .int .i64 q, .string ⟨#[]⟩, .slice none 0 0]) (by simp [results, Tryd.results32, go_sem, bx3]) rfl ?_
     exact exprOk_fin (x := .mk 1 q emptyB []) (a := none) (cap := 0) (.num g0 g1) HS3.out HS.out.mem hSl HK3.out (exprRep_leaf _ _ _ _) rfl (by exact keep4 _ _ _ _ _ _)
  ·have hkd : decide (k < 2) = false := by simpa using hk2
   by_cases hk4 : k < 4
   ·have hkd4 : decide (k < 4) = true := by simpa using hk4
    have ho : ((3 : Int) + k % 2 = 3 ∨ (3 : Int) + k % 2 = 4) := by omega
    have hde : (d : Int) - 1 = d' := by omega
    have HDD := Lib.hid hdd
    have hdle : 1 ≤ d := by omega
    clear hdd
    have hcd : d' ≤ 100 := by omega
    go_wp2_with fail
    (try rw [hde])
    refine (IH.out d' HDD.out (w.heap.size :: H) _ _ HS1.out (fun x hx => by rcases List.mem_cons.1 hx with rfl | hx; omega; have := HH.out x hx; omega) HV1.out).mono ?_
    intro e w2 hq
    obtain ⟨⟨x, xa, xc, rfl, xm, xr⟩, hs2, hk2⟩ := hq
    have bx2 := box4 bx1 hk2 (by omega) HN.out
    have hz2 := Nat.le_trans hz1 hk2.size
    have HS2 := Lib.hid hs2
    have HK2 := Lib.hid (HK1.out.trans hk2)
    have L2 := Lib.hid hk2
    have xR := Lib.hid xr
    have xM := Lib.hid xm
    have HV2 := Lib.hid (HV1.out.below (hk2.mono (by intro y hy; simp at hy; subst hy; exact HSN.out)).hide (Nat.le_refl _))
    clear bx1 hs2 hk2 xr xm
    have bz := box4_alloc bx2 (by omega)
    go_wp2_with fail
    refine bodyPost_ret (v := .agg #[.int .i64 (3 + k % 2), .int .i64 0, .string ⟨#[]⟩, .slice (some ⟨w2.heap.size, 0, none⟩) 1 1]) (by simp [results, Tryd.results32, go_sem, bz]) rfl ?_
    rw [HDD.out]
    exact exprOk_fin (wk := w2.alloc (.cells #[.int .i64 x.op, .int .i64 x.num, .string x.name, .slice xa x.args.length xc] 34)) (x := .mk (3 + k % 2) 0 emptyB [x]) (a := some ⟨w2.heap.size, 0, none⟩) (cap := 1) (.un ho xM.out) (HS2.out.below ((Below.refl _ _).alloc (Nat.le_refl _) _)) HS.out.mem hSl (HK2.out.alloc _) (exprRep_row (fun y hy => by rcases List.mem_cons.1 hy with rfl | hy; omega; have := HH.out y hy; omega) _ _ _ [x] [[.int .i64 x.op, .int .i64 x.num, .string x.name, .slice xa x.args.length xc]] _ rfl (fun k h h' => by obtain rfl : k = 0 := (by simpa using h); exact xR.out) _ rfl) rfl (by exact keep4 _ _ _ _ _ _)
   ·have hkd4 : decide (k < 4) = false := by simpa using hk4
    have hde : (d : Int) - 1 = d' := by omega
    have HDD := Lib.hid hdd
    have hdle : 1 ≤ d := by omega
    clear hdd
    have hcd : d' ≤ 100 := by omega
    go_wp2_with fail
    refine (next_src 13 (w.heap.size :: H) S _ HS1.out (by omega) (by omega)).mono ?_
    intro e w2 hq
    obtain ⟨r, rfl, r0, r1, hs2, hk2⟩ := Src.next hq
    clear hq
    have bx2 := box4 bx1 hk2 (by omega) HN.out
    have hz2 := Nat.le_trans hz1 hk2.size
    have HS2 := Lib.hid hs2
    have HK2 := Lib.hid (HK1.out.trans hk2)
    have HV2 := Lib.hid (HV1.out.below (hk2.mono (by intro y hy; simp at hy; subst hy; exact HSN.out)).hide (Nat.le_refl _))
    clear bx1 hs2 hk2
    go_wp2_with fail
    (try rw [hde])
    refine (IH.out d' HDD.out (w.heap.size :: H) _ _ HS2.out (fun x hx => by rcases List.mem_cons.1 hx with rfl | hx; omega; have := HH.out x hx; omega) HV2.out).mono ?_
    intro e w3 hq
    obtain ⟨⟨x, xa, xc, rfl, xm, xr⟩, hs3, hk3⟩ := hq
    have bx3 := box4 bx2 hk3 (by omega) HN.out
    have hz3 := Nat.le_trans hz2 hk3.size
    have HS3 := Lib.hid hs3
    have HK3 := Lib.hid (HK2.out.trans hk3)
    have L3 := Lib.hid hk3
    have xR := Lib.hid xr
    have xM := Lib.hid xm
    have HV3 := Lib.hid (HV2.out.below (hk3.mono (by intro y hy; simp at hy; subst hy; exact HSN.out)).hide (Nat.le_refl _))
    clear bx2 hs3 hk3 xr xm
    skip
    go_wp2_with fail
    (try rw [hde])
    refine (IH.out d' HDD.out (w.heap.size :: H) _ _ HS3.out (fun x hx => by rcases List.mem_cons.1 hx with rfl | hx; omega; have := HH.out x hx; omega) HV3.out).mono ?_
    intro e w4 hq
    obtain ⟨⟨y, ya, yc, rfl, ym, yr⟩, hs4, hk4⟩ := hq
    have bx4 := box4 bx3 hk4 (by omega) HN.out
    have hz4 := Nat.le_trans hz3 hk4.size
    have HS4 := Lib.hid hs4
    have HK4 := Lib.hid (HK3.out.trans hk4)
    have L4 := Lib.hid hk4
    have yR := Lib.hid yr
    have yM := Lib.hid ym
    have HV4 := Lib.hid (HV3.out.below (hk4.mono (by intro y hy; simp at hy; subst hy; exact HSN.out)).hide (Nat.le_refl _))
    clear bx3 hs4 hk4 yr ym
    have HX4 := Lib.hid (ExprRep.below (L4.out.mono (H' := w.heap.size :: H) (by intro y hy; simp at hy; subst hy; simp [HS.out.mem])).hide _ xR.out)
    have bz := box4_alloc bx4 (by omega)
    go_wp2_with fail
    refine bodyPost_ret (v := .agg #[.int .i64 (5 + r), .int .i64 0, .string ⟨#[]⟩, .slice (some ⟨w4.heap.size, 0, none⟩) 2 2]) (by simp [results, Tryd.results32, go_sem, bz]) rfl ?_
    rw [HDD.out]
    exact exprOk_fin (wk := w4.alloc (.cells #[.int .i64 x.op, .int .i64 x.num, .string x.name, .slice xa x.args.length xc, .int .i64 y.op, .int .i64 y.num, .string y.name, .slice ya y.args.length yc] 34)) (x := .mk (5 + r) 0 emptyB [x, y]) (a := some ⟨w4.heap.size, 0, none⟩) (cap := 2) (.bin (by omega) (by omega) xM.out yM.out) (HS4.out.below ((Below.refl _ _).alloc (Nat.le_refl _) _)) HS.out.mem hSl (HK4.out.alloc _) (exprRep_row (fun y hy => by rcases List.mem_cons.1 hy with rfl | hy; omega; have := HH.out y hy; omega) _ _ _ [x, y] [[.int .i64 x.op, .int .i64 x.num, .string x.name, .slice xa x.args.length xc], [.int .i64 y.op, .int .i64 y.num, .string y.name, .slice ya y.args.length yc]] _ rfl (fun k h h' => by rcases (show k = 0 ∨ k = 1 by simp at h; omega) with rfl | rfl; exact HX4.out; exact yR.out) _ rfl) rfl (by exact keep4 _ _ _ _ _ _)
theorem mexpr_any : ∀ (d : Nat), d ≤ 100 → ∀ (names : List ByteArray), names.length ≤ 1000000 → ∀ (H N : List Nat) (S : Nat) (v : Value) (w : World), Src H S w → S ∈ N → (∀ x, x ∈ H → x < w.heap.size) → RowAt (hideL N w) v names.length (names.map .string) →
  Calls Tryd.prog 32 #[.pointer (some ⟨S, 0, none⟩), v, .int .i64 d] w (ExprOk names d H S w)
 | 0, hd, names, hl, H, N, S, v, w, h, hN, hH, hv => mexpr_node 0 hd names v H N S w h hN hH hv hl fun d' hd' => by omega
 | d + 1, hd, names, hl, H, N, S, v, w, h, hN, hH, hv => mexpr_node (d + 1) hd names v H N S w h hN hH hv hl fun d' hd' H' v' w' h' hH' hv' => by
  obtain rfl : d = d' := by omega
  exact mexpr_any d (by omega) names hl H' N S v' w' h' hN hH' hv'
end Go.Proofs.YtiimofjemiffgaaDoor
