import Derived.Test.YtlbocidcjmehfaaDoorText5J
import Derived.BigGuardPart
import Derived.BigCall
set_option linter.unusedVariables false
set_option linter.unusedSimpArgs false
namespace Go.Proofs.YtlbocidcjmehfaaDoor
open Go.RowKit
mutual
theorem tame_small : ∀ (e : AExpr), e.tame → e.small
 | .mk op num name args, h => by
  rw [AExpr.tame] at h; rw [AExpr.small]
  exact ⟨Nat.le_trans h.2.1 (by decide), tameL_small args h.2.2⟩
theorem tameL_small : ∀ (l : List AExpr), tameL l → smallL l
 | [], _ => by rw [smallL]; trivial
 | e :: es, h => by rw [tameL] at h; rw [smallL]; exact ⟨tame_small e h.1, tameL_small es h.2⟩
end
theorem nameB_size {s : ByteArray} (h : nameB s = true) : s.size ≤ 16 := by
 unfold nameB at h
 split at h
 ·cases h
 ·simp only [Bool.and_eq_true, decide_eq_true_eq] at h; exact h.1.2
theorem rname_true (s : ByteArray) (w : World) (h : nameB s = true) :
  Calls Tryd.prog 84 #[.string s] w fun e w' => e = .returned (.bool true) ∧ Below w.heap.size w w' := by
 have := rname_any s w (Nat.le_trans (nameB_size h) (by decide)); rw [h] at this; exact this
theorem validExpr_true (e : AExpr) (cs : List Value) (w : World) (hf : e.fine) (hr : ExprRep w e cs) (h : validExpr e = true) :
  Calls Tryd.prog 117 #[.agg cs.toArray] w fun r w' => r = .returned (.bool true) ∧ Below w.heap.size w w' := by
 have := validExpr_any e cs w hf.1 (tame_small e hf.2.1) hr; rw [h] at this; exact this
theorem noExpr_true (e : AExpr) (cs : List Value) (w : World) (hr : ExprRep w e cs) (h : noExprB e = true) :
  Calls Tryd.prog 118 #[.agg cs.toArray] w fun r w' => r = .returned (.bool true) ∧ Below w.heap.size w w' := by
 have := noExpr_any e cs w hr; rw [h] at this; exact this
theorem noRef_true (e : ARef) (cs : List Value) (w : World) (hr : RefRep w e cs) (h : noRefB e = true) :
  Calls Tryd.prog 120 #[.agg cs.toArray] w fun r w' => r = .returned (.bool true) ∧ Below w.heap.size w w' := by
 have := noRef_any e cs w hr; rw [h] at this; exact this
theorem okRef_true (r : ARef) (cs : List Value) (w : World) (hf : r.fine) (hr : RefRep w r cs) (h : okRefB r = true) :
  Calls Tryd.prog 119 #[.agg cs.toArray] w fun r w' => r = .returned (.bool true) ∧ Below w.heap.size w w' := by
 have hn : nodesL r.index ≤ 1000000 ∧ smallL r.index := by
  obtain ⟨name, index⟩ := r
  rw [okRefB, Bool.and_eq_true] at h
  dsimp only at h ⊢
  match index, h, hf with
  | [], _, _ => exact ⟨by simp [nodesL], by simp [smallL]⟩
  | [e], _, hf =>
   have := hf.2 e (by simp)
   exact ⟨by have h2 := this.2; simp only [nodesL]; omega, by simp only [smallL]; exact ⟨tame_small e this.1.2.1, trivial⟩⟩
 have := okRef_any r cs w (Nat.le_trans hf.1 (by decide)) hn.1 hn.2 hr; rw [h] at this; exact this
theorem okStmtsB_deep (deep : Nat) : ∀ (l : List AStmt), okStmtsB deep l = true → deep < 24
 | [], h => by rw [okStmtsB] at h; simpa using h
 | s :: r, h => by rw [okStmtsB, Bool.and_eq_true] at h; exact okStmtsB_deep deep r h.2
theorem okStmtsB_get (deep : Nat) : ∀ (l : List AStmt), okStmtsB deep l = true → ∀ k (h : k < l.length), okStmtB deep l[k] = true
 | [], _, k, h => by simp at h
 | s :: r, hs, 0, h => by rw [okStmtsB, Bool.and_eq_true] at hs; exact hs.1
 | s :: r, hs, k + 1, h => by rw [okStmtsB, Bool.and_eq_true] at hs; exact okStmtsB_get deep r hs.2 k (by simpa using h)
theorem cells11 {a b : World} {p0 p1 p2 p3 p4 p5 p6 p7 p8 p9 p10 : Addr} {u0 u1 u2 u3 u4 u5 u6 u7 u8 u9 u10 : Value} (h : a.cell? p0 = some u0 ∧ a.cell? p1 = some u1 ∧ a.cell? p2 = some u2 ∧ a.cell? p3 = some u3 ∧ a.cell? p4 = some u4 ∧ a.cell? p5 = some u5 ∧ a.cell? p6 = some u6 ∧ a.cell? p7 = some u7 ∧ a.cell? p8 = some u8 ∧ a.cell? p9 = some u9 ∧ a.cell? p10 = some u10) (hb : Below a.heap.size a b) :
  b.cell? p0 = some u0 ∧ b.cell? p1 = some u1 ∧ b.cell? p2 = some u2 ∧ b.cell? p3 = some u3 ∧ b.cell? p4 = some u4 ∧ b.cell? p5 = some u5 ∧ b.cell? p6 = some u6 ∧ b.cell? p7 = some u7 ∧ b.cell? p8 = some u8 ∧ b.cell? p9 = some u9 ∧ b.cell? p10 = some u10 :=
 ⟨cell_step h.1 hb, cell_step h.2.1 hb, cell_step h.2.2.1 hb, cell_step h.2.2.2.1 hb, cell_step h.2.2.2.2.1 hb, cell_step h.2.2.2.2.2.1 hb, cell_step h.2.2.2.2.2.2.1 hb, cell_step h.2.2.2.2.2.2.2.1 hb, cell_step h.2.2.2.2.2.2.2.2.1 hb, cell_step h.2.2.2.2.2.2.2.2.2.1 hb, cell_step h.2.2.2.2.2.2.2.2.2.2 hb⟩
theorem countL_long : ∀ (l : List AStmt), l.length ≤ countL l
 | [] => by simp
 | .mk k n e r a t el :: rest => by
  have := countL_long rest
  rw [countL, AStmt.count, List.length_cons]; omega
theorem cells7 {A B : World} {p0 p1 p2 p3 p4 p5 p6 : Addr} {u0 u1 u2 u3 u4 u5 u6 : Value} (h : A.cell? p0 = some u0 ∧ A.cell? p1 = some u1 ∧ A.cell? p2 = some u2 ∧ A.cell? p3 = some u3 ∧ A.cell? p4 = some u4 ∧ A.cell? p5 = some u5 ∧ A.cell? p6 = some u6) (hb : Below A.heap.size A B) :
  B.cell? p0 = some u0 ∧ B.cell? p1 = some u1 ∧ B.cell? p2 = some u2 ∧ B.cell? p3 = some u3 ∧ B.cell? p4 = some u4 ∧ B.cell? p5 = some u5 ∧ B.cell? p6 = some u6 :=
 ⟨cell_step h.1 hb, cell_step h.2.1 hb, cell_step h.2.2.1 hb, cell_step h.2.2.2.1 hb, cell_step h.2.2.2.2.1 hb, cell_step h.2.2.2.2.2.1 hb, cell_step h.2.2.2.2.2.2 hb⟩
def osR (w : World) (n : Nat) (v : Value) (wr : World) : Prop := ∃ k : Nat, v = .int .i64 k ∧ k ≤ n ∧ Below w.heap.size w wr
def oaR (W : World) (n : Nat) (C : World → Prop) (v : Value) (wr : World) : Prop := ∃ j : Nat, v = .int .i64 j ∧ j ≤ n ∧ Below W.heap.size W wr ∧ C wr
theorem argRow2 {w : World} {a : AArg} {row : List Value} (h : ArgRep w a row) : ∃ ra rc xa xc, row = [.bool a.mutex, .string a.ref.name, .slice ra a.ref.index.length rc, .int .i64 a.expr.op, .int .i64 a.expr.num, .string a.expr.name, .slice xa a.expr.args.length xc] ∧
  RefRep w a.ref [.string a.ref.name, .slice ra a.ref.index.length rc] ∧ ExprRep w a.expr [.int .i64 a.expr.op, .int .i64 a.expr.num, .string a.expr.name, .slice xa a.expr.args.length xc] := by
 obtain ⟨cr, ce, rfl, h1, h2⟩ := h
 have h1' := h1
 obtain ⟨v, rfl, hv⟩ := h1
 obtain ⟨ra, rc, rfl, _⟩ := hv.slice
 have h2' := h2
 obtain ⟨v2, rfl, hv2⟩ := exprRep_op h2
 obtain ⟨xa, xc, rfl, _⟩ := hv2.slice
 exact ⟨ra, rc, xa, xc, rfl, h1', h2'⟩
set_option maxRecDepth 100000 in
set_option maxHeartbeats 32000000 in
theorem okStmts_node (l : List AStmt) (deep : Nat) (z : Int) (hz : z = deep) (v : Value) (w : World) (hf : fineL l) (hk : okStmtsB deep l = true) (hcnt : countL l ≤ 100000000000000) (hv : ListRep w (StmtRep w) 11 v l)
  (ih : ∀ k (hk : k < l.length) (m : List AStmt), countL m < l[k].count → fineL m → okStmtsB (deep + 1) m = true → ∀ (v' : Value) (w' : World), ListRep w' (StmtRep w') 11 v' m → Calls Tryd.prog 85 #[v', .int .i64 ((deep : Int) + 1)] w' fun e w'' => e = .returned (.bool true) ∧ Below w'.heap.size w' w'') :
  Calls Tryd.prog 85 #[v, .int .i64 z] w fun e w' => e = .returned (.bool true) ∧ Below w.heap.size w w' := by
 subst hz
 obtain ⟨a, cap, rfl, hc⟩ := hv.slice
 have hdp := okStmtsB_deep deep l hk
 have hlen := countL_long l
 have hdp' : (deep : Int) < 24 := by omega
 have HF := Lib.hid hf
 have HK := Lib.hid hk
 have IH := Lib.hid ih
 clear hf ih hk
 go_enter Tryd.func85, Tryd.ntmps85
 go_wp2_with fail
 go_loopw [5] (fun v wr => osR w l.length v wr) (fun v _ => l.length - (intOf v).toNat)
 case atStart => exact ⟨0, rfl, by omega, Below.refl _ _⟩
 case round =>
  obtain ⟨k, rfl, hk, hbel⟩ := hrel
  by_cases hlt : k < l.length
  ·have hlt' : (k : Int) < l.length := by omega
   have hv' := hv.below hbel fun a cs _ h => StmtRep.below hbel _ h
   obtain ⟨b, off, cap', row, hsl, hc', hR, hrow, hblt, hcells⟩ := hv'.get (by omega) hlt
   cases hsl
   have hfa := fineL_get l HF.out k hlt
   have hok := okStmtsB_get deep l HK.out k hlt
   have IH2 := Lib.hid (IH.out k hlt)
   generalize hsk : l[k] = s at hR hfa hok IH2
   obtain ⟨kind, name, e, r, args, thn, els⟩ := s
   obtain ⟨xa, xc, ra, rc, aa, ac, sa, sc, la, lc, rfl, hRe, hRr, hRa, hRt, hRl⟩ := stmtRow hR
   have d0 := hcells 0 _ rfl
   have d1 := hcells 1 _ rfl
   have d2 := hcells 2 _ rfl
   have d3 := hcells 3 _ rfl
   have d4 := hcells 4 _ rfl
   have d5 := hcells 5 _ rfl
   have d6 := hcells 6 _ rfl
   have d7 := hcells 7 _ rfl
   have d8 := hcells 8 _ rfl
   have d9 := hcells 9 _ rfl
   have d10 := hcells 10 _ rfl
   rw [Nat.add_zero] at d0
   rw [AStmt.fine] at hfa
   obtain ⟨hfe, hfg, hfr, hfb⟩ := hfa
   rw [okStmtB] at hok
   simp only [Bool.and_eq_true] at hok
   obtain ⟨⟨⟨⟨⟨⟨⟨ho0, ho1⟩, ho2⟩, ho3⟩, ho4⟩, ho5⟩, ho6⟩, ho7⟩ := hok
   have HV := Lib.hid hv
   have HSK := Lib.hid hsk
   clear hcells hR hrow hv' hv hsk
   by_cases hk1 : kind = 1
   ·as_aux_lemma =>
     subst hk1
     rw [if_pos (by decide)] at ho1
     rw [if_pos (by decide)] at ho2
     rw [if_neg (by decide)] at ho3
     rw [if_neg (by decide), decide_eq_true_eq] at ho6
     have hargs : args = [] := by have h := ho4; rw [show decide ((1 : Int) = 3 ∨ (1 : Int) = 4) = false from by decide, Bool.false_or, decide_eq_true_eq] at h; exact List.eq_nil_of_length_eq_zero h
     subst hargs
     have hthn : thn = [] := List.eq_nil_of_length_eq_zero ho6
     subst hthn
     have hels : els = [] := by have h := ho7; rw [show decide ((1 : Int) = 7) = false from by decide, Bool.false_and, Bool.or_false, decide_eq_true_eq] at h; exact List.eq_nil_of_length_eq_zero h
     subst hels
     simp only [List.length_nil] at d8 d9 d10 hRa hRt hRl
     have VN := Lib.hid (fun w' => rname_true name w' ho1)
     have VE := Lib.hid (fun w' (hb : Below wr.heap.size wr w') => validExpr_true e _ w' (hfe (by decide)) (ExprRep.below hb _ hRe) ho2)
     have VR := Lib.hid (fun w' (hb : Below wr.heap.size wr w') => noRef_true r _ w' (RefRep.below hb hRr) ho3)
     clear hfe hfg hfr hfb hRe hRr hRa hRt hRl ho0 ho2 ho3 ho4 ho5 ho7 ho1
     go_wp2_with (first
      | (go_at_call 84; ((with_reducible refine (VN.out _).mono ?_); rintro e w1 ⟨rfl, hb1⟩; have hB1 : Below wr.heap.size wr w1 := Below.step (by go_grown) hb1; have hC1 : w1.cell? ⟨wr.heap.size, 0, none⟩ = some (.int .i64 1) ∧ w1.cell? ⟨wr.heap.size, 1, none⟩ = some (.string name) ∧ w1.cell? ⟨wr.heap.size, 2, none⟩ = some (.int .i64 e.op) ∧ w1.cell? ⟨wr.heap.size, 3, none⟩ = some (.int .i64 e.num) ∧ w1.cell? ⟨wr.heap.size, 4, none⟩ = some (.string e.name) ∧ w1.cell? ⟨wr.heap.size, 5, none⟩ = some (.slice xa e.args.length xc) ∧ w1.cell? ⟨wr.heap.size, 6, none⟩ = some (.string r.name) ∧ w1.cell? ⟨wr.heap.size, 7, none⟩ = some (.slice ra r.index.length rc) ∧ w1.cell? ⟨wr.heap.size, 8, none⟩ = some (.slice aa 0 ac) ∧ w1.cell? ⟨wr.heap.size, 9, none⟩ = some (.slice sa 0 sc) ∧ w1.cell? ⟨wr.heap.size, 10, none⟩ = some (.slice la 0 lc) := cells11 ⟨by go_simp, by go_simp, by go_simp, by go_simp, by go_simp, by go_simp, by go_simp, by go_simp, by go_simp, by go_simp, by go_simp⟩ hb1; clear d0 d1 d2 d3 d4 d5 d6 d7 d8 d9 d10))
      | (go_at_call 117; ((with_reducible refine (VE.out _ (by first | assumption | go_grown)).mono ?_); rintro e w2 ⟨rfl, hb2⟩; have hB2 : Below wr.heap.size wr w2 := Below.step hB1 hb2; have hC2 := cells11 hC1 hb2; clear hC1 hb1))
      | (go_at_call 120; ((with_reducible refine (VR.out _ (by first | assumption | go_grown)).mono ?_); rintro e w3 ⟨rfl, hb3⟩; have hB3 : Below wr.heap.size wr w3 := Below.step hB2 hb3; have hC3 := cells11 hC2 hb3; clear hC2 hb2)))
     refine wp_loop_once ?_
     go_wp2_with fail
     go_roundw
     case rel => exact ⟨k + 1, by go_num, by omega, hbel.trans (hB3.mono hbel.size)⟩
     case measure => simp [intOf]; omega
   by_cases hk2 : kind = 2
   ·as_aux_lemma =>
     subst hk2
     rw [if_pos (by decide)] at ho1
     rw [if_pos (by decide)] at ho2
     rw [if_neg (by decide)] at ho3
     rw [if_neg (by decide), decide_eq_true_eq] at ho6
     have hargs : args = [] := by have h := ho4; rw [show decide ((2 : Int) = 3 ∨ (2 : Int) = 4) = false from by decide, Bool.false_or, decide_eq_true_eq] at h; exact List.eq_nil_of_length_eq_zero h
     subst hargs
     have hthn : thn = [] := List.eq_nil_of_length_eq_zero ho6
     subst hthn
     have hels : els = [] := by have h := ho7; rw [show decide ((2 : Int) = 7) = false from by decide, Bool.false_and, Bool.or_false, decide_eq_true_eq] at h; exact List.eq_nil_of_length_eq_zero h
     subst hels
     simp only [List.length_nil] at d8 d9 d10 hRa hRt hRl
     have VN := Lib.hid (fun w' => rname_true name w' ho1)
     have VE := Lib.hid (fun w' (hb : Below wr.heap.size wr w') => validExpr_true e _ w' (hfe (by decide)) (ExprRep.below hb _ hRe) ho2)
     have VR := Lib.hid (fun w' (hb : Below wr.heap.size wr w') => noRef_true r _ w' (RefRep.below hb hRr) ho3)
     clear hfe hfg hfr hfb hRe hRr hRa hRt hRl ho0 ho2 ho3 ho4 ho5 ho7 ho1
     go_wp2_with (first
      | (go_at_call 84; ((with_reducible refine (VN.out _).mono ?_); rintro e w1 ⟨rfl, hb1⟩; have hB1 : Below wr.heap.size wr w1 := Below.step (by go_grown) hb1; have hC1 : w1.cell? ⟨wr.heap.size, 0, none⟩ = some (.int .i64 2) ∧ w1.cell? ⟨wr.heap.size, 1, none⟩ = some (.string name) ∧ w1.cell? ⟨wr.heap.size, 2, none⟩ = some (.int .i64 e.op) ∧ w1.cell? ⟨wr.heap.size, 3, none⟩ = some (.int .i64 e.num) ∧ w1.cell? ⟨wr.heap.size, 4, none⟩ = some (.string e.name) ∧ w1.cell? ⟨wr.heap.size, 5, none⟩ = some (.slice xa e.args.length xc) ∧ w1.cell? ⟨wr.heap.size, 6, none⟩ = some (.string r.name) ∧ w1.cell? ⟨wr.heap.size, 7, none⟩ = some (.slice ra r.index.length rc) ∧ w1.cell? ⟨wr.heap.size, 8, none⟩ = some (.slice aa 0 ac) ∧ w1.cell? ⟨wr.heap.size, 9, none⟩ = some (.slice sa 0 sc) ∧ w1.cell? ⟨wr.heap.size, 10, none⟩ = some (.slice la 0 lc) := cells11 ⟨by go_simp, by go_simp, by go_simp, by go_simp, by go_simp, by go_simp, by go_simp, by go_simp, by go_simp, by go_simp, by go_simp⟩ hb1; clear d0 d1 d2 d3 d4 d5 d6 d7 d8 d9 d10))
      | (go_at_call 117; ((with_reducible refine (VE.out _ (by first | assumption | go_grown)).mono ?_); rintro e w2 ⟨rfl, hb2⟩; have hB2 : Below wr.heap.size wr w2 := Below.step hB1 hb2; have hC2 := cells11 hC1 hb2; clear hC1 hb1))
      | (go_at_call 120; ((with_reducible refine (VR.out _ (by first | assumption | go_grown)).mono ?_); rintro e w3 ⟨rfl, hb3⟩; have hB3 : Below wr.heap.size wr w3 := Below.step hB2 hb3; have hC3 := cells11 hC2 hb3; clear hC2 hb2)))
     refine wp_loop_once ?_
     go_wp2_with fail
     go_roundw
     case rel => exact ⟨k + 1, by go_num, by omega, hbel.trans (hB3.mono hbel.size)⟩
     case measure => simp [intOf]; omega
   by_cases hk3 : kind = 3
   ·as_aux_lemma =>
     subst hk3
     rw [if_pos (by decide)] at ho1
     rw [if_neg (by decide)] at ho2
     rw [if_neg (by decide)] at ho3
     rw [if_neg (by decide), decide_eq_true_eq] at ho6
     have hthn : thn = [] := List.eq_nil_of_length_eq_zero ho6
     subst hthn
     have hels : els = [] := by have h := ho7; rw [show decide ((3 : Int) = 7) = false from by decide, Bool.false_and, Bool.or_false, decide_eq_true_eq] at h; exact List.eq_nil_of_length_eq_zero h
     subst hels
     simp only [List.length_nil] at d8 d9 d10 hRa hRt hRl
     have VN := Lib.hid (fun w' => rname_true name w' ho1)
     have VE := Lib.hid (fun w' (hb : Below wr.heap.size wr w') => noExpr_true e _ w' (ExprRep.below hb _ hRe) ho2)
     have VR := Lib.hid (fun w' (hb : Below wr.heap.size wr w') => noRef_true r _ w' (RefRep.below hb hRr) ho3)
     have VA := Lib.hid (fun w' (hb : Below wr.heap.size wr w') => hRa.below hb fun a cs _ h => ArgRep.below hb h)
     have HFG := Lib.hid (hfg (by decide))
     have HO5 := Lib.hid ho5
     clear hfe hfg hfr hfb hRe hRr hRa hRt hRl ho0 ho2 ho3 ho4 ho5 ho7 ho1
     go_wp2_with (first
      | (go_at_call 84; ((with_reducible refine (VN.out _).mono ?_); rintro e w1 ⟨rfl, hb1⟩; have hB1 : Below wr.heap.size wr w1 := Below.step (by go_grown) hb1; have hC1 : w1.cell? ⟨wr.heap.size, 0, none⟩ = some (.int .i64 3) ∧ w1.cell? ⟨wr.heap.size, 1, none⟩ = some (.string name) ∧ w1.cell? ⟨wr.heap.size, 2, none⟩ = some (.int .i64 e.op) ∧ w1.cell? ⟨wr.heap.size, 3, none⟩ = some (.int .i64 e.num) ∧ w1.cell? ⟨wr.heap.size, 4, none⟩ = some (.string e.name) ∧ w1.cell? ⟨wr.heap.size, 5, none⟩ = some (.slice xa e.args.length xc) ∧ w1.cell? ⟨wr.heap.size, 6, none⟩ = some (.string r.name) ∧ w1.cell? ⟨wr.heap.size, 7, none⟩ = some (.slice ra r.index.length rc) ∧ w1.cell? ⟨wr.heap.size, 8, none⟩ = some (.slice aa args.length ac) ∧ w1.cell? ⟨wr.heap.size, 9, none⟩ = some (.slice sa 0 sc) ∧ w1.cell? ⟨wr.heap.size, 10, none⟩ = some (.slice la 0 lc) := cells11 ⟨by go_simp, by go_simp, by go_simp, by go_simp, by go_simp, by go_simp, by go_simp, by go_simp, by go_simp, by go_simp, by go_simp⟩ hb1; clear d0 d1 d2 d3 d4 d5 d6 d7 d8 d9 d10))
      | (go_at_call 118; ((with_reducible refine (VE.out _ (by first | assumption | go_grown)).mono ?_); rintro e w2 ⟨rfl, hb2⟩; have hB2 : Below wr.heap.size wr w2 := Below.step hB1 hb2; have hC2 := cells11 hC1 hb2; clear hC1 hb1))
      | (go_at_call 120; ((with_reducible refine (VR.out _ (by first | assumption | go_grown)).mono ?_); rintro e w3 ⟨rfl, hb3⟩; have hB3 : Below wr.heap.size wr w3 := Below.step hB2 hb3; have hC3 := cells11 hC2 hb3; clear hC2 hb2)))
     obtain ⟨wo, rfl⟩ : ∃ wo : World, wo = wr := ⟨_, rfl⟩
     go_loopw [12] (fun v wr' => oaR wo args.length (fun W' => W'.cell? ⟨wo.heap.size, 0, none⟩ = some (.int .i64 3) ∧ W'.cell? ⟨wo.heap.size, 1, none⟩ = some (.string name) ∧ W'.cell? ⟨wo.heap.size, 2, none⟩ = some (.int .i64 e.op) ∧ W'.cell? ⟨wo.heap.size, 3, none⟩ = some (.int .i64 e.num) ∧ W'.cell? ⟨wo.heap.size, 4, none⟩ = some (.string e.name) ∧ W'.cell? ⟨wo.heap.size, 5, none⟩ = some (.slice xa e.args.length xc) ∧ W'.cell? ⟨wo.heap.size, 6, none⟩ = some (.string r.name) ∧ W'.cell? ⟨wo.heap.size, 7, none⟩ = some (.slice ra r.index.length rc) ∧ W'.cell? ⟨wo.heap.size, 8, none⟩ = some (.slice aa args.length ac) ∧ W'.cell? ⟨wo.heap.size, 9, none⟩ = some (.slice sa 0 sc) ∧ W'.cell? ⟨wo.heap.size, 10, none⟩ = some (.slice la 0 lc)) v wr') (fun v _ => args.length - (intOf v).toNat)
     case atStart => exact ⟨0, rfl, by omega, hB3, hC3⟩
     case round =>
      clear hC3
      obtain ⟨j, rfl, hj, hB, hC⟩ := hrel
      (try dsimp only at hC)
      by_cases hjt : j < args.length
      ·have hjt' : (j : Int) < args.length := by omega
       obtain ⟨ab, aoff, acap, arow, asl, ac', aR, arw, ablt, acells⟩ := (VA.out _ hB).get (by omega) hjt
       cases asl
       have hfj := HFG.out.1 _ (List.getElem_mem hjt)
       have hoj := List.all_eq_true.1 HO5.out _ (List.getElem_mem hjt)
       have hnj := HFG.out.2
       generalize hsj : args[j] = x at aR hfj hoj
       obtain ⟨rra, rrc, xxa, xxc, rfl, hRr, hRe⟩ := argRow2 aR
       have a0 := acells 0 _ rfl
       have a1 := acells 1 _ rfl
       have a2 := acells 2 _ rfl
       have a3 := acells 3 _ rfl
       have a4 := acells 4 _ rfl
       have a5 := acells 5 _ rfl
       have a6 := acells 6 _ rfl
       rw [Nat.add_zero] at a0
       have HSJ := Lib.hid hsj
       obtain ⟨xm, xr, xe⟩ := x
       dsimp only at hRr hRe a0 a1 a2 a3 a4 a5 a6
       clear acells aR arw hsj
       cases xm
       ·have ho := hoj
        rw [okArgB] at ho
        rw [if_neg (by simp), Bool.and_eq_true] at ho
        have hfe' := hfj.2 rfl
        have VR2 := Lib.hid (fun w' (hb : Below wr.heap.size wr w') => noRef_true xr _ w' (RefRep.below hb hRr) ho.1)
        have VE2 := Lib.hid (fun w' (hb : Below wr.heap.size wr w') => validExpr_true xe _ w' hfe' (ExprRep.below hb _ hRe) ho.2)
        clear hfj hoj ho hRr hRe hfe'
        go_wp2_with (first
        | (go_at_call 120; ((with_reducible refine (VR2.out _ (by go_grown)).mono ?_); rintro e v1 ⟨rfl, kb1⟩; have kB1 : Below wr.heap.size wr v1 := Below.step (by go_grown) kb1; have kC1 := cells11 hC kB1; have k7 : v1.cell? ⟨wr.heap.size, 0, none⟩ = some (.bool false) ∧ v1.cell? ⟨wr.heap.size, 1, none⟩ = some (.string xr.name) ∧ v1.cell? ⟨wr.heap.size, 2, none⟩ = some (.slice rra xr.index.length rrc) ∧ v1.cell? ⟨wr.heap.size, 3, none⟩ = some (.int .i64 xe.op) ∧ v1.cell? ⟨wr.heap.size, 4, none⟩ = some (.int .i64 xe.num) ∧ v1.cell? ⟨wr.heap.size, 5, none⟩ = some (.string xe.name) ∧ v1.cell? ⟨wr.heap.size, 6, none⟩ = some (.slice xxa xe.args.length xxc) := cells7 ⟨by go_simp, by go_simp, by go_simp, by go_simp, by go_simp, by go_simp, by go_simp⟩ kb1; clear a0 a1 a2 a3 a4 a5 a6 hC kb1))
        | (go_at_call 117; ((with_reducible refine (VE2.out _ kB1).mono ?_); rintro e v2 ⟨rfl, kb2⟩; have kB2 := Below.step kB1 kb2; have kC2 := cells11 kC1 kb2; have l7 := cells7 k7 kb2; clear kC1 kb2 k7)))
        go_roundw
        case rel => exact ⟨j + 1, by go_num, by omega, hB.trans (kB2.mono hB.size), kC2⟩
        case measure => simp [intOf]; omega
       ·have ho := hoj
        rw [okArgB] at ho
        rw [if_pos rfl, Bool.and_eq_true] at ho
        have hfr' := hfj.1 rfl
        have VR2 := Lib.hid (fun w' (hb : Below wr.heap.size wr w') => okRef_true xr _ w' hfr' (RefRep.below hb hRr) ho.1)
        have VE2 := Lib.hid (fun w' (hb : Below wr.heap.size wr w') => noExpr_true xe _ w' (ExprRep.below hb _ hRe) ho.2)
        clear hfj hoj ho hRr hRe hfr'
        go_wp2_with (first
        | (go_at_call 119; ((with_reducible refine (VR2.out _ (by go_grown)).mono ?_); rintro e v1 ⟨rfl, kb1⟩; have kB1 : Below wr.heap.size wr v1 := Below.step (by go_grown) kb1; have kC1 := cells11 hC kB1; have k7 : v1.cell? ⟨wr.heap.size, 0, none⟩ = some (.bool true) ∧ v1.cell? ⟨wr.heap.size, 1, none⟩ = some (.string xr.name) ∧ v1.cell? ⟨wr.heap.size, 2, none⟩ = some (.slice rra xr.index.length rrc) ∧ v1.cell? ⟨wr.heap.size, 3, none⟩ = some (.int .i64 xe.op) ∧ v1.cell? ⟨wr.heap.size, 4, none⟩ = some (.int .i64 xe.num) ∧ v1.cell? ⟨wr.heap.size, 5, none⟩ = some (.string xe.name) ∧ v1.cell? ⟨wr.heap.size, 6, none⟩ = some (.slice xxa xe.args.length xxc) := cells7 ⟨by go_simp, by go_simp, by go_simp, by go_simp, by go_simp, by go_simp, by go_simp⟩ kb1; clear a0 a1 a2 a3 a4 a5 a6 hC kb1))
        | (go_at_call 118; ((with_reducible refine (VE2.out _ kB1).mono ?_); rintro e v2 ⟨rfl, kb2⟩; have kB2 := Below.step kB1 kb2; have kC2 := cells11 kC1 kb2; have l7 := cells7 k7 kb2; clear kC1 kb2 k7)))
        go_roundw
        case rel => exact ⟨j + 1, by go_num, by omega, hB.trans (kB2.mono hB.size), kC2⟩
        case measure => simp [intOf]; omega
      ·have hje : j = args.length := by omega
       subst hje
       have hge : ¬ ((args.length : Int) < args.length) := by omega
       go_wp2_with fail
       go_roundw
       case rel => exact ⟨k + 1, by go_num, by omega, hbel.trans (hB.mono hbel.size)⟩
       case measure => simp [intOf]; omega
   by_cases hk4 : kind = 4
   ·as_aux_lemma =>
     subst hk4
     rw [if_pos (by decide)] at ho1
     rw [if_neg (by decide)] at ho2
     rw [if_neg (by decide)] at ho3
     rw [if_neg (by decide), decide_eq_true_eq] at ho6
     have hthn : thn = [] := List.eq_nil_of_length_eq_zero ho6
     subst hthn
     have hels : els = [] := by have h := ho7; rw [show decide ((4 : Int) = 7) = false from by decide, Bool.false_and, Bool.or_false, decide_eq_true_eq] at h; exact List.eq_nil_of_length_eq_zero h
     subst hels
     simp only [List.length_nil] at d8 d9 d10 hRa hRt hRl
     have VN := Lib.hid (fun w' => rname_true name w' ho1)
     have VE := Lib.hid (fun w' (hb : Below wr.heap.size wr w') => noExpr_true e _ w' (ExprRep.below hb _ hRe) ho2)
     have VR := Lib.hid (fun w' (hb : Below wr.heap.size wr w') => noRef_true r _ w' (RefRep.below hb hRr) ho3)
     have VA := Lib.hid (fun w' (hb : Below wr.heap.size wr w') => hRa.below hb fun a cs _ h => ArgRep.below hb h)
     have HFG := Lib.hid (hfg (by decide))
     have HO5 := Lib.hid ho5
     clear hfe hfg hfr hfb hRe hRr hRa hRt hRl ho0 ho2 ho3 ho4 ho5 ho7 ho1
     go_wp2_with (first
      | (go_at_call 84; ((with_reducible refine (VN.out _).mono ?_); rintro e w1 ⟨rfl, hb1⟩; have hB1 : Below wr.heap.size wr w1 := Below.step (by go_grown) hb1; have hC1 : w1.cell? ⟨wr.heap.size, 0, none⟩ = some (.int .i64 4) ∧ w1.cell? ⟨wr.heap.size, 1, none⟩ = some (.string name) ∧ w1.cell? ⟨wr.heap.size, 2, none⟩ = some (.int .i64 e.op) ∧ w1.cell? ⟨wr.heap.size, 3, none⟩ = some (.int .i64 e.num) ∧ w1.cell? ⟨wr.heap.size, 4, none⟩ = some (.string e.name) ∧ w1.cell? ⟨wr.heap.size, 5, none⟩ = some (.slice xa e.args.length xc) ∧ w1.cell? ⟨wr.heap.size, 6, none⟩ = some (.string r.name) ∧ w1.cell? ⟨wr.heap.size, 7, none⟩ = some (.slice ra r.index.length rc) ∧ w1.cell? ⟨wr.heap.size, 8, none⟩ = some (.slice aa args.length ac) ∧ w1.cell? ⟨wr.heap.size, 9, none⟩ = some (.slice sa 0 sc) ∧ w1.cell? ⟨wr.heap.size, 10, none⟩ = some (.slice la 0 lc) := cells11 ⟨by go_simp, by go_simp, by go_simp, by go_simp, by go_simp, by go_simp, by go_simp, by go_simp, by go_simp, by go_simp, by go_simp⟩ hb1; clear d0 d1 d2 d3 d4 d5 d6 d7 d8 d9 d10))
      | (go_at_call 118; ((with_reducible refine (VE.out _ (by first | assumption | go_grown)).mono ?_); rintro e w2 ⟨rfl, hb2⟩; have hB2 : Below wr.heap.size wr w2 := Below.step hB1 hb2; have hC2 := cells11 hC1 hb2; clear hC1 hb1))
      | (go_at_call 120; ((with_reducible refine (VR.out _ (by first | assumption | go_grown)).mono ?_); rintro e w3 ⟨rfl, hb3⟩; have hB3 : Below wr.heap.size wr w3 := Below.step hB2 hb3; have hC3 := cells11 hC2 hb3; clear hC2 hb2)))
     obtain ⟨wo, rfl⟩ : ∃ wo : World, wo = wr := ⟨_, rfl⟩
     go_loopw [12] (fun v wr' => oaR wo args.length (fun W' => W'.cell? ⟨wo.heap.size, 0, none⟩ = some (.int .i64 4) ∧ W'.cell? ⟨wo.heap.size, 1, none⟩ = some (.string name) ∧ W'.cell? ⟨wo.heap.size, 2, none⟩ = some (.int .i64 e.op) ∧ W'.cell? ⟨wo.heap.size, 3, none⟩ = some (.int .i64 e.num) ∧ W'.cell? ⟨wo.heap.size, 4, none⟩ = some (.string e.name) ∧ W'.cell? ⟨wo.heap.size, 5, none⟩ = some (.slice xa e.args.length xc) ∧ W'.cell? ⟨wo.heap.size, 6, none⟩ = some (.string r.name) ∧ W'.cell? ⟨wo.heap.size, 7, none⟩ = some (.slice ra r.index.length rc) ∧ W'.cell? ⟨wo.heap.size, 8, none⟩ = some (.slice aa args.length ac) ∧ W'.cell? ⟨wo.heap.size, 9, none⟩ = some (.slice sa 0 sc) ∧ W'.cell? ⟨wo.heap.size, 10, none⟩ = some (.slice la 0 lc)) v wr') (fun v _ => args.length - (intOf v).toNat)
     case atStart => exact ⟨0, rfl, by omega, hB3, hC3⟩
     case round =>
      clear hC3
      obtain ⟨j, rfl, hj, hB, hC⟩ := hrel
      (try dsimp only at hC)
      by_cases hjt : j < args.length
      ·have hjt' : (j : Int) < args.length := by omega
       obtain ⟨ab, aoff, acap, arow, asl, ac', aR, arw, ablt, acells⟩ := (VA.out _ hB).get (by omega) hjt
       cases asl
       have hfj := HFG.out.1 _ (List.getElem_mem hjt)
       have hoj := List.all_eq_true.1 HO5.out _ (List.getElem_mem hjt)
       have hnj := HFG.out.2
       generalize hsj : args[j] = x at aR hfj hoj
       obtain ⟨rra, rrc, xxa, xxc, rfl, hRr, hRe⟩ := argRow2 aR
       have a0 := acells 0 _ rfl
       have a1 := acells 1 _ rfl
       have a2 := acells 2 _ rfl
       have a3 := acells 3 _ rfl
       have a4 := acells 4 _ rfl
       have a5 := acells 5 _ rfl
       have a6 := acells 6 _ rfl
       rw [Nat.add_zero] at a0
       have HSJ := Lib.hid hsj
       obtain ⟨xm, xr, xe⟩ := x
       dsimp only at hRr hRe a0 a1 a2 a3 a4 a5 a6
       clear acells aR arw hsj
       cases xm
       ·have ho := hoj
        rw [okArgB] at ho
        rw [if_neg (by simp), Bool.and_eq_true] at ho
        have hfe' := hfj.2 rfl
        have VR2 := Lib.hid (fun w' (hb : Below wr.heap.size wr w') => noRef_true xr _ w' (RefRep.below hb hRr) ho.1)
        have VE2 := Lib.hid (fun w' (hb : Below wr.heap.size wr w') => validExpr_true xe _ w' hfe' (ExprRep.below hb _ hRe) ho.2)
        clear hfj hoj ho hRr hRe hfe'
        go_wp2_with (first
        | (go_at_call 120; ((with_reducible refine (VR2.out _ (by go_grown)).mono ?_); rintro e v1 ⟨rfl, kb1⟩; have kB1 : Below wr.heap.size wr v1 := Below.step (by go_grown) kb1; have kC1 := cells11 hC kB1; have k7 : v1.cell? ⟨wr.heap.size, 0, none⟩ = some (.bool false) ∧ v1.cell? ⟨wr.heap.size, 1, none⟩ = some (.string xr.name) ∧ v1.cell? ⟨wr.heap.size, 2, none⟩ = some (.slice rra xr.index.length rrc) ∧ v1.cell? ⟨wr.heap.size, 3, none⟩ = some (.int .i64 xe.op) ∧ v1.cell? ⟨wr.heap.size, 4, none⟩ = some (.int .i64 xe.num) ∧ v1.cell? ⟨wr.heap.size, 5, none⟩ = some (.string xe.name) ∧ v1.cell? ⟨wr.heap.size, 6, none⟩ = some (.slice xxa xe.args.length xxc) := cells7 ⟨by go_simp, by go_simp, by go_simp, by go_simp, by go_simp, by go_simp, by go_simp⟩ kb1; clear a0 a1 a2 a3 a4 a5 a6 hC kb1))
        | (go_at_call 117; ((with_reducible refine (VE2.out _ kB1).mono ?_); rintro e v2 ⟨rfl, kb2⟩; have kB2 := Below.step kB1 kb2; have kC2 := cells11 kC1 kb2; have l7 := cells7 k7 kb2; clear kC1 kb2 k7)))
        go_roundw
        case rel => exact ⟨j + 1, by go_num, by omega, hB.trans (kB2.mono hB.size), kC2⟩
        case measure => simp [intOf]; omega
       ·have ho := hoj
        rw [okArgB] at ho
        rw [if_pos rfl, Bool.and_eq_true] at ho
        have hfr' := hfj.1 rfl
        have VR2 := Lib.hid (fun w' (hb : Below wr.heap.size wr w') => okRef_true xr _ w' hfr' (RefRep.below hb hRr) ho.1)
        have VE2 := Lib.hid (fun w' (hb : Below wr.heap.size wr w') => noExpr_true xe _ w' (ExprRep.below hb _ hRe) ho.2)
        clear hfj hoj ho hRr hRe hfr'
        go_wp2_with (first
        | (go_at_call 119; ((with_reducible refine (VR2.out _ (by go_grown)).mono ?_); rintro e v1 ⟨rfl, kb1⟩; have kB1 : Below wr.heap.size wr v1 := Below.step (by go_grown) kb1; have kC1 := cells11 hC kB1; have k7 : v1.cell? ⟨wr.heap.size, 0, none⟩ = some (.bool true) ∧ v1.cell? ⟨wr.heap.size, 1, none⟩ = some (.string xr.name) ∧ v1.cell? ⟨wr.heap.size, 2, none⟩ = some (.slice rra xr.index.length rrc) ∧ v1.cell? ⟨wr.heap.size, 3, none⟩ = some (.int .i64 xe.op) ∧ v1.cell? ⟨wr.heap.size, 4, none⟩ = some (.int .i64 xe.num) ∧ v1.cell? ⟨wr.heap.size, 5, none⟩ = some (.string xe.name) ∧ v1.cell? ⟨wr.heap.size, 6, none⟩ = some (.slice xxa xe.args.length xxc) := cells7 ⟨by go_simp, by go_simp, by go_simp, by go_simp, by go_simp, by go_simp, by go_simp⟩ kb1; clear a0 a1 a2 a3 a4 a5 a6 hC kb1))
        | (go_at_call 118; ((with_reducible refine (VE2.out _ kB1).mono ?_); rintro e v2 ⟨rfl, kb2⟩; have kB2 := Below.step kB1 kb2; have kC2 := cells11 kC1 kb2; have l7 := cells7 k7 kb2; clear kC1 kb2 k7)))
        go_roundw
        case rel => exact ⟨j + 1, by go_num, by omega, hB.trans (kB2.mono hB.size), kC2⟩
        case measure => simp [intOf]; omega
      ·have hje : j = args.length := by omega
       subst hje
       have hge : ¬ ((args.length : Int) < args.length) := by omega
       go_wp2_with fail
       go_roundw
       case rel => exact ⟨k + 1, by go_num, by omega, hbel.trans (hB.mono hbel.size)⟩
       case measure => simp [intOf]; omega
   by_cases hk5 : kind = 5
   ·as_aux_lemma =>
     subst hk5
     rw [if_neg (by decide), decide_eq_true_eq] at ho1
     rw [if_neg (by decide)] at ho2
     rw [if_pos (by decide)] at ho3
     rw [if_neg (by decide), decide_eq_true_eq] at ho6
     replace ho1 : name = ⟨#[]⟩ := ho1
     subst ho1
     have hargs : args = [] := by have h := ho4; rw [show decide ((5 : Int) = 3 ∨ (5 : Int) = 4) = false from by decide, Bool.false_or, decide_eq_true_eq] at h; exact List.eq_nil_of_length_eq_zero h
     subst hargs
     have hthn : thn = [] := List.eq_nil_of_length_eq_zero ho6
     subst hthn
     have hels : els = [] := by have h := ho7; rw [show decide ((5 : Int) = 7) = false from by decide, Bool.false_and, Bool.or_false, decide_eq_true_eq] at h; exact List.eq_nil_of_length_eq_zero h
     subst hels
     simp only [List.length_nil] at d8 d9 d10 hRa hRt hRl
     have VE := Lib.hid (fun w' (hb : Below wr.heap.size wr w') => noExpr_true e _ w' (ExprRep.below hb _ hRe) ho2)
     have VR := Lib.hid (fun w' (hb : Below wr.heap.size wr w') => okRef_true r _ w' (hfr (by decide)) (RefRep.below hb hRr) ho3)
     clear hfe hfg hfr hfb hRe hRr hRa hRt hRl ho0 ho2 ho3 ho4 ho5 ho7
     go_wp2_with (first
      | (go_at_call 118; ((with_reducible refine (VE.out _ (by first | assumption | go_grown)).mono ?_); rintro e w1 ⟨rfl, hb1⟩; have hB1 : Below wr.heap.size wr w1 := Below.step (by go_grown) hb1; have hC1 : w1.cell? ⟨wr.heap.size, 0, none⟩ = some (.int .i64 5) ∧ w1.cell? ⟨wr.heap.size, 1, none⟩ = some (.string ⟨#[]⟩) ∧ w1.cell? ⟨wr.heap.size, 2, none⟩ = some (.int .i64 e.op) ∧ w1.cell? ⟨wr.heap.size, 3, none⟩ = some (.int .i64 e.num) ∧ w1.cell? ⟨wr.heap.size, 4, none⟩ = some (.string e.name) ∧ w1.cell? ⟨wr.heap.size, 5, none⟩ = some (.slice xa e.args.length xc) ∧ w1.cell? ⟨wr.heap.size, 6, none⟩ = some (.string r.name) ∧ w1.cell? ⟨wr.heap.size, 7, none⟩ = some (.slice ra r.index.length rc) ∧ w1.cell? ⟨wr.heap.size, 8, none⟩ = some (.slice aa 0 ac) ∧ w1.cell? ⟨wr.heap.size, 9, none⟩ = some (.slice sa 0 sc) ∧ w1.cell? ⟨wr.heap.size, 10, none⟩ = some (.slice la 0 lc) := cells11 ⟨by go_simp, by go_simp, by go_simp, by go_simp, by go_simp, by go_simp, by go_simp, by go_simp, by go_simp, by go_simp, by go_simp⟩ hb1; clear d0 d1 d2 d3 d4 d5 d6 d7 d8 d9 d10))
      | (go_at_call 119; ((with_reducible refine (VR.out _ (by first | assumption | go_grown)).mono ?_); rintro e w2 ⟨rfl, hb2⟩; have hB2 : Below wr.heap.size wr w2 := Below.step hB1 hb2; have hC2 := cells11 hC1 hb2; clear hC1 hb1)))
     refine wp_loop_once ?_
     go_wp2_with fail
     go_roundw
     case rel => exact ⟨k + 1, by go_num, by omega, hbel.trans (hB2.mono hbel.size)⟩
     case measure => simp [intOf]; omega
   by_cases hk6 : kind = 6
   ·as_aux_lemma =>
     subst hk6
     rw [if_neg (by decide), decide_eq_true_eq] at ho1
     rw [if_neg (by decide)] at ho2
     rw [if_pos (by decide)] at ho3
     rw [if_neg (by decide), decide_eq_true_eq] at ho6
     replace ho1 : name = ⟨#[]⟩ := ho1
     subst ho1
     have hargs : args = [] := by have h := ho4; rw [show decide ((6 : Int) = 3 ∨ (6 : Int) = 4) = false from by decide, Bool.false_or, decide_eq_true_eq] at h; exact List.eq_nil_of_length_eq_zero h
     subst hargs
     have hthn : thn = [] := List.eq_nil_of_length_eq_zero ho6
     subst hthn
     have hels : els = [] := by have h := ho7; rw [show decide ((6 : Int) = 7) = false from by decide, Bool.false_and, Bool.or_false, decide_eq_true_eq] at h; exact List.eq_nil_of_length_eq_zero h
     subst hels
     simp only [List.length_nil] at d8 d9 d10 hRa hRt hRl
     have VE := Lib.hid (fun w' (hb : Below wr.heap.size wr w') => noExpr_true e _ w' (ExprRep.below hb _ hRe) ho2)
     have VR := Lib.hid (fun w' (hb : Below wr.heap.size wr w') => okRef_true r _ w' (hfr (by decide)) (RefRep.below hb hRr) ho3)
     clear hfe hfg hfr hfb hRe hRr hRa hRt hRl ho0 ho2 ho3 ho4 ho5 ho7
     go_wp2_with (first
      | (go_at_call 118; ((with_reducible refine (VE.out _ (by first | assumption | go_grown)).mono ?_); rintro e w1 ⟨rfl, hb1⟩; have hB1 : Below wr.heap.size wr w1 := Below.step (by go_grown) hb1; have hC1 : w1.cell? ⟨wr.heap.size, 0, none⟩ = some (.int .i64 6) ∧ w1.cell? ⟨wr.heap.size, 1, none⟩ = some (.string ⟨#[]⟩) ∧ w1.cell? ⟨wr.heap.size, 2, none⟩ = some (.int .i64 e.op) ∧ w1.cell? ⟨wr.heap.size, 3, none⟩ = some (.int .i64 e.num) ∧ w1.cell? ⟨wr.heap.size, 4, none⟩ = some (.string e.name) ∧ w1.cell? ⟨wr.heap.size, 5, none⟩ = some (.slice xa e.args.length xc) ∧ w1.cell? ⟨wr.heap.size, 6, none⟩ = some (.string r.name) ∧ w1.cell? ⟨wr.heap.size, 7, none⟩ = some (.slice ra r.index.length rc) ∧ w1.cell? ⟨wr.heap.size, 8, none⟩ = some (.slice aa 0 ac) ∧ w1.cell? ⟨wr.heap.size, 9, none⟩ = some (.slice sa 0 sc) ∧ w1.cell? ⟨wr.heap.size, 10, none⟩ = some (.slice la 0 lc) := cells11 ⟨by go_simp, by go_simp, by go_simp, by go_simp, by go_simp, by go_simp, by go_simp, by go_simp, by go_simp, by go_simp, by go_simp⟩ hb1; clear d0 d1 d2 d3 d4 d5 d6 d7 d8 d9 d10))
      | (go_at_call 119; ((with_reducible refine (VR.out _ (by first | assumption | go_grown)).mono ?_); rintro e w2 ⟨rfl, hb2⟩; have hB2 : Below wr.heap.size wr w2 := Below.step hB1 hb2; have hC2 := cells11 hC1 hb2; clear hC1 hb1)))
     refine wp_loop_once ?_
     go_wp2_with fail
     go_roundw
     case rel => exact ⟨k + 1, by go_num, by omega, hbel.trans (hB2.mono hbel.size)⟩
     case measure => simp [intOf]; omega
   by_cases hk7 : kind = 7
   ·subst hk7
    by_cases hel : els.length = 0
    ·as_aux_lemma =>
      rw [if_neg (by decide), decide_eq_true_eq] at ho1
      rw [if_pos (by decide)] at ho2
      rw [if_neg (by decide)] at ho3
      rw [if_pos (by decide)] at ho6
      replace ho1 : name = ⟨#[]⟩ := ho1
      subst ho1
      have hargs : args = [] := by have h := ho4; rw [show decide ((7 : Int) = 3 ∨ (7 : Int) = 4) = false from by decide, Bool.false_or, decide_eq_true_eq] at h; exact List.eq_nil_of_length_eq_zero h
      subst hargs
      have hels : els = [] := List.eq_nil_of_length_eq_zero hel
      subst hels
      simp only [List.length_nil] at d8 d9 d10 hRa hRt hRl
      have VE := Lib.hid (fun w' (hb : Below wr.heap.size wr w') => validExpr_true e _ w' (hfe (by decide)) (ExprRep.below hb _ hRe) ho2)
      have VR := Lib.hid (fun w' (hb : Below wr.heap.size wr w') => noRef_true r _ w' (RefRep.below hb hRr) ho3)
      have VT := Lib.hid (fun w' (hb : Below wr.heap.size wr w') => IH2.out thn (by rw [AStmt.count]; omega) (hfb (by decide)).1 ho6 _ w' (hRt.below hb fun a cs _ h => StmtRep.below hb _ h))
      clear hfe hfg hfr hfb hRe hRr hRa hRt hRl ho0 ho2 ho3 ho4 ho5 ho7 ho6
      go_wp2_with (first
      | (go_at_call 117; ((with_reducible refine (VE.out _ (by first | assumption | go_grown)).mono ?_); rintro e w1 ⟨rfl, hb1⟩; have hB1 : Below wr.heap.size wr w1 := Below.step (by go_grown) hb1; have hC1 : w1.cell? ⟨wr.heap.size, 0, none⟩ = some (.int .i64 7) ∧ w1.cell? ⟨wr.heap.size, 1, none⟩ = some (.string ⟨#[]⟩) ∧ w1.cell? ⟨wr.heap.size, 2, none⟩ = some (.int .i64 e.op) ∧ w1.cell? ⟨wr.heap.size, 3, none⟩ = some (.int .i64 e.num) ∧ w1.cell? ⟨wr.heap.size, 4, none⟩ = some (.string e.name) ∧ w1.cell? ⟨wr.heap.size, 5, none⟩ = some (.slice xa e.args.length xc) ∧ w1.cell? ⟨wr.heap.size, 6, none⟩ = some (.string r.name) ∧ w1.cell? ⟨wr.heap.size, 7, none⟩ = some (.slice ra r.index.length rc) ∧ w1.cell? ⟨wr.heap.size, 8, none⟩ = some (.slice aa 0 ac) ∧ w1.cell? ⟨wr.heap.size, 9, none⟩ = some (.slice sa thn.length sc) ∧ w1.cell? ⟨wr.heap.size, 10, none⟩ = some (.slice la 0 lc) := cells11 ⟨by go_simp, by go_simp, by go_simp, by go_simp, by go_simp, by go_simp, by go_simp, by go_simp, by go_simp, by go_simp, by go_simp⟩ hb1; clear d0 d1 d2 d3 d4 d5 d6 d7 d8 d9 d10))
      | (go_at_call 120; ((with_reducible refine (VR.out _ (by first | assumption | go_grown)).mono ?_); rintro e w2 ⟨rfl, hb2⟩; have hB2 : Below wr.heap.size wr w2 := Below.step hB1 hb2; have hC2 := cells11 hC1 hb2; clear hC1 hb1)))
      refine wp_loop_once ?_
      go_wp2_with (go_at_call 85; ((with_reducible refine (VT.out _ (by assumption)).mono ?_); rintro e w3 ⟨rfl, hb3⟩; have hB3 : Below wr.heap.size wr w3 := Below.step hB2 hb3; have hC3 := cells11 hC2 hb3; clear hC2 hb2))
      go_roundw
      case rel => exact ⟨k + 1, by go_num, by omega, hbel.trans (hB3.mono hbel.size)⟩
      case measure => simp [intOf]; omega
    ·as_aux_lemma =>
      rw [if_neg (by decide), decide_eq_true_eq] at ho1
      rw [if_pos (by decide)] at ho2
      rw [if_neg (by decide)] at ho3
      rw [if_pos (by decide)] at ho6
      replace ho1 : name = ⟨#[]⟩ := ho1
      subst ho1
      have hargs : args = [] := by have h := ho4; rw [show decide ((7 : Int) = 3 ∨ (7 : Int) = 4) = false from by decide, Bool.false_or, decide_eq_true_eq] at h; exact List.eq_nil_of_length_eq_zero h
      subst hargs
      have hel' : 0 < els.length := by omega
      have hok7 : okStmtsB (deep + 1) els = true := by have h := ho7; rw [show decide (els.length = 0) = false from decide_eq_false hel, Bool.false_or, Bool.and_eq_true] at h; exact h.2
      simp only [List.length_nil] at d8 d9 d10 hRa hRt hRl
      have VE := Lib.hid (fun w' (hb : Below wr.heap.size wr w') => validExpr_true e _ w' (hfe (by decide)) (ExprRep.below hb _ hRe) ho2)
      have VR := Lib.hid (fun w' (hb : Below wr.heap.size wr w') => noRef_true r _ w' (RefRep.below hb hRr) ho3)
      have VT := Lib.hid (fun w' (hb : Below wr.heap.size wr w') => IH2.out thn (by rw [AStmt.count]; omega) (hfb (by decide)).1 ho6 _ w' (hRt.below hb fun a cs _ h => StmtRep.below hb _ h))
      have VL := Lib.hid (fun w' (hb : Below wr.heap.size wr w') => IH2.out els (by rw [AStmt.count]; omega) (hfb (by decide)).2 hok7 _ w' (hRl.below hb fun a cs _ h => StmtRep.below hb _ h))
      clear hfe hfg hfr hfb hRe hRr hRa hRt hRl ho0 ho2 ho3 ho4 ho5 ho7 ho6
      clear hok7
      go_wp2_with (first
      | (go_at_call 117; ((with_reducible refine (VE.out _ (by first | assumption | go_grown)).mono ?_); rintro e w1 ⟨rfl, hb1⟩; have hB1 : Below wr.heap.size wr w1 := Below.step (by go_grown) hb1; have hC1 : w1.cell? ⟨wr.heap.size, 0, none⟩ = some (.int .i64 7) ∧ w1.cell? ⟨wr.heap.size, 1, none⟩ = some (.string ⟨#[]⟩) ∧ w1.cell? ⟨wr.heap.size, 2, none⟩ = some (.int .i64 e.op) ∧ w1.cell? ⟨wr.heap.size, 3, none⟩ = some (.int .i64 e.num) ∧ w1.cell? ⟨wr.heap.size, 4, none⟩ = some (.string e.name) ∧ w1.cell? ⟨wr.heap.size, 5, none⟩ = some (.slice xa e.args.length xc) ∧ w1.cell? ⟨wr.heap.size, 6, none⟩ = some (.string r.name) ∧ w1.cell? ⟨wr.heap.size, 7, none⟩ = some (.slice ra r.index.length rc) ∧ w1.cell? ⟨wr.heap.size, 8, none⟩ = some (.slice aa 0 ac) ∧ w1.cell? ⟨wr.heap.size, 9, none⟩ = some (.slice sa thn.length sc) ∧ w1.cell? ⟨wr.heap.size, 10, none⟩ = some (.slice la els.length lc) := cells11 ⟨by go_simp, by go_simp, by go_simp, by go_simp, by go_simp, by go_simp, by go_simp, by go_simp, by go_simp, by go_simp, by go_simp⟩ hb1; clear d0 d1 d2 d3 d4 d5 d6 d7 d8 d9 d10))
      | (go_at_call 120; ((with_reducible refine (VR.out _ (by first | assumption | go_grown)).mono ?_); rintro e w2 ⟨rfl, hb2⟩; have hB2 : Below wr.heap.size wr w2 := Below.step hB1 hb2; have hC2 := cells11 hC1 hb2; clear hC1 hb1)))
      refine wp_loop_once ?_
      go_wp2_with fail
      ((with_reducible refine (VT.out _ (by assumption)).mono ?_); rintro e w3 ⟨rfl, hb3⟩; have hB3 : Below wr.heap.size wr w3 := Below.step hB2 hb3; have hC3 := cells11 hC2 hb3; clear hC2 hb2)
      go_wp2_with fail
      ((with_reducible refine (VL.out _ (by assumption)).mono ?_); rintro e w4 ⟨rfl, hb4⟩; have hB4 : Below wr.heap.size wr w4 := Below.step hB3 hb4; have hC4 := cells11 hC3 hb4; clear hC3 hb3)
      go_wp2_with fail
      go_roundw
      case rel => exact ⟨k + 1, by go_num, by omega, hbel.trans (hB4.mono hbel.size)⟩
      case measure => simp [intOf]; omega
   by_cases hk8 : kind = 8
   ·as_aux_lemma =>
     subst hk8
     rw [if_neg (by decide), decide_eq_true_eq] at ho1
     rw [if_pos (by decide)] at ho2
     rw [if_neg (by decide)] at ho3
     rw [if_pos (by decide)] at ho6
     replace ho1 : name = ⟨#[]⟩ := ho1
     subst ho1
     have hargs : args = [] := by have h := ho4; rw [show decide ((8 : Int) = 3 ∨ (8 : Int) = 4) = false from by decide, Bool.false_or, decide_eq_true_eq] at h; exact List.eq_nil_of_length_eq_zero h
     subst hargs
     have hels : els = [] := by have h := ho7; rw [show decide ((8 : Int) = 7) = false from by decide, Bool.false_and, Bool.or_false, decide_eq_true_eq] at h; exact List.eq_nil_of_length_eq_zero h
     subst hels
     simp only [List.length_nil] at d8 d9 d10 hRa hRt hRl
     have VE := Lib.hid (fun w' (hb : Below wr.heap.size wr w') => validExpr_true e _ w' (hfe (by decide)) (ExprRep.below hb _ hRe) ho2)
     have VR := Lib.hid (fun w' (hb : Below wr.heap.size wr w') => noRef_true r _ w' (RefRep.below hb hRr) ho3)
     have VT := Lib.hid (fun w' (hb : Below wr.heap.size wr w') => IH2.out thn (by rw [AStmt.count]; omega) (hfb (by decide)).1 ho6 _ w' (hRt.below hb fun a cs _ h => StmtRep.below hb _ h))
     clear hfe hfg hfr hfb hRe hRr hRa hRt hRl ho0 ho2 ho3 ho4 ho5 ho7 ho6
     go_wp2_with (first
      | (go_at_call 117; ((with_reducible refine (VE.out _ (by first | assumption | go_grown)).mono ?_); rintro e w1 ⟨rfl, hb1⟩; have hB1 : Below wr.heap.size wr w1 := Below.step (by go_grown) hb1; have hC1 : w1.cell? ⟨wr.heap.size, 0, none⟩ = some (.int .i64 8) ∧ w1.cell? ⟨wr.heap.size, 1, none⟩ = some (.string ⟨#[]⟩) ∧ w1.cell? ⟨wr.heap.size, 2, none⟩ = some (.int .i64 e.op) ∧ w1.cell? ⟨wr.heap.size, 3, none⟩ = some (.int .i64 e.num) ∧ w1.cell? ⟨wr.heap.size, 4, none⟩ = some (.string e.name) ∧ w1.cell? ⟨wr.heap.size, 5, none⟩ = some (.slice xa e.args.length xc) ∧ w1.cell? ⟨wr.heap.size, 6, none⟩ = some (.string r.name) ∧ w1.cell? ⟨wr.heap.size, 7, none⟩ = some (.slice ra r.index.length rc) ∧ w1.cell? ⟨wr.heap.size, 8, none⟩ = some (.slice aa 0 ac) ∧ w1.cell? ⟨wr.heap.size, 9, none⟩ = some (.slice sa thn.length sc) ∧ w1.cell? ⟨wr.heap.size, 10, none⟩ = some (.slice la 0 lc) := cells11 ⟨by go_simp, by go_simp, by go_simp, by go_simp, by go_simp, by go_simp, by go_simp, by go_simp, by go_simp, by go_simp, by go_simp⟩ hb1; clear d0 d1 d2 d3 d4 d5 d6 d7 d8 d9 d10))
      | (go_at_call 120; ((with_reducible refine (VR.out _ (by first | assumption | go_grown)).mono ?_); rintro e w2 ⟨rfl, hb2⟩; have hB2 : Below wr.heap.size wr w2 := Below.step hB1 hb2; have hC2 := cells11 hC1 hb2; clear hC1 hb1)))
     refine wp_loop_once ?_
     go_wp2_with (go_at_call 85; ((with_reducible refine (VT.out _ (by assumption)).mono ?_); rintro e w3 ⟨rfl, hb3⟩; have hB3 : Below wr.heap.size wr w3 := Below.step hB2 hb3; have hC3 := cells11 hC2 hb3; clear hC2 hb2))
     go_roundw
     case rel => exact ⟨k + 1, by go_num, by omega, hbel.trans (hB3.mono hbel.size)⟩
     case measure => simp [intOf]; omega
   as_aux_lemma =>
    have hk9 : kind = 9 := by have h := ho0; rw [decide_eq_true_eq] at h; omega
    subst hk9
    clear hk1 hk2 hk3 hk4 hk5 hk6 hk7 hk8
    rw [if_neg (by decide), decide_eq_true_eq] at ho1
    rw [if_neg (by decide)] at ho2
    rw [if_neg (by decide)] at ho3
    rw [if_neg (by decide), decide_eq_true_eq] at ho6
    replace ho1 : name = ⟨#[]⟩ := ho1
    subst ho1
    have hargs : args = [] := by have h := ho4; rw [show decide ((9 : Int) = 3 ∨ (9 : Int) = 4) = false from by decide, Bool.false_or, decide_eq_true_eq] at h; exact List.eq_nil_of_length_eq_zero h
    subst hargs
    have hthn : thn = [] := List.eq_nil_of_length_eq_zero ho6
    subst hthn
    have hels : els = [] := by have h := ho7; rw [show decide ((9 : Int) = 7) = false from by decide, Bool.false_and, Bool.or_false, decide_eq_true_eq] at h; exact List.eq_nil_of_length_eq_zero h
    subst hels
    simp only [List.length_nil] at d8 d9 d10 hRa hRt hRl
    have VE := Lib.hid (fun w' (hb : Below wr.heap.size wr w') => noExpr_true e _ w' (ExprRep.below hb _ hRe) ho2)
    have VR := Lib.hid (fun w' (hb : Below wr.heap.size wr w') => noRef_true r _ w' (RefRep.below hb hRr) ho3)
    clear hfe hfg hfr hfb hRe hRr hRa hRt hRl ho0 ho2 ho3 ho4 ho5 ho7
    go_wp2_with (first
      | (go_at_call 118; ((with_reducible refine (VE.out _ (by first | assumption | go_grown)).mono ?_); rintro e w1 ⟨rfl, hb1⟩; have hB1 : Below wr.heap.size wr w1 := Below.step (by go_grown) hb1; have hC1 : w1.cell? ⟨wr.heap.size, 0, none⟩ = some (.int .i64 9) ∧ w1.cell? ⟨wr.heap.size, 1, none⟩ = some (.string ⟨#[]⟩) ∧ w1.cell? ⟨wr.heap.size, 2, none⟩ = some (.int .i64 e.op) ∧ w1.cell? ⟨wr.heap.size, 3, none⟩ = some (.int .i64 e.num) ∧ w1.cell? ⟨wr.heap.size, 4, none⟩ = some (.string e.name) ∧ w1.cell? ⟨wr.heap.size, 5, none⟩ = some (.slice xa e.args.length xc) ∧ w1.cell? ⟨wr.heap.size, 6, none⟩ = some (.string r.name) ∧ w1.cell? ⟨wr.heap.size, 7, none⟩ = some (.slice ra r.index.length rc) ∧ w1.cell? ⟨wr.heap.size, 8, none⟩ = some (.slice aa 0 ac) ∧ w1.cell? ⟨wr.heap.size, 9, none⟩ = some (.slice sa 0 sc) ∧ w1.cell? ⟨wr.heap.size, 10, none⟩ = some (.slice la 0 lc) := cells11 ⟨by go_simp, by go_simp, by go_simp, by go_simp, by go_simp, by go_simp, by go_simp, by go_simp, by go_simp, by go_simp, by go_simp⟩ hb1; clear d0 d1 d2 d3 d4 d5 d6 d7 d8 d9 d10))
      | (go_at_call 120; ((with_reducible refine (VR.out _ (by first | assumption | go_grown)).mono ?_); rintro e w2 ⟨rfl, hb2⟩; have hB2 : Below wr.heap.size wr w2 := Below.step hB1 hb2; have hC2 := cells11 hC1 hb2; clear hC1 hb1)))
    refine wp_loop_once ?_
    go_wp2_with fail
    go_roundw
    case rel => exact ⟨k + 1, by go_num, by omega, hbel.trans (hB2.mono hbel.size)⟩
    case measure => simp [intOf]; omega
  ·have hke : k = l.length := by omega
   subst hke
   have hge : ¬ ((l.length : Int) < l.length) := by omega
   go_wp2_with fail
   go_ret
   exact ⟨rfl, hbel⟩
theorem okStmts_true : ∀ (N : Nat) (l : List AStmt), countL l ≤ N → N ≤ 100000000000000 → fineL l → ∀ (deep : Nat) (z : Int), z = deep → okStmtsB deep l = true → ∀ (v : Value) (w : World), ListRep w (StmtRep w) 11 v l →
  Calls Tryd.prog 85 #[v, .int .i64 z] w fun e w' => e = .returned (.bool true) ∧ Below w.heap.size w w'
 | 0, l, hN, _, hf, deep, z, hz, hk, v, w, hv => okStmts_node l deep z hz v w hf hk (by omega) hv fun k hk m hm _ _ _ _ _ => by have := countL_get l k hk; omega
 | N + 1, l, hN, hM, hf, deep, z, hz, hk, v, w, hv => okStmts_node l deep z hz v w hf hk (by omega) hv fun k hk m hm hfm hkm v' w' hv' => okStmts_true N m (by have := countL_get l k hk; omega) (by omega) hfm (deep + 1) _ (by omega) hkm v' w' hv'
end Go.Proofs.YtlbocidcjmehfaaDoor
