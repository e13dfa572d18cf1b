import Derived.Test.YtlbocidcjmehfaaDoorMadeJ
import Derived.Test.YtlbocidcjmehfaaDoorB9J
set_option linter.unusedVariables false
set_option linter.unusedSimpArgs false
namespace Go.Proofs.YtlbocidcjmehfaaDoor
theorem MExpr.nodes {names : List ByteArray} {d : Nat} {e : AExpr} (h : MExpr names d e) : e.nodes + 3 ≤ 4 * 2 ^ d := by
 induction h with
 | @name d x h => rw [AExpr.nodes, nodesL]; have := Nat.one_le_two_pow (n := d); omega
 | @num d n h0 h1 => rw [AExpr.nodes, nodesL]; have := Nat.one_le_two_pow (n := d); omega
 | @un d op e ho he ih => rw [AExpr.nodes, nodesL, nodesL, Nat.pow_succ]; have := Nat.one_le_two_pow (n := d); omega
 | @bin d op a b h0 h1 ha hb iha ihb => rw [AExpr.nodes, nodesL, nodesL, nodesL, Nat.pow_succ]; have := Nat.one_le_two_pow (n := d); omega
theorem MExpr.tame {names : List ByteArray} {d : Nat} {e : AExpr} (hn : ∀ x, x ∈ names → nameB x = true) (h : MExpr names d e) : e.tame := by
 induction h with
 | @name d x h => rw [AExpr.tame]; exact ⟨by decide, Nat.le_trans (nameB_size (hn x h)) (by decide), by rw [tameL]; trivial⟩
 | @num d n h0 h1 => rw [AExpr.tame]; exact ⟨by omega, by decide, by rw [tameL]; trivial⟩
 | @un d op e ho he ih => rw [AExpr.tame]; exact ⟨by decide, by decide, by rw [tameL, tameL]; exact ⟨ih, trivial⟩⟩
 | @bin d op a b h0 h1 ha hb iha ihb => rw [AExpr.tame]; exact ⟨by decide, by decide, by rw [tameL, tameL, tameL]; exact ⟨iha, ihb, trivial⟩⟩
theorem strengthN_bin {op : Int} (h0 : 5 ≤ op) (h1 : op ≤ 17) : strengthN op < 5 := by
 unfold strengthN
 repeat' split
 all_goals omega
theorem strengthN_un {op : Int} (h : op = 3 ∨ op = 4) : strengthN op = 5 := by
 rcases h with rfl | rfl <;> rfl
theorem MExpr.shape {names : List ByteArray} {d : Nat} {e : AExpr} (hn : ∀ x, x ∈ names → nameB x = true) (h : MExpr names d e) : shapeB e = true := by
 induction h with
 | @name d x h =>
  rw [shapeB, shapesB, show strengthN 2 = 6 from rfl, if_pos rfl, leafB, arity, show strengthN 2 = 6 from rfl, if_pos rfl, hn x h]; simp
 | @num d n h0 h1 =>
  rw [shapeB, shapesB, show strengthN 1 = 6 from rfl, if_pos rfl, leafB, arity, show strengthN 1 = 6 from rfl, if_pos rfl]; simp [h0]
 | @un d op e ho he ih =>
  have hs := strengthN_un ho
  rw [shapeB, shapesB, shapesB, arity, hs, if_neg (by decide), if_neg (by decide), if_pos rfl, ih]; simp
 | @bin d op a b h0 h1 ha hb iha ihb =>
  have hs := strengthN_bin h0 h1
  rw [shapeB, shapesB, shapesB, shapesB, arity, if_neg (by omega), if_neg (by omega), if_neg (by omega), iha, ihb]; simp
theorem MExpr.height {names : List ByteArray} {d : Nat} {e : AExpr} (h : MExpr names d e) : heightN e ≤ 2 * d := by
 induction h with
 | @name d x h => rw [heightN, argsHeight, if_neg (by decide)]; omega
 | @num d n h0 h1 => rw [heightN, argsHeight, if_neg (by decide)]; omega
 | @un d op e ho he ih => rw [heightN, argsHeight, argsHeight]; split <;> split <;> omega
 | @bin d op a b h0 h1 ha hb iha ihb => rw [heightN, argsHeight, argsHeight, argsHeight]; split <;> split <;> split <;> omega
theorem MExpr.valid {names : List ByteArray} {d : Nat} {e : AExpr} (hn : ∀ x, x ∈ names → nameB x = true) (h : MExpr names d e) (hd : d ≤ 12) : validExpr e = true := by
 rw [validExpr, h.shape hn, Bool.true_and, decide_eq_true_eq]; have := h.height; omega
theorem MExpr.fine {names : List ByteArray} {d : Nat} {e : AExpr} (hn : ∀ x, x ∈ names → nameB x = true) (h : MExpr names d e) (hd : d ≤ 12) : e.fine ∧ e.nodes ≤ 900000 := by
 have h1 := h.nodes
 have h2 : 2 ^ d ≤ 2 ^ 12 := Nat.pow_le_pow_right (by decide) hd
 have h3 : (2 : Nat) ^ 12 = 4096 := by decide
 exact ⟨⟨by omega, h.tame hn, h.shape hn⟩, by omega⟩
theorem numberL_len {n : Int} (h0 : -9223372036854775808 ≤ n) (h1 : n ≤ 9223372036854775807) : (numberL n).length ≤ 21 := by
 have := digitsL_len20 n.natAbs (by omega)
 unfold numberL
 split <;> simp <;> omega
theorem MExpr.len {names : List ByteArray} {d : Nat} {e : AExpr} (hn : ∀ x, x ∈ names → nameB x = true) (h : MExpr names d e) : (exprText e).length + 10 ≤ 31 * 2 ^ d := by
 induction h with
 | @name d x h =>
  have h1 := nameB_size (hn x h)
  have h2 : x.data.toList.length = x.size := rfl
  rw [exprText, opJoin, if_neg (by decide), if_pos rfl]; have := Nat.one_le_two_pow (n := d); omega
 | @num d n h0 h1 =>
  have := numberL_len (n := n) (by omega) (by omega)
  rw [exprText, opJoin, if_pos rfl]; have := Nat.one_le_two_pow (n := d); omega
 | @un d op e ho he ih =>
  rw [exprText, argTexts, argTexts, Nat.pow_succ]
  have hl : ∀ x : List UInt8, (opJoin op 0 emptyB [x]).length = x.length + 1 := by
   intro x; rcases ho with rfl | rfl <;> simp [opJoin]
  rw [hl]
  have := Nat.one_le_two_pow (n := d)
  split
  ·simp only [List.length_append, List.length_cons, List.length_nil]; omega
  ·omega
 | @bin d op a b h0 h1 ha hb iha ihb =>
  rw [exprText, argTexts, argTexts, argTexts, Nat.pow_succ]
  have hs := strengthN_bin h0 h1
  have ho := opSign_len op
  have hl : ∀ x y : List UInt8, (opJoin op 0 emptyB [x, y]).length = x.length + 1 + (opSign op).length + 1 + y.length := by
   intro x y; rw [opJoin, if_neg (by omega), if_neg (by omega), if_neg (by omega), if_neg (by omega), if_pos hs]; simp; omega
  rw [hl]
  split <;> split <;> (try simp only [List.length_append, List.length_cons, List.length_nil]) <;> omega
def allNames (l : List ByteArray) : Prop := ∀ x, x ∈ l → nameB x = true
theorem noExprB_zero : noExprB .zero = true := by simp [noExprB, AExpr.zero, AExpr.op, AExpr.num, AExpr.name, AExpr.args]
theorem noRefB_zero : noRefB .zero = true := by simp [noRefB, ARef.zero]
section
variable {ms : List AMutex} {fs : List Sig} {ps : List AParam}
theorem MRef.ok {vars : List ByteArray} {r : ARef} (hm : ∀ m, m ∈ ms → nameB m.name = true) (hp : ∀ x, x ∈ ps → nameB x.name = true) (hv : allNames vars) (h : MRef ms ps vars r) :
  okRefB r = true ∧ r.fine ∧ (refTextL r).length ≤ 70 := by
 have size : ∀ x : ByteArray, nameB x = true → x.data.toList.length ≤ 16 := fun x h => nameB_size h
 cases h with
 | @arr m e h1 h2 he =>
  have hl := he.len hv
  have := size _ (hm m h1)
  refine ⟨by show (nameB m.name && validExpr e) = true; rw [hm m h1, he.valid hv (by omega)]; rfl, ⟨Nat.le_trans (nameB_size (hm m h1)) (by decide), fun x hx => ?_⟩, ?_⟩
  ·simp only [List.mem_singleton] at hx; subst hx; exact he.fine hv (by omega)
  ·simp only [refTextL, List.length_append, List.length_cons, List.length_nil]; omega
 | @scalar m h1 h2 =>
  have := size _ (hm m h1)
  exact ⟨by show (nameB m.name && true) = true; rw [hm m h1]; rfl, ⟨Nat.le_trans (nameB_size (hm m h1)) (by decide), fun x hx => by simp at hx⟩, by simp only [refTextL]; omega⟩
 | @param x h1 h2 =>
  have := size _ (hp x h1)
  exact ⟨by show (nameB x.name && true) = true; rw [hp x h1]; rfl, ⟨Nat.le_trans (nameB_size (hp x h1)) (by decide), fun y hy => by simp at hy⟩, by simp only [refTextL]; omega⟩
theorem commaL_cons_le {α : Type} (f : α → List UInt8) (x : α) (l : List α) : (commaL f (x :: l)).length ≤ (f x).length + 2 + (commaL f l).length := by
 cases l with
 | nil => simp [commaL]
 | cons y r => simp [commaL]; omega
theorem MArgs.ok {vars : List ByteArray} {l : List AParam} {al : List AArg} (hm : ∀ m, m ∈ ms → nameB m.name = true) (hp : ∀ x, x ∈ ps → nameB x.name = true) (hv : allNames vars) (h : MArgs ms ps vars l al) :
  al.all okArgB = true ∧ (∀ a, a ∈ al → a.fine) ∧ al.length = l.length ∧ (commaL argItem al).length ≤ 122 * l.length := by
 induction h with
 | nil => exact ⟨rfl, (fun a h => by simp at h), rfl, by simp [commaL]⟩
 | @mutex x l al r hx hr h ih =>
  obtain ⟨i1, i2, i3, i4⟩ := ih
  obtain ⟨h1, h2, h3⟩ := hr.ok hm hp hv
  refine ⟨by rw [List.all_cons, i1, okArgB, if_pos rfl, h1, noExprB_zero]; rfl, ?_, by simp [i3], ?_⟩
  ·intro a ha
   rcases List.mem_cons.1 ha with rfl | ha
   ·exact ⟨fun _ => h2, (fun h => by cases h)⟩
   ·exact i2 a ha
  ·have := commaL_cons_le argItem ⟨true, r, .zero⟩ al
   have h4 : (argItem ⟨true, r, .zero⟩).length = 6 + (refTextL r).length := by simp [argItem]; omega
   rw [List.length_cons]; omega
 | @expr x l al e hx he h ih =>
  obtain ⟨i1, i2, i3, i4⟩ := ih
  have hl := he.len hv
  refine ⟨by rw [List.all_cons, i1, okArgB, if_neg (by simp), noRefB_zero, he.valid hv (by omega)]; rfl, ?_, by simp [i3], ?_⟩
  ·intro a ha
   rcases List.mem_cons.1 ha with rfl | ha
   ·exact ⟨(fun h => by cases h), fun _ => (he.fine hv (by omega)).1⟩
   ·exact i2 a ha
  ·have := commaL_cons_le argItem ⟨false, .zero, e⟩ al
   have h4 : (argItem ⟨false, .zero, e⟩).length = (exprText e).length := by simp [argItem]
   rw [List.length_cons]; omega
theorem varName_ok : ∀ left, left < 24 → nameB (varName left) = true := by
 intro left h
 have : (List.range 24).all (fun k => nameB (varName k)) = true := by kernel_rfl
 exact List.all_eq_true.1 this left (List.mem_range.2 h)
end
end Go.Proofs.YtlbocidcjmehfaaDoor
namespace Go.Proofs.YtlbocidcjmehfaaDoor
theorem okStmtsB_append (D : Nat) (hD : D < 24) : ∀ (a b : List AStmt), okStmtsB D (a ++ b) = (okStmtsB D a && okStmtsB D b)
 | [], b => by rw [List.nil_append, okStmtsB, decide_eq_true hD, Bool.true_and]
 | s :: r, b => by rw [List.cons_append, okStmtsB, okStmtsB, okStmtsB_append D hD r b, Bool.and_assoc]
theorem fineL_append : ∀ (a b : List AStmt), fineL (a ++ b) ↔ fineL a ∧ fineL b
 | [], b => by rw [List.nil_append, fineL]; simp
 | s :: r, b => by rw [List.cons_append, fineL, fineL, fineL_append r b, and_assoc]
theorem countL_append : ∀ (a b : List AStmt), countL (a ++ b) = countL a + countL b
 | [], b => by rw [List.nil_append, countL]; omega
 | s :: r, b => by rw [List.cons_append, countL, countL, countL_append r b]; omega
structure SOk (D : Nat) (tabs : List UInt8) (n : Nat) (s : AStmt) : Prop where
 ok : okStmtB D s = true
 fine : s.fine
 count : s.count ≤ 2 * n
 len : (stmtText tabs s).length ≤ 700 * n
structure LOk (D : Nat) (tabs : List UInt8) (n : Nat) (l : List AStmt) : Prop where
 ok : okStmtsB D l = true
 fine : fineL l
 count : countL l ≤ 2 * n
 len : (stmtsText tabs l).length ≤ 700 * n
theorem LOk.cons {D n m k : Nat} {tabs : List UInt8} {s : AStmt} {l : List AStmt} (h : SOk D tabs n s) (hl : LOk D tabs m l) (hk : n + m ≤ k) : LOk D tabs k (s :: l) :=
 ⟨by rw [okStmtsB, h.ok, hl.ok]; rfl, by rw [fineL]; exact ⟨h.fine, hl.fine⟩, by rw [countL]; have := h.count; have := hl.count; omega, by rw [stmtsText, List.length_append]; have := h.len; have := hl.len; omega⟩
theorem LOk.cons' {D n m k : Nat} {tabs : List UInt8} {s : AStmt} {l : List AStmt} (hl : LOk D tabs m l) (h : SOk D tabs n s) (hk : n + m ≤ k) : LOk D tabs k (s :: l) := LOk.cons h hl hk
theorem LOk.nil {D n : Nat} {tabs : List UInt8} (hD : D < 24) : LOk D tabs n [] :=
 ⟨by rw [okStmtsB]; exact decide_eq_true hD, by rw [fineL]; trivial, by rw [countL]; omega, by rw [stmtsText]; simp⟩
section
variable {ms : List AMutex} {fs : List Sig} {ps : List AParam}
theorem SOk.of {D n : Nat} {tabs : List UInt8} {k : Int} {name : ByteArray} {e : AExpr} {r : ARef} {al : List AArg} {t el : List AStmt}
  (h0 : 1 ≤ k ∧ k ≤ 9) (h1 : (if 1 ≤ k ∧ k ≤ 4 then nameB name else decide (name = emptyB)) = true) (h2 : (if k = 1 ∨ k = 2 ∨ k = 7 ∨ k = 8 then validExpr e else noExprB e) = true)
  (h3 : (if k = 5 ∨ k = 6 then okRefB r else noRefB r) = true) (h4 : (decide (k = 3 ∨ k = 4) || decide (al.length = 0)) = true) (h5 : al.all okArgB = true)
  (h6 : (if k = 7 ∨ k = 8 then okStmtsB (D + 1) t else decide (t.length = 0)) = true) (h7 : (decide (el.length = 0) || (decide (k = 7) && okStmtsB (D + 1) el)) = true)
  (hf : (AStmt.mk k name e r al t el).fine) (hc : (AStmt.mk k name e r al t el).count ≤ 2 * n) (hl : (stmtText tabs (.mk k name e r al t el)).length ≤ 700 * n) : SOk D tabs n (.mk k name e r al t el) :=
 ⟨by rw [okStmtB, decide_eq_true h0, h1, h2, h3, h4, h5, h6, h7]; rfl, hf, hc, hl⟩
theorem size_len {x : ByteArray} (h : nameB x = true) : x.data.toList.length ≤ 16 := nameB_size h
theorem sok_ref {D : Nat} {tabs : List UInt8} {vars : List ByteArray} {k : Int} {r : ARef} (hk : k = 5 ∨ k = 6) (ht : tabs.length ≤ 4) (hm : ∀ m, m ∈ ms → nameB m.name = true) (hp : ∀ x, x ∈ ps → nameB x.name = true) (hv : allNames vars) (h : MRef ms ps vars r) :
  SOk D tabs 1 (.mk k emptyB .zero r [] [] []) ∧ (stmtText tabs (.mk k emptyB .zero r [] [] [])).length ≤ 90 := by
 obtain ⟨h1, h2, h3⟩ := h.ok hm hp hv
 have hl : (stmtText tabs (.mk k emptyB .zero r [] [] [])).length ≤ 90 := by
  rw [stmtText]
  rcases hk with rfl | rfl <;> simp <;> omega
 refine ⟨SOk.of (by omega) (by rw [if_neg (by omega)]; exact decide_eq_true rfl) (by rw [if_neg (by omega)]; exact noExprB_zero) (by rw [if_pos hk]; exact h1) (by simp) rfl (by rw [if_neg (by omega)]; rfl) (by simp) ?_ ?_ (by omega), hl⟩
 ·rw [AStmt.fine]; exact ⟨fun h => by omega, fun h => by omega, fun _ => h2, fun h => by omega⟩
 ·simp only [AStmt.count, countL]; omega
theorem MBlock.ok {vars : List ByteArray} {deep left left' : Nat} {l : List AStmt} (hm : ∀ m, m ∈ ms → nameB m.name = true) (hp : ∀ x, x ∈ ps → nameB x.name = true)
  (hg : ∀ g, g ∈ fs → nameB g.1 = true ∧ g.2.length ≤ 2) (h : MBlock ms fs ps vars deep left l left') :
  allNames vars → left ≤ 24 → ∀ (D : Nat) (tabs : List UInt8), D + deep < 24 → tabs.length + deep ≤ 4 → LOk D tabs (left - left') l := by
 induction h with
 | nil => intro _ _ D tabs hD _; exact .nil (by omega)
 | lock hr h ih =>
  intro hv hl D tabs hD ht
  have := h.le
  exact (ih hv (by omega) D tabs hD ht).cons' (sok_ref (.inl rfl) (by omega) hm hp hv hr).1 (by omega)
 | unlock hr h ih =>
  intro hv hl D tabs hD ht
  have := h.le
  exact (ih hv (by omega) D tabs hD ht).cons' (sok_ref (.inr rfl) (by omega) hm hp hv hr).1 (by omega)
 | @var vars deep left left' e rest he h ih =>
  intro hv hl D tabs hD ht
  have := h.le
  have hn := varName_ok left (by omega)
  have hnl := size_len hn
  have hns := nameB_size hn
  have hel := he.len hv
  refine (ih (fun x hx => ?_) (by omega) D tabs hD ht).cons' (n := 1) (SOk.of (by omega) (by rw [if_pos (by decide)]; exact hn) (by rw [if_pos (by decide)]; exact he.valid hv (by omega)) (by rw [if_neg (by decide)]; exact noRefB_zero) (by simp) rfl (by rw [if_neg (by decide)]; rfl) (by simp) ?_ ?_ ?_) (by omega)
  ·rcases List.mem_append.1 hx with hx | hx
   ·exact hv x hx
   ·simp only [List.mem_singleton] at hx; subst hx; exact hn
  ·rw [AStmt.fine]; exact ⟨fun _ => (he.fine hv (by omega)).1, fun h => by omega, fun h => by omega, fun h => by omega⟩
  ·simp only [AStmt.count, countL]; omega
  ·rw [stmtText]; simp; omega
 | @assign vars deep left left' x e rest hx he h ih =>
  intro hv hl D tabs hD ht
  have := h.le
  have hn := hv x hx
  have hnl := size_len hn
  have hns := nameB_size hn
  have hel := he.len hv
  refine (ih hv (by omega) D tabs hD ht).cons' (n := 1) (SOk.of (by omega) (by rw [if_pos (by decide)]; exact hn) (by rw [if_pos (by decide)]; exact he.valid hv (by omega)) (by rw [if_neg (by decide)]; exact noRefB_zero) (by simp) rfl (by rw [if_neg (by decide)]; rfl) (by simp) ?_ ?_ ?_) (by omega)
  ·rw [AStmt.fine]; exact ⟨fun _ => (he.fine hv (by omega)).1, fun h => by omega, fun h => by omega, fun h => by omega⟩
  ·simp only [AStmt.count, countL]; omega
  ·rw [stmtText]; simp; omega
 | @call vars deep left left' k g al rest hk hgm ha h ih =>
  intro hv hl D tabs hD ht
  have := h.le
  obtain ⟨hn, hg2⟩ := hg g hgm
  have hnl := size_len hn
  have hns := nameB_size hn
  obtain ⟨a1, a2, a3, a4⟩ := ha.ok hm hp hv
  refine (ih hv (by omega) D tabs hD ht).cons' (n := 1) (SOk.of (by omega) (by rw [if_pos (by omega)]; exact hn) (by rw [if_neg (by omega)]; exact noExprB_zero) (by rw [if_neg (by omega)]; exact noRefB_zero) (by rw [decide_eq_true hk]; rfl) a1 (by rw [if_neg (by omega)]; rfl) (by simp) ?_ ?_ ?_) (by omega)
  ·rw [AStmt.fine]; exact ⟨fun h => by omega, fun _ => ⟨a2, by omega⟩, fun h => by omega, fun h => by omega⟩
  ·simp only [AStmt.count, countL]; omega
  ·have hat : (argsTextL al).length ≤ 250 := by simp only [argsTextL, List.length_append, List.length_cons, List.length_nil]; omega
   rw [stmtText]; rcases hk with rfl | rfl <;> simp <;> omega
 | @cond vars deep left l1 l2 left' e thn els rest he h1 h2 h3 i1 i2 i3 =>
  intro hv hl D tabs hD ht
  have := h1.le
  have := h2.le
  have := h3.le
  have hel := he.len hv
  have j1 := i1 hv (by omega) (D + 1) (tabs ++ [9]) (by omega) (by simp; omega)
  have j2 := i2 hv (by omega) (D + 1) (tabs ++ [9]) (by omega) (by simp; omega)
  refine (i3 hv (by omega) D tabs hD ht).cons' (n := 1 + (left - l1) + (l1 - l2)) (SOk.of (by omega) (by rw [if_neg (by decide)]; exact decide_eq_true rfl) (by rw [if_pos (by decide)]; exact he.valid hv (by omega)) (by rw [if_neg (by decide)]; exact noRefB_zero) (by simp) rfl (by rw [if_pos (by decide)]; exact j1.ok) (by rw [j2.ok]; simp) ?_ ?_ ?_) (by omega)
  ·rw [AStmt.fine]; exact ⟨fun _ => (he.fine hv (by omega)).1, fun h => by omega, fun h => by omega, fun _ => ⟨j1.fine, j2.fine⟩⟩
  ·have := j1.count; have := j2.count; rw [AStmt.count]; omega
  ·have := j1.len; have := j2.len; rw [stmtText, if_neg (by decide), if_neg (by decide), if_neg (by decide), if_neg (by decide), if_neg (by decide), if_neg (by decide), if_pos (by decide), if_neg (by decide)]; simp only [List.length_append, List.length_cons, List.length_nil]
   split <;> (try simp only [List.length_append, List.length_cons, List.length_nil]) <;> omega
 | @loop vars deep left l1 left' e thn rest he h1 h3 i1 i3 =>
  intro hv hl D tabs hD ht
  have := h1.le
  have := h3.le
  have hel := he.len hv
  have j1 := i1 hv (by omega) (D + 1) (tabs ++ [9]) (by omega) (by simp; omega)
  refine (i3 hv (by omega) D tabs hD ht).cons' (n := 1 + (left - l1)) (SOk.of (by omega) (by rw [if_neg (by decide)]; exact decide_eq_true rfl) (by rw [if_pos (by decide)]; exact he.valid hv (by omega)) (by rw [if_neg (by decide)]; exact noRefB_zero) (by simp) rfl (by rw [if_pos (by decide)]; exact j1.ok) (by simp) ?_ ?_ ?_) (by omega)
  ·rw [AStmt.fine]; exact ⟨fun _ => (he.fine hv (by omega)).1, fun h => by omega, fun h => by omega, fun _ => ⟨j1.fine, by rw [fineL]; trivial⟩⟩
  ·have := j1.count; simp only [AStmt.count, countL]; omega
  ·have := j1.len; rw [stmtText]; simp; omega
 | @ret vars deep left left' rest h ih =>
  intro hv hl D tabs hD ht
  have := h.le
  refine (ih hv (by omega) D tabs hD ht).cons' (n := 1) (SOk.of (by omega) (by rw [if_neg (by decide)]; exact decide_eq_true rfl) (by rw [if_neg (by decide)]; exact noExprB_zero) (by rw [if_neg (by decide)]; exact noRefB_zero) (by simp) rfl (by rw [if_neg (by decide)]; rfl) (by simp) ?_ ?_ ?_) (by omega)
  ·rw [AStmt.fine]; exact ⟨fun h => by omega, fun h => by omega, fun h => by omega, fun h => by omega⟩
  ·simp only [AStmt.count, countL]; omega
  ·rw [stmtText]; simp; omega
 | @pair vars deep left l1 left' r mid rest hr h1 h3 i1 i3 =>
  intro hv hl D tabs hD ht
  have := h1.le
  have := h3.le
  have j1 := i1 hv (by omega) D tabs (by omega) (by omega)
  have j3 := i3 hv (by omega) D tabs hD ht
  obtain ⟨s5, t5⟩ := sok_ref (D := D) (tabs := tabs) (.inl rfl) (by omega) hm hp hv hr
  obtain ⟨s6, t6⟩ := sok_ref (D := D) (tabs := tabs) (.inr rfl) (by omega) hm hp hv hr
  refine ⟨?_, ?_, ?_, ?_⟩
  ·rw [okStmtsB, okStmtsB_append D (by omega), okStmtsB, s5.ok, s6.ok, j1.ok, j3.ok]; rfl
  ·rw [fineL, fineL_append, fineL]; exact ⟨s5.fine, j1.fine, s6.fine, j3.fine⟩
  ·rw [countL, countL_append, countL]; have := j1.count; have := j3.count; simp only [AStmt.count, countL]; omega
  ·rw [stmtsText, stmtsText_append, stmtsText]; have := j1.len; have := j3.len; simp only [List.length_append]; omega
end
end Go.Proofs.YtlbocidcjmehfaaDoor
namespace Go.Proofs.YtlbocidcjmehfaaDoor
theorem nameB_mutex : ∀ i, i < 4 → nameB (bytes [UInt8.ofNat (97 + i)]) = true := by
 intro i h
 have : (List.range 4).all (fun k => nameB (bytes [UInt8.ofNat (97 + k)])) = true := by kernel_rfl
 exact List.all_eq_true.1 this i (List.mem_range.2 h)
theorem nameB_global : ∀ i, i < 4 → nameB (bytes [103, UInt8.ofNat (48 + i)]) = true := by
 intro i h
 have : (List.range 4).all (fun k => nameB (bytes [103, UInt8.ofNat (48 + k)])) = true := by kernel_rfl
 exact List.all_eq_true.1 this i (List.mem_range.2 h)
theorem nameB_param : ∀ i, i < 4 → nameB (bytes [112, UInt8.ofNat (48 + i)]) = true := by
 intro i h
 have : (List.range 4).all (fun k => nameB (bytes [112, UInt8.ofNat (48 + k)])) = true := by kernel_rfl
 exact List.all_eq_true.1 this i (List.mem_range.2 h)
theorem nameB_func : ∀ i, i < 4 → nameB (bytes [102, UInt8.ofNat (48 + i)]) = true := by
 intro i h
 have : (List.range 4).all (fun k => nameB (bytes [102, UInt8.ofNat (48 + k)])) = true := by kernel_rfl
 exact List.all_eq_true.1 this i (List.mem_range.2 h)
theorem nameB_main : nameB (bytes [109, 97, 105, 110]) = true := by kernel_rfl
theorem MParams.names {l : List AParam} (h : MParams l) : ∀ x, x ∈ l → nameB x.name = true := by
 intro x hx
 obtain ⟨k, hk, rfl⟩ := List.getElem_of_mem hx
 rw [h.2 k hk]; have := h.1; exact nameB_param _ (by omega)
theorem MFunc.name {i : Nat} {f : AFunc} (h : MFunc i f) (hi : i < 4) : nameB f.name = true := by
 rcases Nat.eq_zero_or_pos i with h0 | h0
 ·rw [(h.1 h0).1]; exact nameB_main
 ·rw [h.2.1 h0]; exact nameB_func i hi
theorem MBodies.all {ms : List AMutex} {fs : List Sig} {gs : List AGlobal} (hm : ∀ m, m ∈ ms → nameB m.name = true) (hg : ∀ g, g ∈ fs → nameB g.1 = true ∧ g.2.length ≤ 2) (hgl : ∀ g, g ∈ gs → nameB g.name = true)
  {left : Nat} {l : List AFunc} (h : MBodies ms fs gs left l) : left ≤ 24 → (∀ f, f ∈ l → ∀ x, x ∈ f.params → nameB x.name = true) → ∀ f, f ∈ l → LOk 0 [9] 24 f.body := by
 induction h with
 | nil => intro _ _ f hf; simp at hf
 | @cons left left' f l hb hl ih =>
  intro hle hps g hgm
  have h1 := hb.le
  have hv : allNames (ownVars gs f.params) := by
   intro x hx
   simp only [ownVars, List.mem_append, List.mem_map, List.mem_filter] at hx
   rcases hx with ⟨g, hg, rfl⟩ | ⟨y, ⟨hy, _⟩, rfl⟩
   ·exact hgl g hg
   ·exact hps f (by simp) y hy
  rcases List.mem_cons.1 hgm with rfl | hgm
  ·have := hb.ok hm (hps g (by simp)) hg hv hle 0 [9] (by omega) (by simp)
   exact ⟨this.ok, this.fine, by have := this.count; omega, by have := this.len; omega⟩
  ·exact ih (by omega) (fun f hf => hps f (by simp [hf])) g hgm
theorem cat_len {α : Type} (f : α → List UInt8) (c : Nat) : ∀ l : List α, (∀ x, x ∈ l → (f x).length ≤ c) → ((l.map f).flatten).length ≤ c * l.length
 | [], _ => by simp
 | x :: r, h => by
  have h1 := cat_len f c r (fun y hy => h y (by simp [hy]))
  have h2 := h x (by simp)
  simp only [List.map_cons, List.flatten_cons, List.length_append, List.length_cons, Nat.mul_add, Nat.mul_one]; omega
theorem paramText_len {x : AParam} (h : nameB x.name = true) : (paramText x).length ≤ 22 := by
 have := nameB_size h
 rw [paramText]; split <;> simp <;> omega
theorem commaL_len {α : Type} (f : α → List UInt8) (c : Nat) : ∀ l : List α, (∀ x, x ∈ l → (f x).length ≤ c) → (commaL f l).length ≤ (c + 2) * l.length
 | [], _ => by simp [commaL]
 | x :: r, h => by
  have h1 := commaL_len f c r (fun y hy => h y (by simp [hy]))
  have h2 := h x (by simp)
  have h3 := commaL_cons_le f x r
  simp only [List.length_cons, Nat.mul_add, Nat.mul_one]; omega
structure MFacts (p : AProg) : Prop where
 right : p.right
 fine : p.fine
 len : (progText p).length ≤ 75000
theorem MProg.facts {p : AProg} (h : MProg p) : MFacts p := by
 obtain ⟨gs, ms, fs⟩ := p
 obtain ⟨⟨hm1, hm2, hm⟩, ⟨hg1, hg⟩, ⟨hf1, hf2, hf⟩, hb⟩ := h
 dsimp only at hm1 hm2 hm hg1 hg hf1 hf2 hf hb
 have nm : ∀ m, m ∈ ms → nameB m.name = true := by
  intro m hmm; obtain ⟨k, hk, rfl⟩ := List.getElem_of_mem hmm; rw [(hm k hk).1]; exact nameB_mutex k (by omega)
 have ng : ∀ g, g ∈ gs → nameB g.name = true := by
  intro g hgm; obtain ⟨k, hk, rfl⟩ := List.getElem_of_mem hgm; rw [(hg k hk).1]; exact nameB_global k (by omega)
 have nf : ∀ f, f ∈ fs → nameB f.name = true ∧ MParams f.params := by
  intro f hfm; obtain ⟨k, hk, rfl⟩ := List.getElem_of_mem hfm; exact ⟨(hf k hk).name (by omega), (hf k hk).2.2⟩
 have bodies := hb.all nm (by
  intro g hgm
  obtain ⟨f, hfm, rfl⟩ := List.mem_map.1 hgm
  exact ⟨(nf f hfm).1, (nf f hfm).2.1⟩) ng (Nat.le_refl _) (fun f hfm => (nf f hfm).2.names)
 have lg : ∀ g, g ∈ gs → (globalText g).length ≤ 60 ∧ g.init ≠ -9223372036854775808 ∧ inI64 g.init := by
  intro g hgm
  have h1 := nameB_size (ng g hgm)
  obtain ⟨k, hk, rfl⟩ := List.getElem_of_mem hgm
  obtain ⟨_, h2, h3⟩ := hg k hk
  have h4 := numberL_len (n := gs[k].init) (by omega) (by omega)
  refine ⟨?_, by omega, by constructor <;> omega⟩
  rw [globalText]; split <;> simp <;> omega
 have lm : ∀ m, m ∈ ms → (mutexText m).length ≤ 60 ∧ okMutexB m = true ∧ inI64 m.size := by
  intro m hmm
  have h1 := nameB_size (nm m hmm)
  have h0 := nm m hmm
  obtain ⟨k, hk, rfl⟩ := List.getElem_of_mem hmm
  have h2 : 0 ≤ ms[k].size ∧ ms[k].size ≤ 3 ∧ (ms[k].reentrant = true → ms[k].size = 0) := by
   rcases (hm k hk).2 with ⟨a, b, c⟩ | ⟨a, b⟩
   ·exact ⟨b, c, fun h => by rw [a] at h; cases h⟩
   ·exact ⟨by omega, by omega, fun _ => b⟩
  have h4 := numberL_len (n := ms[k].size) (by omega) (by omega)
  refine ⟨?_, ?_, by constructor <;> omega⟩
  ·rw [mutexText]; split <;> split <;> simp <;> omega
  ·rw [okMutexB, h0, decide_eq_true (by omega)]
   cases hr : ms[k].reentrant with
   | false => rfl
   | true => rw [decide_eq_false (by have := h2.2.2 hr; omega)]; rfl
 have lf : ∀ f, f ∈ fs → (funcText f).length ≤ 17000 ∧ okFuncB f = true := by
  intro f hfm
  obtain ⟨h0, h1⟩ := nf f hfm
  have h2 := nameB_size h0
  have h3 := bodies f hfm
  have h4 := h3.len
  have h5 := commaL_len paramText 22 f.params (fun x hx => paramText_len (h1.names x hx))
  have h6 := h1.1
  refine ⟨?_, ?_⟩
  ·rw [funcText]; simp only [List.length_append, List.length_cons, List.length_nil]; have : f.name.data.toList.length = f.name.size := rfl; omega
  ·rw [okFuncB, h0, decide_eq_true (by omega), h3.ok, List.all_eq_true.2 (fun x hx => h1.names x hx)]; rfl
 have len : (progText ⟨gs, ms, fs⟩).length ≤ 75000 := by
  have h1 := cat_len globalText 60 gs (fun g h => (lg g h).1)
  have h2 := cat_len mutexText 60 ms (fun g h => (lm g h).1)
  have h3 := cat_len funcText 17000 fs (fun g h => (lf g h).1)
  rw [progText]; simp only [List.length_append]; omega
 refine ⟨⟨⟨by dsimp only; omega, by dsimp only; omega, by dsimp only; omega⟩, List.all_eq_true.2 fun g h => ?_, List.all_eq_true.2 fun m h => (lm m h).2.1, List.all_eq_true.2 fun f h => (lf f h).2, fun f h => ?_⟩, ⟨fun g h => (lg g h).2.2, fun m h => (lm m h).2.2, fun f h => ⟨?_, (bodies f h).fine⟩, ?_⟩, len⟩
 ·rw [okGlobalB, ng g h, decide_eq_true (lg g h).2.1]; rfl
 ·have := (bodies f h).count; omega
 ·have := (nf f h).2.1; omega
 ·omega
end Go.Proofs.YtlbocidcjmehfaaDoor
