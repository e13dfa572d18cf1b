import Derived.Test.YtiimofjemiffgaaDoorB1J
import Derived.Test.YtiimofjemiffgaaDoorB5J
set_option linter.unusedVariables false
set_option linter.unusedSimpArgs false
namespace Go.Proofs.YtiimofjemiffgaaDoor
inductive MExpr (names : List ByteArray) : Nat → AExpr → Prop
 | name {d : Nat} {x : ByteArray} (h : x ∈ names) : MExpr names d (.mk 2 0 x [])
 | num {d : Nat} {n : Int} (h0 : 0 ≤ n) (h1 : n < 4611686018427387904) : MExpr names d (.mk 1 n emptyB [])
 | un {d : Nat} {op : Int} {e : AExpr} (ho : op = 3 ∨ op = 4) (he : MExpr names d e) : MExpr names (d + 1) (.mk op 0 emptyB [e])
 | bin {d : Nat} {op : Int} {a b : AExpr} (h0 : 5 ≤ op) (h1 : op ≤ 17) (ha : MExpr names d a) (hb : MExpr names d b) : MExpr names (d + 1) (.mk op 0 emptyB [a, b])
theorem MExpr.mono {names : List ByteArray} {d d' : Nat} {e : AExpr} (h : MExpr names d e) (hd : d ≤ d') : MExpr names d' e := by
 induction h generalizing d' with
 | name h => exact .name h
 | num h0 h1 => exact .num h0 h1
 | @un d op e ho he ih =>
  obtain ⟨k, rfl⟩ : ∃ k, d' = k + 1 := ⟨d' - 1, by omega⟩
  exact .un ho (ih (by omega))
 | @bin d op a b h0 h1 ha hb iha ihb =>
  obtain ⟨k, rfl⟩ : ∃ k, d' = k + 1 := ⟨d' - 1, by omega⟩
  exact .bin h0 h1 (iha (by omega)) (ihb (by omega))
end Go.Proofs.YtiimofjemiffgaaDoor
namespace Go.Proofs.YtiimofjemiffgaaDoor
theorem MExpr.nodes {names : List ByteArray} {d : Nat} {e : AExpr} (h : MExpr names d e) : e.nodes + 3 ≤ 4 * 2 ^ d := by
 induction h with
 | @name d x h => rw [AExpr.nodes, nodesL]; have := Nat.one_le_two_pow (n := d); omega
 | @num d n h0 h1 => rw [AExpr.nodes, nodesL]; have := Nat.one_le_two_pow (n := d); omega
 | @un d op e ho he ih => rw [AExpr.nodes, nodesL, nodesL, Nat.pow_succ]; have := Nat.one_le_two_pow (n := d); omega
 | @bin d op a b h0 h1 ha hb iha ihb => rw [AExpr.nodes, nodesL, nodesL, nodesL, Nat.pow_succ]; have := Nat.one_le_two_pow (n := d); omega
theorem MExpr.tame {names : List ByteArray} {d : Nat} {e : AExpr} (hn : ∀ x, x ∈ names → nameB x = true) (h : MExpr names d e) : e.tame := by
 induction h with
 | @name d x h => rw [AExpr.tame]; exact ⟨by decide, Nat.le_trans (nameB_size (hn x h)) (by decide), by rw [tameL]; trivial⟩
 | @num d n h0 h1 => rw [AExpr.tame]; exact ⟨by omega, by decide, by rw [tameL]; trivial⟩
 | @un d op e ho he ih => rw [AExpr.tame]; exact ⟨by decide, by decide, by rw [tameL, tameL]; exact ⟨ih, trivial⟩⟩
 | @bin d op a b h0 h1 ha hb iha ihb => rw [AExpr.tame]; exact ⟨by decide, by decide, by rw [tameL, tameL, tameL]; exact ⟨iha, ihb, trivial⟩⟩
theorem strengthN_bin {op : Int} (h0 : 5 ≤ op) (h1 : op ≤ 17) : strengthN op < 5 := by
 unfold strengthN
 repeat' split
 all_goals omega
theorem strengthN_un {op : Int} (h : op = 3 ∨ op = 4) : strengthN op = 5 := by
 rcases h with rfl | rfl <;> rfl
theorem MExpr.shape {names : List ByteArray} {d : Nat} {e : AExpr} (hn : ∀ x, x ∈ names → nameB x = true) (h : MExpr names d e) : shapeB e = true := by
 induction h with
 | @name d x h =>
  rw [shapeB, shapesB, show strengthN 2 = 6 from rfl, if_pos rfl, leafB, arity, show strengthN 2 = 6 from rfl, if_pos rfl, hn x h]; simp
 | @num d n h0 h1 =>
  rw [shapeB, shapesB, show strengthN 1 = 6 from rfl, if_pos rfl, leafB, arity, show strengthN 1 = 6 from rfl, if_pos rfl]; simp [h0]
 | @un d op e ho he ih =>
  have hs := strengthN_un ho
  rw [shapeB, shapesB, shapesB, arity, hs, if_neg (by decide), if_neg (by decide), if_pos rfl, ih]; simp
 | @bin d op a b h0 h1 ha hb iha ihb =>
  have hs := strengthN_bin h0 h1
  rw [shapeB, shapesB, shapesB, shapesB, arity, if_neg (by omega), if_neg (by omega), if_neg (by omega), iha, ihb]; simp
theorem MExpr.height {names : List ByteArray} {d : Nat} {e : AExpr} (h : MExpr names d e) : heightN e ≤ 2 * d := by
 induction h with
 | @name d x h => rw [heightN, argsHeight, if_neg (by decide)]; omega
 | @num d n h0 h1 => rw [heightN, argsHeight, if_neg (by decide)]; omega
 | @un d op e ho he ih => rw [heightN, argsHeight, argsHeight]; split <;> split <;> omega
 | @bin d op a b h0 h1 ha hb iha ihb => rw [heightN, argsHeight, argsHeight, argsHeight]; split <;> split <;> split <;> omega
theorem MExpr.valid {names : List ByteArray} {d : Nat} {e : AExpr} (hn : ∀ x, x ∈ names → nameB x = true) (h : MExpr names d e) (hd : d ≤ 12) : validExpr e = true := by
 rw [validExpr, h.shape hn, Bool.true_and, decide_eq_true_eq]; have := h.height; omega
theorem MExpr.fine {names : List ByteArray} {d : Nat} {e : AExpr} (hn : ∀ x, x ∈ names → nameB x = true) (h : MExpr names d e) (hd : d ≤ 12) : e.fine ∧ e.nodes ≤ 900000 := by
 have h1 := h.nodes
 have h2 : 2 ^ d ≤ 2 ^ 12 := Nat.pow_le_pow_right (by decide) hd
 have h3 : (2 : Nat) ^ 12 = 4096 := by decide
 exact ⟨⟨by omega, h.tame hn, h.shape hn⟩, by omega⟩
theorem numberL_len {n : Int} (h0 : -9223372036854775808 ≤ n) (h1 : n ≤ 9223372036854775807) : (numberL n).length ≤ 21 := by
 have := digitsL_len20 n.natAbs (by omega)
 unfold numberL
 split <;> simp <;> omega
theorem MExpr.len {names : List ByteArray} {d : Nat} {e : AExpr} (hn : ∀ x, x ∈ names → nameB x = true) (h : MExpr names d e) : (exprText e).length + 10 ≤ 31 * 2 ^ d := by
 induction h with
 | @name d x h =>
  have h1 := nameB_size (hn x h)
  have h2 : x.data.toList.length = x.size := rfl
  rw [exprText, opJoin, if_neg (by decide), if_pos rfl]; have := Nat.one_le_two_pow (n := d); omega
 | @num d n h0 h1 =>
  have := numberL_len (n := n) (by omega) (by omega)
  rw [exprText, opJoin, if_pos rfl]; have := Nat.one_le_two_pow (n := d); omega
 | @un d op e ho he ih =>
  rw [exprText, argTexts, argTexts, Nat.pow_succ]
  have hl : ∀ x : List UInt8, (opJoin op 0 emptyB [x]).length = x.length + 1 := by
   intro x; rcases ho with rfl | rfl <;> simp [opJoin]
  rw [hl]
  have := Nat.one_le_two_pow (n := d)
  split
  ·simp only [List.length_append, List.length_cons, List.length_nil]; omega
  ·omega
 | @bin d op a b h0 h1 ha hb iha ihb =>
  rw [exprText, argTexts, argTexts, argTexts, Nat.pow_succ]
  have hs := strengthN_bin h0 h1
  have ho := opSign_len op
  have hl : ∀ x y : List UInt8, (opJoin op 0 emptyB [x, y]).length = x.length + 1 + (opSign op).length + 1 + y.length := by
   intro x y; rw [opJoin, if_neg (by omega), if_neg (by omega), if_neg (by omega), if_neg (by omega), if_pos hs]; simp; omega
  rw [hl]
  split <;> split <;> (try simp only [List.length_append, List.length_cons, List.length_nil]) <;> omega
end Go.Proofs.YtiimofjemiffgaaDoor
