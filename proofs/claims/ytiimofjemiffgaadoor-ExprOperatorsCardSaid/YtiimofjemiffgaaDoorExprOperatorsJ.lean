/-
  Proved: for every two numbers lockorderlaw02.ExprOperators returns true and leaves its arguments as they were. No condition beyond the row's own. (Printed by genops.py.)
-/
import Derived.Test.YtiimofjemiffgaaDoorE6J
import Derived.Test.YtiimofjemiffgaaDoorE0J
import Derived.Test.YtiimofjemiffgaaDoorA3J
import Derived.Maps.RangeWalk
set_option linter.unusedVariables false
set_option linter.unusedSimpArgs false
namespace Go.Proofs.YtiimofjemiffgaaDoor
open Go.ChangeShapes Go.WideShapes Go.ChangeAt Go.RowKit
def opS : List Value := [.string ⟨#[124, 124]⟩, .string ⟨#[38, 38]⟩, .string ⟨#[61, 61]⟩, .string ⟨#[33, 61]⟩, .string ⟨#[60]⟩, .string ⟨#[60, 61]⟩, .string ⟨#[62]⟩, .string ⟨#[62, 61]⟩, .string ⟨#[43]⟩, .string ⟨#[45]⟩, .string ⟨#[42]⟩, .string ⟨#[47]⟩, .string ⟨#[37]⟩]
def opN : List Value := [.int .i64 0, .int .i64 1, .int .i64 2, .int .i64 2, .int .i64 2, .int .i64 2, .int .i64 2, .int .i64 2, .int .i64 3, .int .i64 3, .int .i64 4, .int .i64 4, .int .i64 4]
def opO : List Value := [.int .i64 17, .int .i64 16, .int .i64 14, .int .i64 15, .int .i64 10, .int .i64 11, .int .i64 12, .int .i64 13, .int .i64 8, .int .i64 9, .int .i64 5, .int .i64 6, .int .i64 7]
theorem lt13 {P : Nat → Prop} (h : P 0 ∧ P 1 ∧ P 2 ∧ P 3 ∧ P 4 ∧ P 5 ∧ P 6 ∧ P 7 ∧ P 8 ∧ P 9 ∧ P 10 ∧ P 11 ∧ P 12) (j : Nat) (hj : j < 13) : P j := by
 obtain ⟨h0, h1, h2, h3, h4, h5, h6, h7, h8, h9, h10, h11, h12⟩ := h
 match j, hj with
 | 0, _ => exact h0
 | 1, _ => exact h1
 | 2, _ => exact h2
 | 3, _ => exact h3
 | 4, _ => exact h4
 | 5, _ => exact h5
 | 6, _ => exact h6
 | 7, _ => exact h7
 | 8, _ => exact h8
 | 9, _ => exact h9
 | 10, _ => exact h10
 | 11, _ => exact h11
 | 12, _ => exact h12
theorem opS_at : ∀ j, j < 13 → opS[j]? = some (.string (bytes (sgnL.getD j []))) := lt13 ⟨rfl, rfl, rfl, rfl, rfl, rfl, rfl, rfl, rfl, rfl, rfl, rfl, rfl⟩
theorem opN_at : ∀ j, j < 13 → opN[j]? = some (.int .i64 (strL'.getD j 0)) := lt13 ⟨rfl, rfl, rfl, rfl, rfl, rfl, rfl, rfl, rfl, rfl, rfl, rfl, rfl⟩
theorem opO_at : ∀ j, j < 13 → opO[j]? = some (.int .i64 (opsL.getD j 0)) := lt13 ⟨rfl, rfl, rfl, rfl, rfl, rfl, rfl, rfl, rfl, rfl, rfl, rfl, rfl⟩
theorem sgn_two : ∀ j, j < 13 → (bytes (sgnL.getD j [])).size ≤ 2 := lt13 ⟨by decide, by decide, by decide, by decide, by decide, by decide, by decide, by decide, by decide, by decide, by decide, by decide, by decide⟩
theorem alloc_new (w : World) (l : List Value) (T : TypeId) (j : Nat) : (w.alloc (Obj.cells l.toArray T)).cell? ⟨w.heap.size, j, none⟩ = l[j]? := by simp [go_sem]
theorem alloc_cellE (w : World) (o : Obj) (a : Addr) (h : a.block < w.heap.size) : (w.alloc o).cell? a = w.cell? a := (((Below.refl w.heap.size w).alloc (Nat.le_refl _) o).cell h)
theorem ops_str (a b : List UInt8) : ((⟨#[120, 32]⟩ : ByteArray) ++ bytes a ++ ⟨#[32, 121, 32]⟩ ++ bytes b ++ ⟨#[32, 122]⟩).data.toList = [120, 32] ++ a ++ [32, 121, 32] ++ b ++ [32, 122] := by simp [bytes]
theorem two_cells {w : World} {op num : Int} {name : ByteArray} {y z : AExpr} {xa : Option Addr} {xc : Nat} (h : ExprRep w (.mk op num name [y, z]) [.int .i64 op, .int .i64 num, .string name, .slice xa 2 xc]) :
  ∃ xb xo, xa = some ⟨xb, xo, none⟩ ∧ 2 ≤ xc ∧ w.cell? ⟨xb, xo, none⟩ = some (.int .i64 y.op) ∧ w.cell? ⟨xb, xo + 2, none⟩ = some (.string y.name) ∧ w.cell? ⟨xb, xo + 4, none⟩ = some (.int .i64 z.op) ∧ w.cell? ⟨xb, xo + 4 + 2, none⟩ = some (.string z.name) := by
 obtain ⟨v, he, hl⟩ := exprRep_iff.1 h
 simp only [List.cons.injEq, and_true, true_and] at he
 subst he
 obtain ⟨b, off, cap, row, h1, hc, h2, _, _, h3⟩ := hl.get (by omega) (k := 0) (by simp)
 obtain ⟨b', off', cap', row', h1', _, h2', _, _, h3'⟩ := hl.get (by omega) (k := 1) (by simp)
 cases h1
 cases h1'
 simp only [List.getElem_cons_zero, List.getElem_cons_succ] at h2 h2'
 cases y with
 | mk o1 n1 m1 a1 =>
 cases z with
 | mk o2 n2 m2 a2 =>
 obtain ⟨_, rfl, _⟩ := exprRep_iff.1 h2
 obtain ⟨_, rfl, _⟩ := exprRep_iff.1 h2'
 exact ⟨b, off, rfl, hc, by simpa [AExpr.op] using h3 0 _ rfl, by simpa [AExpr.name] using h3 2 _ rfl, by simpa [AExpr.op] using h3' 0 _ rfl, by simpa [AExpr.name] using h3' 2 _ rfl⟩
theorem cell_keep {w w' : World} {X : Nat} {a : Addr} {u : Value} (h : w.cell? a = some u) (hk : Keep [X] w w') (hn : a.block ≠ X) : w'.cell? a = some u := by
 rw [hk.cell (cell_lt h) (by simpa using hn)]; exact h
def Four (w : World) (X : Nat) : Prop := X < w.heap.size ∧ ∀ o, 4 ≤ o → w.cell? ⟨X, o, none⟩ = none
theorem four_new (w : World) (u0 u1 u2 u3 : Value) (T : TypeId) : Four (w.alloc (.cells #[u0, u1, u2, u3] T)) w.heap.size := by
 refine ⟨by simp, fun o ho => ?_⟩
 have := alloc_new w [u0, u1, u2, u3] T o
 rw [show (Obj.cells #[u0, u1, u2, u3] T) = Obj.cells ([u0, u1, u2, u3] : List Value).toArray T from rfl, this]
 exact List.getElem?_eq_none (by simpa using ho)
theorem Four.below {w w' : World} {X : Nat} (h : Four w X) (hb : Below w.heap.size w w') : Four w' X :=
 ⟨Nat.lt_of_lt_of_le h.1 hb.size, fun o ho => by rw [hb.cell (p := ⟨X, o, none⟩) h.1]; exact h.2 o ho⟩
theorem Four.ne {w : World} {X xb xo : Nat} {u : Value} (h : Four w X) (hc : w.cell? ⟨xb, xo + 4, none⟩ = some u) : xb ≠ X := by
 rintro rfl
 rw [h.2 _ (by omega)] at hc; cases hc
def Two (w : World) (xb xo : Nat) (y z : AExpr) : Prop := w.cell? ⟨xb, xo, none⟩ = some (.int .i64 y.op) ∧ w.cell? ⟨xb, xo + 2, none⟩ = some (.string y.name) ∧ w.cell? ⟨xb, xo + 4, none⟩ = some (.int .i64 z.op) ∧ w.cell? ⟨xb, xo + 4 + 2, none⟩ = some (.string z.name)
theorem Two.below {w w' : World} {xb xo : Nat} {y z : AExpr} (h : Two w xb xo y z) (hb : Below w.heap.size w w') : Two w' xb xo y z :=
 ⟨cell_step h.1 hb, cell_step h.2.1 hb, cell_step h.2.2.1 hb, cell_step h.2.2.2 hb⟩
theorem Two.keep {w w' : World} {X xb xo : Nat} {y z : AExpr} (h : Two w xb xo y z) (hk : Keep [X] w w') (hn : xb ≠ X) : Two w' xb xo y z :=
 ⟨cell_keep h.1 hk hn, cell_keep h.2.1 hk hn, cell_keep h.2.2.1 hk hn, cell_keep h.2.2.2 hk hn⟩
set_option maxRecDepth 100000 in
set_option maxHeartbeats 6400000 in
theorem exprOperators_walk (a b : Int) (w : World) (he : Env w) (hes : EnvS w) :
  Calls Tryd.prog 4 #[.int .i64 a, .int .i64 b] w fun e w' => e = .returned (.bool true) ∧ Below w.heap.size w w' := by
 have HE := Lib.hid he
 have HES := Lib.hid hes
 clear he hes
 go_enter Tryd.func4, Tryd.ntmps4
 go_wp2_with fail
 refine (within_any a 13 _ (by omega) (by omega)).mono ?_
 rintro e w2 ⟨rfl, rfl⟩
 obtain ⟨A, hA⟩ : ∃ A : Nat, a % 13 = A := ⟨(a % 13).toNat, by omega⟩
 rw [hA]
 have hA13 : A < 13 := by omega
 go_wp2_with fail
 refine (within_any b 13 _ (by omega) (by omega)).mono ?_
 rintro e w2 ⟨rfl, rfl⟩
 obtain ⟨B, hB⟩ : ∃ B : Nat, b % 13 = B := ⟨(b % 13).toNat, by omega⟩
 rw [hB]
 have hB13 : B < 13 := by omega
 clear hA hB
 have hA1 : (A : Int) < 13 := by omega
 have hB1 : (B : Int) < 13 := by omega
 have qs : ∀ j, j < 13 → (((w.alloc (Obj.cells opS.toArray 9)).alloc (Obj.cells opN.toArray 3)).alloc (Obj.cells opO.toArray 3)).cell? ⟨w.heap.size, j, none⟩ = some (.string (bytes (sgnL.getD j []))) := by
  intro j hj
  rw [alloc_cellE _ _ _ (by simp; omega), alloc_cellE _ _ _ (by simp), alloc_new]
  exact opS_at j hj
 have qn : ∀ j, j < 13 → (((w.alloc (Obj.cells opS.toArray 9)).alloc (Obj.cells opN.toArray 3)).alloc (Obj.cells opO.toArray 3)).cell? ⟨w.heap.size + 1, j, none⟩ = some (.int .i64 (strL'.getD j 0)) := by
  intro j hj
  rw [alloc_cellE _ _ _ (by simp)]
  have := alloc_new (w.alloc (Obj.cells opS.toArray 9)) opN 3 j
  simp only [World.size_alloc] at this
  rw [this]
  exact opN_at j hj
 have qo : ∀ j, j < 13 → (((w.alloc (Obj.cells opS.toArray 9)).alloc (Obj.cells opN.toArray 3)).alloc (Obj.cells opO.toArray 3)).cell? ⟨w.heap.size + 1 + 1, j, none⟩ = some (.int .i64 (opsL.getD j 0)) := by
  intro j hj
  have := alloc_new ((w.alloc (Obj.cells opS.toArray 9)).alloc (Obj.cells opN.toArray 3)) opO 3 j
  simp only [World.size_alloc] at this
  rw [this]
  exact opO_at j hj
 have HB0 := Lib.hid ((((Below.refl w.heap.size w).alloc (Nat.le_refl _) (Obj.cells opS.toArray 9)).alloc (by simp) (Obj.cells opN.toArray 3)).alloc (by simp; omega) (Obj.cells opO.toArray 3))
 have hz3 : (((w.alloc (Obj.cells opS.toArray 9)).alloc (Obj.cells opN.toArray 3)).alloc (Obj.cells opO.toArray 3)).heap.size = w.heap.size + 3 := by simp
 go_wp2_with fail
 simp only [opS, opN, opO] at qs qn qo HB0 hz3
 generalize ((w.alloc (Obj.cells #[Value.string { data := #[124, 124] }, Value.string { data := #[38, 38] }, Value.string { data := #[61, 61] }, Value.string { data := #[33, 61] }, Value.string { data := #[60] }, Value.string { data := #[60, 61] }, Value.string { data := #[62] }, Value.string { data := #[62, 61] }, Value.string { data := #[43] }, Value.string { data := #[45] }, Value.string { data := #[42] }, Value.string { data := #[47] }, Value.string { data := #[37] }] 9)).alloc (Obj.cells #[Value.int IntKind.i64 0, Value.int IntKind.i64 1, Value.int IntKind.i64 2, Value.int IntKind.i64 2, Value.int IntKind.i64 2, Value.int IntKind.i64 2, Value.int IntKind.i64 2, Value.int IntKind.i64 2, Value.int IntKind.i64 3, Value.int IntKind.i64 3, Value.int IntKind.i64 4, Value.int IntKind.i64 4, Value.int IntKind.i64 4] 3)).alloc (Obj.cells #[Value.int IntKind.i64 17, Value.int IntKind.i64 16, Value.int IntKind.i64 14, Value.int IntKind.i64 15, Value.int IntKind.i64 10, Value.int IntKind.i64 11, Value.int IntKind.i64 12, Value.int IntKind.i64 13, Value.int IntKind.i64 8, Value.int IntKind.i64 9, Value.int IntKind.i64 5, Value.int IntKind.i64 6, Value.int IntKind.i64 7] 3) = w3 at qs qn qo HB0 hz3 ⊢
 obtain ⟨S, hS⟩ : ∃ S, S = w.heap.size := ⟨_, rfl⟩
 rw [← hS] at qs qn qo hz3 ⊢
 have HZ3 := Lib.hid hz3
 clear hz3
 have qsA := qs A hA13
 have qsB := qs B hB13
 obtain ⟨L, x, xk, hlx, hpx, hel, hLn, hox⟩ := ops_one A B hA13 hB13
 obtain ⟨y, z, hargs, ho1, ho2⟩ := opsX_two hox
 obtain ⟨sA, hsA⟩ : ∃ sA, sA = sgnL.getD A [] := ⟨_, rfl⟩
 obtain ⟨sB, hsB⟩ : ∃ sB, sB = sgnL.getD B [] := ⟨_, rfl⟩
 rw [← hsA] at qsA
 rw [← hsB] at qsB
 have hA2 : (bytes sA).size ≤ 2 := by rw [hsA]; exact sgn_two A hA13
 have hB2 : (bytes sB).size ≤ 2 := by rw [hsB]; exact sgn_two B hB13
 have HLX : Hid (lexL ((⟨#[120, 32]⟩ : ByteArray) ++ bytes sA ++ ⟨#[32, 121, 32]⟩ ++ bytes sB ++ ⟨#[32, 122]⟩).data.toList = .ok L) := Lib.hid (by rw [ops_str, hsA, hsB]; exact hlx)
 have HPX := Lib.hid hpx
 have HEL := Lib.hid hel
 have HLN := Lib.hid hLn
 have HO1 := Lib.hid ho1
 have HO2 := Lib.hid ho2
 obtain ⟨n0, hn0⟩ : ∃ n0, n0 = strL'.getD A 0 := ⟨_, rfl⟩
 obtain ⟨n1, hn1⟩ : ∃ n1, n1 = strL'.getD B 0 := ⟨_, rfl⟩
 obtain ⟨o0, ho0⟩ : ∃ o0, o0 = opsL.getD A 0 := ⟨_, rfl⟩
 obtain ⟨o1, ho1'⟩ : ∃ o1, o1 = opsL.getD B 0 := ⟨_, rfl⟩
 have qn0 := qn A hA13
 have qn1 := qn B hB13
 have qo0 := qo A hA13
 have qo1 := qo B hB13
 rw [← hn0] at qn0 HO1 HO2
 rw [← hn1] at qn1 HO1 HO2
 rw [← ho0] at qo0 HO1 HO2
 rw [← ho1'] at qo1 HO1 HO2
 have HQ := Lib.hid (And.intro qn0 (And.intro qn1 (And.intro qo0 qo1)))
 cases x with
 | mk xop xnum xnm xargs =>
 obtain rfl : xargs = [y, z] := hargs
 clear qs qn qo hS hsA hsB hlx hpx hel hLn hox ho1 ho2 hn0 hn1 ho0 ho1' qn0 qn1 qo0 qo1
 refine wp_region_held_drew (S := fun w' => w'.cell? ⟨S, A, none⟩ = some (.string (bytes sA)) ∧ w'.cell? ⟨S, B, none⟩ = some (.string (bytes sB))) (by kernel_rfl) ⟨qsA, qsB⟩ (fun hHeld => ?_)
 have HBK : Hid (Below w3.heap.size w3 w3.drew) := Lib.hid (Below.refl _ _).drew
 clear qsA qsB
 generalize w3.drew = w4 at hHeld HBK ⊢
 refine held_take 0 (v := ?vv1) (by kernel_rfl) rfl (by rfl) (by kernel_rfl) (by kernel_rfl) (fun _ _ _ h => h) ?hyy1 (by assumption) ?rest1
 case hyy1 => (intro w hSw; (try dsimp only at hSw); go_simp; (try with_reducible rfl))
 (try go_frame)
 refine held_take 1 (v := ?vv2) (by kernel_rfl) rfl (by rfl) (by kernel_rfl) (by kernel_rfl) (fun _ _ _ h => h) ?hyy2 (by assumption) ?rest2
 case hyy2 => (intro w hSw; (try dsimp only at hSw); go_simp; (try with_reducible rfl))
 (try go_frame)
 refine held_take 2 (v := ?vv3) (by kernel_rfl) rfl (by rfl) (by kernel_rfl) (by kernel_rfl) (fun _ _ _ h => h) ?hyy3 (by assumption) ?rest3
 case hyy3 => (intro w hSw; (try dsimp only at hSw); go_simp; (try with_reducible rfl))
 (try go_frame)
 refine held_take 3 (v := ?vv4) (by kernel_rfl) rfl (by rfl) (by kernel_rfl) (by kernel_rfl) (fun _ _ _ h => h) ?hyy4 (by assumption) ?rest4
 case hyy4 => (intro w hSw; (try dsimp only at hSw); go_simp; (try with_reducible rfl))
 (try go_frame)
 refine held_take 4 (v := ?vv5) (by kernel_rfl) rfl (by rfl) (by kernel_rfl) (by kernel_rfl) (fun _ _ _ h => h) ?hyy5 (by assumption) ?rest5
 case hyy5 => (intro w hSw; (try dsimp only at hSw); go_simp; (try (rw [if_neg (by (try simp only [ByteArray.size_append]); (try simp only [ByteArray.size, List.size_toArray, List.length_cons, List.length_nil] at hA2 hB2 ⊢); omega)])); (try with_reducible rfl))
 (try go_frame)
 refine held_take 5 (v := ?vv6) (by kernel_rfl) rfl (by rfl) (by kernel_rfl) (by kernel_rfl) (fun _ _ _ h => h) ?hyy6 (by assumption) ?rest6
 case hyy6 => (intro w hSw; (try dsimp only at hSw); go_simp; (try (rw [if_neg (by (try simp only [ByteArray.size_append]); (try simp only [ByteArray.size, List.size_toArray, List.length_cons, List.length_nil] at hA2 hB2 ⊢); omega)])); (try with_reducible rfl))
 (try go_frame)
 refine held_take 6 (v := ?vv7) (by kernel_rfl) rfl (by rfl) (by kernel_rfl) (by kernel_rfl) (fun _ _ _ h => h) ?hyy7 (by assumption) ?rest7
 case hyy7 => (intro w hSw; (try dsimp only at hSw); go_simp; (try with_reducible rfl))
 (try go_frame)
 refine held_take 7 (v := ?vv8) (by kernel_rfl) rfl (by rfl) (by kernel_rfl) (by kernel_rfl) (fun _ _ _ h => h) ?hyy8 (by assumption) ?rest8
 case hyy8 => (intro w hSw; (try dsimp only at hSw); go_simp; (try with_reducible rfl))
 (try go_frame)
 refine held_take 8 (v := ?vv9) (by kernel_rfl) rfl (by rfl) (by kernel_rfl) (by kernel_rfl) (fun _ _ _ h => h) ?hyy9 (by assumption) ?rest9
 case hyy9 => (intro w hSw; (try dsimp only at hSw); go_simp; (try with_reducible rfl))
 (try go_frame)
 refine held_take 9 (v := ?vv10) (by kernel_rfl) rfl (by rfl) (by kernel_rfl) (by kernel_rfl) (fun _ _ _ h => h) ?hyy10 (by assumption) ?rest10
 case hyy10 => (intro w hSw; (try dsimp only at hSw); go_simp; (try with_reducible rfl))
 (try go_frame)
 refine held_take 10 (v := ?vv11) (by kernel_rfl) rfl (by rfl) (by kernel_rfl) (by kernel_rfl) (fun _ _ _ h => h) ?hyy11 (by assumption) ?rest11
 case hyy11 => (intro w hSw; (try dsimp only at hSw); go_simp; (try (rw [if_neg (by (try simp only [ByteArray.size_append]); (try simp only [ByteArray.size, List.size_toArray, List.length_cons, List.length_nil] at hA2 hB2 ⊢); omega)])); (try with_reducible rfl))
 (try go_frame)
 refine held_take 11 (v := ?vv12) (by kernel_rfl) rfl (by rfl) (by kernel_rfl) (by kernel_rfl) (fun _ _ _ h => h) ?hyy12 (by assumption) ?rest12
 case hyy12 => (intro w hSw; (try dsimp only at hSw); go_simp; (try (rw [if_neg (by (try simp only [ByteArray.size_append]); (try simp only [ByteArray.size, List.size_toArray, List.length_cons, List.length_nil] at hA2 hB2 ⊢); omega)])); (try with_reducible rfl))
 (try go_frame)
 refine held_two 12 18 (by kernel_rfl) rfl rfl (by rfl) (by rfl) (fun K' hK => ?_) (fun K' hK => ?_)
 ·go_simp
  refine (tokens_ok _ L w4 (by (try simp only [ByteArray.size_append]); (try simp only [ByteArray.size, List.size_toArray, List.length_cons, List.length_nil] at hA2 hB2 ⊢); omega) HLX.out).mono ?_
  rintro e w5 ⟨⟨v5, rfl, r5⟩, hbb⟩
  (try dsimp only)
  refine hK.out _ _ ⟨cell_step hHeld.1 hbb, cell_step hHeld.2 hbb⟩ (fun hHeld' => ?_)
  clear hK K' hHeld
  have hHeld := hHeld'
  clear hHeld'
  have HBK' := Lib.hid (Below.step HBK.out hbb)
  clear HBK
  have HBK := HBK'
  clear HBK'
  have HRW := Lib.hid r5
  clear r5 hbb
  (try go_frame)
  refine held_two 13 18 (by kernel_rfl) rfl rfl (by rfl) (by rfl) (fun K' hK => ?_) (fun K' hK => ?_)
  ·go_simp
   refine (exprParse_ok L v5 0 [] w5 (row_h HRW.out) HEL.out (by have := HLN.out; omega) (by have := HLN.out; omega) (by simp)).mono ?_
   rintro e w6 ⟨hp, hkk⟩
   rw [HPX.out] at hp
   obtain ⟨xa, xc, rfl, xr⟩ := (show ∃ (a : Option Addr) (c : Nat), e = .returned (.tuple #[.agg #[.int .i64 xop, .int .i64 xnum, .string xnm, .slice a 2 c], .int .i64 xk, .int .i64 0]) ∧ ExprRep _ (.mk xop xnum xnm [y, z]) [.int .i64 xop, .int .i64 xnum, .string xnm, .slice a 2 c] from hp)
   have hbb := keep_bel hkk
   (try dsimp only)
   refine hK.out _ _ ⟨cell_step hHeld.1 hbb, cell_step hHeld.2 hbb⟩ (fun hHeld' => ?_)
   clear hK K' hHeld
   have hHeld := hHeld'
   clear hHeld'
   have HBK' := Lib.hid (Below.step HBK.out hbb)
   clear HBK
   have HBK := HBK'
   clear HBK'
   have HRW' := Lib.hid (HRW.out.below hbb (Nat.le_refl _))
   clear HRW
   have HRW := HRW'
   clear HRW'
   obtain ⟨xb, xo, rfl, hxc, htw⟩ := two_cells (ExprRep.mono unhide _ xr)
   have HTW : Hid (Two _ xb xo y z) := Lib.hid htw
   clear hbb hkk xr HRW htw
   (try go_frame)
   refine held_take 14 (v := ?vv13) (by kernel_rfl) rfl (by rfl) (by kernel_rfl) (by kernel_rfl) (fun _ _ _ h => h) ?hyy13 (by assumption) ?rest13
   case hyy13 => (intro w hSw; (try dsimp only at hSw); go_simp; (try with_reducible rfl))
   (try go_frame)
   refine held_take 15 (v := ?vv14) (by kernel_rfl) rfl (by rfl) (by kernel_rfl) (by kernel_rfl) (fun _ _ _ h => h) ?hyy14 (by assumption) ?rest14
   case hyy14 => (intro w hSw; (try dsimp only at hSw); go_simp; (try with_reducible rfl))
   (try go_frame)
   refine held_take 16 (v := ?vv15) (by kernel_rfl) rfl (by rfl) (by kernel_rfl) (by kernel_rfl) (fun _ _ _ h => h) ?hyy15 (by assumption) ?rest15
   case hyy15 => (intro w hSw; (try dsimp only at hSw); go_simp; (try with_reducible rfl))
   (try go_frame)
   refine held_take 17 (v := ?vv16) (by kernel_rfl) rfl (by rfl) (by kernel_rfl) (by kernel_rfl) (fun _ _ _ h => h) ?hyy16 (by assumption) ?rest16
   case hyy16 => (intro w hSw; (try dsimp only at hSw); go_simp; (try with_reducible rfl))
   (try go_frame)
   refine held_one 18 (by kernel_rfl) rfl (by rfl) (fun K' hK => ?_)
   go_simp
   have HSZ : Hid (w3.heap.size ≤ w6.heap.size) := Lib.hid HBK.out.size
   have hbb := (Below.refl w6.heap.size w6).alloc (Nat.le_refl _) (.cells #[.int .i64 0, .int .i64 0, .string ⟨#[]⟩, .slice none 0 0] 34)
   refine hK.out _ _ ⟨cell_step hHeld.1 hbb, cell_step hHeld.2 hbb⟩ (fun hHeld' => ?_)
   clear hK K' hHeld
   have hHeld := hHeld'
   clear hHeld'
   have HBK' := Lib.hid (Below.step HBK.out hbb)
   clear HBK
   have HBK := HBK'
   clear HBK'
   have HTW' := Lib.hid (HTW.out.below hbb)
   clear HTW
   have HTW := HTW'
   clear HTW'
   have HFR := Lib.hid (four_new w6 (.int .i64 0) (.int .i64 0) (.string ⟨#[]⟩) (.slice none 0 0) 34)
   have HBX := Lib.hid (box4_new w6 (.int .i64 0) (.int .i64 0) (.string ⟨#[]⟩) (.slice none 0 0) 34)
   clear hbb
   generalize w6.alloc (.cells #[.int .i64 0, .int .i64 0, .string ⟨#[]⟩, .slice none 0 0] 34) = w7 at hHeld HBK HBX HFR HTW ⊢
   (try go_frame)
   have bx := HBX.out
   unfold Box4 at bx
   refine held_one 19 (by kernel_rfl) rfl (by rfl) (fun K' hK => ?_)
   go_simp
   clear bx
   have hkp : Keep [w6.heap.size] w7 ((((w7.setCell ⟨w6.heap.size, 0, none⟩ (.int .i64 xop)).setCell ⟨w6.heap.size, 1, none⟩ (.int .i64 xnum)).setCell ⟨w6.heap.size, 2, none⟩ (.string xnm)).setCell ⟨w6.heap.size, 3, none⟩ (.slice (some ⟨xb, xo, none⟩) 2 xc)) := keep4 _ _ _ _ _ _
   have hw3 : w3.heap.size ≤ w6.heap.size := HSZ.out
   have HBK' : Hid (Below w3.heap.size w3 ((((w7.setCell ⟨w6.heap.size, 0, none⟩ (.int .i64 xop)).setCell ⟨w6.heap.size, 1, none⟩ (.int .i64 xnum)).setCell ⟨w6.heap.size, 2, none⟩ (.string xnm)).setCell ⟨w6.heap.size, 3, none⟩ (.slice (some ⟨xb, xo, none⟩) 2 xc))) := Lib.hid (HBK.out.trans (hkp.below HBK.out.size (by intro q hq; simp at hq; subst hq; exact hw3)))
   have h1 := cell_keep hHeld.1 hkp (by have := HZ3.out; show S ≠ _; omega)
   have h2 := cell_keep hHeld.2 hkp (by have := HZ3.out; show S ≠ _; omega)
   have HBX' := Lib.hid (box4_put HBX.out (.int .i64 xop) (.int .i64 xnum) (.string xnm) (.slice (some ⟨xb, xo, none⟩) 2 xc))
   have HTW' := Lib.hid (HTW.out.keep hkp (HFR.out.ne HTW.out.2.2.1))
   refine hK.out _ _ ⟨h1, h2⟩ (fun hHeld' => ?_)
   clear hK K' hHeld h1 h2 hkp hw3
   (try go_frame)
   refine held_take 20 (v := ?vv17) (by kernel_rfl) rfl (by rfl) (by kernel_rfl) (by kernel_rfl) (fun _ _ _ h => h) ?hyy17 (by assumption) ?rest17
   case hyy17 => (intro w hSw; (try dsimp only at hSw); go_simp; (try with_reducible rfl))
   (try go_frame)
   refine held_take 21 (v := ?vv18) (by kernel_rfl) rfl (by rfl) (by kernel_rfl) (by kernel_rfl) (fun _ _ _ h => h) ?hyy18 (by assumption) ?rest18
   case hyy18 => (intro w hSw; (try dsimp only at hSw); go_simp; (try with_reducible rfl))
   (try go_frame)
   clear hHeld'
   refine wpAnyH_done (by kernel_rfl) ?_ _
   generalize (((w7.setCell ⟨w6.heap.size, 0, none⟩ (.int .i64 xop)).setCell ⟨w6.heap.size, 1, none⟩ (.int .i64 xnum)).setCell ⟨w6.heap.size, 2, none⟩ (.string xnm)).setCell ⟨w6.heap.size, 3, none⟩ (.slice (some ⟨xb, xo, none⟩) 2 xc) = w8 at HBK' HBX' HTW' ⊢
   generalize w6.heap.size = BX at HBX' ⊢
   have HB8 := HBK'
   have bx := HBX'.out
   have tw := HTW'.out
   unfold Box4 at bx
   unfold Two at tw
   obtain ⟨x0, _, _, x3, _⟩ := bx
   obtain ⟨y0, y2, z0, z2⟩ := tw
   have HE8 := Lib.hid (HE.out.below (HB0.out.trans (HB8.out.mono HB0.out.size)) HE.out.size)
   clear HBK HBX HTW HFR HBK' HBX' HTW'
   go_wp2_with fail
   obtain ⟨g0, g1, g2, g3⟩ := HQ.out
   have m0 := cell_stepB g0 HB8.out (by have := HZ3.out; show S + 1 < _; omega)
   have m1 := cell_stepB g1 HB8.out (by have := HZ3.out; show S + 1 < _; omega)
   have m2 := cell_stepB g2 HB8.out (by have := HZ3.out; show S + 1 + 1 < _; omega)
   have m3 := cell_stepB g3 HB8.out (by have := HZ3.out; show S + 1 + 1 < _; omega)
   clear g0 g1 g2 g3
   by_cases hge : n1 ≤ n0
   ·obtain ⟨e1, e2, e3⟩ := HO1.out hge
    have hgb : decide (n1 ≤ n0) = true := decide_eq_true hge
    have t1 : (xop == o1) = true := by rw [beq_iff_eq]; exact e1
    have t2 : (y.op == o0) = true := by rw [beq_iff_eq]; exact e2
    have t3 := strL_true e3
    clear e1 e2 e3
    go_quiet (fail)
    go_wp2_with fail
    have hbd : Below w8.heap.size w8 (w8.drewN nq) := below_drewN (Below.refl _ _)
    have x0' := cell_step x0 hbd
    have x3' := cell_step x3 hbd
    have y0' := cell_step y0 hbd
    have z2' := cell_step z2 hbd
    have m2' := cell_step m2 hbd
    have m3' := cell_step m3 hbd
    have HB9' := Lib.hid (Below.step HB8.out hbd)
    clear x0 x3 y0 y2 z0 z2 m0 m1 m2 m3 hbd HE8 HB8
    generalize w8.drewN nq = w9a at x0' x3' y0' z2' m2' m3' HB9' ⊢
    refine wp_region_held_drew (S := fun w' => w'.cell? ⟨BX, 0, none⟩ = some (.int .i64 xop) ∧ w'.cell? ⟨BX, 3, none⟩ = some (.slice (some ⟨xb, xo, none⟩) 2 xc) ∧ w'.cell? ⟨xb, xo, none⟩ = some (.int .i64 y.op) ∧ w'.cell? ⟨xb, xo + 4 + 2, none⟩ = some (.string z.name) ∧ w'.cell? ⟨S + 1 + 1, A, none⟩ = some (.int .i64 o0) ∧ w'.cell? ⟨S + 1 + 1, B, none⟩ = some (.int .i64 o1)) (by kernel_rfl) ⟨x0', x3', y0', z2', m2', m3'⟩ (fun hHeld => ?_)
    clear x0' x3' y0' z2' m2' m3'
    have HB9 : Hid (Below w3.heap.size w3 w9a.drew) := Lib.hid HB9'.out.drew
    clear HB9'
    generalize w9a.drew = w9 at hHeld HB9 ⊢
    have HE9 : Hid (Env w9) := Lib.hid (HE.out.below (HB0.out.trans (HB9.out.mono HB0.out.size)) HE.out.size)
    have HS9 : Hid (EnvS w9) := Lib.hid (HES.out.below (HB0.out.trans (HB9.out.mono HB0.out.size)))
    refine held_take 0 (v := ?vv19) (by kernel_rfl) rfl (by rfl) (by kernel_rfl) (by kernel_rfl) (fun _ _ _ h => h) ?hyy19 (by assumption) ?rest19
    case hyy19 => (intro w hSw; (try dsimp only at hSw); go_simp; (try with_reducible rfl))
    (try go_frame)
    refine held_take 1 (v := ?vv20) (by kernel_rfl) rfl (by rfl) (by kernel_rfl) (by kernel_rfl) (fun _ _ _ h => h) ?hyy20 (by assumption) ?rest20
    case hyy20 => (intro w hSw; (try dsimp only at hSw); go_simp; (try with_reducible rfl))
    (try go_frame)
    refine held_take 2 (v := ?vv21) (by kernel_rfl) rfl (by rfl) (by kernel_rfl) (by kernel_rfl) (fun _ _ _ h => h) ?hyy21 (by assumption) ?rest21
    case hyy21 => (intro w hSw; (try dsimp only at hSw); go_simp; (try with_reducible rfl))
    (try go_frame)
    refine held_take 3 (v := ?vv22) (by kernel_rfl) rfl (by rfl) (by kernel_rfl) (by kernel_rfl) (fun _ _ _ h => h) ?hyy22 (by assumption) ?rest22
    case hyy22 => (intro w hSw; (try dsimp only at hSw); go_simp; (try with_reducible rfl))
    (try go_frame)
    refine held_take 4 (v := ?vv23) (by kernel_rfl) rfl (by rfl) (by kernel_rfl) (by kernel_rfl) (fun _ _ _ h => h) ?hyy23 (by assumption) ?rest23
    case hyy23 => (intro w hSw; (try dsimp only at hSw); go_simp; (try with_reducible rfl))
    (try go_frame)
    refine held_take 5 (v := ?vv24) (by kernel_rfl) rfl (by rfl) (by kernel_rfl) (by kernel_rfl) (fun _ _ _ h => h) ?hyy24 (by assumption) ?rest24
    case hyy24 => (intro w hSw; (try dsimp only at hSw); go_simp; (try with_reducible rfl))
    (try go_frame)
    refine held_take 6 (v := ?vv25) (by kernel_rfl) rfl (by rfl) (by kernel_rfl) (by kernel_rfl) (fun _ _ _ h => h) ?hyy25 (by assumption) ?rest25
    case hyy25 => (intro w hSw; (try dsimp only at hSw); go_simp; (try with_reducible rfl))
    (try go_frame)
    refine held_take 7 (v := ?vv26) (by kernel_rfl) rfl (by rfl) (by kernel_rfl) (by kernel_rfl) (fun _ _ _ h => h) ?hyy26 (by assumption) ?rest26
    case hyy26 => (intro w hSw; (try dsimp only at hSw); go_simp; (try with_reducible rfl))
    (try go_frame)
    refine held_take 8 (v := ?vv27) (by kernel_rfl) rfl (by rfl) (by kernel_rfl) (by kernel_rfl) (fun _ _ _ h => h) ?hyy27 (by assumption) ?rest27
    case hyy27 => (intro w hSw; (try dsimp only at hSw); go_simp; (try with_reducible rfl))
    (try go_frame)
    refine held_take 9 (v := ?vv28) (by kernel_rfl) rfl (by rfl) (by kernel_rfl) (by kernel_rfl) (fun _ _ _ h => h) ?hyy28 (by assumption) ?rest28
    case hyy28 => (intro w hSw; (try dsimp only at hSw); go_simp; (try with_reducible rfl))
    (try go_frame)
    refine held_take 10 (v := ?vv29) (by kernel_rfl) rfl (by rfl) (by kernel_rfl) (by kernel_rfl) (fun _ _ _ h => h) ?hyy29 (by assumption) ?rest29
    case hyy29 => (intro w hSw; (try dsimp only at hSw); go_simp; (try with_reducible rfl))
    (try go_frame)
    refine held_take 11 (v := ?vv30) (by kernel_rfl) rfl (by rfl) (by kernel_rfl) (by kernel_rfl) (fun _ _ _ h => h) ?hyy30 (by assumption) ?rest30
    case hyy30 => (intro w hSw; (try dsimp only at hSw); go_simp; (try with_reducible rfl))
    (try go_frame)
    refine held_take 12 (v := ?vv31) (by kernel_rfl) rfl (by rfl) (by kernel_rfl) (by kernel_rfl) (fun _ _ _ h => h) ?hyy31 (by assumption) ?rest31
    case hyy31 => (intro w hSw; (try dsimp only at hSw); go_simp; (try with_reducible rfl))
    (try go_frame)
    refine held_take 13 (v := ?vv32) (by kernel_rfl) rfl (by rfl) (by kernel_rfl) (by kernel_rfl) (fun _ _ _ h => h) ?hyy32 (by assumption) ?rest32
    case hyy32 => (intro w hSw; (try dsimp only at hSw); go_simp; (try with_reducible rfl))
    (try go_frame)
    refine held_take 14 (v := ?vv33) (by kernel_rfl) rfl (by rfl) (by kernel_rfl) (by kernel_rfl) (fun _ _ _ h => h) ?hyy33 (by assumption) ?rest33
    case hyy33 => (intro w hSw; (try dsimp only at hSw); go_simp; (try with_reducible rfl))
    (try go_frame)
    refine held_take 15 (v := ?vv34) (by kernel_rfl) rfl (by rfl) (by kernel_rfl) (by kernel_rfl) (fun _ _ _ h => h) ?hyy34 (by assumption) ?rest34
    case hyy34 => (intro w hSw; (try dsimp only at hSw); go_simp; (try with_reducible rfl))
    (try go_frame)
    refine held_take 16 (v := ?vv35) (by kernel_rfl) rfl (by rfl) (by kernel_rfl) (by kernel_rfl) (fun _ _ _ h => h) ?hyy35 (by assumption) ?rest35
    case hyy35 => (intro w hSw; (try dsimp only at hSw); go_simp; (try with_reducible rfl))
    (try go_frame)
    refine held_take 17 (v := ?vv36) (by kernel_rfl) rfl (by rfl) (by kernel_rfl) (by kernel_rfl) (fun _ _ _ h => h) ?hyy36 (by assumption) ?rest36
    case hyy36 => (intro w hSw; (try dsimp only at hSw); go_simp; (try with_reducible rfl))
    (try go_frame)
    refine held_take 18 (v := ?vv37) (by kernel_rfl) rfl (by rfl) (by kernel_rfl) (by kernel_rfl) (fun _ _ _ h => h) ?hyy37 (by assumption) ?rest37
    case hyy37 => (intro w hSw; (try dsimp only at hSw); go_simp; (try with_reducible rfl))
    (try go_frame)
    refine held_take 19 (v := ?vv38) (by kernel_rfl) rfl (by rfl) (by kernel_rfl) (by kernel_rfl) (fun _ _ _ h => h) ?hyy38 (by assumption) ?rest38
    case hyy38 => (intro w hSw; (try dsimp only at hSw); go_simp; (try with_reducible rfl))
    (try go_frame)
    refine held_take 20 (v := ?vv39) (by kernel_rfl) rfl (by rfl) (by kernel_rfl) (by kernel_rfl) (fun _ _ _ h => h) ?hyy39 (by assumption) ?rest39
    case hyy39 => (intro w hSw; (try dsimp only at hSw); go_simp; (try with_reducible rfl))
    (try go_frame)
    refine held_take 21 (v := ?vv40) (by kernel_rfl) rfl (by rfl) (by kernel_rfl) (by kernel_rfl) (fun _ _ _ h => h) ?hyy40 (by assumption) ?rest40
    case hyy40 => (intro w hSw; (try dsimp only at hSw); go_simp; (try with_reducible rfl))
    (try go_frame)
    refine held_take 22 (v := ?vv41) (by kernel_rfl) rfl (by rfl) (by kernel_rfl) (by kernel_rfl) (fun _ _ _ h => h) ?hyy41 (by assumption) ?rest41
    case hyy41 => (intro w hSw; (try dsimp only at hSw); go_simp; (try with_reducible rfl))
    (try go_frame)
    refine held_take 23 (v := ?vv42) (by kernel_rfl) rfl (by rfl) (by kernel_rfl) (by kernel_rfl) (fun _ _ _ h => h) ?hyy42 (by assumption) ?rest42
    case hyy42 => (intro w hSw; (try dsimp only at hSw); go_simp; (try with_reducible rfl))
    (try go_frame)
    refine held_take 24 (v := ?vv43) (by kernel_rfl) rfl (by rfl) (by kernel_rfl) (by kernel_rfl) (fun _ _ _ h => h) ?hyy43 (by assumption) ?rest43
    case hyy43 => (intro w hSw; (try dsimp only at hSw); go_simp; (try with_reducible rfl))
    (try go_frame)
    refine held_take 25 (v := ?vv44) (by kernel_rfl) rfl (by rfl) (by kernel_rfl) (by kernel_rfl) (fun _ _ _ h => h) ?hyy44 (by assumption) ?rest44
    case hyy44 => (intro w hSw; (try dsimp only at hSw); go_simp; (try with_reducible rfl))
    (try go_frame)
    refine held_take 26 (v := ?vv45) (by kernel_rfl) rfl (by rfl) (by kernel_rfl) (by kernel_rfl) (fun _ _ _ h => h) ?hyy45 (by assumption) ?rest45
    case hyy45 => (intro w hSw; (try dsimp only at hSw); go_simp; (try with_reducible rfl))
    (try go_frame)
    refine held_take 27 (v := ?vv46) (by kernel_rfl) rfl (by rfl) (by kernel_rfl) (by kernel_rfl) (fun _ _ _ h => h) ?hyy46 (by assumption) ?rest46
    case hyy46 => (intro w hSw; (try dsimp only at hSw); go_simp; (try with_reducible rfl))
    (try go_frame)
    refine held_one 28 (by kernel_rfl) rfl (by rfl) (fun K' hK => ?_)
    go_simp
    refine (awakeE w9 HE9.out HS9.out).mono ?_
    rintro e w10 ⟨rfl, hb10⟩
    (try dsimp only)
    obtain ⟨s0, s1, s2, s3, s4, s5⟩ := hHeld
    refine hK.out _ _ ⟨cell_step s0 hb10, cell_step s1 hb10, cell_step s2 hb10, cell_step s3 hb10, cell_step s4 hb10, cell_step s5 hb10⟩ (fun hHeld' => ?_)
    clear hK K' s0 s1 s2 s3 s4 s5
    (try go_frame)
    refine held_take 29 (v := ?vv47) (by kernel_rfl) rfl (by rfl) (by kernel_rfl) (by kernel_rfl) (fun _ _ _ h => h) ?hyy47 (by assumption) ?rest47
    case hyy47 => (intro w hSw; (try dsimp only at hSw); go_simp; (try with_reducible rfl))
    (try go_frame)
    refine held_take 30 (v := ?vv48) (by kernel_rfl) rfl (by rfl) (by kernel_rfl) (by kernel_rfl) (fun _ _ _ h => h) ?hyy48 (by assumption) ?rest48
    case hyy48 => (intro w hSw; (try dsimp only at hSw); go_simp; (try with_reducible rfl))
    (try go_frame)
    clear hHeld'
    refine wpAnyH_done (by kernel_rfl) ?_ _
    go_wp2_with fail
    go_ret
    exact ⟨rfl, HB0.out.trans ((HB9.out.mono HB0.out.size).trans (hb10.mono (Nat.le_trans HB0.out.size HB9.out.size)))⟩
   ·obtain ⟨e1, e2, e3⟩ := HO2.out (by omega)
    have hgb : decide (n1 ≤ n0) = false := decide_eq_false hge
    have t1 : (xop == o0) = true := by rw [beq_iff_eq]; exact e1
    have t2 : (z.op == o1) = true := by rw [beq_iff_eq]; exact e2
    have t3 := strL_true e3
    clear e1 e2 e3
    go_quiet (fail)
    go_wp2_with fail
    have hbd : Below w8.heap.size w8 (w8.drewN nq) := below_drewN (Below.refl _ _)
    have x0' := cell_step x0 hbd
    have x3' := cell_step x3 hbd
    have z0' := cell_step z0 hbd
    have y2' := cell_step y2 hbd
    have m2' := cell_step m2 hbd
    have m3' := cell_step m3 hbd
    have HB9' := Lib.hid (Below.step HB8.out hbd)
    clear x0 x3 y0 y2 z0 z2 m0 m1 m2 m3 hbd HE8 HB8
    generalize w8.drewN nq = w9a at x0' x3' z0' y2' m2' m3' HB9' ⊢
    refine wp_region_held_drew (S := fun w' => w'.cell? ⟨BX, 0, none⟩ = some (.int .i64 xop) ∧ w'.cell? ⟨BX, 3, none⟩ = some (.slice (some ⟨xb, xo, none⟩) 2 xc) ∧ w'.cell? ⟨xb, xo + 4, none⟩ = some (.int .i64 z.op) ∧ w'.cell? ⟨xb, xo + 2, none⟩ = some (.string y.name) ∧ w'.cell? ⟨S + 1 + 1, A, none⟩ = some (.int .i64 o0) ∧ w'.cell? ⟨S + 1 + 1, B, none⟩ = some (.int .i64 o1)) (by kernel_rfl) ⟨x0', x3', z0', y2', m2', m3'⟩ (fun hHeld => ?_)
    clear x0' x3' z0' y2' m2' m3'
    have HB9 : Hid (Below w3.heap.size w3 w9a.drew) := Lib.hid HB9'.out.drew
    clear HB9'
    generalize w9a.drew = w9 at hHeld HB9 ⊢
    have HE9 : Hid (Env w9) := Lib.hid (HE.out.below (HB0.out.trans (HB9.out.mono HB0.out.size)) HE.out.size)
    have HS9 : Hid (EnvS w9) := Lib.hid (HES.out.below (HB0.out.trans (HB9.out.mono HB0.out.size)))
    refine held_take 0 (v := ?vv49) (by kernel_rfl) rfl (by rfl) (by kernel_rfl) (by kernel_rfl) (fun _ _ _ h => h) ?hyy49 (by assumption) ?rest49
    case hyy49 => (intro w hSw; (try dsimp only at hSw); go_simp; (try with_reducible rfl))
    (try go_frame)
    refine held_take 1 (v := ?vv50) (by kernel_rfl) rfl (by rfl) (by kernel_rfl) (by kernel_rfl) (fun _ _ _ h => h) ?hyy50 (by assumption) ?rest50
    case hyy50 => (intro w hSw; (try dsimp only at hSw); go_simp; (try with_reducible rfl))
    (try go_frame)
    refine held_take 2 (v := ?vv51) (by kernel_rfl) rfl (by rfl) (by kernel_rfl) (by kernel_rfl) (fun _ _ _ h => h) ?hyy51 (by assumption) ?rest51
    case hyy51 => (intro w hSw; (try dsimp only at hSw); go_simp; (try with_reducible rfl))
    (try go_frame)
    refine held_take 3 (v := ?vv52) (by kernel_rfl) rfl (by rfl) (by kernel_rfl) (by kernel_rfl) (fun _ _ _ h => h) ?hyy52 (by assumption) ?rest52
    case hyy52 => (intro w hSw; (try dsimp only at hSw); go_simp; (try with_reducible rfl))
    (try go_frame)
    refine held_take 4 (v := ?vv53) (by kernel_rfl) rfl (by rfl) (by kernel_rfl) (by kernel_rfl) (fun _ _ _ h => h) ?hyy53 (by assumption) ?rest53
    case hyy53 => (intro w hSw; (try dsimp only at hSw); go_simp; (try with_reducible rfl))
    (try go_frame)
    refine held_take 5 (v := ?vv54) (by kernel_rfl) rfl (by rfl) (by kernel_rfl) (by kernel_rfl) (fun _ _ _ h => h) ?hyy54 (by assumption) ?rest54
    case hyy54 => (intro w hSw; (try dsimp only at hSw); go_simp; (try with_reducible rfl))
    (try go_frame)
    refine held_take 6 (v := ?vv55) (by kernel_rfl) rfl (by rfl) (by kernel_rfl) (by kernel_rfl) (fun _ _ _ h => h) ?hyy55 (by assumption) ?rest55
    case hyy55 => (intro w hSw; (try dsimp only at hSw); go_simp; (try with_reducible rfl))
    (try go_frame)
    refine held_take 7 (v := ?vv56) (by kernel_rfl) rfl (by rfl) (by kernel_rfl) (by kernel_rfl) (fun _ _ _ h => h) ?hyy56 (by assumption) ?rest56
    case hyy56 => (intro w hSw; (try dsimp only at hSw); go_simp; (try with_reducible rfl))
    (try go_frame)
    refine held_take 8 (v := ?vv57) (by kernel_rfl) rfl (by rfl) (by kernel_rfl) (by kernel_rfl) (fun _ _ _ h => h) ?hyy57 (by assumption) ?rest57
    case hyy57 => (intro w hSw; (try dsimp only at hSw); go_simp; (try with_reducible rfl))
    (try go_frame)
    refine held_take 9 (v := ?vv58) (by kernel_rfl) rfl (by rfl) (by kernel_rfl) (by kernel_rfl) (fun _ _ _ h => h) ?hyy58 (by assumption) ?rest58
    case hyy58 => (intro w hSw; (try dsimp only at hSw); go_simp; (try with_reducible rfl))
    (try go_frame)
    refine held_take 10 (v := ?vv59) (by kernel_rfl) rfl (by rfl) (by kernel_rfl) (by kernel_rfl) (fun _ _ _ h => h) ?hyy59 (by assumption) ?rest59
    case hyy59 => (intro w hSw; (try dsimp only at hSw); go_simp; (try with_reducible rfl))
    (try go_frame)
    refine held_take 11 (v := ?vv60) (by kernel_rfl) rfl (by rfl) (by kernel_rfl) (by kernel_rfl) (fun _ _ _ h => h) ?hyy60 (by assumption) ?rest60
    case hyy60 => (intro w hSw; (try dsimp only at hSw); go_simp; (try with_reducible rfl))
    (try go_frame)
    refine held_take 12 (v := ?vv61) (by kernel_rfl) rfl (by rfl) (by kernel_rfl) (by kernel_rfl) (fun _ _ _ h => h) ?hyy61 (by assumption) ?rest61
    case hyy61 => (intro w hSw; (try dsimp only at hSw); go_simp; (try with_reducible rfl))
    (try go_frame)
    refine held_take 13 (v := ?vv62) (by kernel_rfl) rfl (by rfl) (by kernel_rfl) (by kernel_rfl) (fun _ _ _ h => h) ?hyy62 (by assumption) ?rest62
    case hyy62 => (intro w hSw; (try dsimp only at hSw); go_simp; (try with_reducible rfl))
    (try go_frame)
    refine held_take 14 (v := ?vv63) (by kernel_rfl) rfl (by rfl) (by kernel_rfl) (by kernel_rfl) (fun _ _ _ h => h) ?hyy63 (by assumption) ?rest63
    case hyy63 => (intro w hSw; (try dsimp only at hSw); go_simp; (try with_reducible rfl))
    (try go_frame)
    refine held_take 15 (v := ?vv64) (by kernel_rfl) rfl (by rfl) (by kernel_rfl) (by kernel_rfl) (fun _ _ _ h => h) ?hyy64 (by assumption) ?rest64
    case hyy64 => (intro w hSw; (try dsimp only at hSw); go_simp; (try with_reducible rfl))
    (try go_frame)
    refine held_take 16 (v := ?vv65) (by kernel_rfl) rfl (by rfl) (by kernel_rfl) (by kernel_rfl) (fun _ _ _ h => h) ?hyy65 (by assumption) ?rest65
    case hyy65 => (intro w hSw; (try dsimp only at hSw); go_simp; (try with_reducible rfl))
    (try go_frame)
    refine held_take 17 (v := ?vv66) (by kernel_rfl) rfl (by rfl) (by kernel_rfl) (by kernel_rfl) (fun _ _ _ h => h) ?hyy66 (by assumption) ?rest66
    case hyy66 => (intro w hSw; (try dsimp only at hSw); go_simp; (try with_reducible rfl))
    (try go_frame)
    refine held_take 18 (v := ?vv67) (by kernel_rfl) rfl (by rfl) (by kernel_rfl) (by kernel_rfl) (fun _ _ _ h => h) ?hyy67 (by assumption) ?rest67
    case hyy67 => (intro w hSw; (try dsimp only at hSw); go_simp; (try with_reducible rfl))
    (try go_frame)
    refine held_take 19 (v := ?vv68) (by kernel_rfl) rfl (by rfl) (by kernel_rfl) (by kernel_rfl) (fun _ _ _ h => h) ?hyy68 (by assumption) ?rest68
    case hyy68 => (intro w hSw; (try dsimp only at hSw); go_simp; (try with_reducible rfl))
    (try go_frame)
    refine held_take 20 (v := ?vv69) (by kernel_rfl) rfl (by rfl) (by kernel_rfl) (by kernel_rfl) (fun _ _ _ h => h) ?hyy69 (by assumption) ?rest69
    case hyy69 => (intro w hSw; (try dsimp only at hSw); go_simp; (try with_reducible rfl))
    (try go_frame)
    refine held_take 21 (v := ?vv70) (by kernel_rfl) rfl (by rfl) (by kernel_rfl) (by kernel_rfl) (fun _ _ _ h => h) ?hyy70 (by assumption) ?rest70
    case hyy70 => (intro w hSw; (try dsimp only at hSw); go_simp; (try with_reducible rfl))
    (try go_frame)
    refine held_take 22 (v := ?vv71) (by kernel_rfl) rfl (by rfl) (by kernel_rfl) (by kernel_rfl) (fun _ _ _ h => h) ?hyy71 (by assumption) ?rest71
    case hyy71 => (intro w hSw; (try dsimp only at hSw); go_simp; (try with_reducible rfl))
    (try go_frame)
    refine held_take 23 (v := ?vv72) (by kernel_rfl) rfl (by rfl) (by kernel_rfl) (by kernel_rfl) (fun _ _ _ h => h) ?hyy72 (by assumption) ?rest72
    case hyy72 => (intro w hSw; (try dsimp only at hSw); go_simp; (try with_reducible rfl))
    (try go_frame)
    refine held_take 24 (v := ?vv73) (by kernel_rfl) rfl (by rfl) (by kernel_rfl) (by kernel_rfl) (fun _ _ _ h => h) ?hyy73 (by assumption) ?rest73
    case hyy73 => (intro w hSw; (try dsimp only at hSw); go_simp; (try with_reducible rfl))
    (try go_frame)
    refine held_take 25 (v := ?vv74) (by kernel_rfl) rfl (by rfl) (by kernel_rfl) (by kernel_rfl) (fun _ _ _ h => h) ?hyy74 (by assumption) ?rest74
    case hyy74 => (intro w hSw; (try dsimp only at hSw); go_simp; (try with_reducible rfl))
    (try go_frame)
    refine held_take 26 (v := ?vv75) (by kernel_rfl) rfl (by rfl) (by kernel_rfl) (by kernel_rfl) (fun _ _ _ h => h) ?hyy75 (by assumption) ?rest75
    case hyy75 => (intro w hSw; (try dsimp only at hSw); go_simp; (try with_reducible rfl))
    (try go_frame)
    refine held_take 27 (v := ?vv76) (by kernel_rfl) rfl (by rfl) (by kernel_rfl) (by kernel_rfl) (fun _ _ _ h => h) ?hyy76 (by assumption) ?rest76
    case hyy76 => (intro w hSw; (try dsimp only at hSw); go_simp; (try with_reducible rfl))
    (try go_frame)
    refine held_one 28 (by kernel_rfl) rfl (by rfl) (fun K' hK => ?_)
    go_simp
    refine (awakeE w9 HE9.out HS9.out).mono ?_
    rintro e w10 ⟨rfl, hb10⟩
    (try dsimp only)
    obtain ⟨s0, s1, s2, s3, s4, s5⟩ := hHeld
    refine hK.out _ _ ⟨cell_step s0 hb10, cell_step s1 hb10, cell_step s2 hb10, cell_step s3 hb10, cell_step s4 hb10, cell_step s5 hb10⟩ (fun hHeld' => ?_)
    clear hK K' s0 s1 s2 s3 s4 s5
    (try go_frame)
    refine held_take 29 (v := ?vv77) (by kernel_rfl) rfl (by rfl) (by kernel_rfl) (by kernel_rfl) (fun _ _ _ h => h) ?hyy77 (by assumption) ?rest77
    case hyy77 => (intro w hSw; (try dsimp only at hSw); go_simp; (try with_reducible rfl))
    (try go_frame)
    refine held_take 30 (v := ?vv78) (by kernel_rfl) rfl (by rfl) (by kernel_rfl) (by kernel_rfl) (fun _ _ _ h => h) ?hyy78 (by assumption) ?rest78
    case hyy78 => (intro w hSw; (try dsimp only at hSw); go_simp; (try with_reducible rfl))
    (try go_frame)
    clear hHeld'
    refine wpAnyH_done (by kernel_rfl) ?_ _
    go_wp2_with fail
    go_ret
    exact ⟨rfl, HB0.out.trans ((HB9.out.mono HB0.out.size).trans (hb10.mono (Nat.le_trans HB0.out.size HB9.out.size)))⟩
  ·go_simp
   have HSZ : Hid (w3.heap.size ≤ w5.heap.size) := Lib.hid HBK.out.size
   have hbb := (Below.refl w5.heap.size w5).alloc (Nat.le_refl _) (.cells #[.int .i64 0, .int .i64 0, .string ⟨#[]⟩, .slice none 0 0] 34)
   refine hK.out _ _ ⟨cell_step hHeld.1 hbb, cell_step hHeld.2 hbb⟩ (fun hHeld' => ?_)
   clear hK K' hHeld
   have hHeld := hHeld'
   clear hHeld'
   have HBK' := Lib.hid (Below.step HBK.out hbb)
   clear HBK
   have HBK := HBK'
   clear HBK'
   have HRW' := Lib.hid (HRW.out.below hbb (Nat.le_refl _))
   clear HRW
   have HRW := HRW'
   clear HRW'
   have HFR := Lib.hid (four_new w5 (.int .i64 0) (.int .i64 0) (.string ⟨#[]⟩) (.slice none 0 0) 34)
   have HBX := Lib.hid (box4_new w5 (.int .i64 0) (.int .i64 0) (.string ⟨#[]⟩) (.slice none 0 0) 34)
   clear hbb
   generalize w5.alloc (.cells #[.int .i64 0, .int .i64 0, .string ⟨#[]⟩, .slice none 0 0] 34) = w6 at hHeld HBK HBX HFR HRW ⊢
   (try go_frame)
   refine held_one 13 (by kernel_rfl) rfl (by rfl) (fun K' hK => ?_)
   go_simp
   refine (exprParse_ok L v5 0 [] w6 (row_h HRW.out) HEL.out (by have := HLN.out; omega) (by have := HLN.out; omega) (by simp)).mono ?_
   rintro e w7 ⟨hp, hkk⟩
   rw [HPX.out] at hp
   obtain ⟨xa, xc, rfl, xr⟩ := (show ∃ (a : Option Addr) (c : Nat), e = .returned (.tuple #[.agg #[.int .i64 xop, .int .i64 xnum, .string xnm, .slice a 2 c], .int .i64 xk, .int .i64 0]) ∧ ExprRep _ (.mk xop xnum xnm [y, z]) [.int .i64 xop, .int .i64 xnum, .string xnm, .slice a 2 c] from hp)
   have hbb := keep_bel hkk
   (try dsimp only)
   refine hK.out _ _ ⟨cell_step hHeld.1 hbb, cell_step hHeld.2 hbb⟩ (fun hHeld' => ?_)
   clear hK K' hHeld
   have hHeld := hHeld'
   clear hHeld'
   have HBK' := Lib.hid (Below.step HBK.out hbb)
   clear HBK
   have HBK := HBK'
   clear HBK'
   have HRW' := Lib.hid (HRW.out.below hbb (Nat.le_refl _))
   clear HRW
   have HRW := HRW'
   clear HRW'
   have HBX' := Lib.hid (HBX.out.keep (Keep.of_below (H := []) hbb) (by simp))
   clear HBX
   have HBX := HBX'
   clear HBX'
   have HFR' := Lib.hid (HFR.out.below hbb)
   clear HFR
   have HFR := HFR'
   clear HFR'
   obtain ⟨xb, xo, rfl, hxc, htw⟩ := two_cells (ExprRep.mono unhide _ xr)
   have HTW : Hid (Two _ xb xo y z) := Lib.hid htw
   clear hbb hkk xr HRW htw
   (try go_frame)
   refine held_take 14 (v := ?vv79) (by kernel_rfl) rfl (by rfl) (by kernel_rfl) (by kernel_rfl) (fun _ _ _ h => h) ?hyy79 (by assumption) ?rest79
   case hyy79 => (intro w hSw; (try dsimp only at hSw); go_simp; (try with_reducible rfl))
   (try go_frame)
   refine held_take 15 (v := ?vv80) (by kernel_rfl) rfl (by rfl) (by kernel_rfl) (by kernel_rfl) (fun _ _ _ h => h) ?hyy80 (by assumption) ?rest80
   case hyy80 => (intro w hSw; (try dsimp only at hSw); go_simp; (try with_reducible rfl))
   (try go_frame)
   refine held_take 16 (v := ?vv81) (by kernel_rfl) rfl (by rfl) (by kernel_rfl) (by kernel_rfl) (fun _ _ _ h => h) ?hyy81 (by assumption) ?rest81
   case hyy81 => (intro w hSw; (try dsimp only at hSw); go_simp; (try with_reducible rfl))
   (try go_frame)
   refine held_take 17 (v := ?vv82) (by kernel_rfl) rfl (by rfl) (by kernel_rfl) (by kernel_rfl) (fun _ _ _ h => h) ?hyy82 (by assumption) ?rest82
   case hyy82 => (intro w hSw; (try dsimp only at hSw); go_simp; (try with_reducible rfl))
   (try go_frame)
   have bx := HBX.out
   unfold Box4 at bx
   refine held_one 19 (by kernel_rfl) rfl (by rfl) (fun K' hK => ?_)
   go_simp
   clear bx
   have hkp : Keep [w5.heap.size] w7 ((((w7.setCell ⟨w5.heap.size, 0, none⟩ (.int .i64 xop)).setCell ⟨w5.heap.size, 1, none⟩ (.int .i64 xnum)).setCell ⟨w5.heap.size, 2, none⟩ (.string xnm)).setCell ⟨w5.heap.size, 3, none⟩ (.slice (some ⟨xb, xo, none⟩) 2 xc)) := keep4 _ _ _ _ _ _
   have hw3 : w3.heap.size ≤ w5.heap.size := HSZ.out
   have HBK' : Hid (Below w3.heap.size w3 ((((w7.setCell ⟨w5.heap.size, 0, none⟩ (.int .i64 xop)).setCell ⟨w5.heap.size, 1, none⟩ (.int .i64 xnum)).setCell ⟨w5.heap.size, 2, none⟩ (.string xnm)).setCell ⟨w5.heap.size, 3, none⟩ (.slice (some ⟨xb, xo, none⟩) 2 xc))) := Lib.hid (HBK.out.trans (hkp.below HBK.out.size (by intro q hq; simp at hq; subst hq; exact hw3)))
   have h1 := cell_keep hHeld.1 hkp (by have := HZ3.out; show S ≠ _; omega)
   have h2 := cell_keep hHeld.2 hkp (by have := HZ3.out; show S ≠ _; omega)
   have HBX' := Lib.hid (box4_put HBX.out (.int .i64 xop) (.int .i64 xnum) (.string xnm) (.slice (some ⟨xb, xo, none⟩) 2 xc))
   have HTW' := Lib.hid (HTW.out.keep hkp (HFR.out.ne HTW.out.2.2.1))
   refine hK.out _ _ ⟨h1, h2⟩ (fun hHeld' => ?_)
   clear hK K' hHeld h1 h2 hkp hw3
   (try go_frame)
   refine held_take 20 (v := ?vv83) (by kernel_rfl) rfl (by rfl) (by kernel_rfl) (by kernel_rfl) (fun _ _ _ h => h) ?hyy83 (by assumption) ?rest83
   case hyy83 => (intro w hSw; (try dsimp only at hSw); go_simp; (try with_reducible rfl))
   (try go_frame)
   refine held_take 21 (v := ?vv84) (by kernel_rfl) rfl (by rfl) (by kernel_rfl) (by kernel_rfl) (fun _ _ _ h => h) ?hyy84 (by assumption) ?rest84
   case hyy84 => (intro w hSw; (try dsimp only at hSw); go_simp; (try with_reducible rfl))
   (try go_frame)
   clear hHeld'
   refine wpAnyH_done (by kernel_rfl) ?_ _
   generalize (((w7.setCell ⟨w5.heap.size, 0, none⟩ (.int .i64 xop)).setCell ⟨w5.heap.size, 1, none⟩ (.int .i64 xnum)).setCell ⟨w5.heap.size, 2, none⟩ (.string xnm)).setCell ⟨w5.heap.size, 3, none⟩ (.slice (some ⟨xb, xo, none⟩) 2 xc) = w8 at HBK' HBX' HTW' ⊢
   generalize w5.heap.size = BX at HBX' ⊢
   have HB8 := HBK'
   have bx := HBX'.out
   have tw := HTW'.out
   unfold Box4 at bx
   unfold Two at tw
   obtain ⟨x0, _, _, x3, _⟩ := bx
   obtain ⟨y0, y2, z0, z2⟩ := tw
   have HE8 := Lib.hid (HE.out.below (HB0.out.trans (HB8.out.mono HB0.out.size)) HE.out.size)
   clear HBK HBX HTW HFR HBK' HBX' HTW'
   go_wp2_with fail
   obtain ⟨g0, g1, g2, g3⟩ := HQ.out
   have m0 := cell_stepB g0 HB8.out (by have := HZ3.out; show S + 1 < _; omega)
   have m1 := cell_stepB g1 HB8.out (by have := HZ3.out; show S + 1 < _; omega)
   have m2 := cell_stepB g2 HB8.out (by have := HZ3.out; show S + 1 + 1 < _; omega)
   have m3 := cell_stepB g3 HB8.out (by have := HZ3.out; show S + 1 + 1 < _; omega)
   clear g0 g1 g2 g3
   by_cases hge : n1 ≤ n0
   ·obtain ⟨e1, e2, e3⟩ := HO1.out hge
    have hgb : decide (n1 ≤ n0) = true := decide_eq_true hge
    have t1 : (xop == o1) = true := by rw [beq_iff_eq]; exact e1
    have t2 : (y.op == o0) = true := by rw [beq_iff_eq]; exact e2
    have t3 := strL_true e3
    clear e1 e2 e3
    go_quiet (fail)
    go_wp2_with fail
    have hbd : Below w8.heap.size w8 (w8.drewN nq) := below_drewN (Below.refl _ _)
    have x0' := cell_step x0 hbd
    have x3' := cell_step x3 hbd
    have y0' := cell_step y0 hbd
    have z2' := cell_step z2 hbd
    have m2' := cell_step m2 hbd
    have m3' := cell_step m3 hbd
    have HB9' := Lib.hid (Below.step HB8.out hbd)
    clear x0 x3 y0 y2 z0 z2 m0 m1 m2 m3 hbd HE8 HB8
    generalize w8.drewN nq = w9a at x0' x3' y0' z2' m2' m3' HB9' ⊢
    refine wp_region_held_drew (S := fun w' => w'.cell? ⟨BX, 0, none⟩ = some (.int .i64 xop) ∧ w'.cell? ⟨BX, 3, none⟩ = some (.slice (some ⟨xb, xo, none⟩) 2 xc) ∧ w'.cell? ⟨xb, xo, none⟩ = some (.int .i64 y.op) ∧ w'.cell? ⟨xb, xo + 4 + 2, none⟩ = some (.string z.name) ∧ w'.cell? ⟨S + 1 + 1, A, none⟩ = some (.int .i64 o0) ∧ w'.cell? ⟨S + 1 + 1, B, none⟩ = some (.int .i64 o1)) (by kernel_rfl) ⟨x0', x3', y0', z2', m2', m3'⟩ (fun hHeld => ?_)
    clear x0' x3' y0' z2' m2' m3'
    have HB9 : Hid (Below w3.heap.size w3 w9a.drew) := Lib.hid HB9'.out.drew
    clear HB9'
    generalize w9a.drew = w9 at hHeld HB9 ⊢
    have HE9 : Hid (Env w9) := Lib.hid (HE.out.below (HB0.out.trans (HB9.out.mono HB0.out.size)) HE.out.size)
    have HS9 : Hid (EnvS w9) := Lib.hid (HES.out.below (HB0.out.trans (HB9.out.mono HB0.out.size)))
    refine held_take 0 (v := ?vv85) (by kernel_rfl) rfl (by rfl) (by kernel_rfl) (by kernel_rfl) (fun _ _ _ h => h) ?hyy85 (by assumption) ?rest85
    case hyy85 => (intro w hSw; (try dsimp only at hSw); go_simp; (try with_reducible rfl))
    (try go_frame)
    refine held_take 1 (v := ?vv86) (by kernel_rfl) rfl (by rfl) (by kernel_rfl) (by kernel_rfl) (fun _ _ _ h => h) ?hyy86 (by assumption) ?rest86
    case hyy86 => (intro w hSw; (try dsimp only at hSw); go_simp; (try with_reducible rfl))
    (try go_frame)
    refine held_take 2 (v := ?vv87) (by kernel_rfl) rfl (by rfl) (by kernel_rfl) (by kernel_rfl) (fun _ _ _ h => h) ?hyy87 (by assumption) ?rest87
    case hyy87 => (intro w hSw; (try dsimp only at hSw); go_simp; (try with_reducible rfl))
    (try go_frame)
    refine held_take 3 (v := ?vv88) (by kernel_rfl) rfl (by rfl) (by kernel_rfl) (by kernel_rfl) (fun _ _ _ h => h) ?hyy88 (by assumption) ?rest88
    case hyy88 => (intro w hSw; (try dsimp only at hSw); go_simp; (try with_reducible rfl))
    (try go_frame)
    refine held_take 4 (v := ?vv89) (by kernel_rfl) rfl (by rfl) (by kernel_rfl) (by kernel_rfl) (fun _ _ _ h => h) ?hyy89 (by assumption) ?rest89
    case hyy89 => (intro w hSw; (try dsimp only at hSw); go_simp; (try with_reducible rfl))
    (try go_frame)
    refine held_take 5 (v := ?vv90) (by kernel_rfl) rfl (by rfl) (by kernel_rfl) (by kernel_rfl) (fun _ _ _ h => h) ?hyy90 (by assumption) ?rest90
    case hyy90 => (intro w hSw; (try dsimp only at hSw); go_simp; (try with_reducible rfl))
    (try go_frame)
    refine held_take 6 (v := ?vv91) (by kernel_rfl) rfl (by rfl) (by kernel_rfl) (by kernel_rfl) (fun _ _ _ h => h) ?hyy91 (by assumption) ?rest91
    case hyy91 => (intro w hSw; (try dsimp only at hSw); go_simp; (try with_reducible rfl))
    (try go_frame)
    refine held_take 7 (v := ?vv92) (by kernel_rfl) rfl (by rfl) (by kernel_rfl) (by kernel_rfl) (fun _ _ _ h => h) ?hyy92 (by assumption) ?rest92
    case hyy92 => (intro w hSw; (try dsimp only at hSw); go_simp; (try with_reducible rfl))
    (try go_frame)
    refine held_take 8 (v := ?vv93) (by kernel_rfl) rfl (by rfl) (by kernel_rfl) (by kernel_rfl) (fun _ _ _ h => h) ?hyy93 (by assumption) ?rest93
    case hyy93 => (intro w hSw; (try dsimp only at hSw); go_simp; (try with_reducible rfl))
    (try go_frame)
    refine held_take 9 (v := ?vv94) (by kernel_rfl) rfl (by rfl) (by kernel_rfl) (by kernel_rfl) (fun _ _ _ h => h) ?hyy94 (by assumption) ?rest94
    case hyy94 => (intro w hSw; (try dsimp only at hSw); go_simp; (try with_reducible rfl))
    (try go_frame)
    refine held_take 10 (v := ?vv95) (by kernel_rfl) rfl (by rfl) (by kernel_rfl) (by kernel_rfl) (fun _ _ _ h => h) ?hyy95 (by assumption) ?rest95
    case hyy95 => (intro w hSw; (try dsimp only at hSw); go_simp; (try with_reducible rfl))
    (try go_frame)
    refine held_take 11 (v := ?vv96) (by kernel_rfl) rfl (by rfl) (by kernel_rfl) (by kernel_rfl) (fun _ _ _ h => h) ?hyy96 (by assumption) ?rest96
    case hyy96 => (intro w hSw; (try dsimp only at hSw); go_simp; (try with_reducible rfl))
    (try go_frame)
    refine held_take 12 (v := ?vv97) (by kernel_rfl) rfl (by rfl) (by kernel_rfl) (by kernel_rfl) (fun _ _ _ h => h) ?hyy97 (by assumption) ?rest97
    case hyy97 => (intro w hSw; (try dsimp only at hSw); go_simp; (try with_reducible rfl))
    (try go_frame)
    refine held_take 13 (v := ?vv98) (by kernel_rfl) rfl (by rfl) (by kernel_rfl) (by kernel_rfl) (fun _ _ _ h => h) ?hyy98 (by assumption) ?rest98
    case hyy98 => (intro w hSw; (try dsimp only at hSw); go_simp; (try with_reducible rfl))
    (try go_frame)
    refine held_take 14 (v := ?vv99) (by kernel_rfl) rfl (by rfl) (by kernel_rfl) (by kernel_rfl) (fun _ _ _ h => h) ?hyy99 (by assumption) ?rest99
    case hyy99 => (intro w hSw; (try dsimp only at hSw); go_simp; (try with_reducible rfl))
    (try go_frame)
    refine held_take 15 (v := ?vv100) (by kernel_rfl) rfl (by rfl) (by kernel_rfl) (by kernel_rfl) (fun _ _ _ h => h) ?hyy100 (by assumption) ?rest100
    case hyy100 => (intro w hSw; (try dsimp only at hSw); go_simp; (try with_reducible rfl))
    (try go_frame)
    refine held_take 16 (v := ?vv101) (by kernel_rfl) rfl (by rfl) (by kernel_rfl) (by kernel_rfl) (fun _ _ _ h => h) ?hyy101 (by assumption) ?rest101
    case hyy101 => (intro w hSw; (try dsimp only at hSw); go_simp; (try with_reducible rfl))
    (try go_frame)
    refine held_take 17 (v := ?vv102) (by kernel_rfl) rfl (by rfl) (by kernel_rfl) (by kernel_rfl) (fun _ _ _ h => h) ?hyy102 (by assumption) ?rest102
    case hyy102 => (intro w hSw; (try dsimp only at hSw); go_simp; (try with_reducible rfl))
    (try go_frame)
    refine held_take 18 (v := ?vv103) (by kernel_rfl) rfl (by rfl) (by kernel_rfl) (by kernel_rfl) (fun _ _ _ h => h) ?hyy103 (by assumption) ?rest103
    case hyy103 => (intro w hSw; (try dsimp only at hSw); go_simp; (try with_reducible rfl))
    (try go_frame)
    refine held_take 19 (v := ?vv104) (by kernel_rfl) rfl (by rfl) (by kernel_rfl) (by kernel_rfl) (fun _ _ _ h => h) ?hyy104 (by assumption) ?rest104
    case hyy104 => (intro w hSw; (try dsimp only at hSw); go_simp; (try with_reducible rfl))
    (try go_frame)
    refine held_take 20 (v := ?vv105) (by kernel_rfl) rfl (by rfl) (by kernel_rfl) (by kernel_rfl) (fun _ _ _ h => h) ?hyy105 (by assumption) ?rest105
    case hyy105 => (intro w hSw; (try dsimp only at hSw); go_simp; (try with_reducible rfl))
    (try go_frame)
    refine held_take 21 (v := ?vv106) (by kernel_rfl) rfl (by rfl) (by kernel_rfl) (by kernel_rfl) (fun _ _ _ h => h) ?hyy106 (by assumption) ?rest106
    case hyy106 => (intro w hSw; (try dsimp only at hSw); go_simp; (try with_reducible rfl))
    (try go_frame)
    refine held_take 22 (v := ?vv107) (by kernel_rfl) rfl (by rfl) (by kernel_rfl) (by kernel_rfl) (fun _ _ _ h => h) ?hyy107 (by assumption) ?rest107
    case hyy107 => (intro w hSw; (try dsimp only at hSw); go_simp; (try with_reducible rfl))
    (try go_frame)
    refine held_take 23 (v := ?vv108) (by kernel_rfl) rfl (by rfl) (by kernel_rfl) (by kernel_rfl) (fun _ _ _ h => h) ?hyy108 (by assumption) ?rest108
    case hyy108 => (intro w hSw; (try dsimp only at hSw); go_simp; (try with_reducible rfl))
    (try go_frame)
    refine held_take 24 (v := ?vv109) (by kernel_rfl) rfl (by rfl) (by kernel_rfl) (by kernel_rfl) (fun _ _ _ h => h) ?hyy109 (by assumption) ?rest109
    case hyy109 => (intro w hSw; (try dsimp only at hSw); go_simp; (try with_reducible rfl))
    (try go_frame)
    refine held_take 25 (v := ?vv110) (by kernel_rfl) rfl (by rfl) (by kernel_rfl) (by kernel_rfl) (fun _ _ _ h => h) ?hyy110 (by assumption) ?rest110
    case hyy110 => (intro w hSw; (try dsimp only at hSw); go_simp; (try with_reducible rfl))
    (try go_frame)
    refine held_take 26 (v := ?vv111) (by kernel_rfl) rfl (by rfl) (by kernel_rfl) (by kernel_rfl) (fun _ _ _ h => h) ?hyy111 (by assumption) ?rest111
    case hyy111 => (intro w hSw; (try dsimp only at hSw); go_simp; (try with_reducible rfl))
    (try go_frame)
    refine held_take 27 (v := ?vv112) (by kernel_rfl) rfl (by rfl) (by kernel_rfl) (by kernel_rfl) (fun _ _ _ h => h) ?hyy112 (by assumption) ?rest112
    case hyy112 => (intro w hSw; (try dsimp only at hSw); go_simp; (try with_reducible rfl))
    (try go_frame)
    refine held_one 28 (by kernel_rfl) rfl (by rfl) (fun K' hK => ?_)
    go_simp
    refine (awakeE w9 HE9.out HS9.out).mono ?_
    rintro e w10 ⟨rfl, hb10⟩
    (try dsimp only)
    obtain ⟨s0, s1, s2, s3, s4, s5⟩ := hHeld
    refine hK.out _ _ ⟨cell_step s0 hb10, cell_step s1 hb10, cell_step s2 hb10, cell_step s3 hb10, cell_step s4 hb10, cell_step s5 hb10⟩ (fun hHeld' => ?_)
    clear hK K' s0 s1 s2 s3 s4 s5
    (try go_frame)
    refine held_take 29 (v := ?vv113) (by kernel_rfl) rfl (by rfl) (by kernel_rfl) (by kernel_rfl) (fun _ _ _ h => h) ?hyy113 (by assumption) ?rest113
    case hyy113 => (intro w hSw; (try dsimp only at hSw); go_simp; (try with_reducible rfl))
    (try go_frame)
    refine held_take 30 (v := ?vv114) (by kernel_rfl) rfl (by rfl) (by kernel_rfl) (by kernel_rfl) (fun _ _ _ h => h) ?hyy114 (by assumption) ?rest114
    case hyy114 => (intro w hSw; (try dsimp only at hSw); go_simp; (try with_reducible rfl))
    (try go_frame)
    clear hHeld'
    refine wpAnyH_done (by kernel_rfl) ?_ _
    go_wp2_with fail
    go_ret
    exact ⟨rfl, HB0.out.trans ((HB9.out.mono HB0.out.size).trans (hb10.mono (Nat.le_trans HB0.out.size HB9.out.size)))⟩
   ·obtain ⟨e1, e2, e3⟩ := HO2.out (by omega)
    have hgb : decide (n1 ≤ n0) = false := decide_eq_false hge
    have t1 : (xop == o0) = true := by rw [beq_iff_eq]; exact e1
    have t2 : (z.op == o1) = true := by rw [beq_iff_eq]; exact e2
    have t3 := strL_true e3
    clear e1 e2 e3
    go_quiet (fail)
    go_wp2_with fail
    have hbd : Below w8.heap.size w8 (w8.drewN nq) := below_drewN (Below.refl _ _)
    have x0' := cell_step x0 hbd
    have x3' := cell_step x3 hbd
    have z0' := cell_step z0 hbd
    have y2' := cell_step y2 hbd
    have m2' := cell_step m2 hbd
    have m3' := cell_step m3 hbd
    have HB9' := Lib.hid (Below.step HB8.out hbd)
    clear x0 x3 y0 y2 z0 z2 m0 m1 m2 m3 hbd HE8 HB8
    generalize w8.drewN nq = w9a at x0' x3' z0' y2' m2' m3' HB9' ⊢
    refine wp_region_held_drew (S := fun w' => w'.cell? ⟨BX, 0, none⟩ = some (.int .i64 xop) ∧ w'.cell? ⟨BX, 3, none⟩ = some (.slice (some ⟨xb, xo, none⟩) 2 xc) ∧ w'.cell? ⟨xb, xo + 4, none⟩ = some (.int .i64 z.op) ∧ w'.cell? ⟨xb, xo + 2, none⟩ = some (.string y.name) ∧ w'.cell? ⟨S + 1 + 1, A, none⟩ = some (.int .i64 o0) ∧ w'.cell? ⟨S + 1 + 1, B, none⟩ = some (.int .i64 o1)) (by kernel_rfl) ⟨x0', x3', z0', y2', m2', m3'⟩ (fun hHeld => ?_)
    clear x0' x3' z0' y2' m2' m3'
    have HB9 : Hid (Below w3.heap.size w3 w9a.drew) := Lib.hid HB9'.out.drew
    clear HB9'
    generalize w9a.drew = w9 at hHeld HB9 ⊢
    have HE9 : Hid (Env w9) := Lib.hid (HE.out.below (HB0.out.trans (HB9.out.mono HB0.out.size)) HE.out.size)
    have HS9 : Hid (EnvS w9) := Lib.hid (HES.out.below (HB0.out.trans (HB9.out.mono HB0.out.size)))
    refine held_take 0 (v := ?vv115) (by kernel_rfl) rfl (by rfl) (by kernel_rfl) (by kernel_rfl) (fun _ _ _ h => h) ?hyy115 (by assumption) ?rest115
    case hyy115 => (intro w hSw; (try dsimp only at hSw); go_simp; (try with_reducible rfl))
    (try go_frame)
    refine held_take 1 (v := ?vv116) (by kernel_rfl) rfl (by rfl) (by kernel_rfl) (by kernel_rfl) (fun _ _ _ h => h) ?hyy116 (by assumption) ?rest116
    case hyy116 => (intro w hSw; (try dsimp only at hSw); go_simp; (try with_reducible rfl))
    (try go_frame)
    refine held_take 2 (v := ?vv117) (by kernel_rfl) rfl (by rfl) (by kernel_rfl) (by kernel_rfl) (fun _ _ _ h => h) ?hyy117 (by assumption) ?rest117
    case hyy117 => (intro w hSw; (try dsimp only at hSw); go_simp; (try with_reducible rfl))
    (try go_frame)
    refine held_take 3 (v := ?vv118) (by kernel_rfl) rfl (by rfl) (by kernel_rfl) (by kernel_rfl) (fun _ _ _ h => h) ?hyy118 (by assumption) ?rest118
    case hyy118 => (intro w hSw; (try dsimp only at hSw); go_simp; (try with_reducible rfl))
    (try go_frame)
    refine held_take 4 (v := ?vv119) (by kernel_rfl) rfl (by rfl) (by kernel_rfl) (by kernel_rfl) (fun _ _ _ h => h) ?hyy119 (by assumption) ?rest119
    case hyy119 => (intro w hSw; (try dsimp only at hSw); go_simp; (try with_reducible rfl))
    (try go_frame)
    refine held_take 5 (v := ?vv120) (by kernel_rfl) rfl (by rfl) (by kernel_rfl) (by kernel_rfl) (fun _ _ _ h => h) ?hyy120 (by assumption) ?rest120
    case hyy120 => (intro w hSw; (try dsimp only at hSw); go_simp; (try with_reducible rfl))
    (try go_frame)
    refine held_take 6 (v := ?vv121) (by kernel_rfl) rfl (by rfl) (by kernel_rfl) (by kernel_rfl) (fun _ _ _ h => h) ?hyy121 (by assumption) ?rest121
    case hyy121 => (intro w hSw; (try dsimp only at hSw); go_simp; (try with_reducible rfl))
    (try go_frame)
    refine held_take 7 (v := ?vv122) (by kernel_rfl) rfl (by rfl) (by kernel_rfl) (by kernel_rfl) (fun _ _ _ h => h) ?hyy122 (by assumption) ?rest122
    case hyy122 => (intro w hSw; (try dsimp only at hSw); go_simp; (try with_reducible rfl))
    (try go_frame)
    refine held_take 8 (v := ?vv123) (by kernel_rfl) rfl (by rfl) (by kernel_rfl) (by kernel_rfl) (fun _ _ _ h => h) ?hyy123 (by assumption) ?rest123
    case hyy123 => (intro w hSw; (try dsimp only at hSw); go_simp; (try with_reducible rfl))
    (try go_frame)
    refine held_take 9 (v := ?vv124) (by kernel_rfl) rfl (by rfl) (by kernel_rfl) (by kernel_rfl) (fun _ _ _ h => h) ?hyy124 (by assumption) ?rest124
    case hyy124 => (intro w hSw; (try dsimp only at hSw); go_simp; (try with_reducible rfl))
    (try go_frame)
    refine held_take 10 (v := ?vv125) (by kernel_rfl) rfl (by rfl) (by kernel_rfl) (by kernel_rfl) (fun _ _ _ h => h) ?hyy125 (by assumption) ?rest125
    case hyy125 => (intro w hSw; (try dsimp only at hSw); go_simp; (try with_reducible rfl))
    (try go_frame)
    refine held_take 11 (v := ?vv126) (by kernel_rfl) rfl (by rfl) (by kernel_rfl) (by kernel_rfl) (fun _ _ _ h => h) ?hyy126 (by assumption) ?rest126
    case hyy126 => (intro w hSw; (try dsimp only at hSw); go_simp; (try with_reducible rfl))
    (try go_frame)
    refine held_take 12 (v := ?vv127) (by kernel_rfl) rfl (by rfl) (by kernel_rfl) (by kernel_rfl) (fun _ _ _ h => h) ?hyy127 (by assumption) ?rest127
    case hyy127 => (intro w hSw; (try dsimp only at hSw); go_simp; (try with_reducible rfl))
    (try go_frame)
    refine held_take 13 (v := ?vv128) (by kernel_rfl) rfl (by rfl) (by kernel_rfl) (by kernel_rfl) (fun _ _ _ h => h) ?hyy128 (by assumption) ?rest128
    case hyy128 => (intro w hSw; (try dsimp only at hSw); go_simp; (try with_reducible rfl))
    (try go_frame)
    refine held_take 14 (v := ?vv129) (by kernel_rfl) rfl (by rfl) (by kernel_rfl) (by kernel_rfl) (fun _ _ _ h => h) ?hyy129 (by assumption) ?rest129
    case hyy129 => (intro w hSw; (try dsimp only at hSw); go_simp; (try with_reducible rfl))
    (try go_frame)
    refine held_take 15 (v := ?vv130) (by kernel_rfl) rfl (by rfl) (by kernel_rfl) (by kernel_rfl) (fun _ _ _ h => h) ?hyy130 (by assumption) ?rest130
    case hyy130 => (intro w hSw; (try dsimp only at hSw); go_simp; (try with_reducible rfl))
    (try go_frame)
    refine held_take 16 (v := ?vv131) (by kernel_rfl) rfl (by rfl) (by kernel_rfl) (by kernel_rfl) (fun _ _ _ h => h) ?hyy131 (by assumption) ?rest131
    case hyy131 => (intro w hSw; (try dsimp only at hSw); go_simp; (try with_reducible rfl))
    (try go_frame)
    refine held_take 17 (v := ?vv132) (by kernel_rfl) rfl (by rfl) (by kernel_rfl) (by kernel_rfl) (fun _ _ _ h => h) ?hyy132 (by assumption) ?rest132
    case hyy132 => (intro w hSw; (try dsimp only at hSw); go_simp; (try with_reducible rfl))
    (try go_frame)
    refine held_take 18 (v := ?vv133) (by kernel_rfl) rfl (by rfl) (by kernel_rfl) (by kernel_rfl) (fun _ _ _ h => h) ?hyy133 (by assumption) ?rest133
    case hyy133 => (intro w hSw; (try dsimp only at hSw); go_simp; (try with_reducible rfl))
    (try go_frame)
    refine held_take 19 (v := ?vv134) (by kernel_rfl) rfl (by rfl) (by kernel_rfl) (by kernel_rfl) (fun _ _ _ h => h) ?hyy134 (by assumption) ?rest134
    case hyy134 => (intro w hSw; (try dsimp only at hSw); go_simp; (try with_reducible rfl))
    (try go_frame)
    refine held_take 20 (v := ?vv135) (by kernel_rfl) rfl (by rfl) (by kernel_rfl) (by kernel_rfl) (fun _ _ _ h => h) ?hyy135 (by assumption) ?rest135
    case hyy135 => (intro w hSw; (try dsimp only at hSw); go_simp; (try with_reducible rfl))
    (try go_frame)
    refine held_take 21 (v := ?vv136) (by kernel_rfl) rfl (by rfl) (by kernel_rfl) (by kernel_rfl) (fun _ _ _ h => h) ?hyy136 (by assumption) ?rest136
    case hyy136 => (intro w hSw; (try dsimp only at hSw); go_simp; (try with_reducible rfl))
    (try go_frame)
    refine held_take 22 (v := ?vv137) (by kernel_rfl) rfl (by rfl) (by kernel_rfl) (by kernel_rfl) (fun _ _ _ h => h) ?hyy137 (by assumption) ?rest137
    case hyy137 => (intro w hSw; (try dsimp only at hSw); go_simp; (try with_reducible rfl))
    (try go_frame)
    refine held_take 23 (v := ?vv138) (by kernel_rfl) rfl (by rfl) (by kernel_rfl) (by kernel_rfl) (fun _ _ _ h => h) ?hyy138 (by assumption) ?rest138
    case hyy138 => (intro w hSw; (try dsimp only at hSw); go_simp; (try with_reducible rfl))
    (try go_frame)
    refine held_take 24 (v := ?vv139) (by kernel_rfl) rfl (by rfl) (by kernel_rfl) (by kernel_rfl) (fun _ _ _ h => h) ?hyy139 (by assumption) ?rest139
    case hyy139 => (intro w hSw; (try dsimp only at hSw); go_simp; (try with_reducible rfl))
    (try go_frame)
    refine held_take 25 (v := ?vv140) (by kernel_rfl) rfl (by rfl) (by kernel_rfl) (by kernel_rfl) (fun _ _ _ h => h) ?hyy140 (by assumption) ?rest140
    case hyy140 => (intro w hSw; (try dsimp only at hSw); go_simp; (try with_reducible rfl))
    (try go_frame)
    refine held_take 26 (v := ?vv141) (by kernel_rfl) rfl (by rfl) (by kernel_rfl) (by kernel_rfl) (fun _ _ _ h => h) ?hyy141 (by assumption) ?rest141
    case hyy141 => (intro w hSw; (try dsimp only at hSw); go_simp; (try with_reducible rfl))
    (try go_frame)
    refine held_take 27 (v := ?vv142) (by kernel_rfl) rfl (by rfl) (by kernel_rfl) (by kernel_rfl) (fun _ _ _ h => h) ?hyy142 (by assumption) ?rest142
    case hyy142 => (intro w hSw; (try dsimp only at hSw); go_simp; (try with_reducible rfl))
    (try go_frame)
    refine held_one 28 (by kernel_rfl) rfl (by rfl) (fun K' hK => ?_)
    go_simp
    refine (awakeE w9 HE9.out HS9.out).mono ?_
    rintro e w10 ⟨rfl, hb10⟩
    (try dsimp only)
    obtain ⟨s0, s1, s2, s3, s4, s5⟩ := hHeld
    refine hK.out _ _ ⟨cell_step s0 hb10, cell_step s1 hb10, cell_step s2 hb10, cell_step s3 hb10, cell_step s4 hb10, cell_step s5 hb10⟩ (fun hHeld' => ?_)
    clear hK K' s0 s1 s2 s3 s4 s5
    (try go_frame)
    refine held_take 29 (v := ?vv143) (by kernel_rfl) rfl (by rfl) (by kernel_rfl) (by kernel_rfl) (fun _ _ _ h => h) ?hyy143 (by assumption) ?rest143
    case hyy143 => (intro w hSw; (try dsimp only at hSw); go_simp; (try with_reducible rfl))
    (try go_frame)
    refine held_take 30 (v := ?vv144) (by kernel_rfl) rfl (by rfl) (by kernel_rfl) (by kernel_rfl) (fun _ _ _ h => h) ?hyy144 (by assumption) ?rest144
    case hyy144 => (intro w hSw; (try dsimp only at hSw); go_simp; (try with_reducible rfl))
    (try go_frame)
    clear hHeld'
    refine wpAnyH_done (by kernel_rfl) ?_ _
    go_wp2_with fail
    go_ret
    exact ⟨rfl, HB0.out.trans ((HB9.out.mono HB0.out.size).trans (hb10.mono (Nat.le_trans HB0.out.size HB9.out.size)))⟩
 ·go_simp
  have HSZ : Hid (w3.heap.size ≤ w4.heap.size) := Lib.hid HBK.out.size
  have hbb := (Below.refl w4.heap.size w4).alloc (Nat.le_refl _) (.cells #[.int .i64 0, .int .i64 0, .string ⟨#[]⟩, .slice none 0 0] 34)
  refine hK.out _ _ ⟨cell_step hHeld.1 hbb, cell_step hHeld.2 hbb⟩ (fun hHeld' => ?_)
  clear hK K' hHeld
  have hHeld := hHeld'
  clear hHeld'
  have HBK' := Lib.hid (Below.step HBK.out hbb)
  clear HBK
  have HBK := HBK'
  clear HBK'
  have HFR := Lib.hid (four_new w4 (.int .i64 0) (.int .i64 0) (.string ⟨#[]⟩) (.slice none 0 0) 34)
  have HBX := Lib.hid (box4_new w4 (.int .i64 0) (.int .i64 0) (.string ⟨#[]⟩) (.slice none 0 0) 34)
  clear hbb
  generalize w4.alloc (.cells #[.int .i64 0, .int .i64 0, .string ⟨#[]⟩, .slice none 0 0] 34) = w5 at hHeld HBK HBX HFR ⊢
  (try go_frame)
  refine held_one 12 (by kernel_rfl) rfl (by rfl) (fun K' hK => ?_)
  go_simp
  refine (tokens_ok _ L w5 (by (try simp only [ByteArray.size_append]); (try simp only [ByteArray.size, List.size_toArray, List.length_cons, List.length_nil] at hA2 hB2 ⊢); omega) HLX.out).mono ?_
  rintro e w6 ⟨⟨v6, rfl, r6⟩, hbb⟩
  (try dsimp only)
  refine hK.out _ _ ⟨cell_step hHeld.1 hbb, cell_step hHeld.2 hbb⟩ (fun hHeld' => ?_)
  clear hK K' hHeld
  have hHeld := hHeld'
  clear hHeld'
  have HBK' := Lib.hid (Below.step HBK.out hbb)
  clear HBK
  have HBK := HBK'
  clear HBK'
  have HBX' := Lib.hid (HBX.out.keep (Keep.of_below (H := []) hbb) (by simp))
  clear HBX
  have HBX := HBX'
  clear HBX'
  have HFR' := Lib.hid (HFR.out.below hbb)
  clear HFR
  have HFR := HFR'
  clear HFR'
  have HRW := Lib.hid r6
  clear r6 hbb
  (try go_frame)
  refine held_one 13 (by kernel_rfl) rfl (by rfl) (fun K' hK => ?_)
  go_simp
  refine (exprParse_ok L v6 0 [] w6 (row_h HRW.out) HEL.out (by have := HLN.out; omega) (by have := HLN.out; omega) (by simp)).mono ?_
  rintro e w7 ⟨hp, hkk⟩
  rw [HPX.out] at hp
  obtain ⟨xa, xc, rfl, xr⟩ := (show ∃ (a : Option Addr) (c : Nat), e = .returned (.tuple #[.agg #[.int .i64 xop, .int .i64 xnum, .string xnm, .slice a 2 c], .int .i64 xk, .int .i64 0]) ∧ ExprRep _ (.mk xop xnum xnm [y, z]) [.int .i64 xop, .int .i64 xnum, .string xnm, .slice a 2 c] from hp)
  have hbb := keep_bel hkk
  (try dsimp only)
  refine hK.out _ _ ⟨cell_step hHeld.1 hbb, cell_step hHeld.2 hbb⟩ (fun hHeld' => ?_)
  clear hK K' hHeld
  have hHeld := hHeld'
  clear hHeld'
  have HBK' := Lib.hid (Below.step HBK.out hbb)
  clear HBK
  have HBK := HBK'
  clear HBK'
  have HRW' := Lib.hid (HRW.out.below hbb (Nat.le_refl _))
  clear HRW
  have HRW := HRW'
  clear HRW'
  have HBX' := Lib.hid (HBX.out.keep (Keep.of_below (H := []) hbb) (by simp))
  clear HBX
  have HBX := HBX'
  clear HBX'
  have HFR' := Lib.hid (HFR.out.below hbb)
  clear HFR
  have HFR := HFR'
  clear HFR'
  obtain ⟨xb, xo, rfl, hxc, htw⟩ := two_cells (ExprRep.mono unhide _ xr)
  have HTW : Hid (Two _ xb xo y z) := Lib.hid htw
  clear hbb hkk xr HRW htw
  (try go_frame)
  refine held_take 14 (v := ?vv145) (by kernel_rfl) rfl (by rfl) (by kernel_rfl) (by kernel_rfl) (fun _ _ _ h => h) ?hyy145 (by assumption) ?rest145
  case hyy145 => (intro w hSw; (try dsimp only at hSw); go_simp; (try with_reducible rfl))
  (try go_frame)
  refine held_take 15 (v := ?vv146) (by kernel_rfl) rfl (by rfl) (by kernel_rfl) (by kernel_rfl) (fun _ _ _ h => h) ?hyy146 (by assumption) ?rest146
  case hyy146 => (intro w hSw; (try dsimp only at hSw); go_simp; (try with_reducible rfl))
  (try go_frame)
  refine held_take 16 (v := ?vv147) (by kernel_rfl) rfl (by rfl) (by kernel_rfl) (by kernel_rfl) (fun _ _ _ h => h) ?hyy147 (by assumption) ?rest147
  case hyy147 => (intro w hSw; (try dsimp only at hSw); go_simp; (try with_reducible rfl))
  (try go_frame)
  refine held_take 17 (v := ?vv148) (by kernel_rfl) rfl (by rfl) (by kernel_rfl) (by kernel_rfl) (fun _ _ _ h => h) ?hyy148 (by assumption) ?rest148
  case hyy148 => (intro w hSw; (try dsimp only at hSw); go_simp; (try with_reducible rfl))
  (try go_frame)
  have bx := HBX.out
  unfold Box4 at bx
  refine held_one 19 (by kernel_rfl) rfl (by rfl) (fun K' hK => ?_)
  go_simp
  clear bx
  have hkp : Keep [w4.heap.size] w7 ((((w7.setCell ⟨w4.heap.size, 0, none⟩ (.int .i64 xop)).setCell ⟨w4.heap.size, 1, none⟩ (.int .i64 xnum)).setCell ⟨w4.heap.size, 2, none⟩ (.string xnm)).setCell ⟨w4.heap.size, 3, none⟩ (.slice (some ⟨xb, xo, none⟩) 2 xc)) := keep4 _ _ _ _ _ _
  have hw3 : w3.heap.size ≤ w4.heap.size := HSZ.out
  have HBK' : Hid (Below w3.heap.size w3 ((((w7.setCell ⟨w4.heap.size, 0, none⟩ (.int .i64 xop)).setCell ⟨w4.heap.size, 1, none⟩ (.int .i64 xnum)).setCell ⟨w4.heap.size, 2, none⟩ (.string xnm)).setCell ⟨w4.heap.size, 3, none⟩ (.slice (some ⟨xb, xo, none⟩) 2 xc))) := Lib.hid (HBK.out.trans (hkp.below HBK.out.size (by intro q hq; simp at hq; subst hq; exact hw3)))
  have h1 := cell_keep hHeld.1 hkp (by have := HZ3.out; show S ≠ _; omega)
  have h2 := cell_keep hHeld.2 hkp (by have := HZ3.out; show S ≠ _; omega)
  have HBX' := Lib.hid (box4_put HBX.out (.int .i64 xop) (.int .i64 xnum) (.string xnm) (.slice (some ⟨xb, xo, none⟩) 2 xc))
  have HTW' := Lib.hid (HTW.out.keep hkp (HFR.out.ne HTW.out.2.2.1))
  refine hK.out _ _ ⟨h1, h2⟩ (fun hHeld' => ?_)
  clear hK K' hHeld h1 h2 hkp hw3
  (try go_frame)
  refine held_take 20 (v := ?vv149) (by kernel_rfl) rfl (by rfl) (by kernel_rfl) (by kernel_rfl) (fun _ _ _ h => h) ?hyy149 (by assumption) ?rest149
  case hyy149 => (intro w hSw; (try dsimp only at hSw); go_simp; (try with_reducible rfl))
  (try go_frame)
  refine held_take 21 (v := ?vv150) (by kernel_rfl) rfl (by rfl) (by kernel_rfl) (by kernel_rfl) (fun _ _ _ h => h) ?hyy150 (by assumption) ?rest150
  case hyy150 => (intro w hSw; (try dsimp only at hSw); go_simp; (try with_reducible rfl))
  (try go_frame)
  clear hHeld'
  refine wpAnyH_done (by kernel_rfl) ?_ _
  generalize (((w7.setCell ⟨w4.heap.size, 0, none⟩ (.int .i64 xop)).setCell ⟨w4.heap.size, 1, none⟩ (.int .i64 xnum)).setCell ⟨w4.heap.size, 2, none⟩ (.string xnm)).setCell ⟨w4.heap.size, 3, none⟩ (.slice (some ⟨xb, xo, none⟩) 2 xc) = w8 at HBK' HBX' HTW' ⊢
  generalize w4.heap.size = BX at HBX' ⊢
  have HB8 := HBK'
  have bx := HBX'.out
  have tw := HTW'.out
  unfold Box4 at bx
  unfold Two at tw
  obtain ⟨x0, _, _, x3, _⟩ := bx
  obtain ⟨y0, y2, z0, z2⟩ := tw
  have HE8 := Lib.hid (HE.out.below (HB0.out.trans (HB8.out.mono HB0.out.size)) HE.out.size)
  clear HBK HBX HTW HFR HBK' HBX' HTW'
  go_wp2_with fail
  obtain ⟨g0, g1, g2, g3⟩ := HQ.out
  have m0 := cell_stepB g0 HB8.out (by have := HZ3.out; show S + 1 < _; omega)
  have m1 := cell_stepB g1 HB8.out (by have := HZ3.out; show S + 1 < _; omega)
  have m2 := cell_stepB g2 HB8.out (by have := HZ3.out; show S + 1 + 1 < _; omega)
  have m3 := cell_stepB g3 HB8.out (by have := HZ3.out; show S + 1 + 1 < _; omega)
  clear g0 g1 g2 g3
  by_cases hge : n1 ≤ n0
  ·obtain ⟨e1, e2, e3⟩ := HO1.out hge
   have hgb : decide (n1 ≤ n0) = true := decide_eq_true hge
   have t1 : (xop == o1) = true := by rw [beq_iff_eq]; exact e1
   have t2 : (y.op == o0) = true := by rw [beq_iff_eq]; exact e2
   have t3 := strL_true e3
   clear e1 e2 e3
   go_quiet (fail)
   go_wp2_with fail
   have hbd : Below w8.heap.size w8 (w8.drewN nq) := below_drewN (Below.refl _ _)
   have x0' := cell_step x0 hbd
   have x3' := cell_step x3 hbd
   have y0' := cell_step y0 hbd
   have z2' := cell_step z2 hbd
   have m2' := cell_step m2 hbd
   have m3' := cell_step m3 hbd
   have HB9' := Lib.hid (Below.step HB8.out hbd)
   clear x0 x3 y0 y2 z0 z2 m0 m1 m2 m3 hbd HE8 HB8
   generalize w8.drewN nq = w9a at x0' x3' y0' z2' m2' m3' HB9' ⊢
   refine wp_region_held_drew (S := fun w' => w'.cell? ⟨BX, 0, none⟩ = some (.int .i64 xop) ∧ w'.cell? ⟨BX, 3, none⟩ = some (.slice (some ⟨xb, xo, none⟩) 2 xc) ∧ w'.cell? ⟨xb, xo, none⟩ = some (.int .i64 y.op) ∧ w'.cell? ⟨xb, xo + 4 + 2, none⟩ = some (.string z.name) ∧ w'.cell? ⟨S + 1 + 1, A, none⟩ = some (.int .i64 o0) ∧ w'.cell? ⟨S + 1 + 1, B, none⟩ = some (.int .i64 o1)) (by kernel_rfl) ⟨x0', x3', y0', z2', m2', m3'⟩ (fun hHeld => ?_)
   clear x0' x3' y0' z2' m2' m3'
   have HB9 : Hid (Below w3.heap.size w3 w9a.drew) := Lib.hid HB9'.out.drew
   clear HB9'
   generalize w9a.drew = w9 at hHeld HB9 ⊢
   have HE9 : Hid (Env w9) := Lib.hid (HE.out.below (HB0.out.trans (HB9.out.mono HB0.out.size)) HE.out.size)
   have HS9 : Hid (EnvS w9) := Lib.hid (HES.out.below (HB0.out.trans (HB9.out.mono HB0.out.size)))
   refine held_take 0 (v := ?vv151) (by kernel_rfl) rfl (by rfl) (by kernel_rfl) (by kernel_rfl) (fun _ _ _ h => h) ?hyy151 (by assumption) ?rest151
   case hyy151 => (intro w hSw; (try dsimp only at hSw); go_simp; (try with_reducible rfl))
   (try go_frame)
   refine held_take 1 (v := ?vv152) (by kernel_rfl) rfl (by rfl) (by kernel_rfl) (by kernel_rfl) (fun _ _ _ h => h) ?hyy152 (by assumption) ?rest152
   case hyy152 => (intro w hSw; (try dsimp only at hSw); go_simp; (try with_reducible rfl))
   (try go_frame)
   refine held_take 2 (v := ?vv153) (by kernel_rfl) rfl (by rfl) (by kernel_rfl) (by kernel_rfl) (fun _ _ _ h => h) ?hyy153 (by assumption) ?rest153
   case hyy153 => (intro w hSw; (try dsimp only at hSw); go_simp; (try with_reducible rfl))
   (try go_frame)
   refine held_take 3 (v := ?vv154) (by kernel_rfl) rfl (by rfl) (by kernel_rfl) (by kernel_rfl) (fun _ _ _ h => h) ?hyy154 (by assumption) ?rest154
   case hyy154 => (intro w hSw; (try dsimp only at hSw); go_simp; (try with_reducible rfl))
   (try go_frame)
   refine held_take 4 (v := ?vv155) (by kernel_rfl) rfl (by rfl) (by kernel_rfl) (by kernel_rfl) (fun _ _ _ h => h) ?hyy155 (by assumption) ?rest155
   case hyy155 => (intro w hSw; (try dsimp only at hSw); go_simp; (try with_reducible rfl))
   (try go_frame)
   refine held_take 5 (v := ?vv156) (by kernel_rfl) rfl (by rfl) (by kernel_rfl) (by kernel_rfl) (fun _ _ _ h => h) ?hyy156 (by assumption) ?rest156
   case hyy156 => (intro w hSw; (try dsimp only at hSw); go_simp; (try with_reducible rfl))
   (try go_frame)
   refine held_take 6 (v := ?vv157) (by kernel_rfl) rfl (by rfl) (by kernel_rfl) (by kernel_rfl) (fun _ _ _ h => h) ?hyy157 (by assumption) ?rest157
   case hyy157 => (intro w hSw; (try dsimp only at hSw); go_simp; (try with_reducible rfl))
   (try go_frame)
   refine held_take 7 (v := ?vv158) (by kernel_rfl) rfl (by rfl) (by kernel_rfl) (by kernel_rfl) (fun _ _ _ h => h) ?hyy158 (by assumption) ?rest158
   case hyy158 => (intro w hSw; (try dsimp only at hSw); go_simp; (try with_reducible rfl))
   (try go_frame)
   refine held_take 8 (v := ?vv159) (by kernel_rfl) rfl (by rfl) (by kernel_rfl) (by kernel_rfl) (fun _ _ _ h => h) ?hyy159 (by assumption) ?rest159
   case hyy159 => (intro w hSw; (try dsimp only at hSw); go_simp; (try with_reducible rfl))
   (try go_frame)
   refine held_take 9 (v := ?vv160) (by kernel_rfl) rfl (by rfl) (by kernel_rfl) (by kernel_rfl) (fun _ _ _ h => h) ?hyy160 (by assumption) ?rest160
   case hyy160 => (intro w hSw; (try dsimp only at hSw); go_simp; (try with_reducible rfl))
   (try go_frame)
   refine held_take 10 (v := ?vv161) (by kernel_rfl) rfl (by rfl) (by kernel_rfl) (by kernel_rfl) (fun _ _ _ h => h) ?hyy161 (by assumption) ?rest161
   case hyy161 => (intro w hSw; (try dsimp only at hSw); go_simp; (try with_reducible rfl))
   (try go_frame)
   refine held_take 11 (v := ?vv162) (by kernel_rfl) rfl (by rfl) (by kernel_rfl) (by kernel_rfl) (fun _ _ _ h => h) ?hyy162 (by assumption) ?rest162
   case hyy162 => (intro w hSw; (try dsimp only at hSw); go_simp; (try with_reducible rfl))
   (try go_frame)
   refine held_take 12 (v := ?vv163) (by kernel_rfl) rfl (by rfl) (by kernel_rfl) (by kernel_rfl) (fun _ _ _ h => h) ?hyy163 (by assumption) ?rest163
   case hyy163 => (intro w hSw; (try dsimp only at hSw); go_simp; (try with_reducible rfl))
   (try go_frame)
   refine held_take 13 (v := ?vv164) (by kernel_rfl) rfl (by rfl) (by kernel_rfl) (by kernel_rfl) (fun _ _ _ h => h) ?hyy164 (by assumption) ?rest164
   case hyy164 => (intro w hSw; (try dsimp only at hSw); go_simp; (try with_reducible rfl))
   (try go_frame)
   refine held_take 14 (v := ?vv165) (by kernel_rfl) rfl (by rfl) (by kernel_rfl) (by kernel_rfl) (fun _ _ _ h => h) ?hyy165 (by assumption) ?rest165
   case hyy165 => (intro w hSw; (try dsimp only at hSw); go_simp; (try with_reducible rfl))
   (try go_frame)
   refine held_take 15 (v := ?vv166) (by kernel_rfl) rfl (by rfl) (by kernel_rfl) (by kernel_rfl) (fun _ _ _ h => h) ?hyy166 (by assumption) ?rest166
   case hyy166 => (intro w hSw; (try dsimp only at hSw); go_simp; (try with_reducible rfl))
   (try go_frame)
   refine held_take 16 (v := ?vv167) (by kernel_rfl) rfl (by rfl) (by kernel_rfl) (by kernel_rfl) (fun _ _ _ h => h) ?hyy167 (by assumption) ?rest167
   case hyy167 => (intro w hSw; (try dsimp only at hSw); go_simp; (try with_reducible rfl))
   (try go_frame)
   refine held_take 17 (v := ?vv168) (by kernel_rfl) rfl (by rfl) (by kernel_rfl) (by kernel_rfl) (fun _ _ _ h => h) ?hyy168 (by assumption) ?rest168
   case hyy168 => (intro w hSw; (try dsimp only at hSw); go_simp; (try with_reducible rfl))
   (try go_frame)
   refine held_take 18 (v := ?vv169) (by kernel_rfl) rfl (by rfl) (by kernel_rfl) (by kernel_rfl) (fun _ _ _ h => h) ?hyy169 (by assumption) ?rest169
   case hyy169 => (intro w hSw; (try dsimp only at hSw); go_simp; (try with_reducible rfl))
   (try go_frame)
   refine held_take 19 (v := ?vv170) (by kernel_rfl) rfl (by rfl) (by kernel_rfl) (by kernel_rfl) (fun _ _ _ h => h) ?hyy170 (by assumption) ?rest170
   case hyy170 => (intro w hSw; (try dsimp only at hSw); go_simp; (try with_reducible rfl))
   (try go_frame)
   refine held_take 20 (v := ?vv171) (by kernel_rfl) rfl (by rfl) (by kernel_rfl) (by kernel_rfl) (fun _ _ _ h => h) ?hyy171 (by assumption) ?rest171
   case hyy171 => (intro w hSw; (try dsimp only at hSw); go_simp; (try with_reducible rfl))
   (try go_frame)
   refine held_take 21 (v := ?vv172) (by kernel_rfl) rfl (by rfl) (by kernel_rfl) (by kernel_rfl) (fun _ _ _ h => h) ?hyy172 (by assumption) ?rest172
   case hyy172 => (intro w hSw; (try dsimp only at hSw); go_simp; (try with_reducible rfl))
   (try go_frame)
   refine held_take 22 (v := ?vv173) (by kernel_rfl) rfl (by rfl) (by kernel_rfl) (by kernel_rfl) (fun _ _ _ h => h) ?hyy173 (by assumption) ?rest173
   case hyy173 => (intro w hSw; (try dsimp only at hSw); go_simp; (try with_reducible rfl))
   (try go_frame)
   refine held_take 23 (v := ?vv174) (by kernel_rfl) rfl (by rfl) (by kernel_rfl) (by kernel_rfl) (fun _ _ _ h => h) ?hyy174 (by assumption) ?rest174
   case hyy174 => (intro w hSw; (try dsimp only at hSw); go_simp; (try with_reducible rfl))
   (try go_frame)
   refine held_take 24 (v := ?vv175) (by kernel_rfl) rfl (by rfl) (by kernel_rfl) (by kernel_rfl) (fun _ _ _ h => h) ?hyy175 (by assumption) ?rest175
   case hyy175 => (intro w hSw; (try dsimp only at hSw); go_simp; (try with_reducible rfl))
   (try go_frame)
   refine held_take 25 (v := ?vv176) (by kernel_rfl) rfl (by rfl) (by kernel_rfl) (by kernel_rfl) (fun _ _ _ h => h) ?hyy176 (by assumption) ?rest176
   case hyy176 => (intro w hSw; (try dsimp only at hSw); go_simp; (try with_reducible rfl))
   (try go_frame)
   refine held_take 26 (v := ?vv177) (by kernel_rfl) rfl (by rfl) (by kernel_rfl) (by kernel_rfl) (fun _ _ _ h => h) ?hyy177 (by assumption) ?rest177
   case hyy177 => (intro w hSw; (try dsimp only at hSw); go_simp; (try with_reducible rfl))
   (try go_frame)
   refine held_take 27 (v := ?vv178) (by kernel_rfl) rfl (by rfl) (by kernel_rfl) (by kernel_rfl) (fun _ _ _ h => h) ?hyy178 (by assumption) ?rest178
   case hyy178 => (intro w hSw; (try dsimp only at hSw); go_simp; (try with_reducible rfl))
   (try go_frame)
   refine held_one 28 (by kernel_rfl) rfl (by rfl) (fun K' hK => ?_)
   go_simp
   refine (awakeE w9 HE9.out HS9.out).mono ?_
   rintro e w10 ⟨rfl, hb10⟩
   (try dsimp only)
   obtain ⟨s0, s1, s2, s3, s4, s5⟩ := hHeld
   refine hK.out _ _ ⟨cell_step s0 hb10, cell_step s1 hb10, cell_step s2 hb10, cell_step s3 hb10, cell_step s4 hb10, cell_step s5 hb10⟩ (fun hHeld' => ?_)
   clear hK K' s0 s1 s2 s3 s4 s5
   (try go_frame)
   refine held_take 29 (v := ?vv179) (by kernel_rfl) rfl (by rfl) (by kernel_rfl) (by kernel_rfl) (fun _ _ _ h => h) ?hyy179 (by assumption) ?rest179
   case hyy179 => (intro w hSw; (try dsimp only at hSw); go_simp; (try with_reducible rfl))
   (try go_frame)
   refine held_take 30 (v := ?vv180) (by kernel_rfl) rfl (by rfl) (by kernel_rfl) (by kernel_rfl) (fun _ _ _ h => h) ?hyy180 (by assumption) ?rest180
   case hyy180 => (intro w hSw; (try dsimp only at hSw); go_simp; (try with_reducible rfl))
   (try go_frame)
   clear hHeld'
   refine wpAnyH_done (by kernel_rfl) ?_ _
   go_wp2_with fail
   go_ret
   exact ⟨rfl, HB0.out.trans ((HB9.out.mono HB0.out.size).trans (hb10.mono (Nat.le_trans HB0.out.size HB9.out.size)))⟩
  ·obtain ⟨e1, e2, e3⟩ := HO2.out (by omega)
   have hgb : decide (n1 ≤ n0) = false := decide_eq_false hge
   have t1 : (xop == o0) = true := by rw [beq_iff_eq]; exact e1
   have t2 : (z.op == o1) = true := by rw [beq_iff_eq]; exact e2
   have t3 := strL_true e3
   clear e1 e2 e3
   go_quiet (fail)
   go_wp2_with fail
   have hbd : Below w8.heap.size w8 (w8.drewN nq) := below_drewN (Below.refl _ _)
   have x0' := cell_step x0 hbd
   have x3' := cell_step x3 hbd
   have z0' := cell_step z0 hbd
   have y2' := cell_step y2 hbd
   have m2' := cell_step m2 hbd
   have m3' := cell_step m3 hbd
   have HB9' := Lib.hid (Below.step HB8.out hbd)
   clear x0 x3 y0 y2 z0 z2 m0 m1 m2 m3 hbd HE8 HB8
   generalize w8.drewN nq = w9a at x0' x3' z0' y2' m2' m3' HB9' ⊢
   refine wp_region_held_drew (S := fun w' => w'.cell? ⟨BX, 0, none⟩ = some (.int .i64 xop) ∧ w'.cell? ⟨BX, 3, none⟩ = some (.slice (some ⟨xb, xo, none⟩) 2 xc) ∧ w'.cell? ⟨xb, xo + 4, none⟩ = some (.int .i64 z.op) ∧ w'.cell? ⟨xb, xo + 2, none⟩ = some (.string y.name) ∧ w'.cell? ⟨S + 1 + 1, A, none⟩ = some (.int .i64 o0) ∧ w'.cell? ⟨S + 1 + 1, B, none⟩ = some (.int .i64 o1)) (by kernel_rfl) ⟨x0', x3', z0', y2', m2', m3'⟩ (fun hHeld => ?_)
   clear x0' x3' z0' y2' m2' m3'
   have HB9 : Hid (Below w3.heap.size w3 w9a.drew) := Lib.hid HB9'.out.drew
   clear HB9'
   generalize w9a.drew = w9 at hHeld HB9 ⊢
   have HE9 : Hid (Env w9) := Lib.hid (HE.out.below (HB0.out.trans (HB9.out.mono HB0.out.size)) HE.out.size)
   have HS9 : Hid (EnvS w9) := Lib.hid (HES.out.below (HB0.out.trans (HB9.out.mono HB0.out.size)))
   refine held_take 0 (v := ?vv181) (by kernel_rfl) rfl (by rfl) (by kernel_rfl) (by kernel_rfl) (fun _ _ _ h => h) ?hyy181 (by assumption) ?rest181
   case hyy181 => (intro w hSw; (try dsimp only at hSw); go_simp; (try with_reducible rfl))
   (try go_frame)
   refine held_take 1 (v := ?vv182) (by kernel_rfl) rfl (by rfl) (by kernel_rfl) (by kernel_rfl) (fun _ _ _ h => h) ?hyy182 (by assumption) ?rest182
   case hyy182 => (intro w hSw; (try dsimp only at hSw); go_simp; (try with_reducible rfl))
   (try go_frame)
   refine held_take 2 (v := ?vv183) (by kernel_rfl) rfl (by rfl) (by kernel_rfl) (by kernel_rfl) (fun _ _ _ h => h) ?hyy183 (by assumption) ?rest183
   case hyy183 => (intro w hSw; (try dsimp only at hSw); go_simp; (try with_reducible rfl))
   (try go_frame)
   refine held_take 3 (v := ?vv184) (by kernel_rfl) rfl (by rfl) (by kernel_rfl) (by kernel_rfl) (fun _ _ _ h => h) ?hyy184 (by assumption) ?rest184
   case hyy184 => (intro w hSw; (try dsimp only at hSw); go_simp; (try with_reducible rfl))
   (try go_frame)
   refine held_take 4 (v := ?vv185) (by kernel_rfl) rfl (by rfl) (by kernel_rfl) (by kernel_rfl) (fun _ _ _ h => h) ?hyy185 (by assumption) ?rest185
   case hyy185 => (intro w hSw; (try dsimp only at hSw); go_simp; (try with_reducible rfl))
   (try go_frame)
   refine held_take 5 (v := ?vv186) (by kernel_rfl) rfl (by rfl) (by kernel_rfl) (by kernel_rfl) (fun _ _ _ h => h) ?hyy186 (by assumption) ?rest186
   case hyy186 => (intro w hSw; (try dsimp only at hSw); go_simp; (try with_reducible rfl))
   (try go_frame)
   refine held_take 6 (v := ?vv187) (by kernel_rfl) rfl (by rfl) (by kernel_rfl) (by kernel_rfl) (fun _ _ _ h => h) ?hyy187 (by assumption) ?rest187
   case hyy187 => (intro w hSw; (try dsimp only at hSw); go_simp; (try with_reducible rfl))
   (try go_frame)
   refine held_take 7 (v := ?vv188) (by kernel_rfl) rfl (by rfl) (by kernel_rfl) (by kernel_rfl) (fun _ _ _ h => h) ?hyy188 (by assumption) ?rest188
   case hyy188 => (intro w hSw; (try dsimp only at hSw); go_simp; (try with_reducible rfl))
   (try go_frame)
   refine held_take 8 (v := ?vv189) (by kernel_rfl) rfl (by rfl) (by kernel_rfl) (by kernel_rfl) (fun _ _ _ h => h) ?hyy189 (by assumption) ?rest189
   case hyy189 => (intro w hSw; (try dsimp only at hSw); go_simp; (try with_reducible rfl))
   (try go_frame)
   refine held_take 9 (v := ?vv190) (by kernel_rfl) rfl (by rfl) (by kernel_rfl) (by kernel_rfl) (fun _ _ _ h => h) ?hyy190 (by assumption) ?rest190
   case hyy190 => (intro w hSw; (try dsimp only at hSw); go_simp; (try with_reducible rfl))
   (try go_frame)
   refine held_take 10 (v := ?vv191) (by kernel_rfl) rfl (by rfl) (by kernel_rfl) (by kernel_rfl) (fun _ _ _ h => h) ?hyy191 (by assumption) ?rest191
   case hyy191 => (intro w hSw; (try dsimp only at hSw); go_simp; (try with_reducible rfl))
   (try go_frame)
   refine held_take 11 (v := ?vv192) (by kernel_rfl) rfl (by rfl) (by kernel_rfl) (by kernel_rfl) (fun _ _ _ h => h) ?hyy192 (by assumption) ?rest192
   case hyy192 => (intro w hSw; (try dsimp only at hSw); go_simp; (try with_reducible rfl))
   (try go_frame)
   refine held_take 12 (v := ?vv193) (by kernel_rfl) rfl (by rfl) (by kernel_rfl) (by kernel_rfl) (fun _ _ _ h => h) ?hyy193 (by assumption) ?rest193
   case hyy193 => (intro w hSw; (try dsimp only at hSw); go_simp; (try with_reducible rfl))
   (try go_frame)
   refine held_take 13 (v := ?vv194) (by kernel_rfl) rfl (by rfl) (by kernel_rfl) (by kernel_rfl) (fun _ _ _ h => h) ?hyy194 (by assumption) ?rest194
   case hyy194 => (intro w hSw; (try dsimp only at hSw); go_simp; (try with_reducible rfl))
   (try go_frame)
   refine held_take 14 (v := ?vv195) (by kernel_rfl) rfl (by rfl) (by kernel_rfl) (by kernel_rfl) (fun _ _ _ h => h) ?hyy195 (by assumption) ?rest195
   case hyy195 => (intro w hSw; (try dsimp only at hSw); go_simp; (try with_reducible rfl))
   (try go_frame)
   refine held_take 15 (v := ?vv196) (by kernel_rfl) rfl (by rfl) (by kernel_rfl) (by kernel_rfl) (fun _ _ _ h => h) ?hyy196 (by assumption) ?rest196
   case hyy196 => (intro w hSw; (try dsimp only at hSw); go_simp; (try with_reducible rfl))
   (try go_frame)
   refine held_take 16 (v := ?vv197) (by kernel_rfl) rfl (by rfl) (by kernel_rfl) (by kernel_rfl) (fun _ _ _ h => h) ?hyy197 (by assumption) ?rest197
   case hyy197 => (intro w hSw; (try dsimp only at hSw); go_simp; (try with_reducible rfl))
   (try go_frame)
   refine held_take 17 (v := ?vv198) (by kernel_rfl) rfl (by rfl) (by kernel_rfl) (by kernel_rfl) (fun _ _ _ h => h) ?hyy198 (by assumption) ?rest198
   case hyy198 => (intro w hSw; (try dsimp only at hSw); go_simp; (try with_reducible rfl))
   (try go_frame)
   refine held_take 18 (v := ?vv199) (by kernel_rfl) rfl (by rfl) (by kernel_rfl) (by kernel_rfl) (fun _ _ _ h => h) ?hyy199 (by assumption) ?rest199
   case hyy199 => (intro w hSw; (try dsimp only at hSw); go_simp; (try with_reducible rfl))
   (try go_frame)
   refine held_take 19 (v := ?vv200) (by kernel_rfl) rfl (by rfl) (by kernel_rfl) (by kernel_rfl) (fun _ _ _ h => h) ?hyy200 (by assumption) ?rest200
   case hyy200 => (intro w hSw; (try dsimp only at hSw); go_simp; (try with_reducible rfl))
   (try go_frame)
   refine held_take 20 (v := ?vv201) (by kernel_rfl) rfl (by rfl) (by kernel_rfl) (by kernel_rfl) (fun _ _ _ h => h) ?hyy201 (by assumption) ?rest201
   case hyy201 => (intro w hSw; (try dsimp only at hSw); go_simp; (try with_reducible rfl))
   (try go_frame)
   refine held_take 21 (v := ?vv202) (by kernel_rfl) rfl (by rfl) (by kernel_rfl) (by kernel_rfl) (fun _ _ _ h => h) ?hyy202 (by assumption) ?rest202
   case hyy202 => (intro w hSw; (try dsimp only at hSw); go_simp; (try with_reducible rfl))
   (try go_frame)
   refine held_take 22 (v := ?vv203) (by kernel_rfl) rfl (by rfl) (by kernel_rfl) (by kernel_rfl) (fun _ _ _ h => h) ?hyy203 (by assumption) ?rest203
   case hyy203 => (intro w hSw; (try dsimp only at hSw); go_simp; (try with_reducible rfl))
   (try go_frame)
   refine held_take 23 (v := ?vv204) (by kernel_rfl) rfl (by rfl) (by kernel_rfl) (by kernel_rfl) (fun _ _ _ h => h) ?hyy204 (by assumption) ?rest204
   case hyy204 => (intro w hSw; (try dsimp only at hSw); go_simp; (try with_reducible rfl))
   (try go_frame)
   refine held_take 24 (v := ?vv205) (by kernel_rfl) rfl (by rfl) (by kernel_rfl) (by kernel_rfl) (fun _ _ _ h => h) ?hyy205 (by assumption) ?rest205
   case hyy205 => (intro w hSw; (try dsimp only at hSw); go_simp; (try with_reducible rfl))
   (try go_frame)
   refine held_take 25 (v := ?vv206) (by kernel_rfl) rfl (by rfl) (by kernel_rfl) (by kernel_rfl) (fun _ _ _ h => h) ?hyy206 (by assumption) ?rest206
   case hyy206 => (intro w hSw; (try dsimp only at hSw); go_simp; (try with_reducible rfl))
   (try go_frame)
   refine held_take 26 (v := ?vv207) (by kernel_rfl) rfl (by rfl) (by kernel_rfl) (by kernel_rfl) (fun _ _ _ h => h) ?hyy207 (by assumption) ?rest207
   case hyy207 => (intro w hSw; (try dsimp only at hSw); go_simp; (try with_reducible rfl))
   (try go_frame)
   refine held_take 27 (v := ?vv208) (by kernel_rfl) rfl (by rfl) (by kernel_rfl) (by kernel_rfl) (fun _ _ _ h => h) ?hyy208 (by assumption) ?rest208
   case hyy208 => (intro w hSw; (try dsimp only at hSw); go_simp; (try with_reducible rfl))
   (try go_frame)
   refine held_one 28 (by kernel_rfl) rfl (by rfl) (fun K' hK => ?_)
   go_simp
   refine (awakeE w9 HE9.out HS9.out).mono ?_
   rintro e w10 ⟨rfl, hb10⟩
   (try dsimp only)
   obtain ⟨s0, s1, s2, s3, s4, s5⟩ := hHeld
   refine hK.out _ _ ⟨cell_step s0 hb10, cell_step s1 hb10, cell_step s2 hb10, cell_step s3 hb10, cell_step s4 hb10, cell_step s5 hb10⟩ (fun hHeld' => ?_)
   clear hK K' s0 s1 s2 s3 s4 s5
   (try go_frame)
   refine held_take 29 (v := ?vv209) (by kernel_rfl) rfl (by rfl) (by kernel_rfl) (by kernel_rfl) (fun _ _ _ h => h) ?hyy209 (by assumption) ?rest209
   case hyy209 => (intro w hSw; (try dsimp only at hSw); go_simp; (try with_reducible rfl))
   (try go_frame)
   refine held_take 30 (v := ?vv210) (by kernel_rfl) rfl (by rfl) (by kernel_rfl) (by kernel_rfl) (fun _ _ _ h => h) ?hyy210 (by assumption) ?rest210
   case hyy210 => (intro w hSw; (try dsimp only at hSw); go_simp; (try with_reducible rfl))
   (try go_frame)
   clear hHeld'
   refine wpAnyH_done (by kernel_rfl) ?_ _
   go_wp2_with fail
   go_ret
   exact ⟨rfl, HB0.out.trans ((HB9.out.mono HB0.out.size).trans (hb10.mono (Nat.le_trans HB0.out.size HB9.out.size)))⟩
set_option maxRecDepth 100000 in
theorem exprOperators_contract (H : Type) (enc : TypeId × Value → H) (W : World) (base : Nat) (args : Array Value) (ds gs : List (DataW H)) (before : List MemPlace)
  (hval : ∀ (j : Nat) t v, Tryd.f4.params[j]? = some t → args[j]? = some v → Value.okWide Tryd.prog W .any base t v)
  (hW : DataW.Whole enc Tryd.prog Tryd.f4.params.toList Rows.exprOperatorsSpec.vars false W args.toList ds gs before) (he : Env W ∧ EnvS W) :
  Calls Tryd.prog 4 args W fun e W' => ∃ v, e = .returned v ∧ Rows.exprOperatorsSpec.post enc Tryd.prog Tryd.f4 false true false false W args v W' := by
 have hW' := hW
 obtain ⟨p, q, hA0, hV, rfl, hfz, hnd⟩ := hW
 have hA : DataW.TrodAll enc Tryd.prog W 0 (fun _ => true) true Tryd.f4.params.toList args.toList ds p := hA0
 rw [Tryd.params4] at hA hval
 obtain ⟨v0, vs0, d0, ds0, p0, q0, hargs, rfl, rfl, h0, r0⟩ := trodAll_cons hA
 obtain ⟨v1, vs1, d1, ds1, p1, q1, rfl, rfl, rfl, h1, r1⟩ := trodAll_cons r0
 obtain ⟨rfl, rfl, rfl⟩ := trodAll_nil r1
 obtain rfl : args = #[v0, v1] := by cases args; simp_all
 have walk : Calls Tryd.prog 4 #[v0, v1] W fun e w' => e = .returned (.bool true) ∧ Below W.heap.size W w' := by
  obtain ⟨n0, rfl, rfl, rfl, hn0⟩ := open_int Tryd.underlying3 (hval 0 3 v0 rfl rfl) h0
  obtain ⟨n1, rfl, rfl, rfl, hn1⟩ := open_int Tryd.underlying3 (hval 1 3 v1 rfl rfl) h1
  exact exprOperators_walk n0 n1 W he.1 he.2
 refine walk.mono fun e W' ⟨he, hb⟩ => ?_
 subst he
 exact law_post hW' rfl rfl (by rw [Tryd.params4]; intro t ht; simp at ht; subst ht; exact ⟨by kernel_rfl, of_decide_eq_true (by kernel_rfl)⟩) rfl hb
theorem exprOperators_reads (os : Os) {H : Type} (enc : TypeId × Value → H) : ∃ places, DataW.whole enc Tryd.prog ((World.doorLaid Tryd.prog 60 os).forCall (fun _ _ => 0) ⟨#[], #[.int .i64 0, .int .i64 0], []⟩).memory Tryd.f4.params.toList Rows.exprOperatorsSpec.vars false (#[.int .i64 0, .int .i64 0] : Array Value).toList 8 = some ([.lit (.int .i64 0), .lit (.int .i64 0)], [], places) :=
 ⟨[], by kernel_rfl⟩
set_option maxRecDepth 100000 in
theorem exprOperators_lifted (os : Os) (started : os.Started) (H : Type) (enc : TypeId × Value → H) (F : Stop.Interp) :
  ReturnsInHanded {} Tryd.checked os 4 .any ((OpenSpec.ofChange Rows.exprOperatorsSpec).preRow enc Tryd.prog Tryd.f4 Rows.exprOperatorsRow.domain false Rows.exprOperatorsRow.laid) (((OpenSpec.ofChange Rows.exprOperatorsSpec).at F).post enc Tryd.prog Tryd.f4 false true false false) := by
 obtain ⟨places, hx⟩ := exprOperators_reads os enc
 refine returnsInHanded_of_row (C := Tryd.checked) (s := OpenSpec.ofChange Rows.exprOperatorsSpec) own started (by kernel_rfl) Tryd.func4
  (witness_row_at (enc := enc) (C := Tryd.checked) false (World.doorLaid Tryd.prog 60 os) #[.int .i64 0, .int .i64 0] rfl (by kernel_rfl) (by kernel_rfl) (by kernel_rfl)
   (OpenSpec.preRow_of_cond 8 hx (by kernel_rfl) (fun k hk => by cases hk) (by kernel_rfl) (laid_met5 os _))) ?_
 intro W base args ds gs before hval hW _ _ _ hL hSh _
 exact exprOperators_contract H enc W base args ds gs before hval hW (env_of5 hL hSh)
theorem exprOperators_said : Rows.ExprOperatorsSaid :=
 OpenClaim.holds_of_cond 4 Tryd.f4 rfl rfl rfl rfl rfl rfl rfl ⟨rfl, rfl, rfl, rfl, rfl⟩ rfl rfl rfl rfl rfl (by kernel_rfl) Tryd.func4 (by kernel_rfl)
  (of_decide_eq_true (by kernel_rfl)) (by unfold Func.isWrapper; first | (rw [if_pos (by decide +kernel)]; kernel_rfl) | (rw [if_neg (by decide +kernel)]; exact ⟨rfl, rfl⟩))
  (fun os started H enc _ F => by rw [OpenClaim.pre_eq_preRow]; exact exprOperators_lifted os started H enc F)
theorem exprOperators_plain (f : FuncId) (fn : Func) (hf : Tryd.pinned.checked.prog.funcNamed "lockorder/lockorderlaw02.ExprOperators" = some f) (hfn : Tryd.pinned.checked.prog.funcs[f]? = some fn) :
  false = Tryd.pinned.checked.prog.looks [] ∧ ∀ (j : Nat) t, fn.params[j]? = some t → Tryd.pinned.checked.prog.wantsStandIn t = false := by
 obtain rfl : f = 4 := Option.some.inj ((show Tryd.prog.funcNamed "lockorder/lockorderlaw02.ExprOperators" = some 4 by kernel_rfl).symm.trans hf) |>.symm
 obtain rfl : fn = Tryd.f4 := (Option.some.inj (Tryd.func4.symm.trans hfn)).symm
 refine ⟨by kernel_rfl, fun j t ht => ?_⟩
 rw [Tryd.params4] at ht
 have hm : t ∈ [3, 3] := by simpa using Array.mem_of_getElem? ht
 have hall : ([3, 3].all fun u => !Tryd.prog.wantsStandIn u) = true := by kernel_rfl
 exact (show Tryd.prog.wantsStandIn t = false by simpa using List.all_eq_true.1 hall t hm)
theorem exprOperators_card : Rows.ExprOperatorsCardSaid :=
 Claim7.holds_tied_plain_at .later [] _ _ _ _ exprOperators_said (fun _ h => by cases h) (by kernel_rfl) (fun _ h => by cases h) exprOperators_row_tie rfl ⟨rfl, rfl⟩ (by kernel_rfl) rfl exprOperators_plain (by kernel_rfl)
#print axioms exprOperators_card
end Go.Proofs.YtiimofjemiffgaaDoor
