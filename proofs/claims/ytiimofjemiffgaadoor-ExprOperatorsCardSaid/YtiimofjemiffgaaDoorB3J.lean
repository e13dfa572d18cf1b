import Derived.Test.YtiimofjemiffgaaDoorB2J
import Derived.Deep.RegionWith
import Derived.Maps.RangeWalk
set_option linter.unusedVariables false
set_option linter.unusedSimpArgs false
namespace Go.Proofs.YtiimofjemiffgaaDoor
open Go.RowKit
mutual
def AExpr.nodes : AExpr → Nat
 | .mk _ _ _ args => 1 + nodesL args
def nodesL : List AExpr → Nat
 | [] => 0
 | e :: es => 1 + e.nodes + nodesL es
end
theorem nodesL_get : ∀ (l : List AExpr) (k : Nat) (h : k < l.length), l[k].nodes < nodesL l
 | [], k, h => by simp at h
 | e :: es, 0, h => by rw [nodesL]; simp; omega
 | e :: es, k + 1, h => by have := nodesL_get es k (by simpa using h); rw [nodesL]; simp; omega
theorem nodesL_len : ∀ (l : List AExpr), l.length ≤ nodesL l
 | [] => by simp
 | e :: es => by have := nodesL_len es; rw [nodesL]; simp; omega
theorem shapesB_iff : ∀ (l : List AExpr), shapesB l = true ↔ ∀ k (h : k < l.length), shapeB l[k] = true
 | [] => by simp [shapesB]
 | e :: es => by
  rw [shapesB, Bool.and_eq_true, shapesB_iff es]
  constructor
  ·rintro ⟨h1, h2⟩ k h
   cases k with
   | zero => exact h1
   | succ k => exact h2 k (by simpa using h)
  ·intro h
   exact ⟨h 0 (by simp), fun k hk => h (k + 1) (by simpa using hk)⟩
inductive LeafWay (op num : Int) (name : ByteArray) : Bool → Prop
 | neg (h1 : (op == 1) = true) (h2 : (op == 2) = false) (h3 : decide (0 ≤ num) = false) (h3a : decide (num < 0) = true) (h3b : num < 0) : LeafWay op num name false
 | num (h1 : (op == 1) = true) (h2 : (op == 2) = false) (h3 : decide (0 ≤ num) = true) (h3' : 0 ≤ num) (h4 : name.toList.isEmpty = true) (h5 : (name.toList == []) = true) : LeafWay op num name true
 | bad (h1 : (op == 1) = true) (h2 : (op == 2) = false) (h3 : decide (0 ≤ num) = true) (h3' : 0 ≤ num) (h4 : name.toList.isEmpty = false) (h5 : (name.toList == []) = false) : LeafWay op num name false
 | name (h1 : (op == 1) = false) (h2 : (op == 2) = true) (h3 : (num == 0) = true) : LeafWay op num name (nameB name)
 | two (h1 : (op == 1) = false) (h2 : (op == 2) = true) (h3 : (num == 0) = false) : LeafWay op num name false
 | no (h1 : (op == 1) = false) (h2 : (op == 2) = false) : LeafWay op num name false
theorem empty_iff (name : ByteArray) : name.toList.isEmpty = true ↔ name = emptyB := by
 rw [ByteArray.toList_eq, List.isEmpty_iff]
 constructor
 ·intro h; exact bytes_ext h
 ·rintro rfl; rfl
theorem leafWay (op num : Int) (name : ByteArray) : LeafWay op num name (leafB op num name) := by
 unfold leafB
 by_cases h1 : op = 1
 ·subst h1
  by_cases h3 : 0 ≤ num
  ·by_cases h4 : name = emptyB
   ·have := (empty_iff name).2 h4
    rw [show (decide ((1 : Int) = 1 ∧ 0 ≤ num) && decide (name = emptyB) || decide ((1 : Int) = 2 ∧ num = 0) && nameB name) = true by simp [h3, h4]]
    exact .num rfl rfl (by simpa using h3) h3 this (by have := List.isEmpty_iff.1 this; simpa using this)
   ·have : name.toList.isEmpty = false := by rw [Bool.eq_false_iff]; exact fun h => h4 ((empty_iff name).1 h)
    rw [show (decide ((1 : Int) = 1 ∧ 0 ≤ num) && decide (name = emptyB) || decide ((1 : Int) = 2 ∧ num = 0) && nameB name) = false by simp [h4]]
    exact .bad rfl rfl (by simpa using h3) h3 this (by rw [beq_eq_false_iff_ne]; intro h; rw [h] at this; simp at this)
  ·rw [show (decide ((1 : Int) = 1 ∧ 0 ≤ num) && decide (name = emptyB) || decide ((1 : Int) = 2 ∧ num = 0) && nameB name) = false by simp [h3]]
   exact .neg rfl rfl (by simpa using h3) (by rw [decide_eq_true_eq]; omega) (by omega)
 ·by_cases h2 : op = 2
  ·subst h2
   by_cases h3 : num = 0
   ·rw [show (decide ((2 : Int) = 1 ∧ 0 ≤ num) && decide (name = emptyB) || decide ((2 : Int) = 2 ∧ num = 0) && nameB name) = nameB name by simp [h3]]
    exact .name rfl rfl (by simpa using h3)
   ·rw [show (decide ((2 : Int) = 1 ∧ 0 ≤ num) && decide (name = emptyB) || decide ((2 : Int) = 2 ∧ num = 0) && nameB name) = false by simp [h3]]
    exact .two rfl rfl (by simpa using h3)
  ·rw [show (decide (op = 1 ∧ 0 ≤ num) && decide (name = emptyB) || decide (op = 2 ∧ num = 0) && nameB name) = false by simp [h1, h2]]
   exact .no (by simpa using h1) (by simpa using h2)
set_option maxRecDepth 100000 in
set_option maxHeartbeats 4000000 in
theorem shape_leaf (op num : Int) (name : ByteArray) (v : Value) (args : List AExpr) (w : World) (h6 : strengthN op = 6) (hv : ListRep w (ExprRep w) 4 v args) (hn : name.size ≤ 4611686018427387904) (q : Bool) (hq : LeafWay op num name q) :
  Calls Tryd.prog 52 #[.agg #[.int .i64 op, .int .i64 num, .string name, v]] w fun r w' => r = .returned (.bool (q && decide (args.length = 0))) ∧ Below w.heap.size w w' := by
 obtain ⟨a, cap, rfl, hc⟩ := hv.slice
 have H6 := Lib.hid h6
 clear h6 hv
 cases hq
 case name h1 h2 h3 =>
  go_enter Tryd.func52, Tryd.ntmps52
  go_wp2_with (go_at_call 42; ((with_reducible refine (strength_any _ _).mono ?_); rintro e w1 ⟨rfl, hb⟩; rw [H6.out]; have hB : Below w.heap.size w w1 := Below.step (w := w) (by go_grown) hb; obtain ⟨hcc, hcf⟩ := bcell hb))
  have c0 : w1.cell? ⟨w.heap.size, 0, none⟩ = some (.int .i64 op) := by rw [hcc _ _ (by simp)]; go_simp
  have c1 : w1.cell? ⟨w.heap.size, 1, none⟩ = some (.int .i64 num) := by rw [hcc _ _ (by simp)]; go_simp
  have c2 : w1.cell? ⟨w.heap.size, 2, none⟩ = some (.string name) := by rw [hcc _ _ (by simp)]; go_simp
  have c3 : w1.cell? ⟨w.heap.size, 3, none⟩ = some (.slice a args.length cap) := by rw [hcc _ _ (by simp)]; go_simp
  clear hcc hcf
  refine wp_region_held_drew (S := fun w' => w'.cell? ⟨w.heap.size, 0, none⟩ = some (.int .i64 op) ∧ w'.cell? ⟨w.heap.size, 1, none⟩ = some (.int .i64 num) ∧ w'.cell? ⟨w.heap.size, 2, none⟩ = some (.string name) ∧ w'.cell? ⟨w.heap.size, 3, none⟩ = some (.slice a args.length cap) ∧ Below w.heap.size w w') (by kernel_rfl) ⟨by go_simp, by go_simp, by go_simp, by go_simp, by go_grown⟩ (fun hHeld => ?_)
  refine held_take 0 (v := ?v0) (by kernel_rfl) rfl (by rfl) (by kernel_rfl) (by kernel_rfl) (fun _ _ _ h => h) ?hy0 (by assumption) ?rest0
  case hy0 => (intro w hSw; (try dsimp only at hSw); go_simp; (try with_reducible rfl))
  (try go_frame)
  refine held_take 1 (v := ?v1) (by kernel_rfl) rfl (by rfl) (by kernel_rfl) (by kernel_rfl) (fun _ _ _ h => h) ?hy1 (by assumption) ?rest1
  case hy1 => (intro w hSw; (try dsimp only at hSw); go_simp; (try with_reducible rfl))
  (try go_frame)
  refine held_take 2 (v := ?v2) (by kernel_rfl) rfl (by rfl) (by kernel_rfl) (by kernel_rfl) (fun _ _ _ h => h) ?hy2 (by assumption) ?rest2
  case hy2 => (intro w hSw; (try dsimp only at hSw); go_simp; (try with_reducible rfl))
  (try go_frame)
  refine held_take 3 (v := ?v3) (by kernel_rfl) rfl (by rfl) (by kernel_rfl) (by kernel_rfl) (fun _ _ _ h => h) ?hy3 (by assumption) ?rest3
  case hy3 => (intro w hSw; (try dsimp only at hSw); go_simp; (try with_reducible rfl))
  (try go_frame)
  refine held_skip 4 (by kernel_rfl) rfl (by rfl) (by kernel_rfl) (by kernel_rfl) (fun _ _ _ h => h) (by assumption) ?rest4
  (try go_frame)
  refine held_skip 5 (by kernel_rfl) rfl (by rfl) (by kernel_rfl) (by kernel_rfl) (fun _ _ _ h => h) (by assumption) ?rest5
  (try go_frame)
  refine held_skip 6 (by kernel_rfl) rfl (by rfl) (by kernel_rfl) (by kernel_rfl) (fun _ _ _ h => h) (by assumption) ?rest6
  (try go_frame)
  refine held_take 7 (v := ?v7) (by kernel_rfl) rfl (by rfl) (by kernel_rfl) (by kernel_rfl) (fun _ _ _ h => h) ?hy7 (by assumption) ?rest7
  case hy7 => (intro w hSw; (try dsimp only at hSw); go_simp; (try with_reducible rfl))
  (try go_frame)
  refine held_take 8 (v := ?v8) (by kernel_rfl) rfl (by rfl) (by kernel_rfl) (by kernel_rfl) (fun _ _ _ h => h) ?hy8 (by assumption) ?rest8
  case hy8 => (intro w hSw; (try dsimp only at hSw); go_simp; (try with_reducible rfl))
  (try go_frame)
  refine held_skip 9 (by kernel_rfl) rfl (by rfl) (by kernel_rfl) (by kernel_rfl) (fun _ _ _ h => h) (by assumption) ?rest9
  (try go_frame)
  refine held_skip 10 (by kernel_rfl) rfl (by rfl) (by kernel_rfl) (by kernel_rfl) (fun _ _ _ h => h) (by assumption) ?rest10
  (try go_frame)
  refine held_skip 11 (by kernel_rfl) rfl (by rfl) (by kernel_rfl) (by kernel_rfl) (fun _ _ _ h => h) (by assumption) ?rest11
  (try go_frame)
  refine held_take 12 (v := ?v12) (by kernel_rfl) rfl (by rfl) (by kernel_rfl) (by kernel_rfl) (fun _ _ _ h => h) ?hy12 (by assumption) ?rest12
  case hy12 => (intro w hSw; (try dsimp only at hSw); go_simp; (try with_reducible rfl))
  (try go_frame)
  refine held_take 13 (v := ?v13) (by kernel_rfl) rfl (by rfl) (by kernel_rfl) (by kernel_rfl) (fun _ _ _ h => h) ?hy13 (by assumption) ?rest13
  case hy13 => (intro w hSw; (try dsimp only at hSw); go_simp; (try with_reducible rfl))
  (try go_frame)
  refine held_take 14 (v := ?v14) (by kernel_rfl) rfl (by rfl) (by kernel_rfl) (by kernel_rfl) (fun _ _ _ h => h) ?hy14 (by assumption) ?rest14
  case hy14 => (intro w hSw; (try dsimp only at hSw); go_simp; (try with_reducible rfl))
  (try go_frame)
  refine held_take 15 (v := ?v15) (by kernel_rfl) rfl (by rfl) (by kernel_rfl) (by kernel_rfl) (fun _ _ _ h => h) ?hy15 (by assumption) ?rest15
  case hy15 => (intro w hSw; (try dsimp only at hSw); go_simp; (try with_reducible rfl))
  (try go_frame)
  refine held_take 16 (v := ?v16) (by kernel_rfl) rfl (by rfl) (by kernel_rfl) (by kernel_rfl) (fun _ _ _ h => h) ?hy16 (by assumption) ?rest16
  case hy16 => (intro w hSw; (try dsimp only at hSw); go_simp; (try with_reducible rfl))
  (try go_frame)
  refine held_take 17 (v := ?v17) (by kernel_rfl) rfl (by rfl) (by kernel_rfl) (by kernel_rfl) (fun _ _ _ h => h) ?hy17 (by assumption) ?rest17
  case hy17 => (intro w hSw; (try dsimp only at hSw); go_simp; (try with_reducible rfl))
  (try go_frame)
  refine held_take 18 (v := ?v18) (by kernel_rfl) rfl (by rfl) (by kernel_rfl) (by kernel_rfl) (fun _ _ _ h => h) ?hy18 (by assumption) ?rest18
  case hy18 => (intro w hSw; (try dsimp only at hSw); go_simp; (try with_reducible rfl))
  (try go_frame)
  refine held_take 19 (v := ?v19) (by kernel_rfl) rfl (by rfl) (by kernel_rfl) (by kernel_rfl) (fun _ _ _ h => h) ?hy19 (by assumption) ?rest19
  case hy19 => (intro w hSw; (try dsimp only at hSw); go_simp; (try with_reducible rfl))
  (try go_frame)
  refine held_take 20 (v := ?v20) (by kernel_rfl) rfl (by rfl) (by kernel_rfl) (by kernel_rfl) (fun _ _ _ h => h) ?hy20 (by assumption) ?rest20
  case hy20 => (intro w hSw; (try dsimp only at hSw); go_simp; (try with_reducible rfl))
  (try go_frame)
  refine held_take 21 (v := ?v21) (by kernel_rfl) rfl (by rfl) (by kernel_rfl) (by kernel_rfl) (fun _ _ _ h => h) ?hy21 (by assumption) ?rest21
  case hy21 => (intro w hSw; (try dsimp only at hSw); go_simp; (try with_reducible rfl))
  (try go_frame)
  refine held_take 22 (v := ?v22) (by kernel_rfl) rfl (by rfl) (by kernel_rfl) (by kernel_rfl) (fun _ _ _ h => h) ?hy22 (by assumption) ?rest22
  case hy22 => (intro w hSw; (try dsimp only at hSw); go_simp; (try with_reducible rfl))
  (try go_frame)
  refine held_take 23 (v := ?v23) (by kernel_rfl) rfl (by rfl) (by kernel_rfl) (by kernel_rfl) (fun _ _ _ h => h) ?hy23 (by assumption) ?rest23
  case hy23 => (intro w hSw; (try dsimp only at hSw); go_simp; (try with_reducible rfl))
  (try go_frame)
  refine held_one 24 (by kernel_rfl) rfl (by rfl) (fun K' hK => ?_)
  go_simp
  refine (rname_any _ _ hn).mono ?_
  rintro e w2 ⟨rfl, hb2⟩
  dsimp only
  refine hK.out _ _ ⟨cell_step hHeld.1 hb2, cell_step hHeld.2.1 hb2, cell_step hHeld.2.2.1 hb2, cell_step hHeld.2.2.2.1 hb2, Below.step hHeld.2.2.2.2 hb2⟩ (fun hHeld2 => ?_)
  clear hK K' hHeld
  (try go_frame)
  refine held_take 26 (v := ?v26) (by kernel_rfl) rfl (by rfl) (by kernel_rfl) (by kernel_rfl) (fun _ _ _ h => h) ?hy26 (by assumption) ?rest26
  case hy26 => (intro w hSw; (try dsimp only at hSw); go_simp; (try with_reducible rfl))
  (try go_frame)
  refine held_take 25 (v := ?v25) (by kernel_rfl) rfl (by rfl) (by kernel_rfl) (by kernel_rfl) (fun _ _ _ h => h) ?hy25 (by assumption) ?rest25
  case hy25 => (intro w hSw; (try dsimp only at hSw); go_simp; (try with_reducible rfl))
  (try go_frame)
  refine held_take 27 (v := ?v27) (by kernel_rfl) rfl (by rfl) (by kernel_rfl) (by kernel_rfl) (fun _ _ _ h => h) ?hy27 (by assumption) ?rest27
  case hy27 => (intro w hSw; (try dsimp only at hSw); go_simp; (try with_reducible rfl))
  (try go_frame)
  refine wpAnyH_done (by kernel_rfl) ?_ _
  obtain ⟨d0, d1, d2, d3, hB2⟩ := hHeld2
  clear hb c0 c1 c2 c3 hB
  go_wp2_with fail
  all_goals clear hb2
  all_goals first
   | (refine wp_loop_once ?_; go_wp2_with fail)
   | skip
  all_goals
   go_ret
   refine ⟨ret_bool ?_, hB2⟩
   simp_all
 all_goals
  go_enter Tryd.func52, Tryd.ntmps52
  go_wp2_with (go_at_call 42; ((with_reducible refine (strength_any _ _).mono ?_); rintro e w1 ⟨rfl, hb⟩; rw [H6.out]; have hB : Below w.heap.size w w1 := Below.step (w := w) (by go_grown) hb; obtain ⟨hcc, hcf⟩ := bcell hb))
  have c0 : w1.cell? ⟨w.heap.size, 0, none⟩ = some (.int .i64 op) := by rw [hcc _ _ (by simp)]; go_simp
  have c1 : w1.cell? ⟨w.heap.size, 1, none⟩ = some (.int .i64 num) := by rw [hcc _ _ (by simp)]; go_simp
  have c2 : w1.cell? ⟨w.heap.size, 2, none⟩ = some (.string name) := by rw [hcc _ _ (by simp)]; go_simp
  have c3 : w1.cell? ⟨w.heap.size, 3, none⟩ = some (.slice a args.length cap) := by rw [hcc _ _ (by simp)]; go_simp
  clear hcc hcf
  go_quiet (fail)
  go_wp2_with fail
 all_goals first
  | (refine wp_loop_once ?_; go_wp2_with fail)
  | skip
 all_goals
  go_ret
  refine ⟨ret_bool ?_, by first | exact hB | exact below_drewN hB | go_grown⟩
  simp_all
end Go.Proofs.YtiimofjemiffgaaDoor
namespace Go.Proofs.YtiimofjemiffgaaDoor
open Go.RowKit
def shR (w : World) (args : List AExpr) (cap n : Nat) (a : Option Addr) (v : Value) (wr : World) : Prop :=
 ∃ k : Nat, v = .int .i64 k ∧ k ≤ n ∧ (∀ j (hj : j < args.length), j < k → shapeB args[j] = true) ∧ Below w.heap.size w wr ∧ wr.cell? ⟨w.heap.size, 3, none⟩ = some (.slice a args.length cap)
set_option maxRecDepth 100000 in
set_option maxHeartbeats 4000000 in
theorem shape_node (op num : Int) (name : ByteArray) (v : Value) (args : List AExpr) (w : World) (s : Int) (h6 : strengthN op = s) (hs6 : (s == 6) = false)
  (n : Nat) (hs5 : (s == 5) = true ∧ n = 1 ∨ (s == 5) = false ∧ n = 2) (hv : ListRep w (ExprRep w) 4 v args)
  (ih : ∀ k (hk : k < args.length) (cs : List Value) (w' : World), ExprRep w' args[k] cs → Calls Tryd.prog 52 #[.agg cs.toArray] w' fun r w'' => r = .returned (.bool (shapeB args[k])) ∧ Below w'.heap.size w' w'') :
  Calls Tryd.prog 52 #[.agg #[.int .i64 op, .int .i64 num, .string name, v]] w fun r w' => r = .returned (.bool (decide (num = 0) && decide (name = emptyB) && decide (args.length = n) && shapesB args)) ∧ Below w.heap.size w w' := by
 obtain ⟨a, cap, rfl, hc⟩ := hv.slice
 have H6 := Lib.hid h6
 have IH := Lib.hid ih
 clear h6 ih
 rcases hs5 with ⟨h5, rfl⟩ | ⟨h5, rfl⟩
 ·go_enter Tryd.func52, Tryd.ntmps52
  go_wp2_with (go_at_call 42; ((with_reducible refine (strength_any _ _).mono ?_); rintro e w1 ⟨rfl, hb⟩; rw [H6.out]; have hB : Below w.heap.size w w1 := Below.step (w := w) (by go_grown) hb; obtain ⟨hcc, hcf⟩ := bcell hb; have c0 : w1.cell? ⟨w.heap.size, 0, none⟩ = some (.int .i64 op) := (by rw [hcc _ _ (by simp)]; go_simp); have c1 : w1.cell? ⟨w.heap.size, 1, none⟩ = some (.int .i64 num) := (by rw [hcc _ _ (by simp)]; go_simp); have c2 : w1.cell? ⟨w.heap.size, 2, none⟩ = some (.string name) := (by rw [hcc _ _ (by simp)]; go_simp); have c3 : w1.cell? ⟨w.heap.size, 3, none⟩ = some (.slice a args.length cap) := (by rw [hcc _ _ (by simp)]; go_simp); clear hcc hcf hb))
  all_goals try (go_ret; refine ⟨ret_bool ?_, hB⟩; have EI := empty_iff name; first | (have hne : args.length ≠ 1 := (by omega); simp [hne]; done) | (simp_all; done))
  have hN : num = 0 := by assumption
  have HE := Lib.hid (show name = emptyB from (empty_iff name).1 (by simp_all))
  have hL : args.length = 1 := by omega
  rename_i _ _ hq _ _
  clear c0 c1 c2 hq
  go_loopw [6] (fun v wr => shR w args cap 1 a v wr) (fun v _ => 1 - (intOf v).toNat)
  case atStart => exact ⟨0, rfl, by omega, fun j hj h => absurd h (by omega), by first | exact hB | exact below_drewN hB | go_grown, by first | assumption | go_simp⟩
  case round =>
   obtain ⟨k, rfl, hk, hall, hbel, hcell⟩ := hrel
   clear hB c3
   by_cases hlt : k < 1
   ·have hka : k < args.length := by omega
    obtain ⟨b, off, cap', row, hsl, hc', hR, hrow, hblt, hcells⟩ := (hv.below hbel fun a cs _ h => ExprRep.below hbel a h).get (by omega) hka
    cases hsl
    have hR' := hR
    obtain ⟨e0, e1, e2, e3, rfl⟩ : ∃ e0 e1 e2 e3, row = [e0, e1, e2, e3] := by
     match row, hrow with
     | [e0, e1, e2, e3], _ => exact ⟨_, _, _, _, rfl⟩
    have d0 := hcells 0 _ rfl
    have d1 := hcells 1 _ rfl
    have d2 := hcells 2 _ rfl
    have d3 := hcells 3 _ rfl
    rw [Nat.add_zero] at d0
    have hki : (k : Int) < args.length := by omega
    have HALL := Lib.hid hall
    have HL := Lib.hid hL
    have HV := Lib.hid hv
    have HR := Lib.hid hR
    have hks : k ≤ 1 := hk
    have hlk : (k : Int) < 1 := by omega
    have hk1 : IntKind.i64.wrap ((k : Int) + 1) = (k : Int) + 1 := by simp [IntKind.wrap_i64]; omega
    clear hcells hR hR' hall hL hv hrow hk
    go_wp2_with (go_at_call 52; ((with_reducible refine (IH.out k hka _ wr HR.out).mono ?_); rintro e w2 ⟨rfl, hb2⟩; have hbel2 := Below.step hbel hb2; have hcell2 := cell_step hcell hb2))
    all_goals clear d0 d1 d2 d3
    ·go_ret
     refine ⟨ret_bool ?_, hbel2⟩
     have hbad : shapeB args[k] = false := by simp_all
     have hs : shapesB args = false := by
      rw [Bool.eq_false_iff]
      intro h
      rw [(shapesB_iff args).1 h k hka] at hbad
      exact absurd hbad (by simp)
     simp [hs]
    ·have hgood : shapeB args[k] = true := by simp_all
     have HG := Lib.hid hgood
     clear hgood
     go_roundw
     case rel =>
      refine ⟨k + 1, by go_num, by omega, fun j hj h => ?_, hbel2, hcell2⟩
      rcases Nat.lt_or_ge j k with h' | h'
      ·exact HALL.out j hj h'
      ·obtain rfl : j = k := by omega
       exact HG.out
     case measure => simp [intOf]; omega
   ·have hke : k = 1 := by omega
    subst hke
    have HALL := Lib.hid hall
    have HL := Lib.hid hL
    have HV := Lib.hid hv
    clear hall hL hv
    go_wp2_with fail
    go_ret
    refine ⟨ret_bool ?_, hbel⟩
    have hs : shapesB args = true := (shapesB_iff args).2 fun j hj => HALL.out j hj (by have := HL.out; omega)
    simp [hN, HE.out, HL.out, hs]
 ·go_enter Tryd.func52, Tryd.ntmps52
  go_wp2_with (go_at_call 42; ((with_reducible refine (strength_any _ _).mono ?_); rintro e w1 ⟨rfl, hb⟩; rw [H6.out]; have hB : Below w.heap.size w w1 := Below.step (w := w) (by go_grown) hb; obtain ⟨hcc, hcf⟩ := bcell hb; have c0 : w1.cell? ⟨w.heap.size, 0, none⟩ = some (.int .i64 op) := (by rw [hcc _ _ (by simp)]; go_simp); have c1 : w1.cell? ⟨w.heap.size, 1, none⟩ = some (.int .i64 num) := (by rw [hcc _ _ (by simp)]; go_simp); have c2 : w1.cell? ⟨w.heap.size, 2, none⟩ = some (.string name) := (by rw [hcc _ _ (by simp)]; go_simp); have c3 : w1.cell? ⟨w.heap.size, 3, none⟩ = some (.slice a args.length cap) := (by rw [hcc _ _ (by simp)]; go_simp); clear hcc hcf hb))
  all_goals try (go_ret; refine ⟨ret_bool ?_, hB⟩; have EI := empty_iff name; first | (have hne : args.length ≠ 2 := (by omega); simp [hne]; done) | (simp_all; done))
  have hN : num = 0 := by assumption
  have HE := Lib.hid (show name = emptyB from (empty_iff name).1 (by simp_all))
  have hL : args.length = 2 := by omega
  rename_i _ _ hq _ _
  clear c0 c1 c2 hq
  go_loopw [6] (fun v wr => shR w args cap 2 a v wr) (fun v _ => 2 - (intOf v).toNat)
  case atStart => exact ⟨0, rfl, by omega, fun j hj h => absurd h (by omega), by first | exact hB | exact below_drewN hB | go_grown, by first | assumption | go_simp⟩
  case round =>
   obtain ⟨k, rfl, hk, hall, hbel, hcell⟩ := hrel
   clear hB c3
   by_cases hlt : k < 2
   ·have hka : k < args.length := by omega
    obtain ⟨b, off, cap', row, hsl, hc', hR, hrow, hblt, hcells⟩ := (hv.below hbel fun a cs _ h => ExprRep.below hbel a h).get (by omega) hka
    cases hsl
    have hR' := hR
    obtain ⟨e0, e1, e2, e3, rfl⟩ : ∃ e0 e1 e2 e3, row = [e0, e1, e2, e3] := by
     match row, hrow with
     | [e0, e1, e2, e3], _ => exact ⟨_, _, _, _, rfl⟩
    have d0 := hcells 0 _ rfl
    have d1 := hcells 1 _ rfl
    have d2 := hcells 2 _ rfl
    have d3 := hcells 3 _ rfl
    rw [Nat.add_zero] at d0
    have hki : (k : Int) < args.length := by omega
    have HALL := Lib.hid hall
    have HL := Lib.hid hL
    have HV := Lib.hid hv
    have HR := Lib.hid hR
    have hks : k ≤ 2 := hk
    have hlk : (k : Int) < 2 := by omega
    have hk1 : IntKind.i64.wrap ((k : Int) + 1) = (k : Int) + 1 := by simp [IntKind.wrap_i64]; omega
    clear hcells hR hR' hall hL hv hrow hk
    go_wp2_with (go_at_call 52; ((with_reducible refine (IH.out k hka _ wr HR.out).mono ?_); rintro e w2 ⟨rfl, hb2⟩; have hbel2 := Below.step hbel hb2; have hcell2 := cell_step hcell hb2))
    all_goals clear d0 d1 d2 d3
    ·go_ret
     refine ⟨ret_bool ?_, hbel2⟩
     have hbad : shapeB args[k] = false := by simp_all
     have hs : shapesB args = false := by
      rw [Bool.eq_false_iff]
      intro h
      rw [(shapesB_iff args).1 h k hka] at hbad
      exact absurd hbad (by simp)
     simp [hs]
    ·have hgood : shapeB args[k] = true := by simp_all
     have HG := Lib.hid hgood
     clear hgood
     go_roundw
     case rel =>
      refine ⟨k + 1, by go_num, by omega, fun j hj h => ?_, hbel2, hcell2⟩
      rcases Nat.lt_or_ge j k with h' | h'
      ·exact HALL.out j hj h'
      ·obtain rfl : j = k := by omega
       exact HG.out
     case measure => simp [intOf]; omega
   ·have hke : k = 2 := by omega
    subst hke
    have HALL := Lib.hid hall
    have HL := Lib.hid hL
    have HV := Lib.hid hv
    clear hall hL hv
    go_wp2_with fail
    go_ret
    refine ⟨ret_bool ?_, hbel⟩
    have hs : shapesB args = true := (shapesB_iff args).2 fun j hj => HALL.out j hj (by have := HL.out; omega)
    simp [hN, HE.out, HL.out, hs]
mutual
def AExpr.small : AExpr → Prop
 | .mk _ _ name args => name.size ≤ 4611686018427387904 ∧ smallL args
def smallL : List AExpr → Prop
 | [] => True
 | e :: es => e.small ∧ smallL es
end
theorem smallL_get : ∀ (l : List AExpr), smallL l → ∀ k (h : k < l.length), l[k].small
 | [], _, k, h => by simp at h
 | e :: es, hs, 0, h => by rw [smallL] at hs; exact hs.1
 | e :: es, hs, k + 1, h => by rw [smallL] at hs; exact smallL_get es hs.2 k (by simpa using h)
theorem shape_any : ∀ (N : Nat) (e : AExpr), e.nodes ≤ N → e.small → ∀ (cs : List Value) (w : World), ExprRep w e cs →
  Calls Tryd.prog 52 #[.agg cs.toArray] w fun r w' => r = .returned (.bool (shapeB e)) ∧ Below w.heap.size w w'
 | 0, .mk op num name args, hN, _, _, _, _ => by rw [AExpr.nodes] at hN; omega
 | N + 1, .mk op num name args, hN, hs, cs, w, hr => by
  rw [AExpr.nodes] at hN
  rw [AExpr.small] at hs
  obtain ⟨v, rfl, hv⟩ := exprRep_iff.1 hr
  by_cases h6 : strengthN op = 6
  ·refine (shape_leaf op num name v args w h6 hv hs.1 _ (leafWay op num name)).mono ?_
   rintro r w' ⟨rfl, hb⟩
   refine ⟨?_, hb⟩
   rw [shapeB, if_pos h6, show arity op = 0 from by rw [arity, if_pos h6]]
   by_cases hl : args.length = 0
   ·rw [List.eq_nil_of_length_eq_zero hl]; simp [shapesB]
   ·simp [hl]
  ·have h6' : ((strengthN op : Int) == 6) = false := by rw [beq_eq_false_iff_ne]; omega
   by_cases h5 : strengthN op = 5
   ·refine (shape_node op num name v args w _ rfl h6' 1 (.inl ⟨by rw [h5]; rfl, rfl⟩) hv fun k hk cs w' hr' => shape_any N args[k] (by have := nodesL_get args k hk; omega) (smallL_get args hs.2 k hk) cs w' hr').mono ?_
    rintro r w' ⟨rfl, hb⟩
    refine ⟨?_, hb⟩
    rw [shapeB, if_neg h6, show arity op = 1 from by rw [arity, if_neg h6, if_pos h5]]
   ·refine (shape_node op num name v args w _ rfl h6' 2 (.inr ⟨by rw [beq_eq_false_iff_ne]; omega, rfl⟩) hv fun k hk cs w' hr' => shape_any N args[k] (by have := nodesL_get args k hk; omega) (smallL_get args hs.2 k hk) cs w' hr').mono ?_
    rintro r w' ⟨rfl, hb⟩
    refine ⟨?_, hb⟩
    rw [shapeB, if_neg h6, show arity op = 2 from by rw [arity, if_neg h6, if_neg h5]]
end Go.Proofs.YtiimofjemiffgaaDoor
