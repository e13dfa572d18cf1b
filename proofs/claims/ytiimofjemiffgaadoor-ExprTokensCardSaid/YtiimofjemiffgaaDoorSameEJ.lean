import Derived.Test.YtiimofjemiffgaaDoorRExprJ
import Derived.Test.YtiimofjemiffgaaDoorB3J
import Derived.Maps.RangeWalk
set_option linter.unusedVariables false
set_option linter.unusedSimpArgs false
namespace Go.Proofs.YtiimofjemiffgaaDoor
open Go.RowKit
def PRes.Few (k : Nat) : PRes AExpr → Prop
 | .ok x k' => x.nodes + 3 * k ≤ 3 * k'
 | .err _ _ => True
theorem nodes_one (op num : Int) (s : ByteArray) (x : AExpr) : (AExpr.mk op num s [x]).nodes = 2 + x.nodes := by simp [AExpr.nodes, nodesL]; omega
theorem nodes_two (op num : Int) (s : ByteArray) (x y : AExpr) : (AExpr.mk op num s [x, y]).nodes = 3 + x.nodes + y.nodes := by simp [AExpr.nodes, nodesL]; omega
theorem nodes_zero (op num : Int) (s : ByteArray) : (AExpr.mk op num s []).nodes = 1 := by simp [AExpr.nodes, nodesL]
theorem loopP_few {l : List Tok} {sub : Nat → PRes AExpr} {level : Nat} (hs : ∀ k, (sub k).Few k) : ∀ (n : Nat) (x : AExpr) (k j : Nat), x.nodes + 3 * j ≤ 3 * k → (loopP l sub level n x k).Few j
 | 0, x, k, j, h => by unfold loopP; exact h
 | n + 1, x, k, j, h => by
  unfold loopP
  split
  ·have h1 := hs (k + 1)
   cases hr : sub (k + 1) with
   | ok y k' =>
    rw [hr] at h1
    have h2 : y.nodes + 3 * (k + 1) ≤ 3 * k' := h1
    exact loopP_few hs n _ k' j (by rw [nodes_two]; omega)
   | err a e => trivial
  ·exact h
theorem binP_few {l : List Tok} {single : Nat → PRes AExpr} (hs : ∀ k, (single k).Few k) : ∀ (j k : Nat), (binP l single j k).Few k
 | 0, k => by unfold binP; exact hs k
 | j + 1, k => by
  unfold binP
  have h1 := binP_few (l := l) hs j k
  cases hr : binP l single j k with
  | ok x k' => rw [hr] at h1; exact loopP_few (l := l) (fun k => binP_few (l := l) hs j k) _ _ _ _ h1
  | err a e => trivial
theorem singleP_few {l : List Tok} : ∀ (d k : Nat), (singleP l d k).Few k
 | 0, k => by
  unfold singleP
  split
  ·show AExpr.nodes _ + 3 * k ≤ 3 * (k + 1); rw [nodes_zero]; omega
  ·split
   ·show AExpr.nodes _ + 3 * k ≤ 3 * (k + 1); rw [nodes_zero]; omega
   ·split <;> trivial
 | d + 1, k => by
  have h1 := singleP_few (l := l) d (k + 1)
  have hn : ∀ op, (negP op (singleP l d (k + 1))).Few k := by
   intro op
   cases hr : singleP l d (k + 1) with
   | ok x k' => rw [hr] at h1; have h2 : x.nodes + 3 * (k + 1) ≤ 3 * k' := h1; show AExpr.nodes _ + 3 * k ≤ 3 * k'; rw [nodes_one]; omega
   | err a e => trivial
  have h2 := binP_few (l := l) (single := singleP l d) (fun k => singleP_few (l := l) d k) 5 (k + 1)
  unfold singleP
  split
  ·show AExpr.nodes _ + 3 * k ≤ 3 * (k + 1); rw [nodes_zero]; omega
  ·split
   ·show AExpr.nodes _ + 3 * k ≤ 3 * (k + 1); rw [nodes_zero]; omega
   ·split
    ·exact hn 3
    ·split
     ·exact hn 4
     ·split
      ·cases hr : binP l (singleP l d) 5 (k + 1) with
       | ok x k' =>
        rw [hr] at h2
        have h3 : x.nodes + 3 * (k + 1) ≤ 3 * k' := h2
        change (if signAt l k' [41] then PRes.ok x (k' + 1) else PRes.err k' 4).Few k
        by_cases hs : signAt l k' [41] = true
        ·rw [if_pos hs]; show x.nodes + 3 * k ≤ 3 * (k' + 1); omega
        ·rw [if_neg hs]; trivial
       | err a e => trivial
      ·trivial
theorem exprP_few (l : List Tok) (k : Nat) : (exprP l k).Few k := binP_few (l := l) (single := singleP l 24) (fun k => singleP_few (l := l) 24 k) 5 k
set_option maxRecDepth 100000 in
set_option maxHeartbeats 4000000 in
theorem sameE_node (op num : Int) (name : ByteArray) (v v' : Value) (args : List AExpr) (w : World) (hn : args.length ≤ 1000000) (hv : ListRep w (ExprRep w) 4 v args) (hv' : ListRep w (ExprRep w) 4 v' args)
  (ih : ∀ k (hk : k < args.length) (cs cs' : List Value) (w' : World), ExprRep w' args[k] cs → ExprRep w' args[k] cs' → Calls Tryd.prog 23 #[.agg cs.toArray, .agg cs'.toArray] w' fun r w'' => r = .returned (.bool true) ∧ Below w'.heap.size w' w'') :
  Calls Tryd.prog 23 #[.agg #[.int .i64 op, .int .i64 num, .string name, v], .agg #[.int .i64 op, .int .i64 num, .string name, v']] w fun r w' => r = .returned (.bool true) ∧ Below w.heap.size w w' := by
 obtain ⟨a, cap, rfl, hc⟩ := hv.slice
 obtain ⟨a', cap', rfl, hc'⟩ := hv'.slice
 have IH := Lib.hid ih
 have HV := Lib.hid hv
 have HV' := Lib.hid hv'
 have n1 : (op != op) = false := by simp
 have n2 : (num != num) = false := by simp
 have n3 := strNe_false (rfl : name = name)
 have n4 : ((args.length : Int) != args.length) = false := by simp
 obtain ⟨n, hn'⟩ : ∃ n, n = args.length := ⟨_, rfl⟩
 have HNL := Lib.hid hn'
 rw [← hn'] at hc hc' n4 hn ⊢
 clear ih hv hv' hn'
 go_enter Tryd.func23, Tryd.ntmps23
 go_wp2_with fail
 go_loopw [5] (fun i wr => ∃ k : Nat, k ≤ n ∧ i = .int .i64 k ∧ Below w.heap.size w wr ∧ wr.cell? ⟨w.heap.size, 3, none⟩ = some (.slice a n cap) ∧ wr.cell? ⟨w.heap.size + 1, 3, none⟩ = some (.slice a' n cap')) (fun i _ => n - (intOf i).toNat)
 case atStart => exact ⟨0, by omega, rfl, by go_grown, by go_simp, by go_simp⟩
 case round =>
  obtain ⟨k, hk, rfl, hb, c0, c1⟩ := hrel
  by_cases hlt : k < n
  ·have hlt' : (k : Int) < n := by omega
   have hka : k < args.length := by have := HNL.out; omega
   have hr1 := HV.out.below hb fun a cs _ h => ExprRep.below hb a h
   have hr2 := HV'.out.below hb fun a cs _ h => ExprRep.below hb a h
   obtain ⟨b, off, cp, row, hsl, hcp, hR, hrow, hblt, hcells⟩ := hr1.get (by omega) hka
   obtain ⟨b', off', cp', row', hsl', hcp', hR', hrow', hblt', hcells'⟩ := hr2.get (by omega) hka
   cases hsl
   cases hsl'
   obtain ⟨e0, e1, e2, e3, rfl⟩ : ∃ e0 e1 e2 e3, row = [e0, e1, e2, e3] := by
    match row, hrow with
    | [e0, e1, e2, e3], _ => exact ⟨_, _, _, _, rfl⟩
   obtain ⟨f0, f1, f2, f3, rfl⟩ : ∃ f0 f1 f2 f3, row' = [f0, f1, f2, f3] := by
    match row', hrow' with
    | [f0, f1, f2, f3], _ => exact ⟨_, _, _, _, rfl⟩
   have d0 := hcells 0 _ rfl
   have d1 := hcells 1 _ rfl
   have d2 := hcells 2 _ rfl
   have d3 := hcells 3 _ rfl
   have g0 := hcells' 0 _ rfl
   have g1 := hcells' 1 _ rfl
   have g2 := hcells' 2 _ rfl
   have g3 := hcells' 3 _ rfl
   rw [Nat.add_zero] at d0 g0
   have HR := Lib.hid hR
   have HR' := Lib.hid hR'
   have HB := Lib.hid hb
   have hdl : decide ((k : Int) < n) = true := by rw [decide_eq_true_iff]; exact hlt'
   clear hcells hcells' hR hR' hrow hrow' hr1 hr2 hb hblt hblt'
   go_wp2_with fail
   refine wp_region_held_drew (S := fun w' => w'.cell? ⟨w.heap.size, 3, none⟩ = some (.slice (some ⟨b, off, none⟩) n cap) ∧ w'.cell? ⟨w.heap.size + 1, 3, none⟩ = some (.slice (some ⟨b', off', none⟩) n cap') ∧ w'.cell? ⟨b, off + k * 4, none⟩ = some e0 ∧ w'.cell? ⟨b, off + k * 4 + 1, none⟩ = some e1 ∧ w'.cell? ⟨b, off + k * 4 + 2, none⟩ = some e2 ∧ w'.cell? ⟨b, off + k * 4 + 3, none⟩ = some e3 ∧ w'.cell? ⟨b', off' + k * 4, none⟩ = some f0 ∧ w'.cell? ⟨b', off' + k * 4 + 1, none⟩ = some f1 ∧ w'.cell? ⟨b', off' + k * 4 + 2, none⟩ = some f2 ∧ w'.cell? ⟨b', off' + k * 4 + 3, none⟩ = some f3) (by kernel_rfl) ⟨c0, c1, d0, d1, d2, d3, g0, g1, g2, g3⟩ (fun hHeld => ?_)
   have hb1 : Below wr.heap.size wr wr.drew := (Below.refl _ _).drew
   have HR1 := Lib.hid (ExprRep.below hb1 _ HR.out)
   have HR1' := Lib.hid (ExprRep.below hb1 _ HR'.out)
   have HB1 := Lib.hid (HB.out.trans (hb1.mono HB.out.size))
   clear c0 c1 d0 d1 d2 d3 g0 g1 g2 g3 hb1 HR HR' HB
   generalize wr.drew = w1 at hHeld HR1 HR1' HB1 ⊢
   refine held_take 0 (v := ?vv13) (by kernel_rfl) rfl (by rfl) (by kernel_rfl) (by kernel_rfl) (fun _ _ _ h => h) ?hyy13 (by assumption) ?rest13
   case hyy13 => (intro w hSw; (try dsimp only at hSw); go_simp; (try with_reducible rfl))
   (try go_frame)
   refine held_take 1 (v := ?vv14) (by kernel_rfl) rfl (by rfl) (by kernel_rfl) (by kernel_rfl) (fun _ _ _ h => h) ?hyy14 (by assumption) ?rest14
   case hyy14 => (intro w hSw; (try dsimp only at hSw); go_simp; (try with_reducible rfl))
   (try go_frame)
   refine held_take 2 (v := ?vv15) (by kernel_rfl) rfl (by rfl) (by kernel_rfl) (by kernel_rfl) (fun _ _ _ h => h) ?hyy15 (by assumption) ?rest15
   case hyy15 => (intro w hSw; (try dsimp only at hSw); go_simp; (try with_reducible rfl))
   (try go_frame)
   refine held_take 3 (v := ?vv16) (by kernel_rfl) rfl (by rfl) (by kernel_rfl) (by kernel_rfl) (fun _ _ _ h => h) ?hyy16 (by assumption) ?rest16
   case hyy16 => (intro w hSw; (try dsimp only at hSw); go_simp; (try with_reducible rfl))
   (try go_frame)
   refine held_take 4 (v := ?vv17) (by kernel_rfl) rfl (by rfl) (by kernel_rfl) (by kernel_rfl) (fun _ _ _ h => h) ?hyy17 (by assumption) ?rest17
   case hyy17 => (intro w hSw; (try dsimp only at hSw); go_simp; (try with_reducible rfl))
   (try go_frame)
   refine held_take 5 (v := ?vv18) (by kernel_rfl) rfl (by rfl) (by kernel_rfl) (by kernel_rfl) (fun _ _ _ h => h) ?hyy18 (by assumption) ?rest18
   case hyy18 => (intro w hSw; (try dsimp only at hSw); go_simp; (try with_reducible rfl))
   (try go_frame)
   refine held_take 6 (v := ?vv19) (by kernel_rfl) rfl (by rfl) (by kernel_rfl) (by kernel_rfl) (fun _ _ _ h => h) ?hyy19 (by assumption) ?rest19
   case hyy19 => (intro w hSw; (try dsimp only at hSw); go_simp; (try with_reducible rfl))
   (try go_frame)
   refine held_take 7 (v := ?vv20) (by kernel_rfl) rfl (by rfl) (by kernel_rfl) (by kernel_rfl) (fun _ _ _ h => h) ?hyy20 (by assumption) ?rest20
   case hyy20 => (intro w hSw; (try dsimp only at hSw); go_simp; (try with_reducible rfl))
   (try go_frame)
   refine held_take 8 (v := ?vv21) (by kernel_rfl) rfl (by rfl) (by kernel_rfl) (by kernel_rfl) (fun _ _ _ h => h) ?hyy21 (by assumption) ?rest21
   case hyy21 => (intro w hSw; (try dsimp only at hSw); go_simp; (try with_reducible rfl))
   (try go_frame)
   refine held_take 9 (v := ?vv22) (by kernel_rfl) rfl (by rfl) (by kernel_rfl) (by kernel_rfl) (fun _ _ _ h => h) ?hyy22 (by assumption) ?rest22
   case hyy22 => (intro w hSw; (try dsimp only at hSw); go_simp; (try with_reducible rfl))
   (try go_frame)
   refine held_one 10 (by kernel_rfl) rfl (by rfl) (fun K' hK => ?_)
   go_simp
   refine (IH.out k hka [e0, e1, e2, e3] [f0, f1, f2, f3] w1 HR1.out HR1'.out).mono ?_
   rintro e w2 ⟨rfl, hb2⟩
   (try dsimp only)
   refine hK.out _ _ (by obtain ⟨s0, s1, s2, s3, s4, s5, s6, s7, s8, s9⟩ := hHeld; exact ⟨cell_step s0 hb2, cell_step s1 hb2, cell_step s2 hb2, cell_step s3 hb2, cell_step s4 hb2, cell_step s5 hb2, cell_step s6 hb2, cell_step s7 hb2, cell_step s8 hb2, cell_step s9 hb2⟩) (fun hHeld' => ?_)
   clear hK K' hHeld
   have HB2 := Lib.hid (HB1.out.trans (hb2.mono HB1.out.size))
   clear hb2
   (try go_frame)
   refine held_take 11 (v := ?vv23) (by kernel_rfl) rfl (by rfl) (by kernel_rfl) (by kernel_rfl) (fun _ _ _ h => h) ?hyy23 (by assumption) ?rest23
   case hyy23 => (intro w hSw; (try dsimp only at hSw); go_simp; (try with_reducible rfl))
   (try go_frame)
   have s0 := hHeld'.1
   have s1 := hHeld'.2.1
   clear hHeld'
   refine wpAnyH_done (by kernel_rfl) ?_ _
   go_wp2_with fail
   go_roundw
   case rel => exact ⟨k + 1, by omega, by go_num, HB2.out, s0, s1⟩
   case measure => simp [intOf]; omega
  ·have hlt' : ¬ (k : Int) < n := by omega
   go_wp2_with fail
   go_ret
   exact ⟨rfl, hb⟩
theorem sameE_any : ∀ (N : Nat) (e : AExpr), e.nodes ≤ N → N ≤ 1000000 → ∀ (cs cs' : List Value) (w : World), ExprRep w e cs → ExprRep w e cs' →
  Calls Tryd.prog 23 #[.agg cs.toArray, .agg cs'.toArray] w fun r w' => r = .returned (.bool true) ∧ Below w.heap.size w w'
 | 0, .mk op num name args, hN, _, _, _, _, _, _ => by rw [AExpr.nodes] at hN; omega
 | N + 1, .mk op num name args, hN, hM, cs, cs', w, hr, hr' => by
  rw [AExpr.nodes] at hN
  obtain ⟨v, rfl, hv⟩ := exprRep_iff.1 hr
  obtain ⟨v', rfl, hv'⟩ := exprRep_iff.1 hr'
  exact sameE_node op num name v v' args w (by have := nodesL_len args; omega) hv hv' fun k hk cs cs' w' h1 h2 => sameE_any N args[k] (by have := nodesL_get args k hk; omega) (by omega) cs cs' w' h1 h2
end Go.Proofs.YtiimofjemiffgaaDoor
