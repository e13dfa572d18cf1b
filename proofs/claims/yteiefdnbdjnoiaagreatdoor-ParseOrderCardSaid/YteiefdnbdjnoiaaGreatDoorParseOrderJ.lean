/-
  Proved: for all slices of integers lockorderlaw03.ParseOrder returns true and leaves its argument as it was. No condition beyond the row's own. (Printed by genlaw_order.py.)
-/
import Derived.Test.YteiefdnbdjnoiaaGreatDoorK5J
import Derived.Test.YteiefdnbdjnoiaaGreatDoorK12J
import Derived.Test.YteiefdnbdjnoiaaGreatDoorK21J
import Derived.Test.YteiefdnbdjnoiaaGreatDoorK27J
import Derived.Test.YteiefdnbdjnoiaaGreatDoorK28J
set_option linter.all false
set_option synthInstance.maxHeartbeats 1000000
set_option synthInstance.maxSize 1000000
set_option maxHeartbeats 1600000
set_option maxRecDepth 100000
namespace Go.Proofs.YteiefdnbdjnoiaaGreatDoor
open List (length_append length_cons length_nil mem_append mem_cons not_mem_nil append_assoc getElem_mem take_of_length_le)
section
open Go.ChangeShapes Go.WideShapes Go.ChangeAt Go.RowKit
theorem bF4 (l0 : List Int) (m : Int) (hl0 : l0.length ≤ 9223372036854775807) : aL Tryz.prog 4 [aA2 (.c (.sl l0.length (l0.map fun i => .val (.int .i64 i)))) m] [] ⟨[], []⟩ fun r s' => r = .c (.val (.bool true)) ∧ s' = ⟨[], []⟩ := by
 refine aD Tryz.func4 rfl (Nat.le_of_ble_eq_true rfl) ?_
 show AWp Tryz.prog _ ⟨41, [], ⟨[], []⟩, [(0, aA2 (.c (.sl l0.length (l0.map fun i => .val (.int .i64 i)))) m)]⟩ _
 refine go 8 ?_
 refine wo rfl (bV rfl rfl (by decide) Tryz.call17 rfl (aHs l0 (by omega) _) ?_)
 rintro _ _ ⟨p, rfl, hp, rfl⟩
 have hfa := hp.facts
 refine go 5 fun b1 => ?_
 refine aB [b1] (by kernel_rfl) ?_
 refine tks [(0, true), (1, true), (2, true)] 12 (by kernel_rfl) ?_
 refine go 4 ?_
 refine bF8 12 rfl (Wk.agg (.n (.n (.r .nil)))) ?_
 obtain ⟨qs0, qw0, qf0, ql0⟩ := hO hp [] [] p.funcs (.inr rfl) (.inr rfl) (.inl rfl)
 refine tks [(4, true), (5, true), (6, true), (9, true), (10, true), (11, true)] 6 (by kernel_rfl) ?_
 refine go 7 ?_
 refine one 3 (by kernel_rfl) rfl rfl (bV rfl rfl (by decide) Tryz.call18 rfl (aNw ⟨[], [], p.funcs⟩ qs0 (by omega) _) ?_)
 rintro _ _ ⟨hr, rfl⟩
 rw [qf0] at hr
 subst hr
 refine bF8 16 rfl (Wk.agg (.n (.r (.n .nil)))) ?_
 obtain ⟨qs1, qw1, qf1, ql1⟩ := hO hp [] p.mutexes [] (.inr rfl) (.inl rfl) (.inr rfl)
 refine one 7 (by kernel_rfl) rfl rfl (bV rfl rfl (by decide) Tryz.call18 rfl (aNw ⟨[], p.mutexes, []⟩ qs1 (by omega) _) ?_)
 rintro _ _ ⟨hr, rfl⟩
 rw [qf1] at hr
 subst hr
 refine tq 8 (by kernel_rfl) rfl rfl rfl rfl (aN (cR ⟨[], [], p.funcs⟩) (cR ⟨[], p.mutexes, []⟩) rfl rfl rfl rfl rfl (by (try simp only [length_append, length_cons, length_nil]); omega)) ?_
 refine bF8 21 rfl (Wk.agg (.r (.n (.n .nil)))) ?_
 obtain ⟨qs2, qw2, qf2, ql2⟩ := hO hp p.globals [] [] (.inl rfl) (.inr rfl) (.inr rfl)
 refine one 12 (by kernel_rfl) rfl rfl (bV rfl rfl (by decide) Tryz.call18 rfl (aNw ⟨p.globals, [], []⟩ qs2 (by omega) _) ?_)
 rintro _ _ ⟨hr, rfl⟩
 rw [qf2] at hr
 subst hr
 refine tq 13 (by kernel_rfl) rfl rfl rfl rfl (aN ((cR ⟨[], [], p.funcs⟩) ++ (cR ⟨[], p.mutexes, []⟩)) (cR ⟨p.globals, [], []⟩) rfl rfl rfl rfl rfl (by (try simp only [length_append, length_cons, length_nil]); omega)) ?_
 refine tks [(14, true)] 0 (by kernel_rfl) ?_
 refine go 2 ?_
 refine aE (by kernel_rfl) ?_
 refine go 4 ?_
 refine wo rfl (aDc rfl rfl (by decide) rfl Tryz.underlying9 Tryz.underlying23 Tryz.underlying5 (by first | (rw [kT]; (try simp only [length_append]); omega) | omega) (N := (((cR ⟨[], [], p.funcs⟩) ++ (cR ⟨[], p.mutexes, []⟩)) ++ (cR ⟨p.globals, [], []⟩)).length) rfl (cs := iF (((cR ⟨[], [], p.funcs⟩) ++ (cR ⟨[], p.mutexes, []⟩)) ++ (cR ⟨p.globals, [], []⟩))) rfl ?_)
 refine wo rfl (aHw 0 [] rfl rfl (by decide) Tryz.call19 rfl rfl (tQ (((cR ⟨[], [], p.funcs⟩) ++ (cR ⟨[], p.mutexes, []⟩)) ++ (cR ⟨p.globals, [], []⟩)) m _) bDl bDl (fun _ => bDl) ?_)
 rintro _ _ ⟨rfl, rfl⟩
 refine go 12 fun b2 => ?_
 obtain ⟨hor1, hor2⟩ := bF5 hp
 rw [hor1, hor2]
 refine go 1 ?_
 refine wcp true rfl (by simp [bC]) ?_
 refine go 3 ?_
 refine wo rfl (bV rfl rfl (by decide) Tryz.call20 rfl (aMe p (by have h9 := aFh (cR ⟨[], [], p.funcs⟩ ++ cR ⟨[], p.mutexes, []⟩ ++ cR ⟨p.globals, [], []⟩); rw [hor1] at h9; exact h9) _) ?_)
 rintro _ _ ⟨rfl, rfl⟩
 refine go 2 ?_
 refine wo rfl (aQ6 0 rfl rfl (by decide) Tryz.call16 rfl aH2 ?_)
 refine go 5 ?_
 exact ⟨.inr rfl, _, ⟨[], []⟩, aR rfl (aF rfl), aA (List.nil_sublist _) (List.nil_sublist _), rfl, rfl⟩
theorem bFz (H : Type) (enc : TypeId × Value → H) (W : World) (base : Nat) (args : Array Value) (ds gs : List (DataW H)) (before : List MemPlace)
  (hval : ∀ (j : Nat) t v, Tryz.f4.params[j]? = some t → args[j]? = some v → Value.okWide Tryz.prog W .any base t v)
  (hW : DataW.Whole enc Tryz.prog Tryz.f4.params.toList Rows.parseOrderSpec.vars false W args.toList ds gs before) (he : Env W) :
  Calls Tryz.prog 4 args W fun e W' => ∃ v, e = .returned v ∧ Rows.parseOrderSpec.post enc Tryz.prog Tryz.f4 false true false false W args v W' := by
 have hW' := hW
 obtain ⟨p, q, hA0, hV, rfl, hfz, hnd⟩ := hW
 have hA : DataW.TrodAll enc Tryz.prog W 0 (fun _ => true) true Tryz.f4.params.toList args.toList ds p := hA0
 rw [Tryz.params4] at hA hval
 obtain ⟨v0, vs0, d0, ds0, p0, q0, hargs, rfl, rfl, h0, r0⟩ := trodAll_cons hA
 obtain ⟨rfl, rfl, rfl⟩ := trodAll_nil r0
 obtain rfl : args = #[v0] := by cases args; simp_all
 have walk : Calls Tryz.prog 4 #[v0] W fun e w' => e = .returned (.bool true) ∧ Below W.heap.size W w' := by
  obtain ⟨l0, a0, cap0, rfl, hc0, hcm0, hr0⟩ := aHn (hval 0 22 v0 rfl rfl) h0
  obtain ⟨m, hm0⟩ := aE5 (t := .c (.sl l0.length (l0.map fun i => .val (.int .i64 i)))) (v := .slice a0 l0.length cap0) he (aLg hr0 (by unfold maxLen at hcm0; omega))
  exact aJe (vs := [.slice a0 l0.length cap0]) (bF4 l0 m (by unfold maxLen at hcm0; omega)) rfl fun i h h' => by
   match i, h, h' with
   | 0, _, _ => exact hm0
 refine walk.mono fun e W' ⟨he, hb⟩ => ?_
 subst he
 exact aMc hW' rfl rfl (by rw [Tryz.params4]; intro t ht; simp at ht; subst ht; exact ⟨by kernel_rfl, of_decide_eq_true (by kernel_rfl)⟩) rfl hb
theorem bF1 (os : Os) {H : Type} (enc : TypeId × Value → H) : ∃ places, DataW.whole enc Tryz.prog ((World.doorLaid Tryz.prog 60 os).forCall (fun _ _ => 0) ⟨#[], #[.slice none 0 0], []⟩).memory Tryz.f4.params.toList Rows.parseOrderSpec.vars false (#[.slice none 0 0] : Array Value).toList 8 = some ([.nil], [], places) :=
 ⟨[], by kernel_rfl⟩
theorem bF0 (os : Os) (started : os.Started) (H : Type) (enc : TypeId × Value → H) (F : Stop.Interp) :
  ReturnsInHanded {} Tryz.checked os 4 .any ((OpenSpec.ofChange Rows.parseOrderSpec).preRow enc Tryz.prog Tryz.f4 Rows.parseOrderRow.domain false Rows.parseOrderRow.laid) (((OpenSpec.ofChange Rows.parseOrderSpec).at F).post enc Tryz.prog Tryz.f4 false true false false) := by
 obtain ⟨places, hx⟩ := bF1 os enc
 refine returnsInHanded_of_row (C := Tryz.checked) (s := OpenSpec.ofChange Rows.parseOrderSpec) own started (by kernel_rfl) Tryz.func4
  (witness_row_at (enc := enc) (C := Tryz.checked) false (World.doorLaid Tryz.prog 60 os) #[.slice none 0 0] rfl (by kernel_rfl) (by kernel_rfl) (by kernel_rfl)
   (OpenSpec.preRow_of_cond 8 hx (by kernel_rfl) (fun k hk => by cases hk) (by kernel_rfl) (aNi os _))) ?_
 intro W base args ds gs before hval hW _ _ _ hL hSh _
 exact bFz H enc W base args ds gs before hval hW (aQe hL hSh)
theorem bF3 : Rows.ParseOrderSaid :=
 OpenClaim.holds_of_cond 4 Tryz.f4 rfl rfl rfl rfl rfl rfl rfl ⟨rfl, rfl, rfl, rfl, rfl⟩ rfl rfl rfl rfl rfl (by kernel_rfl) Tryz.func4 (by kernel_rfl)
  (of_decide_eq_true (by kernel_rfl)) (by unfold Func.isWrapper; first | (rw [if_pos (by decide +kernel)]; kernel_rfl) | (rw [if_neg (by decide +kernel)]; exact ⟨rfl, rfl⟩))
  (fun os started H enc _ F => by rw [OpenClaim.pre_eq_preRow]; exact bF0 os started H enc F)
theorem bF2 (f : FuncId) (fn : Func) (hf : Tryz.pinned.checked.prog.funcNamed "lockorder/lockorderlaw03.ParseOrder" = some f) (hfn : Tryz.pinned.checked.prog.funcs[f]? = some fn) :
  false = Tryz.pinned.checked.prog.looks [] ∧ ∀ (j : Nat) t, fn.params[j]? = some t → Tryz.pinned.checked.prog.wantsStandIn t = false := by
 obtain rfl : f = 4 := Option.some.inj ((show Tryz.prog.funcNamed "lockorder/lockorderlaw03.ParseOrder" = some 4 by kernel_rfl).symm.trans hf) |>.symm
 obtain rfl : fn = Tryz.f4 := (Option.some.inj (Tryz.func4.symm.trans hfn)).symm
 refine ⟨by kernel_rfl, fun j t ht => ?_⟩
 rw [Tryz.params4] at ht
 have hm : t ∈ [22] := by simpa using Array.mem_of_getElem? ht
 have hall : ([22].all fun u => !Tryz.prog.wantsStandIn u) = true := by kernel_rfl
 exact (show Tryz.prog.wantsStandIn t = false by simpa using List.all_eq_true.1 hall t hm)
theorem parseOrder_card : Rows.ParseOrderCardSaid :=
 Claim7.holds_tied_plain_at .later [] _ _ _ _ bF3 (fun _ h => by cases h) (by kernel_rfl) (fun _ h => by cases h) parseOrder_row_tie rfl ⟨rfl, rfl⟩ (by kernel_rfl) rfl bF2 (by kernel_rfl)
#print axioms parseOrder_card
end
end Go.Proofs.YteiefdnbdjnoiaaGreatDoor
