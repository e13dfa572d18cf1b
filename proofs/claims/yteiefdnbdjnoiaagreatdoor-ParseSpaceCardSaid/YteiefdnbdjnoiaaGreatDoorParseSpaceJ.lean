/-
  Proved: for all slices of integers lockorderlaw03.ParseSpace returns true and leaves its argument as it was. No condition beyond the row's own. (Printed by genlaw_space.py.)
-/
import Derived.Test.YteiefdnbdjnoiaaGreatDoorG5J
import Derived.Test.YteiefdnbdjnoiaaGreatDoorG21J
import Derived.Test.YteiefdnbdjnoiaaGreatDoorG27J
import Derived.Test.YteiefdnbdjnoiaaGreatDoorG28J
set_option linter.all false
set_option synthInstance.maxHeartbeats 1000000
set_option synthInstance.maxSize 1000000
set_option maxHeartbeats 1600000
set_option maxRecDepth 100000
namespace Go.Proofs.YteiefdnbdjnoiaaGreatDoor
open List (length_append length_cons length_nil mem_append mem_cons not_mem_nil append_assoc getElem_mem take_of_length_le)
section
open Go.ChangeShapes Go.WideShapes Go.ChangeAt Go.RowKit
theorem aCx (l0 : List Int) (m : Int) (hl0 : l0.length ≤ 9223372036854775807) : aL Tryz.prog 5 [aA2 (.c (.sl l0.length (l0.map fun i => .val (.int .i64 i)))) m] [] ⟨[], []⟩ fun r s' => r = .c (.val (.bool true)) ∧ s' = ⟨[], []⟩ := by
 refine aD Tryz.func5 rfl (Nat.le_of_ble_eq_true rfl) ?_
 show AWp Tryz.prog _ ⟨51, [], ⟨[], []⟩, [(0, aA2 (.c (.sl l0.length (l0.map fun i => .val (.int .i64 i)))) m)]⟩ _
 refine go 8 ?_
 refine wo rfl (bV rfl rfl (by decide) Tryz.call13 rfl (aPm l0 (by omega) _) ?_)
 rintro _ _ ⟨p, hp, rfl, rfl⟩
 have hpl := hp.facts.len
 refine go 6 ?_
 refine wo rfl (aDc rfl rfl (by decide) rfl Tryz.underlying9 Tryz.underlying23 Tryz.underlying5 (by first | (rw [kT]; omega) | omega) (N := (cR p).length) rfl (cs := iF (cR p)) rfl ?_)
 refine wo rfl (bV rfl rfl (by decide) Tryz.call21 rfl (aLb (cR p) _) ?_)
 rintro _ _ ⟨(⟨L, hlx, rfl, hln⟩ | ⟨p1, e1, hlx, rfl, he1⟩), rfl⟩
 ·obtain ⟨L2, h1, h2, h3, h4, h5⟩ := yH hp
  rw [hlx] at h1
  injection h1 with h1
  subst h1
  obtain ⟨hz1, hz2⟩ := aJg hlx
  have hz3 := aGc L 262144 hz2
  refine go 12 ?_
  refine wo rfl (aDc rfl rfl (by decide) rfl Tryz.underlying9 Tryz.underlying23 Tryz.underlying5 (by first | (rw [kT]; omega) | omega) (N := (cR p).length) rfl (cs := iF (cR p)) rfl ?_)
  refine wo rfl (aHw 0 [] rfl rfl (by decide) Tryz.call19 rfl rfl (tQ (cR p) m _) bDl bDl (fun _ => bDl) ?_)
  rintro _ _ ⟨rfl, rfl⟩
  refine go 13 fun b1 => ?_
  refine wo rfl (bV rfl rfl (by decide) Tryz.call22 rfl (aOh L (by omega) (fun k => by rcases Nat.le_total k L.length with h | h; exact Nat.le_trans (hz3 k) (by have : k * (262144 + 1) ≤ 4001 * 262145 := Nat.mul_le_mul (by omega) (Nat.le_refl _); omega); rw [take_of_length_le h, ← List.take_length (l := L)]; exact Nat.le_trans (hz3 _) (by have : L.length * (262144 + 1) ≤ 4001 * 262145 := Nat.mul_le_mul hz1 (Nat.le_refl _); omega)) (fun k h => Nat.le_trans (hz2 _ (getElem_mem h)) (by decide)) _) ?_)
  rintro _ _ ⟨rfl, rfl⟩
  refine wo rfl (aDc rfl rfl (by decide) rfl Tryz.underlying9 Tryz.underlying23 Tryz.underlying5 (by first | (rw [kT]; omega) | omega) (N := (iS L).length) rfl (cs := iF (iS L)) rfl ?_)
  refine wo rfl (aHw 0 [] rfl rfl (by decide) Tryz.call19 rfl rfl (tQ (iS L) m _) bDl bDl (fun _ => bDl) ?_)
  rintro _ _ ⟨rfl, rfl⟩
  refine go 12 fun b2 => ?_
  rw [h2, h3, h4]
  refine go 1 ?_
  refine wcp true rfl (by simp [bC]) ?_
  refine go 2 ?_
  refine wcp true rfl (by simp [bC]) ?_
  refine go 4 ?_
  refine wo rfl (bV rfl rfl (by decide) Tryz.call20 rfl (aMe p (by have := aFh (cR p); rw [h2] at this; exact this) _) ?_)
  rintro _ _ ⟨rfl, rfl⟩
  refine go 2 ?_
  refine wo rfl (aQ6 0 rfl rfl (by decide) Tryz.call16 rfl aH2 ?_)
  refine go 5 ?_
  exact ⟨.inr rfl, _, ⟨[], []⟩, aR rfl (aF rfl), aA (List.nil_sublist _) (List.nil_sublist _), rfl, rfl⟩
 ·obtain ⟨L2, h1, -⟩ := yH hp
  rw [hlx] at h1
  cases h1
theorem sT (H : Type) (enc : TypeId × Value → H) (W : World) (base : Nat) (args : Array Value) (ds gs : List (DataW H)) (before : List MemPlace)
  (hval : ∀ (j : Nat) t v, Tryz.f5.params[j]? = some t → args[j]? = some v → Value.okWide Tryz.prog W .any base t v)
  (hW : DataW.Whole enc Tryz.prog Tryz.f5.params.toList Rows.parseSpaceSpec.vars false W args.toList ds gs before) (he : Env W) :
  Calls Tryz.prog 5 args W fun e W' => ∃ v, e = .returned v ∧ Rows.parseSpaceSpec.post enc Tryz.prog Tryz.f5 false true false false W args v W' := by
 have hW' := hW
 obtain ⟨p, q, hA0, hV, rfl, hfz, hnd⟩ := hW
 have hA : DataW.TrodAll enc Tryz.prog W 0 (fun _ => true) true Tryz.f5.params.toList args.toList ds p := hA0
 rw [Tryz.params5] at hA hval
 obtain ⟨v0, vs0, d0, ds0, p0, q0, hargs, rfl, rfl, h0, r0⟩ := trodAll_cons hA
 obtain ⟨rfl, rfl, rfl⟩ := trodAll_nil r0
 obtain rfl : args = #[v0] := by cases args; simp_all
 have walk : Calls Tryz.prog 5 #[v0] W fun e w' => e = .returned (.bool true) ∧ Below W.heap.size W w' := by
  obtain ⟨l0, a0, cap0, rfl, hc0, hcm0, hr0⟩ := aHn (hval 0 22 v0 rfl rfl) h0
  obtain ⟨m, hm0⟩ := aE5 (t := .c (.sl l0.length (l0.map fun i => .val (.int .i64 i)))) (v := .slice a0 l0.length cap0) he (aLg hr0 (by unfold maxLen at hcm0; omega))
  exact aJe (vs := [.slice a0 l0.length cap0]) (aCx l0 m (by unfold maxLen at hcm0; omega)) rfl fun i h h' => by
   match i, h, h' with
   | 0, _, _ => exact hm0
 refine walk.mono fun e W' ⟨he, hb⟩ => ?_
 subst he
 exact aMc hW' rfl rfl (by rw [Tryz.params5]; intro t ht; simp at ht; subst ht; exact ⟨by kernel_rfl, of_decide_eq_true (by kernel_rfl)⟩) rfl hb
theorem wK (os : Os) {H : Type} (enc : TypeId × Value → H) : ∃ places, DataW.whole enc Tryz.prog ((World.doorLaid Tryz.prog 60 os).forCall (fun _ _ => 0) ⟨#[], #[.slice none 0 0], []⟩).memory Tryz.f5.params.toList Rows.parseSpaceSpec.vars false (#[.slice none 0 0] : Array Value).toList 8 = some ([.nil], [], places) :=
 ⟨[], by kernel_rfl⟩
theorem vA (os : Os) (started : os.Started) (H : Type) (enc : TypeId × Value → H) (F : Stop.Interp) :
  ReturnsInHanded {} Tryz.checked os 5 .any ((OpenSpec.ofChange Rows.parseSpaceSpec).preRow enc Tryz.prog Tryz.f5 Rows.parseSpaceRow.domain false Rows.parseSpaceRow.laid) (((OpenSpec.ofChange Rows.parseSpaceSpec).at F).post enc Tryz.prog Tryz.f5 false true false false) := by
 obtain ⟨places, hx⟩ := wK os enc
 refine returnsInHanded_of_row (C := Tryz.checked) (s := OpenSpec.ofChange Rows.parseSpaceSpec) own started (by kernel_rfl) Tryz.func5
  (witness_row_at (enc := enc) (C := Tryz.checked) false (World.doorLaid Tryz.prog 60 os) #[.slice none 0 0] rfl (by kernel_rfl) (by kernel_rfl) (by kernel_rfl)
   (OpenSpec.preRow_of_cond 8 hx (by kernel_rfl) (fun k hk => by cases hk) (by kernel_rfl) (aNi os _))) ?_
 intro W base args ds gs before hval hW _ _ _ hL hSh _
 exact sT H enc W base args ds gs before hval hW (aQe hL hSh)
theorem xT : Rows.ParseSpaceSaid :=
 OpenClaim.holds_of_cond 5 Tryz.f5 rfl rfl rfl rfl rfl rfl rfl ⟨rfl, rfl, rfl, rfl, rfl⟩ rfl rfl rfl rfl rfl (by kernel_rfl) Tryz.func5 (by kernel_rfl)
  (of_decide_eq_true (by kernel_rfl)) (by unfold Func.isWrapper; first | (rw [if_pos (by decide +kernel)]; kernel_rfl) | (rw [if_neg (by decide +kernel)]; exact ⟨rfl, rfl⟩))
  (fun os started H enc _ F => by rw [OpenClaim.pre_eq_preRow]; exact vA os started H enc F)
theorem wA (f : FuncId) (fn : Func) (hf : Tryz.pinned.checked.prog.funcNamed "lockorder/lockorderlaw03.ParseSpace" = some f) (hfn : Tryz.pinned.checked.prog.funcs[f]? = some fn) :
  false = Tryz.pinned.checked.prog.looks [] ∧ ∀ (j : Nat) t, fn.params[j]? = some t → Tryz.pinned.checked.prog.wantsStandIn t = false := by
 obtain rfl : f = 5 := Option.some.inj ((show Tryz.prog.funcNamed "lockorder/lockorderlaw03.ParseSpace" = some 5 by kernel_rfl).symm.trans hf) |>.symm
 obtain rfl : fn = Tryz.f5 := (Option.some.inj (Tryz.func5.symm.trans hfn)).symm
 refine ⟨by kernel_rfl, fun j t ht => ?_⟩
 rw [Tryz.params5] at ht
 have hm : t ∈ [22] := by simpa using Array.mem_of_getElem? ht
 have hall : ([22].all fun u => !Tryz.prog.wantsStandIn u) = true := by kernel_rfl
 exact (show Tryz.prog.wantsStandIn t = false by simpa using List.all_eq_true.1 hall t hm)
theorem parseSpace_card : Rows.ParseSpaceCardSaid :=
 Claim7.holds_tied_plain_at .later [] _ _ _ _ xT (fun _ h => by cases h) (by kernel_rfl) (fun _ h => by cases h) parseSpace_row_tie rfl ⟨rfl, rfl⟩ (by kernel_rfl) rfl wA (by kernel_rfl)
#print axioms parseSpace_card
end
end Go.Proofs.YteiefdnbdjnoiaaGreatDoor
