/-
  Proved: for all arguments lockorderlaw03.ParseBlock returns true and leaves its arguments as they were. No condition beyond the row's own. (Printed by genlaw_block.py.)
-/
import Derived.Test.YteiefdnbdjnoiaaGreatDoorH5J
import Derived.Test.YteiefdnbdjnoiaaGreatDoorH20J
import Derived.Test.YteiefdnbdjnoiaaGreatDoorH27J
import Derived.Test.YteiefdnbdjnoiaaGreatDoorH30J
set_option linter.all false
set_option synthInstance.maxHeartbeats 1000000
set_option synthInstance.maxSize 1000000
set_option maxHeartbeats 1600000
set_option maxRecDepth 100000
namespace Go.Proofs.YteiefdnbdjnoiaaGreatDoor
open List (length_append length_cons length_nil mem_append mem_cons not_mem_nil append_assoc getElem_mem take_of_length_le)
section
open Go.ChangeShapes Go.WideShapes Go.ChangeAt Go.RowKit
theorem bEi {α : Type} (enc : α → List AC) (z : Nat) (hz : ∀ x, (enc x).length = z) : ∀ (l : List α) (k : Nat), (l.flatMap enc).take (k * z) = (l.take k).flatMap enc
 | [], k => by simp
 | x :: l, 0 => by simp
 | x :: l, k + 1 => by
  rw [List.flatMap_cons, List.take_succ_cons, List.flatMap_cons, ← bEi enc z hz l k, List.take_append, hz x, take_of_length_le (by rw [hz, Nat.add_mul]; omega)]
  congr 2
  rw [Nat.add_mul]; omega
theorem fK {l : List Tok} {i : Int} (h : l.length ≤ 1000000) : (gN l i).1.length ≤ 1000000000 ∧ smalls 1000000000 (gN l i).1 := by
 unfold gN
 split
 ·rename_i hc
  split
  ·rename_i x k hb
   have he : rP l := ⟨by omega, by rw [← bG (by omega)]; exact hc.2.2⟩
   exact uT (N := 1000000000) he (by decide) (by omega) (fun k x k9 hk h => by have h1 := aJr l k; have h2 := kY he hk; rw [h] at h1 h2; have h3 : x.nodes + 3 * k ≤ 3 * k9 := h1; have h4 := h2.2; omega) 24 i.toNat x k (by omega) hb
  ·exact ⟨by simp, trivial⟩
 ·exact ⟨by simp, trivial⟩
theorem bE2 {n : Int} (h : (Lit.int .i64 n).wf = true) : -9223372036854775808 ≤ n ∧ n ≤ 9223372036854775807 := by
 simp only [Lit.wf, Bool.and_eq_true, decide_eq_true_eq] at h
 exact h
theorem bEm (l0 : List Int) (n1 : Int) (n2 : Int) (m3 : Bool) (m : Int) (hl0 : l0.length ≤ 9223372036854775807) (hn1 : -9223372036854775808 ≤ n1 ∧ n1 ≤ 9223372036854775807) (hn2 : -9223372036854775808 ≤ n2 ∧ n2 ≤ 9223372036854775807) : aL Tryz.prog 6 [aA2 (.c (.sl l0.length (l0.map fun i => .val (.int .i64 i)))) m, .c (.val (.int .i64 n1)), .c (.val (.int .i64 n2)), .c (.val (.bool m3))] [] ⟨[], []⟩ fun r s' => r = .c (.val (.bool true)) ∧ s' = ⟨[], []⟩ := by
 refine aD Tryz.func6 rfl (Nat.le_of_ble_eq_true rfl) ?_
 show AWp Tryz.prog _ ⟨78, [], ⟨[], []⟩, [(0, aA2 (.c (.sl l0.length (l0.map fun i => .val (.int .i64 i)))) m), (1, .c (.val (.int .i64 n1))), (2, .c (.val (.int .i64 n2))), (3, .c (.val (.bool m3)))]⟩ _
 refine go 8 ?_
 refine wo rfl (bV rfl rfl (by decide) Tryz.call13 rfl (bE3 l0 (by omega) _) ?_)
 rintro _ _ ⟨p, hp, rfl, rfl⟩
 have hpl := bEq hp
 refine wo rfl (aDc rfl rfl (by decide) rfl Tryz.underlying9 Tryz.underlying23 Tryz.underlying5 (by first | (rw [kT]; (try simp only [length_append]); omega) | omega) (N := (vI p).length) rfl (cs := iF (vI p)) rfl ?_)
 refine wo rfl (bV rfl rfl (by decide) Tryz.call21 rfl (bFg (vI p) _) ?_)
 rintro _ _ ⟨⟨L, q1, q2, rfl, hreg, hlen⟩, rfl⟩
 refine go 13 ?_
 refine wyy rfl rfl rfl (bFn rfl rfl rfl) ?_
 by_cases h1 : (bFm n2 1) = 1
 ·refine wcp true rfl (eR h1) ?_
  refine go 6 ?_
  refine wyy rfl rfl rfl (bFd rfl rfl rfl) ?_
  refine go 2 ?_
  refine wyy rfl rfl rfl (bB rfl rfl rfl (by omega) (by omega)) ?_
  obtain ⟨k1, hk1, hlk1⟩ := bEj ((n2.fdiv 2)) ((((L.length : Nat) : Int) + 1)) (by omega)
  refine wo rfl (bV rfl rfl (by decide) Tryz.call14 rfl (bEl ((n2.fdiv 2)) ((((L.length : Nat) : Int) + 1)) k1 (by omega) (by omega) hk1 _) ?_)
  rintro _ _ ⟨rfl, rfl⟩
  obtain ⟨L2, hL2⟩ : ∃ x, x = L.take k1 := ⟨_, rfl⟩
  have hk2 : L2.length = k1 := by rw [hL2, List.length_take]; omega
  have hreg2 : ∀ t, t ∈ L2 → aPn t := fun t h => hreg t (List.mem_of_mem_take (hL2 ▸ h))
  refine wyy rfl rfl rfl (aGm (h := L2.length) (r := L2.flatMap aW) rfl rfl rfl (by rw [hk2]) (by omega) (by kernel_rfl) (by kernel_rfl) Tryz.sizeOf84 (by rw [hk2, bEi aW 4 bJ, hL2])) ?_
  refine go 7 ?_
  rcases Bool.eq_false_or_eq_true (m3) with h3 | h3
  ·refine wyy rfl rfl rfl (fL (bZ (aKs h3)) (lF rfl rfl)) ?_
   refine go 14 ?_
   refine wo rfl (bV rfl rfl (by decide) Tryz.call23 rfl (bD1 L2 n1 hreg2 (by omega) _) ?_)
   rintro _ _ ⟨rfl, rfl⟩
   refine go 13 ?_
   refine wo rfl (bV rfl rfl (by decide) Tryz.call24 rfl (mN L2 n1 hreg2 (by omega) _) ?_)
   rintro _ _ ⟨rfl, rfl⟩
   refine go 13 ?_
   refine wcp true rfl (eR (by omega)) ?_
   refine go 3 ?_
   refine wcp true rfl (eR (by omega)) ?_
   refine go 4 ?_
   refine wo rfl (bV rfl rfl (by decide) Tryz.call25 rfl (aAy (gN L2 n1).1 (fK (by omega)).1 (fK (by omega)).2 _) ?_)
   rintro _ _ ⟨rfl, rfl⟩
   refine go 2 ?_
   refine wo rfl (aQ6 0 rfl rfl (by decide) Tryz.call16 rfl aH2 ?_)
   refine go 5 ?_
   exact ⟨.inr rfl, _, ⟨[], []⟩, aR rfl (aF rfl), aA (List.nil_sublist _) (List.nil_sublist _), rfl, rfl⟩
  ·refine wyy rfl rfl rfl (fL (bZ (aKt h3)) (lF rfl rfl)) ?_
   refine go 3 ?_
   by_cases h6 : (0 : Int) < ((L2.length : Nat) : Int)
   ·refine wcp true rfl (mH h6) ?_
    refine go 8 ?_
    obtain ⟨k2, hk2, hlk2⟩ := bEj (n1) (((L2.length : Nat) : Int)) (by omega)
    refine wo rfl (bV rfl rfl (by decide) Tryz.call14 rfl (bEl (n1) (((L2.length : Nat) : Int)) k2 (by omega) (by omega) hk2 _) ?_)
    rintro _ _ ⟨rfl, rfl⟩
    refine go 7 ?_
    refine wo rfl (bV rfl rfl (by decide) Tryz.call23 rfl (bD1 L2 ((k2 : Nat) : Int) hreg2 (by omega) _) ?_)
    rintro _ _ ⟨rfl, rfl⟩
    refine go 13 ?_
    refine wo rfl (bV rfl rfl (by decide) Tryz.call24 rfl (mN L2 ((k2 : Nat) : Int) hreg2 (by omega) _) ?_)
    rintro _ _ ⟨rfl, rfl⟩
    refine go 13 ?_
    refine wcp true rfl (eR (by omega)) ?_
    refine go 3 ?_
    refine wcp true rfl (eR (by omega)) ?_
    refine go 4 ?_
    refine wo rfl (bV rfl rfl (by decide) Tryz.call25 rfl (aAy (gN L2 ((k2 : Nat) : Int)).1 (fK (by omega)).1 (fK (by omega)).2 _) ?_)
    rintro _ _ ⟨rfl, rfl⟩
    refine go 2 ?_
    refine wo rfl (aQ6 0 rfl rfl (by decide) Tryz.call16 rfl aH2 ?_)
    refine go 5 ?_
    exact ⟨.inr rfl, _, ⟨[], []⟩, aR rfl (aF rfl), aA (List.nil_sublist _) (List.nil_sublist _), rfl, rfl⟩
   ·refine wcp false rfl (mI h6) ?_
    refine go 10 ?_
    refine wo rfl (bV rfl rfl (by decide) Tryz.call23 rfl (bD1 L2 n1 hreg2 (by omega) _) ?_)
    rintro _ _ ⟨rfl, rfl⟩
    refine go 13 ?_
    refine wo rfl (bV rfl rfl (by decide) Tryz.call24 rfl (mN L2 n1 hreg2 (by omega) _) ?_)
    rintro _ _ ⟨rfl, rfl⟩
    refine go 13 ?_
    refine wcp true rfl (eR (by omega)) ?_
    refine go 3 ?_
    refine wcp true rfl (eR (by omega)) ?_
    refine go 4 ?_
    refine wo rfl (bV rfl rfl (by decide) Tryz.call25 rfl (aAy (gN L2 n1).1 (fK (by omega)).1 (fK (by omega)).2 _) ?_)
    rintro _ _ ⟨rfl, rfl⟩
    refine go 2 ?_
    refine wo rfl (aQ6 0 rfl rfl (by decide) Tryz.call16 rfl aH2 ?_)
    refine go 5 ?_
    exact ⟨.inr rfl, _, ⟨[], []⟩, aR rfl (aF rfl), aA (List.nil_sublist _) (List.nil_sublist _), rfl, rfl⟩
 ·refine wcp false rfl (eD h1) ?_
  refine go 9 ?_
  rcases Bool.eq_false_or_eq_true (m3) with h12 | h12
  ·refine wyy rfl rfl rfl (fL (bZ (aKs h12)) (lF rfl rfl)) ?_
   refine go 14 ?_
   refine wo rfl (bV rfl rfl (by decide) Tryz.call23 rfl (bD1 L n1 hreg (by omega) _) ?_)
   rintro _ _ ⟨rfl, rfl⟩
   refine go 13 ?_
   refine wo rfl (bV rfl rfl (by decide) Tryz.call24 rfl (mN L n1 hreg (by omega) _) ?_)
   rintro _ _ ⟨rfl, rfl⟩
   refine go 13 ?_
   refine wcp true rfl (eR (by omega)) ?_
   refine go 3 ?_
   refine wcp true rfl (eR (by omega)) ?_
   refine go 4 ?_
   refine wo rfl (bV rfl rfl (by decide) Tryz.call25 rfl (aAy (gN L n1).1 (fK (by omega)).1 (fK (by omega)).2 _) ?_)
   rintro _ _ ⟨rfl, rfl⟩
   refine go 2 ?_
   refine wo rfl (aQ6 0 rfl rfl (by decide) Tryz.call16 rfl aH2 ?_)
   refine go 5 ?_
   exact ⟨.inr rfl, _, ⟨[], []⟩, aR rfl (aF rfl), aA (List.nil_sublist _) (List.nil_sublist _), rfl, rfl⟩
  ·refine wyy rfl rfl rfl (fL (bZ (aKt h12)) (lF rfl rfl)) ?_
   refine go 3 ?_
   by_cases h15 : (0 : Int) < ((L.length : Nat) : Int)
   ·refine wcp true rfl (mH h15) ?_
    refine go 8 ?_
    obtain ⟨k1, hk1, hlk1⟩ := bEj (n1) (((L.length : Nat) : Int)) (by omega)
    refine wo rfl (bV rfl rfl (by decide) Tryz.call14 rfl (bEl (n1) (((L.length : Nat) : Int)) k1 (by omega) (by omega) hk1 _) ?_)
    rintro _ _ ⟨rfl, rfl⟩
    refine go 7 ?_
    refine wo rfl (bV rfl rfl (by decide) Tryz.call23 rfl (bD1 L ((k1 : Nat) : Int) hreg (by omega) _) ?_)
    rintro _ _ ⟨rfl, rfl⟩
    refine go 13 ?_
    refine wo rfl (bV rfl rfl (by decide) Tryz.call24 rfl (mN L ((k1 : Nat) : Int) hreg (by omega) _) ?_)
    rintro _ _ ⟨rfl, rfl⟩
    refine go 13 ?_
    refine wcp true rfl (eR (by omega)) ?_
    refine go 3 ?_
    refine wcp true rfl (eR (by omega)) ?_
    refine go 4 ?_
    refine wo rfl (bV rfl rfl (by decide) Tryz.call25 rfl (aAy (gN L ((k1 : Nat) : Int)).1 (fK (by omega)).1 (fK (by omega)).2 _) ?_)
    rintro _ _ ⟨rfl, rfl⟩
    refine go 2 ?_
    refine wo rfl (aQ6 0 rfl rfl (by decide) Tryz.call16 rfl aH2 ?_)
    refine go 5 ?_
    exact ⟨.inr rfl, _, ⟨[], []⟩, aR rfl (aF rfl), aA (List.nil_sublist _) (List.nil_sublist _), rfl, rfl⟩
   ·refine wcp false rfl (mI h15) ?_
    refine go 10 ?_
    refine wo rfl (bV rfl rfl (by decide) Tryz.call23 rfl (bD1 L n1 hreg (by omega) _) ?_)
    rintro _ _ ⟨rfl, rfl⟩
    refine go 13 ?_
    refine wo rfl (bV rfl rfl (by decide) Tryz.call24 rfl (mN L n1 hreg (by omega) _) ?_)
    rintro _ _ ⟨rfl, rfl⟩
    refine go 13 ?_
    refine wcp true rfl (eR (by omega)) ?_
    refine go 3 ?_
    refine wcp true rfl (eR (by omega)) ?_
    refine go 4 ?_
    refine wo rfl (bV rfl rfl (by decide) Tryz.call25 rfl (aAy (gN L n1).1 (fK (by omega)).1 (fK (by omega)).2 _) ?_)
    rintro _ _ ⟨rfl, rfl⟩
    refine go 2 ?_
    refine wo rfl (aQ6 0 rfl rfl (by decide) Tryz.call16 rfl aH2 ?_)
    refine go 5 ?_
    exact ⟨.inr rfl, _, ⟨[], []⟩, aR rfl (aF rfl), aA (List.nil_sublist _) (List.nil_sublist _), rfl, rfl⟩
theorem bD4 (H : Type) (enc : TypeId × Value → H) (W : World) (base : Nat) (args : Array Value) (ds gs : List (DataW H)) (before : List MemPlace)
  (hval : ∀ (j : Nat) t v, Tryz.f6.params[j]? = some t → args[j]? = some v → Value.okWide Tryz.prog W .any base t v)
  (hW : DataW.Whole enc Tryz.prog Tryz.f6.params.toList Rows.parseBlockSpec.vars false W args.toList ds gs before) (he : Env W) :
  Calls Tryz.prog 6 args W fun e W' => ∃ v, e = .returned v ∧ Rows.parseBlockSpec.post enc Tryz.prog Tryz.f6 false true false false W args v W' := by
 have hW' := hW
 obtain ⟨p, q, hA0, hV, rfl, hfz, hnd⟩ := hW
 have hA : DataW.TrodAll enc Tryz.prog W 0 (fun _ => true) true Tryz.f6.params.toList args.toList ds p := hA0
 rw [Tryz.params6] at hA hval
 obtain ⟨v0, vs0, d0, ds0, p0, q0, hargs, rfl, rfl, h0, r0⟩ := trodAll_cons hA
 obtain ⟨v1, vs1, d1, ds1, p1, q1, rfl, rfl, rfl, h1, r1⟩ := trodAll_cons r0
 obtain ⟨v2, vs2, d2, ds2, p2, q2, rfl, rfl, rfl, h2, r2⟩ := trodAll_cons r1
 obtain ⟨v3, vs3, d3, ds3, p3, q3, rfl, rfl, rfl, h3, r3⟩ := trodAll_cons r2
 obtain ⟨rfl, rfl, rfl⟩ := trodAll_nil r3
 obtain rfl : args = #[v0, v1, v2, v3] := by cases args; simp_all
 have walk : Calls Tryz.prog 6 #[v0, v1, v2, v3] W fun e w' => e = .returned (.bool true) ∧ Below W.heap.size W w' := by
  obtain ⟨l0, a0, cap0, rfl, hc0, hcm0, hr0⟩ := aHn (hval 0 22 v0 rfl rfl) h0
  obtain ⟨n1, rfl, rfl, rfl, hn1⟩ := open_int Tryz.underlying3 (hval 1 3 v1 rfl rfl) h1
  obtain ⟨n2, rfl, rfl, rfl, hn2⟩ := open_int Tryz.underlying3 (hval 2 3 v2 rfl rfl) h2
  obtain ⟨m3, rfl, rfl, rfl⟩ := open_bool Tryz.underlying4 (hval 3 4 v3 rfl rfl) h3
  obtain ⟨m, hm0⟩ := aE5 (t := .c (.sl l0.length (l0.map fun i => .val (.int .i64 i)))) (v := .slice a0 l0.length cap0) he (aLg hr0 (by unfold maxLen at hcm0; omega))
  exact aJe (vs := [.slice a0 l0.length cap0, .int .i64 n1, .int .i64 n2, .bool m3]) (bEm l0 n1 n2 m3 m (by unfold maxLen at hcm0; omega) (bE2 hn1) (bE2 hn2)) rfl fun i h h' => by
   match i, h, h' with
   | 0, _, _ => exact hm0
   | 1, _, _ => exact .c _ _ (.val _ rfl)
   | 2, _, _ => exact .c _ _ (.val _ rfl)
   | 3, _, _ => exact .c _ _ (.val _ rfl)
 refine walk.mono fun e W' ⟨he, hb⟩ => ?_
 subst he
 exact aMc hW' rfl rfl (by rw [Tryz.params6]; intro t ht; simp at ht; rcases ht with rfl | rfl | rfl | rfl <;> exact ⟨by kernel_rfl, of_decide_eq_true (by kernel_rfl)⟩) rfl hb
theorem bD7 (os : Os) {H : Type} (enc : TypeId × Value → H) : ∃ places, DataW.whole enc Tryz.prog ((World.doorLaid Tryz.prog 60 os).forCall (fun _ _ => 0) ⟨#[], #[.slice none 0 0, .int .i64 0, .int .i64 0, .bool false], []⟩).memory Tryz.f6.params.toList Rows.parseBlockSpec.vars false (#[.slice none 0 0, .int .i64 0, .int .i64 0, .bool false] : Array Value).toList 8 = some ([.nil, .lit (.int .i64 0), .lit (.int .i64 0), .lit (.bool false)], [], places) :=
 ⟨[], by kernel_rfl⟩
theorem bD6 (os : Os) (started : os.Started) (H : Type) (enc : TypeId × Value → H) (F : Stop.Interp) :
  ReturnsInHanded {} Tryz.checked os 6 .any ((OpenSpec.ofChange Rows.parseBlockSpec).preRow enc Tryz.prog Tryz.f6 Rows.parseBlockRow.domain false Rows.parseBlockRow.laid) (((OpenSpec.ofChange Rows.parseBlockSpec).at F).post enc Tryz.prog Tryz.f6 false true false false) := by
 obtain ⟨places, hx⟩ := bD7 os enc
 refine returnsInHanded_of_row (C := Tryz.checked) (s := OpenSpec.ofChange Rows.parseBlockSpec) own started (by kernel_rfl) Tryz.func6
  (witness_row_at (enc := enc) (C := Tryz.checked) false (World.doorLaid Tryz.prog 60 os) #[.slice none 0 0, .int .i64 0, .int .i64 0, .bool false] rfl (by kernel_rfl) (by kernel_rfl) (by kernel_rfl)
   (OpenSpec.preRow_of_cond 8 hx (by kernel_rfl) (fun k hk => by cases hk) (by kernel_rfl) (aNi os _))) ?_
 intro W base args ds gs before hval hW _ _ _ hL hSh _
 exact bD4 H enc W base args ds gs before hval hW (aQe hL hSh)
theorem bEc : Rows.ParseBlockSaid :=
 OpenClaim.holds_of_cond 6 Tryz.f6 rfl rfl rfl rfl rfl rfl rfl ⟨rfl, rfl, rfl, rfl, rfl⟩ rfl rfl rfl rfl rfl (by kernel_rfl) Tryz.func6 (by kernel_rfl)
  (of_decide_eq_true (by kernel_rfl)) (by unfold Func.isWrapper; first | (rw [if_pos (by decide +kernel)]; kernel_rfl) | (rw [if_neg (by decide +kernel)]; exact ⟨rfl, rfl⟩))
  (fun os started H enc _ F => by rw [OpenClaim.pre_eq_preRow]; exact bD6 os started H enc F)
theorem bD8 (f : FuncId) (fn : Func) (hf : Tryz.pinned.checked.prog.funcNamed "lockorder/lockorderlaw03.ParseBlock" = some f) (hfn : Tryz.pinned.checked.prog.funcs[f]? = some fn) :
  false = Tryz.pinned.checked.prog.looks [] ∧ ∀ (j : Nat) t, fn.params[j]? = some t → Tryz.pinned.checked.prog.wantsStandIn t = false := by
 obtain rfl : f = 6 := Option.some.inj ((show Tryz.prog.funcNamed "lockorder/lockorderlaw03.ParseBlock" = some 6 by kernel_rfl).symm.trans hf) |>.symm
 obtain rfl : fn = Tryz.f6 := (Option.some.inj (Tryz.func6.symm.trans hfn)).symm
 refine ⟨by kernel_rfl, fun j t ht => ?_⟩
 rw [Tryz.params6] at ht
 have hm : t ∈ [22, 3, 3, 4] := by simpa using Array.mem_of_getElem? ht
 have hall : ([22, 3, 3, 4].all fun u => !Tryz.prog.wantsStandIn u) = true := by kernel_rfl
 exact (show Tryz.prog.wantsStandIn t = false by simpa using List.all_eq_true.1 hall t hm)
theorem parseBlock_card : Rows.ParseBlockCardSaid :=
 Claim7.holds_tied_plain_at .later [] _ _ _ _ bEc (fun _ h => by cases h) (by kernel_rfl) (fun _ h => by cases h) parseBlock_row_tie rfl ⟨rfl, rfl⟩ (by kernel_rfl) rfl bD8 (by kernel_rfl)
#print axioms parseBlock_card
end
end Go.Proofs.YteiefdnbdjnoiaaGreatDoor
