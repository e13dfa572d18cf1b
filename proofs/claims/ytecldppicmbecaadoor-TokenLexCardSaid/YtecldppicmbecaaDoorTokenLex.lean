/-
  Proved: for every slice of bytes lockorderlaw01.TokenLex returns true and leaves its argument as it was. No condition beyond the row's own.
-/
import Derived.Test.YtecldppicmbecaaDoorFrame
namespace Go.Proofs.YtecldppicmbecaaDoor
open Go.ChangeShapes Go.WideShapes Go.ChangeAt Go.RowKit

set_option maxRecDepth 100000 in
set_option maxHeartbeats 400000 in
theorem tokenLex_walk (s : List UInt8) (a : Option Addr) (cap : Nat) (w : World) (he : Env w) (hr : RowAt w (.slice a s.length cap) s.length (bcells s)) (hc : s.length ≤ cap) (hcm : cap ≤ 9223372036854775807) :
    Calls Tryd.prog 3 #[.slice a s.length cap] w fun e w' => e = .returned (.bool true) ∧ Below w.heap.size w w' := by
  have hr4 : RowAt w (.slice a (min (s.length : Int) 4000).toNat cap) (s.take 4000).length (bcells (s.take 4000)) := by
    obtain ⟨a', cap', h, _, hr⟩ := hr
    cases h
    refine ⟨a, cap, by rw [List.length_take]; congr 1; omega, by rw [List.length_take]; omega, ?_⟩
    rcases hr with h0 | ⟨b, off, ha, hr⟩
    · left; simp only [bcells] at h0 ⊢; rw [List.map_eq_nil_iff] at h0 ⊢; rw [h0]; rfl
    · right; refine ⟨b, off, ha, fun j u hu => hr j u ?_⟩
      simp only [bcells, List.map_take, List.getElem?_take] at hu
      split at hu
      · exact hu
      · cases hu
  have HR4 := Lib.hid hr4
  clear hr hr4
  go_enter Tryd.func3, Tryd.ntmps3
  go_wp2_with (first | (go_at_call 10; ((with_reducible refine (same_any (s.take 4000) _ w he HR4.out (fun _ _ c h => by cases h; exact hcm)).mono ?_); rintro e w1 ⟨rfl, hb1⟩)) | (go_at_call 11; ((with_reducible refine (awake_any w1 (he.below hb1 he.size)).mono ?_); rintro e w2 ⟨rfl, hb2⟩)))
  go_ret
  exact ⟨rfl, hb1.trans (hb2.mono hb1.size)⟩


set_option maxRecDepth 100000 in
theorem tokenLex_contract (H : Type) (enc : TypeId × Value → H) (W : World) (base : Nat) (args : Array Value) (ds gs : List (DataW H)) (before : List MemPlace)
    (hval : ∀ (j : Nat) t v, Tryd.f3.params[j]? = some t → args[j]? = some v → Value.okWide Tryd.prog W .any base t v)
    (hW : DataW.Whole enc Tryd.prog Tryd.f3.params.toList Rows.tokenLexSpec.vars false W args.toList ds gs before) (he : Env W) :
    Calls Tryd.prog 3 args W fun e W' => ∃ v, e = .returned v ∧ Rows.tokenLexSpec.post enc Tryd.prog Tryd.f3 false true false false W args v W' := by
  have hW' := hW
  obtain ⟨p, q, hA0, hV, rfl, hfz, hnd⟩ := hW
  have hA : DataW.TrodAll enc Tryd.prog W 0 (fun _ => true) true Tryd.f3.params.toList args.toList ds p := hA0
  rw [Tryd.params3] at hA hval
  obtain ⟨v0, vs0, d0, ds0, p0, q0, hargs, rfl, rfl, h0, r0⟩ := trodAll_cons hA
  obtain ⟨rfl, rfl, rfl⟩ := trodAll_nil r0
  obtain rfl : args = #[v0] := by cases args; simp_all
  have walk : Calls Tryd.prog 3 #[v0] W fun e w' => e = .returned (.bool true) ∧ Below W.heap.size W w' := by
    obtain ⟨s, a, cap, rfl, hc, hcm, hr⟩ := open_bytes (hval 0 22 v0 rfl rfl) h0
    exact tokenLex_walk s a cap W he hr hc (by unfold maxLen at hcm; omega)
  refine walk.mono fun e W' ⟨he, hb⟩ => ?_
  subst he
  exact law_post hW' rfl rfl (by rw [Tryd.params3]; intro t ht; simp at ht; subst ht; exact ⟨by kernel_rfl, of_decide_eq_true (by kernel_rfl)⟩) rfl hb

theorem tokenLex_reads (os : Os) {H : Type} (enc : TypeId × Value → H) : ∃ places, DataW.whole enc Tryd.prog ((World.doorLaid Tryd.prog 14 os).forCall (fun _ _ => 0) ⟨#[], #[.slice none 0 0], []⟩).memory Tryd.f3.params.toList Rows.tokenLexSpec.vars false (#[.slice none 0 0] : Array Value).toList 8 = some ([.nil], [], places) :=
  ⟨[], by kernel_rfl⟩
set_option maxRecDepth 100000 in
theorem tokenLex_lifted (os : Os) (started : os.Started) (H : Type) (enc : TypeId × Value → H) (F : Stop.Interp) :
    ReturnsInHanded {} Tryd.checked os 3 .any ((OpenSpec.ofChange Rows.tokenLexSpec).preRow enc Tryd.prog Tryd.f3 Rows.tokenLexRow.domain false Rows.tokenLexRow.laid) (((OpenSpec.ofChange Rows.tokenLexSpec).at F).post enc Tryd.prog Tryd.f3 false true false false) := by
  obtain ⟨places, hx⟩ := tokenLex_reads os enc
  refine returnsInHanded_of_row (C := Tryd.checked) (s := OpenSpec.ofChange Rows.tokenLexSpec) own started (by kernel_rfl) Tryd.func3
    (witness_row_at (enc := enc) (C := Tryd.checked) false (World.doorLaid Tryd.prog 14 os) #[.slice none 0 0] rfl (by kernel_rfl) (by kernel_rfl) (by kernel_rfl)
      (OpenSpec.preRow_of_cond 8 hx (by kernel_rfl) (fun k hk => by cases hk) (by kernel_rfl) (laid_met os _))) ?_
  intro W base args ds gs before hval hW _ _ _ hL hSh _
  exact tokenLex_contract H enc W base args ds gs before hval hW (env_of hL hSh)
theorem tokenLex_said : Rows.TokenLexSaid :=
  OpenClaim.holds_of_cond 3 Tryd.f3 rfl rfl rfl rfl rfl rfl rfl ⟨rfl, rfl, rfl, rfl, rfl⟩ rfl rfl rfl rfl rfl (by kernel_rfl) Tryd.func3 (by kernel_rfl)
    (of_decide_eq_true (by kernel_rfl)) (by unfold Func.isWrapper; first | (rw [if_pos (by decide +kernel)]; kernel_rfl) | (rw [if_neg (by decide +kernel)]; exact ⟨rfl, rfl⟩))
    (fun os started H enc _ F => by rw [OpenClaim.pre_eq_preRow]; exact tokenLex_lifted os started H enc F)
theorem tokenLex_plain (f : FuncId) (fn : Func) (hf : Tryd.pinned.checked.prog.funcNamed "lockorder/lockorderlaw01.TokenLex" = some f) (hfn : Tryd.pinned.checked.prog.funcs[f]? = some fn) :
    false = Tryd.pinned.checked.prog.looks [] ∧ ∀ (j : Nat) t, fn.params[j]? = some t → Tryd.pinned.checked.prog.wantsStandIn t = false := by
  obtain rfl : f = 3 := Option.some.inj ((show Tryd.prog.funcNamed "lockorder/lockorderlaw01.TokenLex" = some 3 by kernel_rfl).symm.trans hf) |>.symm
  obtain rfl : fn = Tryd.f3 := (Option.some.inj (Tryd.func3.symm.trans hfn)).symm
  refine ⟨by kernel_rfl, fun j t ht => ?_⟩
  rw [Tryd.params3] at ht
  have hm : t ∈ [22] := by simpa using Array.mem_of_getElem? ht
  have hall : ([22].all fun u => !Tryd.prog.wantsStandIn u) = true := by kernel_rfl
  exact (show Tryd.prog.wantsStandIn t = false by simpa using List.all_eq_true.1 hall t hm)
/-- THE CARD -/
theorem tokenLex_card : Rows.TokenLexCardSaid :=
  Claim7.holds_tied_plain_at .later [] _ _ _ _ tokenLex_said (fun _ h => by cases h) (by kernel_rfl) (fun _ h => by cases h) tokenLex_row_tie rfl ⟨rfl, rfl⟩ (by kernel_rfl) rfl tokenLex_plain (by kernel_rfl)
#print axioms tokenLex_card
end Go.Proofs.YtecldppicmbecaaDoor
