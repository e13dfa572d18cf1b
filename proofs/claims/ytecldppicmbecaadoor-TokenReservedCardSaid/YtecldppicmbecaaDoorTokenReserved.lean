/-
  Proved: for every string and every integer lockorderlaw01.TokenReserved returns true and leaves its arguments as they were. No condition beyond the row's own.
-/
import Derived.Test.YtecldppicmbecaaDoorFrame
import Derived.Test.YtecldppicmbecaaDoorWithin
namespace Go.Proofs.YtecldppicmbecaaDoor
open Go.ChangeShapes Go.WideShapes Go.ChangeAt Go.RowKit Go.ChangeMaps

def ws14 : List ByteArray := [⟨#[118, 97, 114]⟩, ⟨#[109, 117, 116, 101, 120]⟩, ⟨#[114, 109, 117, 116, 101, 120]⟩, ⟨#[102, 117, 110, 99]⟩, ⟨#[108, 111, 99, 107]⟩, ⟨#[117, 110, 108, 111, 99, 107]⟩, ⟨#[103, 111]⟩, ⟨#[105, 102]⟩, ⟨#[101, 108, 115, 101]⟩, ⟨#[119, 104, 105, 108, 101]⟩, ⟨#[114, 101, 116, 117, 114, 110]⟩, ⟨#[109, 97, 105, 110]⟩, ⟨#[118, 97, 114, 115]⟩, ⟨#[71, 111]⟩]
set_option maxRecDepth 100000 in
set_option maxHeartbeats 800000 in
theorem tokenReserved_walk (s : ByteArray) (n : Int) (w : World) (he : Env w) :
    Calls Tryd.prog 9 #[.string s, .int .i64 n] w fun e w' => e = .returned (.bool true) ∧ Below w.heap.size w w' := by
  have h1 : 0 ≤ n % 14 := Int.emod_nonneg n (by omega)
  have h2 : n % 14 < 14 := Int.emod_lt_of_pos n (by omega)
  obtain ⟨k, hk⟩ : ∃ k : Nat, n % 14 = k := ⟨(n % 14).toNat, by omega⟩
  have hk14 : k < 14 := by omega
  have HK := Lib.hid hk
  obtain ⟨x, hx⟩ : ∃ x, (ws14.map Value.string)[k]? = some (.string x) := ⟨ws14.getD k ByteArray.empty, by
    rw [List.getElem?_map, List.getElem?_eq_getElem (show k < ws14.length from hk14)]; simp [List.getD, show k < ws14.length from hk14]⟩
  have hcell : (w.alloc (Obj.cells #[Value.string ⟨#[118, 97, 114]⟩, Value.string ⟨#[109, 117, 116, 101, 120]⟩, Value.string ⟨#[114, 109, 117, 116, 101, 120]⟩, Value.string ⟨#[102, 117, 110, 99]⟩, Value.string ⟨#[108, 111, 99, 107]⟩, Value.string ⟨#[117, 110, 108, 111, 99, 107]⟩, Value.string ⟨#[103, 111]⟩, Value.string ⟨#[105, 102]⟩, Value.string ⟨#[101, 108, 115, 101]⟩, Value.string ⟨#[119, 104, 105, 108, 101]⟩, Value.string ⟨#[114, 101, 116, 117, 114, 110]⟩, Value.string ⟨#[109, 97, 105, 110]⟩, Value.string ⟨#[118, 97, 114, 115]⟩, Value.string ⟨#[71, 111]⟩] 9)).cell? ⟨w.heap.size, k, none⟩ = some (.string x) := by
    have := World.cell?_alloc_new w #[Value.string ⟨#[118, 97, 114]⟩, Value.string ⟨#[109, 117, 116, 101, 120]⟩, Value.string ⟨#[114, 109, 117, 116, 101, 120]⟩, Value.string ⟨#[102, 117, 110, 99]⟩, Value.string ⟨#[108, 111, 99, 107]⟩, Value.string ⟨#[117, 110, 108, 111, 99, 107]⟩, Value.string ⟨#[103, 111]⟩, Value.string ⟨#[105, 102]⟩, Value.string ⟨#[101, 108, 115, 101]⟩, Value.string ⟨#[119, 104, 105, 108, 101]⟩, Value.string ⟨#[114, 101, 116, 117, 114, 110]⟩, Value.string ⟨#[109, 97, 105, 110]⟩, Value.string ⟨#[118, 97, 114, 115]⟩, Value.string ⟨#[71, 111]⟩] 9 k
    rw [this, ← Array.getElem?_toList]; exact hx
  clear h1 h2 hk hx
  have hq : ∀ b : Bool, (b == b) = true := fun b => by simp
  go_enter Tryd.func9, Tryd.ntmps9
  go_wp2_with (first | (go_at_call 13; ((with_reducible refine (within_any n 14 _ (by omega) (by omega)).mono ?_); rintro e w' ⟨rfl, rfl⟩; rw [HK.out])) | (go_at_call 21; ((with_reducible refine (reserved_any _ _ (he.below (by go_grown) he.size)).mono ?_); rintro e w' ⟨rfl, rfl⟩)) | (go_at_call 22; ((with_reducible refine (rreserved_any _ _).mono ?_); rintro e w1 ⟨rfl, hb⟩; have hB := Below.step (w := w) (by go_grown) hb; clear hb)) | (go_at_call 11; ((with_reducible refine (awake_any _ (he.below (by go_grown) he.size)).mono ?_); rintro e w2 ⟨rfl, hb⟩; have hC := Below.step (w := w) (by go_grown) hb; clear hb)))
  go_ret
  exact ⟨rfl, hC⟩

set_option maxRecDepth 100000 in
theorem tokenReserved_contract (H : Type) (enc : TypeId × Value → H) (W : World) (base : Nat) (args : Array Value) (ds gs : List (DataW H)) (before : List MemPlace)
    (hval : ∀ (j : Nat) t v, Tryd.f9.params[j]? = some t → args[j]? = some v → Value.okWide Tryd.prog W .any base t v)
    (hW : DataW.Whole enc Tryd.prog Tryd.f9.params.toList Rows.tokenReservedSpec.vars false W args.toList ds gs before) (he : Env W) :
    Calls Tryd.prog 9 args W fun e W' => ∃ v, e = .returned v ∧ Rows.tokenReservedSpec.post enc Tryd.prog Tryd.f9 false true false false W args v W' := by
  have hW' := hW
  obtain ⟨p, q, hA0, hV, rfl, hfz, hnd⟩ := hW
  have hA : DataW.TrodAll enc Tryd.prog W 0 (fun _ => true) true Tryd.f9.params.toList args.toList ds p := hA0
  rw [Tryd.params9] at hA hval
  obtain ⟨v0, vs0, d0, ds0, p0, q0, hargs, rfl, rfl, h0, r0⟩ := trodAll_cons hA
  obtain ⟨v1, vs1, d1, ds1, p1, q1, rfl, rfl, rfl, h1, r1⟩ := trodAll_cons r0
  obtain ⟨rfl, rfl, rfl⟩ := trodAll_nil r1
  obtain rfl : args = #[v0, v1] := by cases args; simp_all
  have walk : Calls Tryd.prog 9 #[v0, v1] W fun e w' => e = .returned (.bool true) ∧ Below W.heap.size W w' := by
    obtain ⟨s, rfl, rfl, rfl, hs⟩ := open_string Tryd.underlying9 (hval 0 9 v0 rfl rfl) h0
    obtain ⟨n, rfl, rfl, rfl, hn⟩ := open_int Tryd.underlying3 (hval 1 3 v1 rfl rfl) h1
    exact tokenReserved_walk s n W he
  refine walk.mono fun e W' ⟨he, hb⟩ => ?_
  subst he
  exact law_post hW' rfl rfl (by rw [Tryd.params9]; intro t ht; simp at ht; rcases ht with rfl | rfl <;> exact ⟨by kernel_rfl, of_decide_eq_true (by kernel_rfl)⟩) rfl hb

theorem tokenReserved_reads (os : Os) {H : Type} (enc : TypeId × Value → H) : ∃ places, DataW.whole enc Tryd.prog ((World.doorLaid Tryd.prog 14 os).forCall (fun _ _ => 0) ⟨#[], #[.string ⟨#[]⟩, .int .i64 0], []⟩).memory Tryd.f9.params.toList Rows.tokenReservedSpec.vars false (#[.string ⟨#[]⟩, .int .i64 0] : Array Value).toList 8 = some ([.lit (.string []), .lit (.int .i64 0)], [], places) :=
  ⟨[], by kernel_rfl⟩
set_option maxRecDepth 100000 in
theorem tokenReserved_lifted (os : Os) (started : os.Started) (H : Type) (enc : TypeId × Value → H) (F : Stop.Interp) :
    ReturnsInHanded {} Tryd.checked os 9 .any ((OpenSpec.ofChange Rows.tokenReservedSpec).preRow enc Tryd.prog Tryd.f9 Rows.tokenReservedRow.domain false Rows.tokenReservedRow.laid) (((OpenSpec.ofChange Rows.tokenReservedSpec).at F).post enc Tryd.prog Tryd.f9 false true false false) := by
  obtain ⟨places, hx⟩ := tokenReserved_reads os enc
  refine returnsInHanded_of_row (C := Tryd.checked) (s := OpenSpec.ofChange Rows.tokenReservedSpec) own started (by kernel_rfl) Tryd.func9
    (witness_row_at (enc := enc) (C := Tryd.checked) false (World.doorLaid Tryd.prog 14 os) #[.string ⟨#[]⟩, .int .i64 0] rfl (by kernel_rfl) (by kernel_rfl) (by kernel_rfl)
      (OpenSpec.preRow_of_cond 8 hx (by kernel_rfl) (fun k hk => by cases hk) (by kernel_rfl) (laid_met os _))) ?_
  intro W base args ds gs before hval hW _ _ _ hL hSh _
  exact tokenReserved_contract H enc W base args ds gs before hval hW (env_of hL hSh)
theorem tokenReserved_said : Rows.TokenReservedSaid :=
  OpenClaim.holds_of_cond 9 Tryd.f9 rfl rfl rfl rfl rfl rfl rfl ⟨rfl, rfl, rfl, rfl, rfl⟩ rfl rfl rfl rfl rfl (by kernel_rfl) Tryd.func9 (by kernel_rfl)
    (of_decide_eq_true (by kernel_rfl)) (by unfold Func.isWrapper; first | (rw [if_pos (by decide +kernel)]; kernel_rfl) | (rw [if_neg (by decide +kernel)]; exact ⟨rfl, rfl⟩))
    (fun os started H enc _ F => by rw [OpenClaim.pre_eq_preRow]; exact tokenReserved_lifted os started H enc F)
theorem tokenReserved_plain (f : FuncId) (fn : Func) (hf : Tryd.pinned.checked.prog.funcNamed "lockorder/lockorderlaw01.TokenReserved" = some f) (hfn : Tryd.pinned.checked.prog.funcs[f]? = some fn) :
    false = Tryd.pinned.checked.prog.looks [] ∧ ∀ (j : Nat) t, fn.params[j]? = some t → Tryd.pinned.checked.prog.wantsStandIn t = false := by
  obtain rfl : f = 9 := Option.some.inj ((show Tryd.prog.funcNamed "lockorder/lockorderlaw01.TokenReserved" = some 9 by kernel_rfl).symm.trans hf) |>.symm
  obtain rfl : fn = Tryd.f9 := (Option.some.inj (Tryd.func9.symm.trans hfn)).symm
  refine ⟨by kernel_rfl, fun j t ht => ?_⟩
  rw [Tryd.params9] at ht
  have hm : t ∈ [9, 3] := by simpa using Array.mem_of_getElem? ht
  have hall : ([9, 3].all fun u => !Tryd.prog.wantsStandIn u) = true := by kernel_rfl
  exact (show Tryd.prog.wantsStandIn t = false by simpa using List.all_eq_true.1 hall t hm)
/-- THE CARD -/
theorem tokenReserved_card : Rows.TokenReservedCardSaid :=
  Claim7.holds_tied_plain_at .later [] _ _ _ _ tokenReserved_said (fun _ h => by cases h) (by kernel_rfl) (fun _ h => by cases h) tokenReserved_row_tie rfl ⟨rfl, rfl⟩ (by kernel_rfl) rfl tokenReserved_plain (by kernel_rfl)
#print axioms tokenReserved_card
end Go.Proofs.YtecldppicmbecaaDoor
