/-
  Proved: for all slices of integers lockorderlaw03.ParseTokens returns true and leaves its argument as it was. No condition beyond the row's own. (Printed by genlaw_tokens.py.)
-/
import Derived.Test.YtflcnehhpmjipaaDoorL1J
import Derived.Test.YtflcnehhpmjipaaDoorW5J
import Derived.Test.YtflcnehhpmjipaaDoorA6J
set_option linter.unusedVariables false
set_option linter.unusedSimpArgs false
namespace Go.Proofs.YtflcnehhpmjipaaDoor
open Go.ChangeShapes Go.WideShapes Go.ChangeAt Go.RowKit
def tokW : List ByteArray := [⟨#[118, 97, 114]⟩, ⟨#[109, 117, 116, 101, 120]⟩, ⟨#[114, 109, 117, 116, 101, 120]⟩, ⟨#[102, 117, 110, 99]⟩, ⟨#[108, 111, 99, 107]⟩, ⟨#[117, 110, 108, 111, 99, 107]⟩, ⟨#[103, 111]⟩, ⟨#[105, 102]⟩, ⟨#[101, 108, 115, 101]⟩, ⟨#[119, 104, 105, 108, 101]⟩, ⟨#[114, 101, 116, 117, 114, 110]⟩, ⟨#[120]⟩, ⟨#[121]⟩, ⟨#[51]⟩, ⟨#[48]⟩, ⟨#[54, 53]⟩, ⟨#[40]⟩, ⟨#[41]⟩, ⟨#[123]⟩, ⟨#[125]⟩, ⟨#[91]⟩, ⟨#[93]⟩, ⟨#[44]⟩, ⟨#[59]⟩, ⟨#[61]⟩, ⟨#[45]⟩, ⟨#[43]⟩, ⟨#[102, 117, 110, 99, 32, 102, 40, 41, 32, 123]⟩, ⟨#[125, 32]⟩, ⟨#[118, 97, 114, 32, 120, 32, 61, 32, 49, 59]⟩, ⟨#[109, 117, 116, 101, 120, 32, 109, 91, 50, 93, 59]⟩, ⟨#[108, 111, 99, 107, 32, 120, 59]⟩, ⟨#[105, 102, 32, 120, 32, 123]⟩]
theorem tokW_size : ∀ x, x ∈ tokW → x.size ≤ 12 := by decide
set_option maxRecDepth 100000 in
set_option maxHeartbeats 1600000 in
theorem parseTokens_w (l0 : List Int) (m : Int) (hl0 : l0.length ≤ 9223372036854775807) : ACall Tryd.prog 4 [envF (.c (.sl l0.length (l0.map fun i => .val (.int .i64 i)))) m] [] ⟨[], []⟩ fun r s' => r = .c (.val (.bool true)) ∧ s' = ⟨[], []⟩ := by
 refine acall_body Tryd.func4 rfl (Nat.le_of_ble_eq_true rfl) ?_
 show AWp Tryd.prog _ ⟨36, [], ⟨[], []⟩, [(0, envF (.c (.sl l0.length (l0.map fun i => .val (.int .i64 i)))) m)]⟩ _
 refine sqrg ?_
 refine wag rfl rfl rfl rfl rfl ?_
 refine nx ?_
 refine wo rfl (wbs Tryd.t9 [.val (.string ⟨#[]⟩), .val (.string ⟨#[]⟩), .val (.string ⟨#[]⟩), .val (.string ⟨#[]⟩), .val (.string ⟨#[]⟩), .val (.string ⟨#[]⟩), .val (.string ⟨#[]⟩), .val (.string ⟨#[]⟩), .val (.string ⟨#[]⟩), .val (.string ⟨#[]⟩), .val (.string ⟨#[]⟩), .val (.string ⟨#[]⟩), .val (.string ⟨#[]⟩), .val (.string ⟨#[]⟩), .val (.string ⟨#[]⟩), .val (.string ⟨#[]⟩), .val (.string ⟨#[]⟩), .val (.string ⟨#[]⟩), .val (.string ⟨#[]⟩), .val (.string ⟨#[]⟩), .val (.string ⟨#[]⟩), .val (.string ⟨#[]⟩), .val (.string ⟨#[]⟩), .val (.string ⟨#[]⟩), .val (.string ⟨#[]⟩), .val (.string ⟨#[]⟩), .val (.string ⟨#[]⟩), .val (.string ⟨#[]⟩), .val (.string ⟨#[]⟩), .val (.string ⟨#[]⟩), .val (.string ⟨#[]⟩), .val (.string ⟨#[]⟩), .val (.string ⟨#[]⟩)] rfl rfl (by decide) (.cons rfl (.cons rfl (.cons rfl (.cons rfl (.cons rfl (.cons rfl (.cons rfl (.cons rfl (.cons rfl (.cons rfl (.cons rfl (.cons rfl (.cons rfl (.cons rfl (.cons rfl (.cons rfl (.cons rfl (.cons rfl (.cons rfl (.cons rfl (.cons rfl (.cons rfl (.cons rfl (.cons rfl (.cons rfl (.cons rfl (.cons rfl (.cons rfl (.cons rfl (.cons rfl (.cons rfl (.cons rfl (.cons rfl .nil))))))))))))))))))))))))))))))))) Tryd.underlying26 (by kernel_rfl) rfl (by decide) (by decide) (by kernel_rfl) (by kernel_rfl) (r := tokW.map fun x => .val (.string x)) (by kernel_rfl) ?_)
 refine wag rfl rfl rfl rfl rfl ?_
 refine nx ?_
 refine wag rfl rfl rfl rfl rfl ?_
 refine nlnm ?_
 refine aw_seq ?_
 refine sqrg ?_
 refine wag rfl rfl rfl rfl rfl ?_
 refine nlnm ?_
 refine aw_block ?_
 refine aw_loop (fun g : Nat × ByteArray => (⟨36, [], ⟨[], []⟩, [(5, .c (.val (.int .i64 ((g.1 : Nat) : Int)))), (4, .c (.val (.string g.2))), (0, envF (.c (.sl l0.length (l0.map fun i => .val (.int .i64 i)))) m), (3, .c (.sl tokW.length (tokW.map fun x => .val (.string x))))]⟩ : AS)) (fun g => g.1 ≤ l0.length ∧ g.1 ≤ 60 ∧ g.2.size ≤ 21 * g.1) (fun g => 60 - g.1) (0, ⟨#[]⟩) (sub_cons rfl (.refl _) (sub_cons rfl (.refl _) (sub_cons rfl (.refl _) (sub_cons rfl (.refl _) sub_nil)))) ⟨by simp, by simp, Nat.le_refl 0⟩ ?_
 rintro ⟨k, acc⟩ ⟨hk1, hk2, hk3⟩
 dsimp only at hk1 hk2 hk3
 show AWp Tryd.prog _ (⟨36, [], ⟨[], []⟩, [(5, .c (.val (.int .i64 ((k : Nat) : Int)))), (4, .c (.val (.string acc))), (0, envF (.c (.sl l0.length (l0.map fun i => .val (.int .i64 i)))) m), (3, .c (.sl tokW.length (tokW.map fun x => .val (.string x))))]⟩ : AS) _
 refine aw_seq ?_
 refine sqrg ?_
 refine wmv rfl rfl rfl rfl rfl ?_
 refine wmv rfl rfl rfl rfl rfl ?_
 refine wyy rfl rfl rfl (ay_len_sl rfl rfl Tryd.runUnderlying25) ?_
 by_cases hb1 : k < l0.length
 ·skip
  refine wyy rfl rfl rfl (ay_cmp true rfl rfl rfl (by simp [cmpR]; omega)) ?_
  refine wmv rfl rfl rfl rfl rfl ?_
  refine wmv rfl rfl rfl rfl rfl ?_
  by_cases hb2 : k < 60
  ·skip
   refine wyy rfl rfl rfl (ay_cmp true rfl rfl rfl (by simp [cmpR]; omega)) ?_
   refine wyy rfl rfl rfl (ay_pick rfl rfl rfl) ?_
   refine nlnm ?_
   refine aw_condT rfl rfl ?_
   refine aw_skip ?_
   refine then_normal ?_
   refine aw_seq ?_
   refine aw_block ?_
   refine aw_region ?_
   refine wmv rfl rfl rfl rfl rfl ?_
   refine wmv rfl rfl rfl rfl rfl ?_
   refine wmv rfl rfl rfl rfl rfl ?_
   refine wmv rfl rfl rfl rfl rfl ?_
   refine wyy rfl rfl rfl (ay_ixm (fun i => .val (.int .i64 i)) l0 k rfl rfl rfl rfl hb1 Tryd.runUnderlying25 Tryd.sizeOf3) ?_
   refine wyy rfl rfl rfl (ay_load_el rfl rfl Tryd.isAgg3 Tryd.sizeOf3 rfl) ?_
   refine wmv rfl rfl rfl rfl rfl ?_
   refine wyy rfl rfl rfl (ay_len_sl rfl rfl Tryd.runUnderlying26) ?_
   refine wo rfl (wcall [] rfl rfl (by decide) Tryd.call9 rfl (within_c _ _ (by decide) (by decide) _) (fun _ h => by cases h) (fun _ h => by cases h) (fun _ _ h => by cases h) ?_)
   rintro rjx sjx ⟨rfl, rfl⟩
   obtain ⟨j, hj, hj2⟩ := within_lt l0[k] 33 (by decide)
   have h12 := tokW_size tokW[j] (List.getElem_mem _)
   refine wyy rfl rfl rfl (ay_ixm (fun x => .val (.string x)) tokW j rfl rfl rfl hj hj2 Tryd.runUnderlying26 Tryd.sizeOf9) ?_
   refine wyy rfl rfl rfl (ay_load_el rfl rfl Tryd.isAgg9 Tryd.sizeOf9 rfl) ?_
   refine wyy rfl rfl rfl (ay_cat rfl rfl rfl (by omega)) ?_
   refine wyy rfl rfl rfl (ay_cat rfl rfl rfl (by simp only [ByteArray.size_append]; have e1 : (ByteArray.mk #[32]).size = 1 := rfl; omega)) ?_
   refine wag rfl rfl rfl rfl rfl ?_
   refine aops_nil ?_
   refine inB_normal ?_
   refine then_normal ?_
   refine aw_region ?_
   refine wmv rfl rfl rfl rfl rfl ?_
   refine wyy rfl rfl rfl (ay_add rfl rfl rfl (by omega) (by omega)) ?_
   refine wag rfl rfl rfl rfl rfl ?_
   refine aops_nil ?_
   refine ⟨(k + 1, acc ++ tokW[j] ++ ⟨#[32]⟩), ⟨by omega, by omega, ?_⟩, ?_, (sub_cons rfl (.refl _) (sub_cons rfl (.refl _) (sub_cons rfl (.refl _) (sub_cons rfl (.refl _) sub_nil))))⟩
   ·simp only [ByteArray.size_append]; have e1 : (ByteArray.mk #[32]).size = 1 := rfl; omega
   ·show 60 - (k + 1) < 60 - k; omega
  ·skip
   refine wyy rfl rfl rfl (ay_cmp false rfl rfl rfl (by simp [cmpR]; omega)) ?_
   refine wyy rfl rfl rfl (ay_pick rfl rfl rfl) ?_
   refine nlnm ?_
   refine aw_condF rfl rfl ?_
   refine aw_exit ?_
   refine then_exit ?_
   refine then_exit ?_
   refine inB_exit ?_
   refine then_normal ?_
   refine sqrg ?_
   refine wmv rfl rfl rfl rfl rfl ?_
   refine wo rfl (wbytes rfl rfl (by decide) rfl Tryd.underlying9 Tryd.underlying22 Tryd.underlying5 (by omega) (N := acc.data.toList.length) rfl rfl ?_)
   refine wo rfl (wcallE 0 [] rfl rfl (by decide) Tryd.call7 rfl rfl (same_c acc.data.toList m _) (fun _ h => by cases h) (fun _ h => by cases h) (fun _ _ h => by cases h) ?_)
   rintro rr2 ss2 ⟨rfl, rfl⟩
   refine wmv rfl rfl rfl rfl rfl ?_
   refine wo rfl (wcallA 0 rfl rfl (by decide) Tryd.call8 rfl awake3_any ?_)
   refine wyy rfl rfl rfl (ay_pick rfl rfl rfl) ?_
   refine wag rfl rfl rfl rfl rfl ?_
   refine nlnm ?_
   refine aw_ret ?_
   exact ⟨.inr rfl, _, ⟨[], []⟩, res_one rfl (resv_tmp rfl), subS_of (List.nil_sublist _) (List.nil_sublist _), rfl, rfl⟩
 ·skip
  refine wyy rfl rfl rfl (ay_cmp false rfl rfl rfl (by simp [cmpR]; omega)) ?_
  refine wmv rfl rfl rfl rfl rfl ?_
  refine wskip rfl rfl (by decide) ?_
  by_cases hb2 : k < 60
  ·skip
   refine wskip rfl rfl (by decide) ?_
   refine wyy rfl rfl rfl (ay_pick rfl rfl rfl) ?_
   refine nlnm ?_
   refine aw_condF rfl rfl ?_
   refine aw_exit ?_
   refine then_exit ?_
   refine then_exit ?_
   refine inB_exit ?_
   refine then_normal ?_
   refine sqrg ?_
   refine wmv rfl rfl rfl rfl rfl ?_
   refine wo rfl (wbytes rfl rfl (by decide) rfl Tryd.underlying9 Tryd.underlying22 Tryd.underlying5 (by omega) (N := acc.data.toList.length) rfl rfl ?_)
   refine wo rfl (wcallE 0 [] rfl rfl (by decide) Tryd.call7 rfl rfl (same_c acc.data.toList m _) (fun _ h => by cases h) (fun _ h => by cases h) (fun _ _ h => by cases h) ?_)
   rintro rr3 ss3 ⟨rfl, rfl⟩
   refine wmv rfl rfl rfl rfl rfl ?_
   refine wo rfl (wcallA 0 rfl rfl (by decide) Tryd.call8 rfl awake3_any ?_)
   refine wyy rfl rfl rfl (ay_pick rfl rfl rfl) ?_
   refine wag rfl rfl rfl rfl rfl ?_
   refine nlnm ?_
   refine aw_ret ?_
   exact ⟨.inr rfl, _, ⟨[], []⟩, res_one rfl (resv_tmp rfl), subS_of (List.nil_sublist _) (List.nil_sublist _), rfl, rfl⟩
  ·skip
   refine wskip rfl rfl (by decide) ?_
   refine wyy rfl rfl rfl (ay_pick rfl rfl rfl) ?_
   refine nlnm ?_
   refine aw_condF rfl rfl ?_
   refine aw_exit ?_
   refine then_exit ?_
   refine then_exit ?_
   refine inB_exit ?_
   refine then_normal ?_
   refine sqrg ?_
   refine wmv rfl rfl rfl rfl rfl ?_
   refine wo rfl (wbytes rfl rfl (by decide) rfl Tryd.underlying9 Tryd.underlying22 Tryd.underlying5 (by omega) (N := acc.data.toList.length) rfl rfl ?_)
   refine wo rfl (wcallE 0 [] rfl rfl (by decide) Tryd.call7 rfl rfl (same_c acc.data.toList m _) (fun _ h => by cases h) (fun _ h => by cases h) (fun _ _ h => by cases h) ?_)
   rintro rr4 ss4 ⟨rfl, rfl⟩
   refine wmv rfl rfl rfl rfl rfl ?_
   refine wo rfl (wcallA 0 rfl rfl (by decide) Tryd.call8 rfl awake3_any ?_)
   refine wyy rfl rfl rfl (ay_pick rfl rfl rfl) ?_
   refine wag rfl rfl rfl rfl rfl ?_
   refine nlnm ?_
   refine aw_ret ?_
   exact ⟨.inr rfl, _, ⟨[], []⟩, res_one rfl (resv_tmp rfl), subS_of (List.nil_sublist _) (List.nil_sublist _), rfl, rfl⟩
set_option maxRecDepth 100000 in
theorem parseTokens_contract (H : Type) (enc : TypeId × Value → H) (W : World) (base : Nat) (args : Array Value) (ds gs : List (DataW H)) (before : List MemPlace)
  (hval : ∀ (j : Nat) t v, Tryd.f4.params[j]? = some t → args[j]? = some v → Value.okWide Tryd.prog W .any base t v)
  (hW : DataW.Whole enc Tryd.prog Tryd.f4.params.toList Rows.parseTokensSpec.vars false W args.toList ds gs before) (he : Env W) :
  Calls Tryd.prog 4 args W fun e W' => ∃ v, e = .returned v ∧ Rows.parseTokensSpec.post enc Tryd.prog Tryd.f4 false true false false W args v W' := by
 have hW' := hW
 obtain ⟨p, q, hA0, hV, rfl, hfz, hnd⟩ := hW
 have hA : DataW.TrodAll enc Tryd.prog W 0 (fun _ => true) true Tryd.f4.params.toList args.toList ds p := hA0
 rw [Tryd.params4] at hA hval
 obtain ⟨v0, vs0, d0, ds0, p0, q0, hargs, rfl, rfl, h0, r0⟩ := trodAll_cons hA
 obtain ⟨rfl, rfl, rfl⟩ := trodAll_nil r0
 obtain rfl : args = #[v0] := by cases args; simp_all
 have walk : Calls Tryd.prog 4 #[v0] W fun e w' => e = .returned (.bool true) ∧ Below W.heap.size W w' := by
  obtain ⟨l0, a0, cap0, rfl, hc0, hcm0, hr0⟩ := open_intsR (hval 0 25 v0 rfl rfl) h0
  obtain ⟨m, hm0⟩ := rep_law_env he (rep_ints hr0 (by unfold maxLen at hcm0; omega))
  exact law_calls (vs := [.slice a0 l0.length cap0]) (parseTokens_w l0 m (by unfold maxLen at hcm0; omega)) rfl fun i h h' => by
   match i, h, h' with
   | 0, _, _ => exact hm0
 refine walk.mono fun e W' ⟨he, hb⟩ => ?_
 subst he
 exact law_post hW' rfl rfl (by rw [Tryd.params4]; intro t ht; simp at ht; subst ht; exact ⟨by kernel_rfl, of_decide_eq_true (by kernel_rfl)⟩) rfl hb
theorem parseTokens_reads (os : Os) {H : Type} (enc : TypeId × Value → H) : ∃ places, DataW.whole enc Tryd.prog ((World.doorLaid Tryd.prog 60 os).forCall (fun _ _ => 0) ⟨#[], #[.slice none 0 0], []⟩).memory Tryd.f4.params.toList Rows.parseTokensSpec.vars false (#[.slice none 0 0] : Array Value).toList 8 = some ([.nil], [], places) :=
 ⟨[], by kernel_rfl⟩
set_option maxRecDepth 100000 in
theorem parseTokens_lifted (os : Os) (started : os.Started) (H : Type) (enc : TypeId × Value → H) (F : Stop.Interp) :
  ReturnsInHanded {} Tryd.checked os 4 .any ((OpenSpec.ofChange Rows.parseTokensSpec).preRow enc Tryd.prog Tryd.f4 Rows.parseTokensRow.domain false Rows.parseTokensRow.laid) (((OpenSpec.ofChange Rows.parseTokensSpec).at F).post enc Tryd.prog Tryd.f4 false true false false) := by
 obtain ⟨places, hx⟩ := parseTokens_reads os enc
 refine returnsInHanded_of_row (C := Tryd.checked) (s := OpenSpec.ofChange Rows.parseTokensSpec) own started (by kernel_rfl) Tryd.func4
  (witness_row_at (enc := enc) (C := Tryd.checked) false (World.doorLaid Tryd.prog 60 os) #[.slice none 0 0] rfl (by kernel_rfl) (by kernel_rfl) (by kernel_rfl)
   (OpenSpec.preRow_of_cond 8 hx (by kernel_rfl) (fun k hk => by cases hk) (by kernel_rfl) (laid_met os _))) ?_
 intro W base args ds gs before hval hW _ _ _ hL hSh _
 exact parseTokens_contract H enc W base args ds gs before hval hW (env_of hL hSh)
theorem parseTokens_said : Rows.ParseTokensSaid :=
 OpenClaim.holds_of_cond 4 Tryd.f4 rfl rfl rfl rfl rfl rfl rfl ⟨rfl, rfl, rfl, rfl, rfl⟩ rfl rfl rfl rfl rfl (by kernel_rfl) Tryd.func4 (by kernel_rfl)
  (of_decide_eq_true (by kernel_rfl)) (by unfold Func.isWrapper; first | (rw [if_pos (by decide +kernel)]; kernel_rfl) | (rw [if_neg (by decide +kernel)]; exact ⟨rfl, rfl⟩))
  (fun os started H enc _ F => by rw [OpenClaim.pre_eq_preRow]; exact parseTokens_lifted os started H enc F)
theorem parseTokens_plain (f : FuncId) (fn : Func) (hf : Tryd.pinned.checked.prog.funcNamed "lockorder/lockorderlaw03.ParseTokens" = some f) (hfn : Tryd.pinned.checked.prog.funcs[f]? = some fn) :
  false = Tryd.pinned.checked.prog.looks [] ∧ ∀ (j : Nat) t, fn.params[j]? = some t → Tryd.pinned.checked.prog.wantsStandIn t = false := by
 obtain rfl : f = 4 := Option.some.inj ((show Tryd.prog.funcNamed "lockorder/lockorderlaw03.ParseTokens" = some 4 by kernel_rfl).symm.trans hf) |>.symm
 obtain rfl : fn = Tryd.f4 := (Option.some.inj (Tryd.func4.symm.trans hfn)).symm
 refine ⟨by kernel_rfl, fun j t ht => ?_⟩
 rw [Tryd.params4] at ht
 have hm : t ∈ [25] := by simpa using Array.mem_of_getElem? ht
 have hall : ([25].all fun u => !Tryd.prog.wantsStandIn u) = true := by kernel_rfl
 exact (show Tryd.prog.wantsStandIn t = false by simpa using List.all_eq_true.1 hall t hm)
theorem parseTokens_card : Rows.ParseTokensCardSaid :=
 Claim7.holds_tied_plain_at .later [] _ _ _ _ parseTokens_said (fun _ h => by cases h) (by kernel_rfl) (fun _ h => by cases h) parseTokens_row_tie rfl ⟨rfl, rfl⟩ (by kernel_rfl) rfl parseTokens_plain (by kernel_rfl)
#print axioms parseTokens_card
end Go.Proofs.YtflcnehhpmjipaaDoor
