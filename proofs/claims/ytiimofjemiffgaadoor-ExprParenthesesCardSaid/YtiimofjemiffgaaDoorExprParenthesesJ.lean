/-
  Proved: for every slice of integers lockorderlaw02.ExprParentheses returns true and leaves its argument as it was. No condition beyond the row's own. (Printed by genpar.py.)
-/
import Derived.Test.YtiimofjemiffgaaDoorE6J
import Derived.Test.YtiimofjemiffgaaDoorE7J
import Derived.Test.YtiimofjemiffgaaDoorR1J
set_option linter.unusedVariables false
set_option linter.unusedSimpArgs false
namespace Go.Proofs.YtiimofjemiffgaaDoor
open Go.ChangeShapes Go.WideShapes Go.ChangeAt Go.RowKit
theorem par_str (s : List UInt8) : ((⟨#[40, 40]⟩ : ByteArray) ++ bytes s ++ ⟨#[41, 41]⟩).data.toList = [40, 40] ++ s ++ [41, 41] := by simp [bytes]
set_option maxRecDepth 100000 in
set_option maxHeartbeats 3200000 in
theorem exprParentheses_walk (l : List Int) (a : Option Addr) (cap : Nat) (w : World) (he : Env w) (hes : EnvS w) (hr : RowAt w (.slice a l.length cap) l.length (l.map (.int .i64))) (hl : l.length ≤ 9223372036854775807) :
  Calls Tryd.prog 8 #[.slice a l.length cap] w fun e w' => e = .returned (.bool true) ∧ Below w.heap.size w w' := by
 have HR := Lib.hid (row_h hr)
 have HE := Lib.hid he
 have HES := Lib.hid hes
 clear hr he hes
 go_enter Tryd.func8, Tryd.ntmps8
 go_wp2_with fail
 refine (madeExpr_any [] l a cap w (by simp) HR.out hl).mono ?_
 rintro e w0 ⟨⟨x, xa, xc, rfl, hmx, xr⟩, hb0⟩
 have hA := (Below.refl w0.heap.size w0).alloc (Nat.le_refl _) (.cells #[.int .i64 x.op, .int .i64 x.num, .string x.name, .slice xa x.args.length xc] 34)
 have HXR := Lib.hid (ExprRep.below hA _ (ExprRep.mono unhide _ xr))
 have HMX := Lib.hid hmx
 have HB1 := Lib.hid (Below.step hb0 hA)
 have bx := Lib.hid (box4_new w0 (.int .i64 x.op) (.int .i64 x.num) (.string x.name) (.slice xa x.args.length xc) 34)
 have htl := hmx.len names3_ok
 obtain ⟨L, k, hlx, hpx, hel, hL0, hLn⟩ := par2_round (hmx.ve names3_ok) (by have := hmx.height; omega) (by omega)
 have HLX : Hid (lexL ((⟨#[40, 40]⟩ : ByteArray) ++ bytes (exprText x) ++ ⟨#[41, 41]⟩).data.toList = .ok L) := Lib.hid (by rw [par_str]; exact hlx)
 have HPX := Lib.hid hpx
 have HEL := Lib.hid hel
 have HLN := Lib.hid (And.intro hL0 hLn)
 have hsz : (bytes (exprText x)).size ≤ 1000 := by rw [bytes_size]; omega
 have HFX := Lib.hid (formatE_fine x [.int .i64 x.op, .int .i64 x.num, .string x.name, .slice xa x.args.length xc] (w0.alloc (.cells #[.int .i64 x.op, .int .i64 x.num, .string x.name, .slice xa x.args.length xc] 34)) (hmx.fine names3_ok (by omega)).1 (hmx.valid names3_ok (by omega)) HXR.out)
 clear hA xr hmx hb0 hlx hpx hel hL0 hLn htl
 go_wp2_with fail
 generalize w0.alloc (.cells #[.int .i64 x.op, .int .i64 x.num, .string x.name, .slice xa x.args.length xc] 34) = w1 at HXR HB1 bx HFX ⊢
 generalize w0.heap.size = X at bx ⊢
 refine HFX.out.mono ?_
 rintro e w2 ⟨rfl, hb2⟩
 have HXR2 := Lib.hid (ExprRep.below hb2 _ HXR.out)
 have HB2 := Lib.hid (Below.step HB1.out hb2)
 have bx2 := Lib.hid (bx.out.keep (Keep.of_below (H := []) hb2) (by simp))
 obtain ⟨s, hs⟩ : ∃ s, s = bytes (exprText x) := ⟨_, rfl⟩
 rw [← hs] at HLX hsz ⊢
 clear hb2 HXR HB1 bx hs HFX
 go_wp2_with fail
 refine (tokens_ok _ L w2 (by (try simp only [ByteArray.size_append]); (try simp only [ByteArray.size, List.size_toArray, List.length_cons, List.length_nil] at hsz ⊢); omega) HLX.out).mono ?_
 rintro e w3 ⟨⟨v3, rfl, r3⟩, hb3⟩
 have HR3 := Lib.hid r3
 have HXR3 := Lib.hid (ExprRep.below hb3 _ HXR2.out)
 have HB3 := Lib.hid (Below.step HB2.out hb3)
 have bx3 := Lib.hid (bx2.out.keep (Keep.of_below (H := []) hb3) (by simp))
 clear r3 hb3 HXR2 HB2 bx2
 go_wp2_with fail
 refine (exprParse_ok L v3 0 [] w3 (row_h HR3.out) HEL.out HLN.out.1 (by have := HLN.out.2; omega) (by simp)).mono ?_
 rintro e w4 ⟨hp, hk4⟩
 rw [HPX.out] at hp
 obtain ⟨ya, yc, rfl, yr⟩ := hp
 have hb4 := keep_bel hk4
 have hA := (Below.refl w4.heap.size w4).alloc (Nat.le_refl _) (.cells #[.int .i64 x.op, .int .i64 x.num, .string x.name, .slice ya x.args.length yc] 34)
 have hb5 := Below.step hb4 hA
 have HXR5 := Lib.hid (ExprRep.below hb5 _ HXR3.out)
 have HYR5 := Lib.hid (ExprRep.below hA _ (ExprRep.mono unhide _ yr))
 have HB5 := Lib.hid (Below.step HB3.out hb5)
 have bx5 := bx3.out.keep (Keep.of_below (H := []) hb5) (by simp)
 have by5 := box4_new w4 (.int .i64 x.op) (.int .i64 x.num) (.string x.name) (.slice ya x.args.length yc) 34
 unfold Box4 at bx5 by5
 have HNX : Hid (x.nodes ≤ 1000000) := Lib.hid (by have := HMX.out.nodes; omega)
 clear hb4 hA hb5 hk4 yr HXR3 HB3 bx3 HR3
 go_wp2_with fail
 generalize w4.alloc (.cells #[.int .i64 x.op, .int .i64 x.num, .string x.name, .slice ya x.args.length yc] 34) = w5 at HXR5 HYR5 HB5 bx5 by5 ⊢
 (try generalize w4.heap.size = Y at by5 ⊢)
 refine (sameE_any _ x (Nat.le_refl _) HNX.out _ _ _ HXR5.out HYR5.out).mono ?_
 rintro e w6 ⟨rfl, hb6⟩
 have HB6 := Lib.hid (Below.step HB5.out hb6)
 clear hb6
 go_wp2_with fail
 refine (awakeE w6 (HE.out.below HB6.out HE.out.size) (HES.out.below HB6.out)).mono ?_
 rintro e w7 ⟨rfl, hb7⟩
 have HB7 := Lib.hid (Below.step HB6.out hb7)
 clear hb7
 go_wp2_with fail
 go_ret
 exact ⟨rfl, HB7.out⟩
set_option maxRecDepth 100000 in
theorem exprParentheses_contract (H : Type) (enc : TypeId × Value → H) (W : World) (base : Nat) (args : Array Value) (ds gs : List (DataW H)) (before : List MemPlace)
  (hval : ∀ (j : Nat) t v, Tryd.f8.params[j]? = some t → args[j]? = some v → Value.okWide Tryd.prog W .any base t v)
  (hW : DataW.Whole enc Tryd.prog Tryd.f8.params.toList Rows.exprParenthesesSpec.vars false W args.toList ds gs before) (he : Env W ∧ EnvS W) :
  Calls Tryd.prog 8 args W fun e W' => ∃ v, e = .returned v ∧ Rows.exprParenthesesSpec.post enc Tryd.prog Tryd.f8 false true false false W args v W' := by
 have hW' := hW
 obtain ⟨p, q, hA0, hV, rfl, hfz, hnd⟩ := hW
 have hA : DataW.TrodAll enc Tryd.prog W 0 (fun _ => true) true Tryd.f8.params.toList args.toList ds p := hA0
 rw [Tryd.params8] at hA hval
 obtain ⟨v0, vs0, d0, ds0, p0, q0, hargs, rfl, rfl, h0, r0⟩ := trodAll_cons hA
 obtain ⟨rfl, rfl, rfl⟩ := trodAll_nil r0
 obtain rfl : args = #[v0] := by cases args; simp_all
 have walk : Calls Tryd.prog 8 #[v0] W fun e w' => e = .returned (.bool true) ∧ Below W.heap.size W w' := by
  obtain ⟨l0, a0, cap0, rfl, hc0, hcm0, hr0⟩ := open_intsR (hval 0 22 v0 rfl rfl) h0
  exact exprParentheses_walk l0 a0 cap0 W he.1 he.2 hr0 (by unfold maxLen at hcm0; omega)
 refine walk.mono fun e W' ⟨he, hb⟩ => ?_
 subst he
 exact law_post hW' rfl rfl (by rw [Tryd.params8]; intro t ht; simp at ht; subst ht; exact ⟨by kernel_rfl, of_decide_eq_true (by kernel_rfl)⟩) rfl hb
theorem exprParentheses_reads (os : Os) {H : Type} (enc : TypeId × Value → H) : ∃ places, DataW.whole enc Tryd.prog ((World.doorLaid Tryd.prog 60 os).forCall (fun _ _ => 0) ⟨#[], #[.slice none 0 0], []⟩).memory Tryd.f8.params.toList Rows.exprParenthesesSpec.vars false (#[.slice none 0 0] : Array Value).toList 8 = some ([.nil], [], places) :=
 ⟨[], by kernel_rfl⟩
set_option maxRecDepth 100000 in
theorem exprParentheses_lifted (os : Os) (started : os.Started) (H : Type) (enc : TypeId × Value → H) (F : Stop.Interp) :
  ReturnsInHanded {} Tryd.checked os 8 .any ((OpenSpec.ofChange Rows.exprParenthesesSpec).preRow enc Tryd.prog Tryd.f8 Rows.exprParenthesesRow.domain false Rows.exprParenthesesRow.laid) (((OpenSpec.ofChange Rows.exprParenthesesSpec).at F).post enc Tryd.prog Tryd.f8 false true false false) := by
 obtain ⟨places, hx⟩ := exprParentheses_reads os enc
 refine returnsInHanded_of_row (C := Tryd.checked) (s := OpenSpec.ofChange Rows.exprParenthesesSpec) own started (by kernel_rfl) Tryd.func8
  (witness_row_at (enc := enc) (C := Tryd.checked) false (World.doorLaid Tryd.prog 60 os) #[.slice none 0 0] rfl (by kernel_rfl) (by kernel_rfl) (by kernel_rfl)
   (OpenSpec.preRow_of_cond 8 hx (by kernel_rfl) (fun k hk => by cases hk) (by kernel_rfl) (laid_met5 os _))) ?_
 intro W base args ds gs before hval hW _ _ _ hL hSh _
 exact exprParentheses_contract H enc W base args ds gs before hval hW (env_of5 hL hSh)
theorem exprParentheses_said : Rows.ExprParenthesesSaid :=
 OpenClaim.holds_of_cond 8 Tryd.f8 rfl rfl rfl rfl rfl rfl rfl ⟨rfl, rfl, rfl, rfl, rfl⟩ rfl rfl rfl rfl rfl (by kernel_rfl) Tryd.func8 (by kernel_rfl)
  (of_decide_eq_true (by kernel_rfl)) (by unfold Func.isWrapper; first | (rw [if_pos (by decide +kernel)]; kernel_rfl) | (rw [if_neg (by decide +kernel)]; exact ⟨rfl, rfl⟩))
  (fun os started H enc _ F => by rw [OpenClaim.pre_eq_preRow]; exact exprParentheses_lifted os started H enc F)
theorem exprParentheses_plain (f : FuncId) (fn : Func) (hf : Tryd.pinned.checked.prog.funcNamed "lockorder/lockorderlaw02.ExprParentheses" = some f) (hfn : Tryd.pinned.checked.prog.funcs[f]? = some fn) :
  false = Tryd.pinned.checked.prog.looks [] ∧ ∀ (j : Nat) t, fn.params[j]? = some t → Tryd.pinned.checked.prog.wantsStandIn t = false := by
 obtain rfl : f = 8 := Option.some.inj ((show Tryd.prog.funcNamed "lockorder/lockorderlaw02.ExprParentheses" = some 8 by kernel_rfl).symm.trans hf) |>.symm
 obtain rfl : fn = Tryd.f8 := (Option.some.inj (Tryd.func8.symm.trans hfn)).symm
 refine ⟨by kernel_rfl, fun j t ht => ?_⟩
 rw [Tryd.params8] at ht
 have hm : t ∈ [22] := by simpa using Array.mem_of_getElem? ht
 have hall : ([22].all fun u => !Tryd.prog.wantsStandIn u) = true := by kernel_rfl
 exact (show Tryd.prog.wantsStandIn t = false by simpa using List.all_eq_true.1 hall t hm)
theorem exprParentheses_card : Rows.ExprParenthesesCardSaid :=
 Claim7.holds_tied_plain_at .later [] _ _ _ _ exprParentheses_said (fun _ h => by cases h) (by kernel_rfl) (fun _ h => by cases h) exprParentheses_row_tie rfl ⟨rfl, rfl⟩ (by kernel_rfl) rfl exprParentheses_plain (by kernel_rfl)
#print axioms exprParentheses_card
end Go.Proofs.YtiimofjemiffgaaDoor
