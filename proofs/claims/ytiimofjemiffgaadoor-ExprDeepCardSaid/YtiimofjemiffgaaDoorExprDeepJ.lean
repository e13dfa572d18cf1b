/-
  Proved: for every number and slice of integers lockorderlaw02.ExprDeep returns true and leaves its arguments as they were. No condition beyond the row's own. (Printed by genedeep.py.)
-/
import Derived.Test.YtiimofjemiffgaaDoorE6J
import Derived.Test.YtiimofjemiffgaaDoorE0J
import Derived.Test.YtiimofjemiffgaaDoorA3J
import Derived.Test.YtiimofjemiffgaaDoorE7J
import Derived.Test.YtiimofjemiffgaaDoorC1J
set_option linter.unusedVariables false
set_option linter.unusedSimpArgs false
namespace Go.Proofs.YtiimofjemiffgaaDoor
open Go.ChangeShapes Go.WideShapes Go.ChangeAt Go.RowKit
def edR (N S : Nat) (w : World) (u v i : Value) (wr : World) : Prop := ∃ cs : List Nat, u = .string (bytes (cs.map dsign)) ∧ v = .string (bytes (List.replicate (cs.count 0) 41)) ∧ i = .int .i64 cs.length ∧ cs.length ≤ N ∧ Src [S] S wr ∧ Below w.heap.size w wr
theorem ed_front (cs : List Nat) (c : Nat) : bytes (cs.map dsign) ++ ⟨#[dsign c]⟩ = bytes ((cs ++ [c]).map dsign) := by
 rw [List.map_append, ← bytes_append]; rfl
theorem ed_back0 (cs : List Nat) : (⟨#[41]⟩ : ByteArray) ++ bytes (List.replicate (cs.count 0) 41) = bytes (List.replicate ((cs ++ [0]).count 0) 41) := by
 rw [List.count_append, show List.count 0 [0] = 1 from rfl, List.replicate_succ]
 exact bytes_append [41] _
theorem ed_back1 (cs : List Nat) (c : Nat) (h : c ≠ 0) : List.replicate ((cs ++ [c]).count 0) (41 : UInt8) = List.replicate (cs.count 0) 41 := by
 rw [List.count_append]
 have : List.count 0 [c] = 0 := by rw [List.count_singleton]; simp [h]
 rw [this]; rfl
theorem ed_all (cs : List Nat) : (bytes (cs.map dsign) ++ ⟨#[97]⟩ ++ bytes (List.replicate (cs.count 0) 41)).data.toList = deepT cs := by simp [bytes, deepT]
theorem ed_size (cs : List Nat) : (bytes (cs.map dsign)).size = cs.length ∧ (bytes (List.replicate (cs.count 0) 41)).size ≤ cs.length := by
 refine ⟨by simp [bytes, ByteArray.size], ?_⟩
 have := List.count_le_length (a := 0) (l := cs)
 simpa [bytes, ByteArray.size] using this
set_option maxRecDepth 100000 in
set_option maxHeartbeats 3200000 in
theorem exprDeep_walk (n : Int) (l : List Int) (a : Option Addr) (cap : Nat) (w : World) (he : Env w) (hes : EnvS w) (hr : RowAt w (.slice a l.length cap) l.length (l.map (.int .i64))) (hl : l.length ≤ 9223372036854775807) :
  Calls Tryd.prog 5 #[.int .i64 n, .slice a l.length cap] w fun e w' => e = .returned (.bool true) ∧ Below w.heap.size w w' := by
 have HR := Lib.hid hr
 have HE := Lib.hid he
 have HES := Lib.hid hes
 clear hr he hes
 go_enter Tryd.func5, Tryd.ntmps5
 go_wp2_with fail
 refine (within_any n 8 _ (by omega) (by omega)).mono ?_
 rintro e w2 ⟨rfl, rfl⟩
 obtain ⟨j, hj⟩ : ∃ j : Nat, n % 8 = j := ⟨(n % 8).toNat, by omega⟩
 rw [hj]
 have hj8 : j < 8 := by omega
 clear hj
 go_wp2_with fail
 refine (cut_any l a cap w HR.out hl 40 (by omega)).mono ?_
 rintro e w2 ⟨⟨c2, rfl, hr2⟩, rfl⟩
 have ht40 : (l.take 40).length ≤ 40 := by rw [List.length_take]; omega
 generalize l.take 40 = L2 at hr2 ht40 ⊢
 have hr3 : RowAt (hideL [w.heap.size] (w.alloc (.cells #[.slice a L2.length c2, .int .i64 0] 42))) (.slice a L2.length c2) L2.length (L2.map (.int .i64)) := hr2.mono fun a u hu => by
  have hlt := cell_lt hu
  rw [hideL_cell_ne _ _ _ (by simp only [List.mem_singleton]; omega)]
  exact cell_step hu ((Below.refl _ _).alloc (Nat.le_refl _) _)
 have hsrc : Src [w.heap.size] w.heap.size (w.alloc (.cells #[.slice a L2.length c2, .int .i64 0] 42)) :=
  ⟨by simp, by simp, by go_simp, L2, a, c2, 0, by go_simp, hr3, by go_simp, by omega, by omega⟩
 have HSRC := Lib.hid hsrc
 have HB0 := Lib.hid ((Below.refl w.heap.size w).alloc (Nat.le_refl _) (.cells #[.slice a L2.length c2, .int .i64 0] 42))
 clear hr3 hsrc hr2
 go_wp2_with fail
 generalize w.alloc (.cells #[.slice a L2.length c2, .int .i64 0] 42) = w1 at HSRC HB0 ⊢
 obtain ⟨S, hS⟩ : ∃ S, S = w.heap.size := ⟨_, rfl⟩
 have HSS := Lib.hid hS
 rw [← hS] at HSRC ⊢
 clear hS
 go_loopw [6, 7, 8] (fun u v i wr => edR (20 + j) S w u v i wr) (fun _ _ i _ => 20 + j - (intOf i).toNat)
 case atStart => exact ⟨[], rfl, rfl, rfl, by simp, HSRC.out, HB0.out⟩
 case round =>
  obtain ⟨cs, rfl, rfl, rfl, hN, hsrc, hb⟩ := hrel
  obtain ⟨hz1, hz2⟩ := ed_size cs
  by_cases hlt : cs.length < 20 + j
  ·have hlt' : (cs.length : Int) < 20 + (j : Int) := by omega
   have HB := Lib.hid hb
   go_wp2_with fail
   refine (next_src 3 [S] S wr hsrc (by omega) (by omega)).mono ?_
   intro e w2 hq
   obtain ⟨r, rfl, h0, h3, hs2, hk2⟩ := Src.next hq
   have HS2 := Lib.hid hs2
   have HB2 := Lib.hid (HB.out.trans (hk2.below HB.out.size (by intro x hx; simp at hx; subst hx; have := HSS.out; omega)))
   clear hq hsrc hb hs2 hk2
   rcases (show r = 0 ∨ r = 1 ∨ r = 2 by omega) with rfl | rfl | rfl
   ·go_wp2_with fail
    go_roundw
    case rel => exact ⟨cs ++ [0], by rw [← ed_front]; rfl, by rw [← ed_back0], by rw [List.length_append]; go_num, by rw [List.length_append]; simp; omega, HS2.out, HB2.out⟩
    case measure => simp [intOf]; omega
   ·go_wp2_with fail
    go_roundw
    case rel => exact ⟨cs ++ [1], by rw [← ed_front]; rfl, by rw [ed_back1 cs 1 (by omega)], by rw [List.length_append]; go_num, by rw [List.length_append]; simp; omega, HS2.out, HB2.out⟩
    case measure => simp [intOf]; omega
   ·go_wp2_with fail
    go_roundw
    case rel => exact ⟨cs ++ [2], by rw [← ed_front]; rfl, by rw [ed_back1 cs 2 (by omega)], by rw [List.length_append]; go_num, by rw [List.length_append]; simp; omega, HS2.out, HB2.out⟩
    case measure => simp [intOf]; omega
  ·have hlt' : ¬ (cs.length : Int) < 20 + (j : Int) := by omega
   have hlen : cs.length = 20 + j := by omega
   have HLEN := Lib.hid hlen
   have hlx := deep_lex cs (by omega)
   have HTK := Lib.hid (lexL_toks hlx)
   have HLX : Hid (lexL (bytes (cs.map dsign) ++ ⟨#[97]⟩ ++ bytes (List.replicate (cs.count 0) 41)).data.toList = .ok (deepL cs)) := Lib.hid (by rw [ed_all]; exact hlx)
   have hln := deepL_len cs
   have hcl := List.count_le_length (a := 0) (l := cs)
   have HLL : Hid (0 < (deepL cs).length ∧ (deepL cs).length ≤ 100) := Lib.hid (by omega)
   have HEL := Lib.hid (deepL_end cs)
   have HDP := Lib.hid (deep_parse cs)
   have HB := Lib.hid hb
   have hszz : (bytes (cs.map dsign)).size ≤ 30 ∧ (bytes (List.replicate (cs.count 0) 41)).size ≤ 30 := by omega
   obtain ⟨hsz1, hsz2⟩ := hszz
   clear hlen hlx hln hcl hb hsrc hz1 hz2
   go_wp2_with fail
   refine (tokens_ok _ (deepL cs) wr (by (try simp only [ByteArray.size_append]); (try simp only [ByteArray.size, List.size_toArray, List.length_cons, List.length_nil] at hsz1 hsz2 ⊢); omega) HLX.out).mono ?_
   rintro e w2 ⟨⟨v2, rfl, r2⟩, hb2⟩
   have HR2 := Lib.hid r2
   have HB2 := Lib.hid (HB.out.trans (hb2.mono HB.out.size))
   clear r2 hb2
   go_wp2_with fail
   refine (exprParse_ok (deepL cs) v2 0 [] w2 (row_h HR2.out) HEL.out HLL.out.1 (by have := HLL.out.2; omega) (by simp)).mono ?_
   rintro e w3 ⟨hp, hk3⟩
   have hb3 := keep_bel hk3
   by_cases h24 : cs.length ≤ 24
   ·obtain ⟨x, xk, hx⟩ := HDP.out.1 h24
    rw [hx] at hp
    obtain ⟨xa, xc, rfl, xr⟩ := hp
    have hj4 : (j : Int) ≤ 4 := by have := HLEN.out; omega
    have hdl : decide (20 + (j : Int) ≤ 24) = true := decide_eq_true (by omega)
    have hA := (Below.refl w3.heap.size w3).alloc (Nat.le_refl _) (.cells #[.int .i64 x.op, .int .i64 x.num, .string x.name, .slice xa x.args.length xc] 34)
    have HR4 := Lib.hid (HR2.out.below (Below.step hb3 hA) (Nat.le_refl _))
    have HB4 := Lib.hid (HB2.out.trans ((Below.step hb3 hA).mono HB2.out.size))
    clear hA hb3 hk3 xr hx
    go_wp2_with fail
    generalize w3.alloc (.cells #[.int .i64 x.op, .int .i64 x.num, .string x.name, .slice xa x.args.length xc] 34) = w4 at HR4 HB4 ⊢
    refine (sameE_law (deepL cs) v2 0 w4 HR4.out HTK.out.regE (by have := HLL.out.2; omega)).mono ?_
    rintro e w5 ⟨rfl, hb5⟩
    have HB5 := Lib.hid (HB4.out.trans (hb5.mono HB4.out.size))
    clear hb5
    go_wp2_with fail
    refine (awakeE w5 (HE.out.below HB5.out HE.out.size) (HES.out.below HB5.out)).mono ?_
    rintro e w6 ⟨rfl, hb6⟩
    have HB6 := Lib.hid (HB5.out.trans (hb6.mono HB5.out.size))
    clear hb6
    go_wp2_with fail
    go_ret
    exact ⟨rfl, HB6.out⟩
   ·obtain hx := HDP.out.2 (by omega)
    rw [hx] at hp
    obtain rfl := hp
    have hj4 : ¬ (j : Int) ≤ 4 := by have := HLEN.out; omega
    have hdl : decide (20 + (j : Int) ≤ 24) = false := decide_eq_false (by omega)
    have hA := (Below.refl w3.heap.size w3).alloc (Nat.le_refl _) (.cells #[.int .i64 0, .int .i64 0, .string ⟨#[]⟩, .slice none 0 0] 34)
    have HR4 := Lib.hid (HR2.out.below (Below.step hb3 hA) (Nat.le_refl _))
    have HB4 := Lib.hid (HB2.out.trans ((Below.step hb3 hA).mono HB2.out.size))
    clear hA hb3 hk3 hx
    go_wp2_with fail
    generalize w3.alloc (.cells #[.int .i64 0, .int .i64 0, .string ⟨#[]⟩, .slice none 0 0] 34) = w4 at HR4 HB4 ⊢
    refine (sameE_law (deepL cs) v2 0 w4 HR4.out HTK.out.regE (by have := HLL.out.2; omega)).mono ?_
    rintro e w5 ⟨rfl, hb5⟩
    have HB5 := Lib.hid (HB4.out.trans (hb5.mono HB4.out.size))
    clear hb5
    go_wp2_with fail
    refine (awakeE w5 (HE.out.below HB5.out HE.out.size) (HES.out.below HB5.out)).mono ?_
    rintro e w6 ⟨rfl, hb6⟩
    have HB6 := Lib.hid (HB5.out.trans (hb6.mono HB5.out.size))
    clear hb6
    go_wp2_with fail
    go_ret
    exact ⟨rfl, HB6.out⟩
set_option maxRecDepth 100000 in
theorem exprDeep_contract (H : Type) (enc : TypeId × Value → H) (W : World) (base : Nat) (args : Array Value) (ds gs : List (DataW H)) (before : List MemPlace)
  (hval : ∀ (j : Nat) t v, Tryd.f5.params[j]? = some t → args[j]? = some v → Value.okWide Tryd.prog W .any base t v)
  (hW : DataW.Whole enc Tryd.prog Tryd.f5.params.toList Rows.exprDeepSpec.vars false W args.toList ds gs before) (he : Env W ∧ EnvS W) :
  Calls Tryd.prog 5 args W fun e W' => ∃ v, e = .returned v ∧ Rows.exprDeepSpec.post enc Tryd.prog Tryd.f5 false true false false W args v W' := by
 have hW' := hW
 obtain ⟨p, q, hA0, hV, rfl, hfz, hnd⟩ := hW
 have hA : DataW.TrodAll enc Tryd.prog W 0 (fun _ => true) true Tryd.f5.params.toList args.toList ds p := hA0
 rw [Tryd.params5] at hA hval
 obtain ⟨v0, vs0, d0, ds0, p0, q0, hargs, rfl, rfl, h0, r0⟩ := trodAll_cons hA
 obtain ⟨v1, vs1, d1, ds1, p1, q1, rfl, rfl, rfl, h1, r1⟩ := trodAll_cons r0
 obtain ⟨rfl, rfl, rfl⟩ := trodAll_nil r1
 obtain rfl : args = #[v0, v1] := by cases args; simp_all
 have walk : Calls Tryd.prog 5 #[v0, v1] W fun e w' => e = .returned (.bool true) ∧ Below W.heap.size W w' := by
  obtain ⟨n0, rfl, rfl, rfl, hn0⟩ := open_int Tryd.underlying3 (hval 0 3 v0 rfl rfl) h0
  obtain ⟨l1, a1, cap1, rfl, hc1, hcm1, hr1⟩ := open_intsR (hval 1 22 v1 rfl rfl) h1
  exact exprDeep_walk n0 l1 a1 cap1 W he.1 he.2 hr1 (by unfold maxLen at hcm1; omega)
 refine walk.mono fun e W' ⟨he, hb⟩ => ?_
 subst he
 exact law_post hW' rfl rfl (by rw [Tryd.params5]; intro t ht; simp at ht; rcases ht with rfl | rfl <;> exact ⟨by kernel_rfl, of_decide_eq_true (by kernel_rfl)⟩) rfl hb
theorem exprDeep_reads (os : Os) {H : Type} (enc : TypeId × Value → H) : ∃ places, DataW.whole enc Tryd.prog ((World.doorLaid Tryd.prog 60 os).forCall (fun _ _ => 0) ⟨#[], #[.int .i64 0, .slice none 0 0], []⟩).memory Tryd.f5.params.toList Rows.exprDeepSpec.vars false (#[.int .i64 0, .slice none 0 0] : Array Value).toList 8 = some ([.lit (.int .i64 0), .nil], [], places) :=
 ⟨[], by kernel_rfl⟩
set_option maxRecDepth 100000 in
theorem exprDeep_lifted (os : Os) (started : os.Started) (H : Type) (enc : TypeId × Value → H) (F : Stop.Interp) :
  ReturnsInHanded {} Tryd.checked os 5 .any ((OpenSpec.ofChange Rows.exprDeepSpec).preRow enc Tryd.prog Tryd.f5 Rows.exprDeepRow.domain false Rows.exprDeepRow.laid) (((OpenSpec.ofChange Rows.exprDeepSpec).at F).post enc Tryd.prog Tryd.f5 false true false false) := by
 obtain ⟨places, hx⟩ := exprDeep_reads os enc
 refine returnsInHanded_of_row (C := Tryd.checked) (s := OpenSpec.ofChange Rows.exprDeepSpec) own started (by kernel_rfl) Tryd.func5
  (witness_row_at (enc := enc) (C := Tryd.checked) false (World.doorLaid Tryd.prog 60 os) #[.int .i64 0, .slice none 0 0] rfl (by kernel_rfl) (by kernel_rfl) (by kernel_rfl)
   (OpenSpec.preRow_of_cond 8 hx (by kernel_rfl) (fun k hk => by cases hk) (by kernel_rfl) (laid_met5 os _))) ?_
 intro W base args ds gs before hval hW _ _ _ hL hSh _
 exact exprDeep_contract H enc W base args ds gs before hval hW (env_of5 hL hSh)
theorem exprDeep_said : Rows.ExprDeepSaid :=
 OpenClaim.holds_of_cond 5 Tryd.f5 rfl rfl rfl rfl rfl rfl rfl ⟨rfl, rfl, rfl, rfl, rfl⟩ rfl rfl rfl rfl rfl (by kernel_rfl) Tryd.func5 (by kernel_rfl)
  (of_decide_eq_true (by kernel_rfl)) (by unfold Func.isWrapper; first | (rw [if_pos (by decide +kernel)]; kernel_rfl) | (rw [if_neg (by decide +kernel)]; exact ⟨rfl, rfl⟩))
  (fun os started H enc _ F => by rw [OpenClaim.pre_eq_preRow]; exact exprDeep_lifted os started H enc F)
theorem exprDeep_plain (f : FuncId) (fn : Func) (hf : Tryd.pinned.checked.prog.funcNamed "lockorder/lockorderlaw02.ExprDeep" = some f) (hfn : Tryd.pinned.checked.prog.funcs[f]? = some fn) :
  false = Tryd.pinned.checked.prog.looks [] ∧ ∀ (j : Nat) t, fn.params[j]? = some t → Tryd.pinned.checked.prog.wantsStandIn t = false := by
 obtain rfl : f = 5 := Option.some.inj ((show Tryd.prog.funcNamed "lockorder/lockorderlaw02.ExprDeep" = some 5 by kernel_rfl).symm.trans hf) |>.symm
 obtain rfl : fn = Tryd.f5 := (Option.some.inj (Tryd.func5.symm.trans hfn)).symm
 refine ⟨by kernel_rfl, fun j t ht => ?_⟩
 rw [Tryd.params5] at ht
 have hm : t ∈ [3, 22] := by simpa using Array.mem_of_getElem? ht
 have hall : ([3, 22].all fun u => !Tryd.prog.wantsStandIn u) = true := by kernel_rfl
 exact (show Tryd.prog.wantsStandIn t = false by simpa using List.all_eq_true.1 hall t hm)
theorem exprDeep_card : Rows.ExprDeepCardSaid :=
 Claim7.holds_tied_plain_at .later [] _ _ _ _ exprDeep_said (fun _ h => by cases h) (by kernel_rfl) (fun _ h => by cases h) exprDeep_row_tie rfl ⟨rfl, rfl⟩ (by kernel_rfl) rfl exprDeep_plain (by kernel_rfl)
#print axioms exprDeep_card
end Go.Proofs.YtiimofjemiffgaaDoor
