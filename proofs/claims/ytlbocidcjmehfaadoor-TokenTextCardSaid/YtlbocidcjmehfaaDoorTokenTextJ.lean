import Derived.Test.YtlbocidcjmehfaaDoorA6J
import Derived.Test.YtlbocidcjmehfaaDoorMTextJ
import Derived.Test.YtlbocidcjmehfaaDoorGlJ
set_option linter.unusedVariables false
set_option linter.unusedSimpArgs false
namespace Go.Proofs.YtlbocidcjmehfaaDoor
open Go.ChangeShapes Go.WideShapes Go.ChangeAt Go.RowKit
theorem lexR_tok {w : World} {s : List UInt8} {v : Value} {p er : Int} {l : List Tok} (h : LexR w s v p er) (hl : lexL s = .ok l) : RowAt w v l.length (toksCells l) ∧ er = 0 := by
 rcases h with ⟨l', h1, h2, h3, h4, h5⟩ | ⟨a, b, h1, h2, h3, h4, h5⟩
 ·rw [hl] at h1; cases h1; exact ⟨h2, h4⟩
 ·rw [hl] at h1; cases h1
theorem toks_sizes {T : List UInt8} {toks : List Tok} (h : lexL T = .ok toks) (hT : T.length ≤ 75000) : (∀ k, (textL (toks.take k)).length ≤ 1000000) ∧ ∀ k (h : k < toks.length), toks[k].text.size ≤ 1000000 := by
 unfold lexL at h
 rw [if_neg (by omega)] at h
 obtain ⟨ts, rfl, hg, hs, hn⟩ := lexT_good T.length T 0 0 (by omega) (by omega) (by omega) _ h
 have hsum : ∀ (us : List Tok) t, t ∈ us → t.tx.length ≤ (us.map fun t => t.tx.length).sum := by
  intro us
  induction us with
  | nil => intro t ht; cases ht
  | cons u us ih =>
   intro t ht
   rw [List.map_cons, List.sum_cons]
   rcases List.mem_cons.1 ht with rfl | ht
   ·omega
   ·have := ih t ht; omega
 have htake : ∀ (us : List Tok) k, ((us.take k).map fun t => t.tx.length).sum ≤ (us.map fun t => t.tx.length).sum := by
  intro us
  induction us with
  | nil => intro k; simp
  | cons u us ih =>
   intro k
   cases k with
   | zero => simp
   | succ k => rw [List.take_succ_cons, List.map_cons, List.sum_cons, List.map_cons, List.sum_cons]; have := ih k; omega
 refine ⟨fun k => ?_, fun k hk => ?_⟩
 ·rcases Nat.lt_or_ge ts.length k with h1 | h1
  ·rw [List.take_of_length_le (by simp; omega)]
   have e : textL (ts ++ [⟨5, ⟨#[]⟩, 0, T.length⟩]) = blankT ts := by
    unfold textL
    rw [textsB_all (fun t ht => (hg t ht).kind) _ rfl, join_blank]
   rw [e]; have := blankT_len ts; omega
  ·rw [List.take_append_of_le_length h1]
   have e : textL (ts.take k) = blankT (ts.take k) := by
    unfold textL textsB
    rw [List.filter_eq_self.2 (fun t ht => by simpa using (hg t (List.mem_of_mem_take ht)).kind), join_blank]
   rw [e]
   have := blankT_len (ts.take k)
   have := htake ts k
   have : (ts.take k).length ≤ ts.length := by rw [List.length_take]; omega
   omega
 ·rcases Nat.lt_or_ge k ts.length with h1 | h1
  ·rw [List.getElem_append_left h1]
   have := hsum ts ts[k] (List.getElem_mem h1)
   have e : ts[k].tx.length = ts[k].text.size := rfl
   omega
  ·rw [List.getElem_append_right h1]; simp only [List.getElem_singleton]; decide
theorem bytes_list (l : List UInt8) : (bytes l).data.toList = l := by simp [bytes]
set_option maxRecDepth 100000 in
set_option maxHeartbeats 1600000 in
theorem tokenText_walk (l : List Int) (a : Option Addr) (cap : Nat) (w : World) (he : Env w) (hr : RowAt w (.slice a l.length cap) l.length (l.map (.int .i64))) (hl : l.length ≤ 9223372036854775807) :
  Calls Tryd.prog 4 #[.slice a l.length cap] w fun e w' => e = .returned (.bool true) ∧ Below w.heap.size w w' := by
 have HR := Lib.hid hr
 have HE := Lib.hid he
 clear hr he
 have hbs := bytes_of
 go_enter Tryd.func4, Tryd.ntmps4
 go_wp2_with fail
 refine (madeText_any l a cap _ HR.out hl).mono ?_
 intro e w1 hq
 obtain ⟨⟨p, rfl, hp⟩, hb1⟩ := hq
 have HB1 := Lib.hid hb1
 obtain ⟨T, hT⟩ : ∃ T, T = formatT p := ⟨_, rfl⟩
 have hTl : T.length ≤ 75000 := by rw [hT]; exact formatT_len hp
 obtain ⟨toks, htk⟩ : ∃ toks, lexL T = .ok toks := by
  have h1 := formatT_ok p
  rw [← hT] at h1
  cases h2 : lexL T with
  | ok l => exact ⟨l, rfl⟩
  | err a b => rw [h2] at h1; cases h1
 rw [← hT]
 obtain ⟨l2, hl2, hsame, hBl, htl⟩ := again htk hTl
 obtain ⟨hz1, hz2⟩ := toks_sizes htk hTl
 obtain ⟨s, hs⟩ : ∃ s, s = bytes T := ⟨_, rfl⟩
 have hss : s.size ≤ 75000 := by rw [hs, bytes_size]; exact hTl
 have HS : Hid (s.data.toList = T) := Lib.hid (by rw [hs, bytes_list])
 rw [← hs]
 obtain ⟨B, hBe⟩ : ∃ B, B = bytes (textL toks) := ⟨_, rfl⟩
 have hBs : B.size ≤ 80000 := by rw [hBe, bytes_size]; exact hBl
 have HBL : Hid (B.data.toList = textL toks) := Lib.hid (by rw [hBe, bytes_list])
 have HBE := Lib.hid hBe
 have HTK := Lib.hid htk
 have HL2 := Lib.hid hl2
 have HSM := Lib.hid hsame
 have HZ1 := Lib.hid hz1
 have HZ2 := Lib.hid hz2
 have HBL2 := Lib.hid hBl
 clear hp hb1 hT htk hl2 hsame hz1 hz2 hs hBe hBl hTl
 have n2 := strNe_false (rfl : B = B)
 have hsz1 := HB1.out.size
 go_wp2_with fail
 refine (lex_str s w1 (HE.out.below HB1.out HE.out.size) (by omega) _ rfl _).mono ?_
 intro e w2 hq
 obtain ⟨⟨v, p1, er, rfl, hR⟩, hb2⟩ := hq
 obtain ⟨hv, rfl⟩ := lexR_tok hR (by rw [HS.out]; exact HTK.out)
 have HV := Lib.hid hv
 have HB2 := Lib.hid (HB1.out.trans (hb2.mono hsz1))
 clear hR hv hb2
 go_wp2_with fail
 refine (text_any toks v w2 HV.out (by omega) (by have := HBL2.out; omega)).mono ?_
 intro e w3 hq
 obtain ⟨rfl, hb3⟩ := hq
 have HB3 := Lib.hid (HB2.out.trans (hb3.mono HB2.out.size))
 have HV3 := Lib.hid (HV.out.below hb3 (Nat.le_refl _))
 clear hb3
 rw [← HBE.out]
 go_wp2_with fail
 refine (refText_tokens toks v w3 HV3.out (by omega) HZ1.out HZ2.out).mono ?_
 intro e w4 hq
 obtain ⟨rfl, hb4⟩ := hq
 have HB4 := Lib.hid (HB3.out.trans (hb4.mono HB3.out.size))
 have HV4 := Lib.hid (HV3.out.below hb4 (Nat.le_refl _))
 clear hb4
 rw [← HBE.out]
 go_wp2_with fail
 refine (text_any toks v w4 HV4.out (by omega) (by have := HBL2.out; omega)).mono ?_
 intro e w5 hq
 obtain ⟨rfl, hb5⟩ := hq
 have HB5 := Lib.hid (HB4.out.trans (hb5.mono HB4.out.size))
 have HV5 := Lib.hid (HV4.out.below hb5 (Nat.le_refl _))
 clear hb5
 rw [← HBE.out]
 have hsz5 := HB5.out.size
 go_wp2_with fail
 refine (lex_str B w5 (HE.out.below HB5.out HE.out.size) (by omega) _ rfl _).mono ?_
 intro e w6 hq
 obtain ⟨⟨u, p2, er, rfl, hR⟩, hb6⟩ := hq
 obtain ⟨hu, rfl⟩ := lexR_tok hR (by rw [HBL.out]; exact HL2.out)
 have HU := Lib.hid hu
 have HB6 := Lib.hid (HB5.out.trans (hb6.mono hsz5))
 have HV6 := Lib.hid (HV5.out.below hb6 (Nat.le_refl _))
 clear hR hu hb6
 go_wp2_with fail
 refine (sameTokens_any toks l2 false v u w6 HV6.out HU.out HSM.out (by omega)).mono ?_
 intro e w7 hq
 obtain ⟨rfl, hb7⟩ := hq
 have HB7 := Lib.hid (HB6.out.trans (hb7.mono HB6.out.size))
 clear hb7
 go_wp2_with fail
 refine (awake_any w7 (HE.out.below HB7.out HE.out.size)).mono ?_
 intro e w8 hq
 obtain ⟨rfl, hb8⟩ := hq
 have HB8 := Lib.hid (HB7.out.trans (hb8.mono HB7.out.size))
 clear hb8
 go_wp2_with fail
 go_ret
 exact ⟨rfl, HB8.out⟩
set_option maxRecDepth 100000 in
theorem tokenText_contract (H : Type) (enc : TypeId × Value → H) (W : World) (base : Nat) (args : Array Value) (ds gs : List (DataW H)) (before : List MemPlace)
  (hval : ∀ (j : Nat) t v, Tryd.f4.params[j]? = some t → args[j]? = some v → Value.okWide Tryd.prog W .any base t v)
  (hW : DataW.Whole enc Tryd.prog Tryd.f4.params.toList Rows.tokenTextSpec.vars false W args.toList ds gs before) (he : Env W) :
  Calls Tryd.prog 4 args W fun e W' => ∃ v, e = .returned v ∧ Rows.tokenTextSpec.post enc Tryd.prog Tryd.f4 false true false false W args v W' := by
 have hW' := hW
 obtain ⟨p, q, hA0, hV, rfl, hfz, hnd⟩ := hW
 have hA : DataW.TrodAll enc Tryd.prog W 0 (fun _ => true) true Tryd.f4.params.toList args.toList ds p := hA0
 rw [Tryd.params4] at hA hval
 obtain ⟨v0, vs0, d0, ds0, p0, q0, hargs, rfl, rfl, h0, r0⟩ := trodAll_cons hA
 obtain ⟨rfl, rfl, rfl⟩ := trodAll_nil r0
 obtain rfl : args = #[v0] := by cases args; simp_all
 have walk : Calls Tryd.prog 4 #[v0] W fun e w' => e = .returned (.bool true) ∧ Below W.heap.size W w' := by
  obtain ⟨l, a, cap, rfl, hc, hcm, hr⟩ := open_intsR (hval 0 22 v0 rfl rfl) h0
  exact tokenText_walk l a cap W he hr (by unfold maxLen at hcm; omega)
 refine walk.mono fun e W' ⟨he, hb⟩ => ?_
 subst he
 exact law_post hW' rfl rfl (by rw [Tryd.params4]; intro t ht; simp at ht; subst ht; exact ⟨by kernel_rfl, of_decide_eq_true (by kernel_rfl)⟩) rfl hb
theorem tokenText_reads (os : Os) {H : Type} (enc : TypeId × Value → H) : ∃ places, DataW.whole enc Tryd.prog ((World.doorLaid Tryd.prog 60 os).forCall (fun _ _ => 0) ⟨#[], #[.slice none 0 0], []⟩).memory Tryd.f4.params.toList Rows.tokenTextSpec.vars false (#[.slice none 0 0] : Array Value).toList 8 = some ([.nil], [], places) :=
 ⟨[], by kernel_rfl⟩
set_option maxRecDepth 100000 in
theorem tokenText_lifted (os : Os) (started : os.Started) (H : Type) (enc : TypeId × Value → H) (F : Stop.Interp) :
  ReturnsInHanded {} Tryd.checked os 4 .any ((OpenSpec.ofChange Rows.tokenTextSpec).preRow enc Tryd.prog Tryd.f4 Rows.tokenTextRow.domain false Rows.tokenTextRow.laid) (((OpenSpec.ofChange Rows.tokenTextSpec).at F).post enc Tryd.prog Tryd.f4 false true false false) := by
 obtain ⟨places, hx⟩ := tokenText_reads os enc
 refine returnsInHanded_of_row (C := Tryd.checked) (s := OpenSpec.ofChange Rows.tokenTextSpec) own started (by kernel_rfl) Tryd.func4
  (witness_row_at (enc := enc) (C := Tryd.checked) false (World.doorLaid Tryd.prog 60 os) #[.slice none 0 0] rfl (by kernel_rfl) (by kernel_rfl) (by kernel_rfl)
   (OpenSpec.preRow_of_cond 8 hx (by kernel_rfl) (fun k hk => by cases hk) (by kernel_rfl) (laid_met os _))) ?_
 intro W base args ds gs before hval hW _ _ _ hL hSh _
 exact tokenText_contract H enc W base args ds gs before hval hW (env_of hL hSh)
theorem tokenText_said : Rows.TokenTextSaid :=
 OpenClaim.holds_of_cond 4 Tryd.f4 rfl rfl rfl rfl rfl rfl rfl ⟨rfl, rfl, rfl, rfl, rfl⟩ rfl rfl rfl rfl rfl (by kernel_rfl) Tryd.func4 (by kernel_rfl)
  (of_decide_eq_true (by kernel_rfl)) (by unfold Func.isWrapper; first | (rw [if_pos (by decide +kernel)]; kernel_rfl) | (rw [if_neg (by decide +kernel)]; exact ⟨rfl, rfl⟩))
  (fun os started H enc _ F => by rw [OpenClaim.pre_eq_preRow]; exact tokenText_lifted os started H enc F)
theorem tokenText_plain (f : FuncId) (fn : Func) (hf : Tryd.pinned.checked.prog.funcNamed "lockorder/lockorderlaw01.TokenText" = some f) (hfn : Tryd.pinned.checked.prog.funcs[f]? = some fn) :
  false = Tryd.pinned.checked.prog.looks [] ∧ ∀ (j : Nat) t, fn.params[j]? = some t → Tryd.pinned.checked.prog.wantsStandIn t = false := by
 obtain rfl : f = 4 := Option.some.inj ((show Tryd.prog.funcNamed "lockorder/lockorderlaw01.TokenText" = some 4 by kernel_rfl).symm.trans hf) |>.symm
 obtain rfl : fn = Tryd.f4 := (Option.some.inj (Tryd.func4.symm.trans hfn)).symm
 refine ⟨by kernel_rfl, fun j t ht => ?_⟩
 rw [Tryd.params4] at ht
 have hm : t ∈ [22] := by simpa using Array.mem_of_getElem? ht
 have hall : ([22].all fun u => !Tryd.prog.wantsStandIn u) = true := by kernel_rfl
 exact (show Tryd.prog.wantsStandIn t = false by simpa using List.all_eq_true.1 hall t hm)
theorem tokenText_card : Rows.TokenTextCardSaid :=
 Claim7.holds_tied_plain_at .later [] _ _ _ _ tokenText_said (fun _ h => by cases h) (by kernel_rfl) (fun _ h => by cases h) tokenText_row_tie rfl ⟨rfl, rfl⟩ (by kernel_rfl) rfl tokenText_plain (by kernel_rfl)
#print axioms tokenText_card
end Go.Proofs.YtlbocidcjmehfaaDoor
