/-
  Proved: for all integers and slices of integers lockorderlaw03.ParseDeep returns true and leaves its arguments as they were. No condition beyond the row's own. (Printed by genlaw_deep.py.)
-/
import Derived.Test.YtflcnehhpmjipaaGreatDoorW6J
import Derived.Test.YtflcnehhpmjipaaGreatDoorL1J
import Derived.Test.YtflcnehhpmjipaaGreatDoorN1J
import Derived.Test.YtflcnehhpmjipaaGreatDoorD2J
import Derived.Test.YtflcnehhpmjipaaGreatDoorA6J
set_option linter.unusedVariables false
set_option linter.unusedSimpArgs false
namespace Go.Proofs.YtflcnehhpmjipaaGreatDoor
open Go.ChangeShapes Go.WideShapes Go.ChangeAt Go.RowKit
set_option synthInstance.maxHeartbeats 1000000
set_option synthInstance.maxSize 1000000
set_option linter.all false
theorem dpFront_snoc (ds : List Nat) (d : Nat) : dpFront (ds ++ [d]) = dpFront ds ++ dpT d := by simp [dpFront]
theorem dpFront_len (ds : List Nat) : (dpFront ds).length ≤ 13 + 15 * ds.length := by have h := (dp_len ds).1; unfold dpFront; simp only [List.length_append, List.length_cons, List.length_nil]; omega
theorem int_wf {n : Int} (h : (Lit.int .i64 n).wf = true) : -9223372036854775808 ≤ n ∧ n ≤ 9223372036854775807 := by
 simp only [Lit.wf, Bool.and_eq_true, decide_eq_true_eq] at h
 exact h
set_option maxRecDepth 100000 in
set_option maxHeartbeats 1600000 in
theorem parseDeep_w (n0 : Int) (l1 : List Int) (m : Int) (hn0 : -9223372036854775808 ≤ n0 ∧ n0 ≤ 9223372036854775807) (hl1 : l1.length ≤ 9223372036854775807) : ACall Tryz.prog 4 [.c (.val (.int .i64 n0)), envF (.c (.sl l1.length (l1.map fun i => .val (.int .i64 i)))) m] [] ⟨[], []⟩ fun r s' => r = .c (.val (.bool true)) ∧ s' = ⟨[], []⟩ := by
 refine acall_body Tryz.func4 rfl (Nat.le_of_ble_eq_true rfl) ?_
 show AWp Tryz.prog _ ⟨65, [], ⟨[], []⟩, [(0, .c (.val (.int .i64 n0))), (1, envF (.c (.sl l1.length (l1.map fun i => .val (.int .i64 i)))) m)]⟩ _
 refine go 8 ?_
 refine wo rfl (wcall [] rfl rfl (by decide) Tryz.call12 rfl (within_c _ _ (by decide) (by decide) _) (fun _ h => by cases h) (fun _ h => by cases h) (fun _ _ h => by cases h) ?_)
 rintro rnx snx ⟨rfl, rfl⟩
 obtain ⟨k, hk, hk8⟩ : ∃ k : Nat, n0 % 8 = (k : Int) ∧ k < 8 := within_lt n0 8 (by decide)
 rw [hk]
 refine wyy rfl rfl rfl (ay_add rfl rfl rfl (by omega) (by omega)) ?_
 refine go 6 ?_
 refine wo rfl (wcall [] rfl rfl (by decide) Tryz.call15 rfl (cut_c l1 40 _) (fun _ h => by cases h) (fun _ h => by cases h) (fun _ _ h => by cases h) ?_)
 rintro rc sc ⟨rfl, rfl⟩
 have hl : (l1.take 40).length ≤ 1000000 := by rw [List.length_take]; omega
 refine go 18 fun b1 => ?_
 refine aw_loop (fun g : Nat × Nat × ByteArray × ByteArray × List Nat => (⟨65, [b1], ⟨[⟨b1, 34, [.sl (l1.take 40).length ((l1.take 40).map fun i => .val (.int .i64 i)), .val (.int .i64 ((g.2.1 : Nat) : Int))]⟩], []⟩, [(8, .c (.val (.int .i64 ((g.1 : Nat) : Int)))), (6, .c (.val (.string g.2.2.1))), (7, .c (.val (.string g.2.2.2.1))), (0, .c (.val (.int .i64 ((20 + k : Nat) : Int)))), (1, envF (.c (.sl l1.length (l1.map fun i => .val (.int .i64 i)))) m), (5, .c (.val (.pointer (some ⟨b1, 0, none⟩))))]⟩ : AS)) (fun g => g.1 ≤ 20 + k ∧ g.2.2.2.2.length + 1 = g.1 ∧ g.2.1 ≤ (l1.take 40).length ∧ g.2.2.1.data.toList = dpFront g.2.2.2.2 ∧ g.2.2.2.1.data.toList = List.replicate (g.2.2.2.2.length + 1) 125) (fun g => 20 + k - g.1) (1, 0, ⟨#[102, 117, 110, 99, 32, 109, 97, 105, 110, 40, 41, 32, 123]⟩, ⟨#[125]⟩, []) (sub_cons rfl (.refl _) (sub_cons rfl (.refl _) (sub_cons rfl (.refl _) (sub_cons rfl (.refl _) (sub_cons rfl (.refl _) (sub_cons rfl (.refl _) sub_nil)))))) ⟨by omega, rfl, Nat.zero_le _, rfl, rfl⟩ ?_
 rintro ⟨i, ix, front, back, ds⟩ ⟨hi, hds, hix, hF, hB⟩
 dsimp only at hi hds hix hF hB
 show AWp Tryz.prog _ (⟨65, [b1], ⟨[⟨b1, 34, [.sl (l1.take 40).length ((l1.take 40).map fun i => .val (.int .i64 i)), .val (.int .i64 ((ix : Nat) : Int))]⟩], []⟩, [(8, .c (.val (.int .i64 ((i : Nat) : Int)))), (6, .c (.val (.string front))), (7, .c (.val (.string back))), (0, .c (.val (.int .i64 ((20 + k : Nat) : Int)))), (1, envF (.c (.sl l1.length (l1.map fun i => .val (.int .i64 i)))) m), (5, .c (.val (.pointer (some ⟨b1, 0, none⟩))))]⟩ : AS) _
 have hfs : front.size ≤ 13 + 15 * ds.length := by rw [ba_len, hF]; exact dpFront_len ds
 have hbs : back.size = ds.length + 1 := by rw [ba_len, hB, List.length_replicate]
 refine go 5 ?_
 by_cases hlt : i < 20 + k
 ·skip
  refine wyy rfl rfl rfl (ay_cmp true rfl rfl rfl (by simp [cmpR] <;> omega)) ?_
  refine go 10 ?_
  refine wo rfl (wcall [b1] rfl rfl (by decide) Tryz.call16 rfl (next_c [] [] [] b1 (l1.take 40) ix 3 hix hl (by decide) (by decide)) (i1 (by simp)) (i1 (by simp [Sto.bl])) (fun _ => i1 (by simp)) ?_)
  rintro rz sz ⟨z, iz, rfl, hz0, hz3, hiz, rfl⟩
  refine go 5 ?_
  by_cases hz : z = 0
  ·skip
   refine wyy rfl rfl rfl (ay_cmp true rfl rfl rfl (by simp [cmpR] <;> omega)) ?_
   refine go 6 ?_
   refine wyy rfl rfl rfl (ay_cat rfl rfl rfl (by rw [show (ByteArray.mk #[105, 102, 32, 49, 32, 123]).size = 6 from rfl]; omega)) ?_
   refine go 1 ?_
   refine wyy rfl rfl rfl (ay_cat rfl rfl rfl (by rw [show (ByteArray.mk #[125]).size = 1 from rfl]; omega)) ?_
   refine go 8 ?_
   refine wyy rfl rfl rfl (ay_add rfl rfl rfl (by omega) (by omega)) ?_
   refine go 2 ?_
   refine ⟨(i + 1, iz, front ++ ⟨#[105, 102, 32, 49, 32, 123]⟩, ⟨#[125]⟩ ++ back, ds ++ [0]), ⟨by omega, by rw [List.length_append]; simp; omega, hiz, ?_, ?_⟩, ?_, (sub_cons rfl (.refl _) (sub_cons rfl (.refl _) (sub_cons rfl (.refl _) (sub_cons rfl (.refl _) (sub_cons rfl (.refl _) (sub_cons rfl (.refl _) sub_nil))))))⟩
   ·rw [ba_app, hF, dpFront_snoc]; rfl
   ·rw [ba_app, hB, List.length_append]; rfl
   ·show 20 + k - (i + 1) < 20 + k - i; omega
  ·skip
   refine wyy rfl rfl rfl (ay_cmp false rfl rfl rfl (by simp [cmpR] <;> omega)) ?_
   refine go 6 ?_
   by_cases hz1 : z = 1
   ·skip
    refine wyy rfl rfl rfl (ay_cmp true rfl rfl rfl (by simp [cmpR] <;> omega)) ?_
    refine go 6 ?_
    refine wyy rfl rfl rfl (ay_cat rfl rfl rfl (by rw [show (ByteArray.mk #[105, 102, 32, 49, 32, 123, 32, 125, 32, 101, 108, 115, 101, 32, 123]).size = 15 from rfl]; omega)) ?_
    refine go 1 ?_
    refine wyy rfl rfl rfl (ay_cat rfl rfl rfl (by rw [show (ByteArray.mk #[125]).size = 1 from rfl]; omega)) ?_
    refine go 8 ?_
    refine wyy rfl rfl rfl (ay_add rfl rfl rfl (by omega) (by omega)) ?_
    refine go 2 ?_
    refine ⟨(i + 1, iz, front ++ ⟨#[105, 102, 32, 49, 32, 123, 32, 125, 32, 101, 108, 115, 101, 32, 123]⟩, ⟨#[125]⟩ ++ back, ds ++ [1]), ⟨by omega, by rw [List.length_append]; simp; omega, hiz, ?_, ?_⟩, ?_, (sub_cons rfl (.refl _) (sub_cons rfl (.refl _) (sub_cons rfl (.refl _) (sub_cons rfl (.refl _) (sub_cons rfl (.refl _) (sub_cons rfl (.refl _) sub_nil))))))⟩
    ·rw [ba_app, hF, dpFront_snoc]; rfl
    ·rw [ba_app, hB, List.length_append]; rfl
    ·show 20 + k - (i + 1) < 20 + k - i; omega
   ·skip
    refine wyy rfl rfl rfl (ay_cmp false rfl rfl rfl (by simp [cmpR] <;> omega)) ?_
    refine go 6 ?_
    refine wyy rfl rfl rfl (ay_cat rfl rfl rfl (by rw [show (ByteArray.mk #[119, 104, 105, 108, 101, 32, 48, 32, 123]).size = 9 from rfl]; omega)) ?_
    refine go 1 ?_
    refine wyy rfl rfl rfl (ay_cat rfl rfl rfl (by rw [show (ByteArray.mk #[125]).size = 1 from rfl]; omega)) ?_
    refine go 8 ?_
    refine wyy rfl rfl rfl (ay_add rfl rfl rfl (by omega) (by omega)) ?_
    refine go 2 ?_
    refine ⟨(i + 1, iz, front ++ ⟨#[119, 104, 105, 108, 101, 32, 48, 32, 123]⟩, ⟨#[125]⟩ ++ back, ds ++ [2]), ⟨by omega, by rw [List.length_append]; simp; omega, hiz, ?_, ?_⟩, ?_, (sub_cons rfl (.refl _) (sub_cons rfl (.refl _) (sub_cons rfl (.refl _) (sub_cons rfl (.refl _) (sub_cons rfl (.refl _) (sub_cons rfl (.refl _) sub_nil))))))⟩
    ·rw [ba_app, hF, dpFront_snoc]; rfl
    ·rw [ba_app, hB, List.length_append]; rfl
    ·show 20 + k - (i + 1) < 20 + k - i; omega
 ·obtain rfl : i = 20 + k := by omega
  refine wyy rfl rfl rfl (ay_cmp false rfl rfl rfl (by simp [cmpR] <;> omega)) ?_
  refine go 12 ?_
  refine wyy rfl rfl rfl (ay_cat rfl rfl rfl (by omega)) ?_
  have hts : (front ++ back).data.toList = dpText ds := by rw [ba_app, hF, hB]; rfl
  have hE := dp_e ds (by omega)
  rw [← hts] at hE
  have hsz : (front ++ back).size ≤ 1000 := by rw [ByteArray.size_append]; omega
  obtain ⟨tx, htx⟩ : ∃ t, t = front ++ back := ⟨_, rfl⟩
  rw [← htx] at hE hsz ⊢
  clear hts htx
  refine wo rfl (wbytes rfl rfl (by decide) rfl Tryz.underlying9 Tryz.underlying23 Tryz.underlying5 (by omega) (N := tx.data.toList.length) rfl rfl ?_)
  refine go 6 ?_
  refine wo rfl (wcallE 1 [] rfl rfl (by decide) Tryz.call17 rfl rfl (pProgram_c tx.data.toList m _) (fun _ h => by cases h) (fun _ h => by cases h) (fun _ _ h => by cases h) ?_)
  rintro rp sp ⟨rfl, rfl⟩
  refine go 12 fun b2 => ?_
  by_cases hm : 20 + k ≤ 24
  ·rw [if_pos (by omega)] at hE
   refine go 1 ?_
   refine wyy rfl rfl rfl (ay_cmp true rfl rfl rfl (by rw [hE]; rfl)) ?_
   refine go 1 ?_
   refine wyy rfl rfl rfl (ay_cmp true rfl rfl rfl (by simp [cmpR] <;> omega)) ?_
   refine wyy rfl rfl rfl (ay_booleq true rfl rfl rfl Tryz.runUnderlying4 (by simp [boolR])) ?_
   refine go 2 ?_
   refine wo rfl (wcallE 1 [] rfl rfl (by decide) Tryz.call13 rfl rfl (same_c tx.data.toList m _) (fun _ h => by cases h) (fun _ h => by cases h) (fun _ _ h => by cases h) ?_)
   rintro rr2 ss2 ⟨rfl, rfl⟩
   refine go 2 ?_
   refine wo rfl (wcallA 1 rfl rfl (by decide) Tryz.call14 rfl awake3_any ?_)
   refine go 5 ?_
   exact ⟨.inr rfl, _, ⟨[], []⟩, res_one rfl (resv_tmp rfl), subS_of (List.nil_sublist _) (List.nil_sublist _), rfl, rfl⟩
  ·rw [if_neg (by omega)] at hE
   refine go 1 ?_
   refine wyy rfl rfl rfl (ay_cmp false rfl rfl rfl (by rw [hE]; rfl)) ?_
   refine go 1 ?_
   refine wyy rfl rfl rfl (ay_cmp false rfl rfl rfl (by simp [cmpR] <;> omega)) ?_
   refine wyy rfl rfl rfl (ay_booleq true rfl rfl rfl Tryz.runUnderlying4 (by simp [boolR])) ?_
   refine go 2 ?_
   refine wo rfl (wcallE 1 [] rfl rfl (by decide) Tryz.call13 rfl rfl (same_c tx.data.toList m _) (fun _ h => by cases h) (fun _ h => by cases h) (fun _ _ h => by cases h) ?_)
   rintro rr3 ss3 ⟨rfl, rfl⟩
   refine go 2 ?_
   refine wo rfl (wcallA 1 rfl rfl (by decide) Tryz.call14 rfl awake3_any ?_)
   refine go 5 ?_
   exact ⟨.inr rfl, _, ⟨[], []⟩, res_one rfl (resv_tmp rfl), subS_of (List.nil_sublist _) (List.nil_sublist _), rfl, rfl⟩
set_option maxRecDepth 100000 in
theorem parseDeep_contract (H : Type) (enc : TypeId × Value → H) (W : World) (base : Nat) (args : Array Value) (ds gs : List (DataW H)) (before : List MemPlace)
  (hval : ∀ (j : Nat) t v, Tryz.f4.params[j]? = some t → args[j]? = some v → Value.okWide Tryz.prog W .any base t v)
  (hW : DataW.Whole enc Tryz.prog Tryz.f4.params.toList Rows.parseDeepSpec.vars false W args.toList ds gs before) (he : Env W) :
  Calls Tryz.prog 4 args W fun e W' => ∃ v, e = .returned v ∧ Rows.parseDeepSpec.post enc Tryz.prog Tryz.f4 false true false false W args v W' := by
 have hW' := hW
 obtain ⟨p, q, hA0, hV, rfl, hfz, hnd⟩ := hW
 have hA : DataW.TrodAll enc Tryz.prog W 0 (fun _ => true) true Tryz.f4.params.toList args.toList ds p := hA0
 rw [Tryz.params4] at hA hval
 obtain ⟨v0, vs0, d0, ds0, p0, q0, hargs, rfl, rfl, h0, r0⟩ := trodAll_cons hA
 obtain ⟨v1, vs1, d1, ds1, p1, q1, rfl, rfl, rfl, h1, r1⟩ := trodAll_cons r0
 obtain ⟨rfl, rfl, rfl⟩ := trodAll_nil r1
 obtain rfl : args = #[v0, v1] := by cases args; simp_all
 have walk : Calls Tryz.prog 4 #[v0, v1] W fun e w' => e = .returned (.bool true) ∧ Below W.heap.size W w' := by
  obtain ⟨n0, rfl, rfl, rfl, hn0⟩ := open_int Tryz.underlying3 (hval 0 3 v0 rfl rfl) h0
  obtain ⟨l1, a1, cap1, rfl, hc1, hcm1, hr1⟩ := open_intsR (hval 1 22 v1 rfl rfl) h1
  obtain ⟨m, hm0⟩ := rep_law_env (t := .c (.sl l1.length (l1.map fun i => .val (.int .i64 i)))) (v := .slice a1 l1.length cap1) he (rep_ints hr1 (by unfold maxLen at hcm1; omega))
  exact law_calls (vs := [.int .i64 n0, .slice a1 l1.length cap1]) (parseDeep_w n0 l1 m (int_wf hn0) (by unfold maxLen at hcm1; omega)) rfl fun i h h' => by
   match i, h, h' with
   | 0, _, _ => exact .c _ _ (.val _ rfl)
   | 1, _, _ => exact hm0
 refine walk.mono fun e W' ⟨he, hb⟩ => ?_
 subst he
 exact law_post hW' rfl rfl (by rw [Tryz.params4]; intro t ht; simp at ht; rcases ht with rfl | rfl <;> exact ⟨by kernel_rfl, of_decide_eq_true (by kernel_rfl)⟩) rfl hb
theorem parseDeep_reads (os : Os) {H : Type} (enc : TypeId × Value → H) : ∃ places, DataW.whole enc Tryz.prog ((World.doorLaid Tryz.prog 60 os).forCall (fun _ _ => 0) ⟨#[], #[.int .i64 0, .slice none 0 0], []⟩).memory Tryz.f4.params.toList Rows.parseDeepSpec.vars false (#[.int .i64 0, .slice none 0 0] : Array Value).toList 8 = some ([.lit (.int .i64 0), .nil], [], places) :=
 ⟨[], by kernel_rfl⟩
set_option maxRecDepth 100000 in
theorem parseDeep_lifted (os : Os) (started : os.Started) (H : Type) (enc : TypeId × Value → H) (F : Stop.Interp) :
  ReturnsInHanded {} Tryz.checked os 4 .any ((OpenSpec.ofChange Rows.parseDeepSpec).preRow enc Tryz.prog Tryz.f4 Rows.parseDeepRow.domain false Rows.parseDeepRow.laid) (((OpenSpec.ofChange Rows.parseDeepSpec).at F).post enc Tryz.prog Tryz.f4 false true false false) := by
 obtain ⟨places, hx⟩ := parseDeep_reads os enc
 refine returnsInHanded_of_row (C := Tryz.checked) (s := OpenSpec.ofChange Rows.parseDeepSpec) own started (by kernel_rfl) Tryz.func4
  (witness_row_at (enc := enc) (C := Tryz.checked) false (World.doorLaid Tryz.prog 60 os) #[.int .i64 0, .slice none 0 0] rfl (by kernel_rfl) (by kernel_rfl) (by kernel_rfl)
   (OpenSpec.preRow_of_cond 8 hx (by kernel_rfl) (fun k hk => by cases hk) (by kernel_rfl) (laid_met os _))) ?_
 intro W base args ds gs before hval hW _ _ _ hL hSh _
 exact parseDeep_contract H enc W base args ds gs before hval hW (env_of hL hSh)
theorem parseDeep_said : Rows.ParseDeepSaid :=
 OpenClaim.holds_of_cond 4 Tryz.f4 rfl rfl rfl rfl rfl rfl rfl ⟨rfl, rfl, rfl, rfl, rfl⟩ rfl rfl rfl rfl rfl (by kernel_rfl) Tryz.func4 (by kernel_rfl)
  (of_decide_eq_true (by kernel_rfl)) (by unfold Func.isWrapper; first | (rw [if_pos (by decide +kernel)]; kernel_rfl) | (rw [if_neg (by decide +kernel)]; exact ⟨rfl, rfl⟩))
  (fun os started H enc _ F => by rw [OpenClaim.pre_eq_preRow]; exact parseDeep_lifted os started H enc F)
theorem parseDeep_plain (f : FuncId) (fn : Func) (hf : Tryz.pinned.checked.prog.funcNamed "lockorder/lockorderlaw03.ParseDeep" = some f) (hfn : Tryz.pinned.checked.prog.funcs[f]? = some fn) :
  false = Tryz.pinned.checked.prog.looks [] ∧ ∀ (j : Nat) t, fn.params[j]? = some t → Tryz.pinned.checked.prog.wantsStandIn t = false := by
 obtain rfl : f = 4 := Option.some.inj ((show Tryz.prog.funcNamed "lockorder/lockorderlaw03.ParseDeep" = some 4 by kernel_rfl).symm.trans hf) |>.symm
 obtain rfl : fn = Tryz.f4 := (Option.some.inj (Tryz.func4.symm.trans hfn)).symm
 refine ⟨by kernel_rfl, fun j t ht => ?_⟩
 rw [Tryz.params4] at ht
 have hm : t ∈ [3, 22] := by simpa using Array.mem_of_getElem? ht
 have hall : ([3, 22].all fun u => !Tryz.prog.wantsStandIn u) = true := by kernel_rfl
 exact (show Tryz.prog.wantsStandIn t = false by simpa using List.all_eq_true.1 hall t hm)
theorem parseDeep_card : Rows.ParseDeepCardSaid :=
 Claim7.holds_tied_plain_at .later [] _ _ _ _ parseDeep_said (fun _ h => by cases h) (by kernel_rfl) (fun _ h => by cases h) parseDeep_row_tie rfl ⟨rfl, rfl⟩ (by kernel_rfl) rfl parseDeep_plain (by kernel_rfl)
#print axioms parseDeep_card
end Go.Proofs.YtflcnehhpmjipaaGreatDoor
