/-
  Proved: for all integers lockorderlaw03.ParseLimits returns true and leaves its arguments as they were. No condition beyond the row's own. (Printed by genlaw_limits.py.)
-/
import Derived.Test.YtflcnehhpmjipaaGreatDoorW6J
import Derived.Test.YtflcnehhpmjipaaGreatDoorL1J
import Derived.Test.YtflcnehhpmjipaaGreatDoorN1J
import Derived.Test.YtflcnehhpmjipaaGreatDoorD2J
import Derived.Test.YtflcnehhpmjipaaGreatDoorA6J
set_option linter.unusedVariables false
set_option linter.unusedSimpArgs false
namespace Go.Proofs.YtflcnehhpmjipaaGreatDoor
open Go.ChangeShapes Go.WideShapes Go.ChangeAt Go.RowKit
set_option synthInstance.maxHeartbeats 1000000
set_option synthInstance.maxSize 1000000
set_option linter.all false
theorem limF_len (k j : Nat) : (limF k j).length ≤ 13 := by
 unfold limF
 repeat' split
 all_goals decide
theorem catF_len (k : Nat) : ∀ n, (catL (limF k) n).length ≤ 13 * n
 | 0 => by simp [catL]
 | n + 1 => by have h1 := catF_len k n; have h2 := limF_len k n; simp only [catL, List.length_append]; omega
def limW1 : List ByteArray := [⟨#[109, 117, 116, 101, 120, 32, 120, 59, 32]⟩, ⟨#[114, 109, 117, 116, 101, 120, 32, 121, 59, 32]⟩]
def limW3 : List ByteArray := [⟨#[120]⟩, ⟨#[44, 32, 109, 117, 116, 101, 120, 32, 121]⟩]
theorem limW1_at (i j : Nat) (hj : i % 2 = j) (h : j < limW1.length) : limW1[j].data.toList = limF 1 i ∧ limW1[j].size ≤ 20 := by
 match j, h with
 | 0, _ => unfold limF; simp only [hj]; exact ⟨rfl, Nat.le_of_ble_eq_true rfl⟩
 | 1, _ => unfold limF; simp only [hj]; exact ⟨rfl, Nat.le_of_ble_eq_true rfl⟩
theorem limW3_at (i j : Nat) (hj : min i 1 = j) (h : j < limW3.length) : limW3[j].data.toList = limF 3 i ∧ limW3[j].size ≤ 20 := by
 match j, h with
 | 0, _ =>
  obtain rfl : i = 0 := by omega
  exact ⟨rfl, Nat.le_of_ble_eq_true rfl⟩
 | 1, _ =>
  have h1 : i ≠ 0 := by omega
  unfold limF; simp only [h1]; exact ⟨rfl, Nat.le_of_ble_eq_true rfl⟩
theorem numberL_70 : ∀ n, n < 70 → (numberL ((n : Nat) : Int)).length ≤ 2 := by decide +kernel
theorem int_wf {n : Int} (h : (Lit.int .i64 n).wf = true) : -9223372036854775808 ≤ n ∧ n ≤ 9223372036854775807 := by
 simp only [Lit.wf, Bool.and_eq_true, decide_eq_true_eq] at h
 exact h
set_option maxRecDepth 100000 in
set_option maxHeartbeats 1600000 in
theorem parseLimits_w (n0 : Int) (n1 : Int) (m : Int) (hn0 : -9223372036854775808 ≤ n0 ∧ n0 ≤ 9223372036854775807) (hn1 : -9223372036854775808 ≤ n1 ∧ n1 ≤ 9223372036854775807) : ACall Tryz.prog 5 [envF (.c (.val (.int .i64 n0))) m, .c (.val (.int .i64 n1))] [] ⟨[], []⟩ fun r s' => r = .c (.val (.bool true)) ∧ s' = ⟨[], []⟩ := by
 refine acall_body Tryz.func5 rfl (Nat.le_of_ble_eq_true rfl) ?_
 show AWp Tryz.prog _ ⟨101, [], ⟨[], []⟩, [(0, envF (.c (.val (.int .i64 n0))) m), (1, .c (.val (.int .i64 n1)))]⟩ _
 refine go 8 ?_
 refine wo rfl (wcall [] rfl rfl (by decide) Tryz.call12 rfl (within_c _ _ (by decide) (by decide) _) (fun _ h => by cases h) (fun _ h => by cases h) (fun _ _ h => by cases h) ?_)
 rintro rnx snx ⟨rfl, rfl⟩
 obtain ⟨n, hn, hn70⟩ : ∃ k : Nat, n1 % 70 = (k : Int) ∧ k < 70 := within_lt n1 70 (by decide)
 rw [hn]
 refine go 13 ?_
 refine wo rfl (wcall [] rfl rfl (by decide) Tryz.call12 rfl (within_c _ _ (by decide) (by decide) _) (fun _ h => by cases h) (fun _ h => by cases h) (fun _ _ h => by cases h) ?_)
 rintro rkx skx ⟨rfl, rfl⟩
 obtain ⟨kd, hkd, hkd5⟩ : ∃ k : Nat, n0 % 5 = (k : Int) ∧ k < 5 := within_lt n0 5 (by decide)
 rw [hkd]
 refine go 5 ?_
 by_cases hk0 : kd = 0
 ·skip
  refine wyy rfl rfl rfl (ay_cmp true rfl rfl rfl (by first | exact cmp_t (by omega) | (simp [cmpR] <;> omega))) ?_
  refine go 15 ?_
  refine aw_loop (fun g : Nat × ByteArray => (⟨101, [], ⟨[], []⟩, [(7, .c (.val (.int .i64 ((g.1 : Nat) : Int)))), (5, .c (.val (.string g.2))), (0, envF (.c (.val (.int .i64 n0))) m), (1, .c (.val (.int .i64 ((n : Nat) : Int)))), (6, .c (.val (.int .i64 16)))]⟩ : AS)) (fun g => g.1 ≤ n ∧ g.2.data.toList = catL (limF 0) g.1) (fun g => n - g.1) (0, ⟨#[]⟩) (sub_cons rfl (.refl _) (sub_cons rfl (.refl _) (sub_cons rfl (.refl _) (sub_cons rfl (.refl _) (sub_cons rfl (.refl _) sub_nil))))) ⟨Nat.zero_le _, rfl⟩ ?_
  rintro ⟨i, acc⟩ ⟨hi, hT⟩
  dsimp only at hi hT
  show AWp Tryz.prog _ (⟨101, [], ⟨[], []⟩, [(7, .c (.val (.int .i64 ((i : Nat) : Int)))), (5, .c (.val (.string acc))), (0, envF (.c (.val (.int .i64 n0))) m), (1, .c (.val (.int .i64 ((n : Nat) : Int)))), (6, .c (.val (.int .i64 16)))]⟩ : AS) _
  have hsz : acc.size ≤ 13 * i + 7 := by have h1 := catF_len 0 i; rw [ba_len, hT]; omega
  refine go 5 ?_
  by_cases hlt : i < n
  ·skip
   refine wyy rfl rfl rfl (ay_cmp true rfl rfl rfl (by first | exact cmp_t (by omega) | (simp [cmpR] <;> omega))) ?_
   refine go 9 ?_
   refine wyy rfl rfl rfl (ay_cat rfl rfl rfl (by first | (rw [show (ByteArray.mk #[118, 97, 114, 32, 120, 59, 32]).size = 7 from rfl]; omega) | (rw [show (ByteArray.mk #[102, 117, 110, 99, 32, 102, 40, 41, 32, 123, 32, 125, 32]).size = 13 from rfl]; omega))) ?_
   refine go 6 ?_
   refine wyy rfl rfl rfl (ay_add rfl rfl rfl (by omega) (by omega)) ?_
   refine go 2 ?_
   refine ⟨(i + 1, acc ++ ⟨#[118, 97, 114, 32, 120, 59, 32]⟩), ⟨by omega, ?_⟩, ?_, (sub_cons rfl (.refl _) (sub_cons rfl (.refl _) (sub_cons rfl (.refl _) (sub_cons rfl (.refl _) (sub_cons rfl (.refl _) sub_nil)))))⟩
   ·rw [ba_app, hT]; rfl
   ·show n - (i + 1) < n - i; omega
  ·obtain rfl : i = n := by omega
   refine wyy rfl rfl rfl (ay_cmp false rfl rfl rfl (by first | exact cmp_f (by omega) | (simp [cmpR] <;> omega))) ?_
   refine go 11 ?_
   have hbs : acc.data.toList = limT 0 i := hT
   obtain ⟨hE, hLen⟩ := lim_e 0 i (by decide) hn70
   rw [← hbs] at hE hLen
   obtain ⟨tx, htx⟩ : ∃ t, t = acc := ⟨_, rfl⟩
   rw [← htx] at hE hLen ⊢
   have hts := ba_len tx
   clear hbs htx
   refine go 1 ?_
   refine wo rfl (wbytes rfl rfl (by decide) rfl Tryz.underlying9 Tryz.underlying23 Tryz.underlying5 (by omega) (N := tx.data.toList.length) rfl rfl ?_)
   refine wo rfl (wcallE 0 [] rfl rfl (by decide) Tryz.call17 rfl rfl (pProgram_c tx.data.toList m _) (fun _ h => by cases h) (fun _ h => by cases h) (fun _ _ h => by cases h) ?_)
   rintro rp sp ⟨rfl, rfl⟩
   refine go 12 fun b1 => ?_
   by_cases hm : limMost 0 i = true
   ·have hmn : i ≤ 16 := by simp [limMost] at hm; omega
    rw [if_pos hm] at hE
    refine go 1 ?_
    refine wyy rfl rfl rfl (ay_cmp true rfl rfl rfl (by rw [hE]; rfl)) ?_
    refine go 2 ?_
    refine wyy rfl rfl rfl (ay_cmp true rfl rfl rfl (by simp [cmpR] <;> omega)) ?_
    refine wyy rfl rfl rfl (ay_booleq true rfl rfl rfl Tryz.runUnderlying4 (by simp [boolR])) ?_
    refine go 2 ?_
    refine wyy rfl rfl rfl (ay_cmp true rfl rfl rfl (by rw [hE]; rfl)) ?_
    refine go 7 ?_
    refine wo rfl (wbytes rfl rfl (by decide) rfl Tryz.underlying9 Tryz.underlying23 Tryz.underlying5 (by omega) (N := tx.data.toList.length) rfl rfl ?_)
    refine wo rfl (wcallE 0 [] rfl rfl (by decide) Tryz.call13 rfl rfl (same_c tx.data.toList m _) (fun _ h => by cases h) (fun _ h => by cases h) (fun _ _ h => by cases h) ?_)
    rintro rr3 ss3 ⟨rfl, rfl⟩
    refine go 2 ?_
    refine wo rfl (wcallA 0 rfl rfl (by decide) Tryz.call14 rfl awake3_any ?_)
    refine go 5 ?_
    exact ⟨.inr rfl, _, ⟨[], []⟩, res_one rfl (resv_tmp rfl), subS_of (List.nil_sublist _) (List.nil_sublist _), rfl, rfl⟩
   ·have hmn : ¬ i ≤ 16 := by simp [limMost] at hm; omega
    rw [if_neg hm] at hE
    refine go 1 ?_
    refine wyy rfl rfl rfl (ay_cmp false rfl rfl rfl (by rw [hE]; rfl)) ?_
    refine go 2 ?_
    refine wyy rfl rfl rfl (ay_cmp false rfl rfl rfl (by simp [cmpR] <;> omega)) ?_
    refine wyy rfl rfl rfl (ay_booleq true rfl rfl rfl Tryz.runUnderlying4 (by simp [boolR])) ?_
    refine go 2 ?_
    refine wyy rfl rfl rfl (ay_cmp false rfl rfl rfl (by rw [hE]; rfl)) ?_
    refine go 2 ?_
    refine wyy rfl rfl rfl (ay_cmp true rfl rfl rfl (by rw [hE]; rfl)) ?_
    refine go 4 ?_
    refine wo rfl (wbytes rfl rfl (by decide) rfl Tryz.underlying9 Tryz.underlying23 Tryz.underlying5 (by omega) (N := tx.data.toList.length) rfl rfl ?_)
    refine wo rfl (wcallE 0 [] rfl rfl (by decide) Tryz.call13 rfl rfl (same_c tx.data.toList m _) (fun _ h => by cases h) (fun _ h => by cases h) (fun _ _ h => by cases h) ?_)
    rintro rr4 ss4 ⟨rfl, rfl⟩
    refine go 2 ?_
    refine wo rfl (wcallA 0 rfl rfl (by decide) Tryz.call14 rfl awake3_any ?_)
    refine go 5 ?_
    exact ⟨.inr rfl, _, ⟨[], []⟩, res_one rfl (resv_tmp rfl), subS_of (List.nil_sublist _) (List.nil_sublist _), rfl, rfl⟩
 ·skip
  refine wyy rfl rfl rfl (ay_cmp false rfl rfl rfl (by first | exact cmp_f (by omega) | (simp [cmpR] <;> omega))) ?_
  refine go 6 ?_
  by_cases hk1 : kd = 1
  ·skip
   refine wyy rfl rfl rfl (ay_cmp true rfl rfl rfl (by first | exact cmp_t (by omega) | (simp [cmpR] <;> omega))) ?_
   refine go 15 ?_
   refine aw_loop (fun g : Nat × ByteArray => (⟨101, [], ⟨[], []⟩, [(8, .c (.val (.int .i64 ((g.1 : Nat) : Int)))), (5, .c (.val (.string g.2))), (0, envF (.c (.val (.int .i64 n0))) m), (1, .c (.val (.int .i64 ((n : Nat) : Int)))), (6, .c (.val (.int .i64 12)))]⟩ : AS)) (fun g => g.1 ≤ n ∧ g.2.data.toList = catL (limF 1) g.1) (fun g => n - g.1) (0, ⟨#[]⟩) (sub_cons rfl (.refl _) (sub_cons rfl (.refl _) (sub_cons rfl (.refl _) (sub_cons rfl (.refl _) (sub_cons rfl (.refl _) sub_nil))))) ⟨Nat.zero_le _, rfl⟩ ?_
   rintro ⟨i, acc⟩ ⟨hi, hT⟩
   dsimp only at hi hT
   show AWp Tryz.prog _ (⟨101, [], ⟨[], []⟩, [(8, .c (.val (.int .i64 ((i : Nat) : Int)))), (5, .c (.val (.string acc))), (0, envF (.c (.val (.int .i64 n0))) m), (1, .c (.val (.int .i64 ((n : Nat) : Int)))), (6, .c (.val (.int .i64 12)))]⟩ : AS) _
   have hsz : acc.size ≤ 13 * i + 7 := by have h1 := catF_len 1 i; rw [ba_len, hT]; omega
   refine go 5 ?_
   by_cases hlt : i < n
   ·skip
    refine wyy rfl rfl rfl (ay_cmp true rfl rfl rfl (by first | exact cmp_t (by omega) | (simp [cmpR] <;> omega))) ?_
    refine go 9 ?_
    refine wo rfl (wbs Tryz.t9 [.val (.string ⟨#[]⟩), .val (.string ⟨#[]⟩)] rfl rfl (by decide) (.cons rfl (.cons rfl .nil)) Tryz.underlying26 (by kernel_rfl) rfl (by decide) (by decide) (by kernel_rfl) (by kernel_rfl) (r := limW1.map fun x => .val (.string x)) (by kernel_rfl) ?_)
    refine go 1 ?_
    refine wyy rfl rfl rfl (ay_remN (k := 2) (i % 2) rfl rfl rfl (by decide) rfl) ?_
    obtain ⟨j, hj⟩ : ∃ j, i % 2 = j := ⟨_, rfl⟩
    have hj2 : j < limW1.length := by have h1 : limW1.length = 2 := rfl; omega
    have hw := (limW1_at i j hj hj2).2
    refine wyy rfl rfl rfl (ay_ixm (fun x => .val (.string x)) limW1 j rfl (by rfl) rfl (by rw [hj]) hj2 Tryz.runUnderlying26 Tryz.sizeOf9) ?_
    refine go 1 ?_
    refine wyy rfl rfl rfl (ay_cat rfl rfl rfl (by omega)) ?_
    refine go 6 ?_
    refine wyy rfl rfl rfl (ay_add rfl rfl rfl (by omega) (by omega)) ?_
    refine go 2 ?_
    refine ⟨(i + 1, acc ++ limW1[j]), ⟨by omega, ?_⟩, ?_, (sub_cons rfl (.refl _) (sub_cons rfl (.refl _) (sub_cons rfl (.refl _) (sub_cons rfl (.refl _) (sub_cons rfl (.refl _) sub_nil)))))⟩
    ·rw [ba_app, hT]; rw [(limW1_at i j hj hj2).1]; rfl
    ·show n - (i + 1) < n - i; omega
   ·obtain rfl : i = n := by omega
    refine wyy rfl rfl rfl (ay_cmp false rfl rfl rfl (by first | exact cmp_f (by omega) | (simp [cmpR] <;> omega))) ?_
    refine go 11 ?_
    have hbs : acc.data.toList = limT 1 i := hT
    obtain ⟨hE, hLen⟩ := lim_e 1 i (by decide) hn70
    rw [← hbs] at hE hLen
    obtain ⟨tx, htx⟩ : ∃ t, t = acc := ⟨_, rfl⟩
    rw [← htx] at hE hLen ⊢
    have hts := ba_len tx
    clear hbs htx
    refine go 1 ?_
    refine wo rfl (wbytes rfl rfl (by decide) rfl Tryz.underlying9 Tryz.underlying23 Tryz.underlying5 (by omega) (N := tx.data.toList.length) rfl rfl ?_)
    refine wo rfl (wcallE 0 [] rfl rfl (by decide) Tryz.call17 rfl rfl (pProgram_c tx.data.toList m _) (fun _ h => by cases h) (fun _ h => by cases h) (fun _ _ h => by cases h) ?_)
    rintro rp sp ⟨rfl, rfl⟩
    refine go 12 fun b2 => ?_
    by_cases hm : limMost 1 i = true
    ·have hmn : i ≤ 12 := by simp [limMost] at hm; omega
     rw [if_pos hm] at hE
     refine go 1 ?_
     refine wyy rfl rfl rfl (ay_cmp true rfl rfl rfl (by rw [hE]; rfl)) ?_
     refine go 2 ?_
     refine wyy rfl rfl rfl (ay_cmp true rfl rfl rfl (by simp [cmpR] <;> omega)) ?_
     refine wyy rfl rfl rfl (ay_booleq true rfl rfl rfl Tryz.runUnderlying4 (by simp [boolR])) ?_
     refine go 2 ?_
     refine wyy rfl rfl rfl (ay_cmp true rfl rfl rfl (by rw [hE]; rfl)) ?_
     refine go 7 ?_
     refine wo rfl (wbytes rfl rfl (by decide) rfl Tryz.underlying9 Tryz.underlying23 Tryz.underlying5 (by omega) (N := tx.data.toList.length) rfl rfl ?_)
     refine wo rfl (wcallE 0 [] rfl rfl (by decide) Tryz.call13 rfl rfl (same_c tx.data.toList m _) (fun _ h => by cases h) (fun _ h => by cases h) (fun _ _ h => by cases h) ?_)
     rintro rr5 ss5 ⟨rfl, rfl⟩
     refine go 2 ?_
     refine wo rfl (wcallA 0 rfl rfl (by decide) Tryz.call14 rfl awake3_any ?_)
     refine go 5 ?_
     exact ⟨.inr rfl, _, ⟨[], []⟩, res_one rfl (resv_tmp rfl), subS_of (List.nil_sublist _) (List.nil_sublist _), rfl, rfl⟩
    ·have hmn : ¬ i ≤ 12 := by simp [limMost] at hm; omega
     rw [if_neg hm] at hE
     refine go 1 ?_
     refine wyy rfl rfl rfl (ay_cmp false rfl rfl rfl (by rw [hE]; rfl)) ?_
     refine go 2 ?_
     refine wyy rfl rfl rfl (ay_cmp false rfl rfl rfl (by simp [cmpR] <;> omega)) ?_
     refine wyy rfl rfl rfl (ay_booleq true rfl rfl rfl Tryz.runUnderlying4 (by simp [boolR])) ?_
     refine go 2 ?_
     refine wyy rfl rfl rfl (ay_cmp false rfl rfl rfl (by rw [hE]; rfl)) ?_
     refine go 2 ?_
     refine wyy rfl rfl rfl (ay_cmp true rfl rfl rfl (by rw [hE]; rfl)) ?_
     refine go 4 ?_
     refine wo rfl (wbytes rfl rfl (by decide) rfl Tryz.underlying9 Tryz.underlying23 Tryz.underlying5 (by omega) (N := tx.data.toList.length) rfl rfl ?_)
     refine wo rfl (wcallE 0 [] rfl rfl (by decide) Tryz.call13 rfl rfl (same_c tx.data.toList m _) (fun _ h => by cases h) (fun _ h => by cases h) (fun _ _ h => by cases h) ?_)
     rintro rr6 ss6 ⟨rfl, rfl⟩
     refine go 2 ?_
     refine wo rfl (wcallA 0 rfl rfl (by decide) Tryz.call14 rfl awake3_any ?_)
     refine go 5 ?_
     exact ⟨.inr rfl, _, ⟨[], []⟩, res_one rfl (resv_tmp rfl), subS_of (List.nil_sublist _) (List.nil_sublist _), rfl, rfl⟩
  ·skip
   refine wyy rfl rfl rfl (ay_cmp false rfl rfl rfl (by first | exact cmp_f (by omega) | (simp [cmpR] <;> omega))) ?_
   refine go 6 ?_
   by_cases hk2 : kd = 2
   ·skip
    refine wyy rfl rfl rfl (ay_cmp true rfl rfl rfl (by first | exact cmp_t (by omega) | (simp [cmpR] <;> omega))) ?_
    refine go 15 ?_
    refine aw_loop (fun g : Nat × ByteArray => (⟨101, [], ⟨[], []⟩, [(9, .c (.val (.int .i64 ((g.1 : Nat) : Int)))), (5, .c (.val (.string g.2))), (0, envF (.c (.val (.int .i64 n0))) m), (1, .c (.val (.int .i64 ((n : Nat) : Int)))), (6, .c (.val (.int .i64 16)))]⟩ : AS)) (fun g => g.1 ≤ n ∧ g.2.data.toList = catL (limF 2) g.1) (fun g => n - g.1) (0, ⟨#[]⟩) (sub_cons rfl (.refl _) (sub_cons rfl (.refl _) (sub_cons rfl (.refl _) (sub_cons rfl (.refl _) (sub_cons rfl (.refl _) sub_nil))))) ⟨Nat.zero_le _, rfl⟩ ?_
    rintro ⟨i, acc⟩ ⟨hi, hT⟩
    dsimp only at hi hT
    show AWp Tryz.prog _ (⟨101, [], ⟨[], []⟩, [(9, .c (.val (.int .i64 ((i : Nat) : Int)))), (5, .c (.val (.string acc))), (0, envF (.c (.val (.int .i64 n0))) m), (1, .c (.val (.int .i64 ((n : Nat) : Int)))), (6, .c (.val (.int .i64 16)))]⟩ : AS) _
    have hsz : acc.size ≤ 13 * i + 7 := by have h1 := catF_len 2 i; rw [ba_len, hT]; omega
    refine go 5 ?_
    by_cases hlt : i < n
    ·skip
     refine wyy rfl rfl rfl (ay_cmp true rfl rfl rfl (by first | exact cmp_t (by omega) | (simp [cmpR] <;> omega))) ?_
     refine go 9 ?_
     refine wyy rfl rfl rfl (ay_cat rfl rfl rfl (by first | (rw [show (ByteArray.mk #[118, 97, 114, 32, 120, 59, 32]).size = 7 from rfl]; omega) | (rw [show (ByteArray.mk #[102, 117, 110, 99, 32, 102, 40, 41, 32, 123, 32, 125, 32]).size = 13 from rfl]; omega))) ?_
     refine go 6 ?_
     refine wyy rfl rfl rfl (ay_add rfl rfl rfl (by omega) (by omega)) ?_
     refine go 2 ?_
     refine ⟨(i + 1, acc ++ ⟨#[102, 117, 110, 99, 32, 102, 40, 41, 32, 123, 32, 125, 32]⟩), ⟨by omega, ?_⟩, ?_, (sub_cons rfl (.refl _) (sub_cons rfl (.refl _) (sub_cons rfl (.refl _) (sub_cons rfl (.refl _) (sub_cons rfl (.refl _) sub_nil)))))⟩
     ·rw [ba_app, hT]; rfl
     ·show n - (i + 1) < n - i; omega
    ·obtain rfl : i = n := by omega
     refine wyy rfl rfl rfl (ay_cmp false rfl rfl rfl (by first | exact cmp_f (by omega) | (simp [cmpR] <;> omega))) ?_
     refine go 11 ?_
     have hbs : acc.data.toList = limT 2 i := hT
     obtain ⟨hE, hLen⟩ := lim_e 2 i (by decide) hn70
     rw [← hbs] at hE hLen
     obtain ⟨tx, htx⟩ : ∃ t, t = acc := ⟨_, rfl⟩
     rw [← htx] at hE hLen ⊢
     have hts := ba_len tx
     clear hbs htx
     refine go 1 ?_
     refine wo rfl (wbytes rfl rfl (by decide) rfl Tryz.underlying9 Tryz.underlying23 Tryz.underlying5 (by omega) (N := tx.data.toList.length) rfl rfl ?_)
     refine wo rfl (wcallE 0 [] rfl rfl (by decide) Tryz.call17 rfl rfl (pProgram_c tx.data.toList m _) (fun _ h => by cases h) (fun _ h => by cases h) (fun _ _ h => by cases h) ?_)
     rintro rp sp ⟨rfl, rfl⟩
     refine go 12 fun b3 => ?_
     by_cases hm : limMost 2 i = true
     ·have hmn : i ≤ 16 := by simp [limMost] at hm; omega
      rw [if_pos hm] at hE
      refine go 1 ?_
      refine wyy rfl rfl rfl (ay_cmp true rfl rfl rfl (by rw [hE]; rfl)) ?_
      refine go 2 ?_
      refine wyy rfl rfl rfl (ay_cmp true rfl rfl rfl (by simp [cmpR] <;> omega)) ?_
      refine wyy rfl rfl rfl (ay_booleq true rfl rfl rfl Tryz.runUnderlying4 (by simp [boolR])) ?_
      refine go 2 ?_
      refine wyy rfl rfl rfl (ay_cmp true rfl rfl rfl (by rw [hE]; rfl)) ?_
      refine go 7 ?_
      refine wo rfl (wbytes rfl rfl (by decide) rfl Tryz.underlying9 Tryz.underlying23 Tryz.underlying5 (by omega) (N := tx.data.toList.length) rfl rfl ?_)
      refine wo rfl (wcallE 0 [] rfl rfl (by decide) Tryz.call13 rfl rfl (same_c tx.data.toList m _) (fun _ h => by cases h) (fun _ h => by cases h) (fun _ _ h => by cases h) ?_)
      rintro rr7 ss7 ⟨rfl, rfl⟩
      refine go 2 ?_
      refine wo rfl (wcallA 0 rfl rfl (by decide) Tryz.call14 rfl awake3_any ?_)
      refine go 5 ?_
      exact ⟨.inr rfl, _, ⟨[], []⟩, res_one rfl (resv_tmp rfl), subS_of (List.nil_sublist _) (List.nil_sublist _), rfl, rfl⟩
     ·have hmn : ¬ i ≤ 16 := by simp [limMost] at hm; omega
      rw [if_neg hm] at hE
      refine go 1 ?_
      refine wyy rfl rfl rfl (ay_cmp false rfl rfl rfl (by rw [hE]; rfl)) ?_
      refine go 2 ?_
      refine wyy rfl rfl rfl (ay_cmp false rfl rfl rfl (by simp [cmpR] <;> omega)) ?_
      refine wyy rfl rfl rfl (ay_booleq true rfl rfl rfl Tryz.runUnderlying4 (by simp [boolR])) ?_
      refine go 2 ?_
      refine wyy rfl rfl rfl (ay_cmp false rfl rfl rfl (by rw [hE]; rfl)) ?_
      refine go 2 ?_
      refine wyy rfl rfl rfl (ay_cmp true rfl rfl rfl (by rw [hE]; rfl)) ?_
      refine go 4 ?_
      refine wo rfl (wbytes rfl rfl (by decide) rfl Tryz.underlying9 Tryz.underlying23 Tryz.underlying5 (by omega) (N := tx.data.toList.length) rfl rfl ?_)
      refine wo rfl (wcallE 0 [] rfl rfl (by decide) Tryz.call13 rfl rfl (same_c tx.data.toList m _) (fun _ h => by cases h) (fun _ h => by cases h) (fun _ _ h => by cases h) ?_)
      rintro rr8 ss8 ⟨rfl, rfl⟩
      refine go 2 ?_
      refine wo rfl (wcallA 0 rfl rfl (by decide) Tryz.call14 rfl awake3_any ?_)
      refine go 5 ?_
      exact ⟨.inr rfl, _, ⟨[], []⟩, res_one rfl (resv_tmp rfl), subS_of (List.nil_sublist _) (List.nil_sublist _), rfl, rfl⟩
   ·skip
    refine wyy rfl rfl rfl (ay_cmp false rfl rfl rfl (by first | exact cmp_f (by omega) | (simp [cmpR] <;> omega))) ?_
    refine go 6 ?_
    by_cases hk3 : kd = 3
    ·skip
     refine wyy rfl rfl rfl (ay_cmp true rfl rfl rfl (by first | exact cmp_t (by omega) | (simp [cmpR] <;> omega))) ?_
     refine go 21 ?_
     refine aw_loop (fun g : Nat × ByteArray => (⟨101, [], ⟨[], []⟩, [(10, .c (.val (.int .i64 ((g.1 : Nat) : Int)))), (5, .c (.val (.string g.2))), (0, envF (.c (.val (.int .i64 n0))) m), (1, .c (.val (.int .i64 ((n : Nat) : Int)))), (6, .c (.val (.int .i64 6)))]⟩ : AS)) (fun g => g.1 ≤ n ∧ g.2.data.toList = [102, 117, 110, 99, 32, 102, 40] ++ catL (limF 3) g.1) (fun g => n - g.1) (0, ⟨#[102, 117, 110, 99, 32, 102, 40]⟩) (sub_cons rfl (.refl _) (sub_cons rfl (.refl _) (sub_cons rfl (.refl _) (sub_cons rfl (.refl _) (sub_cons rfl (.refl _) sub_nil))))) ⟨Nat.zero_le _, rfl⟩ ?_
     rintro ⟨i, acc⟩ ⟨hi, hT⟩
     dsimp only at hi hT
     show AWp Tryz.prog _ (⟨101, [], ⟨[], []⟩, [(10, .c (.val (.int .i64 ((i : Nat) : Int)))), (5, .c (.val (.string acc))), (0, envF (.c (.val (.int .i64 n0))) m), (1, .c (.val (.int .i64 ((n : Nat) : Int)))), (6, .c (.val (.int .i64 6)))]⟩ : AS) _
     have hsz : acc.size ≤ 13 * i + 7 := by have h1 := catF_len 3 i; rw [ba_len, hT]; simp only [List.length_append, List.length_cons, List.length_nil]; omega
     refine go 5 ?_
     by_cases hlt : i < n
     ·skip
      refine wyy rfl rfl rfl (ay_cmp true rfl rfl rfl (by first | exact cmp_t (by omega) | (simp [cmpR] <;> omega))) ?_
      refine go 9 ?_
      refine wo rfl (wbs Tryz.t9 [.val (.string ⟨#[]⟩), .val (.string ⟨#[]⟩)] rfl rfl (by decide) (.cons rfl (.cons rfl .nil)) Tryz.underlying26 (by kernel_rfl) rfl (by decide) (by decide) (by kernel_rfl) (by kernel_rfl) (r := limW3.map fun x => .val (.string x)) (by kernel_rfl) ?_)
      refine go 1 ?_
      refine wyy rfl rfl rfl (ay_min ((min i 1 : Nat) : Int) rfl rfl rfl (by omega)) ?_
      obtain ⟨j, hj⟩ : ∃ j, min i 1 = j := ⟨_, rfl⟩
      have hj2 : j < limW3.length := by have h1 : limW3.length = 2 := rfl; omega
      have hw := (limW3_at i j hj hj2).2
      refine wyy rfl rfl rfl (ay_ixm (fun x => .val (.string x)) limW3 j rfl (by rfl) rfl (by rw [hj]) hj2 Tryz.runUnderlying26 Tryz.sizeOf9) ?_
      refine go 1 ?_
      refine wyy rfl rfl rfl (ay_cat rfl rfl rfl (by omega)) ?_
      refine go 6 ?_
      refine wyy rfl rfl rfl (ay_add rfl rfl rfl (by omega) (by omega)) ?_
      refine go 2 ?_
      refine ⟨(i + 1, acc ++ limW3[j]), ⟨by omega, ?_⟩, ?_, (sub_cons rfl (.refl _) (sub_cons rfl (.refl _) (sub_cons rfl (.refl _) (sub_cons rfl (.refl _) (sub_cons rfl (.refl _) sub_nil)))))⟩
      ·rw [ba_app, hT, List.append_assoc]; rw [(limW3_at i j hj hj2).1]; rfl
      ·show n - (i + 1) < n - i; omega
     ·obtain rfl : i = n := by omega
      refine wyy rfl rfl rfl (ay_cmp false rfl rfl rfl (by first | exact cmp_f (by omega) | (simp [cmpR] <;> omega))) ?_
      refine go 10 ?_
      refine wyy rfl rfl rfl (ay_cat rfl rfl rfl (by rw [show (ByteArray.mk #[41, 32, 123, 32, 125]).size = 5 from rfl]; omega)) ?_
      refine go 6 ?_
      have hbs : (acc ++ ⟨#[41, 32, 123, 32, 125]⟩).data.toList = limT 3 i := by rw [ba_app, hT]; rfl
      obtain ⟨hE, hLen⟩ := lim_e 3 i (by decide) hn70
      rw [← hbs] at hE hLen
      obtain ⟨tx, htx⟩ : ∃ t, t = (acc ++ ⟨#[41, 32, 123, 32, 125]⟩) := ⟨_, rfl⟩
      rw [← htx] at hE hLen ⊢
      have hts := ba_len tx
      clear hbs htx
      refine go 1 ?_
      refine wo rfl (wbytes rfl rfl (by decide) rfl Tryz.underlying9 Tryz.underlying23 Tryz.underlying5 (by omega) (N := tx.data.toList.length) rfl rfl ?_)
      refine wo rfl (wcallE 0 [] rfl rfl (by decide) Tryz.call17 rfl rfl (pProgram_c tx.data.toList m _) (fun _ h => by cases h) (fun _ h => by cases h) (fun _ _ h => by cases h) ?_)
      rintro rp sp ⟨rfl, rfl⟩
      refine go 12 fun b4 => ?_
      by_cases hm : limMost 3 i = true
      ·have hmn : i ≤ 6 := by simp [limMost] at hm; omega
       rw [if_pos hm] at hE
       refine go 1 ?_
       refine wyy rfl rfl rfl (ay_cmp true rfl rfl rfl (by rw [hE]; rfl)) ?_
       refine go 2 ?_
       refine wyy rfl rfl rfl (ay_cmp true rfl rfl rfl (by simp [cmpR] <;> omega)) ?_
       refine wyy rfl rfl rfl (ay_booleq true rfl rfl rfl Tryz.runUnderlying4 (by simp [boolR])) ?_
       refine go 2 ?_
       refine wyy rfl rfl rfl (ay_cmp true rfl rfl rfl (by rw [hE]; rfl)) ?_
       refine go 7 ?_
       refine wo rfl (wbytes rfl rfl (by decide) rfl Tryz.underlying9 Tryz.underlying23 Tryz.underlying5 (by omega) (N := tx.data.toList.length) rfl rfl ?_)
       refine wo rfl (wcallE 0 [] rfl rfl (by decide) Tryz.call13 rfl rfl (same_c tx.data.toList m _) (fun _ h => by cases h) (fun _ h => by cases h) (fun _ _ h => by cases h) ?_)
       rintro rr9 ss9 ⟨rfl, rfl⟩
       refine go 2 ?_
       refine wo rfl (wcallA 0 rfl rfl (by decide) Tryz.call14 rfl awake3_any ?_)
       refine go 5 ?_
       exact ⟨.inr rfl, _, ⟨[], []⟩, res_one rfl (resv_tmp rfl), subS_of (List.nil_sublist _) (List.nil_sublist _), rfl, rfl⟩
      ·have hmn : ¬ i ≤ 6 := by simp [limMost] at hm; omega
       rw [if_neg hm] at hE
       refine go 1 ?_
       refine wyy rfl rfl rfl (ay_cmp false rfl rfl rfl (by rw [hE]; rfl)) ?_
       refine go 2 ?_
       refine wyy rfl rfl rfl (ay_cmp false rfl rfl rfl (by simp [cmpR] <;> omega)) ?_
       refine wyy rfl rfl rfl (ay_booleq true rfl rfl rfl Tryz.runUnderlying4 (by simp [boolR])) ?_
       refine go 2 ?_
       refine wyy rfl rfl rfl (ay_cmp false rfl rfl rfl (by rw [hE]; rfl)) ?_
       refine go 2 ?_
       refine wyy rfl rfl rfl (ay_cmp true rfl rfl rfl (by rw [hE]; rfl)) ?_
       refine go 4 ?_
       refine wo rfl (wbytes rfl rfl (by decide) rfl Tryz.underlying9 Tryz.underlying23 Tryz.underlying5 (by omega) (N := tx.data.toList.length) rfl rfl ?_)
       refine wo rfl (wcallE 0 [] rfl rfl (by decide) Tryz.call13 rfl rfl (same_c tx.data.toList m _) (fun _ h => by cases h) (fun _ h => by cases h) (fun _ _ h => by cases h) ?_)
       rintro rr10 ss10 ⟨rfl, rfl⟩
       refine go 2 ?_
       refine wo rfl (wcallA 0 rfl rfl (by decide) Tryz.call14 rfl awake3_any ?_)
       refine go 5 ?_
       exact ⟨.inr rfl, _, ⟨[], []⟩, res_one rfl (resv_tmp rfl), subS_of (List.nil_sublist _) (List.nil_sublist _), rfl, rfl⟩
    ·skip
     refine wyy rfl rfl rfl (ay_cmp false rfl rfl rfl (by first | exact cmp_f (by omega) | (simp [cmpR] <;> omega))) ?_
     refine go 12 ?_
     refine wo rfl (wcall [] rfl rfl (by decide) Tryz.call18 rfl (scal_c (us := [.int .i64 n]) rfl rfl (fun w => number_ref _ w (by omega) (by omega)) _) (fun _ h => by cases h) (fun _ h => by cases h) (fun _ _ h => by cases h) ?_)
     rintro rn sn ⟨rfl, rfl⟩
     have hnl := numberL_70 n hn70
     refine wyy rfl rfl rfl (ay_cat rfl rfl rfl (by rw [bytes_size, show (ByteArray.mk #[109, 117, 116, 101, 120, 32, 120, 91]).size = 8 from rfl]; omega)) ?_
     refine wyy rfl rfl rfl (ay_cat rfl rfl rfl (by rw [ByteArray.size_append, bytes_size, show (ByteArray.mk #[109, 117, 116, 101, 120, 32, 120, 91]).size = 8 from rfl, show (ByteArray.mk #[93, 59]).size = 2 from rfl]; omega)) ?_
     refine go 6 ?_
     by_cases hn0 : n = 0
     ·skip
      refine wyy rfl rfl rfl (ay_cmp true rfl rfl rfl (by first | exact cmp_t (by omega) | (simp [cmpR] <;> omega))) ?_
      refine go 10 ?_
      have hbs : (⟨#[109, 117, 116, 101, 120, 32, 120, 91]⟩ ++ bytes (numberL ((n : Nat) : Int)) ++ ⟨#[93, 59]⟩).data.toList = limT 4 n := by rw [ba_app, ba_app, bytes_toList]; rfl
      obtain ⟨hE, hLen⟩ := lim_e 4 n (by decide) hn70
      rw [← hbs] at hE hLen
      obtain ⟨tx, htx⟩ : ∃ t, t = (⟨#[109, 117, 116, 101, 120, 32, 120, 91]⟩ ++ bytes (numberL ((n : Nat) : Int)) ++ ⟨#[93, 59]⟩) := ⟨_, rfl⟩
      rw [← htx] at hE hLen ⊢
      have hts := ba_len tx
      clear hbs htx
      refine go 1 ?_
      refine wo rfl (wbytes rfl rfl (by decide) rfl Tryz.underlying9 Tryz.underlying23 Tryz.underlying5 (by omega) (N := tx.data.toList.length) rfl rfl ?_)
      refine wo rfl (wcallE 0 [] rfl rfl (by decide) Tryz.call17 rfl rfl (pProgram_c tx.data.toList m _) (fun _ h => by cases h) (fun _ h => by cases h) (fun _ _ h => by cases h) ?_)
      rintro rp sp ⟨rfl, rfl⟩
      refine go 12 fun b5 => ?_
      ·have hm : ¬ limMost 4 n = true := by subst hn0; decide
       rw [if_neg hm] at hE
       refine go 1 ?_
       refine wyy rfl rfl rfl (ay_cmp false rfl rfl rfl (by rw [hE]; rfl)) ?_
       refine go 2 ?_
       refine wyy rfl rfl rfl (ay_cmp false rfl rfl rfl (by simp [cmpR] <;> omega)) ?_
       refine wyy rfl rfl rfl (ay_booleq true rfl rfl rfl Tryz.runUnderlying4 (by simp [boolR])) ?_
       refine go 2 ?_
       refine wyy rfl rfl rfl (ay_cmp false rfl rfl rfl (by rw [hE]; rfl)) ?_
       refine go 2 ?_
       refine wyy rfl rfl rfl (ay_cmp true rfl rfl rfl (by rw [hE]; rfl)) ?_
       refine go 4 ?_
       refine wo rfl (wbytes rfl rfl (by decide) rfl Tryz.underlying9 Tryz.underlying23 Tryz.underlying5 (by omega) (N := tx.data.toList.length) rfl rfl ?_)
       refine wo rfl (wcallE 0 [] rfl rfl (by decide) Tryz.call13 rfl rfl (same_c tx.data.toList m _) (fun _ h => by cases h) (fun _ h => by cases h) (fun _ _ h => by cases h) ?_)
       rintro rr11 ss11 ⟨rfl, rfl⟩
       refine go 2 ?_
       refine wo rfl (wcallA 0 rfl rfl (by decide) Tryz.call14 rfl awake3_any ?_)
       refine go 5 ?_
       exact ⟨.inr rfl, _, ⟨[], []⟩, res_one rfl (resv_tmp rfl), subS_of (List.nil_sublist _) (List.nil_sublist _), rfl, rfl⟩
     ·skip
      refine wyy rfl rfl rfl (ay_cmp false rfl rfl rfl (by first | exact cmp_f (by omega) | (simp [cmpR] <;> omega))) ?_
      refine go 8 ?_
      have hbs : (⟨#[109, 117, 116, 101, 120, 32, 120, 91]⟩ ++ bytes (numberL ((n : Nat) : Int)) ++ ⟨#[93, 59]⟩).data.toList = limT 4 n := by rw [ba_app, ba_app, bytes_toList]; rfl
      obtain ⟨hE, hLen⟩ := lim_e 4 n (by decide) hn70
      rw [← hbs] at hE hLen
      obtain ⟨tx, htx⟩ : ∃ t, t = (⟨#[109, 117, 116, 101, 120, 32, 120, 91]⟩ ++ bytes (numberL ((n : Nat) : Int)) ++ ⟨#[93, 59]⟩) := ⟨_, rfl⟩
      rw [← htx] at hE hLen ⊢
      have hts := ba_len tx
      clear hbs htx
      refine go 1 ?_
      refine wo rfl (wbytes rfl rfl (by decide) rfl Tryz.underlying9 Tryz.underlying23 Tryz.underlying5 (by omega) (N := tx.data.toList.length) rfl rfl ?_)
      refine wo rfl (wcallE 0 [] rfl rfl (by decide) Tryz.call17 rfl rfl (pProgram_c tx.data.toList m _) (fun _ h => by cases h) (fun _ h => by cases h) (fun _ _ h => by cases h) ?_)
      rintro rp sp ⟨rfl, rfl⟩
      refine go 12 fun b6 => ?_
      by_cases hm : limMost 4 n = true
      ·have hmn : n ≤ 64 := by simp [limMost] at hm; omega
       rw [if_pos hm] at hE
       refine go 1 ?_
       refine wyy rfl rfl rfl (ay_cmp true rfl rfl rfl (by rw [hE]; rfl)) ?_
       refine go 2 ?_
       refine wyy rfl rfl rfl (ay_cmp true rfl rfl rfl (by simp [cmpR] <;> omega)) ?_
       refine wyy rfl rfl rfl (ay_booleq true rfl rfl rfl Tryz.runUnderlying4 (by simp [boolR])) ?_
       refine go 2 ?_
       refine wyy rfl rfl rfl (ay_cmp true rfl rfl rfl (by rw [hE]; rfl)) ?_
       refine go 7 ?_
       refine wo rfl (wbytes rfl rfl (by decide) rfl Tryz.underlying9 Tryz.underlying23 Tryz.underlying5 (by omega) (N := tx.data.toList.length) rfl rfl ?_)
       refine wo rfl (wcallE 0 [] rfl rfl (by decide) Tryz.call13 rfl rfl (same_c tx.data.toList m _) (fun _ h => by cases h) (fun _ h => by cases h) (fun _ _ h => by cases h) ?_)
       rintro rr12 ss12 ⟨rfl, rfl⟩
       refine go 2 ?_
       refine wo rfl (wcallA 0 rfl rfl (by decide) Tryz.call14 rfl awake3_any ?_)
       refine go 5 ?_
       exact ⟨.inr rfl, _, ⟨[], []⟩, res_one rfl (resv_tmp rfl), subS_of (List.nil_sublist _) (List.nil_sublist _), rfl, rfl⟩
      ·have hmn : ¬ n ≤ 64 := by simp [limMost] at hm; omega
       rw [if_neg hm] at hE
       refine go 1 ?_
       refine wyy rfl rfl rfl (ay_cmp false rfl rfl rfl (by rw [hE]; rfl)) ?_
       refine go 2 ?_
       refine wyy rfl rfl rfl (ay_cmp false rfl rfl rfl (by simp [cmpR] <;> omega)) ?_
       refine wyy rfl rfl rfl (ay_booleq true rfl rfl rfl Tryz.runUnderlying4 (by simp [boolR])) ?_
       refine go 2 ?_
       refine wyy rfl rfl rfl (ay_cmp false rfl rfl rfl (by rw [hE]; rfl)) ?_
       refine go 2 ?_
       refine wyy rfl rfl rfl (ay_cmp true rfl rfl rfl (by rw [hE]; rfl)) ?_
       refine go 4 ?_
       refine wo rfl (wbytes rfl rfl (by decide) rfl Tryz.underlying9 Tryz.underlying23 Tryz.underlying5 (by omega) (N := tx.data.toList.length) rfl rfl ?_)
       refine wo rfl (wcallE 0 [] rfl rfl (by decide) Tryz.call13 rfl rfl (same_c tx.data.toList m _) (fun _ h => by cases h) (fun _ h => by cases h) (fun _ _ h => by cases h) ?_)
       rintro rr13 ss13 ⟨rfl, rfl⟩
       refine go 2 ?_
       refine wo rfl (wcallA 0 rfl rfl (by decide) Tryz.call14 rfl awake3_any ?_)
       refine go 5 ?_
       exact ⟨.inr rfl, _, ⟨[], []⟩, res_one rfl (resv_tmp rfl), subS_of (List.nil_sublist _) (List.nil_sublist _), rfl, rfl⟩
set_option maxRecDepth 100000 in
theorem parseLimits_contract (H : Type) (enc : TypeId × Value → H) (W : World) (base : Nat) (args : Array Value) (ds gs : List (DataW H)) (before : List MemPlace)
  (hval : ∀ (j : Nat) t v, Tryz.f5.params[j]? = some t → args[j]? = some v → Value.okWide Tryz.prog W .any base t v)
  (hW : DataW.Whole enc Tryz.prog Tryz.f5.params.toList Rows.parseLimitsSpec.vars false W args.toList ds gs before) (he : Env W) :
  Calls Tryz.prog 5 args W fun e W' => ∃ v, e = .returned v ∧ Rows.parseLimitsSpec.post enc Tryz.prog Tryz.f5 false true false false W args v W' := by
 have hW' := hW
 obtain ⟨p, q, hA0, hV, rfl, hfz, hnd⟩ := hW
 have hA : DataW.TrodAll enc Tryz.prog W 0 (fun _ => true) true Tryz.f5.params.toList args.toList ds p := hA0
 rw [Tryz.params5] at hA hval
 obtain ⟨v0, vs0, d0, ds0, p0, q0, hargs, rfl, rfl, h0, r0⟩ := trodAll_cons hA
 obtain ⟨v1, vs1, d1, ds1, p1, q1, rfl, rfl, rfl, h1, r1⟩ := trodAll_cons r0
 obtain ⟨rfl, rfl, rfl⟩ := trodAll_nil r1
 obtain rfl : args = #[v0, v1] := by cases args; simp_all
 have walk : Calls Tryz.prog 5 #[v0, v1] W fun e w' => e = .returned (.bool true) ∧ Below W.heap.size W w' := by
  obtain ⟨n0, rfl, rfl, rfl, hn0⟩ := open_int Tryz.underlying3 (hval 0 3 v0 rfl rfl) h0
  obtain ⟨n1, rfl, rfl, rfl, hn1⟩ := open_int Tryz.underlying3 (hval 1 3 v1 rfl rfl) h1
  obtain ⟨m, hm0⟩ := rep_law_env (t := .c (.val (.int .i64 n0))) (v := .int .i64 n0) he (.c _ _ (.val _ rfl))
  exact law_calls (vs := [.int .i64 n0, .int .i64 n1]) (parseLimits_w n0 n1 m (int_wf hn0) (int_wf hn1)) rfl fun i h h' => by
   match i, h, h' with
   | 0, _, _ => exact hm0
   | 1, _, _ => exact .c _ _ (.val _ rfl)
 refine walk.mono fun e W' ⟨he, hb⟩ => ?_
 subst he
 exact law_post hW' rfl rfl (by rw [Tryz.params5]; intro t ht; simp at ht; subst ht; exact ⟨by kernel_rfl, of_decide_eq_true (by kernel_rfl)⟩) rfl hb
theorem parseLimits_reads (os : Os) {H : Type} (enc : TypeId × Value → H) : ∃ places, DataW.whole enc Tryz.prog ((World.doorLaid Tryz.prog 60 os).forCall (fun _ _ => 0) ⟨#[], #[.int .i64 0, .int .i64 0], []⟩).memory Tryz.f5.params.toList Rows.parseLimitsSpec.vars false (#[.int .i64 0, .int .i64 0] : Array Value).toList 8 = some ([.lit (.int .i64 0), .lit (.int .i64 0)], [], places) :=
 ⟨[], by kernel_rfl⟩
set_option maxRecDepth 100000 in
theorem parseLimits_lifted (os : Os) (started : os.Started) (H : Type) (enc : TypeId × Value → H) (F : Stop.Interp) :
  ReturnsInHanded {} Tryz.checked os 5 .any ((OpenSpec.ofChange Rows.parseLimitsSpec).preRow enc Tryz.prog Tryz.f5 Rows.parseLimitsRow.domain false Rows.parseLimitsRow.laid) (((OpenSpec.ofChange Rows.parseLimitsSpec).at F).post enc Tryz.prog Tryz.f5 false true false false) := by
 obtain ⟨places, hx⟩ := parseLimits_reads os enc
 refine returnsInHanded_of_row (C := Tryz.checked) (s := OpenSpec.ofChange Rows.parseLimitsSpec) own started (by kernel_rfl) Tryz.func5
  (witness_row_at (enc := enc) (C := Tryz.checked) false (World.doorLaid Tryz.prog 60 os) #[.int .i64 0, .int .i64 0] rfl (by kernel_rfl) (by kernel_rfl) (by kernel_rfl)
   (OpenSpec.preRow_of_cond 8 hx (by kernel_rfl) (fun k hk => by cases hk) (by kernel_rfl) (laid_met os _))) ?_
 intro W base args ds gs before hval hW _ _ _ hL hSh _
 exact parseLimits_contract H enc W base args ds gs before hval hW (env_of hL hSh)
theorem parseLimits_said : Rows.ParseLimitsSaid :=
 OpenClaim.holds_of_cond 5 Tryz.f5 rfl rfl rfl rfl rfl rfl rfl ⟨rfl, rfl, rfl, rfl, rfl⟩ rfl rfl rfl rfl rfl (by kernel_rfl) Tryz.func5 (by kernel_rfl)
  (of_decide_eq_true (by kernel_rfl)) (by unfold Func.isWrapper; first | (rw [if_pos (by decide +kernel)]; kernel_rfl) | (rw [if_neg (by decide +kernel)]; exact ⟨rfl, rfl⟩))
  (fun os started H enc _ F => by rw [OpenClaim.pre_eq_preRow]; exact parseLimits_lifted os started H enc F)
theorem parseLimits_plain (f : FuncId) (fn : Func) (hf : Tryz.pinned.checked.prog.funcNamed "lockorder/lockorderlaw03.ParseLimits" = some f) (hfn : Tryz.pinned.checked.prog.funcs[f]? = some fn) :
  false = Tryz.pinned.checked.prog.looks [] ∧ ∀ (j : Nat) t, fn.params[j]? = some t → Tryz.pinned.checked.prog.wantsStandIn t = false := by
 obtain rfl : f = 5 := Option.some.inj ((show Tryz.prog.funcNamed "lockorder/lockorderlaw03.ParseLimits" = some 5 by kernel_rfl).symm.trans hf) |>.symm
 obtain rfl : fn = Tryz.f5 := (Option.some.inj (Tryz.func5.symm.trans hfn)).symm
 refine ⟨by kernel_rfl, fun j t ht => ?_⟩
 rw [Tryz.params5] at ht
 have hm : t ∈ [3, 3] := by simpa using Array.mem_of_getElem? ht
 have hall : ([3, 3].all fun u => !Tryz.prog.wantsStandIn u) = true := by kernel_rfl
 exact (show Tryz.prog.wantsStandIn t = false by simpa using List.all_eq_true.1 hall t hm)
theorem parseLimits_card : Rows.ParseLimitsCardSaid :=
 Claim7.holds_tied_plain_at .later [] _ _ _ _ parseLimits_said (fun _ h => by cases h) (by kernel_rfl) (fun _ h => by cases h) parseLimits_row_tie rfl ⟨rfl, rfl⟩ (by kernel_rfl) rfl parseLimits_plain (by kernel_rfl)
#print axioms parseLimits_card
end Go.Proofs.YtflcnehhpmjipaaGreatDoor
