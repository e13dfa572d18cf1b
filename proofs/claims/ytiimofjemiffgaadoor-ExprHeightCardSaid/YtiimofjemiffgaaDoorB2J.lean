import Derived.Test.YtiimofjemiffgaaDoorB1J
import Derived.Test.YtiimofjemiffgaaDoorA4J
import Derived.Deep.QuietTactic
import Derived.BigQuiet
import Derived.Deep.RegionHeld3
set_option linter.unusedVariables false
set_option linter.unusedSimpArgs false
namespace Go.Proofs.YtiimofjemiffgaaDoor
open Go.RowKit
theorem digitsL_step (k : Nat) : digitsL k = (if k / 10 = 0 then [] else digitsL (k / 10)) ++ [UInt8.ofNat (48 + k % 10)] := by
 conv => lhs; rw [digitsL]
 by_cases h : k < 10
 ·rw [if_pos h, if_pos (by omega), show k % 10 = k by omega]; rfl
 ·rw [if_neg h, if_neg (by omega)]
theorem digitsL_len (m : Nat) : ∀ n, n < 10 ^ m → 0 < m → (digitsL n).length ≤ m := by
 induction m with
 | zero => intro n _ h; omega
 | succ m ih =>
  intro n hn _
  rw [digitsL_step]
  by_cases h : n / 10 = 0
  ·rw [if_pos h]; simp
  ·rw [if_neg h, List.length_append]
   have h1 : n / 10 < 10 ^ m := by rw [Nat.pow_succ] at hn; omega
   have hm : 0 < m := by
    rcases Nat.eq_zero_or_pos m with rfl | h2
    ·simp at h1; omega
    ·exact h2
   have := ih (n / 10) h1 hm
   simp; omega
theorem digitsL_len20 (n : Nat) (hn : n < 18446744073709551616) : (digitsL n).length ≤ 20 :=
 digitsL_len 20 n (Nat.lt_trans hn (by decide)) (by omega)
theorem conv_one1 (w : World) (c : UInt8) : (convert 45 9 (.slice (some ⟨w.heap.size, 0, none⟩) 1 1)).run Tryd.prog (w.alloc (.cells #[.int .u8 c.toNat] 5)) = .ok (.string (bytes [c])) (w.alloc (.cells #[.int .u8 c.toNat] 5)) :=
 conv_row [c] (some ⟨w.heap.size, 0, none⟩) 1 _ (.inr ⟨w.heap.size, 0, rfl, fun j u hu => by
  have := new_cells w (bcells [c]) 5 j u hu
  have e : (⟨w.heap.size, 0, none⟩ : Addr).add j = ⟨w.heap.size, 0 + j, none⟩ := by unfold Addr.add; split <;> simp_all
  rw [e] at this; exact this⟩)
theorem bytes_append (a b : List UInt8) : bytes a ++ bytes b = bytes (a ++ b) := bytes_ext (by simp [bytes])
theorem bytes_size (a : List UInt8) : (bytes a).size = a.length := by simp [bytes, ByteArray.size]
def dgR (n : Nat) (w : World) (u v : Value) (wr : World) : Prop := ∃ (k : Nat) (t : List UInt8), u = .int .u64 k ∧ v = .string (bytes t) ∧ digitsL n = (if k = 0 then [] else digitsL k) ++ t ∧ k ≤ n ∧ Below w.heap.size w wr
set_option maxRecDepth 100000 in
set_option maxHeartbeats 800000 in
theorem digits_any (n : Nat) (w : World) (hn : n < 18446744073709551616) :
  Calls Tryd.prog 78 #[.int .u64 n] w fun e w' => e = .returned (.string (bytes (digitsL n))) ∧ Below w.heap.size w w' := by
 have hst := digitsL_step n
 have hl20 := digitsL_len20 n hn
 obtain ⟨c, hcd⟩ : ∃ c, c = UInt8.ofNat (48 + n % 10) := ⟨_, rfl⟩
 have hc : (c.toNat : Int) = 48 + (n : Int) % 10 := by rw [hcd, UInt8.toNat_ofNat']; omega
 rw [← hcd] at hst
 have hcv := conv_one1 w c
 rw [hc] at hcv
 have hb0 : (n : Int) ≤ 18446744073709551615 := by omega
 have HL := Lib.hid hl20
 have HST := Lib.hid hst
 clear hc hcd hst hl20 hn
 go_enter Tryd.func78, Tryd.ntmps78
 go_wp2_with fail
 go_loopw [0, 3] (fun u v wr => dgR n w u v wr) (fun u _ _ => (intOf u).toNat)
 case atStart => exact ⟨n / 10, [c], by go_num, rfl, HST.out, by omega, by go_grown⟩
 case round =>
  obtain ⟨k, t, rfl, rfl, hd, hkn, hb⟩ := hrel
  have hsz := hb.size
  have htl : t.length ≤ 20 := by
   have := congrArg List.length hd
   rw [List.length_append] at this
   have := HL.out; omega
  have HD := Lib.hid hd
  clear hd hcv
  by_cases hk : 0 < k
  ·have g1 : (0 : Int) < k := by omega
   obtain ⟨d, hdd⟩ : ∃ d, d = UInt8.ofNat (48 + k % 10) := ⟨_, rfl⟩
   have hdn : (d.toNat : Int) = 48 + (k : Int) % 10 := by rw [hdd, UInt8.toNat_ofNat']; omega
   have hcv := conv_one1 wr d
   rw [hdn] at hcv
   have hadd : ∀ W : World, (Op.stringOp .add (bytes [d]) (bytes t)).run Tryd.prog W = .ok (.string (bytes (d :: t))) W := fun W => by
    rw [run_string_add_sum (P := Tryd.prog) (w := W) _ _ (by rw [bytes_size, bytes_size]; simp; omega), bytes_append]; rfl
   have HDD := Lib.hid hdd
   have hkb : (k : Int) ≤ 18446744073709551615 := by omega
   clear hdn hdd
   go_wp2_with fail
   go_roundw
   case rel =>
    refine ⟨k / 10, d :: t, by go_num, rfl, ?_, by omega, by go_grown⟩
    have h1 := HD.out
    rw [if_neg (by omega), digitsL_step k, ← HDD.out] at h1
    rw [h1]; simp
   case measure => simp [intOf]; omega
  ·have g1 : (k : Int) ≤ 0 := by omega
   have HK := Lib.hid (show k = 0 by omega)
   clear hk
   go_wp2_with fail
   go_ret
   refine ⟨?_, hb⟩
   have h1 := HD.out
   rw [if_pos HK.out] at h1
   rw [h1]; rfl
end Go.Proofs.YtiimofjemiffgaaDoor
namespace Go.Proofs.YtiimofjemiffgaaDoor
open Go.RowKit
theorem digits_z (z : Int) (n : Nat) (w : World) (hz : z = n) (hn : n < 18446744073709551616) :
  Calls Tryd.prog 78 #[.int .u64 z] w fun e w' => e = .returned (.string (bytes (digitsL n))) ∧ Below w.heap.size w w' := by
 subst hz; exact digits_any n w hn
set_option maxRecDepth 100000 in
set_option maxHeartbeats 400000 in
theorem number_ref (n : Int) (w : World) (h1 : -9223372036854775808 ≤ n) (h2 : n ≤ 9223372036854775807) :
  Calls Tryd.prog 53 #[.int .i64 n] w fun e w' => e = .returned (.string (bytes (numberL n))) ∧ Below w.heap.size w w' := by
 obtain ⟨m, hm⟩ : ∃ m, m = n.natAbs := ⟨_, rfl⟩
 have hml : m < 18446744073709551616 := by omega
 have hl := digitsL_len20 m hml
 have hadd : ∀ W : World, (Op.stringOp .add ⟨#[45]⟩ (bytes (digitsL m))).run Tryd.prog W = .ok (.string (bytes (45 :: digitsL m))) W := fun W => by
  rw [run_string_add_sum (P := Tryd.prog) (w := W) _ _ (by rw [bytes_size, show (⟨#[45]⟩ : ByteArray).size = 1 from rfl]; omega)]
  exact congrArg (fun x => Result.ok (Value.string x) W) (bytes_append [45] (digitsL m))
 have HM := Lib.hid hm
 have HML := Lib.hid hml
 clear hm hl hml
 by_cases hn : n < 0
 ·have hnl : numberL n = 45 :: digitsL m := by unfold numberL; rw [if_pos hn, HM.out]
  have HN := Lib.hid hnl
  clear hnl
  go_enter Tryd.func53, Tryd.ntmps53
  go_wp2_with (go_at_call 78; ((with_reducible refine (digits_z _ m _ (by have := HM.out; omega) HML.out).mono ?_); rintro e w1 ⟨rfl, hb⟩))
  go_ret
  exact ⟨by rw [HN.out]; rfl, hb⟩
 ·have hnl : numberL n = digitsL m := by unfold numberL; rw [if_neg hn, HM.out]
  have HN := Lib.hid hnl
  clear hnl
  go_enter Tryd.func53, Tryd.ntmps53
  go_wp2_with (go_at_call 78; ((with_reducible refine (digits_z _ m _ (by have := HM.out; omega) HML.out).mono ?_); rintro e w1 ⟨rfl, hb⟩))
  go_ret
  exact ⟨by rw [HN.out]; rfl, hb⟩
def signsS : Nat → List ByteArray
 | 0 => [⟨#[124, 124]⟩]
 | 1 => [⟨#[38, 38]⟩]
 | 2 => [⟨#[61, 61]⟩, ⟨#[33, 61]⟩, ⟨#[60]⟩, ⟨#[60, 61]⟩, ⟨#[62]⟩, ⟨#[62, 61]⟩]
 | 3 => [⟨#[43]⟩, ⟨#[45]⟩]
 | _ => [⟨#[42]⟩, ⟨#[47]⟩, ⟨#[37]⟩]
def signsO : Nat → List Int
 | 0 => [17]
 | 1 => [16]
 | 2 => [14, 15, 10, 11, 12, 13]
 | 3 => [8, 9]
 | _ => [5, 6, 7]
theorem rowAt_old {w : World} {v : Value} {n : Nat} {cells : List Value} (h : RowAt w v n cells) (o : Obj) : RowAt (w.alloc o) v n cells := h.below ((Below.refl w.heap.size w).alloc (Nat.le_refl _) o) (Nat.le_refl _)
set_option maxRecDepth 100000 in
set_option maxHeartbeats 800000 in
theorem signs_any (k : Nat) (w : World) (hk : k < 5) :
  Calls Tryd.prog 54 #[.int .i64 k] w fun e w' => (∃ v u, e = .returned (.tuple #[v, u]) ∧ RowAt w' v (signsS k).length ((signsS k).map .string) ∧ RowAt w' u (signsO k).length ((signsO k).map (.int .i64))) ∧ Below w.heap.size w w' := by
 have hcases : k = 0 ∨ k = 1 ∨ k = 2 ∨ k = 3 ∨ k = 4 := by omega
 rcases hcases with rfl | rfl | rfl | rfl | rfl
 all_goals
  go_enter Tryd.func54, Tryd.ntmps54
  go_wp2_with fail
  go_ret2
  exact ⟨⟨_, _, rfl, rowAt_old (RowAt.new w _ 9 _) _, RowAt.new_at _ _ 3 _ _ (by simp)⟩, by go_grown⟩
theorem strength_in (k : Nat) (hk : k < 5) (op : Int) (h : op ∈ signsO k) : strengthN op = k := by
 have hcases : k = 0 ∨ k = 1 ∨ k = 2 ∨ k = 3 ∨ k = 4 := by omega
 rcases hcases with rfl | rfl | rfl | rfl | rfl <;> simp only [signsO, List.mem_cons, List.not_mem_nil, or_false] at h
 ·subst h; rfl
 ·subst h; rfl
 ·rcases h with rfl | rfl | rfl | rfl | rfl | rfl <;> rfl
 ·rcases h with rfl | rfl <;> rfl
 ·rcases h with rfl | rfl | rfl <;> rfl
theorem strength_out (op : Int) (h : ∀ k, k < 5 → op ∉ signsO k) : (op = 3 ∨ op = 4 → strengthN op = 5) ∧ (¬ (op = 3 ∨ op = 4) → strengthN op = 6) := by
 have h0 := h 0 (by omega)
 have h1 := h 1 (by omega)
 have h2 := h 2 (by omega)
 have h3 := h 3 (by omega)
 have h4 := h 4 (by omega)
 simp only [signsO, List.mem_cons, List.not_mem_nil, or_false, not_or] at h0 h1 h2 h3 h4
 unfold strengthN
 rw [if_neg h0, if_neg h1, if_neg (by omega), if_neg (by omega), if_neg (by omega)]
 exact ⟨fun h => if_pos h, fun h => if_neg h⟩
def stR (op : Int) (w : World) (v : Value) (wr : World) : Prop := ∃ k : Nat, v = .int .i64 k ∧ k ≤ 5 ∧ (∀ j, j < k → op ∉ signsO j) ∧ Below w.heap.size w wr
def stR2 (op : Int) (k : Nat) (v : Value) : Prop := ∃ i : Nat, v = .int .i64 i ∧ i ≤ (signsO k).length ∧ op ∉ (signsO k).take i
set_option maxRecDepth 100000 in
set_option maxHeartbeats 800000 in
theorem strength_any (op : Int) (w : World) :
  Calls Tryd.prog 42 #[.int .i64 op] w fun e w' => e = .returned (.int .i64 (strengthN op)) ∧ Below w.heap.size w w' := by
 go_enter Tryd.func42, Tryd.ntmps42
 go_wp2_with fail
 go_loopw [3] (fun v wr => stR op w v wr) (fun v _ => 5 - (intOf v).toNat)
 case atStart => exact ⟨0, rfl, by omega, fun j h => absurd h (by omega), Below.refl _ _⟩
 case round =>
  obtain ⟨k, rfl, hk, hno, hb⟩ := hrel
  have HNO := Lib.hid hno
  clear hno
  have hsz := hb.size
  by_cases hlt : k < 5
  ·have g1 : (k : Int) < 5 := by omega
   go_wp2_with (go_at_call 54; ((with_reducible refine (signs_any k _ hlt).mono ?_); rintro e w1 ⟨⟨v, u, rfl, hv, hu⟩, hb1⟩; clear hv; obtain ⟨a, c, rfl, hc, hr⟩ := hu; have HR := Lib.hid hr; clear hr))
   go_hide hQ
   go_loop [6] (fun v => stR2 op k v) (fun v => (signsO k).length - (intOf v).toNat)
   case atStart => exact ⟨0, rfl, by omega, by simp⟩
   case round =>
    obtain ⟨i, rfl, hi, hni⟩ := hrel
    have HNI := Lib.hid hni
    clear hni
    have hll : (signsO k).length ≤ 6 := by
     have hcases : k = 0 ∨ k = 1 ∨ k = 2 ∨ k = 3 ∨ k = 4 := by omega
     rcases hcases with rfl | rfl | rfl | rfl | rfl <;> decide
    by_cases hil : i < (signsO k).length
    ·rcases HR.out with h0 | ⟨b, off, rfl, hr⟩
     ·exfalso; have := congrArg List.length h0; simp at this; rw [this] at hil; simp at hil
     have hcell := hr i (.int .i64 (signsO k)[i]) (by simp [hil])
     clear hr
     by_cases he : (signsO k)[i] = op
     ·have q := strength_in k hlt op (he ▸ List.getElem_mem hil)
      have hq : ((signsO k)[i] == op) = true := by rw [he]; simp
      have Q := Lib.hid q
      clear q he
      go_wp2_with fail
      subst hQ
      go_wp2_with fail
      go_ret
      exact ⟨ret_int (by rw [Q.out]), hb.trans (hb1.mono hsz)⟩
     ·have hq : ((signsO k)[i] == op) = false := by simpa using he
      have HE := Lib.hid he
      clear he
      go_wp2_with fail
      go_round
      case rel => exact ⟨i + 1, by go_num, by omega, by rw [List.take_succ_eq_append_getElem hil]; simp only [List.mem_append, List.mem_singleton, not_or]; exact ⟨HNI.out, fun h => HE.out h.symm⟩⟩
      case measure => simp [intOf]; omega
    ·have hnot : op ∉ signsO k := by have h := HNI.out; rw [List.take_of_length_le (by omega)] at h; exact h
     have hno2 : ∀ j, j < k + 1 → op ∉ signsO j := by
      intro j hj
      rcases Nat.lt_or_ge j k with h | h
      ·exact HNO.out j h
      ·obtain rfl : j = k := by omega
       exact hnot
     have HN2 := Lib.hid hno2
     clear hnot hno2
     go_wp2_with fail
     subst hQ
     go_wp2_with fail
     go_roundw
     case rel => exact ⟨k + 1, by go_num, by omega, HN2.out, hb.trans (hb1.mono hsz)⟩
     case measure => simp [intOf]; omega
  ·have hout := strength_out op (fun j hj => HNO.out j (by omega))
   have HO := Lib.hid hout
   clear hout
   by_cases h3 : op = 3 ∨ op = 4
   ·have hs := HO.out.1 h3
    have HS := Lib.hid hs
    clear hs
    rcases h3 with rfl | rfl
    all_goals
     go_wp2_with fail
     go_ret
     exact ⟨ret_int (by rw [HS.out]; rfl), hb⟩
   ·have hs := HO.out.2 h3
    have HS := Lib.hid hs
    have q3 : (op == 3) = false := by rw [beq_eq_false_iff_ne]; exact fun h => h3 (.inl h)
    have q4 : (op == 4) = false := by rw [beq_eq_false_iff_ne]; exact fun h => h3 (.inr h)
    clear hs h3
    go_wp2_with fail
    go_ret
    exact ⟨ret_int (by rw [HS.out]; rfl), hb⟩
end Go.Proofs.YtiimofjemiffgaaDoor
namespace Go.Proofs.YtiimofjemiffgaaDoor
open Go.RowKit
theorem exprRep_op {w : World} {e : AExpr} {row : List Value} (h : ExprRep w e row) : ∃ v, row = [.int .i64 e.op, .int .i64 e.num, .string e.name, v] ∧ ListRep w (ExprRep w) 4 v e.args := by
 cases e; exact exprRep_iff.1 h
theorem cell_step {a b : World} {p : Addr} {u : Value} (h : a.cell? p = some u) (hb : Below a.heap.size a b) : b.cell? p = some u := by
 rw [hb.cell (cell_lt h)]; exact h
theorem held3 {w a b : World} {p1 p2 p3 : Addr} {u1 u2 u3 : Value} (h : a.cell? p1 = some u1 ∧ a.cell? p2 = some u2 ∧ a.cell? p3 = some u3 ∧ Below w.heap.size w a) (hb : Below a.heap.size a b) :
  b.cell? p1 = some u1 ∧ b.cell? p2 = some u2 ∧ b.cell? p3 = some u3 ∧ Below w.heap.size w b :=
 ⟨cell_step h.1 hb, cell_step h.2.1 hb, cell_step h.2.2.1 hb, Below.step h.2.2.2 hb⟩
set_option maxRecDepth 100000 in
set_option maxHeartbeats 1600000 in
theorem inner_any (op num : Int) (name : ByteArray) (v : Value) (args : List AExpr) (k : Nat) (w : World) (hk : k < args.length) (hv : ListRep w (ExprRep w) 4 v args) (hcap : args.length ≤ 1000000) :
  Calls Tryd.prog 41 #[.agg #[.int .i64 op, .int .i64 num, .string name, v], .int .i64 k] w fun e w' => e = .returned (.bool (innerB op k args[k].op)) ∧ Below w.heap.size w w' := by
 obtain ⟨b, off, cap, row, rfl, hc, hR, _, hblt, hcell⟩ := hv.get (by omega) hk
 obtain ⟨va, rfl, _⟩ := exprRep_op hR
 have h0 := hcell 0 _ rfl
 rw [Nat.add_zero] at h0
 clear hR hcell
 have hkl : (k : Int) < args.length := by omega
 obtain ⟨a, ha⟩ : ∃ a, a = args[k].op := ⟨_, rfl⟩
 rw [← ha] at h0 ⊢
 clear ha
 go_enter Tryd.func41, Tryd.ntmps41
 go_wp2_with fail
 go_region_held3 (fun w' => w'.cell? ⟨w.heap.size, 0, none⟩ = some (.int .i64 op) ∧ w'.cell? ⟨w.heap.size, 3, none⟩ = some (.slice (some ⟨b, off, none⟩) args.length cap) ∧ w'.cell? ⟨b, off + k * 4, none⟩ = some (.int .i64 a) ∧ Below w.heap.size w w') (first | assumption | (exact held3 ‹_› hb) | (refine ⟨?_, ?_, ?_, ?_⟩ <;> first | (go_grown; done) | (go_simp; done))) (first | (go_at_call 42; refine (strength_any _ _).mono ?_; rintro e w1 ⟨rfl, hb⟩))
 have hB := (show _ ∧ _ ∧ _ ∧ Below w.heap.size w _ by assumption).2.2.2
 go_wp2_with fail
 all_goals
  go_ret
  refine ⟨ret_bool ?_, hB⟩
  simp [innerB]
  try omega
def charOk (i : Nat) (c : UInt8) : Bool := isLet c || (decide (i ≠ 0) && isDig c)
theorem nameB_all (s : ByteArray) (h : ∀ j (hj : j < s.size), charOk j s[j] = true) : nameB s = (decide (1 ≤ s.size) && decide (s.size ≤ 16) && !reserved s) := by
 unfold nameB
 have hl : s.size = s.data.toList.length := rfl
 have hall : ∀ j (hj : j < s.data.toList.length), charOk j s.data.toList[j] = true := fun j hj => h j (by rw [hl]; exact hj)
 rw [hl]
 cases hd : s.data.toList with
 | nil => simp
 | cons c r =>
  rw [hd] at hall
  have h0 := hall 0 (by simp)
  have hr : r.all isNam = true := by
   rw [List.all_eq_true]
   intro x hx
   obtain ⟨i, hi, rfl⟩ := List.getElem_of_mem hx
   have := hall (i + 1) (by simpa using hi)
   simpa [charOk, isNam] using this
  have h1 : isLet c = true := by simpa [charOk] using h0
  simp only [h1, hr, Bool.true_and, List.length_cons]
  rw [show decide (1 ≤ r.length + 1) = true by simp, Bool.true_and]
theorem nameB_bad (s : ByteArray) (k : Nat) (hk : k < s.size) (h : charOk k s[k] = false) : nameB s = false := by
 unfold nameB
 have hk' : k < s.data.toList.length := hk
 have h' : charOk k s.data.toList[k] = false := h
 cases hd : s.data.toList with
 | nil => rfl
 | cons c r =>
  simp only [hd] at h' hk'
  cases k with
  | zero =>
   have : isLet c = false := by simpa [charOk] using h'
   simp [this]
  | succ k =>
   have hkr : k < r.length := by simpa using hk'
   have hx : isNam r[k] = false := by simpa [charOk, isNam] using h'
   have : r.all isNam = false := by
    rw [List.all_eq_false]
    exact ⟨r[k], List.getElem_mem _, by simp [hx]⟩
   simp [this]
def nmR (s : ByteArray) (v : Value) : Prop := ∃ k : Nat, v = .int .i64 k ∧ k ≤ s.size ∧ ∀ j (hj : j < s.size), j < k → charOk j s[j] = true
set_option maxRecDepth 100000 in
set_option maxHeartbeats 800000 in
theorem rname_any (s : ByteArray) (w : World) (hs : s.size ≤ 4611686018427387904) :
  Calls Tryd.prog 77 #[.string s] w fun e w' => e = .returned (.bool (nameB s)) ∧ Below w.heap.size w w' := by
 go_enter Tryd.func77, Tryd.ntmps77
 go_wp2_with fail
 go_loop [3] (fun v => nmR s v) (fun v => s.size - (intOf v).toNat)
 case atStart => exact ⟨0, rfl, by omega, fun j _ h => absurd h (by omega)⟩
 case round =>
  obtain ⟨k, rfl, hk, hall⟩ := hrel
  have HA := Lib.hid hall
  clear hall
  by_cases hlt : k < s.size
  ·cases hc : charOk k s[k] with
   | true =>
    have hall2 : ∀ j (hj : j < s.size), j < k + 1 → charOk j s[j] = true := by
     intro j hj h
     rcases Nat.lt_or_ge j k with h1 | h1
     ·exact HA.out j hj h1
     ·obtain rfl : j = k := by omega
      exact hc
    have HA2 := Lib.hid hall2
    have HC := Lib.hid hc
    clear hall2 hc
    go_wp2_with (first | (go_at_call 34; ((with_reducible refine (rletter_any _ _).mono ?_); rintro e w' ⟨rfl, rfl⟩)) | (go_at_call 35; ((with_reducible refine (rdigit_any _ _).mono ?_); rintro e w' ⟨rfl, rfl⟩)))
    all_goals first
     | (go_round; (case rel => exact ⟨k + 1, by go_num, by omega, HA2.out⟩); (case measure => simp [intOf]; omega))
     | (exfalso; have h := HC.out; simp [charOk] at h; simp_all; done)
     | (exfalso; have h := HC.out; simp [charOk] at h; simp_all; omega)
   | false =>
    have hb := nameB_bad s k hlt hc
    have HB := Lib.hid hb
    have HC := Lib.hid hc
    clear hb hc
    go_wp2_with (first | (go_at_call 34; ((with_reducible refine (rletter_any _ _).mono ?_); rintro e w' ⟨rfl, rfl⟩)) | (go_at_call 35; ((with_reducible refine (rdigit_any _ _).mono ?_); rintro e w' ⟨rfl, rfl⟩)))
    all_goals first
     | (go_ret; exact ⟨by rw [HB.out]; rfl, Below.refl _ _⟩)
     | (exfalso; have h := HC.out; simp [charOk] at h; simp_all; done)
     | (exfalso; have h := HC.out; simp [charOk] at h; simp_all; omega)
  ·have hnm := nameB_all s (fun j hj => HA.out j hj (by omega))
   have HN := Lib.hid hnm
   clear hnm
   go_wp2_with (go_at_call 36; ((with_reducible refine (rreserved_any _ _).mono ?_); rintro e w1 ⟨rfl, hb⟩))
   all_goals
    go_ret
    refine ⟨ret_bool ?_, by first | exact hb | exact Below.refl _ _⟩
    rw [HN.out]
    simp_all
    try omega
end Go.Proofs.YtiimofjemiffgaaDoor
namespace Go.Proofs.YtiimofjemiffgaaDoor
open Go.RowKit
section
variable {P : Program} {ops : Array Oper} {Q : Exit → Act → World → Prop} {md : Region.Mode} {S : World → Prop}
theorem held_take (i : Nat) {oi : Oper} {v : Value} {fuel : Nat} {listed : Array Bool} {a : Act} {w : World}
  (hr : (Region.ready md ops listed).contains i = true) (hi : ops.toList[i]? = some oi) (hg : Region.wanted oi (yielded ops a.tmps) = true)
  (hf : Region.free md ops listed i = true) (hs : Region.noSelect ops = true)
  (hQ : ∀ c a w, Q (.panic c) (a.put oi.dst v) w → Q (.panic c) a w) (hy : ∀ w, S w → (execOp a.eval oi).run P w = .ok (.value v) w) (hS : S w)
  (h : wpAnyH P md ops Q S fuel (listed.setIfInBounds i true) (a.put oi.dst v) w) : wpAnyH P md ops Q S (fuel + 1) listed a w :=
 wpAnyH_take (by rw [← Array.getElem?_toList]; exact hi) hs hf hr hQ (Or.inl ⟨hg, hy⟩) hS h
theorem held_skip (i : Nat) {oi : Oper} {fuel : Nat} {listed : Array Bool} {a : Act} {w : World}
  (hr : (Region.ready md ops listed).contains i = true) (hi : ops.toList[i]? = some oi) (hg : Region.wanted oi (yielded ops a.tmps) = false)
  (hf : Region.free md ops listed i = true) (hs : Region.noSelect ops = true)
  (hQ : ∀ c a w, Q (.panic c) (a.put oi.dst undef) w → Q (.panic c) a w) (hS : S w)
  (h : wpAnyH P md ops Q S fuel (listed.setIfInBounds i true) (a.put oi.dst undef) w) : wpAnyH P md ops Q S (fuel + 1) listed a w :=
 wpAnyH_take (by rw [← Array.getElem?_toList]; exact hi) hs hf hr hQ (Or.inr ⟨hg, rfl⟩) hS h
theorem held_one (i : Nat) {o : Oper} {fuel : Nat} {listed : Array Bool} {a : Act} {w : World}
  (hr : Region.ready md ops listed = [i]) (ho : ops.toList[i]? = some o) (hg : Region.wanted o (yielded ops a.tmps) = true)
  (h : ∀ K' : Act → World → Prop, Shut (∀ a w, S w → (S w → wpAnyH P md ops Q S fuel (listed.setIfInBounds i true) a w) → K' a w) → Oper.wp P o a w K' Q) :
  wpAnyH P md ops Q S (fuel + 1) listed a w :=
 wpAnyH_ready hr (by simp) (AllReadyH.cons (by rw [← Array.getElem?_toList]; exact ho) (fun K' hK => by rw [if_pos hg]; exact h K' hK) AllReadyH.nil)
end
theorem below_drewN {n k : Nat} {w w1 : World} (h : Below n w w1) : Below n w (w1.drewN k) := ⟨h.os, h.tape, h.output, h.size, h.block⟩
end Go.Proofs.YtiimofjemiffgaaDoor
