import Derived.Test.YtflcnehhpmjipaaGreatDoorB1J
import Derived.Test.YtflcnehhpmjipaaGreatDoorA4J
import Derived.Deep.QuietTactic
import Derived.BigQuiet
import Derived.Test.YtflcnehhpmjipaaGreatDoorE0J
import Derived.Test.YtflcnehhpmjipaaGreatDoorW5J
import Derived.Test.YtflcnehhpmjipaaGreatDoorA1J
import Derived.Test.YtflcnehhpmjipaaGreatDoorW6J
set_option linter.unusedVariables false
set_option linter.unusedSimpArgs false
namespace Go.Proofs.YtflcnehhpmjipaaGreatDoor
open Go.RowKit
theorem digitsL_step (k : Nat) : digitsL k = (if k / 10 = 0 then [] else digitsL (k / 10)) ++ [UInt8.ofNat (48 + k % 10)] := by
 conv => lhs; rw [digitsL]
 by_cases h : k < 10
 ·rw [if_pos h, if_pos (by omega), show k % 10 = k by omega]; rfl
 ·rw [if_neg h, if_neg (by omega)]
theorem digitsL_len (m : Nat) : ∀ n, n < 10 ^ m → 0 < m → (digitsL n).length ≤ m := by
 induction m with
 | zero => intro n _ h; omega
 | succ m ih =>
  intro n hn _
  rw [digitsL_step]
  by_cases h : n / 10 = 0
  ·rw [if_pos h]; simp
  ·rw [if_neg h, List.length_append]
   have h1 : n / 10 < 10 ^ m := by rw [Nat.pow_succ] at hn; omega
   have hm : 0 < m := by
    rcases Nat.eq_zero_or_pos m with rfl | h2
    ·simp at h1; omega
    ·exact h2
   have := ih (n / 10) h1 hm
   simp; omega
theorem digitsL_len20 (n : Nat) (hn : n < 18446744073709551616) : (digitsL n).length ≤ 20 :=
 digitsL_len 20 n (Nat.lt_trans hn (by decide)) (by omega)
theorem conv_one1 (w : World) (c : UInt8) : (convert 23 9 (.slice (some ⟨w.heap.size, 0, none⟩) 1 1)).run Tryz.prog (w.alloc (.cells #[.int .u8 c.toNat] 5)) = .ok (.string (bytes [c])) (w.alloc (.cells #[.int .u8 c.toNat] 5)) :=
 conv_row [c] (some ⟨w.heap.size, 0, none⟩) 1 _ (.inr ⟨w.heap.size, 0, rfl, fun j u hu => by
  have := new_cells w (bcells [c]) 5 j u hu
  have e : (⟨w.heap.size, 0, none⟩ : Addr).add j = ⟨w.heap.size, 0 + j, none⟩ := by unfold Addr.add; split <;> simp_all
  rw [e] at this; exact this⟩)
theorem bytes_append (a b : List UInt8) : bytes a ++ bytes b = bytes (a ++ b) := bytes_ext (by simp [bytes])
theorem bytes_size (a : List UInt8) : (bytes a).size = a.length := by simp [bytes, ByteArray.size]
def dgR (n : Nat) (w : World) (u v : Value) (wr : World) : Prop := ∃ (k : Nat) (t : List UInt8), u = .int .u64 k ∧ v = .string (bytes t) ∧ digitsL n = (if k = 0 then [] else digitsL k) ++ t ∧ k ≤ n ∧ Below w.heap.size w wr
set_option maxRecDepth 100000 in
set_option maxHeartbeats 800000 in
theorem digits_any (n : Nat) (w : World) (hn : n < 18446744073709551616) :
  Calls Tryz.prog 37 #[.int .u64 n] w fun e w' => e = .returned (.string (bytes (digitsL n))) ∧ Below w.heap.size w w' := by
 have hst := digitsL_step n
 have hl20 := digitsL_len20 n hn
 obtain ⟨c, hcd⟩ : ∃ c, c = UInt8.ofNat (48 + n % 10) := ⟨_, rfl⟩
 have hc : (c.toNat : Int) = 48 + (n : Int) % 10 := by rw [hcd, UInt8.toNat_ofNat']; omega
 rw [← hcd] at hst
 have hcv := conv_one1 w c
 rw [hc] at hcv
 have hb0 : (n : Int) ≤ 18446744073709551615 := by omega
 have HL := Lib.hid hl20
 have HST := Lib.hid hst
 clear hc hcd hst hl20 hn
 go_enter Tryz.func37, Tryz.ntmps37
 go_wp2_with fail
 go_loopw [0, 3] (fun u v wr => dgR n w u v wr) (fun u _ _ => (intOf u).toNat)
 case atStart => exact ⟨n / 10, [c], by go_num, rfl, HST.out, by omega, by go_grown⟩
 case round =>
  obtain ⟨k, t, rfl, rfl, hd, hkn, hb⟩ := hrel
  have hsz := hb.size
  have htl : t.length ≤ 20 := by
   have := congrArg List.length hd
   rw [List.length_append] at this
   have := HL.out; omega
  have HD := Lib.hid hd
  clear hd hcv
  by_cases hk : 0 < k
  ·have g1 : (0 : Int) < k := by omega
   obtain ⟨d, hdd⟩ : ∃ d, d = UInt8.ofNat (48 + k % 10) := ⟨_, rfl⟩
   have hdn : (d.toNat : Int) = 48 + (k : Int) % 10 := by rw [hdd, UInt8.toNat_ofNat']; omega
   have hcv := conv_one1 wr d
   rw [hdn] at hcv
   have hadd : ∀ W : World, (Op.stringOp .add (bytes [d]) (bytes t)).run Tryz.prog W = .ok (.string (bytes (d :: t))) W := fun W => by
    rw [run_string_add_sum (P := Tryz.prog) (w := W) _ _ (by rw [bytes_size, bytes_size]; simp; omega), bytes_append]; rfl
   have HDD := Lib.hid hdd
   have hkb : (k : Int) ≤ 18446744073709551615 := by omega
   clear hdn hdd
   go_wp2_with fail
   go_roundw
   case rel =>
    refine ⟨k / 10, d :: t, by go_num, rfl, ?_, by omega, by go_grown⟩
    have h1 := HD.out
    rw [if_neg (by omega), digitsL_step k, ← HDD.out] at h1
    rw [h1]; simp
   case measure => simp [intOf]; omega
  ·have g1 : (k : Int) ≤ 0 := by omega
   have HK := Lib.hid (show k = 0 by omega)
   clear hk
   go_wp2_with fail
   go_ret
   refine ⟨?_, hb⟩
   have h1 := HD.out
   rw [if_pos HK.out] at h1
   rw [h1]; rfl
end Go.Proofs.YtflcnehhpmjipaaGreatDoor
namespace Go.Proofs.YtflcnehhpmjipaaGreatDoor
open Go.RowKit
theorem digits_z (z : Int) (n : Nat) (w : World) (hz : z = n) (hn : n < 18446744073709551616) :
  Calls Tryz.prog 37 #[.int .u64 z] w fun e w' => e = .returned (.string (bytes (digitsL n))) ∧ Below w.heap.size w w' := by
 subst hz; exact digits_any n w hn
set_option maxRecDepth 100000 in
set_option maxHeartbeats 400000 in
theorem number_ref (n : Int) (w : World) (h1 : -9223372036854775808 ≤ n) (h2 : n ≤ 9223372036854775807) :
  Calls Tryz.prog 18 #[.int .i64 n] w fun e w' => e = .returned (.string (bytes (numberL n))) ∧ Below w.heap.size w w' := by
 obtain ⟨m, hm⟩ : ∃ m, m = n.natAbs := ⟨_, rfl⟩
 have hml : m < 18446744073709551616 := by omega
 have hl := digitsL_len20 m hml
 have hadd : ∀ W : World, (Op.stringOp .add ⟨#[45]⟩ (bytes (digitsL m))).run Tryz.prog W = .ok (.string (bytes (45 :: digitsL m))) W := fun W => by
  rw [run_string_add_sum (P := Tryz.prog) (w := W) _ _ (by rw [bytes_size, show (⟨#[45]⟩ : ByteArray).size = 1 from rfl]; omega)]
  exact congrArg (fun x => Result.ok (Value.string x) W) (bytes_append [45] (digitsL m))
 have HM := Lib.hid hm
 have HML := Lib.hid hml
 clear hm hl hml
 by_cases hn : n < 0
 ·have hnl : numberL n = 45 :: digitsL m := by unfold numberL; rw [if_pos hn, HM.out]
  have HN := Lib.hid hnl
  clear hnl
  go_enter Tryz.func18, Tryz.ntmps18
  go_wp2_with (go_at_call 37; ((with_reducible refine (digits_z _ m _ (by have := HM.out; omega) HML.out).mono ?_); rintro e w1 ⟨rfl, hb⟩))
  go_ret
  exact ⟨by rw [HN.out]; rfl, hb⟩
 ·have hnl : numberL n = digitsL m := by unfold numberL; rw [if_neg hn, HM.out]
  have HN := Lib.hid hnl
  clear hnl
  go_enter Tryz.func18, Tryz.ntmps18
  go_wp2_with (go_at_call 37; ((with_reducible refine (digits_z _ m _ (by have := HM.out; omega) HML.out).mono ?_); rintro e w1 ⟨rfl, hb⟩))
  go_ret
  exact ⟨by rw [HN.out]; rfl, hb⟩
end Go.Proofs.YtflcnehhpmjipaaGreatDoor
namespace Go.Proofs.YtflcnehhpmjipaaGreatDoor
open Go.RowKit
theorem scal_c {P : Program} {F : FuncId} {ts : List AT} {us : List Value} {u : Value} (h1 : u.oneCell' = true) (hts : ts = us.map fun u => .c (.val u)) (h : ∀ w, Calls P F us.toArray w fun e w' => e = .returned u ∧ Below w.heap.size w w') (s : Sto) : ACall P F ts [] s fun r s' => r = .c (.val u) ∧ s' = s := by
 intro vs w hm _ hl hr
 subst hts
 obtain rfl : vs = us := by
  refine List.ext_getElem (by simpa using hl) fun i h1 h2 => ?_
  have h3 := hr i (by simpa using h2) h1
  simp only [List.getElem_map] at h3
  exact h3.val
 exact (h w).mono fun e w' ⟨h2, h3⟩ => by
  obtain ⟨hk, hm'⟩ := below_sto hm h3
  exact ⟨_, _, s, h2, ⟨rfl, rfl⟩, .c _ _ (.val _ h1), hm', hk, fun b hb => .inl hb⟩
theorem ba_app (a b : ByteArray) : (a ++ b).data.toList = a.data.toList ++ b.data.toList := by simp
theorem ba_len (a : ByteArray) : a.size = a.data.toList.length := rfl
theorem ay_remN {P : Program} {U : List Nat} {o : Oper} {st : AS} {E yt : TypeId} {x y : Operand} {m k : Nat} (r : Nat) (ho : o.op = .binOp .rem E x y yt) (hx : evA st x = some (.c (.val (.int .i64 ((m : Nat) : Int))))) (hy : evA st y = some (.c (.val (.int .i64 ((k : Nat) : Int))))) (hk : k ≠ 0) (hr : m % k = r) : AY P U o st (.c (.val (.int .i64 ((r : Nat) : Int)))) := by
 subst hr
 exact ay_div ho hx hy (by omega) rfl
end Go.Proofs.YtflcnehhpmjipaaGreatDoor
namespace Go.Proofs.YtflcnehhpmjipaaGreatDoor
def valL (n : Nat) (l : List UInt8) : Nat := l.foldl (fun n c => 10 * n + (c.toNat - 48)) n
theorem valL_nil (n : Nat) : valL n [] = n := rfl
theorem valL_cons (n : Nat) (c : UInt8) (r : List UInt8) : valL n (c :: r) = valL (10 * n + (c.toNat - 48)) r := by unfold valL; rw [List.foldl_cons]
theorem valL_back (l : List UInt8) (c : UInt8) (n : Nat) : valL n (l ++ [c]) = 10 * valL n l + (c.toNat - 48) := by
 unfold valL; rw [List.foldl_append]; rfl
theorem isDig_of (k : Nat) : isDig (UInt8.ofNat (48 + k % 10)) = true := by
 have hc : (UInt8.ofNat (48 + k % 10)).toNat = 48 + k % 10 := by rw [UInt8.toNat_ofNat']; omega
 simp only [isDig, decide_eq_true_eq, hc]; omega
theorem valL_ge (l : List UInt8) : ∀ n, n ≤ valL n l := by
 induction l with
 | nil => intro n; exact Nat.le_refl _
 | cons c r ih => intro n; have := ih (10 * n + (c.toNat - 48)); rw [valL_cons]; omega
theorem numL_val (l : List UInt8) (h : ∀ c ∈ l, isDig c = true) : ∀ n, n ≤ 9223372036854775807 → numL n l = if valL n l ≤ 9223372036854775807 then some (valL n l) else none := by
 induction l with
 | nil => intro n hn; rw [numL, valL_nil, if_pos hn]
 | cons c r ih =>
  intro n hn
  have hc := h c (List.mem_cons_self ..)
  simp only [isDig, decide_eq_true_eq] at hc
  rw [numL, valL_cons]
  by_cases ho : (9223372036854775807 - (c.toNat - 48)) / 10 < n
  ·rw [if_pos ho]
   have := valL_ge r (10 * n + (c.toNat - 48))
   rw [if_neg (by omega)]
  ·rw [if_neg ho, ih (fun d hd => h d (List.mem_cons_of_mem _ hd)) _ (by omega)]
theorem isDig_not (c : UInt8) (h : isDig c = true) : isLet c = false ∧ isSp c = false ∧ c ≠ 47 := by
 simp only [isDig, decide_eq_true_eq] at h
 refine ⟨?_, ?_, ?_⟩
 ·simp only [isLet, decide_eq_false_iff_not]; omega
 ·simp only [isSp, decide_eq_false_iff_not]; omega
 ·rintro rfl; revert h; decide
end Go.Proofs.YtflcnehhpmjipaaGreatDoor
namespace Go.Proofs.YtflcnehhpmjipaaGreatDoor
open Go.RowKit
set_option synthInstance.maxHeartbeats 1000000
set_option synthInstance.maxSize 1000000
set_option linter.all false
abbrev SSt (A B : List Box) (rw : List ORow) (S : Nat) (l : List Int) (i : Nat) : Sto := ⟨A ++ ⟨S, 34, [.sl l.length (l.map fun i => .val (.int .i64 i)), .val (.int .i64 ((i : Nat) : Int))]⟩ :: B, rw⟩
set_option maxRecDepth 100000 in
set_option maxHeartbeats 1600000 in
theorem cut_c (l : List Int) (n : Nat) (s : Sto) : ACall Tryz.prog 15 [.c (.sl l.length (l.map fun i => .val (.int .i64 i))), .c (.val (.int .i64 ((n : Nat) : Int)))] [] s fun r s' => r = .c (.sl (l.take n).length ((l.take n).map fun i => .val (.int .i64 i))) ∧ s' = s := by
 obtain ⟨bx, rw⟩ := s
 refine acall_body Tryz.func15 rfl (Nat.le_of_ble_eq_true rfl) ?_
 show AWp Tryz.prog _ ⟨13, [], ⟨bx, rw⟩, [(0, .c (.sl l.length (l.map fun i => .val (.int .i64 i)))), (1, .c (.val (.int .i64 ((n : Nat) : Int))))]⟩ _
 refine go 11 ?_
 by_cases hlt : n < l.length
 ·skip
  refine wyy rfl rfl rfl (ay_cmp true rfl rfl rfl (by first | exact cmp_t (by omega) | (simp [cmpR] <;> omega))) ?_
  refine go 7 ?_
  refine wyy rfl rfl rfl (ay_slice_h (h := (l.take n).length) (z := 1) rfl rfl rfl (by rw [List.length_take]; omega) (by rw [List.length_take]; omega) (by kernel_rfl) (by kernel_rfl) Tryz.sizeOf3 (by rw [List.length_take, Nat.min_eq_left (by omega), Nat.mul_one, ← List.map_take])) ?_
  refine go 5 ?_
  exact ⟨.inr rfl, _, ⟨bx, rw⟩, res_one rfl (resv_tmp rfl), subS_of (.refl _) (.refl _), rfl, rfl⟩
 ·rw [List.take_of_length_le (l := l) (i := n) (by omega)]
  refine wyy rfl rfl rfl (ay_cmp false rfl rfl rfl (by first | exact cmp_f (by omega) | (simp [cmpR] <;> omega))) ?_
  refine go 12 ?_
  exact ⟨.inr rfl, _, ⟨bx, rw⟩, res_one rfl (resv_tmp rfl), subS_of (.refl _) (.refl _), rfl, rfl⟩
set_option maxRecDepth 100000 in
set_option maxHeartbeats 1600000 in
theorem next_c (A B : List Box) (rw : List ORow) (S : Nat) (l : List Int) (i0 : Nat) (n : Int) (hi0 : i0 ≤ l.length) (hl : l.length ≤ 1000000) (hn0 : 0 < n) (hn1 : n ≤ 4611686018427387904) : ACall Tryz.prog 16 [.c (.val (.pointer (some ⟨S, 0, none⟩))), .c (.val (.int .i64 n))] [S] (SSt A B rw S l i0) fun r s => ∃ (z : Int) (i : Nat), r = .c (.val (.int .i64 z)) ∧ 0 ≤ z ∧ z < n ∧ i ≤ l.length ∧ s = SSt A B rw S l i := by
 refine acall_body Tryz.func16 rfl (Nat.le_of_ble_eq_true rfl) ?_
 show AWp Tryz.prog _ ⟨35, [S], ⟨A ++ ⟨S, 34, [.sl l.length (l.map fun i => .val (.int .i64 i)), .val (.int .i64 ((i0 : Nat) : Int))]⟩ :: B, rw⟩, [(0, .c (.val (.pointer (some ⟨S, 0, none⟩)))), (1, .c (.val (.int .i64 n)))]⟩ _
 refine go 7 ?_
 refine aw_region_drew [S] (by kernel_rfl) ?_
 refine tks [(0, true), (1, true), (2, true), (3, true), (4, true), (5, true), (6, true), (7, true), (8, true)] 1 (by kernel_rfl) ?_
 refine go 10 ?_
 refine tq 9 (by kernel_rfl) rfl rfl rfl rfl (ay_cmp _ rfl rfl rfl rfl) ?_
 refine any_done (by kernel_rfl) ?_
 refine go 1 ?_
 refine aw_cond rfl (fun hc1 => ?_) (fun hc1 => ?_)
 ·have hge : l.length ≤ i0 := by simpa using hc1
  refine go 7 ?_
  exact ⟨.inr rfl, _, SSt A B rw S l i0, res_one rfl (resv_tmp rfl), subS_of (.refl _) (.refl _), ⟨0, i0, rfl, by omega, hn0, hi0, rfl⟩⟩
 ·have hlt : i0 < l.length := by simpa using hc1
  refine go 8 ?_
  refine wyy rfl rfl rfl (ay_add rfl rfl rfl (by omega) (by omega)) ?_
  refine go 6 ?_
  refine aw_region_drew [S] (by kernel_rfl) ?_
  refine tks [(0, true), (1, true), (2, true), (3, true), (4, true), (5, true), (6, true), (7, true)] 6 (by kernel_rfl) ?_
  refine go 9 ?_
  refine tq 8 (by kernel_rfl) rfl rfl rfl rfl (ay_subR ((i0 : Nat) : Int) rfl rfl rfl (by omega) (by omega) (by omega)) ?_
  refine tq 9 (by kernel_rfl) rfl rfl rfl rfl (ay_ixm (fun i => .val (.int .i64 i)) l i0 rfl rfl rfl rfl hlt Tryz.runUnderlying22 Tryz.sizeOf3) ?_
  refine tks [(10, true), (11, true)] 2 (by kernel_rfl) ?_
  refine go 3 ?_
  refine one 12 (by kernel_rfl) rfl rfl (wcall [] rfl rfl (by decide) Tryz.call12 rfl (within_c _ _ hn0 hn1 _) (fun _ h => by cases h) (fun _ h => by cases h) (fun _ _ h => by cases h) ?_)
  rintro rj sj ⟨rfl, rfl⟩
  refine tks [(13, true)] 0 (by kernel_rfl) ?_
  refine go 2 ?_
  refine any_done (by kernel_rfl) ?_
  refine go 2 ?_
  exact ⟨.inr rfl, _, SSt A B rw S l (i0 + 1), res_one rfl (resv_tmp rfl), subS_of (.refl _) (.refl _), ⟨l[i0] % n, i0 + 1, rfl, Int.emod_nonneg _ (by omega), Int.emod_lt_of_pos _ hn0, hlt, rfl⟩⟩
end Go.Proofs.YtflcnehhpmjipaaGreatDoor
