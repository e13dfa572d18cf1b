import Derived.Test.YtflcnehhpmjipaaGreatDoorW6J
import Derived.Test.YtflcnehhpmjipaaGreatDoorR1J
set_option linter.unusedVariables false
set_option linter.unusedSimpArgs false
namespace Go.Proofs.YtflcnehhpmjipaaGreatDoor
open Go.RowKit
set_option synthInstance.maxHeartbeats 1000000
set_option synthInstance.maxSize 1000000
set_option linter.all false
set_option maxRecDepth 100000 in
set_option maxHeartbeats 1600000 in
theorem ref_c (A B : List Box) (rw : List ORow) (P : Nat) (l : List Tok) (k b e dp : Nat) (hok : TOk l) (hk : k < l.length) (he : e < 16) : ACall Tryz.prog 110 [.c (.val (.pointer (some ⟨P, 0, none⟩)))] [P] (RSt A B rw P l k b e 0 dp) (RAn A B rw P l 0 dp (fun x => .agg (encR x)) e b (refP l k)) := by
 have hlen := hok.len
 refine acall_body Tryz.func110 rfl (Nat.le_of_ble_eq_true rfl) ?_
 show AWp Tryz.prog _ ⟨16, [P], ⟨A ++ ⟨P, 85, [.sl l.length (l.flatMap encT), .val (.int .i64 ((k : Nat) : Int)), .val (.int .i64 ((b : Nat) : Int)), .val (.int .i64 ((e : Nat) : Int)), .val (.int .i64 ((0 : Nat) : Int)), .val (.int .i64 ((dp : Nat) : Int))]⟩ :: B, rw⟩, [(0, .c (.val (.pointer (some ⟨P, 0, none⟩))))]⟩ _
 refine go 8 fun b1 => ?_
 refine wcP rfl rfl rfl rfl Tryz.call62 rfl (name_c (_ :: A) _ _ _ l k b e 0 dp hok hk he) (by simp) (by simp [Sto.bl]) ?_
 rintro t1 s1 ⟨x1, k1, u1, e1, rfl, hr1, hk1, he1, rfl⟩
 refine go 9 fun b2 => ?_
 refine wcP rfl rfl rfl rfl Tryz.call59 rfl (take_s (_ :: _ :: A) _ _ _ l k1 u1 e1 0 dp [91] (by decide) hok hk1) (by simp) (by simp [Sto.bl]) ?_
 rintro t2 s2 (⟨rfl, ha2, hm2, rfl, rfl⟩ | ⟨ha2, rfl, rfl⟩)
 ·refine go 6 ?_
  refine wcP rfl rfl rfl rfl Tryz.call108 rfl (expr_c (_ :: _ :: A) _ _ _ l (k1 + 1) u1 0 dp hok hm2 (by decide)) (by simp) (by simp [Sto.bl]) ?_
  rintro t4 s4 ⟨x4, k4, u4, e4, rfl, hr4, hk4, he4, rfl⟩
  refine wo rfl (wbs Tryz.t88 [.val (.int .i64 0), .val (.int .i64 0), .val (.string ⟨#[]⟩), .val (.slice none 0 0)] rfl rfl (by decide) (.cons rfl .nil) Tryz.underlying86 (by kernel_rfl) rfl (by decide) (by decide) (by kernel_rfl) (by kernel_rfl) (fill_one encE encE1 x4 (encE_one _) rfl rfl) ?_)
  refine go 6 ?_
  refine wcP rfl rfl rfl rfl Tryz.call76 rfl (must_c (_ :: _ :: A) _ _ _ l k4 u4 e4 0 dp [93] (by decide) hok hk4 he4) (by simp) (by simp [Sto.bl]) ?_
  rintro t5 s5 ⟨x5, k5, u5, e5, rfl, hr5, hk5, he5, rfl⟩
  refine go 9 ?_
  exact ⟨.inr rfl, _, (RSt A B rw P l (k5) (u5) (e5) (0) (dp)), (res_one rfl (resv_cell [_] rfl rfl Tryz.isAgg90 Tryz.sizeOf90 (pk_all rfl rfl))), subS_of (.cons _ (.cons _ (.refl _))) (.refl _), ⟨⟨x1, [x4]⟩, k5, u5, e5, rfl, hr1.bind (f := refTail l) ((hr4.bind (f := fun e k => (wantP l [93] k).bind fun _ k => .ok ⟨x1, [e]⟩ k) (hr5.map (f := fun _ => ARef.mk x1 [x4]))).eq fun _ => by unfold refTail; rw [if_pos ha2]), hk5, he5, rfl⟩⟩
 ·refine go 12 ?_
  exact ⟨.inr rfl, _, (RSt A B rw P l (k1) (u1) (e1) (0) (dp)), (res_wk (Wk.agg (.cons (WkC.refl _) (.cons wk_nil .nil))) (res_one rfl (resv_cell [_] rfl rfl Tryz.isAgg90 Tryz.sizeOf90 (pk_all rfl rfl)))), subS_of (.cons _ (.cons _ (.refl _))) (.refl _), ⟨⟨x1, []⟩, k1, u1, e1, rfl, hr1.bind (f := refTail l) ((RRun.pure _ _ _ _).eq fun h => by unfold refTail; rw [if_neg (by rw [ha2 h]; decide)]), hk1, he1, rfl⟩⟩
set_option maxRecDepth 100000 in
set_option maxHeartbeats 1600000 in
theorem args_c (A B : List Box) (rw : List ORow) (P : Nat) (l : List Tok) (k b e dp : Nat) (hok : TOk l) (hk : k < l.length) (he : e < 16) : ACall Tryz.prog 109 [.c (.val (.pointer (some ⟨P, 0, none⟩)))] [P] (RSt A B rw P l k b e 0 dp) (RAn A B rw P l 0 dp (fun x => .c (.sl x.length (x.flatMap encA))) e b (argsP l k)) := by
 have hlen := hok.len
 refine acall_body Tryz.func109 rfl (Nat.le_of_ble_eq_true rfl) ?_
 show AWp Tryz.prog _ ⟨34, [P], ⟨A ++ ⟨P, 85, [.sl l.length (l.flatMap encT), .val (.int .i64 ((k : Nat) : Int)), .val (.int .i64 ((b : Nat) : Int)), .val (.int .i64 ((e : Nat) : Int)), .val (.int .i64 ((0 : Nat) : Int)), .val (.int .i64 ((dp : Nat) : Int))]⟩ :: B, rw⟩, [(0, .c (.val (.pointer (some ⟨P, 0, none⟩))))]⟩ _
 refine go 13 ?_
 refine wcP rfl rfl rfl rfl Tryz.call76 rfl (must_c (A) _ _ _ l k b e 0 dp [40] (by decide) hok hk he) (by simp) (by simp [Sto.bl]) ?_
 rintro t1 s1 ⟨x1, k1, u1, e1, rfl, hr1, hk1, he1, rfl⟩
 refine go 6 ?_
 refine wcP rfl rfl rfl rfl Tryz.call59 rfl (take_s (A) _ _ _ l k1 u1 e1 0 dp [41] (by decide) hok hk1) (by simp) (by simp [Sto.bl]) ?_
 rintro t2 s2 (⟨rfl, ha2, hm2, rfl, rfl⟩ | ⟨ha2, rfl, rfl⟩)
 ·refine go 10 ?_
  exact ⟨.inr rfl, _, (RSt A B rw P l (k1 + 1) (u1) (0) (0) (dp)), (res_wk (Wk.c wk_nil) (res_one rfl (resv_tmp rfl))), subS_of (.refl _) (.refl _), ⟨[], k1 + 1, u1, 0, rfl, hr1.bind (by rw [if_pos ha2]; exact .ok _ _ _ rfl), hm2, (by decide), rfl⟩⟩
 ·refine go 7 ?_
  refine wrow 97 7 ?_
  refine aw_loop (fun g : List AArg × Value × Nat × Nat × Nat => (⟨34, rowB g.2.1 ++ [P], ⟨A ++ ⟨P, 85, [.sl l.length (l.flatMap encT), .val (.int .i64 (((g.2.2.1) : Nat) : Int)), .val (.int .i64 (((g.2.2.2.1) : Nat) : Int)), .val (.int .i64 (((g.2.2.2.2) : Nat) : Int)), .val (.int .i64 ((0 : Nat) : Int)), .val (.int .i64 ((dp : Nat) : Int))]⟩ :: B, ⟨g.2.1, 97, 7, (g.1).length, (g.1).flatMap encA⟩ :: rw⟩, [(3, .c (.val g.2.1)), (0, .c (.val (.pointer (some ⟨P, 0, none⟩))))]⟩ : AS)) (fun g => g.2.2.1 < l.length ∧ g.2.2.2.2 < 16 ∧ g.1.length ≤ g.2.2.1 ∧ (g.2.2.2.2 ≠ 0 → RRun e b (argsP l k) g.1 g.2.2.1 g.2.2.2.1 g.2.2.2.2) ∧ (g.2.2.2.2 = 0 → ∃ n, l.length ≤ n + g.2.2.1 ∧ ∀ z k' b' e', RRun 0 g.2.2.2.1 (listP l (fun _ => argP l) n g.1 g.2.2.1) z k' b' e' → RRun e b (argsP l k) z k' b' e')) (fun g => if g.2.2.2.2 = 0 then l.length - g.2.2.1 + 1 else 0) ([], .slice none 0 0, k1, u1, e1) (subA (.refl _) (.refl _) (fun _ h => h) (sub_cons rfl (Wk.refl _) (sub_cons rfl (Wk.refl _) sub_nil))) ⟨hk1, he1, Nat.zero_le _, fun h => hr1.bind (RRun.skip h _ _ _), fun h => ⟨l.length, Nat.le_add_right _ _, fun z k' b' e' h2 => ?_⟩⟩ ?_
  ·have h : e1 = 0 := h
   refine hr1.bind ?_
   rw [h, if_neg (by rw [ha2 h]; decide)]
   exact h2
  rintro ⟨acc, v0, k0, b0, e0⟩ ⟨hk0, he0, ha0, hn0, hc0⟩
  dsimp only at hk0 he0 ha0 hn0 hc0
  show AWp Tryz.prog _ (⟨34, rowB v0 ++ [P], ⟨A ++ ⟨P, 85, [.sl l.length (l.flatMap encT), .val (.int .i64 (((k0) : Nat) : Int)), .val (.int .i64 (((b0) : Nat) : Int)), .val (.int .i64 (((e0) : Nat) : Int)), .val (.int .i64 ((0 : Nat) : Int)), .val (.int .i64 ((dp : Nat) : Int))]⟩ :: B, ⟨v0, 97, 7, (acc).length, (acc).flatMap encA⟩ :: rw⟩, [(3, .c (.val v0)), (0, .c (.val (.pointer (some ⟨P, 0, none⟩))))]⟩ : AS) _
  by_cases h0 : e0 = 0
  ·subst h0
   obtain ⟨n0, hn1, hcont⟩ := hc0 rfl
   refine go 7 ?_
   refine wyy rfl rfl rfl (ay_cmp true rfl rfl rfl (by rfl)) ?_
   refine go 17 fun b1 => ?_
   refine wcP rfl rfl rfl rfl Tryz.call59 rfl (take_w (_ :: A) _ _ _ l k0 b0 0 0 dp [109, 117, 116, 101, 120] (by decide) hok hk0) (by simp) (by simp [Sto.bl]) ?_
   rintro t6 s6 (⟨-, ha6, hm6, rfl, rfl⟩ | ⟨ha6, rfl, rfl⟩)
   ·refine go 5 ?_
    refine wcP rfl rfl rfl rfl Tryz.call110 rfl (ref_c (_ :: A) _ _ _ l (k0 + 1) b0 0 dp hok hm6 (by decide)) (by simp) (by simp [Sto.bl]) ?_
    rintro t8 s8 ⟨x8, k8, u8, e8, rfl, hr8, hk8, he8, rfl⟩
    refine go 6 ?_
    have hel : RRun 0 b0 (argP l k0) ⟨true, x8, .zero⟩ k8 u8 e8 := (hr8.map (f := fun r => AArg.mk true r .zero)).eq fun _ => by unfold argP; rw [if_pos ha6]
    refine go 2 ?_
    refine wweak 24 rfl (Wk.agg (.cons (WkC.refl _) (.cons (WkC.refl _) (.cons (WkC.refl _) (.cons (WkC.refl _) (.cons (WkC.refl _) (.cons (WkC.refl _) (.cons wk_nil .nil)))))))) ?_
    refine wo rfl (wbs Tryz.t97 [.val (.bool false), .val (.string ⟨#[]⟩), .val (.slice none 0 0), .val (.int .i64 0), .val (.int .i64 0), .val (.string ⟨#[]⟩), .val (.slice none 0 0)] rfl rfl (by decide) (.cons rfl .nil) Tryz.underlying91 (by kernel_rfl) rfl (by decide) (by decide) (by kernel_rfl) (by kernel_rfl) (fill_one encA encA ⟨true, x8, .zero⟩ rfl rfl rfl) ?_)
    refine wo rfl (wap0 Tryz.t97 104 rfl rfl (by decide) rfl rfl Tryz.underlying91 (by kernel_rfl) rfl rfl rfl rfl (by decide) rfl (by decide) (by unfold maxLen; skip; omega) (by skip; omega) (@List.length_append _ acc [⟨true, x8, .zero⟩]).symm (fun _ b hb => by simp [hb]) (fun b hb => by simp [hb]) (List.flatMap_append (f := encA)).symm fun v9 => ?_)
    refine go 6 ?_
    refine wcP rfl rfl rfl rfl Tryz.call59 rfl (take_s (_ :: A) _ _ _ l k8 u8 e8 0 dp [44] (by decide) hok hk8) (by simp) (by simp [Sto.bl]) ?_
    rintro t10 s10 (⟨rfl, ha10, hm10, rfl, rfl⟩ | ⟨ha10, rfl, rfl⟩)
    ·refine go 6 ?_
     obtain ⟨m, rfl⟩ : ∃ m, n0 = m + 1 := ⟨n0 - 1, by omega⟩
     have hin := argP_in hok.last hk0
     rw [(hel.good rfl).2.1] at hin
     have hin1 := hin.1
     refine ⟨(acc ++ [⟨true, x8, .zero⟩], v9, k8 + 1, u8, 0), ⟨hm10, by show (0 : Nat) < 16; decide, by show (acc ++ [_]).length ≤ k8 + 1; simp; omega, fun h => absurd rfl h, fun _ => ⟨m, by show l.length ≤ m + (k8 + 1); omega, fun z k' b' e' h => hcont z k' b' e' ?_⟩⟩, by show (if (0 : Nat) = 0 then _ else _) < (if (0 : Nat) = 0 then _ else _); rw [if_pos rfl, if_pos rfl]; show l.length - (k8 + 1) + 1 < l.length - k0 + 1; omega, subA (.cons _ (.refl _)) (.refl _) (by intro x hx; simp only [List.mem_append, List.mem_cons, List.not_mem_nil, or_false] at hx ⊢; rcases hx with h | h <;> simp [h]) (sub_cons rfl (Wk.refl _) (sub_cons rfl (Wk.refl _) sub_nil))⟩
     rw [listP]
     refine hel.bind ?_
     rw [if_pos ha10]
     exact h
    ·refine go 7 ?_
     refine wcP rfl rfl rfl rfl Tryz.call76 rfl (must_c (_ :: A) _ _ _ l k8 u8 e8 0 dp [41] (by decide) hok hk8 he8) (by simp) (by simp [Sto.bl]) ?_
     rintro t13 s13 ⟨x13, k13, u13, e13, rfl, hr13, hk13, he13, rfl⟩
     refine go 8 ?_
     refine wfrz 2 rfl ?_
     refine go 5 ?_
     obtain ⟨m, rfl⟩ : ∃ m, n0 = m + 1 := ⟨n0 - 1, by omega⟩
     exact ⟨.inr rfl, _, (RSt A B rw P l (k13) (u13) (e13) (0) (dp)), (res_one rfl (resv_tmp rfl)), subS_of (.cons _ (.refl _)) (.refl _), ⟨acc ++ [⟨true, x8, .zero⟩], k13, u13, e13, rfl, hcont _ _ _ _ (by rw [listP]; exact hel.bind ((hr13.map (f := fun _ => acc ++ [⟨true, x8, .zero⟩])).eq fun h => by rw [if_neg (by rw [ha10 h]; decide)])), hk13, he13, rfl⟩⟩
   ·refine go 5 ?_
    refine wcP rfl rfl rfl rfl Tryz.call108 rfl (expr_c (_ :: A) _ _ _ l k0 b0 0 dp hok hk0 he0) (by simp) (by simp [Sto.bl]) ?_
    rintro t15 s15 ⟨x15, k15, u15, e15, rfl, hr15, hk15, he15, rfl⟩
    refine go 6 ?_
    have hel : RRun 0 b0 (argP l k0) ⟨false, .zero, x15⟩ k15 u15 e15 := (hr15.map (f := fun e => AArg.mk false .zero e)).eq fun _ => by unfold argP; rw [if_neg (by rw [ha6 rfl]; decide)]
    refine go 2 ?_
    refine wweak 24 rfl (Wk.agg (.cons (WkC.refl _) (.cons (WkC.refl _) (.cons wk_nil (.cons (WkC.refl _) (.cons (WkC.refl _) (.cons (WkC.refl _) (.cons (WkC.refl _) .nil)))))))) ?_
    refine wo rfl (wbs Tryz.t97 [.val (.bool false), .val (.string ⟨#[]⟩), .val (.slice none 0 0), .val (.int .i64 0), .val (.int .i64 0), .val (.string ⟨#[]⟩), .val (.slice none 0 0)] rfl rfl (by decide) (.cons rfl .nil) Tryz.underlying91 (by kernel_rfl) rfl (by decide) (by decide) (by kernel_rfl) (by kernel_rfl) (fill_one encA encA ⟨false, .zero, x15⟩ rfl rfl rfl) ?_)
    refine wo rfl (wap0 Tryz.t97 104 rfl rfl (by decide) rfl rfl Tryz.underlying91 (by kernel_rfl) rfl rfl rfl rfl (by decide) rfl (by decide) (by unfold maxLen; skip; omega) (by skip; omega) (@List.length_append _ acc [⟨false, .zero, x15⟩]).symm (fun _ b hb => by simp [hb]) (fun b hb => by simp [hb]) (List.flatMap_append (f := encA)).symm fun v16 => ?_)
    refine go 6 ?_
    refine wcP rfl rfl rfl rfl Tryz.call59 rfl (take_s (_ :: A) _ _ _ l k15 u15 e15 0 dp [44] (by decide) hok hk15) (by simp) (by simp [Sto.bl]) ?_
    rintro t17 s17 (⟨rfl, ha17, hm17, rfl, rfl⟩ | ⟨ha17, rfl, rfl⟩)
    ·refine go 6 ?_
     obtain ⟨m, rfl⟩ : ∃ m, n0 = m + 1 := ⟨n0 - 1, by omega⟩
     have hin := argP_in hok.last hk0
     rw [(hel.good rfl).2.1] at hin
     have hin1 := hin.1
     refine ⟨(acc ++ [⟨false, .zero, x15⟩], v16, k15 + 1, u15, 0), ⟨hm17, by show (0 : Nat) < 16; decide, by show (acc ++ [_]).length ≤ k15 + 1; simp; omega, fun h => absurd rfl h, fun _ => ⟨m, by show l.length ≤ m + (k15 + 1); omega, fun z k' b' e' h => hcont z k' b' e' ?_⟩⟩, by show (if (0 : Nat) = 0 then _ else _) < (if (0 : Nat) = 0 then _ else _); rw [if_pos rfl, if_pos rfl]; show l.length - (k15 + 1) + 1 < l.length - k0 + 1; omega, subA (.cons _ (.refl _)) (.refl _) (by intro x hx; simp only [List.mem_append, List.mem_cons, List.not_mem_nil, or_false] at hx ⊢; rcases hx with h | h <;> simp [h]) (sub_cons rfl (Wk.refl _) (sub_cons rfl (Wk.refl _) sub_nil))⟩
     rw [listP]
     refine hel.bind ?_
     rw [if_pos ha17]
     exact h
    ·refine go 7 ?_
     refine wcP rfl rfl rfl rfl Tryz.call76 rfl (must_c (_ :: A) _ _ _ l k15 u15 e15 0 dp [41] (by decide) hok hk15 he15) (by simp) (by simp [Sto.bl]) ?_
     rintro t20 s20 ⟨x20, k20, u20, e20, rfl, hr20, hk20, he20, rfl⟩
     refine go 8 ?_
     refine wfrz 2 rfl ?_
     refine go 5 ?_
     obtain ⟨m, rfl⟩ : ∃ m, n0 = m + 1 := ⟨n0 - 1, by omega⟩
     exact ⟨.inr rfl, _, (RSt A B rw P l (k20) (u20) (e20) (0) (dp)), (res_one rfl (resv_tmp rfl)), subS_of (.cons _ (.refl _)) (.refl _), ⟨acc ++ [⟨false, .zero, x15⟩], k20, u20, e20, rfl, hcont _ _ _ _ (by rw [listP]; exact hel.bind ((hr20.map (f := fun _ => acc ++ [⟨false, .zero, x15⟩])).eq fun h => by rw [if_neg (by rw [ha17 h]; decide)])), hk20, he20, rfl⟩⟩
  ·refine go 7 ?_
   refine wyy rfl rfl rfl (ay_cmp false rfl rfl rfl (eq_nat0 h0)) ?_
   refine go 14 ?_
   refine wfrz 2 rfl ?_
   refine go 1 ?_
   exact ⟨.inr rfl, _, (RSt A B rw P l (k0) (b0) (e0) (0) (dp)), (res_one rfl (resv_tmp rfl)), subS_of (.refl _) (.refl _), ⟨acc, k0, b0, e0, rfl, hn0 h0, hk0, he0, rfl⟩⟩
end Go.Proofs.YtflcnehhpmjipaaGreatDoor
namespace Go.Proofs.YtflcnehhpmjipaaGreatDoor
open Go.RowKit
set_option synthInstance.maxHeartbeats 1000000
set_option synthInstance.maxSize 1000000
set_option linter.all false
theorem named_alt {l : List Tok} {n : ByteArray} {k : Nat} (h : signAt l k [40] = false) : namedTail l n k = (wantP l [61] k).bind fun _ k => (exprP l k).bind fun e k => semi l (.mk 2 n e .zero [] [] []) k := by
 unfold namedTail
 by_cases h2 : signAt l k [61] = true
 ·rw [if_pos h2]; unfold wantP; rw [if_pos h2]; rfl
 ·rw [if_neg h2]
  unfold argsP parensP wantP
  rw [if_neg (by rw [h]; decide), if_neg h2]; rfl
theorem named_args {l : List Tok} {n : ByteArray} {k : Nat} (h : signAt l k [40] = true) : namedTail l n k = (argsP l k).bind fun a k => semi l (.mk 3 n .zero .zero a [] []) k := by
 unfold namedTail
 rw [if_neg]
 intro h2
 have h3 := (signAt_kind h).2
 rw [(signAt_kind h2).2] at h3
 revert h3; decide
set_option maxRecDepth 100000 in
set_option maxHeartbeats 1600000 in
theorem stmt_c (A B : List Box) (rw : List ORow) (P : Nat) (l : List Tok) (k b e dp : Nat) (blk : Nat → PRes (List AStmt)) (hok : TOk l) (hk : k < l.length) (he : e < 16) (hblk : ∀ (A B : List Box) (rw : List ORow) (P k b e : Nat), k < l.length → e < 16 → ACall Tryz.prog 46 [.c (.val (.pointer (some ⟨P, 0, none⟩)))] [P] (RSt A B rw P l k b e 0 dp) (RAn A B rw P l 0 dp (fun x => .c (.sl x.length (x.flatMap encS))) e b (blk k))) : ACall Tryz.prog 77 [.c (.val (.pointer (some ⟨P, 0, none⟩)))] [P] (RSt A B rw P l k b e 0 dp) (RAn A B rw P l 0 dp (fun x => .agg (encS1 x)) e b (stmtP l blk k)) := by
 have hlen := hok.len
 refine acall_body Tryz.func77 rfl (Nat.le_of_ble_eq_true rfl) ?_
 show AWp Tryz.prog _ ⟨98, [P], ⟨A ++ ⟨P, 85, [.sl l.length (l.flatMap encT), .val (.int .i64 ((k : Nat) : Int)), .val (.int .i64 ((b : Nat) : Int)), .val (.int .i64 ((e : Nat) : Int)), .val (.int .i64 ((0 : Nat) : Int)), .val (.int .i64 ((dp : Nat) : Int))]⟩ :: B, rw⟩, [(0, .c (.val (.pointer (some ⟨P, 0, none⟩))))]⟩ _
 refine go 17 fun b1 b2 => ?_
 refine wcP rfl rfl rfl rfl Tryz.call59 rfl (take_w (_ :: _ :: A) _ _ _ l k b e 0 dp [118, 97, 114] (by decide) hok hk) (by simp) (by simp [Sto.bl]) ?_
 rintro t1 s1 (⟨rfl, ha1, hm1, rfl, rfl⟩ | ⟨ha1, rfl, rfl⟩)
 ·refine go 7 ?_
  refine wcP rfl rfl rfl rfl Tryz.call62 rfl (name_c (_ :: _ :: A) _ _ _ l (k + 1) b 0 0 dp hok hm1 (by decide)) (by simp) (by simp [Sto.bl]) ?_
  rintro t3 s3 ⟨x3, k3, u3, e3, rfl, hr3, hk3, he3, rfl⟩
  refine go 9 ?_
  refine wcP rfl rfl rfl rfl Tryz.call76 rfl (must_c (_ :: _ :: A) _ _ _ l k3 u3 e3 0 dp [61] (by decide) hok hk3 he3) (by simp) (by simp [Sto.bl]) ?_
  rintro t4 s4 ⟨x4, k4, u4, e4, rfl, hr4, hk4, he4, rfl⟩
  refine go 5 ?_
  refine wcP rfl rfl rfl rfl Tryz.call108 rfl (expr_c (_ :: _ :: A) _ _ _ l k4 u4 e4 dp hok hk4 he4) (by simp) (by simp [Sto.bl]) ?_
  rintro t5 s5 ⟨x5, k5, u5, e5, rfl, hr5, hk5, he5, rfl⟩
  refine go 6 ?_
  refine wcP rfl rfl rfl rfl Tryz.call76 rfl (must_c (_ :: _ :: A) _ _ _ l k5 u5 e5 0 dp [59] (by decide) hok hk5 he5) (by simp) (by simp [Sto.bl]) ?_
  rintro t6 s6 ⟨x6, k6, u6, e6, rfl, hr6, hk6, he6, rfl⟩
  refine go 10 ?_
  have hs : RRun 0 b (localP l (k + 1)) (.mk 1 x3 x5 .zero [] [] []) k6 u6 e6 := by
   unfold localP semi
   exact hr3.bind (hr4.bind (hr5.bind (hr6.bind (RRun.pure _ _ _ _))))
  exact ⟨.inr rfl, _, (RSt A B rw P l (k6) (u6) (e6) (0) (dp)), (res_wk (Wk.agg (.cons (WkC.refl _) (.cons (WkC.refl _) (.cons (WkC.refl _) (.cons (WkC.refl _) (.cons (WkC.refl _) (.cons (WkC.refl _) (.cons (WkC.refl _) (.cons wk_nil (.cons wk_nil (.cons wk_nil (.cons wk_nil .nil)))))))))))) (res_one rfl (resv_cell [_] rfl rfl Tryz.isAgg93 Tryz.sizeOf93 (pk_all rfl rfl)))), subS_of (.cons _ (.cons _ (.refl _))) (.refl _), ⟨(.mk 1 x3 x5 .zero [] [] []), k6, u6, e6, rfl, hs.eq (fun _ => by unfold stmtP; rw [if_pos ha1]), hk6, he6, rfl⟩⟩
 ·refine go 7 ?_
  refine wcP rfl rfl rfl rfl Tryz.call59 rfl (take_w (_ :: _ :: A) _ _ _ l k b e 0 dp [103, 111] (by decide) hok hk) (by simp) (by simp [Sto.bl]) ?_
  rintro t8 s8 (⟨rfl, ha8, hm8, rfl, rfl⟩ | ⟨ha8, rfl, rfl⟩)
  ·refine go 7 ?_
   refine wcP rfl rfl rfl rfl Tryz.call62 rfl (name_c (_ :: _ :: A) _ _ _ l (k + 1) b 0 0 dp hok hm8 (by decide)) (by simp) (by simp [Sto.bl]) ?_
   rintro t10 s10 ⟨x10, k10, u10, e10, rfl, hr10, hk10, he10, rfl⟩
   refine go 9 ?_
   refine wcP rfl rfl rfl rfl Tryz.call109 rfl (args_c (_ :: _ :: A) _ _ _ l k10 u10 e10 dp hok hk10 he10) (by simp) (by simp [Sto.bl]) ?_
   rintro t11 s11 ⟨x11, k11, u11, e11, rfl, hr11, hk11, he11, rfl⟩
   refine go 6 ?_
   refine wcP rfl rfl rfl rfl Tryz.call76 rfl (must_c (_ :: _ :: A) _ _ _ l k11 u11 e11 0 dp [59] (by decide) hok hk11 he11) (by simp) (by simp [Sto.bl]) ?_
   rintro t12 s12 ⟨x12, k12, u12, e12, rfl, hr12, hk12, he12, rfl⟩
   refine go 10 ?_
   have hs : RRun 0 b (goP l (k + 1)) (.mk 4 x10 .zero .zero x11 [] []) k12 u12 e12 := by
    unfold goP semi
    exact hr10.bind (hr11.bind (hr12.bind (RRun.pure _ _ _ _)))
   exact ⟨.inr rfl, _, (RSt A B rw P l (k12) (u12) (e12) (0) (dp)), (res_wk (Wk.agg (.cons (WkC.refl _) (.cons (WkC.refl _) (.cons (WkC.refl _) (.cons (WkC.refl _) (.cons (WkC.refl _) (.cons wk_nil (.cons (WkC.refl _) (.cons wk_nil (.cons (WkC.refl _) (.cons wk_nil (.cons wk_nil .nil)))))))))))) (res_one rfl (resv_cell [_] rfl rfl Tryz.isAgg93 Tryz.sizeOf93 (pk_all rfl rfl)))), subS_of (.cons _ (.cons _ (.refl _))) (.refl _), ⟨(.mk 4 x10 .zero .zero x11 [] []), k12, u12, e12, rfl, hs.eq (fun _ => by unfold stmtP; rw [if_neg (by rw [ha1 rfl]; decide), if_pos ha8]), hk12, he12, rfl⟩⟩
  ·refine go 7 ?_
   refine wcP rfl rfl rfl rfl Tryz.call59 rfl (take_w (_ :: _ :: A) _ _ _ l k b e 0 dp [108, 111, 99, 107] (by decide) hok hk) (by simp) (by simp [Sto.bl]) ?_
   rintro t14 s14 (⟨rfl, ha14, hm14, rfl, rfl⟩ | ⟨ha14, rfl, rfl⟩)
   ·refine go 7 ?_
    refine wcP rfl rfl rfl rfl Tryz.call110 rfl (ref_c (_ :: _ :: A) _ _ _ l (k + 1) b 0 dp hok hm14 (by decide)) (by simp) (by simp [Sto.bl]) ?_
    rintro t16 s16 ⟨x16, k16, u16, e16, rfl, hr16, hk16, he16, rfl⟩
    refine go 8 ?_
    refine wcP rfl rfl rfl rfl Tryz.call76 rfl (must_c (_ :: _ :: A) _ _ _ l k16 u16 e16 0 dp [59] (by decide) hok hk16 he16) (by simp) (by simp [Sto.bl]) ?_
    rintro t17 s17 ⟨x17, k17, u17, e17, rfl, hr17, hk17, he17, rfl⟩
    refine go 10 ?_
    have hs : RRun 0 b (lockP l 5 (k + 1)) (.mk 5 emptyB .zero x16 [] [] []) k17 u17 e17 := by
     unfold lockP semi
     exact hr16.bind (hr17.bind (RRun.pure _ _ _ _))
    exact ⟨.inr rfl, _, (RSt A B rw P l (k17) (u17) (e17) (0) (dp)), (res_wk (Wk.agg (.cons (WkC.refl _) (.cons (WkC.refl _) (.cons (WkC.refl _) (.cons (WkC.refl _) (.cons (WkC.refl _) (.cons wk_nil (.cons (WkC.refl _) (.cons (WkC.refl _) (.cons wk_nil (.cons wk_nil (.cons wk_nil .nil)))))))))))) (res_one rfl (resv_cell [_] rfl rfl Tryz.isAgg93 Tryz.sizeOf93 (pk_all rfl rfl)))), subS_of (.cons _ (.cons _ (.refl _))) (.refl _), ⟨(.mk 5 emptyB .zero x16 [] [] []), k17, u17, e17, rfl, hs.eq (fun _ => by unfold stmtP; rw [if_neg (by rw [ha1 rfl]; decide), if_neg (by rw [ha8 rfl]; decide), if_pos ha14]), hk17, he17, rfl⟩⟩
   ·refine go 7 ?_
    refine wcP rfl rfl rfl rfl Tryz.call59 rfl (take_w (_ :: _ :: A) _ _ _ l k b e 0 dp [117, 110, 108, 111, 99, 107] (by decide) hok hk) (by simp) (by simp [Sto.bl]) ?_
    rintro t19 s19 (⟨rfl, ha19, hm19, rfl, rfl⟩ | ⟨ha19, rfl, rfl⟩)
    ·refine go 7 ?_
     refine wcP rfl rfl rfl rfl Tryz.call110 rfl (ref_c (_ :: _ :: A) _ _ _ l (k + 1) b 0 dp hok hm19 (by decide)) (by simp) (by simp [Sto.bl]) ?_
     rintro t21 s21 ⟨x21, k21, u21, e21, rfl, hr21, hk21, he21, rfl⟩
     refine go 8 ?_
     refine wcP rfl rfl rfl rfl Tryz.call76 rfl (must_c (_ :: _ :: A) _ _ _ l k21 u21 e21 0 dp [59] (by decide) hok hk21 he21) (by simp) (by simp [Sto.bl]) ?_
     rintro t22 s22 ⟨x22, k22, u22, e22, rfl, hr22, hk22, he22, rfl⟩
     refine go 10 ?_
     have hs : RRun 0 b (lockP l 6 (k + 1)) (.mk 6 emptyB .zero x21 [] [] []) k22 u22 e22 := by
      unfold lockP semi
      exact hr21.bind (hr22.bind (RRun.pure _ _ _ _))
     exact ⟨.inr rfl, _, (RSt A B rw P l (k22) (u22) (e22) (0) (dp)), (res_wk (Wk.agg (.cons (WkC.refl _) (.cons (WkC.refl _) (.cons (WkC.refl _) (.cons (WkC.refl _) (.cons (WkC.refl _) (.cons wk_nil (.cons (WkC.refl _) (.cons (WkC.refl _) (.cons wk_nil (.cons wk_nil (.cons wk_nil .nil)))))))))))) (res_one rfl (resv_cell [_] rfl rfl Tryz.isAgg93 Tryz.sizeOf93 (pk_all rfl rfl)))), subS_of (.cons _ (.cons _ (.refl _))) (.refl _), ⟨(.mk 6 emptyB .zero x21 [] [] []), k22, u22, e22, rfl, hs.eq (fun _ => by unfold stmtP; rw [if_neg (by rw [ha1 rfl]; decide), if_neg (by rw [ha8 rfl]; decide), if_neg (by rw [ha14 rfl]; decide), if_pos ha19]), hk22, he22, rfl⟩⟩
    ·refine go 7 ?_
     refine wcP rfl rfl rfl rfl Tryz.call59 rfl (take_w (_ :: _ :: A) _ _ _ l k b e 0 dp [105, 102] (by decide) hok hk) (by simp) (by simp [Sto.bl]) ?_
     rintro t24 s24 (⟨rfl, ha24, hm24, rfl, rfl⟩ | ⟨ha24, rfl, rfl⟩)
     ·refine go 7 ?_
      refine wcP rfl rfl rfl rfl Tryz.call108 rfl (expr_c (_ :: _ :: A) _ _ _ l (k + 1) b 0 dp hok hm24 (by decide)) (by simp) (by simp [Sto.bl]) ?_
      rintro t26 s26 ⟨x26, k26, u26, e26, rfl, hr26, hk26, he26, rfl⟩
      refine go 9 ?_
      refine wcP rfl rfl rfl rfl Tryz.call46 rfl (hblk (_ :: _ :: A) _ _ _ k26 u26 e26 hk26 he26) (by simp) (by simp [Sto.bl]) ?_
      rintro t27 s27 ⟨x27, k27, u27, e27, rfl, hr27, hk27, he27, rfl⟩
      refine go 7 ?_
      refine wcP rfl rfl rfl rfl Tryz.call59 rfl (take_w (_ :: _ :: A) _ _ _ l k27 u27 e27 0 dp [101, 108, 115, 101] (by decide) hok hk27) (by simp) (by simp [Sto.bl]) ?_
      rintro t28 s28 (⟨rfl, ha28, hm28, rfl, rfl⟩ | ⟨ha28, rfl, rfl⟩)
      ·refine go 5 ?_
       refine wcP rfl rfl rfl rfl Tryz.call46 rfl (hblk (_ :: _ :: A) _ _ _ (k27 + 1) u27 0 hm28 (by decide)) (by simp) (by simp [Sto.bl]) ?_
       rintro t30 s30 ⟨x30, k30, u30, e30, rfl, hr30, hk30, he30, rfl⟩
       refine go 12 ?_
       have hs : RRun 0 b (ifP l blk (k + 1)) (.mk 7 emptyB x26 .zero [] x27 x30) k30 u30 e30 := by
        unfold ifP
        exact hr26.bind (hr27.bind (by unfold elseP; rw [if_pos ha28]; exact hr30.map (f := fun f => AStmt.mk 7 emptyB x26 .zero [] x27 f)))
       exact ⟨.inr rfl, _, (RSt A B rw P l (k30) (u30) (e30) (0) (dp)), (res_wk (Wk.agg (.cons (WkC.refl _) (.cons (WkC.refl _) (.cons (WkC.refl _) (.cons (WkC.refl _) (.cons (WkC.refl _) (.cons (WkC.refl _) (.cons (WkC.refl _) (.cons wk_nil (.cons wk_nil (.cons (WkC.refl _) (.cons (WkC.refl _) .nil)))))))))))) (res_one rfl (resv_cell [_] rfl rfl Tryz.isAgg93 Tryz.sizeOf93 (pk_all rfl rfl)))), subS_of (.cons _ (.cons _ (.refl _))) (.refl _), ⟨(.mk 7 emptyB x26 .zero [] x27 x30), k30, u30, e30, rfl, hs.eq (fun _ => by unfold stmtP; rw [if_neg (by rw [ha1 rfl]; decide), if_neg (by rw [ha8 rfl]; decide), if_neg (by rw [ha14 rfl]; decide), if_neg (by rw [ha19 rfl]; decide), if_pos ha24]), hk30, he30, rfl⟩⟩
      ·refine go 13 ?_
       have hs : RRun 0 b (ifP l blk (k + 1)) (.mk 7 emptyB x26 .zero [] x27 []) k27 u27 e27 := by
        unfold ifP
        exact hr26.bind (hr27.bind ((RRun.pure _ _ _ _).eq fun h => by unfold elseP; rw [if_neg (by rw [ha28 h]; decide)]))
       exact ⟨.inr rfl, _, (RSt A B rw P l (k27) (u27) (e27) (0) (dp)), (res_wk (Wk.agg (.cons (WkC.refl _) (.cons (WkC.refl _) (.cons (WkC.refl _) (.cons (WkC.refl _) (.cons (WkC.refl _) (.cons (WkC.refl _) (.cons (WkC.refl _) (.cons wk_nil (.cons wk_nil (.cons (WkC.refl _) (.cons wk_nil .nil)))))))))))) (res_one rfl (resv_cell [_] rfl rfl Tryz.isAgg93 Tryz.sizeOf93 (pk_all rfl rfl)))), subS_of (.cons _ (.cons _ (.refl _))) (.refl _), ⟨(.mk 7 emptyB x26 .zero [] x27 []), k27, u27, e27, rfl, hs.eq (fun _ => by unfold stmtP; rw [if_neg (by rw [ha1 rfl]; decide), if_neg (by rw [ha8 rfl]; decide), if_neg (by rw [ha14 rfl]; decide), if_neg (by rw [ha19 rfl]; decide), if_pos ha24]), hk27, he27, rfl⟩⟩
     ·refine go 7 ?_
      refine wcP rfl rfl rfl rfl Tryz.call59 rfl (take_w (_ :: _ :: A) _ _ _ l k b e 0 dp [119, 104, 105, 108, 101] (by decide) hok hk) (by simp) (by simp [Sto.bl]) ?_
      rintro t33 s33 (⟨rfl, ha33, hm33, rfl, rfl⟩ | ⟨ha33, rfl, rfl⟩)
      ·refine go 7 ?_
       refine wcP rfl rfl rfl rfl Tryz.call108 rfl (expr_c (_ :: _ :: A) _ _ _ l (k + 1) b 0 dp hok hm33 (by decide)) (by simp) (by simp [Sto.bl]) ?_
       rintro t35 s35 ⟨x35, k35, u35, e35, rfl, hr35, hk35, he35, rfl⟩
       refine go 8 ?_
       refine wcP rfl rfl rfl rfl Tryz.call46 rfl (hblk (_ :: _ :: A) _ _ _ k35 u35 e35 hk35 he35) (by simp) (by simp [Sto.bl]) ?_
       rintro t36 s36 ⟨x36, k36, u36, e36, rfl, hr36, hk36, he36, rfl⟩
       refine go 12 ?_
       have hs : RRun 0 b (whileP l blk (k + 1)) (.mk 8 emptyB x35 .zero [] x36 []) k36 u36 e36 := by
        unfold whileP
        exact hr35.bind (hr36.bind (RRun.pure _ _ _ _))
       exact ⟨.inr rfl, _, (RSt A B rw P l (k36) (u36) (e36) (0) (dp)), (res_wk (Wk.agg (.cons (WkC.refl _) (.cons (WkC.refl _) (.cons (WkC.refl _) (.cons (WkC.refl _) (.cons (WkC.refl _) (.cons (WkC.refl _) (.cons (WkC.refl _) (.cons wk_nil (.cons wk_nil (.cons (WkC.refl _) (.cons wk_nil .nil)))))))))))) (res_one rfl (resv_cell [_] rfl rfl Tryz.isAgg93 Tryz.sizeOf93 (pk_all rfl rfl)))), subS_of (.cons _ (.cons _ (.refl _))) (.refl _), ⟨(.mk 8 emptyB x35 .zero [] x36 []), k36, u36, e36, rfl, hs.eq (fun _ => by unfold stmtP; rw [if_neg (by rw [ha1 rfl]; decide), if_neg (by rw [ha8 rfl]; decide), if_neg (by rw [ha14 rfl]; decide), if_neg (by rw [ha19 rfl]; decide), if_neg (by rw [ha24 rfl]; decide), if_pos ha33]), hk36, he36, rfl⟩⟩
      ·refine go 7 ?_
       refine wcP rfl rfl rfl rfl Tryz.call59 rfl (take_w (_ :: _ :: A) _ _ _ l k b e 0 dp [114, 101, 116, 117, 114, 110] (by decide) hok hk) (by simp) (by simp [Sto.bl]) ?_
       rintro t38 s38 (⟨rfl, ha38, hm38, rfl, rfl⟩ | ⟨ha38, rfl, rfl⟩)
       ·refine go 12 ?_
        refine wcP rfl rfl rfl rfl Tryz.call76 rfl (must_c (_ :: _ :: A) _ _ _ l (k + 1) b 0 0 dp [59] (by decide) hok hm38 (by decide)) (by simp) (by simp [Sto.bl]) ?_
        rintro t40 s40 ⟨x40, k40, u40, e40, rfl, hr40, hk40, he40, rfl⟩
        refine go 10 ?_
        have hs : RRun 0 b (retP l (k + 1)) (.mk 9 emptyB .zero .zero [] [] []) k40 u40 e40 := by
         unfold retP semi
         exact hr40.bind (RRun.pure _ _ _ _)
        exact ⟨.inr rfl, _, (RSt A B rw P l (k40) (u40) (e40) (0) (dp)), (res_wk (Wk.agg (.cons (WkC.refl _) (.cons (WkC.refl _) (.cons (WkC.refl _) (.cons (WkC.refl _) (.cons (WkC.refl _) (.cons wk_nil (.cons (WkC.refl _) (.cons wk_nil (.cons wk_nil (.cons wk_nil (.cons wk_nil .nil)))))))))))) (res_one rfl (resv_cell [_] rfl rfl Tryz.isAgg93 Tryz.sizeOf93 (pk_all rfl rfl)))), subS_of (.cons _ (.cons _ (.refl _))) (.refl _), ⟨(.mk 9 emptyB .zero .zero [] [] []), k40, u40, e40, rfl, hs.eq (fun _ => by unfold stmtP; rw [if_neg (by rw [ha1 rfl]; decide), if_neg (by rw [ha8 rfl]; decide), if_neg (by rw [ha14 rfl]; decide), if_neg (by rw [ha19 rfl]; decide), if_neg (by rw [ha24 rfl]; decide), if_neg (by rw [ha33 rfl]; decide), if_pos ha38]), hk40, he40, rfl⟩⟩
       ·refine go 7 ?_
        refine wcP rfl rfl rfl rfl Tryz.call62 rfl (name_c (_ :: _ :: A) _ _ _ l k b e 0 dp hok hk he) (by simp) (by simp [Sto.bl]) ?_
        rintro t42 s42 ⟨x42, k42, u42, e42, rfl, hr42, hk42, he42, rfl⟩
        refine go 10 ?_
        refine wcP rfl rfl rfl rfl Tryz.call57 rfl (isd_s (_ :: _ :: A) _ _ _ l k42 u42 e42 0 dp [40] (by decide) hok hk42) (by simp) (by simp [Sto.bl]) ?_
        rintro t43 s43 (⟨rfl, ha43, rfl, rfl⟩ | ⟨ha43, rfl, rfl⟩)
        ·refine go 5 ?_
         refine wcP rfl rfl rfl rfl Tryz.call109 rfl (args_c (_ :: _ :: A) _ _ _ l k42 u42 0 dp hok hk42 (by decide)) (by simp) (by simp [Sto.bl]) ?_
         rintro t45 s45 ⟨x45, k45, u45, e45, rfl, hr45, hk45, he45, rfl⟩
         refine go 8 ?_
         refine wcP rfl rfl rfl rfl Tryz.call76 rfl (must_c (_ :: _ :: A) _ _ _ l k45 u45 e45 0 dp [59] (by decide) hok hk45 he45) (by simp) (by simp [Sto.bl]) ?_
         rintro t46 s46 ⟨x46, k46, u46, e46, rfl, hr46, hk46, he46, rfl⟩
         refine go 10 ?_
         have hs : RRun e b (namedP l k) (.mk 3 x42 .zero .zero x45 [] []) k46 u46 e46 := by
          unfold namedP
          exact hr42.bind (by rw [named_args ha43]; unfold semi; exact hr45.bind (hr46.bind (RRun.pure _ _ _ _)))
         exact ⟨.inr rfl, _, (RSt A B rw P l (k46) (u46) (e46) (0) (dp)), (res_wk (Wk.agg (.cons (WkC.refl _) (.cons (WkC.refl _) (.cons (WkC.refl _) (.cons (WkC.refl _) (.cons (WkC.refl _) (.cons wk_nil (.cons (WkC.refl _) (.cons wk_nil (.cons (WkC.refl _) (.cons wk_nil (.cons wk_nil .nil)))))))))))) (res_one rfl (resv_cell [_] rfl rfl Tryz.isAgg93 Tryz.sizeOf93 (pk_all rfl rfl)))), subS_of (.cons _ (.cons _ (.refl _))) (.refl _), ⟨(.mk 3 x42 .zero .zero x45 [] []), k46, u46, e46, rfl, hs.eq (fun h => by unfold stmtP; rw [if_neg (by rw [ha1 h]; decide), if_neg (by rw [ha8 h]; decide), if_neg (by rw [ha14 h]; decide), if_neg (by rw [ha19 h]; decide), if_neg (by rw [ha24 h]; decide), if_neg (by rw [ha33 h]; decide), if_neg (by rw [ha38 h]; decide)]), hk46, he46, rfl⟩⟩
        ·refine go 6 ?_
         refine wcP rfl rfl rfl rfl Tryz.call76 rfl (must_c (_ :: _ :: A) _ _ _ l k42 u42 e42 0 dp [61] (by decide) hok hk42 he42) (by simp) (by simp [Sto.bl]) ?_
         rintro t48 s48 ⟨x48, k48, u48, e48, rfl, hr48, hk48, he48, rfl⟩
         refine go 4 ?_
         refine wcP rfl rfl rfl rfl Tryz.call108 rfl (expr_c (_ :: _ :: A) _ _ _ l k48 u48 e48 dp hok hk48 he48) (by simp) (by simp [Sto.bl]) ?_
         rintro t49 s49 ⟨x49, k49, u49, e49, rfl, hr49, hk49, he49, rfl⟩
         refine go 6 ?_
         refine wcP rfl rfl rfl rfl Tryz.call76 rfl (must_c (_ :: _ :: A) _ _ _ l k49 u49 e49 0 dp [59] (by decide) hok hk49 he49) (by simp) (by simp [Sto.bl]) ?_
         rintro t50 s50 ⟨x50, k50, u50, e50, rfl, hr50, hk50, he50, rfl⟩
         refine go 10 ?_
         have hs : RRun e b (namedP l k) (.mk 2 x42 x49 .zero [] [] []) k50 u50 e50 := by
          unfold namedP
          exact hr42.bind (RRun.eq (r := (wantP l [61] _).bind fun _ k => (exprP l k).bind fun e k => semi l (.mk 2 x42 e .zero [] [] []) k) (by unfold semi; exact hr48.bind (hr49.bind (hr50.bind (RRun.pure _ _ _ _)))) fun h => (named_alt (ha43 h)).symm)
         exact ⟨.inr rfl, _, (RSt A B rw P l (k50) (u50) (e50) (0) (dp)), (res_wk (Wk.agg (.cons (WkC.refl _) (.cons (WkC.refl _) (.cons (WkC.refl _) (.cons (WkC.refl _) (.cons (WkC.refl _) (.cons (WkC.refl _) (.cons (WkC.refl _) (.cons wk_nil (.cons wk_nil (.cons wk_nil (.cons wk_nil .nil)))))))))))) (res_one rfl (resv_cell [_] rfl rfl Tryz.isAgg93 Tryz.sizeOf93 (pk_all rfl rfl)))), subS_of (.cons _ (.cons _ (.refl _))) (.refl _), ⟨(.mk 2 x42 x49 .zero [] [] []), k50, u50, e50, rfl, hs.eq (fun h => by unfold stmtP; rw [if_neg (by rw [ha1 h]; decide), if_neg (by rw [ha8 h]; decide), if_neg (by rw [ha14 h]; decide), if_neg (by rw [ha19 h]; decide), if_neg (by rw [ha24 h]; decide), if_neg (by rw [ha33 h]; decide), if_neg (by rw [ha38 h]; decide)]), hk50, he50, rfl⟩⟩
end Go.Proofs.YtflcnehhpmjipaaGreatDoor
namespace Go.Proofs.YtflcnehhpmjipaaGreatDoor
open Go.RowKit
set_option synthInstance.maxHeartbeats 1000000
set_option synthInstance.maxSize 1000000
set_option linter.all false
set_option maxRecDepth 100000 in
set_option maxHeartbeats 1600000 in
theorem block_0 (A B : List Box) (rw : List ORow) (P : Nat) (l : List Tok) (k b e : Nat) (hok : TOk l) (hk : k < l.length) (he : e < 16) : ACall Tryz.prog 46 [.c (.val (.pointer (some ⟨P, 0, none⟩)))] [P] (RSt A B rw P l k b e 0 24) (RAn A B rw P l 0 24 (fun x => .c (.sl x.length (x.flatMap encS))) e b (blockP l 0 k)) := by
 have hlen := hok.len
 refine acall_body Tryz.func46 rfl (Nat.le_of_ble_eq_true rfl) ?_
 show AWp Tryz.prog _ ⟨47, [P], ⟨A ++ ⟨P, 85, [.sl l.length (l.flatMap encT), .val (.int .i64 ((k : Nat) : Int)), .val (.int .i64 ((b : Nat) : Int)), .val (.int .i64 ((e : Nat) : Int)), .val (.int .i64 ((0 : Nat) : Int)), .val (.int .i64 ((24 : Nat) : Int))]⟩ :: B, rw⟩, [(0, .c (.val (.pointer (some ⟨P, 0, none⟩))))]⟩ _
 refine go 9 ?_
 refine wcP rfl rfl rfl rfl Tryz.call57 rfl (isd_s (A) _ _ _ l k b e 0 24 [123] (by decide) hok hk) (by simp) (by simp [Sto.bl]) ?_
 rintro t1 s1 (⟨rfl, ha1, rfl, rfl⟩ | ⟨ha1, rfl, rfl⟩)
 ·refine go 5 ?_
  refine wyy rfl rfl rfl (ay_cmp true rfl rfl rfl (by rfl)) ?_
  refine go 6 ?_
  refine wcP rfl rfl rfl rfl Tryz.call58 rfl (fail_c (A) _ _ _ l k b 0 0 24 3) (by simp) (by simp [Sto.bl]) ?_
  rintro t3 s3 ⟨u3, e3, hf3, rfl, rfl⟩
  obtain ⟨rfl, rfl⟩ := hf3.1 rfl
  refine go 5 ?_
  refine wcP rfl rfl rfl rfl Tryz.call76 rfl (must_c (A) _ _ _ l k k 3 0 24 [123] (by decide) hok hk (by decide)) (by simp) (by simp [Sto.bl]) ?_
  rintro t4 s4 ⟨x4, k4, u4, e4, rfl, hr4, hk4, he4, rfl⟩
  refine go 8 ?_
  refine wyy rfl rfl rfl (ay_add rfl rfl rfl (by omega) (by omega)) ?_
  refine go 12 ?_
  have hbad : e4 ≠ 0 ∧ RRun 0 b (blockP l 0 k) [] k4 u4 e4 := by
   rcases hr4 with ⟨_, rfl, rfl⟩ | ⟨h, _⟩
   ·exact ⟨by decide, .err _ _ _ _ _ (by unfold blockP; rw [if_pos ha1]) (by decide)⟩
   ·exact absurd h (by decide)
  refine wrow 93 11 ?_
  refine aw_loop (fun g : List AStmt × Value × Nat × Nat × Nat => (⟨47, rowB g.2.1 ++ [P], ⟨A ++ ⟨P, 85, [.sl l.length (l.flatMap encT), .val (.int .i64 (((g.2.2.1) : Nat) : Int)), .val (.int .i64 (((g.2.2.2.1) : Nat) : Int)), .val (.int .i64 (((g.2.2.2.2) : Nat) : Int)), .val (.int .i64 ((0 : Nat) : Int)), .val (.int .i64 (((25) : Nat) : Int))]⟩ :: B, ⟨g.2.1, 93, 11, (g.1).length, (g.1).flatMap encS⟩ :: rw⟩, [(3, .c (.val g.2.1)), (0, .c (.val (.pointer (some ⟨P, 0, none⟩))))]⟩ : AS)) (fun g => g.2.2.1 < l.length ∧ g.2.2.2.2 < 16 ∧ g.2.2.2.2 ≠ 0 ∧ RRun 0 b (blockP l 0 k) g.1 g.2.2.1 g.2.2.2.1 g.2.2.2.2) (fun g => if g.2.2.2.2 = 0 then l.length - g.2.2.1 + 1 else 0) ([], .slice none 0 0, k4, u4, e4) (subA (.refl _) (.refl _) (fun _ h => h) (sub_cons rfl (Wk.refl _) (sub_cons rfl (Wk.refl _) sub_nil))) ⟨hk4, he4, hbad.1, hbad.2⟩ ?_
  rintro ⟨acc, v0, k0, b0, e0⟩ ⟨hk0, he0, hz0, hn0⟩
  dsimp only at hk0 he0 hz0 hn0
  show AWp Tryz.prog _ (⟨47, rowB v0 ++ [P], ⟨A ++ ⟨P, 85, [.sl l.length (l.flatMap encT), .val (.int .i64 (((k0) : Nat) : Int)), .val (.int .i64 (((b0) : Nat) : Int)), .val (.int .i64 (((e0) : Nat) : Int)), .val (.int .i64 ((0 : Nat) : Int)), .val (.int .i64 (((25) : Nat) : Int))]⟩ :: B, ⟨v0, 93, 11, (acc).length, (acc).flatMap encS⟩ :: rw⟩, [(3, .c (.val v0)), (0, .c (.val (.pointer (some ⟨P, 0, none⟩))))]⟩ : AS) _
  have h0 := hz0
  refine go 7 ?_
  refine wyy rfl rfl rfl (ay_cmp false rfl rfl rfl (eq_nat0 h0)) ?_
  refine go 19 ?_
  refine wyy rfl rfl rfl (ay_subR ((24 : Nat) : Int) rfl rfl rfl rfl (by omega) (by omega)) ?_
  refine go 11 ?_
  refine wfrz 2 rfl ?_
  refine go 1 ?_
  exact ⟨.inr rfl, _, (RSt A B rw P l (k0) (b0) (e0) (0) (24)), (res_one rfl (resv_tmp rfl)), subS_of (.refl _) (.refl _), ⟨acc, k0, b0, e0, rfl, hn0, hk0, he0, rfl⟩⟩
 ·refine go 15 ?_
  refine wcP rfl rfl rfl rfl Tryz.call76 rfl (must_c (A) _ _ _ l k b e 0 24 [123] (by decide) hok hk he) (by simp) (by simp [Sto.bl]) ?_
  rintro t7 s7 ⟨x7, k7, u7, e7, rfl, hr7, hk7, he7, rfl⟩
  refine go 8 ?_
  refine wyy rfl rfl rfl (ay_add rfl rfl rfl (by omega) (by omega)) ?_
  refine go 12 ?_
  have hbad : e7 ≠ 0 ∧ RRun e b (blockP l 0 k) [] k7 u7 e7 := by
   rcases hr7 with ⟨h, rfl, rfl⟩ | ⟨h, h2⟩
   ·exact ⟨h, .skip h _ _ _⟩
   ·subst h
    have hq := ha1 rfl
    have h9 : wantP l [123] k = .err k 4 := by unfold wantP; rw [if_neg (by rw [hq]; decide)]
    rw [h9] at h2
    rcases h2 with ⟨h2, _, _⟩ | ⟨h2, h3⟩
    ·cases h2
    ·cases h2; exact ⟨h3, .err _ _ _ _ _ (by unfold blockP; rw [if_neg (by rw [hq]; decide)]) h3⟩
  refine wrow 93 11 ?_
  refine aw_loop (fun g : List AStmt × Value × Nat × Nat × Nat => (⟨47, rowB g.2.1 ++ [P], ⟨A ++ ⟨P, 85, [.sl l.length (l.flatMap encT), .val (.int .i64 (((g.2.2.1) : Nat) : Int)), .val (.int .i64 (((g.2.2.2.1) : Nat) : Int)), .val (.int .i64 (((g.2.2.2.2) : Nat) : Int)), .val (.int .i64 ((0 : Nat) : Int)), .val (.int .i64 (((25) : Nat) : Int))]⟩ :: B, ⟨g.2.1, 93, 11, (g.1).length, (g.1).flatMap encS⟩ :: rw⟩, [(3, .c (.val g.2.1)), (0, .c (.val (.pointer (some ⟨P, 0, none⟩))))]⟩ : AS)) (fun g => g.2.2.1 < l.length ∧ g.2.2.2.2 < 16 ∧ g.2.2.2.2 ≠ 0 ∧ RRun e b (blockP l 0 k) g.1 g.2.2.1 g.2.2.2.1 g.2.2.2.2) (fun g => if g.2.2.2.2 = 0 then l.length - g.2.2.1 + 1 else 0) ([], .slice none 0 0, k7, u7, e7) (subA (.refl _) (.refl _) (fun _ h => h) (sub_cons rfl (Wk.refl _) (sub_cons rfl (Wk.refl _) sub_nil))) ⟨hk7, he7, hbad.1, hbad.2⟩ ?_
  rintro ⟨acc, v0, k0, b0, e0⟩ ⟨hk0, he0, hz0, hn0⟩
  dsimp only at hk0 he0 hz0 hn0
  show AWp Tryz.prog _ (⟨47, rowB v0 ++ [P], ⟨A ++ ⟨P, 85, [.sl l.length (l.flatMap encT), .val (.int .i64 (((k0) : Nat) : Int)), .val (.int .i64 (((b0) : Nat) : Int)), .val (.int .i64 (((e0) : Nat) : Int)), .val (.int .i64 ((0 : Nat) : Int)), .val (.int .i64 (((25) : Nat) : Int))]⟩ :: B, ⟨v0, 93, 11, (acc).length, (acc).flatMap encS⟩ :: rw⟩, [(3, .c (.val v0)), (0, .c (.val (.pointer (some ⟨P, 0, none⟩))))]⟩ : AS) _
  have h0 := hz0
  refine go 7 ?_
  refine wyy rfl rfl rfl (ay_cmp false rfl rfl rfl (eq_nat0 h0)) ?_
  refine go 19 ?_
  refine wyy rfl rfl rfl (ay_subR ((24 : Nat) : Int) rfl rfl rfl rfl (by omega) (by omega)) ?_
  refine go 11 ?_
  refine wfrz 2 rfl ?_
  refine go 1 ?_
  exact ⟨.inr rfl, _, (RSt A B rw P l (k0) (b0) (e0) (0) (24)), (res_one rfl (resv_tmp rfl)), subS_of (.refl _) (.refl _), ⟨acc, k0, b0, e0, rfl, hn0, hk0, he0, rfl⟩⟩
set_option maxRecDepth 100000 in
set_option maxHeartbeats 1600000 in
theorem block_s (A B : List Box) (rw : List ORow) (P : Nat) (l : List Tok) (k b e dp : Nat) (st : Nat → PRes AStmt) (hdp : dp < 24) (hin : ∀ k, k < l.length → (st k).In l k) (hstm : ∀ (A B : List Box) (rw : List ORow) (P k b e : Nat), k < l.length → e < 16 → ACall Tryz.prog 77 [.c (.val (.pointer (some ⟨P, 0, none⟩)))] [P] (RSt A B rw P l k b e 0 (dp + 1)) (RAn A B rw P l 0 (dp + 1) (fun x => .agg (encS1 x)) e b (st k))) (hok : TOk l) (hk : k < l.length) (he : e < 16) : ACall Tryz.prog 46 [.c (.val (.pointer (some ⟨P, 0, none⟩)))] [P] (RSt A B rw P l k b e 0 dp) (RAn A B rw P l 0 dp (fun x => .c (.sl x.length (x.flatMap encS))) e b ((wantP l [123] k).bind fun _ k => stmtsP l st l.length [] k)) := by
 have hlen := hok.len
 refine acall_body Tryz.func46 rfl (Nat.le_of_ble_eq_true rfl) ?_
 show AWp Tryz.prog _ ⟨47, [P], ⟨A ++ ⟨P, 85, [.sl l.length (l.flatMap encT), .val (.int .i64 ((k : Nat) : Int)), .val (.int .i64 ((b : Nat) : Int)), .val (.int .i64 ((e : Nat) : Int)), .val (.int .i64 ((0 : Nat) : Int)), .val (.int .i64 ((dp : Nat) : Int))]⟩ :: B, rw⟩, [(0, .c (.val (.pointer (some ⟨P, 0, none⟩))))]⟩ _
 refine go 9 ?_
 refine wcP rfl rfl rfl rfl Tryz.call57 rfl (isd_s (A) _ _ _ l k b e 0 dp [123] (by decide) hok hk) (by simp) (by simp [Sto.bl]) ?_
 rintro t1 s1 (⟨rfl, ha1, rfl, rfl⟩ | ⟨ha1, rfl, rfl⟩)
 ·refine go 5 ?_
  refine wyy rfl rfl rfl (ay_cmp false rfl rfl rfl (by rw [show cmpR .eql ((dp : Nat) : Int) 24 = some (decide (dp = 24)) from cmp_nat (n := 24), decide_eq_false (by omega)])) ?_
  refine go 9 ?_
  refine wcP rfl rfl rfl rfl Tryz.call76 rfl (must_c (A) _ _ _ l k b 0 0 dp [123] (by decide) hok hk (by decide)) (by simp) (by simp [Sto.bl]) ?_
  rintro t3 s3 ⟨x3, k3, u3, e3, rfl, hr3, hk3, he3, rfl⟩
  refine go 8 ?_
  refine wyy rfl rfl rfl (ay_add rfl rfl rfl (by omega) (by omega)) ?_
  refine go 12 ?_
  refine wrow 93 11 ?_
  refine aw_loop (fun g : List AStmt × Value × Nat × Nat × Nat => (⟨47, rowB g.2.1 ++ [P], ⟨A ++ ⟨P, 85, [.sl l.length (l.flatMap encT), .val (.int .i64 (((g.2.2.1) : Nat) : Int)), .val (.int .i64 (((g.2.2.2.1) : Nat) : Int)), .val (.int .i64 (((g.2.2.2.2) : Nat) : Int)), .val (.int .i64 ((0 : Nat) : Int)), .val (.int .i64 (((dp + 1) : Nat) : Int))]⟩ :: B, ⟨g.2.1, 93, 11, (g.1).length, (g.1).flatMap encS⟩ :: rw⟩, [(3, .c (.val g.2.1)), (0, .c (.val (.pointer (some ⟨P, 0, none⟩))))]⟩ : AS)) (fun g => g.2.2.1 < l.length ∧ g.2.2.2.2 < 16 ∧ (g.2.2.2.2 = 0 → g.1.length ≤ g.2.2.1) ∧ (g.2.2.2.2 ≠ 0 → RRun 0 b ((wantP l [123] k).bind fun _ k => stmtsP l st l.length [] k) g.1 g.2.2.1 g.2.2.2.1 g.2.2.2.2) ∧ (g.2.2.2.2 = 0 → ∃ n, l.length ≤ n + g.2.2.1 ∧ ∀ z k' b' e', RRun 0 g.2.2.2.1 (stmtsP l st n g.1 g.2.2.1) z k' b' e' → RRun 0 b ((wantP l [123] k).bind fun _ k => stmtsP l st l.length [] k) z k' b' e')) (fun g => if g.2.2.2.2 = 0 then l.length - g.2.2.1 + 1 else 0) ([], .slice none 0 0, k3, u3, e3) (subA (.refl _) (.refl _) (fun _ h => h) (sub_cons rfl (Wk.refl _) (sub_cons rfl (Wk.refl _) sub_nil))) ⟨hk3, he3, fun _ => Nat.zero_le _, fun h => hr3.bind (RRun.skip h _ _ _), fun h => ⟨l.length, Nat.le_add_right _ _, fun z k' b' e' h2 => hr3.bind (by rw [show e3 = 0 from h]; exact h2)⟩⟩ ?_
  rintro ⟨acc, v0, k0, b0, e0⟩ ⟨hk0, he0, ha0, hn0, hc0⟩
  dsimp only at hk0 he0 ha0 hn0 hc0
  show AWp Tryz.prog _ (⟨47, rowB v0 ++ [P], ⟨A ++ ⟨P, 85, [.sl l.length (l.flatMap encT), .val (.int .i64 (((k0) : Nat) : Int)), .val (.int .i64 (((b0) : Nat) : Int)), .val (.int .i64 (((e0) : Nat) : Int)), .val (.int .i64 ((0 : Nat) : Int)), .val (.int .i64 (((dp + 1) : Nat) : Int))]⟩ :: B, ⟨v0, 93, 11, (acc).length, (acc).flatMap encS⟩ :: rw⟩, [(3, .c (.val v0)), (0, .c (.val (.pointer (some ⟨P, 0, none⟩))))]⟩ : AS) _
  by_cases h0 : e0 = 0
  ·subst h0
   have ha1 := ha0 rfl
   obtain ⟨n0, hn1, hcont⟩ := hc0 rfl
   refine go 7 ?_
   refine wyy rfl rfl rfl (ay_cmp true rfl rfl rfl (by rfl)) ?_
   refine go 2 ?_
   refine wcP rfl rfl rfl rfl Tryz.call59 rfl (take_s (A) _ _ _ l k0 b0 0 0 (dp + 1) [125] (by decide) hok hk0) (by simp) (by simp [Sto.bl]) ?_
   rintro t4 s4 (⟨-, ha4, hm4, rfl, rfl⟩ | ⟨ha4, rfl, rfl⟩)
   ·refine go 16 ?_
    refine wyy rfl rfl rfl (ay_subR ((dp : Nat) : Int) rfl rfl rfl (by omega) (by omega) (by omega)) ?_
    refine go 11 ?_
    refine wfrz 2 rfl ?_
    refine go 1 ?_
    obtain ⟨m, rfl⟩ : ∃ m, n0 = m + 1 := ⟨n0 - 1, by omega⟩
    exact ⟨.inr rfl, _, (RSt A B rw P l (k0 + 1) (b0) (0) (0) (dp)), (res_one rfl (resv_tmp rfl)), subS_of (.refl _) (.refl _), ⟨acc, k0 + 1, b0, 0, rfl, hcont _ _ _ _ (by rw [stmtsP, if_pos ha4]; exact .ok _ _ _ rfl), hm4, (by decide), rfl⟩⟩
   ·refine go 11 ?_
    refine wcP rfl rfl rfl rfl Tryz.call77 rfl (hstm (A) _ _ _ k0 b0 0 hk0 he0) (by simp) (by simp [Sto.bl]) ?_
    rintro t7 s7 ⟨x7, k7, u7, e7, rfl, hr7, hk7, he7, rfl⟩
    refine wo rfl (wbs Tryz.t93 [.val (.int .i64 0), .val (.string ⟨#[]⟩), .val (.int .i64 0), .val (.int .i64 0), .val (.string ⟨#[]⟩), .val (.slice none 0 0), .val (.string ⟨#[]⟩), .val (.slice none 0 0), .val (.slice none 0 0), .val (.slice none 0 0), .val (.slice none 0 0)] rfl rfl (by decide) (.cons rfl .nil) Tryz.underlying50 (by kernel_rfl) rfl (by decide) (by decide) (by kernel_rfl) (by kernel_rfl) (fill_one encS encS1 x7 (encS_one _) rfl rfl) ?_)
    refine wo rfl (wap0 Tryz.t93 192 rfl rfl (by decide) rfl rfl Tryz.underlying50 (by kernel_rfl) rfl rfl rfl rfl (by decide) (by rw [List.flatMap_cons, List.flatMap_nil, List.append_nil, encS_len]) (by decide) (by unfold maxLen; skip; omega) (by skip; omega) (@List.length_append _ acc [x7]).symm (fun _ b hb => by simp [hb]) (fun b hb => by simp [hb]) (List.flatMap_append (f := encS)).symm fun v8 => ?_)
    refine go 3 ?_
    obtain ⟨m, rfl⟩ : ∃ m, n0 = m + 1 := ⟨n0 - 1, by omega⟩
    have hst : ∀ z k' b' e', RRun e7 u7 (stmtsP l st m (acc ++ [x7]) k7) z k' b' e' → RRun 0 b ((wantP l [123] k).bind fun _ k => stmtsP l st l.length [] k) z k' b' e' := fun z k' b' e' h => hcont z k' b' e' (by rw [stmtsP, if_neg (by rw [ha4 rfl]; decide)]; exact hr7.bind h)
    have hgo : e7 = 0 → k0 < k7 := fun h => by have h9 := hin k0 hk0; rw [(hr7.good h).2.1] at h9; exact h9.1
    refine ⟨(acc ++ [x7], v8, k7, u7, e7), ⟨hk7, he7, fun h => ?_, fun h => hst _ _ _ _ (.skip h _ _ _), fun h => ⟨m, ?_, fun z k' b' e' h2 => hst _ _ _ _ ?_⟩⟩, ?_, subA (.refl _) (.refl _) (by intro x hx; simp only [List.mem_append, List.mem_cons, List.not_mem_nil, or_false] at hx ⊢; rcases hx with h | h <;> simp [h]) (sub_cons rfl (Wk.refl _) (sub_cons rfl (Wk.refl _) sub_nil))⟩
    ·have := hgo h; show (acc ++ [_]).length ≤ k7; simp; omega
    ·have := hgo h; show l.length ≤ m + k7; omega
    ·rw [show e7 = 0 from h]; exact h2
    ·show (if e7 = 0 then _ else _) < (if (0 : Nat) = 0 then _ else _)
     by_cases h : e7 = 0
     ·have := hgo h; rw [if_pos h, if_pos rfl]; show l.length - k7 + 1 < l.length - k0 + 1; omega
     ·rw [if_neg h, if_pos rfl]; show 0 < l.length - k0 + 1; omega
  ·refine go 7 ?_
   refine wyy rfl rfl rfl (ay_cmp false rfl rfl rfl (eq_nat0 h0)) ?_
   refine go 19 ?_
   refine wyy rfl rfl rfl (ay_subR ((dp : Nat) : Int) rfl rfl rfl (by omega) (by omega) (by omega)) ?_
   refine go 11 ?_
   refine wfrz 2 rfl ?_
   refine go 1 ?_
   exact ⟨.inr rfl, _, (RSt A B rw P l (k0) (b0) (e0) (0) (dp)), (res_one rfl (resv_tmp rfl)), subS_of (.refl _) (.refl _), ⟨acc, k0, b0, e0, rfl, hn0 h0, hk0, he0, rfl⟩⟩
 ·refine go 15 ?_
  refine wcP rfl rfl rfl rfl Tryz.call76 rfl (must_c (A) _ _ _ l k b e 0 dp [123] (by decide) hok hk he) (by simp) (by simp [Sto.bl]) ?_
  rintro t11 s11 ⟨x11, k11, u11, e11, rfl, hr11, hk11, he11, rfl⟩
  refine go 8 ?_
  refine wyy rfl rfl rfl (ay_add rfl rfl rfl (by omega) (by omega)) ?_
  refine go 12 ?_
  refine wrow 93 11 ?_
  refine aw_loop (fun g : List AStmt × Value × Nat × Nat × Nat => (⟨47, rowB g.2.1 ++ [P], ⟨A ++ ⟨P, 85, [.sl l.length (l.flatMap encT), .val (.int .i64 (((g.2.2.1) : Nat) : Int)), .val (.int .i64 (((g.2.2.2.1) : Nat) : Int)), .val (.int .i64 (((g.2.2.2.2) : Nat) : Int)), .val (.int .i64 ((0 : Nat) : Int)), .val (.int .i64 (((dp + 1) : Nat) : Int))]⟩ :: B, ⟨g.2.1, 93, 11, (g.1).length, (g.1).flatMap encS⟩ :: rw⟩, [(3, .c (.val g.2.1)), (0, .c (.val (.pointer (some ⟨P, 0, none⟩))))]⟩ : AS)) (fun g => g.2.2.1 < l.length ∧ g.2.2.2.2 < 16 ∧ (g.2.2.2.2 = 0 → g.1.length ≤ g.2.2.1) ∧ (g.2.2.2.2 ≠ 0 → RRun e b ((wantP l [123] k).bind fun _ k => stmtsP l st l.length [] k) g.1 g.2.2.1 g.2.2.2.1 g.2.2.2.2) ∧ (g.2.2.2.2 = 0 → ∃ n, l.length ≤ n + g.2.2.1 ∧ ∀ z k' b' e', RRun 0 g.2.2.2.1 (stmtsP l st n g.1 g.2.2.1) z k' b' e' → RRun e b ((wantP l [123] k).bind fun _ k => stmtsP l st l.length [] k) z k' b' e')) (fun g => if g.2.2.2.2 = 0 then l.length - g.2.2.1 + 1 else 0) ([], .slice none 0 0, k11, u11, e11) (subA (.refl _) (.refl _) (fun _ h => h) (sub_cons rfl (Wk.refl _) (sub_cons rfl (Wk.refl _) sub_nil))) ⟨hk11, he11, fun _ => Nat.zero_le _, fun h => hr11.bind (RRun.skip h _ _ _), fun h => ⟨l.length, Nat.le_add_right _ _, fun z k' b' e' h2 => hr11.bind (by rw [show e11 = 0 from h]; exact h2)⟩⟩ ?_
  rintro ⟨acc, v0, k0, b0, e0⟩ ⟨hk0, he0, ha0, hn0, hc0⟩
  dsimp only at hk0 he0 ha0 hn0 hc0
  show AWp Tryz.prog _ (⟨47, rowB v0 ++ [P], ⟨A ++ ⟨P, 85, [.sl l.length (l.flatMap encT), .val (.int .i64 (((k0) : Nat) : Int)), .val (.int .i64 (((b0) : Nat) : Int)), .val (.int .i64 (((e0) : Nat) : Int)), .val (.int .i64 ((0 : Nat) : Int)), .val (.int .i64 (((dp + 1) : Nat) : Int))]⟩ :: B, ⟨v0, 93, 11, (acc).length, (acc).flatMap encS⟩ :: rw⟩, [(3, .c (.val v0)), (0, .c (.val (.pointer (some ⟨P, 0, none⟩))))]⟩ : AS) _
  by_cases h0 : e0 = 0
  ·subst h0
   have ha1 := ha0 rfl
   obtain ⟨n0, hn1, hcont⟩ := hc0 rfl
   refine go 7 ?_
   refine wyy rfl rfl rfl (ay_cmp true rfl rfl rfl (by rfl)) ?_
   refine go 2 ?_
   refine wcP rfl rfl rfl rfl Tryz.call59 rfl (take_s (A) _ _ _ l k0 b0 0 0 (dp + 1) [125] (by decide) hok hk0) (by simp) (by simp [Sto.bl]) ?_
   rintro t12 s12 (⟨-, ha12, hm12, rfl, rfl⟩ | ⟨ha12, rfl, rfl⟩)
   ·refine go 16 ?_
    refine wyy rfl rfl rfl (ay_subR ((dp : Nat) : Int) rfl rfl rfl (by omega) (by omega) (by omega)) ?_
    refine go 11 ?_
    refine wfrz 2 rfl ?_
    refine go 1 ?_
    obtain ⟨m, rfl⟩ : ∃ m, n0 = m + 1 := ⟨n0 - 1, by omega⟩
    exact ⟨.inr rfl, _, (RSt A B rw P l (k0 + 1) (b0) (0) (0) (dp)), (res_one rfl (resv_tmp rfl)), subS_of (.refl _) (.refl _), ⟨acc, k0 + 1, b0, 0, rfl, hcont _ _ _ _ (by rw [stmtsP, if_pos ha12]; exact .ok _ _ _ rfl), hm12, (by decide), rfl⟩⟩
   ·refine go 11 ?_
    refine wcP rfl rfl rfl rfl Tryz.call77 rfl (hstm (A) _ _ _ k0 b0 0 hk0 he0) (by simp) (by simp [Sto.bl]) ?_
    rintro t15 s15 ⟨x15, k15, u15, e15, rfl, hr15, hk15, he15, rfl⟩
    refine wo rfl (wbs Tryz.t93 [.val (.int .i64 0), .val (.string ⟨#[]⟩), .val (.int .i64 0), .val (.int .i64 0), .val (.string ⟨#[]⟩), .val (.slice none 0 0), .val (.string ⟨#[]⟩), .val (.slice none 0 0), .val (.slice none 0 0), .val (.slice none 0 0), .val (.slice none 0 0)] rfl rfl (by decide) (.cons rfl .nil) Tryz.underlying50 (by kernel_rfl) rfl (by decide) (by decide) (by kernel_rfl) (by kernel_rfl) (fill_one encS encS1 x15 (encS_one _) rfl rfl) ?_)
    refine wo rfl (wap0 Tryz.t93 192 rfl rfl (by decide) rfl rfl Tryz.underlying50 (by kernel_rfl) rfl rfl rfl rfl (by decide) (by rw [List.flatMap_cons, List.flatMap_nil, List.append_nil, encS_len]) (by decide) (by unfold maxLen; skip; omega) (by skip; omega) (@List.length_append _ acc [x15]).symm (fun _ b hb => by simp [hb]) (fun b hb => by simp [hb]) (List.flatMap_append (f := encS)).symm fun v16 => ?_)
    refine go 3 ?_
    obtain ⟨m, rfl⟩ : ∃ m, n0 = m + 1 := ⟨n0 - 1, by omega⟩
    have hst : ∀ z k' b' e', RRun e15 u15 (stmtsP l st m (acc ++ [x15]) k15) z k' b' e' → RRun e b ((wantP l [123] k).bind fun _ k => stmtsP l st l.length [] k) z k' b' e' := fun z k' b' e' h => hcont z k' b' e' (by rw [stmtsP, if_neg (by rw [ha12 rfl]; decide)]; exact hr15.bind h)
    have hgo : e15 = 0 → k0 < k15 := fun h => by have h9 := hin k0 hk0; rw [(hr15.good h).2.1] at h9; exact h9.1
    refine ⟨(acc ++ [x15], v16, k15, u15, e15), ⟨hk15, he15, fun h => ?_, fun h => hst _ _ _ _ (.skip h _ _ _), fun h => ⟨m, ?_, fun z k' b' e' h2 => hst _ _ _ _ ?_⟩⟩, ?_, subA (.refl _) (.refl _) (by intro x hx; simp only [List.mem_append, List.mem_cons, List.not_mem_nil, or_false] at hx ⊢; rcases hx with h | h <;> simp [h]) (sub_cons rfl (Wk.refl _) (sub_cons rfl (Wk.refl _) sub_nil))⟩
    ·have := hgo h; show (acc ++ [_]).length ≤ k15; simp; omega
    ·have := hgo h; show l.length ≤ m + k15; omega
    ·rw [show e15 = 0 from h]; exact h2
    ·show (if e15 = 0 then _ else _) < (if (0 : Nat) = 0 then _ else _)
     by_cases h : e15 = 0
     ·have := hgo h; rw [if_pos h, if_pos rfl]; show l.length - k15 + 1 < l.length - k0 + 1; omega
     ·rw [if_neg h, if_pos rfl]; show 0 < l.length - k0 + 1; omega
  ·refine go 7 ?_
   refine wyy rfl rfl rfl (ay_cmp false rfl rfl rfl (eq_nat0 h0)) ?_
   refine go 19 ?_
   refine wyy rfl rfl rfl (ay_subR ((dp : Nat) : Int) rfl rfl rfl (by omega) (by omega) (by omega)) ?_
   refine go 11 ?_
   refine wfrz 2 rfl ?_
   refine go 1 ?_
   exact ⟨.inr rfl, _, (RSt A B rw P l (k0) (b0) (e0) (0) (dp)), (res_one rfl (resv_tmp rfl)), subS_of (.refl _) (.refl _), ⟨acc, k0, b0, e0, rfl, hn0 h0, hk0, he0, rfl⟩⟩
theorem block_all (l : List Tok) (hok : TOk l) : ∀ (d : Nat), d ≤ 24 → ∀ (A B : List Box) (rw : List ORow) (P : Nat) (k b e : Nat), k < l.length → e < 16 → ACall Tryz.prog 46 [.c (.val (.pointer (some ⟨P, 0, none⟩)))] [P] (RSt A B rw P l k b e 0 (24 - d)) (RAn A B rw P l 0 (24 - d) (fun x => .c (.sl x.length (x.flatMap encS))) e b (blockP l d k))
 | 0, _, A, B, rw, P, k, b, e, hk, he => block_0 A B rw P l k b e hok hk he
 | d + 1, hd, A, B, rw, P, k, b, e, hk, he => by
  have hb : ∀ k, k < l.length → (blockP l d k).In l k := fun k hk => blockP_in hok.last d k hk
  have h := block_s A B rw P l k b e (24 - (d + 1)) (stmtP l (blockP l d)) (by omega) (fun k hk => stmtP_in hok.last hb hk) (fun A B rw P k b e hk he => by
   have h9 := stmt_c A B rw P l k b e (24 - (d + 1) + 1) (blockP l d) hok hk he (fun A B rw P k b e hk he => by
    have h8 := block_all l hok d (by omega) A B rw P k b e hk he
    have e1 : 24 - (d + 1) + 1 = 24 - d := by omega
    rw [e1]; exact h8)
   exact h9) hok hk he
  exact h
end Go.Proofs.YtflcnehhpmjipaaGreatDoor
