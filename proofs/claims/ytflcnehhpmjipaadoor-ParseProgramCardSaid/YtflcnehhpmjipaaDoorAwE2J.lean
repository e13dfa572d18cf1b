import Derived.Test.YtflcnehhpmjipaaDoorAwE1J
import Derived.Test.YtflcnehhpmjipaaDoorW4J
set_option linter.unusedVariables false
set_option linter.unusedSimpArgs false
namespace Go.Proofs.YtflcnehhpmjipaaDoor
open Go.RowKit
theorem binP_s (l : List Tok) (single : Nat → PRes AExpr) (j k : Nat) : binP l single (j + 1) k = (binP l single j k).bind fun x k => loopP l (binP l single j) (5 - j) (l.length + 1) x k := by
 rw [binP]; cases binP l single j k <;> rfl
theorem loopP_s (l : List Tok) (sub : Nat → PRes AExpr) (level n : Nat) (x : AExpr) (k : Nat) : loopP l sub level (n + 1) x k = if (tokAt l k).kind = 4 ∧ (binOp (tokAt l k).text).2 = level then (sub (k + 1)).bind fun y k2 => loopP l sub level n (.mk ((binOp (tokAt l k).text).1 : Int) 0 emptyB [x, y]) k2 else .ok x k := by
 rw [loopP]
 split
 ·cases sub (k + 1) <;> rfl
 ·rfl
set_option maxRecDepth 100000 in
set_option maxHeartbeats 1600000 in
theorem binaryE_6 (A B : List Box) (rw : List ORow) (P : Nat) (l : List Tok) (k d : Nat) (sub : Nat → PRes AExpr) (hok : TOk l) (hk : k < l.length) (ih : ∀ (A B : List Box) (rw : List ORow) (P : Nat) (k : Nat), k < l.length → ACall Tryd.prog 59 [.c (.val (.pointer (some ⟨P, 0, none⟩)))] [P] (ESt A B rw P l k d 0) (EAn A B rw P l d k (sub k))) : ACall Tryd.prog 28 [.c (.val (.pointer (some ⟨P, 0, none⟩))), .c (.val (.int .i64 6))] [P] (ESt A B rw P l k d 0) (EAn A B rw P l d k (sub k)) := by
 have hlen := hok.len
 refine acall_body Tryd.func28 rfl (Nat.le_of_ble_eq_true rfl) ?_
 show AWp Tryd.prog _ ⟨71, [P], ⟨A ++ ⟨P, 68, [.sl l.length (l.flatMap encT), .val (.int .i64 ((k : Nat) : Int)), .val (.int .i64 ((d : Nat) : Int)), .val (.int .i64 ((0 : Nat) : Int))]⟩ :: B, rw⟩, [(0, .c (.val (.pointer (some ⟨P, 0, none⟩)))), (1, .c (.val (.int .i64 6)))]⟩ _
 refine sqrg ?_
 refine wo rfl (walloc rfl rfl (by decide) Tryd.zeroValue31 rfl fun b1 => ?_)
 refine nlnm ?_
 refine aw_seq ?_
 refine sqrg ?_
 refine wmv rfl rfl rfl rfl rfl ?_
 refine wyy rfl rfl rfl (ay_cmp true rfl rfl rfl rfl) ?_
 refine nlnm ?_
 refine aw_condT rfl rfl ?_
 refine sqrg ?_
 refine wmv rfl rfl rfl rfl rfl ?_
 refine wcP rfl rfl rfl rfl Tryd.call59 rfl (ih (_ :: A) _ _ _ k hk) (by simp) (by simp [Sto.bl]) ?_
 rintro t2 s2 ⟨x2, k2, d2, e2, rfl, hr2, hk2, he2, hd2, hl2, hu2, rfl⟩
 refine wo rfl (wst0 rfl rfl rfl rfl rfl Tryd.sizeOf31 rfl (Nat.le_of_ble_eq_true rfl) (splice_all rfl) (by simp) (fun _ => by simp) ?_)
 refine nlnm ?_
 refine aw_ret ?_
 refine then_ret ?_
 exact ⟨.inr rfl, _, (ESt A B rw P l (k2) (d2) (e2)), (res_one rfl (resv_cell [] rfl rfl Tryd.isAgg31 Tryd.sizeOf31 (pk_all rfl rfl))), subS_of (.cons _ (.refl _)) (.refl _), ⟨x2, k2, d2, e2, rfl, hr2, hk2, he2, hd2, hl2, hu2, rfl⟩⟩
set_option maxRecDepth 100000 in
set_option maxHeartbeats 1600000 in
theorem binaryE_s (A B : List Box) (rw : List ORow) (P : Nat) (l : List Tok) (k d lv : Nat) (sub : Nat → PRes AExpr) (hlv : lv ≤ 5) (hin : ∀ k, k < l.length → (sub k).In l k) (hok : TOk l) (hk : k < l.length) (ih : ∀ (A B : List Box) (rw : List ORow) (P : Nat) (k : Nat), k < l.length → ACall Tryd.prog 28 [.c (.val (.pointer (some ⟨P, 0, none⟩))), .c (.val (.int .i64 ((lv : Nat) + 1 : Int)))] [P] (ESt A B rw P l k d 0) (EAn A B rw P l d k (sub k))) : ACall Tryd.prog 28 [.c (.val (.pointer (some ⟨P, 0, none⟩))), .c (.val (.int .i64 (lv : Int)))] [P] (ESt A B rw P l k d 0) (EAn A B rw P l d k ((sub k).bind fun x k => loopP l sub lv (l.length + 1) x k)) := by
 have hlen := hok.len
 refine acall_body Tryd.func28 rfl (Nat.le_of_ble_eq_true rfl) ?_
 show AWp Tryd.prog _ ⟨71, [P], ⟨A ++ ⟨P, 68, [.sl l.length (l.flatMap encT), .val (.int .i64 ((k : Nat) : Int)), .val (.int .i64 ((d : Nat) : Int)), .val (.int .i64 ((0 : Nat) : Int))]⟩ :: B, rw⟩, [(0, .c (.val (.pointer (some ⟨P, 0, none⟩)))), (1, .c (.val (.int .i64 ((lv : Nat) : Int))))]⟩ _
 refine sqrg ?_
 refine wo rfl (walloc rfl rfl (by decide) Tryd.zeroValue31 rfl fun b1 => ?_)
 refine nlnm ?_
 refine aw_seq ?_
 refine sqrg ?_
 refine wmv rfl rfl rfl rfl rfl ?_
 refine wyy rfl rfl rfl (ay_cmp false rfl rfl rfl (by simp [cmpR]; omega)) ?_
 refine nlnm ?_
 refine aw_condF rfl rfl ?_
 refine aw_skip ?_
 refine then_normal ?_
 refine sqrg ?_
 refine wmv rfl rfl rfl rfl rfl ?_
 refine wmv rfl rfl rfl rfl rfl ?_
 refine wyy rfl rfl rfl (ay_add rfl rfl rfl (by omega) (by omega)) ?_
 refine wcP rfl rfl rfl rfl Tryd.call28 rfl (ih (_ :: A) _ _ _ k hk) (by simp) (by simp [Sto.bl]) ?_
 rintro t2 s2 ⟨x2, k2, d2, e2, rfl, hr2, hk2, he2, hd2, hl2, hu2, rfl⟩
 refine wo rfl (walloc rfl rfl (by decide) Tryd.zeroValue31 rfl fun b2 => ?_)
 refine wo rfl (wst0 rfl rfl rfl rfl rfl Tryd.sizeOf31 rfl (Nat.le_of_ble_eq_true rfl) (splice_all rfl) (by simp) (fun _ => by simp) ?_)
 refine nlnm ?_
 refine aw_seq ?_
 refine aw_block ?_
 refine aw_loop (fun g : AExpr × Nat × Nat × Nat => (⟨71, [b2, b1, P], ⟨⟨b2, 31, encE1 (g.1)⟩ :: ⟨b1, 31, [.val (.int .i64 0), .val (.int .i64 0), .val (.string ⟨#[]⟩), .val (.slice none 0 0)]⟩ :: (A ++ ⟨P, 68, [.sl l.length (l.flatMap encT), .val (.int .i64 (((g.2.1) : Nat) : Int)), .val (.int .i64 (((g.2.2.1) : Nat) : Int)), .val (.int .i64 (((g.2.2.2) : Nat) : Int))]⟩ :: B), rw⟩, [(5, .c (.val (.pointer (some ⟨b2, 0, none⟩)))), (4, .c (.val (.pointer (some ⟨b1, 0, none⟩)))), (1, .c (.val (.int .i64 ((lv : Nat) : Int)))), (0, .c (.val (.pointer (some ⟨P, 0, none⟩))))]⟩ : AS)) (fun g => g.2.1 < l.length ∧ g.2.2.2 < 16 ∧ (g.2.2.2 = 0 → g.2.2.1 = d) ∧ d ≤ g.2.2.1 ∧ g.2.2.1 ≤ 24 ∧ (g.2.2.2 ≠ 0 → Run 0 k ((sub k).bind fun x k => loopP l sub lv (l.length + 1) x k) g.1 g.2.1 g.2.2.2) ∧ (g.2.2.2 = 0 → ∃ n, l.length < n + g.2.1 ∧ ∀ z k' e', Run 0 g.2.1 (loopP l sub lv n g.1 g.2.1) z k' e' → Run 0 k ((sub k).bind fun x k => loopP l sub lv (l.length + 1) x k) z k' e')) (fun g => if g.2.2.2 = 0 then l.length - g.2.1 + 1 else 0) (x2, k2, d2, e2) (subA (.refl _) (.refl _) (fun _ h => h) (sub_cons rfl (Wk.refl _) (sub_cons rfl (Wk.refl _) (sub_cons rfl (Wk.refl _) (sub_cons rfl (Wk.refl _) sub_nil))))) ⟨hk2, he2, hd2, hl2, hu2, fun h => hr2.bind (.skip h _ _), fun h => ⟨l.length + 1, by show l.length < l.length + 1 + k2; omega, fun z k' e' h2 => hr2.bind (by rw [show e2 = 0 from h]; exact h2)⟩⟩ ?_
 rintro ⟨x0, k0, d0, e0⟩ ⟨hk0, he0, hd0, hl0, hu0, hn0, hc0⟩
 dsimp only at hk0 he0 hd0 hl0 hu0 hn0 hc0
 show AWp Tryd.prog _ (⟨71, [b2, b1, P], ⟨⟨b2, 31, encE1 (x0)⟩ :: ⟨b1, 31, [.val (.int .i64 0), .val (.int .i64 0), .val (.string ⟨#[]⟩), .val (.slice none 0 0)]⟩ :: (A ++ ⟨P, 68, [.sl l.length (l.flatMap encT), .val (.int .i64 (((k0) : Nat) : Int)), .val (.int .i64 (((d0) : Nat) : Int)), .val (.int .i64 (((e0) : Nat) : Int))]⟩ :: B), rw⟩, [(5, .c (.val (.pointer (some ⟨b2, 0, none⟩)))), (4, .c (.val (.pointer (some ⟨b1, 0, none⟩)))), (1, .c (.val (.int .i64 ((lv : Nat) : Int)))), (0, .c (.val (.pointer (some ⟨P, 0, none⟩))))]⟩ : AS) _
 by_cases h0 : e0 = 0
 ·subst h0
  obtain rfl : d = d0 := (hd0 rfl).symm
  obtain ⟨n0, hn1, hcont⟩ := hc0 rfl
  obtain ⟨m, rfl⟩ : ∃ m, n0 = m + 1 := ⟨n0 - 1, by omega⟩
  by_cases h4 : l[k0].kind = 4
  ·by_cases hlv2 : (binOp l[k0].text).2 = lv
   ·skip
    refine aw_seq ?_
    refine aw_seq ?_
    refine aw_region_drew [b2, b1, P] (by kernel_rfl) ?_
    refine tq 0 (by kernel_rfl) rfl rfl rfl rfl (ay_move rfl rfl) ?_
    refine tq 1 (by kernel_rfl) rfl rfl rfl rfl (ay_nilCheck rfl rfl) ?_
    refine tq 2 (by kernel_rfl) rfl rfl rfl rfl (ay_fieldAddr 3 3 rfl rfl Tryd.runUnderlying68 rfl Tryd.sizeOf36 (by decide) rfl) ?_
    refine tq 3 (by kernel_rfl) rfl rfl rfl rfl (ay_load_box (_ :: _ :: A) rfl rfl rfl Tryd.isAgg36 Tryd.sizeOf36 rfl (fun _ h => (mem_off.1 h).2 (by simp))) ?_
    refine tq 4 (by kernel_rfl) rfl rfl rfl rfl (ay_cmp true rfl rfl rfl (by rfl)) ?_
    refine tq 5 (by kernel_rfl) rfl rfl rfl rfl (ay_move rfl rfl) ?_
    refine tq 6 (by kernel_rfl) rfl rfl rfl rfl (ay_move rfl rfl) ?_
    refine tq 7 (by kernel_rfl) rfl rfl rfl rfl (ay_nilCheck rfl rfl) ?_
    refine tq 8 (by kernel_rfl) rfl rfl rfl rfl (ay_fieldAddr 0 0 rfl rfl Tryd.runUnderlying68 rfl Tryd.sizeOf34 (by decide) rfl) ?_
    refine tq 9 (by kernel_rfl) rfl rfl rfl rfl (ay_load_box (_ :: _ :: A) rfl rfl rfl Tryd.isAgg34 Tryd.sizeOf34 rfl (fun _ h => (mem_off.1 h).2 (by simp))) ?_
    refine tq 10 (by kernel_rfl) rfl rfl rfl rfl (ay_move rfl rfl) ?_
    refine tq 11 (by kernel_rfl) rfl rfl rfl rfl (ay_nilCheck rfl rfl) ?_
    refine tq 12 (by kernel_rfl) rfl rfl rfl rfl (ay_fieldAddr 1 1 rfl rfl Tryd.runUnderlying68 rfl Tryd.sizeOf3 (by decide) rfl) ?_
    refine tq 13 (by kernel_rfl) rfl rfl rfl rfl (ay_load_box (_ :: _ :: A) rfl rfl rfl Tryd.isAgg3 Tryd.sizeOf3 rfl (fun _ h => (mem_off.1 h).2 (by simp))) ?_
    refine tq 14 (by kernel_rfl) rfl rfl rfl rfl (ay_ix encT encT l encT_len (fun _ => rfl) (k0) rfl rfl rfl rfl hk0 (by decide) Tryd.runUnderlying34 Tryd.sizeOf65) ?_
    refine tq 15 (by kernel_rfl) rfl rfl rfl rfl (ay_fieldAddr_el 0 rfl rfl Tryd.runUnderlying65 rfl Tryd.sizeOf3 (by decide)) ?_
    refine tq 16 (by kernel_rfl) rfl rfl rfl rfl (ay_load_el rfl rfl Tryd.isAgg3 Tryd.sizeOf3 rfl) ?_
    refine tq 17 (by kernel_rfl) rfl rfl rfl rfl (ay_cmp true rfl rfl rfl (by rw [h4]; rfl)) ?_
    refine tq 18 (by kernel_rfl) rfl rfl rfl rfl (ay_pick rfl rfl rfl) ?_
    refine any_done (by kernel_rfl) ?_
    refine then_normal ?_
    refine aw_condT rfl rfl ?_
    refine aw_skip ?_
    refine then_normal ?_
    refine aw_block ?_
    refine aw_seq ?_
    refine aw_region_drew [b2, b1, P] (by kernel_rfl) ?_
    refine tq 0 (by kernel_rfl) rfl rfl rfl rfl (ay_move rfl rfl) ?_
    refine tq 1 (by kernel_rfl) rfl rfl rfl rfl (ay_nilCheck rfl rfl) ?_
    refine tq 2 (by kernel_rfl) rfl rfl rfl rfl (ay_fieldAddr 0 0 rfl rfl Tryd.runUnderlying68 rfl Tryd.sizeOf34 (by decide) rfl) ?_
    refine tq 3 (by kernel_rfl) rfl rfl rfl rfl (ay_load_box (_ :: _ :: A) rfl rfl rfl Tryd.isAgg34 Tryd.sizeOf34 rfl (fun _ h => (mem_off.1 h).2 (by simp))) ?_
    refine tq 4 (by kernel_rfl) rfl rfl rfl rfl (ay_move rfl rfl) ?_
    refine tq 5 (by kernel_rfl) rfl rfl rfl rfl (ay_nilCheck rfl rfl) ?_
    refine tq 6 (by kernel_rfl) rfl rfl rfl rfl (ay_fieldAddr 1 1 rfl rfl Tryd.runUnderlying68 rfl Tryd.sizeOf3 (by decide) rfl) ?_
    refine tq 7 (by kernel_rfl) rfl rfl rfl rfl (ay_load_box (_ :: _ :: A) rfl rfl rfl Tryd.isAgg3 Tryd.sizeOf3 rfl (fun _ h => (mem_off.1 h).2 (by simp))) ?_
    refine tq 8 (by kernel_rfl) rfl rfl rfl rfl (ay_ix encT encT l encT_len (fun _ => rfl) (k0) rfl rfl rfl rfl hk0 (by decide) Tryd.runUnderlying34 Tryd.sizeOf65) ?_
    refine tq 9 (by kernel_rfl) rfl rfl rfl rfl (ay_fieldAddr_el 1 rfl rfl Tryd.runUnderlying65 rfl Tryd.sizeOf9 (by decide)) ?_
    refine tq 10 (by kernel_rfl) rfl rfl rfl rfl (ay_load_el rfl rfl Tryd.isAgg9 Tryd.sizeOf9 rfl) ?_
    refine one 11 (by kernel_rfl) rfl rfl (wcall [] rfl rfl (by decide) Tryd.call60 rfl (binOp_c l[k0].text _) (fun _ h => by cases h) (fun _ h => by cases h) (fun _ _ h => by cases h) ?_)
    rintro t9 s9 ⟨rfl, rfl⟩
    refine tq 12 (by kernel_rfl) rfl rfl rfl rfl (ay_move rfl rfl) ?_
    refine tq 13 (by kernel_rfl) rfl rfl rfl rfl (ay_extract rfl rfl rfl) ?_
    refine tq 14 (by kernel_rfl) rfl rfl rfl rfl (ay_extract rfl rfl rfl) ?_
    refine tq 15 (by kernel_rfl) rfl rfl rfl rfl (ay_assign rfl rfl) ?_
    refine tq 16 (by kernel_rfl) rfl rfl rfl rfl (ay_assign rfl rfl) ?_
    refine any_done (by kernel_rfl) ?_
    refine then_normal ?_
    refine aw_seq ?_
    refine sqrg ?_
    refine wmv rfl rfl rfl rfl rfl ?_
    refine wmv rfl rfl rfl rfl rfl ?_
    refine wyy rfl rfl rfl (ay_cmp false rfl rfl rfl (by simp [cmpR]; omega)) ?_
    refine nlnm ?_
    refine aw_condF rfl rfl ?_
    refine aw_skip ?_
    refine then_normal ?_
    refine sqrg ?_
    have hm := hok.last.more hk0 (by rw [tokAt_lt hk0, h4]; decide)
    refine wmv rfl rfl rfl rfl rfl ?_
    refine wyy rfl rfl rfl (ay_nilCheck rfl rfl) ?_
    refine wyy rfl rfl rfl (ay_fieldAddr 1 1 rfl rfl Tryd.runUnderlying68 rfl Tryd.sizeOf3 (by decide) rfl) ?_
    refine wyy rfl rfl rfl (ay_load_box (_ :: _ :: A) rfl rfl rfl Tryd.isAgg3 Tryd.sizeOf3 rfl (fun _ h => by cases h)) ?_
    refine wyy rfl rfl rfl (ay_add rfl rfl rfl (by omega) (by omega)) ?_
    refine wyy rfl rfl rfl (ay_nilCheck rfl rfl) ?_
    refine wyy rfl rfl rfl (ay_fieldAddr 1 1 rfl rfl Tryd.runUnderlying68 rfl Tryd.sizeOf3 (by decide) rfl) ?_
    refine wo rfl (wstA2 rfl rfl rfl rfl rfl Tryd.sizeOf3 rfl (Nat.le_of_ble_eq_true rfl) rfl (by simp) (fun _ => by simp) ?_)
    refine nx ?_
    refine wmv rfl rfl rfl rfl rfl ?_
    refine wmv rfl rfl rfl rfl rfl ?_
    refine wyy rfl rfl rfl (ay_add rfl rfl rfl (by omega) (by omega)) ?_
    refine wcP rfl rfl rfl rfl Tryd.call28 rfl (ih (_ :: _ :: A) _ _ _ (k0 + 1) hm) (by simp) (by simp [Sto.bl]) ?_
    rintro t11 s11 ⟨x11, k11, d11, e11, rfl, hr11, hk11, he11, hd11, hl11, hu11, rfl⟩
    refine wo rfl (walloc rfl rfl (by decide) Tryd.zeroValue31 rfl fun b3 => ?_)
    refine wo rfl (wst0 rfl rfl rfl rfl rfl Tryd.sizeOf31 rfl (Nat.le_of_ble_eq_true rfl) (splice_all rfl) (by simp) (fun _ => by simp) ?_)
    refine nlnm ?_
    refine aw_region ?_
    refine wmv rfl rfl rfl rfl rfl ?_
    refine wyy rfl rfl rfl (ay_load_box [_] rfl rfl rfl Tryd.isAgg31 Tryd.sizeOf31 rfl (fun _ h => by cases h)) ?_
    refine wyy rfl rfl rfl (ay_load_box [] rfl rfl rfl Tryd.isAgg31 Tryd.sizeOf31 rfl (fun _ h => by cases h)) ?_
    refine wo rfl (wbs Tryd.t31 [.val (.int .i64 0), .val (.int .i64 0), .val (.string ⟨#[]⟩), .val (.slice none 0 0), .val (.int .i64 0), .val (.int .i64 0), .val (.string ⟨#[]⟩), .val (.slice none 0 0)] rfl rfl (by decide) (.cons rfl (.cons rfl .nil)) Tryd.underlying29 (by kernel_rfl) rfl (by decide) (by decide) (by kernel_rfl) (by kernel_rfl) (fill_two encE encE1 x0 x11 encE_one rfl (fun _ => rfl)) ?_)
    refine wyy rfl rfl rfl (ay_build Tryd.t31 [(0, 1), (1, 1), (2, 1), (3, 1)] rfl (.cons rfl (.cons rfl .nil)) Tryd.underlying31 (by kernel_rfl) rfl (by kernel_rfl) rfl rfl) ?_
    refine wo rfl (wst1 rfl rfl rfl rfl rfl Tryd.sizeOf31 rfl (Nat.le_of_ble_eq_true rfl) (splice_all rfl) (by simp) (fun _ => by simp) ?_)
    refine aops_nil ?_
    refine inB_normal ?_
    have hst : ∀ z k' e', Run e11 k11 (loopP l sub lv m (.mk ((binOp l[k0].text).1 : Int) 0 emptyB [x0, x11]) k11) z k' e' → Run 0 k ((sub k).bind fun x k => loopP l sub lv (l.length + 1) x k) z k' e' := fun z k' e' h => hcont z k' e' (by rw [loopP_s, tokAt_lt hk0, if_pos ⟨h4, hlv2⟩]; exact (Run.from hr11).bind h)
    have hgo : e11 = 0 → k0 < k11 := fun h => by have h9 := hin (k0 + 1) hm; rw [(hr11.good h).2] at h9; have := h9.1; omega
    refine ⟨((.mk ((binOp l[k0].text).1 : Int) 0 emptyB [x0, x11]), k11, d11, e11), ⟨hk11, he11, hd11, by omega, hu11, fun h => hst _ _ _ (.skip h _ _), fun h => ⟨m, ?_, fun z k' e' h2 => hst _ _ _ ?_⟩⟩, ?_, subA (.cons _ (.refl _)) (.refl _) (by intro x hx; simp only [List.mem_append, List.mem_cons, List.not_mem_nil, or_false] at hx ⊢; rcases hx with h | h | h <;> simp [h]) (sub_cons rfl (Wk.refl _) (sub_cons rfl (Wk.refl _) (sub_cons rfl (Wk.refl _) (sub_cons rfl (Wk.refl _) sub_nil))))⟩
    ·have := hgo h; show l.length < m + k11; omega
    ·rw [show e11 = 0 from h]; exact h2
    ·show (if e11 = 0 then _ else _) < (if (0 : Nat) = 0 then _ else _)
     by_cases h : e11 = 0
     ·have := hgo h; rw [if_pos h, if_pos rfl]; show l.length - k11 + 1 < l.length - k0 + 1; omega
     ·rw [if_neg h, if_pos rfl]; show 0 < l.length - k0 + 1; omega
   ·skip
    refine aw_seq ?_
    refine aw_seq ?_
    refine aw_region_drew [b2, b1, P] (by kernel_rfl) ?_
    refine tq 0 (by kernel_rfl) rfl rfl rfl rfl (ay_move rfl rfl) ?_
    refine tq 1 (by kernel_rfl) rfl rfl rfl rfl (ay_nilCheck rfl rfl) ?_
    refine tq 2 (by kernel_rfl) rfl rfl rfl rfl (ay_fieldAddr 3 3 rfl rfl Tryd.runUnderlying68 rfl Tryd.sizeOf36 (by decide) rfl) ?_
    refine tq 3 (by kernel_rfl) rfl rfl rfl rfl (ay_load_box (_ :: _ :: A) rfl rfl rfl Tryd.isAgg36 Tryd.sizeOf36 rfl (fun _ h => (mem_off.1 h).2 (by simp))) ?_
    refine tq 4 (by kernel_rfl) rfl rfl rfl rfl (ay_cmp true rfl rfl rfl (by rfl)) ?_
    refine tq 5 (by kernel_rfl) rfl rfl rfl rfl (ay_move rfl rfl) ?_
    refine tq 6 (by kernel_rfl) rfl rfl rfl rfl (ay_move rfl rfl) ?_
    refine tq 7 (by kernel_rfl) rfl rfl rfl rfl (ay_nilCheck rfl rfl) ?_
    refine tq 8 (by kernel_rfl) rfl rfl rfl rfl (ay_fieldAddr 0 0 rfl rfl Tryd.runUnderlying68 rfl Tryd.sizeOf34 (by decide) rfl) ?_
    refine tq 9 (by kernel_rfl) rfl rfl rfl rfl (ay_load_box (_ :: _ :: A) rfl rfl rfl Tryd.isAgg34 Tryd.sizeOf34 rfl (fun _ h => (mem_off.1 h).2 (by simp))) ?_
    refine tq 10 (by kernel_rfl) rfl rfl rfl rfl (ay_move rfl rfl) ?_
    refine tq 11 (by kernel_rfl) rfl rfl rfl rfl (ay_nilCheck rfl rfl) ?_
    refine tq 12 (by kernel_rfl) rfl rfl rfl rfl (ay_fieldAddr 1 1 rfl rfl Tryd.runUnderlying68 rfl Tryd.sizeOf3 (by decide) rfl) ?_
    refine tq 13 (by kernel_rfl) rfl rfl rfl rfl (ay_load_box (_ :: _ :: A) rfl rfl rfl Tryd.isAgg3 Tryd.sizeOf3 rfl (fun _ h => (mem_off.1 h).2 (by simp))) ?_
    refine tq 14 (by kernel_rfl) rfl rfl rfl rfl (ay_ix encT encT l encT_len (fun _ => rfl) (k0) rfl rfl rfl rfl hk0 (by decide) Tryd.runUnderlying34 Tryd.sizeOf65) ?_
    refine tq 15 (by kernel_rfl) rfl rfl rfl rfl (ay_fieldAddr_el 0 rfl rfl Tryd.runUnderlying65 rfl Tryd.sizeOf3 (by decide)) ?_
    refine tq 16 (by kernel_rfl) rfl rfl rfl rfl (ay_load_el rfl rfl Tryd.isAgg3 Tryd.sizeOf3 rfl) ?_
    refine tq 17 (by kernel_rfl) rfl rfl rfl rfl (ay_cmp true rfl rfl rfl (by rw [h4]; rfl)) ?_
    refine tq 18 (by kernel_rfl) rfl rfl rfl rfl (ay_pick rfl rfl rfl) ?_
    refine any_done (by kernel_rfl) ?_
    refine then_normal ?_
    refine aw_condT rfl rfl ?_
    refine aw_skip ?_
    refine then_normal ?_
    refine aw_block ?_
    refine aw_seq ?_
    refine aw_region_drew [b2, b1, P] (by kernel_rfl) ?_
    refine tq 0 (by kernel_rfl) rfl rfl rfl rfl (ay_move rfl rfl) ?_
    refine tq 1 (by kernel_rfl) rfl rfl rfl rfl (ay_nilCheck rfl rfl) ?_
    refine tq 2 (by kernel_rfl) rfl rfl rfl rfl (ay_fieldAddr 0 0 rfl rfl Tryd.runUnderlying68 rfl Tryd.sizeOf34 (by decide) rfl) ?_
    refine tq 3 (by kernel_rfl) rfl rfl rfl rfl (ay_load_box (_ :: _ :: A) rfl rfl rfl Tryd.isAgg34 Tryd.sizeOf34 rfl (fun _ h => (mem_off.1 h).2 (by simp))) ?_
    refine tq 4 (by kernel_rfl) rfl rfl rfl rfl (ay_move rfl rfl) ?_
    refine tq 5 (by kernel_rfl) rfl rfl rfl rfl (ay_nilCheck rfl rfl) ?_
    refine tq 6 (by kernel_rfl) rfl rfl rfl rfl (ay_fieldAddr 1 1 rfl rfl Tryd.runUnderlying68 rfl Tryd.sizeOf3 (by decide) rfl) ?_
    refine tq 7 (by kernel_rfl) rfl rfl rfl rfl (ay_load_box (_ :: _ :: A) rfl rfl rfl Tryd.isAgg3 Tryd.sizeOf3 rfl (fun _ h => (mem_off.1 h).2 (by simp))) ?_
    refine tq 8 (by kernel_rfl) rfl rfl rfl rfl (ay_ix encT encT l encT_len (fun _ => rfl) (k0) rfl rfl rfl rfl hk0 (by decide) Tryd.runUnderlying34 Tryd.sizeOf65) ?_
    refine tq 9 (by kernel_rfl) rfl rfl rfl rfl (ay_fieldAddr_el 1 rfl rfl Tryd.runUnderlying65 rfl Tryd.sizeOf9 (by decide)) ?_
    refine tq 10 (by kernel_rfl) rfl rfl rfl rfl (ay_load_el rfl rfl Tryd.isAgg9 Tryd.sizeOf9 rfl) ?_
    refine one 11 (by kernel_rfl) rfl rfl (wcall [] rfl rfl (by decide) Tryd.call60 rfl (binOp_c l[k0].text _) (fun _ h => by cases h) (fun _ h => by cases h) (fun _ _ h => by cases h) ?_)
    rintro t6 s6 ⟨rfl, rfl⟩
    refine tq 12 (by kernel_rfl) rfl rfl rfl rfl (ay_move rfl rfl) ?_
    refine tq 13 (by kernel_rfl) rfl rfl rfl rfl (ay_extract rfl rfl rfl) ?_
    refine tq 14 (by kernel_rfl) rfl rfl rfl rfl (ay_extract rfl rfl rfl) ?_
    refine tq 15 (by kernel_rfl) rfl rfl rfl rfl (ay_assign rfl rfl) ?_
    refine tq 16 (by kernel_rfl) rfl rfl rfl rfl (ay_assign rfl rfl) ?_
    refine any_done (by kernel_rfl) ?_
    refine then_normal ?_
    refine aw_seq ?_
    refine sqrg ?_
    refine wmv rfl rfl rfl rfl rfl ?_
    refine wmv rfl rfl rfl rfl rfl ?_
    refine wyy rfl rfl rfl (ay_cmp true rfl rfl rfl (by simp [cmpR]; omega)) ?_
    refine nlnm ?_
    refine aw_condT rfl rfl ?_
    refine aw_exit ?_
    refine then_exit ?_
    refine inB_other (by decide) ?_
    refine then_exit ?_
    refine inB_exit ?_
    refine then_normal ?_
    refine sqrg ?_
    refine wyy rfl rfl rfl (ay_load_box [] rfl rfl rfl Tryd.isAgg31 Tryd.sizeOf31 rfl (fun _ h => by cases h)) ?_
    refine wo rfl (wst1 rfl rfl rfl rfl rfl Tryd.sizeOf31 rfl (Nat.le_of_ble_eq_true rfl) (splice_all rfl) (by simp) (fun _ => by simp) ?_)
    refine nlnm ?_
    refine aw_ret ?_
    exact ⟨.inr rfl, _, (ESt A B rw P l (k0) (d) (0)), (res_one rfl (resv_cell [_] rfl rfl Tryd.isAgg31 Tryd.sizeOf31 (pk_all rfl rfl))), subS_of (.cons _ (.cons _ (.refl _))) (.refl _), ⟨x0, k0, d, 0, rfl, hcont _ _ _ (by rw [loopP_s, if_neg (fun h => hlv2 (by rw [← tokAt_lt hk0]; exact h.2))]; exact .ok _ _ _ rfl), hk0, by decide, fun _ => rfl, Nat.le_refl _, hu0, rfl⟩⟩
  ·skip
   refine aw_seq ?_
   refine aw_seq ?_
   refine aw_region_drew [b2, b1, P] (by kernel_rfl) ?_
   refine tq 0 (by kernel_rfl) rfl rfl rfl rfl (ay_move rfl rfl) ?_
   refine tq 1 (by kernel_rfl) rfl rfl rfl rfl (ay_nilCheck rfl rfl) ?_
   refine tq 2 (by kernel_rfl) rfl rfl rfl rfl (ay_fieldAddr 3 3 rfl rfl Tryd.runUnderlying68 rfl Tryd.sizeOf36 (by decide) rfl) ?_
   refine tq 3 (by kernel_rfl) rfl rfl rfl rfl (ay_load_box (_ :: _ :: A) rfl rfl rfl Tryd.isAgg36 Tryd.sizeOf36 rfl (fun _ h => (mem_off.1 h).2 (by simp))) ?_
   refine tq 4 (by kernel_rfl) rfl rfl rfl rfl (ay_cmp true rfl rfl rfl (by rfl)) ?_
   refine tq 5 (by kernel_rfl) rfl rfl rfl rfl (ay_move rfl rfl) ?_
   refine tq 6 (by kernel_rfl) rfl rfl rfl rfl (ay_move rfl rfl) ?_
   refine tq 7 (by kernel_rfl) rfl rfl rfl rfl (ay_nilCheck rfl rfl) ?_
   refine tq 8 (by kernel_rfl) rfl rfl rfl rfl (ay_fieldAddr 0 0 rfl rfl Tryd.runUnderlying68 rfl Tryd.sizeOf34 (by decide) rfl) ?_
   refine tq 9 (by kernel_rfl) rfl rfl rfl rfl (ay_load_box (_ :: _ :: A) rfl rfl rfl Tryd.isAgg34 Tryd.sizeOf34 rfl (fun _ h => (mem_off.1 h).2 (by simp))) ?_
   refine tq 10 (by kernel_rfl) rfl rfl rfl rfl (ay_move rfl rfl) ?_
   refine tq 11 (by kernel_rfl) rfl rfl rfl rfl (ay_nilCheck rfl rfl) ?_
   refine tq 12 (by kernel_rfl) rfl rfl rfl rfl (ay_fieldAddr 1 1 rfl rfl Tryd.runUnderlying68 rfl Tryd.sizeOf3 (by decide) rfl) ?_
   refine tq 13 (by kernel_rfl) rfl rfl rfl rfl (ay_load_box (_ :: _ :: A) rfl rfl rfl Tryd.isAgg3 Tryd.sizeOf3 rfl (fun _ h => (mem_off.1 h).2 (by simp))) ?_
   refine tq 14 (by kernel_rfl) rfl rfl rfl rfl (ay_ix encT encT l encT_len (fun _ => rfl) (k0) rfl rfl rfl rfl hk0 (by decide) Tryd.runUnderlying34 Tryd.sizeOf65) ?_
   refine tq 15 (by kernel_rfl) rfl rfl rfl rfl (ay_fieldAddr_el 0 rfl rfl Tryd.runUnderlying65 rfl Tryd.sizeOf3 (by decide)) ?_
   refine tq 16 (by kernel_rfl) rfl rfl rfl rfl (ay_load_el rfl rfl Tryd.isAgg3 Tryd.sizeOf3 rfl) ?_
   refine tq 17 (by kernel_rfl) rfl rfl rfl rfl (ay_cmp false rfl rfl rfl (by rw [show cmpR .eql ((l[k0].kind : Nat) : Int) 4 = some (decide (l[k0].kind = 4)) from cmp_nat (n := 4), decide_eq_false h4])) ?_
   refine tq 18 (by kernel_rfl) rfl rfl rfl rfl (ay_pick rfl rfl rfl) ?_
   refine any_done (by kernel_rfl) ?_
   refine then_normal ?_
   refine aw_condF rfl rfl ?_
   refine aw_exit ?_
   refine then_exit ?_
   refine then_exit ?_
   refine inB_exit ?_
   refine then_normal ?_
   refine sqrg ?_
   refine wyy rfl rfl rfl (ay_load_box [] rfl rfl rfl Tryd.isAgg31 Tryd.sizeOf31 rfl (fun _ h => by cases h)) ?_
   refine wo rfl (wst1 rfl rfl rfl rfl rfl Tryd.sizeOf31 rfl (Nat.le_of_ble_eq_true rfl) (splice_all rfl) (by simp) (fun _ => by simp) ?_)
   refine nlnm ?_
   refine aw_ret ?_
   exact ⟨.inr rfl, _, (ESt A B rw P l (k0) (d) (0)), (res_one rfl (resv_cell [_] rfl rfl Tryd.isAgg31 Tryd.sizeOf31 (pk_all rfl rfl))), subS_of (.cons _ (.cons _ (.refl _))) (.refl _), ⟨x0, k0, d, 0, rfl, hcont _ _ _ (by rw [loopP_s, if_neg (fun h => h4 (by rw [← tokAt_lt hk0]; exact h.1))]; exact .ok _ _ _ rfl), hk0, by decide, fun _ => rfl, Nat.le_refl _, hu0, rfl⟩⟩
 ·skip
  refine aw_seq ?_
  refine aw_seq ?_
  refine aw_region_drew [b2, b1, P] (by kernel_rfl) ?_
  refine tq 0 (by kernel_rfl) rfl rfl rfl rfl (ay_move rfl rfl) ?_
  refine tq 1 (by kernel_rfl) rfl rfl rfl rfl (ay_nilCheck rfl rfl) ?_
  refine tq 2 (by kernel_rfl) rfl rfl rfl rfl (ay_fieldAddr 3 3 rfl rfl Tryd.runUnderlying68 rfl Tryd.sizeOf36 (by decide) rfl) ?_
  refine tq 3 (by kernel_rfl) rfl rfl rfl rfl (ay_load_box (_ :: _ :: A) rfl rfl rfl Tryd.isAgg36 Tryd.sizeOf36 rfl (fun _ h => (mem_off.1 h).2 (by simp))) ?_
  refine tq 4 (by kernel_rfl) rfl rfl rfl rfl (ay_cmp false rfl rfl rfl (eq_nat0 h0)) ?_
  refine tq 5 (by kernel_rfl) rfl rfl rfl rfl (ay_move rfl rfl) ?_
  refine tkskip 6 (by kernel_rfl) rfl (by kernel_rfl) (by kernel_rfl) rfl rfl (by decide) ?_
  refine tkskip 7 (by kernel_rfl) rfl (by kernel_rfl) (by kernel_rfl) rfl rfl (by decide) ?_
  refine tkskip 8 (by kernel_rfl) rfl (by kernel_rfl) (by kernel_rfl) rfl rfl (by decide) ?_
  refine tkskip 9 (by kernel_rfl) rfl (by kernel_rfl) (by kernel_rfl) rfl rfl (by decide) ?_
  refine tkskip 10 (by kernel_rfl) rfl (by kernel_rfl) (by kernel_rfl) rfl rfl (by decide) ?_
  refine tkskip 11 (by kernel_rfl) rfl (by kernel_rfl) (by kernel_rfl) rfl rfl (by decide) ?_
  refine tkskip 12 (by kernel_rfl) rfl (by kernel_rfl) (by kernel_rfl) rfl rfl (by decide) ?_
  refine tkskip 13 (by kernel_rfl) rfl (by kernel_rfl) (by kernel_rfl) rfl rfl (by decide) ?_
  refine tkskip 14 (by kernel_rfl) rfl (by kernel_rfl) (by kernel_rfl) rfl rfl (by decide) ?_
  refine tkskip 15 (by kernel_rfl) rfl (by kernel_rfl) (by kernel_rfl) rfl rfl (by decide) ?_
  refine tkskip 16 (by kernel_rfl) rfl (by kernel_rfl) (by kernel_rfl) rfl rfl (by decide) ?_
  refine tkskip 17 (by kernel_rfl) rfl (by kernel_rfl) (by kernel_rfl) rfl rfl (by decide) ?_
  refine tq 18 (by kernel_rfl) rfl rfl rfl rfl (ay_pick rfl rfl rfl) ?_
  refine any_done (by kernel_rfl) ?_
  refine then_normal ?_
  refine aw_condF rfl rfl ?_
  refine aw_exit ?_
  refine then_exit ?_
  refine then_exit ?_
  refine inB_exit ?_
  refine then_normal ?_
  refine sqrg ?_
  refine wyy rfl rfl rfl (ay_load_box [] rfl rfl rfl Tryd.isAgg31 Tryd.sizeOf31 rfl (fun _ h => by cases h)) ?_
  refine wo rfl (wst1 rfl rfl rfl rfl rfl Tryd.sizeOf31 rfl (Nat.le_of_ble_eq_true rfl) (splice_all rfl) (by simp) (fun _ => by simp) ?_)
  refine nlnm ?_
  refine aw_ret ?_
  exact ⟨.inr rfl, _, (ESt A B rw P l (k0) (d0) (e0)), (res_one rfl (resv_cell [_] rfl rfl Tryd.isAgg31 Tryd.sizeOf31 (pk_all rfl rfl))), subS_of (.cons _ (.cons _ (.refl _))) (.refl _), ⟨x0, k0, d0, e0, rfl, hn0 h0, hk0, he0, fun h => absurd h h0, hl0, hu0, rfl⟩⟩
theorem binE_all (l : List Tok) (hok : TOk l) (d D : Nat) (ih : ∀ (A B : List Box) (rw : List ORow) (P : Nat) (k : Nat), k < l.length → ACall Tryd.prog 59 [.c (.val (.pointer (some ⟨P, 0, none⟩)))] [P] (ESt A B rw P l k d 0) (EAn A B rw P l d k (singleP l D k))) : ∀ (j : Nat), j ≤ 5 → ∀ (A B : List Box) (rw : List ORow) (P : Nat) (k : Nat), k < l.length → ACall Tryd.prog 28 [.c (.val (.pointer (some ⟨P, 0, none⟩))), .c (.val (.int .i64 ((6 - j : Nat) : Int)))] [P] (ESt A B rw P l k d 0) (EAn A B rw P l d k (binP l (singleP l D) j k))
 | 0, _, A, B, rw, P, k, hk => binaryE_6 A B rw P l k d (singleP l D) hok hk fun A B rw P k hk => ih A B rw P k hk
 | j + 1, hj, A, B, rw, P, k, hk => by
  have h := binaryE_s A B rw P l k d (6 - (j + 1)) (binP l (singleP l D) j) (by omega) (fun k hk => binP_in hok.last (fun k hk => singleP_in hok.last D k hk) j k hk) hok hk (fun A B rw P k hk => by
   have h9 := binE_all l hok d D ih j (by omega) A B rw P k hk
   have e1 : (((6 - (j + 1) : Nat) : Int) + 1) = ((6 - j : Nat) : Int) := by omega
   rw [e1]; exact h9)
  rw [binP_s, show 5 - j = 6 - (j + 1) by omega]
  exact h
theorem singleE_all (l : List Tok) (hok : TOk l) : ∀ (D : Nat), D ≤ 24 → ∀ (A B : List Box) (rw : List ORow) (P : Nat) (k : Nat), k < l.length → ACall Tryd.prog 59 [.c (.val (.pointer (some ⟨P, 0, none⟩)))] [P] (ESt A B rw P l k (24 - D) 0) (EAn A B rw P l (24 - D) k (singleP l D k))
 | 0, _, A, B, rw, P, k, hk => single_24 A B rw P l k hok hk
 | D + 1, hD, A, B, rw, P, k, hk => by
  have e1 : 24 - (D + 1) + 1 = 24 - D := by omega
  exact single_lt A B rw P l k (24 - (D + 1)) D hok hk (by omega)
   (fun A B rw P k hk => by rw [e1]; exact singleE_all l hok D (by omega) A B rw P k hk)
   (fun A B rw P k hk => by rw [e1]; exact binE_all l hok (24 - D) D (singleE_all l hok D (by omega)) 5 (Nat.le_refl _) A B rw P k hk)
theorem binaryE_c (A B : List Box) (rw : List ORow) (P : Nat) (l : List Tok) (k : Nat) (hok : TOk l) (hk : k < l.length) : ACall Tryd.prog 28 [.c (.val (.pointer (some ⟨P, 0, none⟩))), .c (.val (.int .i64 1))] [P] (ESt A B rw P l k 0 0) (EAn A B rw P l 0 k (exprP l k)) :=
 binE_all l hok 0 24 (singleE_all l hok 24 (Nat.le_refl _)) 5 (Nat.le_refl _) A B rw P k hk
theorem Run.other {e0 k0 k e : Nat} {r : PRes AExpr} {x y : AExpr} (h : Run e0 k0 r x k e) (he : e ≠ 0) : Run e0 k0 r y k e := by
 rcases h with ⟨h0, h1, h2⟩ | ⟨h0, ⟨_, h2⟩ | h⟩
 ·exact .inl ⟨h0, h1, h2⟩
 ·exact absurd h2 he
 ·exact .inr ⟨h0, .inr h⟩
set_option maxRecDepth 100000 in
set_option maxHeartbeats 1600000 in
theorem parseE_c (l : List Tok) (k : Nat) (hok : TOk l) (hk : k < l.length) (s : Sto) : ACall Tryd.prog 14 [.c (.sl l.length (l.flatMap encT)), .c (.val (.int .i64 (k : Int)))] [] s fun t s' => ∃ x k1 e1, t = .tup [.agg (encE1 x), .c (.val (.int .i64 ((k1 : Nat) : Int))), .c (.val (.int .i64 ((e1 : Nat) : Int)))] ∧ Run 0 k (exprP l k) x k1 e1 ∧ k1 < l.length ∧ e1 < 16 ∧ s' = s := by
 have hlen := hok.len
 have hend : l[l.length - 1].kind = 5 := hok.last.2
 obtain ⟨bx, rw⟩ := s
 refine acall_body Tryd.func14 rfl (Nat.le_of_ble_eq_true rfl) ?_
 show AWp Tryd.prog _ ⟨54, [], ⟨bx, rw⟩, [(0, .c (.sl l.length (l.flatMap encT))), (1, .c (.val (.int .i64 ((k : Nat) : Int))))]⟩ _
 refine sqrg ?_
 refine wo rfl (walloc rfl rfl (by decide) Tryd.zeroValue31 rfl fun b1 => ?_)
 refine wag rfl rfl rfl rfl rfl ?_
 refine wag rfl rfl rfl rfl rfl ?_
 refine nlnm ?_
 refine aw_seq ?_
 refine sqrg ?_
 refine wmv rfl rfl rfl rfl rfl ?_
 refine wyy rfl rfl rfl (ay_cmp false rfl rfl rfl (by simp [cmpR])) ?_
 refine wmv rfl rfl rfl rfl rfl ?_
 refine wmv rfl rfl rfl rfl rfl ?_
 refine wmv rfl rfl rfl rfl rfl ?_
 refine wyy rfl rfl rfl (ay_len_sl rfl rfl Tryd.runUnderlying34) ?_
 refine wyy rfl rfl rfl (ay_cmp false rfl rfl rfl (by simp [cmpR]; omega)) ?_
 refine wyy rfl rfl rfl (ay_pick rfl rfl rfl) ?_
 refine wmv rfl rfl rfl rfl rfl ?_
 refine wmv rfl rfl rfl rfl rfl ?_
 refine wmv rfl rfl rfl rfl rfl ?_
 refine wyy rfl rfl rfl (ay_len_sl rfl rfl Tryd.runUnderlying34) ?_
 refine wyy rfl rfl rfl (ay_sub rfl rfl rfl (by omega) (by omega)) ?_
 refine wyy rfl rfl rfl (ay_ix encT encT l encT_len (fun _ => rfl) (l.length - 1) rfl rfl rfl (by omega) (by omega) (by decide) Tryd.runUnderlying34 Tryd.sizeOf65) ?_
 refine wyy rfl rfl rfl (ay_fieldAddr_el 0 rfl rfl Tryd.runUnderlying65 rfl Tryd.sizeOf3 (by decide)) ?_
 refine wyy rfl rfl rfl (ay_load_el rfl rfl Tryd.isAgg3 Tryd.sizeOf3 rfl) ?_
 refine wyy rfl rfl rfl (ay_cmp false rfl rfl rfl (by rw [hend]; rfl)) ?_
 refine wyy rfl rfl rfl (ay_pick rfl rfl rfl) ?_
 refine nlnm ?_
 refine aw_condF rfl rfl ?_
 refine aw_skip ?_
 refine then_normal ?_
 refine sqrg ?_
 refine wmv rfl rfl rfl rfl rfl ?_
 refine wmv rfl rfl rfl rfl rfl ?_
 refine wyy rfl rfl rfl (ay_build Tryd.t68 [(0, 1), (1, 1), (2, 1), (3, 1)] rfl (.cons rfl (.cons rfl .nil)) Tryd.underlying68 (by kernel_rfl) rfl (by kernel_rfl) rfl rfl) ?_
 refine wo rfl (wbox rfl rfl (by decide) rfl rfl fun P => ?_)
 refine wag rfl rfl rfl rfl rfl ?_
 refine nx ?_
 refine wmv rfl rfl rfl rfl rfl ?_
 refine wcP rfl rfl rfl rfl Tryd.call28 rfl (binaryE_c [] _ _ _ l k hok hk) (by simp) (by simp [Sto.bl]) ?_
 rintro t2 s2 ⟨x2, k2, d2, e2, rfl, hr2, hk2, he2, hd2, hl2, hu2, rfl⟩
 refine wo rfl (walloc rfl rfl (by decide) Tryd.zeroValue31 rfl fun b2 => ?_)
 refine wo rfl (wst0 rfl rfl rfl rfl rfl Tryd.sizeOf31 rfl (Nat.le_of_ble_eq_true rfl) (splice_all rfl) (by simp) (fun _ => by simp) ?_)
 refine nlnm ?_
 refine aw_seq ?_
 refine sqrg ?_
 by_cases her : e2 = 0
 ·skip
  refine wmv rfl rfl rfl rfl rfl ?_
  refine wyy rfl rfl rfl (ay_nilCheck rfl rfl) ?_
  refine wyy rfl rfl rfl (ay_fieldAddr 3 3 rfl rfl Tryd.runUnderlying68 rfl Tryd.sizeOf36 (by decide) rfl) ?_
  refine wyy rfl rfl rfl (ay_load_box [_] rfl rfl rfl Tryd.isAgg36 Tryd.sizeOf36 rfl (fun _ h => by cases h)) ?_
  refine wyy rfl rfl rfl (ay_cmp false rfl rfl rfl (by rw [her]; rfl)) ?_
  refine nlnm ?_
  refine aw_condF rfl rfl ?_
  refine aw_skip ?_
  refine then_normal ?_
  refine aw_seq ?_
  refine aw_region_drew [b2, P] (by kernel_rfl) ?_
  refine tq 0 (by kernel_rfl) rfl rfl rfl rfl (ay_load_box [] rfl rfl rfl Tryd.isAgg31 Tryd.sizeOf31 rfl (fun _ h => (mem_off.1 h).2 (by simp))) ?_
  refine tq 1 (by kernel_rfl) rfl rfl rfl rfl (ay_move rfl rfl) ?_
  refine tq 2 (by kernel_rfl) rfl rfl rfl rfl (ay_nilCheck rfl rfl) ?_
  refine tq 3 (by kernel_rfl) rfl rfl rfl rfl (ay_fieldAddr 1 1 rfl rfl Tryd.runUnderlying68 rfl Tryd.sizeOf3 (by decide) rfl) ?_
  refine tq 4 (by kernel_rfl) rfl rfl rfl rfl (ay_load_box [_] rfl rfl rfl Tryd.isAgg3 Tryd.sizeOf3 rfl (fun _ h => (mem_off.1 h).2 (by simp))) ?_
  refine one 5 (by kernel_rfl) rfl rfl (wst2 rfl rfl rfl rfl rfl Tryd.sizeOf31 rfl (Nat.le_of_ble_eq_true rfl) (splice_all rfl) (by simp) (fun h => mem_off.2 ⟨by simp [Sto.bl], fun hh => by simp only [List.mem_cons, List.not_mem_nil, or_false] at hh; rcases hh with rfl | rfl <;> simp [Sto.bl] at h⟩) ?_)
  refine tq 6 (by kernel_rfl) rfl rfl rfl rfl (ay_assign rfl rfl) ?_
  refine tq 7 (by kernel_rfl) rfl rfl rfl rfl (ay_assign rfl rfl) ?_
  refine any_done (by kernel_rfl) ?_
  refine then_normal ?_
  refine aw_ret ?_
  exact ⟨.inr rfl, _, ⟨bx, rw⟩, (res_three rfl (resv_cell [_, _] rfl rfl Tryd.isAgg31 Tryd.sizeOf31 (pk_all rfl rfl)) (resv_tmp rfl) (resv_tmp rfl)), subS_of (.cons _ (.cons _ (.cons _ (.refl _)))) (.refl _), ⟨x2, k2, e2, by rw [her]; rfl, hr2, hk2, he2, rfl⟩⟩
 ·skip
  refine wmv rfl rfl rfl rfl rfl ?_
  refine wyy rfl rfl rfl (ay_nilCheck rfl rfl) ?_
  refine wyy rfl rfl rfl (ay_fieldAddr 3 3 rfl rfl Tryd.runUnderlying68 rfl Tryd.sizeOf36 (by decide) rfl) ?_
  refine wyy rfl rfl rfl (ay_load_box [_] rfl rfl rfl Tryd.isAgg36 Tryd.sizeOf36 rfl (fun _ h => by cases h)) ?_
  refine wyy rfl rfl rfl (ay_cmp true rfl rfl rfl (by simp [cmpR, her])) ?_
  refine nlnm ?_
  refine aw_condT rfl rfl ?_
  refine aw_seq ?_
  refine aw_region_drew [b2, P] (by kernel_rfl) ?_
  refine tq 0 (by kernel_rfl) rfl rfl rfl rfl (ay_build Tryd.t31 [(0, 1), (1, 1), (2, 1), (3, 1)] rfl .nil Tryd.underlying31 (by kernel_rfl) rfl (by kernel_rfl) rfl rfl) ?_
  refine tq 1 (by kernel_rfl) rfl rfl rfl rfl (ay_move rfl rfl) ?_
  refine tq 2 (by kernel_rfl) rfl rfl rfl rfl (ay_nilCheck rfl rfl) ?_
  refine tq 3 (by kernel_rfl) rfl rfl rfl rfl (ay_fieldAddr 1 1 rfl rfl Tryd.runUnderlying68 rfl Tryd.sizeOf3 (by decide) rfl) ?_
  refine tq 4 (by kernel_rfl) rfl rfl rfl rfl (ay_load_box [_] rfl rfl rfl Tryd.isAgg3 Tryd.sizeOf3 rfl (fun _ h => (mem_off.1 h).2 (by simp))) ?_
  refine tq 5 (by kernel_rfl) rfl rfl rfl rfl (ay_move rfl rfl) ?_
  refine tq 6 (by kernel_rfl) rfl rfl rfl rfl (ay_nilCheck rfl rfl) ?_
  refine tq 7 (by kernel_rfl) rfl rfl rfl rfl (ay_fieldAddr 3 3 rfl rfl Tryd.runUnderlying68 rfl Tryd.sizeOf36 (by decide) rfl) ?_
  refine tq 8 (by kernel_rfl) rfl rfl rfl rfl (ay_load_box [_] rfl rfl rfl Tryd.isAgg36 Tryd.sizeOf36 rfl (fun _ h => (mem_off.1 h).2 (by simp))) ?_
  refine one 9 (by kernel_rfl) rfl rfl (wst2 rfl rfl rfl rfl rfl Tryd.sizeOf31 rfl (Nat.le_of_ble_eq_true rfl) (splice_all rfl) (by simp) (fun h => mem_off.2 ⟨by simp [Sto.bl], fun hh => by simp only [List.mem_cons, List.not_mem_nil, or_false] at hh; rcases hh with rfl | rfl <;> simp [Sto.bl] at h⟩) ?_)
  refine tq 10 (by kernel_rfl) rfl rfl rfl rfl (ay_assign rfl rfl) ?_
  refine tq 11 (by kernel_rfl) rfl rfl rfl rfl (ay_assign rfl rfl) ?_
  refine any_done (by kernel_rfl) ?_
  refine then_normal ?_
  refine aw_ret ?_
  refine then_ret ?_
  exact ⟨.inr rfl, _, ⟨bx, rw⟩, (res_three rfl (resv_wk (Wk.agg (.cons (WkC.refl _) (.cons (WkC.refl _) (.cons (WkC.refl _) (.cons wk_nil .nil))))) (resv_cell [_, _] rfl rfl Tryd.isAgg31 Tryd.sizeOf31 (pk_all rfl rfl))) (resv_tmp rfl) (resv_tmp rfl)), subS_of (.cons _ (.cons _ (.cons _ (.refl _)))) (.refl _), ⟨.zero, k2, e2, rfl, (hr2.other her), hk2, he2, rfl⟩⟩
end Go.Proofs.YtflcnehhpmjipaaDoor
