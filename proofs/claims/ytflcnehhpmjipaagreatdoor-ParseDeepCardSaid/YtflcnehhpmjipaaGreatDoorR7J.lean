import Derived.Test.YtflcnehhpmjipaaGreatDoorW6J
import Derived.Test.YtflcnehhpmjipaaGreatDoorR3J
import Derived.Test.YtflcnehhpmjipaaGreatDoorW4J
import Derived.Test.YtflcnehhpmjipaaGreatDoorW5J
set_option linter.unusedVariables false
set_option linter.unusedSimpArgs false
namespace Go.Proofs.YtflcnehhpmjipaaGreatDoor
open Go.RowKit
set_option synthInstance.maxHeartbeats 1000000
set_option synthInstance.maxSize 1000000
set_option linter.all false
theorem ay_negR {P : Program} {U : List Nat} {o : Oper} {st : AS} (r : Int) {t : TypeId} {x : Operand} {m : Int} (ho : o.op = .unOp .neg t x) (hx : evA st x = some (.c (.val (.int .i64 m)))) (hr : 0 - m = r) (h1 : -9223372036854775808 ≤ r) (h2 : r ≤ 9223372036854775807) : AY P U o st (.c (.val (.int .i64 r))) := by
 have h := ay_neg (P := P) (U := U) ho hx
 rw [hr, wrap64 h1 h2] at h; exact h
theorem ay_len_row {P : Program} {U : List Nat} {o : Oper} {st : AS} {x : Operand} {t e E : TypeId} {v : Value} {z n : Nat} {cs : List AC} (A : List ORow) {B : List ORow} (ho : o.op = .call { callee := .builtin .len, args := #[x], argTypes := #[t] }) (hx : evA st x = some (.c (.val v))) (hrow : st.s.rows = A ++ ⟨v, E, z, n, cs⟩ :: B) (hu : ∀ w, (underlying t).run P w = .ok (.slice e) w) : AY P U o st (.c (.val (.int .i64 n))) :=
 ay_vals rfl fun a w hs w' => by
  obtain ⟨us, hown, -⟩ := hs.mem.row ⟨v, E, z, n, cs⟩ (by rw [hrow]; simp)
  have hv : ∃ p c, v = .slice p n c := by
   rcases hown.2 with ⟨h1, h2⟩ | ⟨g, cap, cur, h1, -⟩
   ·dsimp only at h1 h2; subst h2; exact ⟨_, _, h1⟩
   ·exact ⟨_, _, h1⟩
  obtain ⟨p, c, rfl⟩ := hv
  simp only [execOp, ho, resolve, List.map_toArray, List.map_cons, List.map_nil, hs.val hx]
  simp [go_sem, invoke, builtin, Builtin.len_, hu, goInt]
theorem RRun.bad {α β : Type} {e1 b1 b0 k k2 b e : Nat} {r : PRes α} {r' : PRes β} {y : β} {x : α} (h : RRun e1 b1 r' y k b e) (h1 : e1 ≠ 0) (hr : r = .err b1 e1) : RRun 0 b0 r x k2 b e := by
 rcases h with ⟨_, rfl, rfl⟩ | ⟨h, _⟩
 ·exact .err _ _ _ _ _ hr h1
 ·exact absurd h h1
theorem name_no {l : List Tok} {k : Nat} (h : (tokAt l k).kind ≠ 1) : nameP l k = .err k 4 := by unfold nameP; rw [if_neg h]
set_option maxRecDepth 100000 in
set_option maxHeartbeats 1600000 in
theorem params_c (A B : List Box) (rw : List ORow) (P : Nat) (l : List Tok) (k b e dp : Nat) (hok : TOk l) (hk : k < l.length) (he : e < 16) : ACall Tryz.prog 63 [.c (.val (.pointer (some ⟨P, 0, none⟩)))] [P] (RSt A B rw P l k b e 0 dp) (RAn A B rw P l 0 dp (fun x => .c (.sl x.length (x.flatMap encP))) e b (parensP l (paramP l) k)) := by
 have hlen := hok.len
 refine acall_body Tryz.func63 rfl (Nat.le_of_ble_eq_true rfl) ?_
 show AWp Tryz.prog _ ⟨44, [P], ⟨A ++ ⟨P, 85, [.sl l.length (l.flatMap encT), .val (.int .i64 ((k : Nat) : Int)), .val (.int .i64 ((b : Nat) : Int)), .val (.int .i64 ((e : Nat) : Int)), .val (.int .i64 ((0 : Nat) : Int)), .val (.int .i64 ((dp : Nat) : Int))]⟩ :: B, rw⟩, [(0, .c (.val (.pointer (some ⟨P, 0, none⟩))))]⟩ _
 refine go 13 ?_
 refine wcP rfl rfl rfl rfl Tryz.call76 rfl (must_c (A) _ _ _ l k b e 0 dp [40] (by decide) hok hk he) (by simp) (by simp [Sto.bl]) ?_
 rintro t1 s1 ⟨x1, k1, u1, e1, rfl, hr1, hk1, he1, rfl⟩
 refine go 6 ?_
 refine wcP rfl rfl rfl rfl Tryz.call59 rfl (take_s (A) _ _ _ l k1 u1 e1 0 dp [41] (by decide) hok hk1) (by simp) (by simp [Sto.bl]) ?_
 rintro t2 s2 (⟨rfl, ha2, hm2, rfl, rfl⟩ | ⟨ha2, rfl, rfl⟩)
 ·refine go 10 ?_
  exact ⟨.inr rfl, _, (RSt A B rw P l (k1 + 1) (u1) (0) (0) (dp)), (res_wk (Wk.c wk_nil) (res_one rfl (resv_tmp rfl))), subS_of (.refl _) (.refl _), ⟨[], k1 + 1, u1, 0, rfl, hr1.bind (by rw [if_pos ha2]; exact .ok _ _ _ rfl), hm2, (by decide), rfl⟩⟩
 ·refine go 7 ?_
  refine wrow 106 2 ?_
  refine aw_loop (fun g : List AParam × Value × Nat × Nat × Nat => (⟨44, rowB g.2.1 ++ [P], ⟨A ++ ⟨P, 85, [.sl l.length (l.flatMap encT), .val (.int .i64 (((g.2.2.1) : Nat) : Int)), .val (.int .i64 (((g.2.2.2.1) : Nat) : Int)), .val (.int .i64 (((g.2.2.2.2) : Nat) : Int)), .val (.int .i64 ((0 : Nat) : Int)), .val (.int .i64 (((dp) : Nat) : Int))]⟩ :: B, ⟨g.2.1, 106, 2, (g.1).length, (g.1).flatMap encP⟩ :: rw⟩, [(3, .c (.val g.2.1)), (0, .c (.val (.pointer (some ⟨P, 0, none⟩))))]⟩ : AS)) (fun g => g.2.2.1 < l.length ∧ g.2.2.2.2 < 16 ∧ (g.2.2.2.2 = 0 → g.1.length ≤ 6) ∧ (g.2.2.2.2 ≠ 0 → RRun e b (parensP l (paramP l) k) g.1 g.2.2.1 g.2.2.2.1 g.2.2.2.2) ∧ (g.2.2.2.2 = 0 → ∃ n, l.length ≤ n + g.2.2.1 ∧ ∀ z k' b' e', RRun 0 g.2.2.2.1 (listP l (paramP l) n g.1 g.2.2.1) z k' b' e' → RRun e b (parensP l (paramP l) k) z k' b' e')) (fun g => if g.2.2.2.2 = 0 then l.length - g.2.2.1 + 1 else 0) ([], .slice none 0 0, k1, u1, e1) (subA (.refl _) (.refl _) (fun _ h => h) (sub_cons rfl (Wk.refl _) (sub_cons rfl (Wk.refl _) sub_nil))) ⟨hk1, he1, fun _ => Nat.zero_le _, fun h => hr1.bind (RRun.skip h _ _ _), fun h => ⟨l.length, Nat.le_add_right _ _, fun z k' b' e' h2 => ?_⟩⟩ ?_
  ·have h : e1 = 0 := h
   refine hr1.bind ?_
   rw [h, if_neg (by rw [ha2 h]; decide)]
   exact h2
  rintro ⟨acc, v0, k0, b0, e0⟩ ⟨hk0, he0, ha0, hn0, hc0⟩
  dsimp only at hk0 he0 ha0 hn0 hc0
  show AWp Tryz.prog _ (⟨44, rowB v0 ++ [P], ⟨A ++ ⟨P, 85, [.sl l.length (l.flatMap encT), .val (.int .i64 (((k0) : Nat) : Int)), .val (.int .i64 (((b0) : Nat) : Int)), .val (.int .i64 (((e0) : Nat) : Int)), .val (.int .i64 ((0 : Nat) : Int)), .val (.int .i64 (((dp) : Nat) : Int))]⟩ :: B, ⟨v0, 106, 2, (acc).length, (acc).flatMap encP⟩ :: rw⟩, [(3, .c (.val v0)), (0, .c (.val (.pointer (some ⟨P, 0, none⟩))))]⟩ : AS) _
  by_cases h0 : e0 = 0
  ·subst h0
   have ha1 := ha0 rfl
   obtain ⟨n0, hn1, hcont⟩ := hc0 rfl
   refine go 7 ?_
   refine wyy rfl rfl rfl (ay_cmp true rfl rfl rfl (by rfl)) ?_
   refine go 10 ?_
   refine wyy rfl rfl rfl (ay_len_row [] rfl rfl rfl Tryz.runUnderlying63) ?_
   by_cases hfull : acc.length = 6
   ·skip
    refine wyy rfl rfl rfl (ay_cmp true rfl rfl rfl (by rw [hfull]; rfl)) ?_
    refine go 2 ?_
    refine wcP rfl rfl rfl rfl Tryz.call57 rfl (isd_w (A) _ _ _ l k0 b0 0 0 dp [109, 117, 116, 101, 120] (by decide) hok hk0) (by simp) (by simp [Sto.bl]) ?_
    rintro t6 s6 (⟨-, ha6, rfl, rfl⟩ | ⟨ha6, rfl, rfl⟩)
    ·refine go 10 ?_
     refine wcP rfl rfl rfl rfl Tryz.call58 rfl (fail_c (A) _ _ _ l k0 b0 0 0 dp 3) (by simp) (by simp [Sto.bl]) ?_
     rintro t8 s8 ⟨u8, e8, hf8, rfl, rfl⟩
     obtain ⟨rfl, rfl⟩ := hf8.1 rfl
     refine go 5 ?_
     refine wcP rfl rfl rfl rfl Tryz.call59 rfl (take_w (A) _ _ _ l k0 k0 3 0 dp [109, 117, 116, 101, 120] (by decide) hok hk0) (by simp) (by simp [Sto.bl]) ?_
     rintro t9 s9 (⟨hz9, -⟩ | ⟨ha9, rfl, rfl⟩)
     ·exact absurd hz9 (by decide)
     ·refine go 8 fun b1 => ?_
      refine wcP rfl rfl rfl rfl Tryz.call62 rfl (name_c (_ :: A) _ _ _ l k0 k0 3 0 dp hok hk0 (by decide)) (by simp) (by simp [Sto.bl]) ?_
      rintro t10 s10 ⟨x10, k10, u10, e10, rfl, hr10, hk10, he10, rfl⟩
      refine go 6 ?_
      have hel : RRun 0 b0 (paramP l acc.length k0) ⟨x10, false⟩ k10 u10 e10 := hr10.bad (by decide) (by unfold paramP; rw [if_pos ⟨by omega, .inr ha6⟩])
      have hsix : e10 = 0 → acc.length < 6 := fun h => by
       have h9 := (hel.good h).2.1
       unfold paramP at h9
       rw [if_pos ⟨by omega, .inr ha6⟩] at h9; cases h9
      refine go 2 ?_
      refine wo rfl (wbs Tryz.t106 [.val (.string ⟨#[]⟩), .val (.bool false)] rfl rfl (by decide) (.cons rfl .nil) Tryz.underlying63 (by kernel_rfl) rfl (by decide) (by decide) (by kernel_rfl) (by kernel_rfl) (fill_one encP encP ⟨x10, false⟩ rfl rfl rfl) ?_)
      refine wo rfl (wap0 Tryz.t106 24 rfl rfl (by decide) rfl rfl Tryz.underlying63 (by kernel_rfl) rfl rfl rfl rfl (by decide) rfl (by decide) (by unfold maxLen; have := ha1; omega) (by have := ha1; omega) (@List.length_append _ acc [⟨x10, false⟩]).symm (fun _ b hb => by simp [hb]) (fun b hb => by simp [hb]) (List.flatMap_append (f := encP)).symm fun v11 => ?_)
      refine go 6 ?_
      refine wcP rfl rfl rfl rfl Tryz.call59 rfl (take_s (_ :: A) _ _ _ l k10 u10 e10 0 dp [44] (by decide) hok hk10) (by simp) (by simp [Sto.bl]) ?_
      rintro t12 s12 (⟨rfl, ha12, hm12, rfl, rfl⟩ | ⟨ha12, rfl, rfl⟩)
      ·refine go 6 ?_
       obtain ⟨m, rfl⟩ : ∃ m, n0 = m + 1 := ⟨n0 - 1, by omega⟩
       have hin := paramP_in (n := acc.length) hok.last hk0
       rw [(hel.good rfl).2.1] at hin
       have hin1 := hin.1
       refine ⟨(acc ++ [⟨x10, false⟩], v11, k10 + 1, u10, 0), ⟨hm12, by show (0 : Nat) < 16; decide, fun _ => by have := hsix rfl; show (acc ++ [_]).length ≤ 6; simp; omega, fun h => absurd rfl h, fun _ => ⟨m, by show l.length ≤ m + (k10 + 1); omega, fun z k' b' e' h => hcont z k' b' e' ?_⟩⟩, by show (if (0 : Nat) = 0 then _ else _) < (if (0 : Nat) = 0 then _ else _); rw [if_pos rfl, if_pos rfl]; show l.length - (k10 + 1) + 1 < l.length - k0 + 1; omega, subA (.cons _ (.refl _)) (.refl _) (by intro x hx; simp only [List.mem_append, List.mem_cons, List.not_mem_nil, or_false] at hx ⊢; rcases hx with h | h <;> simp [h]) (sub_cons rfl (Wk.refl _) (sub_cons rfl (Wk.refl _) sub_nil))⟩
       rw [listP]
       refine hel.bind ?_
       rw [if_pos ha12]
       exact h
      ·refine go 7 ?_
       refine wcP rfl rfl rfl rfl Tryz.call76 rfl (must_c (_ :: A) _ _ _ l k10 u10 e10 0 dp [41] (by decide) hok hk10 he10) (by simp) (by simp [Sto.bl]) ?_
       rintro t15 s15 ⟨x15, k15, u15, e15, rfl, hr15, hk15, he15, rfl⟩
       refine go 8 ?_
       refine wfrz 2 rfl ?_
       refine go 5 ?_
       obtain ⟨m, rfl⟩ : ∃ m, n0 = m + 1 := ⟨n0 - 1, by omega⟩
       exact ⟨.inr rfl, _, (RSt A B rw P l (k15) (u15) (e15) (0) (dp)), (res_one rfl (resv_tmp rfl)), subS_of (.cons _ (.refl _)) (.refl _), ⟨acc ++ [⟨x10, false⟩], k15, u15, e15, rfl, hcont _ _ _ _ (by rw [listP]; exact hel.bind ((hr15.map (f := fun _ => acc ++ [⟨x10, false⟩])).eq fun h => by rw [if_neg (by rw [ha12 h]; decide)])), hk15, he15, rfl⟩⟩
    ·refine go 2 ?_
     refine wcP rfl rfl rfl rfl Tryz.call56 rfl (kindd (A) _ _ _ l k0 b0 0 0 dp 1 hk0) (by simp) (by simp [Sto.bl]) ?_
     rintro t16 s16 (⟨-, ha16, rfl, rfl⟩ | ⟨ha16, rfl, rfl⟩)
     ·refine go 7 ?_
      refine wcP rfl rfl rfl rfl Tryz.call58 rfl (fail_c (A) _ _ _ l k0 b0 0 0 dp 3) (by simp) (by simp [Sto.bl]) ?_
      rintro t18 s18 ⟨u18, e18, hf18, rfl, rfl⟩
      obtain ⟨rfl, rfl⟩ := hf18.1 rfl
      refine go 5 ?_
      refine wcP rfl rfl rfl rfl Tryz.call59 rfl (take_w (A) _ _ _ l k0 k0 3 0 dp [109, 117, 116, 101, 120] (by decide) hok hk0) (by simp) (by simp [Sto.bl]) ?_
      rintro t19 s19 (⟨hz19, -⟩ | ⟨ha19, rfl, rfl⟩)
      ·exact absurd hz19 (by decide)
      ·refine go 8 fun b2 => ?_
       refine wcP rfl rfl rfl rfl Tryz.call62 rfl (name_c (_ :: A) _ _ _ l k0 k0 3 0 dp hok hk0 (by decide)) (by simp) (by simp [Sto.bl]) ?_
       rintro t20 s20 ⟨x20, k20, u20, e20, rfl, hr20, hk20, he20, rfl⟩
       refine go 6 ?_
       have hel : RRun 0 b0 (paramP l acc.length k0) ⟨x20, false⟩ k20 u20 e20 := hr20.bad (by decide) (by unfold paramP; rw [if_pos ⟨by omega, .inl ha16⟩])
       have hsix : e20 = 0 → acc.length < 6 := fun h => by
        have h9 := (hel.good h).2.1
        unfold paramP at h9
        rw [if_pos ⟨by omega, .inl ha16⟩] at h9; cases h9
       refine go 2 ?_
       refine wo rfl (wbs Tryz.t106 [.val (.string ⟨#[]⟩), .val (.bool false)] rfl rfl (by decide) (.cons rfl .nil) Tryz.underlying63 (by kernel_rfl) rfl (by decide) (by decide) (by kernel_rfl) (by kernel_rfl) (fill_one encP encP ⟨x20, false⟩ rfl rfl rfl) ?_)
       refine wo rfl (wap0 Tryz.t106 24 rfl rfl (by decide) rfl rfl Tryz.underlying63 (by kernel_rfl) rfl rfl rfl rfl (by decide) rfl (by decide) (by unfold maxLen; have := ha1; omega) (by have := ha1; omega) (@List.length_append _ acc [⟨x20, false⟩]).symm (fun _ b hb => by simp [hb]) (fun b hb => by simp [hb]) (List.flatMap_append (f := encP)).symm fun v21 => ?_)
       refine go 6 ?_
       refine wcP rfl rfl rfl rfl Tryz.call59 rfl (take_s (_ :: A) _ _ _ l k20 u20 e20 0 dp [44] (by decide) hok hk20) (by simp) (by simp [Sto.bl]) ?_
       rintro t22 s22 (⟨rfl, ha22, hm22, rfl, rfl⟩ | ⟨ha22, rfl, rfl⟩)
       ·refine go 6 ?_
        obtain ⟨m, rfl⟩ : ∃ m, n0 = m + 1 := ⟨n0 - 1, by omega⟩
        have hin := paramP_in (n := acc.length) hok.last hk0
        rw [(hel.good rfl).2.1] at hin
        have hin1 := hin.1
        refine ⟨(acc ++ [⟨x20, false⟩], v21, k20 + 1, u20, 0), ⟨hm22, by show (0 : Nat) < 16; decide, fun _ => by have := hsix rfl; show (acc ++ [_]).length ≤ 6; simp; omega, fun h => absurd rfl h, fun _ => ⟨m, by show l.length ≤ m + (k20 + 1); omega, fun z k' b' e' h => hcont z k' b' e' ?_⟩⟩, by show (if (0 : Nat) = 0 then _ else _) < (if (0 : Nat) = 0 then _ else _); rw [if_pos rfl, if_pos rfl]; show l.length - (k20 + 1) + 1 < l.length - k0 + 1; omega, subA (.cons _ (.refl _)) (.refl _) (by intro x hx; simp only [List.mem_append, List.mem_cons, List.not_mem_nil, or_false] at hx ⊢; rcases hx with h | h <;> simp [h]) (sub_cons rfl (Wk.refl _) (sub_cons rfl (Wk.refl _) sub_nil))⟩
        rw [listP]
        refine hel.bind ?_
        rw [if_pos ha22]
        exact h
       ·refine go 7 ?_
        refine wcP rfl rfl rfl rfl Tryz.call76 rfl (must_c (_ :: A) _ _ _ l k20 u20 e20 0 dp [41] (by decide) hok hk20 he20) (by simp) (by simp [Sto.bl]) ?_
        rintro t25 s25 ⟨x25, k25, u25, e25, rfl, hr25, hk25, he25, rfl⟩
        refine go 8 ?_
        refine wfrz 2 rfl ?_
        refine go 5 ?_
        obtain ⟨m, rfl⟩ : ∃ m, n0 = m + 1 := ⟨n0 - 1, by omega⟩
        exact ⟨.inr rfl, _, (RSt A B rw P l (k25) (u25) (e25) (0) (dp)), (res_one rfl (resv_tmp rfl)), subS_of (.cons _ (.refl _)) (.refl _), ⟨acc ++ [⟨x20, false⟩], k25, u25, e25, rfl, hcont _ _ _ _ (by rw [listP]; exact hel.bind ((hr25.map (f := fun _ => acc ++ [⟨x20, false⟩])).eq fun h => by rw [if_neg (by rw [ha22 h]; decide)])), hk25, he25, rfl⟩⟩
     ·refine go 10 ?_
      refine wcP rfl rfl rfl rfl Tryz.call59 rfl (take_w (A) _ _ _ l k0 b0 0 0 dp [109, 117, 116, 101, 120] (by decide) hok hk0) (by simp) (by simp [Sto.bl]) ?_
      rintro t27 s27 (⟨-, ha27, hm27, rfl, rfl⟩ | ⟨ha27, rfl, rfl⟩)
      ·exact absurd ha27 (by rw [(ha6 rfl)]; decide)
      ·refine go 8 fun b3 => ?_
       refine wcP rfl rfl rfl rfl Tryz.call62 rfl (name_c (_ :: A) _ _ _ l k0 b0 0 0 dp hok hk0 he0) (by simp) (by simp [Sto.bl]) ?_
       rintro t28 s28 ⟨x28, k28, u28, e28, rfl, hr28, hk28, he28, rfl⟩
       refine go 6 ?_
       have hel : RRun 0 b0 (paramP l acc.length k0) ⟨x28, false⟩ k28 u28 e28 := (hr28.map (f := fun s => AParam.mk s false)).eq fun _ => by unfold paramP; rw [if_neg (fun hh => hh.2.elim (ha16 rfl) (fun h => absurd h (by rw [ha6 rfl]; decide))), if_neg (by rw [ha27 rfl]; decide)]
       have hsix : e28 = 0 → acc.length < 6 := fun h => by
        have h9 := (hel.good h).2.1
        unfold paramP at h9
        rw [if_neg (fun hh => hh.2.elim (ha16 rfl) (fun h => absurd h (by rw [ha6 rfl]; decide))), if_neg (by rw [ha27 rfl]; decide), name_no (ha16 rfl)] at h9; cases h9
       refine go 2 ?_
       refine wo rfl (wbs Tryz.t106 [.val (.string ⟨#[]⟩), .val (.bool false)] rfl rfl (by decide) (.cons rfl .nil) Tryz.underlying63 (by kernel_rfl) rfl (by decide) (by decide) (by kernel_rfl) (by kernel_rfl) (fill_one encP encP ⟨x28, false⟩ rfl rfl rfl) ?_)
       refine wo rfl (wap0 Tryz.t106 24 rfl rfl (by decide) rfl rfl Tryz.underlying63 (by kernel_rfl) rfl rfl rfl rfl (by decide) rfl (by decide) (by unfold maxLen; have := ha1; omega) (by have := ha1; omega) (@List.length_append _ acc [⟨x28, false⟩]).symm (fun _ b hb => by simp [hb]) (fun b hb => by simp [hb]) (List.flatMap_append (f := encP)).symm fun v29 => ?_)
       refine go 6 ?_
       refine wcP rfl rfl rfl rfl Tryz.call59 rfl (take_s (_ :: A) _ _ _ l k28 u28 e28 0 dp [44] (by decide) hok hk28) (by simp) (by simp [Sto.bl]) ?_
       rintro t30 s30 (⟨rfl, ha30, hm30, rfl, rfl⟩ | ⟨ha30, rfl, rfl⟩)
       ·refine go 6 ?_
        obtain ⟨m, rfl⟩ : ∃ m, n0 = m + 1 := ⟨n0 - 1, by omega⟩
        have hin := paramP_in (n := acc.length) hok.last hk0
        rw [(hel.good rfl).2.1] at hin
        have hin1 := hin.1
        refine ⟨(acc ++ [⟨x28, false⟩], v29, k28 + 1, u28, 0), ⟨hm30, by show (0 : Nat) < 16; decide, fun _ => by have := hsix rfl; show (acc ++ [_]).length ≤ 6; simp; omega, fun h => absurd rfl h, fun _ => ⟨m, by show l.length ≤ m + (k28 + 1); omega, fun z k' b' e' h => hcont z k' b' e' ?_⟩⟩, by show (if (0 : Nat) = 0 then _ else _) < (if (0 : Nat) = 0 then _ else _); rw [if_pos rfl, if_pos rfl]; show l.length - (k28 + 1) + 1 < l.length - k0 + 1; omega, subA (.cons _ (.refl _)) (.refl _) (by intro x hx; simp only [List.mem_append, List.mem_cons, List.not_mem_nil, or_false] at hx ⊢; rcases hx with h | h <;> simp [h]) (sub_cons rfl (Wk.refl _) (sub_cons rfl (Wk.refl _) sub_nil))⟩
        rw [listP]
        refine hel.bind ?_
        rw [if_pos ha30]
        exact h
       ·refine go 7 ?_
        refine wcP rfl rfl rfl rfl Tryz.call76 rfl (must_c (_ :: A) _ _ _ l k28 u28 e28 0 dp [41] (by decide) hok hk28 he28) (by simp) (by simp [Sto.bl]) ?_
        rintro t33 s33 ⟨x33, k33, u33, e33, rfl, hr33, hk33, he33, rfl⟩
        refine go 8 ?_
        refine wfrz 2 rfl ?_
        refine go 5 ?_
        obtain ⟨m, rfl⟩ : ∃ m, n0 = m + 1 := ⟨n0 - 1, by omega⟩
        exact ⟨.inr rfl, _, (RSt A B rw P l (k33) (u33) (e33) (0) (dp)), (res_one rfl (resv_tmp rfl)), subS_of (.cons _ (.refl _)) (.refl _), ⟨acc ++ [⟨x28, false⟩], k33, u33, e33, rfl, hcont _ _ _ _ (by rw [listP]; exact hel.bind ((hr33.map (f := fun _ => acc ++ [⟨x28, false⟩])).eq fun h => by rw [if_neg (by rw [ha30 h]; decide)])), hk33, he33, rfl⟩⟩
   ·skip
    refine wyy rfl rfl rfl (ay_cmp false rfl rfl rfl (by rw [show cmpR .eql ((acc.length : Nat) : Int) 6 = some (decide (acc.length = 6)) from cmp_nat (n := 6), decide_eq_false hfull])) ?_
    refine go 16 ?_
    refine wcP rfl rfl rfl rfl Tryz.call59 rfl (take_w (A) _ _ _ l k0 b0 0 0 dp [109, 117, 116, 101, 120] (by decide) hok hk0) (by simp) (by simp [Sto.bl]) ?_
    rintro t35 s35 (⟨-, ha35, hm35, rfl, rfl⟩ | ⟨ha35, rfl, rfl⟩)
    ·refine go 8 fun b4 => ?_
     refine wcP rfl rfl rfl rfl Tryz.call62 rfl (name_c (_ :: A) _ _ _ l (k0 + 1) b0 0 0 dp hok hm35 (by decide)) (by simp) (by simp [Sto.bl]) ?_
     rintro t36 s36 ⟨x36, k36, u36, e36, rfl, hr36, hk36, he36, rfl⟩
     refine go 6 ?_
     have hel : RRun 0 b0 (paramP l acc.length k0) ⟨x36, true⟩ k36 u36 e36 := (hr36.map (f := fun s => AParam.mk s true)).eq fun _ => by unfold paramP; rw [if_neg (by rintro ⟨h, -⟩; omega), if_pos ha35]
     have hsix : e36 = 0 → acc.length < 6 := fun h => by
      omega
     refine go 2 ?_
     refine wo rfl (wbs Tryz.t106 [.val (.string ⟨#[]⟩), .val (.bool false)] rfl rfl (by decide) (.cons rfl .nil) Tryz.underlying63 (by kernel_rfl) rfl (by decide) (by decide) (by kernel_rfl) (by kernel_rfl) (fill_one encP encP ⟨x36, true⟩ rfl rfl rfl) ?_)
     refine wo rfl (wap0 Tryz.t106 24 rfl rfl (by decide) rfl rfl Tryz.underlying63 (by kernel_rfl) rfl rfl rfl rfl (by decide) rfl (by decide) (by unfold maxLen; have := ha1; omega) (by have := ha1; omega) (@List.length_append _ acc [⟨x36, true⟩]).symm (fun _ b hb => by simp [hb]) (fun b hb => by simp [hb]) (List.flatMap_append (f := encP)).symm fun v37 => ?_)
     refine go 6 ?_
     refine wcP rfl rfl rfl rfl Tryz.call59 rfl (take_s (_ :: A) _ _ _ l k36 u36 e36 0 dp [44] (by decide) hok hk36) (by simp) (by simp [Sto.bl]) ?_
     rintro t38 s38 (⟨rfl, ha38, hm38, rfl, rfl⟩ | ⟨ha38, rfl, rfl⟩)
     ·refine go 6 ?_
      obtain ⟨m, rfl⟩ : ∃ m, n0 = m + 1 := ⟨n0 - 1, by omega⟩
      have hin := paramP_in (n := acc.length) hok.last hk0
      rw [(hel.good rfl).2.1] at hin
      have hin1 := hin.1
      refine ⟨(acc ++ [⟨x36, true⟩], v37, k36 + 1, u36, 0), ⟨hm38, by show (0 : Nat) < 16; decide, fun _ => by have := hsix rfl; show (acc ++ [_]).length ≤ 6; simp; omega, fun h => absurd rfl h, fun _ => ⟨m, by show l.length ≤ m + (k36 + 1); omega, fun z k' b' e' h => hcont z k' b' e' ?_⟩⟩, by show (if (0 : Nat) = 0 then _ else _) < (if (0 : Nat) = 0 then _ else _); rw [if_pos rfl, if_pos rfl]; show l.length - (k36 + 1) + 1 < l.length - k0 + 1; omega, subA (.cons _ (.refl _)) (.refl _) (by intro x hx; simp only [List.mem_append, List.mem_cons, List.not_mem_nil, or_false] at hx ⊢; rcases hx with h | h <;> simp [h]) (sub_cons rfl (Wk.refl _) (sub_cons rfl (Wk.refl _) sub_nil))⟩
      rw [listP]
      refine hel.bind ?_
      rw [if_pos ha38]
      exact h
     ·refine go 7 ?_
      refine wcP rfl rfl rfl rfl Tryz.call76 rfl (must_c (_ :: A) _ _ _ l k36 u36 e36 0 dp [41] (by decide) hok hk36 he36) (by simp) (by simp [Sto.bl]) ?_
      rintro t41 s41 ⟨x41, k41, u41, e41, rfl, hr41, hk41, he41, rfl⟩
      refine go 8 ?_
      refine wfrz 2 rfl ?_
      refine go 5 ?_
      obtain ⟨m, rfl⟩ : ∃ m, n0 = m + 1 := ⟨n0 - 1, by omega⟩
      exact ⟨.inr rfl, _, (RSt A B rw P l (k41) (u41) (e41) (0) (dp)), (res_one rfl (resv_tmp rfl)), subS_of (.cons _ (.refl _)) (.refl _), ⟨acc ++ [⟨x36, true⟩], k41, u41, e41, rfl, hcont _ _ _ _ (by rw [listP]; exact hel.bind ((hr41.map (f := fun _ => acc ++ [⟨x36, true⟩])).eq fun h => by rw [if_neg (by rw [ha38 h]; decide)])), hk41, he41, rfl⟩⟩
    ·refine go 8 fun b5 => ?_
     refine wcP rfl rfl rfl rfl Tryz.call62 rfl (name_c (_ :: A) _ _ _ l k0 b0 0 0 dp hok hk0 he0) (by simp) (by simp [Sto.bl]) ?_
     rintro t42 s42 ⟨x42, k42, u42, e42, rfl, hr42, hk42, he42, rfl⟩
     refine go 6 ?_
     have hel : RRun 0 b0 (paramP l acc.length k0) ⟨x42, false⟩ k42 u42 e42 := (hr42.map (f := fun s => AParam.mk s false)).eq fun _ => by unfold paramP; rw [if_neg (by rintro ⟨h, -⟩; omega), if_neg (by rw [ha35 rfl]; decide)]
     have hsix : e42 = 0 → acc.length < 6 := fun h => by
      omega
     refine go 2 ?_
     refine wo rfl (wbs Tryz.t106 [.val (.string ⟨#[]⟩), .val (.bool false)] rfl rfl (by decide) (.cons rfl .nil) Tryz.underlying63 (by kernel_rfl) rfl (by decide) (by decide) (by kernel_rfl) (by kernel_rfl) (fill_one encP encP ⟨x42, false⟩ rfl rfl rfl) ?_)
     refine wo rfl (wap0 Tryz.t106 24 rfl rfl (by decide) rfl rfl Tryz.underlying63 (by kernel_rfl) rfl rfl rfl rfl (by decide) rfl (by decide) (by unfold maxLen; have := ha1; omega) (by have := ha1; omega) (@List.length_append _ acc [⟨x42, false⟩]).symm (fun _ b hb => by simp [hb]) (fun b hb => by simp [hb]) (List.flatMap_append (f := encP)).symm fun v43 => ?_)
     refine go 6 ?_
     refine wcP rfl rfl rfl rfl Tryz.call59 rfl (take_s (_ :: A) _ _ _ l k42 u42 e42 0 dp [44] (by decide) hok hk42) (by simp) (by simp [Sto.bl]) ?_
     rintro t44 s44 (⟨rfl, ha44, hm44, rfl, rfl⟩ | ⟨ha44, rfl, rfl⟩)
     ·refine go 6 ?_
      obtain ⟨m, rfl⟩ : ∃ m, n0 = m + 1 := ⟨n0 - 1, by omega⟩
      have hin := paramP_in (n := acc.length) hok.last hk0
      rw [(hel.good rfl).2.1] at hin
      have hin1 := hin.1
      refine ⟨(acc ++ [⟨x42, false⟩], v43, k42 + 1, u42, 0), ⟨hm44, by show (0 : Nat) < 16; decide, fun _ => by have := hsix rfl; show (acc ++ [_]).length ≤ 6; simp; omega, fun h => absurd rfl h, fun _ => ⟨m, by show l.length ≤ m + (k42 + 1); omega, fun z k' b' e' h => hcont z k' b' e' ?_⟩⟩, by show (if (0 : Nat) = 0 then _ else _) < (if (0 : Nat) = 0 then _ else _); rw [if_pos rfl, if_pos rfl]; show l.length - (k42 + 1) + 1 < l.length - k0 + 1; omega, subA (.cons _ (.refl _)) (.refl _) (by intro x hx; simp only [List.mem_append, List.mem_cons, List.not_mem_nil, or_false] at hx ⊢; rcases hx with h | h <;> simp [h]) (sub_cons rfl (Wk.refl _) (sub_cons rfl (Wk.refl _) sub_nil))⟩
      rw [listP]
      refine hel.bind ?_
      rw [if_pos ha44]
      exact h
     ·refine go 7 ?_
      refine wcP rfl rfl rfl rfl Tryz.call76 rfl (must_c (_ :: A) _ _ _ l k42 u42 e42 0 dp [41] (by decide) hok hk42 he42) (by simp) (by simp [Sto.bl]) ?_
      rintro t47 s47 ⟨x47, k47, u47, e47, rfl, hr47, hk47, he47, rfl⟩
      refine go 8 ?_
      refine wfrz 2 rfl ?_
      refine go 5 ?_
      obtain ⟨m, rfl⟩ : ∃ m, n0 = m + 1 := ⟨n0 - 1, by omega⟩
      exact ⟨.inr rfl, _, (RSt A B rw P l (k47) (u47) (e47) (0) (dp)), (res_one rfl (resv_tmp rfl)), subS_of (.cons _ (.refl _)) (.refl _), ⟨acc ++ [⟨x42, false⟩], k47, u47, e47, rfl, hcont _ _ _ _ (by rw [listP]; exact hel.bind ((hr47.map (f := fun _ => acc ++ [⟨x42, false⟩])).eq fun h => by rw [if_neg (by rw [ha44 h]; decide)])), hk47, he47, rfl⟩⟩
  ·refine go 7 ?_
   refine wyy rfl rfl rfl (ay_cmp false rfl rfl rfl (eq_nat0 h0)) ?_
   refine go 14 ?_
   refine wfrz 2 rfl ?_
   refine go 1 ?_
   exact ⟨.inr rfl, _, (RSt A B rw P l (k0) (b0) (e0) (0) (dp)), (res_one rfl (resv_tmp rfl)), subS_of (.refl _) (.refl _), ⟨acc, k0, b0, e0, rfl, hn0 h0, hk0, he0, rfl⟩⟩
set_option maxRecDepth 100000 in
set_option maxHeartbeats 1600000 in
theorem global_c (A B : List Box) (rw : List ORow) (P : Nat) (l : List Tok) (k b e dp : Nat) (hok : TOk l) (hk : k < l.length) (he : e < 16) : ACall Tryz.prog 60 [.c (.val (.pointer (some ⟨P, 0, none⟩)))] [P] (RSt A B rw P l k b e 0 dp) (RAn A B rw P l 0 dp (fun x => .agg (encG x)) e b (globalP l k)) := by
 have hlen := hok.len
 refine acall_body Tryz.func60 rfl (Nat.le_of_ble_eq_true rfl) ?_
 show AWp Tryz.prog _ ⟨45, [P], ⟨A ++ ⟨P, 85, [.sl l.length (l.flatMap encT), .val (.int .i64 ((k : Nat) : Int)), .val (.int .i64 ((b : Nat) : Int)), .val (.int .i64 ((e : Nat) : Int)), .val (.int .i64 ((0 : Nat) : Int)), .val (.int .i64 ((dp : Nat) : Int))]⟩ :: B, rw⟩, [(0, .c (.val (.pointer (some ⟨P, 0, none⟩))))]⟩ _
 refine go 8 fun b1 => ?_
 refine wcP rfl rfl rfl rfl Tryz.call62 rfl (name_c (_ :: A) _ _ _ l k b e 0 dp hok hk he) (by simp) (by simp [Sto.bl]) ?_
 rintro t1 s1 ⟨x1, k1, u1, e1, rfl, hr1, hk1, he1, rfl⟩
 refine go 9 fun b2 => ?_
 refine wcP rfl rfl rfl rfl Tryz.call59 rfl (take_s (_ :: _ :: A) _ _ _ l k1 u1 e1 0 dp [61] (by decide) hok hk1) (by simp) (by simp [Sto.bl]) ?_
 rintro t2 s2 (⟨rfl, ha2, hm2, rfl, rfl⟩ | ⟨ha2, rfl, rfl⟩)
 ·refine go 6 ?_
  refine wcP rfl rfl rfl rfl Tryz.call59 rfl (take_s (_ :: _ :: A) _ _ _ l (k1 + 1) u1 0 0 dp [45] (by decide) hok hm2) (by simp) (by simp [Sto.bl]) ?_
  rintro t4 s4 (⟨-, ha4, hm4, rfl, rfl⟩ | ⟨ha4, rfl, rfl⟩)
  ·refine go 7 ?_
   refine wcP rfl rfl rfl rfl Tryz.call56 rfl (kindd (_ :: _ :: A) _ _ _ l ((k1 + 1) + 1) u1 0 0 dp 2 hm4) (by simp) (by simp [Sto.bl]) ?_
   rintro t5 s5 (⟨-, ha5, rfl, rfl⟩ | ⟨ha5, rfl, rfl⟩)
   ·refine go 7 ?_
    have hreg := (hok.reg _ (List.getElem_mem hm4)).2.2
    have hnum : numP l ((k1 + 1) + 1) = .ok l[(k1 + 1) + 1].num ((k1 + 1) + 1 + 1) := by unfold numP; rw [if_pos ha5, tokAt_lt hm4]
    refine aw_region_drew [b1, P] (by kernel_rfl) ?_
    refine tks [(0, true), (1, true), (2, true), (3, true), (4, true), (5, true), (6, true), (7, true)] 5 (by kernel_rfl) ?_
    refine go 9 ?_
    refine tq 8 (by kernel_rfl) rfl rfl rfl rfl (ay_ix encT encT l encT_len (fun _ => rfl) ((k1 + 1) + 1) rfl rfl rfl rfl hm4 (by decide) Tryz.runUnderlying47 Tryz.sizeOf72) ?_
    refine tks [(9, true), (10, true), (11, true), (12, false)] 0 (by kernel_rfl) ?_
    refine go 5 ?_
    refine any_done (by kernel_rfl) ?_
    refine go 11 ?_
    refine wyy rfl rfl rfl (ay_negR (-((l[(k1 + 1) + 1].num : Nat) : Int)) rfl rfl (by omega) (by omega) (by omega)) ?_
    refine go 9 ?_
    refine wyy rfl rfl rfl (ay_add rfl rfl rfl (by omega) (by omega)) ?_
    refine go 7 ?_
    have hm := hok.last.more hm4 (by rw [ha5]; decide)
    refine go 1 ?_
    refine wcP rfl rfl rfl rfl Tryz.call76 rfl (must_c (_ :: _ :: A) _ _ _ l (((k1 + 1) + 1) + 1) u1 0 0 dp [59] (by decide) hok hm (by decide)) (by simp) (by simp [Sto.bl]) ?_
    rintro t8 s8 ⟨x8, k8, u8, e8, rfl, hr8, hk8, he8, rfl⟩
    refine go 9 ?_
    exact ⟨.inr rfl, _, (RSt A B rw P l (k8) (u8) (e8) (0) (dp)), (res_one rfl (resv_cell [_] rfl rfl Tryz.isAgg104 Tryz.sizeOf104 (pk_all rfl rfl))), subS_of (.cons _ (.cons _ (.refl _))) (.refl _), ⟨⟨x1, (-((l[(k1 + 1) + 1].num : Nat) : Int))⟩, k8, u8, e8, rfl, hr1.bind (.yes (fun _ => ha2) (.yes (fun _ => ha4) (RRun.bind (.ok _ _ _ hnum) (hr8.map (f := fun _ => AGlobal.mk x1 (-((l[(k1 + 1) + 1].num : Nat) : Int))))))), hk8, he8, rfl⟩⟩
   ·refine go 7 ?_
    refine wcP rfl rfl rfl rfl Tryz.call58 rfl (fail_c (_ :: _ :: A) _ _ _ l ((k1 + 1) + 1) u1 0 0 dp 4) (by simp) (by simp [Sto.bl]) ?_
    rintro t10 s10 ⟨u10, e10, hf10, rfl, rfl⟩
    obtain ⟨rfl, rfl⟩ := hf10.1 rfl
    refine go 11 ?_
    exact ⟨.inr rfl, _, (RSt A B rw P l ((k1 + 1) + 1) ((k1 + 1) + 1) (4) (0) (dp)), (res_one rfl (resv_cell [_] rfl rfl Tryz.isAgg104 Tryz.sizeOf104 (pk_all rfl rfl))), subS_of (.cons _ (.cons _ (.refl _))) (.refl _), ⟨⟨x1, 0⟩, (k1 + 1) + 1, (k1 + 1) + 1, 4, rfl, hr1.bind (.yes (fun _ => ha2) (.yes (fun _ => ha4) (RRun.bind (x := 0) (k := 0) (.err _ _ _ _ _ (by unfold numP; rw [if_neg (ha5 rfl)]) (by decide)) (.skip (by decide) _ _ _)))), hm4, (by decide), rfl⟩⟩
  ·refine go 7 ?_
   refine wcP rfl rfl rfl rfl Tryz.call56 rfl (kindd (_ :: _ :: A) _ _ _ l (k1 + 1) u1 0 0 dp 2 hm2) (by simp) (by simp [Sto.bl]) ?_
   rintro t11 s11 (⟨-, ha11, rfl, rfl⟩ | ⟨ha11, rfl, rfl⟩)
   ·refine go 7 ?_
    have hreg := (hok.reg _ (List.getElem_mem hm2)).2.2
    have hnum : numP l (k1 + 1) = .ok l[k1 + 1].num (k1 + 1 + 1) := by unfold numP; rw [if_pos ha11, tokAt_lt hm2]
    refine aw_region_drew [b1, P] (by kernel_rfl) ?_
    refine tks [(0, true), (1, true), (2, true), (3, true), (4, true), (5, true), (6, true), (7, true)] 5 (by kernel_rfl) ?_
    refine go 9 ?_
    refine tq 8 (by kernel_rfl) rfl rfl rfl rfl (ay_ix encT encT l encT_len (fun _ => rfl) (k1 + 1) rfl rfl rfl rfl hm2 (by decide) Tryz.runUnderlying47 Tryz.sizeOf72) ?_
    refine tks [(9, true), (10, true), (11, true), (12, false)] 0 (by kernel_rfl) ?_
    refine go 5 ?_
    refine any_done (by kernel_rfl) ?_
    refine go 15 ?_
    refine wyy rfl rfl rfl (ay_add rfl rfl rfl (by omega) (by omega)) ?_
    refine go 7 ?_
    have hm := hok.last.more hm2 (by rw [ha11]; decide)
    refine go 1 ?_
    refine wcP rfl rfl rfl rfl Tryz.call76 rfl (must_c (_ :: _ :: A) _ _ _ l ((k1 + 1) + 1) u1 0 0 dp [59] (by decide) hok hm (by decide)) (by simp) (by simp [Sto.bl]) ?_
    rintro t14 s14 ⟨x14, k14, u14, e14, rfl, hr14, hk14, he14, rfl⟩
    refine go 9 ?_
    exact ⟨.inr rfl, _, (RSt A B rw P l (k14) (u14) (e14) (0) (dp)), (res_one rfl (resv_cell [_] rfl rfl Tryz.isAgg104 Tryz.sizeOf104 (pk_all rfl rfl))), subS_of (.cons _ (.cons _ (.refl _))) (.refl _), ⟨⟨x1, ((l[k1 + 1].num : Nat) : Int)⟩, k14, u14, e14, rfl, hr1.bind (.yes (fun _ => ha2) (.no (fun _ => by rw [ha4 rfl]; decide) (RRun.bind (.ok _ _ _ hnum) (hr14.map (f := fun _ => AGlobal.mk x1 ((l[k1 + 1].num : Nat) : Int)))))), hk14, he14, rfl⟩⟩
   ·refine go 7 ?_
    refine wcP rfl rfl rfl rfl Tryz.call58 rfl (fail_c (_ :: _ :: A) _ _ _ l (k1 + 1) u1 0 0 dp 4) (by simp) (by simp [Sto.bl]) ?_
    rintro t16 s16 ⟨u16, e16, hf16, rfl, rfl⟩
    obtain ⟨rfl, rfl⟩ := hf16.1 rfl
    refine go 11 ?_
    exact ⟨.inr rfl, _, (RSt A B rw P l (k1 + 1) (k1 + 1) (4) (0) (dp)), (res_one rfl (resv_cell [_] rfl rfl Tryz.isAgg104 Tryz.sizeOf104 (pk_all rfl rfl))), subS_of (.cons _ (.cons _ (.refl _))) (.refl _), ⟨⟨x1, 0⟩, k1 + 1, k1 + 1, 4, rfl, hr1.bind (.yes (fun _ => ha2) (.no (fun _ => by rw [ha4 rfl]; decide) (RRun.bind (x := 0) (k := 0) (.err _ _ _ _ _ (by unfold numP; rw [if_neg (ha11 rfl)]) (by decide)) (.skip (by decide) _ _ _)))), hm2, (by decide), rfl⟩⟩
 ·refine go 8 ?_
  refine wcP rfl rfl rfl rfl Tryz.call76 rfl (must_c (_ :: _ :: A) _ _ _ l k1 u1 e1 0 dp [59] (by decide) hok hk1 he1) (by simp) (by simp [Sto.bl]) ?_
  rintro t18 s18 ⟨x18, k18, u18, e18, rfl, hr18, hk18, he18, rfl⟩
  refine go 9 ?_
  exact ⟨.inr rfl, _, (RSt A B rw P l (k18) (u18) (e18) (0) (dp)), (res_one rfl (resv_cell [_] rfl rfl Tryz.isAgg104 Tryz.sizeOf104 (pk_all rfl rfl))), subS_of (.cons _ (.cons _ (.refl _))) (.refl _), ⟨⟨x1, 0⟩, k18, u18, e18, rfl, hr1.bind (.no (fun h => by rw [ha2 h]; decide) (hr18.map (f := fun _ => AGlobal.mk x1 0))), hk18, he18, rfl⟩⟩
set_option maxRecDepth 100000 in
set_option maxHeartbeats 1600000 in
theorem mutex_true (A B : List Box) (rw : List ORow) (P : Nat) (l : List Tok) (k b e dp : Nat) (hok : TOk l) (hk : k < l.length) (he : e < 16) : ACall Tryz.prog 61 [.c (.val (.pointer (some ⟨P, 0, none⟩))), .c (.val (.bool true))] [P] (RSt A B rw P l k b e 0 dp) (RAn A B rw P l 0 dp (fun x => .agg (encM x)) e b (mutexP l true k)) := by
 have hlen := hok.len
 refine acall_body Tryz.func61 rfl (Nat.le_of_ble_eq_true rfl) ?_
 show AWp Tryz.prog _ ⟨57, [P], ⟨A ++ ⟨P, 85, [.sl l.length (l.flatMap encT), .val (.int .i64 ((k : Nat) : Int)), .val (.int .i64 ((b : Nat) : Int)), .val (.int .i64 ((e : Nat) : Int)), .val (.int .i64 ((0 : Nat) : Int)), .val (.int .i64 ((dp : Nat) : Int))]⟩ :: B, rw⟩, [(0, .c (.val (.pointer (some ⟨P, 0, none⟩)))), (1, .c (.val (.bool true)))]⟩ _
 refine go 8 fun b1 => ?_
 refine wcP rfl rfl rfl rfl Tryz.call62 rfl (name_c (_ :: A) _ _ _ l k b e 0 dp hok hk he) (by simp) (by simp [Sto.bl]) ?_
 rintro t1 s1 ⟨x1, k1, u1, e1, rfl, hr1, hk1, he1, rfl⟩
 refine go 23 fun b2 => ?_
 refine wcP rfl rfl rfl rfl Tryz.call76 rfl (must_c (_ :: _ :: A) _ _ _ l k1 u1 e1 0 dp [59] (by decide) hok hk1 he1) (by simp) (by simp [Sto.bl]) ?_
 rintro t3 s3 ⟨x3, k3, u3, e3, rfl, hr3, hk3, he3, rfl⟩
 refine go 9 ?_
 exact ⟨.inr rfl, _, (RSt A B rw P l (k3) (u3) (e3) (0) (dp)), (res_one rfl (resv_cell [_] rfl rfl Tryz.isAgg102 Tryz.sizeOf102 (pk_all rfl rfl))), subS_of (.cons _ (.cons _ (.refl _))) (.refl _), ⟨⟨x1, true, 0⟩, k3, u3, e3, rfl, hr1.bind (.no (fun h => by rintro ⟨h, -⟩; cases h) (hr3.map (f := fun _ => AMutex.mk x1 true 0))), hk3, he3, rfl⟩⟩
set_option maxRecDepth 100000 in
set_option maxHeartbeats 1600000 in
theorem mutex_false (A B : List Box) (rw : List ORow) (P : Nat) (l : List Tok) (k b e dp : Nat) (hok : TOk l) (hk : k < l.length) (he : e < 16) : ACall Tryz.prog 61 [.c (.val (.pointer (some ⟨P, 0, none⟩))), .c (.val (.bool false))] [P] (RSt A B rw P l k b e 0 dp) (RAn A B rw P l 0 dp (fun x => .agg (encM x)) e b (mutexP l false k)) := by
 have hlen := hok.len
 refine acall_body Tryz.func61 rfl (Nat.le_of_ble_eq_true rfl) ?_
 show AWp Tryz.prog _ ⟨57, [P], ⟨A ++ ⟨P, 85, [.sl l.length (l.flatMap encT), .val (.int .i64 ((k : Nat) : Int)), .val (.int .i64 ((b : Nat) : Int)), .val (.int .i64 ((e : Nat) : Int)), .val (.int .i64 ((0 : Nat) : Int)), .val (.int .i64 ((dp : Nat) : Int))]⟩ :: B, rw⟩, [(0, .c (.val (.pointer (some ⟨P, 0, none⟩)))), (1, .c (.val (.bool false)))]⟩ _
 refine go 8 fun b1 => ?_
 refine wcP rfl rfl rfl rfl Tryz.call62 rfl (name_c (_ :: A) _ _ _ l k b e 0 dp hok hk he) (by simp) (by simp [Sto.bl]) ?_
 rintro t1 s1 ⟨x1, k1, u1, e1, rfl, hr1, hk1, he1, rfl⟩
 refine go 13 fun b2 => ?_
 refine wcP rfl rfl rfl rfl Tryz.call59 rfl (take_s (_ :: _ :: A) _ _ _ l k1 u1 e1 0 dp [91] (by decide) hok hk1) (by simp) (by simp [Sto.bl]) ?_
 rintro t2 s2 (⟨rfl, ha2, hm2, rfl, rfl⟩ | ⟨ha2, rfl, rfl⟩)
 ·refine go 8 ?_
  refine wcP rfl rfl rfl rfl Tryz.call56 rfl (kindd (_ :: _ :: A) _ _ _ l (k1 + 1) u1 0 0 dp 2 hm2) (by simp) (by simp [Sto.bl]) ?_
  rintro t4 s4 (⟨-, ha4, rfl, rfl⟩ | ⟨ha4, rfl, rfl⟩)
  ·refine go 7 ?_
   have hreg := (hok.reg _ (List.getElem_mem hm2)).2.2
   have hnum : numP l (k1 + 1) = .ok l[k1 + 1].num (k1 + 1 + 1) := by unfold numP; rw [if_pos ha4, tokAt_lt hm2]
   refine aw_region_drew [b1, P] (by kernel_rfl) ?_
   refine tks [(0, true), (1, true), (2, true), (3, true), (4, true), (5, true), (6, true), (7, true)] 5 (by kernel_rfl) ?_
   refine go 9 ?_
   refine tq 8 (by kernel_rfl) rfl rfl rfl rfl (ay_ix encT encT l encT_len (fun _ => rfl) (k1 + 1) rfl rfl rfl rfl hm2 (by decide) Tryz.runUnderlying47 Tryz.sizeOf72) ?_
   refine tks [(9, true), (10, true), (11, true), (12, false)] 0 (by kernel_rfl) ?_
   refine go 5 ?_
   refine any_done (by kernel_rfl) ?_
   refine go 4 ?_
   rcases (show l[k1 + 1].num < 1 ∨ (¬ l[k1 + 1].num < 1 ∧ 64 < l[k1 + 1].num) ∨ (¬ l[k1 + 1].num < 1 ∧ ¬ 64 < l[k1 + 1].num) by omega) with hs1 | ⟨hs1, hs2⟩ | ⟨hs1, hs2⟩
   ·have hsz : (l[k1 + 1].num < 1 ∨ 64 < l[k1 + 1].num) := by omega
    refine go 2 ?_
    refine wyy rfl rfl rfl (ay_cmp true rfl rfl rfl (by simp [cmpR]; omega)) ?_
    refine go 11 ?_
    refine wcP rfl rfl rfl rfl Tryz.call58 rfl (fail_c (_ :: _ :: A) _ _ _ l (k1 + 1) u1 0 0 dp 3) (by simp) (by simp [Sto.bl]) ?_
    rintro t7 s7 ⟨u7, e7, hf7, rfl, rfl⟩
    obtain ⟨rfl, rfl⟩ := hf7.1 rfl
    refine go 11 ?_
    exact ⟨.inr rfl, _, (RSt A B rw P l (k1 + 1) (k1 + 1) (3) (0) (dp)), (res_one rfl (resv_cell [_] rfl rfl Tryz.isAgg102 Tryz.sizeOf102 (pk_all rfl rfl))), subS_of (.cons _ (.cons _ (.refl _))) (.refl _), ⟨⟨x1, false, l[k1 + 1].num⟩, k1 + 1, k1 + 1, 3, rfl, hr1.bind (.yes (fun _ => ⟨rfl, ha2⟩) (RRun.bind (x := 0) (k := 0) (RRun.bind (.ok _ _ _ hnum) (.yes (fun _ => hsz) (.err _ _ _ _ _ rfl (by decide)))) (.skip (by decide) _ _ _))), hm2, (by decide), rfl⟩⟩
   ·have hsz : (l[k1 + 1].num < 1 ∨ 64 < l[k1 + 1].num) := by omega
    refine go 2 ?_
    refine wyy rfl rfl rfl (ay_cmp false rfl rfl rfl (by simp [cmpR]; omega)) ?_
    refine go 3 ?_
    refine wyy rfl rfl rfl (ay_cmp true rfl rfl rfl (by simp [cmpR]; omega)) ?_
    refine go 7 ?_
    refine wcP rfl rfl rfl rfl Tryz.call58 rfl (fail_c (_ :: _ :: A) _ _ _ l (k1 + 1) u1 0 0 dp 3) (by simp) (by simp [Sto.bl]) ?_
    rintro t9 s9 ⟨u9, e9, hf9, rfl, rfl⟩
    obtain ⟨rfl, rfl⟩ := hf9.1 rfl
    refine go 11 ?_
    exact ⟨.inr rfl, _, (RSt A B rw P l (k1 + 1) (k1 + 1) (3) (0) (dp)), (res_one rfl (resv_cell [_] rfl rfl Tryz.isAgg102 Tryz.sizeOf102 (pk_all rfl rfl))), subS_of (.cons _ (.cons _ (.refl _))) (.refl _), ⟨⟨x1, false, l[k1 + 1].num⟩, k1 + 1, k1 + 1, 3, rfl, hr1.bind (.yes (fun _ => ⟨rfl, ha2⟩) (RRun.bind (x := 0) (k := 0) (RRun.bind (.ok _ _ _ hnum) (.yes (fun _ => hsz) (.err _ _ _ _ _ rfl (by decide)))) (.skip (by decide) _ _ _))), hm2, (by decide), rfl⟩⟩
   ·have hsz : ¬ (l[k1 + 1].num < 1 ∨ 64 < l[k1 + 1].num) := by omega
    refine go 2 ?_
    refine wyy rfl rfl rfl (ay_cmp false rfl rfl rfl (by simp [cmpR]; omega)) ?_
    refine go 3 ?_
    refine wyy rfl rfl rfl (ay_cmp false rfl rfl rfl (by simp [cmpR]; omega)) ?_
    refine go 12 ?_
    refine wyy rfl rfl rfl (ay_add rfl rfl rfl (by omega) (by omega)) ?_
    refine go 6 ?_
    have hm := hok.last.more hm2 (by rw [ha4]; decide)
    refine go 1 ?_
    refine wcP rfl rfl rfl rfl Tryz.call76 rfl (must_c (_ :: _ :: A) _ _ _ l ((k1 + 1) + 1) u1 0 0 dp [93] (by decide) hok hm (by decide)) (by simp) (by simp [Sto.bl]) ?_
    rintro t11 s11 ⟨x11, k11, u11, e11, rfl, hr11, hk11, he11, rfl⟩
    refine go 5 ?_
    refine wcP rfl rfl rfl rfl Tryz.call76 rfl (must_c (_ :: _ :: A) _ _ _ l k11 u11 e11 0 dp [59] (by decide) hok hk11 he11) (by simp) (by simp [Sto.bl]) ?_
    rintro t12 s12 ⟨x12, k12, u12, e12, rfl, hr12, hk12, he12, rfl⟩
    refine go 9 ?_
    exact ⟨.inr rfl, _, (RSt A B rw P l (k12) (u12) (e12) (0) (dp)), (res_one rfl (resv_cell [_] rfl rfl Tryz.isAgg102 Tryz.sizeOf102 (pk_all rfl rfl))), subS_of (.cons _ (.cons _ (.refl _))) (.refl _), ⟨⟨x1, false, l[k1 + 1].num⟩, k12, u12, e12, rfl, hr1.bind (.yes (fun _ => ⟨rfl, ha2⟩) (RRun.bind (RRun.bind (.ok _ _ _ hnum) (.no (fun _ => hsz) (.ok _ _ _ rfl))) (hr11.bind (hr12.map (f := fun _ => AMutex.mk x1 false l[k1 + 1].num))))), hk12, he12, rfl⟩⟩
  ·refine go 7 ?_
   refine wcP rfl rfl rfl rfl Tryz.call58 rfl (fail_c (_ :: _ :: A) _ _ _ l (k1 + 1) u1 0 0 dp 4) (by simp) (by simp [Sto.bl]) ?_
   rintro t14 s14 ⟨u14, e14, hf14, rfl, rfl⟩
   obtain ⟨rfl, rfl⟩ := hf14.1 rfl
   refine go 11 ?_
   exact ⟨.inr rfl, _, (RSt A B rw P l (k1 + 1) (k1 + 1) (4) (0) (dp)), (res_one rfl (resv_cell [_] rfl rfl Tryz.isAgg102 Tryz.sizeOf102 (pk_all rfl rfl))), subS_of (.cons _ (.cons _ (.refl _))) (.refl _), ⟨⟨x1, false, 0⟩, k1 + 1, k1 + 1, 4, rfl, hr1.bind (.yes (fun _ => ⟨rfl, ha2⟩) (RRun.bind (x := 0) (k := 0) (RRun.bind (x := 0) (k := 0) (.err _ _ _ _ _ (by unfold numP; rw [if_neg (ha4 rfl)]) (by decide)) (.skip (by decide) _ _ _)) (.skip (by decide) _ _ _))), hm2, (by decide), rfl⟩⟩
 ·refine go 9 ?_
  refine wcP rfl rfl rfl rfl Tryz.call76 rfl (must_c (_ :: _ :: A) _ _ _ l k1 u1 e1 0 dp [59] (by decide) hok hk1 he1) (by simp) (by simp [Sto.bl]) ?_
  rintro t16 s16 ⟨x16, k16, u16, e16, rfl, hr16, hk16, he16, rfl⟩
  refine go 9 ?_
  exact ⟨.inr rfl, _, (RSt A B rw P l (k16) (u16) (e16) (0) (dp)), (res_one rfl (resv_cell [_] rfl rfl Tryz.isAgg102 Tryz.sizeOf102 (pk_all rfl rfl))), subS_of (.cons _ (.cons _ (.refl _))) (.refl _), ⟨⟨x1, false, 0⟩, k16, u16, e16, rfl, hr1.bind (.no (fun h => by rintro ⟨-, h9⟩; rw [ha2 h] at h9; cases h9) (hr16.map (f := fun _ => AMutex.mk x1 false 0))), hk16, he16, rfl⟩⟩
end Go.Proofs.YtflcnehhpmjipaaGreatDoor
namespace Go.Proofs.YtflcnehhpmjipaaGreatDoor
open Go.RowKit
set_option synthInstance.maxHeartbeats 1000000
set_option synthInstance.maxSize 1000000
set_option linter.all false
theorem TOk.of {s : List UInt8} {l : List Tok} (h : lexL s = .ok l) : TOk l := ⟨(lexL_toks h).ends, (lexL_toks h).reg, by have := (lexL_toks h).few; omega⟩
def progX (s : List UInt8) : AProg × Nat × Nat :=
 match lexL s with
 | .err p e => (⟨[], [], []⟩, p, e)
 | .ok l => match programP l with
  | .ok x _ => (x, s.length, 0)
  | .err k e => (⟨[], [], []⟩, (tokAt l k).pos, e)
theorem progX_lex {s : List UInt8} {p e : Nat} (h : lexL s = .err p e) : progX s = (⟨[], [], []⟩, p, e) := by unfold progX; rw [h]
theorem progX_bad {s : List UInt8} {l : List Tok} {k e : Nat} (h : lexL s = .ok l) (h2 : programP l = .err k e) (hk : k < l.length) : progX s = (⟨[], [], []⟩, l[k].pos, e) := by unfold progX; rw [h]; dsimp only; rw [h2]; dsimp only; rw [tokAt_lt hk]
theorem progX_good {s : List UInt8} {l : List Tok} {x : AProg} {k : Nat} (h : lexL s = .ok l) (h2 : programP l = .ok x k) : progX s = (x, s.length, 0) := by unfold progX; rw [h]; dsimp only; rw [h2]
theorem words_eq {l : List Tok} {k : Nat} {a b : List UInt8} (ha : wordAt l k a = true) (hb : wordAt l k b = true) : bytes a = bytes b := by
 rw [← (wordAt_kind ha).2, ← (wordAt_kind hb).2]
set_option maxRecDepth 100000 in
set_option maxHeartbeats 3200000 in
theorem rProgram_c (bs : List UInt8) (s : Sto) : ACall Tryz.prog 34 [.c (.sl bs.length (srcA bs))] [] s fun t s' => t = .tup [.agg (encPr (progX bs).1), .c (.val (.int .i64 ((progX bs).2.1 : Int))), .c (.val (.int .i64 ((progX bs).2.2 : Int)))] ∧ s' = s := by
 obtain ⟨bx, rw⟩ := s
 refine acall_body Tryz.func34 rfl (Nat.le_of_ble_eq_true rfl) ?_
 show AWp Tryz.prog _ ⟨146, [], ⟨bx, rw⟩, [(0, .c (.sl bs.length (srcA bs)))]⟩ _
 refine go 10 fun b1 => ?_
 refine wo rfl (wcall [] rfl rfl (by decide) Tryz.call19 rfl (rLex_c bs _) (fun _ h => by cases h) (fun _ h => by cases h) (fun _ _ h => by cases h) ?_)
 rintro t1 s1 ⟨⟨l, hlx, rfl, hfew⟩ | ⟨p0, er, hlx, rfl, her⟩, rfl⟩
 ·have hok := TOk.of hlx
  have hlen := hok.len
  have hk : 0 < l.length := hok.last.1
  have he : (0 : Nat) < 16 := by decide
  refine go 13 ?_
  refine wyy rfl rfl rfl (ay_cmp false rfl rfl rfl (by rfl)) ?_
  refine go 18 fun P b3 => ?_
  refine wrow 65 3 ?_
  refine wrow 102 3 ?_
  refine wrow 104 2 ?_
  refine aw_loop (fun g : AProg × Value × Value × Value × Nat × Nat × Nat => (⟨146, rowB g.2.1 ++ (rowB g.2.2.1 ++ (rowB g.2.2.2.1 ++ [b3, P, b1])), ⟨⟨b3, 40, [.val g.2.1, .val g.2.2.1, .val g.2.2.2.1]⟩ :: ⟨P, 85, [.sl l.length (l.flatMap encT), .val (.int .i64 (((g.2.2.2.2.1) : Nat) : Int)), .val (.int .i64 (((g.2.2.2.2.2.1) : Nat) : Int)), .val (.int .i64 (((g.2.2.2.2.2.2) : Nat) : Int)), .val (.int .i64 ((0 : Nat) : Int)), .val (.int .i64 ((0 : Nat) : Int))]⟩ :: ⟨b1, 40, [.val (.slice none 0 0), .val (.slice none 0 0), .val (.slice none 0 0)]⟩ :: bx, ⟨g.2.1, 104, 2, (g.1).globals.length, (g.1).globals.flatMap encG⟩ :: ⟨g.2.2.1, 102, 3, (g.1).mutexes.length, (g.1).mutexes.flatMap encM⟩ :: ⟨g.2.2.2.1, 65, 3, (g.1).funcs.length, (g.1).funcs.flatMap encF⟩ :: rw⟩, [(9, .c (.val (.pointer (some ⟨P, 0, none⟩)))), (8, .c (.val (.pointer (some ⟨b3, 0, none⟩)))), (6, .c (.val (.int .i64 (bs.length : Int)))), (5, .c (.sl l.length (l.flatMap encT))), (2, .c (.val (.pointer (some ⟨b1, 0, none⟩))))]⟩ : AS)) (fun g => g.2.2.2.2.1 < l.length ∧ g.2.2.2.2.2.2 < 16 ∧ (g.2.2.2.2.2.2 = 0 → g.1.globals.length ≤ 16 ∧ g.1.mutexes.length ≤ 12 ∧ g.1.funcs.length ≤ 16) ∧ (g.2.2.2.2.2.2 ≠ 0 → RRun 0 0 (programP l) g.1 g.2.2.2.2.1 g.2.2.2.2.2.1 g.2.2.2.2.2.2) ∧ (g.2.2.2.2.2.2 = 0 → g.2.2.2.2.2.1 = 0 ∧ ∃ n, l.length ≤ n + g.2.2.2.2.1 ∧ ∀ z k' b' e', RRun 0 0 (progP l n g.1 g.2.2.2.2.1) z k' b' e' → RRun 0 0 (programP l) z k' b' e')) (fun g => if g.2.2.2.2.2.2 = 0 then l.length - g.2.2.2.2.1 + 1 else 0) (⟨[], [], []⟩, .slice none 0 0, .slice none 0 0, .slice none 0 0, 0, 0, 0) (subA (.refl _) (.refl _) (by intro x hx; simpa [rowB, Value.ownBlock] using hx) (sub_cons rfl (Wk.refl _) (sub_cons rfl (Wk.refl _) (sub_cons rfl (Wk.refl _) (sub_cons rfl (Wk.refl _) (sub_cons rfl (Wk.refl _) sub_nil)))))) ⟨hk, he, fun _ => ⟨Nat.zero_le _, Nat.zero_le _, Nat.zero_le _⟩, fun h => absurd rfl h, fun _ => ⟨rfl, l.length, Nat.le_add_right _ _, fun z k' b' e' h2 => h2⟩⟩ ?_
  rintro ⟨x0, vg, vm, vf, k0, b0, e0⟩ ⟨hk0, he0, ha0, hn0, hc0⟩
  dsimp only at hk0 he0 ha0 hn0 hc0
  show AWp Tryz.prog _ (⟨146, rowB vg ++ (rowB vm ++ (rowB vf ++ [b3, P, b1])), ⟨⟨b3, 40, [.val vg, .val vm, .val vf]⟩ :: ⟨P, 85, [.sl l.length (l.flatMap encT), .val (.int .i64 (((k0) : Nat) : Int)), .val (.int .i64 (((b0) : Nat) : Int)), .val (.int .i64 (((e0) : Nat) : Int)), .val (.int .i64 ((0 : Nat) : Int)), .val (.int .i64 ((0 : Nat) : Int))]⟩ :: ⟨b1, 40, [.val (.slice none 0 0), .val (.slice none 0 0), .val (.slice none 0 0)]⟩ :: bx, ⟨vg, 104, 2, (x0).globals.length, (x0).globals.flatMap encG⟩ :: ⟨vm, 102, 3, (x0).mutexes.length, (x0).mutexes.flatMap encM⟩ :: ⟨vf, 65, 3, (x0).funcs.length, (x0).funcs.flatMap encF⟩ :: rw⟩, [(9, .c (.val (.pointer (some ⟨P, 0, none⟩)))), (8, .c (.val (.pointer (some ⟨b3, 0, none⟩)))), (6, .c (.val (.int .i64 (bs.length : Int)))), (5, .c (.sl l.length (l.flatMap encT))), (2, .c (.val (.pointer (some ⟨b1, 0, none⟩))))]⟩ : AS) _
  by_cases h0 : e0 = 0
  ·subst h0
   obtain ⟨hl1, hl2, hl3⟩ := ha0 rfl
   obtain ⟨rfl, n0, hn1, hcont⟩ := hc0 rfl
   refine go 7 ?_
   refine wyy rfl rfl rfl (ay_cmp true rfl rfl rfl (by rfl)) ?_
   refine go 2 ?_
   refine wcP rfl rfl rfl rfl Tryz.call56 rfl (kindd [_] _ _ _ l k0 0 0 0 0 5 hk0) (by simp) (by simp [Sto.bl]) ?_
   rintro t3 s3 (⟨-, ha3, rfl, rfl⟩ | ⟨ha3, rfl, rfl⟩)
   ·refine go 13 ?_
    obtain ⟨m, rfl⟩ : ∃ m, n0 = m + 1 := ⟨n0 - 1, by omega⟩
    have hfin := hcont x0 k0 0 0 (by rw [progP, if_pos ha3]; exact .ok _ _ _ rfl)
    have hgood : programP l = .ok x0 k0 := (hfin.good rfl).2.1
    refine go 4 ?_
    refine wyy rfl rfl rfl (ay_cmp false rfl rfl rfl (by rfl)) ?_
    refine go 7 ?_
    refine wfrzb [] 0 rfl rfl ?_
    refine wfrzb [] 1 rfl rfl ?_
    refine wfrzb [] 2 rfl rfl ?_
    refine go 8 ?_
    exact ⟨.inr rfl, _, ⟨bx, rw⟩, (res_three rfl (resv_cell [_, _] rfl rfl Tryz.isAgg40 Tryz.sizeOf40 (pk_all rfl rfl)) (resv_tmp rfl) (resv_tmp rfl)), subS_of (.cons _ (.cons _ (.cons _ (.refl _)))) (.refl _), by rw [progX_good hlx hgood]; rfl, rfl⟩
   ·refine go 10 ?_
    have hk5 : ¬ (tokAt l k0).kind = 5 := ha3 rfl
    refine go 1 ?_
    refine wcP rfl rfl rfl rfl Tryz.call57 rfl (isd_w [_] _ _ _ l k0 0 0 0 0 [118, 97, 114] (by decide) hok hk0) (by simp) (by simp [Sto.bl]) ?_
    rintro t7 s7 (⟨-, ha7, rfl, rfl⟩ | ⟨ha7, rfl, rfl⟩)
    ·refine go 1 ?_
     refine wcP rfl rfl rfl rfl Tryz.call57 rfl (isd_w [_] _ _ _ l k0 0 0 0 0 [109, 117, 116, 101, 120] (by decide) hok hk0) (by simp) (by simp [Sto.bl]) ?_
     rintro t8 s8 (⟨-, ha8, rfl, rfl⟩ | ⟨ha8, rfl, rfl⟩)
     ·exact absurd (words_eq ha8 ha7) (by decide)
     ·refine go 2 ?_
      refine wcP rfl rfl rfl rfl Tryz.call57 rfl (isd_w [_] _ _ _ l k0 0 0 0 0 [114, 109, 117, 116, 101, 120] (by decide) hok hk0) (by simp) (by simp [Sto.bl]) ?_
      rintro t9 s9 (⟨-, ha9, rfl, rfl⟩ | ⟨ha9, rfl, rfl⟩)
      ·exact absurd (words_eq ha9 ha7) (by decide)
      ·refine go 2 ?_
       refine wcP rfl rfl rfl rfl Tryz.call57 rfl (isd_w [_] _ _ _ l k0 0 0 0 0 [102, 117, 110, 99] (by decide) hok hk0) (by simp) (by simp [Sto.bl]) ?_
       rintro t10 s10 (⟨-, ha10, rfl, rfl⟩ | ⟨ha10, rfl, rfl⟩)
       ·exact absurd (words_eq ha10 ha7) (by decide)
       ·refine go 8 ?_
        by_cases hglobals : x0.globals.length = 16
        ·skip
         refine go 4 ?_
         refine wyy rfl rfl rfl (ay_len_row [] rfl rfl rfl Tryz.runUnderlying36) ?_
         refine wyy rfl rfl rfl (ay_cmp true rfl rfl rfl (by rw [hglobals]; rfl)) ?_
         refine go 24 ?_
         refine wcP rfl rfl rfl rfl Tryz.call58 rfl (fail_c [_] _ _ _ l k0 0 0 0 0 3) (by simp) (by simp [Sto.bl]) ?_
         rintro t12 s12 ⟨u12, e12, hf12, rfl, rfl⟩
         obtain ⟨rfl, rfl⟩ := hf12.1 rfl
         refine go 6 ?_
         refine wcP rfl rfl rfl rfl Tryz.call59 rfl (take_w [_] _ _ _ l k0 k0 3 0 0 [118, 97, 114] (by decide) hok hk0) (by simp) (by simp [Sto.bl]) ?_
         rintro t13 s13 (⟨hz13, -⟩ | ⟨ha13, rfl, rfl⟩)
         ·exact absurd hz13 (by decide)
         ·refine go 7 ?_
          refine wcP rfl rfl rfl rfl Tryz.call59 rfl (take_w [_] _ _ _ l k0 k0 3 0 0 [109, 117, 116, 101, 120] (by decide) hok hk0) (by simp) (by simp [Sto.bl]) ?_
          rintro t15 s15 (⟨hz15, -⟩ | ⟨ha15, rfl, rfl⟩)
          ·exact absurd hz15 (by decide)
          ·refine go 7 ?_
           refine wcP rfl rfl rfl rfl Tryz.call59 rfl (take_w [_] _ _ _ l k0 k0 3 0 0 [114, 109, 117, 116, 101, 120] (by decide) hok hk0) (by simp) (by simp [Sto.bl]) ?_
           rintro t17 s17 (⟨hz17, -⟩ | ⟨ha17, rfl, rfl⟩)
           ·exact absurd hz17 (by decide)
           ·refine go 7 ?_
            refine wcP rfl rfl rfl rfl Tryz.call59 rfl (take_w [_] _ _ _ l k0 k0 3 0 0 [102, 117, 110, 99] (by decide) hok hk0) (by simp) (by simp [Sto.bl]) ?_
            rintro t19 s19 (⟨hz19, -⟩ | ⟨ha19, rfl, rfl⟩)
            ·exact absurd hz19 (by decide)
            ·refine go 6 ?_
             refine wcP rfl rfl rfl rfl Tryz.call58 rfl (fail_c [_] _ _ _ l k0 k0 3 0 0 4) (by simp) (by simp [Sto.bl]) ?_
             rintro t21 s21 ⟨u21, e21, hf21, rfl, rfl⟩
             obtain ⟨rfl, rfl⟩ := hf21.2 (by decide)
             refine go 3 ?_
             obtain ⟨m, rfl⟩ : ∃ m, n0 = m + 1 := ⟨n0 - 1, by omega⟩
             have hel : RRun 0 0 (declP l x0 k0) x0 k0 k0 3 := .err _ _ _ _ _ (by unfold declP; rw [if_pos ha7, if_pos (by omega)]) (by decide)
             have hst : ∀ z k' b' e', RRun 3 k0 (progP l m x0 k0) z k' b' e' → RRun 0 0 (programP l) z k' b' e' := fun z k' b' e' h => hcont z k' b' e' (by rw [progP, if_neg hk5]; exact hel.bind h)
             have hgo : 3 = 0 → k0 < k0 ∧ k0 = 0 := fun h => by have h9 := declP_in hok.last (x := x0) hk0; rw [(hel.good h).2.1] at h9; exact ⟨h9.1, (hel.good h).2.2⟩
             refine ⟨(x0, vg, vm, vf, k0, k0, 3), ⟨hk0, (show (3 : Nat) < 16 by decide), fun h => ?_, fun h => hst _ _ _ _ (.skip h _ _ _), fun h => ⟨(hgo h).2, m, ?_, fun z k' b' e' h2 => hst _ _ _ _ ?_⟩⟩, ?_, subA (.refl _) (.refl _) (by intro x hx; simp only [List.mem_append, List.mem_cons, List.not_mem_nil, or_false] at hx ⊢; rcases hx with h | h | h | h | h | h <;> simp [h]) (sub_cons rfl (Wk.refl _) (sub_cons rfl (Wk.refl _) (sub_cons rfl (Wk.refl _) (sub_cons rfl (Wk.refl _) (sub_cons rfl (Wk.refl _) sub_nil)))))⟩
             ·exact absurd h (show ¬ (3 : Nat) = 0 by decide)
             ·have := hgo h; show l.length ≤ m + k0; omega
             ·exact absurd h (show ¬ (3 : Nat) = 0 by decide)
             ·show (if 3 = 0 then _ else _) < (if (0 : Nat) = 0 then _ else _)
              by_cases h : 3 = 0
              ·have := hgo h; rw [if_pos h, if_pos rfl]; show l.length - k0 + 1 < l.length - k0 + 1; omega
              ·rw [if_neg h, if_pos rfl]; show 0 < l.length - k0 + 1; omega
        ·skip
         refine go 4 ?_
         refine wyy rfl rfl rfl (ay_len_row [] rfl rfl rfl Tryz.runUnderlying36) ?_
         refine wyy rfl rfl rfl (ay_cmp false rfl rfl rfl (by rw [show cmpR .eql ((x0.globals.length : Nat) : Int) 16 = some (decide (x0.globals.length = 16)) from cmp_nat (n := 16), decide_eq_false hglobals])) ?_
         refine go 28 ?_
         refine wcP rfl rfl rfl rfl Tryz.call59 rfl (take_w [_] _ _ _ l k0 0 0 0 0 [118, 97, 114] (by decide) hok hk0) (by simp) (by simp [Sto.bl]) ?_
         rintro t23 s23 (⟨-, ha23, hm23, rfl, rfl⟩ | ⟨ha23, rfl, rfl⟩)
         ·refine go 4 ?_
          refine aw_region_drew [] (by kernel_rfl) ?_
          refine tks [(0, true), (2, true)] 6 (by kernel_rfl) ?_
          refine go 3 ?_
          refine two 1 3 (by kernel_rfl) rfl rfl rfl rfl ?_ ?_
          ·refine way rfl (by decide) (ay_load_box [] rfl rfl rfl Tryz.isAgg36 Tryz.sizeOf36 rfl (fun _ h => by cases h)) ?_
           refine one 3 (by kernel_rfl) rfl rfl (wcall [P] rfl rfl (by decide) Tryz.call60 rfl (global_c [_] _ _ _ l (k0 + 1) 0 0 0 hok hm23 (by decide)) (by intro b hb; simp at hb; subst hb; simp) (by intro b hb; simp at hb; subst hb; simp [Sto.bl]) (by intro h b hb; simp at hb; subst hb; exact offN (by simp [Sto.bl])) ?_)
           rintro t25 s25 ⟨x25, k25, u25, e25, rfl, hr25, hk25, he25, rfl⟩
           refine one 4 (by kernel_rfl) rfl rfl (wbs Tryz.t104 [.val (.string ⟨#[]⟩), .val (.int .i64 0)] rfl rfl (by decide) (.cons rfl .nil) Tryz.underlying36 (by kernel_rfl) rfl (by decide) (by decide) (by kernel_rfl) (by kernel_rfl) (fill_one encG encG x25 rfl rfl rfl) ?_)
           refine one 5 (by kernel_rfl) rfl rfl (wapI [] Tryz.t104 24 rfl rfl (by decide) rfl rfl Tryz.underlying36 (by kernel_rfl) rfl rfl rfl rfl (by decide) rfl (by decide) (by unfold maxLen; skip; omega) (by skip; omega) (@List.length_append _ x0.globals [x25]).symm (fun _ b hb => offN (by simp [Sto.bl, hb])) (fun b hb => by simp [hb]) (List.flatMap_append (f := encG)).symm fun v26 => ?_)
           refine tks [(6, true), (7, false)] 0 (by kernel_rfl) ?_
           refine go 3 ?_
           refine any_done (by kernel_rfl) ?_
           refine go 2 ?_
           obtain ⟨m, rfl⟩ : ∃ m, n0 = m + 1 := ⟨n0 - 1, by omega⟩
           have hel : RRun 0 0 (declP l x0 k0) { x0 with globals := x0.globals ++ [x25] } k25 u25 e25 := (hr25.map (f := fun g => { x0 with globals := x0.globals ++ [g] })).eq fun _ => by unfold declP; rw [if_pos ha7, if_neg (by omega)]
           have hst : ∀ z k' b' e', RRun e25 u25 (progP l m { x0 with globals := x0.globals ++ [x25] } k25) z k' b' e' → RRun 0 0 (programP l) z k' b' e' := fun z k' b' e' h => hcont z k' b' e' (by rw [progP, if_neg hk5]; exact hel.bind h)
           have hgo : e25 = 0 → k0 < k25 ∧ u25 = 0 := fun h => by have h9 := declP_in hok.last (x := x0) hk0; rw [(hel.good h).2.1] at h9; exact ⟨h9.1, (hel.good h).2.2⟩
           refine ⟨({ x0 with globals := x0.globals ++ [x25] }, v26, vm, vf, k25, u25, e25), ⟨hk25, he25, fun h => ?_, fun h => hst _ _ _ _ (.skip h _ _ _), fun h => ⟨(hgo h).2, m, ?_, fun z k' b' e' h2 => hst _ _ _ _ ?_⟩⟩, ?_, subA (.refl _) (.refl _) (by intro x hx; simp only [List.mem_append, List.mem_cons, List.not_mem_nil, or_false] at hx ⊢; rcases hx with h | h | h | h | h | h <;> simp [h]) (sub_cons rfl (Wk.refl _) (sub_cons rfl (Wk.refl _) (sub_cons rfl (Wk.refl _) (sub_cons rfl (Wk.refl _) (sub_cons rfl (Wk.refl _) sub_nil)))))⟩
           ·simp; omega
           ·have := hgo h; show l.length ≤ m + k25; omega
           ·rw [show e25 = 0 from h, show u25 = 0 from (hgo h).2]; exact h2
           ·show (if e25 = 0 then _ else _) < (if (0 : Nat) = 0 then _ else _)
            by_cases h : e25 = 0
            ·have := hgo h; rw [if_pos h, if_pos rfl]; show l.length - k25 + 1 < l.length - k0 + 1; omega
            ·rw [if_neg h, if_pos rfl]; show 0 < l.length - k0 + 1; omega
          ·refine (wcall [P] rfl rfl (by decide) Tryz.call60 rfl (global_c [_] _ _ _ l (k0 + 1) 0 0 0 hok hm23 (by decide)) (by intro b hb; simp at hb; subst hb; simp) (by intro b hb; simp at hb; subst hb; simp [Sto.bl]) (by intro h b hb; simp at hb; subst hb; exact offN (by simp [Sto.bl])) ?_)
           rintro t27 s27 ⟨x27, k27, u27, e27, rfl, hr27, hk27, he27, rfl⟩
           refine two 1 4 (by kernel_rfl) rfl rfl rfl rfl ?_ ?_
           ·refine way rfl (by decide) (ay_load_box [] rfl rfl rfl Tryz.isAgg36 Tryz.sizeOf36 rfl (fun _ h => by cases h)) ?_
            refine one 4 (by kernel_rfl) rfl rfl (wbs Tryz.t104 [.val (.string ⟨#[]⟩), .val (.int .i64 0)] rfl rfl (by decide) (.cons rfl .nil) Tryz.underlying36 (by kernel_rfl) rfl (by decide) (by decide) (by kernel_rfl) (by kernel_rfl) (fill_one encG encG x27 rfl rfl rfl) ?_)
            refine one 5 (by kernel_rfl) rfl rfl (wapI [] Tryz.t104 24 rfl rfl (by decide) rfl rfl Tryz.underlying36 (by kernel_rfl) rfl rfl rfl rfl (by decide) rfl (by decide) (by unfold maxLen; skip; omega) (by skip; omega) (@List.length_append _ x0.globals [x27]).symm (fun _ b hb => offN (by simp [Sto.bl, hb])) (fun b hb => by simp [hb]) (List.flatMap_append (f := encG)).symm fun v28 => ?_)
            refine tks [(6, true), (7, false)] 0 (by kernel_rfl) ?_
            refine go 3 ?_
            refine any_done (by kernel_rfl) ?_
            refine go 2 ?_
            obtain ⟨m, rfl⟩ : ∃ m, n0 = m + 1 := ⟨n0 - 1, by omega⟩
            have hel : RRun 0 0 (declP l x0 k0) { x0 with globals := x0.globals ++ [x27] } k27 u27 e27 := (hr27.map (f := fun g => { x0 with globals := x0.globals ++ [g] })).eq fun _ => by unfold declP; rw [if_pos ha7, if_neg (by omega)]
            have hst : ∀ z k' b' e', RRun e27 u27 (progP l m { x0 with globals := x0.globals ++ [x27] } k27) z k' b' e' → RRun 0 0 (programP l) z k' b' e' := fun z k' b' e' h => hcont z k' b' e' (by rw [progP, if_neg hk5]; exact hel.bind h)
            have hgo : e27 = 0 → k0 < k27 ∧ u27 = 0 := fun h => by have h9 := declP_in hok.last (x := x0) hk0; rw [(hel.good h).2.1] at h9; exact ⟨h9.1, (hel.good h).2.2⟩
            refine ⟨({ x0 with globals := x0.globals ++ [x27] }, v28, vm, vf, k27, u27, e27), ⟨hk27, he27, fun h => ?_, fun h => hst _ _ _ _ (.skip h _ _ _), fun h => ⟨(hgo h).2, m, ?_, fun z k' b' e' h2 => hst _ _ _ _ ?_⟩⟩, ?_, subA (.refl _) (.refl _) (by intro x hx; simp only [List.mem_append, List.mem_cons, List.not_mem_nil, or_false] at hx ⊢; rcases hx with h | h | h | h | h | h <;> simp [h]) (sub_cons rfl (Wk.refl _) (sub_cons rfl (Wk.refl _) (sub_cons rfl (Wk.refl _) (sub_cons rfl (Wk.refl _) (sub_cons rfl (Wk.refl _) sub_nil)))))⟩
            ·simp; omega
            ·have := hgo h; show l.length ≤ m + k27; omega
            ·rw [show e27 = 0 from h, show u27 = 0 from (hgo h).2]; exact h2
            ·show (if e27 = 0 then _ else _) < (if (0 : Nat) = 0 then _ else _)
             by_cases h : e27 = 0
             ·have := hgo h; rw [if_pos h, if_pos rfl]; show l.length - k27 + 1 < l.length - k0 + 1; omega
             ·rw [if_neg h, if_pos rfl]; show 0 < l.length - k0 + 1; omega
           ·refine (wbs Tryz.t104 [.val (.string ⟨#[]⟩), .val (.int .i64 0)] rfl rfl (by decide) (.cons rfl .nil) Tryz.underlying36 (by kernel_rfl) rfl (by decide) (by decide) (by kernel_rfl) (by kernel_rfl) (fill_one encG encG x27 rfl rfl rfl) ?_)
            refine one 1 (by kernel_rfl) rfl rfl (way rfl (by decide) (ay_load_box [] rfl rfl rfl Tryz.isAgg36 Tryz.sizeOf36 rfl (fun _ h => by cases h)) ?_)
            refine one 5 (by kernel_rfl) rfl rfl (wapI [] Tryz.t104 24 rfl rfl (by decide) rfl rfl Tryz.underlying36 (by kernel_rfl) rfl rfl rfl rfl (by decide) rfl (by decide) (by unfold maxLen; skip; omega) (by skip; omega) (@List.length_append _ x0.globals [x27]).symm (fun _ b hb => offN (by simp [Sto.bl, hb])) (fun b hb => by simp [hb]) (List.flatMap_append (f := encG)).symm fun v29 => ?_)
            refine tks [(6, true), (7, false)] 0 (by kernel_rfl) ?_
            refine go 3 ?_
            refine any_done (by kernel_rfl) ?_
            refine go 2 ?_
            obtain ⟨m, rfl⟩ : ∃ m, n0 = m + 1 := ⟨n0 - 1, by omega⟩
            have hel : RRun 0 0 (declP l x0 k0) { x0 with globals := x0.globals ++ [x27] } k27 u27 e27 := (hr27.map (f := fun g => { x0 with globals := x0.globals ++ [g] })).eq fun _ => by unfold declP; rw [if_pos ha7, if_neg (by omega)]
            have hst : ∀ z k' b' e', RRun e27 u27 (progP l m { x0 with globals := x0.globals ++ [x27] } k27) z k' b' e' → RRun 0 0 (programP l) z k' b' e' := fun z k' b' e' h => hcont z k' b' e' (by rw [progP, if_neg hk5]; exact hel.bind h)
            have hgo : e27 = 0 → k0 < k27 ∧ u27 = 0 := fun h => by have h9 := declP_in hok.last (x := x0) hk0; rw [(hel.good h).2.1] at h9; exact ⟨h9.1, (hel.good h).2.2⟩
            refine ⟨({ x0 with globals := x0.globals ++ [x27] }, v29, vm, vf, k27, u27, e27), ⟨hk27, he27, fun h => ?_, fun h => hst _ _ _ _ (.skip h _ _ _), fun h => ⟨(hgo h).2, m, ?_, fun z k' b' e' h2 => hst _ _ _ _ ?_⟩⟩, ?_, subA (.refl _) (.refl _) (by intro x hx; simp only [List.mem_append, List.mem_cons, List.not_mem_nil, or_false] at hx ⊢; rcases hx with h | h | h | h | h | h <;> simp [h]) (sub_cons rfl (Wk.refl _) (sub_cons rfl (Wk.refl _) (sub_cons rfl (Wk.refl _) (sub_cons rfl (Wk.refl _) (sub_cons rfl (Wk.refl _) sub_nil)))))⟩
            ·simp; omega
            ·have := hgo h; show l.length ≤ m + k27; omega
            ·rw [show e27 = 0 from h, show u27 = 0 from (hgo h).2]; exact h2
            ·show (if e27 = 0 then _ else _) < (if (0 : Nat) = 0 then _ else _)
             by_cases h : e27 = 0
             ·have := hgo h; rw [if_pos h, if_pos rfl]; show l.length - k27 + 1 < l.length - k0 + 1; omega
             ·rw [if_neg h, if_pos rfl]; show 0 < l.length - k0 + 1; omega
         ·exact absurd (ha23 rfl) (by rw [ha7]; decide)
    ·refine go 1 ?_
     refine wcP rfl rfl rfl rfl Tryz.call57 rfl (isd_w [_] _ _ _ l k0 0 0 0 0 [109, 117, 116, 101, 120] (by decide) hok hk0) (by simp) (by simp [Sto.bl]) ?_
     rintro t30 s30 (⟨-, ha30, rfl, rfl⟩ | ⟨ha30, rfl, rfl⟩)
     ·refine go 5 ?_
      refine wcP rfl rfl rfl rfl Tryz.call57 rfl (isd_w [_] _ _ _ l k0 0 0 0 0 [102, 117, 110, 99] (by decide) hok hk0) (by simp) (by simp [Sto.bl]) ?_
      rintro t31 s31 (⟨-, ha31, rfl, rfl⟩ | ⟨ha31, rfl, rfl⟩)
      ·exact absurd (words_eq ha31 ha30) (by decide)
      ·refine go 9 ?_
       by_cases hmutexes : x0.mutexes.length = 12
       ·skip
        refine go 11 ?_
        refine wyy rfl rfl rfl (ay_len_row [_] rfl rfl rfl Tryz.runUnderlying37) ?_
        refine wyy rfl rfl rfl (ay_cmp true rfl rfl rfl (by rw [hmutexes]; rfl)) ?_
        refine go 16 ?_
        refine wcP rfl rfl rfl rfl Tryz.call58 rfl (fail_c [_] _ _ _ l k0 0 0 0 0 3) (by simp) (by simp [Sto.bl]) ?_
        rintro t33 s33 ⟨u33, e33, hf33, rfl, rfl⟩
        obtain ⟨rfl, rfl⟩ := hf33.1 rfl
        refine go 6 ?_
        refine wcP rfl rfl rfl rfl Tryz.call59 rfl (take_w [_] _ _ _ l k0 k0 3 0 0 [118, 97, 114] (by decide) hok hk0) (by simp) (by simp [Sto.bl]) ?_
        rintro t34 s34 (⟨hz34, -⟩ | ⟨ha34, rfl, rfl⟩)
        ·exact absurd hz34 (by decide)
        ·refine go 7 ?_
         refine wcP rfl rfl rfl rfl Tryz.call59 rfl (take_w [_] _ _ _ l k0 k0 3 0 0 [109, 117, 116, 101, 120] (by decide) hok hk0) (by simp) (by simp [Sto.bl]) ?_
         rintro t36 s36 (⟨hz36, -⟩ | ⟨ha36, rfl, rfl⟩)
         ·exact absurd hz36 (by decide)
         ·refine go 7 ?_
          refine wcP rfl rfl rfl rfl Tryz.call59 rfl (take_w [_] _ _ _ l k0 k0 3 0 0 [114, 109, 117, 116, 101, 120] (by decide) hok hk0) (by simp) (by simp [Sto.bl]) ?_
          rintro t38 s38 (⟨hz38, -⟩ | ⟨ha38, rfl, rfl⟩)
          ·exact absurd hz38 (by decide)
          ·refine go 7 ?_
           refine wcP rfl rfl rfl rfl Tryz.call59 rfl (take_w [_] _ _ _ l k0 k0 3 0 0 [102, 117, 110, 99] (by decide) hok hk0) (by simp) (by simp [Sto.bl]) ?_
           rintro t40 s40 (⟨hz40, -⟩ | ⟨ha40, rfl, rfl⟩)
           ·exact absurd hz40 (by decide)
           ·refine go 6 ?_
            refine wcP rfl rfl rfl rfl Tryz.call58 rfl (fail_c [_] _ _ _ l k0 k0 3 0 0 4) (by simp) (by simp [Sto.bl]) ?_
            rintro t42 s42 ⟨u42, e42, hf42, rfl, rfl⟩
            obtain ⟨rfl, rfl⟩ := hf42.2 (by decide)
            refine go 3 ?_
            obtain ⟨m, rfl⟩ : ∃ m, n0 = m + 1 := ⟨n0 - 1, by omega⟩
            have hel : RRun 0 0 (declP l x0 k0) x0 k0 k0 3 := .err _ _ _ _ _ (by unfold declP; rw [if_neg (by rw [ha7 rfl]; decide), if_pos ha30, if_pos (by omega)]) (by decide)
            have hst : ∀ z k' b' e', RRun 3 k0 (progP l m x0 k0) z k' b' e' → RRun 0 0 (programP l) z k' b' e' := fun z k' b' e' h => hcont z k' b' e' (by rw [progP, if_neg hk5]; exact hel.bind h)
            have hgo : 3 = 0 → k0 < k0 ∧ k0 = 0 := fun h => by have h9 := declP_in hok.last (x := x0) hk0; rw [(hel.good h).2.1] at h9; exact ⟨h9.1, (hel.good h).2.2⟩
            refine ⟨(x0, vg, vm, vf, k0, k0, 3), ⟨hk0, (show (3 : Nat) < 16 by decide), fun h => ?_, fun h => hst _ _ _ _ (.skip h _ _ _), fun h => ⟨(hgo h).2, m, ?_, fun z k' b' e' h2 => hst _ _ _ _ ?_⟩⟩, ?_, subA (.refl _) (.refl _) (by intro x hx; simp only [List.mem_append, List.mem_cons, List.not_mem_nil, or_false] at hx ⊢; rcases hx with h | h | h | h | h | h <;> simp [h]) (sub_cons rfl (Wk.refl _) (sub_cons rfl (Wk.refl _) (sub_cons rfl (Wk.refl _) (sub_cons rfl (Wk.refl _) (sub_cons rfl (Wk.refl _) sub_nil)))))⟩
            ·exact absurd h (show ¬ (3 : Nat) = 0 by decide)
            ·have := hgo h; show l.length ≤ m + k0; omega
            ·exact absurd h (show ¬ (3 : Nat) = 0 by decide)
            ·show (if 3 = 0 then _ else _) < (if (0 : Nat) = 0 then _ else _)
             by_cases h : 3 = 0
             ·have := hgo h; rw [if_pos h, if_pos rfl]; show l.length - k0 + 1 < l.length - k0 + 1; omega
             ·rw [if_neg h, if_pos rfl]; show 0 < l.length - k0 + 1; omega
       ·skip
        refine go 11 ?_
        refine wyy rfl rfl rfl (ay_len_row [_] rfl rfl rfl Tryz.runUnderlying37) ?_
        refine wyy rfl rfl rfl (ay_cmp false rfl rfl rfl (by rw [show cmpR .eql ((x0.mutexes.length : Nat) : Int) 12 = some (decide (x0.mutexes.length = 12)) from cmp_nat (n := 12), decide_eq_false hmutexes])) ?_
        refine go 20 ?_
        refine wcP rfl rfl rfl rfl Tryz.call59 rfl (take_w [_] _ _ _ l k0 0 0 0 0 [118, 97, 114] (by decide) hok hk0) (by simp) (by simp [Sto.bl]) ?_
        rintro t44 s44 (⟨-, ha44, hm44, rfl, rfl⟩ | ⟨ha44, rfl, rfl⟩)
        ·exact absurd (words_eq ha44 ha30) (by decide)
        ·refine go 7 ?_
         refine wcP rfl rfl rfl rfl Tryz.call59 rfl (take_w [_] _ _ _ l k0 0 0 0 0 [109, 117, 116, 101, 120] (by decide) hok hk0) (by simp) (by simp [Sto.bl]) ?_
         rintro t46 s46 (⟨-, ha46, hm46, rfl, rfl⟩ | ⟨ha46, rfl, rfl⟩)
         ·refine go 4 ?_
          refine aw_region_drew [] (by kernel_rfl) ?_
          refine tks [(0, true), (2, true)] 6 (by kernel_rfl) ?_
          refine go 3 ?_
          refine two 1 3 (by kernel_rfl) rfl rfl rfl rfl ?_ ?_
          ·refine way rfl (by decide) (ay_load_box [] rfl rfl rfl Tryz.isAgg37 Tryz.sizeOf37 rfl (fun _ h => by cases h)) ?_
           refine one 3 (by kernel_rfl) rfl rfl (wcall [P] rfl rfl (by decide) Tryz.call61 rfl (mutex_false [_] _ _ _ l (k0 + 1) 0 0 0 hok hm46 (by decide)) (by intro b hb; simp at hb; subst hb; simp) (by intro b hb; simp at hb; subst hb; simp [Sto.bl]) (by intro h b hb; simp at hb; subst hb; exact offN (by simp [Sto.bl])) ?_)
           rintro t48 s48 ⟨x48, k48, u48, e48, rfl, hr48, hk48, he48, rfl⟩
           refine one 4 (by kernel_rfl) rfl rfl (wbs Tryz.t102 [.val (.string ⟨#[]⟩), .val (.bool false), .val (.int .i64 0)] rfl rfl (by decide) (.cons rfl .nil) Tryz.underlying37 (by kernel_rfl) rfl (by decide) (by decide) (by kernel_rfl) (by kernel_rfl) (fill_one encM encM x48 rfl rfl rfl) ?_)
           refine one 5 (by kernel_rfl) rfl rfl (wapI [_] Tryz.t102 32 rfl rfl (by decide) rfl rfl Tryz.underlying37 (by kernel_rfl) rfl rfl rfl rfl (by decide) rfl (by decide) (by unfold maxLen; skip; omega) (by skip; omega) (@List.length_append _ x0.mutexes [x48]).symm (fun _ b hb => offN (by simp [Sto.bl, hb])) (fun b hb => by simp [hb]) (List.flatMap_append (f := encM)).symm fun v49 => ?_)
           refine tks [(6, true), (7, false)] 0 (by kernel_rfl) ?_
           refine go 3 ?_
           refine any_done (by kernel_rfl) ?_
           refine go 2 ?_
           obtain ⟨m, rfl⟩ : ∃ m, n0 = m + 1 := ⟨n0 - 1, by omega⟩
           have hel : RRun 0 0 (declP l x0 k0) { x0 with mutexes := x0.mutexes ++ [x48] } k48 u48 e48 := (hr48.map (f := fun g => { x0 with mutexes := x0.mutexes ++ [g] })).eq fun _ => by unfold declP; rw [if_neg (by rw [ha7 rfl]; decide), if_pos ha30, if_neg (by omega)]
           have hst : ∀ z k' b' e', RRun e48 u48 (progP l m { x0 with mutexes := x0.mutexes ++ [x48] } k48) z k' b' e' → RRun 0 0 (programP l) z k' b' e' := fun z k' b' e' h => hcont z k' b' e' (by rw [progP, if_neg hk5]; exact hel.bind h)
           have hgo : e48 = 0 → k0 < k48 ∧ u48 = 0 := fun h => by have h9 := declP_in hok.last (x := x0) hk0; rw [(hel.good h).2.1] at h9; exact ⟨h9.1, (hel.good h).2.2⟩
           refine ⟨({ x0 with mutexes := x0.mutexes ++ [x48] }, vg, v49, vf, k48, u48, e48), ⟨hk48, he48, fun h => ?_, fun h => hst _ _ _ _ (.skip h _ _ _), fun h => ⟨(hgo h).2, m, ?_, fun z k' b' e' h2 => hst _ _ _ _ ?_⟩⟩, ?_, subA (.refl _) (.refl _) (by intro x hx; simp only [List.mem_append, List.mem_cons, List.not_mem_nil, or_false] at hx ⊢; rcases hx with h | h | h | h | h | h <;> simp [h]) (sub_cons rfl (Wk.refl _) (sub_cons rfl (Wk.refl _) (sub_cons rfl (Wk.refl _) (sub_cons rfl (Wk.refl _) (sub_cons rfl (Wk.refl _) sub_nil)))))⟩
           ·simp; omega
           ·have := hgo h; show l.length ≤ m + k48; omega
           ·rw [show e48 = 0 from h, show u48 = 0 from (hgo h).2]; exact h2
           ·show (if e48 = 0 then _ else _) < (if (0 : Nat) = 0 then _ else _)
            by_cases h : e48 = 0
            ·have := hgo h; rw [if_pos h, if_pos rfl]; show l.length - k48 + 1 < l.length - k0 + 1; omega
            ·rw [if_neg h, if_pos rfl]; show 0 < l.length - k0 + 1; omega
          ·refine (wcall [P] rfl rfl (by decide) Tryz.call61 rfl (mutex_false [_] _ _ _ l (k0 + 1) 0 0 0 hok hm46 (by decide)) (by intro b hb; simp at hb; subst hb; simp) (by intro b hb; simp at hb; subst hb; simp [Sto.bl]) (by intro h b hb; simp at hb; subst hb; exact offN (by simp [Sto.bl])) ?_)
           rintro t50 s50 ⟨x50, k50, u50, e50, rfl, hr50, hk50, he50, rfl⟩
           refine two 1 4 (by kernel_rfl) rfl rfl rfl rfl ?_ ?_
           ·refine way rfl (by decide) (ay_load_box [] rfl rfl rfl Tryz.isAgg37 Tryz.sizeOf37 rfl (fun _ h => by cases h)) ?_
            refine one 4 (by kernel_rfl) rfl rfl (wbs Tryz.t102 [.val (.string ⟨#[]⟩), .val (.bool false), .val (.int .i64 0)] rfl rfl (by decide) (.cons rfl .nil) Tryz.underlying37 (by kernel_rfl) rfl (by decide) (by decide) (by kernel_rfl) (by kernel_rfl) (fill_one encM encM x50 rfl rfl rfl) ?_)
            refine one 5 (by kernel_rfl) rfl rfl (wapI [_] Tryz.t102 32 rfl rfl (by decide) rfl rfl Tryz.underlying37 (by kernel_rfl) rfl rfl rfl rfl (by decide) rfl (by decide) (by unfold maxLen; skip; omega) (by skip; omega) (@List.length_append _ x0.mutexes [x50]).symm (fun _ b hb => offN (by simp [Sto.bl, hb])) (fun b hb => by simp [hb]) (List.flatMap_append (f := encM)).symm fun v51 => ?_)
            refine tks [(6, true), (7, false)] 0 (by kernel_rfl) ?_
            refine go 3 ?_
            refine any_done (by kernel_rfl) ?_
            refine go 2 ?_
            obtain ⟨m, rfl⟩ : ∃ m, n0 = m + 1 := ⟨n0 - 1, by omega⟩
            have hel : RRun 0 0 (declP l x0 k0) { x0 with mutexes := x0.mutexes ++ [x50] } k50 u50 e50 := (hr50.map (f := fun g => { x0 with mutexes := x0.mutexes ++ [g] })).eq fun _ => by unfold declP; rw [if_neg (by rw [ha7 rfl]; decide), if_pos ha30, if_neg (by omega)]
            have hst : ∀ z k' b' e', RRun e50 u50 (progP l m { x0 with mutexes := x0.mutexes ++ [x50] } k50) z k' b' e' → RRun 0 0 (programP l) z k' b' e' := fun z k' b' e' h => hcont z k' b' e' (by rw [progP, if_neg hk5]; exact hel.bind h)
            have hgo : e50 = 0 → k0 < k50 ∧ u50 = 0 := fun h => by have h9 := declP_in hok.last (x := x0) hk0; rw [(hel.good h).2.1] at h9; exact ⟨h9.1, (hel.good h).2.2⟩
            refine ⟨({ x0 with mutexes := x0.mutexes ++ [x50] }, vg, v51, vf, k50, u50, e50), ⟨hk50, he50, fun h => ?_, fun h => hst _ _ _ _ (.skip h _ _ _), fun h => ⟨(hgo h).2, m, ?_, fun z k' b' e' h2 => hst _ _ _ _ ?_⟩⟩, ?_, subA (.refl _) (.refl _) (by intro x hx; simp only [List.mem_append, List.mem_cons, List.not_mem_nil, or_false] at hx ⊢; rcases hx with h | h | h | h | h | h <;> simp [h]) (sub_cons rfl (Wk.refl _) (sub_cons rfl (Wk.refl _) (sub_cons rfl (Wk.refl _) (sub_cons rfl (Wk.refl _) (sub_cons rfl (Wk.refl _) sub_nil)))))⟩
            ·simp; omega
            ·have := hgo h; show l.length ≤ m + k50; omega
            ·rw [show e50 = 0 from h, show u50 = 0 from (hgo h).2]; exact h2
            ·show (if e50 = 0 then _ else _) < (if (0 : Nat) = 0 then _ else _)
             by_cases h : e50 = 0
             ·have := hgo h; rw [if_pos h, if_pos rfl]; show l.length - k50 + 1 < l.length - k0 + 1; omega
             ·rw [if_neg h, if_pos rfl]; show 0 < l.length - k0 + 1; omega
           ·refine (wbs Tryz.t102 [.val (.string ⟨#[]⟩), .val (.bool false), .val (.int .i64 0)] rfl rfl (by decide) (.cons rfl .nil) Tryz.underlying37 (by kernel_rfl) rfl (by decide) (by decide) (by kernel_rfl) (by kernel_rfl) (fill_one encM encM x50 rfl rfl rfl) ?_)
            refine one 1 (by kernel_rfl) rfl rfl (way rfl (by decide) (ay_load_box [] rfl rfl rfl Tryz.isAgg37 Tryz.sizeOf37 rfl (fun _ h => by cases h)) ?_)
            refine one 5 (by kernel_rfl) rfl rfl (wapI [_] Tryz.t102 32 rfl rfl (by decide) rfl rfl Tryz.underlying37 (by kernel_rfl) rfl rfl rfl rfl (by decide) rfl (by decide) (by unfold maxLen; skip; omega) (by skip; omega) (@List.length_append _ x0.mutexes [x50]).symm (fun _ b hb => offN (by simp [Sto.bl, hb])) (fun b hb => by simp [hb]) (List.flatMap_append (f := encM)).symm fun v52 => ?_)
            refine tks [(6, true), (7, false)] 0 (by kernel_rfl) ?_
            refine go 3 ?_
            refine any_done (by kernel_rfl) ?_
            refine go 2 ?_
            obtain ⟨m, rfl⟩ : ∃ m, n0 = m + 1 := ⟨n0 - 1, by omega⟩
            have hel : RRun 0 0 (declP l x0 k0) { x0 with mutexes := x0.mutexes ++ [x50] } k50 u50 e50 := (hr50.map (f := fun g => { x0 with mutexes := x0.mutexes ++ [g] })).eq fun _ => by unfold declP; rw [if_neg (by rw [ha7 rfl]; decide), if_pos ha30, if_neg (by omega)]
            have hst : ∀ z k' b' e', RRun e50 u50 (progP l m { x0 with mutexes := x0.mutexes ++ [x50] } k50) z k' b' e' → RRun 0 0 (programP l) z k' b' e' := fun z k' b' e' h => hcont z k' b' e' (by rw [progP, if_neg hk5]; exact hel.bind h)
            have hgo : e50 = 0 → k0 < k50 ∧ u50 = 0 := fun h => by have h9 := declP_in hok.last (x := x0) hk0; rw [(hel.good h).2.1] at h9; exact ⟨h9.1, (hel.good h).2.2⟩
            refine ⟨({ x0 with mutexes := x0.mutexes ++ [x50] }, vg, v52, vf, k50, u50, e50), ⟨hk50, he50, fun h => ?_, fun h => hst _ _ _ _ (.skip h _ _ _), fun h => ⟨(hgo h).2, m, ?_, fun z k' b' e' h2 => hst _ _ _ _ ?_⟩⟩, ?_, subA (.refl _) (.refl _) (by intro x hx; simp only [List.mem_append, List.mem_cons, List.not_mem_nil, or_false] at hx ⊢; rcases hx with h | h | h | h | h | h <;> simp [h]) (sub_cons rfl (Wk.refl _) (sub_cons rfl (Wk.refl _) (sub_cons rfl (Wk.refl _) (sub_cons rfl (Wk.refl _) (sub_cons rfl (Wk.refl _) sub_nil)))))⟩
            ·simp; omega
            ·have := hgo h; show l.length ≤ m + k50; omega
            ·rw [show e50 = 0 from h, show u50 = 0 from (hgo h).2]; exact h2
            ·show (if e50 = 0 then _ else _) < (if (0 : Nat) = 0 then _ else _)
             by_cases h : e50 = 0
             ·have := hgo h; rw [if_pos h, if_pos rfl]; show l.length - k50 + 1 < l.length - k0 + 1; omega
             ·rw [if_neg h, if_pos rfl]; show 0 < l.length - k0 + 1; omega
         ·exact absurd (ha46 rfl) (by rw [ha30]; decide)
     ·refine go 2 ?_
      refine wcP rfl rfl rfl rfl Tryz.call57 rfl (isd_w [_] _ _ _ l k0 0 0 0 0 [114, 109, 117, 116, 101, 120] (by decide) hok hk0) (by simp) (by simp [Sto.bl]) ?_
      rintro t53 s53 (⟨-, ha53, rfl, rfl⟩ | ⟨ha53, rfl, rfl⟩)
      ·refine go 2 ?_
       refine wcP rfl rfl rfl rfl Tryz.call57 rfl (isd_w [_] _ _ _ l k0 0 0 0 0 [102, 117, 110, 99] (by decide) hok hk0) (by simp) (by simp [Sto.bl]) ?_
       rintro t54 s54 (⟨-, ha54, rfl, rfl⟩ | ⟨ha54, rfl, rfl⟩)
       ·exact absurd (words_eq ha54 ha53) (by decide)
       ·refine go 9 ?_
        by_cases hmutexes : x0.mutexes.length = 12
        ·skip
         refine go 11 ?_
         refine wyy rfl rfl rfl (ay_len_row [_] rfl rfl rfl Tryz.runUnderlying37) ?_
         refine wyy rfl rfl rfl (ay_cmp true rfl rfl rfl (by rw [hmutexes]; rfl)) ?_
         refine go 16 ?_
         refine wcP rfl rfl rfl rfl Tryz.call58 rfl (fail_c [_] _ _ _ l k0 0 0 0 0 3) (by simp) (by simp [Sto.bl]) ?_
         rintro t56 s56 ⟨u56, e56, hf56, rfl, rfl⟩
         obtain ⟨rfl, rfl⟩ := hf56.1 rfl
         refine go 6 ?_
         refine wcP rfl rfl rfl rfl Tryz.call59 rfl (take_w [_] _ _ _ l k0 k0 3 0 0 [118, 97, 114] (by decide) hok hk0) (by simp) (by simp [Sto.bl]) ?_
         rintro t57 s57 (⟨hz57, -⟩ | ⟨ha57, rfl, rfl⟩)
         ·exact absurd hz57 (by decide)
         ·refine go 7 ?_
          refine wcP rfl rfl rfl rfl Tryz.call59 rfl (take_w [_] _ _ _ l k0 k0 3 0 0 [109, 117, 116, 101, 120] (by decide) hok hk0) (by simp) (by simp [Sto.bl]) ?_
          rintro t59 s59 (⟨hz59, -⟩ | ⟨ha59, rfl, rfl⟩)
          ·exact absurd hz59 (by decide)
          ·refine go 7 ?_
           refine wcP rfl rfl rfl rfl Tryz.call59 rfl (take_w [_] _ _ _ l k0 k0 3 0 0 [114, 109, 117, 116, 101, 120] (by decide) hok hk0) (by simp) (by simp [Sto.bl]) ?_
           rintro t61 s61 (⟨hz61, -⟩ | ⟨ha61, rfl, rfl⟩)
           ·exact absurd hz61 (by decide)
           ·refine go 7 ?_
            refine wcP rfl rfl rfl rfl Tryz.call59 rfl (take_w [_] _ _ _ l k0 k0 3 0 0 [102, 117, 110, 99] (by decide) hok hk0) (by simp) (by simp [Sto.bl]) ?_
            rintro t63 s63 (⟨hz63, -⟩ | ⟨ha63, rfl, rfl⟩)
            ·exact absurd hz63 (by decide)
            ·refine go 6 ?_
             refine wcP rfl rfl rfl rfl Tryz.call58 rfl (fail_c [_] _ _ _ l k0 k0 3 0 0 4) (by simp) (by simp [Sto.bl]) ?_
             rintro t65 s65 ⟨u65, e65, hf65, rfl, rfl⟩
             obtain ⟨rfl, rfl⟩ := hf65.2 (by decide)
             refine go 3 ?_
             obtain ⟨m, rfl⟩ : ∃ m, n0 = m + 1 := ⟨n0 - 1, by omega⟩
             have hel : RRun 0 0 (declP l x0 k0) x0 k0 k0 3 := .err _ _ _ _ _ (by unfold declP; rw [if_neg (by rw [ha7 rfl]; decide), if_neg (by rw [ha30 rfl]; decide), if_pos ha53, if_pos (by omega)]) (by decide)
             have hst : ∀ z k' b' e', RRun 3 k0 (progP l m x0 k0) z k' b' e' → RRun 0 0 (programP l) z k' b' e' := fun z k' b' e' h => hcont z k' b' e' (by rw [progP, if_neg hk5]; exact hel.bind h)
             have hgo : 3 = 0 → k0 < k0 ∧ k0 = 0 := fun h => by have h9 := declP_in hok.last (x := x0) hk0; rw [(hel.good h).2.1] at h9; exact ⟨h9.1, (hel.good h).2.2⟩
             refine ⟨(x0, vg, vm, vf, k0, k0, 3), ⟨hk0, (show (3 : Nat) < 16 by decide), fun h => ?_, fun h => hst _ _ _ _ (.skip h _ _ _), fun h => ⟨(hgo h).2, m, ?_, fun z k' b' e' h2 => hst _ _ _ _ ?_⟩⟩, ?_, subA (.refl _) (.refl _) (by intro x hx; simp only [List.mem_append, List.mem_cons, List.not_mem_nil, or_false] at hx ⊢; rcases hx with h | h | h | h | h | h <;> simp [h]) (sub_cons rfl (Wk.refl _) (sub_cons rfl (Wk.refl _) (sub_cons rfl (Wk.refl _) (sub_cons rfl (Wk.refl _) (sub_cons rfl (Wk.refl _) sub_nil)))))⟩
             ·exact absurd h (show ¬ (3 : Nat) = 0 by decide)
             ·have := hgo h; show l.length ≤ m + k0; omega
             ·exact absurd h (show ¬ (3 : Nat) = 0 by decide)
             ·show (if 3 = 0 then _ else _) < (if (0 : Nat) = 0 then _ else _)
              by_cases h : 3 = 0
              ·have := hgo h; rw [if_pos h, if_pos rfl]; show l.length - k0 + 1 < l.length - k0 + 1; omega
              ·rw [if_neg h, if_pos rfl]; show 0 < l.length - k0 + 1; omega
        ·skip
         refine go 11 ?_
         refine wyy rfl rfl rfl (ay_len_row [_] rfl rfl rfl Tryz.runUnderlying37) ?_
         refine wyy rfl rfl rfl (ay_cmp false rfl rfl rfl (by rw [show cmpR .eql ((x0.mutexes.length : Nat) : Int) 12 = some (decide (x0.mutexes.length = 12)) from cmp_nat (n := 12), decide_eq_false hmutexes])) ?_
         refine go 20 ?_
         refine wcP rfl rfl rfl rfl Tryz.call59 rfl (take_w [_] _ _ _ l k0 0 0 0 0 [118, 97, 114] (by decide) hok hk0) (by simp) (by simp [Sto.bl]) ?_
         rintro t67 s67 (⟨-, ha67, hm67, rfl, rfl⟩ | ⟨ha67, rfl, rfl⟩)
         ·exact absurd (words_eq ha67 ha53) (by decide)
         ·refine go 7 ?_
          refine wcP rfl rfl rfl rfl Tryz.call59 rfl (take_w [_] _ _ _ l k0 0 0 0 0 [109, 117, 116, 101, 120] (by decide) hok hk0) (by simp) (by simp [Sto.bl]) ?_
          rintro t69 s69 (⟨-, ha69, hm69, rfl, rfl⟩ | ⟨ha69, rfl, rfl⟩)
          ·exact absurd (words_eq ha69 ha53) (by decide)
          ·refine go 7 ?_
           refine wcP rfl rfl rfl rfl Tryz.call59 rfl (take_w [_] _ _ _ l k0 0 0 0 0 [114, 109, 117, 116, 101, 120] (by decide) hok hk0) (by simp) (by simp [Sto.bl]) ?_
           rintro t71 s71 (⟨-, ha71, hm71, rfl, rfl⟩ | ⟨ha71, rfl, rfl⟩)
           ·refine go 4 ?_
            refine aw_region_drew [] (by kernel_rfl) ?_
            refine tks [(0, true), (2, true)] 6 (by kernel_rfl) ?_
            refine go 3 ?_
            refine two 1 3 (by kernel_rfl) rfl rfl rfl rfl ?_ ?_
            ·refine way rfl (by decide) (ay_load_box [] rfl rfl rfl Tryz.isAgg37 Tryz.sizeOf37 rfl (fun _ h => by cases h)) ?_
             refine one 3 (by kernel_rfl) rfl rfl (wcall [P] rfl rfl (by decide) Tryz.call61 rfl (mutex_true [_] _ _ _ l (k0 + 1) 0 0 0 hok hm71 (by decide)) (by intro b hb; simp at hb; subst hb; simp) (by intro b hb; simp at hb; subst hb; simp [Sto.bl]) (by intro h b hb; simp at hb; subst hb; exact offN (by simp [Sto.bl])) ?_)
             rintro t73 s73 ⟨x73, k73, u73, e73, rfl, hr73, hk73, he73, rfl⟩
             refine one 4 (by kernel_rfl) rfl rfl (wbs Tryz.t102 [.val (.string ⟨#[]⟩), .val (.bool false), .val (.int .i64 0)] rfl rfl (by decide) (.cons rfl .nil) Tryz.underlying37 (by kernel_rfl) rfl (by decide) (by decide) (by kernel_rfl) (by kernel_rfl) (fill_one encM encM x73 rfl rfl rfl) ?_)
             refine one 5 (by kernel_rfl) rfl rfl (wapI [_] Tryz.t102 32 rfl rfl (by decide) rfl rfl Tryz.underlying37 (by kernel_rfl) rfl rfl rfl rfl (by decide) rfl (by decide) (by unfold maxLen; skip; omega) (by skip; omega) (@List.length_append _ x0.mutexes [x73]).symm (fun _ b hb => offN (by simp [Sto.bl, hb])) (fun b hb => by simp [hb]) (List.flatMap_append (f := encM)).symm fun v74 => ?_)
             refine tks [(6, true), (7, false)] 0 (by kernel_rfl) ?_
             refine go 3 ?_
             refine any_done (by kernel_rfl) ?_
             refine go 2 ?_
             obtain ⟨m, rfl⟩ : ∃ m, n0 = m + 1 := ⟨n0 - 1, by omega⟩
             have hel : RRun 0 0 (declP l x0 k0) { x0 with mutexes := x0.mutexes ++ [x73] } k73 u73 e73 := (hr73.map (f := fun g => { x0 with mutexes := x0.mutexes ++ [g] })).eq fun _ => by unfold declP; rw [if_neg (by rw [ha7 rfl]; decide), if_neg (by rw [ha30 rfl]; decide), if_pos ha53, if_neg (by omega)]
             have hst : ∀ z k' b' e', RRun e73 u73 (progP l m { x0 with mutexes := x0.mutexes ++ [x73] } k73) z k' b' e' → RRun 0 0 (programP l) z k' b' e' := fun z k' b' e' h => hcont z k' b' e' (by rw [progP, if_neg hk5]; exact hel.bind h)
             have hgo : e73 = 0 → k0 < k73 ∧ u73 = 0 := fun h => by have h9 := declP_in hok.last (x := x0) hk0; rw [(hel.good h).2.1] at h9; exact ⟨h9.1, (hel.good h).2.2⟩
             refine ⟨({ x0 with mutexes := x0.mutexes ++ [x73] }, vg, v74, vf, k73, u73, e73), ⟨hk73, he73, fun h => ?_, fun h => hst _ _ _ _ (.skip h _ _ _), fun h => ⟨(hgo h).2, m, ?_, fun z k' b' e' h2 => hst _ _ _ _ ?_⟩⟩, ?_, subA (.refl _) (.refl _) (by intro x hx; simp only [List.mem_append, List.mem_cons, List.not_mem_nil, or_false] at hx ⊢; rcases hx with h | h | h | h | h | h <;> simp [h]) (sub_cons rfl (Wk.refl _) (sub_cons rfl (Wk.refl _) (sub_cons rfl (Wk.refl _) (sub_cons rfl (Wk.refl _) (sub_cons rfl (Wk.refl _) sub_nil)))))⟩
             ·simp; omega
             ·have := hgo h; show l.length ≤ m + k73; omega
             ·rw [show e73 = 0 from h, show u73 = 0 from (hgo h).2]; exact h2
             ·show (if e73 = 0 then _ else _) < (if (0 : Nat) = 0 then _ else _)
              by_cases h : e73 = 0
              ·have := hgo h; rw [if_pos h, if_pos rfl]; show l.length - k73 + 1 < l.length - k0 + 1; omega
              ·rw [if_neg h, if_pos rfl]; show 0 < l.length - k0 + 1; omega
            ·refine (wcall [P] rfl rfl (by decide) Tryz.call61 rfl (mutex_true [_] _ _ _ l (k0 + 1) 0 0 0 hok hm71 (by decide)) (by intro b hb; simp at hb; subst hb; simp) (by intro b hb; simp at hb; subst hb; simp [Sto.bl]) (by intro h b hb; simp at hb; subst hb; exact offN (by simp [Sto.bl])) ?_)
             rintro t75 s75 ⟨x75, k75, u75, e75, rfl, hr75, hk75, he75, rfl⟩
             refine two 1 4 (by kernel_rfl) rfl rfl rfl rfl ?_ ?_
             ·refine way rfl (by decide) (ay_load_box [] rfl rfl rfl Tryz.isAgg37 Tryz.sizeOf37 rfl (fun _ h => by cases h)) ?_
              refine one 4 (by kernel_rfl) rfl rfl (wbs Tryz.t102 [.val (.string ⟨#[]⟩), .val (.bool false), .val (.int .i64 0)] rfl rfl (by decide) (.cons rfl .nil) Tryz.underlying37 (by kernel_rfl) rfl (by decide) (by decide) (by kernel_rfl) (by kernel_rfl) (fill_one encM encM x75 rfl rfl rfl) ?_)
              refine one 5 (by kernel_rfl) rfl rfl (wapI [_] Tryz.t102 32 rfl rfl (by decide) rfl rfl Tryz.underlying37 (by kernel_rfl) rfl rfl rfl rfl (by decide) rfl (by decide) (by unfold maxLen; skip; omega) (by skip; omega) (@List.length_append _ x0.mutexes [x75]).symm (fun _ b hb => offN (by simp [Sto.bl, hb])) (fun b hb => by simp [hb]) (List.flatMap_append (f := encM)).symm fun v76 => ?_)
              refine tks [(6, true), (7, false)] 0 (by kernel_rfl) ?_
              refine go 3 ?_
              refine any_done (by kernel_rfl) ?_
              refine go 2 ?_
              obtain ⟨m, rfl⟩ : ∃ m, n0 = m + 1 := ⟨n0 - 1, by omega⟩
              have hel : RRun 0 0 (declP l x0 k0) { x0 with mutexes := x0.mutexes ++ [x75] } k75 u75 e75 := (hr75.map (f := fun g => { x0 with mutexes := x0.mutexes ++ [g] })).eq fun _ => by unfold declP; rw [if_neg (by rw [ha7 rfl]; decide), if_neg (by rw [ha30 rfl]; decide), if_pos ha53, if_neg (by omega)]
              have hst : ∀ z k' b' e', RRun e75 u75 (progP l m { x0 with mutexes := x0.mutexes ++ [x75] } k75) z k' b' e' → RRun 0 0 (programP l) z k' b' e' := fun z k' b' e' h => hcont z k' b' e' (by rw [progP, if_neg hk5]; exact hel.bind h)
              have hgo : e75 = 0 → k0 < k75 ∧ u75 = 0 := fun h => by have h9 := declP_in hok.last (x := x0) hk0; rw [(hel.good h).2.1] at h9; exact ⟨h9.1, (hel.good h).2.2⟩
              refine ⟨({ x0 with mutexes := x0.mutexes ++ [x75] }, vg, v76, vf, k75, u75, e75), ⟨hk75, he75, fun h => ?_, fun h => hst _ _ _ _ (.skip h _ _ _), fun h => ⟨(hgo h).2, m, ?_, fun z k' b' e' h2 => hst _ _ _ _ ?_⟩⟩, ?_, subA (.refl _) (.refl _) (by intro x hx; simp only [List.mem_append, List.mem_cons, List.not_mem_nil, or_false] at hx ⊢; rcases hx with h | h | h | h | h | h <;> simp [h]) (sub_cons rfl (Wk.refl _) (sub_cons rfl (Wk.refl _) (sub_cons rfl (Wk.refl _) (sub_cons rfl (Wk.refl _) (sub_cons rfl (Wk.refl _) sub_nil)))))⟩
              ·simp; omega
              ·have := hgo h; show l.length ≤ m + k75; omega
              ·rw [show e75 = 0 from h, show u75 = 0 from (hgo h).2]; exact h2
              ·show (if e75 = 0 then _ else _) < (if (0 : Nat) = 0 then _ else _)
               by_cases h : e75 = 0
               ·have := hgo h; rw [if_pos h, if_pos rfl]; show l.length - k75 + 1 < l.length - k0 + 1; omega
               ·rw [if_neg h, if_pos rfl]; show 0 < l.length - k0 + 1; omega
             ·refine (wbs Tryz.t102 [.val (.string ⟨#[]⟩), .val (.bool false), .val (.int .i64 0)] rfl rfl (by decide) (.cons rfl .nil) Tryz.underlying37 (by kernel_rfl) rfl (by decide) (by decide) (by kernel_rfl) (by kernel_rfl) (fill_one encM encM x75 rfl rfl rfl) ?_)
              refine one 1 (by kernel_rfl) rfl rfl (way rfl (by decide) (ay_load_box [] rfl rfl rfl Tryz.isAgg37 Tryz.sizeOf37 rfl (fun _ h => by cases h)) ?_)
              refine one 5 (by kernel_rfl) rfl rfl (wapI [_] Tryz.t102 32 rfl rfl (by decide) rfl rfl Tryz.underlying37 (by kernel_rfl) rfl rfl rfl rfl (by decide) rfl (by decide) (by unfold maxLen; skip; omega) (by skip; omega) (@List.length_append _ x0.mutexes [x75]).symm (fun _ b hb => offN (by simp [Sto.bl, hb])) (fun b hb => by simp [hb]) (List.flatMap_append (f := encM)).symm fun v77 => ?_)
              refine tks [(6, true), (7, false)] 0 (by kernel_rfl) ?_
              refine go 3 ?_
              refine any_done (by kernel_rfl) ?_
              refine go 2 ?_
              obtain ⟨m, rfl⟩ : ∃ m, n0 = m + 1 := ⟨n0 - 1, by omega⟩
              have hel : RRun 0 0 (declP l x0 k0) { x0 with mutexes := x0.mutexes ++ [x75] } k75 u75 e75 := (hr75.map (f := fun g => { x0 with mutexes := x0.mutexes ++ [g] })).eq fun _ => by unfold declP; rw [if_neg (by rw [ha7 rfl]; decide), if_neg (by rw [ha30 rfl]; decide), if_pos ha53, if_neg (by omega)]
              have hst : ∀ z k' b' e', RRun e75 u75 (progP l m { x0 with mutexes := x0.mutexes ++ [x75] } k75) z k' b' e' → RRun 0 0 (programP l) z k' b' e' := fun z k' b' e' h => hcont z k' b' e' (by rw [progP, if_neg hk5]; exact hel.bind h)
              have hgo : e75 = 0 → k0 < k75 ∧ u75 = 0 := fun h => by have h9 := declP_in hok.last (x := x0) hk0; rw [(hel.good h).2.1] at h9; exact ⟨h9.1, (hel.good h).2.2⟩
              refine ⟨({ x0 with mutexes := x0.mutexes ++ [x75] }, vg, v77, vf, k75, u75, e75), ⟨hk75, he75, fun h => ?_, fun h => hst _ _ _ _ (.skip h _ _ _), fun h => ⟨(hgo h).2, m, ?_, fun z k' b' e' h2 => hst _ _ _ _ ?_⟩⟩, ?_, subA (.refl _) (.refl _) (by intro x hx; simp only [List.mem_append, List.mem_cons, List.not_mem_nil, or_false] at hx ⊢; rcases hx with h | h | h | h | h | h <;> simp [h]) (sub_cons rfl (Wk.refl _) (sub_cons rfl (Wk.refl _) (sub_cons rfl (Wk.refl _) (sub_cons rfl (Wk.refl _) (sub_cons rfl (Wk.refl _) sub_nil)))))⟩
              ·simp; omega
              ·have := hgo h; show l.length ≤ m + k75; omega
              ·rw [show e75 = 0 from h, show u75 = 0 from (hgo h).2]; exact h2
              ·show (if e75 = 0 then _ else _) < (if (0 : Nat) = 0 then _ else _)
               by_cases h : e75 = 0
               ·have := hgo h; rw [if_pos h, if_pos rfl]; show l.length - k75 + 1 < l.length - k0 + 1; omega
               ·rw [if_neg h, if_pos rfl]; show 0 < l.length - k0 + 1; omega
           ·exact absurd (ha71 rfl) (by rw [ha53]; decide)
      ·refine go 2 ?_
       refine wcP rfl rfl rfl rfl Tryz.call57 rfl (isd_w [_] _ _ _ l k0 0 0 0 0 [102, 117, 110, 99] (by decide) hok hk0) (by simp) (by simp [Sto.bl]) ?_
       rintro t78 s78 (⟨-, ha78, rfl, rfl⟩ | ⟨ha78, rfl, rfl⟩)
       ·refine go 10 ?_
        by_cases hfuncs : x0.funcs.length = 16
        ·skip
         refine go 19 ?_
         refine wyy rfl rfl rfl (ay_len_row [_, _] rfl rfl rfl Tryz.runUnderlying38) ?_
         refine wyy rfl rfl rfl (ay_cmp true rfl rfl rfl (by rw [hfuncs]; rfl)) ?_
         refine go 7 ?_
         refine wcP rfl rfl rfl rfl Tryz.call58 rfl (fail_c [_] _ _ _ l k0 0 0 0 0 3) (by simp) (by simp [Sto.bl]) ?_
         rintro t80 s80 ⟨u80, e80, hf80, rfl, rfl⟩
         obtain ⟨rfl, rfl⟩ := hf80.1 rfl
         refine go 6 ?_
         refine wcP rfl rfl rfl rfl Tryz.call59 rfl (take_w [_] _ _ _ l k0 k0 3 0 0 [118, 97, 114] (by decide) hok hk0) (by simp) (by simp [Sto.bl]) ?_
         rintro t81 s81 (⟨hz81, -⟩ | ⟨ha81, rfl, rfl⟩)
         ·exact absurd hz81 (by decide)
         ·refine go 7 ?_
          refine wcP rfl rfl rfl rfl Tryz.call59 rfl (take_w [_] _ _ _ l k0 k0 3 0 0 [109, 117, 116, 101, 120] (by decide) hok hk0) (by simp) (by simp [Sto.bl]) ?_
          rintro t83 s83 (⟨hz83, -⟩ | ⟨ha83, rfl, rfl⟩)
          ·exact absurd hz83 (by decide)
          ·refine go 7 ?_
           refine wcP rfl rfl rfl rfl Tryz.call59 rfl (take_w [_] _ _ _ l k0 k0 3 0 0 [114, 109, 117, 116, 101, 120] (by decide) hok hk0) (by simp) (by simp [Sto.bl]) ?_
           rintro t85 s85 (⟨hz85, -⟩ | ⟨ha85, rfl, rfl⟩)
           ·exact absurd hz85 (by decide)
           ·refine go 7 ?_
            refine wcP rfl rfl rfl rfl Tryz.call59 rfl (take_w [_] _ _ _ l k0 k0 3 0 0 [102, 117, 110, 99] (by decide) hok hk0) (by simp) (by simp [Sto.bl]) ?_
            rintro t87 s87 (⟨hz87, -⟩ | ⟨ha87, rfl, rfl⟩)
            ·exact absurd hz87 (by decide)
            ·refine go 6 ?_
             refine wcP rfl rfl rfl rfl Tryz.call58 rfl (fail_c [_] _ _ _ l k0 k0 3 0 0 4) (by simp) (by simp [Sto.bl]) ?_
             rintro t89 s89 ⟨u89, e89, hf89, rfl, rfl⟩
             obtain ⟨rfl, rfl⟩ := hf89.2 (by decide)
             refine go 3 ?_
             obtain ⟨m, rfl⟩ : ∃ m, n0 = m + 1 := ⟨n0 - 1, by omega⟩
             have hel : RRun 0 0 (declP l x0 k0) x0 k0 k0 3 := .err _ _ _ _ _ (by unfold declP; rw [if_neg (by rw [ha7 rfl]; decide), if_neg (by rw [ha30 rfl]; decide), if_neg (by rw [ha53 rfl]; decide), if_pos ha78, if_pos (by omega)]) (by decide)
             have hst : ∀ z k' b' e', RRun 3 k0 (progP l m x0 k0) z k' b' e' → RRun 0 0 (programP l) z k' b' e' := fun z k' b' e' h => hcont z k' b' e' (by rw [progP, if_neg hk5]; exact hel.bind h)
             have hgo : 3 = 0 → k0 < k0 ∧ k0 = 0 := fun h => by have h9 := declP_in hok.last (x := x0) hk0; rw [(hel.good h).2.1] at h9; exact ⟨h9.1, (hel.good h).2.2⟩
             refine ⟨(x0, vg, vm, vf, k0, k0, 3), ⟨hk0, (show (3 : Nat) < 16 by decide), fun h => ?_, fun h => hst _ _ _ _ (.skip h _ _ _), fun h => ⟨(hgo h).2, m, ?_, fun z k' b' e' h2 => hst _ _ _ _ ?_⟩⟩, ?_, subA (.refl _) (.refl _) (by intro x hx; simp only [List.mem_append, List.mem_cons, List.not_mem_nil, or_false] at hx ⊢; rcases hx with h | h | h | h | h | h <;> simp [h]) (sub_cons rfl (Wk.refl _) (sub_cons rfl (Wk.refl _) (sub_cons rfl (Wk.refl _) (sub_cons rfl (Wk.refl _) (sub_cons rfl (Wk.refl _) sub_nil)))))⟩
             ·exact absurd h (show ¬ (3 : Nat) = 0 by decide)
             ·have := hgo h; show l.length ≤ m + k0; omega
             ·exact absurd h (show ¬ (3 : Nat) = 0 by decide)
             ·show (if 3 = 0 then _ else _) < (if (0 : Nat) = 0 then _ else _)
              by_cases h : 3 = 0
              ·have := hgo h; rw [if_pos h, if_pos rfl]; show l.length - k0 + 1 < l.length - k0 + 1; omega
              ·rw [if_neg h, if_pos rfl]; show 0 < l.length - k0 + 1; omega
        ·skip
         refine go 19 ?_
         refine wyy rfl rfl rfl (ay_len_row [_, _] rfl rfl rfl Tryz.runUnderlying38) ?_
         refine wyy rfl rfl rfl (ay_cmp false rfl rfl rfl (by rw [show cmpR .eql ((x0.funcs.length : Nat) : Int) 16 = some (decide (x0.funcs.length = 16)) from cmp_nat (n := 16), decide_eq_false hfuncs])) ?_
         refine go 11 ?_
         refine wcP rfl rfl rfl rfl Tryz.call59 rfl (take_w [_] _ _ _ l k0 0 0 0 0 [118, 97, 114] (by decide) hok hk0) (by simp) (by simp [Sto.bl]) ?_
         rintro t91 s91 (⟨-, ha91, hm91, rfl, rfl⟩ | ⟨ha91, rfl, rfl⟩)
         ·exact absurd (words_eq ha91 ha78) (by decide)
         ·refine go 7 ?_
          refine wcP rfl rfl rfl rfl Tryz.call59 rfl (take_w [_] _ _ _ l k0 0 0 0 0 [109, 117, 116, 101, 120] (by decide) hok hk0) (by simp) (by simp [Sto.bl]) ?_
          rintro t93 s93 (⟨-, ha93, hm93, rfl, rfl⟩ | ⟨ha93, rfl, rfl⟩)
          ·exact absurd (words_eq ha93 ha78) (by decide)
          ·refine go 7 ?_
           refine wcP rfl rfl rfl rfl Tryz.call59 rfl (take_w [_] _ _ _ l k0 0 0 0 0 [114, 109, 117, 116, 101, 120] (by decide) hok hk0) (by simp) (by simp [Sto.bl]) ?_
           rintro t95 s95 (⟨-, ha95, hm95, rfl, rfl⟩ | ⟨ha95, rfl, rfl⟩)
           ·exact absurd (words_eq ha95 ha78) (by decide)
           ·refine go 7 ?_
            refine wcP rfl rfl rfl rfl Tryz.call59 rfl (take_w [_] _ _ _ l k0 0 0 0 0 [102, 117, 110, 99] (by decide) hok hk0) (by simp) (by simp [Sto.bl]) ?_
            rintro t97 s97 (⟨-, ha97, hm97, rfl, rfl⟩ | ⟨ha97, rfl, rfl⟩)
            ·refine go 7 ?_
             refine wcP rfl rfl rfl rfl Tryz.call62 rfl (name_c [_] _ _ _ l (k0 + 1) 0 0 0 0 hok hm97 (by decide)) (by simp) (by simp [Sto.bl]) ?_
             rintro t99 s99 ⟨x99, k99, u99, e99, rfl, hr99, hk99, he99, rfl⟩
             refine go 8 fun b4 => ?_
             refine wcP rfl rfl rfl rfl Tryz.call63 rfl (params_c [_, _] _ _ _ l k99 u99 e99 0 hok hk99 he99) (by simp) (by simp [Sto.bl]) ?_
             rintro t100 s100 ⟨x100, k100, u100, e100, rfl, hr100, hk100, he100, rfl⟩
             refine go 7 ?_
             refine wcP rfl rfl rfl rfl Tryz.call46 rfl (block_all l hok 24 (Nat.le_refl _) [_, _] _ _ _ k100 u100 e100 hk100 he100) (by simp) (by simp [Sto.bl]) ?_
             rintro t101 s101 ⟨x101, k101, u101, e101, rfl, hr101, hk101, he101, rfl⟩
             refine go 8 ?_
             refine wo rfl (wbs Tryz.t65 [.val (.string ⟨#[]⟩), .val (.slice none 0 0), .val (.slice none 0 0)] rfl rfl (by decide) (.cons rfl .nil) Tryz.underlying38 (by kernel_rfl) rfl (by decide) (by decide) (by kernel_rfl) (by kernel_rfl) (fill_one encF encF ⟨x99, x100, x101⟩ rfl rfl rfl) ?_)
             refine wo rfl (wapI [_, _] Tryz.t65 64 rfl rfl (by decide) rfl rfl Tryz.underlying38 (by kernel_rfl) rfl rfl rfl rfl (by decide) rfl (by decide) (by unfold maxLen; skip; omega) (by skip; omega) (@List.length_append _ x0.funcs [⟨x99, x100, x101⟩]).symm (fun _ b hb => by simp [hb]) (fun b hb => by simp [hb]) (List.flatMap_append (f := encF)).symm fun v102 => ?_)
             refine go 5 ?_
             obtain ⟨m, rfl⟩ : ∃ m, n0 = m + 1 := ⟨n0 - 1, by omega⟩
             have hel : RRun 0 0 (declP l x0 k0) { x0 with funcs := x0.funcs ++ [AFunc.mk x99 x100 x101] } k101 u101 e101 := ((hr99.bind (f := fun n k => (parensP l (paramP l) k).bind fun p k => (blockP l 24 k).bind fun b k => .ok (AFunc.mk n p b) k) (hr100.bind (f := fun p k => (blockP l 24 k).bind fun b k => .ok (AFunc.mk x99 p b) k) (hr101.map (f := fun b => AFunc.mk x99 x100 b))) : RRun _ _ (funcP l (k0 + 1)) _ _ _ _).map (f := fun g => { x0 with funcs := x0.funcs ++ [g] })).eq fun _ => by unfold declP; rw [if_neg (by rw [ha7 rfl]; decide), if_neg (by rw [ha30 rfl]; decide), if_neg (by rw [ha53 rfl]; decide), if_pos ha78, if_neg (by omega)]; rfl
             have hst : ∀ z k' b' e', RRun e101 u101 (progP l m { x0 with funcs := x0.funcs ++ [AFunc.mk x99 x100 x101] } k101) z k' b' e' → RRun 0 0 (programP l) z k' b' e' := fun z k' b' e' h => hcont z k' b' e' (by rw [progP, if_neg hk5]; exact hel.bind h)
             have hgo : e101 = 0 → k0 < k101 ∧ u101 = 0 := fun h => by have h9 := declP_in hok.last (x := x0) hk0; rw [(hel.good h).2.1] at h9; exact ⟨h9.1, (hel.good h).2.2⟩
             refine ⟨({ x0 with funcs := x0.funcs ++ [AFunc.mk x99 x100 x101] }, vg, vm, v102, k101, u101, e101), ⟨hk101, he101, fun h => ?_, fun h => hst _ _ _ _ (.skip h _ _ _), fun h => ⟨(hgo h).2, m, ?_, fun z k' b' e' h2 => hst _ _ _ _ ?_⟩⟩, ?_, subA (.cons _ (.refl _)) (.refl _) (by intro x hx; simp only [List.mem_append, List.mem_cons, List.not_mem_nil, or_false] at hx ⊢; rcases hx with h | h | h | h | h | h <;> simp [h]) (sub_cons rfl (Wk.refl _) (sub_cons rfl (Wk.refl _) (sub_cons rfl (Wk.refl _) (sub_cons rfl (Wk.refl _) (sub_cons rfl (Wk.refl _) sub_nil)))))⟩
             ·simp; omega
             ·have := hgo h; show l.length ≤ m + k101; omega
             ·rw [show e101 = 0 from h, show u101 = 0 from (hgo h).2]; exact h2
             ·show (if e101 = 0 then _ else _) < (if (0 : Nat) = 0 then _ else _)
              by_cases h : e101 = 0
              ·have := hgo h; rw [if_pos h, if_pos rfl]; show l.length - k101 + 1 < l.length - k0 + 1; omega
              ·rw [if_neg h, if_pos rfl]; show 0 < l.length - k0 + 1; omega
            ·exact absurd (ha97 rfl) (by rw [ha78]; decide)
       ·refine go 42 ?_
        refine wcP rfl rfl rfl rfl Tryz.call59 rfl (take_w [_] _ _ _ l k0 0 0 0 0 [118, 97, 114] (by decide) hok hk0) (by simp) (by simp [Sto.bl]) ?_
        rintro t104 s104 (⟨-, ha104, hm104, rfl, rfl⟩ | ⟨ha104, rfl, rfl⟩)
        ·exact absurd ha104 (by rw [(ha7 rfl)]; decide)
        ·refine go 7 ?_
         refine wcP rfl rfl rfl rfl Tryz.call59 rfl (take_w [_] _ _ _ l k0 0 0 0 0 [109, 117, 116, 101, 120] (by decide) hok hk0) (by simp) (by simp [Sto.bl]) ?_
         rintro t106 s106 (⟨-, ha106, hm106, rfl, rfl⟩ | ⟨ha106, rfl, rfl⟩)
         ·exact absurd ha106 (by rw [(ha30 rfl)]; decide)
         ·refine go 7 ?_
          refine wcP rfl rfl rfl rfl Tryz.call59 rfl (take_w [_] _ _ _ l k0 0 0 0 0 [114, 109, 117, 116, 101, 120] (by decide) hok hk0) (by simp) (by simp [Sto.bl]) ?_
          rintro t108 s108 (⟨-, ha108, hm108, rfl, rfl⟩ | ⟨ha108, rfl, rfl⟩)
          ·exact absurd ha108 (by rw [(ha53 rfl)]; decide)
          ·refine go 7 ?_
           refine wcP rfl rfl rfl rfl Tryz.call59 rfl (take_w [_] _ _ _ l k0 0 0 0 0 [102, 117, 110, 99] (by decide) hok hk0) (by simp) (by simp [Sto.bl]) ?_
           rintro t110 s110 (⟨-, ha110, hm110, rfl, rfl⟩ | ⟨ha110, rfl, rfl⟩)
           ·exact absurd ha110 (by rw [(ha78 rfl)]; decide)
           ·refine go 6 ?_
            refine wcP rfl rfl rfl rfl Tryz.call58 rfl (fail_c [_] _ _ _ l k0 0 0 0 0 4) (by simp) (by simp [Sto.bl]) ?_
            rintro t112 s112 ⟨u112, e112, hf112, rfl, rfl⟩
            obtain ⟨rfl, rfl⟩ := hf112.1 rfl
            refine go 3 ?_
            obtain ⟨m, rfl⟩ : ∃ m, n0 = m + 1 := ⟨n0 - 1, by omega⟩
            have hel : RRun 0 0 (declP l x0 k0) x0 k0 k0 4 := .err _ _ _ _ _ (by unfold declP; rw [if_neg (by rw [ha7 rfl]; decide), if_neg (by rw [ha30 rfl]; decide), if_neg (by rw [ha53 rfl]; decide), if_neg (by rw [ha78 rfl]; decide)]) (by decide)
            have hst : ∀ z k' b' e', RRun 4 k0 (progP l m x0 k0) z k' b' e' → RRun 0 0 (programP l) z k' b' e' := fun z k' b' e' h => hcont z k' b' e' (by rw [progP, if_neg hk5]; exact hel.bind h)
            have hgo : 4 = 0 → k0 < k0 ∧ k0 = 0 := fun h => by have h9 := declP_in hok.last (x := x0) hk0; rw [(hel.good h).2.1] at h9; exact ⟨h9.1, (hel.good h).2.2⟩
            refine ⟨(x0, vg, vm, vf, k0, k0, 4), ⟨hk0, (show (4 : Nat) < 16 by decide), fun h => ?_, fun h => hst _ _ _ _ (.skip h _ _ _), fun h => ⟨(hgo h).2, m, ?_, fun z k' b' e' h2 => hst _ _ _ _ ?_⟩⟩, ?_, subA (.refl _) (.refl _) (by intro x hx; simp only [List.mem_append, List.mem_cons, List.not_mem_nil, or_false] at hx ⊢; rcases hx with h | h | h | h | h | h <;> simp [h]) (sub_cons rfl (Wk.refl _) (sub_cons rfl (Wk.refl _) (sub_cons rfl (Wk.refl _) (sub_cons rfl (Wk.refl _) (sub_cons rfl (Wk.refl _) sub_nil)))))⟩
            ·exact absurd h (show ¬ (4 : Nat) = 0 by decide)
            ·have := hgo h; show l.length ≤ m + k0; omega
            ·exact absurd h (show ¬ (4 : Nat) = 0 by decide)
            ·show (if 4 = 0 then _ else _) < (if (0 : Nat) = 0 then _ else _)
             by_cases h : 4 = 0
             ·have := hgo h; rw [if_pos h, if_pos rfl]; show l.length - k0 + 1 < l.length - k0 + 1; omega
             ·rw [if_neg h, if_pos rfl]; show 0 < l.length - k0 + 1; omega
  ·refine go 7 ?_
   refine wyy rfl rfl rfl (ay_cmp false rfl rfl rfl (eq_nat0 h0)) ?_
   refine go 16 ?_
   have herr : programP l = .err b0 e0 := by
    rcases hn0 h0 with ⟨h, _⟩ | ⟨_, ⟨_, h, _⟩ | ⟨h, _⟩⟩
    ·exact absurd rfl h
    ·exact absurd h h0
    ·exact h
   have hb0 : b0 < l.length := by have h9 : (programP l).At l 0 := progP_at hok.last _ _ _ hk; rw [herr] at h9; exact h9.2.1
   refine go 4 ?_
   refine wyy rfl rfl rfl (ay_cmp true rfl rfl rfl (by simp [cmpR, h0])) ?_
   refine go 4 ?_
   refine aw_region_drew [b3, P] (by kernel_rfl) ?_
   refine tks [(0, true), (1, true), (2, true), (3, true), (4, true), (5, true)] 10 (by kernel_rfl) ?_
   refine go 7 ?_
   refine tq 6 (by kernel_rfl) rfl rfl rfl rfl (ay_ix encT encT l encT_len (fun _ => rfl) b0 rfl rfl rfl rfl hb0 (by decide) Tryz.runUnderlying47 Tryz.sizeOf72) ?_
   refine tks [(7, true), (8, true), (9, true), (10, true), (11, true), (12, true), (13, false), (14, true), (15, true)] 0 (by kernel_rfl) ?_
   refine go 10 ?_
   refine any_done (by kernel_rfl) ?_
   refine go 3 ?_
   exact ⟨.inr rfl, _, ⟨bx, rw⟩, (res_three rfl (resv_wk (Wk.agg (.cons wk_nil (.cons wk_nil (.cons wk_nil .nil)))) (resv_cell [_, _] rfl rfl Tryz.isAgg40 Tryz.sizeOf40 (pk_all rfl rfl))) (resv_tmp rfl) (resv_tmp rfl)), subS_of (.cons _ (.cons _ (.cons _ (.refl _)))) (.cons _ (.cons _ (.cons _ (.refl _)))), by rw [progX_bad hlx herr hb0]; rfl, rfl⟩
 ·skip
  refine go 13 ?_
  refine wyy rfl rfl rfl (ay_cmp true rfl rfl rfl (by simp [cmpR, her])) ?_
  refine go 15 ?_
  exact ⟨.inr rfl, _, ⟨bx, rw⟩, (res_three rfl (resv_wk (Wk.agg (.cons wk_nil (.cons wk_nil (.cons wk_nil .nil)))) (resv_cell [] rfl rfl Tryz.isAgg40 Tryz.sizeOf40 (pk_all rfl rfl))) (resv_tmp rfl) (resv_tmp rfl)), subS_of (.cons _ (.refl _)) (.refl _), by rw [progX_lex hlx]; rfl, rfl⟩
end Go.Proofs.YtflcnehhpmjipaaGreatDoor
