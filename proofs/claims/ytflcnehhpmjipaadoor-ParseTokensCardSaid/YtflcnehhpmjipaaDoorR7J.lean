import Derived.Test.YtflcnehhpmjipaaDoorR3J
set_option linter.unusedVariables false
set_option linter.unusedSimpArgs false
namespace Go.Proofs.YtflcnehhpmjipaaDoor
open Go.RowKit
theorem ay_negR {P : Program} {U : List Nat} {o : Oper} {st : AS} (r : Int) {t : TypeId} {x : Operand} {m : Int} (ho : o.op = .unOp .neg t x) (hx : evA st x = some (.c (.val (.int .i64 m)))) (hr : 0 - m = r) (h1 : -9223372036854775808 ≤ r) (h2 : r ≤ 9223372036854775807) : AY P U o st (.c (.val (.int .i64 r))) := by
 have h := ay_neg (P := P) (U := U) ho hx
 rw [hr, wrap64 h1 h2] at h; exact h
theorem ay_len_row {P : Program} {U : List Nat} {o : Oper} {st : AS} {x : Operand} {t e E : TypeId} {v : Value} {z n : Nat} {cs : List AC} (A : List ORow) {B : List ORow} (ho : o.op = .call { callee := .builtin .len, args := #[x], argTypes := #[t] }) (hx : evA st x = some (.c (.val v))) (hrow : st.s.rows = A ++ ⟨v, E, z, n, cs⟩ :: B) (hu : ∀ w, (underlying t).run P w = .ok (.slice e) w) : AY P U o st (.c (.val (.int .i64 n))) :=
 ay_vals rfl fun a w hs w' => by
  obtain ⟨us, hown, -⟩ := hs.mem.row ⟨v, E, z, n, cs⟩ (by rw [hrow]; simp)
  have hv : ∃ p c, v = .slice p n c := by
   rcases hown.2 with ⟨h1, h2⟩ | ⟨g, cap, cur, h1, -⟩
   ·dsimp only at h1 h2; subst h2; exact ⟨_, _, h1⟩
   ·exact ⟨_, _, h1⟩
  obtain ⟨p, c, rfl⟩ := hv
  simp only [execOp, ho, resolve, List.map_toArray, List.map_cons, List.map_nil, hs.val hx]
  simp [go_sem, invoke, builtin, Builtin.len_, hu, goInt]
theorem RRun.bad {α β : Type} {e1 b1 b0 k k2 b e : Nat} {r : PRes α} {r' : PRes β} {y : β} {x : α} (h : RRun e1 b1 r' y k b e) (h1 : e1 ≠ 0) (hr : r = .err b1 e1) : RRun 0 b0 r x k2 b e := by
 rcases h with ⟨_, rfl, rfl⟩ | ⟨h, _⟩
 ·exact .err _ _ _ _ _ hr h1
 ·exact absurd h h1
theorem name_no {l : List Tok} {k : Nat} (h : (tokAt l k).kind ≠ 1) : nameP l k = .err k 4 := by unfold nameP; rw [if_neg h]
set_option maxRecDepth 100000 in
set_option maxHeartbeats 1600000 in
theorem params_c (A B : List Box) (rw : List ORow) (P : Nat) (l : List Tok) (k b e dp : Nat) (hok : TOk l) (hk : k < l.length) (he : e < 16) : ACall Tryd.prog 42 [.c (.val (.pointer (some ⟨P, 0, none⟩)))] [P] (RSt A B rw P l k b e 0 dp) (RAn A B rw P l 0 dp (fun x => .c (.sl x.length (x.flatMap encP))) e b (parensP l (paramP l) k)) := by
 have hlen := hok.len
 refine acall_body Tryd.func42 rfl (Nat.le_of_ble_eq_true rfl) ?_
 show AWp Tryd.prog _ ⟨44, [P], ⟨A ++ ⟨P, 78, [.sl l.length (l.flatMap encT), .val (.int .i64 ((k : Nat) : Int)), .val (.int .i64 ((b : Nat) : Int)), .val (.int .i64 ((e : Nat) : Int)), .val (.int .i64 ((0 : Nat) : Int)), .val (.int .i64 ((dp : Nat) : Int))]⟩ :: B, rw⟩, [(0, .c (.val (.pointer (some ⟨P, 0, none⟩))))]⟩ _
 refine sqrg ?_
 refine wag rfl rfl rfl rfl rfl ?_
 refine nx ?_
 refine wag rfl rfl rfl rfl rfl ?_
 refine nx ?_
 refine wmv rfl rfl rfl rfl rfl ?_
 refine wcP rfl rfl rfl rfl Tryd.call72 rfl (must_c (A) _ _ _ l k b e 0 dp [40] (by decide) hok hk he) (by simp) (by simp [Sto.bl]) ?_
 rintro t1 s1 ⟨x1, k1, u1, e1, rfl, hr1, hk1, he1, rfl⟩
 refine nlnm ?_
 refine aw_seq ?_
 refine sqrg ?_
 refine wmv rfl rfl rfl rfl rfl ?_
 refine wcP rfl rfl rfl rfl Tryd.call38 rfl (take_s (A) _ _ _ l k1 u1 e1 0 dp [41] (by decide) hok hk1) (by simp) (by simp [Sto.bl]) ?_
 rintro t2 s2 (⟨rfl, ha2, hm2, rfl, rfl⟩ | ⟨ha2, rfl, rfl⟩)
 ·refine nlnm ?_
  refine aw_condT rfl rfl ?_
  refine sqrg ?_
  refine wag rfl rfl rfl rfl rfl ?_
  refine nlnm ?_
  refine aw_ret ?_
  refine then_ret ?_
  exact ⟨.inr rfl, _, (RSt A B rw P l (k1 + 1) (u1) (0) (0) (dp)), (res_wk (Wk.c wk_nil) (res_one rfl (resv_tmp rfl))), subS_of (.refl _) (.refl _), ⟨[], k1 + 1, u1, 0, rfl, hr1.bind (by rw [if_pos ha2]; exact .ok _ _ _ rfl), hm2, (by decide), rfl⟩⟩
 ·refine nlnm ?_
  refine aw_condF rfl rfl ?_
  refine aw_skip ?_
  refine then_normal ?_
  refine aw_seq ?_
  refine aw_block ?_
  refine wrow 93 2 ?_
  refine aw_loop (fun g : List AParam × Value × Nat × Nat × Nat => (⟨44, rowB g.2.1 ++ [P], ⟨A ++ ⟨P, 78, [.sl l.length (l.flatMap encT), .val (.int .i64 (((g.2.2.1) : Nat) : Int)), .val (.int .i64 (((g.2.2.2.1) : Nat) : Int)), .val (.int .i64 (((g.2.2.2.2) : Nat) : Int)), .val (.int .i64 ((0 : Nat) : Int)), .val (.int .i64 (((dp) : Nat) : Int))]⟩ :: B, ⟨g.2.1, 93, 2, (g.1).length, (g.1).flatMap encP⟩ :: rw⟩, [(3, .c (.val g.2.1)), (0, .c (.val (.pointer (some ⟨P, 0, none⟩))))]⟩ : AS)) (fun g => g.2.2.1 < l.length ∧ g.2.2.2.2 < 16 ∧ (g.2.2.2.2 = 0 → g.1.length ≤ 6) ∧ (g.2.2.2.2 ≠ 0 → RRun e b (parensP l (paramP l) k) g.1 g.2.2.1 g.2.2.2.1 g.2.2.2.2) ∧ (g.2.2.2.2 = 0 → ∃ n, l.length ≤ n + g.2.2.1 ∧ ∀ z k' b' e', RRun 0 g.2.2.2.1 (listP l (paramP l) n g.1 g.2.2.1) z k' b' e' → RRun e b (parensP l (paramP l) k) z k' b' e')) (fun g => if g.2.2.2.2 = 0 then l.length - g.2.2.1 + 1 else 0) ([], .slice none 0 0, k1, u1, e1) (subA (.refl _) (.refl _) (fun _ h => h) (sub_cons rfl (Wk.refl _) (sub_cons rfl (Wk.refl _) sub_nil))) ⟨hk1, he1, fun _ => Nat.zero_le _, fun h => hr1.bind (RRun.skip h _ _ _), fun h => ⟨l.length, Nat.le_add_right _ _, fun z k' b' e' h2 => ?_⟩⟩ ?_
  ·have h : e1 = 0 := h
   refine hr1.bind ?_
   rw [h, if_neg (by rw [ha2 h]; decide)]
   exact h2
  rintro ⟨acc, v0, k0, b0, e0⟩ ⟨hk0, he0, ha0, hn0, hc0⟩
  dsimp only at hk0 he0 ha0 hn0 hc0
  show AWp Tryd.prog _ (⟨44, rowB v0 ++ [P], ⟨A ++ ⟨P, 78, [.sl l.length (l.flatMap encT), .val (.int .i64 (((k0) : Nat) : Int)), .val (.int .i64 (((b0) : Nat) : Int)), .val (.int .i64 (((e0) : Nat) : Int)), .val (.int .i64 ((0 : Nat) : Int)), .val (.int .i64 (((dp) : Nat) : Int))]⟩ :: B, ⟨v0, 93, 2, (acc).length, (acc).flatMap encP⟩ :: rw⟩, [(3, .c (.val v0)), (0, .c (.val (.pointer (some ⟨P, 0, none⟩))))]⟩ : AS) _
  by_cases h0 : e0 = 0
  ·subst h0
   have ha1 := ha0 rfl
   obtain ⟨n0, hn1, hcont⟩ := hc0 rfl
   refine aw_seq ?_
   refine sqrg ?_
   refine wmv rfl rfl rfl rfl rfl ?_
   refine wyy rfl rfl rfl (ay_nilCheck rfl rfl) ?_
   refine wyy rfl rfl rfl (ay_fieldAddr 3 3 rfl rfl Tryd.runUnderlying78 rfl Tryd.sizeOf36 (by decide) rfl) ?_
   refine wyy rfl rfl rfl (ay_load_box (A) rfl rfl rfl Tryd.isAgg36 Tryd.sizeOf36 rfl (fun _ h => by cases h)) ?_
   refine wyy rfl rfl rfl (ay_cmp true rfl rfl rfl (by rfl)) ?_
   refine nlnm ?_
   refine aw_condT rfl rfl ?_
   refine aw_skip ?_
   refine then_normal ?_
   refine aw_block ?_
   refine aw_seq ?_
   refine sqrg ?_
   refine wmv rfl rfl rfl rfl rfl ?_
   refine wyy rfl rfl rfl (ay_len_row [] rfl rfl rfl Tryd.runUnderlying51) ?_
   by_cases hfull : acc.length = 6
   ·skip
    refine wyy rfl rfl rfl (ay_cmp true rfl rfl rfl (by rw [hfull]; rfl)) ?_
    refine wmv rfl rfl rfl rfl rfl ?_
    refine wmv rfl rfl rfl rfl rfl ?_
    refine wcP rfl rfl rfl rfl Tryd.call36 rfl (isd_w (A) _ _ _ l k0 b0 0 0 dp [109, 117, 116, 101, 120] (by decide) hok hk0) (by simp) (by simp [Sto.bl]) ?_
    rintro t6 s6 (⟨-, ha6, rfl, rfl⟩ | ⟨ha6, rfl, rfl⟩)
    ·refine wmv rfl rfl rfl rfl rfl ?_
     refine wskip rfl rfl (by decide) ?_
     refine wskip rfl rfl (by decide) ?_
     refine wyy rfl rfl rfl (ay_pick rfl rfl rfl) ?_
     refine wyy rfl rfl rfl (ay_pick rfl rfl rfl) ?_
     refine nlnm ?_
     refine aw_condT rfl rfl ?_
     refine aw_region ?_
     refine wmv rfl rfl rfl rfl rfl ?_
     refine wcP rfl rfl rfl rfl Tryd.call37 rfl (fail_c (A) _ _ _ l k0 b0 0 0 dp 3) (by simp) (by simp [Sto.bl]) ?_
     rintro t8 s8 ⟨u8, e8, hf8, rfl, rfl⟩
     obtain ⟨rfl, rfl⟩ := hf8.1 rfl
     refine nx ?_
     refine wmv rfl rfl rfl rfl rfl ?_
     refine wcP rfl rfl rfl rfl Tryd.call38 rfl (take_w (A) _ _ _ l k0 k0 3 0 dp [109, 117, 116, 101, 120] (by decide) hok hk0) (by simp) (by simp [Sto.bl]) ?_
     rintro t9 s9 (⟨hz9, -⟩ | ⟨ha9, rfl, rfl⟩)
     ·exact absurd hz9 (by decide)
     ·refine wyy rfl rfl rfl (ay_build Tryd.t93 [(0, 1), (1, 1)] rfl (.cons rfl .nil) Tryd.underlying93 (by kernel_rfl) rfl (by kernel_rfl) rfl rfl) ?_
      refine wo rfl (walloc rfl rfl (by decide) Tryd.zeroValue93 rfl fun b1 => ?_)
      refine wo rfl (wst0 rfl rfl rfl rfl rfl Tryd.sizeOf93 rfl (Nat.le_of_ble_eq_true rfl) (splice_all rfl) (by simp) (fun _ => by simp) ?_)
      refine nx ?_
      refine wmv rfl rfl rfl rfl rfl ?_
      refine wcP rfl rfl rfl rfl Tryd.call41 rfl (name_c (_ :: A) _ _ _ l k0 k0 3 0 dp hok hk0 (by decide)) (by simp) (by simp [Sto.bl]) ?_
      rintro t10 s10 ⟨x10, k10, u10, e10, rfl, hr10, hk10, he10, rfl⟩
      refine wyy rfl rfl rfl (ay_fieldAddr 0 0 rfl rfl Tryd.runUnderlying93 rfl Tryd.sizeOf9 (by decide) rfl) ?_
      refine wo rfl (wst0 rfl rfl rfl rfl rfl Tryd.sizeOf9 rfl (Nat.le_of_ble_eq_true rfl) rfl (by simp) (fun _ => by simp) ?_)
      refine nx ?_
      have hel : RRun 0 b0 (paramP l acc.length k0) ⟨x10, false⟩ k10 u10 e10 := hr10.bad (by decide) (by unfold paramP; rw [if_pos ⟨by omega, .inr ha6⟩])
      have hsix : e10 = 0 → acc.length < 6 := fun h => by
       have h9 := (hel.good h).2.1
       unfold paramP at h9
       rw [if_pos ⟨by omega, .inr ha6⟩] at h9; cases h9
      refine wmv rfl rfl rfl rfl rfl ?_
      refine wyy rfl rfl rfl (ay_load_box [] rfl rfl rfl Tryd.isAgg93 Tryd.sizeOf93 rfl (fun _ h => by cases h)) ?_
      refine wo rfl (wbs Tryd.t93 [.val (.string ⟨#[]⟩), .val (.bool false)] rfl rfl (by decide) (.cons rfl .nil) Tryd.underlying51 (by kernel_rfl) rfl (by decide) (by decide) (by kernel_rfl) (by kernel_rfl) (fill_one encP encP ⟨x10, false⟩ rfl rfl rfl) ?_)
      refine wo rfl (wap0 Tryd.t93 24 rfl rfl (by decide) rfl rfl Tryd.underlying51 (by kernel_rfl) rfl rfl rfl rfl (by decide) rfl (by decide) (by unfold maxLen; have := ha1; omega) (by have := ha1; omega) (@List.length_append _ acc [⟨x10, false⟩]).symm (fun _ b hb => by simp [hb]) (fun b hb => by simp [hb]) (List.flatMap_append (f := encP)).symm fun v11 => ?_)
      refine wag rfl rfl rfl rfl rfl ?_
      refine nx ?_
      refine wmv rfl rfl rfl rfl rfl ?_
      refine wcP rfl rfl rfl rfl Tryd.call38 rfl (take_s (_ :: A) _ _ _ l k10 u10 e10 0 dp [44] (by decide) hok hk10) (by simp) (by simp [Sto.bl]) ?_
      rintro t12 s12 (⟨rfl, ha12, hm12, rfl, rfl⟩ | ⟨ha12, rfl, rfl⟩)
      ·refine wyy rfl rfl rfl (ay_not rfl rfl) ?_
       refine nlnm ?_
       refine aw_condF rfl rfl ?_
       refine aw_skip ?_
       refine inB_normal ?_
       obtain ⟨m, rfl⟩ : ∃ m, n0 = m + 1 := ⟨n0 - 1, by omega⟩
       have hin := paramP_in (n := acc.length) hok.last hk0
       rw [(hel.good rfl).2.1] at hin
       have hin1 := hin.1
       refine ⟨(acc ++ [⟨x10, false⟩], v11, k10 + 1, u10, 0), ⟨hm12, by show (0 : Nat) < 16; decide, fun _ => by have := hsix rfl; show (acc ++ [_]).length ≤ 6; simp; omega, fun h => absurd rfl h, fun _ => ⟨m, by show l.length ≤ m + (k10 + 1); omega, fun z k' b' e' h => hcont z k' b' e' ?_⟩⟩, by show (if (0 : Nat) = 0 then _ else _) < (if (0 : Nat) = 0 then _ else _); rw [if_pos rfl, if_pos rfl]; show l.length - (k10 + 1) + 1 < l.length - k0 + 1; omega, subA (.cons _ (.refl _)) (.refl _) (by intro x hx; simp only [List.mem_append, List.mem_cons, List.not_mem_nil, or_false] at hx ⊢; rcases hx with h | h <;> simp [h]) (sub_cons rfl (Wk.refl _) (sub_cons rfl (Wk.refl _) sub_nil))⟩
       rw [listP]
       refine hel.bind ?_
       rw [if_pos ha12]
       exact h
      ·refine wyy rfl rfl rfl (ay_not rfl rfl) ?_
       refine nlnm ?_
       refine aw_condT rfl rfl ?_
       refine sqrg ?_
       refine wmv rfl rfl rfl rfl rfl ?_
       refine wcP rfl rfl rfl rfl Tryd.call72 rfl (must_c (_ :: A) _ _ _ l k10 u10 e10 0 dp [41] (by decide) hok hk10 he10) (by simp) (by simp [Sto.bl]) ?_
       rintro t15 s15 ⟨x15, k15, u15, e15, rfl, hr15, hk15, he15, rfl⟩
       refine nx ?_
       refine wmv rfl rfl rfl rfl rfl ?_
       refine wag rfl rfl rfl rfl rfl ?_
       refine nlnm ?_
       refine wfrz 2 rfl ?_
       refine aw_ret ?_
       refine inB_ret ?_
       refine then_ret ?_
       refine inB_ret ?_
       refine then_ret ?_
       obtain ⟨m, rfl⟩ : ∃ m, n0 = m + 1 := ⟨n0 - 1, by omega⟩
       exact ⟨.inr rfl, _, (RSt A B rw P l (k15) (u15) (e15) (0) (dp)), (res_one rfl (resv_tmp rfl)), subS_of (.cons _ (.refl _)) (.refl _), ⟨acc ++ [⟨x10, false⟩], k15, u15, e15, rfl, hcont _ _ _ _ (by rw [listP]; exact hel.bind ((hr15.map (f := fun _ => acc ++ [⟨x10, false⟩])).eq fun h => by rw [if_neg (by rw [ha12 h]; decide)])), hk15, he15, rfl⟩⟩
    ·refine wmv rfl rfl rfl rfl rfl ?_
     refine wmv rfl rfl rfl rfl rfl ?_
     refine wcP rfl rfl rfl rfl Tryd.call35 rfl (kindd (A) _ _ _ l k0 b0 0 0 dp 1 hk0) (by simp) (by simp [Sto.bl]) ?_
     rintro t16 s16 (⟨-, ha16, rfl, rfl⟩ | ⟨ha16, rfl, rfl⟩)
     ·refine wyy rfl rfl rfl (ay_pick rfl rfl rfl) ?_
      refine wyy rfl rfl rfl (ay_pick rfl rfl rfl) ?_
      refine nlnm ?_
      refine aw_condT rfl rfl ?_
      refine aw_region ?_
      refine wmv rfl rfl rfl rfl rfl ?_
      refine wcP rfl rfl rfl rfl Tryd.call37 rfl (fail_c (A) _ _ _ l k0 b0 0 0 dp 3) (by simp) (by simp [Sto.bl]) ?_
      rintro t18 s18 ⟨u18, e18, hf18, rfl, rfl⟩
      obtain ⟨rfl, rfl⟩ := hf18.1 rfl
      refine nx ?_
      refine wmv rfl rfl rfl rfl rfl ?_
      refine wcP rfl rfl rfl rfl Tryd.call38 rfl (take_w (A) _ _ _ l k0 k0 3 0 dp [109, 117, 116, 101, 120] (by decide) hok hk0) (by simp) (by simp [Sto.bl]) ?_
      rintro t19 s19 (⟨hz19, -⟩ | ⟨ha19, rfl, rfl⟩)
      ·exact absurd hz19 (by decide)
      ·refine wyy rfl rfl rfl (ay_build Tryd.t93 [(0, 1), (1, 1)] rfl (.cons rfl .nil) Tryd.underlying93 (by kernel_rfl) rfl (by kernel_rfl) rfl rfl) ?_
       refine wo rfl (walloc rfl rfl (by decide) Tryd.zeroValue93 rfl fun b2 => ?_)
       refine wo rfl (wst0 rfl rfl rfl rfl rfl Tryd.sizeOf93 rfl (Nat.le_of_ble_eq_true rfl) (splice_all rfl) (by simp) (fun _ => by simp) ?_)
       refine nx ?_
       refine wmv rfl rfl rfl rfl rfl ?_
       refine wcP rfl rfl rfl rfl Tryd.call41 rfl (name_c (_ :: A) _ _ _ l k0 k0 3 0 dp hok hk0 (by decide)) (by simp) (by simp [Sto.bl]) ?_
       rintro t20 s20 ⟨x20, k20, u20, e20, rfl, hr20, hk20, he20, rfl⟩
       refine wyy rfl rfl rfl (ay_fieldAddr 0 0 rfl rfl Tryd.runUnderlying93 rfl Tryd.sizeOf9 (by decide) rfl) ?_
       refine wo rfl (wst0 rfl rfl rfl rfl rfl Tryd.sizeOf9 rfl (Nat.le_of_ble_eq_true rfl) rfl (by simp) (fun _ => by simp) ?_)
       refine nx ?_
       have hel : RRun 0 b0 (paramP l acc.length k0) ⟨x20, false⟩ k20 u20 e20 := hr20.bad (by decide) (by unfold paramP; rw [if_pos ⟨by omega, .inl ha16⟩])
       have hsix : e20 = 0 → acc.length < 6 := fun h => by
        have h9 := (hel.good h).2.1
        unfold paramP at h9
        rw [if_pos ⟨by omega, .inl ha16⟩] at h9; cases h9
       refine wmv rfl rfl rfl rfl rfl ?_
       refine wyy rfl rfl rfl (ay_load_box [] rfl rfl rfl Tryd.isAgg93 Tryd.sizeOf93 rfl (fun _ h => by cases h)) ?_
       refine wo rfl (wbs Tryd.t93 [.val (.string ⟨#[]⟩), .val (.bool false)] rfl rfl (by decide) (.cons rfl .nil) Tryd.underlying51 (by kernel_rfl) rfl (by decide) (by decide) (by kernel_rfl) (by kernel_rfl) (fill_one encP encP ⟨x20, false⟩ rfl rfl rfl) ?_)
       refine wo rfl (wap0 Tryd.t93 24 rfl rfl (by decide) rfl rfl Tryd.underlying51 (by kernel_rfl) rfl rfl rfl rfl (by decide) rfl (by decide) (by unfold maxLen; have := ha1; omega) (by have := ha1; omega) (@List.length_append _ acc [⟨x20, false⟩]).symm (fun _ b hb => by simp [hb]) (fun b hb => by simp [hb]) (List.flatMap_append (f := encP)).symm fun v21 => ?_)
       refine wag rfl rfl rfl rfl rfl ?_
       refine nx ?_
       refine wmv rfl rfl rfl rfl rfl ?_
       refine wcP rfl rfl rfl rfl Tryd.call38 rfl (take_s (_ :: A) _ _ _ l k20 u20 e20 0 dp [44] (by decide) hok hk20) (by simp) (by simp [Sto.bl]) ?_
       rintro t22 s22 (⟨rfl, ha22, hm22, rfl, rfl⟩ | ⟨ha22, rfl, rfl⟩)
       ·refine wyy rfl rfl rfl (ay_not rfl rfl) ?_
        refine nlnm ?_
        refine aw_condF rfl rfl ?_
        refine aw_skip ?_
        refine inB_normal ?_
        obtain ⟨m, rfl⟩ : ∃ m, n0 = m + 1 := ⟨n0 - 1, by omega⟩
        have hin := paramP_in (n := acc.length) hok.last hk0
        rw [(hel.good rfl).2.1] at hin
        have hin1 := hin.1
        refine ⟨(acc ++ [⟨x20, false⟩], v21, k20 + 1, u20, 0), ⟨hm22, by show (0 : Nat) < 16; decide, fun _ => by have := hsix rfl; show (acc ++ [_]).length ≤ 6; simp; omega, fun h => absurd rfl h, fun _ => ⟨m, by show l.length ≤ m + (k20 + 1); omega, fun z k' b' e' h => hcont z k' b' e' ?_⟩⟩, by show (if (0 : Nat) = 0 then _ else _) < (if (0 : Nat) = 0 then _ else _); rw [if_pos rfl, if_pos rfl]; show l.length - (k20 + 1) + 1 < l.length - k0 + 1; omega, subA (.cons _ (.refl _)) (.refl _) (by intro x hx; simp only [List.mem_append, List.mem_cons, List.not_mem_nil, or_false] at hx ⊢; rcases hx with h | h <;> simp [h]) (sub_cons rfl (Wk.refl _) (sub_cons rfl (Wk.refl _) sub_nil))⟩
        rw [listP]
        refine hel.bind ?_
        rw [if_pos ha22]
        exact h
       ·refine wyy rfl rfl rfl (ay_not rfl rfl) ?_
        refine nlnm ?_
        refine aw_condT rfl rfl ?_
        refine sqrg ?_
        refine wmv rfl rfl rfl rfl rfl ?_
        refine wcP rfl rfl rfl rfl Tryd.call72 rfl (must_c (_ :: A) _ _ _ l k20 u20 e20 0 dp [41] (by decide) hok hk20 he20) (by simp) (by simp [Sto.bl]) ?_
        rintro t25 s25 ⟨x25, k25, u25, e25, rfl, hr25, hk25, he25, rfl⟩
        refine nx ?_
        refine wmv rfl rfl rfl rfl rfl ?_
        refine wag rfl rfl rfl rfl rfl ?_
        refine nlnm ?_
        refine wfrz 2 rfl ?_
        refine aw_ret ?_
        refine inB_ret ?_
        refine then_ret ?_
        refine inB_ret ?_
        refine then_ret ?_
        obtain ⟨m, rfl⟩ : ∃ m, n0 = m + 1 := ⟨n0 - 1, by omega⟩
        exact ⟨.inr rfl, _, (RSt A B rw P l (k25) (u25) (e25) (0) (dp)), (res_one rfl (resv_tmp rfl)), subS_of (.cons _ (.refl _)) (.refl _), ⟨acc ++ [⟨x20, false⟩], k25, u25, e25, rfl, hcont _ _ _ _ (by rw [listP]; exact hel.bind ((hr25.map (f := fun _ => acc ++ [⟨x20, false⟩])).eq fun h => by rw [if_neg (by rw [ha22 h]; decide)])), hk25, he25, rfl⟩⟩
     ·refine wyy rfl rfl rfl (ay_pick rfl rfl rfl) ?_
      refine wyy rfl rfl rfl (ay_pick rfl rfl rfl) ?_
      refine nlnm ?_
      refine aw_condF rfl rfl ?_
      refine aw_skip ?_
      refine then_normal ?_
      refine sqrg ?_
      refine wmv rfl rfl rfl rfl rfl ?_
      refine wcP rfl rfl rfl rfl Tryd.call38 rfl (take_w (A) _ _ _ l k0 b0 0 0 dp [109, 117, 116, 101, 120] (by decide) hok hk0) (by simp) (by simp [Sto.bl]) ?_
      rintro t27 s27 (⟨-, ha27, hm27, rfl, rfl⟩ | ⟨ha27, rfl, rfl⟩)
      ·exact absurd ha27 (by rw [(ha6 rfl)]; decide)
      ·refine wyy rfl rfl rfl (ay_build Tryd.t93 [(0, 1), (1, 1)] rfl (.cons rfl .nil) Tryd.underlying93 (by kernel_rfl) rfl (by kernel_rfl) rfl rfl) ?_
       refine wo rfl (walloc rfl rfl (by decide) Tryd.zeroValue93 rfl fun b3 => ?_)
       refine wo rfl (wst0 rfl rfl rfl rfl rfl Tryd.sizeOf93 rfl (Nat.le_of_ble_eq_true rfl) (splice_all rfl) (by simp) (fun _ => by simp) ?_)
       refine nx ?_
       refine wmv rfl rfl rfl rfl rfl ?_
       refine wcP rfl rfl rfl rfl Tryd.call41 rfl (name_c (_ :: A) _ _ _ l k0 b0 0 0 dp hok hk0 he0) (by simp) (by simp [Sto.bl]) ?_
       rintro t28 s28 ⟨x28, k28, u28, e28, rfl, hr28, hk28, he28, rfl⟩
       refine wyy rfl rfl rfl (ay_fieldAddr 0 0 rfl rfl Tryd.runUnderlying93 rfl Tryd.sizeOf9 (by decide) rfl) ?_
       refine wo rfl (wst0 rfl rfl rfl rfl rfl Tryd.sizeOf9 rfl (Nat.le_of_ble_eq_true rfl) rfl (by simp) (fun _ => by simp) ?_)
       refine nx ?_
       have hel : RRun 0 b0 (paramP l acc.length k0) ⟨x28, false⟩ k28 u28 e28 := (hr28.map (f := fun s => AParam.mk s false)).eq fun _ => by unfold paramP; rw [if_neg (fun hh => hh.2.elim (ha16 rfl) (fun h => absurd h (by rw [ha6 rfl]; decide))), if_neg (by rw [ha27 rfl]; decide)]
       have hsix : e28 = 0 → acc.length < 6 := fun h => by
        have h9 := (hel.good h).2.1
        unfold paramP at h9
        rw [if_neg (fun hh => hh.2.elim (ha16 rfl) (fun h => absurd h (by rw [ha6 rfl]; decide))), if_neg (by rw [ha27 rfl]; decide), name_no (ha16 rfl)] at h9; cases h9
       refine wmv rfl rfl rfl rfl rfl ?_
       refine wyy rfl rfl rfl (ay_load_box [] rfl rfl rfl Tryd.isAgg93 Tryd.sizeOf93 rfl (fun _ h => by cases h)) ?_
       refine wo rfl (wbs Tryd.t93 [.val (.string ⟨#[]⟩), .val (.bool false)] rfl rfl (by decide) (.cons rfl .nil) Tryd.underlying51 (by kernel_rfl) rfl (by decide) (by decide) (by kernel_rfl) (by kernel_rfl) (fill_one encP encP ⟨x28, false⟩ rfl rfl rfl) ?_)
       refine wo rfl (wap0 Tryd.t93 24 rfl rfl (by decide) rfl rfl Tryd.underlying51 (by kernel_rfl) rfl rfl rfl rfl (by decide) rfl (by decide) (by unfold maxLen; have := ha1; omega) (by have := ha1; omega) (@List.length_append _ acc [⟨x28, false⟩]).symm (fun _ b hb => by simp [hb]) (fun b hb => by simp [hb]) (List.flatMap_append (f := encP)).symm fun v29 => ?_)
       refine wag rfl rfl rfl rfl rfl ?_
       refine nx ?_
       refine wmv rfl rfl rfl rfl rfl ?_
       refine wcP rfl rfl rfl rfl Tryd.call38 rfl (take_s (_ :: A) _ _ _ l k28 u28 e28 0 dp [44] (by decide) hok hk28) (by simp) (by simp [Sto.bl]) ?_
       rintro t30 s30 (⟨rfl, ha30, hm30, rfl, rfl⟩ | ⟨ha30, rfl, rfl⟩)
       ·refine wyy rfl rfl rfl (ay_not rfl rfl) ?_
        refine nlnm ?_
        refine aw_condF rfl rfl ?_
        refine aw_skip ?_
        refine inB_normal ?_
        obtain ⟨m, rfl⟩ : ∃ m, n0 = m + 1 := ⟨n0 - 1, by omega⟩
        have hin := paramP_in (n := acc.length) hok.last hk0
        rw [(hel.good rfl).2.1] at hin
        have hin1 := hin.1
        refine ⟨(acc ++ [⟨x28, false⟩], v29, k28 + 1, u28, 0), ⟨hm30, by show (0 : Nat) < 16; decide, fun _ => by have := hsix rfl; show (acc ++ [_]).length ≤ 6; simp; omega, fun h => absurd rfl h, fun _ => ⟨m, by show l.length ≤ m + (k28 + 1); omega, fun z k' b' e' h => hcont z k' b' e' ?_⟩⟩, by show (if (0 : Nat) = 0 then _ else _) < (if (0 : Nat) = 0 then _ else _); rw [if_pos rfl, if_pos rfl]; show l.length - (k28 + 1) + 1 < l.length - k0 + 1; omega, subA (.cons _ (.refl _)) (.refl _) (by intro x hx; simp only [List.mem_append, List.mem_cons, List.not_mem_nil, or_false] at hx ⊢; rcases hx with h | h <;> simp [h]) (sub_cons rfl (Wk.refl _) (sub_cons rfl (Wk.refl _) sub_nil))⟩
        rw [listP]
        refine hel.bind ?_
        rw [if_pos ha30]
        exact h
       ·refine wyy rfl rfl rfl (ay_not rfl rfl) ?_
        refine nlnm ?_
        refine aw_condT rfl rfl ?_
        refine sqrg ?_
        refine wmv rfl rfl rfl rfl rfl ?_
        refine wcP rfl rfl rfl rfl Tryd.call72 rfl (must_c (_ :: A) _ _ _ l k28 u28 e28 0 dp [41] (by decide) hok hk28 he28) (by simp) (by simp [Sto.bl]) ?_
        rintro t33 s33 ⟨x33, k33, u33, e33, rfl, hr33, hk33, he33, rfl⟩
        refine nx ?_
        refine wmv rfl rfl rfl rfl rfl ?_
        refine wag rfl rfl rfl rfl rfl ?_
        refine nlnm ?_
        refine wfrz 2 rfl ?_
        refine aw_ret ?_
        refine inB_ret ?_
        refine then_ret ?_
        refine inB_ret ?_
        refine then_ret ?_
        obtain ⟨m, rfl⟩ : ∃ m, n0 = m + 1 := ⟨n0 - 1, by omega⟩
        exact ⟨.inr rfl, _, (RSt A B rw P l (k33) (u33) (e33) (0) (dp)), (res_one rfl (resv_tmp rfl)), subS_of (.cons _ (.refl _)) (.refl _), ⟨acc ++ [⟨x28, false⟩], k33, u33, e33, rfl, hcont _ _ _ _ (by rw [listP]; exact hel.bind ((hr33.map (f := fun _ => acc ++ [⟨x28, false⟩])).eq fun h => by rw [if_neg (by rw [ha30 h]; decide)])), hk33, he33, rfl⟩⟩
   ·skip
    refine wyy rfl rfl rfl (ay_cmp false rfl rfl rfl (by rw [show cmpR .eql ((acc.length : Nat) : Int) 6 = some (decide (acc.length = 6)) from cmp_nat (n := 6), decide_eq_false hfull])) ?_
    refine wmv rfl rfl rfl rfl rfl ?_
    refine wskip rfl rfl (by decide) ?_
    refine wskip rfl rfl (by decide) ?_
    refine wskip rfl rfl (by decide) ?_
    refine wskip rfl rfl (by decide) ?_
    refine wskip rfl rfl (by decide) ?_
    refine wskip rfl rfl (by decide) ?_
    refine wyy rfl rfl rfl (ay_pick rfl rfl rfl) ?_
    refine nlnm ?_
    refine aw_condF rfl rfl ?_
    refine aw_skip ?_
    refine then_normal ?_
    refine sqrg ?_
    refine wmv rfl rfl rfl rfl rfl ?_
    refine wcP rfl rfl rfl rfl Tryd.call38 rfl (take_w (A) _ _ _ l k0 b0 0 0 dp [109, 117, 116, 101, 120] (by decide) hok hk0) (by simp) (by simp [Sto.bl]) ?_
    rintro t35 s35 (⟨-, ha35, hm35, rfl, rfl⟩ | ⟨ha35, rfl, rfl⟩)
    ·refine wyy rfl rfl rfl (ay_build Tryd.t93 [(0, 1), (1, 1)] rfl (.cons rfl .nil) Tryd.underlying93 (by kernel_rfl) rfl (by kernel_rfl) rfl rfl) ?_
     refine wo rfl (walloc rfl rfl (by decide) Tryd.zeroValue93 rfl fun b4 => ?_)
     refine wo rfl (wst0 rfl rfl rfl rfl rfl Tryd.sizeOf93 rfl (Nat.le_of_ble_eq_true rfl) (splice_all rfl) (by simp) (fun _ => by simp) ?_)
     refine nx ?_
     refine wmv rfl rfl rfl rfl rfl ?_
     refine wcP rfl rfl rfl rfl Tryd.call41 rfl (name_c (_ :: A) _ _ _ l (k0 + 1) b0 0 0 dp hok hm35 (by decide)) (by simp) (by simp [Sto.bl]) ?_
     rintro t36 s36 ⟨x36, k36, u36, e36, rfl, hr36, hk36, he36, rfl⟩
     refine wyy rfl rfl rfl (ay_fieldAddr 0 0 rfl rfl Tryd.runUnderlying93 rfl Tryd.sizeOf9 (by decide) rfl) ?_
     refine wo rfl (wst0 rfl rfl rfl rfl rfl Tryd.sizeOf9 rfl (Nat.le_of_ble_eq_true rfl) rfl (by simp) (fun _ => by simp) ?_)
     refine nx ?_
     have hel : RRun 0 b0 (paramP l acc.length k0) ⟨x36, true⟩ k36 u36 e36 := (hr36.map (f := fun s => AParam.mk s true)).eq fun _ => by unfold paramP; rw [if_neg (by rintro ⟨h, -⟩; omega), if_pos ha35]
     have hsix : e36 = 0 → acc.length < 6 := fun h => by
      omega
     refine wmv rfl rfl rfl rfl rfl ?_
     refine wyy rfl rfl rfl (ay_load_box [] rfl rfl rfl Tryd.isAgg93 Tryd.sizeOf93 rfl (fun _ h => by cases h)) ?_
     refine wo rfl (wbs Tryd.t93 [.val (.string ⟨#[]⟩), .val (.bool false)] rfl rfl (by decide) (.cons rfl .nil) Tryd.underlying51 (by kernel_rfl) rfl (by decide) (by decide) (by kernel_rfl) (by kernel_rfl) (fill_one encP encP ⟨x36, true⟩ rfl rfl rfl) ?_)
     refine wo rfl (wap0 Tryd.t93 24 rfl rfl (by decide) rfl rfl Tryd.underlying51 (by kernel_rfl) rfl rfl rfl rfl (by decide) rfl (by decide) (by unfold maxLen; have := ha1; omega) (by have := ha1; omega) (@List.length_append _ acc [⟨x36, true⟩]).symm (fun _ b hb => by simp [hb]) (fun b hb => by simp [hb]) (List.flatMap_append (f := encP)).symm fun v37 => ?_)
     refine wag rfl rfl rfl rfl rfl ?_
     refine nx ?_
     refine wmv rfl rfl rfl rfl rfl ?_
     refine wcP rfl rfl rfl rfl Tryd.call38 rfl (take_s (_ :: A) _ _ _ l k36 u36 e36 0 dp [44] (by decide) hok hk36) (by simp) (by simp [Sto.bl]) ?_
     rintro t38 s38 (⟨rfl, ha38, hm38, rfl, rfl⟩ | ⟨ha38, rfl, rfl⟩)
     ·refine wyy rfl rfl rfl (ay_not rfl rfl) ?_
      refine nlnm ?_
      refine aw_condF rfl rfl ?_
      refine aw_skip ?_
      refine inB_normal ?_
      obtain ⟨m, rfl⟩ : ∃ m, n0 = m + 1 := ⟨n0 - 1, by omega⟩
      have hin := paramP_in (n := acc.length) hok.last hk0
      rw [(hel.good rfl).2.1] at hin
      have hin1 := hin.1
      refine ⟨(acc ++ [⟨x36, true⟩], v37, k36 + 1, u36, 0), ⟨hm38, by show (0 : Nat) < 16; decide, fun _ => by have := hsix rfl; show (acc ++ [_]).length ≤ 6; simp; omega, fun h => absurd rfl h, fun _ => ⟨m, by show l.length ≤ m + (k36 + 1); omega, fun z k' b' e' h => hcont z k' b' e' ?_⟩⟩, by show (if (0 : Nat) = 0 then _ else _) < (if (0 : Nat) = 0 then _ else _); rw [if_pos rfl, if_pos rfl]; show l.length - (k36 + 1) + 1 < l.length - k0 + 1; omega, subA (.cons _ (.refl _)) (.refl _) (by intro x hx; simp only [List.mem_append, List.mem_cons, List.not_mem_nil, or_false] at hx ⊢; rcases hx with h | h <;> simp [h]) (sub_cons rfl (Wk.refl _) (sub_cons rfl (Wk.refl _) sub_nil))⟩
      rw [listP]
      refine hel.bind ?_
      rw [if_pos ha38]
      exact h
     ·refine wyy rfl rfl rfl (ay_not rfl rfl) ?_
      refine nlnm ?_
      refine aw_condT rfl rfl ?_
      refine sqrg ?_
      refine wmv rfl rfl rfl rfl rfl ?_
      refine wcP rfl rfl rfl rfl Tryd.call72 rfl (must_c (_ :: A) _ _ _ l k36 u36 e36 0 dp [41] (by decide) hok hk36 he36) (by simp) (by simp [Sto.bl]) ?_
      rintro t41 s41 ⟨x41, k41, u41, e41, rfl, hr41, hk41, he41, rfl⟩
      refine nx ?_
      refine wmv rfl rfl rfl rfl rfl ?_
      refine wag rfl rfl rfl rfl rfl ?_
      refine nlnm ?_
      refine wfrz 2 rfl ?_
      refine aw_ret ?_
      refine inB_ret ?_
      refine then_ret ?_
      refine inB_ret ?_
      refine then_ret ?_
      obtain ⟨m, rfl⟩ : ∃ m, n0 = m + 1 := ⟨n0 - 1, by omega⟩
      exact ⟨.inr rfl, _, (RSt A B rw P l (k41) (u41) (e41) (0) (dp)), (res_one rfl (resv_tmp rfl)), subS_of (.cons _ (.refl _)) (.refl _), ⟨acc ++ [⟨x36, true⟩], k41, u41, e41, rfl, hcont _ _ _ _ (by rw [listP]; exact hel.bind ((hr41.map (f := fun _ => acc ++ [⟨x36, true⟩])).eq fun h => by rw [if_neg (by rw [ha38 h]; decide)])), hk41, he41, rfl⟩⟩
    ·refine wyy rfl rfl rfl (ay_build Tryd.t93 [(0, 1), (1, 1)] rfl (.cons rfl .nil) Tryd.underlying93 (by kernel_rfl) rfl (by kernel_rfl) rfl rfl) ?_
     refine wo rfl (walloc rfl rfl (by decide) Tryd.zeroValue93 rfl fun b5 => ?_)
     refine wo rfl (wst0 rfl rfl rfl rfl rfl Tryd.sizeOf93 rfl (Nat.le_of_ble_eq_true rfl) (splice_all rfl) (by simp) (fun _ => by simp) ?_)
     refine nx ?_
     refine wmv rfl rfl rfl rfl rfl ?_
     refine wcP rfl rfl rfl rfl Tryd.call41 rfl (name_c (_ :: A) _ _ _ l k0 b0 0 0 dp hok hk0 he0) (by simp) (by simp [Sto.bl]) ?_
     rintro t42 s42 ⟨x42, k42, u42, e42, rfl, hr42, hk42, he42, rfl⟩
     refine wyy rfl rfl rfl (ay_fieldAddr 0 0 rfl rfl Tryd.runUnderlying93 rfl Tryd.sizeOf9 (by decide) rfl) ?_
     refine wo rfl (wst0 rfl rfl rfl rfl rfl Tryd.sizeOf9 rfl (Nat.le_of_ble_eq_true rfl) rfl (by simp) (fun _ => by simp) ?_)
     refine nx ?_
     have hel : RRun 0 b0 (paramP l acc.length k0) ⟨x42, false⟩ k42 u42 e42 := (hr42.map (f := fun s => AParam.mk s false)).eq fun _ => by unfold paramP; rw [if_neg (by rintro ⟨h, -⟩; omega), if_neg (by rw [ha35 rfl]; decide)]
     have hsix : e42 = 0 → acc.length < 6 := fun h => by
      omega
     refine wmv rfl rfl rfl rfl rfl ?_
     refine wyy rfl rfl rfl (ay_load_box [] rfl rfl rfl Tryd.isAgg93 Tryd.sizeOf93 rfl (fun _ h => by cases h)) ?_
     refine wo rfl (wbs Tryd.t93 [.val (.string ⟨#[]⟩), .val (.bool false)] rfl rfl (by decide) (.cons rfl .nil) Tryd.underlying51 (by kernel_rfl) rfl (by decide) (by decide) (by kernel_rfl) (by kernel_rfl) (fill_one encP encP ⟨x42, false⟩ rfl rfl rfl) ?_)
     refine wo rfl (wap0 Tryd.t93 24 rfl rfl (by decide) rfl rfl Tryd.underlying51 (by kernel_rfl) rfl rfl rfl rfl (by decide) rfl (by decide) (by unfold maxLen; have := ha1; omega) (by have := ha1; omega) (@List.length_append _ acc [⟨x42, false⟩]).symm (fun _ b hb => by simp [hb]) (fun b hb => by simp [hb]) (List.flatMap_append (f := encP)).symm fun v43 => ?_)
     refine wag rfl rfl rfl rfl rfl ?_
     refine nx ?_
     refine wmv rfl rfl rfl rfl rfl ?_
     refine wcP rfl rfl rfl rfl Tryd.call38 rfl (take_s (_ :: A) _ _ _ l k42 u42 e42 0 dp [44] (by decide) hok hk42) (by simp) (by simp [Sto.bl]) ?_
     rintro t44 s44 (⟨rfl, ha44, hm44, rfl, rfl⟩ | ⟨ha44, rfl, rfl⟩)
     ·refine wyy rfl rfl rfl (ay_not rfl rfl) ?_
      refine nlnm ?_
      refine aw_condF rfl rfl ?_
      refine aw_skip ?_
      refine inB_normal ?_
      obtain ⟨m, rfl⟩ : ∃ m, n0 = m + 1 := ⟨n0 - 1, by omega⟩
      have hin := paramP_in (n := acc.length) hok.last hk0
      rw [(hel.good rfl).2.1] at hin
      have hin1 := hin.1
      refine ⟨(acc ++ [⟨x42, false⟩], v43, k42 + 1, u42, 0), ⟨hm44, by show (0 : Nat) < 16; decide, fun _ => by have := hsix rfl; show (acc ++ [_]).length ≤ 6; simp; omega, fun h => absurd rfl h, fun _ => ⟨m, by show l.length ≤ m + (k42 + 1); omega, fun z k' b' e' h => hcont z k' b' e' ?_⟩⟩, by show (if (0 : Nat) = 0 then _ else _) < (if (0 : Nat) = 0 then _ else _); rw [if_pos rfl, if_pos rfl]; show l.length - (k42 + 1) + 1 < l.length - k0 + 1; omega, subA (.cons _ (.refl _)) (.refl _) (by intro x hx; simp only [List.mem_append, List.mem_cons, List.not_mem_nil, or_false] at hx ⊢; rcases hx with h | h <;> simp [h]) (sub_cons rfl (Wk.refl _) (sub_cons rfl (Wk.refl _) sub_nil))⟩
      rw [listP]
      refine hel.bind ?_
      rw [if_pos ha44]
      exact h
     ·refine wyy rfl rfl rfl (ay_not rfl rfl) ?_
      refine nlnm ?_
      refine aw_condT rfl rfl ?_
      refine sqrg ?_
      refine wmv rfl rfl rfl rfl rfl ?_
      refine wcP rfl rfl rfl rfl Tryd.call72 rfl (must_c (_ :: A) _ _ _ l k42 u42 e42 0 dp [41] (by decide) hok hk42 he42) (by simp) (by simp [Sto.bl]) ?_
      rintro t47 s47 ⟨x47, k47, u47, e47, rfl, hr47, hk47, he47, rfl⟩
      refine nx ?_
      refine wmv rfl rfl rfl rfl rfl ?_
      refine wag rfl rfl rfl rfl rfl ?_
      refine nlnm ?_
      refine wfrz 2 rfl ?_
      refine aw_ret ?_
      refine inB_ret ?_
      refine then_ret ?_
      refine inB_ret ?_
      refine then_ret ?_
      obtain ⟨m, rfl⟩ : ∃ m, n0 = m + 1 := ⟨n0 - 1, by omega⟩
      exact ⟨.inr rfl, _, (RSt A B rw P l (k47) (u47) (e47) (0) (dp)), (res_one rfl (resv_tmp rfl)), subS_of (.cons _ (.refl _)) (.refl _), ⟨acc ++ [⟨x42, false⟩], k47, u47, e47, rfl, hcont _ _ _ _ (by rw [listP]; exact hel.bind ((hr47.map (f := fun _ => acc ++ [⟨x42, false⟩])).eq fun h => by rw [if_neg (by rw [ha44 h]; decide)])), hk47, he47, rfl⟩⟩
  ·refine aw_seq ?_
   refine sqrg ?_
   refine wmv rfl rfl rfl rfl rfl ?_
   refine wyy rfl rfl rfl (ay_nilCheck rfl rfl) ?_
   refine wyy rfl rfl rfl (ay_fieldAddr 3 3 rfl rfl Tryd.runUnderlying78 rfl Tryd.sizeOf36 (by decide) rfl) ?_
   refine wyy rfl rfl rfl (ay_load_box (A) rfl rfl rfl Tryd.isAgg36 Tryd.sizeOf36 rfl (fun _ h => by cases h)) ?_
   refine wyy rfl rfl rfl (ay_cmp false rfl rfl rfl (eq_nat0 h0)) ?_
   refine nlnm ?_
   refine aw_condF rfl rfl ?_
   refine aw_exit ?_
   refine then_exit ?_
   refine then_exit ?_
   refine inB_exit ?_
   refine then_normal ?_
   refine sqrg ?_
   refine wmv rfl rfl rfl rfl rfl ?_
   refine wag rfl rfl rfl rfl rfl ?_
   refine nlnm ?_
   refine wfrz 2 rfl ?_
   refine aw_ret ?_
   exact ⟨.inr rfl, _, (RSt A B rw P l (k0) (b0) (e0) (0) (dp)), (res_one rfl (resv_tmp rfl)), subS_of (.refl _) (.refl _), ⟨acc, k0, b0, e0, rfl, hn0 h0, hk0, he0, rfl⟩⟩
set_option maxRecDepth 100000 in
set_option maxHeartbeats 1600000 in
theorem global_c (A B : List Box) (rw : List ORow) (P : Nat) (l : List Tok) (k b e dp : Nat) (hok : TOk l) (hk : k < l.length) (he : e < 16) : ACall Tryd.prog 39 [.c (.val (.pointer (some ⟨P, 0, none⟩)))] [P] (RSt A B rw P l k b e 0 dp) (RAn A B rw P l 0 dp (fun x => .agg (encG x)) e b (globalP l k)) := by
 have hlen := hok.len
 refine acall_body Tryd.func39 rfl (Nat.le_of_ble_eq_true rfl) ?_
 show AWp Tryd.prog _ ⟨45, [P], ⟨A ++ ⟨P, 78, [.sl l.length (l.flatMap encT), .val (.int .i64 ((k : Nat) : Int)), .val (.int .i64 ((b : Nat) : Int)), .val (.int .i64 ((e : Nat) : Int)), .val (.int .i64 ((0 : Nat) : Int)), .val (.int .i64 ((dp : Nat) : Int))]⟩ :: B, rw⟩, [(0, .c (.val (.pointer (some ⟨P, 0, none⟩))))]⟩ _
 refine sqrg ?_
 refine wo rfl (walloc rfl rfl (by decide) Tryd.zeroValue83 rfl fun b1 => ?_)
 refine nx ?_
 refine wmv rfl rfl rfl rfl rfl ?_
 refine wcP rfl rfl rfl rfl Tryd.call41 rfl (name_c (_ :: A) _ _ _ l k b e 0 dp hok hk he) (by simp) (by simp [Sto.bl]) ?_
 rintro t1 s1 ⟨x1, k1, u1, e1, rfl, hr1, hk1, he1, rfl⟩
 refine wyy rfl rfl rfl (ay_build Tryd.t83 [(0, 1), (1, 1)] rfl (.cons rfl .nil) Tryd.underlying83 (by kernel_rfl) rfl (by kernel_rfl) rfl rfl) ?_
 refine wo rfl (walloc rfl rfl (by decide) Tryd.zeroValue83 rfl fun b2 => ?_)
 refine wo rfl (wst0 rfl rfl rfl rfl rfl Tryd.sizeOf83 rfl (Nat.le_of_ble_eq_true rfl) (splice_all rfl) (by simp) (fun _ => by simp) ?_)
 refine nlnm ?_
 refine aw_seq ?_
 refine sqrg ?_
 refine wmv rfl rfl rfl rfl rfl ?_
 refine wcP rfl rfl rfl rfl Tryd.call38 rfl (take_s (_ :: _ :: A) _ _ _ l k1 u1 e1 0 dp [61] (by decide) hok hk1) (by simp) (by simp [Sto.bl]) ?_
 rintro t2 s2 (⟨rfl, ha2, hm2, rfl, rfl⟩ | ⟨ha2, rfl, rfl⟩)
 ·refine nlnm ?_
  refine aw_condT rfl rfl ?_
  refine sqrg ?_
  refine wmv rfl rfl rfl rfl rfl ?_
  refine wcP rfl rfl rfl rfl Tryd.call38 rfl (take_s (_ :: _ :: A) _ _ _ l (k1 + 1) u1 0 0 dp [45] (by decide) hok hm2) (by simp) (by simp [Sto.bl]) ?_
  rintro t4 s4 (⟨-, ha4, hm4, rfl, rfl⟩ | ⟨ha4, rfl, rfl⟩)
  ·refine wag rfl rfl rfl rfl rfl ?_
   refine nlnm ?_
   refine aw_seq ?_
   refine sqrg ?_
   refine wmv rfl rfl rfl rfl rfl ?_
   refine wcP rfl rfl rfl rfl Tryd.call35 rfl (kindd (_ :: _ :: A) _ _ _ l ((k1 + 1) + 1) u1 0 0 dp 2 hm4) (by simp) (by simp [Sto.bl]) ?_
   rintro t5 s5 (⟨-, ha5, rfl, rfl⟩ | ⟨ha5, rfl, rfl⟩)
   ·refine wyy rfl rfl rfl (ay_not rfl rfl) ?_
    refine nlnm ?_
    refine aw_condF rfl rfl ?_
    refine aw_skip ?_
    refine then_normal ?_
    refine aw_seq ?_
    have hreg := (hok.reg _ (List.getElem_mem hm4)).2.2
    have hnum : numP l ((k1 + 1) + 1) = .ok l[(k1 + 1) + 1].num ((k1 + 1) + 1 + 1) := by unfold numP; rw [if_pos ha5, tokAt_lt hm4]
    refine aw_region_drew [b1, P] (by kernel_rfl) ?_
    refine tq 0 (by kernel_rfl) rfl rfl rfl rfl (ay_move rfl rfl) ?_
    refine tq 1 (by kernel_rfl) rfl rfl rfl rfl (ay_nilCheck rfl rfl) ?_
    refine tq 2 (by kernel_rfl) rfl rfl rfl rfl (ay_fieldAddr 0 0 rfl rfl Tryd.runUnderlying78 rfl Tryd.sizeOf34 (by decide) rfl) ?_
    refine tq 3 (by kernel_rfl) rfl rfl rfl rfl (ay_load_box (_ :: _ :: A) rfl rfl rfl Tryd.isAgg34 Tryd.sizeOf34 rfl (fun _ h => (mem_off.1 h).2 (by simp))) ?_
    refine tq 4 (by kernel_rfl) rfl rfl rfl rfl (ay_move rfl rfl) ?_
    refine tq 5 (by kernel_rfl) rfl rfl rfl rfl (ay_nilCheck rfl rfl) ?_
    refine tq 6 (by kernel_rfl) rfl rfl rfl rfl (ay_fieldAddr 1 1 rfl rfl Tryd.runUnderlying78 rfl Tryd.sizeOf3 (by decide) rfl) ?_
    refine tq 7 (by kernel_rfl) rfl rfl rfl rfl (ay_load_box (_ :: _ :: A) rfl rfl rfl Tryd.isAgg3 Tryd.sizeOf3 rfl (fun _ h => (mem_off.1 h).2 (by simp))) ?_
    refine tq 8 (by kernel_rfl) rfl rfl rfl rfl (ay_ix encT encT l encT_len (fun _ => rfl) ((k1 + 1) + 1) rfl rfl rfl rfl hm4 (by decide) Tryd.runUnderlying34 Tryd.sizeOf65) ?_
    refine tq 9 (by kernel_rfl) rfl rfl rfl rfl (ay_fieldAddr_el 2 rfl rfl Tryd.runUnderlying65 rfl Tryd.sizeOf3 (by decide)) ?_
    refine tq 10 (by kernel_rfl) rfl rfl rfl rfl (ay_load_el rfl rfl Tryd.isAgg3 Tryd.sizeOf3 rfl) ?_
    refine tq 11 (by kernel_rfl) rfl rfl rfl rfl (ay_fieldAddr 1 1 rfl rfl Tryd.runUnderlying83 rfl Tryd.sizeOf3 (by decide) rfl) ?_
    refine one 12 (by kernel_rfl) rfl rfl (wst0 rfl rfl rfl rfl rfl Tryd.sizeOf3 rfl (Nat.le_of_ble_eq_true rfl) rfl (by simp) (fun h => mem_off.2 ⟨by simp [Sto.bl], fun hh => by simp only [List.mem_cons, List.not_mem_nil, or_false] at hh; rcases hh with rfl | rfl <;> simp [Sto.bl] at h⟩) ?_)
    refine any_done (by kernel_rfl) ?_
    refine then_normal ?_
    refine aw_seq ?_
    refine sqrg ?_
    refine wmv rfl rfl rfl rfl rfl ?_
    refine nlnm ?_
    refine aw_condT rfl rfl ?_
    refine aw_region ?_
    refine wyy rfl rfl rfl (ay_fieldAddr 1 1 rfl rfl Tryd.runUnderlying83 rfl Tryd.sizeOf3 (by decide) rfl) ?_
    refine wyy rfl rfl rfl (ay_load_box [] rfl rfl rfl Tryd.isAgg3 Tryd.sizeOf3 rfl (fun _ h => by cases h)) ?_
    refine wyy rfl rfl rfl (ay_negR (-((l[(k1 + 1) + 1].num : Nat) : Int)) rfl rfl (by omega) (by omega) (by omega)) ?_
    refine wyy rfl rfl rfl (ay_fieldAddr 1 1 rfl rfl Tryd.runUnderlying83 rfl Tryd.sizeOf3 (by decide) rfl) ?_
    refine wo rfl (wst0 rfl rfl rfl rfl rfl Tryd.sizeOf3 rfl (Nat.le_of_ble_eq_true rfl) rfl (by simp) (fun _ => by simp) ?_)
    refine nlnm ?_
    refine aw_region ?_
    refine wmv rfl rfl rfl rfl rfl ?_
    refine wyy rfl rfl rfl (ay_nilCheck rfl rfl) ?_
    refine wyy rfl rfl rfl (ay_fieldAddr 1 1 rfl rfl Tryd.runUnderlying78 rfl Tryd.sizeOf3 (by decide) rfl) ?_
    refine wyy rfl rfl rfl (ay_load_box (_ :: _ :: A) rfl rfl rfl Tryd.isAgg3 Tryd.sizeOf3 rfl (fun _ h => by cases h)) ?_
    refine wyy rfl rfl rfl (ay_add rfl rfl rfl (by omega) (by omega)) ?_
    refine wyy rfl rfl rfl (ay_nilCheck rfl rfl) ?_
    refine wyy rfl rfl rfl (ay_fieldAddr 1 1 rfl rfl Tryd.runUnderlying78 rfl Tryd.sizeOf3 (by decide) rfl) ?_
    refine wo rfl (wstA2 rfl rfl rfl rfl rfl Tryd.sizeOf3 rfl (Nat.le_of_ble_eq_true rfl) rfl (by simp) (fun _ => by simp) ?_)
    refine nx ?_
    have hm := hok.last.more hm4 (by rw [ha5]; decide)
    refine wmv rfl rfl rfl rfl rfl ?_
    refine wcP rfl rfl rfl rfl Tryd.call72 rfl (must_c (_ :: _ :: A) _ _ _ l (((k1 + 1) + 1) + 1) u1 0 0 dp [59] (by decide) hok hm (by decide)) (by simp) (by simp [Sto.bl]) ?_
    rintro t8 s8 ⟨x8, k8, u8, e8, rfl, hr8, hk8, he8, rfl⟩
    refine nx ?_
    refine wyy rfl rfl rfl (ay_load_box [] rfl rfl rfl Tryd.isAgg83 Tryd.sizeOf83 rfl (fun _ h => by cases h)) ?_
    refine wo rfl (wst1 rfl rfl rfl rfl rfl Tryd.sizeOf83 rfl (Nat.le_of_ble_eq_true rfl) (splice_all rfl) (by simp) (fun _ => by simp) ?_)
    refine nlnm ?_
    refine aw_ret ?_
    exact ⟨.inr rfl, _, (RSt A B rw P l (k8) (u8) (e8) (0) (dp)), (res_one rfl (resv_cell [_] rfl rfl Tryd.isAgg83 Tryd.sizeOf83 (pk_all rfl rfl))), subS_of (.cons _ (.cons _ (.refl _))) (.refl _), ⟨⟨x1, (-((l[(k1 + 1) + 1].num : Nat) : Int))⟩, k8, u8, e8, rfl, hr1.bind (.yes (fun _ => ha2) (.yes (fun _ => ha4) (RRun.bind (.ok _ _ _ hnum) (hr8.map (f := fun _ => AGlobal.mk x1 (-((l[(k1 + 1) + 1].num : Nat) : Int))))))), hk8, he8, rfl⟩⟩
   ·refine wyy rfl rfl rfl (ay_not rfl rfl) ?_
    refine nlnm ?_
    refine aw_condT rfl rfl ?_
    refine sqrg ?_
    refine wmv rfl rfl rfl rfl rfl ?_
    refine wcP rfl rfl rfl rfl Tryd.call37 rfl (fail_c (_ :: _ :: A) _ _ _ l ((k1 + 1) + 1) u1 0 0 dp 4) (by simp) (by simp [Sto.bl]) ?_
    rintro t10 s10 ⟨u10, e10, hf10, rfl, rfl⟩
    obtain ⟨rfl, rfl⟩ := hf10.1 rfl
    refine nx ?_
    refine wyy rfl rfl rfl (ay_load_box [] rfl rfl rfl Tryd.isAgg83 Tryd.sizeOf83 rfl (fun _ h => by cases h)) ?_
    refine wo rfl (wst1 rfl rfl rfl rfl rfl Tryd.sizeOf83 rfl (Nat.le_of_ble_eq_true rfl) (splice_all rfl) (by simp) (fun _ => by simp) ?_)
    refine nlnm ?_
    refine aw_ret ?_
    refine then_ret ?_
    refine then_ret ?_
    exact ⟨.inr rfl, _, (RSt A B rw P l ((k1 + 1) + 1) ((k1 + 1) + 1) (4) (0) (dp)), (res_one rfl (resv_cell [_] rfl rfl Tryd.isAgg83 Tryd.sizeOf83 (pk_all rfl rfl))), subS_of (.cons _ (.cons _ (.refl _))) (.refl _), ⟨⟨x1, 0⟩, (k1 + 1) + 1, (k1 + 1) + 1, 4, rfl, hr1.bind (.yes (fun _ => ha2) (.yes (fun _ => ha4) (RRun.bind (x := 0) (k := 0) (.err _ _ _ _ _ (by unfold numP; rw [if_neg (ha5 rfl)]) (by decide)) (.skip (by decide) _ _ _)))), hm4, (by decide), rfl⟩⟩
  ·refine wag rfl rfl rfl rfl rfl ?_
   refine nlnm ?_
   refine aw_seq ?_
   refine sqrg ?_
   refine wmv rfl rfl rfl rfl rfl ?_
   refine wcP rfl rfl rfl rfl Tryd.call35 rfl (kindd (_ :: _ :: A) _ _ _ l (k1 + 1) u1 0 0 dp 2 hm2) (by simp) (by simp [Sto.bl]) ?_
   rintro t11 s11 (⟨-, ha11, rfl, rfl⟩ | ⟨ha11, rfl, rfl⟩)
   ·refine wyy rfl rfl rfl (ay_not rfl rfl) ?_
    refine nlnm ?_
    refine aw_condF rfl rfl ?_
    refine aw_skip ?_
    refine then_normal ?_
    refine aw_seq ?_
    have hreg := (hok.reg _ (List.getElem_mem hm2)).2.2
    have hnum : numP l (k1 + 1) = .ok l[k1 + 1].num (k1 + 1 + 1) := by unfold numP; rw [if_pos ha11, tokAt_lt hm2]
    refine aw_region_drew [b1, P] (by kernel_rfl) ?_
    refine tq 0 (by kernel_rfl) rfl rfl rfl rfl (ay_move rfl rfl) ?_
    refine tq 1 (by kernel_rfl) rfl rfl rfl rfl (ay_nilCheck rfl rfl) ?_
    refine tq 2 (by kernel_rfl) rfl rfl rfl rfl (ay_fieldAddr 0 0 rfl rfl Tryd.runUnderlying78 rfl Tryd.sizeOf34 (by decide) rfl) ?_
    refine tq 3 (by kernel_rfl) rfl rfl rfl rfl (ay_load_box (_ :: _ :: A) rfl rfl rfl Tryd.isAgg34 Tryd.sizeOf34 rfl (fun _ h => (mem_off.1 h).2 (by simp))) ?_
    refine tq 4 (by kernel_rfl) rfl rfl rfl rfl (ay_move rfl rfl) ?_
    refine tq 5 (by kernel_rfl) rfl rfl rfl rfl (ay_nilCheck rfl rfl) ?_
    refine tq 6 (by kernel_rfl) rfl rfl rfl rfl (ay_fieldAddr 1 1 rfl rfl Tryd.runUnderlying78 rfl Tryd.sizeOf3 (by decide) rfl) ?_
    refine tq 7 (by kernel_rfl) rfl rfl rfl rfl (ay_load_box (_ :: _ :: A) rfl rfl rfl Tryd.isAgg3 Tryd.sizeOf3 rfl (fun _ h => (mem_off.1 h).2 (by simp))) ?_
    refine tq 8 (by kernel_rfl) rfl rfl rfl rfl (ay_ix encT encT l encT_len (fun _ => rfl) (k1 + 1) rfl rfl rfl rfl hm2 (by decide) Tryd.runUnderlying34 Tryd.sizeOf65) ?_
    refine tq 9 (by kernel_rfl) rfl rfl rfl rfl (ay_fieldAddr_el 2 rfl rfl Tryd.runUnderlying65 rfl Tryd.sizeOf3 (by decide)) ?_
    refine tq 10 (by kernel_rfl) rfl rfl rfl rfl (ay_load_el rfl rfl Tryd.isAgg3 Tryd.sizeOf3 rfl) ?_
    refine tq 11 (by kernel_rfl) rfl rfl rfl rfl (ay_fieldAddr 1 1 rfl rfl Tryd.runUnderlying83 rfl Tryd.sizeOf3 (by decide) rfl) ?_
    refine one 12 (by kernel_rfl) rfl rfl (wst0 rfl rfl rfl rfl rfl Tryd.sizeOf3 rfl (Nat.le_of_ble_eq_true rfl) rfl (by simp) (fun h => mem_off.2 ⟨by simp [Sto.bl], fun hh => by simp only [List.mem_cons, List.not_mem_nil, or_false] at hh; rcases hh with rfl | rfl <;> simp [Sto.bl] at h⟩) ?_)
    refine any_done (by kernel_rfl) ?_
    refine then_normal ?_
    refine aw_seq ?_
    refine sqrg ?_
    refine wmv rfl rfl rfl rfl rfl ?_
    refine nlnm ?_
    refine aw_condF rfl rfl ?_
    refine aw_skip ?_
    refine then_normal ?_
    refine aw_region ?_
    refine wmv rfl rfl rfl rfl rfl ?_
    refine wyy rfl rfl rfl (ay_nilCheck rfl rfl) ?_
    refine wyy rfl rfl rfl (ay_fieldAddr 1 1 rfl rfl Tryd.runUnderlying78 rfl Tryd.sizeOf3 (by decide) rfl) ?_
    refine wyy rfl rfl rfl (ay_load_box (_ :: _ :: A) rfl rfl rfl Tryd.isAgg3 Tryd.sizeOf3 rfl (fun _ h => by cases h)) ?_
    refine wyy rfl rfl rfl (ay_add rfl rfl rfl (by omega) (by omega)) ?_
    refine wyy rfl rfl rfl (ay_nilCheck rfl rfl) ?_
    refine wyy rfl rfl rfl (ay_fieldAddr 1 1 rfl rfl Tryd.runUnderlying78 rfl Tryd.sizeOf3 (by decide) rfl) ?_
    refine wo rfl (wstA2 rfl rfl rfl rfl rfl Tryd.sizeOf3 rfl (Nat.le_of_ble_eq_true rfl) rfl (by simp) (fun _ => by simp) ?_)
    refine nx ?_
    have hm := hok.last.more hm2 (by rw [ha11]; decide)
    refine wmv rfl rfl rfl rfl rfl ?_
    refine wcP rfl rfl rfl rfl Tryd.call72 rfl (must_c (_ :: _ :: A) _ _ _ l ((k1 + 1) + 1) u1 0 0 dp [59] (by decide) hok hm (by decide)) (by simp) (by simp [Sto.bl]) ?_
    rintro t14 s14 ⟨x14, k14, u14, e14, rfl, hr14, hk14, he14, rfl⟩
    refine nx ?_
    refine wyy rfl rfl rfl (ay_load_box [] rfl rfl rfl Tryd.isAgg83 Tryd.sizeOf83 rfl (fun _ h => by cases h)) ?_
    refine wo rfl (wst1 rfl rfl rfl rfl rfl Tryd.sizeOf83 rfl (Nat.le_of_ble_eq_true rfl) (splice_all rfl) (by simp) (fun _ => by simp) ?_)
    refine nlnm ?_
    refine aw_ret ?_
    exact ⟨.inr rfl, _, (RSt A B rw P l (k14) (u14) (e14) (0) (dp)), (res_one rfl (resv_cell [_] rfl rfl Tryd.isAgg83 Tryd.sizeOf83 (pk_all rfl rfl))), subS_of (.cons _ (.cons _ (.refl _))) (.refl _), ⟨⟨x1, ((l[k1 + 1].num : Nat) : Int)⟩, k14, u14, e14, rfl, hr1.bind (.yes (fun _ => ha2) (.no (fun _ => by rw [ha4 rfl]; decide) (RRun.bind (.ok _ _ _ hnum) (hr14.map (f := fun _ => AGlobal.mk x1 ((l[k1 + 1].num : Nat) : Int)))))), hk14, he14, rfl⟩⟩
   ·refine wyy rfl rfl rfl (ay_not rfl rfl) ?_
    refine nlnm ?_
    refine aw_condT rfl rfl ?_
    refine sqrg ?_
    refine wmv rfl rfl rfl rfl rfl ?_
    refine wcP rfl rfl rfl rfl Tryd.call37 rfl (fail_c (_ :: _ :: A) _ _ _ l (k1 + 1) u1 0 0 dp 4) (by simp) (by simp [Sto.bl]) ?_
    rintro t16 s16 ⟨u16, e16, hf16, rfl, rfl⟩
    obtain ⟨rfl, rfl⟩ := hf16.1 rfl
    refine nx ?_
    refine wyy rfl rfl rfl (ay_load_box [] rfl rfl rfl Tryd.isAgg83 Tryd.sizeOf83 rfl (fun _ h => by cases h)) ?_
    refine wo rfl (wst1 rfl rfl rfl rfl rfl Tryd.sizeOf83 rfl (Nat.le_of_ble_eq_true rfl) (splice_all rfl) (by simp) (fun _ => by simp) ?_)
    refine nlnm ?_
    refine aw_ret ?_
    refine then_ret ?_
    refine then_ret ?_
    exact ⟨.inr rfl, _, (RSt A B rw P l (k1 + 1) (k1 + 1) (4) (0) (dp)), (res_one rfl (resv_cell [_] rfl rfl Tryd.isAgg83 Tryd.sizeOf83 (pk_all rfl rfl))), subS_of (.cons _ (.cons _ (.refl _))) (.refl _), ⟨⟨x1, 0⟩, k1 + 1, k1 + 1, 4, rfl, hr1.bind (.yes (fun _ => ha2) (.no (fun _ => by rw [ha4 rfl]; decide) (RRun.bind (x := 0) (k := 0) (.err _ _ _ _ _ (by unfold numP; rw [if_neg (ha11 rfl)]) (by decide)) (.skip (by decide) _ _ _)))), hm2, (by decide), rfl⟩⟩
 ·refine nlnm ?_
  refine aw_condF rfl rfl ?_
  refine aw_skip ?_
  refine then_normal ?_
  refine sqrg ?_
  refine wmv rfl rfl rfl rfl rfl ?_
  refine wcP rfl rfl rfl rfl Tryd.call72 rfl (must_c (_ :: _ :: A) _ _ _ l k1 u1 e1 0 dp [59] (by decide) hok hk1 he1) (by simp) (by simp [Sto.bl]) ?_
  rintro t18 s18 ⟨x18, k18, u18, e18, rfl, hr18, hk18, he18, rfl⟩
  refine nx ?_
  refine wyy rfl rfl rfl (ay_load_box [] rfl rfl rfl Tryd.isAgg83 Tryd.sizeOf83 rfl (fun _ h => by cases h)) ?_
  refine wo rfl (wst1 rfl rfl rfl rfl rfl Tryd.sizeOf83 rfl (Nat.le_of_ble_eq_true rfl) (splice_all rfl) (by simp) (fun _ => by simp) ?_)
  refine nlnm ?_
  refine aw_ret ?_
  exact ⟨.inr rfl, _, (RSt A B rw P l (k18) (u18) (e18) (0) (dp)), (res_one rfl (resv_cell [_] rfl rfl Tryd.isAgg83 Tryd.sizeOf83 (pk_all rfl rfl))), subS_of (.cons _ (.cons _ (.refl _))) (.refl _), ⟨⟨x1, 0⟩, k18, u18, e18, rfl, hr1.bind (.no (fun h => by rw [ha2 h]; decide) (hr18.map (f := fun _ => AGlobal.mk x1 0))), hk18, he18, rfl⟩⟩
set_option maxRecDepth 100000 in
set_option maxHeartbeats 1600000 in
theorem mutex_true (A B : List Box) (rw : List ORow) (P : Nat) (l : List Tok) (k b e dp : Nat) (hok : TOk l) (hk : k < l.length) (he : e < 16) : ACall Tryd.prog 40 [.c (.val (.pointer (some ⟨P, 0, none⟩))), .c (.val (.bool true))] [P] (RSt A B rw P l k b e 0 dp) (RAn A B rw P l 0 dp (fun x => .agg (encM x)) e b (mutexP l true k)) := by
 have hlen := hok.len
 refine acall_body Tryd.func40 rfl (Nat.le_of_ble_eq_true rfl) ?_
 show AWp Tryd.prog _ ⟨57, [P], ⟨A ++ ⟨P, 78, [.sl l.length (l.flatMap encT), .val (.int .i64 ((k : Nat) : Int)), .val (.int .i64 ((b : Nat) : Int)), .val (.int .i64 ((e : Nat) : Int)), .val (.int .i64 ((0 : Nat) : Int)), .val (.int .i64 ((dp : Nat) : Int))]⟩ :: B, rw⟩, [(0, .c (.val (.pointer (some ⟨P, 0, none⟩)))), (1, .c (.val (.bool true)))]⟩ _
 refine sqrg ?_
 refine wo rfl (walloc rfl rfl (by decide) Tryd.zeroValue86 rfl fun b1 => ?_)
 refine nx ?_
 refine wmv rfl rfl rfl rfl rfl ?_
 refine wcP rfl rfl rfl rfl Tryd.call41 rfl (name_c (_ :: A) _ _ _ l k b e 0 dp hok hk he) (by simp) (by simp [Sto.bl]) ?_
 rintro t1 s1 ⟨x1, k1, u1, e1, rfl, hr1, hk1, he1, rfl⟩
 refine wmv rfl rfl rfl rfl rfl ?_
 refine wyy rfl rfl rfl (ay_build Tryd.t86 [(0, 1), (1, 1), (2, 1)] rfl (.cons rfl (.cons rfl .nil)) Tryd.underlying86 (by kernel_rfl) rfl (by kernel_rfl) rfl rfl) ?_
 refine wo rfl (walloc rfl rfl (by decide) Tryd.zeroValue86 rfl fun b2 => ?_)
 refine wo rfl (wst0 rfl rfl rfl rfl rfl Tryd.sizeOf86 rfl (Nat.le_of_ble_eq_true rfl) (splice_all rfl) (by simp) (fun _ => by simp) ?_)
 refine nlnm ?_
 refine aw_seq ?_
 refine sqrg ?_
 refine wmv rfl rfl rfl rfl rfl ?_
 refine wyy rfl rfl rfl (ay_not rfl rfl) ?_
 refine wmv rfl rfl rfl rfl rfl ?_
 refine wskip rfl rfl (by decide) ?_
 refine wskip rfl rfl (by decide) ?_
 refine wyy rfl rfl rfl (ay_pick rfl rfl rfl) ?_
 refine nlnm ?_
 refine aw_condF rfl rfl ?_
 refine aw_skip ?_
 refine then_normal ?_
 refine sqrg ?_
 refine wmv rfl rfl rfl rfl rfl ?_
 refine wcP rfl rfl rfl rfl Tryd.call72 rfl (must_c (_ :: _ :: A) _ _ _ l k1 u1 e1 0 dp [59] (by decide) hok hk1 he1) (by simp) (by simp [Sto.bl]) ?_
 rintro t3 s3 ⟨x3, k3, u3, e3, rfl, hr3, hk3, he3, rfl⟩
 refine nx ?_
 refine wyy rfl rfl rfl (ay_load_box [] rfl rfl rfl Tryd.isAgg86 Tryd.sizeOf86 rfl (fun _ h => by cases h)) ?_
 refine wo rfl (wst1 rfl rfl rfl rfl rfl Tryd.sizeOf86 rfl (Nat.le_of_ble_eq_true rfl) (splice_all rfl) (by simp) (fun _ => by simp) ?_)
 refine nlnm ?_
 refine aw_ret ?_
 exact ⟨.inr rfl, _, (RSt A B rw P l (k3) (u3) (e3) (0) (dp)), (res_one rfl (resv_cell [_] rfl rfl Tryd.isAgg86 Tryd.sizeOf86 (pk_all rfl rfl))), subS_of (.cons _ (.cons _ (.refl _))) (.refl _), ⟨⟨x1, true, 0⟩, k3, u3, e3, rfl, hr1.bind (.no (fun h => by rintro ⟨h, -⟩; cases h) (hr3.map (f := fun _ => AMutex.mk x1 true 0))), hk3, he3, rfl⟩⟩
set_option maxRecDepth 100000 in
set_option maxHeartbeats 1600000 in
theorem mutex_false (A B : List Box) (rw : List ORow) (P : Nat) (l : List Tok) (k b e dp : Nat) (hok : TOk l) (hk : k < l.length) (he : e < 16) : ACall Tryd.prog 40 [.c (.val (.pointer (some ⟨P, 0, none⟩))), .c (.val (.bool false))] [P] (RSt A B rw P l k b e 0 dp) (RAn A B rw P l 0 dp (fun x => .agg (encM x)) e b (mutexP l false k)) := by
 have hlen := hok.len
 refine acall_body Tryd.func40 rfl (Nat.le_of_ble_eq_true rfl) ?_
 show AWp Tryd.prog _ ⟨57, [P], ⟨A ++ ⟨P, 78, [.sl l.length (l.flatMap encT), .val (.int .i64 ((k : Nat) : Int)), .val (.int .i64 ((b : Nat) : Int)), .val (.int .i64 ((e : Nat) : Int)), .val (.int .i64 ((0 : Nat) : Int)), .val (.int .i64 ((dp : Nat) : Int))]⟩ :: B, rw⟩, [(0, .c (.val (.pointer (some ⟨P, 0, none⟩)))), (1, .c (.val (.bool false)))]⟩ _
 refine sqrg ?_
 refine wo rfl (walloc rfl rfl (by decide) Tryd.zeroValue86 rfl fun b1 => ?_)
 refine nx ?_
 refine wmv rfl rfl rfl rfl rfl ?_
 refine wcP rfl rfl rfl rfl Tryd.call41 rfl (name_c (_ :: A) _ _ _ l k b e 0 dp hok hk he) (by simp) (by simp [Sto.bl]) ?_
 rintro t1 s1 ⟨x1, k1, u1, e1, rfl, hr1, hk1, he1, rfl⟩
 refine wmv rfl rfl rfl rfl rfl ?_
 refine wyy rfl rfl rfl (ay_build Tryd.t86 [(0, 1), (1, 1), (2, 1)] rfl (.cons rfl (.cons rfl .nil)) Tryd.underlying86 (by kernel_rfl) rfl (by kernel_rfl) rfl rfl) ?_
 refine wo rfl (walloc rfl rfl (by decide) Tryd.zeroValue86 rfl fun b2 => ?_)
 refine wo rfl (wst0 rfl rfl rfl rfl rfl Tryd.sizeOf86 rfl (Nat.le_of_ble_eq_true rfl) (splice_all rfl) (by simp) (fun _ => by simp) ?_)
 refine nlnm ?_
 refine aw_seq ?_
 refine sqrg ?_
 refine wmv rfl rfl rfl rfl rfl ?_
 refine wyy rfl rfl rfl (ay_not rfl rfl) ?_
 refine wmv rfl rfl rfl rfl rfl ?_
 refine wmv rfl rfl rfl rfl rfl ?_
 refine wcP rfl rfl rfl rfl Tryd.call38 rfl (take_s (_ :: _ :: A) _ _ _ l k1 u1 e1 0 dp [91] (by decide) hok hk1) (by simp) (by simp [Sto.bl]) ?_
 rintro t2 s2 (⟨rfl, ha2, hm2, rfl, rfl⟩ | ⟨ha2, rfl, rfl⟩)
 ·refine wyy rfl rfl rfl (ay_pick rfl rfl rfl) ?_
  refine nlnm ?_
  refine aw_condT rfl rfl ?_
  refine aw_seq ?_
  refine sqrg ?_
  refine wmv rfl rfl rfl rfl rfl ?_
  refine wcP rfl rfl rfl rfl Tryd.call35 rfl (kindd (_ :: _ :: A) _ _ _ l (k1 + 1) u1 0 0 dp 2 hm2) (by simp) (by simp [Sto.bl]) ?_
  rintro t4 s4 (⟨-, ha4, rfl, rfl⟩ | ⟨ha4, rfl, rfl⟩)
  ·refine wyy rfl rfl rfl (ay_not rfl rfl) ?_
   refine nlnm ?_
   refine aw_condF rfl rfl ?_
   refine aw_skip ?_
   refine then_normal ?_
   refine aw_seq ?_
   have hreg := (hok.reg _ (List.getElem_mem hm2)).2.2
   have hnum : numP l (k1 + 1) = .ok l[k1 + 1].num (k1 + 1 + 1) := by unfold numP; rw [if_pos ha4, tokAt_lt hm2]
   refine aw_region_drew [b1, P] (by kernel_rfl) ?_
   refine tq 0 (by kernel_rfl) rfl rfl rfl rfl (ay_move rfl rfl) ?_
   refine tq 1 (by kernel_rfl) rfl rfl rfl rfl (ay_nilCheck rfl rfl) ?_
   refine tq 2 (by kernel_rfl) rfl rfl rfl rfl (ay_fieldAddr 0 0 rfl rfl Tryd.runUnderlying78 rfl Tryd.sizeOf34 (by decide) rfl) ?_
   refine tq 3 (by kernel_rfl) rfl rfl rfl rfl (ay_load_box (_ :: _ :: A) rfl rfl rfl Tryd.isAgg34 Tryd.sizeOf34 rfl (fun _ h => (mem_off.1 h).2 (by simp))) ?_
   refine tq 4 (by kernel_rfl) rfl rfl rfl rfl (ay_move rfl rfl) ?_
   refine tq 5 (by kernel_rfl) rfl rfl rfl rfl (ay_nilCheck rfl rfl) ?_
   refine tq 6 (by kernel_rfl) rfl rfl rfl rfl (ay_fieldAddr 1 1 rfl rfl Tryd.runUnderlying78 rfl Tryd.sizeOf3 (by decide) rfl) ?_
   refine tq 7 (by kernel_rfl) rfl rfl rfl rfl (ay_load_box (_ :: _ :: A) rfl rfl rfl Tryd.isAgg3 Tryd.sizeOf3 rfl (fun _ h => (mem_off.1 h).2 (by simp))) ?_
   refine tq 8 (by kernel_rfl) rfl rfl rfl rfl (ay_ix encT encT l encT_len (fun _ => rfl) (k1 + 1) rfl rfl rfl rfl hm2 (by decide) Tryd.runUnderlying34 Tryd.sizeOf65) ?_
   refine tq 9 (by kernel_rfl) rfl rfl rfl rfl (ay_fieldAddr_el 2 rfl rfl Tryd.runUnderlying65 rfl Tryd.sizeOf3 (by decide)) ?_
   refine tq 10 (by kernel_rfl) rfl rfl rfl rfl (ay_load_el rfl rfl Tryd.isAgg3 Tryd.sizeOf3 rfl) ?_
   refine tq 11 (by kernel_rfl) rfl rfl rfl rfl (ay_fieldAddr 2 2 rfl rfl Tryd.runUnderlying86 rfl Tryd.sizeOf3 (by decide) rfl) ?_
   refine one 12 (by kernel_rfl) rfl rfl (wst0 rfl rfl rfl rfl rfl Tryd.sizeOf3 rfl (Nat.le_of_ble_eq_true rfl) rfl (by simp) (fun h => mem_off.2 ⟨by simp [Sto.bl], fun hh => by simp only [List.mem_cons, List.not_mem_nil, or_false] at hh; rcases hh with rfl | rfl <;> simp [Sto.bl] at h⟩) ?_)
   refine any_done (by kernel_rfl) ?_
   refine then_normal ?_
   refine aw_seq ?_
   refine sqrg ?_
   rcases (show l[k1 + 1].num < 1 ∨ (¬ l[k1 + 1].num < 1 ∧ 64 < l[k1 + 1].num) ∨ (¬ l[k1 + 1].num < 1 ∧ ¬ 64 < l[k1 + 1].num) by omega) with hs1 | ⟨hs1, hs2⟩ | ⟨hs1, hs2⟩
   ·have hsz : (l[k1 + 1].num < 1 ∨ 64 < l[k1 + 1].num) := by omega
    refine wyy rfl rfl rfl (ay_fieldAddr 2 2 rfl rfl Tryd.runUnderlying86 rfl Tryd.sizeOf3 (by decide) rfl) ?_
    refine wyy rfl rfl rfl (ay_load_box [] rfl rfl rfl Tryd.isAgg3 Tryd.sizeOf3 rfl (fun _ h => by cases h)) ?_
    refine wyy rfl rfl rfl (ay_cmp true rfl rfl rfl (by simp [cmpR]; omega)) ?_
    refine wmv rfl rfl rfl rfl rfl ?_
    refine wskip rfl rfl (by decide) ?_
    refine wskip rfl rfl (by decide) ?_
    refine wskip rfl rfl (by decide) ?_
    refine wyy rfl rfl rfl (ay_pick rfl rfl rfl) ?_
    refine nlnm ?_
    refine aw_condT rfl rfl ?_
    refine sqrg ?_
    refine wmv rfl rfl rfl rfl rfl ?_
    refine wcP rfl rfl rfl rfl Tryd.call37 rfl (fail_c (_ :: _ :: A) _ _ _ l (k1 + 1) u1 0 0 dp 3) (by simp) (by simp [Sto.bl]) ?_
    rintro t7 s7 ⟨u7, e7, hf7, rfl, rfl⟩
    obtain ⟨rfl, rfl⟩ := hf7.1 rfl
    refine nx ?_
    refine wyy rfl rfl rfl (ay_load_box [] rfl rfl rfl Tryd.isAgg86 Tryd.sizeOf86 rfl (fun _ h => by cases h)) ?_
    refine wo rfl (wst1 rfl rfl rfl rfl rfl Tryd.sizeOf86 rfl (Nat.le_of_ble_eq_true rfl) (splice_all rfl) (by simp) (fun _ => by simp) ?_)
    refine nlnm ?_
    refine aw_ret ?_
    refine then_ret ?_
    refine then_ret ?_
    exact ⟨.inr rfl, _, (RSt A B rw P l (k1 + 1) (k1 + 1) (3) (0) (dp)), (res_one rfl (resv_cell [_] rfl rfl Tryd.isAgg86 Tryd.sizeOf86 (pk_all rfl rfl))), subS_of (.cons _ (.cons _ (.refl _))) (.refl _), ⟨⟨x1, false, l[k1 + 1].num⟩, k1 + 1, k1 + 1, 3, rfl, hr1.bind (.yes (fun _ => ⟨rfl, ha2⟩) (RRun.bind (x := 0) (k := 0) (RRun.bind (.ok _ _ _ hnum) (.yes (fun _ => hsz) (.err _ _ _ _ _ rfl (by decide)))) (.skip (by decide) _ _ _))), hm2, (by decide), rfl⟩⟩
   ·have hsz : (l[k1 + 1].num < 1 ∨ 64 < l[k1 + 1].num) := by omega
    refine wyy rfl rfl rfl (ay_fieldAddr 2 2 rfl rfl Tryd.runUnderlying86 rfl Tryd.sizeOf3 (by decide) rfl) ?_
    refine wyy rfl rfl rfl (ay_load_box [] rfl rfl rfl Tryd.isAgg3 Tryd.sizeOf3 rfl (fun _ h => by cases h)) ?_
    refine wyy rfl rfl rfl (ay_cmp false rfl rfl rfl (by simp [cmpR]; omega)) ?_
    refine wmv rfl rfl rfl rfl rfl ?_
    refine wyy rfl rfl rfl (ay_fieldAddr 2 2 rfl rfl Tryd.runUnderlying86 rfl Tryd.sizeOf3 (by decide) rfl) ?_
    refine wyy rfl rfl rfl (ay_load_box [] rfl rfl rfl Tryd.isAgg3 Tryd.sizeOf3 rfl (fun _ h => by cases h)) ?_
    refine wyy rfl rfl rfl (ay_cmp true rfl rfl rfl (by simp [cmpR]; omega)) ?_
    refine wyy rfl rfl rfl (ay_pick rfl rfl rfl) ?_
    refine nlnm ?_
    refine aw_condT rfl rfl ?_
    refine sqrg ?_
    refine wmv rfl rfl rfl rfl rfl ?_
    refine wcP rfl rfl rfl rfl Tryd.call37 rfl (fail_c (_ :: _ :: A) _ _ _ l (k1 + 1) u1 0 0 dp 3) (by simp) (by simp [Sto.bl]) ?_
    rintro t9 s9 ⟨u9, e9, hf9, rfl, rfl⟩
    obtain ⟨rfl, rfl⟩ := hf9.1 rfl
    refine nx ?_
    refine wyy rfl rfl rfl (ay_load_box [] rfl rfl rfl Tryd.isAgg86 Tryd.sizeOf86 rfl (fun _ h => by cases h)) ?_
    refine wo rfl (wst1 rfl rfl rfl rfl rfl Tryd.sizeOf86 rfl (Nat.le_of_ble_eq_true rfl) (splice_all rfl) (by simp) (fun _ => by simp) ?_)
    refine nlnm ?_
    refine aw_ret ?_
    refine then_ret ?_
    refine then_ret ?_
    exact ⟨.inr rfl, _, (RSt A B rw P l (k1 + 1) (k1 + 1) (3) (0) (dp)), (res_one rfl (resv_cell [_] rfl rfl Tryd.isAgg86 Tryd.sizeOf86 (pk_all rfl rfl))), subS_of (.cons _ (.cons _ (.refl _))) (.refl _), ⟨⟨x1, false, l[k1 + 1].num⟩, k1 + 1, k1 + 1, 3, rfl, hr1.bind (.yes (fun _ => ⟨rfl, ha2⟩) (RRun.bind (x := 0) (k := 0) (RRun.bind (.ok _ _ _ hnum) (.yes (fun _ => hsz) (.err _ _ _ _ _ rfl (by decide)))) (.skip (by decide) _ _ _))), hm2, (by decide), rfl⟩⟩
   ·have hsz : ¬ (l[k1 + 1].num < 1 ∨ 64 < l[k1 + 1].num) := by omega
    refine wyy rfl rfl rfl (ay_fieldAddr 2 2 rfl rfl Tryd.runUnderlying86 rfl Tryd.sizeOf3 (by decide) rfl) ?_
    refine wyy rfl rfl rfl (ay_load_box [] rfl rfl rfl Tryd.isAgg3 Tryd.sizeOf3 rfl (fun _ h => by cases h)) ?_
    refine wyy rfl rfl rfl (ay_cmp false rfl rfl rfl (by simp [cmpR]; omega)) ?_
    refine wmv rfl rfl rfl rfl rfl ?_
    refine wyy rfl rfl rfl (ay_fieldAddr 2 2 rfl rfl Tryd.runUnderlying86 rfl Tryd.sizeOf3 (by decide) rfl) ?_
    refine wyy rfl rfl rfl (ay_load_box [] rfl rfl rfl Tryd.isAgg3 Tryd.sizeOf3 rfl (fun _ h => by cases h)) ?_
    refine wyy rfl rfl rfl (ay_cmp false rfl rfl rfl (by simp [cmpR]; omega)) ?_
    refine wyy rfl rfl rfl (ay_pick rfl rfl rfl) ?_
    refine nlnm ?_
    refine aw_condF rfl rfl ?_
    refine aw_skip ?_
    refine then_normal ?_
    refine sqrg ?_
    refine wmv rfl rfl rfl rfl rfl ?_
    refine wyy rfl rfl rfl (ay_nilCheck rfl rfl) ?_
    refine wyy rfl rfl rfl (ay_fieldAddr 1 1 rfl rfl Tryd.runUnderlying78 rfl Tryd.sizeOf3 (by decide) rfl) ?_
    refine wyy rfl rfl rfl (ay_load_box (_ :: _ :: A) rfl rfl rfl Tryd.isAgg3 Tryd.sizeOf3 rfl (fun _ h => by cases h)) ?_
    refine wyy rfl rfl rfl (ay_add rfl rfl rfl (by omega) (by omega)) ?_
    refine wyy rfl rfl rfl (ay_nilCheck rfl rfl) ?_
    refine wyy rfl rfl rfl (ay_fieldAddr 1 1 rfl rfl Tryd.runUnderlying78 rfl Tryd.sizeOf3 (by decide) rfl) ?_
    refine wo rfl (wstA2 rfl rfl rfl rfl rfl Tryd.sizeOf3 rfl (Nat.le_of_ble_eq_true rfl) rfl (by simp) (fun _ => by simp) ?_)
    refine nlnm ?_
    refine aw_region ?_
    have hm := hok.last.more hm2 (by rw [ha4]; decide)
    refine wmv rfl rfl rfl rfl rfl ?_
    refine wcP rfl rfl rfl rfl Tryd.call72 rfl (must_c (_ :: _ :: A) _ _ _ l ((k1 + 1) + 1) u1 0 0 dp [93] (by decide) hok hm (by decide)) (by simp) (by simp [Sto.bl]) ?_
    rintro t11 s11 ⟨x11, k11, u11, e11, rfl, hr11, hk11, he11, rfl⟩
    refine nx ?_
    refine wmv rfl rfl rfl rfl rfl ?_
    refine wcP rfl rfl rfl rfl Tryd.call72 rfl (must_c (_ :: _ :: A) _ _ _ l k11 u11 e11 0 dp [59] (by decide) hok hk11 he11) (by simp) (by simp [Sto.bl]) ?_
    rintro t12 s12 ⟨x12, k12, u12, e12, rfl, hr12, hk12, he12, rfl⟩
    refine nx ?_
    refine wyy rfl rfl rfl (ay_load_box [] rfl rfl rfl Tryd.isAgg86 Tryd.sizeOf86 rfl (fun _ h => by cases h)) ?_
    refine wo rfl (wst1 rfl rfl rfl rfl rfl Tryd.sizeOf86 rfl (Nat.le_of_ble_eq_true rfl) (splice_all rfl) (by simp) (fun _ => by simp) ?_)
    refine nlnm ?_
    refine aw_ret ?_
    exact ⟨.inr rfl, _, (RSt A B rw P l (k12) (u12) (e12) (0) (dp)), (res_one rfl (resv_cell [_] rfl rfl Tryd.isAgg86 Tryd.sizeOf86 (pk_all rfl rfl))), subS_of (.cons _ (.cons _ (.refl _))) (.refl _), ⟨⟨x1, false, l[k1 + 1].num⟩, k12, u12, e12, rfl, hr1.bind (.yes (fun _ => ⟨rfl, ha2⟩) (RRun.bind (RRun.bind (.ok _ _ _ hnum) (.no (fun _ => hsz) (.ok _ _ _ rfl))) (hr11.bind (hr12.map (f := fun _ => AMutex.mk x1 false l[k1 + 1].num))))), hk12, he12, rfl⟩⟩
  ·refine wyy rfl rfl rfl (ay_not rfl rfl) ?_
   refine nlnm ?_
   refine aw_condT rfl rfl ?_
   refine sqrg ?_
   refine wmv rfl rfl rfl rfl rfl ?_
   refine wcP rfl rfl rfl rfl Tryd.call37 rfl (fail_c (_ :: _ :: A) _ _ _ l (k1 + 1) u1 0 0 dp 4) (by simp) (by simp [Sto.bl]) ?_
   rintro t14 s14 ⟨u14, e14, hf14, rfl, rfl⟩
   obtain ⟨rfl, rfl⟩ := hf14.1 rfl
   refine nx ?_
   refine wyy rfl rfl rfl (ay_load_box [] rfl rfl rfl Tryd.isAgg86 Tryd.sizeOf86 rfl (fun _ h => by cases h)) ?_
   refine wo rfl (wst1 rfl rfl rfl rfl rfl Tryd.sizeOf86 rfl (Nat.le_of_ble_eq_true rfl) (splice_all rfl) (by simp) (fun _ => by simp) ?_)
   refine nlnm ?_
   refine aw_ret ?_
   refine then_ret ?_
   refine then_ret ?_
   exact ⟨.inr rfl, _, (RSt A B rw P l (k1 + 1) (k1 + 1) (4) (0) (dp)), (res_one rfl (resv_cell [_] rfl rfl Tryd.isAgg86 Tryd.sizeOf86 (pk_all rfl rfl))), subS_of (.cons _ (.cons _ (.refl _))) (.refl _), ⟨⟨x1, false, 0⟩, k1 + 1, k1 + 1, 4, rfl, hr1.bind (.yes (fun _ => ⟨rfl, ha2⟩) (RRun.bind (x := 0) (k := 0) (RRun.bind (x := 0) (k := 0) (.err _ _ _ _ _ (by unfold numP; rw [if_neg (ha4 rfl)]) (by decide)) (.skip (by decide) _ _ _)) (.skip (by decide) _ _ _))), hm2, (by decide), rfl⟩⟩
 ·refine wyy rfl rfl rfl (ay_pick rfl rfl rfl) ?_
  refine nlnm ?_
  refine aw_condF rfl rfl ?_
  refine aw_skip ?_
  refine then_normal ?_
  refine sqrg ?_
  refine wmv rfl rfl rfl rfl rfl ?_
  refine wcP rfl rfl rfl rfl Tryd.call72 rfl (must_c (_ :: _ :: A) _ _ _ l k1 u1 e1 0 dp [59] (by decide) hok hk1 he1) (by simp) (by simp [Sto.bl]) ?_
  rintro t16 s16 ⟨x16, k16, u16, e16, rfl, hr16, hk16, he16, rfl⟩
  refine nx ?_
  refine wyy rfl rfl rfl (ay_load_box [] rfl rfl rfl Tryd.isAgg86 Tryd.sizeOf86 rfl (fun _ h => by cases h)) ?_
  refine wo rfl (wst1 rfl rfl rfl rfl rfl Tryd.sizeOf86 rfl (Nat.le_of_ble_eq_true rfl) (splice_all rfl) (by simp) (fun _ => by simp) ?_)
  refine nlnm ?_
  refine aw_ret ?_
  exact ⟨.inr rfl, _, (RSt A B rw P l (k16) (u16) (e16) (0) (dp)), (res_one rfl (resv_cell [_] rfl rfl Tryd.isAgg86 Tryd.sizeOf86 (pk_all rfl rfl))), subS_of (.cons _ (.cons _ (.refl _))) (.refl _), ⟨⟨x1, false, 0⟩, k16, u16, e16, rfl, hr1.bind (.no (fun h => by rintro ⟨-, h9⟩; rw [ha2 h] at h9; cases h9) (hr16.map (f := fun _ => AMutex.mk x1 false 0))), hk16, he16, rfl⟩⟩
end Go.Proofs.YtflcnehhpmjipaaDoor
