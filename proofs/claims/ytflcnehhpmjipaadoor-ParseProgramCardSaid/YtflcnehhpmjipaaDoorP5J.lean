import Derived.Test.YtflcnehhpmjipaaDoorP4J
set_option linter.unusedVariables false
set_option linter.unusedSimpArgs false
namespace Go.Proofs.YtflcnehhpmjipaaDoor
open Go.RowKit
set_option maxRecDepth 100000 in
set_option maxHeartbeats 1600000 in
theorem blockP_0 (A B : List Box) (rw : List ORow) (P : Nat) (l : List Tok) (k e : Nat) (hok : TOk l) (hk : k < l.length) (he : e < 16) : ACall Tryd.prog 97 [.c (.val (.pointer (some ⟨P, 0, none⟩)))] [P] (PSt A B rw P l k 24 e) (PAn A B rw P l 24 (fun x => .c (.sl x.length (x.flatMap encS))) e k (blockP l 0 k)) := by
 have hlen := hok.len
 refine acall_body Tryd.func97 rfl (Nat.le_of_ble_eq_true rfl) ?_
 show AWp Tryd.prog _ ⟨47, [P], ⟨A ++ ⟨P, 73, [.sl l.length (l.flatMap encT), .val (.int .i64 ((k : Nat) : Int)), .val (.int .i64 ((24 : Nat) : Int)), .val (.int .i64 ((e : Nat) : Int))]⟩ :: B, rw⟩, [(0, .c (.val (.pointer (some ⟨P, 0, none⟩))))]⟩ _
 refine sqrg ?_
 refine wag rfl rfl rfl rfl rfl ?_
 refine nlnm ?_
 refine aw_seq ?_
 refine sqrg ?_
 refine wmv rfl rfl rfl rfl rfl ?_
 refine wcP rfl rfl rfl rfl Tryd.call66 rfl (kindP_s (A) _ _ _ l k 24 e [123] hk) (by simp) (by simp [Sto.bl]) ?_
 rintro t1 s1 (⟨rfl, ha1, rfl, rfl⟩ | ⟨ha1, rfl, rfl⟩)
 ·refine wmv rfl rfl rfl rfl rfl ?_
  refine wmv rfl rfl rfl rfl rfl ?_
  refine wyy rfl rfl rfl (ay_nilCheck rfl rfl) ?_
  refine wyy rfl rfl rfl (ay_fieldAddr 2 2 rfl rfl Tryd.runUnderlying73 rfl Tryd.sizeOf3 (by decide) rfl) ?_
  refine wyy rfl rfl rfl (ay_load_box (A) rfl rfl rfl Tryd.isAgg3 Tryd.sizeOf3 rfl (fun _ h => by cases h)) ?_
  refine wyy rfl rfl rfl (ay_cmp true rfl rfl rfl (by rfl)) ?_
  refine wyy rfl rfl rfl (ay_pick rfl rfl rfl) ?_
  refine nlnm ?_
  refine aw_condT rfl rfl ?_
  refine aw_region ?_
  refine wmv rfl rfl rfl rfl rfl ?_
  refine wcP rfl rfl rfl rfl Tryd.call68 rfl (failP_c (A) _ _ _ l k 24 0 3) (by simp) (by simp [Sto.bl]) ?_
  rintro t3 s3 ⟨e3, hf3, rfl, rfl⟩
  obtain rfl := hf3.1 rfl
  refine nx ?_
  refine wmv rfl rfl rfl rfl rfl ?_
  refine wcP rfl rfl rfl rfl Tryd.call93 rfl (signP_c (A) _ _ _ l k 24 3 [123] hok hk (by decide)) (by simp) (by simp [Sto.bl]) ?_
  rintro t4 s4 ⟨x4, k4, e4, rfl, hr4, hk4, he4, rfl⟩
  refine nx ?_
  refine wag rfl rfl rfl rfl rfl ?_
  refine nx ?_
  refine wmv rfl rfl rfl rfl rfl ?_
  refine wyy rfl rfl rfl (ay_nilCheck rfl rfl) ?_
  refine wyy rfl rfl rfl (ay_fieldAddr 2 2 rfl rfl Tryd.runUnderlying73 rfl Tryd.sizeOf3 (by decide) rfl) ?_
  refine wyy rfl rfl rfl (ay_load_box (A) rfl rfl rfl Tryd.isAgg3 Tryd.sizeOf3 rfl (fun _ h => by cases h)) ?_
  refine wyy rfl rfl rfl (ay_add rfl rfl rfl (by omega) (by omega)) ?_
  refine wyy rfl rfl rfl (ay_nilCheck rfl rfl) ?_
  refine wyy rfl rfl rfl (ay_fieldAddr 2 2 rfl rfl Tryd.runUnderlying73 rfl Tryd.sizeOf3 (by decide) rfl) ?_
  refine wo rfl (wstA0 rfl rfl rfl rfl rfl Tryd.sizeOf3 rfl (Nat.le_of_ble_eq_true rfl) rfl (by simp) (fun _ => by simp) ?_)
  refine nlnm ?_
  refine aw_seq ?_
  refine aw_block ?_
  have hbad : e4 ≠ 0 ∧ Run 0 k (blockP l 0 k) [] k4 e4 := by
   rcases hr4 with ⟨_, rfl, rfl⟩ | ⟨h, _⟩
   ·exact ⟨by decide, .err _ _ _ _ (by unfold blockP; rw [if_pos ha1]) (by decide)⟩
   ·exact absurd h (by decide)
  refine wrow 119 11 ?_
  refine aw_loop (fun g : List AStmt × Value × Nat × Nat => (⟨47, rowB g.2.1 ++ [P], ⟨A ++ ⟨P, 73, [.sl l.length (l.flatMap encT), .val (.int .i64 (((g.2.2.1) : Nat) : Int)), .val (.int .i64 (((25) : Nat) : Int)), .val (.int .i64 (((g.2.2.2) : Nat) : Int))]⟩ :: B, ⟨g.2.1, 119, 11, (g.1).length, (g.1).flatMap encS⟩ :: rw⟩, [(3, .c (.val g.2.1)), (0, .c (.val (.pointer (some ⟨P, 0, none⟩))))]⟩ : AS)) (fun g => g.2.2.1 < l.length ∧ g.2.2.2 < 16 ∧ g.2.2.2 ≠ 0 ∧ Run 0 k (blockP l 0 k) g.1 g.2.2.1 g.2.2.2) (fun g => if g.2.2.2 = 0 then l.length - g.2.2.1 + 1 else 0) ([], .slice none 0 0, k4, e4) (subA (.refl _) (.refl _) (fun _ h => h) (sub_cons rfl (Wk.refl _) (sub_cons rfl (Wk.refl _) sub_nil))) ⟨hk4, he4, hbad.1, hbad.2⟩ ?_
  rintro ⟨acc, v0, k0, e0⟩ ⟨hk0, he0, hz0, hn0⟩
  dsimp only at hk0 he0 hz0 hn0
  show AWp Tryd.prog _ (⟨47, rowB v0 ++ [P], ⟨A ++ ⟨P, 73, [.sl l.length (l.flatMap encT), .val (.int .i64 (((k0) : Nat) : Int)), .val (.int .i64 (((25) : Nat) : Int)), .val (.int .i64 (((e0) : Nat) : Int))]⟩ :: B, ⟨v0, 119, 11, (acc).length, (acc).flatMap encS⟩ :: rw⟩, [(3, .c (.val v0)), (0, .c (.val (.pointer (some ⟨P, 0, none⟩))))]⟩ : AS) _
  have h0 := hz0
  refine aw_seq ?_
  refine sqrg ?_
  refine wmv rfl rfl rfl rfl rfl ?_
  refine wyy rfl rfl rfl (ay_nilCheck rfl rfl) ?_
  refine wyy rfl rfl rfl (ay_fieldAddr 3 3 rfl rfl Tryd.runUnderlying73 rfl Tryd.sizeOf36 (by decide) rfl) ?_
  refine wyy rfl rfl rfl (ay_load_box (A) rfl rfl rfl Tryd.isAgg36 Tryd.sizeOf36 rfl (fun _ h => by cases h)) ?_
  refine wyy rfl rfl rfl (ay_cmp false rfl rfl rfl (eq_nat0 h0)) ?_
  refine wmv rfl rfl rfl rfl rfl ?_
  refine wskip rfl rfl (by decide) ?_
  refine wskip rfl rfl (by decide) ?_
  refine wskip rfl rfl (by decide) ?_
  refine wyy rfl rfl rfl (ay_pick rfl rfl rfl) ?_
  refine nlnm ?_
  refine aw_condF rfl rfl ?_
  refine aw_exit ?_
  refine then_exit ?_
  refine then_exit ?_
  refine inB_exit ?_
  refine then_normal ?_
  refine sqrg ?_
  refine wmv rfl rfl rfl rfl rfl ?_
  refine wyy rfl rfl rfl (ay_nilCheck rfl rfl) ?_
  refine wyy rfl rfl rfl (ay_fieldAddr 2 2 rfl rfl Tryd.runUnderlying73 rfl Tryd.sizeOf3 (by decide) rfl) ?_
  refine wyy rfl rfl rfl (ay_load_box (A) rfl rfl rfl Tryd.isAgg3 Tryd.sizeOf3 rfl (fun _ h => by cases h)) ?_
  refine wyy rfl rfl rfl (ay_subR ((24 : Nat) : Int) rfl rfl rfl rfl (by omega) (by omega)) ?_
  refine wyy rfl rfl rfl (ay_nilCheck rfl rfl) ?_
  refine wyy rfl rfl rfl (ay_fieldAddr 2 2 rfl rfl Tryd.runUnderlying73 rfl Tryd.sizeOf3 (by decide) rfl) ?_
  refine wo rfl (wstA0 rfl rfl rfl rfl rfl Tryd.sizeOf3 rfl (Nat.le_of_ble_eq_true rfl) rfl (by simp) (fun _ => by simp) ?_)
  refine nx ?_
  refine wmv rfl rfl rfl rfl rfl ?_
  refine wag rfl rfl rfl rfl rfl ?_
  refine nlnm ?_
  refine wfrz 2 rfl ?_
  refine aw_ret ?_
  exact ⟨.inr rfl, _, (PSt A B rw P l (k0) (24) (e0)), (res_one rfl (resv_tmp rfl)), subS_of (.refl _) (.refl _), ⟨acc, k0, e0, rfl, hn0, hk0, he0, rfl⟩⟩
 ·refine wmv rfl rfl rfl rfl rfl ?_
  refine wskip rfl rfl (by decide) ?_
  refine wskip rfl rfl (by decide) ?_
  refine wskip rfl rfl (by decide) ?_
  refine wskip rfl rfl (by decide) ?_
  refine wskip rfl rfl (by decide) ?_
  refine wyy rfl rfl rfl (ay_pick rfl rfl rfl) ?_
  refine nlnm ?_
  refine aw_condF rfl rfl ?_
  refine aw_skip ?_
  refine then_normal ?_
  refine sqrg ?_
  refine wmv rfl rfl rfl rfl rfl ?_
  refine wcP rfl rfl rfl rfl Tryd.call93 rfl (signP_c (A) _ _ _ l k 24 e [123] hok hk he) (by simp) (by simp [Sto.bl]) ?_
  rintro t7 s7 ⟨x7, k7, e7, rfl, hr7, hk7, he7, rfl⟩
  refine nx ?_
  refine wag rfl rfl rfl rfl rfl ?_
  refine nx ?_
  refine wmv rfl rfl rfl rfl rfl ?_
  refine wyy rfl rfl rfl (ay_nilCheck rfl rfl) ?_
  refine wyy rfl rfl rfl (ay_fieldAddr 2 2 rfl rfl Tryd.runUnderlying73 rfl Tryd.sizeOf3 (by decide) rfl) ?_
  refine wyy rfl rfl rfl (ay_load_box (A) rfl rfl rfl Tryd.isAgg3 Tryd.sizeOf3 rfl (fun _ h => by cases h)) ?_
  refine wyy rfl rfl rfl (ay_add rfl rfl rfl (by omega) (by omega)) ?_
  refine wyy rfl rfl rfl (ay_nilCheck rfl rfl) ?_
  refine wyy rfl rfl rfl (ay_fieldAddr 2 2 rfl rfl Tryd.runUnderlying73 rfl Tryd.sizeOf3 (by decide) rfl) ?_
  refine wo rfl (wstA0 rfl rfl rfl rfl rfl Tryd.sizeOf3 rfl (Nat.le_of_ble_eq_true rfl) rfl (by simp) (fun _ => by simp) ?_)
  refine nlnm ?_
  refine aw_seq ?_
  refine aw_block ?_
  have hbad : e7 ≠ 0 ∧ Run e k (blockP l 0 k) [] k7 e7 := by
   rcases hr7 with ⟨h, rfl, rfl⟩ | ⟨h, h2⟩
   ·exact ⟨h, .skip h _ _⟩
   ·subst h
    have hq := ha1 rfl
    have h9 : wantP l [123] k = .err k 4 := by unfold wantP; rw [if_neg (by rw [hq]; decide)]
    rw [h9] at h2
    rcases h2 with ⟨h2, _⟩ | ⟨h2, h3⟩
    ·cases h2
    ·cases h2; exact ⟨h3, .err _ _ _ _ (by unfold blockP; rw [if_neg (by rw [hq]; decide)]) h3⟩
  refine wrow 119 11 ?_
  refine aw_loop (fun g : List AStmt × Value × Nat × Nat => (⟨47, rowB g.2.1 ++ [P], ⟨A ++ ⟨P, 73, [.sl l.length (l.flatMap encT), .val (.int .i64 (((g.2.2.1) : Nat) : Int)), .val (.int .i64 (((25) : Nat) : Int)), .val (.int .i64 (((g.2.2.2) : Nat) : Int))]⟩ :: B, ⟨g.2.1, 119, 11, (g.1).length, (g.1).flatMap encS⟩ :: rw⟩, [(3, .c (.val g.2.1)), (0, .c (.val (.pointer (some ⟨P, 0, none⟩))))]⟩ : AS)) (fun g => g.2.2.1 < l.length ∧ g.2.2.2 < 16 ∧ g.2.2.2 ≠ 0 ∧ Run e k (blockP l 0 k) g.1 g.2.2.1 g.2.2.2) (fun g => if g.2.2.2 = 0 then l.length - g.2.2.1 + 1 else 0) ([], .slice none 0 0, k7, e7) (subA (.refl _) (.refl _) (fun _ h => h) (sub_cons rfl (Wk.refl _) (sub_cons rfl (Wk.refl _) sub_nil))) ⟨hk7, he7, hbad.1, hbad.2⟩ ?_
  rintro ⟨acc, v0, k0, e0⟩ ⟨hk0, he0, hz0, hn0⟩
  dsimp only at hk0 he0 hz0 hn0
  show AWp Tryd.prog _ (⟨47, rowB v0 ++ [P], ⟨A ++ ⟨P, 73, [.sl l.length (l.flatMap encT), .val (.int .i64 (((k0) : Nat) : Int)), .val (.int .i64 (((25) : Nat) : Int)), .val (.int .i64 (((e0) : Nat) : Int))]⟩ :: B, ⟨v0, 119, 11, (acc).length, (acc).flatMap encS⟩ :: rw⟩, [(3, .c (.val v0)), (0, .c (.val (.pointer (some ⟨P, 0, none⟩))))]⟩ : AS) _
  have h0 := hz0
  refine aw_seq ?_
  refine sqrg ?_
  refine wmv rfl rfl rfl rfl rfl ?_
  refine wyy rfl rfl rfl (ay_nilCheck rfl rfl) ?_
  refine wyy rfl rfl rfl (ay_fieldAddr 3 3 rfl rfl Tryd.runUnderlying73 rfl Tryd.sizeOf36 (by decide) rfl) ?_
  refine wyy rfl rfl rfl (ay_load_box (A) rfl rfl rfl Tryd.isAgg36 Tryd.sizeOf36 rfl (fun _ h => by cases h)) ?_
  refine wyy rfl rfl rfl (ay_cmp false rfl rfl rfl (eq_nat0 h0)) ?_
  refine wmv rfl rfl rfl rfl rfl ?_
  refine wskip rfl rfl (by decide) ?_
  refine wskip rfl rfl (by decide) ?_
  refine wskip rfl rfl (by decide) ?_
  refine wyy rfl rfl rfl (ay_pick rfl rfl rfl) ?_
  refine nlnm ?_
  refine aw_condF rfl rfl ?_
  refine aw_exit ?_
  refine then_exit ?_
  refine then_exit ?_
  refine inB_exit ?_
  refine then_normal ?_
  refine sqrg ?_
  refine wmv rfl rfl rfl rfl rfl ?_
  refine wyy rfl rfl rfl (ay_nilCheck rfl rfl) ?_
  refine wyy rfl rfl rfl (ay_fieldAddr 2 2 rfl rfl Tryd.runUnderlying73 rfl Tryd.sizeOf3 (by decide) rfl) ?_
  refine wyy rfl rfl rfl (ay_load_box (A) rfl rfl rfl Tryd.isAgg3 Tryd.sizeOf3 rfl (fun _ h => by cases h)) ?_
  refine wyy rfl rfl rfl (ay_subR ((24 : Nat) : Int) rfl rfl rfl rfl (by omega) (by omega)) ?_
  refine wyy rfl rfl rfl (ay_nilCheck rfl rfl) ?_
  refine wyy rfl rfl rfl (ay_fieldAddr 2 2 rfl rfl Tryd.runUnderlying73 rfl Tryd.sizeOf3 (by decide) rfl) ?_
  refine wo rfl (wstA0 rfl rfl rfl rfl rfl Tryd.sizeOf3 rfl (Nat.le_of_ble_eq_true rfl) rfl (by simp) (fun _ => by simp) ?_)
  refine nx ?_
  refine wmv rfl rfl rfl rfl rfl ?_
  refine wag rfl rfl rfl rfl rfl ?_
  refine nlnm ?_
  refine wfrz 2 rfl ?_
  refine aw_ret ?_
  exact ⟨.inr rfl, _, (PSt A B rw P l (k0) (24) (e0)), (res_one rfl (resv_tmp rfl)), subS_of (.refl _) (.refl _), ⟨acc, k0, e0, rfl, hn0, hk0, he0, rfl⟩⟩
set_option maxRecDepth 100000 in
set_option maxHeartbeats 1600000 in
theorem blockP_s (A B : List Box) (rw : List ORow) (P : Nat) (l : List Tok) (k e dp : Nat) (st : Nat → PRes AStmt) (hdp : dp < 24) (hin : ∀ k, k < l.length → (st k).In l k) (hstm : ∀ (A B : List Box) (rw : List ORow) (P k : Nat), k < l.length → ACall Tryd.prog 109 [.c (.val (.pointer (some ⟨P, 0, none⟩)))] [P] (PSt A B rw P l k (dp + 1) 0) (PAn A B rw P l (dp + 1) (fun x => .agg (encS1 x)) 0 k (st k))) (hok : TOk l) (hk : k < l.length) (he : e < 16) : ACall Tryd.prog 97 [.c (.val (.pointer (some ⟨P, 0, none⟩)))] [P] (PSt A B rw P l k dp e) (PAn A B rw P l dp (fun x => .c (.sl x.length (x.flatMap encS))) e k ((wantP l [123] k).bind fun _ k => stmtsP l st l.length [] k)) := by
 have hlen := hok.len
 refine acall_body Tryd.func97 rfl (Nat.le_of_ble_eq_true rfl) ?_
 show AWp Tryd.prog _ ⟨47, [P], ⟨A ++ ⟨P, 73, [.sl l.length (l.flatMap encT), .val (.int .i64 ((k : Nat) : Int)), .val (.int .i64 ((dp : Nat) : Int)), .val (.int .i64 ((e : Nat) : Int))]⟩ :: B, rw⟩, [(0, .c (.val (.pointer (some ⟨P, 0, none⟩))))]⟩ _
 refine sqrg ?_
 refine wag rfl rfl rfl rfl rfl ?_
 refine nlnm ?_
 refine aw_seq ?_
 refine sqrg ?_
 refine wmv rfl rfl rfl rfl rfl ?_
 refine wcP rfl rfl rfl rfl Tryd.call66 rfl (kindP_s (A) _ _ _ l k dp e [123] hk) (by simp) (by simp [Sto.bl]) ?_
 rintro t1 s1 (⟨rfl, ha1, rfl, rfl⟩ | ⟨ha1, rfl, rfl⟩)
 ·refine wmv rfl rfl rfl rfl rfl ?_
  refine wmv rfl rfl rfl rfl rfl ?_
  refine wyy rfl rfl rfl (ay_nilCheck rfl rfl) ?_
  refine wyy rfl rfl rfl (ay_fieldAddr 2 2 rfl rfl Tryd.runUnderlying73 rfl Tryd.sizeOf3 (by decide) rfl) ?_
  refine wyy rfl rfl rfl (ay_load_box (A) rfl rfl rfl Tryd.isAgg3 Tryd.sizeOf3 rfl (fun _ h => by cases h)) ?_
  refine wyy rfl rfl rfl (ay_cmp false rfl rfl rfl (by simp [cmpR]; omega)) ?_
  refine wyy rfl rfl rfl (ay_pick rfl rfl rfl) ?_
  refine nlnm ?_
  refine aw_condF rfl rfl ?_
  refine aw_skip ?_
  refine then_normal ?_
  refine sqrg ?_
  refine wmv rfl rfl rfl rfl rfl ?_
  refine wcP rfl rfl rfl rfl Tryd.call93 rfl (signP_c (A) _ _ _ l k dp 0 [123] hok hk (by decide)) (by simp) (by simp [Sto.bl]) ?_
  rintro t3 s3 ⟨x3, k3, e3, rfl, hr3, hk3, he3, rfl⟩
  refine nx ?_
  refine wag rfl rfl rfl rfl rfl ?_
  refine nx ?_
  refine wmv rfl rfl rfl rfl rfl ?_
  refine wyy rfl rfl rfl (ay_nilCheck rfl rfl) ?_
  refine wyy rfl rfl rfl (ay_fieldAddr 2 2 rfl rfl Tryd.runUnderlying73 rfl Tryd.sizeOf3 (by decide) rfl) ?_
  refine wyy rfl rfl rfl (ay_load_box (A) rfl rfl rfl Tryd.isAgg3 Tryd.sizeOf3 rfl (fun _ h => by cases h)) ?_
  refine wyy rfl rfl rfl (ay_add rfl rfl rfl (by omega) (by omega)) ?_
  refine wyy rfl rfl rfl (ay_nilCheck rfl rfl) ?_
  refine wyy rfl rfl rfl (ay_fieldAddr 2 2 rfl rfl Tryd.runUnderlying73 rfl Tryd.sizeOf3 (by decide) rfl) ?_
  refine wo rfl (wstA0 rfl rfl rfl rfl rfl Tryd.sizeOf3 rfl (Nat.le_of_ble_eq_true rfl) rfl (by simp) (fun _ => by simp) ?_)
  refine nlnm ?_
  refine aw_seq ?_
  refine aw_block ?_
  refine wrow 119 11 ?_
  refine aw_loop (fun g : List AStmt × Value × Nat × Nat => (⟨47, rowB g.2.1 ++ [P], ⟨A ++ ⟨P, 73, [.sl l.length (l.flatMap encT), .val (.int .i64 (((g.2.2.1) : Nat) : Int)), .val (.int .i64 (((dp + 1) : Nat) : Int)), .val (.int .i64 (((g.2.2.2) : Nat) : Int))]⟩ :: B, ⟨g.2.1, 119, 11, (g.1).length, (g.1).flatMap encS⟩ :: rw⟩, [(3, .c (.val g.2.1)), (0, .c (.val (.pointer (some ⟨P, 0, none⟩))))]⟩ : AS)) (fun g => g.2.2.1 < l.length ∧ g.2.2.2 < 16 ∧ (g.2.2.2 = 0 → g.1.length ≤ g.2.2.1) ∧ (g.2.2.2 ≠ 0 → Run 0 k ((wantP l [123] k).bind fun _ k => stmtsP l st l.length [] k) g.1 g.2.2.1 g.2.2.2) ∧ (g.2.2.2 = 0 → ∃ n, l.length ≤ n + g.2.2.1 ∧ ∀ z k' e', Run 0 g.2.2.1 (stmtsP l st n g.1 g.2.2.1) z k' e' → Run 0 k ((wantP l [123] k).bind fun _ k => stmtsP l st l.length [] k) z k' e')) (fun g => if g.2.2.2 = 0 then l.length - g.2.2.1 + 1 else 0) ([], .slice none 0 0, k3, e3) (subA (.refl _) (.refl _) (fun _ h => h) (sub_cons rfl (Wk.refl _) (sub_cons rfl (Wk.refl _) sub_nil))) ⟨hk3, he3, fun _ => Nat.zero_le _, fun h => hr3.bind (.skip h _ _), fun h => ⟨l.length, Nat.le_add_right _ _, fun z k' e' h2 => hr3.bind (by rw [show e3 = 0 from h]; exact h2)⟩⟩ ?_
  rintro ⟨acc, v0, k0, e0⟩ ⟨hk0, he0, ha0, hn0, hc0⟩
  dsimp only at hk0 he0 ha0 hn0 hc0
  show AWp Tryd.prog _ (⟨47, rowB v0 ++ [P], ⟨A ++ ⟨P, 73, [.sl l.length (l.flatMap encT), .val (.int .i64 (((k0) : Nat) : Int)), .val (.int .i64 (((dp + 1) : Nat) : Int)), .val (.int .i64 (((e0) : Nat) : Int))]⟩ :: B, ⟨v0, 119, 11, (acc).length, (acc).flatMap encS⟩ :: rw⟩, [(3, .c (.val v0)), (0, .c (.val (.pointer (some ⟨P, 0, none⟩))))]⟩ : AS) _
  by_cases h0 : e0 = 0
  ·subst h0
   have ha1 := ha0 rfl
   obtain ⟨n0, hn1, hcont⟩ := hc0 rfl
   refine aw_seq ?_
   refine sqrg ?_
   refine wmv rfl rfl rfl rfl rfl ?_
   refine wyy rfl rfl rfl (ay_nilCheck rfl rfl) ?_
   refine wyy rfl rfl rfl (ay_fieldAddr 3 3 rfl rfl Tryd.runUnderlying73 rfl Tryd.sizeOf36 (by decide) rfl) ?_
   refine wyy rfl rfl rfl (ay_load_box (A) rfl rfl rfl Tryd.isAgg36 Tryd.sizeOf36 rfl (fun _ h => by cases h)) ?_
   refine wyy rfl rfl rfl (ay_cmp true rfl rfl rfl (by rfl)) ?_
   refine wmv rfl rfl rfl rfl rfl ?_
   refine wmv rfl rfl rfl rfl rfl ?_
   refine wcP rfl rfl rfl rfl Tryd.call91 rfl (accept_c (A) _ _ _ l k0 (dp + 1) 0 [125] hok hk0) (by simp) (by simp [Sto.bl]) ?_
   rintro t4 s4 (⟨-, ha4, hm4, rfl, rfl⟩ | ⟨ha4, rfl, rfl⟩)
   ·refine wyy rfl rfl rfl (ay_not rfl rfl) ?_
    refine wyy rfl rfl rfl (ay_pick rfl rfl rfl) ?_
    refine nlnm ?_
    refine aw_condF rfl rfl ?_
    refine aw_exit ?_
    refine then_exit ?_
    refine then_exit ?_
    refine inB_exit ?_
    refine then_normal ?_
    refine sqrg ?_
    refine wmv rfl rfl rfl rfl rfl ?_
    refine wyy rfl rfl rfl (ay_nilCheck rfl rfl) ?_
    refine wyy rfl rfl rfl (ay_fieldAddr 2 2 rfl rfl Tryd.runUnderlying73 rfl Tryd.sizeOf3 (by decide) rfl) ?_
    refine wyy rfl rfl rfl (ay_load_box (A) rfl rfl rfl Tryd.isAgg3 Tryd.sizeOf3 rfl (fun _ h => by cases h)) ?_
    refine wyy rfl rfl rfl (ay_subR ((dp : Nat) : Int) rfl rfl rfl (by omega) (by omega) (by omega)) ?_
    refine wyy rfl rfl rfl (ay_nilCheck rfl rfl) ?_
    refine wyy rfl rfl rfl (ay_fieldAddr 2 2 rfl rfl Tryd.runUnderlying73 rfl Tryd.sizeOf3 (by decide) rfl) ?_
    refine wo rfl (wstA0 rfl rfl rfl rfl rfl Tryd.sizeOf3 rfl (Nat.le_of_ble_eq_true rfl) rfl (by simp) (fun _ => by simp) ?_)
    refine nx ?_
    refine wmv rfl rfl rfl rfl rfl ?_
    refine wag rfl rfl rfl rfl rfl ?_
    refine nlnm ?_
    refine wfrz 2 rfl ?_
    refine aw_ret ?_
    obtain ⟨m, rfl⟩ : ∃ m, n0 = m + 1 := ⟨n0 - 1, by omega⟩
    exact ⟨.inr rfl, _, (PSt A B rw P l (k0 + 1) (dp) (0)), (res_one rfl (resv_tmp rfl)), subS_of (.refl _) (.refl _), ⟨acc, k0 + 1, 0, rfl, hcont _ _ _ (by rw [stmtsP, if_pos ha4]; exact .ok _ _ _ rfl), hm4, (by decide), rfl⟩⟩
   ·refine wyy rfl rfl rfl (ay_not rfl rfl) ?_
    refine wyy rfl rfl rfl (ay_pick rfl rfl rfl) ?_
    refine nlnm ?_
    refine aw_condT rfl rfl ?_
    refine aw_skip ?_
    refine then_normal ?_
    refine aw_block ?_
    refine aw_region ?_
    refine wmv rfl rfl rfl rfl rfl ?_
    refine wmv rfl rfl rfl rfl rfl ?_
    refine wcP rfl rfl rfl rfl Tryd.call109 rfl (hstm (A) _ _ _ k0 hk0) (by simp) (by simp [Sto.bl]) ?_
    rintro t7 s7 ⟨x7, k7, e7, rfl, hr7, hk7, he7, rfl⟩
    refine wo rfl (wbs Tryd.t119 [.val (.int .i64 0), .val (.string ⟨#[]⟩), .val (.int .i64 0), .val (.int .i64 0), .val (.string ⟨#[]⟩), .val (.slice none 0 0), .val (.string ⟨#[]⟩), .val (.slice none 0 0), .val (.slice none 0 0), .val (.slice none 0 0), .val (.slice none 0 0)] rfl rfl (by decide) (.cons rfl .nil) Tryd.underlying52 (by kernel_rfl) rfl (by decide) (by decide) (by kernel_rfl) (by kernel_rfl) (fill_one encS encS1 x7 (encS_one _) rfl rfl) ?_)
    refine wo rfl (wapI [] Tryd.t119 192 rfl rfl (by decide) rfl rfl Tryd.underlying52 (by kernel_rfl) rfl rfl rfl rfl (by decide) (by rw [List.flatMap_cons, List.flatMap_nil, List.append_nil, encS_len]) (by decide) (by unfold maxLen; skip; omega) (by skip; omega) (@List.length_append _ acc [x7]).symm (fun _ b hb => by simp [hb]) (fun b hb => by simp [hb]) (List.flatMap_append (f := encS)).symm fun v8 => ?_)
    refine wag rfl rfl rfl rfl rfl ?_
    refine aops_nil ?_
    refine inB_normal ?_
    obtain ⟨m, rfl⟩ : ∃ m, n0 = m + 1 := ⟨n0 - 1, by omega⟩
    have hst : ∀ z k' e', Run e7 k7 (stmtsP l st m (acc ++ [x7]) k7) z k' e' → Run 0 k ((wantP l [123] k).bind fun _ k => stmtsP l st l.length [] k) z k' e' := fun z k' e' h => hcont z k' e' (by rw [stmtsP, if_neg (by rw [ha4 rfl]; decide)]; exact hr7.bind h)
    have hgo : e7 = 0 → k0 < k7 := fun h => by have h9 := hin k0 hk0; rw [(hr7.good h).2] at h9; exact h9.1
    refine ⟨(acc ++ [x7], v8, k7, e7), ⟨hk7, he7, fun h => ?_, fun h => hst _ _ _ (.skip h _ _), fun h => ⟨m, ?_, fun z k' e' h2 => hst _ _ _ ?_⟩⟩, ?_, subA (.refl _) (.refl _) (by intro x hx; simp only [List.mem_append, List.mem_cons, List.not_mem_nil, or_false] at hx ⊢; rcases hx with h | h <;> simp [h]) (sub_cons rfl (Wk.refl _) (sub_cons rfl (Wk.refl _) sub_nil))⟩
    ·have := hgo h; show (acc ++ [_]).length ≤ k7; simp; omega
    ·have := hgo h; show l.length ≤ m + k7; omega
    ·rw [show e7 = 0 from h]; exact h2
    ·show (if e7 = 0 then _ else _) < (if (0 : Nat) = 0 then _ else _)
     by_cases h : e7 = 0
     ·have := hgo h; rw [if_pos h, if_pos rfl]; show l.length - k7 + 1 < l.length - k0 + 1; omega
     ·rw [if_neg h, if_pos rfl]; show 0 < l.length - k0 + 1; omega
  ·refine aw_seq ?_
   refine sqrg ?_
   refine wmv rfl rfl rfl rfl rfl ?_
   refine wyy rfl rfl rfl (ay_nilCheck rfl rfl) ?_
   refine wyy rfl rfl rfl (ay_fieldAddr 3 3 rfl rfl Tryd.runUnderlying73 rfl Tryd.sizeOf36 (by decide) rfl) ?_
   refine wyy rfl rfl rfl (ay_load_box (A) rfl rfl rfl Tryd.isAgg36 Tryd.sizeOf36 rfl (fun _ h => by cases h)) ?_
   refine wyy rfl rfl rfl (ay_cmp false rfl rfl rfl (eq_nat0 h0)) ?_
   refine wmv rfl rfl rfl rfl rfl ?_
   refine wskip rfl rfl (by decide) ?_
   refine wskip rfl rfl (by decide) ?_
   refine wskip rfl rfl (by decide) ?_
   refine wyy rfl rfl rfl (ay_pick rfl rfl rfl) ?_
   refine nlnm ?_
   refine aw_condF rfl rfl ?_
   refine aw_exit ?_
   refine then_exit ?_
   refine then_exit ?_
   refine inB_exit ?_
   refine then_normal ?_
   refine sqrg ?_
   refine wmv rfl rfl rfl rfl rfl ?_
   refine wyy rfl rfl rfl (ay_nilCheck rfl rfl) ?_
   refine wyy rfl rfl rfl (ay_fieldAddr 2 2 rfl rfl Tryd.runUnderlying73 rfl Tryd.sizeOf3 (by decide) rfl) ?_
   refine wyy rfl rfl rfl (ay_load_box (A) rfl rfl rfl Tryd.isAgg3 Tryd.sizeOf3 rfl (fun _ h => by cases h)) ?_
   refine wyy rfl rfl rfl (ay_subR ((dp : Nat) : Int) rfl rfl rfl (by omega) (by omega) (by omega)) ?_
   refine wyy rfl rfl rfl (ay_nilCheck rfl rfl) ?_
   refine wyy rfl rfl rfl (ay_fieldAddr 2 2 rfl rfl Tryd.runUnderlying73 rfl Tryd.sizeOf3 (by decide) rfl) ?_
   refine wo rfl (wstA0 rfl rfl rfl rfl rfl Tryd.sizeOf3 rfl (Nat.le_of_ble_eq_true rfl) rfl (by simp) (fun _ => by simp) ?_)
   refine nx ?_
   refine wmv rfl rfl rfl rfl rfl ?_
   refine wag rfl rfl rfl rfl rfl ?_
   refine nlnm ?_
   refine wfrz 2 rfl ?_
   refine aw_ret ?_
   exact ⟨.inr rfl, _, (PSt A B rw P l (k0) (dp) (e0)), (res_one rfl (resv_tmp rfl)), subS_of (.refl _) (.refl _), ⟨acc, k0, e0, rfl, hn0 h0, hk0, he0, rfl⟩⟩
 ·refine wmv rfl rfl rfl rfl rfl ?_
  refine wskip rfl rfl (by decide) ?_
  refine wskip rfl rfl (by decide) ?_
  refine wskip rfl rfl (by decide) ?_
  refine wskip rfl rfl (by decide) ?_
  refine wskip rfl rfl (by decide) ?_
  refine wyy rfl rfl rfl (ay_pick rfl rfl rfl) ?_
  refine nlnm ?_
  refine aw_condF rfl rfl ?_
  refine aw_skip ?_
  refine then_normal ?_
  refine sqrg ?_
  refine wmv rfl rfl rfl rfl rfl ?_
  refine wcP rfl rfl rfl rfl Tryd.call93 rfl (signP_c (A) _ _ _ l k dp e [123] hok hk he) (by simp) (by simp [Sto.bl]) ?_
  rintro t11 s11 ⟨x11, k11, e11, rfl, hr11, hk11, he11, rfl⟩
  refine nx ?_
  refine wag rfl rfl rfl rfl rfl ?_
  refine nx ?_
  refine wmv rfl rfl rfl rfl rfl ?_
  refine wyy rfl rfl rfl (ay_nilCheck rfl rfl) ?_
  refine wyy rfl rfl rfl (ay_fieldAddr 2 2 rfl rfl Tryd.runUnderlying73 rfl Tryd.sizeOf3 (by decide) rfl) ?_
  refine wyy rfl rfl rfl (ay_load_box (A) rfl rfl rfl Tryd.isAgg3 Tryd.sizeOf3 rfl (fun _ h => by cases h)) ?_
  refine wyy rfl rfl rfl (ay_add rfl rfl rfl (by omega) (by omega)) ?_
  refine wyy rfl rfl rfl (ay_nilCheck rfl rfl) ?_
  refine wyy rfl rfl rfl (ay_fieldAddr 2 2 rfl rfl Tryd.runUnderlying73 rfl Tryd.sizeOf3 (by decide) rfl) ?_
  refine wo rfl (wstA0 rfl rfl rfl rfl rfl Tryd.sizeOf3 rfl (Nat.le_of_ble_eq_true rfl) rfl (by simp) (fun _ => by simp) ?_)
  refine nlnm ?_
  refine aw_seq ?_
  refine aw_block ?_
  refine wrow 119 11 ?_
  refine aw_loop (fun g : List AStmt × Value × Nat × Nat => (⟨47, rowB g.2.1 ++ [P], ⟨A ++ ⟨P, 73, [.sl l.length (l.flatMap encT), .val (.int .i64 (((g.2.2.1) : Nat) : Int)), .val (.int .i64 (((dp + 1) : Nat) : Int)), .val (.int .i64 (((g.2.2.2) : Nat) : Int))]⟩ :: B, ⟨g.2.1, 119, 11, (g.1).length, (g.1).flatMap encS⟩ :: rw⟩, [(3, .c (.val g.2.1)), (0, .c (.val (.pointer (some ⟨P, 0, none⟩))))]⟩ : AS)) (fun g => g.2.2.1 < l.length ∧ g.2.2.2 < 16 ∧ (g.2.2.2 = 0 → g.1.length ≤ g.2.2.1) ∧ (g.2.2.2 ≠ 0 → Run e k ((wantP l [123] k).bind fun _ k => stmtsP l st l.length [] k) g.1 g.2.2.1 g.2.2.2) ∧ (g.2.2.2 = 0 → ∃ n, l.length ≤ n + g.2.2.1 ∧ ∀ z k' e', Run 0 g.2.2.1 (stmtsP l st n g.1 g.2.2.1) z k' e' → Run e k ((wantP l [123] k).bind fun _ k => stmtsP l st l.length [] k) z k' e')) (fun g => if g.2.2.2 = 0 then l.length - g.2.2.1 + 1 else 0) ([], .slice none 0 0, k11, e11) (subA (.refl _) (.refl _) (fun _ h => h) (sub_cons rfl (Wk.refl _) (sub_cons rfl (Wk.refl _) sub_nil))) ⟨hk11, he11, fun _ => Nat.zero_le _, fun h => hr11.bind (.skip h _ _), fun h => ⟨l.length, Nat.le_add_right _ _, fun z k' e' h2 => hr11.bind (by rw [show e11 = 0 from h]; exact h2)⟩⟩ ?_
  rintro ⟨acc, v0, k0, e0⟩ ⟨hk0, he0, ha0, hn0, hc0⟩
  dsimp only at hk0 he0 ha0 hn0 hc0
  show AWp Tryd.prog _ (⟨47, rowB v0 ++ [P], ⟨A ++ ⟨P, 73, [.sl l.length (l.flatMap encT), .val (.int .i64 (((k0) : Nat) : Int)), .val (.int .i64 (((dp + 1) : Nat) : Int)), .val (.int .i64 (((e0) : Nat) : Int))]⟩ :: B, ⟨v0, 119, 11, (acc).length, (acc).flatMap encS⟩ :: rw⟩, [(3, .c (.val v0)), (0, .c (.val (.pointer (some ⟨P, 0, none⟩))))]⟩ : AS) _
  by_cases h0 : e0 = 0
  ·subst h0
   have ha1 := ha0 rfl
   obtain ⟨n0, hn1, hcont⟩ := hc0 rfl
   refine aw_seq ?_
   refine sqrg ?_
   refine wmv rfl rfl rfl rfl rfl ?_
   refine wyy rfl rfl rfl (ay_nilCheck rfl rfl) ?_
   refine wyy rfl rfl rfl (ay_fieldAddr 3 3 rfl rfl Tryd.runUnderlying73 rfl Tryd.sizeOf36 (by decide) rfl) ?_
   refine wyy rfl rfl rfl (ay_load_box (A) rfl rfl rfl Tryd.isAgg36 Tryd.sizeOf36 rfl (fun _ h => by cases h)) ?_
   refine wyy rfl rfl rfl (ay_cmp true rfl rfl rfl (by rfl)) ?_
   refine wmv rfl rfl rfl rfl rfl ?_
   refine wmv rfl rfl rfl rfl rfl ?_
   refine wcP rfl rfl rfl rfl Tryd.call91 rfl (accept_c (A) _ _ _ l k0 (dp + 1) 0 [125] hok hk0) (by simp) (by simp [Sto.bl]) ?_
   rintro t12 s12 (⟨-, ha12, hm12, rfl, rfl⟩ | ⟨ha12, rfl, rfl⟩)
   ·refine wyy rfl rfl rfl (ay_not rfl rfl) ?_
    refine wyy rfl rfl rfl (ay_pick rfl rfl rfl) ?_
    refine nlnm ?_
    refine aw_condF rfl rfl ?_
    refine aw_exit ?_
    refine then_exit ?_
    refine then_exit ?_
    refine inB_exit ?_
    refine then_normal ?_
    refine sqrg ?_
    refine wmv rfl rfl rfl rfl rfl ?_
    refine wyy rfl rfl rfl (ay_nilCheck rfl rfl) ?_
    refine wyy rfl rfl rfl (ay_fieldAddr 2 2 rfl rfl Tryd.runUnderlying73 rfl Tryd.sizeOf3 (by decide) rfl) ?_
    refine wyy rfl rfl rfl (ay_load_box (A) rfl rfl rfl Tryd.isAgg3 Tryd.sizeOf3 rfl (fun _ h => by cases h)) ?_
    refine wyy rfl rfl rfl (ay_subR ((dp : Nat) : Int) rfl rfl rfl (by omega) (by omega) (by omega)) ?_
    refine wyy rfl rfl rfl (ay_nilCheck rfl rfl) ?_
    refine wyy rfl rfl rfl (ay_fieldAddr 2 2 rfl rfl Tryd.runUnderlying73 rfl Tryd.sizeOf3 (by decide) rfl) ?_
    refine wo rfl (wstA0 rfl rfl rfl rfl rfl Tryd.sizeOf3 rfl (Nat.le_of_ble_eq_true rfl) rfl (by simp) (fun _ => by simp) ?_)
    refine nx ?_
    refine wmv rfl rfl rfl rfl rfl ?_
    refine wag rfl rfl rfl rfl rfl ?_
    refine nlnm ?_
    refine wfrz 2 rfl ?_
    refine aw_ret ?_
    obtain ⟨m, rfl⟩ : ∃ m, n0 = m + 1 := ⟨n0 - 1, by omega⟩
    exact ⟨.inr rfl, _, (PSt A B rw P l (k0 + 1) (dp) (0)), (res_one rfl (resv_tmp rfl)), subS_of (.refl _) (.refl _), ⟨acc, k0 + 1, 0, rfl, hcont _ _ _ (by rw [stmtsP, if_pos ha12]; exact .ok _ _ _ rfl), hm12, (by decide), rfl⟩⟩
   ·refine wyy rfl rfl rfl (ay_not rfl rfl) ?_
    refine wyy rfl rfl rfl (ay_pick rfl rfl rfl) ?_
    refine nlnm ?_
    refine aw_condT rfl rfl ?_
    refine aw_skip ?_
    refine then_normal ?_
    refine aw_block ?_
    refine aw_region ?_
    refine wmv rfl rfl rfl rfl rfl ?_
    refine wmv rfl rfl rfl rfl rfl ?_
    refine wcP rfl rfl rfl rfl Tryd.call109 rfl (hstm (A) _ _ _ k0 hk0) (by simp) (by simp [Sto.bl]) ?_
    rintro t15 s15 ⟨x15, k15, e15, rfl, hr15, hk15, he15, rfl⟩
    refine wo rfl (wbs Tryd.t119 [.val (.int .i64 0), .val (.string ⟨#[]⟩), .val (.int .i64 0), .val (.int .i64 0), .val (.string ⟨#[]⟩), .val (.slice none 0 0), .val (.string ⟨#[]⟩), .val (.slice none 0 0), .val (.slice none 0 0), .val (.slice none 0 0), .val (.slice none 0 0)] rfl rfl (by decide) (.cons rfl .nil) Tryd.underlying52 (by kernel_rfl) rfl (by decide) (by decide) (by kernel_rfl) (by kernel_rfl) (fill_one encS encS1 x15 (encS_one _) rfl rfl) ?_)
    refine wo rfl (wapI [] Tryd.t119 192 rfl rfl (by decide) rfl rfl Tryd.underlying52 (by kernel_rfl) rfl rfl rfl rfl (by decide) (by rw [List.flatMap_cons, List.flatMap_nil, List.append_nil, encS_len]) (by decide) (by unfold maxLen; skip; omega) (by skip; omega) (@List.length_append _ acc [x15]).symm (fun _ b hb => by simp [hb]) (fun b hb => by simp [hb]) (List.flatMap_append (f := encS)).symm fun v16 => ?_)
    refine wag rfl rfl rfl rfl rfl ?_
    refine aops_nil ?_
    refine inB_normal ?_
    obtain ⟨m, rfl⟩ : ∃ m, n0 = m + 1 := ⟨n0 - 1, by omega⟩
    have hst : ∀ z k' e', Run e15 k15 (stmtsP l st m (acc ++ [x15]) k15) z k' e' → Run e k ((wantP l [123] k).bind fun _ k => stmtsP l st l.length [] k) z k' e' := fun z k' e' h => hcont z k' e' (by rw [stmtsP, if_neg (by rw [ha12 rfl]; decide)]; exact hr15.bind h)
    have hgo : e15 = 0 → k0 < k15 := fun h => by have h9 := hin k0 hk0; rw [(hr15.good h).2] at h9; exact h9.1
    refine ⟨(acc ++ [x15], v16, k15, e15), ⟨hk15, he15, fun h => ?_, fun h => hst _ _ _ (.skip h _ _), fun h => ⟨m, ?_, fun z k' e' h2 => hst _ _ _ ?_⟩⟩, ?_, subA (.refl _) (.refl _) (by intro x hx; simp only [List.mem_append, List.mem_cons, List.not_mem_nil, or_false] at hx ⊢; rcases hx with h | h <;> simp [h]) (sub_cons rfl (Wk.refl _) (sub_cons rfl (Wk.refl _) sub_nil))⟩
    ·have := hgo h; show (acc ++ [_]).length ≤ k15; simp; omega
    ·have := hgo h; show l.length ≤ m + k15; omega
    ·rw [show e15 = 0 from h]; exact h2
    ·show (if e15 = 0 then _ else _) < (if (0 : Nat) = 0 then _ else _)
     by_cases h : e15 = 0
     ·have := hgo h; rw [if_pos h, if_pos rfl]; show l.length - k15 + 1 < l.length - k0 + 1; omega
     ·rw [if_neg h, if_pos rfl]; show 0 < l.length - k0 + 1; omega
  ·refine aw_seq ?_
   refine sqrg ?_
   refine wmv rfl rfl rfl rfl rfl ?_
   refine wyy rfl rfl rfl (ay_nilCheck rfl rfl) ?_
   refine wyy rfl rfl rfl (ay_fieldAddr 3 3 rfl rfl Tryd.runUnderlying73 rfl Tryd.sizeOf36 (by decide) rfl) ?_
   refine wyy rfl rfl rfl (ay_load_box (A) rfl rfl rfl Tryd.isAgg36 Tryd.sizeOf36 rfl (fun _ h => by cases h)) ?_
   refine wyy rfl rfl rfl (ay_cmp false rfl rfl rfl (eq_nat0 h0)) ?_
   refine wmv rfl rfl rfl rfl rfl ?_
   refine wskip rfl rfl (by decide) ?_
   refine wskip rfl rfl (by decide) ?_
   refine wskip rfl rfl (by decide) ?_
   refine wyy rfl rfl rfl (ay_pick rfl rfl rfl) ?_
   refine nlnm ?_
   refine aw_condF rfl rfl ?_
   refine aw_exit ?_
   refine then_exit ?_
   refine then_exit ?_
   refine inB_exit ?_
   refine then_normal ?_
   refine sqrg ?_
   refine wmv rfl rfl rfl rfl rfl ?_
   refine wyy rfl rfl rfl (ay_nilCheck rfl rfl) ?_
   refine wyy rfl rfl rfl (ay_fieldAddr 2 2 rfl rfl Tryd.runUnderlying73 rfl Tryd.sizeOf3 (by decide) rfl) ?_
   refine wyy rfl rfl rfl (ay_load_box (A) rfl rfl rfl Tryd.isAgg3 Tryd.sizeOf3 rfl (fun _ h => by cases h)) ?_
   refine wyy rfl rfl rfl (ay_subR ((dp : Nat) : Int) rfl rfl rfl (by omega) (by omega) (by omega)) ?_
   refine wyy rfl rfl rfl (ay_nilCheck rfl rfl) ?_
   refine wyy rfl rfl rfl (ay_fieldAddr 2 2 rfl rfl Tryd.runUnderlying73 rfl Tryd.sizeOf3 (by decide) rfl) ?_
   refine wo rfl (wstA0 rfl rfl rfl rfl rfl Tryd.sizeOf3 rfl (Nat.le_of_ble_eq_true rfl) rfl (by simp) (fun _ => by simp) ?_)
   refine nx ?_
   refine wmv rfl rfl rfl rfl rfl ?_
   refine wag rfl rfl rfl rfl rfl ?_
   refine nlnm ?_
   refine wfrz 2 rfl ?_
   refine aw_ret ?_
   exact ⟨.inr rfl, _, (PSt A B rw P l (k0) (dp) (e0)), (res_one rfl (resv_tmp rfl)), subS_of (.refl _) (.refl _), ⟨acc, k0, e0, rfl, hn0 h0, hk0, he0, rfl⟩⟩
theorem blockP_all (l : List Tok) (hok : TOk l) : ∀ (d : Nat), d ≤ 24 → ∀ (A B : List Box) (rw : List ORow) (P k e : Nat), k < l.length → e < 16 → ACall Tryd.prog 97 [.c (.val (.pointer (some ⟨P, 0, none⟩)))] [P] (PSt A B rw P l k (24 - d) e) (PAn A B rw P l (24 - d) (fun x => .c (.sl x.length (x.flatMap encS))) e k (blockP l d k))
 | 0, _, A, B, rw, P, k, e, hk, he => blockP_0 A B rw P l k e hok hk he
 | d + 1, hd, A, B, rw, P, k, e, hk, he => by
  have hb : ∀ k, k < l.length → (blockP l d k).In l k := fun k hk => blockP_in hok.last d k hk
  exact blockP_s A B rw P l k e (24 - (d + 1)) (stmtP l (blockP l d)) (by omega) (fun k hk => stmtP_in hok.last hb hk) (fun A B rw P k hk =>
   stmtP_c A B rw P l k (24 - (d + 1) + 1) (blockP l d) (fun A B rw P k e hk he => by
    have h8 := blockP_all l hok d (by omega) A B rw P k e hk he
    have e1 : 24 - (d + 1) + 1 = 24 - d := by omega
    rw [e1]; exact h8) hok hk) hok hk he
end Go.Proofs.YtflcnehhpmjipaaDoor
namespace Go.Proofs.YtflcnehhpmjipaaDoor
open Go.RowKit
theorem Run.alt {α β : Type} {e k k2 e2 : Nat} {r : PRes α} {u : α} {y : β} {f : α → β} (h : Run e k r u k2 e2) (h1 : e = 0 → y = f u) : Run e k (r.bind fun x k => .ok (f x) k) y k2 e2 := by
 by_cases h0 : e = 0
 ·rw [h1 h0]; exact h.map
 ·rcases h with ⟨_, rfl, rfl⟩ | ⟨h, _⟩
  ·exact .skip h0 _ _
  ·exact absurd h h0
theorem Run.badP {α β : Type} {e1 k k2 e2 : Nat} {r : PRes α} {r' : PRes β} {y : β} {x : α} (h : Run e1 k r' y k2 e2) (h1 : e1 ≠ 0) (hr : r = .err k e1) (k0 : Nat) : Run 0 k0 r x k2 e2 := by
 rcases h with ⟨_, rfl, rfl⟩ | ⟨h, _⟩
 ·exact .err _ _ _ _ hr h1
 ·exact absurd h h1
theorem num_ok {l : List Tok} {k x k2 : Nat} (hok : TOk l) (hk : k < l.length) (h : numP l k = .ok x k2) : x ≤ 9223372036854775807 ∧ k2 = k + 1 := by
 unfold numP at h
 rw [tokAt_lt hk] at h
 split at h
 ·cases h; exact ⟨(hok.reg _ (List.getElem_mem hk)).2.2, rfl⟩
 ·cases h
theorem mul1 {x : Nat} (h : x ≤ 9223372036854775807) : IntKind.i64.wrap (1 * (x : Int)) = (x : Int) := by rw [wrap64 (by omega) (by omega)]; omega
theorem mulm1 {x : Nat} (h : x ≤ 9223372036854775807) : IntKind.i64.wrap (-1 * (x : Int)) = -(x : Int) := by rw [wrap64 (by omega) (by omega)]; omega
set_option maxRecDepth 100000 in
set_option maxHeartbeats 1600000 in
theorem globalP_c (A B : List Box) (rw : List ORow) (P : Nat) (l : List Tok) (k dp e : Nat) (hok : TOk l) (hk : k < l.length) (he : e < 16) : ACall Tryd.prog 69 [.c (.val (.pointer (some ⟨P, 0, none⟩)))] [P] (PSt A B rw P l k dp e) (PAn A B rw P l dp (fun x => .agg (encG x)) e k (globalP l k)) := by
 have hlen := hok.len
 refine acall_body Tryd.func69 rfl (Nat.le_of_ble_eq_true rfl) ?_
 show AWp Tryd.prog _ ⟨20, [P], ⟨A ++ ⟨P, 73, [.sl l.length (l.flatMap encT), .val (.int .i64 ((k : Nat) : Int)), .val (.int .i64 ((dp : Nat) : Int)), .val (.int .i64 ((e : Nat) : Int))]⟩ :: B, rw⟩, [(0, .c (.val (.pointer (some ⟨P, 0, none⟩))))]⟩ _
 refine sqrg ?_
 refine wo rfl (walloc rfl rfl (by decide) Tryd.zeroValue83 rfl fun b1 => ?_)
 refine nx ?_
 refine wmv rfl rfl rfl rfl rfl ?_
 refine wcP rfl rfl rfl rfl Tryd.call90 rfl (nameP_c (_ :: A) _ _ _ l k dp e hok hk he) (by simp) (by simp [Sto.bl]) ?_
 rintro t1 s1 ⟨x1, k1, e1, rfl, hr1, hk1, he1, rfl⟩
 refine wyy rfl rfl rfl (ay_build Tryd.t83 [(0, 1), (1, 1)] rfl (.cons rfl .nil) Tryd.underlying83 (by kernel_rfl) rfl (by kernel_rfl) rfl rfl) ?_
 refine wo rfl (walloc rfl rfl (by decide) Tryd.zeroValue83 rfl fun b2 => ?_)
 refine wo rfl (wst0 rfl rfl rfl rfl rfl Tryd.sizeOf83 rfl (Nat.le_of_ble_eq_true rfl) (splice_all rfl) (by simp) (fun _ => by simp) ?_)
 refine nlnm ?_
 refine aw_seq ?_
 refine sqrg ?_
 refine wmv rfl rfl rfl rfl rfl ?_
 refine wcP rfl rfl rfl rfl Tryd.call91 rfl (accept_c (_ :: _ :: A) _ _ _ l k1 dp e1 [61] hok hk1) (by simp) (by simp [Sto.bl]) ?_
 rintro t2 s2 (⟨rfl, ha2, hm2, rfl, rfl⟩ | ⟨ha2, rfl, rfl⟩)
 ·refine nlnm ?_
  refine aw_condT rfl rfl ?_
  refine sqrg ?_
  refine wag rfl rfl rfl rfl rfl ?_
  refine nlnm ?_
  refine aw_seq ?_
  refine sqrg ?_
  refine wmv rfl rfl rfl rfl rfl ?_
  refine wcP rfl rfl rfl rfl Tryd.call91 rfl (accept_c (_ :: _ :: A) _ _ _ l (k1 + 1) dp 0 [45] hok hm2) (by simp) (by simp [Sto.bl]) ?_
  rintro t4 s4 (⟨-, ha4, hm4, rfl, rfl⟩ | ⟨ha4, rfl, rfl⟩)
  ·refine nlnm ?_
   refine aw_condT rfl rfl ?_
   refine aw_region ?_
   refine wag rfl rfl rfl rfl rfl ?_
   refine nlnm ?_
   refine aw_region ?_
   refine wmv rfl rfl rfl rfl rfl ?_
   refine wmv rfl rfl rfl rfl rfl ?_
   refine wcP rfl rfl rfl rfl Tryd.call92 rfl (numP_c (_ :: _ :: A) _ _ _ l ((k1 + 1) + 1) dp 0 hok hm4 (by decide)) (by simp) (by simp [Sto.bl]) ?_
   rintro t6 s6 ⟨x6, k6, e6, rfl, hr6, hk6, he6, rfl⟩
   refine wyy rfl rfl rfl (ay_arith rfl rfl rfl rfl) ?_
   refine wyy rfl rfl rfl (ay_fieldAddr 1 1 rfl rfl Tryd.runUnderlying83 rfl Tryd.sizeOf3 (by decide) rfl) ?_
   refine wo rfl (wst0 rfl rfl rfl rfl rfl Tryd.sizeOf3 rfl (Nat.le_of_ble_eq_true rfl) rfl (by simp) (fun _ => by simp) ?_)
   refine nx ?_
   refine wmv rfl rfl rfl rfl rfl ?_
   refine wcP rfl rfl rfl rfl Tryd.call93 rfl (signP_c (_ :: _ :: A) _ _ _ l k6 dp e6 [59] hok hk6 he6) (by simp) (by simp [Sto.bl]) ?_
   rintro t7 s7 ⟨x7, k7, e7, rfl, hr7, hk7, he7, rfl⟩
   refine nx ?_
   refine wyy rfl rfl rfl (ay_load_box [] rfl rfl rfl Tryd.isAgg83 Tryd.sizeOf83 rfl (fun _ h => by cases h)) ?_
   refine wo rfl (wst1 rfl rfl rfl rfl rfl Tryd.sizeOf83 rfl (Nat.le_of_ble_eq_true rfl) (splice_all rfl) (by simp) (fun _ => by simp) ?_)
   refine nlnm ?_
   refine aw_ret ?_
   exact ⟨.inr rfl, _, (PSt A B rw P l (k7) (dp) (e7)), (res_one rfl (resv_cell [_] rfl rfl Tryd.isAgg83 Tryd.sizeOf83 (pk_all rfl rfl))), subS_of (.cons _ (.cons _ (.refl _))) (.refl _), ⟨⟨x1, IntKind.i64.wrap (-1 * (x6 : Int))⟩, k7, e7, rfl, hr1.bind (.yes (fun _ => ha2) (Run.from (.yes (fun _ => ha4) (hr6.bind (f := fun (i : Nat) (k : Nat) => (wantP l [59] k).bind fun _ k => .ok (AGlobal.mk x1 (-(i : Int))) k) (hr7.alt (y := AGlobal.mk x1 (IntKind.i64.wrap (-1 * (x6 : Int)))) (f := fun _ => AGlobal.mk x1 (-((x6 : Nat) : Int))) (fun h => by rw [mulm1 (num_ok hok hm4 (hr6.good h).2).1])))))), hk7, he7, rfl⟩⟩
  ·refine nlnm ?_
   refine aw_condF rfl rfl ?_
   refine aw_skip ?_
   refine then_normal ?_
   refine aw_region ?_
   refine wmv rfl rfl rfl rfl rfl ?_
   refine wmv rfl rfl rfl rfl rfl ?_
   refine wcP rfl rfl rfl rfl Tryd.call92 rfl (numP_c (_ :: _ :: A) _ _ _ l (k1 + 1) dp 0 hok hm2 (by decide)) (by simp) (by simp [Sto.bl]) ?_
   rintro t9 s9 ⟨x9, k9, e9, rfl, hr9, hk9, he9, rfl⟩
   refine wyy rfl rfl rfl (ay_arith rfl rfl rfl rfl) ?_
   refine wyy rfl rfl rfl (ay_fieldAddr 1 1 rfl rfl Tryd.runUnderlying83 rfl Tryd.sizeOf3 (by decide) rfl) ?_
   refine wo rfl (wst0 rfl rfl rfl rfl rfl Tryd.sizeOf3 rfl (Nat.le_of_ble_eq_true rfl) rfl (by simp) (fun _ => by simp) ?_)
   refine nx ?_
   refine wmv rfl rfl rfl rfl rfl ?_
   refine wcP rfl rfl rfl rfl Tryd.call93 rfl (signP_c (_ :: _ :: A) _ _ _ l k9 dp e9 [59] hok hk9 he9) (by simp) (by simp [Sto.bl]) ?_
   rintro t10 s10 ⟨x10, k10, e10, rfl, hr10, hk10, he10, rfl⟩
   refine nx ?_
   refine wyy rfl rfl rfl (ay_load_box [] rfl rfl rfl Tryd.isAgg83 Tryd.sizeOf83 rfl (fun _ h => by cases h)) ?_
   refine wo rfl (wst1 rfl rfl rfl rfl rfl Tryd.sizeOf83 rfl (Nat.le_of_ble_eq_true rfl) (splice_all rfl) (by simp) (fun _ => by simp) ?_)
   refine nlnm ?_
   refine aw_ret ?_
   exact ⟨.inr rfl, _, (PSt A B rw P l (k10) (dp) (e10)), (res_one rfl (resv_cell [_] rfl rfl Tryd.isAgg83 Tryd.sizeOf83 (pk_all rfl rfl))), subS_of (.cons _ (.cons _ (.refl _))) (.refl _), ⟨⟨x1, IntKind.i64.wrap (1 * (x9 : Int))⟩, k10, e10, rfl, hr1.bind (.yes (fun _ => ha2) (Run.from (.no (fun _ => by rw [ha4 rfl]; decide) (hr9.bind (f := fun (i : Nat) (k : Nat) => (wantP l [59] k).bind fun _ k => .ok (AGlobal.mk x1 (i : Int)) k) (hr10.alt (y := AGlobal.mk x1 (IntKind.i64.wrap (1 * (x9 : Int)))) (f := fun _ => AGlobal.mk x1 ((x9 : Nat) : Int)) (fun h => by rw [mul1 (num_ok hok hm2 (hr9.good h).2).1])))))), hk10, he10, rfl⟩⟩
 ·refine nlnm ?_
  refine aw_condF rfl rfl ?_
  refine aw_skip ?_
  refine then_normal ?_
  refine sqrg ?_
  refine wmv rfl rfl rfl rfl rfl ?_
  refine wcP rfl rfl rfl rfl Tryd.call93 rfl (signP_c (_ :: _ :: A) _ _ _ l k1 dp e1 [59] hok hk1 he1) (by simp) (by simp [Sto.bl]) ?_
  rintro t12 s12 ⟨x12, k12, e12, rfl, hr12, hk12, he12, rfl⟩
  refine nx ?_
  refine wyy rfl rfl rfl (ay_load_box [] rfl rfl rfl Tryd.isAgg83 Tryd.sizeOf83 rfl (fun _ h => by cases h)) ?_
  refine wo rfl (wst1 rfl rfl rfl rfl rfl Tryd.sizeOf83 rfl (Nat.le_of_ble_eq_true rfl) (splice_all rfl) (by simp) (fun _ => by simp) ?_)
  refine nlnm ?_
  refine aw_ret ?_
  exact ⟨.inr rfl, _, (PSt A B rw P l (k12) (dp) (e12)), (res_one rfl (resv_cell [_] rfl rfl Tryd.isAgg83 Tryd.sizeOf83 (pk_all rfl rfl))), subS_of (.cons _ (.cons _ (.refl _))) (.refl _), ⟨⟨x1, 0⟩, k12, e12, rfl, hr1.bind (.no (fun h => by rw [ha2 h]; decide) (hr12.map (f := fun _ => AGlobal.mk x1 0))), hk12, he12, rfl⟩⟩
set_option maxRecDepth 100000 in
set_option maxHeartbeats 1600000 in
theorem mutexP_true (A B : List Box) (rw : List ORow) (P : Nat) (l : List Tok) (k dp e : Nat) (hok : TOk l) (hk : k < l.length) (he : e < 16) : ACall Tryd.prog 71 [.c (.val (.pointer (some ⟨P, 0, none⟩))), .c (.val (.bool true))] [P] (PSt A B rw P l k dp e) (PAn A B rw P l dp (fun x => .agg (encM x)) e k (mutexP l true k)) := by
 have hlen := hok.len
 refine acall_body Tryd.func71 rfl (Nat.le_of_ble_eq_true rfl) ?_
 show AWp Tryd.prog _ ⟨48, [P], ⟨A ++ ⟨P, 73, [.sl l.length (l.flatMap encT), .val (.int .i64 ((k : Nat) : Int)), .val (.int .i64 ((dp : Nat) : Int)), .val (.int .i64 ((e : Nat) : Int))]⟩ :: B, rw⟩, [(0, .c (.val (.pointer (some ⟨P, 0, none⟩)))), (1, .c (.val (.bool true)))]⟩ _
 refine sqrg ?_
 refine wo rfl (walloc rfl rfl (by decide) Tryd.zeroValue86 rfl fun b1 => ?_)
 refine nx ?_
 refine wmv rfl rfl rfl rfl rfl ?_
 refine wcP rfl rfl rfl rfl Tryd.call90 rfl (nameP_c (_ :: A) _ _ _ l k dp e hok hk he) (by simp) (by simp [Sto.bl]) ?_
 rintro t1 s1 ⟨x1, k1, e1, rfl, hr1, hk1, he1, rfl⟩
 refine wmv rfl rfl rfl rfl rfl ?_
 refine wyy rfl rfl rfl (ay_build Tryd.t86 [(0, 1), (1, 1), (2, 1)] rfl (.cons rfl (.cons rfl .nil)) Tryd.underlying86 (by kernel_rfl) rfl (by kernel_rfl) rfl rfl) ?_
 refine wo rfl (walloc rfl rfl (by decide) Tryd.zeroValue86 rfl fun b2 => ?_)
 refine wo rfl (wst0 rfl rfl rfl rfl rfl Tryd.sizeOf86 rfl (Nat.le_of_ble_eq_true rfl) (splice_all rfl) (by simp) (fun _ => by simp) ?_)
 refine nlnm ?_
 refine aw_seq ?_
 refine sqrg ?_
 refine wmv rfl rfl rfl rfl rfl ?_
 refine wyy rfl rfl rfl (ay_not rfl rfl) ?_
 refine wmv rfl rfl rfl rfl rfl ?_
 refine wskip rfl rfl (by decide) ?_
 refine wskip rfl rfl (by decide) ?_
 refine wyy rfl rfl rfl (ay_pick rfl rfl rfl) ?_
 refine nlnm ?_
 refine aw_condF rfl rfl ?_
 refine aw_skip ?_
 refine then_normal ?_
 refine sqrg ?_
 refine wmv rfl rfl rfl rfl rfl ?_
 refine wcP rfl rfl rfl rfl Tryd.call93 rfl (signP_c (_ :: _ :: A) _ _ _ l k1 dp e1 [59] hok hk1 he1) (by simp) (by simp [Sto.bl]) ?_
 rintro t3 s3 ⟨x3, k3, e3, rfl, hr3, hk3, he3, rfl⟩
 refine nx ?_
 refine wyy rfl rfl rfl (ay_load_box [] rfl rfl rfl Tryd.isAgg86 Tryd.sizeOf86 rfl (fun _ h => by cases h)) ?_
 refine wo rfl (wst1 rfl rfl rfl rfl rfl Tryd.sizeOf86 rfl (Nat.le_of_ble_eq_true rfl) (splice_all rfl) (by simp) (fun _ => by simp) ?_)
 refine nlnm ?_
 refine aw_ret ?_
 exact ⟨.inr rfl, _, (PSt A B rw P l (k3) (dp) (e3)), (res_one rfl (resv_cell [_] rfl rfl Tryd.isAgg86 Tryd.sizeOf86 (pk_all rfl rfl))), subS_of (.cons _ (.cons _ (.refl _))) (.refl _), ⟨⟨x1, true, 0⟩, k3, e3, rfl, hr1.bind (.no (fun h => by rintro ⟨h, -⟩; cases h) (hr3.map (f := fun _ => AMutex.mk x1 true 0))), hk3, he3, rfl⟩⟩
set_option maxRecDepth 100000 in
set_option maxHeartbeats 1600000 in
theorem mutexP_false (A B : List Box) (rw : List ORow) (P : Nat) (l : List Tok) (k dp e : Nat) (hok : TOk l) (hk : k < l.length) (he : e < 16) : ACall Tryd.prog 71 [.c (.val (.pointer (some ⟨P, 0, none⟩))), .c (.val (.bool false))] [P] (PSt A B rw P l k dp e) (PAn A B rw P l dp (fun x => .agg (encM x)) e k (mutexP l false k)) := by
 have hlen := hok.len
 refine acall_body Tryd.func71 rfl (Nat.le_of_ble_eq_true rfl) ?_
 show AWp Tryd.prog _ ⟨48, [P], ⟨A ++ ⟨P, 73, [.sl l.length (l.flatMap encT), .val (.int .i64 ((k : Nat) : Int)), .val (.int .i64 ((dp : Nat) : Int)), .val (.int .i64 ((e : Nat) : Int))]⟩ :: B, rw⟩, [(0, .c (.val (.pointer (some ⟨P, 0, none⟩)))), (1, .c (.val (.bool false)))]⟩ _
 refine sqrg ?_
 refine wo rfl (walloc rfl rfl (by decide) Tryd.zeroValue86 rfl fun b1 => ?_)
 refine nx ?_
 refine wmv rfl rfl rfl rfl rfl ?_
 refine wcP rfl rfl rfl rfl Tryd.call90 rfl (nameP_c (_ :: A) _ _ _ l k dp e hok hk he) (by simp) (by simp [Sto.bl]) ?_
 rintro t1 s1 ⟨x1, k1, e1, rfl, hr1, hk1, he1, rfl⟩
 refine wmv rfl rfl rfl rfl rfl ?_
 refine wyy rfl rfl rfl (ay_build Tryd.t86 [(0, 1), (1, 1), (2, 1)] rfl (.cons rfl (.cons rfl .nil)) Tryd.underlying86 (by kernel_rfl) rfl (by kernel_rfl) rfl rfl) ?_
 refine wo rfl (walloc rfl rfl (by decide) Tryd.zeroValue86 rfl fun b2 => ?_)
 refine wo rfl (wst0 rfl rfl rfl rfl rfl Tryd.sizeOf86 rfl (Nat.le_of_ble_eq_true rfl) (splice_all rfl) (by simp) (fun _ => by simp) ?_)
 refine nlnm ?_
 refine aw_seq ?_
 refine sqrg ?_
 refine wmv rfl rfl rfl rfl rfl ?_
 refine wyy rfl rfl rfl (ay_not rfl rfl) ?_
 refine wmv rfl rfl rfl rfl rfl ?_
 refine wmv rfl rfl rfl rfl rfl ?_
 refine wcP rfl rfl rfl rfl Tryd.call91 rfl (accept_c (_ :: _ :: A) _ _ _ l k1 dp e1 [91] hok hk1) (by simp) (by simp [Sto.bl]) ?_
 rintro t2 s2 (⟨rfl, ha2, hm2, rfl, rfl⟩ | ⟨ha2, rfl, rfl⟩)
 ·refine wyy rfl rfl rfl (ay_pick rfl rfl rfl) ?_
  refine nlnm ?_
  refine aw_condT rfl rfl ?_
  refine sqrg ?_
  refine wmv rfl rfl rfl rfl rfl ?_
  refine wcP rfl rfl rfl rfl Tryd.call92 rfl (numP_c (_ :: _ :: A) _ _ _ l (k1 + 1) dp 0 hok hm2 (by decide)) (by simp) (by simp [Sto.bl]) ?_
  rintro t4 s4 ⟨x4, k4, e4, rfl, hr4, hk4, he4, rfl⟩
  refine wyy rfl rfl rfl (ay_fieldAddr 2 2 rfl rfl Tryd.runUnderlying86 rfl Tryd.sizeOf3 (by decide) rfl) ?_
  refine wo rfl (wst0 rfl rfl rfl rfl rfl Tryd.sizeOf3 rfl (Nat.le_of_ble_eq_true rfl) rfl (by simp) (fun _ => by simp) ?_)
  refine nlnm ?_
  refine aw_seq ?_
  refine sqrg ?_
  rcases (show e4 ≠ 0 ∨ (e4 = 0 ∧ x4 < 1) ∨ (e4 = 0 ∧ ¬ x4 < 1 ∧ 64 < x4) ∨ (e4 = 0 ∧ ¬ x4 < 1 ∧ ¬ 64 < x4) by omega) with her | ⟨her, hs1⟩ | ⟨her, hs1, hs2⟩ | ⟨her, hs1, hs2⟩
  ·skip
   refine wmv rfl rfl rfl rfl rfl ?_
   refine wyy rfl rfl rfl (ay_nilCheck rfl rfl) ?_
   refine wyy rfl rfl rfl (ay_fieldAddr 3 3 rfl rfl Tryd.runUnderlying73 rfl Tryd.sizeOf36 (by decide) rfl) ?_
   refine wyy rfl rfl rfl (ay_load_box (_ :: _ :: A) rfl rfl rfl Tryd.isAgg36 Tryd.sizeOf36 rfl (fun _ h => by cases h)) ?_
   refine wyy rfl rfl rfl (ay_cmp false rfl rfl rfl (eq_nat0 her)) ?_
   refine wmv rfl rfl rfl rfl rfl ?_
   refine wskip rfl rfl (by decide) ?_
   refine wskip rfl rfl (by decide) ?_
   refine wskip rfl rfl (by decide) ?_
   refine wskip rfl rfl (by decide) ?_
   refine wskip rfl rfl (by decide) ?_
   refine wskip rfl rfl (by decide) ?_
   refine wskip rfl rfl (by decide) ?_
   refine wskip rfl rfl (by decide) ?_
   refine wyy rfl rfl rfl (ay_pick rfl rfl rfl) ?_
   refine nlnm ?_
   refine aw_condF rfl rfl ?_
   refine aw_skip ?_
   refine then_normal ?_
   refine aw_region ?_
   refine wmv rfl rfl rfl rfl rfl ?_
   refine wcP rfl rfl rfl rfl Tryd.call93 rfl (signP_c (_ :: _ :: A) _ _ _ l k4 dp e4 [93] hok hk4 he4) (by simp) (by simp [Sto.bl]) ?_
   rintro t6 s6 ⟨x6, k6, e6, rfl, hr6, hk6, he6, rfl⟩
   refine nx ?_
   refine wmv rfl rfl rfl rfl rfl ?_
   refine wcP rfl rfl rfl rfl Tryd.call93 rfl (signP_c (_ :: _ :: A) _ _ _ l k6 dp e6 [59] hok hk6 he6) (by simp) (by simp [Sto.bl]) ?_
   rintro t7 s7 ⟨x7, k7, e7, rfl, hr7, hk7, he7, rfl⟩
   refine nx ?_
   refine wyy rfl rfl rfl (ay_load_box [] rfl rfl rfl Tryd.isAgg86 Tryd.sizeOf86 rfl (fun _ h => by cases h)) ?_
   refine wo rfl (wst1 rfl rfl rfl rfl rfl Tryd.sizeOf86 rfl (Nat.le_of_ble_eq_true rfl) (splice_all rfl) (by simp) (fun _ => by simp) ?_)
   refine nlnm ?_
   refine aw_ret ?_
   exact ⟨.inr rfl, _, (PSt A B rw P l (k7) (dp) (e7)), (res_one rfl (resv_cell [_] rfl rfl Tryd.isAgg86 Tryd.sizeOf86 (pk_all rfl rfl))), subS_of (.cons _ (.cons _ (.refl _))) (.refl _), ⟨⟨x1, false, x4⟩, k7, e7, rfl, hr1.bind (.yes (fun _ => ⟨rfl, ha2⟩) (Run.from (Run.bind (x := x4) (hr4.bind (.skip her _ _)) (hr6.bind (hr7.map (f := fun _ => AMutex.mk x1 false x4)))))), hk7, he7, rfl⟩⟩
  ·skip
   have hnum := num_ok hok hm2 (hr4.good her).2
   have hsz : (x4 < 1 ∨ 64 < x4) := by omega
   refine wmv rfl rfl rfl rfl rfl ?_
   refine wyy rfl rfl rfl (ay_nilCheck rfl rfl) ?_
   refine wyy rfl rfl rfl (ay_fieldAddr 3 3 rfl rfl Tryd.runUnderlying73 rfl Tryd.sizeOf36 (by decide) rfl) ?_
   refine wyy rfl rfl rfl (ay_load_box (_ :: _ :: A) rfl rfl rfl Tryd.isAgg36 Tryd.sizeOf36 rfl (fun _ h => by cases h)) ?_
   refine wyy rfl rfl rfl (ay_cmp true rfl rfl rfl (by rw [her]; rfl)) ?_
   refine wmv rfl rfl rfl rfl rfl ?_
   refine wyy rfl rfl rfl (ay_fieldAddr 2 2 rfl rfl Tryd.runUnderlying86 rfl Tryd.sizeOf3 (by decide) rfl) ?_
   refine wyy rfl rfl rfl (ay_load_box [] rfl rfl rfl Tryd.isAgg3 Tryd.sizeOf3 rfl (fun _ h => by cases h)) ?_
   refine wyy rfl rfl rfl (ay_cmp true rfl rfl rfl (by simp [cmpR]; omega)) ?_
   refine wmv rfl rfl rfl rfl rfl ?_
   refine wskip rfl rfl (by decide) ?_
   refine wskip rfl rfl (by decide) ?_
   refine wskip rfl rfl (by decide) ?_
   refine wyy rfl rfl rfl (ay_pick rfl rfl rfl) ?_
   refine wyy rfl rfl rfl (ay_pick rfl rfl rfl) ?_
   refine nlnm ?_
   refine aw_condT rfl rfl ?_
   refine sqrg ?_
   refine wmv rfl rfl rfl rfl rfl ?_
   refine wyy rfl rfl rfl (ay_nilCheck rfl rfl) ?_
   refine wyy rfl rfl rfl (ay_fieldAddr 1 1 rfl rfl Tryd.runUnderlying73 rfl Tryd.sizeOf3 (by decide) rfl) ?_
   refine wyy rfl rfl rfl (ay_load_box (_ :: _ :: A) rfl rfl rfl Tryd.isAgg3 Tryd.sizeOf3 rfl (fun _ h => by cases h)) ?_
   refine wyy rfl rfl rfl (ay_subR (((k1 + 1) : Nat) : Int) rfl rfl rfl (by rw [hnum.2]; omega) (by omega) (by omega)) ?_
   refine wyy rfl rfl rfl (ay_nilCheck rfl rfl) ?_
   refine wyy rfl rfl rfl (ay_fieldAddr 1 1 rfl rfl Tryd.runUnderlying73 rfl Tryd.sizeOf3 (by decide) rfl) ?_
   refine wo rfl (wstA2 rfl rfl rfl rfl rfl Tryd.sizeOf3 rfl (Nat.le_of_ble_eq_true rfl) rfl (by simp) (fun _ => by simp) ?_)
   refine nlnm ?_
   refine aw_region ?_
   refine wmv rfl rfl rfl rfl rfl ?_
   refine wcP rfl rfl rfl rfl Tryd.call68 rfl (failP_c (_ :: _ :: A) _ _ _ l (k1 + 1) dp e4 3) (by simp) (by simp [Sto.bl]) ?_
   rintro t9 s9 ⟨e9, hf9, rfl, rfl⟩
   obtain rfl := hf9.1 her
   refine nlnm ?_
   refine aw_region ?_
   refine wmv rfl rfl rfl rfl rfl ?_
   refine wcP rfl rfl rfl rfl Tryd.call93 rfl (signP_c (_ :: _ :: A) _ _ _ l (k1 + 1) dp 3 [93] hok hm2 (by decide)) (by simp) (by simp [Sto.bl]) ?_
   rintro t10 s10 ⟨x10, k10, e10, rfl, hr10, hk10, he10, rfl⟩
   refine nx ?_
   refine wmv rfl rfl rfl rfl rfl ?_
   refine wcP rfl rfl rfl rfl Tryd.call93 rfl (signP_c (_ :: _ :: A) _ _ _ l k10 dp e10 [59] hok hk10 he10) (by simp) (by simp [Sto.bl]) ?_
   rintro t11 s11 ⟨x11, k11, e11, rfl, hr11, hk11, he11, rfl⟩
   refine nx ?_
   refine wyy rfl rfl rfl (ay_load_box [] rfl rfl rfl Tryd.isAgg86 Tryd.sizeOf86 rfl (fun _ h => by cases h)) ?_
   refine wo rfl (wst1 rfl rfl rfl rfl rfl Tryd.sizeOf86 rfl (Nat.le_of_ble_eq_true rfl) (splice_all rfl) (by simp) (fun _ => by simp) ?_)
   refine nlnm ?_
   refine aw_ret ?_
   have hszr : Run 0 (k1 + 1) (sizeP l (k1 + 1)) x4 (k1 + 1) 3 := .err _ _ _ _ (by unfold sizeP; rw [(hr4.good her).2]; show (if _ then _ else _) = _; rw [if_pos hsz]) (by decide)
   exact ⟨.inr rfl, _, (PSt A B rw P l (k11) (dp) (e11)), (res_one rfl (resv_cell [_] rfl rfl Tryd.isAgg86 Tryd.sizeOf86 (pk_all rfl rfl))), subS_of (.cons _ (.cons _ (.refl _))) (.refl _), ⟨⟨x1, false, x4⟩, k11, e11, rfl, hr1.bind (.yes (fun _ => ⟨rfl, ha2⟩) (Run.from (Run.bind (x := x4) hszr (hr10.bind (hr11.map (f := fun _ => AMutex.mk x1 false x4)))))), hk11, he11, rfl⟩⟩
  ·skip
   have hnum := num_ok hok hm2 (hr4.good her).2
   have hsz : (x4 < 1 ∨ 64 < x4) := by omega
   refine wmv rfl rfl rfl rfl rfl ?_
   refine wyy rfl rfl rfl (ay_nilCheck rfl rfl) ?_
   refine wyy rfl rfl rfl (ay_fieldAddr 3 3 rfl rfl Tryd.runUnderlying73 rfl Tryd.sizeOf36 (by decide) rfl) ?_
   refine wyy rfl rfl rfl (ay_load_box (_ :: _ :: A) rfl rfl rfl Tryd.isAgg36 Tryd.sizeOf36 rfl (fun _ h => by cases h)) ?_
   refine wyy rfl rfl rfl (ay_cmp true rfl rfl rfl (by rw [her]; rfl)) ?_
   refine wmv rfl rfl rfl rfl rfl ?_
   refine wyy rfl rfl rfl (ay_fieldAddr 2 2 rfl rfl Tryd.runUnderlying86 rfl Tryd.sizeOf3 (by decide) rfl) ?_
   refine wyy rfl rfl rfl (ay_load_box [] rfl rfl rfl Tryd.isAgg3 Tryd.sizeOf3 rfl (fun _ h => by cases h)) ?_
   refine wyy rfl rfl rfl (ay_cmp false rfl rfl rfl (by simp [cmpR]; omega)) ?_
   refine wmv rfl rfl rfl rfl rfl ?_
   refine wyy rfl rfl rfl (ay_fieldAddr 2 2 rfl rfl Tryd.runUnderlying86 rfl Tryd.sizeOf3 (by decide) rfl) ?_
   refine wyy rfl rfl rfl (ay_load_box [] rfl rfl rfl Tryd.isAgg3 Tryd.sizeOf3 rfl (fun _ h => by cases h)) ?_
   refine wyy rfl rfl rfl (ay_cmp true rfl rfl rfl (by simp [cmpR]; omega)) ?_
   refine wyy rfl rfl rfl (ay_pick rfl rfl rfl) ?_
   refine wyy rfl rfl rfl (ay_pick rfl rfl rfl) ?_
   refine nlnm ?_
   refine aw_condT rfl rfl ?_
   refine sqrg ?_
   refine wmv rfl rfl rfl rfl rfl ?_
   refine wyy rfl rfl rfl (ay_nilCheck rfl rfl) ?_
   refine wyy rfl rfl rfl (ay_fieldAddr 1 1 rfl rfl Tryd.runUnderlying73 rfl Tryd.sizeOf3 (by decide) rfl) ?_
   refine wyy rfl rfl rfl (ay_load_box (_ :: _ :: A) rfl rfl rfl Tryd.isAgg3 Tryd.sizeOf3 rfl (fun _ h => by cases h)) ?_
   refine wyy rfl rfl rfl (ay_subR (((k1 + 1) : Nat) : Int) rfl rfl rfl (by rw [hnum.2]; omega) (by omega) (by omega)) ?_
   refine wyy rfl rfl rfl (ay_nilCheck rfl rfl) ?_
   refine wyy rfl rfl rfl (ay_fieldAddr 1 1 rfl rfl Tryd.runUnderlying73 rfl Tryd.sizeOf3 (by decide) rfl) ?_
   refine wo rfl (wstA2 rfl rfl rfl rfl rfl Tryd.sizeOf3 rfl (Nat.le_of_ble_eq_true rfl) rfl (by simp) (fun _ => by simp) ?_)
   refine nlnm ?_
   refine aw_region ?_
   refine wmv rfl rfl rfl rfl rfl ?_
   refine wcP rfl rfl rfl rfl Tryd.call68 rfl (failP_c (_ :: _ :: A) _ _ _ l (k1 + 1) dp e4 3) (by simp) (by simp [Sto.bl]) ?_
   rintro t13 s13 ⟨e13, hf13, rfl, rfl⟩
   obtain rfl := hf13.1 her
   refine nlnm ?_
   refine aw_region ?_
   refine wmv rfl rfl rfl rfl rfl ?_
   refine wcP rfl rfl rfl rfl Tryd.call93 rfl (signP_c (_ :: _ :: A) _ _ _ l (k1 + 1) dp 3 [93] hok hm2 (by decide)) (by simp) (by simp [Sto.bl]) ?_
   rintro t14 s14 ⟨x14, k14, e14, rfl, hr14, hk14, he14, rfl⟩
   refine nx ?_
   refine wmv rfl rfl rfl rfl rfl ?_
   refine wcP rfl rfl rfl rfl Tryd.call93 rfl (signP_c (_ :: _ :: A) _ _ _ l k14 dp e14 [59] hok hk14 he14) (by simp) (by simp [Sto.bl]) ?_
   rintro t15 s15 ⟨x15, k15, e15, rfl, hr15, hk15, he15, rfl⟩
   refine nx ?_
   refine wyy rfl rfl rfl (ay_load_box [] rfl rfl rfl Tryd.isAgg86 Tryd.sizeOf86 rfl (fun _ h => by cases h)) ?_
   refine wo rfl (wst1 rfl rfl rfl rfl rfl Tryd.sizeOf86 rfl (Nat.le_of_ble_eq_true rfl) (splice_all rfl) (by simp) (fun _ => by simp) ?_)
   refine nlnm ?_
   refine aw_ret ?_
   have hszr : Run 0 (k1 + 1) (sizeP l (k1 + 1)) x4 (k1 + 1) 3 := .err _ _ _ _ (by unfold sizeP; rw [(hr4.good her).2]; show (if _ then _ else _) = _; rw [if_pos hsz]) (by decide)
   exact ⟨.inr rfl, _, (PSt A B rw P l (k15) (dp) (e15)), (res_one rfl (resv_cell [_] rfl rfl Tryd.isAgg86 Tryd.sizeOf86 (pk_all rfl rfl))), subS_of (.cons _ (.cons _ (.refl _))) (.refl _), ⟨⟨x1, false, x4⟩, k15, e15, rfl, hr1.bind (.yes (fun _ => ⟨rfl, ha2⟩) (Run.from (Run.bind (x := x4) hszr (hr14.bind (hr15.map (f := fun _ => AMutex.mk x1 false x4)))))), hk15, he15, rfl⟩⟩
  ·skip
   have hnum := num_ok hok hm2 (hr4.good her).2
   have hsz : ¬ (x4 < 1 ∨ 64 < x4) := by omega
   refine wmv rfl rfl rfl rfl rfl ?_
   refine wyy rfl rfl rfl (ay_nilCheck rfl rfl) ?_
   refine wyy rfl rfl rfl (ay_fieldAddr 3 3 rfl rfl Tryd.runUnderlying73 rfl Tryd.sizeOf36 (by decide) rfl) ?_
   refine wyy rfl rfl rfl (ay_load_box (_ :: _ :: A) rfl rfl rfl Tryd.isAgg36 Tryd.sizeOf36 rfl (fun _ h => by cases h)) ?_
   refine wyy rfl rfl rfl (ay_cmp true rfl rfl rfl (by rw [her]; rfl)) ?_
   refine wmv rfl rfl rfl rfl rfl ?_
   refine wyy rfl rfl rfl (ay_fieldAddr 2 2 rfl rfl Tryd.runUnderlying86 rfl Tryd.sizeOf3 (by decide) rfl) ?_
   refine wyy rfl rfl rfl (ay_load_box [] rfl rfl rfl Tryd.isAgg3 Tryd.sizeOf3 rfl (fun _ h => by cases h)) ?_
   refine wyy rfl rfl rfl (ay_cmp false rfl rfl rfl (by simp [cmpR]; omega)) ?_
   refine wmv rfl rfl rfl rfl rfl ?_
   refine wyy rfl rfl rfl (ay_fieldAddr 2 2 rfl rfl Tryd.runUnderlying86 rfl Tryd.sizeOf3 (by decide) rfl) ?_
   refine wyy rfl rfl rfl (ay_load_box [] rfl rfl rfl Tryd.isAgg3 Tryd.sizeOf3 rfl (fun _ h => by cases h)) ?_
   refine wyy rfl rfl rfl (ay_cmp false rfl rfl rfl (by simp [cmpR]; omega)) ?_
   refine wyy rfl rfl rfl (ay_pick rfl rfl rfl) ?_
   refine wyy rfl rfl rfl (ay_pick rfl rfl rfl) ?_
   refine nlnm ?_
   refine aw_condF rfl rfl ?_
   refine aw_skip ?_
   refine then_normal ?_
   refine aw_region ?_
   refine wmv rfl rfl rfl rfl rfl ?_
   refine wcP rfl rfl rfl rfl Tryd.call93 rfl (signP_c (_ :: _ :: A) _ _ _ l k4 dp e4 [93] hok hk4 he4) (by simp) (by simp [Sto.bl]) ?_
   rintro t17 s17 ⟨x17, k17, e17, rfl, hr17, hk17, he17, rfl⟩
   refine nx ?_
   refine wmv rfl rfl rfl rfl rfl ?_
   refine wcP rfl rfl rfl rfl Tryd.call93 rfl (signP_c (_ :: _ :: A) _ _ _ l k17 dp e17 [59] hok hk17 he17) (by simp) (by simp [Sto.bl]) ?_
   rintro t18 s18 ⟨x18, k18, e18, rfl, hr18, hk18, he18, rfl⟩
   refine nx ?_
   refine wyy rfl rfl rfl (ay_load_box [] rfl rfl rfl Tryd.isAgg86 Tryd.sizeOf86 rfl (fun _ h => by cases h)) ?_
   refine wo rfl (wst1 rfl rfl rfl rfl rfl Tryd.sizeOf86 rfl (Nat.le_of_ble_eq_true rfl) (splice_all rfl) (by simp) (fun _ => by simp) ?_)
   refine nlnm ?_
   refine aw_ret ?_
   exact ⟨.inr rfl, _, (PSt A B rw P l (k18) (dp) (e18)), (res_one rfl (resv_cell [_] rfl rfl Tryd.isAgg86 Tryd.sizeOf86 (pk_all rfl rfl))), subS_of (.cons _ (.cons _ (.refl _))) (.refl _), ⟨⟨x1, false, x4⟩, k18, e18, rfl, hr1.bind (.yes (fun _ => ⟨rfl, ha2⟩) (Run.from (Run.bind (x := x4) (hr4.bind (.no (fun _ => hsz) (Run.pure x4 _ _))) (hr17.bind (hr18.map (f := fun _ => AMutex.mk x1 false x4)))))), hk18, he18, rfl⟩⟩
 ·refine wyy rfl rfl rfl (ay_pick rfl rfl rfl) ?_
  refine nlnm ?_
  refine aw_condF rfl rfl ?_
  refine aw_skip ?_
  refine then_normal ?_
  refine sqrg ?_
  refine wmv rfl rfl rfl rfl rfl ?_
  refine wcP rfl rfl rfl rfl Tryd.call93 rfl (signP_c (_ :: _ :: A) _ _ _ l k1 dp e1 [59] hok hk1 he1) (by simp) (by simp [Sto.bl]) ?_
  rintro t20 s20 ⟨x20, k20, e20, rfl, hr20, hk20, he20, rfl⟩
  refine nx ?_
  refine wyy rfl rfl rfl (ay_load_box [] rfl rfl rfl Tryd.isAgg86 Tryd.sizeOf86 rfl (fun _ h => by cases h)) ?_
  refine wo rfl (wst1 rfl rfl rfl rfl rfl Tryd.sizeOf86 rfl (Nat.le_of_ble_eq_true rfl) (splice_all rfl) (by simp) (fun _ => by simp) ?_)
  refine nlnm ?_
  refine aw_ret ?_
  exact ⟨.inr rfl, _, (PSt A B rw P l (k20) (dp) (e20)), (res_one rfl (resv_cell [_] rfl rfl Tryd.isAgg86 Tryd.sizeOf86 (pk_all rfl rfl))), subS_of (.cons _ (.cons _ (.refl _))) (.refl _), ⟨⟨x1, false, 0⟩, k20, e20, rfl, hr1.bind (.no (fun h => by rintro ⟨-, h9⟩; rw [ha2 h] at h9; cases h9) (hr20.map (f := fun _ => AMutex.mk x1 false 0))), hk20, he20, rfl⟩⟩
set_option maxRecDepth 100000 in
set_option maxHeartbeats 1600000 in
theorem limit_yes (A B : List Box) (rw : List ORow) (P : Nat) (l : List Tok) (k dp e : Nat) (n m : Nat) (he : e < 16) (hnm : m ≤ n) : ACall Tryd.prog 67 [.c (.val (.pointer (some ⟨P, 0, none⟩))), .c (.val (.int .i64 (n : Int))), .c (.val (.int .i64 (m : Int)))] [P] (PSt A B rw P l k dp e) fun t s => ∃ e1, FailP e 3 e1 ∧ t = .tup [] ∧ s = PSt A B rw P l k dp e1 := by
 refine acall_body Tryd.func67 rfl (Nat.le_of_ble_eq_true rfl) ?_
 show AWp Tryd.prog _ ⟨11, [P], ⟨A ++ ⟨P, 73, [.sl l.length (l.flatMap encT), .val (.int .i64 ((k : Nat) : Int)), .val (.int .i64 ((dp : Nat) : Int)), .val (.int .i64 ((e : Nat) : Int))]⟩ :: B, rw⟩, [(0, .c (.val (.pointer (some ⟨P, 0, none⟩)))), (1, .c (.val (.int .i64 (n : Int)))), (2, .c (.val (.int .i64 (m : Int))))]⟩ _
 refine sqrg ?_
 refine wmv rfl rfl rfl rfl rfl ?_
 refine wmv rfl rfl rfl rfl rfl ?_
 refine wyy rfl rfl rfl (ay_cmp true rfl rfl rfl (by simp [cmpR]; omega)) ?_
 refine nlnm ?_
 refine aw_condT rfl rfl ?_
 refine aw_region ?_
 refine wmv rfl rfl rfl rfl rfl ?_
 refine wcP rfl rfl rfl rfl Tryd.call68 rfl (failP_c (A) _ _ _ l k dp e 3) (by simp) (by simp [Sto.bl]) ?_
 rintro t2 s2 ⟨e2, hf2, rfl, rfl⟩
 refine aops_nil ?_
 exact ⟨.inl rfl, _, (PSt A B rw P l (k) (dp) (e2)), res_none rfl, subS_of (.refl _) (.refl _), ⟨_, hf2, rfl, rfl⟩⟩
set_option maxRecDepth 100000 in
set_option maxHeartbeats 1600000 in
theorem limit_no (A B : List Box) (rw : List ORow) (P : Nat) (l : List Tok) (k dp e : Nat) (n m : Nat) (he : e < 16) (hnm : n < m) : ACall Tryd.prog 67 [.c (.val (.pointer (some ⟨P, 0, none⟩))), .c (.val (.int .i64 (n : Int))), .c (.val (.int .i64 (m : Int)))] [P] (PSt A B rw P l k dp e) fun t s => t = .tup [] ∧ s = PSt A B rw P l k dp e := by
 refine acall_body Tryd.func67 rfl (Nat.le_of_ble_eq_true rfl) ?_
 show AWp Tryd.prog _ ⟨11, [P], ⟨A ++ ⟨P, 73, [.sl l.length (l.flatMap encT), .val (.int .i64 ((k : Nat) : Int)), .val (.int .i64 ((dp : Nat) : Int)), .val (.int .i64 ((e : Nat) : Int))]⟩ :: B, rw⟩, [(0, .c (.val (.pointer (some ⟨P, 0, none⟩)))), (1, .c (.val (.int .i64 (n : Int)))), (2, .c (.val (.int .i64 (m : Int))))]⟩ _
 refine sqrg ?_
 refine wmv rfl rfl rfl rfl rfl ?_
 refine wmv rfl rfl rfl rfl rfl ?_
 refine wyy rfl rfl rfl (ay_cmp false rfl rfl rfl (by simp [cmpR]; omega)) ?_
 refine nlnm ?_
 refine aw_condF rfl rfl ?_
 refine aw_skip ?_
 exact ⟨.inl rfl, _, (PSt A B rw P l (k) (dp) (e)), res_none rfl, subS_of (.refl _) (.refl _), rfl, rfl⟩
end Go.Proofs.YtflcnehhpmjipaaDoor
