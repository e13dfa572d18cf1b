import Derived.Test.YtflcnehhpmjipaaGreatDoorW6J
import Derived.Test.YtflcnehhpmjipaaGreatDoorP2J
set_option linter.unusedVariables false
set_option linter.unusedSimpArgs false
namespace Go.Proofs.YtflcnehhpmjipaaGreatDoor
open Go.RowKit
set_option synthInstance.maxHeartbeats 1000000
set_option synthInstance.maxSize 1000000
set_option linter.all false
set_option maxRecDepth 100000 in
set_option maxHeartbeats 1600000 in
theorem blockP_0 (A B : List Box) (rw : List ORow) (P : Nat) (l : List Tok) (k e : Nat) (hok : TOk l) (hk : k < l.length) (he : e < 16) : ACall Tryz.prog 44 [.c (.val (.pointer (some ⟨P, 0, none⟩)))] [P] (PSt A B rw P l k 24 e) (PAn A B rw P l 24 (fun x => .c (.sl x.length (x.flatMap encS))) e k (blockP l 0 k)) := by
 have hlen := hok.len
 refine acall_body Tryz.func44 rfl (Nat.le_of_ble_eq_true rfl) ?_
 show AWp Tryz.prog _ ⟨47, [P], ⟨A ++ ⟨P, 70, [.sl l.length (l.flatMap encT), .val (.int .i64 ((k : Nat) : Int)), .val (.int .i64 ((24 : Nat) : Int)), .val (.int .i64 ((e : Nat) : Int))]⟩ :: B, rw⟩, [(0, .c (.val (.pointer (some ⟨P, 0, none⟩))))]⟩ _
 refine go 9 ?_
 refine wcP rfl rfl rfl rfl Tryz.call66 rfl (kindP_s (A) _ _ _ l k 24 e [123] hk) (by simp) (by simp [Sto.bl]) ?_
 rintro t1 s1 (⟨rfl, ha1, rfl, rfl⟩ | ⟨ha1, rfl, rfl⟩)
 ·refine go 5 ?_
  refine wyy rfl rfl rfl (ay_cmp true rfl rfl rfl (by rfl)) ?_
  refine go 6 ?_
  refine wcP rfl rfl rfl rfl Tryz.call68 rfl (failP_c (A) _ _ _ l k 24 0 3) (by simp) (by simp [Sto.bl]) ?_
  rintro t3 s3 ⟨e3, hf3, rfl, rfl⟩
  obtain rfl := hf3.1 rfl
  refine go 5 ?_
  refine wcP rfl rfl rfl rfl Tryz.call73 rfl (signP_c (A) _ _ _ l k 24 3 [123] hok hk (by decide)) (by simp) (by simp [Sto.bl]) ?_
  rintro t4 s4 ⟨x4, k4, e4, rfl, hr4, hk4, he4, rfl⟩
  refine go 13 ?_
  refine wyy rfl rfl rfl (ay_add rfl rfl rfl (by omega) (by omega)) ?_
  refine go 7 ?_
  have hbad : e4 ≠ 0 ∧ Run 0 k (blockP l 0 k) [] k4 e4 := by
   rcases hr4 with ⟨_, rfl, rfl⟩ | ⟨h, _⟩
   ·exact ⟨by decide, .err _ _ _ _ (by unfold blockP; rw [if_pos ha1]) (by decide)⟩
   ·exact absurd h (by decide)
  refine wrow 93 11 ?_
  refine aw_loop (fun g : List AStmt × Value × Nat × Nat => (⟨47, rowB g.2.1 ++ [P], ⟨A ++ ⟨P, 70, [.sl l.length (l.flatMap encT), .val (.int .i64 (((g.2.2.1) : Nat) : Int)), .val (.int .i64 (((25) : Nat) : Int)), .val (.int .i64 (((g.2.2.2) : Nat) : Int))]⟩ :: B, ⟨g.2.1, 93, 11, (g.1).length, (g.1).flatMap encS⟩ :: rw⟩, [(3, .c (.val g.2.1)), (0, .c (.val (.pointer (some ⟨P, 0, none⟩))))]⟩ : AS)) (fun g => g.2.2.1 < l.length ∧ g.2.2.2 < 16 ∧ g.2.2.2 ≠ 0 ∧ Run 0 k (blockP l 0 k) g.1 g.2.2.1 g.2.2.2) (fun g => if g.2.2.2 = 0 then l.length - g.2.2.1 + 1 else 0) ([], .slice none 0 0, k4, e4) (subA (.refl _) (.refl _) (fun _ h => h) (sub_cons rfl (Wk.refl _) (sub_cons rfl (Wk.refl _) sub_nil))) ⟨hk4, he4, hbad.1, hbad.2⟩ ?_
  rintro ⟨acc, v0, k0, e0⟩ ⟨hk0, he0, hz0, hn0⟩
  dsimp only at hk0 he0 hz0 hn0
  show AWp Tryz.prog _ (⟨47, rowB v0 ++ [P], ⟨A ++ ⟨P, 70, [.sl l.length (l.flatMap encT), .val (.int .i64 (((k0) : Nat) : Int)), .val (.int .i64 (((25) : Nat) : Int)), .val (.int .i64 (((e0) : Nat) : Int))]⟩ :: B, ⟨v0, 93, 11, (acc).length, (acc).flatMap encS⟩ :: rw⟩, [(3, .c (.val v0)), (0, .c (.val (.pointer (some ⟨P, 0, none⟩))))]⟩ : AS) _
  have h0 := hz0
  refine go 7 ?_
  refine wyy rfl rfl rfl (ay_cmp false rfl rfl rfl (eq_nat0 h0)) ?_
  refine go 19 ?_
  refine wyy rfl rfl rfl (ay_subR ((24 : Nat) : Int) rfl rfl rfl rfl (by omega) (by omega)) ?_
  refine go 11 ?_
  refine wfrz 2 rfl ?_
  refine go 1 ?_
  exact ⟨.inr rfl, _, (PSt A B rw P l (k0) (24) (e0)), (res_one rfl (resv_tmp rfl)), subS_of (.refl _) (.refl _), ⟨acc, k0, e0, rfl, hn0, hk0, he0, rfl⟩⟩
 ·refine go 15 ?_
  refine wcP rfl rfl rfl rfl Tryz.call73 rfl (signP_c (A) _ _ _ l k 24 e [123] hok hk he) (by simp) (by simp [Sto.bl]) ?_
  rintro t7 s7 ⟨x7, k7, e7, rfl, hr7, hk7, he7, rfl⟩
  refine go 13 ?_
  refine wyy rfl rfl rfl (ay_add rfl rfl rfl (by omega) (by omega)) ?_
  refine go 7 ?_
  have hbad : e7 ≠ 0 ∧ Run e k (blockP l 0 k) [] k7 e7 := by
   rcases hr7 with ⟨h, rfl, rfl⟩ | ⟨h, h2⟩
   ·exact ⟨h, .skip h _ _⟩
   ·subst h
    have hq := ha1 rfl
    have h9 : wantP l [123] k = .err k 4 := by unfold wantP; rw [if_neg (by rw [hq]; decide)]
    rw [h9] at h2
    rcases h2 with ⟨h2, _⟩ | ⟨h2, h3⟩
    ·cases h2
    ·cases h2; exact ⟨h3, .err _ _ _ _ (by unfold blockP; rw [if_neg (by rw [hq]; decide)]) h3⟩
  refine wrow 93 11 ?_
  refine aw_loop (fun g : List AStmt × Value × Nat × Nat => (⟨47, rowB g.2.1 ++ [P], ⟨A ++ ⟨P, 70, [.sl l.length (l.flatMap encT), .val (.int .i64 (((g.2.2.1) : Nat) : Int)), .val (.int .i64 (((25) : Nat) : Int)), .val (.int .i64 (((g.2.2.2) : Nat) : Int))]⟩ :: B, ⟨g.2.1, 93, 11, (g.1).length, (g.1).flatMap encS⟩ :: rw⟩, [(3, .c (.val g.2.1)), (0, .c (.val (.pointer (some ⟨P, 0, none⟩))))]⟩ : AS)) (fun g => g.2.2.1 < l.length ∧ g.2.2.2 < 16 ∧ g.2.2.2 ≠ 0 ∧ Run e k (blockP l 0 k) g.1 g.2.2.1 g.2.2.2) (fun g => if g.2.2.2 = 0 then l.length - g.2.2.1 + 1 else 0) ([], .slice none 0 0, k7, e7) (subA (.refl _) (.refl _) (fun _ h => h) (sub_cons rfl (Wk.refl _) (sub_cons rfl (Wk.refl _) sub_nil))) ⟨hk7, he7, hbad.1, hbad.2⟩ ?_
  rintro ⟨acc, v0, k0, e0⟩ ⟨hk0, he0, hz0, hn0⟩
  dsimp only at hk0 he0 hz0 hn0
  show AWp Tryz.prog _ (⟨47, rowB v0 ++ [P], ⟨A ++ ⟨P, 70, [.sl l.length (l.flatMap encT), .val (.int .i64 (((k0) : Nat) : Int)), .val (.int .i64 (((25) : Nat) : Int)), .val (.int .i64 (((e0) : Nat) : Int))]⟩ :: B, ⟨v0, 93, 11, (acc).length, (acc).flatMap encS⟩ :: rw⟩, [(3, .c (.val v0)), (0, .c (.val (.pointer (some ⟨P, 0, none⟩))))]⟩ : AS) _
  have h0 := hz0
  refine go 7 ?_
  refine wyy rfl rfl rfl (ay_cmp false rfl rfl rfl (eq_nat0 h0)) ?_
  refine go 19 ?_
  refine wyy rfl rfl rfl (ay_subR ((24 : Nat) : Int) rfl rfl rfl rfl (by omega) (by omega)) ?_
  refine go 11 ?_
  refine wfrz 2 rfl ?_
  refine go 1 ?_
  exact ⟨.inr rfl, _, (PSt A B rw P l (k0) (24) (e0)), (res_one rfl (resv_tmp rfl)), subS_of (.refl _) (.refl _), ⟨acc, k0, e0, rfl, hn0, hk0, he0, rfl⟩⟩
set_option maxRecDepth 100000 in
set_option maxHeartbeats 1600000 in
theorem blockP_s (A B : List Box) (rw : List ORow) (P : Nat) (l : List Tok) (k e dp : Nat) (st : Nat → PRes AStmt) (hdp : dp < 24) (hin : ∀ k, k < l.length → (st k).In l k) (hstm : ∀ (A B : List Box) (rw : List ORow) (P k : Nat), k < l.length → ACall Tryz.prog 75 [.c (.val (.pointer (some ⟨P, 0, none⟩)))] [P] (PSt A B rw P l k (dp + 1) 0) (PAn A B rw P l (dp + 1) (fun x => .agg (encS1 x)) 0 k (st k))) (hok : TOk l) (hk : k < l.length) (he : e < 16) : ACall Tryz.prog 44 [.c (.val (.pointer (some ⟨P, 0, none⟩)))] [P] (PSt A B rw P l k dp e) (PAn A B rw P l dp (fun x => .c (.sl x.length (x.flatMap encS))) e k ((wantP l [123] k).bind fun _ k => stmtsP l st l.length [] k)) := by
 have hlen := hok.len
 refine acall_body Tryz.func44 rfl (Nat.le_of_ble_eq_true rfl) ?_
 show AWp Tryz.prog _ ⟨47, [P], ⟨A ++ ⟨P, 70, [.sl l.length (l.flatMap encT), .val (.int .i64 ((k : Nat) : Int)), .val (.int .i64 ((dp : Nat) : Int)), .val (.int .i64 ((e : Nat) : Int))]⟩ :: B, rw⟩, [(0, .c (.val (.pointer (some ⟨P, 0, none⟩))))]⟩ _
 refine go 9 ?_
 refine wcP rfl rfl rfl rfl Tryz.call66 rfl (kindP_s (A) _ _ _ l k dp e [123] hk) (by simp) (by simp [Sto.bl]) ?_
 rintro t1 s1 (⟨rfl, ha1, rfl, rfl⟩ | ⟨ha1, rfl, rfl⟩)
 ·refine go 5 ?_
  refine wyy rfl rfl rfl (ay_cmp false rfl rfl rfl (by simp [cmpR]; omega)) ?_
  refine go 9 ?_
  refine wcP rfl rfl rfl rfl Tryz.call73 rfl (signP_c (A) _ _ _ l k dp 0 [123] hok hk (by decide)) (by simp) (by simp [Sto.bl]) ?_
  rintro t3 s3 ⟨x3, k3, e3, rfl, hr3, hk3, he3, rfl⟩
  refine go 13 ?_
  refine wyy rfl rfl rfl (ay_add rfl rfl rfl (by omega) (by omega)) ?_
  refine go 7 ?_
  refine wrow 93 11 ?_
  refine aw_loop (fun g : List AStmt × Value × Nat × Nat => (⟨47, rowB g.2.1 ++ [P], ⟨A ++ ⟨P, 70, [.sl l.length (l.flatMap encT), .val (.int .i64 (((g.2.2.1) : Nat) : Int)), .val (.int .i64 (((dp + 1) : Nat) : Int)), .val (.int .i64 (((g.2.2.2) : Nat) : Int))]⟩ :: B, ⟨g.2.1, 93, 11, (g.1).length, (g.1).flatMap encS⟩ :: rw⟩, [(3, .c (.val g.2.1)), (0, .c (.val (.pointer (some ⟨P, 0, none⟩))))]⟩ : AS)) (fun g => g.2.2.1 < l.length ∧ g.2.2.2 < 16 ∧ (g.2.2.2 = 0 → g.1.length ≤ g.2.2.1) ∧ (g.2.2.2 ≠ 0 → Run 0 k ((wantP l [123] k).bind fun _ k => stmtsP l st l.length [] k) g.1 g.2.2.1 g.2.2.2) ∧ (g.2.2.2 = 0 → ∃ n, l.length ≤ n + g.2.2.1 ∧ ∀ z k' e', Run 0 g.2.2.1 (stmtsP l st n g.1 g.2.2.1) z k' e' → Run 0 k ((wantP l [123] k).bind fun _ k => stmtsP l st l.length [] k) z k' e')) (fun g => if g.2.2.2 = 0 then l.length - g.2.2.1 + 1 else 0) ([], .slice none 0 0, k3, e3) (subA (.refl _) (.refl _) (fun _ h => h) (sub_cons rfl (Wk.refl _) (sub_cons rfl (Wk.refl _) sub_nil))) ⟨hk3, he3, fun _ => Nat.zero_le _, fun h => hr3.bind (.skip h _ _), fun h => ⟨l.length, Nat.le_add_right _ _, fun z k' e' h2 => hr3.bind (by rw [show e3 = 0 from h]; exact h2)⟩⟩ ?_
  rintro ⟨acc, v0, k0, e0⟩ ⟨hk0, he0, ha0, hn0, hc0⟩
  dsimp only at hk0 he0 ha0 hn0 hc0
  show AWp Tryz.prog _ (⟨47, rowB v0 ++ [P], ⟨A ++ ⟨P, 70, [.sl l.length (l.flatMap encT), .val (.int .i64 (((k0) : Nat) : Int)), .val (.int .i64 (((dp + 1) : Nat) : Int)), .val (.int .i64 (((e0) : Nat) : Int))]⟩ :: B, ⟨v0, 93, 11, (acc).length, (acc).flatMap encS⟩ :: rw⟩, [(3, .c (.val v0)), (0, .c (.val (.pointer (some ⟨P, 0, none⟩))))]⟩ : AS) _
  by_cases h0 : e0 = 0
  ·subst h0
   have ha1 := ha0 rfl
   obtain ⟨n0, hn1, hcont⟩ := hc0 rfl
   refine go 7 ?_
   refine wyy rfl rfl rfl (ay_cmp true rfl rfl rfl (by rfl)) ?_
   refine go 2 ?_
   refine wcP rfl rfl rfl rfl Tryz.call74 rfl (accept_c (A) _ _ _ l k0 (dp + 1) 0 [125] hok hk0) (by simp) (by simp [Sto.bl]) ?_
   rintro t4 s4 (⟨-, ha4, hm4, rfl, rfl⟩ | ⟨ha4, rfl, rfl⟩)
   ·refine go 16 ?_
    refine wyy rfl rfl rfl (ay_subR ((dp : Nat) : Int) rfl rfl rfl (by omega) (by omega) (by omega)) ?_
    refine go 11 ?_
    refine wfrz 2 rfl ?_
    refine go 1 ?_
    obtain ⟨m, rfl⟩ : ∃ m, n0 = m + 1 := ⟨n0 - 1, by omega⟩
    exact ⟨.inr rfl, _, (PSt A B rw P l (k0 + 1) (dp) (0)), (res_one rfl (resv_tmp rfl)), subS_of (.refl _) (.refl _), ⟨acc, k0 + 1, 0, rfl, hcont _ _ _ (by rw [stmtsP, if_pos ha4]; exact .ok _ _ _ rfl), hm4, (by decide), rfl⟩⟩
   ·refine go 11 ?_
    refine wcP rfl rfl rfl rfl Tryz.call75 rfl (hstm (A) _ _ _ k0 hk0) (by simp) (by simp [Sto.bl]) ?_
    rintro t7 s7 ⟨x7, k7, e7, rfl, hr7, hk7, he7, rfl⟩
    refine wo rfl (wbs Tryz.t93 [.val (.int .i64 0), .val (.string ⟨#[]⟩), .val (.int .i64 0), .val (.int .i64 0), .val (.string ⟨#[]⟩), .val (.slice none 0 0), .val (.string ⟨#[]⟩), .val (.slice none 0 0), .val (.slice none 0 0), .val (.slice none 0 0), .val (.slice none 0 0)] rfl rfl (by decide) (.cons rfl .nil) Tryz.underlying50 (by kernel_rfl) rfl (by decide) (by decide) (by kernel_rfl) (by kernel_rfl) (fill_one encS encS1 x7 (encS_one _) rfl rfl) ?_)
    refine wo rfl (wapI [] Tryz.t93 192 rfl rfl (by decide) rfl rfl Tryz.underlying50 (by kernel_rfl) rfl rfl rfl rfl (by decide) (by rw [List.flatMap_cons, List.flatMap_nil, List.append_nil, encS_len]) (by decide) (by unfold maxLen; skip; omega) (by skip; omega) (@List.length_append _ acc [x7]).symm (fun _ b hb => by simp [hb]) (fun b hb => by simp [hb]) (List.flatMap_append (f := encS)).symm fun v8 => ?_)
    refine go 3 ?_
    obtain ⟨m, rfl⟩ : ∃ m, n0 = m + 1 := ⟨n0 - 1, by omega⟩
    have hst : ∀ z k' e', Run e7 k7 (stmtsP l st m (acc ++ [x7]) k7) z k' e' → Run 0 k ((wantP l [123] k).bind fun _ k => stmtsP l st l.length [] k) z k' e' := fun z k' e' h => hcont z k' e' (by rw [stmtsP, if_neg (by rw [ha4 rfl]; decide)]; exact hr7.bind h)
    have hgo : e7 = 0 → k0 < k7 := fun h => by have h9 := hin k0 hk0; rw [(hr7.good h).2] at h9; exact h9.1
    refine ⟨(acc ++ [x7], v8, k7, e7), ⟨hk7, he7, fun h => ?_, fun h => hst _ _ _ (.skip h _ _), fun h => ⟨m, ?_, fun z k' e' h2 => hst _ _ _ ?_⟩⟩, ?_, subA (.refl _) (.refl _) (by intro x hx; simp only [List.mem_append, List.mem_cons, List.not_mem_nil, or_false] at hx ⊢; rcases hx with h | h <;> simp [h]) (sub_cons rfl (Wk.refl _) (sub_cons rfl (Wk.refl _) sub_nil))⟩
    ·have := hgo h; show (acc ++ [_]).length ≤ k7; simp; omega
    ·have := hgo h; show l.length ≤ m + k7; omega
    ·rw [show e7 = 0 from h]; exact h2
    ·show (if e7 = 0 then _ else _) < (if (0 : Nat) = 0 then _ else _)
     by_cases h : e7 = 0
     ·have := hgo h; rw [if_pos h, if_pos rfl]; show l.length - k7 + 1 < l.length - k0 + 1; omega
     ·rw [if_neg h, if_pos rfl]; show 0 < l.length - k0 + 1; omega
  ·refine go 7 ?_
   refine wyy rfl rfl rfl (ay_cmp false rfl rfl rfl (eq_nat0 h0)) ?_
   refine go 19 ?_
   refine wyy rfl rfl rfl (ay_subR ((dp : Nat) : Int) rfl rfl rfl (by omega) (by omega) (by omega)) ?_
   refine go 11 ?_
   refine wfrz 2 rfl ?_
   refine go 1 ?_
   exact ⟨.inr rfl, _, (PSt A B rw P l (k0) (dp) (e0)), (res_one rfl (resv_tmp rfl)), subS_of (.refl _) (.refl _), ⟨acc, k0, e0, rfl, hn0 h0, hk0, he0, rfl⟩⟩
 ·refine go 15 ?_
  refine wcP rfl rfl rfl rfl Tryz.call73 rfl (signP_c (A) _ _ _ l k dp e [123] hok hk he) (by simp) (by simp [Sto.bl]) ?_
  rintro t11 s11 ⟨x11, k11, e11, rfl, hr11, hk11, he11, rfl⟩
  refine go 13 ?_
  refine wyy rfl rfl rfl (ay_add rfl rfl rfl (by omega) (by omega)) ?_
  refine go 7 ?_
  refine wrow 93 11 ?_
  refine aw_loop (fun g : List AStmt × Value × Nat × Nat => (⟨47, rowB g.2.1 ++ [P], ⟨A ++ ⟨P, 70, [.sl l.length (l.flatMap encT), .val (.int .i64 (((g.2.2.1) : Nat) : Int)), .val (.int .i64 (((dp + 1) : Nat) : Int)), .val (.int .i64 (((g.2.2.2) : Nat) : Int))]⟩ :: B, ⟨g.2.1, 93, 11, (g.1).length, (g.1).flatMap encS⟩ :: rw⟩, [(3, .c (.val g.2.1)), (0, .c (.val (.pointer (some ⟨P, 0, none⟩))))]⟩ : AS)) (fun g => g.2.2.1 < l.length ∧ g.2.2.2 < 16 ∧ (g.2.2.2 = 0 → g.1.length ≤ g.2.2.1) ∧ (g.2.2.2 ≠ 0 → Run e k ((wantP l [123] k).bind fun _ k => stmtsP l st l.length [] k) g.1 g.2.2.1 g.2.2.2) ∧ (g.2.2.2 = 0 → ∃ n, l.length ≤ n + g.2.2.1 ∧ ∀ z k' e', Run 0 g.2.2.1 (stmtsP l st n g.1 g.2.2.1) z k' e' → Run e k ((wantP l [123] k).bind fun _ k => stmtsP l st l.length [] k) z k' e')) (fun g => if g.2.2.2 = 0 then l.length - g.2.2.1 + 1 else 0) ([], .slice none 0 0, k11, e11) (subA (.refl _) (.refl _) (fun _ h => h) (sub_cons rfl (Wk.refl _) (sub_cons rfl (Wk.refl _) sub_nil))) ⟨hk11, he11, fun _ => Nat.zero_le _, fun h => hr11.bind (.skip h _ _), fun h => ⟨l.length, Nat.le_add_right _ _, fun z k' e' h2 => hr11.bind (by rw [show e11 = 0 from h]; exact h2)⟩⟩ ?_
  rintro ⟨acc, v0, k0, e0⟩ ⟨hk0, he0, ha0, hn0, hc0⟩
  dsimp only at hk0 he0 ha0 hn0 hc0
  show AWp Tryz.prog _ (⟨47, rowB v0 ++ [P], ⟨A ++ ⟨P, 70, [.sl l.length (l.flatMap encT), .val (.int .i64 (((k0) : Nat) : Int)), .val (.int .i64 (((dp + 1) : Nat) : Int)), .val (.int .i64 (((e0) : Nat) : Int))]⟩ :: B, ⟨v0, 93, 11, (acc).length, (acc).flatMap encS⟩ :: rw⟩, [(3, .c (.val v0)), (0, .c (.val (.pointer (some ⟨P, 0, none⟩))))]⟩ : AS) _
  by_cases h0 : e0 = 0
  ·subst h0
   have ha1 := ha0 rfl
   obtain ⟨n0, hn1, hcont⟩ := hc0 rfl
   refine go 7 ?_
   refine wyy rfl rfl rfl (ay_cmp true rfl rfl rfl (by rfl)) ?_
   refine go 2 ?_
   refine wcP rfl rfl rfl rfl Tryz.call74 rfl (accept_c (A) _ _ _ l k0 (dp + 1) 0 [125] hok hk0) (by simp) (by simp [Sto.bl]) ?_
   rintro t12 s12 (⟨-, ha12, hm12, rfl, rfl⟩ | ⟨ha12, rfl, rfl⟩)
   ·refine go 16 ?_
    refine wyy rfl rfl rfl (ay_subR ((dp : Nat) : Int) rfl rfl rfl (by omega) (by omega) (by omega)) ?_
    refine go 11 ?_
    refine wfrz 2 rfl ?_
    refine go 1 ?_
    obtain ⟨m, rfl⟩ : ∃ m, n0 = m + 1 := ⟨n0 - 1, by omega⟩
    exact ⟨.inr rfl, _, (PSt A B rw P l (k0 + 1) (dp) (0)), (res_one rfl (resv_tmp rfl)), subS_of (.refl _) (.refl _), ⟨acc, k0 + 1, 0, rfl, hcont _ _ _ (by rw [stmtsP, if_pos ha12]; exact .ok _ _ _ rfl), hm12, (by decide), rfl⟩⟩
   ·refine go 11 ?_
    refine wcP rfl rfl rfl rfl Tryz.call75 rfl (hstm (A) _ _ _ k0 hk0) (by simp) (by simp [Sto.bl]) ?_
    rintro t15 s15 ⟨x15, k15, e15, rfl, hr15, hk15, he15, rfl⟩
    refine wo rfl (wbs Tryz.t93 [.val (.int .i64 0), .val (.string ⟨#[]⟩), .val (.int .i64 0), .val (.int .i64 0), .val (.string ⟨#[]⟩), .val (.slice none 0 0), .val (.string ⟨#[]⟩), .val (.slice none 0 0), .val (.slice none 0 0), .val (.slice none 0 0), .val (.slice none 0 0)] rfl rfl (by decide) (.cons rfl .nil) Tryz.underlying50 (by kernel_rfl) rfl (by decide) (by decide) (by kernel_rfl) (by kernel_rfl) (fill_one encS encS1 x15 (encS_one _) rfl rfl) ?_)
    refine wo rfl (wapI [] Tryz.t93 192 rfl rfl (by decide) rfl rfl Tryz.underlying50 (by kernel_rfl) rfl rfl rfl rfl (by decide) (by rw [List.flatMap_cons, List.flatMap_nil, List.append_nil, encS_len]) (by decide) (by unfold maxLen; skip; omega) (by skip; omega) (@List.length_append _ acc [x15]).symm (fun _ b hb => by simp [hb]) (fun b hb => by simp [hb]) (List.flatMap_append (f := encS)).symm fun v16 => ?_)
    refine go 3 ?_
    obtain ⟨m, rfl⟩ : ∃ m, n0 = m + 1 := ⟨n0 - 1, by omega⟩
    have hst : ∀ z k' e', Run e15 k15 (stmtsP l st m (acc ++ [x15]) k15) z k' e' → Run e k ((wantP l [123] k).bind fun _ k => stmtsP l st l.length [] k) z k' e' := fun z k' e' h => hcont z k' e' (by rw [stmtsP, if_neg (by rw [ha12 rfl]; decide)]; exact hr15.bind h)
    have hgo : e15 = 0 → k0 < k15 := fun h => by have h9 := hin k0 hk0; rw [(hr15.good h).2] at h9; exact h9.1
    refine ⟨(acc ++ [x15], v16, k15, e15), ⟨hk15, he15, fun h => ?_, fun h => hst _ _ _ (.skip h _ _), fun h => ⟨m, ?_, fun z k' e' h2 => hst _ _ _ ?_⟩⟩, ?_, subA (.refl _) (.refl _) (by intro x hx; simp only [List.mem_append, List.mem_cons, List.not_mem_nil, or_false] at hx ⊢; rcases hx with h | h <;> simp [h]) (sub_cons rfl (Wk.refl _) (sub_cons rfl (Wk.refl _) sub_nil))⟩
    ·have := hgo h; show (acc ++ [_]).length ≤ k15; simp; omega
    ·have := hgo h; show l.length ≤ m + k15; omega
    ·rw [show e15 = 0 from h]; exact h2
    ·show (if e15 = 0 then _ else _) < (if (0 : Nat) = 0 then _ else _)
     by_cases h : e15 = 0
     ·have := hgo h; rw [if_pos h, if_pos rfl]; show l.length - k15 + 1 < l.length - k0 + 1; omega
     ·rw [if_neg h, if_pos rfl]; show 0 < l.length - k0 + 1; omega
  ·refine go 7 ?_
   refine wyy rfl rfl rfl (ay_cmp false rfl rfl rfl (eq_nat0 h0)) ?_
   refine go 19 ?_
   refine wyy rfl rfl rfl (ay_subR ((dp : Nat) : Int) rfl rfl rfl (by omega) (by omega) (by omega)) ?_
   refine go 11 ?_
   refine wfrz 2 rfl ?_
   refine go 1 ?_
   exact ⟨.inr rfl, _, (PSt A B rw P l (k0) (dp) (e0)), (res_one rfl (resv_tmp rfl)), subS_of (.refl _) (.refl _), ⟨acc, k0, e0, rfl, hn0 h0, hk0, he0, rfl⟩⟩
theorem blockP_all (l : List Tok) (hok : TOk l) : ∀ (d : Nat), d ≤ 24 → ∀ (A B : List Box) (rw : List ORow) (P k e : Nat), k < l.length → e < 16 → ACall Tryz.prog 44 [.c (.val (.pointer (some ⟨P, 0, none⟩)))] [P] (PSt A B rw P l k (24 - d) e) (PAn A B rw P l (24 - d) (fun x => .c (.sl x.length (x.flatMap encS))) e k (blockP l d k))
 | 0, _, A, B, rw, P, k, e, hk, he => blockP_0 A B rw P l k e hok hk he
 | d + 1, hd, A, B, rw, P, k, e, hk, he => by
  have hb : ∀ k, k < l.length → (blockP l d k).In l k := fun k hk => blockP_in hok.last d k hk
  exact blockP_s A B rw P l k e (24 - (d + 1)) (stmtP l (blockP l d)) (by omega) (fun k hk => stmtP_in hok.last hb hk) (fun A B rw P k hk =>
   stmtP_c A B rw P l k (24 - (d + 1) + 1) (blockP l d) (fun A B rw P k e hk he => by
    have h8 := blockP_all l hok d (by omega) A B rw P k e hk he
    have e1 : 24 - (d + 1) + 1 = 24 - d := by omega
    rw [e1]; exact h8) hok hk) hok hk he
end Go.Proofs.YtflcnehhpmjipaaGreatDoor
namespace Go.Proofs.YtflcnehhpmjipaaGreatDoor
open Go.RowKit
set_option synthInstance.maxHeartbeats 1000000
set_option synthInstance.maxSize 1000000
set_option linter.all false
theorem Run.alt {α β : Type} {e k k2 e2 : Nat} {r : PRes α} {u : α} {y : β} {f : α → β} (h : Run e k r u k2 e2) (h1 : e = 0 → y = f u) : Run e k (r.bind fun x k => .ok (f x) k) y k2 e2 := by
 by_cases h0 : e = 0
 ·rw [h1 h0]; exact h.map
 ·rcases h with ⟨_, rfl, rfl⟩ | ⟨h, _⟩
  ·exact .skip h0 _ _
  ·exact absurd h h0
theorem Run.badP {α β : Type} {e1 k k2 e2 : Nat} {r : PRes α} {r' : PRes β} {y : β} {x : α} (h : Run e1 k r' y k2 e2) (h1 : e1 ≠ 0) (hr : r = .err k e1) (k0 : Nat) : Run 0 k0 r x k2 e2 := by
 rcases h with ⟨_, rfl, rfl⟩ | ⟨h, _⟩
 ·exact .err _ _ _ _ hr h1
 ·exact absurd h h1
theorem num_ok {l : List Tok} {k x k2 : Nat} (hok : TOk l) (hk : k < l.length) (h : numP l k = .ok x k2) : x ≤ 9223372036854775807 ∧ k2 = k + 1 := by
 unfold numP at h
 rw [tokAt_lt hk] at h
 split at h
 ·cases h; exact ⟨(hok.reg _ (List.getElem_mem hk)).2.2, rfl⟩
 ·cases h
theorem mul1 {x : Nat} (h : x ≤ 9223372036854775807) : IntKind.i64.wrap (1 * (x : Int)) = (x : Int) := by rw [wrap64 (by omega) (by omega)]; omega
theorem mulm1 {x : Nat} (h : x ≤ 9223372036854775807) : IntKind.i64.wrap (-1 * (x : Int)) = -(x : Int) := by rw [wrap64 (by omega) (by omega)]; omega
set_option maxRecDepth 100000 in
set_option maxHeartbeats 1600000 in
theorem globalP_c (A B : List Box) (rw : List ORow) (P : Nat) (l : List Tok) (k dp e : Nat) (hok : TOk l) (hk : k < l.length) (he : e < 16) : ACall Tryz.prog 69 [.c (.val (.pointer (some ⟨P, 0, none⟩)))] [P] (PSt A B rw P l k dp e) (PAn A B rw P l dp (fun x => .agg (encG x)) e k (globalP l k)) := by
 have hlen := hok.len
 refine acall_body Tryz.func69 rfl (Nat.le_of_ble_eq_true rfl) ?_
 show AWp Tryz.prog _ ⟨20, [P], ⟨A ++ ⟨P, 70, [.sl l.length (l.flatMap encT), .val (.int .i64 ((k : Nat) : Int)), .val (.int .i64 ((dp : Nat) : Int)), .val (.int .i64 ((e : Nat) : Int))]⟩ :: B, rw⟩, [(0, .c (.val (.pointer (some ⟨P, 0, none⟩))))]⟩ _
 refine go 8 fun b1 => ?_
 refine wcP rfl rfl rfl rfl Tryz.call101 rfl (nameP_c (_ :: A) _ _ _ l k dp e hok hk he) (by simp) (by simp [Sto.bl]) ?_
 rintro t1 s1 ⟨x1, k1, e1, rfl, hr1, hk1, he1, rfl⟩
 refine go 9 fun b2 => ?_
 refine wcP rfl rfl rfl rfl Tryz.call74 rfl (accept_c (_ :: _ :: A) _ _ _ l k1 dp e1 [61] hok hk1) (by simp) (by simp [Sto.bl]) ?_
 rintro t2 s2 (⟨rfl, ha2, hm2, rfl, rfl⟩ | ⟨ha2, rfl, rfl⟩)
 ·refine go 12 ?_
  refine wcP rfl rfl rfl rfl Tryz.call74 rfl (accept_c (_ :: _ :: A) _ _ _ l (k1 + 1) dp 0 [45] hok hm2) (by simp) (by simp [Sto.bl]) ?_
  rintro t4 s4 (⟨-, ha4, hm4, rfl, rfl⟩ | ⟨ha4, rfl, rfl⟩)
  ·refine go 10 ?_
   refine wcP rfl rfl rfl rfl Tryz.call102 rfl (numP_c (_ :: _ :: A) _ _ _ l ((k1 + 1) + 1) dp 0 hok hm4 (by decide)) (by simp) (by simp [Sto.bl]) ?_
   rintro t6 s6 ⟨x6, k6, e6, rfl, hr6, hk6, he6, rfl⟩
   refine wyy rfl rfl rfl (ay_arith rfl rfl rfl rfl) ?_
   refine go 7 ?_
   refine wcP rfl rfl rfl rfl Tryz.call73 rfl (signP_c (_ :: _ :: A) _ _ _ l k6 dp e6 [59] hok hk6 he6) (by simp) (by simp [Sto.bl]) ?_
   rintro t7 s7 ⟨x7, k7, e7, rfl, hr7, hk7, he7, rfl⟩
   refine go 9 ?_
   exact ⟨.inr rfl, _, (PSt A B rw P l (k7) (dp) (e7)), (res_one rfl (resv_cell [_] rfl rfl Tryz.isAgg104 Tryz.sizeOf104 (pk_all rfl rfl))), subS_of (.cons _ (.cons _ (.refl _))) (.refl _), ⟨⟨x1, IntKind.i64.wrap (-1 * (x6 : Int))⟩, k7, e7, rfl, hr1.bind (.yes (fun _ => ha2) (Run.from (.yes (fun _ => ha4) (hr6.bind (f := fun (i : Nat) (k : Nat) => (wantP l [59] k).bind fun _ k => .ok (AGlobal.mk x1 (-(i : Int))) k) (hr7.alt (y := AGlobal.mk x1 (IntKind.i64.wrap (-1 * (x6 : Int)))) (f := fun _ => AGlobal.mk x1 (-((x6 : Nat) : Int))) (fun h => by rw [mulm1 (num_ok hok hm4 (hr6.good h).2).1])))))), hk7, he7, rfl⟩⟩
  ·refine go 8 ?_
   refine wcP rfl rfl rfl rfl Tryz.call102 rfl (numP_c (_ :: _ :: A) _ _ _ l (k1 + 1) dp 0 hok hm2 (by decide)) (by simp) (by simp [Sto.bl]) ?_
   rintro t9 s9 ⟨x9, k9, e9, rfl, hr9, hk9, he9, rfl⟩
   refine wyy rfl rfl rfl (ay_arith rfl rfl rfl rfl) ?_
   refine go 7 ?_
   refine wcP rfl rfl rfl rfl Tryz.call73 rfl (signP_c (_ :: _ :: A) _ _ _ l k9 dp e9 [59] hok hk9 he9) (by simp) (by simp [Sto.bl]) ?_
   rintro t10 s10 ⟨x10, k10, e10, rfl, hr10, hk10, he10, rfl⟩
   refine go 9 ?_
   exact ⟨.inr rfl, _, (PSt A B rw P l (k10) (dp) (e10)), (res_one rfl (resv_cell [_] rfl rfl Tryz.isAgg104 Tryz.sizeOf104 (pk_all rfl rfl))), subS_of (.cons _ (.cons _ (.refl _))) (.refl _), ⟨⟨x1, IntKind.i64.wrap (1 * (x9 : Int))⟩, k10, e10, rfl, hr1.bind (.yes (fun _ => ha2) (Run.from (.no (fun _ => by rw [ha4 rfl]; decide) (hr9.bind (f := fun (i : Nat) (k : Nat) => (wantP l [59] k).bind fun _ k => .ok (AGlobal.mk x1 (i : Int)) k) (hr10.alt (y := AGlobal.mk x1 (IntKind.i64.wrap (1 * (x9 : Int)))) (f := fun _ => AGlobal.mk x1 ((x9 : Nat) : Int)) (fun h => by rw [mul1 (num_ok hok hm2 (hr9.good h).2).1])))))), hk10, he10, rfl⟩⟩
 ·refine go 8 ?_
  refine wcP rfl rfl rfl rfl Tryz.call73 rfl (signP_c (_ :: _ :: A) _ _ _ l k1 dp e1 [59] hok hk1 he1) (by simp) (by simp [Sto.bl]) ?_
  rintro t12 s12 ⟨x12, k12, e12, rfl, hr12, hk12, he12, rfl⟩
  refine go 9 ?_
  exact ⟨.inr rfl, _, (PSt A B rw P l (k12) (dp) (e12)), (res_one rfl (resv_cell [_] rfl rfl Tryz.isAgg104 Tryz.sizeOf104 (pk_all rfl rfl))), subS_of (.cons _ (.cons _ (.refl _))) (.refl _), ⟨⟨x1, 0⟩, k12, e12, rfl, hr1.bind (.no (fun h => by rw [ha2 h]; decide) (hr12.map (f := fun _ => AGlobal.mk x1 0))), hk12, he12, rfl⟩⟩
set_option maxRecDepth 100000 in
set_option maxHeartbeats 1600000 in
theorem mutexP_true (A B : List Box) (rw : List ORow) (P : Nat) (l : List Tok) (k dp e : Nat) (hok : TOk l) (hk : k < l.length) (he : e < 16) : ACall Tryz.prog 71 [.c (.val (.pointer (some ⟨P, 0, none⟩))), .c (.val (.bool true))] [P] (PSt A B rw P l k dp e) (PAn A B rw P l dp (fun x => .agg (encM x)) e k (mutexP l true k)) := by
 have hlen := hok.len
 refine acall_body Tryz.func71 rfl (Nat.le_of_ble_eq_true rfl) ?_
 show AWp Tryz.prog _ ⟨48, [P], ⟨A ++ ⟨P, 70, [.sl l.length (l.flatMap encT), .val (.int .i64 ((k : Nat) : Int)), .val (.int .i64 ((dp : Nat) : Int)), .val (.int .i64 ((e : Nat) : Int))]⟩ :: B, rw⟩, [(0, .c (.val (.pointer (some ⟨P, 0, none⟩)))), (1, .c (.val (.bool true)))]⟩ _
 refine go 8 fun b1 => ?_
 refine wcP rfl rfl rfl rfl Tryz.call101 rfl (nameP_c (_ :: A) _ _ _ l k dp e hok hk he) (by simp) (by simp [Sto.bl]) ?_
 rintro t1 s1 ⟨x1, k1, e1, rfl, hr1, hk1, he1, rfl⟩
 refine go 23 fun b2 => ?_
 refine wcP rfl rfl rfl rfl Tryz.call73 rfl (signP_c (_ :: _ :: A) _ _ _ l k1 dp e1 [59] hok hk1 he1) (by simp) (by simp [Sto.bl]) ?_
 rintro t3 s3 ⟨x3, k3, e3, rfl, hr3, hk3, he3, rfl⟩
 refine go 9 ?_
 exact ⟨.inr rfl, _, (PSt A B rw P l (k3) (dp) (e3)), (res_one rfl (resv_cell [_] rfl rfl Tryz.isAgg102 Tryz.sizeOf102 (pk_all rfl rfl))), subS_of (.cons _ (.cons _ (.refl _))) (.refl _), ⟨⟨x1, true, 0⟩, k3, e3, rfl, hr1.bind (.no (fun h => by rintro ⟨h, -⟩; cases h) (hr3.map (f := fun _ => AMutex.mk x1 true 0))), hk3, he3, rfl⟩⟩
set_option maxRecDepth 100000 in
set_option maxHeartbeats 1600000 in
theorem mutexP_false (A B : List Box) (rw : List ORow) (P : Nat) (l : List Tok) (k dp e : Nat) (hok : TOk l) (hk : k < l.length) (he : e < 16) : ACall Tryz.prog 71 [.c (.val (.pointer (some ⟨P, 0, none⟩))), .c (.val (.bool false))] [P] (PSt A B rw P l k dp e) (PAn A B rw P l dp (fun x => .agg (encM x)) e k (mutexP l false k)) := by
 have hlen := hok.len
 refine acall_body Tryz.func71 rfl (Nat.le_of_ble_eq_true rfl) ?_
 show AWp Tryz.prog _ ⟨48, [P], ⟨A ++ ⟨P, 70, [.sl l.length (l.flatMap encT), .val (.int .i64 ((k : Nat) : Int)), .val (.int .i64 ((dp : Nat) : Int)), .val (.int .i64 ((e : Nat) : Int))]⟩ :: B, rw⟩, [(0, .c (.val (.pointer (some ⟨P, 0, none⟩)))), (1, .c (.val (.bool false)))]⟩ _
 refine go 8 fun b1 => ?_
 refine wcP rfl rfl rfl rfl Tryz.call101 rfl (nameP_c (_ :: A) _ _ _ l k dp e hok hk he) (by simp) (by simp [Sto.bl]) ?_
 rintro t1 s1 ⟨x1, k1, e1, rfl, hr1, hk1, he1, rfl⟩
 refine go 13 fun b2 => ?_
 refine wcP rfl rfl rfl rfl Tryz.call74 rfl (accept_c (_ :: _ :: A) _ _ _ l k1 dp e1 [91] hok hk1) (by simp) (by simp [Sto.bl]) ?_
 rintro t2 s2 (⟨rfl, ha2, hm2, rfl, rfl⟩ | ⟨ha2, rfl, rfl⟩)
 ·refine go 7 ?_
  refine wcP rfl rfl rfl rfl Tryz.call102 rfl (numP_c (_ :: _ :: A) _ _ _ l (k1 + 1) dp 0 hok hm2 (by decide)) (by simp) (by simp [Sto.bl]) ?_
  rintro t4 s4 ⟨x4, k4, e4, rfl, hr4, hk4, he4, rfl⟩
  refine go 7 ?_
  rcases (show e4 ≠ 0 ∨ (e4 = 0 ∧ x4 < 1) ∨ (e4 = 0 ∧ ¬ x4 < 1 ∧ 64 < x4) ∨ (e4 = 0 ∧ ¬ x4 < 1 ∧ ¬ 64 < x4) by omega) with her | ⟨her, hs1⟩ | ⟨her, hs1, hs2⟩ | ⟨her, hs1, hs2⟩
  ·skip
   refine go 4 ?_
   refine wyy rfl rfl rfl (ay_cmp false rfl rfl rfl (eq_nat0 her)) ?_
   refine go 17 ?_
   refine wcP rfl rfl rfl rfl Tryz.call73 rfl (signP_c (_ :: _ :: A) _ _ _ l k4 dp e4 [93] hok hk4 he4) (by simp) (by simp [Sto.bl]) ?_
   rintro t6 s6 ⟨x6, k6, e6, rfl, hr6, hk6, he6, rfl⟩
   refine go 5 ?_
   refine wcP rfl rfl rfl rfl Tryz.call73 rfl (signP_c (_ :: _ :: A) _ _ _ l k6 dp e6 [59] hok hk6 he6) (by simp) (by simp [Sto.bl]) ?_
   rintro t7 s7 ⟨x7, k7, e7, rfl, hr7, hk7, he7, rfl⟩
   refine go 9 ?_
   exact ⟨.inr rfl, _, (PSt A B rw P l (k7) (dp) (e7)), (res_one rfl (resv_cell [_] rfl rfl Tryz.isAgg102 Tryz.sizeOf102 (pk_all rfl rfl))), subS_of (.cons _ (.cons _ (.refl _))) (.refl _), ⟨⟨x1, false, x4⟩, k7, e7, rfl, hr1.bind (.yes (fun _ => ⟨rfl, ha2⟩) (Run.from (Run.bind (x := x4) (hr4.bind (.skip her _ _)) (hr6.bind (hr7.map (f := fun _ => AMutex.mk x1 false x4)))))), hk7, he7, rfl⟩⟩
  ·skip
   have hnum := num_ok hok hm2 (hr4.good her).2
   have hsz : (x4 < 1 ∨ 64 < x4) := by omega
   refine go 4 ?_
   refine wyy rfl rfl rfl (ay_cmp true rfl rfl rfl (by rw [her]; rfl)) ?_
   refine go 3 ?_
   refine wyy rfl rfl rfl (ay_cmp true rfl rfl rfl (by simp [cmpR]; omega)) ?_
   refine go 15 ?_
   refine wyy rfl rfl rfl (ay_subR (((k1 + 1) : Nat) : Int) rfl rfl rfl (by rw [hnum.2]; omega) (by omega) (by omega)) ?_
   refine go 7 ?_
   refine wcP rfl rfl rfl rfl Tryz.call68 rfl (failP_c (_ :: _ :: A) _ _ _ l (k1 + 1) dp e4 3) (by simp) (by simp [Sto.bl]) ?_
   rintro t9 s9 ⟨e9, hf9, rfl, rfl⟩
   obtain rfl := hf9.1 her
   refine go 4 ?_
   refine wcP rfl rfl rfl rfl Tryz.call73 rfl (signP_c (_ :: _ :: A) _ _ _ l (k1 + 1) dp 3 [93] hok hm2 (by decide)) (by simp) (by simp [Sto.bl]) ?_
   rintro t10 s10 ⟨x10, k10, e10, rfl, hr10, hk10, he10, rfl⟩
   refine go 5 ?_
   refine wcP rfl rfl rfl rfl Tryz.call73 rfl (signP_c (_ :: _ :: A) _ _ _ l k10 dp e10 [59] hok hk10 he10) (by simp) (by simp [Sto.bl]) ?_
   rintro t11 s11 ⟨x11, k11, e11, rfl, hr11, hk11, he11, rfl⟩
   refine go 9 ?_
   have hszr : Run 0 (k1 + 1) (sizeP l (k1 + 1)) x4 (k1 + 1) 3 := .err _ _ _ _ (by unfold sizeP; rw [(hr4.good her).2]; show (if _ then _ else _) = _; rw [if_pos hsz]) (by decide)
   exact ⟨.inr rfl, _, (PSt A B rw P l (k11) (dp) (e11)), (res_one rfl (resv_cell [_] rfl rfl Tryz.isAgg102 Tryz.sizeOf102 (pk_all rfl rfl))), subS_of (.cons _ (.cons _ (.refl _))) (.refl _), ⟨⟨x1, false, x4⟩, k11, e11, rfl, hr1.bind (.yes (fun _ => ⟨rfl, ha2⟩) (Run.from (Run.bind (x := x4) hszr (hr10.bind (hr11.map (f := fun _ => AMutex.mk x1 false x4)))))), hk11, he11, rfl⟩⟩
  ·skip
   have hnum := num_ok hok hm2 (hr4.good her).2
   have hsz : (x4 < 1 ∨ 64 < x4) := by omega
   refine go 4 ?_
   refine wyy rfl rfl rfl (ay_cmp true rfl rfl rfl (by rw [her]; rfl)) ?_
   refine go 3 ?_
   refine wyy rfl rfl rfl (ay_cmp false rfl rfl rfl (by simp [cmpR]; omega)) ?_
   refine go 3 ?_
   refine wyy rfl rfl rfl (ay_cmp true rfl rfl rfl (by simp [cmpR]; omega)) ?_
   refine go 11 ?_
   refine wyy rfl rfl rfl (ay_subR (((k1 + 1) : Nat) : Int) rfl rfl rfl (by rw [hnum.2]; omega) (by omega) (by omega)) ?_
   refine go 7 ?_
   refine wcP rfl rfl rfl rfl Tryz.call68 rfl (failP_c (_ :: _ :: A) _ _ _ l (k1 + 1) dp e4 3) (by simp) (by simp [Sto.bl]) ?_
   rintro t13 s13 ⟨e13, hf13, rfl, rfl⟩
   obtain rfl := hf13.1 her
   refine go 4 ?_
   refine wcP rfl rfl rfl rfl Tryz.call73 rfl (signP_c (_ :: _ :: A) _ _ _ l (k1 + 1) dp 3 [93] hok hm2 (by decide)) (by simp) (by simp [Sto.bl]) ?_
   rintro t14 s14 ⟨x14, k14, e14, rfl, hr14, hk14, he14, rfl⟩
   refine go 5 ?_
   refine wcP rfl rfl rfl rfl Tryz.call73 rfl (signP_c (_ :: _ :: A) _ _ _ l k14 dp e14 [59] hok hk14 he14) (by simp) (by simp [Sto.bl]) ?_
   rintro t15 s15 ⟨x15, k15, e15, rfl, hr15, hk15, he15, rfl⟩
   refine go 9 ?_
   have hszr : Run 0 (k1 + 1) (sizeP l (k1 + 1)) x4 (k1 + 1) 3 := .err _ _ _ _ (by unfold sizeP; rw [(hr4.good her).2]; show (if _ then _ else _) = _; rw [if_pos hsz]) (by decide)
   exact ⟨.inr rfl, _, (PSt A B rw P l (k15) (dp) (e15)), (res_one rfl (resv_cell [_] rfl rfl Tryz.isAgg102 Tryz.sizeOf102 (pk_all rfl rfl))), subS_of (.cons _ (.cons _ (.refl _))) (.refl _), ⟨⟨x1, false, x4⟩, k15, e15, rfl, hr1.bind (.yes (fun _ => ⟨rfl, ha2⟩) (Run.from (Run.bind (x := x4) hszr (hr14.bind (hr15.map (f := fun _ => AMutex.mk x1 false x4)))))), hk15, he15, rfl⟩⟩
  ·skip
   have hnum := num_ok hok hm2 (hr4.good her).2
   have hsz : ¬ (x4 < 1 ∨ 64 < x4) := by omega
   refine go 4 ?_
   refine wyy rfl rfl rfl (ay_cmp true rfl rfl rfl (by rw [her]; rfl)) ?_
   refine go 3 ?_
   refine wyy rfl rfl rfl (ay_cmp false rfl rfl rfl (by simp [cmpR]; omega)) ?_
   refine go 3 ?_
   refine wyy rfl rfl rfl (ay_cmp false rfl rfl rfl (by simp [cmpR]; omega)) ?_
   refine go 9 ?_
   refine wcP rfl rfl rfl rfl Tryz.call73 rfl (signP_c (_ :: _ :: A) _ _ _ l k4 dp e4 [93] hok hk4 he4) (by simp) (by simp [Sto.bl]) ?_
   rintro t17 s17 ⟨x17, k17, e17, rfl, hr17, hk17, he17, rfl⟩
   refine go 5 ?_
   refine wcP rfl rfl rfl rfl Tryz.call73 rfl (signP_c (_ :: _ :: A) _ _ _ l k17 dp e17 [59] hok hk17 he17) (by simp) (by simp [Sto.bl]) ?_
   rintro t18 s18 ⟨x18, k18, e18, rfl, hr18, hk18, he18, rfl⟩
   refine go 9 ?_
   exact ⟨.inr rfl, _, (PSt A B rw P l (k18) (dp) (e18)), (res_one rfl (resv_cell [_] rfl rfl Tryz.isAgg102 Tryz.sizeOf102 (pk_all rfl rfl))), subS_of (.cons _ (.cons _ (.refl _))) (.refl _), ⟨⟨x1, false, x4⟩, k18, e18, rfl, hr1.bind (.yes (fun _ => ⟨rfl, ha2⟩) (Run.from (Run.bind (x := x4) (hr4.bind (.no (fun _ => hsz) (Run.pure x4 _ _))) (hr17.bind (hr18.map (f := fun _ => AMutex.mk x1 false x4)))))), hk18, he18, rfl⟩⟩
 ·refine go 9 ?_
  refine wcP rfl rfl rfl rfl Tryz.call73 rfl (signP_c (_ :: _ :: A) _ _ _ l k1 dp e1 [59] hok hk1 he1) (by simp) (by simp [Sto.bl]) ?_
  rintro t20 s20 ⟨x20, k20, e20, rfl, hr20, hk20, he20, rfl⟩
  refine go 9 ?_
  exact ⟨.inr rfl, _, (PSt A B rw P l (k20) (dp) (e20)), (res_one rfl (resv_cell [_] rfl rfl Tryz.isAgg102 Tryz.sizeOf102 (pk_all rfl rfl))), subS_of (.cons _ (.cons _ (.refl _))) (.refl _), ⟨⟨x1, false, 0⟩, k20, e20, rfl, hr1.bind (.no (fun h => by rintro ⟨-, h9⟩; rw [ha2 h] at h9; cases h9) (hr20.map (f := fun _ => AMutex.mk x1 false 0))), hk20, he20, rfl⟩⟩
set_option maxRecDepth 100000 in
set_option maxHeartbeats 1600000 in
theorem limit_yes (A B : List Box) (rw : List ORow) (P : Nat) (l : List Tok) (k dp e : Nat) (n m : Nat) (he : e < 16) (hnm : m ≤ n) : ACall Tryz.prog 67 [.c (.val (.pointer (some ⟨P, 0, none⟩))), .c (.val (.int .i64 (n : Int))), .c (.val (.int .i64 (m : Int)))] [P] (PSt A B rw P l k dp e) fun t s => ∃ e1, FailP e 3 e1 ∧ t = .tup [] ∧ s = PSt A B rw P l k dp e1 := by
 refine acall_body Tryz.func67 rfl (Nat.le_of_ble_eq_true rfl) ?_
 show AWp Tryz.prog _ ⟨11, [P], ⟨A ++ ⟨P, 70, [.sl l.length (l.flatMap encT), .val (.int .i64 ((k : Nat) : Int)), .val (.int .i64 ((dp : Nat) : Int)), .val (.int .i64 ((e : Nat) : Int))]⟩ :: B, rw⟩, [(0, .c (.val (.pointer (some ⟨P, 0, none⟩)))), (1, .c (.val (.int .i64 (n : Int)))), (2, .c (.val (.int .i64 (m : Int))))]⟩ _
 refine go 4 ?_
 refine wyy rfl rfl rfl (ay_cmp true rfl rfl rfl (by simp [cmpR]; omega)) ?_
 refine go 5 ?_
 refine wcP rfl rfl rfl rfl Tryz.call68 rfl (failP_c (A) _ _ _ l k dp e 3) (by simp) (by simp [Sto.bl]) ?_
 rintro t2 s2 ⟨e2, hf2, rfl, rfl⟩
 refine go 1 ?_
 exact ⟨.inl rfl, _, (PSt A B rw P l (k) (dp) (e2)), res_none rfl, subS_of (.refl _) (.refl _), ⟨_, hf2, rfl, rfl⟩⟩
set_option maxRecDepth 100000 in
set_option maxHeartbeats 1600000 in
theorem limit_no (A B : List Box) (rw : List ORow) (P : Nat) (l : List Tok) (k dp e : Nat) (n m : Nat) (he : e < 16) (hnm : n < m) : ACall Tryz.prog 67 [.c (.val (.pointer (some ⟨P, 0, none⟩))), .c (.val (.int .i64 (n : Int))), .c (.val (.int .i64 (m : Int)))] [P] (PSt A B rw P l k dp e) fun t s => t = .tup [] ∧ s = PSt A B rw P l k dp e := by
 refine acall_body Tryz.func67 rfl (Nat.le_of_ble_eq_true rfl) ?_
 show AWp Tryz.prog _ ⟨11, [P], ⟨A ++ ⟨P, 70, [.sl l.length (l.flatMap encT), .val (.int .i64 ((k : Nat) : Int)), .val (.int .i64 ((dp : Nat) : Int)), .val (.int .i64 ((e : Nat) : Int))]⟩ :: B, rw⟩, [(0, .c (.val (.pointer (some ⟨P, 0, none⟩)))), (1, .c (.val (.int .i64 (n : Int)))), (2, .c (.val (.int .i64 (m : Int))))]⟩ _
 refine go 4 ?_
 refine wyy rfl rfl rfl (ay_cmp false rfl rfl rfl (by simp [cmpR]; omega)) ?_
 refine go 4 ?_
 exact ⟨.inl rfl, _, (PSt A B rw P l (k) (dp) (e)), res_none rfl, subS_of (.refl _) (.refl _), rfl, rfl⟩
end Go.Proofs.YtflcnehhpmjipaaGreatDoor
namespace Go.Proofs.YtflcnehhpmjipaaGreatDoor
open Go.RowKit
set_option synthInstance.maxHeartbeats 1000000
set_option synthInstance.maxSize 1000000
set_option linter.all false
theorem ay_len_row2 {P : Program} {U : List Nat} {o : Oper} {st : AS} {x : Operand} {t e E : TypeId} {v : Value} {z n : Nat} {cs : List AC} (A : List ORow) {B : List ORow} (ho : o.op = .call { callee := .builtin .len, args := #[x], argTypes := #[t] }) (hx : evA st x = some (.c (.val v))) (hrow : st.s.rows = A ++ ⟨v, E, z, n, cs⟩ :: B) (hu : ∀ w, (underlying t).run P w = .ok (.slice e) w) : AY P U o st (.c (.val (.int .i64 n))) :=
 ay_vals rfl fun a w hs w' => by
  obtain ⟨us, hown, -⟩ := hs.mem.row ⟨v, E, z, n, cs⟩ (by rw [hrow]; simp)
  have hv : ∃ p c, v = .slice p n c := by
   rcases hown.2 with ⟨h1, h2⟩ | ⟨g, cap, cur, h1, -⟩
   ·dsimp only at h1 h2; subst h2; exact ⟨_, _, h1⟩
   ·exact ⟨_, _, h1⟩
  obtain ⟨p, c, rfl⟩ := hv
  simp only [execOp, ho, resolve, List.map_toArray, List.map_cons, List.map_nil, hs.val hx]
  simp [go_sem, invoke, builtin, Builtin.len_, hu, goInt]
set_option maxRecDepth 100000 in
set_option maxHeartbeats 1600000 in
theorem kindN_s0 (A B : List Box) (rw : List ORow) (P : Nat) (l : List Tok) (k dp kk e : Nat) (sg : ByteArray) (hk : k < l.length) (he0 : e ≠ 0) : ACall Tryz.prog 66 [.c (.val (.pointer (some ⟨P, 0, none⟩))), .c (.val (.int .i64 (kk : Int))), .c (.val (.string sg))] [] (PSt A B rw P l k dp e) fun t s => t = .c (.val (.bool false)) ∧ s = PSt A B rw P l k dp e := by
 refine acall_body Tryz.func66 rfl (Nat.le_of_ble_eq_true rfl) ?_
 show AWp Tryz.prog _ ⟨42, [], ⟨A ++ ⟨P, 70, [.sl l.length (l.flatMap encT), .val (.int .i64 ((k : Nat) : Int)), .val (.int .i64 ((dp : Nat) : Int)), .val (.int .i64 ((e : Nat) : Int))]⟩ :: B, rw⟩, [(0, .c (.val (.pointer (some ⟨P, 0, none⟩)))), (1, .c (.val (.int .i64 (kk : Int)))), (2, .c (.val (.string sg)))]⟩ _
 refine go 6 ?_
 refine aw_region_drew [P] (by kernel_rfl) ?_
 refine tks [(0, true), (1, true), (2, true), (3, true)] 32 (by kernel_rfl) ?_
 refine go 5 ?_
 refine tq 4 (by kernel_rfl) rfl rfl rfl rfl (ay_cmp false rfl rfl rfl (eq_nat0 he0)) ?_
 refine tks [(5, true), (6, true), (7, true), (8, true), (9, true), (10, true), (11, true), (12, true), (13, true), (14, true), (15, true), (16, true), (17, true), (18, true), (19, true), (20, true), (21, true), (22, true), (23, true), (24, true), (25, true), (26, true), (27, true), (28, true), (29, true), (30, true), (31, true), (32, true), (33, true), (34, true), (35, true)] 0 (by kernel_rfl) ?_
 refine go 32 ?_
 refine any_done (by kernel_rfl) ?_
 refine go 2 ?_
 exact ⟨.inr rfl, _, (PSt A B rw P l (k) (dp) (e)), res_one rfl (resv_tmp rfl), subS_of (.refl _) (.refl _), rfl, rfl⟩
set_option maxRecDepth 100000 in
set_option maxHeartbeats 1600000 in
theorem kindN_00 (A B : List Box) (rw : List ORow) (P : Nat) (l : List Tok) (k dp kk : Nat) (sg : ByteArray) (hk : k < l.length) (h4 : ¬ l[k].kind = kk) : ACall Tryz.prog 66 [.c (.val (.pointer (some ⟨P, 0, none⟩))), .c (.val (.int .i64 (kk : Int))), .c (.val (.string sg))] [] (PSt A B rw P l k dp 0) fun t s => t = .c (.val (.bool false)) ∧ s = PSt A B rw P l k dp 0 := by
 refine acall_body Tryz.func66 rfl (Nat.le_of_ble_eq_true rfl) ?_
 show AWp Tryz.prog _ ⟨42, [], ⟨A ++ ⟨P, 70, [.sl l.length (l.flatMap encT), .val (.int .i64 ((k : Nat) : Int)), .val (.int .i64 ((dp : Nat) : Int)), .val (.int .i64 ((0 : Nat) : Int))]⟩ :: B, rw⟩, [(0, .c (.val (.pointer (some ⟨P, 0, none⟩)))), (1, .c (.val (.int .i64 (kk : Int)))), (2, .c (.val (.string sg)))]⟩ _
 refine go 6 ?_
 refine aw_region_drew [P] (by kernel_rfl) ?_
 refine tks [(0, true), (1, true), (2, true), (3, true)] 32 (by kernel_rfl) ?_
 refine go 5 ?_
 refine tq 4 (by kernel_rfl) rfl rfl rfl rfl (ay_cmp true rfl rfl rfl (by rfl)) ?_
 refine tks [(5, true), (6, true), (7, true), (8, true), (9, true), (10, true), (11, true), (12, true), (13, true)] 22 (by kernel_rfl) ?_
 refine go 10 ?_
 refine tq 14 (by kernel_rfl) rfl rfl rfl rfl (ay_ix encT encT l encT_len (fun _ => rfl) (k) rfl rfl rfl rfl hk (by decide) Tryz.runUnderlying47 Tryz.sizeOf72) ?_
 refine tks [(15, true), (16, true), (17, true)] 18 (by kernel_rfl) ?_
 refine go 4 ?_
 refine tq 18 (by kernel_rfl) rfl rfl rfl rfl (ay_cmp false rfl rfl rfl (by rw [show cmpR .eql ((l[k].kind : Nat) : Int) ((kk : Nat) : Int) = some (decide (l[k].kind = kk)) from cmp_nat, decide_eq_false h4])) ?_
 refine tks [(19, true), (20, true), (21, true), (22, true), (23, true), (24, true), (25, true), (26, true), (27, true), (28, true), (29, true), (30, true), (31, true), (32, true), (33, true), (34, true), (35, true)] 0 (by kernel_rfl) ?_
 refine go 18 ?_
 refine any_done (by kernel_rfl) ?_
 refine go 2 ?_
 exact ⟨.inr rfl, _, (PSt A B rw P l (k) (dp) (0)), res_one rfl (resv_tmp rfl), subS_of (.refl _) (.refl _), rfl, rfl⟩
set_option maxRecDepth 100000 in
set_option maxHeartbeats 1600000 in
theorem kindN_y0 (A B : List Box) (rw : List ORow) (P : Nat) (l : List Tok) (k dp kk : Nat) (sg : ByteArray) (hk : k < l.length) (h4 : l[k].kind = kk) (ht : l[k].text = sg) : ACall Tryz.prog 66 [.c (.val (.pointer (some ⟨P, 0, none⟩))), .c (.val (.int .i64 (kk : Int))), .c (.val (.string sg))] [] (PSt A B rw P l k dp 0) fun t s => t = .c (.val (.bool true)) ∧ s = PSt A B rw P l k dp 0 := by
 refine acall_body Tryz.func66 rfl (Nat.le_of_ble_eq_true rfl) ?_
 show AWp Tryz.prog _ ⟨42, [], ⟨A ++ ⟨P, 70, [.sl l.length (l.flatMap encT), .val (.int .i64 ((k : Nat) : Int)), .val (.int .i64 ((dp : Nat) : Int)), .val (.int .i64 ((0 : Nat) : Int))]⟩ :: B, rw⟩, [(0, .c (.val (.pointer (some ⟨P, 0, none⟩)))), (1, .c (.val (.int .i64 (kk : Int)))), (2, .c (.val (.string sg)))]⟩ _
 refine go 6 ?_
 refine aw_region_drew [P] (by kernel_rfl) ?_
 refine tks [(0, true), (1, true), (2, true), (3, true)] 32 (by kernel_rfl) ?_
 refine go 5 ?_
 refine tq 4 (by kernel_rfl) rfl rfl rfl rfl (ay_cmp true rfl rfl rfl (by rfl)) ?_
 refine tks [(5, true), (6, true), (7, true), (8, true), (9, true), (10, true), (11, true), (12, true), (13, true)] 22 (by kernel_rfl) ?_
 refine go 10 ?_
 refine tq 14 (by kernel_rfl) rfl rfl rfl rfl (ay_ix encT encT l encT_len (fun _ => rfl) (k) rfl rfl rfl rfl hk (by decide) Tryz.runUnderlying47 Tryz.sizeOf72) ?_
 refine tks [(15, true), (16, true), (17, true)] 18 (by kernel_rfl) ?_
 refine go 4 ?_
 refine tq 18 (by kernel_rfl) rfl rfl rfl rfl (ay_cmp true rfl rfl rfl (by rw [h4]; simp [cmpR])) ?_
 refine tks [(19, true), (20, true), (21, true), (22, true), (23, true), (24, true), (25, true), (26, true), (27, true), (28, true)] 7 (by kernel_rfl) ?_
 refine go 11 ?_
 refine tq 29 (by kernel_rfl) rfl rfl rfl rfl (ay_ix encT encT l encT_len (fun _ => rfl) (k) rfl rfl rfl rfl hk (by decide) Tryz.runUnderlying47 Tryz.sizeOf72) ?_
 refine tks [(30, true), (31, true), (32, true)] 3 (by kernel_rfl) ?_
 refine go 4 ?_
 refine tq 33 (by kernel_rfl) rfl rfl rfl rfl (ay_streq true rfl rfl rfl (by rw [ht]; simp [strR])) ?_
 refine tks [(34, true), (35, true)] 0 (by kernel_rfl) ?_
 refine go 3 ?_
 refine any_done (by kernel_rfl) ?_
 refine go 2 ?_
 exact ⟨.inr rfl, _, (PSt A B rw P l (k) (dp) (0)), res_one rfl (resv_tmp rfl), subS_of (.refl _) (.refl _), rfl, rfl⟩
set_option maxRecDepth 100000 in
set_option maxHeartbeats 1600000 in
theorem kindN_n0 (A B : List Box) (rw : List ORow) (P : Nat) (l : List Tok) (k dp kk : Nat) (sg : ByteArray) (hk : k < l.length) (h4 : l[k].kind = kk) (ht : ¬ l[k].text = sg) : ACall Tryz.prog 66 [.c (.val (.pointer (some ⟨P, 0, none⟩))), .c (.val (.int .i64 (kk : Int))), .c (.val (.string sg))] [] (PSt A B rw P l k dp 0) fun t s => t = .c (.val (.bool false)) ∧ s = PSt A B rw P l k dp 0 := by
 refine acall_body Tryz.func66 rfl (Nat.le_of_ble_eq_true rfl) ?_
 show AWp Tryz.prog _ ⟨42, [], ⟨A ++ ⟨P, 70, [.sl l.length (l.flatMap encT), .val (.int .i64 ((k : Nat) : Int)), .val (.int .i64 ((dp : Nat) : Int)), .val (.int .i64 ((0 : Nat) : Int))]⟩ :: B, rw⟩, [(0, .c (.val (.pointer (some ⟨P, 0, none⟩)))), (1, .c (.val (.int .i64 (kk : Int)))), (2, .c (.val (.string sg)))]⟩ _
 refine go 6 ?_
 refine aw_region_drew [P] (by kernel_rfl) ?_
 refine tks [(0, true), (1, true), (2, true), (3, true)] 32 (by kernel_rfl) ?_
 refine go 5 ?_
 refine tq 4 (by kernel_rfl) rfl rfl rfl rfl (ay_cmp true rfl rfl rfl (by rfl)) ?_
 refine tks [(5, true), (6, true), (7, true), (8, true), (9, true), (10, true), (11, true), (12, true), (13, true)] 22 (by kernel_rfl) ?_
 refine go 10 ?_
 refine tq 14 (by kernel_rfl) rfl rfl rfl rfl (ay_ix encT encT l encT_len (fun _ => rfl) (k) rfl rfl rfl rfl hk (by decide) Tryz.runUnderlying47 Tryz.sizeOf72) ?_
 refine tks [(15, true), (16, true), (17, true)] 18 (by kernel_rfl) ?_
 refine go 4 ?_
 refine tq 18 (by kernel_rfl) rfl rfl rfl rfl (ay_cmp true rfl rfl rfl (by rw [h4]; simp [cmpR])) ?_
 refine tks [(19, true), (20, true), (21, true), (22, true), (23, true), (24, true), (25, true), (26, true), (27, true), (28, true)] 7 (by kernel_rfl) ?_
 refine go 11 ?_
 refine tq 29 (by kernel_rfl) rfl rfl rfl rfl (ay_ix encT encT l encT_len (fun _ => rfl) (k) rfl rfl rfl rfl hk (by decide) Tryz.runUnderlying47 Tryz.sizeOf72) ?_
 refine tks [(30, true), (31, true), (32, true)] 3 (by kernel_rfl) ?_
 refine go 4 ?_
 refine tq 33 (by kernel_rfl) rfl rfl rfl rfl (ay_streq false rfl rfl rfl (by simp [strR, ht])) ?_
 refine tks [(34, true), (35, true)] 0 (by kernel_rfl) ?_
 refine go 3 ?_
 refine any_done (by kernel_rfl) ?_
 refine go 2 ?_
 exact ⟨.inr rfl, _, (PSt A B rw P l (k) (dp) (0)), res_one rfl (resv_tmp rfl), subS_of (.refl _) (.refl _), rfl, rfl⟩
theorem kindN_w (A B : List Box) (rw : List ORow) (P : Nat) (l : List Tok) (k dp e : Nat) (sg : List UInt8) (hk : k < l.length) : ACall Tryz.prog 66 [.c (.val (.pointer (some ⟨P, 0, none⟩))), .c (.val (.int .i64 3)), .c (.val (.string (bytes sg)))] [] (PSt A B rw P l k dp e) fun t s => (e = 0 ∧ wordAt l k sg = true ∧ t = .c (.val (.bool true)) ∧ s = PSt A B rw P l k dp e) ∨ ((e = 0 → wordAt l k sg = false) ∧ t = .c (.val (.bool false)) ∧ s = PSt A B rw P l k dp e) := by
 unfold wordAt
 rw [tokAt_lt hk]
 by_cases he : e = 0
 ·subst he
  by_cases h4 : l[k].kind = 3
  ·by_cases ht : l[k].text = bytes sg
   ·exact (kindN_y0 A B rw P l k dp 3 _ hk h4 ht).mono fun t s h => .inl ⟨rfl, by simp [h4, ht], h⟩
   ·exact (kindN_n0 A B rw P l k dp 3 _ hk h4 ht).mono fun t s h => .inr ⟨fun _ => by simp [ht], h⟩
  ·exact (kindN_00 A B rw P l k dp 3 _ hk h4).mono fun t s h => .inr ⟨fun _ => by simp [h4], h⟩
 ·exact (kindN_s0 A B rw P l k dp 3 e _ hk he).mono fun t s h => .inr ⟨fun h0 => absurd h0 he, h⟩
set_option maxRecDepth 100000 in
set_option maxHeartbeats 1600000 in
theorem parF_1 (A B : List Box) (rw : List ORow) (P : Nat) (l : List Tok) (k dp c1 c2 c3 : Nat) (T2 : TypeId) (cs2 : List AC) (nm : ByteArray) (v : Value) (acc : List AParam) (hok : TOk l) (hk : k < l.length) (hal : acc.length ≤ 1000000) (h1 : l[k].kind = 1) : ACall Tryz.prog 104 [.c (.val (.pointer (some ⟨c1, 0, none⟩))), .c (.val (.pointer (some ⟨c3, 0, none⟩)))] (rowB v ++ ([c3] ++ [P])) (PSt (⟨c3, 65, [.val (.string nm), .val v, .val (.slice none 0 0)]⟩ :: ⟨c2, T2, cs2⟩ :: ⟨c1, 68, [.val (.pointer (some ⟨P, 0, none⟩))]⟩ :: A) B (⟨v, 106, 2, (acc).length, (acc).flatMap encP⟩ :: rw) P l k dp 0) fun t s => ∃ x v' k' e', t = .tup [] ∧ Run 0 k (paramP l acc.length k) x k' e' ∧ k' < l.length ∧ e' < 16 ∧ s = PSt (⟨c3, 65, [.val (.string nm), .val v', .val (.slice none 0 0)]⟩ :: ⟨c2, T2, cs2⟩ :: ⟨c1, 68, [.val (.pointer (some ⟨P, 0, none⟩))]⟩ :: A) B (⟨v', 106, 2, (acc ++ [x]).length, (acc ++ [x]).flatMap encP⟩ :: rw) P l k' dp e' := by
 have hlen := hok.len
 have he : (0 : Nat) < 16 := by decide
 refine acall_body Tryz.func104 rfl (Nat.le_of_ble_eq_true rfl) ?_
 show AWp Tryz.prog _ ⟨36, rowB v ++ ([c3] ++ [P]), ⟨⟨c3, 65, [.val (.string nm), .val v, .val (.slice none 0 0)]⟩ :: ⟨c2, T2, cs2⟩ :: ⟨c1, 68, [.val (.pointer (some ⟨P, 0, none⟩))]⟩ :: (A ++ ⟨P, 70, [.sl l.length (l.flatMap encT), .val (.int .i64 ((k : Nat) : Int)), .val (.int .i64 ((dp : Nat) : Int)), .val (.int .i64 ((0 : Nat) : Int))]⟩ :: B), ⟨v, 106, 2, (acc).length, (acc).flatMap encP⟩ :: rw⟩, [(0, .c (.val (.pointer (some ⟨c1, 0, none⟩)))), (1, .c (.val (.pointer (some ⟨c3, 0, none⟩))))]⟩ _
 refine go 2 ?_
 refine aw_region_drew [c3, c2, c1, P] (by kernel_rfl) ?_
 refine tks [(0, true), (1, true), (2, true), (3, true), (4, true), (5, true), (6, true), (7, true)] 8 (by kernel_rfl) ?_
 refine go 9 ?_
 refine tq 8 (by kernel_rfl) rfl rfl rfl rfl (ay_ix encT encT l encT_len (fun _ => rfl) (k) rfl rfl rfl rfl hk (by decide) Tryz.runUnderlying47 Tryz.sizeOf72) ?_
 refine tks [(9, true), (10, true)] 5 (by kernel_rfl) ?_
 refine go 3 ?_
 refine tq 11 (by kernel_rfl) rfl rfl rfl rfl (ay_cmp true rfl rfl rfl (by rw [h1]; rfl)) ?_
 refine tks [(12, true), (13, true), (14, true), (15, true)] 0 (by kernel_rfl) ?_
 refine go 5 ?_
 refine any_done (by kernel_rfl) ?_
 refine go 3 ?_
 by_cases h6 : 6 ≤ acc.length
 ·skip
  refine go 3 ?_
  refine wyy rfl rfl rfl (ay_len_row2 [] rfl rfl rfl Tryz.runUnderlying63) ?_
  refine wcP rfl rfl rfl rfl Tryz.call67 rfl (limit_yes (_ :: _ :: _ :: A) _ _ _ l k dp 0 acc.length 6 (by decide) h6) (by simp) (by simp [Sto.bl]) ?_
  rintro t2 s2 ⟨e2, hf2, rfl, rfl⟩
  obtain rfl := hf2.1 rfl
  refine go 5 ?_
  refine wcP rfl rfl rfl rfl Tryz.call105 rfl (word_c (_ :: _ :: _ :: A) _ _ _ l k dp 3 [109, 117, 116, 101, 120] hok hk) (by simp) (by simp [Sto.bl]) ?_
  rintro t3 s3 (⟨hz3, -⟩ | ⟨ha3, rfl, rfl⟩)
  ·exact absurd hz3 (by decide)
  ·refine go 8 fun b1 => ?_
   refine wcP rfl rfl rfl rfl Tryz.call101 rfl (nameP_c (_ :: _ :: _ :: _ :: A) _ _ _ l k dp 3 hok hk (by decide)) (by simp) (by simp [Sto.bl]) ?_
   rintro t4 s4 ⟨x4, k4, e4, rfl, hr4, hk4, he4, rfl⟩
   refine go 5 ?_
   have hel : Run 0 k (paramP l acc.length k) (AParam.mk x4 false) k4 e4 := hr4.badP (by decide) (by unfold paramP; rw [if_pos ⟨h6, .inl (by rw [tokAt_lt hk]; exact h1)⟩]) k
   refine go 3 ?_
   refine wo rfl (wbs Tryz.t106 [.val (.string ⟨#[]⟩), .val (.bool false)] rfl rfl (by decide) (.cons rfl .nil) Tryz.underlying63 (by kernel_rfl) rfl (by decide) (by decide) (by kernel_rfl) (by kernel_rfl) (fill_one encP encP (AParam.mk x4 false) rfl rfl rfl) ?_)
   refine wo rfl (wapI [] Tryz.t106 24 rfl rfl (by decide) rfl rfl Tryz.underlying63 (by kernel_rfl) rfl rfl rfl rfl (by decide) rfl (by decide) (by unfold maxLen; skip; omega) (by skip; omega) (@List.length_append _ acc [(AParam.mk x4 false)]).symm (fun _ b hb => by simp [hb]) (fun b hb => by simp [hb]) (List.flatMap_append (f := encP)).symm fun v5 => ?_)
   refine go 3 ?_
   exact ⟨.inl rfl, _, PSt (⟨c3, 65, [.val (.string nm), .val v5, .val (.slice none 0 0)]⟩ :: ⟨c2, T2, cs2⟩ :: ⟨c1, 68, [.val (.pointer (some ⟨P, 0, none⟩))]⟩ :: A) B (⟨v5, 106, 2, (acc ++ [(AParam.mk x4 false)]).length, (acc ++ [(AParam.mk x4 false)]).flatMap encP⟩ :: rw) P l (k4) dp (e4), res_none rfl, subS_of (.cons _ (.refl _)) (.refl _), ⟨(AParam.mk x4 false), v5, k4, e4, rfl, hel, hk4, he4, rfl⟩⟩
 ·skip
  refine go 3 ?_
  refine wyy rfl rfl rfl (ay_len_row2 [] rfl rfl rfl Tryz.runUnderlying63) ?_
  refine wcP rfl rfl rfl rfl Tryz.call67 rfl (limit_no (_ :: _ :: _ :: A) _ _ _ l k dp 0 acc.length 6 (by decide) (by omega)) (by simp) (by simp [Sto.bl]) ?_
  rintro t6 s6 ⟨rfl, rfl⟩
  refine go 5 ?_
  refine wcP rfl rfl rfl rfl Tryz.call105 rfl (word_c (_ :: _ :: _ :: A) _ _ _ l k dp 0 [109, 117, 116, 101, 120] hok hk) (by simp) (by simp [Sto.bl]) ?_
  rintro t7 s7 (⟨-, ha7, hm7, rfl, rfl⟩ | ⟨ha7, rfl, rfl⟩)
  ·refine go 8 fun b2 => ?_
   refine wcP rfl rfl rfl rfl Tryz.call101 rfl (nameP_c (_ :: _ :: _ :: _ :: A) _ _ _ l (k + 1) dp 0 hok hm7 (by decide)) (by simp) (by simp [Sto.bl]) ?_
   rintro t8 s8 ⟨x8, k8, e8, rfl, hr8, hk8, he8, rfl⟩
   refine go 5 ?_
   have hel : Run 0 k (paramP l acc.length k) (AParam.mk x8 true) k8 e8 := (Run.from (hr8.map (f := fun s => AParam.mk s true))).eq fun _ => by unfold paramP; rw [if_neg (fun hh => absurd hh.1 h6), if_pos ha7]
   refine go 3 ?_
   refine wo rfl (wbs Tryz.t106 [.val (.string ⟨#[]⟩), .val (.bool false)] rfl rfl (by decide) (.cons rfl .nil) Tryz.underlying63 (by kernel_rfl) rfl (by decide) (by decide) (by kernel_rfl) (by kernel_rfl) (fill_one encP encP (AParam.mk x8 true) rfl rfl rfl) ?_)
   refine wo rfl (wapI [] Tryz.t106 24 rfl rfl (by decide) rfl rfl Tryz.underlying63 (by kernel_rfl) rfl rfl rfl rfl (by decide) rfl (by decide) (by unfold maxLen; skip; omega) (by skip; omega) (@List.length_append _ acc [(AParam.mk x8 true)]).symm (fun _ b hb => by simp [hb]) (fun b hb => by simp [hb]) (List.flatMap_append (f := encP)).symm fun v9 => ?_)
   refine go 3 ?_
   exact ⟨.inl rfl, _, PSt (⟨c3, 65, [.val (.string nm), .val v9, .val (.slice none 0 0)]⟩ :: ⟨c2, T2, cs2⟩ :: ⟨c1, 68, [.val (.pointer (some ⟨P, 0, none⟩))]⟩ :: A) B (⟨v9, 106, 2, (acc ++ [(AParam.mk x8 true)]).length, (acc ++ [(AParam.mk x8 true)]).flatMap encP⟩ :: rw) P l (k8) dp (e8), res_none rfl, subS_of (.cons _ (.refl _)) (.refl _), ⟨(AParam.mk x8 true), v9, k8, e8, rfl, hel, hk8, he8, rfl⟩⟩
  ·refine go 8 fun b3 => ?_
   refine wcP rfl rfl rfl rfl Tryz.call101 rfl (nameP_c (_ :: _ :: _ :: _ :: A) _ _ _ l k dp 0 hok hk he) (by simp) (by simp [Sto.bl]) ?_
   rintro t10 s10 ⟨x10, k10, e10, rfl, hr10, hk10, he10, rfl⟩
   refine go 5 ?_
   have hel : Run 0 k (paramP l acc.length k) (AParam.mk x10 false) k10 e10 := (hr10.map (f := fun s => AParam.mk s false)).eq fun _ => by unfold paramP; rw [if_neg (fun hh => absurd hh.1 h6), if_neg (by rw [ha7 rfl]; decide)]
   refine go 3 ?_
   refine wo rfl (wbs Tryz.t106 [.val (.string ⟨#[]⟩), .val (.bool false)] rfl rfl (by decide) (.cons rfl .nil) Tryz.underlying63 (by kernel_rfl) rfl (by decide) (by decide) (by kernel_rfl) (by kernel_rfl) (fill_one encP encP (AParam.mk x10 false) rfl rfl rfl) ?_)
   refine wo rfl (wapI [] Tryz.t106 24 rfl rfl (by decide) rfl rfl Tryz.underlying63 (by kernel_rfl) rfl rfl rfl rfl (by decide) rfl (by decide) (by unfold maxLen; skip; omega) (by skip; omega) (@List.length_append _ acc [(AParam.mk x10 false)]).symm (fun _ b hb => by simp [hb]) (fun b hb => by simp [hb]) (List.flatMap_append (f := encP)).symm fun v11 => ?_)
   refine go 3 ?_
   exact ⟨.inl rfl, _, PSt (⟨c3, 65, [.val (.string nm), .val v11, .val (.slice none 0 0)]⟩ :: ⟨c2, T2, cs2⟩ :: ⟨c1, 68, [.val (.pointer (some ⟨P, 0, none⟩))]⟩ :: A) B (⟨v11, 106, 2, (acc ++ [(AParam.mk x10 false)]).length, (acc ++ [(AParam.mk x10 false)]).flatMap encP⟩ :: rw) P l (k10) dp (e10), res_none rfl, subS_of (.cons _ (.refl _)) (.refl _), ⟨(AParam.mk x10 false), v11, k10, e10, rfl, hel, hk10, he10, rfl⟩⟩
set_option maxRecDepth 100000 in
set_option maxHeartbeats 1600000 in
theorem parF_0 (A B : List Box) (rw : List ORow) (P : Nat) (l : List Tok) (k dp c1 c2 c3 : Nat) (T2 : TypeId) (cs2 : List AC) (nm : ByteArray) (v : Value) (acc : List AParam) (hok : TOk l) (hk : k < l.length) (hal : acc.length ≤ 1000000) (h1 : ¬ l[k].kind = 1) : ACall Tryz.prog 104 [.c (.val (.pointer (some ⟨c1, 0, none⟩))), .c (.val (.pointer (some ⟨c3, 0, none⟩)))] (rowB v ++ ([c3] ++ [P])) (PSt (⟨c3, 65, [.val (.string nm), .val v, .val (.slice none 0 0)]⟩ :: ⟨c2, T2, cs2⟩ :: ⟨c1, 68, [.val (.pointer (some ⟨P, 0, none⟩))]⟩ :: A) B (⟨v, 106, 2, (acc).length, (acc).flatMap encP⟩ :: rw) P l k dp 0) fun t s => ∃ x v' k' e', t = .tup [] ∧ Run 0 k (paramP l acc.length k) x k' e' ∧ k' < l.length ∧ e' < 16 ∧ s = PSt (⟨c3, 65, [.val (.string nm), .val v', .val (.slice none 0 0)]⟩ :: ⟨c2, T2, cs2⟩ :: ⟨c1, 68, [.val (.pointer (some ⟨P, 0, none⟩))]⟩ :: A) B (⟨v', 106, 2, (acc ++ [x]).length, (acc ++ [x]).flatMap encP⟩ :: rw) P l k' dp e' := by
 have hlen := hok.len
 have he : (0 : Nat) < 16 := by decide
 refine acall_body Tryz.func104 rfl (Nat.le_of_ble_eq_true rfl) ?_
 show AWp Tryz.prog _ ⟨36, rowB v ++ ([c3] ++ [P]), ⟨⟨c3, 65, [.val (.string nm), .val v, .val (.slice none 0 0)]⟩ :: ⟨c2, T2, cs2⟩ :: ⟨c1, 68, [.val (.pointer (some ⟨P, 0, none⟩))]⟩ :: (A ++ ⟨P, 70, [.sl l.length (l.flatMap encT), .val (.int .i64 ((k : Nat) : Int)), .val (.int .i64 ((dp : Nat) : Int)), .val (.int .i64 ((0 : Nat) : Int))]⟩ :: B), ⟨v, 106, 2, (acc).length, (acc).flatMap encP⟩ :: rw⟩, [(0, .c (.val (.pointer (some ⟨c1, 0, none⟩)))), (1, .c (.val (.pointer (some ⟨c3, 0, none⟩))))]⟩ _
 refine go 2 ?_
 refine aw_region_drew [c3, c2, c1, P] (by kernel_rfl) ?_
 refine tks [(0, true), (1, true), (2, true), (3, true), (4, true), (5, true), (6, true), (7, true)] 8 (by kernel_rfl) ?_
 refine go 9 ?_
 refine tq 8 (by kernel_rfl) rfl rfl rfl rfl (ay_ix encT encT l encT_len (fun _ => rfl) (k) rfl rfl rfl rfl hk (by decide) Tryz.runUnderlying47 Tryz.sizeOf72) ?_
 refine tks [(9, true), (10, true)] 5 (by kernel_rfl) ?_
 refine go 3 ?_
 refine tq 11 (by kernel_rfl) rfl rfl rfl rfl (ay_cmp false rfl rfl rfl (by rw [show cmpR .eql ((l[k].kind : Nat) : Int) 1 = some (decide (l[k].kind = 1)) from cmp_nat (n := 1), decide_eq_false h1])) ?_
 refine tks [(12, true), (13, true)] 2 (by kernel_rfl) ?_
 refine go 3 ?_
 refine one 14 (by kernel_rfl) rfl rfl (wcall [] rfl rfl (by decide) Tryz.call66 rfl (kindN_w (_ :: _ :: _ :: A) _ _ _ l k dp 0 [109, 117, 116, 101, 120] hk) (fun _ h => by cases h) (fun _ h => by cases h) (fun _ _ h => by cases h) ?_)
 rintro t1 s1 (⟨-, ha1, rfl, rfl⟩ | ⟨ha1, rfl, rfl⟩)
 ·refine tks [(15, true)] 0 (by kernel_rfl) ?_
  refine go 2 ?_
  refine any_done (by kernel_rfl) ?_
  refine go 3 ?_
  by_cases h6 : 6 ≤ acc.length
  ·skip
   refine go 3 ?_
   refine wyy rfl rfl rfl (ay_len_row2 [] rfl rfl rfl Tryz.runUnderlying63) ?_
   refine wcP rfl rfl rfl rfl Tryz.call67 rfl (limit_yes (_ :: _ :: _ :: A) _ _ _ l k dp 0 acc.length 6 (by decide) h6) (by simp) (by simp [Sto.bl]) ?_
   rintro t3 s3 ⟨e3, hf3, rfl, rfl⟩
   obtain rfl := hf3.1 rfl
   refine go 5 ?_
   refine wcP rfl rfl rfl rfl Tryz.call105 rfl (word_c (_ :: _ :: _ :: A) _ _ _ l k dp 3 [109, 117, 116, 101, 120] hok hk) (by simp) (by simp [Sto.bl]) ?_
   rintro t4 s4 (⟨hz4, -⟩ | ⟨ha4, rfl, rfl⟩)
   ·exact absurd hz4 (by decide)
   ·refine go 8 fun b1 => ?_
    refine wcP rfl rfl rfl rfl Tryz.call101 rfl (nameP_c (_ :: _ :: _ :: _ :: A) _ _ _ l k dp 3 hok hk (by decide)) (by simp) (by simp [Sto.bl]) ?_
    rintro t5 s5 ⟨x5, k5, e5, rfl, hr5, hk5, he5, rfl⟩
    refine go 5 ?_
    have hel : Run 0 k (paramP l acc.length k) (AParam.mk x5 false) k5 e5 := hr5.badP (by decide) (by unfold paramP; rw [if_pos ⟨h6, .inr ha1⟩]) k
    refine go 3 ?_
    refine wo rfl (wbs Tryz.t106 [.val (.string ⟨#[]⟩), .val (.bool false)] rfl rfl (by decide) (.cons rfl .nil) Tryz.underlying63 (by kernel_rfl) rfl (by decide) (by decide) (by kernel_rfl) (by kernel_rfl) (fill_one encP encP (AParam.mk x5 false) rfl rfl rfl) ?_)
    refine wo rfl (wapI [] Tryz.t106 24 rfl rfl (by decide) rfl rfl Tryz.underlying63 (by kernel_rfl) rfl rfl rfl rfl (by decide) rfl (by decide) (by unfold maxLen; skip; omega) (by skip; omega) (@List.length_append _ acc [(AParam.mk x5 false)]).symm (fun _ b hb => by simp [hb]) (fun b hb => by simp [hb]) (List.flatMap_append (f := encP)).symm fun v6 => ?_)
    refine go 3 ?_
    exact ⟨.inl rfl, _, PSt (⟨c3, 65, [.val (.string nm), .val v6, .val (.slice none 0 0)]⟩ :: ⟨c2, T2, cs2⟩ :: ⟨c1, 68, [.val (.pointer (some ⟨P, 0, none⟩))]⟩ :: A) B (⟨v6, 106, 2, (acc ++ [(AParam.mk x5 false)]).length, (acc ++ [(AParam.mk x5 false)]).flatMap encP⟩ :: rw) P l (k5) dp (e5), res_none rfl, subS_of (.cons _ (.refl _)) (.refl _), ⟨(AParam.mk x5 false), v6, k5, e5, rfl, hel, hk5, he5, rfl⟩⟩
  ·skip
   refine go 3 ?_
   refine wyy rfl rfl rfl (ay_len_row2 [] rfl rfl rfl Tryz.runUnderlying63) ?_
   refine wcP rfl rfl rfl rfl Tryz.call67 rfl (limit_no (_ :: _ :: _ :: A) _ _ _ l k dp 0 acc.length 6 (by decide) (by omega)) (by simp) (by simp [Sto.bl]) ?_
   rintro t7 s7 ⟨rfl, rfl⟩
   refine go 5 ?_
   refine wcP rfl rfl rfl rfl Tryz.call105 rfl (word_c (_ :: _ :: _ :: A) _ _ _ l k dp 0 [109, 117, 116, 101, 120] hok hk) (by simp) (by simp [Sto.bl]) ?_
   rintro t8 s8 (⟨-, ha8, hm8, rfl, rfl⟩ | ⟨ha8, rfl, rfl⟩)
   ·refine go 8 fun b2 => ?_
    refine wcP rfl rfl rfl rfl Tryz.call101 rfl (nameP_c (_ :: _ :: _ :: _ :: A) _ _ _ l (k + 1) dp 0 hok hm8 (by decide)) (by simp) (by simp [Sto.bl]) ?_
    rintro t9 s9 ⟨x9, k9, e9, rfl, hr9, hk9, he9, rfl⟩
    refine go 5 ?_
    have hel : Run 0 k (paramP l acc.length k) (AParam.mk x9 true) k9 e9 := (Run.from (hr9.map (f := fun s => AParam.mk s true))).eq fun _ => by unfold paramP; rw [if_neg (fun hh => absurd hh.1 h6), if_pos ha8]
    refine go 3 ?_
    refine wo rfl (wbs Tryz.t106 [.val (.string ⟨#[]⟩), .val (.bool false)] rfl rfl (by decide) (.cons rfl .nil) Tryz.underlying63 (by kernel_rfl) rfl (by decide) (by decide) (by kernel_rfl) (by kernel_rfl) (fill_one encP encP (AParam.mk x9 true) rfl rfl rfl) ?_)
    refine wo rfl (wapI [] Tryz.t106 24 rfl rfl (by decide) rfl rfl Tryz.underlying63 (by kernel_rfl) rfl rfl rfl rfl (by decide) rfl (by decide) (by unfold maxLen; skip; omega) (by skip; omega) (@List.length_append _ acc [(AParam.mk x9 true)]).symm (fun _ b hb => by simp [hb]) (fun b hb => by simp [hb]) (List.flatMap_append (f := encP)).symm fun v10 => ?_)
    refine go 3 ?_
    exact ⟨.inl rfl, _, PSt (⟨c3, 65, [.val (.string nm), .val v10, .val (.slice none 0 0)]⟩ :: ⟨c2, T2, cs2⟩ :: ⟨c1, 68, [.val (.pointer (some ⟨P, 0, none⟩))]⟩ :: A) B (⟨v10, 106, 2, (acc ++ [(AParam.mk x9 true)]).length, (acc ++ [(AParam.mk x9 true)]).flatMap encP⟩ :: rw) P l (k9) dp (e9), res_none rfl, subS_of (.cons _ (.refl _)) (.refl _), ⟨(AParam.mk x9 true), v10, k9, e9, rfl, hel, hk9, he9, rfl⟩⟩
   ·exact absurd (ha8 rfl) (by rw [ha1]; decide)
 ·refine tks [(15, true)] 0 (by kernel_rfl) ?_
  refine go 2 ?_
  refine any_done (by kernel_rfl) ?_
  refine go 7 ?_
  refine wcP rfl rfl rfl rfl Tryz.call105 rfl (word_c (_ :: _ :: _ :: A) _ _ _ l k dp 0 [109, 117, 116, 101, 120] hok hk) (by simp) (by simp [Sto.bl]) ?_
  rintro t12 s12 (⟨-, ha12, hm12, rfl, rfl⟩ | ⟨ha12, rfl, rfl⟩)
  ·exact absurd ha12 (by rw [(ha1 rfl)]; decide)
  ·refine go 8 fun b3 => ?_
   refine wcP rfl rfl rfl rfl Tryz.call101 rfl (nameP_c (_ :: _ :: _ :: _ :: A) _ _ _ l k dp 0 hok hk he) (by simp) (by simp [Sto.bl]) ?_
   rintro t13 s13 ⟨x13, k13, e13, rfl, hr13, hk13, he13, rfl⟩
   refine go 5 ?_
   have hel : Run 0 k (paramP l acc.length k) (AParam.mk x13 false) k13 e13 := (hr13.map (f := fun s => AParam.mk s false)).eq fun _ => by unfold paramP; rw [if_neg (fun hh => hh.2.elim (by rw [tokAt_lt hk]; exact h1) (fun h => absurd h (by rw [ha1 rfl]; decide))), if_neg (by rw [ha12 rfl]; decide)]
   refine go 3 ?_
   refine wo rfl (wbs Tryz.t106 [.val (.string ⟨#[]⟩), .val (.bool false)] rfl rfl (by decide) (.cons rfl .nil) Tryz.underlying63 (by kernel_rfl) rfl (by decide) (by decide) (by kernel_rfl) (by kernel_rfl) (fill_one encP encP (AParam.mk x13 false) rfl rfl rfl) ?_)
   refine wo rfl (wapI [] Tryz.t106 24 rfl rfl (by decide) rfl rfl Tryz.underlying63 (by kernel_rfl) rfl rfl rfl rfl (by decide) rfl (by decide) (by unfold maxLen; skip; omega) (by skip; omega) (@List.length_append _ acc [(AParam.mk x13 false)]).symm (fun _ b hb => by simp [hb]) (fun b hb => by simp [hb]) (List.flatMap_append (f := encP)).symm fun v14 => ?_)
   refine go 3 ?_
   exact ⟨.inl rfl, _, PSt (⟨c3, 65, [.val (.string nm), .val v14, .val (.slice none 0 0)]⟩ :: ⟨c2, T2, cs2⟩ :: ⟨c1, 68, [.val (.pointer (some ⟨P, 0, none⟩))]⟩ :: A) B (⟨v14, 106, 2, (acc ++ [(AParam.mk x13 false)]).length, (acc ++ [(AParam.mk x13 false)]).flatMap encP⟩ :: rw) P l (k13) dp (e13), res_none rfl, subS_of (.cons _ (.refl _)) (.refl _), ⟨(AParam.mk x13 false), v14, k13, e13, rfl, hel, hk13, he13, rfl⟩⟩
theorem parF_c (A B : List Box) (rw : List ORow) (P : Nat) (l : List Tok) (k dp c1 c2 c3 : Nat) (T2 : TypeId) (cs2 : List AC) (nm : ByteArray) (v : Value) (acc : List AParam) (hok : TOk l) (hk : k < l.length) (hal : acc.length ≤ 1000000) : ACall Tryz.prog 104 [.c (.val (.pointer (some ⟨c1, 0, none⟩))), .c (.val (.pointer (some ⟨c3, 0, none⟩)))] (rowB v ++ ([c3] ++ [P])) (PSt (⟨c3, 65, [.val (.string nm), .val v, .val (.slice none 0 0)]⟩ :: ⟨c2, T2, cs2⟩ :: ⟨c1, 68, [.val (.pointer (some ⟨P, 0, none⟩))]⟩ :: A) B (⟨v, 106, 2, (acc).length, (acc).flatMap encP⟩ :: rw) P l k dp 0) fun t s => ∃ x v' k' e', t = .tup [] ∧ Run 0 k (paramP l acc.length k) x k' e' ∧ k' < l.length ∧ e' < 16 ∧ s = PSt (⟨c3, 65, [.val (.string nm), .val v', .val (.slice none 0 0)]⟩ :: ⟨c2, T2, cs2⟩ :: ⟨c1, 68, [.val (.pointer (some ⟨P, 0, none⟩))]⟩ :: A) B (⟨v', 106, 2, (acc ++ [x]).length, (acc ++ [x]).flatMap encP⟩ :: rw) P l k' dp e' := by
 by_cases h1 : l[k].kind = 1
 ·exact parF_1 A B rw P l k dp c1 c2 c3 T2 cs2 nm v acc hok hk hal h1
 ·exact parF_0 A B rw P l k dp c1 c2 c3 T2 cs2 nm v acc hok hk hal h1
set_option maxRecDepth 100000 in
set_option maxHeartbeats 1600000 in
theorem funcP_c (A B : List Box) (rw : List ORow) (P : Nat) (l : List Tok) (k e : Nat) (hok : TOk l) (hk : k < l.length) (he : e < 16) : ACall Tryz.prog 70 [.c (.val (.pointer (some ⟨P, 0, none⟩)))] [P] (PSt A B rw P l k 0 e) (PAn A B rw P l 0 (fun x => .agg (encF x)) e k (funcP l k)) := by
 have hlen := hok.len
 refine acall_body Tryz.func70 rfl (Nat.le_of_ble_eq_true rfl) ?_
 show AWp Tryz.prog _ ⟨14, [P], ⟨A ++ ⟨P, 70, [.sl l.length (l.flatMap encT), .val (.int .i64 ((k : Nat) : Int)), .val (.int .i64 ((0 : Nat) : Int)), .val (.int .i64 ((e : Nat) : Int))]⟩ :: B, rw⟩, [(0, .c (.val (.pointer (some ⟨P, 0, none⟩))))]⟩ _
 refine go 9 fun b1 b2 => ?_
 refine wcP rfl rfl rfl rfl Tryz.call101 rfl (nameP_c (_ :: _ :: A) _ _ _ l k 0 e hok hk he) (by simp) (by simp [Sto.bl]) ?_
 rintro t1 s1 ⟨x1, k1, e1, rfl, hr1, hk1, he1, rfl⟩
 refine go 6 fun b3 => ?_
 refine wrow 106 2 ?_
 refine go 2 ?_
 refine wyy rfl rfl rfl (ay_makeFunc rfl (vs := [.pointer (some ⟨b1, 0, none⟩), .pointer (some ⟨b3, 0, none⟩)]) rfl) ?_
 refine wo rfl (wcall ([b3] ++ [P]) rfl rfl (by decide) Tryz.call103 rfl (listed_c (fun acc v => ⟨b3, 65, [.val (.string x1), .val v, .val (.slice none 0 0)]⟩ :: ⟨b2, 65, [.val (.string ⟨#[]⟩), .val (.slice none 0 0), .val (.slice none 0 0)]⟩ :: ⟨b1, 68, [.val (.pointer (some ⟨P, 0, none⟩))]⟩ :: A) B (fun acc v => ⟨v, 106, 2, acc.length, acc.flatMap encP⟩ :: rw) P l k1 0 e1 [b3] 104 #[] #[.pointer (some ⟨b1, 0, none⟩), .pointer (some ⟨b3, 0, none⟩)] (paramP l) hok hk1 he1 Tryz.call104 (fun _ k hk => paramP_in hok.last hk) (fun acc v k e b hb => by simp [Sto.bl] at hb ⊢; rcases hb with h | h | h <;> simp [h]) (fun acc v k e b hb => by simp [Sto.bl]; exact .inr (.inr (.inr (.inr (.inr (.inr (.inl hb))))))) (fun acc v k e acc' v' k' e' hn b hb hb2 => row_back (by simp) hn hb hb2) (fun acc v k hk ha => parF_c A B rw P l k 0 b1 b2 b3 _ _ x1 v acc hok hk (by omega))) (by intro b hb; simp at hb; rcases hb with rfl | rfl <;> simp) (by intro b hb; simp at hb; rcases hb with rfl | rfl <;> simp [Sto.bl]) (by intro _ b hb; simp at hb; rcases hb with rfl | rfl <;> simp) ?_)
 rintro t2 s2 ⟨acc, v0, k2, e2, rfl, hr2, hk2, he2, rfl⟩
 show AOps _ _ _ ⟨_, _, ⟨⟨b3, 65, [.val (.string x1), .val v0, .val (.slice none 0 0)]⟩ :: ⟨b2, 65, [.val (.string ⟨#[]⟩), .val (.slice none 0 0), .val (.slice none 0 0)]⟩ :: ⟨b1, 68, [.val (.pointer (some ⟨P, 0, none⟩))]⟩ :: (A ++ ⟨P, 70, [.sl l.length (l.flatMap encT), .val (.int .i64 (((k2) : Nat) : Int)), .val (.int .i64 (((0) : Nat) : Int)), .val (.int .i64 (((e2) : Nat) : Int))]⟩ :: B), ⟨v0, 106, 2, (acc).length, (acc).flatMap encP⟩ :: rw⟩, _⟩ _
 refine go 4 ?_
 refine wfrzb [] 1 rfl rfl ?_
 refine go 1 ?_
 refine wcP rfl rfl rfl rfl Tryz.call44 rfl (blockP_all l hok 24 (Nat.le_refl _) (_ :: _ :: _ :: A) _ _ _ k2 e2 hk2 he2) (by simp) (by simp [Sto.bl]) ?_
 rintro t3 s3 ⟨x3, k3, e3, rfl, hr3, hk3, he3, rfl⟩
 refine go 11 ?_
 exact ⟨.inr rfl, _, (PSt A B rw P l (k3) (0) (e3)), (res_one rfl (resv_cell [_] rfl rfl Tryz.isAgg65 Tryz.sizeOf65 (pk_all rfl rfl))), subS_of (.cons _ (.cons _ (.cons _ (.refl _)))) (.refl _), ⟨⟨x1, acc, x3⟩, k3, e3, rfl, by unfold funcP; exact hr1.bind (hr2.bind (hr3.map (f := fun b => AFunc.mk x1 acc b))), hk3, he3, rfl⟩⟩
end Go.Proofs.YtflcnehhpmjipaaGreatDoor
