import Derived.Test.YteiefdnbdjnoiaaGreatDoorH5J
import Derived.Test.YteiefdnbdjnoiaaGreatDoorH24J
import Derived.Test.YteiefdnbdjnoiaaGreatDoorH21J
set_option linter.all false
set_option synthInstance.maxHeartbeats 1000000
set_option synthInstance.maxSize 1000000
set_option maxHeartbeats 1600000
set_option maxRecDepth 100000
namespace Go.Proofs.YteiefdnbdjnoiaaGreatDoor
open List (length_append length_cons length_nil mem_append mem_cons not_mem_nil append_assoc getElem_mem take_of_length_le)
section
open Go.RowKit
theorem aK6 (A B : List Box) (rw : List bA) (P : Nat) (l : List Tok) (k e : Nat) (hok : TOk l) (hk : k < l.length) (he : e < 16) : aL Tryz.prog 49 [pP P] [P] (PSt A B rw P l k 24 e) (PAn A B rw P l 24 (fun x => .c (.sl x.length (x.flatMap encS))) e k (eX l 0 k)) := by
 have hlen := hok.len
 refine aD Tryz.func49 rfl (Nat.le_of_ble_eq_true rfl) ?_
 show AWp Tryz.prog _ ⟨47, [P], ⟨A ++ ⟨P, 82, [.sl l.length (l.flatMap aW), .val (.int .i64 ((k : Nat) : Int)), .val (.int .i64 ((24 : Nat) : Int)), .val (.int .i64 ((e : Nat) : Int))]⟩ :: B, rw⟩, [(0, pP P)]⟩ _
 refine go 9 ?_
 refine wcP rfl rfl rfl rfl Tryz.call77 rfl (aCz (A) _ _ _ l k 24 e [123] hk) (by simp) (by simp [Sto.bl]) ?_
 rintro t1 s1 (⟨rfl, ha1, rfl, rfl⟩ | ⟨ha1, rfl, rfl⟩)
 ·refine go 5 ?_
  refine wcp true rfl (by rfl) ?_
  refine go 6 ?_
  refine wcP rfl rfl rfl rfl Tryz.call79 rfl (lX (A) _ _ _ l k 24 0 3) (by simp) (by simp [Sto.bl]) ?_
  rintro t3 s3 ⟨e3, hf3, rfl, rfl⟩
  obtain rfl := hf3.1 rfl
  refine go 5 ?_
  refine wcP rfl rfl rfl rfl Tryz.call84 rfl (eI (A) _ _ _ l k 24 3 [123] hok hk (by decide)) (by simp) (by simp [Sto.bl]) ?_
  rintro t4 s4 ⟨x4, k4, e4, rfl, hr4, hk4, he4, rfl⟩
  refine go 13 ?_
  refine wyy rfl rfl rfl (bB rfl rfl rfl (by omega) (by omega)) ?_
  refine go 7 ?_
  have hbad : e4 ≠ 0 ∧ Run 0 k (eX l 0 k) [] k4 e4 := by
   rcases hr4 with ⟨_, rfl, rfl⟩ | ⟨h, _⟩
   ·exact ⟨by decide, .err _ _ _ _ (by unfold eX; rw [if_pos ha1]) (by decide)⟩
   ·exact absurd h (by decide)
  refine qR 103 11 ?_
  refine fM (fun g : List aJ × Value × Nat × Nat => (⟨47, aY g.2.1 ++ [P], ⟨A ++ ⟨P, 82, [.sl l.length (l.flatMap aW), .val (.int .i64 (((g.2.2.1) : Nat) : Int)), .val (.int .i64 (((25) : Nat) : Int)), .val (.int .i64 (((g.2.2.2) : Nat) : Int))]⟩ :: B, ⟨g.2.1, 103, 11, (g.1).length, (g.1).flatMap encS⟩ :: rw⟩, [(3, .c (.val g.2.1)), (0, pP P)]⟩ : AS)) (fun g => g.2.2.1 < l.length ∧ g.2.2.2 < 16 ∧ g.2.2.2 ≠ 0 ∧ Run 0 k (eX l 0 k) g.1 g.2.2.1 g.2.2.2) (fun g => if g.2.2.2 = 0 then l.length - g.2.2.1 + 1 else 0) ([], .slice none 0 0, k4, e4) (cA (.refl _) (.refl _) (fun _ h => h) (sA rfl)) ⟨hk4, he4, hbad.1, hbad.2⟩ ?_
  rintro ⟨acc, v0, k0, e0⟩ ⟨hk0, he0, hz0, hn0⟩
  dsimp only at hk0 he0 hz0 hn0
  show AWp Tryz.prog _ (⟨47, aY v0 ++ [P], ⟨A ++ ⟨P, 82, [.sl l.length (l.flatMap aW), .val (.int .i64 (((k0) : Nat) : Int)), .val (.int .i64 (((25) : Nat) : Int)), .val (.int .i64 (((e0) : Nat) : Int))]⟩ :: B, ⟨v0, 103, 11, (acc).length, (acc).flatMap encS⟩ :: rw⟩, [(3, .c (.val v0)), (0, pP P)]⟩ : AS) _
  have h0 := hz0
  refine go 7 ?_
  refine wcp false rfl (lA h0) ?_
  refine go 19 ?_
  refine wyy rfl rfl rfl (cI ((24 : Nat) : Int) rfl rfl rfl rfl (by omega) (by omega)) ?_
  refine go 11 ?_
  refine aH0 2 rfl ?_
  refine go 1 ?_
  exact ⟨.inr rfl, _, (PSt A B rw P l (k0) (24) (e0)), (aR rfl (aF rfl)), aA (.refl _) (.refl _), ⟨acc, k0, e0, rfl, hn0, hk0, he0, rfl⟩⟩
 ·refine go 15 ?_
  refine wcP rfl rfl rfl rfl Tryz.call84 rfl (eI (A) _ _ _ l k 24 e [123] hok hk he) (by simp) (by simp [Sto.bl]) ?_
  rintro t7 s7 ⟨x7, k7, e7, rfl, hr7, hk7, he7, rfl⟩
  refine go 13 ?_
  refine wyy rfl rfl rfl (bB rfl rfl rfl (by omega) (by omega)) ?_
  refine go 7 ?_
  have hbad : e7 ≠ 0 ∧ Run e k (eX l 0 k) [] k7 e7 := by
   rcases hr7 with ⟨h, rfl, rfl⟩ | ⟨h, h2⟩
   ·exact ⟨h, .skip h _ _⟩
   ·subst h
    have hq := ha1 rfl
    have h9 : fD l [123] k = .err k 4 := by unfold fD; rw [if_neg (by rw [hq]; decide)]
    rw [h9] at h2
    rcases h2 with ⟨h2, _⟩ | ⟨h2, h3⟩
    ·cases h2
    ·cases h2; exact ⟨h3, .err _ _ _ _ (by unfold eX; rw [if_neg (by rw [hq]; decide)]) h3⟩
  refine qR 103 11 ?_
  refine fM (fun g : List aJ × Value × Nat × Nat => (⟨47, aY g.2.1 ++ [P], ⟨A ++ ⟨P, 82, [.sl l.length (l.flatMap aW), .val (.int .i64 (((g.2.2.1) : Nat) : Int)), .val (.int .i64 (((25) : Nat) : Int)), .val (.int .i64 (((g.2.2.2) : Nat) : Int))]⟩ :: B, ⟨g.2.1, 103, 11, (g.1).length, (g.1).flatMap encS⟩ :: rw⟩, [(3, .c (.val g.2.1)), (0, pP P)]⟩ : AS)) (fun g => g.2.2.1 < l.length ∧ g.2.2.2 < 16 ∧ g.2.2.2 ≠ 0 ∧ Run e k (eX l 0 k) g.1 g.2.2.1 g.2.2.2) (fun g => if g.2.2.2 = 0 then l.length - g.2.2.1 + 1 else 0) ([], .slice none 0 0, k7, e7) (cA (.refl _) (.refl _) (fun _ h => h) (sA rfl)) ⟨hk7, he7, hbad.1, hbad.2⟩ ?_
  rintro ⟨acc, v0, k0, e0⟩ ⟨hk0, he0, hz0, hn0⟩
  dsimp only at hk0 he0 hz0 hn0
  show AWp Tryz.prog _ (⟨47, aY v0 ++ [P], ⟨A ++ ⟨P, 82, [.sl l.length (l.flatMap aW), .val (.int .i64 (((k0) : Nat) : Int)), .val (.int .i64 (((25) : Nat) : Int)), .val (.int .i64 (((e0) : Nat) : Int))]⟩ :: B, ⟨v0, 103, 11, (acc).length, (acc).flatMap encS⟩ :: rw⟩, [(3, .c (.val v0)), (0, pP P)]⟩ : AS) _
  have h0 := hz0
  refine go 7 ?_
  refine wcp false rfl (lA h0) ?_
  refine go 19 ?_
  refine wyy rfl rfl rfl (cI ((24 : Nat) : Int) rfl rfl rfl rfl (by omega) (by omega)) ?_
  refine go 11 ?_
  refine aH0 2 rfl ?_
  refine go 1 ?_
  exact ⟨.inr rfl, _, (PSt A B rw P l (k0) (24) (e0)), (aR rfl (aF rfl)), aA (.refl _) (.refl _), ⟨acc, k0, e0, rfl, hn0, hk0, he0, rfl⟩⟩
theorem aM2 (A B : List Box) (rw : List bA) (P : Nat) (l : List Tok) (k e dp : Nat) (st : Nat → bN aJ) (hdp : dp < 24) (hin : ∀ k, k < l.length → (st k).In l k) (hstm : ∀ (A B : List Box) (rw : List bA) (P k : Nat), k < l.length → aL Tryz.prog 86 [pP P] [P] (PSt A B rw P l k (dp + 1) 0) (PAn A B rw P l (dp + 1) (fun x => .agg (dG x)) 0 k (st k))) (hok : TOk l) (hk : k < l.length) (he : e < 16) : aL Tryz.prog 49 [pP P] [P] (PSt A B rw P l k dp e) (PAn A B rw P l dp (fun x => .c (.sl x.length (x.flatMap encS))) e k ((fD l [123] k).bind fun _ k => eS l st l.length [] k)) := by
 have hlen := hok.len
 refine aD Tryz.func49 rfl (Nat.le_of_ble_eq_true rfl) ?_
 show AWp Tryz.prog _ ⟨47, [P], ⟨A ++ ⟨P, 82, [.sl l.length (l.flatMap aW), .val (.int .i64 ((k : Nat) : Int)), .val (.int .i64 ((dp : Nat) : Int)), .val (.int .i64 ((e : Nat) : Int))]⟩ :: B, rw⟩, [(0, pP P)]⟩ _
 refine go 9 ?_
 refine wcP rfl rfl rfl rfl Tryz.call77 rfl (aCz (A) _ _ _ l k dp e [123] hk) (by simp) (by simp [Sto.bl]) ?_
 rintro t1 s1 (⟨rfl, ha1, rfl, rfl⟩ | ⟨ha1, rfl, rfl⟩)
 ·refine go 5 ?_
  refine wcp false rfl (by simp [bC]; omega) ?_
  refine go 9 ?_
  refine wcP rfl rfl rfl rfl Tryz.call84 rfl (eI (A) _ _ _ l k dp 0 [123] hok hk (by decide)) (by simp) (by simp [Sto.bl]) ?_
  rintro t3 s3 ⟨x3, k3, e3, rfl, hr3, hk3, he3, rfl⟩
  refine go 13 ?_
  refine wyy rfl rfl rfl (bB rfl rfl rfl (by omega) (by omega)) ?_
  refine go 7 ?_
  refine qR 103 11 ?_
  refine fM (fun g : List aJ × Value × Nat × Nat => (⟨47, aY g.2.1 ++ [P], ⟨A ++ ⟨P, 82, [.sl l.length (l.flatMap aW), .val (.int .i64 (((g.2.2.1) : Nat) : Int)), .val (.int .i64 (((dp + 1) : Nat) : Int)), .val (.int .i64 (((g.2.2.2) : Nat) : Int))]⟩ :: B, ⟨g.2.1, 103, 11, (g.1).length, (g.1).flatMap encS⟩ :: rw⟩, [(3, .c (.val g.2.1)), (0, pP P)]⟩ : AS)) (fun g => g.2.2.1 < l.length ∧ g.2.2.2 < 16 ∧ (g.2.2.2 = 0 → g.1.length ≤ g.2.2.1) ∧ (g.2.2.2 ≠ 0 → Run 0 k ((fD l [123] k).bind fun _ k => eS l st l.length [] k) g.1 g.2.2.1 g.2.2.2) ∧ (g.2.2.2 = 0 → ∃ n, l.length ≤ n + g.2.2.1 ∧ ∀ z k' e', Run 0 g.2.2.1 (eS l st n g.1 g.2.2.1) z k' e' → Run 0 k ((fD l [123] k).bind fun _ k => eS l st l.length [] k) z k' e')) (fun g => if g.2.2.2 = 0 then l.length - g.2.2.1 + 1 else 0) ([], .slice none 0 0, k3, e3) (cA (.refl _) (.refl _) (fun _ h => h) (sA rfl)) ⟨hk3, he3, fun _ => Nat.zero_le _, fun h => hr3.bind (.skip h _ _), fun h => ⟨l.length, Nat.le_add_right _ _, fun z k' e' h2 => hr3.bind (by rw [show e3 = 0 from h]; exact h2)⟩⟩ ?_
  rintro ⟨acc, v0, k0, e0⟩ ⟨hk0, he0, ha0, hn0, hc0⟩
  dsimp only at hk0 he0 ha0 hn0 hc0
  show AWp Tryz.prog _ (⟨47, aY v0 ++ [P], ⟨A ++ ⟨P, 82, [.sl l.length (l.flatMap aW), .val (.int .i64 (((k0) : Nat) : Int)), .val (.int .i64 (((dp + 1) : Nat) : Int)), .val (.int .i64 (((e0) : Nat) : Int))]⟩ :: B, ⟨v0, 103, 11, (acc).length, (acc).flatMap encS⟩ :: rw⟩, [(3, .c (.val v0)), (0, pP P)]⟩ : AS) _
  by_cases h0 : e0 = 0
  ·subst h0
   have ha1 := ha0 rfl
   obtain ⟨n0, hn1, hcont⟩ := hc0 rfl
   refine go 7 ?_
   refine wcp true rfl (by rfl) ?_
   refine go 2 ?_
   refine wcP rfl rfl rfl rfl Tryz.call85 rfl (kE (A) _ _ _ l k0 (dp + 1) 0 [125] hok hk0) (by simp) (by simp [Sto.bl]) ?_
   rintro t4 s4 (⟨-, ha4, hm4, rfl, rfl⟩ | ⟨ha4, rfl, rfl⟩)
   ·refine go 16 ?_
    refine wyy rfl rfl rfl (cI ((dp : Nat) : Int) rfl rfl rfl (by omega) (by omega) (by omega)) ?_
    refine go 11 ?_
    refine aH0 2 rfl ?_
    refine go 1 ?_
    obtain ⟨m, rfl⟩ : ∃ m, n0 = m + 1 := ⟨n0 - 1, by omega⟩
    exact ⟨.inr rfl, _, (PSt A B rw P l (k0 + 1) (dp) (0)), (aR rfl (aF rfl)), aA (.refl _) (.refl _), ⟨acc, k0 + 1, 0, rfl, hcont _ _ _ (by rw [eS, if_pos ha4]; exact .ok _ _ _ rfl), hm4, (by decide), rfl⟩⟩
   ·refine go 11 ?_
    refine wcP rfl rfl rfl rfl Tryz.call86 rfl (hstm (A) _ _ _ k0 hk0) (by simp) (by simp [Sto.bl]) ?_
    rintro t7 s7 ⟨x7, k7, e7, rfl, hr7, hk7, he7, rfl⟩
    refine wo rfl (bDk zb0 rfl (.cons rfl .nil) (aV encS dG x7 (cJ _) rfl rfl) ?_)
    refine wo rfl (bDm [] bDz rfl (by rw [List.flatMap_cons, List.flatMap_nil, List.append_nil, mE]) (by decide) (by unfold maxLen; skip; omega) (by skip; omega) (@length_append _ acc [x7]).symm (fun _ b hb => by simp [hb]) (fun b hb => by simp [hb]) (List.flatMap_append (f := encS)).symm fun v8 => ?_)
    refine go 3 ?_
    obtain ⟨m, rfl⟩ : ∃ m, n0 = m + 1 := ⟨n0 - 1, by omega⟩
    have hst : ∀ z k' e', Run e7 k7 (eS l st m (acc ++ [x7]) k7) z k' e' → Run 0 k ((fD l [123] k).bind fun _ k => eS l st l.length [] k) z k' e' := fun z k' e' h => hcont z k' e' (by rw [eS, if_neg (by rw [ha4 rfl]; decide)]; exact hr7.bind h)
    have hgo : e7 = 0 → k0 < k7 := fun h => by have h9 := hin k0 hk0; rw [(hr7.good h).2] at h9; exact h9.1
    refine ⟨(acc ++ [x7], v8, k7, e7), ⟨hk7, he7, fun h => ?_, fun h => hst _ _ _ (.skip h _ _), fun h => ⟨m, ?_, fun z k' e' h2 => hst _ _ _ ?_⟩⟩, ?_, cA (.refl _) (.refl _) (by intro x hx; simp only [mem_append, mem_cons, not_mem_nil, or_false] at hx ⊢; rcases hx with h | h <;> simp [h]) (sA rfl)⟩
    ·have := hgo h; show (acc ++ [_]).length ≤ k7; simp; omega
    ·have := hgo h; show l.length ≤ m + k7; omega
    ·rw [show e7 = 0 from h]; exact h2
    ·show (if e7 = 0 then _ else _) < (if (0 : Nat) = 0 then _ else _)
     by_cases h : e7 = 0
     ·have := hgo h; rw [if_pos h, if_pos rfl]; show l.length - k7 + 1 < l.length - k0 + 1; omega
     ·rw [if_neg h, if_pos rfl]; show 0 < l.length - k0 + 1; omega
  ·refine go 7 ?_
   refine wcp false rfl (lA h0) ?_
   refine go 19 ?_
   refine wyy rfl rfl rfl (cI ((dp : Nat) : Int) rfl rfl rfl (by omega) (by omega) (by omega)) ?_
   refine go 11 ?_
   refine aH0 2 rfl ?_
   refine go 1 ?_
   exact ⟨.inr rfl, _, (PSt A B rw P l (k0) (dp) (e0)), (aR rfl (aF rfl)), aA (.refl _) (.refl _), ⟨acc, k0, e0, rfl, hn0 h0, hk0, he0, rfl⟩⟩
 ·refine go 15 ?_
  refine wcP rfl rfl rfl rfl Tryz.call84 rfl (eI (A) _ _ _ l k dp e [123] hok hk he) (by simp) (by simp [Sto.bl]) ?_
  rintro t11 s11 ⟨x11, k11, e11, rfl, hr11, hk11, he11, rfl⟩
  refine go 13 ?_
  refine wyy rfl rfl rfl (bB rfl rfl rfl (by omega) (by omega)) ?_
  refine go 7 ?_
  refine qR 103 11 ?_
  refine fM (fun g : List aJ × Value × Nat × Nat => (⟨47, aY g.2.1 ++ [P], ⟨A ++ ⟨P, 82, [.sl l.length (l.flatMap aW), .val (.int .i64 (((g.2.2.1) : Nat) : Int)), .val (.int .i64 (((dp + 1) : Nat) : Int)), .val (.int .i64 (((g.2.2.2) : Nat) : Int))]⟩ :: B, ⟨g.2.1, 103, 11, (g.1).length, (g.1).flatMap encS⟩ :: rw⟩, [(3, .c (.val g.2.1)), (0, pP P)]⟩ : AS)) (fun g => g.2.2.1 < l.length ∧ g.2.2.2 < 16 ∧ (g.2.2.2 = 0 → g.1.length ≤ g.2.2.1) ∧ (g.2.2.2 ≠ 0 → Run e k ((fD l [123] k).bind fun _ k => eS l st l.length [] k) g.1 g.2.2.1 g.2.2.2) ∧ (g.2.2.2 = 0 → ∃ n, l.length ≤ n + g.2.2.1 ∧ ∀ z k' e', Run 0 g.2.2.1 (eS l st n g.1 g.2.2.1) z k' e' → Run e k ((fD l [123] k).bind fun _ k => eS l st l.length [] k) z k' e')) (fun g => if g.2.2.2 = 0 then l.length - g.2.2.1 + 1 else 0) ([], .slice none 0 0, k11, e11) (cA (.refl _) (.refl _) (fun _ h => h) (sA rfl)) ⟨hk11, he11, fun _ => Nat.zero_le _, fun h => hr11.bind (.skip h _ _), fun h => ⟨l.length, Nat.le_add_right _ _, fun z k' e' h2 => hr11.bind (by rw [show e11 = 0 from h]; exact h2)⟩⟩ ?_
  rintro ⟨acc, v0, k0, e0⟩ ⟨hk0, he0, ha0, hn0, hc0⟩
  dsimp only at hk0 he0 ha0 hn0 hc0
  show AWp Tryz.prog _ (⟨47, aY v0 ++ [P], ⟨A ++ ⟨P, 82, [.sl l.length (l.flatMap aW), .val (.int .i64 (((k0) : Nat) : Int)), .val (.int .i64 (((dp + 1) : Nat) : Int)), .val (.int .i64 (((e0) : Nat) : Int))]⟩ :: B, ⟨v0, 103, 11, (acc).length, (acc).flatMap encS⟩ :: rw⟩, [(3, .c (.val v0)), (0, pP P)]⟩ : AS) _
  by_cases h0 : e0 = 0
  ·subst h0
   have ha1 := ha0 rfl
   obtain ⟨n0, hn1, hcont⟩ := hc0 rfl
   refine go 7 ?_
   refine wcp true rfl (by rfl) ?_
   refine go 2 ?_
   refine wcP rfl rfl rfl rfl Tryz.call85 rfl (kE (A) _ _ _ l k0 (dp + 1) 0 [125] hok hk0) (by simp) (by simp [Sto.bl]) ?_
   rintro t12 s12 (⟨-, ha12, hm12, rfl, rfl⟩ | ⟨ha12, rfl, rfl⟩)
   ·refine go 16 ?_
    refine wyy rfl rfl rfl (cI ((dp : Nat) : Int) rfl rfl rfl (by omega) (by omega) (by omega)) ?_
    refine go 11 ?_
    refine aH0 2 rfl ?_
    refine go 1 ?_
    obtain ⟨m, rfl⟩ : ∃ m, n0 = m + 1 := ⟨n0 - 1, by omega⟩
    exact ⟨.inr rfl, _, (PSt A B rw P l (k0 + 1) (dp) (0)), (aR rfl (aF rfl)), aA (.refl _) (.refl _), ⟨acc, k0 + 1, 0, rfl, hcont _ _ _ (by rw [eS, if_pos ha12]; exact .ok _ _ _ rfl), hm12, (by decide), rfl⟩⟩
   ·refine go 11 ?_
    refine wcP rfl rfl rfl rfl Tryz.call86 rfl (hstm (A) _ _ _ k0 hk0) (by simp) (by simp [Sto.bl]) ?_
    rintro t15 s15 ⟨x15, k15, e15, rfl, hr15, hk15, he15, rfl⟩
    refine wo rfl (bDk zb0 rfl (.cons rfl .nil) (aV encS dG x15 (cJ _) rfl rfl) ?_)
    refine wo rfl (bDm [] bDz rfl (by rw [List.flatMap_cons, List.flatMap_nil, List.append_nil, mE]) (by decide) (by unfold maxLen; skip; omega) (by skip; omega) (@length_append _ acc [x15]).symm (fun _ b hb => by simp [hb]) (fun b hb => by simp [hb]) (List.flatMap_append (f := encS)).symm fun v16 => ?_)
    refine go 3 ?_
    obtain ⟨m, rfl⟩ : ∃ m, n0 = m + 1 := ⟨n0 - 1, by omega⟩
    have hst : ∀ z k' e', Run e15 k15 (eS l st m (acc ++ [x15]) k15) z k' e' → Run e k ((fD l [123] k).bind fun _ k => eS l st l.length [] k) z k' e' := fun z k' e' h => hcont z k' e' (by rw [eS, if_neg (by rw [ha12 rfl]; decide)]; exact hr15.bind h)
    have hgo : e15 = 0 → k0 < k15 := fun h => by have h9 := hin k0 hk0; rw [(hr15.good h).2] at h9; exact h9.1
    refine ⟨(acc ++ [x15], v16, k15, e15), ⟨hk15, he15, fun h => ?_, fun h => hst _ _ _ (.skip h _ _), fun h => ⟨m, ?_, fun z k' e' h2 => hst _ _ _ ?_⟩⟩, ?_, cA (.refl _) (.refl _) (by intro x hx; simp only [mem_append, mem_cons, not_mem_nil, or_false] at hx ⊢; rcases hx with h | h <;> simp [h]) (sA rfl)⟩
    ·have := hgo h; show (acc ++ [_]).length ≤ k15; simp; omega
    ·have := hgo h; show l.length ≤ m + k15; omega
    ·rw [show e15 = 0 from h]; exact h2
    ·show (if e15 = 0 then _ else _) < (if (0 : Nat) = 0 then _ else _)
     by_cases h : e15 = 0
     ·have := hgo h; rw [if_pos h, if_pos rfl]; show l.length - k15 + 1 < l.length - k0 + 1; omega
     ·rw [if_neg h, if_pos rfl]; show 0 < l.length - k0 + 1; omega
  ·refine go 7 ?_
   refine wcp false rfl (lA h0) ?_
   refine go 19 ?_
   refine wyy rfl rfl rfl (cI ((dp : Nat) : Int) rfl rfl rfl (by omega) (by omega) (by omega)) ?_
   refine go 11 ?_
   refine aH0 2 rfl ?_
   refine go 1 ?_
   exact ⟨.inr rfl, _, (PSt A B rw P l (k0) (dp) (e0)), (aR rfl (aF rfl)), aA (.refl _) (.refl _), ⟨acc, k0, e0, rfl, hn0 h0, hk0, he0, rfl⟩⟩
theorem zW (l : List Tok) (hok : TOk l) : ∀ (d : Nat), d ≤ 24 → ∀ (A B : List Box) (rw : List bA) (P k e : Nat), k < l.length → e < 16 → aL Tryz.prog 49 [pP P] [P] (PSt A B rw P l k (24 - d) e) (PAn A B rw P l (24 - d) (fun x => .c (.sl x.length (x.flatMap encS))) e k (eX l d k))
 | 0, _, A, B, rw, P, k, e, hk, he => aK6 A B rw P l k e hok hk he
 | d + 1, hd, A, B, rw, P, k, e, hk, he => by
  have hb : ∀ k, k < l.length → (eX l d k).In l k := fun k hk => pB hok.last d k hk
  exact aM2 A B rw P l k e (24 - (d + 1)) (fB l (eX l d)) (by omega) (fun k hk => zE hok.last hb hk) (fun A B rw P k hk =>
   aOd A B rw P l k (24 - (d + 1) + 1) (eX l d) (fun A B rw P k e hk he => by
    have h8 := zW l hok d (by omega) A B rw P k e hk he
    have e1 : 24 - (d + 1) + 1 = 24 - d := by omega
    rw [e1]; exact h8) hok hk) hok hk he
end
section
open Go.RowKit
theorem bD0 (A B : List Box) (rw : List bA) (P : Nat) (l : List Tok) (k b e ns dp : Nat) (sg : List UInt8) (hr : dA (bytes sg) = false) (hok : TOk l) (hk : k < l.length) : aL Tryz.prog 63 [pP P, .c (.val (.string (bytes sg)))] [P] (RSt A B rw P l k b e ns dp) fun t s => (e = 0 ∧ cS l k sg = true ∧ t = .c (.val (.bool true)) ∧ s = RSt A B rw P l k b e ns dp) ∨ ((e = 0 → cS l k sg = false) ∧ t = .c (.val (.bool false)) ∧ s = RSt A B rw P l k b e ns dp) := by
 refine (bFv A B rw P l k b e ns dp (bytes sg) hk).mono fun t s h => ?_
 rw [bEp hok hk hr] at h
 by_cases he : e = 0
 ·cases hs : cS l k sg with
  | true => exact .inl ⟨he, rfl, by rw [h.1, hs, he]; rfl, h.2⟩
  | false => exact .inr ⟨fun _ => rfl, by rw [h.1, hs, he]; rfl, h.2⟩
 ·exact .inr ⟨fun h0 => absurd h0 he, by rw [h.1, decide_eq_false he]; rfl, h.2⟩
theorem bEv (A B : List Box) (rw : List bA) (P : Nat) (l : List Tok) (k b e ns dp : Nat) (kk : Nat) (hk : k < l.length) : aL Tryz.prog 62 [pP P, .c (.val (.int .i64 (kk : Int)))] [P] (RSt A B rw P l k b e ns dp) fun t s => (e = 0 ∧ (bU l k).kind = kk ∧ t = .c (.val (.bool true)) ∧ s = RSt A B rw P l k b e ns dp) ∨ ((e = 0 → (bU l k).kind ≠ kk) ∧ t = .c (.val (.bool false)) ∧ s = RSt A B rw P l k b e ns dp) := by
 refine (bFb A B rw P l k b e ns dp kk hk).mono fun t s h => ?_
 by_cases he : e = 0
 ·by_cases hq : (bU l k).kind = kk
  ·exact .inl ⟨he, hq, by rw [h.1, decide_eq_true hq, he]; rfl, h.2⟩
  ·exact .inr ⟨fun _ => hq, by rw [h.1, decide_eq_false hq, he]; rfl, h.2⟩
 ·exact .inr ⟨fun h0 => absurd h0 he, by rw [h.1, decide_eq_false he]; rfl, h.2⟩
theorem bEg (op : Int) (r : bN aH) : aKc op r = r.bind fun x k => .ok (.mk op 0 aK [x]) k := by cases r <;> rfl
theorem bE1 (l : List Tok) (r : bN aH) : aHo l r = r.bind fun x k => (fD l [41] k).bind fun _ k => .ok x k := by
 cases r with
 | ok x k => show (if cS l k [41] = true then _ else _) = _; unfold bN.bind fD; dsimp only; split <;> rfl
 | err a e => rfl
theorem bEe (A B : List Box) (rw : List bA) (P : Nat) (l : List Tok) (k b e ns dp : Nat) (hns : ¬ ns = 24) (hn2 : ns ≤ 24) : aL Tryz.prog 178 [pP P] [P] (RSt A B rw P l k b e ns dp) fun t s => t = .tup [] ∧ s = RSt A B rw P l k b e (ns + 1) dp := by
 refine aD Tryz.func178 rfl (Nat.le_of_ble_eq_true rfl) ?_
 show AWp Tryz.prog _ ⟨16, [P], ⟨A ++ ⟨P, 95, [.sl l.length (l.flatMap aW), .val (.int .i64 ((k : Nat) : Int)), .val (.int .i64 ((b : Nat) : Int)), .val (.int .i64 ((e : Nat) : Int)), .val (.int .i64 ((ns : Nat) : Int)), .val (.int .i64 ((dp : Nat) : Int))]⟩ :: B, rw⟩, [(0, pP P)]⟩ _
 refine go 7 ?_
 refine wcp false rfl (by rw [show bC .eql ((ns : Nat) : Int) 24 = some (decide (ns = 24)) from jS (n := 24), decide_eq_false hns]) ?_
 refine go 10 ?_
 refine wyy rfl rfl rfl (bB rfl rfl rfl (by omega) (by omega)) ?_
 refine go 4 ?_
 exact ⟨.inl rfl, _, (RSt A B rw P l (k) (b) (e) (ns + 1) (dp)), cH rfl, aA (.refl _) (.refl _), rfl, rfl⟩
theorem bEf (A B : List Box) (rw : List bA) (P : Nat) (l : List Tok) (k b e dp : Nat)  : aL Tryz.prog 178 [pP P] [P] (RSt A B rw P l k b e 24 dp) fun t s => ∃ b1 e1, aC7 e b k 3 b1 e1 ∧ t = .tup [] ∧ s = RSt A B rw P l k b1 e1 25 dp := by
 refine aD Tryz.func178 rfl (Nat.le_of_ble_eq_true rfl) ?_
 show AWp Tryz.prog _ ⟨16, [P], ⟨A ++ ⟨P, 95, [.sl l.length (l.flatMap aW), .val (.int .i64 ((k : Nat) : Int)), .val (.int .i64 ((b : Nat) : Int)), .val (.int .i64 ((e : Nat) : Int)), .val (.int .i64 ((24 : Nat) : Int)), .val (.int .i64 ((dp : Nat) : Int))]⟩ :: B, rw⟩, [(0, pP P)]⟩ _
 refine go 7 ?_
 refine wcp true rfl (by rfl) ?_
 refine go 5 ?_
 refine wcP rfl rfl rfl rfl Tryz.call64 rfl (bEa (A) _ _ _ l k b e 24 dp 3) (by simp) (by simp [Sto.bl]) ?_
 rintro t2 s2 ⟨u2, e2, hf2, rfl, rfl⟩
 refine go 7 ?_
 refine wyy rfl rfl rfl (bB rfl rfl rfl (by omega) (by omega)) ?_
 refine go 4 ?_
 exact ⟨.inl rfl, _, (RSt A B rw P l (k) (u2) (e2) (25) (dp)), cH rfl, aA (.refl _) (.refl _), ⟨u2, e2, hf2, rfl, rfl⟩⟩
theorem bEx (A B : List Box) (rw : List bA) (P : Nat) (l : List Tok) (k b e dp : Nat) (hok : TOk l) (hk : k < l.length) (he : e < 16) : aL Tryz.prog 157 [pP P] [P] (RSt A B rw P l k b e 24 dp) fun t s => RAn A B rw P l 24 dp (fun x => .agg (cU x)) e b (bL l 0 k) t s := by
 have hlen := hok.len
 refine aD Tryz.func157 rfl (Nat.le_of_ble_eq_true rfl) ?_
 show AWp Tryz.prog _ ⟨100, [P], ⟨A ++ ⟨P, 95, [.sl l.length (l.flatMap aW), .val (.int .i64 ((k : Nat) : Int)), .val (.int .i64 ((b : Nat) : Int)), .val (.int .i64 ((e : Nat) : Int)), .val (.int .i64 ((24 : Nat) : Int)), .val (.int .i64 ((dp : Nat) : Int))]⟩ :: B, rw⟩, [(0, pP P)]⟩ _
 refine go 17 fun b1 b2 => ?_
 refine wcP rfl rfl rfl rfl Tryz.call62 rfl (bEv (_ :: _ :: A) _ _ _ l k b e 24 dp 2 hk) (by simp) (by simp [Sto.bl]) ?_
 rintro t1 s1 (⟨rfl, ha1, rfl, rfl⟩ | ⟨ha1, rfl, rfl⟩)
 ·refine go 5 ?_
  refine aB [b1, P] (by kernel_rfl) ?_
  refine tks [(0, true), (1, true), (2, true), (3, true), (4, true), (5, true), (6, true), (7, true)] 5 (by kernel_rfl) ?_
  refine go 9 ?_
  refine tq 8 (by kernel_rfl) rfl rfl rfl rfl (bH aW aW l bJ (fun _ => rfl) (k) rfl rfl rfl rfl hk (by decide) Tryz.runUnderlying43 Tryz.sizeOf84) ?_
  refine tks [(9, true), (10, true), (11, true), (12, false)] 0 (by kernel_rfl) ?_
  refine go 5 ?_
  refine aE (by kernel_rfl) ?_
  refine go 6 ?_
  refine wyy rfl rfl rfl (bB rfl rfl rfl (by omega) (by omega)) ?_
  refine go 13 ?_
  have hm := hok.last.more hk (by rw [ha1]; decide)
  exact ⟨.inr rfl, _, (RSt A B rw P l (k + 1) (b) (0) (24) (dp)), (eK (Wk.agg (.r (.r (.r (.n .nil))))) (aR rfl (aO [_] rfl rfl Tryz.isAgg98 Tryz.sizeOf98 (bK rfl rfl)))), aA (.cons _ (.cons _ (.refl _))) (.refl _), ⟨(.mk 1 (l[k].num : Int) aK []), k + 1, b, 0, rfl, .ok _ _ _ (by unfold bL; rw [if_pos ha1, bG hk]), hm, (by decide), rfl⟩⟩
 ·refine go 7 ?_
  refine wcP rfl rfl rfl rfl Tryz.call62 rfl (bEv (_ :: _ :: A) _ _ _ l k b e 24 dp 1 hk) (by simp) (by simp [Sto.bl]) ?_
  rintro t4 s4 (⟨rfl, ha4, rfl, rfl⟩ | ⟨ha4, rfl, rfl⟩)
  ·refine go 6 ?_
   refine wcP rfl rfl rfl rfl Tryz.call68 rfl (bEb (_ :: _ :: A) _ _ _ l k b 0 24 dp hok hk (by decide)) (by simp) (by simp [Sto.bl]) ?_
   rintro t6 s6 ⟨x6, k6, u6, e6, rfl, hr6, hk6, he6, rfl⟩
   refine go 12 ?_
   exact ⟨.inr rfl, _, (RSt A B rw P l (k6) (u6) (e6) (24) (dp)), (eK (Wk.agg (.r (.r (.r (.n .nil))))) (aR rfl (aO [_] rfl rfl Tryz.isAgg98 Tryz.sizeOf98 (bK rfl rfl)))), aA (.cons _ (.cons _ (.refl _))) (.refl _), ⟨(.mk 2 0 x6 []), k6, u6, e6, rfl, (hr6.map (f := fun n => aH.mk 2 0 n [])).eq (fun _ => by unfold bL jW; rw [if_neg (ha1 rfl), if_pos ha4, if_pos ha4]; rfl), hk6, he6, rfl⟩⟩
  ·refine go 7 ?_
   refine wcP rfl rfl rfl rfl Tryz.call63 rfl (bD0 (_ :: _ :: A) _ _ _ l k b e 24 dp [45] (by decide) hok hk) (by simp) (by simp [Sto.bl]) ?_
   rintro t8 s8 (⟨rfl, ha8, rfl, rfl⟩ | ⟨ha8, rfl, rfl⟩)
   ·refine go 18 ?_
    refine wcP rfl rfl rfl rfl Tryz.call63 rfl (bD0 (_ :: _ :: A) _ _ _ l k b 0 24 dp [45] (by decide) hok hk) (by simp) (by simp [Sto.bl]) ?_
    rintro t10 s10 (⟨-, ha10, rfl, rfl⟩ | ⟨ha10, rfl, rfl⟩)
    ·refine go 11 ?_
     refine wcP rfl rfl rfl rfl Tryz.call178 rfl (bEf (_ :: _ :: A) _ _ _ l k b 0 dp) (by simp) (by simp [Sto.bl]) ?_
     rintro t12 s12 ⟨u12, e12, hf12, rfl, rfl⟩
     obtain ⟨rfl, rfl⟩ := hf12.1 rfl
     refine go 9 ?_
     refine wcp false rfl rfl ?_
     refine go 10 ?_
     refine wyy rfl rfl rfl (cI ((24 : Nat) : Int) rfl rfl rfl rfl (by omega) (by omega)) ?_
     refine go 13 ?_
     exact ⟨.inr rfl, _, (RSt A B rw P l (k) (k) (3) (24) (dp)), (eK (Wk.agg (.r (.r (.r (.n .nil))))) (aR rfl (aO [_] rfl rfl Tryz.isAgg98 Tryz.sizeOf98 (bK rfl rfl)))), aA (.cons _ (.cons _ (.refl _))) (.refl _), ⟨(.mk 3 0 aK []), k, k, 3, rfl, .err _ _ _ _ _ (by unfold bL; rw [if_neg (ha1 rfl), if_neg (ha4 rfl), if_pos (by simp [ha8])]) (by decide), hk, (by decide), rfl⟩⟩
    ·exact absurd (ha10 rfl) (by rw [ha8]; decide)
   ·refine go 2 ?_
    refine wcP rfl rfl rfl rfl Tryz.call63 rfl (bD0 (_ :: _ :: A) _ _ _ l k b e 24 dp [33] (by decide) hok hk) (by simp) (by simp [Sto.bl]) ?_
    rintro t14 s14 (⟨rfl, ha14, rfl, rfl⟩ | ⟨ha14, rfl, rfl⟩)
    ·refine go 15 ?_
     refine wcP rfl rfl rfl rfl Tryz.call63 rfl (bD0 (_ :: _ :: A) _ _ _ l k b 0 24 dp [45] (by decide) hok hk) (by simp) (by simp [Sto.bl]) ?_
     rintro t16 s16 (⟨-, ha16, rfl, rfl⟩ | ⟨ha16, rfl, rfl⟩)
     ·exact absurd ha16 (by rw [(ha8 rfl)]; decide)
     ·refine go 8 ?_
      refine wcP rfl rfl rfl rfl Tryz.call178 rfl (bEf (_ :: _ :: A) _ _ _ l k b 0 dp) (by simp) (by simp [Sto.bl]) ?_
      rintro t18 s18 ⟨u18, e18, hf18, rfl, rfl⟩
      obtain ⟨rfl, rfl⟩ := hf18.1 rfl
      refine go 9 ?_
      refine wcp false rfl rfl ?_
      refine go 10 ?_
      refine wyy rfl rfl rfl (cI ((24 : Nat) : Int) rfl rfl rfl rfl (by omega) (by omega)) ?_
      refine go 13 ?_
      exact ⟨.inr rfl, _, (RSt A B rw P l (k) (k) (3) (24) (dp)), (eK (Wk.agg (.r (.r (.r (.n .nil))))) (aR rfl (aO [_] rfl rfl Tryz.isAgg98 Tryz.sizeOf98 (bK rfl rfl)))), aA (.cons _ (.cons _ (.refl _))) (.refl _), ⟨(.mk 4 0 aK []), k, k, 3, rfl, .err _ _ _ _ _ (by unfold bL; rw [if_neg (ha1 rfl), if_neg (ha4 rfl), if_pos (by simp [ha14])]) (by decide), hk, (by decide), rfl⟩⟩
    ·refine go 8 ?_
     refine wcP rfl rfl rfl rfl Tryz.call63 rfl (bD0 (_ :: _ :: A) _ _ _ l k b e 24 dp [40] (by decide) hok hk) (by simp) (by simp [Sto.bl]) ?_
     rintro t21 s21 (⟨rfl, ha21, rfl, rfl⟩ | ⟨ha21, rfl, rfl⟩)
     ·refine go 7 ?_
      refine wcP rfl rfl rfl rfl Tryz.call178 rfl (bEf (_ :: _ :: A) _ _ _ l k b 0 dp) (by simp) (by simp [Sto.bl]) ?_
      rintro t23 s23 ⟨u23, e23, hf23, rfl, rfl⟩
      obtain ⟨rfl, rfl⟩ := hf23.1 rfl
      refine go 9 ?_
      refine wcp false rfl rfl ?_
      refine go 10 ?_
      refine wyy rfl rfl rfl (cI ((24 : Nat) : Int) rfl rfl rfl rfl (by omega) (by omega)) ?_
      refine go 13 ?_
      exact ⟨.inr rfl, _, (RSt A B rw P l (k) (k) (3) (24) (dp)), (eK (Wk.agg (.r (.r (.r (.n .nil))))) (aR rfl (aO [_] rfl rfl Tryz.isAgg98 Tryz.sizeOf98 (bK rfl rfl)))), aA (.cons _ (.cons _ (.refl _))) (.refl _), ⟨aH.zero, k, k, 3, rfl, .err _ _ _ _ _ (by unfold bL; rw [if_neg (ha1 rfl), if_neg (ha4 rfl), if_pos (by simp [ha21])]) (by decide), hk, (by decide), rfl⟩⟩
     ·refine go 6 ?_
      refine wcP rfl rfl rfl rfl Tryz.call64 rfl (bEa (_ :: _ :: A) _ _ _ l k b e 24 dp 4) (by simp) (by simp [Sto.bl]) ?_
      rintro t26 s26 ⟨u26, e26, hf26, rfl, rfl⟩
      refine go 10 ?_
      exact ⟨.inr rfl, _, (RSt A B rw P l (k) (u26) (e26) (24) (dp)), (eK (Wk.agg (.r (.r (.r (.n .nil))))) (aR rfl (aO [_] rfl rfl Tryz.isAgg98 Tryz.sizeOf98 (bK rfl rfl)))), aA (.cons _ (.cons _ (.refl _))) (.refl _), ⟨aH.zero, k, u26, e26, rfl, hf26.run (by decide) (fun h => by unfold bL; rw [if_neg (ha1 h), if_neg (ha4 h), if_neg (by rw [ha8 h, ha14 h, ha21 h]; decide)]) _ _, hk, (hf26.small he (by decide)), rfl⟩⟩
theorem bE0 (A B : List Box) (rw : List bA) (P : Nat) (l : List Tok) (k b e ns dp : Nat) (d : Nat) (hns : ns + (d + 1) = 24) (hok : TOk l) (hk : k < l.length) (he : e < 16) (iho : ∀ (A B : List Box) (rw : List bA) (P k b e ns dp : Nat), ns + d = 24 → k < l.length → e < 16 → aL Tryz.prog 157 [pP P] [P] (RSt A B rw P l k b e ns dp) (RAn A B rw P l ns dp (fun x => .agg (cU x)) e b (bL l d k))) (ihb : ∀ (A B : List Box) (rw : List bA) (P k b e ns dp : Nat), ns + d = 24 → k < l.length → e < 16 → aL Tryz.prog 123 [pP P, .c (.val (.int .i64 0))] [P] (RSt A B rw P l k b e ns dp) (RAn A B rw P l ns dp (fun x => .agg (cU x)) e b (gS l (bL l d) 5 k))) : aL Tryz.prog 157 [pP P] [P] (RSt A B rw P l k b e ns dp) fun t s => RAn A B rw P l ns dp (fun x => .agg (cU x)) e b (bL l (d + 1) k) t s := by
 have hlen := hok.len
 refine aD Tryz.func157 rfl (Nat.le_of_ble_eq_true rfl) ?_
 show AWp Tryz.prog _ ⟨100, [P], ⟨A ++ ⟨P, 95, [.sl l.length (l.flatMap aW), .val (.int .i64 ((k : Nat) : Int)), .val (.int .i64 ((b : Nat) : Int)), .val (.int .i64 ((e : Nat) : Int)), .val (.int .i64 ((ns : Nat) : Int)), .val (.int .i64 ((dp : Nat) : Int))]⟩ :: B, rw⟩, [(0, pP P)]⟩ _
 refine go 17 fun b1 b2 => ?_
 refine wcP rfl rfl rfl rfl Tryz.call62 rfl (bEv (_ :: _ :: A) _ _ _ l k b e ns dp 2 hk) (by simp) (by simp [Sto.bl]) ?_
 rintro t1 s1 (⟨rfl, ha1, rfl, rfl⟩ | ⟨ha1, rfl, rfl⟩)
 ·refine go 5 ?_
  refine aB [b1, P] (by kernel_rfl) ?_
  refine tks [(0, true), (1, true), (2, true), (3, true), (4, true), (5, true), (6, true), (7, true)] 5 (by kernel_rfl) ?_
  refine go 9 ?_
  refine tq 8 (by kernel_rfl) rfl rfl rfl rfl (bH aW aW l bJ (fun _ => rfl) (k) rfl rfl rfl rfl hk (by decide) Tryz.runUnderlying43 Tryz.sizeOf84) ?_
  refine tks [(9, true), (10, true), (11, true), (12, false)] 0 (by kernel_rfl) ?_
  refine go 5 ?_
  refine aE (by kernel_rfl) ?_
  refine go 6 ?_
  refine wyy rfl rfl rfl (bB rfl rfl rfl (by omega) (by omega)) ?_
  refine go 13 ?_
  have hm := hok.last.more hk (by rw [ha1]; decide)
  exact ⟨.inr rfl, _, (RSt A B rw P l (k + 1) (b) (0) (ns) (dp)), (eK (Wk.agg (.r (.r (.r (.n .nil))))) (aR rfl (aO [_] rfl rfl Tryz.isAgg98 Tryz.sizeOf98 (bK rfl rfl)))), aA (.cons _ (.cons _ (.refl _))) (.refl _), ⟨(.mk 1 (l[k].num : Int) aK []), k + 1, b, 0, rfl, .ok _ _ _ (by unfold bL; rw [if_pos ha1, bG hk]), hm, (by decide), rfl⟩⟩
 ·refine go 7 ?_
  refine wcP rfl rfl rfl rfl Tryz.call62 rfl (bEv (_ :: _ :: A) _ _ _ l k b e ns dp 1 hk) (by simp) (by simp [Sto.bl]) ?_
  rintro t4 s4 (⟨rfl, ha4, rfl, rfl⟩ | ⟨ha4, rfl, rfl⟩)
  ·refine go 6 ?_
   refine wcP rfl rfl rfl rfl Tryz.call68 rfl (bEb (_ :: _ :: A) _ _ _ l k b 0 ns dp hok hk (by decide)) (by simp) (by simp [Sto.bl]) ?_
   rintro t6 s6 ⟨x6, k6, u6, e6, rfl, hr6, hk6, he6, rfl⟩
   refine go 12 ?_
   exact ⟨.inr rfl, _, (RSt A B rw P l (k6) (u6) (e6) (ns) (dp)), (eK (Wk.agg (.r (.r (.r (.n .nil))))) (aR rfl (aO [_] rfl rfl Tryz.isAgg98 Tryz.sizeOf98 (bK rfl rfl)))), aA (.cons _ (.cons _ (.refl _))) (.refl _), ⟨(.mk 2 0 x6 []), k6, u6, e6, rfl, (hr6.map (f := fun n => aH.mk 2 0 n [])).eq (fun _ => by unfold bL jW; rw [if_neg (ha1 rfl), if_pos ha4, if_pos ha4]; rfl), hk6, he6, rfl⟩⟩
  ·refine go 7 ?_
   refine wcP rfl rfl rfl rfl Tryz.call63 rfl (bD0 (_ :: _ :: A) _ _ _ l k b e ns dp [45] (by decide) hok hk) (by simp) (by simp [Sto.bl]) ?_
   rintro t8 s8 (⟨rfl, ha8, rfl, rfl⟩ | ⟨ha8, rfl, rfl⟩)
   ·refine go 18 ?_
    refine wcP rfl rfl rfl rfl Tryz.call63 rfl (bD0 (_ :: _ :: A) _ _ _ l k b 0 ns dp [45] (by decide) hok hk) (by simp) (by simp [Sto.bl]) ?_
    rintro t10 s10 (⟨-, ha10, rfl, rfl⟩ | ⟨ha10, rfl, rfl⟩)
    ·refine go 11 ?_
     refine wcP rfl rfl rfl rfl Tryz.call178 rfl (bEe (_ :: _ :: A) _ _ _ l k b 0 ns dp (by omega) (by omega)) (by simp) (by simp [Sto.bl]) ?_
     rintro t12 s12 ⟨rfl, rfl⟩
     refine go 9 ?_
     refine wcp true rfl (by simp [bC]) ?_
     refine go 5 ?_
     have hm := eF hok.last hk ha10
     refine go 4 ?_
     refine wyy rfl rfl rfl (bB rfl rfl rfl (by omega) (by omega)) ?_
     refine go 7 ?_
     refine wcP rfl rfl rfl rfl Tryz.call157 rfl (iho (_ :: _ :: A) _ _ _ (k + 1) b 0 (ns + 1) dp (by omega) hm (by decide)) (by simp) (by simp [Sto.bl]) ?_
     rintro t14 s14 ⟨x14, k14, u14, e14, rfl, hr14, hk14, he14, rfl⟩
     refine wo rfl (bDk bDw rfl (.cons rfl .nil) (aV fO cU x14 (fP _) rfl rfl) ?_)
     refine go 9 ?_
     refine wyy rfl rfl rfl (cI ((ns : Nat) : Int) rfl rfl rfl (by omega) (by omega) (by omega)) ?_
     refine go 13 ?_
     exact ⟨.inr rfl, _, (RSt A B rw P l (k14) (u14) (e14) (ns) (dp)), (aR rfl (aO [_] rfl rfl Tryz.isAgg98 Tryz.sizeOf98 (bK rfl rfl))), aA (.cons _ (.cons _ (.refl _))) (.refl _), ⟨(.mk 3 0 aK [x14]), k14, u14, e14, rfl, (hr14.map (f := fun x => aH.mk 3 0 aK [x])).eq (fun _ => by rw [bL.eq_2, if_neg (ha1 rfl), if_neg (ha4 rfl), if_pos ha8, bEg]), hk14, he14, rfl⟩⟩
    ·exact absurd (ha10 rfl) (by rw [ha8]; decide)
   ·refine go 2 ?_
    refine wcP rfl rfl rfl rfl Tryz.call63 rfl (bD0 (_ :: _ :: A) _ _ _ l k b e ns dp [33] (by decide) hok hk) (by simp) (by simp [Sto.bl]) ?_
    rintro t15 s15 (⟨rfl, ha15, rfl, rfl⟩ | ⟨ha15, rfl, rfl⟩)
    ·refine go 15 ?_
     refine wcP rfl rfl rfl rfl Tryz.call63 rfl (bD0 (_ :: _ :: A) _ _ _ l k b 0 ns dp [45] (by decide) hok hk) (by simp) (by simp [Sto.bl]) ?_
     rintro t17 s17 (⟨-, ha17, rfl, rfl⟩ | ⟨ha17, rfl, rfl⟩)
     ·exact absurd ha17 (by rw [(ha8 rfl)]; decide)
     ·refine go 8 ?_
      refine wcP rfl rfl rfl rfl Tryz.call178 rfl (bEe (_ :: _ :: A) _ _ _ l k b 0 ns dp (by omega) (by omega)) (by simp) (by simp [Sto.bl]) ?_
      rintro t19 s19 ⟨rfl, rfl⟩
      refine go 9 ?_
      refine wcp true rfl (by simp [bC]) ?_
      refine go 5 ?_
      have hm := eF hok.last hk ha15
      refine go 4 ?_
      refine wyy rfl rfl rfl (bB rfl rfl rfl (by omega) (by omega)) ?_
      refine go 7 ?_
      refine wcP rfl rfl rfl rfl Tryz.call157 rfl (iho (_ :: _ :: A) _ _ _ (k + 1) b 0 (ns + 1) dp (by omega) hm (by decide)) (by simp) (by simp [Sto.bl]) ?_
      rintro t21 s21 ⟨x21, k21, u21, e21, rfl, hr21, hk21, he21, rfl⟩
      refine wo rfl (bDk bDw rfl (.cons rfl .nil) (aV fO cU x21 (fP _) rfl rfl) ?_)
      refine go 9 ?_
      refine wyy rfl rfl rfl (cI ((ns : Nat) : Int) rfl rfl rfl (by omega) (by omega) (by omega)) ?_
      refine go 13 ?_
      exact ⟨.inr rfl, _, (RSt A B rw P l (k21) (u21) (e21) (ns) (dp)), (aR rfl (aO [_] rfl rfl Tryz.isAgg98 Tryz.sizeOf98 (bK rfl rfl))), aA (.cons _ (.cons _ (.refl _))) (.refl _), ⟨(.mk 4 0 aK [x21]), k21, u21, e21, rfl, (hr21.map (f := fun x => aH.mk 4 0 aK [x])).eq (fun _ => by rw [bL.eq_2, if_neg (ha1 rfl), if_neg (ha4 rfl), if_neg (by rw [ha17 rfl]; decide), if_pos ha15, bEg]), hk21, he21, rfl⟩⟩
    ·refine go 8 ?_
     refine wcP rfl rfl rfl rfl Tryz.call63 rfl (bD0 (_ :: _ :: A) _ _ _ l k b e ns dp [40] (by decide) hok hk) (by simp) (by simp [Sto.bl]) ?_
     rintro t23 s23 (⟨rfl, ha23, rfl, rfl⟩ | ⟨ha23, rfl, rfl⟩)
     ·refine go 7 ?_
      refine wcP rfl rfl rfl rfl Tryz.call178 rfl (bEe (_ :: _ :: A) _ _ _ l k b 0 ns dp (by omega) (by omega)) (by simp) (by simp [Sto.bl]) ?_
      rintro t25 s25 ⟨rfl, rfl⟩
      refine go 9 ?_
      refine wcp true rfl (by simp [bC]) ?_
      refine go 5 ?_
      have hm := eF hok.last hk ha23
      refine go 4 ?_
      refine wyy rfl rfl rfl (bB rfl rfl rfl (by omega) (by omega)) ?_
      refine go 8 ?_
      refine wcP rfl rfl rfl rfl Tryz.call123 rfl (ihb (_ :: _ :: A) _ _ _ (k + 1) b 0 (ns + 1) dp (by omega) hm (by decide)) (by simp) (by simp [Sto.bl]) ?_
      rintro t27 s27 ⟨x27, k27, u27, e27, rfl, hr27, hk27, he27, rfl⟩
      refine go 5 ?_
      refine wcP rfl rfl rfl rfl Tryz.call87 rfl (fN (_ :: _ :: A) _ _ _ l k27 u27 e27 (ns + 1) dp [41] (by decide) hok hk27 he27) (by simp) (by simp [Sto.bl]) ?_
      rintro t28 s28 ⟨x28, k28, u28, e28, rfl, hr28, hk28, he28, rfl⟩
      refine go 7 ?_
      refine wyy rfl rfl rfl (cI ((ns : Nat) : Int) rfl rfl rfl (by omega) (by omega) (by omega)) ?_
      refine go 13 ?_
      exact ⟨.inr rfl, _, (RSt A B rw P l (k28) (u28) (e28) (ns) (dp)), (aR rfl (aO [_] rfl rfl Tryz.isAgg98 Tryz.sizeOf98 (bK rfl rfl))), aA (.cons _ (.cons _ (.refl _))) (.refl _), ⟨x27, k28, u28, e28, rfl, (hr27.bind (f := fun x k => (fD l [41] k).bind fun _ k => .ok x k) (hr28.map (f := fun _ => x27))).eq (fun _ => by rw [bL.eq_2, if_neg (ha1 rfl), if_neg (ha4 rfl), if_neg (by rw [ha8 rfl]; decide), if_neg (by rw [ha15 rfl]; decide), if_pos ha23, bE1]), hk28, he28, rfl⟩⟩
     ·refine go 6 ?_
      refine wcP rfl rfl rfl rfl Tryz.call64 rfl (bEa (_ :: _ :: A) _ _ _ l k b e ns dp 4) (by simp) (by simp [Sto.bl]) ?_
      rintro t30 s30 ⟨u30, e30, hf30, rfl, rfl⟩
      refine go 10 ?_
      exact ⟨.inr rfl, _, (RSt A B rw P l (k) (u30) (e30) (ns) (dp)), (eK (Wk.agg (.r (.r (.r (.n .nil))))) (aR rfl (aO [_] rfl rfl Tryz.isAgg98 Tryz.sizeOf98 (bK rfl rfl)))), aA (.cons _ (.cons _ (.refl _))) (.refl _), ⟨aH.zero, k, u30, e30, rfl, hf30.run (by decide) (fun h => by unfold bL; rw [if_neg (ha1 h), if_neg (ha4 h), if_neg (by rw [ha8 h]; decide), if_neg (by rw [ha15 h]; decide), if_neg (by rw [ha23 h]; decide)]) _ _, hk, (hf30.small he (by decide)), rfl⟩⟩
end
end Go.Proofs.YteiefdnbdjnoiaaGreatDoor
