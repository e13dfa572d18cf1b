import Derived.Test.YteiefdnbdjnoiaaGreatDoorH5J
import Derived.Test.YteiefdnbdjnoiaaGreatDoorH25J
import Derived.Test.YteiefdnbdjnoiaaGreatDoorH14J
set_option linter.all false
set_option synthInstance.maxHeartbeats 1000000
set_option synthInstance.maxSize 1000000
set_option maxHeartbeats 1600000
set_option maxRecDepth 100000
namespace Go.Proofs.YteiefdnbdjnoiaaGreatDoor
open List (length_append length_cons length_nil mem_append mem_cons not_mem_nil append_assoc getElem_mem take_of_length_le)
section
open Go.RowKit
theorem bFa {l : List Tok} (h : TOk l) {k lv j : Nat} (hk : k < l.length) (hlv : lv < 5) (hj : j < (jP lv).length) (ha : fT l k (jP lv)[j] = true) : (bU l k).kind = 4 ∧ (binOp (bU l k).text).2 = lv + 1 ∧ ∀ h' : j < (dS lv).length, ((binOp (bU l k).text).1 : Int) = (dS lv)[j] := by
 unfold fT at ha
 simp only [Bool.and_eq_true, Bool.or_eq_true, decide_eq_true_eq] at ha
 obtain ⟨h1, h2⟩ := ha
 have h4 : (bU l k).kind = 4 := by
  rcases h1 with h1 | h1
  ·exact h1
  ·have := (h.reg _ (getElem_mem hk)).1 (by rw [← bG hk]; exact h1)
   rw [← bG hk, h2, bEs lv hlv j hj] at this; cases this
 rw [h2]
 have hO : j < (dS lv).length := by rw [(aKy lv).1]; exact hj
 exact ⟨h4, (bEn lv hlv j hj hO).2, fun h' => (bEn lv hlv j hj h').1⟩
theorem bE7 {l : List Tok} {k lv : Nat} (hlv : lv < 5) (h : ∀ j (hj : j < (jP lv).length), fT l k (jP lv)[j] = false) : ¬ ((bU l k).kind = 4 ∧ (binOp (bU l k).text).2 = lv + 1) := by
 rintro ⟨h1, h2⟩
 obtain ⟨j, hj, he⟩ := List.getElem_of_mem (bEz lv hlv _ h2)
 have := h j hj
 unfold fT at this
 rw [he] at this
 simp [h1] at this
def bFk (l : List Tok) (sub : Nat → bN aH) (lv e0 b0 k0 : Nat) (x : aH) (k b e n : Nat) : Prop :=
 (e = 0 → l.length < n + k) ∧ ∀ z k' b' e', kX e b (fR l sub (lv + 1) n x k) z k' b' e' → kX e0 b0 ((sub k0).bind fun x k => fR l sub (lv + 1) (l.length + 1) x k) z k' b' e'
theorem bE9 (A B : List Box) (rw : List bA) (P : Nat) (l : List Tok) (k b e ns dp : Nat) (sub : Nat → bN aH) (hok : TOk l) (hk : k < l.length) (he : e < 16) (iho : ∀ (A B : List Box) (rw : List bA) (P k b e : Nat), k < l.length → e < 16 → aL Tryz.prog 157 [pP P] [P] (RSt A B rw P l k b e ns dp) (RAn A B rw P l ns dp (fun x => .agg (cU x)) e b (sub k))) : aL Tryz.prog 123 [pP P, .c (.val (.int .i64 5))] [P] (RSt A B rw P l k b e ns dp) fun t s => RAn A B rw P l ns dp (fun x => .agg (cU x)) e b (sub k) t s := by
 have hlen := hok.len
 refine aD Tryz.func123 rfl (Nat.le_of_ble_eq_true rfl) ?_
 show AWp Tryz.prog _ ⟨52, [P], ⟨A ++ ⟨P, 95, [.sl l.length (l.flatMap aW), .val (.int .i64 ((k : Nat) : Int)), .val (.int .i64 ((b : Nat) : Int)), .val (.int .i64 ((e : Nat) : Int)), .val (.int .i64 ((ns : Nat) : Int)), .val (.int .i64 ((dp : Nat) : Int))]⟩ :: B, rw⟩, [(0, pP P), (1, .c (.val (.int .i64 5)))]⟩ _
 refine go 9 fun b1 => ?_
 refine wcp true rfl rfl ?_
 refine go 6 ?_
 refine wcP rfl rfl rfl rfl Tryz.call157 rfl (iho (_ :: A) _ _ _ k b e hk he) (by simp) (by simp [Sto.bl]) ?_
 rintro t2 s2 ⟨x2, k2, u2, e2, rfl, hr2, hk2, he2, rfl⟩
 refine go 5 ?_
 exact ⟨.inr rfl, _, (RSt A B rw P l (k2) (u2) (e2) (ns) (dp)), (aR rfl (aO [] rfl rfl Tryz.isAgg98 Tryz.sizeOf98 (bK rfl rfl))), aA (.cons _ (.refl _)) (.refl _), ⟨x2, k2, u2, e2, rfl, hr2, hk2, he2, rfl⟩⟩
theorem bE4 (A B : List Box) (rw : List bA) (P : Nat) (l : List Tok) (k b e ns dp : Nat) (lv : Nat) (sub : Nat → bN aH) (hlv : lv < 5) (hin : ∀ k, k < l.length → (sub k).In l k) (hok : TOk l) (hk : k < l.length) (he : e < 16) (ihb : ∀ (A B : List Box) (rw : List bA) (P k b e : Nat), k < l.length → e < 16 → aL Tryz.prog 123 [pP P, .c (.val (.int .i64 ((lv : Nat) + 1 : Int)))] [P] (RSt A B rw P l k b e ns dp) (RAn A B rw P l ns dp (fun x => .agg (cU x)) e b (sub k))) : aL Tryz.prog 123 [pP P, .c (.val (.int .i64 (lv : Int)))] [P] (RSt A B rw P l k b e ns dp) fun t s => RAn A B rw P l ns dp (fun x => .agg (cU x)) e b ((sub k).bind fun x k => fR l sub (lv + 1) (l.length + 1) x k) t s := by
 have hlen := hok.len
 refine aD Tryz.func123 rfl (Nat.le_of_ble_eq_true rfl) ?_
 show AWp Tryz.prog _ ⟨52, [P], ⟨A ++ ⟨P, 95, [.sl l.length (l.flatMap aW), .val (.int .i64 ((k : Nat) : Int)), .val (.int .i64 ((b : Nat) : Int)), .val (.int .i64 ((e : Nat) : Int)), .val (.int .i64 ((ns : Nat) : Int)), .val (.int .i64 ((dp : Nat) : Int))]⟩ :: B, rw⟩, [(0, pP P), (1, nI lv)]⟩ _
 refine go 9 fun b1 => ?_
 refine wcp false rfl (by simp [bC]; omega) ?_
 refine go 9 ?_
 refine wyy rfl rfl rfl (bB rfl rfl rfl (by omega) (by omega)) ?_
 refine wcP rfl rfl rfl rfl Tryz.call123 rfl (ihb (_ :: A) _ _ _ k b e hk he) (by simp) (by simp [Sto.bl]) ?_
 rintro t2 s2 ⟨x2, k2, u2, e2, rfl, hr2, hk2, he2, rfl⟩
 refine go 7 fun b2 => ?_
 refine wo rfl (bD [] rfl rfl (by decide) Tryz.call140 rfl (aO6 lv hlv _) bDl bDl (fun _ => bDl) ?_)
 rintro t3 s3 ⟨rfl, rfl⟩
 refine go 14 ?_
 refine fM (fun g : Bool × aH × Nat × Nat × Nat => (⟨52, [b2, b1, P], ⟨⟨b2, 98, cU (g.2.1)⟩ :: ⟨b1, 98, [.val (.int .i64 0), .val (.int .i64 0), .val (.string ⟨#[]⟩), .val (.slice none 0 0)]⟩ :: (A ++ ⟨P, 95, [.sl l.length (l.flatMap aW), .val (.int .i64 (((g.2.2.1) : Nat) : Int)), .val (.int .i64 (((g.2.2.2.1) : Nat) : Int)), .val (.int .i64 (((g.2.2.2.2) : Nat) : Int)), .val (.int .i64 ((ns : Nat) : Int)), .val (.int .i64 ((dp : Nat) : Int))]⟩ :: B), rw⟩, [(8, .c (.val (.bool g.1))), (0, pP P), (1, nI lv), (4, pP b1), (5, pP b2), (6, .c (aF6 (jP lv))), (7, .c (aEm (dS lv)))]⟩ : AS)) (fun g => g.2.2.1 < l.length ∧ g.2.2.2.2 < 16 ∧ (g.1 = true → ∃ n, bFk l sub lv e b k g.2.1 g.2.2.1 g.2.2.2.1 g.2.2.2.2 n) ∧ (g.1 = false → kX e b ((sub k).bind fun x k => fR l sub (lv + 1) (l.length + 1) x k) g.2.1 g.2.2.1 g.2.2.2.1 g.2.2.2.2)) (fun g => if g.1 then (if g.2.2.2.2 = 0 then l.length - g.2.2.1 + 2 else 1) else 0) (true, x2, k2, u2, e2) (cA (.refl _) (.refl _) (fun _ h => h) (sA rfl)) ⟨hk2, he2, fun _ => ⟨l.length + 1, fun _ => by omega, fun z k' b' e' h => hr2.bind h⟩, (fun h => nomatch h)⟩ ?_
 rintro ⟨ag0, x0, k0, b0, e0⟩ ⟨hk0, he0, hc0, hd0⟩
 dsimp only at hk0 he0 hc0 hd0
 show AWp Tryz.prog _ (⟨52, [b2, b1, P], ⟨⟨b2, 98, cU (x0)⟩ :: ⟨b1, 98, [.val (.int .i64 0), .val (.int .i64 0), .val (.string ⟨#[]⟩), .val (.slice none 0 0)]⟩ :: (A ++ ⟨P, 95, [.sl l.length (l.flatMap aW), .val (.int .i64 (((k0) : Nat) : Int)), .val (.int .i64 (((b0) : Nat) : Int)), .val (.int .i64 (((e0) : Nat) : Int)), .val (.int .i64 ((ns : Nat) : Int)), .val (.int .i64 ((dp : Nat) : Int))]⟩ :: B), rw⟩, [(8, .c (.val (.bool ag0))), (0, pP P), (1, nI lv), (4, pP b1), (5, pP b2), (6, .c (aF6 (jP lv))), (7, .c (aEm (dS lv)))]⟩ : AS) _
 cases ag0
 ·refine go 19 ?_
  exact ⟨.inr rfl, _, (RSt A B rw P l (k0) (b0) (e0) (ns) (dp)), (aR rfl (aO [_] rfl rfl Tryz.isAgg98 Tryz.sizeOf98 (bK rfl rfl))), aA (.cons _ (.cons _ (.refl _))) (.refl _), ⟨x0, k0, b0, e0, rfl, hd0 rfl, hk0, he0, rfl⟩⟩
 ·refine go 21 ?_
  obtain ⟨n0, hn0, hcont⟩ := hc0 rfl
  refine fM (fun g : Nat × Bool × aH × Nat × Nat × Nat => (⟨52, [b2, b1, P], ⟨⟨b2, 98, cU (g.2.2.1)⟩ :: ⟨b1, 98, [.val (.int .i64 0), .val (.int .i64 0), .val (.string ⟨#[]⟩), .val (.slice none 0 0)]⟩ :: (A ++ ⟨P, 95, [.sl l.length (l.flatMap aW), .val (.int .i64 (((g.2.2.2.1) : Nat) : Int)), .val (.int .i64 (((g.2.2.2.2.1) : Nat) : Int)), .val (.int .i64 (((g.2.2.2.2.2) : Nat) : Int)), .val (.int .i64 ((ns : Nat) : Int)), .val (.int .i64 ((dp : Nat) : Int))]⟩ :: B), rw⟩, [(9, nI (g.1)), (8, .c (.val (.bool g.2.1))), (0, pP P), (1, nI lv), (4, pP b1), (5, pP b2), (6, .c (aF6 (jP lv))), (7, .c (aEm (dS lv)))]⟩ : AS)) (fun g => g.1 ≤ (jP lv).length ∧ (g.2.1 = false → g.2.2 = (x0, k0, b0, e0) ∧ (e0 = 0 → ∀ j (hj : j < (jP lv).length), j < g.1 → fT l k0 (jP lv)[j] = false)) ∧ (g.2.1 = true → e0 = 0 ∧ g.2.2.2.1 < l.length ∧ g.2.2.2.2.2 < 16 ∧ (g.2.2.2.2.2 = 0 → k0 < g.2.2.2.1) ∧ ∃ n, bFk l sub lv e b k g.2.2.1 g.2.2.2.1 g.2.2.2.2.1 g.2.2.2.2.2 n)) (fun g => (jP lv).length - g.1) (0, false, x0, k0, b0, e0) (cA (.refl _) (.refl _) (fun _ h => h) (sA rfl)) ⟨Nat.zero_le _, fun _ => ⟨rfl, fun _ j _ h => by omega⟩, (fun h => nomatch h)⟩ ?_
  rintro ⟨i, ag, x1, k1, b1', e1⟩ ⟨hi0, hf0, ht0⟩
  dsimp only at hi0 hf0 ht0
  have hsl := aKy lv
  cases ag
  ·by_cases hlt : i < (jP lv).length
   ·obtain ⟨hq, hno⟩ := hf0 rfl
    obtain ⟨rfl, rfl, rfl, rfl⟩ : x1 = x0 ∧ k1 = k0 ∧ b1' = b0 ∧ e1 = e0 := by simpa using hq
    clear hq hf0 ht0
    show AWp Tryz.prog _ (⟨52, [b2, b1, P], ⟨⟨b2, 98, cU (x1)⟩ :: ⟨b1, 98, [.val (.int .i64 0), .val (.int .i64 0), .val (.string ⟨#[]⟩), .val (.slice none 0 0)]⟩ :: (A ++ ⟨P, 95, [.sl l.length (l.flatMap aW), .val (.int .i64 (((k1) : Nat) : Int)), .val (.int .i64 (((b1') : Nat) : Int)), .val (.int .i64 (((e1) : Nat) : Int)), .val (.int .i64 ((ns : Nat) : Int)), .val (.int .i64 ((dp : Nat) : Int))]⟩ :: B), rw⟩, [(9, nI (i)), (8, .c (.val (.bool false))), (0, pP P), (1, nI lv), (4, pP b1), (5, pP b2), (6, .c (aF6 (jP lv))), (7, .c (aEm (dS lv)))]⟩ : AS) _
    refine go 6 ?_
    refine wcp true rfl (by simp [bC, hlt]) ?_
    refine go 16 ?_
    refine wyy rfl rfl rfl (rT (fun s => .val (.string s)) (jP lv) i rfl rfl rfl rfl hlt Tryz.runUnderlying26 Tryz.sizeOf9) ?_
    refine go 1 ?_
    refine wcP rfl rfl rfl rfl Tryz.call65 rfl (bEu (_ :: _ :: A) _ _ _ l k1 b1' e1 ns dp (jP lv)[i] hok hk0) (by simp) (by simp [Sto.bl]) ?_
    rintro t7 s7 (⟨rfl, ha, hm, rfl, rfl⟩ | ⟨hna7, rfl, rfl⟩)
    ·refine go 3 ?_
     refine aB [b1] (by kernel_rfl) ?_
     refine tks [(0, true), (1, true)] 11 (by kernel_rfl) ?_
     refine go 3 ?_
     refine tq 2 (by kernel_rfl) rfl rfl rfl rfl (rT (fun n => .val (.int .i64 n)) (dS lv) i rfl rfl rfl rfl (by omega) Tryz.runUnderlying22 Tryz.sizeOf3) ?_
     refine tks [(3, true), (5, true), (6, true)] 7 (by kernel_rfl) ?_
     refine go 4 ?_
     refine tq 7 (by kernel_rfl) rfl rfl rfl rfl (bB rfl rfl rfl (by omega) (by omega)) ?_
     refine two 4 8 (by kernel_rfl) rfl rfl rfl rfl ?_ ?_
     ·refine way rfl (by decide) (aX [] rfl rfl rfl Tryz.isAgg98 Tryz.sizeOf98 rfl (fun _ h => by cases h)) ?_
      refine one 8 (by kernel_rfl) rfl rfl (bD [P] rfl rfl (by decide) Tryz.call123 rfl (ihb (_ :: _ :: A) _ _ _ ((k1 + 1)) b1' 0 hm (by decide)) (by intro b hb; simp at hb; subst hb; simp) (by intro b hb; simp at hb; subst hb; simp [Sto.bl]) (by intro h b hb; simp at hb; subst hb; exact kH.2 ⟨by simp [Sto.bl], fun hh => by simp only [mem_cons, not_mem_nil, or_false] at hh; rcases hh with rfl <;> simp [Sto.bl] at h⟩) ?_)
      rintro t9 s9 ⟨x9, k9, u9, e9, rfl, hr9, hk9, he9, rfl⟩
      refine one 9 (by kernel_rfl) rfl rfl (bDk bDx rfl (.cons rfl (.cons rfl .nil)) (aEp fO cU x1 x9 fP rfl (fun _ => rfl)) ?_)
      refine tks [(10, true), (11, false), (12, true)] 0 (by kernel_rfl) ?_
      refine go 4 ?_
      refine aE (by kernel_rfl) ?_
      refine go 4 ?_
      refine wyy rfl rfl rfl (bB rfl rfl rfl (by omega) (by omega)) ?_
      refine go 2 ?_
      obtain ⟨h4, hlv2, hop⟩ := bFa hok hk0 hlv hlt ha
      have hin2 := hin (k1 + 1) hm
      refine ⟨(i + 1, true, .mk (dS lv)[i] 0 aK [x1, x9], k9, u9, e9), ⟨by show i + 1 ≤ _; omega, (fun h => nomatch h), fun _ => ⟨rfl, hk9, he9, fun h0 => ?_, n0 - 1, fun h0 => ?_, fun z k' b' e' h => hcont z k' b' e' ?_⟩⟩, by show (jP lv).length - (i + 1) < (jP lv).length - i; omega, cA (.refl _) (.refl _) (fun _ h => h) (sA rfl)⟩
      ·have hg := hr9.good h0
       rw [hg.2.1] at hin2
       show k1 < k9
       have := hin2.1; omega
      ·have hg := hr9.good h0
       rw [hg.2.1] at hin2
       have h1 := hin2.1
       have h2 := hn0 rfl
       show l.length < n0 - 1 + k9
       omega
      ·obtain ⟨m, rfl⟩ : ∃ m, n0 = m + 1 := ⟨n0 - 1, by have := hn0 rfl; omega⟩
       rw [fR, if_pos ⟨h4, hlv2⟩]
       refine (hr9.bind (f := fun y k => fR l sub (lv + 1) m (.mk (dS lv)[i] 0 aK [x1, y]) k) h).eq fun _ => ?_
       rw [hop (by omega)]
       cases sub (k1 + 1) <;> rfl
     ·refine (bD [P] rfl rfl (by decide) Tryz.call123 rfl (ihb (_ :: _ :: A) _ _ _ ((k1 + 1)) b1' 0 hm (by decide)) (by intro b hb; simp at hb; subst hb; simp) (by intro b hb; simp at hb; subst hb; simp [Sto.bl]) (by intro h b hb; simp at hb; subst hb; exact kH.2 ⟨by simp [Sto.bl], fun hh => by simp only [mem_cons, not_mem_nil, or_false] at hh; rcases hh with rfl <;> simp [Sto.bl] at h⟩) ?_)
      rintro t10 s10 ⟨x10, k10, u10, e10, rfl, hr10, hk10, he10, rfl⟩
      refine one 4 (by kernel_rfl) rfl rfl (way rfl (by decide) (aX [] rfl rfl rfl Tryz.isAgg98 Tryz.sizeOf98 rfl (fun _ h => by cases h)) ?_)
      refine one 9 (by kernel_rfl) rfl rfl (bDk bDx rfl (.cons rfl (.cons rfl .nil)) (aEp fO cU x1 x10 fP rfl (fun _ => rfl)) ?_)
      refine tks [(10, true), (11, false), (12, true)] 0 (by kernel_rfl) ?_
      refine go 4 ?_
      refine aE (by kernel_rfl) ?_
      refine go 4 ?_
      refine wyy rfl rfl rfl (bB rfl rfl rfl (by omega) (by omega)) ?_
      refine go 2 ?_
      obtain ⟨h4, hlv2, hop⟩ := bFa hok hk0 hlv hlt ha
      have hin2 := hin (k1 + 1) hm
      refine ⟨(i + 1, true, .mk (dS lv)[i] 0 aK [x1, x10], k10, u10, e10), ⟨by show i + 1 ≤ _; omega, (fun h => nomatch h), fun _ => ⟨rfl, hk10, he10, fun h0 => ?_, n0 - 1, fun h0 => ?_, fun z k' b' e' h => hcont z k' b' e' ?_⟩⟩, by show (jP lv).length - (i + 1) < (jP lv).length - i; omega, cA (.refl _) (.refl _) (fun _ h => h) (sA rfl)⟩
      ·have hg := hr10.good h0
       rw [hg.2.1] at hin2
       show k1 < k10
       have := hin2.1; omega
      ·have hg := hr10.good h0
       rw [hg.2.1] at hin2
       have h1 := hin2.1
       have h2 := hn0 rfl
       show l.length < n0 - 1 + k10
       omega
      ·obtain ⟨m, rfl⟩ : ∃ m, n0 = m + 1 := ⟨n0 - 1, by have := hn0 rfl; omega⟩
       rw [fR, if_pos ⟨h4, hlv2⟩]
       refine (hr10.bind (f := fun y k => fR l sub (lv + 1) m (.mk (dS lv)[i] 0 aK [x1, y]) k) h).eq fun _ => ?_
       rw [hop (by omega)]
       cases sub (k1 + 1) <;> rfl
    ·have hno2 : e1 = 0 → fT l k1 (jP lv)[i] = false := fun h0 => by cases hh : fT l k1 (jP lv)[i] with | false => rfl | true => exact absurd ⟨h0, hh⟩ hna7
     refine go 8 ?_
     refine wyy rfl rfl rfl (bB rfl rfl rfl (by omega) (by omega)) ?_
     refine go 2 ?_
     refine ⟨(i + 1, false, x1, k1, b1', e1), ⟨by show i + 1 ≤ _; omega, fun _ => ⟨rfl, fun h0 j hj hji => ?_⟩, (fun h => nomatch h)⟩, by show (jP lv).length - (i + 1) < (jP lv).length - i; omega, cA (.refl _) (.refl _) (fun _ h => h) (sA rfl)⟩
     have hji2 : j < i + 1 := hji
     rcases Nat.lt_or_ge j i with h | h
     ·exact hno h0 j hj h
     ·obtain rfl : j = i := by omega
      exact hno2 h0
   ·obtain ⟨hq, hno⟩ := hf0 rfl
    obtain ⟨rfl, rfl, rfl, rfl⟩ : x1 = x0 ∧ k1 = k0 ∧ b1' = b0 ∧ e1 = e0 := by simpa using hq
    clear hq hf0 ht0
    show AWp Tryz.prog _ (⟨52, [b2, b1, P], ⟨⟨b2, 98, cU (x1)⟩ :: ⟨b1, 98, [.val (.int .i64 0), .val (.int .i64 0), .val (.string ⟨#[]⟩), .val (.slice none 0 0)]⟩ :: (A ++ ⟨P, 95, [.sl l.length (l.flatMap aW), .val (.int .i64 (((k1) : Nat) : Int)), .val (.int .i64 (((b1') : Nat) : Int)), .val (.int .i64 (((e1) : Nat) : Int)), .val (.int .i64 ((ns : Nat) : Int)), .val (.int .i64 ((dp : Nat) : Int))]⟩ :: B), rw⟩, [(9, nI (i)), (8, .c (.val (.bool false))), (0, pP P), (1, nI lv), (4, pP b1), (5, pP b2), (6, .c (aF6 (jP lv))), (7, .c (aEm (dS lv)))]⟩ : AS) _
    obtain rfl : i = (jP lv).length := by omega
    refine go 6 ?_
    refine wcp false rfl (by simp [bC]) ?_
    refine go 8 ?_
    have hfin : kX e b ((sub k).bind fun x k => fR l sub (lv + 1) (l.length + 1) x k) x1 k1 b1' e1 := by
     refine hcont x1 k1 b1' e1 ?_
     by_cases h0 : e1 = 0
     ·subst h0
      obtain ⟨m, rfl⟩ : ∃ m, n0 = m + 1 := ⟨n0 - 1, by have := hn0 rfl; omega⟩
      rw [fR, if_neg (bE7 hlv fun j hj => hno rfl j hj hj)]
      exact kX.pure _ _ _ _
     ·exact .skip h0 _ _ _
    refine go 4 ?_
    exact ⟨(false, x1, k1, b1', e1), ⟨hk0, he0, (fun h => nomatch h), fun _ => hfin⟩, by simp only [if_true, Bool.false_eq_true, if_false]; split <;> omega, cA (.refl _) (.refl _) (fun _ h => h) (sA rfl)⟩
  ·by_cases hlt : i < (jP lv).length
   ·obtain ⟨rfl, hk1, he1, hgt, n1, hb1⟩ := ht0 rfl
    clear hf0 ht0
    show AWp Tryz.prog _ (⟨52, [b2, b1, P], ⟨⟨b2, 98, cU (x1)⟩ :: ⟨b1, 98, [.val (.int .i64 0), .val (.int .i64 0), .val (.string ⟨#[]⟩), .val (.slice none 0 0)]⟩ :: (A ++ ⟨P, 95, [.sl l.length (l.flatMap aW), .val (.int .i64 (((k1) : Nat) : Int)), .val (.int .i64 (((b1') : Nat) : Int)), .val (.int .i64 (((e1) : Nat) : Int)), .val (.int .i64 ((ns : Nat) : Int)), .val (.int .i64 ((dp : Nat) : Int))]⟩ :: B), rw⟩, [(9, nI (i)), (8, .c (.val (.bool true))), (0, pP P), (1, nI lv), (4, pP b1), (5, pP b2), (6, .c (aF6 (jP lv))), (7, .c (aEm (dS lv)))]⟩ : AS) _
    refine go 6 ?_
    refine wcp true rfl (by simp [bC, hlt]) ?_
    refine go 8 ?_
    have hmu : (if true = true then (if e1 = 0 then l.length - k1 + 2 else 1) else 0) < (if true = true then (if (0 : Nat) = 0 then l.length - k0 + 2 else 1) else 0) := by
     simp only [if_true]
     by_cases h0 : e1 = 0
     ·have := hgt h0; rw [if_pos h0]; omega
     ·rw [if_neg h0]; omega
    refine go 4 ?_
    exact ⟨(true, x1, k1, b1', e1), ⟨hk1, he1, fun _ => ⟨_, hb1⟩, (fun h => nomatch h)⟩, hmu, cA (.refl _) (.refl _) (fun _ h => h) (sA rfl)⟩
   ·obtain ⟨rfl, hk1, he1, hgt, n1, hb1⟩ := ht0 rfl
    clear hf0 ht0
    show AWp Tryz.prog _ (⟨52, [b2, b1, P], ⟨⟨b2, 98, cU (x1)⟩ :: ⟨b1, 98, [.val (.int .i64 0), .val (.int .i64 0), .val (.string ⟨#[]⟩), .val (.slice none 0 0)]⟩ :: (A ++ ⟨P, 95, [.sl l.length (l.flatMap aW), .val (.int .i64 (((k1) : Nat) : Int)), .val (.int .i64 (((b1') : Nat) : Int)), .val (.int .i64 (((e1) : Nat) : Int)), .val (.int .i64 ((ns : Nat) : Int)), .val (.int .i64 ((dp : Nat) : Int))]⟩ :: B), rw⟩, [(9, nI (i)), (8, .c (.val (.bool true))), (0, pP P), (1, nI lv), (4, pP b1), (5, pP b2), (6, .c (aF6 (jP lv))), (7, .c (aEm (dS lv)))]⟩ : AS) _
    refine go 6 ?_
    refine wcp false rfl (by simp [bC, hlt]) ?_
    refine go 8 ?_
    have hmu : (if true = true then (if e1 = 0 then l.length - k1 + 2 else 1) else 0) < (if true = true then (if (0 : Nat) = 0 then l.length - k0 + 2 else 1) else 0) := by
     simp only [if_true]
     by_cases h0 : e1 = 0
     ·have := hgt h0; rw [if_pos h0]; omega
     ·rw [if_neg h0]; omega
    refine go 4 ?_
    exact ⟨(true, x1, k1, b1', e1), ⟨hk1, he1, fun _ => ⟨_, hb1⟩, (fun h => nomatch h)⟩, hmu, cA (.refl _) (.refl _) (fun _ h => h) (sA rfl)⟩
theorem bEk (l : List Tok) (hok : TOk l) (d : Nat) (iho : ∀ (A B : List Box) (rw : List bA) (P : Nat) (k b e dp : Nat), k < l.length → e < 16 → aL Tryz.prog 157 [pP P] [P] (RSt A B rw P l k b e (24 - d) dp) (RAn A B rw P l (24 - d) dp (fun x => .agg (cU x)) e b (bL l d k))) : ∀ (j : Nat), j ≤ 5 → ∀ (A B : List Box) (rw : List bA) (P : Nat) (k b e dp : Nat), k < l.length → e < 16 → aL Tryz.prog 123 [pP P, .c (.val (.int .i64 ((5 - j : Nat) : Int)))] [P] (RSt A B rw P l k b e (24 - d) dp) (RAn A B rw P l (24 - d) dp (fun x => .agg (cU x)) e b (gS l (bL l d) j k))
 | 0, _, A, B, rw, P, k, b, e, dp, hk, he => (bE9 A B rw P l k b e (24 - d) dp (bL l d) hok hk he fun A B rw P k b e hk he => iho A B rw P k b e dp hk he)
 | j + 1, hj, A, B, rw, P, k, b, e, dp, hk, he => by
  have h := bE4 A B rw P l k b e (24 - d) dp (5 - (j + 1)) (gS l (bL l d) j) (by omega) (fun k hk => vV hok.last (fun k hk => nP hok.last d k hk) j k hk) hok hk he (fun A B rw P k b e hk he => by
   have h9 := bEk l hok d iho j (by omega) A B rw P k b e dp hk he
   have e1 : (((5 - (j + 1) : Nat) : Int) + 1) = ((5 - j : Nat) : Int) := by omega
   rw [e1]; exact h9)
  have e2 : gS l (bL l d) (j + 1) k = (gS l (bL l d) j k).bind fun x k => fR l (gS l (bL l d) j) (5 - (j + 1) + 1) (l.length + 1) x k := by
   rw [gS, show 5 - (j + 1) + 1 = 5 - j by omega]
   cases gS l (bL l d) j k <;> rfl
  rw [e2]; exact h
theorem bD3 (l : List Tok) (hok : TOk l) : ∀ (d : Nat), d ≤ 24 → ∀ (A B : List Box) (rw : List bA) (P : Nat) (k b e dp : Nat), k < l.length → e < 16 → aL Tryz.prog 157 [pP P] [P] (RSt A B rw P l k b e (24 - d) dp) (RAn A B rw P l (24 - d) dp (fun x => .agg (cU x)) e b (bL l d k))
 | 0, _, A, B, rw, P, k, b, e, dp, hk, he => bEx A B rw P l k b e dp hok hk he
 | d + 1, hd, A, B, rw, P, k, b, e, dp, hk, he => bE0 A B rw P l k b e (24 - (d + 1)) dp d (by omega) hok hk he
   (fun A B rw P k b e ns dp hns hk he => by
    obtain rfl : ns = 24 - d := by omega
    exact bD3 l hok d (by omega) A B rw P k b e dp hk he)
   (fun A B rw P k b e ns dp hns hk he => by
    obtain rfl : ns = 24 - d := by omega
    exact bEk l hok d (bD3 l hok d (by omega)) 5 (Nat.le_refl _) A B rw P k b e dp hk he)
theorem bD9 (A B : List Box) (rw : List bA) (P : Nat) (l : List Tok) (k b e dp : Nat) (hok : TOk l) (hk : k < l.length) (he : e < 16) : aL Tryz.prog 123 [pP P, .c (.val (.int .i64 0))] [P] (RSt A B rw P l k b e 0 dp) (RAn A B rw P l 0 dp (fun x => .agg (cU x)) e b (lJ l k)) :=
 bEk l hok 24 (bD3 l hok 24 (Nat.le_refl _)) 5 (Nat.le_refl _) A B rw P k b e dp hk he
end
section
open Go.RowKit
theorem bFc (A B : List Box) (rw : List bA) (P : Nat) (l : List Tok) (k b e dp : Nat) (hok : TOk l) (hk : k < l.length) (he : e < 16) : aL Tryz.prog 125 [pP P] [P] (RSt A B rw P l k b e 0 dp) (RAn A B rw P l 0 dp (fun x => .agg (encR x)) e b (xV l k)) := by
 have hlen := hok.len
 refine aD Tryz.func125 rfl (Nat.le_of_ble_eq_true rfl) ?_
 show AWp Tryz.prog _ ⟨16, [P], ⟨A ++ ⟨P, 95, [.sl l.length (l.flatMap aW), .val (.int .i64 ((k : Nat) : Int)), .val (.int .i64 ((b : Nat) : Int)), .val (.int .i64 ((e : Nat) : Int)), .val (.int .i64 ((0 : Nat) : Int)), .val (.int .i64 ((dp : Nat) : Int))]⟩ :: B, rw⟩, [(0, pP P)]⟩ _
 refine go 8 fun b1 => ?_
 refine wcP rfl rfl rfl rfl Tryz.call68 rfl (bEb (_ :: A) _ _ _ l k b e 0 dp hok hk he) (by simp) (by simp [Sto.bl]) ?_
 rintro t1 s1 ⟨x1, k1, u1, e1, rfl, hr1, hk1, he1, rfl⟩
 refine go 9 fun b2 => ?_
 refine wcP rfl rfl rfl rfl Tryz.call65 rfl (bD5 (_ :: _ :: A) _ _ _ l k1 u1 e1 0 dp [91] (by decide) hok hk1) (by simp) (by simp [Sto.bl]) ?_
 rintro t2 s2 (⟨rfl, ha2, hm2, rfl, rfl⟩ | ⟨ha2, rfl, rfl⟩)
 ·refine go 6 ?_
  refine wcP rfl rfl rfl rfl Tryz.call123 rfl (bD9 (_ :: _ :: A) _ _ _ l (k1 + 1) u1 0 dp hok hm2 (by decide)) (by simp) (by simp [Sto.bl]) ?_
  rintro t4 s4 ⟨x4, k4, u4, e4, rfl, hr4, hk4, he4, rfl⟩
  refine wo rfl (bDk bDw rfl (.cons rfl .nil) (aV fO cU x4 (fP _) rfl rfl) ?_)
  refine go 6 ?_
  refine wcP rfl rfl rfl rfl Tryz.call87 rfl (fN (_ :: _ :: A) _ _ _ l k4 u4 e4 0 dp [93] (by decide) hok hk4 he4) (by simp) (by simp [Sto.bl]) ?_
  rintro t5 s5 ⟨x5, k5, u5, e5, rfl, hr5, hk5, he5, rfl⟩
  refine go 9 ?_
  exact ⟨.inr rfl, _, (RSt A B rw P l (k5) (u5) (e5) (0) (dp)), (aR rfl (aO [_] rfl rfl Tryz.isAgg100 Tryz.sizeOf100 (bK rfl rfl))), aA (.cons _ (.cons _ (.refl _))) (.refl _), ⟨⟨x1, [x4]⟩, k5, u5, e5, rfl, hr1.bind (f := jT l) ((hr4.bind (f := fun e k => (fD l [93] k).bind fun _ k => .ok ⟨x1, [e]⟩ k) (hr5.map (f := fun _ => cY.mk x1 [x4]))).eq fun _ => by unfold jT; rw [if_pos ha2]), hk5, he5, rfl⟩⟩
 ·refine go 12 ?_
  exact ⟨.inr rfl, _, (RSt A B rw P l (k1) (u1) (e1) (0) (dp)), (eK (Wk.agg (.r (.n .nil))) (aR rfl (aO [_] rfl rfl Tryz.isAgg100 Tryz.sizeOf100 (bK rfl rfl)))), aA (.cons _ (.cons _ (.refl _))) (.refl _), ⟨⟨x1, []⟩, k1, u1, e1, rfl, hr1.bind (f := jT l) ((kX.pure _ _ _ _).eq fun h => by unfold jT; rw [if_neg (by rw [ha2 h]; decide)]), hk1, he1, rfl⟩⟩
theorem bE5 (A B : List Box) (rw : List bA) (P : Nat) (l : List Tok) (k b e dp : Nat) (hok : TOk l) (hk : k < l.length) (he : e < 16) : aL Tryz.prog 124 [pP P] [P] (RSt A B rw P l k b e 0 dp) (RAn A B rw P l 0 dp (fun x => .c (.sl x.length (x.flatMap eJ))) e b (rA l k)) := by
 have hlen := hok.len
 refine aD Tryz.func124 rfl (Nat.le_of_ble_eq_true rfl) ?_
 show AWp Tryz.prog _ ⟨34, [P], ⟨A ++ ⟨P, 95, [.sl l.length (l.flatMap aW), .val (.int .i64 ((k : Nat) : Int)), .val (.int .i64 ((b : Nat) : Int)), .val (.int .i64 ((e : Nat) : Int)), .val (.int .i64 ((0 : Nat) : Int)), .val (.int .i64 ((dp : Nat) : Int))]⟩ :: B, rw⟩, [(0, pP P)]⟩ _
 refine go 13 ?_
 refine wcP rfl rfl rfl rfl Tryz.call87 rfl (fN (A) _ _ _ l k b e 0 dp [40] (by decide) hok hk he) (by simp) (by simp [Sto.bl]) ?_
 rintro t1 s1 ⟨x1, k1, u1, e1, rfl, hr1, hk1, he1, rfl⟩
 refine go 6 ?_
 refine wcP rfl rfl rfl rfl Tryz.call65 rfl (bD5 (A) _ _ _ l k1 u1 e1 0 dp [41] (by decide) hok hk1) (by simp) (by simp [Sto.bl]) ?_
 rintro t2 s2 (⟨rfl, ha2, hm2, rfl, rfl⟩ | ⟨ha2, rfl, rfl⟩)
 ·refine go 10 ?_
  exact ⟨.inr rfl, _, (RSt A B rw P l (k1 + 1) (u1) (0) (0) (dp)), (eK (Wk.c aQl) (aR rfl (aF rfl))), aA (.refl _) (.refl _), ⟨[], k1 + 1, u1, 0, rfl, hr1.bind (by rw [if_pos ha2]; exact .ok _ _ _ rfl), hm2, (by decide), rfl⟩⟩
 ·refine go 7 ?_
  refine qR 107 7 ?_
  refine fM (fun g : List eN × Value × Nat × Nat × Nat => (⟨34, aY g.2.1 ++ [P], ⟨A ++ ⟨P, 95, [.sl l.length (l.flatMap aW), .val (.int .i64 (((g.2.2.1) : Nat) : Int)), .val (.int .i64 (((g.2.2.2.1) : Nat) : Int)), .val (.int .i64 (((g.2.2.2.2) : Nat) : Int)), .val (.int .i64 ((0 : Nat) : Int)), .val (.int .i64 ((dp : Nat) : Int))]⟩ :: B, ⟨g.2.1, 107, 7, (g.1).length, (g.1).flatMap eJ⟩ :: rw⟩, [(3, .c (.val g.2.1)), (0, pP P)]⟩ : AS)) (fun g => g.2.2.1 < l.length ∧ g.2.2.2.2 < 16 ∧ g.1.length ≤ g.2.2.1 ∧ (g.2.2.2.2 ≠ 0 → kX e b (rA l k) g.1 g.2.2.1 g.2.2.2.1 g.2.2.2.2) ∧ (g.2.2.2.2 = 0 → ∃ n, l.length ≤ n + g.2.2.1 ∧ ∀ z k' b' e', kX 0 g.2.2.2.1 (lI l (fun _ => rC l) n g.1 g.2.2.1) z k' b' e' → kX e b (rA l k) z k' b' e')) (fun g => if g.2.2.2.2 = 0 then l.length - g.2.2.1 + 1 else 0) ([], .slice none 0 0, k1, u1, e1) (cA (.refl _) (.refl _) (fun _ h => h) (sA rfl)) ⟨hk1, he1, Nat.zero_le _, fun h => hr1.bind (kX.skip h _ _ _), fun h => ⟨l.length, Nat.le_add_right _ _, fun z k' b' e' h2 => ?_⟩⟩ ?_
  ·have h : e1 = 0 := h
   refine hr1.bind ?_
   rw [h, if_neg (by rw [ha2 h]; decide)]
   exact h2
  rintro ⟨acc, v0, k0, b0, e0⟩ ⟨hk0, he0, ha0, hn0, hc0⟩
  dsimp only at hk0 he0 ha0 hn0 hc0
  show AWp Tryz.prog _ (⟨34, aY v0 ++ [P], ⟨A ++ ⟨P, 95, [.sl l.length (l.flatMap aW), .val (.int .i64 (((k0) : Nat) : Int)), .val (.int .i64 (((b0) : Nat) : Int)), .val (.int .i64 (((e0) : Nat) : Int)), .val (.int .i64 ((0 : Nat) : Int)), .val (.int .i64 ((dp : Nat) : Int))]⟩ :: B, ⟨v0, 107, 7, (acc).length, (acc).flatMap eJ⟩ :: rw⟩, [(3, .c (.val v0)), (0, pP P)]⟩ : AS) _
  by_cases h0 : e0 = 0
  ·subst h0
   obtain ⟨n0, hn1, hcont⟩ := hc0 rfl
   refine go 7 ?_
   refine wcp true rfl (by rfl) ?_
   refine go 17 fun b1 => ?_
   refine wcP rfl rfl rfl rfl Tryz.call65 rfl (bD2 (_ :: A) _ _ _ l k0 b0 0 0 dp [109, 117, 116, 101, 120] (by decide) hok hk0) (by simp) (by simp [Sto.bl]) ?_
   rintro t6 s6 (⟨-, ha6, hm6, rfl, rfl⟩ | ⟨ha6, rfl, rfl⟩)
   ·refine go 5 ?_
    refine wcP rfl rfl rfl rfl Tryz.call125 rfl (bFc (_ :: A) _ _ _ l (k0 + 1) b0 0 dp hok hm6 (by decide)) (by simp) (by simp [Sto.bl]) ?_
    rintro t8 s8 ⟨x8, k8, u8, e8, rfl, hr8, hk8, he8, rfl⟩
    refine go 6 ?_
    have hel : kX 0 b0 (rC l k0) ⟨true, x8, .zero⟩ k8 u8 e8 := (hr8.map (f := fun r => eN.mk true r .zero)).eq fun _ => by unfold rC; rw [if_pos ha6]
    refine go 2 ?_
    refine eA 24 rfl (Wk.agg (.r (.r (.r (.r (.r (.r (.n .nil)))))))) ?_
    refine wo rfl (bDk zb1 rfl (.cons rfl .nil) (aV eJ eJ ⟨true, x8, .zero⟩ rfl rfl rfl) ?_)
    refine wo rfl (bFe Tryz.t107 104 rfl rfl (by decide) rfl rfl Tryz.underlying101 (by kernel_rfl) rfl rfl rfl rfl (by decide) rfl (by decide) (by unfold maxLen; skip; omega) (by skip; omega) (@length_append _ acc [⟨true, x8, .zero⟩]).symm (fun _ b hb => by simp [hb]) (fun b hb => by simp [hb]) (List.flatMap_append (f := eJ)).symm fun v9 => ?_)
    refine go 6 ?_
    refine wcP rfl rfl rfl rfl Tryz.call65 rfl (bD5 (_ :: A) _ _ _ l k8 u8 e8 0 dp [44] (by decide) hok hk8) (by simp) (by simp [Sto.bl]) ?_
    rintro t10 s10 (⟨rfl, ha10, hm10, rfl, rfl⟩ | ⟨ha10, rfl, rfl⟩)
    ·refine go 6 ?_
     obtain ⟨m, rfl⟩ : ∃ m, n0 = m + 1 := ⟨n0 - 1, by omega⟩
     have hin := aDl hok.last hk0
     rw [(hel.good rfl).2.1] at hin
     have hin1 := hin.1
     refine ⟨(acc ++ [⟨true, x8, .zero⟩], v9, k8 + 1, u8, 0), ⟨hm10, by show (0 : Nat) < 16; decide, by show (acc ++ [_]).length ≤ k8 + 1; simp; omega, fun h => absurd rfl h, fun _ => ⟨m, by show l.length ≤ m + (k8 + 1); omega, fun z k' b' e' h => hcont z k' b' e' ?_⟩⟩, by show (if (0 : Nat) = 0 then _ else _) < (if (0 : Nat) = 0 then _ else _); rw [if_pos rfl, if_pos rfl]; show l.length - (k8 + 1) + 1 < l.length - k0 + 1; omega, cA (.cons _ (.refl _)) (.refl _) (by intro x hx; simp only [mem_append, mem_cons, not_mem_nil, or_false] at hx ⊢; rcases hx with h | h <;> simp [h]) (sA rfl)⟩
     rw [lI]
     refine hel.bind ?_
     rw [if_pos ha10]
     exact h
    ·refine go 7 ?_
     refine wcP rfl rfl rfl rfl Tryz.call87 rfl (fN (_ :: A) _ _ _ l k8 u8 e8 0 dp [41] (by decide) hok hk8 he8) (by simp) (by simp [Sto.bl]) ?_
     rintro t13 s13 ⟨x13, k13, u13, e13, rfl, hr13, hk13, he13, rfl⟩
     refine go 8 ?_
     refine aH0 2 rfl ?_
     refine go 5 ?_
     obtain ⟨m, rfl⟩ : ∃ m, n0 = m + 1 := ⟨n0 - 1, by omega⟩
     exact ⟨.inr rfl, _, (RSt A B rw P l (k13) (u13) (e13) (0) (dp)), (aR rfl (aF rfl)), aA (.cons _ (.refl _)) (.refl _), ⟨acc ++ [⟨true, x8, .zero⟩], k13, u13, e13, rfl, hcont _ _ _ _ (by rw [lI]; exact hel.bind ((hr13.map (f := fun _ => acc ++ [⟨true, x8, .zero⟩])).eq fun h => by rw [if_neg (by rw [ha10 h]; decide)])), hk13, he13, rfl⟩⟩
   ·refine go 5 ?_
    refine wcP rfl rfl rfl rfl Tryz.call123 rfl (bD9 (_ :: A) _ _ _ l k0 b0 0 dp hok hk0 he0) (by simp) (by simp [Sto.bl]) ?_
    rintro t15 s15 ⟨x15, k15, u15, e15, rfl, hr15, hk15, he15, rfl⟩
    refine go 6 ?_
    have hel : kX 0 b0 (rC l k0) ⟨false, .zero, x15⟩ k15 u15 e15 := (hr15.map (f := fun e => eN.mk false .zero e)).eq fun _ => by unfold rC; rw [if_neg (by rw [ha6 rfl]; decide)]
    refine go 2 ?_
    refine eA 24 rfl (Wk.agg (.r (.r (.n (.r (.r (.r (.r .nil)))))))) ?_
    refine wo rfl (bDk zb1 rfl (.cons rfl .nil) (aV eJ eJ ⟨false, .zero, x15⟩ rfl rfl rfl) ?_)
    refine wo rfl (bFe Tryz.t107 104 rfl rfl (by decide) rfl rfl Tryz.underlying101 (by kernel_rfl) rfl rfl rfl rfl (by decide) rfl (by decide) (by unfold maxLen; skip; omega) (by skip; omega) (@length_append _ acc [⟨false, .zero, x15⟩]).symm (fun _ b hb => by simp [hb]) (fun b hb => by simp [hb]) (List.flatMap_append (f := eJ)).symm fun v16 => ?_)
    refine go 6 ?_
    refine wcP rfl rfl rfl rfl Tryz.call65 rfl (bD5 (_ :: A) _ _ _ l k15 u15 e15 0 dp [44] (by decide) hok hk15) (by simp) (by simp [Sto.bl]) ?_
    rintro t17 s17 (⟨rfl, ha17, hm17, rfl, rfl⟩ | ⟨ha17, rfl, rfl⟩)
    ·refine go 6 ?_
     obtain ⟨m, rfl⟩ : ∃ m, n0 = m + 1 := ⟨n0 - 1, by omega⟩
     have hin := aDl hok.last hk0
     rw [(hel.good rfl).2.1] at hin
     have hin1 := hin.1
     refine ⟨(acc ++ [⟨false, .zero, x15⟩], v16, k15 + 1, u15, 0), ⟨hm17, by show (0 : Nat) < 16; decide, by show (acc ++ [_]).length ≤ k15 + 1; simp; omega, fun h => absurd rfl h, fun _ => ⟨m, by show l.length ≤ m + (k15 + 1); omega, fun z k' b' e' h => hcont z k' b' e' ?_⟩⟩, by show (if (0 : Nat) = 0 then _ else _) < (if (0 : Nat) = 0 then _ else _); rw [if_pos rfl, if_pos rfl]; show l.length - (k15 + 1) + 1 < l.length - k0 + 1; omega, cA (.cons _ (.refl _)) (.refl _) (by intro x hx; simp only [mem_append, mem_cons, not_mem_nil, or_false] at hx ⊢; rcases hx with h | h <;> simp [h]) (sA rfl)⟩
     rw [lI]
     refine hel.bind ?_
     rw [if_pos ha17]
     exact h
    ·refine go 7 ?_
     refine wcP rfl rfl rfl rfl Tryz.call87 rfl (fN (_ :: A) _ _ _ l k15 u15 e15 0 dp [41] (by decide) hok hk15 he15) (by simp) (by simp [Sto.bl]) ?_
     rintro t20 s20 ⟨x20, k20, u20, e20, rfl, hr20, hk20, he20, rfl⟩
     refine go 8 ?_
     refine aH0 2 rfl ?_
     refine go 5 ?_
     obtain ⟨m, rfl⟩ : ∃ m, n0 = m + 1 := ⟨n0 - 1, by omega⟩
     exact ⟨.inr rfl, _, (RSt A B rw P l (k20) (u20) (e20) (0) (dp)), (aR rfl (aF rfl)), aA (.cons _ (.refl _)) (.refl _), ⟨acc ++ [⟨false, .zero, x15⟩], k20, u20, e20, rfl, hcont _ _ _ _ (by rw [lI]; exact hel.bind ((hr20.map (f := fun _ => acc ++ [⟨false, .zero, x15⟩])).eq fun h => by rw [if_neg (by rw [ha17 h]; decide)])), hk20, he20, rfl⟩⟩
  ·refine go 7 ?_
   refine wcp false rfl (lA h0) ?_
   refine go 14 ?_
   refine aH0 2 rfl ?_
   refine go 1 ?_
   exact ⟨.inr rfl, _, (RSt A B rw P l (k0) (b0) (e0) (0) (dp)), (aR rfl (aF rfl)), aA (.refl _) (.refl _), ⟨acc, k0, b0, e0, rfl, hn0 h0, hk0, he0, rfl⟩⟩
end
section
open Go.RowKit
theorem bEy {l : List Tok} {n : ByteArray} {k : Nat} (h : cS l k [40] = false) : iB l n k = (fD l [61] k).bind fun _ k => (lJ l k).bind fun e k => oO l (.mk 2 n e .zero [] [] []) k := by
 unfold iB
 by_cases h2 : cS l k [61] = true
 ·rw [if_pos h2]; unfold fD; rw [if_pos h2]; rfl
 ·rw [if_neg h2]
  unfold rA jC fD
  rw [if_neg (by rw [h]; decide), if_neg h2]; rfl
theorem bEt {l : List Tok} {n : ByteArray} {k : Nat} (h : cS l k [40] = true) : iB l n k = (rA l k).bind fun a k => oO l (.mk 3 n .zero .zero a [] []) k := by
 unfold iB
 rw [if_neg]
 intro h2
 have h3 := (mD h).2
 rw [(mD h2).2] at h3
 revert h3; decide
theorem bFl (A B : List Box) (rw : List bA) (P : Nat) (l : List Tok) (k b e dp : Nat) (blk : Nat → bN (List aJ)) (hok : TOk l) (hk : k < l.length) (he : e < 16) (hblk : ∀ (A B : List Box) (rw : List bA) (P k b e : Nat), k < l.length → e < 16 → aL Tryz.prog 51 [pP P] [P] (RSt A B rw P l k b e 0 dp) (RAn A B rw P l 0 dp (fun x => .c (.sl x.length (x.flatMap encS))) e b (blk k))) : aL Tryz.prog 88 [pP P] [P] (RSt A B rw P l k b e 0 dp) (RAn A B rw P l 0 dp (fun x => .agg (dG x)) e b (fB l blk k)) := by
 have hlen := hok.len
 refine aD Tryz.func88 rfl (Nat.le_of_ble_eq_true rfl) ?_
 show AWp Tryz.prog _ ⟨98, [P], ⟨A ++ ⟨P, 95, [.sl l.length (l.flatMap aW), .val (.int .i64 ((k : Nat) : Int)), .val (.int .i64 ((b : Nat) : Int)), .val (.int .i64 ((e : Nat) : Int)), .val (.int .i64 ((0 : Nat) : Int)), .val (.int .i64 ((dp : Nat) : Int))]⟩ :: B, rw⟩, [(0, pP P)]⟩ _
 refine go 17 fun b1 b2 => ?_
 refine wcP rfl rfl rfl rfl Tryz.call65 rfl (bD2 (_ :: _ :: A) _ _ _ l k b e 0 dp [118, 97, 114] (by decide) hok hk) (by simp) (by simp [Sto.bl]) ?_
 rintro t1 s1 (⟨rfl, ha1, hm1, rfl, rfl⟩ | ⟨ha1, rfl, rfl⟩)
 ·refine go 7 ?_
  refine wcP rfl rfl rfl rfl Tryz.call68 rfl (bEb (_ :: _ :: A) _ _ _ l (k + 1) b 0 0 dp hok hm1 (by decide)) (by simp) (by simp [Sto.bl]) ?_
  rintro t3 s3 ⟨x3, k3, u3, e3, rfl, hr3, hk3, he3, rfl⟩
  refine go 9 ?_
  refine wcP rfl rfl rfl rfl Tryz.call87 rfl (fN (_ :: _ :: A) _ _ _ l k3 u3 e3 0 dp [61] (by decide) hok hk3 he3) (by simp) (by simp [Sto.bl]) ?_
  rintro t4 s4 ⟨x4, k4, u4, e4, rfl, hr4, hk4, he4, rfl⟩
  refine go 5 ?_
  refine wcP rfl rfl rfl rfl Tryz.call123 rfl (bD9 (_ :: _ :: A) _ _ _ l k4 u4 e4 dp hok hk4 he4) (by simp) (by simp [Sto.bl]) ?_
  rintro t5 s5 ⟨x5, k5, u5, e5, rfl, hr5, hk5, he5, rfl⟩
  refine go 6 ?_
  refine wcP rfl rfl rfl rfl Tryz.call87 rfl (fN (_ :: _ :: A) _ _ _ l k5 u5 e5 0 dp [59] (by decide) hok hk5 he5) (by simp) (by simp [Sto.bl]) ?_
  rintro t6 s6 ⟨x6, k6, u6, e6, rfl, hr6, hk6, he6, rfl⟩
  refine go 10 ?_
  have hs : kX 0 b (qI l (k + 1)) (.mk 1 x3 x5 .zero [] [] []) k6 u6 e6 := by
   unfold qI oO
   exact hr3.bind (hr4.bind (hr5.bind (hr6.bind (kX.pure _ _ _ _))))
  exact ⟨.inr rfl, _, (RSt A B rw P l (k6) (u6) (e6) (0) (dp)), (eK (Wk.agg (.r (.r (.r (.r (.r (.r (.r (.n (.n (.n (.n .nil)))))))))))) (aR rfl (aO [_] rfl rfl Tryz.isAgg103 Tryz.sizeOf103 (bK rfl rfl)))), aA (.cons _ (.cons _ (.refl _))) (.refl _), ⟨(.mk 1 x3 x5 .zero [] [] []), k6, u6, e6, rfl, hs.eq (fun _ => by unfold fB; rw [if_pos ha1]), hk6, he6, rfl⟩⟩
 ·refine go 7 ?_
  refine wcP rfl rfl rfl rfl Tryz.call65 rfl (bD2 (_ :: _ :: A) _ _ _ l k b e 0 dp [103, 111] (by decide) hok hk) (by simp) (by simp [Sto.bl]) ?_
  rintro t8 s8 (⟨rfl, ha8, hm8, rfl, rfl⟩ | ⟨ha8, rfl, rfl⟩)
  ·refine go 7 ?_
   refine wcP rfl rfl rfl rfl Tryz.call68 rfl (bEb (_ :: _ :: A) _ _ _ l (k + 1) b 0 0 dp hok hm8 (by decide)) (by simp) (by simp [Sto.bl]) ?_
   rintro t10 s10 ⟨x10, k10, u10, e10, rfl, hr10, hk10, he10, rfl⟩
   refine go 9 ?_
   refine wcP rfl rfl rfl rfl Tryz.call124 rfl (bE5 (_ :: _ :: A) _ _ _ l k10 u10 e10 dp hok hk10 he10) (by simp) (by simp [Sto.bl]) ?_
   rintro t11 s11 ⟨x11, k11, u11, e11, rfl, hr11, hk11, he11, rfl⟩
   refine go 6 ?_
   refine wcP rfl rfl rfl rfl Tryz.call87 rfl (fN (_ :: _ :: A) _ _ _ l k11 u11 e11 0 dp [59] (by decide) hok hk11 he11) (by simp) (by simp [Sto.bl]) ?_
   rintro t12 s12 ⟨x12, k12, u12, e12, rfl, hr12, hk12, he12, rfl⟩
   refine go 10 ?_
   have hs : kX 0 b (goP l (k + 1)) (.mk 4 x10 .zero .zero x11 [] []) k12 u12 e12 := by
    unfold goP oO
    exact hr10.bind (hr11.bind (hr12.bind (kX.pure _ _ _ _)))
   exact ⟨.inr rfl, _, (RSt A B rw P l (k12) (u12) (e12) (0) (dp)), (eK (Wk.agg (.r (.r (.r (.r (.r (.n (.r (.n (.r (.n (.n .nil)))))))))))) (aR rfl (aO [_] rfl rfl Tryz.isAgg103 Tryz.sizeOf103 (bK rfl rfl)))), aA (.cons _ (.cons _ (.refl _))) (.refl _), ⟨(.mk 4 x10 .zero .zero x11 [] []), k12, u12, e12, rfl, hs.eq (fun _ => by unfold fB; rw [if_neg (by rw [ha1 rfl]; decide), if_pos ha8]), hk12, he12, rfl⟩⟩
  ·refine go 7 ?_
   refine wcP rfl rfl rfl rfl Tryz.call65 rfl (bD2 (_ :: _ :: A) _ _ _ l k b e 0 dp [108, 111, 99, 107] (by decide) hok hk) (by simp) (by simp [Sto.bl]) ?_
   rintro t14 s14 (⟨rfl, ha14, hm14, rfl, rfl⟩ | ⟨ha14, rfl, rfl⟩)
   ·refine go 7 ?_
    refine wcP rfl rfl rfl rfl Tryz.call125 rfl (bFc (_ :: _ :: A) _ _ _ l (k + 1) b 0 dp hok hm14 (by decide)) (by simp) (by simp [Sto.bl]) ?_
    rintro t16 s16 ⟨x16, k16, u16, e16, rfl, hr16, hk16, he16, rfl⟩
    refine go 8 ?_
    refine wcP rfl rfl rfl rfl Tryz.call87 rfl (fN (_ :: _ :: A) _ _ _ l k16 u16 e16 0 dp [59] (by decide) hok hk16 he16) (by simp) (by simp [Sto.bl]) ?_
    rintro t17 s17 ⟨x17, k17, u17, e17, rfl, hr17, hk17, he17, rfl⟩
    refine go 10 ?_
    have hs : kX 0 b (nH l 5 (k + 1)) (.mk 5 aK .zero x16 [] [] []) k17 u17 e17 := by
     unfold nH oO
     exact hr16.bind (hr17.bind (kX.pure _ _ _ _))
    exact ⟨.inr rfl, _, (RSt A B rw P l (k17) (u17) (e17) (0) (dp)), (eK (Wk.agg (.r (.r (.r (.r (.r (.n (.r (.r (.n (.n (.n .nil)))))))))))) (aR rfl (aO [_] rfl rfl Tryz.isAgg103 Tryz.sizeOf103 (bK rfl rfl)))), aA (.cons _ (.cons _ (.refl _))) (.refl _), ⟨(.mk 5 aK .zero x16 [] [] []), k17, u17, e17, rfl, hs.eq (fun _ => by unfold fB; rw [if_neg (by rw [ha1 rfl]; decide), if_neg (by rw [ha8 rfl]; decide), if_pos ha14]), hk17, he17, rfl⟩⟩
   ·refine go 7 ?_
    refine wcP rfl rfl rfl rfl Tryz.call65 rfl (bD2 (_ :: _ :: A) _ _ _ l k b e 0 dp [117, 110, 108, 111, 99, 107] (by decide) hok hk) (by simp) (by simp [Sto.bl]) ?_
    rintro t19 s19 (⟨rfl, ha19, hm19, rfl, rfl⟩ | ⟨ha19, rfl, rfl⟩)
    ·refine go 7 ?_
     refine wcP rfl rfl rfl rfl Tryz.call125 rfl (bFc (_ :: _ :: A) _ _ _ l (k + 1) b 0 dp hok hm19 (by decide)) (by simp) (by simp [Sto.bl]) ?_
     rintro t21 s21 ⟨x21, k21, u21, e21, rfl, hr21, hk21, he21, rfl⟩
     refine go 8 ?_
     refine wcP rfl rfl rfl rfl Tryz.call87 rfl (fN (_ :: _ :: A) _ _ _ l k21 u21 e21 0 dp [59] (by decide) hok hk21 he21) (by simp) (by simp [Sto.bl]) ?_
     rintro t22 s22 ⟨x22, k22, u22, e22, rfl, hr22, hk22, he22, rfl⟩
     refine go 10 ?_
     have hs : kX 0 b (nH l 6 (k + 1)) (.mk 6 aK .zero x21 [] [] []) k22 u22 e22 := by
      unfold nH oO
      exact hr21.bind (hr22.bind (kX.pure _ _ _ _))
     exact ⟨.inr rfl, _, (RSt A B rw P l (k22) (u22) (e22) (0) (dp)), (eK (Wk.agg (.r (.r (.r (.r (.r (.n (.r (.r (.n (.n (.n .nil)))))))))))) (aR rfl (aO [_] rfl rfl Tryz.isAgg103 Tryz.sizeOf103 (bK rfl rfl)))), aA (.cons _ (.cons _ (.refl _))) (.refl _), ⟨(.mk 6 aK .zero x21 [] [] []), k22, u22, e22, rfl, hs.eq (fun _ => by unfold fB; rw [if_neg (by rw [ha1 rfl]; decide), if_neg (by rw [ha8 rfl]; decide), if_neg (by rw [ha14 rfl]; decide), if_pos ha19]), hk22, he22, rfl⟩⟩
    ·refine go 7 ?_
     refine wcP rfl rfl rfl rfl Tryz.call65 rfl (bD2 (_ :: _ :: A) _ _ _ l k b e 0 dp [105, 102] (by decide) hok hk) (by simp) (by simp [Sto.bl]) ?_
     rintro t24 s24 (⟨rfl, ha24, hm24, rfl, rfl⟩ | ⟨ha24, rfl, rfl⟩)
     ·refine go 7 ?_
      refine wcP rfl rfl rfl rfl Tryz.call123 rfl (bD9 (_ :: _ :: A) _ _ _ l (k + 1) b 0 dp hok hm24 (by decide)) (by simp) (by simp [Sto.bl]) ?_
      rintro t26 s26 ⟨x26, k26, u26, e26, rfl, hr26, hk26, he26, rfl⟩
      refine go 9 ?_
      refine wcP rfl rfl rfl rfl Tryz.call51 rfl (hblk (_ :: _ :: A) _ _ _ k26 u26 e26 hk26 he26) (by simp) (by simp [Sto.bl]) ?_
      rintro t27 s27 ⟨x27, k27, u27, e27, rfl, hr27, hk27, he27, rfl⟩
      refine go 7 ?_
      refine wcP rfl rfl rfl rfl Tryz.call65 rfl (bD2 (_ :: _ :: A) _ _ _ l k27 u27 e27 0 dp [101, 108, 115, 101] (by decide) hok hk27) (by simp) (by simp [Sto.bl]) ?_
      rintro t28 s28 (⟨rfl, ha28, hm28, rfl, rfl⟩ | ⟨ha28, rfl, rfl⟩)
      ·refine go 5 ?_
       refine wcP rfl rfl rfl rfl Tryz.call51 rfl (hblk (_ :: _ :: A) _ _ _ (k27 + 1) u27 0 hm28 (by decide)) (by simp) (by simp [Sto.bl]) ?_
       rintro t30 s30 ⟨x30, k30, u30, e30, rfl, hr30, hk30, he30, rfl⟩
       refine go 12 ?_
       have hs : kX 0 b (ifP l blk (k + 1)) (.mk 7 aK x26 .zero [] x27 x30) k30 u30 e30 := by
        unfold ifP
        exact hr26.bind (hr27.bind (by unfold tA; rw [if_pos ha28]; exact hr30.map (f := fun f => aJ.mk 7 aK x26 .zero [] x27 f)))
       exact ⟨.inr rfl, _, (RSt A B rw P l (k30) (u30) (e30) (0) (dp)), (eK (Wk.agg (.r (.r (.r (.r (.r (.r (.r (.n (.n (.r (.r .nil)))))))))))) (aR rfl (aO [_] rfl rfl Tryz.isAgg103 Tryz.sizeOf103 (bK rfl rfl)))), aA (.cons _ (.cons _ (.refl _))) (.refl _), ⟨(.mk 7 aK x26 .zero [] x27 x30), k30, u30, e30, rfl, hs.eq (fun _ => by unfold fB; rw [if_neg (by rw [ha1 rfl]; decide), if_neg (by rw [ha8 rfl]; decide), if_neg (by rw [ha14 rfl]; decide), if_neg (by rw [ha19 rfl]; decide), if_pos ha24]), hk30, he30, rfl⟩⟩
      ·refine go 13 ?_
       have hs : kX 0 b (ifP l blk (k + 1)) (.mk 7 aK x26 .zero [] x27 []) k27 u27 e27 := by
        unfold ifP
        exact hr26.bind (hr27.bind ((kX.pure _ _ _ _).eq fun h => by unfold tA; rw [if_neg (by rw [ha28 h]; decide)]))
       exact ⟨.inr rfl, _, (RSt A B rw P l (k27) (u27) (e27) (0) (dp)), (eK (Wk.agg (.r (.r (.r (.r (.r (.r (.r (.n (.n (.r (.n .nil)))))))))))) (aR rfl (aO [_] rfl rfl Tryz.isAgg103 Tryz.sizeOf103 (bK rfl rfl)))), aA (.cons _ (.cons _ (.refl _))) (.refl _), ⟨(.mk 7 aK x26 .zero [] x27 []), k27, u27, e27, rfl, hs.eq (fun _ => by unfold fB; rw [if_neg (by rw [ha1 rfl]; decide), if_neg (by rw [ha8 rfl]; decide), if_neg (by rw [ha14 rfl]; decide), if_neg (by rw [ha19 rfl]; decide), if_pos ha24]), hk27, he27, rfl⟩⟩
     ·refine go 7 ?_
      refine wcP rfl rfl rfl rfl Tryz.call65 rfl (bD2 (_ :: _ :: A) _ _ _ l k b e 0 dp [119, 104, 105, 108, 101] (by decide) hok hk) (by simp) (by simp [Sto.bl]) ?_
      rintro t33 s33 (⟨rfl, ha33, hm33, rfl, rfl⟩ | ⟨ha33, rfl, rfl⟩)
      ·refine go 7 ?_
       refine wcP rfl rfl rfl rfl Tryz.call123 rfl (bD9 (_ :: _ :: A) _ _ _ l (k + 1) b 0 dp hok hm33 (by decide)) (by simp) (by simp [Sto.bl]) ?_
       rintro t35 s35 ⟨x35, k35, u35, e35, rfl, hr35, hk35, he35, rfl⟩
       refine go 8 ?_
       refine wcP rfl rfl rfl rfl Tryz.call51 rfl (hblk (_ :: _ :: A) _ _ _ k35 u35 e35 hk35 he35) (by simp) (by simp [Sto.bl]) ?_
       rintro t36 s36 ⟨x36, k36, u36, e36, rfl, hr36, hk36, he36, rfl⟩
       refine go 12 ?_
       have hs : kX 0 b (pJ l blk (k + 1)) (.mk 8 aK x35 .zero [] x36 []) k36 u36 e36 := by
        unfold pJ
        exact hr35.bind (hr36.bind (kX.pure _ _ _ _))
       exact ⟨.inr rfl, _, (RSt A B rw P l (k36) (u36) (e36) (0) (dp)), (eK (Wk.agg (.r (.r (.r (.r (.r (.r (.r (.n (.n (.r (.n .nil)))))))))))) (aR rfl (aO [_] rfl rfl Tryz.isAgg103 Tryz.sizeOf103 (bK rfl rfl)))), aA (.cons _ (.cons _ (.refl _))) (.refl _), ⟨(.mk 8 aK x35 .zero [] x36 []), k36, u36, e36, rfl, hs.eq (fun _ => by unfold fB; rw [if_neg (by rw [ha1 rfl]; decide), if_neg (by rw [ha8 rfl]; decide), if_neg (by rw [ha14 rfl]; decide), if_neg (by rw [ha19 rfl]; decide), if_neg (by rw [ha24 rfl]; decide), if_pos ha33]), hk36, he36, rfl⟩⟩
      ·refine go 7 ?_
       refine wcP rfl rfl rfl rfl Tryz.call65 rfl (bD2 (_ :: _ :: A) _ _ _ l k b e 0 dp [114, 101, 116, 117, 114, 110] (by decide) hok hk) (by simp) (by simp [Sto.bl]) ?_
       rintro t38 s38 (⟨rfl, ha38, hm38, rfl, rfl⟩ | ⟨ha38, rfl, rfl⟩)
       ·refine go 12 ?_
        refine wcP rfl rfl rfl rfl Tryz.call87 rfl (fN (_ :: _ :: A) _ _ _ l (k + 1) b 0 0 dp [59] (by decide) hok hm38 (by decide)) (by simp) (by simp [Sto.bl]) ?_
        rintro t40 s40 ⟨x40, k40, u40, e40, rfl, hr40, hk40, he40, rfl⟩
        refine go 10 ?_
        have hs : kX 0 b (aD8 l (k + 1)) (.mk 9 aK .zero .zero [] [] []) k40 u40 e40 := by
         unfold aD8 oO
         exact hr40.bind (kX.pure _ _ _ _)
        exact ⟨.inr rfl, _, (RSt A B rw P l (k40) (u40) (e40) (0) (dp)), (eK (Wk.agg (.r (.r (.r (.r (.r (.n (.r (.n (.n (.n (.n .nil)))))))))))) (aR rfl (aO [_] rfl rfl Tryz.isAgg103 Tryz.sizeOf103 (bK rfl rfl)))), aA (.cons _ (.cons _ (.refl _))) (.refl _), ⟨(.mk 9 aK .zero .zero [] [] []), k40, u40, e40, rfl, hs.eq (fun _ => by unfold fB; rw [if_neg (by rw [ha1 rfl]; decide), if_neg (by rw [ha8 rfl]; decide), if_neg (by rw [ha14 rfl]; decide), if_neg (by rw [ha19 rfl]; decide), if_neg (by rw [ha24 rfl]; decide), if_neg (by rw [ha33 rfl]; decide), if_pos ha38]), hk40, he40, rfl⟩⟩
       ·refine go 7 ?_
        refine wcP rfl rfl rfl rfl Tryz.call68 rfl (bEb (_ :: _ :: A) _ _ _ l k b e 0 dp hok hk he) (by simp) (by simp [Sto.bl]) ?_
        rintro t42 s42 ⟨x42, k42, u42, e42, rfl, hr42, hk42, he42, rfl⟩
        refine go 10 ?_
        refine wcP rfl rfl rfl rfl Tryz.call63 rfl (bD0 (_ :: _ :: A) _ _ _ l k42 u42 e42 0 dp [40] (by decide) hok hk42) (by simp) (by simp [Sto.bl]) ?_
        rintro t43 s43 (⟨rfl, ha43, rfl, rfl⟩ | ⟨ha43, rfl, rfl⟩)
        ·refine go 5 ?_
         refine wcP rfl rfl rfl rfl Tryz.call124 rfl (bE5 (_ :: _ :: A) _ _ _ l k42 u42 0 dp hok hk42 (by decide)) (by simp) (by simp [Sto.bl]) ?_
         rintro t45 s45 ⟨x45, k45, u45, e45, rfl, hr45, hk45, he45, rfl⟩
         refine go 8 ?_
         refine wcP rfl rfl rfl rfl Tryz.call87 rfl (fN (_ :: _ :: A) _ _ _ l k45 u45 e45 0 dp [59] (by decide) hok hk45 he45) (by simp) (by simp [Sto.bl]) ?_
         rintro t46 s46 ⟨x46, k46, u46, e46, rfl, hr46, hk46, he46, rfl⟩
         refine go 10 ?_
         have hs : kX e b (mG l k) (.mk 3 x42 .zero .zero x45 [] []) k46 u46 e46 := by
          unfold mG
          exact hr42.bind (by rw [bEt ha43]; unfold oO; exact hr45.bind (hr46.bind (kX.pure _ _ _ _)))
         exact ⟨.inr rfl, _, (RSt A B rw P l (k46) (u46) (e46) (0) (dp)), (eK (Wk.agg (.r (.r (.r (.r (.r (.n (.r (.n (.r (.n (.n .nil)))))))))))) (aR rfl (aO [_] rfl rfl Tryz.isAgg103 Tryz.sizeOf103 (bK rfl rfl)))), aA (.cons _ (.cons _ (.refl _))) (.refl _), ⟨(.mk 3 x42 .zero .zero x45 [] []), k46, u46, e46, rfl, hs.eq (fun h => by unfold fB; rw [if_neg (by rw [ha1 h]; decide), if_neg (by rw [ha8 h]; decide), if_neg (by rw [ha14 h]; decide), if_neg (by rw [ha19 h]; decide), if_neg (by rw [ha24 h]; decide), if_neg (by rw [ha33 h]; decide), if_neg (by rw [ha38 h]; decide)]), hk46, he46, rfl⟩⟩
        ·refine go 6 ?_
         refine wcP rfl rfl rfl rfl Tryz.call87 rfl (fN (_ :: _ :: A) _ _ _ l k42 u42 e42 0 dp [61] (by decide) hok hk42 he42) (by simp) (by simp [Sto.bl]) ?_
         rintro t48 s48 ⟨x48, k48, u48, e48, rfl, hr48, hk48, he48, rfl⟩
         refine go 4 ?_
         refine wcP rfl rfl rfl rfl Tryz.call123 rfl (bD9 (_ :: _ :: A) _ _ _ l k48 u48 e48 dp hok hk48 he48) (by simp) (by simp [Sto.bl]) ?_
         rintro t49 s49 ⟨x49, k49, u49, e49, rfl, hr49, hk49, he49, rfl⟩
         refine go 6 ?_
         refine wcP rfl rfl rfl rfl Tryz.call87 rfl (fN (_ :: _ :: A) _ _ _ l k49 u49 e49 0 dp [59] (by decide) hok hk49 he49) (by simp) (by simp [Sto.bl]) ?_
         rintro t50 s50 ⟨x50, k50, u50, e50, rfl, hr50, hk50, he50, rfl⟩
         refine go 10 ?_
         have hs : kX e b (mG l k) (.mk 2 x42 x49 .zero [] [] []) k50 u50 e50 := by
          unfold mG
          exact hr42.bind (kX.eq (r := (fD l [61] _).bind fun _ k => (lJ l k).bind fun e k => oO l (.mk 2 x42 e .zero [] [] []) k) (by unfold oO; exact hr48.bind (hr49.bind (hr50.bind (kX.pure _ _ _ _)))) fun h => (bEy (ha43 h)).symm)
         exact ⟨.inr rfl, _, (RSt A B rw P l (k50) (u50) (e50) (0) (dp)), (eK (Wk.agg (.r (.r (.r (.r (.r (.r (.r (.n (.n (.n (.n .nil)))))))))))) (aR rfl (aO [_] rfl rfl Tryz.isAgg103 Tryz.sizeOf103 (bK rfl rfl)))), aA (.cons _ (.cons _ (.refl _))) (.refl _), ⟨(.mk 2 x42 x49 .zero [] [] []), k50, u50, e50, rfl, hs.eq (fun h => by unfold fB; rw [if_neg (by rw [ha1 h]; decide), if_neg (by rw [ha8 h]; decide), if_neg (by rw [ha14 h]; decide), if_neg (by rw [ha19 h]; decide), if_neg (by rw [ha24 h]; decide), if_neg (by rw [ha33 h]; decide), if_neg (by rw [ha38 h]; decide)]), hk50, he50, rfl⟩⟩
end
end Go.Proofs.YteiefdnbdjnoiaaGreatDoor
