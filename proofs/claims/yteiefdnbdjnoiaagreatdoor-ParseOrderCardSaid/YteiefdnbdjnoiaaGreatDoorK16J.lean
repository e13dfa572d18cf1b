import Derived.Test.YteiefdnbdjnoiaaGreatDoorK5J
import Derived.Test.YteiefdnbdjnoiaaGreatDoorK4J
import Derived.Test.YteiefdnbdjnoiaaGreatDoorK15J
import Derived.Test.YteiefdnbdjnoiaaGreatDoorProg
import Derived.Test.YteiefdnbdjnoiaaGreatDoorK9J
import Derived.Test.YteiefdnbdjnoiaaGreatDoorK14J
import Derived.Test.YteiefdnbdjnoiaaGreatDoorK8J
set_option linter.all false
set_option synthInstance.maxHeartbeats 1000000
set_option synthInstance.maxSize 1000000
set_option maxHeartbeats 1600000
set_option maxRecDepth 100000
namespace Go.Proofs.YteiefdnbdjnoiaaGreatDoor
open List (length_append length_cons length_nil mem_append mem_cons not_mem_nil append_assoc getElem_mem take_of_length_le)
section
open Go.RowKit
theorem aA3 (op num : Int) (name : ByteArray) (args : List aH) (hl : args.length ≤ 1000000000) (ih : ∀ k (h : k < args.length) (s : Sto), aL Tryz.prog 52 [.agg (cU args[k]), .agg (cU args[k])] [] s fun r s' => r = .c (.val (.bool true)) ∧ s' = s) (s : Sto) :
  aL Tryz.prog 52 [.agg [.val (.int .i64 op), .val (.int .i64 num), .val (.string name), .sl args.length (args.flatMap fO)], .agg [.val (.int .i64 op), .val (.int .i64 num), .val (.string name), .sl args.length (args.flatMap fO)]] [] s fun r s' => r = .c (.val (.bool true)) ∧ s' = s := by
 obtain ⟨bx, rw⟩ := s
 refine aD Tryz.func52 rfl (Nat.le_of_ble_eq_true rfl) ?_
 show AWp Tryz.prog _ ⟨53, _, ⟨bx, rw⟩, [(0, .agg [.val (.int .i64 op), .val (.int .i64 num), .val (.string name), .sl args.length (args.flatMap fO)]), (1, .agg [.val (.int .i64 op), .val (.int .i64 num), .val (.string name), .sl args.length (args.flatMap fO)])]⟩ _
 refine go 14 fun b1 b2 => ?_
 refine wcp false rfl (by simp [bC]) ?_
 refine go 5 ?_
 refine wcp false rfl (by simp [bC]) ?_
 refine go 6 ?_
 refine wyy rfl rfl rfl (aZ false rfl rfl rfl (by simp [oM])) ?_
 refine go 8 ?_
 refine wcp false rfl (by simp [bC]) ?_
 refine go 13 ?_
 refine tW (args.length) 5 [(2, _), (3, _)] (sA rfl) fun k hk => ?_
 refine go 7 ?_
 refine wyy rfl rfl rfl (bO _ rfl rfl rfl rfl) ?_
 refine go 2 ?_
 refine gY rfl (fun hc2 => ?_) (fun hc2 => ?_)
 ·have hk2 : k < args.length := by simpa using hc2
  refine go 5 ?_
  refine aB [b2, b1] (by kernel_rfl) ?_
  refine tks [(0, true), (1, true), (2, true)] 9 (by kernel_rfl) ?_
  refine go 4 ?_
  refine tq 3 (by kernel_rfl) rfl rfl rfl rfl (bH fO cU args iU fP k rfl rfl rfl rfl hk2 (by decide) Tryz.runUnderlying96 Tryz.sizeOf98) ?_
  refine tks [(4, true), (5, true), (6, true), (7, true)] 4 (by kernel_rfl) ?_
  refine go 5 ?_
  refine tq 8 (by kernel_rfl) rfl rfl rfl rfl (bH fO cU args iU fP k rfl rfl rfl rfl hk2 (by decide) Tryz.runUnderlying96 Tryz.sizeOf98) ?_
  refine tks [(9, true)] 2 (by kernel_rfl) ?_
  refine go 2 ?_
  refine one 10 (by kernel_rfl) rfl rfl (bD [] rfl rfl (by decide) Tryz.call52 rfl (ih k hk2 ⟨_, _⟩) bDl bDl (fun _ => bDl) ?_)
  rintro r3 s3 ⟨rfl, rfl⟩
  refine tks [(11, true)] 0 (by kernel_rfl) ?_
  refine go 2 ?_
  refine aE (by kernel_rfl) ?_
  refine go 7 ?_
  refine wyy rfl rfl rfl (bB rfl rfl rfl (by omega) (by omega)) ?_
  refine go 2 ?_
  exact ⟨by omega, (sA rfl)⟩
 ·refine go 11 ?_
  exact cB (s' := ⟨bx, rw⟩) (.inr rfl) rfl (aF rfl) (aA (.cons _ (.cons _ (.refl _))) (.refl _)) ⟨rfl, rfl⟩
mutual
theorem mM : ∀ (x : aH), x.nodes ≤ 1000000000 → ∀ (s : Sto), aL Tryz.prog 52 [.agg (cU x), .agg (cU x)] [] s fun r s' => r = .c (.val (.bool true)) ∧ s' = s
 | .mk op num name args, hn, s => aA3 op num name args (by have := tN args; simp only [aH.nodes] at hn; omega) (fun k h s => tE args (by simp only [aH.nodes] at hn; omega) k h s) s
theorem tE : ∀ (l : List aH), cZ l ≤ 1000000000 → ∀ (k : Nat) (h : k < l.length) (s : Sto), aL Tryz.prog 52 [.agg (cU l[k]), .agg (cU l[k])] [] s fun r s' => r = .c (.val (.bool true)) ∧ s' = s
 | [], _, _, h, _ => absurd h (by simp)
 | e :: es, hn, 0, _, s => mM e (by simp only [cZ] at hn; omega) s
 | e :: es, hn, k + 1, h, s => tE es (by simp only [cZ] at hn; omega) k (by simpa using h) s
end
theorem aE8 (name : ByteArray) (s : Sto) : aL Tryz.prog 53 [.agg [.val (.string name), .sl 0 []], .agg [.val (.string name), .sl 0 []]] [] s fun r s' => r = .c (.val (.bool true)) ∧ s' = s := by
 obtain ⟨bx, rw⟩ := s
 refine aD Tryz.func53 rfl (Nat.le_of_ble_eq_true rfl) ?_
 show AWp Tryz.prog _ ⟨40, _, ⟨bx, rw⟩, [(0, .agg [.val (.string name), .sl 0 []]), (1, .agg [.val (.string name), .sl 0 []])]⟩ _
 refine go 14 fun b1 b2 => ?_
 refine wyy rfl rfl rfl (aZ false rfl rfl rfl (by simp [oM])) ?_
 refine go 7 ?_
 refine wcp false rfl (by simp [bC]) ?_
 refine go 7 ?_
 refine aB [b2, b1] (by kernel_rfl) ?_
 refine tks [(0, true), (1, true), (2, true)] 19 (by kernel_rfl) ?_
 refine go 4 ?_
 refine tq 3 (by kernel_rfl) rfl rfl rfl rfl (bO true rfl rfl rfl (by simp [bC])) ?_
 refine tks [(4, true), (5, true), (6, true), (7, true), (8, true), (9, true), (10, true), (11, true), (12, true), (13, true), (14, true), (15, true), (16, true), (17, true), (18, true), (19, true), (20, true), (21, true)] 0 (by kernel_rfl) ?_
 refine go 19 ?_
 refine aE (by kernel_rfl) ?_
 refine go 2 ?_
 exact cB (s' := ⟨bx, rw⟩) (.inr rfl) rfl (aF rfl) (aA (.cons _ (.cons _ (.refl _))) (.refl _)) ⟨rfl, rfl⟩
theorem aFy (name : ByteArray) (x : aH) (hx : x.nodes ≤ 1000000000) (s : Sto) : aL Tryz.prog 53 [.agg [.val (.string name), .sl [x].length ([x].flatMap fO)], .agg [.val (.string name), .sl [x].length ([x].flatMap fO)]] [] s fun r s' => r = .c (.val (.bool true)) ∧ s' = s := by
 obtain ⟨bx, rw⟩ := s
 refine aD Tryz.func53 rfl (Nat.le_of_ble_eq_true rfl) ?_
 show AWp Tryz.prog _ ⟨40, _, ⟨bx, rw⟩, [(0, .agg [.val (.string name), .sl [x].length ([x].flatMap fO)]), (1, .agg [.val (.string name), .sl [x].length ([x].flatMap fO)])]⟩ _
 refine go 14 fun b1 b2 => ?_
 refine wyy rfl rfl rfl (aZ false rfl rfl rfl (by simp [oM])) ?_
 refine go 7 ?_
 refine wcp false rfl (by simp [bC]) ?_
 refine go 7 ?_
 refine aB [b2, b1] (by kernel_rfl) ?_
 refine tks [(0, true), (1, true), (2, true)] 19 (by kernel_rfl) ?_
 refine go 4 ?_
 refine tq 3 (by kernel_rfl) rfl rfl rfl rfl (bO false rfl rfl rfl rfl) ?_
 refine tks [(4, true), (5, true), (6, true), (7, true)] 14 (by kernel_rfl) ?_
 refine go 5 ?_
 refine tq 8 (by kernel_rfl) rfl rfl rfl rfl (bO true rfl rfl rfl (by simp [bC])) ?_
 refine tks [(9, true), (10, true), (11, true)] 10 (by kernel_rfl) ?_
 refine go 4 ?_
 refine tq 12 (by kernel_rfl) rfl rfl rfl rfl (bH fO cU [x] iU fP 0 rfl rfl rfl rfl (by simp) (by decide) Tryz.runUnderlying96 Tryz.sizeOf98) ?_
 refine tks [(13, true), (14, true), (15, true)] 6 (by kernel_rfl) ?_
 refine go 4 ?_
 refine tq 16 (by kernel_rfl) rfl rfl rfl rfl (bH fO cU [x] iU fP 0 rfl rfl rfl rfl (by simp) (by decide) Tryz.runUnderlying96 Tryz.sizeOf98) ?_
 refine tks [(17, true)] 4 (by kernel_rfl) ?_
 refine go 2 ?_
 refine one 18 (by kernel_rfl) rfl rfl (bD [] rfl rfl (by decide) Tryz.call52 rfl (mM x hx ⟨_, _⟩) bDl bDl (fun _ => bDl) ?_)
 rintro r2 s2 ⟨rfl, rfl⟩
 refine tks [(19, true), (20, true), (21, true)] 0 (by kernel_rfl) ?_
 refine go 4 ?_
 refine aE (by kernel_rfl) ?_
 refine go 2 ?_
 exact cB (s' := ⟨bx, rw⟩) (.inr rfl) rfl (aF rfl) (aA (.cons _ (.cons _ (.refl _))) (.refl _)) ⟨rfl, rfl⟩
theorem wT (x : cY) (hx : x.small 1000000000) (s : Sto) : aL Tryz.prog 53 [.agg (encR x), .agg (encR x)] [] s fun r s' => r = .c (.val (.bool true)) ∧ s' = s := by
 obtain ⟨name, index⟩ := x
 obtain ⟨h1, h2⟩ := hx
 match index, h1, h2 with
 | [], _, _ => exact aE8 name s
 | [x], _, h2 => exact aFy name x (h2 x (by simp)) s
 | _ :: _ :: _, h1, _ => simp at h1
theorem nN (l : List aJ) (hl : l.length ≤ 1000000000) (hs : ∀ k (h : k < l.length), l[k].expr.nodes ≤ 1000000000 ∧ l[k].ref.small 1000000000 ∧ l[k].args.length ≤ 1000000000 ∧ (∀ x, x ∈ l[k].args → x.small 1000000000) ∧ True)
  (ih1 : ∀ k (h : k < l.length) (s : Sto), aL Tryz.prog 25 [.c (.sl l[k].thn.length (l[k].thn.flatMap encS)), .c (.sl l[k].thn.length (l[k].thn.flatMap encS))] [] s fun r s' => r = .c (.val (.bool true)) ∧ s' = s) (ih2 : ∀ k (h : k < l.length) (s : Sto), aL Tryz.prog 25 [.c (.sl l[k].els.length (l[k].els.flatMap encS)), .c (.sl l[k].els.length (l[k].els.flatMap encS))] [] s fun r s' => r = .c (.val (.bool true)) ∧ s' = s) (s : Sto) : aL Tryz.prog 25 [.c (.sl l.length (l.flatMap encS)), .c (.sl l.length (l.flatMap encS))] [] s fun r s' => r = .c (.val (.bool true)) ∧ s' = s := by
 obtain ⟨bx, rw⟩ := s
 refine aD Tryz.func25 rfl (Nat.le_of_ble_eq_true rfl) ?_
 show AWp Tryz.prog _ ⟨133, _, ⟨bx, rw⟩, [(0, .c (.sl l.length (l.flatMap encS))), (1, .c (.sl l.length (l.flatMap encS)))]⟩ _
 refine go 12 ?_
 refine wcp false rfl (by simp [bC]) ?_
 refine go 12 ?_
 refine tW (l.length) 5 [(0, _), (1, _)] (sA rfl) fun k hk => ?_
 refine go 6 ?_
 refine wyy rfl rfl rfl (bO _ rfl rfl rfl rfl) ?_
 refine go 2 ?_
 refine gY rfl (fun hc2 => ?_) (fun hc2 => ?_)
 ·have hk2 : k < l.length := by simpa using hc2
  have hal : l[k].args.length ≤ 1000000000 := (hs k hk2).2.2.1
  refine go 5 ?_
  refine aB [] (by kernel_rfl) ?_
  refine tks [(0, true), (1, true)] 10 (by kernel_rfl) ?_
  refine go 3 ?_
  refine tq 2 (by kernel_rfl) rfl rfl rfl rfl (bH encS dG l mE cJ k rfl rfl rfl rfl hk2 (by decide) Tryz.runUnderlying47 Tryz.sizeOf103) ?_
  refine tks [(3, true), (4, true), (5, true)] 6 (by kernel_rfl) ?_
  refine go 4 ?_
  refine tq 6 (by kernel_rfl) rfl rfl rfl rfl (bH encS dG l mE cJ k rfl rfl rfl rfl hk2 (by decide) Tryz.runUnderlying47 Tryz.sizeOf103) ?_
  refine tks [(7, true)] 4 (by kernel_rfl) ?_
  refine go 2 ?_
  refine aI1 8 9 (by kernel_rfl) (by kernel_rfl) (by kernel_rfl) rfl rfl rfl rfl rfl rfl rfl rfl (by decide) rfl rfl (by decide) (by decide) (by decide) Tryz.zeroValue103 rfl Tryz.zeroValue103 rfl fun b1 b2 => ?_
  refine tks [(10, false), (11, false)] 0 (by kernel_rfl) ?_
  refine go 3 ?_
  refine aE (by kernel_rfl) ?_
  refine go 8 ?_
  refine wcp false rfl (by simp [bC]) ?_
  refine go 5 ?_
  refine wyy rfl rfl rfl (aZ false rfl rfl rfl (by simp [oM])) ?_
  refine go 6 ?_
  refine wo rfl (bD [] rfl rfl (by decide) Tryz.call52 rfl (mM l[k].expr (hs k hk2).1 ⟨_, _⟩) bDl bDl (fun _ => bDl) ?_)
  rintro r3 s3 ⟨rfl, rfl⟩
  refine go 7 ?_
  refine wo rfl (bD [] rfl rfl (by decide) Tryz.call53 rfl (wT l[k].ref (hs k hk2).2.1 ⟨_, _⟩) bDl bDl (fun _ => bDl) ?_)
  rintro r4 s4 ⟨rfl, rfl⟩
  refine go 9 ?_
  refine wcp false rfl (by simp [bC]) ?_
  refine go 6 ?_
  refine wo rfl (bD [] rfl rfl (by decide) Tryz.call25 rfl (ih1 k hk2 ⟨_, _⟩) bDl bDl (fun _ => bDl) ?_)
  rintro r5 s5 ⟨rfl, rfl⟩
  refine go 7 ?_
  refine wo rfl (bD [] rfl rfl (by decide) Tryz.call25 rfl (ih2 k hk2 ⟨_, _⟩) bDl bDl (fun _ => bDl) ?_)
  rintro r6 s6 ⟨rfl, rfl⟩
  refine go 13 ?_
  refine tW (l[k].args.length) 8 [(0, _), (1, _), (5, _), (6, _), (7, _)] (sA rfl) fun j hj => ?_
  refine go 7 ?_
  refine wyy rfl rfl rfl (bO _ rfl rfl rfl rfl) ?_
  refine go 2 ?_
  refine gY rfl (fun hc8 => ?_) (fun hc8 => ?_)
  ·have hj2 : j < l[k].args.length := by simpa using hc8
   refine go 5 ?_
   refine aB [b2, b1] (by kernel_rfl) ?_
   refine tks [(0, true), (1, true), (2, true)] 42 (by kernel_rfl) ?_
   refine go 4 ?_
   refine tq 3 (by kernel_rfl) rfl rfl rfl rfl (bH eJ eJ l[k].args iD (fun _ => rfl) j rfl rfl rfl rfl hj2 (by decide) Tryz.runUnderlying101 Tryz.sizeOf107) ?_
   refine tks [(4, true), (5, true), (6, true), (7, true), (8, true)] 36 (by kernel_rfl) ?_
   refine go 6 ?_
   refine tq 9 (by kernel_rfl) rfl rfl rfl rfl (bH eJ eJ l[k].args iD (fun _ => rfl) j rfl rfl rfl rfl hj2 (by decide) Tryz.runUnderlying101 Tryz.sizeOf107) ?_
   refine tks [(10, true), (11, true)] 33 (by kernel_rfl) ?_
   refine go 3 ?_
   refine tq 12 (by kernel_rfl) rfl rfl rfl rfl (aJ8 false rfl rfl rfl Tryz.runUnderlying4 (by simp [aEb])) ?_
   refine tks [(13, true), (14, true), (15, true), (16, true)] 28 (by kernel_rfl) ?_
   refine go 5 ?_
   refine tq 17 (by kernel_rfl) rfl rfl rfl rfl (bH eJ eJ l[k].args iD (fun _ => rfl) j rfl rfl rfl rfl hj2 (by decide) Tryz.runUnderlying101 Tryz.sizeOf107) ?_
   refine tks [(18, true), (19, true), (20, true), (21, true), (22, true)] 22 (by kernel_rfl) ?_
   refine go 6 ?_
   refine tq 23 (by kernel_rfl) rfl rfl rfl rfl (bH eJ eJ l[k].args iD (fun _ => rfl) j rfl rfl rfl rfl hj2 (by decide) Tryz.runUnderlying101 Tryz.sizeOf107) ?_
   refine tks [(24, true), (25, true)] 19 (by kernel_rfl) ?_
   refine go 3 ?_
   refine one 26 (by kernel_rfl) rfl rfl (bD [] rfl rfl (by decide) Tryz.call53 rfl (wT l[k].args[j].ref ((hs k hk2).2.2.2.1 _ (getElem_mem hj2)).1 ⟨_, _⟩) bDl bDl (fun _ => bDl) ?_)
   rintro r9 s9 ⟨rfl, rfl⟩
   refine tks [(27, true), (28, true), (29, true), (30, true), (31, true), (32, true)] 12 (by kernel_rfl) ?_
   refine go 7 ?_
   refine tq 33 (by kernel_rfl) rfl rfl rfl rfl (bH eJ eJ l[k].args iD (fun _ => rfl) j rfl rfl rfl rfl hj2 (by decide) Tryz.runUnderlying101 Tryz.sizeOf107) ?_
   refine tks [(34, true), (35, true), (36, true), (37, true), (38, true)] 6 (by kernel_rfl) ?_
   refine go 6 ?_
   refine tq 39 (by kernel_rfl) rfl rfl rfl rfl (bH eJ eJ l[k].args iD (fun _ => rfl) j rfl rfl rfl rfl hj2 (by decide) Tryz.runUnderlying101 Tryz.sizeOf107) ?_
   refine tks [(40, true), (41, true)] 3 (by kernel_rfl) ?_
   refine go 3 ?_
   refine one 42 (by kernel_rfl) rfl rfl (bD [] rfl rfl (by decide) Tryz.call52 rfl (mM l[k].args[j].expr ((hs k hk2).2.2.2.1 _ (getElem_mem hj2)).2 ⟨_, _⟩) bDl bDl (fun _ => bDl) ?_)
   rintro r10 s10 ⟨rfl, rfl⟩
   refine tks [(43, true), (44, true)] 0 (by kernel_rfl) ?_
   refine go 3 ?_
   refine aE (by kernel_rfl) ?_
   refine go 7 ?_
   refine wyy rfl rfl rfl (bB rfl rfl rfl (by omega) (by omega)) ?_
   refine go 2 ?_
   exact ⟨by omega, (sA rfl)⟩
  ·refine go 8 ?_
   refine wyy rfl rfl rfl (bB rfl rfl rfl (by omega) (by omega)) ?_
   refine go 2 ?_
   exact ⟨by omega, cA (.cons _ (.cons _ (.refl _))) (.refl _) (fun b hb => List.mem_cons_of_mem _ (List.mem_cons_of_mem _ (hb))) (sA rfl)⟩
 ·refine go 11 ?_
  exact cB (s' := ⟨bx, rw⟩) (.inr rfl) rfl (aF rfl) (aA (.refl _) (.refl _)) ⟨rfl, rfl⟩
theorem rJ {x : aJ} (h : x.small 1000000000) : x.expr.nodes ≤ 1000000000 ∧ x.ref.small 1000000000 ∧ x.args.length ≤ 1000000000 ∧ (∀ a, a ∈ x.args → a.small 1000000000) ∧ True := by
 cases x; rw [aJ.small] at h; exact ⟨h.1, h.2.1, h.2.2.1, h.2.2.2.1, trivial⟩
mutual
theorem aC3 : ∀ (x : aJ), x.small 1000000000 → (∀ (s : Sto), aL Tryz.prog 25 [.c (.sl x.thn.length (x.thn.flatMap encS)), .c (.sl x.thn.length (x.thn.flatMap encS))] [] s fun r s' => r = .c (.val (.bool true)) ∧ s' = s) ∧ ∀ (s : Sto), aL Tryz.prog 25 [.c (.sl x.els.length (x.els.flatMap encS)), .c (.sl x.els.length (x.els.flatMap encS))] [] s fun r s' => r = .c (.val (.bool true)) ∧ s' = s
 | .mk k n e r a t f, h => by
  rw [aJ.small] at h
  exact ⟨fun s => nN t h.2.2.2.2.1 (fun k hk => rJ (nR.1 h.2.2.2.2.2.1 _ (getElem_mem hk))) (fun k hk s => (kJ t h.2.2.2.2.2.1 k hk).1 s) (fun k hk s => (kJ t h.2.2.2.2.2.1 k hk).2 s) s,
   fun s => nN f h.2.2.2.2.2.2.1 (fun k hk => rJ (nR.1 h.2.2.2.2.2.2.2 _ (getElem_mem hk))) (fun k hk s => (kJ f h.2.2.2.2.2.2.2 k hk).1 s) (fun k hk s => (kJ f h.2.2.2.2.2.2.2 k hk).2 s) s⟩
theorem kJ : ∀ (l : List aJ), smalls 1000000000 l → ∀ k (h : k < l.length), (∀ (s : Sto), aL Tryz.prog 25 [.c (.sl l[k].thn.length (l[k].thn.flatMap encS)), .c (.sl l[k].thn.length (l[k].thn.flatMap encS))] [] s fun r s' => r = .c (.val (.bool true)) ∧ s' = s) ∧ ∀ (s : Sto), aL Tryz.prog 25 [.c (.sl l[k].els.length (l[k].els.flatMap encS)), .c (.sl l[k].els.length (l[k].els.flatMap encS))] [] s fun r s' => r = .c (.val (.bool true)) ∧ s' = s
 | [], _, _, h => absurd h (by simp)
 | x :: l, hs, 0, _ => by rw [smalls] at hs; exact aC3 x hs.1
 | x :: l, hs, k + 1, h => by rw [smalls] at hs; exact kJ l hs.2 k (by simpa using h)
end
theorem aAy (l : List aJ) (hl : l.length ≤ 1000000000) (h : smalls 1000000000 l) (s : Sto) : aL Tryz.prog 25 [.c (.sl l.length (l.flatMap encS)), .c (.sl l.length (l.flatMap encS))] [] s fun r s' => r = .c (.val (.bool true)) ∧ s' = s :=
 nN l hl (fun k hk => rJ (nR.1 h _ (getElem_mem hk))) (fun k hk s => (kJ l h k hk).1 s) (fun k hk s => (kJ l h k hk).2 s) s
theorem aYs (d : Nat) (s : ByteArray) (i : Int) (w : World) : (Op.equalIn (d + 1 + 1) 76 (.agg #[.string s, .int .i64 i]) (.agg #[.string s, .int .i64 i])).run Tryz.prog w = .ok true w := by
 simp [Op.equalIn, go_sem, aG6]
theorem eqG (s : ByteArray) (i : Int) (w : World) : (Op.equal 76 (.agg #[.string s, .int .i64 i]) (.agg #[.string s, .int .i64 i])).run Tryz.prog w = .ok true w := aYs _ s i w
theorem aX7 (d : Nat) (s : ByteArray) (b : Bool) (i : Int) (w : World) : (Op.equalIn (d + 1 + 1) 74 (.agg #[.string s, .bool b, .int .i64 i]) (.agg #[.string s, .bool b, .int .i64 i])).run Tryz.prog w = .ok true w := by
 simp [Op.equalIn, go_sem, aG6]
theorem eqM (s : ByteArray) (b : Bool) (i : Int) (w : World) : (Op.equal 74 (.agg #[.string s, .bool b, .int .i64 i]) (.agg #[.string s, .bool b, .int .i64 i])).run Tryz.prog w = .ok true w := aX7 _ s b i w
theorem aYx (d : Nat) (s : ByteArray) (b : Bool) (w : World) : (Op.equalIn (d + 1 + 1) 78 (.agg #[.string s, .bool b]) (.agg #[.string s, .bool b])).run Tryz.prog w = .ok true w := by
 simp [Op.equalIn, go_sem, aG6]
theorem eqP (s : ByteArray) (b : Bool) (w : World) : (Op.equal 78 (.agg #[.string s, .bool b]) (.agg #[.string s, .bool b])).run Tryz.prog w = .ok true w := aYx _ s b w
theorem aMe (p : cK) (hp : p.small 1000000000) (s : Sto) : aL Tryz.prog 20 [.agg (jV p), .agg (jV p)] [] s fun r s' => r = .c (.val (.bool true)) ∧ s' = s := by
 obtain ⟨bx, rw⟩ := s
 have hgl := hp.1
 have hml := hp.2.1
 have hfl := hp.2.2.1
 refine aD Tryz.func20 rfl (Nat.le_of_ble_eq_true rfl) ?_
 show AWp Tryz.prog _ ⟨129, _, ⟨bx, rw⟩, [(0, .agg (jV p)), (1, .agg (jV p))]⟩ _
 refine go 16 fun b1 b2 => ?_
 refine wcp false rfl (by simp [bC]) ?_
 refine go 7 ?_
 refine wcp false rfl (by simp [bC]) ?_
 refine go 8 ?_
 refine wcp false rfl (by simp [bC]) ?_
 refine go 13 ?_
 refine tW (p.globals.length) 5 [(2, _), (3, _)] (sA rfl) fun k hk => ?_
 refine go 7 ?_
 refine wyy rfl rfl rfl (bO _ rfl rfl rfl rfl) ?_
 refine go 2 ?_
 refine gY rfl (fun hc2 => ?_) (fun hc2 => ?_)
 ·have hk2 : k < p.globals.length := by simpa using hc2
  refine go 5 ?_
  refine aB [b2, b1] (by kernel_rfl) ?_
  refine tks [(0, true), (1, true), (2, true)] 8 (by kernel_rfl) ?_
  refine go 4 ?_
  refine tq 3 (by kernel_rfl) rfl rfl rfl rfl (bH dB dB p.globals nS (fun _ => rfl) k rfl rfl rfl rfl hk2 (by decide) Tryz.runUnderlying31 Tryz.sizeOf76) ?_
  refine tks [(4, true), (5, true), (6, true), (7, true)] 3 (by kernel_rfl) ?_
  refine go 5 ?_
  refine tq 8 (by kernel_rfl) rfl rfl rfl rfl (bH dB dB p.globals nS (fun _ => rfl) k rfl rfl rfl rfl hk2 (by decide) Tryz.runUnderlying31 Tryz.sizeOf76) ?_
  refine tks [(9, true)] 1 (by kernel_rfl) ?_
  refine go 2 ?_
  refine tq 10 (by kernel_rfl) rfl rfl rfl rfl (yI [.string p.globals[k].name, .int .i64 p.globals[k].init] false rfl rfl rfl Tryz.eqGuardType76 (fun w => eqG _ _ w) rfl) ?_
  refine aE (by kernel_rfl) ?_
  refine go 7 ?_
  refine wyy rfl rfl rfl (bB rfl rfl rfl (by omega) (by omega)) ?_
  refine go 2 ?_
  exact ⟨by omega, (sA rfl)⟩
 ·refine go 12 ?_
  refine tW (p.mutexes.length) 6 [(2, _), (3, _)] (sA rfl) fun k hk => ?_
  refine go 7 ?_
  refine wyy rfl rfl rfl (bO _ rfl rfl rfl rfl) ?_
  refine go 2 ?_
  refine gY rfl (fun hc4 => ?_) (fun hc4 => ?_)
  ·have hk2 : k < p.mutexes.length := by simpa using hc4
   refine go 5 ?_
   refine aB [b2, b1] (by kernel_rfl) ?_
   refine tks [(0, true), (1, true), (2, true)] 8 (by kernel_rfl) ?_
   refine go 4 ?_
   refine tq 3 (by kernel_rfl) rfl rfl rfl rfl (bH bT bT p.mutexes mZ (fun _ => rfl) k rfl rfl rfl rfl hk2 (by decide) Tryz.runUnderlying32 Tryz.sizeOf74) ?_
   refine tks [(4, true), (5, true), (6, true), (7, true)] 3 (by kernel_rfl) ?_
   refine go 5 ?_
   refine tq 8 (by kernel_rfl) rfl rfl rfl rfl (bH bT bT p.mutexes mZ (fun _ => rfl) k rfl rfl rfl rfl hk2 (by decide) Tryz.runUnderlying32 Tryz.sizeOf74) ?_
   refine tks [(9, true)] 1 (by kernel_rfl) ?_
   refine go 2 ?_
   refine tq 10 (by kernel_rfl) rfl rfl rfl rfl (yI [.string p.mutexes[k].name, .bool p.mutexes[k].reentrant, .int .i64 p.mutexes[k].size] false rfl rfl rfl Tryz.eqGuardType74 (fun w => eqM _ _ _ w) rfl) ?_
   refine aE (by kernel_rfl) ?_
   refine go 7 ?_
   refine wyy rfl rfl rfl (bB rfl rfl rfl (by omega) (by omega)) ?_
   refine go 2 ?_
   exact ⟨by omega, (sA rfl)⟩
  ·refine go 12 ?_
   refine tW (p.funcs.length) 7 [(2, _), (3, _)] (sA rfl) fun k hk => ?_
   refine go 7 ?_
   refine wyy rfl rfl rfl (bO _ rfl rfl rfl rfl) ?_
   refine go 2 ?_
   refine gY rfl (fun hc6 => ?_) (fun hc6 => ?_)
   ·have hk2 : k < p.funcs.length := by simpa using hc6
    obtain ⟨hpl, hbl, hbs⟩ := hp.2.2.2 _ (getElem_mem hk2)
    refine go 5 ?_
    refine aB [b2, b1] (by kernel_rfl) ?_
    refine tks [(0, true), (1, true), (2, true)] 11 (by kernel_rfl) ?_
    refine go 4 ?_
    refine tq 3 (by kernel_rfl) rfl rfl rfl rfl (bH fV fV p.funcs vC (fun _ => rfl) k rfl rfl rfl rfl hk2 (by decide) Tryz.runUnderlying33 Tryz.sizeOf57) ?_
    refine tks [(4, true), (5, true), (6, true), (7, true)] 6 (by kernel_rfl) ?_
    refine go 5 ?_
    refine tq 8 (by kernel_rfl) rfl rfl rfl rfl (bH fV fV p.funcs vC (fun _ => rfl) k rfl rfl rfl rfl hk2 (by decide) Tryz.runUnderlying33 Tryz.sizeOf57) ?_
    refine tks [(9, true)] 4 (by kernel_rfl) ?_
    refine go 2 ?_
    refine aI1 10 11 (by kernel_rfl) (by kernel_rfl) (by kernel_rfl) rfl rfl rfl rfl rfl rfl rfl rfl (by decide) rfl rfl (by decide) (by decide) (by decide) Tryz.zeroValue57 rfl Tryz.zeroValue57 rfl fun b3 b4 => ?_
    refine tks [(12, false), (13, false)] 0 (by kernel_rfl) ?_
    refine go 3 ?_
    refine aE (by kernel_rfl) ?_
    refine go 8 ?_
    refine wyy rfl rfl rfl (aZ false rfl rfl rfl (by simp [oM])) ?_
    refine go 7 ?_
    refine wcp false rfl (by simp [bC]) ?_
    refine go 6 ?_
    refine wo rfl (bD [] rfl rfl (by decide) Tryz.call25 rfl (aAy p.funcs[k].body hbl hbs ⟨_, _⟩) bDl bDl (fun _ => bDl) ?_)
    rintro r7 s7 ⟨rfl, rfl⟩
    refine go 13 ?_
    refine tW (p.funcs[k].params.length) 10 [(2, _), (3, _), (7, _), (8, _), (9, _)] (sA rfl) fun j hj => ?_
    refine go 7 ?_
    refine wyy rfl rfl rfl (bO _ rfl rfl rfl rfl) ?_
    refine go 2 ?_
    refine gY rfl (fun hc9 => ?_) (fun hc9 => ?_)
    ·have hj2 : j < p.funcs[k].params.length := by simpa using hc9
     refine go 5 ?_
     refine aB [b4, b3, b2, b1] (by kernel_rfl) ?_
     refine tks [(0, true), (1, true), (2, true)] 8 (by kernel_rfl) ?_
     refine go 4 ?_
     refine tq 3 (by kernel_rfl) rfl rfl rfl rfl (bH cP cP p.funcs[k].params gL (fun _ => rfl) j rfl rfl rfl rfl hj2 (by decide) Tryz.runUnderlying55 Tryz.sizeOf78) ?_
     refine tks [(4, true), (5, true), (6, true), (7, true)] 3 (by kernel_rfl) ?_
     refine go 5 ?_
     refine tq 8 (by kernel_rfl) rfl rfl rfl rfl (bH cP cP p.funcs[k].params gL (fun _ => rfl) j rfl rfl rfl rfl hj2 (by decide) Tryz.runUnderlying55 Tryz.sizeOf78) ?_
     refine tks [(9, true)] 1 (by kernel_rfl) ?_
     refine go 2 ?_
     refine tq 10 (by kernel_rfl) rfl rfl rfl rfl (yI [.string p.funcs[k].params[j].name, .bool p.funcs[k].params[j].mutex] false rfl rfl rfl Tryz.eqGuardType78 (fun w => eqP _ _ w) rfl) ?_
     refine aE (by kernel_rfl) ?_
     refine go 7 ?_
     refine wyy rfl rfl rfl (bB rfl rfl rfl (by omega) (by omega)) ?_
     refine go 2 ?_
     exact ⟨by omega, (sA rfl)⟩
    ·refine go 8 ?_
     refine wyy rfl rfl rfl (bB rfl rfl rfl (by omega) (by omega)) ?_
     refine go 2 ?_
     exact ⟨by omega, cA (.cons _ (.cons _ (.refl _))) (.refl _) (fun b hb => List.mem_cons_of_mem _ (List.mem_cons_of_mem _ (hb))) (sA rfl)⟩
   ·refine go 11 ?_
    exact cB (s' := ⟨bx, rw⟩) (.inr rfl) rfl (aF rfl) (aA (.cons _ (.cons _ (.refl _))) (.refl _)) ⟨rfl, rfl⟩
end
section
open Go.RowKit
abbrev aF6 (l : List ByteArray) : AC := .sl l.length (l.map fun s => .val (.string s))
abbrev aEm (l : List Int) : AC := .sl l.length (l.map fun n => .val (.int .i64 n))
theorem aOi (s : Sto) : aL Tryz.prog 140 [nI 0] [] s fun t s' => t = .tup [.c (aF6 (jP 0)), .c (aEm (dS 0))] ∧ s' = s := by
 obtain ⟨bx, rw⟩ := s
 refine aD Tryz.func140 rfl (Nat.le_of_ble_eq_true rfl) ?_
 show AWp Tryz.prog _ ⟨23, _, ⟨bx, rw⟩, [(0, nI 0)]⟩ _
 refine go 15 ?_
 refine wcp true rfl (by simp [bC]) ?_
 refine go 6 ?_
 refine wo rfl (bDk bDo rfl (.cons rfl .nil) rfl ?_)
 refine wo rfl (bDk zb5 rfl (.cons rfl .nil) rfl ?_)
 refine go 7 ?_
 exact ⟨.inr rfl, _, ⟨bx, rw⟩, uM rfl (aF rfl) (aF rfl), aA (.refl _) (.refl _), rfl, rfl⟩
theorem aOy (s : Sto) : aL Tryz.prog 140 [nI 1] [] s fun t s' => t = .tup [.c (aF6 (jP 1)), .c (aEm (dS 1))] ∧ s' = s := by
 obtain ⟨bx, rw⟩ := s
 refine aD Tryz.func140 rfl (Nat.le_of_ble_eq_true rfl) ?_
 show AWp Tryz.prog _ ⟨23, _, ⟨bx, rw⟩, [(0, nI 1)]⟩ _
 refine go 15 ?_
 refine wcp false rfl rfl ?_
 refine go 6 ?_
 refine wcp true rfl (by simp [bC]) ?_
 refine go 6 ?_
 refine wo rfl (bDk bDo rfl (.cons rfl .nil) rfl ?_)
 refine wo rfl (bDk zb5 rfl (.cons rfl .nil) rfl ?_)
 refine go 7 ?_
 exact ⟨.inr rfl, _, ⟨bx, rw⟩, uM rfl (aF rfl) (aF rfl), aA (.refl _) (.refl _), rfl, rfl⟩
theorem aPo (s : Sto) : aL Tryz.prog 140 [nI 2] [] s fun t s' => t = .tup [.c (aF6 (jP 2)), .c (aEm (dS 2))] ∧ s' = s := by
 obtain ⟨bx, rw⟩ := s
 refine aD Tryz.func140 rfl (Nat.le_of_ble_eq_true rfl) ?_
 show AWp Tryz.prog _ ⟨23, _, ⟨bx, rw⟩, [(0, nI 2)]⟩ _
 refine go 15 ?_
 refine wcp false rfl rfl ?_
 refine go 6 ?_
 refine wcp false rfl rfl ?_
 refine go 6 ?_
 refine wcp true rfl (by simp [bC]) ?_
 refine go 6 ?_
 refine wo rfl (wbs Tryz.t9 [.val (.string ⟨#[]⟩), .val (.string ⟨#[]⟩), .val (.string ⟨#[]⟩), .val (.string ⟨#[]⟩), .val (.string ⟨#[]⟩), .val (.string ⟨#[]⟩)] rfl rfl (by decide) (.cons rfl (.cons rfl (.cons rfl (.cons rfl (.cons rfl (.cons rfl .nil)))))) Tryz.underlying26 (by kernel_rfl) rfl (by decide) (by decide) (by kernel_rfl) (by kernel_rfl) rfl ?_)
 refine wo rfl (wbs Tryz.t3 [.val (.int .i64 0), .val (.int .i64 0), .val (.int .i64 0), .val (.int .i64 0), .val (.int .i64 0), .val (.int .i64 0)] rfl rfl (by decide) (.cons rfl (.cons rfl (.cons rfl (.cons rfl (.cons rfl (.cons rfl .nil)))))) Tryz.underlying22 (by kernel_rfl) rfl (by decide) (by decide) (by kernel_rfl) (by kernel_rfl) rfl ?_)
 refine go 7 ?_
 exact ⟨.inr rfl, _, ⟨bx, rw⟩, uM rfl (aF rfl) (aF rfl), aA (.refl _) (.refl _), rfl, rfl⟩
theorem aPj (s : Sto) : aL Tryz.prog 140 [nI 3] [] s fun t s' => t = .tup [.c (aF6 (jP 3)), .c (aEm (dS 3))] ∧ s' = s := by
 obtain ⟨bx, rw⟩ := s
 refine aD Tryz.func140 rfl (Nat.le_of_ble_eq_true rfl) ?_
 show AWp Tryz.prog _ ⟨23, _, ⟨bx, rw⟩, [(0, nI 3)]⟩ _
 refine go 15 ?_
 refine wcp false rfl rfl ?_
 refine go 6 ?_
 refine wcp false rfl rfl ?_
 refine go 6 ?_
 refine wcp false rfl rfl ?_
 refine go 6 ?_
 refine wcp true rfl (by simp [bC]) ?_
 refine go 6 ?_
 refine wo rfl (bDk bDy rfl (.cons rfl (.cons rfl .nil)) rfl ?_)
 refine wo rfl (wbs Tryz.t3 [.val (.int .i64 0), .val (.int .i64 0)] rfl rfl (by decide) (.cons rfl (.cons rfl .nil)) Tryz.underlying22 (by kernel_rfl) rfl (by decide) (by decide) (by kernel_rfl) (by kernel_rfl) rfl ?_)
 refine go 7 ?_
 exact ⟨.inr rfl, _, ⟨bx, rw⟩, uM rfl (aF rfl) (aF rfl), aA (.refl _) (.refl _), rfl, rfl⟩
theorem aOe (s : Sto) : aL Tryz.prog 140 [nI 4] [] s fun t s' => t = .tup [.c (aF6 (jP 4)), .c (aEm (dS 4))] ∧ s' = s := by
 obtain ⟨bx, rw⟩ := s
 refine aD Tryz.func140 rfl (Nat.le_of_ble_eq_true rfl) ?_
 show AWp Tryz.prog _ ⟨23, _, ⟨bx, rw⟩, [(0, nI 4)]⟩ _
 refine go 15 ?_
 refine wcp false rfl rfl ?_
 refine go 6 ?_
 refine wcp false rfl rfl ?_
 refine go 6 ?_
 refine wcp false rfl rfl ?_
 refine go 6 ?_
 refine wcp false rfl rfl ?_
 refine go 9 ?_
 refine wo rfl (wbs Tryz.t9 [.val (.string ⟨#[]⟩), .val (.string ⟨#[]⟩), .val (.string ⟨#[]⟩)] rfl rfl (by decide) (.cons rfl (.cons rfl (.cons rfl .nil))) Tryz.underlying26 (by kernel_rfl) rfl (by decide) (by decide) (by kernel_rfl) (by kernel_rfl) rfl ?_)
 refine wo rfl (wbs Tryz.t3 [.val (.int .i64 0), .val (.int .i64 0), .val (.int .i64 0)] rfl rfl (by decide) (.cons rfl (.cons rfl (.cons rfl .nil))) Tryz.underlying22 (by kernel_rfl) rfl (by decide) (by decide) (by kernel_rfl) (by kernel_rfl) rfl ?_)
 refine go 5 ?_
 exact ⟨.inr rfl, _, ⟨bx, rw⟩, uM rfl (aF rfl) (aF rfl), aA (.refl _) (.refl _), rfl, rfl⟩
theorem aO6 (lv : Nat) (h : lv < 5) (s : Sto) : aL Tryz.prog 140 [.c (.val (.int .i64 (lv : Int)))] [] s fun t s' => t = .tup [.c (aF6 (jP lv)), .c (aEm (dS lv))] ∧ s' = s := by
 rcases (show lv = 0 ∨ lv = 1 ∨ lv = 2 ∨ lv = 3 ∨ lv = 4 by omega) with rfl | rfl | rfl | rfl | rfl
 ·exact aOi s
 ·exact aOy s
 ·exact aPo s
 ·exact aPj s
 ·exact aOe s
end
section
open Go.RowKit
theorem aGf {e : aH} (h : e.sane) (k : Nat) (hk : k < e.args.length) : e.args[k].sane := by
 cases e with
 | mk op num name args => rw [aH.sane] at h; exact mV _ h.2.2 _ (getElem_mem hk)
theorem aJn {e : aH} (h : e.sane) : e.name.size ≤ 4611686018427387904 := by cases e; rw [aH.sane] at h; exact h.2.1
theorem aIc : ∀ (N : Nat) (e : aH), e.nodes ≤ N → N ≤ 1000000000 → e.sane → ∀ s : Sto, aL Tryz.prog 135 [.agg (cU e)] [] s fun r s' => r = .c (.val (.bool (eO e))) ∧ s' = s
 | 0, e, h, _, _ => by cases e; rw [aH.nodes] at h; omega
 | N + 1, e, h, hN, hs => aHf e (aJn hs) (by omega) fun k hk s => aIc N e.args[k] (by have := sF e k hk; omega) (by omega) (aGf hs k hk) s
theorem qT (e : aH) (hN : e.nodes ≤ 1000000000) (hs : e.sane) (s : Sto) : aL Tryz.prog 96 [.agg (cU e)] [] s fun t s' => t = .c (.val (.bool (dM e))) ∧ s' = s := by
 obtain ⟨bx, rw⟩ := s
 refine aD Tryz.func96 rfl (Nat.le_of_ble_eq_true rfl) ?_
 show AWp Tryz.prog _ ⟨10, _, ⟨bx, rw⟩, [(0, .agg (cU e))]⟩ _
 refine go 9 fun b1 => ?_
 refine wo rfl (bV rfl rfl (by decide) Tryz.call135 rfl (aIc _ e (Nat.le_refl _) hN hs _) ?_)
 rintro _ _ ⟨hr1, rfl⟩
 rcases Bool.eq_false_or_eq_true (eO e) with h2 | h2
 ·rw [h2] at hr1
  subst hr1
  refine go 2 ?_
  refine wo rfl (bV rfl rfl (by decide) Tryz.call136 rfl (aGd _ e (Nat.le_refl _) hN _) ?_)
  rintro _ _ ⟨rfl, rfl⟩
  by_cases h4 : ((dI e : Nat) : Int) ≤ 24
  ·refine wcp true rfl (aPz h4) ?_
   refine go 5 ?_
   exact cB (s' := ⟨bx, rw⟩) (.inr rfl) rfl (aF rfl) (aA (.cons _ (.refl _)) (.refl _)) ⟨cX (by unfold dM; first | (rw [h2]; simp; omega) | (rw [h2]; rfl)), rfl⟩
  ·refine wcp false rfl (aPx h4) ?_
   refine go 5 ?_
   exact cB (s' := ⟨bx, rw⟩) (.inr rfl) rfl (aF rfl) (aA (.cons _ (.refl _)) (.refl _)) ⟨cX (by unfold dM; first | (rw [h2]; simp; omega) | (rw [h2]; rfl)), rfl⟩
 ·rw [h2] at hr1
  subst hr1
  refine go 9 ?_
  exact cB (s' := ⟨bx, rw⟩) (.inr rfl) rfl (aF rfl) (aA (.cons _ (.refl _)) (.refl _)) ⟨cX (by unfold dM; first | (rw [h2]; simp; omega) | (rw [h2]; rfl)), rfl⟩
theorem sM (z : Int) (h : fit z) (s : Sto) : aL Tryz.prog 73 [.c (.val (.int .i64 z))] [] s fun r s' => r = .c (.val (.string (bytes (eH z)))) ∧ s' = s :=
 aHq (us := [.int .i64 z]) rfl rfl (fun w => aHb z w h.1 h.2) s
theorem kU (e : aH) : aP e = iX e.op e.num e.name (dP e.op 0 e.args) := by cases e; rw [aP]; rfl
theorem vS (b : Int) : ∀ (l : List aH) (j : Nat), (dP b j l).length = l.length
 | [], j => by rw [dP]; rfl
 | e :: es, j => by rw [dP, length_cons, length_cons, vS b es]
theorem pL (b : Int) : ∀ (l : List aH) (j k : Nat) (h : k < l.length), (dP b j l)[k]? = some (if cV b (j + k) l[k].op then [40] ++ aP l[k] ++ [41] else aP l[k])
 | e :: es, j, 0, h => by rw [dP]; rfl
 | e :: es, j, k + 1, h => by
  rw [dP, List.getElem?_cons_succ, pL b es (j + 1) k (by simpa using h)]
  rw [show j + 1 + k = j + (k + 1) by omega]; rfl
theorem aCb {e : aH} (h : eO e = true) : (e.op = 1 ∧ e.args.length = 0) ∨ (e.op = 2 ∧ e.args.length = 0) ∨ ((e.op = 3 ∨ e.op = 4) ∧ e.args.length = 1 ∧ aM e.op = 5) ∨ (aM e.op < 5 ∧ 5 ≤ e.op ∧ e.op ≤ 17 ∧ e.args.length = 2) := by
 rw [dZ, Bool.and_eq_true, Bool.and_eq_true, decide_eq_true_eq] at h
 obtain ⟨⟨h1, h2⟩, -⟩ := h
 unfold arity at h2
 rcases rW e.op with ⟨k1, k2⟩ | ⟨k1, k2⟩ | k1
 ·rw [if_neg (by omega), if_neg (by omega)] at h2; exact .inr (.inr (.inr ⟨k1, k2.1, k2.2, h2⟩))
 ·rw [if_neg (by omega), if_pos k1] at h2; exact .inr (.inr (.inl ⟨k2, h2, k1⟩))
 ·rw [if_pos k1] at h1 h2
  unfold jG at h1
  simp only [Bool.or_eq_true, Bool.and_eq_true, decide_eq_true_eq] at h1
  rcases h1 with h1 | h1
  ·exact .inl ⟨h1.1.1, h2⟩
  ·exact .inr (.inl ⟨h1.1.1, h2⟩)
theorem aKx {e : aH} (h : eO e = true) (k : Nat) (hk : k < e.args.length) : eO e.args[k] = true := by
 cases hs : eO e.args[k] with
 | true => rfl
 | false => rw [dZ, oF _ _ hk hs, Bool.and_false] at h; cases h
theorem aIl {e : aH} (h : eO e = true) (k : Nat) (hk : k < e.args.length) : ((dP e.op 0 e.args).getD k []).length ≤ (aP e).length := by
 rw [kU]
 rcases aCb h with h1 | h1 | h1 | h1
 ·omega
 ·omega
 ·obtain rfl : k = 0 := by omega
  unfold iX
  rcases h1.1 with h3 | h3 <;> simp [h3]
 ·unfold iX
  rw [if_neg (by omega), if_neg (by omega), if_neg (by omega), if_neg (by omega), if_pos h1.1]
  have : k = 0 ∨ k = 1 := by omega
  rcases this with rfl | rfl <;> (simp only [length_append]; omega)
theorem aD4 {e : aH} (h : eO e = true) (k : Nat) (hk : k < e.args.length) : (aP e.args[k]).length ≤ (aP e).length := by
 have h1 := aIl h k hk
 have h2 := pL e.op e.args 0 k hk
 rw [List.getD_eq_getElem?_getD, h2, Option.getD_some] at h1
 split at h1 <;> (try simp only [length_append] at h1) <;> omega
theorem aLd {op : Int} (h : 5 ≤ op ∧ op ≤ 17) : op = 5 ∨ op = 6 ∨ op = 7 ∨ op = 8 ∨ op = 9 ∨ op = 10 ∨ op = 11 ∨ op = 12 ∨ op = 13 ∨ op = 14 ∨ op = 15 ∨ op = 16 ∨ op = 17 := by omega
theorem aKw {op : Int} (h : 5 ≤ op ∧ op ≤ 17) : op ∈ dS (aM op) := by
 rcases aLd h with rfl | rfl | rfl | rfl | rfl | rfl | rfl | rfl | rfl | rfl | rfl | rfl | rfl <;> decide
theorem aNo {op : Int} (h : 5 ≤ op ∧ op ≤ 17) : ∀ i (h1 : i < (dS (aM op)).length) (h2 : i < (jP (aM op)).length), (dS (aM op))[i] = op → (jP (aM op))[i] = bytes (iW op) := by
 rcases aLd h with rfl | rfl | rfl | rfl | rfl | rfl | rfl | rfl | rfl | rfl | rfl | rfl | rfl <;> decide
theorem aQc {c : Prop} [Decidable c] {l r : List UInt8} {n : Nat} (h1 : l.length ≤ n) (h2 : r.length ≤ n) : (if c then l else r).length ≤ n := by split <;> assumption
theorem kW (op : Int) : (iW op).length ≤ 2 := by
 unfold iW
 repeat' (with_reducible apply aQc)
 all_goals decide
theorem pE (ts : List (List UInt8)) (j : Nat) (h : j < (ts.map bytes).length) : (ts.map bytes)[j] = bytes (ts.getD j []) := by
 have h1 : j < ts.length := by simpa using h
 simp [List.getD, h1]
theorem aJ7 (e : aH) (hN : e.nodes ≤ 1000000000) (hs : e.sane) (hsh : eO e = true) (hL : (aP e).length ≤ 1000000000000000) (ih : ∀ k (h : k < e.args.length) (s : Sto), aL Tryz.prog 105 [.agg (cU e.args[k])] [] s fun r s' => r = .c (.val (.string (bytes (aP e.args[k])))) ∧ s' = s) (s : Sto) : aL Tryz.prog 105 [.agg (cU e)] [] s fun t s' => t = .c (.val (.string (bytes (aP e)))) ∧ s' = s := by
 obtain ⟨bx, rw⟩ := s
 have hlen := uC e
 have hops := aCb hsh
 have hfit : fit e.num := by cases e; rw [aH.sane] at hs; exact hs.1
 have hget := pL e.op e.args 0
 have htl := vS e.op e.args 0
 have hal := aIl hsh
 simp only [Nat.zero_add] at hget
 obtain ⟨ts, hts⟩ : ∃ ts, dP e.op 0 e.args = ts := ⟨_, rfl⟩
 rw [hts] at hget htl hal
 refine aD Tryz.func105 rfl (Nat.le_of_ble_eq_true rfl) ?_
 show AWp Tryz.prog _ ⟨95, _, ⟨bx, rw⟩, [(0, .agg (cU e))]⟩ _
 refine go 18 fun b1 => ?_
 refine qR 9 1 ?_
 refine aO2 (fun k => True) (e.args.length) 4 3 9 1 (fun k => ((ts.take k).map bytes).length) (fun k => bP ((ts.take k).map bytes)) [b1] (fun k => [(1, pP b1)]) trivial (cA (.refl _) (.refl _) (by intro x hx; simpa [aY, Value.ownBlock] using hx) (sA rfl)) fun k v hk hvk => ?_
 replace hvk : True := hvk
 show AWp Tryz.prog _ ⟨95, _, ⟨_, ⟨_, _, _, ((ts.take k).map bytes).length, bP ((ts.take k).map bytes)⟩ :: _⟩, (4, nI k) :: (3, .c (.val v)) :: [(1, pP b1)]⟩ _
 have hrl : ((ts.take k).map bytes).length ≤ k := by simp only [List.length_map, List.length_take]; omega
 refine go 7 ?_
 by_cases h1 : ((k : Nat) : Int) < ((e.args.length : Nat) : Int)
 ·refine wcp true rfl (jZ h1) ?_
  refine go 12 ?_
  refine wyy rfl rfl rfl (bH fO cU e.args iU fP k rfl rfl rfl rfl (by omega) (by decide) Tryz.runUnderlying96 Tryz.sizeOf98) ?_
  refine go 1 ?_
  refine wo rfl (bV rfl rfl (by decide) Tryz.call105 rfl (ih k (by omega) _) ?_)
  rintro _ _ ⟨rfl, rfl⟩
  refine go 6 ?_
  have hpl := aD4 hsh k (by omega)
  refine go 2 ?_
  refine wo rfl (bV rfl rfl (by decide) Tryz.call139 rfl (aIh e k (by omega) _) ?_)
  rintro _ _ ⟨hr4, rfl⟩
  rcases Bool.eq_false_or_eq_true (cV e.op k e.args[k].op) with h5 | h5
  ·rw [h5] at hr4
   subst hr4
   refine go 5 ?_
   refine wyy rfl rfl rfl (aN [40] (aP e.args[k]) rfl rfl rfl rfl rfl (by have h1 := kW e.op; simp only [length_append, length_cons, length_nil]; omega)) ?_
   refine wyy rfl rfl rfl (aN ([40] ++ (aP e.args[k])) [41] rfl rfl rfl rfl rfl (by have h1 := kW e.op; simp only [length_append, length_cons, length_nil]; omega)) ?_
   refine go 6 ?_
   refine wo rfl (bDk bDo rfl (.cons rfl .nil) (r := bP [(bytes (([40] ++ (aP e.args[k])) ++ [41]))]) rfl ?_)
   refine wo rfl (bDm [] bDn rfl rfl (by decide) (by unfold maxLen; omega) (by omega) (@length_append _ ((ts.take k).map bytes) [(bytes (([40] ++ (aP e.args[k])) ++ [41]))]).symm (fun _ b hb => by simp [hb]) (fun b hb => by simp [hb]) (List.map_append (f := fun x => AC.val (.string x))).symm fun w2 => ?_)
   refine go 6 ?_
   refine wyy rfl rfl rfl (bB rfl rfl rfl (by omega) (by omega)) ?_
   refine go 2 ?_
   rw [show (ts.take (k + 1)).map bytes = (ts.take k).map bytes ++ [(bytes (([40] ++ (aP e.args[k])) ++ [41]))] by rw [List.take_succ, hget k (by omega), h5]; simp]
   exact ⟨by omega, trivial, _, cA (.refl _) (.refl _) (by intro x hx; simp only [mem_append, mem_cons, not_mem_nil, or_false] at hx ⊢; rcases hx with h | h <;> simp [h]) (aG rfl (gQ (by omega)) (sA rfl))⟩
  ·rw [h5] at hr4
   subst hr4
   refine go 8 ?_
   refine wo rfl (bDk bDo rfl (.cons rfl .nil) (r := bP [(bytes (aP e.args[k]))]) rfl ?_)
   refine wo rfl (bDm [] bDn rfl rfl (by decide) (by unfold maxLen; omega) (by omega) (@length_append _ ((ts.take k).map bytes) [(bytes (aP e.args[k]))]).symm (fun _ b hb => by simp [hb]) (fun b hb => by simp [hb]) (List.map_append (f := fun x => AC.val (.string x))).symm fun w3 => ?_)
   refine go 6 ?_
   refine wyy rfl rfl rfl (bB rfl rfl rfl (by omega) (by omega)) ?_
   refine go 2 ?_
   rw [show (ts.take (k + 1)).map bytes = (ts.take k).map bytes ++ [(bytes (aP e.args[k]))] by rw [List.take_succ, hget k (by omega), h5]; simp]
   exact ⟨by omega, trivial, _, cA (.refl _) (.refl _) (by intro x hx; simp only [mem_append, mem_cons, not_mem_nil, or_false] at hx ⊢; rcases hx with h | h <;> simp [h]) (aG rfl (gQ (by omega)) (sA rfl))⟩
 ·refine wcp false rfl (jQ h1) ?_
  refine go 12 ?_
  obtain rfl : k = e.args.length := by omega
  rw [take_of_length_le (by omega)]
  refine aE1 3 rfl ?_
  refine go 2 ?_
  by_cases h9 : e.op = 1
  ·refine wcp true rfl (eR h9) ?_
   refine go 8 ?_
   refine wo rfl (bV rfl rfl (by decide) Tryz.call73 rfl (sM e.num hfit _) ?_)
   rintro _ _ ⟨rfl, rfl⟩
   refine go 6 ?_
   exact cB (s' := ⟨bx, rw⟩) (.inr rfl) rfl (aF rfl) (aA (.cons _ (.refl _)) (.refl _)) ⟨oW (by rw [kU, hts]; unfold iX; simp only [if_pos h9]; try rfl), rfl⟩
  ·refine wcp false rfl (eD h9) ?_
   refine go 8 ?_
   by_cases h13 : e.op = 2
   ·refine wcp true rfl (eR h13) ?_
    refine go 14 ?_
    exact cB (s' := ⟨bx, rw⟩) (.inr rfl) rfl (aF rfl) (aA (.cons _ (.refl _)) (.refl _)) ⟨oW (by rw [kU, hts]; unfold iX; simp only [if_neg h9, if_pos h13]; try exact (back _).symm), rfl⟩
   ·refine wcp false rfl (eD h13) ?_
    refine go 8 ?_
    by_cases h16 : e.op = 3
    ·refine wcp true rfl (eR h16) ?_
     refine go 6 ?_
     have hl1 : e.args.length = 1 := by rcases hops with h | h | h | h <;> omega
     have hg0 := hal 0 (by omega)
     refine go 1 ?_
     refine wyy rfl rfl rfl (rT (fun x => .val (.string x)) (ts.map bytes) 0 rfl rfl rfl rfl (by simp only [List.length_map]; omega) Tryz.runUnderlying26 Tryz.sizeOf9) ?_
     refine go 1 ?_
     refine wyy rfl rfl rfl (aN [45] (ts.getD 0 []) rfl rfl rfl rfl (pE _ _ (by simp only [List.length_map]; omega)) (by have h1 := kW e.op; simp only [length_append, length_cons, length_nil]; omega)) ?_
     refine go 6 ?_
     exact cB (s' := ⟨bx, rw⟩) (.inr rfl) rfl (aF rfl) (aA (.cons _ (.refl _)) (.refl _)) ⟨oW (by rw [kU, hts]; unfold iX; simp only [if_neg h9, if_neg h13, if_pos h16]; try rfl), rfl⟩
    ·refine wcp false rfl (eD h16) ?_
     refine go 8 ?_
     by_cases h19 : e.op = 4
     ·refine wcp true rfl (eR h19) ?_
      refine go 6 ?_
      have hl1 : e.args.length = 1 := by rcases hops with h | h | h | h <;> omega
      have hg0 := hal 0 (by omega)
      refine go 1 ?_
      refine wyy rfl rfl rfl (rT (fun x => .val (.string x)) (ts.map bytes) 0 rfl rfl rfl rfl (by simp only [List.length_map]; omega) Tryz.runUnderlying26 Tryz.sizeOf9) ?_
      refine go 1 ?_
      refine wyy rfl rfl rfl (aN [33] (ts.getD 0 []) rfl rfl rfl rfl (pE _ _ (by simp only [List.length_map]; omega)) (by have h1 := kW e.op; simp only [length_append, length_cons, length_nil]; omega)) ?_
      refine go 6 ?_
      exact cB (s' := ⟨bx, rw⟩) (.inr rfl) rfl (aF rfl) (aA (.cons _ (.refl _)) (.refl _)) ⟨oW (by rw [kU, hts]; unfold iX; simp only [if_neg h9, if_neg h13, if_neg h16, if_pos h19]; try rfl), rfl⟩
     ·refine wcp false rfl (eD h19) ?_
      refine go 11 ?_
      have hlt5 : aM e.op < 5 := by rcases hops with h | h | h | h <;> omega
      have hop : 5 ≤ e.op ∧ e.op ≤ 17 := by rcases hops with h | h | h | h <;> omega
      have hl2 : e.args.length = 2 := by rcases hops with h | h | h | h <;> omega
      have hsl := aKy (aM e.op)
      have hg0 := hal 0 (by omega)
      have hg1 := hal 1 (by omega)
      refine wo rfl (bV rfl rfl (by decide) Tryz.call141 rfl (nA e.op _) ?_)
      rintro _ _ ⟨rfl, rfl⟩
      refine wo rfl (bV rfl rfl (by decide) Tryz.call140 rfl (aO6 (aM e.op) (by omega) _) ?_)
      rintro _ _ ⟨rfl, rfl⟩
      refine go 14 ?_
      refine lE (fun i => ∀ j (h : j < (dS (aM e.op)).length), j < i → (dS (aM e.op))[j] ≠ e.op) ((dS (aM e.op)).length) 8 (fun i => [(1, pP b1), (3, .c (.sl (ts.map bytes).length ((ts.map bytes).map fun x => .val (.string x)))), (6, .c (aF6 (jP (aM e.op)))), (7, .c (aEm (dS (aM e.op))))]) (fun _ _ h => absurd h (by omega)) (sA rfl) fun i hi hvi => ?_
      replace hvi : ∀ j (h : j < (dS (aM e.op)).length), j < i → (dS (aM e.op))[j] ≠ e.op := hvi
      show AWp Tryz.prog _ ⟨95, _, _, (8, nI i) :: [(1, pP b1), (3, .c (.sl (ts.map bytes).length ((ts.map bytes).map fun x => .val (.string x)))), (6, .c (aF6 (jP (aM e.op)))), (7, .c (aEm (dS (aM e.op))))]⟩ _
      refine go 6 ?_
      by_cases h24 : ((i : Nat) : Int) < (((dS (aM e.op)).length : Nat) : Int)
      ·refine wcp true rfl (jZ h24) ?_
       refine go 8 ?_
       refine aB [b1] (by kernel_rfl) ?_
       refine tks [(0, true), (1, true)] 5 (by kernel_rfl) ?_
       refine go 3 ?_
       refine tq 2 (by kernel_rfl) rfl rfl rfl rfl (rT (fun x => .val (.int .i64 x)) (dS (aM e.op)) i rfl rfl rfl rfl (by omega) Tryz.runUnderlying22 Tryz.sizeOf3) ?_
       refine tks [(3, true), (4, true), (5, true)] 1 (by kernel_rfl) ?_
       refine go 4 ?_
       by_cases h26 : (dS (aM e.op))[i] = e.op
       ·refine tq 6 (by kernel_rfl) rfl rfl rfl rfl (bO true rfl rfl rfl (eR h26)) ?_
        refine aE (by kernel_rfl) ?_
        refine go 3 ?_
        refine aB [b1] (by kernel_rfl) ?_
        refine tks [(0, true)] 14 (by kernel_rfl) ?_
        refine go 2 ?_
        refine tq 1 (by kernel_rfl) rfl rfl rfl rfl (rT (fun x => .val (.string x)) (ts.map bytes) 0 rfl rfl rfl rfl (by simp only [List.length_map]; omega) Tryz.runUnderlying26 Tryz.sizeOf9) ?_
        refine tks [(2, true)] 12 (by kernel_rfl) ?_
        refine go 2 ?_
        refine tq 3 (by kernel_rfl) rfl rfl rfl rfl (aN (ts.getD 0 []) [32] rfl rfl rfl (pE _ _ (by simp only [List.length_map]; omega)) rfl (by have h1 := kW e.op; simp only [length_append, length_cons, length_nil]; omega)) ?_
        refine tks [(4, true), (5, true)] 9 (by kernel_rfl) ?_
        refine go 3 ?_
        refine tq 6 (by kernel_rfl) rfl rfl rfl rfl (rT (fun x => .val (.string x)) (jP (aM e.op)) i rfl rfl rfl rfl (by omega) Tryz.runUnderlying26 Tryz.sizeOf9) ?_
        refine tks [(7, true)] 7 (by kernel_rfl) ?_
        refine go 2 ?_
        refine tq 8 (by kernel_rfl) rfl rfl rfl rfl (aN ((ts.getD 0 []) ++ [32]) (iW e.op) rfl rfl rfl rfl (aNo hop i (by omega) (by omega) h26) (by have h1 := kW e.op; simp only [length_append, length_cons, length_nil]; omega)) ?_
        refine tq 9 (by kernel_rfl) rfl rfl rfl rfl (aN (((ts.getD 0 []) ++ [32]) ++ (iW e.op)) [32] rfl rfl rfl rfl rfl (by have h1 := kW e.op; simp only [length_append, length_cons, length_nil]; omega)) ?_
        refine tks [(10, true)] 4 (by kernel_rfl) ?_
        refine go 2 ?_
        refine tq 11 (by kernel_rfl) rfl rfl rfl rfl (rT (fun x => .val (.string x)) (ts.map bytes) 1 rfl rfl rfl rfl (by simp only [List.length_map]; omega) Tryz.runUnderlying26 Tryz.sizeOf9) ?_
        refine tks [(12, true)] 2 (by kernel_rfl) ?_
        refine go 2 ?_
        refine tq 13 (by kernel_rfl) rfl rfl rfl rfl (aN ((((ts.getD 0 []) ++ [32]) ++ (iW e.op)) ++ [32]) (ts.getD 1 []) rfl rfl rfl rfl (pE _ _ (by simp only [List.length_map]; omega)) (by have h1 := kW e.op; simp only [length_append, length_cons, length_nil]; omega)) ?_
        refine tks [(14, true)] 0 (by kernel_rfl) ?_
        refine go 2 ?_
        refine aE (by kernel_rfl) ?_
        refine go 7 ?_
        exact cB (s' := ⟨bx, rw⟩) (.inr rfl) rfl (aF rfl) (aA (.cons _ (.refl _)) (.refl _)) ⟨oW (by rw [kU, hts]; unfold iX; simp only [if_neg h9, if_neg h13, if_neg h16, if_neg h19, if_pos hlt5]; try rfl), rfl⟩
       ·refine tq 6 (by kernel_rfl) rfl rfl rfl rfl (bO false rfl rfl rfl (eD h26)) ?_
        refine aE (by kernel_rfl) ?_
        refine go 7 ?_
        refine wyy rfl rfl rfl (bB rfl rfl rfl (by omega) (by omega)) ?_
        refine go 2 ?_
        exact ⟨by omega, (fun j hj hlt hq => (Nat.lt_or_ge j i).elim (fun h9 => hvi j hj h9 hq) (fun h9 => by have h8 : j = i := (by omega); subst h8; exact h26 hq)), (aG rfl (gQ (by omega)) (sA rfl))⟩
      ·refine wcp false rfl (jQ h24) ?_
       refine go 14 ?_
       exact absurd (List.mem_iff_getElem.1 (aKw hop)) (fun ⟨j, hj, hq⟩ => hvi j hj (by omega) hq)
end
end Go.Proofs.YteiefdnbdjnoiaaGreatDoor
