import Derived.Test.YteiefdnbdjnoiaaGreatDoorK5J
import Derived.Test.YteiefdnbdjnoiaaGreatDoorK16J
import Derived.Test.YteiefdnbdjnoiaaGreatDoorK14J
import Derived.Test.YteiefdnbdjnoiaaGreatDoorK7J
import Derived.Test.YteiefdnbdjnoiaaGreatDoorK15J
import Derived.Test.YteiefdnbdjnoiaaGreatDoorK20J
set_option linter.all false
set_option synthInstance.maxHeartbeats 1000000
set_option synthInstance.maxSize 1000000
set_option maxHeartbeats 1600000
set_option maxRecDepth 100000
namespace Go.Proofs.YteiefdnbdjnoiaaGreatDoor
open List (length_append length_cons length_nil mem_append mem_cons not_mem_nil append_assoc getElem_mem take_of_length_le)
section
open Go.RowKit
structure TOk (l : List Tok) : Prop where
 last : rP l
 reg : ∀ t, t ∈ l → aPn t
 len : l.length ≤ 1000000
theorem lA {e : Nat} (h : e ≠ 0) : bC .eql (e : Int) 0 = some false := by simp [bC, h]
theorem jS {m n : Nat} : bC .eql (m : Int) (n : Int) = some (decide (m = n)) := by
 by_cases h : m = n
 ·subst h; simp [bC]
 ·have h2 : ¬ (m : Int) = (n : Int) := by omega
  simp [bC, h, h2]
def aC7 (e b k x b1 e1 : Nat) : Prop := (e = 0 → k = b1 ∧ x = e1) ∧ (e ≠ 0 → b = b1 ∧ e = e1)
theorem aC7.run {α : Type} {e b k x b1 e1 : Nat} {r : bN α} (h : aC7 e b k x b1 e1) (hx : x ≠ 0) (hr : e = 0 → r = .err k x) (y : α) (k1 : Nat) : kX e b r y k1 b1 e1 := by
 by_cases he : e = 0
 ·obtain ⟨rfl, rfl⟩ := h.1 he
  subst he
  exact .err _ _ _ _ _ (hr rfl) hx
 ·obtain ⟨rfl, rfl⟩ := h.2 he
  exact .skip he _ _ _
theorem aC7.small {e b k x b1 e1 : Nat} (h : aC7 e b k x b1 e1) (he : e < 16) (hx : x < 16) : e1 < 16 := by
 by_cases h0 : e = 0
 ·rw [← (h.1 h0).2]; exact hx
 ·rw [← (h.2 h0).2]; exact he
end
section
open Go.RowKit
theorem TOk.of {s : List UInt8} {l : List Tok} (h : iH s = .ok l) : TOk l := ⟨(wD h).ends, (wD h).reg, by have := (wD h).few; omega⟩
def jM (s : List UInt8) : cK × Nat × Nat :=
 match iH s with
 | .err p e => (⟨[], [], []⟩, p, e)
 | .ok l => match fH l with
  | .ok x _ => (x, s.length, 0)
  | .err k e => (⟨[], [], []⟩, (bU l k).pos, e)
theorem aA9 {s : List UInt8} {p e : Nat} (h : iH s = .err p e) : jM s = (⟨[], [], []⟩, p, e) := by unfold jM; rw [h]
theorem aBe {s : List UInt8} {l : List Tok} {k e : Nat} (h : iH s = .ok l) (h2 : fH l = .err k e) (hk : k < l.length) : jM s = (⟨[], [], []⟩, l[k].pos, e) := by unfold jM; rw [h]; dsimp only; rw [h2]; dsimp only; rw [bG hk]
theorem pT {s : List UInt8} {l : List Tok} {x : cK} {k : Nat} (h : iH s = .ok l) (h2 : fH l = .ok x k) : jM s = (x, s.length, 0) := by unfold jM; rw [h]; dsimp only; rw [h2]
end
section
def bN.Few (k : Nat) : bN aH → Prop
 | .ok x k' => x.nodes + 3 * k ≤ 3 * k'
 | .err _ _ => True
theorem aK2 (op num : Int) (s : ByteArray) (x : aH) : (aH.mk op num s [x]).nodes = 2 + x.nodes := by simp [aH.nodes, cZ]; omega
theorem aKf (op num : Int) (s : ByteArray) (x y : aH) : (aH.mk op num s [x, y]).nodes = 3 + x.nodes + y.nodes := by simp [aH.nodes, cZ]; omega
theorem qH (op num : Int) (s : ByteArray) : (aH.mk op num s []).nodes = 1 := by simp [aH.nodes, cZ]
theorem aBv {l : List Tok} {sub : Nat → bN aH} {level : Nat} (hs : ∀ k, (sub k).Few k) : ∀ (n : Nat) (x : aH) (k j : Nat), x.nodes + 3 * j ≤ 3 * k → (fR l sub level n x k).Few j
 | 0, x, k, j, h => by unfold fR; exact h
 | n + 1, x, k, j, h => by
  unfold fR
  split
  ·have h1 := hs (k + 1)
   cases hr : sub (k + 1) with
   | ok y k' =>
    rw [hr] at h1
    have h2 : y.nodes + 3 * (k + 1) ≤ 3 * k' := h1
    exact aBv hs n _ k' j (by rw [aKf]; omega)
   | err a e => trivial
  ·exact h
theorem uE {l : List Tok} {single : Nat → bN aH} (hs : ∀ k, (single k).Few k) : ∀ (j k : Nat), (gS l single j k).Few k
 | 0, k => by unfold gS; exact hs k
 | j + 1, k => by
  unfold gS
  have h1 := uE (l := l) hs j k
  cases hr : gS l single j k with
  | ok x k' => rw [hr] at h1; exact aBv (l := l) (fun k => uE (l := l) hs j k) _ _ _ _ h1
  | err a e => trivial
theorem rH {l : List Tok} : ∀ (d k : Nat), (bL l d k).Few k
 | 0, k => by
  unfold bL
  split
  ·show aH.nodes _ + 3 * k ≤ 3 * (k + 1); rw [qH]; omega
  ·split
   ·show aH.nodes _ + 3 * k ≤ 3 * (k + 1); rw [qH]; omega
   ·split <;> trivial
 | d + 1, k => by
  have h1 := rH (l := l) d (k + 1)
  have hn : ∀ op, (aKc op (bL l d (k + 1))).Few k := by
   intro op
   cases hr : bL l d (k + 1) with
   | ok x k' => rw [hr] at h1; have h2 : x.nodes + 3 * (k + 1) ≤ 3 * k' := h1; show aH.nodes _ + 3 * k ≤ 3 * k'; rw [aK2]; omega
   | err a e => trivial
  have h2 := uE (l := l) (single := bL l d) (fun k => rH (l := l) d k) 5 (k + 1)
  unfold bL
  split
  ·show aH.nodes _ + 3 * k ≤ 3 * (k + 1); rw [qH]; omega
  ·split
   ·show aH.nodes _ + 3 * k ≤ 3 * (k + 1); rw [qH]; omega
   ·split
    ·exact hn 3
    ·split
     ·exact hn 4
     ·split
      ·cases hr : gS l (bL l d) 5 (k + 1) with
       | ok x k' =>
        rw [hr] at h2
        have h3 : x.nodes + 3 * (k + 1) ≤ 3 * k' := h2
        change (if cS l k' [41] then bN.ok x (k' + 1) else bN.err k' 4).Few k
        by_cases hs : cS l k' [41] = true
        ·rw [if_pos hs]; show x.nodes + 3 * k ≤ 3 * (k' + 1); omega
        ·rw [if_neg hs]; trivial
       | err a e => trivial
      ·trivial
theorem aJr (l : List Tok) (k : Nat) : (lJ l k).Few k := uE (l := l) (single := bL l 24) (fun k => rH (l := l) 24 k) 5 k
end
section
theorem aFh (s : List UInt8) : (jM s).1.small 1000000000 := by
 have hz : (⟨[], [], []⟩ : cK).small 1000000000 := ⟨by simp, by simp, by simp, by simp⟩
 cases h : iH s with
 | err p e => rw [aA9 h]; exact hz
 | ok l =>
  have hok := TOk.of h
  cases h2 : fH l with
  | ok x k => rw [pT h h2]; exact yV (N := 1000000000) hok.last (by decide) (by have := hok.len; omega) (fun k x k9 hk h => by have h1 := aJr l k; have h2 := kY hok.last hk; rw [h] at h1 h2; have h3 : x.nodes + 3 * k ≤ 3 * k9 := h1; have h4 := h2.2; have := hok.len; omega) h2
  | err k e =>
   have hb : k < l.length := by have h9 : (fH l).At l 0 := aD9 hok.last _ _ _ hok.last.1; rw [h2] at h9; exact h9.2.1
   rw [aBe h h2 hb]; exact hz
end
section
theorem hO {p : cK} (h : sY p) (gs : List aI) (ms : List cL) (fs : List bS) (hg : gs = p.globals ∨ gs = []) (hm : ms = p.mutexes ∨ ms = []) (hf : fs = p.funcs ∨ fs = []) :
  (⟨gs, ms, fs⟩ : cK).sane ∧ (⟨gs, ms, fs⟩ : cK).wt ≤ 100000 ∧ vI ⟨gs, ms, fs⟩ = cR ⟨gs, ms, fs⟩ ∧ (cR ⟨gs, ms, fs⟩).length ≤ 75000 := by
 have hfa := h.facts
 have hs : (⟨gs, ms, fs⟩ : cK).sane := bF6 hg hm hf hfa.sane
 have hfo : nY ⟨gs, ms, fs⟩ = true := bF7 hg hm hf hfa.form
 have hl : (cR ⟨gs, ms, fs⟩).length ≤ 75000 := by
  have h1 := hfa.len
  unfold cR at h1 ⊢
  simp only [length_append] at h1 ⊢
  rcases hg with rfl | rfl <;> rcases hm with rfl | rfl <;> rcases hf with rfl | rfl <;> (try simp only [List.map_nil, List.flatten_nil, length_nil]) <;> omega
 have ht : ((iA ⟨gs, ms, fs⟩).map fF.toks).flatten.length ≤ 4000 := by
  have h1 := aJd h
  simp only [iA, List.map_append, List.flatten_append, length_append] at h1 ⊢
  rcases hg with rfl | rfl <;> rcases hm with rfl | rfl <;> rcases hf with rfl | rfl <;> (try simp only [List.map_nil, List.flatten_nil, length_nil]) <;> omega
 refine ⟨hs, ?_, by unfold vI; rw [aPf hs hfo (by omega) ht]; rfl, hl⟩
 have h1 := hfa.wt
 unfold cK.wt at h1 ⊢
 rcases hg with rfl | rfl <;> rcases hm with rfl | rfl <;> rcases hf with rfl | rfl <;> (try simp only [List.map_nil, List.sum_nil, length_nil]) <;> omega
theorem bF5 {p : cK} (h : sY p) : (jM (cR ⟨[], [], p.funcs⟩ ++ cR ⟨[], p.mutexes, []⟩ ++ cR ⟨p.globals, [], []⟩)).1 = p ∧ (jM (cR ⟨[], [], p.funcs⟩ ++ cR ⟨[], p.mutexes, []⟩ ++ cR ⟨p.globals, [], []⟩)).2.2 = 0 := by
 have hfa := h.facts
 obtain ⟨h1, h2, h3, h4⟩ := aHh hfa.sane hfa.form
 obtain ⟨⟨a1, a2, a3⟩, ⟨b1, b2, b3⟩, c1, c2, c3⟩ := aLo p.globals p.mutexes p.funcs
 obtain ⟨d1, d2, d3⟩ := aD7 (p.funcs.map .fn) (p.mutexes.map .mtx ++ p.globals.map .glob)
 obtain ⟨e1, e2, e3⟩ := aD7 (p.mutexes.map .mtx) (p.globals.map .glob)
 have ht := aJd h
 have hlen := hfa.len
 simp only [iA, List.map_append, List.flatten_append, length_append] at ht
 have hs : cR ⟨[], [], p.funcs⟩ ++ cR ⟨[], p.mutexes, []⟩ ++ cR ⟨p.globals, [], []⟩ = ((p.funcs.map fF.fn ++ (p.mutexes.map fF.mtx ++ p.globals.map fF.glob)).map fF.text).flatten := by
  rw [wC, wC, wC]
  simp [iA]
 have hl : (cR ⟨[], [], p.funcs⟩ ++ cR ⟨[], p.mutexes, []⟩ ++ cR ⟨p.globals, [], []⟩).length ≤ 262144 := by
  have q1 := (hO h [] [] p.funcs (.inr rfl) (.inr rfl) (.inl rfl)).2.2.2
  have q2 := (hO h [] p.mutexes [] (.inr rfl) (.inl rfl) (.inr rfl)).2.2.2
  have q3 := (hO h p.globals [] [] (.inl rfl) (.inr rfl) (.inr rfl)).2.2.2
  simp only [length_append]; omega
 obtain ⟨L, k, q1, q2, q3⟩ := aFw hs (fun d hd => h1 d (by
  simp only [iA, mem_append] at hd ⊢
  rcases hd with hd | hd | hd
  ·exact .inr (.inr hd)
  ·exact .inr (.inl hd)
  ·exact .inl hd)) hl (by simp only [List.map_append, List.flatten_append, length_append]; omega) (by omega) (by omega) (by omega)
 have hfold : ((p.funcs.map fF.fn ++ (p.mutexes.map fF.mtx ++ p.globals.map fF.glob)).foldl fF.add ⟨[], [], []⟩) = p := by
  rw [List.foldl_append, List.foldl_append, aNx, aKl, aG5]; rfl
 rw [hfold] at q3
 rw [pT q1 q3]
 exact ⟨rfl, rfl⟩
end
section
open Go.RowKit
theorem bF8 {P : Program} {ops : Array Oper} {Z : List Nat} {fuel : Nat} {listed : Array Bool} {n : Nat} {T : List Nat} {s : Sto} {ts : List (Nat × AT)} {K : AS → Prop} (i : Nat) {u t : AT} (hl : look ts i = some u) (hw : Wk u t) (h : lD P ops Z fuel listed ⟨n, T, s, (i, t) :: ts⟩ K) : lD P ops Z fuel listed ⟨n, T, s, ts⟩ K := aO1 (aN9 (st := ⟨n, T, s, ts⟩) i hl hw) h
end
section
open Go.RowKit
theorem gJ {s : ByteArray} {l : List UInt8} (h : s = bytes l) : (s.toList == l) = true := by subst h; rw [ByteArray.toList_eq]; simp [bytes]
theorem fI {s : ByteArray} {l : List UInt8} (h : s ≠ bytes l) : (s.toList == l) = false := by
 rw [beq_eq_false_iff_ne, ByteArray.toList_eq]; intro e; apply h; apply sI; rw [e]; simp [bytes]
theorem aDq (s : ByteArray) (w : World) : Calls Tryz.prog 214 #[.string s] w fun e w' => e = .returned (.tuple #[.int .i64 (binOp s).1, .int .i64 (binOp s).2]) ∧ w = w' := by
 go_enter Tryz.func214, Tryz.ntmps214
 by_cases h0 : s = bytes [124, 124]
 ·have g0 : (s.toList == [124, 124]) = true := gJ h0
  have hb : binOp s = (17, 1) := by rw [binOp, if_pos h0]
  rw [hb]
  clear hb h0
  go_wp2_with fail
  refine bodyPost_ret (v := .tuple #[.int .i64 17, .int .i64 1]) (by simp [results, Tryz.results214, go_sem]) rfl ?_
  exact ⟨rfl, rfl⟩
 have g0 : (s.toList == [124, 124]) = false := fI h0
 by_cases h1 : s = bytes [38, 38]
 ·have g1 : (s.toList == [38, 38]) = true := gJ h1
  have hb : binOp s = (16, 2) := by rw [binOp, if_neg h0, if_pos h1]
  rw [hb]
  clear hb h0 h1
  go_wp2_with fail
  refine bodyPost_ret (v := .tuple #[.int .i64 16, .int .i64 2]) (by simp [results, Tryz.results214, go_sem]) rfl ?_
  exact ⟨rfl, rfl⟩
 have g1 : (s.toList == [38, 38]) = false := fI h1
 by_cases h2 : s = bytes [61, 61]
 ·have g2 : (s.toList == [61, 61]) = true := gJ h2
  have hb : binOp s = (14, 3) := by rw [binOp, if_neg h0, if_neg h1, if_pos h2]
  rw [hb]
  clear hb h0 h1 h2
  go_wp2_with fail
  refine bodyPost_ret (v := .tuple #[.int .i64 14, .int .i64 3]) (by simp [results, Tryz.results214, go_sem]) rfl ?_
  exact ⟨rfl, rfl⟩
 have g2 : (s.toList == [61, 61]) = false := fI h2
 by_cases h3 : s = bytes [33, 61]
 ·have g3 : (s.toList == [33, 61]) = true := gJ h3
  have hb : binOp s = (15, 3) := by rw [binOp, if_neg h0, if_neg h1, if_neg h2, if_pos h3]
  rw [hb]
  clear hb h0 h1 h2 h3
  go_wp2_with fail
  refine bodyPost_ret (v := .tuple #[.int .i64 15, .int .i64 3]) (by simp [results, Tryz.results214, go_sem]) rfl ?_
  exact ⟨rfl, rfl⟩
 have g3 : (s.toList == [33, 61]) = false := fI h3
 by_cases h4 : s = bytes [60]
 ·have g4 : (s.toList == [60]) = true := gJ h4
  have hb : binOp s = (10, 3) := by rw [binOp, if_neg h0, if_neg h1, if_neg h2, if_neg h3, if_pos h4]
  rw [hb]
  clear hb h0 h1 h2 h3 h4
  go_wp2_with fail
  refine bodyPost_ret (v := .tuple #[.int .i64 10, .int .i64 3]) (by simp [results, Tryz.results214, go_sem]) rfl ?_
  exact ⟨rfl, rfl⟩
 have g4 : (s.toList == [60]) = false := fI h4
 by_cases h5 : s = bytes [60, 61]
 ·have g5 : (s.toList == [60, 61]) = true := gJ h5
  have hb : binOp s = (11, 3) := by rw [binOp, if_neg h0, if_neg h1, if_neg h2, if_neg h3, if_neg h4, if_pos h5]
  rw [hb]
  clear hb h0 h1 h2 h3 h4 h5
  go_wp2_with fail
  refine bodyPost_ret (v := .tuple #[.int .i64 11, .int .i64 3]) (by simp [results, Tryz.results214, go_sem]) rfl ?_
  exact ⟨rfl, rfl⟩
 have g5 : (s.toList == [60, 61]) = false := fI h5
 by_cases h6 : s = bytes [62]
 ·have g6 : (s.toList == [62]) = true := gJ h6
  have hb : binOp s = (12, 3) := by rw [binOp, if_neg h0, if_neg h1, if_neg h2, if_neg h3, if_neg h4, if_neg h5, if_pos h6]
  rw [hb]
  clear hb h0 h1 h2 h3 h4 h5 h6
  go_wp2_with fail
  refine bodyPost_ret (v := .tuple #[.int .i64 12, .int .i64 3]) (by simp [results, Tryz.results214, go_sem]) rfl ?_
  exact ⟨rfl, rfl⟩
 have g6 : (s.toList == [62]) = false := fI h6
 by_cases h7 : s = bytes [62, 61]
 ·have g7 : (s.toList == [62, 61]) = true := gJ h7
  have hb : binOp s = (13, 3) := by rw [binOp, if_neg h0, if_neg h1, if_neg h2, if_neg h3, if_neg h4, if_neg h5, if_neg h6, if_pos h7]
  rw [hb]
  clear hb h0 h1 h2 h3 h4 h5 h6 h7
  go_wp2_with fail
  refine bodyPost_ret (v := .tuple #[.int .i64 13, .int .i64 3]) (by simp [results, Tryz.results214, go_sem]) rfl ?_
  exact ⟨rfl, rfl⟩
 have g7 : (s.toList == [62, 61]) = false := fI h7
 by_cases h8 : s = bytes [43]
 ·have g8 : (s.toList == [43]) = true := gJ h8
  have hb : binOp s = (8, 4) := by rw [binOp, if_neg h0, if_neg h1, if_neg h2, if_neg h3, if_neg h4, if_neg h5, if_neg h6, if_neg h7, if_pos h8]
  rw [hb]
  clear hb h0 h1 h2 h3 h4 h5 h6 h7 h8
  go_wp2_with fail
  refine bodyPost_ret (v := .tuple #[.int .i64 8, .int .i64 4]) (by simp [results, Tryz.results214, go_sem]) rfl ?_
  exact ⟨rfl, rfl⟩
 have g8 : (s.toList == [43]) = false := fI h8
 by_cases h9 : s = bytes [45]
 ·have g9 : (s.toList == [45]) = true := gJ h9
  have hb : binOp s = (9, 4) := by rw [binOp, if_neg h0, if_neg h1, if_neg h2, if_neg h3, if_neg h4, if_neg h5, if_neg h6, if_neg h7, if_neg h8, if_pos h9]
  rw [hb]
  clear hb h0 h1 h2 h3 h4 h5 h6 h7 h8 h9
  go_wp2_with fail
  refine bodyPost_ret (v := .tuple #[.int .i64 9, .int .i64 4]) (by simp [results, Tryz.results214, go_sem]) rfl ?_
  exact ⟨rfl, rfl⟩
 have g9 : (s.toList == [45]) = false := fI h9
 by_cases h10 : s = bytes [42]
 ·have g10 : (s.toList == [42]) = true := gJ h10
  have hb : binOp s = (5, 5) := by rw [binOp, if_neg h0, if_neg h1, if_neg h2, if_neg h3, if_neg h4, if_neg h5, if_neg h6, if_neg h7, if_neg h8, if_neg h9, if_pos h10]
  rw [hb]
  clear hb h0 h1 h2 h3 h4 h5 h6 h7 h8 h9 h10
  go_wp2_with fail
  refine bodyPost_ret (v := .tuple #[.int .i64 5, .int .i64 5]) (by simp [results, Tryz.results214, go_sem]) rfl ?_
  exact ⟨rfl, rfl⟩
 have g10 : (s.toList == [42]) = false := fI h10
 by_cases h11 : s = bytes [47]
 ·have g11 : (s.toList == [47]) = true := gJ h11
  have hb : binOp s = (6, 5) := by rw [binOp, if_neg h0, if_neg h1, if_neg h2, if_neg h3, if_neg h4, if_neg h5, if_neg h6, if_neg h7, if_neg h8, if_neg h9, if_neg h10, if_pos h11]
  rw [hb]
  clear hb h0 h1 h2 h3 h4 h5 h6 h7 h8 h9 h10 h11
  go_wp2_with fail
  refine bodyPost_ret (v := .tuple #[.int .i64 6, .int .i64 5]) (by simp [results, Tryz.results214, go_sem]) rfl ?_
  exact ⟨rfl, rfl⟩
 have g11 : (s.toList == [47]) = false := fI h11
 by_cases h12 : s = bytes [37]
 ·have g12 : (s.toList == [37]) = true := gJ h12
  have hb : binOp s = (7, 5) := by rw [binOp, if_neg h0, if_neg h1, if_neg h2, if_neg h3, if_neg h4, if_neg h5, if_neg h6, if_neg h7, if_neg h8, if_neg h9, if_neg h10, if_neg h11, if_pos h12]
  rw [hb]
  clear hb h0 h1 h2 h3 h4 h5 h6 h7 h8 h9 h10 h11 h12
  go_wp2_with fail
  refine bodyPost_ret (v := .tuple #[.int .i64 7, .int .i64 5]) (by simp [results, Tryz.results214, go_sem]) rfl ?_
  exact ⟨rfl, rfl⟩
 have g12 : (s.toList == [37]) = false := fI h12
 have hb : binOp s = (0, 0) := by rw [binOp, if_neg h0, if_neg h1, if_neg h2, if_neg h3, if_neg h4, if_neg h5, if_neg h6, if_neg h7, if_neg h8, if_neg h9, if_neg h10, if_neg h11, if_neg h12]
 rw [hb]
 clear hb h0 h1 h2 h3 h4 h5 h6 h7 h8 h9 h10 h11 h12
 go_wp2_with fail
 refine bodyPost_ret (v := .tuple #[.int .i64 0, .int .i64 0]) (by simp [results, Tryz.results214, go_sem]) rfl ?_
 exact ⟨rfl, rfl⟩
end
end Go.Proofs.YteiefdnbdjnoiaaGreatDoor
