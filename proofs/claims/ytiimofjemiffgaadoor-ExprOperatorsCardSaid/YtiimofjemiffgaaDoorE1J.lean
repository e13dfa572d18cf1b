import Derived.Test.YtiimofjemiffgaaDoorA3J
import Derived.Test.YtiimofjemiffgaaDoorMExprJ
import Derived.Test.YtiimofjemiffgaaDoorE0J
set_option linter.unusedVariables false
set_option linter.unusedSimpArgs false
namespace Go.Proofs.YtiimofjemiffgaaDoor
open Go.RowKit
structure PS (l : List Tok) (b off tc P : Nat) (H : List Nat) (k d e : Nat) (w : World) : Prop where
 mem : P ∈ H
 lt : P < w.heap.size
 free : ∀ o, w.frozen? ⟨P, o, none⟩ = false
 c0 : w.cell? ⟨P, 0, none⟩ = some (.slice (some ⟨b, off, none⟩) l.length tc)
 c1 : w.cell? ⟨P, 1, none⟩ = some (.int .i64 k)
 c2 : w.cell? ⟨P, 2, none⟩ = some (.int .i64 d)
 c3 : w.cell? ⟨P, 3, none⟩ = some (.int .i64 e)
 row : ∀ j u, (toksCells l)[j]? = some u → (hideL H w).cell? ⟨b, off + j, none⟩ = some u
 big : l.length ≤ tc ∧ l.length ≤ 1000000
theorem PS.keep {l : List Tok} {b off tc P k d e : Nat} {H L : List Nat} {w w' : World} (h : PS l b off tc P H k d e w) (hk : Keep L w w') (hs : ∀ x, x ∈ L → x ∈ H) (hn : P ∉ L) : PS l b off tc P H k d e w' := by
 have hh := (hk.mono hs).hide
 refine ⟨h.mem, Nat.lt_of_lt_of_le h.lt hk.size, fun o => by rw [hk.frozen h.lt hn]; exact h.free o, by rw [hk.cell h.lt hn]; exact h.c0, by rw [hk.cell h.lt hn]; exact h.c1, by rw [hk.cell h.lt hn]; exact h.c2, by rw [hk.cell h.lt hn]; exact h.c3, fun j u hj => ?_, h.big⟩
 have h1 := h.row j u hj
 rw [hh.cell (cell_lt h1)]; exact h1
theorem PS.below {l : List Tok} {b off tc P k d e : Nat} {H : List Nat} {w w' : World} (h : PS l b off tc P H k d e w) (hb : Below w.heap.size w w') : PS l b off tc P H k d e w' :=
 h.keep (L := []) (Keep.of_below hb) (fun _ hx => by simp at hx) (by simp)
theorem PS.drewN {l : List Tok} {b off tc P k d e : Nat} {H : List Nat} {w : World} (h : PS l b off tc P H k d e w) (n : Nat) : PS l b off tc P H k d e (w.drewN n) :=
 h.keep (L := []) ((Keep.refl _ _).drewN n) (fun _ hx => by simp at hx) (by simp)
theorem PS.set {l : List Tok} {b off tc P k d e k' d' e' : Nat} {H : List Nat} {w w' : World} (h : PS l b off tc P H k d e w) (hk : Keep [P] w w') (hf : ∀ o, w'.frozen? ⟨P, o, none⟩ = false) (h0 : w'.cell? ⟨P, 0, none⟩ = some (.slice (some ⟨b, off, none⟩) l.length tc))
  (h1 : w'.cell? ⟨P, 1, none⟩ = some (.int .i64 k')) (h2 : w'.cell? ⟨P, 2, none⟩ = some (.int .i64 d')) (h3 : w'.cell? ⟨P, 3, none⟩ = some (.int .i64 e')) : PS l b off tc P H k' d' e' w' := by
 have hh := (hk.mono (H' := H) (by intro y hy; simp at hy; subst hy; exact h.mem)).hide
 exact ⟨h.mem, Nat.lt_of_lt_of_le h.lt hk.size, hf, h0, h1, h2, h3, fun j u hj => by have h1 := h.row j u hj; rw [hh.cell (cell_lt h1)]; exact h1, h.big⟩
theorem PS.tok {l : List Tok} {b off tc P k d e : Nat} {H : List Nat} {w : World} (h : PS l b off tc P H k d e w) {j : Nat} (hj : j < l.length) :
  w.cell? ⟨b, off + j * 4, none⟩ = some (.int .i64 (tokAt l j).kind) ∧ w.cell? ⟨b, off + j * 4 + 1, none⟩ = some (.string (tokAt l j).text) ∧ w.cell? ⟨b, off + j * 4 + 2, none⟩ = some (.int .i64 (tokAt l j).num) ∧ w.cell? ⟨b, off + j * 4 + 3, none⟩ = some (.int .i64 (tokAt l j).pos) ∧ b ∉ H ∧ b < w.heap.size := by
 obtain ⟨h1, h2, h3, h4⟩ := tokRow h.row j hj
 rw [tokAt_lt hj]
 obtain ⟨a1, a2⟩ := hideL_cell h1
 exact ⟨a1, (hideL_cell h2).1, (hideL_cell h3).1, (hideL_cell h4).1, a2, cell_lt a1⟩
theorem PS.new {l : List Tok} {b off tc P k d e : Nat} {H : List Nat} {w : World} (h : PS l b off tc P H k d e w) (o : Obj) : PS l b off tc P (w.heap.size :: H) k d e (w.alloc o) := by
 have hb := h.below ((Below.refl w.heap.size w).alloc (Nat.le_refl _) o)
 refine ⟨List.mem_cons_of_mem _ h.mem, hb.lt, hb.free, hb.c0, hb.c1, hb.c2, hb.c3, fun j u hj => ?_, h.big⟩
 obtain ⟨h1, h2⟩ := hideL_cell (h.row j u hj)
 have hl : b < w.heap.size := cell_lt h1
 have h2' : b ∉ H := h2
 rw [hideL_cell_ne _ _ _ (by simp only [List.mem_cons, not_or]; exact ⟨by omega, h2'⟩)]
 rw [((Below.refl w.heap.size w).alloc (Nat.le_refl _) o).cell hl]; exact h1
theorem PS.drop {l : List Tok} {b off tc P k d e B : Nat} {H : List Nat} {w : World} (h : PS l b off tc P (B :: H) k d e w) (hm : P ∈ H) : PS l b off tc P H k d e w :=
 ⟨hm, h.lt, h.free, h.c0, h.c1, h.c2, h.c3, fun j u hj => hideL_sub (fun x hx => List.mem_cons_of_mem _ hx) (h.row j u hj), h.big⟩
def QuietOk (v : Value) (w : World) (e : Ending) (w' : World) : Prop := e = .returned v ∧ ∃ n, w' = w.drewN n
set_option maxRecDepth 100000 in
set_option maxHeartbeats 1600000 in
theorem is_ps (s : List UInt8) (l : List Tok) (b off tc P k d e : Nat) (H : List Nat) (w : World) (h : PS l b off tc P H k d e w) (hk : k < l.length) :
  Calls Tryd.prog 73 #[.pointer (some ⟨P, 0, none⟩), .string (bytes s)] w (QuietOk (.bool (signAt l k s)) w) := by
 obtain ⟨q1, q2, q3, q4, hbH, hbl⟩ := h.tok hk
 have hbig := h.big
 have h0 := h.c0
 have h1 := h.c1
 have hlen : (k : Int) < l.length := by omega
 obtain ⟨t, ht⟩ : ∃ t, t = tokAt l k := ⟨_, rfl⟩
 unfold signAt
 rw [← ht] at q1 q2 q3 q4 ⊢
 obtain ⟨n, hn⟩ : ∃ n, n = l.length := ⟨_, rfl⟩
 rw [← hn] at h0 hlen hbig
 clear ht h hn
 go_enter Tryd.func73, Tryd.ntmps73
 go_wp2_with fail
 by_cases hkd : t.kind = 4
 ·have hkb : ((t.kind : Int) == 4) = true := by simp; omega
  by_cases htx : t.text = bytes s
  ·have htb := strEq_true htx
   go_quiet (fail)
   go_wp2_with fail
   go_ret
   exact ⟨by rw [decide_eq_true hkd, decide_eq_true htx]; rfl, _, rfl⟩
  ·have htb := strEq_false htx
   go_quiet (fail)
   go_wp2_with fail
   go_ret
   exact ⟨by rw [decide_eq_true hkd, decide_eq_false htx]; rfl, _, rfl⟩
 ·have hkb : ((t.kind : Int) == 4) = false := by rw [beq_eq_false_iff_ne]; omega
  go_quiet (fail)
  go_wp2_with fail
  go_ret
  exact ⟨by rw [decide_eq_false hkd]; rfl, _, rfl⟩
theorem ps_fin {l : List Tok} {b off tc P k d e : Nat} {H : List Nat} {w wk w' : World} (hs : PS l b off tc P (w.heap.size :: H) k d e wk) (hP : P ∈ H) (hPl : P < w.heap.size) (hk : Keep [P] w wk) (hw : Keep [w.heap.size] wk w') : PS l b off tc P H k d e w' ∧ Keep [P] w w' := by
 refine ⟨(hs.keep hw (by intro y hy; simp at hy; subst hy; simp) (by simp; omega)).drop hP, ?_⟩
 refine ⟨hw.os.trans hk.os, hw.tape.trans hk.tape, hw.output.trans hk.output, Nat.le_trans hk.size hw.size, fun k hkl hn => ?_⟩
 rw [hw.block k (Nat.lt_of_lt_of_le hkl hk.size) (by simp; omega)]; exact hk.block k hkl hn
theorem PS.at {l : List Tok} {b off tc P k d e : Nat} {H : List Nat} {w : World} (h : PS l b off tc P H k d e w) (k' : Nat) : PS l b off tc P H k' d e (w.setCell ⟨P, 1, none⟩ (.int .i64 k')) := by
 have hl := h.lt
 have h0 := h.c0
 have h1 := h.c1
 have h2 := h.c2
 have h3 := h.c3
 have hf := h.free
 exact h.set ((Keep.refl _ _).setCell (.inl (by simp)) _) (fun o => by have := hf o; go_simp) (by go_simp) (by go_simp) (by go_simp) (by go_simp)
theorem PS.dep {l : List Tok} {b off tc P k d e : Nat} {H : List Nat} {w : World} (h : PS l b off tc P H k d e w) (d' : Nat) : PS l b off tc P H k d' e (w.setCell ⟨P, 2, none⟩ (.int .i64 d')) := by
 have hl := h.lt
 have h0 := h.c0
 have h1 := h.c1
 have h2 := h.c2
 have h3 := h.c3
 have hf := h.free
 exact h.set ((Keep.refl _ _).setCell (.inl (by simp)) _) (fun o => by have := hf o; go_simp) (by go_simp) (by go_simp) (by go_simp) (by go_simp)
theorem PS.er {l : List Tok} {b off tc P k d e : Nat} {H : List Nat} {w : World} (h : PS l b off tc P H k d e w) (e' : Nat) : PS l b off tc P H k d e' (w.setCell ⟨P, 3, none⟩ (.int .i64 e')) := by
 have hl := h.lt
 have h0 := h.c0
 have h1 := h.c1
 have h2 := h.c2
 have h3 := h.c3
 have hf := h.free
 exact h.set ((Keep.refl _ _).setCell (.inl (by simp)) _) (fun o => by have := hf o; go_simp) (by go_simp) (by go_simp) (by go_simp) (by go_simp)
theorem keepP {P : Nat} {a w : World} (h : Keep [P] a w) (o : Nat) (u : Value) : Keep [P] a (w.setCell ⟨P, o, none⟩ u) := h.setCell (.inl (by simp)) _
set_option maxRecDepth 100000 in
set_option maxHeartbeats 1600000 in
theorem fail_ps (er : Nat) (l : List Tok) (b off tc P k d e : Nat) (H : List Nat) (w : World) (h : PS l b off tc P H k d e w) :
  Calls Tryd.prog 76 #[.pointer (some ⟨P, 0, none⟩), .int .i64 er] w fun en w' => en = .returned (.agg #[.int .i64 0, .int .i64 0, .string ⟨#[]⟩, .slice none 0 0]) ∧ PS l b off tc P H k d er w' ∧ Keep [P] w w' := by
 have hl := h.lt
 have h3 := h.c3
 have hf := h.free 3
 have HS := Lib.hid h
 clear h
 go_enter Tryd.func76, Tryd.ntmps76
 go_wp2_with fail
 refine bodyPost_ret (v := .agg #[.int .i64 0, .int .i64 0, .string ⟨#[]⟩, .slice none 0 0]) (by simp [results, Tryd.results76, go_sem]) rfl ?_
 exact ⟨rfl, (HS.out.er er).below ((Below.refl _ _).alloc (Nat.le_refl _) _), (keepP (Keep.refl _ _) _ _).alloc _⟩
set_option maxRecDepth 100000 in
set_option maxHeartbeats 1600000 in
theorem enter_ps (l : List Tok) (b off tc P k d e : Nat) (H : List Nat) (w : World) (h : PS l b off tc P H k d e w) (hd : d ≤ 24) (hk : k < l.length) :
  Calls Tryd.prog 92 #[.pointer (some ⟨P, 0, none⟩)] w fun en w' => Keep [P] w w' ∧ ((d = 24 ∧ en = .returned (.bool false) ∧ PS l b off tc P H k d 3 w') ∨ (d < 24 ∧ en = .returned (.bool true) ∧ PS l b off tc P H (k + 1) (d + 1) e w')) := by
 have hl := h.lt
 have h1 := h.c1
 have h2 := h.c2
 have h3 := h.c3
 have hf1 := h.free 1
 have hf2 := h.free 2
 have hf3 := h.free 3
 have hbig := h.big.2
 have HS := Lib.hid h
 clear h
 have hw1 : IntKind.i64.wrap ((k : Int) + 1) = ((k + 1 : Nat) : Int) := by rw [show (k : Int) + 1 = ((k + 1 : Nat) : Int) by omega]; exact IntWalk.i64_in _ (by omega)
 have hw2 : IntKind.i64.wrap ((d : Int) + 1) = ((d + 1 : Nat) : Int) := by rw [show (d : Int) + 1 = ((d + 1 : Nat) : Int) by omega]; exact IntWalk.i64_in _ (by omega)
 by_cases hd24 : d = 24
 ·subst hd24
  go_enter Tryd.func92, Tryd.ntmps92
  go_wp2_with fail
  go_ret
  exact ⟨keepP (Keep.refl _ _) _ _, .inl ⟨by simp, rfl, HS.out.er 3⟩⟩
 ·have hdb : ((d : Int) == 24) = false := by rw [beq_eq_false_iff_ne]; omega
  go_enter Tryd.func92, Tryd.ntmps92
  go_wp2_with fail
  go_ret
  exact ⟨keepP (keepP (Keep.refl _ _) _ _) _ _, .inr ⟨by omega, rfl, (HS.out.dep (d + 1)).at (k + 1)⟩⟩
end Go.Proofs.YtiimofjemiffgaaDoor
namespace Go.Proofs.YtiimofjemiffgaaDoor
open Go.RowKit
theorem strL_true {s : ByteArray} {l : List UInt8} (h : s = bytes l) : (s.toList == l) = true := by subst h; rw [ByteArray.toList_eq]; simp [bytes]
theorem strL_false {s : ByteArray} {l : List UInt8} (h : s ≠ bytes l) : (s.toList == l) = false := by
 rw [beq_eq_false_iff_ne, ByteArray.toList_eq]; intro e; apply h; apply bytes_ext; rw [e]; simp [bytes]
set_option maxRecDepth 100000 in
set_option maxHeartbeats 1600000 in
theorem binaryOp_any (s : ByteArray) (w : World) : Calls Tryd.prog 51 #[.string s] w fun e w' => e = .returned (.tuple #[.int .i64 (binOp s).1, .int .i64 (binOp s).2]) ∧ w = w' := by
 go_enter Tryd.func51, Tryd.ntmps51
 by_cases h0 : s = bytes [124, 124]
 ·have g0 : (s.toList == [124, 124]) = true := strL_true h0
  have hb : binOp s = (17, 1) := by rw [binOp, if_pos h0]
  rw [hb]
  clear hb h0
  go_wp2_with fail
  refine bodyPost_ret (v := .tuple #[.int .i64 17, .int .i64 1]) (by simp [results, Tryd.results51, go_sem]) rfl ?_
  exact ⟨rfl, rfl⟩
 have g0 : (s.toList == [124, 124]) = false := strL_false h0
 by_cases h1 : s = bytes [38, 38]
 ·have g1 : (s.toList == [38, 38]) = true := strL_true h1
  have hb : binOp s = (16, 2) := by rw [binOp, if_neg h0, if_pos h1]
  rw [hb]
  clear hb h0 h1
  go_wp2_with fail
  refine bodyPost_ret (v := .tuple #[.int .i64 16, .int .i64 2]) (by simp [results, Tryd.results51, go_sem]) rfl ?_
  exact ⟨rfl, rfl⟩
 have g1 : (s.toList == [38, 38]) = false := strL_false h1
 by_cases h2 : s = bytes [61, 61]
 ·have g2 : (s.toList == [61, 61]) = true := strL_true h2
  have hb : binOp s = (14, 3) := by rw [binOp, if_neg h0, if_neg h1, if_pos h2]
  rw [hb]
  clear hb h0 h1 h2
  go_wp2_with fail
  refine bodyPost_ret (v := .tuple #[.int .i64 14, .int .i64 3]) (by simp [results, Tryd.results51, go_sem]) rfl ?_
  exact ⟨rfl, rfl⟩
 have g2 : (s.toList == [61, 61]) = false := strL_false h2
 by_cases h3 : s = bytes [33, 61]
 ·have g3 : (s.toList == [33, 61]) = true := strL_true h3
  have hb : binOp s = (15, 3) := by rw [binOp, if_neg h0, if_neg h1, if_neg h2, if_pos h3]
  rw [hb]
  clear hb h0 h1 h2 h3
  go_wp2_with fail
  refine bodyPost_ret (v := .tuple #[.int .i64 15, .int .i64 3]) (by simp [results, Tryd.results51, go_sem]) rfl ?_
  exact ⟨rfl, rfl⟩
 have g3 : (s.toList == [33, 61]) = false := strL_false h3
 by_cases h4 : s = bytes [60]
 ·have g4 : (s.toList == [60]) = true := strL_true h4
  have hb : binOp s = (10, 3) := by rw [binOp, if_neg h0, if_neg h1, if_neg h2, if_neg h3, if_pos h4]
  rw [hb]
  clear hb h0 h1 h2 h3 h4
  go_wp2_with fail
  refine bodyPost_ret (v := .tuple #[.int .i64 10, .int .i64 3]) (by simp [results, Tryd.results51, go_sem]) rfl ?_
  exact ⟨rfl, rfl⟩
 have g4 : (s.toList == [60]) = false := strL_false h4
 by_cases h5 : s = bytes [60, 61]
 ·have g5 : (s.toList == [60, 61]) = true := strL_true h5
  have hb : binOp s = (11, 3) := by rw [binOp, if_neg h0, if_neg h1, if_neg h2, if_neg h3, if_neg h4, if_pos h5]
  rw [hb]
  clear hb h0 h1 h2 h3 h4 h5
  go_wp2_with fail
  refine bodyPost_ret (v := .tuple #[.int .i64 11, .int .i64 3]) (by simp [results, Tryd.results51, go_sem]) rfl ?_
  exact ⟨rfl, rfl⟩
 have g5 : (s.toList == [60, 61]) = false := strL_false h5
 by_cases h6 : s = bytes [62]
 ·have g6 : (s.toList == [62]) = true := strL_true h6
  have hb : binOp s = (12, 3) := by rw [binOp, if_neg h0, if_neg h1, if_neg h2, if_neg h3, if_neg h4, if_neg h5, if_pos h6]
  rw [hb]
  clear hb h0 h1 h2 h3 h4 h5 h6
  go_wp2_with fail
  refine bodyPost_ret (v := .tuple #[.int .i64 12, .int .i64 3]) (by simp [results, Tryd.results51, go_sem]) rfl ?_
  exact ⟨rfl, rfl⟩
 have g6 : (s.toList == [62]) = false := strL_false h6
 by_cases h7 : s = bytes [62, 61]
 ·have g7 : (s.toList == [62, 61]) = true := strL_true h7
  have hb : binOp s = (13, 3) := by rw [binOp, if_neg h0, if_neg h1, if_neg h2, if_neg h3, if_neg h4, if_neg h5, if_neg h6, if_pos h7]
  rw [hb]
  clear hb h0 h1 h2 h3 h4 h5 h6 h7
  go_wp2_with fail
  refine bodyPost_ret (v := .tuple #[.int .i64 13, .int .i64 3]) (by simp [results, Tryd.results51, go_sem]) rfl ?_
  exact ⟨rfl, rfl⟩
 have g7 : (s.toList == [62, 61]) = false := strL_false h7
 by_cases h8 : s = bytes [43]
 ·have g8 : (s.toList == [43]) = true := strL_true h8
  have hb : binOp s = (8, 4) := by rw [binOp, if_neg h0, if_neg h1, if_neg h2, if_neg h3, if_neg h4, if_neg h5, if_neg h6, if_neg h7, if_pos h8]
  rw [hb]
  clear hb h0 h1 h2 h3 h4 h5 h6 h7 h8
  go_wp2_with fail
  refine bodyPost_ret (v := .tuple #[.int .i64 8, .int .i64 4]) (by simp [results, Tryd.results51, go_sem]) rfl ?_
  exact ⟨rfl, rfl⟩
 have g8 : (s.toList == [43]) = false := strL_false h8
 by_cases h9 : s = bytes [45]
 ·have g9 : (s.toList == [45]) = true := strL_true h9
  have hb : binOp s = (9, 4) := by rw [binOp, if_neg h0, if_neg h1, if_neg h2, if_neg h3, if_neg h4, if_neg h5, if_neg h6, if_neg h7, if_neg h8, if_pos h9]
  rw [hb]
  clear hb h0 h1 h2 h3 h4 h5 h6 h7 h8 h9
  go_wp2_with fail
  refine bodyPost_ret (v := .tuple #[.int .i64 9, .int .i64 4]) (by simp [results, Tryd.results51, go_sem]) rfl ?_
  exact ⟨rfl, rfl⟩
 have g9 : (s.toList == [45]) = false := strL_false h9
 by_cases h10 : s = bytes [42]
 ·have g10 : (s.toList == [42]) = true := strL_true h10
  have hb : binOp s = (5, 5) := by rw [binOp, if_neg h0, if_neg h1, if_neg h2, if_neg h3, if_neg h4, if_neg h5, if_neg h6, if_neg h7, if_neg h8, if_neg h9, if_pos h10]
  rw [hb]
  clear hb h0 h1 h2 h3 h4 h5 h6 h7 h8 h9 h10
  go_wp2_with fail
  refine bodyPost_ret (v := .tuple #[.int .i64 5, .int .i64 5]) (by simp [results, Tryd.results51, go_sem]) rfl ?_
  exact ⟨rfl, rfl⟩
 have g10 : (s.toList == [42]) = false := strL_false h10
 by_cases h11 : s = bytes [47]
 ·have g11 : (s.toList == [47]) = true := strL_true h11
  have hb : binOp s = (6, 5) := by rw [binOp, if_neg h0, if_neg h1, if_neg h2, if_neg h3, if_neg h4, if_neg h5, if_neg h6, if_neg h7, if_neg h8, if_neg h9, if_neg h10, if_pos h11]
  rw [hb]
  clear hb h0 h1 h2 h3 h4 h5 h6 h7 h8 h9 h10 h11
  go_wp2_with fail
  refine bodyPost_ret (v := .tuple #[.int .i64 6, .int .i64 5]) (by simp [results, Tryd.results51, go_sem]) rfl ?_
  exact ⟨rfl, rfl⟩
 have g11 : (s.toList == [47]) = false := strL_false h11
 by_cases h12 : s = bytes [37]
 ·have g12 : (s.toList == [37]) = true := strL_true h12
  have hb : binOp s = (7, 5) := by rw [binOp, if_neg h0, if_neg h1, if_neg h2, if_neg h3, if_neg h4, if_neg h5, if_neg h6, if_neg h7, if_neg h8, if_neg h9, if_neg h10, if_neg h11, if_pos h12]
  rw [hb]
  clear hb h0 h1 h2 h3 h4 h5 h6 h7 h8 h9 h10 h11 h12
  go_wp2_with fail
  refine bodyPost_ret (v := .tuple #[.int .i64 7, .int .i64 5]) (by simp [results, Tryd.results51, go_sem]) rfl ?_
  exact ⟨rfl, rfl⟩
 have g12 : (s.toList == [37]) = false := strL_false h12
 have hb : binOp s = (0, 0) := by rw [binOp, if_neg h0, if_neg h1, if_neg h2, if_neg h3, if_neg h4, if_neg h5, if_neg h6, if_neg h7, if_neg h8, if_neg h9, if_neg h10, if_neg h11, if_neg h12]
 rw [hb]
 clear hb h0 h1 h2 h3 h4 h5 h6 h7 h8 h9 h10 h11 h12
 go_wp2_with fail
 refine bodyPost_ret (v := .tuple #[.int .i64 0, .int .i64 0]) (by simp [results, Tryd.results51, go_sem]) rfl ?_
 exact ⟨rfl, rfl⟩
end Go.Proofs.YtiimofjemiffgaaDoor
