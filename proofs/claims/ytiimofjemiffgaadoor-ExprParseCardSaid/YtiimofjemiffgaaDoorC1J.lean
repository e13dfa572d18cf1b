import Derived.Test.YtiimofjemiffgaaDoorB1J
import Derived.Test.YtiimofjemiffgaaDoorA3J
import Derived.Test.YtiimofjemiffgaaDoorB5J
set_option linter.unusedVariables false
set_option linter.unusedSimpArgs false
namespace Go.Proofs.YtiimofjemiffgaaDoor
open Go.RowKit
theorem quiet_add_left {P : Program} {f : FuncId} {args : Array Value} {w : World} {a n : Nat} {v : Value}
  (h : Calls P f args (w.drewN (a + n)) fun e w' => e = .returned v ∧ w.drewN (a + n) = w') :
  Calls P f args (w.drewN (a + n)) fun e w'' => e = .returned v ∧ ∃ m, w'' = w.drewN (a + m) :=
 h.mono fun _ _ ⟨he, hm⟩ => ⟨he, n, hm.symm⟩
theorem quiet_left {P : Program} {f : FuncId} {args : Array Value} {w : World} {n : Nat} {v : Value}
  (h : Calls P f args (w.drewN n) fun e w' => e = .returned v ∧ w.drewN n = w') : Calls P f args (w.drewN n) fun e w'' => e = .returned v ∧ ∃ m, w'' = w.drewN m :=
 h.mono fun _ _ ⟨he, hm⟩ => ⟨he, n, hm.symm⟩
structure Src (H : List Nat) (S : Nat) (w : World) : Prop where
 mem : S ∈ H
 lt : S < w.heap.size
 free : w.frozen? ⟨S, 1, none⟩ = false
 holds : ∃ (l : List Int) (a : Option Addr) (cap i : Nat), w.cell? ⟨S, 0, none⟩ = some (.slice a l.length cap) ∧ RowAt (hideL H w) (.slice a l.length cap) l.length (l.map (.int .i64)) ∧ w.cell? ⟨S, 1, none⟩ = some (.int .i64 i) ∧ i ≤ l.length ∧ l.length ≤ 1000000000
theorem Src.keep {H H' : List Nat} {S : Nat} {w w' : World} (h : Src H S w) (hk : Keep H' w w') (hs : ∀ x, x ∈ H' → x ∈ H) (hn : S ∉ H') : Src H S w' := by
 obtain ⟨l, a, cap, i, h1, h2, h3, h4, h5⟩ := h.holds
 refine ⟨h.mem, Nat.lt_of_lt_of_le h.lt hk.size, by rw [hk.frozen h.lt hn]; exact h.free, l, a, cap, i, by rw [hk.cell h.lt hn]; exact h1, h2.below (hk.mono hs).hide (Nat.le_refl _), by rw [hk.cell h.lt hn]; exact h3, h4, h5⟩
theorem Src.below {H : List Nat} {S : Nat} {w w' : World} (h : Src H S w) (hb : Below w.heap.size w w') : Src H S w' :=
 h.keep (H' := []) (Keep.of_below hb) (fun _ hx => by simp at hx) (by simp)
theorem intRow {w : World} {H : List Nat} {a : Option Addr} {n cap : Nat} {l : List Int} {i : Nat} (h : RowAt (hideL H w) (.slice a n cap) n (l.map (.int .i64))) (hi : i < l.length) :
  ∃ b off, a = some ⟨b, off, none⟩ ∧ w.cell? ⟨b, off + i, none⟩ = some (.int .i64 l[i]) ∧ b ∉ H ∧ b < w.heap.size := by
 obtain ⟨a', cap', he, hc, hr⟩ := h
 cases he
 rcases hr with h0 | ⟨b, off, rfl, hr⟩
 ·exfalso; have := congrArg List.length h0; simp at this; rw [this] at hi; simp at hi
 ·have h1 := hr i (.int .i64 l[i]) (by simp [hi])
  obtain ⟨h2, h3⟩ := hideL_cell h1
  exact ⟨b, off, rfl, h2, h3, cell_lt h2⟩
def NextOk (n : Int) (H : List Nat) (S : Nat) (w : World) (e : Ending) (w' : World) : Prop := (∃ r : Int, e = .returned (.int .i64 r) ∧ 0 ≤ r ∧ r < n) ∧ Src H S w' ∧ Keep [S] w w'
set_option maxRecDepth 100000 in
set_option maxHeartbeats 1600000 in
theorem next_src (n : Int) (H : List Nat) (S : Nat) (w : World) (h : Src H S w) (hn : 0 < n) (hn2 : n ≤ 4611686018427387904) :
  Calls Tryd.prog 17 #[.pointer (some ⟨S, 0, none⟩), .int .i64 n] w (NextOk n H S w) := by
 have hsrc := h
 obtain ⟨hmem, hlt, hfree, l, a, cap, i, h1, h2, h3, h4, h5⟩ := h
 have HS := Lib.hid hsrc
 have H2 := Lib.hid h2
 have HF := Lib.hid hfree
 clear hsrc h2 hmem
 by_cases hi : i < l.length
 ·have hd : decide (l.length ≤ i) = false := by rw [decide_eq_false_iff_not]; omega
  obtain ⟨b, off, rfl, hc, hbH, hbl⟩ := intRow H2.out hi
  have hbS : b ≠ S := fun he => hbH (he ▸ HS.out.mem)
  have HBS := Lib.hid hbS
  have HBH := Lib.hid hbH
  have hw1 : IntKind.i64.wrap ((i : Int) + 1) = (i : Int) + 1 := IntWalk.i64_in _ (by omega)
  have hw2 : IntKind.i64.wrap ((i : Int) + 1 - 1) = (i : Int) := by rw [show (i : Int) + 1 - 1 = i by omega]; exact IntWalk.i64_in _ (by omega)
  have hlen : (i : Int) < l.length := by omega
  obtain ⟨x, hx⟩ : ∃ x, x = l[i] := ⟨_, rfl⟩
  rw [← hx] at hc
  have hc2 : ∀ u, (w.setCell ⟨S, 1, none⟩ u).cell? ⟨b, off + i, none⟩ = some (.int .i64 x) := fun u => by rw [← hc]; exact World.cell?_of_block (w := w) (Below.heap_setCell w ⟨S, 1, none⟩ u b hbS)
  clear hx hbS hbH
  go_enter Tryd.func17, Tryd.ntmps17
  go_wp2_with fail
  go_quiet (fail)
  go_wp2_with fail
  have k1 : ((w.drewN nq).setCell ⟨S, 1, none⟩ (.int .i64 ((i : Int) + 1))).cell? ⟨S, 0, none⟩ = some (.slice (some ⟨b, off, none⟩) l.length cap) := by go_simp
  have k2 : ((w.drewN nq).setCell ⟨S, 1, none⟩ (.int .i64 ((i : Int) + 1))).cell? ⟨S, 1, none⟩ = some (.int .i64 ((i : Int) + 1)) := by go_simp
  have k3 : ((w.drewN nq).setCell ⟨S, 1, none⟩ (.int .i64 ((i : Int) + 1))).cell? ⟨b, off + i, none⟩ = some (.int .i64 x) := hc2 _
  have k4 : ((w.drewN nq).setCell ⟨S, 1, none⟩ (.int .i64 ((i : Int) + 1))).frozen? ⟨S, 1, none⟩ = false := by go_simp
  have hK : Keep [S] w ((w.drewN nq).setCell ⟨S, 1, none⟩ (.int .i64 ((i : Int) + 1))) := ((Keep.refl _ _).drewN _).setCell (.inl (by simp)) _
  generalize (w.drewN nq).setCell ⟨S, 1, none⟩ (.int .i64 ((i : Int) + 1)) = W at k1 k2 k3 k4 hK ⊢
  clear h1 h3 hc hc2 hfree hw1
  go_quiet ((go_at_call 12; exact quiet_left (within_any x n _ hn hn2)))
  go_wp2_with fail
  go_ret
  refine ⟨⟨x % n, rfl, Int.emod_nonneg x (by omega), Int.emod_lt_of_pos x hn⟩, ⟨HS.out.mem, Nat.lt_of_lt_of_le hlt hK.size, k4, l, _, cap, i + 1, k1, H2.out.below (hK.drewN _ |>.mono (by intro y hy; simp at hy; subst hy; exact HS.out.mem)).hide (Nat.le_refl _), by rw [show (((i + 1 : Nat) : Int)) = (i : Int) + 1 by omega]; exact k2, by omega, h5⟩, hK.drewN _⟩
 ·have hd : decide (l.length ≤ i) = true := by rw [decide_eq_true_iff]; omega
  have hle : (l.length : Int) ≤ i := by omega
  go_enter Tryd.func17, Tryd.ntmps17
  go_wp2_with fail
  go_quiet (fail)
  go_wp2_with fail
  go_ret
  exact ⟨⟨0, rfl, by omega, by omega⟩, HS.out.keep (H' := []) ((Keep.refl _ _).drewN _) (fun _ hx => by simp at hx) (by simp), (Keep.refl _ _).drewN _⟩
theorem Src.next {H : List Nat} {S : Nat} {w w' : World} {n : Int} {e : Ending} (h : NextOk n H S w e w') : ∃ r : Int, e = .returned (.int .i64 r) ∧ 0 ≤ r ∧ r < n ∧ Src H S w' ∧ Keep [S] w w' := by
 obtain ⟨⟨r, h1, h2, h3⟩, h4, h5⟩ := h; exact ⟨r, h1, h2, h3, h4, h5⟩
def NumOk (H : List Nat) (S : Nat) (w : World) (e : Ending) (w' : World) : Prop := (∃ r : Int, e = .returned (.int .i64 r) ∧ 0 ≤ r ∧ r < 4611686018427387904) ∧ Src H S w' ∧ Keep [S] w w'
set_option maxRecDepth 100000 in
set_option maxHeartbeats 1600000 in
theorem number_src (H : List Nat) (S : Nat) (w : World) (h : Src H S w) :
  Calls Tryd.prog 55 #[.pointer (some ⟨S, 0, none⟩)] w (NumOk H S w) := by
 have HS := Lib.hid h
 clear h
 go_enter Tryd.func55, Tryd.ntmps55
 go_wp2_with fail
 refine (next_src 8 H S _ HS.out (by omega) (by omega)).mono ?_
 intro e w1 hq
 obtain ⟨r, rfl, h0, h1, hs1, hk1⟩ := Src.next hq
 clear hq
 have HS1 := Lib.hid hs1
 have HK1 := Lib.hid hk1
 clear hs1 hk1
 by_cases hr : r = 1
 ·have hb : (r == 1) = true := by simpa using hr
  have HR := Lib.hid hr
  clear hr
  go_wp2_with fail
  refine (next_src 4611686018427387904 H S _ HS1.out (by omega) (by omega)).mono ?_
  intro e w2 hq
  obtain ⟨q, rfl, g0, g1, hs2, hk2⟩ := Src.next hq
  clear hq
  have HS2 := Lib.hid hs2
  have HK2 := Lib.hid hk2
  clear hs2 hk2
  go_wp2_with fail
  go_ret
  exact ⟨⟨q, rfl, g0, g1⟩, HS2.out, HK1.out.trans HK2.out⟩
 ·have hb : (r == 1) = false := by simpa using hr
  have HR := Lib.hid hr
  clear hr
  go_wp2_with fail
  refine (next_src 4 H S _ HS1.out (by omega) (by omega)).mono ?_
  intro e w2 hq
  obtain ⟨q, rfl, g0, g1, hs2, hk2⟩ := Src.next hq
  clear hq
  have HS2 := Lib.hid hs2
  have HK2 := Lib.hid hk2
  clear hs2 hk2
  go_wp2_with fail
  go_ret
  exact ⟨⟨q, rfl, g0, by omega⟩, HS2.out, HK1.out.trans HK2.out⟩
end Go.Proofs.YtiimofjemiffgaaDoor
