import Derived.Test.YtlbocidcjmehfaaDoorBlk1J
set_option linter.unusedVariables false
set_option linter.unusedSimpArgs false
namespace Go.Proofs.YtlbocidcjmehfaaDoor
open Go.RowKit
structure SrcAt (l : List Int) (a : Option Addr) (cap S : Nat) (w : World) : Prop where
 free : w.frozen? ⟨S, 1, none⟩ = false
 c0 : w.cell? ⟨S, 0, none⟩ = some (.slice a l.length cap)
 c1 : ∃ i : Nat, w.cell? ⟨S, 1, none⟩ = some (.int .i64 i) ∧ i ≤ l.length
theorem SrcAt.lt {l : List Int} {a : Option Addr} {cap S : Nat} {w : World} (h : SrcAt l a cap S w) : S < w.heap.size := cell_lt h.c0
theorem SrcAt.keep {l : List Int} {a : Option Addr} {cap S : Nat} {w w' : World} {L : List Nat} (h : SrcAt l a cap S w) (hk : Keep L w w') (hn : S ∉ L) : SrcAt l a cap S w' := by
 have hl := h.lt
 obtain ⟨h1, h2, i, h3, h4⟩ := h
 exact ⟨by rw [hk.frozen hl hn]; exact h1, by rw [hk.cell hl hn]; exact h2, i, by rw [hk.cell hl hn]; exact h3, h4⟩
theorem rowAt_early {A w : World} {L H : List Nat} {v : Value} {n : Nat} {cells : List Value} (h : RowAt A v n cells) (hk : Keep L A w) (hL : ∀ x, x ∈ L → A.heap.size ≤ x) (hH : ∀ x, x ∈ H → A.heap.size ≤ x) : RowAt (hideL H w) v n cells := h.mono fun p u hp => by
 have hl := cell_lt hp
 rw [hideL_cell_ne _ _ _ (fun hm => by have := hH _ hm; omega), hk.cell hl (fun hm => by have := hL _ hm; omega)]; exact hp
theorem SrcAt.src {l : List Int} {a : Option Addr} {cap S : Nat} {A w : World} (h : SrcAt l a cap S w) (hr : RowAt A (.slice a l.length cap) l.length (l.map (.int .i64))) (hl : l.length ≤ 1000000000) (hk : Keep [] A w) (H : List Nat) (hH : ∀ x, x ∈ H → A.heap.size ≤ x) (hm : S ∈ H) : Src H S w := by
 obtain ⟨i, h3, h4⟩ := h.c1
 exact ⟨hm, h.lt, h.free, l, a, cap, i, h.c0, rowAt_early hr hk (by simp) hH, h3, h4, hl⟩
def NextAt (n : Int) (l : List Int) (a : Option Addr) (cap S : Nat) (w : World) (e : Ending) (w' : World) : Prop := (∃ r : Int, e = .returned (.int .i64 r) ∧ 0 ≤ r ∧ r < n) ∧ SrcAt l a cap S w' ∧ Keep [S] w w'
set_option maxRecDepth 100000 in
set_option maxHeartbeats 1600000 in
theorem next_at (n : Int) (l : List Int) (a : Option Addr) (cap S : Nat) (w : World) (hs0 : SrcAt l a cap S w) (h2 : RowAt (hideL [S] w) (.slice a l.length cap) l.length (l.map (.int .i64))) (h5 : l.length ≤ 1000000000) (hn : 0 < n) (hn2 : n ≤ 4611686018427387904) :
  Calls Tryd.prog 21 #[.pointer (some ⟨S, 0, none⟩), .int .i64 n] w (NextAt n l a cap S w) := by
 have hlt := hs0.lt
 have HSM : Hid (S ∈ [S]) := Lib.hid (by simp)
 have HS0 := Lib.hid hs0
 obtain ⟨hfree, h1, i, h3, h4⟩ := hs0
 have H2 := Lib.hid h2
 have HF := Lib.hid hfree
 clear h2
 by_cases hi : i < l.length
 ·have hd : decide (l.length ≤ i) = false := by rw [decide_eq_false_iff_not]; omega
  obtain ⟨b, off, rfl, hc, hbH, hbl⟩ := intRow H2.out hi
  have hbS : b ≠ S := fun he => hbH (he ▸ HSM.out)
  have HBS := Lib.hid hbS
  have HBH := Lib.hid hbH
  have hw1 : IntKind.i64.wrap ((i : Int) + 1) = (i : Int) + 1 := IntWalk.i64_in _ (by omega)
  have hw2 : IntKind.i64.wrap ((i : Int) + 1 - 1) = (i : Int) := by rw [show (i : Int) + 1 - 1 = i by omega]; exact IntWalk.i64_in _ (by omega)
  have hlen : (i : Int) < l.length := by omega
  obtain ⟨x, hx⟩ : ∃ x, x = l[i] := ⟨_, rfl⟩
  rw [← hx] at hc
  have hc2 : ∀ u, (w.setCell ⟨S, 1, none⟩ u).cell? ⟨b, off + i, none⟩ = some (.int .i64 x) := fun u => by rw [← hc]; exact World.cell?_of_block (w := w) (Below.heap_setCell w ⟨S, 1, none⟩ u b hbS)
  clear hx hbS hbH
  go_enter Tryd.func21, Tryd.ntmps21
  go_wp2_with fail
  go_quiet (fail)
  go_wp2_with fail
  have k1 : ((w.drewN nq).setCell ⟨S, 1, none⟩ (.int .i64 ((i : Int) + 1))).cell? ⟨S, 0, none⟩ = some (.slice (some ⟨b, off, none⟩) l.length cap) := by go_simp
  have k2 : ((w.drewN nq).setCell ⟨S, 1, none⟩ (.int .i64 ((i : Int) + 1))).cell? ⟨S, 1, none⟩ = some (.int .i64 ((i : Int) + 1)) := by go_simp
  have k3 : ((w.drewN nq).setCell ⟨S, 1, none⟩ (.int .i64 ((i : Int) + 1))).cell? ⟨b, off + i, none⟩ = some (.int .i64 x) := hc2 _
  have k4 : ((w.drewN nq).setCell ⟨S, 1, none⟩ (.int .i64 ((i : Int) + 1))).frozen? ⟨S, 1, none⟩ = false := by go_simp
  have hK : Keep [S] w ((w.drewN nq).setCell ⟨S, 1, none⟩ (.int .i64 ((i : Int) + 1))) := ((Keep.refl _ _).drewN _).setCell (.inl (by simp)) _
  generalize (w.drewN nq).setCell ⟨S, 1, none⟩ (.int .i64 ((i : Int) + 1)) = W at k1 k2 k3 k4 hK ⊢
  clear h1 h3 hc hc2 hfree hw1
  go_quiet ((go_at_call 12; exact quiet_left (within_any x n _ hn hn2)))
  go_wp2_with fail
  go_ret
  exact ⟨⟨x % n, rfl, Int.emod_nonneg x (by omega), Int.emod_lt_of_pos x hn⟩, ⟨k4, k1, i + 1, by rw [show (((i + 1 : Nat) : Int)) = (i : Int) + 1 by omega]; exact k2, by omega⟩, hK.drewN _⟩
 ·have hd : decide (l.length ≤ i) = true := by rw [decide_eq_true_iff]; omega
  have hle : (l.length : Int) ≤ i := by omega
  go_enter Tryd.func21, Tryd.ntmps21
  go_wp2_with fail
  go_quiet (fail)
  go_wp2_with fail
  go_ret
  exact ⟨⟨0, rfl, by omega, by omega⟩, HS0.out.keep (L := []) ((Keep.refl _ _).drewN _) (by simp), (Keep.refl _ _).drewN _⟩
theorem NextAt.out {n : Int} {l : List Int} {a : Option Addr} {cap S : Nat} {w w' : World} {e : Ending} (h : NextAt n l a cap S w e w') : ∃ r : Int, e = .returned (.int .i64 r) ∧ 0 ≤ r ∧ r < n ∧ SrcAt l a cap S w' ∧ Keep [S] w w' := by
 obtain ⟨⟨r, h1, h2, h3⟩, h4, h5⟩ := h; exact ⟨r, h1, h2, h3, h4, h5⟩
theorem owns_dis {w : World} {b b' : Nat} {e e' : TypeId} {s s' : Nat} {v v' : Value} {n n' : Nat} {xs xs' : List Value} (h : w.ownsRow b e s v n xs) (h' : w.ownsRow b' e' s' v' n' xs') (hne : e ≠ e') : ∀ g, g ∈ ownB v → g ∉ ownB v' := by
 intro g hg hg'
 rcases h.2 with ⟨rfl, _⟩ | ⟨k, c, cur, rfl, _, hh, _⟩
 ·simp [ownB, Value.ownBlock] at hg
 rcases h'.2 with ⟨rfl, _⟩ | ⟨k', c', cur', rfl, _, hh', _⟩
 ·simp [ownB, Value.ownBlock] at hg'
 simp [ownB, Value.ownBlock] at hg hg'
 subst hg; subst hg'
 rw [hh] at hh'
 injection hh' with h1
 injection h1 with h2 h3
 exact hne h3
def gCells (g : AGlobal) : List Value := [.string g.name, .int .i64 g.init]
def mCells (m : AMutex) : List Value := [.string m.name, .bool m.reentrant, .int .i64 m.size]
def pCells (x : AParam) : List Value := [.string x.name, .bool x.mutex]
def SigRow (w : World) (s : Sig) (cs : List Value) : Prop := ∃ (pa : Option Addr) (pc : Nat), cs = [.string s.1, .slice pa s.2.length pc, .slice none 0 0] ∧ ListRep w ParamRep 2 (.slice pa s.2.length pc) s.2
theorem SigRow.mono (w w' : World) (s : Sig) (cs : List Value) (hm : ∀ p v, w.cell? p = some v → w'.cell? p = some v) (h : SigRow w s cs) : SigRow w' s cs := by
 obtain ⟨pa, pc, rfl, h⟩ := h
 exact ⟨pa, pc, rfl, h.mono hm (fun _ _ _ h => h)⟩
structure PgSt (l : List Int) (a : Option Addr) (cap : Nat) (A : World) (S W R : Nat) (gs : List AGlobal) (ms : List AMutex) (fl : List Sig) (vs : List ByteArray) (vg vm vf uv : Value) (w : World) : Prop where
 og : w.ownsRow A.heap.size 92 2 vg gs.length (gs.flatMap gCells)
 om : w.ownsRow A.heap.size 90 3 vm ms.length (ms.flatMap mCells)
 ov : w.ownsRow A.heap.size 9 1 uv vs.length (vs.map .string)
 oF : Coll SigRow 3 76 A.heap.size [S, W, R] vf fl w
 src : SrcAt l a cap S w
 keep : Keep [] A w
 free : ∀ o, w.frozen? ⟨W, o, none⟩ = false
 lS : A.heap.size ≤ S
 lW : A.heap.size ≤ W
 hW : W < w.heap.size
 ne : W ≠ S
 dg : S ∉ ownB vg ∧ W ∉ ownB vg
 dm : S ∉ ownB vm ∧ W ∉ ownB vm
 dv : S ∉ ownB uv ∧ W ∉ ownB uv
 df : S ∉ ownB vf ∧ W ∉ ownB vf
theorem ct_keep {H L : List Nat} {w w' : World} (hk : Keep L w w') (hL : ∀ x, x ∈ L → x ∈ H ∨ w.heap.size ≤ x) : CT H w H w' := fun p u hp => by
 obtain ⟨h1, h2⟩ := hideL_cell hp
 have hl := cell_lt h1
 rw [hideL_cell_ne _ _ _ h2, hk.cell hl (fun hm => by rcases hL _ hm with h | h; exact h2 h; omega)]; exact h1
theorem PgSt.move {l : List Int} {a : Option Addr} {cap : Nat} {A : World} {S W R : Nat} {gs : List AGlobal} {ms : List AMutex} {fl : List Sig} {vs : List ByteArray} {vg vm vf uv : Value} {w w' : World} {L : List Nat}
  (h : PgSt l a cap A S W R gs ms fl vs vg vm vf uv w) (hk : Keep L w w') (hL : ∀ x, x ∈ L → x = S ∨ x = W ∨ w.heap.size ≤ x) (hs : SrcAt l a cap S w') (hf : ∀ o, w'.frozen? ⟨W, o, none⟩ = false) : PgSt l a cap A S W R gs ms fl vs vg vm vf uv w' := by
 obtain ⟨rows, hr1, hr2, hr3⟩ := h.oF.holds
 have hne : ∀ {e : TypeId} {s n : Nat} {v : Value} {xs : List Value}, w.ownsRow A.heap.size e s v n xs → (S ∉ ownB v ∧ W ∉ ownB v) → w'.ownsRow A.heap.size e s v n xs := fun ho hd => ownsRow_keepD ho hk (fun g hg hm => by
  rcases hL g hm with rfl | rfl | h9
  ·exact hd.1 hg
  ·exact hd.2 hg
  ·have := owns_lt_size ho (ownB_mem.1 hg); omega)
 refine ⟨hne h.og h.dg, hne h.om h.dm, hne h.ov h.dv, h.oF.ct SigRow.mono (ct_keep hk (fun x hx => ?_)) (fun xs hx => hne hx h.df), hs, ?_, hf, h.lS, h.lW, Nat.lt_of_lt_of_le h.hW hk.size, h.ne, h.dg, h.dm, h.dv, h.df⟩
 ·rcases hL x hx with rfl | rfl | h9
  ·exact .inl (by simp)
  ·exact .inl (by simp)
  ·exact .inr h9
 ·have := h.keep.size
  exact h.keep.grow hk (fun x hx => by have := h.lS; have := h.lW; rcases hL x hx with rfl | rfl | h9 <;> omega)
theorem PgSt.call {l : List Int} {a : Option Addr} {cap : Nat} {A : World} {S W R : Nat} {gs : List AGlobal} {ms : List AMutex} {fl : List Sig} {vs : List ByteArray} {vg vm vf uv : Value} {w w' : World}
  (h : PgSt l a cap A S W R gs ms fl vs vg vm vf uv w) (hk : Keep [S] w w') (hs : SrcAt l a cap S w') : PgSt l a cap A S W R gs ms fl vs vg vm vf uv w' :=
 h.move hk (fun x hx => by simp at hx; exact .inl hx) hs (fun o => by rw [hk.frozen (p := ⟨W, o, none⟩) h.hW (by have := h.ne; simpa using this)]; exact h.free o)
theorem PgSt.new {l : List Int} {a : Option Addr} {cap : Nat} {A : World} {S W R : Nat} {gs : List AGlobal} {ms : List AMutex} {fl : List Sig} {vs : List ByteArray} {vg vm vf uv : Value} {w w' : World}
  (h : PgSt l a cap A S W R gs ms fl vs vg vm vf uv w) (hk : Keep [] w w') : PgSt l a cap A S W R gs ms fl vs vg vm vf uv w' :=
 h.move hk (fun x hx => by simp at hx) (h.src.keep hk (by simp)) (fun o => by rw [hk.frozen (p := ⟨W, o, none⟩) h.hW (by simp)]; exact h.free o)
theorem PgSt.store {l : List Int} {a : Option Addr} {cap : Nat} {A : World} {S W R : Nat} {gs : List AGlobal} {ms : List AMutex} {fl : List Sig} {vs : List ByteArray} {vg vm vf uv : Value} {w : World}
  (h : PgSt l a cap A S W R gs ms fl vs vg vm vf uv w) (k : Nat) (u : Value) : PgSt l a cap A S W R gs ms fl vs vg vm vf uv (w.setCell ⟨W, k, none⟩ u) := by
 have hk : Keep [W] w (w.setCell ⟨W, k, none⟩ u) := (Keep.refl _ _).setCell (.inl (by simp)) u
 have hf := h.free
 exact h.move hk (fun x hx => by simp at hx; exact .inr (.inl hx)) (h.src.keep hk (by have := h.ne; simp; omega)) (fun o => by have h9 := hf o; go_simp)
theorem flatMap_snoc {α : Type} (f : α → List Value) (l : List α) (x : α) : (l ++ [x]).flatMap f = l.flatMap f ++ f x := by simp
theorem PgSt.pushM {l : List Int} {a : Option Addr} {cap : Nat} {A : World} {S W R : Nat} {gs : List AGlobal} {ms : List AMutex} {vs : List ByteArray} {vg vm v' uv : Value} {w w' : World} {m : AMutex}
  (h : PgSt l a cap A S W R gs ms [] vs vg vm (.slice none 0 0) uv w) (hg : w.grownBy w' vm.ownBlock) (hf : ∀ g, v'.ownBlock = some g → vm.ownBlock = some g ∨ w.heap.size ≤ g) (ho : w'.ownsRow A.heap.size 90 3 v' (ms.length + 1) (ms.flatMap mCells ++ mCells m)) :
  PgSt l a cap A S W R gs (ms ++ [m]) [] vs vg v' (.slice none 0 0) uv w' := by
 have hk := keep_of_grown hg
 have hS := h.src.lt
 have hW := h.hW
 have hd : S ∉ ownB v' ∧ W ∉ ownB v' := ⟨fun hm => by rcases hf _ (ownB_mem.1 hm) with h9 | h9; exact h.dm.1 (ownB_mem.2 h9); omega, fun hm => by rcases hf _ (ownB_mem.1 hm) with h9 | h9; exact h.dm.2 (ownB_mem.2 h9); omega⟩
 refine ⟨ownsRow_keepD h.og hk (owns_dis h.og h.om (by decide)), by rw [flatMap_snoc, List.length_append]; exact ho, ownsRow_keepD h.ov hk (owns_dis h.ov h.om (by decide)), Coll.nil _ _ _ _ _ _, h.src.keep hk h.dm.1, ?_, fun o => by rw [hk.frozen (p := ⟨W, o, none⟩) hW h.dm.2]; exact h.free o, h.lS, h.lW, Nat.lt_of_lt_of_le hW hk.size, h.ne, h.dg, hd, h.dv, h.df⟩
 exact h.keep.grow hk (fun x hx => owns_lt h.om (ownB_mem.1 hx))
theorem PgSt.pushG {l : List Int} {a : Option Addr} {cap : Nat} {A : World} {S W R : Nat} {gs : List AGlobal} {ms : List AMutex} {vs : List ByteArray} {vg vm v' uv : Value} {w w' : World} {m : AGlobal}
  (h : PgSt l a cap A S W R gs ms [] vs vg vm (.slice none 0 0) uv w) (hg : w.grownBy w' vg.ownBlock) (hf : ∀ g, v'.ownBlock = some g → vg.ownBlock = some g ∨ w.heap.size ≤ g) (ho : w'.ownsRow A.heap.size 92 2 v' (gs.length + 1) (gs.flatMap gCells ++ gCells m)) :
  PgSt l a cap A S W R (gs ++ [m]) ms [] vs v' vm (.slice none 0 0) uv w' := by
 have hk := keep_of_grown hg
 have hS := h.src.lt
 have hW := h.hW
 have hd : S ∉ ownB v' ∧ W ∉ ownB v' := ⟨fun hm => by rcases hf _ (ownB_mem.1 hm) with h9 | h9; exact h.dg.1 (ownB_mem.2 h9); omega, fun hm => by rcases hf _ (ownB_mem.1 hm) with h9 | h9; exact h.dg.2 (ownB_mem.2 h9); omega⟩
 refine ⟨by rw [flatMap_snoc, List.length_append]; exact ho, ownsRow_keepD h.om hk (owns_dis h.om h.og (by decide)), ownsRow_keepD h.ov hk (owns_dis h.ov h.og (by decide)), Coll.nil _ _ _ _ _ _, h.src.keep hk h.dg.1, ?_, fun o => by rw [hk.frozen (p := ⟨W, o, none⟩) hW h.dg.2]; exact h.free o, h.lS, h.lW, Nat.lt_of_lt_of_le hW hk.size, h.ne, hd, h.dm, h.dv, h.df⟩
 exact h.keep.grow hk (fun x hx => owns_lt h.og (ownB_mem.1 hx))
theorem PgSt.pushV {l : List Int} {a : Option Addr} {cap : Nat} {A : World} {S W R : Nat} {gs : List AGlobal} {ms : List AMutex} {vs : List ByteArray} {vg vm v' uv : Value} {w w' : World} {x : ByteArray}
  (h : PgSt l a cap A S W R gs ms [] vs vg vm (.slice none 0 0) uv w) (hg : w.grownBy w' uv.ownBlock) (hf : ∀ g, v'.ownBlock = some g → uv.ownBlock = some g ∨ w.heap.size ≤ g) (ho : w'.ownsRow A.heap.size 9 1 v' (vs.length + 1) (vs.map .string ++ [.string x])) :
  PgSt l a cap A S W R gs ms [] (vs ++ [x]) vg vm (.slice none 0 0) v' w' := by
 have hk := keep_of_grown hg
 have hS := h.src.lt
 have hW := h.hW
 have hd : S ∉ ownB v' ∧ W ∉ ownB v' := ⟨fun hm => by rcases hf _ (ownB_mem.1 hm) with h9 | h9; exact h.dv.1 (ownB_mem.2 h9); omega, fun hm => by rcases hf _ (ownB_mem.1 hm) with h9 | h9; exact h.dv.2 (ownB_mem.2 h9); omega⟩
 refine ⟨ownsRow_keepD h.og hk (owns_dis h.og h.ov (by decide)), ownsRow_keepD h.om hk (owns_dis h.om h.ov (by decide)), by simpa using ho, Coll.nil _ _ _ _ _ _, h.src.keep hk h.dv.1, ?_, fun o => by rw [hk.frozen (p := ⟨W, o, none⟩) hW h.dv.2]; exact h.free o, h.lS, h.lW, Nat.lt_of_lt_of_le hW hk.size, h.ne, h.dg, h.dm, hd, h.df⟩
 exact h.keep.grow hk (fun x hx => owns_lt h.ov (ownB_mem.1 hx))
theorem PgSt.pushF {l : List Int} {a : Option Addr} {cap : Nat} {A : World} {S W R : Nat} {gs : List AGlobal} {ms : List AMutex} {fl : List Sig} {vs : List ByteArray} {vg vm vf v' uv : Value} {w w' : World} {s : Sig} {row : List Value} (rows : List (List Value))
  (h : PgSt l a cap A S W R gs ms fl vs vg vm vf uv w) (h1 : rows.length = fl.length) (h2 : ∀ i (h : i < fl.length) (h' : i < rows.length), SigRow (hideL (ownB vf ++ [S, W, R]) w) fl[i] rows[i] ∧ rows[i].length = 3) (hrow : w.ownsRow A.heap.size 76 3 vf fl.length rows.flatten)
  (hx : SigRow (hideL (ownB vf ++ [S, W, R]) w) s row) (hg : w.grownBy w' vf.ownBlock) (hf : ∀ g, v'.ownBlock = some g → vf.ownBlock = some g ∨ w.heap.size ≤ g) (ho : w'.ownsRow A.heap.size 76 3 v' (fl.length + 1) (rows.flatten ++ row)) :
  PgSt l a cap A S W R gs ms (fl ++ [s]) vs vg vm v' uv w' := by
 have hk := keep_of_grown hg
 have hS := h.src.lt
 have hW := h.hW
 have hz : row.length = 3 := by obtain ⟨pa, pc, rfl, _⟩ := hx; rfl
 have hd : S ∉ ownB v' ∧ W ∉ ownB v' := ⟨fun hm => by rcases hf _ (ownB_mem.1 hm) with h9 | h9; exact h.df.1 (ownB_mem.2 h9); omega, fun hm => by rcases hf _ (ownB_mem.1 hm) with h9 | h9; exact h.df.2 (ownB_mem.2 h9); omega⟩
 refine ⟨ownsRow_keepD h.og hk (owns_dis h.og hrow (by decide)), ownsRow_keepD h.om hk (owns_dis h.om hrow (by decide)), ownsRow_keepD h.ov hk (owns_dis h.ov hrow (by decide)), Coll.snoc SigRow.mono rows h1 h2 hx hz hg hf ho, h.src.keep hk h.df.1, ?_, fun o => by rw [hk.frozen (p := ⟨W, o, none⟩) hW h.df.2]; exact h.free o, h.lS, h.lW, Nat.lt_of_lt_of_le hW hk.size, h.ne, h.dg, h.dm, h.dv, hd⟩
 exact h.keep.grow hk (fun x hx => owns_lt hrow (ownB_mem.1 hx))
end Go.Proofs.YtlbocidcjmehfaaDoor
namespace Go.Proofs.YtlbocidcjmehfaaDoor
open Go.RowKit
set_option maxHeartbeats 1600000 in
theorem cut_any (l : List Int) (a : Option Addr) (cap : Nat) (w : World) (hr : RowAt w (.slice a l.length cap) l.length (l.map (.int .i64))) (hl : l.length ≤ 9223372036854775807) (n : Nat) (hn : n ≤ 1000) :
  Calls Tryd.prog 20 #[.slice a l.length cap, .int .i64 n] w fun e w' => (∃ c2, e = .returned (.slice a (l.take n).length c2) ∧ RowAt w (.slice a (l.take n).length c2) (l.take n).length ((l.take n).map (.int .i64))) ∧ w = w' := by
 have HR := Lib.hid hr
 obtain ⟨a', cap', he, hc, hr2⟩ := hr
 cases he
 by_cases hn2 : n < l.length
 ·have hg : (n : Int) < (l.length : Int) := by omega
  obtain ⟨b, off, rfl⟩ : ∃ b off, a = some ⟨b, off, none⟩ := by
   rcases hr2 with h0 | ⟨b, off, rfl, _⟩
   ·exfalso; have h1 := congrArg List.length h0; rw [List.length_map] at h1; simp only [List.length_nil] at h1; omega
   ·exact ⟨b, off, rfl⟩
  have HT : Hid ((l.take n).length = n) := Lib.hid (by rw [List.length_take]; omega)
  have hrow : RowAt w (.slice (some ⟨b, off, none⟩) (l.take n).length cap) (l.take n).length ((l.take n).map (.int .i64)) := by
   obtain ⟨a', cap', he, hc, hr2⟩ := HR.out
   cases he
   refine ⟨_, _, rfl, by rw [HT.out]; omega, .inr ⟨b, off, rfl, fun j u hj => ?_⟩⟩
   rcases hr2 with h0 | ⟨b', off', he2, hr3⟩
   ·exfalso; have h1 := congrArg List.length h0; rw [List.length_map] at h1; simp only [List.length_nil] at h1; omega
   ·cases he2
    refine hr3 j u ?_
    rw [List.map_take] at hj
    rw [List.getElem?_take] at hj
    split at hj
    ·exact hj
    ·cases hj
  have HROW := Lib.hid hrow
  clear hrow hr2
  have hnc : n ≤ cap := by omega
  go_enter Tryd.func20, Tryd.ntmps20
  go_wp2_with fail
  go_ret
  exact ⟨⟨cap, by rw [HT.out]; rfl, HROW.out⟩, rfl⟩
 ·have hg : (l.length : Int) ≤ (n : Int) := by omega
  have HT : Hid (l.take n = l) := Lib.hid (List.take_of_length_le (by omega))
  clear hr2
  go_enter Tryd.func20, Tryd.ntmps20
  go_wp2_with fail
  go_ret
  exact ⟨⟨cap, by rw [HT.out]; rfl, by rw [HT.out]; exact HR.out⟩, rfl⟩
theorem rowAt_take {w : World} {l : List Int} {a : Option Addr} {cap c2 : Nat} (n : Nat) (hr : RowAt w (.slice a l.length cap) l.length (l.map (.int .i64))) (hc : (l.take n).length ≤ c2) : RowAt w (.slice a (l.take n).length c2) (l.take n).length ((l.take n).map (.int .i64)) := by
 obtain ⟨a', cap', he, _, hr2⟩ := hr
 cases he
 refine ⟨_, _, rfl, hc, ?_⟩
 rcases hr2 with h0 | ⟨b, off, rfl, hr3⟩
 ·obtain rfl : l = [] := by simpa using h0
  exact .inl (by simp)
 ·refine .inr ⟨b, off, rfl, fun j u hj => hr3 j u ?_⟩
  rw [List.map_take, List.getElem?_take] at hj
  split at hj
  ·exact hj
  ·cases hj
theorem RowAt.cap {w : World} {a : Option Addr} {n m cap : Nat} {cells : List Value} (h : RowAt w (.slice a n cap) m cells) : m ≤ cap := by
 obtain ⟨a', cap', he, hc, _⟩ := h
 cases he; exact hc
end Go.Proofs.YtlbocidcjmehfaaDoor
