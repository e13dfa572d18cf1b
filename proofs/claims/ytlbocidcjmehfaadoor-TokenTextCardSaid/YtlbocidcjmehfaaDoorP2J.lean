import Derived.Test.YtlbocidcjmehfaaDoorP1J
import Derived.Deep.DeepCutAuto
import Derived.Deep.CutBlock
set_option linter.unusedVariables false
set_option linter.unusedSimpArgs false
namespace Go.Proofs.YtlbocidcjmehfaaDoor
open Go.RowKit
theorem bx1 {L : List Nat} {F : Nat} {a b : World} {y0 : Value} (h : a.cell? ⟨F, 0, none⟩ = some y0) (hk : Keep L a b) (hF : F ∉ L) : b.cell? ⟨F, 0, none⟩ = some y0 := by
 rw [hk.cell (p := ⟨F, 0, none⟩) (cell_lt h) hF]; exact h
theorem bx2 {L : List Nat} {F : Nat} {a b : World} {y0 y1 : Value} (h : a.cell? ⟨F, 0, none⟩ = some y0 ∧ a.cell? ⟨F, 1, none⟩ = some y1) (hk : Keep L a b) (hF : F ∉ L) : b.cell? ⟨F, 0, none⟩ = some y0 ∧ b.cell? ⟨F, 1, none⟩ = some y1 := by
 have hl : F < a.heap.size := cell_lt h.1
 have c := fun o => hk.cell (p := ⟨F, o, none⟩) hl hF
 simp only [c]; exact h
theorem bx3 {L : List Nat} {F : Nat} {a b : World} {y0 y1 y2 : Value} (h : a.cell? ⟨F, 0, none⟩ = some y0 ∧ a.cell? ⟨F, 1, none⟩ = some y1 ∧ a.cell? ⟨F, 2, none⟩ = some y2) (hk : Keep L a b) (hF : F ∉ L) :
  b.cell? ⟨F, 0, none⟩ = some y0 ∧ b.cell? ⟨F, 1, none⟩ = some y1 ∧ b.cell? ⟨F, 2, none⟩ = some y2 := by
 have hl : F < a.heap.size := cell_lt h.1
 have c := fun o => hk.cell (p := ⟨F, o, none⟩) hl hF
 simp only [c]; exact h
theorem frk {L : List Nat} {F : Nat} {a b : World} (h : ∀ o, a.frozen? ⟨F, o, none⟩ = false) (hl : F < a.heap.size) (hk : Keep L a b) (hF : F ∉ L) : ∀ o, b.frozen? ⟨F, o, none⟩ = false := fun o => by
 rw [hk.frozen (p := ⟨F, o, none⟩) hl hF]; exact h o
theorem dbyte (k : Nat) (hk : k < 10) : 48 + (k : Int) = ((UInt8.ofNat (48 + k)).toNat : Int) := by
 have h : (List.range 10).all (fun k => decide (48 + (k : Int) = ((UInt8.ofNat (48 + k)).toNat : Int))) = true := by decide
 exact of_decide_eq_true (List.all_eq_true.1 h k (List.mem_range.2 hk))
theorem abyte (k : Nat) (hk : k < 26) : 97 + (k : Int) = ((UInt8.ofNat (97 + k)).toNat : Int) := by
 have h : (List.range 26).all (fun k => decide (97 + (k : Int) = ((UInt8.ofNat (97 + k)).toNat : Int))) = true := by decide
 exact of_decide_eq_true (List.all_eq_true.1 h k (List.mem_range.2 hk))
theorem wrapb (b : UInt8) : IntKind.u8.wrap (IntKind.i64.wrap (b.toNat : Int)) = (b.toNat : Int) := by
 have h := b.toNat_lt
 rw [IntWalk.i64_in _ (by omega), show IntKind.u8.wrap (b.toNat : Int) = (b.toNat : Int) % 256 by simp [IntKind.wrap, IntKind.bits, IntKind.signed]]
 omega
theorem conv_at {w : World} {Q : Nat} (c : UInt8) (h1 : w.cell? ⟨Q, 0, none⟩ = some (.int .u8 c.toNat)) :
  (convert 23 9 (.slice (some ⟨Q, 0, none⟩) 1 1)).run Tryd.prog w = .ok (.string (bytes [c])) w :=
 conv_row [c] (some ⟨Q, 0, none⟩) 1 w (.inr ⟨Q, 0, rfl, fun j u hj => by
  match j with
  | 0 => simp [bcells] at hj; subst hj; exact h1
  | j + 1 => simp [bcells] at hj⟩)
theorem conv_new (w : World) (c : UInt8) : (convert 23 9 (.slice (some ⟨w.heap.size, 0, none⟩) 1 1)).run Tryd.prog (w.alloc (.cells #[.int .u8 c.toNat] 5)) = .ok (.string (bytes [c])) (w.alloc (.cells #[.int .u8 c.toNat] 5)) :=
 conv_at c (by go_simp)
theorem held_three {P : Program} {ops : Array Oper} {Q : Exit → Act → World → Prop} {md : Region.Mode} {S : World → Prop} (i j k : Nat) {oi oj ok : Oper} {fuel : Nat} {listed : Array Bool} {a : Act} {w : World}
  (hr : Region.ready md ops listed = [i, j, k]) (hi : ops.toList[i]? = some oi) (hj : ops.toList[j]? = some oj) (hk : ops.toList[k]? = some ok) (hgi : Region.wanted oi (yielded ops a.tmps) = true) (hgj : Region.wanted oj (yielded ops a.tmps) = true) (hgk : Region.wanted ok (yielded ops a.tmps) = true)
  (h1 : ∀ K' : Act → World → Prop, Shut (∀ a w, S w → (S w → wpAnyH P md ops Q S fuel (listed.setIfInBounds i true) a w) → K' a w) → Oper.wp P oi a w K' Q)
  (h2 : ∀ K' : Act → World → Prop, Shut (∀ a w, S w → (S w → wpAnyH P md ops Q S fuel (listed.setIfInBounds j true) a w) → K' a w) → Oper.wp P oj a w K' Q)
  (h3 : ∀ K' : Act → World → Prop, Shut (∀ a w, S w → (S w → wpAnyH P md ops Q S fuel (listed.setIfInBounds k true) a w) → K' a w) → Oper.wp P ok a w K' Q) : wpAnyH P md ops Q S (fuel + 1) listed a w :=
 wpAnyH_ready hr (by simp) (AllReadyH.cons (by rw [← Array.getElem?_toList]; exact hi) (fun K' hK => by rw [if_pos hgi]; exact h1 K' hK) (AllReadyH.cons (by rw [← Array.getElem?_toList]; exact hj) (fun K' hK => by rw [if_pos hgj]; exact h2 K' hK) (AllReadyH.cons (by rw [← Array.getElem?_toList]; exact hk) (fun K' hK => by rw [if_pos hgk]; exact h3 K' hK) AllReadyH.nil)))
theorem held_pair {P : Program} {ops : Array Oper} {Q : Exit → Act → World → Prop} {md : Region.Mode} {S : World → Prop} (i j : Nat) {oi oj : Oper} {fuel : Nat} {listed : Array Bool} {a : Act} {w : World}
  (hr : Region.ready md ops listed = [i, j]) (hi : ops.toList[i]? = some oi) (hj : ops.toList[j]? = some oj) (hgi : Region.wanted oi (yielded ops a.tmps) = true) (hgj : Region.wanted oj (yielded ops a.tmps) = true)
  (h1 : ∀ K' : Act → World → Prop, Shut (∀ a w, S w → (S w → wpAnyH P md ops Q S fuel (listed.setIfInBounds i true) a w) → K' a w) → Oper.wp P oi a w K' Q)
  (h2 : ∀ K' : Act → World → Prop, Shut (∀ a w, S w → (S w → wpAnyH P md ops Q S fuel (listed.setIfInBounds j true) a w) → K' a w) → Oper.wp P oj a w K' Q) : wpAnyH P md ops Q S (fuel + 1) listed a w :=
 wpAnyH_ready hr (by simp) (AllReadyH.cons (by rw [← Array.getElem?_toList]; exact hi) (fun K' hK => by rw [if_pos hgi]; exact h1 K' hK) (AllReadyH.cons (by rw [← Array.getElem?_toList]; exact hj) (fun K' hK => by rw [if_pos hgj]; exact h2 K' hK) AllReadyH.nil))
theorem news1 {w : World} {B : Nat} {y0 : Value} (h : w.cell? ⟨B, 0, none⟩ = some y0) : ∀ j u, [y0][j]? = some u → w.cell? ((⟨B, 0, none⟩ : Addr).add j) = some u := fun j u hj => by
 match j with
 | 0 => simp at hj; subst hj; simpa [Addr.add] using h
 | j + 1 => simp at hj
theorem news2 {w : World} {B : Nat} {y0 y1 : Value} (h : w.cell? ⟨B, 0, none⟩ = some y0 ∧ w.cell? ⟨B, 1, none⟩ = some y1) : ∀ j u, [y0, y1][j]? = some u → w.cell? ((⟨B, 0, none⟩ : Addr).add j) = some u := fun j u hj => by
 match j with
 | 0 => simp at hj; subst hj; simpa [Addr.add] using h.1
 | 1 => simp at hj; subst hj; simpa [Addr.add] using h.2
 | j + 2 => simp at hj
theorem PgSt.start {l : List Int} {a : Option Addr} {cap : Nat} {A w : World} {S W R : Nat} (hS : S = A.heap.size) (hW : W = A.heap.size + 1) (hw : w = (A.alloc (.cells #[.slice a l.length cap, .int .i64 0] 39)).alloc (.cells #[.pointer (some ⟨S, 0, none⟩), .slice none 0 0, .slice none 0 0, .slice none 0 0, .int .i64 24, .bool false] 88)) :
  PgSt l a cap A S W R [] [] [] [] (.slice none 0 0) (.slice none 0 0) (.slice none 0 0) (.slice none 0 0) w ∧ WCells W S 24 false (.slice none 0 0) (.slice none 0 0) (.slice none 0 0) w := by
 have hk : Keep [] A w := by rw [hw]; exact ((Keep.refl _ _).alloc _).alloc _
 have hs : w.heap.size = A.heap.size + 2 := by rw [hw]; simp
 refine ⟨⟨ownsRow_nil _ _ _ _, ownsRow_nil _ _ _ _, ownsRow_nil _ _ _ _, Coll.nil _ _ _ _ _ _, ⟨?_, ?_, 0, ?_, Nat.zero_le _⟩, hk, fun o => ?_, by omega, by omega, by omega, by omega, ?_, ?_, ?_, ?_⟩, ?_⟩
 ·rw [hw, hS]; go_simp
 ·rw [hw, hS]; go_simp
 ·rw [hw, hS]; go_simp
 ·rw [hw, hW]; go_simp
 ·simp [ownB, Value.ownBlock]
 ·simp [ownB, Value.ownBlock]
 ·simp [ownB, Value.ownBlock]
 ·simp [ownB, Value.ownBlock]
 ·unfold WCells; rw [hw, hW, hS]; exact ⟨by go_simp, by go_simp, by go_simp, by go_simp, by go_simp, by go_simp⟩
end Go.Proofs.YtlbocidcjmehfaaDoor
namespace Go.Proofs.YtlbocidcjmehfaaDoor
open Go.RowKit
structure PhRow (H : List Nat) (Fb i : Nat) (s : Sig) (w : World) (pa ba : Option Addr) (pc bn bc : Nat) : Prop where
 c0 : w.cell? ⟨Fb, i * 3, none⟩ = some (.string s.1)
 c1 : w.cell? ⟨Fb, i * 3 + 1, none⟩ = some (.slice pa s.2.length pc)
 c2 : w.cell? ⟨Fb, i * 3 + 2, none⟩ = some (.slice ba bn bc)
 ps : ListRep (hideL H w) ParamRep 2 (.slice pa s.2.length pc) s.2
structure PhSt (A : World) (S W Fb R : Nat) (ms : List AMutex) (gs : List AGlobal) (fl : List Sig) (vs : List ByteArray) (vg vm uv : Value) (done : List AFunc) (left : Nat) (w : World) : Prop where
 src : Src [S, W, Fb, R] S w
 lms : ListRep (hideL [S, W, Fb, R] w) MutexRep 3 vm ms
 lgs : ListRep (hideL [S, W, Fb, R] w) GlobalRep 2 vg gs
 lvs : RowAt (hideL [S, W, Fb, R] w) uv vs.length (vs.map .string)
 frF : ∀ o, w.frozen? ⟨Fb, o, none⟩ = false
 frW : w.frozen? ⟨W, 4, none⟩ = false
 hW : W < w.heap.size
 hF : Fb < w.heap.size
 ne : W ≠ S ∧ Fb ≠ S ∧ Fb ≠ W
 keep : Keep [] A w
 lo : A.heap.size ≤ S ∧ A.heap.size ≤ W ∧ A.heap.size ≤ Fb
 hR : R < A.heap.size
 rows : ∀ i (h : i < fl.length), ∃ pa ba pc bn bc, PhRow [S, W, Fb, R] Fb i fl[i] w pa ba pc bn bc ∧ (done.length ≤ i → ba = none ∧ bn = 0 ∧ bc = 0) ∧ ∀ (hd : i < done.length), ListRep (hideL [S, W, Fb, R] w) (StmtRep (hideL [S, W, Fb, R] w)) 11 (.slice ba bn bc) done[i].body
 dl : done.length ≤ fl.length
 sg : ∀ i (h : i < done.length) (h' : i < fl.length), done[i].name = fl[i].1 ∧ done[i].params = fl[i].2
 bod : ∀ rest, MBodies ms fl gs left rest → MBodies ms fl gs 24 (done ++ rest)
theorem owned_cells {w : World} {base : Nat} {e : TypeId} {size g n cap : Nat} {xs : List Value} (h : w.ownsRow base e size (.slice (some ⟨g, 0, none⟩) n cap) n xs) : ∀ j u, xs[j]? = some u → w.cell? ⟨g, j, none⟩ = some u := fun j u hj => by
 have h1 := h.cells (g := g) rfl j u hj
 simp only [Addr.add] at h1
 split at h1
 ·rename_i h0; subst h0; exact h1
 ·simpa using h1
theorem owned_frozen {w : World} {base : Nat} {e : TypeId} {size g n cap : Nat} {xs : List Value} (h : w.ownsRow base e size (.slice (some ⟨g, 0, none⟩) n cap) n xs) (o : Nat) : w.frozen? ⟨g, o, none⟩ = false := by
 rcases h.2 with ⟨h0, _⟩ | ⟨k, c, cur, hv, _, hh, _⟩
 ·cases h0
 ·cases hv
  simp [World.frozen?, hh]
theorem owns_hide2 {N : List Nat} {w : World} {base : Nat} {e : TypeId} {size : Nat} {v : Value} {n : Nat} {xs : List Value} (h : w.ownsRow base e size v n xs) (hN : ∀ x, x ∈ N → x ∉ ownB v) : RowAt (hideL N w) v n xs := by
 obtain ⟨a, cap, he, hc, hr⟩ := RowAt.of_owns h
 refine ⟨a, cap, he, hc, ?_⟩
 rcases hr with h0 | ⟨b, off, rfl, hr⟩
 ·exact .inl h0
 ·refine .inr ⟨b, off, rfl, fun j v hj => ?_⟩
  rw [hideL_cell_ne]
  ·exact hr j v hj
  ·intro hm; exact hN b hm (ownB_mem.2 (by rw [he]; rfl))
theorem gList {w : World} {base : Nat} {N : List Nat} {v : Value} {gs : List AGlobal} (h : w.ownsRow base 92 2 v gs.length (gs.flatMap gCells)) (hN : ∀ x, x ∈ N → x ∉ ownB v) : ListRep (hideL N w) GlobalRep 2 v gs :=
 ⟨gs.map gCells, by rw [← List.flatMap_def]; exact owns_hide2 h hN, by simp, fun k hk hk' => ⟨by rw [List.getElem_map]; rfl, by rw [List.getElem_map]; rfl⟩⟩
theorem mList {w : World} {base : Nat} {N : List Nat} {v : Value} {ms : List AMutex} (h : w.ownsRow base 90 3 v ms.length (ms.flatMap mCells)) (hN : ∀ x, x ∈ N → x ∉ ownB v) : ListRep (hideL N w) MutexRep 3 v ms :=
 ⟨ms.map mCells, by rw [← List.flatMap_def]; exact owns_hide2 h hN, by simp, fun k hk hk' => ⟨by rw [List.getElem_map]; rfl, by rw [List.getElem_map]; rfl⟩⟩
theorem PhSt.start {l : List Int} {a : Option Addr} {cap : Nat} {A : World} {S W R : Nat} {gs : List AGlobal} {ms : List AMutex} {fl : List Sig} {vs : List ByteArray} {vg vm vf uv : Value} {w : World}
  (h : PgSt l a cap A S W R gs ms fl vs vg vm vf uv w) (hR : R < A.heap.size) (hr : RowAt (hideL [R] A) (.slice a l.length cap) l.length (l.map (.int .i64))) (hl : l.length ≤ 1000000000) (hn : 1 ≤ fl.length) :
  ∃ Fb fc, vf = .slice (some ⟨Fb, 0, none⟩) fl.length fc ∧ fl.length ≤ fc ∧ PhSt A S W Fb R ms gs fl vs vg vm uv [] 24 w := by
 obtain ⟨rows, h1, h2, h3⟩ := h.oF.holds
 rcases h3.2 with ⟨_, h0⟩ | ⟨Fb, fc, cur, rfl, hb, hh, hnc, _⟩
 ·omega
 have hFb : Fb ∈ ownB (.slice (some ⟨Fb, 0, none⟩) fl.length fc) := ownB_mem.2 rfl
 have hSF : Fb ≠ S := fun he => h.df.1 (he ▸ hFb)
 have hWF : Fb ≠ W := fun he => h.df.2 (he ▸ hFb)
 have hFl : Fb < w.heap.size := owns_lt_size h3 rfl
 have hlow : ∀ x, x ∈ [S, W, Fb] → A.heap.size ≤ x := fun x hx => by have := h.lS; have := h.lW; simp at hx; rcases hx with rfl | rfl | rfl <;> assumption
 have hsrc : Src [S, W, Fb, R] S w := by
  obtain ⟨i, h3, h4⟩ := h.src.c1
  refine ⟨by simp, h.src.lt, h.src.free, l, a, cap, i, h.src.c0, hr.mono (fun p u hp => ?_), h3, h4, hl⟩
  obtain ⟨e1, e2⟩ := hideL_cell hp
  have hlt := cell_lt e1
  rw [hideL_cell_ne _ _ _ (fun hm => ?_), h.keep.cell hlt (by simp)]
  ·exact e1
  ·simp at hm e2
   rcases hm with hm | hm | hm | hm
   ·have := hlow S (by simp); omega
   ·have := hlow W (by simp); omega
   ·have := hlow Fb (by simp); omega
   ·exact e2 hm
 have hd : ∀ {v : Value} {e : TypeId} {s n : Nat} {xs : List Value}, w.ownsRow A.heap.size e s v n xs → (S ∉ ownB v ∧ W ∉ ownB v) → e ≠ 76 → ∀ x, x ∈ [S, W, Fb, R] → x ∉ ownB v := fun ho hsw hne x hx => by
  simp at hx
  rcases hx with rfl | rfl | rfl | rfl
  ·exact hsw.1
  ·exact hsw.2
  ·exact fun hm => owns_dis ho h3 hne _ hm hFb
  ·exact fun hm => by have := owns_lt ho (ownB_mem.1 hm); omega
 refine ⟨Fb, fc, rfl, hnc, hsrc, mList h.om (hd h.om h.dm (by decide)), gList h.og (hd h.og h.dg (by decide)), owns_hide2 h.ov (hd h.ov h.dv (by decide)), owned_frozen h3, h.free 4, h.hW, hFl, ⟨h.ne, hSF, hWF⟩, h.keep, ⟨h.lS, h.lW, hlow _ (by simp)⟩, hR, fun i hi => ?_, Nat.zero_le _, fun i hi => absurd hi (by simp), fun rest hr => hr⟩
 obtain ⟨⟨pa, pc, hrow, hps⟩, hz⟩ := h2 i hi (by omega)
 have hall : ∀ r ∈ rows, r.length = 3 := fun r hr => by
  obtain ⟨j, hj, rfl⟩ := List.getElem_of_mem hr
  exact (h2 j (by omega) hj).2
 have hc : ∀ f u, f < 3 → rows[i][f]? = some u → w.cell? ⟨Fb, i * 3 + f, none⟩ = some u := fun f u hf hu => owned_cells h3 _ _ (by rw [flatten_get rows hall i f (by omega) hf]; exact hu)
 rw [hrow] at hc
 refine ⟨pa, none, pc, 0, 0, ⟨hc 0 _ (by omega) rfl, hc 1 _ (by omega) rfl, hc 2 _ (by omega) rfl, hps.mono (CT.sub (fun x hx => ?_)) (fun _ _ _ h => h)⟩, fun _ => ⟨rfl, rfl, rfl⟩, fun hd => absurd hd (by simp)⟩
 simp only [List.mem_append, ownB, Value.ownBlock, List.mem_cons, List.not_mem_nil, or_false] at hx ⊢
 rcases hx with rfl | rfl | rfl | rfl <;> simp
theorem PhSt.move {A : World} {S W Fb R : Nat} {ms : List AMutex} {gs : List AGlobal} {fl : List Sig} {vs : List ByteArray} {vg vm uv : Value} {done : List AFunc} {left : Nat} {w w' : World} {L : List Nat}
  (h : PhSt A S W Fb R ms gs fl vs vg vm uv done left w) (hk : Keep L w w') (hL : ∀ x, x ∈ L → x = S ∨ x = W) (hs : Src [S, W, Fb, R] S w') (hf : w'.frozen? ⟨W, 4, none⟩ = false) : PhSt A S W Fb R ms gs fl vs vg vm uv done left w' := by
 have hFL : Fb ∉ L := fun hm => by rcases hL _ hm with h9 | h9; exact h.ne.2.1 h9; exact h.ne.2.2 h9
 have ct : CT [S, W, Fb, R] w [S, W, Fb, R] w' := CT.of_keep hk (fun x hx => by rcases hL x hx with rfl | rfl <;> simp)
 refine ⟨hs, h.lms.mono ct (fun _ _ _ h => h), h.lgs.mono ct (fun _ _ _ h => h), h.lvs.mono ct, fun o => by rw [hk.frozen (p := ⟨Fb, o, none⟩) h.hF hFL]; exact h.frF o, hf, Nat.lt_of_lt_of_le h.hW hk.size, Nat.lt_of_lt_of_le h.hF hk.size, h.ne, h.keep.grow hk (fun x hx => by rcases hL x hx with rfl | rfl; exact h.lo.1; exact h.lo.2.1), h.lo, h.hR, fun i hi => ?_, h.dl, h.sg, h.bod⟩
 obtain ⟨pa, ba, pc, bn, bc, hr, h1, h2⟩ := h.rows i hi
 have c := fun o => hk.cell (p := ⟨Fb, o, none⟩) h.hF hFL
 exact ⟨pa, ba, pc, bn, bc, ⟨by rw [c]; exact hr.c0, by rw [c]; exact hr.c1, by rw [c]; exact hr.c2, hr.ps.mono ct (fun _ _ _ h => h)⟩, h1, fun hd => (h2 hd).mono ct (fun _ _ _ h => StmtRep.mono ct _ h)⟩
theorem PhSt.new {A : World} {S W Fb R : Nat} {ms : List AMutex} {gs : List AGlobal} {fl : List Sig} {vs : List ByteArray} {vg vm uv : Value} {done : List AFunc} {left : Nat} {w w' : World}
  (h : PhSt A S W Fb R ms gs fl vs vg vm uv done left w) (hk : Keep [] w w') : PhSt A S W Fb R ms gs fl vs vg vm uv done left w' :=
 h.move hk (fun x hx => by simp at hx) (h.src.keep hk (fun x hx => by simp at hx) (by simp)) (by rw [hk.frozen (p := ⟨W, 4, none⟩) h.hW (by simp)]; exact h.frW)
theorem list_of_cells {α : Type} {w : World} {R : α → List Value → Prop} {z b n cap : Nat} {l : List α} (hz : 0 < z) (hn : n = l.length) (hc : n ≤ cap) (h : ∀ i (h : i < l.length), ∃ row : List Value, row.length = z ∧ R l[i] row ∧ ∀ f u, row[f]? = some u → w.cell? ⟨b, i * z + f, none⟩ = some u) : ListRep w R z (.slice (some ⟨b, 0, none⟩) n cap) l := by
 subst hn
 have hex : ∃ rows : List (List Value), rows.length = l.length ∧ ∀ i (h : i < l.length) (h' : i < rows.length), rows[i].length = z ∧ R l[i] rows[i] ∧ ∀ f u, rows[i][f]? = some u → w.cell? ⟨b, i * z + f, none⟩ = some u := by
  refine ⟨(List.finRange l.length).map (fun i => (h i.1 i.2).choose), by simp, fun i hi hi' => ?_⟩
  simp only [List.getElem_map, List.getElem_finRange]
  exact (h i hi).choose_spec
 obtain ⟨rows, h1, h2⟩ := hex
 have hall : ∀ r ∈ rows, r.length = z := fun r hr => by
  obtain ⟨j, hj, rfl⟩ := List.getElem_of_mem hr
  exact (h2 j (by omega) hj).1
 have hlen : rows.flatten.length = rows.length * z := by
  clear h1 h2
  induction rows with
  | nil => simp
  | cons r rs ih => rw [List.flatten_cons, List.length_append, hall r (List.mem_cons_self ..), ih (fun r hr => hall r (List.mem_cons_of_mem _ hr)), List.length_cons, Nat.add_mul]; omega
 refine ⟨rows, ⟨_, _, rfl, hc, .inr ⟨b, 0, rfl, fun j u hj => ?_⟩⟩, h1, fun i hi hi' => ⟨(h2 i hi hi').2.1, (h2 i hi hi').1⟩⟩
 have hj2 : j < rows.length * z := by rw [← hlen]; exact (List.getElem?_eq_some_iff.1 hj).1
 have hi : j / z < rows.length := Nat.div_lt_of_lt_mul (by rw [Nat.mul_comm]; exact hj2)
 have hm : j % z < z := Nat.mod_lt _ hz
 have hjj : j / z * z + j % z = j := by rw [Nat.mul_comm]; exact Nat.div_add_mod j z
 have h5 := (h2 (j / z) (by omega) hi).2.2 (j % z) u (by rw [← flatten_get rows hall (j / z) (j % z) hi hm, hjj]; exact hj)
 rw [hjj] at h5
 rw [Nat.zero_add]; exact h5
theorem PhSt.sigs {A : World} {S W Fb R : Nat} {ms : List AMutex} {gs : List AGlobal} {fl : List Sig} {vs : List ByteArray} {vg vm uv : Value} {done : List AFunc} {left : Nat} {w : World} {fc : Nat}
  (h : PhSt A S W Fb R ms gs fl vs vg vm uv done left w) (hc : fl.length ≤ fc) : ListRep (hideL [S, W] w) (SigRep (hideL [S, W, Fb, R] w)) 3 (.slice (some ⟨Fb, 0, none⟩) fl.length fc) fl := by
 refine list_of_cells (by omega) rfl hc (fun i hi => ?_)
 obtain ⟨pa, ba, pc, bn, bc, hr, _, _⟩ := h.rows i hi
 refine ⟨[.string fl[i].1, .slice pa fl[i].2.length pc, .slice ba bn bc], rfl, ⟨pa, pc, _, rfl, hr.ps, ba, bn, bc, rfl⟩, fun f u hf => ?_⟩
 rw [hideL_cell_ne _ _ _ (by simp; exact h.ne.2)]
 match f with
 | 0 => simp at hf; subst hf; exact hr.c0
 | 1 => simp at hf; subst hf; exact hr.c1
 | 2 => simp at hf; subst hf; exact hr.c2
 | f + 3 => simp at hf
theorem PhSt.next {A : World} {S W Fb R : Nat} {ms : List AMutex} {gs : List AGlobal} {fl : List Sig} {vs : List ByteArray} {vg vm uv : Value} {done : List AFunc} {left left' : Nat} {w w' : World} {oa : Option Addr} {on oc : Nat} {out : List AStmt}
  (h0 : PhSt A S W Fb R ms gs fl vs vg vm uv done left w) (hk : Keep [S, W] w w') (hs : Src [S, W, Fb, R] S w') (hf : w'.frozen? ⟨W, 4, none⟩ = false) (hi : done.length < fl.length)
  (hm : MBlock ms fl fl[done.length].2 (ownVars gs fl[done.length].2) 2 left out left') (hl : ListRep (hideL [S, W, Fb, R] w') (StmtRep (hideL [S, W, Fb, R] w')) 11 (.slice oa on oc) out) :
  PhSt A S W Fb R ms gs fl vs vg vm uv (done ++ [⟨fl[done.length].1, fl[done.length].2, out⟩]) left' (w'.setCell ⟨Fb, done.length * 3 + 2, none⟩ (.slice oa on oc)) := by
 have h := h0.move hk (fun x hx => by simpa using hx) hs hf
 have k : Keep [Fb] w' (w'.setCell ⟨Fb, done.length * 3 + 2, none⟩ (.slice oa on oc)) := (Keep.refl [Fb] w').setCell (p := ⟨Fb, done.length * 3 + 2, none⟩) (.inl (List.mem_singleton.2 rfl)) _
 have ct : CT [S, W, Fb, R] w' [S, W, Fb, R] (w'.setCell ⟨Fb, done.length * 3 + 2, none⟩ (.slice oa on oc)) := CT.of_keep k (fun x hx => by simp at hx; subst hx; simp)
 have hSF : S ∉ [Fb] := by have := h.ne.2.1; simp; omega
 have hWF : W ∉ [Fb] := by have := h.ne.2.2; simp; omega
 refine ⟨h.src.keep k (fun x hx => by simp at hx; subst hx; simp) hSF, h.lms.mono ct (fun _ _ _ h => h), h.lgs.mono ct (fun _ _ _ h => h), h.lvs.mono ct, fun o => by have h9 := h.frF o; go_simp, by rw [k.frozen (p := ⟨W, 4, none⟩) h.hW hWF]; exact h.frW, Nat.lt_of_lt_of_le h.hW k.size, Nat.lt_of_lt_of_le h.hF k.size, h.ne, h.keep.grow k (fun x hx => by simp at hx; subst hx; exact h.lo.2.2), h.lo, h.hR, fun i hi2 => ?_, by simp; omega, fun i hi2 hi3 => ?_, fun rest hr => ?_⟩
 ·obtain ⟨pa, ba, pc, bn, bc, hr, h1, h2⟩ := h.rows i hi2
  have d0 := hr.c0
  have d1 := hr.c1
  have d2 := hr.c2
  by_cases he : i = done.length
  ·subst he
   obtain ⟨_, _, _, _, _, hrd, _, _⟩ := h.rows done.length hi
   have d2' := hrd.c2
   refine ⟨pa, oa, pc, on, oc, ⟨?_, ?_, ?_, hr.ps.mono ct (fun _ _ _ h => h)⟩, fun hle => by simp at hle; omega, fun hd => ?_⟩
   ·go_simp
   ·go_simp
   ·go_simp
   ·rw [List.getElem_append_right (Nat.le_refl _)]
    simp only [Nat.sub_self, List.getElem_singleton]
    exact hl.mono ct (fun _ _ _ h => StmtRep.mono ct _ h)
  ·have hne0 : ¬ (i * 3 = done.length * 3 + 2) := by omega
   have hne1 : ¬ (i * 3 + 1 = done.length * 3 + 2) := by omega
   have hne2 : ¬ (i * 3 + 2 = done.length * 3 + 2) := by omega
   have hne2' : ¬ (i * 3 = done.length * 3) := by omega
   refine ⟨pa, ba, pc, bn, bc, ⟨?_, ?_, ?_, hr.ps.mono ct (fun _ _ _ h => h)⟩, fun hle => h1 (by simp at hle; omega), fun hd => ?_⟩
   ·go_simp
   ·go_simp
   ·go_simp
   ·have hd' : i < done.length := by simp at hd; omega
    rw [List.getElem_append_left hd']
    exact (h2 hd').mono ct (fun _ _ _ h => StmtRep.mono ct _ h)
 ·rcases Nat.lt_or_ge i done.length with hlt | hge
  ·rw [List.getElem_append_left hlt]; exact h.sg i hlt hi3
  ·have he : i = done.length := by simp at hi2; omega
   subst he
   rw [List.getElem_append_right (Nat.le_refl _)]
   simp only [Nat.sub_self, List.getElem_singleton]; simp
 ·rw [List.append_assoc]
  exact h.bod _ (.cons hm hr)
theorem PhSt.fin {A : World} {S W Fb R : Nat} {ms : List AMutex} {gs : List AGlobal} {fl : List Sig} {vs : List ByteArray} {vg vm uv : Value} {done : List AFunc} {left : Nat} {w w' : World} {fc : Nat}
  (h : PhSt A S W Fb R ms gs fl vs vg vm uv done left w) (hk : Keep [R] w w') (hd : done.length = fl.length) (hc : fl.length ≤ fc)
  (hm1 : 1 ≤ ms.length ∧ ms.length ≤ 4) (hm : ∀ j (h : j < ms.length), MMutex j ms[j]) (hg1 : gs.length ≤ 2) (hg : ∀ j (h : j < gs.length), MGlobal j gs[j]) (hf1 : 1 ≤ fl.length ∧ fl.length ≤ 4) (hf : ∀ j (h : j < fl.length), MFunc j ⟨fl[j].1, fl[j].2, []⟩) :
  MProg ⟨gs, ms, done⟩ ∧ ProgRep w' ⟨gs, ms, done⟩ [vg, vm, .slice (some ⟨Fb, 0, none⟩) fl.length fc] := by
 have up : ∀ a u, (hideL [S, W, Fb, R] w).cell? a = some u → w'.cell? a = some u := fun a u ha => by
  obtain ⟨h1, h2⟩ := hideL_cell ha
  rw [hk.cell (cell_lt h1) (by simp at h2 ⊢; exact h2.2.2.2)]; exact h1
 have hFR : Fb ∉ [R] := by have := h.lo.2.2; have := h.hR; simp; omega
 have hsig : done.map AFunc.sig = fl := by
  refine List.ext_getElem (by simpa using hd) (fun i h1 h2 => ?_)
  rw [List.getElem_map]
  obtain ⟨a1, a2⟩ := h.sg i (by simpa using h1) h2
  unfold AFunc.sig
  rw [a1, a2]
 refine ⟨⟨⟨hm1.1, hm1.2, hm⟩, ⟨hg1, hg⟩, ⟨by show 1 ≤ done.length; omega, by show done.length ≤ 4; omega, fun i hi => ?_⟩, ?_⟩, ⟨vg, vm, _, rfl, h.lgs.mono up (fun _ _ _ h => h), h.lms.mono up (fun _ _ _ h => h), list_of_cells (by omega) hd.symm hc (fun i hi => ?_)⟩⟩
 ·obtain ⟨a1, a2⟩ := h.sg i hi (by rw [← hd]; exact hi)
  have := hf i (by rw [← hd]; exact hi)
  obtain ⟨b1, b2, b3⟩ := this
  exact ⟨fun h0 => ⟨by rw [a1]; exact (b1 h0).1, by rw [a2]; exact (b1 h0).2⟩, fun h0 => by rw [a1]; exact b2 h0, by rw [a2]; exact b3⟩
 ·show MBodies ms (done.map AFunc.sig) gs 24 done
  rw [hsig]
  have := h.bod [] .nil
  rwa [List.append_nil] at this
 ·have hi' : i < fl.length := by rw [← hd]; exact hi
  obtain ⟨pa, ba, pc, bn, bc, hr, _, h2⟩ := h.rows i hi'
  obtain ⟨a1, a2⟩ := h.sg i hi hi'
  have c := fun o => hk.cell (p := ⟨Fb, o, none⟩) h.hF hFR
  refine ⟨[.string fl[i].1, .slice pa fl[i].2.length pc, .slice ba bn bc], rfl, ⟨_, _, by rw [a1], by rw [a2]; exact hr.ps.mono up (fun _ _ _ h => h), (h2 hi).mono up (fun _ _ _ h => StmtRep.mono up _ h)⟩, fun f u hf => ?_⟩
  rw [c]
  match f with
  | 0 => simp at hf; subst hf; exact hr.c0
  | 1 => simp at hf; subst hf; exact hr.c1
  | 2 => simp at hf; subst hf; exact hr.c2
  | f + 3 => simp at hf
end Go.Proofs.YtlbocidcjmehfaaDoor
