import Derived.Test.YtiimofjemiffgaaDoorB1J
import Derived.Test.YtiimofjemiffgaaDoorMExprJ
set_option linter.unusedVariables false
set_option linter.unusedSimpArgs false
namespace Go.Proofs.YtiimofjemiffgaaDoor
open Go.RowKit
theorem wp_append_fresh {P : Program} (w : World) {o : Oper} {a : Act} {K : Act → World → Prop} {Q : Exit → Act → World → Prop} (s x : Operand) (t : TypeId)
  (ho : o.op = .call { callee := .builtin .append, args := #[s, x], argTypes := #[t, t] })
  (base : Nat) (e : TypeId) (i : TypeInfo) (z : Value) (size bytes : Nat) (ht : P.underlying t = some (.slice e)) (hi : P.info? e = some i) (hz : i.zero = some z)
  (hsize : i.size = size) (hby : i.bytes = bytes) (hzs : z.cells.size = size) (hsz : 0 < size)
  (v : Value) (n : Nat) (xs : List Value) (hs : a.eval s = v) (hown : w.ownsRow base e size v n xs)
  (ad : Addr) (m c : Nat) (news : List Value) (hx : a.eval x = .slice (some ad) m c) (hl : news.length = m * size) (hnews : ∀ j u, news[j]? = some u → w.cell? (ad.add j) = some u) (h1 : ∀ u ∈ news, u.oneCell' = true)
  (h63 : n + m ≤ maxLen) (hbytes : (n + m) * bytes ≤ 140737488355328) (hbase : base ≤ w.heap.size)
  (h : ∀ v' w', w'.ownsRow base e size v' (n + m) (xs ++ news) → w.grownBy w' v.ownBlock → (∀ g, v'.ownBlock = some g → v.ownBlock = some g ∨ w.heap.size ≤ g) → K (a.put o.dst v') w') : o.wp P a w K Q := by
 obtain ⟨v', w', hr, h2, h3, h4⟩ := run_append_own (P := P) w base t o.type e i z size bytes ht hi hz hsize hby hzs hsz v n xs hown ad m c news hl hnews h1 h63 hbytes hbase
 have hfr : ∀ g, v'.ownBlock = some g → v.ownBlock = some g ∨ w.heap.size ≤ g := by
  rcases hown.2 with ⟨hv0, hn0⟩ | ⟨g, cap, cur, hv0, hbg, hg, hnc, hcm, hcs, htake⟩
  ·obtain ⟨v2, w2, hr2, h5, _, _⟩ := run_append_own (P := P) w w.heap.size t o.type e i z size bytes ht hi hz hsize hby hzs hsz v n xs ⟨hown.1, .inl ⟨hv0, hn0⟩⟩ ad m c news hl hnews h1 h63 hbytes (Nat.le_refl _)
   rw [hr] at hr2
   injection hr2 with e1 e2
   subst e1
   intro k hk
   exact Or.inr (h5.lt k hk).1
  ·subst hv0
   by_cases hroom : n + m ≤ cap
   ·have hr2 := run_append_room (P := P) w t o.type e i ht hi g n cap cur hg ad m c news (by rw [hsize]; exact hl) hnews h1 hroom (by rw [hsize, hl, hcs, ← Nat.add_mul]; exact Nat.mul_le_mul_right _ hroom)
    rw [hr] at hr2
    injection hr2 with e1 e2
    subst e1
    intro k hk
    exact .inl hk
   ·have holds : ∀ j u, xs[j]? = some u → w.cell? ((⟨g, 0, none⟩ : Addr).add j) = some u := hown.cells (g := g) rfl
    have hr2 := run_append_grow (P := P) w t o.type e i z ht hi hz ⟨g, 0, none⟩ n cap xs (by rw [hsize]; exact hown.1) holds ad m c news (by rw [hsize]; exact hl) hnews (by omega) (by simp only [maxLen] at h63; omega) (by rw [hby]; exact growslice_fits (by omega) hbytes)
    rw [hr] at hr2
    injection hr2 with e1 e2
    subst e1
    intro k hk
    simp [Value.ownBlock] at hk
    exact .inr (by omega)
 unfold Oper.wp execOp
 simp only [ho, resolve, invoke, builtin, Sem.run_bind, Sem.run_pure, Result.andThen_ok, List.map_toArray, List.map_cons, List.map_nil, hs, hx, hr]
 exact h v' w' h2 h3 hfr
end Go.Proofs.YtiimofjemiffgaaDoor
namespace Go.Proofs.YtiimofjemiffgaaDoor
open Go.RowKit
def CT (H : List Nat) (w : World) (H' : List Nat) (w' : World) : Prop := ∀ a u, (hideL H w).cell? a = some u → (hideL H' w').cell? a = some u
theorem CT.refl (H : List Nat) (w : World) : CT H w H w := fun _ _ h => h
theorem CT.trans {H H' H'' : List Nat} {a b c : World} (h : CT H a H' b) (k : CT H' b H'' c) : CT H a H'' c := fun p u hp => k p u (h p u hp)
theorem CT.of_keep {H L : List Nat} {w w' : World} (h : Keep L w w') (hL : ∀ x, x ∈ L → x ∈ H) : CT H w H w' := fun a u ha => by
 obtain ⟨h1, h2⟩ := hideL_cell ha
 rw [hideL_cell_ne _ _ _ h2, h.cell (cell_lt h1) (fun hm => h2 (hL _ hm))]; exact h1
theorem CT.of_below {H : List Nat} {w w' : World} (h : Below w.heap.size w w') : CT H w H w' := CT.of_keep (L := []) (Keep.of_below h) (fun _ hx => by simp at hx)
def ownB (u : Value) : List Nat := match u.ownBlock with | some g => [g] | none => []
theorem ownB_mem {u : Value} {g : Nat} : g ∈ ownB u ↔ u.ownBlock = some g := by
 unfold ownB
 cases h : u.ownBlock with
 | none => simp
 | some k => simp [eq_comm]
theorem keep_of_grown {w w' : World} {u : Value} (h : w.grownBy w' u.ownBlock) : Keep (ownB u) w w' :=
 ⟨h.os, h.tape, h.output, h.size, fun k hk hn => h.block k hk (fun he => hn (ownB_mem.2 he.symm))⟩
theorem ownsRow_keep {H : List Nat} {w w' : World} {base : Nat} {e : TypeId} {size : Nat} {v : Value} {n : Nat} {xs : List Value} (h : w.ownsRow base e size v n xs) (hb : Keep H w w') (hH : ∀ x, x ∈ H → x < base) : w'.ownsRow base e size v n xs := by
 obtain ⟨h1, h2⟩ := h
 refine ⟨h1, ?_⟩
 rcases h2 with h2 | ⟨g, cap, cur, hv, hg, hh, r⟩
 ·exact .inl h2
 ·refine .inr ⟨g, cap, cur, hv, hg, ?_, r⟩
  have hlt : g < w.heap.size := by
   rcases Nat.lt_or_ge g w.heap.size with h | h
   ·exact h
   ·rw [Array.getElem?_eq_none h] at hh; cases hh
  rw [hb.block g hlt (fun hm => by have := hH g hm; omega)]; exact hh
structure Coll {α : Type} (R : World → α → List Value → Prop) (z : Nat) (E : TypeId) (base : Nat) (H : List Nat) (u : Value) (l : List α) (w : World) : Prop where
 holds : ∃ rows : List (List Value), rows.length = l.length ∧ (∀ i (h : i < l.length) (h' : i < rows.length), R (hideL (ownB u ++ H) w) l[i] rows[i] ∧ rows[i].length = z) ∧ w.ownsRow base E z u l.length rows.flatten
theorem Coll.nil {α : Type} (R : World → α → List Value → Prop) (z : Nat) (E : TypeId) (base : Nat) (H : List Nat) (w : World) : Coll R z E base H (.slice none 0 0) ([] : List α) w :=
 ⟨[], rfl, fun i h => absurd h (by simp), ownsRow_nil _ _ _ _⟩
theorem Coll.keep {α : Type} {R : World → α → List Value → Prop} {z : Nat} {E : TypeId} {base : Nat} {H L : List Nat} {u : Value} {l : List α} {w w' : World} (h : Coll R z E base H u l w) (hR : ∀ w w' a cs, (∀ p v, w.cell? p = some v → w'.cell? p = some v) → R w a cs → R w' a cs)
  (hk : Keep L w w') (hL : ∀ x, x ∈ L → x ∈ H ∧ x < base) : Coll R z E base H u l w' := by
 obtain ⟨rows, h1, h2, h3⟩ := h.holds
 exact ⟨rows, h1, fun i h h' => ⟨hR _ _ _ _ (CT.of_keep hk (fun x hx => List.mem_append_right _ (hL x hx).1)) (h2 i h h').1, (h2 i h h').2⟩, ownsRow_keep h3 hk (fun x hx => (hL x hx).2)⟩
end Go.Proofs.YtiimofjemiffgaaDoor
