import Derived.Test.YtflcnehhpmjipaaGreatDoorW2J
import Derived.Laws.CopyRow
import Derived.Great.FillDense
import Derived.Great.BuildSlice
set_option linter.unusedVariables false
set_option linter.unusedSimpArgs false
namespace Go.Proofs.YtflcnehhpmjipaaGreatDoor
open Go.RowKit
section
variable {P : Program} {U : List Nat} {o : Oper} {st : AS} {K : AS → Prop}
def cellsT : AT → Option (List AC)
 | .c x => some [x]
 | .agg cs => some cs
 | _ => none
theorem cells_rep {w : World} {t : AT} {cs : List AC} {v : Value} (h : cellsT t = some cs) (hr : RepT w t v) : RepL w cs v.cells.toList := by
 cases hr with
 | c x v hx =>
  cases h
  have : v.cells = #[v] := by have := hx.one; cases v <;> first | rfl | cases this
  rw [this]; exact .cons hx (.nil _)
 | agg cs' us h1 => cases h; simpa [Value.cells] using h1
 | _ => cases h
theorem hide_cons (b : Nat) (bl : List Nat) (w : World) (o : Obj) (hb : b = w.heap.size) : Up2 (hideL bl w) (hideL (b :: bl) (w.alloc o)) :=
 up_keep (T := []) ((Keep.refl _ _).alloc o) (fun _ h => by cases h) (fun x hx => by rcases List.mem_cons.1 hx with rfl | hx; exact .inr (by omega); exact .inl hx)
theorem Mem.up {s : Sto} {w w1 : World} {bl1 : List Nat} (h : Mem s w) (hu : Up2 (hideL s.bl w) (hideL bl1 w1)) (hk : ∀ b, b ∈ s.bl → w1.heap[b]? = w.heap[b]?) :
  (∀ x, x ∈ s.boxes → ∃ us, w1.heap[x.b]? = some (.cells us.toArray x.T (0, 0)) ∧ RepL (hideL bl1 w1) x.cs us) ∧ (∀ r, r ∈ s.rows → ∃ us, w1.ownsRow 0 r.E r.z r.v r.n us ∧ RepL (hideL bl1 w1) r.cs us) := by
 refine ⟨fun x hx => ?_, fun r hr => ?_⟩
 ·obtain ⟨us, h1, h2⟩ := h.box x hx
  exact ⟨us, by rw [hk _ (List.mem_append_left _ (List.mem_map.2 ⟨x, hx, rfl⟩))]; exact h1, h2.mono hu⟩
 ·obtain ⟨us, ⟨h1, h2⟩, h3⟩ := h.row r hr
  refine ⟨us, ⟨h1, ?_⟩, h3.mono hu⟩
  rcases h2 with h2 | ⟨g, cap, cur, hv, hg, hh, r3⟩
  ·exact .inl h2
  ·refine .inr ⟨g, cap, cur, hv, hg, ?_, r3⟩
   rw [hk g (List.mem_append_right _ (List.mem_flatMap.2 ⟨r, hr, by rw [hv]; simp [rowB, Value.ownBlock]⟩))]; exact hh
theorem Mem.new {s : Sto} {w : World} (h : Mem s w) (T : TypeId) (cs : List AC) (us : List Value) (hr : RepL (hideL s.bl w) cs us) : Mem ⟨⟨w.heap.size, T, cs⟩ :: s.boxes, s.rows⟩ (w.alloc (.cells us.toArray T)) := by
 have hu := hide_cons w.heap.size s.bl w (.cells us.toArray T) rfl
 have hne : ∀ b, b ∈ s.bl → (w.alloc (.cells us.toArray T)).heap[b]? = w.heap[b]? := fun b hb => ((Keep.refl [] w).alloc _).block b (h.lt b hb) (fun h => by cases h)
 obtain ⟨h1, h2⟩ := h.up hu hne
 refine ⟨List.nodup_cons.2 ⟨fun hm => Nat.lt_irrefl _ (h.lt _ hm), h.nodup⟩, fun b hb => ?_, fun x hx => ?_, h2⟩
 ·rcases List.mem_cons.1 hb with rfl | hb
  ·simp
  ·have := h.lt b hb; simp; omega
 ·rcases List.mem_cons.1 hx with rfl | hx
  ·exact ⟨us, by show (w.heap.push _)[w.heap.size]? = _; simp, hr.mono hu⟩
  ·exact h1 x hx
theorem Ext.new (st : AS) (w : World) (o : Obj) (x : Box) (hx : x.b = w.heap.size) (ts : List (Nat × AT)) : Ext st w { st with s := ⟨x :: st.s.boxes, st.s.rows⟩, T := x.b :: st.T, ts := ts } (w.alloc o) :=
 ⟨(Keep.refl _ _).alloc o, (Keep.refl _ _).alloc o, fun b hb => by rcases List.mem_cons.1 hb with rfl | hb; exact .inr (by omega); exact .inl hb, fun b hb => by rcases List.mem_cons.1 hb with rfl | hb; exact .inr (by omega); exact .inl hb⟩
theorem ao_new {d : Nat} {T : TypeId} {cs : List AC} (hd : o.dst = some d) (hn : d < st.n)
  (hx : ∀ a w, Sim st a w → ∃ us, RepL (hideL st.s.bl w) cs us ∧ (execOp a.eval o).run P w = .ok (.value (.pointer (some ⟨w.heap.size, 0, none⟩))) (w.alloc (.cells us.toArray T)))
  (h : ∀ b, K { st with s := ⟨⟨b, T, cs⟩ :: st.s.boxes, st.s.rows⟩, T := b :: st.T, ts := (d, .c (.val (.pointer (some ⟨b, 0, none⟩)))) :: st.ts }) : AO P U o st K := by
 intro a w hs KK QQ hK
 obtain ⟨us, hr, hrun⟩ := hx a w hs
 unfold Oper.wp
 rw [hrun, Oper.upon_value, hd]
 have hm := hs.mem.new T cs us hr
 have s1 := hs.step (w1 := w.alloc (.cells us.toArray T)) (w.heap.size :: st.T) ((Keep.refl _ _).alloc _) hm (fun b hb => by rcases List.mem_cons.1 hb with rfl | hb; exact .inr (Nat.le_refl _); exact .inl hb)
 exact hK _ _ _ (h w.heap.size) (s1.put hn (.c _ _ (.val _ rfl))) (Ext.new st w _ ⟨w.heap.size, T, cs⟩ rfl _) ((Keep.refl _ _).alloc _)
theorem ao_box {T : TypeId} {x : Operand} {t : AT} {d : Nat} {cs : List AC} (ho : o.op = .box T x) (hd : o.dst = some d) (hn : d < st.n) (hx : evA st x = some t) (hc : cellsT t = some cs)
  (h : ∀ b, K { st with s := ⟨⟨b, T, cs⟩ :: st.s.boxes, st.s.rows⟩, T := b :: st.T, ts := (d, .c (.val (.pointer (some ⟨b, 0, none⟩)))) :: st.ts }) : AO P U o st K :=
 ao_new hd hn (fun a w hs => ⟨_, cells_rep hc (hs.ev hx), by simp only [execOp, ho, Instr.box, newVar, newRow, Sem.run_bind, run_newObj_alloc, Result.andThen_ok, Sem.run_pure, Array.toArray_toList]⟩) h
theorem ao_alloc {T : TypeId} {d : Nat} {z : Value} {cs : List AC} (ho : o.op = .alloc T) (hd : o.dst = some d) (hn : d < st.n) (hz : ∀ w, (zeroValue T).run P w = .ok z w) (hc : cellsT (cst z) = some cs)
  (h : ∀ b, K { st with s := ⟨⟨b, T, cs⟩ :: st.s.boxes, st.s.rows⟩, T := b :: st.T, ts := (d, .c (.val (.pointer (some ⟨b, 0, none⟩)))) :: st.ts }) : AO P U o st K :=
 ao_new hd hn (fun a w hs => ⟨_, cells_rep hc (cst_ok _ z), by simp only [execOp, ho, Instr.alloc, newVar, newRow, Sem.run_bind, hz, run_newObj_alloc, Result.andThen_ok, Sem.run_pure, Array.toArray_toList]⟩) h
def splice (cs : List AC) (off : Nat) (ds : List AC) : List AC := cs.take off ++ ds ++ cs.drop (off + ds.length)
theorem RepL.splice {w : World} {cs ds : List AC} {us vs : List Value} (h : RepL w cs us) (k : RepL w ds vs) (off : Nat) : RepL w (splice cs off ds) (us.take off ++ vs ++ us.drop (off + vs.length)) := by
 unfold Go.Proofs.YtflcnehhpmjipaaGreatDoor.splice
 rw [← k.len]
 exact ((h.take _).app k).app (h.drop _)
theorem keep_setRow (w : World) (g : Nat) (c : Array Value) : Keep [g] w (w.setRow g c) :=
 ⟨rfl, rfl, rfl, by simp [World.setRow], fun k hk hn => by
  unfold World.setRow
  simp only [Array.getElem?_modify]
  rw [if_neg (fun h => hn (by simp [h]))]⟩
theorem Mem.setRow {s : Sto} {w : World} {A B : List Box} {b : Nat} {T : TypeId} {cs ds : List AC} {us vs : List Value} (h : Mem s w) (hb : s.boxes = A ++ ⟨b, T, cs⟩ :: B) (h1 : w.heap[b]? = some (.cells us.toArray T (0, 0))) (hr : RepL (hideL s.bl w) ds vs) :
  Mem ⟨A ++ ⟨b, T, ds⟩ :: B, s.rows⟩ (w.setRow b vs.toArray) := by
 have hbl : (⟨A ++ ⟨b, T, ds⟩ :: B, s.rows⟩ : Sto).bl = s.bl := by unfold Sto.bl; rw [hb]; simp
 have hmem : b ∈ s.bl := by unfold Sto.bl; rw [hb]; simp
 have hk := keep_setRow w b vs.toArray
 have hu : Up2 (hideL s.bl w) (hideL s.bl (w.setRow b vs.toArray)) := up_keep hk (fun x hx => by simp at hx; subst hx; exact hmem) (fun x hx => .inl hx)
 have hnd := h.nodup
 have hne : ∀ x, x ∈ A ∨ x ∈ B → x.b ≠ b := by
  intro x hx he
  have h2 : (s.boxes.map Box.b).Nodup := (List.nodup_append.1 hnd).1
  rw [hb] at h2
  simp only [List.map_append, List.map_cons, List.nodup_append, List.nodup_cons, List.mem_cons, List.mem_map] at h2
  rcases hx with hx | hx
  ·exact h2.2.2 x.b ⟨x, hx, rfl⟩ b (.inl rfl) he
  ·exact h2.2.1.1 ⟨x, hx, he⟩
 have hrow : ∀ r, r ∈ s.rows → b ∉ rowB r.v := by
  intro r hr hm
  have h2 := (List.nodup_append.1 hnd).2.2 b (by rw [hb]; simp) b (List.mem_flatMap.2 ⟨r, hr, hm⟩)
  exact h2 rfl
 refine ⟨by rw [hbl]; exact hnd, fun x hx => by rw [hbl] at hx; exact Nat.lt_of_lt_of_le (h.lt x hx) hk.size, fun x hx => ?_, fun r hr2 => ?_⟩
 ·rw [hbl]
  simp only [List.mem_append, List.mem_cons] at hx
  have old : x ∈ A ∨ x ∈ B → ∃ us, (w.setRow b vs.toArray).heap[x.b]? = some (.cells us.toArray x.T (0, 0)) ∧ RepL (hideL s.bl (w.setRow b vs.toArray)) x.cs us := fun hx => by
   have hx2 : x ∈ s.boxes := by rw [hb]; simp only [List.mem_append, List.mem_cons]; rcases hx with h | h; exact .inl h; exact .inr (.inr h)
   obtain ⟨us', e1, e2⟩ := h.box x hx2
   exact ⟨us', by rw [hk.block _ (h.lt _ (List.mem_append_left _ (List.mem_map.2 ⟨x, hx2, rfl⟩))) (by simp; exact hne x hx)]; exact e1, e2.mono hu⟩
  rcases hx with hx | rfl | hx
  ·exact old (.inl hx)
  ·exact ⟨vs, setRow_heap w b us.toArray _ T (0, 0) h1, hr.mono hu⟩
  ·exact old (.inr hx)
 ·rw [hbl]
  obtain ⟨us', ⟨e1, e2⟩, e3⟩ := h.row r hr2
  refine ⟨us', ⟨e1, ?_⟩, e3.mono hu⟩
  rcases e2 with e2 | ⟨g, cap, cur, hv, hg, hh, r3⟩
  ·exact .inl e2
  ·have hgb : g ∈ rowB r.v := by rw [hv]; simp [rowB, Value.ownBlock]
   refine .inr ⟨g, cap, cur, hv, hg, ?_, r3⟩
   rw [hk.block g (h.lt g (List.mem_append_right _ (List.mem_flatMap.2 ⟨r, hr2, hgb⟩))) (by simp; intro he; subst he; exact hrow r hr2 hgb)]; exact hh
theorem ao_store {ty : TypeId} {x y : Operand} {b off z : Nat} {T : TypeId} {cs ds r : List AC} {t : AT} (A : List Box) {B : List Box} (ho : o.op = .store ty x y) (hd : o.dst = none) (hx : evA st x = some (.c (.val (.pointer (some ⟨b, off, none⟩))))) (hy : evA st y = some t) (hc : cellsT t = some ds)
  (hb : st.s.boxes = A ++ ⟨b, T, cs⟩ :: B) (hS : ∀ w, (sizeOf ty).run P w = .ok z w) (hz : ds.length = z) (hl : off + z ≤ cs.length) (hr : splice cs off ds = r) (hT : b ∈ st.T) (hU : st.s.bl.Nodup → b ∈ U)
  (h : K { st with s := ⟨A ++ ⟨b, T, r⟩ :: B, st.s.rows⟩ }) : AO P U o st K := by
 intro a w hs KK QQ hK
 subst hr
 have hmem : (⟨b, T, cs⟩ : Box) ∈ st.s.boxes := by rw [hb]; simp
 obtain ⟨us, h1, h2⟩ := hs.mem.box _ hmem
 have hv := cells_rep hc (hs.ev hy)
 have hlen := hv.len
 have hl2 : us.length = cs.length := h2.len
 have hbl : (⟨A ++ ⟨b, T, splice cs off ds⟩ :: B, st.s.rows⟩ : Sto).bl = st.s.bl := by unfold Sto.bl; rw [hb]; simp
 have hbm : b ∈ st.s.bl := by unfold Sto.bl; rw [hb]; simp
 have hst := run_storeCells_at (P := P) b off T (a.eval y).cells.toList 0 us.toArray w h1 (by simp only [List.size_toArray]; omega) hv.one
 simp only [Nat.add_zero, Array.toArray_toList] at hst
 have hk := keep_setRow w b (us.take off ++ (a.eval y).cells.toList ++ us.drop (off + (a.eval y).cells.toList.length)).toArray
 unfold Oper.wp
 have hrun : (execOp a.eval o).run P w = .ok .skip (w.setRow b (us.take off ++ (a.eval y).cells.toList ++ us.drop (off + (a.eval y).cells.toList.length)).toArray) := by
  have hsz : (a.eval y).cells.size = z := by rw [← Array.length_toList, hlen, hz]
  simp only [execOp, ho, hs.val hx, Instr.storeAt, Instr.sureAddr, storeVar, Sem.run_bind, Sem.run_pure, Result.andThen_ok, hS, hsz, ne_eq, not_true_eq_false, if_false]
  rw [hst]; rfl
 rw [hrun, Oper.upon_skip, hd]
 have hm := hs.mem.setRow hb h1 (h2.splice hv off)
 refine hK _ _ _ h (hs.step st.T (hk.mono (by simp; exact hbm)) hm (fun x hx => .inl (by rw [hbl] at hx; exact hx))) ⟨hk.mono (by simp; exact hbm), hk.mono (by simp; exact hT), fun x hx => .inl (by rw [hbl] at hx; exact hx), fun x hx => .inl hx⟩ (hk.mono (by simp; exact hU hs.mem.nodup))
def fillA (place : Nat → Option (Nat × Nat)) (cells : List AC) : List (Nat × AT) → Option (List AC)
 | [] => some cells
 | (i, t) :: rest =>
  match place i, cellsT t with
  | some (off, z), some cs => if cs.length = z ∧ off + z ≤ cells.length then fillA place (splice cells off cs) rest else none
  | _, _ => none
theorem foldl_splice (off : Nat) (vs : List Value) (cells : Array Value) (h : off + vs.length ≤ cells.size) : ((vs.zipIdx).foldl (fun cs (x : Value × Nat) => cs.setIfInBounds (off + x.2) x.1) cells).toList = cells.toList.take off ++ vs ++ cells.toList.drop (off + vs.length) := by
 obtain ⟨h1, h2⟩ := Great.foldl_set off vs 0 cells
 generalize hF : (vs.zipIdx).foldl (fun cs (x : Value × Nat) => cs.setIfInBounds (off + x.2) x.1) cells = F at h1 h2
 refine List.ext_getElem? fun k => ?_
 have h3 := h2 k
 rw [← Array.getElem?_toList] at h3
 rw [h3]
 by_cases hk : k < off
 ·rw [if_neg (by omega), List.append_assoc, List.getElem?_append_left (by simp; omega), List.getElem?_take_of_lt hk]; simp
 ·by_cases hk2 : k < off + vs.length
  ·rw [if_pos ⟨by omega, by omega, by omega⟩, List.append_assoc, List.getElem?_append_right (by simp; omega), List.getElem?_append_left (by simp; omega)]
   congr 1; simp; omega
  ·rw [if_neg (by omega), List.getElem?_append_right (by simp; omega), List.getElem?_drop]
   have e : off + vs.length + (k - (cells.toList.take off ++ vs).length) = k := by simp; omega
   rw [e]; simp
theorem fill_rep {w : World} {place : Nat → Option (Nat × Nat)} {a : Act} : ∀ (ps : List (Nat × Operand)) (ts : List (Nat × AT)) (cells : List AC) (us : Array Value) (r : List AC), ps.map Prod.fst = ts.map Prod.fst → (∀ i (h : i < ps.length) (h' : i < ts.length), RepT w ts[i].2 (a.eval ps[i].2)) → RepL w cells us.toList → fillA place cells ts = some r →
  ∃ vs : Array Value, Instr.fill place us (ps.map fun x => (x.1, a.eval x.2)) = some vs ∧ RepL w r vs.toList
 | [], ts, cells, us, r, hf, _, hr, hfill => by
  cases ts with
  | nil => cases hfill; exact ⟨us, rfl, hr⟩
  | cons => cases hf
 | (i, x) :: ps, ts, cells, us, r, hf, hv, hr, hfill => by
  cases ts with
  | nil => cases hf
  | cons p ts =>
   obtain ⟨j, t⟩ := p
   simp only [List.map_cons, List.cons.injEq] at hf
   obtain ⟨rfl, hf⟩ := hf
   have hv0 : RepT w t (a.eval x) := hv 0 (by simp) (by simp)
   simp only [fillA] at hfill
   split at hfill
   ·rename_i off z cs hp hc
    split at hfill
    ·rename_i hz
     obtain ⟨hz1, hz2⟩ := hz
     have hcr := cells_rep hc hv0
     have hsz : (a.eval x).cells.size = z := by rw [← Array.length_toList, hcr.len, hz1]
     have hus : us.size = cells.length := by rw [← Array.length_toList, hr.len]
     have hfo := foldl_splice off (a.eval x).cells.toList us (by simp; omega)
     have hrep := hr.splice hcr off
     rw [← hfo] at hrep
     obtain ⟨vs, h1, h2⟩ := fill_rep ps ts _ _ r hf (fun k h h' => hv (k + 1) (by simpa using h) (by simpa using h')) hrep hfill
     refine ⟨vs, ?_, h2⟩
     simp only [List.map_cons, Instr.fill, hp]
     rw [if_neg (by simp only [hsz]; simp; omega)]
     rw [← h1]
     congr 1
     rw [← Array.foldl_toList]
     congr 1
     simp
    ·cases hfill
   ·cases hfill
inductive EvP (st : AS) : List (Nat × Operand) → List (Nat × AT) → Prop
 | nil : EvP st [] []
 | cons {i : Nat} {x : Operand} {t : AT} {ps : List (Nat × Operand)} {ts : List (Nat × AT)} (h : evA st x = some t) (r : EvP st ps ts) : EvP st ((i, x) :: ps) ((i, t) :: ts)
theorem EvP.map {ps : List (Nat × Operand)} {ts : List (Nat × AT)} (h : EvP st ps ts) : ps.map (fun p => (evA st p.2).map (Prod.mk p.1)) = ts.map some := by
 induction h with
 | nil => rfl
 | cons h _ ih => simp [h, ih]
theorem evs_get {ps : List (Nat × Operand)} {ts : List (Nat × AT)} (h : ps.map (fun p => (evA st p.2).map (Prod.mk p.1)) = ts.map some) : ps.map Prod.fst = ts.map Prod.fst ∧ ∀ i (h1 : i < ps.length) (h2 : i < ts.length), evA st ps[i].2 = some ts[i].2 := by
 induction ps generalizing ts with
 | nil => cases ts with | nil => exact ⟨rfl, fun i h => absurd h (by simp)⟩ | cons => cases h
 | cons p ps ih =>
  cases ts with
  | nil => cases h
  | cons t ts =>
   simp only [List.map_cons, List.cons.injEq] at h
   obtain ⟨h1, h2⟩ := ih h.2
   have h3 := h.1
   cases he : evA st p.2 with
   | none => rw [he] at h3; cases h3
   | some u =>
    rw [he] at h3
    simp only [Option.map_some, Option.some.injEq] at h3
    subst h3
    refine ⟨by simp [h1], fun i hi hi2 => ?_⟩
    cases i with
    | zero => exact he
    | succ i => exact h2 i (by simpa using hi) (by simpa using hi2)
theorem ay_build {t : TypeId} {fs : Array Field} (i : TypeInfo) {z : Value} {parts : Array (Nat × Operand)} {ps : List (Nat × AT)} (pl : List (Nat × Nat)) {zc r : List AC} (ho : o.op = .build t parts) (hps : EvP st parts.toList ps)
  (hu : P.underlying t = some (.struct fs)) (hi : P.info? t = some i) (hz : i.zero = some z) (hpl : fs.toList.mapM (fun f => (P.info? f.type).map fun i => (f.offset, i.size)) = some pl) (hzc : cellsT (cst z) = some zc)
  (hf : fillA (pl.toArray[·]?) zc ps = some r) : AY P U o st (.agg r) := by
 intro a w hs _
 obtain ⟨h1, h2⟩ := evs_get hps.map
 obtain ⟨vs, e1, e2⟩ := fill_rep (w := hideL st.s.bl w) (a := a) parts.toList ps zc z.cells r h1 (fun i h h' => hs.ev (h2 i h h')) (cells_rep hzc (cst_ok _ z)) hf
 refine ⟨.agg vs, by simpa using RepT.agg _ _ e2, fun w' _ => ?_⟩
 have hb : P.built t (parts.map fun p => (p.1, a.eval p.2)).toList = some vs := by
  unfold Program.built
  rw [hi, hu]
  simp only [hz, hpl]
  rw [Array.toList_map]; exact e1
 simp only [execOp, ho, Sem.run_bind]
 rw [run_build w' t _ vs hb]; rfl
theorem ao_buildSlice {t e : TypeId} (i : TypeInfo) {z : Value} {len : Nat} {parts : Array (Nat × Operand)} {ps : List (Nat × AT)} {zc r : List AC} {d : Nat} (ho : o.op = .buildSlice t len parts) (hd : o.dst = some d) (hn : d < st.n) (hps : EvP st parts.toList ps)
  (hu : P.underlying t = some (.slice e)) (hi : P.info? e = some i) (hz : i.zero = some z) (hsmall : ¬ len * i.size > 2 ^ 24) (hpos : ¬ len * i.size = 0) (hzc : (((Array.range (len * i.size)).map (z.cells[· % z.cells.size]!)).toList.all (·.oneCell')) = true) (hzr : ((Array.range (len * i.size)).map (z.cells[· % z.cells.size]!)).toList.map .val = zc)
  (hf : fillA (fun k => some (k * i.size, i.size)) zc ps = some r) (h : K { st with ts := (d, .c (.sl len r)) :: st.ts }) : AO P U o st K := by
 intro a w hs KK QQ hK
 obtain ⟨h1, h2⟩ := evs_get hps.map
 subst hzr
 obtain ⟨vs, e1, e2⟩ := fill_rep (w := hideL st.s.bl w) (a := a) (place := fun k => some (k * i.size, i.size)) parts.toList ps _ ((Array.range (len * i.size)).map (z.cells[· % z.cells.size]!)) r h1 (fun i h h' => hs.ev (h2 i h h')) (repL_vals _ _ fun u hu => by simpa using List.all_eq_true.1 hzc u hu) hf
 unfold Oper.wp
 have hrun : (execOp a.eval o).run P w = .ok (.value (.slice (some ⟨w.heap.size, 0, none⟩) len len)) (w.alloc (.cells vs e)) := by
  simp only [execOp, ho, Sem.run_bind]
  rw [run_buildSlice w t e len _ vs i z hu hi hz hsmall hpos (by rw [Array.toList_map]; exact e1)]; rfl
 rw [hrun, Oper.upon_value, hd]
 have hk : Keep [] w (w.alloc (.cells vs e)) := (Keep.refl _ _).alloc _
 have hub : Up2 (hideL st.s.bl w) (hideL st.s.bl (w.alloc (.cells vs e))) := up_keep hk (fun _ h => by cases h) (fun b h => .inl h)
 obtain ⟨m1, m2⟩ := hs.mem.up hub (fun b hb => hk.block b (hs.mem.lt b hb) (by simp))
 have hm : Mem st.s (w.alloc (.cells vs e)) := ⟨hs.mem.nodup, fun b hb => Nat.lt_of_lt_of_le (hs.mem.lt b hb) hk.size, m1, m2⟩
 have s1 := hs.step (w1 := w.alloc (.cells vs e)) st.T (hk.mono (by simp)) hm (fun b hb => .inl hb)
 have hmaxcap : len ≤ 16777216 := by
  have h1 : 0 < i.size := Nat.pos_of_ne_zero fun h0 => hpos (by rw [h0]; rfl)
  have h2 := Nat.le_mul_of_pos_right len h1
  omega
 have hrow : RepT (hideL st.s.bl (w.alloc (.cells vs e))) (.c (.sl len r)) (.slice (some ⟨w.heap.size, 0, none⟩) len len) := by
  refine .c _ _ (.sl _ _ vs.toList _ ?_ e2.len (fun i h h' => (e2.at_ i h h').mono hub) (fun _ _ _ h => by cases h; have := hmaxcap; omega))
  have := RowAt.hide_new st.s.bl w vs.toList e len w.heap.size rfl hs.mem.lt
  rw [Array.toArray_toList] at this; exact this
 exact hK _ _ _ h (s1.put hn hrow) ⟨hk.mono (by simp), hk.mono (by simp), fun b hb => .inl hb, fun b hb => .inl hb⟩ (hk.mono (by simp))
end
end Go.Proofs.YtflcnehhpmjipaaGreatDoor
namespace Go.Proofs.YtflcnehhpmjipaaGreatDoor
open Go.RowKit
section
variable {P : Program} {U : List Nat} {o : Oper} {st : AS} {K : AS → Prop}
theorem ownsRow_keep3 {w w1 : World} {e : TypeId} {z n : Nat} {v : Value} {us : List Value} (h : w.ownsRow 0 e z v n us) (hk : ∀ g, g ∈ rowB v → w1.heap[g]? = w.heap[g]?) : w1.ownsRow 0 e z v n us := by
 obtain ⟨h1, h2⟩ := h
 refine ⟨h1, ?_⟩
 rcases h2 with h2 | ⟨g, cap, cur, hv, hg, hh, r⟩
 ·exact .inl h2
 ·exact .inr ⟨g, cap, cur, hv, hg, by rw [hk g (by rw [hv]; simp [rowB, Value.ownBlock])]; exact hh, r⟩
theorem rowB_mem {u : Value} {g : Nat} : g ∈ rowB u ↔ u.ownBlock = some g := by
 unfold rowB
 cases h : u.ownBlock with
 | none => simp
 | some k => simp [eq_comm]
theorem rowB_nodup (u : Value) : (rowB u).Nodup := by unfold rowB; cases u.ownBlock <;> simp
theorem nodup_swap {L r r' R : List Nat} {N : Nat} (h : (L ++ (r ++ R)).Nodup) (hr : ∀ b, b ∈ r' → b ∈ r ∨ N ≤ b) (hlt : ∀ b, b ∈ L ++ (r ++ R) → b < N) (hn : r'.Nodup) : (L ++ (r' ++ R)).Nodup := by
 simp only [List.nodup_append, List.mem_append] at h hlt ⊢
 obtain ⟨h1, ⟨h2, h3, h4⟩, h5⟩ := h
 refine ⟨h1, ⟨hn, h3, fun a ha b hb => ?_⟩, fun a ha b hb => ?_⟩
 ·rcases hr a ha with h6 | h6
  ·exact h4 a h6 b hb
  ·have := hlt b (.inr (.inr hb)); omega
 ·rcases hb with hb | hb
  ·rcases hr b hb with h6 | h6
   ·exact h5 a ha b (.inl h6)
   ·have := hlt a (.inl ha); omega
  ·exact h5 a ha b (.inr hb)
theorem bl_rows (bx : List Box) (A B : List ORow) (r : ORow) : (⟨bx, A ++ r :: B⟩ : Sto).bl = (bx.map Box.b ++ A.flatMap fun r => rowB r.v) ++ (rowB r.v ++ B.flatMap fun r => rowB r.v) := by unfold Sto.bl; simp
theorem ao_append {t e : TypeId} {x y : Operand} {d n m z bytes : Nat} {v zv : Value} {cs ds : List AC} {i : TypeInfo} (A : List ORow) {B : List ORow} (ho : o.op = .call { callee := .builtin .append, args := #[x, y], argTypes := #[t, t] }) (hd : o.dst = some d) (hn : d < st.n)
  (hx : evA st x = some (.c (.val v))) (hrow : st.s.rows = A ++ ⟨v, e, z, n, cs⟩ :: B) (hy : evA st y = some (.c (.sl m ds))) (hu : P.underlying t = some (.slice e)) (hi : P.info? e = some i) (hz : i.zero = some zv) (hsz : i.size = z) (hby : i.bytes = bytes) (hzs : zv.cells.size = z) (h0 : 0 < z)
  (hm : ds.length = m * z) (hm0 : 0 < m) (hlen : n + m ≤ maxLen) (hbytes : (n + m) * bytes ≤ 140737488355328) (hU : st.s.bl.Nodup → ∀ b, b ∈ rowB v → b ∈ U) (hT : ∀ b, b ∈ rowB v → b ∈ st.T)
  (h : ∀ v', K { st with s := ⟨st.s.boxes, A ++ ⟨v', e, z, n + m, cs ++ ds⟩ :: B⟩, T := rowB v' ++ st.T, ts := (d, .c (.val v')) :: st.ts }) : AO P U o st K := by
 intro a w hs KK QQ hK
 obtain ⟨us, hown, hrep⟩ := hs.mem.row ⟨v, e, z, n, cs⟩ (by rw [hrow]; simp)
 have hye := hs.ev hy
 generalize hyv : a.eval y = yv at hye
 cases hye with
 | c _ _ hye => cases hye with
  | sl _ _ ys _ hra hyl hyr =>
   obtain ⟨p, cap, rfl, -, hra⟩ := hra
   rcases hra with rfl | ⟨b, of, rfl, hc⟩
   ·simp at hyl
    have : 0 < m * z := Nat.mul_pos hm0 h0
    omega
   ·have hyrep : RepL (hideL st.s.bl w) ds ys := ⟨hyl, hyr⟩
    refine wp_append_fresh w x y t ho 0 e i zv z bytes hu hi hz hsz hby hzs h0 v n us (hs.val hx) hown ⟨b, of, none⟩ m cap ys hyv (by rw [hyl, hm]) (fun j u hj => by rw [add_addr]; exact (hideL_cell (hc j u hj)).1) hyrep.one hlen hbytes (Nat.zero_le _) ?_
    intro v' w' hown' hgrow hfr
    have hkr : Keep (rowB v) w w' := ⟨hgrow.os, hgrow.tape, hgrow.output, hgrow.size, fun k hk hn => hgrow.block k hk (fun he => hn (rowB_mem.2 he.symm))⟩
    have hfr2 : ∀ g, g ∈ rowB v' → g ∈ rowB v ∨ w.heap.size ≤ g := fun g hg => (hfr g (rowB_mem.1 hg)).imp rowB_mem.2 id
    have hbl0 : st.s.bl = (st.s.boxes.map Box.b ++ A.flatMap fun r => rowB r.v) ++ (rowB v ++ B.flatMap fun r => rowB r.v) := by have := bl_rows st.s.boxes A B ⟨v, e, z, n, cs⟩; rw [← hrow] at this; exact this
    have hbl1 := bl_rows st.s.boxes A B ⟨v', e, z, n + m, cs ++ ds⟩
    generalize hs1 : (⟨st.s.boxes, A ++ ⟨v', e, z, n + m, cs ++ ds⟩ :: B⟩ : Sto) = s1 at hbl1
    have hvb : ∀ g, g ∈ rowB v → g ∈ st.s.bl := fun g hg => by rw [hbl0]; simp [hg]
    have hsub : ∀ g, g ∈ s1.bl → g ∈ st.s.bl ∨ w.heap.size ≤ g := fun g hg => by
     rw [hbl1] at hg
     rw [hbl0]
     simp only [List.mem_append] at hg ⊢
     rcases hg with (hg | hg) | hg | hg
     ·exact .inl (.inl (.inl hg))
     ·exact .inl (.inl (.inr hg))
     ·rcases hfr2 g hg with hg | hg
      ·exact .inl (.inr (.inl hg))
      ·exact .inr hg
     ·exact .inl (.inr (.inr hg))
    have hkb : Keep st.s.bl w w' := hkr.mono hvb
    have hup : Up2 (hideL st.s.bl w) (hideL s1.bl w') := up_keep hkb (fun _ h => h) hsub
    have hnd := hs.mem.nodup
    rw [hbl0] at hnd
    have hlt0 : ∀ g, g ∈ (st.s.boxes.map Box.b ++ A.flatMap fun r => rowB r.v) ++ (rowB v ++ B.flatMap fun r => rowB r.v) → g < w.heap.size := by rw [← hbl0]; exact hs.mem.lt
    have hnd1 : s1.bl.Nodup := by rw [hbl1]; exact nodup_swap hnd hfr2 hlt0 (rowB_nodup _)
    have hltn : ∀ g, g ∈ rowB v' → g < w'.heap.size := fun g hg => owns_lt_size hown' (rowB_mem.1 hg)
    have hmem : Mem s1 w' := by
     refine ⟨hnd1, fun g hg => ?_, fun bx hbx => ?_, fun r hr => ?_⟩
     ·rw [hbl1] at hg
      simp only [List.mem_append] at hg
      rcases hg with (hg | hg) | hg | hg
      ·exact Nat.lt_of_lt_of_le (hlt0 g (by simp [hg])) hkb.size
      ·exact Nat.lt_of_lt_of_le (hlt0 g (by simp only [List.mem_append]; exact .inl (.inr hg))) hkb.size
      ·exact hltn g hg
      ·exact Nat.lt_of_lt_of_le (hlt0 g (by simp only [List.mem_append]; exact .inr (.inr hg))) hkb.size
     ·have hbx2 : bx ∈ st.s.boxes := by rw [← hs1] at hbx; exact hbx
      obtain ⟨us', e1, e2⟩ := hs.mem.box bx hbx2
      have hbb : bx.b ∈ st.s.boxes.map Box.b := List.mem_map.2 ⟨bx, hbx2, rfl⟩
      refine ⟨us', ?_, e2.mono hup⟩
      rw [hkr.block _ (hlt0 _ (by simp only [List.mem_append]; exact .inl (.inl hbb))) (fun hm => ?_)]
      ·exact e1
      ·exact (List.nodup_append.1 hnd).2.2 bx.b (List.mem_append_left _ hbb) bx.b (List.mem_append_left _ hm) rfl
     ·rw [← hs1] at hr
      simp only [List.mem_append, List.mem_cons] at hr
      have old : r ∈ A ∨ r ∈ B → ∃ us, w'.ownsRow 0 r.E r.z r.v r.n us ∧ RepL (hideL s1.bl w') r.cs us := fun hr => by
       obtain ⟨us', e1, e2⟩ := hs.mem.row r (by rw [hrow]; simp only [List.mem_append, List.mem_cons]; rcases hr with h | h; exact .inl h; exact .inr (.inr h))
       refine ⟨us', ownsRow_keep3 e1 fun g hg => ?_, e2.mono hup⟩
       refine hkr.block g ?_ fun hm => ?_
       ·rcases hr with hr | hr
        ·exact hlt0 g (by simp only [List.mem_append]; exact .inl (.inr (List.mem_flatMap.2 ⟨r, hr, hg⟩)))
        ·exact hlt0 g (by simp only [List.mem_append]; exact .inr (.inr (List.mem_flatMap.2 ⟨r, hr, hg⟩)))
       ·rcases hr with hr | hr
        ·exact (List.nodup_append.1 hnd).2.2 g (List.mem_append_right _ (List.mem_flatMap.2 ⟨r, hr, hg⟩)) g (List.mem_append_left _ hm) rfl
        ·exact (List.nodup_append.1 (List.nodup_append.1 hnd).2.1).2.2 g hm g (List.mem_flatMap.2 ⟨r, hr, hg⟩) rfl
      rcases hr with hr | rfl | hr
      ·exact old (.inl hr)
      ·exact ⟨us ++ ys, hown', (hrep.mono hup).app (hyrep.mono hup)⟩
      ·exact old (.inr hr)
    have s2 := hs.step (rowB v' ++ st.T) hkb hmem hsub
    rw [hd]
    have h9 := h v'
    rw [hs1] at h9
    have h1c : v'.oneCell' = true := by obtain ⟨_, _, he⟩ := owns_slice hown'; rw [he]; rfl
    refine hK _ _ _ h9 (s2.put (v := v') hn (.c _ _ (.val _ h1c))) ⟨hkb, hkr.mono hT, hsub, fun g hg => ?_⟩ (hkr.mono (hU hs.mem.nodup))
    rcases List.mem_append.1 hg with hg | hg
    ·exact (hfr2 g hg).imp (hT g) id
    ·exact .inl hg
theorem evs_reps {a : Act} {w : World} (hs : Sim st a w) : ∀ {ps : List Operand} {ts : List AT}, ps.map (evA st) = ts.map some → (ps.map a.eval).length = ts.length ∧ ∀ i (h : i < ts.length) (h' : i < (ps.map a.eval).length), RepT (hideL st.s.bl w) ts[i] (ps.map a.eval)[i]
 | [], ts, h => by cases ts with | nil => exact ⟨rfl, fun i h => absurd h (by simp)⟩ | cons => cases h
 | p :: ps, ts, h => by
  cases ts with
  | nil => cases h
  | cons t ts =>
   simp only [List.map_cons, List.cons.injEq] at h
   obtain ⟨h1, h2⟩ := evs_reps hs h.2
   refine ⟨by simpa using h1, fun i hi hi2 => ?_⟩
   cases i with
   | zero => exact hs.ev h.1
   | succ i => exact h2 i (by simpa using hi) (by simpa using hi2)
theorem call_core {F : FuncId} {d : Nat} {vs : List Value} {ts : List AT} {T' : List Nat} {Q : AT → Sto → Prop} {a : Act} {w : World} (hs : Sim st a w) (hd : o.dst = some d) (hn : d < st.n) (hl : vs.length = ts.length) (hv : ∀ i (h : i < ts.length) (h' : i < vs.length), RepT (hideL st.s.bl w) ts[i] vs[i])
  (hrun : (execOp a.eval o).run P w = .ok (.enter F vs.toArray) w) (hc : ACall P F ts T' st.s Q) (hT : ∀ b, b ∈ T' → b ∈ st.T) (hTb : ∀ b, b ∈ T' → b ∈ st.s.bl) (hU : st.s.bl.Nodup → ∀ b, b ∈ T' → b ∈ U)
  (h : ∀ r s', Q r s' → K { st with s := s', ts := (d, r) :: st.ts }) (KK : Act → World → Prop) (QQ : Exit → Act → World → Prop) (hK : ∀ a' w' st', K st' → Sim st' a' w' → Ext st w st' w' → Keep U w w' → KK a' w') : o.wp P a w KK QQ := by
 unfold Oper.wp
 rw [hrun, Oper.upon_enter]
 refine (hc vs w hs.mem hTb hl hv).mono ?_
 rintro en w' ⟨r, v, s', rfl, hq, hr, hm, hk, hb⟩
 dsimp only
 rw [hd]
 have s1 := hs.step st.T (hk.mono hTb) hm hb
 exact hK _ _ _ (h r s' hq) (s1.put hn hr) ⟨hk.mono hTb, hk.mono hT, hb, fun b hb => .inl hb⟩ (hk.mono (hU hs.mem.nodup))
theorem ao_call {F : FuncId} {d : Nat} {ars : Array Operand} {tys : Array TypeId} {ts : List AT} (T' : List Nat) {Q : AT → Sto → Prop} (ho : o.op = .call { callee := .value (.func F), args := ars, argTypes := tys }) (hd : o.dst = some d) (hn : d < st.n)
  (hcf : ∀ args w, (callFunc F args).run P w = .ok (.enter F args) w) (has : ars.toList.map (evA st) = ts.map some) (hc : ACall P F ts T' st.s Q) (hT : ∀ b, b ∈ T' → b ∈ st.T) (hTb : ∀ b, b ∈ T' → b ∈ st.s.bl) (hU : st.s.bl.Nodup → ∀ b, b ∈ T' → b ∈ U)
  (h : ∀ r s', Q r s' → K { st with s := s', ts := (d, r) :: st.ts }) : AO P U o st K := by
 intro a w hs KK QQ hK
 obtain ⟨h1, h2⟩ := evs_reps hs has
 refine call_core hs hd hn h1 h2 ?_ hc hT hTb hU h KK QQ hK
 simp only [execOp, ho, resolve, Deferred.ofValue, Act.eval, Sem.run_bind, Sem.run_pure, Result.andThen_ok, invoke]
 rw [hcf]
 congr 2
 rw [← Array.toList_inj]; simp
theorem repTs_app {w : World} {ts us : List AT} {vs xs : List Value} (h1 : vs.length = ts.length) (h2 : ∀ i (h : i < ts.length) (h' : i < vs.length), RepT w ts[i] vs[i]) (k1 : xs.length = us.length) (k2 : ∀ i (h : i < us.length) (h' : i < xs.length), RepT w us[i] xs[i]) :
  (vs ++ xs).length = (ts ++ us).length ∧ ∀ i (h : i < (ts ++ us).length) (h' : i < (vs ++ xs).length), RepT w (ts ++ us)[i] (vs ++ xs)[i] := by
 refine ⟨by simp [h1, k1], fun i hi hi' => ?_⟩
 rcases Nat.lt_or_ge i ts.length with h | h
 ·rw [List.getElem_append_left h, List.getElem_append_left (by rw [h1]; exact h)]; exact h2 _ _ _
 ·rw [List.getElem_append_right h, List.getElem_append_right (by rw [h1]; exact h)]
  simp only [h1]
  exact k2 _ (by simp at hi; omega) (by simp at hi'; omega)
theorem repTs_cst (w : World) (vs : List Value) : vs.length = (vs.map cst).length ∧ ∀ i (h : i < (vs.map cst).length) (h' : i < vs.length), RepT w (vs.map cst)[i] vs[i] := ⟨by simp, fun i h h' => by simp only [List.getElem_map]; exact cst_ok _ _⟩
def ResV (P : Program) (st : AS) (rv : ResultVar) (r : AT) : Prop := ∀ a w, Sim st a w → ∃ v, RepT (hideL st.s.bl w) r v ∧ ((match rv with | .tmp t => pure (a.tmps.getD t undef) | .cell x t => do loadVar t (← asAddr (a.tmps.getD x undef))) : Sem Value).run P w = .ok v w
theorem resv_tmp {t : Tmp} {r : AT} (h : look st.ts t = some r) : ResV P st (.tmp t) r := fun a w hs => by
 obtain ⟨v, h1, h2⟩ := hs.tm t r h
 exact ⟨v, h2, by simp only [Sem.run_pure, Array.getD_eq_getD_getElem?, h1, Option.getD_some]⟩
theorem resv_cell {x : Tmp} {ty : TypeId} {r : AT} {b off z : Nat} {T : TypeId} {cs : List AC} {ag : Bool} (A : List Box) {B : List Box} (h : look st.ts x = some (.c (.val (.pointer (some ⟨b, off, none⟩))))) (hb : st.s.boxes = A ++ ⟨b, T, cs⟩ :: B)
  (hA : ∀ w, (isAgg ty).run P w = .ok ag w) (hS : ∀ w, (sizeOf ty).run P w = .ok z w) (hp : pk ag z cs off = some r) : ResV P st (.cell x ty) r := fun a w hs => by
 obtain ⟨v, h1, h2⟩ := hs.tm x _ h
 have := h2.val
 subst this
 obtain ⟨us, h3, h4⟩ := hs.mem.box ⟨b, T, cs⟩ (by rw [hb]; simp)
 obtain ⟨v, hv, hl⟩ := run_loadPk (P := P) (b := b) (o := 0) hA hS h4 hp
 refine ⟨v, hv, ?_⟩
 have hl2 := hl w (fun j u hj => by unfold World.cell?; simp only [h3]; simpa using hj)
 simp only [Nat.zero_add] at hl2
 simp only [Array.getD_eq_getD_getElem?, h1, Option.getD_some, asAddr, Sem.run_bind, Sem.run_pure, Result.andThen_ok, hl2]
theorem res_none {fn : Func} (h : fn.results = #[]) : ResA P fn st (.tup []) := fun a w hs => ⟨.tuple #[], .tup [] [] rfl (fun i h => absurd h (by simp)), results_none h _ _ _⟩
theorem mapM1 {f : ResultVar → Sem Value} {r1 : ResultVar} {v1 : Value} {w : World} (e1 : (f r1).run P w = .ok v1 w) : (#[r1].mapM f).run P w = .ok #[v1] w := by
 simp [Sem.run_bind, e1]
theorem mapM2 {f : ResultVar → Sem Value} {r1 r2 : ResultVar} {v1 v2 : Value} {w : World} (e1 : (f r1).run P w = .ok v1 w) (e2 : (f r2).run P w = .ok v2 w) : (#[r1, r2].mapM f).run P w = .ok #[v1, v2] w := by
 simp [Sem.run_bind, e1, e2]
theorem mapM3 {f : ResultVar → Sem Value} {r1 r2 r3 : ResultVar} {v1 v2 v3 : Value} {w : World} (e1 : (f r1).run P w = .ok v1 w) (e2 : (f r2).run P w = .ok v2 w) (e3 : (f r3).run P w = .ok v3 w) : (#[r1, r2, r3].mapM f).run P w = .ok #[v1, v2, v3] w := by
 simp [Sem.run_bind, e1, e2, e3]
theorem res_one {fn : Func} {rv : ResultVar} {r : AT} (h : fn.results = #[rv]) (h1 : ResV P st rv r) : ResA P fn st r := fun a w hs => by
 obtain ⟨v, e1, e2⟩ := h1 a w hs
 refine ⟨v, e1, ?_⟩
 unfold results
 rw [h, Sem.run_bind]
 erw [mapM1 e2]
 simp [go_sem]
theorem repTs2 {w : World} {r1 r2 : AT} {v1 v2 : Value} (h1 : RepT w r1 v1) (h2 : RepT w r2 v2) : RepT w (.tup [r1, r2]) (.tuple #[v1, v2]) :=
 .tup [r1, r2] [v1, v2] rfl fun i h h' => by rcases i with _ | _ | i; exact h1; exact h2; simp at h; omega
theorem repTs3 {w : World} {r1 r2 r3 : AT} {v1 v2 v3 : Value} (h1 : RepT w r1 v1) (h2 : RepT w r2 v2) (h3 : RepT w r3 v3) : RepT w (.tup [r1, r2, r3]) (.tuple #[v1, v2, v3]) :=
 .tup [r1, r2, r3] [v1, v2, v3] rfl fun i h h' => by rcases i with _ | _ | _ | i; exact h1; exact h2; exact h3; simp at h; omega
theorem res_two {fn : Func} {rv1 rv2 : ResultVar} {r1 r2 : AT} (h : fn.results = #[rv1, rv2]) (h1 : ResV P st rv1 r1) (h2 : ResV P st rv2 r2) : ResA P fn st (.tup [r1, r2]) := fun a w hs => by
 obtain ⟨v1, e1, f1⟩ := h1 a w hs
 obtain ⟨v2, e2, f2⟩ := h2 a w hs
 refine ⟨_, repTs2 e1 e2, ?_⟩
 unfold results
 rw [h, Sem.run_bind]
 erw [mapM2 f1 f2]
 simp [go_sem]
theorem res_three {fn : Func} {rv1 rv2 rv3 : ResultVar} {r1 r2 r3 : AT} (h : fn.results = #[rv1, rv2, rv3]) (h1 : ResV P st rv1 r1) (h2 : ResV P st rv2 r2) (h3 : ResV P st rv3 r3) : ResA P fn st (.tup [r1, r2, r3]) := fun a w hs => by
 obtain ⟨v1, e1, f1⟩ := h1 a w hs
 obtain ⟨v2, e2, f2⟩ := h2 a w hs
 obtain ⟨v3, e3, f3⟩ := h3 a w hs
 refine ⟨_, repTs3 e1 e2 e3, ?_⟩
 unfold results
 rw [h, Sem.run_bind]
 erw [mapM3 f1 f2 f3]
 simp [go_sem]
def Wk (r r' : AT) : Prop := ∀ w v, RepT w r v → RepT w r' v
def WkC (x y : AC) : Prop := ∀ w v, Rep w x v → Rep w y v
theorem WkC.refl (x : AC) : WkC x x := fun _ _ h => h
theorem wk_nil : WkC (.val (.slice none 0 0)) (.sl 0 []) := fun w v h => by cases h; exact .sl 0 [] [] _ (RowAt.nil w) rfl (fun i h => absurd h (by simp)) (fun _ _ _ h => by cases h; decide)
theorem Wk.refl (r : AT) : Wk r r := fun _ _ h => h
theorem Wk.c {x y : AC} (h : WkC x y) : Wk (.c x) (.c y) := fun w v hr => by cases hr with | c _ _ hr => exact .c _ _ (h _ _ hr)
inductive WkL : List AC → List AC → Prop
 | nil : WkL [] []
 | cons {x y : AC} {xs ys : List AC} (h : WkC x y) (t : WkL xs ys) : WkL (x :: xs) (y :: ys)
theorem WkL.refl : ∀ xs : List AC, WkL xs xs
 | [] => .nil
 | x :: xs => .cons (.refl x) (WkL.refl xs)
theorem WkL.rep {w : World} {xs ys : List AC} (h : WkL xs ys) : ∀ {us : List Value}, RepL w xs us → RepL w ys us := by
 induction h with
 | nil => exact fun h => h
 | cons h t ih =>
  intro us hr
  cases us with
  | nil => have := hr.len; simp at this
  | cons u us => exact .cons (h _ _ (hr.at_ 0 (by simp) (by simp))) (ih ⟨by have := hr.len; simpa using this, fun i h1 h2 => hr.at_ (i + 1) (by simpa using h1) (by simpa using h2)⟩)
theorem Wk.agg {xs ys : List AC} (h : WkL xs ys) : Wk (.agg xs) (.agg ys) := fun w v hr => by cases hr with | agg _ us hr => exact .agg _ _ (h.rep hr)
theorem res_wk {fn : Func} {r r' : AT} (h : Wk r r') (hr : ResA P fn st r) : ResA P fn st r' := fun a w hs => let ⟨v, e1, e2⟩ := hr a w hs; ⟨v, h _ _ e1, e2⟩
theorem sub_nil : Sub st { st with ts := [] } := fun a w h => ⟨⟨h.df, h.sz, fun i t ht => (by cases ht), h.mem⟩, fun _ h => h, fun _ h => h⟩
theorem sub_cons {i : Nat} {t u : AT} {ts : List (Nat × AT)} (hl : look st.ts i = some u) (hw : Wk u t) (h : Sub st { st with ts := ts }) : Sub st { st with ts := (i, t) :: ts } := fun a w hs => by
 obtain ⟨h1, h2, h3⟩ := h a w hs
 refine ⟨⟨h1.df, h1.sz, fun j x hx => ?_, h1.mem⟩, h2, h3⟩
 simp only [look] at hx
 split at hx
 ·rename_i he; subst he; cases hx
  obtain ⟨v, e1, e2⟩ := hs.tm i u hl
  exact ⟨v, e1, hw _ _ e2⟩
 ·exact h1.tm j x hx
theorem sub_T (T' : List Nat) (h : ∀ b, b ∈ T' → b ∈ st.T) : Sub st { st with T := T' } := fun a w hs => ⟨⟨hs.df, hs.sz, hs.tm, hs.mem⟩, fun _ h => h, h⟩
theorem sub_sto {s' : Sto} (h : SubS st.s s') : Sub st { st with s := s' } := fun a w hs => by
 obtain ⟨h1, h2⟩ := h w hs.mem
 exact ⟨⟨hs.df, hs.sz, fun i t ht => let ⟨v, e1, e2⟩ := hs.tm i t ht; ⟨v, e1, e2.mono (up_sub h2) (hide_size (Nat.le_refl _))⟩, h1⟩, h2, fun _ h => h⟩
theorem sub_row (E : TypeId) (z : Nat) : Sub st { st with s := ⟨st.s.boxes, ⟨.slice none 0 0, E, z, 0, []⟩ :: st.s.rows⟩ } := fun a w hs => by
 have hbl : (⟨st.s.boxes, ⟨.slice none 0 0, E, z, 0, []⟩ :: st.s.rows⟩ : Sto).bl = st.s.bl := by unfold Sto.bl; simp [rowB, Value.ownBlock]
 refine ⟨⟨hs.df, hs.sz, ?_, ?_, ?_, ?_, ?_⟩, ?_, fun _ h => h⟩
 ·rw [hbl]; exact hs.tm
 ·rw [hbl]; exact hs.mem.nodup
 ·rw [hbl]; exact hs.mem.lt
 ·rw [hbl]; exact hs.mem.box
 ·rw [hbl]
  intro r hr
  rcases List.mem_cons.1 hr with rfl | hr
  ·exact ⟨[], ownsRow_nil _ _ _ _, .nil _⟩
  ·exact hs.mem.row r hr
 ·rw [hbl]; exact fun _ h => h
theorem owns_cap {w : World} {base : Nat} {e : TypeId} {size : Nat} {v : Value} {n : Nat} {xs : List Value} (h : w.ownsRow base e size v n xs) : ∀ a k c, v = .slice a k c → c ≤ 9223372036854775807 := by
 rintro a k c rfl
 rcases h.2 with ⟨h1, _⟩ | ⟨g, cap, cur, h1, _, _, _, h2, _⟩
 ·cases h1; decide
 ·cases h1; unfold maxLen at h2; omega
theorem sub_freeze {A B : List ORow} {v : Value} {E : TypeId} {z n : Nat} {cs : List AC} (i : Nat) (hi : look st.ts i = some (.c (.val v))) (hrow : st.s.rows = A ++ ⟨v, E, z, n, cs⟩ :: B) : Sub st { st with s := ⟨st.s.boxes, A ++ B⟩, ts := (i, .c (.sl n cs)) :: st.ts } := fun a w hs => by
 have hsub : SubS st.s ⟨st.s.boxes, A ++ B⟩ := subS_of (List.Sublist.refl _) (by rw [hrow]; exact List.Sublist.append (List.Sublist.refl _) (List.sublist_cons_self _ _))
 obtain ⟨h1, h2, h3⟩ := sub_sto hsub a w hs
 refine ⟨⟨h1.df, h1.sz, fun j x hx => ?_, h1.mem⟩, h2, h3⟩
 simp only [look] at hx
 split at hx
 ·rename_i he; subst he; cases hx
  obtain ⟨u, e1, e2⟩ := hs.tm i _ hi
  have := e2.val
  subst this
  obtain ⟨us, hown, hrep⟩ := hs.mem.row ⟨u, E, z, n, cs⟩ (by rw [hrow]; simp)
  refine ⟨u, e1, .c _ _ (.sl _ _ us _ ?_ hrep.len (fun k h h' => (hrep.at_ k h h').mono (up_sub h2)) (owns_cap hown))⟩
  obtain ⟨p, cap, he, hc, hr⟩ := RowAt.of_owns hown
  refine ⟨p, cap, he, hc, ?_⟩
  rcases hr with h0 | ⟨b, off, rfl, hr⟩
  ·exact .inl h0
  ·refine .inr ⟨b, off, rfl, fun j x hj => ?_⟩
   have hbv : b ∈ rowB u := by have he2 : u = .slice (some ⟨b, off, none⟩) n cap := he; rw [he2]; simp [rowB, Value.ownBlock]
   rw [hideL_cell_ne]
   ·exact hr j x hj
   ·intro hm
    have hnd := hs.mem.nodup
    have hbl0 : st.s.bl = (st.s.boxes.map Box.b ++ A.flatMap fun r => rowB r.v) ++ (rowB u ++ B.flatMap fun r => rowB r.v) := by have := bl_rows st.s.boxes A B ⟨u, E, z, n, cs⟩; rw [← hrow] at this; exact this
    rw [hbl0] at hnd
    have hm2 : b ∈ (st.s.boxes.map Box.b ++ A.flatMap fun r => rowB r.v) ∨ b ∈ B.flatMap fun r => rowB r.v := by
     unfold Sto.bl at hm; simp only [List.flatMap_append, List.mem_append] at hm ⊢
     rcases hm with h | h | h
     ·exact .inl (.inl h)
     ·exact .inl (.inr h)
     ·exact .inr h
    rcases hm2 with hm2 | hm2
    ·exact (List.nodup_append.1 hnd).2.2 b hm2 b (List.mem_append_left _ hbv) rfl
    ·exact (List.nodup_append.1 (List.nodup_append.1 hnd).2.1).2.2 b hbv b hm2 rfl
 ·exact h1.tm j x hx
end
end Go.Proofs.YtflcnehhpmjipaaGreatDoor
namespace Go.Proofs.YtflcnehhpmjipaaGreatDoor
open Go.RowKit
section
variable {P : Program} {ops : Array Oper} {U Z : List Nat} {o : Oper} {l : List Oper} {n d : Nat} {T : List Nat} {s : Sto} {bx : List Box} {rw : List ORow} {ts : List (Nat × AT)} {t : AT} {Q : Exit → AS → Prop} {KK : AS → Prop} {K : AS → Prop}
theorem wy (hw : wantA ops o ⟨n, T, s, ts⟩ = some true) (hd : o.dst = some d) (hn : d < n) (hy : AY P [] o ⟨n, T, s, ts⟩ t) (h : AOps P ops l ⟨n, T, s, (d, t) :: ts⟩ Q) : AOps P ops (o :: l) ⟨n, T, s, ts⟩ Q := aops_y hw hd hn hy h
theorem wskip (hw : wantA ops o ⟨n, T, s, ts⟩ = some false) (hd : o.dst = some d) (hn : d < n) (h : AOps P ops l ⟨n, T, s, (d, .raw undef) :: ts⟩ Q) : AOps P ops (o :: l) ⟨n, T, s, ts⟩ Q := aops_skip hw hd hn h
theorem wo (hw : wantA ops o ⟨n, T, s, ts⟩ = some true) (h : AO P T o ⟨n, T, s, ts⟩ fun s => AOps P ops l s Q) : AOps P ops (o :: l) ⟨n, T, s, ts⟩ Q := aops_o hw h
theorem tk (i : Nat) {fuel : Nat} {listed : Array Bool} (hr : (Region.ready .any ops listed).contains i = true) (hi : ops.toList[i]? = some o) (hf : Region.free .any ops listed i = true) (hsel : Region.noSelect ops = true) (hw : wantA ops o ⟨n, T, s, ts⟩ = some true) (hd : o.dst = some d) (hn : d < n) (hy : AY P (offB s Z) o ⟨n, T, s, ts⟩ t)
  (h : AAny P ops Z fuel (listed.setIfInBounds i true) ⟨n, T, s, (d, t) :: ts⟩ K) : AAny P ops Z (fuel + 1) listed ⟨n, T, s, ts⟩ K := any_take i hr hi hf hsel hw hd hn hy h
theorem one (i : Nat) {fuel : Nat} {listed : Array Bool} (hr : Region.ready .any ops listed = [i]) (hi : ops.toList[i]? = some o) (hw : wantA ops o ⟨n, T, s, ts⟩ = some true)
  (h : AO P (offB s Z) o ⟨n, T, s, ts⟩ fun s => AAny P ops Z fuel (listed.setIfInBounds i true) s K) : AAny P ops Z (fuel + 1) listed ⟨n, T, s, ts⟩ K := any_many hr rfl (aready_o hi hw h aready_nil)
theorem two (i j : Nat) {o2 : Oper} {fuel : Nat} {listed : Array Bool} (hr : Region.ready .any ops listed = [i, j]) (hi : ops.toList[i]? = some o) (hw : wantA ops o ⟨n, T, s, ts⟩ = some true) (hi2 : ops.toList[j]? = some o2) (hw2 : wantA ops o2 ⟨n, T, s, ts⟩ = some true)
  (h : AO P (offB s Z) o ⟨n, T, s, ts⟩ fun s => AAny P ops Z fuel (listed.setIfInBounds i true) s K) (h2 : AO P (offB s Z) o2 ⟨n, T, s, ts⟩ fun s => AAny P ops Z fuel (listed.setIfInBounds j true) s K) : AAny P ops Z (fuel + 1) listed ⟨n, T, s, ts⟩ K :=
 any_many hr rfl (aready_o hi hw h (aready_o hi2 hw2 h2 aready_nil))
theorem ao_y {st : AS} (hd : o.dst = some d) (hn : d < st.n) (hy : AY P [] o st t) (h : K { st with ts := (d, t) :: st.ts }) : AO P U o st K := by
 intro a w hs KK QQ hK
 obtain ⟨v, hr, hx⟩ := hy a w hs (fun _ h => by cases h)
 unfold Oper.wp
 rw [hx w (Keep.refl _ _), Oper.upon_value, hd]
 exact hK _ _ _ h (hs.put hn hr) ⟨Keep.refl _ _, Keep.refl _ _, fun b hb => .inl hb, fun b hb => .inl hb⟩ (Keep.refl _ _)
theorem wbox {E : TypeId} {x : Operand} {cs : List AC} (ho : o.op = .box E x) (hd : o.dst = some d) (hn : d < n) (hx : evA ⟨n, T, ⟨bx, rw⟩, ts⟩ x = some t) (hc : cellsT t = some cs)
  (h : ∀ b, K ⟨n, b :: T, ⟨⟨b, E, cs⟩ :: bx, rw⟩, (d, .c (.val (.pointer (some ⟨b, 0, none⟩)))) :: ts⟩) : AO P U o ⟨n, T, ⟨bx, rw⟩, ts⟩ K := ao_box ho hd hn hx hc h
theorem walloc {E : TypeId} {z : Value} {cs : List AC} (ho : o.op = .alloc E) (hd : o.dst = some d) (hn : d < n) (hz : ∀ w, (zeroValue E).run P w = .ok z w) (hc : cellsT (cst z) = some cs)
  (h : ∀ b, K ⟨n, b :: T, ⟨⟨b, E, cs⟩ :: bx, rw⟩, (d, .c (.val (.pointer (some ⟨b, 0, none⟩)))) :: ts⟩) : AO P U o ⟨n, T, ⟨bx, rw⟩, ts⟩ K := ao_alloc ho hd hn hz hc h
section
variable {ty E : TypeId} {x y : Operand} {b off z : Nat} {cs ds r : List AC} {A B : List Box} {x1 x2 x3 x4 : Box}
end
theorem wbs {E : TypeId} {e : TypeId} (i : TypeInfo) {z : Value} {len : Nat} {parts : Array (Nat × Operand)} {ps : List (Nat × AT)} (zc : List AC) {r : List AC} (ho : o.op = .buildSlice E len parts) (hd : o.dst = some d) (hn : d < n) (hps : EvP ⟨n, T, s, ts⟩ parts.toList ps)
  (hu : P.underlying E = some (.slice e)) (hi : P.info? e = some i) (hz : i.zero = some z) (hsmall : ¬ len * i.size > 2 ^ 24) (hpos : ¬ len * i.size = 0) (hzc : (((Array.range (len * i.size)).map (z.cells[· % z.cells.size]!)).toList.all (·.oneCell')) = true) (hzr : ((Array.range (len * i.size)).map (z.cells[· % z.cells.size]!)).toList.map .val = zc)
  (hf : fillA (fun k => some (k * i.size, i.size)) zc ps = some r) (h : K ⟨n, T, s, (d, .c (.sl len r)) :: ts⟩) : AO P U o ⟨n, T, s, ts⟩ K := ao_buildSlice i ho hd hn hps hu hi hz hsmall hpos hzc hzr hf h
theorem wap0 {E e : TypeId} {x y : Operand} {k m z : Nat} {v zv : Value} {cs ds r : List AC} (i : TypeInfo) (bytes : Nat) {B : List ORow} (ho : o.op = .call { callee := .builtin .append, args := #[x, y], argTypes := #[E, E] }) (hd : o.dst = some d) (hn : d < n)
  (hx : evA ⟨n, T, ⟨bx, ⟨v, e, z, k, cs⟩ :: B⟩, ts⟩ x = some (.c (.val v))) (hy : evA ⟨n, T, ⟨bx, ⟨v, e, z, k, cs⟩ :: B⟩, ts⟩ y = some (.c (.sl m ds))) (hu : P.underlying E = some (.slice e)) (hi : P.info? e = some i) (hz : i.zero = some zv) (hsz : i.size = z) (hby : i.bytes = bytes) (hzs : zv.cells.size = z) (h0 : 0 < z)
  (hm : ds.length = m * z) (hm0 : 0 < m) (hlen : k + m ≤ maxLen) (hbytes : (k + m) * bytes ≤ 140737488355328) {N : Nat} (hN : k + m = N) (hU : (⟨bx, ⟨v, e, z, k, cs⟩ :: B⟩ : Sto).bl.Nodup → ∀ b, b ∈ rowB v → b ∈ U) (hT : ∀ b, b ∈ rowB v → b ∈ T) (hr : cs ++ ds = r)
  (h : ∀ v', K ⟨n, rowB v' ++ T, ⟨bx, ⟨v', e, z, N, r⟩ :: B⟩, (d, .c (.val v')) :: ts⟩) : AO P U o ⟨n, T, ⟨bx, ⟨v, e, z, k, cs⟩ :: B⟩, ts⟩ K := by
 subst hr; subst hN
 exact ao_append [] ho hd hn hx rfl hy hu hi hz hsz hby hzs h0 hm hm0 hlen hbytes hU hT h
theorem wcall {F : FuncId} {ars : Array Operand} {tys : Array TypeId} {us : List AT} (T' : List Nat) {QQ : AT → Sto → Prop} (ho : o.op = .call { callee := .value (.func F), args := ars, argTypes := tys }) (hd : o.dst = some d) (hn : d < n)
  (hcf : ∀ args w, (callFunc F args).run P w = .ok (.enter F args) w) (has : ars.toList.map (evA ⟨n, T, s, ts⟩) = us.map some) (hc : ACall P F us T' s QQ) (hT : ∀ b, b ∈ T' → b ∈ T) (hTb : ∀ b, b ∈ T' → b ∈ s.bl) (hU : s.bl.Nodup → ∀ b, b ∈ T' → b ∈ U)
  (h : ∀ r s', QQ r s' → K ⟨n, T, s', (d, r) :: ts⟩) : AO P U o ⟨n, T, s, ts⟩ K := ao_call T' ho hd hn hcf has hc hT hTb hU h
theorem subA {bx' : List Box} {rw' : List ORow} {T' : List Nat} {ts' : List (Nat × AT)} (h1 : bx'.Sublist bx) (h2 : rw'.Sublist rw) (h3 : ∀ b, b ∈ T' → b ∈ T) (h : Sub ⟨n, T', ⟨bx', rw'⟩, ts⟩ ⟨n, T', ⟨bx', rw'⟩, ts'⟩) : Sub ⟨n, T, ⟨bx, rw⟩, ts⟩ ⟨n, T', ⟨bx', rw'⟩, ts'⟩ :=
 Sub.trans (sub_sto (st := ⟨n, T, ⟨bx, rw⟩, ts⟩) (s' := ⟨bx', rw'⟩) (subS_of h1 h2)) (Sub.trans (sub_T (st := ⟨n, T, ⟨bx', rw'⟩, ts⟩) T' h3) h)
theorem offN {b : Nat} (h : b ∈ s.bl) : b ∈ offB s [] := mem_off.2 ⟨h, by simp⟩
theorem sub_tmp {st : AS} (i : Nat) {u t : AT} (hl : look st.ts i = some u) (hw : Wk u t) : Sub st { st with ts := (i, t) :: st.ts } := fun a w hs => by
 refine ⟨⟨hs.df, hs.sz, fun j x hx => ?_, hs.mem⟩, fun _ h => h, fun _ h => h⟩
 simp only [look] at hx
 split at hx
 ·rename_i he; subst he; cases hx
  obtain ⟨v, e1, e2⟩ := hs.tm i u hl
  exact ⟨v, e1, hw _ _ e2⟩
 ·exact hs.tm j x hx
theorem wweak (i : Nat) {u t : AT} (hl : look ts i = some u) (hw : Wk u t) (h : AOps P ops l ⟨n, T, s, (i, t) :: ts⟩ Q) : AOps P ops l ⟨n, T, s, ts⟩ Q := aops_sub (sub_tmp (st := ⟨n, T, s, ts⟩) i hl hw) h
theorem wrow (E : TypeId) (z : Nat) {c : Code} (h : AWp P c ⟨n, T, ⟨bx, ⟨.slice none 0 0, E, z, 0, []⟩ :: rw⟩, ts⟩ Q) : AWp P c ⟨n, T, ⟨bx, rw⟩, ts⟩ Q := aw_sub (sub_row (st := ⟨n, T, ⟨bx, rw⟩, ts⟩) E z) h
theorem wfrz (i : Nat) {c : Code} {v : Value} {E : TypeId} {z k : Nat} {cs : List AC} (hi : look ts i = some (.c (.val v))) (h : AWp P c ⟨n, T, ⟨bx, rw⟩, (i, .c (.sl k cs)) :: ts⟩ Q) : AWp P c ⟨n, T, ⟨bx, ⟨v, E, z, k, cs⟩ :: rw⟩, ts⟩ Q :=
 aw_sub (sub_freeze (st := ⟨n, T, ⟨bx, ⟨v, E, z, k, cs⟩ :: rw⟩, ts⟩) (A := []) i hi rfl) h
theorem then_normal {y : Code} {st : AS} (h : AWp P y st Q) : Then (fun s => AWp P y s Q) Q .normal st := h
theorem inB_exit {st : AS} {id : Nat} (h : Q .normal st) : InB id Q (.exit id) st := by show (if id = id then _ else _); rw [if_pos rfl]; exact h
theorem inB_other {st : AS} {id id' : Nat} (hne : id' ≠ id) (h : Q (.exit id') st) : InB id Q (.exit id') st := by show (if id' = id then _ else _); rw [if_neg hne]; exact h
theorem aw_condT {c : Operand} {x y : Code} {st : AS} {b : Bool} (hc : evA st c = some (.c (.val (.bool b)))) (hb : b = true) (h : AWp P x st Q) : AWp P (.cond c x y) st Q := aw_cond hc (fun _ => h) (fun h => by rw [hb] at h; cases h)
theorem aw_condF {c : Operand} {x y : Code} {st : AS} {b : Bool} (hc : evA st c = some (.c (.val (.bool b)))) (hb : b = false) (h : AWp P y st Q) : AWp P (.cond c x y) st Q := aw_cond hc (fun h => by rw [hb] at h; cases h) (fun _ => h)
theorem wrap64 {m : Int} (h1 : -9223372036854775808 ≤ m) (h2 : m ≤ 9223372036854775807) : IntKind.i64.wrap m = m := IntWalk.i64_in _ ⟨h1, h2⟩
theorem ay_add {st : AS} {E yt : TypeId} {x y : Operand} {m k : Int} (ho : o.op = .binOp .add E x y yt) (hx : evA st x = some (.c (.val (.int .i64 m)))) (hy : evA st y = some (.c (.val (.int .i64 k)))) (h1 : -9223372036854775808 ≤ m + k) (h2 : m + k ≤ 9223372036854775807) : AY P U o st (.c (.val (.int .i64 (m + k)))) :=
 ay_arith ho hx hy (by simp only [arithR, wrap64 h1 h2])
theorem ay_sub {st : AS} {E yt : TypeId} {x y : Operand} {m k : Int} (ho : o.op = .binOp .sub E x y yt) (hx : evA st x = some (.c (.val (.int .i64 m)))) (hy : evA st y = some (.c (.val (.int .i64 k)))) (h1 : -9223372036854775808 ≤ m - k) (h2 : m - k ≤ 9223372036854775807) : AY P U o st (.c (.val (.int .i64 (m - k)))) :=
 ay_arith ho hx hy (by simp only [arithR, wrap64 h1 h2])
theorem flat_drop {α : Type} (enc : α → List AC) (z : Nat) (hz : ∀ x, (enc x).length = z) : ∀ (l : List α) (k : Nat) (hk : k < l.length), (l.flatMap enc).drop (k * z) = enc l[k] ++ (l.drop (k + 1)).flatMap enc
 | [], k, hk => absurd hk (by simp)
 | x :: l, 0, _ => by simp
 | x :: l, k + 1, hk => by
  have ih := flat_drop enc z hz l k (by simpa using hk)
  rw [List.flatMap_cons, List.drop_append, List.drop_of_length_le (by rw [hz, Nat.succ_mul]; omega), hz, List.nil_append]
  have e : (k + 1) * z - z = k * z := by rw [Nat.succ_mul]; omega
  rw [e, ih]; simp
theorem flat_len {α : Type} (enc : α → List AC) (z : Nat) (hz : ∀ x, (enc x).length = z) : ∀ l : List α, (l.flatMap enc).length = l.length * z
 | [] => by simp
 | x :: l => by rw [List.flatMap_cons, List.length_append, hz, flat_len enc z hz l, List.length_cons, Nat.succ_mul]; omega
theorem ay_ix {st : AS} {E e : TypeId} {x y : Operand} {z : Nat} {α : Type} (enc enc' : α → List AC) (lst : List α) (hz : ∀ x, (enc x).length = z) (he : ∀ x, enc x = enc' x) {k : IntKind} {i : Int} (j : Nat) (ho : o.op = .indexAddr E x y) (hx : evA st x = some (.c (.sl lst.length (lst.flatMap enc)))) (hy : evA st y = some (.c (.val (.int k i)))) (hi : i = j) (hj : j < lst.length) (h0 : 0 < z)
  (hu : ∀ w, (underlying E).run P w = .ok (.slice e) w) (hS : ∀ w, (sizeOf e).run P w = .ok z w) : AY P U o st (.el (enc' lst[j] ++ (lst.drop (j + 1)).flatMap enc)) := by
 have h := ay_index_el (P := P) (U := U) j ho hx hy hi hj (by rw [flat_len enc z hz]; exact Nat.mul_lt_mul_of_pos_right hj h0) hu hS
 rw [flat_drop enc z hz lst j hj, he] at h
 exact h
theorem splice_all {cs ds : List AC} (h : ds.length = cs.length) : splice cs 0 ds = ds := by unfold splice; simp [h]
theorem pk_head {ag : Bool} {z : Nat} {cs R : List AC} (h : cs.length = z) (ha : ag = true) : pk ag z (cs ++ R) 0 = some (.agg cs) := by
 subst ha; subst h
 simp [pk]
theorem pk_all {ag : Bool} {z : Nat} {cs : List AC} (h : cs.length = z) (ha : ag = true) : pk ag z cs 0 = some (.agg cs) := by
 subst ha; subst h
 simp [pk]
end
section
variable {P : Program} {ops : Array Oper} {U Z : List Nat} {o : Oper} {n d : Nat} {T : List Nat} {s : Sto} {ts : List (Nat × AT)} {Q : Exit → AS → Prop} {l : List Oper} {t : AT} {st : AS}
theorem wmv {x : Operand} (hw : wantA ops o ⟨n, T, s, ts⟩ = some true) (ho : o.op = .move x) (hd : o.dst = some d) (hn : Nat.blt d n = true) (hx : evA ⟨n, T, s, ts⟩ x = some t) (h : AOps P ops l ⟨n, T, s, (d, t) :: ts⟩ Q) : AOps P ops (o :: l) ⟨n, T, s, ts⟩ Q := wy hw hd (Nat.le_of_ble_eq_true hn) (ay_move ho hx) h
theorem wag {x : Operand} (hw : wantA ops o ⟨n, T, s, ts⟩ = some true) (ho : o.op = .assign x) (hd : o.dst = some d) (hn : Nat.blt d n = true) (hx : evA ⟨n, T, s, ts⟩ x = some t) (h : AOps P ops l ⟨n, T, s, (d, t) :: ts⟩ Q) : AOps P ops (o :: l) ⟨n, T, s, ts⟩ Q := wy hw hd (Nat.le_of_ble_eq_true hn) (ay_assign ho hx) h
theorem wyy (hw : wantA ops o ⟨n, T, s, ts⟩ = some true) (hd : o.dst = some d) (hn : Nat.blt d n = true) (hy : AY P [] o ⟨n, T, s, ts⟩ t) (h : AOps P ops l ⟨n, T, s, (d, t) :: ts⟩ Q) : AOps P ops (o :: l) ⟨n, T, s, ts⟩ Q := wy hw hd (Nat.le_of_ble_eq_true hn) hy h
theorem nlnm {y : Code} (h : AWp P y st Q) : AOps P ops [] st (Then (fun s => AWp P y s Q) Q) := aops_nil (then_normal h)
theorem sqrg {id : Nat} {l : List Oper} {y : Code} (h : AOps P l.toArray l st (Then (fun s => AWp P y s Q) Q)) : AWp P (.seq (.region id l.toArray false) y) st Q := aw_seq (aw_region h)
theorem nx {id : Nat} {l : List Oper} {y : Code} (h : AOps P l.toArray l st (Then (fun s => AWp P y s Q) Q)) : AOps P ops [] st (Then (fun s => AWp P (.seq (.region id l.toArray false) y) s Q) Q) := nlnm (sqrg h)
theorem i1 {p : Nat} {L : List Nat} (h : p ∈ L) : ∀ b, b ∈ [p] → b ∈ L := by intro b hb; simp at hb; subst hb; exact h
theorem wcP {p : Nat} {F : FuncId} {ars : Array Operand} {tys : Array TypeId} {us : List AT} {QQ : AT → Sto → Prop} (hw : wantA ops o ⟨n, T, s, ts⟩ = some true) (ho : o.op = .call { callee := .value (.func F), args := ars, argTypes := tys }) (hd : o.dst = some d) (hn : Nat.blt d n = true)
  (hcf : ∀ args w, (callFunc F args).run P w = .ok (.enter F args) w) (has : ars.toList.map (evA ⟨n, T, s, ts⟩) = us.map some) (hc : ACall P F us [p] s QQ) (hT : p ∈ T) (hTb : p ∈ s.bl)
  (h : ∀ r s', QQ r s' → AOps P ops l ⟨n, T, s', (d, r) :: ts⟩ Q) : AOps P ops (o :: l) ⟨n, T, s, ts⟩ Q := wo hw (wcall [p] ho hd (Nat.le_of_ble_eq_true hn) hcf has hc (i1 hT) (i1 hTb) (fun _ => i1 hT) h)
theorem tq (i : Nat) {fuel : Nat} {listed : Array Bool} {Q : AS → Prop} (hr : ((Region.ready .any ops listed).contains i && Region.free .any ops listed i && Region.noSelect ops) = true) (hi : ops.toList[i]? = some o)
  (hw : wantA ops o ⟨n, T, s, ts⟩ = some true) (hd : o.dst = some d) (hn : Nat.blt d n = true) (hy : AY P (offB s Z) o ⟨n, T, s, ts⟩ t) (h : AAny P ops Z fuel (listed.setIfInBounds i true) ⟨n, T, s, (d, t) :: ts⟩ Q) : AAny P ops Z (fuel + 1) listed ⟨n, T, s, ts⟩ Q := by
 simp only [Bool.and_eq_true] at hr
 exact tk i hr.1.1 hi hr.1.2 hr.2 hw hd (Nat.le_of_ble_eq_true hn) hy h
end
end Go.Proofs.YtflcnehhpmjipaaGreatDoor
