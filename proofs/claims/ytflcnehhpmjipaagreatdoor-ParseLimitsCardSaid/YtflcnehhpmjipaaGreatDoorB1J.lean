import Derived.Test.YtflcnehhpmjipaaGreatDoorA1J
set_option linter.unusedVariables false
set_option linter.unusedSimpArgs false
namespace Go.Proofs.YtflcnehhpmjipaaGreatDoor
inductive AExpr where
 | mk (op num : Int) (name : ByteArray) (args : List AExpr)
structure ARef where
 name : ByteArray
 index : List AExpr
structure AArg where
 mutex : Bool
 ref : ARef
 expr : AExpr
inductive AStmt where
 | mk (kind : Int) (name : ByteArray) (expr : AExpr) (ref : ARef) (args : List AArg) (thn els : List AStmt)
structure AParam where
 name : ByteArray
 mutex : Bool
structure AFunc where
 name : ByteArray
 params : List AParam
 body : List AStmt
structure AGlobal where
 name : ByteArray
 init : Int
structure AMutex where
 name : ByteArray
 reentrant : Bool
 size : Int
structure AProg where
 globals : List AGlobal
 mutexes : List AMutex
 funcs : List AFunc
def AExpr.op : AExpr → Int | .mk o _ _ _ => o
def AExpr.num : AExpr → Int | .mk _ n _ _ => n
def AExpr.name : AExpr → ByteArray | .mk _ _ n _ => n
def AExpr.args : AExpr → List AExpr | .mk _ _ _ a => a
def AStmt.kind : AStmt → Int | .mk k _ _ _ _ _ _ => k
def AStmt.name : AStmt → ByteArray | .mk _ n _ _ _ _ _ => n
def AStmt.expr : AStmt → AExpr | .mk _ _ e _ _ _ _ => e
def AStmt.ref : AStmt → ARef | .mk _ _ _ r _ _ _ => r
def AStmt.args : AStmt → List AArg | .mk _ _ _ _ a _ _ => a
def AStmt.thn : AStmt → List AStmt | .mk _ _ _ _ _ t _ => t
def AStmt.els : AStmt → List AStmt | .mk _ _ _ _ _ _ e => e
def emptyB : ByteArray := ⟨#[]⟩
def AExpr.zero : AExpr := .mk 0 0 emptyB []
def ARef.zero : ARef := ⟨emptyB, []⟩
def digitsL (n : Nat) : List UInt8 := if n < 10 then [UInt8.ofNat (48 + n)] else digitsL (n / 10) ++ [UInt8.ofNat (48 + n % 10)]
def numberL (n : Int) : List UInt8 := if n < 0 then 45 :: digitsL n.natAbs else digitsL n.natAbs
def strengthN (op : Int) : Nat :=
 if op = 17 then 0 else if op = 16 then 1 else if 10 ≤ op ∧ op ≤ 15 then 2 else if op = 8 ∨ op = 9 then 3 else if 5 ≤ op ∧ op ≤ 7 then 4 else if op = 3 ∨ op = 4 then 5 else 6
def innerB (b : Int) (k : Nat) (a : Int) : Bool := decide (strengthN a < strengthN b ∨ strengthN a = strengthN b ∧ k = 1)
def opSign (op : Int) : List UInt8 :=
 if op = 17 then [124, 124] else if op = 16 then [38, 38] else if op = 14 then [61, 61] else if op = 15 then [33, 61] else if op = 10 then [60] else if op = 11 then [60, 61] else if op = 12 then [62] else if op = 13 then [62, 61] else
 if op = 8 then [43] else if op = 9 then [45] else if op = 5 then [42] else if op = 6 then [47] else if op = 7 then [37] else []
def nameB (s : ByteArray) : Bool :=
 match s.data.toList with
 | [] => false
 | c :: r => isLet c && r.all isNam && decide (s.size ≤ 16) && !reserved s
mutual
def heightN : AExpr → Nat
 | .mk op _ _ args => argsHeight op 0 args + if strengthN op = 5 then 1 else 0
def argsHeight (b : Int) : Nat → List AExpr → Nat
 | _, [] => 0
 | k, e :: es => max (heightN e + if innerB b k e.op then 1 else 0) (argsHeight b (k + 1) es)
end
end Go.Proofs.YtflcnehhpmjipaaGreatDoor
namespace Go.Proofs.YtflcnehhpmjipaaGreatDoor
open Go.RowKit
def ListRep {α : Type} (w : World) (R : α → List Value → Prop) (z : Nat) (v : Value) (l : List α) : Prop :=
 ∃ rows : List (List Value), RowAt w v l.length rows.flatten ∧ rows.length = l.length ∧ ∀ k (h : k < l.length) (h' : k < rows.length), R l[k] rows[k] ∧ rows[k].length = z
mutual
def ExprRep (w : World) : AExpr → List Value → Prop
 | .mk op num name args, cs => ∃ (v : Value) (rows : List (List Value)), cs = [.int .i64 op, .int .i64 num, .string name, v] ∧ RowAt w v args.length rows.flatten ∧ ExprsRep w args rows
def ExprsRep (w : World) : List AExpr → List (List Value) → Prop
 | [], rows => rows = []
 | e :: es, rows => ∃ r rs, rows = r :: rs ∧ ExprRep w e r ∧ ExprsRep w es rs
end
theorem ExprRep.len {w : World} {e : AExpr} {cs : List Value} (h : ExprRep w e cs) : cs.length = 4 := by
 cases e; rw [ExprRep] at h; obtain ⟨v, rows, rfl, _⟩ := h; rfl
mutual
theorem ExprRep.below {w w' : World} (hb : Below w.heap.size w w') : ∀ (e : AExpr) {cs : List Value}, ExprRep w e cs → ExprRep w' e cs
 | .mk op num name args, cs, h => by
  rw [ExprRep] at h ⊢
  obtain ⟨v, rows, rfl, h1, h2⟩ := h
  exact ⟨v, rows, rfl, h1.below hb (Nat.le_refl _), ExprsRep.below hb args h2⟩
theorem ExprsRep.below {w w' : World} (hb : Below w.heap.size w w') : ∀ (l : List AExpr) {rows : List (List Value)}, ExprsRep w l rows → ExprsRep w' l rows
 | [], rows, h => by rw [ExprsRep] at h ⊢; exact h
 | e :: es, rows, h => by
  rw [ExprsRep] at h ⊢
  obtain ⟨r, rs, rfl, h1, h2⟩ := h
  exact ⟨r, rs, rfl, ExprRep.below hb e h1, ExprsRep.below hb es h2⟩
end
theorem ListRep.below {α : Type} {w w' : World} {R R' : α → List Value → Prop} {z : Nat} {v : Value} {l : List α} (hb : Below w.heap.size w w') (h : ListRep w R z v l) (hR : ∀ a cs, a ∈ l → R a cs → R' a cs) : ListRep w' R' z v l := by
 obtain ⟨rows, h1, h2, h3⟩ := h
 exact ⟨rows, h1.below hb (Nat.le_refl _), h2, fun k h h' => ⟨hR _ _ (List.getElem_mem h) (h3 k h h').1, (h3 k h h').2⟩⟩
theorem ListRep.nil {α : Type} (w : World) (R : α → List Value → Prop) (z : Nat) : ListRep w R z (.slice none 0 0) [] := ⟨[], RowAt.nil w, rfl, fun k h => absurd h (by simp)⟩
def RefRep (w : World) (r : ARef) (cs : List Value) : Prop := ∃ v, cs = [.string r.name, v] ∧ ListRep w (ExprRep w) 4 v r.index
def ArgRep (w : World) (a : AArg) (cs : List Value) : Prop := ∃ cr ce, cs = .bool a.mutex :: (cr ++ ce) ∧ RefRep w a.ref cr ∧ ExprRep w a.expr ce
theorem RefRep.below {w w' : World} (hb : Below w.heap.size w w') {r : ARef} {cs : List Value} (h : RefRep w r cs) : RefRep w' r cs := by
 obtain ⟨v, rfl, h⟩ := h
 exact ⟨v, rfl, h.below hb fun a cs _ h => ExprRep.below hb a h⟩
theorem ArgRep.below {w w' : World} (hb : Below w.heap.size w w') {a : AArg} {cs : List Value} (h : ArgRep w a cs) : ArgRep w' a cs := by
 obtain ⟨cr, ce, rfl, h1, h2⟩ := h
 exact ⟨cr, ce, rfl, h1.below hb, ExprRep.below hb _ h2⟩
mutual
def StmtRep (w : World) : AStmt → List Value → Prop
 | .mk k name e r args t el, cs => ∃ (ce cr : List Value) (va vt ve : Value) (rt re : List (List Value)), cs = [.int .i64 k, .string name] ++ ce ++ cr ++ [va, vt, ve] ∧ ExprRep w e ce ∧ RefRep w r cr ∧ ListRep w (ArgRep w) 7 va args ∧
   RowAt w vt t.length rt.flatten ∧ StmtsRep w t rt ∧ RowAt w ve el.length re.flatten ∧ StmtsRep w el re
def StmtsRep (w : World) : List AStmt → List (List Value) → Prop
 | [], rows => rows = []
 | e :: es, rows => ∃ r rs, rows = r :: rs ∧ StmtRep w e r ∧ StmtsRep w es rs
end
mutual
theorem StmtRep.below {w w' : World} (hb : Below w.heap.size w w') : ∀ (s : AStmt) {cs : List Value}, StmtRep w s cs → StmtRep w' s cs
 | .mk k name e r args t el, cs, h => by
  rw [StmtRep] at h ⊢
  obtain ⟨ce, cr, va, vt, ve, rt, re, rfl, h1, h2, h3, h4, h5, h6, h7⟩ := h
  exact ⟨ce, cr, va, vt, ve, rt, re, rfl, ExprRep.below hb _ h1, h2.below hb, h3.below hb (fun _ _ _ h => ArgRep.below hb h), h4.below hb (Nat.le_refl _), StmtsRep.below hb t h5, h6.below hb (Nat.le_refl _), StmtsRep.below hb el h7⟩
theorem StmtsRep.below {w w' : World} (hb : Below w.heap.size w w') : ∀ (l : List AStmt) {rows : List (List Value)}, StmtsRep w l rows → StmtsRep w' l rows
 | [], rows, h => by rw [StmtsRep] at h ⊢; exact h
 | e :: es, rows, h => by
  rw [StmtsRep] at h ⊢
  obtain ⟨r, rs, rfl, h1, h2⟩ := h
  exact ⟨r, rs, rfl, StmtRep.below hb e h1, StmtsRep.below hb es h2⟩
end
theorem StmtRep.len {w : World} {s : AStmt} {cs : List Value} (h : StmtRep w s cs) : cs.length = 11 := by
 cases s; rw [StmtRep] at h
 obtain ⟨ce, cr, va, vt, ve, rt, re, rfl, h1, ⟨v, rfl, _⟩, _⟩ := h
 simp [h1.len]
def ParamRep (x : AParam) (cs : List Value) : Prop := cs = [.string x.name, .bool x.mutex]
def FuncRep (w : World) (f : AFunc) (cs : List Value) : Prop := ∃ vp vb, cs = [.string f.name, vp, vb] ∧ ListRep w ParamRep 2 vp f.params ∧ ListRep w (StmtRep w) 11 vb f.body
def GlobalRep (g : AGlobal) (cs : List Value) : Prop := cs = [.string g.name, .int .i64 g.init]
def MutexRep (m : AMutex) (cs : List Value) : Prop := cs = [.string m.name, .bool m.reentrant, .int .i64 m.size]
def ProgRep (w : World) (p : AProg) (cs : List Value) : Prop := ∃ vg vm vf, cs = [vg, vm, vf] ∧ ListRep w GlobalRep 2 vg p.globals ∧ ListRep w MutexRep 3 vm p.mutexes ∧ ListRep w (FuncRep w) 3 vf p.funcs
theorem FuncRep.below {w w' : World} (hb : Below w.heap.size w w') {f : AFunc} {cs : List Value} (h : FuncRep w f cs) : FuncRep w' f cs := by
 obtain ⟨vp, vb, rfl, h1, h2⟩ := h
 exact ⟨vp, vb, rfl, h1.below hb (fun _ _ _ h => h), h2.below hb (fun _ _ _ h => StmtRep.below hb _ h)⟩
theorem ProgRep.below {w w' : World} (hb : Below w.heap.size w w') {p : AProg} {cs : List Value} (h : ProgRep w p cs) : ProgRep w' p cs := by
 obtain ⟨vg, vm, vf, rfl, h1, h2, h3⟩ := h
 exact ⟨vg, vm, vf, rfl, h1.below hb (fun _ _ _ h => h), h2.below hb (fun _ _ _ h => h), h3.below hb (fun _ _ _ h => FuncRep.below hb h)⟩
theorem flatten_get {z : Nat} : ∀ (rows : List (List Value)), (∀ r ∈ rows, r.length = z) → ∀ k f, (hk : k < rows.length) → f < z → (rows.flatten)[k * z + f]? = rows[k][f]?
 | [], _, k, f, hk, _ => by simp at hk
 | r :: rs, hz, k, f, hk, hf => by
  have hr : r.length = z := hz r (List.mem_cons_self ..)
  rw [List.flatten_cons]
  cases k with
  | zero => rw [Nat.zero_mul, Nat.zero_add, List.getElem?_append_left (by omega)]; rfl
  | succ k =>
   rw [List.getElem?_append_right (by rw [hr, Nat.add_mul]; omega)]
   have := flatten_get rs (fun r h => hz r (List.mem_cons_of_mem _ h)) k f (by simpa using hk) hf
   rw [hr, show (k + 1) * z + f - z = k * z + f by rw [Nat.add_mul]; omega, this]; rfl
theorem ListRep.get {α : Type} {w : World} {R : α → List Value → Prop} {z : Nat} {v : Value} {l : List α} (h : ListRep w R z v l) (hz : 0 < z) {k : Nat} (hk : k < l.length) :
  ∃ b off cap row, v = .slice (some ⟨b, off, none⟩) l.length cap ∧ l.length ≤ cap ∧ R l[k] row ∧ row.length = z ∧ b < w.heap.size ∧ ∀ f u, row[f]? = some u → w.cell? ⟨b, off + k * z + f, none⟩ = some u := by
 obtain ⟨rows, ⟨a, cap, rfl, hc, hr⟩, h2, h3⟩ := h
 have hk' : k < rows.length := by omega
 obtain ⟨h4, h5⟩ := h3 k hk hk'
 have hall : ∀ r ∈ rows, r.length = z := by
  intro r hr'
  obtain ⟨i, hi, rfl⟩ := List.getElem_of_mem hr'
  exact (h3 i (by omega) hi).2
 rcases hr with h0 | ⟨b, off, rfl, hr⟩
 ·exfalso
  have := flatten_get rows hall k 0 hk' hz
  rw [h0] at this
  simp at this
  rw [this] at h5; simp at h5; omega
 ·have hcell : ∀ f u, rows[k][f]? = some u → w.cell? ⟨b, off + k * z + f, none⟩ = some u := by
   intro f u hu
   have hf : f < z := by
    have := (List.getElem?_eq_some_iff.1 hu).1
    omega
   rw [Nat.add_assoc]
   exact hr _ _ (by rw [flatten_get rows hall k f hk' hf]; exact hu)
  refine ⟨b, off, cap, rows[k], rfl, hc, h4, h5, ?_, hcell⟩
  have h0 : (rows[k])[0]? = some ((rows[k])[0]'(by omega)) := by simp
  exact cell_lt (hcell 0 _ h0)
theorem ListRep.slice {α : Type} {w : World} {R : α → List Value → Prop} {z : Nat} {v : Value} {l : List α} (h : ListRep w R z v l) : ∃ a cap, v = .slice a l.length cap ∧ l.length ≤ cap := by
 obtain ⟨rows, ⟨a, cap, rfl, hc, _⟩, _⟩ := h
 exact ⟨a, cap, rfl, hc⟩
end Go.Proofs.YtflcnehhpmjipaaGreatDoor
namespace Go.Proofs.YtflcnehhpmjipaaGreatDoor
open Go.RowKit
def hideL (H : List Nat) (w : World) : World := { w with heap := Array.ofFn (n := w.heap.size) fun i => if i.1 ∈ H then Obj.cells #[] 0 (0, 0) else w.heap[i] }
theorem hideL_size (H : List Nat) (w : World) : (hideL H w).heap.size = w.heap.size := by simp [hideL]
theorem hideL_block (H : List Nat) (w : World) (k : Nat) (h : k ∉ H) : (hideL H w).heap[k]? = w.heap[k]? := by
 unfold hideL
 by_cases hk : k < w.heap.size
 ·rw [Array.getElem?_ofFn, dif_pos hk, Array.getElem?_eq_getElem hk]; simp [h]
 ·rw [Array.getElem?_ofFn, dif_neg hk, Array.getElem?_eq_none (by omega)]
theorem hideL_hidden (H : List Nat) (w : World) (k : Nat) (h : k ∈ H) (hk : k < w.heap.size) : (hideL H w).heap[k]? = some (Obj.cells #[] 0 (0, 0)) := by
 unfold hideL
 rw [Array.getElem?_ofFn, dif_pos hk]; simp [h]
theorem hideL_cell_ne (H : List Nat) (w : World) (a : Addr) (h : a.block ∉ H) : (hideL H w).cell? a = w.cell? a := World.cell?_of_block (w := w) (hideL_block H w _ h)
theorem hideL_cell_in (H : List Nat) (w : World) (a : Addr) (h : a.block ∈ H) : (hideL H w).cell? a = none := by
 unfold World.cell?
 by_cases hk : a.block < w.heap.size
 ·rw [hideL_hidden H w _ h hk]; simp
 ·rw [Array.getElem?_eq_none (by rw [hideL_size]; omega)]
theorem hideL_cell {H : List Nat} {w : World} {a : Addr} {u : Value} (h : (hideL H w).cell? a = some u) : w.cell? a = some u ∧ a.block ∉ H := by
 by_cases hm : a.block ∈ H
 ·rw [hideL_cell_in H w a hm] at h; cases h
 ·rw [hideL_cell_ne H w a hm] at h; exact ⟨h, hm⟩
structure Keep (H : List Nat) (w w' : World) : Prop where
 os : w'.os = w.os
 tape : w'.tape = w.tape
 output : w'.output = w.output
 size : w.heap.size ≤ w'.heap.size
 block : ∀ k, k < w.heap.size → k ∉ H → w'.heap[k]? = w.heap[k]?
theorem Keep.refl (H : List Nat) (w : World) : Keep H w w := ⟨rfl, rfl, rfl, Nat.le_refl _, fun _ _ _ => rfl⟩
theorem Keep.trans {H : List Nat} {a b c : World} (h : Keep H a b) (k : Keep H b c) : Keep H a c :=
 ⟨k.os.trans h.os, k.tape.trans h.tape, k.output.trans h.output, Nat.le_trans h.size k.size, fun i hi hn => (k.block i (Nat.lt_of_lt_of_le hi h.size) hn).trans (h.block i hi hn)⟩
theorem Keep.mono {H H' : List Nat} {a b : World} (h : Keep H a b) (hs : ∀ x, x ∈ H → x ∈ H') : Keep H' a b := ⟨h.os, h.tape, h.output, h.size, fun i hi hn => h.block i hi fun hm => hn (hs i hm)⟩
theorem Keep.of_below {H : List Nat} {w w' : World} (h : Below w.heap.size w w') : Keep H w w' := ⟨h.os, h.tape, h.output, h.size, fun k hk _ => h.block k hk⟩
theorem Keep.drew {H : List Nat} {a w : World} (h : Keep H a w) : Keep H a w.drew := ⟨h.os, h.tape, h.output, h.size, h.block⟩
theorem Keep.alloc {H : List Nat} {a w : World} (h : Keep H a w) (o : Obj) : Keep H a (w.alloc o) := h.trans (Keep.of_below ((Below.refl _ _).alloc (Nat.le_refl _) o))
theorem Keep.step {H : List Nat} {a w w' : World} (h : Keep H a w) (hb : Below w.heap.size w w') : Keep H a w' := h.trans (Keep.of_below hb)
theorem Keep.setCell {H : List Nat} {a w : World} (h : Keep H a w) {p : Addr} (hp : p.block ∈ H ∨ a.heap.size ≤ p.block) (u : Value) : Keep H a (w.setCell p u) :=
 ⟨h.os, h.tape, h.output, by simpa [World.setCell] using h.size, fun k hk hn => (Below.heap_setCell w p u k (by rintro rfl; rcases hp with hp | hp; exact hn hp; omega)).trans (h.block k hk hn)⟩
theorem Keep.cell {H : List Nat} {w w' : World} (h : Keep H w w') {p : Addr} (hp : p.block < w.heap.size) (hn : p.block ∉ H) : w'.cell? p = w.cell? p := World.cell?_of_block (w := w) (h.block p.block hp hn)
theorem Keep.frozen {H : List Nat} {w w' : World} (h : Keep H w w') {p : Addr} (hp : p.block < w.heap.size) (hn : p.block ∉ H) : w'.frozen? p = w.frozen? p := World.frozen?_of_block (w := w) (h.block p.block hp hn)
theorem Keep.below {H : List Nat} {w w' : World} {B : Nat} (h : Keep H w w') (hB : B ≤ w.heap.size) (hH : ∀ x, x ∈ H → B ≤ x) : Below B w w' :=
 ⟨h.os, h.tape, h.output, h.size, fun k hk => h.block k (by omega) fun hm => by have := hH k hm; omega⟩
theorem Keep.old {H : List Nat} {w w' : World} (h : Keep H w w') {p : Addr} {u : Value} (hc : (hideL H w).cell? p = some u) : w'.cell? p = some u := by
 obtain ⟨h1, h2⟩ := hideL_cell hc
 rw [h.cell (cell_lt h1) h2]; exact h1
theorem RowAt.mono {w w' : World} (hm : ∀ a u, w.cell? a = some u → w'.cell? a = some u) {v : Value} {n : Nat} {cells : List Value} (h : RowAt w v n cells) : RowAt w' v n cells := by
 obtain ⟨a, cap, rfl, hc, hr⟩ := h
 refine ⟨a, cap, rfl, hc, ?_⟩
 rcases hr with h0 | ⟨b, off, rfl, hr⟩
 ·exact .inl h0
 ·exact .inr ⟨b, off, rfl, fun j u hj => hm _ _ (hr j u hj)⟩
theorem RowAt.hide_new (H : List Nat) (w : World) (l : List Value) (T : TypeId) (n k : Nat) (hk : k = w.heap.size) (hH : ∀ x, x ∈ H → x < w.heap.size) : RowAt (hideL H (w.alloc (Obj.cells l.toArray T))) (.slice (some ⟨k, 0, none⟩) n n) n l := by
 obtain ⟨a, cap, he, hc, hr⟩ := RowAt.new_at w l T n k hk
 refine ⟨a, cap, he, hc, ?_⟩
 rcases hr with h0 | ⟨b, off, rfl, hr⟩
 ·exact .inl h0
 ·refine .inr ⟨b, off, rfl, fun j u hj => ?_⟩
  have hb : b = k := by injection he with h1; injection h1 with h2; injection h2 with h3; exact h3.symm
  rw [hideL_cell_ne]
  ·exact hr j u hj
  ·intro hm; have := hH b hm; omega
mutual
theorem ExprRep.mono {w w' : World} (hm : ∀ a u, w.cell? a = some u → w'.cell? a = some u) : ∀ (e : AExpr) {cs : List Value}, ExprRep w e cs → ExprRep w' e cs
 | .mk op num name args, cs, h => by
  rw [ExprRep] at h ⊢
  obtain ⟨v, rows, rfl, h1, h2⟩ := h
  exact ⟨v, rows, rfl, h1.mono hm, ExprsRep.mono hm args h2⟩
theorem ExprsRep.mono {w w' : World} (hm : ∀ a u, w.cell? a = some u → w'.cell? a = some u) : ∀ (l : List AExpr) {rows : List (List Value)}, ExprsRep w l rows → ExprsRep w' l rows
 | [], rows, h => by rw [ExprsRep] at h ⊢; exact h
 | e :: es, rows, h => by
  rw [ExprsRep] at h ⊢
  obtain ⟨r, rs, rfl, h1, h2⟩ := h
  exact ⟨r, rs, rfl, ExprRep.mono hm e h1, ExprsRep.mono hm es h2⟩
end
theorem ListRep.mono {α : Type} {w w' : World} (hm : ∀ a u, w.cell? a = some u → w'.cell? a = some u) {R R' : α → List Value → Prop} {z : Nat} {v : Value} {l : List α} (h : ListRep w R z v l) (hR : ∀ a cs, a ∈ l → R a cs → R' a cs) : ListRep w' R' z v l := by
 obtain ⟨rows, h1, h2, h3⟩ := h
 exact ⟨rows, h1.mono hm, h2, fun k h h' => ⟨hR _ _ (List.getElem_mem h) (h3 k h h').1, (h3 k h h').2⟩⟩
theorem RefRep.mono {w w' : World} (hm : ∀ a u, w.cell? a = some u → w'.cell? a = some u) {r : ARef} {cs : List Value} (h : RefRep w r cs) : RefRep w' r cs := by
 obtain ⟨v, rfl, h⟩ := h
 exact ⟨v, rfl, h.mono hm fun a cs _ h => ExprRep.mono hm a h⟩
theorem ArgRep.mono {w w' : World} (hm : ∀ a u, w.cell? a = some u → w'.cell? a = some u) {a : AArg} {cs : List Value} (h : ArgRep w a cs) : ArgRep w' a cs := by
 obtain ⟨cr, ce, rfl, h1, h2⟩ := h
 exact ⟨cr, ce, rfl, h1.mono hm, ExprRep.mono hm _ h2⟩
mutual
theorem StmtRep.mono {w w' : World} (hm : ∀ a u, w.cell? a = some u → w'.cell? a = some u) : ∀ (s : AStmt) {cs : List Value}, StmtRep w s cs → StmtRep w' s cs
 | .mk k name e r args t el, cs, h => by
  rw [StmtRep] at h ⊢
  obtain ⟨ce, cr, va, vt, ve, rt, re, rfl, h1, h2, h3, h4, h5, h6, h7⟩ := h
  exact ⟨ce, cr, va, vt, ve, rt, re, rfl, ExprRep.mono hm _ h1, h2.mono hm, h3.mono hm (fun _ _ _ h => ArgRep.mono hm h), h4.mono hm, StmtsRep.mono hm t h5, h6.mono hm, StmtsRep.mono hm el h7⟩
theorem StmtsRep.mono {w w' : World} (hm : ∀ a u, w.cell? a = some u → w'.cell? a = some u) : ∀ (l : List AStmt) {rows : List (List Value)}, StmtsRep w l rows → StmtsRep w' l rows
 | [], rows, h => by rw [StmtsRep] at h ⊢; exact h
 | e :: es, rows, h => by
  rw [StmtsRep] at h ⊢
  obtain ⟨r, rs, rfl, h1, h2⟩ := h
  exact ⟨r, rs, rfl, StmtRep.mono hm e h1, StmtsRep.mono hm es h2⟩
end
theorem FuncRep.mono {w w' : World} (hm : ∀ a u, w.cell? a = some u → w'.cell? a = some u) {f : AFunc} {cs : List Value} (h : FuncRep w f cs) : FuncRep w' f cs := by
 obtain ⟨vp, vb, rfl, h1, h2⟩ := h
 exact ⟨vp, vb, rfl, h1.mono hm (fun _ _ _ h => h), h2.mono hm (fun _ _ _ h => StmtRep.mono hm _ h)⟩
theorem ProgRep.mono {w w' : World} (hm : ∀ a u, w.cell? a = some u → w'.cell? a = some u) {p : AProg} {cs : List Value} (h : ProgRep w p cs) : ProgRep w' p cs := by
 obtain ⟨vg, vm, vf, rfl, h1, h2, h3⟩ := h
 exact ⟨vg, vm, vf, rfl, h1.mono hm (fun _ _ _ h => h), h2.mono hm (fun _ _ _ h => h), h3.mono hm (fun _ _ _ h => FuncRep.mono hm h)⟩
end Go.Proofs.YtflcnehhpmjipaaGreatDoor
namespace Go.Proofs.YtflcnehhpmjipaaGreatDoor
open Go.RowKit
theorem wp_append_fresh {P : Program} (w : World) {o : Oper} {a : Act} {K : Act → World → Prop} {Q : Exit → Act → World → Prop} (s x : Operand) (t : TypeId)
  (ho : o.op = .call { callee := .builtin .append, args := #[s, x], argTypes := #[t, t] })
  (base : Nat) (e : TypeId) (i : TypeInfo) (z : Value) (size bytes : Nat) (ht : P.underlying t = some (.slice e)) (hi : P.info? e = some i) (hz : i.zero = some z)
  (hsize : i.size = size) (hby : i.bytes = bytes) (hzs : z.cells.size = size) (hsz : 0 < size)
  (v : Value) (n : Nat) (xs : List Value) (hs : a.eval s = v) (hown : w.ownsRow base e size v n xs)
  (ad : Addr) (m c : Nat) (news : List Value) (hx : a.eval x = .slice (some ad) m c) (hl : news.length = m * size) (hnews : ∀ j u, news[j]? = some u → w.cell? (ad.add j) = some u) (h1 : ∀ u ∈ news, u.oneCell' = true)
  (h63 : n + m ≤ maxLen) (hbytes : (n + m) * bytes ≤ 140737488355328) (hbase : base ≤ w.heap.size)
  (h : ∀ v' w', w'.ownsRow base e size v' (n + m) (xs ++ news) → w.grownBy w' v.ownBlock → (∀ g, v'.ownBlock = some g → v.ownBlock = some g ∨ w.heap.size ≤ g) → K (a.put o.dst v') w') : o.wp P a w K Q := by
 obtain ⟨v', w', hr, h2, h3, h4⟩ := run_append_own (P := P) w base t o.type e i z size bytes ht hi hz hsize hby hzs hsz v n xs hown ad m c news hl hnews h1 h63 hbytes hbase
 have hfr : ∀ g, v'.ownBlock = some g → v.ownBlock = some g ∨ w.heap.size ≤ g := by
  rcases hown.2 with ⟨hv0, hn0⟩ | ⟨g, cap, cur, hv0, hbg, hg, hnc, hcm, hcs, htake⟩
  ·obtain ⟨v2, w2, hr2, h5, _, _⟩ := run_append_own (P := P) w w.heap.size t o.type e i z size bytes ht hi hz hsize hby hzs hsz v n xs ⟨hown.1, .inl ⟨hv0, hn0⟩⟩ ad m c news hl hnews h1 h63 hbytes (Nat.le_refl _)
   rw [hr] at hr2
   injection hr2 with e1 e2
   subst e1
   intro k hk
   exact Or.inr (h5.lt k hk).1
  ·subst hv0
   by_cases hroom : n + m ≤ cap
   ·have hr2 := run_append_room (P := P) w t o.type e i ht hi g n cap cur hg ad m c news (by rw [hsize]; exact hl) hnews h1 hroom (by rw [hsize, hl, hcs, ← Nat.add_mul]; exact Nat.mul_le_mul_right _ hroom)
    rw [hr] at hr2
    injection hr2 with e1 e2
    subst e1
    intro k hk
    exact .inl hk
   ·have holds : ∀ j u, xs[j]? = some u → w.cell? ((⟨g, 0, none⟩ : Addr).add j) = some u := hown.cells (g := g) rfl
    have hr2 := run_append_grow (P := P) w t o.type e i z ht hi hz ⟨g, 0, none⟩ n cap xs (by rw [hsize]; exact hown.1) holds ad m c news (by rw [hsize]; exact hl) hnews (by omega) (by simp only [maxLen] at h63; omega) (by rw [hby]; exact growslice_fits (by omega) hbytes)
    rw [hr] at hr2
    injection hr2 with e1 e2
    subst e1
    intro k hk
    simp [Value.ownBlock] at hk
    exact .inr (by omega)
 unfold Oper.wp execOp
 simp only [ho, resolve, invoke, builtin, Sem.run_bind, Sem.run_pure, Result.andThen_ok, List.map_toArray, List.map_cons, List.map_nil, hs, hx, hr]
 exact h v' w' h2 h3 hfr
end Go.Proofs.YtflcnehhpmjipaaGreatDoor
