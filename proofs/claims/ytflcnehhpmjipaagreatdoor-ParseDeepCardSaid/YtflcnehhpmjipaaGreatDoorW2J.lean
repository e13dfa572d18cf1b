import Derived.Test.YtflcnehhpmjipaaGreatDoorW1J
set_option linter.unusedVariables false
set_option linter.unusedSimpArgs false
namespace Go.Proofs.YtflcnehhpmjipaaGreatDoor
open Go.RowKit
def arithR (op : BinOp) (k : IntKind) (m n : Int) : Option Int := match op with | .add => some (k.wrap (m + n)) | .sub => some (k.wrap (m - n)) | .mul => some (k.wrap (m * n)) | _ => none
def cmpR (op : BinOp) (m n : Int) : Option Bool := match op with | .eql => some (m == n) | .neq => some (m != n) | .lss => some (decide (m < n)) | .leq => some (decide (m ≤ n)) | .gtr => some (decide (n < m)) | .geq => some (decide (n ≤ m)) | _ => none
def divR (op : BinOp) (k : IntKind) (m n : Int) : Option Int := match op with | .quo => some (k.wrap (m.tdiv n)) | .rem => some (m.tmod n) | _ => none
def strR (op : BinOp) (m n : ByteArray) : Option Bool := match op with | .eql => some (decide (m = n)) | .neq => some (!decide (m = n)) | _ => none
def boolR (op : BinOp) (m n : Bool) : Option Bool := match op with | .eql => some (m == n) | .neq => some (m != n) | _ => none
section
variable {P : Program} {U : List Nat} {o : Oper} {st : AS}
theorem RepT.val {w : World} {x v : Value} (h : RepT w (.c (.val x)) v) : v = x := by cases h with | c _ _ h => cases h; rfl
theorem ay_move {x : Operand} {t : AT} (ho : o.op = .move x) (hx : evA st x = some t) : AY P U o st t := by
 intro a w hs _
 exact ⟨a.eval x, hs.ev hx, fun w' _ => by simp only [execOp, ho]; rfl⟩
theorem ay_assign {x : Operand} {t : AT} (ho : o.op = .assign x) (hx : evA st x = some t) : AY P U o st t := by
 intro a w hs _
 exact ⟨a.eval x, hs.ev hx, fun w' _ => by simp only [execOp, ho]; rfl⟩
theorem ay_pick {c x y : Operand} {b : Bool} {t : AT} (ho : o.op = .pick c x y) (hc : evA st c = some (.c (.val (.bool b)))) (hx : evA st (if b then x else y) = some t) : AY P U o st t := by
 intro a w hs _
 refine ⟨a.eval (if b then x else y), hs.ev hx, fun w' _ => ?_⟩
 simp only [execOp, ho, hs.val hc]
 cases b <;> simp [go_sem]
theorem ay_vals {v : Value} (h1 : v.oneCell' = true) (h : ∀ a w, Sim st a w → ∀ w', (execOp a.eval o).run P w' = .ok (.value v) w') : AY P U o st (.c (.val v)) :=
 fun a w hs _ => ⟨v, .c _ _ (.val _ h1), fun w' _ => h a w hs w'⟩
theorem ay_arith {op : BinOp} {k : IntKind} {t yt : TypeId} {x y : Operand} {m n r : Int} (ho : o.op = .binOp op t x y yt) (hx : evA st x = some (.c (.val (.int k m)))) (hy : evA st y = some (.c (.val (.int k n))))
  (hr : arithR op k m n = some r) : AY P U o st (.c (.val (.int k r))) :=
 ay_vals rfl fun a w hs w' => by
  simp only [execOp, ho, hs.val hx, hs.val hy]
  cases op <;> simp_all [go_sem, eqGuard, binOp, Op.intArith, arithR]
theorem ay_cmp {op : BinOp} {k : IntKind} {t yt : TypeId} {x y : Operand} {m n : Int} (r : Bool) (ho : o.op = .binOp op t x y yt) (hx : evA st x = some (.c (.val (.int k m)))) (hy : evA st y = some (.c (.val (.int k n))))
  (hr : cmpR op m n = some r) : AY P U o st (.c (.val (.bool r))) :=
 ay_vals rfl fun a w hs w' => by
  simp only [execOp, ho, hs.val hx, hs.val hy]
  cases op <;> simp_all [go_sem, eqGuard, binOp, Op.intCmp, cmpR]
theorem ay_div {op : BinOp} {k : IntKind} {t yt : TypeId} {x y : Operand} {m n r : Int} (ho : o.op = .binOp op t x y yt) (hx : evA st x = some (.c (.val (.int k m)))) (hy : evA st y = some (.c (.val (.int k n)))) (hn : n ≠ 0)
  (hr : divR op k m n = some r) : AY P U o st (.c (.val (.int k r))) :=
 ay_vals rfl fun a w hs w' => by
  simp only [execOp, ho, hs.val hx, hs.val hy]
  cases op <;> simp_all [go_sem, eqGuard, binOp, Op.intDiv, divR]
theorem ay_streq {op : BinOp} {t yt : TypeId} {x y : Operand} {m n : ByteArray} (r : Bool) (ho : o.op = .binOp op t x y yt) (hx : evA st x = some (.c (.val (.string m)))) (hy : evA st y = some (.c (.val (.string n))))
  (hr : strR op m n = some r) : AY P U o st (.c (.val (.bool r))) :=
 ay_vals rfl fun a w hs w' => by
  have e : (m.toList == n.toList) = decide (m = n) := by
   by_cases h : m = n
   ·rw [strEq_true h, decide_eq_true h]
   ·rw [strEq_false h, decide_eq_false h]
  simp only [execOp, ho, hs.val hx, hs.val hy]
  cases op <;> simp_all [go_sem, eqGuard, binOp, Op.stringOp, strR]
theorem ay_cat {t yt : TypeId} {x y : Operand} {m n : ByteArray} (ho : o.op = .binOp .add t x y yt) (hx : evA st x = some (.c (.val (.string m)))) (hy : evA st y = some (.c (.val (.string n)))) (hl : m.size + n.size ≤ 9223372036854775807) : AY P U o st (.c (.val (.string (m ++ n)))) :=
 ay_vals rfl fun a w hs w' => by
  have h : ¬ (((m.size + n.size : Nat) : Int) > IntKind.i64.max) := by rw [show IntKind.i64.max = 9223372036854775807 from by decide]; omega
  simp only [execOp, ho, hs.val hx, hs.val hy]
  simp [go_sem, eqGuard, binOp, Op.stringOp]
  omega
theorem run_equal_bool (d : Nat) {t : TypeId} (m n : Bool) (w : World) (hu : ∀ w, (underlying t).run P w = .ok .bool w) : (Op.equalIn (d + 1) t (.bool m) (.bool n)).run P w = .ok (m == n) w := by
 simp [Op.equalIn, go_sem, hu]
theorem ay_booleq {op : BinOp} {t yt : TypeId} {x y : Operand} {m n : Bool} (r : Bool) (ho : o.op = .binOp op t x y yt) (hx : evA st x = some (.c (.val (.bool m)))) (hy : evA st y = some (.c (.val (.bool n))))
  (hu : ∀ w, (underlying t).run P w = .ok .bool w) (hr : boolR op m n = some r) : AY P U o st (.c (.val (.bool r))) :=
 ay_vals rfl fun a w hs w' => by
  have e2 : (Op.equal t (.bool m) (.bool n)).run P w' = .ok (m == n) w' := run_equal_bool _ m n w' hu
  generalize hg : Op.equal t (.bool m) (.bool n) = E at e2
  simp only [execOp, ho, hs.val hx, hs.val hy]
  cases op <;> simp_all [go_sem, eqGuard, binOp, bne, boolR]
theorem ay_not {t : TypeId} {x : Operand} {m : Bool} (ho : o.op = .unOp .not t x) (hx : evA st x = some (.c (.val (.bool m)))) : AY P U o st (.c (.val (.bool (!m)))) :=
 ay_vals rfl fun a w hs w' => by
  simp only [execOp, ho, hs.val hx]
  simp [go_sem, Op.unary]
theorem ay_neg {t : TypeId} {x : Operand} {k : IntKind} {m : Int} (ho : o.op = .unOp .neg t x) (hx : evA st x = some (.c (.val (.int k m)))) : AY P U o st (.c (.val (.int k (k.wrap (0 - m))))) :=
 ay_vals rfl fun a w hs w' => by
  simp only [execOp, ho, hs.val hx]
  simp [go_sem, Op.unary, Op.intArith]
theorem ay_nilCheck {x : Operand} {b off : Nat} (ho : o.op = .nilCheck x) (hx : evA st x = some (.c (.val (.pointer (some ⟨b, off, none⟩))))) : AY P U o st (.c (.val (.pointer (some ⟨b, off, none⟩)))) :=
 ay_vals rfl fun a w hs w' => by
  simp only [execOp, ho, hs.val hx]
  rfl
theorem ay_nilCheck_el {x : Operand} {cs : List AC} (ho : o.op = .nilCheck x) (hx : evA st x = some (.el cs)) : AY P U o st (.el cs) := by
 intro a w hs _
 have h := hs.ev hx
 generalize he : a.eval x = u at h
 refine ⟨u, h, fun w' _ => ?_⟩
 cases h with
 | el _ b of us h1 h2 h3 =>
  simp only [execOp, ho, he]
  rfl
theorem ay_len_str {x : Operand} {t : TypeId} {s : ByteArray} (ho : o.op = .call { callee := .builtin .len, args := #[x], argTypes := #[t] }) (hx : evA st x = some (.c (.val (.string s)))) (hu : ∀ w, (underlying t).run P w = .ok .string w) : AY P U o st (.c (.val (.int .i64 s.size))) :=
 ay_vals rfl fun a w hs w' => by
  simp only [execOp, ho, resolve, List.map_toArray, List.map_cons, List.map_nil, hs.val hx]
  simp [go_sem, invoke, builtin, Builtin.len_, hu, goInt]
theorem ay_len_val {x : Operand} {t e : TypeId} {p : Option Addr} {n m : Nat} (ho : o.op = .call { callee := .builtin .len, args := #[x], argTypes := #[t] }) (hx : evA st x = some (.c (.val (.slice p n m)))) (hu : ∀ w, (underlying t).run P w = .ok (.slice e) w) : AY P U o st (.c (.val (.int .i64 n))) :=
 ay_vals rfl fun a w hs w' => by
  simp only [execOp, ho, resolve, List.map_toArray, List.map_cons, List.map_nil, hs.val hx]
  simp [go_sem, invoke, builtin, Builtin.len_, hu, goInt]
theorem ay_len_sl {x : Operand} {t e : TypeId} {n : Nat} {cs : List AC} (ho : o.op = .call { callee := .builtin .len, args := #[x], argTypes := #[t] }) (hx : evA st x = some (.c (.sl n cs))) (hu : ∀ w, (underlying t).run P w = .ok (.slice e) w) : AY P U o st (.c (.val (.int .i64 n))) :=
 ay_vals rfl fun a w hs w' => by
  have h := hs.ev hx
  generalize he : a.eval x = u at h
  cases h with
  | c _ _ h => cases h with
   | sl n cs us v hr hl hh =>
    obtain ⟨p, cap, rfl, -⟩ := hr
    simp only [execOp, ho, resolve, List.map_toArray, List.map_cons, List.map_nil, he]
    simp [go_sem, invoke, builtin, Builtin.len_, hu, goInt]
end
end Go.Proofs.YtflcnehhpmjipaaGreatDoor
namespace Go.Proofs.YtflcnehhpmjipaaGreatDoor
open Go.RowKit
section
variable {P : Program} {U : List Nat} {o : Oper} {st : AS}
def pk (ag : Bool) (z : Nat) (cs : List AC) (off : Nat) : Option AT :=
 if ag then (if off + z ≤ cs.length then some (.agg ((cs.drop off).take z)) else none) else (cs[off]?).map .c
theorem add_addr (b o k : Nat) : (⟨b, o, none⟩ : Addr).add k = ⟨b, o + k, none⟩ := by unfold Addr.add; split <;> simp_all
theorem run_loadCells {w : World} {b o : Nat} {us : List Value} (hc : ∀ j u, us[j]? = some u → w.cell? ⟨b, o + j, none⟩ = some u) : ∀ (n i : Nat) (acc : Array Value), i + n ≤ us.length → (loadCellsFrom ⟨b, o, none⟩ i n acc).run P w = .ok (acc ++ ((us.drop i).take n).toArray) w
 | 0, i, acc, _ => by simp [loadCellsFrom, go_sem]
 | n + 1, i, acc, h => by
  have hi : i < us.length := by omega
  have h1 := hc i us[i] (by simp [hi])
  have ih := run_loadCells hc n (i + 1) (acc.push us[i]) (by omega)
  rw [loadCellsFrom]
  have e : (load ((⟨b, o, none⟩ : Addr).add i)).run P w = .ok us[i] w := by
   rw [add_addr]; simp only [load, Sem.run, h1]
  rw [Sem.run_bind, e, Result.andThen_ok, ih]
  congr 1
  rw [List.drop_eq_getElem_cons hi, List.take_succ_cons]
  simp
theorem run_loadPk {w : World} {bl : List Nat} {t : TypeId} {ag : Bool} {z b o off : Nat} {cs : List AC} {us : List Value} {r : AT} (hA : ∀ w, (isAgg t).run P w = .ok ag w) (hS : ∀ w, (sizeOf t).run P w = .ok z w) (hr : RepL (hideL bl w) cs us) (hp : pk ag z cs off = some r) :
  ∃ v, RepT (hideL bl w) r v ∧ ∀ w', (∀ j u, us[j]? = some u → w'.cell? ⟨b, o + j, none⟩ = some u) → (loadVar t ⟨b, o + off, none⟩).run P w' = .ok v w' := by
 unfold pk at hp
 cases ag with
 | true =>
  simp only [if_true] at hp
  split at hp
  ·rename_i hl
   cases hp
   refine ⟨_, .agg _ _ ((hr.drop off).take z), fun w' hc => ?_⟩
   have h2 := run_loadCells (P := P) (w := w') (b := b) (o := o + off) (us := us.drop off) (fun j u hj => by rw [List.getElem?_drop] at hj; rw [Nat.add_assoc]; exact hc _ _ hj) z 0 #[] (by simp [hr.len]; omega)
   simp only [loadVar, Sem.run_bind, hA, Result.andThen_ok, if_true, hS, loadCells, h2]
   simp [go_sem]
  ·cases hp
 | false =>
  simp only [Bool.false_eq_true, if_false, Option.map_eq_some_iff] at hp
  obtain ⟨x, hx, rfl⟩ := hp
  obtain ⟨u, hu, hrep⟩ := hr.get hx
  refine ⟨u, .c _ _ hrep, fun w' hc => ?_⟩
  have h1 := hc off u hu
  simp only [loadVar, Sem.run_bind, hA, Result.andThen_ok, Bool.false_eq_true, if_false, load, Sem.run, h1]
theorem ay_load_el {t : TypeId} {x : Operand} {cs : List AC} {ag : Bool} {z : Nat} {r : AT} (ho : o.op = .load t x) (hx : evA st x = some (.el cs)) (hA : ∀ w, (isAgg t).run P w = .ok ag w) (hS : ∀ w, (sizeOf t).run P w = .ok z w) (hp : pk ag z cs 0 = some r) : AY P U o st r := by
 intro a w hs hU
 have h := hs.ev hx
 generalize he : a.eval x = u at h
 cases h with
 | el _ b of us h1 h2 h3 =>
  obtain ⟨v, hv, hl⟩ := run_loadPk (P := P) (b := b) (o := of) hA hS h1 hp
  refine ⟨v, hv, fun w' hk => ?_⟩
  have hl2 := hl w' (fun j u hj => by
   obtain ⟨h4, h5⟩ := hideL_cell (h2 j u hj)
   rw [hk.cell (cell_lt h4) (fun hm => h5 (hU _ hm))]; exact h4)
  simp only [execOp, ho, he, Instr.loadAt, Instr.sureAddr, Sem.run_bind, Sem.run_pure, Result.andThen_ok, Nat.add_zero] at hl2 ⊢
  rw [hl2]; rfl
theorem ay_load_box {t : TypeId} {x : Operand} {b off : Nat} {T : TypeId} {cs : List AC} {ag : Bool} {z : Nat} {r : AT} (A : List Box) {B : List Box} (ho : o.op = .load t x) (hx : evA st x = some (.c (.val (.pointer (some ⟨b, off, none⟩))))) (hb : st.s.boxes = A ++ ⟨b, T, cs⟩ :: B)
  (hA : ∀ w, (isAgg t).run P w = .ok ag w) (hS : ∀ w, (sizeOf t).run P w = .ok z w) (hp : pk ag z cs off = some r) (hU : st.s.bl.Nodup → b ∉ U) : AY P U o st r := by
 intro a w hs hU2
 have hmem : (⟨b, T, cs⟩ : Box) ∈ st.s.boxes := by rw [hb]; simp
 obtain ⟨us, h1, h2⟩ := hs.mem.box _ hmem
 obtain ⟨v, hv, hl⟩ := run_loadPk (P := P) (b := b) (o := 0) hA hS h2 hp
 refine ⟨v, hv, fun w' hk => ?_⟩
 have hlt : b < w.heap.size := hs.mem.lt b (List.mem_append_left _ (List.mem_map.2 ⟨_, hmem, rfl⟩))
 have hh := hk.block b hlt (hU hs.mem.nodup)
 have hl2 := hl w' (fun j u hj => by
  unfold World.cell?
  simp only [hh, h1]
  simpa using hj)
 simp only [Nat.zero_add] at hl2
 simp only [execOp, ho, hs.val hx, Instr.loadAt, Instr.sureAddr, Sem.run_bind, Sem.run_pure, Result.andThen_ok]
 rw [hl2]; rfl
def fld (fs : Array Field) (f : Nat) : Option (Nat × TypeId) := (fs[f]?).map fun x => (x.offset, x.type)
theorem run_fieldAt {t ft : TypeId} {fs : Array Field} {f off z b p : Nat} {w : World} (hu : ∀ w, (underlying t).run P w = .ok (.struct fs) w) (hf : fld fs f = some (off, ft)) (hS : ∀ w, (sizeOf ft).run P w = .ok z w) (hz : z ≠ 0) :
  (Instr.fieldAt t (.pointer (some ⟨b, p, none⟩)) f).run P w = .ok (.pointer (some ⟨b, p + off, none⟩)) w := by
 unfold fld at hf
 cases hx : fs[f]? with
 | none => rw [hx] at hf; cases hf
 | some x =>
  rw [hx] at hf
  simp only [Option.map_some, Option.some.injEq, Prod.mk.injEq] at hf
  obtain ⟨rfl, rfl⟩ := hf
  simp only [Instr.fieldAt, Sem.run_bind, hu, Result.andThen_ok, hx, Instr.sureAddr, Sem.run_pure, fieldPlace, hS, if_neg hz, add_addr]
theorem ay_fieldAddr (off q : Nat) {t ft : TypeId} {x : Operand} {fs : Array Field} {f z b p : Nat} (ho : o.op = .fieldAddr t x f) (hx : evA st x = some (.c (.val (.pointer (some ⟨b, p, none⟩))))) (hu : ∀ w, (underlying t).run P w = .ok (.struct fs) w) (hf : fld fs f = some (off, ft)) (hS : ∀ w, (sizeOf ft).run P w = .ok z w) (hz : z ≠ 0) (hq : p + off = q) : AY P U o st (.c (.val (.pointer (some ⟨b, q, none⟩)))) :=
 ay_vals rfl fun a w hs w' => by
  subst hq
  simp only [execOp, ho, hs.val hx, Sem.run_bind, run_fieldAt hu hf hS hz]; rfl
theorem RepT.el_drop {w : World} {cs : List AC} {b p : Nat} (k : Nat) (h : RepT w (.el cs) (.pointer (some ⟨b, p, none⟩))) : RepT w (.el (cs.drop k)) (.pointer (some ⟨b, p + k, none⟩)) := by
 cases h with
 | el _ _ _ us h1 h2 h3 => exact .el _ b (p + k) (us.drop k) (h1.drop k) (fun j u hj => by rw [List.getElem?_drop] at hj; rw [Nat.add_assoc]; exact h2 _ _ hj) h3
theorem ay_fieldAddr_el (off : Nat) {t ft : TypeId} {x : Operand} {fs : Array Field} {f z : Nat} {cs : List AC} (ho : o.op = .fieldAddr t x f) (hx : evA st x = some (.el cs)) (hu : ∀ w, (underlying t).run P w = .ok (.struct fs) w) (hf : fld fs f = some (off, ft)) (hS : ∀ w, (sizeOf ft).run P w = .ok z w) (hz : z ≠ 0) : AY P U o st (.el (cs.drop off)) := by
 intro a w hs _
 have h := hs.ev hx
 generalize he : a.eval x = u at h
 have h9 := h
 cases h with
 | el _ b of us h1 h2 h3 =>
  refine ⟨_, h9.el_drop off, fun w' _ => ?_⟩
  simp only [execOp, ho, he, Sem.run_bind, run_fieldAt hu hf hS hz]; rfl
theorem ay_field (off : Nat) {t ft : TypeId} {x : Operand} {fs : Array Field} {f z : Nat} {cs : List AC} {ag : Bool} {r : AT} (ho : o.op = .field t x f) (hx : evA st x = some (.agg cs)) (hu : ∀ w, (underlying t).run P w = .ok (.struct fs) w) (hf : fld fs f = some (off, ft)) (hA : ∀ w, (isAgg ft).run P w = .ok ag w) (hS : ∀ w, (sizeOf ft).run P w = .ok z w) (hp : pk ag z cs off = some r) : AY P U o st r := by
 intro a w hs _
 have h := hs.ev hx
 generalize he : a.eval x = u at h
 cases h with
 | agg _ us h1 =>
  unfold fld at hf
  cases hxx : fs[f]? with
  | none => rw [hxx] at hf; cases hf
  | some y =>
   rw [hxx] at hf
   simp only [Option.map_some, Option.some.injEq, Prod.mk.injEq] at hf
   obtain ⟨rfl, rfl⟩ := hf
   unfold pk at hp
   cases ag with
   | true =>
    simp only [if_true] at hp
    split at hp
    ·cases hp
     refine ⟨_, .agg _ _ ((h1.drop _).take z), fun w' _ => ?_⟩
     simp only [execOp, ho, he, Instr.field, Sem.run_bind, hu, Result.andThen_ok, hxx, asAgg, Sem.run_pure, part, hA, if_true, hS]
     simp [List.extract_eq_take_drop]
    ·cases hp
   | false =>
    simp only [Bool.false_eq_true, if_false, Option.map_eq_some_iff] at hp
    obtain ⟨c, hc, rfl⟩ := hp
    obtain ⟨v, hv, hrep⟩ := h1.get hc
    refine ⟨v, .c _ _ hrep, fun w' _ => ?_⟩
    simp only [execOp, ho, he, Instr.field, Sem.run_bind, hu, Result.andThen_ok, hxx, asAgg, Sem.run_pure, part, hA, Bool.false_eq_true, if_false]
    simp [hv, go_sem]
theorem ay_index_el {t e : TypeId} {x y : Operand} {n z : Nat} {cs : List AC} {k : IntKind} {i : Int} (j : Nat) (ho : o.op = .indexAddr t x y) (hx : evA st x = some (.c (.sl n cs))) (hy : evA st y = some (.c (.val (.int k i)))) (hi : i = j) (hj : j < n) (hne : j * z < cs.length)
  (hu : ∀ w, (underlying t).run P w = .ok (.slice e) w) (hS : ∀ w, (sizeOf e).run P w = .ok z w) : AY P U o st (.el (cs.drop (j * z))) := by
 intro a w hs _
 subst hi
 have h := hs.ev hx
 generalize he : a.eval x = u at h
 cases h with
 | c _ _ h => cases h with
  | sl n cs us v hr hl hh =>
   obtain ⟨p, cap, rfl, hcap, hr⟩ := hr
   rcases hr with rfl | ⟨b, of, rfl, hc⟩
   ·simp at hl; omega
   ·have hel : RepT (hideL st.s.bl w) (.el cs) (.pointer (some ⟨b, of, none⟩)) := by
     have h0 : 0 < us.length := by omega
     exact .el _ b of us ⟨hl, hh⟩ hc (cell_lt (hc 0 us[0] (by simp [h0])))
    refine ⟨_, hel.el_drop (j * z), fun w' _ => ?_⟩
    simp only [execOp, ho, he, hs.val hy, Instr.indexAt, asIntOf, Sem.run_bind, Sem.run_pure, Result.andThen_ok, hu]
    simp [go_sem, hS, hj, add_addr]
theorem ay_extract {x : Operand} {k : Nat} {ts : List AT} {t : AT} (ho : o.op = .extract x k) (hx : evA st x = some (.tup ts)) (ht : ts[k]? = some t) : AY P U o st t := by
 intro a w hs _
 have h := hs.ev hx
 generalize he : a.eval x = u at h
 cases h with
 | tup _ vs hl hr =>
  obtain ⟨hk, rfl⟩ := List.getElem?_eq_some_iff.1 ht
  have hk2 : k < vs.length := by omega
  refine ⟨vs[k], hr k hk hk2, fun w' _ => ?_⟩
  simp only [execOp, ho, he, Instr.extract]
  simp [hk2, go_sem]
theorem ay_makeFunc {F : FuncId} {cap : Array Operand} {vs : List Value} (ho : o.op = .makeFunc (.func F) #[] cap) (hc : cap.toList.map (evA st) = vs.map fun v => some (.c (.val v))) : AY P U o st (.c (.val (.func (.func F) #[] vs.toArray))) :=
 ay_vals rfl fun a w hs w' => by
  have e : cap.map a.eval = vs.toArray := by
   rw [← Array.toList_inj, Array.toList_map]
   have : ∀ (l : List Operand) (vs : List Value), l.map (evA st) = vs.map (fun v => some (.c (.val v))) → l.map a.eval = vs := by
    intro l
    induction l with
    | nil => intro vs h; cases vs with | nil => rfl | cons => cases h
    | cons x l ih =>
     intro vs h
     cases vs with
     | nil => cases h
     | cons v vs =>
      simp only [List.map_cons, List.cons.injEq] at h ⊢
      exact ⟨hs.val h.1, ih vs h.2⟩
   exact this _ _ hc
  simp only [execOp, ho, Instr.makeFunc, e]
  simp [go_sem]
end
end Go.Proofs.YtflcnehhpmjipaaGreatDoor
