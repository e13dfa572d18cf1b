import Derived.Test.YtflcnehhpmjipaaGreatDoorW4J
import Derived.Test.YtflcnehhpmjipaaGreatDoorProg
set_option linter.unusedVariables false
set_option linter.unusedSimpArgs false
namespace Go.Proofs.YtflcnehhpmjipaaGreatDoor
open Go.RowKit
class Go1 (N : Nat) (g : Prop) (g' : outParam Prop) : Prop where out : g' → g
theorem go (N : Nat) {g g' : Prop} [h : Go1 N g g'] (x : g') : g := h.out x
instance go_stop {g : Prop} : Go1 0 g g := ⟨id⟩
class LtN (d n : Nat) : Prop where h : d < n
instance ltN {d k : Nat} : LtN d (k + d + 1) := ⟨by omega⟩
class NeN (i j : Nat) : Prop where h : i ≠ j
instance neN1 {i j : Nat} [h : LtN i j] : NeN i j := ⟨by have := h.h; omega⟩
instance neN2 {i j : Nat} [h : LtN j i] : NeN i j := ⟨by have := h.h; omega⟩
class Look (ts : List (Nat × AT)) (i : Nat) (t : outParam AT) : Prop where h : look ts i = some t
instance (priority := 1100) look_hit {ts : List (Nat × AT)} {i : Nat} {t : AT} : Look ((i, t) :: ts) i t := ⟨by simp [look]⟩
instance look_miss {ts : List (Nat × AT)} {i j : Nat} {t u : AT} [h1 : NeN j i] [h2 : Look ts i t] : Look ((j, u) :: ts) i t := ⟨by rw [look, if_neg h1.h]; exact h2.h⟩
class Bare (u : AT) (t : outParam AT) : Prop where h : u.bare = t
instance bare_c {x : AC} : Bare (.c x) (.c x) := ⟨rfl⟩
instance bare_agg {x : List AC} : Bare (.agg x) (.agg x) := ⟨rfl⟩
instance bare_tup {x : List AT} : Bare (.tup x) (.tup x) := ⟨rfl⟩
instance bare_el {x : List AC} : Bare (.el x) (.el x) := ⟨rfl⟩
instance bare_raw {x : Value} : Bare (.raw x) (.raw x) := ⟨rfl⟩
instance bare_fact {t : AT} {a b c d : Nat} {x y : List AC} : Bare (.fact (.fact t a b x) c d y) t := ⟨rfl⟩
class MapVal (vs : List Value) (cs : outParam (List AC)) : Prop where h : vs.all (·.oneCell') = true ∧ vs.map .val = cs
instance mapVal_nil : MapVal [] [] := ⟨rfl, rfl⟩
class OneC (v : Value) : Prop where h : v.oneCell' = true
instance oneC_i {k : IntKind} {i : Int} : OneC (.int k i) := ⟨rfl⟩
instance oneC_b {b : Bool} : OneC (.bool b) := ⟨rfl⟩
instance oneC_s {b : ByteArray} : OneC (.string b) := ⟨rfl⟩
instance oneC_p {b : Option Addr} : OneC (.pointer b) := ⟨rfl⟩
instance oneC_sl {a : Option Addr} {m k : Nat} : OneC (.slice a m k) := ⟨rfl⟩
instance oneC_f {f : Fn} {a b : Array Value} : OneC (.func f a b) := ⟨rfl⟩
instance oneC_nf : OneC .nilFunc := ⟨rfl⟩
instance mapVal_cons {v : Value} {vs : List Value} {cs : List AC} [h1 : OneC v] [h2 : MapVal vs cs] : MapVal (v :: vs) (.val v :: cs) := ⟨by simp only [List.all_cons, h1.h, h2.h.1, Bool.and_self], by rw [List.map_cons, h2.h.2]⟩
class Cst (v : Value) (t : outParam AT) : Prop where h : cst v = t
instance cst_i {k : IntKind} {i : Int} : Cst (.int k i) (.c (.val (.int k i))) := ⟨rfl⟩
instance cst_b {b : Bool} : Cst (.bool b) (.c (.val (.bool b))) := ⟨rfl⟩
instance cst_s {b : ByteArray} : Cst (.string b) (.c (.val (.string b))) := ⟨rfl⟩
instance cst_p {b : Option Addr} : Cst (.pointer b) (.c (.val (.pointer b))) := ⟨rfl⟩
instance cst_sl {a : Option Addr} {m k : Nat} : Cst (.slice a m k) (.c (.val (.slice a m k))) := ⟨rfl⟩
instance cst_nf : Cst .nilFunc (.c (.val .nilFunc)) := ⟨rfl⟩
instance cst_agg {vs : List Value} {cs : List AC} [h : MapVal vs cs] : Cst (.agg vs.toArray) (.agg cs) := ⟨by
 show (if vs.toArray.toList.all (·.oneCell') then AT.agg (vs.toArray.toList.map .val) else .raw (.agg vs.toArray)) = _
 rw [List.toList_toArray, if_pos h.h.1, h.h.2]⟩
class Ev (ts : List (Nat × AT)) (x : Operand) (t : outParam AT) : Prop where h : ∀ n T s, evA ⟨n, T, s, ts⟩ x = some t
instance ev_tmp {ts : List (Nat × AT)} {i : Nat} {u t : AT} [h1 : Look ts i u] [h2 : Bare u t] : Ev ts (.tmp i) t := ⟨fun n T s => by show (look ts i).map AT.bare = _; rw [h1.h, Option.map_some, h2.h]⟩
instance ev_const {ts : List (Nat × AT)} {v : Value} {t : AT} [h : Cst v t] : Ev ts (.const v) t := ⟨fun n T s => by show some (cst v) = _; rw [h.h]⟩
instance ev_func {ts : List (Nat × AT)} {f : FuncId} : Ev ts (.func f) (.c (.val (.func (.func f) #[] #[]))) := ⟨fun n T s => rfl⟩
class DstAt (l : List Oper) (j : Nat) (t : outParam Nat) : Prop where h : (l[j]?).bind (·.dst) = some t
instance dst_hit {t : Nat} {op : Op} {ty : TypeId} {pos : String} {af : Array Edge} {g : Option (Nat × Bool)} {l : List Oper} : DstAt (⟨some t, op, ty, pos, af, g⟩ :: l) 0 t := ⟨rfl⟩
instance dst_next {t j : Nat} {o : Oper} {l : List Oper} [h : DstAt l j t] : DstAt (o :: l) (j + 1) t := ⟨by simpa using h.h⟩
class BoolIs (b want : Bool) (r : outParam Bool) : Prop where h : (b == want) = r
instance bi_tt : BoolIs true true true := ⟨rfl⟩
instance bi_tf : BoolIs true false false := ⟨rfl⟩
instance bi_ft : BoolIs false true false := ⟨rfl⟩
instance bi_ff : BoolIs false false true := ⟨rfl⟩
class GuardV (t : AT) (want : Bool) (r : outParam Bool) : Prop where h : (match t with | .c (.val v) => some (wantV want v) | .raw v => some (wantV want v) | _ => none) = some r
instance gv_b {b want r : Bool} [h : BoolIs b want r] : GuardV (.c (.val (.bool b))) want r := ⟨by show some (b == want) = some r; rw [h.h]⟩
instance gv_u {want : Bool} : GuardV (.raw undef) want false := ⟨rfl⟩
class Guard (l : List Oper) (ts : List (Nat × AT)) (g : Option (Nat × Bool)) (r : outParam Bool) : Prop where h : ∀ n T s (o : Oper), o.guard = g → wantA l.toArray o ⟨n, T, s, ts⟩ = some r
instance guard_none {l : List Oper} {ts : List (Nat × AT)} : Guard l ts none true := ⟨fun n T s o h => by unfold wantA; rw [h]⟩
instance guard_some {l : List Oper} {ts : List (Nat × AT)} {j t : Nat} {want r : Bool} {u : AT} [h1 : DstAt l j t] [h2 : Look ts t u] [h3 : GuardV u want r] : Guard l ts (some (j, want)) r := ⟨fun n T s o h => by
 unfold wantA; rw [h]; dsimp only
 rw [h1.h]; dsimp only
 rw [h2.h]
 have h4 := h3.h
 revert h4
 cases u with
 | c x => cases x with
  | val v => exact id
  | sl _ _ => exact id
 | raw v => exact id
 | _ => exact id⟩
class YR (P : Program) (U : List Nat) (op : Op) (n : Nat) (T : List Nat) (s : Sto) (ts : List (Nat × AT)) (t : outParam AT) : Prop where h : ∀ o : Oper, o.op = op → AY P U o ⟨n, T, s, ts⟩ t
class StepG (r : Bool) (P : Program) (U : List Nat) (op : Op) (n : Nat) (T : List Nat) (s : Sto) (ts : List (Nat × AT)) (t : outParam AT) : Prop where h : (r = true → ∀ o : Oper, o.op = op → AY P U o ⟨n, T, s, ts⟩ t) ∧ (r = false → t = .raw undef)
section
variable {P : Program} {U T : List Nat} {n : Nat} {s : Sto} {ts : List (Nat × AT)} {t u : AT}
instance stepT {op : Op} [h : YR P U op n T s ts t] : StepG true P U op n T s ts t := ⟨fun _ => h.h, (fun h => by cases h)⟩
instance stepF {op : Op} : StepG false P U op n T s ts (.raw undef) := ⟨(fun h => by cases h), fun _ => rfl⟩
instance y_move {x : Operand} [h : Ev ts x t] : YR P U (.move x) n T s ts t := ⟨fun o ho => ay_move ho (h.h _ _ _)⟩
instance y_assign {x : Operand} [h : Ev ts x t] : YR P U (.assign x) n T s ts t := ⟨fun o ho => ay_assign ho (h.h _ _ _)⟩
instance y_pickT {c x y : Operand} [hc : Ev ts c (.c (.val (.bool true)))] [h : Ev ts x t] : YR P U (.pick c x y) n T s ts t := ⟨fun o ho => ay_pick (b := true) ho (hc.h _ _ _) (h.h _ _ _)⟩
instance y_pickF {c x y : Operand} [hc : Ev ts c (.c (.val (.bool false)))] [h : Ev ts y t] : YR P U (.pick c x y) n T s ts t := ⟨fun o ho => ay_pick (b := false) ho (hc.h _ _ _) (h.h _ _ _)⟩
end
class LenL (cs : List AC) (z : Nat) : Prop where h : cs.length = z
instance lenL_nil : LenL [] 0 := ⟨rfl⟩
instance lenL_cons {c : AC} {cs : List AC} {k : Nat} [h : LenL cs k] : LenL (c :: cs) (k + 1) := ⟨by rw [List.length_cons, h.h]⟩
instance lenL_e {x : AExpr} : LenL (encE x) 4 := ⟨encE_len x⟩
instance lenL_e1 {x : AExpr} : LenL (encE1 x) 4 := ⟨rfl⟩
instance lenL_r {x : ARef} : LenL (encR x) 2 := ⟨rfl⟩
instance lenL_a {x : AArg} : LenL (encA x) 7 := ⟨rfl⟩
instance lenL_s {x : AStmt} : LenL (encS x) 11 := ⟨encS_len x⟩
instance lenL_s1 {x : AStmt} : LenL (encS1 x) 11 := ⟨rfl⟩
instance lenL_p {x : AParam} : LenL (encP x) 2 := ⟨rfl⟩
instance lenL_f {x : AFunc} : LenL (encF x) 3 := ⟨rfl⟩
instance lenL_g {x : AGlobal} : LenL (encG x) 2 := ⟨rfl⟩
instance lenL_m {x : AMutex} : LenL (encM x) 3 := ⟨rfl⟩
instance lenL_pr {x : AProg} : LenL (encPr x) 3 := ⟨rfl⟩
instance lenL_t {x : Tok} : LenL (encT x) 4 := ⟨rfl⟩
class Cells (cs : List AC) (ds : outParam (List AC)) : Prop where h : cs = ds
instance cells_nil : Cells [] [] := ⟨rfl⟩
instance cells_cons {c : AC} {cs : List AC} : Cells (c :: cs) (c :: cs) := ⟨rfl⟩
instance cells_e {x : AExpr} : Cells (encE x) [.val (.int .i64 x.op), .val (.int .i64 x.num), .val (.string x.name), .sl x.args.length (x.args.flatMap encE)] := ⟨encE_eq x⟩
instance cells_e1 {x : AExpr} : Cells (encE1 x) [.val (.int .i64 x.op), .val (.int .i64 x.num), .val (.string x.name), .sl x.args.length (x.args.flatMap encE)] := ⟨rfl⟩
instance cells_r {r : ARef} : Cells (encR r) [.val (.string r.name), .sl r.index.length (r.index.flatMap encE)] := ⟨rfl⟩
instance cells_a {a : AArg} : Cells (encA a) [.val (.bool a.mutex), .val (.string a.ref.name), .sl a.ref.index.length (a.ref.index.flatMap encE), .val (.int .i64 a.expr.op), .val (.int .i64 a.expr.num), .val (.string a.expr.name), .sl a.expr.args.length (a.expr.args.flatMap encE)] := ⟨rfl⟩
instance cells_s {x : AStmt} : Cells (encS x) [.val (.int .i64 x.kind), .val (.string x.name), .val (.int .i64 x.expr.op), .val (.int .i64 x.expr.num), .val (.string x.expr.name), .sl x.expr.args.length (x.expr.args.flatMap encE), .val (.string x.ref.name), .sl x.ref.index.length (x.ref.index.flatMap encE), .sl x.args.length (x.args.flatMap encA), .sl x.thn.length (x.thn.flatMap encS), .sl x.els.length (x.els.flatMap encS)] := ⟨encS_eq x⟩
instance cells_s1 {x : AStmt} : Cells (encS1 x) [.val (.int .i64 x.kind), .val (.string x.name), .val (.int .i64 x.expr.op), .val (.int .i64 x.expr.num), .val (.string x.expr.name), .sl x.expr.args.length (x.expr.args.flatMap encE), .val (.string x.ref.name), .sl x.ref.index.length (x.ref.index.flatMap encE), .sl x.args.length (x.args.flatMap encA), .sl x.thn.length (x.thn.flatMap encS), .sl x.els.length (x.els.flatMap encS)] := ⟨rfl⟩
instance cells_p {p : AParam} : Cells (encP p) [.val (.string p.name), .val (.bool p.mutex)] := ⟨rfl⟩
instance cells_f {f : AFunc} : Cells (encF f) [.val (.string f.name), .sl f.params.length (f.params.flatMap encP), .sl f.body.length (f.body.flatMap encS)] := ⟨rfl⟩
instance cells_g {g : AGlobal} : Cells (encG g) [.val (.string g.name), .val (.int .i64 g.init)] := ⟨rfl⟩
instance cells_m {m : AMutex} : Cells (encM m) [.val (.string m.name), .val (.bool m.reentrant), .val (.int .i64 m.size)] := ⟨rfl⟩
instance cells_pr {p : AProg} : Cells (encPr p) [.sl p.globals.length (p.globals.flatMap encG), .sl p.mutexes.length (p.mutexes.flatMap encM), .sl p.funcs.length (p.funcs.flatMap encF)] := ⟨rfl⟩
instance cells_t {t : Tok} : Cells (encT t) [.val (.int .i64 t.kind), .val (.string t.text), .val (.int .i64 t.num), .val (.int .i64 t.pos)] := ⟨rfl⟩
instance cells_mz {vs : List Value} {cs : List AC} [h : MapVal vs cs] : Cells (List.map AC.val (List.toArray vs).toList) cs := ⟨by rw [List.toList_toArray]; exact h.h.2⟩
instance lenL_mz {vs : List Value} {cs : List AC} {z : Nat} [h : MapVal vs cs] [h2 : LenL cs z] : LenL (List.map AC.val (List.toArray vs).toList) z := ⟨by rw [List.toList_toArray, h.h.2]; exact h2.h⟩
class SetL (cs : List AC) (i : Nat) (c : AC) (r : outParam (List AC)) : Prop where h : cs.set i c = r
instance setL_0 {c d : AC} {cs : List AC} : SetL (d :: cs) 0 c (c :: cs) := ⟨rfl⟩
instance setL_s {c d : AC} {cs r : List AC} {i : Nat} [h : SetL cs i c r] : SetL (d :: cs) (i + 1) c (d :: r) := ⟨by rw [List.set_cons_succ, h.h]⟩
instance cells_set {cs cs' r : List AC} {i : Nat} {c : AC} [h : Cells cs cs'] [h2 : SetL cs' i c r] : Cells (cs.set i c) r := ⟨by rw [h.h, h2.h]⟩
instance lenL_set {cs : List AC} {i z : Nat} {c : AC} [h : LenL cs z] : LenL (cs.set i c) z := ⟨by rw [List.length_set, h.h]⟩
instance cells_app {cs ds R : List AC} [h : Cells cs ds] : Cells (cs ++ R) (ds ++ R) := ⟨by rw [h.h]⟩
class TakeL (cs : List AC) (z : Nat) (ds : outParam (List AC)) : Prop where h : cs.take z = ds ∧ z ≤ cs.length
instance takeL_0 {cs : List AC} : TakeL cs 0 [] := ⟨by simp⟩
instance takeL_s {c : AC} {cs ds : List AC} {z : Nat} [h : TakeL cs z ds] : TakeL (c :: cs) (z + 1) (c :: ds) := ⟨by simp [h.h.1, h.h.2]⟩
instance takeL_app {cs R ds : List AC} {z : Nat} [h : TakeL cs z ds] : TakeL (cs ++ R) z ds := ⟨by rw [List.take_append_of_le_length h.h.2, List.length_append]; exact ⟨h.h.1, by have := h.h.2; omega⟩⟩
class DropL (cs : List AC) (o : Nat) (ds : outParam (List AC)) : Prop where h : cs.drop o = ds ∧ o ≤ cs.length
instance dropL_0 {cs : List AC} : DropL cs 0 cs := ⟨by simp⟩
instance dropL_s {c : AC} {cs ds : List AC} {o : Nat} [h : DropL cs o ds] : DropL (c :: cs) (o + 1) ds := ⟨by simp [h.h.1, h.h.2]⟩
instance dropL_app {cs ds R : List AC} {o : Nat} [h : DropL cs o ds] : DropL (cs ++ R) o (ds ++ R) := ⟨by
 refine ⟨?_, by have := h.h.2; simp; omega⟩
 rw [List.drop_append_of_le_length h.h.2, h.h.1]⟩
class PkN (ag : Bool) (z : Nat) (cs : List AC) (off : Nat) (t : outParam AT) : Prop where h : pk ag z cs off = some t
instance (priority := 1200) pkN_whole {cs : List AC} {z : Nat} [h : LenL cs z] : PkN true z cs 0 (.agg cs) := ⟨pk_all h.h rfl⟩
instance (priority := 1100) pkN_head {cs R : List AC} {z : Nat} [h : LenL cs z] : PkN true z (cs ++ R) 0 (.agg cs) := ⟨pk_head h.h rfl⟩
instance pkN_seg {cs cs' c2 ds : List AC} {z off : Nat} [h1 : Cells cs cs'] [h2 : DropL cs' off c2] [h3 : TakeL c2 z ds] : PkN true z cs off (.agg ds) := ⟨by
 rw [h1.h]; unfold pk
 rw [if_pos rfl, if_pos, h2.h.1, h3.h.1]
 have e1 := h3.h.2; rw [← h2.h.1, List.length_drop] at e1
 have e2 := h2.h.2; omega⟩
class HeadL (cs : List AC) (c : outParam AC) : Prop where h : cs[0]? = some c
instance headL {c : AC} {cs : List AC} : HeadL (c :: cs) c := ⟨rfl⟩
instance headLa {c : AC} {cs R : List AC} : HeadL (c :: cs ++ R) c := ⟨rfl⟩
instance pkN_one {cs cs' c2 : List AC} {z off : Nat} {c : AC} [h1 : Cells cs cs'] [h2 : DropL cs' off c2] [h3 : HeadL c2 c] : PkN false z cs off (.c c) := ⟨by
 rw [h1.h]; unfold pk
 rw [if_neg (by simp)]
 have e3 := h3.h; rw [← h2.h.1, List.getElem?_drop] at e3
 rw [Nat.add_zero] at e3; rw [e3]; rfl⟩
class SplL (cs : List AC) (off : Nat) (ds : List AC) (r : outParam (List AC)) : Prop where h : splice cs off ds = r ∧ off + ds.length ≤ cs.length
instance splL_nil {cs : List AC} : SplL cs 0 [] cs := ⟨by simp [splice]⟩
instance splL_d {c d : AC} {cs ds r : List AC} [h : SplL cs 0 ds r] : SplL (c :: cs) 0 (d :: ds) (d :: r) := ⟨by
 have e := h.h; refine ⟨?_, by have := e.2; simp at this ⊢; omega⟩
 have e1 := e.1; unfold splice at e1 ⊢; simp at e1 ⊢; exact e1⟩
instance splL_o {c : AC} {cs ds r : List AC} {o : Nat} [h : SplL cs o ds r] : SplL (c :: cs) (o + 1) ds (c :: r) := ⟨by
 have e := h.h; refine ⟨?_, by have := e.2; simp at this ⊢; omega⟩
 have e1 := e.1; unfold splice at e1 ⊢
 rw [show o + 1 + ds.length = (o + ds.length) + 1 by omega]
 simp only [List.take_succ_cons, List.drop_succ_cons, List.cons_append, e1]⟩
class Spl (cs : List AC) (off : Nat) (ds : List AC) (z : Nat) (r : outParam (List AC)) : Prop where h : splice cs off ds = r ∧ off + z ≤ cs.length ∧ ds.length = z
instance (priority := 1200) spl_all {cs ds : List AC} {z : Nat} [h1 : LenL cs z] [h2 : LenL ds z] : Spl cs 0 ds z ds := ⟨splice_all (by rw [h1.h, h2.h]), by rw [h1.h]; omega, h2.h⟩
instance spl_part {cs cs' ds ds' r : List AC} {off z : Nat} [h1 : Cells cs cs'] [h2 : Cells ds ds'] [h3 : LenL ds' z] [h4 : SplL cs' off ds' r] : Spl cs off ds z r := ⟨by
 rw [h1.h, h2.h]; have e := h4.h; have e2 := h3.h; exact ⟨e.1, by omega, e2⟩⟩
class TY (P : Program) (t : TypeId) (ag : outParam Bool) (z : outParam Nat) : Prop where h : (∀ w, (isAgg t).run P w = .ok ag w) ∧ ∀ w, (sizeOf t).run P w = .ok z w
class TFld (P : Program) (t : TypeId) (f : Nat) (off : outParam Nat) (ft : outParam TypeId) : Prop where h : ∃ fs, (∀ w, (underlying t).run P w = .ok (.struct fs) w) ∧ fld fs f = some (off, ft)
class TSl (P : Program) (t : TypeId) (e : outParam TypeId) : Prop where h : ∀ w, (underlying t).run P w = .ok (.slice e) w
class TStr (P : Program) (t : TypeId) : Prop where h : ∀ w, (underlying t).run P w = .ok .string w
class TZero (P : Program) (t : TypeId) (cs : outParam (List AC)) : Prop where h : ∃ z, (∀ w, (zeroValue t).run P w = .ok z w) ∧ cellsT (cst z) = some cs
class AddN (p o : Nat) (q : outParam Nat) : Prop where h : p + o = q
instance (priority := 1100) addN_0 {o : Nat} : AddN 0 o o := ⟨Nat.zero_add o⟩
instance addN_1 {p : Nat} : AddN p 0 p := ⟨rfl⟩
class BoxIn (bx : List Box) (b : Nat) (A : outParam (List Box)) (T : outParam TypeId) (cs : outParam (List AC)) (B : outParam (List Box)) : Prop where h : bx = A ++ ⟨b, T, cs⟩ :: B
instance (priority := 1100) boxIn_hit {b : Nat} {T : TypeId} {cs : List AC} {B : List Box} : BoxIn (⟨b, T, cs⟩ :: B) b [] T cs B := ⟨rfl⟩
instance boxIn_next {x : Box} {bx A B : List Box} {b : Nat} {T : TypeId} {cs : List AC} [h : BoxIn bx b A T cs B] : BoxIn (x :: bx) b (x :: A) T cs B := ⟨by rw [h.h]; rfl⟩
instance boxIn_app {A0 bx B : List Box} {x : Box} {b : Nat} {T : TypeId} {cs : List AC} [h : BoxIn (x :: bx) b [] T cs B] : BoxIn (A0 ++ x :: bx) b A0 T cs B := ⟨by rw [h.h]; rfl⟩
instance (priority := 1200) boxIn_capp {x : Box} {A1 R A B : List Box} {b : Nat} {T : TypeId} {cs : List AC} [h : BoxIn (x :: (A1 ++ R)) b A T cs B] : BoxIn (x :: A1 ++ R) b A T cs B := ⟨h.h⟩
instance (priority := 1200) boxIn_napp {R A B : List Box} {b : Nat} {T : TypeId} {cs : List AC} [h : BoxIn R b A T cs B] : BoxIn ([] ++ R) b A T cs B := ⟨h.h⟩
instance (priority := 1200) boxIn_napp2 {R A B : List Box} {b : Nat} {T : TypeId} {cs : List AC} [h : BoxIn R b A T cs B] : BoxIn (List.append [] R) b A T cs B := ⟨h.h⟩
class AppL (A ds : List Box) (r : outParam (List Box)) : Prop where h : A ++ ds = r
instance (priority := 1100) appL_nil {ds : List Box} : AppL [] ds ds := ⟨rfl⟩
instance (priority := 1100) appL_cons {x : Box} {A ds r : List Box} [h : AppL A ds r] : AppL (x :: A) ds (x :: r) := ⟨by rw [List.cons_append, h.h]⟩
instance appL_any {A ds : List Box} : AppL A ds (A ++ ds) := ⟨rfl⟩
class InL (b : Nat) (T : List Nat) : Prop where h : b ∈ T
instance (priority := 1100) inL_hit {b : Nat} {T : List Nat} : InL b (b :: T) := ⟨by simp⟩
instance inL_next {b x : Nat} {T : List Nat} [h : InL b T] : InL b (x :: T) := ⟨List.mem_cons_of_mem _ h.h⟩
instance inL_app {b : Nat} {X T : List Nat} [h : InL b T] : InL b (X ++ T) := ⟨List.mem_append_right _ h.h⟩
instance inL_appl {b : Nat} {X T : List Nat} [h : InL b X] : InL b (X ++ T) := ⟨List.mem_append_left _ h.h⟩
class Stays (b : Nat) (U : List Nat) : Prop where h : b ∉ U
instance stays_nil {b : Nat} : Stays b [] := ⟨by simp⟩
instance stays_off {b : Nat} {s : Sto} {Z : List Nat} [h : InL b Z] : Stays b (offB s Z) := ⟨fun hm => (mem_off.1 hm).2 h.h⟩
class BIn (bx : List Box) (b : Nat) : Prop where h : b ∈ bx.map Box.b
instance (priority := 1100) bIn_hit {b : Nat} {T : TypeId} {cs : List AC} {B : List Box} : BIn (⟨b, T, cs⟩ :: B) b := ⟨by simp⟩
instance bIn_next {x : Box} {bx : List Box} {b : Nat} [h : BIn bx b] : BIn (x :: bx) b := ⟨by rw [List.map_cons]; exact List.mem_cons_of_mem _ h.h⟩
instance bIn_app {A bx : List Box} {b : Nat} [h : BIn bx b] : BIn (A ++ bx) b := ⟨by rw [List.map_append]; exact List.mem_append_right _ h.h⟩
instance (priority := 1200) bIn_capp {x : Box} {A R : List Box} {b : Nat} [h : BIn (x :: (A ++ R)) b] : BIn (x :: A ++ R) b := ⟨h.h⟩
instance (priority := 1200) bIn_napp {R : List Box} {b : Nat} [h : BIn R b] : BIn ([] ++ R) b := ⟨h.h⟩
instance (priority := 1200) bIn_napp2 {R : List Box} {b : Nat} [h : BIn R b] : BIn (List.append [] R) b := ⟨h.h⟩
class BNe (bx : List Box) (b z : Nat) : Prop where h : (bx.map Box.b).Nodup → b ≠ z
instance (priority := 1100) bNe_1 {b z : Nat} {T : TypeId} {cs : List AC} {B : List Box} [h : BIn B z] : BNe (⟨b, T, cs⟩ :: B) b z := ⟨fun hn he => by subst he; rw [List.map_cons, List.nodup_cons] at hn; exact hn.1 h.h⟩
instance (priority := 1100) bNe_2 {b z : Nat} {T : TypeId} {cs : List AC} {B : List Box} [h : BIn B b] : BNe (⟨z, T, cs⟩ :: B) b z := ⟨fun hn he => by subst he; rw [List.map_cons, List.nodup_cons] at hn; exact hn.1 h.h⟩
instance bNe_next {x : Box} {bx : List Box} {b z : Nat} [h : BNe bx b z] : BNe (x :: bx) b z := ⟨fun hn => h.h (by rw [List.map_cons, List.nodup_cons] at hn; exact hn.2)⟩
instance bNe_app {A bx : List Box} {b z : Nat} [h : BNe bx b z] : BNe (A ++ bx) b z := ⟨fun hn => h.h (by rw [List.map_append] at hn; exact (List.nodup_append.1 hn).2.1)⟩
instance (priority := 1200) bNe_capp {x : Box} {A R : List Box} {b z : Nat} [h : BNe (x :: (A ++ R)) b z] : BNe (x :: A ++ R) b z := ⟨h.h⟩
instance (priority := 1200) bNe_napp {R : List Box} {b z : Nat} [h : BNe R b z] : BNe ([] ++ R) b z := ⟨h.h⟩
instance (priority := 1200) bNe_napp2 {R : List Box} {b z : Nat} [h : BNe R b z] : BNe (List.append [] R) b z := ⟨h.h⟩
class BNes (bx : List Box) (b : Nat) (Z : List Nat) : Prop where h : (bx.map Box.b).Nodup → b ∉ Z
instance bNes_nil {bx : List Box} {b : Nat} : BNes bx b [] := ⟨fun _ => by simp⟩
instance bNes_cons {bx : List Box} {b z : Nat} {Z : List Nat} [h1 : BNe bx b z] [h2 : BNes bx b Z] : BNes bx b (z :: Z) := ⟨fun hn hm => by rcases List.mem_cons.1 hm with e | e; exact h1.h hn e; exact h2.h hn e⟩
class Writ (bx : List Box) (rw : List ORow) (T U : List Nat) (b : Nat) : Prop where h : b ∈ T ∧ ((⟨bx, rw⟩ : Sto).bl.Nodup → b ∈ U)
instance writ_T {bx : List Box} {rw : List ORow} {T : List Nat} {b : Nat} [h : InL b T] : Writ bx rw T T b := ⟨h.h, fun _ => h.h⟩
instance writ_Z {bx : List Box} {rw : List ORow} {T Z : List Nat} {b : Nat} [h : InL b T] [h2 : BIn bx b] [h3 : BNes bx b Z] : Writ bx rw T (offB ⟨bx, rw⟩ Z) b := ⟨h.h, fun hn => mem_off.2 ⟨List.mem_append_left _ h2.h, h3.h (List.nodup_append.1 hn).1⟩⟩
class CellsT (t : AT) (cs : outParam (List AC)) : Prop where h : cellsT t = some cs
instance cellsT_c {x : AC} : CellsT (.c x) [x] := ⟨rfl⟩
instance cellsT_a {cs : List AC} : CellsT (.agg cs) cs := ⟨rfl⟩
section
variable {P : Program} {U T : List Nat} {n : Nat} {s : Sto} {bx A B : List Box} {rw : List ORow} {ts : List (Nat × AT)} {t u : AT} {x y : Operand}
instance y_not {b r : Bool} [h : Ev ts x (.c (.val (.bool b)))] [h2 : BoolIs b false r] {E : TypeId} : YR P U (.unOp .not E x) n T s ts (.c (.val (.bool r))) := ⟨fun o ho => by
 have e : r = !b := by have := h2.h; cases b <;> cases r <;> simp_all
 rw [e]; exact ay_not ho (h.h _ _ _)⟩
instance y_nil {b off : Nat} [h : Ev ts x (.c (.val (.pointer (some ⟨b, off, none⟩))))] : YR P U (.nilCheck x) n T s ts (.c (.val (.pointer (some ⟨b, off, none⟩)))) := ⟨fun o ho => ay_nilCheck ho (h.h _ _ _)⟩
instance y_nil_el {cs : List AC} [h : Ev ts x (.el cs)] : YR P U (.nilCheck x) n T s ts (.el cs) := ⟨fun o ho => ay_nilCheck_el ho (h.h _ _ _)⟩
instance y_fa {E ft : TypeId} {f b p off q z : Nat} {ag : Bool} [h : Ev ts x (.c (.val (.pointer (some ⟨b, p, none⟩))))] [hf : TFld P E f off ft] [hz : TY P ft ag z] [h0 : LtN 0 z] [hq : AddN p off q] : YR P U (.fieldAddr E x f) n T s ts (.c (.val (.pointer (some ⟨b, q, none⟩)))) := ⟨fun o ho => by
 obtain ⟨fs, h1, h2⟩ := hf.h
 exact ay_fieldAddr off q ho (h.h _ _ _) h1 h2 hz.h.2 (by have := h0.h; omega) hq.h⟩
instance y_fa_el {E ft : TypeId} {f off z : Nat} {cs cs' ds : List AC} {ag : Bool} [h : Ev ts x (.el cs)] [hf : TFld P E f off ft] [hz : TY P ft ag z] [h0 : LtN 0 z] [hc : Cells cs cs'] [hd : DropL cs' off ds] : YR P U (.fieldAddr E x f) n T s ts (.el ds) := ⟨fun o ho => by
 obtain ⟨fs, h1, h2⟩ := hf.h
 have := ay_fieldAddr_el (P := P) (U := U) off ho (h.h n T s) h1 h2 hz.h.2 (by have := h0.h; omega)
 rw [hc.h, hd.h.1] at this; exact this⟩
instance y_field {E ft : TypeId} {f off z : Nat} {cs : List AC} {ag : Bool} [h : Ev ts x (.agg cs)] [hf : TFld P E f off ft] [hz : TY P ft ag z] [hp : PkN ag z cs off t] : YR P U (.field E x f) n T s ts t := ⟨fun o ho => by
 obtain ⟨fs, h1, h2⟩ := hf.h
 exact ay_field off ho (h.h _ _ _) h1 h2 hz.h.1 hz.h.2 hp.h⟩
instance y_ld {E T0 : TypeId} {b off z : Nat} {cs : List AC} {ag : Bool} {A B : List Box} [h : Ev ts x (.c (.val (.pointer (some ⟨b, off, none⟩))))] [hb : BoxIn bx b A T0 cs B] [hz : TY P E ag z] [hp : PkN ag z cs off t] [hu : Stays b U] : YR P U (.load E x) n T ⟨bx, rw⟩ ts t := ⟨fun o ho => ay_load_box A ho (h.h _ _ _) hb.h hz.h.1 hz.h.2 hp.h (fun _ => hu.h)⟩
instance y_ld_el {E : TypeId} {z : Nat} {cs : List AC} {ag : Bool} [h : Ev ts x (.el cs)] [hz : TY P E ag z] [hp : PkN ag z cs 0 t] : YR P U (.load E x) n T s ts t := ⟨fun o ho => ay_load_el ho (h.h _ _ _) hz.h.1 hz.h.2 hp.h⟩
class NthT (l : List AT) (k : Nat) (t : outParam AT) : Prop where h : l[k]? = some t
instance nthT_0 {t : AT} {l : List AT} : NthT (t :: l) 0 t := ⟨rfl⟩
instance nthT_s {t u : AT} {l : List AT} {k : Nat} [h : NthT l k t] : NthT (u :: l) (k + 1) t := ⟨by simpa using h.h⟩
instance y_ext {k : Nat} {us : List AT} [h : Ev ts x (.tup us)] [h2 : NthT us k t] : YR P U (.extract x k) n T s ts t := ⟨fun o ho => ay_extract ho (h.h _ _ _) h2.h⟩
instance y_len_sl {E e : TypeId} {m : Nat} {cs : List AC} [h : Ev ts x (.c (.sl m cs))] [hu : TSl P E e] : YR P U (.call { callee := .builtin .len, args := #[x], argTypes := #[E] }) n T s ts (.c (.val (.int .i64 ((m : Nat) : Int)))) := ⟨fun o ho => ay_len_sl ho (h.h _ _ _) hu.h⟩
instance y_len_v {E e : TypeId} {m k : Nat} {p : Option Addr} [h : Ev ts x (.c (.val (.slice p m k)))] [hu : TSl P E e] : YR P U (.call { callee := .builtin .len, args := #[x], argTypes := #[E] }) n T s ts (.c (.val (.int .i64 ((m : Nat) : Int)))) := ⟨fun o ho => ay_len_val ho (h.h _ _ _) hu.h⟩
instance y_len_str {E : TypeId} {b : ByteArray} [h : Ev ts x (.c (.val (.string b)))] [hu : TStr P E] : YR P U (.call { callee := .builtin .len, args := #[x], argTypes := #[E] }) n T s ts (.c (.val (.int .i64 ((b.size : Nat) : Int)))) := ⟨fun o ho => ay_len_str ho (h.h _ _ _) hu.h⟩
end
class Parts (ts : List (Nat × AT)) (ps : List (Nat × Operand)) (us : outParam (List (Nat × AT))) : Prop where h : ∀ n T s, EvP ⟨n, T, s, ts⟩ ps us
instance parts_nil {ts : List (Nat × AT)} : Parts ts [] [] := ⟨fun _ _ _ => .nil⟩
instance parts_cons {ts : List (Nat × AT)} {i : Nat} {x : Operand} {ps : List (Nat × Operand)} {t : AT} {us : List (Nat × AT)} [h1 : Ev ts x t] [h2 : Parts ts ps us] : Parts ts ((i, x) :: ps) ((i, t) :: us) := ⟨fun n T s => .cons (h1.h n T s) (h2.h n T s)⟩
class Plc (P : Program) (E : TypeId) (pl : outParam (List (Nat × Nat))) (zc : outParam (List AC)) : Prop where h : ∃ (fs : Array Field) (i : TypeInfo) (z : Value), P.underlying E = some (.struct fs) ∧ P.info? E = some i ∧ i.zero = some z ∧ fs.toList.mapM (fun f => (P.info? f.type).map fun i => (f.offset, i.size)) = some pl ∧ cellsT (cst z) = some zc
class NthP (l : List (Nat × Nat)) (k : Nat) (p : outParam (Nat × Nat)) : Prop where h : l[k]? = some p
instance nthP_0 {t : Nat × Nat} {l : List (Nat × Nat)} : NthP (t :: l) 0 t := ⟨rfl⟩
instance nthP_s {t u : Nat × Nat} {l : List (Nat × Nat)} {k : Nat} [h : NthP l k t] : NthP (u :: l) (k + 1) t := ⟨by simpa using h.h⟩
class Fill (pl : List (Nat × Nat)) (zc : List AC) (us : List (Nat × AT)) (r : outParam (List AC)) : Prop where h : fillA (pl.toArray[·]?) zc us = some r
instance fill_nil {pl : List (Nat × Nat)} {zc : List AC} : Fill pl zc [] zc := ⟨rfl⟩
instance fill_cons {pl : List (Nat × Nat)} {zc c1 r ds : List AC} {i off z : Nat} {t : AT} {us : List (Nat × AT)} [h1 : NthP pl i (off, z)] [h2 : CellsT t ds] [h3 : Spl zc off ds z c1] [h4 : Fill pl c1 us r] : Fill pl zc ((i, t) :: us) r := ⟨by
 have e1 := h1.h
 have e : pl.toArray[i]? = some (off, z) := by rw [List.getElem?_toArray]; exact e1
 rw [fillA, e, h2.h]
 dsimp only
 rw [if_pos ⟨h3.h.2.2, h3.h.2.1⟩, h3.h.1]
 exact h4.h⟩
instance y_build {P : Program} {U T : List Nat} {n : Nat} {s : Sto} {ts : List (Nat × AT)} {E : TypeId} {ps : List (Nat × Operand)} {us : List (Nat × AT)} {pl : List (Nat × Nat)} {zc r : List AC} [h1 : Parts ts ps us] [h2 : Plc P E pl zc] [h3 : Fill pl zc us r] : YR P U (.build E ps.toArray) n T s ts (.agg r) := ⟨fun o ho => by
 obtain ⟨fs, i, z, e1, e2, e3, e4, e5⟩ := h2.h
 exact ay_build i pl ho (h1.h _ _ _) e1 e2 e3 e4 e5 h3.h⟩
section
variable {P : Program} {U T : List Nat} {n : Nat} {s : Sto} {ts : List (Nat × AT)} {t u : AT} {Q : Exit → AS → Prop} {g : Prop} {K : AS → Prop} {st : AS} {N : Nat}
instance g_seq {x y : Code} [h : Go1 N (AWp P x st (Then (fun s => AWp P y s Q) Q)) g] : Go1 (N + 1) (AWp P (.seq x y) st Q) g := ⟨fun k => aw_seq (h.out k)⟩
instance g_region {id : Nat} {l : List Oper} [h : Go1 N (AOps P l.toArray l st Q) g] : Go1 (N + 1) (AWp P (.region id l.toArray false) st Q) g := ⟨fun k => aw_region (h.out k)⟩
instance g_block {id : Nat} {c : Code} [h : Go1 N (AWp P c st (InB id Q)) g] : Go1 (N + 1) (AWp P (.block id c) st Q) g := ⟨fun k => aw_block (h.out k)⟩
instance g_exit {id : Nat} [h : Go1 N (Q (.exit id) st) g] : Go1 (N + 1) (AWp P (.exit id) st Q) g := ⟨fun k => aw_exit (h.out k)⟩
instance g_ret [h : Go1 N (Q .ret st) g] : Go1 (N + 1) (AWp P .ret st Q) g := ⟨fun k => aw_ret (h.out k)⟩
instance g_skip [h : Go1 N (Q .normal st) g] : Go1 (N + 1) (AWp P .skip st Q) g := ⟨fun k => aw_skip (h.out k)⟩
instance g_condT {c : Operand} {x y : Code} [hc : Ev ts c (.c (.val (.bool true)))] [h : Go1 N (AWp P x ⟨n, T, s, ts⟩ Q) g] : Go1 (N + 1) (AWp P (.cond c x y) ⟨n, T, s, ts⟩ Q) g := ⟨fun k => aw_condT (hc.h _ _ _) rfl (h.out k)⟩
instance g_condF {c : Operand} {x y : Code} [hc : Ev ts c (.c (.val (.bool false)))] [h : Go1 N (AWp P y ⟨n, T, s, ts⟩ Q) g] : Go1 (N + 1) (AWp P (.cond c x y) ⟨n, T, s, ts⟩ Q) g := ⟨fun k => aw_condF (hc.h _ _ _) rfl (h.out k)⟩
instance g_thenN [h : Go1 N (K st) g] : Go1 (N + 1) (Then K Q .normal st) g := ⟨fun k => h.out k⟩
instance g_thenR [h : Go1 N (Q .ret st) g] : Go1 (N + 1) (Then K Q .ret st) g := ⟨fun k => h.out k⟩
instance g_thenE {id : Nat} [h : Go1 N (Q (.exit id) st) g] : Go1 (N + 1) (Then K Q (.exit id) st) g := ⟨fun k => h.out k⟩
instance g_inN {id : Nat} [h : Go1 N (Q .normal st) g] : Go1 (N + 1) (InB id Q .normal st) g := ⟨fun k => h.out k⟩
instance g_inR {id : Nat} [h : Go1 N (Q .ret st) g] : Go1 (N + 1) (InB id Q .ret st) g := ⟨fun k => h.out k⟩
instance (priority := 1100) g_inE {id : Nat} [h : Go1 N (Q .normal st) g] : Go1 (N + 1) (InB id Q (.exit id) st) g := ⟨fun k => inB_exit (h.out k)⟩
instance g_inO {id id' : Nat} [hn : NeN id' id] [h : Go1 N (Q (.exit id') st) g] : Go1 (N + 1) (InB id Q (.exit id') st) g := ⟨fun k => inB_other hn.h (h.out k)⟩
instance g_nil {ops : Array Oper} [h : Go1 N (Q .normal st) g] : Go1 (N + 1) (AOps P ops [] st Q) g := ⟨fun k => aops_nil (h.out k)⟩
instance g_step {l0 l : List Oper} {d : Nat} {op : Op} {ty : TypeId} {pos : String} {af : Array Edge} {gd : Option (Nat × Bool)} {r : Bool} [h1 : Guard l0 ts gd r] [h2 : StepG r P [] op n T s ts t] [h3 : LtN d n] [h : Go1 N (AOps P l0.toArray l ⟨n, T, s, (d, t) :: ts⟩ Q) g] : Go1 (N + 1) (AOps P l0.toArray (⟨some d, op, ty, pos, af, gd⟩ :: l) ⟨n, T, s, ts⟩ Q) g := ⟨fun k => by
 cases r with
 | true => exact wy (h1.h _ _ _ _ rfl) rfl h3.h (h2.h.1 rfl _ rfl) (h.out k)
 | false => obtain rfl := h2.h.2 rfl; exact wskip (h1.h _ _ _ _ rfl) rfl h3.h (h.out k)⟩
instance g_alloc {l0 l : List Oper} {d : Nat} {E : TypeId} {ty : TypeId} {pos : String} {af : Array Edge} {cs : List AC} {bx : List Box} {rw : List ORow} {G : Nat → Prop} [h1 : TZero P E cs] [h3 : LtN d n] [h : ∀ b, Go1 N (AOps P l0.toArray l ⟨n, b :: T, ⟨⟨b, E, cs⟩ :: bx, rw⟩, (d, .c (.val (.pointer (some ⟨b, 0, none⟩)))) :: ts⟩ Q) (G b)] : Go1 (N + 1) (AOps P l0.toArray (⟨some d, .alloc E, ty, pos, af, none⟩ :: l) ⟨n, T, ⟨bx, rw⟩, ts⟩ Q) (∀ b, G b) := ⟨fun k => by
 obtain ⟨z, e1, e2⟩ := h1.h
 exact wo rfl (walloc rfl rfl h3.h e1 e2 fun b => (h b).out (k b))⟩
instance g_box {l0 l : List Oper} {d : Nat} {E : TypeId} {x : Operand} {ty : TypeId} {pos : String} {af : Array Edge} {cs : List AC} {bx : List Box} {rw : List ORow} {G : Nat → Prop} [h1 : Ev ts x t] [h2 : CellsT t cs] [h3 : LtN d n] [h : ∀ b, Go1 N (AOps P l0.toArray l ⟨n, b :: T, ⟨⟨b, E, cs⟩ :: bx, rw⟩, (d, .c (.val (.pointer (some ⟨b, 0, none⟩)))) :: ts⟩ Q) (G b)] : Go1 (N + 1) (AOps P l0.toArray (⟨some d, .box E x, ty, pos, af, none⟩ :: l) ⟨n, T, ⟨bx, rw⟩, ts⟩ Q) (∀ b, G b) := ⟨fun k => wo rfl (wbox rfl rfl h3.h (h1.h _ _ _) h2.h fun b => (h b).out (k b))⟩
instance g_store {l0 l : List Oper} {E T0 : TypeId} {x y : Operand} {ty : TypeId} {pos : String} {af : Array Edge} {gd : Option (Nat × Bool)} {b off z : Nat} {cs ds r : List AC} {ag : Bool} {bx A B : List Box} {rw : List ORow} [h0 : Guard l0 ts gd true] [h1 : Ev ts x (.c (.val (.pointer (some ⟨b, off, none⟩))))] [h2 : Ev ts y t] [h3 : CellsT t ds] [h4 : BoxIn bx b A T0 cs B] [h5 : TY P E ag z] [h6 : Spl cs off ds z r] {bx2 : List Box} [h7 : Writ bx rw T T b] [h8 : AppL A (⟨b, T0, r⟩ :: B) bx2] [h : Go1 N (AOps P l0.toArray l ⟨n, T, ⟨bx2, rw⟩, ts⟩ Q) g] : Go1 (N + 1) (AOps P l0.toArray (⟨none, .store E x y, ty, pos, af, gd⟩ :: l) ⟨n, T, ⟨bx, rw⟩, ts⟩ Q) g := ⟨fun k =>
 wo (h0.h _ _ _ _ rfl) (ao_store A rfl rfl (h1.h _ _ _) (h2.h _ _ _) h3.h h4.h h5.h.2 h6.h.2.2 h6.h.2.1 h6.h.1 h7.h.1 h7.h.2 (by rw [h8.h]; exact h.out k))⟩
end
def AOrd (P : Program) (ops : Array Oper) (Z : List Nat) : List (Nat × Bool) → AS → (AS → Prop) → Prop
 | [], st, K => K st
 | (i, true) :: r, st, K => ∃ o d, ops.toList[i]? = some o ∧ o.dst = some d ∧ d < st.n ∧ ((∃ t, wantA ops o st = some true ∧ AY P (offB st.s Z) o st t ∧ AOrd P ops Z r { st with ts := (d, t) :: st.ts } K) ∨ (wantA ops o st = some false ∧ AOrd P ops Z r { st with ts := (d, .raw undef) :: st.ts } K))
 | (i, false) :: r, st, K => ∃ o, ops.toList[i]? = some o ∧ wantA ops o st = some true ∧ AO P (offB st.s Z) o st fun s => AOrd P ops Z r s K
def runOk (ops : Array Oper) : Array Bool → List (Nat × Bool) → Bool
 | _, [] => true
 | L, (i, true) :: r => (Region.ready .any ops L).contains i && Region.free .any ops L i && runOk ops (L.setIfInBounds i true) r
 | L, (i, false) :: r => decide (Region.ready .any ops L = [i]) && runOk ops (L.setIfInBounds i true) r
def markAll : Array Bool → List (Nat × Bool) → Array Bool
 | L, [] => L
 | L, (i, _) :: r => markAll (L.setIfInBounds i true) r
theorem tks_core {P : Program} {ops : Array Oper} {Z : List Nat} {Q : AS → Prop} (hsel : Region.noSelect ops = true) (F : Nat) : ∀ (run : List (Nat × Bool)) (listed : Array Bool) (st : AS), runOk ops listed run = true → AOrd P ops Z run st (fun st' => AAny P ops Z F (markAll listed run) st' Q) → AAny P ops Z (F + run.length) listed st Q
 | [], _, _, _, h => h
 | (i, true) :: r, listed, st, hc, h => by
  simp only [runOk, Bool.and_eq_true] at hc
  obtain ⟨o, d, h1, h2, h3, h4⟩ := h
  rcases h4 with ⟨t, h5, h6, h7⟩ | ⟨h5, h7⟩
  ·exact any_take i hc.1.1 h1 hc.1.2 hsel h5 h2 h3 h6 (tks_core hsel F r _ _ hc.2 h7)
  ·exact any_skip i hc.1.1 h1 hc.1.2 hsel h5 h2 h3 (tks_core hsel F r _ _ hc.2 h7)
 | (i, false) :: r, listed, st, hc, h => by
  simp only [runOk, Bool.and_eq_true, decide_eq_true_eq] at hc
  obtain ⟨o, h1, h2, h3⟩ := h
  refine any_many hc.1 rfl (aready_o h1 h2 (fun a w hs KK QQ hK => h3 a w hs KK QQ fun a' w' st' q => hK a' w' st' (tks_core hsel F r _ _ hc.2 q)) aready_nil)
theorem tks {P : Program} {ops : Array Oper} {Z : List Nat} {Q : AS → Prop} {st : AS} {F0 : Nat} {listed : Array Bool} (run : List (Nat × Bool)) (F : Nat) (hc : (runOk ops listed run && Region.noSelect ops && F0 == F + run.length) = true) (h : AOrd P ops Z run st (fun st' => AAny P ops Z F (markAll listed run) st' Q)) : AAny P ops Z F0 listed st Q := by
 simp only [Bool.and_eq_true, beq_iff_eq] at hc
 rw [hc.2]
 exact tks_core hc.1.2 F run listed st hc.1.1 h
class OpAt (l : List Oper) (i : Nat) (d : outParam (Option Nat)) (op : outParam Op) (gd : outParam (Option (Nat × Bool))) : Prop where h : ∃ o : Oper, l[i]? = some o ∧ o.dst = d ∧ o.op = op ∧ o.guard = gd
instance opAt_0 {d : Option Nat} {op : Op} {ty : TypeId} {pos : String} {af : Array Edge} {gd : Option (Nat × Bool)} {l : List Oper} : OpAt (⟨d, op, ty, pos, af, gd⟩ :: l) 0 d op gd := ⟨_, rfl, rfl, rfl, rfl⟩
instance opAt_s {d : Option Nat} {op : Op} {gd : Option (Nat × Bool)} {l : List Oper} {o : Oper} {i : Nat} [h : OpAt l i d op gd] : OpAt (o :: l) (i + 1) d op gd := ⟨by simpa using h.h⟩
section
variable {P : Program} {Z T : List Nat} {n : Nat} {s : Sto} {ts : List (Nat × AT)} {t u : AT} {g : Prop} {K : AS → Prop} {st : AS} {N : Nat} {bx A B : List Box} {rw : List ORow} {l0 : List Oper} {i : Nat} {run : List (Nat × Bool)} {gd : Option (Nat × Bool)}
instance g_onil {ops : Array Oper} [h : Go1 N (K st) g] : Go1 (N + 1) (AOrd P ops Z [] st K) g := ⟨fun k => h.out k⟩
instance g_oy {d : Nat} {op : Op} {r : Bool} [h0 : OpAt l0 i (some d) op gd] [h1 : Guard l0 ts gd r] [h2 : StepG r P (offB s Z) op n T s ts t] [h3 : LtN d n] [h : Go1 N (AOrd P l0.toArray Z run ⟨n, T, s, (d, t) :: ts⟩ K) g] : Go1 (N + 1) (AOrd P l0.toArray Z ((i, true) :: run) ⟨n, T, s, ts⟩ K) g := ⟨fun k => by
 obtain ⟨o, e1, e2, e3, e4⟩ := h0.h
 refine ⟨o, d, by simpa using e1, e2, h3.h, ?_⟩
 cases r with
 | true => exact .inl ⟨t, h1.h _ _ _ o e4, h2.h.1 rfl o e3, h.out k⟩
 | false => obtain rfl := h2.h.2 rfl; exact .inr ⟨h1.h _ _ _ o e4, h.out k⟩⟩
instance g_ostore {E T0 : TypeId} {x y : Operand} {b off z : Nat} {cs ds r : List AC} {ag : Bool} [hi : OpAt l0 i none (.store E x y) gd] [h0 : Guard l0 ts gd true] [h1 : Ev ts x (.c (.val (.pointer (some ⟨b, off, none⟩))))] [h2 : Ev ts y t] [h3 : CellsT t ds] [h4 : BoxIn bx b A T0 cs B] [h5 : TY P E ag z] [h6 : Spl cs off ds z r] {bx2 : List Box} [h7 : Writ bx rw T (offB ⟨bx, rw⟩ Z) b] [h8 : AppL A (⟨b, T0, r⟩ :: B) bx2] [h : Go1 N (AOrd P l0.toArray Z run ⟨n, T, ⟨bx2, rw⟩, ts⟩ K) g] : Go1 (N + 1) (AOrd P l0.toArray Z ((i, false) :: run) ⟨n, T, ⟨bx, rw⟩, ts⟩ K) g := ⟨fun k => by
 obtain ⟨o, e1, e2, e3, e4⟩ := hi.h
 exact ⟨o, by simpa using e1, h0.h _ _ _ o e4, ao_store A e3 e2 (h1.h _ _ _) (h2.h _ _ _) h3.h h4.h h5.h.2 h6.h.2.2 h6.h.2.1 h6.h.1 h7.h.1 h7.h.2 (by rw [h8.h]; exact h.out k)⟩⟩
instance g_oalloc {d : Nat} {E : TypeId} {cs : List AC} {G : Nat → Prop} [hi : OpAt l0 i (some d) (.alloc E) none] [h1 : TZero P E cs] [h3 : LtN d n] [h : ∀ b, Go1 N (AOrd P l0.toArray Z run ⟨n, b :: T, ⟨⟨b, E, cs⟩ :: bx, rw⟩, (d, .c (.val (.pointer (some ⟨b, 0, none⟩)))) :: ts⟩ K) (G b)] : Go1 (N + 1) (AOrd P l0.toArray Z ((i, false) :: run) ⟨n, T, ⟨bx, rw⟩, ts⟩ K) (∀ b, G b) := ⟨fun k => by
 obtain ⟨o, e1, e2, e3, e4⟩ := hi.h
 obtain ⟨z, z1, z2⟩ := h1.h
 exact ⟨o, by simpa using e1, by unfold wantA; rw [e4], walloc e3 e2 h3.h z1 z2 fun b => (h b).out (k b)⟩⟩
instance g_obox {d : Nat} {E : TypeId} {x : Operand} {cs : List AC} {G : Nat → Prop} [hi : OpAt l0 i (some d) (.box E x) none] [h1 : Ev ts x t] [h2 : CellsT t cs] [h3 : LtN d n] [h : ∀ b, Go1 N (AOrd P l0.toArray Z run ⟨n, b :: T, ⟨⟨b, E, cs⟩ :: bx, rw⟩, (d, .c (.val (.pointer (some ⟨b, 0, none⟩)))) :: ts⟩ K) (G b)] : Go1 (N + 1) (AOrd P l0.toArray Z ((i, false) :: run) ⟨n, T, ⟨bx, rw⟩, ts⟩ K) (∀ b, G b) := ⟨fun k => by
 obtain ⟨o, e1, e2, e3, e4⟩ := hi.h
 exact ⟨o, by simpa using e1, by unfold wantA; rw [e4], wbox e3 e2 h3.h (h1.h _ _ _) h2.h fun b => (h b).out (k b)⟩⟩
end
end Go.Proofs.YtflcnehhpmjipaaGreatDoor
namespace Go.Proofs.YtflcnehhpmjipaaGreatDoor
open Go.RowKit
instance ty_0 : TY Tryz.prog 2 false 1 := ⟨Tryz.isAgg2, Tryz.sizeOf2⟩
instance tz_0 : TZero Tryz.prog 2 [.val (.int .i64 0)] := ⟨_, Tryz.zeroValue2, rfl⟩
instance ty_1 : TY Tryz.prog 3 false 1 := ⟨Tryz.isAgg3, Tryz.sizeOf3⟩
instance tz_1 : TZero Tryz.prog 3 [.val (.int .i64 0)] := ⟨_, Tryz.zeroValue3, rfl⟩
instance ty_2 : TY Tryz.prog 4 false 1 := ⟨Tryz.isAgg4, Tryz.sizeOf4⟩
instance tz_2 : TZero Tryz.prog 4 [.val (.bool false)] := ⟨_, Tryz.zeroValue4, rfl⟩
instance ty_3 : TY Tryz.prog 5 false 1 := ⟨Tryz.isAgg5, Tryz.sizeOf5⟩
instance tz_3 : TZero Tryz.prog 5 [.val (.int .u8 0)] := ⟨_, Tryz.zeroValue5, rfl⟩
instance ty_4 : TY Tryz.prog 9 false 1 := ⟨Tryz.isAgg9, Tryz.sizeOf9⟩
instance tstr_4 : TStr Tryz.prog 9 := ⟨Tryz.runUnderlying9⟩
instance tz_4 : TZero Tryz.prog 9 [.val (.string ⟨#[]⟩)] := ⟨_, Tryz.zeroValue9, rfl⟩
instance ty_5 : TY Tryz.prog 12 false 1 := ⟨Tryz.isAgg12, Tryz.sizeOf12⟩
instance tz_5 : TZero Tryz.prog 12 [.val (.int .u64 0)] := ⟨_, Tryz.zeroValue12, rfl⟩
instance ty_6 : TY Tryz.prog 19 true 1 := ⟨Tryz.isAgg19, Tryz.sizeOf19⟩
instance tf_6_0 : TFld Tryz.prog 19 0 0 17 := ⟨_, Tryz.runUnderlying19, rfl⟩
instance tz_6 : TZero Tryz.prog 19 [.val (.pointer none)] := ⟨_, Tryz.zeroValue19, rfl⟩
instance tp_6 : Plc Tryz.prog 19 [(0, 1)] [.val (.pointer none)] := ⟨_, Tryz.t19, _, Tryz.underlying19, by kernel_rfl, rfl, by kernel_rfl, rfl⟩
instance ty_7 : TY Tryz.prog 21 false 1 := ⟨Tryz.isAgg21, Tryz.sizeOf21⟩
instance tz_7 : TZero Tryz.prog 21 [.val (.int .i32 0)] := ⟨_, Tryz.zeroValue21, rfl⟩
instance ty_8 : TY Tryz.prog 22 false 1 := ⟨Tryz.isAgg22, Tryz.sizeOf22⟩
instance tsl_8 : TSl Tryz.prog 22 3 := ⟨Tryz.runUnderlying22⟩
instance tz_8 : TZero Tryz.prog 22 [.val (.slice none 0 0)] := ⟨_, Tryz.zeroValue22, rfl⟩
instance ty_9 : TY Tryz.prog 23 false 1 := ⟨Tryz.isAgg23, Tryz.sizeOf23⟩
instance tsl_9 : TSl Tryz.prog 23 5 := ⟨Tryz.runUnderlying23⟩
instance tz_9 : TZero Tryz.prog 23 [.val (.slice none 0 0)] := ⟨_, Tryz.zeroValue23, rfl⟩
instance ty_10 : TY Tryz.prog 26 false 1 := ⟨Tryz.isAgg26, Tryz.sizeOf26⟩
instance tsl_10 : TSl Tryz.prog 26 9 := ⟨Tryz.runUnderlying26⟩
instance tz_10 : TZero Tryz.prog 26 [.val (.slice none 0 0)] := ⟨_, Tryz.zeroValue26, rfl⟩
instance ty_11 : TY Tryz.prog 27 false 1 := ⟨Tryz.isAgg27, Tryz.sizeOf27⟩
instance tz_11 : TZero Tryz.prog 27 [.val (.int .u64 0)] := ⟨_, Tryz.zeroValue27, rfl⟩
instance ty_12 : TY Tryz.prog 31 false 1 := ⟨Tryz.isAgg31, Tryz.sizeOf31⟩
instance ty_13 : TY Tryz.prog 34 true 2 := ⟨Tryz.isAgg34, Tryz.sizeOf34⟩
instance tf_13_0 : TFld Tryz.prog 34 0 0 22 := ⟨_, Tryz.runUnderlying34, rfl⟩
instance tf_13_1 : TFld Tryz.prog 34 1 1 3 := ⟨_, Tryz.runUnderlying34, rfl⟩
instance tz_13 : TZero Tryz.prog 34 [.val (.slice none 0 0), .val (.int .i64 0)] := ⟨_, Tryz.zeroValue34, rfl⟩
instance tp_13 : Plc Tryz.prog 34 [(0, 1), (1, 1)] [.val (.slice none 0 0), .val (.int .i64 0)] := ⟨_, Tryz.t34, _, Tryz.underlying34, by kernel_rfl, rfl, by kernel_rfl, rfl⟩
instance ty_14 : TY Tryz.prog 36 false 1 := ⟨Tryz.isAgg36, Tryz.sizeOf36⟩
instance tsl_14 : TSl Tryz.prog 36 104 := ⟨Tryz.runUnderlying36⟩
instance tz_14 : TZero Tryz.prog 36 [.val (.slice none 0 0)] := ⟨_, Tryz.zeroValue36, rfl⟩
instance ty_15 : TY Tryz.prog 37 false 1 := ⟨Tryz.isAgg37, Tryz.sizeOf37⟩
instance tsl_15 : TSl Tryz.prog 37 102 := ⟨Tryz.runUnderlying37⟩
instance tz_15 : TZero Tryz.prog 37 [.val (.slice none 0 0)] := ⟨_, Tryz.zeroValue37, rfl⟩
instance ty_16 : TY Tryz.prog 38 false 1 := ⟨Tryz.isAgg38, Tryz.sizeOf38⟩
instance tsl_16 : TSl Tryz.prog 38 65 := ⟨Tryz.runUnderlying38⟩
instance tz_16 : TZero Tryz.prog 38 [.val (.slice none 0 0)] := ⟨_, Tryz.zeroValue38, rfl⟩
instance ty_17 : TY Tryz.prog 40 true 3 := ⟨Tryz.isAgg40, Tryz.sizeOf40⟩
instance tf_17_0 : TFld Tryz.prog 40 0 0 36 := ⟨_, Tryz.runUnderlying40, rfl⟩
instance tf_17_1 : TFld Tryz.prog 40 1 1 37 := ⟨_, Tryz.runUnderlying40, rfl⟩
instance tf_17_2 : TFld Tryz.prog 40 2 2 38 := ⟨_, Tryz.runUnderlying40, rfl⟩
instance tz_17 : TZero Tryz.prog 40 [.val (.slice none 0 0), .val (.slice none 0 0), .val (.slice none 0 0)] := ⟨_, Tryz.zeroValue40, rfl⟩
instance tp_17 : Plc Tryz.prog 40 [(0, 1), (1, 1), (2, 1)] [.val (.slice none 0 0), .val (.slice none 0 0), .val (.slice none 0 0)] := ⟨_, Tryz.t40, _, Tryz.underlying40, by kernel_rfl, rfl, by kernel_rfl, rfl⟩
instance ty_18 : TY Tryz.prog 41 false 1 := ⟨Tryz.isAgg41, Tryz.sizeOf41⟩
instance tz_18 : TZero Tryz.prog 41 [.val (.int .i64 0)] := ⟨_, Tryz.zeroValue41, rfl⟩
instance ty_19 : TY Tryz.prog 47 false 1 := ⟨Tryz.isAgg47, Tryz.sizeOf47⟩
instance tsl_19 : TSl Tryz.prog 47 72 := ⟨Tryz.runUnderlying47⟩
instance tz_19 : TZero Tryz.prog 47 [.val (.slice none 0 0)] := ⟨_, Tryz.zeroValue47, rfl⟩
instance ty_20 : TY Tryz.prog 50 false 1 := ⟨Tryz.isAgg50, Tryz.sizeOf50⟩
instance tsl_20 : TSl Tryz.prog 50 93 := ⟨Tryz.runUnderlying50⟩
instance tz_20 : TZero Tryz.prog 50 [.val (.slice none 0 0)] := ⟨_, Tryz.zeroValue50, rfl⟩
instance ty_21 : TY Tryz.prog 63 false 1 := ⟨Tryz.isAgg63, Tryz.sizeOf63⟩
instance tsl_21 : TSl Tryz.prog 63 106 := ⟨Tryz.runUnderlying63⟩
instance tz_21 : TZero Tryz.prog 63 [.val (.slice none 0 0)] := ⟨_, Tryz.zeroValue63, rfl⟩
instance ty_22 : TY Tryz.prog 65 true 3 := ⟨Tryz.isAgg65, Tryz.sizeOf65⟩
instance tf_22_0 : TFld Tryz.prog 65 0 0 9 := ⟨_, Tryz.runUnderlying65, rfl⟩
instance tf_22_1 : TFld Tryz.prog 65 1 1 63 := ⟨_, Tryz.runUnderlying65, rfl⟩
instance tf_22_2 : TFld Tryz.prog 65 2 2 50 := ⟨_, Tryz.runUnderlying65, rfl⟩
instance tz_22 : TZero Tryz.prog 65 [.val (.string ⟨#[]⟩), .val (.slice none 0 0), .val (.slice none 0 0)] := ⟨_, Tryz.zeroValue65, rfl⟩
instance tp_22 : Plc Tryz.prog 65 [(0, 1), (1, 1), (2, 1)] [.val (.string ⟨#[]⟩), .val (.slice none 0 0), .val (.slice none 0 0)] := ⟨_, Tryz.t65, _, Tryz.underlying65, by kernel_rfl, rfl, by kernel_rfl, rfl⟩
instance ty_23 : TY Tryz.prog 68 false 1 := ⟨Tryz.isAgg68, Tryz.sizeOf68⟩
instance ty_24 : TY Tryz.prog 70 true 4 := ⟨Tryz.isAgg70, Tryz.sizeOf70⟩
instance tf_24_0 : TFld Tryz.prog 70 0 0 47 := ⟨_, Tryz.runUnderlying70, rfl⟩
instance tf_24_1 : TFld Tryz.prog 70 1 1 3 := ⟨_, Tryz.runUnderlying70, rfl⟩
instance tf_24_2 : TFld Tryz.prog 70 2 2 3 := ⟨_, Tryz.runUnderlying70, rfl⟩
instance tf_24_3 : TFld Tryz.prog 70 3 3 41 := ⟨_, Tryz.runUnderlying70, rfl⟩
instance tz_24 : TZero Tryz.prog 70 [.val (.slice none 0 0), .val (.int .i64 0), .val (.int .i64 0), .val (.int .i64 0)] := ⟨_, Tryz.zeroValue70, rfl⟩
instance tp_24 : Plc Tryz.prog 70 [(0, 1), (1, 1), (2, 1), (3, 1)] [.val (.slice none 0 0), .val (.int .i64 0), .val (.int .i64 0), .val (.int .i64 0)] := ⟨_, Tryz.t70, _, Tryz.underlying70, by kernel_rfl, rfl, by kernel_rfl, rfl⟩
instance ty_25 : TY Tryz.prog 72 true 4 := ⟨Tryz.isAgg72, Tryz.sizeOf72⟩
instance tf_25_0 : TFld Tryz.prog 72 0 0 3 := ⟨_, Tryz.runUnderlying72, rfl⟩
instance tf_25_1 : TFld Tryz.prog 72 1 1 9 := ⟨_, Tryz.runUnderlying72, rfl⟩
instance tf_25_2 : TFld Tryz.prog 72 2 2 3 := ⟨_, Tryz.runUnderlying72, rfl⟩
instance tf_25_3 : TFld Tryz.prog 72 3 3 3 := ⟨_, Tryz.runUnderlying72, rfl⟩
instance tz_25 : TZero Tryz.prog 72 [.val (.int .i64 0), .val (.string ⟨#[]⟩), .val (.int .i64 0), .val (.int .i64 0)] := ⟨_, Tryz.zeroValue72, rfl⟩
instance tp_25 : Plc Tryz.prog 72 [(0, 1), (1, 1), (2, 1), (3, 1)] [.val (.int .i64 0), .val (.string ⟨#[]⟩), .val (.int .i64 0), .val (.int .i64 0)] := ⟨_, Tryz.t72, _, Tryz.underlying72, by kernel_rfl, rfl, by kernel_rfl, rfl⟩
instance ty_26 : TY Tryz.prog 74 false 1 := ⟨Tryz.isAgg74, Tryz.sizeOf74⟩
instance ty_27 : TY Tryz.prog 76 false 1 := ⟨Tryz.isAgg76, Tryz.sizeOf76⟩
instance tz_27 : TZero Tryz.prog 76 [.val (.int .u64 0)] := ⟨_, Tryz.zeroValue76, rfl⟩
instance ty_28 : TY Tryz.prog 83 false 1 := ⟨Tryz.isAgg83, Tryz.sizeOf83⟩
instance ty_29 : TY Tryz.prog 85 true 6 := ⟨Tryz.isAgg85, Tryz.sizeOf85⟩
instance tf_29_0 : TFld Tryz.prog 85 0 0 47 := ⟨_, Tryz.runUnderlying85, rfl⟩
instance tf_29_1 : TFld Tryz.prog 85 1 1 3 := ⟨_, Tryz.runUnderlying85, rfl⟩
instance tf_29_2 : TFld Tryz.prog 85 2 2 3 := ⟨_, Tryz.runUnderlying85, rfl⟩
instance tf_29_3 : TFld Tryz.prog 85 3 3 41 := ⟨_, Tryz.runUnderlying85, rfl⟩
instance tf_29_4 : TFld Tryz.prog 85 4 4 3 := ⟨_, Tryz.runUnderlying85, rfl⟩
instance tf_29_5 : TFld Tryz.prog 85 5 5 3 := ⟨_, Tryz.runUnderlying85, rfl⟩
instance tz_29 : TZero Tryz.prog 85 [.val (.slice none 0 0), .val (.int .i64 0), .val (.int .i64 0), .val (.int .i64 0), .val (.int .i64 0), .val (.int .i64 0)] := ⟨_, Tryz.zeroValue85, rfl⟩
instance tp_29 : Plc Tryz.prog 85 [(0, 1), (1, 1), (2, 1), (3, 1), (4, 1), (5, 1)] [.val (.slice none 0 0), .val (.int .i64 0), .val (.int .i64 0), .val (.int .i64 0), .val (.int .i64 0), .val (.int .i64 0)] := ⟨_, Tryz.t85, _, Tryz.underlying85, by kernel_rfl, rfl, by kernel_rfl, rfl⟩
instance ty_30 : TY Tryz.prog 86 false 1 := ⟨Tryz.isAgg86, Tryz.sizeOf86⟩
instance tsl_30 : TSl Tryz.prog 86 88 := ⟨Tryz.runUnderlying86⟩
instance tz_30 : TZero Tryz.prog 86 [.val (.slice none 0 0)] := ⟨_, Tryz.zeroValue86, rfl⟩
instance ty_31 : TY Tryz.prog 88 true 4 := ⟨Tryz.isAgg88, Tryz.sizeOf88⟩
instance tf_31_0 : TFld Tryz.prog 88 0 0 3 := ⟨_, Tryz.runUnderlying88, rfl⟩
instance tf_31_1 : TFld Tryz.prog 88 1 1 3 := ⟨_, Tryz.runUnderlying88, rfl⟩
instance tf_31_2 : TFld Tryz.prog 88 2 2 9 := ⟨_, Tryz.runUnderlying88, rfl⟩
instance tf_31_3 : TFld Tryz.prog 88 3 3 86 := ⟨_, Tryz.runUnderlying88, rfl⟩
instance tz_31 : TZero Tryz.prog 88 [.val (.int .i64 0), .val (.int .i64 0), .val (.string ⟨#[]⟩), .val (.slice none 0 0)] := ⟨_, Tryz.zeroValue88, rfl⟩
instance tp_31 : Plc Tryz.prog 88 [(0, 1), (1, 1), (2, 1), (3, 1)] [.val (.int .i64 0), .val (.int .i64 0), .val (.string ⟨#[]⟩), .val (.slice none 0 0)] := ⟨_, Tryz.t88, _, Tryz.underlying88, by kernel_rfl, rfl, by kernel_rfl, rfl⟩
instance ty_32 : TY Tryz.prog 90 true 2 := ⟨Tryz.isAgg90, Tryz.sizeOf90⟩
instance tf_32_0 : TFld Tryz.prog 90 0 0 9 := ⟨_, Tryz.runUnderlying90, rfl⟩
instance tf_32_1 : TFld Tryz.prog 90 1 1 86 := ⟨_, Tryz.runUnderlying90, rfl⟩
instance tz_32 : TZero Tryz.prog 90 [.val (.string ⟨#[]⟩), .val (.slice none 0 0)] := ⟨_, Tryz.zeroValue90, rfl⟩
instance tp_32 : Plc Tryz.prog 90 [(0, 1), (1, 1)] [.val (.string ⟨#[]⟩), .val (.slice none 0 0)] := ⟨_, Tryz.t90, _, Tryz.underlying90, by kernel_rfl, rfl, by kernel_rfl, rfl⟩
instance ty_33 : TY Tryz.prog 91 false 1 := ⟨Tryz.isAgg91, Tryz.sizeOf91⟩
instance tsl_33 : TSl Tryz.prog 91 97 := ⟨Tryz.runUnderlying91⟩
instance tz_33 : TZero Tryz.prog 91 [.val (.slice none 0 0)] := ⟨_, Tryz.zeroValue91, rfl⟩
instance ty_34 : TY Tryz.prog 93 true 11 := ⟨Tryz.isAgg93, Tryz.sizeOf93⟩
instance tf_34_0 : TFld Tryz.prog 93 0 0 3 := ⟨_, Tryz.runUnderlying93, rfl⟩
instance tf_34_1 : TFld Tryz.prog 93 1 1 9 := ⟨_, Tryz.runUnderlying93, rfl⟩
instance tf_34_2 : TFld Tryz.prog 93 2 2 88 := ⟨_, Tryz.runUnderlying93, rfl⟩
instance tf_34_3 : TFld Tryz.prog 93 3 6 90 := ⟨_, Tryz.runUnderlying93, rfl⟩
instance tf_34_4 : TFld Tryz.prog 93 4 8 91 := ⟨_, Tryz.runUnderlying93, rfl⟩
instance tf_34_5 : TFld Tryz.prog 93 5 9 50 := ⟨_, Tryz.runUnderlying93, rfl⟩
instance tf_34_6 : TFld Tryz.prog 93 6 10 50 := ⟨_, Tryz.runUnderlying93, rfl⟩
instance tz_34 : TZero Tryz.prog 93 [.val (.int .i64 0), .val (.string ⟨#[]⟩), .val (.int .i64 0), .val (.int .i64 0), .val (.string ⟨#[]⟩), .val (.slice none 0 0), .val (.string ⟨#[]⟩), .val (.slice none 0 0), .val (.slice none 0 0), .val (.slice none 0 0), .val (.slice none 0 0)] := ⟨_, Tryz.zeroValue93, rfl⟩
instance tp_34 : Plc Tryz.prog 93 [(0, 1), (1, 1), (2, 4), (6, 2), (8, 1), (9, 1), (10, 1)] [.val (.int .i64 0), .val (.string ⟨#[]⟩), .val (.int .i64 0), .val (.int .i64 0), .val (.string ⟨#[]⟩), .val (.slice none 0 0), .val (.string ⟨#[]⟩), .val (.slice none 0 0), .val (.slice none 0 0), .val (.slice none 0 0), .val (.slice none 0 0)] := ⟨_, Tryz.t93, _, Tryz.underlying93, by kernel_rfl, rfl, by kernel_rfl, rfl⟩
instance ty_35 : TY Tryz.prog 97 true 7 := ⟨Tryz.isAgg97, Tryz.sizeOf97⟩
instance tf_35_0 : TFld Tryz.prog 97 0 0 4 := ⟨_, Tryz.runUnderlying97, rfl⟩
instance tf_35_1 : TFld Tryz.prog 97 1 1 90 := ⟨_, Tryz.runUnderlying97, rfl⟩
instance tf_35_2 : TFld Tryz.prog 97 2 3 88 := ⟨_, Tryz.runUnderlying97, rfl⟩
instance tz_35 : TZero Tryz.prog 97 [.val (.bool false), .val (.string ⟨#[]⟩), .val (.slice none 0 0), .val (.int .i64 0), .val (.int .i64 0), .val (.string ⟨#[]⟩), .val (.slice none 0 0)] := ⟨_, Tryz.zeroValue97, rfl⟩
instance tp_35 : Plc Tryz.prog 97 [(0, 1), (1, 2), (3, 4)] [.val (.bool false), .val (.string ⟨#[]⟩), .val (.slice none 0 0), .val (.int .i64 0), .val (.int .i64 0), .val (.string ⟨#[]⟩), .val (.slice none 0 0)] := ⟨_, Tryz.t97, _, Tryz.underlying97, by kernel_rfl, rfl, by kernel_rfl, rfl⟩
instance ty_36 : TY Tryz.prog 98 false 1 := ⟨Tryz.isAgg98, Tryz.sizeOf98⟩
instance ty_37 : TY Tryz.prog 100 true 6 := ⟨Tryz.isAgg100, Tryz.sizeOf100⟩
instance tf_37_0 : TFld Tryz.prog 100 0 0 31 := ⟨_, Tryz.runUnderlying100, rfl⟩
instance tf_37_1 : TFld Tryz.prog 100 1 1 40 := ⟨_, Tryz.runUnderlying100, rfl⟩
instance tf_37_2 : TFld Tryz.prog 100 2 4 3 := ⟨_, Tryz.runUnderlying100, rfl⟩
instance tf_37_3 : TFld Tryz.prog 100 3 5 4 := ⟨_, Tryz.runUnderlying100, rfl⟩
instance tz_37 : TZero Tryz.prog 100 [.val (.pointer none), .val (.slice none 0 0), .val (.slice none 0 0), .val (.slice none 0 0), .val (.int .i64 0), .val (.bool false)] := ⟨_, Tryz.zeroValue100, rfl⟩
instance tp_37 : Plc Tryz.prog 100 [(0, 1), (1, 3), (4, 1), (5, 1)] [.val (.pointer none), .val (.slice none 0 0), .val (.slice none 0 0), .val (.slice none 0 0), .val (.int .i64 0), .val (.bool false)] := ⟨_, Tryz.t100, _, Tryz.underlying100, by kernel_rfl, rfl, by kernel_rfl, rfl⟩
instance ty_38 : TY Tryz.prog 102 true 3 := ⟨Tryz.isAgg102, Tryz.sizeOf102⟩
instance tf_38_0 : TFld Tryz.prog 102 0 0 9 := ⟨_, Tryz.runUnderlying102, rfl⟩
instance tf_38_1 : TFld Tryz.prog 102 1 1 4 := ⟨_, Tryz.runUnderlying102, rfl⟩
instance tf_38_2 : TFld Tryz.prog 102 2 2 3 := ⟨_, Tryz.runUnderlying102, rfl⟩
instance tz_38 : TZero Tryz.prog 102 [.val (.string ⟨#[]⟩), .val (.bool false), .val (.int .i64 0)] := ⟨_, Tryz.zeroValue102, rfl⟩
instance tp_38 : Plc Tryz.prog 102 [(0, 1), (1, 1), (2, 1)] [.val (.string ⟨#[]⟩), .val (.bool false), .val (.int .i64 0)] := ⟨_, Tryz.t102, _, Tryz.underlying102, by kernel_rfl, rfl, by kernel_rfl, rfl⟩
instance ty_39 : TY Tryz.prog 104 true 2 := ⟨Tryz.isAgg104, Tryz.sizeOf104⟩
instance tf_39_0 : TFld Tryz.prog 104 0 0 9 := ⟨_, Tryz.runUnderlying104, rfl⟩
instance tf_39_1 : TFld Tryz.prog 104 1 1 3 := ⟨_, Tryz.runUnderlying104, rfl⟩
instance tz_39 : TZero Tryz.prog 104 [.val (.string ⟨#[]⟩), .val (.int .i64 0)] := ⟨_, Tryz.zeroValue104, rfl⟩
instance tp_39 : Plc Tryz.prog 104 [(0, 1), (1, 1)] [.val (.string ⟨#[]⟩), .val (.int .i64 0)] := ⟨_, Tryz.t104, _, Tryz.underlying104, by kernel_rfl, rfl, by kernel_rfl, rfl⟩
instance ty_40 : TY Tryz.prog 106 true 2 := ⟨Tryz.isAgg106, Tryz.sizeOf106⟩
instance tf_40_0 : TFld Tryz.prog 106 0 0 9 := ⟨_, Tryz.runUnderlying106, rfl⟩
instance tf_40_1 : TFld Tryz.prog 106 1 1 4 := ⟨_, Tryz.runUnderlying106, rfl⟩
instance tz_40 : TZero Tryz.prog 106 [.val (.string ⟨#[]⟩), .val (.bool false)] := ⟨_, Tryz.zeroValue106, rfl⟩
instance tp_40 : Plc Tryz.prog 106 [(0, 1), (1, 1)] [.val (.string ⟨#[]⟩), .val (.bool false)] := ⟨_, Tryz.t106, _, Tryz.underlying106, by kernel_rfl, rfl, by kernel_rfl, rfl⟩
instance ty_41 : TY Tryz.prog 135 false 1 := ⟨Tryz.isAgg135, Tryz.sizeOf135⟩
instance ty_42 : TY Tryz.prog 136 false 1 := ⟨Tryz.isAgg136, Tryz.sizeOf136⟩
instance ty_43 : TY Tryz.prog 138 true 2 := ⟨Tryz.isAgg138, Tryz.sizeOf138⟩
instance tf_43_0 : TFld Tryz.prog 138 0 0 136 := ⟨_, Tryz.runUnderlying138, rfl⟩
instance tf_43_1 : TFld Tryz.prog 138 1 1 23 := ⟨_, Tryz.runUnderlying138, rfl⟩
instance tz_43 : TZero Tryz.prog 138 [.val (.pointer none), .val (.slice none 0 0)] := ⟨_, Tryz.zeroValue138, rfl⟩
instance tp_43 : Plc Tryz.prog 138 [(0, 1), (1, 1)] [.val (.pointer none), .val (.slice none 0 0)] := ⟨_, Tryz.t138, _, Tryz.underlying138, by kernel_rfl, rfl, by kernel_rfl, rfl⟩
instance ty_44 : TY Tryz.prog 140 true 3 := ⟨Tryz.isAgg140, Tryz.sizeOf140⟩
instance tf_44_0 : TFld Tryz.prog 140 0 0 138 := ⟨_, Tryz.runUnderlying140, rfl⟩
instance tf_44_1 : TFld Tryz.prog 140 1 2 3 := ⟨_, Tryz.runUnderlying140, rfl⟩
instance tz_44 : TZero Tryz.prog 140 [.val (.pointer none), .val (.slice none 0 0), .val (.int .i64 0)] := ⟨_, Tryz.zeroValue140, rfl⟩
instance tp_44 : Plc Tryz.prog 140 [(0, 2), (2, 1)] [.val (.pointer none), .val (.slice none 0 0), .val (.int .i64 0)] := ⟨_, Tryz.t140, _, Tryz.underlying140, by kernel_rfl, rfl, by kernel_rfl, rfl⟩
instance ty_45 : TY Tryz.prog 162 false 1 := ⟨Tryz.isAgg162, Tryz.sizeOf162⟩
instance ty_46 : TY Tryz.prog 174 false 1 := ⟨Tryz.isAgg174, Tryz.sizeOf174⟩
instance ty_47 : TY Tryz.prog 180 true 11 := ⟨Tryz.isAgg180, Tryz.sizeOf180⟩
instance ty_48 : TY Tryz.prog 187 true 6 := ⟨Tryz.isAgg187, Tryz.sizeOf187⟩
instance tf_48_0 : TFld Tryz.prog 187 0 0 4 := ⟨_, Tryz.runUnderlying187, rfl⟩
instance tf_48_1 : TFld Tryz.prog 187 1 1 4 := ⟨_, Tryz.runUnderlying187, rfl⟩
instance tf_48_2 : TFld Tryz.prog 187 2 2 4 := ⟨_, Tryz.runUnderlying187, rfl⟩
instance tf_48_3 : TFld Tryz.prog 187 3 3 4 := ⟨_, Tryz.runUnderlying187, rfl⟩
instance tf_48_4 : TFld Tryz.prog 187 4 4 4 := ⟨_, Tryz.runUnderlying187, rfl⟩
instance tf_48_5 : TFld Tryz.prog 187 5 5 4 := ⟨_, Tryz.runUnderlying187, rfl⟩
instance tz_48 : TZero Tryz.prog 187 [.val (.bool false), .val (.bool false), .val (.bool false), .val (.bool false), .val (.bool false), .val (.bool false)] := ⟨_, Tryz.zeroValue187, rfl⟩
instance tp_48 : Plc Tryz.prog 187 [(0, 1), (1, 1), (2, 1), (3, 1), (4, 1), (5, 1)] [.val (.bool false), .val (.bool false), .val (.bool false), .val (.bool false), .val (.bool false), .val (.bool false)] := ⟨_, Tryz.t187, _, Tryz.underlying187, by kernel_rfl, rfl, by kernel_rfl, rfl⟩
instance ty_49 : TY Tryz.prog 195 false 1 := ⟨Tryz.isAgg195, Tryz.sizeOf195⟩
instance ty_50 : TY Tryz.prog 197 true 4 := ⟨Tryz.isAgg197, Tryz.sizeOf197⟩
instance tf_50_0 : TFld Tryz.prog 197 0 0 47 := ⟨_, Tryz.runUnderlying197, rfl⟩
instance tf_50_1 : TFld Tryz.prog 197 1 1 3 := ⟨_, Tryz.runUnderlying197, rfl⟩
instance tf_50_2 : TFld Tryz.prog 197 2 2 3 := ⟨_, Tryz.runUnderlying197, rfl⟩
instance tf_50_3 : TFld Tryz.prog 197 3 3 41 := ⟨_, Tryz.runUnderlying197, rfl⟩
instance tz_50 : TZero Tryz.prog 197 [.val (.slice none 0 0), .val (.int .i64 0), .val (.int .i64 0), .val (.int .i64 0)] := ⟨_, Tryz.zeroValue197, rfl⟩
instance tp_50 : Plc Tryz.prog 197 [(0, 1), (1, 1), (2, 1), (3, 1)] [.val (.slice none 0 0), .val (.int .i64 0), .val (.int .i64 0), .val (.int .i64 0)] := ⟨_, Tryz.t197, _, Tryz.underlying197, by kernel_rfl, rfl, by kernel_rfl, rfl⟩
instance ty_51 : TY Tryz.prog 202 true 24 := ⟨Tryz.isAgg202, Tryz.sizeOf202⟩
instance ty_52 : TY Tryz.prog 213 true 20 := ⟨Tryz.isAgg213, Tryz.sizeOf213⟩
instance ty_53 : TY Tryz.prog 214 false 1 := ⟨Tryz.isAgg214, Tryz.sizeOf214⟩
instance tz_53 : TZero Tryz.prog 214 [.val (.int .u32 0)] := ⟨_, Tryz.zeroValue214, rfl⟩
instance ty_54 : TY Tryz.prog 215 true 65 := ⟨Tryz.isAgg215, Tryz.sizeOf215⟩
instance ty_55 : TY Tryz.prog 218 true 18 := ⟨Tryz.isAgg218, Tryz.sizeOf218⟩
instance ty_56 : TY Tryz.prog 224 true 32 := ⟨Tryz.isAgg224, Tryz.sizeOf224⟩
instance ty_57 : TY Tryz.prog 225 true 64 := ⟨Tryz.isAgg225, Tryz.sizeOf225⟩
end Go.Proofs.YtflcnehhpmjipaaGreatDoor
