import Derived.Test.YtlbocidcjmehfaaDoorB4J
import Derived.Deep.QuietTactic
import Derived.BigQuiet
import Derived.Deep.RegionHeld3
set_option linter.unusedVariables false
set_option linter.unusedSimpArgs false
namespace Go.Proofs.YtlbocidcjmehfaaDoor
open Go.RowKit
theorem argTexts_len (b : Int) : ∀ (l : List AExpr) (j : Nat), (argTexts b j l).length = l.length
 | [], j => by rw [argTexts]; rfl
 | e :: es, j => by rw [argTexts, List.length_cons, List.length_cons, argTexts_len b es]
theorem argTexts_get (b : Int) : ∀ (l : List AExpr) (j k : Nat) (h : k < l.length), (argTexts b j l)[k]? = some (if innerB b (j + k) l[k].op then [40] ++ exprText l[k] ++ [41] else exprText l[k])
 | e :: es, j, 0, h => by rw [argTexts]; rfl
 | e :: es, j, k + 1, h => by
  rw [argTexts, List.getElem?_cons_succ, argTexts_get b es (j + 1) k (by simpa using h)]
  rw [show j + 1 + k = j + (k + 1) by omega]; rfl
theorem op_cases {op num : Int} {name : ByteArray} {args : List AExpr} (h : shapeB (.mk op num name args) = true) :
  (op = 1 ∧ args = [] ∧ 0 ≤ num) ∨ (op = 2 ∧ args = []) ∨ (op = 3 ∧ ∃ e, args = [e]) ∨ (op = 4 ∧ ∃ e, args = [e]) ∨ ∃ s, s < 5 ∧ op ∈ signsO s ∧ ∃ e0 e1, args = [e0, e1] := by
 rw [shapeB, Bool.and_eq_true, Bool.and_eq_true, decide_eq_true_eq] at h
 obtain ⟨⟨h1, h2⟩, _⟩ := h
 have two : args.length = 2 → ∃ e0 e1, args = [e0, e1] := by
  intro h; match args, h with
  | [e0, e1], _ => exact ⟨_, _, rfl⟩
 have one : args.length = 1 → ∃ e, args = [e] := by
  intro h; match args, h with
  | [e], _ => exact ⟨_, rfl⟩
 by_cases hs : ∃ s, s < 5 ∧ op ∈ signsO s
 ·obtain ⟨s, h5, hm⟩ := hs
  have hst := strength_in s h5 op hm
  rw [arity, hst, if_neg (by omega), if_neg (by omega)] at h2
  exact .inr (.inr (.inr (.inr ⟨s, h5, hm, two h2⟩)))
 ·have hout := strength_out op (fun k hk hm => hs ⟨k, hk, hm⟩)
  by_cases h34 : op = 3 ∨ op = 4
  ·rw [arity, hout.1 h34, if_neg (by omega), if_pos rfl] at h2
   rcases h34 with rfl | rfl
   ·exact .inr (.inr (.inl ⟨rfl, one h2⟩))
   ·exact .inr (.inr (.inr (.inl ⟨rfl, one h2⟩)))
  ·have h6 := hout.2 h34
   rw [arity, h6, if_pos rfl] at h2
   rw [if_pos h6, leafB] at h1
   simp only [Bool.or_eq_true, Bool.and_eq_true, decide_eq_true_eq] at h1
   have hn : args = [] := List.eq_nil_of_length_eq_zero h2
   rcases h1 with ⟨⟨h1, h3⟩, _⟩ | ⟨⟨h1, _⟩, _⟩
   ·exact .inl ⟨h1, hn, h3⟩
   ·exact .inr (.inl ⟨h1, hn⟩)
theorem ret_str {a b : ByteArray} (h : a = b) : Ending.returned (.string a) = .returned (.string b) := by rw [h]
theorem bytes_back (s : ByteArray) : bytes s.data.toList = s := by simp [bytes]
theorem strInfo : (Tryd.prog.info? 9).map (fun i => (i.zero, i.size, i.bytes)) = some (some (.string ⟨#[]⟩), 1, 16) := by kernel_rfl
def strCells (ts : List (List UInt8)) : List Value := ts.map fun t => .string (bytes t)
theorem strCells_snoc (ts : List (List UInt8)) (k : Nat) (x : List UInt8) (h : ts[k]? = some x) : strCells (ts.take k) ++ [.string (bytes x)] = strCells (ts.take (k + 1)) := by
 obtain ⟨h1, h2⟩ := List.getElem?_eq_some_iff.1 h
 rw [List.take_succ_eq_append_getElem h1, h2]; simp [strCells]
theorem cell_stepB {B : Nat} {a b : World} {p : Addr} {u : Value} (h : a.cell? p = some u) (hb : Below B a b) (hp : p.block < B) : b.cell? p = some u := by
 rw [hb.cell hp]; exact h
theorem signsO_len (s : Nat) : (signsO s).length ≤ 6 := by unfold signsO; split <;> decide
theorem signsS_len (s : Nat) : (signsS s).length = (signsO s).length := by unfold signsO signsS; split <;> rfl
theorem sign_at (s : Nat) (hs : s < 5) (op : Int) (i : Nat) (h : i < (signsO s).length) (h' : i < (signsS s).length) (he : (signsO s)[i] = op) : (signsS s)[i] = bytes (opSign op) := by
 subst he
 have hcases : s = 0 ∨ s = 1 ∨ s = 2 ∨ s = 3 ∨ s = 4 := by omega
 rcases hcases with rfl | rfl | rfl | rfl | rfl
 ·have h2 : i < 1 := h
  obtain rfl : i = 0 := by omega
  rfl
 ·have h2 : i < 1 := h
  obtain rfl : i = 0 := by omega
  rfl
 ·have h2 : i < 6 := h
  have h3 : i = 0 ∨ i = 1 ∨ i = 2 ∨ i = 3 ∨ i = 4 ∨ i = 5 := by omega
  rcases h3 with h3 | h3 | h3 | h3 | h3 | h3 <;> (subst h3; rfl)
 ·have h2 : i < 2 := h
  have h3 : i = 0 ∨ i = 1 := by omega
  rcases h3 with h3 | h3 <;> (subst h3; rfl)
 ·have h2 : i < 3 := h
  have h3 : i = 0 ∨ i = 1 ∨ i = 2 := by omega
  rcases h3 with h3 | h3 | h3 <;> (subst h3; rfl)
def txR2 (op : Int) (s : Nat) (w3 : World) (v : Value) (wr : World) : Prop := ∃ i n : Nat, v = .int .i64 i ∧ i ≤ (signsO s).length ∧ op ∉ (signsO s).take i ∧ wr = w3.drewN n
theorem add_opaque (x y : List UInt8) (b : ByteArray) (hb : b = bytes y) (h : x.length + y.length ≤ 9223372036854775807) :
  ∃ t, t = x ++ y ∧ t.length = x.length + y.length ∧ ∀ W : World, (Op.stringOp .add (bytes x) b).run Tryd.prog W = .ok (.string (bytes t)) W := by
 refine ⟨x ++ y, rfl, by simp, fun W => ?_⟩
 subst hb
 rw [run_string_add_sum (P := Tryd.prog) (w := W) _ _ (by rw [bytes_size, bytes_size]; omega)]
 exact congrArg (fun x => Result.ok (Value.string x) W) (bytes_append x y)
def txR (op num : Int) (name : ByteArray) (w : World) (args : List AExpr) (cap : Nat) (a : Option Addr) (u v : Value) (wr : World) : Prop :=
 ∃ k : Nat, v = .int .i64 k ∧ k ≤ args.length ∧ wr.ownsRow (w.heap.size + 1) 9 1 u k (strCells ((argTexts op 0 args).take k)) ∧ Below w.heap.size w wr ∧ w.heap.size < wr.heap.size ∧
  wr.cell? ⟨w.heap.size, 0, none⟩ = some (.int .i64 op) ∧ wr.cell? ⟨w.heap.size, 1, none⟩ = some (.int .i64 num) ∧ wr.cell? ⟨w.heap.size, 2, none⟩ = some (.string name) ∧ wr.cell? ⟨w.heap.size, 3, none⟩ = some (.slice a args.length cap)
set_option maxRecDepth 100000 in
set_option maxHeartbeats 4000000 in
theorem text_node (op num : Int) (name : ByteArray) (v : Value) (args : List AExpr) (w : World) (hN : nodesL args ≤ 1000000) (ht : (AExpr.mk op num name args).tame) (hsh : shapeB (.mk op num name args) = true) (hv : ListRep w (ExprRep w) 4 v args)
  (ih : ∀ k (hk : k < args.length) (cs : List Value) (w' : World), ExprRep w' args[k] cs → Calls Tryd.prog 122 #[.agg cs.toArray] w' fun r w'' => r = .returned (.string (bytes (exprText args[k]))) ∧ Below w'.heap.size w' w'') :
  Calls Tryd.prog 122 #[.agg #[.int .i64 op, .int .i64 num, .string name, v]] w fun r w' => r = .returned (.string (bytes (exprText (.mk op num name args)))) ∧ Below w.heap.size w w' := by
 obtain ⟨a, cap, rfl, hc⟩ := hv.slice
 obtain ⟨i0, hi, hz0, hz1, hz2⟩ := info_parts strInfo
 have IH := Lib.hid ih
 have HN := Lib.hid hN
 have HT := Lib.hid ht
 have HSH := Lib.hid hsh
 clear ih hN ht hsh
 go_enter Tryd.func122, Tryd.ntmps122
 go_wp2_with fail
 go_loopw [3, 4] (fun u v wr => txR op num name w args cap a u v wr) (fun _ v _ => args.length - (intOf v).toNat)
 case atStart => exact ⟨0, rfl, by omega, ownsRow_nil _ _ _ _, by go_grown, by simp, by go_simp, by go_simp, by go_simp, by go_simp⟩
 case round =>
  obtain ⟨k, rfl, hk, hown, hbel, hsz, c0, c1, c2, c3⟩ := hrel
  by_cases hlt : k < args.length
  ·have hlt' : (k : Int) < args.length := by omega
   have hv' := hv.below hbel fun a cs _ h => ExprRep.below hbel a h
   obtain ⟨b, off, cap', row, hsl, hc', hR, hrow, hblt, hcells⟩ := hv'.get (by omega) hlt
   cases hsl
   obtain ⟨e0, e1, e2, e3, rfl⟩ : ∃ e0 e1 e2 e3, row = [e0, e1, e2, e3] := by
    match row, hrow with
    | [e0, e1, e2, e3], _ => exact ⟨_, _, _, _, rfl⟩
   have d0 := hcells 0 _ rfl
   have d1 := hcells 1 _ rfl
   have d2 := hcells 2 _ rfl
   have d3 := hcells 3 _ rfl
   rw [Nat.add_zero] at d0
   have htm : args[k].tame := by have := HT.out; rw [AExpr.tame] at this; exact tameL_get _ this.2.2 k hlt
   have hnn : args[k].nodes ≤ 1000000 := by have := nodesL_get args k hlt; have := HN.out; omega
   have htl := exprText_len _ args[k] (Nat.le_refl _) htm
   obtain ⟨t, ht⟩ : ∃ t, t = exprText args[k] := ⟨_, rfl⟩
   rw [← ht] at htl
   have hcap : args.length ≤ 1000000 := by have := HN.out; have := nodesL_len args; omega
   have ha1 : ∀ W : World, (Op.stringOp .add ⟨#[40]⟩ (bytes t)).run Tryd.prog W = .ok (.string (bytes (40 :: t))) W := fun W => by
    rw [run_string_add_sum (P := Tryd.prog) (w := W) _ _ (by rw [bytes_size, show (⟨#[40]⟩ : ByteArray).size = 1 from rfl]; omega)]
    exact congrArg (fun x => Result.ok (Value.string x) W) (bytes_append [40] t)
   have ha2 : ∀ W : World, (Op.stringOp .add (bytes (40 :: t)) ⟨#[41]⟩).run Tryd.prog W = .ok (.string (bytes (40 :: t ++ [41]))) W := fun W => by
    rw [run_string_add_sum (P := Tryd.prog) (w := W) _ _ (by rw [bytes_size, List.length_cons, show (⟨#[41]⟩ : ByteArray).size = 1 from rfl]; omega)]
    exact congrArg (fun x => Result.ok (Value.string x) W) (bytes_append (40 :: t) [41])
   have HCAP := Lib.hid hcap
   have HR := Lib.hid hR
   have HV := Lib.hid hv
   have HV' := Lib.hid hv'
   have HTX := Lib.hid ht
   have HOWN := Lib.hid hown
   have hcap2 : (k : Int) ≤ 1000000 := by omega
   have HG := Lib.hid (argTexts_get op args 0 k hlt)
   clear hcells hR hrow hcap hv hv' ht hown htm hnn htl
   cases hin : innerB op k args[k].op
   all_goals
    have HIN := Lib.hid hin
    clear hin
    go_wp2_with (first
     | (go_at_call 122; ((with_reducible refine (IH.out k hlt _ wr HR.out).mono ?_); rintro e w2 ⟨rfl, hb2⟩; rw [← HTX.out]; have hbel2 := Below.step hbel hb2; have c0' := cell_step c0 hb2; have c1' := cell_step c1 hb2; have c2' := cell_step c2 hb2; have c3' := cell_step c3 hb2; clear d0 d1 d2 d3 c0 c1 c2 c3))
     | (go_at_call 146; ((with_reducible refine (inner_any op num name _ args k _ hlt (HV'.out.below hb2 fun a cs _ h => ExprRep.below hb2 a h) HCAP.out).mono ?_); rintro e w3 ⟨rfl, hb3⟩; rw [HIN.out]; have hbel3 := Below.step hbel2 hb3; have c0'' := cell_step c0' hb3; have c1'' := cell_step c1' hb3; have c2'' := cell_step c2' hb3; have c3'' := cell_step c3' hb3; have hb23 := Below.step hb2 hb3; clear c0' c1' c2' c3'))
     | (at_builtin; refine wpList_append_own _ rfl _ _ 42 rfl (w.heap.size + 1) 9 i0 _ 1 16 Tryd.underlying42 hi hz0 hz1 hz2 rfl (by decide) _ k (strCells ((argTexts op 0 args).take k)) rfl (ownsRow_below HOWN.out (hb23.alloc hb23.size _) (Nat.le_refl _)) ⟨w3.heap.size, 0, none⟩ 1 1 [_] rfl rfl (new_cells _ _ _) (by simp [Value.oneCell']) (by unfold maxLen; omega) (by omega) (by have := hb23.size; simp; omega) ?_))
    intro v' w4 hown4 hgrow _
    have hb4 : Below (w.heap.size + 1) w3 w4 := Below.grow ((Below.refl _ _).alloc (by have := hb23.size; omega) _) hgrow (by have := hb23.size; simp; omega) (ownsRow_below HOWN.out (hb23.alloc hb23.size _) (Nat.le_refl _)) (Nat.le_refl _)
    clear hgrow
    have hz3 : w.heap.size + 1 ≤ w3.heap.size := by have := hb23.size; omega
    have b0 := cell_stepB c0'' hb4 (by simp)
    have b1 := cell_stepB c1'' hb4 (by simp)
    have b2 := cell_stepB c2'' hb4 (by simp)
    have b3 := cell_stepB c3'' hb4 (by simp)
    have hbel4 : Below w.heap.size w w4 := hbel3.trans (hb4.mono (by omega))
    clear c0'' c1'' c2'' c3''
    go_wp2_with fail
    go_roundw
    case rel =>
     refine ⟨k + 1, by go_num, by omega, ?_, hbel4, by have := hb4.size; omega, b0, b1, b2, b3⟩
     have hg := HG.out
     rw [Nat.zero_add, HIN.out, ← HTX.out] at hg
     rw [← strCells_snoc _ _ _ hg]
     simpa using hown4
    case measure => simp [intOf]; omega
  ·have hke : k = args.length := by omega
   subst hke
   have hge : ¬ ((args.length : Int) < args.length) := by omega
   have hat : (argTexts op 0 args).take args.length = argTexts op 0 args := List.take_of_length_le (by rw [argTexts_len]; omega)
   rw [hat] at hown
   obtain ⟨ua, uc, rfl, huc, hur⟩ := RowAt.of_owns hown
   have hlen := exprText_len _ (.mk op num name args) (Nat.le_refl _) HT.out
   rw [AExpr.nodes] at hlen
   have hNN := HN.out
   have HUR := Lib.hid hur
   have HAT := Lib.hid hat
   have HOWN := Lib.hid hown
   have HV := Lib.hid hv
   clear hur hat hown hv
   rcases op_cases HSH.out with ⟨rfl, rfl, h0⟩ | ⟨rfl, rfl⟩ | ⟨rfl, e, rfl⟩ | ⟨rfl, e, rfl⟩ | ⟨s, hs5, hso, e0, e1, rfl⟩
   ·have hnb : num ≤ 9223372036854775807 := by have := HT.out; rw [AExpr.tame] at this; omega
    go_wp2_with (go_at_call 86; ((with_reducible refine (number_ref num _ (by omega) hnb).mono ?_); rintro e w2 ⟨rfl, hb2⟩))
    go_ret
    refine ⟨ret_str ?_, Below.step hbel hb2⟩
    rw [exprText, opJoin, if_pos rfl]
   ·go_wp2_with fail
    go_ret
    refine ⟨ret_str ?_, hbel⟩
    rw [exprText, opJoin, if_neg (by decide), if_pos rfl, bytes_back]
   ·obtain ⟨x, hx⟩ : ∃ x, argTexts 3 0 [e] = [x] := ⟨_, by rw [argTexts, argTexts]⟩
    have hxl : x.length + 3 ≤ 3000000000000 := by
     rw [exprText, opJoin, hx, if_neg (by decide), if_neg (by decide), if_pos rfl] at hlen
     simp at hlen; omega
    rw [hx] at HUR
    rcases HUR.out with h0 | ⟨b, off, rfl, hr⟩
    ·cases h0
    have d0 := hr 0 (.string (bytes x)) rfl
    rw [Nat.add_zero] at d0
    have ha1 : ∀ W : World, (Op.stringOp .add ⟨#[45]⟩ (bytes x)).run Tryd.prog W = .ok (.string (bytes (45 :: x))) W := fun W => by
     rw [run_string_add_sum (P := Tryd.prog) (w := W) _ _ (by rw [bytes_size, show (⟨#[45]⟩ : ByteArray).size = 1 from rfl]; omega)]
     exact congrArg (fun x => Result.ok (Value.string x) W) (bytes_append [45] x)
    have HX := Lib.hid hx
    clear hr hx
    go_wp2_with fail
    go_ret
    refine ⟨ret_str ?_, hbel⟩
    rw [exprText, opJoin, HX.out, if_neg (by decide), if_neg (by decide), if_pos rfl]; rfl
   ·obtain ⟨x, hx⟩ : ∃ x, argTexts 4 0 [e] = [x] := ⟨_, by rw [argTexts, argTexts]⟩
    have hxl : x.length + 3 ≤ 3000000000000 := by
     rw [exprText, opJoin, hx, if_neg (by decide), if_neg (by decide), if_neg (by decide), if_pos rfl] at hlen
     simp at hlen; omega
    rw [hx] at HUR
    rcases HUR.out with h0 | ⟨b, off, rfl, hr⟩
    ·cases h0
    have d0 := hr 0 (.string (bytes x)) rfl
    rw [Nat.add_zero] at d0
    have ha1 : ∀ W : World, (Op.stringOp .add ⟨#[33]⟩ (bytes x)).run Tryd.prog W = .ok (.string (bytes (33 :: x))) W := fun W => by
     rw [run_string_add_sum (P := Tryd.prog) (w := W) _ _ (by rw [bytes_size, show (⟨#[33]⟩ : ByteArray).size = 1 from rfl]; omega)]
     exact congrArg (fun x => Result.ok (Value.string x) W) (bytes_append [33] x)
    have HX := Lib.hid hx
    clear hr hx
    go_wp2_with fail
    go_ret
    refine ⟨ret_str ?_, hbel⟩
    rw [exprText, opJoin, HX.out, if_neg (by decide), if_neg (by decide), if_neg (by decide), if_pos rfl]; rfl
   ·obtain ⟨x, y, hx⟩ : ∃ x y, argTexts op 0 [e0, e1] = [x, y] := ⟨_, _, by rw [argTexts, argTexts, argTexts]⟩
    have hst := strength_in s hs5 op hso
    have hn1 : ¬ op = 1 := by rintro rfl; simp [strengthN] at hst; omega
    have hn2 : ¬ op = 2 := by rintro rfl; simp [strengthN] at hst; omega
    have hn3 : ¬ op = 3 := by rintro rfl; simp [strengthN] at hst; omega
    have hn4 : ¬ op = 4 := by rintro rfl; simp [strengthN] at hst; omega
    have htext : exprText (.mk op num name [e0, e1]) = x ++ [32] ++ opSign op ++ [32] ++ y := by
     rw [exprText, opJoin, hx, if_neg hn1, if_neg hn2, if_neg hn3, if_neg hn4, if_pos (by omega)]; rfl
    rw [htext] at hlen
    have hxl : x.length + y.length + 8 ≤ 3000000000000 := by simp at hlen; omega
    rw [hx] at HUR
    rcases HUR.out with h0 | ⟨b, off, rfl, hr⟩
    ·cases h0
    have d0 := hr 0 (.string (bytes x)) rfl
    have d1 := hr 1 (.string (bytes y)) rfl
    rw [Nat.add_zero] at d0
    have b1 : (op == 1) = false := by rw [beq_eq_false_iff_ne]; exact hn1
    have b2 : (op == 2) = false := by rw [beq_eq_false_iff_ne]; exact hn2
    have b3 : (op == 3) = false := by rw [beq_eq_false_iff_ne]; exact hn3
    have b4 : (op == 4) = false := by rw [beq_eq_false_iff_ne]; exact hn4
    have HX := Lib.hid hx
    have HST := Lib.hid hst
    have HSO := Lib.hid hso
    have HTT := Lib.hid htext
    clear hr hx hn1 hn2 hn3 hn4 hst hso htext hlen
    go_wp2_with (first
     | (go_at_call 147; ((with_reducible refine (strength_any _ _).mono ?_); rintro e w2 ⟨rfl, hb2⟩; rw [HST.out]; have c0' := cell_step c0 hb2; have d0' := cell_step d0 hb2; have d1' := cell_step d1 hb2; have hbel2 := Below.step hbel hb2; clear c1 c2 c3 c0 d0 d1))
     | (go_at_call 109; ((with_reducible refine (signs_any s _ hs5).mono ?_); rintro e w3 ⟨⟨sv, su, rfl, hsv, hsu⟩, hb3⟩; have c0'' := cell_step c0' hb3; have d0'' := cell_step d0' hb3; have d1'' := cell_step d1' hb3; have hbel3 := Below.step hbel2 hb3; obtain ⟨va, vc, rfl, hvc, hvr⟩ := hsv; obtain ⟨oa, oc, rfl, hoc, hor⟩ := hsu; have HVR := Lib.hid hvr; have HOR := Lib.hid hor; clear c0' d0' d1' hvr hor)))
    have hll : (signsO s).length ≤ 6 := signsO_len s
    have hlv := signsS_len s
    go_loopw [8] (fun v wr' => txR2 op s w3 v wr') (fun v _ => (signsO s).length - (intOf v).toNat)
    case atStart => exact ⟨0, 0, rfl, by omega, by simp, rfl⟩
    case round =>
     obtain ⟨i, n, rfl, hi, hni, rfl⟩ := hrel
     have hil : i < (signsO s).length := by
      rcases Nat.lt_or_ge i (signsO s).length with h | h
      ·exact h
      ·rw [List.take_of_length_le h] at hni; exact absurd HSO.out hni
     have hil' : i < (signsS s).length := by omega
     rcases HOR.out with h0 | ⟨ob, oo, rfl, hr⟩
     ·exfalso; have := congrArg List.length h0; simp at this; rw [this] at hil; simp at hil
     have hcell := hr i (.int .i64 (signsO s)[i]) (by simp [hil])
     rcases HVR.out with h0 | ⟨vb, vo, rfl, hr2⟩
     ·exfalso; have := congrArg List.length h0; simp at this; rw [this] at hil'; simp at hil'
     have hcell2 := hr2 i (.string (signsS s)[i]) (by simp [hil'])
     have HNI := Lib.hid hni
     clear hr hr2 hni
     by_cases he : (signsO s)[i] = op
     ·have hsg := sign_at s hs5 op i hil hil' he
      have hol := opSign_len op
      obtain ⟨t1, ht1, hl1, ha1⟩ := add_opaque x [32] ⟨#[32]⟩ rfl (by simp; omega)
      obtain ⟨t2, ht2, hl2, ha2⟩ := add_opaque t1 (opSign op) (bytes (opSign op)) rfl (by simp at hl1 ⊢; omega)
      obtain ⟨t3, ht3, hl3, ha3⟩ := add_opaque t2 [32] ⟨#[32]⟩ rfl (by simp at hl1 hl2 ⊢; omega)
      obtain ⟨t4, ht4, hl4, ha4⟩ := add_opaque t3 y (bytes y) rfl (by simp at hl1 hl2 hl3 ⊢; omega)
      have HT4 := Lib.hid (show t4 = x ++ [32] ++ opSign op ++ [32] ++ y by rw [ht4, ht3, ht2, ht1])
      clear ht1 ht2 ht3 ht4 hl1 hl2 hl3 hl4
      rw [hsg] at hcell2
      rw [he] at hcell
      have hq : (op == op) = true := by simp
      clear he hsg
      go_wp2_with fail
      go_quiet (fail)
      go_wp2_with fail
      go_quiet (fail)
      go_wp2_with fail
      go_ret
      refine ⟨ret_str ?_, below_drewN (below_drewN (below_drewN hbel3))⟩
      rw [HTT.out, HT4.out]
     ·have hq : ((signsO s)[i] == op) = false := by simpa using he
      have HE := Lib.hid he
      clear he
      go_wp2_with fail
      go_quiet (fail)
      go_wp2_with fail
      go_roundw
      case rel => exact ⟨i + 1, _, by go_num, by omega, by rw [List.take_succ_eq_append_getElem hil]; simp only [List.mem_append, List.mem_singleton, not_or]; exact ⟨HNI.out, fun h => HE.out h.symm⟩, rfl⟩
      case measure => simp [intOf]; omega
theorem etext_any : ∀ (N : Nat) (e : AExpr), e.nodes ≤ N → N ≤ 1000000 → e.tame → shapeB e = true → ∀ (cs : List Value) (w : World), ExprRep w e cs →
  Calls Tryd.prog 122 #[.agg cs.toArray] w fun r w' => r = .returned (.string (bytes (exprText e))) ∧ Below w.heap.size w w'
 | 0, .mk op num name args, hN, _, _, _, _, _, _ => by rw [AExpr.nodes] at hN; omega
 | N + 1, .mk op num name args, hN, hM, ht, hs, cs, w, hr => by
  rw [AExpr.nodes] at hN
  obtain ⟨v, rfl, hv⟩ := exprRep_iff.1 hr
  have hs' := hs
  rw [shapeB, Bool.and_eq_true] at hs'
  have ht' := ht
  rw [AExpr.tame] at ht'
  exact text_node op num name v args w (by omega) ht hs hv fun k hk cs w' hr' => etext_any N args[k] (by have := nodesL_get args k hk; omega) (by omega) (tameL_get _ ht'.2.2 k hk) ((shapesB_iff args).1 hs'.2 k hk) cs w' hr'
end Go.Proofs.YtlbocidcjmehfaaDoor
namespace Go.Proofs.YtlbocidcjmehfaaDoor
open Go.RowKit
def AExpr.fine (e : AExpr) : Prop := e.nodes ≤ 1000000 ∧ e.tame ∧ shapeB e = true
def ARef.fine (r : ARef) : Prop := r.name.size ≤ 1048576 ∧ ∀ e, e ∈ r.index → e.fine ∧ e.nodes ≤ 900000
def AArg.fine (a : AArg) : Prop := (a.mutex = true → a.ref.fine) ∧ (a.mutex = false → a.expr.fine)
theorem text_fine (e : AExpr) (cs : List Value) (w : World) (h : e.fine) (hr : ExprRep w e cs) :
  Calls Tryd.prog 122 #[.agg cs.toArray] w fun r w' => r = .returned (.string (bytes (exprText e))) ∧ Below w.heap.size w w' :=
 etext_any e.nodes e (Nat.le_refl _) h.1 h.2.1 h.2.2 cs w hr
theorem fine_len (e : AExpr) (h : e.fine) : (exprText e).length ≤ 2000000000000 := by
 have := exprText_len e.nodes e (Nat.le_refl _) h.2.1
 have := h.1
 omega
theorem refText_len (r : ARef) (h : r.fine) : (refTextL r).length ≤ 2000010000000 := by
 obtain ⟨name, index⟩ := r
 have h1 := h.1
 have h2 : name.data.toList.length = name.size := rfl
 dsimp only at h1
 cases index with
 | nil => simp only [refTextL]; omega
 | cons e es =>
  have := fine_len e (h.2 e (by simp)).1
  simp only [refTextL, List.length_append, List.length_cons, List.length_nil]; omega
theorem held6 {w a b : World} {p1 p2 p3 p4 p5 p6 : Addr} {u1 u2 u3 u4 u5 u6 : Value} (h : a.cell? p1 = some u1 ∧ a.cell? p2 = some u2 ∧ a.cell? p3 = some u3 ∧ a.cell? p4 = some u4 ∧ a.cell? p5 = some u5 ∧ a.cell? p6 = some u6 ∧ Below w.heap.size w a) (hb : Below a.heap.size a b) :
  b.cell? p1 = some u1 ∧ b.cell? p2 = some u2 ∧ b.cell? p3 = some u3 ∧ b.cell? p4 = some u4 ∧ b.cell? p5 = some u5 ∧ b.cell? p6 = some u6 ∧ Below w.heap.size w b :=
 ⟨cell_step h.1 hb, cell_step h.2.1 hb, cell_step h.2.2.1 hb, cell_step h.2.2.2.1 hb, cell_step h.2.2.2.2.1 hb, cell_step h.2.2.2.2.2.1 hb, Below.step h.2.2.2.2.2.2 hb⟩
set_option maxRecDepth 100000 in
set_option maxHeartbeats 1600000 in
theorem refText_any (r : ARef) (cs : List Value) (w : World) (hf : r.fine) (hr : RefRep w r cs) :
  Calls Tryd.prog 124 #[.agg cs.toArray] w fun e w' => e = .returned (.string (bytes (refTextL r))) ∧ Below w.heap.size w w' := by
 obtain ⟨name, args⟩ := r
 obtain ⟨v, rfl, hv⟩ := hr
 obtain ⟨hn, he⟩ := hf
 dsimp only at hv hn he
 match args, hv, he with
 | [], hv, he =>
  obtain ⟨a, cap, rfl, hc⟩ := hv.slice
  clear hv he
  go_enter Tryd.func124, Tryd.ntmps124
  go_wp2_with fail
  go_ret
  exact ⟨ret_str (bytes_back name).symm, by go_grown⟩
 | e :: es, hv, he =>
  have hef := (he e (by simp)).1
  obtain ⟨b, off, cap, row, rfl, hc, hR, hrow, hblt, hcells⟩ := hv.get (k := 0) (by omega) (by simp)
  obtain ⟨x0, x1, x2, x3, rfl⟩ : ∃ x0 x1 x2 x3, row = [x0, x1, x2, x3] := by
   match row, hrow with
   | [x0, x1, x2, x3], _ => exact ⟨_, _, _, _, rfl⟩
  have d0 := hcells 0 _ rfl
  have d1 := hcells 1 _ rfl
  have d2 := hcells 2 _ rfl
  have d3 := hcells 3 _ rfl
  simp only [Nat.zero_mul, Nat.add_zero] at d0 d1 d2 d3
  obtain ⟨nl, rfl⟩ : ∃ nl, name = bytes nl := ⟨name.data.toList, (bytes_back name).symm⟩
  rw [bytes_size] at hn
  have hel := fine_len e hef
  have VE := Lib.hid (fun w' (hb : Below w.heap.size w w') => text_fine e _ w' hef (ExprRep.below hb _ hR))
  obtain ⟨t, ht⟩ : ∃ t, t = exprText e := ⟨_, rfl⟩
  rw [← ht] at hel VE
  have HT0 := Lib.hid ht
  obtain ⟨t1, ht1, hl1, ha1⟩ := add_opaque nl [91] ⟨#[91]⟩ rfl (by simp; omega)
  obtain ⟨t2, ht2, hl2, ha2⟩ := add_opaque t1 t (bytes t) rfl (by simp at hl1 ⊢; omega)
  obtain ⟨t3, ht3, hl3, ha3⟩ := add_opaque t2 [93] ⟨#[93]⟩ rfl (by simp at hl1 hl2 ⊢; omega)
  have HT3 := Lib.hid (show t3 = nl ++ [91] ++ t ++ [93] by rw [ht3, ht2, ht1])
  have hl : 0 < (e :: es).length := by simp
  have hll : ¬ (((e :: es).length : Nat) : Int) = 0 := by simp; omega
  have hl' : ((((e :: es).length : Nat) : Int) == 0) = false := by rw [beq_eq_false_iff_ne]; exact hll
  have hle : (0 : Int) < (((e :: es).length : Nat) : Int) := by omega
  rw [show refTextL ⟨bytes nl, e :: es⟩ = nl ++ [91] ++ t ++ [93] by rw [refTextL, HT0.out]; simp [bytes]]
  generalize (e :: es).length = n at hl hl' hle hc ⊢
  clear ht1 ht2 ht3 hl1 hl2 hl3 ht hcells hR hrow hv he hef hll
  go_enter Tryd.func124, Tryd.ntmps124
  go_wp2_with fail
  go_region_held3 (fun w' => w'.cell? ⟨w.heap.size, 0, none⟩ = some (.string (bytes nl)) ∧ w'.cell? ⟨w.heap.size, 1, none⟩ = some (.slice (some ⟨b, off, none⟩) n cap) ∧ w'.cell? ⟨b, off, none⟩ = some x0 ∧ w'.cell? ⟨b, off + 1, none⟩ = some x1 ∧ w'.cell? ⟨b, off + 2, none⟩ = some x2 ∧ w'.cell? ⟨b, off + 3, none⟩ = some x3 ∧ Below w.heap.size w w') (first | assumption | (exact held6 ‹_› hb) | (refine ⟨?_, ?_, ?_, ?_, ?_, ?_, ?_⟩ <;> first | (go_grown; done) | (go_simp; done))) (first | (go_at_call 122; refine (VE.out _ (And.right (And.right (And.right (And.right (And.right (And.right ‹_›))))))).mono ?_; rintro e w1 ⟨rfl, hb⟩))
  have hB := (show _ ∧ _ ∧ _ ∧ _ ∧ _ ∧ _ ∧ Below w.heap.size w _ by assumption).2.2.2.2.2.2
  go_wp2_with fail
  go_ret
  exact ⟨ret_str (by rw [HT3.out]), hB⟩
end Go.Proofs.YtlbocidcjmehfaaDoor
namespace Go.Proofs.YtlbocidcjmehfaaDoor
open Go.RowKit
theorem commaL_mono {α : Type} (f : α → List UInt8) (l : List α) : ∀ (m k : Nat), k + m = l.length → (commaL f (l.take k)).length ≤ (commaL f l).length
 | 0, k, h => by rw [List.take_of_length_le (by omega)]; omega
 | m + 1, k, h => by
  have h1 := commaL_mono f l m (k + 1) (by omega)
  rw [commaL_take f l k (by omega)] at h1
  simp only [List.length_append] at h1
  omega
theorem argRow {w : World} {a : AArg} {row : List Value} (h : ArgRep w a row) : ∃ v1 x0 x1 x2 x3, row = [.bool a.mutex, .string a.ref.name, v1, x0, x1, x2, x3] ∧ RefRep w a.ref [.string a.ref.name, v1] ∧ ExprRep w a.expr [x0, x1, x2, x3] := by
 obtain ⟨cr, ce, rfl, h1, h2⟩ := h
 have h1' := h1
 obtain ⟨v, rfl, _⟩ := h1
 have hl := h2.len
 match ce, hl with
 | [x0, x1, x2, x3], _ => exact ⟨v, x0, x1, x2, x3, rfl, h1', h2⟩
def atR (w : World) (l : List AArg) (u v : Value) (wr : World) : Prop :=
 ∃ (k : Nat) (t : List UInt8), v = .int .i64 k ∧ k ≤ l.length ∧ u = .string (bytes t) ∧ t = [40] ++ commaL argItem (l.take k) ∧ Below w.heap.size w wr
set_option maxRecDepth 100000 in
set_option maxHeartbeats 4000000 in
theorem argsText_any (l : List AArg) (v : Value) (w : World) (hf : ∀ a, a ∈ l → a.fine) (hL : (argsTextL l).length ≤ 1000000000000000) (hlen : l.length ≤ 1000000000) (hv : ListRep w (ArgRep w) 7 v l) :
  Calls Tryd.prog 123 #[v] w fun e w' => e = .returned (.string (bytes (argsTextL l))) ∧ Below w.heap.size w w' := by
 obtain ⟨a, cap, rfl, hc⟩ := hv.slice
 have hL2 : (commaL argItem l).length + 2 ≤ 1000000000000000 := by simp [argsTextL] at hL; omega
 have HF := Lib.hid hf
 clear hf hL
 go_enter Tryd.func123, Tryd.ntmps123
 go_wp2_with fail
 go_loopw [3, 4] (fun u v wr => atR w l u v wr) (fun _ v _ => l.length - (intOf v).toNat)
 case atStart => exact ⟨0, [40], rfl, by omega, rfl, rfl, Below.refl _ _⟩
 case round =>
  obtain ⟨k, c, rfl, hk, rfl, hcd, hbel⟩ := hrel
  by_cases hlt : k < l.length
  ·have hlt' : (k : Int) < l.length := by omega
   have hv' := hv.below hbel fun a cs _ h => ArgRep.below hbel h
   obtain ⟨b, off, cap', row, hsl, hc', hR, hrow, hblt, hcells⟩ := hv'.get (by omega) hlt
   cases hsl
   obtain ⟨v1, x0, x1, x2, x3, rfl, hRr, hRe⟩ := argRow hR
   have d0 := hcells 0 _ rfl
   have d1 := hcells 1 _ rfl
   have d2 := hcells 2 _ rfl
   have d3 := hcells 3 _ rfl
   have d4 := hcells 4 _ rfl
   have d5 := hcells 5 _ rfl
   have d6 := hcells 6 _ rfl
   rw [Nat.add_zero] at d0
   have hfa := HF.out _ (List.getElem_mem hlt)
   have hct := commaL_take argItem l k hlt
   have hcm := commaL_mono argItem l (l.length - (k + 1)) (k + 1) (by omega)
   rw [hct] at hcm
   simp only [List.length_append] at hcm
   have hcl : c.length = 1 + (commaL argItem (l.take k)).length := by rw [hcd]; simp; omega
   have hcm1 : c.length + (argItem l[k]).length + 3 ≤ 1000000000000010 := by omega
   have HCT := Lib.hid hct
   have HC := Lib.hid hcd
   have HV := Lib.hid hv
   clear hcells hR hrow hv' hv hct hcd hcl hcm
   by_cases hm : l[k].mutex = true
   ·by_cases hk0 : k = 0
    ·have hfr := hfa.1 hm
     have hrl := refText_len _ hfr
     have VR := Lib.hid (fun w' (hb : Below wr.heap.size wr w') => refText_any _ _ w' hfr (RefRep.below hb hRr))
     obtain ⟨t, ht⟩ : ∃ t, t = refTextL l[k].ref := ⟨_, rfl⟩
     have hit : argItem l[k] = [109, 117, 116, 101, 120, 32] ++ t := by rw [argItem, if_pos hm, ht]
     rw [← ht] at VR
     rw [hit] at hcm1
     simp only [List.length_append, List.length_cons, List.length_nil] at hcm1
     rw [hm] at d0
     have g0 : (k : Int) ≤ 0 := by omega
     obtain ⟨s0, hs0, hl0⟩ : ∃ s0, s0 = c ∧ s0.length ≤ c.length + 2 := ⟨c, rfl, by omega⟩
     subst hs0
     have hcc : s0 = [40] ++ commaL argItem (l.take k) ++ (if k = 0 then [] else [44, 32]) := by rw [if_pos hk0, List.append_nil]; exact HC.out
     obtain ⟨t1, ht1, hl1, ha1⟩ := add_opaque s0 [109, 117, 116, 101, 120, 32] ⟨#[109, 117, 116, 101, 120, 32]⟩ rfl (by simp at hl0 ⊢; omega)
     obtain ⟨t2, ht2, hl2, ha2⟩ := add_opaque t1 t (bytes t) rfl (by simp at hl0 hl1 ⊢; omega)
     have HT2 := Lib.hid (show t2 = [40] ++ commaL argItem (l.take (k + 1)) by rw [HCT.out, ht2, ht1, hcc, hit]; simp only [List.append_assoc])
     clear ht hit ht1 ht2 hl0 hl1 hl2 hm hfr hRr hRe hfa hcc hk0 hrl hcm1
     go_wp2_with (go_at_call 124; ((with_reducible refine (VR.out _ (Below.refl _ _)).mono ?_); rintro e w2 ⟨rfl, hb2⟩))
     go_roundw
     case rel => exact ⟨k + 1, t2, by go_num, by omega, rfl, HT2.out, Below.step hbel hb2⟩
     case measure => simp [intOf]; omega
    ·have hfr := hfa.1 hm
     have hrl := refText_len _ hfr
     have VR := Lib.hid (fun w' (hb : Below wr.heap.size wr w') => refText_any _ _ w' hfr (RefRep.below hb hRr))
     obtain ⟨t, ht⟩ : ∃ t, t = refTextL l[k].ref := ⟨_, rfl⟩
     have hit : argItem l[k] = [109, 117, 116, 101, 120, 32] ++ t := by rw [argItem, if_pos hm, ht]
     rw [← ht] at VR
     rw [hit] at hcm1
     simp only [List.length_append, List.length_cons, List.length_nil] at hcm1
     rw [hm] at d0
     have g0 : (0 : Int) < k := by omega
     obtain ⟨s0, hs0, hl0, ha0⟩ := add_opaque c [44, 32] ⟨#[44, 32]⟩ rfl (by simp; omega)
     have hcc : s0 = [40] ++ commaL argItem (l.take k) ++ (if k = 0 then [] else [44, 32]) := by rw [if_neg hk0, hs0, HC.out]
     clear hs0
     obtain ⟨t1, ht1, hl1, ha1⟩ := add_opaque s0 [109, 117, 116, 101, 120, 32] ⟨#[109, 117, 116, 101, 120, 32]⟩ rfl (by simp at hl0 ⊢; omega)
     obtain ⟨t2, ht2, hl2, ha2⟩ := add_opaque t1 t (bytes t) rfl (by simp at hl0 hl1 ⊢; omega)
     have HT2 := Lib.hid (show t2 = [40] ++ commaL argItem (l.take (k + 1)) by rw [HCT.out, ht2, ht1, hcc, hit]; simp only [List.append_assoc])
     clear ht hit ht1 ht2 hl0 hl1 hl2 hm hfr hRr hRe hfa hcc hk0 hrl hcm1
     go_wp2_with (go_at_call 124; ((with_reducible refine (VR.out _ (Below.refl _ _)).mono ?_); rintro e w2 ⟨rfl, hb2⟩))
     go_roundw
     case rel => exact ⟨k + 1, t2, by go_num, by omega, rfl, HT2.out, Below.step hbel hb2⟩
     case measure => simp [intOf]; omega
   ·by_cases hk0 : k = 0
    ·have hm' : l[k].mutex = false := by simpa using hm
     have hfr := hfa.2 hm'
     have hrl := fine_len _ hfr
     have VR := Lib.hid (fun w' (hb : Below wr.heap.size wr w') => text_fine _ _ w' hfr (ExprRep.below hb _ hRe))
     obtain ⟨t, ht⟩ : ∃ t, t = exprText l[k].expr := ⟨_, rfl⟩
     have hit : argItem l[k] = t := by rw [argItem, if_neg hm, ht]
     rw [← ht] at VR
     rw [hit] at hcm1
     rw [hm'] at d0
     have g0 : (k : Int) ≤ 0 := by omega
     obtain ⟨s0, hs0, hl0⟩ : ∃ s0, s0 = c ∧ s0.length ≤ c.length + 2 := ⟨c, rfl, by omega⟩
     subst hs0
     have hcc : s0 = [40] ++ commaL argItem (l.take k) ++ (if k = 0 then [] else [44, 32]) := by rw [if_pos hk0, List.append_nil]; exact HC.out
     obtain ⟨t2, ht2, hl2, ha2⟩ := add_opaque s0 t (bytes t) rfl (by simp at hl0 ⊢; omega)
     have HT2 := Lib.hid (show t2 = [40] ++ commaL argItem (l.take (k + 1)) by rw [HCT.out, ht2, hcc, hit]; simp only [List.append_assoc])
     clear ht hit ht2 hl0 hl2 hm hm' hfr hRr hRe hfa hcc hk0 hrl hcm1
     go_wp2_with (go_at_call 122; ((with_reducible refine (VR.out _ (Below.refl _ _)).mono ?_); rintro e w2 ⟨rfl, hb2⟩))
     go_roundw
     case rel => exact ⟨k + 1, t2, by go_num, by omega, rfl, HT2.out, Below.step hbel hb2⟩
     case measure => simp [intOf]; omega
    ·have hm' : l[k].mutex = false := by simpa using hm
     have hfr := hfa.2 hm'
     have hrl := fine_len _ hfr
     have VR := Lib.hid (fun w' (hb : Below wr.heap.size wr w') => text_fine _ _ w' hfr (ExprRep.below hb _ hRe))
     obtain ⟨t, ht⟩ : ∃ t, t = exprText l[k].expr := ⟨_, rfl⟩
     have hit : argItem l[k] = t := by rw [argItem, if_neg hm, ht]
     rw [← ht] at VR
     rw [hit] at hcm1
     rw [hm'] at d0
     have g0 : (0 : Int) < k := by omega
     obtain ⟨s0, hs0, hl0, ha0⟩ := add_opaque c [44, 32] ⟨#[44, 32]⟩ rfl (by simp; omega)
     have hcc : s0 = [40] ++ commaL argItem (l.take k) ++ (if k = 0 then [] else [44, 32]) := by rw [if_neg hk0, hs0, HC.out]
     clear hs0
     obtain ⟨t2, ht2, hl2, ha2⟩ := add_opaque s0 t (bytes t) rfl (by simp at hl0 ⊢; omega)
     have HT2 := Lib.hid (show t2 = [40] ++ commaL argItem (l.take (k + 1)) by rw [HCT.out, ht2, hcc, hit]; simp only [List.append_assoc])
     clear ht hit ht2 hl0 hl2 hm hm' hfr hRr hRe hfa hcc hk0 hrl hcm1
     go_wp2_with (go_at_call 122; ((with_reducible refine (VR.out _ (Below.refl _ _)).mono ?_); rintro e w2 ⟨rfl, hb2⟩))
     go_roundw
     case rel => exact ⟨k + 1, t2, by go_num, by omega, rfl, HT2.out, Below.step hbel hb2⟩
     case measure => simp [intOf]; omega
  ·have hke : k = l.length := by omega
   subst hke
   have hge : ¬ ((l.length : Int) < l.length) := by omega
   rw [List.take_of_length_le (Nat.le_refl _)] at hcd
   obtain ⟨t, ht, hl, ha⟩ := add_opaque c [41] ⟨#[41]⟩ rfl (by rw [hcd]; simp; omega)
   have HT := Lib.hid (show t = argsTextL l by rw [ht, hcd]; rfl)
   clear ht hl hcd
   go_wp2_with fail
   go_ret
   exact ⟨ret_str (by rw [HT.out]), hbel⟩
end Go.Proofs.YtlbocidcjmehfaaDoor
