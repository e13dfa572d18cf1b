import Derived.Test.YtiimofjemiffgaaDoorB4J
import Derived.Deep.QuietTactic
import Derived.BigQuiet
set_option linter.unusedVariables false
set_option linter.unusedSimpArgs false
namespace Go.Proofs.YtiimofjemiffgaaDoor
open Go.RowKit
theorem argTexts_len (b : Int) : ∀ (l : List AExpr) (j : Nat), (argTexts b j l).length = l.length
 | [], j => by rw [argTexts]; rfl
 | e :: es, j => by rw [argTexts, List.length_cons, List.length_cons, argTexts_len b es]
theorem argTexts_get (b : Int) : ∀ (l : List AExpr) (j k : Nat) (h : k < l.length), (argTexts b j l)[k]? = some (if innerB b (j + k) l[k].op then [40] ++ exprText l[k] ++ [41] else exprText l[k])
 | e :: es, j, 0, h => by rw [argTexts]; rfl
 | e :: es, j, k + 1, h => by
  rw [argTexts, List.getElem?_cons_succ, argTexts_get b es (j + 1) k (by simpa using h)]
  rw [show j + 1 + k = j + (k + 1) by omega]; rfl
theorem op_cases {op num : Int} {name : ByteArray} {args : List AExpr} (h : shapeB (.mk op num name args) = true) :
  (op = 1 ∧ args = [] ∧ 0 ≤ num) ∨ (op = 2 ∧ args = []) ∨ (op = 3 ∧ ∃ e, args = [e]) ∨ (op = 4 ∧ ∃ e, args = [e]) ∨ ∃ s, s < 5 ∧ op ∈ signsO s ∧ ∃ e0 e1, args = [e0, e1] := by
 rw [shapeB, Bool.and_eq_true, Bool.and_eq_true, decide_eq_true_eq] at h
 obtain ⟨⟨h1, h2⟩, _⟩ := h
 have two : args.length = 2 → ∃ e0 e1, args = [e0, e1] := by
  intro h; match args, h with
  | [e0, e1], _ => exact ⟨_, _, rfl⟩
 have one : args.length = 1 → ∃ e, args = [e] := by
  intro h; match args, h with
  | [e], _ => exact ⟨_, rfl⟩
 by_cases hs : ∃ s, s < 5 ∧ op ∈ signsO s
 ·obtain ⟨s, h5, hm⟩ := hs
  have hst := strength_in s h5 op hm
  rw [arity, hst, if_neg (by omega), if_neg (by omega)] at h2
  exact .inr (.inr (.inr (.inr ⟨s, h5, hm, two h2⟩)))
 ·have hout := strength_out op (fun k hk hm => hs ⟨k, hk, hm⟩)
  by_cases h34 : op = 3 ∨ op = 4
  ·rw [arity, hout.1 h34, if_neg (by omega), if_pos rfl] at h2
   rcases h34 with rfl | rfl
   ·exact .inr (.inr (.inl ⟨rfl, one h2⟩))
   ·exact .inr (.inr (.inr (.inl ⟨rfl, one h2⟩)))
  ·have h6 := hout.2 h34
   rw [arity, h6, if_pos rfl] at h2
   rw [if_pos h6, leafB] at h1
   simp only [Bool.or_eq_true, Bool.and_eq_true, decide_eq_true_eq] at h1
   have hn : args = [] := List.eq_nil_of_length_eq_zero h2
   rcases h1 with ⟨⟨h1, h3⟩, _⟩ | ⟨⟨h1, _⟩, _⟩
   ·exact .inl ⟨h1, hn, h3⟩
   ·exact .inr (.inl ⟨h1, hn⟩)
theorem ret_str {a b : ByteArray} (h : a = b) : Ending.returned (.string a) = .returned (.string b) := by rw [h]
theorem bytes_back (s : ByteArray) : bytes s.data.toList = s := by simp [bytes]
theorem strInfo : (Tryd.prog.info? 9).map (fun i => (i.zero, i.size, i.bytes)) = some (some (.string ⟨#[]⟩), 1, 16) := by kernel_rfl
def strCells (ts : List (List UInt8)) : List Value := ts.map fun t => .string (bytes t)
theorem strCells_snoc (ts : List (List UInt8)) (k : Nat) (x : List UInt8) (h : ts[k]? = some x) : strCells (ts.take k) ++ [.string (bytes x)] = strCells (ts.take (k + 1)) := by
 obtain ⟨h1, h2⟩ := List.getElem?_eq_some_iff.1 h
 rw [List.take_succ_eq_append_getElem h1, h2]; simp [strCells]
theorem cell_stepB {B : Nat} {a b : World} {p : Addr} {u : Value} (h : a.cell? p = some u) (hb : Below B a b) (hp : p.block < B) : b.cell? p = some u := by
 rw [hb.cell hp]; exact h
theorem signsO_len (s : Nat) : (signsO s).length ≤ 6 := by unfold signsO; split <;> decide
theorem signsS_len (s : Nat) : (signsS s).length = (signsO s).length := by unfold signsO signsS; split <;> rfl
theorem sign_at (s : Nat) (hs : s < 5) (op : Int) (i : Nat) (h : i < (signsO s).length) (h' : i < (signsS s).length) (he : (signsO s)[i] = op) : (signsS s)[i] = bytes (opSign op) := by
 subst he
 have hcases : s = 0 ∨ s = 1 ∨ s = 2 ∨ s = 3 ∨ s = 4 := by omega
 rcases hcases with rfl | rfl | rfl | rfl | rfl
 ·have h2 : i < 1 := h
  obtain rfl : i = 0 := by omega
  rfl
 ·have h2 : i < 1 := h
  obtain rfl : i = 0 := by omega
  rfl
 ·have h2 : i < 6 := h
  have h3 : i = 0 ∨ i = 1 ∨ i = 2 ∨ i = 3 ∨ i = 4 ∨ i = 5 := by omega
  rcases h3 with h3 | h3 | h3 | h3 | h3 | h3 <;> (subst h3; rfl)
 ·have h2 : i < 2 := h
  have h3 : i = 0 ∨ i = 1 := by omega
  rcases h3 with h3 | h3 <;> (subst h3; rfl)
 ·have h2 : i < 3 := h
  have h3 : i = 0 ∨ i = 1 ∨ i = 2 := by omega
  rcases h3 with h3 | h3 | h3 <;> (subst h3; rfl)
def txR2 (op : Int) (s : Nat) (w3 : World) (v : Value) (wr : World) : Prop := ∃ i n : Nat, v = .int .i64 i ∧ i ≤ (signsO s).length ∧ op ∉ (signsO s).take i ∧ wr = w3.drewN n
theorem add_opaque (x y : List UInt8) (b : ByteArray) (hb : b = bytes y) (h : x.length + y.length ≤ 9223372036854775807) :
  ∃ t, t = x ++ y ∧ t.length = x.length + y.length ∧ ∀ W : World, (Op.stringOp .add (bytes x) b).run Tryd.prog W = .ok (.string (bytes t)) W := by
 refine ⟨x ++ y, rfl, by simp, fun W => ?_⟩
 subst hb
 rw [run_string_add_sum (P := Tryd.prog) (w := W) _ _ (by rw [bytes_size, bytes_size]; omega)]
 exact congrArg (fun x => Result.ok (Value.string x) W) (bytes_append x y)
def txR (op num : Int) (name : ByteArray) (w : World) (args : List AExpr) (cap : Nat) (a : Option Addr) (u v : Value) (wr : World) : Prop :=
 ∃ k : Nat, v = .int .i64 k ∧ k ≤ args.length ∧ wr.ownsRow (w.heap.size + 1) 9 1 u k (strCells ((argTexts op 0 args).take k)) ∧ Below w.heap.size w wr ∧ w.heap.size < wr.heap.size ∧
  wr.cell? ⟨w.heap.size, 0, none⟩ = some (.int .i64 op) ∧ wr.cell? ⟨w.heap.size, 1, none⟩ = some (.int .i64 num) ∧ wr.cell? ⟨w.heap.size, 2, none⟩ = some (.string name) ∧ wr.cell? ⟨w.heap.size, 3, none⟩ = some (.slice a args.length cap)
set_option maxRecDepth 100000 in
set_option maxHeartbeats 4000000 in
theorem text_node (op num : Int) (name : ByteArray) (v : Value) (args : List AExpr) (w : World) (hN : nodesL args ≤ 1000000) (ht : (AExpr.mk op num name args).tame) (hsh : shapeB (.mk op num name args) = true) (hv : ListRep w (ExprRep w) 4 v args)
  (ih : ∀ k (hk : k < args.length) (cs : List Value) (w' : World), ExprRep w' args[k] cs → Calls Tryd.prog 31 #[.agg cs.toArray] w' fun r w'' => r = .returned (.string (bytes (exprText args[k]))) ∧ Below w'.heap.size w' w'') :
  Calls Tryd.prog 31 #[.agg #[.int .i64 op, .int .i64 num, .string name, v]] w fun r w' => r = .returned (.string (bytes (exprText (.mk op num name args)))) ∧ Below w.heap.size w w' := by
 obtain ⟨a, cap, rfl, hc⟩ := hv.slice
 obtain ⟨i0, hi, hz0, hz1, hz2⟩ := info_parts strInfo
 have IH := Lib.hid ih
 have HN := Lib.hid hN
 have HT := Lib.hid ht
 have HSH := Lib.hid hsh
 clear ih hN ht hsh
 go_enter Tryd.func31, Tryd.ntmps31
 go_wp2_with fail
 go_loopw [3, 4] (fun u v wr => txR op num name w args cap a u v wr) (fun _ v _ => args.length - (intOf v).toNat)
 case atStart => exact ⟨0, rfl, by omega, ownsRow_nil _ _ _ _, by go_grown, by simp, by go_simp, by go_simp, by go_simp, by go_simp⟩
 case round =>
  obtain ⟨k, rfl, hk, hown, hbel, hsz, c0, c1, c2, c3⟩ := hrel
  by_cases hlt : k < args.length
  ·have hlt' : (k : Int) < args.length := by omega
   have hv' := hv.below hbel fun a cs _ h => ExprRep.below hbel a h
   obtain ⟨b, off, cap', row, hsl, hc', hR, hrow, hblt, hcells⟩ := hv'.get (by omega) hlt
   cases hsl
   obtain ⟨e0, e1, e2, e3, rfl⟩ : ∃ e0 e1 e2 e3, row = [e0, e1, e2, e3] := by
    match row, hrow with
    | [e0, e1, e2, e3], _ => exact ⟨_, _, _, _, rfl⟩
   have d0 := hcells 0 _ rfl
   have d1 := hcells 1 _ rfl
   have d2 := hcells 2 _ rfl
   have d3 := hcells 3 _ rfl
   rw [Nat.add_zero] at d0
   have htm : args[k].tame := by have := HT.out; rw [AExpr.tame] at this; exact tameL_get _ this.2.2 k hlt
   have hnn : args[k].nodes ≤ 1000000 := by have := nodesL_get args k hlt; have := HN.out; omega
   have htl := exprText_len _ args[k] (Nat.le_refl _) htm
   obtain ⟨t, ht⟩ : ∃ t, t = exprText args[k] := ⟨_, rfl⟩
   rw [← ht] at htl
   have hcap : args.length ≤ 1000000 := by have := HN.out; have := nodesL_len args; omega
   have ha1 : ∀ W : World, (Op.stringOp .add ⟨#[40]⟩ (bytes t)).run Tryd.prog W = .ok (.string (bytes (40 :: t))) W := fun W => by
    rw [run_string_add_sum (P := Tryd.prog) (w := W) _ _ (by rw [bytes_size, show (⟨#[40]⟩ : ByteArray).size = 1 from rfl]; omega)]
    exact congrArg (fun x => Result.ok (Value.string x) W) (bytes_append [40] t)
   have ha2 : ∀ W : World, (Op.stringOp .add (bytes (40 :: t)) ⟨#[41]⟩).run Tryd.prog W = .ok (.string (bytes (40 :: t ++ [41]))) W := fun W => by
    rw [run_string_add_sum (P := Tryd.prog) (w := W) _ _ (by rw [bytes_size, List.length_cons, show (⟨#[41]⟩ : ByteArray).size = 1 from rfl]; omega)]
    exact congrArg (fun x => Result.ok (Value.string x) W) (bytes_append (40 :: t) [41])
   have HCAP := Lib.hid hcap
   have HR := Lib.hid hR
   have HV := Lib.hid hv
   have HV' := Lib.hid hv'
   have HTX := Lib.hid ht
   have HOWN := Lib.hid hown
   have hcap2 : (k : Int) ≤ 1000000 := by omega
   have HG := Lib.hid (argTexts_get op args 0 k hlt)
   clear hcells hR hrow hcap hv hv' ht hown htm hnn htl
   cases hin : innerB op k args[k].op
   all_goals
    have HIN := Lib.hid hin
    clear hin
    go_wp2_with (first
     | (go_at_call 31; ((with_reducible refine (IH.out k hlt _ wr HR.out).mono ?_); rintro e w2 ⟨rfl, hb2⟩; rw [← HTX.out]; have hbel2 := Below.step hbel hb2; have c0' := cell_step c0 hb2; have c1' := cell_step c1 hb2; have c2' := cell_step c2 hb2; have c3' := cell_step c3 hb2; clear d0 d1 d2 d3 c0 c1 c2 c3))
     | (go_at_call 41; ((with_reducible refine (inner_any op num name _ args k _ hlt (HV'.out.below hb2 fun a cs _ h => ExprRep.below hb2 a h) HCAP.out).mono ?_); rintro e w3 ⟨rfl, hb3⟩; rw [HIN.out]; have hbel3 := Below.step hbel2 hb3; have c0'' := cell_step c0' hb3; have c1'' := cell_step c1' hb3; have c2'' := cell_step c2' hb3; have c3'' := cell_step c3' hb3; have hb23 := Below.step hb2 hb3; clear c0' c1' c2' c3'))
     | (at_builtin; refine wpList_append_own _ rfl _ _ 31 rfl (w.heap.size + 1) 9 i0 _ 1 16 Tryd.underlying31 hi hz0 hz1 hz2 rfl (by decide) _ k (strCells ((argTexts op 0 args).take k)) rfl (ownsRow_below HOWN.out (hb23.alloc hb23.size _) (Nat.le_refl _)) ⟨w3.heap.size, 0, none⟩ 1 1 [_] rfl rfl (new_cells _ _ _) (by simp [Value.oneCell']) (by unfold maxLen; omega) (by omega) (by have := hb23.size; simp; omega) ?_))
    intro v' w4 hown4 hgrow _
    have hb4 : Below (w.heap.size + 1) w3 w4 := Below.grow ((Below.refl _ _).alloc (by have := hb23.size; omega) _) hgrow (by have := hb23.size; simp; omega) (ownsRow_below HOWN.out (hb23.alloc hb23.size _) (Nat.le_refl _)) (Nat.le_refl _)
    clear hgrow
    have hz3 : w.heap.size + 1 ≤ w3.heap.size := by have := hb23.size; omega
    have b0 := cell_stepB c0'' hb4 (by simp)
    have b1 := cell_stepB c1'' hb4 (by simp)
    have b2 := cell_stepB c2'' hb4 (by simp)
    have b3 := cell_stepB c3'' hb4 (by simp)
    have hbel4 : Below w.heap.size w w4 := hbel3.trans (hb4.mono (by omega))
    clear c0'' c1'' c2'' c3''
    go_wp2_with fail
    go_roundw
    case rel =>
     refine ⟨k + 1, by go_num, by omega, ?_, hbel4, by have := hb4.size; omega, b0, b1, b2, b3⟩
     have hg := HG.out
     rw [Nat.zero_add, HIN.out, ← HTX.out] at hg
     rw [← strCells_snoc _ _ _ hg]
     simpa using hown4
    case measure => simp [intOf]; omega
  ·have hke : k = args.length := by omega
   subst hke
   have hge : ¬ ((args.length : Int) < args.length) := by omega
   have hat : (argTexts op 0 args).take args.length = argTexts op 0 args := List.take_of_length_le (by rw [argTexts_len]; omega)
   rw [hat] at hown
   obtain ⟨ua, uc, rfl, huc, hur⟩ := RowAt.of_owns hown
   have hlen := exprText_len _ (.mk op num name args) (Nat.le_refl _) HT.out
   rw [AExpr.nodes] at hlen
   have hNN := HN.out
   have HUR := Lib.hid hur
   have HAT := Lib.hid hat
   have HOWN := Lib.hid hown
   have HV := Lib.hid hv
   clear hur hat hown hv
   rcases op_cases HSH.out with ⟨rfl, rfl, h0⟩ | ⟨rfl, rfl⟩ | ⟨rfl, e, rfl⟩ | ⟨rfl, e, rfl⟩ | ⟨s, hs5, hso, e0, e1, rfl⟩
   ·have hnb : num ≤ 9223372036854775807 := by have := HT.out; rw [AExpr.tame] at this; omega
    go_wp2_with (go_at_call 53; ((with_reducible refine (number_ref num _ (by omega) hnb).mono ?_); rintro e w2 ⟨rfl, hb2⟩))
    go_ret
    refine ⟨ret_str ?_, Below.step hbel hb2⟩
    rw [exprText, opJoin, if_pos rfl]
   ·go_wp2_with fail
    go_ret
    refine ⟨ret_str ?_, hbel⟩
    rw [exprText, opJoin, if_neg (by decide), if_pos rfl, bytes_back]
   ·obtain ⟨x, hx⟩ : ∃ x, argTexts 3 0 [e] = [x] := ⟨_, by rw [argTexts, argTexts]⟩
    have hxl : x.length + 3 ≤ 3000000000000 := by
     rw [exprText, opJoin, hx, if_neg (by decide), if_neg (by decide), if_pos rfl] at hlen
     simp at hlen; omega
    rw [hx] at HUR
    rcases HUR.out with h0 | ⟨b, off, rfl, hr⟩
    ·cases h0
    have d0 := hr 0 (.string (bytes x)) rfl
    rw [Nat.add_zero] at d0
    have ha1 : ∀ W : World, (Op.stringOp .add ⟨#[45]⟩ (bytes x)).run Tryd.prog W = .ok (.string (bytes (45 :: x))) W := fun W => by
     rw [run_string_add_sum (P := Tryd.prog) (w := W) _ _ (by rw [bytes_size, show (⟨#[45]⟩ : ByteArray).size = 1 from rfl]; omega)]
     exact congrArg (fun x => Result.ok (Value.string x) W) (bytes_append [45] x)
    have HX := Lib.hid hx
    clear hr hx
    go_wp2_with fail
    go_ret
    refine ⟨ret_str ?_, hbel⟩
    rw [exprText, opJoin, HX.out, if_neg (by decide), if_neg (by decide), if_pos rfl]; rfl
   ·obtain ⟨x, hx⟩ : ∃ x, argTexts 4 0 [e] = [x] := ⟨_, by rw [argTexts, argTexts]⟩
    have hxl : x.length + 3 ≤ 3000000000000 := by
     rw [exprText, opJoin, hx, if_neg (by decide), if_neg (by decide), if_neg (by decide), if_pos rfl] at hlen
     simp at hlen; omega
    rw [hx] at HUR
    rcases HUR.out with h0 | ⟨b, off, rfl, hr⟩
    ·cases h0
    have d0 := hr 0 (.string (bytes x)) rfl
    rw [Nat.add_zero] at d0
    have ha1 : ∀ W : World, (Op.stringOp .add ⟨#[33]⟩ (bytes x)).run Tryd.prog W = .ok (.string (bytes (33 :: x))) W := fun W => by
     rw [run_string_add_sum (P := Tryd.prog) (w := W) _ _ (by rw [bytes_size, show (⟨#[33]⟩ : ByteArray).size = 1 from rfl]; omega)]
     exact congrArg (fun x => Result.ok (Value.string x) W) (bytes_append [33] x)
    have HX := Lib.hid hx
    clear hr hx
    go_wp2_with fail
    go_ret
    refine ⟨ret_str ?_, hbel⟩
    rw [exprText, opJoin, HX.out, if_neg (by decide), if_neg (by decide), if_neg (by decide), if_pos rfl]; rfl
   ·obtain ⟨x, y, hx⟩ : ∃ x y, argTexts op 0 [e0, e1] = [x, y] := ⟨_, _, by rw [argTexts, argTexts, argTexts]⟩
    have hst := strength_in s hs5 op hso
    have hn1 : ¬ op = 1 := by rintro rfl; simp [strengthN] at hst; omega
    have hn2 : ¬ op = 2 := by rintro rfl; simp [strengthN] at hst; omega
    have hn3 : ¬ op = 3 := by rintro rfl; simp [strengthN] at hst; omega
    have hn4 : ¬ op = 4 := by rintro rfl; simp [strengthN] at hst; omega
    have htext : exprText (.mk op num name [e0, e1]) = x ++ [32] ++ opSign op ++ [32] ++ y := by
     rw [exprText, opJoin, hx, if_neg hn1, if_neg hn2, if_neg hn3, if_neg hn4, if_pos (by omega)]; rfl
    rw [htext] at hlen
    have hxl : x.length + y.length + 8 ≤ 3000000000000 := by simp at hlen; omega
    rw [hx] at HUR
    rcases HUR.out with h0 | ⟨b, off, rfl, hr⟩
    ·cases h0
    have d0 := hr 0 (.string (bytes x)) rfl
    have d1 := hr 1 (.string (bytes y)) rfl
    rw [Nat.add_zero] at d0
    have b1 : (op == 1) = false := by rw [beq_eq_false_iff_ne]; exact hn1
    have b2 : (op == 2) = false := by rw [beq_eq_false_iff_ne]; exact hn2
    have b3 : (op == 3) = false := by rw [beq_eq_false_iff_ne]; exact hn3
    have b4 : (op == 4) = false := by rw [beq_eq_false_iff_ne]; exact hn4
    have HX := Lib.hid hx
    have HST := Lib.hid hst
    have HSO := Lib.hid hso
    have HTT := Lib.hid htext
    clear hr hx hn1 hn2 hn3 hn4 hst hso htext hlen
    go_wp2_with (first
     | (go_at_call 42; ((with_reducible refine (strength_any _ _).mono ?_); rintro e w2 ⟨rfl, hb2⟩; rw [HST.out]; have c0' := cell_step c0 hb2; have d0' := cell_step d0 hb2; have d1' := cell_step d1 hb2; have hbel2 := Below.step hbel hb2; clear c1 c2 c3 c0 d0 d1))
     | (go_at_call 54; ((with_reducible refine (signs_any s _ hs5).mono ?_); rintro e w3 ⟨⟨sv, su, rfl, hsv, hsu⟩, hb3⟩; have c0'' := cell_step c0' hb3; have d0'' := cell_step d0' hb3; have d1'' := cell_step d1' hb3; have hbel3 := Below.step hbel2 hb3; obtain ⟨va, vc, rfl, hvc, hvr⟩ := hsv; obtain ⟨oa, oc, rfl, hoc, hor⟩ := hsu; have HVR := Lib.hid hvr; have HOR := Lib.hid hor; clear c0' d0' d1' hvr hor)))
    have hll : (signsO s).length ≤ 6 := signsO_len s
    have hlv := signsS_len s
    go_loopw [8] (fun v wr' => txR2 op s w3 v wr') (fun v _ => (signsO s).length - (intOf v).toNat)
    case atStart => exact ⟨0, 0, rfl, by omega, by simp, rfl⟩
    case round =>
     obtain ⟨i, n, rfl, hi, hni, rfl⟩ := hrel
     have hil : i < (signsO s).length := by
      rcases Nat.lt_or_ge i (signsO s).length with h | h
      ·exact h
      ·rw [List.take_of_length_le h] at hni; exact absurd HSO.out hni
     have hil' : i < (signsS s).length := by omega
     rcases HOR.out with h0 | ⟨ob, oo, rfl, hr⟩
     ·exfalso; have := congrArg List.length h0; simp at this; rw [this] at hil; simp at hil
     have hcell := hr i (.int .i64 (signsO s)[i]) (by simp [hil])
     rcases HVR.out with h0 | ⟨vb, vo, rfl, hr2⟩
     ·exfalso; have := congrArg List.length h0; simp at this; rw [this] at hil'; simp at hil'
     have hcell2 := hr2 i (.string (signsS s)[i]) (by simp [hil'])
     have HNI := Lib.hid hni
     clear hr hr2 hni
     by_cases he : (signsO s)[i] = op
     ·have hsg := sign_at s hs5 op i hil hil' he
      have hol := opSign_len op
      obtain ⟨t1, ht1, hl1, ha1⟩ := add_opaque x [32] ⟨#[32]⟩ rfl (by simp; omega)
      obtain ⟨t2, ht2, hl2, ha2⟩ := add_opaque t1 (opSign op) (bytes (opSign op)) rfl (by simp at hl1 ⊢; omega)
      obtain ⟨t3, ht3, hl3, ha3⟩ := add_opaque t2 [32] ⟨#[32]⟩ rfl (by simp at hl1 hl2 ⊢; omega)
      obtain ⟨t4, ht4, hl4, ha4⟩ := add_opaque t3 y (bytes y) rfl (by simp at hl1 hl2 hl3 ⊢; omega)
      have HT4 := Lib.hid (show t4 = x ++ [32] ++ opSign op ++ [32] ++ y by rw [ht4, ht3, ht2, ht1])
      clear ht1 ht2 ht3 ht4 hl1 hl2 hl3 hl4
      rw [hsg] at hcell2
      rw [he] at hcell
      have hq : (op == op) = true := by simp
      clear he hsg
      go_wp2_with fail
      go_quiet (fail)
      go_wp2_with fail
      go_quiet (fail)
      go_wp2_with fail
      go_ret
      refine ⟨ret_str ?_, below_drewN (below_drewN (below_drewN hbel3))⟩
      rw [HTT.out, HT4.out]
     ·have hq : ((signsO s)[i] == op) = false := by simpa using he
      have HE := Lib.hid he
      clear he
      go_wp2_with fail
      go_quiet (fail)
      go_wp2_with fail
      go_roundw
      case rel => exact ⟨i + 1, _, by go_num, by omega, by rw [List.take_succ_eq_append_getElem hil]; simp only [List.mem_append, List.mem_singleton, not_or]; exact ⟨HNI.out, fun h => HE.out h.symm⟩, rfl⟩
      case measure => simp [intOf]; omega
theorem etext_any : ∀ (N : Nat) (e : AExpr), e.nodes ≤ N → N ≤ 1000000 → e.tame → shapeB e = true → ∀ (cs : List Value) (w : World), ExprRep w e cs →
  Calls Tryd.prog 31 #[.agg cs.toArray] w fun r w' => r = .returned (.string (bytes (exprText e))) ∧ Below w.heap.size w w'
 | 0, .mk op num name args, hN, _, _, _, _, _, _ => by rw [AExpr.nodes] at hN; omega
 | N + 1, .mk op num name args, hN, hM, ht, hs, cs, w, hr => by
  rw [AExpr.nodes] at hN
  obtain ⟨v, rfl, hv⟩ := exprRep_iff.1 hr
  have hs' := hs
  rw [shapeB, Bool.and_eq_true] at hs'
  have ht' := ht
  rw [AExpr.tame] at ht'
  exact text_node op num name v args w (by omega) ht hs hv fun k hk cs w' hr' => etext_any N args[k] (by have := nodesL_get args k hk; omega) (by omega) (tameL_get _ ht'.2.2 k hk) ((shapesB_iff args).1 hs'.2 k hk) cs w' hr'
end Go.Proofs.YtiimofjemiffgaaDoor
namespace Go.Proofs.YtiimofjemiffgaaDoor
open Go.RowKit
mutual
theorem tame_small : ∀ (e : AExpr), e.tame → e.small
 | .mk op num name args, h => by
  rw [AExpr.tame] at h; rw [AExpr.small]
  exact ⟨Nat.le_trans h.2.1 (by decide), tameL_small args h.2.2⟩
theorem tameL_small : ∀ (l : List AExpr), tameL l → smallL l
 | [], _ => by rw [smallL]; trivial
 | e :: es, h => by rw [tameL] at h; rw [smallL]; exact ⟨tame_small e h.1, tameL_small es h.2⟩
end
theorem nameB_size {s : ByteArray} (h : nameB s = true) : s.size ≤ 16 := by
 unfold nameB at h
 split at h
 ·cases h
 ·simp only [Bool.and_eq_true, decide_eq_true_eq] at h; exact h.1.2
def AExpr.fine (e : AExpr) : Prop := e.nodes ≤ 1000000 ∧ e.tame ∧ shapeB e = true
theorem text_fine (e : AExpr) (cs : List Value) (w : World) (h : e.fine) (hr : ExprRep w e cs) :
  Calls Tryd.prog 31 #[.agg cs.toArray] w fun r w' => r = .returned (.string (bytes (exprText e))) ∧ Below w.heap.size w w' :=
 etext_any e.nodes e (Nat.le_refl _) h.1 h.2.1 h.2.2 cs w hr
end Go.Proofs.YtiimofjemiffgaaDoor
