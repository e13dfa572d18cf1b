import Derived.Test.YtiimofjemiffgaaDoorB3J
set_option linter.unusedVariables false
set_option linter.unusedSimpArgs false
namespace Go.Proofs.YtiimofjemiffgaaDoor
open Go.RowKit
theorem height_le : ∀ (N : Nat) (e : AExpr), e.nodes ≤ N → heightN e + 1 ≤ 2 * e.nodes
 | 0, .mk op num name args, h => by rw [AExpr.nodes] at h; omega
 | N + 1, .mk op num name args, h => by
  rw [AExpr.nodes] at h
  have key : ∀ (l : List AExpr) (k : Nat), nodesL l ≤ N → argsHeight op k l ≤ 2 * nodesL l := by
   intro l
   induction l with
   | nil => intro k _; rw [argsHeight]; omega
   | cons e es ih =>
    intro k hl
    rw [nodesL] at hl ⊢
    rw [argsHeight]
    have h1 := height_le N e (by omega)
    have h2 := ih (k + 1) (by omega)
    split <;> omega
  have := key args 0 (by omega)
  rw [heightN, AExpr.nodes]
  split <;> omega
def heR (op num : Int) (name : ByteArray) (w : World) (args : List AExpr) (cap : Nat) (a : Option Addr) (u v : Value) (wr : World) : Prop :=
 ∃ k h : Nat, v = .int .i64 k ∧ u = .int .i64 h ∧ k ≤ args.length ∧ max h (argsHeight op k (args.drop k)) = argsHeight op 0 args ∧ Below w.heap.size w wr ∧ wr.cell? ⟨w.heap.size, 0, none⟩ = some (.int .i64 op) ∧ wr.cell? ⟨w.heap.size, 1, none⟩ = some (.int .i64 num) ∧ wr.cell? ⟨w.heap.size, 2, none⟩ = some (.string name) ∧ wr.cell? ⟨w.heap.size, 3, none⟩ = some (.slice a args.length cap)
set_option maxRecDepth 100000 in
set_option maxHeartbeats 4000000 in
theorem height_node (op num : Int) (name : ByteArray) (v : Value) (args : List AExpr) (w : World) (hN : nodesL args ≤ 1000000) (hv : ListRep w (ExprRep w) 4 v args)
  (ih : ∀ k (hk : k < args.length) (cs : List Value) (w' : World), ExprRep w' args[k] cs → Calls Tryd.prog 22 #[.agg cs.toArray] w' fun r w'' => r = .returned (.int .i64 (heightN args[k])) ∧ Below w'.heap.size w' w'') :
  Calls Tryd.prog 22 #[.agg #[.int .i64 op, .int .i64 num, .string name, v]] w fun r w' => r = .returned (.int .i64 (heightN (.mk op num name args))) ∧ Below w.heap.size w w' := by
 have hlen := nodesL_len args
 obtain ⟨a, cap, rfl, hc⟩ := hv.slice
 have IH := Lib.hid ih
 clear ih
 have HNL := Lib.hid hN
 have HLEN := Lib.hid hlen
 clear hN hlen
 go_enter Tryd.func22, Tryd.ntmps22
 go_wp2_with fail
 go_loopw [3, 4] (fun u v wr => heR op num name w args cap a u v wr) (fun _ v _ => args.length - (intOf v).toNat)
 case atStart => exact ⟨0, 0, rfl, rfl, by omega, by simp, by go_grown, by go_simp, by go_simp, by go_simp, by go_simp⟩
 case round =>
  obtain ⟨k, h, rfl, rfl, hk, hmax, hbel, c0, c1, c2, c3⟩ := hrel
  have hle : h ≤ 3000000 := by
   have h1 := height_le _ (.mk op num name args) (Nat.le_refl _)
   have h2 := HNL.out
   have h3 : h ≤ argsHeight op 0 args := by rw [← hmax]; exact Nat.le_max_left ..
   have h4 : argsHeight op 0 args ≤ heightN (.mk op num name args) := by rw [heightN]; exact Nat.le_add_right ..
   rw [AExpr.nodes] at h1
   omega
  by_cases hlt : k < args.length
  ·have hlt' : (k : Int) < args.length := by omega
   have hv' := hv.below hbel fun a cs _ h => ExprRep.below hbel a h
   obtain ⟨b, off, cap', row, hsl, hc', hR, hrow, hblt, hcells⟩ := hv'.get (by omega) hlt
   cases hsl
   obtain ⟨e0, e1, e2, e3, rfl⟩ : ∃ e0 e1 e2 e3, row = [e0, e1, e2, e3] := by
    match row, hrow with
    | [e0, e1, e2, e3], _ => exact ⟨_, _, _, _, rfl⟩
   have d0 := hcells 0 _ rfl
   have d1 := hcells 1 _ rfl
   have d2 := hcells 2 _ rfl
   have d3 := hcells 3 _ rfl
   rw [Nat.add_zero] at d0
   have hstep : max (max h (heightN args[k] + if innerB op k args[k].op then 1 else 0)) (argsHeight op (k + 1) (args.drop (k + 1))) = argsHeight op 0 args := by
    rw [← hmax, List.drop_eq_getElem_cons hlt, argsHeight]
    omega
   have hnk : heightN args[k] ≤ 2000000 := by
    have h1 := height_le _ args[k] (Nat.le_refl _)
    have h2 := nodesL_get args k hlt
    have h3 := HNL.out
    omega
   have hcap : args.length ≤ 1000000 := by have := HNL.out; have := HLEN.out; omega
   have HCAP := Lib.hid hcap
   have HSTEP := Lib.hid hstep
   have HMAX := Lib.hid hmax
   have HR := Lib.hid hR
   have HV := Lib.hid hv
   have HV' := Lib.hid hv'
   obtain ⟨m, hm⟩ : ∃ m, m = heightN args[k] := ⟨_, rfl⟩
   have HM := Lib.hid hm
   have hk1 : IntKind.i64.wrap ((k : Int) + 1) = (k : Int) + 1 := by simp [IntKind.wrap_i64]; omega
   rw [← hm] at hnk
   have hm1 : IntKind.i64.wrap ((m : Int) + 1) = (m : Int) + 1 := by simp [IntKind.wrap_i64]; omega
   clear hcells hR hrow hstep hcap hmax hv hv' hm
   go_wp2_with (first
    | (go_at_call 22; ((with_reducible refine (IH.out k hlt _ wr HR.out).mono ?_); rintro e w2 ⟨rfl, hb2⟩; rw [← HM.out]; have hbel2 := Below.step hbel hb2; have c0' := cell_step c0 hb2; have c1' := cell_step c1 hb2; have c2' := cell_step c2 hb2; have c3' := cell_step c3 hb2; clear d0 d1 d2 d3 c0 c1 c2 c3))
    | (go_at_call 41; ((with_reducible refine (inner_any op num name _ args k _ hlt (HV'.out.below hb2 fun a cs _ h => ExprRep.below hb2 a h) HCAP.out).mono ?_); rintro e w3 ⟨rfl, hb3⟩; have hbel3 := Below.step hbel2 hb3; have c0'' := cell_step c0' hb3; have c1'' := cell_step c1' hb3; have c2'' := cell_step c2' hb3; have c3'' := cell_step c3' hb3; clear c0' c1' c2' c3')))
   all_goals
    rename_i hin
    have HIN := Lib.hid hin
    clear hin
   ·refine ⟨⟨k + 1, max h (m + 1), rfl, congrArg _ (by omega), by omega, ?_, hbel3, c0'', c1'', c2'', c3''⟩, by simp [intOf]; omega⟩
    have := HSTEP.out
    rw [HIN.out, ← HM.out] at this
    exact this
   ·refine ⟨⟨k + 1, max h m, rfl, congrArg _ (by omega), by omega, ?_, hbel3, c0'', c1'', c2'', c3''⟩, by simp [intOf]; omega⟩
    have := HSTEP.out
    rw [HIN.out, ← HM.out] at this
    exact this
  ·have hke : k = args.length := by omega
   subst hke
   have hfin : h = argsHeight op 0 args := by
    rw [← hmax, List.drop_of_length_le (Nat.le_refl _), argsHeight]; omega
   have HFIN := Lib.hid hfin
   have HMAX := Lib.hid hmax
   have hh1 : IntKind.i64.wrap ((h : Int) + 1) = (h : Int) + 1 := by simp [IntKind.wrap_i64]; omega
   clear hfin hmax hv
   obtain ⟨s, hs⟩ : ∃ s, s = strengthN op := ⟨_, rfl⟩
   have HS := Lib.hid hs
   clear hs
   by_cases h5 : s = 5
   ·have h5' : ((s : Int) == 5) = true := by rw [h5]; rfl
    have H5 := Lib.hid h5
    clear h5
    go_wp2_with (go_at_call 42; ((with_reducible refine (strength_any _ _).mono ?_); rintro e w2 ⟨rfl, hb2⟩; rw [← HS.out]; have hbel2 := Below.step hbel hb2))
    go_ret
    refine ⟨ret_int ?_, hbel2⟩
    rw [heightN, if_pos (HS.out ▸ H5.out), ← HFIN.out]; simp
   ·have h5' : ((s : Int) == 5) = false := by rw [beq_eq_false_iff_ne]; omega
    have H5 := Lib.hid h5
    clear h5
    go_wp2_with (go_at_call 42; ((with_reducible refine (strength_any _ _).mono ?_); rintro e w2 ⟨rfl, hb2⟩; rw [← HS.out]; have hbel2 := Below.step hbel hb2))
    go_ret
    refine ⟨ret_int ?_, hbel2⟩
    rw [heightN, if_neg (HS.out ▸ H5.out), ← HFIN.out]; simp
theorem height_any : ∀ (N : Nat) (e : AExpr), e.nodes ≤ N → N ≤ 1000000 → ∀ (cs : List Value) (w : World), ExprRep w e cs →
  Calls Tryd.prog 22 #[.agg cs.toArray] w fun r w' => r = .returned (.int .i64 (heightN e)) ∧ Below w.heap.size w w'
 | 0, .mk op num name args, hN, _, _, _, _ => by rw [AExpr.nodes] at hN; omega
 | N + 1, .mk op num name args, hN, hM, cs, w, hr => by
  rw [AExpr.nodes] at hN
  obtain ⟨v, rfl, hv⟩ := exprRep_iff.1 hr
  exact height_node op num name v args w (by omega) hv fun k hk cs w' hr' => height_any N args[k] (by have := nodesL_get args k hk; omega) (by omega) cs w' hr'
end Go.Proofs.YtiimofjemiffgaaDoor
namespace Go.Proofs.YtiimofjemiffgaaDoor
open Go.RowKit
set_option maxRecDepth 100000 in
set_option maxHeartbeats 4000000 in
theorem validExpr_any (e : AExpr) (cs : List Value) (w : World) (hN : e.nodes ≤ 1000000) (hs : e.small) (hr : ExprRep w e cs) :
  Calls Tryd.prog 30 #[.agg cs.toArray] w fun r w' => r = .returned (.bool (validExpr e)) ∧ Below w.heap.size w w' := by
 obtain ⟨op, num, name, args⟩ := e
 obtain ⟨v, rfl, hv⟩ := exprRep_iff.1 hr
 have HN := Lib.hid hN
 have HS := Lib.hid hs
 have HR := Lib.hid hr
 have SH := Lib.hid (fun w' (hb : Below w.heap.size w w') => shape_any _ (.mk op num name args) (Nat.le_refl _) hs _ w' (ExprRep.below hb _ hr))
 have HE := Lib.hid (fun w' (hb : Below w.heap.size w w') => height_any _ (.mk op num name args) (Nat.le_refl _) hN _ w' (ExprRep.below hb _ hr))
 clear hN hs hr
 obtain ⟨q, hq⟩ : ∃ q, q = shapeB (.mk op num name args) := ⟨_, rfl⟩
 obtain ⟨h, hh⟩ : ∃ h, h = heightN (.mk op num name args) := ⟨_, rfl⟩
 have HQ := Lib.hid hq
 have HH := Lib.hid hh
 have HV := Lib.hid hv
 clear hv
 rw [validExpr, ← hq, ← hh]
 clear hq hh
 cases q
 all_goals
  go_enter Tryd.func30, Tryd.ntmps30
  go_wp2_with (first
   | (go_at_call 52; ((with_reducible refine (SH.out _ (by go_grown)).mono ?_); rintro e w1 ⟨rfl, hb1⟩; rw [← HQ.out]; have hbel1 : Below w.heap.size w w1 := Below.step (w := w) (by go_grown) hb1; obtain ⟨hcc, hcf⟩ := bcell hb1; have c0 : w1.cell? ⟨w.heap.size, 0, none⟩ = some (.int .i64 op) := (by rw [hcc _ _ (by simp)]; go_simp); have c1 : w1.cell? ⟨w.heap.size, 1, none⟩ = some (.int .i64 num) := (by rw [hcc _ _ (by simp)]; go_simp); have c2 : w1.cell? ⟨w.heap.size, 2, none⟩ = some (.string name) := (by rw [hcc _ _ (by simp)]; go_simp); have c3 : w1.cell? ⟨w.heap.size, 3, none⟩ = some v := (by rw [hcc _ _ (by simp)]; go_simp); clear hcc hcf hb1))
   | (go_at_call 22; ((with_reducible refine (HE.out _ hbel1).mono ?_); rintro e w2 ⟨rfl, hb2⟩; rw [← HH.out]; have hbel2 : Below w.heap.size w w2 := Below.step hbel1 hb2)))
 go_ways
 all_goals
  go_ret
  refine ⟨ret_bool ?_, by assumption⟩
  first | (simp; done) | (simp; omega)
end Go.Proofs.YtiimofjemiffgaaDoor
namespace Go.Proofs.YtiimofjemiffgaaDoor
mutual
def AExpr.tame : AExpr → Prop
 | .mk _ num name args => num.natAbs < 9223372036854775808 ∧ name.size ≤ 1048576 ∧ tameL args
def tameL : List AExpr → Prop
 | [] => True
 | e :: es => e.tame ∧ tameL es
end
theorem tameL_get : ∀ (l : List AExpr), tameL l → ∀ k (h : k < l.length), l[k].tame
 | [], _, k, h => by simp at h
 | e :: es, hs, 0, h => by rw [tameL] at hs; exact hs.1
 | e :: es, hs, k + 1, h => by rw [tameL] at hs; exact tameL_get es hs.2 k (by simpa using h)
def sumLen : List (List UInt8) → Nat
 | [] => 0
 | t :: ts => t.length + sumLen ts
theorem sumLen_0 (ts : List (List UInt8)) : (ts.getD 0 []).length ≤ sumLen ts := by
 cases ts with
 | nil => simp [sumLen]
 | cons t ts => simp [sumLen]
theorem sumLen_01 (ts : List (List UInt8)) : (ts.getD 0 []).length + (ts.getD 1 []).length ≤ sumLen ts := by
 match ts with
 | [] => simp [sumLen]
 | [t] => simp [sumLen]
 | t :: u :: ts => first | (simp [sumLen]; done) | (simp [sumLen]; omega)
theorem ite_len {c : Prop} [Decidable c] {l r : List UInt8} {n : Nat} (h1 : l.length ≤ n) (h2 : r.length ≤ n) : (if c then l else r).length ≤ n := by
 by_cases h : c
 ·rw [if_pos h]; exact h1
 ·rw [if_neg h]; exact h2
theorem opSign_len (op : Int) : (opSign op).length ≤ 2 := by
 unfold opSign
 repeat' (with_reducible apply ite_len)
 all_goals decide
theorem opJoin_len (op num : Int) (name : ByteArray) (ts : List (List UInt8)) (h1 : num.natAbs < 9223372036854775808) (h2 : name.size ≤ 1048576) :
  (opJoin op num name ts).length ≤ 1048576 + sumLen ts := by
 have a0 := sumLen_0 ts
 have a1 := sumLen_01 ts
 have a2 := opSign_len op
 have a3 : (numberL num).length ≤ 21 := by
  have := digitsL_len20 _ (Nat.lt_trans h1 (by decide))
  unfold numberL
  split <;> simp <;> omega
 have a4 : name.data.toList.length = name.size := rfl
 unfold opJoin
 repeat' (with_reducible apply ite_len)
 all_goals ((try simp only [List.length_append, List.length_cons, List.length_nil]); omega)
theorem exprText_len : ∀ (N : Nat) (e : AExpr), e.nodes ≤ N → e.tame → (exprText e).length + 2 ≤ e.nodes * 2000000
 | 0, .mk op num name args, h, _ => by rw [AExpr.nodes] at h; omega
 | N + 1, .mk op num name args, h, ht => by
  rw [AExpr.nodes] at h
  rw [AExpr.tame] at ht
  have key : ∀ (l : List AExpr) (k : Nat), nodesL l ≤ N → tameL l → sumLen (argTexts op k l) ≤ nodesL l * 2000000 := by
   intro l
   induction l with
   | nil => intro k _ _; rw [argTexts, sumLen]; omega
   | cons e es ih =>
    intro k hl hm
    rw [nodesL] at hl ⊢
    rw [tameL] at hm
    rw [argTexts, sumLen]
    have h1 := exprText_len N e (by omega) hm.1
    have h2 := ih (k + 1) (by omega) hm.2
    split
    ·simp only [List.length_append, List.length_cons, List.length_nil]; omega
    ·omega
  have h1 := key args 0 (by omega) ht.2.2
  have h2 := opJoin_len op num name (argTexts op 0 args) ht.1 ht.2.1
  rw [exprText, AExpr.nodes]
  omega
end Go.Proofs.YtiimofjemiffgaaDoor
