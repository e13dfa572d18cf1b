import Derived.Test.YtiimofjemiffgaaDoorSameEJ
import Derived.Deep.QuietTactic
import Derived.BigQuiet
import Derived.Test.YtiimofjemiffgaaDoorB4J
import Derived.Test.YtiimofjemiffgaaDoorA4J
set_option linter.unusedVariables false
set_option linter.unusedSimpArgs false
namespace Go.Proofs.YtiimofjemiffgaaDoor
open Go.RowKit
def signsAll : List ByteArray := [⟨#[]⟩, ⟨#[]⟩, ⟨#[]⟩, ⟨#[45]⟩, ⟨#[33]⟩, ⟨#[42]⟩, ⟨#[47]⟩, ⟨#[37]⟩, ⟨#[43]⟩, ⟨#[45]⟩, ⟨#[60]⟩, ⟨#[60, 61]⟩, ⟨#[62]⟩, ⟨#[62, 61]⟩, ⟨#[61, 61]⟩, ⟨#[33, 61]⟩, ⟨#[38, 38]⟩, ⟨#[124, 124]⟩]
structure EnvS (w : World) : Prop where
 signs : ∀ j (h : j < signsAll.length), w.cell? ⟨0, j, none⟩ = some (.string signsAll[j])
theorem EnvS.keep {L : List Nat} {w w' : World} (h : EnvS w) (hk : Keep L w w') (hn : 0 ∉ L) : EnvS w' :=
 ⟨fun j hj => by rw [hk.cell (cell_lt (h.signs j hj)) hn]; exact h.signs j hj⟩
theorem EnvS.below {w w' : World} (h : EnvS w) (hb : Below w.heap.size w w') : EnvS w' := h.keep (L := []) (Keep.of_below hb) (by simp)
def strE (op : Int) : Nat := if op = 17 then 1 else if op = 16 then 2 else if 10 ≤ op ∧ op ≤ 15 then 3 else if op = 8 ∨ op = 9 then 4 else if 5 ≤ op ∧ op ≤ 7 then 5 else if op = 3 ∨ op = 4 then 6 else if op = 1 ∨ op = 2 then 7 else 0
theorem strE_sign : ∀ j (h : j < signsAll.length), j ≠ 1 → j ≠ 2 → j ≠ 3 → j ≠ 4 → (binOp signsAll[j]).2 = strE j := by decide
theorem strE_out (op : Int) (h : op < 0 ∨ 18 ≤ op) : strE op = 0 := by
 unfold strE
 repeat rw [if_neg (by omega)]
theorem strE_in (op : Int) (h : 1 ≤ op ∧ op ≤ 17) : strE op = strengthN op + 1 := by
 unfold strE strengthN
 split
 ·rfl
 ·split
  ·rfl
  ·split
   ·rfl
   ·split
    ·rfl
    ·split
     ·rfl
     ·split
      ·rfl
      ·rw [if_pos (by omega)]
set_option maxRecDepth 100000 in
set_option maxHeartbeats 1600000 in
theorem strengthE (op : Int) (w : World) (he : EnvS w) : Calls Tryd.prog 40 #[.int .i64 op] w fun e w' => e = .returned (.int .i64 (strE op)) ∧ w = w' := by
 have HE := Lib.hid he
 clear he
 by_cases h1 : op = 1
 ·subst h1
  go_enter Tryd.func40, Tryd.ntmps40
  go_wp2_with fail
  go_ret
  exact ⟨rfl, rfl⟩
 by_cases h2 : op = 2
 ·subst h2
  go_enter Tryd.func40, Tryd.ntmps40
  go_wp2_with fail
  go_ret
  exact ⟨rfl, rfl⟩
 by_cases h3 : op = 3
 ·subst h3
  go_enter Tryd.func40, Tryd.ntmps40
  go_wp2_with fail
  go_ret
  exact ⟨rfl, rfl⟩
 by_cases h4 : op = 4
 ·subst h4
  go_enter Tryd.func40, Tryd.ntmps40
  go_wp2_with fail
  go_ret
  exact ⟨rfl, rfl⟩
 have b1 : (op == 1) = false := by simpa using h1
 have b2 : (op == 2) = false := by simpa using h2
 have b3 : (op == 3) = false := by simpa using h3
 have b4 : (op == 4) = false := by simpa using h4
 by_cases hneg : op < 0
 ·have hd : decide (op < 0) = true := by simpa using hneg
  have hs := strE_out op (.inl hneg)
  rw [hs]
  clear hs h1 h2 h3 h4
  go_enter Tryd.func40, Tryd.ntmps40
  go_wp2_with fail
  go_ret
  exact ⟨rfl, rfl⟩
 have hd : decide (op < 0) = false := by simpa using hneg
 by_cases hbig : 18 ≤ op
 ·have hd2 : decide (18 ≤ op) = true := by simpa using hbig
  have hs := strE_out op (.inr hbig)
  rw [hs]
  clear hs h1 h2 h3 h4
  go_enter Tryd.func40, Tryd.ntmps40
  go_wp2_with fail
  go_ret
  exact ⟨rfl, rfl⟩
 obtain ⟨j, rfl⟩ : ∃ j : Nat, op = j := ⟨op.toNat, by omega⟩
 have hj : j < signsAll.length := by simp [signsAll]; omega
 have hs := strE_sign j hj (by omega) (by omega) (by omega) (by omega)
 have hc := HE.out.signs j hj
 have hd2 : decide ((18 : Int) ≤ j) = false := by simpa using hbig
 have hlt : (j : Int) < 18 := by omega
 obtain ⟨s, hs2⟩ : ∃ s, s = signsAll[j] := ⟨_, rfl⟩
 rw [← hs2] at hs hc
 rw [← hs]
 clear hs h1 h2 h3 h4 hs2
 go_enter Tryd.func40, Tryd.ntmps40
 go_wp2_with fail
 refine (binaryOp_any s w).mono ?_
 rintro e w' ⟨rfl, rfl⟩
 go_wp2_with fail
 go_ret
 exact ⟨rfl, rfl⟩
def encB (op : Int) (i : Nat) (aop : Int) : Bool := decide (strE aop < strE op ∨ strE aop = strE op ∧ i = 1)
theorem encB_inner {op aop : Int} {i : Nat} (h1 : 1 ≤ op ∧ op ≤ 17) (h2 : 1 ≤ aop ∧ aop ≤ 17) : encB op i aop = innerB op i aop := by
 unfold encB innerB
 rw [strE_in op h1, strE_in aop h2]
 congr 1
 simp
set_option maxRecDepth 100000 in
set_option maxHeartbeats 1600000 in
theorem enclosingE (op num : Int) (name : ByteArray) (v : Value) (args : List AExpr) (k : Nat) (w : World) (he : EnvS w) (hk : k < args.length) (hv : ListRep w (ExprRep w) 4 v args) (hcap : args.length ≤ 1000000) :
  Calls Tryd.prog 39 #[.agg #[.int .i64 op, .int .i64 num, .string name, v], .int .i64 k] w fun e w' => e = .returned (.bool (encB op k args[k].op)) ∧ Below w.heap.size w w' := by
 obtain ⟨b, off, cap, row, rfl, hc, hR, _, hblt, hcell⟩ := hv.get (by omega) hk
 obtain ⟨va, rfl, _⟩ := exprRep_op hR
 have h0 := hcell 0 _ rfl
 rw [Nat.add_zero] at h0
 clear hR hcell
 have hkl : (k : Int) < args.length := by omega
 obtain ⟨a, ha⟩ : ∃ a, a = args[k].op := ⟨_, rfl⟩
 rw [← ha] at h0 ⊢
 clear ha
 have HE := Lib.hid (he.below ((Below.refl _ _).alloc (Nat.le_refl _) (.cells #[.int .i64 op, .int .i64 num, .string name, .slice (some ⟨b, off, none⟩) args.length cap] 34)))
 clear he
 go_enter Tryd.func39, Tryd.ntmps39
 go_wp2_with fail
 go_quiet ((go_at_call 40; first | exact quiet_left (strengthE _ _ (HE.out.keep (L := []) ((Keep.refl _ _).drewN _) (by simp))) | exact quiet_add_left (strengthE _ _ (HE.out.keep (L := []) ((Keep.refl _ _).drewN _) (by simp)))))
 go_wp2_with fail
 all_goals
  go_ret
  refine ⟨ret_bool ?_, below_drewN ((Below.refl _ _).alloc (Nat.le_refl _) _)⟩
  simp [encB]
  try omega
end Go.Proofs.YtiimofjemiffgaaDoor
namespace Go.Proofs.YtiimofjemiffgaaDoor
open Go.RowKit
theorem shape_op {e : AExpr} (h : shapeB e = true) : 1 ≤ e.op ∧ e.op ≤ 17 := by
 cases e with
 | mk op num name args =>
  show 1 ≤ op ∧ op ≤ 17
  rcases op_cases h with ⟨rfl, _⟩ | ⟨rfl, _⟩ | ⟨rfl, _⟩ | ⟨rfl, _⟩ | ⟨s, hs, hm, _⟩
  ·decide
  ·decide
  ·decide
  ·decide
  ·rcases (show s = 0 ∨ s = 1 ∨ s = 2 ∨ s = 3 ∨ s = 4 by omega) with rfl | rfl | rfl | rfl | rfl <;> simp [signsO] at hm <;> omega
theorem shape_args {op num : Int} {name : ByteArray} {args : List AExpr} (h : shapeB (.mk op num name args) = true) : ∀ k (hk : k < args.length), shapeB args[k] = true := by
 rw [shapeB, Bool.and_eq_true] at h
 exact (shapesB_iff args).1 h.2
theorem shape_plain {op num : Int} {name : ByteArray} {args : List AExpr} (h : shapeB (.mk op num name args) = true) (h1 : op ≠ 1) (h2 : op ≠ 2) : num = 0 ∧ name = emptyB := by
 have ho := shape_op h
 rw [shapeB, Bool.and_eq_true, Bool.and_eq_true] at h
 have h6 : strengthN op ≠ 6 := by
  have ho' : 1 ≤ op ∧ op ≤ 17 := ho
  unfold strengthN
  split
  ·decide
  ·split
   ·decide
   ·split
    ·decide
    ·split
     ·decide
     ·split
      ·decide
      ·split
       ·decide
       ·omega
 rw [if_neg h6] at h
 simpa using h.1.1
set_option maxRecDepth 100000 in
set_option maxHeartbeats 4000000 in
theorem heightE_node (op num : Int) (name : ByteArray) (v : Value) (args : List AExpr) (w : World) (he : EnvS w) (hop : 1 ≤ op ∧ op ≤ 17) (hops : ∀ k (h : k < args.length), 1 ≤ args[k].op ∧ args[k].op ≤ 17) (hN : nodesL args ≤ 1000000) (hv : ListRep w (ExprRep w) 4 v args)
  (ih : ∀ k (hk : k < args.length) (cs : List Value) (w' : World), ExprRep w' args[k] cs → EnvS w' → Calls Tryd.prog 21 #[.agg cs.toArray] w' fun r w'' => r = .returned (.int .i64 (heightN args[k])) ∧ Below w'.heap.size w' w'') :
  Calls Tryd.prog 21 #[.agg #[.int .i64 op, .int .i64 num, .string name, v]] w fun r w' => r = .returned (.int .i64 (heightN (.mk op num name args))) ∧ Below w.heap.size w w' := by
 have hlen := nodesL_len args
 obtain ⟨a, cap, rfl, hc⟩ := hv.slice
 have IH := Lib.hid ih
 have HE := Lib.hid he
 have HOP := Lib.hid hop
 have HOPS := Lib.hid hops
 clear he hop hops
 clear ih
 have HNL := Lib.hid hN
 have HLEN := Lib.hid hlen
 clear hN hlen
 go_enter Tryd.func21, Tryd.ntmps21
 go_wp2_with fail
 go_loopw [3, 9] (fun u v wr => heR op num name w args cap a u v wr) (fun _ v _ => args.length - (intOf v).toNat)
 case atStart => exact ⟨0, 0, rfl, rfl, by omega, by simp, by go_grown, by go_simp, by go_simp, by go_simp, by go_simp⟩
 case round =>
  obtain ⟨k, h, rfl, rfl, hk, hmax, hbel, c0, c1, c2, c3⟩ := hrel
  have hle : h ≤ 3000000 := by
   have h1 := height_le _ (.mk op num name args) (Nat.le_refl _)
   have h2 := HNL.out
   have h3 : h ≤ argsHeight op 0 args := by rw [← hmax]; exact Nat.le_max_left ..
   have h4 : argsHeight op 0 args ≤ heightN (.mk op num name args) := by rw [heightN]; exact Nat.le_add_right ..
   rw [AExpr.nodes] at h1
   omega
  by_cases hlt : k < args.length
  ·have hlt' : (k : Int) < args.length := by omega
   have hv' := hv.below hbel fun a cs _ h => ExprRep.below hbel a h
   obtain ⟨b, off, cap', row, hsl, hc', hR, hrow, hblt, hcells⟩ := hv'.get (by omega) hlt
   cases hsl
   obtain ⟨e0, e1, e2, e3, rfl⟩ : ∃ e0 e1 e2 e3, row = [e0, e1, e2, e3] := by
    match row, hrow with
    | [e0, e1, e2, e3], _ => exact ⟨_, _, _, _, rfl⟩
   have d0 := hcells 0 _ rfl
   have d1 := hcells 1 _ rfl
   have d2 := hcells 2 _ rfl
   have d3 := hcells 3 _ rfl
   rw [Nat.add_zero] at d0
   have hstep : max (max h (heightN args[k] + if innerB op k args[k].op then 1 else 0)) (argsHeight op (k + 1) (args.drop (k + 1))) = argsHeight op 0 args := by
    rw [← hmax, List.drop_eq_getElem_cons hlt, argsHeight]
    omega
   have hnk : heightN args[k] ≤ 2000000 := by
    have h1 := height_le _ args[k] (Nat.le_refl _)
    have h2 := nodesL_get args k hlt
    have h3 := HNL.out
    omega
   have hcap : args.length ≤ 1000000 := by have := HNL.out; have := HLEN.out; omega
   have HCAP := Lib.hid hcap
   have HSTEP := Lib.hid hstep
   have HMAX := Lib.hid hmax
   have HR := Lib.hid hR
   have HV := Lib.hid hv
   have HV' := Lib.hid hv'
   obtain ⟨m, hm⟩ : ∃ m, m = heightN args[k] := ⟨_, rfl⟩
   have HM := Lib.hid hm
   have hk1 : IntKind.i64.wrap ((k : Int) + 1) = (k : Int) + 1 := by simp [IntKind.wrap_i64]; omega
   rw [← hm] at hnk
   have hm1 : IntKind.i64.wrap ((m : Int) + 1) = (m : Int) + 1 := by simp [IntKind.wrap_i64]; omega
   clear hcells hR hrow hstep hcap hmax hv hv' hm
   go_wp2_with (first
    | (go_at_call 21; ((with_reducible refine (IH.out k hlt _ wr HR.out (HE.out.below hbel)).mono ?_); rintro e w2 ⟨rfl, hb2⟩; rw [← HM.out]; have hbel2 := Below.step hbel hb2; have c0' := cell_step c0 hb2; have c1' := cell_step c1 hb2; have c2' := cell_step c2 hb2; have c3' := cell_step c3 hb2; clear d0 d1 d2 d3 c0 c1 c2 c3))
    | (go_at_call 39; ((with_reducible refine (enclosingE op num name _ args k _ (HE.out.below hbel2) hlt (HV'.out.below hb2 fun a cs _ h => ExprRep.below hb2 a h) HCAP.out).mono ?_); rintro e w3 ⟨rfl, hb3⟩; rw [encB_inner HOP.out (HOPS.out k hlt)]; have hbel3 := Below.step hbel2 hb3; have c0'' := cell_step c0' hb3; have c1'' := cell_step c1' hb3; have c2'' := cell_step c2' hb3; have c3'' := cell_step c3' hb3; clear c0' c1' c2' c3')))
   all_goals
    rename_i hin
    have HIN := Lib.hid hin
    clear hin
   ·refine ⟨⟨k + 1, max h (m + 1), rfl, congrArg _ (by omega), by omega, ?_, hbel3, c0'', c1'', c2'', c3''⟩, by simp [intOf]; omega⟩
    have := HSTEP.out
    rw [HIN.out, ← HM.out] at this
    exact this
   ·refine ⟨⟨k + 1, max h m, rfl, congrArg _ (by omega), by omega, ?_, hbel3, c0'', c1'', c2'', c3''⟩, by simp [intOf]; omega⟩
    have := HSTEP.out
    rw [HIN.out, ← HM.out] at this
    exact this
  ·have hke : k = args.length := by omega
   subst hke
   have hfin : h = argsHeight op 0 args := by
    rw [← hmax, List.drop_of_length_le (Nat.le_refl _), argsHeight]; omega
   have HFIN := Lib.hid hfin
   have HMAX := Lib.hid hmax
   have hh1 : IntKind.i64.wrap ((h : Int) + 1) = (h : Int) + 1 := by simp [IntKind.wrap_i64]; omega
   clear hfin hmax hv
   obtain ⟨s, hs⟩ : ∃ s, s = strE op := ⟨_, rfl⟩
   have HS := Lib.hid hs
   clear hs
   by_cases h5 : s = 6
   ·have h5' : ((s : Int) == 6) = true := by rw [h5]; rfl
    have H5 := Lib.hid h5
    clear h5
    go_wp2_with (go_at_call 40; ((with_reducible refine (strengthE _ _ (HE.out.below hbel)).mono ?_); rintro e w2 ⟨rfl, rfl⟩; rw [← HS.out]))
    go_ret
    refine ⟨ret_int ?_, hbel⟩
    rw [heightN, if_pos (by have h1 := strE_in op HOP.out; have h2 := HS.out; have h3 := H5.out; omega), ← HFIN.out]; simp
   ·have h5' : ((s : Int) == 6) = false := by rw [beq_eq_false_iff_ne]; omega
    have H5 := Lib.hid h5
    clear h5
    go_wp2_with (go_at_call 40; ((with_reducible refine (strengthE _ _ (HE.out.below hbel)).mono ?_); rintro e w2 ⟨rfl, rfl⟩; rw [← HS.out]))
    go_ret
    refine ⟨ret_int ?_, hbel⟩
    rw [heightN, if_neg (by have h1 := strE_in op HOP.out; have h2 := HS.out; have h3 := H5.out; omega), ← HFIN.out]; simp
theorem heightE_any : ∀ (N : Nat) (e : AExpr), e.nodes ≤ N → N ≤ 1000000 → shapeB e = true → ∀ (cs : List Value) (w : World), ExprRep w e cs → EnvS w →
  Calls Tryd.prog 21 #[.agg cs.toArray] w fun r w' => r = .returned (.int .i64 (heightN e)) ∧ Below w.heap.size w w'
 | 0, .mk op num name args, hN, _, _, _, _, _, _ => by rw [AExpr.nodes] at hN; omega
 | N + 1, .mk op num name args, hN, hM, hs, cs, w, hr, he => by
  rw [AExpr.nodes] at hN
  obtain ⟨v, rfl, hv⟩ := exprRep_iff.1 hr
  have hsa := shape_args hs
  exact heightE_node op num name v args w he (shape_op hs) (fun k hk => shape_op (hsa k hk)) (by omega) hv fun k hk cs w' hr' he' => heightE_any N args[k] (by have := nodesL_get args k hk; omega) (by omega) (hsa k hk) cs w' hr' he'
theorem takeWhile_allE {p : UInt8 → Bool} : ∀ {l : List UInt8}, (∀ x, x ∈ l → p x = true) → l.takeWhile p = l
 | [], _ => rfl
 | c :: r, h => by rw [List.takeWhile_cons_of_pos (h c (by simp)), takeWhile_allE (fun x hx => h x (by simp [hx]))]
theorem let_sp {c : UInt8} (h : isLet c = true) : isSp c = false ∧ c ≠ 47 := by
 unfold isLet at h
 rw [decide_eq_true_eq] at h
 refine ⟨by unfold isSp; rw [decide_eq_false_iff_not]; omega, ?_⟩
 rintro rfl
 revert h; decide
theorem lex_name {s : ByteArray} (h : nameB s = true) : lexL s.data.toList = .ok [⟨1, s, 0, 0⟩, ⟨5, ⟨#[]⟩, 0, s.size⟩] := by
 unfold nameB at h
 have hsz : s.size = s.data.toList.length := rfl
 have hb := bytes_back s
 rw [hsz] at h ⊢
 cases hd : s.data.toList with
 | nil => rw [hd] at h; simp at h
 | cons c r =>
  rw [hd] at h hb
  simp only [Bool.and_eq_true, decide_eq_true_eq, Bool.not_eq_true'] at h
  obtain ⟨⟨⟨h1, h2⟩, h3⟩, h4⟩ := h
  have hall : (c :: r).takeWhile isNam = c :: r := takeWhile_allE (by
   intro x hx
   rcases List.mem_cons.1 hx with rfl | hx
   ·simp [isNam, h1]
   ·exact List.all_eq_true.1 h2 x hx)
  have hk : skipN (c :: r) 0 = 0 := skipN_stop _ 0 (by simp) (let_sp h1).1 (fun h => (let_sp h1).2 h.1)
  unfold lexL
  rw [if_neg (by omega), lexT, hk, if_neg (by simp), List.drop_zero, nextL_name h1, hall, if_neg (by omega)]
  dsimp only
  rw [if_neg (by omega), dif_pos ⟨by simp, by simp⟩, lexT, skipN_end _ _ (by simp), if_pos (Nat.le_refl _), List.take_length, hb, h4]
  rfl
set_option maxRecDepth 100000 in
set_option maxHeartbeats 1600000 in
theorem namedE (s : ByteArray) (w : World) (hs : nameB s = true) (he : Env w) : Calls Tryd.prog 72 #[.string s] w fun e w' => e = .returned (.bool true) ∧ Below w.heap.size w w' := by
 have hlx := lex_name hs
 have hn16 : s.size < 9223372036854775808 := by
  have h : s.size ≤ 16 := by
   unfold nameB at hs
   split at hs
   ·cases hs
   ·simp only [Bool.and_eq_true, decide_eq_true_eq] at hs; exact hs.1.2
  omega
 have HLX := Lib.hid hlx
 have HE := Lib.hid he
 have hst := strEq_true (rfl : s = s)
 have hbo := bytes_of w s
 clear hs he hlx
 go_enter Tryd.func72, Tryd.ntmps72
 go_wp2_with fail
 refine (lex_str s w HE.out hn16 _ rfl _).mono ?_
 rintro e w1 ⟨⟨v, pos, er, rfl, hl⟩, hb⟩
 rcases hl with ⟨l, h1, h2, h3, h4, h5⟩ | ⟨p, e, h1, _⟩
 ·rw [HLX.out] at h1
  cases h1
  obtain ⟨a, c, rfl, hc, hr⟩ := h2
  rcases hr with h0 | ⟨b, off, rfl, hr⟩
  ·simp [toksCells, Tok.cells] at h0
  obtain ⟨q1, q2, _, _⟩ := tokRow hr 0 (by simp)
  simp at q1 q2
  subst h4
  clear hr h3 h5
  go_wp2_with fail
  go_ret
  exact ⟨rfl, hb⟩
 ·rw [HLX.out] at h1; cases h1
abbrev wellC (e : AExpr) : Prop := ∀ (cs : List Value) (w : World), ExprRep w e cs → EnvS w → Env w → Calls Tryd.prog 49 #[.agg cs.toArray] w fun r w' => r = .returned (.bool true) ∧ Below w.heap.size w w'
theorem leaf_facts {op num : Int} {name : ByteArray} {args : List AExpr} (h : shapeB (.mk op num name args) = true) : (op = 1 → 0 ≤ num ∧ name = emptyB) ∧ (op = 2 → num = 0 ∧ nameB name = true) := by
 rw [shapeB, Bool.and_eq_true, Bool.and_eq_true] at h
 have h1 := h.1.1
 refine ⟨?_, ?_⟩ <;> rintro rfl
 ·rw [if_pos (by decide), leafB] at h1; simpa using h1
 ·rw [if_pos (by decide), leafB] at h1; simpa using h1
set_option maxRecDepth 100000 in
set_option maxHeartbeats 3200000 in
theorem well_node (op num : Int) (name : ByteArray) (v : Value) (args : List AExpr) (w : World) (he : EnvS w) (hev : Env w) (hs : shapeB (.mk op num name args) = true) (hv : ListRep w (ExprRep w) 4 v args) (ih : ∀ k (hk : k < args.length), wellC args[k]) :
  Calls Tryd.prog 49 #[.agg #[.int .i64 op, .int .i64 num, .string name, v]] w fun r w' => r = .returned (.bool true) ∧ Below w.heap.size w w' := by
 have hlf := leaf_facts hs
 have hpl := shape_plain hs
 have hop := shape_op hs
 have HB := Lib.hid (fun o : Obj => (Below.refl w.heap.size w).alloc (Nat.le_refl _) o)
 have HE := Lib.hid he
 have HV := Lib.hid hv
 have HEV := Lib.hid hev
 have hnil : (emptyB.toList == ([] : List UInt8)) = true := by simp [emptyB]
 rcases op_cases hs with ⟨rfl, rfl, h0⟩ | ⟨rfl, rfl⟩ | hrest
 ·obtain ⟨_, rfl⟩ := hlf.1 rfl
  obtain ⟨a, cap, rfl, hc⟩ := hv.slice
  have hd : decide (0 ≤ num) = true := by simpa using h0
  clear he hv hev hs hlf hpl hop ih
  go_enter Tryd.func49, Tryd.ntmps49
  go_wp2_with (go_at_call 40; ((with_reducible refine (strengthE _ _ (HE.out.below (HB.out _))).mono ?_); rintro e w2 ⟨rfl, rfl⟩; rw [show strE 1 = 7 by decide]))
  go_ret
  exact ⟨rfl, HB.out _⟩
 ·obtain ⟨rfl, hnm⟩ := hlf.2 rfl
  obtain ⟨a, cap, rfl, hc⟩ := hv.slice
  clear he hv hev hs hlf hpl hop ih
  go_enter Tryd.func49, Tryd.ntmps49
  go_wp2_with (first
   | (go_at_call 40; ((with_reducible refine (strengthE _ _ (HE.out.below (HB.out _))).mono ?_); rintro e w2 ⟨rfl, rfl⟩; rw [show strE 2 = 7 by decide]))
   | (go_at_call 72; ((with_reducible refine (namedE _ _ hnm (HEV.out.below (HB.out _) HEV.out.size)).mono ?_); rintro e w3 ⟨rfl, hb3⟩)))
  go_ret
  exact ⟨rfl, Below.step (HB.out _) hb3⟩
 ·have h12 : op ≠ 1 ∧ op ≠ 2 := by
   rcases hrest with ⟨h, _⟩ | ⟨h, _⟩ | ⟨s, hs, hm, _⟩
   ·omega
   ·omega
   ·rcases (show s = 0 ∨ s = 1 ∨ s = 2 ∨ s = 3 ∨ s = 4 by omega) with rfl | rfl | rfl | rfl | rfl <;> simp [signsO] at hm <;> omega
  obtain ⟨rfl, rfl⟩ := hpl h12.1 h12.2
  have hr2 : ((op = 3 ∨ op = 4) ∧ ∃ e, args = [e]) ∨ ((5 ≤ op) ∧ ∃ e0 e1, args = [e0, e1]) := by
   rcases hrest with ⟨h, h2⟩ | ⟨h, h2⟩ | ⟨s, hs, hm, h2⟩
   ·exact .inl ⟨.inl h, h2⟩
   ·exact .inl ⟨.inr h, h2⟩
   ·refine .inr ⟨?_, h2⟩
    rcases (show s = 0 ∨ s = 1 ∨ s = 2 ∨ s = 3 ∨ s = 4 by omega) with rfl | rfl | rfl | rfl | rfl <;> simp [signsO] at hm <;> omega
  have hst := strE_in op hop
  have hIH := Lib.hid ih
  clear hlf hpl hrest ih hs he hev
  have hl0 : 0 < args.length := by rcases hr2 with ⟨_, e, rfl⟩ | ⟨_, e0, e1, rfl⟩ <;> simp
  obtain ⟨b, off, cap, row, rfl, hc, hR, hrow, hbl, hcells⟩ := hv.get (by omega) hl0
  obtain ⟨e0, e1, e2, e3, rfl⟩ : ∃ e0 e1 e2 e3, row = [e0, e1, e2, e3] := by
   match row, hrow with
   | [e0, e1, e2, e3], _ => exact ⟨_, _, _, _, rfl⟩
  have hbA := HB.out (.cells #[.int .i64 op, .int .i64 0, .string emptyB, .slice (some ⟨b, off, none⟩) args.length cap] 34)
  have d0 := cell_step (hcells 0 _ rfl) hbA
  have d1 := cell_step (hcells 1 _ rfl) hbA
  have d2 := cell_step (hcells 2 _ rfl) hbA
  have d3 := cell_step (hcells 3 _ rfl) hbA
  simp only [Nat.zero_mul, Nat.add_zero] at d0 d1 d2 d3
  have HR := Lib.hid (ExprRep.below hbA _ hR)
  have HES := Lib.hid (HE.out.below hbA)
  have HEW := Lib.hid (HEV.out.below hbA HEV.out.size)
  have HBA := Lib.hid hbA
  rcases hr2 with ⟨h34, e, he⟩ | ⟨h5, x, y, he⟩
  ·have hlen : args.length = 1 := by rw [he]; rfl
   have hs6 : strE op = 6 := by rcases h34 with rfl | rfl <;> decide
   have HS6 := Lib.hid hs6
   rw [hlen] at HR d0 d1 d2 d3 HES HEW HBA ⊢
   clear hcells hR hrow hbA hst h34 he hlen hop h12 hs6
   go_enter Tryd.func49, Tryd.ntmps49
   go_wp2_with (first
    | (go_at_call 40; ((with_reducible refine (strengthE _ _ HES.out).mono ?_); rintro e w2 ⟨rfl, rfl⟩; rw [HS6.out]))
    | (go_at_call 49; ((with_reducible refine (hIH.out 0 hl0 [e0, e1, e2, e3] _ HR.out HES.out HEW.out).mono ?_); rintro e w3 ⟨rfl, hb3⟩)))
   go_ret
   exact ⟨rfl, Below.step HBA.out hb3⟩
  ·have hlen : args.length = 2 := by rw [he]; rfl
   have hl1 : 1 < args.length := by omega
   obtain ⟨b', off', cap', row', hsl', hc', hR', hrow', hbl', hcells'⟩ := hv.get (by omega) hl1
   cases hsl'
   obtain ⟨g0, g1, g2, g3, rfl⟩ : ∃ g0 g1 g2 g3, row' = [g0, g1, g2, g3] := by
    match row', hrow' with
    | [g0, g1, g2, g3], _ => exact ⟨_, _, _, _, rfl⟩
   have y0 := cell_step (hcells' 0 _ rfl) hbA
   have y1 := cell_step (hcells' 1 _ rfl) hbA
   have y2 := cell_step (hcells' 2 _ rfl) hbA
   have y3 := cell_step (hcells' 3 _ rfl) hbA
   simp only [Nat.one_mul, Nat.add_zero] at y0 y1 y2 y3
   have HR' := Lib.hid (ExprRep.below hbA _ hR')
   have hs5 : 1 ≤ strE op ∧ strE op ≤ 5 := by
    have : 5 ≤ op ∧ op ≤ 17 := ⟨h5, hop.2⟩
    unfold strE
    split
    ·omega
    ·split
     ·omega
     ·split
      ·omega
      ·split
       ·omega
       ·rw [if_pos (by omega)]; omega
   obtain ⟨so, hso⟩ : ∃ so, so = strE op := ⟨_, rfl⟩
   rw [← hso] at hs5
   have HS6 := Lib.hid hso
   have t0 : ((so : Int) == 0) = false := by rw [beq_eq_false_iff_ne]; omega
   have t7 : ((so : Int) == 7) = false := by rw [beq_eq_false_iff_ne]; omega
   have t6 : ((so : Int) == 6) = false := by rw [beq_eq_false_iff_ne]; omega
   rw [hlen] at HR HR' d0 d1 d2 d3 y0 y1 y2 y3 HES HEW HBA ⊢
   have cx : (w.alloc (.cells #[.int .i64 op, .int .i64 0, .string emptyB, .slice (some ⟨b, off, none⟩) 2 cap] 34)).cell? ⟨w.heap.size, 3, none⟩ = some (.slice (some ⟨b, off, none⟩) 2 cap) := by go_simp
   clear hcells hR hrow hbA hst he hlen hop h12 hcells' hR' hrow' hso hs5
   go_enter Tryd.func49, Tryd.ntmps49
   go_wp2_with (first
    | (go_at_call 40; ((with_reducible refine (strengthE _ _ HES.out).mono ?_); rintro e w2 ⟨rfl, rfl⟩; rw [← HS6.out]))
    | (go_at_call 49; ((with_reducible refine (hIH.out 0 hl0 [e0, e1, e2, e3] _ HR.out HES.out HEW.out).mono ?_); rintro e w3 ⟨rfl, hb3⟩; have z0 := cell_step y0 hb3; have z1 := cell_step y1 hb3; have z2 := cell_step y2 hb3; have z3 := cell_step y3 hb3; have cz := cell_step cx hb3))
    | (go_at_call 49; ((with_reducible refine (hIH.out 1 hl1 [g0, g1, g2, g3] _ (ExprRep.below hb3 _ HR'.out) (HES.out.below hb3) (HEW.out.below hb3 HEW.out.size)).mono ?_); rintro e w4 ⟨rfl, hb4⟩)))
   go_ret
   exact ⟨rfl, Below.step (Below.step HBA.out hb3) hb4⟩
theorem wellE_any : ∀ (N : Nat) (e : AExpr), e.nodes ≤ N → shapeB e = true → wellC e
 | 0, .mk op num name args, hN, _ => by rw [AExpr.nodes] at hN; omega
 | N + 1, .mk op num name args, hN, hs => by
  rw [AExpr.nodes] at hN
  intro cs w hr he hev
  obtain ⟨v, rfl, hv⟩ := exprRep_iff.1 hr
  have hsa := shape_args hs
  exact well_node op num name v args w he hev hs hv fun k hk => wellE_any N args[k] (by have := nodesL_get args k hk; omega) (hsa k hk)
set_option maxRecDepth 100000 in
set_option maxHeartbeats 1600000 in
theorem validE (e : AExpr) (cs : List Value) (w : World) (hs : shapeB e = true) (hh : heightN e ≤ 24) (hn : e.nodes ≤ 1000000) (hr : ExprRep w e cs) (he : EnvS w) (hev : Env w) :
  Calls Tryd.prog 28 #[.agg cs.toArray] w fun r w' => r = .returned (.bool true) ∧ Below w.heap.size w w' := by
 obtain ⟨v, rfl, hv⟩ := exprRep_op hr
 have HB := Lib.hid (fun o : Obj => (Below.refl w.heap.size w).alloc (Nat.le_refl _) o)
 have HE := Lib.hid he
 have HEV := Lib.hid hev
 have HR := Lib.hid hr
 have HW := Lib.hid (wellE_any _ e (Nat.le_refl _) hs)
 have HH := Lib.hid (heightE_any _ e (Nat.le_refl _) hn hs)
 obtain ⟨m, hm⟩ : ∃ m, m = heightN e := ⟨_, rfl⟩
 rw [← hm] at hh
 have HM := Lib.hid hm
 have hd : decide ((m : Int) ≤ 24) = true := by rw [decide_eq_true_iff]; omega
 have c0 : (w.alloc (.cells #[.int .i64 e.op, .int .i64 e.num, .string e.name, v] 34)).cell? ⟨w.heap.size, 0, none⟩ = some (.int .i64 e.op) := by go_simp
 have c1 : (w.alloc (.cells #[.int .i64 e.op, .int .i64 e.num, .string e.name, v] 34)).cell? ⟨w.heap.size, 1, none⟩ = some (.int .i64 e.num) := by go_simp
 have c2 : (w.alloc (.cells #[.int .i64 e.op, .int .i64 e.num, .string e.name, v] 34)).cell? ⟨w.heap.size, 2, none⟩ = some (.string e.name) := by go_simp
 have c3 : (w.alloc (.cells #[.int .i64 e.op, .int .i64 e.num, .string e.name, v] 34)).cell? ⟨w.heap.size, 3, none⟩ = some v := by go_simp
 clear hs hn hr he hev hm hh hv
 go_enter Tryd.func28, Tryd.ntmps28
 go_wp2_with (first
  | (go_at_call 49; ((with_reducible refine (HW.out _ _ (ExprRep.below (HB.out _) _ HR.out) (HE.out.below (HB.out _)) (HEV.out.below (HB.out _) HEV.out.size)).mono ?_); rintro r w2 ⟨rfl, hb2⟩; have z0 := cell_step c0 hb2; have z1 := cell_step c1 hb2; have z2 := cell_step c2 hb2; have z3 := cell_step c3 hb2))
  | (go_at_call 21; ((with_reducible refine (HH.out _ _ (ExprRep.below hb2 _ (ExprRep.below (HB.out _) _ HR.out)) ((HE.out.below (HB.out _)).below hb2)).mono ?_); rintro r w3 ⟨rfl, hb3⟩; rw [← HM.out])))
 go_ret
 exact ⟨rfl, Below.step (Below.step (HB.out _) hb2) hb3⟩
end Go.Proofs.YtiimofjemiffgaaDoor
