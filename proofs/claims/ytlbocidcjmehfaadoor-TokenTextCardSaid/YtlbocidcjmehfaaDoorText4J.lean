import Derived.Test.YtlbocidcjmehfaaDoorB5J
set_option linter.unusedVariables false
set_option linter.unusedSimpArgs false
namespace Go.Proofs.YtlbocidcjmehfaaDoor
open Go.RowKit
mutual
def AStmt.fine : AStmt → Prop
 | .mk k _ e r args t el => ((k = 1 ∨ k = 2 ∨ k = 7 ∨ k = 8) → e.fine) ∧ ((k = 3 ∨ k = 4) → (∀ a, a ∈ args → a.fine) ∧ args.length ≤ 1000000000) ∧ ((k = 5 ∨ k = 6) → r.fine) ∧ ((k = 7 ∨ k = 8) → fineL t ∧ fineL el)
def fineL : List AStmt → Prop
 | [] => True
 | s :: r => s.fine ∧ fineL r
end
mutual
def AStmt.count : AStmt → Nat
 | .mk _ _ _ _ _ t el => 1 + countL t + countL el
def countL : List AStmt → Nat
 | [] => 0
 | s :: r => s.count + countL r
end
theorem fineL_get : ∀ (l : List AStmt), fineL l → ∀ k (h : k < l.length), l[k].fine
 | [], _, k, h => by simp at h
 | s :: r, hs, 0, h => by rw [fineL] at hs; exact hs.1
 | s :: r, hs, k + 1, h => by rw [fineL] at hs; exact fineL_get r hs.2 k (by simpa using h)
theorem countL_get : ∀ (l : List AStmt) (k : Nat) (h : k < l.length), l[k].count ≤ countL l
 | s :: r, 0, h => by rw [countL]; exact Nat.le_add_right ..
 | s :: r, k + 1, h => by rw [countL]; have := countL_get r k (by simpa using h); exact Nat.le_trans this (Nat.le_add_left ..)
theorem stmtsText_one (tabs : List UInt8) (s : AStmt) : stmtsText tabs [s] = stmtText tabs s := by rw [stmtsText, stmtsText, List.append_nil]
theorem stmtsText_take (tabs : List UInt8) (l : List AStmt) (k : Nat) (hk : k < l.length) : stmtsText tabs (l.take (k + 1)) = stmtsText tabs (l.take k) ++ stmtText tabs l[k] := by
 rw [List.take_succ_eq_append_getElem hk, stmtsText_append, stmtsText_one]
theorem stmtsText_part (tabs : List UInt8) (l : List AStmt) (k : Nat) (hk : k < l.length) : (stmtsText tabs (l.take k)).length + (stmtText tabs l[k]).length ≤ (stmtsText tabs l).length := by
 have h : stmtsText tabs l = stmtsText tabs (l.take (k + 1)) ++ stmtsText tabs (l.drop (k + 1)) := by rw [← stmtsText_append, List.take_append_drop]
 rw [h, stmtsText_take tabs l k hk]; simp only [List.length_append]; omega
theorem stmtsText_long (tabs : List UInt8) : ∀ (l : List AStmt), l.length ≤ (stmtsText tabs l).length
 | [] => by simp
 | .mk k n e r a t el :: rest => by
  have := stmtsText_long tabs rest
  rw [stmtsText, stmtText]
  simp only [List.length_append, List.length_cons, List.length_nil]; omega
theorem held8 {w a b : World} {p1 p2 p3 p4 p5 p6 p7 p8 : Addr} {u1 u2 u3 u4 u5 u6 u7 u8 : Value} (h : a.cell? p1 = some u1 ∧ a.cell? p2 = some u2 ∧ a.cell? p3 = some u3 ∧ a.cell? p4 = some u4 ∧ a.cell? p5 = some u5 ∧ a.cell? p6 = some u6 ∧ a.cell? p7 = some u7 ∧ a.cell? p8 = some u8 ∧ Below w.heap.size w a) (hb : Below a.heap.size a b) :
  b.cell? p1 = some u1 ∧ b.cell? p2 = some u2 ∧ b.cell? p3 = some u3 ∧ b.cell? p4 = some u4 ∧ b.cell? p5 = some u5 ∧ b.cell? p6 = some u6 ∧ b.cell? p7 = some u7 ∧ b.cell? p8 = some u8 ∧ Below w.heap.size w b :=
 ⟨cell_step h.1 hb, cell_step h.2.1 hb, cell_step h.2.2.1 hb, cell_step h.2.2.2.1 hb, cell_step h.2.2.2.2.1 hb, cell_step h.2.2.2.2.2.1 hb, cell_step h.2.2.2.2.2.2.1 hb, cell_step h.2.2.2.2.2.2.2.1 hb, Below.step h.2.2.2.2.2.2.2.2 hb⟩
theorem held8_below {w a : World} {p1 p2 p3 p4 p5 p6 p7 p8 : Addr} {u1 u2 u3 u4 u5 u6 u7 u8 : Value} (h : a.cell? p1 = some u1 ∧ a.cell? p2 = some u2 ∧ a.cell? p3 = some u3 ∧ a.cell? p4 = some u4 ∧ a.cell? p5 = some u5 ∧ a.cell? p6 = some u6 ∧ a.cell? p7 = some u7 ∧ a.cell? p8 = some u8 ∧ Below w.heap.size w a) : Below w.heap.size w a := h.2.2.2.2.2.2.2.2
theorem stmtRow {w : World} {k : Int} {name : ByteArray} {e : AExpr} {r : ARef} {args : List AArg} {t el : List AStmt} {row : List Value} (h : StmtRep w (.mk k name e r args t el) row) :
  ∃ ea ec ra rc aa ac ta tc la lc, row = [.int .i64 k, .string name, .int .i64 e.op, .int .i64 e.num, .string e.name, .slice ea e.args.length ec, .string r.name, .slice ra r.index.length rc, .slice aa args.length ac, .slice ta t.length tc, .slice la el.length lc] ∧
   ExprRep w e [.int .i64 e.op, .int .i64 e.num, .string e.name, .slice ea e.args.length ec] ∧ RefRep w r [.string r.name, .slice ra r.index.length rc] ∧ ListRep w (ArgRep w) 7 (.slice aa args.length ac) args ∧ ListRep w (StmtRep w) 11 (.slice ta t.length tc) t ∧ ListRep w (StmtRep w) 11 (.slice la el.length lc) el := by
 obtain ⟨ce, cr, va, vt, ve, rfl, h1, h2, h3, h4, h5⟩ := stmtRep_iff.1 h
 have h2' := h2
 obtain ⟨rv, rfl, h2l⟩ := h2
 obtain ⟨ra, rc, rfl, _⟩ := h2l.slice
 obtain ⟨aa, ac, rfl, _⟩ := h3.slice
 obtain ⟨ta, tc, rfl, _⟩ := h4.slice
 obtain ⟨la, lc, rfl, _⟩ := h5.slice
 have h1' := h1
 obtain ⟨v, rfl, hv⟩ := exprRep_op h1
 obtain ⟨ea, ec, rfl, _⟩ := hv.slice
 exact ⟨ea, ec, ra, rc, aa, ac, ta, tc, la, lc, rfl, h1', h2', h3, h4, h5⟩
def lnR (w : World) (tabs : List UInt8) (l : List AStmt) (u v : Value) (wr : World) : Prop :=
 ∃ (k : Nat) (t : List UInt8), v = .int .i64 k ∧ k ≤ l.length ∧ u = .string (bytes t) ∧ t = stmtsText tabs (l.take k) ∧ Below w.heap.size w wr
set_option maxRecDepth 100000 in
set_option maxHeartbeats 16000000 in
theorem lines_node (l : List AStmt) (tabs : List UInt8) (v : Value) (w : World) (hf : fineL l) (hL : (stmtsText tabs l).length + tabs.length ≤ 1000000000000000) (hv : ListRep w (StmtRep w) 11 v l)
  (ih : ∀ k (hk : k < l.length) (m : List AStmt), countL m < l[k].count → fineL m → ∀ tabs' : List UInt8, (stmtsText tabs' m).length + tabs'.length ≤ 1000000000000010 → (stmtsText tabs' m).length + tabs'.length ≤ (stmtsText tabs l).length + tabs.length → ∀ (v' : Value) (w' : World), ListRep w' (StmtRep w') 11 v' m → Calls Tryd.prog 87 #[v', .string (bytes tabs')] w' fun e w'' => e = .returned (.string (bytes (stmtsText tabs' m))) ∧ Below w'.heap.size w' w'') :
  Calls Tryd.prog 87 #[v, .string (bytes tabs)] w fun e w' => e = .returned (.string (bytes (stmtsText tabs l))) ∧ Below w.heap.size w w' := by
 obtain ⟨a, cap, rfl, hc⟩ := hv.slice
 have hlg := stmtsText_long tabs l
 have HF := Lib.hid hf
 have IH := Lib.hid ih
 clear hf ih
 go_enter Tryd.func87, Tryd.ntmps87
 go_wp2_with fail
 go_loopw [5, 6] (fun u v wr => lnR w tabs l u v wr) (fun _ v _ => l.length - (intOf v).toNat)
 case atStart => exact ⟨0, [], rfl, by omega, rfl, rfl, Below.refl _ _⟩
 case round =>
  obtain ⟨k, t, rfl, hk, rfl, ht, hbel⟩ := hrel
  by_cases hlt : k < l.length
  ·have hlt' : (k : Int) < l.length := by omega
   have hv' := hv.below hbel fun a cs _ h => StmtRep.below hbel _ h
   obtain ⟨b, off, cap', row, hsl, hc', hR, hrow, hblt, hcells⟩ := hv'.get (by omega) hlt
   cases hsl
   have hfa := fineL_get l HF.out k hlt
   have hct := stmtsText_take tabs l k hlt
   have hpart := stmtsText_part tabs l k hlt
   have IH2 := Lib.hid (IH.out k hlt)
   generalize hsk : l[k] = s at hR hfa hct hpart IH2
   obtain ⟨kind, name, e, r, args, thn, els⟩ := s
   obtain ⟨xa, xc, ra, rc, aa, ac, sa, sc, la, lc, rfl, hRe, hRr, hRa, hRt, hRl⟩ := stmtRow hR
   have d0 := hcells 0 _ rfl
   have d1 := hcells 1 _ rfl
   have d2 := hcells 2 _ rfl
   have d3 := hcells 3 _ rfl
   have d4 := hcells 4 _ rfl
   have d5 := hcells 5 _ rfl
   have d6 := hcells 6 _ rfl
   have d7 := hcells 7 _ rfl
   have d8 := hcells 8 _ rfl
   have d9 := hcells 9 _ rfl
   have d10 := hcells 10 _ rfl
   rw [Nat.add_zero] at d0
   rw [← ht] at hpart hct
   obtain ⟨nl, rfl⟩ : ∃ nl, name = bytes nl := ⟨name.data.toList, (bytes_back name).symm⟩
   rw [AStmt.fine] at hfa
   obtain ⟨hfe, hfg, hfr, hfb⟩ := hfa
   rw [stmtText, bytes_toList] at hpart hct
   have hpt : t.length + (stmtText tabs (.mk kind (bytes nl) e r args thn els)).length ≤ (stmtsText tabs l).length := by rw [stmtText, bytes_toList]; exact hpart
   have HPT := Lib.hid hpt
   obtain ⟨ta, hta, hla, haa⟩ := add_opaque t tabs (bytes tabs) rfl (by omega)
   have HV := Lib.hid hv
   have HTA := Lib.hid hta
   have HSK := Lib.hid hsk
   clear hcells hR hrow hv' hv ht hta hpt hsk
   by_cases hk1 : kind = 1
   ·subst hk1
    rw [if_pos rfl] at hpart hct
    have hfe' := hfe (by decide)
    have VE := Lib.hid (fun w' (hb : Below wr.heap.size wr w') => text_fine e _ w' hfe' (ExprRep.below hb _ hRe))
    obtain ⟨x, hx⟩ : ∃ x, x = exprText e := ⟨_, rfl⟩
    rw [← hx] at VE hpart hct
    obtain ⟨t1, ht1, hlt1, hat1⟩ := add_opaque ta [118, 97, 114, 32] ⟨#[118, 97, 114, 32]⟩ rfl (by simp at hpart hla ⊢; omega)
    obtain ⟨t2, ht2, hlt2, hat2⟩ := add_opaque t1 nl (bytes nl) rfl (by simp at hpart hla hlt1 ⊢; omega)
    obtain ⟨t3, ht3, hlt3, hat3⟩ := add_opaque t2 [32, 61, 32] ⟨#[32, 61, 32]⟩ rfl (by simp at hpart hla hlt1 hlt2 ⊢; omega)
    obtain ⟨t4, ht4, hlt4, hat4⟩ := add_opaque t3 x (bytes x) rfl (by simp at hpart hla hlt1 hlt2 hlt3 ⊢; omega)
    obtain ⟨t5, ht5, hlt5, hat5⟩ := add_opaque t4 [59] ⟨#[59]⟩ rfl (by simp at hpart hla hlt1 hlt2 hlt3 hlt4 ⊢; omega)
    obtain ⟨t6, ht6, hlt6, hat6⟩ := add_opaque t5 [10] ⟨#[10]⟩ rfl (by simp at hpart hla hlt1 hlt2 hlt3 hlt4 hlt5 ⊢; omega)
    have HE := Lib.hid (show t6 = stmtsText tabs (l.take (k + 1)) by rw [hct, ht6, ht5, ht4, ht3, ht2, ht1, HTA.out]; simp only [List.append_assoc, List.cons_append, List.nil_append, List.append_nil])
    clear ht1 hlt1 ht2 hlt2 ht3 hlt3 ht4 hlt4 ht5 hlt5 ht6 hlt6
    clear hx
    clear hfe hfg hfr hfb hRe hRr hRa hRt hRl hpart hct hla
    go_wp2_with fail
    go_region_held3 (fun w' => w'.cell? ⟨wr.heap.size, 1, none⟩ = some (.string (bytes nl)) ∧ w'.cell? ⟨wr.heap.size, 2, none⟩ = some (.int .i64 e.op) ∧ w'.cell? ⟨wr.heap.size, 3, none⟩ = some (.int .i64 e.num) ∧ w'.cell? ⟨wr.heap.size, 4, none⟩ = some (.string e.name) ∧ w'.cell? ⟨wr.heap.size, 5, none⟩ = some (.slice xa e.args.length xc) ∧ w'.cell? ⟨wr.heap.size, 8, none⟩ = some (.slice aa args.length ac) ∧ w'.cell? ⟨wr.heap.size, 9, none⟩ = some (.slice sa thn.length sc) ∧ w'.cell? ⟨wr.heap.size, 10, none⟩ = some (.slice la els.length lc) ∧ Below wr.heap.size wr w') (first | assumption | (exact held8 ‹_› hb) | (refine ⟨?_, ?_, ?_, ?_, ?_, ?_, ?_, ?_, ?_⟩ <;> first | (go_grown; done) | (go_simp; done))) (first | (go_at_call 122; refine (VE.out _ (by exact held8_below (by assumption))).mono ?_; rintro e w1 ⟨rfl, hb⟩))
    have hB := held8_below (show _ ∧ _ ∧ _ ∧ _ ∧ _ ∧ _ ∧ _ ∧ _ ∧ Below wr.heap.size wr _ by assumption)
    go_wp2_with fail
    go_roundw
    case rel => exact ⟨k + 1, t6, by go_num, by omega, rfl, HE.out, hbel.trans (hB.mono hbel.size)⟩
    case measure => simp [intOf]; omega
   by_cases hk2 : kind = 2
   ·subst hk2
    rw [if_neg (by decide), if_pos rfl] at hpart hct
    have hfe' := hfe (by decide)
    have VE := Lib.hid (fun w' (hb : Below wr.heap.size wr w') => text_fine e _ w' hfe' (ExprRep.below hb _ hRe))
    obtain ⟨x, hx⟩ : ∃ x, x = exprText e := ⟨_, rfl⟩
    rw [← hx] at VE hpart hct
    obtain ⟨t1, ht1, hlt1, hat1⟩ := add_opaque ta nl (bytes nl) rfl (by simp at hpart hla ⊢; omega)
    obtain ⟨t2, ht2, hlt2, hat2⟩ := add_opaque t1 [32, 61, 32] ⟨#[32, 61, 32]⟩ rfl (by simp at hpart hla hlt1 ⊢; omega)
    obtain ⟨t3, ht3, hlt3, hat3⟩ := add_opaque t2 x (bytes x) rfl (by simp at hpart hla hlt1 hlt2 ⊢; omega)
    obtain ⟨t4, ht4, hlt4, hat4⟩ := add_opaque t3 [59] ⟨#[59]⟩ rfl (by simp at hpart hla hlt1 hlt2 hlt3 ⊢; omega)
    obtain ⟨t5, ht5, hlt5, hat5⟩ := add_opaque t4 [10] ⟨#[10]⟩ rfl (by simp at hpart hla hlt1 hlt2 hlt3 hlt4 ⊢; omega)
    have HE := Lib.hid (show t5 = stmtsText tabs (l.take (k + 1)) by rw [hct, ht5, ht4, ht3, ht2, ht1, HTA.out]; simp only [List.append_assoc, List.cons_append, List.nil_append, List.append_nil])
    clear ht1 hlt1 ht2 hlt2 ht3 hlt3 ht4 hlt4 ht5 hlt5
    clear hx
    clear hfe hfg hfr hfb hRe hRr hRa hRt hRl hpart hct hla
    go_wp2_with fail
    go_region_held3 (fun w' => w'.cell? ⟨wr.heap.size, 1, none⟩ = some (.string (bytes nl)) ∧ w'.cell? ⟨wr.heap.size, 2, none⟩ = some (.int .i64 e.op) ∧ w'.cell? ⟨wr.heap.size, 3, none⟩ = some (.int .i64 e.num) ∧ w'.cell? ⟨wr.heap.size, 4, none⟩ = some (.string e.name) ∧ w'.cell? ⟨wr.heap.size, 5, none⟩ = some (.slice xa e.args.length xc) ∧ w'.cell? ⟨wr.heap.size, 8, none⟩ = some (.slice aa args.length ac) ∧ w'.cell? ⟨wr.heap.size, 9, none⟩ = some (.slice sa thn.length sc) ∧ w'.cell? ⟨wr.heap.size, 10, none⟩ = some (.slice la els.length lc) ∧ Below wr.heap.size wr w') (first | assumption | (exact held8 ‹_› hb) | (refine ⟨?_, ?_, ?_, ?_, ?_, ?_, ?_, ?_, ?_⟩ <;> first | (go_grown; done) | (go_simp; done))) (first | (go_at_call 122; refine (VE.out _ (by exact held8_below (by assumption))).mono ?_; rintro e w1 ⟨rfl, hb⟩))
    have hB := held8_below (show _ ∧ _ ∧ _ ∧ _ ∧ _ ∧ _ ∧ _ ∧ _ ∧ Below wr.heap.size wr _ by assumption)
    go_wp2_with fail
    go_roundw
    case rel => exact ⟨k + 1, t5, by go_num, by omega, rfl, HE.out, hbel.trans (hB.mono hbel.size)⟩
    case measure => simp [intOf]; omega
   by_cases hk3 : kind = 3
   ·subst hk3
    rw [if_neg (by decide), if_neg (by decide), if_pos rfl] at hpart hct
    obtain ⟨x, hx⟩ : ∃ x, x = argsTextL args := ⟨_, rfl⟩
    rw [← hx] at hpart hct
    have hfg' := hfg (by decide)
    have VA := Lib.hid (fun w' (hb : Below wr.heap.size wr w') => argsText_any args _ w' hfg'.1 (by rw [← hx]; simp at hpart; omega) hfg'.2 (hRa.below hb fun a cs _ h => ArgRep.below hb h))
    rw [← hx] at VA
    obtain ⟨t1, ht1, hlt1, hat1⟩ := add_opaque ta nl (bytes nl) rfl (by simp at hpart hla ⊢; omega)
    obtain ⟨t2, ht2, hlt2, hat2⟩ := add_opaque t1 x (bytes x) rfl (by simp at hpart hla hlt1 ⊢; omega)
    obtain ⟨t3, ht3, hlt3, hat3⟩ := add_opaque t2 [59] ⟨#[59]⟩ rfl (by simp at hpart hla hlt1 hlt2 ⊢; omega)
    obtain ⟨t4, ht4, hlt4, hat4⟩ := add_opaque t3 [10] ⟨#[10]⟩ rfl (by simp at hpart hla hlt1 hlt2 hlt3 ⊢; omega)
    have HE := Lib.hid (show t4 = stmtsText tabs (l.take (k + 1)) by rw [hct, ht4, ht3, ht2, ht1, HTA.out]; simp only [List.append_assoc, List.cons_append, List.nil_append, List.append_nil])
    clear ht1 hlt1 ht2 hlt2 ht3 hlt3 ht4 hlt4
    clear hx
    clear hfe hfg hfr hfb hRe hRr hRa hRt hRl hpart hct hla
    go_wp2_with fail
    go_region_held3 (fun w' => w'.cell? ⟨wr.heap.size, 1, none⟩ = some (.string (bytes nl)) ∧ w'.cell? ⟨wr.heap.size, 2, none⟩ = some (.int .i64 e.op) ∧ w'.cell? ⟨wr.heap.size, 3, none⟩ = some (.int .i64 e.num) ∧ w'.cell? ⟨wr.heap.size, 4, none⟩ = some (.string e.name) ∧ w'.cell? ⟨wr.heap.size, 5, none⟩ = some (.slice xa e.args.length xc) ∧ w'.cell? ⟨wr.heap.size, 8, none⟩ = some (.slice aa args.length ac) ∧ w'.cell? ⟨wr.heap.size, 9, none⟩ = some (.slice sa thn.length sc) ∧ w'.cell? ⟨wr.heap.size, 10, none⟩ = some (.slice la els.length lc) ∧ Below wr.heap.size wr w') (first | assumption | (exact held8 ‹_› hb) | (refine ⟨?_, ?_, ?_, ?_, ?_, ?_, ?_, ?_, ?_⟩ <;> first | (go_grown; done) | (go_simp; done))) (first | (go_at_call 123; refine (VA.out _ (by exact held8_below (by assumption))).mono ?_; rintro e w1 ⟨rfl, hb⟩))
    have hB := held8_below (show _ ∧ _ ∧ _ ∧ _ ∧ _ ∧ _ ∧ _ ∧ _ ∧ Below wr.heap.size wr _ by assumption)
    go_wp2_with fail
    go_roundw
    case rel => exact ⟨k + 1, t4, by go_num, by omega, rfl, HE.out, hbel.trans (hB.mono hbel.size)⟩
    case measure => simp [intOf]; omega
   by_cases hk4 : kind = 4
   ·subst hk4
    rw [if_neg (by decide), if_neg (by decide), if_neg (by decide), if_pos rfl] at hpart hct
    obtain ⟨x, hx⟩ : ∃ x, x = argsTextL args := ⟨_, rfl⟩
    rw [← hx] at hpart hct
    have hfg' := hfg (by decide)
    have VA := Lib.hid (fun w' (hb : Below wr.heap.size wr w') => argsText_any args _ w' hfg'.1 (by rw [← hx]; simp at hpart; omega) hfg'.2 (hRa.below hb fun a cs _ h => ArgRep.below hb h))
    rw [← hx] at VA
    obtain ⟨t1, ht1, hlt1, hat1⟩ := add_opaque ta [103, 111, 32] ⟨#[103, 111, 32]⟩ rfl (by simp at hpart hla ⊢; omega)
    obtain ⟨t2, ht2, hlt2, hat2⟩ := add_opaque t1 nl (bytes nl) rfl (by simp at hpart hla hlt1 ⊢; omega)
    obtain ⟨t3, ht3, hlt3, hat3⟩ := add_opaque t2 x (bytes x) rfl (by simp at hpart hla hlt1 hlt2 ⊢; omega)
    obtain ⟨t4, ht4, hlt4, hat4⟩ := add_opaque t3 [59] ⟨#[59]⟩ rfl (by simp at hpart hla hlt1 hlt2 hlt3 ⊢; omega)
    obtain ⟨t5, ht5, hlt5, hat5⟩ := add_opaque t4 [10] ⟨#[10]⟩ rfl (by simp at hpart hla hlt1 hlt2 hlt3 hlt4 ⊢; omega)
    have HE := Lib.hid (show t5 = stmtsText tabs (l.take (k + 1)) by rw [hct, ht5, ht4, ht3, ht2, ht1, HTA.out]; simp only [List.append_assoc, List.cons_append, List.nil_append, List.append_nil])
    clear ht1 hlt1 ht2 hlt2 ht3 hlt3 ht4 hlt4 ht5 hlt5
    clear hx
    clear hfe hfg hfr hfb hRe hRr hRa hRt hRl hpart hct hla
    go_wp2_with fail
    go_region_held3 (fun w' => w'.cell? ⟨wr.heap.size, 1, none⟩ = some (.string (bytes nl)) ∧ w'.cell? ⟨wr.heap.size, 2, none⟩ = some (.int .i64 e.op) ∧ w'.cell? ⟨wr.heap.size, 3, none⟩ = some (.int .i64 e.num) ∧ w'.cell? ⟨wr.heap.size, 4, none⟩ = some (.string e.name) ∧ w'.cell? ⟨wr.heap.size, 5, none⟩ = some (.slice xa e.args.length xc) ∧ w'.cell? ⟨wr.heap.size, 8, none⟩ = some (.slice aa args.length ac) ∧ w'.cell? ⟨wr.heap.size, 9, none⟩ = some (.slice sa thn.length sc) ∧ w'.cell? ⟨wr.heap.size, 10, none⟩ = some (.slice la els.length lc) ∧ Below wr.heap.size wr w') (first | assumption | (exact held8 ‹_› hb) | (refine ⟨?_, ?_, ?_, ?_, ?_, ?_, ?_, ?_, ?_⟩ <;> first | (go_grown; done) | (go_simp; done))) (first | (go_at_call 123; refine (VA.out _ (by exact held8_below (by assumption))).mono ?_; rintro e w1 ⟨rfl, hb⟩))
    have hB := held8_below (show _ ∧ _ ∧ _ ∧ _ ∧ _ ∧ _ ∧ _ ∧ _ ∧ Below wr.heap.size wr _ by assumption)
    go_wp2_with fail
    go_roundw
    case rel => exact ⟨k + 1, t5, by go_num, by omega, rfl, HE.out, hbel.trans (hB.mono hbel.size)⟩
    case measure => simp [intOf]; omega
   by_cases hk5 : kind = 5
   ·subst hk5
    rw [if_neg (by decide), if_neg (by decide), if_neg (by decide), if_neg (by decide), if_pos rfl] at hpart hct
    have hfr' := hfr (by decide)
    have VR := Lib.hid (fun w' (hb : Below wr.heap.size wr w') => refText_any r _ w' hfr' (RefRep.below hb hRr))
    obtain ⟨x, hx⟩ : ∃ x, x = refTextL r := ⟨_, rfl⟩
    rw [← hx] at VR hpart hct
    obtain ⟨t1, ht1, hlt1, hat1⟩ := add_opaque ta [108, 111, 99, 107, 32] ⟨#[108, 111, 99, 107, 32]⟩ rfl (by simp at hpart hla ⊢; omega)
    obtain ⟨t2, ht2, hlt2, hat2⟩ := add_opaque t1 x (bytes x) rfl (by simp at hpart hla hlt1 ⊢; omega)
    obtain ⟨t3, ht3, hlt3, hat3⟩ := add_opaque t2 [59] ⟨#[59]⟩ rfl (by simp at hpart hla hlt1 hlt2 ⊢; omega)
    obtain ⟨t4, ht4, hlt4, hat4⟩ := add_opaque t3 [10] ⟨#[10]⟩ rfl (by simp at hpart hla hlt1 hlt2 hlt3 ⊢; omega)
    have HE := Lib.hid (show t4 = stmtsText tabs (l.take (k + 1)) by rw [hct, ht4, ht3, ht2, ht1, HTA.out]; simp only [List.append_assoc, List.cons_append, List.nil_append, List.append_nil])
    clear ht1 hlt1 ht2 hlt2 ht3 hlt3 ht4 hlt4
    clear hx
    clear hfe hfg hfr hfb hRe hRr hRa hRt hRl hpart hct hla
    go_wp2_with (go_at_call 124; ((with_reducible refine (VR.out _ (by go_grown)).mono ?_); rintro e w1 ⟨rfl, hb⟩; have hB : Below wr.heap.size wr w1 := Below.step (by go_grown) hb))
    go_roundw
    case rel => exact ⟨k + 1, t4, by go_num, by omega, rfl, HE.out, hbel.trans (hB.mono hbel.size)⟩
    case measure => simp [intOf]; omega
   by_cases hk6 : kind = 6
   ·subst hk6
    rw [if_neg (by decide), if_neg (by decide), if_neg (by decide), if_neg (by decide), if_neg (by decide), if_pos rfl] at hpart hct
    have hfr' := hfr (by decide)
    have VR := Lib.hid (fun w' (hb : Below wr.heap.size wr w') => refText_any r _ w' hfr' (RefRep.below hb hRr))
    obtain ⟨x, hx⟩ : ∃ x, x = refTextL r := ⟨_, rfl⟩
    rw [← hx] at VR hpart hct
    obtain ⟨t1, ht1, hlt1, hat1⟩ := add_opaque ta [117, 110, 108, 111, 99, 107, 32] ⟨#[117, 110, 108, 111, 99, 107, 32]⟩ rfl (by simp at hpart hla ⊢; omega)
    obtain ⟨t2, ht2, hlt2, hat2⟩ := add_opaque t1 x (bytes x) rfl (by simp at hpart hla hlt1 ⊢; omega)
    obtain ⟨t3, ht3, hlt3, hat3⟩ := add_opaque t2 [59] ⟨#[59]⟩ rfl (by simp at hpart hla hlt1 hlt2 ⊢; omega)
    obtain ⟨t4, ht4, hlt4, hat4⟩ := add_opaque t3 [10] ⟨#[10]⟩ rfl (by simp at hpart hla hlt1 hlt2 hlt3 ⊢; omega)
    have HE := Lib.hid (show t4 = stmtsText tabs (l.take (k + 1)) by rw [hct, ht4, ht3, ht2, ht1, HTA.out]; simp only [List.append_assoc, List.cons_append, List.nil_append, List.append_nil])
    clear ht1 hlt1 ht2 hlt2 ht3 hlt3 ht4 hlt4
    clear hx
    clear hfe hfg hfr hfb hRe hRr hRa hRt hRl hpart hct hla
    go_wp2_with (go_at_call 124; ((with_reducible refine (VR.out _ (by go_grown)).mono ?_); rintro e w1 ⟨rfl, hb⟩; have hB : Below wr.heap.size wr w1 := Below.step (by go_grown) hb))
    go_roundw
    case rel => exact ⟨k + 1, t4, by go_num, by omega, rfl, HE.out, hbel.trans (hB.mono hbel.size)⟩
    case measure => simp [intOf]; omega
   by_cases hk7 : kind = 7
   ·subst hk7
    by_cases hel : els.length = 0
    ·rw [if_neg (by decide), if_neg (by decide), if_neg (by decide), if_neg (by decide), if_neg (by decide), if_neg (by decide), if_pos (by decide), if_neg (by decide), if_pos hel] at hpart hct
     obtain ⟨hft, hfl⟩ := hfb (by decide)
     have hfe' := hfe (by decide)
     have VE := Lib.hid (fun w' (hb : Below wr.heap.size wr w') => text_fine e _ w' hfe' (ExprRep.below hb _ hRe))
     obtain ⟨x, hx⟩ : ∃ x, x = exprText e := ⟨_, rfl⟩
     obtain ⟨tb, htb, hltb, hatb⟩ := add_opaque tabs [9] ⟨#[9]⟩ rfl (by simp at hpart ⊢; omega)
     rw [← htb] at hpart hct
     obtain ⟨y, hy⟩ : ∃ y, y = stmtsText tb thn := ⟨_, rfl⟩
     rw [← hx] at VE hpart hct
     rw [← hy] at hpart hct
     simp only [List.length_append, List.length_cons, List.length_nil] at hpart hltb
     have VT := Lib.hid (fun w' (hb : Below wr.heap.size wr w') => IH2.out thn (by rw [AStmt.count]; omega) hft tb (by rw [← hy]; omega) (by rw [← hy]; omega) _ w' (hRt.below hb fun a cs _ h => StmtRep.below hb _ h))
     rw [← hy] at VT
     obtain ⟨t1, ht1, hlt1, hat1⟩ := add_opaque ta [105, 102, 32] ⟨#[105, 102, 32]⟩ rfl (by simp at hla ⊢; omega)
     obtain ⟨t2, ht2, hlt2, hat2⟩ := add_opaque t1 x (bytes x) rfl (by simp at hla hlt1 ⊢; omega)
     obtain ⟨t3, ht3, hlt3, hat3⟩ := add_opaque t2 [32, 123, 10] ⟨#[32, 123, 10]⟩ rfl (by simp at hla hlt1 hlt2 ⊢; omega)
     obtain ⟨t4, ht4, hlt4, hat4⟩ := add_opaque t3 y (bytes y) rfl (by simp at hla hlt1 hlt2 hlt3 ⊢; omega)
     obtain ⟨t5, ht5, hlt5, hat5⟩ := add_opaque t4 tabs (bytes tabs) rfl (by simp at hla hlt1 hlt2 hlt3 hlt4 ⊢; omega)
     obtain ⟨t6, ht6, hlt6, hat6⟩ := add_opaque t5 [125] ⟨#[125]⟩ rfl (by simp at hla hlt1 hlt2 hlt3 hlt4 hlt5 ⊢; omega)
     obtain ⟨t7, ht7, hlt7, hat7⟩ := add_opaque t6 [10] ⟨#[10]⟩ rfl (by simp at hla hlt1 hlt2 hlt3 hlt4 hlt5 hlt6 ⊢; omega)
     have HE := Lib.hid (show t7 = stmtsText tabs (l.take (k + 1)) by rw [hct, ht7, ht6, ht5, ht4, ht3, ht2, ht1, HTA.out]; simp only [List.append_assoc, List.cons_append, List.nil_append, List.append_nil])
     have hel' : (els.length : Int) ≤ 0 := by omega
     clear ht1 hlt1 ht2 hlt2 ht3 hlt3 ht4 hlt4 ht5 hlt5 ht6 hlt6 ht7 hlt7
     clear hx hy htb hltb hft hfl
     clear hfe hfg hfr hfb hRe hRr hRa hRt hRl hpart hct hla
     go_wp2_with fail
     go_region_held3 (fun w' => w'.cell? ⟨wr.heap.size, 1, none⟩ = some (.string (bytes nl)) ∧ w'.cell? ⟨wr.heap.size, 2, none⟩ = some (.int .i64 e.op) ∧ w'.cell? ⟨wr.heap.size, 3, none⟩ = some (.int .i64 e.num) ∧ w'.cell? ⟨wr.heap.size, 4, none⟩ = some (.string e.name) ∧ w'.cell? ⟨wr.heap.size, 5, none⟩ = some (.slice xa e.args.length xc) ∧ w'.cell? ⟨wr.heap.size, 8, none⟩ = some (.slice aa args.length ac) ∧ w'.cell? ⟨wr.heap.size, 9, none⟩ = some (.slice sa thn.length sc) ∧ w'.cell? ⟨wr.heap.size, 10, none⟩ = some (.slice la els.length lc) ∧ Below wr.heap.size wr w') (first | assumption | (exact held8 ‹_› hb) | (refine ⟨?_, ?_, ?_, ?_, ?_, ?_, ?_, ?_, ?_⟩ <;> first | (go_grown; done) | (go_simp; done))) (first | (go_at_call 122; refine (VE.out _ (by exact held8_below (by assumption))).mono ?_; rintro e w1 ⟨rfl, hb⟩) | (go_at_call 87; refine (VT.out _ (by exact held8_below (by assumption))).mono ?_; rintro e w1 ⟨rfl, hb⟩))
     have hS := (show _ ∧ _ ∧ _ ∧ _ ∧ _ ∧ _ ∧ _ ∧ _ ∧ Below wr.heap.size wr _ by assumption)
     have hB := held8_below hS
     obtain ⟨-, -, -, -, -, -, -, he10, -⟩ := hS
     go_wp2_with fail
     go_roundw
     case rel => exact ⟨k + 1, t7, by go_num, by omega, rfl, HE.out, hbel.trans (hB.mono hbel.size)⟩
     case measure => simp [intOf]; omega
    ·rw [if_neg (by decide), if_neg (by decide), if_neg (by decide), if_neg (by decide), if_neg (by decide), if_neg (by decide), if_pos (by decide), if_neg (by decide), if_neg hel] at hpart hct
     obtain ⟨hft, hfl⟩ := hfb (by decide)
     have hfe' := hfe (by decide)
     have VE := Lib.hid (fun w' (hb : Below wr.heap.size wr w') => text_fine e _ w' hfe' (ExprRep.below hb _ hRe))
     obtain ⟨x, hx⟩ : ∃ x, x = exprText e := ⟨_, rfl⟩
     obtain ⟨tb, htb, hltb, hatb⟩ := add_opaque tabs [9] ⟨#[9]⟩ rfl (by simp at hpart ⊢; omega)
     rw [← htb] at hpart hct
     obtain ⟨y, hy⟩ : ∃ y, y = stmtsText tb thn := ⟨_, rfl⟩
     rw [← hx] at VE hpart hct
     rw [← hy] at hpart hct
     obtain ⟨z, hz⟩ : ∃ z, z = stmtsText tb els := ⟨_, rfl⟩
     rw [← hz] at hpart hct
     simp only [List.length_append, List.length_cons, List.length_nil] at hpart hltb
     have VT := Lib.hid (fun w' (hb : Below wr.heap.size wr w') => IH2.out thn (by rw [AStmt.count]; omega) hft tb (by rw [← hy]; omega) (by rw [← hy]; omega) _ w' (hRt.below hb fun a cs _ h => StmtRep.below hb _ h))
     rw [← hy] at VT
     have VL := Lib.hid (fun w' (hb : Below wr.heap.size wr w') => IH2.out els (by rw [AStmt.count]; omega) hfl tb (by rw [← hz]; omega) (by rw [← hz]; omega) _ w' (hRl.below hb fun a cs _ h => StmtRep.below hb _ h))
     rw [← hz] at VL
     obtain ⟨t1, ht1, hlt1, hat1⟩ := add_opaque ta [105, 102, 32] ⟨#[105, 102, 32]⟩ rfl (by simp at hla ⊢; omega)
     obtain ⟨t2, ht2, hlt2, hat2⟩ := add_opaque t1 x (bytes x) rfl (by simp at hla hlt1 ⊢; omega)
     obtain ⟨t3, ht3, hlt3, hat3⟩ := add_opaque t2 [32, 123, 10] ⟨#[32, 123, 10]⟩ rfl (by simp at hla hlt1 hlt2 ⊢; omega)
     obtain ⟨t4, ht4, hlt4, hat4⟩ := add_opaque t3 y (bytes y) rfl (by simp at hla hlt1 hlt2 hlt3 ⊢; omega)
     obtain ⟨t5, ht5, hlt5, hat5⟩ := add_opaque t4 tabs (bytes tabs) rfl (by simp at hla hlt1 hlt2 hlt3 hlt4 ⊢; omega)
     obtain ⟨t6, ht6, hlt6, hat6⟩ := add_opaque t5 [125] ⟨#[125]⟩ rfl (by simp at hla hlt1 hlt2 hlt3 hlt4 hlt5 ⊢; omega)
     obtain ⟨t7, ht7, hlt7, hat7⟩ := add_opaque t6 [32, 101, 108, 115, 101, 32, 123, 10] ⟨#[32, 101, 108, 115, 101, 32, 123, 10]⟩ rfl (by simp at hla hlt1 hlt2 hlt3 hlt4 hlt5 hlt6 ⊢; omega)
     obtain ⟨t8, ht8, hlt8, hat8⟩ := add_opaque t7 z (bytes z) rfl (by simp at hla hlt1 hlt2 hlt3 hlt4 hlt5 hlt6 hlt7 ⊢; omega)
     obtain ⟨t9, ht9, hlt9, hat9⟩ := add_opaque t8 tabs (bytes tabs) rfl (by simp at hla hlt1 hlt2 hlt3 hlt4 hlt5 hlt6 hlt7 hlt8 ⊢; omega)
     obtain ⟨t10, ht10, hlt10, hat10⟩ := add_opaque t9 [125] ⟨#[125]⟩ rfl (by simp at hla hlt1 hlt2 hlt3 hlt4 hlt5 hlt6 hlt7 hlt8 hlt9 ⊢; omega)
     obtain ⟨t11, ht11, hlt11, hat11⟩ := add_opaque t10 [10] ⟨#[10]⟩ rfl (by simp at hla hlt1 hlt2 hlt3 hlt4 hlt5 hlt6 hlt7 hlt8 hlt9 hlt10 ⊢; omega)
     have HE := Lib.hid (show t11 = stmtsText tabs (l.take (k + 1)) by rw [hct, ht11, ht10, ht9, ht8, ht7, ht6, ht5, ht4, ht3, ht2, ht1, HTA.out]; simp only [List.append_assoc, List.cons_append, List.nil_append, List.append_nil])
     have hel' : (0 : Int) < (els.length : Int) := by omega
     clear ht1 hlt1 ht2 hlt2 ht3 hlt3 ht4 hlt4 ht5 hlt5 ht6 hlt6 ht7 hlt7 ht8 hlt8 ht9 hlt9 ht10 hlt10 ht11 hlt11
     clear hx hy htb hltb hft hfl hz
     clear hfe hfg hfr hfb hRe hRr hRa hRt hRl hpart hct hla
     go_wp2_with fail
     go_region_held3 (fun w' => w'.cell? ⟨wr.heap.size, 1, none⟩ = some (.string (bytes nl)) ∧ w'.cell? ⟨wr.heap.size, 2, none⟩ = some (.int .i64 e.op) ∧ w'.cell? ⟨wr.heap.size, 3, none⟩ = some (.int .i64 e.num) ∧ w'.cell? ⟨wr.heap.size, 4, none⟩ = some (.string e.name) ∧ w'.cell? ⟨wr.heap.size, 5, none⟩ = some (.slice xa e.args.length xc) ∧ w'.cell? ⟨wr.heap.size, 8, none⟩ = some (.slice aa args.length ac) ∧ w'.cell? ⟨wr.heap.size, 9, none⟩ = some (.slice sa thn.length sc) ∧ w'.cell? ⟨wr.heap.size, 10, none⟩ = some (.slice la els.length lc) ∧ Below wr.heap.size wr w') (first | assumption | (exact held8 ‹_› hb) | (refine ⟨?_, ?_, ?_, ?_, ?_, ?_, ?_, ?_, ?_⟩ <;> first | (go_grown; done) | (go_simp; done))) (first | (go_at_call 122; refine (VE.out _ (by exact held8_below (by assumption))).mono ?_; rintro e w1 ⟨rfl, hb⟩) | (go_at_call 87; refine (VT.out _ (by exact held8_below (by assumption))).mono ?_; rintro e w1 ⟨rfl, hb⟩))
     have hS := (show _ ∧ _ ∧ _ ∧ _ ∧ _ ∧ _ ∧ _ ∧ _ ∧ Below wr.heap.size wr _ by assumption)
     have hB := held8_below hS
     obtain ⟨-, -, -, -, -, -, -, he10, -⟩ := hS
     go_wp2_with (go_at_call 87; ((with_reducible refine (VL.out _ hB).mono ?_); rintro e w3 ⟨rfl, hb3⟩; have hB3 : Below wr.heap.size wr w3 := Below.step hB hb3))
     go_roundw
     case rel => exact ⟨k + 1, t11, by go_num, by omega, rfl, HE.out, hbel.trans (hB3.mono hbel.size)⟩
     case measure => simp [intOf]; omega
   by_cases hk8 : kind = 8
   ·subst hk8
    by_cases hel : els.length = 0
    ·rw [if_neg (by decide), if_neg (by decide), if_neg (by decide), if_neg (by decide), if_neg (by decide), if_neg (by decide), if_pos (by decide), if_pos rfl, if_pos hel] at hpart hct
     obtain ⟨hft, hfl⟩ := hfb (by decide)
     have hfe' := hfe (by decide)
     have VE := Lib.hid (fun w' (hb : Below wr.heap.size wr w') => text_fine e _ w' hfe' (ExprRep.below hb _ hRe))
     obtain ⟨x, hx⟩ : ∃ x, x = exprText e := ⟨_, rfl⟩
     obtain ⟨tb, htb, hltb, hatb⟩ := add_opaque tabs [9] ⟨#[9]⟩ rfl (by simp at hpart ⊢; omega)
     rw [← htb] at hpart hct
     obtain ⟨y, hy⟩ : ∃ y, y = stmtsText tb thn := ⟨_, rfl⟩
     rw [← hx] at VE hpart hct
     rw [← hy] at hpart hct
     simp only [List.length_append, List.length_cons, List.length_nil] at hpart hltb
     have VT := Lib.hid (fun w' (hb : Below wr.heap.size wr w') => IH2.out thn (by rw [AStmt.count]; omega) hft tb (by rw [← hy]; omega) (by rw [← hy]; omega) _ w' (hRt.below hb fun a cs _ h => StmtRep.below hb _ h))
     rw [← hy] at VT
     obtain ⟨t1, ht1, hlt1, hat1⟩ := add_opaque ta [119, 104, 105, 108, 101, 32] ⟨#[119, 104, 105, 108, 101, 32]⟩ rfl (by simp at hla ⊢; omega)
     obtain ⟨t2, ht2, hlt2, hat2⟩ := add_opaque t1 x (bytes x) rfl (by simp at hla hlt1 ⊢; omega)
     obtain ⟨t3, ht3, hlt3, hat3⟩ := add_opaque t2 [32, 123, 10] ⟨#[32, 123, 10]⟩ rfl (by simp at hla hlt1 hlt2 ⊢; omega)
     obtain ⟨t4, ht4, hlt4, hat4⟩ := add_opaque t3 y (bytes y) rfl (by simp at hla hlt1 hlt2 hlt3 ⊢; omega)
     obtain ⟨t5, ht5, hlt5, hat5⟩ := add_opaque t4 tabs (bytes tabs) rfl (by simp at hla hlt1 hlt2 hlt3 hlt4 ⊢; omega)
     obtain ⟨t6, ht6, hlt6, hat6⟩ := add_opaque t5 [125] ⟨#[125]⟩ rfl (by simp at hla hlt1 hlt2 hlt3 hlt4 hlt5 ⊢; omega)
     obtain ⟨t7, ht7, hlt7, hat7⟩ := add_opaque t6 [10] ⟨#[10]⟩ rfl (by simp at hla hlt1 hlt2 hlt3 hlt4 hlt5 hlt6 ⊢; omega)
     have HE := Lib.hid (show t7 = stmtsText tabs (l.take (k + 1)) by rw [hct, ht7, ht6, ht5, ht4, ht3, ht2, ht1, HTA.out]; simp only [List.append_assoc, List.cons_append, List.nil_append, List.append_nil])
     have hel' : (els.length : Int) ≤ 0 := by omega
     clear ht1 hlt1 ht2 hlt2 ht3 hlt3 ht4 hlt4 ht5 hlt5 ht6 hlt6 ht7 hlt7
     clear hx hy htb hltb hft hfl
     clear hfe hfg hfr hfb hRe hRr hRa hRt hRl hpart hct hla
     go_wp2_with fail
     go_region_held3 (fun w' => w'.cell? ⟨wr.heap.size, 1, none⟩ = some (.string (bytes nl)) ∧ w'.cell? ⟨wr.heap.size, 2, none⟩ = some (.int .i64 e.op) ∧ w'.cell? ⟨wr.heap.size, 3, none⟩ = some (.int .i64 e.num) ∧ w'.cell? ⟨wr.heap.size, 4, none⟩ = some (.string e.name) ∧ w'.cell? ⟨wr.heap.size, 5, none⟩ = some (.slice xa e.args.length xc) ∧ w'.cell? ⟨wr.heap.size, 8, none⟩ = some (.slice aa args.length ac) ∧ w'.cell? ⟨wr.heap.size, 9, none⟩ = some (.slice sa thn.length sc) ∧ w'.cell? ⟨wr.heap.size, 10, none⟩ = some (.slice la els.length lc) ∧ Below wr.heap.size wr w') (first | assumption | (exact held8 ‹_› hb) | (refine ⟨?_, ?_, ?_, ?_, ?_, ?_, ?_, ?_, ?_⟩ <;> first | (go_grown; done) | (go_simp; done))) (first | (go_at_call 122; refine (VE.out _ (by exact held8_below (by assumption))).mono ?_; rintro e w1 ⟨rfl, hb⟩) | (go_at_call 87; refine (VT.out _ (by exact held8_below (by assumption))).mono ?_; rintro e w1 ⟨rfl, hb⟩))
     have hS := (show _ ∧ _ ∧ _ ∧ _ ∧ _ ∧ _ ∧ _ ∧ _ ∧ Below wr.heap.size wr _ by assumption)
     have hB := held8_below hS
     obtain ⟨-, -, -, -, -, -, -, he10, -⟩ := hS
     go_wp2_with fail
     go_roundw
     case rel => exact ⟨k + 1, t7, by go_num, by omega, rfl, HE.out, hbel.trans (hB.mono hbel.size)⟩
     case measure => simp [intOf]; omega
    ·rw [if_neg (by decide), if_neg (by decide), if_neg (by decide), if_neg (by decide), if_neg (by decide), if_neg (by decide), if_pos (by decide), if_pos rfl, if_neg hel] at hpart hct
     obtain ⟨hft, hfl⟩ := hfb (by decide)
     have hfe' := hfe (by decide)
     have VE := Lib.hid (fun w' (hb : Below wr.heap.size wr w') => text_fine e _ w' hfe' (ExprRep.below hb _ hRe))
     obtain ⟨x, hx⟩ : ∃ x, x = exprText e := ⟨_, rfl⟩
     obtain ⟨tb, htb, hltb, hatb⟩ := add_opaque tabs [9] ⟨#[9]⟩ rfl (by simp at hpart ⊢; omega)
     rw [← htb] at hpart hct
     obtain ⟨y, hy⟩ : ∃ y, y = stmtsText tb thn := ⟨_, rfl⟩
     rw [← hx] at VE hpart hct
     rw [← hy] at hpart hct
     obtain ⟨z, hz⟩ : ∃ z, z = stmtsText tb els := ⟨_, rfl⟩
     rw [← hz] at hpart hct
     simp only [List.length_append, List.length_cons, List.length_nil] at hpart hltb
     have VT := Lib.hid (fun w' (hb : Below wr.heap.size wr w') => IH2.out thn (by rw [AStmt.count]; omega) hft tb (by rw [← hy]; omega) (by rw [← hy]; omega) _ w' (hRt.below hb fun a cs _ h => StmtRep.below hb _ h))
     rw [← hy] at VT
     have VL := Lib.hid (fun w' (hb : Below wr.heap.size wr w') => IH2.out els (by rw [AStmt.count]; omega) hfl tb (by rw [← hz]; omega) (by rw [← hz]; omega) _ w' (hRl.below hb fun a cs _ h => StmtRep.below hb _ h))
     rw [← hz] at VL
     obtain ⟨t1, ht1, hlt1, hat1⟩ := add_opaque ta [119, 104, 105, 108, 101, 32] ⟨#[119, 104, 105, 108, 101, 32]⟩ rfl (by simp at hla ⊢; omega)
     obtain ⟨t2, ht2, hlt2, hat2⟩ := add_opaque t1 x (bytes x) rfl (by simp at hla hlt1 ⊢; omega)
     obtain ⟨t3, ht3, hlt3, hat3⟩ := add_opaque t2 [32, 123, 10] ⟨#[32, 123, 10]⟩ rfl (by simp at hla hlt1 hlt2 ⊢; omega)
     obtain ⟨t4, ht4, hlt4, hat4⟩ := add_opaque t3 y (bytes y) rfl (by simp at hla hlt1 hlt2 hlt3 ⊢; omega)
     obtain ⟨t5, ht5, hlt5, hat5⟩ := add_opaque t4 tabs (bytes tabs) rfl (by simp at hla hlt1 hlt2 hlt3 hlt4 ⊢; omega)
     obtain ⟨t6, ht6, hlt6, hat6⟩ := add_opaque t5 [125] ⟨#[125]⟩ rfl (by simp at hla hlt1 hlt2 hlt3 hlt4 hlt5 ⊢; omega)
     obtain ⟨t7, ht7, hlt7, hat7⟩ := add_opaque t6 [32, 101, 108, 115, 101, 32, 123, 10] ⟨#[32, 101, 108, 115, 101, 32, 123, 10]⟩ rfl (by simp at hla hlt1 hlt2 hlt3 hlt4 hlt5 hlt6 ⊢; omega)
     obtain ⟨t8, ht8, hlt8, hat8⟩ := add_opaque t7 z (bytes z) rfl (by simp at hla hlt1 hlt2 hlt3 hlt4 hlt5 hlt6 hlt7 ⊢; omega)
     obtain ⟨t9, ht9, hlt9, hat9⟩ := add_opaque t8 tabs (bytes tabs) rfl (by simp at hla hlt1 hlt2 hlt3 hlt4 hlt5 hlt6 hlt7 hlt8 ⊢; omega)
     obtain ⟨t10, ht10, hlt10, hat10⟩ := add_opaque t9 [125] ⟨#[125]⟩ rfl (by simp at hla hlt1 hlt2 hlt3 hlt4 hlt5 hlt6 hlt7 hlt8 hlt9 ⊢; omega)
     obtain ⟨t11, ht11, hlt11, hat11⟩ := add_opaque t10 [10] ⟨#[10]⟩ rfl (by simp at hla hlt1 hlt2 hlt3 hlt4 hlt5 hlt6 hlt7 hlt8 hlt9 hlt10 ⊢; omega)
     have HE := Lib.hid (show t11 = stmtsText tabs (l.take (k + 1)) by rw [hct, ht11, ht10, ht9, ht8, ht7, ht6, ht5, ht4, ht3, ht2, ht1, HTA.out]; simp only [List.append_assoc, List.cons_append, List.nil_append, List.append_nil])
     have hel' : (0 : Int) < (els.length : Int) := by omega
     clear ht1 hlt1 ht2 hlt2 ht3 hlt3 ht4 hlt4 ht5 hlt5 ht6 hlt6 ht7 hlt7 ht8 hlt8 ht9 hlt9 ht10 hlt10 ht11 hlt11
     clear hx hy htb hltb hft hfl hz
     clear hfe hfg hfr hfb hRe hRr hRa hRt hRl hpart hct hla
     go_wp2_with fail
     go_region_held3 (fun w' => w'.cell? ⟨wr.heap.size, 1, none⟩ = some (.string (bytes nl)) ∧ w'.cell? ⟨wr.heap.size, 2, none⟩ = some (.int .i64 e.op) ∧ w'.cell? ⟨wr.heap.size, 3, none⟩ = some (.int .i64 e.num) ∧ w'.cell? ⟨wr.heap.size, 4, none⟩ = some (.string e.name) ∧ w'.cell? ⟨wr.heap.size, 5, none⟩ = some (.slice xa e.args.length xc) ∧ w'.cell? ⟨wr.heap.size, 8, none⟩ = some (.slice aa args.length ac) ∧ w'.cell? ⟨wr.heap.size, 9, none⟩ = some (.slice sa thn.length sc) ∧ w'.cell? ⟨wr.heap.size, 10, none⟩ = some (.slice la els.length lc) ∧ Below wr.heap.size wr w') (first | assumption | (exact held8 ‹_› hb) | (refine ⟨?_, ?_, ?_, ?_, ?_, ?_, ?_, ?_, ?_⟩ <;> first | (go_grown; done) | (go_simp; done))) (first | (go_at_call 122; refine (VE.out _ (by exact held8_below (by assumption))).mono ?_; rintro e w1 ⟨rfl, hb⟩) | (go_at_call 87; refine (VT.out _ (by exact held8_below (by assumption))).mono ?_; rintro e w1 ⟨rfl, hb⟩))
     have hS := (show _ ∧ _ ∧ _ ∧ _ ∧ _ ∧ _ ∧ _ ∧ _ ∧ Below wr.heap.size wr _ by assumption)
     have hB := held8_below hS
     obtain ⟨-, -, -, -, -, -, -, he10, -⟩ := hS
     go_wp2_with (go_at_call 87; ((with_reducible refine (VL.out _ hB).mono ?_); rintro e w3 ⟨rfl, hb3⟩; have hB3 : Below wr.heap.size wr w3 := Below.step hB hb3))
     go_roundw
     case rel => exact ⟨k + 1, t11, by go_num, by omega, rfl, HE.out, hbel.trans (hB3.mono hbel.size)⟩
     case measure => simp [intOf]; omega
   rw [if_neg hk1, if_neg hk2, if_neg hk3, if_neg hk4, if_neg hk5, if_neg hk6, if_neg (by omega)] at hpart hct
   obtain ⟨t1, ht1, hlt1, hat1⟩ := add_opaque ta [114, 101, 116, 117, 114, 110, 59] ⟨#[114, 101, 116, 117, 114, 110, 59]⟩ rfl (by simp at hpart hla ⊢; omega)
   obtain ⟨t2, ht2, hlt2, hat2⟩ := add_opaque t1 [10] ⟨#[10]⟩ rfl (by simp at hpart hla hlt1 ⊢; omega)
   have HE := Lib.hid (show t2 = stmtsText tabs (l.take (k + 1)) by rw [hct, ht2, ht1, HTA.out]; simp only [List.append_assoc, List.cons_append, List.nil_append, List.append_nil])
   have q1 : (kind == 1) = false := by rw [beq_eq_false_iff_ne]; exact hk1
   have q2 : (kind == 2) = false := by rw [beq_eq_false_iff_ne]; exact hk2
   have q3 : (kind == 3) = false := by rw [beq_eq_false_iff_ne]; exact hk3
   have q4 : (kind == 4) = false := by rw [beq_eq_false_iff_ne]; exact hk4
   have q5 : (kind == 5) = false := by rw [beq_eq_false_iff_ne]; exact hk5
   have q6 : (kind == 6) = false := by rw [beq_eq_false_iff_ne]; exact hk6
   have q7 : (kind == 7) = false := by rw [beq_eq_false_iff_ne]; exact hk7
   have q8 : (kind == 8) = false := by rw [beq_eq_false_iff_ne]; exact hk8
   clear ht1 hlt1 ht2 hlt2
   clear hk1 hk2 hk3 hk4 hk5 hk6 hk7 hk8
   clear hfe hfg hfr hfb hRe hRr hRa hRt hRl hpart hct hla
   go_wp2_with fail
   go_roundw
   case rel => exact ⟨k + 1, t2, by go_num, by omega, rfl, HE.out, hbel.trans ((show Below wr.heap.size wr _ by go_grown).mono hbel.size)⟩
   case measure => simp [intOf]; omega
  ·have hke : k = l.length := by omega
   subst hke
   have hge : ¬ ((l.length : Int) < l.length) := by omega
   rw [List.take_of_length_le (Nat.le_refl _)] at ht
   have HT := Lib.hid ht
   clear ht
   go_wp2_with fail
   go_ret
   exact ⟨ret_str (by rw [HT.out]), hbel⟩
theorem lines_any : ∀ (N : Nat) (l : List AStmt), countL l ≤ N → fineL l → ∀ tabs : List UInt8, (stmtsText tabs l).length + tabs.length ≤ 1000000000000000 → ∀ (v : Value) (w : World), ListRep w (StmtRep w) 11 v l →
  Calls Tryd.prog 87 #[v, .string (bytes tabs)] w fun e w' => e = .returned (.string (bytes (stmtsText tabs l))) ∧ Below w.heap.size w w'
 | 0, l, hN, hf, tabs, hL, v, w, hv => lines_node l tabs v w hf hL hv fun k hk m hm _ _ _ _ _ _ _ => by have := countL_get l k hk; omega
 | N + 1, l, hN, hf, tabs, hL, v, w, hv => lines_node l tabs v w hf hL hv fun k hk m hm hfm tabs' _ hle v' w' hv' => lines_any N m (by have := countL_get l k hk; omega) hfm tabs' (by omega) v' w' hv'
end Go.Proofs.YtlbocidcjmehfaaDoor
