import Derived.Test.YtiimofjemiffgaaDoorROpJ
import Derived.Test.YtiimofjemiffgaaDoorB2J
import Derived.Maps.RangeWalk
set_option linter.unusedVariables false
set_option linter.unusedSimpArgs false
namespace Go.Proofs.YtiimofjemiffgaaDoor
open Go.RowKit
set_option maxRecDepth 100000 in
set_option maxHeartbeats 800000 in
theorem signs_new (k : Nat) (w : World) (hk : k < 5) :
  Calls Tryd.prog 54 #[.int .i64 k] w fun e w' => (∃ sb ob, e = .returned (.tuple #[.slice (some ⟨sb, 0, none⟩) (signsS k).length (signsS k).length, .slice (some ⟨ob, 0, none⟩) (signsS k).length (signsS k).length]) ∧ w.heap.size ≤ sb ∧ w.heap.size ≤ ob ∧ sb < w'.heap.size ∧ ob < w'.heap.size ∧
   (∀ i (h : i < (signsS k).length), w'.cell? ⟨sb, i, none⟩ = some (.string (signsS k)[i])) ∧ (∀ i (h : i < (signsO k).length), w'.cell? ⟨ob, i, none⟩ = some (.int .i64 (signsO k)[i]))) ∧ Keep [] w w' := by
 have hcases : k = 0 ∨ k = 1 ∨ k = 2 ∨ k = 3 ∨ k = 4 := by omega
 rcases hcases with rfl | rfl | rfl | rfl | rfl
 all_goals
  go_enter Tryd.func54, Tryd.ntmps54
  go_wp2_with fail
  go_ret2
  refine ⟨⟨w.heap.size, w.heap.size + 1, ?_, by omega, by omega, by simp; omega, by simp, ?_, ?_⟩, ((Keep.refl _ _).alloc _).alloc _⟩
  ·first | rfl | simp [signsS, go_sem]
  ·intro i h
   simp [signsS] at h ⊢
   rcases (show i = 0 ∨ i = 1 ∨ i = 2 ∨ i = 3 ∨ i = 4 ∨ i = 5 by omega) with rfl | rfl | rfl | rfl | rfl | rfl <;> first | omega | simp [go_sem]
  ·intro i h
   simp [signsO] at h ⊢
   rcases (show i = 0 ∨ i = 1 ∨ i = 2 ∨ i = 3 ∨ i = 4 ∨ i = 5 by omega) with rfl | rfl | rfl | rfl | rfl | rfl <;> first | omega | simp [go_sem]
theorem signs_len (k : Nat) : (signsO k).length = (signsS k).length ∧ 1 ≤ (signsS k).length ∧ (signsS k).length ≤ 6 := by
 rcases k with _ | _ | _ | _ | k <;> simp [signsO, signsS]
theorem signs_free (k : Nat) (hk : k < 5) : ∀ j (h : j < (signsS k).length), reserved (signsS k)[j] = false := by
 rcases (show k = 0 ∨ k = 1 ∨ k = 2 ∨ k = 3 ∨ k = 4 by omega) with rfl | rfl | rfl | rfl | rfl <;> decide
theorem signs_op (k : Nat) (hk : k < 5) : ∀ j (h : j < (signsS k).length) (h' : j < (signsO k).length), (((binOp (signsS k)[j]).1 : Int) = (signsO k)[j]) ∧ (binOp (signsS k)[j]).2 = k + 1 := by
 rcases (show k = 0 ∨ k = 1 ∨ k = 2 ∨ k = 3 ∨ k = 4 by omega) with rfl | rfl | rfl | rfl | rfl <;> decide
theorem signs_all (k : Nat) (hk : k < 5) (s : ByteArray) (h : (binOp s).2 = k + 1) : s ∈ signsS k := by
 by_cases ha : s = bytes [124, 124] ∨ s = bytes [38, 38] ∨ s = bytes [61, 61] ∨ s = bytes [33, 61] ∨ s = bytes [60] ∨ s = bytes [60, 61] ∨ s = bytes [62] ∨ s = bytes [62, 61] ∨ s = bytes [43] ∨ s = bytes [45] ∨ s = bytes [42] ∨ s = bytes [47] ∨ s = bytes [37]
 ·rcases (show k = 0 ∨ k = 1 ∨ k = 2 ∨ k = 3 ∨ k = 4 by omega) with rfl | rfl | rfl | rfl | rfl <;> rcases ha with rfl | rfl | rfl | rfl | rfl | rfl | rfl | rfl | rfl | rfl | rfl | rfl | rfl <;> first | (exfalso; revert h; decide) | simp [signsS, bytes]
 ·exfalso
  simp only [not_or] at ha
  obtain ⟨a1, a2, a3, a4, a5, a6, a7, a8, a9, b1, b2, b3, b4⟩ := ha
  rw [binOp, if_neg a1, if_neg a2, if_neg a3, if_neg a4, if_neg a5, if_neg a6, if_neg a7, if_neg a8, if_neg a9, if_neg b1, if_neg b2, if_neg b3, if_neg b4] at h
  simp at h
theorem isB_op {l : List Tok} (hr : Reg l) {k j lv e : Nat} (hk : k < l.length) (hlv : lv < 5) (hj : j < (signsS lv).length) (h : isB l k e (signsS lv)[j].data.toList = true) : e = 0 ∧ (tokAt l k).kind = 4 ∧ ((binOp (tokAt l k).text).1 : Int) = (signsO lv)[j]'(by rw [(signs_len lv).1]; exact hj) ∧ (binOp (tokAt l k).text).2 = lv + 1 := by
 have he : e = 0 := by
  unfold isB at h; simp at h; exact h.1.1
 subst he
 rw [isB_sign hr hk (by rw [bytes_back]; exact signs_free lv hlv j hj)] at h
 obtain ⟨h1, h2⟩ := signAt_kind h
 rw [bytes_back] at h2
 rw [h2]
 have := signs_op lv hlv j hj (by rw [(signs_len lv).1]; exact hj)
 exact ⟨rfl, h1, this.1, this.2⟩
theorem isB_none {l : List Tok} {k lv : Nat} (hlv : lv < 5) (h : ∀ j (hj : j < (signsS lv).length), isB l k 0 (signsS lv)[j].data.toList = false) : ¬ ((tokAt l k).kind = 4 ∧ (binOp (tokAt l k).text).2 = lv + 1) := by
 rintro ⟨h1, h2⟩
 obtain ⟨j, hj, he⟩ := List.getElem_of_mem (signs_all lv hlv _ h2)
 have := h j hj
 unfold isB at this
 rw [he, bytes_back] at this
 simp [h1] at this
theorem take_rz (sv : ByteArray) (l : List Tok) (b off tc P k bad e nest deep : Nat) (H : List Nat) (w : World) (h : RS l b off tc P H k bad e nest deep w) (hk : k < l.length) :
  Calls Tryd.prog 62 #[.pointer (some ⟨P, 0, none⟩), .string sv] w fun en w' => en = .returned (.bool (isB l k e sv.data.toList)) ∧ RS l b off tc P H (if isB l k e sv.data.toList then k + 1 else k) bad e nest deep w' ∧ Keep [P] w w' := by
 have := take_rs sv.data.toList l b off tc P k bad e nest deep H w h hk
 rw [bytes_back] at this; exact this
theorem mOf_rs {l : List Tok} {b off tc P k bad e nest deep : Nat} {H : List Nat} {w : World} (h : RS l b off tc P H k bad e nest deep w) : mOf l.length P w = if e = 0 then l.length + 1 - k else 0 := by
 unfold mOf atOf; rw [h.c3, h.c1]; simp [intOf]
theorem cell_k {L : List Nat} {w w' : World} {p : Addr} {u : Value} (h : w.cell? p = some u) (hk : Keep L w w') (hn : p.block ∉ L) : w'.cell? p = some u := by
 rw [hk.cell (cell_lt h) hn]; exact h
theorem held_two {P : Program} {ops : Array Oper} {Q : Exit → Act → World → Prop} {md : Region.Mode} {S : World → Prop} (i j : Nat) {oi oj : Oper} {fuel : Nat} {listed : Array Bool} {a : Act} {w : World}
  (hr : Region.ready md ops listed = [i, j]) (hi : ops.toList[i]? = some oi) (hj : ops.toList[j]? = some oj) (hgi : Region.wanted oi (yielded ops a.tmps) = true) (hgj : Region.wanted oj (yielded ops a.tmps) = true)
  (h1 : ∀ K' : Act → World → Prop, Shut (∀ a w, S w → (S w → wpAnyH P md ops Q S fuel (listed.setIfInBounds i true) a w) → K' a w) → Oper.wp P oi a w K' Q)
  (h2 : ∀ K' : Act → World → Prop, Shut (∀ a w, S w → (S w → wpAnyH P md ops Q S fuel (listed.setIfInBounds j true) a w) → K' a w) → Oper.wp P oj a w K' Q) : wpAnyH P md ops Q S (fuel + 1) listed a w :=
 wpAnyH_ready hr (by simp) (AllReadyH.cons (by rw [← Array.getElem?_toList]; exact hi) (fun K' hK => by rw [if_pos hgi]; exact h1 K' hK) (AllReadyH.cons (by rw [← Array.getElem?_toList]; exact hj) (fun K' hK => by rw [if_pos hgj]; exact h2 K' hK) AllReadyH.nil))
def SG (lv sb ob : Nat) (w : World) : Prop := (∀ i (h : i < (signsS lv).length), w.cell? ⟨sb, i, none⟩ = some (.string (signsS lv)[i])) ∧ (∀ i (h : i < (signsO lv).length), w.cell? ⟨ob, i, none⟩ = some (.int .i64 (signsO lv)[i]))
theorem SG.keep {lv sb ob : Nat} {L : List Nat} {w w' : World} (h : SG lv sb ob w) (hk : Keep L w w') (h1 : sb ∉ L) (h2 : ob ∉ L) : SG lv sb ob w' :=
 ⟨fun i hi => by rw [hk.cell (cell_lt (h.1 i hi)) h1]; exact h.1 i hi, fun i hi => by rw [hk.cell (cell_lt (h.2 i hi)) h2]; exact h.2 i hi⟩
def RSt (l : List Tok) (b off tc P bad nest deep : Nat) (H : List Nat) (lev : Nat) (R : Nat → PRes AExpr) (r : PRes AExpr) (B : Nat) (done : Bool) (w wr : World) : Prop :=
 Keep [P] w wr ∧ B < wr.heap.size ∧ Box4 wr w.heap.size (.int .i64 0) (.int .i64 0) (.string ⟨#[]⟩) (.slice none 0 0) ∧
 ∃ (kk bb ee : Nat) (z0 z1 : Int) (z2 : ByteArray) (z3 : Option Addr) (zn zc : Nat), kk < l.length ∧ RS l b off tc P (B :: w.heap.size :: H) kk bb ee nest deep wr ∧ Box4 wr B (.int .i64 z0) (.int .i64 z1) (.string z2) (.slice z3 zn zc) ∧
  ((ee = 0 ∧ bb = bad ∧ ∃ (x : AExpr) (m : Nat), (z0 = x.op ∧ z1 = x.num ∧ z2 = x.name ∧ zn = x.args.length) ∧ (if done then r = .ok x kk else l.length - kk < m ∧ loopP l R lev m x kk = r) ∧ ExprRep (hideL (B :: w.heap.size :: H) wr) x [.int .i64 z0, .int .i64 z1, .string z2, .slice z3 zn zc]) ∨ (0 < ee ∧ r = .err bb ee))
set_option maxRecDepth 100000 in
set_option maxHeartbeats 3200000 in
theorem rbinary_zero (l : List Tok) (b off tc P nest : Nat) (R : Nat → PRes AExpr) (ih : ROpC l b off tc P nest R) : RBinC l b off tc P nest 5 R := by
 intro H k bad deep w h hk hH
 have hl := h.lt
 have HN := Lib.hid (show w.heap.size ≠ P by omega)
 have HS := Lib.hid h
 have HH := Lib.hid hH
 have IH := Lib.hid ih
 have HS1 := Lib.hid (h.new (.cells #[.int .i64 0, .int .i64 0, .string ⟨#[]⟩, .slice none 0 0] 34))
 have HK1 := Lib.hid ((Keep.refl [P] w).alloc (.cells #[.int .i64 0, .int .i64 0, .string ⟨#[]⟩, .slice none 0 0] 34))
 have bx1 := box4_new w (.int .i64 0) (.int .i64 0) (.string ⟨#[]⟩) (.slice none 0 0) 34
 have hz1 : w.heap.size + 1 ≤ (w.alloc (.cells #[.int .i64 0, .int .i64 0, .string ⟨#[]⟩, .slice none 0 0] 34)).heap.size := by simp
 clear h hH ih
 go_enter Tryd.func47, Tryd.ntmps47
 go_wp2_with fail
 generalize w.alloc (.cells #[.int .i64 0, .int .i64 0, .string ⟨#[]⟩, .slice none 0 0] 34) = w1 at HS1 HK1 bx1 hz1 ⊢
 refine (IH.out (w.heap.size :: H) k bad deep _ HS1.out hk (hsub HH.out (by omega))).mono ?_
 intro e w2 hq
 cases hr : R k with
 | ok x k' =>
  rw [hr] at hq
  obtain ⟨⟨xa, xc, rfl, xr⟩, hs2, hk2⟩ := hq
  have bx2 := bx1.keep hk2 (by simpa using HN.out)
  unfold Box4 at bx2
  have HS2 := Lib.hid hs2
  have HK2 := Lib.hid (HK1.out.trans hk2)
  have HR := Lib.hid hr
  have HX := Lib.hid xr
  clear bx1 hs2 hk2 xr hr
  go_wp2_with fail
  refine bodyPost_ret (v := .agg #[.int .i64 x.op, .int .i64 x.num, .string x.name, .slice xa x.args.length xc]) (by simp [results, Tryd.results47, go_sem, bx2]) rfl ?_
  rw [HR.out]
  exact rok_ok HS2.out HS.out.mem hl HK2.out HX.out rfl (by exact keep4 _ _ _ _ _ _)
 | err a er =>
  rw [hr] at hq
  obtain ⟨⟨y0, y1, y2, y3, yn, yc, rfl⟩, ⟨k', hk', hs2⟩, hk2⟩ := hq
  have bx2 := bx1.keep hk2 (by simpa using HN.out)
  unfold Box4 at bx2
  have HS2 := Lib.hid hs2
  have HK2 := Lib.hid (HK1.out.trans hk2)
  have HR := Lib.hid hr
  clear bx1 hs2 hk2 hr
  go_wp2_with fail
  refine bodyPost_ret (v := .agg #[.int .i64 y0, .int .i64 y1, .string y2, .slice y3 yn yc]) (by simp [results, Tryd.results47, go_sem, bx2]) rfl ?_
  rw [HR.out]
  exact rok_err HS2.out HS.out.mem hl HK2.out hk' rfl (by exact keep4 _ _ _ _ _ _)
set_option maxRecDepth 100000 in
set_option maxHeartbeats 6400000 in
theorem rbinary_succ (l : List Tok) (b off tc P nest lev : Nat) (R : Nat → PRes AExpr) (hreg : Reg l) (hel : EndAt l) (hlev : lev < 5) (ih : RBinC l b off tc P nest ((lev + 1 : Nat) : Int) R) (hin : ∀ k, k < l.length → (R k).In l k) : RBinC l b off tc P nest lev (binR l R (lev + 1)) := by
 intro H k bad deep w h hk hH
 have hl := h.lt
 have HN := Lib.hid (show w.heap.size ≠ P by omega)
 have HS := Lib.hid h
 have HH := Lib.hid hH
 have IH := Lib.hid ih
 have HIN := Lib.hid hin
 have HREG := Lib.hid hreg
 have HS1 := Lib.hid (h.new (.cells #[.int .i64 0, .int .i64 0, .string ⟨#[]⟩, .slice none 0 0] 34))
 have HK1 := Lib.hid ((Keep.refl [P] w).alloc (.cells #[.int .i64 0, .int .i64 0, .string ⟨#[]⟩, .slice none 0 0] 34))
 have bx1 := Lib.hid (box4_new w (.int .i64 0) (.int .i64 0) (.string ⟨#[]⟩) (.slice none 0 0) 34)
 have hz1 : w.heap.size + 1 ≤ (w.alloc (.cells #[.int .i64 0, .int .i64 0, .string ⟨#[]⟩, .slice none 0 0] 34)).heap.size := by simp
 have hwl : IntKind.i64.wrap ((lev : Int) + 1) = ((lev + 1 : Nat) : Int) := by rw [show (lev : Int) + 1 = ((lev + 1 : Nat) : Int) by omega]; exact IntWalk.i64_in _ (by omega)
 have hd4 : decide (4 < (lev : Int)) = false := by rw [decide_eq_false_iff_not]; omega
 obtain ⟨RR, hRR⟩ : ∃ RR, RR = binR l R (lev + 1) k := ⟨_, rfl⟩
 rw [← hRR]
 have HRR := Lib.hid hRR
 clear h hH ih hin hreg hRR
 go_enter Tryd.func47, Tryd.ntmps47
 go_wp2_with fail
 generalize w.alloc (.cells #[.int .i64 0, .int .i64 0, .string ⟨#[]⟩, .slice none 0 0] 34) = w1 at HS1 HK1 bx1 hz1 ⊢
 refine (IH.out (w.heap.size :: H) k bad deep _ HS1.out hk (hsub HH.out (by omega))).mono ?_
 intro e w2 hq
 obtain ⟨z0, z1, z2, z3, zn, zc, rfl, hsz, hrel⟩ : ∃ (z0 z1 : Int) (z2 : ByteArray) (z3 : Option Addr) (zn zc : Nat), e = .returned (.agg #[.int .i64 z0, .int .i64 z1, .string z2, .slice z3 zn zc]) ∧ w1.heap.size ≤ w2.heap.size ∧ RSt l b off tc P bad nest deep H (lev + 1) R RR w2.heap.size false w (w2.alloc (.cells #[.int .i64 z0, .int .i64 z1, .string z2, .slice z3 zn zc] 34)) := by
  have hinn := HIN.out k hk
  rw [HRR.out]
  unfold binR
  cases hr : R k with
  | ok x k' =>
   rw [hr] at hq hinn
   obtain ⟨⟨xa, xc, he, xr⟩, hs2, hk2⟩ := hq
   refine ⟨_, _, _, _, _, _, he, hk2.size, (HK1.out.trans hk2).alloc _, by simp, (bx1.out.keep hk2 (by simpa using HN.out)).keep ((Keep.refl [] _).alloc _) (by simp), k', bad, 0, _, _, _, _, _, _, hinn.2, hs2.new _, box4_new _ _ _ _ _ _, .inl ⟨rfl, rfl, x, l.length + 1, ⟨rfl, rfl, rfl, rfl⟩, by rw [if_neg (by simp)]; exact ⟨by omega, rfl⟩, ?_⟩⟩
   refine ExprRep.mono ?_ _ xr
   intro p u hp
   obtain ⟨q1, q2⟩ := hideL_cell hp
   have hpl := cell_lt q1
   rw [hideL_cell_ne _ _ _ (by simp only [List.mem_cons, not_or] at q2 ⊢; exact ⟨by omega, q2⟩), ((Below.refl w2.heap.size w2).alloc (Nat.le_refl _) _).cell hpl]; exact q1
  | err a er =>
   rw [hr] at hq hinn
   obtain ⟨⟨y0, y1, y2, y3, yn, yc, he⟩, ⟨k', hk', hs2⟩, hk2⟩ := hq
   exact ⟨_, _, _, _, _, _, he, hk2.size, (HK1.out.trans hk2).alloc _, by simp, (bx1.out.keep hk2 (by simpa using HN.out)).keep ((Keep.refl [] _).alloc _) (by simp), k', a, er, _, _, _, _, _, _, hk', hs2.new _, box4_new _ _ _ _ _ _, .inr ⟨hinn.2.2.1, rfl⟩⟩
 have hB0 : w.heap.size < w2.heap.size := by omega
 have hrel' := Lib.hid hrel
 clear hq hrel bx1 HS1 HK1
 go_wp2_with fail
 generalize w2.alloc (.cells #[.int .i64 z0, .int .i64 z1, .string z2, .slice z3 zn zc] 34) = w3 at hrel' ⊢
 obtain ⟨B, hB⟩ : ∃ B, B = w2.heap.size := ⟨_, rfl⟩
 rw [← hB] at hrel' hB0 ⊢
 have hBw := Lib.hid hrel'.out.2.1
 clear hB hsz
 have HBP := Lib.hid (show B ≠ P by omega)
 refine (signs_new lev _ hlev).mono ?_
 intro e w4 hq
 obtain ⟨⟨sb, ob, rfl, hsb, hob, hsl, hol, hss, hoo⟩, hk4⟩ := hq
 have hBw' := hBw.out
 have HSB := Lib.hid (show sb ≠ P ∧ sb ≠ B ∧ sb ≠ w.heap.size by omega)
 have HOB := Lib.hid (show ob ≠ P ∧ ob ≠ B ∧ ob ≠ w.heap.size by omega)
 have HSG : Hid (SG lev sb ob w4) := Lib.hid ⟨hss, hoo⟩
 have hrel4 : Hid (RSt l b off tc P bad nest deep H (lev + 1) R RR B false w w4) := Lib.hid (by
   obtain ⟨g1, g2, g3, kk, bb, ee, z0, z1, z2, z3, zn, zc, g4, g5, g6, g7⟩ := hrel'.out
   refine ⟨g1.trans (hk4.mono (by simp)), Nat.lt_of_lt_of_le g2 hk4.size, g3.keep hk4 (by simp), kk, bb, ee, z0, z1, z2, z3, zn, zc, g4, g5.keep0 hk4, g6.keep hk4 (by simp), ?_⟩
   rcases g7 with ⟨e1, e2, x, m, e3, e4, e5⟩ | g7
   ·exact .inl ⟨e1, e2, x, m, e3, e4, ExprRep.below (hk4.mono (H' := B :: w.heap.size :: H) (by simp)).hide _ e5⟩
   ·exact .inr g7)
 obtain ⟨n, hn⟩ : ∃ n, n = (signsS lev).length := ⟨_, rfl⟩
 have hn6 := signs_len lev
 rw [← hn] at hn6 ⊢
 have HNN := Lib.hid hn
 have hn1 := hn6.2.1
 have hn2 := hn6.2.2
 have HOL := Lib.hid hn6.1
 clear hn6 hn hss hoo hrel' hBw hBw' hk4 hsb hob hsl hol
 go_wp2_with fail
 go_loopw [8] (fun v wr => (v = .bool true ∧ RSt l b off tc P bad nest deep H (lev + 1) R RR B false w wr ∧ SG lev sb ob wr) ∨ (v = .bool false ∧ RSt l b off tc P bad nest deep H (lev + 1) R RR B true w wr)) (fun v wr => match v with | .bool true => 1 + mOf l.length P wr | _ => 0)
 case atStart => exact .inl ⟨rfl, hrel4.out, HSG.out⟩
 case round =>
  rename World => w0
  rcases hrel with hc | hc
  ·obtain ⟨rfl, hst, hsgr⟩ := hc
   obtain ⟨g1, g2, g3, kk, bb, ee, z0, z1, z2, z3, zn, zc, hkk, g5, g6, g7⟩ := hst
   have HG1 := Lib.hid g1
   have HG2 := Lib.hid g2
   have HG3 := Lib.hid g3
   have HSr := Lib.hid g5
   have HG6 := Lib.hid g6
   have G7 := Lib.hid g7
   have HSGr := Lib.hid hsgr
   have HB0 := Lib.hid hB0
   clear g1 g2 g3 g5 g6 g7 hsgr
   go_wp2_with fail
   go_hide hQ
   go_loopw [8, 9] (fun v i wq => ∃ j : Nat, j ≤ n ∧ i = .int .i64 j ∧ ((v = .bool false ∧ Keep [P] w0 wq ∧ RS l b off tc P (B :: w.heap.size :: H) kk bb ee nest deep wq ∧ (∀ i (h : i < (signsS lev).length), i < j → isB l kk ee (signsS lev)[i].data.toList = false)) ∨ (v = .bool true ∧ RSt l b off tc P bad nest deep H (lev + 1) R RR B false w wq ∧ SG lev sb ob wq ∧ mOf l.length P wq < mOf l.length P w0))) (fun v i _ => n - (intOf i).toNat)
   case atStart => exact ⟨0, by omega, rfl, .inl ⟨rfl, Keep.refl _ _, HSr.out, fun i hi h => by omega⟩⟩
   case round =>
    obtain ⟨j, hj, rfl, hc⟩ := hrel
    rcases hc with ⟨rfl, hkq, hsq, hno⟩ | ⟨rfl, hst2, hsg2, hms⟩
    ·by_cases hjn : j < n
     ·have HSG1 := Lib.hid (HSGr.out.keep hkq (by simpa using HSB.out.1) (by simpa using HOB.out.1))
      have hjs : j < (signsS lev).length := by have := HNN.out; omega
      have hsc := HSG1.out.1 j hjs
      have hlt : (j : Int) < n := by omega
      obtain ⟨sv, hsv⟩ : ∃ sv, sv = (signsS lev)[j] := ⟨_, rfl⟩
      rw [← hsv] at hsc
      have HSV := Lib.hid hsv
      have HNO := Lib.hid hno
      have HSQ := Lib.hid hsq
      clear hsv hno hsq
      go_wp2_with fail
      refine (take_rz sv l b off tc P kk bb ee nest deep (B :: w.heap.size :: H) _ HSQ.out hkk).mono ?_
      intro e w1q hq
      obtain ⟨bo, hbo⟩ : ∃ bo, bo = isB l kk ee sv.data.toList := ⟨_, rfl⟩
      rw [← hbo] at hq
      have HBB : Hid (bo = isB l kk ee (signsS lev)[j].data.toList) := Lib.hid (by rw [hbo, HSV.out])
      obtain ⟨rfl, hs1, hk1⟩ := hq
      have hkq := hkq.trans hk1
      have HSG1 := Lib.hid (HSG1.out.keep hk1 (by simpa using HSB.out.1) (by simpa using HOB.out.1))
      clear hk1 hbo hsc HSQ
      cases bo with
      | true =>
       rw [if_pos rfl] at hs1
       have HSq := Lib.hid hs1
       clear hs1
       have HBB : Hid (true = isB l kk ee (signsS lev)[j].data.toList) := HBB
       go_wp2_with fail
       obtain ⟨e0, t4, tO, t2⟩ := isB_op HREG.out hkk hlev (by have := HNN.out; omega) HBB.out.symm
       subst e0
       rcases G7.out with ⟨_, eb, x, m, ⟨rfl, rfl, rfl, rfl⟩, hlp, hxr⟩ | ⟨h0, _⟩
       rotate_left
       ·omega
       rw [if_neg (by simp)] at hlp
       obtain ⟨hm, hlp⟩ := hlp
       have eb2 := eb.symm
       subst eb2
       have HLP := Lib.hid hlp
       have HT4 := Lib.hid t4
       have HT2 := Lib.hid t2
       have hk2 : kk + 1 < l.length := hel.more hkk (by omega)
       obtain ⟨op, hop⟩ : ∃ op : Int, op = (binOp (tokAt l kk).text).1 := ⟨_, rfl⟩
       have HOP := Lib.hid hop.symm
       rw [← hop] at tO
       have hoc := HSG1.out.2 j (by have := HNN.out; have := HOL.out; omega)
       rw [← tO] at hoc
       clear t4 t2 tO hop hlp
       have HXr := Lib.hid hxr
       clear hxr
       refine wp_region_held_drew (S := fun w' => w'.cell? ⟨ob, j, none⟩ = some (.int .i64 op)) (by kernel_rfl) hoc (fun hHeld => ?_)
       have kd : Keep [P] w0 w1q.drew := hkq.trans (Keep.refl _ _).drew
       have hb2 := Lib.hid (HG3.out.keep kd (by simpa using HN.out))
       have hB2 := Lib.hid (HG6.out.keep kd (by simpa using HBP.out))
       have HK2 := Lib.hid (HG1.out.trans kd)
       have HSG2 := Lib.hid (HSGr.out.keep kd (by simpa using HSB.out.1) (by simpa using HOB.out.1))
       have HS2 := Lib.hid (HSq.out.keep0 (Keep.refl [] _).drew)
       have hz2 := Lib.hid (Nat.lt_of_lt_of_le HG2.out kd.size)
       have HX2 := Lib.hid (ExprRep.below (kd.mono (H' := (B :: w.heap.size :: H)) (by intro y hy; simp at hy; subst hy; exact List.mem_cons_of_mem _ (List.mem_cons_of_mem _ HS.out.mem))).hide _ HXr.out)
       clear kd hoc HSG1 HSq hkq
       generalize w1q.drew = w2q at hHeld hb2 hB2 HK2 HSG2 HS2 hz2 HX2 ⊢
       refine held_take 0 (v := ?vv13) (by kernel_rfl) rfl (by rfl) (by kernel_rfl) (by kernel_rfl) (fun _ _ _ h => by subst hQ; exact h) ?hyy13 (by assumption) ?rest13
       case hyy13 => (intro w hSw; (try dsimp only at hSw); go_simp; (try with_reducible rfl))
       (try go_frame)
       refine held_take 1 (v := ?vv14) (by kernel_rfl) rfl (by rfl) (by kernel_rfl) (by kernel_rfl) (fun _ _ _ h => by subst hQ; exact h) ?hyy14 (by assumption) ?rest14
       case hyy14 => (intro w hSw; (try dsimp only at hSw); go_simp; (try with_reducible rfl))
       (try go_frame)
       refine held_take 2 (v := ?vv15) (by kernel_rfl) rfl (by rfl) (by kernel_rfl) (by kernel_rfl) (fun _ _ _ h => by subst hQ; exact h) ?hyy15 (by assumption) ?rest15
       case hyy15 => (intro w hSw; (try dsimp only at hSw); go_simp; (try with_reducible rfl))
       (try go_frame)
       refine held_take 3 (v := ?vv16) (by kernel_rfl) rfl (by rfl) (by kernel_rfl) (by kernel_rfl) (fun _ _ _ h => by subst hQ; exact h) ?hyy16 (by assumption) ?rest16
       case hyy16 => (intro w hSw; (try dsimp only at hSw); go_simp; (try with_reducible rfl))
       (try go_frame)
       refine held_take 5 (v := ?vv17) (by kernel_rfl) rfl (by rfl) (by kernel_rfl) (by kernel_rfl) (fun _ _ _ h => by subst hQ; exact h) ?hyy17 (by assumption) ?rest17
       case hyy17 => (intro w hSw; (try dsimp only at hSw); go_simp; (try with_reducible rfl))
       (try go_frame)
       refine held_take 6 (v := ?vv18) (by kernel_rfl) rfl (by rfl) (by kernel_rfl) (by kernel_rfl) (fun _ _ _ h => by subst hQ; exact h) ?hyy18 (by assumption) ?rest18
       case hyy18 => (intro w hSw; (try dsimp only at hSw); go_simp; (try with_reducible rfl))
       (try go_frame)
       refine held_take 7 (v := ?vv19) (by kernel_rfl) rfl (by rfl) (by kernel_rfl) (by kernel_rfl) (fun _ _ _ h => by subst hQ; exact h) ?hyy19 (by assumption) ?rest19
       case hyy19 => (intro w hSw; (try dsimp only at hSw); go_simp; (try with_reducible rfl))
       (try go_frame)
       refine held_two 4 8 (by kernel_rfl) rfl rfl (by rfl) (by rfl) (fun K' hK => ?_) (fun K' hK => ?_)
       ·have xb := hB2.out
        unfold Box4 at xb
        go_simp
        (try dsimp only)
        refine hK.out _ _ hHeld (fun hHeld' => ?_)
        clear hK K' hHeld xb
        have hHeld := hHeld'
        clear hHeld'
        (try go_frame)
        refine held_one 8 (by kernel_rfl) rfl (by rfl) (fun K' hK => ?_)
        go_simp
        refine (IH.out (B :: w.heap.size :: H) (kk + 1) bad deep _ HS2.out hk2 (by intro q hq; have h5 := hz2.out; have h6 := HB0.out; rcases List.mem_cons.1 hq with rfl | hq; exact h5; rcases List.mem_cons.1 hq with rfl | hq; omega; have := HH.out q hq; omega)).mono ?_
        intro e w5 hq
        have hinn := HIN.out (kk + 1) hk2
        cases hr : R (kk + 1) with
        | ok y k2 =>
         rw [hr] at hq hinn
         obtain ⟨hin1, hin2⟩ := hinn
         obtain ⟨⟨ya, yc, rfl, yr⟩, hs5, hk5⟩ := hq
         have hb5 := Lib.hid (hb2.out.keep hk5 (by simpa using HN.out))
         have hB5 := Lib.hid (hB2.out.keep hk5 (by simpa using HBP.out))
         have HK5 := Lib.hid (HK2.out.trans hk5)
         have HS5 := Lib.hid hs5
         have HSG5 := Lib.hid (HSG2.out.keep hk5 (by simpa using HSB.out.1) (by simpa using HOB.out.1))
         have hz5 := Lib.hid (Nat.lt_of_lt_of_le hz2.out hk5.size)
         have HR := Lib.hid hr
         have HX5 := Lib.hid (ExprRep.below (hk5.mono (H' := (B :: w.heap.size :: H)) (by intro y hy; simp at hy; subst hy; exact List.mem_cons_of_mem _ (List.mem_cons_of_mem _ HS.out.mem))).hide _ HX2.out)
         have HY5 := Lib.hid yr
         (try dsimp only)
         refine hK.out _ _ (by rw [hk5.cell (cell_lt hHeld) (by simpa using HOB.out.1)]; exact hHeld) (fun hHeld' => ?_)
         clear hK K' hHeld
         have hHeld := hHeld'
         clear hHeld'
         (try go_frame)
         clear hb2 hB2 HK2 HS2 HSG2 hz2 HX2 hs5 hk5 hr yr
         refine held_one 9 (by kernel_rfl) rfl (by rfl) (fun K' hK => ?_)
         go_simp
         (try dsimp only)
         refine hK.out _ _ (cell_step hHeld ((Below.refl _ _).alloc (Nat.le_refl _) _)) (fun hHeld' => ?_)
         clear hK K' hHeld
         have hHeld := hHeld'
         clear hHeld'
         (try go_frame)
         refine held_take 10 (v := ?vv20) (by kernel_rfl) rfl (by rfl) (by kernel_rfl) (by kernel_rfl) (fun _ _ _ h => by subst hQ; exact h) ?hyy20 (by assumption) ?rest20
         case hyy20 => (intro w hSw; (try dsimp only at hSw); go_simp; (try with_reducible rfl))
         (try go_frame)
         have hbz := hB5.out.keep ((Keep.refl [] _).alloc (.cells #[.int .i64 x.op, .int .i64 x.num, .string x.name, .slice z3 x.args.length zc, .int .i64 y.op, .int .i64 y.num, .string y.name, .slice ya y.args.length yc] 34)) (by simp)
         have hbZ := Lib.hid hbz
         unfold Box4 at hbz
         refine held_one 11 (by kernel_rfl) rfl (by rfl) (fun K' hK => ?_)
         go_simp
         (try dsimp only)
         refine hK.out _ _ (cell_k hHeld (keep4 _ _ _ _ _ _) (by simpa using HOB.out.2.1)) (fun hHeld' => ?_)
         clear hK K' hHeld hbz
         have hHeld := hHeld'
         clear hHeld'
         (try go_frame)
         refine held_take 12 (v := ?vv21) (by kernel_rfl) rfl (by rfl) (by kernel_rfl) (by kernel_rfl) (fun _ _ _ h => by subst hQ; exact h) ?hyy21 (by assumption) ?rest21
         case hyy21 => (intro w hSw; (try dsimp only at hSw); go_simp; (try with_reducible rfl))
         (try go_frame)
         clear hHeld
         refine wpAnyH_done (by kernel_rfl) ?_ _
         go_wp2_with fail
         go_roundw
         case rel =>
          refine ⟨j + 1, by omega, by go_num, ?_⟩
          have hx := exprRep_row (H := (B :: w.heap.size :: H)) (w := w5) (by intro q hq; have h5 := hz5.out; have h6 := HB0.out; rcases List.mem_cons.1 hq with rfl | hq; exact h5; rcases List.mem_cons.1 hq with rfl | hq; omega; have := HH.out q hq; omega) op 0 emptyB [x, y] [[.int .i64 x.op, .int .i64 x.num, .string x.name, .slice z3 x.args.length zc], [.int .i64 y.op, .int .i64 y.num, .string y.name, .slice ya y.args.length yc]] 34 rfl (fun k h h' => by rcases (show k = 0 ∨ k = 1 by simp at h; omega) with rfl | rfl; exact HX5.out; exact HY5.out) _ rfl
          exact .inr ⟨rfl, ⟨((((HK5.out.alloc (.cells #[.int .i64 x.op, .int .i64 x.num, .string x.name, .slice z3 x.args.length zc, .int .i64 y.op, .int .i64 y.num, .string y.name, .slice ya y.args.length yc] 34)).setCell (.inr (by have := HB0.out; simp; omega)) _).setCell (.inr (by have := HB0.out; simp; omega)) _).setCell (.inr (by have := HB0.out; simp; omega)) _).setCell (.inr (by have := HB0.out; simp; omega)) _, by have := hz5.out; simp; omega, (hb5.out.keep ((Keep.refl [] _).alloc (.cells #[.int .i64 x.op, .int .i64 x.num, .string x.name, .slice z3 x.args.length zc, .int .i64 y.op, .int .i64 y.num, .string y.name, .slice ya y.args.length yc] 34)) (by simp)).keep (keep4 B (w5.alloc (.cells #[.int .i64 x.op, .int .i64 x.num, .string x.name, .slice z3 x.args.length zc, .int .i64 y.op, .int .i64 y.num, .string y.name, .slice ya y.args.length yc] 34)) (.int .i64 op) (.int .i64 0) (.string ⟨#[]⟩) (.slice (some ⟨w5.heap.size, 0, none⟩) 2 2)) (by have := HB0.out; simp; omega), k2, bad, 0, op, 0, ⟨#[]⟩, some ⟨w5.heap.size, 0, none⟩, 2, 2, by omega, ((HS5.out.keep0 ((Keep.refl [] _).alloc (.cells #[.int .i64 x.op, .int .i64 x.num, .string x.name, .slice z3 x.args.length zc, .int .i64 y.op, .int .i64 y.num, .string y.name, .slice ya y.args.length yc] 34))).keep (keep4 B (w5.alloc (.cells #[.int .i64 x.op, .int .i64 x.num, .string x.name, .slice z3 x.args.length zc, .int .i64 y.op, .int .i64 y.num, .string y.name, .slice ya y.args.length yc] 34)) (.int .i64 op) (.int .i64 0) (.string ⟨#[]⟩) (.slice (some ⟨w5.heap.size, 0, none⟩) 2 2)) (by intro q hq; simp at hq; subst hq; simp) (by have := HBP.out; simp; omega)), box4_put hbZ.out (.int .i64 op) (.int .i64 0) (.string ⟨#[]⟩) (.slice (some ⟨w5.heap.size, 0, none⟩) 2 2), .inl ⟨rfl, rfl, .mk op 0 emptyB [x, y], m - 1, ⟨rfl, rfl, rfl, rfl⟩, by rw [if_neg (by simp)]; exact ⟨by omega, by rw [← HLP.out, ← HOP.out]; exact (loop_ok HT4.out HT2.out HR.out (by omega)).symm⟩, ExprRep.below ((keep4 B (w5.alloc (.cells #[.int .i64 x.op, .int .i64 x.num, .string x.name, .slice z3 x.args.length zc, .int .i64 y.op, .int .i64 y.num, .string y.name, .slice ya y.args.length yc] 34)) (.int .i64 op) (.int .i64 0) (.string ⟨#[]⟩) (.slice (some ⟨w5.heap.size, 0, none⟩) 2 2)).mono (H' := (B :: w.heap.size :: H)) (by intro q hq; simp at hq; subst hq; simp)).hide _ hx⟩⟩, ((HSG5.out.keep ((Keep.refl [] _).alloc (.cells #[.int .i64 x.op, .int .i64 x.num, .string x.name, .slice z3 x.args.length zc, .int .i64 y.op, .int .i64 y.num, .string y.name, .slice ya y.args.length yc] 34)) (by simp) (by simp)).keep (keep4 B (w5.alloc (.cells #[.int .i64 x.op, .int .i64 x.num, .string x.name, .slice z3 x.args.length zc, .int .i64 y.op, .int .i64 y.num, .string y.name, .slice ya y.args.length yc] 34)) (.int .i64 op) (.int .i64 0) (.string ⟨#[]⟩) (.slice (some ⟨w5.heap.size, 0, none⟩) 2 2)) (by simpa using HSB.out.2.1) (by simpa using HOB.out.2.1)), by rw [mOf_rs ((HS5.out.keep0 ((Keep.refl [] _).alloc (.cells #[.int .i64 x.op, .int .i64 x.num, .string x.name, .slice z3 x.args.length zc, .int .i64 y.op, .int .i64 y.num, .string y.name, .slice ya y.args.length yc] 34))).keep (keep4 B (w5.alloc (.cells #[.int .i64 x.op, .int .i64 x.num, .string x.name, .slice z3 x.args.length zc, .int .i64 y.op, .int .i64 y.num, .string y.name, .slice ya y.args.length yc] 34)) (.int .i64 op) (.int .i64 0) (.string ⟨#[]⟩) (.slice (some ⟨w5.heap.size, 0, none⟩) 2 2)) (by intro q hq; simp at hq; subst hq; simp) (by have := HBP.out; simp; omega)), mOf_rs HSr.out, if_pos rfl, if_pos rfl]; omega⟩
         case measure => simp [intOf]; omega
        | err k2 er =>
         rw [hr] at hq hinn
         obtain ⟨hin1, hin2, hin3, hin4⟩ := hinn
         obtain ⟨⟨y0, y1, y2, y3, yn, yc, rfl⟩, ⟨k5, hk5', hs5⟩, hk5⟩ := hq
         have hb5 := Lib.hid (hb2.out.keep hk5 (by simpa using HN.out))
         have hB5 := Lib.hid (hB2.out.keep hk5 (by simpa using HBP.out))
         have HK5 := Lib.hid (HK2.out.trans hk5)
         have HS5 := Lib.hid hs5
         have HSG5 := Lib.hid (HSG2.out.keep hk5 (by simpa using HSB.out.1) (by simpa using HOB.out.1))
         have hz5 := Lib.hid (Nat.lt_of_lt_of_le hz2.out hk5.size)
         have HR := Lib.hid hr
         have HX5 := Lib.hid (ExprRep.below (hk5.mono (H' := (B :: w.heap.size :: H)) (by intro y hy; simp at hy; subst hy; exact List.mem_cons_of_mem _ (List.mem_cons_of_mem _ HS.out.mem))).hide _ HX2.out)
         (try dsimp only)
         refine hK.out _ _ (by rw [hk5.cell (cell_lt hHeld) (by simpa using HOB.out.1)]; exact hHeld) (fun hHeld' => ?_)
         clear hK K' hHeld
         have hHeld := hHeld'
         clear hHeld'
         (try go_frame)
         clear hb2 hB2 HK2 HS2 HSG2 hz2 HX2 hs5 hk5 hr
         refine held_one 9 (by kernel_rfl) rfl (by rfl) (fun K' hK => ?_)
         go_simp
         (try dsimp only)
         refine hK.out _ _ (cell_step hHeld ((Below.refl _ _).alloc (Nat.le_refl _) _)) (fun hHeld' => ?_)
         clear hK K' hHeld
         have hHeld := hHeld'
         clear hHeld'
         (try go_frame)
         refine held_take 10 (v := ?vv22) (by kernel_rfl) rfl (by rfl) (by kernel_rfl) (by kernel_rfl) (fun _ _ _ h => by subst hQ; exact h) ?hyy22 (by assumption) ?rest22
         case hyy22 => (intro w hSw; (try dsimp only at hSw); go_simp; (try with_reducible rfl))
         (try go_frame)
         have hbz := hB5.out.keep ((Keep.refl [] _).alloc (.cells #[.int .i64 x.op, .int .i64 x.num, .string x.name, .slice z3 x.args.length zc, .int .i64 y0, .int .i64 y1, .string y2, .slice y3 yn yc] 34)) (by simp)
         have hbZ := Lib.hid hbz
         unfold Box4 at hbz
         refine held_one 11 (by kernel_rfl) rfl (by rfl) (fun K' hK => ?_)
         go_simp
         (try dsimp only)
         refine hK.out _ _ (cell_k hHeld (keep4 _ _ _ _ _ _) (by simpa using HOB.out.2.1)) (fun hHeld' => ?_)
         clear hK K' hHeld hbz
         have hHeld := hHeld'
         clear hHeld'
         (try go_frame)
         refine held_take 12 (v := ?vv23) (by kernel_rfl) rfl (by rfl) (by kernel_rfl) (by kernel_rfl) (fun _ _ _ h => by subst hQ; exact h) ?hyy23 (by assumption) ?rest23
         case hyy23 => (intro w hSw; (try dsimp only at hSw); go_simp; (try with_reducible rfl))
         (try go_frame)
         clear hHeld
         refine wpAnyH_done (by kernel_rfl) ?_ _
         go_wp2_with fail
         go_roundw
         case rel =>
          refine ⟨j + 1, by omega, by go_num, ?_⟩
          exact .inr ⟨rfl, ⟨((((HK5.out.alloc (.cells #[.int .i64 x.op, .int .i64 x.num, .string x.name, .slice z3 x.args.length zc, .int .i64 y0, .int .i64 y1, .string y2, .slice y3 yn yc] 34)).setCell (.inr (by have := HB0.out; simp; omega)) _).setCell (.inr (by have := HB0.out; simp; omega)) _).setCell (.inr (by have := HB0.out; simp; omega)) _).setCell (.inr (by have := HB0.out; simp; omega)) _, by have := hz5.out; simp; omega, (hb5.out.keep ((Keep.refl [] _).alloc (.cells #[.int .i64 x.op, .int .i64 x.num, .string x.name, .slice z3 x.args.length zc, .int .i64 y0, .int .i64 y1, .string y2, .slice y3 yn yc] 34)) (by simp)).keep (keep4 B (w5.alloc (.cells #[.int .i64 x.op, .int .i64 x.num, .string x.name, .slice z3 x.args.length zc, .int .i64 y0, .int .i64 y1, .string y2, .slice y3 yn yc] 34)) (.int .i64 op) (.int .i64 0) (.string ⟨#[]⟩) (.slice (some ⟨w5.heap.size, 0, none⟩) 2 2)) (by have := HB0.out; simp; omega), k5, k2, er, op, 0, ⟨#[]⟩, some ⟨w5.heap.size, 0, none⟩, 2, 2, hk5', ((HS5.out.keep0 ((Keep.refl [] _).alloc (.cells #[.int .i64 x.op, .int .i64 x.num, .string x.name, .slice z3 x.args.length zc, .int .i64 y0, .int .i64 y1, .string y2, .slice y3 yn yc] 34))).keep (keep4 B (w5.alloc (.cells #[.int .i64 x.op, .int .i64 x.num, .string x.name, .slice z3 x.args.length zc, .int .i64 y0, .int .i64 y1, .string y2, .slice y3 yn yc] 34)) (.int .i64 op) (.int .i64 0) (.string ⟨#[]⟩) (.slice (some ⟨w5.heap.size, 0, none⟩) 2 2)) (by intro q hq; simp at hq; subst hq; simp) (by have := HBP.out; simp; omega)), box4_put hbZ.out (.int .i64 op) (.int .i64 0) (.string ⟨#[]⟩) (.slice (some ⟨w5.heap.size, 0, none⟩) 2 2), .inr ⟨hin3, by rw [← HLP.out]; exact loop_err HT4.out HT2.out HR.out (by omega)⟩⟩, ((HSG5.out.keep ((Keep.refl [] _).alloc (.cells #[.int .i64 x.op, .int .i64 x.num, .string x.name, .slice z3 x.args.length zc, .int .i64 y0, .int .i64 y1, .string y2, .slice y3 yn yc] 34)) (by simp) (by simp)).keep (keep4 B (w5.alloc (.cells #[.int .i64 x.op, .int .i64 x.num, .string x.name, .slice z3 x.args.length zc, .int .i64 y0, .int .i64 y1, .string y2, .slice y3 yn yc] 34)) (.int .i64 op) (.int .i64 0) (.string ⟨#[]⟩) (.slice (some ⟨w5.heap.size, 0, none⟩) 2 2)) (by simpa using HSB.out.2.1) (by simpa using HOB.out.2.1)), by rw [mOf_rs ((HS5.out.keep0 ((Keep.refl [] _).alloc (.cells #[.int .i64 x.op, .int .i64 x.num, .string x.name, .slice z3 x.args.length zc, .int .i64 y0, .int .i64 y1, .string y2, .slice y3 yn yc] 34))).keep (keep4 B (w5.alloc (.cells #[.int .i64 x.op, .int .i64 x.num, .string x.name, .slice z3 x.args.length zc, .int .i64 y0, .int .i64 y1, .string y2, .slice y3 yn yc] 34)) (.int .i64 op) (.int .i64 0) (.string ⟨#[]⟩) (.slice (some ⟨w5.heap.size, 0, none⟩) 2 2)) (by intro q hq; simp at hq; subst hq; simp) (by have := HBP.out; simp; omega)), mOf_rs HSr.out, if_pos rfl, if_neg (by omega)]; omega⟩
         case measure => simp [intOf]; omega
       ·go_simp
        refine (IH.out (B :: w.heap.size :: H) (kk + 1) bad deep _ HS2.out hk2 (by intro q hq; have h5 := hz2.out; have h6 := HB0.out; rcases List.mem_cons.1 hq with rfl | hq; exact h5; rcases List.mem_cons.1 hq with rfl | hq; omega; have := HH.out q hq; omega)).mono ?_
        intro e w5 hq
        have hinn := HIN.out (kk + 1) hk2
        cases hr : R (kk + 1) with
        | ok y k2 =>
         rw [hr] at hq hinn
         obtain ⟨hin1, hin2⟩ := hinn
         obtain ⟨⟨ya, yc, rfl, yr⟩, hs5, hk5⟩ := hq
         have hb5 := Lib.hid (hb2.out.keep hk5 (by simpa using HN.out))
         have hB5 := Lib.hid (hB2.out.keep hk5 (by simpa using HBP.out))
         have HK5 := Lib.hid (HK2.out.trans hk5)
         have HS5 := Lib.hid hs5
         have HSG5 := Lib.hid (HSG2.out.keep hk5 (by simpa using HSB.out.1) (by simpa using HOB.out.1))
         have hz5 := Lib.hid (Nat.lt_of_lt_of_le hz2.out hk5.size)
         have HR := Lib.hid hr
         have HX5 := Lib.hid (ExprRep.below (hk5.mono (H' := (B :: w.heap.size :: H)) (by intro y hy; simp at hy; subst hy; exact List.mem_cons_of_mem _ (List.mem_cons_of_mem _ HS.out.mem))).hide _ HX2.out)
         have HY5 := Lib.hid yr
         (try dsimp only)
         refine hK.out _ _ (by rw [hk5.cell (cell_lt hHeld) (by simpa using HOB.out.1)]; exact hHeld) (fun hHeld' => ?_)
         clear hK K' hHeld
         have hHeld := hHeld'
         clear hHeld'
         (try go_frame)
         clear hb2 hB2 HK2 HS2 HSG2 hz2 HX2 hs5 hk5 hr yr
         have xb := hB5.out
         unfold Box4 at xb
         refine held_one 4 (by kernel_rfl) rfl (by rfl) (fun K' hK => ?_)
         go_simp
         (try dsimp only)
         refine hK.out _ _ hHeld (fun hHeld' => ?_)
         clear hK K' hHeld xb
         have hHeld := hHeld'
         clear hHeld'
         (try go_frame)
         refine held_one 9 (by kernel_rfl) rfl (by rfl) (fun K' hK => ?_)
         go_simp
         (try dsimp only)
         refine hK.out _ _ (cell_step hHeld ((Below.refl _ _).alloc (Nat.le_refl _) _)) (fun hHeld' => ?_)
         clear hK K' hHeld
         have hHeld := hHeld'
         clear hHeld'
         (try go_frame)
         refine held_take 10 (v := ?vv24) (by kernel_rfl) rfl (by rfl) (by kernel_rfl) (by kernel_rfl) (fun _ _ _ h => by subst hQ; exact h) ?hyy24 (by assumption) ?rest24
         case hyy24 => (intro w hSw; (try dsimp only at hSw); go_simp; (try with_reducible rfl))
         (try go_frame)
         have hbz := hB5.out.keep ((Keep.refl [] _).alloc (.cells #[.int .i64 x.op, .int .i64 x.num, .string x.name, .slice z3 x.args.length zc, .int .i64 y.op, .int .i64 y.num, .string y.name, .slice ya y.args.length yc] 34)) (by simp)
         have hbZ := Lib.hid hbz
         unfold Box4 at hbz
         refine held_one 11 (by kernel_rfl) rfl (by rfl) (fun K' hK => ?_)
         go_simp
         (try dsimp only)
         refine hK.out _ _ (cell_k hHeld (keep4 _ _ _ _ _ _) (by simpa using HOB.out.2.1)) (fun hHeld' => ?_)
         clear hK K' hHeld hbz
         have hHeld := hHeld'
         clear hHeld'
         (try go_frame)
         refine held_take 12 (v := ?vv25) (by kernel_rfl) rfl (by rfl) (by kernel_rfl) (by kernel_rfl) (fun _ _ _ h => by subst hQ; exact h) ?hyy25 (by assumption) ?rest25
         case hyy25 => (intro w hSw; (try dsimp only at hSw); go_simp; (try with_reducible rfl))
         (try go_frame)
         clear hHeld
         refine wpAnyH_done (by kernel_rfl) ?_ _
         go_wp2_with fail
         go_roundw
         case rel =>
          refine ⟨j + 1, by omega, by go_num, ?_⟩
          have hx := exprRep_row (H := (B :: w.heap.size :: H)) (w := w5) (by intro q hq; have h5 := hz5.out; have h6 := HB0.out; rcases List.mem_cons.1 hq with rfl | hq; exact h5; rcases List.mem_cons.1 hq with rfl | hq; omega; have := HH.out q hq; omega) op 0 emptyB [x, y] [[.int .i64 x.op, .int .i64 x.num, .string x.name, .slice z3 x.args.length zc], [.int .i64 y.op, .int .i64 y.num, .string y.name, .slice ya y.args.length yc]] 34 rfl (fun k h h' => by rcases (show k = 0 ∨ k = 1 by simp at h; omega) with rfl | rfl; exact HX5.out; exact HY5.out) _ rfl
          exact .inr ⟨rfl, ⟨((((HK5.out.alloc (.cells #[.int .i64 x.op, .int .i64 x.num, .string x.name, .slice z3 x.args.length zc, .int .i64 y.op, .int .i64 y.num, .string y.name, .slice ya y.args.length yc] 34)).setCell (.inr (by have := HB0.out; simp; omega)) _).setCell (.inr (by have := HB0.out; simp; omega)) _).setCell (.inr (by have := HB0.out; simp; omega)) _).setCell (.inr (by have := HB0.out; simp; omega)) _, by have := hz5.out; simp; omega, (hb5.out.keep ((Keep.refl [] _).alloc (.cells #[.int .i64 x.op, .int .i64 x.num, .string x.name, .slice z3 x.args.length zc, .int .i64 y.op, .int .i64 y.num, .string y.name, .slice ya y.args.length yc] 34)) (by simp)).keep (keep4 B (w5.alloc (.cells #[.int .i64 x.op, .int .i64 x.num, .string x.name, .slice z3 x.args.length zc, .int .i64 y.op, .int .i64 y.num, .string y.name, .slice ya y.args.length yc] 34)) (.int .i64 op) (.int .i64 0) (.string ⟨#[]⟩) (.slice (some ⟨w5.heap.size, 0, none⟩) 2 2)) (by have := HB0.out; simp; omega), k2, bad, 0, op, 0, ⟨#[]⟩, some ⟨w5.heap.size, 0, none⟩, 2, 2, by omega, ((HS5.out.keep0 ((Keep.refl [] _).alloc (.cells #[.int .i64 x.op, .int .i64 x.num, .string x.name, .slice z3 x.args.length zc, .int .i64 y.op, .int .i64 y.num, .string y.name, .slice ya y.args.length yc] 34))).keep (keep4 B (w5.alloc (.cells #[.int .i64 x.op, .int .i64 x.num, .string x.name, .slice z3 x.args.length zc, .int .i64 y.op, .int .i64 y.num, .string y.name, .slice ya y.args.length yc] 34)) (.int .i64 op) (.int .i64 0) (.string ⟨#[]⟩) (.slice (some ⟨w5.heap.size, 0, none⟩) 2 2)) (by intro q hq; simp at hq; subst hq; simp) (by have := HBP.out; simp; omega)), box4_put hbZ.out (.int .i64 op) (.int .i64 0) (.string ⟨#[]⟩) (.slice (some ⟨w5.heap.size, 0, none⟩) 2 2), .inl ⟨rfl, rfl, .mk op 0 emptyB [x, y], m - 1, ⟨rfl, rfl, rfl, rfl⟩, by rw [if_neg (by simp)]; exact ⟨by omega, by rw [← HLP.out, ← HOP.out]; exact (loop_ok HT4.out HT2.out HR.out (by omega)).symm⟩, ExprRep.below ((keep4 B (w5.alloc (.cells #[.int .i64 x.op, .int .i64 x.num, .string x.name, .slice z3 x.args.length zc, .int .i64 y.op, .int .i64 y.num, .string y.name, .slice ya y.args.length yc] 34)) (.int .i64 op) (.int .i64 0) (.string ⟨#[]⟩) (.slice (some ⟨w5.heap.size, 0, none⟩) 2 2)).mono (H' := (B :: w.heap.size :: H)) (by intro q hq; simp at hq; subst hq; simp)).hide _ hx⟩⟩, ((HSG5.out.keep ((Keep.refl [] _).alloc (.cells #[.int .i64 x.op, .int .i64 x.num, .string x.name, .slice z3 x.args.length zc, .int .i64 y.op, .int .i64 y.num, .string y.name, .slice ya y.args.length yc] 34)) (by simp) (by simp)).keep (keep4 B (w5.alloc (.cells #[.int .i64 x.op, .int .i64 x.num, .string x.name, .slice z3 x.args.length zc, .int .i64 y.op, .int .i64 y.num, .string y.name, .slice ya y.args.length yc] 34)) (.int .i64 op) (.int .i64 0) (.string ⟨#[]⟩) (.slice (some ⟨w5.heap.size, 0, none⟩) 2 2)) (by simpa using HSB.out.2.1) (by simpa using HOB.out.2.1)), by rw [mOf_rs ((HS5.out.keep0 ((Keep.refl [] _).alloc (.cells #[.int .i64 x.op, .int .i64 x.num, .string x.name, .slice z3 x.args.length zc, .int .i64 y.op, .int .i64 y.num, .string y.name, .slice ya y.args.length yc] 34))).keep (keep4 B (w5.alloc (.cells #[.int .i64 x.op, .int .i64 x.num, .string x.name, .slice z3 x.args.length zc, .int .i64 y.op, .int .i64 y.num, .string y.name, .slice ya y.args.length yc] 34)) (.int .i64 op) (.int .i64 0) (.string ⟨#[]⟩) (.slice (some ⟨w5.heap.size, 0, none⟩) 2 2)) (by intro q hq; simp at hq; subst hq; simp) (by have := HBP.out; simp; omega)), mOf_rs HSr.out, if_pos rfl, if_pos rfl]; omega⟩
         case measure => simp [intOf]; omega
        | err k2 er =>
         rw [hr] at hq hinn
         obtain ⟨hin1, hin2, hin3, hin4⟩ := hinn
         obtain ⟨⟨y0, y1, y2, y3, yn, yc, rfl⟩, ⟨k5, hk5', hs5⟩, hk5⟩ := hq
         have hb5 := Lib.hid (hb2.out.keep hk5 (by simpa using HN.out))
         have hB5 := Lib.hid (hB2.out.keep hk5 (by simpa using HBP.out))
         have HK5 := Lib.hid (HK2.out.trans hk5)
         have HS5 := Lib.hid hs5
         have HSG5 := Lib.hid (HSG2.out.keep hk5 (by simpa using HSB.out.1) (by simpa using HOB.out.1))
         have hz5 := Lib.hid (Nat.lt_of_lt_of_le hz2.out hk5.size)
         have HR := Lib.hid hr
         have HX5 := Lib.hid (ExprRep.below (hk5.mono (H' := (B :: w.heap.size :: H)) (by intro y hy; simp at hy; subst hy; exact List.mem_cons_of_mem _ (List.mem_cons_of_mem _ HS.out.mem))).hide _ HX2.out)
         (try dsimp only)
         refine hK.out _ _ (by rw [hk5.cell (cell_lt hHeld) (by simpa using HOB.out.1)]; exact hHeld) (fun hHeld' => ?_)
         clear hK K' hHeld
         have hHeld := hHeld'
         clear hHeld'
         (try go_frame)
         clear hb2 hB2 HK2 HS2 HSG2 hz2 HX2 hs5 hk5 hr
         have xb := hB5.out
         unfold Box4 at xb
         refine held_one 4 (by kernel_rfl) rfl (by rfl) (fun K' hK => ?_)
         go_simp
         (try dsimp only)
         refine hK.out _ _ hHeld (fun hHeld' => ?_)
         clear hK K' hHeld xb
         have hHeld := hHeld'
         clear hHeld'
         (try go_frame)
         refine held_one 9 (by kernel_rfl) rfl (by rfl) (fun K' hK => ?_)
         go_simp
         (try dsimp only)
         refine hK.out _ _ (cell_step hHeld ((Below.refl _ _).alloc (Nat.le_refl _) _)) (fun hHeld' => ?_)
         clear hK K' hHeld
         have hHeld := hHeld'
         clear hHeld'
         (try go_frame)
         refine held_take 10 (v := ?vv26) (by kernel_rfl) rfl (by rfl) (by kernel_rfl) (by kernel_rfl) (fun _ _ _ h => by subst hQ; exact h) ?hyy26 (by assumption) ?rest26
         case hyy26 => (intro w hSw; (try dsimp only at hSw); go_simp; (try with_reducible rfl))
         (try go_frame)
         have hbz := hB5.out.keep ((Keep.refl [] _).alloc (.cells #[.int .i64 x.op, .int .i64 x.num, .string x.name, .slice z3 x.args.length zc, .int .i64 y0, .int .i64 y1, .string y2, .slice y3 yn yc] 34)) (by simp)
         have hbZ := Lib.hid hbz
         unfold Box4 at hbz
         refine held_one 11 (by kernel_rfl) rfl (by rfl) (fun K' hK => ?_)
         go_simp
         (try dsimp only)
         refine hK.out _ _ (cell_k hHeld (keep4 _ _ _ _ _ _) (by simpa using HOB.out.2.1)) (fun hHeld' => ?_)
         clear hK K' hHeld hbz
         have hHeld := hHeld'
         clear hHeld'
         (try go_frame)
         refine held_take 12 (v := ?vv27) (by kernel_rfl) rfl (by rfl) (by kernel_rfl) (by kernel_rfl) (fun _ _ _ h => by subst hQ; exact h) ?hyy27 (by assumption) ?rest27
         case hyy27 => (intro w hSw; (try dsimp only at hSw); go_simp; (try with_reducible rfl))
         (try go_frame)
         clear hHeld
         refine wpAnyH_done (by kernel_rfl) ?_ _
         go_wp2_with fail
         go_roundw
         case rel =>
          refine ⟨j + 1, by omega, by go_num, ?_⟩
          exact .inr ⟨rfl, ⟨((((HK5.out.alloc (.cells #[.int .i64 x.op, .int .i64 x.num, .string x.name, .slice z3 x.args.length zc, .int .i64 y0, .int .i64 y1, .string y2, .slice y3 yn yc] 34)).setCell (.inr (by have := HB0.out; simp; omega)) _).setCell (.inr (by have := HB0.out; simp; omega)) _).setCell (.inr (by have := HB0.out; simp; omega)) _).setCell (.inr (by have := HB0.out; simp; omega)) _, by have := hz5.out; simp; omega, (hb5.out.keep ((Keep.refl [] _).alloc (.cells #[.int .i64 x.op, .int .i64 x.num, .string x.name, .slice z3 x.args.length zc, .int .i64 y0, .int .i64 y1, .string y2, .slice y3 yn yc] 34)) (by simp)).keep (keep4 B (w5.alloc (.cells #[.int .i64 x.op, .int .i64 x.num, .string x.name, .slice z3 x.args.length zc, .int .i64 y0, .int .i64 y1, .string y2, .slice y3 yn yc] 34)) (.int .i64 op) (.int .i64 0) (.string ⟨#[]⟩) (.slice (some ⟨w5.heap.size, 0, none⟩) 2 2)) (by have := HB0.out; simp; omega), k5, k2, er, op, 0, ⟨#[]⟩, some ⟨w5.heap.size, 0, none⟩, 2, 2, hk5', ((HS5.out.keep0 ((Keep.refl [] _).alloc (.cells #[.int .i64 x.op, .int .i64 x.num, .string x.name, .slice z3 x.args.length zc, .int .i64 y0, .int .i64 y1, .string y2, .slice y3 yn yc] 34))).keep (keep4 B (w5.alloc (.cells #[.int .i64 x.op, .int .i64 x.num, .string x.name, .slice z3 x.args.length zc, .int .i64 y0, .int .i64 y1, .string y2, .slice y3 yn yc] 34)) (.int .i64 op) (.int .i64 0) (.string ⟨#[]⟩) (.slice (some ⟨w5.heap.size, 0, none⟩) 2 2)) (by intro q hq; simp at hq; subst hq; simp) (by have := HBP.out; simp; omega)), box4_put hbZ.out (.int .i64 op) (.int .i64 0) (.string ⟨#[]⟩) (.slice (some ⟨w5.heap.size, 0, none⟩) 2 2), .inr ⟨hin3, by rw [← HLP.out]; exact loop_err HT4.out HT2.out HR.out (by omega)⟩⟩, ((HSG5.out.keep ((Keep.refl [] _).alloc (.cells #[.int .i64 x.op, .int .i64 x.num, .string x.name, .slice z3 x.args.length zc, .int .i64 y0, .int .i64 y1, .string y2, .slice y3 yn yc] 34)) (by simp) (by simp)).keep (keep4 B (w5.alloc (.cells #[.int .i64 x.op, .int .i64 x.num, .string x.name, .slice z3 x.args.length zc, .int .i64 y0, .int .i64 y1, .string y2, .slice y3 yn yc] 34)) (.int .i64 op) (.int .i64 0) (.string ⟨#[]⟩) (.slice (some ⟨w5.heap.size, 0, none⟩) 2 2)) (by simpa using HSB.out.2.1) (by simpa using HOB.out.2.1)), by rw [mOf_rs ((HS5.out.keep0 ((Keep.refl [] _).alloc (.cells #[.int .i64 x.op, .int .i64 x.num, .string x.name, .slice z3 x.args.length zc, .int .i64 y0, .int .i64 y1, .string y2, .slice y3 yn yc] 34))).keep (keep4 B (w5.alloc (.cells #[.int .i64 x.op, .int .i64 x.num, .string x.name, .slice z3 x.args.length zc, .int .i64 y0, .int .i64 y1, .string y2, .slice y3 yn yc] 34)) (.int .i64 op) (.int .i64 0) (.string ⟨#[]⟩) (.slice (some ⟨w5.heap.size, 0, none⟩) 2 2)) (by intro q hq; simp at hq; subst hq; simp) (by have := HBP.out; simp; omega)), mOf_rs HSr.out, if_pos rfl, if_neg (by omega)]; omega⟩
         case measure => simp [intOf]; omega
      | false =>
       rw [if_neg (by simp)] at hs1
       have HSq := Lib.hid hs1
       clear hs1 HSG1
       go_wp2_with fail
       go_roundw
       case rel =>
        refine ⟨j + 1, by omega, by go_num, .inl ⟨rfl, hkq, HSq.out, fun i hi hij => ?_⟩⟩
        rcases Nat.lt_or_ge i j with h | h
        ·exact HNO.out i hi h
        ·obtain rfl : i = j := by omega
         exact HBB.out.symm
       case measure => simp [intOf]; omega
     ·have hlt : ¬ (j : Int) < n := by omega
      have hdl : decide ((j : Int) < n) = false := by rw [decide_eq_false_iff_not]; exact hlt
      have HNO := Lib.hid hno
      have HSQ := Lib.hid hsq
      clear hno hsq
      go_wp2_with fail
      subst hQ
      go_wp2_with fail
      go_roundw
      case rel =>
       refine .inr ⟨rfl, HG1.out.trans hkq, Nat.lt_of_lt_of_le HG2.out hkq.size, HG3.out.keep hkq (by simpa using HN.out), kk, bb, ee, z0, z1, z2, z3, zn, zc, hkk, HSQ.out, HG6.out.keep hkq (by simpa using HBP.out), ?_⟩
       rcases G7.out with ⟨e1, e2, x, m, e3, e4, e5⟩ | g
       ·subst e1
        rw [if_neg (by simp)] at e4
        exact .inl ⟨rfl, e2, x, m, e3, by rw [if_pos rfl, ← e4.2]; exact loop_done (isB_none hlev (fun i hi => HNO.out i hi (by have := HNN.out; omega))), ExprRep.below (hkq.mono (H' := (B :: w.heap.size :: H)) (by intro y hy; simp at hy; subst hy; exact List.mem_cons_of_mem _ (List.mem_cons_of_mem _ HS.out.mem))).hide _ e5⟩
       ·exact .inr g
      case measure => simp; omega
    ·have HST2 := Lib.hid hst2
     have HSG2 := Lib.hid hsg2
     have HMS := Lib.hid hms
     clear hst2 hsg2 hms
     by_cases hjn : j < n
     ·have hlt : (j : Int) < n := by omega
      have hdl : decide ((j : Int) < n) = true := by rw [decide_eq_true_iff]; exact hlt
      go_wp2_with fail
      subst hQ
      go_wp2_with fail
      go_roundw
      case rel => exact .inl ⟨rfl, HST2.out, HSG2.out⟩
      case measure => have := HMS.out; simp; omega
     ·have hlt : ¬ (j : Int) < n := by omega
      have hdl : decide ((j : Int) < n) = false := by rw [decide_eq_false_iff_not]; exact hlt
      go_wp2_with fail
      subst hQ
      go_wp2_with fail
      go_roundw
      case rel => exact .inl ⟨rfl, HST2.out, HSG2.out⟩
      case measure => have := HMS.out; simp; omega
  ·obtain ⟨rfl, hst⟩ := hc
   obtain ⟨g1, g2, g3, kk, bb, ee, z0, z1, z2, z3, zn, zc, hkk, g5, g6, g7⟩ := hst
   have HG1 := Lib.hid g1
   have HSr := Lib.hid g5
   have G7 := Lib.hid g7
   unfold Box4 at g3 g6
   clear g1 g5 g7
   go_wp2_with fail
   refine bodyPost_ret (v := .agg #[.int .i64 z0, .int .i64 z1, .string z2, .slice z3 zn zc]) (by simp [results, Tryd.results47, go_sem, g3]) rfl ?_
   rcases G7.out with ⟨e1, e2, x, m, ⟨rfl, rfl, rfl, rfl⟩, e4, e5⟩ | ⟨h0, hr⟩
   ·(try simp only [if_true] at e4)
    rw [e4]
    subst e1 e2
    exact rok_ok (HSr.out.drop (List.mem_cons_of_mem _ HS.out.mem)) HS.out.mem hl HG1.out (ExprRep.mono (fun _ _ h => hideL_sub (fun q hq => List.mem_cons_of_mem _ hq) h) _ e5) rfl (by exact keep4 _ _ _ _ _ _)
   ·rw [hr]
    exact rok_err (HSr.out.drop (List.mem_cons_of_mem _ HS.out.mem)) HS.out.mem hl HG1.out hkk rfl (by exact keep4 _ _ _ _ _ _)
end Go.Proofs.YtiimofjemiffgaaDoor
