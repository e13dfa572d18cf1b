import Derived.Test.YtiimofjemiffgaaDoorPExprJ
import Derived.Test.YtiimofjemiffgaaDoorB2J
import Derived.Maps.RangeWalk
import Derived.Maps.RangeWalk
set_option linter.unusedVariables false
set_option linter.unusedSimpArgs false
namespace Go.Proofs.YtiimofjemiffgaaDoor
open Go.RowKit
def singR (l : List Tok) (k : Nat) (pre : Int → PRes AExpr) (enc : PRes AExpr) : PRes AExpr :=
 if (tokAt l k).kind = 2 then .ok (.mk 1 (tokAt l k).num emptyB []) (k + 1)
 else if (tokAt l k).kind = 1 then .ok (.mk 2 0 (tokAt l k).text []) (k + 1)
 else if signAt l k [45] then pre 3 else if signAt l k [33] then pre 4 else if signAt l k [40] then enc else .err k 4
theorem singR_zero (l : List Tok) (k : Nat) : singleP l 0 k = singR l k (fun _ => .err k 3) (.err k 3) := by
 unfold singleP singR
 by_cases h1 : signAt l k [45] <;> by_cases h2 : signAt l k [33] <;> by_cases h3 : signAt l k [40] <;> simp [h1, h2, h3]
theorem singR_succ (l : List Tok) (d k : Nat) : singleP l (d + 1) k = singR l k (fun op => negP op (singleP l d (k + 1))) (parP l (binP l (singleP l d) 5 (k + 1))) := rfl
theorem cells6p {w : World} {p0 p1 p2 p3 p4 p5 : Addr} {u0 u1 u2 u3 u4 u5 : Value} (h : w.cell? p0 = some u0 ∧ w.cell? p1 = some u1 ∧ w.cell? p2 = some u2 ∧ w.cell? p3 = some u3 ∧ w.cell? p4 = some u4 ∧ w.cell? p5 = some u5) (o : Obj) :
  (w.alloc o).cell? p0 = some u0 ∧ (w.alloc o).cell? p1 = some u1 ∧ (w.alloc o).cell? p2 = some u2 ∧ (w.alloc o).cell? p3 = some u3 ∧ (w.alloc o).cell? p4 = some u4 ∧ (w.alloc o).cell? p5 = some u5 :=
 have hb := (Below.refl w.heap.size w).alloc (Nat.le_refl _) o
 ⟨cell_step h.1 hb, cell_step h.2.1 hb, cell_step h.2.2.1 hb, cell_step h.2.2.2.1 hb, cell_step h.2.2.2.2.1 hb, cell_step h.2.2.2.2.2 hb⟩
set_option maxRecDepth 100000 in
set_option maxHeartbeats 3200000 in
theorem single_any (pre : Int → PRes AExpr) (enc : PRes AExpr) (l : List Tok) (b off tc P dep k : Nat) (H : List Nat) (w : World)
  (hpre : ∀ (op : Int) (H : List Nat) (w : World), PS l b off tc P H k dep 0 w → (tokAt l k).kind = 4 → (∀ x, x ∈ H → x < w.heap.size) → Calls Tryd.prog 74 #[.pointer (some ⟨P, 0, none⟩), .int .i64 op] w (EOk l b off tc P H dep w (pre op)))
  (henc : ∀ (H : List Nat) (w : World), PS l b off tc P H k dep 0 w → (tokAt l k).kind = 4 → (∀ x, x ∈ H → x < w.heap.size) → Calls Tryd.prog 75 #[.pointer (some ⟨P, 0, none⟩)] w (EOk l b off tc P H dep w enc))
  (h : PS l b off tc P H k dep 0 w) (hdep : dep ≤ 24) (hk : k < l.length) (hH : ∀ x, x ∈ H → x < w.heap.size) :
  Calls Tryd.prog 50 #[.pointer (some ⟨P, 0, none⟩)] w (EOk l b off tc P H dep w (singR l k pre enc)) := by
 have hl := h.lt
 have HN := Lib.hid (show w.heap.size ≠ P by omega)
 have HS := Lib.hid h
 have HH := Lib.hid hH
 have HP := Lib.hid hpre
 have HE := Lib.hid henc
 have hn := h.new (.cells #[.int .i64 0, .int .i64 0, .string ⟨#[]⟩, .slice none 0 0] 34)
 obtain ⟨q1, q2, q3, q4, hbH, hbl⟩ := hn.tok hk
 have h0 := hn.c0
 have h1 := hn.c1
 have hbig := hn.big
 have hlen : (k : Int) < l.length := by omega
 have HS1 := Lib.hid hn
 have HK1 := Lib.hid ((Keep.refl [P] w).alloc (.cells #[.int .i64 0, .int .i64 0, .string ⟨#[]⟩, .slice none 0 0] 34))
 have bx : (w.alloc (.cells #[.int .i64 0, .int .i64 0, .string ⟨#[]⟩, .slice none 0 0] 34)).cell? ⟨w.heap.size, 0, none⟩ = some (.int .i64 0) ∧ (w.alloc (.cells #[.int .i64 0, .int .i64 0, .string ⟨#[]⟩, .slice none 0 0] 34)).cell? ⟨w.heap.size, 1, none⟩ = some (.int .i64 0) ∧ (w.alloc (.cells #[.int .i64 0, .int .i64 0, .string ⟨#[]⟩, .slice none 0 0] 34)).cell? ⟨w.heap.size, 2, none⟩ = some (.string ⟨#[]⟩) ∧ (w.alloc (.cells #[.int .i64 0, .int .i64 0, .string ⟨#[]⟩, .slice none 0 0] 34)).cell? ⟨w.heap.size, 3, none⟩ = some (.slice none 0 0) ∧ (w.alloc (.cells #[.int .i64 0, .int .i64 0, .string ⟨#[]⟩, .slice none 0 0] 34)).frozen? ⟨w.heap.size, 0, none⟩ = false ∧ (w.alloc (.cells #[.int .i64 0, .int .i64 0, .string ⟨#[]⟩, .slice none 0 0] 34)).frozen? ⟨w.heap.size, 1, none⟩ = false ∧ (w.alloc (.cells #[.int .i64 0, .int .i64 0, .string ⟨#[]⟩, .slice none 0 0] 34)).frozen? ⟨w.heap.size, 2, none⟩ = false ∧ (w.alloc (.cells #[.int .i64 0, .int .i64 0, .string ⟨#[]⟩, .slice none 0 0] 34)).frozen? ⟨w.heap.size, 3, none⟩ = false := ⟨by go_simp, by go_simp, by go_simp, by go_simp, by go_simp, by go_simp, by go_simp, by go_simp⟩
 have hz1 : w.heap.size + 1 = (w.alloc (.cells #[.int .i64 0, .int .i64 0, .string ⟨#[]⟩, .slice none 0 0] 34)).heap.size := by simp
 obtain ⟨n, hn'⟩ : ∃ n, n = l.length := ⟨_, rfl⟩
 rw [← hn'] at h0 hlen hbig
 have HNL := Lib.hid hn'
 obtain ⟨t, ht⟩ : ∃ t, t = tokAt l k := ⟨_, rfl⟩
 rw [← ht] at q1 q2 q3 q4
 have HT := Lib.hid ht
 clear hn hbH h hH hpre henc hn' ht
 go_enter Tryd.func50, Tryd.ntmps50
 go_wp2_with fail
 generalize w.alloc (.cells #[.int .i64 0, .int .i64 0, .string ⟨#[]⟩, .slice none 0 0] 34) = w1 at q1 q2 q3 q4 h0 h1 hbl HS1 HK1 bx hz1 ⊢
 refine wp_region_held_drew (S := fun w' => w'.cell? ⟨P, 0, none⟩ = some (.slice (some ⟨b, off, none⟩) n tc) ∧ w'.cell? ⟨P, 1, none⟩ = some (.int .i64 k) ∧ w'.cell? ⟨b, off + k * 4, none⟩ = some (.int .i64 t.kind) ∧ w'.cell? ⟨b, off + k * 4 + 1, none⟩ = some (.string t.text) ∧ w'.cell? ⟨b, off + k * 4 + 2, none⟩ = some (.int .i64 t.num) ∧ w'.cell? ⟨b, off + k * 4 + 3, none⟩ = some (.int .i64 t.pos)) (by kernel_rfl) ⟨h0, h1, q1, q2, q3, q4⟩ (fun hHeld => ?_)
 have HS2 := Lib.hid (HS1.out.keep (L := []) (Keep.refl _ _).drew (fun _ hx => by simp at hx) (by simp))
 have HK2 := Lib.hid (HK1.out.trans (Keep.refl [P] w1).drew)
 have bx2 := box4 bx (Keep.refl [P] w1).drew (by omega) HN.out
 have hz2 : w.heap.size + 1 = w1.drew.heap.size := hz1
 clear q1 q2 q3 q4 h0 h1 hbl HS1 HK1 bx hz1
 generalize w1.drew = w2 at hHeld HS2 HK2 bx2 hz2 ⊢
 refine held_take 0 (v := ?vv1) (by kernel_rfl) rfl (by rfl) (by kernel_rfl) (by kernel_rfl) (fun _ _ _ h => h) ?hyy1 (by assumption) ?rest1
 case hyy1 => (intro w hSw; (try dsimp only at hSw); go_simp; (try with_reducible rfl))
 (try go_frame)
 refine held_take 1 (v := ?vv2) (by kernel_rfl) rfl (by rfl) (by kernel_rfl) (by kernel_rfl) (fun _ _ _ h => h) ?hyy2 (by assumption) ?rest2
 case hyy2 => (intro w hSw; (try dsimp only at hSw); go_simp; (try with_reducible rfl))
 (try go_frame)
 refine held_take 2 (v := ?vv3) (by kernel_rfl) rfl (by rfl) (by kernel_rfl) (by kernel_rfl) (fun _ _ _ h => h) ?hyy3 (by assumption) ?rest3
 case hyy3 => (intro w hSw; (try dsimp only at hSw); go_simp; (try with_reducible rfl))
 (try go_frame)
 refine held_take 3 (v := ?vv4) (by kernel_rfl) rfl (by rfl) (by kernel_rfl) (by kernel_rfl) (fun _ _ _ h => h) ?hyy4 (by assumption) ?rest4
 case hyy4 => (intro w hSw; (try dsimp only at hSw); go_simp; (try with_reducible rfl))
 (try go_frame)
 refine held_take 4 (v := ?vv5) (by kernel_rfl) rfl (by rfl) (by kernel_rfl) (by kernel_rfl) (fun _ _ _ h => h) ?hyy5 (by assumption) ?rest5
 case hyy5 => (intro w hSw; (try dsimp only at hSw); go_simp; (try with_reducible rfl))
 (try go_frame)
 refine held_take 5 (v := ?vv6) (by kernel_rfl) rfl (by rfl) (by kernel_rfl) (by kernel_rfl) (fun _ _ _ h => h) ?hyy6 (by assumption) ?rest6
 case hyy6 => (intro w hSw; (try dsimp only at hSw); go_simp; (try with_reducible rfl))
 (try go_frame)
 refine held_take 6 (v := ?vv7) (by kernel_rfl) rfl (by rfl) (by kernel_rfl) (by kernel_rfl) (fun _ _ _ h => h) ?hyy7 (by assumption) ?rest7
 case hyy7 => (intro w hSw; (try dsimp only at hSw); go_simp; (try with_reducible rfl))
 (try go_frame)
 refine held_take 7 (v := ?vv8) (by kernel_rfl) rfl (by rfl) (by kernel_rfl) (by kernel_rfl) (fun _ _ _ h => h) ?hyy8 (by assumption) ?rest8
 case hyy8 => (intro w hSw; (try dsimp only at hSw); go_simp; (try with_reducible rfl))
 (try go_frame)
 refine held_take 8 (v := ?vv9) (by kernel_rfl) rfl (by rfl) (by kernel_rfl) (by kernel_rfl) (fun _ _ _ h => h) ?hyy9 (by assumption) ?rest9
 case hyy9 => (intro w hSw; (try dsimp only at hSw); go_simp; (try with_reducible rfl))
 (try go_frame)
 refine held_take 9 (v := ?vv10) (by kernel_rfl) rfl (by rfl) (by kernel_rfl) (by kernel_rfl) (fun _ _ _ h => h) ?hyy10 (by assumption) ?rest10
 case hyy10 => (intro w hSw; (try dsimp only at hSw); go_simp; (try with_reducible rfl))
 (try go_frame)
 have hH0 := hHeld
 refine held_one 10 (by kernel_rfl) rfl (by rfl) (fun K' hK => ?_)
 go_simp
 (try dsimp only)
 refine hK.out _ _ (cells6p hHeld _) (fun hHeld' => ?_)
 clear hK K' hHeld
 have hHeld := hHeld'
 clear hHeld'
 (try go_frame)
 refine held_one 11 (by kernel_rfl) rfl (by rfl) (fun K' hK => ?_)
 go_simp
 (try dsimp only)
 refine hK.out _ _ (cells6p hH0 _) (fun hHeld' => ?_)
 clear hK K' hHeld
 have hHeld := hHeld'
 clear hHeld'
 (try go_frame)
 clear hHeld hH0
 refine wpAnyH_done (by kernel_rfl) ?_ _
 have fx : (w2.alloc (.cells #[.int .i64 t.kind, .string t.text, .int .i64 t.num, .int .i64 t.pos] 26)).cell? ⟨w2.heap.size, 0, none⟩ = some (.int .i64 t.kind) ∧ (w2.alloc (.cells #[.int .i64 t.kind, .string t.text, .int .i64 t.num, .int .i64 t.pos] 26)).cell? ⟨w2.heap.size, 1, none⟩ = some (.string t.text) ∧ (w2.alloc (.cells #[.int .i64 t.kind, .string t.text, .int .i64 t.num, .int .i64 t.pos] 26)).cell? ⟨w2.heap.size, 2, none⟩ = some (.int .i64 t.num) ∧ (w2.alloc (.cells #[.int .i64 t.kind, .string t.text, .int .i64 t.num, .int .i64 t.pos] 26)).cell? ⟨w2.heap.size, 3, none⟩ = some (.int .i64 t.pos) ∧ (w2.alloc (.cells #[.int .i64 t.kind, .string t.text, .int .i64 t.num, .int .i64 t.pos] 26)).frozen? ⟨w2.heap.size, 0, none⟩ = false ∧ (w2.alloc (.cells #[.int .i64 t.kind, .string t.text, .int .i64 t.num, .int .i64 t.pos] 26)).frozen? ⟨w2.heap.size, 1, none⟩ = false ∧ (w2.alloc (.cells #[.int .i64 t.kind, .string t.text, .int .i64 t.num, .int .i64 t.pos] 26)).frozen? ⟨w2.heap.size, 2, none⟩ = false ∧ (w2.alloc (.cells #[.int .i64 t.kind, .string t.text, .int .i64 t.num, .int .i64 t.pos] 26)).frozen? ⟨w2.heap.size, 3, none⟩ = false := ⟨by go_simp, by go_simp, by go_simp, by go_simp, by go_simp, by go_simp, by go_simp, by go_simp⟩
 have bx3 := box4_alloc bx2 (by omega) (.cells #[.int .i64 t.kind, .string t.text, .int .i64 t.num, .int .i64 t.pos] 26)
 have HS3 := Lib.hid ((HS2.out.new (.cells #[.int .i64 t.kind, .string t.text, .int .i64 t.num, .int .i64 t.pos] 26)).drop HS2.out.mem)
 have HK3 := Lib.hid (HK2.out.alloc (.cells #[.int .i64 t.kind, .string t.text, .int .i64 t.num, .int .i64 t.pos] 26))
 have hz3 : w.heap.size + 1 ≤ (w2.alloc (.cells #[.int .i64 t.kind, .string t.text, .int .i64 t.num, .int .i64 t.pos] 26)).heap.size := by simp; omega
 have HNT := Lib.hid (show w2.heap.size ≠ P by have := HS2.out.lt; omega)
 have hTl : w2.heap.size < (w2.alloc (.cells #[.int .i64 t.kind, .string t.text, .int .i64 t.num, .int .i64 t.pos] 26)).heap.size := by simp
 clear HS2 HK2 bx2
 generalize w2.alloc (.cells #[.int .i64 t.kind, .string t.text, .int .i64 t.num, .int .i64 t.pos] 26) = w3 at fx bx3 HS3 HK3 hz3 hTl ⊢
 obtain ⟨T, hT⟩ : ∃ T, T = w2.heap.size := ⟨_, rfl⟩
 rw [← hT] at fx HNT hTl ⊢
 clear hT hz2
 by_cases hk2 : t.kind = 2
 ·have hkb : ((t.kind : Int) == 2) = true := by simp; omega
  have HC := Lib.hid hk2
  clear hk2
  have c1 := HS3.out.c1
  have f1 := HS3.out.free 1
  have hlt := HS3.out.lt
  have hw1 : IntKind.i64.wrap ((k : Int) + 1) = ((k + 1 : Nat) : Int) := by rw [show (k : Int) + 1 = ((k + 1 : Nat) : Int) by omega]; exact IntWalk.i64_in _ (by omega)
  have bz := box4_set bx3 (by omega) HN.out 1 (.int .i64 ((k : Int) + 1))
  have fz := box4_set fx hTl HNT.out 1 (.int .i64 ((k : Int) + 1))
  go_wp2_with fail
  refine bodyPost_ret (v := .agg #[.int .i64 1, .int .i64 t.num, .string ⟨#[]⟩, .slice none 0 0]) (by simp [results, Tryd.results50, go_sem, bz]) rfl ?_
  have hs : singR l k pre enc = .ok (.mk 1 t.num emptyB []) (k + 1) := by unfold singR; rw [← HT.out, if_pos HC.out]
  rw [hs]
  exact eok_ok (x := .mk 1 t.num emptyB []) (a := none) (cap := 0) (wk := w3.setCell ⟨P, 1, none⟩ (.int .i64 ((k : Int) + 1))) (HS3.out.at (k + 1)) HS.out.mem hl (keepP HK3.out _ _) (exprRep_leaf _ _ _ _) rfl (by exact keep4 _ _ _ _ _ _)
 ·have hkb : ((t.kind : Int) == 2) = false := by rw [beq_eq_false_iff_ne]; omega
  have HC := Lib.hid hk2
  clear hk2
  by_cases hk1 : t.kind = 1
  ·have hkc : ((t.kind : Int) == 1) = true := by simp; omega
   have HD := Lib.hid hk1
   clear hk1
   have c1 := HS3.out.c1
   have f1 := HS3.out.free 1
   have hlt := HS3.out.lt
   have hw1 : IntKind.i64.wrap ((k : Int) + 1) = ((k + 1 : Nat) : Int) := by rw [show (k : Int) + 1 = ((k + 1 : Nat) : Int) by omega]; exact IntWalk.i64_in _ (by omega)
   have bz := box4_set bx3 (by omega) HN.out 1 (.int .i64 ((k : Int) + 1))
   have fz := box4_set fx hTl HNT.out 1 (.int .i64 ((k : Int) + 1))
   go_wp2_with fail
   refine bodyPost_ret (v := .agg #[.int .i64 2, .int .i64 0, .string t.text, .slice none 0 0]) (by simp [results, Tryd.results50, go_sem, bz]) rfl ?_
   have hs : singR l k pre enc = .ok (.mk 2 0 t.text []) (k + 1) := by unfold singR; rw [← HT.out, if_neg HC.out, if_pos HD.out]
   rw [hs]
   exact eok_ok (x := .mk 2 0 t.text []) (a := none) (cap := 0) (wk := w3.setCell ⟨P, 1, none⟩ (.int .i64 ((k : Int) + 1))) (HS3.out.at (k + 1)) HS.out.mem hl (keepP HK3.out _ _) (exprRep_leaf _ _ _ _) rfl (by exact keep4 _ _ _ _ _ _)
  ·have hkc : ((t.kind : Int) == 1) = false := by rw [beq_eq_false_iff_ne]; omega
   have HD := Lib.hid hk1
   clear hk1
   go_wp2_with fail
   refine (is_ps [45] l b off tc P k dep 0 (w.heap.size :: H) _ HS3.out hk).mono ?_
   intro e w4 hq
   obtain ⟨rfl, n3, rfl⟩ := hq
   have kd : Keep [P] w3 (w3.drewN n3) := (Keep.refl _ _).drewN _
   have bx4 := box4 bx3 kd (by omega) HN.out
   have HS4 := Lib.hid (HS3.out.drewN n3)
   have HK4 := Lib.hid (HK3.out.trans kd)
   have hz4 : w.heap.size + 1 ≤ (w3.drewN n3).heap.size := hz3
   clear kd bx3 HS3 HK3 hz3
   generalize w3.drewN n3 = w4 at bx4 HS4 HK4 hz4 ⊢
   cases hs1 : signAt l k [45] with
   | true =>
    have HA := Lib.hid hs1
    clear hs1
    go_wp2_with fail
    refine (HP.out 3 (w.heap.size :: H) _ HS4.out (signAt_kind HA.out).1 (hsub HH.out (by omega))).mono ?_
    intro e w5 hq
    cases hr : pre 3 with
    | ok x k' =>
     rw [hr] at hq
     obtain ⟨⟨xa, xc, rfl, xr⟩, hs5, hk5⟩ := hq
     have bx5 := box4 bx4 hk5 (by omega) HN.out
     have HS5 := Lib.hid hs5
     have HK5 := Lib.hid (HK4.out.trans hk5)
     have HR := Lib.hid hr
     have HX := Lib.hid xr
     clear bx4 hs5 hk5 xr hr
     go_wp2_with fail
     refine bodyPost_ret (v := .agg #[.int .i64 x.op, .int .i64 x.num, .string x.name, .slice xa x.args.length xc]) (by simp [results, Tryd.results50, go_sem, bx5]) rfl ?_
     rw [(show singR l k pre enc = _ by unfold singR; rw [← HT.out, if_neg HC.out, if_neg HD.out, if_pos HA.out]), HR.out]
     exact eok_ok HS5.out HS.out.mem hl HK5.out HX.out rfl (by exact keep4 _ _ _ _ _ _)
    | err a er =>
     rw [hr] at hq
     obtain ⟨⟨y0, y1, y2, y3, yn, yc, rfl⟩, ⟨d', hd1, hd2, hs5⟩, hk5⟩ := hq
     have bx5 := box4 bx4 hk5 (by omega) HN.out
     have HS5 := Lib.hid hs5
     have HK5 := Lib.hid (HK4.out.trans hk5)
     have HR := Lib.hid hr
     clear bx4 hs5 hk5 hr
     go_wp2_with fail
     refine bodyPost_ret (v := .agg #[.int .i64 y0, .int .i64 y1, .string y2, .slice y3 yn yc]) (by simp [results, Tryd.results50, go_sem, bx5]) rfl ?_
     rw [(show singR l k pre enc = _ by unfold singR; rw [← HT.out, if_neg HC.out, if_neg HD.out, if_pos HA.out]), HR.out]
     exact eok_err HS5.out HS.out.mem hl HK5.out hd1 hd2 rfl (by exact keep4 _ _ _ _ _ _)
   | false =>
    have HA := Lib.hid hs1
    clear hs1
    go_wp2_with fail
    refine (is_ps [33] l b off tc P k dep 0 (w.heap.size :: H) _ HS4.out hk).mono ?_
    intro e w5 hq
    obtain ⟨rfl, n4, rfl⟩ := hq
    have kd : Keep [P] w4 (w4.drewN n4) := (Keep.refl _ _).drewN _
    have bx5 := box4 bx4 kd (by omega) HN.out
    have HS5 := Lib.hid (HS4.out.drewN n4)
    have HK5 := Lib.hid (HK4.out.trans kd)
    have hz5 : w.heap.size + 1 ≤ (w4.drewN n4).heap.size := hz4
    clear kd bx4 HS4 HK4 hz4
    generalize w4.drewN n4 = w5 at bx5 HS5 HK5 hz5 ⊢
    cases hs2 : signAt l k [33] with
    | true =>
     have HB := Lib.hid hs2
     clear hs2
     go_wp2_with fail
     refine (HP.out 4 (w.heap.size :: H) _ HS5.out (signAt_kind HB.out).1 (hsub HH.out (by omega))).mono ?_
     intro e w6 hq
     cases hr : pre 4 with
     | ok x k' =>
      rw [hr] at hq
      obtain ⟨⟨xa, xc, rfl, xr⟩, hs6, hk6⟩ := hq
      have bx6 := box4 bx5 hk6 (by omega) HN.out
      have HS6 := Lib.hid hs6
      have HK6 := Lib.hid (HK5.out.trans hk6)
      have HR := Lib.hid hr
      have HX := Lib.hid xr
      clear bx5 hs6 hk6 xr hr
      go_wp2_with fail
      refine bodyPost_ret (v := .agg #[.int .i64 x.op, .int .i64 x.num, .string x.name, .slice xa x.args.length xc]) (by simp [results, Tryd.results50, go_sem, bx6]) rfl ?_
      rw [(show singR l k pre enc = _ by unfold singR; rw [← HT.out, if_neg HC.out, if_neg HD.out, if_neg (by rw [HA.out]; simp), if_pos HB.out]), HR.out]
      exact eok_ok HS6.out HS.out.mem hl HK6.out HX.out rfl (by exact keep4 _ _ _ _ _ _)
     | err a er =>
      rw [hr] at hq
      obtain ⟨⟨y0, y1, y2, y3, yn, yc, rfl⟩, ⟨d', hd1, hd2, hs6⟩, hk6⟩ := hq
      have bx6 := box4 bx5 hk6 (by omega) HN.out
      have HS6 := Lib.hid hs6
      have HK6 := Lib.hid (HK5.out.trans hk6)
      have HR := Lib.hid hr
      clear bx5 hs6 hk6 hr
      go_wp2_with fail
      refine bodyPost_ret (v := .agg #[.int .i64 y0, .int .i64 y1, .string y2, .slice y3 yn yc]) (by simp [results, Tryd.results50, go_sem, bx6]) rfl ?_
      rw [(show singR l k pre enc = _ by unfold singR; rw [← HT.out, if_neg HC.out, if_neg HD.out, if_neg (by rw [HA.out]; simp), if_pos HB.out]), HR.out]
      exact eok_err HS6.out HS.out.mem hl HK6.out hd1 hd2 rfl (by exact keep4 _ _ _ _ _ _)
    | false =>
     have HB := Lib.hid hs2
     clear hs2
     go_wp2_with fail
     refine (is_ps [40] l b off tc P k dep 0 (w.heap.size :: H) _ HS5.out hk).mono ?_
     intro e w6 hq
     obtain ⟨rfl, n5, rfl⟩ := hq
     have kd : Keep [P] w5 (w5.drewN n5) := (Keep.refl _ _).drewN _
     have bx6 := box4 bx5 kd (by omega) HN.out
     have HS6 := Lib.hid (HS5.out.drewN n5)
     have HK6 := Lib.hid (HK5.out.trans kd)
     have hz6 : w.heap.size + 1 ≤ (w5.drewN n5).heap.size := hz5
     clear kd bx5 HS5 HK5 hz5
     generalize w5.drewN n5 = w6 at bx6 HS6 HK6 hz6 ⊢
     cases hs3 : signAt l k [40] with
     | true =>
      have HCC := Lib.hid hs3
      clear hs3
      go_wp2_with fail
      refine (HE.out (w.heap.size :: H) _ HS6.out (signAt_kind HCC.out).1 (hsub HH.out (by omega))).mono ?_
      intro e w7 hq
      cases hr : enc with
      | ok x k' =>
       rw [hr] at hq
       obtain ⟨⟨xa, xc, rfl, xr⟩, hs7, hk7⟩ := hq
       have bx7 := box4 bx6 hk7 (by omega) HN.out
       have HS7 := Lib.hid hs7
       have HK7 := Lib.hid (HK6.out.trans hk7)
       have HR := Lib.hid hr
       have HX := Lib.hid xr
       clear bx6 hs7 hk7 xr hr
       go_wp2_with fail
       refine bodyPost_ret (v := .agg #[.int .i64 x.op, .int .i64 x.num, .string x.name, .slice xa x.args.length xc]) (by simp [results, Tryd.results50, go_sem, bx7]) rfl ?_
       rw [(show singR l k pre enc = _ by unfold singR; rw [← HT.out, if_neg HC.out, if_neg HD.out, if_neg (by rw [HA.out]; simp), if_neg (by rw [HB.out]; simp), if_pos HCC.out]), HR.out]
       exact eok_ok HS7.out HS.out.mem hl HK7.out HX.out rfl (by exact keep4 _ _ _ _ _ _)
      | err a er =>
       rw [hr] at hq
       obtain ⟨⟨y0, y1, y2, y3, yn, yc, rfl⟩, ⟨d', hd1, hd2, hs7⟩, hk7⟩ := hq
       have bx7 := box4 bx6 hk7 (by omega) HN.out
       have HS7 := Lib.hid hs7
       have HK7 := Lib.hid (HK6.out.trans hk7)
       have HR := Lib.hid hr
       clear bx6 hs7 hk7 hr
       go_wp2_with fail
       refine bodyPost_ret (v := .agg #[.int .i64 y0, .int .i64 y1, .string y2, .slice y3 yn yc]) (by simp [results, Tryd.results50, go_sem, bx7]) rfl ?_
       rw [(show singR l k pre enc = _ by unfold singR; rw [← HT.out, if_neg HC.out, if_neg HD.out, if_neg (by rw [HA.out]; simp), if_neg (by rw [HB.out]; simp), if_pos HCC.out]), HR.out]
       exact eok_err HS7.out HS.out.mem hl HK7.out hd1 hd2 rfl (by exact keep4 _ _ _ _ _ _)
     | false =>
      have HCC := Lib.hid hs3
      clear hs3
      go_wp2_with fail
      refine (fail_ps 4 l b off tc P k dep 0 (w.heap.size :: H) _ HS6.out).mono ?_
      intro e w7 hq
      obtain ⟨rfl, hs7, hk7⟩ := hq
      have bx7 := box4 bx6 hk7 (by omega) HN.out
      have HS7 := Lib.hid hs7
      have HK7 := Lib.hid (HK6.out.trans hk7)
      clear bx6 hs7 hk7
      go_wp2_with fail
      refine bodyPost_ret (v := .agg #[.int .i64 0, .int .i64 0, .string ⟨#[]⟩, .slice none 0 0]) (by simp [results, Tryd.results50, go_sem, bx7]) rfl ?_
      have hs : singR l k pre enc = .err k 4 := by unfold singR; rw [← HT.out, if_neg HC.out, if_neg HD.out, if_neg (by rw [HA.out]; simp), if_neg (by rw [HB.out]; simp), if_neg (by rw [HCC.out]; simp)]
      rw [hs]
      exact eok_err (d' := dep) HS7.out HS.out.mem hl HK7.out (by omega) hdep rfl (by exact keep4 _ _ _ _ _ _)
end Go.Proofs.YtiimofjemiffgaaDoor
