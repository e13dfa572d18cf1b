import Derived.Test.YtlbocidcjmehfaaDoorMExprJ
import Derived.Test.YtlbocidcjmehfaaDoorB2J
import Derived.Maps.RangeWalk
set_option linter.unusedVariables false
set_option linter.unusedSimpArgs false
namespace Go.Proofs.YtlbocidcjmehfaaDoor
open Go.RowKit
theorem wcells {W S : Nat} {a b : World} {u0 u1 u2 u3 u4 u5 : Value} (h : a.cell? ⟨W, 0, none⟩ = some u0 ∧ a.cell? ⟨W, 1, none⟩ = some u1 ∧ a.cell? ⟨W, 2, none⟩ = some u2 ∧ a.cell? ⟨W, 3, none⟩ = some u3 ∧ a.cell? ⟨W, 4, none⟩ = some u4 ∧ a.cell? ⟨W, 5, none⟩ = some u5) (hk : Keep [S] a b) (hW : W < a.heap.size) (hn : W ≠ S) :
  b.cell? ⟨W, 0, none⟩ = some u0 ∧ b.cell? ⟨W, 1, none⟩ = some u1 ∧ b.cell? ⟨W, 2, none⟩ = some u2 ∧ b.cell? ⟨W, 3, none⟩ = some u3 ∧ b.cell? ⟨W, 4, none⟩ = some u4 ∧ b.cell? ⟨W, 5, none⟩ = some u5 := by
 have c := fun o => hk.cell (p := ⟨W, o, none⟩) hW (by simpa using hn)
 rw [c, c, c, c, c, c]; exact h
set_option maxRecDepth 100000 in
set_option maxHeartbeats 8000000 in
theorem index_any {names : List ByteArray} {H N : List Nat} {S W left : Nat} {ar : Bool} {vg vm vf : Value} {w : World} (size : Int) (v : Value) (h : Src H S w) (hSN : S ∈ N) (hH : ∀ x, x ∈ H → x < w.heap.size) (hv : RowAt (hideL N w) v names.length (names.map .string)) (hl : names.length ≤ 1000000) (hs0 : 0 < size) (hs1 : size ≤ 4611686018427387904)
  (wc : w.cell? ⟨W, 0, none⟩ = some (.pointer (some ⟨S, 0, none⟩)) ∧ w.cell? ⟨W, 1, none⟩ = some vg ∧ w.cell? ⟨W, 2, none⟩ = some vm ∧ w.cell? ⟨W, 3, none⟩ = some vf ∧ w.cell? ⟨W, 4, none⟩ = some (.int .i64 left) ∧ w.cell? ⟨W, 5, none⟩ = some (.bool ar)) (hWS : W ≠ S) (hWl : W < w.heap.size) :
  Calls Tryd.prog 125 #[.pointer (some ⟨W, 0, none⟩), v, .int .i64 size] w (ExprOk names 1 H S w) := by
 have hSl := h.lt
 have hne : w.heap.size ≠ S := by omega
 have HN := Lib.hid hne
 have HWS := Lib.hid hWS
 have HS := Lib.hid h
 have HH := Lib.hid hH
 have HS1 := Lib.hid (h.new (.cells #[.int .i64 0, .int .i64 0, .string ⟨#[]⟩, .slice none 0 0] 50))
 have HSN := Lib.hid hSN
 have HV0 := Lib.hid hv
 have HV1 := Lib.hid (hv.below (((Keep.refl [S] w).alloc (.cells #[.int .i64 0, .int .i64 0, .string ⟨#[]⟩, .slice none 0 0] 50)).mono (by intro y hy; simp at hy; subst hy; exact hSN)).hide (Nat.le_refl _))
 have hK1 := (Keep.refl [S] w).alloc (.cells #[.int .i64 0, .int .i64 0, .string ⟨#[]⟩, .slice none 0 0] 50)
 have wc1 := wcells wc hK1 hWl hWS
 have HK1 := Lib.hid hK1
 have hz1 : w.heap.size + 1 ≤ (w.alloc (.cells #[.int .i64 0, .int .i64 0, .string ⟨#[]⟩, .slice none 0 0] 50)).heap.size := by simp
 have bx1 : (w.alloc (.cells #[.int .i64 0, .int .i64 0, .string ⟨#[]⟩, .slice none 0 0] 50)).cell? ⟨w.heap.size, 0, none⟩ = some (.int .i64 0) ∧ (w.alloc (.cells #[.int .i64 0, .int .i64 0, .string ⟨#[]⟩, .slice none 0 0] 50)).cell? ⟨w.heap.size, 1, none⟩ = some (.int .i64 0) ∧ (w.alloc (.cells #[.int .i64 0, .int .i64 0, .string ⟨#[]⟩, .slice none 0 0] 50)).cell? ⟨w.heap.size, 2, none⟩ = some (.string ⟨#[]⟩) ∧ (w.alloc (.cells #[.int .i64 0, .int .i64 0, .string ⟨#[]⟩, .slice none 0 0] 50)).cell? ⟨w.heap.size, 3, none⟩ = some (.slice none 0 0) ∧ (w.alloc (.cells #[.int .i64 0, .int .i64 0, .string ⟨#[]⟩, .slice none 0 0] 50)).frozen? ⟨w.heap.size, 0, none⟩ = false ∧ (w.alloc (.cells #[.int .i64 0, .int .i64 0, .string ⟨#[]⟩, .slice none 0 0] 50)).frozen? ⟨w.heap.size, 1, none⟩ = false ∧ (w.alloc (.cells #[.int .i64 0, .int .i64 0, .string ⟨#[]⟩, .slice none 0 0] 50)).frozen? ⟨w.heap.size, 2, none⟩ = false ∧ (w.alloc (.cells #[.int .i64 0, .int .i64 0, .string ⟨#[]⟩, .slice none 0 0] 50)).frozen? ⟨w.heap.size, 3, none⟩ = false := ⟨by go_simp, by go_simp, by go_simp, by go_simp, by go_simp, by go_simp, by go_simp, by go_simp⟩
 clear h hv hH hne hWS hK1 wc hSN
 go_enter Tryd.func125, Tryd.ntmps125
 cases ar
 ·go_wp2_with fail
  refine (next_src size (w.heap.size :: H) S _ HS1.out (by omega) (by omega)).mono ?_
  intro e w2 hq
  obtain ⟨q, rfl, q0, q1, hs2, hk2⟩ := Src.next hq
  clear hq
  have bx2 := box4 bx1 hk2 (by omega) HN.out
  have wc2 := wcells wc1 hk2 (by omega) HWS.out
  have hz2 := Nat.le_trans hz1 hk2.size
  have HS2 := Lib.hid hs2
  have HK2 := Lib.hid (HK1.out.trans hk2)
  have HV2 := Lib.hid (HV1.out.below (hk2.mono (by intro y hy; simp at hy; subst hy; exact HSN.out)).hide (Nat.le_refl _))
  clear bx1 wc1 hs2 hk2
  go_wp2_with fail
  refine bodyPost_ret (v := .agg #[.int .i64 1, .int .i64 q, .string ⟨#[]⟩, .slice none 0 0]) (by simp [results, Tryd.results125, go_sem, bx2]) rfl ?_
  exact exprOk_fin (x := .mk 1 q emptyB []) (a := none) (cap := 0) (.num q0 (by omega)) HS2.out HS.out.mem hSl HK2.out (exprRep_leaf _ _ _ _) rfl (by exact keep4 _ _ _ _ _ _)
 ·go_wp2_with fail
  refine (next_src 3 (w.heap.size :: H) S _ HS1.out (by omega) (by omega)).mono ?_
  intro e w2 hq
  obtain ⟨r, rfl, r0, r1, hs2, hk2⟩ := Src.next hq
  clear hq
  have bx2 := box4 bx1 hk2 (by omega) HN.out
  have wc2 := wcells wc1 hk2 (by omega) HWS.out
  have hz2 := Nat.le_trans hz1 hk2.size
  have HS2 := Lib.hid hs2
  have HK2 := Lib.hid (HK1.out.trans hk2)
  have HV2 := Lib.hid (HV1.out.below (hk2.mono (by intro y hy; simp at hy; subst hy; exact HSN.out)).hide (Nat.le_refl _))
  clear bx1 wc1 hs2 hk2
  by_cases hr : r = 1
  ·have hb : (r == 1) = true := by simpa using hr
   clear hr
   go_wp2_with fail
   refine (mexpr_any 1 (by omega) names hl (w.heap.size :: H) N S _ _ HS2.out HSN.out (fun y hy => by rcases List.mem_cons.1 hy with rfl | hy; omega; have := HH.out y hy; omega) HV2.out).mono ?_
   intro e w3 hq
   obtain ⟨⟨x, xa, xc, rfl, xm, xr⟩, hs3, hk3⟩ := hq
   have bx3 := box4 bx2 hk3 (by omega) HN.out
   have wc3 := wcells wc2 hk3 (by omega) HWS.out
   have hz3 := Nat.le_trans hz2 hk3.size
   have HS3 := Lib.hid hs3
   have HK3 := Lib.hid (HK2.out.trans hk3)
   have HV3 := Lib.hid (HV2.out.below (hk3.mono (by intro y hy; simp at hy; subst hy; exact HSN.out)).hide (Nat.le_refl _))
   clear bx2 wc2 hs3 hk3
   have xR := Lib.hid xr
   have xM := Lib.hid xm
   clear xr xm
   go_wp2_with fail
   refine bodyPost_ret (v := .agg #[.int .i64 x.op, .int .i64 x.num, .string x.name, .slice xa x.args.length xc]) (by simp [results, Tryd.results125, go_sem, bx3]) rfl ?_
   exact exprOk_fin (x := x) xM.out HS3.out HS.out.mem hSl HK3.out xR.out rfl (by exact keep4 _ _ _ _ _ _)
  ·have hb : (r == 1) = false := by simpa using hr
   clear hr
   go_wp2_with fail
   refine (next_src size (w.heap.size :: H) S _ HS2.out (by omega) (by omega)).mono ?_
   intro e w3 hq
   obtain ⟨q, rfl, q0, q1, hs3, hk3⟩ := Src.next hq
   clear hq
   have bx3 := box4 bx2 hk3 (by omega) HN.out
   have wc3 := wcells wc2 hk3 (by omega) HWS.out
   have hz3 := Nat.le_trans hz2 hk3.size
   have HS3 := Lib.hid hs3
   have HK3 := Lib.hid (HK2.out.trans hk3)
   have HV3 := Lib.hid (HV2.out.below (hk3.mono (by intro y hy; simp at hy; subst hy; exact HSN.out)).hide (Nat.le_refl _))
   clear bx2 wc2 hs3 hk3
   go_wp2_with fail
   refine bodyPost_ret (v := .agg #[.int .i64 1, .int .i64 q, .string ⟨#[]⟩, .slice none 0 0]) (by simp [results, Tryd.results125, go_sem, bx3]) rfl ?_
   exact exprOk_fin (x := .mk 1 q emptyB []) (a := none) (cap := 0) (.num q0 (by omega)) HS3.out HS.out.mem hSl HK3.out (exprRep_leaf _ _ _ _) rfl (by exact keep4 _ _ _ _ _ _)
structure WSt (H N : List Nat) (S : Nat) (w : World) (v : Value) (names : List ByteArray) (w' : World) : Prop where
 src : Src (w.heap.size :: H) S w'
 keep : Keep [S] w w'
 size : w.heap.size + 1 ≤ w'.heap.size
 row0 : RowAt (hideL N w) v names.length (names.map .string)
 hN : S ∈ N
theorem heldS {P Q : Prop} {H N : List Nat} {S : Nat} {w a : World} {v : Value} {names : List ByteArray} (h : P ∧ Q ∧ Hid (WSt H N S w v names a)) : Src (w.heap.size :: H) S a := h.2.2.out.src
theorem heldZ {P Q : Prop} {H N : List Nat} {S : Nat} {w a : World} {v : Value} {names : List ByteArray} (h : P ∧ Q ∧ Hid (WSt H N S w v names a)) : w.heap.size + 1 ≤ a.heap.size := h.2.2.out.size
theorem heldV {P Q : Prop} {H N : List Nat} {S : Nat} {w a : World} {v : Value} {names : List ByteArray} (h : P ∧ Q ∧ Hid (WSt H N S w v names a)) : RowAt (hideL N a) v names.length (names.map .string) := h.2.2.out.row0.below (h.2.2.out.keep.mono (by intro y hy; simp at hy; subst hy; exact h.2.2.out.hN)).hide (Nat.le_refl _)
theorem heldW {H N : List Nat} {S W : Nat} {w a b : World} {v : Value} {names : List ByteArray} {u0 u1 u2 u3 u4 u5 : Value}
  (h : (a.cell? ⟨W, 0, none⟩ = some u0 ∧ a.cell? ⟨W, 1, none⟩ = some u1 ∧ a.cell? ⟨W, 2, none⟩ = some u2 ∧ a.cell? ⟨W, 3, none⟩ = some u3 ∧ a.cell? ⟨W, 4, none⟩ = some u4 ∧ a.cell? ⟨W, 5, none⟩ = some u5) ∧ ((a.cell? ⟨w.heap.size, 0, none⟩).isSome = true ∧ (a.cell? ⟨w.heap.size, 1, none⟩).isSome = true ∧ (a.cell? ⟨w.heap.size, 2, none⟩).isSome = true ∧ (a.cell? ⟨w.heap.size, 3, none⟩).isSome = true ∧ a.frozen? ⟨w.heap.size, 0, none⟩ = false ∧ a.frozen? ⟨w.heap.size, 1, none⟩ = false ∧ a.frozen? ⟨w.heap.size, 2, none⟩ = false ∧ a.frozen? ⟨w.heap.size, 3, none⟩ = false) ∧ Hid (WSt H N S w v names a)) (hk : Keep [S] a b) (hs : Src (w.heap.size :: H) S b) (hWS : W ≠ S) (hWl : W < w.heap.size) (hN : w.heap.size ≠ S) (hSN : S ∈ N) :
  (b.cell? ⟨W, 0, none⟩ = some u0 ∧ b.cell? ⟨W, 1, none⟩ = some u1 ∧ b.cell? ⟨W, 2, none⟩ = some u2 ∧ b.cell? ⟨W, 3, none⟩ = some u3 ∧ b.cell? ⟨W, 4, none⟩ = some u4 ∧ b.cell? ⟨W, 5, none⟩ = some u5) ∧ ((b.cell? ⟨w.heap.size, 0, none⟩).isSome = true ∧ (b.cell? ⟨w.heap.size, 1, none⟩).isSome = true ∧ (b.cell? ⟨w.heap.size, 2, none⟩).isSome = true ∧ (b.cell? ⟨w.heap.size, 3, none⟩).isSome = true ∧ b.frozen? ⟨w.heap.size, 0, none⟩ = false ∧ b.frozen? ⟨w.heap.size, 1, none⟩ = false ∧ b.frozen? ⟨w.heap.size, 2, none⟩ = false ∧ b.frozen? ⟨w.heap.size, 3, none⟩ = false) ∧ Hid (WSt H N S w v names b) := by
 obtain ⟨h1, h2, h3⟩ := h
 have h4 := h3.out
 have hz := h4.size
 have hB : w.heap.size < a.heap.size := by omega
 have hm : w.heap.size ∉ [S] := by simpa using hN
 have c := fun o => hk.cell (p := ⟨w.heap.size, o, none⟩) hB hm
 have f := fun o => hk.frozen (p := ⟨w.heap.size, o, none⟩) hB hm
 refine ⟨wcells h1 hk (by omega) hWS, by rw [c, c, c, c, f, f, f, f]; exact h2, Lib.hid ⟨hs, h4.keep.trans hk, Nat.le_trans hz hk.size, h4.row0, h4.hN⟩⟩
theorem some_set (a : World) (p q : Addr) (u : Value) (h : (a.cell? q).isSome = true) : ((a.setCell p u).cell? q).isSome = true := by
 obtain ⟨v, hv⟩ := Option.isSome_iff_exists.1 h
 obtain ⟨v', hv'⟩ := cell?_setCell_some (w := a) (p := p) (x := u) hv
 rw [hv']; rfl
theorem heldB {H N : List Nat} {S W : Nat} {w a : World} {v : Value} {names : List ByteArray} {u0 u1 u2 u3 u4 u5 : Value}
  (h : (a.cell? ⟨W, 0, none⟩ = some u0 ∧ a.cell? ⟨W, 1, none⟩ = some u1 ∧ a.cell? ⟨W, 2, none⟩ = some u2 ∧ a.cell? ⟨W, 3, none⟩ = some u3 ∧ a.cell? ⟨W, 4, none⟩ = some u4 ∧ a.cell? ⟨W, 5, none⟩ = some u5) ∧ ((a.cell? ⟨w.heap.size, 0, none⟩).isSome = true ∧ (a.cell? ⟨w.heap.size, 1, none⟩).isSome = true ∧ (a.cell? ⟨w.heap.size, 2, none⟩).isSome = true ∧ (a.cell? ⟨w.heap.size, 3, none⟩).isSome = true ∧ a.frozen? ⟨w.heap.size, 0, none⟩ = false ∧ a.frozen? ⟨w.heap.size, 1, none⟩ = false ∧ a.frozen? ⟨w.heap.size, 2, none⟩ = false ∧ a.frozen? ⟨w.heap.size, 3, none⟩ = false) ∧ Hid (WSt H N S w v names a)) (hWl : W < w.heap.size) (hWS : W ≠ S) (hN : w.heap.size ≠ S) (y0 y1 y2 y3 : Value) :
  (((((a.setCell ⟨w.heap.size, 0, none⟩ y0).setCell ⟨w.heap.size, 1, none⟩ y1).setCell ⟨w.heap.size, 2, none⟩ y2).setCell ⟨w.heap.size, 3, none⟩ y3).cell? ⟨W, 0, none⟩ = some u0 ∧ ((((a.setCell ⟨w.heap.size, 0, none⟩ y0).setCell ⟨w.heap.size, 1, none⟩ y1).setCell ⟨w.heap.size, 2, none⟩ y2).setCell ⟨w.heap.size, 3, none⟩ y3).cell? ⟨W, 1, none⟩ = some u1 ∧ ((((a.setCell ⟨w.heap.size, 0, none⟩ y0).setCell ⟨w.heap.size, 1, none⟩ y1).setCell ⟨w.heap.size, 2, none⟩ y2).setCell ⟨w.heap.size, 3, none⟩ y3).cell? ⟨W, 2, none⟩ = some u2 ∧ ((((a.setCell ⟨w.heap.size, 0, none⟩ y0).setCell ⟨w.heap.size, 1, none⟩ y1).setCell ⟨w.heap.size, 2, none⟩ y2).setCell ⟨w.heap.size, 3, none⟩ y3).cell? ⟨W, 3, none⟩ = some u3 ∧ ((((a.setCell ⟨w.heap.size, 0, none⟩ y0).setCell ⟨w.heap.size, 1, none⟩ y1).setCell ⟨w.heap.size, 2, none⟩ y2).setCell ⟨w.heap.size, 3, none⟩ y3).cell? ⟨W, 4, none⟩ = some u4 ∧ ((((a.setCell ⟨w.heap.size, 0, none⟩ y0).setCell ⟨w.heap.size, 1, none⟩ y1).setCell ⟨w.heap.size, 2, none⟩ y2).setCell ⟨w.heap.size, 3, none⟩ y3).cell? ⟨W, 5, none⟩ = some u5) ∧ ((((((a.setCell ⟨w.heap.size, 0, none⟩ y0).setCell ⟨w.heap.size, 1, none⟩ y1).setCell ⟨w.heap.size, 2, none⟩ y2).setCell ⟨w.heap.size, 3, none⟩ y3).cell? ⟨w.heap.size, 0, none⟩).isSome = true ∧ (((((a.setCell ⟨w.heap.size, 0, none⟩ y0).setCell ⟨w.heap.size, 1, none⟩ y1).setCell ⟨w.heap.size, 2, none⟩ y2).setCell ⟨w.heap.size, 3, none⟩ y3).cell? ⟨w.heap.size, 1, none⟩).isSome = true ∧ (((((a.setCell ⟨w.heap.size, 0, none⟩ y0).setCell ⟨w.heap.size, 1, none⟩ y1).setCell ⟨w.heap.size, 2, none⟩ y2).setCell ⟨w.heap.size, 3, none⟩ y3).cell? ⟨w.heap.size, 2, none⟩).isSome = true ∧ (((((a.setCell ⟨w.heap.size, 0, none⟩ y0).setCell ⟨w.heap.size, 1, none⟩ y1).setCell ⟨w.heap.size, 2, none⟩ y2).setCell ⟨w.heap.size, 3, none⟩ y3).cell? ⟨w.heap.size, 3, none⟩).isSome = true ∧ ((((a.setCell ⟨w.heap.size, 0, none⟩ y0).setCell ⟨w.heap.size, 1, none⟩ y1).setCell ⟨w.heap.size, 2, none⟩ y2).setCell ⟨w.heap.size, 3, none⟩ y3).frozen? ⟨w.heap.size, 0, none⟩ = false ∧ ((((a.setCell ⟨w.heap.size, 0, none⟩ y0).setCell ⟨w.heap.size, 1, none⟩ y1).setCell ⟨w.heap.size, 2, none⟩ y2).setCell ⟨w.heap.size, 3, none⟩ y3).frozen? ⟨w.heap.size, 1, none⟩ = false ∧ ((((a.setCell ⟨w.heap.size, 0, none⟩ y0).setCell ⟨w.heap.size, 1, none⟩ y1).setCell ⟨w.heap.size, 2, none⟩ y2).setCell ⟨w.heap.size, 3, none⟩ y3).frozen? ⟨w.heap.size, 2, none⟩ = false ∧ ((((a.setCell ⟨w.heap.size, 0, none⟩ y0).setCell ⟨w.heap.size, 1, none⟩ y1).setCell ⟨w.heap.size, 2, none⟩ y2).setCell ⟨w.heap.size, 3, none⟩ y3).frozen? ⟨w.heap.size, 3, none⟩ = false) ∧ Hid (WSt H N S w v names ((((a.setCell ⟨w.heap.size, 0, none⟩ y0).setCell ⟨w.heap.size, 1, none⟩ y1).setCell ⟨w.heap.size, 2, none⟩ y2).setCell ⟨w.heap.size, 3, none⟩ y3)) := by
 obtain ⟨h1, ⟨s0, s1, s2, s3, f0, f1, f2, f3⟩, h3⟩ := h
 have h4 := h3.out
 have hz := h4.size
 have hk := keep4 w.heap.size a y0 y1 y2 y3
 have c := fun o => hk.cell (p := ⟨W, o, none⟩) (show W < a.heap.size by omega) (by simp; omega)
 have st := fun o (hs : (a.cell? ⟨w.heap.size, o, none⟩).isSome = true) => some_set _ ⟨w.heap.size, 3, none⟩ ⟨w.heap.size, o, none⟩ y3 (some_set _ ⟨w.heap.size, 2, none⟩ _ y2 (some_set _ ⟨w.heap.size, 1, none⟩ _ y1 (some_set a ⟨w.heap.size, 0, none⟩ _ y0 hs)))
 refine ⟨by rw [c, c, c, c, c, c]; exact h1, ⟨st 0 s0, st 1 s1, st 2 s2, st 3 s3, by simpa using f0, by simpa using f1, by simpa using f2, by simpa using f3⟩, Lib.hid ⟨h4.src.keep hk (by intro y hy; simp at hy; subst hy; simp) (by simp; omega), ?_, Nat.le_trans hz hk.size, h4.row0, h4.hN⟩⟩
 refine ⟨hk.os.trans h4.keep.os, hk.tape.trans h4.keep.tape, hk.output.trans h4.keep.output, Nat.le_trans h4.keep.size hk.size, fun k hkl hn => ?_⟩
 rw [hk.block k (by omega) (by simp; omega)]; exact h4.keep.block k hkl hn
theorem mexpr_z (z : Int) {d : Nat} (hz : z = d) (hd : d ≤ 100) (names : List ByteArray) (hl : names.length ≤ 1000000) (H N : List Nat) (S : Nat) (v : Value) (w : World) (h : Src H S w) (hSN : S ∈ N) (hH : ∀ x, x ∈ H → x < w.heap.size) (hv : RowAt (hideL N w) v names.length (names.map .string)) :
  Calls Tryd.prog 126 #[.pointer (some ⟨S, 0, none⟩), v, .int .i64 z] w (ExprOk names d H S w) := by
 subst hz; exact mexpr_any d hd names hl H N S v w h hSN hH hv
set_option maxRecDepth 100000 in
set_option maxHeartbeats 8000000 in
theorem wexpr_any {names : List ByteArray} {H N : List Nat} {S W left : Nat} {ar : Bool} {vg vm vf : Value} {w : World} (v : Value) (h : Src H S w) (hSN : S ∈ N) (hH : ∀ x, x ∈ H → x < w.heap.size) (hv : RowAt (hideL N w) v names.length (names.map .string)) (hl : names.length ≤ 1000000)
  (wc : w.cell? ⟨W, 0, none⟩ = some (.pointer (some ⟨S, 0, none⟩)) ∧ w.cell? ⟨W, 1, none⟩ = some vg ∧ w.cell? ⟨W, 2, none⟩ = some vm ∧ w.cell? ⟨W, 3, none⟩ = some vf ∧ w.cell? ⟨W, 4, none⟩ = some (.int .i64 left) ∧ w.cell? ⟨W, 5, none⟩ = some (.bool ar)) (hWS : W ≠ S) (hWl : W < w.heap.size) :
  Calls Tryd.prog 89 #[.pointer (some ⟨W, 0, none⟩), v] w (ExprOk names 2 H S w) := by
 have hSl := h.lt
 have hne : w.heap.size ≠ S := by omega
 have HN := Lib.hid hne
 have HWS := Lib.hid hWS
 have HS := Lib.hid h
 have HH := Lib.hid hH
 have HS1 := Lib.hid (h.new (.cells #[.int .i64 0, .int .i64 0, .string ⟨#[]⟩, .slice none 0 0] 50))
 have HSN := Lib.hid hSN
 have HV0 := Lib.hid hv
 have HV1 := Lib.hid (hv.below (((Keep.refl [S] w).alloc (.cells #[.int .i64 0, .int .i64 0, .string ⟨#[]⟩, .slice none 0 0] 50)).mono (by intro y hy; simp at hy; subst hy; exact hSN)).hide (Nat.le_refl _))
 have hK1 := (Keep.refl [S] w).alloc (.cells #[.int .i64 0, .int .i64 0, .string ⟨#[]⟩, .slice none 0 0] 50)
 have wc1 := wcells wc hK1 hWl hWS
 have HK1 := Lib.hid hK1
 have hz1 : w.heap.size + 1 ≤ (w.alloc (.cells #[.int .i64 0, .int .i64 0, .string ⟨#[]⟩, .slice none 0 0] 50)).heap.size := by simp
 have bx1 : (w.alloc (.cells #[.int .i64 0, .int .i64 0, .string ⟨#[]⟩, .slice none 0 0] 50)).cell? ⟨w.heap.size, 0, none⟩ = some (.int .i64 0) ∧ (w.alloc (.cells #[.int .i64 0, .int .i64 0, .string ⟨#[]⟩, .slice none 0 0] 50)).cell? ⟨w.heap.size, 1, none⟩ = some (.int .i64 0) ∧ (w.alloc (.cells #[.int .i64 0, .int .i64 0, .string ⟨#[]⟩, .slice none 0 0] 50)).cell? ⟨w.heap.size, 2, none⟩ = some (.string ⟨#[]⟩) ∧ (w.alloc (.cells #[.int .i64 0, .int .i64 0, .string ⟨#[]⟩, .slice none 0 0] 50)).cell? ⟨w.heap.size, 3, none⟩ = some (.slice none 0 0) ∧ (w.alloc (.cells #[.int .i64 0, .int .i64 0, .string ⟨#[]⟩, .slice none 0 0] 50)).frozen? ⟨w.heap.size, 0, none⟩ = false ∧ (w.alloc (.cells #[.int .i64 0, .int .i64 0, .string ⟨#[]⟩, .slice none 0 0] 50)).frozen? ⟨w.heap.size, 1, none⟩ = false ∧ (w.alloc (.cells #[.int .i64 0, .int .i64 0, .string ⟨#[]⟩, .slice none 0 0] 50)).frozen? ⟨w.heap.size, 2, none⟩ = false ∧ (w.alloc (.cells #[.int .i64 0, .int .i64 0, .string ⟨#[]⟩, .slice none 0 0] 50)).frozen? ⟨w.heap.size, 3, none⟩ = false := ⟨by go_simp, by go_simp, by go_simp, by go_simp, by go_simp, by go_simp, by go_simp, by go_simp⟩
 clear h hv hH hne hWS hK1 wc hSN
 go_enter Tryd.func89, Tryd.ntmps89
 cases ar
 ·go_wp2_with fail
  refine (mexpr_any 0 (by omega) names hl (w.heap.size :: H) N S _ _ HS1.out HSN.out (fun y hy => by rcases List.mem_cons.1 hy with rfl | hy; omega; have := HH.out y hy; omega) HV1.out).mono ?_
  intro e w2 hq
  obtain ⟨⟨x, xa, xc, rfl, xm, xr⟩, hs2, hk2⟩ := hq
  have bx2 := box4 bx1 hk2 (by omega) HN.out
  have wc2 := wcells wc1 hk2 (by omega) HWS.out
  have hz2 := Nat.le_trans hz1 hk2.size
  have HS2 := Lib.hid hs2
  have HK2 := Lib.hid (HK1.out.trans hk2)
  have HV2 := Lib.hid (HV1.out.below (hk2.mono (by intro y hy; simp at hy; subst hy; exact HSN.out)).hide (Nat.le_refl _))
  clear bx1 wc1 hs2 hk2
  have xR := Lib.hid xr
  have xM := Lib.hid xm
  clear xr xm
  go_wp2_with fail
  refine bodyPost_ret (v := .agg #[.int .i64 x.op, .int .i64 x.num, .string x.name, .slice xa x.args.length xc]) (by simp [results, Tryd.results89, go_sem, bx2]) rfl ?_
  exact exprOk_fin (x := x) (xM.out.mono (by omega)) HS2.out HS.out.mem hSl HK2.out xR.out rfl (by exact keep4 _ _ _ _ _ _)
 ·go_wp2_with fail
  refine wp_region_held_drew (S := (fun w' => (w'.cell? ⟨W, 0, none⟩ = some (.pointer (some ⟨S, 0, none⟩)) ∧ w'.cell? ⟨W, 1, none⟩ = some vg ∧ w'.cell? ⟨W, 2, none⟩ = some vm ∧ w'.cell? ⟨W, 3, none⟩ = some vf ∧ w'.cell? ⟨W, 4, none⟩ = some (.int .i64 left) ∧ w'.cell? ⟨W, 5, none⟩ = some (.bool true)) ∧ ((w'.cell? ⟨w.heap.size, 0, none⟩).isSome = true ∧ (w'.cell? ⟨w.heap.size, 1, none⟩).isSome = true ∧ (w'.cell? ⟨w.heap.size, 2, none⟩).isSome = true ∧ (w'.cell? ⟨w.heap.size, 3, none⟩).isSome = true ∧ w'.frozen? ⟨w.heap.size, 0, none⟩ = false ∧ w'.frozen? ⟨w.heap.size, 1, none⟩ = false ∧ w'.frozen? ⟨w.heap.size, 2, none⟩ = false ∧ w'.frozen? ⟨w.heap.size, 3, none⟩ = false) ∧ Hid (WSt H N S w v names w'))) (by kernel_rfl) ⟨wc1, ⟨by rw [World.cell?_drew, bx1.1]; rfl, by rw [World.cell?_drew, bx1.2.1]; rfl, by rw [World.cell?_drew, bx1.2.2.1]; rfl, by rw [World.cell?_drew, bx1.2.2.2.1]; rfl, bx1.2.2.2.2.1, bx1.2.2.2.2.2.1, bx1.2.2.2.2.2.2.1, bx1.2.2.2.2.2.2.2⟩, Lib.hid ⟨HS1.out.keep (H' := []) ((Keep.refl _ _).drew) (fun _ hx => by simp at hx) (by simp), HK1.out.drew, hz1, HV0.out, HSN.out⟩⟩ (fun hHeld => ?_)
  clear wc1 bx1
  refine held_take 0 (v := ?v0) (by kernel_rfl) rfl (by rfl) (by kernel_rfl) (by kernel_rfl) (fun _ _ _ h => h) ?hy0 (by assumption) ?rest0
  case hy0 => (intro w hSw; (try dsimp only at hSw); go_simp; (try with_reducible rfl))
  (try go_frame)
  refine held_take 1 (v := ?v1) (by kernel_rfl) rfl (by rfl) (by kernel_rfl) (by kernel_rfl) (fun _ _ _ h => h) ?hy1 (by assumption) ?rest1
  case hy1 => (intro w hSw; (try dsimp only at hSw); go_simp; (try with_reducible rfl))
  (try go_frame)
  refine held_take 2 (v := ?v2) (by kernel_rfl) rfl (by rfl) (by kernel_rfl) (by kernel_rfl) (fun _ _ _ h => h) ?hy2 (by assumption) ?rest2
  case hy2 => (intro w hSw; (try dsimp only at hSw); go_simp; (try with_reducible rfl))
  (try go_frame)
  refine held_take 3 (v := ?v3) (by kernel_rfl) rfl (by rfl) (by kernel_rfl) (by kernel_rfl) (fun _ _ _ h => h) ?hy3 (by assumption) ?rest3
  case hy3 => (intro w hSw; (try dsimp only at hSw); go_simp; (try with_reducible rfl))
  (try go_frame)
  refine held_take 4 (v := ?v4) (by kernel_rfl) rfl (by rfl) (by kernel_rfl) (by kernel_rfl) (fun _ _ _ h => h) ?hy4 (by assumption) ?rest4
  case hy4 => (intro w hSw; (try dsimp only at hSw); go_simp; (try with_reducible rfl))
  (try go_frame)
  refine held_take 5 (v := ?v5) (by kernel_rfl) rfl (by rfl) (by kernel_rfl) (by kernel_rfl) (fun _ _ _ h => h) ?hy5 (by assumption) ?rest5
  case hy5 => (intro w hSw; (try dsimp only at hSw); go_simp; (try with_reducible rfl))
  (try go_frame)
  refine held_take 6 (v := ?v6) (by kernel_rfl) rfl (by rfl) (by kernel_rfl) (by kernel_rfl) (fun _ _ _ h => h) ?hy6 (by assumption) ?rest6
  case hy6 => (intro w hSw; (try dsimp only at hSw); go_simp; (try with_reducible rfl))
  (try go_frame)
  refine held_take 7 (v := ?v7) (by kernel_rfl) rfl (by rfl) (by kernel_rfl) (by kernel_rfl) (fun _ _ _ h => h) ?hy7 (by assumption) ?rest7
  case hy7 => (intro w hSw; (try dsimp only at hSw); go_simp; (try with_reducible rfl))
  (try go_frame)
  refine held_take 8 (v := ?v8) (by kernel_rfl) rfl (by rfl) (by kernel_rfl) (by kernel_rfl) (fun _ _ _ h => h) ?hy8 (by assumption) ?rest8
  case hy8 => (intro w hSw; (try dsimp only at hSw); go_simp; (try with_reducible rfl))
  (try go_frame)
  refine held_one 9 (by kernel_rfl) rfl (by rfl) (fun K' hK => ?_)
  go_simp
  refine (next_src 2 (w.heap.size :: H) S _ (heldS hHeld) (by omega) (by omega)).mono ?_
  intro e w2 hq
  obtain ⟨r, rfl, r0, r1, hs2, hk2⟩ := Src.next hq
  clear hq
  dsimp only
  refine hK.out _ _ (heldW hHeld hk2 hs2 HWS.out hWl HN.out HSN.out) (fun hHeld2 => ?_)
  clear hK K' hHeld hk2 hs2
  (try go_frame)
  have hw10 : IntKind.i64.wrap (1 + r) = 1 + r := IntWalk.i64_in _ (by omega)
  refine held_take 10 (v := ?v10) (by kernel_rfl) rfl (by rfl) (by kernel_rfl) (by kernel_rfl) (fun _ _ _ h => h) ?hy10 (by assumption) ?rest10
  case hy10 => (intro w hSw; (try dsimp only at hSw); go_simp; (try with_reducible rfl))
  (try go_frame)
  refine held_one 11 (by kernel_rfl) rfl (by rfl) (fun K' hK => ?_)
  go_simp
  refine (mexpr_z (d := (1 + r).toNat) (1 + r) (by omega) (by omega) names hl (w.heap.size :: H) N S _ _ (heldS hHeld2) HSN.out (by intro y hy; have := heldZ hHeld2; rcases List.mem_cons.1 hy with rfl | hy; omega; have := HH.out y hy; omega) (heldV hHeld2)).mono ?_
  intro e w3 hq
  obtain ⟨⟨x, xa, xc, rfl, xm, xr⟩, hs3, hk3⟩ := hq
  dsimp only
  refine hK.out _ _ (heldW hHeld2 hk3 hs3 HWS.out hWl HN.out HSN.out) (fun hHeld3 => ?_)
  have xR := Lib.hid xr
  have xM := Lib.hid xm
  clear hK K' hHeld2 hs3 hk3 xr xm
  (try go_frame)
  have hH3 := hHeld3
  obtain ⟨hwc3, ⟨s0, s1, s2, s3, f0, f1, f2, f3⟩, hR3⟩ := hHeld3
  obtain ⟨y0, e0⟩ := Option.isSome_iff_exists.1 s0
  obtain ⟨y1, e1⟩ := Option.isSome_iff_exists.1 s1
  obtain ⟨y2, e2⟩ := Option.isSome_iff_exists.1 s2
  obtain ⟨y3, e3⟩ := Option.isSome_iff_exists.1 s3
  clear s0 s1 s2 s3
  refine held_one 12 (by kernel_rfl) rfl (by rfl) (fun K' hK => ?_)
  go_simp
  refine hK.out _ _ (heldB hH3 hWl HWS.out HN.out _ _ _ _) (fun hHeld4 => ?_)
  clear hK K' hHeld4 hH3
  refine wpAnyH_done (by kernel_rfl) ?_ _
  go_wp2_with fail
  refine bodyPost_ret (v := .agg #[.int .i64 x.op, .int .i64 x.num, .string x.name, .slice xa x.args.length xc]) (by simp [results, Tryd.results89, go_sem, e0, e1, e2, e3]) rfl ?_
  exact exprOk_fin (x := x) (xM.out.mono (by omega)) hR3.out.src HS.out.mem hSl hR3.out.keep xR.out rfl (by exact keep4 _ _ _ _ _ _)
end Go.Proofs.YtlbocidcjmehfaaDoor
