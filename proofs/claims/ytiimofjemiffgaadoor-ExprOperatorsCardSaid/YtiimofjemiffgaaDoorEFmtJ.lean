import Derived.Test.YtiimofjemiffgaaDoorE4J
import Derived.Test.YtiimofjemiffgaaDoorE5J
import Derived.Lib.AppendStr
import Derived.Maps.RangeWalk
set_option linter.unusedVariables false
set_option linter.unusedSimpArgs false
namespace Go.Proofs.YtiimofjemiffgaaDoor
open Go.RowKit
theorem byteInfo : (Tryd.prog.info? 5).map (fun i => (i.zero, i.size, i.bytes)) = some (some (.int .u8 0), 1, 1) := by kernel_rfl
theorem wp_append_str_fresh {P : Program} (w : World) {o : Oper} {a : Act} {K : Act → World → Prop} {Q : Exit → Act → World → Prop} (s x : Operand) (t u : TypeId)
  (ho : o.op = .call { callee := .builtin .append, args := #[s, x], argTypes := #[t, u] })
  (base : Nat) (e : TypeId) (i : TypeInfo) (ht : P.underlying t = some (.slice e)) (hu : P.underlying u = some .string) (hi : P.info? e = some i) (hz : i.zero = some (.int .u8 0)) (hsize : i.size = 1) (hby : i.bytes = 1)
  (v : Value) (n : Nat) (xs : List Value) (hs : a.eval s = v) (hown : w.ownsRow base e 1 v n xs) (z : ByteArray) (hx : a.eval x = .string z) (h63 : n + z.size ≤ maxLen) (hbytes : n + z.size ≤ 140737488355328) (hbase : base ≤ w.heap.size)
  (h : ∀ v' w', w'.ownsRow base e 1 v' (n + z.size) (xs ++ Lib.strCells z) → w.grownBy w' v.ownBlock → (∀ g, v'.ownBlock = some g → v.ownBlock = some g ∨ w.heap.size ≤ g) → K (a.put o.dst v') w') : o.wp P a w K Q := by
 obtain ⟨v', w', hr, h2, h3, h4⟩ := Lib.run_append_own_string (P := P) w base t u o.type e i ht hu hi hz hsize hby v n xs hown z h63 hbytes hbase
 have hfr : ∀ g, v'.ownBlock = some g → v.ownBlock = some g ∨ w.heap.size ≤ g := by
  rcases hown.2 with ⟨hv0, hn0⟩ | ⟨g, cap, cur, hv0, hbg, hg, hnc, hcm, hcs, htake⟩
  ·obtain ⟨v2, w2, hr2, h5, _, _⟩ := Lib.run_append_own_string (P := P) w w.heap.size t u o.type e i ht hu hi hz hsize hby v n xs ⟨hown.1, .inl ⟨hv0, hn0⟩⟩ z h63 hbytes (Nat.le_refl _)
   rw [hr] at hr2
   injection hr2 with e1 e2
   subst e1
   intro k hk
   exact Or.inr (h5.lt k hk).1
  ·subst hv0
   by_cases hroom : n + z.size ≤ cap
   ·have hr2 := Lib.run_append_room_string (P := P) w t u o.type e i ht hu hi hsize g n cap cur hg z hroom (by omega)
    rw [hr] at hr2
    injection hr2 with e1 e2
    subst e1
    intro k hk
    exact .inl hk
   ·have holds : ∀ j u, xs[j]? = some u → w.cell? ((⟨g, 0, none⟩ : Addr).add j) = some u := hown.cells (g := g) rfl
    have hr2 := Lib.run_append_grow_string (P := P) w t u o.type e i (.int .u8 0) ht hu hi hz ⟨g, 0, none⟩ n cap xs (by rw [hsize]; exact hown.1) holds z (by omega) (by simp only [maxLen] at h63; omega) (by rw [hby]; exact growslice_fits (by omega) (by omega))
    rw [hr] at hr2
    injection hr2 with e1 e2
    subst e1
    intro k hk
    simp [Value.ownBlock] at hk
    exact .inr (by omega)
 unfold Oper.wp execOp
 simp only [ho, resolve, invoke, builtin, Sem.run_bind, Sem.run_pure, Result.andThen_ok, List.map_toArray, List.map_cons, List.map_nil, hs, hx, hr]
 exact h v' w' h2 h3 hfr
structure PrSt (w : World) (base : Nat) (v0 v : Value) (bs : List UInt8) (wk : World) : Prop where
 own : wk.ownsRow base 5 1 v bs.length (bcells bs)
 keep : Keep (ownB v0) w wk
 fresh : ∀ g, v.ownBlock = some g → v0.ownBlock = some g ∨ w.heap.size ≤ g
theorem PrSt.refl {w : World} {base : Nat} {v : Value} {bs : List UInt8} (h : w.ownsRow base 5 1 v bs.length (bcells bs)) : PrSt w base v v bs w := ⟨h, Keep.refl _ _, fun _ h => .inl h⟩
section
variable {w wk wk' : World} {base : Nat} {v0 v v' : Value} {bs bs' : List UInt8}
theorem PrSt.trans (h : PrSt w base v0 v bs wk) (k : PrSt wk base v v' bs' wk') : PrSt w base v0 v' bs' wk' := by
 refine ⟨k.own, ⟨k.keep.os.trans h.keep.os, k.keep.tape.trans h.keep.tape, k.keep.output.trans h.keep.output, Nat.le_trans h.keep.size k.keep.size, fun b hb hn => ?_⟩, fun g hg => ?_⟩
 ·rw [k.keep.block b (Nat.lt_of_lt_of_le hb h.keep.size) (fun hm => ?_)]
  ·exact h.keep.block b hb hn
  ·rcases h.fresh b (ownB_mem.1 hm) with h1 | h1
   ·exact hn (ownB_mem.2 h1)
   ·omega
 ·rcases k.fresh g hg with h1 | h1
  ·exact h.fresh g h1
  ·exact .inr (Nat.le_trans h.keep.size h1)
theorem PrSt.keep0 (h : PrSt w base v0 v bs wk) (hk : Keep [] wk wk') : PrSt w base v0 v bs wk' :=
 ⟨ownsRow_below h.own (hk.below (Nat.le_refl _) (by simp)) (Nat.le_refl _), h.keep.trans (hk.mono (by simp)), h.fresh⟩
theorem PrSt.notin (h : PrSt w base v0 v bs wk) {x : Nat} (hx : x < w.heap.size) (hn : x ∉ ownB v0) : x ∉ ownB v := fun hm => by
 rcases h.fresh x (ownB_mem.1 hm) with h1 | h1
 ·exact hn (ownB_mem.2 h1)
 ·omega
theorem PrSt.app (ho : wk.ownsRow base 5 1 v bs.length (bcells bs)) {news : List Value} {n m : Nat} {l : List UInt8} (hn : n = bs.length) (h : wk'.ownsRow base 5 1 v' (n + m) (bcells bs ++ news)) (hl : news = bcells l) (hm : m = l.length) (hg : wk.grownBy wk' v.ownBlock) (hf : ∀ g, v'.ownBlock = some g → v.ownBlock = some g ∨ wk.heap.size ≤ g) : PrSt wk base v v' (bs ++ l) wk' := by
 subst hl hm hn
 exact ⟨by rw [List.length_append]; unfold bcells at h ⊢; rw [List.map_append]; exact h, keep_of_grown hg, hf⟩
theorem PrSt.bel {w0 : World} (h : PrSt w base v0 v bs wk) (hb : Below base w0 w) (hB : base ≤ w.heap.size) (ho : w.ownsRow base 5 1 v0 bs'.length (bcells bs')) : Below base w0 wk :=
 hb.trans ((h.keep.below (B := base) hB (fun x hx => owns_lt ho (ownB_mem.1 hx))))
end
theorem s5 {w wk : World} {base : Nat} {v0 v : Value} {bs : List UInt8} {X b : Nat} {p1 p2 p3 p4 : Nat} {u0 u1 u2 u3 u4 : Value} (h : PrSt w base v0 v bs wk) (hX : X ∉ ownB v0) (hb : b ∉ ownB v0) (hs : w.cell? ⟨X, 3, none⟩ = some u0 ∧ w.cell? ⟨b, p1, none⟩ = some u1 ∧ w.cell? ⟨b, p2, none⟩ = some u2 ∧ w.cell? ⟨b, p3, none⟩ = some u3 ∧ w.cell? ⟨b, p4, none⟩ = some u4) :
  wk.cell? ⟨X, 3, none⟩ = some u0 ∧ wk.cell? ⟨b, p1, none⟩ = some u1 ∧ wk.cell? ⟨b, p2, none⟩ = some u2 ∧ wk.cell? ⟨b, p3, none⟩ = some u3 ∧ wk.cell? ⟨b, p4, none⟩ = some u4 := by
 obtain ⟨h0, h1, h2, h3, h4⟩ := hs
 rw [h.keep.cell (cell_lt h0) hX, h.keep.cell (cell_lt h1) hb, h.keep.cell (cell_lt h2) hb, h.keep.cell (cell_lt h3) hb, h.keep.cell (cell_lt h4) hb]
 exact ⟨h0, h1, h2, h3, h4⟩
theorem one_new {w : World} {n : Nat} {u : Value} (h : w.cell? ⟨n, 0, none⟩ = some u) : ∀ j x, [u][j]? = some x → w.cell? ((⟨n, 0, none⟩ : Addr).add j) = some x := fun j x hj => by
 match j with
 | 0 => simp at hj; subst hj; simpa [Addr.add] using h
 | j + 1 => simp at hj
mutual
def noNum : AExpr → Bool
 | .mk op _ _ args => decide (op ≠ 1) && noNumL args
def noNumL : List AExpr → Bool
 | [] => true
 | e :: es => noNum e && noNumL es
end
theorem noNumL_get : ∀ (l : List AExpr), noNumL l = true → ∀ k (h : k < l.length), noNum l[k] = true
 | [], _, k, h => by simp at h
 | e :: es, hl, k, h => by
  rw [noNumL, Bool.and_eq_true] at hl
  cases k with
  | zero => exact hl.1
  | succ k => exact noNumL_get es hl.2 k (by simpa using h)
theorem sign_all (op : Int) (h : 5 ≤ op ∧ op ≤ 17) : ∃ (j : Nat) (hj : j < signsAll.length), op = j ∧ signsAll[j] = bytes (opSign op) := by
 obtain ⟨j, rfl⟩ : ∃ j : Nat, op = j := ⟨op.toNat, by omega⟩
 have hj : j < 18 := by omega
 refine ⟨j, by simpa [signsAll] using hj, rfl, ?_⟩
 rcases (show j = 5 ∨ j = 6 ∨ j = 7 ∨ j = 8 ∨ j = 9 ∨ j = 10 ∨ j = 11 ∨ j = 12 ∨ j = 13 ∨ j = 14 ∨ j = 15 ∨ j = 16 ∨ j = 17 by omega) with rfl | rfl | rfl | rfl | rfl | rfl | rfl | rfl | rfl | rfl | rfl | rfl | rfl <;> rfl
abbrev PrintC (e : AExpr) : Prop := ∀ (w0 w : World) (base : Nat) (v : Value) (bs : List UInt8) (cs : List Value), ExprRep w0 e cs → w0.heap.size ≤ base → Below base w0 w → base ≤ w.heap.size → w.ownsRow base 5 1 v bs.length (bcells bs) → bs.length + (exprText e).length ≤ 1000000 → EnvS w0 →
 Calls Tryd.prog 48 #[v, .agg cs.toArray] w fun r w' => ∃ v', r = .returned v' ∧ PrSt w base v v' (bs ++ exprText e) w'
def argT (op : Int) (k : Nat) (e : AExpr) : List UInt8 := if innerB op k e.op then [40] ++ exprText e ++ [41] else exprText e
set_option maxRecDepth 100000 in
set_option maxHeartbeats 6400000 in
theorem inner_pr (op num : Int) (name : ByteArray) (sl : Value) (args : List AExpr) (k : Nat) (w0 w : World) (base X : Nat) (v : Value) (bs : List UInt8) (hk : k < args.length) (hops : (1 ≤ op ∧ op ≤ 17) ∧ (1 ≤ args[k].op ∧ args[k].op ≤ 17)) (ih : PrintC args[k])
  (hv : ListRep w0 (ExprRep w0) 4 sl args) (hw : w0.heap.size ≤ base) (hb : Below base w0 w) (hB : base ≤ w.heap.size) (ho : w.ownsRow base 5 1 v bs.length (bcells bs)) (hlen : bs.length + (argT op k args[k]).length ≤ 1000000) (he : EnvS w0) (hn : args.length ≤ 1000000)
  (hX : X ∉ ownB v) (x0 : w.cell? ⟨X, 0, none⟩ = some (.int .i64 op)) (x1 : w.cell? ⟨X, 1, none⟩ = some (.int .i64 num)) (x2 : w.cell? ⟨X, 2, none⟩ = some (.string name)) (x3 : w.cell? ⟨X, 3, none⟩ = some sl) :
  Calls Tryd.prog 70 #[v, .int .i64 k, .pointer (some ⟨X, 0, none⟩)] w fun r w' => ∃ v', r = .returned v' ∧ PrSt w base v v' (bs ++ argT op k args[k]) w' := by
 obtain ⟨b, off, cap, row, rfl, hc, hR, hrow, hbl, hcells⟩ := hv.get (by omega) hk
 obtain ⟨e0, e1, e2, e3, rfl⟩ : ∃ e0 e1 e2 e3, row = [e0, e1, e2, e3] := by
  match row, hrow with
  | [e0, e1, e2, e3], _ => exact ⟨_, _, _, _, rfl⟩
 obtain ⟨i0, hi, hz0, hz1, hz2⟩ := info_parts byteInfo
 have hbb : Below w0.heap.size w0 w := hb.mono hw
 have hbbase : b < base := by omega
 have hbo : b ∉ ownB v := fun hm => by have := owns_lt ho (ownB_mem.1 hm); omega
 have d0 := cell_step (hcells 0 _ rfl) hbb
 have d1 := cell_step (hcells 1 _ rfl) hbb
 have d2 := cell_step (hcells 2 _ rfl) hbb
 have d3 := cell_step (hcells 3 _ rfl) hbb
 rw [Nat.add_zero] at d0
 have hkl : (k : Int) < args.length := by omega
 have HEn := Lib.hid (enclosingE op num name _ args k w (he.below hbb) hk (hv.below hbb fun a cs _ h => ExprRep.below hbb a h) hn)
 have hI : encB op k args[k].op = innerB op k args[k].op := encB_inner hops.1 hops.2
 obtain ⟨t, ht⟩ : ∃ t, t = exprText args[k] := ⟨_, rfl⟩
 have IH := Lib.hid ih
 have HR := Lib.hid hR
 have HE := Lib.hid he
 have HO := Lib.hid ho
 have HB := Lib.hid hb
 have HW := Lib.hid hw
 have HXn := Lib.hid hX
 have HBO := Lib.hid hbo
 have hXl := cell_lt x0
 have hblw : b < w.heap.size := cell_lt d0
 have HV := Lib.hid hv
 unfold argT at hlen ⊢
 rw [← ht] at hlen ⊢
 have HT := Lib.hid ht
 rw [← hI] at hlen ⊢
 obtain ⟨bb, hbb2⟩ : ∃ bb, bb = encB op k args[k].op := ⟨_, rfl⟩
 rw [← hbb2] at hlen HEn ⊢
 clear hcells hR hrow hbb hI ih he ho hb hw hX hbo hv hops ht hbb2
 go_enter Tryd.func70, Tryd.ntmps70
 go_wp2_with fail
 refine HEn.out.mono ?_
 rintro r w1 ⟨rfl, hb1⟩
 have k1 := Keep.of_below (H := []) hb1
 have HP1 := Lib.hid ((PrSt.refl HO.out).keep0 k1)
 have HBW1 := Lib.hid (HB.out.trans (hb1.mono hB))
 have hB1 : base ≤ w1.heap.size := Nat.le_trans hB hb1.size
 have y3 := cell_step x3 hb1
 have f0 := cell_step d0 hb1
 have f1 := cell_step d1 hb1
 have f2 := cell_step d2 hb1
 have f3 := cell_step d3 hb1
 have hXl1 : X < w1.heap.size := cell_lt y3
 have hbl1 : b < w1.heap.size := cell_lt f0
 clear x0 x1 x2 x3 d0 d1 d2 d3 hb1 k1 HEn
 cases bb with
 | false =>
  simp only [Bool.false_eq_true, if_false] at hlen ⊢
  go_wp2_with fail
  refine (IH.out w0 w1 base v bs [e0, e1, e2, e3] HR.out HW.out HBW1.out hB1 HP1.out.own (by rw [← HT.out]; exact hlen) HE.out).mono ?_
  rintro r w2 ⟨v2, rfl, hp⟩
  rw [← HT.out] at hp
  have HP2 := Lib.hid (HP1.out.trans hp)
  clear hp
  go_wp2_with fail
  go_ret
  exact ⟨v2, rfl, HP2.out⟩
 | true =>
  simp only [if_true] at hlen ⊢
  have hlen2 : bs.length + t.length + 2 ≤ 1000000 := by simp at hlen; omega
  clear hlen
  go_wp2_with fail
  refine wp_region_held_drew (S := fun w' => w'.cell? ⟨X, 3, none⟩ = some (.slice (some ⟨b, off, none⟩) args.length cap) ∧ w'.cell? ⟨b, off + k * 4, none⟩ = some e0 ∧ w'.cell? ⟨b, off + k * 4 + 1, none⟩ = some e1 ∧ w'.cell? ⟨b, off + k * 4 + 2, none⟩ = some e2 ∧ w'.cell? ⟨b, off + k * 4 + 3, none⟩ = some e3) (by kernel_rfl) ⟨y3, f0, f1, f2, f3⟩ (fun hHeld => ?_)
  have kd := (Keep.refl [] w1).drew
  have HQ0 := Lib.hid (PrSt.refl (HP1.out.keep0 kd).own)
  have HP2 := Lib.hid (HP1.out.keep0 kd)
  have HBW2 := Lib.hid (HBW1.out.trans (((Keep.refl [] w1).drew).below hB1 (by simp)))
  have hB2 : base ≤ w1.drew.heap.size := hB1
  have HS0 := Lib.hid hHeld
  have hXl2 : X < w1.drew.heap.size := hXl1
  clear y3 f0 f1 f2 f3 kd HP1 HBW1 hB1 hXl1 hbl1
  generalize w1.drew = w2 at hHeld HQ0 HP2 HBW2 hB2 HS0 hXl2 ⊢
  refine held_take 0 (v := ?vv13) (by kernel_rfl) rfl (by rfl) (by kernel_rfl) (by kernel_rfl) (fun _ _ _ h => h) ?hyy13 (by assumption) ?rest13
  case hyy13 => (intro w hSw; (try dsimp only at hSw); go_simp; (try with_reducible rfl))
  (try go_frame)
  refine held_take 3 (v := ?vv14) (by kernel_rfl) rfl (by rfl) (by kernel_rfl) (by kernel_rfl) (fun _ _ _ h => h) ?hyy14 (by assumption) ?rest14
  case hyy14 => (intro w hSw; (try dsimp only at hSw); go_simp; (try with_reducible rfl))
  (try go_frame)
  refine held_take 4 (v := ?vv15) (by kernel_rfl) rfl (by rfl) (by kernel_rfl) (by kernel_rfl) (fun _ _ _ h => h) ?hyy15 (by assumption) ?rest15
  case hyy15 => (intro w hSw; (try dsimp only at hSw); go_simp; (try with_reducible rfl))
  (try go_frame)
  refine held_take 5 (v := ?vv16) (by kernel_rfl) rfl (by rfl) (by kernel_rfl) (by kernel_rfl) (fun _ _ _ h => h) ?hyy16 (by assumption) ?rest16
  case hyy16 => (intro w hSw; (try dsimp only at hSw); go_simp; (try with_reducible rfl))
  (try go_frame)
  refine held_take 6 (v := ?vv17) (by kernel_rfl) rfl (by rfl) (by kernel_rfl) (by kernel_rfl) (fun _ _ _ h => h) ?hyy17 (by assumption) ?rest17
  case hyy17 => (intro w hSw; (try dsimp only at hSw); go_simp; (try with_reducible rfl))
  (try go_frame)
  refine held_take 7 (v := ?vv18) (by kernel_rfl) rfl (by rfl) (by kernel_rfl) (by kernel_rfl) (fun _ _ _ h => h) ?hyy18 (by assumption) ?rest18
  case hyy18 => (intro w hSw; (try dsimp only at hSw); go_simp; (try with_reducible rfl))
  (try go_frame)
  have HQ0' := HQ0
  have HQ2 := HQ0
  refine held_two 1 9 (by kernel_rfl) rfl rfl (by rfl) (by rfl) (fun K' hK => ?_) (fun K' hK => ?_)
  ·go_simp
   have HQ3 := Lib.hid (HQ2.out.keep0 ((Keep.refl [] w2).alloc (.cells #[.int .u8 40] 5)))
   have hbw3 := (Below.refl w2.heap.size w2).alloc (Nat.le_refl _) (.cells #[.int .u8 40] 5)
   have c40 : (w2.alloc (.cells #[.int .u8 40] 5)).cell? ⟨w2.heap.size, 0, none⟩ = some (.int .u8 40) := by go_simp
   have o40 : w2.heap.size ∉ ownB v := fun hm => by have := owns_lt_size HQ2.out.own (ownB_mem.1 hm); omega
   have z40 : w2.heap.size < (w2.alloc (.cells #[.int .u8 40] 5)).heap.size := by simp
   (try dsimp only)
   refine hK.out _ _ (s5 HQ3.out HXn.out HBO.out HS0.out) (fun hHeld' => ?_)
   clear hK K' hHeld
   have hHeld := hHeld'
   clear hHeld'
   (try go_frame)
   clear hbw3 HQ2
   generalize w2.alloc (.cells #[.int .u8 40] 5) = w3 at hHeld HQ3 c40 z40  ⊢
   generalize w2.heap.size = n40 at c40 o40 z40 ⊢
   refine held_two 2 9 (by kernel_rfl) rfl rfl (by rfl) (by rfl) (fun K' hK => ?_) (fun K' hK => ?_)
   ·refine wp_append_fresh _ _ _ 45 rfl base 5 i0 _ 1 1 Tryd.underlying45 hi hz0 hz1 hz2 rfl (by decide) v bs.length (bcells bs) rfl HQ3.out.own ⟨n40, 0, none⟩ 1 1 [.int .u8 40] rfl rfl (one_new c40) (by simp [Value.oneCell']) (by (try simp); unfold maxLen; omega) (by (try simp); omega) (Nat.le_trans hB2 HQ3.out.keep.size) ?_
    intro v4 w4 ho2 hg2 hf2
    have hps := PrSt.app HQ3.out.own (l := [40]) rfl ho2 rfl rfl hg2 hf2
    have HQ4 := Lib.hid (HQ3.out.trans hps)
    (try dsimp only)
    refine hK.out _ _ (s5 HQ4.out HXn.out HBO.out HS0.out) (fun hHeld' => ?_)
    clear hK K' hHeld
    have hHeld := hHeld'
    clear hHeld'
    (try go_frame)
    clear hps ho2 hg2 hf2 c40 o40 z40 HQ3
    refine held_two 8 9 (by kernel_rfl) rfl rfl (by rfl) (by rfl) (fun K' hK => ?_) (fun K' hK => ?_)
    ·go_simp
     refine (IH.out w0 w4 base v4 (bs ++ [40]) [e0, e1, e2, e3] HR.out HW.out (HQ4.out.bel HBW2.out hB2 HQ0'.out.own) (Nat.le_trans hB2 HQ4.out.keep.size) HQ4.out.own (by rw [← HT.out]; (try simp); omega) HE.out).mono ?_
     rintro r w5 ⟨v5, rfl, hps⟩
     rw [← HT.out] at hps
     have HQ5 := Lib.hid (HQ4.out.trans hps)
     (try dsimp only)
     refine hK.out _ _ (s5 HQ5.out HXn.out HBO.out HS0.out) (fun hHeld' => ?_)
     clear hK K' hHeld
     have hHeld := hHeld'
     clear hHeld'
     (try go_frame)
     clear hps HQ4
     refine held_one 9 (by kernel_rfl) rfl (by rfl) (fun K' hK => ?_)
     go_simp
     have HQ6 := Lib.hid (HQ5.out.keep0 ((Keep.refl [] w5).alloc (.cells #[.int .u8 41] 5)))
     have hbw6 := (Below.refl w5.heap.size w5).alloc (Nat.le_refl _) (.cells #[.int .u8 41] 5)
     have c41 : (w5.alloc (.cells #[.int .u8 41] 5)).cell? ⟨w5.heap.size, 0, none⟩ = some (.int .u8 41) := by go_simp
     have o41 : w5.heap.size ∉ ownB v5 := fun hm => by have := owns_lt_size HQ5.out.own (ownB_mem.1 hm); omega
     have z41 : w5.heap.size < (w5.alloc (.cells #[.int .u8 41] 5)).heap.size := by simp
     (try dsimp only)
     refine hK.out _ _ (s5 HQ6.out HXn.out HBO.out HS0.out) (fun hHeld' => ?_)
     clear hK K' hHeld
     have hHeld := hHeld'
     clear hHeld'
     (try go_frame)
     clear hbw6 HQ5
     generalize w5.alloc (.cells #[.int .u8 41] 5) = w6 at hHeld HQ6 c41 z41  ⊢
     generalize w5.heap.size = n41 at c41 o41 z41 ⊢
     refine held_one 10 (by kernel_rfl) rfl (by rfl) (fun K' hK => ?_)
     refine wp_append_fresh _ _ _ 45 rfl base 5 i0 _ 1 1 Tryd.underlying45 hi hz0 hz1 hz2 rfl (by decide) v5 ((bs ++ [40]) ++ t).length (bcells ((bs ++ [40]) ++ t)) rfl HQ6.out.own ⟨n41, 0, none⟩ 1 1 [.int .u8 41] rfl rfl (one_new c41) (by simp [Value.oneCell']) (by (try simp); unfold maxLen; omega) (by (try simp); omega) (Nat.le_trans hB2 HQ6.out.keep.size) ?_
     intro v7 w7 ho2 hg2 hf2
     have hps := PrSt.app HQ6.out.own (l := [41]) rfl ho2 rfl rfl hg2 hf2
     have HQ7 := Lib.hid (HQ6.out.trans hps)
     (try dsimp only)
     refine hK.out _ _ (s5 HQ7.out HXn.out HBO.out HS0.out) (fun hHeld' => ?_)
     clear hK K' hHeld
     have hHeld := hHeld'
     clear hHeld'
     (try go_frame)
     clear hps ho2 hg2 hf2 c41 o41 z41 HQ6
     refine held_take 11 (v := ?vv19) (by kernel_rfl) rfl (by rfl) (by kernel_rfl) (by kernel_rfl) (fun _ _ _ h => h) ?hyy19 (by assumption) ?rest19
     case hyy19 => (intro w hSw; (try dsimp only at hSw); go_simp; (try with_reducible rfl))
     (try go_frame)
     clear hHeld
     refine wpAnyH_done (by kernel_rfl) ?_ _
     go_wp2_with fail
     go_ret
     exact ⟨_, rfl, HP2.out.trans (by have := HQ7.out; simpa [List.append_assoc] using this)⟩
    ·go_simp
     have HQ5 := Lib.hid (HQ4.out.keep0 ((Keep.refl [] w4).alloc (.cells #[.int .u8 41] 5)))
     have hbw5 := (Below.refl w4.heap.size w4).alloc (Nat.le_refl _) (.cells #[.int .u8 41] 5)
     have c41 : (w4.alloc (.cells #[.int .u8 41] 5)).cell? ⟨w4.heap.size, 0, none⟩ = some (.int .u8 41) := by go_simp
     have o41 : w4.heap.size ∉ ownB v4 := fun hm => by have := owns_lt_size HQ4.out.own (ownB_mem.1 hm); omega
     have z41 : w4.heap.size < (w4.alloc (.cells #[.int .u8 41] 5)).heap.size := by simp
     (try dsimp only)
     refine hK.out _ _ (s5 HQ5.out HXn.out HBO.out HS0.out) (fun hHeld' => ?_)
     clear hK K' hHeld
     have hHeld := hHeld'
     clear hHeld'
     (try go_frame)
     clear hbw5 HQ4
     generalize w4.alloc (.cells #[.int .u8 41] 5) = w5 at hHeld HQ5 c41 z41  ⊢
     generalize w4.heap.size = n41 at c41 o41 z41 ⊢
     refine held_one 8 (by kernel_rfl) rfl (by rfl) (fun K' hK => ?_)
     go_simp
     refine (IH.out w0 w5 base v4 (bs ++ [40]) [e0, e1, e2, e3] HR.out HW.out (HQ5.out.bel HBW2.out hB2 HQ0'.out.own) (Nat.le_trans hB2 HQ5.out.keep.size) HQ5.out.own (by rw [← HT.out]; (try simp); omega) HE.out).mono ?_
     rintro r w6 ⟨v6, rfl, hps⟩
     rw [← HT.out] at hps
     have HQ6 := Lib.hid (HQ5.out.trans hps)
     have c41 := (hps.keep.cell (p := ⟨n41, 0, none⟩) z41 o41).trans c41
     have o41 := hps.notin z41 o41
     have z41 := Nat.lt_of_lt_of_le z41 hps.keep.size
     (try dsimp only)
     refine hK.out _ _ (s5 HQ6.out HXn.out HBO.out HS0.out) (fun hHeld' => ?_)
     clear hK K' hHeld
     have hHeld := hHeld'
     clear hHeld'
     (try go_frame)
     clear hps HQ5
     refine held_one 10 (by kernel_rfl) rfl (by rfl) (fun K' hK => ?_)
     refine wp_append_fresh _ _ _ 45 rfl base 5 i0 _ 1 1 Tryd.underlying45 hi hz0 hz1 hz2 rfl (by decide) v6 ((bs ++ [40]) ++ t).length (bcells ((bs ++ [40]) ++ t)) rfl HQ6.out.own ⟨n41, 0, none⟩ 1 1 [.int .u8 41] rfl rfl (one_new c41) (by simp [Value.oneCell']) (by (try simp); unfold maxLen; omega) (by (try simp); omega) (Nat.le_trans hB2 HQ6.out.keep.size) ?_
     intro v7 w7 ho2 hg2 hf2
     have hps := PrSt.app HQ6.out.own (l := [41]) rfl ho2 rfl rfl hg2 hf2
     have HQ7 := Lib.hid (HQ6.out.trans hps)
     (try dsimp only)
     refine hK.out _ _ (s5 HQ7.out HXn.out HBO.out HS0.out) (fun hHeld' => ?_)
     clear hK K' hHeld
     have hHeld := hHeld'
     clear hHeld'
     (try go_frame)
     clear hps ho2 hg2 hf2 c41 o41 z41 HQ6
     refine held_take 11 (v := ?vv20) (by kernel_rfl) rfl (by rfl) (by kernel_rfl) (by kernel_rfl) (fun _ _ _ h => h) ?hyy20 (by assumption) ?rest20
     case hyy20 => (intro w hSw; (try dsimp only at hSw); go_simp; (try with_reducible rfl))
     (try go_frame)
     clear hHeld
     refine wpAnyH_done (by kernel_rfl) ?_ _
     go_wp2_with fail
     go_ret
     exact ⟨_, rfl, HP2.out.trans (by have := HQ7.out; simpa [List.append_assoc] using this)⟩
   ·go_simp
    have HQ4 := Lib.hid (HQ3.out.keep0 ((Keep.refl [] w3).alloc (.cells #[.int .u8 41] 5)))
    have hbw4 := (Below.refl w3.heap.size w3).alloc (Nat.le_refl _) (.cells #[.int .u8 41] 5)
    have c41 : (w3.alloc (.cells #[.int .u8 41] 5)).cell? ⟨w3.heap.size, 0, none⟩ = some (.int .u8 41) := by go_simp
    have o41 : w3.heap.size ∉ ownB v := fun hm => by have := owns_lt_size HQ3.out.own (ownB_mem.1 hm); omega
    have c40 := cell_step c40 hbw4
    have z41 : w3.heap.size < (w3.alloc (.cells #[.int .u8 41] 5)).heap.size := by simp
    have z40 := Nat.lt_of_lt_of_le z40 hbw4.size
    (try dsimp only)
    refine hK.out _ _ (s5 HQ4.out HXn.out HBO.out HS0.out) (fun hHeld' => ?_)
    clear hK K' hHeld
    have hHeld := hHeld'
    clear hHeld'
    (try go_frame)
    clear hbw4 HQ3
    generalize w3.alloc (.cells #[.int .u8 41] 5) = w4 at hHeld HQ4 c41 z41 c40 z40 ⊢
    generalize w3.heap.size = n41 at c41 o41 z41 ⊢
    refine held_one 2 (by kernel_rfl) rfl (by rfl) (fun K' hK => ?_)
    refine wp_append_fresh _ _ _ 45 rfl base 5 i0 _ 1 1 Tryd.underlying45 hi hz0 hz1 hz2 rfl (by decide) v bs.length (bcells bs) rfl HQ4.out.own ⟨n40, 0, none⟩ 1 1 [.int .u8 40] rfl rfl (one_new c40) (by simp [Value.oneCell']) (by (try simp); unfold maxLen; omega) (by (try simp); omega) (Nat.le_trans hB2 HQ4.out.keep.size) ?_
    intro v5 w5 ho2 hg2 hf2
    have hps := PrSt.app HQ4.out.own (l := [40]) rfl ho2 rfl rfl hg2 hf2
    have HQ5 := Lib.hid (HQ4.out.trans hps)
    have c41 := (hps.keep.cell (p := ⟨n41, 0, none⟩) z41 o41).trans c41
    have o41 := hps.notin z41 o41
    have z41 := Nat.lt_of_lt_of_le z41 hps.keep.size
    (try dsimp only)
    refine hK.out _ _ (s5 HQ5.out HXn.out HBO.out HS0.out) (fun hHeld' => ?_)
    clear hK K' hHeld
    have hHeld := hHeld'
    clear hHeld'
    (try go_frame)
    clear hps ho2 hg2 hf2 c40 o40 z40 HQ4
    refine held_one 8 (by kernel_rfl) rfl (by rfl) (fun K' hK => ?_)
    go_simp
    refine (IH.out w0 w5 base v5 (bs ++ [40]) [e0, e1, e2, e3] HR.out HW.out (HQ5.out.bel HBW2.out hB2 HQ0'.out.own) (Nat.le_trans hB2 HQ5.out.keep.size) HQ5.out.own (by rw [← HT.out]; (try simp); omega) HE.out).mono ?_
    rintro r w6 ⟨v6, rfl, hps⟩
    rw [← HT.out] at hps
    have HQ6 := Lib.hid (HQ5.out.trans hps)
    have c41 := (hps.keep.cell (p := ⟨n41, 0, none⟩) z41 o41).trans c41
    have o41 := hps.notin z41 o41
    have z41 := Nat.lt_of_lt_of_le z41 hps.keep.size
    (try dsimp only)
    refine hK.out _ _ (s5 HQ6.out HXn.out HBO.out HS0.out) (fun hHeld' => ?_)
    clear hK K' hHeld
    have hHeld := hHeld'
    clear hHeld'
    (try go_frame)
    clear hps HQ5
    refine held_one 10 (by kernel_rfl) rfl (by rfl) (fun K' hK => ?_)
    refine wp_append_fresh _ _ _ 45 rfl base 5 i0 _ 1 1 Tryd.underlying45 hi hz0 hz1 hz2 rfl (by decide) v6 ((bs ++ [40]) ++ t).length (bcells ((bs ++ [40]) ++ t)) rfl HQ6.out.own ⟨n41, 0, none⟩ 1 1 [.int .u8 41] rfl rfl (one_new c41) (by simp [Value.oneCell']) (by (try simp); unfold maxLen; omega) (by (try simp); omega) (Nat.le_trans hB2 HQ6.out.keep.size) ?_
    intro v7 w7 ho2 hg2 hf2
    have hps := PrSt.app HQ6.out.own (l := [41]) rfl ho2 rfl rfl hg2 hf2
    have HQ7 := Lib.hid (HQ6.out.trans hps)
    (try dsimp only)
    refine hK.out _ _ (s5 HQ7.out HXn.out HBO.out HS0.out) (fun hHeld' => ?_)
    clear hK K' hHeld
    have hHeld := hHeld'
    clear hHeld'
    (try go_frame)
    clear hps ho2 hg2 hf2 c41 o41 z41 HQ6
    refine held_take 11 (v := ?vv21) (by kernel_rfl) rfl (by rfl) (by kernel_rfl) (by kernel_rfl) (fun _ _ _ h => h) ?hyy21 (by assumption) ?rest21
    case hyy21 => (intro w hSw; (try dsimp only at hSw); go_simp; (try with_reducible rfl))
    (try go_frame)
    clear hHeld
    refine wpAnyH_done (by kernel_rfl) ?_ _
    go_wp2_with fail
    go_ret
    exact ⟨_, rfl, HP2.out.trans (by have := HQ7.out; simpa [List.append_assoc] using this)⟩
  ·go_simp
   have HQ3 := Lib.hid (HQ2.out.keep0 ((Keep.refl [] w2).alloc (.cells #[.int .u8 41] 5)))
   have hbw3 := (Below.refl w2.heap.size w2).alloc (Nat.le_refl _) (.cells #[.int .u8 41] 5)
   have c41 : (w2.alloc (.cells #[.int .u8 41] 5)).cell? ⟨w2.heap.size, 0, none⟩ = some (.int .u8 41) := by go_simp
   have o41 : w2.heap.size ∉ ownB v := fun hm => by have := owns_lt_size HQ2.out.own (ownB_mem.1 hm); omega
   have z41 : w2.heap.size < (w2.alloc (.cells #[.int .u8 41] 5)).heap.size := by simp
   (try dsimp only)
   refine hK.out _ _ (s5 HQ3.out HXn.out HBO.out HS0.out) (fun hHeld' => ?_)
   clear hK K' hHeld
   have hHeld := hHeld'
   clear hHeld'
   (try go_frame)
   clear hbw3 HQ2
   generalize w2.alloc (.cells #[.int .u8 41] 5) = w3 at hHeld HQ3 c41 z41  ⊢
   generalize w2.heap.size = n41 at c41 o41 z41 ⊢
   refine held_one 1 (by kernel_rfl) rfl (by rfl) (fun K' hK => ?_)
   go_simp
   have HQ4 := Lib.hid (HQ3.out.keep0 ((Keep.refl [] w3).alloc (.cells #[.int .u8 40] 5)))
   have hbw4 := (Below.refl w3.heap.size w3).alloc (Nat.le_refl _) (.cells #[.int .u8 40] 5)
   have c40 : (w3.alloc (.cells #[.int .u8 40] 5)).cell? ⟨w3.heap.size, 0, none⟩ = some (.int .u8 40) := by go_simp
   have o40 : w3.heap.size ∉ ownB v := fun hm => by have := owns_lt_size HQ3.out.own (ownB_mem.1 hm); omega
   have c41 := cell_step c41 hbw4
   have z40 : w3.heap.size < (w3.alloc (.cells #[.int .u8 40] 5)).heap.size := by simp
   have z41 := Nat.lt_of_lt_of_le z41 hbw4.size
   (try dsimp only)
   refine hK.out _ _ (s5 HQ4.out HXn.out HBO.out HS0.out) (fun hHeld' => ?_)
   clear hK K' hHeld
   have hHeld := hHeld'
   clear hHeld'
   (try go_frame)
   clear hbw4 HQ3
   generalize w3.alloc (.cells #[.int .u8 40] 5) = w4 at hHeld HQ4 c40 z40 c41 z41 ⊢
   generalize w3.heap.size = n40 at c40 o40 z40 ⊢
   refine held_one 2 (by kernel_rfl) rfl (by rfl) (fun K' hK => ?_)
   refine wp_append_fresh _ _ _ 45 rfl base 5 i0 _ 1 1 Tryd.underlying45 hi hz0 hz1 hz2 rfl (by decide) v bs.length (bcells bs) rfl HQ4.out.own ⟨n40, 0, none⟩ 1 1 [.int .u8 40] rfl rfl (one_new c40) (by simp [Value.oneCell']) (by (try simp); unfold maxLen; omega) (by (try simp); omega) (Nat.le_trans hB2 HQ4.out.keep.size) ?_
   intro v5 w5 ho2 hg2 hf2
   have hps := PrSt.app HQ4.out.own (l := [40]) rfl ho2 rfl rfl hg2 hf2
   have HQ5 := Lib.hid (HQ4.out.trans hps)
   have c41 := (hps.keep.cell (p := ⟨n41, 0, none⟩) z41 o41).trans c41
   have o41 := hps.notin z41 o41
   have z41 := Nat.lt_of_lt_of_le z41 hps.keep.size
   (try dsimp only)
   refine hK.out _ _ (s5 HQ5.out HXn.out HBO.out HS0.out) (fun hHeld' => ?_)
   clear hK K' hHeld
   have hHeld := hHeld'
   clear hHeld'
   (try go_frame)
   clear hps ho2 hg2 hf2 c40 o40 z40 HQ4
   refine held_one 8 (by kernel_rfl) rfl (by rfl) (fun K' hK => ?_)
   go_simp
   refine (IH.out w0 w5 base v5 (bs ++ [40]) [e0, e1, e2, e3] HR.out HW.out (HQ5.out.bel HBW2.out hB2 HQ0'.out.own) (Nat.le_trans hB2 HQ5.out.keep.size) HQ5.out.own (by rw [← HT.out]; (try simp); omega) HE.out).mono ?_
   rintro r w6 ⟨v6, rfl, hps⟩
   rw [← HT.out] at hps
   have HQ6 := Lib.hid (HQ5.out.trans hps)
   have c41 := (hps.keep.cell (p := ⟨n41, 0, none⟩) z41 o41).trans c41
   have o41 := hps.notin z41 o41
   have z41 := Nat.lt_of_lt_of_le z41 hps.keep.size
   (try dsimp only)
   refine hK.out _ _ (s5 HQ6.out HXn.out HBO.out HS0.out) (fun hHeld' => ?_)
   clear hK K' hHeld
   have hHeld := hHeld'
   clear hHeld'
   (try go_frame)
   clear hps HQ5
   refine held_one 10 (by kernel_rfl) rfl (by rfl) (fun K' hK => ?_)
   refine wp_append_fresh _ _ _ 45 rfl base 5 i0 _ 1 1 Tryd.underlying45 hi hz0 hz1 hz2 rfl (by decide) v6 ((bs ++ [40]) ++ t).length (bcells ((bs ++ [40]) ++ t)) rfl HQ6.out.own ⟨n41, 0, none⟩ 1 1 [.int .u8 41] rfl rfl (one_new c41) (by simp [Value.oneCell']) (by (try simp); unfold maxLen; omega) (by (try simp); omega) (Nat.le_trans hB2 HQ6.out.keep.size) ?_
   intro v7 w7 ho2 hg2 hf2
   have hps := PrSt.app HQ6.out.own (l := [41]) rfl ho2 rfl rfl hg2 hf2
   have HQ7 := Lib.hid (HQ6.out.trans hps)
   (try dsimp only)
   refine hK.out _ _ (s5 HQ7.out HXn.out HBO.out HS0.out) (fun hHeld' => ?_)
   clear hK K' hHeld
   have hHeld := hHeld'
   clear hHeld'
   (try go_frame)
   clear hps ho2 hg2 hf2 c41 o41 z41 HQ6
   refine held_take 11 (v := ?vv22) (by kernel_rfl) rfl (by rfl) (by kernel_rfl) (by kernel_rfl) (fun _ _ _ h => h) ?hyy22 (by assumption) ?rest22
   case hyy22 => (intro w hSw; (try dsimp only at hSw); go_simp; (try with_reducible rfl))
   (try go_frame)
   clear hHeld
   refine wpAnyH_done (by kernel_rfl) ?_ _
   go_wp2_with fail
   go_ret
   exact ⟨_, rfl, HP2.out.trans (by have := HQ7.out; simpa [List.append_assoc] using this)⟩
theorem wpList_append_str_fresh {P : Program} (w : World) {ops : Array Oper} {rest : List Oper} {o : Oper} {a : Act} {Q : Exit → Act → World → Prop} (hgd : o.guard = none) (s x : Operand) (t u : TypeId)
  (ho : o.op = .call { callee := .builtin .append, args := #[s, x], argTypes := #[t, u] })
  (base : Nat) (e : TypeId) (i : TypeInfo) (ht : P.underlying t = some (.slice e)) (hu : P.underlying u = some .string) (hi : P.info? e = some i) (hz : i.zero = some (.int .u8 0)) (hsize : i.size = 1) (hby : i.bytes = 1)
  (v : Value) (n : Nat) (xs : List Value) (hs : a.eval s = v) (hown : w.ownsRow base e 1 v n xs) (z : ByteArray) (hx : a.eval x = .string z) (h63 : n + z.size ≤ maxLen) (hbytes : n + z.size ≤ 140737488355328) (hbase : base ≤ w.heap.size)
  (h : ∀ v' w', w'.ownsRow base e 1 v' (n + z.size) (xs ++ Lib.strCells z) → w.grownBy w' v.ownBlock → (∀ g, v'.ownBlock = some g → v.ownBlock = some g ∨ w.heap.size ≤ g) → wpList P ops Q rest (a.put o.dst v') w') : wpList P ops Q (o :: rest) a w :=
 wpList_plain hgd fun _ hK => wp_append_str_fresh w s x t u ho base e i ht hu hi hz hsize hby v n xs hs hown z hx h63 hbytes hbase fun v' w' h2 h3 h4 => hK _ _ (h v' w' h2 h3 h4)
theorem text_un3 (num : Int) (nm : ByteArray) (e : AExpr) : exprText (.mk 3 num nm [e]) = [45] ++ argT 3 0 e := by simp [exprText, opJoin, argTexts, argT]
theorem text_un4 (num : Int) (nm : ByteArray) (e : AExpr) : exprText (.mk 4 num nm [e]) = [33] ++ argT 4 0 e := by simp [exprText, opJoin, argTexts, argT]
theorem text_bin (op num : Int) (nm : ByteArray) (x y : AExpr) (h : 5 ≤ op ∧ op ≤ 17) : exprText (.mk op num nm [x, y]) = argT op 0 x ++ ([32] ++ opSign op ++ [32]) ++ argT op 1 y := by
 have hs : strengthN op < 5 := by
  unfold strengthN
  split
  ·decide
  ·split
   ·decide
   ·split
    ·decide
    ·split
     ·decide
     ·split
      ·decide
      ·omega
 rw [exprText, opJoin, if_neg (by omega), if_neg (by omega), if_neg (by omega), if_neg (by omega), if_pos hs, argTexts, argTexts, argTexts]
 simp [argT]
theorem text_name (num : Int) (nm : ByteArray) : exprText (.mk 2 num nm []) = nm.data.toList := by simp [exprText, opJoin, argTexts]
theorem strCells_b (z : ByteArray) : Lib.strCells z = bcells z.data.toList := rfl
set_option maxRecDepth 100000 in
set_option maxHeartbeats 6400000 in
theorem printed_node (op num : Int) (name : ByteArray) (args : List AExpr) (hs : shapeB (.mk op num name args) = true) (h1 : op ≠ 1) (ih : ∀ k (hk : k < args.length), PrintC args[k]) : PrintC (.mk op num name args) := by
 intro w0 w base v bs cs hr hw hb hB ho hlen he
 obtain ⟨sl, rfl, hv⟩ := exprRep_iff.1 hr
 have hmf : ∀ (fn : Fn) (first cap : Array Value) (w : World), (Instr.makeFunc fn first cap).run Tryd.prog w = .ok (.func fn first cap) w := fun _ _ _ _ => rfl
 obtain ⟨i0, hi, hz0, hz1, hz2⟩ := info_parts byteInfo
 obtain ⟨sa, sc, rfl, hsc⟩ := hv.slice
 have hsa := shape_args hs
 have hop := shape_op hs
 have hop' : 1 ≤ op ∧ op ≤ 17 := hop
 have hcase := op_cases hs
 have IH := Lib.hid ih
 have HE := Lib.hid he
 have HV := Lib.hid hv
 have HW := Lib.hid hw
 have HO := Lib.hid ho
 have HBX : Hid (∀ o : Obj, Below base w0 (w.alloc o)) := Lib.hid (fun o => hb.trans ((Below.refl base w).alloc hB o))
 have HES : Hid (∀ o : Obj, EnvS (w.alloc o)) := Lib.hid (fun o => he.below ((hb.trans ((Below.refl base w).alloc hB o)).mono hw))
 have hXn : w.heap.size ∉ ownB v := fun hm => by have := owns_lt_size ho (ownB_mem.1 hm); omega
 have HXN := Lib.hid hXn
 clear ih he hv hw hb hr hXn
 rcases hcase with ⟨rfl, _⟩ | ⟨rfl, rfl⟩ | hrest
 ·exact absurd rfl h1
 ·rw [text_name] at hlen ⊢
  have hc : (w.alloc (.cells #[.int .i64 2, .int .i64 num, .string name, .slice sa 0 sc] 34)).cell? ⟨0, 2, none⟩ = some (.string ⟨#[]⟩) := (HES.out _).signs 2 (by decide)
  have HQ1 := Lib.hid ((PrSt.refl HO.out).keep0 ((Keep.refl [] w).alloc (.cells #[.int .i64 2, .int .i64 num, .string name, .slice sa 0 sc] 34)))
  have hB1 : base ≤ (w.alloc (.cells #[.int .i64 2, .int .i64 num, .string name, .slice sa 0 sc] 34)).heap.size := by simp; omega
  have hlen2 : bs.length + name.size ≤ 1000000 := hlen
  clear hlen
  clear hs hsa hop hop' ho
  go_enter Tryd.func48, Tryd.ntmps48
  go_wp2_with (at_builtin; refine wpList_append_str_fresh _ rfl _ _ 45 9 rfl base 5 i0 Tryd.underlying45 Tryd.underlying9 hi hz0 hz1 hz2 v bs.length (bcells bs) rfl HQ1.out.own name rfl (by unfold maxLen; omega) (by omega) hB1 ?_)
  intro v2 w2 ho2 hg2 hf2
  have hp := PrSt.app (l := name.data.toList) HQ1.out.own rfl ho2 (strCells_b name) rfl hg2 (fun g hg => by have := hf2 g hg; simpa using this)
  go_wp2_with fail
  go_ret
  exact ⟨v2, rfl, HQ1.out.trans hp⟩
 ·have h2 : op ≠ 2 := by
   rcases hrest with ⟨h, _⟩ | ⟨h, _⟩ | ⟨s, hs, hm, _⟩
   ·omega
   ·omega
   ·rcases (show s = 0 ∨ s = 1 ∨ s = 2 ∨ s = 3 ∨ s = 4 by omega) with rfl | rfl | rfl | rfl | rfl <;> simp [signsO] at hm <;> omega
  have hr2 : ((op = 3 ∨ op = 4) ∧ ∃ e, args = [e]) ∨ ((5 ≤ op) ∧ ∃ e0 e1, args = [e0, e1]) := by
   rcases hrest with ⟨h, h2⟩ | ⟨h, h2⟩ | ⟨s, hs, hm, h2⟩
   ·exact .inl ⟨.inl h, h2⟩
   ·exact .inl ⟨.inr h, h2⟩
   ·refine .inr ⟨?_, h2⟩
    rcases (show s = 0 ∨ s = 1 ∨ s = 2 ∨ s = 3 ∨ s = 4 by omega) with rfl | rfl | rfl | rfl | rfl <;> simp [signsO] at hm <;> omega
  have HPL := Lib.hid (shape_plain hs h1 h2)
  have HSA := Lib.hid hsa
  clear hrest hs hsa ho
  rcases hr2 with ⟨h34, x, rfl⟩ | ⟨h5, x, y, rfl⟩
  ·clear h1 h2
   rcases h34 with h3 | h3
   ·subst h3
    have hsg : (w.alloc (.cells #[.int .i64 3, .int .i64 num, .string name, .slice sa 1 sc] 34)).cell? ⟨0, 3, none⟩ = some (.string ⟨#[45]⟩) := (HES.out _).signs 3 (by decide)
    have HQ1 := Lib.hid ((PrSt.refl HO.out).keep0 ((Keep.refl [] w).alloc (.cells #[.int .i64 3, .int .i64 num, .string name, .slice sa 1 sc] 34)))
    have hB1 : base ≤ (w.alloc (.cells #[.int .i64 3, .int .i64 num, .string name, .slice sa 1 sc] 34)).heap.size := by simp; omega
    have HB1 := Lib.hid (HBX.out (.cells #[.int .i64 3, .int .i64 num, .string name, .slice sa 1 sc] 34))
    have x0 : (w.alloc (.cells #[.int .i64 3, .int .i64 num, .string name, .slice sa 1 sc] 34)).cell? ⟨w.heap.size, 0, none⟩ = some (.int .i64 3) := by go_simp
    have x1 : (w.alloc (.cells #[.int .i64 3, .int .i64 num, .string name, .slice sa 1 sc] 34)).cell? ⟨w.heap.size, 1, none⟩ = some (.int .i64 num) := by go_simp
    have x2 : (w.alloc (.cells #[.int .i64 3, .int .i64 num, .string name, .slice sa 1 sc] 34)).cell? ⟨w.heap.size, 2, none⟩ = some (.string name) := by go_simp
    have x3 : (w.alloc (.cells #[.int .i64 3, .int .i64 num, .string name, .slice sa 1 sc] 34)).cell? ⟨w.heap.size, 3, none⟩ = some (.slice sa 1 sc) := by go_simp
    have hXl : w.heap.size < (w.alloc (.cells #[.int .i64 3, .int .i64 num, .string name, .slice sa 1 sc] 34)).heap.size := by simp
    rw [text_un3] at hlen ⊢
    have hlen2 : bs.length + (argT 3 0 x).length + 1 ≤ 1000000 := by simp at hlen; omega
    go_enter Tryd.func48, Tryd.ntmps48
    go_wp2_with fail
    generalize (w.alloc (.cells #[.int .i64 3, .int .i64 num, .string name, .slice sa 1 sc] 34)) = w1 at HQ1 hB1 HB1 x0 x1 x2 x3 hXl hsg ⊢
    obtain ⟨X, hXe⟩ : ∃ X, X = w.heap.size := ⟨_, rfl⟩
    rw [← hXe] at x0 x1 x2 x3 hXl HXN ⊢
    clear hXe hsg
    have hzs : (⟨#[45]⟩ : ByteArray).size = 1 := rfl
    have HQ0 := HQ1
    clear HQ1
    have HQ1 := Lib.hid (PrSt.refl HQ0.out.own)
    refine wp_region_held_drew (S := fun w' => w'.cell? ⟨X, 3, none⟩ = some (.slice sa 1 sc)) (by kernel_rfl) x3 (fun hHeld => ?_)
    have kd := (Keep.refl [] w1).drew
    have HQ2 := Lib.hid (HQ1.out.keep0 kd)
    have x0' : w1.drew.cell? ⟨X, 0, none⟩ = some (.int .i64 3) := x0
    have x1' : w1.drew.cell? ⟨X, 1, none⟩ = some (.int .i64 num) := x1
    have x2' : w1.drew.cell? ⟨X, 2, none⟩ = some (.string name) := x2
    have hBd : base ≤ w1.drew.heap.size := hB1
    have HBd := Lib.hid (HB1.out.trans (kd.below hB1 (by simp)))
    clear kd x0 x1 x2 x3
    generalize w1.drew = w2 at hHeld HQ2 x0' x1' x2' hBd HBd ⊢
    refine held_take 0 (v := ?vv23) (by kernel_rfl) rfl (by rfl) (by kernel_rfl) (by kernel_rfl) (fun _ _ _ h => h) ?hyy23 (by assumption) ?rest23
    case hyy23 => (intro w hSw; (try dsimp only at hSw); go_simp; (try with_reducible rfl))
    (try go_frame)
    refine held_take 1 (v := ?vv24) (by kernel_rfl) rfl (by rfl) (by kernel_rfl) (by kernel_rfl) (fun _ _ _ h => h) ?hyy24 (by assumption) ?rest24
    case hyy24 => (intro w hSw; (try dsimp only at hSw); go_simp; (try with_reducible rfl))
    (try go_frame)
    refine held_take 2 (v := ?vv25) (by kernel_rfl) rfl (by rfl) (by kernel_rfl) (by kernel_rfl) (fun _ _ _ h => h) ?hyy25 (by assumption) ?rest25
    case hyy25 => (intro w hSw; (try dsimp only at hSw); go_simp; (try with_reducible rfl))
    (try go_frame)
    refine held_take 4 (v := ?vv26) (by kernel_rfl) rfl (by rfl) (by kernel_rfl) (by kernel_rfl) (fun _ _ _ h => h) ?hyy26 (by assumption) ?rest26
    case hyy26 => (intro w hSw; (try dsimp only at hSw); go_simp; (try with_reducible rfl))
    (try go_frame)
    refine held_take 5 (v := ?vv27) (by kernel_rfl) rfl (by rfl) (by kernel_rfl) (by kernel_rfl) (fun _ _ _ h => h) ?hyy27 (by assumption) ?rest27
    case hyy27 => (intro w hSw; (try dsimp only at hSw); go_simp; (try with_reducible rfl))
    (try go_frame)
    refine held_take 6 (v := ?vv28) (by kernel_rfl) rfl (by rfl) (by kernel_rfl) (by kernel_rfl) (fun _ _ _ h => h) ?hyy28 (by assumption) ?rest28
    case hyy28 => (intro w hSw; (try dsimp only at hSw); go_simp; (try with_reducible rfl))
    (try go_frame)
    refine held_take 7 (v := ?vv29) (by kernel_rfl) rfl (by rfl) (by kernel_rfl) (by kernel_rfl) (fun _ _ _ h => h) ?hyy29 (by assumption) ?rest29
    case hyy29 => (intro w hSw; (try dsimp only at hSw); go_simp; (try with_reducible rfl))
    (try go_frame)
    refine held_one 3 (by kernel_rfl) rfl (by rfl) (fun K' hK => ?_)
    refine wp_append_str_fresh _ _ _ 45 9 rfl base 5 i0 Tryd.underlying45 Tryd.underlying9 hi hz0 hz1 hz2 v bs.length (bcells bs) rfl HQ2.out.own ⟨#[45]⟩ rfl (by (try simp); unfold maxLen; omega) (by (try simp); omega) hBd ?_
    intro v3 w3 ho2 hg2 hf2
    have hps := PrSt.app (l := [45]) HQ2.out.own rfl ho2 rfl rfl hg2 hf2
    have HQ3 := Lib.hid (HQ2.out.trans hps)
    have hXv : X ∉ ownB v := HQ2.out.notin hXl HXN.out
    have y0 := (hps.keep.cell (p := ⟨X, 0, none⟩) (cell_lt x0') hXv).trans x0'
    have y1 := (hps.keep.cell (p := ⟨X, 1, none⟩) (cell_lt x1') hXv).trans x1'
    have y2 := (hps.keep.cell (p := ⟨X, 2, none⟩) (cell_lt x2') hXv).trans x2'
    have y3 := (hps.keep.cell (p := ⟨X, 3, none⟩) (cell_lt hHeld) hXv).trans hHeld
    have hBq : base ≤ w3.heap.size := Nat.le_trans hBd hps.keep.size
    have HBq := Lib.hid (hps.bel HBd.out hBd HQ2.out.own)
    (try dsimp only)
    refine hK.out _ _ y3 (fun hHeld' => ?_)
    clear hK K' hHeld hps ho2 hg2 hf2 x0' x1' x2'
    have hHeld := hHeld'
    clear hHeld'
    (try go_frame)
    refine held_one 8 (by kernel_rfl) rfl (by rfl) (fun K' hK => ?_)
    go_simp
    refine (inner_pr 3 num name _ _ 0 w0 w3 base X v3 (bs ++ [45]) (by simp) ⟨hop, shape_op (HSA.out 0 (by simp))⟩ (IH.out 0 (by simp)) HV.out HW.out HBq.out hBq HQ3.out.own (by (try simp); omega) HE.out (by simp) (HQ3.out.notin hXl HXN.out) y0 y1 y2 y3).mono ?_
    rintro r w4 ⟨v4, rfl, hps⟩
    have HQ4 := Lib.hid (HQ3.out.trans hps)
    (try dsimp only)
    refine hK.out _ _ ((hps.keep.cell (p := ⟨X, 3, none⟩) (cell_lt y3) (HQ3.out.notin hXl HXN.out)).trans y3) (fun hHeld' => ?_)
    clear hK K' hHeld hps y0 y1 y2 y3
    have hHeld := hHeld'
    clear hHeld'
    (try go_frame)
    refine held_take 9 (v := ?vv30) (by kernel_rfl) rfl (by rfl) (by kernel_rfl) (by kernel_rfl) (fun _ _ _ h => h) ?hyy30 (by assumption) ?rest30
    case hyy30 => (intro w hSw; (try dsimp only at hSw); go_simp; (try with_reducible rfl))
    (try go_frame)
    clear hHeld
    refine wpAnyH_done (by kernel_rfl) ?_ _
    go_wp2_with fail
    go_ret
    exact ⟨_, rfl, by have := HQ0.out.trans HQ4.out; simpa [List.append_assoc] using this⟩
   ·subst h3
    have hsg : (w.alloc (.cells #[.int .i64 4, .int .i64 num, .string name, .slice sa 1 sc] 34)).cell? ⟨0, 4, none⟩ = some (.string ⟨#[33]⟩) := (HES.out _).signs 4 (by decide)
    have HQ1 := Lib.hid ((PrSt.refl HO.out).keep0 ((Keep.refl [] w).alloc (.cells #[.int .i64 4, .int .i64 num, .string name, .slice sa 1 sc] 34)))
    have hB1 : base ≤ (w.alloc (.cells #[.int .i64 4, .int .i64 num, .string name, .slice sa 1 sc] 34)).heap.size := by simp; omega
    have HB1 := Lib.hid (HBX.out (.cells #[.int .i64 4, .int .i64 num, .string name, .slice sa 1 sc] 34))
    have x0 : (w.alloc (.cells #[.int .i64 4, .int .i64 num, .string name, .slice sa 1 sc] 34)).cell? ⟨w.heap.size, 0, none⟩ = some (.int .i64 4) := by go_simp
    have x1 : (w.alloc (.cells #[.int .i64 4, .int .i64 num, .string name, .slice sa 1 sc] 34)).cell? ⟨w.heap.size, 1, none⟩ = some (.int .i64 num) := by go_simp
    have x2 : (w.alloc (.cells #[.int .i64 4, .int .i64 num, .string name, .slice sa 1 sc] 34)).cell? ⟨w.heap.size, 2, none⟩ = some (.string name) := by go_simp
    have x3 : (w.alloc (.cells #[.int .i64 4, .int .i64 num, .string name, .slice sa 1 sc] 34)).cell? ⟨w.heap.size, 3, none⟩ = some (.slice sa 1 sc) := by go_simp
    have hXl : w.heap.size < (w.alloc (.cells #[.int .i64 4, .int .i64 num, .string name, .slice sa 1 sc] 34)).heap.size := by simp
    rw [text_un4] at hlen ⊢
    have hlen2 : bs.length + (argT 4 0 x).length + 1 ≤ 1000000 := by simp at hlen; omega
    go_enter Tryd.func48, Tryd.ntmps48
    go_wp2_with fail
    generalize (w.alloc (.cells #[.int .i64 4, .int .i64 num, .string name, .slice sa 1 sc] 34)) = w1 at HQ1 hB1 HB1 x0 x1 x2 x3 hXl hsg ⊢
    obtain ⟨X, hXe⟩ : ∃ X, X = w.heap.size := ⟨_, rfl⟩
    rw [← hXe] at x0 x1 x2 x3 hXl HXN ⊢
    clear hXe hsg
    have hzs : (⟨#[33]⟩ : ByteArray).size = 1 := rfl
    have HQ0 := HQ1
    clear HQ1
    have HQ1 := Lib.hid (PrSt.refl HQ0.out.own)
    refine wp_region_held_drew (S := fun w' => w'.cell? ⟨X, 3, none⟩ = some (.slice sa 1 sc)) (by kernel_rfl) x3 (fun hHeld => ?_)
    have kd := (Keep.refl [] w1).drew
    have HQ2 := Lib.hid (HQ1.out.keep0 kd)
    have x0' : w1.drew.cell? ⟨X, 0, none⟩ = some (.int .i64 4) := x0
    have x1' : w1.drew.cell? ⟨X, 1, none⟩ = some (.int .i64 num) := x1
    have x2' : w1.drew.cell? ⟨X, 2, none⟩ = some (.string name) := x2
    have hBd : base ≤ w1.drew.heap.size := hB1
    have HBd := Lib.hid (HB1.out.trans (kd.below hB1 (by simp)))
    clear kd x0 x1 x2 x3
    generalize w1.drew = w2 at hHeld HQ2 x0' x1' x2' hBd HBd ⊢
    refine held_take 0 (v := ?vv31) (by kernel_rfl) rfl (by rfl) (by kernel_rfl) (by kernel_rfl) (fun _ _ _ h => h) ?hyy31 (by assumption) ?rest31
    case hyy31 => (intro w hSw; (try dsimp only at hSw); go_simp; (try with_reducible rfl))
    (try go_frame)
    refine held_take 1 (v := ?vv32) (by kernel_rfl) rfl (by rfl) (by kernel_rfl) (by kernel_rfl) (fun _ _ _ h => h) ?hyy32 (by assumption) ?rest32
    case hyy32 => (intro w hSw; (try dsimp only at hSw); go_simp; (try with_reducible rfl))
    (try go_frame)
    refine held_take 2 (v := ?vv33) (by kernel_rfl) rfl (by rfl) (by kernel_rfl) (by kernel_rfl) (fun _ _ _ h => h) ?hyy33 (by assumption) ?rest33
    case hyy33 => (intro w hSw; (try dsimp only at hSw); go_simp; (try with_reducible rfl))
    (try go_frame)
    refine held_take 4 (v := ?vv34) (by kernel_rfl) rfl (by rfl) (by kernel_rfl) (by kernel_rfl) (fun _ _ _ h => h) ?hyy34 (by assumption) ?rest34
    case hyy34 => (intro w hSw; (try dsimp only at hSw); go_simp; (try with_reducible rfl))
    (try go_frame)
    refine held_take 5 (v := ?vv35) (by kernel_rfl) rfl (by rfl) (by kernel_rfl) (by kernel_rfl) (fun _ _ _ h => h) ?hyy35 (by assumption) ?rest35
    case hyy35 => (intro w hSw; (try dsimp only at hSw); go_simp; (try with_reducible rfl))
    (try go_frame)
    refine held_take 6 (v := ?vv36) (by kernel_rfl) rfl (by rfl) (by kernel_rfl) (by kernel_rfl) (fun _ _ _ h => h) ?hyy36 (by assumption) ?rest36
    case hyy36 => (intro w hSw; (try dsimp only at hSw); go_simp; (try with_reducible rfl))
    (try go_frame)
    refine held_take 7 (v := ?vv37) (by kernel_rfl) rfl (by rfl) (by kernel_rfl) (by kernel_rfl) (fun _ _ _ h => h) ?hyy37 (by assumption) ?rest37
    case hyy37 => (intro w hSw; (try dsimp only at hSw); go_simp; (try with_reducible rfl))
    (try go_frame)
    refine held_one 3 (by kernel_rfl) rfl (by rfl) (fun K' hK => ?_)
    refine wp_append_str_fresh _ _ _ 45 9 rfl base 5 i0 Tryd.underlying45 Tryd.underlying9 hi hz0 hz1 hz2 v bs.length (bcells bs) rfl HQ2.out.own ⟨#[33]⟩ rfl (by (try simp); unfold maxLen; omega) (by (try simp); omega) hBd ?_
    intro v3 w3 ho2 hg2 hf2
    have hps := PrSt.app (l := [33]) HQ2.out.own rfl ho2 rfl rfl hg2 hf2
    have HQ3 := Lib.hid (HQ2.out.trans hps)
    have hXv : X ∉ ownB v := HQ2.out.notin hXl HXN.out
    have y0 := (hps.keep.cell (p := ⟨X, 0, none⟩) (cell_lt x0') hXv).trans x0'
    have y1 := (hps.keep.cell (p := ⟨X, 1, none⟩) (cell_lt x1') hXv).trans x1'
    have y2 := (hps.keep.cell (p := ⟨X, 2, none⟩) (cell_lt x2') hXv).trans x2'
    have y3 := (hps.keep.cell (p := ⟨X, 3, none⟩) (cell_lt hHeld) hXv).trans hHeld
    have hBq : base ≤ w3.heap.size := Nat.le_trans hBd hps.keep.size
    have HBq := Lib.hid (hps.bel HBd.out hBd HQ2.out.own)
    (try dsimp only)
    refine hK.out _ _ y3 (fun hHeld' => ?_)
    clear hK K' hHeld hps ho2 hg2 hf2 x0' x1' x2'
    have hHeld := hHeld'
    clear hHeld'
    (try go_frame)
    refine held_one 8 (by kernel_rfl) rfl (by rfl) (fun K' hK => ?_)
    go_simp
    refine (inner_pr 4 num name _ _ 0 w0 w3 base X v3 (bs ++ [33]) (by simp) ⟨hop, shape_op (HSA.out 0 (by simp))⟩ (IH.out 0 (by simp)) HV.out HW.out HBq.out hBq HQ3.out.own (by (try simp); omega) HE.out (by simp) (HQ3.out.notin hXl HXN.out) y0 y1 y2 y3).mono ?_
    rintro r w4 ⟨v4, rfl, hps⟩
    have HQ4 := Lib.hid (HQ3.out.trans hps)
    (try dsimp only)
    refine hK.out _ _ ((hps.keep.cell (p := ⟨X, 3, none⟩) (cell_lt y3) (HQ3.out.notin hXl HXN.out)).trans y3) (fun hHeld' => ?_)
    clear hK K' hHeld hps y0 y1 y2 y3
    have hHeld := hHeld'
    clear hHeld'
    (try go_frame)
    refine held_take 9 (v := ?vv38) (by kernel_rfl) rfl (by rfl) (by kernel_rfl) (by kernel_rfl) (fun _ _ _ h => h) ?hyy38 (by assumption) ?rest38
    case hyy38 => (intro w hSw; (try dsimp only at hSw); go_simp; (try with_reducible rfl))
    (try go_frame)
    clear hHeld
    refine wpAnyH_done (by kernel_rfl) ?_ _
    go_wp2_with fail
    go_ret
    exact ⟨_, rfl, by have := HQ0.out.trans HQ4.out; simpa [List.append_assoc] using this⟩
  ·have h517 : 5 ≤ op ∧ op ≤ 17 := ⟨h5, hop'.2⟩
   rw [text_bin op num name x y h517] at hlen ⊢
   have hlen2 : bs.length + (argT op 0 x).length + (opSign op).length + 2 + (argT op 1 y).length ≤ 1000000 := by simp at hlen; omega
   obtain ⟨sj, hsj, hopj, hsgn⟩ := sign_all op h517
   have hsg0 := (HES.out (.cells #[.int .i64 op, .int .i64 num, .string name, .slice sa 2 sc] 34)).signs sj hsj
   rw [hsgn] at hsg0
   have hsj18 : sj < 18 := by simpa [signsAll] using hsj
   subst hopj
   obtain ⟨zs, hzs0⟩ : ∃ zs, zs = opSign (sj : Int) := ⟨_, rfl⟩
   rw [← hzs0] at hsg0 hlen2 ⊢
   have HZS0 := Lib.hid hzs0
   clear hzs0 hlen h1 h2 hsgn h517 hsj
   have HQ1 := Lib.hid ((PrSt.refl HO.out).keep0 ((Keep.refl [] w).alloc (.cells #[.int .i64 sj, .int .i64 num, .string name, .slice sa 2 sc] 34)))
   have hB1 : base ≤ (w.alloc (.cells #[.int .i64 sj, .int .i64 num, .string name, .slice sa 2 sc] 34)).heap.size := by simp; omega
   have HB1 := Lib.hid (HBX.out (.cells #[.int .i64 sj, .int .i64 num, .string name, .slice sa 2 sc] 34))
   have x0 : (w.alloc (.cells #[.int .i64 sj, .int .i64 num, .string name, .slice sa 2 sc] 34)).cell? ⟨w.heap.size, 0, none⟩ = some (.int .i64 sj) := by go_simp
   have x1 : (w.alloc (.cells #[.int .i64 sj, .int .i64 num, .string name, .slice sa 2 sc] 34)).cell? ⟨w.heap.size, 1, none⟩ = some (.int .i64 num) := by go_simp
   have x2 : (w.alloc (.cells #[.int .i64 sj, .int .i64 num, .string name, .slice sa 2 sc] 34)).cell? ⟨w.heap.size, 2, none⟩ = some (.string name) := by go_simp
   have x3 : (w.alloc (.cells #[.int .i64 sj, .int .i64 num, .string name, .slice sa 2 sc] 34)).cell? ⟨w.heap.size, 3, none⟩ = some (.slice sa 2 sc) := by go_simp
   have hXl : w.heap.size < (w.alloc (.cells #[.int .i64 sj, .int .i64 num, .string name, .slice sa 2 sc] 34)).heap.size := by simp
   have hsjl : (sj : Int) < 18 := by omega
   have hsg := hsg0
   clear hsg0
   go_enter Tryd.func48, Tryd.ntmps48
   go_wp2_with fail
   generalize (w.alloc (.cells #[.int .i64 sj, .int .i64 num, .string name, .slice sa 2 sc] 34)) = w1 at HQ1 hB1 HB1 x0 x1 x2 x3 hXl hsg ⊢
   obtain ⟨X, hXe⟩ : ∃ X, X = w.heap.size := ⟨_, rfl⟩
   rw [← hXe] at x0 x1 x2 x3 hXl HXN ⊢
   clear hXe hsg
   have HQ0 := HQ1
   clear HQ1
   have HQ1 := Lib.hid (PrSt.refl HQ0.out.own)
   refine (inner_pr (sj : Int) num name _ _ 0 w0 w1 base X v bs (by simp) ⟨hop, shape_op (HSA.out 0 (by simp))⟩ (IH.out 0 (by simp)) HV.out HW.out HB1.out hB1 HQ1.out.own (by (try simp); omega) HE.out (by simp) HXN.out x0 x1 x2 x3).mono ?_
   rintro r w2 ⟨v2, rfl, hps⟩
   have HQ2 := Lib.hid (HQ1.out.trans hps)
   have HB2 := Lib.hid (hps.bel HB1.out hB1 HQ1.out.own)
   have hB2 : base ≤ w2.heap.size := Nat.le_trans hB1 hps.keep.size
   have x0 := (hps.keep.cell (p := ⟨X, 0, none⟩) (cell_lt x0) HXN.out).trans x0
   have x1 := (hps.keep.cell (p := ⟨X, 1, none⟩) (cell_lt x1) HXN.out).trans x1
   have x2 := (hps.keep.cell (p := ⟨X, 2, none⟩) (cell_lt x2) HXN.out).trans x2
   have x3 := (hps.keep.cell (p := ⟨X, 3, none⟩) (cell_lt x3) HXN.out).trans x3
   clear hps HB1 hB1
   obtain ⟨p1, hp1, hl1, ha1⟩ := add_opaque [32] zs (bytes zs) rfl (by simp; omega)
   obtain ⟨pz, hpz1, hl2, ha2⟩ := add_opaque p1 [32] ⟨#[32]⟩ rfl (by simp at hl1 ⊢; omega)
   have hpz : pz = [32] ++ zs ++ [32] := by rw [hpz1, hp1]
   have ha1' : ∀ W : World, (Op.stringOp .add (⟨#[32]⟩ : ByteArray) (bytes zs)).run Tryd.prog W = .ok (.string (bytes p1)) W := ha1
   have hzs : (bytes pz).size = zs.length + 2 := by rw [bytes_size, hpz]; simp
   have hpl : pz.length = zs.length + 2 := by rw [hpz]; simp
   clear ha1 hp1 hpz1 hl1 hl2
   have HPZ := Lib.hid hpz
   clear hpz
   go_wp2_with fail
   refine wp_region_held_drew (S := fun w' => w'.cell? ⟨X, 3, none⟩ = some (.slice sa 2 sc)) (by kernel_rfl) x3 (fun hHeld => ?_)
   have kd := (Keep.refl [] w2).drew
   have HQ3 := Lib.hid (HQ2.out.keep0 kd)
   have x0' : w2.drew.cell? ⟨X, 0, none⟩ = some (.int .i64 sj) := x0
   have x1' : w2.drew.cell? ⟨X, 1, none⟩ = some (.int .i64 num) := x1
   have x2' : w2.drew.cell? ⟨X, 2, none⟩ = some (.string name) := x2
   have hBd : base ≤ w2.drew.heap.size := hB2
   have HBd := Lib.hid (HB2.out.trans (kd.below hB2 (by simp)))
   clear kd x0 x1 x2 x3
   generalize w2.drew = w3 at hHeld HQ3 x0' x1' x2' hBd HBd ⊢
   refine held_take 0 (v := ?vv39) (by kernel_rfl) rfl (by rfl) (by kernel_rfl) (by kernel_rfl) (fun _ _ _ h => h) ?hyy39 (by assumption) ?rest39
   case hyy39 => (intro w hSw; (try dsimp only at hSw); go_simp; (try with_reducible rfl))
   (try go_frame)
   refine held_take 1 (v := ?vv40) (by kernel_rfl) rfl (by rfl) (by kernel_rfl) (by kernel_rfl) (fun _ _ _ h => h) ?hyy40 (by assumption) ?rest40
   case hyy40 => (intro w hSw; (try dsimp only at hSw); go_simp; (try with_reducible rfl))
   (try go_frame)
   refine held_take 2 (v := ?vv41) (by kernel_rfl) rfl (by rfl) (by kernel_rfl) (by kernel_rfl) (fun _ _ _ h => h) ?hyy41 (by assumption) ?rest41
   case hyy41 => (intro w hSw; (try dsimp only at hSw); go_simp; (try with_reducible rfl))
   (try go_frame)
   refine held_take 4 (v := ?vv42) (by kernel_rfl) rfl (by rfl) (by kernel_rfl) (by kernel_rfl) (fun _ _ _ h => h) ?hyy42 (by assumption) ?rest42
   case hyy42 => (intro w hSw; (try dsimp only at hSw); go_simp; (try with_reducible rfl))
   (try go_frame)
   refine held_take 5 (v := ?vv43) (by kernel_rfl) rfl (by rfl) (by kernel_rfl) (by kernel_rfl) (fun _ _ _ h => h) ?hyy43 (by assumption) ?rest43
   case hyy43 => (intro w hSw; (try dsimp only at hSw); go_simp; (try with_reducible rfl))
   (try go_frame)
   refine held_take 6 (v := ?vv44) (by kernel_rfl) rfl (by rfl) (by kernel_rfl) (by kernel_rfl) (fun _ _ _ h => h) ?hyy44 (by assumption) ?rest44
   case hyy44 => (intro w hSw; (try dsimp only at hSw); go_simp; (try with_reducible rfl))
   (try go_frame)
   refine held_take 7 (v := ?vv45) (by kernel_rfl) rfl (by rfl) (by kernel_rfl) (by kernel_rfl) (fun _ _ _ h => h) ?hyy45 (by assumption) ?rest45
   case hyy45 => (intro w hSw; (try dsimp only at hSw); go_simp; (try with_reducible rfl))
   (try go_frame)
   refine held_one 3 (by kernel_rfl) rfl (by rfl) (fun K' hK => ?_)
   refine wp_append_str_fresh _ _ _ 45 9 rfl base 5 i0 Tryd.underlying45 Tryd.underlying9 hi hz0 hz1 hz2 v2 (bs ++ argT (sj : Int) 0 x).length (bcells (bs ++ argT (sj : Int) 0 x)) rfl HQ3.out.own (bytes pz) rfl (by (try simp); unfold maxLen; omega) (by (try simp); omega) hBd ?_
   intro v4 w4 ho2 hg2 hf2
   have hps := PrSt.app (l := pz) HQ3.out.own rfl ho2 rfl rfl hg2 hf2
   have HQ4 := Lib.hid (HQ3.out.trans hps)
   have hXv : X ∉ ownB v2 := HQ3.out.notin hXl HXN.out
   have y0 := (hps.keep.cell (p := ⟨X, 0, none⟩) (cell_lt x0') hXv).trans x0'
   have y1 := (hps.keep.cell (p := ⟨X, 1, none⟩) (cell_lt x1') hXv).trans x1'
   have y2 := (hps.keep.cell (p := ⟨X, 2, none⟩) (cell_lt x2') hXv).trans x2'
   have y3 := (hps.keep.cell (p := ⟨X, 3, none⟩) (cell_lt hHeld) hXv).trans hHeld
   have hBq : base ≤ w4.heap.size := Nat.le_trans hBd hps.keep.size
   have HBq := Lib.hid (hps.bel HBd.out hBd HQ3.out.own)
   (try dsimp only)
   refine hK.out _ _ y3 (fun hHeld' => ?_)
   clear hK K' hHeld hps ho2 hg2 hf2 x0' x1' x2'
   have hHeld := hHeld'
   clear hHeld'
   (try go_frame)
   refine held_one 8 (by kernel_rfl) rfl (by rfl) (fun K' hK => ?_)
   go_simp
   refine (inner_pr (sj : Int) num name _ _ 1 w0 w4 base X v4 ((bs ++ argT (sj : Int) 0 x) ++ pz) (by simp) ⟨hop, shape_op (HSA.out 1 (by simp))⟩ (IH.out 1 (by simp)) HV.out HW.out HBq.out hBq HQ4.out.own (by (try simp); omega) HE.out (by simp) (HQ4.out.notin hXl HXN.out) y0 y1 y2 y3).mono ?_
   rintro r w5 ⟨v5, rfl, hps⟩
   have HQ5 := Lib.hid (HQ4.out.trans hps)
   (try dsimp only)
   refine hK.out _ _ ((hps.keep.cell (p := ⟨X, 3, none⟩) (cell_lt y3) (HQ4.out.notin hXl HXN.out)).trans y3) (fun hHeld' => ?_)
   clear hK K' hHeld hps y0 y1 y2 y3
   have hHeld := hHeld'
   clear hHeld'
   (try go_frame)
   refine held_take 9 (v := ?vv46) (by kernel_rfl) rfl (by rfl) (by kernel_rfl) (by kernel_rfl) (fun _ _ _ h => h) ?hyy46 (by assumption) ?rest46
   case hyy46 => (intro w hSw; (try dsimp only at hSw); go_simp; (try with_reducible rfl))
   (try go_frame)
   clear hHeld
   refine wpAnyH_done (by kernel_rfl) ?_ _
   go_wp2_with fail
   go_ret
   exact ⟨_, rfl, by have := HQ0.out.trans HQ5.out; rw [HPZ.out] at this; simpa [List.append_assoc] using this⟩
theorem printed_any : ∀ (N : Nat) (e : AExpr), e.nodes ≤ N → shapeB e = true → noNum e = true → PrintC e
 | 0, .mk op num name args, hN, _, _ => by rw [AExpr.nodes] at hN; omega
 | N + 1, .mk op num name args, hN, hs, hn => by
  rw [AExpr.nodes] at hN
  have hsa := shape_args hs
  rw [noNum, Bool.and_eq_true, decide_eq_true_eq] at hn
  exact printed_node op num name args hs hn.1 fun k hk => printed_any N args[k] (by have := nodesL_get args k hk; omega) (hsa k hk) (noNumL_get args hn.2 k hk)
set_option maxRecDepth 100000 in
set_option maxHeartbeats 1600000 in
theorem formatE (e : AExpr) (cs : List Value) (w : World) (hs : shapeB e = true) (hh : heightN e ≤ 24) (hn : e.nodes ≤ 1000000) (hno : noNum e = true) (hl : (exprText e).length ≤ 1000000) (hr : ExprRep w e cs) (he : EnvS w) (hev : Env w) :
  Calls Tryd.prog 27 #[.agg cs.toArray] w fun r w' => r = .returned (.string (bytes (exprText e))) ∧ Below w.heap.size w w' := by
 obtain ⟨v, rfl, hv⟩ := exprRep_op hr
 have hbA := (Below.refl w.heap.size w).alloc (Nat.le_refl _) (.cells #[.int .i64 e.op, .int .i64 e.num, .string e.name, v] 34)
 have HV := Lib.hid (validE e _ _ hs hh hn (ExprRep.below hbA e hr) (he.below hbA) (hev.below hbA hev.size))
 have HP := Lib.hid (printed_any _ e (Nat.le_refl _) hs hno)
 have HR := Lib.hid hr
 have HE := Lib.hid he
 have HBA := Lib.hid hbA
 have c0 : (w.alloc (.cells #[.int .i64 e.op, .int .i64 e.num, .string e.name, v] 34)).cell? ⟨w.heap.size, 0, none⟩ = some (.int .i64 e.op) := by go_simp
 have c1 : (w.alloc (.cells #[.int .i64 e.op, .int .i64 e.num, .string e.name, v] 34)).cell? ⟨w.heap.size, 1, none⟩ = some (.int .i64 e.num) := by go_simp
 have c2 : (w.alloc (.cells #[.int .i64 e.op, .int .i64 e.num, .string e.name, v] 34)).cell? ⟨w.heap.size, 2, none⟩ = some (.string e.name) := by go_simp
 have c3 : (w.alloc (.cells #[.int .i64 e.op, .int .i64 e.num, .string e.name, v] 34)).cell? ⟨w.heap.size, 3, none⟩ = some v := by go_simp
 obtain ⟨t, ht⟩ : ∃ t, t = exprText e := ⟨_, rfl⟩
 rw [← ht] at hl ⊢
 have HT := Lib.hid ht
 clear hs hh hn hno hr he hev hv hbA ht
 go_enter Tryd.func27, Tryd.ntmps27
 go_wp2_with fail
 refine HV.out.mono ?_
 rintro r w2 ⟨rfl, hb2⟩
 have z0 := cell_step c0 hb2
 have z1 := cell_step c1 hb2
 have z2 := cell_step c2 hb2
 have z3 := cell_step c3 hb2
 have HB2 := Lib.hid (Below.step HBA.out hb2)
 have hsz2 : w.heap.size ≤ w2.heap.size := HB2.out.size
 clear c0 c1 c2 c3 hb2 HV
 go_wp2_with fail
 refine (HP.out w w2 w.heap.size (.slice none 0 0) [] _ HR.out (Nat.le_refl _) HB2.out hsz2 (ownsRow_nil _ _ _ _) (by rw [← HT.out]; simpa using hl) HE.out).mono ?_
 rintro r w3 ⟨v3, rfl, hp⟩
 rw [← HT.out, List.nil_append] at hp
 obtain ⟨a3, c3', he3, hc3, hr3⟩ := RowAt.of_owns hp.own
 subst he3
 have hcv := conv_row t a3 c3' w3 hr3
 have hb3 := HB2.out.trans (hp.keep.below (B := w.heap.size) hsz2 (fun x hx => by simp [ownB, Value.ownBlock] at hx))
 clear hp hr3
 go_wp2_with fail
 go_ret
 exact ⟨rfl, hb3⟩
end Go.Proofs.YtiimofjemiffgaaDoor
