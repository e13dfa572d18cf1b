import Derived.Test.YtiimofjemiffgaaDoorPExpr4J
import Derived.Maps.RangeWalk
set_option linter.unusedVariables false
set_option linter.unusedSimpArgs false
namespace Go.Proofs.YtiimofjemiffgaaDoor
open Go.RowKit
structure RS (l : List Tok) (b off tc P : Nat) (H : List Nat) (k bad e nest deep : Nat) (w : World) : Prop where
 mem : P ∈ H
 lt : P < w.heap.size
 free : ∀ o, w.frozen? ⟨P, o, none⟩ = false
 c0 : w.cell? ⟨P, 0, none⟩ = some (.slice (some ⟨b, off, none⟩) l.length tc)
 c1 : w.cell? ⟨P, 1, none⟩ = some (.int .i64 k)
 c2 : w.cell? ⟨P, 2, none⟩ = some (.int .i64 bad)
 c3 : w.cell? ⟨P, 3, none⟩ = some (.int .i64 e)
 c4 : w.cell? ⟨P, 4, none⟩ = some (.int .i64 nest)
 c5 : w.cell? ⟨P, 5, none⟩ = some (.int .i64 deep)
 row : ∀ j u, (toksCells l)[j]? = some u → (hideL H w).cell? ⟨b, off + j, none⟩ = some u
 big : l.length ≤ tc ∧ l.length ≤ 1000000
section
variable {l : List Tok} {b off tc P k bad e nest deep : Nat} {H L : List Nat} {w w' : World}
theorem RS.keep (h : RS l b off tc P H k bad e nest deep w) (hk : Keep L w w') (hs : ∀ x, x ∈ L → x ∈ H) (hn : P ∉ L) : RS l b off tc P H k bad e nest deep w' := by
 have hh := (hk.mono hs).hide
 refine ⟨h.mem, Nat.lt_of_lt_of_le h.lt hk.size, fun o => by rw [hk.frozen h.lt hn]; exact h.free o, by rw [hk.cell h.lt hn]; exact h.c0, by rw [hk.cell h.lt hn]; exact h.c1, by rw [hk.cell h.lt hn]; exact h.c2, by rw [hk.cell h.lt hn]; exact h.c3, by rw [hk.cell h.lt hn]; exact h.c4, by rw [hk.cell h.lt hn]; exact h.c5, fun j u hj => ?_, h.big⟩
 have h1 := h.row j u hj
 rw [hh.cell (cell_lt h1)]; exact h1
theorem RS.keep0 (h : RS l b off tc P H k bad e nest deep w) (hk : Keep [] w w') : RS l b off tc P H k bad e nest deep w' := h.keep hk (fun _ hx => by simp at hx) (by simp)
theorem RS.below (h : RS l b off tc P H k bad e nest deep w) (hb : Below w.heap.size w w') : RS l b off tc P H k bad e nest deep w' := h.keep0 (Keep.of_below hb)
theorem RS.drewN (h : RS l b off tc P H k bad e nest deep w) (n : Nat) : RS l b off tc P H k bad e nest deep (w.drewN n) := h.keep0 ((Keep.refl _ _).drewN n)
theorem RS.set {k' bad' e' nest' deep' : Nat} (h : RS l b off tc P H k bad e nest deep w) (hk : Keep [P] w w') (hf : ∀ o, w'.frozen? ⟨P, o, none⟩ = false) (h0 : w'.cell? ⟨P, 0, none⟩ = some (.slice (some ⟨b, off, none⟩) l.length tc))
  (h1 : w'.cell? ⟨P, 1, none⟩ = some (.int .i64 k')) (h2 : w'.cell? ⟨P, 2, none⟩ = some (.int .i64 bad')) (h3 : w'.cell? ⟨P, 3, none⟩ = some (.int .i64 e')) (h4 : w'.cell? ⟨P, 4, none⟩ = some (.int .i64 nest')) (h5 : w'.cell? ⟨P, 5, none⟩ = some (.int .i64 deep')) : RS l b off tc P H k' bad' e' nest' deep' w' := by
 have hh := (hk.mono (H' := H) (by intro y hy; simp at hy; subst hy; exact h.mem)).hide
 exact ⟨h.mem, Nat.lt_of_lt_of_le h.lt hk.size, hf, h0, h1, h2, h3, h4, h5, fun j u hj => by have h1 := h.row j u hj; rw [hh.cell (cell_lt h1)]; exact h1, h.big⟩
theorem RS.tok (h : RS l b off tc P H k bad e nest deep w) {j : Nat} (hj : j < l.length) :
  w.cell? ⟨b, off + j * 4, none⟩ = some (.int .i64 (tokAt l j).kind) ∧ w.cell? ⟨b, off + j * 4 + 1, none⟩ = some (.string (tokAt l j).text) ∧ w.cell? ⟨b, off + j * 4 + 2, none⟩ = some (.int .i64 (tokAt l j).num) ∧ w.cell? ⟨b, off + j * 4 + 3, none⟩ = some (.int .i64 (tokAt l j).pos) ∧ b ∉ H ∧ b < w.heap.size := by
 obtain ⟨h1, h2, h3, h4⟩ := tokRow h.row j hj
 rw [tokAt_lt hj]
 obtain ⟨a1, a2⟩ := hideL_cell h1
 exact ⟨a1, (hideL_cell h2).1, (hideL_cell h3).1, (hideL_cell h4).1, a2, cell_lt a1⟩
theorem RS.new (h : RS l b off tc P H k bad e nest deep w) (o : Obj) : RS l b off tc P (w.heap.size :: H) k bad e nest deep (w.alloc o) := by
 have hb := h.below ((Below.refl w.heap.size w).alloc (Nat.le_refl _) o)
 refine ⟨List.mem_cons_of_mem _ h.mem, hb.lt, hb.free, hb.c0, hb.c1, hb.c2, hb.c3, hb.c4, hb.c5, fun j u hj => ?_, h.big⟩
 obtain ⟨h1, h2⟩ := hideL_cell (h.row j u hj)
 have hl : b < w.heap.size := cell_lt h1
 have h2' : b ∉ H := h2
 rw [hideL_cell_ne _ _ _ (by simp only [List.mem_cons, not_or]; exact ⟨by omega, h2'⟩)]
 rw [((Below.refl w.heap.size w).alloc (Nat.le_refl _) o).cell hl]; exact h1
theorem RS.drop {B : Nat} (h : RS l b off tc P (B :: H) k bad e nest deep w) (hm : P ∈ H) : RS l b off tc P H k bad e nest deep w :=
 ⟨hm, h.lt, h.free, h.c0, h.c1, h.c2, h.c3, h.c4, h.c5, fun j u hj => hideL_sub (fun x hx => List.mem_cons_of_mem _ hx) (h.row j u hj), h.big⟩
theorem RS.at_ (h : RS l b off tc P H k bad e nest deep w) (x : Nat) : RS l b off tc P H x bad e nest deep (w.setCell ⟨P, 1, none⟩ (.int .i64 x)) := by
 have hl := h.lt
 have h0 := h.c0
 have h1 := h.c1
 have h2 := h.c2
 have h3 := h.c3
 have h4 := h.c4
 have h5 := h.c5
 have hf := h.free
 exact h.set ((Keep.refl _ _).setCell (.inl (by simp)) _) (fun o => by have := hf o; go_simp) (by go_simp) (by go_simp) (by go_simp) (by go_simp) (by go_simp) (by go_simp)
theorem RS.bad_ (h : RS l b off tc P H k bad e nest deep w) (x : Nat) : RS l b off tc P H k x e nest deep (w.setCell ⟨P, 2, none⟩ (.int .i64 x)) := by
 have hl := h.lt
 have h0 := h.c0
 have h1 := h.c1
 have h2 := h.c2
 have h3 := h.c3
 have h4 := h.c4
 have h5 := h.c5
 have hf := h.free
 exact h.set ((Keep.refl _ _).setCell (.inl (by simp)) _) (fun o => by have := hf o; go_simp) (by go_simp) (by go_simp) (by go_simp) (by go_simp) (by go_simp) (by go_simp)
theorem RS.er_ (h : RS l b off tc P H k bad e nest deep w) (x : Nat) : RS l b off tc P H k bad x nest deep (w.setCell ⟨P, 3, none⟩ (.int .i64 x)) := by
 have hl := h.lt
 have h0 := h.c0
 have h1 := h.c1
 have h2 := h.c2
 have h3 := h.c3
 have h4 := h.c4
 have h5 := h.c5
 have hf := h.free
 exact h.set ((Keep.refl _ _).setCell (.inl (by simp)) _) (fun o => by have := hf o; go_simp) (by go_simp) (by go_simp) (by go_simp) (by go_simp) (by go_simp) (by go_simp)
theorem RS.nest_ (h : RS l b off tc P H k bad e nest deep w) (x : Nat) : RS l b off tc P H k bad e x deep (w.setCell ⟨P, 4, none⟩ (.int .i64 x)) := by
 have hl := h.lt
 have h0 := h.c0
 have h1 := h.c1
 have h2 := h.c2
 have h3 := h.c3
 have h4 := h.c4
 have h5 := h.c5
 have hf := h.free
 exact h.set ((Keep.refl _ _).setCell (.inl (by simp)) _) (fun o => by have := hf o; go_simp) (by go_simp) (by go_simp) (by go_simp) (by go_simp) (by go_simp) (by go_simp)
theorem rs_fin {wk : World} (hs : RS l b off tc P (w.heap.size :: H) k bad e nest deep wk) (hP : P ∈ H) (hPl : P < w.heap.size) (hk : Keep [P] w wk) (hw : Keep [w.heap.size] wk w') : RS l b off tc P H k bad e nest deep w' ∧ Keep [P] w w' := by
 refine ⟨(hs.keep hw (by intro y hy; simp at hy; subst hy; simp) (by simp; omega)).drop hP, ?_⟩
 refine ⟨hw.os.trans hk.os, hw.tape.trans hk.tape, hw.output.trans hk.output, Nat.le_trans hk.size hw.size, fun k hkl hn => ?_⟩
 rw [hw.block k (Nat.lt_of_lt_of_le hkl hk.size) (by simp; omega)]; exact hk.block k hkl hn
end
def isB (l : List Tok) (k e : Nat) (s : List UInt8) : Bool := decide (e = 0) && (decide ((tokAt l k).kind = 4) || decide ((tokAt l k).kind = 3)) && decide ((tokAt l k).text = bytes s)
def errBad (c : Bool) (e k bad : Nat) : Nat := if e = 0 ∧ c = true then k else bad
def errNo (c : Bool) (e er : Nat) : Nat := if e = 0 ∧ c = true then er else e
theorem errBad_false (e k bad : Nat) : errBad false e k bad = bad := by simp [errBad]
theorem errNo_false (e er : Nat) : errNo false e er = e := by simp [errNo]
def isK (l : List Tok) (k e kk : Nat) : Bool := decide (e = 0) && decide ((tokAt l k).kind = kk)
set_option maxRecDepth 100000 in
set_option maxHeartbeats 3200000 in
theorem is_rs (s : List UInt8) (l : List Tok) (b off tc P k bad e nest deep : Nat) (H : List Nat) (w : World) (h : RS l b off tc P H k bad e nest deep w) (hk : k < l.length) :
  Calls Tryd.prog 60 #[.pointer (some ⟨P, 0, none⟩), .string (bytes s)] w fun en w' => en = .returned (.bool (isB l k e s)) ∧ RS l b off tc P H k bad e nest deep w' ∧ Keep [] w w' := by
 obtain ⟨q1, q2, q3, q4, hbH, hbl⟩ := h.tok hk
 have h0 := h.c0
 have h1 := h.c1
 have h3 := h.c3
 have hbig := h.big
 have hlen : (k : Int) < l.length := by omega
 obtain ⟨n, hn⟩ : ∃ n, n = l.length := ⟨_, rfl⟩
 have HNL := Lib.hid hn
 rw [← hn] at h0 hlen hbig
 obtain ⟨t, ht⟩ : ∃ t, t = tokAt l k := ⟨_, rfl⟩
 rw [← ht] at q1 q2 q3 q4
 have HS := Lib.hid h
 unfold isB
 rw [← ht]
 clear h ht hbH hn
 go_enter Tryd.func60, Tryd.ntmps60
 go_wp2_with fail
 refine wp_region_held_drew (S := fun w' => w'.cell? ⟨P, 0, none⟩ = some (.slice (some ⟨b, off, none⟩) n tc) ∧ w'.cell? ⟨P, 1, none⟩ = some (.int .i64 k) ∧ w'.cell? ⟨b, off + k * 4, none⟩ = some (.int .i64 t.kind) ∧ w'.cell? ⟨b, off + k * 4 + 1, none⟩ = some (.string t.text) ∧ w'.cell? ⟨b, off + k * 4 + 2, none⟩ = some (.int .i64 t.num) ∧ w'.cell? ⟨b, off + k * 4 + 3, none⟩ = some (.int .i64 t.pos)) (by kernel_rfl) ⟨h0, h1, q1, q2, q3, q4⟩ (fun hHeld => ?_)
 have HS2 := Lib.hid (HS.out.keep0 (Keep.refl _ _).drew)
 have HK2 := Lib.hid (Keep.refl [] w).drew
 have h3' : w.drew.cell? ⟨P, 3, none⟩ = some (.int .i64 e) := HS2.out.c3
 clear q1 q2 q3 q4 h0 h1 h3 hbl
 generalize w.drew = w2 at hHeld HS2 HK2 h3' ⊢
 refine held_take 0 (v := ?vv1) (by kernel_rfl) rfl (by rfl) (by kernel_rfl) (by kernel_rfl) (fun _ _ _ h => h) ?hyy1 (by assumption) ?rest1
 case hyy1 => (intro w hSw; (try dsimp only at hSw); go_simp; (try with_reducible rfl))
 (try go_frame)
 refine held_take 1 (v := ?vv2) (by kernel_rfl) rfl (by rfl) (by kernel_rfl) (by kernel_rfl) (fun _ _ _ h => h) ?hyy2 (by assumption) ?rest2
 case hyy2 => (intro w hSw; (try dsimp only at hSw); go_simp; (try with_reducible rfl))
 (try go_frame)
 refine held_take 2 (v := ?vv3) (by kernel_rfl) rfl (by rfl) (by kernel_rfl) (by kernel_rfl) (fun _ _ _ h => h) ?hyy3 (by assumption) ?rest3
 case hyy3 => (intro w hSw; (try dsimp only at hSw); go_simp; (try with_reducible rfl))
 (try go_frame)
 refine held_take 3 (v := ?vv4) (by kernel_rfl) rfl (by rfl) (by kernel_rfl) (by kernel_rfl) (fun _ _ _ h => h) ?hyy4 (by assumption) ?rest4
 case hyy4 => (intro w hSw; (try dsimp only at hSw); go_simp; (try with_reducible rfl))
 (try go_frame)
 refine held_take 4 (v := ?vv5) (by kernel_rfl) rfl (by rfl) (by kernel_rfl) (by kernel_rfl) (fun _ _ _ h => h) ?hyy5 (by assumption) ?rest5
 case hyy5 => (intro w hSw; (try dsimp only at hSw); go_simp; (try with_reducible rfl))
 (try go_frame)
 refine held_take 5 (v := ?vv6) (by kernel_rfl) rfl (by rfl) (by kernel_rfl) (by kernel_rfl) (fun _ _ _ h => h) ?hyy6 (by assumption) ?rest6
 case hyy6 => (intro w hSw; (try dsimp only at hSw); go_simp; (try with_reducible rfl))
 (try go_frame)
 refine held_take 6 (v := ?vv7) (by kernel_rfl) rfl (by rfl) (by kernel_rfl) (by kernel_rfl) (fun _ _ _ h => h) ?hyy7 (by assumption) ?rest7
 case hyy7 => (intro w hSw; (try dsimp only at hSw); go_simp; (try with_reducible rfl))
 (try go_frame)
 refine held_take 7 (v := ?vv8) (by kernel_rfl) rfl (by rfl) (by kernel_rfl) (by kernel_rfl) (fun _ _ _ h => h) ?hyy8 (by assumption) ?rest8
 case hyy8 => (intro w hSw; (try dsimp only at hSw); go_simp; (try with_reducible rfl))
 (try go_frame)
 refine held_take 8 (v := ?vv9) (by kernel_rfl) rfl (by rfl) (by kernel_rfl) (by kernel_rfl) (fun _ _ _ h => h) ?hyy9 (by assumption) ?rest9
 case hyy9 => (intro w hSw; (try dsimp only at hSw); go_simp; (try with_reducible rfl))
 (try go_frame)
 refine held_take 9 (v := ?vv10) (by kernel_rfl) rfl (by rfl) (by kernel_rfl) (by kernel_rfl) (fun _ _ _ h => h) ?hyy10 (by assumption) ?rest10
 case hyy10 => (intro w hSw; (try dsimp only at hSw); go_simp; (try with_reducible rfl))
 (try go_frame)
 have hH0 := hHeld
 refine held_one 10 (by kernel_rfl) rfl (by rfl) (fun K' hK => ?_)
 go_simp
 (try dsimp only)
 refine hK.out _ _ (cells6p hHeld _) (fun hHeld' => ?_)
 clear hK K' hHeld
 have hHeld := hHeld'
 clear hHeld'
 (try go_frame)
 refine held_one 11 (by kernel_rfl) rfl (by rfl) (fun K' hK => ?_)
 go_simp
 (try dsimp only)
 refine hK.out _ _ (cells6p hH0 _) (fun hHeld' => ?_)
 clear hK K' hHeld
 have hHeld := hHeld'
 clear hHeld'
 (try go_frame)
 clear hHeld hH0
 refine wpAnyH_done (by kernel_rfl) ?_ _
 have hbx := box4_new w2 (.int .i64 t.kind) (.string t.text) (.int .i64 t.num) (.int .i64 t.pos) 26
 have HS3 := Lib.hid (HS2.out.below ((Below.refl _ _).alloc (Nat.le_refl _) (.cells #[.int .i64 t.kind, .string t.text, .int .i64 t.num, .int .i64 t.pos] 26)))
 have HK3 := Lib.hid (HK2.out.alloc (.cells #[.int .i64 t.kind, .string t.text, .int .i64 t.num, .int .i64 t.pos] 26))
 have h3 := HS3.out.c3
 unfold Box4 at hbx
 obtain ⟨x0, x1, x2, x3, x4, x5, x6, x7⟩ := hbx
 clear HS2 HK2 h3'
 generalize w2.alloc (.cells #[.int .i64 t.kind, .string t.text, .int .i64 t.num, .int .i64 t.pos] 26) = w3 at x0 x1 x2 x3 x4 x5 x6 x7 h3 HS3 HK3 ⊢
 generalize w2.heap.size = T at x0 x1 x2 x3 x4 x5 x6 x7 ⊢
 by_cases he : e = 0
 ·have heb : ((e : Int) == 0) = true := by simp; omega
  have HE := Lib.hid he
  clear he
  by_cases hk4 : t.kind = 4
  ·have hk4b : ((t.kind : Int) == 4) = true := by simp; omega
   have HKD := Lib.hid hk4
   clear hk4
   by_cases htx : t.text = bytes s
   ·have htb := strEq_true htx
    have HTX := Lib.hid htx
    clear htx
    go_wp2_with fail
    go_ret
    exact ⟨by rw [decide_eq_true HTX.out, decide_eq_true HE.out, decide_eq_true HKD.out]; rfl, HS3.out, HK3.out⟩
   ·have htb := strEq_false htx
    have HTX := Lib.hid htx
    clear htx
    go_wp2_with fail
    go_ret
    exact ⟨by rw [decide_eq_false HTX.out]; simp, HS3.out, HK3.out⟩
  ·have hk4b : ((t.kind : Int) == 4) = false := by rw [beq_eq_false_iff_ne]; omega
   have HKN := Lib.hid hk4
   clear hk4
   by_cases hk3 : t.kind = 3
   ·have hk3b : ((t.kind : Int) == 3) = true := by simp; omega
    have HKD := Lib.hid hk3
    clear hk3
    by_cases htx : t.text = bytes s
    ·have htb := strEq_true htx
     have HTX := Lib.hid htx
     clear htx
     go_wp2_with fail
     go_ret
     exact ⟨by rw [decide_eq_true HTX.out, decide_eq_true HE.out, decide_eq_false HKN.out, decide_eq_true HKD.out]; rfl, HS3.out, HK3.out⟩
    ·have htb := strEq_false htx
     have HTX := Lib.hid htx
     clear htx
     go_wp2_with fail
     go_ret
     exact ⟨by rw [decide_eq_false HTX.out]; simp, HS3.out, HK3.out⟩
   ·have hk3b : ((t.kind : Int) == 3) = false := by rw [beq_eq_false_iff_ne]; omega
    have HKD := Lib.hid hk3
    clear hk3
    go_wp2_with fail
    go_ret
    exact ⟨by rw [decide_eq_false HKN.out, decide_eq_false HKD.out]; simp, HS3.out, HK3.out⟩
 ·have heb : ((e : Int) == 0) = false := by rw [beq_eq_false_iff_ne]; omega
  have HE := Lib.hid he
  clear he
  go_wp2_with fail
  go_ret
  exact ⟨by rw [decide_eq_false HE.out]; simp, HS3.out, HK3.out⟩
set_option maxRecDepth 100000 in
set_option maxHeartbeats 3200000 in
theorem kind_rs (kk : Nat) (l : List Tok) (b off tc P k bad e nest deep : Nat) (H : List Nat) (w : World) (h : RS l b off tc P H k bad e nest deep w) (hk : k < l.length) :
  Calls Tryd.prog 59 #[.pointer (some ⟨P, 0, none⟩), .int .i64 kk] w fun en w' => en = .returned (.bool (isK l k e kk)) ∧ RS l b off tc P H k bad e nest deep w' ∧ Keep [] w w' := by
 obtain ⟨q1, q2, q3, q4, hbH, hbl⟩ := h.tok hk
 have h0 := h.c0
 have h1 := h.c1
 have h3 := h.c3
 have hbig := h.big
 have hlen : (k : Int) < l.length := by omega
 obtain ⟨n, hn⟩ : ∃ n, n = l.length := ⟨_, rfl⟩
 have HNL := Lib.hid hn
 rw [← hn] at h0 hlen hbig
 obtain ⟨t, ht⟩ : ∃ t, t = tokAt l k := ⟨_, rfl⟩
 rw [← ht] at q1 q2 q3 q4
 have HS := Lib.hid h
 unfold isK
 rw [← ht]
 clear h ht hbH hn
 go_enter Tryd.func59, Tryd.ntmps59
 go_wp2_with fail
 by_cases he : e = 0
 ·have heb : ((e : Int) == 0) = true := by simp; omega
  have HE := Lib.hid he
  clear he
  by_cases hk4 : t.kind = kk
  ·have hk4b : ((t.kind : Int) == (kk : Int)) = true := by simp; omega
   have HKD := Lib.hid hk4
   clear hk4
   go_quiet (fail)
   go_wp2_with fail
   go_ret
   exact ⟨by rw [decide_eq_true HE.out, decide_eq_true HKD.out]; rfl, HS.out.drewN _, (Keep.refl _ _).drewN _⟩
  ·have hk4b : ((t.kind : Int) == (kk : Int)) = false := by rw [beq_eq_false_iff_ne]; omega
   have HKD := Lib.hid hk4
   clear hk4
   go_quiet (fail)
   go_wp2_with fail
   go_ret
   exact ⟨by rw [decide_eq_true HE.out, decide_eq_false HKD.out]; rfl, HS.out.drewN _, (Keep.refl _ _).drewN _⟩
 ·have heb : ((e : Int) == 0) = false := by rw [beq_eq_false_iff_ne]; omega
  have HE := Lib.hid he
  clear he
  go_quiet (fail)
  go_wp2_with fail
  go_ret
  exact ⟨by rw [decide_eq_false HE.out]; rfl, HS.out.drewN _, (Keep.refl _ _).drewN _⟩
set_option maxRecDepth 100000 in
set_option maxHeartbeats 3200000 in
theorem fail_rs (er : Nat) (l : List Tok) (b off tc P k bad e nest deep : Nat) (H : List Nat) (w : World) (h : RS l b off tc P H k bad e nest deep w) :
  Calls Tryd.prog 61 #[.pointer (some ⟨P, 0, none⟩), .int .i64 er] w fun en w' => en = .returned (.tuple #[]) ∧ RS l b off tc P H k (errBad true e k bad) (errNo true e er) nest deep w' ∧ Keep [P] w w' := by
 have h1 := h.c1
 have h2 := h.c2
 have h3 := h.c3
 have hf2 := h.free 2
 have hf3 := h.free 3
 have hl := h.lt
 have HS := Lib.hid h
 clear h
 by_cases he : e = 0
 ·have heb : ((e : Int) == 0) = true := by simp; omega
  rw [show errBad true e k bad = k by simp [errBad, he], show errNo true e er = er by simp [errNo, he]]
  have HE := Lib.hid he
  clear he
  go_enter Tryd.func61, Tryd.ntmps61
  go_wp2_with fail
  refine bodyPost_end (v := .tuple #[]) (by simp [results, Tryd.results61, go_sem]) rfl ?_
  exact ⟨rfl, (HS.out.er_ er).bad_ k, keepP (keepP (Keep.refl _ _) _ _) _ _⟩
 ·have heb : ((e : Int) == 0) = false := by rw [beq_eq_false_iff_ne]; omega
  rw [show errBad true e k bad = bad by simp [errBad, he], show errNo true e er = e by simp [errNo, he]]
  have HE := Lib.hid he
  clear he
  go_enter Tryd.func61, Tryd.ntmps61
  go_wp2_with fail
  refine bodyPost_end (v := .tuple #[]) (by simp [results, Tryd.results61, go_sem]) rfl ?_
  exact ⟨rfl, HS.out, Keep.refl _ _⟩
set_option maxRecDepth 100000 in
set_option maxHeartbeats 3200000 in
theorem take_rs (s : List UInt8) (l : List Tok) (b off tc P k bad e nest deep : Nat) (H : List Nat) (w : World) (h : RS l b off tc P H k bad e nest deep w) (hk : k < l.length) :
  Calls Tryd.prog 62 #[.pointer (some ⟨P, 0, none⟩), .string (bytes s)] w fun en w' => en = .returned (.bool (isB l k e s)) ∧ RS l b off tc P H (if isB l k e s then k + 1 else k) bad e nest deep w' ∧ Keep [P] w w' := by
 obtain ⟨bb, hb⟩ : ∃ bb, bb = isB l k e s := ⟨_, rfl⟩
 rw [← hb]
 have hbig := h.big.2
 have HS := Lib.hid h
 clear h
 go_enter Tryd.func62, Tryd.ntmps62
 go_wp2_with fail
 refine (is_rs s l b off tc P k bad e nest deep H _ HS.out hk).mono ?_
 intro en w1 hq
 try rw [← hb] at hq
 obtain ⟨rfl, hs1, hk1⟩ := hq
 have HB := Lib.hid hb
 clear hb
 have c1 := hs1.c1
 have f1 := hs1.free 1
 have hl := hs1.lt
 have HS1 := Lib.hid hs1
 have HK1 := Lib.hid (hk1.mono (H' := [P]) (by simp))
 clear hs1 hk1
 have hw1 : IntKind.i64.wrap ((k : Int) + 1) = ((k + 1 : Nat) : Int) := by rw [show (k : Int) + 1 = ((k + 1 : Nat) : Int) by omega]; exact IntWalk.i64_in _ (by omega)
 cases bb with
 | true =>
  go_wp2_with fail
  go_ret
  exact ⟨rfl, by simpa using HS1.out.at_ (k + 1), keepP HK1.out _ _⟩
 | false =>
  go_wp2_with fail
  go_ret
  exact ⟨rfl, by simpa using HS1.out, HK1.out⟩
set_option maxRecDepth 100000 in
set_option maxHeartbeats 3200000 in
theorem must_rs (s : List UInt8) (l : List Tok) (b off tc P k bad e nest deep : Nat) (H : List Nat) (w : World) (h : RS l b off tc P H k bad e nest deep w) (hk : k < l.length) :
  Calls Tryd.prog 87 #[.pointer (some ⟨P, 0, none⟩), .string (bytes s)] w fun en w' => en = .returned (.tuple #[]) ∧ RS l b off tc P H (if isB l k e s then k + 1 else k) (errBad (!isB l k e s) e k bad) (errNo (!isB l k e s) e 4) nest deep w' ∧ Keep [P] w w' := by
 obtain ⟨bb, hb⟩ : ∃ bb, bb = isB l k e s := ⟨_, rfl⟩
 rw [← hb]
 have HS := Lib.hid h
 clear h
 go_enter Tryd.func87, Tryd.ntmps87
 go_wp2_with fail
 refine (take_rs s l b off tc P k bad e nest deep H _ HS.out hk).mono ?_
 intro en w1 hq
 try rw [← hb] at hq
 obtain ⟨rfl, hs1, hk1⟩ := hq
 have HB := Lib.hid hb
 clear hb
 have HS1 := Lib.hid hs1
 have HK1 := Lib.hid hk1
 clear hs1 hk1
 cases bb with
 | true =>
  go_wp2_with fail
  refine bodyPost_end (v := .tuple #[]) (by simp [results, Tryd.results87, go_sem]) rfl ?_
  exact ⟨rfl, by have := HS1.out; simpa [errBad_false, errNo_false] using this, HK1.out⟩
 | false =>
  have hs1 := HS1.out
  have HS2 := Lib.hid hs1
  clear hs1 HS1
  go_wp2_with fail
  refine (fail_rs 4 l b off tc P k bad e nest deep H _ (by simpa using HS2.out)).mono ?_
  intro en w2 hq
  obtain ⟨rfl, hs2, hk2⟩ := hq
  have HS3 := Lib.hid hs2
  have HK2 := Lib.hid (HK1.out.trans hk2)
  clear hs2 hk2
  go_wp2_with fail
  refine bodyPost_end (v := .tuple #[]) (by simp [results, Tryd.results87, go_sem]) rfl ?_
  exact ⟨rfl, by have := HS3.out; simpa using this, HK2.out⟩
set_option maxRecDepth 100000 in
set_option maxHeartbeats 3200000 in
theorem name_rs (l : List Tok) (b off tc P k bad e nest deep : Nat) (H : List Nat) (w : World) (h : RS l b off tc P H k bad e nest deep w) (hk : k < l.length) :
  Calls Tryd.prog 65 #[.pointer (some ⟨P, 0, none⟩)] w fun en w' => en = .returned (.string (if isK l k e 1 then (tokAt l k).text else ⟨#[]⟩)) ∧ RS l b off tc P H (if isK l k e 1 then k + 1 else k) (errBad (!isK l k e 1) e k bad) (errNo (!isK l k e 1) e 4) nest deep w' ∧ Keep [P] w w' := by
 obtain ⟨bb, hb⟩ : ∃ bb, bb = isK l k e 1 := ⟨_, rfl⟩
 rw [← hb]
 have hbig := h.big.2
 have HS := Lib.hid h
 clear h
 go_enter Tryd.func65, Tryd.ntmps65
 go_wp2_with fail
 refine (kind_rs 1 l b off tc P k bad e nest deep H _ HS.out hk).mono ?_
 intro en w1 hq
 try rw [← hb] at hq
 obtain ⟨rfl, hs1, hk1⟩ := hq
 have HB := Lib.hid hb
 clear hb
 cases bb with
 | true =>
  obtain ⟨q1, q2, q3, q4, hbH, hbl⟩ := hs1.tok hk
  have hbP : b ≠ P := fun he => hbH (he ▸ hs1.mem)
  have c0 := hs1.c0
  have c1 := hs1.c1
  have f1 := hs1.free 1
  have hl := hs1.lt
  have HS1 := Lib.hid hs1
  have HK1 := Lib.hid (hk1.mono (H' := [P]) (by simp))
  have hlen : (k : Int) < l.length := by omega
  have hw1 : IntKind.i64.wrap ((k : Int) + 1) = ((k + 1 : Nat) : Int) := by rw [show (k : Int) + 1 = ((k + 1 : Nat) : Int) by omega]; exact IntWalk.i64_in _ (by omega)
  have hw2 : IntKind.i64.wrap ((k : Int) + 1 - 1) = (k : Int) := by rw [show (k : Int) + 1 - 1 = k by omega]; exact IntWalk.i64_in _ (by omega)
  obtain ⟨n, hn⟩ : ∃ n, n = l.length := ⟨_, rfl⟩
  have HNL := Lib.hid hn
  rw [← hn] at c0 hlen hbig
  obtain ⟨tx, htx⟩ : ∃ tx, tx = (tokAt l k).text := ⟨_, rfl⟩
  rw [← htx] at q2
  have HTX := Lib.hid htx
  have g2 : (w1.setCell ⟨P, 1, none⟩ (.int .i64 ((k : Int) + 1))).cell? ⟨b, off + k * 4 + 1, none⟩ = some (.string tx) := by rw [(keepP (Keep.refl [P] w1) 1 _).cell (p := ⟨b, off + k * 4 + 1, none⟩) hbl (by simpa using hbP)]; exact q2
  clear hs1 hk1 hn htx q1 q3 q4 hbH
  go_wp2_with fail
  go_quiet (fail)
  go_wp2_with fail
  go_ret
  exact ⟨by rw [HTX.out]; rfl, by simpa [errBad_false, errNo_false] using (HS1.out.at_ (k + 1)).drewN _, (keepP HK1.out _ _).drewN _⟩
 | false =>
  have HS1 := Lib.hid hs1
  have HK1 := Lib.hid (hk1.mono (H' := [P]) (by simp))
  clear hs1 hk1
  go_wp2_with fail
  refine (fail_rs 4 l b off tc P k bad e nest deep H _ HS1.out).mono ?_
  intro en w2 hq
  obtain ⟨rfl, hs2, hk2⟩ := hq
  have HS3 := Lib.hid hs2
  have HK2 := Lib.hid (HK1.out.trans hk2)
  clear hs2 hk2
  go_wp2_with fail
  go_ret
  exact ⟨rfl, by have := HS3.out; simpa using this, HK2.out⟩
set_option maxRecDepth 100000 in
set_option maxHeartbeats 3200000 in
theorem enter_rs (l : List Tok) (b off tc P k bad e nest deep : Nat) (H : List Nat) (w : World) (h : RS l b off tc P H k bad e nest deep w) (hn : nest ≤ 24) :
  Calls Tryd.prog 90 #[.pointer (some ⟨P, 0, none⟩)] w fun en w' => en = .returned (.tuple #[]) ∧ RS l b off tc P H k (errBad (decide (nest = 24)) e k bad) (errNo (decide (nest = 24)) e 3) (nest + 1) deep w' ∧ Keep [P] w w' := by
 have c4 := h.c4
 have f4 := h.free 4
 have hl := h.lt
 have HS := Lib.hid h
 clear h
 by_cases h24 : nest = 24
 ·subst h24
  go_enter Tryd.func90, Tryd.ntmps90
  go_wp2_with fail
  refine (fail_rs 3 l b off tc P k bad e 24 deep H _ HS.out).mono ?_
  intro en w2 hq
  obtain ⟨rfl, hs2, hk2⟩ := hq
  have c4 := hs2.c4
  have f4 := hs2.free 4
  have hl2 := hs2.lt
  have HS3 := Lib.hid hs2
  have HK2 := Lib.hid hk2
  clear hs2 hk2
  go_wp2_with fail
  refine bodyPost_end (v := .tuple #[]) (by simp [results, Tryd.results90, go_sem]) rfl ?_
  exact ⟨rfl, by simpa using HS3.out.nest_ 25, keepP HK2.out _ _⟩
 ·have hdb : ((nest : Int) == 24) = false := by rw [beq_eq_false_iff_ne]; omega
  rw [show errBad (decide (nest = 24)) e k bad = bad by simp [errBad, h24], show errNo (decide (nest = 24)) e 3 = e by simp [errNo, h24]]
  have hw1 : IntKind.i64.wrap ((nest : Int) + 1) = ((nest + 1 : Nat) : Int) := by rw [show (nest : Int) + 1 = ((nest + 1 : Nat) : Int) by omega]; exact IntWalk.i64_in _ (by omega)
  go_enter Tryd.func90, Tryd.ntmps90
  go_wp2_with fail
  refine bodyPost_end (v := .tuple #[]) (by simp [results, Tryd.results90, go_sem]) rfl ?_
  exact ⟨rfl, HS.out.nest_ (nest + 1), keepP (Keep.refl _ _) _ _⟩
end Go.Proofs.YtiimofjemiffgaaDoor
