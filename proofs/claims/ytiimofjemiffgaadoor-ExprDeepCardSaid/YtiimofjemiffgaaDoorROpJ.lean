import Derived.Test.YtiimofjemiffgaaDoorRsJ
import Derived.Maps.RangeWalk
set_option linter.unusedVariables false
set_option linter.unusedSimpArgs false
namespace Go.Proofs.YtiimofjemiffgaaDoor
open Go.RowKit
def Reg (l : List Tok) : Prop := ∀ k, k < l.length → ((tokAt l k).kind = 3 → reserved (tokAt l k).text = true) ∧ ((tokAt l k).kind = 4 → reserved (tokAt l k).text = false)
theorem isB_sign {l : List Tok} (hr : Reg l) {k : Nat} (hk : k < l.length) {s : List UInt8} (hs : reserved (bytes s) = false) : isB l k 0 s = signAt l k s := by
 unfold isB signAt
 by_cases h3 : (tokAt l k).kind = 3
 ·have h1 := (hr k hk).1 h3
  have h2 : (tokAt l k).text ≠ bytes s := by rintro h; rw [h, hs] at h1; cases h1
  simp [h2]
 ·simp [h3]
def ROk (l : List Tok) (b off tc P : Nat) (H : List Nat) (bad nest deep : Nat) (w : World) : PRes AExpr → Ending → World → Prop
 | .ok x k', e, w' => (∃ (a : Option Addr) (cap : Nat), e = .returned (.agg #[.int .i64 x.op, .int .i64 x.num, .string x.name, .slice a x.args.length cap]) ∧ ExprRep (hideL H w') x [.int .i64 x.op, .int .i64 x.num, .string x.name, .slice a x.args.length cap]) ∧ RS l b off tc P H k' bad 0 nest deep w' ∧ Keep [P] w w'
 | .err a er, e, w' => (∃ (y0 y1 : Int) (y2 : ByteArray) (y3 : Option Addr) (n c : Nat), e = .returned (.agg #[.int .i64 y0, .int .i64 y1, .string y2, .slice y3 n c])) ∧ (∃ k', k' < l.length ∧ RS l b off tc P H k' a er nest deep w') ∧ Keep [P] w w'
def ROpC (l : List Tok) (b off tc P nest : Nat) (R : Nat → PRes AExpr) : Prop := ∀ (H : List Nat) (k bad deep : Nat) (w : World), RS l b off tc P H k bad 0 nest deep w → k < l.length → (∀ x, x ∈ H → x < w.heap.size) →
 Calls Tryd.prog 69 #[.pointer (some ⟨P, 0, none⟩)] w (ROk l b off tc P H bad nest deep w (R k))
def RBinC (l : List Tok) (b off tc P nest : Nat) (lev : Int) (R : Nat → PRes AExpr) : Prop := ∀ (H : List Nat) (k bad deep : Nat) (w : World), RS l b off tc P H k bad 0 nest deep w → k < l.length → (∀ x, x ∈ H → x < w.heap.size) →
 Calls Tryd.prog 47 #[.pointer (some ⟨P, 0, none⟩), .int .i64 lev] w (ROk l b off tc P H bad nest deep w (R k))
section
variable {l : List Tok} {b off tc P k k' bad nest deep er a0 : Nat} {H : List Nat} {w wk w' : World} {e : Ending}
theorem rok_ok {x : AExpr} {a : Option Addr} {cap : Nat} (hs : RS l b off tc P (w.heap.size :: H) k bad 0 nest deep wk) (hP : P ∈ H) (hPl : P < w.heap.size) (hk : Keep [P] w wk)
  (hr : ExprRep (hideL (w.heap.size :: H) wk) x [.int .i64 x.op, .int .i64 x.num, .string x.name, .slice a x.args.length cap]) (he : e = .returned (.agg #[.int .i64 x.op, .int .i64 x.num, .string x.name, .slice a x.args.length cap])) (hw : Keep [w.heap.size] wk w') : ROk l b off tc P H bad nest deep w (.ok x k) e w' := by
 have hf := rs_fin hs hP hPl hk hw
 have hw2 : Keep (w.heap.size :: H) wk w' := hw.mono (by intro y hy; simp at hy; subst hy; simp)
 exact ⟨⟨a, cap, he, ExprRep.mono (fun _ _ h => hideL_sub (fun x hx => List.mem_cons_of_mem _ hx) h) _ (ExprRep.below hw2.hide _ hr)⟩, hf.1, hf.2⟩
theorem rok_err {y0 y1 : Int} {y2 : ByteArray} {y3 : Option Addr} {n c : Nat} (hs : RS l b off tc P (w.heap.size :: H) k' a0 er nest deep wk) (hP : P ∈ H) (hPl : P < w.heap.size) (hk : Keep [P] w wk) (h1 : k' < l.length)
  (he : e = .returned (.agg #[.int .i64 y0, .int .i64 y1, .string y2, .slice y3 n c])) (hw : Keep [w.heap.size] wk w') : ROk l b off tc P H bad nest deep w (.err a0 er) e w' :=
 have hf := rs_fin hs hP hPl hk hw
 ⟨⟨_, _, _, _, _, _, he⟩, ⟨k', h1, hf.1⟩, hf.2⟩
end
theorem box4_s0 {B : Nat} {a : World} {v0 v1 v2 v3 : Value} (h : Box4 a B v0 v1 v2 v3) (u : Value) : Box4 (a.setCell ⟨B, 0, none⟩ u) B u v1 v2 v3 := by
 unfold Box4 at h ⊢
 exact ⟨by go_simp, by go_simp, by go_simp, by go_simp, by go_simp, by go_simp, by go_simp, by go_simp⟩
theorem box4_s3 {B : Nat} {a : World} {v0 v1 v2 v3 : Value} (h : Box4 a B v0 v1 v2 v3) (u : Value) : Box4 (a.setCell ⟨B, 3, none⟩ u) B v0 v1 v2 u := by
 unfold Box4 at h ⊢
 exact ⟨by go_simp, by go_simp, by go_simp, by go_simp, by go_simp, by go_simp, by go_simp, by go_simp⟩
theorem keepX {P X : Nat} {a w : World} (h : Keep [P] a w) (hX : a.heap.size ≤ X) (o : Nat) (u : Value) : Keep [P] a (w.setCell ⟨X, o, none⟩ u) := h.setCell (.inr hX) _
theorem RS.far {l : List Tok} {b off tc P k bad e nest deep X : Nat} {H : List Nat} {w w' : World} (h : RS l b off tc P H k bad e nest deep w) (hX : X ∈ H) (hn : X ≠ P) (hk : Keep [X] w w') : RS l b off tc P H k bad e nest deep w' :=
 h.keep hk (by intro y hy; simp at hy; subst hy; exact hX) (by simpa using hn.symm)
theorem keep1 (X : Nat) (w : World) (o : Nat) (u : Value) : Keep [X] w (w.setCell ⟨X, o, none⟩ u) := (Keep.refl _ _).setCell (.inl (by simp)) _
theorem cells6r {w w' : World} {L : List Nat} {p0 p1 p2 p3 p4 p5 : Addr} {u0 u1 u2 u3 u4 u5 : Value} (h : w.cell? p0 = some u0 ∧ w.cell? p1 = some u1 ∧ w.cell? p2 = some u2 ∧ w.cell? p3 = some u3 ∧ w.cell? p4 = some u4 ∧ w.cell? p5 = some u5) (hk : Keep L w w') (hP : p0.block ∉ L) (hX : p2.block ∉ L) (e1 : p1.block = p0.block := by rfl) (e3 : p3.block = p2.block := by rfl) (e4 : p4.block = p2.block := by rfl) (e5 : p5.block = p2.block := by rfl) :
  w'.cell? p0 = some u0 ∧ w'.cell? p1 = some u1 ∧ w'.cell? p2 = some u2 ∧ w'.cell? p3 = some u3 ∧ w'.cell? p4 = some u4 ∧ w'.cell? p5 = some u5 := cells6k h hk hP hX e1 e3 e4 e5
set_option maxRecDepth 100000 in
set_option maxHeartbeats 6400000 in
theorem operand_any (S1 R1 : Nat → PRes AExpr) (pre : Int → PRes AExpr) (enc : PRes AExpr) (l : List Tok) (b off tc P nest k bad deep : Nat) (H : List Nat) (w : World) (hreg : Reg l) (hel : EndAt l) (hnest : nest ≤ 24)
  (hpre : ∀ op, pre op = if nest = 24 then .err k 3 else negP op (S1 (k + 1))) (henc : enc = if nest = 24 then .err k 3 else parP l (R1 (k + 1)))
  (hS : nest < 24 → ROpC l b off tc P (nest + 1) S1) (hR : nest < 24 → RBinC l b off tc P (nest + 1) 0 R1) (hSin : ∀ k, k < l.length → (S1 k).In l k) (hRin : ∀ k, k < l.length → (R1 k).In l k)
  (h : RS l b off tc P H k bad 0 nest deep w) (hk : k < l.length) (hH : ∀ x, x ∈ H → x < w.heap.size) :
  Calls Tryd.prog 69 #[.pointer (some ⟨P, 0, none⟩)] w (ROk l b off tc P H bad nest deep w (singR l k pre enc)) := by
 have hl := h.lt
 have hbig := h.big.2
 have HN := Lib.hid (show w.heap.size ≠ P by omega)
 have HS := Lib.hid h
 have HH := Lib.hid hH
 have HSC := Lib.hid hS
 have HRC := Lib.hid hR
 have HSI := Lib.hid hSin
 have HRI := Lib.hid hRin
 have HPRE := Lib.hid hpre
 have HENC := Lib.hid henc
 have HREG := Lib.hid hreg
 have e1 : (w.alloc (.cells #[.int .i64 0, .int .i64 0, .string ⟨#[]⟩, .slice none 0 0] 34)).heap.size = w.heap.size + 1 := by simp
 have HS1 : Hid (RS l b off tc P ((w.heap.size + 1) :: w.heap.size :: H) k bad 0 nest deep ((w.alloc (.cells #[.int .i64 0, .int .i64 0, .string ⟨#[]⟩, .slice none 0 0] 34)).alloc (.cells #[.int .i64 0, .int .i64 0, .string ⟨#[]⟩, .slice none 0 0] 34))) := Lib.hid (by have := (h.new (.cells #[.int .i64 0, .int .i64 0, .string ⟨#[]⟩, .slice none 0 0] 34)).new (.cells #[.int .i64 0, .int .i64 0, .string ⟨#[]⟩, .slice none 0 0] 34); rw [e1] at this; exact this)
 have HK1 := Lib.hid (((Keep.refl [P] w).alloc (.cells #[.int .i64 0, .int .i64 0, .string ⟨#[]⟩, .slice none 0 0] 34)).alloc (.cells #[.int .i64 0, .int .i64 0, .string ⟨#[]⟩, .slice none 0 0] 34))
 have bx1 := Lib.hid ((box4_new w (.int .i64 0) (.int .i64 0) (.string ⟨#[]⟩) (.slice none 0 0) 34).keep ((Keep.refl [] _).alloc (.cells #[.int .i64 0, .int .i64 0, .string ⟨#[]⟩, .slice none 0 0] 34)) (by simp))
 have xx1 : Hid (Box4 ((w.alloc (.cells #[.int .i64 0, .int .i64 0, .string ⟨#[]⟩, .slice none 0 0] 34)).alloc (.cells #[.int .i64 0, .int .i64 0, .string ⟨#[]⟩, .slice none 0 0] 34)) (w.heap.size + 1) (.int .i64 0) (.int .i64 0) (.string ⟨#[]⟩) (.slice none 0 0)) := Lib.hid (by have := box4_new (w.alloc (.cells #[.int .i64 0, .int .i64 0, .string ⟨#[]⟩, .slice none 0 0] 34)) (.int .i64 0) (.int .i64 0) (.string ⟨#[]⟩) (.slice none 0 0) 34; rw [e1] at this; exact this)
 have hz1 : w.heap.size + 1 < ((w.alloc (.cells #[.int .i64 0, .int .i64 0, .string ⟨#[]⟩, .slice none 0 0] 34)).alloc (.cells #[.int .i64 0, .int .i64 0, .string ⟨#[]⟩, .slice none 0 0] 34)).heap.size := by simp
 clear h hH hS hR hSin hRin hpre henc hreg
 go_enter Tryd.func69, Tryd.ntmps69
 go_wp2_with fail
 generalize ((w.alloc (.cells #[.int .i64 0, .int .i64 0, .string ⟨#[]⟩, .slice none 0 0] 34)).alloc (.cells #[.int .i64 0, .int .i64 0, .string ⟨#[]⟩, .slice none 0 0] 34)) = w1 at HS1 HK1 bx1 xx1 hz1 ⊢
 obtain ⟨X, hX⟩ : ∃ X, X = w.heap.size + 1 := ⟨_, rfl⟩
 rw [← hX] at HS1 xx1 hz1 ⊢
 have HNX := Lib.hid (show X ≠ P by omega)
 have HX0 := Lib.hid (show X ≠ w.heap.size by omega)
 have hXle : w.heap.size ≤ X := by omega
 clear hX e1
 obtain ⟨t, ht⟩ : ∃ t, t = tokAt l k := ⟨_, rfl⟩
 have HT := Lib.hid ht
 clear ht
 by_cases hk2 : t.kind = 2
 ·have HK2' := Lib.hid hk2
  clear hk2
  refine (kind_rs 2 l b off tc P k bad 0 nest deep (X :: w.heap.size :: H) _ HS1.out hk).mono ?_
  intro en w2 hq
  rw [show isK l k 0 2 = true by simp [isK, ← HT.out, HK2'.out]] at hq
  obtain ⟨rfl, hs2, hk2⟩ := hq
  have hk2 := hk2.mono (H' := [P]) (by simp)
  have bx2 := Lib.hid (bx1.out.keep hk2 (by simpa using HN.out))
  have xx2 := Lib.hid (xx1.out.keep hk2 (by simpa using HNX.out))
  have HS2 := Lib.hid hs2
  have HK2 := Lib.hid (HK1.out.trans hk2)
  have hz2 := Nat.lt_of_lt_of_le hz1 hk2.size
  clear hs2 hk2
  clear bx1 xx1 HS1 HK1 hz1
  go_wp2_with fail
  obtain ⟨q1, q2, q3, q4, hbH, hbl⟩ := HS2.out.tok hk
  have h0 := HS2.out.c0
  have h1 := HS2.out.c1
  have hlen : (k : Int) < l.length := by omega
  have hbx : b ≠ X := fun he => hbH (by rw [he]; simp)
  obtain ⟨n, hn⟩ : ∃ n, n = l.length := ⟨_, rfl⟩
  have hbig2 := HS2.out.big.1
  rw [← hn] at h0 hlen hbig hbig2
  rw [← HT.out] at q1 q2 q3 q4
  refine wp_region_held_drew (S := fun w' => w'.cell? ⟨P, 0, none⟩ = some (.slice (some ⟨b, off, none⟩) n tc) ∧ w'.cell? ⟨P, 1, none⟩ = some (.int .i64 k) ∧ w'.cell? ⟨b, off + k * 4, none⟩ = some (.int .i64 t.kind) ∧ w'.cell? ⟨b, off + k * 4 + 1, none⟩ = some (.string t.text) ∧ w'.cell? ⟨b, off + k * 4 + 2, none⟩ = some (.int .i64 t.num) ∧ w'.cell? ⟨b, off + k * 4 + 3, none⟩ = some (.int .i64 t.pos)) (by kernel_rfl) ⟨h0, h1, q1, q2, q3, q4⟩ (fun hHeld => ?_)
  have kd : Keep [P] w2 w2.drew := (Keep.refl _ _).drew
  have hs3 := HS2.out.keep0 (Keep.refl [] w2).drew
  have hk3 := kd
  have bx3 := Lib.hid (bx2.out.keep hk3 (by simpa using HN.out))
  have xx3 := Lib.hid (xx2.out.keep hk3 (by simpa using HNX.out))
  have HS3 := Lib.hid hs3
  have HK3 := Lib.hid (HK2.out.trans hk3)
  have hz3 := Nat.lt_of_lt_of_le hz2 hk3.size
  clear hs3 hk3
  clear q1 q2 q3 q4 h0 h1 hbl kd bx2 xx2 HS2 HK2 hz2
  generalize w2.drew = w3 at hHeld HS3 HK3 bx3 xx3 hz3 ⊢
  refine held_take 0 (v := ?vv1) (by kernel_rfl) rfl (by rfl) (by kernel_rfl) (by kernel_rfl) (fun _ _ _ h => h) ?hyy1 (by assumption) ?rest1
  case hyy1 => (intro w hSw; (try dsimp only at hSw); go_simp; (try with_reducible rfl))
  (try go_frame)
  refine held_take 1 (v := ?vv2) (by kernel_rfl) rfl (by rfl) (by kernel_rfl) (by kernel_rfl) (fun _ _ _ h => h) ?hyy2 (by assumption) ?rest2
  case hyy2 => (intro w hSw; (try dsimp only at hSw); go_simp; (try with_reducible rfl))
  (try go_frame)
  refine held_take 2 (v := ?vv3) (by kernel_rfl) rfl (by rfl) (by kernel_rfl) (by kernel_rfl) (fun _ _ _ h => h) ?hyy3 (by assumption) ?rest3
  case hyy3 => (intro w hSw; (try dsimp only at hSw); go_simp; (try with_reducible rfl))
  (try go_frame)
  refine held_take 3 (v := ?vv4) (by kernel_rfl) rfl (by rfl) (by kernel_rfl) (by kernel_rfl) (fun _ _ _ h => h) ?hyy4 (by assumption) ?rest4
  case hyy4 => (intro w hSw; (try dsimp only at hSw); go_simp; (try with_reducible rfl))
  (try go_frame)
  refine held_take 4 (v := ?vv5) (by kernel_rfl) rfl (by rfl) (by kernel_rfl) (by kernel_rfl) (fun _ _ _ h => h) ?hyy5 (by assumption) ?rest5
  case hyy5 => (intro w hSw; (try dsimp only at hSw); go_simp; (try with_reducible rfl))
  (try go_frame)
  refine held_take 5 (v := ?vv6) (by kernel_rfl) rfl (by rfl) (by kernel_rfl) (by kernel_rfl) (fun _ _ _ h => h) ?hyy6 (by assumption) ?rest6
  case hyy6 => (intro w hSw; (try dsimp only at hSw); go_simp; (try with_reducible rfl))
  (try go_frame)
  refine held_take 6 (v := ?vv7) (by kernel_rfl) rfl (by rfl) (by kernel_rfl) (by kernel_rfl) (fun _ _ _ h => h) ?hyy7 (by assumption) ?rest7
  case hyy7 => (intro w hSw; (try dsimp only at hSw); go_simp; (try with_reducible rfl))
  (try go_frame)
  refine held_take 7 (v := ?vv8) (by kernel_rfl) rfl (by rfl) (by kernel_rfl) (by kernel_rfl) (fun _ _ _ h => h) ?hyy8 (by assumption) ?rest8
  case hyy8 => (intro w hSw; (try dsimp only at hSw); go_simp; (try with_reducible rfl))
  (try go_frame)
  refine held_take 8 (v := ?vv9) (by kernel_rfl) rfl (by rfl) (by kernel_rfl) (by kernel_rfl) (fun _ _ _ h => h) ?hyy9 (by assumption) ?rest9
  case hyy9 => (intro w hSw; (try dsimp only at hSw); go_simp; (try with_reducible rfl))
  (try go_frame)
  refine held_take 9 (v := ?vv10) (by kernel_rfl) rfl (by rfl) (by kernel_rfl) (by kernel_rfl) (fun _ _ _ h => h) ?hyy10 (by assumption) ?rest10
  case hyy10 => (intro w hSw; (try dsimp only at hSw); go_simp; (try with_reducible rfl))
  (try go_frame)
  refine held_take 10 (v := ?vv11) (by kernel_rfl) rfl (by rfl) (by kernel_rfl) (by kernel_rfl) (fun _ _ _ h => h) ?hyy11 (by assumption) ?rest11
  case hyy11 => (intro w hSw; (try dsimp only at hSw); go_simp; (try with_reducible rfl))
  (try go_frame)
  refine held_take 11 (v := ?vv12) (by kernel_rfl) rfl (by rfl) (by kernel_rfl) (by kernel_rfl) (fun _ _ _ h => h) ?hyy12 (by assumption) ?rest12
  case hyy12 => (intro w hSw; (try dsimp only at hSw); go_simp; (try with_reducible rfl))
  (try go_frame)
  have xb := xx3.out
  unfold Box4 at xb
  refine held_one 12 (by kernel_rfl) rfl (by rfl) (fun K' hK => ?_)
  go_simp
  (try dsimp only)
  refine hK.out _ _ (cells6r hHeld (keep4 _ _ _ _ _ _) (by simpa using HNX.out.symm) (by simpa using hbx)) (fun hHeld' => ?_)
  clear hK K' hHeld
  have hHeld := hHeld'
  clear hHeld'
  (try go_frame)
  clear hHeld xb
  refine wpAnyH_done (by kernel_rfl) ?_ _
  have kx := keep4 X w3 (.int .i64 1) (.int .i64 t.num) (.string ⟨#[]⟩) (.slice none 0 0)
  have xx4 := Lib.hid (box4_put xx3.out (.int .i64 1) (.int .i64 t.num) (.string ⟨#[]⟩) (.slice none 0 0))
  have bx4 := Lib.hid (bx3.out.keep kx (by simpa using HX0.out.symm))
  have HS4 := Lib.hid (HS3.out.far (by simp) HNX.out kx)
  have HK4 := Lib.hid (keepX (keepX (keepX (keepX HK3.out hXle 0 (.int .i64 1)) hXle 1 (.int .i64 t.num)) hXle 2 (.string ⟨#[]⟩)) hXle 3 (.slice none 0 0))
  have hz4 : X < ((((w3.setCell ⟨X, 0, none⟩ (.int .i64 1)).setCell ⟨X, 1, none⟩ (.int .i64 t.num)).setCell ⟨X, 2, none⟩ (.string ⟨#[]⟩)).setCell ⟨X, 3, none⟩ (.slice none 0 0)).heap.size := Nat.lt_of_lt_of_le hz3 kx.size
  clear kx bx3 xx3 HS3 HK3 hz3
  generalize ((((w3.setCell ⟨X, 0, none⟩ (.int .i64 1)).setCell ⟨X, 1, none⟩ (.int .i64 t.num)).setCell ⟨X, 2, none⟩ (.string ⟨#[]⟩)).setCell ⟨X, 3, none⟩ (.slice none 0 0)) = w4 at HS4 HK4 bx4 xx4 hz4 ⊢
  have bb := bx4.out
  have xb := xx4.out
  unfold Box4 at bb xb
  have c1 := HS4.out.c1
  have c3 := HS4.out.c3
  have c4 := HS4.out.c4
  have f1 := HS4.out.free 1
  have f4 := HS4.out.free 4
  have hlt := HS4.out.lt
  have hw1 : IntKind.i64.wrap ((k : Int) + 1) = ((k + 1 : Nat) : Int) := by rw [show (k : Int) + 1 = ((k + 1 : Nat) : Int) by omega]; exact IntWalk.i64_in _ (by omega)
  have bz := bx4.out.keep (keepP (Keep.refl [P] w4) 1 (.int .i64 ((k : Int) + 1))) (by simpa using HN.out)
  have xz := xx4.out.keep (keepP (Keep.refl [P] w4) 1 (.int .i64 ((k : Int) + 1))) (by simpa using HNX.out)
  unfold Box4 at bz xz
  go_wp2_with fail
  refine bodyPost_ret (v := .agg #[.int .i64 1, .int .i64 t.num, .string ⟨#[]⟩, .slice none 0 0]) (by simp [results, Tryd.results69, go_sem, bz]) rfl ?_
  rw [show singR l k pre enc = .ok (.mk 1 t.num emptyB []) (k + 1) by unfold singR; rw [← HT.out, if_pos HK2'.out]]
  exact rok_ok (x := .mk 1 t.num emptyB []) (a := none) (cap := 0) (wk := w4.setCell ⟨P, 1, none⟩ (.int .i64 ((k : Int) + 1))) ((HS4.out.at_ (k + 1)).drop (List.mem_cons_of_mem _ HS.out.mem)) HS.out.mem hl (keepP HK4.out _ _) (exprRep_leaf _ _ _ _) rfl (by exact keep4 _ _ _ _ _ _)
 ·have HK2' := Lib.hid hk2
  clear hk2
  refine (kind_rs 2 l b off tc P k bad 0 nest deep (X :: w.heap.size :: H) _ HS1.out hk).mono ?_
  intro en w2 hq
  rw [show isK l k 0 2 = false by simp [isK, ← HT.out, HK2'.out]] at hq
  obtain ⟨rfl, hs2, hk2⟩ := hq
  have hk2 := hk2.mono (H' := [P]) (by simp)
  have bx2 := Lib.hid (bx1.out.keep hk2 (by simpa using HN.out))
  have xx2 := Lib.hid (xx1.out.keep hk2 (by simpa using HNX.out))
  have HS2 := Lib.hid hs2
  have HK2 := Lib.hid (HK1.out.trans hk2)
  have hz2 := Nat.lt_of_lt_of_le hz1 hk2.size
  clear hs2 hk2
  clear bx1 xx1 HS1 HK1 hz1
  go_wp2_with fail
  by_cases hk1 : t.kind = 1
  ·have HK1' := Lib.hid hk1
   clear hk1
   refine (kind_rs 1 l b off tc P k bad 0 nest deep (X :: w.heap.size :: H) _ HS2.out hk).mono ?_
   intro en w3 hq
   rw [show isK l k 0 1 = true by simp [isK, ← HT.out, HK1'.out]] at hq
   obtain ⟨rfl, hs3, hk3⟩ := hq
   have hk3 := hk3.mono (H' := [P]) (by simp)
   have bx3 := Lib.hid (bx2.out.keep hk3 (by simpa using HN.out))
   have xx3 := Lib.hid (xx2.out.keep hk3 (by simpa using HNX.out))
   have HS3 := Lib.hid hs3
   have HK3 := Lib.hid (HK2.out.trans hk3)
   have hz3 := Nat.lt_of_lt_of_le hz2 hk3.size
   clear hs3 hk3
   clear bx2 xx2 HS2 HK2 hz2
   go_wp2_with fail
   refine (name_rs l b off tc P k bad 0 nest deep (X :: w.heap.size :: H) _ HS3.out hk).mono ?_
   intro en w4 hq
   rw [show isK l k 0 1 = true by simp [isK, ← HT.out, HK1'.out]] at hq
   simp only [if_true, Bool.not_true, errBad_false, errNo_false] at hq
   rw [← HT.out] at hq
   obtain ⟨rfl, hs4, hk4⟩ := hq
   have bx4 := Lib.hid (bx3.out.keep hk4 (by simpa using HN.out))
   have xx4 := Lib.hid (xx3.out.keep hk4 (by simpa using HNX.out))
   have HS4 := Lib.hid hs4
   have HK4 := Lib.hid (HK3.out.trans hk4)
   have hz4 := Nat.lt_of_lt_of_le hz3 hk4.size
   clear hs4 hk4
   clear bx3 xx3 HS3 HK3 hz3
   have kx := keep4 X w4 (.int .i64 2) (.int .i64 0) (.string t.text) (.slice none 0 0)
   have xz := box4_put xx4.out (.int .i64 2) (.int .i64 0) (.string t.text) (.slice none 0 0)
   have bz := bx4.out.keep kx (by simpa using HX0.out.symm)
   unfold Box4 at bz xz
   have xb := xx4.out
   unfold Box4 at xb
   go_wp2_with fail
   refine bodyPost_ret (v := .agg #[.int .i64 2, .int .i64 0, .string t.text, .slice none 0 0]) (by simp [results, Tryd.results69, go_sem, bz]) rfl ?_
   rw [show singR l k pre enc = .ok (.mk 2 0 t.text []) (k + 1) by unfold singR; rw [← HT.out, if_neg HK2'.out, if_pos HK1'.out]]
   exact rok_ok (x := .mk 2 0 t.text []) (a := none) (cap := 0) (wk := ((((w4.setCell ⟨X, 0, none⟩ (.int .i64 2)).setCell ⟨X, 1, none⟩ (.int .i64 0)).setCell ⟨X, 2, none⟩ (.string t.text)).setCell ⟨X, 3, none⟩ (.slice none 0 0))) ((HS4.out.far (by simp) HNX.out kx).drop (List.mem_cons_of_mem _ HS.out.mem)) HS.out.mem hl (keepX (keepX (keepX (keepX HK4.out hXle _ _) hXle _ _) hXle _ _) hXle _ _) (exprRep_leaf _ _ _ _) rfl (by exact keep4 _ _ _ _ _ _)
  ·have HK1' := Lib.hid hk1
   clear hk1
   refine (kind_rs 1 l b off tc P k bad 0 nest deep (X :: w.heap.size :: H) _ HS2.out hk).mono ?_
   intro en w3 hq
   rw [show isK l k 0 1 = false by simp [isK, ← HT.out, HK1'.out]] at hq
   obtain ⟨rfl, hs3, hk3⟩ := hq
   have hk3 := hk3.mono (H' := [P]) (by simp)
   have bx3 := Lib.hid (bx2.out.keep hk3 (by simpa using HN.out))
   have xx3 := Lib.hid (xx2.out.keep hk3 (by simpa using HNX.out))
   have HS3 := Lib.hid hs3
   have HK3 := Lib.hid (HK2.out.trans hk3)
   have hz3 := Nat.lt_of_lt_of_le hz2 hk3.size
   clear hs3 hk3
   clear bx2 xx2 HS2 HK2 hz2
   go_wp2_with fail
   cases hs1 : signAt l k [45] with
   | true =>
    have HA := Lib.hid hs1
    clear hs1
    refine (is_rs [45] l b off tc P k bad 0 nest deep (X :: w.heap.size :: H) _ HS3.out hk).mono ?_
    intro en w4 hq
    rw [show isB l k 0 [45] = true from (isB_sign HREG.out hk (by decide)).trans HA.out] at hq
    obtain ⟨rfl, hs4, hk4⟩ := hq
    have hk4 := hk4.mono (H' := [P]) (by simp)
    have bx4 := Lib.hid (bx3.out.keep hk4 (by simpa using HN.out))
    have xx4 := Lib.hid (xx3.out.keep hk4 (by simpa using HNX.out))
    have HS4 := Lib.hid hs4
    have HK4 := Lib.hid (HK3.out.trans hk4)
    have hz4 := Nat.lt_of_lt_of_le hz3 hk4.size
    clear hs4 hk4
    clear bx3 xx3 HS3 HK3 hz3
    have ht4 : t.kind = 4 := by rw [HT.out]; exact (signAt_kind HA.out).1
    have bb := bx4.out
    have xb := xx4.out
    unfold Box4 at bb xb
    have c1 := HS4.out.c1
    have c3 := HS4.out.c3
    have c4 := HS4.out.c4
    have f1 := HS4.out.free 1
    have f4 := HS4.out.free 4
    have hlt := HS4.out.lt
    go_wp2_with fail
    clear bb xb c1 c3 c4 f1 f4 hlt
    have kx := keep1 X w4 0 (.int .i64 4)
    have xx5 := Lib.hid (box4_s0 xx4.out (.int .i64 4))
    have bx5 := Lib.hid (bx4.out.keep kx (by simpa using HX0.out.symm))
    have HS5 := Lib.hid (HS4.out.far (by simp) HNX.out kx)
    have HK5 := Lib.hid (keepX HK4.out hXle 0 (.int .i64 4))
    have hz5 : X < (w4.setCell ⟨X, 0, none⟩ (.int .i64 4)).heap.size := Nat.lt_of_lt_of_le hz4 kx.size
    clear kx bx4 xx4 HS4 HK4 hz4
    generalize (w4.setCell ⟨X, 0, none⟩ (.int .i64 4)) = w5 at xx5 bx5 HS5 HK5 hz5 ⊢
    refine (is_rs [45] l b off tc P k bad 0 nest deep (X :: w.heap.size :: H) _ HS5.out hk).mono ?_
    intro en w6 hq
    rw [show isB l k 0 [45] = true from (isB_sign HREG.out hk (by decide)).trans HA.out] at hq
    obtain ⟨rfl, hs6, hk6⟩ := hq
    have hk6 := hk6.mono (H' := [P]) (by simp)
    have bx6 := Lib.hid (bx5.out.keep hk6 (by simpa using HN.out))
    have xx6 := Lib.hid (xx5.out.keep hk6 (by simpa using HNX.out))
    have HS6 := Lib.hid hs6
    have HK6 := Lib.hid (HK5.out.trans hk6)
    have hz6 := Nat.lt_of_lt_of_le hz5 hk6.size
    clear hs6 hk6
    clear bx5 xx5 HS5 HK5 hz5
    have bb := bx6.out
    have xb := xx6.out
    unfold Box4 at bb xb
    have c1 := HS6.out.c1
    have c3 := HS6.out.c3
    have c4 := HS6.out.c4
    have f1 := HS6.out.free 1
    have f4 := HS6.out.free 4
    have hlt := HS6.out.lt
    go_wp2_with fail
    clear bb xb c1 c3 c4 f1 f4 hlt
    have kx := keep1 X w6 0 (.int .i64 3)
    have xx7 := Lib.hid (box4_s0 xx6.out (.int .i64 3))
    have bx7 := Lib.hid (bx6.out.keep kx (by simpa using HX0.out.symm))
    have HS7 := Lib.hid (HS6.out.far (by simp) HNX.out kx)
    have HK7 := Lib.hid (keepX HK6.out hXle 0 (.int .i64 3))
    have hz7 : X < (w6.setCell ⟨X, 0, none⟩ (.int .i64 3)).heap.size := Nat.lt_of_lt_of_le hz6 kx.size
    clear kx bx6 xx6 HS6 HK6 hz6
    generalize (w6.setCell ⟨X, 0, none⟩ (.int .i64 3)) = w7 at xx7 bx7 HS7 HK7 hz7 ⊢
    have hkk : k + 1 < l.length := hel.more hk (by rw [← HT.out]; omega)
    by_cases h24 : nest = 24
    ·have HN24 := Lib.hid h24
     clear h24
     refine (enter_rs l b off tc P k bad 0 nest deep (X :: w.heap.size :: H) _ HS7.out hnest).mono ?_
     intro en w8 hq
     rw [show errBad (decide (nest = 24)) 0 k bad = k by simp [errBad, HN24.out], show errNo (decide (nest = 24)) 0 3 = 3 by simp [errNo, HN24.out]] at hq
     obtain ⟨rfl, hs8, hk8⟩ := hq
     have bx8 := Lib.hid (bx7.out.keep hk8 (by simpa using HN.out))
     have xx8 := Lib.hid (xx7.out.keep hk8 (by simpa using HNX.out))
     have HS8 := Lib.hid hs8
     have HK8 := Lib.hid (HK7.out.trans hk8)
     have hz8 := Nat.lt_of_lt_of_le hz7 hk8.size
     clear hs8 hk8
     clear bx7 xx7 HS7 HK7 hz7
     have bb := bx8.out
     have xb := xx8.out
     unfold Box4 at bb xb
     have c1 := HS8.out.c1
     have c3 := HS8.out.c3
     have c4 := HS8.out.c4
     have f1 := HS8.out.free 1
     have f4 := HS8.out.free 4
     have hlt := HS8.out.lt
     have hwn : IntKind.i64.wrap (((nest + 1 : Nat) : Int) - 1) = nest := by rw [show (((nest + 1 : Nat) : Int) - 1) = nest by omega]; exact IntWalk.i64_in _ (by omega)
     have bz := bx8.out.keep (keepP (Keep.refl [P] w8) 4 (.int .i64 nest)) (by simpa using HN.out)
     have xz := xx8.out.keep (keepP (Keep.refl [P] w8) 4 (.int .i64 nest)) (by simpa using HNX.out)
     unfold Box4 at bz xz
     go_wp2_with fail
     refine bodyPost_ret (v := .agg #[.int .i64 3, .int .i64 0, .string ⟨#[]⟩, .slice none 0 0]) (by simp [results, Tryd.results69, go_sem, bz]) rfl ?_
     rw [show singR l k pre enc = .err k 3 by unfold singR; rw [← HT.out, if_neg HK2'.out, if_neg HK1'.out, if_pos HA.out, HPRE.out, if_pos HN24.out]]
     exact rok_err (wk := w8.setCell ⟨P, 4, none⟩ (.int .i64 nest)) (k' := k) ((HS8.out.nest_ nest).drop (List.mem_cons_of_mem _ HS.out.mem)) HS.out.mem hl (keepP HK8.out _ _) hk rfl (by exact keep4 _ _ _ _ _ _)
    ·have HN24 := Lib.hid h24
     have hn24 : nest < 24 := by omega
     clear h24
     refine (enter_rs l b off tc P k bad 0 nest deep (X :: w.heap.size :: H) _ HS7.out hnest).mono ?_
     intro en w8 hq
     rw [show errBad (decide (nest = 24)) 0 k bad = bad by simp [errBad, HN24.out], show errNo (decide (nest = 24)) 0 3 = 0 by simp [errNo, HN24.out]] at hq
     obtain ⟨rfl, hs8, hk8⟩ := hq
     have bx8 := Lib.hid (bx7.out.keep hk8 (by simpa using HN.out))
     have xx8 := Lib.hid (xx7.out.keep hk8 (by simpa using HNX.out))
     have HS8 := Lib.hid hs8
     have HK8 := Lib.hid (HK7.out.trans hk8)
     have hz8 := Nat.lt_of_lt_of_le hz7 hk8.size
     clear hs8 hk8
     clear bx7 xx7 HS7 HK7 hz7
     have bb := bx8.out
     have xb := xx8.out
     unfold Box4 at bb xb
     have c1 := HS8.out.c1
     have c3 := HS8.out.c3
     have c4 := HS8.out.c4
     have f1 := HS8.out.free 1
     have f4 := HS8.out.free 4
     have hlt := HS8.out.lt
     have hw1 : IntKind.i64.wrap ((k : Int) + 1) = ((k + 1 : Nat) : Int) := by rw [show (k : Int) + 1 = ((k + 1 : Nat) : Int) by omega]; exact IntWalk.i64_in _ (by omega)
     go_wp2_with fail
     clear bb xb c1 c3 c4 f1 f4 hlt
     have kp := keepP (Keep.refl [P] w8) 1 (.int .i64 ((k : Int) + 1))
     have hs9 : RS l b off tc P (X :: w.heap.size :: H) (k + 1) bad 0 (nest + 1) deep (w8.setCell ⟨P, 1, none⟩ (.int .i64 ((k : Int) + 1))) := HS8.out.at_ (k + 1)
     have hk9 := kp
     have bx9 := Lib.hid (bx8.out.keep hk9 (by simpa using HN.out))
     have xx9 := Lib.hid (xx8.out.keep hk9 (by simpa using HNX.out))
     have HS9 := Lib.hid hs9
     have HK9 := Lib.hid (HK8.out.trans hk9)
     have hz9 := Nat.lt_of_lt_of_le hz8 hk9.size
     clear hs9 hk9
     clear kp bx8 xx8 HS8 HK8 hz8
     generalize (w8.setCell ⟨P, 1, none⟩ (.int .i64 ((k : Int) + 1))) = w9 at bx9 xx9 HS9 HK9 hz9 ⊢
     refine (HSC.out hn24 (X :: w.heap.size :: H) (k + 1) bad deep _ HS9.out hkk (by intro q hq; rcases List.mem_cons.1 hq with rfl | hq; exact hz9; rcases List.mem_cons.1 hq with rfl | hq; omega; have := HH.out q hq; omega)).mono ?_
     intro en w10 hq
     have hans : singR l k pre enc = negP 3 (S1 (k + 1)) := by unfold singR; rw [← HT.out, if_neg HK2'.out, if_neg HK1'.out, if_pos HA.out, HPRE.out, if_neg HN24.out]
     have HANS := Lib.hid hans
     clear hans
     cases hr : S1 (k + 1) with
     | ok x k2 =>
      rw [hr] at hq
      obtain ⟨⟨xa, xc, rfl, xr⟩, hs10, hk10⟩ := hq
      have bx10 := Lib.hid (bx9.out.keep hk10 (by simpa using HN.out))
      have xx10 := Lib.hid (xx9.out.keep hk10 (by simpa using HNX.out))
      have HS10 := Lib.hid hs10
      have HK10 := Lib.hid (HK9.out.trans hk10)
      have hz10 := Nat.lt_of_lt_of_le hz9 hk10.size
      clear hs10 hk10
      clear bx9 xx9 HS9 HK9 hz9
      have HR := Lib.hid hr
      clear hr
      have bb := bx10.out
      have xb := xx10.out
      unfold Box4 at bb xb
      have c1 := HS10.out.c1
      have c3 := HS10.out.c3
      have c4 := HS10.out.c4
      have f1 := HS10.out.free 1
      have f4 := HS10.out.free 4
      have hlt := HS10.out.lt
      have hwn : IntKind.i64.wrap (((nest + 1 : Nat) : Int) - 1) = nest := by rw [show (((nest + 1 : Nat) : Int) - 1) = nest by omega]; exact IntWalk.i64_in _ (by omega)
      have HXR := Lib.hid xr
      clear xr
      have ka := (Keep.refl [] ((w10.setCell ⟨X, 3, none⟩ (.slice (some ⟨w10.heap.size, 0, none⟩) 1 1)).setCell ⟨P, 4, none⟩ (.int .i64 nest))).alloc (.cells #[.int .i64 x.op, .int .i64 x.num, .string x.name, .slice xa x.args.length xc] 34)
      have k3x := keep1 X w10 3 (.slice (some ⟨w10.heap.size, 0, none⟩) 1 1)
      have k4x := keepP (Keep.refl [P] (w10.setCell ⟨X, 3, none⟩ (.slice (some ⟨w10.heap.size, 0, none⟩) 1 1))) 4 (.int .i64 nest)
      have xa1 := xx10.out.keep ((Keep.refl [] w10).alloc (.cells #[.int .i64 x.op, .int .i64 x.num, .string x.name, .slice xa x.args.length xc] 34)) (by simp)
      have bz := ((bx10.out.keep k3x (by simpa using HX0.out.symm)).keep k4x (by simpa using HN.out)).keep ka (by simp)
      have xz := ((box4_s3 xx10.out (.slice (some ⟨w10.heap.size, 0, none⟩) 1 1)).keep k4x (by simpa using HNX.out)).keep ka (by simp)
      have hs9 := Lib.hid (((HS10.out.far (by simp) HNX.out k3x).nest_ nest).keep0 ka)
      have hk9 := Lib.hid ((keepP (keepX HK10.out hXle 3 (.slice (some ⟨w10.heap.size, 0, none⟩) 1 1)) 4 (.int .i64 nest)).alloc (.cells #[.int .i64 x.op, .int .i64 x.num, .string x.name, .slice xa x.args.length xc] 34))
      have ek := Lib.hid ((k3x.mono (H' := (X :: w.heap.size :: H)) (by intro y hy; simp at hy; subst hy; simp)).trans (k4x.mono (H' := (X :: w.heap.size :: H)) (by intro y hy; simp at hy; subst hy; exact List.mem_cons_of_mem _ (List.mem_cons_of_mem _ HS.out.mem))))
      clear ka k3x k4x
      unfold Box4 at xa1 bz xz
      have hnx := HNX.out
      have hnx2 : P ≠ X := fun h => hnx h.symm
      have hszB : ((w10.setCell ⟨X, 3, none⟩ (.slice (some ⟨w10.heap.size, 0, none⟩) 1 1)).setCell ⟨P, 4, none⟩ (.int .i64 nest)).heap.size = w10.heap.size := by simp
      go_wp2_with fail
      refine bodyPost_ret (v := .agg #[.int .i64 3, .int .i64 0, .string ⟨#[]⟩, .slice (some ⟨w10.heap.size, 0, none⟩) 1 1]) (by simp [results, Tryd.results69, go_sem, bz]) rfl ?_
      rw [HANS.out, HR.out]
      have hx := exprRep_row (H := (X :: w.heap.size :: H)) (w := ((w10.setCell ⟨X, 3, none⟩ (.slice (some ⟨w10.heap.size, 0, none⟩) 1 1)).setCell ⟨P, 4, none⟩ (.int .i64 nest))) (by rw [hszB]; exact (by intro q hq; rcases List.mem_cons.1 hq with rfl | hq; exact hz10; rcases List.mem_cons.1 hq with rfl | hq; omega; have := HH.out q hq; omega)) 3 0 emptyB [x] [[.int .i64 x.op, .int .i64 x.num, .string x.name, .slice xa x.args.length xc]] 34 rfl (fun k h h' => by obtain rfl : k = 0 := (by simpa using h); exact ExprRep.below ek.out.hide _ HXR.out) _ rfl
      rw [hszB] at hx
      exact rok_ok (x := .mk 3 0 emptyB [x]) (a := some ⟨w10.heap.size, 0, none⟩) (cap := 1) (wk := (((w10.setCell ⟨X, 3, none⟩ (.slice (some ⟨w10.heap.size, 0, none⟩) 1 1)).setCell ⟨P, 4, none⟩ (.int .i64 nest)).alloc (.cells #[.int .i64 x.op, .int .i64 x.num, .string x.name, .slice xa x.args.length xc] 34))) (hs9.out.drop (List.mem_cons_of_mem _ HS.out.mem)) HS.out.mem hl hk9.out (ExprRep.mono (fun _ _ h => hideL_sub (fun q hq => List.mem_cons_of_mem _ hq) h) _ hx) rfl (by exact keep4 _ _ _ _ _ _)
     | err a er =>
      have hinn := HSI.out (k + 1) hkk
      rw [hr] at hq hinn
      obtain ⟨hin1, hin2, hin3, hin4⟩ := hinn
      obtain ⟨⟨y0, y1, y2, y3, yn, yc, rfl⟩, ⟨k3, hk3, hs10⟩, hk10⟩ := hq
      have bx10 := Lib.hid (bx9.out.keep hk10 (by simpa using HN.out))
      have xx10 := Lib.hid (xx9.out.keep hk10 (by simpa using HNX.out))
      have HS10 := Lib.hid hs10
      have HK10 := Lib.hid (HK9.out.trans hk10)
      have hz10 := Nat.lt_of_lt_of_le hz9 hk10.size
      clear hs10 hk10
      clear bx9 xx9 HS9 HK9 hz9
      have HR := Lib.hid hr
      clear hr
      have bb := bx10.out
      have xb := xx10.out
      unfold Box4 at bb xb
      have c1 := HS10.out.c1
      have c3 := HS10.out.c3
      have c4 := HS10.out.c4
      have f1 := HS10.out.free 1
      have f4 := HS10.out.free 4
      have hlt := HS10.out.lt
      have hwn : IntKind.i64.wrap (((nest + 1 : Nat) : Int) - 1) = nest := by rw [show (((nest + 1 : Nat) : Int) - 1) = nest by omega]; exact IntWalk.i64_in _ (by omega)
      have ka := (Keep.refl [] ((w10.setCell ⟨X, 3, none⟩ (.slice (some ⟨w10.heap.size, 0, none⟩) 1 1)).setCell ⟨P, 4, none⟩ (.int .i64 nest))).alloc (.cells #[.int .i64 y0, .int .i64 y1, .string y2, .slice y3 yn yc] 34)
      have k3x := keep1 X w10 3 (.slice (some ⟨w10.heap.size, 0, none⟩) 1 1)
      have k4x := keepP (Keep.refl [P] (w10.setCell ⟨X, 3, none⟩ (.slice (some ⟨w10.heap.size, 0, none⟩) 1 1))) 4 (.int .i64 nest)
      have xa1 := xx10.out.keep ((Keep.refl [] w10).alloc (.cells #[.int .i64 y0, .int .i64 y1, .string y2, .slice y3 yn yc] 34)) (by simp)
      have bz := ((bx10.out.keep k3x (by simpa using HX0.out.symm)).keep k4x (by simpa using HN.out)).keep ka (by simp)
      have xz := ((box4_s3 xx10.out (.slice (some ⟨w10.heap.size, 0, none⟩) 1 1)).keep k4x (by simpa using HNX.out)).keep ka (by simp)
      have hs9 := Lib.hid (((HS10.out.far (by simp) HNX.out k3x).nest_ nest).keep0 ka)
      have hk9 := Lib.hid ((keepP (keepX HK10.out hXle 3 (.slice (some ⟨w10.heap.size, 0, none⟩) 1 1)) 4 (.int .i64 nest)).alloc (.cells #[.int .i64 y0, .int .i64 y1, .string y2, .slice y3 yn yc] 34))
      have ek := Lib.hid ((k3x.mono (H' := (X :: w.heap.size :: H)) (by intro y hy; simp at hy; subst hy; simp)).trans (k4x.mono (H' := (X :: w.heap.size :: H)) (by intro y hy; simp at hy; subst hy; exact List.mem_cons_of_mem _ (List.mem_cons_of_mem _ HS.out.mem))))
      clear ka k3x k4x
      unfold Box4 at xa1 bz xz
      have hnx := HNX.out
      have hnx2 : P ≠ X := fun h => hnx h.symm
      have hszB : ((w10.setCell ⟨X, 3, none⟩ (.slice (some ⟨w10.heap.size, 0, none⟩) 1 1)).setCell ⟨P, 4, none⟩ (.int .i64 nest)).heap.size = w10.heap.size := by simp
      go_wp2_with fail
      refine bodyPost_ret (v := .agg #[.int .i64 3, .int .i64 0, .string ⟨#[]⟩, .slice (some ⟨w10.heap.size, 0, none⟩) 1 1]) (by simp [results, Tryd.results69, go_sem, bz]) rfl ?_
      rw [HANS.out, HR.out]
      exact rok_err (wk := (((w10.setCell ⟨X, 3, none⟩ (.slice (some ⟨w10.heap.size, 0, none⟩) 1 1)).setCell ⟨P, 4, none⟩ (.int .i64 nest)).alloc (.cells #[.int .i64 y0, .int .i64 y1, .string y2, .slice y3 yn yc] 34))) (hs9.out.drop (List.mem_cons_of_mem _ HS.out.mem)) HS.out.mem hl hk9.out hk3 rfl (by exact keep4 _ _ _ _ _ _)
   | false =>
    have HA := Lib.hid hs1
    clear hs1
    refine (is_rs [45] l b off tc P k bad 0 nest deep (X :: w.heap.size :: H) _ HS3.out hk).mono ?_
    intro en w4 hq
    rw [show isB l k 0 [45] = false from (isB_sign HREG.out hk (by decide)).trans HA.out] at hq
    obtain ⟨rfl, hs4, hk4⟩ := hq
    have hk4 := hk4.mono (H' := [P]) (by simp)
    have bx4 := Lib.hid (bx3.out.keep hk4 (by simpa using HN.out))
    have xx4 := Lib.hid (xx3.out.keep hk4 (by simpa using HNX.out))
    have HS4 := Lib.hid hs4
    have HK4 := Lib.hid (HK3.out.trans hk4)
    have hz4 := Nat.lt_of_lt_of_le hz3 hk4.size
    clear hs4 hk4
    clear bx3 xx3 HS3 HK3 hz3
    go_wp2_with fail
    cases hs2 : signAt l k [33] with
    | true =>
     have HB := Lib.hid hs2
     clear hs2
     refine (is_rs [33] l b off tc P k bad 0 nest deep (X :: w.heap.size :: H) _ HS4.out hk).mono ?_
     intro en w5 hq
     rw [show isB l k 0 [33] = true from (isB_sign HREG.out hk (by decide)).trans HB.out] at hq
     obtain ⟨rfl, hs5, hk5⟩ := hq
     have hk5 := hk5.mono (H' := [P]) (by simp)
     have bx5 := Lib.hid (bx4.out.keep hk5 (by simpa using HN.out))
     have xx5 := Lib.hid (xx4.out.keep hk5 (by simpa using HNX.out))
     have HS5 := Lib.hid hs5
     have HK5 := Lib.hid (HK4.out.trans hk5)
     have hz5 := Nat.lt_of_lt_of_le hz4 hk5.size
     clear hs5 hk5
     clear bx4 xx4 HS4 HK4 hz4
     have ht4 : t.kind = 4 := by rw [HT.out]; exact (signAt_kind HB.out).1
     have bb := bx5.out
     have xb := xx5.out
     unfold Box4 at bb xb
     have c1 := HS5.out.c1
     have c3 := HS5.out.c3
     have c4 := HS5.out.c4
     have f1 := HS5.out.free 1
     have f4 := HS5.out.free 4
     have hlt := HS5.out.lt
     go_wp2_with fail
     clear bb xb c1 c3 c4 f1 f4 hlt
     have kx := keep1 X w5 0 (.int .i64 4)
     have xx6 := Lib.hid (box4_s0 xx5.out (.int .i64 4))
     have bx6 := Lib.hid (bx5.out.keep kx (by simpa using HX0.out.symm))
     have HS6 := Lib.hid (HS5.out.far (by simp) HNX.out kx)
     have HK6 := Lib.hid (keepX HK5.out hXle 0 (.int .i64 4))
     have hz6 : X < (w5.setCell ⟨X, 0, none⟩ (.int .i64 4)).heap.size := Nat.lt_of_lt_of_le hz5 kx.size
     clear kx bx5 xx5 HS5 HK5 hz5
     generalize (w5.setCell ⟨X, 0, none⟩ (.int .i64 4)) = w6 at xx6 bx6 HS6 HK6 hz6 ⊢
     refine (is_rs [45] l b off tc P k bad 0 nest deep (X :: w.heap.size :: H) _ HS6.out hk).mono ?_
     intro en w7 hq
     rw [show isB l k 0 [45] = false from (isB_sign HREG.out hk (by decide)).trans HA.out] at hq
     obtain ⟨rfl, hs7, hk7⟩ := hq
     have hk7 := hk7.mono (H' := [P]) (by simp)
     have bx7 := Lib.hid (bx6.out.keep hk7 (by simpa using HN.out))
     have xx7 := Lib.hid (xx6.out.keep hk7 (by simpa using HNX.out))
     have HS7 := Lib.hid hs7
     have HK7 := Lib.hid (HK6.out.trans hk7)
     have hz7 := Nat.lt_of_lt_of_le hz6 hk7.size
     clear hs7 hk7
     clear bx6 xx6 HS6 HK6 hz6
     go_wp2_with fail
     have hkk : k + 1 < l.length := hel.more hk (by rw [← HT.out]; omega)
     by_cases h24 : nest = 24
     ·have HN24 := Lib.hid h24
      clear h24
      refine (enter_rs l b off tc P k bad 0 nest deep (X :: w.heap.size :: H) _ HS7.out hnest).mono ?_
      intro en w8 hq
      rw [show errBad (decide (nest = 24)) 0 k bad = k by simp [errBad, HN24.out], show errNo (decide (nest = 24)) 0 3 = 3 by simp [errNo, HN24.out]] at hq
      obtain ⟨rfl, hs8, hk8⟩ := hq
      have bx8 := Lib.hid (bx7.out.keep hk8 (by simpa using HN.out))
      have xx8 := Lib.hid (xx7.out.keep hk8 (by simpa using HNX.out))
      have HS8 := Lib.hid hs8
      have HK8 := Lib.hid (HK7.out.trans hk8)
      have hz8 := Nat.lt_of_lt_of_le hz7 hk8.size
      clear hs8 hk8
      clear bx7 xx7 HS7 HK7 hz7
      have bb := bx8.out
      have xb := xx8.out
      unfold Box4 at bb xb
      have c1 := HS8.out.c1
      have c3 := HS8.out.c3
      have c4 := HS8.out.c4
      have f1 := HS8.out.free 1
      have f4 := HS8.out.free 4
      have hlt := HS8.out.lt
      have hwn : IntKind.i64.wrap (((nest + 1 : Nat) : Int) - 1) = nest := by rw [show (((nest + 1 : Nat) : Int) - 1) = nest by omega]; exact IntWalk.i64_in _ (by omega)
      have bz := bx8.out.keep (keepP (Keep.refl [P] w8) 4 (.int .i64 nest)) (by simpa using HN.out)
      have xz := xx8.out.keep (keepP (Keep.refl [P] w8) 4 (.int .i64 nest)) (by simpa using HNX.out)
      unfold Box4 at bz xz
      go_wp2_with fail
      refine bodyPost_ret (v := .agg #[.int .i64 4, .int .i64 0, .string ⟨#[]⟩, .slice none 0 0]) (by simp [results, Tryd.results69, go_sem, bz]) rfl ?_
      rw [show singR l k pre enc = .err k 3 by unfold singR; rw [← HT.out, if_neg HK2'.out, if_neg HK1'.out, if_neg (by rw [HA.out]; simp), if_pos HB.out, HPRE.out, if_pos HN24.out]]
      exact rok_err (wk := w8.setCell ⟨P, 4, none⟩ (.int .i64 nest)) (k' := k) ((HS8.out.nest_ nest).drop (List.mem_cons_of_mem _ HS.out.mem)) HS.out.mem hl (keepP HK8.out _ _) hk rfl (by exact keep4 _ _ _ _ _ _)
     ·have HN24 := Lib.hid h24
      have hn24 : nest < 24 := by omega
      clear h24
      refine (enter_rs l b off tc P k bad 0 nest deep (X :: w.heap.size :: H) _ HS7.out hnest).mono ?_
      intro en w8 hq
      rw [show errBad (decide (nest = 24)) 0 k bad = bad by simp [errBad, HN24.out], show errNo (decide (nest = 24)) 0 3 = 0 by simp [errNo, HN24.out]] at hq
      obtain ⟨rfl, hs8, hk8⟩ := hq
      have bx8 := Lib.hid (bx7.out.keep hk8 (by simpa using HN.out))
      have xx8 := Lib.hid (xx7.out.keep hk8 (by simpa using HNX.out))
      have HS8 := Lib.hid hs8
      have HK8 := Lib.hid (HK7.out.trans hk8)
      have hz8 := Nat.lt_of_lt_of_le hz7 hk8.size
      clear hs8 hk8
      clear bx7 xx7 HS7 HK7 hz7
      have bb := bx8.out
      have xb := xx8.out
      unfold Box4 at bb xb
      have c1 := HS8.out.c1
      have c3 := HS8.out.c3
      have c4 := HS8.out.c4
      have f1 := HS8.out.free 1
      have f4 := HS8.out.free 4
      have hlt := HS8.out.lt
      have hw1 : IntKind.i64.wrap ((k : Int) + 1) = ((k + 1 : Nat) : Int) := by rw [show (k : Int) + 1 = ((k + 1 : Nat) : Int) by omega]; exact IntWalk.i64_in _ (by omega)
      go_wp2_with fail
      clear bb xb c1 c3 c4 f1 f4 hlt
      have kp := keepP (Keep.refl [P] w8) 1 (.int .i64 ((k : Int) + 1))
      have hs9 : RS l b off tc P (X :: w.heap.size :: H) (k + 1) bad 0 (nest + 1) deep (w8.setCell ⟨P, 1, none⟩ (.int .i64 ((k : Int) + 1))) := HS8.out.at_ (k + 1)
      have hk9 := kp
      have bx9 := Lib.hid (bx8.out.keep hk9 (by simpa using HN.out))
      have xx9 := Lib.hid (xx8.out.keep hk9 (by simpa using HNX.out))
      have HS9 := Lib.hid hs9
      have HK9 := Lib.hid (HK8.out.trans hk9)
      have hz9 := Nat.lt_of_lt_of_le hz8 hk9.size
      clear hs9 hk9
      clear kp bx8 xx8 HS8 HK8 hz8
      generalize (w8.setCell ⟨P, 1, none⟩ (.int .i64 ((k : Int) + 1))) = w9 at bx9 xx9 HS9 HK9 hz9 ⊢
      refine (HSC.out hn24 (X :: w.heap.size :: H) (k + 1) bad deep _ HS9.out hkk (by intro q hq; rcases List.mem_cons.1 hq with rfl | hq; exact hz9; rcases List.mem_cons.1 hq with rfl | hq; omega; have := HH.out q hq; omega)).mono ?_
      intro en w10 hq
      have hans : singR l k pre enc = negP 4 (S1 (k + 1)) := by unfold singR; rw [← HT.out, if_neg HK2'.out, if_neg HK1'.out, if_neg (by rw [HA.out]; simp), if_pos HB.out, HPRE.out, if_neg HN24.out]
      have HANS := Lib.hid hans
      clear hans
      cases hr : S1 (k + 1) with
      | ok x k2 =>
       rw [hr] at hq
       obtain ⟨⟨xa, xc, rfl, xr⟩, hs10, hk10⟩ := hq
       have bx10 := Lib.hid (bx9.out.keep hk10 (by simpa using HN.out))
       have xx10 := Lib.hid (xx9.out.keep hk10 (by simpa using HNX.out))
       have HS10 := Lib.hid hs10
       have HK10 := Lib.hid (HK9.out.trans hk10)
       have hz10 := Nat.lt_of_lt_of_le hz9 hk10.size
       clear hs10 hk10
       clear bx9 xx9 HS9 HK9 hz9
       have HR := Lib.hid hr
       clear hr
       have bb := bx10.out
       have xb := xx10.out
       unfold Box4 at bb xb
       have c1 := HS10.out.c1
       have c3 := HS10.out.c3
       have c4 := HS10.out.c4
       have f1 := HS10.out.free 1
       have f4 := HS10.out.free 4
       have hlt := HS10.out.lt
       have hwn : IntKind.i64.wrap (((nest + 1 : Nat) : Int) - 1) = nest := by rw [show (((nest + 1 : Nat) : Int) - 1) = nest by omega]; exact IntWalk.i64_in _ (by omega)
       have HXR := Lib.hid xr
       clear xr
       have ka := (Keep.refl [] ((w10.setCell ⟨X, 3, none⟩ (.slice (some ⟨w10.heap.size, 0, none⟩) 1 1)).setCell ⟨P, 4, none⟩ (.int .i64 nest))).alloc (.cells #[.int .i64 x.op, .int .i64 x.num, .string x.name, .slice xa x.args.length xc] 34)
       have k3x := keep1 X w10 3 (.slice (some ⟨w10.heap.size, 0, none⟩) 1 1)
       have k4x := keepP (Keep.refl [P] (w10.setCell ⟨X, 3, none⟩ (.slice (some ⟨w10.heap.size, 0, none⟩) 1 1))) 4 (.int .i64 nest)
       have xa1 := xx10.out.keep ((Keep.refl [] w10).alloc (.cells #[.int .i64 x.op, .int .i64 x.num, .string x.name, .slice xa x.args.length xc] 34)) (by simp)
       have bz := ((bx10.out.keep k3x (by simpa using HX0.out.symm)).keep k4x (by simpa using HN.out)).keep ka (by simp)
       have xz := ((box4_s3 xx10.out (.slice (some ⟨w10.heap.size, 0, none⟩) 1 1)).keep k4x (by simpa using HNX.out)).keep ka (by simp)
       have hs9 := Lib.hid (((HS10.out.far (by simp) HNX.out k3x).nest_ nest).keep0 ka)
       have hk9 := Lib.hid ((keepP (keepX HK10.out hXle 3 (.slice (some ⟨w10.heap.size, 0, none⟩) 1 1)) 4 (.int .i64 nest)).alloc (.cells #[.int .i64 x.op, .int .i64 x.num, .string x.name, .slice xa x.args.length xc] 34))
       have ek := Lib.hid ((k3x.mono (H' := (X :: w.heap.size :: H)) (by intro y hy; simp at hy; subst hy; simp)).trans (k4x.mono (H' := (X :: w.heap.size :: H)) (by intro y hy; simp at hy; subst hy; exact List.mem_cons_of_mem _ (List.mem_cons_of_mem _ HS.out.mem))))
       clear ka k3x k4x
       unfold Box4 at xa1 bz xz
       have hnx := HNX.out
       have hnx2 : P ≠ X := fun h => hnx h.symm
       have hszB : ((w10.setCell ⟨X, 3, none⟩ (.slice (some ⟨w10.heap.size, 0, none⟩) 1 1)).setCell ⟨P, 4, none⟩ (.int .i64 nest)).heap.size = w10.heap.size := by simp
       go_wp2_with fail
       refine bodyPost_ret (v := .agg #[.int .i64 4, .int .i64 0, .string ⟨#[]⟩, .slice (some ⟨w10.heap.size, 0, none⟩) 1 1]) (by simp [results, Tryd.results69, go_sem, bz]) rfl ?_
       rw [HANS.out, HR.out]
       have hx := exprRep_row (H := (X :: w.heap.size :: H)) (w := ((w10.setCell ⟨X, 3, none⟩ (.slice (some ⟨w10.heap.size, 0, none⟩) 1 1)).setCell ⟨P, 4, none⟩ (.int .i64 nest))) (by rw [hszB]; exact (by intro q hq; rcases List.mem_cons.1 hq with rfl | hq; exact hz10; rcases List.mem_cons.1 hq with rfl | hq; omega; have := HH.out q hq; omega)) 4 0 emptyB [x] [[.int .i64 x.op, .int .i64 x.num, .string x.name, .slice xa x.args.length xc]] 34 rfl (fun k h h' => by obtain rfl : k = 0 := (by simpa using h); exact ExprRep.below ek.out.hide _ HXR.out) _ rfl
       rw [hszB] at hx
       exact rok_ok (x := .mk 4 0 emptyB [x]) (a := some ⟨w10.heap.size, 0, none⟩) (cap := 1) (wk := (((w10.setCell ⟨X, 3, none⟩ (.slice (some ⟨w10.heap.size, 0, none⟩) 1 1)).setCell ⟨P, 4, none⟩ (.int .i64 nest)).alloc (.cells #[.int .i64 x.op, .int .i64 x.num, .string x.name, .slice xa x.args.length xc] 34))) (hs9.out.drop (List.mem_cons_of_mem _ HS.out.mem)) HS.out.mem hl hk9.out (ExprRep.mono (fun _ _ h => hideL_sub (fun q hq => List.mem_cons_of_mem _ hq) h) _ hx) rfl (by exact keep4 _ _ _ _ _ _)
      | err a er =>
       have hinn := HSI.out (k + 1) hkk
       rw [hr] at hq hinn
       obtain ⟨hin1, hin2, hin3, hin4⟩ := hinn
       obtain ⟨⟨y0, y1, y2, y3, yn, yc, rfl⟩, ⟨k3, hk3, hs10⟩, hk10⟩ := hq
       have bx10 := Lib.hid (bx9.out.keep hk10 (by simpa using HN.out))
       have xx10 := Lib.hid (xx9.out.keep hk10 (by simpa using HNX.out))
       have HS10 := Lib.hid hs10
       have HK10 := Lib.hid (HK9.out.trans hk10)
       have hz10 := Nat.lt_of_lt_of_le hz9 hk10.size
       clear hs10 hk10
       clear bx9 xx9 HS9 HK9 hz9
       have HR := Lib.hid hr
       clear hr
       have bb := bx10.out
       have xb := xx10.out
       unfold Box4 at bb xb
       have c1 := HS10.out.c1
       have c3 := HS10.out.c3
       have c4 := HS10.out.c4
       have f1 := HS10.out.free 1
       have f4 := HS10.out.free 4
       have hlt := HS10.out.lt
       have hwn : IntKind.i64.wrap (((nest + 1 : Nat) : Int) - 1) = nest := by rw [show (((nest + 1 : Nat) : Int) - 1) = nest by omega]; exact IntWalk.i64_in _ (by omega)
       have ka := (Keep.refl [] ((w10.setCell ⟨X, 3, none⟩ (.slice (some ⟨w10.heap.size, 0, none⟩) 1 1)).setCell ⟨P, 4, none⟩ (.int .i64 nest))).alloc (.cells #[.int .i64 y0, .int .i64 y1, .string y2, .slice y3 yn yc] 34)
       have k3x := keep1 X w10 3 (.slice (some ⟨w10.heap.size, 0, none⟩) 1 1)
       have k4x := keepP (Keep.refl [P] (w10.setCell ⟨X, 3, none⟩ (.slice (some ⟨w10.heap.size, 0, none⟩) 1 1))) 4 (.int .i64 nest)
       have xa1 := xx10.out.keep ((Keep.refl [] w10).alloc (.cells #[.int .i64 y0, .int .i64 y1, .string y2, .slice y3 yn yc] 34)) (by simp)
       have bz := ((bx10.out.keep k3x (by simpa using HX0.out.symm)).keep k4x (by simpa using HN.out)).keep ka (by simp)
       have xz := ((box4_s3 xx10.out (.slice (some ⟨w10.heap.size, 0, none⟩) 1 1)).keep k4x (by simpa using HNX.out)).keep ka (by simp)
       have hs9 := Lib.hid (((HS10.out.far (by simp) HNX.out k3x).nest_ nest).keep0 ka)
       have hk9 := Lib.hid ((keepP (keepX HK10.out hXle 3 (.slice (some ⟨w10.heap.size, 0, none⟩) 1 1)) 4 (.int .i64 nest)).alloc (.cells #[.int .i64 y0, .int .i64 y1, .string y2, .slice y3 yn yc] 34))
       have ek := Lib.hid ((k3x.mono (H' := (X :: w.heap.size :: H)) (by intro y hy; simp at hy; subst hy; simp)).trans (k4x.mono (H' := (X :: w.heap.size :: H)) (by intro y hy; simp at hy; subst hy; exact List.mem_cons_of_mem _ (List.mem_cons_of_mem _ HS.out.mem))))
       clear ka k3x k4x
       unfold Box4 at xa1 bz xz
       have hnx := HNX.out
       have hnx2 : P ≠ X := fun h => hnx h.symm
       have hszB : ((w10.setCell ⟨X, 3, none⟩ (.slice (some ⟨w10.heap.size, 0, none⟩) 1 1)).setCell ⟨P, 4, none⟩ (.int .i64 nest)).heap.size = w10.heap.size := by simp
       go_wp2_with fail
       refine bodyPost_ret (v := .agg #[.int .i64 4, .int .i64 0, .string ⟨#[]⟩, .slice (some ⟨w10.heap.size, 0, none⟩) 1 1]) (by simp [results, Tryd.results69, go_sem, bz]) rfl ?_
       rw [HANS.out, HR.out]
       exact rok_err (wk := (((w10.setCell ⟨X, 3, none⟩ (.slice (some ⟨w10.heap.size, 0, none⟩) 1 1)).setCell ⟨P, 4, none⟩ (.int .i64 nest)).alloc (.cells #[.int .i64 y0, .int .i64 y1, .string y2, .slice y3 yn yc] 34))) (hs9.out.drop (List.mem_cons_of_mem _ HS.out.mem)) HS.out.mem hl hk9.out hk3 rfl (by exact keep4 _ _ _ _ _ _)
    | false =>
     have HB := Lib.hid hs2
     clear hs2
     refine (is_rs [33] l b off tc P k bad 0 nest deep (X :: w.heap.size :: H) _ HS4.out hk).mono ?_
     intro en w5 hq
     rw [show isB l k 0 [33] = false from (isB_sign HREG.out hk (by decide)).trans HB.out] at hq
     obtain ⟨rfl, hs5, hk5⟩ := hq
     have hk5 := hk5.mono (H' := [P]) (by simp)
     have bx5 := Lib.hid (bx4.out.keep hk5 (by simpa using HN.out))
     have xx5 := Lib.hid (xx4.out.keep hk5 (by simpa using HNX.out))
     have HS5 := Lib.hid hs5
     have HK5 := Lib.hid (HK4.out.trans hk5)
     have hz5 := Nat.lt_of_lt_of_le hz4 hk5.size
     clear hs5 hk5
     clear bx4 xx4 HS4 HK4 hz4
     go_wp2_with fail
     cases hs3 : signAt l k [40] with
     | true =>
      have HC := Lib.hid hs3
      clear hs3
      refine (is_rs [40] l b off tc P k bad 0 nest deep (X :: w.heap.size :: H) _ HS5.out hk).mono ?_
      intro en w6 hq
      rw [show isB l k 0 [40] = true from (isB_sign HREG.out hk (by decide)).trans HC.out] at hq
      obtain ⟨rfl, hs6, hk6⟩ := hq
      have hk6 := hk6.mono (H' := [P]) (by simp)
      have bx6 := Lib.hid (bx5.out.keep hk6 (by simpa using HN.out))
      have xx6 := Lib.hid (xx5.out.keep hk6 (by simpa using HNX.out))
      have HS6 := Lib.hid hs6
      have HK6 := Lib.hid (HK5.out.trans hk6)
      have hz6 := Nat.lt_of_lt_of_le hz5 hk6.size
      clear hs6 hk6
      clear bx5 xx5 HS5 HK5 hz5
      have ht4 : t.kind = 4 := by rw [HT.out]; exact (signAt_kind HC.out).1
      go_wp2_with fail
      have hkk : k + 1 < l.length := hel.more hk (by rw [← HT.out]; omega)
      by_cases h24 : nest = 24
      ·have HN24 := Lib.hid h24
       clear h24
       refine (enter_rs l b off tc P k bad 0 nest deep (X :: w.heap.size :: H) _ HS6.out hnest).mono ?_
       intro en w7 hq
       rw [show errBad (decide (nest = 24)) 0 k bad = k by simp [errBad, HN24.out], show errNo (decide (nest = 24)) 0 3 = 3 by simp [errNo, HN24.out]] at hq
       obtain ⟨rfl, hs7, hk7⟩ := hq
       have bx7 := Lib.hid (bx6.out.keep hk7 (by simpa using HN.out))
       have xx7 := Lib.hid (xx6.out.keep hk7 (by simpa using HNX.out))
       have HS7 := Lib.hid hs7
       have HK7 := Lib.hid (HK6.out.trans hk7)
       have hz7 := Nat.lt_of_lt_of_le hz6 hk7.size
       clear hs7 hk7
       clear bx6 xx6 HS6 HK6 hz6
       have bb := bx7.out
       have xb := xx7.out
       unfold Box4 at bb xb
       have c1 := HS7.out.c1
       have c3 := HS7.out.c3
       have c4 := HS7.out.c4
       have f1 := HS7.out.free 1
       have f4 := HS7.out.free 4
       have hlt := HS7.out.lt
       have hwn : IntKind.i64.wrap (((nest + 1 : Nat) : Int) - 1) = nest := by rw [show (((nest + 1 : Nat) : Int) - 1) = nest by omega]; exact IntWalk.i64_in _ (by omega)
       have bz := bx7.out.keep (keepP (Keep.refl [P] w7) 4 (.int .i64 nest)) (by simpa using HN.out)
       have xz := xx7.out.keep (keepP (Keep.refl [P] w7) 4 (.int .i64 nest)) (by simpa using HNX.out)
       unfold Box4 at bz xz
       go_wp2_with fail
       refine bodyPost_ret (v := .agg #[.int .i64 0, .int .i64 0, .string ⟨#[]⟩, .slice none 0 0]) (by simp [results, Tryd.results69, go_sem, bz]) rfl ?_
       rw [show singR l k pre enc = .err k 3 by unfold singR; rw [← HT.out, if_neg HK2'.out, if_neg HK1'.out, if_neg (by rw [HA.out]; simp), if_neg (by rw [HB.out]; simp), if_pos HC.out, HENC.out, if_pos HN24.out]]
       exact rok_err (wk := w7.setCell ⟨P, 4, none⟩ (.int .i64 nest)) (k' := k) ((HS7.out.nest_ nest).drop (List.mem_cons_of_mem _ HS.out.mem)) HS.out.mem hl (keepP HK7.out _ _) hk rfl (by exact keep4 _ _ _ _ _ _)
      ·have HN24 := Lib.hid h24
       have hn24 : nest < 24 := by omega
       clear h24
       refine (enter_rs l b off tc P k bad 0 nest deep (X :: w.heap.size :: H) _ HS6.out hnest).mono ?_
       intro en w7 hq
       rw [show errBad (decide (nest = 24)) 0 k bad = bad by simp [errBad, HN24.out], show errNo (decide (nest = 24)) 0 3 = 0 by simp [errNo, HN24.out]] at hq
       obtain ⟨rfl, hs7, hk7⟩ := hq
       have bx7 := Lib.hid (bx6.out.keep hk7 (by simpa using HN.out))
       have xx7 := Lib.hid (xx6.out.keep hk7 (by simpa using HNX.out))
       have HS7 := Lib.hid hs7
       have HK7 := Lib.hid (HK6.out.trans hk7)
       have hz7 := Nat.lt_of_lt_of_le hz6 hk7.size
       clear hs7 hk7
       clear bx6 xx6 HS6 HK6 hz6
       have bb := bx7.out
       have xb := xx7.out
       unfold Box4 at bb xb
       have c1 := HS7.out.c1
       have c3 := HS7.out.c3
       have c4 := HS7.out.c4
       have f1 := HS7.out.free 1
       have f4 := HS7.out.free 4
       have hlt := HS7.out.lt
       have hw1 : IntKind.i64.wrap ((k : Int) + 1) = ((k + 1 : Nat) : Int) := by rw [show (k : Int) + 1 = ((k + 1 : Nat) : Int) by omega]; exact IntWalk.i64_in _ (by omega)
       go_wp2_with fail
       clear bb xb c1 c3 c4 f1 f4 hlt
       have kp := keepP (Keep.refl [P] w7) 1 (.int .i64 ((k : Int) + 1))
       have hs8 : RS l b off tc P (X :: w.heap.size :: H) (k + 1) bad 0 (nest + 1) deep (w7.setCell ⟨P, 1, none⟩ (.int .i64 ((k : Int) + 1))) := HS7.out.at_ (k + 1)
       have hk8 := kp
       have bx8 := Lib.hid (bx7.out.keep hk8 (by simpa using HN.out))
       have xx8 := Lib.hid (xx7.out.keep hk8 (by simpa using HNX.out))
       have HS8 := Lib.hid hs8
       have HK8 := Lib.hid (HK7.out.trans hk8)
       have hz8 := Nat.lt_of_lt_of_le hz7 hk8.size
       clear hs8 hk8
       clear kp bx7 xx7 HS7 HK7 hz7
       generalize (w7.setCell ⟨P, 1, none⟩ (.int .i64 ((k : Int) + 1))) = w8 at bx8 xx8 HS8 HK8 hz8 ⊢
       refine (HRC.out hn24 (X :: w.heap.size :: H) (k + 1) bad deep _ HS8.out hkk (by intro q hq; rcases List.mem_cons.1 hq with rfl | hq; exact hz8; rcases List.mem_cons.1 hq with rfl | hq; omega; have := HH.out q hq; omega)).mono ?_
       intro en w9 hq
       have hans : singR l k pre enc = parP l (R1 (k + 1)) := by unfold singR; rw [← HT.out, if_neg HK2'.out, if_neg HK1'.out, if_neg (by rw [HA.out]; simp), if_neg (by rw [HB.out]; simp), if_pos HC.out, HENC.out, if_neg HN24.out]
       have HANS := Lib.hid hans
       clear hans
       have hinn := HRI.out (k + 1) hkk
       cases hr : R1 (k + 1) with
       | ok x k2 =>
        rw [hr] at hq hinn
        obtain ⟨hin1, hin2⟩ := hinn
        obtain ⟨⟨xa, xc, rfl, xr⟩, hs9, hk9⟩ := hq
        have bx9 := Lib.hid (bx8.out.keep hk9 (by simpa using HN.out))
        have xx9 := Lib.hid (xx8.out.keep hk9 (by simpa using HNX.out))
        have HS9 := Lib.hid hs9
        have HK9 := Lib.hid (HK8.out.trans hk9)
        have hz9 := Nat.lt_of_lt_of_le hz8 hk9.size
        clear hs9 hk9
        clear bx8 xx8 HS8 HK8 hz8
        have HR := Lib.hid hr
        clear hr
        have kx := keep4 X w9 (.int .i64 x.op) (.int .i64 x.num) (.string x.name) (.slice xa x.args.length xc)
        have xx10 := Lib.hid (box4_put xx9.out (.int .i64 x.op) (.int .i64 x.num) (.string x.name) (.slice xa x.args.length xc))
        have bx10 := Lib.hid (bx9.out.keep kx (by simpa using HX0.out.symm))
        have HS10 := Lib.hid (HS9.out.far (by simp) HNX.out kx)
        have HK10 := Lib.hid (keepX (keepX (keepX (keepX HK9.out hXle 0 (.int .i64 x.op)) hXle 1 (.int .i64 x.num)) hXle 2 (.string x.name)) hXle 3 (.slice xa x.args.length xc))
        have hz10 : X < ((((w9.setCell ⟨X, 0, none⟩ (.int .i64 x.op)).setCell ⟨X, 1, none⟩ (.int .i64 x.num)).setCell ⟨X, 2, none⟩ (.string x.name)).setCell ⟨X, 3, none⟩ (.slice xa x.args.length xc)).heap.size := Nat.lt_of_lt_of_le hz9 kx.size
        have HXR := Lib.hid (ExprRep.below (kx.mono (H' := (X :: w.heap.size :: H)) (by intro y hy; simp at hy; subst hy; simp)).hide _ xr)
        clear xr
        have xb := xx9.out
        unfold Box4 at xb
        go_wp2_with fail
        clear xb kx bx9 xx9 HS9 HK9 hz9
        generalize ((((w9.setCell ⟨X, 0, none⟩ (.int .i64 x.op)).setCell ⟨X, 1, none⟩ (.int .i64 x.num)).setCell ⟨X, 2, none⟩ (.string x.name)).setCell ⟨X, 3, none⟩ (.slice xa x.args.length xc)) = w10 at bx10 xx10 HS10 HK10 hz10 HXR ⊢
        refine (must_rs [41] l b off tc P k2 bad 0 (nest + 1) deep (X :: w.heap.size :: H) _ HS10.out hin2).mono ?_
        intro en w11 hq
        rw [isB_sign HREG.out hin2 (by decide)] at hq
        cases hsg : signAt l k2 [41] with
        | true =>
         rw [hsg] at hq
         simp only [if_true, Bool.not_true, errBad_false, errNo_false] at hq
         obtain ⟨rfl, hs11, hk11⟩ := hq
         have hkz := hk11
         have bx11 := Lib.hid (bx10.out.keep hk11 (by simpa using HN.out))
         have xx11 := Lib.hid (xx10.out.keep hk11 (by simpa using HNX.out))
         have HS11 := Lib.hid hs11
         have HK11 := Lib.hid (HK10.out.trans hk11)
         have hz11 := Nat.lt_of_lt_of_le hz10 hk11.size
         clear hs11 hk11
         have HXR2 := Lib.hid (ExprRep.below (Keep.hide (show Keep (X :: w.heap.size :: H) w10 w11 from hkz.mono (by intro y hy; simp at hy; subst hy; exact List.mem_cons_of_mem _ (List.mem_cons_of_mem _ HS.out.mem)))) _ HXR.out)
         have HSG := Lib.hid hsg
         clear hsg bx10 xx10 HS10 HK10 hz10
         have bb := bx11.out
         have xb := xx11.out
         unfold Box4 at bb xb
         have c1 := HS11.out.c1
         have c3 := HS11.out.c3
         have c4 := HS11.out.c4
         have f1 := HS11.out.free 1
         have f4 := HS11.out.free 4
         have hlt := HS11.out.lt
         have hwn : IntKind.i64.wrap (((nest + 1 : Nat) : Int) - 1) = nest := by rw [show (((nest + 1 : Nat) : Int) - 1) = nest by omega]; exact IntWalk.i64_in _ (by omega)
         have bz := bx11.out.keep (keepP (Keep.refl [P] w11) 4 (.int .i64 nest)) (by simpa using HN.out)
         have xz := xx11.out.keep (keepP (Keep.refl [P] w11) 4 (.int .i64 nest)) (by simpa using HNX.out)
         unfold Box4 at bz xz
         go_wp2_with fail
         refine bodyPost_ret (v := .agg #[.int .i64 x.op, .int .i64 x.num, .string x.name, .slice xa x.args.length xc]) (by simp [results, Tryd.results69, go_sem, bz]) rfl ?_
         rw [HANS.out, HR.out]
         change ROk l b off tc P H bad nest deep w (if signAt l k2 [41] then .ok x (k2 + 1) else .err k2 4) _ _
         rw [if_pos HSG.out]
         exact rok_ok (wk := w11.setCell ⟨P, 4, none⟩ (.int .i64 nest)) ((HS11.out.nest_ nest).drop (List.mem_cons_of_mem _ HS.out.mem)) HS.out.mem hl (keepP HK11.out _ _) (ExprRep.mono (fun _ _ h => hideL_sub (fun q hq => List.mem_cons_of_mem _ hq) h) _ (ExprRep.below ((keepP (Keep.refl [P] w11) 4 (.int .i64 nest)).mono (H' := (X :: w.heap.size :: H)) (by intro y hy; simp at hy; subst hy; exact List.mem_cons_of_mem _ (List.mem_cons_of_mem _ HS.out.mem))).hide _ HXR2.out)) rfl (by exact keep4 _ _ _ _ _ _)
        | false =>
         rw [hsg] at hq
         simp only [Bool.false_eq_true, if_false] at hq
         rw [show errBad (!false) 0 k2 bad = k2 by simp [errBad], show errNo (!false) 0 4 = 4 by simp [errNo]] at hq
         obtain ⟨rfl, hs11, hk11⟩ := hq
         have bx11 := Lib.hid (bx10.out.keep hk11 (by simpa using HN.out))
         have xx11 := Lib.hid (xx10.out.keep hk11 (by simpa using HNX.out))
         have HS11 := Lib.hid hs11
         have HK11 := Lib.hid (HK10.out.trans hk11)
         have hz11 := Nat.lt_of_lt_of_le hz10 hk11.size
         clear hs11 hk11
         skip
         have HSG := Lib.hid hsg
         clear hsg bx10 xx10 HS10 HK10 hz10
         have bb := bx11.out
         have xb := xx11.out
         unfold Box4 at bb xb
         have c1 := HS11.out.c1
         have c3 := HS11.out.c3
         have c4 := HS11.out.c4
         have f1 := HS11.out.free 1
         have f4 := HS11.out.free 4
         have hlt := HS11.out.lt
         have hwn : IntKind.i64.wrap (((nest + 1 : Nat) : Int) - 1) = nest := by rw [show (((nest + 1 : Nat) : Int) - 1) = nest by omega]; exact IntWalk.i64_in _ (by omega)
         have bz := bx11.out.keep (keepP (Keep.refl [P] w11) 4 (.int .i64 nest)) (by simpa using HN.out)
         have xz := xx11.out.keep (keepP (Keep.refl [P] w11) 4 (.int .i64 nest)) (by simpa using HNX.out)
         unfold Box4 at bz xz
         go_wp2_with fail
         refine bodyPost_ret (v := .agg #[.int .i64 x.op, .int .i64 x.num, .string x.name, .slice xa x.args.length xc]) (by simp [results, Tryd.results69, go_sem, bz]) rfl ?_
         rw [HANS.out, HR.out]
         change ROk l b off tc P H bad nest deep w (if signAt l k2 [41] then .ok x (k2 + 1) else .err k2 4) _ _
         rw [if_neg (by rw [HSG.out]; simp)]
         exact rok_err (k' := k2) (wk := w11.setCell ⟨P, 4, none⟩ (.int .i64 nest)) ((HS11.out.nest_ nest).drop (List.mem_cons_of_mem _ HS.out.mem)) HS.out.mem hl (keepP HK11.out _ _) hin2 rfl (by exact keep4 _ _ _ _ _ _)
       | err a er =>
        rw [hr] at hq hinn
        obtain ⟨hin1, hin2, hin3, hin4⟩ := hinn
        obtain ⟨⟨y0, y1, y2, y3, yn, yc, rfl⟩, ⟨k3, hk3, hs9⟩, hk9⟩ := hq
        have bx9 := Lib.hid (bx8.out.keep hk9 (by simpa using HN.out))
        have xx9 := Lib.hid (xx8.out.keep hk9 (by simpa using HNX.out))
        have HS9 := Lib.hid hs9
        have HK9 := Lib.hid (HK8.out.trans hk9)
        have hz9 := Nat.lt_of_lt_of_le hz8 hk9.size
        clear hs9 hk9
        clear bx8 xx8 HS8 HK8 hz8
        have HR := Lib.hid hr
        clear hr
        have kx := keep4 X w9 (.int .i64 y0) (.int .i64 y1) (.string y2) (.slice y3 yn yc)
        have xx10 := Lib.hid (box4_put xx9.out (.int .i64 y0) (.int .i64 y1) (.string y2) (.slice y3 yn yc))
        have bx10 := Lib.hid (bx9.out.keep kx (by simpa using HX0.out.symm))
        have HS10 := Lib.hid (HS9.out.far (by simp) HNX.out kx)
        have HK10 := Lib.hid (keepX (keepX (keepX (keepX HK9.out hXle 0 (.int .i64 y0)) hXle 1 (.int .i64 y1)) hXle 2 (.string y2)) hXle 3 (.slice y3 yn yc))
        have hz10 : X < ((((w9.setCell ⟨X, 0, none⟩ (.int .i64 y0)).setCell ⟨X, 1, none⟩ (.int .i64 y1)).setCell ⟨X, 2, none⟩ (.string y2)).setCell ⟨X, 3, none⟩ (.slice y3 yn yc)).heap.size := Nat.lt_of_lt_of_le hz9 kx.size
        have xb := xx9.out
        unfold Box4 at xb
        go_wp2_with fail
        clear xb kx bx9 xx9 HS9 HK9 hz9
        generalize ((((w9.setCell ⟨X, 0, none⟩ (.int .i64 y0)).setCell ⟨X, 1, none⟩ (.int .i64 y1)).setCell ⟨X, 2, none⟩ (.string y2)).setCell ⟨X, 3, none⟩ (.slice y3 yn yc)) = w10 at bx10 xx10 HS10 HK10 hz10 ⊢
        refine (must_rs [41] l b off tc P k3 a er (nest + 1) deep (X :: w.heap.size :: H) _ HS10.out hk3).mono ?_
        intro en w11 hq
        have he0 : er ≠ 0 := by omega
        rw [show isB l k3 er [41] = false by simp [isB, he0], show errBad (!false) er k3 a = a by simp [errBad, he0], show errNo (!false) er 4 = er by simp [errNo, he0]] at hq
        simp only [Bool.false_eq_true, if_false] at hq
        obtain ⟨rfl, hs11, hk11⟩ := hq
        have bx11 := Lib.hid (bx10.out.keep hk11 (by simpa using HN.out))
        have xx11 := Lib.hid (xx10.out.keep hk11 (by simpa using HNX.out))
        have HS11 := Lib.hid hs11
        have HK11 := Lib.hid (HK10.out.trans hk11)
        have hz11 := Nat.lt_of_lt_of_le hz10 hk11.size
        clear hs11 hk11
        clear bx10 xx10 HS10 HK10 hz10
        have bb := bx11.out
        have xb := xx11.out
        unfold Box4 at bb xb
        have c1 := HS11.out.c1
        have c3 := HS11.out.c3
        have c4 := HS11.out.c4
        have f1 := HS11.out.free 1
        have f4 := HS11.out.free 4
        have hlt := HS11.out.lt
        have hwn : IntKind.i64.wrap (((nest + 1 : Nat) : Int) - 1) = nest := by rw [show (((nest + 1 : Nat) : Int) - 1) = nest by omega]; exact IntWalk.i64_in _ (by omega)
        have bz := bx11.out.keep (keepP (Keep.refl [P] w11) 4 (.int .i64 nest)) (by simpa using HN.out)
        have xz := xx11.out.keep (keepP (Keep.refl [P] w11) 4 (.int .i64 nest)) (by simpa using HNX.out)
        unfold Box4 at bz xz
        go_wp2_with fail
        refine bodyPost_ret (v := .agg #[.int .i64 y0, .int .i64 y1, .string y2, .slice y3 yn yc]) (by simp [results, Tryd.results69, go_sem, bz]) rfl ?_
        rw [HANS.out, HR.out]
        exact rok_err (k' := k3) (wk := w11.setCell ⟨P, 4, none⟩ (.int .i64 nest)) ((HS11.out.nest_ nest).drop (List.mem_cons_of_mem _ HS.out.mem)) HS.out.mem hl (keepP HK11.out _ _) hk3 rfl (by exact keep4 _ _ _ _ _ _)
     | false =>
      have HC := Lib.hid hs3
      clear hs3
      refine (is_rs [40] l b off tc P k bad 0 nest deep (X :: w.heap.size :: H) _ HS5.out hk).mono ?_
      intro en w6 hq
      rw [show isB l k 0 [40] = false from (isB_sign HREG.out hk (by decide)).trans HC.out] at hq
      obtain ⟨rfl, hs6, hk6⟩ := hq
      have hk6 := hk6.mono (H' := [P]) (by simp)
      have bx6 := Lib.hid (bx5.out.keep hk6 (by simpa using HN.out))
      have xx6 := Lib.hid (xx5.out.keep hk6 (by simpa using HNX.out))
      have HS6 := Lib.hid hs6
      have HK6 := Lib.hid (HK5.out.trans hk6)
      have hz6 := Nat.lt_of_lt_of_le hz5 hk6.size
      clear hs6 hk6
      clear bx5 xx5 HS5 HK5 hz5
      go_wp2_with fail
      refine (fail_rs 4 l b off tc P k bad 0 nest deep (X :: w.heap.size :: H) _ HS6.out).mono ?_
      intro en w7 hq
      rw [show errBad true 0 k bad = k by simp [errBad], show errNo true 0 4 = 4 by simp [errNo]] at hq
      obtain ⟨rfl, hs7, hk7⟩ := hq
      have bx7 := Lib.hid (bx6.out.keep hk7 (by simpa using HN.out))
      have xx7 := Lib.hid (xx6.out.keep hk7 (by simpa using HNX.out))
      have HS7 := Lib.hid hs7
      have HK7 := Lib.hid (HK6.out.trans hk7)
      have hz7 := Nat.lt_of_lt_of_le hz6 hk7.size
      clear hs7 hk7
      clear bx6 xx6 HS6 HK6 hz6
      have bb := bx7.out
      have xb := xx7.out
      unfold Box4 at bb xb
      have c1 := HS7.out.c1
      have c3 := HS7.out.c3
      have c4 := HS7.out.c4
      have f1 := HS7.out.free 1
      have f4 := HS7.out.free 4
      have hlt := HS7.out.lt
      go_wp2_with fail
      refine bodyPost_ret (v := .agg #[.int .i64 0, .int .i64 0, .string ⟨#[]⟩, .slice none 0 0]) (by simp [results, Tryd.results69, go_sem, bb]) rfl ?_
      rw [show singR l k pre enc = .err k 4 by unfold singR; rw [← HT.out, if_neg HK2'.out, if_neg HK1'.out, if_neg (by rw [HA.out]; simp), if_neg (by rw [HB.out]; simp), if_neg (by rw [HC.out]; simp)]]
      exact rok_err (wk := w7) (k' := k) (HS7.out.drop (List.mem_cons_of_mem _ HS.out.mem)) HS.out.mem hl HK7.out hk rfl (by exact keep4 _ _ _ _ _ _)
end Go.Proofs.YtiimofjemiffgaaDoor
