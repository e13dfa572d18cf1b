import Derived.Test.YtlbocidcjmehfaaDoorPgR29J
import Derived.Test.YtlbocidcjmehfaaDoorBlk3J
import Derived.Maps.RangeWalk
import Derived.Test.YtlbocidcjmehfaaDoorA1J
set_option linter.unusedVariables false
set_option linter.unusedSimpArgs false
namespace Go.Proofs.YtlbocidcjmehfaaDoor
open Go.RowKit
def lp2 (l : List Int) (a : Option Addr) (cap : Nat) (A : World) (S W R : Nat) (ar : Bool) (ms : List AMutex) (vm : Value) (n : Nat) (v u : Value) (w : World) : Prop :=
 ∃ (gs : List AGlobal) (vg : Value), u = .int .i64 gs.length ∧ gs.length ≤ n ∧ (∀ j (h : j < gs.length), MGlobal j gs[j]) ∧ PgSt l a cap A S W R gs ms [] (gs.map AGlobal.name) vg vm (.slice none 0 0) v w ∧ WCells W S 24 ar vg vm (.slice none 0 0) w
theorem mm_snoc {ms : List AMutex} {m : AMutex} (h : ∀ j (h : j < ms.length), MMutex j ms[j]) (hm : MMutex ms.length m) : ∀ j (h : j < (ms ++ [m]).length), MMutex j (ms ++ [m])[j] := fun j hj => by
 rcases Nat.lt_or_ge j ms.length with h1 | h1
 ·rw [List.getElem_append_left h1]; exact h j h1
 ·have : j = ms.length := by simp at hj; omega
  subst this
  rw [List.getElem_append_right (Nat.le_refl _)]; simpa using hm
theorem globInfo : (Tryd.prog.info? 92).map (fun i => (i.zero, i.size, i.bytes)) = some (some (.agg #[.string ⟨#[]⟩, .int .i64 0]), 2, 24) := by kernel_rfl
theorem mg_snoc {ms : List AGlobal} {m : AGlobal} (h : ∀ j (h : j < ms.length), MGlobal j ms[j]) (hm : MGlobal ms.length m) : ∀ j (h : j < (ms ++ [m]).length), MGlobal j (ms ++ [m])[j] := fun j hj => by
 rcases Nat.lt_or_ge j ms.length with h1 | h1
 ·rw [List.getElem_append_left h1]; exact h j h1
 ·have : j = ms.length := by simp at hj; omega
  subst this
  rw [List.getElem_append_right (Nat.le_refl _)]; simpa using hm
theorem funcInfo : (Tryd.prog.info? 76).map (fun i => (i.zero, i.size, i.bytes)) = some (some (.agg #[.string ⟨#[]⟩, .slice none 0 0, .slice none 0 0]), 3, 64) := by kernel_rfl
theorem paramInfo : (Tryd.prog.info? 94).map (fun i => (i.zero, i.size, i.bytes)) = some (some (.agg #[.string ⟨#[]⟩, .bool false]), 2, 24) := by kernel_rfl
theorem mf_snoc {ms : List Sig} {m : Sig} (h : ∀ j (h : j < ms.length), MFunc j ⟨ms[j].1, ms[j].2, []⟩) (hm : MFunc ms.length ⟨m.1, m.2, []⟩) : ∀ j (h : j < (ms ++ [m]).length), MFunc j ⟨(ms ++ [m])[j].1, (ms ++ [m])[j].2, []⟩ := fun j hj => by
 rcases Nat.lt_or_ge j ms.length with h1 | h1
 ·simp only [List.getElem_append_left h1]; exact h j h1
 ·have : j = ms.length := by simp at hj; omega
  subst this
  simp only [List.getElem_append_right (Nat.le_refl _)]; simpa using hm
theorem mf_main {j : Nat} (hj : j = 0) : MFunc j ⟨⟨#[109, 97, 105, 110]⟩, [], []⟩ := ⟨fun _ => ⟨rfl, rfl⟩, fun h => by omega, by simp, fun k h => by simp at h⟩
theorem mf_other {j : Nat} {nm : ByteArray} {ps : List AParam} (hj : ¬ j = 0) (hn : nm = bytes [102, UInt8.ofNat (48 + j)]) (hl : ps.length ≤ 2) (hp : ∀ k (h : k < ps.length), ps[k].name = bytes [112, UInt8.ofNat (48 + (ps.length - k))]) : MFunc j ⟨nm, ps, []⟩ :=
 ⟨fun h => absurd h hj, fun _ => hn, hl, hp⟩
theorem pn_snoc {ps : List AParam} {n m : Nat} {x : AParam} (h : ∀ j (h : j < ps.length), ps[j].name = bytes [112, UInt8.ofNat (48 + (n - j))]) (hn : ps.length + m = n) (hm : 0 < m) (hx : x.name = bytes [112, UInt8.ofNat (48 + m)]) : ∀ j (h : j < (ps ++ [x]).length), (ps ++ [x])[j].name = bytes [112, UInt8.ofNat (48 + (n - j))] := fun j hj => by
 rcases Nat.lt_or_ge j ps.length with h1 | h1
 ·rw [List.getElem_append_left h1]; exact h j h1
 ·have : j = ps.length := by simp at hj; omega
  subst this
  simp only [List.getElem_append_right (Nat.le_refl _), Nat.sub_self, List.getElem_singleton]
  rw [hx, show n - ps.length = m by omega]
theorem plist {w : World} {base : Nat} {N : List Nat} {v : Value} {ps : List AParam} (h : w.ownsRow base 94 2 v ps.length (ps.flatMap pCells)) (hN : ∀ x, x ∈ N → x < base) : ListRep (hideL N w) ParamRep 2 v ps :=
 ⟨ps.map pCells, by rw [← List.flatMap_def]; exact owns_hide h hN, by simp, fun k hk hk' => ⟨by rw [List.getElem_map]; rfl, by rw [List.getElem_map]; rfl⟩⟩
def lp3 (l : List Int) (a : Option Addr) (cap : Nat) (A : World) (S W R : Nat) (ar : Bool) (gs : List AGlobal) (ms : List AMutex) (vg vm uv : Value) (n : Nat) (u : Value) (w : World) : Prop :=
 ∃ (fl : List Sig) (vf : Value), u = .int .i64 fl.length ∧ fl.length ≤ n + 1 ∧ (∀ j (h : j < fl.length), MFunc j ⟨fl[j].1, fl[j].2, []⟩) ∧ PgSt l a cap A S W R gs ms fl (gs.map AGlobal.name) vg vm vf uv w ∧ WCells W S 24 ar vg vm vf w
def lp4 (l : List Int) (a : Option Addr) (cap : Nat) (w0 : World) (S W : Nat) (ar : Bool) (vg vm vf : Value) (F : Nat) (fnm : ByteArray) (n k : Nat) (u : Value) (w : World) : Prop :=
 ∃ (m : Nat) (ps : List AParam) (vp : Value), u = .int .i64 m ∧ ps.length + m = n ∧ (k = 0 → ps = []) ∧ (∀ j (h : j < ps.length), ps[j].name = bytes [112, UInt8.ofNat (48 + (n - j))]) ∧ Keep [S] w0 w ∧ SrcAt l a cap S w ∧ WCells W S 24 ar vg vm vf w ∧
  (w.cell? ⟨F, 0, none⟩ = some (.string fnm) ∧ w.cell? ⟨F, 1, none⟩ = some vp ∧ w.cell? ⟨F, 2, none⟩ = some (.slice none 0 0)) ∧ (∀ o, w.frozen? ⟨F, o, none⟩ = false) ∧ w.ownsRow w0.heap.size 94 2 vp ps.length (ps.flatMap pCells) ∧ F ∉ ownB vp
theorem own_skip {gs : List AGlobal} {ps : List AParam} {m : Nat} (h : m < ps.length) (hx : ps[m].mutex = true) : ownVars gs (ps.take (m + 1)) = ownVars gs (ps.take m) := by
 unfold ownVars
 rw [List.take_succ_eq_append_getElem h, List.filter_append]
 simp [hx]
theorem own_step {gs : List AGlobal} {ps : List AParam} {m : Nat} (h : m < ps.length) (hx : ps[m].mutex = false) : ownVars gs (ps.take (m + 1)) = ownVars gs (ps.take m) ++ [ps[m].name] := by
 unfold ownVars
 rw [List.take_succ_eq_append_getElem h, List.filter_append]
 simp [hx]
theorem own_len {gs : List AGlobal} {ps : List AParam} {m : Nat} (hg : gs.length ≤ 2) (hp : ps.length ≤ 2) : (ownVars gs (ps.take m)).length ≤ 4 := by
 unfold ownVars
 have h1 := List.length_filter_le (fun x : AParam => !x.mutex) (ps.take m)
 have h2 : (ps.take m).length ≤ ps.length := by rw [List.length_take]; omega
 rw [List.length_append, List.length_map, List.length_map]; omega
def lp5 (A : World) (S W Fb R : Nat) (ar : Bool) (ms : List AMutex) (gs : List AGlobal) (fl : List Sig) (vg vm uv : Value) (fc : Nat) (u : Value) (w : World) : Prop :=
 ∃ (done : List AFunc) (left : Nat), u = .int .i64 done.length ∧ PhSt A S W Fb R ms gs fl (gs.map AGlobal.name) vg vm uv done left w ∧ WCells W S left ar vg vm (.slice (some ⟨Fb, 0, none⟩) fl.length fc) w ∧ left ≤ 24
def lp6 (w0 : World) (gs : List AGlobal) (ps : List AParam) (v u : Value) (w : World) : Prop :=
 ∃ (m : Nat), u = .int .i64 m ∧ m ≤ ps.length ∧ Keep [] w0 w ∧ w.ownsRow w0.heap.size 9 1 v (ownVars gs (ps.take m)).length ((ownVars gs (ps.take m)).map .string)
def PgOk (A : World) (e : Ending) (w' : World) : Prop := ∃ (p : AProg) (vg vm vf : Value), e = .returned (.agg #[vg, vm, vf]) ∧ MProg p ∧ ProgRep w' p [vg, vm, vf] ∧ Below A.heap.size A w'
theorem mutInfo : (Tryd.prog.info? 90).map (fun i => (i.zero, i.size, i.bytes)) = some (some (.agg #[.string ⟨#[]⟩, .bool false, .int .i64 0]), 3, 32) := by kernel_rfl
def lp1 (l : List Int) (a : Option Addr) (cap : Nat) (A : World) (S W R : Nat) (ar : Bool) (n : Nat) (u : Value) (w : World) : Prop :=
 ∃ (ms : List AMutex) (vm : Value), u = .int .i64 ms.length ∧ ms.length ≤ n ∧ (∀ j (h : j < ms.length), MMutex j ms[j]) ∧ PgSt l a cap A S W R [] ms [] [] (.slice none 0 0) vm (.slice none 0 0) (.slice none 0 0) w ∧ WCells W S 24 ar (.slice none 0 0) vm (.slice none 0 0) w
set_option maxRecDepth 100000 in
set_option maxHeartbeats 8000000 in
theorem program_made (l0 : List Int) (a : Option Addr) (cap0 : Nat) (A0 : World) (hr0 : RowAt A0 (.slice a l0.length cap0) l0.length (l0.map (.int .i64))) (hl0 : l0.length ≤ 9223372036854775807) :
  Calls Tryd.prog 29 #[.slice a l0.length cap0] A0 (PgOk A0) := by
 obtain ⟨i2, hi2, hm0, hm1, hm2⟩ := info_parts mutInfo
 obtain ⟨i3, hi3, hg0, hg1, hg2⟩ := info_parts globInfo
 obtain ⟨i0, hi0, hs0, hs1, hs2⟩ := info_parts strInfo
 obtain ⟨i4, hi4, hf0, hf1, hf2⟩ := info_parts funcInfo
 obtain ⟨i5, hi5, hp0, hp1, hp2⟩ := info_parts paramInfo
 have HR0 := Lib.hid hr0
 clear hr0
 go_enter Tryd.func29, Tryd.ntmps29
 go_wp2_with fail
 refine (cut_any l0 a cap0 _ (HR0.out.below (by go_grown) (Nat.le_refl _)) hl0 400 (by omega)).mono ?_
 intro e w1 hq
 obtain ⟨⟨c2, rfl, hrow⟩, rfl⟩ := hq
 have hc2 := hrow.cap
 obtain ⟨A, hA⟩ : ∃ x, x = A0.alloc (.cells #[.slice none 0 0, .slice none 0 0, .slice none 0 0] 60) := ⟨_, rfl⟩
 obtain ⟨R, hR⟩ : ∃ R, R = A0.heap.size := ⟨_, rfl⟩
 have hAs : A.heap.size = R + 1 := by rw [hA, hR]; simp
 have HAB : Hid (Below A0.heap.size A0 A) := Lib.hid (by rw [hA]; go_grown)
 have rxA : A.cell? ⟨R, 0, none⟩ = some (.slice none 0 0) ∧ A.cell? ⟨R, 1, none⟩ = some (.slice none 0 0) ∧ A.cell? ⟨R, 2, none⟩ = some (.slice none 0 0) := by rw [hA, hR]; exact ⟨by go_simp, by go_simp, by go_simp⟩
 have rfA : ∀ o, A.frozen? ⟨R, o, none⟩ = false := fun o => by rw [hA, hR]; go_simp
 have RX := Lib.hid rxA
 have RF := Lib.hid rfA
 have HRW := Lib.hid (rowAt_take 400 (HR0.out.below HAB.out (Nat.le_refl _)) hc2)
 have HRX := Lib.hid (rowAt_early (H := [R]) (rowAt_take 400 HR0.out hc2) (Keep.of_below HAB.out : Keep [] A0 A) (by simp) (fun x hx => by simp at hx; omega))
 rw [← hA]
 have HAS := Lib.hid hAs
 have HR := Lib.hid hR
 clear hA rxA rfA hrow HR0 hAs hR
 obtain ⟨l, hl⟩ : ∃ l, l = l0.take 400 := ⟨_, rfl⟩
 have hll : l.length ≤ 400 := by rw [hl, List.length_take]; omega
 rw [← hl] at HRW HRX hc2 ⊢
 clear hl
 go_wp2_with fail
 obtain ⟨S, hS⟩ : ∃ S, S = A.heap.size := ⟨_, rfl⟩
 obtain ⟨W, hW⟩ : ∃ W, W = A.heap.size + 1 := ⟨_, rfl⟩
 rw [← hW, ← hS, ← HR.out]
 obtain ⟨w2, hw2⟩ : ∃ w, w = (A.alloc (.cells #[.slice a l.length c2, .int .i64 0] 39)).alloc (.cells #[.pointer (some ⟨S, 0, none⟩), .slice none 0 0, .slice none 0 0, .slice none 0 0, .int .i64 24, .bool false] 88) := ⟨_, rfl⟩
 rw [← hw2]
 obtain ⟨pg2, wc2⟩ := PgSt.start (R := R) hS hW hw2
 have SL : Hid (A.heap.size ≤ S ∧ W = S + 1) := Lib.hid (by omega)
 have WL : Hid (A.heap.size ≤ S ∧ W = S + 1) := SL
 have PG2 := Lib.hid pg2
 unfold WCells at wc2
 have HRS : Hid (∀ w, Keep [] A w → RowAt (hideL [S] w) (.slice a l.length c2) l.length (l.map (.int .i64))) := Lib.hid (fun w hk => rowAt_early HRW.out hk (by simp) (fun x hx => by simp at hx; omega))
 clear pg2 hw2 hS hW
 refine (next_at 3 l a c2 S w2 PG2.out.src (HRS.out _ PG2.out.keep) (by omega) (by omega) (by omega)).mono ?_
 intro e w3 hq
 obtain ⟨q, rfl, q0, q1, hs3, hk3⟩ := NextAt.out hq
 have PG3 := Lib.hid (PG2.out.call hk3 hs3)
 have wc3 := WCells.keep (W := W) (S := S) (left := 24) wc2 hk3 (by have := SL.out; simp; omega)
 unfold WCells at wc3
 have fz3 := PG3.out.free
 have hWl3 := PG3.out.hW
 obtain ⟨ar, har⟩ : ∃ ar, ar = (q == 1) := ⟨_, rfl⟩
 have har' : (q == 1) = ar := har.symm
 clear hq hs3 hk3 wc2 PG2 har
 go_wp2_with fail
 have PG4 := Lib.hid (PG3.out.store 5 (.bool ar))
 have wc4 : WCells W S 24 ar (.slice none 0 0) (.slice none 0 0) (.slice none 0 0) (w3.setCell ⟨W, 5, none⟩ (.bool ar)) := by unfold WCells; exact ⟨by go_simp, by go_simp, by go_simp, by go_simp, by go_simp, by go_simp⟩
 clear wc3 fz3 hWl3 har' PG3 q0 q1
 generalize w3.setCell ⟨W, 5, none⟩ (.bool ar) = w4 at PG4 wc4 ⊢
 refine (next_at 4 l a c2 S w4 PG4.out.src (HRS.out _ PG4.out.keep) (by omega) (by omega) (by omega)).mono ?_
 intro e w5 hq
 obtain ⟨r, rfl, r0, r1, hs5, hk5⟩ := NextAt.out hq
 have PG5 := Lib.hid (PG4.out.call hk5 hs5)
 have WC5 := Lib.hid (WCells.keep wc4 hk5 (by have := SL.out; simp; omega))
 obtain ⟨n0, rfl⟩ : ∃ n0 : Nat, r = n0 := ⟨r.toNat, by omega⟩
 have hwn : IntKind.i64.wrap (1 + (n0 : Int)) = ((1 + n0 : Nat) : Int) := IntWalk.i64_in _ (by omega)
 clear hq hs5 hk5 wc4 PG4
 go_wp2_with fail
 go_loopw [4] (fun u w => lp1 l a c2 A S W R ar (1 + n0) u w) (fun i _ => 1 + n0 - (intOf i).toNat)
 case atStart => exact ⟨[], .slice none 0 0, rfl, by simp, fun j h => by simp at h, PG5.out, WC5.out⟩
 case round =>
  obtain ⟨ms, vm, rfl, hmn, HMM, pgr, wcr⟩ := hrel
  have PGR := Lib.hid pgr
  have WCR := Lib.hid wcr
  have HMS := Lib.hid HMM
  obtain ⟨k, hk⟩ : ∃ k, k = ms.length := ⟨_, rfl⟩
  have HK := Lib.hid hk
  rw [← hk] at hmn ⊢
  unfold WCells at wcr
  clear pgr HMM hk PG5 WC5
  by_cases hgo : k < 1 + n0
  ·have hgi : (k : Int) < ((1 + n0 : Nat) : Int) := by omega
   obtain ⟨b1, hb1⟩ : ∃ b1, b1 = UInt8.ofNat (97 + k) := ⟨_, rfl⟩
   have hwb : 97 + (k : Int) = (b1.toNat : Int) := by rw [hb1]; exact abyte k (by omega)
   have hbb : b1.toNat < 200 := by omega
   have HB1 := Lib.hid hb1
   obtain ⟨t, ht⟩ : ∃ t, t = bytes [b1] := ⟨_, rfl⟩
   have hcv : (convert 23 9 (.slice (some ⟨wr.heap.size, 0, none⟩) 1 1)).run Tryd.prog (wr.alloc (.cells #[.int .u8 b1.toNat] 5)) = .ok (.string t) (wr.alloc (.cells #[.int .u8 b1.toNat] 5)) := by rw [ht]; exact conv_new wr b1
   have HT := Lib.hid ht
   clear hb1 ht
   go_upto_region 7 with fail
   obtain ⟨M, hM⟩ : ∃ M, M = wr.heap.size + 1 := ⟨_, rfl⟩
   have KR6 : Keep [S] wr ((wr.alloc (.cells #[.int .u8 b1.toNat] 5)).alloc (.cells #[.string t, .bool false, .int .i64 0] 90)) := ((Keep.refl _ _).alloc _).alloc _
   have hk6 : Keep [] wr ((wr.alloc (.cells #[.int .u8 b1.toNat] 5)).alloc (.cells #[.string t, .bool false, .int .i64 0] 90)) := ((Keep.refl _ _).alloc _).alloc _
   have SA6 := PGR.out.src.keep hk6 (by simp)
   have wc6 := WCells.keep WCR.out hk6 (by simp)
   unfold WCells at wc6
   have mb6 : Ce3 ((wr.alloc (.cells #[.int .u8 b1.toNat] 5)).alloc (.cells #[.string t, .bool false, .int .i64 0] 90)) M (.string t) (.bool false) (.int .i64 0) := by rw [hM]; exact ⟨by go_simp, by go_simp, by go_simp⟩
   unfold Ce3 at mb6
   have mf6 : ∀ o, ((wr.alloc (.cells #[.int .u8 b1.toNat] 5)).alloc (.cells #[.string t, .bool false, .int .i64 0] 90)).frozen? ⟨M, o, none⟩ = false := fun o => by rw [hM]; go_simp
   have hWr := PGR.out.hW
   have hSr := PGR.out.src.lt
   have HMr : Hid (wr.heap.size ≤ M) := Lib.hid (by omega)
   have HM : Hid (M ≠ S ∧ M ≠ W) := Lib.hid (by omega)
   have HWR := Lib.hid hWr
   have HSR := Lib.hid hSr
   rw [← hM]
   clear hk6 hM wcr hcv hWr hSr hwb hbb
   generalize ((wr.alloc (.cells #[.int .u8 b1.toNat] 5)).alloc (.cells #[.string t, .bool false, .int .i64 0] 90)) = w6 at KR6 SA6 wc6 mb6 mf6 ⊢
   go_wp2_with fail
   refine (next_at 5 l a c2 S w6 SA6 (HRS.out _ (PGR.out.call KR6 SA6).keep) (by omega) (by omega) (by omega)).mono ?_
   intro e w7 hq
   obtain ⟨d, rfl, d0, d1, sa, hk7⟩ := NextAt.out hq
   clear hq
   have KR7 := KR6.trans hk7
   have SA7 := sa
   have wc7 := WCells.keep wc6 hk7 (by have := WL.out; simp; omega)
   have mb7 := bx3 mb6 hk7 (by have := HM.out; have := SL.out; simp; omega)
   have mf7 := frk mf6 (cell_lt mb6.1) hk7 (by have := HM.out; have := SL.out; simp; omega)
   unfold WCells at wc7
   clear KR6 SA6 wc6 mb6 mf6
   clear sa
   by_cases hd1 : d = 1
   ·subst hd1
    go_upto_region 12 with fail
    have hk8 : Keep [M] w7 (w7.setCell ⟨M, 1, none⟩ (.bool true)) := ((Keep.refl [M] w7).setCell (p := ⟨M, 1, none⟩) (.inl (List.mem_singleton.2 rfl)) (.bool true))
    have KR8 := KR7.grow hk8 (fun x hx => by have := HMr.out; simp at hx; omega)
    have SA8 := SA7.keep hk8 (by have := HM.out; simp; omega)
    have wc8 := WCells.keep wc7 hk8 (by have := HM.out; simp; omega)
    have mb8 : Ce3 (w7.setCell ⟨M, 1, none⟩ (.bool true)) M (.string t) (.bool true) (.int .i64 0) := ⟨by go_simp, by go_simp, by go_simp⟩
    unfold Ce3 at mb8
    have mf8 : ∀ o, (w7.setCell ⟨M, 1, none⟩ (.bool true)).frozen? ⟨M, o, none⟩ = false := fun o => by have h9 := mf7 o; go_simp
    unfold WCells at wc8
    clear KR7 SA7 wc7 mb7 mf7
    clear hk8
    generalize (w7.setCell ⟨M, 1, none⟩ (.bool true)) = w8 at KR8 SA8 wc8 mb8 mf8 ⊢
    go_upto_region 12 with fail
    have hdr : Keep [] w8 w8.drew := (Keep.refl _ _).drew
    have KR9 := KR8.trans (hdr.mono (fun x hx => by simp at hx))
    have SA9 := SA8.keep hdr (by simp)
    have wc9 := WCells.keep wc8 hdr (by simp)
    have mb9 := bx3 mb8 hdr (by simp)
    have mf9 := frk mf8 (cell_lt mb8.1) hdr (by simp)
    refine wp_region_held_drew (S := fun w' => w'.cell? ⟨W, 0, none⟩ = some (.pointer (some ⟨S, 0, none⟩)) ∧ w'.cell? ⟨M, 0, none⟩ = some (.string t) ∧ w'.cell? ⟨M, 1, none⟩ = some (.bool true) ∧ w'.cell? ⟨M, 2, none⟩ = some (.int .i64 0)) (by kernel_rfl) ⟨wc9.1, mb9.1, mb9.2.1, mb9.2.2⟩ (fun hHeld => ?_)
    unfold WCells at wc9
    clear KR8 SA8 wc8 mb8 mf8
    clear hdr
    generalize w8.drew = w9 at KR9 SA9 wc9 mb9 mf9 hHeld ⊢
    refine held_take 0 (v := ?vv173) (by kernel_rfl) rfl (by rfl) (by kernel_rfl) (by kernel_rfl) (fun _ _ _ h => h) ?hyy173 (by assumption) ?rest173
    case hyy173 => (intro w hSw; (try dsimp only at hSw); go_simp; (try with_reducible rfl))
    (try go_frame)
    refine held_take 1 (v := ?vv174) (by kernel_rfl) rfl (by rfl) (by kernel_rfl) (by kernel_rfl) (fun _ _ _ h => h) ?hyy174 (by assumption) ?rest174
    case hyy174 => (intro w hSw; (try dsimp only at hSw); go_simp; (try with_reducible rfl))
    (try go_frame)
    refine held_take 2 (v := ?vv175) (by kernel_rfl) rfl (by rfl) (by kernel_rfl) (by kernel_rfl) (fun _ _ _ h => h) ?hyy175 (by assumption) ?rest175
    case hyy175 => (intro w hSw; (try dsimp only at hSw); go_simp; (try with_reducible rfl))
    (try go_frame)
    refine held_take 3 (v := ?vv176) (by kernel_rfl) rfl (by rfl) (by kernel_rfl) (by kernel_rfl) (fun _ _ _ h => h) ?hyy176 (by assumption) ?rest176
    case hyy176 => (intro w hSw; (try dsimp only at hSw); go_simp; (try with_reducible rfl))
    (try go_frame)
    refine held_take 4 (v := ?vv177) (by kernel_rfl) rfl (by rfl) (by kernel_rfl) (by kernel_rfl) (fun _ _ _ h => h) ?hyy177 (by assumption) ?rest177
    case hyy177 => (intro w hSw; (try dsimp only at hSw); go_simp; (try with_reducible rfl))
    (try go_frame)
    refine held_take 6 (v := ?vv178) (by kernel_rfl) rfl (by rfl) (by kernel_rfl) (by kernel_rfl) (fun _ _ _ h => h) ?hyy178 (by assumption) ?rest178
    case hyy178 => (intro w hSw; (try dsimp only at hSw); go_simp; (try with_reducible rfl))
    (try go_frame)
    refine held_pair 5 7 (by kernel_rfl) rfl rfl (by rfl) (by rfl) (fun K' hK => ?_) (fun K' hK => ?_)
    ·go_simp
     (try dsimp only)
     refine hK.out _ _ ⟨wc9.1, mb9.1, mb9.2.1, mb9.2.2⟩ (fun hHeld' => ?_)
     clear hK K' hHeld
     have hHeld := hHeld'
     clear hHeld'
     (try go_frame)
     refine held_one 7 (by kernel_rfl) rfl (by rfl) (fun K' hK => ?_)
     go_simp
     have hka : Keep [] w9 (w9.alloc (.cells #[(.string t), (.bool true), (.int .i64 0)] 90)) := (Keep.refl _ _).alloc _
     have KR10 := KR9.trans (hka.mono (fun x hx => by simp at hx))
     have SA10 := SA9.keep hka (by simp)
     have wc10 := WCells.keep wc9 hka (by simp)
     have mb10 := bx3 mb9 hka (by simp)
     have mf10 := frk mf9 (cell_lt mb9.1) hka (by simp)
     (try dsimp only)
     refine hK.out _ _ ⟨wc10.1, mb10.1, mb10.2.1, mb10.2.2⟩ (fun hHeld' => ?_)
     clear hK K' hHeld
     have hHeld := hHeld'
     clear hHeld'
     (try go_frame)
     have PG10 := Lib.hid (PGR.out.call KR10 SA10)
     have OM := Lib.hid PG10.out.om
     have hsz : A.heap.size ≤ w9.heap.size := by have := PG10.out.lS; have := (SrcAt.lt SA9); omega
     clear KR9 SA9 mb9 mf9
     clear hka
     clear wc9
     unfold WCells at wc10
     refine held_one 8 (by kernel_rfl) rfl (by rfl) (fun K' hK => ?_)
     refine wp_append_fresh _ _ _ 57 rfl A.heap.size 90 i2 _ 3 32 Tryd.underlying57 hi2 hm0 hm1 hm2 rfl (by decide) vm ms.length (ms.flatMap mCells) rfl OM.out ⟨w9.heap.size, 0, none⟩ 1 1 (mCells ⟨t, true, 0⟩) rfl rfl (new_cells _ _ _) (by simp [mCells, Value.oneCell']) (by rw [← HK.out]; unfold maxLen; omega) (by rw [← HK.out]; omega) (by simp; omega) ?_
     intro v' w11 hown hgr hfr
     obtain ⟨va, vc, rfl⟩ : ∃ va vc, v' = .slice va (ms.length + 1) vc := owns_slice hown
     have hgk := keep_of_grown hgr
     have hMv : M ∉ ownB vm := fun hm => by have := owns_lt_size PGR.out.om (ownB_mem.1 hm); have := HMr.out; omega
     have PG11 := Lib.hid (PG10.out.pushM (m := ⟨t, true, 0⟩) hgr (by simpa using hfr) hown)
     have wc11 := WCells.keep wc10 hgk PG10.out.dm.2
     have mb11 := bx3 mb10 hgk hMv
     (try dsimp only)
     unfold WCells at wc11
     refine hK.out _ _ ⟨wc11.1, mb11.1, mb11.2.1, mb11.2.2⟩ (fun hHeld' => ?_)
     clear hK K' hHeld
     have hHeld := hHeld'
     clear hHeld'
     (try go_frame)
     clear KR10 SA10 wc10 mb10 mf10 hown hgr hfr hgk
     have fz11 := PG11.out.free
     have hWl := PG11.out.hW
     refine held_take 9 (v := ?vv179) (by kernel_rfl) rfl (by rfl) (by kernel_rfl) (by kernel_rfl) (fun _ _ _ h => h) ?hyy179 (by assumption) ?rest179
     case hyy179 => (intro w hSw; (try dsimp only at hSw); go_simp; (try with_reducible rfl))
     (try go_frame)
     refine held_take 10 (v := ?vv180) (by kernel_rfl) rfl (by rfl) (by kernel_rfl) (by kernel_rfl) (fun _ _ _ h => h) ?hyy180 (by assumption) ?rest180
     case hyy180 => (intro w hSw; (try dsimp only at hSw); go_simp; (try with_reducible rfl))
     (try go_frame)
     refine held_take 11 (v := ?vv181) (by kernel_rfl) rfl (by rfl) (by kernel_rfl) (by kernel_rfl) (fun _ _ _ h => h) ?hyy181 (by assumption) ?rest181
     case hyy181 => (intro w hSw; (try dsimp only at hSw); go_simp; (try with_reducible rfl))
     (try go_frame)
     refine held_one 12 (by kernel_rfl) rfl (by rfl) (fun K' hK => ?_)
     go_simp
     have PG12 := Lib.hid (PG11.out.store 2 (.slice va (ms.length + 1) vc))
     have wc12 : WCells W S 24 ar (.slice none 0 0) (.slice va (ms.length + 1) vc) (.slice none 0 0) (w11.setCell ⟨W, 2, none⟩ (.slice va (ms.length + 1) vc)) := by unfold WCells; exact ⟨by go_simp, by go_simp, by go_simp, by go_simp, by go_simp, by go_simp⟩
     have hMW : M ∉ [W] := by have := HM.out; simp; omega
     have mb12 := bx3 mb11 ((Keep.refl [W] w11).setCell (p := ⟨W, 2, none⟩) (.inl (List.mem_singleton.2 rfl)) (.slice va (ms.length + 1) vc)) hMW
     (try dsimp only)
     refine hK.out _ _ ⟨wc12.1, mb12.1, mb12.2.1, mb12.2.2⟩ (fun hHeld' => ?_)
     clear hK K' hHeld hHeld'
     (try go_frame)
     refine wpAnyH_done (by kernel_rfl) ?_ _
     have hwk : IntKind.i64.wrap ((k : Int) + 1) = ((k + 1 : Nat) : Int) := IntWalk.i64_in _ (by omega)
     go_wp2_with fail
     go_roundw
     case rel => exact ⟨ms ++ [⟨t, true, 0⟩], _, by rw [List.length_append, ← HK.out]; go_num, by rw [List.length_append, ← HK.out]; simp; omega, mm_snoc HMS.out (⟨by rw [HT.out, HB1.out, HK.out], .inr ⟨rfl, rfl⟩⟩), PG12.out, wc12⟩
     case measure => simp [intOf]; omega
    ·go_simp
     have hka : Keep [] w9 (w9.alloc (.cells #[(.string t), (.bool true), (.int .i64 0)] 90)) := (Keep.refl _ _).alloc _
     have KR10 := KR9.trans (hka.mono (fun x hx => by simp at hx))
     have SA10 := SA9.keep hka (by simp)
     have wc10 := WCells.keep wc9 hka (by simp)
     have mb10 := bx3 mb9 hka (by simp)
     have mf10 := frk mf9 (cell_lt mb9.1) hka (by simp)
     (try dsimp only)
     refine hK.out _ _ ⟨wc10.1, mb10.1, mb10.2.1, mb10.2.2⟩ (fun hHeld' => ?_)
     clear hK K' hHeld
     have hHeld := hHeld'
     clear hHeld'
     (try go_frame)
     have PG10 := Lib.hid (PGR.out.call KR10 SA10)
     have OM := Lib.hid PG10.out.om
     have hsz : A.heap.size ≤ w9.heap.size := by have := PG10.out.lS; have := (SrcAt.lt SA9); omega
     clear KR9 SA9 mb9 mf9
     clear hka
     clear wc9
     unfold WCells at wc10
     refine held_one 5 (by kernel_rfl) rfl (by rfl) (fun K' hK => ?_)
     go_simp
     (try dsimp only)
     refine hK.out _ _ ⟨wc10.1, mb10.1, mb10.2.1, mb10.2.2⟩ (fun hHeld' => ?_)
     clear hK K' hHeld
     have hHeld := hHeld'
     clear hHeld'
     (try go_frame)
     refine held_one 8 (by kernel_rfl) rfl (by rfl) (fun K' hK => ?_)
     refine wp_append_fresh _ _ _ 57 rfl A.heap.size 90 i2 _ 3 32 Tryd.underlying57 hi2 hm0 hm1 hm2 rfl (by decide) vm ms.length (ms.flatMap mCells) rfl OM.out ⟨w9.heap.size, 0, none⟩ 1 1 (mCells ⟨t, true, 0⟩) rfl rfl (new_cells _ _ _) (by simp [mCells, Value.oneCell']) (by rw [← HK.out]; unfold maxLen; omega) (by rw [← HK.out]; omega) (by simp; omega) ?_
     intro v' w11 hown hgr hfr
     obtain ⟨va, vc, rfl⟩ : ∃ va vc, v' = .slice va (ms.length + 1) vc := owns_slice hown
     have hgk := keep_of_grown hgr
     have hMv : M ∉ ownB vm := fun hm => by have := owns_lt_size PGR.out.om (ownB_mem.1 hm); have := HMr.out; omega
     have PG11 := Lib.hid (PG10.out.pushM (m := ⟨t, true, 0⟩) hgr (by simpa using hfr) hown)
     have wc11 := WCells.keep wc10 hgk PG10.out.dm.2
     have mb11 := bx3 mb10 hgk hMv
     (try dsimp only)
     unfold WCells at wc11
     refine hK.out _ _ ⟨wc11.1, mb11.1, mb11.2.1, mb11.2.2⟩ (fun hHeld' => ?_)
     clear hK K' hHeld
     have hHeld := hHeld'
     clear hHeld'
     (try go_frame)
     clear KR10 SA10 wc10 mb10 mf10 hown hgr hfr hgk
     have fz11 := PG11.out.free
     have hWl := PG11.out.hW
     refine held_take 9 (v := ?vv182) (by kernel_rfl) rfl (by rfl) (by kernel_rfl) (by kernel_rfl) (fun _ _ _ h => h) ?hyy182 (by assumption) ?rest182
     case hyy182 => (intro w hSw; (try dsimp only at hSw); go_simp; (try with_reducible rfl))
     (try go_frame)
     refine held_take 10 (v := ?vv183) (by kernel_rfl) rfl (by rfl) (by kernel_rfl) (by kernel_rfl) (fun _ _ _ h => h) ?hyy183 (by assumption) ?rest183
     case hyy183 => (intro w hSw; (try dsimp only at hSw); go_simp; (try with_reducible rfl))
     (try go_frame)
     refine held_take 11 (v := ?vv184) (by kernel_rfl) rfl (by rfl) (by kernel_rfl) (by kernel_rfl) (fun _ _ _ h => h) ?hyy184 (by assumption) ?rest184
     case hyy184 => (intro w hSw; (try dsimp only at hSw); go_simp; (try with_reducible rfl))
     (try go_frame)
     refine held_one 12 (by kernel_rfl) rfl (by rfl) (fun K' hK => ?_)
     go_simp
     have PG12 := Lib.hid (PG11.out.store 2 (.slice va (ms.length + 1) vc))
     have wc12 : WCells W S 24 ar (.slice none 0 0) (.slice va (ms.length + 1) vc) (.slice none 0 0) (w11.setCell ⟨W, 2, none⟩ (.slice va (ms.length + 1) vc)) := by unfold WCells; exact ⟨by go_simp, by go_simp, by go_simp, by go_simp, by go_simp, by go_simp⟩
     have hMW : M ∉ [W] := by have := HM.out; simp; omega
     have mb12 := bx3 mb11 ((Keep.refl [W] w11).setCell (p := ⟨W, 2, none⟩) (.inl (List.mem_singleton.2 rfl)) (.slice va (ms.length + 1) vc)) hMW
     (try dsimp only)
     refine hK.out _ _ ⟨wc12.1, mb12.1, mb12.2.1, mb12.2.2⟩ (fun hHeld' => ?_)
     clear hK K' hHeld hHeld'
     (try go_frame)
     refine wpAnyH_done (by kernel_rfl) ?_ _
     have hwk : IntKind.i64.wrap ((k : Int) + 1) = ((k + 1 : Nat) : Int) := IntWalk.i64_in _ (by omega)
     go_wp2_with fail
     go_roundw
     case rel => exact ⟨ms ++ [⟨t, true, 0⟩], _, by rw [List.length_append, ← HK.out]; go_num, by rw [List.length_append, ← HK.out]; simp; omega, mm_snoc HMS.out (⟨by rw [HT.out, HB1.out, HK.out], .inr ⟨rfl, rfl⟩⟩), PG12.out, wc12⟩
     case measure => simp [intOf]; omega
   by_cases hd2 : d = 2
   ·have hb1 : (d == 1) = false := by simpa using hd1
    subst hd2
    go_wp2_with fail
    refine (next_at 3 l a c2 S w7 SA7 (HRS.out _ (PGR.out.call KR7 SA7).keep) (by omega) (by omega) (by omega)).mono ?_
    intro e w8 hq
    obtain ⟨z, rfl, z0, z1, sa, hk8⟩ := NextAt.out hq
    clear hq
    have KR8 := KR7.trans hk8
    have SA8 := sa
    have wc8 := WCells.keep wc7 hk8 (by have := WL.out; simp; omega)
    have mb8 := bx3 mb7 hk8 (by have := HM.out; have := SL.out; simp; omega)
    have mf8 := frk mf7 (cell_lt mb7.1) hk8 (by have := HM.out; have := SL.out; simp; omega)
    unfold WCells at wc8
    clear KR7 SA7 wc7 mb7 mf7
    clear sa
    obtain ⟨z, rfl⟩ : ∃ y : Nat, z = y := ⟨z.toNat, by omega⟩
    have hwz : IntKind.i64.wrap (1 + (z : Int)) = 1 + (z : Int) := IntWalk.i64_in _ (by omega)
    go_upto_region 12 with fail
    have hk9 : Keep [M] w8 (w8.setCell ⟨M, 2, none⟩ (.int .i64 (1 + (z : Int)))) := ((Keep.refl [M] w8).setCell (p := ⟨M, 2, none⟩) (.inl (List.mem_singleton.2 rfl)) (.int .i64 (1 + (z : Int))))
    have KR9 := KR8.grow hk9 (fun x hx => by have := HMr.out; simp at hx; omega)
    have SA9 := SA8.keep hk9 (by have := HM.out; simp; omega)
    have wc9 := WCells.keep wc8 hk9 (by have := HM.out; simp; omega)
    have mb9 : Ce3 (w8.setCell ⟨M, 2, none⟩ (.int .i64 (1 + (z : Int)))) M (.string t) (.bool false) (.int .i64 (1 + (z : Int))) := ⟨by go_simp, by go_simp, by go_simp⟩
    unfold Ce3 at mb9
    have mf9 : ∀ o, (w8.setCell ⟨M, 2, none⟩ (.int .i64 (1 + (z : Int)))).frozen? ⟨M, o, none⟩ = false := fun o => by have h9 := mf8 o; go_simp
    unfold WCells at wc9
    clear KR8 SA8 wc8 mb8 mf8
    clear hk9
    generalize (w8.setCell ⟨M, 2, none⟩ (.int .i64 (1 + (z : Int)))) = w9 at KR9 SA9 wc9 mb9 mf9 ⊢
    go_upto_region 12 with fail
    have hdr : Keep [] w9 w9.drew := (Keep.refl _ _).drew
    have KR10 := KR9.trans (hdr.mono (fun x hx => by simp at hx))
    have SA10 := SA9.keep hdr (by simp)
    have wc10 := WCells.keep wc9 hdr (by simp)
    have mb10 := bx3 mb9 hdr (by simp)
    have mf10 := frk mf9 (cell_lt mb9.1) hdr (by simp)
    refine wp_region_held_drew (S := fun w' => w'.cell? ⟨W, 0, none⟩ = some (.pointer (some ⟨S, 0, none⟩)) ∧ w'.cell? ⟨M, 0, none⟩ = some (.string t) ∧ w'.cell? ⟨M, 1, none⟩ = some (.bool false) ∧ w'.cell? ⟨M, 2, none⟩ = some (.int .i64 (1 + (z : Int)))) (by kernel_rfl) ⟨wc10.1, mb10.1, mb10.2.1, mb10.2.2⟩ (fun hHeld => ?_)
    unfold WCells at wc10
    clear KR9 SA9 wc9 mb9 mf9
    clear hdr
    generalize w9.drew = w10 at KR10 SA10 wc10 mb10 mf10 hHeld ⊢
    refine held_take 0 (v := ?vv185) (by kernel_rfl) rfl (by rfl) (by kernel_rfl) (by kernel_rfl) (fun _ _ _ h => h) ?hyy185 (by assumption) ?rest185
    case hyy185 => (intro w hSw; (try dsimp only at hSw); go_simp; (try with_reducible rfl))
    (try go_frame)
    refine held_take 1 (v := ?vv186) (by kernel_rfl) rfl (by rfl) (by kernel_rfl) (by kernel_rfl) (fun _ _ _ h => h) ?hyy186 (by assumption) ?rest186
    case hyy186 => (intro w hSw; (try dsimp only at hSw); go_simp; (try with_reducible rfl))
    (try go_frame)
    refine held_take 2 (v := ?vv187) (by kernel_rfl) rfl (by rfl) (by kernel_rfl) (by kernel_rfl) (fun _ _ _ h => h) ?hyy187 (by assumption) ?rest187
    case hyy187 => (intro w hSw; (try dsimp only at hSw); go_simp; (try with_reducible rfl))
    (try go_frame)
    refine held_take 3 (v := ?vv188) (by kernel_rfl) rfl (by rfl) (by kernel_rfl) (by kernel_rfl) (fun _ _ _ h => h) ?hyy188 (by assumption) ?rest188
    case hyy188 => (intro w hSw; (try dsimp only at hSw); go_simp; (try with_reducible rfl))
    (try go_frame)
    refine held_take 4 (v := ?vv189) (by kernel_rfl) rfl (by rfl) (by kernel_rfl) (by kernel_rfl) (fun _ _ _ h => h) ?hyy189 (by assumption) ?rest189
    case hyy189 => (intro w hSw; (try dsimp only at hSw); go_simp; (try with_reducible rfl))
    (try go_frame)
    refine held_take 6 (v := ?vv190) (by kernel_rfl) rfl (by rfl) (by kernel_rfl) (by kernel_rfl) (fun _ _ _ h => h) ?hyy190 (by assumption) ?rest190
    case hyy190 => (intro w hSw; (try dsimp only at hSw); go_simp; (try with_reducible rfl))
    (try go_frame)
    refine held_pair 5 7 (by kernel_rfl) rfl rfl (by rfl) (by rfl) (fun K' hK => ?_) (fun K' hK => ?_)
    ·go_simp
     (try dsimp only)
     refine hK.out _ _ ⟨wc10.1, mb10.1, mb10.2.1, mb10.2.2⟩ (fun hHeld' => ?_)
     clear hK K' hHeld
     have hHeld := hHeld'
     clear hHeld'
     (try go_frame)
     refine held_one 7 (by kernel_rfl) rfl (by rfl) (fun K' hK => ?_)
     go_simp
     have hka : Keep [] w10 (w10.alloc (.cells #[(.string t), (.bool false), (.int .i64 (1 + (z : Int)))] 90)) := (Keep.refl _ _).alloc _
     have KR11 := KR10.trans (hka.mono (fun x hx => by simp at hx))
     have SA11 := SA10.keep hka (by simp)
     have wc11 := WCells.keep wc10 hka (by simp)
     have mb11 := bx3 mb10 hka (by simp)
     have mf11 := frk mf10 (cell_lt mb10.1) hka (by simp)
     (try dsimp only)
     refine hK.out _ _ ⟨wc11.1, mb11.1, mb11.2.1, mb11.2.2⟩ (fun hHeld' => ?_)
     clear hK K' hHeld
     have hHeld := hHeld'
     clear hHeld'
     (try go_frame)
     have PG11 := Lib.hid (PGR.out.call KR11 SA11)
     have OM := Lib.hid PG11.out.om
     have hsz : A.heap.size ≤ w10.heap.size := by have := PG11.out.lS; have := (SrcAt.lt SA10); omega
     clear KR10 SA10 mb10 mf10
     clear hka
     clear wc10
     unfold WCells at wc11
     refine held_one 8 (by kernel_rfl) rfl (by rfl) (fun K' hK => ?_)
     refine wp_append_fresh _ _ _ 57 rfl A.heap.size 90 i2 _ 3 32 Tryd.underlying57 hi2 hm0 hm1 hm2 rfl (by decide) vm ms.length (ms.flatMap mCells) rfl OM.out ⟨w10.heap.size, 0, none⟩ 1 1 (mCells ⟨t, false, 1 + (z : Int)⟩) rfl rfl (new_cells _ _ _) (by simp [mCells, Value.oneCell']) (by rw [← HK.out]; unfold maxLen; omega) (by rw [← HK.out]; omega) (by simp; omega) ?_
     intro v' w12 hown hgr hfr
     obtain ⟨va, vc, rfl⟩ : ∃ va vc, v' = .slice va (ms.length + 1) vc := owns_slice hown
     have hgk := keep_of_grown hgr
     have hMv : M ∉ ownB vm := fun hm => by have := owns_lt_size PGR.out.om (ownB_mem.1 hm); have := HMr.out; omega
     have PG12 := Lib.hid (PG11.out.pushM (m := ⟨t, false, 1 + (z : Int)⟩) hgr (by simpa using hfr) hown)
     have wc12 := WCells.keep wc11 hgk PG11.out.dm.2
     have mb12 := bx3 mb11 hgk hMv
     (try dsimp only)
     unfold WCells at wc12
     refine hK.out _ _ ⟨wc12.1, mb12.1, mb12.2.1, mb12.2.2⟩ (fun hHeld' => ?_)
     clear hK K' hHeld
     have hHeld := hHeld'
     clear hHeld'
     (try go_frame)
     clear KR11 SA11 wc11 mb11 mf11 hown hgr hfr hgk
     have fz12 := PG12.out.free
     have hWl := PG12.out.hW
     refine held_take 9 (v := ?vv191) (by kernel_rfl) rfl (by rfl) (by kernel_rfl) (by kernel_rfl) (fun _ _ _ h => h) ?hyy191 (by assumption) ?rest191
     case hyy191 => (intro w hSw; (try dsimp only at hSw); go_simp; (try with_reducible rfl))
     (try go_frame)
     refine held_take 10 (v := ?vv192) (by kernel_rfl) rfl (by rfl) (by kernel_rfl) (by kernel_rfl) (fun _ _ _ h => h) ?hyy192 (by assumption) ?rest192
     case hyy192 => (intro w hSw; (try dsimp only at hSw); go_simp; (try with_reducible rfl))
     (try go_frame)
     refine held_take 11 (v := ?vv193) (by kernel_rfl) rfl (by rfl) (by kernel_rfl) (by kernel_rfl) (fun _ _ _ h => h) ?hyy193 (by assumption) ?rest193
     case hyy193 => (intro w hSw; (try dsimp only at hSw); go_simp; (try with_reducible rfl))
     (try go_frame)
     refine held_one 12 (by kernel_rfl) rfl (by rfl) (fun K' hK => ?_)
     go_simp
     have PG13 := Lib.hid (PG12.out.store 2 (.slice va (ms.length + 1) vc))
     have wc13 : WCells W S 24 ar (.slice none 0 0) (.slice va (ms.length + 1) vc) (.slice none 0 0) (w12.setCell ⟨W, 2, none⟩ (.slice va (ms.length + 1) vc)) := by unfold WCells; exact ⟨by go_simp, by go_simp, by go_simp, by go_simp, by go_simp, by go_simp⟩
     have hMW : M ∉ [W] := by have := HM.out; simp; omega
     have mb13 := bx3 mb12 ((Keep.refl [W] w12).setCell (p := ⟨W, 2, none⟩) (.inl (List.mem_singleton.2 rfl)) (.slice va (ms.length + 1) vc)) hMW
     (try dsimp only)
     refine hK.out _ _ ⟨wc13.1, mb13.1, mb13.2.1, mb13.2.2⟩ (fun hHeld' => ?_)
     clear hK K' hHeld hHeld'
     (try go_frame)
     refine wpAnyH_done (by kernel_rfl) ?_ _
     have hwk : IntKind.i64.wrap ((k : Int) + 1) = ((k + 1 : Nat) : Int) := IntWalk.i64_in _ (by omega)
     go_wp2_with fail
     go_roundw
     case rel => exact ⟨ms ++ [⟨t, false, 1 + (z : Int)⟩], _, by rw [List.length_append, ← HK.out]; go_num, by rw [List.length_append, ← HK.out]; simp; omega, mm_snoc HMS.out (⟨by rw [HT.out, HB1.out, HK.out], .inl ⟨rfl, by dsimp only; omega, by dsimp only; omega⟩⟩), PG13.out, wc13⟩
     case measure => simp [intOf]; omega
    ·go_simp
     have hka : Keep [] w10 (w10.alloc (.cells #[(.string t), (.bool false), (.int .i64 (1 + (z : Int)))] 90)) := (Keep.refl _ _).alloc _
     have KR11 := KR10.trans (hka.mono (fun x hx => by simp at hx))
     have SA11 := SA10.keep hka (by simp)
     have wc11 := WCells.keep wc10 hka (by simp)
     have mb11 := bx3 mb10 hka (by simp)
     have mf11 := frk mf10 (cell_lt mb10.1) hka (by simp)
     (try dsimp only)
     refine hK.out _ _ ⟨wc11.1, mb11.1, mb11.2.1, mb11.2.2⟩ (fun hHeld' => ?_)
     clear hK K' hHeld
     have hHeld := hHeld'
     clear hHeld'
     (try go_frame)
     have PG11 := Lib.hid (PGR.out.call KR11 SA11)
     have OM := Lib.hid PG11.out.om
     have hsz : A.heap.size ≤ w10.heap.size := by have := PG11.out.lS; have := (SrcAt.lt SA10); omega
     clear KR10 SA10 mb10 mf10
     clear hka
     clear wc10
     unfold WCells at wc11
     refine held_one 5 (by kernel_rfl) rfl (by rfl) (fun K' hK => ?_)
     go_simp
     (try dsimp only)
     refine hK.out _ _ ⟨wc11.1, mb11.1, mb11.2.1, mb11.2.2⟩ (fun hHeld' => ?_)
     clear hK K' hHeld
     have hHeld := hHeld'
     clear hHeld'
     (try go_frame)
     refine held_one 8 (by kernel_rfl) rfl (by rfl) (fun K' hK => ?_)
     refine wp_append_fresh _ _ _ 57 rfl A.heap.size 90 i2 _ 3 32 Tryd.underlying57 hi2 hm0 hm1 hm2 rfl (by decide) vm ms.length (ms.flatMap mCells) rfl OM.out ⟨w10.heap.size, 0, none⟩ 1 1 (mCells ⟨t, false, 1 + (z : Int)⟩) rfl rfl (new_cells _ _ _) (by simp [mCells, Value.oneCell']) (by rw [← HK.out]; unfold maxLen; omega) (by rw [← HK.out]; omega) (by simp; omega) ?_
     intro v' w12 hown hgr hfr
     obtain ⟨va, vc, rfl⟩ : ∃ va vc, v' = .slice va (ms.length + 1) vc := owns_slice hown
     have hgk := keep_of_grown hgr
     have hMv : M ∉ ownB vm := fun hm => by have := owns_lt_size PGR.out.om (ownB_mem.1 hm); have := HMr.out; omega
     have PG12 := Lib.hid (PG11.out.pushM (m := ⟨t, false, 1 + (z : Int)⟩) hgr (by simpa using hfr) hown)
     have wc12 := WCells.keep wc11 hgk PG11.out.dm.2
     have mb12 := bx3 mb11 hgk hMv
     (try dsimp only)
     unfold WCells at wc12
     refine hK.out _ _ ⟨wc12.1, mb12.1, mb12.2.1, mb12.2.2⟩ (fun hHeld' => ?_)
     clear hK K' hHeld
     have hHeld := hHeld'
     clear hHeld'
     (try go_frame)
     clear KR11 SA11 wc11 mb11 mf11 hown hgr hfr hgk
     have fz12 := PG12.out.free
     have hWl := PG12.out.hW
     refine held_take 9 (v := ?vv194) (by kernel_rfl) rfl (by rfl) (by kernel_rfl) (by kernel_rfl) (fun _ _ _ h => h) ?hyy194 (by assumption) ?rest194
     case hyy194 => (intro w hSw; (try dsimp only at hSw); go_simp; (try with_reducible rfl))
     (try go_frame)
     refine held_take 10 (v := ?vv195) (by kernel_rfl) rfl (by rfl) (by kernel_rfl) (by kernel_rfl) (fun _ _ _ h => h) ?hyy195 (by assumption) ?rest195
     case hyy195 => (intro w hSw; (try dsimp only at hSw); go_simp; (try with_reducible rfl))
     (try go_frame)
     refine held_take 11 (v := ?vv196) (by kernel_rfl) rfl (by rfl) (by kernel_rfl) (by kernel_rfl) (fun _ _ _ h => h) ?hyy196 (by assumption) ?rest196
     case hyy196 => (intro w hSw; (try dsimp only at hSw); go_simp; (try with_reducible rfl))
     (try go_frame)
     refine held_one 12 (by kernel_rfl) rfl (by rfl) (fun K' hK => ?_)
     go_simp
     have PG13 := Lib.hid (PG12.out.store 2 (.slice va (ms.length + 1) vc))
     have wc13 : WCells W S 24 ar (.slice none 0 0) (.slice va (ms.length + 1) vc) (.slice none 0 0) (w12.setCell ⟨W, 2, none⟩ (.slice va (ms.length + 1) vc)) := by unfold WCells; exact ⟨by go_simp, by go_simp, by go_simp, by go_simp, by go_simp, by go_simp⟩
     have hMW : M ∉ [W] := by have := HM.out; simp; omega
     have mb13 := bx3 mb12 ((Keep.refl [W] w12).setCell (p := ⟨W, 2, none⟩) (.inl (List.mem_singleton.2 rfl)) (.slice va (ms.length + 1) vc)) hMW
     (try dsimp only)
     refine hK.out _ _ ⟨wc13.1, mb13.1, mb13.2.1, mb13.2.2⟩ (fun hHeld' => ?_)
     clear hK K' hHeld hHeld'
     (try go_frame)
     refine wpAnyH_done (by kernel_rfl) ?_ _
     have hwk : IntKind.i64.wrap ((k : Int) + 1) = ((k + 1 : Nat) : Int) := IntWalk.i64_in _ (by omega)
     go_wp2_with fail
     go_roundw
     case rel => exact ⟨ms ++ [⟨t, false, 1 + (z : Int)⟩], _, by rw [List.length_append, ← HK.out]; go_num, by rw [List.length_append, ← HK.out]; simp; omega, mm_snoc HMS.out (⟨by rw [HT.out, HB1.out, HK.out], .inl ⟨rfl, by dsimp only; omega, by dsimp only; omega⟩⟩), PG13.out, wc13⟩
     case measure => simp [intOf]; omega
   ·have hb1 : (d == 1) = false := by simpa using hd1
    have hb2 : (d == 2) = false := by simpa using hd2
    go_upto_region 12 with fail
    have hdr : Keep [] w7 w7.drew := (Keep.refl _ _).drew
    have KR8 := KR7.trans (hdr.mono (fun x hx => by simp at hx))
    have SA8 := SA7.keep hdr (by simp)
    have wc8 := WCells.keep wc7 hdr (by simp)
    have mb8 := bx3 mb7 hdr (by simp)
    have mf8 := frk mf7 (cell_lt mb7.1) hdr (by simp)
    refine wp_region_held_drew (S := fun w' => w'.cell? ⟨W, 0, none⟩ = some (.pointer (some ⟨S, 0, none⟩)) ∧ w'.cell? ⟨M, 0, none⟩ = some (.string t) ∧ w'.cell? ⟨M, 1, none⟩ = some (.bool false) ∧ w'.cell? ⟨M, 2, none⟩ = some (.int .i64 0)) (by kernel_rfl) ⟨wc8.1, mb8.1, mb8.2.1, mb8.2.2⟩ (fun hHeld => ?_)
    unfold WCells at wc8
    clear KR7 SA7 wc7 mb7 mf7
    clear hdr
    generalize w7.drew = w8 at KR8 SA8 wc8 mb8 mf8 hHeld ⊢
    refine held_take 0 (v := ?vv197) (by kernel_rfl) rfl (by rfl) (by kernel_rfl) (by kernel_rfl) (fun _ _ _ h => h) ?hyy197 (by assumption) ?rest197
    case hyy197 => (intro w hSw; (try dsimp only at hSw); go_simp; (try with_reducible rfl))
    (try go_frame)
    refine held_take 1 (v := ?vv198) (by kernel_rfl) rfl (by rfl) (by kernel_rfl) (by kernel_rfl) (fun _ _ _ h => h) ?hyy198 (by assumption) ?rest198
    case hyy198 => (intro w hSw; (try dsimp only at hSw); go_simp; (try with_reducible rfl))
    (try go_frame)
    refine held_take 2 (v := ?vv199) (by kernel_rfl) rfl (by rfl) (by kernel_rfl) (by kernel_rfl) (fun _ _ _ h => h) ?hyy199 (by assumption) ?rest199
    case hyy199 => (intro w hSw; (try dsimp only at hSw); go_simp; (try with_reducible rfl))
    (try go_frame)
    refine held_take 3 (v := ?vv200) (by kernel_rfl) rfl (by rfl) (by kernel_rfl) (by kernel_rfl) (fun _ _ _ h => h) ?hyy200 (by assumption) ?rest200
    case hyy200 => (intro w hSw; (try dsimp only at hSw); go_simp; (try with_reducible rfl))
    (try go_frame)
    refine held_take 4 (v := ?vv201) (by kernel_rfl) rfl (by rfl) (by kernel_rfl) (by kernel_rfl) (fun _ _ _ h => h) ?hyy201 (by assumption) ?rest201
    case hyy201 => (intro w hSw; (try dsimp only at hSw); go_simp; (try with_reducible rfl))
    (try go_frame)
    refine held_take 6 (v := ?vv202) (by kernel_rfl) rfl (by rfl) (by kernel_rfl) (by kernel_rfl) (fun _ _ _ h => h) ?hyy202 (by assumption) ?rest202
    case hyy202 => (intro w hSw; (try dsimp only at hSw); go_simp; (try with_reducible rfl))
    (try go_frame)
    refine held_pair 5 7 (by kernel_rfl) rfl rfl (by rfl) (by rfl) (fun K' hK => ?_) (fun K' hK => ?_)
    ·go_simp
     (try dsimp only)
     refine hK.out _ _ ⟨wc8.1, mb8.1, mb8.2.1, mb8.2.2⟩ (fun hHeld' => ?_)
     clear hK K' hHeld
     have hHeld := hHeld'
     clear hHeld'
     (try go_frame)
     refine held_one 7 (by kernel_rfl) rfl (by rfl) (fun K' hK => ?_)
     go_simp
     have hka : Keep [] w8 (w8.alloc (.cells #[(.string t), (.bool false), (.int .i64 0)] 90)) := (Keep.refl _ _).alloc _
     have KR9 := KR8.trans (hka.mono (fun x hx => by simp at hx))
     have SA9 := SA8.keep hka (by simp)
     have wc9 := WCells.keep wc8 hka (by simp)
     have mb9 := bx3 mb8 hka (by simp)
     have mf9 := frk mf8 (cell_lt mb8.1) hka (by simp)
     (try dsimp only)
     refine hK.out _ _ ⟨wc9.1, mb9.1, mb9.2.1, mb9.2.2⟩ (fun hHeld' => ?_)
     clear hK K' hHeld
     have hHeld := hHeld'
     clear hHeld'
     (try go_frame)
     have PG9 := Lib.hid (PGR.out.call KR9 SA9)
     have OM := Lib.hid PG9.out.om
     have hsz : A.heap.size ≤ w8.heap.size := by have := PG9.out.lS; have := (SrcAt.lt SA8); omega
     clear KR8 SA8 mb8 mf8
     clear hka
     clear wc8
     unfold WCells at wc9
     refine held_one 8 (by kernel_rfl) rfl (by rfl) (fun K' hK => ?_)
     refine wp_append_fresh _ _ _ 57 rfl A.heap.size 90 i2 _ 3 32 Tryd.underlying57 hi2 hm0 hm1 hm2 rfl (by decide) vm ms.length (ms.flatMap mCells) rfl OM.out ⟨w8.heap.size, 0, none⟩ 1 1 (mCells ⟨t, false, 0⟩) rfl rfl (new_cells _ _ _) (by simp [mCells, Value.oneCell']) (by rw [← HK.out]; unfold maxLen; omega) (by rw [← HK.out]; omega) (by simp; omega) ?_
     intro v' w10 hown hgr hfr
     obtain ⟨va, vc, rfl⟩ : ∃ va vc, v' = .slice va (ms.length + 1) vc := owns_slice hown
     have hgk := keep_of_grown hgr
     have hMv : M ∉ ownB vm := fun hm => by have := owns_lt_size PGR.out.om (ownB_mem.1 hm); have := HMr.out; omega
     have PG10 := Lib.hid (PG9.out.pushM (m := ⟨t, false, 0⟩) hgr (by simpa using hfr) hown)
     have wc10 := WCells.keep wc9 hgk PG9.out.dm.2
     have mb10 := bx3 mb9 hgk hMv
     (try dsimp only)
     unfold WCells at wc10
     refine hK.out _ _ ⟨wc10.1, mb10.1, mb10.2.1, mb10.2.2⟩ (fun hHeld' => ?_)
     clear hK K' hHeld
     have hHeld := hHeld'
     clear hHeld'
     (try go_frame)
     clear KR9 SA9 wc9 mb9 mf9 hown hgr hfr hgk
     have fz10 := PG10.out.free
     have hWl := PG10.out.hW
     refine held_take 9 (v := ?vv203) (by kernel_rfl) rfl (by rfl) (by kernel_rfl) (by kernel_rfl) (fun _ _ _ h => h) ?hyy203 (by assumption) ?rest203
     case hyy203 => (intro w hSw; (try dsimp only at hSw); go_simp; (try with_reducible rfl))
     (try go_frame)
     refine held_take 10 (v := ?vv204) (by kernel_rfl) rfl (by rfl) (by kernel_rfl) (by kernel_rfl) (fun _ _ _ h => h) ?hyy204 (by assumption) ?rest204
     case hyy204 => (intro w hSw; (try dsimp only at hSw); go_simp; (try with_reducible rfl))
     (try go_frame)
     refine held_take 11 (v := ?vv205) (by kernel_rfl) rfl (by rfl) (by kernel_rfl) (by kernel_rfl) (fun _ _ _ h => h) ?hyy205 (by assumption) ?rest205
     case hyy205 => (intro w hSw; (try dsimp only at hSw); go_simp; (try with_reducible rfl))
     (try go_frame)
     refine held_one 12 (by kernel_rfl) rfl (by rfl) (fun K' hK => ?_)
     go_simp
     have PG11 := Lib.hid (PG10.out.store 2 (.slice va (ms.length + 1) vc))
     have wc11 : WCells W S 24 ar (.slice none 0 0) (.slice va (ms.length + 1) vc) (.slice none 0 0) (w10.setCell ⟨W, 2, none⟩ (.slice va (ms.length + 1) vc)) := by unfold WCells; exact ⟨by go_simp, by go_simp, by go_simp, by go_simp, by go_simp, by go_simp⟩
     have hMW : M ∉ [W] := by have := HM.out; simp; omega
     have mb11 := bx3 mb10 ((Keep.refl [W] w10).setCell (p := ⟨W, 2, none⟩) (.inl (List.mem_singleton.2 rfl)) (.slice va (ms.length + 1) vc)) hMW
     (try dsimp only)
     refine hK.out _ _ ⟨wc11.1, mb11.1, mb11.2.1, mb11.2.2⟩ (fun hHeld' => ?_)
     clear hK K' hHeld hHeld'
     (try go_frame)
     refine wpAnyH_done (by kernel_rfl) ?_ _
     have hwk : IntKind.i64.wrap ((k : Int) + 1) = ((k + 1 : Nat) : Int) := IntWalk.i64_in _ (by omega)
     go_wp2_with fail
     go_roundw
     case rel => exact ⟨ms ++ [⟨t, false, 0⟩], _, by rw [List.length_append, ← HK.out]; go_num, by rw [List.length_append, ← HK.out]; simp; omega, mm_snoc HMS.out (⟨by rw [HT.out, HB1.out, HK.out], .inl ⟨rfl, by dsimp only; omega, by dsimp only; omega⟩⟩), PG11.out, wc11⟩
     case measure => simp [intOf]; omega
    ·go_simp
     have hka : Keep [] w8 (w8.alloc (.cells #[(.string t), (.bool false), (.int .i64 0)] 90)) := (Keep.refl _ _).alloc _
     have KR9 := KR8.trans (hka.mono (fun x hx => by simp at hx))
     have SA9 := SA8.keep hka (by simp)
     have wc9 := WCells.keep wc8 hka (by simp)
     have mb9 := bx3 mb8 hka (by simp)
     have mf9 := frk mf8 (cell_lt mb8.1) hka (by simp)
     (try dsimp only)
     refine hK.out _ _ ⟨wc9.1, mb9.1, mb9.2.1, mb9.2.2⟩ (fun hHeld' => ?_)
     clear hK K' hHeld
     have hHeld := hHeld'
     clear hHeld'
     (try go_frame)
     have PG9 := Lib.hid (PGR.out.call KR9 SA9)
     have OM := Lib.hid PG9.out.om
     have hsz : A.heap.size ≤ w8.heap.size := by have := PG9.out.lS; have := (SrcAt.lt SA8); omega
     clear KR8 SA8 mb8 mf8
     clear hka
     clear wc8
     unfold WCells at wc9
     refine held_one 5 (by kernel_rfl) rfl (by rfl) (fun K' hK => ?_)
     go_simp
     (try dsimp only)
     refine hK.out _ _ ⟨wc9.1, mb9.1, mb9.2.1, mb9.2.2⟩ (fun hHeld' => ?_)
     clear hK K' hHeld
     have hHeld := hHeld'
     clear hHeld'
     (try go_frame)
     refine held_one 8 (by kernel_rfl) rfl (by rfl) (fun K' hK => ?_)
     refine wp_append_fresh _ _ _ 57 rfl A.heap.size 90 i2 _ 3 32 Tryd.underlying57 hi2 hm0 hm1 hm2 rfl (by decide) vm ms.length (ms.flatMap mCells) rfl OM.out ⟨w8.heap.size, 0, none⟩ 1 1 (mCells ⟨t, false, 0⟩) rfl rfl (new_cells _ _ _) (by simp [mCells, Value.oneCell']) (by rw [← HK.out]; unfold maxLen; omega) (by rw [← HK.out]; omega) (by simp; omega) ?_
     intro v' w10 hown hgr hfr
     obtain ⟨va, vc, rfl⟩ : ∃ va vc, v' = .slice va (ms.length + 1) vc := owns_slice hown
     have hgk := keep_of_grown hgr
     have hMv : M ∉ ownB vm := fun hm => by have := owns_lt_size PGR.out.om (ownB_mem.1 hm); have := HMr.out; omega
     have PG10 := Lib.hid (PG9.out.pushM (m := ⟨t, false, 0⟩) hgr (by simpa using hfr) hown)
     have wc10 := WCells.keep wc9 hgk PG9.out.dm.2
     have mb10 := bx3 mb9 hgk hMv
     (try dsimp only)
     unfold WCells at wc10
     refine hK.out _ _ ⟨wc10.1, mb10.1, mb10.2.1, mb10.2.2⟩ (fun hHeld' => ?_)
     clear hK K' hHeld
     have hHeld := hHeld'
     clear hHeld'
     (try go_frame)
     clear KR9 SA9 wc9 mb9 mf9 hown hgr hfr hgk
     have fz10 := PG10.out.free
     have hWl := PG10.out.hW
     refine held_take 9 (v := ?vv206) (by kernel_rfl) rfl (by rfl) (by kernel_rfl) (by kernel_rfl) (fun _ _ _ h => h) ?hyy206 (by assumption) ?rest206
     case hyy206 => (intro w hSw; (try dsimp only at hSw); go_simp; (try with_reducible rfl))
     (try go_frame)
     refine held_take 10 (v := ?vv207) (by kernel_rfl) rfl (by rfl) (by kernel_rfl) (by kernel_rfl) (fun _ _ _ h => h) ?hyy207 (by assumption) ?rest207
     case hyy207 => (intro w hSw; (try dsimp only at hSw); go_simp; (try with_reducible rfl))
     (try go_frame)
     refine held_take 11 (v := ?vv208) (by kernel_rfl) rfl (by rfl) (by kernel_rfl) (by kernel_rfl) (fun _ _ _ h => h) ?hyy208 (by assumption) ?rest208
     case hyy208 => (intro w hSw; (try dsimp only at hSw); go_simp; (try with_reducible rfl))
     (try go_frame)
     refine held_one 12 (by kernel_rfl) rfl (by rfl) (fun K' hK => ?_)
     go_simp
     have PG11 := Lib.hid (PG10.out.store 2 (.slice va (ms.length + 1) vc))
     have wc11 : WCells W S 24 ar (.slice none 0 0) (.slice va (ms.length + 1) vc) (.slice none 0 0) (w10.setCell ⟨W, 2, none⟩ (.slice va (ms.length + 1) vc)) := by unfold WCells; exact ⟨by go_simp, by go_simp, by go_simp, by go_simp, by go_simp, by go_simp⟩
     have hMW : M ∉ [W] := by have := HM.out; simp; omega
     have mb11 := bx3 mb10 ((Keep.refl [W] w10).setCell (p := ⟨W, 2, none⟩) (.inl (List.mem_singleton.2 rfl)) (.slice va (ms.length + 1) vc)) hMW
     (try dsimp only)
     refine hK.out _ _ ⟨wc11.1, mb11.1, mb11.2.1, mb11.2.2⟩ (fun hHeld' => ?_)
     clear hK K' hHeld hHeld'
     (try go_frame)
     refine wpAnyH_done (by kernel_rfl) ?_ _
     have hwk : IntKind.i64.wrap ((k : Int) + 1) = ((k + 1 : Nat) : Int) := IntWalk.i64_in _ (by omega)
     go_wp2_with fail
     go_roundw
     case rel => exact ⟨ms ++ [⟨t, false, 0⟩], _, by rw [List.length_append, ← HK.out]; go_num, by rw [List.length_append, ← HK.out]; simp; omega, mm_snoc HMS.out (⟨by rw [HT.out, HB1.out, HK.out], .inl ⟨rfl, by dsimp only; omega, by dsimp only; omega⟩⟩), PG11.out, wc11⟩
     case measure => simp [intOf]; omega
  ·have hgi : ¬ (k : Int) < ((1 + n0 : Nat) : Int) := by omega
   have HML : Hid (1 ≤ ms.length ∧ ms.length ≤ 4) := Lib.hid (by have := HK.out; omega)
   clear hgo hmn HK
   go_wp2_with fail
   refine (next_at 3 l a c2 S wr PGR.out.src (HRS.out _ PGR.out.keep) (by omega) (by omega) (by omega)).mono ?_
   intro e w20 hq
   obtain ⟨r, rfl, r0, r1, hs20, hk20⟩ := NextAt.out hq
   have PG20 := Lib.hid (PGR.out.call hk20 hs20)
   have WC20 := Lib.hid (WCells.keep WCR.out hk20 (by have := SL.out; simp; omega))
   obtain ⟨n1, rfl⟩ : ∃ n1 : Nat, r = n1 := ⟨r.toNat, by omega⟩
   clear hq hs20 hk20 wcr PGR WCR
   go_wp2_with fail
   go_loopw [7, 8] (fun v u w => lp2 l a c2 A S W R ar ms vm n1 v u w) (fun _ u _ => n1 - (intOf u).toNat)
   case atStart => exact ⟨[], (.slice none 0 0), rfl, by simp, fun j h => by simp at h, PG20.out, WC20.out⟩
   case round =>
    obtain ⟨gs, vg, rfl, hgn, HMG, pgr, wcr⟩ := hrel
    have PGR := Lib.hid pgr
    have WCR := Lib.hid wcr
    have HGS := Lib.hid HMG
    obtain ⟨k, hk⟩ : ∃ k, k = gs.length := ⟨_, rfl⟩
    have HK := Lib.hid hk
    rw [← hk] at hgn ⊢
    clear pgr HMG hk PG20 WC20
    unfold WCells at wcr
    by_cases hgo : k < n1
    ·have hgi : (k : Int) < (n1 : Int) := by omega
     obtain ⟨b1, hb1⟩ : ∃ b1, b1 = UInt8.ofNat (48 + k) := ⟨_, rfl⟩
     have hwb : 48 + (k : Int) = (b1.toNat : Int) := by rw [hb1]; exact dbyte k (by omega)
     have hbb : b1.toNat < 200 := by omega
     have HB1 := Lib.hid hb1
     obtain ⟨t, ht⟩ : ∃ t, t = bytes [b1] := ⟨_, rfl⟩
     have hts : t.size = 1 := by rw [ht]; rfl
     have HT := Lib.hid ht
     obtain ⟨nm, hnm⟩ : ∃ nm, nm = bytes [103, b1] := ⟨_, rfl⟩
     have hvn : (⟨#[103]⟩ : ByteArray) ++ t = nm := by rw [ht, hnm]; exact bytes_append [103] [b1]
     have HNM := Lib.hid hnm
     clear hb1 ht hnm
     go_upto_region 17 with fail
     go_cut [10] from 90 to 102 (fun g wx => ∃ (G : Nat) (z : Int), g = .pointer (some ⟨G, 0, none⟩) ∧ 0 ≤ z ∧ z < 5 ∧ Keep [S] wr wx ∧ SrcAt l a c2 S wx ∧ WCells W S 24 ar vg vm (.slice none 0 0) wx ∧ (wx.cell? ⟨G, 0, none⟩ = some (.string nm) ∧ wx.cell? ⟨G, 1, none⟩ = some (.int .i64 (z - 2))) ∧ (G ≠ S ∧ G ≠ W ∧ wr.heap.size ≤ G))
     case first =>
      have SA30 := PGR.out.src
      have wc30 : WCells W S 24 ar vg vm (.slice none 0 0) wr := WCR.out
      have HRT := Lib.hid (fun w (hk : Keep [S] wr w) (hs : SrcAt l a c2 S w) => HRS.out _ (PGR.out.call hk hs).keep)
      exact prog_r17 l a c2 A S W ar vg vm wr k b1 t nm SL HRT SA30 wc30 hll hwb hbb HT hts hvn _ _ _ _ _ _ _ _ _ _ _ _ _ _ _ _ _ _ _ _ _ _ _ _ _ _ _ _ _ _ _ _ _ _ _ _ _ _ _ _ _ _ _ _ _ _ _ _ _ _ _ _ _ _ _ _ _ _ _ _ _ _ _ _ _ _ _ _ _ _ _ _ _ _ _ _ _ _ _ _ _ _ _ _ _ _ _ _ _ _ _ _ _ _ _ _ _ _ _ _ _ _ _ _ _ _ _ _ _ _ _ _ _ _ _ _ _ _ _ _ _ _ _ _ _ _ _ _ _ _ _ _ _ _ _ _ _ _ _ _ _ _ _ _ _ _ _ _ _ _ _ _ _ _ _ _ _ _ _ _ _ _ _ _ _ _ _ _ _ _ _ _ _ _ _ _ _ _ _ _ _ _ _ _ _ _ _ _ _ _ _ _ _ _ _ _ _ _ _ _ _ _ _ _ _ _ _ _ _ _ _ _ _ _ _ _ _ _ _ _ _ _ _ _ _ _ _ _ _ _ _ _ _ _ _ _ _ _ _ _ _ _ _ _ _ _ _ _ _ _ _ _ _ _ _ _ _ _ _ _ _ _ _ _ (by assumption) (by assumption) _ (fun _ _ _ _ _ h => h)
     case rest =>
      obtain ⟨G, z, rfl, z0, z1, kr, sa, wcx, gbx, hGx⟩ := hcut
      have hG := Lib.hid hGx
      obtain ⟨w40, hw40⟩ : ∃ x, x = wc := ⟨_, rfl⟩
      subst hw40
      have PG40 := Lib.hid (PGR.out.call kr sa)
      have wc40 := wcx
      unfold WCells at wc40
      have gb40 := gbx
      have hz40 := kr.size
      clear kr sa wcx gbx hGx hwb hbb
      go_upto_region 18 with fail
      have hdr : Keep [] w40 w40.drew := (Keep.refl _ _).drew
      have PG41 := Lib.hid (PG40.out.new hdr)
      have hz41 := Nat.le_trans hz40 hdr.size
      have gb41 := bx2 gb40 hdr (by simp)
      have wc41 := WCells.keep wc40 hdr (by simp)
      unfold WCells at wc41
      refine wp_region_held_drew (S := fun w' => w'.cell? ⟨W, 0, none⟩ = some (.pointer (some ⟨S, 0, none⟩)) ∧ w'.cell? ⟨G, 0, none⟩ = some (.string nm) ∧ w'.cell? ⟨G, 1, none⟩ = some (.int .i64 (z - 2))) (by kernel_rfl) ⟨wc41.1, gb41.1, gb41.2⟩ (fun hHeld => ?_)
      clear wc40 gb40 hz40
      clear hdr
      generalize w40.drew = w41 at PG41 wc41 gb41 hz41 hHeld ⊢
      refine held_take 0 (v := ?vv132) (by kernel_rfl) rfl (by rfl) (by kernel_rfl) (by kernel_rfl) (fun _ _ _ h => h) ?hyy132 (by assumption) ?rest132
      case hyy132 => (intro w hSw; (try dsimp only at hSw); go_simp; (try with_reducible rfl))
      (try go_frame)
      refine held_take 1 (v := ?vv133) (by kernel_rfl) rfl (by rfl) (by kernel_rfl) (by kernel_rfl) (fun _ _ _ h => h) ?hyy133 (by assumption) ?rest133
      case hyy133 => (intro w hSw; (try dsimp only at hSw); go_simp; (try with_reducible rfl))
      (try go_frame)
      refine held_take 2 (v := ?vv134) (by kernel_rfl) rfl (by rfl) (by kernel_rfl) (by kernel_rfl) (fun _ _ _ h => h) ?hyy134 (by assumption) ?rest134
      case hyy134 => (intro w hSw; (try dsimp only at hSw); go_simp; (try with_reducible rfl))
      (try go_frame)
      refine held_take 3 (v := ?vv135) (by kernel_rfl) rfl (by rfl) (by kernel_rfl) (by kernel_rfl) (fun _ _ _ h => h) ?hyy135 (by assumption) ?rest135
      case hyy135 => (intro w hSw; (try dsimp only at hSw); go_simp; (try with_reducible rfl))
      (try go_frame)
      refine held_take 4 (v := ?vv136) (by kernel_rfl) rfl (by rfl) (by kernel_rfl) (by kernel_rfl) (fun _ _ _ h => h) ?hyy136 (by assumption) ?rest136
      case hyy136 => (intro w hSw; (try dsimp only at hSw); go_simp; (try with_reducible rfl))
      (try go_frame)
      refine held_take 6 (v := ?vv137) (by kernel_rfl) rfl (by rfl) (by kernel_rfl) (by kernel_rfl) (fun _ _ _ h => h) ?hyy137 (by assumption) ?rest137
      case hyy137 => (intro w hSw; (try dsimp only at hSw); go_simp; (try with_reducible rfl))
      (try go_frame)
      refine held_take 9 (v := ?vv138) (by kernel_rfl) rfl (by rfl) (by kernel_rfl) (by kernel_rfl) (fun _ _ _ h => h) ?hyy138 (by assumption) ?rest138
      case hyy138 => (intro w hSw; (try dsimp only at hSw); go_simp; (try with_reducible rfl))
      (try go_frame)
      refine held_take 10 (v := ?vv139) (by kernel_rfl) rfl (by rfl) (by kernel_rfl) (by kernel_rfl) (fun _ _ _ h => h) ?hyy139 (by assumption) ?rest139
      case hyy139 => (intro w hSw; (try dsimp only at hSw); go_simp; (try with_reducible rfl))
      (try go_frame)
      refine held_take 11 (v := ?vv140) (by kernel_rfl) rfl (by rfl) (by kernel_rfl) (by kernel_rfl) (fun _ _ _ h => h) ?hyy140 (by assumption) ?rest140
      case hyy140 => (intro w hSw; (try dsimp only at hSw); go_simp; (try with_reducible rfl))
      (try go_frame)
      refine held_three 5 7 12 (by kernel_rfl) rfl rfl rfl (by rfl) (by rfl) (by rfl) (fun K' hK => ?_) (fun K' hK => ?_) (fun K' hK => ?_)
      ·go_simp
       (try dsimp only)
       refine hK.out _ _ ⟨wc41.1, gb41.1, gb41.2⟩ (fun hHeld' => ?_)
       clear hK K' hHeld
       have hHeld := hHeld'
       clear hHeld'
       (try go_frame)
       refine held_pair 7 12 (by kernel_rfl) rfl rfl (by rfl) (by rfl) (fun K' hK => ?_) (fun K' hK => ?_)
       ·go_simp
        have ak : Keep [] w41 (w41.alloc (.cells #[.string nm, .int .i64 (z - 2)] 92)) := (Keep.refl _ _).alloc _
        have PG42 := Lib.hid (PG41.out.new ak)
        have hz42 := Nat.le_trans hz41 ak.size
        have gb42 := bx2 gb41 ak (by simp)
        have wc42 := WCells.keep wc41 ak (by simp)
        unfold WCells at wc42
        have nb42 : Ce2 (w41.alloc (.cells #[.string nm, .int .i64 (z - 2)] 92)) w41.heap.size (.string nm) (.int .i64 (z - 2)) := ⟨by go_simp, by go_simp⟩
        unfold Ce2 at nb42
        have hnb : Hid (wr.heap.size ≤ w41.heap.size) := Lib.hid hz41
        (try dsimp only)
        refine hK.out _ _ ⟨wc42.1, gb42.1, gb42.2⟩ (fun hHeld' => ?_)
        clear hK K' hHeld
        have hHeld := hHeld'
        clear hHeld'
        (try go_frame)
        clear wc41 gb41 hz41
        clear ak
        generalize w41.alloc (.cells #[.string nm, .int .i64 (z - 2)] 92) = w42 at PG42 wc42 gb42 hz42 nb42 hHeld ⊢
        refine held_pair 8 12 (by kernel_rfl) rfl rfl (by rfl) (by rfl) (fun K' hK => ?_) (fun K' hK => ?_)
        ·have OW := Lib.hid PG42.out.og
         have hsz : A.heap.size ≤ w42.heap.size := by have := PG42.out.keep.size; omega
         refine wp_append_fresh _ _ _ 56 rfl A.heap.size 92 i3 _ 2 24 Tryd.underlying56 hi3 hg0 hg1 hg2 rfl (by decide) vg gs.length (gs.flatMap gCells) rfl OW.out ⟨w41.heap.size, 0, none⟩ 1 1 [.string nm, .int .i64 (z - 2)] rfl rfl (news2 nb42) (by simp [Value.oneCell']) (by rw [← HK.out]; unfold maxLen; omega) (by rw [← HK.out]; omega) hsz ?_
         intro v' w43 hown hgr hfr
         obtain ⟨va, vc, rfl⟩ : ∃ va vc, v' = .slice va (gs.length + 1) vc := owns_slice hown
         have hgk := keep_of_grown hgr
         have PG43 := Lib.hid (PG42.out.pushG (m := ⟨nm, z - 2⟩) hgr hfr hown)
         have hz43 := Nat.le_trans hz42 hgk.size
         have gb43 := bx2 gb42 hgk (fun hm => by have := owns_lt_size PGR.out.og (ownB_mem.1 hm); have := hG.out; omega)
         have wc43 := WCells.keep wc42 hgk (PG42.out.dg.2)
         unfold WCells at wc43
         (try dsimp only)
         refine hK.out _ _ ⟨wc43.1, gb43.1, gb43.2⟩ (fun hHeld' => ?_)
         clear hK K' hHeld
         have hHeld := hHeld'
         clear hHeld'
         (try go_frame)
         clear hown hgr hfr hgk hsz OW wc42 gb42 hz42 nb42
         refine held_one 12 (by kernel_rfl) rfl (by rfl) (fun K' hK => ?_)
         go_simp
         have ak : Keep [] w43 (w43.alloc (.cells #[.string nm] 9)) := (Keep.refl _ _).alloc _
         have PG44 := Lib.hid (PG43.out.new ak)
         have hz44 := Nat.le_trans hz43 ak.size
         have gb44 := bx2 gb43 ak (by simp)
         have wc44 := WCells.keep wc43 ak (by simp)
         unfold WCells at wc44
         have nv44 : (w43.alloc (.cells #[.string nm] 9)).cell? ⟨w43.heap.size, 0, none⟩ = some (.string nm) := by go_simp
         have hnv : Hid (wr.heap.size ≤ w43.heap.size) := Lib.hid hz43
         (try dsimp only)
         refine hK.out _ _ ⟨wc44.1, gb44.1, gb44.2⟩ (fun hHeld' => ?_)
         clear hK K' hHeld
         have hHeld := hHeld'
         clear hHeld'
         (try go_frame)
         clear wc43 gb43 hz43
         clear ak
         generalize w43.alloc (.cells #[.string nm] 9) = w44 at PG44 wc44 gb44 hz44 nv44 hHeld ⊢
         refine held_one 13 (by kernel_rfl) rfl (by rfl) (fun K' hK => ?_)
         have OW := Lib.hid PG44.out.ov
         have hsz : A.heap.size ≤ w44.heap.size := by have := PG44.out.keep.size; omega
         have hvl : Hid ((gs.map AGlobal.name).length = k) := Lib.hid (by rw [List.length_map]; exact HK.out.symm)
         refine wp_append_fresh _ _ _ 42 rfl A.heap.size 9 i0 _ 1 16 Tryd.underlying42 hi0 hs0 hs1 hs2 rfl (by decide) u7 (gs.map AGlobal.name).length ((gs.map AGlobal.name).map .string) rfl OW.out ⟨w43.heap.size, 0, none⟩ 1 1 [.string nm] rfl rfl (news1 nv44) (by simp [Value.oneCell']) (by rw [hvl.out]; unfold maxLen; omega) (by rw [hvl.out]; omega) hsz ?_
         intro u' w45 hown hgr hfr
         have hgk := keep_of_grown hgr
         have PG45 := Lib.hid (PG44.out.pushV (x := nm) hgr hfr hown)
         have hz45 := Nat.le_trans hz44 hgk.size
         have gb45 := bx2 gb44 hgk (fun hm => by have := owns_lt_size PGR.out.ov (ownB_mem.1 hm); have := hG.out; omega)
         have wc45 := WCells.keep wc44 hgk (PG44.out.dv.2)
         unfold WCells at wc45
         (try dsimp only)
         refine hK.out _ _ ⟨wc45.1, gb45.1, gb45.2⟩ (fun hHeld' => ?_)
         clear hK K' hHeld
         have hHeld := hHeld'
         clear hHeld'
         (try go_frame)
         clear hown hgr hfr hgk hsz OW wc44 gb44 hz44 nv44
         refine held_take 14 (v := ?vv141) (by kernel_rfl) rfl (by rfl) (by kernel_rfl) (by kernel_rfl) (fun _ _ _ h => h) ?hyy141 (by assumption) ?rest141
         case hyy141 => (intro w hSw; (try dsimp only at hSw); go_simp; (try with_reducible rfl))
         (try go_frame)
         refine held_take 15 (v := ?vv142) (by kernel_rfl) rfl (by rfl) (by kernel_rfl) (by kernel_rfl) (fun _ _ _ h => h) ?hyy142 (by assumption) ?rest142
         case hyy142 => (intro w hSw; (try dsimp only at hSw); go_simp; (try with_reducible rfl))
         (try go_frame)
         refine held_take 16 (v := ?vv143) (by kernel_rfl) rfl (by rfl) (by kernel_rfl) (by kernel_rfl) (fun _ _ _ h => h) ?hyy143 (by assumption) ?rest143
         case hyy143 => (intro w hSw; (try dsimp only at hSw); go_simp; (try with_reducible rfl))
         (try go_frame)
         have fz := PG45.out.free
         have hWl := PG45.out.hW
         refine held_one 17 (by kernel_rfl) rfl (by rfl) (fun K' hK => ?_)
         go_simp
         have hGW : G ∉ [W] := by have := hG.out; simp; omega
         have gb46 := bx2 gb45 ((Keep.refl [W] w45).setCell (p := ⟨W, 1, none⟩) (.inl (List.mem_singleton.2 rfl)) (.slice va (gs.length + 1) vc)) hGW
         have wc46 : WCells W S 24 ar (.slice va (gs.length + 1) vc) vm (.slice none 0 0) (w45.setCell ⟨W, 1, none⟩ (.slice va (gs.length + 1) vc)) := by unfold WCells; exact ⟨by go_simp, by go_simp, by go_simp, by go_simp, by go_simp, by go_simp⟩
         unfold WCells at wc46
         (try dsimp only)
         refine hK.out _ _ ⟨wc46.1, gb46.1, gb46.2⟩ (fun hHeld' => ?_)
         clear hK K' hHeld
         have hHeld := hHeld'
         clear hHeld'
         (try go_frame)
         refine held_take 18 (v := ?vv144) (by kernel_rfl) rfl (by rfl) (by kernel_rfl) (by kernel_rfl) (fun _ _ _ h => h) ?hyy144 (by assumption) ?rest144
         case hyy144 => (intro w hSw; (try dsimp only at hSw); go_simp; (try with_reducible rfl))
         (try go_frame)
         clear hHeld
         refine wpAnyH_done (by kernel_rfl) ?_ _
         have hwk : IntKind.i64.wrap ((k : Int) + 1) = ((k + 1 : Nat) : Int) := IntWalk.i64_in _ (by omega)
         go_wp2_with fail
         go_roundw
         case rel => exact ⟨gs ++ [⟨nm, z - 2⟩], _, by rw [List.length_append, ← HK.out]; go_num, by rw [List.length_append, ← HK.out]; simp; omega, mg_snoc HGS.out ⟨by rw [HNM.out, HB1.out, HK.out], by dsimp only; omega, by dsimp only; omega⟩, by rw [List.map_append]; exact PG45.out.store 1 _, by unfold WCells; exact wc46⟩
         case measure => simp [intOf]; omega
        ·go_simp
         have ak : Keep [] w42 (w42.alloc (.cells #[.string nm] 9)) := (Keep.refl _ _).alloc _
         have PG43 := Lib.hid (PG42.out.new ak)
         have hz43 := Nat.le_trans hz42 ak.size
         have gb43 := bx2 gb42 ak (by simp)
         have wc43 := WCells.keep wc42 ak (by simp)
         have nb43 := bx2 nb42 ak (by simp)
         unfold WCells at wc43
         have nv43 : (w42.alloc (.cells #[.string nm] 9)).cell? ⟨w42.heap.size, 0, none⟩ = some (.string nm) := by go_simp
         have hnv : Hid (wr.heap.size ≤ w42.heap.size) := Lib.hid hz42
         (try dsimp only)
         refine hK.out _ _ ⟨wc43.1, gb43.1, gb43.2⟩ (fun hHeld' => ?_)
         clear hK K' hHeld
         have hHeld := hHeld'
         clear hHeld'
         (try go_frame)
         clear wc42 gb42 hz42 nb42
         clear ak
         generalize w42.alloc (.cells #[.string nm] 9) = w43 at PG43 wc43 gb43 hz43 nb43 nv43 hHeld ⊢
         refine held_one 8 (by kernel_rfl) rfl (by rfl) (fun K' hK => ?_)
         have OW := Lib.hid PG43.out.og
         have hsz : A.heap.size ≤ w43.heap.size := by have := PG43.out.keep.size; omega
         refine wp_append_fresh _ _ _ 56 rfl A.heap.size 92 i3 _ 2 24 Tryd.underlying56 hi3 hg0 hg1 hg2 rfl (by decide) vg gs.length (gs.flatMap gCells) rfl OW.out ⟨w41.heap.size, 0, none⟩ 1 1 [.string nm, .int .i64 (z - 2)] rfl rfl (news2 nb43) (by simp [Value.oneCell']) (by rw [← HK.out]; unfold maxLen; omega) (by rw [← HK.out]; omega) hsz ?_
         intro v' w44 hown hgr hfr
         obtain ⟨va, vc, rfl⟩ : ∃ va vc, v' = .slice va (gs.length + 1) vc := owns_slice hown
         have hgk := keep_of_grown hgr
         have PG44 := Lib.hid (PG43.out.pushG (m := ⟨nm, z - 2⟩) hgr hfr hown)
         have hz44 := Nat.le_trans hz43 hgk.size
         have gb44 := bx2 gb43 hgk (fun hm => by have := owns_lt_size PGR.out.og (ownB_mem.1 hm); have := hG.out; omega)
         have wc44 := WCells.keep wc43 hgk (PG43.out.dg.2)
         have nv44 := bx1 nv43 hgk (fun hm => by have := owns_lt_size PGR.out.og (ownB_mem.1 hm); have := hnv.out; omega)
         unfold WCells at wc44
         (try dsimp only)
         refine hK.out _ _ ⟨wc44.1, gb44.1, gb44.2⟩ (fun hHeld' => ?_)
         clear hK K' hHeld
         have hHeld := hHeld'
         clear hHeld'
         (try go_frame)
         clear hown hgr hfr hgk hsz OW wc43 gb43 hz43 nb43 nv43
         refine held_one 13 (by kernel_rfl) rfl (by rfl) (fun K' hK => ?_)
         have OW := Lib.hid PG44.out.ov
         have hsz : A.heap.size ≤ w44.heap.size := by have := PG44.out.keep.size; omega
         have hvl : Hid ((gs.map AGlobal.name).length = k) := Lib.hid (by rw [List.length_map]; exact HK.out.symm)
         refine wp_append_fresh _ _ _ 42 rfl A.heap.size 9 i0 _ 1 16 Tryd.underlying42 hi0 hs0 hs1 hs2 rfl (by decide) u7 (gs.map AGlobal.name).length ((gs.map AGlobal.name).map .string) rfl OW.out ⟨w42.heap.size, 0, none⟩ 1 1 [.string nm] rfl rfl (news1 nv44) (by simp [Value.oneCell']) (by rw [hvl.out]; unfold maxLen; omega) (by rw [hvl.out]; omega) hsz ?_
         intro u' w45 hown hgr hfr
         have hgk := keep_of_grown hgr
         have PG45 := Lib.hid (PG44.out.pushV (x := nm) hgr hfr hown)
         have hz45 := Nat.le_trans hz44 hgk.size
         have gb45 := bx2 gb44 hgk (fun hm => by have := owns_lt_size PGR.out.ov (ownB_mem.1 hm); have := hG.out; omega)
         have wc45 := WCells.keep wc44 hgk (PG44.out.dv.2)
         unfold WCells at wc45
         (try dsimp only)
         refine hK.out _ _ ⟨wc45.1, gb45.1, gb45.2⟩ (fun hHeld' => ?_)
         clear hK K' hHeld
         have hHeld := hHeld'
         clear hHeld'
         (try go_frame)
         clear hown hgr hfr hgk hsz OW wc44 gb44 hz44 nv44
         refine held_take 14 (v := ?vv145) (by kernel_rfl) rfl (by rfl) (by kernel_rfl) (by kernel_rfl) (fun _ _ _ h => h) ?hyy145 (by assumption) ?rest145
         case hyy145 => (intro w hSw; (try dsimp only at hSw); go_simp; (try with_reducible rfl))
         (try go_frame)
         refine held_take 15 (v := ?vv146) (by kernel_rfl) rfl (by rfl) (by kernel_rfl) (by kernel_rfl) (fun _ _ _ h => h) ?hyy146 (by assumption) ?rest146
         case hyy146 => (intro w hSw; (try dsimp only at hSw); go_simp; (try with_reducible rfl))
         (try go_frame)
         refine held_take 16 (v := ?vv147) (by kernel_rfl) rfl (by rfl) (by kernel_rfl) (by kernel_rfl) (fun _ _ _ h => h) ?hyy147 (by assumption) ?rest147
         case hyy147 => (intro w hSw; (try dsimp only at hSw); go_simp; (try with_reducible rfl))
         (try go_frame)
         have fz := PG45.out.free
         have hWl := PG45.out.hW
         refine held_one 17 (by kernel_rfl) rfl (by rfl) (fun K' hK => ?_)
         go_simp
         have hGW : G ∉ [W] := by have := hG.out; simp; omega
         have gb46 := bx2 gb45 ((Keep.refl [W] w45).setCell (p := ⟨W, 1, none⟩) (.inl (List.mem_singleton.2 rfl)) (.slice va (gs.length + 1) vc)) hGW
         have wc46 : WCells W S 24 ar (.slice va (gs.length + 1) vc) vm (.slice none 0 0) (w45.setCell ⟨W, 1, none⟩ (.slice va (gs.length + 1) vc)) := by unfold WCells; exact ⟨by go_simp, by go_simp, by go_simp, by go_simp, by go_simp, by go_simp⟩
         unfold WCells at wc46
         (try dsimp only)
         refine hK.out _ _ ⟨wc46.1, gb46.1, gb46.2⟩ (fun hHeld' => ?_)
         clear hK K' hHeld
         have hHeld := hHeld'
         clear hHeld'
         (try go_frame)
         refine held_take 18 (v := ?vv148) (by kernel_rfl) rfl (by rfl) (by kernel_rfl) (by kernel_rfl) (fun _ _ _ h => h) ?hyy148 (by assumption) ?rest148
         case hyy148 => (intro w hSw; (try dsimp only at hSw); go_simp; (try with_reducible rfl))
         (try go_frame)
         clear hHeld
         refine wpAnyH_done (by kernel_rfl) ?_ _
         have hwk : IntKind.i64.wrap ((k : Int) + 1) = ((k + 1 : Nat) : Int) := IntWalk.i64_in _ (by omega)
         go_wp2_with fail
         go_roundw
         case rel => exact ⟨gs ++ [⟨nm, z - 2⟩], _, by rw [List.length_append, ← HK.out]; go_num, by rw [List.length_append, ← HK.out]; simp; omega, mg_snoc HGS.out ⟨by rw [HNM.out, HB1.out, HK.out], by dsimp only; omega, by dsimp only; omega⟩, by rw [List.map_append]; exact PG45.out.store 1 _, by unfold WCells; exact wc46⟩
         case measure => simp [intOf]; omega
       ·go_simp
        have ak : Keep [] w41 (w41.alloc (.cells #[.string nm] 9)) := (Keep.refl _ _).alloc _
        have PG42 := Lib.hid (PG41.out.new ak)
        have hz42 := Nat.le_trans hz41 ak.size
        have gb42 := bx2 gb41 ak (by simp)
        have wc42 := WCells.keep wc41 ak (by simp)
        unfold WCells at wc42
        have nv42 : (w41.alloc (.cells #[.string nm] 9)).cell? ⟨w41.heap.size, 0, none⟩ = some (.string nm) := by go_simp
        have hnv : Hid (wr.heap.size ≤ w41.heap.size) := Lib.hid hz41
        (try dsimp only)
        refine hK.out _ _ ⟨wc42.1, gb42.1, gb42.2⟩ (fun hHeld' => ?_)
        clear hK K' hHeld
        have hHeld := hHeld'
        clear hHeld'
        (try go_frame)
        clear wc41 gb41 hz41
        clear ak
        generalize w41.alloc (.cells #[.string nm] 9) = w42 at PG42 wc42 gb42 hz42 nv42 hHeld ⊢
        refine held_one 7 (by kernel_rfl) rfl (by rfl) (fun K' hK => ?_)
        go_simp
        have ak : Keep [] w42 (w42.alloc (.cells #[.string nm, .int .i64 (z - 2)] 92)) := (Keep.refl _ _).alloc _
        have PG43 := Lib.hid (PG42.out.new ak)
        have hz43 := Nat.le_trans hz42 ak.size
        have gb43 := bx2 gb42 ak (by simp)
        have wc43 := WCells.keep wc42 ak (by simp)
        have nv43 := bx1 nv42 ak (by simp)
        unfold WCells at wc43
        have nb43 : Ce2 (w42.alloc (.cells #[.string nm, .int .i64 (z - 2)] 92)) w42.heap.size (.string nm) (.int .i64 (z - 2)) := ⟨by go_simp, by go_simp⟩
        unfold Ce2 at nb43
        have hnb : Hid (wr.heap.size ≤ w42.heap.size) := Lib.hid hz42
        (try dsimp only)
        refine hK.out _ _ ⟨wc43.1, gb43.1, gb43.2⟩ (fun hHeld' => ?_)
        clear hK K' hHeld
        have hHeld := hHeld'
        clear hHeld'
        (try go_frame)
        clear wc42 gb42 hz42 nv42
        clear ak
        generalize w42.alloc (.cells #[.string nm, .int .i64 (z - 2)] 92) = w43 at PG43 wc43 gb43 hz43 nv43 nb43 hHeld ⊢
        refine held_one 8 (by kernel_rfl) rfl (by rfl) (fun K' hK => ?_)
        have OW := Lib.hid PG43.out.og
        have hsz : A.heap.size ≤ w43.heap.size := by have := PG43.out.keep.size; omega
        refine wp_append_fresh _ _ _ 56 rfl A.heap.size 92 i3 _ 2 24 Tryd.underlying56 hi3 hg0 hg1 hg2 rfl (by decide) vg gs.length (gs.flatMap gCells) rfl OW.out ⟨w42.heap.size, 0, none⟩ 1 1 [.string nm, .int .i64 (z - 2)] rfl rfl (news2 nb43) (by simp [Value.oneCell']) (by rw [← HK.out]; unfold maxLen; omega) (by rw [← HK.out]; omega) hsz ?_
        intro v' w44 hown hgr hfr
        obtain ⟨va, vc, rfl⟩ : ∃ va vc, v' = .slice va (gs.length + 1) vc := owns_slice hown
        have hgk := keep_of_grown hgr
        have PG44 := Lib.hid (PG43.out.pushG (m := ⟨nm, z - 2⟩) hgr hfr hown)
        have hz44 := Nat.le_trans hz43 hgk.size
        have gb44 := bx2 gb43 hgk (fun hm => by have := owns_lt_size PGR.out.og (ownB_mem.1 hm); have := hG.out; omega)
        have wc44 := WCells.keep wc43 hgk (PG43.out.dg.2)
        have nv44 := bx1 nv43 hgk (fun hm => by have := owns_lt_size PGR.out.og (ownB_mem.1 hm); have := hnv.out; omega)
        unfold WCells at wc44
        (try dsimp only)
        refine hK.out _ _ ⟨wc44.1, gb44.1, gb44.2⟩ (fun hHeld' => ?_)
        clear hK K' hHeld
        have hHeld := hHeld'
        clear hHeld'
        (try go_frame)
        clear hown hgr hfr hgk hsz OW wc43 gb43 hz43 nv43 nb43
        refine held_one 13 (by kernel_rfl) rfl (by rfl) (fun K' hK => ?_)
        have OW := Lib.hid PG44.out.ov
        have hsz : A.heap.size ≤ w44.heap.size := by have := PG44.out.keep.size; omega
        have hvl : Hid ((gs.map AGlobal.name).length = k) := Lib.hid (by rw [List.length_map]; exact HK.out.symm)
        refine wp_append_fresh _ _ _ 42 rfl A.heap.size 9 i0 _ 1 16 Tryd.underlying42 hi0 hs0 hs1 hs2 rfl (by decide) u7 (gs.map AGlobal.name).length ((gs.map AGlobal.name).map .string) rfl OW.out ⟨w41.heap.size, 0, none⟩ 1 1 [.string nm] rfl rfl (news1 nv44) (by simp [Value.oneCell']) (by rw [hvl.out]; unfold maxLen; omega) (by rw [hvl.out]; omega) hsz ?_
        intro u' w45 hown hgr hfr
        have hgk := keep_of_grown hgr
        have PG45 := Lib.hid (PG44.out.pushV (x := nm) hgr hfr hown)
        have hz45 := Nat.le_trans hz44 hgk.size
        have gb45 := bx2 gb44 hgk (fun hm => by have := owns_lt_size PGR.out.ov (ownB_mem.1 hm); have := hG.out; omega)
        have wc45 := WCells.keep wc44 hgk (PG44.out.dv.2)
        unfold WCells at wc45
        (try dsimp only)
        refine hK.out _ _ ⟨wc45.1, gb45.1, gb45.2⟩ (fun hHeld' => ?_)
        clear hK K' hHeld
        have hHeld := hHeld'
        clear hHeld'
        (try go_frame)
        clear hown hgr hfr hgk hsz OW wc44 gb44 hz44 nv44
        refine held_take 14 (v := ?vv149) (by kernel_rfl) rfl (by rfl) (by kernel_rfl) (by kernel_rfl) (fun _ _ _ h => h) ?hyy149 (by assumption) ?rest149
        case hyy149 => (intro w hSw; (try dsimp only at hSw); go_simp; (try with_reducible rfl))
        (try go_frame)
        refine held_take 15 (v := ?vv150) (by kernel_rfl) rfl (by rfl) (by kernel_rfl) (by kernel_rfl) (fun _ _ _ h => h) ?hyy150 (by assumption) ?rest150
        case hyy150 => (intro w hSw; (try dsimp only at hSw); go_simp; (try with_reducible rfl))
        (try go_frame)
        refine held_take 16 (v := ?vv151) (by kernel_rfl) rfl (by rfl) (by kernel_rfl) (by kernel_rfl) (fun _ _ _ h => h) ?hyy151 (by assumption) ?rest151
        case hyy151 => (intro w hSw; (try dsimp only at hSw); go_simp; (try with_reducible rfl))
        (try go_frame)
        have fz := PG45.out.free
        have hWl := PG45.out.hW
        refine held_one 17 (by kernel_rfl) rfl (by rfl) (fun K' hK => ?_)
        go_simp
        have hGW : G ∉ [W] := by have := hG.out; simp; omega
        have gb46 := bx2 gb45 ((Keep.refl [W] w45).setCell (p := ⟨W, 1, none⟩) (.inl (List.mem_singleton.2 rfl)) (.slice va (gs.length + 1) vc)) hGW
        have wc46 : WCells W S 24 ar (.slice va (gs.length + 1) vc) vm (.slice none 0 0) (w45.setCell ⟨W, 1, none⟩ (.slice va (gs.length + 1) vc)) := by unfold WCells; exact ⟨by go_simp, by go_simp, by go_simp, by go_simp, by go_simp, by go_simp⟩
        unfold WCells at wc46
        (try dsimp only)
        refine hK.out _ _ ⟨wc46.1, gb46.1, gb46.2⟩ (fun hHeld' => ?_)
        clear hK K' hHeld
        have hHeld := hHeld'
        clear hHeld'
        (try go_frame)
        refine held_take 18 (v := ?vv152) (by kernel_rfl) rfl (by rfl) (by kernel_rfl) (by kernel_rfl) (fun _ _ _ h => h) ?hyy152 (by assumption) ?rest152
        case hyy152 => (intro w hSw; (try dsimp only at hSw); go_simp; (try with_reducible rfl))
        (try go_frame)
        clear hHeld
        refine wpAnyH_done (by kernel_rfl) ?_ _
        have hwk : IntKind.i64.wrap ((k : Int) + 1) = ((k + 1 : Nat) : Int) := IntWalk.i64_in _ (by omega)
        go_wp2_with fail
        go_roundw
        case rel => exact ⟨gs ++ [⟨nm, z - 2⟩], _, by rw [List.length_append, ← HK.out]; go_num, by rw [List.length_append, ← HK.out]; simp; omega, mg_snoc HGS.out ⟨by rw [HNM.out, HB1.out, HK.out], by dsimp only; omega, by dsimp only; omega⟩, by rw [List.map_append]; exact PG45.out.store 1 _, by unfold WCells; exact wc46⟩
        case measure => simp [intOf]; omega
      ·go_simp
       have ak : Keep [] w41 (w41.alloc (.cells #[.string nm, .int .i64 (z - 2)] 92)) := (Keep.refl _ _).alloc _
       have PG42 := Lib.hid (PG41.out.new ak)
       have hz42 := Nat.le_trans hz41 ak.size
       have gb42 := bx2 gb41 ak (by simp)
       have wc42 := WCells.keep wc41 ak (by simp)
       unfold WCells at wc42
       have nb42 : Ce2 (w41.alloc (.cells #[.string nm, .int .i64 (z - 2)] 92)) w41.heap.size (.string nm) (.int .i64 (z - 2)) := ⟨by go_simp, by go_simp⟩
       unfold Ce2 at nb42
       have hnb : Hid (wr.heap.size ≤ w41.heap.size) := Lib.hid hz41
       (try dsimp only)
       refine hK.out _ _ ⟨wc42.1, gb42.1, gb42.2⟩ (fun hHeld' => ?_)
       clear hK K' hHeld
       have hHeld := hHeld'
       clear hHeld'
       (try go_frame)
       clear wc41 gb41 hz41
       clear ak
       generalize w41.alloc (.cells #[.string nm, .int .i64 (z - 2)] 92) = w42 at PG42 wc42 gb42 hz42 nb42 hHeld ⊢
       refine held_pair 5 12 (by kernel_rfl) rfl rfl (by rfl) (by rfl) (fun K' hK => ?_) (fun K' hK => ?_)
       ·go_simp
        (try dsimp only)
        refine hK.out _ _ ⟨wc42.1, gb42.1, gb42.2⟩ (fun hHeld' => ?_)
        clear hK K' hHeld
        have hHeld := hHeld'
        clear hHeld'
        (try go_frame)
        refine held_pair 8 12 (by kernel_rfl) rfl rfl (by rfl) (by rfl) (fun K' hK => ?_) (fun K' hK => ?_)
        ·have OW := Lib.hid PG42.out.og
         have hsz : A.heap.size ≤ w42.heap.size := by have := PG42.out.keep.size; omega
         refine wp_append_fresh _ _ _ 56 rfl A.heap.size 92 i3 _ 2 24 Tryd.underlying56 hi3 hg0 hg1 hg2 rfl (by decide) vg gs.length (gs.flatMap gCells) rfl OW.out ⟨w41.heap.size, 0, none⟩ 1 1 [.string nm, .int .i64 (z - 2)] rfl rfl (news2 nb42) (by simp [Value.oneCell']) (by rw [← HK.out]; unfold maxLen; omega) (by rw [← HK.out]; omega) hsz ?_
         intro v' w43 hown hgr hfr
         obtain ⟨va, vc, rfl⟩ : ∃ va vc, v' = .slice va (gs.length + 1) vc := owns_slice hown
         have hgk := keep_of_grown hgr
         have PG43 := Lib.hid (PG42.out.pushG (m := ⟨nm, z - 2⟩) hgr hfr hown)
         have hz43 := Nat.le_trans hz42 hgk.size
         have gb43 := bx2 gb42 hgk (fun hm => by have := owns_lt_size PGR.out.og (ownB_mem.1 hm); have := hG.out; omega)
         have wc43 := WCells.keep wc42 hgk (PG42.out.dg.2)
         unfold WCells at wc43
         (try dsimp only)
         refine hK.out _ _ ⟨wc43.1, gb43.1, gb43.2⟩ (fun hHeld' => ?_)
         clear hK K' hHeld
         have hHeld := hHeld'
         clear hHeld'
         (try go_frame)
         clear hown hgr hfr hgk hsz OW wc42 gb42 hz42 nb42
         refine held_one 12 (by kernel_rfl) rfl (by rfl) (fun K' hK => ?_)
         go_simp
         have ak : Keep [] w43 (w43.alloc (.cells #[.string nm] 9)) := (Keep.refl _ _).alloc _
         have PG44 := Lib.hid (PG43.out.new ak)
         have hz44 := Nat.le_trans hz43 ak.size
         have gb44 := bx2 gb43 ak (by simp)
         have wc44 := WCells.keep wc43 ak (by simp)
         unfold WCells at wc44
         have nv44 : (w43.alloc (.cells #[.string nm] 9)).cell? ⟨w43.heap.size, 0, none⟩ = some (.string nm) := by go_simp
         have hnv : Hid (wr.heap.size ≤ w43.heap.size) := Lib.hid hz43
         (try dsimp only)
         refine hK.out _ _ ⟨wc44.1, gb44.1, gb44.2⟩ (fun hHeld' => ?_)
         clear hK K' hHeld
         have hHeld := hHeld'
         clear hHeld'
         (try go_frame)
         clear wc43 gb43 hz43
         clear ak
         generalize w43.alloc (.cells #[.string nm] 9) = w44 at PG44 wc44 gb44 hz44 nv44 hHeld ⊢
         refine held_one 13 (by kernel_rfl) rfl (by rfl) (fun K' hK => ?_)
         have OW := Lib.hid PG44.out.ov
         have hsz : A.heap.size ≤ w44.heap.size := by have := PG44.out.keep.size; omega
         have hvl : Hid ((gs.map AGlobal.name).length = k) := Lib.hid (by rw [List.length_map]; exact HK.out.symm)
         refine wp_append_fresh _ _ _ 42 rfl A.heap.size 9 i0 _ 1 16 Tryd.underlying42 hi0 hs0 hs1 hs2 rfl (by decide) u7 (gs.map AGlobal.name).length ((gs.map AGlobal.name).map .string) rfl OW.out ⟨w43.heap.size, 0, none⟩ 1 1 [.string nm] rfl rfl (news1 nv44) (by simp [Value.oneCell']) (by rw [hvl.out]; unfold maxLen; omega) (by rw [hvl.out]; omega) hsz ?_
         intro u' w45 hown hgr hfr
         have hgk := keep_of_grown hgr
         have PG45 := Lib.hid (PG44.out.pushV (x := nm) hgr hfr hown)
         have hz45 := Nat.le_trans hz44 hgk.size
         have gb45 := bx2 gb44 hgk (fun hm => by have := owns_lt_size PGR.out.ov (ownB_mem.1 hm); have := hG.out; omega)
         have wc45 := WCells.keep wc44 hgk (PG44.out.dv.2)
         unfold WCells at wc45
         (try dsimp only)
         refine hK.out _ _ ⟨wc45.1, gb45.1, gb45.2⟩ (fun hHeld' => ?_)
         clear hK K' hHeld
         have hHeld := hHeld'
         clear hHeld'
         (try go_frame)
         clear hown hgr hfr hgk hsz OW wc44 gb44 hz44 nv44
         refine held_take 14 (v := ?vv153) (by kernel_rfl) rfl (by rfl) (by kernel_rfl) (by kernel_rfl) (fun _ _ _ h => h) ?hyy153 (by assumption) ?rest153
         case hyy153 => (intro w hSw; (try dsimp only at hSw); go_simp; (try with_reducible rfl))
         (try go_frame)
         refine held_take 15 (v := ?vv154) (by kernel_rfl) rfl (by rfl) (by kernel_rfl) (by kernel_rfl) (fun _ _ _ h => h) ?hyy154 (by assumption) ?rest154
         case hyy154 => (intro w hSw; (try dsimp only at hSw); go_simp; (try with_reducible rfl))
         (try go_frame)
         refine held_take 16 (v := ?vv155) (by kernel_rfl) rfl (by rfl) (by kernel_rfl) (by kernel_rfl) (fun _ _ _ h => h) ?hyy155 (by assumption) ?rest155
         case hyy155 => (intro w hSw; (try dsimp only at hSw); go_simp; (try with_reducible rfl))
         (try go_frame)
         have fz := PG45.out.free
         have hWl := PG45.out.hW
         refine held_one 17 (by kernel_rfl) rfl (by rfl) (fun K' hK => ?_)
         go_simp
         have hGW : G ∉ [W] := by have := hG.out; simp; omega
         have gb46 := bx2 gb45 ((Keep.refl [W] w45).setCell (p := ⟨W, 1, none⟩) (.inl (List.mem_singleton.2 rfl)) (.slice va (gs.length + 1) vc)) hGW
         have wc46 : WCells W S 24 ar (.slice va (gs.length + 1) vc) vm (.slice none 0 0) (w45.setCell ⟨W, 1, none⟩ (.slice va (gs.length + 1) vc)) := by unfold WCells; exact ⟨by go_simp, by go_simp, by go_simp, by go_simp, by go_simp, by go_simp⟩
         unfold WCells at wc46
         (try dsimp only)
         refine hK.out _ _ ⟨wc46.1, gb46.1, gb46.2⟩ (fun hHeld' => ?_)
         clear hK K' hHeld
         have hHeld := hHeld'
         clear hHeld'
         (try go_frame)
         refine held_take 18 (v := ?vv156) (by kernel_rfl) rfl (by rfl) (by kernel_rfl) (by kernel_rfl) (fun _ _ _ h => h) ?hyy156 (by assumption) ?rest156
         case hyy156 => (intro w hSw; (try dsimp only at hSw); go_simp; (try with_reducible rfl))
         (try go_frame)
         clear hHeld
         refine wpAnyH_done (by kernel_rfl) ?_ _
         have hwk : IntKind.i64.wrap ((k : Int) + 1) = ((k + 1 : Nat) : Int) := IntWalk.i64_in _ (by omega)
         go_wp2_with fail
         go_roundw
         case rel => exact ⟨gs ++ [⟨nm, z - 2⟩], _, by rw [List.length_append, ← HK.out]; go_num, by rw [List.length_append, ← HK.out]; simp; omega, mg_snoc HGS.out ⟨by rw [HNM.out, HB1.out, HK.out], by dsimp only; omega, by dsimp only; omega⟩, by rw [List.map_append]; exact PG45.out.store 1 _, by unfold WCells; exact wc46⟩
         case measure => simp [intOf]; omega
        ·go_simp
         have ak : Keep [] w42 (w42.alloc (.cells #[.string nm] 9)) := (Keep.refl _ _).alloc _
         have PG43 := Lib.hid (PG42.out.new ak)
         have hz43 := Nat.le_trans hz42 ak.size
         have gb43 := bx2 gb42 ak (by simp)
         have wc43 := WCells.keep wc42 ak (by simp)
         have nb43 := bx2 nb42 ak (by simp)
         unfold WCells at wc43
         have nv43 : (w42.alloc (.cells #[.string nm] 9)).cell? ⟨w42.heap.size, 0, none⟩ = some (.string nm) := by go_simp
         have hnv : Hid (wr.heap.size ≤ w42.heap.size) := Lib.hid hz42
         (try dsimp only)
         refine hK.out _ _ ⟨wc43.1, gb43.1, gb43.2⟩ (fun hHeld' => ?_)
         clear hK K' hHeld
         have hHeld := hHeld'
         clear hHeld'
         (try go_frame)
         clear wc42 gb42 hz42 nb42
         clear ak
         generalize w42.alloc (.cells #[.string nm] 9) = w43 at PG43 wc43 gb43 hz43 nb43 nv43 hHeld ⊢
         refine held_one 8 (by kernel_rfl) rfl (by rfl) (fun K' hK => ?_)
         have OW := Lib.hid PG43.out.og
         have hsz : A.heap.size ≤ w43.heap.size := by have := PG43.out.keep.size; omega
         refine wp_append_fresh _ _ _ 56 rfl A.heap.size 92 i3 _ 2 24 Tryd.underlying56 hi3 hg0 hg1 hg2 rfl (by decide) vg gs.length (gs.flatMap gCells) rfl OW.out ⟨w41.heap.size, 0, none⟩ 1 1 [.string nm, .int .i64 (z - 2)] rfl rfl (news2 nb43) (by simp [Value.oneCell']) (by rw [← HK.out]; unfold maxLen; omega) (by rw [← HK.out]; omega) hsz ?_
         intro v' w44 hown hgr hfr
         obtain ⟨va, vc, rfl⟩ : ∃ va vc, v' = .slice va (gs.length + 1) vc := owns_slice hown
         have hgk := keep_of_grown hgr
         have PG44 := Lib.hid (PG43.out.pushG (m := ⟨nm, z - 2⟩) hgr hfr hown)
         have hz44 := Nat.le_trans hz43 hgk.size
         have gb44 := bx2 gb43 hgk (fun hm => by have := owns_lt_size PGR.out.og (ownB_mem.1 hm); have := hG.out; omega)
         have wc44 := WCells.keep wc43 hgk (PG43.out.dg.2)
         have nv44 := bx1 nv43 hgk (fun hm => by have := owns_lt_size PGR.out.og (ownB_mem.1 hm); have := hnv.out; omega)
         unfold WCells at wc44
         (try dsimp only)
         refine hK.out _ _ ⟨wc44.1, gb44.1, gb44.2⟩ (fun hHeld' => ?_)
         clear hK K' hHeld
         have hHeld := hHeld'
         clear hHeld'
         (try go_frame)
         clear hown hgr hfr hgk hsz OW wc43 gb43 hz43 nb43 nv43
         refine held_one 13 (by kernel_rfl) rfl (by rfl) (fun K' hK => ?_)
         have OW := Lib.hid PG44.out.ov
         have hsz : A.heap.size ≤ w44.heap.size := by have := PG44.out.keep.size; omega
         have hvl : Hid ((gs.map AGlobal.name).length = k) := Lib.hid (by rw [List.length_map]; exact HK.out.symm)
         refine wp_append_fresh _ _ _ 42 rfl A.heap.size 9 i0 _ 1 16 Tryd.underlying42 hi0 hs0 hs1 hs2 rfl (by decide) u7 (gs.map AGlobal.name).length ((gs.map AGlobal.name).map .string) rfl OW.out ⟨w42.heap.size, 0, none⟩ 1 1 [.string nm] rfl rfl (news1 nv44) (by simp [Value.oneCell']) (by rw [hvl.out]; unfold maxLen; omega) (by rw [hvl.out]; omega) hsz ?_
         intro u' w45 hown hgr hfr
         have hgk := keep_of_grown hgr
         have PG45 := Lib.hid (PG44.out.pushV (x := nm) hgr hfr hown)
         have hz45 := Nat.le_trans hz44 hgk.size
         have gb45 := bx2 gb44 hgk (fun hm => by have := owns_lt_size PGR.out.ov (ownB_mem.1 hm); have := hG.out; omega)
         have wc45 := WCells.keep wc44 hgk (PG44.out.dv.2)
         unfold WCells at wc45
         (try dsimp only)
         refine hK.out _ _ ⟨wc45.1, gb45.1, gb45.2⟩ (fun hHeld' => ?_)
         clear hK K' hHeld
         have hHeld := hHeld'
         clear hHeld'
         (try go_frame)
         clear hown hgr hfr hgk hsz OW wc44 gb44 hz44 nv44
         refine held_take 14 (v := ?vv157) (by kernel_rfl) rfl (by rfl) (by kernel_rfl) (by kernel_rfl) (fun _ _ _ h => h) ?hyy157 (by assumption) ?rest157
         case hyy157 => (intro w hSw; (try dsimp only at hSw); go_simp; (try with_reducible rfl))
         (try go_frame)
         refine held_take 15 (v := ?vv158) (by kernel_rfl) rfl (by rfl) (by kernel_rfl) (by kernel_rfl) (fun _ _ _ h => h) ?hyy158 (by assumption) ?rest158
         case hyy158 => (intro w hSw; (try dsimp only at hSw); go_simp; (try with_reducible rfl))
         (try go_frame)
         refine held_take 16 (v := ?vv159) (by kernel_rfl) rfl (by rfl) (by kernel_rfl) (by kernel_rfl) (fun _ _ _ h => h) ?hyy159 (by assumption) ?rest159
         case hyy159 => (intro w hSw; (try dsimp only at hSw); go_simp; (try with_reducible rfl))
         (try go_frame)
         have fz := PG45.out.free
         have hWl := PG45.out.hW
         refine held_one 17 (by kernel_rfl) rfl (by rfl) (fun K' hK => ?_)
         go_simp
         have hGW : G ∉ [W] := by have := hG.out; simp; omega
         have gb46 := bx2 gb45 ((Keep.refl [W] w45).setCell (p := ⟨W, 1, none⟩) (.inl (List.mem_singleton.2 rfl)) (.slice va (gs.length + 1) vc)) hGW
         have wc46 : WCells W S 24 ar (.slice va (gs.length + 1) vc) vm (.slice none 0 0) (w45.setCell ⟨W, 1, none⟩ (.slice va (gs.length + 1) vc)) := by unfold WCells; exact ⟨by go_simp, by go_simp, by go_simp, by go_simp, by go_simp, by go_simp⟩
         unfold WCells at wc46
         (try dsimp only)
         refine hK.out _ _ ⟨wc46.1, gb46.1, gb46.2⟩ (fun hHeld' => ?_)
         clear hK K' hHeld
         have hHeld := hHeld'
         clear hHeld'
         (try go_frame)
         refine held_take 18 (v := ?vv160) (by kernel_rfl) rfl (by rfl) (by kernel_rfl) (by kernel_rfl) (fun _ _ _ h => h) ?hyy160 (by assumption) ?rest160
         case hyy160 => (intro w hSw; (try dsimp only at hSw); go_simp; (try with_reducible rfl))
         (try go_frame)
         clear hHeld
         refine wpAnyH_done (by kernel_rfl) ?_ _
         have hwk : IntKind.i64.wrap ((k : Int) + 1) = ((k + 1 : Nat) : Int) := IntWalk.i64_in _ (by omega)
         go_wp2_with fail
         go_roundw
         case rel => exact ⟨gs ++ [⟨nm, z - 2⟩], _, by rw [List.length_append, ← HK.out]; go_num, by rw [List.length_append, ← HK.out]; simp; omega, mg_snoc HGS.out ⟨by rw [HNM.out, HB1.out, HK.out], by dsimp only; omega, by dsimp only; omega⟩, by rw [List.map_append]; exact PG45.out.store 1 _, by unfold WCells; exact wc46⟩
         case measure => simp [intOf]; omega
       ·go_simp
        have ak : Keep [] w42 (w42.alloc (.cells #[.string nm] 9)) := (Keep.refl _ _).alloc _
        have PG43 := Lib.hid (PG42.out.new ak)
        have hz43 := Nat.le_trans hz42 ak.size
        have gb43 := bx2 gb42 ak (by simp)
        have wc43 := WCells.keep wc42 ak (by simp)
        have nb43 := bx2 nb42 ak (by simp)
        unfold WCells at wc43
        have nv43 : (w42.alloc (.cells #[.string nm] 9)).cell? ⟨w42.heap.size, 0, none⟩ = some (.string nm) := by go_simp
        have hnv : Hid (wr.heap.size ≤ w42.heap.size) := Lib.hid hz42
        (try dsimp only)
        refine hK.out _ _ ⟨wc43.1, gb43.1, gb43.2⟩ (fun hHeld' => ?_)
        clear hK K' hHeld
        have hHeld := hHeld'
        clear hHeld'
        (try go_frame)
        clear wc42 gb42 hz42 nb42
        clear ak
        generalize w42.alloc (.cells #[.string nm] 9) = w43 at PG43 wc43 gb43 hz43 nb43 nv43 hHeld ⊢
        refine held_one 5 (by kernel_rfl) rfl (by rfl) (fun K' hK => ?_)
        go_simp
        (try dsimp only)
        refine hK.out _ _ ⟨wc43.1, gb43.1, gb43.2⟩ (fun hHeld' => ?_)
        clear hK K' hHeld
        have hHeld := hHeld'
        clear hHeld'
        (try go_frame)
        refine held_one 8 (by kernel_rfl) rfl (by rfl) (fun K' hK => ?_)
        have OW := Lib.hid PG43.out.og
        have hsz : A.heap.size ≤ w43.heap.size := by have := PG43.out.keep.size; omega
        refine wp_append_fresh _ _ _ 56 rfl A.heap.size 92 i3 _ 2 24 Tryd.underlying56 hi3 hg0 hg1 hg2 rfl (by decide) vg gs.length (gs.flatMap gCells) rfl OW.out ⟨w41.heap.size, 0, none⟩ 1 1 [.string nm, .int .i64 (z - 2)] rfl rfl (news2 nb43) (by simp [Value.oneCell']) (by rw [← HK.out]; unfold maxLen; omega) (by rw [← HK.out]; omega) hsz ?_
        intro v' w44 hown hgr hfr
        obtain ⟨va, vc, rfl⟩ : ∃ va vc, v' = .slice va (gs.length + 1) vc := owns_slice hown
        have hgk := keep_of_grown hgr
        have PG44 := Lib.hid (PG43.out.pushG (m := ⟨nm, z - 2⟩) hgr hfr hown)
        have hz44 := Nat.le_trans hz43 hgk.size
        have gb44 := bx2 gb43 hgk (fun hm => by have := owns_lt_size PGR.out.og (ownB_mem.1 hm); have := hG.out; omega)
        have wc44 := WCells.keep wc43 hgk (PG43.out.dg.2)
        have nv44 := bx1 nv43 hgk (fun hm => by have := owns_lt_size PGR.out.og (ownB_mem.1 hm); have := hnv.out; omega)
        unfold WCells at wc44
        (try dsimp only)
        refine hK.out _ _ ⟨wc44.1, gb44.1, gb44.2⟩ (fun hHeld' => ?_)
        clear hK K' hHeld
        have hHeld := hHeld'
        clear hHeld'
        (try go_frame)
        clear hown hgr hfr hgk hsz OW wc43 gb43 hz43 nb43 nv43
        refine held_one 13 (by kernel_rfl) rfl (by rfl) (fun K' hK => ?_)
        have OW := Lib.hid PG44.out.ov
        have hsz : A.heap.size ≤ w44.heap.size := by have := PG44.out.keep.size; omega
        have hvl : Hid ((gs.map AGlobal.name).length = k) := Lib.hid (by rw [List.length_map]; exact HK.out.symm)
        refine wp_append_fresh _ _ _ 42 rfl A.heap.size 9 i0 _ 1 16 Tryd.underlying42 hi0 hs0 hs1 hs2 rfl (by decide) u7 (gs.map AGlobal.name).length ((gs.map AGlobal.name).map .string) rfl OW.out ⟨w42.heap.size, 0, none⟩ 1 1 [.string nm] rfl rfl (news1 nv44) (by simp [Value.oneCell']) (by rw [hvl.out]; unfold maxLen; omega) (by rw [hvl.out]; omega) hsz ?_
        intro u' w45 hown hgr hfr
        have hgk := keep_of_grown hgr
        have PG45 := Lib.hid (PG44.out.pushV (x := nm) hgr hfr hown)
        have hz45 := Nat.le_trans hz44 hgk.size
        have gb45 := bx2 gb44 hgk (fun hm => by have := owns_lt_size PGR.out.ov (ownB_mem.1 hm); have := hG.out; omega)
        have wc45 := WCells.keep wc44 hgk (PG44.out.dv.2)
        unfold WCells at wc45
        (try dsimp only)
        refine hK.out _ _ ⟨wc45.1, gb45.1, gb45.2⟩ (fun hHeld' => ?_)
        clear hK K' hHeld
        have hHeld := hHeld'
        clear hHeld'
        (try go_frame)
        clear hown hgr hfr hgk hsz OW wc44 gb44 hz44 nv44
        refine held_take 14 (v := ?vv161) (by kernel_rfl) rfl (by rfl) (by kernel_rfl) (by kernel_rfl) (fun _ _ _ h => h) ?hyy161 (by assumption) ?rest161
        case hyy161 => (intro w hSw; (try dsimp only at hSw); go_simp; (try with_reducible rfl))
        (try go_frame)
        refine held_take 15 (v := ?vv162) (by kernel_rfl) rfl (by rfl) (by kernel_rfl) (by kernel_rfl) (fun _ _ _ h => h) ?hyy162 (by assumption) ?rest162
        case hyy162 => (intro w hSw; (try dsimp only at hSw); go_simp; (try with_reducible rfl))
        (try go_frame)
        refine held_take 16 (v := ?vv163) (by kernel_rfl) rfl (by rfl) (by kernel_rfl) (by kernel_rfl) (fun _ _ _ h => h) ?hyy163 (by assumption) ?rest163
        case hyy163 => (intro w hSw; (try dsimp only at hSw); go_simp; (try with_reducible rfl))
        (try go_frame)
        have fz := PG45.out.free
        have hWl := PG45.out.hW
        refine held_one 17 (by kernel_rfl) rfl (by rfl) (fun K' hK => ?_)
        go_simp
        have hGW : G ∉ [W] := by have := hG.out; simp; omega
        have gb46 := bx2 gb45 ((Keep.refl [W] w45).setCell (p := ⟨W, 1, none⟩) (.inl (List.mem_singleton.2 rfl)) (.slice va (gs.length + 1) vc)) hGW
        have wc46 : WCells W S 24 ar (.slice va (gs.length + 1) vc) vm (.slice none 0 0) (w45.setCell ⟨W, 1, none⟩ (.slice va (gs.length + 1) vc)) := by unfold WCells; exact ⟨by go_simp, by go_simp, by go_simp, by go_simp, by go_simp, by go_simp⟩
        unfold WCells at wc46
        (try dsimp only)
        refine hK.out _ _ ⟨wc46.1, gb46.1, gb46.2⟩ (fun hHeld' => ?_)
        clear hK K' hHeld
        have hHeld := hHeld'
        clear hHeld'
        (try go_frame)
        refine held_take 18 (v := ?vv164) (by kernel_rfl) rfl (by rfl) (by kernel_rfl) (by kernel_rfl) (fun _ _ _ h => h) ?hyy164 (by assumption) ?rest164
        case hyy164 => (intro w hSw; (try dsimp only at hSw); go_simp; (try with_reducible rfl))
        (try go_frame)
        clear hHeld
        refine wpAnyH_done (by kernel_rfl) ?_ _
        have hwk : IntKind.i64.wrap ((k : Int) + 1) = ((k + 1 : Nat) : Int) := IntWalk.i64_in _ (by omega)
        go_wp2_with fail
        go_roundw
        case rel => exact ⟨gs ++ [⟨nm, z - 2⟩], _, by rw [List.length_append, ← HK.out]; go_num, by rw [List.length_append, ← HK.out]; simp; omega, mg_snoc HGS.out ⟨by rw [HNM.out, HB1.out, HK.out], by dsimp only; omega, by dsimp only; omega⟩, by rw [List.map_append]; exact PG45.out.store 1 _, by unfold WCells; exact wc46⟩
        case measure => simp [intOf]; omega
      ·go_simp
       have ak : Keep [] w41 (w41.alloc (.cells #[.string nm] 9)) := (Keep.refl _ _).alloc _
       have PG42 := Lib.hid (PG41.out.new ak)
       have hz42 := Nat.le_trans hz41 ak.size
       have gb42 := bx2 gb41 ak (by simp)
       have wc42 := WCells.keep wc41 ak (by simp)
       unfold WCells at wc42
       have nv42 : (w41.alloc (.cells #[.string nm] 9)).cell? ⟨w41.heap.size, 0, none⟩ = some (.string nm) := by go_simp
       have hnv : Hid (wr.heap.size ≤ w41.heap.size) := Lib.hid hz41
       (try dsimp only)
       refine hK.out _ _ ⟨wc42.1, gb42.1, gb42.2⟩ (fun hHeld' => ?_)
       clear hK K' hHeld
       have hHeld := hHeld'
       clear hHeld'
       (try go_frame)
       clear wc41 gb41 hz41
       clear ak
       generalize w41.alloc (.cells #[.string nm] 9) = w42 at PG42 wc42 gb42 hz42 nv42 hHeld ⊢
       refine held_pair 5 7 (by kernel_rfl) rfl rfl (by rfl) (by rfl) (fun K' hK => ?_) (fun K' hK => ?_)
       ·go_simp
        (try dsimp only)
        refine hK.out _ _ ⟨wc42.1, gb42.1, gb42.2⟩ (fun hHeld' => ?_)
        clear hK K' hHeld
        have hHeld := hHeld'
        clear hHeld'
        (try go_frame)
        refine held_one 7 (by kernel_rfl) rfl (by rfl) (fun K' hK => ?_)
        go_simp
        have ak : Keep [] w42 (w42.alloc (.cells #[.string nm, .int .i64 (z - 2)] 92)) := (Keep.refl _ _).alloc _
        have PG43 := Lib.hid (PG42.out.new ak)
        have hz43 := Nat.le_trans hz42 ak.size
        have gb43 := bx2 gb42 ak (by simp)
        have wc43 := WCells.keep wc42 ak (by simp)
        have nv43 := bx1 nv42 ak (by simp)
        unfold WCells at wc43
        have nb43 : Ce2 (w42.alloc (.cells #[.string nm, .int .i64 (z - 2)] 92)) w42.heap.size (.string nm) (.int .i64 (z - 2)) := ⟨by go_simp, by go_simp⟩
        unfold Ce2 at nb43
        have hnb : Hid (wr.heap.size ≤ w42.heap.size) := Lib.hid hz42
        (try dsimp only)
        refine hK.out _ _ ⟨wc43.1, gb43.1, gb43.2⟩ (fun hHeld' => ?_)
        clear hK K' hHeld
        have hHeld := hHeld'
        clear hHeld'
        (try go_frame)
        clear wc42 gb42 hz42 nv42
        clear ak
        generalize w42.alloc (.cells #[.string nm, .int .i64 (z - 2)] 92) = w43 at PG43 wc43 gb43 hz43 nv43 nb43 hHeld ⊢
        refine held_one 8 (by kernel_rfl) rfl (by rfl) (fun K' hK => ?_)
        have OW := Lib.hid PG43.out.og
        have hsz : A.heap.size ≤ w43.heap.size := by have := PG43.out.keep.size; omega
        refine wp_append_fresh _ _ _ 56 rfl A.heap.size 92 i3 _ 2 24 Tryd.underlying56 hi3 hg0 hg1 hg2 rfl (by decide) vg gs.length (gs.flatMap gCells) rfl OW.out ⟨w42.heap.size, 0, none⟩ 1 1 [.string nm, .int .i64 (z - 2)] rfl rfl (news2 nb43) (by simp [Value.oneCell']) (by rw [← HK.out]; unfold maxLen; omega) (by rw [← HK.out]; omega) hsz ?_
        intro v' w44 hown hgr hfr
        obtain ⟨va, vc, rfl⟩ : ∃ va vc, v' = .slice va (gs.length + 1) vc := owns_slice hown
        have hgk := keep_of_grown hgr
        have PG44 := Lib.hid (PG43.out.pushG (m := ⟨nm, z - 2⟩) hgr hfr hown)
        have hz44 := Nat.le_trans hz43 hgk.size
        have gb44 := bx2 gb43 hgk (fun hm => by have := owns_lt_size PGR.out.og (ownB_mem.1 hm); have := hG.out; omega)
        have wc44 := WCells.keep wc43 hgk (PG43.out.dg.2)
        have nv44 := bx1 nv43 hgk (fun hm => by have := owns_lt_size PGR.out.og (ownB_mem.1 hm); have := hnv.out; omega)
        unfold WCells at wc44
        (try dsimp only)
        refine hK.out _ _ ⟨wc44.1, gb44.1, gb44.2⟩ (fun hHeld' => ?_)
        clear hK K' hHeld
        have hHeld := hHeld'
        clear hHeld'
        (try go_frame)
        clear hown hgr hfr hgk hsz OW wc43 gb43 hz43 nv43 nb43
        refine held_one 13 (by kernel_rfl) rfl (by rfl) (fun K' hK => ?_)
        have OW := Lib.hid PG44.out.ov
        have hsz : A.heap.size ≤ w44.heap.size := by have := PG44.out.keep.size; omega
        have hvl : Hid ((gs.map AGlobal.name).length = k) := Lib.hid (by rw [List.length_map]; exact HK.out.symm)
        refine wp_append_fresh _ _ _ 42 rfl A.heap.size 9 i0 _ 1 16 Tryd.underlying42 hi0 hs0 hs1 hs2 rfl (by decide) u7 (gs.map AGlobal.name).length ((gs.map AGlobal.name).map .string) rfl OW.out ⟨w41.heap.size, 0, none⟩ 1 1 [.string nm] rfl rfl (news1 nv44) (by simp [Value.oneCell']) (by rw [hvl.out]; unfold maxLen; omega) (by rw [hvl.out]; omega) hsz ?_
        intro u' w45 hown hgr hfr
        have hgk := keep_of_grown hgr
        have PG45 := Lib.hid (PG44.out.pushV (x := nm) hgr hfr hown)
        have hz45 := Nat.le_trans hz44 hgk.size
        have gb45 := bx2 gb44 hgk (fun hm => by have := owns_lt_size PGR.out.ov (ownB_mem.1 hm); have := hG.out; omega)
        have wc45 := WCells.keep wc44 hgk (PG44.out.dv.2)
        unfold WCells at wc45
        (try dsimp only)
        refine hK.out _ _ ⟨wc45.1, gb45.1, gb45.2⟩ (fun hHeld' => ?_)
        clear hK K' hHeld
        have hHeld := hHeld'
        clear hHeld'
        (try go_frame)
        clear hown hgr hfr hgk hsz OW wc44 gb44 hz44 nv44
        refine held_take 14 (v := ?vv165) (by kernel_rfl) rfl (by rfl) (by kernel_rfl) (by kernel_rfl) (fun _ _ _ h => h) ?hyy165 (by assumption) ?rest165
        case hyy165 => (intro w hSw; (try dsimp only at hSw); go_simp; (try with_reducible rfl))
        (try go_frame)
        refine held_take 15 (v := ?vv166) (by kernel_rfl) rfl (by rfl) (by kernel_rfl) (by kernel_rfl) (fun _ _ _ h => h) ?hyy166 (by assumption) ?rest166
        case hyy166 => (intro w hSw; (try dsimp only at hSw); go_simp; (try with_reducible rfl))
        (try go_frame)
        refine held_take 16 (v := ?vv167) (by kernel_rfl) rfl (by rfl) (by kernel_rfl) (by kernel_rfl) (fun _ _ _ h => h) ?hyy167 (by assumption) ?rest167
        case hyy167 => (intro w hSw; (try dsimp only at hSw); go_simp; (try with_reducible rfl))
        (try go_frame)
        have fz := PG45.out.free
        have hWl := PG45.out.hW
        refine held_one 17 (by kernel_rfl) rfl (by rfl) (fun K' hK => ?_)
        go_simp
        have hGW : G ∉ [W] := by have := hG.out; simp; omega
        have gb46 := bx2 gb45 ((Keep.refl [W] w45).setCell (p := ⟨W, 1, none⟩) (.inl (List.mem_singleton.2 rfl)) (.slice va (gs.length + 1) vc)) hGW
        have wc46 : WCells W S 24 ar (.slice va (gs.length + 1) vc) vm (.slice none 0 0) (w45.setCell ⟨W, 1, none⟩ (.slice va (gs.length + 1) vc)) := by unfold WCells; exact ⟨by go_simp, by go_simp, by go_simp, by go_simp, by go_simp, by go_simp⟩
        unfold WCells at wc46
        (try dsimp only)
        refine hK.out _ _ ⟨wc46.1, gb46.1, gb46.2⟩ (fun hHeld' => ?_)
        clear hK K' hHeld
        have hHeld := hHeld'
        clear hHeld'
        (try go_frame)
        refine held_take 18 (v := ?vv168) (by kernel_rfl) rfl (by rfl) (by kernel_rfl) (by kernel_rfl) (fun _ _ _ h => h) ?hyy168 (by assumption) ?rest168
        case hyy168 => (intro w hSw; (try dsimp only at hSw); go_simp; (try with_reducible rfl))
        (try go_frame)
        clear hHeld
        refine wpAnyH_done (by kernel_rfl) ?_ _
        have hwk : IntKind.i64.wrap ((k : Int) + 1) = ((k + 1 : Nat) : Int) := IntWalk.i64_in _ (by omega)
        go_wp2_with fail
        go_roundw
        case rel => exact ⟨gs ++ [⟨nm, z - 2⟩], _, by rw [List.length_append, ← HK.out]; go_num, by rw [List.length_append, ← HK.out]; simp; omega, mg_snoc HGS.out ⟨by rw [HNM.out, HB1.out, HK.out], by dsimp only; omega, by dsimp only; omega⟩, by rw [List.map_append]; exact PG45.out.store 1 _, by unfold WCells; exact wc46⟩
        case measure => simp [intOf]; omega
       ·go_simp
        have ak : Keep [] w42 (w42.alloc (.cells #[.string nm, .int .i64 (z - 2)] 92)) := (Keep.refl _ _).alloc _
        have PG43 := Lib.hid (PG42.out.new ak)
        have hz43 := Nat.le_trans hz42 ak.size
        have gb43 := bx2 gb42 ak (by simp)
        have wc43 := WCells.keep wc42 ak (by simp)
        have nv43 := bx1 nv42 ak (by simp)
        unfold WCells at wc43
        have nb43 : Ce2 (w42.alloc (.cells #[.string nm, .int .i64 (z - 2)] 92)) w42.heap.size (.string nm) (.int .i64 (z - 2)) := ⟨by go_simp, by go_simp⟩
        unfold Ce2 at nb43
        have hnb : Hid (wr.heap.size ≤ w42.heap.size) := Lib.hid hz42
        (try dsimp only)
        refine hK.out _ _ ⟨wc43.1, gb43.1, gb43.2⟩ (fun hHeld' => ?_)
        clear hK K' hHeld
        have hHeld := hHeld'
        clear hHeld'
        (try go_frame)
        clear wc42 gb42 hz42 nv42
        clear ak
        generalize w42.alloc (.cells #[.string nm, .int .i64 (z - 2)] 92) = w43 at PG43 wc43 gb43 hz43 nv43 nb43 hHeld ⊢
        refine held_one 5 (by kernel_rfl) rfl (by rfl) (fun K' hK => ?_)
        go_simp
        (try dsimp only)
        refine hK.out _ _ ⟨wc43.1, gb43.1, gb43.2⟩ (fun hHeld' => ?_)
        clear hK K' hHeld
        have hHeld := hHeld'
        clear hHeld'
        (try go_frame)
        refine held_one 8 (by kernel_rfl) rfl (by rfl) (fun K' hK => ?_)
        have OW := Lib.hid PG43.out.og
        have hsz : A.heap.size ≤ w43.heap.size := by have := PG43.out.keep.size; omega
        refine wp_append_fresh _ _ _ 56 rfl A.heap.size 92 i3 _ 2 24 Tryd.underlying56 hi3 hg0 hg1 hg2 rfl (by decide) vg gs.length (gs.flatMap gCells) rfl OW.out ⟨w42.heap.size, 0, none⟩ 1 1 [.string nm, .int .i64 (z - 2)] rfl rfl (news2 nb43) (by simp [Value.oneCell']) (by rw [← HK.out]; unfold maxLen; omega) (by rw [← HK.out]; omega) hsz ?_
        intro v' w44 hown hgr hfr
        obtain ⟨va, vc, rfl⟩ : ∃ va vc, v' = .slice va (gs.length + 1) vc := owns_slice hown
        have hgk := keep_of_grown hgr
        have PG44 := Lib.hid (PG43.out.pushG (m := ⟨nm, z - 2⟩) hgr hfr hown)
        have hz44 := Nat.le_trans hz43 hgk.size
        have gb44 := bx2 gb43 hgk (fun hm => by have := owns_lt_size PGR.out.og (ownB_mem.1 hm); have := hG.out; omega)
        have wc44 := WCells.keep wc43 hgk (PG43.out.dg.2)
        have nv44 := bx1 nv43 hgk (fun hm => by have := owns_lt_size PGR.out.og (ownB_mem.1 hm); have := hnv.out; omega)
        unfold WCells at wc44
        (try dsimp only)
        refine hK.out _ _ ⟨wc44.1, gb44.1, gb44.2⟩ (fun hHeld' => ?_)
        clear hK K' hHeld
        have hHeld := hHeld'
        clear hHeld'
        (try go_frame)
        clear hown hgr hfr hgk hsz OW wc43 gb43 hz43 nv43 nb43
        refine held_one 13 (by kernel_rfl) rfl (by rfl) (fun K' hK => ?_)
        have OW := Lib.hid PG44.out.ov
        have hsz : A.heap.size ≤ w44.heap.size := by have := PG44.out.keep.size; omega
        have hvl : Hid ((gs.map AGlobal.name).length = k) := Lib.hid (by rw [List.length_map]; exact HK.out.symm)
        refine wp_append_fresh _ _ _ 42 rfl A.heap.size 9 i0 _ 1 16 Tryd.underlying42 hi0 hs0 hs1 hs2 rfl (by decide) u7 (gs.map AGlobal.name).length ((gs.map AGlobal.name).map .string) rfl OW.out ⟨w41.heap.size, 0, none⟩ 1 1 [.string nm] rfl rfl (news1 nv44) (by simp [Value.oneCell']) (by rw [hvl.out]; unfold maxLen; omega) (by rw [hvl.out]; omega) hsz ?_
        intro u' w45 hown hgr hfr
        have hgk := keep_of_grown hgr
        have PG45 := Lib.hid (PG44.out.pushV (x := nm) hgr hfr hown)
        have hz45 := Nat.le_trans hz44 hgk.size
        have gb45 := bx2 gb44 hgk (fun hm => by have := owns_lt_size PGR.out.ov (ownB_mem.1 hm); have := hG.out; omega)
        have wc45 := WCells.keep wc44 hgk (PG44.out.dv.2)
        unfold WCells at wc45
        (try dsimp only)
        refine hK.out _ _ ⟨wc45.1, gb45.1, gb45.2⟩ (fun hHeld' => ?_)
        clear hK K' hHeld
        have hHeld := hHeld'
        clear hHeld'
        (try go_frame)
        clear hown hgr hfr hgk hsz OW wc44 gb44 hz44 nv44
        refine held_take 14 (v := ?vv169) (by kernel_rfl) rfl (by rfl) (by kernel_rfl) (by kernel_rfl) (fun _ _ _ h => h) ?hyy169 (by assumption) ?rest169
        case hyy169 => (intro w hSw; (try dsimp only at hSw); go_simp; (try with_reducible rfl))
        (try go_frame)
        refine held_take 15 (v := ?vv170) (by kernel_rfl) rfl (by rfl) (by kernel_rfl) (by kernel_rfl) (fun _ _ _ h => h) ?hyy170 (by assumption) ?rest170
        case hyy170 => (intro w hSw; (try dsimp only at hSw); go_simp; (try with_reducible rfl))
        (try go_frame)
        refine held_take 16 (v := ?vv171) (by kernel_rfl) rfl (by rfl) (by kernel_rfl) (by kernel_rfl) (fun _ _ _ h => h) ?hyy171 (by assumption) ?rest171
        case hyy171 => (intro w hSw; (try dsimp only at hSw); go_simp; (try with_reducible rfl))
        (try go_frame)
        have fz := PG45.out.free
        have hWl := PG45.out.hW
        refine held_one 17 (by kernel_rfl) rfl (by rfl) (fun K' hK => ?_)
        go_simp
        have hGW : G ∉ [W] := by have := hG.out; simp; omega
        have gb46 := bx2 gb45 ((Keep.refl [W] w45).setCell (p := ⟨W, 1, none⟩) (.inl (List.mem_singleton.2 rfl)) (.slice va (gs.length + 1) vc)) hGW
        have wc46 : WCells W S 24 ar (.slice va (gs.length + 1) vc) vm (.slice none 0 0) (w45.setCell ⟨W, 1, none⟩ (.slice va (gs.length + 1) vc)) := by unfold WCells; exact ⟨by go_simp, by go_simp, by go_simp, by go_simp, by go_simp, by go_simp⟩
        unfold WCells at wc46
        (try dsimp only)
        refine hK.out _ _ ⟨wc46.1, gb46.1, gb46.2⟩ (fun hHeld' => ?_)
        clear hK K' hHeld
        have hHeld := hHeld'
        clear hHeld'
        (try go_frame)
        refine held_take 18 (v := ?vv172) (by kernel_rfl) rfl (by rfl) (by kernel_rfl) (by kernel_rfl) (fun _ _ _ h => h) ?hyy172 (by assumption) ?rest172
        case hyy172 => (intro w hSw; (try dsimp only at hSw); go_simp; (try with_reducible rfl))
        (try go_frame)
        clear hHeld
        refine wpAnyH_done (by kernel_rfl) ?_ _
        have hwk : IntKind.i64.wrap ((k : Int) + 1) = ((k + 1 : Nat) : Int) := IntWalk.i64_in _ (by omega)
        go_wp2_with fail
        go_roundw
        case rel => exact ⟨gs ++ [⟨nm, z - 2⟩], _, by rw [List.length_append, ← HK.out]; go_num, by rw [List.length_append, ← HK.out]; simp; omega, mg_snoc HGS.out ⟨by rw [HNM.out, HB1.out, HK.out], by dsimp only; omega, by dsimp only; omega⟩, by rw [List.map_append]; exact PG45.out.store 1 _, by unfold WCells; exact wc46⟩
        case measure => simp [intOf]; omega
    ·have hgi : ¬ (k : Int) < (n1 : Int) := by omega
     have HGL : Hid (gs.length ≤ 2) := Lib.hid (by have := HK.out; omega)
     clear hgo hgn HK
     go_wp2_with fail
     refine (next_at 4 l a c2 S wr PGR.out.src (HRS.out _ PGR.out.keep) (by omega) (by omega) (by omega)).mono ?_
     intro e w20 hq
     obtain ⟨r, rfl, r0, r1, hs20, hk20⟩ := NextAt.out hq
     have PG20 := Lib.hid (PGR.out.call hk20 hs20)
     have WC20 := Lib.hid (WCells.keep WCR.out hk20 (by have := SL.out; simp; omega))
     obtain ⟨n3, rfl⟩ : ∃ n3 : Nat, r = n3 := ⟨r.toNat, by omega⟩
     clear hq hs20 hk20 wcr PGR WCR
     go_wp2_with fail
     go_loopw [12] (fun u w => lp3 l a c2 A S W R ar gs ms vg vm u7 n3 u w) (fun u _ => n3 + 1 - (intOf u).toNat)
     case atStart => exact ⟨[], (.slice none 0 0), rfl, by simp, fun j h => by simp at h, PG20.out, WC20.out⟩
     case round =>
      obtain ⟨fl, vf, rfl, hfn, HMF, pgr, wcr⟩ := hrel
      obtain ⟨w0, hw0⟩ : ∃ x, x = wr := ⟨_, rfl⟩
      subst hw0
      have PGR := Lib.hid pgr
      have WCR := Lib.hid wcr
      have HFS := Lib.hid HMF
      obtain ⟨k, hk⟩ : ∃ k, k = fl.length := ⟨_, rfl⟩
      have HK := Lib.hid hk
      rw [← hk] at hfn ⊢
      clear pgr HMF hk PG20 WC20
      unfold WCells at wcr
      by_cases hgo : k ≤ n3
      ·have hgi : (k : Int) ≤ (n3 : Int) := by omega
       obtain ⟨b1, hb1⟩ : ∃ b1, b1 = UInt8.ofNat (48 + k) := ⟨_, rfl⟩
       have hwb : 48 + (k : Int) = (b1.toNat : Int) := by rw [hb1]; exact dbyte k (by omega)
       have hbb : b1.toNat < 200 := by omega
       have HB1 := Lib.hid hb1
       obtain ⟨t, ht⟩ : ∃ t, t = bytes [b1] := ⟨_, rfl⟩
       have hts : t.size = 1 := by rw [ht]; rfl
       have HT := Lib.hid ht
       obtain ⟨nm, hnm⟩ : ∃ nm, nm = bytes [102, b1] := ⟨_, rfl⟩
       have hvn : (⟨#[102]⟩ : ByteArray) ++ t = nm := by rw [ht, hnm]; exact bytes_append [102] [b1]
       have HNM := Lib.hid hnm
       have hcv : (convert 23 9 (.slice (some ⟨w0.heap.size, 0, none⟩) 1 1)).run Tryd.prog (w0.alloc (.cells #[.int .u8 b1.toNat] 5)) = .ok (.string t) (w0.alloc (.cells #[.int .u8 b1.toNat] 5)) := by rw [ht]; exact conv_new w0 b1
       clear hb1 ht hnm
       go_upto_region 24 with fail
       obtain ⟨F, hF⟩ : ∃ F, F = w0.heap.size + 1 := ⟨_, rfl⟩
       have KR6 : Keep [S] w0 ((w0.alloc (.cells #[.int .u8 b1.toNat] 5)).alloc (.cells #[.string nm, .slice none 0 0, .slice none 0 0] 76)) := ((Keep.refl _ _).alloc _).alloc _
       have hk6 : Keep [] w0 ((w0.alloc (.cells #[.int .u8 b1.toNat] 5)).alloc (.cells #[.string nm, .slice none 0 0, .slice none 0 0] 76)) := ((Keep.refl _ _).alloc _).alloc _
       have SA6 := PGR.out.src.keep hk6 (by simp)
       have wc6 := WCells.keep WCR.out hk6 (by simp)
       unfold WCells at wc6
       have fb6 : Ce3 ((w0.alloc (.cells #[.int .u8 b1.toNat] 5)).alloc (.cells #[.string nm, .slice none 0 0, .slice none 0 0] 76)) F (.string nm) (.slice none 0 0) (.slice none 0 0) := by rw [hF]; exact ⟨by go_simp, by go_simp, by go_simp⟩
       unfold Ce3 at fb6
       have ff6 : ∀ o, ((w0.alloc (.cells #[.int .u8 b1.toNat] 5)).alloc (.cells #[.string nm, .slice none 0 0, .slice none 0 0] 76)).frozen? ⟨F, o, none⟩ = false := fun o => by rw [hF]; go_simp
       have hWr := PGR.out.hW
       have hSr := PGR.out.src.lt
       have HFr : Hid (w0.heap.size ≤ F) := Lib.hid (by omega)
       have HF : Hid (F ≠ S ∧ F ≠ W) := Lib.hid (by omega)
       have HSR := Lib.hid hSr
       have HWR := Lib.hid hWr
       rw [← hF]
       clear hk6 hF wcr hcv hWr hSr hwb hbb
       generalize ((w0.alloc (.cells #[.int .u8 b1.toNat] 5)).alloc (.cells #[.string nm, .slice none 0 0, .slice none 0 0] 76)) = w6 at KR6 SA6 wc6 fb6 ff6 ⊢
       by_cases hk0 : k = 0
       ·have hb0 : ((k : Int) == 0) = true := by simp [hk0]
        go_upto_region 26 with fail
        have hk7 : Keep [F] w6 (w6.setCell ⟨F, 0, none⟩ (.string ⟨#[109, 97, 105, 110]⟩)) := ((Keep.refl [F] w6).setCell (p := ⟨F, 0, none⟩) (.inl (List.mem_singleton.2 rfl)) (.string ⟨#[109, 97, 105, 110]⟩))
        have KR7 := KR6.grow hk7 (fun x hx => by have := HFr.out; simp at hx; omega)
        have SA7 := SA6.keep hk7 (by have := HF.out; simp; omega)
        have wc7 := WCells.keep wc6 hk7 (by have := HF.out; simp; omega)
        have fb7 : Ce3 (w6.setCell ⟨F, 0, none⟩ (.string ⟨#[109, 97, 105, 110]⟩)) F (.string ⟨#[109, 97, 105, 110]⟩) (.slice none 0 0) (.slice none 0 0) := ⟨by go_simp, by go_simp, by go_simp⟩
        unfold Ce3 at fb7
        have ff7 : ∀ o, (w6.setCell ⟨F, 0, none⟩ (.string ⟨#[109, 97, 105, 110]⟩)).frozen? ⟨F, o, none⟩ = false := fun o => by have h9 := ff6 o; go_simp
        unfold WCells at wc7
        clear KR6 SA6 wc6 fb6 ff6
        clear hk7
        generalize (w6.setCell ⟨F, 0, none⟩ (.string ⟨#[109, 97, 105, 110]⟩)) = w7 at KR7 SA7 wc7 fb7 ff7 ⊢
        go_wp2_with fail
        refine (next_at 3 l a c2 S w7 SA7 (HRS.out _ (PGR.out.call KR7 SA7).keep) (by omega) (by omega) (by omega)).mono ?_
        intro e w8 hq
        obtain ⟨q2, rfl, q20, q21, sa, hk8⟩ := NextAt.out hq
        clear hq
        have KR8 := KR7.trans hk8
        have SA8 := sa
        have wc8 := WCells.keep wc7 hk8 (by have := SL.out; simp; omega)
        have fb8 := bx3 fb7 hk8 (by have := HF.out; simp; omega)
        have ff8 := frk ff7 (cell_lt fb7.1) hk8 (by have := HF.out; simp; omega)
        unfold WCells at wc8
        clear KR7 SA7 wc7 fb7 ff7
        clear hk8 sa
        obtain ⟨n4, rfl⟩ : ∃ n4 : Nat, q2 = n4 := ⟨q2.toNat, by omega⟩
        go_wp2_with fail
        go_loopw [14] (fun u w => lp4 l a c2 w0 S W ar vg vm vf F ⟨#[109, 97, 105, 110]⟩ n4 k u w) (fun u _ => (intOf u).toNat)
        case atStart => exact ⟨n4, [], (.slice none 0 0), rfl, by simp, fun _ => rfl, fun j h => by simp at h, KR8, SA8, wc8, fb8, ff8, ownsRow_nil _ _ _ _, by simp [ownB, Value.ownBlock]⟩
        case round =>
         obtain ⟨m, ps, vp, rfl, hmp, hz, HPN, KR30, SA30, wc30, fb30, ff30, pr30, hFv⟩ := hrel
         obtain ⟨w30, hw30⟩ : ∃ x, x = wr := ⟨_, rfl⟩
         subst hw30
         have HPS := Lib.hid HPN
         have HZ := Lib.hid hz
         have HFV := Lib.hid hFv
         unfold WCells at wc30
         clear KR8 SA8 wc8 fb8 ff8 HPN hz hFv
         have hps : ps = [] := HZ.out hk0
         subst hps
         have hkz : ¬ (0 : Int) < (k : Int) := by omega
         by_cases hm0 : 0 < m
         ·have hmi : (0 : Int) < (m : Int) := by omega
          obtain ⟨va, vc, rfl⟩ : ∃ va vc, vp = .slice va [].length vc := owns_slice pr30
          rw [show (([] : List AParam).length) = 0 from rfl] at *
          go_upto_region 31 with fail
          have hdr : Keep [] w30 w30.drew := (Keep.refl _ _).drew
          have KR31 := KR30.trans (hdr.mono (fun x hx => by simp at hx))
          have SA31 := SA30.keep hdr (by simp)
          have wc31 := WCells.keep wc30 hdr (by simp)
          have fb31 := bx3 fb30 hdr (by simp)
          have ff31 := frk ff30 (cell_lt fb30.1) hdr (by simp)
          have pr31 := ownsRow_keepD pr30 hdr (fun g hg hm => by simp at hm)
          unfold WCells at wc31
          refine wp_region_held_drew (S := fun w' => w'.cell? ⟨W, 0, none⟩ = some (.pointer (some ⟨S, 0, none⟩)) ∧ w'.cell? ⟨F, 0, none⟩ = some (.string ⟨#[109, 97, 105, 110]⟩) ∧ w'.cell? ⟨F, 1, none⟩ = some (.slice va 0 vc) ∧ w'.cell? ⟨F, 2, none⟩ = some (.slice none 0 0)) (by kernel_rfl) ⟨wc31.1, fb31.1, fb31.2.1, fb31.2.2⟩ (fun hHeld => ?_)
          clear KR30 SA30 wc30 fb30 ff30 pr30
          clear hdr
          generalize w30.drew = w31 at KR31 SA31 wc31 fb31 ff31 pr31 hHeld ⊢
          refine held_take 0 (v := ?vv96) (by kernel_rfl) rfl (by rfl) (by kernel_rfl) (by kernel_rfl) (fun _ _ _ h => h) ?hyy96 (by assumption) ?rest96
          case hyy96 => (intro w hSw; (try dsimp only at hSw); go_simp; (try with_reducible rfl))
          (try go_frame)
          refine held_take 1 (v := ?vv97) (by kernel_rfl) rfl (by rfl) (by kernel_rfl) (by kernel_rfl) (fun _ _ _ h => h) ?hyy97 (by assumption) ?rest97
          case hyy97 => (intro w hSw; (try dsimp only at hSw); go_simp; (try with_reducible rfl))
          (try go_frame)
          refine held_take 2 (v := ?vv98) (by kernel_rfl) rfl (by rfl) (by kernel_rfl) (by kernel_rfl) (fun _ _ _ h => h) ?hyy98 (by assumption) ?rest98
          case hyy98 => (intro w hSw; (try dsimp only at hSw); go_simp; (try with_reducible rfl))
          (try go_frame)
          refine held_take 3 (v := ?vv99) (by kernel_rfl) rfl (by rfl) (by kernel_rfl) (by kernel_rfl) (fun _ _ _ h => h) ?hyy99 (by assumption) ?rest99
          case hyy99 => (intro w hSw; (try dsimp only at hSw); go_simp; (try with_reducible rfl))
          (try go_frame)
          refine held_take 4 (v := ?vv100) (by kernel_rfl) rfl (by rfl) (by kernel_rfl) (by kernel_rfl) (fun _ _ _ h => h) ?hyy100 (by assumption) ?rest100
          case hyy100 => (intro w hSw; (try dsimp only at hSw); go_simp; (try with_reducible rfl))
          (try go_frame)
          refine held_take 6 (v := ?vv101) (by kernel_rfl) rfl (by rfl) (by kernel_rfl) (by kernel_rfl) (fun _ _ _ h => h) ?hyy101 (by assumption) ?rest101
          case hyy101 => (intro w hSw; (try dsimp only at hSw); go_simp; (try with_reducible rfl))
          (try go_frame)
          refine held_pair 5 7 (by kernel_rfl) rfl rfl (by rfl) (by rfl) (fun K' hK => ?_) (fun K' hK => ?_)
          ·go_simp
           (try dsimp only)
           refine hK.out _ _ ⟨wc31.1, fb31.1, fb31.2.1, fb31.2.2⟩ (fun hHeld' => ?_)
           clear hK K' hHeld
           have hHeld := hHeld'
           clear hHeld'
           (try go_frame)
           refine held_one 7 (by kernel_rfl) rfl (by rfl) (fun K' hK => ?_)
           go_simp
           have hka : Keep [] w31 (w31.alloc (.cells #[.string ⟨#[109, 97, 105, 110]⟩, .slice va 0 vc, .slice none 0 0] 76)) := (Keep.refl _ _).alloc _
           have KR32 := KR31.trans (hka.mono (fun x hx => by simp at hx))
           have SA32 := SA31.keep hka (by simp)
           have wc32 := WCells.keep wc31 hka (by simp)
           have fb32 := bx3 fb31 hka (by simp)
           have ff32 := frk ff31 (cell_lt fb31.1) hka (by simp)
           have pr32 := ownsRow_keepD pr31 hka (fun g hg hm => by simp at hm)
           unfold WCells at wc32
           (try dsimp only)
           refine hK.out _ _ ⟨wc32.1, fb32.1, fb32.2.1, fb32.2.2⟩ (fun hHeld' => ?_)
           clear hK K' hHeld
           have hHeld := hHeld'
           clear hHeld'
           (try go_frame)
           have PG32 := Lib.hid (PGR.out.call KR32 SA32)
           obtain ⟨rows, hr1, hr2, hr3⟩ := PG32.out.oF.holds
           have HR2 := Lib.hid hr2
           have HR3 := Lib.hid hr3
           clear hr2 hr3
           have hsz : A.heap.size ≤ w31.heap.size := by have := PG32.out.lS; have := (SrcAt.lt SA31); omega
           clear KR31 SA31 fb31 ff31 pr31
           clear hka
           clear wc31
           refine held_one 8 (by kernel_rfl) rfl (by rfl) (fun K' hK => ?_)
           have HSG : Hid (SigRow (hideL (ownB vf ++ [S, W, R]) (w31.alloc (.cells #[.string ⟨#[109, 97, 105, 110]⟩, .slice va 0 vc, .slice none 0 0] 76))) (⟨#[109, 97, 105, 110]⟩, []) [.string ⟨#[109, 97, 105, 110]⟩, .slice va 0 vc, .slice none 0 0]) := Lib.hid ⟨va, vc, rfl, plist pr32 (fun x hx => by have := HSR.out; have := HWR.out; rcases List.mem_append.1 hx with hx | hx; obtain ⟨rows, _, _, h3⟩ := PGR.out.oF.holds; exact owns_lt_size h3 (ownB_mem.1 hx); have := PGR.out.keep.size; have := HAS.out; simp at hx; rcases hx with rfl | rfl | rfl <;> omega)⟩
           refine wp_append_fresh _ _ _ 58 rfl A.heap.size 76 i4 _ 3 64 Tryd.underlying58 hi4 hf0 hf1 hf2 rfl (by decide) vf fl.length rows.flatten rfl HR3.out ⟨w31.heap.size, 0, none⟩ 1 1 [.string ⟨#[109, 97, 105, 110]⟩, .slice va 0 vc, .slice none 0 0] rfl rfl (new_cells _ _ _) (by simp [Value.oneCell']) (by rw [← HK.out]; unfold maxLen; omega) (by rw [← HK.out]; omega) (by simp; omega) ?_
           intro v' w33 hown hgr hfr
           obtain ⟨va', vc', rfl⟩ : ∃ va vc, v' = .slice va (fl.length + 1) vc := owns_slice hown
           have hgk := keep_of_grown hgr
           have hFw : F ∉ ownB vf := fun hm => by obtain ⟨rows, _, _, h3⟩ := PGR.out.oF.holds; have := owns_lt_size h3 (ownB_mem.1 hm); have := HFr.out; omega
           have PG33 := Lib.hid (PgSt.pushF (s := (⟨#[109, 97, 105, 110]⟩, [])) (row := [.string ⟨#[109, 97, 105, 110]⟩, .slice va 0 vc, .slice none 0 0]) rows PG32.out hr1 HR2.out HR3.out HSG.out hgr (by simpa using hfr) hown)
           have wc33 := WCells.keep wc32 hgk PG32.out.df.2
           have fb33 := bx3 fb32 hgk hFw
           (try dsimp only)
           unfold WCells at wc33
           refine hK.out _ _ ⟨wc33.1, fb33.1, fb33.2.1, fb33.2.2⟩ (fun hHeld' => ?_)
           clear hK K' hHeld
           have hHeld := hHeld'
           clear hHeld'
           (try go_frame)
           clear KR32 SA32 wc32 fb32 ff32 pr32 hown hgr hfr hgk
           have fz33 := PG33.out.free
           have hWl := PG33.out.hW
           refine held_take 9 (v := ?vv102) (by kernel_rfl) rfl (by rfl) (by kernel_rfl) (by kernel_rfl) (fun _ _ _ h => h) ?hyy102 (by assumption) ?rest102
           case hyy102 => (intro w hSw; (try dsimp only at hSw); go_simp; (try with_reducible rfl))
           (try go_frame)
           refine held_take 10 (v := ?vv103) (by kernel_rfl) rfl (by rfl) (by kernel_rfl) (by kernel_rfl) (fun _ _ _ h => h) ?hyy103 (by assumption) ?rest103
           case hyy103 => (intro w hSw; (try dsimp only at hSw); go_simp; (try with_reducible rfl))
           (try go_frame)
           refine held_take 11 (v := ?vv104) (by kernel_rfl) rfl (by rfl) (by kernel_rfl) (by kernel_rfl) (fun _ _ _ h => h) ?hyy104 (by assumption) ?rest104
           case hyy104 => (intro w hSw; (try dsimp only at hSw); go_simp; (try with_reducible rfl))
           (try go_frame)
           refine held_one 12 (by kernel_rfl) rfl (by rfl) (fun K' hK => ?_)
           go_simp
           have PG34 := Lib.hid (PG33.out.store 3 (.slice va' (fl.length + 1) vc'))
           have wc34 : WCells W S 24 ar vg vm (.slice va' (fl.length + 1) vc') (w33.setCell ⟨W, 3, none⟩ (.slice va' (fl.length + 1) vc')) := by unfold WCells; exact ⟨by go_simp, by go_simp, by go_simp, by go_simp, by go_simp, by go_simp⟩
           have hFW : F ∉ [W] := by have := HF.out; simp; omega
           have fb34 := bx3 fb33 ((Keep.refl [W] w33).setCell (p := ⟨W, 3, none⟩) (.inl (List.mem_singleton.2 rfl)) (.slice va' (fl.length + 1) vc')) hFW
           (try dsimp only)
           refine hK.out _ _ ⟨wc34.1, fb34.1, fb34.2.1, fb34.2.2⟩ (fun hHeld' => ?_)
           clear hK K' hHeld hHeld'
           (try go_frame)
           refine wpAnyH_done (by kernel_rfl) ?_ _
           have hwk : IntKind.i64.wrap ((k : Int) + 1) = ((k + 1 : Nat) : Int) := IntWalk.i64_in _ (by omega)
           go_wp2_with fail
           go_roundw
           case rel => exact ⟨fl ++ [(⟨#[109, 97, 105, 110]⟩, [])], _, by rw [List.length_append, ← HK.out]; go_num, by rw [List.length_append, ← HK.out]; simp; omega, mf_snoc HFS.out (mf_main (by rw [← HK.out]; exact hk0)), PG34.out, wc34⟩
           case measure => simp [intOf]; omega
          ·go_simp
           have hka : Keep [] w31 (w31.alloc (.cells #[.string ⟨#[109, 97, 105, 110]⟩, .slice va 0 vc, .slice none 0 0] 76)) := (Keep.refl _ _).alloc _
           have KR32 := KR31.trans (hka.mono (fun x hx => by simp at hx))
           have SA32 := SA31.keep hka (by simp)
           have wc32 := WCells.keep wc31 hka (by simp)
           have fb32 := bx3 fb31 hka (by simp)
           have ff32 := frk ff31 (cell_lt fb31.1) hka (by simp)
           have pr32 := ownsRow_keepD pr31 hka (fun g hg hm => by simp at hm)
           unfold WCells at wc32
           (try dsimp only)
           refine hK.out _ _ ⟨wc32.1, fb32.1, fb32.2.1, fb32.2.2⟩ (fun hHeld' => ?_)
           clear hK K' hHeld
           have hHeld := hHeld'
           clear hHeld'
           (try go_frame)
           have PG32 := Lib.hid (PGR.out.call KR32 SA32)
           obtain ⟨rows, hr1, hr2, hr3⟩ := PG32.out.oF.holds
           have HR2 := Lib.hid hr2
           have HR3 := Lib.hid hr3
           clear hr2 hr3
           have hsz : A.heap.size ≤ w31.heap.size := by have := PG32.out.lS; have := (SrcAt.lt SA31); omega
           clear KR31 SA31 fb31 ff31 pr31
           clear hka
           clear wc31
           refine held_one 5 (by kernel_rfl) rfl (by rfl) (fun K' hK => ?_)
           go_simp
           (try dsimp only)
           refine hK.out _ _ ⟨wc32.1, fb32.1, fb32.2.1, fb32.2.2⟩ (fun hHeld' => ?_)
           clear hK K' hHeld
           have hHeld := hHeld'
           clear hHeld'
           (try go_frame)
           refine held_one 8 (by kernel_rfl) rfl (by rfl) (fun K' hK => ?_)
           have HSG : Hid (SigRow (hideL (ownB vf ++ [S, W, R]) (w31.alloc (.cells #[.string ⟨#[109, 97, 105, 110]⟩, .slice va 0 vc, .slice none 0 0] 76))) (⟨#[109, 97, 105, 110]⟩, []) [.string ⟨#[109, 97, 105, 110]⟩, .slice va 0 vc, .slice none 0 0]) := Lib.hid ⟨va, vc, rfl, plist pr32 (fun x hx => by have := HSR.out; have := HWR.out; rcases List.mem_append.1 hx with hx | hx; obtain ⟨rows, _, _, h3⟩ := PGR.out.oF.holds; exact owns_lt_size h3 (ownB_mem.1 hx); have := PGR.out.keep.size; have := HAS.out; simp at hx; rcases hx with rfl | rfl | rfl <;> omega)⟩
           refine wp_append_fresh _ _ _ 58 rfl A.heap.size 76 i4 _ 3 64 Tryd.underlying58 hi4 hf0 hf1 hf2 rfl (by decide) vf fl.length rows.flatten rfl HR3.out ⟨w31.heap.size, 0, none⟩ 1 1 [.string ⟨#[109, 97, 105, 110]⟩, .slice va 0 vc, .slice none 0 0] rfl rfl (new_cells _ _ _) (by simp [Value.oneCell']) (by rw [← HK.out]; unfold maxLen; omega) (by rw [← HK.out]; omega) (by simp; omega) ?_
           intro v' w33 hown hgr hfr
           obtain ⟨va', vc', rfl⟩ : ∃ va vc, v' = .slice va (fl.length + 1) vc := owns_slice hown
           have hgk := keep_of_grown hgr
           have hFw : F ∉ ownB vf := fun hm => by obtain ⟨rows, _, _, h3⟩ := PGR.out.oF.holds; have := owns_lt_size h3 (ownB_mem.1 hm); have := HFr.out; omega
           have PG33 := Lib.hid (PgSt.pushF (s := (⟨#[109, 97, 105, 110]⟩, [])) (row := [.string ⟨#[109, 97, 105, 110]⟩, .slice va 0 vc, .slice none 0 0]) rows PG32.out hr1 HR2.out HR3.out HSG.out hgr (by simpa using hfr) hown)
           have wc33 := WCells.keep wc32 hgk PG32.out.df.2
           have fb33 := bx3 fb32 hgk hFw
           (try dsimp only)
           unfold WCells at wc33
           refine hK.out _ _ ⟨wc33.1, fb33.1, fb33.2.1, fb33.2.2⟩ (fun hHeld' => ?_)
           clear hK K' hHeld
           have hHeld := hHeld'
           clear hHeld'
           (try go_frame)
           clear KR32 SA32 wc32 fb32 ff32 pr32 hown hgr hfr hgk
           have fz33 := PG33.out.free
           have hWl := PG33.out.hW
           refine held_take 9 (v := ?vv105) (by kernel_rfl) rfl (by rfl) (by kernel_rfl) (by kernel_rfl) (fun _ _ _ h => h) ?hyy105 (by assumption) ?rest105
           case hyy105 => (intro w hSw; (try dsimp only at hSw); go_simp; (try with_reducible rfl))
           (try go_frame)
           refine held_take 10 (v := ?vv106) (by kernel_rfl) rfl (by rfl) (by kernel_rfl) (by kernel_rfl) (fun _ _ _ h => h) ?hyy106 (by assumption) ?rest106
           case hyy106 => (intro w hSw; (try dsimp only at hSw); go_simp; (try with_reducible rfl))
           (try go_frame)
           refine held_take 11 (v := ?vv107) (by kernel_rfl) rfl (by rfl) (by kernel_rfl) (by kernel_rfl) (fun _ _ _ h => h) ?hyy107 (by assumption) ?rest107
           case hyy107 => (intro w hSw; (try dsimp only at hSw); go_simp; (try with_reducible rfl))
           (try go_frame)
           refine held_one 12 (by kernel_rfl) rfl (by rfl) (fun K' hK => ?_)
           go_simp
           have PG34 := Lib.hid (PG33.out.store 3 (.slice va' (fl.length + 1) vc'))
           have wc34 : WCells W S 24 ar vg vm (.slice va' (fl.length + 1) vc') (w33.setCell ⟨W, 3, none⟩ (.slice va' (fl.length + 1) vc')) := by unfold WCells; exact ⟨by go_simp, by go_simp, by go_simp, by go_simp, by go_simp, by go_simp⟩
           have hFW : F ∉ [W] := by have := HF.out; simp; omega
           have fb34 := bx3 fb33 ((Keep.refl [W] w33).setCell (p := ⟨W, 3, none⟩) (.inl (List.mem_singleton.2 rfl)) (.slice va' (fl.length + 1) vc')) hFW
           (try dsimp only)
           refine hK.out _ _ ⟨wc34.1, fb34.1, fb34.2.1, fb34.2.2⟩ (fun hHeld' => ?_)
           clear hK K' hHeld hHeld'
           (try go_frame)
           refine wpAnyH_done (by kernel_rfl) ?_ _
           have hwk : IntKind.i64.wrap ((k : Int) + 1) = ((k + 1 : Nat) : Int) := IntWalk.i64_in _ (by omega)
           go_wp2_with fail
           go_roundw
           case rel => exact ⟨fl ++ [(⟨#[109, 97, 105, 110]⟩, [])], _, by rw [List.length_append, ← HK.out]; go_num, by rw [List.length_append, ← HK.out]; simp; omega, mf_snoc HFS.out (mf_main (by rw [← HK.out]; exact hk0)), PG34.out, wc34⟩
           case measure => simp [intOf]; omega
         ·have hmi : ¬ (0 : Int) < (m : Int) := by omega
          obtain ⟨va, vc, rfl⟩ : ∃ va vc, vp = .slice va [].length vc := owns_slice pr30
          rw [show (([] : List AParam).length) = 0 from rfl] at *
          go_upto_region 31 with fail
          have hdr : Keep [] w30 w30.drew := (Keep.refl _ _).drew
          have KR31 := KR30.trans (hdr.mono (fun x hx => by simp at hx))
          have SA31 := SA30.keep hdr (by simp)
          have wc31 := WCells.keep wc30 hdr (by simp)
          have fb31 := bx3 fb30 hdr (by simp)
          have ff31 := frk ff30 (cell_lt fb30.1) hdr (by simp)
          have pr31 := ownsRow_keepD pr30 hdr (fun g hg hm => by simp at hm)
          unfold WCells at wc31
          refine wp_region_held_drew (S := fun w' => w'.cell? ⟨W, 0, none⟩ = some (.pointer (some ⟨S, 0, none⟩)) ∧ w'.cell? ⟨F, 0, none⟩ = some (.string ⟨#[109, 97, 105, 110]⟩) ∧ w'.cell? ⟨F, 1, none⟩ = some (.slice va 0 vc) ∧ w'.cell? ⟨F, 2, none⟩ = some (.slice none 0 0)) (by kernel_rfl) ⟨wc31.1, fb31.1, fb31.2.1, fb31.2.2⟩ (fun hHeld => ?_)
          clear KR30 SA30 wc30 fb30 ff30 pr30
          clear hdr
          generalize w30.drew = w31 at KR31 SA31 wc31 fb31 ff31 pr31 hHeld ⊢
          refine held_take 0 (v := ?vv108) (by kernel_rfl) rfl (by rfl) (by kernel_rfl) (by kernel_rfl) (fun _ _ _ h => h) ?hyy108 (by assumption) ?rest108
          case hyy108 => (intro w hSw; (try dsimp only at hSw); go_simp; (try with_reducible rfl))
          (try go_frame)
          refine held_take 1 (v := ?vv109) (by kernel_rfl) rfl (by rfl) (by kernel_rfl) (by kernel_rfl) (fun _ _ _ h => h) ?hyy109 (by assumption) ?rest109
          case hyy109 => (intro w hSw; (try dsimp only at hSw); go_simp; (try with_reducible rfl))
          (try go_frame)
          refine held_take 2 (v := ?vv110) (by kernel_rfl) rfl (by rfl) (by kernel_rfl) (by kernel_rfl) (fun _ _ _ h => h) ?hyy110 (by assumption) ?rest110
          case hyy110 => (intro w hSw; (try dsimp only at hSw); go_simp; (try with_reducible rfl))
          (try go_frame)
          refine held_take 3 (v := ?vv111) (by kernel_rfl) rfl (by rfl) (by kernel_rfl) (by kernel_rfl) (fun _ _ _ h => h) ?hyy111 (by assumption) ?rest111
          case hyy111 => (intro w hSw; (try dsimp only at hSw); go_simp; (try with_reducible rfl))
          (try go_frame)
          refine held_take 4 (v := ?vv112) (by kernel_rfl) rfl (by rfl) (by kernel_rfl) (by kernel_rfl) (fun _ _ _ h => h) ?hyy112 (by assumption) ?rest112
          case hyy112 => (intro w hSw; (try dsimp only at hSw); go_simp; (try with_reducible rfl))
          (try go_frame)
          refine held_take 6 (v := ?vv113) (by kernel_rfl) rfl (by rfl) (by kernel_rfl) (by kernel_rfl) (fun _ _ _ h => h) ?hyy113 (by assumption) ?rest113
          case hyy113 => (intro w hSw; (try dsimp only at hSw); go_simp; (try with_reducible rfl))
          (try go_frame)
          refine held_pair 5 7 (by kernel_rfl) rfl rfl (by rfl) (by rfl) (fun K' hK => ?_) (fun K' hK => ?_)
          ·go_simp
           (try dsimp only)
           refine hK.out _ _ ⟨wc31.1, fb31.1, fb31.2.1, fb31.2.2⟩ (fun hHeld' => ?_)
           clear hK K' hHeld
           have hHeld := hHeld'
           clear hHeld'
           (try go_frame)
           refine held_one 7 (by kernel_rfl) rfl (by rfl) (fun K' hK => ?_)
           go_simp
           have hka : Keep [] w31 (w31.alloc (.cells #[.string ⟨#[109, 97, 105, 110]⟩, .slice va 0 vc, .slice none 0 0] 76)) := (Keep.refl _ _).alloc _
           have KR32 := KR31.trans (hka.mono (fun x hx => by simp at hx))
           have SA32 := SA31.keep hka (by simp)
           have wc32 := WCells.keep wc31 hka (by simp)
           have fb32 := bx3 fb31 hka (by simp)
           have ff32 := frk ff31 (cell_lt fb31.1) hka (by simp)
           have pr32 := ownsRow_keepD pr31 hka (fun g hg hm => by simp at hm)
           unfold WCells at wc32
           (try dsimp only)
           refine hK.out _ _ ⟨wc32.1, fb32.1, fb32.2.1, fb32.2.2⟩ (fun hHeld' => ?_)
           clear hK K' hHeld
           have hHeld := hHeld'
           clear hHeld'
           (try go_frame)
           have PG32 := Lib.hid (PGR.out.call KR32 SA32)
           obtain ⟨rows, hr1, hr2, hr3⟩ := PG32.out.oF.holds
           have HR2 := Lib.hid hr2
           have HR3 := Lib.hid hr3
           clear hr2 hr3
           have hsz : A.heap.size ≤ w31.heap.size := by have := PG32.out.lS; have := (SrcAt.lt SA31); omega
           clear KR31 SA31 fb31 ff31 pr31
           clear hka
           clear wc31
           refine held_one 8 (by kernel_rfl) rfl (by rfl) (fun K' hK => ?_)
           have HSG : Hid (SigRow (hideL (ownB vf ++ [S, W, R]) (w31.alloc (.cells #[.string ⟨#[109, 97, 105, 110]⟩, .slice va 0 vc, .slice none 0 0] 76))) (⟨#[109, 97, 105, 110]⟩, []) [.string ⟨#[109, 97, 105, 110]⟩, .slice va 0 vc, .slice none 0 0]) := Lib.hid ⟨va, vc, rfl, plist pr32 (fun x hx => by have := HSR.out; have := HWR.out; rcases List.mem_append.1 hx with hx | hx; obtain ⟨rows, _, _, h3⟩ := PGR.out.oF.holds; exact owns_lt_size h3 (ownB_mem.1 hx); have := PGR.out.keep.size; have := HAS.out; simp at hx; rcases hx with rfl | rfl | rfl <;> omega)⟩
           refine wp_append_fresh _ _ _ 58 rfl A.heap.size 76 i4 _ 3 64 Tryd.underlying58 hi4 hf0 hf1 hf2 rfl (by decide) vf fl.length rows.flatten rfl HR3.out ⟨w31.heap.size, 0, none⟩ 1 1 [.string ⟨#[109, 97, 105, 110]⟩, .slice va 0 vc, .slice none 0 0] rfl rfl (new_cells _ _ _) (by simp [Value.oneCell']) (by rw [← HK.out]; unfold maxLen; omega) (by rw [← HK.out]; omega) (by simp; omega) ?_
           intro v' w33 hown hgr hfr
           obtain ⟨va', vc', rfl⟩ : ∃ va vc, v' = .slice va (fl.length + 1) vc := owns_slice hown
           have hgk := keep_of_grown hgr
           have hFw : F ∉ ownB vf := fun hm => by obtain ⟨rows, _, _, h3⟩ := PGR.out.oF.holds; have := owns_lt_size h3 (ownB_mem.1 hm); have := HFr.out; omega
           have PG33 := Lib.hid (PgSt.pushF (s := (⟨#[109, 97, 105, 110]⟩, [])) (row := [.string ⟨#[109, 97, 105, 110]⟩, .slice va 0 vc, .slice none 0 0]) rows PG32.out hr1 HR2.out HR3.out HSG.out hgr (by simpa using hfr) hown)
           have wc33 := WCells.keep wc32 hgk PG32.out.df.2
           have fb33 := bx3 fb32 hgk hFw
           (try dsimp only)
           unfold WCells at wc33
           refine hK.out _ _ ⟨wc33.1, fb33.1, fb33.2.1, fb33.2.2⟩ (fun hHeld' => ?_)
           clear hK K' hHeld
           have hHeld := hHeld'
           clear hHeld'
           (try go_frame)
           clear KR32 SA32 wc32 fb32 ff32 pr32 hown hgr hfr hgk
           have fz33 := PG33.out.free
           have hWl := PG33.out.hW
           refine held_take 9 (v := ?vv114) (by kernel_rfl) rfl (by rfl) (by kernel_rfl) (by kernel_rfl) (fun _ _ _ h => h) ?hyy114 (by assumption) ?rest114
           case hyy114 => (intro w hSw; (try dsimp only at hSw); go_simp; (try with_reducible rfl))
           (try go_frame)
           refine held_take 10 (v := ?vv115) (by kernel_rfl) rfl (by rfl) (by kernel_rfl) (by kernel_rfl) (fun _ _ _ h => h) ?hyy115 (by assumption) ?rest115
           case hyy115 => (intro w hSw; (try dsimp only at hSw); go_simp; (try with_reducible rfl))
           (try go_frame)
           refine held_take 11 (v := ?vv116) (by kernel_rfl) rfl (by rfl) (by kernel_rfl) (by kernel_rfl) (fun _ _ _ h => h) ?hyy116 (by assumption) ?rest116
           case hyy116 => (intro w hSw; (try dsimp only at hSw); go_simp; (try with_reducible rfl))
           (try go_frame)
           refine held_one 12 (by kernel_rfl) rfl (by rfl) (fun K' hK => ?_)
           go_simp
           have PG34 := Lib.hid (PG33.out.store 3 (.slice va' (fl.length + 1) vc'))
           have wc34 : WCells W S 24 ar vg vm (.slice va' (fl.length + 1) vc') (w33.setCell ⟨W, 3, none⟩ (.slice va' (fl.length + 1) vc')) := by unfold WCells; exact ⟨by go_simp, by go_simp, by go_simp, by go_simp, by go_simp, by go_simp⟩
           have hFW : F ∉ [W] := by have := HF.out; simp; omega
           have fb34 := bx3 fb33 ((Keep.refl [W] w33).setCell (p := ⟨W, 3, none⟩) (.inl (List.mem_singleton.2 rfl)) (.slice va' (fl.length + 1) vc')) hFW
           (try dsimp only)
           refine hK.out _ _ ⟨wc34.1, fb34.1, fb34.2.1, fb34.2.2⟩ (fun hHeld' => ?_)
           clear hK K' hHeld hHeld'
           (try go_frame)
           refine wpAnyH_done (by kernel_rfl) ?_ _
           have hwk : IntKind.i64.wrap ((k : Int) + 1) = ((k + 1 : Nat) : Int) := IntWalk.i64_in _ (by omega)
           go_wp2_with fail
           go_roundw
           case rel => exact ⟨fl ++ [(⟨#[109, 97, 105, 110]⟩, [])], _, by rw [List.length_append, ← HK.out]; go_num, by rw [List.length_append, ← HK.out]; simp; omega, mf_snoc HFS.out (mf_main (by rw [← HK.out]; exact hk0)), PG34.out, wc34⟩
           case measure => simp [intOf]; omega
          ·go_simp
           have hka : Keep [] w31 (w31.alloc (.cells #[.string ⟨#[109, 97, 105, 110]⟩, .slice va 0 vc, .slice none 0 0] 76)) := (Keep.refl _ _).alloc _
           have KR32 := KR31.trans (hka.mono (fun x hx => by simp at hx))
           have SA32 := SA31.keep hka (by simp)
           have wc32 := WCells.keep wc31 hka (by simp)
           have fb32 := bx3 fb31 hka (by simp)
           have ff32 := frk ff31 (cell_lt fb31.1) hka (by simp)
           have pr32 := ownsRow_keepD pr31 hka (fun g hg hm => by simp at hm)
           unfold WCells at wc32
           (try dsimp only)
           refine hK.out _ _ ⟨wc32.1, fb32.1, fb32.2.1, fb32.2.2⟩ (fun hHeld' => ?_)
           clear hK K' hHeld
           have hHeld := hHeld'
           clear hHeld'
           (try go_frame)
           have PG32 := Lib.hid (PGR.out.call KR32 SA32)
           obtain ⟨rows, hr1, hr2, hr3⟩ := PG32.out.oF.holds
           have HR2 := Lib.hid hr2
           have HR3 := Lib.hid hr3
           clear hr2 hr3
           have hsz : A.heap.size ≤ w31.heap.size := by have := PG32.out.lS; have := (SrcAt.lt SA31); omega
           clear KR31 SA31 fb31 ff31 pr31
           clear hka
           clear wc31
           refine held_one 5 (by kernel_rfl) rfl (by rfl) (fun K' hK => ?_)
           go_simp
           (try dsimp only)
           refine hK.out _ _ ⟨wc32.1, fb32.1, fb32.2.1, fb32.2.2⟩ (fun hHeld' => ?_)
           clear hK K' hHeld
           have hHeld := hHeld'
           clear hHeld'
           (try go_frame)
           refine held_one 8 (by kernel_rfl) rfl (by rfl) (fun K' hK => ?_)
           have HSG : Hid (SigRow (hideL (ownB vf ++ [S, W, R]) (w31.alloc (.cells #[.string ⟨#[109, 97, 105, 110]⟩, .slice va 0 vc, .slice none 0 0] 76))) (⟨#[109, 97, 105, 110]⟩, []) [.string ⟨#[109, 97, 105, 110]⟩, .slice va 0 vc, .slice none 0 0]) := Lib.hid ⟨va, vc, rfl, plist pr32 (fun x hx => by have := HSR.out; have := HWR.out; rcases List.mem_append.1 hx with hx | hx; obtain ⟨rows, _, _, h3⟩ := PGR.out.oF.holds; exact owns_lt_size h3 (ownB_mem.1 hx); have := PGR.out.keep.size; have := HAS.out; simp at hx; rcases hx with rfl | rfl | rfl <;> omega)⟩
           refine wp_append_fresh _ _ _ 58 rfl A.heap.size 76 i4 _ 3 64 Tryd.underlying58 hi4 hf0 hf1 hf2 rfl (by decide) vf fl.length rows.flatten rfl HR3.out ⟨w31.heap.size, 0, none⟩ 1 1 [.string ⟨#[109, 97, 105, 110]⟩, .slice va 0 vc, .slice none 0 0] rfl rfl (new_cells _ _ _) (by simp [Value.oneCell']) (by rw [← HK.out]; unfold maxLen; omega) (by rw [← HK.out]; omega) (by simp; omega) ?_
           intro v' w33 hown hgr hfr
           obtain ⟨va', vc', rfl⟩ : ∃ va vc, v' = .slice va (fl.length + 1) vc := owns_slice hown
           have hgk := keep_of_grown hgr
           have hFw : F ∉ ownB vf := fun hm => by obtain ⟨rows, _, _, h3⟩ := PGR.out.oF.holds; have := owns_lt_size h3 (ownB_mem.1 hm); have := HFr.out; omega
           have PG33 := Lib.hid (PgSt.pushF (s := (⟨#[109, 97, 105, 110]⟩, [])) (row := [.string ⟨#[109, 97, 105, 110]⟩, .slice va 0 vc, .slice none 0 0]) rows PG32.out hr1 HR2.out HR3.out HSG.out hgr (by simpa using hfr) hown)
           have wc33 := WCells.keep wc32 hgk PG32.out.df.2
           have fb33 := bx3 fb32 hgk hFw
           (try dsimp only)
           unfold WCells at wc33
           refine hK.out _ _ ⟨wc33.1, fb33.1, fb33.2.1, fb33.2.2⟩ (fun hHeld' => ?_)
           clear hK K' hHeld
           have hHeld := hHeld'
           clear hHeld'
           (try go_frame)
           clear KR32 SA32 wc32 fb32 ff32 pr32 hown hgr hfr hgk
           have fz33 := PG33.out.free
           have hWl := PG33.out.hW
           refine held_take 9 (v := ?vv117) (by kernel_rfl) rfl (by rfl) (by kernel_rfl) (by kernel_rfl) (fun _ _ _ h => h) ?hyy117 (by assumption) ?rest117
           case hyy117 => (intro w hSw; (try dsimp only at hSw); go_simp; (try with_reducible rfl))
           (try go_frame)
           refine held_take 10 (v := ?vv118) (by kernel_rfl) rfl (by rfl) (by kernel_rfl) (by kernel_rfl) (fun _ _ _ h => h) ?hyy118 (by assumption) ?rest118
           case hyy118 => (intro w hSw; (try dsimp only at hSw); go_simp; (try with_reducible rfl))
           (try go_frame)
           refine held_take 11 (v := ?vv119) (by kernel_rfl) rfl (by rfl) (by kernel_rfl) (by kernel_rfl) (fun _ _ _ h => h) ?hyy119 (by assumption) ?rest119
           case hyy119 => (intro w hSw; (try dsimp only at hSw); go_simp; (try with_reducible rfl))
           (try go_frame)
           refine held_one 12 (by kernel_rfl) rfl (by rfl) (fun K' hK => ?_)
           go_simp
           have PG34 := Lib.hid (PG33.out.store 3 (.slice va' (fl.length + 1) vc'))
           have wc34 : WCells W S 24 ar vg vm (.slice va' (fl.length + 1) vc') (w33.setCell ⟨W, 3, none⟩ (.slice va' (fl.length + 1) vc')) := by unfold WCells; exact ⟨by go_simp, by go_simp, by go_simp, by go_simp, by go_simp, by go_simp⟩
           have hFW : F ∉ [W] := by have := HF.out; simp; omega
           have fb34 := bx3 fb33 ((Keep.refl [W] w33).setCell (p := ⟨W, 3, none⟩) (.inl (List.mem_singleton.2 rfl)) (.slice va' (fl.length + 1) vc')) hFW
           (try dsimp only)
           refine hK.out _ _ ⟨wc34.1, fb34.1, fb34.2.1, fb34.2.2⟩ (fun hHeld' => ?_)
           clear hK K' hHeld hHeld'
           (try go_frame)
           refine wpAnyH_done (by kernel_rfl) ?_ _
           have hwk : IntKind.i64.wrap ((k : Int) + 1) = ((k + 1 : Nat) : Int) := IntWalk.i64_in _ (by omega)
           go_wp2_with fail
           go_roundw
           case rel => exact ⟨fl ++ [(⟨#[109, 97, 105, 110]⟩, [])], _, by rw [List.length_append, ← HK.out]; go_num, by rw [List.length_append, ← HK.out]; simp; omega, mf_snoc HFS.out (mf_main (by rw [← HK.out]; exact hk0)), PG34.out, wc34⟩
           case measure => simp [intOf]; omega
       ·have hb0 : ((k : Int) == 0) = false := by simp [hk0]
        have hkp : (0 : Int) < (k : Int) := by omega
        go_wp2_with fail
        refine (next_at 3 l a c2 S w6 SA6 (HRS.out _ (PGR.out.call KR6 SA6).keep) (by omega) (by omega) (by omega)).mono ?_
        intro e w7 hq
        obtain ⟨q2, rfl, q20, q21, sa, hk7⟩ := NextAt.out hq
        clear hq
        have KR7 := KR6.trans hk7
        have SA7 := sa
        have wc7 := WCells.keep wc6 hk7 (by have := SL.out; simp; omega)
        have fb7 := bx3 fb6 hk7 (by have := HF.out; simp; omega)
        have ff7 := frk ff6 (cell_lt fb6.1) hk7 (by have := HF.out; simp; omega)
        unfold WCells at wc7
        clear KR6 SA6 wc6 fb6 ff6
        clear hk7 sa
        obtain ⟨n4, rfl⟩ : ∃ n4 : Nat, q2 = n4 := ⟨q2.toNat, by omega⟩
        go_wp2_with fail
        go_loopw [14] (fun u w => lp4 l a c2 w0 S W ar vg vm vf F nm n4 k u w) (fun u _ => (intOf u).toNat)
        case atStart => exact ⟨n4, [], (.slice none 0 0), rfl, by simp, fun _ => rfl, fun j h => by simp at h, KR7, SA7, wc7, fb7, ff7, ownsRow_nil _ _ _ _, by simp [ownB, Value.ownBlock]⟩
        case round =>
         obtain ⟨m, ps, vp, rfl, hmp, hz, HPN, KR30, SA30, wc30, fb30, ff30, pr30, hFv⟩ := hrel
         obtain ⟨w30, hw30⟩ : ∃ x, x = wr := ⟨_, rfl⟩
         subst hw30
         have HPS := Lib.hid HPN
         have HZ := Lib.hid hz
         have HFV := Lib.hid hFv
         unfold WCells at wc30
         clear KR7 SA7 wc7 fb7 ff7 HPN hz hFv
         by_cases hm0 : 0 < m
         ·have hmi : (0 : Int) < (m : Int) := by omega
          obtain ⟨b1', hb1⟩ : ∃ b1, b1 = UInt8.ofNat (48 + m) := ⟨_, rfl⟩
          have hwb : 48 + (m : Int) = (b1'.toNat : Int) := by rw [hb1]; exact dbyte m (by omega)
          have hbb : b1'.toNat < 200 := by omega
          have HBP := Lib.hid hb1
          obtain ⟨t', ht⟩ : ∃ t, t = bytes [b1'] := ⟨_, rfl⟩
          have hts' : t'.size = 1 := by rw [ht]; rfl
          have HTP := Lib.hid ht
          obtain ⟨nmp, hnm⟩ : ∃ nm, nm = bytes [112, b1'] := ⟨_, rfl⟩
          have hvn' : (⟨#[112]⟩ : ByteArray) ++ t' = nmp := by rw [ht, hnm]; exact bytes_append [112] [b1']
          have HNMP := Lib.hid hnm
          clear hb1 ht hnm
          obtain ⟨va, vc, rfl⟩ : ∃ va vc, vp = .slice va ps.length vc := owns_slice pr30
          go_upto_region 29 with fail
          go_cut [15] from 145 to 165 (fun x wx => ∃ (X : Nat) (bb : Bool), x = .pointer (some ⟨X, 0, none⟩) ∧ Keep [S] w0 wx ∧ SrcAt l a c2 S wx ∧ WCells W S 24 ar vg vm vf wx ∧ (wx.cell? ⟨F, 0, none⟩ = some (.string nm) ∧ wx.cell? ⟨F, 1, none⟩ = some (.slice va ps.length vc) ∧ wx.cell? ⟨F, 2, none⟩ = some (.slice none 0 0)) ∧ (∀ o, wx.frozen? ⟨F, o, none⟩ = false) ∧ wx.ownsRow w0.heap.size 94 2 (.slice va ps.length vc) ps.length (ps.flatMap pCells) ∧ (wx.cell? ⟨X, 0, none⟩ = some (.string nmp) ∧ wx.cell? ⟨X, 1, none⟩ = some (.bool bb)) ∧ (X ≠ S ∧ X ≠ W ∧ w0.heap.size ≤ X ∧ X ≠ F ∧ X ∉ ownB (.slice va ps.length vc)))
          case first =>
           have HRT := Lib.hid (fun w (hk : Keep [S] w30 w) (hs : SrcAt l a c2 S w) => HRS.out _ (PGR.out.call (KR30.trans hk) hs).keep)
           have KR30' := Lib.hid KR30
           have FB30 := Lib.hid fb30
           have FF30 := Lib.hid ff30
           have PR30 := Lib.hid pr30
           have HWC30 : WCells W S 24 ar vg vm vf w30 := by unfold WCells; exact wc30
           clear KR30 fb30 ff30 pr30 wc30
           have KR30 := KR30'
           have wc30 := HWC30
           clear KR30' HWC30
           exact prog_r29 l a c2 A S W ar vg vm vf w0 w30 F nm m b1' t' nmp ps va vc SL HRT HSR HF KR30 SA30 wc30 FB30 FF30 PR30 hll hwb hbb HTP hts' hvn' _ _ _ _ _ _ _ _ _ _ _ _ _ _ _ _ _ _ _ _ _ _ _ _ _ _ _ _ _ _ _ _ _ _ _ _ _ _ _ _ _ _ _ _ _ _ _ _ _ _ _ _ _ _ _ _ _ _ _ _ _ _ _ _ _ _ _ _ _ _ _ _ _ _ _ _ _ _ _ _ _ _ _ _ _ _ _ _ _ _ _ _ _ _ _ _ _ _ _ _ _ _ _ _ _ _ _ _ _ _ _ _ _ _ _ _ _ _ _ _ _ _ _ _ _ _ _ _ _ _ _ _ _ _ _ _ _ _ _ _ _ _ _ _ _ _ _ _ _ _ _ _ _ _ _ _ _ _ _ _ _ _ _ _ _ _ _ _ _ _ _ _ _ _ _ _ _ _ _ _ _ _ _ _ _ _ _ _ _ _ _ _ _ _ _ _ _ _ _ _ _ _ _ _ _ _ _ _ _ _ _ _ _ _ _ _ _ _ _ _ _ _ _ _ _ _ _ _ _ _ _ _ _ _ _ _ _ _ _ _ _ _ _ _ _ _ _ _ _ _ _ _ _ _ _ _ _ _ _ _ _ _ _ _ (by assumption) (by assumption) _ (fun _ _ _ _ _ h => h)
          case rest =>
           obtain ⟨X, bb, rfl, KR40, SA40, wc40, fb40, ff40, pr40, xb40, hXx⟩ := hcut
           obtain ⟨w40, hw40⟩ : ∃ x, x = wc := ⟨_, rfl⟩
           subst hw40
           have HX := Lib.hid hXx
           unfold WCells at wc40
           clear KR30 SA30 wc30 fb30 ff30 pr30 hXx hwb hbb
           have ak : Keep [] w40 (w40.alloc (.cells #[.string nmp, .bool bb] 94)) := (Keep.refl _ _).alloc _
           have fb41 := bx3 fb40 ak (by simp)
           have ff41 := frk ff40 (cell_lt fb40.1) ak (by simp)
           have OW := Lib.hid (ownsRow_keepD pr40 ak (fun g hg hm => by simp at hm))
           have wc41 := WCells.keep wc40 ak (by simp)
           have SA41 := SA40.keep ak (by simp)
           have KR41 := KR40.trans (ak.mono (fun x hx => by simp at hx))
           have hsz : w0.heap.size ≤ w40.heap.size := KR40.size
           have HPR := Lib.hid pr40
           go_wp2_with (at_builtin; refine wpList_append_fresh _ rfl _ _ 73 rfl w0.heap.size 94 i5 _ 2 24 Tryd.underlying73 hi5 hp0 hp1 hp2 rfl (by decide) _ ps.length (ps.flatMap pCells) rfl OW.out ⟨w40.heap.size, 0, none⟩ 1 1 [.string nmp, .bool bb] rfl rfl (new_cells _ _ _) (by simp [Value.oneCell']) (by unfold maxLen; omega) (by omega) (by simp; omega) ?_)
           intro v' w42 hown hgr hfr
           have hgk := keep_of_grown hgr
           obtain ⟨vb, vd, rfl⟩ : ∃ va vc, v' = .slice va (ps.length + 1) vc := owns_slice hown
           have hB : ∀ x, x ∈ ownB (.slice va ps.length vc) → w0.heap.size ≤ x := fun x hx => owns_lt OW.out (ownB_mem.1 hx)
           have hFn : F ∉ ownB (.slice va ps.length vc) := HFV.out
           have hFl : F < w40.heap.size := cell_lt fb40.1
           have fb42 := bx3 fb41 hgk hFn
           have ff42 := frk ff41 (cell_lt fb41.1) hgk hFn
           have wc42 := WCells.keep wc41 hgk (fun hm => by have := hB _ hm; have := HWR.out; omega)
           have SA42 := SA41.keep hgk (fun hm => by have := hB _ hm; have := HSR.out; omega)
           have KR42 := KR41.grow hgk hB
           have hFv2 : F ∉ ownB (.slice vb (ps.length + 1) vd) := fun hm => by rcases hfr F (ownB_mem.1 hm) with h9 | h9; exact hFn (ownB_mem.2 h9); (try simp at h9); omega
           clear fb40 ff40 wc40 SA40 KR40 pr40 xb40 fb41 ff41 wc41 SA41 KR41 hgr hfr hgk
           have HWC := Lib.hid wc42
           unfold WCells at wc42
           have hwm : IntKind.i64.wrap ((m : Int) - 1) = ((m - 1 : Nat) : Int) := by rw [show (m : Int) - 1 = ((m - 1 : Nat) : Int) by omega]; exact IntWalk.i64_in _ (by omega)
           go_wp2_with fail
           go_roundw
           case rel =>
            have hfk : Keep [F] w42 (w42.setCell ⟨F, 1, none⟩ (.slice vb (ps.length + 1) vd)) := (Keep.refl [F] w42).setCell (p := ⟨F, 1, none⟩) (.inl (List.mem_singleton.2 rfl)) _
            exact ⟨m - 1, ps ++ [⟨nmp, bb⟩], .slice vb (ps.length + 1) vd, by go_num, by simp; omega, fun h => by omega, pn_snoc HPS.out hmp (by omega) (by rw [HNMP.out, HBP.out]), KR42.grow hfk (fun x hx => by have := HFr.out; simp at hx; omega), SA42.keep hfk (by have := HF.out; simp; omega), WCells.keep HWC.out hfk (by have := HF.out; simp; omega), ⟨by go_simp, by go_simp, by go_simp⟩, fun o => by have h9 := ff42 o; go_simp, by rw [flatMap_snoc, List.length_append]; exact ownsRow_keepD hown hfk (fun g hg hm => by simp at hm; subst hm; exact hFv2 hg), hFv2⟩
           case measure => simp [intOf]; omega
         ·have hmi : ¬ (0 : Int) < (m : Int) := by omega
          obtain ⟨va, vc, rfl⟩ : ∃ va vc, vp = .slice va ps.length vc := owns_slice pr30
          go_upto_region 31 with fail
          have hdr : Keep [] w30 w30.drew := (Keep.refl _ _).drew
          have KR31 := KR30.trans (hdr.mono (fun x hx => by simp at hx))
          have SA31 := SA30.keep hdr (by simp)
          have wc31 := WCells.keep wc30 hdr (by simp)
          have fb31 := bx3 fb30 hdr (by simp)
          have ff31 := frk ff30 (cell_lt fb30.1) hdr (by simp)
          have pr31 := ownsRow_keepD pr30 hdr (fun g hg hm => by simp at hm)
          unfold WCells at wc31
          refine wp_region_held_drew (S := fun w' => w'.cell? ⟨W, 0, none⟩ = some (.pointer (some ⟨S, 0, none⟩)) ∧ w'.cell? ⟨F, 0, none⟩ = some (.string nm) ∧ w'.cell? ⟨F, 1, none⟩ = some (.slice va ps.length vc) ∧ w'.cell? ⟨F, 2, none⟩ = some (.slice none 0 0)) (by kernel_rfl) ⟨wc31.1, fb31.1, fb31.2.1, fb31.2.2⟩ (fun hHeld => ?_)
          clear KR30 SA30 wc30 fb30 ff30 pr30
          clear hdr
          generalize w30.drew = w31 at KR31 SA31 wc31 fb31 ff31 pr31 hHeld ⊢
          refine held_take 0 (v := ?vv120) (by kernel_rfl) rfl (by rfl) (by kernel_rfl) (by kernel_rfl) (fun _ _ _ h => h) ?hyy120 (by assumption) ?rest120
          case hyy120 => (intro w hSw; (try dsimp only at hSw); go_simp; (try with_reducible rfl))
          (try go_frame)
          refine held_take 1 (v := ?vv121) (by kernel_rfl) rfl (by rfl) (by kernel_rfl) (by kernel_rfl) (fun _ _ _ h => h) ?hyy121 (by assumption) ?rest121
          case hyy121 => (intro w hSw; (try dsimp only at hSw); go_simp; (try with_reducible rfl))
          (try go_frame)
          refine held_take 2 (v := ?vv122) (by kernel_rfl) rfl (by rfl) (by kernel_rfl) (by kernel_rfl) (fun _ _ _ h => h) ?hyy122 (by assumption) ?rest122
          case hyy122 => (intro w hSw; (try dsimp only at hSw); go_simp; (try with_reducible rfl))
          (try go_frame)
          refine held_take 3 (v := ?vv123) (by kernel_rfl) rfl (by rfl) (by kernel_rfl) (by kernel_rfl) (fun _ _ _ h => h) ?hyy123 (by assumption) ?rest123
          case hyy123 => (intro w hSw; (try dsimp only at hSw); go_simp; (try with_reducible rfl))
          (try go_frame)
          refine held_take 4 (v := ?vv124) (by kernel_rfl) rfl (by rfl) (by kernel_rfl) (by kernel_rfl) (fun _ _ _ h => h) ?hyy124 (by assumption) ?rest124
          case hyy124 => (intro w hSw; (try dsimp only at hSw); go_simp; (try with_reducible rfl))
          (try go_frame)
          refine held_take 6 (v := ?vv125) (by kernel_rfl) rfl (by rfl) (by kernel_rfl) (by kernel_rfl) (fun _ _ _ h => h) ?hyy125 (by assumption) ?rest125
          case hyy125 => (intro w hSw; (try dsimp only at hSw); go_simp; (try with_reducible rfl))
          (try go_frame)
          refine held_pair 5 7 (by kernel_rfl) rfl rfl (by rfl) (by rfl) (fun K' hK => ?_) (fun K' hK => ?_)
          ·go_simp
           (try dsimp only)
           refine hK.out _ _ ⟨wc31.1, fb31.1, fb31.2.1, fb31.2.2⟩ (fun hHeld' => ?_)
           clear hK K' hHeld
           have hHeld := hHeld'
           clear hHeld'
           (try go_frame)
           refine held_one 7 (by kernel_rfl) rfl (by rfl) (fun K' hK => ?_)
           go_simp
           have hka : Keep [] w31 (w31.alloc (.cells #[.string nm, .slice va ps.length vc, .slice none 0 0] 76)) := (Keep.refl _ _).alloc _
           have KR32 := KR31.trans (hka.mono (fun x hx => by simp at hx))
           have SA32 := SA31.keep hka (by simp)
           have wc32 := WCells.keep wc31 hka (by simp)
           have fb32 := bx3 fb31 hka (by simp)
           have ff32 := frk ff31 (cell_lt fb31.1) hka (by simp)
           have pr32 := ownsRow_keepD pr31 hka (fun g hg hm => by simp at hm)
           unfold WCells at wc32
           (try dsimp only)
           refine hK.out _ _ ⟨wc32.1, fb32.1, fb32.2.1, fb32.2.2⟩ (fun hHeld' => ?_)
           clear hK K' hHeld
           have hHeld := hHeld'
           clear hHeld'
           (try go_frame)
           have PG32 := Lib.hid (PGR.out.call KR32 SA32)
           obtain ⟨rows, hr1, hr2, hr3⟩ := PG32.out.oF.holds
           have HR2 := Lib.hid hr2
           have HR3 := Lib.hid hr3
           clear hr2 hr3
           have hsz : A.heap.size ≤ w31.heap.size := by have := PG32.out.lS; have := (SrcAt.lt SA31); omega
           clear KR31 SA31 fb31 ff31 pr31
           clear hka
           clear wc31
           refine held_one 8 (by kernel_rfl) rfl (by rfl) (fun K' hK => ?_)
           have HSG : Hid (SigRow (hideL (ownB vf ++ [S, W, R]) (w31.alloc (.cells #[.string nm, .slice va ps.length vc, .slice none 0 0] 76))) (nm, ps) [.string nm, .slice va ps.length vc, .slice none 0 0]) := Lib.hid ⟨va, vc, rfl, plist pr32 (fun x hx => by have := HSR.out; have := HWR.out; rcases List.mem_append.1 hx with hx | hx; obtain ⟨rows, _, _, h3⟩ := PGR.out.oF.holds; exact owns_lt_size h3 (ownB_mem.1 hx); have := PGR.out.keep.size; have := HAS.out; simp at hx; rcases hx with rfl | rfl | rfl <;> omega)⟩
           refine wp_append_fresh _ _ _ 58 rfl A.heap.size 76 i4 _ 3 64 Tryd.underlying58 hi4 hf0 hf1 hf2 rfl (by decide) vf fl.length rows.flatten rfl HR3.out ⟨w31.heap.size, 0, none⟩ 1 1 [.string nm, .slice va ps.length vc, .slice none 0 0] rfl rfl (new_cells _ _ _) (by simp [Value.oneCell']) (by rw [← HK.out]; unfold maxLen; omega) (by rw [← HK.out]; omega) (by simp; omega) ?_
           intro v' w33 hown hgr hfr
           obtain ⟨va', vc', rfl⟩ : ∃ va vc, v' = .slice va (fl.length + 1) vc := owns_slice hown
           have hgk := keep_of_grown hgr
           have hFw : F ∉ ownB vf := fun hm => by obtain ⟨rows, _, _, h3⟩ := PGR.out.oF.holds; have := owns_lt_size h3 (ownB_mem.1 hm); have := HFr.out; omega
           have PG33 := Lib.hid (PgSt.pushF (s := (nm, ps)) (row := [.string nm, .slice va ps.length vc, .slice none 0 0]) rows PG32.out hr1 HR2.out HR3.out HSG.out hgr (by simpa using hfr) hown)
           have wc33 := WCells.keep wc32 hgk PG32.out.df.2
           have fb33 := bx3 fb32 hgk hFw
           (try dsimp only)
           unfold WCells at wc33
           refine hK.out _ _ ⟨wc33.1, fb33.1, fb33.2.1, fb33.2.2⟩ (fun hHeld' => ?_)
           clear hK K' hHeld
           have hHeld := hHeld'
           clear hHeld'
           (try go_frame)
           clear KR32 SA32 wc32 fb32 ff32 pr32 hown hgr hfr hgk
           have fz33 := PG33.out.free
           have hWl := PG33.out.hW
           refine held_take 9 (v := ?vv126) (by kernel_rfl) rfl (by rfl) (by kernel_rfl) (by kernel_rfl) (fun _ _ _ h => h) ?hyy126 (by assumption) ?rest126
           case hyy126 => (intro w hSw; (try dsimp only at hSw); go_simp; (try with_reducible rfl))
           (try go_frame)
           refine held_take 10 (v := ?vv127) (by kernel_rfl) rfl (by rfl) (by kernel_rfl) (by kernel_rfl) (fun _ _ _ h => h) ?hyy127 (by assumption) ?rest127
           case hyy127 => (intro w hSw; (try dsimp only at hSw); go_simp; (try with_reducible rfl))
           (try go_frame)
           refine held_take 11 (v := ?vv128) (by kernel_rfl) rfl (by rfl) (by kernel_rfl) (by kernel_rfl) (fun _ _ _ h => h) ?hyy128 (by assumption) ?rest128
           case hyy128 => (intro w hSw; (try dsimp only at hSw); go_simp; (try with_reducible rfl))
           (try go_frame)
           refine held_one 12 (by kernel_rfl) rfl (by rfl) (fun K' hK => ?_)
           go_simp
           have PG34 := Lib.hid (PG33.out.store 3 (.slice va' (fl.length + 1) vc'))
           have wc34 : WCells W S 24 ar vg vm (.slice va' (fl.length + 1) vc') (w33.setCell ⟨W, 3, none⟩ (.slice va' (fl.length + 1) vc')) := by unfold WCells; exact ⟨by go_simp, by go_simp, by go_simp, by go_simp, by go_simp, by go_simp⟩
           have hFW : F ∉ [W] := by have := HF.out; simp; omega
           have fb34 := bx3 fb33 ((Keep.refl [W] w33).setCell (p := ⟨W, 3, none⟩) (.inl (List.mem_singleton.2 rfl)) (.slice va' (fl.length + 1) vc')) hFW
           (try dsimp only)
           refine hK.out _ _ ⟨wc34.1, fb34.1, fb34.2.1, fb34.2.2⟩ (fun hHeld' => ?_)
           clear hK K' hHeld hHeld'
           (try go_frame)
           refine wpAnyH_done (by kernel_rfl) ?_ _
           have hwk : IntKind.i64.wrap ((k : Int) + 1) = ((k + 1 : Nat) : Int) := IntWalk.i64_in _ (by omega)
           go_wp2_with fail
           go_roundw
           case rel => exact ⟨fl ++ [(nm, ps)], _, by rw [List.length_append, ← HK.out]; go_num, by rw [List.length_append, ← HK.out]; simp; omega, mf_snoc HFS.out (mf_other (by rw [← HK.out]; exact hk0) (by rw [HNM.out, HB1.out, HK.out]) (show ps.length ≤ 2 by omega) (fun j hj => by rw [HPS.out j hj, show n4 - j = ps.length - j by omega])), PG34.out, wc34⟩
           case measure => simp [intOf]; omega
          ·go_simp
           have hka : Keep [] w31 (w31.alloc (.cells #[.string nm, .slice va ps.length vc, .slice none 0 0] 76)) := (Keep.refl _ _).alloc _
           have KR32 := KR31.trans (hka.mono (fun x hx => by simp at hx))
           have SA32 := SA31.keep hka (by simp)
           have wc32 := WCells.keep wc31 hka (by simp)
           have fb32 := bx3 fb31 hka (by simp)
           have ff32 := frk ff31 (cell_lt fb31.1) hka (by simp)
           have pr32 := ownsRow_keepD pr31 hka (fun g hg hm => by simp at hm)
           unfold WCells at wc32
           (try dsimp only)
           refine hK.out _ _ ⟨wc32.1, fb32.1, fb32.2.1, fb32.2.2⟩ (fun hHeld' => ?_)
           clear hK K' hHeld
           have hHeld := hHeld'
           clear hHeld'
           (try go_frame)
           have PG32 := Lib.hid (PGR.out.call KR32 SA32)
           obtain ⟨rows, hr1, hr2, hr3⟩ := PG32.out.oF.holds
           have HR2 := Lib.hid hr2
           have HR3 := Lib.hid hr3
           clear hr2 hr3
           have hsz : A.heap.size ≤ w31.heap.size := by have := PG32.out.lS; have := (SrcAt.lt SA31); omega
           clear KR31 SA31 fb31 ff31 pr31
           clear hka
           clear wc31
           refine held_one 5 (by kernel_rfl) rfl (by rfl) (fun K' hK => ?_)
           go_simp
           (try dsimp only)
           refine hK.out _ _ ⟨wc32.1, fb32.1, fb32.2.1, fb32.2.2⟩ (fun hHeld' => ?_)
           clear hK K' hHeld
           have hHeld := hHeld'
           clear hHeld'
           (try go_frame)
           refine held_one 8 (by kernel_rfl) rfl (by rfl) (fun K' hK => ?_)
           have HSG : Hid (SigRow (hideL (ownB vf ++ [S, W, R]) (w31.alloc (.cells #[.string nm, .slice va ps.length vc, .slice none 0 0] 76))) (nm, ps) [.string nm, .slice va ps.length vc, .slice none 0 0]) := Lib.hid ⟨va, vc, rfl, plist pr32 (fun x hx => by have := HSR.out; have := HWR.out; rcases List.mem_append.1 hx with hx | hx; obtain ⟨rows, _, _, h3⟩ := PGR.out.oF.holds; exact owns_lt_size h3 (ownB_mem.1 hx); have := PGR.out.keep.size; have := HAS.out; simp at hx; rcases hx with rfl | rfl | rfl <;> omega)⟩
           refine wp_append_fresh _ _ _ 58 rfl A.heap.size 76 i4 _ 3 64 Tryd.underlying58 hi4 hf0 hf1 hf2 rfl (by decide) vf fl.length rows.flatten rfl HR3.out ⟨w31.heap.size, 0, none⟩ 1 1 [.string nm, .slice va ps.length vc, .slice none 0 0] rfl rfl (new_cells _ _ _) (by simp [Value.oneCell']) (by rw [← HK.out]; unfold maxLen; omega) (by rw [← HK.out]; omega) (by simp; omega) ?_
           intro v' w33 hown hgr hfr
           obtain ⟨va', vc', rfl⟩ : ∃ va vc, v' = .slice va (fl.length + 1) vc := owns_slice hown
           have hgk := keep_of_grown hgr
           have hFw : F ∉ ownB vf := fun hm => by obtain ⟨rows, _, _, h3⟩ := PGR.out.oF.holds; have := owns_lt_size h3 (ownB_mem.1 hm); have := HFr.out; omega
           have PG33 := Lib.hid (PgSt.pushF (s := (nm, ps)) (row := [.string nm, .slice va ps.length vc, .slice none 0 0]) rows PG32.out hr1 HR2.out HR3.out HSG.out hgr (by simpa using hfr) hown)
           have wc33 := WCells.keep wc32 hgk PG32.out.df.2
           have fb33 := bx3 fb32 hgk hFw
           (try dsimp only)
           unfold WCells at wc33
           refine hK.out _ _ ⟨wc33.1, fb33.1, fb33.2.1, fb33.2.2⟩ (fun hHeld' => ?_)
           clear hK K' hHeld
           have hHeld := hHeld'
           clear hHeld'
           (try go_frame)
           clear KR32 SA32 wc32 fb32 ff32 pr32 hown hgr hfr hgk
           have fz33 := PG33.out.free
           have hWl := PG33.out.hW
           refine held_take 9 (v := ?vv129) (by kernel_rfl) rfl (by rfl) (by kernel_rfl) (by kernel_rfl) (fun _ _ _ h => h) ?hyy129 (by assumption) ?rest129
           case hyy129 => (intro w hSw; (try dsimp only at hSw); go_simp; (try with_reducible rfl))
           (try go_frame)
           refine held_take 10 (v := ?vv130) (by kernel_rfl) rfl (by rfl) (by kernel_rfl) (by kernel_rfl) (fun _ _ _ h => h) ?hyy130 (by assumption) ?rest130
           case hyy130 => (intro w hSw; (try dsimp only at hSw); go_simp; (try with_reducible rfl))
           (try go_frame)
           refine held_take 11 (v := ?vv131) (by kernel_rfl) rfl (by rfl) (by kernel_rfl) (by kernel_rfl) (fun _ _ _ h => h) ?hyy131 (by assumption) ?rest131
           case hyy131 => (intro w hSw; (try dsimp only at hSw); go_simp; (try with_reducible rfl))
           (try go_frame)
           refine held_one 12 (by kernel_rfl) rfl (by rfl) (fun K' hK => ?_)
           go_simp
           have PG34 := Lib.hid (PG33.out.store 3 (.slice va' (fl.length + 1) vc'))
           have wc34 : WCells W S 24 ar vg vm (.slice va' (fl.length + 1) vc') (w33.setCell ⟨W, 3, none⟩ (.slice va' (fl.length + 1) vc')) := by unfold WCells; exact ⟨by go_simp, by go_simp, by go_simp, by go_simp, by go_simp, by go_simp⟩
           have hFW : F ∉ [W] := by have := HF.out; simp; omega
           have fb34 := bx3 fb33 ((Keep.refl [W] w33).setCell (p := ⟨W, 3, none⟩) (.inl (List.mem_singleton.2 rfl)) (.slice va' (fl.length + 1) vc')) hFW
           (try dsimp only)
           refine hK.out _ _ ⟨wc34.1, fb34.1, fb34.2.1, fb34.2.2⟩ (fun hHeld' => ?_)
           clear hK K' hHeld hHeld'
           (try go_frame)
           refine wpAnyH_done (by kernel_rfl) ?_ _
           have hwk : IntKind.i64.wrap ((k : Int) + 1) = ((k + 1 : Nat) : Int) := IntWalk.i64_in _ (by omega)
           go_wp2_with fail
           go_roundw
           case rel => exact ⟨fl ++ [(nm, ps)], _, by rw [List.length_append, ← HK.out]; go_num, by rw [List.length_append, ← HK.out]; simp; omega, mf_snoc HFS.out (mf_other (by rw [← HK.out]; exact hk0) (by rw [HNM.out, HB1.out, HK.out]) (show ps.length ≤ 2 by omega) (fun j hj => by rw [HPS.out j hj, show n4 - j = ps.length - j by omega])), PG34.out, wc34⟩
           case measure => simp [intOf]; omega
      ·have hgi : ¬ (k : Int) ≤ (n3 : Int) := by omega
       have HFL : Hid (1 ≤ fl.length ∧ fl.length ≤ 4) := Lib.hid (by have := HK.out; omega)
       obtain ⟨Fb, fc, rfl, hfc, ph⟩ := PhSt.start PGR.out (by have := HAS.out; omega) HRX.out (by omega) HFL.out.1
       obtain ⟨ma, mc, rfl, _⟩ := ph.lms.slice
       have PH0 := Lib.hid ph
       have WC0 := WCR
       clear hgo hfn HK ph wcr PGR WCR
       go_wp2_with fail
       go_loopw [16] (fun u w => lp5 A S W Fb R ar ms gs fl vg (.slice ma ms.length mc) u7 fc u w) (fun u _ => 4 - (intOf u).toNat)
       case atStart => exact ⟨[], 24, rfl, PH0.out, WC0.out, Nat.le_refl _⟩
       case round =>
        obtain ⟨done, left, rfl, ph, wcr, hleft⟩ := hrel
        obtain ⟨w50, hw50⟩ : ∃ x, x = wr := ⟨_, rfl⟩
        subst hw50
        have PH := Lib.hid ph
        have WCR := Lib.hid wcr
        have hdl := ph.dl
        have hSl := ph.src.lt
        have hWl := ph.hW
        have hFl := ph.hF
        unfold WCells at wcr
        clear PH0 WC0
        by_cases hgo : done.length < fl.length
        ·obtain ⟨pa, ba, pc, bn, bc, hrw, hz, _⟩ := ph.rows done.length hgo
         obtain ⟨rfl, rfl, rfl⟩ := hz (Nat.le_refl _)
         obtain ⟨s, hs⟩ : ∃ s, s = fl[done.length] := ⟨_, rfl⟩
         have HSS := Lib.hid hs
         have HSM : Hid (s ∈ fl) := Lib.hid (by rw [hs]; exact List.getElem_mem hgo)
         rw [← hs] at hrw
         have HRO := Lib.hid hrw
         have HGO := Lib.hid hgo
         obtain ⟨k, hk⟩ : ∃ k, k = done.length := ⟨_, rfl⟩
         rw [← hk] at hrw hgo hdl HRO ⊢
         have HK := Lib.hid hk
         have hgi : (k : Int) < (fl.length : Int) := by omega
         have f0 := hrw.c0
         have f1 := hrw.c1
         have f2 := hrw.c2
         have hp2 : s.2.length ≤ 2 := by obtain ⟨i, hi, he⟩ := List.getElem_of_mem HSM.out; rw [← he]; exact (HFS.out i hi).2.2.1
         have HFL' := HFL.out
         have HPL := HFL.out
         have hown0 := World.ownsRow_lit (base := w50.heap.size) (e := 9) (size := 1) w50 #[] 0 (by omega) (by decide) (by simp)
         have HOWN0 := Lib.hid hown0
         have HVR := Lib.hid (ph.lvs.unhide.below ((Below.refl _ w50).alloc (Nat.le_refl _) (.cells #[] 9)) (Nat.le_refl _))
         have HVL : Hid ((gs.map AGlobal.name).length ≤ 2) := Lib.hid (by rw [List.length_map]; exact HGL.out)
         clear hs hk hrw hz hown0 ph
         go_wp2_with (at_builtin; refine wpList_append_row _ rfl _ _ 42 rfl w50.heap.size 9 i0 _ 1 16 Tryd.underlying42 hi0 hs0 hs1 hs2 rfl (by decide) _ 0 [] rfl HOWN0.out _ (gs.map AGlobal.name).length ((gs.map AGlobal.name).map .string) rfl HVR.out (by simp) (by intro u hu; obtain ⟨x, _, rfl⟩ := List.mem_map.1 hu; rfl) (by have := HVL.out; unfold maxLen; omega) (by have := HVL.out; omega) (by simp) ?_)
         intro u0 w51 hown hgr hfr
         have hk51 : Keep [] w50 w51 := ((Keep.refl [] w50).alloc (.cells #[] 9)).grow (keep_of_grown hgr) (fun x hx => by have h9 := ownB_mem.1 hx; simp [Value.ownBlock] at h9; omega)
         have wc51 := WCells.keep WCR.out hk51 (by simp)
         unfold WCells at wc51
         have HK51 := Lib.hid hk51
         have HOW := Lib.hid hown
         clear hgr hfr hk51 hown wcr HOWN0 HVR
         go_wp2_with fail
         go_loopw [17, 18] (fun v u w => lp6 w50 gs s.2 v u w) (fun _ u _ => 4 - (intOf u).toNat)
         case atStart => exact ⟨0, rfl, by omega, HK51.out, by simpa [ownVars] using HOW.out⟩
         case round =>
          obtain ⟨m, rfl, hmp, hk60, hown⟩ := hrel
          obtain ⟨w60, hw60⟩ : ∃ x, x = wr := ⟨_, rfl⟩
          subst hw60
          have HK60 := Lib.hid hk60
          have HOV := Lib.hid hown
          have wc60 := WCells.keep WCR.out hk60 (by simp)
          unfold WCells at wc60
          have g0 : w60.cell? ⟨Fb, k * 3, none⟩ = some (.string s.1) := by rw [hk60.cell (p := ⟨Fb, k * 3, none⟩) hFl (by simp)]; exact f0
          have g1 : w60.cell? ⟨Fb, k * 3 + 1, none⟩ = some (.slice pa s.2.length pc) := by rw [hk60.cell (p := ⟨Fb, k * 3 + 1, none⟩) hFl (by simp)]; exact f1
          have g2 : w60.cell? ⟨Fb, k * 3 + 2, none⟩ = some (.slice none 0 0) := by rw [hk60.cell (p := ⟨Fb, k * 3 + 2, none⟩) hFl (by simp)]; exact f2
          clear wc51 HK51 HOW hown hk60
          by_cases hm : m < s.2.length
          ·have hmi : (m : Int) < (s.2.length : Int) := by omega
           obtain ⟨pb, po, pcap, row, heq, hpc, hR, _, hpl, hcells⟩ := HRO.out.ps.get (by omega) hm
           cases heq
           obtain ⟨x, hx⟩ : ∃ x, x = s.2[m] := ⟨_, rfl⟩
           rw [← hx] at hR
           cases hR
           have e0 := (hideL_cell (hcells 0 _ rfl)).1
           have e1 := (hideL_cell (hcells 1 _ rfl)).1
           rw [Nat.add_zero] at e0
           have x0 : w60.cell? ⟨pb, po + m * 2, none⟩ = some (.string x.name) := by rw [HK60.out.cell (p := ⟨pb, po + m * 2, none⟩) (cell_lt e0) (by simp)]; exact e0
           have x1 : w60.cell? ⟨pb, po + m * 2 + 1, none⟩ = some (.bool x.mutex) := by rw [HK60.out.cell (p := ⟨pb, po + m * 2 + 1, none⟩) (cell_lt e1) (by simp)]; exact e1
           have HX := Lib.hid hx
           have HM := Lib.hid hm
           clear hcells e0 e1 hx
           have hwm : IntKind.i64.wrap ((m : Int) + 1) = ((m + 1 : Nat) : Int) := IntWalk.i64_in _ (by omega)
           cases hxm : x.mutex
           ·rw [hxm] at x1
            have HNL : Hid ((ownVars gs (s.2.take m)).length ≤ 4) := Lib.hid (own_len HGL.out hp2)
            have ak : Keep [] w60 (w60.alloc (.cells #[.string x.name] 9)) := (Keep.refl _ _).alloc _
            have HOV2 := Lib.hid (ownsRow_keepD HOV.out ak (fun g hg hm => by simp at hm))
            have hsz : w50.heap.size ≤ w60.heap.size := HK60.out.size
            have HA6 := Lib.hid ak
            clear ak
            go_wp2_with (at_builtin; refine wpList_append_fresh _ rfl _ _ 42 rfl w50.heap.size 9 i0 _ 1 16 Tryd.underlying42 hi0 hs0 hs1 hs2 rfl (by decide) _ (ownVars gs (s.2.take m)).length ((ownVars gs (s.2.take m)).map .string) rfl HOV2.out ⟨w60.heap.size, 0, none⟩ 1 1 [.string x.name] rfl rfl (new_cells _ _ _) (by simp [Value.oneCell']) (by have := HNL.out; unfold maxLen; omega) (by have := HNL.out; omega) (by simp; omega) ?_)
            intro u2 w61 hown2 hgr hfr
            have HK61 := Lib.hid ((HK60.out.trans HA6.out).grow (keep_of_grown hgr) (fun x hx => owns_lt HOV2.out (ownB_mem.1 hx)))
            have HO2 := Lib.hid hown2
            clear hgr hfr hown2
            go_wp2_with fail
            go_roundw
            case rel => exact ⟨m + 1, by go_num, by omega, HK61.out, by rw [own_step HM.out (by rw [← HX.out]; exact hxm), List.length_append, List.map_append, ← HX.out]; exact HO2.out⟩
            case measure => simp [intOf]; omega
           ·rw [hxm] at x1
            go_wp2_with fail
            go_roundw
            case rel => exact ⟨m + 1, by go_num, by omega, HK60.out, by rw [own_skip HM.out (by rw [← HX.out]; exact hxm)]; exact HOV.out⟩
            case measure => simp [intOf]; omega
          ·have hmi : ¬ (m : Int) < (s.2.length : Int) := by omega
           have hml : s.2.take m = s.2 := List.take_of_length_le (by omega)
           have HNL : Hid ((ownVars gs s.2).length ≤ 4) := Lib.hid (by have := own_len (gs := gs) (ps := s.2) (m := s.2.length) HGL.out hp2; rwa [List.take_length] at this)
           rw [hml] at HOV
           have HHM := Lib.hid hm
           clear hml hm
           go_upto_region 41 with fail
           have PH60 := Lib.hid ((PH.out.new HK60.out).new ((Keep.refl [] w60).drew))
           have HO60 := Lib.hid (ownsRow_keepD HOV.out ((Keep.refl [] w60).drew) (fun g hg hm => by simp at hm))
           have hdr : Keep [] w60 w60.drew := (Keep.refl _ _).drew
           have wc70 := WCells.keep (show WCells W S left ar vg (.slice ma ms.length mc) (.slice (some ⟨Fb, 0, none⟩) fl.length fc) w60 by unfold WCells; exact wc60) hdr (by simp)
           have q0 : w60.drew.cell? ⟨Fb, k * 3, none⟩ = some (.string s.1) := g0
           have q1 : w60.drew.cell? ⟨Fb, k * 3 + 1, none⟩ = some (.slice pa s.2.length pc) := g1
           have q2 : w60.drew.cell? ⟨Fb, k * 3 + 2, none⟩ = some (.slice none 0 0) := g2
           have HKD := HK60.out.size
           have HPR := Lib.hid (HRO.out.ps.mono (ct_keep (H := [S, W, Fb, R]) (HK60.out.trans hdr) (fun x hx => by simp at hx)) (fun _ _ _ h => h))
           have WC70 := Lib.hid wc70
           unfold WCells at wc70
           have hFS : Fb ≠ S ∧ Fb ≠ W ∧ W ≠ S := ⟨PH60.out.ne.2.1, PH60.out.ne.2.2, PH60.out.ne.1⟩
           refine wp_region_held_drew (S := fun w' => w'.cell? ⟨W, 3, none⟩ = some (.slice (some ⟨Fb, 0, none⟩) fl.length fc)) (by kernel_rfl) wc70.2.2.2.1 (fun hHeld => ?_)
           clear hdr g0 g1 g2 wc60 hHeld
           generalize w60.drew = w70 at PH60 HO60 wc70 WC70 q0 q1 q2 HPR ⊢
           have hHeld := wc70.2.2.2.1
           refine held_take 0 (v := ?vv79) (by kernel_rfl) rfl (by rfl) (by kernel_rfl) (by kernel_rfl) (fun _ _ _ h => h) ?hyy79 (by assumption) ?rest79
           case hyy79 => (intro w hSw; (try dsimp only at hSw); go_simp; (try with_reducible rfl))
           (try go_frame)
           refine held_take 1 (v := ?vv80) (by kernel_rfl) rfl (by rfl) (by kernel_rfl) (by kernel_rfl) (fun _ _ _ h => h) ?hyy80 (by assumption) ?rest80
           case hyy80 => (intro w hSw; (try dsimp only at hSw); go_simp; (try with_reducible rfl))
           (try go_frame)
           refine held_take 2 (v := ?vv81) (by kernel_rfl) rfl (by rfl) (by kernel_rfl) (by kernel_rfl) (fun _ _ _ h => h) ?hyy81 (by assumption) ?rest81
           case hyy81 => (intro w hSw; (try dsimp only at hSw); go_simp; (try with_reducible rfl))
           (try go_frame)
           refine held_take 3 (v := ?vv82) (by kernel_rfl) rfl (by rfl) (by kernel_rfl) (by kernel_rfl) (fun _ _ _ h => h) ?hyy82 (by assumption) ?rest82
           case hyy82 => (intro w hSw; (try dsimp only at hSw); go_simp; (try with_reducible rfl))
           (try go_frame)
           refine held_take 4 (v := ?vv83) (by kernel_rfl) rfl (by rfl) (by kernel_rfl) (by kernel_rfl) (fun _ _ _ h => h) ?hyy83 (by assumption) ?rest83
           case hyy83 => (intro w hSw; (try dsimp only at hSw); go_simp; (try with_reducible rfl))
           (try go_frame)
           refine held_take 5 (v := ?vv84) (by kernel_rfl) rfl (by rfl) (by kernel_rfl) (by kernel_rfl) (fun _ _ _ h => h) ?hyy84 (by assumption) ?rest84
           case hyy84 => (intro w hSw; (try dsimp only at hSw); go_simp; (try with_reducible rfl))
           (try go_frame)
           refine held_take 6 (v := ?vv85) (by kernel_rfl) rfl (by rfl) (by kernel_rfl) (by kernel_rfl) (fun _ _ _ h => h) ?hyy85 (by assumption) ?rest85
           case hyy85 => (intro w hSw; (try dsimp only at hSw); go_simp; (try with_reducible rfl))
           (try go_frame)
           refine held_take 7 (v := ?vv86) (by kernel_rfl) rfl (by rfl) (by kernel_rfl) (by kernel_rfl) (fun _ _ _ h => h) ?hyy86 (by assumption) ?rest86
           case hyy86 => (intro w hSw; (try dsimp only at hSw); go_simp; (try with_reducible rfl))
           (try go_frame)
           refine held_take 8 (v := ?vv87) (by kernel_rfl) rfl (by rfl) (by kernel_rfl) (by kernel_rfl) (fun _ _ _ h => h) ?hyy87 (by assumption) ?rest87
           case hyy87 => (intro w hSw; (try dsimp only at hSw); go_simp; (try with_reducible rfl))
           (try go_frame)
           refine held_take 9 (v := ?vv88) (by kernel_rfl) rfl (by rfl) (by kernel_rfl) (by kernel_rfl) (fun _ _ _ h => h) ?hyy88 (by assumption) ?rest88
           case hyy88 => (intro w hSw; (try dsimp only at hSw); go_simp; (try with_reducible rfl))
           (try go_frame)
           refine held_take 10 (v := ?vv89) (by kernel_rfl) rfl (by rfl) (by kernel_rfl) (by kernel_rfl) (fun _ _ _ h => h) ?hyy89 (by assumption) ?rest89
           case hyy89 => (intro w hSw; (try dsimp only at hSw); go_simp; (try with_reducible rfl))
           (try go_frame)
           refine held_take 11 (v := ?vv90) (by kernel_rfl) rfl (by rfl) (by kernel_rfl) (by kernel_rfl) (fun _ _ _ h => h) ?hyy90 (by assumption) ?rest90
           case hyy90 => (intro w hSw; (try dsimp only at hSw); go_simp; (try with_reducible rfl))
           (try go_frame)
           refine held_take 12 (v := ?vv91) (by kernel_rfl) rfl (by rfl) (by kernel_rfl) (by kernel_rfl) (fun _ _ _ h => h) ?hyy91 (by assumption) ?rest91
           case hyy91 => (intro w hSw; (try dsimp only at hSw); go_simp; (try with_reducible rfl))
           (try go_frame)
           refine held_take 13 (v := ?vv92) (by kernel_rfl) rfl (by rfl) (by kernel_rfl) (by kernel_rfl) (fun _ _ _ h => h) ?hyy92 (by assumption) ?rest92
           case hyy92 => (intro w hSw; (try dsimp only at hSw); go_simp; (try with_reducible rfl))
           (try go_frame)
           refine held_take 15 (v := ?vv93) (by kernel_rfl) rfl (by rfl) (by kernel_rfl) (by kernel_rfl) (fun _ _ _ h => h) ?hyy93 (by assumption) ?rest93
           case hyy93 => (intro w hSw; (try dsimp only at hSw); go_simp; (try with_reducible rfl))
           (try go_frame)
           refine held_one 14 (by kernel_rfl) rfl (by rfl) (fun K' hK => ?_)
           go_simp
           (try dsimp only)
           refine hK.out _ _ wc70.2.2.2.1 (fun hHeld' => ?_)
           clear hK K' hHeld
           have hHeld := hHeld'
           clear hHeld'
           (try go_frame)
           refine held_one 16 (by kernel_rfl) rfl (by rfl) (fun K' hK => ?_)
           go_simp
           have BI : BlkIn ms fl s.2 ma pa (some ⟨Fb, 0, none⟩) mc pc fc [S, W, Fb, R] S W vg ar (ownVars gs s.2) u17 left w70 := ⟨PH60.out.src, fun x hx => by have := PH60.out.hW; have := PH60.out.hF; have := PH60.out.src.lt; have := PH60.out.hR; have := PH60.out.keep.size; simp at hx; rcases hx with rfl | rfl | rfl | rfl <;> omega, by simp, owns_hide2 HO60.out (fun x hx hm => by have := owns_lt HO60.out (ownB_mem.1 hm); simp at hx; rcases hx with rfl | rfl <;> omega), WC70.out, PH60.out.frW, PH60.out.ne.1, PH60.out.lms, HPR.out, PH60.out.sigs hfc⟩
           refine (block_any ms fl s.2 s.1 ma pa none Fb 0 mc pc fc 0 0 S W vg ar HML.out.1 (by have := HML.out; omega) (fun m hm => by obtain ⟨i, hi, rfl⟩ := List.getElem_of_mem hm; rcases (HMS.out i hi).2 with h9 | h9 <;> omega) HFL.out.1 (by have := HFL.out; omega) (fun g hg => by obtain ⟨i, hi, rfl⟩ := List.getElem_of_mem hg; have := (HFS.out i hi).2.2.1; dsimp only at this; omega) (by omega) left 2 (by omega) 6 (by omega) _ _ (by have := HNL.out; omega) _ w70 BI).mono ?_
           intro e w71 hq
           obtain ⟨⟨out, oa, oc, left', rfl, hmb, hml, hwc⟩, hs, hk, hf⟩ := hq
           have hwc' := hwc
           unfold WCells at hwc'
           (try dsimp only)
           refine hK.out _ _ hwc'.2.2.2.1 (fun hHeld' => ?_)
           clear hK K' hHeld
           have hHeld := hHeld'
           clear hHeld'
           (try go_frame)
           have hFSW : Fb ∉ [S, W] := by simp; omega
           have hF7 := PH60.out.hF
           have r2 : w71.cell? ⟨Fb, k * 3 + 2, none⟩ = some (.slice none 0 0) := by rw [hk.cell (p := ⟨Fb, k * 3 + 2, none⟩) hF7 hFSW]; exact q2
           have rf : ∀ o, w71.frozen? ⟨Fb, o, none⟩ = false := frk PH60.out.frF hF7 hk hFSW
           have HMB := Lib.hid hmb
           have HML2 := Lib.hid hml
           have HWC := Lib.hid hwc
           have HS7 := Lib.hid hs
           have HK7 := Lib.hid hk
           have HF7 := Lib.hid hf
           have HLE := hmb.le
           clear hmb hml hwc hs hk hf q0 q1 q2 wc70 BI HPR HO60
           refine held_take 17 (v := ?vv94) (by kernel_rfl) rfl (by rfl) (by kernel_rfl) (by kernel_rfl) (fun _ _ _ h => h) ?hyy94 (by assumption) ?rest94
           case hyy94 => (intro w hSw; (try dsimp only at hSw); go_simp; (try with_reducible rfl))
           (try go_frame)
           refine held_take 18 (v := ?vv95) (by kernel_rfl) rfl (by rfl) (by kernel_rfl) (by kernel_rfl) (fun _ _ _ h => h) ?hyy95 (by assumption) ?rest95
           case hyy95 => (intro w hSw; (try dsimp only at hSw); go_simp; (try with_reducible rfl))
           (try go_frame)
           refine held_one 19 (by kernel_rfl) rfl (by rfl) (fun K' hK => ?_)
           go_simp
           have hWF : W ∉ [Fb] := by simp; omega
           have kF : Keep [Fb] w71 (w71.setCell ⟨Fb, k * 3 + 2, none⟩ (.slice oa out.length oc)) := (Keep.refl [Fb] w71).setCell (p := ⟨Fb, k * 3 + 2, none⟩) (.inl (List.mem_singleton.2 rfl)) _
           have wc72 := WCells.keep HWC.out kF hWF
           have WC72 := Lib.hid wc72
           unfold WCells at wc72
           (try dsimp only)
           refine hK.out _ _ wc72.2.2.2.1 (fun hHeld' => ?_)
           clear hK K' hHeld
           have hHeld := hHeld'
           clear hHeld'
           (try go_frame)
           clear hHeld
           refine wpAnyH_done (by kernel_rfl) ?_ _
           have hwk : IntKind.i64.wrap ((k : Int) + 1) = ((k + 1 : Nat) : Int) := IntWalk.i64_in _ (by omega)
           go_wp2_with fail
           go_roundw
           case rel =>
            have hnx := PhSt.next PH60.out HK7.out HS7.out HF7.out HGO.out (by rw [← HSS.out]; exact HMB.out) HML2.out
            rw [← HSS.out, ← HK.out] at hnx
            exact ⟨done ++ [⟨s.1, s.2, out⟩], left', by rw [List.length_append, ← HK.out]; go_num, hnx, WC72.out, by omega⟩
           case measure => simp [intOf]; omega
        ·have hgi : ¬ (done.length : Int) < (fl.length : Int) := by omega
         have HDL : Hid (done.length = fl.length) := Lib.hid (by omega)
         have hRl : R < w50.heap.size := by have := ph.keep.size; have := HAS.out; omega
         have hRA : R < A.heap.size := by have := HAS.out; omega
         have y0 : w50.cell? ⟨R, 0, none⟩ = some (.slice none 0 0) := by rw [ph.keep.cell (p := ⟨R, 0, none⟩) hRA (by simp)]; exact RX.out.1
         have y1 : w50.cell? ⟨R, 1, none⟩ = some (.slice none 0 0) := by rw [ph.keep.cell (p := ⟨R, 1, none⟩) hRA (by simp)]; exact RX.out.2.1
         have y2 : w50.cell? ⟨R, 2, none⟩ = some (.slice none 0 0) := by rw [ph.keep.cell (p := ⟨R, 2, none⟩) hRA (by simp)]; exact RX.out.2.2
         have yf : ∀ o, w50.frozen? ⟨R, o, none⟩ = false := frk RF.out hRA ph.keep (by simp)
         have hRW : R ≠ W := by have := ph.lo.2.1; omega
         clear ph hgo hdl
         obtain ⟨ga, gc, rfl, _⟩ := PH.out.lgs.slice
         go_wp2_with fail
         have kR : Keep [R] w50 (((w50.setCell ⟨R, 0, none⟩ (.slice ga gs.length gc)).setCell ⟨R, 1, none⟩ (.slice ma ms.length mc)).setCell ⟨R, 2, none⟩ (.slice (some ⟨Fb, 0, none⟩) fl.length fc)) := (((Keep.refl [R] w50).setCell (p := ⟨R, 0, none⟩) (.inl (List.mem_singleton.2 rfl)) _).setCell (p := ⟨R, 1, none⟩) (.inl (List.mem_singleton.2 rfl)) _).setCell (p := ⟨R, 2, none⟩) (.inl (List.mem_singleton.2 rfl)) _
         have bz : Ce3 (((w50.setCell ⟨R, 0, none⟩ (.slice ga gs.length gc)).setCell ⟨R, 1, none⟩ (.slice ma ms.length mc)).setCell ⟨R, 2, none⟩ (.slice (some ⟨Fb, 0, none⟩) fl.length fc)) R (.slice ga gs.length gc) (.slice ma ms.length mc) (.slice (some ⟨Fb, 0, none⟩) fl.length fc) := ⟨by go_simp, by go_simp, by go_simp⟩
         unfold Ce3 at bz
         obtain ⟨h1, h2⟩ := PH.out.fin kR HDL.out hfc HML.out HMS.out HGL.out HGS.out HFL.out HFS.out
         have HB := Lib.hid ((((Keep.of_below HAB.out : Keep [] A0 A).trans PH.out.keep).grow kR (fun x hx => by have := HR.out; simp at hx; omega)).below (Nat.le_refl _) (by simp))
         have H1 := Lib.hid h1
         have H2 := Lib.hid h2
         clear y0 y1 y2 yf wcr h1 h2 kR
         generalize (((w50.setCell ⟨R, 0, none⟩ (.slice ga gs.length gc)).setCell ⟨R, 1, none⟩ (.slice ma ms.length mc)).setCell ⟨R, 2, none⟩ (.slice (some ⟨Fb, 0, none⟩) fl.length fc)) = w73 at bz H2 HB ⊢
         (try simp only [Exit.inBlock, Exit.then])
         refine bodyPost_ret (v := .agg #[.slice ga gs.length gc, .slice ma ms.length mc, (.slice (some ⟨Fb, 0, none⟩) fl.length fc)]) (by simp [results, Tryd.results29, go_sem, bz]) rfl ?_
         exact ⟨_, _, _, _, rfl, H1.out, H2.out, HB.out⟩
end Go.Proofs.YtlbocidcjmehfaaDoor
