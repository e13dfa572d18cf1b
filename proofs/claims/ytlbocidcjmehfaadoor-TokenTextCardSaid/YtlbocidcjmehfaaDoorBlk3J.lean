import Derived.Test.YtlbocidcjmehfaaDoorBlkWq4J
import Derived.Test.YtlbocidcjmehfaaDoorBlkWq7J
import Derived.Test.YtlbocidcjmehfaaDoorBlkWvJ
import Derived.Test.YtlbocidcjmehfaaDoorBlkWasJ
import Derived.Test.YtlbocidcjmehfaaDoorBlkWp8J
import Derived.Test.YtlbocidcjmehfaaDoorBlkWc9J
import Derived.Test.YtlbocidcjmehfaaDoorBlkWc10J
import Derived.Test.YtlbocidcjmehfaaDoorBlkWifJ
import Derived.Test.YtlbocidcjmehfaaDoorBlkWp11J
import Derived.Test.YtlbocidcjmehfaaDoorBlkWloJ
import Derived.Test.YtlbocidcjmehfaaDoorBlkWp12J
import Derived.Test.YtlbocidcjmehfaaDoorBlkWreJ
set_option linter.unusedVariables false
set_option linter.unusedSimpArgs false
namespace Go.Proofs.YtlbocidcjmehfaaDoor
open Go.RowKit
set_option maxRecDepth 100000 in
set_option maxHeartbeats 80000000 in
theorem block_any (ms : List AMutex) (fs : List Sig) (ps : List AParam) (fn : ByteArray) (ma pa ba : Option Addr) (fb fo mc pc fc bn bc S W : Nat) (vg : Value) (ar : Bool) (hm1 : 1 ≤ ms.length) (hm2 : ms.length ≤ 1000) (hmz : ∀ m, m ∈ ms → m.size ≤ 1000) (hf1 : 1 ≤ fs.length) (hf2 : fs.length ≤ 1000) (hfp : ∀ g, g ∈ fs → g.2.length ≤ 1000) (hp2 : ps.length ≤ 1000) :
  ∀ (L deep : Nat) (hd : deep ≤ 100) (most : Nat) (hmost : most ≤ 1000) (vars : List ByteArray) (vv : Value) (hvl : vars.length + L ≤ 1000) (H : List Nat) (w : World) (h : BlkIn ms fs ps ma pa (some ⟨fb, fo, none⟩) mc pc fc H S W vg ar vars vv L w),
  Calls Tryd.prog 51 #[.pointer (some ⟨W, 0, none⟩), .agg #[.string fn, .slice pa ps.length pc, .slice ba bn bc], vv, .int .i64 deep, .int .i64 most] w (BlkOk ms fs ps (.slice ma ms.length mc) (.slice (some ⟨fb, fo, none⟩) fs.length fc) H S W vg ar vars deep L w) := by
 intro L
 induction L using Nat.strongRecOn with
 | ind L ih =>
 intro deep hd most hmost vars vv hvl H w h
 obtain ⟨i0, hi, hz0, hz1, hz2⟩ := info_parts strInfo
 obtain ⟨i1, hj, hy0, hy1, hy2⟩ := info_parts stmtInfo
 have IHZ : Hid (∀ (m : Nat), m < L → ∀ (zd zm : Int) (deep : Nat), zd = deep → deep ≤ 100 → ∀ (most : Nat), most ≤ 1000 → zm = most → ∀ (vars : List ByteArray) (vv : Value), vars.length + m ≤ 1000 → ∀ (H : List Nat) (w : World), BlkIn ms fs ps ma pa (some ⟨fb, fo, none⟩) mc pc fc H S W vg ar vars vv m w →
   Calls Tryd.prog 51 #[.pointer (some ⟨W, 0, none⟩), .agg #[.string fn, .slice pa ps.length pc, .slice ba bn bc], vv, .int .i64 zd, .int .i64 zm] w (BlkOk ms fs ps (.slice ma ms.length mc) (.slice (some ⟨fb, fo, none⟩) fs.length fc) H S W vg ar vars deep m w)) :=
  Lib.hid (fun m hm zd zm deep hzd hd most hmost hzm vars vv hl H w h => by subst hzd; subst hzm; exact ih m hm deep hd most hmost vars vv hl H w h)
 have HIN := Lib.hid h
 have HHw := Lib.hid h.hH
 have HFP := Lib.hid hfp
 have HMZ := Lib.hid hmz
 have hSl := h.src.lt
 have hWl : W < w.heap.size := cell_lt h.wc.1
 have HWS := Lib.hid h.ne
 have hw1 : IntKind.i64.wrap ((most : Int) + 1) = (most : Int) + 1 := IntWalk.i64_in _ (by omega)
 clear ih h hfp hmz
 obtain ⟨W2, hW2⟩ : ∃ W2, W2 = w.alloc (.cells #[.string fn, .slice pa ps.length pc, .slice ba bn bc] 76) := ⟨_, rfl⟩
 have hBW : Below w.heap.size w W2 := by rw [hW2]; go_grown
 have hW2s : W2.heap.size = w.heap.size + 1 := by rw [hW2]; simp
 have HW2 := Lib.hid hW2
 have HW2S := Lib.hid hW2s
 have HBW := Lib.hid hBW
 have fbx : W2.cell? ⟨w.heap.size, 0, none⟩ = some (.string fn) ∧ W2.cell? ⟨w.heap.size, 1, none⟩ = some (.slice pa ps.length pc) ∧ W2.cell? ⟨w.heap.size, 2, none⟩ = some (.slice ba bn bc) := by rw [hW2]; exact ⟨by go_simp, by go_simp, by go_simp⟩
 have FBX := Lib.hid fbx
 have HKI := Lib.hid ((Keep.refl [S, W] w).step hBW)
 have HVR := Lib.hid ((HIN.out.hv).unhide.below (hBW.trans ((Below.refl _ W2).alloc hBW.size (.cells #[] 9))) (Nat.le_refl _))
 have hown0 := World.ownsRow_lit (base := w.heap.size + 1) (e := 9) (size := 1) W2 #[] 0 (by omega) (by decide) (by simp)
 rw [hW2s] at hown0
 have HOWN0 := Lib.hid hown0
 rw [hW2] at HVR HOWN0
 clear hW2 hW2s fbx hBW hown0
 go_enter Tryd.func51, Tryd.ntmps51
 go_wp2_with (at_builtin; refine wpList_append_row _ rfl _ _ 42 rfl (w.heap.size + 1) 9 i0 _ 1 16 Tryd.underlying42 hi hz0 hz1 hz2 rfl (by decide) _ 0 [] rfl HOWN0.out _ vars.length (vars.map .string) rfl HVR.out (by simp) (by intro u hu; obtain ⟨x, _, rfl⟩ := List.mem_map.1 hu; rfl) (by unfold maxLen; omega) (by omega) (by simp) ?_)
 intro u0 w1 hown1 hgr1 hfr1
 have hgr1' : Keep [w.heap.size + 1] (W2.alloc (.cells #[] 9)) w1 := by have h1 := keep_of_grown hgr1; rw [HW2.out]; exact h1
 have hbB1 : Below W2.heap.size W2 w1 := (((Keep.refl [] _).alloc _).grow hgr1' (by intro x hx; simp at hx; have := HW2S.out; omega)).below (Nat.le_refl _) (by simp)
 have st0 := BlSt.start HIN.out HBW.out HW2S.out (by omega) hbB1 (by simpa using hown1)
 have ST0 := Lib.hid st0
 have wc1 := st0.wc
 unfold WCells at wc1
 clear hgr1 hfr1 hgr1' hown1 st0
 go_wp2_with fail
 refine (next_src ((most : Int) + 1) _ S _ ST0.out.src (by omega) (by omega)).mono ?_
 intro e w2 hq
 obtain ⟨r, rfl, r0, r1, hs2, hk2⟩ := Src.next hq
 obtain ⟨n0, rfl⟩ : ∃ n0 : Nat, r = n0 := ⟨r.toNat, by omega⟩
 have st1 := ST0.out.callS hs2 hk2
 have ST1 := Lib.hid st1
 clear hq hs2 hk2 st1 wc1 hbB1
 go_wp2_with fail
 go_loopw [2, 11, 12] (fun u o n wr => blR ms fs ps vars deep L H S W (w.heap.size + 1) vg (.slice ma ms.length mc) (.slice (some ⟨fb, fo, none⟩) fs.length fc) ar W2 most u o n wr) (fun _ _ v _ => (intOf v).toNat)
 case atStart => exact ⟨vars, [], L, n0, rfl, by omega, ST1.out, BlTo.refl _ _ _ _ _ _, hvl, Nat.le_refl _⟩
 case round =>
  obtain ⟨vs, al, lf, k, rfl, hk, hst, hto, hvl2, hlf⟩ := hrel
  have wcr := hst.wc
  unfold WCells at wcr
  have hfr := hst.free
  have hall := hto.fin.len
  obtain ⟨oa, oc, rfl⟩ : ∃ oa oc, u11 = .slice oa al.length oc := by
   obtain ⟨rows, _, _, h3⟩ := hst.coll.holds
   exact owns_slice h3
  have HST := Lib.hid hst
  have HTO := Lib.hid hto
  clear hst hto
  by_cases hgo : 0 < k ∧ 0 < lf
  ·obtain ⟨hk0, hl0⟩ := hgo
   have hki : (0 : Int) < (k : Int) := by omega
   have hli : (0 : Int) < (lf : Int) := by omega
   obtain ⟨m, rfl⟩ : ∃ m, lf = m + 1 := ⟨lf - 1, by omega⟩
   have hw2 : IntKind.i64.wrap (((m + 1 : Nat) : Int) - 1) = (m : Int) := by rw [show (((m + 1 : Nat) : Int)) - 1 = m by omega]; exact IntWalk.i64_in _ (by omega)
   have hWr : W < wr.heap.size := cell_lt wcr.1
   go_upto_region 8 with fail
   obtain ⟨W3, hW3⟩ : ∃ W3, W3 = (wr.setCell ⟨W, 4, none⟩ (.int .i64 m)).alloc (.cells #[.int .i64 5, .string ⟨#[]⟩, .int .i64 0, .int .i64 0, .string ⟨#[]⟩, .slice none 0 0, .string ⟨#[]⟩, .slice none 0 0, .slice none 0 0, .slice none 0 0, .slice none 0 0] 136) := ⟨_, rfl⟩
   rw [← hW3]
   obtain ⟨T, hT⟩ : ∃ T, T = wr.heap.size := ⟨_, rfl⟩
   have tb3 : W3.cell? ⟨T, 0, none⟩ = some (.int .i64 5) ∧ W3.cell? ⟨T, 1, none⟩ = some (.string ⟨#[]⟩) ∧ W3.cell? ⟨T, 2, none⟩ = some (.int .i64 0) ∧ W3.cell? ⟨T, 3, none⟩ = some (.int .i64 0) ∧ W3.cell? ⟨T, 4, none⟩ = some (.string ⟨#[]⟩) ∧ W3.cell? ⟨T, 5, none⟩ = some (.slice none 0 0) ∧ W3.cell? ⟨T, 6, none⟩ = some (.string ⟨#[]⟩) ∧ W3.cell? ⟨T, 7, none⟩ = some (.slice none 0 0) ∧ W3.cell? ⟨T, 8, none⟩ = some (.slice none 0 0) ∧ W3.cell? ⟨T, 9, none⟩ = some (.slice none 0 0) ∧ W3.cell? ⟨T, 10, none⟩ = some (.slice none 0 0) ∧ ∀ o, W3.frozen? ⟨T, o, none⟩ = false := by rw [hW3, hT]; exact ⟨by go_simp, by go_simp, by go_simp, by go_simp, by go_simp, by go_simp, by go_simp, by go_simp, by go_simp, by go_simp, by go_simp, fun o => by go_simp⟩
   have wc3 : W3.cell? ⟨W, 0, none⟩ = some (.pointer (some ⟨S, 0, none⟩)) ∧ W3.cell? ⟨W, 1, none⟩ = some vg ∧ W3.cell? ⟨W, 2, none⟩ = some (.slice ma ms.length mc) ∧ W3.cell? ⟨W, 3, none⟩ = some (.slice (some ⟨fb, fo, none⟩) fs.length fc) ∧ W3.cell? ⟨W, 4, none⟩ = some (.int .i64 m) ∧ W3.cell? ⟨W, 5, none⟩ = some (.bool ar) := by rw [hW3]; exact ⟨by go_simp, by go_simp, by go_simp, by go_simp, by go_simp, by go_simp⟩
   have fr3 : W3.frozen? ⟨W, 4, none⟩ = false := by rw [hW3]; go_simp
   have hk3 : Keep [W] wr W3 := by rw [hW3]; exact ((Keep.refl _ _).setCell (.inl (by simp)) _).alloc _
   have hT3 : T < W3.heap.size := by rw [hW3, hT]; simp [World.setCell]
   have hTW : W2.heap.size ≤ T := by rw [hT]; exact HST.out.keep.size
   have st3 := HST.out.box hk3 hT hT3 wc3 fr3
   rw [← hT]
   have ST3 := Lib.hid st3
   clear hW3 hk3 fr3 st3 hWr wcr hfr HST hT
   go_wp2_with fail
   refine (next_src 14 _ S _ ST3.out.src (by omega) (by omega)).mono ?_
   intro e w4 hq
   obtain ⟨q, rfl, q0, q1, hs2, hk2⟩ := Src.next hq
   have ST4 := Lib.hid (ST3.out.callS hs2 hk2)
   have ST4K := Lib.hid ST4.out.keep
   have hTS : T ∉ [S] := by have := ST0.out.hS; simp; omega
   have tb4 := tkeep tb3 hk2 hTS
   have hFS : w.heap.size ∉ [S] := by simp; omega
   have fx4 := fkeep FBX.out ST4K.out (by simp; omega)
   have wc4 := ST4.out.wc
   unfold WCells at wc4
   clear hq hs2 hk2 wc3 tb3 hT3
   go_upto_block 2 with fail
   go_cut [2, 11] from 27 to 247 (fun u o wc => cutR ms fs ps vars deep L H S W (w.heap.size + 1) vg (.slice ma ms.length mc) (.slice (some ⟨fb, fo, none⟩) fs.length fc) ar W2 T u o wc)
   case first =>
    clear ST3
    obtain ⟨na, nc, rfl⟩ : ∃ na nc, u2 = .slice na vs.length nc := owns_slice ST4.out.vown
    have hFT : w.heap.size ∉ [T] := by have := HW2S.out; simp; omega
    have hTF : ¬ (T = w.heap.size) := by have := HW2S.out; omega
    have hFT' : ¬ (w.heap.size = T) := by have := HW2S.out; omega
    have hTSW : T ∉ [S, W] := by have := ST0.out.hS; have := ST0.out.hW; simp; omega
    have hFSW : w.heap.size ∉ [S, W] := by simp; omega
    have hsT : ∀ x, x ∈ [T] → x ∈ (ownB (.slice oa al.length oc) ++ (ownB (.slice na vs.length nc) ++ T :: H)) := by intro x hx; simp at hx; subst hx; simp
    have hsS : ∀ x, x ∈ [S] → x ∈ (ownB (.slice oa al.length oc) ++ (ownB (.slice na vs.length nc) ++ T :: H)) := fun x hx => by simp at hx; subst hx; exact ST4.out.mem _ ST4.out.mS
    have hsW : ∀ x, x ∈ [S, W] → x ∈ (ownB (.slice oa al.length oc) ++ (ownB (.slice na vs.length nc) ++ T :: H)) := fun x hx => by simp at hx; rcases hx with rfl | rfl; exact ST4.out.mem _ ST4.out.mS; exact ST4.out.mem _ ST4.out.mW
    by_cases hq4 : q < 4
    ·exact blk_q4 ms fs ps fn ma pa ba fb fo mc pc fc bn bc S W vg ar hm1 hm2 hf1 hf2 hp2 L deep hd most hmost vars vv hvl H w IHZ HIN HHw HFP HMZ hSl hWl HWS W2 HW2S HBW HKI u0 w1 ST0 n0 _ _ _ _ _ _ _ _ _ _ _ _ _ _ _ _ _ _ _ _ _ _ _ _ _ _ _ _ _ _ _ _ _ _ _ _ _ _ _ _ _ _ _ _ _ _ _ _ _ _ _ _ _ _ _ _ _ _ _ _ _ _ _ _ _ _ _ _ _ _ _ _ _ _ _ _ _ _ _ _ _ _ _ _ _ _ _ _ _ _ _ _ _ _ _ _ _ _ _ _ _ _ _ _ _ _ _ _ _ _ _ _ _ _ _ _ _ _ _ _ _ _ _ _ _ _ _ _ _ _ _ _ _ _ _ _ _ _ _ _ _ _ _ _ _ _ _ _ _ _ _ _ _ _ _ _ _ _ _ _ _ _ _ _ _ _ _ _ _ _ _ _ _ _ _ _ _ _ _ _ _ _ _ _ _ _ _ _ _ _ _ _ _ _ _ _ _ _ _ _ _ _ _ _ _ _ _ _ _ _ _ _ _ _ _ _ _ _ _ _ _ _ _ _ _ _ _ _ _ _ vs al k hk oa oc hki m hvl2 hlf hall HTO T hTW w4 q q0 q1 ST4K hTS tb4 hFS fx4 wc4 _ _ (by assumption) (by assumption) _ (fun _ _ _ _ _ h => h) na nc ST4 hFT hTF hFT' hTSW hFSW hsT hsS hsW hq4
    by_cases hq7 : q < 7
    ·exact blk_q7 ms fs ps fn ma pa ba fb fo mc pc fc bn bc S W vg ar hm1 hm2 hf1 hf2 hp2 L deep hd most hmost vars vv hvl H w IHZ HIN HHw HFP HMZ hSl hWl HWS W2 HW2S HBW HKI u0 w1 ST0 n0 _ _ _ _ _ _ _ _ _ _ _ _ _ _ _ _ _ _ _ _ _ _ _ _ _ _ _ _ _ _ _ _ _ _ _ _ _ _ _ _ _ _ _ _ _ _ _ _ _ _ _ _ _ _ _ _ _ _ _ _ _ _ _ _ _ _ _ _ _ _ _ _ _ _ _ _ _ _ _ _ _ _ _ _ _ _ _ _ _ _ _ _ _ _ _ _ _ _ _ _ _ _ _ _ _ _ _ _ _ _ _ _ _ _ _ _ _ _ _ _ _ _ _ _ _ _ _ _ _ _ _ _ _ _ _ _ _ _ _ _ _ _ _ _ _ _ _ _ _ _ _ _ _ _ _ _ _ _ _ _ _ _ _ _ _ _ _ _ _ _ _ _ _ _ _ _ _ _ _ _ _ _ _ _ _ _ _ _ _ _ _ _ _ _ _ _ _ _ _ _ _ _ _ _ _ _ _ _ _ _ _ _ _ _ _ _ _ _ _ _ _ _ _ _ _ _ _ _ _ _ vs al k hk oa oc hki m hvl2 hlf hall HTO T hTW w4 q q0 q1 ST4K hTS tb4 hFS fx4 wc4 _ _ (by assumption) (by assumption) _ (fun _ _ _ _ _ h => h) na nc ST4 hFT hTF hFT' hTSW hFSW hsT hsS hsW ⟨hq4, hq7⟩
    by_cases hqa : q = 7
    ·exact blk_v ms fs ps fn ma pa ba fb fo mc pc fc bn bc S W vg ar hm1 hm2 hf1 hf2 hp2 L deep hd most hmost vars vv hvl H w IHZ HIN HHw HFP HMZ hSl hWl HWS W2 HW2S HBW HKI u0 w1 ST0 n0 _ _ _ _ _ _ _ _ _ _ _ _ _ _ _ _ _ _ _ _ _ _ _ _ _ _ _ _ _ _ _ _ _ _ _ _ _ _ _ _ _ _ _ _ _ _ _ _ _ _ _ _ _ _ _ _ _ _ _ _ _ _ _ _ _ _ _ _ _ _ _ _ _ _ _ _ _ _ _ _ _ _ _ _ _ _ _ _ _ _ _ _ _ _ _ _ _ _ _ _ _ _ _ _ _ _ _ _ _ _ _ _ _ _ _ _ _ _ _ _ _ _ _ _ _ _ _ _ _ _ _ _ _ _ _ _ _ _ _ _ _ _ _ _ _ _ _ _ _ _ _ _ _ _ _ _ _ _ _ _ _ _ _ _ _ _ _ _ _ _ _ _ _ _ _ _ _ _ _ _ _ _ _ _ _ _ _ _ _ _ _ _ _ _ _ _ _ _ _ _ _ _ _ _ _ _ _ _ _ _ _ _ _ _ _ _ _ _ _ _ _ _ _ _ _ _ _ _ _ _ vs al k hk oa oc hki m hvl2 hlf hall HTO T hTW w4 q q0 q1 ST4K hTS tb4 hFS fx4 wc4 _ _ (by assumption) (by assumption) _ (fun _ _ _ _ _ h => h) na nc ST4 hFT hTF hFT' hTSW hFSW hsT hsS hsW hqa
    by_cases hqb : q = 8
    ·by_cases hvz : 0 < vs.length
     ·exact blk_as ms fs ps fn ma pa ba fb fo mc pc fc bn bc S W vg ar hm1 hm2 hf1 hf2 hp2 L deep hd most hmost vars vv hvl H w IHZ HIN HHw HFP HMZ hSl hWl HWS W2 HW2S HBW HKI u0 w1 ST0 n0 _ _ _ _ _ _ _ _ _ _ _ _ _ _ _ _ _ _ _ _ _ _ _ _ _ _ _ _ _ _ _ _ _ _ _ _ _ _ _ _ _ _ _ _ _ _ _ _ _ _ _ _ _ _ _ _ _ _ _ _ _ _ _ _ _ _ _ _ _ _ _ _ _ _ _ _ _ _ _ _ _ _ _ _ _ _ _ _ _ _ _ _ _ _ _ _ _ _ _ _ _ _ _ _ _ _ _ _ _ _ _ _ _ _ _ _ _ _ _ _ _ _ _ _ _ _ _ _ _ _ _ _ _ _ _ _ _ _ _ _ _ _ _ _ _ _ _ _ _ _ _ _ _ _ _ _ _ _ _ _ _ _ _ _ _ _ _ _ _ _ _ _ _ _ _ _ _ _ _ _ _ _ _ _ _ _ _ _ _ _ _ _ _ _ _ _ _ _ _ _ _ _ _ _ _ _ _ _ _ _ _ _ _ _ _ _ _ _ _ _ _ _ _ _ _ _ _ _ _ _ vs al k hk oa oc hki m hvl2 hlf hall HTO T hTW w4 q q0 q1 ST4K hTS tb4 hFS fx4 wc4 _ _ (by assumption) (by assumption) _ (fun _ _ _ _ _ h => h) na nc ST4 hFT hTF hFT' hTSW hFSW hsT hsS hsW hqb hvz
     ·exact blk_p8 ms fs ps fn ma pa ba fb fo mc pc fc bn bc S W vg ar hm1 hm2 hf1 hf2 hp2 L deep hd most hmost vars vv hvl H w IHZ HIN HHw HFP HMZ hSl hWl HWS W2 HW2S HBW HKI u0 w1 ST0 n0 _ _ _ _ _ _ _ _ _ _ _ _ _ _ _ _ _ _ _ _ _ _ _ _ _ _ _ _ _ _ _ _ _ _ _ _ _ _ _ _ _ _ _ _ _ _ _ _ _ _ _ _ _ _ _ _ _ _ _ _ _ _ _ _ _ _ _ _ _ _ _ _ _ _ _ _ _ _ _ _ _ _ _ _ _ _ _ _ _ _ _ _ _ _ _ _ _ _ _ _ _ _ _ _ _ _ _ _ _ _ _ _ _ _ _ _ _ _ _ _ _ _ _ _ _ _ _ _ _ _ _ _ _ _ _ _ _ _ _ _ _ _ _ _ _ _ _ _ _ _ _ _ _ _ _ _ _ _ _ _ _ _ _ _ _ _ _ _ _ _ _ _ _ _ _ _ _ _ _ _ _ _ _ _ _ _ _ _ _ _ _ _ _ _ _ _ _ _ _ _ _ _ _ _ _ _ _ _ _ _ _ _ _ _ _ _ _ _ _ _ _ _ _ _ _ _ _ _ _ _ vs al k hk oa oc hki m hvl2 hlf hall HTO T hTW w4 q q0 q1 ST4K hTS tb4 hFS fx4 wc4 _ _ (by assumption) (by assumption) _ (fun _ _ _ _ _ h => h) na nc ST4 hFT hTF hFT' hTSW hFSW hsT hsS hsW hqb hvz
    by_cases hqc : q = 9
    ·exact blk_c9 ms fs ps fn ma pa ba fb fo mc pc fc bn bc S W vg ar hm1 hm2 hf1 hf2 hp2 L deep hd most hmost vars vv hvl H w IHZ HIN HHw HFP HMZ hSl hWl HWS W2 HW2S HBW HKI u0 w1 ST0 n0 _ _ _ _ _ _ _ _ _ _ _ _ _ _ _ _ _ _ _ _ _ _ _ _ _ _ _ _ _ _ _ _ _ _ _ _ _ _ _ _ _ _ _ _ _ _ _ _ _ _ _ _ _ _ _ _ _ _ _ _ _ _ _ _ _ _ _ _ _ _ _ _ _ _ _ _ _ _ _ _ _ _ _ _ _ _ _ _ _ _ _ _ _ _ _ _ _ _ _ _ _ _ _ _ _ _ _ _ _ _ _ _ _ _ _ _ _ _ _ _ _ _ _ _ _ _ _ _ _ _ _ _ _ _ _ _ _ _ _ _ _ _ _ _ _ _ _ _ _ _ _ _ _ _ _ _ _ _ _ _ _ _ _ _ _ _ _ _ _ _ _ _ _ _ _ _ _ _ _ _ _ _ _ _ _ _ _ _ _ _ _ _ _ _ _ _ _ _ _ _ _ _ _ _ _ _ _ _ _ _ _ _ _ _ _ _ _ _ _ _ _ _ _ _ _ _ _ _ _ _ vs al k hk oa oc hki m hvl2 hlf hall HTO T hTW w4 q q0 q1 ST4K hTS tb4 hFS fx4 wc4 _ _ (by assumption) (by assumption) _ (fun _ _ _ _ _ h => h) na nc ST4 hFT hTF hFT' hTSW hFSW hsT hsS hsW hqc
    by_cases hqd : q = 10
    ·exact blk_c10 ms fs ps fn ma pa ba fb fo mc pc fc bn bc S W vg ar hm1 hm2 hf1 hf2 hp2 L deep hd most hmost vars vv hvl H w IHZ HIN HHw HFP HMZ hSl hWl HWS W2 HW2S HBW HKI u0 w1 ST0 n0 _ _ _ _ _ _ _ _ _ _ _ _ _ _ _ _ _ _ _ _ _ _ _ _ _ _ _ _ _ _ _ _ _ _ _ _ _ _ _ _ _ _ _ _ _ _ _ _ _ _ _ _ _ _ _ _ _ _ _ _ _ _ _ _ _ _ _ _ _ _ _ _ _ _ _ _ _ _ _ _ _ _ _ _ _ _ _ _ _ _ _ _ _ _ _ _ _ _ _ _ _ _ _ _ _ _ _ _ _ _ _ _ _ _ _ _ _ _ _ _ _ _ _ _ _ _ _ _ _ _ _ _ _ _ _ _ _ _ _ _ _ _ _ _ _ _ _ _ _ _ _ _ _ _ _ _ _ _ _ _ _ _ _ _ _ _ _ _ _ _ _ _ _ _ _ _ _ _ _ _ _ _ _ _ _ _ _ _ _ _ _ _ _ _ _ _ _ _ _ _ _ _ _ _ _ _ _ _ _ _ _ _ _ _ _ _ _ _ _ _ _ _ _ _ _ _ _ _ _ _ vs al k hk oa oc hki m hvl2 hlf hall HTO T hTW w4 q q0 q1 ST4K hTS tb4 hFS fx4 wc4 _ _ (by assumption) (by assumption) _ (fun _ _ _ _ _ h => h) na nc ST4 hFT hTF hFT' hTSW hFSW hsT hsS hsW hqd
    by_cases hqe : q = 11
    ·by_cases hvz : 0 < deep
     ·exact blk_if ms fs ps fn ma pa ba fb fo mc pc fc bn bc S W vg ar hm1 hm2 hf1 hf2 hp2 L deep hd most hmost vars vv hvl H w IHZ HIN HHw HFP HMZ hSl hWl HWS W2 HW2S HBW HKI u0 w1 ST0 n0 _ _ _ _ _ _ _ _ _ _ _ _ _ _ _ _ _ _ _ _ _ _ _ _ _ _ _ _ _ _ _ _ _ _ _ _ _ _ _ _ _ _ _ _ _ _ _ _ _ _ _ _ _ _ _ _ _ _ _ _ _ _ _ _ _ _ _ _ _ _ _ _ _ _ _ _ _ _ _ _ _ _ _ _ _ _ _ _ _ _ _ _ _ _ _ _ _ _ _ _ _ _ _ _ _ _ _ _ _ _ _ _ _ _ _ _ _ _ _ _ _ _ _ _ _ _ _ _ _ _ _ _ _ _ _ _ _ _ _ _ _ _ _ _ _ _ _ _ _ _ _ _ _ _ _ _ _ _ _ _ _ _ _ _ _ _ _ _ _ _ _ _ _ _ _ _ _ _ _ _ _ _ _ _ _ _ _ _ _ _ _ _ _ _ _ _ _ _ _ _ _ _ _ _ _ _ _ _ _ _ _ _ _ _ _ _ _ _ _ _ _ _ _ _ _ _ _ _ _ _ vs al k hk oa oc hki m hvl2 hlf hall HTO T hTW w4 q q0 q1 ST4K hTS tb4 hFS fx4 wc4 _ _ (by assumption) (by assumption) _ (fun _ _ _ _ _ h => h) na nc ST4 hFT hTF hFT' hTSW hFSW hsT hsS hsW hqe hvz
     ·exact blk_p11 ms fs ps fn ma pa ba fb fo mc pc fc bn bc S W vg ar hm1 hm2 hf1 hf2 hp2 L deep hd most hmost vars vv hvl H w IHZ HIN HHw HFP HMZ hSl hWl HWS W2 HW2S HBW HKI u0 w1 ST0 n0 _ _ _ _ _ _ _ _ _ _ _ _ _ _ _ _ _ _ _ _ _ _ _ _ _ _ _ _ _ _ _ _ _ _ _ _ _ _ _ _ _ _ _ _ _ _ _ _ _ _ _ _ _ _ _ _ _ _ _ _ _ _ _ _ _ _ _ _ _ _ _ _ _ _ _ _ _ _ _ _ _ _ _ _ _ _ _ _ _ _ _ _ _ _ _ _ _ _ _ _ _ _ _ _ _ _ _ _ _ _ _ _ _ _ _ _ _ _ _ _ _ _ _ _ _ _ _ _ _ _ _ _ _ _ _ _ _ _ _ _ _ _ _ _ _ _ _ _ _ _ _ _ _ _ _ _ _ _ _ _ _ _ _ _ _ _ _ _ _ _ _ _ _ _ _ _ _ _ _ _ _ _ _ _ _ _ _ _ _ _ _ _ _ _ _ _ _ _ _ _ _ _ _ _ _ _ _ _ _ _ _ _ _ _ _ _ _ _ _ _ _ _ _ _ _ _ _ _ _ _ vs al k hk oa oc hki m hvl2 hlf hall HTO T hTW w4 q q0 q1 ST4K hTS tb4 hFS fx4 wc4 _ _ (by assumption) (by assumption) _ (fun _ _ _ _ _ h => h) na nc ST4 hFT hTF hFT' hTSW hFSW hsT hsS hsW hqe hvz
    by_cases hqf : q = 12
    ·by_cases hvz : 0 < deep
     ·exact blk_lo ms fs ps fn ma pa ba fb fo mc pc fc bn bc S W vg ar hm1 hm2 hf1 hf2 hp2 L deep hd most hmost vars vv hvl H w IHZ HIN HHw HFP HMZ hSl hWl HWS W2 HW2S HBW HKI u0 w1 ST0 n0 _ _ _ _ _ _ _ _ _ _ _ _ _ _ _ _ _ _ _ _ _ _ _ _ _ _ _ _ _ _ _ _ _ _ _ _ _ _ _ _ _ _ _ _ _ _ _ _ _ _ _ _ _ _ _ _ _ _ _ _ _ _ _ _ _ _ _ _ _ _ _ _ _ _ _ _ _ _ _ _ _ _ _ _ _ _ _ _ _ _ _ _ _ _ _ _ _ _ _ _ _ _ _ _ _ _ _ _ _ _ _ _ _ _ _ _ _ _ _ _ _ _ _ _ _ _ _ _ _ _ _ _ _ _ _ _ _ _ _ _ _ _ _ _ _ _ _ _ _ _ _ _ _ _ _ _ _ _ _ _ _ _ _ _ _ _ _ _ _ _ _ _ _ _ _ _ _ _ _ _ _ _ _ _ _ _ _ _ _ _ _ _ _ _ _ _ _ _ _ _ _ _ _ _ _ _ _ _ _ _ _ _ _ _ _ _ _ _ _ _ _ _ _ _ _ _ _ _ _ _ vs al k hk oa oc hki m hvl2 hlf hall HTO T hTW w4 q q0 q1 ST4K hTS tb4 hFS fx4 wc4 _ _ (by assumption) (by assumption) _ (fun _ _ _ _ _ h => h) na nc ST4 hFT hTF hFT' hTSW hFSW hsT hsS hsW hqf hvz
     ·exact blk_p12 ms fs ps fn ma pa ba fb fo mc pc fc bn bc S W vg ar hm1 hm2 hf1 hf2 hp2 L deep hd most hmost vars vv hvl H w IHZ HIN HHw HFP HMZ hSl hWl HWS W2 HW2S HBW HKI u0 w1 ST0 n0 _ _ _ _ _ _ _ _ _ _ _ _ _ _ _ _ _ _ _ _ _ _ _ _ _ _ _ _ _ _ _ _ _ _ _ _ _ _ _ _ _ _ _ _ _ _ _ _ _ _ _ _ _ _ _ _ _ _ _ _ _ _ _ _ _ _ _ _ _ _ _ _ _ _ _ _ _ _ _ _ _ _ _ _ _ _ _ _ _ _ _ _ _ _ _ _ _ _ _ _ _ _ _ _ _ _ _ _ _ _ _ _ _ _ _ _ _ _ _ _ _ _ _ _ _ _ _ _ _ _ _ _ _ _ _ _ _ _ _ _ _ _ _ _ _ _ _ _ _ _ _ _ _ _ _ _ _ _ _ _ _ _ _ _ _ _ _ _ _ _ _ _ _ _ _ _ _ _ _ _ _ _ _ _ _ _ _ _ _ _ _ _ _ _ _ _ _ _ _ _ _ _ _ _ _ _ _ _ _ _ _ _ _ _ _ _ _ _ _ _ _ _ _ _ _ _ _ _ _ _ vs al k hk oa oc hki m hvl2 hlf hall HTO T hTW w4 q q0 q1 ST4K hTS tb4 hFS fx4 wc4 _ _ (by assumption) (by assumption) _ (fun _ _ _ _ _ h => h) na nc ST4 hFT hTF hFT' hTSW hFSW hsT hsS hsW hqf hvz
    exact blk_re ms fs ps fn ma pa ba fb fo mc pc fc bn bc S W vg ar hm1 hm2 hf1 hf2 hp2 L deep hd most hmost vars vv hvl H w IHZ HIN HHw HFP HMZ hSl hWl HWS W2 HW2S HBW HKI u0 w1 ST0 n0 _ _ _ _ _ _ _ _ _ _ _ _ _ _ _ _ _ _ _ _ _ _ _ _ _ _ _ _ _ _ _ _ _ _ _ _ _ _ _ _ _ _ _ _ _ _ _ _ _ _ _ _ _ _ _ _ _ _ _ _ _ _ _ _ _ _ _ _ _ _ _ _ _ _ _ _ _ _ _ _ _ _ _ _ _ _ _ _ _ _ _ _ _ _ _ _ _ _ _ _ _ _ _ _ _ _ _ _ _ _ _ _ _ _ _ _ _ _ _ _ _ _ _ _ _ _ _ _ _ _ _ _ _ _ _ _ _ _ _ _ _ _ _ _ _ _ _ _ _ _ _ _ _ _ _ _ _ _ _ _ _ _ _ _ _ _ _ _ _ _ _ _ _ _ _ _ _ _ _ _ _ _ _ _ _ _ _ _ _ _ _ _ _ _ _ _ _ _ _ _ _ _ _ _ _ _ _ _ _ _ _ _ _ _ _ _ _ _ _ _ _ _ _ _ _ _ _ _ _ _ vs al k hk oa oc hki m hvl2 hlf hall HTO T hTW w4 q q0 q1 ST4K hTS tb4 hFS fx4 wc4 _ _ (by assumption) (by assumption) _ (fun _ _ _ _ _ h => h) na nc ST4 hFT hTF hFT' hTSW hFSW hsT hsS hsW (by omega)
   case rest =>
    clear tb4 fx4 wc4 hvl2 hlf hall ST4 ST4K ST3
    obtain ⟨vs', al', lf', x, kk, e0, e1, nm, e2, r0, ea, ra, aa, ta, la, en, ec, rn, rc, an, ac, tn, tc, ln, lc, hst, hto, hvl2, hlf, rep, tb⟩ := hcut
    have hln := hto.fin.len
    rw [List.length_append] at hln
    have hst2 := hst.alloc (.cells #[.int .i64 kk, .string nm, .int .i64 e0, .int .i64 e1, .string e2, .slice ea en ec, .string r0, .slice ra rn rc, .slice aa an ac, .slice ta tn tc, .slice la ln lc] 136)
    obtain ⟨rows, hr1, hr2, hr3⟩ := hst2.coll.holds
    have HR2 := Lib.hid hr2
    have HR3 := Lib.hid hr3
    have HST2 := Lib.hid hst2
    have HTO2 := Lib.hid hto
    have REP := Lib.hid (stmtRep_mono _ _ _ _ (CT.of_below ((Below.refl _ wc).alloc (Nat.le_refl _) (.cells #[.int .i64 kk, .string nm, .int .i64 e0, .int .i64 e1, .string e2, .slice ea en ec, .string r0, .slice ra rn rc, .slice aa an ac, .slice ta tn tc, .slice la ln lc] 136))) rep)
    have hTl : T < wc.heap.size := cell_lt tb.1
    have hsz : w.heap.size + 1 ≤ wc.heap.size := by have := hst.keep.size; have := HW2S.out; omega
    have hw4 : IntKind.i64.wrap ((k : Int) - 1) = ((k - 1 : Nat) : Int) := by rw [show (k : Int) - 1 = ((k - 1 : Nat) : Int) by omega]; exact IntWalk.i64_in _ (by omega)
    clear hst hst2 hr2 hr3 hto rep
    go_wp2_with (at_builtin; refine wpList_append_fresh _ rfl _ _ 74 rfl (w.heap.size + 1) 136 i1 _ 11 192 Tryd.underlying74 hj hy0 hy1 hy2 rfl (by decide) _ al'.length rows.flatten rfl HR3.out ⟨wc.heap.size, 0, none⟩ 1 1 [.int .i64 kk, .string nm, .int .i64 e0, .int .i64 e1, .string e2, .slice ea en ec, .string r0, .slice ra rn rc, .slice aa an ac, .slice ta tn tc, .slice la ln lc] rfl rfl (new_cells _ _ _) (by simp [Value.oneCell']) (by unfold maxLen; omega) (by omega) (by simp; omega) ?_)
    intro v' w5 hown5 hgr5 hfr5
    have st5 := (HST2.out.out (l2 := [x]) (rows2 := [[.int .i64 kk, .string nm, .int .i64 e0, .int .i64 e1, .string e2, .slice ea en ec, .string r0, .slice ra rn rc, .slice aa an ac, .slice ta tn tc, .slice la ln lc]]) rows hr1 HR2.out rfl (fun i h h' => by obtain rfl : i = 0 := (by simpa using h); exact ⟨REP.out, rfl⟩) hgr5 (by simpa using hfr5) (by simpa using hown5)).unbox HIN.out.src.mem HIN.out.mem
    have ST5 := Lib.hid st5
    clear st5 hown5 hgr5 hfr5 tb hr1
    go_wp2_with fail
    go_roundw
    case rel => exact ⟨vs', al' ++ [x], lf', k - 1, by go_num, by omega, ST5.out, HTO2.out, hvl2, hlf⟩
    case measure => simp [intOf]; omega
  ·have hb1 : decide ((0 : Int) < (k : Int)) = decide (0 < k) := by simp
   have hb2 : decide ((0 : Int) < (lf : Int)) = decide (0 < lf) := by simp
   by_cases hk0 : 0 < k
   ·have hki : (0 : Int) < (k : Int) := by omega
    have hli : ¬ (0 : Int) < (lf : Int) := by omega
    go_wp2_with fail
    go_ret
    exact ⟨⟨al, oa, oc, lf, rfl, HTO.out.fin, HST.out.list (fun x hx => by have := HHw.out x hx; omega), HST.out.wc⟩, HST.out.srcH, HKI.out.trans HST.out.keep, HST.out.free⟩
   ·have hki : ¬ (0 : Int) < (k : Int) := by omega
    go_wp2_with fail
    go_ret
    exact ⟨⟨al, oa, oc, lf, rfl, HTO.out.fin, HST.out.list (fun x hx => by have := HHw.out x hx; omega), HST.out.wc⟩, HST.out.srcH, HKI.out.trans HST.out.keep, HST.out.free⟩
end Go.Proofs.YtlbocidcjmehfaaDoor
