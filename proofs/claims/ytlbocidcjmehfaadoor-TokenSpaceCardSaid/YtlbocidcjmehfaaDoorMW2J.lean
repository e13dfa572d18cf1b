import Derived.Test.YtlbocidcjmehfaaDoorMW1J
import Derived.StillTailTactics
import Derived.Maps.RangeWalk
set_option linter.unusedVariables false
set_option linter.unusedSimpArgs false
namespace Go.Proofs.YtlbocidcjmehfaaDoor
open Go.RowKit
def bstrs (l : List ByteArray) : List Value := l.map .string
theorem bstrs_append (a b : List ByteArray) : bstrs (a ++ b) = bstrs a ++ bstrs b := List.map_append ..
theorem bstrs_length (a : List ByteArray) : (bstrs a).length = a.length := List.length_map ..
def msNames (ms : List AMutex) : List ByteArray := ms.map AMutex.name
def psNames (ps : List AParam) : List ByteArray := (ps.map fun x => if x.mutex then [x.name, x.name] else []).flatten
theorem msNames_take (ms : List AMutex) (k : Nat) (h : k < ms.length) : msNames (ms.take (k + 1)) = msNames (ms.take k) ++ [ms[k].name] := by
 rw [List.take_succ_eq_append_getElem h, msNames, List.map_append]; rfl
theorem psNames_take (ps : List AParam) (k : Nat) (h : k < ps.length) : psNames (ps.take (k + 1)) = psNames (ps.take k) ++ (if ps[k].mutex then [ps[k].name, ps[k].name] else []) := by
 rw [List.take_succ_eq_append_getElem h, psNames, List.map_append, List.flatten_append]; simp [psNames]
theorem psNames_len : ∀ (ps : List AParam), (psNames ps).length ≤ 2 * ps.length
 | [] => by simp [psNames]
 | x :: r => by
  have := psNames_len r
  simp only [psNames, List.map_cons, List.flatten_cons, List.length_append, List.length_cons] at this ⊢
  split <;> (simp only [List.length_cons, List.length_nil]; omega)
theorem psNames_mem (ps : List AParam) (n : ByteArray) (h : n ∈ psNames ps) : ∃ x, x ∈ ps ∧ x.mutex = true ∧ x.name = n := by
 simp only [psNames, List.mem_flatten, List.mem_map] at h
 obtain ⟨l, ⟨x, hx, rfl⟩, hn⟩ := h
 cases hm : x.mutex with
 | true => rw [hm] at hn; simp at hn; exact ⟨x, hx, hm, hn.symm⟩
 | false => rw [hm] at hn; simp at hn
def RefOk (ms : List AMutex) (ps : List AParam) (vars : List ByteArray) (H : List Nat) (S : Nat) (w : World) (e : Ending) (w' : World) : Prop :=
 (∃ (r : ARef) (a : Option Addr) (cap : Nat), e = .returned (.agg #[.string r.name, .slice a r.index.length cap]) ∧ MRef ms ps vars r ∧ RefRep (hideL H w') r [.string r.name, .slice a r.index.length cap]) ∧ Src H S w' ∧ Keep [S] w w'
theorem cells6 {a b : World} {p0 p1 p2 p3 p4 p5 : Addr} {u0 u1 u2 u3 u4 u5 : Value} (h : a.cell? p0 = some u0 ∧ a.cell? p1 = some u1 ∧ a.cell? p2 = some u2 ∧ a.cell? p3 = some u3 ∧ a.cell? p4 = some u4 ∧ a.cell? p5 = some u5) (hb : Below a.heap.size a b) :
  b.cell? p0 = some u0 ∧ b.cell? p1 = some u1 ∧ b.cell? p2 = some u2 ∧ b.cell? p3 = some u3 ∧ b.cell? p4 = some u4 ∧ b.cell? p5 = some u5 :=
 ⟨cell_step h.1 hb, cell_step h.2.1 hb, cell_step h.2.2.1 hb, cell_step h.2.2.2.1 hb, cell_step h.2.2.2.2.1 hb, cell_step h.2.2.2.2.2 hb⟩
theorem cells3B {B b : Nat} {a c : World} {u0 u1 u2 : Value} (h : a.cell? ⟨b, 0, none⟩ = some u0 ∧ a.cell? ⟨b, 1, none⟩ = some u1 ∧ a.cell? ⟨b, 2, none⟩ = some u2) (hb : Below B a c) (hB : b < B) :
  c.cell? ⟨b, 0, none⟩ = some u0 ∧ c.cell? ⟨b, 1, none⟩ = some u1 ∧ c.cell? ⟨b, 2, none⟩ = some u2 := by
 have e := fun o => hb.cell (p := ⟨b, o, none⟩) hB
 rw [e, e, e]; exact h
theorem rbxB {B b : Nat} {a c : World} (h : (a.cell? ⟨b, 0, none⟩).isSome = true ∧ (a.cell? ⟨b, 1, none⟩).isSome = true ∧ a.frozen? ⟨b, 0, none⟩ = false ∧ a.frozen? ⟨b, 1, none⟩ = false) (hb : Below B a c) (hB : b < B) :
  (c.cell? ⟨b, 0, none⟩).isSome = true ∧ (c.cell? ⟨b, 1, none⟩).isSome = true ∧ c.frozen? ⟨b, 0, none⟩ = false ∧ c.frozen? ⟨b, 1, none⟩ = false := by
 have e := fun o => hb.cell (p := ⟨b, o, none⟩) hB
 have f := fun o => hb.frozen (p := ⟨b, o, none⟩) hB
 rw [e, e, f, f]; exact h
theorem alloc_cell {a : World} {p : Addr} {u : Value} (h : a.cell? p = some u) (o : Obj) : (a.alloc o).cell? p = some u := cell_step h ((Below.refl _ _).alloc (Nat.le_refl _) o)
theorem alloc_free {a : World} {p : Addr} (h : a.frozen? p = false) (hp : p.block < a.heap.size) (o : Obj) : (a.alloc o).frozen? p = false := by
 rw [((Below.refl a.heap.size a).alloc (Nat.le_refl _) o).frozen hp]; exact h
theorem keep2 (B : Nat) (L : List Nat) (hL : B ∈ L) (w : World) (u0 u1 : Value) : Keep L w ((w.setCell ⟨B, 0, none⟩ u0).setCell ⟨B, 1, none⟩ u1) :=
 ((Keep.refl _ _).setCell (.inl hL) _).setCell (.inl hL) _
theorem keep_alloc2 {L : List Nat} {a b : World} (h : Keep L a b) (hs : b.heap.size = a.heap.size) (o : Obj) : Keep L (a.alloc o) (b.alloc o) := by
 refine ⟨h.os, h.tape, h.output, by simp; omega, fun k hk hn => ?_⟩
 rcases Nat.lt_or_ge k a.heap.size with h1 | h1
 ·rw [Below.heap_alloc b o k (by omega), Below.heap_alloc a o k h1]; exact h.block k h1 hn
 ·have hke : k = a.heap.size := by simp at hk; omega
  subst hke
  show (b.heap.push o)[a.heap.size]? = (a.heap.push o)[a.heap.size]?
  rw [← hs, Array.getElem?_push_size, hs, Array.getElem?_push_size]
def mnR (w W2 : World) (l : Nat → List ByteArray) (n : Nat) (u v : Value) (wr : World) : Prop :=
 ∃ k : Nat, v = .int .i64 k ∧ k ≤ n ∧ wr.ownsRow (w.heap.size + 2) 9 1 u (l k).length (bstrs (l k)) ∧ Below (w.heap.size + 2) W2 wr ∧ w.heap.size + 2 ≤ wr.heap.size
theorem refOk_fin {ms : List AMutex} {ps : List AParam} {vars : List ByteArray} {H L : List Nat} {S : Nat} {w wk w' : World} {r : ARef} {a : Option Addr} {cap : Nat} (hm : MRef ms ps vars r) (hL : ∀ b, b ∈ L → w.heap.size ≤ b) (hs : Src (L ++ H) S wk) (hS : S ∈ H) (hSl : S < w.heap.size) (hk : Keep [S] w wk)
  (hr : RefRep (hideL (L ++ H) wk) r [.string r.name, .slice a r.index.length cap]) {e : Ending} (he : e = .returned (.agg #[.string r.name, .slice a r.index.length cap])) (hw : Keep L wk w') : RefOk ms ps vars H S w e w' := by
 have hw2 : Keep (L ++ H) wk w' := hw.mono (fun y hy => List.mem_append_left _ hy)
 have hsub : ∀ x, x ∈ H → x ∈ L ++ H := fun x hx => List.mem_append_right _ hx
 have hs' := hs.keep hw (fun y hy => List.mem_append_left _ hy) (fun hm => by have := hL _ hm; omega)
 refine ⟨⟨r, a, cap, he, hm, ?_⟩, ?_, ?_⟩
 ·exact RefRep.mono (fun _ _ h => hideL_sub hsub h) (hr.below hw2.hide)
 ·obtain ⟨l, a, cap, i, h1, h2, h3, h4, h5⟩ := hs'.holds
  exact ⟨hS, hs'.lt, hs'.free, l, a, cap, i, h1, h2.mono fun _ _ h => hideL_sub hsub h, h3, h4, h5⟩
 ·refine ⟨hw.os.trans hk.os, hw.tape.trans hk.tape, hw.output.trans hk.output, Nat.le_trans hk.size hw.size, fun k hkl hn => ?_⟩
  rw [hw.block k (Nat.lt_of_lt_of_le hkl hk.size) (fun hm => by have := hL _ hm; omega)]; exact hk.block k hkl hn
theorem rbxK {S b : Nat} {a c : World} (h : (a.cell? ⟨b, 0, none⟩).isSome = true ∧ (a.cell? ⟨b, 1, none⟩).isSome = true ∧ a.frozen? ⟨b, 0, none⟩ = false ∧ a.frozen? ⟨b, 1, none⟩ = false) (hb : Keep [S] a c) (hB : b < a.heap.size) (hn : b ≠ S) :
  (c.cell? ⟨b, 0, none⟩).isSome = true ∧ (c.cell? ⟨b, 1, none⟩).isSome = true ∧ c.frozen? ⟨b, 0, none⟩ = false ∧ c.frozen? ⟨b, 1, none⟩ = false := by
 have e := fun o => hb.cell (p := ⟨b, o, none⟩) hB (by simpa using hn)
 have f := fun o => hb.frozen (p := ⟨b, o, none⟩) hB (by simpa using hn)
 rw [e, e, f, f]; exact h
theorem names_at {ms : List AMutex} {ps : List AParam} {l : List ByteArray} (hl : l = msNames ms ++ psNames ps) {j : Nat} (hj : j < l.length) :
  (∀ h : j < ms.length, l[j] = ms[j].name) ∧ (ms.length ≤ j → ∃ x, x ∈ ps ∧ x.mutex = true ∧ x.name = l[j]) := by
 subst hl
 have hml : (msNames ms).length = ms.length := List.length_map ..
 refine ⟨fun h => ?_, fun h => ?_⟩
 ·rw [List.getElem_append_left (by omega)]; simp [msNames]
 ·rw [List.getElem_append_right (by omega)]; exact psNames_mem ps _ (List.getElem_mem _)
set_option maxRecDepth 100000 in
set_option maxHeartbeats 8000000 in
theorem mref_any {H N : List Nat} {S W left : Nat} {ar : Bool} {vg vf : Value} {w : World} (ms : List AMutex) (ps : List AParam) (vars : List ByteArray) (vv : Value) (fn : ByteArray) (ma pa ba : Option Addr) (mc pc bn bc : Nat)
  (h : Src H S w) (hSN : S ∈ N) (hH : ∀ x, x ∈ H → x < w.heap.size) (hv : RowAt (hideL N w) vv vars.length (vars.map .string)) (hl : vars.length ≤ 1000000)
  (wc : w.cell? ⟨W, 0, none⟩ = some (.pointer (some ⟨S, 0, none⟩)) ∧ w.cell? ⟨W, 1, none⟩ = some vg ∧ w.cell? ⟨W, 2, none⟩ = some (.slice ma ms.length mc) ∧ w.cell? ⟨W, 3, none⟩ = some vf ∧ w.cell? ⟨W, 4, none⟩ = some (.int .i64 left) ∧ w.cell? ⟨W, 5, none⟩ = some (.bool ar))
  (hWS : W ≠ S) (hWl : W < w.heap.size) (hms : ListRep (hideL H w) MutexRep 3 (.slice ma ms.length mc) ms) (hm1 : 1 ≤ ms.length) (hm2 : ms.length ≤ 1000) (hmz : ∀ m, m ∈ ms → m.size ≤ 1000)
  (hps : ListRep (hideL H w) ParamRep 2 (.slice pa ps.length pc) ps) (hp2 : ps.length ≤ 1000) :
  Calls Tryd.prog 88 #[.pointer (some ⟨W, 0, none⟩), .agg #[.string fn, .slice pa ps.length pc, .slice ba bn bc], vv] w (RefOk ms ps vars H S w) := by
 obtain ⟨va, vc, hve, hvc, hvr⟩ := hv
 subst hve
 have hv : RowAt (hideL N w) (.slice va vars.length vc) vars.length (vars.map .string) := ⟨va, vc, rfl, hvc, hvr⟩
 obtain ⟨i0, hi, hz0, hz1, hz2⟩ := info_parts strInfo
 have hSl := h.lt
 have HWS := Lib.hid hWS
 have HS := Lib.hid h
 have HH := Lib.hid hH
 have HV := Lib.hid hv
 have HMS := Lib.hid hms
 have HPS := Lib.hid hps
 have HMZ := Lib.hid hmz
 have WC := Lib.hid wc
 clear h hH hv hms hps hmz wc hvr hWS
 go_enter Tryd.func88, Tryd.ntmps88
 go_wp2_with fail
 obtain ⟨W2, hW2⟩ : ∃ W2, W2 = (w.alloc (.cells #[.string fn, .slice pa ps.length pc, .slice ba bn bc] 76)).alloc (.cells #[.string ⟨#[]⟩, .slice none 0 0] 133) := ⟨_, rfl⟩
 have HW2 := Lib.hid hW2
 rw [← hW2]
 have hBW : Below w.heap.size w W2 := by rw [hW2]; go_grown
 have hW2s : W2.heap.size = w.heap.size + 2 := by rw [hW2]; simp
 have HW2S := Lib.hid hW2s
 have fbx : W2.cell? ⟨w.heap.size, 0, none⟩ = some (.string fn) ∧ W2.cell? ⟨w.heap.size, 1, none⟩ = some (.slice pa ps.length pc) ∧ W2.cell? ⟨w.heap.size, 2, none⟩ = some (.slice ba bn bc) := by rw [hW2]; exact ⟨by go_simp, by go_simp, by go_simp⟩
 have rbx : (W2.cell? ⟨w.heap.size + 1, 0, none⟩).isSome = true ∧ (W2.cell? ⟨w.heap.size + 1, 1, none⟩).isSome = true ∧ W2.frozen? ⟨w.heap.size + 1, 0, none⟩ = false ∧ W2.frozen? ⟨w.heap.size + 1, 1, none⟩ = false := by rw [hW2]; exact ⟨by go_simp, by go_simp, by go_simp, by go_simp⟩
 have HSB : Src ((w.heap.size + 1) :: H) S W2 := by
  have h1 := (HS.out.below ((Below.refl _ _).alloc (Nat.le_refl _) (.cells #[.string fn, .slice pa ps.length pc, .slice ba bn bc] 76))).new (.cells #[.string ⟨#[]⟩, .slice none 0 0] 133)
  rw [hW2]; simpa using h1
 have FBX := Lib.hid fbx
 have RBX := Lib.hid rbx
 have HSB2 := Lib.hid HSB
 have HSN := Lib.hid hSN
 clear hW2 hW2s fbx rbx HSB hSN
 go_loopw [7, 8] (fun u v wr => mnR w W2 (fun k => msNames (ms.take k)) ms.length u v wr) (fun _ v _ => ms.length - (intOf v).toNat)
 case atStart => exact ⟨0, rfl, by omega, ownsRow_nil _ _ _ _, Below.refl _ _, by have := HW2S.out; omega⟩
 case round =>
  obtain ⟨k, rfl, hk, hown, hbel, hsz⟩ := hrel
  dsimp only at hown
  have hbw : Below w.heap.size w wr := hBW.trans (hbel.mono (by omega))
  have wcr := cells6 WC.out hbw
  by_cases hlt : k < ms.length
  ·have hlt' : (k : Int) < ms.length := by omega
   obtain ⟨b, off, cap', row, hsl, hc', hR, hrow, hblt, hcells⟩ := (HMS.out.mono unhide (fun _ _ _ h => h)).below hbw (fun _ _ _ h => h) |>.get (by omega) hlt
   cases hsl
   generalize hsk : ms[k] = m at hR
   obtain ⟨name, re, size⟩ := m
   cases hR
   have d0 := hcells 0 _ rfl
   rw [Nat.add_zero] at d0
   dsimp only at d0
   have HSK := Lib.hid hsk
   have HOWN := Lib.hid hown
   have hlen : (msNames (ms.take k)).length ≤ 1000 := by rw [msNames, List.length_map, List.length_take]; omega
   have HTK := Lib.hid (msNames_take ms k hlt)
   clear hcells hrow hsk hown
   go_wp2_with (at_builtin; refine wpList_append_own _ rfl _ _ 42 rfl (w.heap.size + 2) 9 i0 _ 1 16 Tryd.underlying42 hi hz0 hz1 hz2 rfl (by decide) _ (msNames (ms.take k)).length (bstrs (msNames (ms.take k))) rfl (ownsRow_below HOWN.out ((Below.refl _ _).alloc (Nat.le_refl _) _) (Nat.le_refl _)) ⟨wr.heap.size, 0, none⟩ 1 1 [_] rfl rfl (new_cells _ _ _) (by simp [Value.oneCell']) (by unfold maxLen; omega) (by omega) (by simp; omega) ?_)
   intro v' w4 hown4 hgrow _
   have hb4 : Below (w.heap.size + 2) wr w4 := Below.grow ((Below.refl _ _).alloc (by omega) _) hgrow (by simp; omega) (ownsRow_below HOWN.out ((Below.refl _ _).alloc (Nat.le_refl _) _) (Nat.le_refl _)) (Nat.le_refl _)
   clear hgrow wcr
   go_wp2_with fail
   go_roundw
   case rel =>
    refine ⟨k + 1, by go_num, by omega, ?_, hbel.trans hb4, Nat.le_trans hsz hb4.size⟩
    dsimp only
    rw [HTK.out, HSK.out, bstrs_append, List.length_append]
    exact hown4
   case measure => simp [intOf]; omega
  ·have hke : k = ms.length := by omega
   subst hke
   have hge : ¬ ((ms.length : Int) < ms.length) := by omega
   rw [List.take_of_length_le (Nat.le_refl _)] at hown
   obtain ⟨oa, oc, rfl⟩ := owns_slice hown
   have fbr := cells3B FBX.out hbel (by omega)
   have hml : (msNames ms).length = ms.length := List.length_map ..
   go_wp2_with fail
   go_loopw [7, 10] (fun u v wr => mnR w W2 (fun k => msNames ms ++ psNames (ps.take k)) ps.length u v wr) (fun _ v _ => ps.length - (intOf v).toNat)
   case atStart =>
    refine ⟨0, rfl, by omega, ?_, hbel, hsz⟩
    have h2 : msNames ms ++ psNames (List.take 0 ps) = msNames ms := by simp [psNames]
    dsimp only
    rw [h2, hml]
    rw [hml] at hown
    exact hown
   case round =>
    clear hbel hsz hbw wcr fbr hown
    obtain ⟨k, rfl, hk, hown, hbel, hsz⟩ := hrel
    dsimp only at hown
    have hbw : Below w.heap.size w wr := hBW.trans (hbel.mono (by omega))
    have wcr := cells6 WC.out hbw
    have fbr := cells3B FBX.out hbel (by omega)
    have hpl := psNames_len (ps.take k)
    rw [List.length_take] at hpl
    have hll : (msNames ms ++ psNames (ps.take k)).length ≤ 3000 := by rw [List.length_append]; omega
    by_cases hlt : k < ps.length
    ·have hlt' : (k : Int) < ps.length := by omega
     obtain ⟨b, off, cap', row, hsl, hc', hR, hrow, hblt, hcells⟩ := (HPS.out.mono unhide (fun _ _ _ h => h)).get (by omega) hlt
     cases hsl
     have HTK := Lib.hid (psNames_take ps k hlt)
     generalize hsk : ps[k] = x at hR HTK
     obtain ⟨name, mu⟩ := x
     cases hR
     have d0 := cell_step (hcells 0 _ rfl) hbw
     have d1 := cell_step (hcells 1 _ rfl) hbw
     rw [Nat.add_zero] at d0
     dsimp only at d0 d1
     have HSK := Lib.hid hsk
     have HOWN := Lib.hid hown
     clear hcells hrow hsk hown hpl
     cases mu
     ·go_wp2_with fail
      go_roundw
      case rel =>
       refine ⟨k + 1, by go_num, by omega, ?_, hbel, hsz⟩
       dsimp only
       rw [HTK.out]; simpa using HOWN.out
      case measure => simp [intOf]; omega
     ·go_wp2_with fail
      refine wp_region_held_drew (S := fun w' => w'.cell? ⟨w.heap.size, 1, none⟩ = some (.slice (some ⟨b, off, none⟩) ps.length pc) ∧ w'.cell? ⟨b, off + k * 2, none⟩ = some (.string name) ∧ Hid (Below (w.heap.size + 2) W2 w' ∧ w.heap.size + 2 ≤ w'.heap.size)) (by kernel_rfl) ⟨fbr.2.1, d0, Lib.hid ⟨hbel.drew, hsz⟩⟩ (fun hHeld => ?_)
      refine held_take 0 (v := ?v0) (by kernel_rfl) rfl (by rfl) (by kernel_rfl) (by kernel_rfl) (fun _ _ _ h => h) ?hy0 (by assumption) ?rest0
      case hy0 => (intro w hSw; (try dsimp only at hSw); go_simp; (try with_reducible rfl))
      (try go_frame)
      refine held_take 1 (v := ?v1) (by kernel_rfl) rfl (by rfl) (by kernel_rfl) (by kernel_rfl) (fun _ _ _ h => h) ?hy1 (by assumption) ?rest1
      case hy1 => (intro w hSw; (try dsimp only at hSw); go_simp; (try with_reducible rfl))
      (try go_frame)
      refine held_take 2 (v := ?v2) (by kernel_rfl) rfl (by rfl) (by kernel_rfl) (by kernel_rfl) (fun _ _ _ h => h) ?hy2 (by assumption) ?rest2
      case hy2 => (intro w hSw; (try dsimp only at hSw); go_simp; (try with_reducible rfl))
      (try go_frame)
      refine held_take 3 (v := ?v3) (by kernel_rfl) rfl (by rfl) (by kernel_rfl) (by kernel_rfl) (fun _ _ _ h => h) ?hy3 (by assumption) ?rest3
      case hy3 => (intro w hSw; (try dsimp only at hSw); go_simp; (try with_reducible rfl))
      (try go_frame)
      refine held_take 4 (v := ?v4) (by kernel_rfl) rfl (by rfl) (by kernel_rfl) (by kernel_rfl) (fun _ _ _ h => h) ?hy4 (by assumption) ?rest4
      case hy4 => (intro w hSw; (try dsimp only at hSw); go_simp; (try with_reducible rfl))
      (try go_frame)
      refine held_take 5 (v := ?v5) (by kernel_rfl) rfl (by rfl) (by kernel_rfl) (by kernel_rfl) (fun _ _ _ h => h) ?hy5 (by assumption) ?rest5
      case hy5 => (intro w hSw; (try dsimp only at hSw); go_simp; (try with_reducible rfl))
      (try go_frame)
      refine held_take 6 (v := ?v6) (by kernel_rfl) rfl (by rfl) (by kernel_rfl) (by kernel_rfl) (fun _ _ _ h => h) ?hy6 (by assumption) ?rest6
      case hy6 => (intro w hSw; (try dsimp only at hSw); go_simp; (try with_reducible rfl))
      (try go_frame)
      refine held_take 7 (v := ?v7) (by kernel_rfl) rfl (by rfl) (by kernel_rfl) (by kernel_rfl) (fun _ _ _ h => h) ?hy7 (by assumption) ?rest7
      case hy7 => (intro w hSw; (try dsimp only at hSw); go_simp; (try with_reducible rfl))
      (try go_frame)
      refine held_take 8 (v := ?v8) (by kernel_rfl) rfl (by rfl) (by kernel_rfl) (by kernel_rfl) (fun _ _ _ h => h) ?hy8 (by assumption) ?rest8
      case hy8 => (intro w hSw; (try dsimp only at hSw); go_simp; (try with_reducible rfl))
      (try go_frame)
      refine held_take 9 (v := ?v9) (by kernel_rfl) rfl (by rfl) (by kernel_rfl) (by kernel_rfl) (fun _ _ _ h => h) ?hy9 (by assumption) ?rest9
      case hy9 => (intro w hSw; (try dsimp only at hSw); go_simp; (try with_reducible rfl))
      (try go_frame)
      refine held_take 10 (v := ?v10) (by kernel_rfl) rfl (by rfl) (by kernel_rfl) (by kernel_rfl) (fun _ _ _ h => h) ?hy10 (by assumption) ?rest10
      case hy10 => (intro w hSw; (try dsimp only at hSw); go_simp; (try with_reducible rfl))
      (try go_frame)
      refine held_take 11 (v := ?v11) (by kernel_rfl) rfl (by rfl) (by kernel_rfl) (by kernel_rfl) (fun _ _ _ h => h) ?hy11 (by assumption) ?rest11
      case hy11 => (intro w hSw; (try dsimp only at hSw); go_simp; (try with_reducible rfl))
      (try go_frame)
      refine held_take 12 (v := ?v12) (by kernel_rfl) rfl (by rfl) (by kernel_rfl) (by kernel_rfl) (fun _ _ _ h => h) ?hy12 (by assumption) ?rest12
      case hy12 => (intro w hSw; (try dsimp only at hSw); go_simp; (try with_reducible rfl))
      (try go_frame)
      refine held_one 13 (by kernel_rfl) rfl (by rfl) (fun K' hK => ?_)
      go_simp
      have hbA : Below (w.heap.size + 2) wr (wr.alloc (.cells #[.string name, .string name] 9)).drew := ((Below.refl _ _).alloc hsz _).drew
      refine hK.out _ _ ⟨by rw [hbA.cell (by simp)]; exact fbr.2.1, by rw [hbA.cell (by simp; omega)]; exact d0, Lib.hid ⟨hbel.trans hbA, by simp; omega⟩⟩ (fun hHeld2 => ?_)
      clear hK K' hHeld
      (try go_frame)
      refine held_one 14 (by kernel_rfl) rfl (by rfl) (fun K' hK => ?_)
      refine wp_append_own _ _ _ 42 rfl (w.heap.size + 2) 9 i0 _ 1 16 Tryd.underlying42 hi hz0 hz1 hz2 rfl (by decide) _ (msNames ms ++ psNames (ps.take k)).length (bstrs (msNames ms ++ psNames (ps.take k))) rfl (ownsRow_below HOWN.out (((Below.refl _ _).alloc (Nat.le_refl _) _).drew) (Nat.le_refl _)) ⟨wr.heap.size, 0, none⟩ 2 2 [.string name, .string name] rfl rfl (fun j u h => new_cells wr [.string name, .string name] 9 j u h) (by simp [Value.oneCell']) (by unfold maxLen; omega) (by omega) (by simp; omega) ?_
      intro v' w4 hown4 hgrow _
      have hb4 : Below (w.heap.size + 2) wr w4 := Below.grow (((Below.refl _ _).alloc hsz _).drew) hgrow (by simp; omega) (ownsRow_below HOWN.out (((Below.refl _ _).alloc (Nat.le_refl _) _).drew) (Nat.le_refl _)) (Nat.le_refl _)
      clear hgrow
      refine hK.out _ _ ⟨by rw [hb4.cell (by simp)]; exact fbr.2.1, by rw [hb4.cell (by simp; omega)]; exact d0, Lib.hid ⟨hbel.trans hb4, Nat.le_trans hsz hb4.size⟩⟩ (fun hHeld3 => ?_)
      clear hK K' hHeld2
      (try go_frame)
      refine held_take 15 (v := ?v15) (by kernel_rfl) rfl (by rfl) (by kernel_rfl) (by kernel_rfl) (fun _ _ _ h => h) ?hy15 (by assumption) ?rest15
      case hy15 => (intro w hSw; (try dsimp only at hSw); go_simp; (try with_reducible rfl))
      (try go_frame)
      refine wpAnyH_done (by kernel_rfl) ?_ _
      clear fbr d0 d1 wcr
      go_wp2_with fail
      go_roundw
      case rel =>
       refine ⟨k + 1, by go_num, by omega, ?_, hbel.trans hb4, Nat.le_trans hsz hb4.size⟩
       dsimp only
       rw [HTK.out, if_pos trivial, ← List.append_assoc, bstrs_append, List.length_append]
       exact hown4
      case measure => simp [intOf]; omega
    ·have hke : k = ps.length := by omega
     subst hke
     have hge2 : ¬ ((ps.length : Int) < ps.length) := by omega
     rw [List.take_of_length_le (Nat.le_refl _)] at hown hll
     obtain ⟨oa, oc, rfl⟩ := owns_slice hown
     obtain ⟨l, hld⟩ : ∃ l, l = msNames ms ++ psNames ps := ⟨_, rfl⟩
     rw [← hld] at hown hll
     have hl1 : 1 ≤ l.length := by rw [hld, List.length_append, msNames, List.length_map]; omega
     have HLD := Lib.hid hld
     have HS1 := Lib.hid (HSB2.out.below (by rw [HW2S.out]; exact hbel))
     have rb1 := rbxB RBX.out hbel (by omega)
     obtain ⟨nb, no, hoa, hnb, hnc⟩ : ∃ nb no, oa = some ⟨nb, no, none⟩ ∧ w.heap.size + 2 ≤ nb ∧ ∀ j u, (bstrs l)[j]? = some u → wr.cell? ⟨nb, no + j, none⟩ = some u := by
      obtain ⟨a', c', he, _, hr⟩ := RowAt.of_owns hown
      cases he
      rcases hr with h0 | ⟨nb, no, rfl, hr⟩
      ·exfalso; have := congrArg List.length h0; rw [bstrs_length] at this; simp at this; rw [this] at hl1; simp at hl1
      ·exact ⟨nb, no, rfl, owns_lt hown rfl, hr⟩
     have HNC := Lib.hid hnc
     rw [← hld]
     clear hld hown hnc
     subst hoa
     go_wp2_with fail
     refine (next_src l.length ((w.heap.size + 1) :: H) S _ HS1.out (by omega) (by omega)).mono ?_
     intro e w1 hq
     obtain ⟨r, rfl, r0, r1, hs1, hk1⟩ := Src.next hq
     clear hq
     obtain ⟨j, rfl⟩ : ∃ j : Nat, r = j := ⟨r.toNat, by omega⟩
     have hj : j < l.length := by omega
     have hjc : w1.cell? ⟨nb, no + j, none⟩ = some (.string l[j]) := by
      have h1 := HNC.out j (.string l[j]) (by simp [bstrs, hj])
      rw [hk1.cell (p := ⟨nb, no + j, none⟩) (cell_lt h1) (by simp; omega)]; exact h1
     have wc1 := wcells wcr hk1 (by have := hbw.size; omega) HWS.out
     have rbw := rbxK rb1 hk1 (by omega) (by omega)
     have hk0 : Keep [S] w w1 := (Keep.of_below hbw).trans hk1
     have hz1 : w.heap.size + 2 ≤ w1.heap.size := Nat.le_trans hsz hk1.size
     have HV1 := Lib.hid (HV.out.below (hk0.mono (by intro y hy; simp at hy; subst hy; exact HSN.out)).hide (Nat.le_refl _))
     have NA := names_at HLD.out hj
     obtain ⟨x, hx⟩ : ∃ x, x = l[j] := ⟨_, rfl⟩
     rw [← hx] at hjc
     have HX := Lib.hid hx
     have HNA := Lib.hid NA
     have HS1' := Lib.hid hs1
     have HK0 := Lib.hid hk0
     have RB1 := Lib.hid rbw
     have hne1 : ¬ w.heap.size + 1 = w1.heap.size := by omega
     have hne2 : ¬ w1.heap.size = w.heap.size + 1 := by omega
     clear NA hx hs1 hk0 rbw rb1 wcr fbr
     by_cases hjm : j < ms.length
     ·obtain ⟨mb, mo, mcap, row, hsl, hc', hR, hrow, hblt, hcells⟩ := HMS.out.get (by omega) hjm
      cases hsl
      have hnm := HNA.out.1 hjm
      have hmem := List.getElem_mem hjm
      have hmzz := HMZ.out _ hmem
      generalize hsk : ms[j] = m at hR hnm hmem hmzz
      obtain ⟨name, re, size⟩ := m
      cases hR
      dsimp only at hnm hmzz
      have d2 := hcells 2 _ rfl
      dsimp only at d2
      obtain ⟨g2, hmH⟩ := hideL_cell d2
      have hmS : mb ≠ S := fun h => hmH (h ▸ HS.out.mem)
      have g3 : w1.cell? ⟨mb, mo + j * 3 + 2, none⟩ = some (.int .i64 size) := by
       have h1 := cell_step g2 hbw
       rw [hk1.cell (p := ⟨mb, mo + j * 3 + 2, none⟩) (cell_lt h1) (by simpa using hmS)]; exact h1
      have hjm' : (j : Int) < ms.length := by omega
      have HSK := Lib.hid hsk
      have WA := fun o => cells6 wc1 ((Below.refl w1.heap.size w1).alloc (Nat.le_refl _) o)
      have G3 := fun o => alloc_cell g3 o
      clear hcells hrow d2 g2 hsk hk1
      have hxn : x = name := by rw [HX.out, hnm]
      subst hxn
      clear hnm
      by_cases hsz0 : 0 < size
      ·go_wp2_with fail
       refine (index_any (H := w1.heap.size :: (w.heap.size + 1) :: H) (N := N) size _ (HS1'.out.new _) HSN.out (by intro y hy; rcases List.mem_cons.1 hy with rfl | hy; simp; rcases List.mem_cons.1 hy with rfl | hy; simp; omega; have := HH.out y hy; simp; omega) (HV1.out.below (((Keep.refl [S] w1).alloc _).mono (by intro y hy; simp at hy; subst hy; exact HSN.out)).hide (Nat.le_refl _)) hl hsz0 (by omega) (WA _) HWS.out (by simp; omega)).mono ?_
       intro e w2 hq
       obtain ⟨⟨y, ya, yc, rfl, ym, yr⟩, hs2, hk2⟩ := hq
       have hzk : w1.heap.size + 1 ≤ w2.heap.size := by have := hk2.size; simpa using this
       have hB3S : w1.heap.size ≠ S := by omega
       have hB1S : w.heap.size + 1 ≠ S := by omega
       have q0 : w2.cell? ⟨w1.heap.size, 0, none⟩ = some (.string x) := by rw [hk2.cell (by simp) (by simpa using hB3S)]; go_simp
       have q1 : w2.cell? ⟨w1.heap.size, 1, none⟩ = some (.slice none 0 0) := by rw [hk2.cell (by simp) (by simpa using hB3S)]; go_simp
       have q2 : w2.frozen? ⟨w1.heap.size, 0, none⟩ = false := by rw [hk2.frozen (by simp) (by simpa using hB3S)]; go_simp
       have q3 : w2.frozen? ⟨w1.heap.size, 1, none⟩ = false := by rw [hk2.frozen (by simp) (by simpa using hB3S)]; go_simp
       have rb2 := rbxK (b := w.heap.size + 1) (RB1.out) ((Keep.refl [S] w1).alloc (.cells #[.string x, .slice none 0 0] 133) |>.trans hk2) (by omega) hB1S
       obtain ⟨s0, s1, f0, f1⟩ := rb2
       obtain ⟨y0, e0⟩ := Option.isSome_iff_exists.1 s0
       obtain ⟨y1, e1⟩ := Option.isSome_iff_exists.1 s1
       have hB1 : w.heap.size + 1 < w2.heap.size := by omega
       have hB3 : w1.heap.size < w2.heap.size := by omega
       have YR := Lib.hid yr
       have YM := Lib.hid ym
       have HS2 := Lib.hid hs2
       have HK2 := Lib.hid ((HK0.out.alloc (.cells #[.string x, .slice none 0 0] 133)).trans hk2)
       clear s0 s1 yr ym hs2 hk2 WA G3 g3
       go_wp2_with fail
       refine bodyPost_ret (v := .agg #[.string x, .slice (some ⟨w2.heap.size, 0, none⟩) 1 1]) (by simp [results, Tryd.results88, go_sem, e0, e1, hB1, hB3, q0, q1]) rfl ?_
       exact refOk_fin (L := [w1.heap.size, w.heap.size + 1]) (r := ⟨x, [y]⟩) (wk := w2.alloc (.cells #[.int .i64 y.op, .int .i64 y.num, .string y.name, .slice ya y.args.length yc] 50)) (.arr hmem hsz0 YM.out) (by intro b hb; simp at hb; omega) (HS2.out.below ((Below.refl _ _).alloc (Nat.le_refl _) _)) HS.out.mem hSl (HK2.out.alloc _)
        ⟨_, rfl, [[.int .i64 y.op, .int .i64 y.num, .string y.name, .slice ya y.args.length yc]], RowAt.hide_new _ w2 [.int .i64 y.op, .int .i64 y.num, .string y.name, .slice ya y.args.length yc] _ 1 _ rfl (by intro z hz; simp at hz; rcases hz with rfl | rfl | hz; omega; omega; have := HH.out z hz; omega), rfl, fun k h h' => by obtain rfl : k = 0 := (by simpa using h); exact ⟨ExprRep.below ((Keep.refl _ w2).alloc _).hide _ YR.out, rfl⟩⟩ rfl
        (by exact keep_alloc2 (((Keep.refl _ _).setCell (.inl (by simp)) _).trans (keep2 (w.heap.size + 1) _ (by simp) _ _ _)) (by simp [World.setCell]) _)
      ·have hsz1 : size ≤ 0 := by omega
       obtain ⟨s0, s1, f0, f1⟩ := RB1.out
       obtain ⟨y0, e0⟩ := Option.isSome_iff_exists.1 s0
       obtain ⟨y1, e1⟩ := Option.isSome_iff_exists.1 s1
       have E0 := fun o => alloc_cell e0 o
       have E1 := fun o => alloc_cell e1 o
       have hB1 : w.heap.size + 1 < w1.heap.size := by omega
       have F0 := fun o => alloc_free f0 hB1 o
       have F1 := fun o => alloc_free f1 hB1 o
       clear s0 s1
       go_wp2_with fail
       refine bodyPost_ret (v := .agg #[.string x, .slice none 0 0]) (by simp [results, Tryd.results88, go_sem, e0, e1, E0, E1, hB1]) rfl ?_
       exact refOk_fin (L := [w.heap.size + 1]) (r := ⟨x, []⟩) (wk := w1) (.scalar hmem (by dsimp only; omega)) (by intro b hb; simp at hb; omega) HS1'.out HS.out.mem hSl HK0.out ⟨_, rfl, ListRep.nil _ _ _⟩ rfl ((keep2 (w.heap.size + 1) [w.heap.size + 1] (List.mem_singleton.2 rfl) _ _ _).alloc _)
     ·obtain ⟨y, hy1, hy2, hy3⟩ := HNA.out.2 (by omega)
      have hyx : y.name = x := by rw [hy3, HX.out]
      have hjm' : ¬ ((j : Int) < ms.length) := by omega
      subst hyx
      clear hk1 hy3
      obtain ⟨s0, s1, f0, f1⟩ := RB1.out
      obtain ⟨y0, e0⟩ := Option.isSome_iff_exists.1 s0
      obtain ⟨y1, e1⟩ := Option.isSome_iff_exists.1 s1
      have E0 := fun o => alloc_cell e0 o
      have E1 := fun o => alloc_cell e1 o
      have hB1 : w.heap.size + 1 < w1.heap.size := by omega
      have F0 := fun o => alloc_free f0 hB1 o
      have F1 := fun o => alloc_free f1 hB1 o
      clear s0 s1
      go_wp2_with fail
      refine bodyPost_ret (v := .agg #[.string y.name, .slice none 0 0]) (by simp [results, Tryd.results88, go_sem, e0, e1, E0, E1, hB1]) rfl ?_
      exact refOk_fin (L := [w.heap.size + 1]) (r := ⟨y.name, []⟩) (wk := w1) (.param hy1 hy2) (by intro b hb; simp at hb; omega) HS1'.out HS.out.mem hSl HK0.out ⟨_, rfl, ListRep.nil _ _ _⟩ rfl ((keep2 (w.heap.size + 1) [w.heap.size + 1] (List.mem_singleton.2 rfl) _ _ _).alloc _)
end Go.Proofs.YtlbocidcjmehfaaDoor
