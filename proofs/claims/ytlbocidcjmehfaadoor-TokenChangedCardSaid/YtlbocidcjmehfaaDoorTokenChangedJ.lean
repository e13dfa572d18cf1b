import Derived.Test.YtlbocidcjmehfaaDoorA6J
import Derived.Test.YtlbocidcjmehfaaDoorMTextJ
import Derived.Test.YtlbocidcjmehfaaDoorB2J
import Derived.Test.YtlbocidcjmehfaaDoorP1J
import Derived.Deep.DeepCutAuto
import Derived.Deep.CutBlock
import Derived.Maps.RangeWalk
set_option linter.unusedVariables false
set_option linter.unusedSimpArgs false
namespace Go.Proofs.YtlbocidcjmehfaaDoor
open Go.ChangeShapes Go.WideShapes Go.ChangeAt Go.RowKit
theorem int_at {w : World} {a : Option Addr} {n cap : Nat} {l : List Int} {i : Nat} (h : RowAt w (.slice a n cap) n (l.map (.int .i64))) (hi : i < l.length) : ∃ b off, a = some ⟨b, off, none⟩ ∧ w.cell? ⟨b, off + i, none⟩ = some (.int .i64 l[i]) := by
 obtain ⟨a', cap', he, hc, hr⟩ := h
 cases he
 rcases hr with h0 | ⟨b, off, rfl, hr⟩
 ·exfalso; have := congrArg List.length h0; rw [List.length_map] at this; simp only [List.length_nil] at this; omega
 ·exact ⟨b, off, rfl, hr i _ (by simp [hi])⟩
theorem byte_at {w : World} {a : Option Addr} {n cap : Nat} {l : List UInt8} {i : Nat} (h : RowAt w (.slice a n cap) n (bcells l)) (hi : i < l.length) : ∃ b off, a = some ⟨b, off, none⟩ ∧ w.cell? ⟨b, off + i, none⟩ = some (.int .u8 l[i].toNat) := by
 obtain ⟨a', cap', he, hc, hr⟩ := h
 cases he
 rcases hr with h0 | ⟨b, off, rfl, hr⟩
 ·exfalso; have := congrArg List.length h0; unfold bcells at this; rw [List.length_map] at this; simp only [List.length_nil] at this; omega
 ·exact ⟨b, off, rfl, hr i _ (by simp [bcells, hi])⟩
structure BytesAt (Q : Nat) (bs : List UInt8) (w : World) : Prop where
 cell : ∀ j (h : j < bs.length), w.cell? ⟨Q, j, none⟩ = some (.int .u8 bs[j].toNat)
 free : ∀ j, j < bs.length → w.frozen? ⟨Q, j, none⟩ = false
theorem BytesAt.set {Q : Nat} {bs : List UInt8} {w : World} (h : BytesAt Q bs w) (j : Nat) (hj : j < bs.length) (x : UInt8) : BytesAt Q (bs.set j x) (w.setCell ⟨Q, j, none⟩ (.int .u8 x.toNat)) := by
 refine ⟨fun i hi => ?_, fun i hi => ?_⟩
 ·rw [List.length_set] at hi
  have h1 := h.cell i hi
  have h2 := h.cell j hj
  by_cases he : i = j
  ·subst he
   rw [List.getElem_set_self]
   go_simp
  ·rw [List.getElem_set_ne (Ne.symm he)]
   have he2 : ¬ (j = i) := fun h => he h.symm
   go_simp
 ·rw [List.length_set] at hi
  have h1 := h.free i hi
  go_simp
theorem BytesAt.row {Q : Nat} {bs : List UInt8} {w : World} (h : BytesAt Q bs w) (c : Nat) (hc : bs.length ≤ c) : RowAt w (.slice (some ⟨Q, 0, none⟩) bs.length c) bs.length (bcells bs) :=
 ⟨_, _, rfl, hc, .inr ⟨Q, 0, rfl, fun j u hj => by
  have hjl : j < bs.length := by have := (List.getElem?_eq_some_iff.1 hj).1; simpa [bcells] using this
  rw [Nat.zero_add, h.cell j hjl]
  simp [bcells, hjl] at hj
  rw [hj]⟩⟩
theorem BytesAt.start (w : World) (s : ByteArray) (c : Nat) (T : TypeId) (n : Nat) (hn : s.size ≤ n) (m : Nat) : BytesAt w.heap.size s.data.toList ((w.alloc (.cells (bytesRow s c) T (n, m))).drew) := by
 have hlen : s.data.toList.length = s.size := rfl
 refine ⟨fun j hj => ?_, fun j hj => ?_⟩
 ·show (w.alloc (.cells (bytesRow s c) T (n, m))).cell? ⟨w.heap.size, j, none⟩ = _
  rw [World.cell?_alloc_mark]
  unfold bytesRow
  rw [Array.getElem?_append_left (by simpa using hj)]
  simp
  exact ⟨_, Array.getElem?_eq_getElem (by simpa using hj), rfl⟩
 ·show (w.alloc (.cells (bytesRow s c) T (n, m))).frozen? ⟨w.heap.size, j, none⟩ = false
  have : (w.alloc (.cells (bytesRow s c) T (n, m))).heap[w.heap.size]? = some (.cells (bytesRow s c) T (n, m)) := heap_alloc_new w _
  unfold World.frozen?
  simp only [this]
  simp; omega
def tcR (W2 : World) (Q n : Nat) (u : Value) (w : World) : Prop := ∃ (k : Nat) (bs : List UInt8), u = .int .i64 k ∧ k ≤ 4 ∧ bs.length = n ∧ BytesAt Q bs w ∧ Keep [Q] W2 w
set_option maxRecDepth 100000 in
set_option maxHeartbeats 1600000 in
theorem tokenChanged_walk (l at1 : List Int) (by1 : List UInt8) (a a1 a2 : Option Addr) (cap cap1 cap2 : Nat) (w : World) (he : Env w) (hr : RowAt w (.slice a l.length cap) l.length (l.map (.int .i64))) (hl : l.length ≤ 9223372036854775807)
  (hr1 : RowAt w (.slice a1 at1.length cap1) at1.length (at1.map (.int .i64))) (hr2 : RowAt w (.slice a2 by1.length cap2) by1.length (bcells by1)) :
  Calls Tryd.prog 3 #[.slice a l.length cap, .slice a1 at1.length cap1, .slice a2 by1.length cap2] w fun e w' => e = .returned (.bool true) ∧ Below w.heap.size w w' := by
 have HR := Lib.hid hr
 have HR1 := Lib.hid hr1
 have HR2 := Lib.hid hr2
 have HE := Lib.hid he
 have hc1 := hr1.cap
 have hc2 := hr2.cap
 clear hr he hr1 hr2
 have hbs := bytes_of
 go_enter Tryd.func3, Tryd.ntmps3
 go_wp2_with fail
 refine (madeText_any l a cap _ HR.out hl).mono ?_
 intro e w1 hq
 obtain ⟨⟨p, rfl, hp⟩, hb1⟩ := hq
 have HB1 := Lib.hid hb1
 have hTl : (formatT p).length ≤ 75000 := formatT_len hp
 obtain ⟨s, hs⟩ : ∃ s, s = bytes (formatT p) := ⟨_, rfl⟩
 have hss : s.size ≤ 75000 := by rw [hs, bytes_size]; exact hTl
 rw [← hs]
 obtain ⟨gc1, gc2⟩ := grownCap_le w1 s.size 5 (by omega)
 clear hp hb1 hTl hs
 go_wp2_with fail
 obtain ⟨c, hc⟩ : ∃ c, c = grownCap w1 s.size 0 5 := ⟨_, rfl⟩
 rw [← hc] at gc1 gc2 ⊢
 have hz : s.size ≤ (bytesRow s c).size := by unfold bytesRow; simp
 have hba := BytesAt.start w1 s c 5 (bytesRow s c).size hz ((bytesRow s c).size + 1)
 have hk2 : Keep [] w1 ((w1.alloc (.cells (bytesRow s c) 5 ((bytesRow s c).size, (bytesRow s c).size + 1))).drew) := ((Keep.refl _ _).alloc _).drew
 obtain ⟨Q, hQ⟩ : ∃ Q, Q = w1.heap.size := ⟨_, rfl⟩
 have hQw : w.heap.size ≤ Q := by have := HB1.out.size; omega
 have HB2 := Lib.hid (HB1.out.trans ((hk2.below (Nat.le_refl _) (by simp)).mono HB1.out.size))
 rw [← hQ] at hba ⊢
 have HBA := Lib.hid hba
 obtain ⟨bs0, hbs0⟩ : ∃ b, b = s.data.toList := ⟨_, rfl⟩
 have hn0 : bs0.length = s.size := by rw [hbs0]; rfl
 rw [← hbs0] at HBA
 clear hba hk2 hQ hc hz hbs0 hbs
 generalize (w1.alloc (.cells (bytesRow s c) 5 ((bytesRow s c).size, (bytesRow s c).size + 1))).drew = w2 at HBA HB2 ⊢
 obtain ⟨n, hn⟩ : ∃ n, n = s.size := ⟨_, rfl⟩
 rw [← hn] at hn0 gc1 hss ⊢
 clear hn
 go_loopw [8] (fun u wr => tcR w2 Q n u wr) (fun u _ => 5 - (intOf u).toNat)
 case atStart => exact ⟨0, bs0, rfl, by omega, hn0, HBA.out, Keep.refl _ _⟩
 case round =>
  obtain ⟨k, bs, rfl, hk4, hbl, hba, hkq⟩ := hrel
  have HBA2 := Lib.hid hba
  have HKQ := Lib.hid hkq
  clear hba hkq HBA hn0
  have HB3 := Lib.hid (HB2.out.trans ((HKQ.out.below (B := w.heap.size) HB2.out.size (by intro x hx; simp at hx; omega))))
  have EXIT : Hid (RowAt wr (.slice (some ⟨Q, 0, none⟩) n c) n (bcells bs)) := Lib.hid (by have := HBA2.out.row c (by omega); rw [hbl] at this; exact this)
  by_cases h1 : k < at1.length
  ·have h1i : (k : Int) < (at1.length : Int) := by omega
   by_cases h2 : k < by1.length
   ·have h2i : (k : Int) < (by1.length : Int) := by omega
    by_cases h3 : k < 4
    ·have h3i : (k : Int) < 4 := by omega
     by_cases h4 : 0 < n
     ·have h4i : (0 : Int) < (n : Int) := by omega
      obtain ⟨b, off, rfl, q1⟩ := int_at HR1.out h1
      obtain ⟨b', off', rfl, q2⟩ := byte_at HR2.out h2
      have hbQ : ¬ b = Q := by have := cell_lt q1; simp at this; omega
      have hbQ' : ¬ b' = Q := by have := cell_lt q2; simp at this; omega
      have B1 := cell_lt q1
      have B2 := cell_lt q2
      rw [← (bcell HB3.out).1 _ _ B1] at q1
      rw [← (bcell HB3.out).1 _ _ B2] at q2
      clear B1 B2
      obtain ⟨x, hx⟩ : ∃ x, x = at1[k] := ⟨_, rfl⟩
      obtain ⟨y, hy⟩ : ∃ y, y = by1[k] := ⟨_, rfl⟩
      rw [← hx] at q1
      rw [← hy] at q2
      have hm0 : 0 ≤ x % (n : Int) := Int.emod_nonneg x (by omega)
      have hm1 : x % (n : Int) < n := Int.emod_lt_of_pos x (by omega)
      have hjn : (x % (n : Int)).toNat < bs.length := by omega
      have k1 := HBA2.out.cell (x % (n : Int)).toNat hjn
      have k2 := HBA2.out.free (x % (n : Int)).toNat hjn
      have hwk : IntKind.i64.wrap ((k : Int) + 1) = ((k + 1 : Nat) : Int) := IntWalk.i64_in _ (by omega)
      clear hx hy
      go_upto_region 5 with fail
      refine wp_region_held_drew (S := fun w' => w'.cell? ⟨b, off + k, none⟩ = some (.int .i64 x) ∧ w'.cell? ⟨b', off' + k, none⟩ = some (.int .u8 y.toNat)) (by kernel_rfl) ⟨q1, q2⟩ (fun hHeld => ?_)
      refine held_take 0 (v := ?vv12) (by kernel_rfl) rfl (by rfl) (by kernel_rfl) (by kernel_rfl) (fun _ _ _ h => h) ?hyy12 (by assumption) ?rest12
      case hyy12 => (intro w hSw; (try dsimp only at hSw); go_simp; (try with_reducible rfl))
      (try go_frame)
      refine held_take 1 (v := ?vv13) (by kernel_rfl) rfl (by rfl) (by kernel_rfl) (by kernel_rfl) (fun _ _ _ h => h) ?hyy13 (by assumption) ?rest13
      case hyy13 => (intro w hSw; (try dsimp only at hSw); go_simp; (try with_reducible rfl))
      (try go_frame)
      refine held_take 2 (v := ?vv14) (by kernel_rfl) rfl (by rfl) (by kernel_rfl) (by kernel_rfl) (fun _ _ _ h => h) ?hyy14 (by assumption) ?rest14
      case hyy14 => (intro w hSw; (try dsimp only at hSw); go_simp; (try with_reducible rfl))
      (try go_frame)
      refine held_take 3 (v := ?vv15) (by kernel_rfl) rfl (by rfl) (by kernel_rfl) (by kernel_rfl) (fun _ _ _ h => h) ?hyy15 (by assumption) ?rest15
      case hyy15 => (intro w hSw; (try dsimp only at hSw); go_simp; (try with_reducible rfl))
      (try go_frame)
      refine held_take 4 (v := ?vv16) (by kernel_rfl) rfl (by rfl) (by kernel_rfl) (by kernel_rfl) (fun _ _ _ h => h) ?hyy16 (by assumption) ?rest16
      case hyy16 => (intro w hSw; (try dsimp only at hSw); go_simp; (try with_reducible rfl))
      (try go_frame)
      refine held_take 5 (v := ?vv17) (by kernel_rfl) rfl (by rfl) (by kernel_rfl) (by kernel_rfl) (fun _ _ _ h => h) ?hyy17 (by assumption) ?rest17
      case hyy17 => (intro w hSw; (try dsimp only at hSw); go_simp; (try with_reducible rfl))
      (try go_frame)
      refine held_take 6 (v := ?vv18) (by kernel_rfl) rfl (by rfl) (by kernel_rfl) (by kernel_rfl) (fun _ _ _ h => h) ?hyy18 (by assumption) ?rest18
      case hyy18 => (intro w hSw; (try dsimp only at hSw); go_simp; (try with_reducible rfl))
      (try go_frame)
      refine held_take 8 (v := ?vv19) (by kernel_rfl) rfl (by rfl) (by kernel_rfl) (by kernel_rfl) (fun _ _ _ h => h) ?hyy19 (by assumption) ?rest19
      case hyy19 => (intro w hSw; (try dsimp only at hSw); go_simp; (try with_reducible rfl))
      (try go_frame)
      refine held_take 9 (v := ?vv20) (by kernel_rfl) rfl (by rfl) (by kernel_rfl) (by kernel_rfl) (fun _ _ _ h => h) ?hyy20 (by assumption) ?rest20
      case hyy20 => (intro w hSw; (try dsimp only at hSw); go_simp; (try with_reducible rfl))
      (try go_frame)
      refine held_take 10 (v := ?vv21) (by kernel_rfl) rfl (by rfl) (by kernel_rfl) (by kernel_rfl) (fun _ _ _ h => h) ?hyy21 (by assumption) ?rest21
      case hyy21 => (intro w hSw; (try dsimp only at hSw); go_simp; (try with_reducible rfl))
      (try go_frame)
      refine held_take 11 (v := ?vv22) (by kernel_rfl) rfl (by rfl) (by kernel_rfl) (by kernel_rfl) (fun _ _ _ h => h) ?hyy22 (by assumption) ?rest22
      case hyy22 => (intro w hSw; (try dsimp only at hSw); go_simp; (try with_reducible rfl))
      (try go_frame)
      refine held_one 7 (by kernel_rfl) rfl (by rfl) (fun K' hK => ?_)
      go_simp
      refine (within_any x n _ (by omega) (by omega)).mono ?_
      rintro e w5 ⟨rfl, rfl⟩
      (try dsimp only)
      refine hK.out _ _ ⟨q1, q2⟩ (fun hHeld' => ?_)
      clear hK K' hHeld
      have hHeld := hHeld'
      clear hHeld'
      (try go_frame)
      refine held_take 12 (v := ?vv23) (by kernel_rfl) rfl (by rfl) (by kernel_rfl) (by kernel_rfl) (fun _ _ _ h => h) ?hyy23 (by assumption) ?rest23
      case hyy23 => (intro w hSw; (try dsimp only at hSw); go_simp; (try with_reducible rfl))
      (try go_frame)
      refine held_one 13 (by kernel_rfl) rfl (by rfl) (fun K' hK => ?_)
      go_simp
      have hkk : Keep [Q] wr ((wr.setCell ⟨Q, (x % (n : Int)).toNat, none⟩ (.int .u8 y.toNat)).drew) := ((Keep.refl [Q] wr).setCell (p := ⟨Q, (x % (n : Int)).toNat, none⟩) (.inl (List.mem_singleton.2 rfl)) _).drew
      have g1 : ((wr.setCell ⟨Q, (x % (n : Int)).toNat, none⟩ (.int .u8 y.toNat)).drew).cell? ⟨b, off + k, none⟩ = some (.int .i64 x) := by rw [hkk.cell (p := ⟨b, off + k, none⟩) (cell_lt q1) (by simp; exact hbQ)]; exact q1
      have g2 : ((wr.setCell ⟨Q, (x % (n : Int)).toNat, none⟩ (.int .u8 y.toNat)).drew).cell? ⟨b', off' + k, none⟩ = some (.int .u8 y.toNat) := by rw [hkk.cell (p := ⟨b', off' + k, none⟩) (cell_lt q2) (by simp; exact hbQ')]; exact q2
      (try dsimp only)
      refine hK.out _ _ ⟨g1, g2⟩ (fun hHeld' => ?_)
      clear hK K' hHeld
      have hHeld := hHeld'
      clear hHeld'
      (try go_frame)
      clear hHeld
      refine wpAnyH_done (by kernel_rfl) ?_ _
      go_wp2_with fail
      go_roundw
      case rel =>
       have hbn : BytesAt Q (bs.set (x % (n : Int)).toNat y) ((wr.setCell ⟨Q, (x % (n : Int)).toNat, none⟩ (.int .u8 y.toNat)).drew) := (fun h => ⟨h.cell, h.free⟩ : BytesAt Q (bs.set (x % (n : Int)).toNat y) (wr.setCell ⟨Q, (x % (n : Int)).toNat, none⟩ (.int .u8 y.toNat)) → _) (BytesAt.set HBA2.out (x % (n : Int)).toNat hjn y)
       exact ⟨k + 1, bs.set (x % (n : Int)).toNat y, by go_num, by omega, by rw [List.length_set]; exact hbl, hbn, HKQ.out.trans hkk⟩
      case measure => simp [intOf]; omega
     ·have h4i : ¬ (0 : Int) < (n : Int) := by omega
      go_wp2_with fail
      refine (same_any bs (.slice (some ⟨Q, 0, none⟩) n c) wr (HE.out.below HB3.out HE.out.size) (by rw [hbl]; exact EXIT.out) (fun _ _ c' h => by cases h; exact gc2)).mono ?_
      intro e w5 hq
      obtain ⟨rfl, hb5⟩ := hq
      have HB5 := Lib.hid (HB3.out.trans (hb5.mono HB3.out.size))
      clear hb5
      go_wp2_with fail
      refine (awake_any w5 (HE.out.below HB5.out HE.out.size)).mono ?_
      intro e w6 hq
      obtain ⟨rfl, hb6⟩ := hq
      have HB6 := Lib.hid (HB5.out.trans (hb6.mono HB5.out.size))
      clear hb6
      go_wp2_with fail
      go_ret
      exact ⟨rfl, HB6.out⟩
    ·have h3i : ¬ (k : Int) < 4 := by omega
     go_wp2_with fail
     refine (same_any bs (.slice (some ⟨Q, 0, none⟩) n c) wr (HE.out.below HB3.out HE.out.size) (by rw [hbl]; exact EXIT.out) (fun _ _ c' h => by cases h; exact gc2)).mono ?_
     intro e w5 hq
     obtain ⟨rfl, hb5⟩ := hq
     have HB5 := Lib.hid (HB3.out.trans (hb5.mono HB3.out.size))
     clear hb5
     go_wp2_with fail
     refine (awake_any w5 (HE.out.below HB5.out HE.out.size)).mono ?_
     intro e w6 hq
     obtain ⟨rfl, hb6⟩ := hq
     have HB6 := Lib.hid (HB5.out.trans (hb6.mono HB5.out.size))
     clear hb6
     go_wp2_with fail
     go_ret
     exact ⟨rfl, HB6.out⟩
   ·have h2i : ¬ (k : Int) < (by1.length : Int) := by omega
    go_wp2_with fail
    refine (same_any bs (.slice (some ⟨Q, 0, none⟩) n c) wr (HE.out.below HB3.out HE.out.size) (by rw [hbl]; exact EXIT.out) (fun _ _ c' h => by cases h; exact gc2)).mono ?_
    intro e w5 hq
    obtain ⟨rfl, hb5⟩ := hq
    have HB5 := Lib.hid (HB3.out.trans (hb5.mono HB3.out.size))
    clear hb5
    go_wp2_with fail
    refine (awake_any w5 (HE.out.below HB5.out HE.out.size)).mono ?_
    intro e w6 hq
    obtain ⟨rfl, hb6⟩ := hq
    have HB6 := Lib.hid (HB5.out.trans (hb6.mono HB5.out.size))
    clear hb6
    go_wp2_with fail
    go_ret
    exact ⟨rfl, HB6.out⟩
  ·have h1i : ¬ (k : Int) < (at1.length : Int) := by omega
   go_wp2_with fail
   refine (same_any bs (.slice (some ⟨Q, 0, none⟩) n c) wr (HE.out.below HB3.out HE.out.size) (by rw [hbl]; exact EXIT.out) (fun _ _ c' h => by cases h; exact gc2)).mono ?_
   intro e w5 hq
   obtain ⟨rfl, hb5⟩ := hq
   have HB5 := Lib.hid (HB3.out.trans (hb5.mono HB3.out.size))
   clear hb5
   go_wp2_with fail
   refine (awake_any w5 (HE.out.below HB5.out HE.out.size)).mono ?_
   intro e w6 hq
   obtain ⟨rfl, hb6⟩ := hq
   have HB6 := Lib.hid (HB5.out.trans (hb6.mono HB5.out.size))
   clear hb6
   go_wp2_with fail
   go_ret
   exact ⟨rfl, HB6.out⟩
set_option maxRecDepth 100000 in
theorem tokenChanged_contract (H : Type) (enc : TypeId × Value → H) (W : World) (base : Nat) (args : Array Value) (ds gs : List (DataW H)) (before : List MemPlace)
  (hval : ∀ (j : Nat) t v, Tryd.f3.params[j]? = some t → args[j]? = some v → Value.okWide Tryd.prog W .any base t v)
  (hW : DataW.Whole enc Tryd.prog Tryd.f3.params.toList Rows.tokenChangedSpec.vars false W args.toList ds gs before) (he : Env W) :
  Calls Tryd.prog 3 args W fun e W' => ∃ v, e = .returned v ∧ Rows.tokenChangedSpec.post enc Tryd.prog Tryd.f3 false true false false W args v W' := by
 have hW' := hW
 obtain ⟨p, q, hA0, hV, rfl, hfz, hnd⟩ := hW
 have hA : DataW.TrodAll enc Tryd.prog W 0 (fun _ => true) true Tryd.f3.params.toList args.toList ds p := hA0
 rw [Tryd.params3] at hA hval
 obtain ⟨v0, vs0, d0, ds0, p0, q0, hargs, rfl, rfl, h0, r0⟩ := trodAll_cons hA
 obtain ⟨v1, vs1, d1, ds1, p1, q1, rfl, rfl, rfl, h1, r1⟩ := trodAll_cons r0
 obtain ⟨v2, vs2, d2, ds2, p2, q2, rfl, rfl, rfl, h2, r2⟩ := trodAll_cons r1
 obtain ⟨rfl, rfl, rfl⟩ := trodAll_nil r2
 obtain rfl : args = #[v0, v1, v2] := by cases args; simp_all
 have walk : Calls Tryd.prog 3 #[v0, v1, v2] W fun e w' => e = .returned (.bool true) ∧ Below W.heap.size W w' := by
  obtain ⟨l, a, cap, rfl, hc, hcm, hr⟩ := open_intsR (hval 0 22 v0 rfl rfl) h0
  obtain ⟨l1, a1, cap1, rfl, hc1, hcm1, hr1⟩ := open_intsR (hval 1 22 v1 rfl rfl) h1
  obtain ⟨l2, a2, cap2, rfl, hc2, hcm2, hr2⟩ := open_bytes (hval 2 23 v2 rfl rfl) h2
  exact tokenChanged_walk l l1 l2 a a1 a2 cap cap1 cap2 W he hr (by unfold maxLen at hcm; omega) hr1 hr2
 refine walk.mono fun e W' ⟨he, hb⟩ => ?_
 subst he
 exact law_post hW' rfl rfl (by rw [Tryd.params3]; intro t ht; simp at ht; rcases ht with rfl | rfl | rfl <;> exact ⟨by kernel_rfl, of_decide_eq_true (by kernel_rfl)⟩) rfl hb
theorem tokenChanged_reads (os : Os) {H : Type} (enc : TypeId × Value → H) : ∃ places, DataW.whole enc Tryd.prog ((World.doorLaid Tryd.prog 60 os).forCall (fun _ _ => 0) ⟨#[], #[.slice none 0 0, .slice none 0 0, .slice none 0 0], []⟩).memory Tryd.f3.params.toList Rows.tokenChangedSpec.vars false (#[.slice none 0 0, .slice none 0 0, .slice none 0 0] : Array Value).toList 8 = some ([.nil, .nil, .nil], [], places) :=
 ⟨[], by kernel_rfl⟩
set_option maxRecDepth 100000 in
theorem tokenChanged_lifted (os : Os) (started : os.Started) (H : Type) (enc : TypeId × Value → H) (F : Stop.Interp) :
  ReturnsInHanded {} Tryd.checked os 3 .any ((OpenSpec.ofChange Rows.tokenChangedSpec).preRow enc Tryd.prog Tryd.f3 Rows.tokenChangedRow.domain false Rows.tokenChangedRow.laid) (((OpenSpec.ofChange Rows.tokenChangedSpec).at F).post enc Tryd.prog Tryd.f3 false true false false) := by
 obtain ⟨places, hx⟩ := tokenChanged_reads os enc
 refine returnsInHanded_of_row (C := Tryd.checked) (s := OpenSpec.ofChange Rows.tokenChangedSpec) own started (by kernel_rfl) Tryd.func3
  (witness_row_at (enc := enc) (C := Tryd.checked) false (World.doorLaid Tryd.prog 60 os) #[.slice none 0 0, .slice none 0 0, .slice none 0 0] rfl (by kernel_rfl) (by kernel_rfl) (by kernel_rfl)
   (OpenSpec.preRow_of_cond 8 hx (by kernel_rfl) (fun k hk => by cases hk) (by kernel_rfl) (laid_met os _))) ?_
 intro W base args ds gs before hval hW _ _ _ hL hSh _
 exact tokenChanged_contract H enc W base args ds gs before hval hW (env_of hL hSh)
theorem tokenChanged_said : Rows.TokenChangedSaid :=
 OpenClaim.holds_of_cond 3 Tryd.f3 rfl rfl rfl rfl rfl rfl rfl ⟨rfl, rfl, rfl, rfl, rfl⟩ rfl rfl rfl rfl rfl (by kernel_rfl) Tryd.func3 (by kernel_rfl)
  (of_decide_eq_true (by kernel_rfl)) (by unfold Func.isWrapper; first | (rw [if_pos (by decide +kernel)]; kernel_rfl) | (rw [if_neg (by decide +kernel)]; exact ⟨rfl, rfl⟩))
  (fun os started H enc _ F => by rw [OpenClaim.pre_eq_preRow]; exact tokenChanged_lifted os started H enc F)
theorem tokenChanged_plain (f : FuncId) (fn : Func) (hf : Tryd.pinned.checked.prog.funcNamed "lockorder/lockorderlaw01.TokenChanged" = some f) (hfn : Tryd.pinned.checked.prog.funcs[f]? = some fn) :
  false = Tryd.pinned.checked.prog.looks [] ∧ ∀ (j : Nat) t, fn.params[j]? = some t → Tryd.pinned.checked.prog.wantsStandIn t = false := by
 obtain rfl : f = 3 := Option.some.inj ((show Tryd.prog.funcNamed "lockorder/lockorderlaw01.TokenChanged" = some 3 by kernel_rfl).symm.trans hf) |>.symm
 obtain rfl : fn = Tryd.f3 := (Option.some.inj (Tryd.func3.symm.trans hfn)).symm
 refine ⟨by kernel_rfl, fun j t ht => ?_⟩
 rw [Tryd.params3] at ht
 have hm : t ∈ [22, 22, 23] := by simpa using Array.mem_of_getElem? ht
 have hall : ([22, 22, 23].all fun u => !Tryd.prog.wantsStandIn u) = true := by kernel_rfl
 exact (show Tryd.prog.wantsStandIn t = false by simpa using List.all_eq_true.1 hall t hm)
theorem tokenChanged_card : Rows.TokenChangedCardSaid :=
 Claim7.holds_tied_plain_at .later [] _ _ _ _ tokenChanged_said (fun _ h => by cases h) (by kernel_rfl) (fun _ h => by cases h) tokenChanged_row_tie rfl ⟨rfl, rfl⟩ (by kernel_rfl) rfl tokenChanged_plain (by kernel_rfl)
#print axioms tokenChanged_card
end Go.Proofs.YtlbocidcjmehfaaDoor
