/-
  Proved: for all slices lockorderlaw02.ExprParse returns true and leaves its arguments as they were. No condition beyond the row's own. (Printed by genep.py.)
-/
import Derived.Test.YtiimofjemiffgaaDoorE6J
import Derived.Test.YtiimofjemiffgaaDoorE7J
import Derived.Test.YtiimofjemiffgaaDoorA3J
import Derived.Test.YtiimofjemiffgaaDoorB2J
import Derived.Deep.DeepCutAuto
import Derived.Deep.CutBlock
import Derived.Maps.RangeWalk
set_option linter.unusedVariables false
set_option linter.unusedSimpArgs false
namespace Go.Proofs.YtiimofjemiffgaaDoor
open Go.ChangeShapes Go.WideShapes Go.ChangeAt Go.RowKit
def epR (W2 : World) (Q n : Nat) (u : Value) (w : World) : Prop := ∃ (k : Nat) (bs : List UInt8), u = .int .i64 k ∧ k ≤ 3 ∧ bs.length = n ∧ BytesAt Q bs w ∧ Keep [Q] W2 w
set_option maxRecDepth 100000 in
set_option maxHeartbeats 3200000 in
theorem exprParse_walk (l at1 : List Int) (by1 : List UInt8) (a a1 a2 : Option Addr) (cap cap1 cap2 : Nat) (w : World) (he : Env w) (hes : EnvS w) (hr : RowAt w (.slice a l.length cap) l.length (l.map (.int .i64))) (hl : l.length ≤ 9223372036854775807)
  (hr1 : RowAt w (.slice a1 at1.length cap1) at1.length (at1.map (.int .i64))) (hr2 : RowAt w (.slice a2 by1.length cap2) by1.length (bcells by1)) :
  Calls Tryd.prog 6 #[.slice a l.length cap, .slice a1 at1.length cap1, .slice a2 by1.length cap2] w fun e w' => e = .returned (.bool true) ∧ Below w.heap.size w w' := by
 have HR := Lib.hid (row_h hr)
 have HR1 := Lib.hid hr1
 have HR2 := Lib.hid hr2
 have HE := Lib.hid he
 have HES := Lib.hid hes
 have hc1 := hr1.cap
 have hc2 := hr2.cap
 clear hr he hes hr1 hr2
 have hbs := bytes_of
 go_enter Tryd.func6, Tryd.ntmps6
 go_wp2_with fail
 refine (madeExpr_any [] l a cap w (by simp) HR.out hl).mono ?_
 rintro e w0 ⟨⟨x, xa, xc, rfl, hmx, xr⟩, hb0⟩
 have HXR := Lib.hid (ExprRep.mono unhide _ xr)
 have HMX := Lib.hid hmx
 have HB0 := Lib.hid hb0
 clear xr hmx hb0
 go_wp2_with fail
 refine (formatE_fine x _ w0 (HMX.out.fine names3_ok (by omega)).1 (HMX.out.valid names3_ok (by omega)) HXR.out).mono ?_
 rintro e w1 ⟨rfl, hb1⟩
 have HB1 := Lib.hid (Below.step HB0.out hb1)
 have hTl : (exprText x).length ≤ 75000 := by have := HMX.out.len names3_ok; omega
 obtain ⟨s, hs⟩ : ∃ s, s = bytes (exprText x) := ⟨_, rfl⟩
 have hss : s.size ≤ 75000 := by rw [hs, bytes_size]; exact hTl
 rw [← hs]
 obtain ⟨gc1, gc2⟩ := grownCap_le w1 s.size 5 (by omega)
 clear hb1 hTl hs
 go_wp2_with fail
 obtain ⟨c, hc⟩ : ∃ c, c = grownCap w1 s.size 0 5 := ⟨_, rfl⟩
 rw [← hc] at gc1 gc2 ⊢
 have hz : s.size ≤ (bytesRow s c).size := by unfold bytesRow; simp
 have hba := BytesAt.start w1 s c 5 (bytesRow s c).size hz ((bytesRow s c).size + 1)
 have hk2 : Keep [] w1 ((w1.alloc (.cells (bytesRow s c) 5 ((bytesRow s c).size, (bytesRow s c).size + 1))).drew) := ((Keep.refl _ _).alloc _).drew
 obtain ⟨Q, hQ⟩ : ∃ Q, Q = w1.heap.size := ⟨_, rfl⟩
 have hQw : w.heap.size ≤ Q := by have := HB1.out.size; omega
 have HB2 := Lib.hid (HB1.out.trans ((hk2.below (Nat.le_refl _) (by simp)).mono HB1.out.size))
 rw [← hQ] at hba ⊢
 have HBA := Lib.hid hba
 obtain ⟨bs0, hbs0⟩ : ∃ b, b = s.data.toList := ⟨_, rfl⟩
 have hn0 : bs0.length = s.size := by rw [hbs0]; rfl
 rw [← hbs0] at HBA
 clear hba hk2 hQ hc hz hbs0 hbs
 generalize (w1.alloc (.cells (bytesRow s c) 5 ((bytesRow s c).size, (bytesRow s c).size + 1))).drew = w2 at HBA HB2 ⊢
 obtain ⟨n, hn⟩ : ∃ n, n = s.size := ⟨_, rfl⟩
 rw [← hn] at hn0 gc1 hss ⊢
 clear hn
 go_loopw [8] (fun u wr => epR w2 Q n u wr) (fun u _ => 4 - (intOf u).toNat)
 case atStart => exact ⟨0, bs0, rfl, by omega, hn0, HBA.out, Keep.refl _ _⟩
 case round =>
  obtain ⟨k, bs, rfl, hk3, hbl, hba, hkq⟩ := hrel
  have HBA2 := Lib.hid hba
  have HKQ := Lib.hid hkq
  clear hba hkq HBA hn0
  have HB3 := Lib.hid (HB2.out.trans ((HKQ.out.below (B := w.heap.size) HB2.out.size (by intro x hx; simp at hx; omega))))
  have EXIT : Hid (RowAt wr (.slice (some ⟨Q, 0, none⟩) n c) n (bcells bs)) := Lib.hid (by have := HBA2.out.row c (by omega); rw [hbl] at this; exact this)
  by_cases h1 : k < at1.length
  ·have h1i : (k : Int) < (at1.length : Int) := by omega
   by_cases h2 : k < by1.length
   ·have h2i : (k : Int) < (by1.length : Int) := by omega
    by_cases h3 : k < 3
    ·have h3i : (k : Int) < 3 := by omega
     by_cases h4 : 0 < n
     ·have h4i : (0 : Int) < (n : Int) := by omega
      obtain ⟨b, off, rfl, q1⟩ := int_at HR1.out h1
      obtain ⟨b', off', rfl, q2⟩ := byte_at HR2.out h2
      have hbQ : ¬ b = Q := by have := cell_lt q1; simp at this; omega
      have hbQ' : ¬ b' = Q := by have := cell_lt q2; simp at this; omega
      have B1 := cell_lt q1
      have B2 := cell_lt q2
      rw [← (bcell HB3.out).1 _ _ B1] at q1
      rw [← (bcell HB3.out).1 _ _ B2] at q2
      clear B1 B2
      obtain ⟨x, hx⟩ : ∃ x, x = at1[k] := ⟨_, rfl⟩
      obtain ⟨y, hy⟩ : ∃ y, y = by1[k] := ⟨_, rfl⟩
      rw [← hx] at q1
      rw [← hy] at q2
      have hm0 : 0 ≤ x % (n : Int) := Int.emod_nonneg x (by omega)
      have hm1 : x % (n : Int) < n := Int.emod_lt_of_pos x (by omega)
      have hjn : (x % (n : Int)).toNat < bs.length := by omega
      have k1 := HBA2.out.cell (x % (n : Int)).toNat hjn
      have k2 := HBA2.out.free (x % (n : Int)).toNat hjn
      have hwk : IntKind.i64.wrap ((k : Int) + 1) = ((k + 1 : Nat) : Int) := IntWalk.i64_in _ (by omega)
      clear hx hy
      go_upto_region 5 with fail
      refine wp_region_held_drew (S := fun w' => w'.cell? ⟨b, off + k, none⟩ = some (.int .i64 x) ∧ w'.cell? ⟨b', off' + k, none⟩ = some (.int .u8 y.toNat)) (by kernel_rfl) ⟨q1, q2⟩ (fun hHeld => ?_)
      refine held_take 0 (v := ?vv12) (by kernel_rfl) rfl (by rfl) (by kernel_rfl) (by kernel_rfl) (fun _ _ _ h => h) ?hyy12 (by assumption) ?rest12
      case hyy12 => (intro w hSw; (try dsimp only at hSw); go_simp; (try with_reducible rfl))
      (try go_frame)
      refine held_take 1 (v := ?vv13) (by kernel_rfl) rfl (by rfl) (by kernel_rfl) (by kernel_rfl) (fun _ _ _ h => h) ?hyy13 (by assumption) ?rest13
      case hyy13 => (intro w hSw; (try dsimp only at hSw); go_simp; (try with_reducible rfl))
      (try go_frame)
      refine held_take 2 (v := ?vv14) (by kernel_rfl) rfl (by rfl) (by kernel_rfl) (by kernel_rfl) (fun _ _ _ h => h) ?hyy14 (by assumption) ?rest14
      case hyy14 => (intro w hSw; (try dsimp only at hSw); go_simp; (try with_reducible rfl))
      (try go_frame)
      refine held_take 3 (v := ?vv15) (by kernel_rfl) rfl (by rfl) (by kernel_rfl) (by kernel_rfl) (fun _ _ _ h => h) ?hyy15 (by assumption) ?rest15
      case hyy15 => (intro w hSw; (try dsimp only at hSw); go_simp; (try with_reducible rfl))
      (try go_frame)
      refine held_take 4 (v := ?vv16) (by kernel_rfl) rfl (by rfl) (by kernel_rfl) (by kernel_rfl) (fun _ _ _ h => h) ?hyy16 (by assumption) ?rest16
      case hyy16 => (intro w hSw; (try dsimp only at hSw); go_simp; (try with_reducible rfl))
      (try go_frame)
      refine held_take 5 (v := ?vv17) (by kernel_rfl) rfl (by rfl) (by kernel_rfl) (by kernel_rfl) (fun _ _ _ h => h) ?hyy17 (by assumption) ?rest17
      case hyy17 => (intro w hSw; (try dsimp only at hSw); go_simp; (try with_reducible rfl))
      (try go_frame)
      refine held_take 6 (v := ?vv18) (by kernel_rfl) rfl (by rfl) (by kernel_rfl) (by kernel_rfl) (fun _ _ _ h => h) ?hyy18 (by assumption) ?rest18
      case hyy18 => (intro w hSw; (try dsimp only at hSw); go_simp; (try with_reducible rfl))
      (try go_frame)
      refine held_take 8 (v := ?vv19) (by kernel_rfl) rfl (by rfl) (by kernel_rfl) (by kernel_rfl) (fun _ _ _ h => h) ?hyy19 (by assumption) ?rest19
      case hyy19 => (intro w hSw; (try dsimp only at hSw); go_simp; (try with_reducible rfl))
      (try go_frame)
      refine held_take 9 (v := ?vv20) (by kernel_rfl) rfl (by rfl) (by kernel_rfl) (by kernel_rfl) (fun _ _ _ h => h) ?hyy20 (by assumption) ?rest20
      case hyy20 => (intro w hSw; (try dsimp only at hSw); go_simp; (try with_reducible rfl))
      (try go_frame)
      refine held_take 10 (v := ?vv21) (by kernel_rfl) rfl (by rfl) (by kernel_rfl) (by kernel_rfl) (fun _ _ _ h => h) ?hyy21 (by assumption) ?rest21
      case hyy21 => (intro w hSw; (try dsimp only at hSw); go_simp; (try with_reducible rfl))
      (try go_frame)
      refine held_take 11 (v := ?vv22) (by kernel_rfl) rfl (by rfl) (by kernel_rfl) (by kernel_rfl) (fun _ _ _ h => h) ?hyy22 (by assumption) ?rest22
      case hyy22 => (intro w hSw; (try dsimp only at hSw); go_simp; (try with_reducible rfl))
      (try go_frame)
      refine held_one 7 (by kernel_rfl) rfl (by rfl) (fun K' hK => ?_)
      go_simp
      refine (within_any x n _ (by omega) (by omega)).mono ?_
      rintro e w5 ⟨rfl, rfl⟩
      (try dsimp only)
      refine hK.out _ _ ⟨q1, q2⟩ (fun hHeld' => ?_)
      clear hK K' hHeld
      have hHeld := hHeld'
      clear hHeld'
      (try go_frame)
      refine held_take 12 (v := ?vv23) (by kernel_rfl) rfl (by rfl) (by kernel_rfl) (by kernel_rfl) (fun _ _ _ h => h) ?hyy23 (by assumption) ?rest23
      case hyy23 => (intro w hSw; (try dsimp only at hSw); go_simp; (try with_reducible rfl))
      (try go_frame)
      refine held_one 13 (by kernel_rfl) rfl (by rfl) (fun K' hK => ?_)
      go_simp
      have hkk : Keep [Q] wr ((wr.setCell ⟨Q, (x % (n : Int)).toNat, none⟩ (.int .u8 y.toNat)).drew) := ((Keep.refl [Q] wr).setCell (p := ⟨Q, (x % (n : Int)).toNat, none⟩) (.inl (List.mem_singleton.2 rfl)) _).drew
      have g1 : ((wr.setCell ⟨Q, (x % (n : Int)).toNat, none⟩ (.int .u8 y.toNat)).drew).cell? ⟨b, off + k, none⟩ = some (.int .i64 x) := by rw [hkk.cell (p := ⟨b, off + k, none⟩) (cell_lt q1) (by simp; exact hbQ)]; exact q1
      have g2 : ((wr.setCell ⟨Q, (x % (n : Int)).toNat, none⟩ (.int .u8 y.toNat)).drew).cell? ⟨b', off' + k, none⟩ = some (.int .u8 y.toNat) := by rw [hkk.cell (p := ⟨b', off' + k, none⟩) (cell_lt q2) (by simp; exact hbQ')]; exact q2
      (try dsimp only)
      refine hK.out _ _ ⟨g1, g2⟩ (fun hHeld' => ?_)
      clear hK K' hHeld
      have hHeld := hHeld'
      clear hHeld'
      (try go_frame)
      clear hHeld
      refine wpAnyH_done (by kernel_rfl) ?_ _
      go_wp2_with fail
      go_roundw
      case rel =>
       have hbn : BytesAt Q (bs.set (x % (n : Int)).toNat y) ((wr.setCell ⟨Q, (x % (n : Int)).toNat, none⟩ (.int .u8 y.toNat)).drew) := (fun h => ⟨h.cell, h.free⟩ : BytesAt Q (bs.set (x % (n : Int)).toNat y) (wr.setCell ⟨Q, (x % (n : Int)).toNat, none⟩ (.int .u8 y.toNat)) → _) (BytesAt.set HBA2.out (x % (n : Int)).toNat hjn y)
       exact ⟨k + 1, bs.set (x % (n : Int)).toNat y, by go_num, by omega, by rw [List.length_set]; exact hbl, hbn, HKQ.out.trans hkk⟩
      case measure => simp [intOf]; omega
     ·have h4i : ¬ (0 : Int) < (n : Int) := by omega
      go_wp2_with fail
      refine (rLex_any bs (.slice (some ⟨Q, 0, none⟩) n c) wr (by rw [hbl]; exact EXIT.out) (fun _ _ c' h => by cases h; exact gc2)).mono ?_
      rintro e w5 ⟨⟨v5, pos5, er5, rfl, hlr⟩, hb5⟩
      have HB5 := Lib.hid (HB3.out.trans (hb5.mono HB3.out.size))
      rcases hlr with ⟨L, hlx, hrow, rfl, rfl, hfew⟩ | ⟨pp, ee, hlx, rfl, rfl, rfl, hee⟩
      ·have HTK := Lib.hid (lexL_toks hlx)
       have HROW := Lib.hid hrow
       clear hb5 hlx hrow
       go_wp2_with fail
       refine (sameE_law L v5 0 w5 HROW.out HTK.out.regE (by omega)).mono ?_
       rintro e w6 ⟨rfl, hb6⟩
       have HB6 := Lib.hid (HB5.out.trans (hb6.mono HB5.out.size))
       clear hb6
       go_wp2_with fail
       refine (awakeE w6 (HE.out.below HB6.out HE.out.size) (HES.out.below HB6.out)).mono ?_
       rintro e w7 ⟨rfl, hb7⟩
       have HB7 := Lib.hid (HB6.out.trans (hb7.mono HB6.out.size))
       clear hb7
       go_wp2_with fail
       go_ret
       exact ⟨rfl, HB7.out⟩
      ·have hne : ((ee : Int) != 0) = true := by simp; omega
       clear hb5 hlx
       go_wp2_with fail
       refine (awakeE w5 (HE.out.below HB5.out HE.out.size) (HES.out.below HB5.out)).mono ?_
       rintro e w7 ⟨rfl, hb7⟩
       have HB7 := Lib.hid (HB5.out.trans (hb7.mono HB5.out.size))
       clear hb7
       go_wp2_with fail
       go_ret
       exact ⟨rfl, HB7.out⟩
    ·have h3i : ¬ (k : Int) < 3 := by omega
     go_wp2_with fail
     refine (rLex_any bs (.slice (some ⟨Q, 0, none⟩) n c) wr (by rw [hbl]; exact EXIT.out) (fun _ _ c' h => by cases h; exact gc2)).mono ?_
     rintro e w5 ⟨⟨v5, pos5, er5, rfl, hlr⟩, hb5⟩
     have HB5 := Lib.hid (HB3.out.trans (hb5.mono HB3.out.size))
     rcases hlr with ⟨L, hlx, hrow, rfl, rfl, hfew⟩ | ⟨pp, ee, hlx, rfl, rfl, rfl, hee⟩
     ·have HTK := Lib.hid (lexL_toks hlx)
      have HROW := Lib.hid hrow
      clear hb5 hlx hrow
      go_wp2_with fail
      refine (sameE_law L v5 0 w5 HROW.out HTK.out.regE (by omega)).mono ?_
      rintro e w6 ⟨rfl, hb6⟩
      have HB6 := Lib.hid (HB5.out.trans (hb6.mono HB5.out.size))
      clear hb6
      go_wp2_with fail
      refine (awakeE w6 (HE.out.below HB6.out HE.out.size) (HES.out.below HB6.out)).mono ?_
      rintro e w7 ⟨rfl, hb7⟩
      have HB7 := Lib.hid (HB6.out.trans (hb7.mono HB6.out.size))
      clear hb7
      go_wp2_with fail
      go_ret
      exact ⟨rfl, HB7.out⟩
     ·have hne : ((ee : Int) != 0) = true := by simp; omega
      clear hb5 hlx
      go_wp2_with fail
      refine (awakeE w5 (HE.out.below HB5.out HE.out.size) (HES.out.below HB5.out)).mono ?_
      rintro e w7 ⟨rfl, hb7⟩
      have HB7 := Lib.hid (HB5.out.trans (hb7.mono HB5.out.size))
      clear hb7
      go_wp2_with fail
      go_ret
      exact ⟨rfl, HB7.out⟩
   ·have h2i : ¬ (k : Int) < (by1.length : Int) := by omega
    go_wp2_with fail
    refine (rLex_any bs (.slice (some ⟨Q, 0, none⟩) n c) wr (by rw [hbl]; exact EXIT.out) (fun _ _ c' h => by cases h; exact gc2)).mono ?_
    rintro e w5 ⟨⟨v5, pos5, er5, rfl, hlr⟩, hb5⟩
    have HB5 := Lib.hid (HB3.out.trans (hb5.mono HB3.out.size))
    rcases hlr with ⟨L, hlx, hrow, rfl, rfl, hfew⟩ | ⟨pp, ee, hlx, rfl, rfl, rfl, hee⟩
    ·have HTK := Lib.hid (lexL_toks hlx)
     have HROW := Lib.hid hrow
     clear hb5 hlx hrow
     go_wp2_with fail
     refine (sameE_law L v5 0 w5 HROW.out HTK.out.regE (by omega)).mono ?_
     rintro e w6 ⟨rfl, hb6⟩
     have HB6 := Lib.hid (HB5.out.trans (hb6.mono HB5.out.size))
     clear hb6
     go_wp2_with fail
     refine (awakeE w6 (HE.out.below HB6.out HE.out.size) (HES.out.below HB6.out)).mono ?_
     rintro e w7 ⟨rfl, hb7⟩
     have HB7 := Lib.hid (HB6.out.trans (hb7.mono HB6.out.size))
     clear hb7
     go_wp2_with fail
     go_ret
     exact ⟨rfl, HB7.out⟩
    ·have hne : ((ee : Int) != 0) = true := by simp; omega
     clear hb5 hlx
     go_wp2_with fail
     refine (awakeE w5 (HE.out.below HB5.out HE.out.size) (HES.out.below HB5.out)).mono ?_
     rintro e w7 ⟨rfl, hb7⟩
     have HB7 := Lib.hid (HB5.out.trans (hb7.mono HB5.out.size))
     clear hb7
     go_wp2_with fail
     go_ret
     exact ⟨rfl, HB7.out⟩
  ·have h1i : ¬ (k : Int) < (at1.length : Int) := by omega
   go_wp2_with fail
   refine (rLex_any bs (.slice (some ⟨Q, 0, none⟩) n c) wr (by rw [hbl]; exact EXIT.out) (fun _ _ c' h => by cases h; exact gc2)).mono ?_
   rintro e w5 ⟨⟨v5, pos5, er5, rfl, hlr⟩, hb5⟩
   have HB5 := Lib.hid (HB3.out.trans (hb5.mono HB3.out.size))
   rcases hlr with ⟨L, hlx, hrow, rfl, rfl, hfew⟩ | ⟨pp, ee, hlx, rfl, rfl, rfl, hee⟩
   ·have HTK := Lib.hid (lexL_toks hlx)
    have HROW := Lib.hid hrow
    clear hb5 hlx hrow
    go_wp2_with fail
    refine (sameE_law L v5 0 w5 HROW.out HTK.out.regE (by omega)).mono ?_
    rintro e w6 ⟨rfl, hb6⟩
    have HB6 := Lib.hid (HB5.out.trans (hb6.mono HB5.out.size))
    clear hb6
    go_wp2_with fail
    refine (awakeE w6 (HE.out.below HB6.out HE.out.size) (HES.out.below HB6.out)).mono ?_
    rintro e w7 ⟨rfl, hb7⟩
    have HB7 := Lib.hid (HB6.out.trans (hb7.mono HB6.out.size))
    clear hb7
    go_wp2_with fail
    go_ret
    exact ⟨rfl, HB7.out⟩
   ·have hne : ((ee : Int) != 0) = true := by simp; omega
    clear hb5 hlx
    go_wp2_with fail
    refine (awakeE w5 (HE.out.below HB5.out HE.out.size) (HES.out.below HB5.out)).mono ?_
    rintro e w7 ⟨rfl, hb7⟩
    have HB7 := Lib.hid (HB5.out.trans (hb7.mono HB5.out.size))
    clear hb7
    go_wp2_with fail
    go_ret
    exact ⟨rfl, HB7.out⟩
set_option maxRecDepth 100000 in
theorem exprParse_contract (H : Type) (enc : TypeId × Value → H) (W : World) (base : Nat) (args : Array Value) (ds gs : List (DataW H)) (before : List MemPlace)
  (hval : ∀ (j : Nat) t v, Tryd.f6.params[j]? = some t → args[j]? = some v → Value.okWide Tryd.prog W .any base t v)
  (hW : DataW.Whole enc Tryd.prog Tryd.f6.params.toList Rows.exprParseSpec.vars false W args.toList ds gs before) (he : Env W ∧ EnvS W) :
  Calls Tryd.prog 6 args W fun e W' => ∃ v, e = .returned v ∧ Rows.exprParseSpec.post enc Tryd.prog Tryd.f6 false true false false W args v W' := by
 have hW' := hW
 obtain ⟨p, q, hA0, hV, rfl, hfz, hnd⟩ := hW
 have hA : DataW.TrodAll enc Tryd.prog W 0 (fun _ => true) true Tryd.f6.params.toList args.toList ds p := hA0
 rw [Tryd.params6] at hA hval
 obtain ⟨v0, vs0, d0, ds0, p0, q0, hargs, rfl, rfl, h0, r0⟩ := trodAll_cons hA
 obtain ⟨v1, vs1, d1, ds1, p1, q1, rfl, rfl, rfl, h1, r1⟩ := trodAll_cons r0
 obtain ⟨v2, vs2, d2, ds2, p2, q2, rfl, rfl, rfl, h2, r2⟩ := trodAll_cons r1
 obtain ⟨rfl, rfl, rfl⟩ := trodAll_nil r2
 obtain rfl : args = #[v0, v1, v2] := by cases args; simp_all
 have walk : Calls Tryd.prog 6 #[v0, v1, v2] W fun e w' => e = .returned (.bool true) ∧ Below W.heap.size W w' := by
  obtain ⟨l0, a0, cap0, rfl, hc0, hcm0, hr0⟩ := open_intsR (hval 0 22 v0 rfl rfl) h0
  obtain ⟨l1, a1, cap1, rfl, hc1, hcm1, hr1⟩ := open_intsR (hval 1 22 v1 rfl rfl) h1
  obtain ⟨s2, a2, cap2, rfl, hc2, hcm2, hr2⟩ := open_bytes (hval 2 45 v2 rfl rfl) h2
  exact exprParse_walk l0 l1 s2 a0 a1 a2 cap0 cap1 cap2 W he.1 he.2 hr0 (by unfold maxLen at hcm0; omega) hr1 hr2
 refine walk.mono fun e W' ⟨he, hb⟩ => ?_
 subst he
 exact law_post hW' rfl rfl (by rw [Tryd.params6]; intro t ht; simp at ht; rcases ht with rfl | rfl | rfl <;> exact ⟨by kernel_rfl, of_decide_eq_true (by kernel_rfl)⟩) rfl hb
theorem exprParse_reads (os : Os) {H : Type} (enc : TypeId × Value → H) : ∃ places, DataW.whole enc Tryd.prog ((World.doorLaid Tryd.prog 60 os).forCall (fun _ _ => 0) ⟨#[], #[.slice none 0 0, .slice none 0 0, .slice none 0 0], []⟩).memory Tryd.f6.params.toList Rows.exprParseSpec.vars false (#[.slice none 0 0, .slice none 0 0, .slice none 0 0] : Array Value).toList 8 = some ([.nil, .nil, .nil], [], places) :=
 ⟨[], by kernel_rfl⟩
set_option maxRecDepth 100000 in
theorem exprParse_lifted (os : Os) (started : os.Started) (H : Type) (enc : TypeId × Value → H) (F : Stop.Interp) :
  ReturnsInHanded {} Tryd.checked os 6 .any ((OpenSpec.ofChange Rows.exprParseSpec).preRow enc Tryd.prog Tryd.f6 Rows.exprParseRow.domain false Rows.exprParseRow.laid) (((OpenSpec.ofChange Rows.exprParseSpec).at F).post enc Tryd.prog Tryd.f6 false true false false) := by
 obtain ⟨places, hx⟩ := exprParse_reads os enc
 refine returnsInHanded_of_row (C := Tryd.checked) (s := OpenSpec.ofChange Rows.exprParseSpec) own started (by kernel_rfl) Tryd.func6
  (witness_row_at (enc := enc) (C := Tryd.checked) false (World.doorLaid Tryd.prog 60 os) #[.slice none 0 0, .slice none 0 0, .slice none 0 0] rfl (by kernel_rfl) (by kernel_rfl) (by kernel_rfl)
   (OpenSpec.preRow_of_cond 8 hx (by kernel_rfl) (fun k hk => by cases hk) (by kernel_rfl) (laid_met5 os _))) ?_
 intro W base args ds gs before hval hW _ _ _ hL hSh _
 exact exprParse_contract H enc W base args ds gs before hval hW (env_of5 hL hSh)
theorem exprParse_said : Rows.ExprParseSaid :=
 OpenClaim.holds_of_cond 6 Tryd.f6 rfl rfl rfl rfl rfl rfl rfl ⟨rfl, rfl, rfl, rfl, rfl⟩ rfl rfl rfl rfl rfl (by kernel_rfl) Tryd.func6 (by kernel_rfl)
  (of_decide_eq_true (by kernel_rfl)) (by unfold Func.isWrapper; first | (rw [if_pos (by decide +kernel)]; kernel_rfl) | (rw [if_neg (by decide +kernel)]; exact ⟨rfl, rfl⟩))
  (fun os started H enc _ F => by rw [OpenClaim.pre_eq_preRow]; exact exprParse_lifted os started H enc F)
theorem exprParse_plain (f : FuncId) (fn : Func) (hf : Tryd.pinned.checked.prog.funcNamed "lockorder/lockorderlaw02.ExprParse" = some f) (hfn : Tryd.pinned.checked.prog.funcs[f]? = some fn) :
  false = Tryd.pinned.checked.prog.looks [] ∧ ∀ (j : Nat) t, fn.params[j]? = some t → Tryd.pinned.checked.prog.wantsStandIn t = false := by
 obtain rfl : f = 6 := Option.some.inj ((show Tryd.prog.funcNamed "lockorder/lockorderlaw02.ExprParse" = some 6 by kernel_rfl).symm.trans hf) |>.symm
 obtain rfl : fn = Tryd.f6 := (Option.some.inj (Tryd.func6.symm.trans hfn)).symm
 refine ⟨by kernel_rfl, fun j t ht => ?_⟩
 rw [Tryd.params6] at ht
 have hm : t ∈ [22, 22, 45] := by simpa using Array.mem_of_getElem? ht
 have hall : ([22, 22, 45].all fun u => !Tryd.prog.wantsStandIn u) = true := by kernel_rfl
 exact (show Tryd.prog.wantsStandIn t = false by simpa using List.all_eq_true.1 hall t hm)
theorem exprParse_card : Rows.ExprParseCardSaid :=
 Claim7.holds_tied_plain_at .later [] _ _ _ _ exprParse_said (fun _ h => by cases h) (by kernel_rfl) (fun _ h => by cases h) exprParse_row_tie rfl ⟨rfl, rfl⟩ (by kernel_rfl) rfl exprParse_plain (by kernel_rfl)
#print axioms exprParse_card
end Go.Proofs.YtiimofjemiffgaaDoor
