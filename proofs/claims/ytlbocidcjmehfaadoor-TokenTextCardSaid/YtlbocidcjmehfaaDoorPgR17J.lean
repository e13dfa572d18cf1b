import Derived.Test.YtlbocidcjmehfaaDoorP2J
import Derived.Maps.RangeWalk
import Derived.Test.YtlbocidcjmehfaaDoorA1J
set_option linter.unusedVariables false
set_option linter.unusedSimpArgs false
namespace Go.Proofs.YtlbocidcjmehfaaDoor
open Go.RowKit
def firstRegion (n : Nat) : Code → Option Code
 | .region k ops d => bif k == n then some (.region k ops d) else none
 | .block _ c => firstRegion n c
 | .seq a b => match firstRegion n a with
  | some c => some c
  | none => firstRegion n b
 | .loop c => firstRegion n c
 | .scope c => firstRegion n c
 | .cond _ a b => match firstRegion n a with
  | some c => some c
  | none => firstRegion n b
 | _ => none
noncomputable def prog_r17Code : Code := (Tryd.f29.body.bind (firstRegion 17)).getD .skip
set_option maxRecDepth 100000 in
set_option maxHeartbeats 8000000 in
theorem prog_r17 (l : List Int) (a : Option Addr) (c2 : Nat) (A : World) (S W : Nat) (ar : Bool) (vg vm : Value) (wr : World) (k : Nat) (b1 : UInt8) (t nm : ByteArray) (SL : Hid (A.heap.size ≤ S ∧ W = S + 1)) (HRT : Hid (∀ (w : World), Keep [S] wr w → SrcAt l a c2 S w → RowAt (hideL [S] w) (.slice a l.length c2) l.length (l.map (.int .i64)))) (SA30 : SrcAt l a c2 S wr) (wc30 : WCells W S 24 ar vg vm (.slice none 0 0) wr) (hll : l.length ≤ 400) (hwb : 48 + (k : Int) = (b1.toNat : Int)) (hbb : b1.toNat < 200) (HT : Hid (t = bytes [b1])) (hts : t.size = 1) (hvn : (⟨#[103]⟩ : ByteArray) ++ t = nm) (y0 y1 y2 y4 y5 y6 y7 y9 y10 y11 y12 y13 y14 y15 y16 y17 y18 y19 y20 y21 y22 y23 y24 y25 y26 y27 y28 y29 y30 y31 y32 y33 y34 y35 y36 y37 y38 y39 y40 y41 y42 y43 y44 y45 y46 y47 y48 y49 y50 y51 y52 y53 y54 y55 y56 y57 y58 y59 y60 y61 y62 y63 y64 y65 y66 y67 y68 y69 y70 y71 y72 y73 y74 y75 y76 y77 y78 y79 y80 y81 y82 y83 y84 y85 y86 y87 y88 y89 y90 y91 y92 y93 y94 y95 y96 y97 y98 y99 y100 y101 y102 y103 y104 y105 y106 y107 y108 y109 y110 y111 y112 y113 y114 y115 y116 y117 y118 y119 y120 y121 y122 y123 y124 y125 y126 y127 y128 y129 y130 y131 y132 y133 y134 y135 y136 y137 y138 y139 y140 y141 y142 y143 y144 y145 y146 y147 y148 y149 y150 y151 y152 y153 y154 y155 y156 y157 y158 y159 y160 y161 y162 y163 y164 y165 y166 y167 y168 y169 y170 y171 y172 y173 y174 y175 y176 y177 y178 y179 y180 y181 y182 y183 y184 y185 y186 y187 y188 y189 y190 y191 y192 y193 y194 y195 y196 y197 y198 y199 y200 y201 y202 y203 y204 y205 y206 y207 y208 y209 y210 y211 y212 y213 y214 y215 y216 y217 y218 y219 y220 y221 y222 y223 y224 y225 y226 y227 y228 y229 y230 y231 y232 y233 y234 y235 y236 y237 y238 y239 y240 y241 y242 y243 y244 y245 y246 y247 y248 y249 y250 y251 y252 y253 y254 y255 y256 y257 y258 y259 y260 y261 y262 y263 : Value) (J K' : Act → World → Prop) (hJ : ∀ (a' : Act) (w' : World), (∃ u10 u90 u91 u92 u93 u94 u95 u96 u97 u98 u99 u100 u101 u102, (∃ (G : Nat) (z : Int), u10 = .pointer (some ⟨G, 0, none⟩) ∧ 0 ≤ z ∧ z < 5 ∧ Keep [S] wr w' ∧ SrcAt l a c2 S w' ∧ WCells W S 24 ar vg vm (.slice none 0 0) w' ∧ (w'.cell? ⟨G, 0, none⟩ = some (.string nm) ∧ w'.cell? ⟨G, 1, none⟩ = some (.int .i64 (z - 2))) ∧ (G ≠ S ∧ G ≠ W ∧ wr.heap.size ≤ G)) ∧ a' = ⟨#[y0, y1, y2, .pointer (some ⟨W, 0, none⟩), y4, y5, y6, y7, .int .i64 k, y9, u10, y11, y12, y13, y14, y15, y16, y17, y18, y19, y20, y21, y22, y23, y24, y25, y26, y27, y28, y29, y30, y31, y32, y33, y34, y35, y36, y37, y38, y39, y40, y41, y42, y43, y44, y45, y46, y47, y48, y49, y50, y51, y52, y53, y54, y55, y56, y57, y58, y59, y60, y61, y62, y63, y64, y65, y66, y67, y68, y69, y70, y71, y72, y73, y74, y75, y76, y77, y78, y79, y80, y81, y82, y83, y84, y85, y86, y87, y88, y89, u90, u91, u92, u93, u94, u95, u96, u97, u98, u99, u100, u101, u102, y103, y104, y105, y106, y107, y108, y109, y110, y111, y112, y113, y114, y115, y116, y117, y118, y119, y120, y121, y122, y123, y124, y125, y126, y127, y128, y129, y130, y131, y132, y133, y134, y135, y136, y137, y138, y139, y140, y141, y142, y143, y144, y145, y146, y147, y148, y149, y150, y151, y152, y153, y154, y155, y156, y157, y158, y159, y160, y161, y162, y163, y164, y165, y166, y167, y168, y169, y170, y171, y172, y173, y174, y175, y176, y177, y178, y179, y180, y181, y182, y183, y184, y185, y186, y187, y188, y189, y190, y191, y192, y193, y194, y195, y196, y197, y198, y199, y200, y201, y202, y203, y204, y205, y206, y207, y208, y209, y210, y211, y212, y213, y214, y215, y216, y217, y218, y219, y220, y221, y222, y223, y224, y225, y226, y227, y228, y229, y230, y231, y232, y233, y234, y235, y236, y237, y238, y239, y240, y241, y242, y243, y244, y245, y246, y247, y248, y249, y250, y251, y252, y253, y254, y255, y256, y257, y258, y259, y260, y261, y262, y263], []⟩) → J a' w') (hK : ∀ (a' : Act) (w' : World), Met J a' w' → K' a' w') (Q : Exit → Act → World → Prop) (hQp : ∀ c (a : Act) (d : Tmp) (v : Value) (w : World), Q (.panic c) (a.put (some d) v) w → Q (.panic c) a w) :
  Code.wp Tryd.prog prog_r17Code (Exit.then K' Q) ⟨#[y0, y1, y2, .pointer (some ⟨W, 0, none⟩), y4, y5, y6, y7, .int .i64 k, y9, y10, y11, y12, y13, y14, y15, y16, y17, y18, y19, y20, y21, y22, y23, y24, y25, y26, y27, y28, y29, y30, y31, y32, y33, y34, y35, y36, y37, y38, y39, y40, y41, y42, y43, y44, y45, y46, y47, y48, y49, y50, y51, y52, y53, y54, y55, y56, y57, y58, y59, y60, y61, y62, y63, y64, y65, y66, y67, y68, y69, y70, y71, y72, y73, y74, y75, y76, y77, y78, y79, y80, y81, y82, y83, y84, y85, y86, y87, y88, y89, y90, y91, y92, y93, y94, y95, y96, y97, y98, y99, y100, y101, y102, y103, y104, y105, y106, y107, y108, y109, y110, y111, y112, y113, y114, y115, y116, y117, y118, y119, y120, y121, y122, y123, y124, y125, y126, y127, y128, y129, y130, y131, y132, y133, y134, y135, y136, y137, y138, y139, y140, y141, y142, y143, y144, y145, y146, y147, y148, y149, y150, y151, y152, y153, y154, y155, y156, y157, y158, y159, y160, y161, y162, y163, y164, y165, y166, y167, y168, y169, y170, y171, y172, y173, y174, y175, y176, y177, y178, y179, y180, y181, y182, y183, y184, y185, y186, y187, y188, y189, y190, y191, y192, y193, y194, y195, y196, y197, y198, y199, y200, y201, y202, y203, y204, y205, y206, y207, y208, y209, y210, y211, y212, y213, y214, y215, y216, y217, y218, y219, y220, y221, y222, y223, y224, y225, y226, y227, y228, y229, y230, y231, y232, y233, y234, y235, y236, y237, y238, y239, y240, y241, y242, y243, y244, y245, y246, y247, y248, y249, y250, y251, y252, y253, y254, y255, y256, y257, y258, y259, y260, y261, y262, y263], []⟩ wr := by
 conv => arg 2; whnf
 have hdr : Keep [] wr wr.drew := (Keep.refl _ _).drew
 have KR31 : Hid (Keep [S] wr wr.drew) := Lib.hid (hdr.mono (fun x hx => by simp at hx))
 have SA31 := Lib.hid (SA30.keep hdr (by simp))
 have WC31 := Lib.hid (WCells.keep wc30 hdr (by simp))
 refine wp_region_held_drew (S := fun w' => w'.cell? ⟨W, 0, none⟩ = some (.pointer (some ⟨S, 0, none⟩))) (by kernel_rfl) WC31.out.1 (fun hHeld => ?_)
 clear hdr
 generalize wr.drew = w31 at KR31 SA31 WC31 hHeld ⊢
 refine held_take 0 (v := ?vv1) (by kernel_rfl) rfl (by rfl) (by kernel_rfl) (by kernel_rfl) (fun _ _ _ h => hQp _ _ _ _ _ h) ?hyy1 (by assumption) ?rest1
 case hyy1 => (intro w hSw; (try dsimp only at hSw); go_simp; (try with_reducible rfl))
 (try go_frame)
 refine held_take 1 (v := ?vv2) (by kernel_rfl) rfl (by rfl) (by kernel_rfl) (by kernel_rfl) (fun _ _ _ h => hQp _ _ _ _ _ h) ?hyy2 (by assumption) ?rest2
 case hyy2 => (intro w hSw; (try dsimp only at hSw); go_simp; (try with_reducible rfl))
 (try go_frame)
 refine held_take 2 (v := ?vv3) (by kernel_rfl) rfl (by rfl) (by kernel_rfl) (by kernel_rfl) (fun _ _ _ h => hQp _ _ _ _ _ h) ?hyy3 (by assumption) ?rest3
 case hyy3 => (intro w hSw; (try dsimp only at hSw); go_simp; (try with_reducible rfl))
 (try go_frame)
 refine held_take 6 (v := ?vv4) (by kernel_rfl) rfl (by rfl) (by kernel_rfl) (by kernel_rfl) (fun _ _ _ h => hQp _ _ _ _ _ h) ?hyy4 (by assumption) ?rest4
 case hyy4 => (intro w hSw; (try dsimp only at hSw); go_simp; (try with_reducible rfl))
 (try go_frame)
 refine held_take 7 (v := ?vv5) (by kernel_rfl) rfl (by rfl) (by kernel_rfl) (by kernel_rfl) (fun _ _ _ h => hQp _ _ _ _ _ h) ?hyy5 (by assumption) ?rest5
 case hyy5 => (intro w hSw; (try dsimp only at hSw); go_simp; (try with_reducible rfl))
 (try go_frame)
 refine held_take 8 (v := ?vv6) (by kernel_rfl) rfl (by rfl) (by kernel_rfl) (by kernel_rfl) (fun _ _ _ h => hQp _ _ _ _ _ h) ?hyy6 (by assumption) ?rest6
 case hyy6 => (intro w hSw; (try dsimp only at hSw); go_simp; (try with_reducible rfl))
 (try go_frame)
 refine held_take 9 (v := ?vv7) (by kernel_rfl) rfl (by rfl) (by kernel_rfl) (by kernel_rfl) (fun _ _ _ h => hQp _ _ _ _ _ h) ?hyy7 (by assumption) ?rest7
 case hyy7 => (intro w hSw; (try dsimp only at hSw); go_simp; (try with_reducible rfl))
 (try go_frame)
 (try rw [wrapb b1])
 refine held_three 3 10 13 (by kernel_rfl) rfl rfl rfl (by rfl) (by rfl) (by rfl) (fun K' hK => ?_) (fun K' hK => ?_) (fun K' hK => ?_)
 ·go_simp
  have ak : Keep [] w31 (w31.alloc (.cells #[.int .u8 b1.toNat] 5)) := (Keep.refl _ _).alloc _
  have sb32 : (w31.alloc (.cells #[.int .u8 b1.toNat] 5)).cell? ⟨w31.heap.size, 0, none⟩ = some (.int .u8 b1.toNat) := by go_simp
  have hQS : w31.heap.size ∉ [S] := by have := SA31.out.lt; simp; omega
  have KR32 := Lib.hid (KR31.out.trans (ak.mono (fun x hx => by simp at hx)))
  have SA32 := Lib.hid (SA31.out.keep ak (by simp))
  have WC32 := Lib.hid (WCells.keep WC31.out ak (by simp))
  (try dsimp only)
  refine hK.out _ _ WC32.out.1 (fun hHeld' => ?_)
  clear hK K' hHeld
  have hHeld := hHeld'
  clear hHeld'
  (try go_frame)
  clear KR31 SA31 WC31
  clear ak
  generalize w31.alloc (.cells #[.int .u8 b1.toNat] 5) = w32 at KR32 SA32 WC32 sb32 hHeld ⊢
  refine held_three 4 10 13 (by kernel_rfl) rfl rfl rfl (by rfl) (by rfl) (by rfl) (fun K' hK => ?_) (fun K' hK => ?_) (fun K' hK => ?_)
  ·have hcv := conv_at b1 sb32
   rw [← HT.out] at hcv
   go_simp
   clear hcv sb32
   (try dsimp only)
   refine hK.out _ _ WC32.out.1 (fun hHeld' => ?_)
   clear hK K' hHeld
   have hHeld := hHeld'
   clear hHeld'
   (try go_frame)
   refine held_take 5 (v := ?vv8) (by kernel_rfl) rfl (by rfl) (by kernel_rfl) (by kernel_rfl) (fun _ _ _ h => hQp _ _ _ _ _ h) ?hyy8 (by assumption) ?rest8
   case hyy8 => (intro w hSw; (try dsimp only at hSw); go_simp; (try with_reducible rfl))
   (try go_frame)
   refine held_pair 10 13 (by kernel_rfl) rfl rfl (by rfl) (by rfl) (fun K' hK => ?_) (fun K' hK => ?_)
   ·go_simp
    refine (next_at 5 l a c2 S w32 SA32.out (HRT.out _ KR32.out SA32.out) (by omega) (by omega) (by omega)).mono ?_
    intro e w33 hq
    obtain ⟨z, rfl, z0, z1, sa, hk33⟩ := NextAt.out hq
    clear hq
    have KR33 := Lib.hid (KR32.out.trans hk33)
    have SA33 := Lib.hid (sa)
    have WC33 := Lib.hid (WCells.keep WC32.out hk33 (by have := SL.out; simp; omega))
    (try dsimp only)
    refine hK.out _ _ WC33.out.1 (fun hHeld' => ?_)
    clear hK K' hHeld
    have hHeld := hHeld'
    clear hHeld'
    (try go_frame)
    clear KR32 SA32 WC32
    clear hk33 sa
    have hzw : IntKind.i64.wrap (z - 2) = z - 2 := IntWalk.i64_in _ (by omega)
    refine held_take 11 (v := ?vv9) (by kernel_rfl) rfl (by rfl) (by kernel_rfl) (by kernel_rfl) (fun _ _ _ h => hQp _ _ _ _ _ h) ?hyy9 (by assumption) ?rest9
    case hyy9 => (intro w hSw; (try dsimp only at hSw); go_simp; (try with_reducible rfl))
    (try go_frame)
    refine held_take 12 (v := ?vv10) (by kernel_rfl) rfl (by rfl) (by kernel_rfl) (by kernel_rfl) (fun _ _ _ h => hQp _ _ _ _ _ h) ?hyy10 (by assumption) ?rest10
    case hyy10 => (intro w hSw; (try dsimp only at hSw); go_simp; (try with_reducible rfl))
    (try go_frame)
    refine held_one 13 (by kernel_rfl) rfl (by rfl) (fun K' hK => ?_)
    go_simp
    have ak : Keep [] w33 (w33.alloc (.cells #[(.string ⟨#[]⟩), (.int .i64 0)] 92)) := (Keep.refl _ _).alloc _
    have gb34 : Ce2 (w33.alloc (.cells #[(.string ⟨#[]⟩), (.int .i64 0)] 92)) w33.heap.size (.string ⟨#[]⟩) (.int .i64 0) := ⟨by go_simp, by go_simp⟩
    unfold Ce2 at gb34
    have gf34 : ∀ o, (w33.alloc (.cells #[(.string ⟨#[]⟩), (.int .i64 0)] 92)).frozen? ⟨w33.heap.size, o, none⟩ = false := fun o => by go_simp
    have hG : Hid (w33.heap.size ≠ S ∧ w33.heap.size ≠ W ∧ wr.heap.size ≤ w33.heap.size) := Lib.hid (by have := SA33.out.lt; have h9 : W < w33.heap.size := cell_lt WC33.out.1; have := KR33.out.size; omega)
    have KR34 := Lib.hid (KR33.out.trans (ak.mono (fun x hx => by simp at hx)))
    have SA34 := Lib.hid (SA33.out.keep ak (by simp))
    have WC34 := Lib.hid (WCells.keep WC33.out ak (by simp))
    (try dsimp only)
    refine hK.out _ _ WC34.out.1 (fun hHeld' => ?_)
    clear hK K' hHeld
    have hHeld := hHeld'
    clear hHeld'
    (try go_frame)
    clear KR33 SA33 WC33
    clear ak
    generalize w33.alloc (.cells #[(.string ⟨#[]⟩), (.int .i64 0)] 92) = w34 at KR34 SA34 WC34 gb34 gf34 hHeld ⊢
    refine held_one 14 (by kernel_rfl) rfl (by rfl) (fun K' hK => ?_)
    go_simp
    have hgk : Keep [w33.heap.size] w34 ((w34.setCell ⟨w33.heap.size, 0, none⟩ (.string nm)).setCell ⟨w33.heap.size, 1, none⟩ (.int .i64 (z - 2))) := (((Keep.refl [w33.heap.size] w34).setCell (p := ⟨w33.heap.size, 0, none⟩) (.inl (List.mem_singleton.2 rfl)) (.string nm)).setCell (p := ⟨w33.heap.size, 1, none⟩) (.inl (List.mem_singleton.2 rfl)) (.int .i64 (z - 2)))
    have WC35 := Lib.hid (WCells.keep WC34.out hgk (by have := hG.out; simp; omega))
    (try dsimp only)
    refine hK.out _ _ WC35.out.1 (fun hHeld' => ?_)
    clear hK K' hHeld
    have hHeld := hHeld'
    clear hHeld'
    (try go_frame)
    clear hHeld
    refine wpAnyH_done (by kernel_rfl) ?_ _
    go_wp2_with fail
    go_meet
    case rel => exact ⟨w33.heap.size, z, rfl, z0, z1, KR34.out.grow hgk (fun x hx => by have := hG.out; simp at hx; omega), SA34.out.keep hgk (by have := hG.out; simp; omega), WC35.out, ⟨by go_simp, by go_simp⟩, hG.out⟩
   ·go_simp
    have ak : Keep [] w32 (w32.alloc (.cells #[(.string ⟨#[]⟩), (.int .i64 0)] 92)) := (Keep.refl _ _).alloc _
    have gb33 : Ce2 (w32.alloc (.cells #[(.string ⟨#[]⟩), (.int .i64 0)] 92)) w32.heap.size (.string ⟨#[]⟩) (.int .i64 0) := ⟨by go_simp, by go_simp⟩
    unfold Ce2 at gb33
    have gf33 : ∀ o, (w32.alloc (.cells #[(.string ⟨#[]⟩), (.int .i64 0)] 92)).frozen? ⟨w32.heap.size, o, none⟩ = false := fun o => by go_simp
    have hG : Hid (w32.heap.size ≠ S ∧ w32.heap.size ≠ W ∧ wr.heap.size ≤ w32.heap.size) := Lib.hid (by have := SA32.out.lt; have h9 : W < w32.heap.size := cell_lt WC32.out.1; have := KR32.out.size; omega)
    have KR33 := Lib.hid (KR32.out.trans (ak.mono (fun x hx => by simp at hx)))
    have SA33 := Lib.hid (SA32.out.keep ak (by simp))
    have WC33 := Lib.hid (WCells.keep WC32.out ak (by simp))
    (try dsimp only)
    refine hK.out _ _ WC33.out.1 (fun hHeld' => ?_)
    clear hK K' hHeld
    have hHeld := hHeld'
    clear hHeld'
    (try go_frame)
    clear KR32 SA32 WC32
    clear ak
    generalize w32.alloc (.cells #[(.string ⟨#[]⟩), (.int .i64 0)] 92) = w33 at KR33 SA33 WC33 gb33 gf33 hHeld ⊢
    refine held_one 10 (by kernel_rfl) rfl (by rfl) (fun K' hK => ?_)
    go_simp
    refine (next_at 5 l a c2 S w33 SA33.out (HRT.out _ KR33.out SA33.out) (by omega) (by omega) (by omega)).mono ?_
    intro e w34 hq
    obtain ⟨z, rfl, z0, z1, sa, hk34⟩ := NextAt.out hq
    clear hq
    have KR34 := Lib.hid (KR33.out.trans hk34)
    have SA34 := Lib.hid (sa)
    have WC34 := Lib.hid (WCells.keep WC33.out hk34 (by have := SL.out; simp; omega))
    have gb34 := bx2 gb33 hk34 (by have := hG.out; simp; omega)
    have gf34 := frk gf33 (cell_lt gb33.1) hk34 (by have := hG.out; simp; omega)
    (try dsimp only)
    refine hK.out _ _ WC34.out.1 (fun hHeld' => ?_)
    clear hK K' hHeld
    have hHeld := hHeld'
    clear hHeld'
    (try go_frame)
    clear KR33 SA33 WC33 gb33 gf33
    clear hk34 sa
    have hzw : IntKind.i64.wrap (z - 2) = z - 2 := IntWalk.i64_in _ (by omega)
    refine held_take 11 (v := ?vv11) (by kernel_rfl) rfl (by rfl) (by kernel_rfl) (by kernel_rfl) (fun _ _ _ h => hQp _ _ _ _ _ h) ?hyy11 (by assumption) ?rest11
    case hyy11 => (intro w hSw; (try dsimp only at hSw); go_simp; (try with_reducible rfl))
    (try go_frame)
    refine held_take 12 (v := ?vv12) (by kernel_rfl) rfl (by rfl) (by kernel_rfl) (by kernel_rfl) (fun _ _ _ h => hQp _ _ _ _ _ h) ?hyy12 (by assumption) ?rest12
    case hyy12 => (intro w hSw; (try dsimp only at hSw); go_simp; (try with_reducible rfl))
    (try go_frame)
    refine held_one 14 (by kernel_rfl) rfl (by rfl) (fun K' hK => ?_)
    go_simp
    have hgk : Keep [w32.heap.size] w34 ((w34.setCell ⟨w32.heap.size, 0, none⟩ (.string nm)).setCell ⟨w32.heap.size, 1, none⟩ (.int .i64 (z - 2))) := (((Keep.refl [w32.heap.size] w34).setCell (p := ⟨w32.heap.size, 0, none⟩) (.inl (List.mem_singleton.2 rfl)) (.string nm)).setCell (p := ⟨w32.heap.size, 1, none⟩) (.inl (List.mem_singleton.2 rfl)) (.int .i64 (z - 2)))
    have WC35 := Lib.hid (WCells.keep WC34.out hgk (by have := hG.out; simp; omega))
    (try dsimp only)
    refine hK.out _ _ WC35.out.1 (fun hHeld' => ?_)
    clear hK K' hHeld
    have hHeld := hHeld'
    clear hHeld'
    (try go_frame)
    clear hHeld
    refine wpAnyH_done (by kernel_rfl) ?_ _
    go_wp2_with fail
    go_meet
    case rel => exact ⟨w32.heap.size, z, rfl, z0, z1, KR34.out.grow hgk (fun x hx => by have := hG.out; simp at hx; omega), SA34.out.keep hgk (by have := hG.out; simp; omega), WC35.out, ⟨by go_simp, by go_simp⟩, hG.out⟩
  ·go_simp
   refine (next_at 5 l a c2 S w32 SA32.out (HRT.out _ KR32.out SA32.out) (by omega) (by omega) (by omega)).mono ?_
   intro e w33 hq
   obtain ⟨z, rfl, z0, z1, sa, hk33⟩ := NextAt.out hq
   clear hq
   have KR33 := Lib.hid (KR32.out.trans hk33)
   have SA33 := Lib.hid (sa)
   have WC33 := Lib.hid (WCells.keep WC32.out hk33 (by have := SL.out; simp; omega))
   have sb33 := bx1 sb32 hk33 hQS
   (try dsimp only)
   refine hK.out _ _ WC33.out.1 (fun hHeld' => ?_)
   clear hK K' hHeld
   have hHeld := hHeld'
   clear hHeld'
   (try go_frame)
   clear KR32 SA32 WC32 sb32
   clear hk33 sa
   have hzw : IntKind.i64.wrap (z - 2) = z - 2 := IntWalk.i64_in _ (by omega)
   refine held_take 11 (v := ?vv13) (by kernel_rfl) rfl (by rfl) (by kernel_rfl) (by kernel_rfl) (fun _ _ _ h => hQp _ _ _ _ _ h) ?hyy13 (by assumption) ?rest13
   case hyy13 => (intro w hSw; (try dsimp only at hSw); go_simp; (try with_reducible rfl))
   (try go_frame)
   refine held_pair 4 13 (by kernel_rfl) rfl rfl (by rfl) (by rfl) (fun K' hK => ?_) (fun K' hK => ?_)
   ·have hcv := conv_at b1 sb33
    rw [← HT.out] at hcv
    go_simp
    clear hcv sb33
    (try dsimp only)
    refine hK.out _ _ WC33.out.1 (fun hHeld' => ?_)
    clear hK K' hHeld
    have hHeld := hHeld'
    clear hHeld'
    (try go_frame)
    refine held_take 5 (v := ?vv14) (by kernel_rfl) rfl (by rfl) (by kernel_rfl) (by kernel_rfl) (fun _ _ _ h => hQp _ _ _ _ _ h) ?hyy14 (by assumption) ?rest14
    case hyy14 => (intro w hSw; (try dsimp only at hSw); go_simp; (try with_reducible rfl))
    (try go_frame)
    refine held_take 12 (v := ?vv15) (by kernel_rfl) rfl (by rfl) (by kernel_rfl) (by kernel_rfl) (fun _ _ _ h => hQp _ _ _ _ _ h) ?hyy15 (by assumption) ?rest15
    case hyy15 => (intro w hSw; (try dsimp only at hSw); go_simp; (try with_reducible rfl))
    (try go_frame)
    refine held_one 13 (by kernel_rfl) rfl (by rfl) (fun K' hK => ?_)
    go_simp
    have ak : Keep [] w33 (w33.alloc (.cells #[(.string ⟨#[]⟩), (.int .i64 0)] 92)) := (Keep.refl _ _).alloc _
    have gb34 : Ce2 (w33.alloc (.cells #[(.string ⟨#[]⟩), (.int .i64 0)] 92)) w33.heap.size (.string ⟨#[]⟩) (.int .i64 0) := ⟨by go_simp, by go_simp⟩
    unfold Ce2 at gb34
    have gf34 : ∀ o, (w33.alloc (.cells #[(.string ⟨#[]⟩), (.int .i64 0)] 92)).frozen? ⟨w33.heap.size, o, none⟩ = false := fun o => by go_simp
    have hG : Hid (w33.heap.size ≠ S ∧ w33.heap.size ≠ W ∧ wr.heap.size ≤ w33.heap.size) := Lib.hid (by have := SA33.out.lt; have h9 : W < w33.heap.size := cell_lt WC33.out.1; have := KR33.out.size; omega)
    have KR34 := Lib.hid (KR33.out.trans (ak.mono (fun x hx => by simp at hx)))
    have SA34 := Lib.hid (SA33.out.keep ak (by simp))
    have WC34 := Lib.hid (WCells.keep WC33.out ak (by simp))
    (try dsimp only)
    refine hK.out _ _ WC34.out.1 (fun hHeld' => ?_)
    clear hK K' hHeld
    have hHeld := hHeld'
    clear hHeld'
    (try go_frame)
    clear KR33 SA33 WC33
    clear ak
    generalize w33.alloc (.cells #[(.string ⟨#[]⟩), (.int .i64 0)] 92) = w34 at KR34 SA34 WC34 gb34 gf34 hHeld ⊢
    refine held_one 14 (by kernel_rfl) rfl (by rfl) (fun K' hK => ?_)
    go_simp
    have hgk : Keep [w33.heap.size] w34 ((w34.setCell ⟨w33.heap.size, 0, none⟩ (.string nm)).setCell ⟨w33.heap.size, 1, none⟩ (.int .i64 (z - 2))) := (((Keep.refl [w33.heap.size] w34).setCell (p := ⟨w33.heap.size, 0, none⟩) (.inl (List.mem_singleton.2 rfl)) (.string nm)).setCell (p := ⟨w33.heap.size, 1, none⟩) (.inl (List.mem_singleton.2 rfl)) (.int .i64 (z - 2)))
    have WC35 := Lib.hid (WCells.keep WC34.out hgk (by have := hG.out; simp; omega))
    (try dsimp only)
    refine hK.out _ _ WC35.out.1 (fun hHeld' => ?_)
    clear hK K' hHeld
    have hHeld := hHeld'
    clear hHeld'
    (try go_frame)
    clear hHeld
    refine wpAnyH_done (by kernel_rfl) ?_ _
    go_wp2_with fail
    go_meet
    case rel => exact ⟨w33.heap.size, z, rfl, z0, z1, KR34.out.grow hgk (fun x hx => by have := hG.out; simp at hx; omega), SA34.out.keep hgk (by have := hG.out; simp; omega), WC35.out, ⟨by go_simp, by go_simp⟩, hG.out⟩
   ·go_simp
    have ak : Keep [] w33 (w33.alloc (.cells #[(.string ⟨#[]⟩), (.int .i64 0)] 92)) := (Keep.refl _ _).alloc _
    have gb34 : Ce2 (w33.alloc (.cells #[(.string ⟨#[]⟩), (.int .i64 0)] 92)) w33.heap.size (.string ⟨#[]⟩) (.int .i64 0) := ⟨by go_simp, by go_simp⟩
    unfold Ce2 at gb34
    have gf34 : ∀ o, (w33.alloc (.cells #[(.string ⟨#[]⟩), (.int .i64 0)] 92)).frozen? ⟨w33.heap.size, o, none⟩ = false := fun o => by go_simp
    have hG : Hid (w33.heap.size ≠ S ∧ w33.heap.size ≠ W ∧ wr.heap.size ≤ w33.heap.size) := Lib.hid (by have := SA33.out.lt; have h9 : W < w33.heap.size := cell_lt WC33.out.1; have := KR33.out.size; omega)
    have KR34 := Lib.hid (KR33.out.trans (ak.mono (fun x hx => by simp at hx)))
    have SA34 := Lib.hid (SA33.out.keep ak (by simp))
    have WC34 := Lib.hid (WCells.keep WC33.out ak (by simp))
    have sb34 := bx1 sb33 ak (by simp)
    (try dsimp only)
    refine hK.out _ _ WC34.out.1 (fun hHeld' => ?_)
    clear hK K' hHeld
    have hHeld := hHeld'
    clear hHeld'
    (try go_frame)
    clear KR33 SA33 WC33 sb33
    clear ak
    generalize w33.alloc (.cells #[(.string ⟨#[]⟩), (.int .i64 0)] 92) = w34 at KR34 SA34 WC34 sb34 gb34 gf34 hHeld ⊢
    refine held_one 4 (by kernel_rfl) rfl (by rfl) (fun K' hK => ?_)
    have hcv := conv_at b1 sb34
    rw [← HT.out] at hcv
    go_simp
    clear hcv sb34
    (try dsimp only)
    refine hK.out _ _ WC34.out.1 (fun hHeld' => ?_)
    clear hK K' hHeld
    have hHeld := hHeld'
    clear hHeld'
    (try go_frame)
    refine held_take 5 (v := ?vv16) (by kernel_rfl) rfl (by rfl) (by kernel_rfl) (by kernel_rfl) (fun _ _ _ h => hQp _ _ _ _ _ h) ?hyy16 (by assumption) ?rest16
    case hyy16 => (intro w hSw; (try dsimp only at hSw); go_simp; (try with_reducible rfl))
    (try go_frame)
    refine held_take 12 (v := ?vv17) (by kernel_rfl) rfl (by rfl) (by kernel_rfl) (by kernel_rfl) (fun _ _ _ h => hQp _ _ _ _ _ h) ?hyy17 (by assumption) ?rest17
    case hyy17 => (intro w hSw; (try dsimp only at hSw); go_simp; (try with_reducible rfl))
    (try go_frame)
    refine held_one 14 (by kernel_rfl) rfl (by rfl) (fun K' hK => ?_)
    go_simp
    have hgk : Keep [w33.heap.size] w34 ((w34.setCell ⟨w33.heap.size, 0, none⟩ (.string nm)).setCell ⟨w33.heap.size, 1, none⟩ (.int .i64 (z - 2))) := (((Keep.refl [w33.heap.size] w34).setCell (p := ⟨w33.heap.size, 0, none⟩) (.inl (List.mem_singleton.2 rfl)) (.string nm)).setCell (p := ⟨w33.heap.size, 1, none⟩) (.inl (List.mem_singleton.2 rfl)) (.int .i64 (z - 2)))
    have WC35 := Lib.hid (WCells.keep WC34.out hgk (by have := hG.out; simp; omega))
    (try dsimp only)
    refine hK.out _ _ WC35.out.1 (fun hHeld' => ?_)
    clear hK K' hHeld
    have hHeld := hHeld'
    clear hHeld'
    (try go_frame)
    clear hHeld
    refine wpAnyH_done (by kernel_rfl) ?_ _
    go_wp2_with fail
    go_meet
    case rel => exact ⟨w33.heap.size, z, rfl, z0, z1, KR34.out.grow hgk (fun x hx => by have := hG.out; simp at hx; omega), SA34.out.keep hgk (by have := hG.out; simp; omega), WC35.out, ⟨by go_simp, by go_simp⟩, hG.out⟩
  ·go_simp
   have ak : Keep [] w32 (w32.alloc (.cells #[(.string ⟨#[]⟩), (.int .i64 0)] 92)) := (Keep.refl _ _).alloc _
   have gb33 : Ce2 (w32.alloc (.cells #[(.string ⟨#[]⟩), (.int .i64 0)] 92)) w32.heap.size (.string ⟨#[]⟩) (.int .i64 0) := ⟨by go_simp, by go_simp⟩
   unfold Ce2 at gb33
   have gf33 : ∀ o, (w32.alloc (.cells #[(.string ⟨#[]⟩), (.int .i64 0)] 92)).frozen? ⟨w32.heap.size, o, none⟩ = false := fun o => by go_simp
   have hG : Hid (w32.heap.size ≠ S ∧ w32.heap.size ≠ W ∧ wr.heap.size ≤ w32.heap.size) := Lib.hid (by have := SA32.out.lt; have h9 : W < w32.heap.size := cell_lt WC32.out.1; have := KR32.out.size; omega)
   have KR33 := Lib.hid (KR32.out.trans (ak.mono (fun x hx => by simp at hx)))
   have SA33 := Lib.hid (SA32.out.keep ak (by simp))
   have WC33 := Lib.hid (WCells.keep WC32.out ak (by simp))
   have sb33 := bx1 sb32 ak (by simp)
   (try dsimp only)
   refine hK.out _ _ WC33.out.1 (fun hHeld' => ?_)
   clear hK K' hHeld
   have hHeld := hHeld'
   clear hHeld'
   (try go_frame)
   clear KR32 SA32 WC32 sb32
   clear ak
   generalize w32.alloc (.cells #[(.string ⟨#[]⟩), (.int .i64 0)] 92) = w33 at KR33 SA33 WC33 sb33 gb33 gf33 hHeld ⊢
   refine held_pair 4 10 (by kernel_rfl) rfl rfl (by rfl) (by rfl) (fun K' hK => ?_) (fun K' hK => ?_)
   ·have hcv := conv_at b1 sb33
    rw [← HT.out] at hcv
    go_simp
    clear hcv sb33
    (try dsimp only)
    refine hK.out _ _ WC33.out.1 (fun hHeld' => ?_)
    clear hK K' hHeld
    have hHeld := hHeld'
    clear hHeld'
    (try go_frame)
    refine held_take 5 (v := ?vv18) (by kernel_rfl) rfl (by rfl) (by kernel_rfl) (by kernel_rfl) (fun _ _ _ h => hQp _ _ _ _ _ h) ?hyy18 (by assumption) ?rest18
    case hyy18 => (intro w hSw; (try dsimp only at hSw); go_simp; (try with_reducible rfl))
    (try go_frame)
    refine held_one 10 (by kernel_rfl) rfl (by rfl) (fun K' hK => ?_)
    go_simp
    refine (next_at 5 l a c2 S w33 SA33.out (HRT.out _ KR33.out SA33.out) (by omega) (by omega) (by omega)).mono ?_
    intro e w34 hq
    obtain ⟨z, rfl, z0, z1, sa, hk34⟩ := NextAt.out hq
    clear hq
    have KR34 := Lib.hid (KR33.out.trans hk34)
    have SA34 := Lib.hid (sa)
    have WC34 := Lib.hid (WCells.keep WC33.out hk34 (by have := SL.out; simp; omega))
    have gb34 := bx2 gb33 hk34 (by have := hG.out; simp; omega)
    have gf34 := frk gf33 (cell_lt gb33.1) hk34 (by have := hG.out; simp; omega)
    (try dsimp only)
    refine hK.out _ _ WC34.out.1 (fun hHeld' => ?_)
    clear hK K' hHeld
    have hHeld := hHeld'
    clear hHeld'
    (try go_frame)
    clear KR33 SA33 WC33 gb33 gf33
    clear hk34 sa
    have hzw : IntKind.i64.wrap (z - 2) = z - 2 := IntWalk.i64_in _ (by omega)
    refine held_take 11 (v := ?vv19) (by kernel_rfl) rfl (by rfl) (by kernel_rfl) (by kernel_rfl) (fun _ _ _ h => hQp _ _ _ _ _ h) ?hyy19 (by assumption) ?rest19
    case hyy19 => (intro w hSw; (try dsimp only at hSw); go_simp; (try with_reducible rfl))
    (try go_frame)
    refine held_take 12 (v := ?vv20) (by kernel_rfl) rfl (by rfl) (by kernel_rfl) (by kernel_rfl) (fun _ _ _ h => hQp _ _ _ _ _ h) ?hyy20 (by assumption) ?rest20
    case hyy20 => (intro w hSw; (try dsimp only at hSw); go_simp; (try with_reducible rfl))
    (try go_frame)
    refine held_one 14 (by kernel_rfl) rfl (by rfl) (fun K' hK => ?_)
    go_simp
    have hgk : Keep [w32.heap.size] w34 ((w34.setCell ⟨w32.heap.size, 0, none⟩ (.string nm)).setCell ⟨w32.heap.size, 1, none⟩ (.int .i64 (z - 2))) := (((Keep.refl [w32.heap.size] w34).setCell (p := ⟨w32.heap.size, 0, none⟩) (.inl (List.mem_singleton.2 rfl)) (.string nm)).setCell (p := ⟨w32.heap.size, 1, none⟩) (.inl (List.mem_singleton.2 rfl)) (.int .i64 (z - 2)))
    have WC35 := Lib.hid (WCells.keep WC34.out hgk (by have := hG.out; simp; omega))
    (try dsimp only)
    refine hK.out _ _ WC35.out.1 (fun hHeld' => ?_)
    clear hK K' hHeld
    have hHeld := hHeld'
    clear hHeld'
    (try go_frame)
    clear hHeld
    refine wpAnyH_done (by kernel_rfl) ?_ _
    go_wp2_with fail
    go_meet
    case rel => exact ⟨w32.heap.size, z, rfl, z0, z1, KR34.out.grow hgk (fun x hx => by have := hG.out; simp at hx; omega), SA34.out.keep hgk (by have := hG.out; simp; omega), WC35.out, ⟨by go_simp, by go_simp⟩, hG.out⟩
   ·go_simp
    refine (next_at 5 l a c2 S w33 SA33.out (HRT.out _ KR33.out SA33.out) (by omega) (by omega) (by omega)).mono ?_
    intro e w34 hq
    obtain ⟨z, rfl, z0, z1, sa, hk34⟩ := NextAt.out hq
    clear hq
    have KR34 := Lib.hid (KR33.out.trans hk34)
    have SA34 := Lib.hid (sa)
    have WC34 := Lib.hid (WCells.keep WC33.out hk34 (by have := SL.out; simp; omega))
    have sb34 := bx1 sb33 hk34 hQS
    have gb34 := bx2 gb33 hk34 (by have := hG.out; simp; omega)
    have gf34 := frk gf33 (cell_lt gb33.1) hk34 (by have := hG.out; simp; omega)
    (try dsimp only)
    refine hK.out _ _ WC34.out.1 (fun hHeld' => ?_)
    clear hK K' hHeld
    have hHeld := hHeld'
    clear hHeld'
    (try go_frame)
    clear KR33 SA33 WC33 sb33 gb33 gf33
    clear hk34 sa
    have hzw : IntKind.i64.wrap (z - 2) = z - 2 := IntWalk.i64_in _ (by omega)
    refine held_take 11 (v := ?vv21) (by kernel_rfl) rfl (by rfl) (by kernel_rfl) (by kernel_rfl) (fun _ _ _ h => hQp _ _ _ _ _ h) ?hyy21 (by assumption) ?rest21
    case hyy21 => (intro w hSw; (try dsimp only at hSw); go_simp; (try with_reducible rfl))
    (try go_frame)
    refine held_one 4 (by kernel_rfl) rfl (by rfl) (fun K' hK => ?_)
    have hcv := conv_at b1 sb34
    rw [← HT.out] at hcv
    go_simp
    clear hcv sb34
    (try dsimp only)
    refine hK.out _ _ WC34.out.1 (fun hHeld' => ?_)
    clear hK K' hHeld
    have hHeld := hHeld'
    clear hHeld'
    (try go_frame)
    refine held_take 5 (v := ?vv22) (by kernel_rfl) rfl (by rfl) (by kernel_rfl) (by kernel_rfl) (fun _ _ _ h => hQp _ _ _ _ _ h) ?hyy22 (by assumption) ?rest22
    case hyy22 => (intro w hSw; (try dsimp only at hSw); go_simp; (try with_reducible rfl))
    (try go_frame)
    refine held_take 12 (v := ?vv23) (by kernel_rfl) rfl (by rfl) (by kernel_rfl) (by kernel_rfl) (fun _ _ _ h => hQp _ _ _ _ _ h) ?hyy23 (by assumption) ?rest23
    case hyy23 => (intro w hSw; (try dsimp only at hSw); go_simp; (try with_reducible rfl))
    (try go_frame)
    refine held_one 14 (by kernel_rfl) rfl (by rfl) (fun K' hK => ?_)
    go_simp
    have hgk : Keep [w32.heap.size] w34 ((w34.setCell ⟨w32.heap.size, 0, none⟩ (.string nm)).setCell ⟨w32.heap.size, 1, none⟩ (.int .i64 (z - 2))) := (((Keep.refl [w32.heap.size] w34).setCell (p := ⟨w32.heap.size, 0, none⟩) (.inl (List.mem_singleton.2 rfl)) (.string nm)).setCell (p := ⟨w32.heap.size, 1, none⟩) (.inl (List.mem_singleton.2 rfl)) (.int .i64 (z - 2)))
    have WC35 := Lib.hid (WCells.keep WC34.out hgk (by have := hG.out; simp; omega))
    (try dsimp only)
    refine hK.out _ _ WC35.out.1 (fun hHeld' => ?_)
    clear hK K' hHeld
    have hHeld := hHeld'
    clear hHeld'
    (try go_frame)
    clear hHeld
    refine wpAnyH_done (by kernel_rfl) ?_ _
    go_wp2_with fail
    go_meet
    case rel => exact ⟨w32.heap.size, z, rfl, z0, z1, KR34.out.grow hgk (fun x hx => by have := hG.out; simp at hx; omega), SA34.out.keep hgk (by have := hG.out; simp; omega), WC35.out, ⟨by go_simp, by go_simp⟩, hG.out⟩
 ·go_simp
  refine (next_at 5 l a c2 S w31 SA31.out (HRT.out _ KR31.out SA31.out) (by omega) (by omega) (by omega)).mono ?_
  intro e w32 hq
  obtain ⟨z, rfl, z0, z1, sa, hk32⟩ := NextAt.out hq
  clear hq
  have KR32 := Lib.hid (KR31.out.trans hk32)
  have SA32 := Lib.hid (sa)
  have WC32 := Lib.hid (WCells.keep WC31.out hk32 (by have := SL.out; simp; omega))
  (try dsimp only)
  refine hK.out _ _ WC32.out.1 (fun hHeld' => ?_)
  clear hK K' hHeld
  have hHeld := hHeld'
  clear hHeld'
  (try go_frame)
  clear KR31 SA31 WC31
  clear hk32 sa
  have hzw : IntKind.i64.wrap (z - 2) = z - 2 := IntWalk.i64_in _ (by omega)
  refine held_take 11 (v := ?vv24) (by kernel_rfl) rfl (by rfl) (by kernel_rfl) (by kernel_rfl) (fun _ _ _ h => hQp _ _ _ _ _ h) ?hyy24 (by assumption) ?rest24
  case hyy24 => (intro w hSw; (try dsimp only at hSw); go_simp; (try with_reducible rfl))
  (try go_frame)
  refine held_pair 3 13 (by kernel_rfl) rfl rfl (by rfl) (by rfl) (fun K' hK => ?_) (fun K' hK => ?_)
  ·go_simp
   have ak : Keep [] w32 (w32.alloc (.cells #[.int .u8 b1.toNat] 5)) := (Keep.refl _ _).alloc _
   have sb33 : (w32.alloc (.cells #[.int .u8 b1.toNat] 5)).cell? ⟨w32.heap.size, 0, none⟩ = some (.int .u8 b1.toNat) := by go_simp
   have hQS : w32.heap.size ∉ [S] := by have := SA32.out.lt; simp; omega
   have KR33 := Lib.hid (KR32.out.trans (ak.mono (fun x hx => by simp at hx)))
   have SA33 := Lib.hid (SA32.out.keep ak (by simp))
   have WC33 := Lib.hid (WCells.keep WC32.out ak (by simp))
   (try dsimp only)
   refine hK.out _ _ WC33.out.1 (fun hHeld' => ?_)
   clear hK K' hHeld
   have hHeld := hHeld'
   clear hHeld'
   (try go_frame)
   clear KR32 SA32 WC32
   clear ak
   generalize w32.alloc (.cells #[.int .u8 b1.toNat] 5) = w33 at KR33 SA33 WC33 sb33 hHeld ⊢
   refine held_pair 4 13 (by kernel_rfl) rfl rfl (by rfl) (by rfl) (fun K' hK => ?_) (fun K' hK => ?_)
   ·have hcv := conv_at b1 sb33
    rw [← HT.out] at hcv
    go_simp
    clear hcv sb33
    (try dsimp only)
    refine hK.out _ _ WC33.out.1 (fun hHeld' => ?_)
    clear hK K' hHeld
    have hHeld := hHeld'
    clear hHeld'
    (try go_frame)
    refine held_take 5 (v := ?vv25) (by kernel_rfl) rfl (by rfl) (by kernel_rfl) (by kernel_rfl) (fun _ _ _ h => hQp _ _ _ _ _ h) ?hyy25 (by assumption) ?rest25
    case hyy25 => (intro w hSw; (try dsimp only at hSw); go_simp; (try with_reducible rfl))
    (try go_frame)
    refine held_take 12 (v := ?vv26) (by kernel_rfl) rfl (by rfl) (by kernel_rfl) (by kernel_rfl) (fun _ _ _ h => hQp _ _ _ _ _ h) ?hyy26 (by assumption) ?rest26
    case hyy26 => (intro w hSw; (try dsimp only at hSw); go_simp; (try with_reducible rfl))
    (try go_frame)
    refine held_one 13 (by kernel_rfl) rfl (by rfl) (fun K' hK => ?_)
    go_simp
    have ak : Keep [] w33 (w33.alloc (.cells #[(.string ⟨#[]⟩), (.int .i64 0)] 92)) := (Keep.refl _ _).alloc _
    have gb34 : Ce2 (w33.alloc (.cells #[(.string ⟨#[]⟩), (.int .i64 0)] 92)) w33.heap.size (.string ⟨#[]⟩) (.int .i64 0) := ⟨by go_simp, by go_simp⟩
    unfold Ce2 at gb34
    have gf34 : ∀ o, (w33.alloc (.cells #[(.string ⟨#[]⟩), (.int .i64 0)] 92)).frozen? ⟨w33.heap.size, o, none⟩ = false := fun o => by go_simp
    have hG : Hid (w33.heap.size ≠ S ∧ w33.heap.size ≠ W ∧ wr.heap.size ≤ w33.heap.size) := Lib.hid (by have := SA33.out.lt; have h9 : W < w33.heap.size := cell_lt WC33.out.1; have := KR33.out.size; omega)
    have KR34 := Lib.hid (KR33.out.trans (ak.mono (fun x hx => by simp at hx)))
    have SA34 := Lib.hid (SA33.out.keep ak (by simp))
    have WC34 := Lib.hid (WCells.keep WC33.out ak (by simp))
    (try dsimp only)
    refine hK.out _ _ WC34.out.1 (fun hHeld' => ?_)
    clear hK K' hHeld
    have hHeld := hHeld'
    clear hHeld'
    (try go_frame)
    clear KR33 SA33 WC33
    clear ak
    generalize w33.alloc (.cells #[(.string ⟨#[]⟩), (.int .i64 0)] 92) = w34 at KR34 SA34 WC34 gb34 gf34 hHeld ⊢
    refine held_one 14 (by kernel_rfl) rfl (by rfl) (fun K' hK => ?_)
    go_simp
    have hgk : Keep [w33.heap.size] w34 ((w34.setCell ⟨w33.heap.size, 0, none⟩ (.string nm)).setCell ⟨w33.heap.size, 1, none⟩ (.int .i64 (z - 2))) := (((Keep.refl [w33.heap.size] w34).setCell (p := ⟨w33.heap.size, 0, none⟩) (.inl (List.mem_singleton.2 rfl)) (.string nm)).setCell (p := ⟨w33.heap.size, 1, none⟩) (.inl (List.mem_singleton.2 rfl)) (.int .i64 (z - 2)))
    have WC35 := Lib.hid (WCells.keep WC34.out hgk (by have := hG.out; simp; omega))
    (try dsimp only)
    refine hK.out _ _ WC35.out.1 (fun hHeld' => ?_)
    clear hK K' hHeld
    have hHeld := hHeld'
    clear hHeld'
    (try go_frame)
    clear hHeld
    refine wpAnyH_done (by kernel_rfl) ?_ _
    go_wp2_with fail
    go_meet
    case rel => exact ⟨w33.heap.size, z, rfl, z0, z1, KR34.out.grow hgk (fun x hx => by have := hG.out; simp at hx; omega), SA34.out.keep hgk (by have := hG.out; simp; omega), WC35.out, ⟨by go_simp, by go_simp⟩, hG.out⟩
   ·go_simp
    have ak : Keep [] w33 (w33.alloc (.cells #[(.string ⟨#[]⟩), (.int .i64 0)] 92)) := (Keep.refl _ _).alloc _
    have gb34 : Ce2 (w33.alloc (.cells #[(.string ⟨#[]⟩), (.int .i64 0)] 92)) w33.heap.size (.string ⟨#[]⟩) (.int .i64 0) := ⟨by go_simp, by go_simp⟩
    unfold Ce2 at gb34
    have gf34 : ∀ o, (w33.alloc (.cells #[(.string ⟨#[]⟩), (.int .i64 0)] 92)).frozen? ⟨w33.heap.size, o, none⟩ = false := fun o => by go_simp
    have hG : Hid (w33.heap.size ≠ S ∧ w33.heap.size ≠ W ∧ wr.heap.size ≤ w33.heap.size) := Lib.hid (by have := SA33.out.lt; have h9 : W < w33.heap.size := cell_lt WC33.out.1; have := KR33.out.size; omega)
    have KR34 := Lib.hid (KR33.out.trans (ak.mono (fun x hx => by simp at hx)))
    have SA34 := Lib.hid (SA33.out.keep ak (by simp))
    have WC34 := Lib.hid (WCells.keep WC33.out ak (by simp))
    have sb34 := bx1 sb33 ak (by simp)
    (try dsimp only)
    refine hK.out _ _ WC34.out.1 (fun hHeld' => ?_)
    clear hK K' hHeld
    have hHeld := hHeld'
    clear hHeld'
    (try go_frame)
    clear KR33 SA33 WC33 sb33
    clear ak
    generalize w33.alloc (.cells #[(.string ⟨#[]⟩), (.int .i64 0)] 92) = w34 at KR34 SA34 WC34 sb34 gb34 gf34 hHeld ⊢
    refine held_one 4 (by kernel_rfl) rfl (by rfl) (fun K' hK => ?_)
    have hcv := conv_at b1 sb34
    rw [← HT.out] at hcv
    go_simp
    clear hcv sb34
    (try dsimp only)
    refine hK.out _ _ WC34.out.1 (fun hHeld' => ?_)
    clear hK K' hHeld
    have hHeld := hHeld'
    clear hHeld'
    (try go_frame)
    refine held_take 5 (v := ?vv27) (by kernel_rfl) rfl (by rfl) (by kernel_rfl) (by kernel_rfl) (fun _ _ _ h => hQp _ _ _ _ _ h) ?hyy27 (by assumption) ?rest27
    case hyy27 => (intro w hSw; (try dsimp only at hSw); go_simp; (try with_reducible rfl))
    (try go_frame)
    refine held_take 12 (v := ?vv28) (by kernel_rfl) rfl (by rfl) (by kernel_rfl) (by kernel_rfl) (fun _ _ _ h => hQp _ _ _ _ _ h) ?hyy28 (by assumption) ?rest28
    case hyy28 => (intro w hSw; (try dsimp only at hSw); go_simp; (try with_reducible rfl))
    (try go_frame)
    refine held_one 14 (by kernel_rfl) rfl (by rfl) (fun K' hK => ?_)
    go_simp
    have hgk : Keep [w33.heap.size] w34 ((w34.setCell ⟨w33.heap.size, 0, none⟩ (.string nm)).setCell ⟨w33.heap.size, 1, none⟩ (.int .i64 (z - 2))) := (((Keep.refl [w33.heap.size] w34).setCell (p := ⟨w33.heap.size, 0, none⟩) (.inl (List.mem_singleton.2 rfl)) (.string nm)).setCell (p := ⟨w33.heap.size, 1, none⟩) (.inl (List.mem_singleton.2 rfl)) (.int .i64 (z - 2)))
    have WC35 := Lib.hid (WCells.keep WC34.out hgk (by have := hG.out; simp; omega))
    (try dsimp only)
    refine hK.out _ _ WC35.out.1 (fun hHeld' => ?_)
    clear hK K' hHeld
    have hHeld := hHeld'
    clear hHeld'
    (try go_frame)
    clear hHeld
    refine wpAnyH_done (by kernel_rfl) ?_ _
    go_wp2_with fail
    go_meet
    case rel => exact ⟨w33.heap.size, z, rfl, z0, z1, KR34.out.grow hgk (fun x hx => by have := hG.out; simp at hx; omega), SA34.out.keep hgk (by have := hG.out; simp; omega), WC35.out, ⟨by go_simp, by go_simp⟩, hG.out⟩
  ·go_simp
   have ak : Keep [] w32 (w32.alloc (.cells #[(.string ⟨#[]⟩), (.int .i64 0)] 92)) := (Keep.refl _ _).alloc _
   have gb33 : Ce2 (w32.alloc (.cells #[(.string ⟨#[]⟩), (.int .i64 0)] 92)) w32.heap.size (.string ⟨#[]⟩) (.int .i64 0) := ⟨by go_simp, by go_simp⟩
   unfold Ce2 at gb33
   have gf33 : ∀ o, (w32.alloc (.cells #[(.string ⟨#[]⟩), (.int .i64 0)] 92)).frozen? ⟨w32.heap.size, o, none⟩ = false := fun o => by go_simp
   have hG : Hid (w32.heap.size ≠ S ∧ w32.heap.size ≠ W ∧ wr.heap.size ≤ w32.heap.size) := Lib.hid (by have := SA32.out.lt; have h9 : W < w32.heap.size := cell_lt WC32.out.1; have := KR32.out.size; omega)
   have KR33 := Lib.hid (KR32.out.trans (ak.mono (fun x hx => by simp at hx)))
   have SA33 := Lib.hid (SA32.out.keep ak (by simp))
   have WC33 := Lib.hid (WCells.keep WC32.out ak (by simp))
   (try dsimp only)
   refine hK.out _ _ WC33.out.1 (fun hHeld' => ?_)
   clear hK K' hHeld
   have hHeld := hHeld'
   clear hHeld'
   (try go_frame)
   clear KR32 SA32 WC32
   clear ak
   generalize w32.alloc (.cells #[(.string ⟨#[]⟩), (.int .i64 0)] 92) = w33 at KR33 SA33 WC33 gb33 gf33 hHeld ⊢
   refine held_one 3 (by kernel_rfl) rfl (by rfl) (fun K' hK => ?_)
   go_simp
   have ak : Keep [] w33 (w33.alloc (.cells #[.int .u8 b1.toNat] 5)) := (Keep.refl _ _).alloc _
   have sb34 : (w33.alloc (.cells #[.int .u8 b1.toNat] 5)).cell? ⟨w33.heap.size, 0, none⟩ = some (.int .u8 b1.toNat) := by go_simp
   have hQS : w33.heap.size ∉ [S] := by have := SA33.out.lt; simp; omega
   have KR34 := Lib.hid (KR33.out.trans (ak.mono (fun x hx => by simp at hx)))
   have SA34 := Lib.hid (SA33.out.keep ak (by simp))
   have WC34 := Lib.hid (WCells.keep WC33.out ak (by simp))
   have gb34 := bx2 gb33 ak (by simp)
   have gf34 := frk gf33 (cell_lt gb33.1) ak (by simp)
   (try dsimp only)
   refine hK.out _ _ WC34.out.1 (fun hHeld' => ?_)
   clear hK K' hHeld
   have hHeld := hHeld'
   clear hHeld'
   (try go_frame)
   clear KR33 SA33 WC33 gb33 gf33
   clear ak
   generalize w33.alloc (.cells #[.int .u8 b1.toNat] 5) = w34 at KR34 SA34 WC34 gb34 gf34 sb34 hHeld ⊢
   refine held_one 4 (by kernel_rfl) rfl (by rfl) (fun K' hK => ?_)
   have hcv := conv_at b1 sb34
   rw [← HT.out] at hcv
   go_simp
   clear hcv sb34
   (try dsimp only)
   refine hK.out _ _ WC34.out.1 (fun hHeld' => ?_)
   clear hK K' hHeld
   have hHeld := hHeld'
   clear hHeld'
   (try go_frame)
   refine held_take 5 (v := ?vv29) (by kernel_rfl) rfl (by rfl) (by kernel_rfl) (by kernel_rfl) (fun _ _ _ h => hQp _ _ _ _ _ h) ?hyy29 (by assumption) ?rest29
   case hyy29 => (intro w hSw; (try dsimp only at hSw); go_simp; (try with_reducible rfl))
   (try go_frame)
   refine held_take 12 (v := ?vv30) (by kernel_rfl) rfl (by rfl) (by kernel_rfl) (by kernel_rfl) (fun _ _ _ h => hQp _ _ _ _ _ h) ?hyy30 (by assumption) ?rest30
   case hyy30 => (intro w hSw; (try dsimp only at hSw); go_simp; (try with_reducible rfl))
   (try go_frame)
   refine held_one 14 (by kernel_rfl) rfl (by rfl) (fun K' hK => ?_)
   go_simp
   have hgk : Keep [w32.heap.size] w34 ((w34.setCell ⟨w32.heap.size, 0, none⟩ (.string nm)).setCell ⟨w32.heap.size, 1, none⟩ (.int .i64 (z - 2))) := (((Keep.refl [w32.heap.size] w34).setCell (p := ⟨w32.heap.size, 0, none⟩) (.inl (List.mem_singleton.2 rfl)) (.string nm)).setCell (p := ⟨w32.heap.size, 1, none⟩) (.inl (List.mem_singleton.2 rfl)) (.int .i64 (z - 2)))
   have WC35 := Lib.hid (WCells.keep WC34.out hgk (by have := hG.out; simp; omega))
   (try dsimp only)
   refine hK.out _ _ WC35.out.1 (fun hHeld' => ?_)
   clear hK K' hHeld
   have hHeld := hHeld'
   clear hHeld'
   (try go_frame)
   clear hHeld
   refine wpAnyH_done (by kernel_rfl) ?_ _
   go_wp2_with fail
   go_meet
   case rel => exact ⟨w32.heap.size, z, rfl, z0, z1, KR34.out.grow hgk (fun x hx => by have := hG.out; simp at hx; omega), SA34.out.keep hgk (by have := hG.out; simp; omega), WC35.out, ⟨by go_simp, by go_simp⟩, hG.out⟩
 ·go_simp
  have ak : Keep [] w31 (w31.alloc (.cells #[(.string ⟨#[]⟩), (.int .i64 0)] 92)) := (Keep.refl _ _).alloc _
  have gb32 : Ce2 (w31.alloc (.cells #[(.string ⟨#[]⟩), (.int .i64 0)] 92)) w31.heap.size (.string ⟨#[]⟩) (.int .i64 0) := ⟨by go_simp, by go_simp⟩
  unfold Ce2 at gb32
  have gf32 : ∀ o, (w31.alloc (.cells #[(.string ⟨#[]⟩), (.int .i64 0)] 92)).frozen? ⟨w31.heap.size, o, none⟩ = false := fun o => by go_simp
  have hG : Hid (w31.heap.size ≠ S ∧ w31.heap.size ≠ W ∧ wr.heap.size ≤ w31.heap.size) := Lib.hid (by have := SA31.out.lt; have h9 : W < w31.heap.size := cell_lt WC31.out.1; have := KR31.out.size; omega)
  have KR32 := Lib.hid (KR31.out.trans (ak.mono (fun x hx => by simp at hx)))
  have SA32 := Lib.hid (SA31.out.keep ak (by simp))
  have WC32 := Lib.hid (WCells.keep WC31.out ak (by simp))
  (try dsimp only)
  refine hK.out _ _ WC32.out.1 (fun hHeld' => ?_)
  clear hK K' hHeld
  have hHeld := hHeld'
  clear hHeld'
  (try go_frame)
  clear KR31 SA31 WC31
  clear ak
  generalize w31.alloc (.cells #[(.string ⟨#[]⟩), (.int .i64 0)] 92) = w32 at KR32 SA32 WC32 gb32 gf32 hHeld ⊢
  refine held_pair 3 10 (by kernel_rfl) rfl rfl (by rfl) (by rfl) (fun K' hK => ?_) (fun K' hK => ?_)
  ·go_simp
   have ak : Keep [] w32 (w32.alloc (.cells #[.int .u8 b1.toNat] 5)) := (Keep.refl _ _).alloc _
   have sb33 : (w32.alloc (.cells #[.int .u8 b1.toNat] 5)).cell? ⟨w32.heap.size, 0, none⟩ = some (.int .u8 b1.toNat) := by go_simp
   have hQS : w32.heap.size ∉ [S] := by have := SA32.out.lt; simp; omega
   have KR33 := Lib.hid (KR32.out.trans (ak.mono (fun x hx => by simp at hx)))
   have SA33 := Lib.hid (SA32.out.keep ak (by simp))
   have WC33 := Lib.hid (WCells.keep WC32.out ak (by simp))
   have gb33 := bx2 gb32 ak (by simp)
   have gf33 := frk gf32 (cell_lt gb32.1) ak (by simp)
   (try dsimp only)
   refine hK.out _ _ WC33.out.1 (fun hHeld' => ?_)
   clear hK K' hHeld
   have hHeld := hHeld'
   clear hHeld'
   (try go_frame)
   clear KR32 SA32 WC32 gb32 gf32
   clear ak
   generalize w32.alloc (.cells #[.int .u8 b1.toNat] 5) = w33 at KR33 SA33 WC33 gb33 gf33 sb33 hHeld ⊢
   refine held_pair 4 10 (by kernel_rfl) rfl rfl (by rfl) (by rfl) (fun K' hK => ?_) (fun K' hK => ?_)
   ·have hcv := conv_at b1 sb33
    rw [← HT.out] at hcv
    go_simp
    clear hcv sb33
    (try dsimp only)
    refine hK.out _ _ WC33.out.1 (fun hHeld' => ?_)
    clear hK K' hHeld
    have hHeld := hHeld'
    clear hHeld'
    (try go_frame)
    refine held_take 5 (v := ?vv31) (by kernel_rfl) rfl (by rfl) (by kernel_rfl) (by kernel_rfl) (fun _ _ _ h => hQp _ _ _ _ _ h) ?hyy31 (by assumption) ?rest31
    case hyy31 => (intro w hSw; (try dsimp only at hSw); go_simp; (try with_reducible rfl))
    (try go_frame)
    refine held_one 10 (by kernel_rfl) rfl (by rfl) (fun K' hK => ?_)
    go_simp
    refine (next_at 5 l a c2 S w33 SA33.out (HRT.out _ KR33.out SA33.out) (by omega) (by omega) (by omega)).mono ?_
    intro e w34 hq
    obtain ⟨z, rfl, z0, z1, sa, hk34⟩ := NextAt.out hq
    clear hq
    have KR34 := Lib.hid (KR33.out.trans hk34)
    have SA34 := Lib.hid (sa)
    have WC34 := Lib.hid (WCells.keep WC33.out hk34 (by have := SL.out; simp; omega))
    have gb34 := bx2 gb33 hk34 (by have := hG.out; simp; omega)
    have gf34 := frk gf33 (cell_lt gb33.1) hk34 (by have := hG.out; simp; omega)
    (try dsimp only)
    refine hK.out _ _ WC34.out.1 (fun hHeld' => ?_)
    clear hK K' hHeld
    have hHeld := hHeld'
    clear hHeld'
    (try go_frame)
    clear KR33 SA33 WC33 gb33 gf33
    clear hk34 sa
    have hzw : IntKind.i64.wrap (z - 2) = z - 2 := IntWalk.i64_in _ (by omega)
    refine held_take 11 (v := ?vv32) (by kernel_rfl) rfl (by rfl) (by kernel_rfl) (by kernel_rfl) (fun _ _ _ h => hQp _ _ _ _ _ h) ?hyy32 (by assumption) ?rest32
    case hyy32 => (intro w hSw; (try dsimp only at hSw); go_simp; (try with_reducible rfl))
    (try go_frame)
    refine held_take 12 (v := ?vv33) (by kernel_rfl) rfl (by rfl) (by kernel_rfl) (by kernel_rfl) (fun _ _ _ h => hQp _ _ _ _ _ h) ?hyy33 (by assumption) ?rest33
    case hyy33 => (intro w hSw; (try dsimp only at hSw); go_simp; (try with_reducible rfl))
    (try go_frame)
    refine held_one 14 (by kernel_rfl) rfl (by rfl) (fun K' hK => ?_)
    go_simp
    have hgk : Keep [w31.heap.size] w34 ((w34.setCell ⟨w31.heap.size, 0, none⟩ (.string nm)).setCell ⟨w31.heap.size, 1, none⟩ (.int .i64 (z - 2))) := (((Keep.refl [w31.heap.size] w34).setCell (p := ⟨w31.heap.size, 0, none⟩) (.inl (List.mem_singleton.2 rfl)) (.string nm)).setCell (p := ⟨w31.heap.size, 1, none⟩) (.inl (List.mem_singleton.2 rfl)) (.int .i64 (z - 2)))
    have WC35 := Lib.hid (WCells.keep WC34.out hgk (by have := hG.out; simp; omega))
    (try dsimp only)
    refine hK.out _ _ WC35.out.1 (fun hHeld' => ?_)
    clear hK K' hHeld
    have hHeld := hHeld'
    clear hHeld'
    (try go_frame)
    clear hHeld
    refine wpAnyH_done (by kernel_rfl) ?_ _
    go_wp2_with fail
    go_meet
    case rel => exact ⟨w31.heap.size, z, rfl, z0, z1, KR34.out.grow hgk (fun x hx => by have := hG.out; simp at hx; omega), SA34.out.keep hgk (by have := hG.out; simp; omega), WC35.out, ⟨by go_simp, by go_simp⟩, hG.out⟩
   ·go_simp
    refine (next_at 5 l a c2 S w33 SA33.out (HRT.out _ KR33.out SA33.out) (by omega) (by omega) (by omega)).mono ?_
    intro e w34 hq
    obtain ⟨z, rfl, z0, z1, sa, hk34⟩ := NextAt.out hq
    clear hq
    have KR34 := Lib.hid (KR33.out.trans hk34)
    have SA34 := Lib.hid (sa)
    have WC34 := Lib.hid (WCells.keep WC33.out hk34 (by have := SL.out; simp; omega))
    have gb34 := bx2 gb33 hk34 (by have := hG.out; simp; omega)
    have gf34 := frk gf33 (cell_lt gb33.1) hk34 (by have := hG.out; simp; omega)
    have sb34 := bx1 sb33 hk34 hQS
    (try dsimp only)
    refine hK.out _ _ WC34.out.1 (fun hHeld' => ?_)
    clear hK K' hHeld
    have hHeld := hHeld'
    clear hHeld'
    (try go_frame)
    clear KR33 SA33 WC33 gb33 gf33 sb33
    clear hk34 sa
    have hzw : IntKind.i64.wrap (z - 2) = z - 2 := IntWalk.i64_in _ (by omega)
    refine held_take 11 (v := ?vv34) (by kernel_rfl) rfl (by rfl) (by kernel_rfl) (by kernel_rfl) (fun _ _ _ h => hQp _ _ _ _ _ h) ?hyy34 (by assumption) ?rest34
    case hyy34 => (intro w hSw; (try dsimp only at hSw); go_simp; (try with_reducible rfl))
    (try go_frame)
    refine held_one 4 (by kernel_rfl) rfl (by rfl) (fun K' hK => ?_)
    have hcv := conv_at b1 sb34
    rw [← HT.out] at hcv
    go_simp
    clear hcv sb34
    (try dsimp only)
    refine hK.out _ _ WC34.out.1 (fun hHeld' => ?_)
    clear hK K' hHeld
    have hHeld := hHeld'
    clear hHeld'
    (try go_frame)
    refine held_take 5 (v := ?vv35) (by kernel_rfl) rfl (by rfl) (by kernel_rfl) (by kernel_rfl) (fun _ _ _ h => hQp _ _ _ _ _ h) ?hyy35 (by assumption) ?rest35
    case hyy35 => (intro w hSw; (try dsimp only at hSw); go_simp; (try with_reducible rfl))
    (try go_frame)
    refine held_take 12 (v := ?vv36) (by kernel_rfl) rfl (by rfl) (by kernel_rfl) (by kernel_rfl) (fun _ _ _ h => hQp _ _ _ _ _ h) ?hyy36 (by assumption) ?rest36
    case hyy36 => (intro w hSw; (try dsimp only at hSw); go_simp; (try with_reducible rfl))
    (try go_frame)
    refine held_one 14 (by kernel_rfl) rfl (by rfl) (fun K' hK => ?_)
    go_simp
    have hgk : Keep [w31.heap.size] w34 ((w34.setCell ⟨w31.heap.size, 0, none⟩ (.string nm)).setCell ⟨w31.heap.size, 1, none⟩ (.int .i64 (z - 2))) := (((Keep.refl [w31.heap.size] w34).setCell (p := ⟨w31.heap.size, 0, none⟩) (.inl (List.mem_singleton.2 rfl)) (.string nm)).setCell (p := ⟨w31.heap.size, 1, none⟩) (.inl (List.mem_singleton.2 rfl)) (.int .i64 (z - 2)))
    have WC35 := Lib.hid (WCells.keep WC34.out hgk (by have := hG.out; simp; omega))
    (try dsimp only)
    refine hK.out _ _ WC35.out.1 (fun hHeld' => ?_)
    clear hK K' hHeld
    have hHeld := hHeld'
    clear hHeld'
    (try go_frame)
    clear hHeld
    refine wpAnyH_done (by kernel_rfl) ?_ _
    go_wp2_with fail
    go_meet
    case rel => exact ⟨w31.heap.size, z, rfl, z0, z1, KR34.out.grow hgk (fun x hx => by have := hG.out; simp at hx; omega), SA34.out.keep hgk (by have := hG.out; simp; omega), WC35.out, ⟨by go_simp, by go_simp⟩, hG.out⟩
  ·go_simp
   refine (next_at 5 l a c2 S w32 SA32.out (HRT.out _ KR32.out SA32.out) (by omega) (by omega) (by omega)).mono ?_
   intro e w33 hq
   obtain ⟨z, rfl, z0, z1, sa, hk33⟩ := NextAt.out hq
   clear hq
   have KR33 := Lib.hid (KR32.out.trans hk33)
   have SA33 := Lib.hid (sa)
   have WC33 := Lib.hid (WCells.keep WC32.out hk33 (by have := SL.out; simp; omega))
   have gb33 := bx2 gb32 hk33 (by have := hG.out; simp; omega)
   have gf33 := frk gf32 (cell_lt gb32.1) hk33 (by have := hG.out; simp; omega)
   (try dsimp only)
   refine hK.out _ _ WC33.out.1 (fun hHeld' => ?_)
   clear hK K' hHeld
   have hHeld := hHeld'
   clear hHeld'
   (try go_frame)
   clear KR32 SA32 WC32 gb32 gf32
   clear hk33 sa
   have hzw : IntKind.i64.wrap (z - 2) = z - 2 := IntWalk.i64_in _ (by omega)
   refine held_take 11 (v := ?vv37) (by kernel_rfl) rfl (by rfl) (by kernel_rfl) (by kernel_rfl) (fun _ _ _ h => hQp _ _ _ _ _ h) ?hyy37 (by assumption) ?rest37
   case hyy37 => (intro w hSw; (try dsimp only at hSw); go_simp; (try with_reducible rfl))
   (try go_frame)
   refine held_one 3 (by kernel_rfl) rfl (by rfl) (fun K' hK => ?_)
   go_simp
   have ak : Keep [] w33 (w33.alloc (.cells #[.int .u8 b1.toNat] 5)) := (Keep.refl _ _).alloc _
   have sb34 : (w33.alloc (.cells #[.int .u8 b1.toNat] 5)).cell? ⟨w33.heap.size, 0, none⟩ = some (.int .u8 b1.toNat) := by go_simp
   have hQS : w33.heap.size ∉ [S] := by have := SA33.out.lt; simp; omega
   have KR34 := Lib.hid (KR33.out.trans (ak.mono (fun x hx => by simp at hx)))
   have SA34 := Lib.hid (SA33.out.keep ak (by simp))
   have WC34 := Lib.hid (WCells.keep WC33.out ak (by simp))
   have gb34 := bx2 gb33 ak (by simp)
   have gf34 := frk gf33 (cell_lt gb33.1) ak (by simp)
   (try dsimp only)
   refine hK.out _ _ WC34.out.1 (fun hHeld' => ?_)
   clear hK K' hHeld
   have hHeld := hHeld'
   clear hHeld'
   (try go_frame)
   clear KR33 SA33 WC33 gb33 gf33
   clear ak
   generalize w33.alloc (.cells #[.int .u8 b1.toNat] 5) = w34 at KR34 SA34 WC34 gb34 gf34 sb34 hHeld ⊢
   refine held_one 4 (by kernel_rfl) rfl (by rfl) (fun K' hK => ?_)
   have hcv := conv_at b1 sb34
   rw [← HT.out] at hcv
   go_simp
   clear hcv sb34
   (try dsimp only)
   refine hK.out _ _ WC34.out.1 (fun hHeld' => ?_)
   clear hK K' hHeld
   have hHeld := hHeld'
   clear hHeld'
   (try go_frame)
   refine held_take 5 (v := ?vv38) (by kernel_rfl) rfl (by rfl) (by kernel_rfl) (by kernel_rfl) (fun _ _ _ h => hQp _ _ _ _ _ h) ?hyy38 (by assumption) ?rest38
   case hyy38 => (intro w hSw; (try dsimp only at hSw); go_simp; (try with_reducible rfl))
   (try go_frame)
   refine held_take 12 (v := ?vv39) (by kernel_rfl) rfl (by rfl) (by kernel_rfl) (by kernel_rfl) (fun _ _ _ h => hQp _ _ _ _ _ h) ?hyy39 (by assumption) ?rest39
   case hyy39 => (intro w hSw; (try dsimp only at hSw); go_simp; (try with_reducible rfl))
   (try go_frame)
   refine held_one 14 (by kernel_rfl) rfl (by rfl) (fun K' hK => ?_)
   go_simp
   have hgk : Keep [w31.heap.size] w34 ((w34.setCell ⟨w31.heap.size, 0, none⟩ (.string nm)).setCell ⟨w31.heap.size, 1, none⟩ (.int .i64 (z - 2))) := (((Keep.refl [w31.heap.size] w34).setCell (p := ⟨w31.heap.size, 0, none⟩) (.inl (List.mem_singleton.2 rfl)) (.string nm)).setCell (p := ⟨w31.heap.size, 1, none⟩) (.inl (List.mem_singleton.2 rfl)) (.int .i64 (z - 2)))
   have WC35 := Lib.hid (WCells.keep WC34.out hgk (by have := hG.out; simp; omega))
   (try dsimp only)
   refine hK.out _ _ WC35.out.1 (fun hHeld' => ?_)
   clear hK K' hHeld
   have hHeld := hHeld'
   clear hHeld'
   (try go_frame)
   clear hHeld
   refine wpAnyH_done (by kernel_rfl) ?_ _
   go_wp2_with fail
   go_meet
   case rel => exact ⟨w31.heap.size, z, rfl, z0, z1, KR34.out.grow hgk (fun x hx => by have := hG.out; simp at hx; omega), SA34.out.keep hgk (by have := hG.out; simp; omega), WC35.out, ⟨by go_simp, by go_simp⟩, hG.out⟩
end Go.Proofs.YtlbocidcjmehfaaDoor
