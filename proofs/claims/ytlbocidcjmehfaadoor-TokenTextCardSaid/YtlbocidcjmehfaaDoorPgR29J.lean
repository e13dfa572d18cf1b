import Derived.Test.YtlbocidcjmehfaaDoorPgR17J
import Derived.Maps.RangeWalk
import Derived.Test.YtlbocidcjmehfaaDoorA1J
set_option linter.unusedVariables false
set_option linter.unusedSimpArgs false
namespace Go.Proofs.YtlbocidcjmehfaaDoor
open Go.RowKit
noncomputable def prog_r29Code : Code := (Tryd.f29.body.bind (firstRegion 29)).getD .skip
set_option maxRecDepth 100000 in
set_option maxHeartbeats 8000000 in
theorem prog_r29 (l : List Int) (a : Option Addr) (c2 : Nat) (A : World) (S W : Nat) (ar : Bool) (vg vm vf : Value) (w0 w30 : World) (F : Nat) (nm : ByteArray) (m : Nat) (b1' : UInt8) (t' nmp : ByteArray) (ps : List AParam) (va : Option Addr) (vc : Nat) (SL : Hid (A.heap.size ≤ S ∧ W = S + 1)) (HRT : Hid (∀ (w : World), Keep [S] w30 w → SrcAt l a c2 S w → RowAt (hideL [S] w) (.slice a l.length c2) l.length (l.map (.int .i64)))) (HSR : Hid (S < w0.heap.size)) (HF : Hid (F ≠ S ∧ F ≠ W)) (KR30 : Hid (Keep [S] w0 w30)) (SA30 : SrcAt l a c2 S w30) (wc30 : WCells W S 24 ar vg vm vf w30) (FB30 : Hid (w30.cell? ⟨F, 0, none⟩ = some (.string nm) ∧ w30.cell? ⟨F, 1, none⟩ = some (.slice va ps.length vc) ∧ w30.cell? ⟨F, 2, none⟩ = some (.slice none 0 0))) (FF30 : Hid (∀ o, w30.frozen? ⟨F, o, none⟩ = false)) (PR30 : Hid (w30.ownsRow w0.heap.size 94 2 (.slice va ps.length vc) ps.length (ps.flatMap pCells))) (hll : l.length ≤ 400) (hwb : 48 + (m : Int) = (b1'.toNat : Int)) (hbb : b1'.toNat < 200) (HTP : Hid (t' = bytes [b1'])) (hts' : t'.size = 1) (hvn' : (⟨#[112]⟩ : ByteArray) ++ t' = nmp) (y0 y1 y2 y4 y5 y6 y7 y8 y9 y10 y11 y12 y13 y15 y16 y17 y18 y19 y20 y21 y22 y23 y24 y25 y26 y27 y28 y29 y30 y31 y32 y33 y34 y35 y36 y37 y38 y39 y40 y41 y42 y43 y44 y45 y46 y47 y48 y49 y50 y51 y52 y53 y54 y55 y56 y57 y58 y59 y60 y61 y62 y63 y64 y65 y66 y67 y68 y69 y70 y71 y72 y73 y74 y75 y76 y77 y78 y79 y80 y81 y82 y83 y84 y85 y86 y87 y88 y89 y90 y91 y92 y93 y94 y95 y96 y97 y98 y99 y100 y101 y102 y103 y104 y105 y106 y107 y108 y109 y110 y111 y112 y113 y114 y115 y116 y117 y118 y119 y120 y121 y122 y123 y124 y125 y126 y127 y128 y129 y130 y131 y132 y133 y134 y135 y136 y137 y138 y139 y140 y141 y142 y143 y144 y145 y146 y147 y148 y149 y150 y151 y152 y153 y154 y155 y156 y157 y158 y159 y160 y161 y162 y163 y164 y165 y166 y167 y168 y169 y170 y171 y172 y173 y174 y175 y176 y177 y178 y179 y180 y181 y182 y183 y184 y185 y186 y187 y188 y189 y190 y191 y192 y193 y194 y195 y196 y197 y198 y199 y200 y201 y202 y203 y204 y205 y206 y207 y208 y209 y210 y211 y212 y213 y214 y215 y216 y217 y218 y219 y220 y221 y222 y223 y224 y225 y226 y227 y228 y229 y230 y231 y232 y233 y234 y235 y236 y237 y238 y239 y240 y241 y242 y243 y244 y245 y246 y247 y248 y249 y250 y251 y252 y253 y254 y255 y256 y257 y258 y259 y260 y261 y262 y263 : Value) (J K' : Act → World → Prop) (hJ : ∀ (a' : Act) (w' : World), (∃ u15 u145 u146 u147 u148 u149 u150 u151 u152 u153 u154 u155 u156 u157 u158 u159 u160 u161 u162 u163 u164 u165, (∃ (X : Nat) (bb : Bool), u15 = .pointer (some ⟨X, 0, none⟩) ∧ Keep [S] w0 w' ∧ SrcAt l a c2 S w' ∧ WCells W S 24 ar vg vm vf w' ∧ (w'.cell? ⟨F, 0, none⟩ = some (.string nm) ∧ w'.cell? ⟨F, 1, none⟩ = some (.slice va ps.length vc) ∧ w'.cell? ⟨F, 2, none⟩ = some (.slice none 0 0)) ∧ (∀ o, w'.frozen? ⟨F, o, none⟩ = false) ∧ w'.ownsRow w0.heap.size 94 2 (.slice va ps.length vc) ps.length (ps.flatMap pCells) ∧ (w'.cell? ⟨X, 0, none⟩ = some (.string nmp) ∧ w'.cell? ⟨X, 1, none⟩ = some (.bool bb)) ∧ (X ≠ S ∧ X ≠ W ∧ w0.heap.size ≤ X ∧ X ≠ F ∧ X ∉ ownB (.slice va ps.length vc))) ∧ a' = ⟨#[y0, y1, y2, .pointer (some ⟨W, 0, none⟩), y4, y5, y6, y7, y8, y9, y10, y11, y12, y13, .int .i64 m, u15, y16, y17, y18, y19, y20, y21, y22, y23, y24, y25, y26, y27, y28, y29, y30, y31, y32, y33, y34, y35, y36, y37, y38, y39, y40, y41, y42, y43, y44, y45, y46, y47, y48, y49, y50, y51, y52, y53, y54, y55, y56, y57, y58, y59, y60, y61, y62, y63, y64, y65, y66, y67, y68, y69, y70, y71, y72, y73, y74, y75, y76, y77, y78, y79, y80, y81, y82, y83, y84, y85, y86, y87, y88, y89, y90, y91, y92, y93, y94, y95, y96, y97, y98, y99, y100, y101, y102, y103, y104, y105, y106, y107, y108, y109, y110, y111, y112, y113, y114, y115, y116, y117, y118, y119, y120, y121, y122, y123, y124, y125, y126, y127, y128, y129, y130, y131, y132, y133, y134, y135, y136, y137, y138, y139, y140, y141, y142, y143, y144, u145, u146, u147, u148, u149, u150, u151, u152, u153, u154, u155, u156, u157, u158, u159, u160, u161, u162, u163, u164, u165, y166, y167, y168, y169, y170, y171, y172, y173, y174, y175, y176, y177, y178, y179, y180, y181, y182, y183, y184, y185, y186, y187, y188, y189, y190, y191, y192, y193, y194, y195, y196, y197, y198, y199, y200, y201, y202, y203, y204, y205, y206, y207, y208, y209, y210, y211, y212, y213, y214, y215, y216, y217, y218, y219, y220, y221, y222, y223, y224, y225, y226, y227, y228, y229, y230, y231, y232, y233, y234, y235, y236, y237, y238, y239, y240, y241, y242, y243, y244, y245, y246, y247, y248, y249, y250, y251, y252, y253, y254, y255, y256, y257, y258, y259, y260, y261, y262, y263], []⟩) → J a' w') (hK : ∀ (a' : Act) (w' : World), Met J a' w' → K' a' w') (Q : Exit → Act → World → Prop) (hQp : ∀ c (a : Act) (d : Tmp) (v : Value) (w : World), Q (.panic c) (a.put (some d) v) w → Q (.panic c) a w) :
  Code.wp Tryd.prog prog_r29Code (Exit.then K' Q) ⟨#[y0, y1, y2, .pointer (some ⟨W, 0, none⟩), y4, y5, y6, y7, y8, y9, y10, y11, y12, y13, .int .i64 m, y15, y16, y17, y18, y19, y20, y21, y22, y23, y24, y25, y26, y27, y28, y29, y30, y31, y32, y33, y34, y35, y36, y37, y38, y39, y40, y41, y42, y43, y44, y45, y46, y47, y48, y49, y50, y51, y52, y53, y54, y55, y56, y57, y58, y59, y60, y61, y62, y63, y64, y65, y66, y67, y68, y69, y70, y71, y72, y73, y74, y75, y76, y77, y78, y79, y80, y81, y82, y83, y84, y85, y86, y87, y88, y89, y90, y91, y92, y93, y94, y95, y96, y97, y98, y99, y100, y101, y102, y103, y104, y105, y106, y107, y108, y109, y110, y111, y112, y113, y114, y115, y116, y117, y118, y119, y120, y121, y122, y123, y124, y125, y126, y127, y128, y129, y130, y131, y132, y133, y134, y135, y136, y137, y138, y139, y140, y141, y142, y143, y144, y145, y146, y147, y148, y149, y150, y151, y152, y153, y154, y155, y156, y157, y158, y159, y160, y161, y162, y163, y164, y165, y166, y167, y168, y169, y170, y171, y172, y173, y174, y175, y176, y177, y178, y179, y180, y181, y182, y183, y184, y185, y186, y187, y188, y189, y190, y191, y192, y193, y194, y195, y196, y197, y198, y199, y200, y201, y202, y203, y204, y205, y206, y207, y208, y209, y210, y211, y212, y213, y214, y215, y216, y217, y218, y219, y220, y221, y222, y223, y224, y225, y226, y227, y228, y229, y230, y231, y232, y233, y234, y235, y236, y237, y238, y239, y240, y241, y242, y243, y244, y245, y246, y247, y248, y249, y250, y251, y252, y253, y254, y255, y256, y257, y258, y259, y260, y261, y262, y263], []⟩ w30 := by
 conv => arg 2; whnf
 have hdr : Keep [] w30 w30.drew := (Keep.refl _ _).drew
 have KR31 : Hid (Keep [S] w30 w30.drew) := Lib.hid (hdr.mono (fun x hx => by simp at hx))
 have SA31 := Lib.hid (SA30.keep hdr (by simp))
 have WC31 := Lib.hid (WCells.keep wc30 hdr (by simp))
 refine wp_region_held_drew (S := fun w' => w'.cell? ⟨W, 0, none⟩ = some (.pointer (some ⟨S, 0, none⟩))) (by kernel_rfl) WC31.out.1 (fun hHeld => ?_)
 clear hdr
 generalize w30.drew = w31 at KR31 SA31 WC31 hHeld ⊢
 refine held_take 0 (v := ?vv40) (by kernel_rfl) rfl (by rfl) (by kernel_rfl) (by kernel_rfl) (fun _ _ _ h => hQp _ _ _ _ _ h) ?hyy40 (by assumption) ?rest40
 case hyy40 => (intro w hSw; (try dsimp only at hSw); go_simp; (try with_reducible rfl))
 (try go_frame)
 refine held_take 1 (v := ?vv41) (by kernel_rfl) rfl (by rfl) (by kernel_rfl) (by kernel_rfl) (fun _ _ _ h => hQp _ _ _ _ _ h) ?hyy41 (by assumption) ?rest41
 case hyy41 => (intro w hSw; (try dsimp only at hSw); go_simp; (try with_reducible rfl))
 (try go_frame)
 refine held_take 2 (v := ?vv42) (by kernel_rfl) rfl (by rfl) (by kernel_rfl) (by kernel_rfl) (fun _ _ _ h => hQp _ _ _ _ _ h) ?hyy42 (by assumption) ?rest42
 case hyy42 => (intro w hSw; (try dsimp only at hSw); go_simp; (try with_reducible rfl))
 (try go_frame)
 refine held_take 6 (v := ?vv43) (by kernel_rfl) rfl (by rfl) (by kernel_rfl) (by kernel_rfl) (fun _ _ _ h => hQp _ _ _ _ _ h) ?hyy43 (by assumption) ?rest43
 case hyy43 => (intro w hSw; (try dsimp only at hSw); go_simp; (try with_reducible rfl))
 (try go_frame)
 refine held_take 7 (v := ?vv44) (by kernel_rfl) rfl (by rfl) (by kernel_rfl) (by kernel_rfl) (fun _ _ _ h => hQp _ _ _ _ _ h) ?hyy44 (by assumption) ?rest44
 case hyy44 => (intro w hSw; (try dsimp only at hSw); go_simp; (try with_reducible rfl))
 (try go_frame)
 refine held_take 8 (v := ?vv45) (by kernel_rfl) rfl (by rfl) (by kernel_rfl) (by kernel_rfl) (fun _ _ _ h => hQp _ _ _ _ _ h) ?hyy45 (by assumption) ?rest45
 case hyy45 => (intro w hSw; (try dsimp only at hSw); go_simp; (try with_reducible rfl))
 (try go_frame)
 refine held_take 9 (v := ?vv46) (by kernel_rfl) rfl (by rfl) (by kernel_rfl) (by kernel_rfl) (fun _ _ _ h => hQp _ _ _ _ _ h) ?hyy46 (by assumption) ?rest46
 case hyy46 => (intro w hSw; (try dsimp only at hSw); go_simp; (try with_reducible rfl))
 (try go_frame)
 (try rw [wrapb b1'])
 refine held_three 3 10 13 (by kernel_rfl) rfl rfl rfl (by rfl) (by rfl) (by rfl) (fun K' hK => ?_) (fun K' hK => ?_) (fun K' hK => ?_)
 ·go_simp
  have ak : Keep [] w31 (w31.alloc (.cells #[.int .u8 b1'.toNat] 5)) := (Keep.refl _ _).alloc _
  have sb32 : (w31.alloc (.cells #[.int .u8 b1'.toNat] 5)).cell? ⟨w31.heap.size, 0, none⟩ = some (.int .u8 b1'.toNat) := by go_simp
  have hQS : w31.heap.size ∉ [S] := by have := SA31.out.lt; simp; omega
  have KR32 := Lib.hid (KR31.out.trans (ak.mono (fun x hx => by simp at hx)))
  have SA32 := Lib.hid (SA31.out.keep ak (by simp))
  have WC32 := Lib.hid (WCells.keep WC31.out ak (by simp))
  (try dsimp only)
  refine hK.out _ _ WC32.out.1 (fun hHeld' => ?_)
  clear hK K' hHeld
  have hHeld := hHeld'
  clear hHeld'
  (try go_frame)
  clear KR31 SA31 WC31
  clear ak
  generalize w31.alloc (.cells #[.int .u8 b1'.toNat] 5) = w32 at KR32 SA32 WC32 sb32 hHeld ⊢
  refine held_three 4 10 13 (by kernel_rfl) rfl rfl rfl (by rfl) (by rfl) (by rfl) (fun K' hK => ?_) (fun K' hK => ?_) (fun K' hK => ?_)
  ·have hcv := conv_at b1' sb32
   rw [← HTP.out] at hcv
   go_simp
   clear hcv sb32
   (try dsimp only)
   refine hK.out _ _ WC32.out.1 (fun hHeld' => ?_)
   clear hK K' hHeld
   have hHeld := hHeld'
   clear hHeld'
   (try go_frame)
   refine held_take 5 (v := ?vv47) (by kernel_rfl) rfl (by rfl) (by kernel_rfl) (by kernel_rfl) (fun _ _ _ h => hQp _ _ _ _ _ h) ?hyy47 (by assumption) ?rest47
   case hyy47 => (intro w hSw; (try dsimp only at hSw); go_simp; (try with_reducible rfl))
   (try go_frame)
   refine held_pair 10 13 (by kernel_rfl) rfl rfl (by rfl) (by rfl) (fun K' hK => ?_) (fun K' hK => ?_)
   ·go_simp
    refine (next_at 3 l a c2 S w32 SA32.out (HRT.out _ KR32.out SA32.out) (by omega) (by omega) (by omega)).mono ?_
    intro e w33 hq
    obtain ⟨z, rfl, z0, z1, sa, hk33⟩ := NextAt.out hq
    clear hq
    have KR33 := Lib.hid (KR32.out.trans hk33)
    have SA33 := Lib.hid (sa)
    have WC33 := Lib.hid (WCells.keep WC32.out hk33 (by have := SL.out; simp; omega))
    (try dsimp only)
    refine hK.out _ _ WC33.out.1 (fun hHeld' => ?_)
    clear hK K' hHeld
    have hHeld := hHeld'
    clear hHeld'
    (try go_frame)
    clear KR32 SA32 WC32
    clear hk33 sa
    refine held_take 11 (v := ?vv48) (by kernel_rfl) rfl (by rfl) (by kernel_rfl) (by kernel_rfl) (fun _ _ _ h => hQp _ _ _ _ _ h) ?hyy48 (by assumption) ?rest48
    case hyy48 => (intro w hSw; (try dsimp only at hSw); go_simp; (try with_reducible rfl))
    (try go_frame)
    refine held_take 12 (v := ?vv49) (by kernel_rfl) rfl (by rfl) (by kernel_rfl) (by kernel_rfl) (fun _ _ _ h => hQp _ _ _ _ _ h) ?hyy49 (by assumption) ?rest49
    case hyy49 => (intro w hSw; (try dsimp only at hSw); go_simp; (try with_reducible rfl))
    (try go_frame)
    refine held_one 13 (by kernel_rfl) rfl (by rfl) (fun K' hK => ?_)
    go_simp
    have ak : Keep [] w33 (w33.alloc (.cells #[(.string ⟨#[]⟩), (.bool false)] 94)) := (Keep.refl _ _).alloc _
    have gb34 : Ce2 (w33.alloc (.cells #[(.string ⟨#[]⟩), (.bool false)] 94)) w33.heap.size (.string ⟨#[]⟩) (.bool false) := ⟨by go_simp, by go_simp⟩
    unfold Ce2 at gb34
    have gf34 : ∀ o, (w33.alloc (.cells #[(.string ⟨#[]⟩), (.bool false)] 94)).frozen? ⟨w33.heap.size, o, none⟩ = false := fun o => by go_simp
    have hG : Hid (w33.heap.size ≠ S ∧ w33.heap.size ≠ W ∧ w30.heap.size ≤ w33.heap.size) := Lib.hid (by have := SA33.out.lt; have h9 : W < w33.heap.size := cell_lt WC33.out.1; have := KR33.out.size; omega)
    have KR34 := Lib.hid (KR33.out.trans (ak.mono (fun x hx => by simp at hx)))
    have SA34 := Lib.hid (SA33.out.keep ak (by simp))
    have WC34 := Lib.hid (WCells.keep WC33.out ak (by simp))
    (try dsimp only)
    refine hK.out _ _ WC34.out.1 (fun hHeld' => ?_)
    clear hK K' hHeld
    have hHeld := hHeld'
    clear hHeld'
    (try go_frame)
    clear KR33 SA33 WC33
    clear ak
    generalize w33.alloc (.cells #[(.string ⟨#[]⟩), (.bool false)] 94) = w34 at KR34 SA34 WC34 gb34 gf34 hHeld ⊢
    refine held_one 14 (by kernel_rfl) rfl (by rfl) (fun K' hK => ?_)
    go_simp
    have hgk : Keep [w33.heap.size] w34 ((w34.setCell ⟨w33.heap.size, 0, none⟩ (.string nmp)).setCell ⟨w33.heap.size, 1, none⟩ (.bool (decide (0 < z)))) := (((Keep.refl [w33.heap.size] w34).setCell (p := ⟨w33.heap.size, 0, none⟩) (.inl (List.mem_singleton.2 rfl)) (.string nmp)).setCell (p := ⟨w33.heap.size, 1, none⟩) (.inl (List.mem_singleton.2 rfl)) (.bool (decide (0 < z))))
    have WC35 := Lib.hid (WCells.keep WC34.out hgk (by have := hG.out; simp; omega))
    (try dsimp only)
    refine hK.out _ _ WC35.out.1 (fun hHeld' => ?_)
    clear hK K' hHeld
    have hHeld := hHeld'
    clear hHeld'
    (try go_frame)
    clear hHeld
    refine wpAnyH_done (by kernel_rfl) ?_ _
    go_wp2_with fail
    go_meet
    have k3 := KR34.out.grow hgk (fun x hx => by have := hG.out; simp at hx; omega)
    have hFl3 : F < w30.heap.size := cell_lt FB30.out.1
    have hFS3 : F ∉ [S] := by have := HF.out; simp; omega
    case rel => exact ⟨w33.heap.size, decide (0 < z), rfl, KR30.out.trans k3, SA34.out.keep hgk (by have := hG.out; simp; omega), WC35.out, bx3 FB30.out k3 hFS3, frk FF30.out hFl3 k3 hFS3, ownsRow_keepD PR30.out k3 (fun g hg hm => by simp at hm; subst hm; have := owns_lt PR30.out (ownB_mem.1 hg); have := HSR.out; omega), ⟨by go_simp, by go_simp⟩, hG.out.1, hG.out.2.1, Nat.le_trans KR30.out.size hG.out.2.2, by have := hG.out; omega, fun hm => by have := owns_lt_size PR30.out (ownB_mem.1 hm); have := hG.out; omega⟩
   ·go_simp
    have ak : Keep [] w32 (w32.alloc (.cells #[(.string ⟨#[]⟩), (.bool false)] 94)) := (Keep.refl _ _).alloc _
    have gb33 : Ce2 (w32.alloc (.cells #[(.string ⟨#[]⟩), (.bool false)] 94)) w32.heap.size (.string ⟨#[]⟩) (.bool false) := ⟨by go_simp, by go_simp⟩
    unfold Ce2 at gb33
    have gf33 : ∀ o, (w32.alloc (.cells #[(.string ⟨#[]⟩), (.bool false)] 94)).frozen? ⟨w32.heap.size, o, none⟩ = false := fun o => by go_simp
    have hG : Hid (w32.heap.size ≠ S ∧ w32.heap.size ≠ W ∧ w30.heap.size ≤ w32.heap.size) := Lib.hid (by have := SA32.out.lt; have h9 : W < w32.heap.size := cell_lt WC32.out.1; have := KR32.out.size; omega)
    have KR33 := Lib.hid (KR32.out.trans (ak.mono (fun x hx => by simp at hx)))
    have SA33 := Lib.hid (SA32.out.keep ak (by simp))
    have WC33 := Lib.hid (WCells.keep WC32.out ak (by simp))
    (try dsimp only)
    refine hK.out _ _ WC33.out.1 (fun hHeld' => ?_)
    clear hK K' hHeld
    have hHeld := hHeld'
    clear hHeld'
    (try go_frame)
    clear KR32 SA32 WC32
    clear ak
    generalize w32.alloc (.cells #[(.string ⟨#[]⟩), (.bool false)] 94) = w33 at KR33 SA33 WC33 gb33 gf33 hHeld ⊢
    refine held_one 10 (by kernel_rfl) rfl (by rfl) (fun K' hK => ?_)
    go_simp
    refine (next_at 3 l a c2 S w33 SA33.out (HRT.out _ KR33.out SA33.out) (by omega) (by omega) (by omega)).mono ?_
    intro e w34 hq
    obtain ⟨z, rfl, z0, z1, sa, hk34⟩ := NextAt.out hq
    clear hq
    have KR34 := Lib.hid (KR33.out.trans hk34)
    have SA34 := Lib.hid (sa)
    have WC34 := Lib.hid (WCells.keep WC33.out hk34 (by have := SL.out; simp; omega))
    have gb34 := bx2 gb33 hk34 (by have := hG.out; simp; omega)
    have gf34 := frk gf33 (cell_lt gb33.1) hk34 (by have := hG.out; simp; omega)
    (try dsimp only)
    refine hK.out _ _ WC34.out.1 (fun hHeld' => ?_)
    clear hK K' hHeld
    have hHeld := hHeld'
    clear hHeld'
    (try go_frame)
    clear KR33 SA33 WC33 gb33 gf33
    clear hk34 sa
    refine held_take 11 (v := ?vv50) (by kernel_rfl) rfl (by rfl) (by kernel_rfl) (by kernel_rfl) (fun _ _ _ h => hQp _ _ _ _ _ h) ?hyy50 (by assumption) ?rest50
    case hyy50 => (intro w hSw; (try dsimp only at hSw); go_simp; (try with_reducible rfl))
    (try go_frame)
    refine held_take 12 (v := ?vv51) (by kernel_rfl) rfl (by rfl) (by kernel_rfl) (by kernel_rfl) (fun _ _ _ h => hQp _ _ _ _ _ h) ?hyy51 (by assumption) ?rest51
    case hyy51 => (intro w hSw; (try dsimp only at hSw); go_simp; (try with_reducible rfl))
    (try go_frame)
    refine held_one 14 (by kernel_rfl) rfl (by rfl) (fun K' hK => ?_)
    go_simp
    have hgk : Keep [w32.heap.size] w34 ((w34.setCell ⟨w32.heap.size, 0, none⟩ (.string nmp)).setCell ⟨w32.heap.size, 1, none⟩ (.bool (decide (0 < z)))) := (((Keep.refl [w32.heap.size] w34).setCell (p := ⟨w32.heap.size, 0, none⟩) (.inl (List.mem_singleton.2 rfl)) (.string nmp)).setCell (p := ⟨w32.heap.size, 1, none⟩) (.inl (List.mem_singleton.2 rfl)) (.bool (decide (0 < z))))
    have WC35 := Lib.hid (WCells.keep WC34.out hgk (by have := hG.out; simp; omega))
    (try dsimp only)
    refine hK.out _ _ WC35.out.1 (fun hHeld' => ?_)
    clear hK K' hHeld
    have hHeld := hHeld'
    clear hHeld'
    (try go_frame)
    clear hHeld
    refine wpAnyH_done (by kernel_rfl) ?_ _
    go_wp2_with fail
    go_meet
    have k3 := KR34.out.grow hgk (fun x hx => by have := hG.out; simp at hx; omega)
    have hFl3 : F < w30.heap.size := cell_lt FB30.out.1
    have hFS3 : F ∉ [S] := by have := HF.out; simp; omega
    case rel => exact ⟨w32.heap.size, decide (0 < z), rfl, KR30.out.trans k3, SA34.out.keep hgk (by have := hG.out; simp; omega), WC35.out, bx3 FB30.out k3 hFS3, frk FF30.out hFl3 k3 hFS3, ownsRow_keepD PR30.out k3 (fun g hg hm => by simp at hm; subst hm; have := owns_lt PR30.out (ownB_mem.1 hg); have := HSR.out; omega), ⟨by go_simp, by go_simp⟩, hG.out.1, hG.out.2.1, Nat.le_trans KR30.out.size hG.out.2.2, by have := hG.out; omega, fun hm => by have := owns_lt_size PR30.out (ownB_mem.1 hm); have := hG.out; omega⟩
  ·go_simp
   refine (next_at 3 l a c2 S w32 SA32.out (HRT.out _ KR32.out SA32.out) (by omega) (by omega) (by omega)).mono ?_
   intro e w33 hq
   obtain ⟨z, rfl, z0, z1, sa, hk33⟩ := NextAt.out hq
   clear hq
   have KR33 := Lib.hid (KR32.out.trans hk33)
   have SA33 := Lib.hid (sa)
   have WC33 := Lib.hid (WCells.keep WC32.out hk33 (by have := SL.out; simp; omega))
   have sb33 := bx1 sb32 hk33 hQS
   (try dsimp only)
   refine hK.out _ _ WC33.out.1 (fun hHeld' => ?_)
   clear hK K' hHeld
   have hHeld := hHeld'
   clear hHeld'
   (try go_frame)
   clear KR32 SA32 WC32 sb32
   clear hk33 sa
   refine held_take 11 (v := ?vv52) (by kernel_rfl) rfl (by rfl) (by kernel_rfl) (by kernel_rfl) (fun _ _ _ h => hQp _ _ _ _ _ h) ?hyy52 (by assumption) ?rest52
   case hyy52 => (intro w hSw; (try dsimp only at hSw); go_simp; (try with_reducible rfl))
   (try go_frame)
   refine held_pair 4 13 (by kernel_rfl) rfl rfl (by rfl) (by rfl) (fun K' hK => ?_) (fun K' hK => ?_)
   ·have hcv := conv_at b1' sb33
    rw [← HTP.out] at hcv
    go_simp
    clear hcv sb33
    (try dsimp only)
    refine hK.out _ _ WC33.out.1 (fun hHeld' => ?_)
    clear hK K' hHeld
    have hHeld := hHeld'
    clear hHeld'
    (try go_frame)
    refine held_take 5 (v := ?vv53) (by kernel_rfl) rfl (by rfl) (by kernel_rfl) (by kernel_rfl) (fun _ _ _ h => hQp _ _ _ _ _ h) ?hyy53 (by assumption) ?rest53
    case hyy53 => (intro w hSw; (try dsimp only at hSw); go_simp; (try with_reducible rfl))
    (try go_frame)
    refine held_take 12 (v := ?vv54) (by kernel_rfl) rfl (by rfl) (by kernel_rfl) (by kernel_rfl) (fun _ _ _ h => hQp _ _ _ _ _ h) ?hyy54 (by assumption) ?rest54
    case hyy54 => (intro w hSw; (try dsimp only at hSw); go_simp; (try with_reducible rfl))
    (try go_frame)
    refine held_one 13 (by kernel_rfl) rfl (by rfl) (fun K' hK => ?_)
    go_simp
    have ak : Keep [] w33 (w33.alloc (.cells #[(.string ⟨#[]⟩), (.bool false)] 94)) := (Keep.refl _ _).alloc _
    have gb34 : Ce2 (w33.alloc (.cells #[(.string ⟨#[]⟩), (.bool false)] 94)) w33.heap.size (.string ⟨#[]⟩) (.bool false) := ⟨by go_simp, by go_simp⟩
    unfold Ce2 at gb34
    have gf34 : ∀ o, (w33.alloc (.cells #[(.string ⟨#[]⟩), (.bool false)] 94)).frozen? ⟨w33.heap.size, o, none⟩ = false := fun o => by go_simp
    have hG : Hid (w33.heap.size ≠ S ∧ w33.heap.size ≠ W ∧ w30.heap.size ≤ w33.heap.size) := Lib.hid (by have := SA33.out.lt; have h9 : W < w33.heap.size := cell_lt WC33.out.1; have := KR33.out.size; omega)
    have KR34 := Lib.hid (KR33.out.trans (ak.mono (fun x hx => by simp at hx)))
    have SA34 := Lib.hid (SA33.out.keep ak (by simp))
    have WC34 := Lib.hid (WCells.keep WC33.out ak (by simp))
    (try dsimp only)
    refine hK.out _ _ WC34.out.1 (fun hHeld' => ?_)
    clear hK K' hHeld
    have hHeld := hHeld'
    clear hHeld'
    (try go_frame)
    clear KR33 SA33 WC33
    clear ak
    generalize w33.alloc (.cells #[(.string ⟨#[]⟩), (.bool false)] 94) = w34 at KR34 SA34 WC34 gb34 gf34 hHeld ⊢
    refine held_one 14 (by kernel_rfl) rfl (by rfl) (fun K' hK => ?_)
    go_simp
    have hgk : Keep [w33.heap.size] w34 ((w34.setCell ⟨w33.heap.size, 0, none⟩ (.string nmp)).setCell ⟨w33.heap.size, 1, none⟩ (.bool (decide (0 < z)))) := (((Keep.refl [w33.heap.size] w34).setCell (p := ⟨w33.heap.size, 0, none⟩) (.inl (List.mem_singleton.2 rfl)) (.string nmp)).setCell (p := ⟨w33.heap.size, 1, none⟩) (.inl (List.mem_singleton.2 rfl)) (.bool (decide (0 < z))))
    have WC35 := Lib.hid (WCells.keep WC34.out hgk (by have := hG.out; simp; omega))
    (try dsimp only)
    refine hK.out _ _ WC35.out.1 (fun hHeld' => ?_)
    clear hK K' hHeld
    have hHeld := hHeld'
    clear hHeld'
    (try go_frame)
    clear hHeld
    refine wpAnyH_done (by kernel_rfl) ?_ _
    go_wp2_with fail
    go_meet
    have k3 := KR34.out.grow hgk (fun x hx => by have := hG.out; simp at hx; omega)
    have hFl3 : F < w30.heap.size := cell_lt FB30.out.1
    have hFS3 : F ∉ [S] := by have := HF.out; simp; omega
    case rel => exact ⟨w33.heap.size, decide (0 < z), rfl, KR30.out.trans k3, SA34.out.keep hgk (by have := hG.out; simp; omega), WC35.out, bx3 FB30.out k3 hFS3, frk FF30.out hFl3 k3 hFS3, ownsRow_keepD PR30.out k3 (fun g hg hm => by simp at hm; subst hm; have := owns_lt PR30.out (ownB_mem.1 hg); have := HSR.out; omega), ⟨by go_simp, by go_simp⟩, hG.out.1, hG.out.2.1, Nat.le_trans KR30.out.size hG.out.2.2, by have := hG.out; omega, fun hm => by have := owns_lt_size PR30.out (ownB_mem.1 hm); have := hG.out; omega⟩
   ·go_simp
    have ak : Keep [] w33 (w33.alloc (.cells #[(.string ⟨#[]⟩), (.bool false)] 94)) := (Keep.refl _ _).alloc _
    have gb34 : Ce2 (w33.alloc (.cells #[(.string ⟨#[]⟩), (.bool false)] 94)) w33.heap.size (.string ⟨#[]⟩) (.bool false) := ⟨by go_simp, by go_simp⟩
    unfold Ce2 at gb34
    have gf34 : ∀ o, (w33.alloc (.cells #[(.string ⟨#[]⟩), (.bool false)] 94)).frozen? ⟨w33.heap.size, o, none⟩ = false := fun o => by go_simp
    have hG : Hid (w33.heap.size ≠ S ∧ w33.heap.size ≠ W ∧ w30.heap.size ≤ w33.heap.size) := Lib.hid (by have := SA33.out.lt; have h9 : W < w33.heap.size := cell_lt WC33.out.1; have := KR33.out.size; omega)
    have KR34 := Lib.hid (KR33.out.trans (ak.mono (fun x hx => by simp at hx)))
    have SA34 := Lib.hid (SA33.out.keep ak (by simp))
    have WC34 := Lib.hid (WCells.keep WC33.out ak (by simp))
    have sb34 := bx1 sb33 ak (by simp)
    (try dsimp only)
    refine hK.out _ _ WC34.out.1 (fun hHeld' => ?_)
    clear hK K' hHeld
    have hHeld := hHeld'
    clear hHeld'
    (try go_frame)
    clear KR33 SA33 WC33 sb33
    clear ak
    generalize w33.alloc (.cells #[(.string ⟨#[]⟩), (.bool false)] 94) = w34 at KR34 SA34 WC34 sb34 gb34 gf34 hHeld ⊢
    refine held_one 4 (by kernel_rfl) rfl (by rfl) (fun K' hK => ?_)
    have hcv := conv_at b1' sb34
    rw [← HTP.out] at hcv
    go_simp
    clear hcv sb34
    (try dsimp only)
    refine hK.out _ _ WC34.out.1 (fun hHeld' => ?_)
    clear hK K' hHeld
    have hHeld := hHeld'
    clear hHeld'
    (try go_frame)
    refine held_take 5 (v := ?vv55) (by kernel_rfl) rfl (by rfl) (by kernel_rfl) (by kernel_rfl) (fun _ _ _ h => hQp _ _ _ _ _ h) ?hyy55 (by assumption) ?rest55
    case hyy55 => (intro w hSw; (try dsimp only at hSw); go_simp; (try with_reducible rfl))
    (try go_frame)
    refine held_take 12 (v := ?vv56) (by kernel_rfl) rfl (by rfl) (by kernel_rfl) (by kernel_rfl) (fun _ _ _ h => hQp _ _ _ _ _ h) ?hyy56 (by assumption) ?rest56
    case hyy56 => (intro w hSw; (try dsimp only at hSw); go_simp; (try with_reducible rfl))
    (try go_frame)
    refine held_one 14 (by kernel_rfl) rfl (by rfl) (fun K' hK => ?_)
    go_simp
    have hgk : Keep [w33.heap.size] w34 ((w34.setCell ⟨w33.heap.size, 0, none⟩ (.string nmp)).setCell ⟨w33.heap.size, 1, none⟩ (.bool (decide (0 < z)))) := (((Keep.refl [w33.heap.size] w34).setCell (p := ⟨w33.heap.size, 0, none⟩) (.inl (List.mem_singleton.2 rfl)) (.string nmp)).setCell (p := ⟨w33.heap.size, 1, none⟩) (.inl (List.mem_singleton.2 rfl)) (.bool (decide (0 < z))))
    have WC35 := Lib.hid (WCells.keep WC34.out hgk (by have := hG.out; simp; omega))
    (try dsimp only)
    refine hK.out _ _ WC35.out.1 (fun hHeld' => ?_)
    clear hK K' hHeld
    have hHeld := hHeld'
    clear hHeld'
    (try go_frame)
    clear hHeld
    refine wpAnyH_done (by kernel_rfl) ?_ _
    go_wp2_with fail
    go_meet
    have k3 := KR34.out.grow hgk (fun x hx => by have := hG.out; simp at hx; omega)
    have hFl3 : F < w30.heap.size := cell_lt FB30.out.1
    have hFS3 : F ∉ [S] := by have := HF.out; simp; omega
    case rel => exact ⟨w33.heap.size, decide (0 < z), rfl, KR30.out.trans k3, SA34.out.keep hgk (by have := hG.out; simp; omega), WC35.out, bx3 FB30.out k3 hFS3, frk FF30.out hFl3 k3 hFS3, ownsRow_keepD PR30.out k3 (fun g hg hm => by simp at hm; subst hm; have := owns_lt PR30.out (ownB_mem.1 hg); have := HSR.out; omega), ⟨by go_simp, by go_simp⟩, hG.out.1, hG.out.2.1, Nat.le_trans KR30.out.size hG.out.2.2, by have := hG.out; omega, fun hm => by have := owns_lt_size PR30.out (ownB_mem.1 hm); have := hG.out; omega⟩
  ·go_simp
   have ak : Keep [] w32 (w32.alloc (.cells #[(.string ⟨#[]⟩), (.bool false)] 94)) := (Keep.refl _ _).alloc _
   have gb33 : Ce2 (w32.alloc (.cells #[(.string ⟨#[]⟩), (.bool false)] 94)) w32.heap.size (.string ⟨#[]⟩) (.bool false) := ⟨by go_simp, by go_simp⟩
   unfold Ce2 at gb33
   have gf33 : ∀ o, (w32.alloc (.cells #[(.string ⟨#[]⟩), (.bool false)] 94)).frozen? ⟨w32.heap.size, o, none⟩ = false := fun o => by go_simp
   have hG : Hid (w32.heap.size ≠ S ∧ w32.heap.size ≠ W ∧ w30.heap.size ≤ w32.heap.size) := Lib.hid (by have := SA32.out.lt; have h9 : W < w32.heap.size := cell_lt WC32.out.1; have := KR32.out.size; omega)
   have KR33 := Lib.hid (KR32.out.trans (ak.mono (fun x hx => by simp at hx)))
   have SA33 := Lib.hid (SA32.out.keep ak (by simp))
   have WC33 := Lib.hid (WCells.keep WC32.out ak (by simp))
   have sb33 := bx1 sb32 ak (by simp)
   (try dsimp only)
   refine hK.out _ _ WC33.out.1 (fun hHeld' => ?_)
   clear hK K' hHeld
   have hHeld := hHeld'
   clear hHeld'
   (try go_frame)
   clear KR32 SA32 WC32 sb32
   clear ak
   generalize w32.alloc (.cells #[(.string ⟨#[]⟩), (.bool false)] 94) = w33 at KR33 SA33 WC33 sb33 gb33 gf33 hHeld ⊢
   refine held_pair 4 10 (by kernel_rfl) rfl rfl (by rfl) (by rfl) (fun K' hK => ?_) (fun K' hK => ?_)
   ·have hcv := conv_at b1' sb33
    rw [← HTP.out] at hcv
    go_simp
    clear hcv sb33
    (try dsimp only)
    refine hK.out _ _ WC33.out.1 (fun hHeld' => ?_)
    clear hK K' hHeld
    have hHeld := hHeld'
    clear hHeld'
    (try go_frame)
    refine held_take 5 (v := ?vv57) (by kernel_rfl) rfl (by rfl) (by kernel_rfl) (by kernel_rfl) (fun _ _ _ h => hQp _ _ _ _ _ h) ?hyy57 (by assumption) ?rest57
    case hyy57 => (intro w hSw; (try dsimp only at hSw); go_simp; (try with_reducible rfl))
    (try go_frame)
    refine held_one 10 (by kernel_rfl) rfl (by rfl) (fun K' hK => ?_)
    go_simp
    refine (next_at 3 l a c2 S w33 SA33.out (HRT.out _ KR33.out SA33.out) (by omega) (by omega) (by omega)).mono ?_
    intro e w34 hq
    obtain ⟨z, rfl, z0, z1, sa, hk34⟩ := NextAt.out hq
    clear hq
    have KR34 := Lib.hid (KR33.out.trans hk34)
    have SA34 := Lib.hid (sa)
    have WC34 := Lib.hid (WCells.keep WC33.out hk34 (by have := SL.out; simp; omega))
    have gb34 := bx2 gb33 hk34 (by have := hG.out; simp; omega)
    have gf34 := frk gf33 (cell_lt gb33.1) hk34 (by have := hG.out; simp; omega)
    (try dsimp only)
    refine hK.out _ _ WC34.out.1 (fun hHeld' => ?_)
    clear hK K' hHeld
    have hHeld := hHeld'
    clear hHeld'
    (try go_frame)
    clear KR33 SA33 WC33 gb33 gf33
    clear hk34 sa
    refine held_take 11 (v := ?vv58) (by kernel_rfl) rfl (by rfl) (by kernel_rfl) (by kernel_rfl) (fun _ _ _ h => hQp _ _ _ _ _ h) ?hyy58 (by assumption) ?rest58
    case hyy58 => (intro w hSw; (try dsimp only at hSw); go_simp; (try with_reducible rfl))
    (try go_frame)
    refine held_take 12 (v := ?vv59) (by kernel_rfl) rfl (by rfl) (by kernel_rfl) (by kernel_rfl) (fun _ _ _ h => hQp _ _ _ _ _ h) ?hyy59 (by assumption) ?rest59
    case hyy59 => (intro w hSw; (try dsimp only at hSw); go_simp; (try with_reducible rfl))
    (try go_frame)
    refine held_one 14 (by kernel_rfl) rfl (by rfl) (fun K' hK => ?_)
    go_simp
    have hgk : Keep [w32.heap.size] w34 ((w34.setCell ⟨w32.heap.size, 0, none⟩ (.string nmp)).setCell ⟨w32.heap.size, 1, none⟩ (.bool (decide (0 < z)))) := (((Keep.refl [w32.heap.size] w34).setCell (p := ⟨w32.heap.size, 0, none⟩) (.inl (List.mem_singleton.2 rfl)) (.string nmp)).setCell (p := ⟨w32.heap.size, 1, none⟩) (.inl (List.mem_singleton.2 rfl)) (.bool (decide (0 < z))))
    have WC35 := Lib.hid (WCells.keep WC34.out hgk (by have := hG.out; simp; omega))
    (try dsimp only)
    refine hK.out _ _ WC35.out.1 (fun hHeld' => ?_)
    clear hK K' hHeld
    have hHeld := hHeld'
    clear hHeld'
    (try go_frame)
    clear hHeld
    refine wpAnyH_done (by kernel_rfl) ?_ _
    go_wp2_with fail
    go_meet
    have k3 := KR34.out.grow hgk (fun x hx => by have := hG.out; simp at hx; omega)
    have hFl3 : F < w30.heap.size := cell_lt FB30.out.1
    have hFS3 : F ∉ [S] := by have := HF.out; simp; omega
    case rel => exact ⟨w32.heap.size, decide (0 < z), rfl, KR30.out.trans k3, SA34.out.keep hgk (by have := hG.out; simp; omega), WC35.out, bx3 FB30.out k3 hFS3, frk FF30.out hFl3 k3 hFS3, ownsRow_keepD PR30.out k3 (fun g hg hm => by simp at hm; subst hm; have := owns_lt PR30.out (ownB_mem.1 hg); have := HSR.out; omega), ⟨by go_simp, by go_simp⟩, hG.out.1, hG.out.2.1, Nat.le_trans KR30.out.size hG.out.2.2, by have := hG.out; omega, fun hm => by have := owns_lt_size PR30.out (ownB_mem.1 hm); have := hG.out; omega⟩
   ·go_simp
    refine (next_at 3 l a c2 S w33 SA33.out (HRT.out _ KR33.out SA33.out) (by omega) (by omega) (by omega)).mono ?_
    intro e w34 hq
    obtain ⟨z, rfl, z0, z1, sa, hk34⟩ := NextAt.out hq
    clear hq
    have KR34 := Lib.hid (KR33.out.trans hk34)
    have SA34 := Lib.hid (sa)
    have WC34 := Lib.hid (WCells.keep WC33.out hk34 (by have := SL.out; simp; omega))
    have sb34 := bx1 sb33 hk34 hQS
    have gb34 := bx2 gb33 hk34 (by have := hG.out; simp; omega)
    have gf34 := frk gf33 (cell_lt gb33.1) hk34 (by have := hG.out; simp; omega)
    (try dsimp only)
    refine hK.out _ _ WC34.out.1 (fun hHeld' => ?_)
    clear hK K' hHeld
    have hHeld := hHeld'
    clear hHeld'
    (try go_frame)
    clear KR33 SA33 WC33 sb33 gb33 gf33
    clear hk34 sa
    refine held_take 11 (v := ?vv60) (by kernel_rfl) rfl (by rfl) (by kernel_rfl) (by kernel_rfl) (fun _ _ _ h => hQp _ _ _ _ _ h) ?hyy60 (by assumption) ?rest60
    case hyy60 => (intro w hSw; (try dsimp only at hSw); go_simp; (try with_reducible rfl))
    (try go_frame)
    refine held_one 4 (by kernel_rfl) rfl (by rfl) (fun K' hK => ?_)
    have hcv := conv_at b1' sb34
    rw [← HTP.out] at hcv
    go_simp
    clear hcv sb34
    (try dsimp only)
    refine hK.out _ _ WC34.out.1 (fun hHeld' => ?_)
    clear hK K' hHeld
    have hHeld := hHeld'
    clear hHeld'
    (try go_frame)
    refine held_take 5 (v := ?vv61) (by kernel_rfl) rfl (by rfl) (by kernel_rfl) (by kernel_rfl) (fun _ _ _ h => hQp _ _ _ _ _ h) ?hyy61 (by assumption) ?rest61
    case hyy61 => (intro w hSw; (try dsimp only at hSw); go_simp; (try with_reducible rfl))
    (try go_frame)
    refine held_take 12 (v := ?vv62) (by kernel_rfl) rfl (by rfl) (by kernel_rfl) (by kernel_rfl) (fun _ _ _ h => hQp _ _ _ _ _ h) ?hyy62 (by assumption) ?rest62
    case hyy62 => (intro w hSw; (try dsimp only at hSw); go_simp; (try with_reducible rfl))
    (try go_frame)
    refine held_one 14 (by kernel_rfl) rfl (by rfl) (fun K' hK => ?_)
    go_simp
    have hgk : Keep [w32.heap.size] w34 ((w34.setCell ⟨w32.heap.size, 0, none⟩ (.string nmp)).setCell ⟨w32.heap.size, 1, none⟩ (.bool (decide (0 < z)))) := (((Keep.refl [w32.heap.size] w34).setCell (p := ⟨w32.heap.size, 0, none⟩) (.inl (List.mem_singleton.2 rfl)) (.string nmp)).setCell (p := ⟨w32.heap.size, 1, none⟩) (.inl (List.mem_singleton.2 rfl)) (.bool (decide (0 < z))))
    have WC35 := Lib.hid (WCells.keep WC34.out hgk (by have := hG.out; simp; omega))
    (try dsimp only)
    refine hK.out _ _ WC35.out.1 (fun hHeld' => ?_)
    clear hK K' hHeld
    have hHeld := hHeld'
    clear hHeld'
    (try go_frame)
    clear hHeld
    refine wpAnyH_done (by kernel_rfl) ?_ _
    go_wp2_with fail
    go_meet
    have k3 := KR34.out.grow hgk (fun x hx => by have := hG.out; simp at hx; omega)
    have hFl3 : F < w30.heap.size := cell_lt FB30.out.1
    have hFS3 : F ∉ [S] := by have := HF.out; simp; omega
    case rel => exact ⟨w32.heap.size, decide (0 < z), rfl, KR30.out.trans k3, SA34.out.keep hgk (by have := hG.out; simp; omega), WC35.out, bx3 FB30.out k3 hFS3, frk FF30.out hFl3 k3 hFS3, ownsRow_keepD PR30.out k3 (fun g hg hm => by simp at hm; subst hm; have := owns_lt PR30.out (ownB_mem.1 hg); have := HSR.out; omega), ⟨by go_simp, by go_simp⟩, hG.out.1, hG.out.2.1, Nat.le_trans KR30.out.size hG.out.2.2, by have := hG.out; omega, fun hm => by have := owns_lt_size PR30.out (ownB_mem.1 hm); have := hG.out; omega⟩
 ·go_simp
  refine (next_at 3 l a c2 S w31 SA31.out (HRT.out _ KR31.out SA31.out) (by omega) (by omega) (by omega)).mono ?_
  intro e w32 hq
  obtain ⟨z, rfl, z0, z1, sa, hk32⟩ := NextAt.out hq
  clear hq
  have KR32 := Lib.hid (KR31.out.trans hk32)
  have SA32 := Lib.hid (sa)
  have WC32 := Lib.hid (WCells.keep WC31.out hk32 (by have := SL.out; simp; omega))
  (try dsimp only)
  refine hK.out _ _ WC32.out.1 (fun hHeld' => ?_)
  clear hK K' hHeld
  have hHeld := hHeld'
  clear hHeld'
  (try go_frame)
  clear KR31 SA31 WC31
  clear hk32 sa
  refine held_take 11 (v := ?vv63) (by kernel_rfl) rfl (by rfl) (by kernel_rfl) (by kernel_rfl) (fun _ _ _ h => hQp _ _ _ _ _ h) ?hyy63 (by assumption) ?rest63
  case hyy63 => (intro w hSw; (try dsimp only at hSw); go_simp; (try with_reducible rfl))
  (try go_frame)
  refine held_pair 3 13 (by kernel_rfl) rfl rfl (by rfl) (by rfl) (fun K' hK => ?_) (fun K' hK => ?_)
  ·go_simp
   have ak : Keep [] w32 (w32.alloc (.cells #[.int .u8 b1'.toNat] 5)) := (Keep.refl _ _).alloc _
   have sb33 : (w32.alloc (.cells #[.int .u8 b1'.toNat] 5)).cell? ⟨w32.heap.size, 0, none⟩ = some (.int .u8 b1'.toNat) := by go_simp
   have hQS : w32.heap.size ∉ [S] := by have := SA32.out.lt; simp; omega
   have KR33 := Lib.hid (KR32.out.trans (ak.mono (fun x hx => by simp at hx)))
   have SA33 := Lib.hid (SA32.out.keep ak (by simp))
   have WC33 := Lib.hid (WCells.keep WC32.out ak (by simp))
   (try dsimp only)
   refine hK.out _ _ WC33.out.1 (fun hHeld' => ?_)
   clear hK K' hHeld
   have hHeld := hHeld'
   clear hHeld'
   (try go_frame)
   clear KR32 SA32 WC32
   clear ak
   generalize w32.alloc (.cells #[.int .u8 b1'.toNat] 5) = w33 at KR33 SA33 WC33 sb33 hHeld ⊢
   refine held_pair 4 13 (by kernel_rfl) rfl rfl (by rfl) (by rfl) (fun K' hK => ?_) (fun K' hK => ?_)
   ·have hcv := conv_at b1' sb33
    rw [← HTP.out] at hcv
    go_simp
    clear hcv sb33
    (try dsimp only)
    refine hK.out _ _ WC33.out.1 (fun hHeld' => ?_)
    clear hK K' hHeld
    have hHeld := hHeld'
    clear hHeld'
    (try go_frame)
    refine held_take 5 (v := ?vv64) (by kernel_rfl) rfl (by rfl) (by kernel_rfl) (by kernel_rfl) (fun _ _ _ h => hQp _ _ _ _ _ h) ?hyy64 (by assumption) ?rest64
    case hyy64 => (intro w hSw; (try dsimp only at hSw); go_simp; (try with_reducible rfl))
    (try go_frame)
    refine held_take 12 (v := ?vv65) (by kernel_rfl) rfl (by rfl) (by kernel_rfl) (by kernel_rfl) (fun _ _ _ h => hQp _ _ _ _ _ h) ?hyy65 (by assumption) ?rest65
    case hyy65 => (intro w hSw; (try dsimp only at hSw); go_simp; (try with_reducible rfl))
    (try go_frame)
    refine held_one 13 (by kernel_rfl) rfl (by rfl) (fun K' hK => ?_)
    go_simp
    have ak : Keep [] w33 (w33.alloc (.cells #[(.string ⟨#[]⟩), (.bool false)] 94)) := (Keep.refl _ _).alloc _
    have gb34 : Ce2 (w33.alloc (.cells #[(.string ⟨#[]⟩), (.bool false)] 94)) w33.heap.size (.string ⟨#[]⟩) (.bool false) := ⟨by go_simp, by go_simp⟩
    unfold Ce2 at gb34
    have gf34 : ∀ o, (w33.alloc (.cells #[(.string ⟨#[]⟩), (.bool false)] 94)).frozen? ⟨w33.heap.size, o, none⟩ = false := fun o => by go_simp
    have hG : Hid (w33.heap.size ≠ S ∧ w33.heap.size ≠ W ∧ w30.heap.size ≤ w33.heap.size) := Lib.hid (by have := SA33.out.lt; have h9 : W < w33.heap.size := cell_lt WC33.out.1; have := KR33.out.size; omega)
    have KR34 := Lib.hid (KR33.out.trans (ak.mono (fun x hx => by simp at hx)))
    have SA34 := Lib.hid (SA33.out.keep ak (by simp))
    have WC34 := Lib.hid (WCells.keep WC33.out ak (by simp))
    (try dsimp only)
    refine hK.out _ _ WC34.out.1 (fun hHeld' => ?_)
    clear hK K' hHeld
    have hHeld := hHeld'
    clear hHeld'
    (try go_frame)
    clear KR33 SA33 WC33
    clear ak
    generalize w33.alloc (.cells #[(.string ⟨#[]⟩), (.bool false)] 94) = w34 at KR34 SA34 WC34 gb34 gf34 hHeld ⊢
    refine held_one 14 (by kernel_rfl) rfl (by rfl) (fun K' hK => ?_)
    go_simp
    have hgk : Keep [w33.heap.size] w34 ((w34.setCell ⟨w33.heap.size, 0, none⟩ (.string nmp)).setCell ⟨w33.heap.size, 1, none⟩ (.bool (decide (0 < z)))) := (((Keep.refl [w33.heap.size] w34).setCell (p := ⟨w33.heap.size, 0, none⟩) (.inl (List.mem_singleton.2 rfl)) (.string nmp)).setCell (p := ⟨w33.heap.size, 1, none⟩) (.inl (List.mem_singleton.2 rfl)) (.bool (decide (0 < z))))
    have WC35 := Lib.hid (WCells.keep WC34.out hgk (by have := hG.out; simp; omega))
    (try dsimp only)
    refine hK.out _ _ WC35.out.1 (fun hHeld' => ?_)
    clear hK K' hHeld
    have hHeld := hHeld'
    clear hHeld'
    (try go_frame)
    clear hHeld
    refine wpAnyH_done (by kernel_rfl) ?_ _
    go_wp2_with fail
    go_meet
    have k3 := KR34.out.grow hgk (fun x hx => by have := hG.out; simp at hx; omega)
    have hFl3 : F < w30.heap.size := cell_lt FB30.out.1
    have hFS3 : F ∉ [S] := by have := HF.out; simp; omega
    case rel => exact ⟨w33.heap.size, decide (0 < z), rfl, KR30.out.trans k3, SA34.out.keep hgk (by have := hG.out; simp; omega), WC35.out, bx3 FB30.out k3 hFS3, frk FF30.out hFl3 k3 hFS3, ownsRow_keepD PR30.out k3 (fun g hg hm => by simp at hm; subst hm; have := owns_lt PR30.out (ownB_mem.1 hg); have := HSR.out; omega), ⟨by go_simp, by go_simp⟩, hG.out.1, hG.out.2.1, Nat.le_trans KR30.out.size hG.out.2.2, by have := hG.out; omega, fun hm => by have := owns_lt_size PR30.out (ownB_mem.1 hm); have := hG.out; omega⟩
   ·go_simp
    have ak : Keep [] w33 (w33.alloc (.cells #[(.string ⟨#[]⟩), (.bool false)] 94)) := (Keep.refl _ _).alloc _
    have gb34 : Ce2 (w33.alloc (.cells #[(.string ⟨#[]⟩), (.bool false)] 94)) w33.heap.size (.string ⟨#[]⟩) (.bool false) := ⟨by go_simp, by go_simp⟩
    unfold Ce2 at gb34
    have gf34 : ∀ o, (w33.alloc (.cells #[(.string ⟨#[]⟩), (.bool false)] 94)).frozen? ⟨w33.heap.size, o, none⟩ = false := fun o => by go_simp
    have hG : Hid (w33.heap.size ≠ S ∧ w33.heap.size ≠ W ∧ w30.heap.size ≤ w33.heap.size) := Lib.hid (by have := SA33.out.lt; have h9 : W < w33.heap.size := cell_lt WC33.out.1; have := KR33.out.size; omega)
    have KR34 := Lib.hid (KR33.out.trans (ak.mono (fun x hx => by simp at hx)))
    have SA34 := Lib.hid (SA33.out.keep ak (by simp))
    have WC34 := Lib.hid (WCells.keep WC33.out ak (by simp))
    have sb34 := bx1 sb33 ak (by simp)
    (try dsimp only)
    refine hK.out _ _ WC34.out.1 (fun hHeld' => ?_)
    clear hK K' hHeld
    have hHeld := hHeld'
    clear hHeld'
    (try go_frame)
    clear KR33 SA33 WC33 sb33
    clear ak
    generalize w33.alloc (.cells #[(.string ⟨#[]⟩), (.bool false)] 94) = w34 at KR34 SA34 WC34 sb34 gb34 gf34 hHeld ⊢
    refine held_one 4 (by kernel_rfl) rfl (by rfl) (fun K' hK => ?_)
    have hcv := conv_at b1' sb34
    rw [← HTP.out] at hcv
    go_simp
    clear hcv sb34
    (try dsimp only)
    refine hK.out _ _ WC34.out.1 (fun hHeld' => ?_)
    clear hK K' hHeld
    have hHeld := hHeld'
    clear hHeld'
    (try go_frame)
    refine held_take 5 (v := ?vv66) (by kernel_rfl) rfl (by rfl) (by kernel_rfl) (by kernel_rfl) (fun _ _ _ h => hQp _ _ _ _ _ h) ?hyy66 (by assumption) ?rest66
    case hyy66 => (intro w hSw; (try dsimp only at hSw); go_simp; (try with_reducible rfl))
    (try go_frame)
    refine held_take 12 (v := ?vv67) (by kernel_rfl) rfl (by rfl) (by kernel_rfl) (by kernel_rfl) (fun _ _ _ h => hQp _ _ _ _ _ h) ?hyy67 (by assumption) ?rest67
    case hyy67 => (intro w hSw; (try dsimp only at hSw); go_simp; (try with_reducible rfl))
    (try go_frame)
    refine held_one 14 (by kernel_rfl) rfl (by rfl) (fun K' hK => ?_)
    go_simp
    have hgk : Keep [w33.heap.size] w34 ((w34.setCell ⟨w33.heap.size, 0, none⟩ (.string nmp)).setCell ⟨w33.heap.size, 1, none⟩ (.bool (decide (0 < z)))) := (((Keep.refl [w33.heap.size] w34).setCell (p := ⟨w33.heap.size, 0, none⟩) (.inl (List.mem_singleton.2 rfl)) (.string nmp)).setCell (p := ⟨w33.heap.size, 1, none⟩) (.inl (List.mem_singleton.2 rfl)) (.bool (decide (0 < z))))
    have WC35 := Lib.hid (WCells.keep WC34.out hgk (by have := hG.out; simp; omega))
    (try dsimp only)
    refine hK.out _ _ WC35.out.1 (fun hHeld' => ?_)
    clear hK K' hHeld
    have hHeld := hHeld'
    clear hHeld'
    (try go_frame)
    clear hHeld
    refine wpAnyH_done (by kernel_rfl) ?_ _
    go_wp2_with fail
    go_meet
    have k3 := KR34.out.grow hgk (fun x hx => by have := hG.out; simp at hx; omega)
    have hFl3 : F < w30.heap.size := cell_lt FB30.out.1
    have hFS3 : F ∉ [S] := by have := HF.out; simp; omega
    case rel => exact ⟨w33.heap.size, decide (0 < z), rfl, KR30.out.trans k3, SA34.out.keep hgk (by have := hG.out; simp; omega), WC35.out, bx3 FB30.out k3 hFS3, frk FF30.out hFl3 k3 hFS3, ownsRow_keepD PR30.out k3 (fun g hg hm => by simp at hm; subst hm; have := owns_lt PR30.out (ownB_mem.1 hg); have := HSR.out; omega), ⟨by go_simp, by go_simp⟩, hG.out.1, hG.out.2.1, Nat.le_trans KR30.out.size hG.out.2.2, by have := hG.out; omega, fun hm => by have := owns_lt_size PR30.out (ownB_mem.1 hm); have := hG.out; omega⟩
  ·go_simp
   have ak : Keep [] w32 (w32.alloc (.cells #[(.string ⟨#[]⟩), (.bool false)] 94)) := (Keep.refl _ _).alloc _
   have gb33 : Ce2 (w32.alloc (.cells #[(.string ⟨#[]⟩), (.bool false)] 94)) w32.heap.size (.string ⟨#[]⟩) (.bool false) := ⟨by go_simp, by go_simp⟩
   unfold Ce2 at gb33
   have gf33 : ∀ o, (w32.alloc (.cells #[(.string ⟨#[]⟩), (.bool false)] 94)).frozen? ⟨w32.heap.size, o, none⟩ = false := fun o => by go_simp
   have hG : Hid (w32.heap.size ≠ S ∧ w32.heap.size ≠ W ∧ w30.heap.size ≤ w32.heap.size) := Lib.hid (by have := SA32.out.lt; have h9 : W < w32.heap.size := cell_lt WC32.out.1; have := KR32.out.size; omega)
   have KR33 := Lib.hid (KR32.out.trans (ak.mono (fun x hx => by simp at hx)))
   have SA33 := Lib.hid (SA32.out.keep ak (by simp))
   have WC33 := Lib.hid (WCells.keep WC32.out ak (by simp))
   (try dsimp only)
   refine hK.out _ _ WC33.out.1 (fun hHeld' => ?_)
   clear hK K' hHeld
   have hHeld := hHeld'
   clear hHeld'
   (try go_frame)
   clear KR32 SA32 WC32
   clear ak
   generalize w32.alloc (.cells #[(.string ⟨#[]⟩), (.bool false)] 94) = w33 at KR33 SA33 WC33 gb33 gf33 hHeld ⊢
   refine held_one 3 (by kernel_rfl) rfl (by rfl) (fun K' hK => ?_)
   go_simp
   have ak : Keep [] w33 (w33.alloc (.cells #[.int .u8 b1'.toNat] 5)) := (Keep.refl _ _).alloc _
   have sb34 : (w33.alloc (.cells #[.int .u8 b1'.toNat] 5)).cell? ⟨w33.heap.size, 0, none⟩ = some (.int .u8 b1'.toNat) := by go_simp
   have hQS : w33.heap.size ∉ [S] := by have := SA33.out.lt; simp; omega
   have KR34 := Lib.hid (KR33.out.trans (ak.mono (fun x hx => by simp at hx)))
   have SA34 := Lib.hid (SA33.out.keep ak (by simp))
   have WC34 := Lib.hid (WCells.keep WC33.out ak (by simp))
   have gb34 := bx2 gb33 ak (by simp)
   have gf34 := frk gf33 (cell_lt gb33.1) ak (by simp)
   (try dsimp only)
   refine hK.out _ _ WC34.out.1 (fun hHeld' => ?_)
   clear hK K' hHeld
   have hHeld := hHeld'
   clear hHeld'
   (try go_frame)
   clear KR33 SA33 WC33 gb33 gf33
   clear ak
   generalize w33.alloc (.cells #[.int .u8 b1'.toNat] 5) = w34 at KR34 SA34 WC34 gb34 gf34 sb34 hHeld ⊢
   refine held_one 4 (by kernel_rfl) rfl (by rfl) (fun K' hK => ?_)
   have hcv := conv_at b1' sb34
   rw [← HTP.out] at hcv
   go_simp
   clear hcv sb34
   (try dsimp only)
   refine hK.out _ _ WC34.out.1 (fun hHeld' => ?_)
   clear hK K' hHeld
   have hHeld := hHeld'
   clear hHeld'
   (try go_frame)
   refine held_take 5 (v := ?vv68) (by kernel_rfl) rfl (by rfl) (by kernel_rfl) (by kernel_rfl) (fun _ _ _ h => hQp _ _ _ _ _ h) ?hyy68 (by assumption) ?rest68
   case hyy68 => (intro w hSw; (try dsimp only at hSw); go_simp; (try with_reducible rfl))
   (try go_frame)
   refine held_take 12 (v := ?vv69) (by kernel_rfl) rfl (by rfl) (by kernel_rfl) (by kernel_rfl) (fun _ _ _ h => hQp _ _ _ _ _ h) ?hyy69 (by assumption) ?rest69
   case hyy69 => (intro w hSw; (try dsimp only at hSw); go_simp; (try with_reducible rfl))
   (try go_frame)
   refine held_one 14 (by kernel_rfl) rfl (by rfl) (fun K' hK => ?_)
   go_simp
   have hgk : Keep [w32.heap.size] w34 ((w34.setCell ⟨w32.heap.size, 0, none⟩ (.string nmp)).setCell ⟨w32.heap.size, 1, none⟩ (.bool (decide (0 < z)))) := (((Keep.refl [w32.heap.size] w34).setCell (p := ⟨w32.heap.size, 0, none⟩) (.inl (List.mem_singleton.2 rfl)) (.string nmp)).setCell (p := ⟨w32.heap.size, 1, none⟩) (.inl (List.mem_singleton.2 rfl)) (.bool (decide (0 < z))))
   have WC35 := Lib.hid (WCells.keep WC34.out hgk (by have := hG.out; simp; omega))
   (try dsimp only)
   refine hK.out _ _ WC35.out.1 (fun hHeld' => ?_)
   clear hK K' hHeld
   have hHeld := hHeld'
   clear hHeld'
   (try go_frame)
   clear hHeld
   refine wpAnyH_done (by kernel_rfl) ?_ _
   go_wp2_with fail
   go_meet
   have k3 := KR34.out.grow hgk (fun x hx => by have := hG.out; simp at hx; omega)
   have hFl3 : F < w30.heap.size := cell_lt FB30.out.1
   have hFS3 : F ∉ [S] := by have := HF.out; simp; omega
   case rel => exact ⟨w32.heap.size, decide (0 < z), rfl, KR30.out.trans k3, SA34.out.keep hgk (by have := hG.out; simp; omega), WC35.out, bx3 FB30.out k3 hFS3, frk FF30.out hFl3 k3 hFS3, ownsRow_keepD PR30.out k3 (fun g hg hm => by simp at hm; subst hm; have := owns_lt PR30.out (ownB_mem.1 hg); have := HSR.out; omega), ⟨by go_simp, by go_simp⟩, hG.out.1, hG.out.2.1, Nat.le_trans KR30.out.size hG.out.2.2, by have := hG.out; omega, fun hm => by have := owns_lt_size PR30.out (ownB_mem.1 hm); have := hG.out; omega⟩
 ·go_simp
  have ak : Keep [] w31 (w31.alloc (.cells #[(.string ⟨#[]⟩), (.bool false)] 94)) := (Keep.refl _ _).alloc _
  have gb32 : Ce2 (w31.alloc (.cells #[(.string ⟨#[]⟩), (.bool false)] 94)) w31.heap.size (.string ⟨#[]⟩) (.bool false) := ⟨by go_simp, by go_simp⟩
  unfold Ce2 at gb32
  have gf32 : ∀ o, (w31.alloc (.cells #[(.string ⟨#[]⟩), (.bool false)] 94)).frozen? ⟨w31.heap.size, o, none⟩ = false := fun o => by go_simp
  have hG : Hid (w31.heap.size ≠ S ∧ w31.heap.size ≠ W ∧ w30.heap.size ≤ w31.heap.size) := Lib.hid (by have := SA31.out.lt; have h9 : W < w31.heap.size := cell_lt WC31.out.1; have := KR31.out.size; omega)
  have KR32 := Lib.hid (KR31.out.trans (ak.mono (fun x hx => by simp at hx)))
  have SA32 := Lib.hid (SA31.out.keep ak (by simp))
  have WC32 := Lib.hid (WCells.keep WC31.out ak (by simp))
  (try dsimp only)
  refine hK.out _ _ WC32.out.1 (fun hHeld' => ?_)
  clear hK K' hHeld
  have hHeld := hHeld'
  clear hHeld'
  (try go_frame)
  clear KR31 SA31 WC31
  clear ak
  generalize w31.alloc (.cells #[(.string ⟨#[]⟩), (.bool false)] 94) = w32 at KR32 SA32 WC32 gb32 gf32 hHeld ⊢
  refine held_pair 3 10 (by kernel_rfl) rfl rfl (by rfl) (by rfl) (fun K' hK => ?_) (fun K' hK => ?_)
  ·go_simp
   have ak : Keep [] w32 (w32.alloc (.cells #[.int .u8 b1'.toNat] 5)) := (Keep.refl _ _).alloc _
   have sb33 : (w32.alloc (.cells #[.int .u8 b1'.toNat] 5)).cell? ⟨w32.heap.size, 0, none⟩ = some (.int .u8 b1'.toNat) := by go_simp
   have hQS : w32.heap.size ∉ [S] := by have := SA32.out.lt; simp; omega
   have KR33 := Lib.hid (KR32.out.trans (ak.mono (fun x hx => by simp at hx)))
   have SA33 := Lib.hid (SA32.out.keep ak (by simp))
   have WC33 := Lib.hid (WCells.keep WC32.out ak (by simp))
   have gb33 := bx2 gb32 ak (by simp)
   have gf33 := frk gf32 (cell_lt gb32.1) ak (by simp)
   (try dsimp only)
   refine hK.out _ _ WC33.out.1 (fun hHeld' => ?_)
   clear hK K' hHeld
   have hHeld := hHeld'
   clear hHeld'
   (try go_frame)
   clear KR32 SA32 WC32 gb32 gf32
   clear ak
   generalize w32.alloc (.cells #[.int .u8 b1'.toNat] 5) = w33 at KR33 SA33 WC33 gb33 gf33 sb33 hHeld ⊢
   refine held_pair 4 10 (by kernel_rfl) rfl rfl (by rfl) (by rfl) (fun K' hK => ?_) (fun K' hK => ?_)
   ·have hcv := conv_at b1' sb33
    rw [← HTP.out] at hcv
    go_simp
    clear hcv sb33
    (try dsimp only)
    refine hK.out _ _ WC33.out.1 (fun hHeld' => ?_)
    clear hK K' hHeld
    have hHeld := hHeld'
    clear hHeld'
    (try go_frame)
    refine held_take 5 (v := ?vv70) (by kernel_rfl) rfl (by rfl) (by kernel_rfl) (by kernel_rfl) (fun _ _ _ h => hQp _ _ _ _ _ h) ?hyy70 (by assumption) ?rest70
    case hyy70 => (intro w hSw; (try dsimp only at hSw); go_simp; (try with_reducible rfl))
    (try go_frame)
    refine held_one 10 (by kernel_rfl) rfl (by rfl) (fun K' hK => ?_)
    go_simp
    refine (next_at 3 l a c2 S w33 SA33.out (HRT.out _ KR33.out SA33.out) (by omega) (by omega) (by omega)).mono ?_
    intro e w34 hq
    obtain ⟨z, rfl, z0, z1, sa, hk34⟩ := NextAt.out hq
    clear hq
    have KR34 := Lib.hid (KR33.out.trans hk34)
    have SA34 := Lib.hid (sa)
    have WC34 := Lib.hid (WCells.keep WC33.out hk34 (by have := SL.out; simp; omega))
    have gb34 := bx2 gb33 hk34 (by have := hG.out; simp; omega)
    have gf34 := frk gf33 (cell_lt gb33.1) hk34 (by have := hG.out; simp; omega)
    (try dsimp only)
    refine hK.out _ _ WC34.out.1 (fun hHeld' => ?_)
    clear hK K' hHeld
    have hHeld := hHeld'
    clear hHeld'
    (try go_frame)
    clear KR33 SA33 WC33 gb33 gf33
    clear hk34 sa
    refine held_take 11 (v := ?vv71) (by kernel_rfl) rfl (by rfl) (by kernel_rfl) (by kernel_rfl) (fun _ _ _ h => hQp _ _ _ _ _ h) ?hyy71 (by assumption) ?rest71
    case hyy71 => (intro w hSw; (try dsimp only at hSw); go_simp; (try with_reducible rfl))
    (try go_frame)
    refine held_take 12 (v := ?vv72) (by kernel_rfl) rfl (by rfl) (by kernel_rfl) (by kernel_rfl) (fun _ _ _ h => hQp _ _ _ _ _ h) ?hyy72 (by assumption) ?rest72
    case hyy72 => (intro w hSw; (try dsimp only at hSw); go_simp; (try with_reducible rfl))
    (try go_frame)
    refine held_one 14 (by kernel_rfl) rfl (by rfl) (fun K' hK => ?_)
    go_simp
    have hgk : Keep [w31.heap.size] w34 ((w34.setCell ⟨w31.heap.size, 0, none⟩ (.string nmp)).setCell ⟨w31.heap.size, 1, none⟩ (.bool (decide (0 < z)))) := (((Keep.refl [w31.heap.size] w34).setCell (p := ⟨w31.heap.size, 0, none⟩) (.inl (List.mem_singleton.2 rfl)) (.string nmp)).setCell (p := ⟨w31.heap.size, 1, none⟩) (.inl (List.mem_singleton.2 rfl)) (.bool (decide (0 < z))))
    have WC35 := Lib.hid (WCells.keep WC34.out hgk (by have := hG.out; simp; omega))
    (try dsimp only)
    refine hK.out _ _ WC35.out.1 (fun hHeld' => ?_)
    clear hK K' hHeld
    have hHeld := hHeld'
    clear hHeld'
    (try go_frame)
    clear hHeld
    refine wpAnyH_done (by kernel_rfl) ?_ _
    go_wp2_with fail
    go_meet
    have k3 := KR34.out.grow hgk (fun x hx => by have := hG.out; simp at hx; omega)
    have hFl3 : F < w30.heap.size := cell_lt FB30.out.1
    have hFS3 : F ∉ [S] := by have := HF.out; simp; omega
    case rel => exact ⟨w31.heap.size, decide (0 < z), rfl, KR30.out.trans k3, SA34.out.keep hgk (by have := hG.out; simp; omega), WC35.out, bx3 FB30.out k3 hFS3, frk FF30.out hFl3 k3 hFS3, ownsRow_keepD PR30.out k3 (fun g hg hm => by simp at hm; subst hm; have := owns_lt PR30.out (ownB_mem.1 hg); have := HSR.out; omega), ⟨by go_simp, by go_simp⟩, hG.out.1, hG.out.2.1, Nat.le_trans KR30.out.size hG.out.2.2, by have := hG.out; omega, fun hm => by have := owns_lt_size PR30.out (ownB_mem.1 hm); have := hG.out; omega⟩
   ·go_simp
    refine (next_at 3 l a c2 S w33 SA33.out (HRT.out _ KR33.out SA33.out) (by omega) (by omega) (by omega)).mono ?_
    intro e w34 hq
    obtain ⟨z, rfl, z0, z1, sa, hk34⟩ := NextAt.out hq
    clear hq
    have KR34 := Lib.hid (KR33.out.trans hk34)
    have SA34 := Lib.hid (sa)
    have WC34 := Lib.hid (WCells.keep WC33.out hk34 (by have := SL.out; simp; omega))
    have gb34 := bx2 gb33 hk34 (by have := hG.out; simp; omega)
    have gf34 := frk gf33 (cell_lt gb33.1) hk34 (by have := hG.out; simp; omega)
    have sb34 := bx1 sb33 hk34 hQS
    (try dsimp only)
    refine hK.out _ _ WC34.out.1 (fun hHeld' => ?_)
    clear hK K' hHeld
    have hHeld := hHeld'
    clear hHeld'
    (try go_frame)
    clear KR33 SA33 WC33 gb33 gf33 sb33
    clear hk34 sa
    refine held_take 11 (v := ?vv73) (by kernel_rfl) rfl (by rfl) (by kernel_rfl) (by kernel_rfl) (fun _ _ _ h => hQp _ _ _ _ _ h) ?hyy73 (by assumption) ?rest73
    case hyy73 => (intro w hSw; (try dsimp only at hSw); go_simp; (try with_reducible rfl))
    (try go_frame)
    refine held_one 4 (by kernel_rfl) rfl (by rfl) (fun K' hK => ?_)
    have hcv := conv_at b1' sb34
    rw [← HTP.out] at hcv
    go_simp
    clear hcv sb34
    (try dsimp only)
    refine hK.out _ _ WC34.out.1 (fun hHeld' => ?_)
    clear hK K' hHeld
    have hHeld := hHeld'
    clear hHeld'
    (try go_frame)
    refine held_take 5 (v := ?vv74) (by kernel_rfl) rfl (by rfl) (by kernel_rfl) (by kernel_rfl) (fun _ _ _ h => hQp _ _ _ _ _ h) ?hyy74 (by assumption) ?rest74
    case hyy74 => (intro w hSw; (try dsimp only at hSw); go_simp; (try with_reducible rfl))
    (try go_frame)
    refine held_take 12 (v := ?vv75) (by kernel_rfl) rfl (by rfl) (by kernel_rfl) (by kernel_rfl) (fun _ _ _ h => hQp _ _ _ _ _ h) ?hyy75 (by assumption) ?rest75
    case hyy75 => (intro w hSw; (try dsimp only at hSw); go_simp; (try with_reducible rfl))
    (try go_frame)
    refine held_one 14 (by kernel_rfl) rfl (by rfl) (fun K' hK => ?_)
    go_simp
    have hgk : Keep [w31.heap.size] w34 ((w34.setCell ⟨w31.heap.size, 0, none⟩ (.string nmp)).setCell ⟨w31.heap.size, 1, none⟩ (.bool (decide (0 < z)))) := (((Keep.refl [w31.heap.size] w34).setCell (p := ⟨w31.heap.size, 0, none⟩) (.inl (List.mem_singleton.2 rfl)) (.string nmp)).setCell (p := ⟨w31.heap.size, 1, none⟩) (.inl (List.mem_singleton.2 rfl)) (.bool (decide (0 < z))))
    have WC35 := Lib.hid (WCells.keep WC34.out hgk (by have := hG.out; simp; omega))
    (try dsimp only)
    refine hK.out _ _ WC35.out.1 (fun hHeld' => ?_)
    clear hK K' hHeld
    have hHeld := hHeld'
    clear hHeld'
    (try go_frame)
    clear hHeld
    refine wpAnyH_done (by kernel_rfl) ?_ _
    go_wp2_with fail
    go_meet
    have k3 := KR34.out.grow hgk (fun x hx => by have := hG.out; simp at hx; omega)
    have hFl3 : F < w30.heap.size := cell_lt FB30.out.1
    have hFS3 : F ∉ [S] := by have := HF.out; simp; omega
    case rel => exact ⟨w31.heap.size, decide (0 < z), rfl, KR30.out.trans k3, SA34.out.keep hgk (by have := hG.out; simp; omega), WC35.out, bx3 FB30.out k3 hFS3, frk FF30.out hFl3 k3 hFS3, ownsRow_keepD PR30.out k3 (fun g hg hm => by simp at hm; subst hm; have := owns_lt PR30.out (ownB_mem.1 hg); have := HSR.out; omega), ⟨by go_simp, by go_simp⟩, hG.out.1, hG.out.2.1, Nat.le_trans KR30.out.size hG.out.2.2, by have := hG.out; omega, fun hm => by have := owns_lt_size PR30.out (ownB_mem.1 hm); have := hG.out; omega⟩
  ·go_simp
   refine (next_at 3 l a c2 S w32 SA32.out (HRT.out _ KR32.out SA32.out) (by omega) (by omega) (by omega)).mono ?_
   intro e w33 hq
   obtain ⟨z, rfl, z0, z1, sa, hk33⟩ := NextAt.out hq
   clear hq
   have KR33 := Lib.hid (KR32.out.trans hk33)
   have SA33 := Lib.hid (sa)
   have WC33 := Lib.hid (WCells.keep WC32.out hk33 (by have := SL.out; simp; omega))
   have gb33 := bx2 gb32 hk33 (by have := hG.out; simp; omega)
   have gf33 := frk gf32 (cell_lt gb32.1) hk33 (by have := hG.out; simp; omega)
   (try dsimp only)
   refine hK.out _ _ WC33.out.1 (fun hHeld' => ?_)
   clear hK K' hHeld
   have hHeld := hHeld'
   clear hHeld'
   (try go_frame)
   clear KR32 SA32 WC32 gb32 gf32
   clear hk33 sa
   refine held_take 11 (v := ?vv76) (by kernel_rfl) rfl (by rfl) (by kernel_rfl) (by kernel_rfl) (fun _ _ _ h => hQp _ _ _ _ _ h) ?hyy76 (by assumption) ?rest76
   case hyy76 => (intro w hSw; (try dsimp only at hSw); go_simp; (try with_reducible rfl))
   (try go_frame)
   refine held_one 3 (by kernel_rfl) rfl (by rfl) (fun K' hK => ?_)
   go_simp
   have ak : Keep [] w33 (w33.alloc (.cells #[.int .u8 b1'.toNat] 5)) := (Keep.refl _ _).alloc _
   have sb34 : (w33.alloc (.cells #[.int .u8 b1'.toNat] 5)).cell? ⟨w33.heap.size, 0, none⟩ = some (.int .u8 b1'.toNat) := by go_simp
   have hQS : w33.heap.size ∉ [S] := by have := SA33.out.lt; simp; omega
   have KR34 := Lib.hid (KR33.out.trans (ak.mono (fun x hx => by simp at hx)))
   have SA34 := Lib.hid (SA33.out.keep ak (by simp))
   have WC34 := Lib.hid (WCells.keep WC33.out ak (by simp))
   have gb34 := bx2 gb33 ak (by simp)
   have gf34 := frk gf33 (cell_lt gb33.1) ak (by simp)
   (try dsimp only)
   refine hK.out _ _ WC34.out.1 (fun hHeld' => ?_)
   clear hK K' hHeld
   have hHeld := hHeld'
   clear hHeld'
   (try go_frame)
   clear KR33 SA33 WC33 gb33 gf33
   clear ak
   generalize w33.alloc (.cells #[.int .u8 b1'.toNat] 5) = w34 at KR34 SA34 WC34 gb34 gf34 sb34 hHeld ⊢
   refine held_one 4 (by kernel_rfl) rfl (by rfl) (fun K' hK => ?_)
   have hcv := conv_at b1' sb34
   rw [← HTP.out] at hcv
   go_simp
   clear hcv sb34
   (try dsimp only)
   refine hK.out _ _ WC34.out.1 (fun hHeld' => ?_)
   clear hK K' hHeld
   have hHeld := hHeld'
   clear hHeld'
   (try go_frame)
   refine held_take 5 (v := ?vv77) (by kernel_rfl) rfl (by rfl) (by kernel_rfl) (by kernel_rfl) (fun _ _ _ h => hQp _ _ _ _ _ h) ?hyy77 (by assumption) ?rest77
   case hyy77 => (intro w hSw; (try dsimp only at hSw); go_simp; (try with_reducible rfl))
   (try go_frame)
   refine held_take 12 (v := ?vv78) (by kernel_rfl) rfl (by rfl) (by kernel_rfl) (by kernel_rfl) (fun _ _ _ h => hQp _ _ _ _ _ h) ?hyy78 (by assumption) ?rest78
   case hyy78 => (intro w hSw; (try dsimp only at hSw); go_simp; (try with_reducible rfl))
   (try go_frame)
   refine held_one 14 (by kernel_rfl) rfl (by rfl) (fun K' hK => ?_)
   go_simp
   have hgk : Keep [w31.heap.size] w34 ((w34.setCell ⟨w31.heap.size, 0, none⟩ (.string nmp)).setCell ⟨w31.heap.size, 1, none⟩ (.bool (decide (0 < z)))) := (((Keep.refl [w31.heap.size] w34).setCell (p := ⟨w31.heap.size, 0, none⟩) (.inl (List.mem_singleton.2 rfl)) (.string nmp)).setCell (p := ⟨w31.heap.size, 1, none⟩) (.inl (List.mem_singleton.2 rfl)) (.bool (decide (0 < z))))
   have WC35 := Lib.hid (WCells.keep WC34.out hgk (by have := hG.out; simp; omega))
   (try dsimp only)
   refine hK.out _ _ WC35.out.1 (fun hHeld' => ?_)
   clear hK K' hHeld
   have hHeld := hHeld'
   clear hHeld'
   (try go_frame)
   clear hHeld
   refine wpAnyH_done (by kernel_rfl) ?_ _
   go_wp2_with fail
   go_meet
   have k3 := KR34.out.grow hgk (fun x hx => by have := hG.out; simp at hx; omega)
   have hFl3 : F < w30.heap.size := cell_lt FB30.out.1
   have hFS3 : F ∉ [S] := by have := HF.out; simp; omega
   case rel => exact ⟨w31.heap.size, decide (0 < z), rfl, KR30.out.trans k3, SA34.out.keep hgk (by have := hG.out; simp; omega), WC35.out, bx3 FB30.out k3 hFS3, frk FF30.out hFl3 k3 hFS3, ownsRow_keepD PR30.out k3 (fun g hg hm => by simp at hm; subst hm; have := owns_lt PR30.out (ownB_mem.1 hg); have := HSR.out; omega), ⟨by go_simp, by go_simp⟩, hG.out.1, hG.out.2.1, Nat.le_trans KR30.out.size hG.out.2.2, by have := hG.out; omega, fun hm => by have := owns_lt_size PR30.out (ownB_mem.1 hm); have := hG.out; omega⟩
end Go.Proofs.YtlbocidcjmehfaaDoor
