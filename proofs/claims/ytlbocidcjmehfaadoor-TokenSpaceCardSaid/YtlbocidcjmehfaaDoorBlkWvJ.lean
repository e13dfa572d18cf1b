import Derived.Test.YtlbocidcjmehfaaDoorBlk2J
import Derived.Maps.RangeWalk
import Derived.Test.YtlbocidcjmehfaaDoorA1J
set_option linter.unusedVariables false
set_option linter.unusedSimpArgs false
namespace Go.Proofs.YtlbocidcjmehfaaDoor
open Go.RowKit
set_option maxRecDepth 100000 in
set_option maxHeartbeats 8000000 in
theorem blk_v (ms : List AMutex) (fs : List Sig) (ps : List AParam) (fn : ByteArray) (ma pa ba : Option Addr) (fb fo mc pc fc bn bc S W : Nat) (vg : Value) (ar : Bool) (hm1 : 1 ≤ ms.length) (hm2 : ms.length ≤ 1000) (hf1 : 1 ≤ fs.length) (hf2 : fs.length ≤ 1000) (hp2 : ps.length ≤ 1000) (L deep : Nat) (hd : deep ≤ 100) (most : Nat) (hmost : most ≤ 1000) (vars : List ByteArray) (vv : Value) (hvl : vars.length + L ≤ 1000) (H : List Nat) (w : World) (IHZ : Hid (∀ (m : Nat), m < L → ∀ (zd zm : Int) (deep : Nat), zd = deep → deep ≤ 100 → ∀ (most : Nat), most ≤ 1000 → zm = most → ∀ (vars : List ByteArray) (vv : Value), vars.length + m ≤ 1000 → ∀ (H : List Nat) (w : World), BlkIn ms fs ps ma pa (some ⟨fb, fo, none⟩) mc pc fc H S W vg ar vars vv m w → Calls Tryd.prog 51 #[.pointer (some ⟨W, 0, none⟩), .agg #[.string fn, .slice pa ps.length pc, .slice ba bn bc], vv, .int .i64 zd, .int .i64 zm] w (BlkOk ms fs ps (.slice ma ms.length mc) (.slice (some ⟨fb, fo, none⟩) fs.length fc) H S W vg ar vars deep m w))) (HIN : Hid (BlkIn ms fs ps ma pa (some ⟨fb, fo, none⟩) mc pc fc H S W vg ar vars vv L w)) (HHw : Hid (∀ (x : Nat), x ∈ H → x < w.heap.size)) (HFP : Hid (∀ (g : Sig), g ∈ fs → g.2.length ≤ 1000)) (HMZ : Hid (∀ (m : AMutex), m ∈ ms → m.size ≤ 1000)) (hSl : S < w.heap.size) (hWl : W < w.heap.size) (HWS : Hid (W ≠ S)) (W2 : World) (HW2S : Hid (W2.heap.size = w.heap.size + 1)) (HBW : Hid (Below w.heap.size w W2)) (HKI : Hid (Keep [S, W] w W2)) (u0 : Value) (w1 : World) (ST0 : Hid (BlSt H S W (w.heap.size + 1) vg (.slice ma ms.length mc) (.slice (some ⟨fb, fo, none⟩) fs.length fc) ar W2 vars u0 [] (.slice none 0 0) L w1)) (n0 : Nat) (c20 c21 c22 c23 c24 c25 c26 y15 y16 y27 y28 y29 y30 y31 y32 y33 y34 y35 y36 y37 y38 y39 y40 y41 y42 y43 y44 y45 y46 y47 y48 y49 y50 y51 y52 y53 y54 y55 y56 y57 y58 y59 y60 y61 y62 y63 y64 y65 y66 y67 y68 y69 y70 y71 y72 y73 y74 y75 y76 y77 y78 y79 y80 y81 y82 y83 y84 y85 y86 y87 y88 y89 y90 y91 y92 y93 y94 y95 y96 y97 y98 y99 y100 y101 y102 y103 y104 y105 y106 y107 y108 y109 y110 y111 y112 y113 y114 y115 y116 y117 y118 y119 y120 y121 y122 y123 y124 y125 y126 y127 y128 y129 y130 y131 y132 y133 y134 y135 y136 y137 y138 y139 y140 y141 y142 y143 y144 y145 y146 y147 y148 y149 y150 y151 y152 y153 y154 y155 y156 y157 y158 y159 y160 y161 y162 y163 y164 y165 y166 y167 y168 y169 y170 y171 y172 y173 y174 y175 y176 y177 y178 y179 y180 y181 y182 y183 y184 y185 y186 y187 y188 y189 y190 y191 y192 y193 y194 y195 y196 y197 y198 y199 y200 y201 y202 y203 y204 y205 y206 y207 y208 y209 y210 y211 y212 y213 y214 y215 y216 y217 y218 y219 y220 y221 y222 y223 y224 y225 y226 y227 y228 y229 y230 y231 y232 y233 y234 y235 y236 y237 y238 y239 y240 y241 y242 y243 y244 y245 y246 y247 : Value) (vs : List ByteArray) (al : List AStmt) (k : Nat) (hk : k ≤ most) (oa : Option Addr) (oc : Nat) (hki : (0 : Int) < (k : Int)) (m : Nat) (hvl2 : vs.length + (m + 1) ≤ 1000) (hlf : m + 1 ≤ L) (hall : al.length + 2 * (m + 1) ≤ 2 * L) (HTO : Hid (BlTo ms fs ps vars deep L vs (m + 1) al)) (T : Nat) (hTW : W2.heap.size ≤ T) (w4 : World) (q : Int) (q0 : 0 ≤ q) (q1 : q < 14) (ST4K : Hid (Keep [S, W] W2 w4)) (hTS : ¬ T ∈ [S]) (tb4 : w4.cell? ⟨T, 0, none⟩ = some (.int .i64 5) ∧ w4.cell? ⟨T, 1, none⟩ = some (.string ⟨#[]⟩) ∧ w4.cell? ⟨T, 2, none⟩ = some (.int .i64 0) ∧ w4.cell? ⟨T, 3, none⟩ = some (.int .i64 0) ∧ w4.cell? ⟨T, 4, none⟩ = some (.string ⟨#[]⟩) ∧ w4.cell? ⟨T, 5, none⟩ = some (.slice none 0 0) ∧ w4.cell? ⟨T, 6, none⟩ = some (.string ⟨#[]⟩) ∧ w4.cell? ⟨T, 7, none⟩ = some (.slice none 0 0) ∧ w4.cell? ⟨T, 8, none⟩ = some (.slice none 0 0) ∧ w4.cell? ⟨T, 9, none⟩ = some (.slice none 0 0) ∧ w4.cell? ⟨T, 10, none⟩ = some (.slice none 0 0) ∧ ∀ o, w4.frozen? ⟨T, o, none⟩ = false) (hFS : ¬ w.heap.size ∈ [S]) (fx4 : w4.cell? ⟨w.heap.size, 0, none⟩ = some (.string fn) ∧ w4.cell? ⟨w.heap.size, 1, none⟩ = some (.slice pa ps.length pc) ∧ w4.cell? ⟨w.heap.size, 2, none⟩ = some (.slice ba bn bc)) (wc4 : w4.cell? ⟨W, 0, none⟩ = some (.pointer (some ⟨S, 0, none⟩)) ∧ w4.cell? ⟨W, 1, none⟩ = some vg ∧ w4.cell? ⟨W, 2, none⟩ = some (.slice ma ms.length mc) ∧ w4.cell? ⟨W, 3, none⟩ = some (.slice (some ⟨fb, fo, none⟩) fs.length fc) ∧ w4.cell? ⟨W, 4, none⟩ = some (.int .i64 m) ∧ w4.cell? ⟨W, 5, none⟩ = some (.bool ar)) (J K' : Act → World → Prop) (hJ : ∀ (a' : Act) (w' : World), (∃ u2 u11 u15 u16 u27 u28 u29 u30 u31 u32 u33 u34 u35 u36 u37 u38 u39 u40 u41 u42 u43 u44 u45 u46 u47 u48 u49 u50 u51 u52 u53 u54 u55 u56 u57 u58 u59 u60 u61 u62 u63 u64 u65 u66 u67 u68 u69 u70 u71 u72 u73 u74 u75 u76 u77 u78 u79 u80 u81 u82 u83 u84 u85 u86 u87 u88 u89 u90 u91 u92 u93 u94 u95 u96 u97 u98 u99 u100 u101 u102 u103 u104 u105 u106 u107 u108 u109 u110 u111 u112 u113 u114 u115 u116 u117 u118 u119 u120 u121 u122 u123 u124 u125 u126 u127 u128 u129 u130 u131 u132 u133 u134 u135 u136 u137 u138 u139 u140 u141 u142 u143 u144 u145 u146 u147 u148 u149 u150 u151 u152 u153 u154 u155 u156 u157 u158 u159 u160 u161 u162 u163 u164 u165 u166 u167 u168 u169 u170 u171 u172 u173 u174 u175 u176 u177 u178 u179 u180 u181 u182 u183 u184 u185 u186 u187 u188 u189 u190 u191 u192 u193 u194 u195 u196 u197 u198 u199 u200 u201 u202 u203 u204 u205 u206 u207 u208 u209 u210 u211 u212 u213 u214 u215 u216 u217 u218 u219 u220 u221 u222 u223 u224 u225 u226 u227 u228 u229 u230 u231 u232 u233 u234 u235 u236 u237 u238 u239 u240 u241 u242 u243 u244 u245 u246 u247, cutR ms fs ps vars deep L H S W (w.heap.size + 1) vg (.slice ma ms.length mc) (.slice (some ⟨fb, fo, none⟩) fs.length fc) ar W2 T u2 u11 w' ∧ a' = ⟨#[.pointer (some ⟨W, 0, none⟩), .agg #[.string fn, .slice pa ps.length pc, .slice ba bn bc], u2, .int .i64 deep, .int .i64 most, undef, .pointer (some ⟨w.heap.size, 0, none⟩), undef, undef, undef, .slice none 0 0, u11, .int .i64 k, .pointer (some ⟨T, 0, none⟩), .int .i64 q, u15, u16, .slice (some ⟨w.heap.size + 1, 0, none⟩) 0 0, vv, u0, c20, c21, c22, c23, c24, c25, c26, u27, u28, u29, u30, u31, u32, u33, u34, u35, u36, u37, u38, u39, u40, u41, u42, u43, u44, u45, u46, u47, u48, u49, u50, u51, u52, u53, u54, u55, u56, u57, u58, u59, u60, u61, u62, u63, u64, u65, u66, u67, u68, u69, u70, u71, u72, u73, u74, u75, u76, u77, u78, u79, u80, u81, u82, u83, u84, u85, u86, u87, u88, u89, u90, u91, u92, u93, u94, u95, u96, u97, u98, u99, u100, u101, u102, u103, u104, u105, u106, u107, u108, u109, u110, u111, u112, u113, u114, u115, u116, u117, u118, u119, u120, u121, u122, u123, u124, u125, u126, u127, u128, u129, u130, u131, u132, u133, u134, u135, u136, u137, u138, u139, u140, u141, u142, u143, u144, u145, u146, u147, u148, u149, u150, u151, u152, u153, u154, u155, u156, u157, u158, u159, u160, u161, u162, u163, u164, u165, u166, u167, u168, u169, u170, u171, u172, u173, u174, u175, u176, u177, u178, u179, u180, u181, u182, u183, u184, u185, u186, u187, u188, u189, u190, u191, u192, u193, u194, u195, u196, u197, u198, u199, u200, u201, u202, u203, u204, u205, u206, u207, u208, u209, u210, u211, u212, u213, u214, u215, u216, u217, u218, u219, u220, u221, u222, u223, u224, u225, u226, u227, u228, u229, u230, u231, u232, u233, u234, u235, u236, u237, u238, u239, u240, u241, u242, u243, u244, u245, u246, u247, undef], []⟩) → J a' w') (hK : ∀ (a' : Act) (w' : World), Met J a' w' → K' a' w') (Q : Exit → Act → World → Prop) (hQp : ∀ c (a : Act) (d : Tmp) (v : Value) (w : World), Q (.panic c) (a.put (some d) v) w → Q (.panic c) a w) (na : Option Addr) (nc : Nat) (ST4 : Hid (BlSt (T :: H) S W (w.heap.size + 1) vg (.slice ma ms.length mc) (.slice (some ⟨fb, fo, none⟩) fs.length fc) ar W2 vs (.slice na vs.length nc) al (.slice oa al.length oc) m w4)) (hFT : ¬ w.heap.size ∈ [T]) (hTF : ¬ T = w.heap.size) (hFT' : ¬ w.heap.size = T) (hTSW : ¬ T ∈ [S, W]) (hFSW : ¬ w.heap.size ∈ [S, W]) (hsT : ∀ (x : Nat), x ∈ [T] → x ∈ ownB (Value.slice oa al.length oc) ++ (ownB (Value.slice na vs.length nc) ++ T :: H)) (hsS : ∀ (x : Nat), x ∈ [S] → x ∈ ownB (Value.slice oa al.length oc) ++ (ownB (Value.slice na vs.length nc) ++ T :: H)) (hsW : ∀ (x : Nat), x ∈ [S, W] → x ∈ ownB (Value.slice oa al.length oc) ++ (ownB (Value.slice na vs.length nc) ++ T :: H)) (hq : q = 7) :
  Code.wp Tryd.prog swCode (Exit.then K' Q) ⟨#[.pointer (some ⟨W, 0, none⟩), .agg #[.string fn, .slice pa ps.length pc, .slice ba bn bc], (.slice na vs.length nc), .int .i64 deep, .int .i64 most, undef, .pointer (some ⟨w.heap.size, 0, none⟩), undef, undef, undef, .slice none 0 0, (.slice oa al.length oc), .int .i64 k, .pointer (some ⟨T, 0, none⟩), .int .i64 q, y15, y16, .slice (some ⟨w.heap.size + 1, 0, none⟩) 0 0, vv, u0, c20, c21, c22, c23, c24, c25, c26, y27, y28, y29, y30, y31, y32, y33, y34, y35, y36, y37, y38, y39, y40, y41, y42, y43, y44, y45, y46, y47, y48, y49, y50, y51, y52, y53, y54, y55, y56, y57, y58, y59, y60, y61, y62, y63, y64, y65, y66, y67, y68, y69, y70, y71, y72, y73, y74, y75, y76, y77, y78, y79, y80, y81, y82, y83, y84, y85, y86, y87, y88, y89, y90, y91, y92, y93, y94, y95, y96, y97, y98, y99, y100, y101, y102, y103, y104, y105, y106, y107, y108, y109, y110, y111, y112, y113, y114, y115, y116, y117, y118, y119, y120, y121, y122, y123, y124, y125, y126, y127, y128, y129, y130, y131, y132, y133, y134, y135, y136, y137, y138, y139, y140, y141, y142, y143, y144, y145, y146, y147, y148, y149, y150, y151, y152, y153, y154, y155, y156, y157, y158, y159, y160, y161, y162, y163, y164, y165, y166, y167, y168, y169, y170, y171, y172, y173, y174, y175, y176, y177, y178, y179, y180, y181, y182, y183, y184, y185, y186, y187, y188, y189, y190, y191, y192, y193, y194, y195, y196, y197, y198, y199, y200, y201, y202, y203, y204, y205, y206, y207, y208, y209, y210, y211, y212, y213, y214, y215, y216, y217, y218, y219, y220, y221, y222, y223, y224, y225, y226, y227, y228, y229, y230, y231, y232, y233, y234, y235, y236, y237, y238, y239, y240, y241, y242, y243, y244, y245, y246, y247, undef], []⟩ w4 := by
 conv => arg 2; whnf
 subst hq
 obtain ⟨i0, hi, hz0, hz1, hz2⟩ := info_parts strInfo
 obtain ⟨i1, hj, hy0, hy1, hy2⟩ := info_parts stmtInfo
 (try dsimp only)
 go_upto_region 19 with fail
 go_cut [] from 90 to 113 (fun wc => ∃ (x : AExpr) (xa : Option Addr) (xc : Nat), MExpr vs 2 x ∧ BlSt (T :: H) S W (w.heap.size + 1) vg (.slice ma ms.length mc) (.slice (some ⟨fb, fo, none⟩) fs.length fc) ar W2 vs (.slice na vs.length nc) al (.slice oa al.length oc) m wc ∧ (wc.cell? ⟨T, 0, none⟩ = some (.int .i64 1) ∧ wc.cell? ⟨T, 1, none⟩ = some (.string (varName m)) ∧ wc.cell? ⟨T, 2, none⟩ = some ((.int .i64 x.op)) ∧ wc.cell? ⟨T, 3, none⟩ = some ((.int .i64 x.num)) ∧ wc.cell? ⟨T, 4, none⟩ = some ((.string x.name)) ∧ wc.cell? ⟨T, 5, none⟩ = some ((.slice xa x.args.length xc)) ∧ wc.cell? ⟨T, 6, none⟩ = some (.string ⟨#[]⟩) ∧ wc.cell? ⟨T, 7, none⟩ = some (.slice none 0 0) ∧ wc.cell? ⟨T, 8, none⟩ = some (.slice none 0 0) ∧ wc.cell? ⟨T, 9, none⟩ = some (.slice none 0 0) ∧ wc.cell? ⟨T, 10, none⟩ = some (.slice none 0 0) ∧ ∀ o, wc.frozen? ⟨T, o, none⟩ = false) ∧ (wc.cell? ⟨w.heap.size, 0, none⟩ = some (.string fn) ∧ wc.cell? ⟨w.heap.size, 1, none⟩ = some (.slice pa ps.length pc) ∧ wc.cell? ⟨w.heap.size, 2, none⟩ = some (.slice ba bn bc)) ∧ ExprRep (hideL (ownB (.slice oa al.length oc) ++ (ownB (.slice na vs.length nc) ++ T :: H)) wc) x [.int .i64 x.op, .int .i64 x.num, .string x.name, .slice xa x.args.length xc])
 case first =>
  have hdr : Keep [] w4 w4.drew := (Keep.refl _ _).drew
  refine wp_region_held_drew (S := fun w' => w'.cell? ⟨W, 4, none⟩ = some (.int .i64 m)) (by kernel_rfl) wc4.2.2.2.2.1 (fun hHeld => ?_)
  have ST5 := Lib.hid (ST4.out.drew)
  have tb5 := tkeep tb4 hdr (by simp)
  have fx5 := fkeep fx4 hdr (by simp)
  have wc5 := ST5.out.wc
  unfold WCells at wc5
  clear hdr tb4 fx4 wc4
  generalize w4.drew = w5 at ST5 tb5 fx5 wc5 hHeld ⊢
  have hWT : W ∉ [T] := by have := ST0.out.hW; simp; omega
  refine held_take 0 (v := ?vv35) (by kernel_rfl) rfl (by rfl) (by kernel_rfl) (by kernel_rfl) (fun _ _ _ h => hQp _ _ _ _ _ h) ?hyy35 (by assumption) ?rest35
  case hyy35 => (intro w hSw; (try dsimp only at hSw); go_simp; (try with_reducible rfl))
  (try go_frame)
  refine held_take 1 (v := ?vv36) (by kernel_rfl) rfl (by rfl) (by kernel_rfl) (by kernel_rfl) (fun _ _ _ h => hQp _ _ _ _ _ h) ?hyy36 (by assumption) ?rest36
  case hyy36 => (intro w hSw; (try dsimp only at hSw); go_simp; (try with_reducible rfl))
  (try go_frame)
  refine held_take 3 (v := ?vv37) (by kernel_rfl) rfl (by rfl) (by kernel_rfl) (by kernel_rfl) (fun _ _ _ h => hQp _ _ _ _ _ h) ?hyy37 (by assumption) ?rest37
  case hyy37 => (intro w hSw; (try dsimp only at hSw); go_simp; (try with_reducible rfl))
  (try go_frame)
  refine held_take 4 (v := ?vv38) (by kernel_rfl) rfl (by rfl) (by kernel_rfl) (by kernel_rfl) (fun _ _ _ h => hQp _ _ _ _ _ h) ?hyy38 (by assumption) ?rest38
  case hyy38 => (intro w hSw; (try dsimp only at hSw); go_simp; (try with_reducible rfl))
  (try go_frame)
  refine held_take 5 (v := ?vv39) (by kernel_rfl) rfl (by rfl) (by kernel_rfl) (by kernel_rfl) (fun _ _ _ h => hQp _ _ _ _ _ h) ?hyy39 (by assumption) ?rest39
  case hyy39 => (intro w hSw; (try dsimp only at hSw); go_simp; (try with_reducible rfl))
  (try go_frame)
  refine held_take 6 (v := ?vv40) (by kernel_rfl) rfl (by rfl) (by kernel_rfl) (by kernel_rfl) (fun _ _ _ h => hQp _ _ _ _ _ h) ?hyy40 (by assumption) ?rest40
  case hyy40 => (intro w hSw; (try dsimp only at hSw); go_simp; (try with_reducible rfl))
  (try go_frame)
  refine held_take 7 (v := ?vv41) (by kernel_rfl) rfl (by rfl) (by kernel_rfl) (by kernel_rfl) (fun _ _ _ h => hQp _ _ _ _ _ h) ?hyy41 (by assumption) ?rest41
  case hyy41 => (intro w hSw; (try dsimp only at hSw); go_simp; (try with_reducible rfl))
  (try go_frame)
  refine held_take 8 (v := ?vv42) (by kernel_rfl) rfl (by rfl) (by kernel_rfl) (by kernel_rfl) (fun _ _ _ h => hQp _ _ _ _ _ h) ?hyy42 (by assumption) ?rest42
  case hyy42 => (intro w hSw; (try dsimp only at hSw); go_simp; (try with_reducible rfl))
  (try go_frame)
  refine held_take 9 (v := ?vv43) (by kernel_rfl) rfl (by rfl) (by kernel_rfl) (by kernel_rfl) (fun _ _ _ h => hQp _ _ _ _ _ h) ?hyy43 (by assumption) ?rest43
  case hyy43 => (intro w hSw; (try dsimp only at hSw); go_simp; (try with_reducible rfl))
  (try go_frame)
  refine held_take 10 (v := ?vv44) (by kernel_rfl) rfl (by rfl) (by kernel_rfl) (by kernel_rfl) (fun _ _ _ h => hQp _ _ _ _ _ h) ?hyy44 (by assumption) ?rest44
  case hyy44 => (intro w hSw; (try dsimp only at hSw); go_simp; (try with_reducible rfl))
  (try go_frame)
  refine held_take 11 (v := ?vv45) (by kernel_rfl) rfl (by rfl) (by kernel_rfl) (by kernel_rfl) (fun _ _ _ h => hQp _ _ _ _ _ h) ?hyy45 (by assumption) ?rest45
  case hyy45 => (intro w hSw; (try dsimp only at hSw); go_simp; (try with_reducible rfl))
  (try go_frame)
  refine held_take 12 (v := ?vv46) (by kernel_rfl) rfl (by rfl) (by kernel_rfl) (by kernel_rfl) (fun _ _ _ h => hQp _ _ _ _ _ h) ?hyy46 (by assumption) ?rest46
  case hyy46 => (intro w hSw; (try dsimp only at hSw); go_simp; (try with_reducible rfl))
  (try go_frame)
  refine held_take 13 (v := ?vv47) (by kernel_rfl) rfl (by rfl) (by kernel_rfl) (by kernel_rfl) (fun _ _ _ h => hQp _ _ _ _ _ h) ?hyy47 (by assumption) ?rest47
  case hyy47 => (intro w hSw; (try dsimp only at hSw); go_simp; (try with_reducible rfl))
  (try go_frame)
  refine held_take 14 (v := ?vv48) (by kernel_rfl) rfl (by rfl) (by kernel_rfl) (by kernel_rfl) (fun _ _ _ h => hQp _ _ _ _ _ h) ?hyy48 (by assumption) ?rest48
  case hyy48 => (intro w hSw; (try dsimp only at hSw); go_simp; (try with_reducible rfl))
  (try go_frame)
  refine held_take 15 (v := ?vv49) (by kernel_rfl) rfl (by rfl) (by kernel_rfl) (by kernel_rfl) (fun _ _ _ h => hQp _ _ _ _ _ h) ?hyy49 (by assumption) ?rest49
  case hyy49 => (intro w hSw; (try dsimp only at hSw); go_simp; (try with_reducible rfl))
  (try go_frame)
  refine held_take 16 (v := ?vv50) (by kernel_rfl) rfl (by rfl) (by kernel_rfl) (by kernel_rfl) (fun _ _ _ h => hQp _ _ _ _ _ h) ?hyy50 (by assumption) ?rest50
  case hyy50 => (intro w hSw; (try dsimp only at hSw); go_simp; (try with_reducible rfl))
  (try go_frame)
  refine held_take 17 (v := ?vv51) (by kernel_rfl) rfl (by rfl) (by kernel_rfl) (by kernel_rfl) (fun _ _ _ h => hQp _ _ _ _ _ h) ?hyy51 (by assumption) ?rest51
  case hyy51 => (intro w hSw; (try dsimp only at hSw); go_simp; (try with_reducible rfl))
  (try go_frame)
  refine held_take 21 (v := ?vv52) (by kernel_rfl) rfl (by rfl) (by kernel_rfl) (by kernel_rfl) (fun _ _ _ h => hQp _ _ _ _ _ h) ?hyy52 (by assumption) ?rest52
  case hyy52 => (intro w hSw; (try dsimp only at hSw); go_simp; (try with_reducible rfl))
  (try go_frame)
  have hm9 : m ≤ 1000 := by omega
  rw [vbyte1 m, vbyte2 m hm9]
  obtain ⟨b1, hb1⟩ : ∃ b1, b1 = UInt8.ofNat (97 + m % 26) := ⟨_, rfl⟩
  obtain ⟨b2, hb2⟩ : ∃ b2, b2 = UInt8.ofNat (97 + m / 26 % 26) := ⟨_, rfl⟩
  rw [← hb1, ← hb2]
  obtain ⟨t, ht⟩ : ∃ t, t = bytes [b1, b2] := ⟨_, rfl⟩
  have hvn : (⟨#[118]⟩ : ByteArray) ++ t = varName m := by rw [ht, hb1, hb2]; exact bytes_append [118] [_, _]
  have hts : t.size = 2 := by rw [ht]; rfl
  have HT2 := Lib.hid ht
  clear hb1 hb2 ht hm9
  refine held_two 2 18 (by kernel_rfl) rfl rfl (by rfl) (by rfl) (fun K' hK => ?_) (fun K' hK => ?_)
  ·go_simp
   have BI5 := Lib.hid (ST5.out.into HIN.out HBW.out hTW)
   refine (wexpr_any (H := (ownB (.slice oa al.length oc) ++ (ownB (.slice na vs.length nc) ++ T :: H))) (N := [S, W]) (.slice na vs.length nc) BI5.out.src (by simp) BI5.out.hH BI5.out.hv (by omega) BI5.out.wc HWS.out (BI5.out.hH W BI5.out.mem)).mono ?_
   intro e w6 hq
   obtain ⟨⟨x, xa, xc, rfl, xm, xr⟩, hs6, hk6⟩ := hq
   (try dsimp only)
   refine hK.out _ _ (ST5.out.callS hs6 hk6).wc.2.2.2.2.1 (fun hHeld' => ?_)
   clear hK K' hHeld
   have hHeld := hHeld'
   clear hHeld'
   (try go_frame)
   have ST6 := Lib.hid (ST5.out.callS hs6 hk6)
   have tb6 := tkeep tb5 hk6 hTS
   have fx6 := fkeep fx5 hk6 hFS
   have wc6 := ST6.out.wc
   unfold WCells at wc6
   have HK6 := Lib.hid hk6
   clear tb5 fx5 wc5 hs6 hk6
   have XR := Lib.hid xr
   have XM := Lib.hid xm
   clear xr xm
   refine held_two 18 22 (by kernel_rfl) rfl rfl (by rfl) (by rfl) (fun K' hK => ?_) (fun K' hK => ?_)
   ·go_simp
    have ak : Keep [] w6 (w6.alloc (.cells #[.int .u8 b1.toNat, .int .u8 b2.toNat] 5)) := (Keep.refl _ _).alloc _
    (try dsimp only)
    refine hK.out _ _ (ST6.out.alloc _).wc.2.2.2.2.1 (fun hHeld' => ?_)
    clear hK K' hHeld
    have hHeld := hHeld'
    clear hHeld'
    (try go_frame)
    have ST7 := Lib.hid (ST6.out.alloc (.cells #[.int .u8 b1.toNat, .int .u8 b2.toNat] 5))
    have tb7 := tkeep tb6 ak (by simp)
    have fx7 := fkeep fx6 ak (by simp)
    have wc7 := ST7.out.wc
    unfold WCells at wc7
    have sb7 : ((w6.alloc (.cells #[.int .u8 b1.toNat, .int .u8 b2.toNat] 5)).cell? ⟨w6.heap.size, 0, none⟩ = some (.int .u8 b1.toNat) ∧ (w6.alloc (.cells #[.int .u8 b1.toNat, .int .u8 b2.toNat] 5)).cell? ⟨w6.heap.size, 1, none⟩ = some (.int .u8 b2.toNat)) := ⟨by go_simp, by go_simp⟩
    have hQS : w6.heap.size ∉ [S] := by have := ST6.out.hH S ST6.out.mS; simp; omega
    have hQT : w6.heap.size ∉ [T] := by have := ST6.out.hH T (List.mem_cons_self ..); simp; omega
    have XR' := Lib.hid (ExprRep.mono (CT.of_keep ak (fun x hx => by simp at hx)) _ XR.out)
    clear XR
    have XR := XR'
    clear XR'
    clear tb6 fx6 wc6
    generalize w6.alloc (.cells #[.int .u8 b1.toNat, .int .u8 b2.toNat] 5) = w7 at ak ST7 tb7 fx7 wc7 sb7 hHeld XR ⊢
    clear ak
    refine held_two 19 22 (by kernel_rfl) rfl rfl (by rfl) (by rfl) (fun K' hK => ?_) (fun K' hK => ?_)
    ·have hcv := conv_two b1 b2 sb7.1 sb7.2
     rw [← HT2.out] at hcv
     go_simp
     clear hcv
     (try dsimp only)
     refine hK.out _ _ ST7.out.wc.2.2.2.2.1 (fun hHeld' => ?_)
     clear hK K' hHeld
     have hHeld := hHeld'
     clear hHeld'
     (try go_frame)
     refine held_take 20 (v := ?vv65) (by kernel_rfl) rfl (by rfl) (by kernel_rfl) (by kernel_rfl) (fun _ _ _ h => hQp _ _ _ _ _ h) ?hyy65 (by assumption) ?rest65
     case hyy65 => (intro w hSw; (try dsimp only at hSw); go_simp; (try with_reducible rfl))
     (try go_frame)
     refine held_one 22 (by kernel_rfl) rfl (by rfl) (fun K' hK => ?_)
     go_simp
     (try dsimp only)
     refine hK.out _ _ (by rw [(((Keep.refl [T] w7).setCell (p := ⟨T, 0, none⟩) (.inl (List.mem_singleton.2 rfl)) (.int .i64 1))).cell (p := ⟨W, 4, none⟩) (cell_lt wc7.2.2.2.2.1) hWT]; exact wc7.2.2.2.2.1) (fun hHeld' => ?_)
     clear hK K' hHeld
     have hHeld := hHeld'
     clear hHeld'
     (try go_frame)
     have hk8 : Keep [T] w7 (w7.setCell ⟨T, 0, none⟩ (.int .i64 1)) := ((Keep.refl [T] w7).setCell (p := ⟨T, 0, none⟩) (.inl (List.mem_singleton.2 rfl)) (.int .i64 1))
     have ST8 := Lib.hid (ST7.out.boxed hk8 (fun x hx => by simp at hx; subst hx; exact ⟨List.mem_cons_self .., hTW⟩))
     have tb8 : Ce11f (w7.setCell ⟨T, 0, none⟩ (.int .i64 1)) T (.int .i64 1) (.string ⟨#[]⟩) (.int .i64 0) (.int .i64 0) (.string ⟨#[]⟩) (.slice none 0 0) (.string ⟨#[]⟩) (.slice none 0 0) (.slice none 0 0) (.slice none 0 0) (.slice none 0 0) := ⟨by go_simp, by go_simp, by go_simp, by go_simp, by go_simp, by go_simp, by go_simp, by go_simp, by go_simp, by go_simp, by go_simp, fun o => by go_simp⟩
     unfold Ce11f at tb8
     have fx8 := fkeep fx7 hk8 hFT
     have wc8 := ST8.out.wc
     unfold WCells at wc8
     have HK8 := Lib.hid hk8
     clear tb7 fx7 wc7 hk8
     generalize (w7.setCell ⟨T, 0, none⟩ (.int .i64 1)) = w8 at ST8 tb8 fx8 wc8 HK8 hHeld ⊢
     have XR' := Lib.hid (ExprRep.mono (CT.of_keep HK8.out hsT) _ XR.out)
     clear XR
     have XR := XR'
     clear XR'
     refine held_take 23 (v := ?vv66) (by kernel_rfl) rfl (by rfl) (by kernel_rfl) (by kernel_rfl) (fun _ _ _ h => hQp _ _ _ _ _ h) ?hyy66 (by assumption) ?rest66
     case hyy66 => (intro w hSw; (try dsimp only at hSw); go_simp; (try with_reducible rfl))
     (try go_frame)
     refine held_one 24 (by kernel_rfl) rfl (by rfl) (fun K' hK => ?_)
     go_simp
     (try dsimp only)
     refine hK.out _ _ (by rw [((((((Keep.refl [T] w8).setCell (p := ⟨T, 2, none⟩) (.inl (List.mem_singleton.2 rfl)) (.int .i64 x.op)).setCell (p := ⟨T, 3, none⟩) (.inl (List.mem_singleton.2 rfl)) (.int .i64 x.num)).setCell (p := ⟨T, 4, none⟩) (.inl (List.mem_singleton.2 rfl)) (.string x.name)).setCell (p := ⟨T, 5, none⟩) (.inl (List.mem_singleton.2 rfl)) (.slice xa x.args.length xc))).cell (p := ⟨W, 4, none⟩) (cell_lt wc8.2.2.2.2.1) hWT]; exact wc8.2.2.2.2.1) (fun hHeld' => ?_)
     clear hK K' hHeld
     have hHeld := hHeld'
     clear hHeld'
     (try go_frame)
     have hk9 : Keep [T] w8 ((((w8.setCell ⟨T, 2, none⟩ (.int .i64 x.op)).setCell ⟨T, 3, none⟩ (.int .i64 x.num)).setCell ⟨T, 4, none⟩ (.string x.name)).setCell ⟨T, 5, none⟩ (.slice xa x.args.length xc)) := (((((Keep.refl [T] w8).setCell (p := ⟨T, 2, none⟩) (.inl (List.mem_singleton.2 rfl)) (.int .i64 x.op)).setCell (p := ⟨T, 3, none⟩) (.inl (List.mem_singleton.2 rfl)) (.int .i64 x.num)).setCell (p := ⟨T, 4, none⟩) (.inl (List.mem_singleton.2 rfl)) (.string x.name)).setCell (p := ⟨T, 5, none⟩) (.inl (List.mem_singleton.2 rfl)) (.slice xa x.args.length xc))
     have ST9 := Lib.hid (ST8.out.boxed hk9 (fun x hx => by simp at hx; subst hx; exact ⟨List.mem_cons_self .., hTW⟩))
     have tb9 : Ce11f ((((w8.setCell ⟨T, 2, none⟩ (.int .i64 x.op)).setCell ⟨T, 3, none⟩ (.int .i64 x.num)).setCell ⟨T, 4, none⟩ (.string x.name)).setCell ⟨T, 5, none⟩ (.slice xa x.args.length xc)) T (.int .i64 1) (.string ⟨#[]⟩) (.int .i64 x.op) (.int .i64 x.num) (.string x.name) (.slice xa x.args.length xc) (.string ⟨#[]⟩) (.slice none 0 0) (.slice none 0 0) (.slice none 0 0) (.slice none 0 0) := ⟨by go_simp, by go_simp, by go_simp, by go_simp, by go_simp, by go_simp, by go_simp, by go_simp, by go_simp, by go_simp, by go_simp, fun o => by go_simp⟩
     unfold Ce11f at tb9
     have fx9 := fkeep fx8 hk9 hFT
     have wc9 := ST9.out.wc
     unfold WCells at wc9
     have HK9 := Lib.hid hk9
     clear tb8 fx8 wc8 hk9
     generalize ((((w8.setCell ⟨T, 2, none⟩ (.int .i64 x.op)).setCell ⟨T, 3, none⟩ (.int .i64 x.num)).setCell ⟨T, 4, none⟩ (.string x.name)).setCell ⟨T, 5, none⟩ (.slice xa x.args.length xc)) = w9 at ST9 tb9 fx9 wc9 HK9 hHeld ⊢
     have XR' := Lib.hid (ExprRep.mono (CT.of_keep HK9.out hsT) _ XR.out)
     clear XR
     have XR := XR'
     clear XR'
     refine held_take 25 (v := ?vv67) (by kernel_rfl) rfl (by rfl) (by kernel_rfl) (by kernel_rfl) (fun _ _ _ h => hQp _ _ _ _ _ h) ?hyy67 (by assumption) ?rest67
     case hyy67 => (intro w hSw; (try dsimp only at hSw); go_simp; (try with_reducible rfl))
     (try go_frame)
     refine held_one 26 (by kernel_rfl) rfl (by rfl) (fun K' hK => ?_)
     go_simp
     (try dsimp only)
     refine hK.out _ _ (by rw [(((Keep.refl [T] w9).setCell (p := ⟨T, 1, none⟩) (.inl (List.mem_singleton.2 rfl)) (.string (varName m)))).cell (p := ⟨W, 4, none⟩) (cell_lt wc9.2.2.2.2.1) hWT]; exact wc9.2.2.2.2.1) (fun hHeld' => ?_)
     clear hK K' hHeld
     have hHeld := hHeld'
     clear hHeld'
     (try go_frame)
     clear hHeld
     have hk10 : Keep [T] w9 (w9.setCell ⟨T, 1, none⟩ (.string (varName m))) := ((Keep.refl [T] w9).setCell (p := ⟨T, 1, none⟩) (.inl (List.mem_singleton.2 rfl)) (.string (varName m)))
     have ST10 := Lib.hid (ST9.out.boxed hk10 (fun x hx => by simp at hx; subst hx; exact ⟨List.mem_cons_self .., hTW⟩))
     have tb10 : Ce11f (w9.setCell ⟨T, 1, none⟩ (.string (varName m))) T (.int .i64 1) (.string (varName m)) (.int .i64 x.op) (.int .i64 x.num) (.string x.name) (.slice xa x.args.length xc) (.string ⟨#[]⟩) (.slice none 0 0) (.slice none 0 0) (.slice none 0 0) (.slice none 0 0) := ⟨by go_simp, by go_simp, by go_simp, by go_simp, by go_simp, by go_simp, by go_simp, by go_simp, by go_simp, by go_simp, by go_simp, fun o => by go_simp⟩
     unfold Ce11f at tb10
     have fx10 := fkeep fx9 hk10 hFT
     have wc10 := ST10.out.wc
     unfold WCells at wc10
     have HK10 := Lib.hid hk10
     clear tb9 fx9 wc9 hk10
     generalize (w9.setCell ⟨T, 1, none⟩ (.string (varName m))) = w10 at ST10 tb10 fx10 wc10 HK10 ⊢
     have XR' := Lib.hid (ExprRep.mono (CT.of_keep HK10.out hsT) _ XR.out)
     clear XR
     have XR := XR'
     clear XR'
     refine wpAnyH_done (by kernel_rfl) ?_ _
     (try dsimp only)
     go_wp2_with fail
     go_meet
     case rel => exact ⟨x, xa, xc, XM.out, ST10.out, tb10, fx10, XR.out⟩
    ·go_simp
     (try dsimp only)
     refine hK.out _ _ (by rw [(((Keep.refl [T] w7).setCell (p := ⟨T, 0, none⟩) (.inl (List.mem_singleton.2 rfl)) (.int .i64 1))).cell (p := ⟨W, 4, none⟩) (cell_lt wc7.2.2.2.2.1) hWT]; exact wc7.2.2.2.2.1) (fun hHeld' => ?_)
     clear hK K' hHeld
     have hHeld := hHeld'
     clear hHeld'
     (try go_frame)
     have hk8 : Keep [T] w7 (w7.setCell ⟨T, 0, none⟩ (.int .i64 1)) := ((Keep.refl [T] w7).setCell (p := ⟨T, 0, none⟩) (.inl (List.mem_singleton.2 rfl)) (.int .i64 1))
     have ST8 := Lib.hid (ST7.out.boxed hk8 (fun x hx => by simp at hx; subst hx; exact ⟨List.mem_cons_self .., hTW⟩))
     have tb8 : Ce11f (w7.setCell ⟨T, 0, none⟩ (.int .i64 1)) T (.int .i64 1) (.string ⟨#[]⟩) (.int .i64 0) (.int .i64 0) (.string ⟨#[]⟩) (.slice none 0 0) (.string ⟨#[]⟩) (.slice none 0 0) (.slice none 0 0) (.slice none 0 0) (.slice none 0 0) := ⟨by go_simp, by go_simp, by go_simp, by go_simp, by go_simp, by go_simp, by go_simp, by go_simp, by go_simp, by go_simp, by go_simp, fun o => by go_simp⟩
     unfold Ce11f at tb8
     have fx8 := fkeep fx7 hk8 hFT
     have wc8 := ST8.out.wc
     unfold WCells at wc8
     have HK8 := Lib.hid hk8
     have sb8 := qkeep sb7 hk8 hQT
     clear tb7 fx7 wc7 hk8
     generalize (w7.setCell ⟨T, 0, none⟩ (.int .i64 1)) = w8 at ST8 tb8 fx8 wc8 HK8 hHeld sb8 ⊢
     have XR' := Lib.hid (ExprRep.mono (CT.of_keep HK8.out hsT) _ XR.out)
     clear XR
     have XR := XR'
     clear XR'
     refine held_take 23 (v := ?vv60) (by kernel_rfl) rfl (by rfl) (by kernel_rfl) (by kernel_rfl) (fun _ _ _ h => hQp _ _ _ _ _ h) ?hyy60 (by assumption) ?rest60
     case hyy60 => (intro w hSw; (try dsimp only at hSw); go_simp; (try with_reducible rfl))
     (try go_frame)
     refine held_two 19 24 (by kernel_rfl) rfl rfl (by rfl) (by rfl) (fun K' hK => ?_) (fun K' hK => ?_)
     ·have hcv := conv_two b1 b2 sb8.1 sb8.2
      rw [← HT2.out] at hcv
      go_simp
      clear hcv
      (try dsimp only)
      refine hK.out _ _ ST8.out.wc.2.2.2.2.1 (fun hHeld' => ?_)
      clear hK K' hHeld
      have hHeld := hHeld'
      clear hHeld'
      (try go_frame)
      refine held_take 20 (v := ?vv63) (by kernel_rfl) rfl (by rfl) (by kernel_rfl) (by kernel_rfl) (fun _ _ _ h => hQp _ _ _ _ _ h) ?hyy63 (by assumption) ?rest63
      case hyy63 => (intro w hSw; (try dsimp only at hSw); go_simp; (try with_reducible rfl))
      (try go_frame)
      refine held_one 24 (by kernel_rfl) rfl (by rfl) (fun K' hK => ?_)
      go_simp
      (try dsimp only)
      refine hK.out _ _ (by rw [((((((Keep.refl [T] w8).setCell (p := ⟨T, 2, none⟩) (.inl (List.mem_singleton.2 rfl)) (.int .i64 x.op)).setCell (p := ⟨T, 3, none⟩) (.inl (List.mem_singleton.2 rfl)) (.int .i64 x.num)).setCell (p := ⟨T, 4, none⟩) (.inl (List.mem_singleton.2 rfl)) (.string x.name)).setCell (p := ⟨T, 5, none⟩) (.inl (List.mem_singleton.2 rfl)) (.slice xa x.args.length xc))).cell (p := ⟨W, 4, none⟩) (cell_lt wc8.2.2.2.2.1) hWT]; exact wc8.2.2.2.2.1) (fun hHeld' => ?_)
      clear hK K' hHeld
      have hHeld := hHeld'
      clear hHeld'
      (try go_frame)
      have hk9 : Keep [T] w8 ((((w8.setCell ⟨T, 2, none⟩ (.int .i64 x.op)).setCell ⟨T, 3, none⟩ (.int .i64 x.num)).setCell ⟨T, 4, none⟩ (.string x.name)).setCell ⟨T, 5, none⟩ (.slice xa x.args.length xc)) := (((((Keep.refl [T] w8).setCell (p := ⟨T, 2, none⟩) (.inl (List.mem_singleton.2 rfl)) (.int .i64 x.op)).setCell (p := ⟨T, 3, none⟩) (.inl (List.mem_singleton.2 rfl)) (.int .i64 x.num)).setCell (p := ⟨T, 4, none⟩) (.inl (List.mem_singleton.2 rfl)) (.string x.name)).setCell (p := ⟨T, 5, none⟩) (.inl (List.mem_singleton.2 rfl)) (.slice xa x.args.length xc))
      have ST9 := Lib.hid (ST8.out.boxed hk9 (fun x hx => by simp at hx; subst hx; exact ⟨List.mem_cons_self .., hTW⟩))
      have tb9 : Ce11f ((((w8.setCell ⟨T, 2, none⟩ (.int .i64 x.op)).setCell ⟨T, 3, none⟩ (.int .i64 x.num)).setCell ⟨T, 4, none⟩ (.string x.name)).setCell ⟨T, 5, none⟩ (.slice xa x.args.length xc)) T (.int .i64 1) (.string ⟨#[]⟩) (.int .i64 x.op) (.int .i64 x.num) (.string x.name) (.slice xa x.args.length xc) (.string ⟨#[]⟩) (.slice none 0 0) (.slice none 0 0) (.slice none 0 0) (.slice none 0 0) := ⟨by go_simp, by go_simp, by go_simp, by go_simp, by go_simp, by go_simp, by go_simp, by go_simp, by go_simp, by go_simp, by go_simp, fun o => by go_simp⟩
      unfold Ce11f at tb9
      have fx9 := fkeep fx8 hk9 hFT
      have wc9 := ST9.out.wc
      unfold WCells at wc9
      have HK9 := Lib.hid hk9
      clear tb8 fx8 wc8 hk9
      generalize ((((w8.setCell ⟨T, 2, none⟩ (.int .i64 x.op)).setCell ⟨T, 3, none⟩ (.int .i64 x.num)).setCell ⟨T, 4, none⟩ (.string x.name)).setCell ⟨T, 5, none⟩ (.slice xa x.args.length xc)) = w9 at ST9 tb9 fx9 wc9 HK9 hHeld ⊢
      have XR' := Lib.hid (ExprRep.mono (CT.of_keep HK9.out hsT) _ XR.out)
      clear XR
      have XR := XR'
      clear XR'
      refine held_take 25 (v := ?vv64) (by kernel_rfl) rfl (by rfl) (by kernel_rfl) (by kernel_rfl) (fun _ _ _ h => hQp _ _ _ _ _ h) ?hyy64 (by assumption) ?rest64
      case hyy64 => (intro w hSw; (try dsimp only at hSw); go_simp; (try with_reducible rfl))
      (try go_frame)
      refine held_one 26 (by kernel_rfl) rfl (by rfl) (fun K' hK => ?_)
      go_simp
      (try dsimp only)
      refine hK.out _ _ (by rw [(((Keep.refl [T] w9).setCell (p := ⟨T, 1, none⟩) (.inl (List.mem_singleton.2 rfl)) (.string (varName m)))).cell (p := ⟨W, 4, none⟩) (cell_lt wc9.2.2.2.2.1) hWT]; exact wc9.2.2.2.2.1) (fun hHeld' => ?_)
      clear hK K' hHeld
      have hHeld := hHeld'
      clear hHeld'
      (try go_frame)
      clear hHeld
      have hk10 : Keep [T] w9 (w9.setCell ⟨T, 1, none⟩ (.string (varName m))) := ((Keep.refl [T] w9).setCell (p := ⟨T, 1, none⟩) (.inl (List.mem_singleton.2 rfl)) (.string (varName m)))
      have ST10 := Lib.hid (ST9.out.boxed hk10 (fun x hx => by simp at hx; subst hx; exact ⟨List.mem_cons_self .., hTW⟩))
      have tb10 : Ce11f (w9.setCell ⟨T, 1, none⟩ (.string (varName m))) T (.int .i64 1) (.string (varName m)) (.int .i64 x.op) (.int .i64 x.num) (.string x.name) (.slice xa x.args.length xc) (.string ⟨#[]⟩) (.slice none 0 0) (.slice none 0 0) (.slice none 0 0) (.slice none 0 0) := ⟨by go_simp, by go_simp, by go_simp, by go_simp, by go_simp, by go_simp, by go_simp, by go_simp, by go_simp, by go_simp, by go_simp, fun o => by go_simp⟩
      unfold Ce11f at tb10
      have fx10 := fkeep fx9 hk10 hFT
      have wc10 := ST10.out.wc
      unfold WCells at wc10
      have HK10 := Lib.hid hk10
      clear tb9 fx9 wc9 hk10
      generalize (w9.setCell ⟨T, 1, none⟩ (.string (varName m))) = w10 at ST10 tb10 fx10 wc10 HK10 ⊢
      have XR' := Lib.hid (ExprRep.mono (CT.of_keep HK10.out hsT) _ XR.out)
      clear XR
      have XR := XR'
      clear XR'
      refine wpAnyH_done (by kernel_rfl) ?_ _
      (try dsimp only)
      go_wp2_with fail
      go_meet
      case rel => exact ⟨x, xa, xc, XM.out, ST10.out, tb10, fx10, XR.out⟩
     ·go_simp
      (try dsimp only)
      refine hK.out _ _ (by rw [((((((Keep.refl [T] w8).setCell (p := ⟨T, 2, none⟩) (.inl (List.mem_singleton.2 rfl)) (.int .i64 x.op)).setCell (p := ⟨T, 3, none⟩) (.inl (List.mem_singleton.2 rfl)) (.int .i64 x.num)).setCell (p := ⟨T, 4, none⟩) (.inl (List.mem_singleton.2 rfl)) (.string x.name)).setCell (p := ⟨T, 5, none⟩) (.inl (List.mem_singleton.2 rfl)) (.slice xa x.args.length xc))).cell (p := ⟨W, 4, none⟩) (cell_lt wc8.2.2.2.2.1) hWT]; exact wc8.2.2.2.2.1) (fun hHeld' => ?_)
      clear hK K' hHeld
      have hHeld := hHeld'
      clear hHeld'
      (try go_frame)
      have hk9 : Keep [T] w8 ((((w8.setCell ⟨T, 2, none⟩ (.int .i64 x.op)).setCell ⟨T, 3, none⟩ (.int .i64 x.num)).setCell ⟨T, 4, none⟩ (.string x.name)).setCell ⟨T, 5, none⟩ (.slice xa x.args.length xc)) := (((((Keep.refl [T] w8).setCell (p := ⟨T, 2, none⟩) (.inl (List.mem_singleton.2 rfl)) (.int .i64 x.op)).setCell (p := ⟨T, 3, none⟩) (.inl (List.mem_singleton.2 rfl)) (.int .i64 x.num)).setCell (p := ⟨T, 4, none⟩) (.inl (List.mem_singleton.2 rfl)) (.string x.name)).setCell (p := ⟨T, 5, none⟩) (.inl (List.mem_singleton.2 rfl)) (.slice xa x.args.length xc))
      have ST9 := Lib.hid (ST8.out.boxed hk9 (fun x hx => by simp at hx; subst hx; exact ⟨List.mem_cons_self .., hTW⟩))
      have tb9 : Ce11f ((((w8.setCell ⟨T, 2, none⟩ (.int .i64 x.op)).setCell ⟨T, 3, none⟩ (.int .i64 x.num)).setCell ⟨T, 4, none⟩ (.string x.name)).setCell ⟨T, 5, none⟩ (.slice xa x.args.length xc)) T (.int .i64 1) (.string ⟨#[]⟩) (.int .i64 x.op) (.int .i64 x.num) (.string x.name) (.slice xa x.args.length xc) (.string ⟨#[]⟩) (.slice none 0 0) (.slice none 0 0) (.slice none 0 0) (.slice none 0 0) := ⟨by go_simp, by go_simp, by go_simp, by go_simp, by go_simp, by go_simp, by go_simp, by go_simp, by go_simp, by go_simp, by go_simp, fun o => by go_simp⟩
      unfold Ce11f at tb9
      have fx9 := fkeep fx8 hk9 hFT
      have wc9 := ST9.out.wc
      unfold WCells at wc9
      have HK9 := Lib.hid hk9
      have sb9 := qkeep sb8 hk9 hQT
      clear tb8 fx8 wc8 hk9
      generalize ((((w8.setCell ⟨T, 2, none⟩ (.int .i64 x.op)).setCell ⟨T, 3, none⟩ (.int .i64 x.num)).setCell ⟨T, 4, none⟩ (.string x.name)).setCell ⟨T, 5, none⟩ (.slice xa x.args.length xc)) = w9 at ST9 tb9 fx9 wc9 HK9 hHeld sb9 ⊢
      have XR' := Lib.hid (ExprRep.mono (CT.of_keep HK9.out hsT) _ XR.out)
      clear XR
      have XR := XR'
      clear XR'
      refine held_one 19 (by kernel_rfl) rfl (by rfl) (fun K' hK => ?_)
      have hcv := conv_two b1 b2 sb9.1 sb9.2
      rw [← HT2.out] at hcv
      go_simp
      clear hcv
      (try dsimp only)
      refine hK.out _ _ ST9.out.wc.2.2.2.2.1 (fun hHeld' => ?_)
      clear hK K' hHeld
      have hHeld := hHeld'
      clear hHeld'
      (try go_frame)
      refine held_take 20 (v := ?vv61) (by kernel_rfl) rfl (by rfl) (by kernel_rfl) (by kernel_rfl) (fun _ _ _ h => hQp _ _ _ _ _ h) ?hyy61 (by assumption) ?rest61
      case hyy61 => (intro w hSw; (try dsimp only at hSw); go_simp; (try with_reducible rfl))
      (try go_frame)
      refine held_take 25 (v := ?vv62) (by kernel_rfl) rfl (by rfl) (by kernel_rfl) (by kernel_rfl) (fun _ _ _ h => hQp _ _ _ _ _ h) ?hyy62 (by assumption) ?rest62
      case hyy62 => (intro w hSw; (try dsimp only at hSw); go_simp; (try with_reducible rfl))
      (try go_frame)
      refine held_one 26 (by kernel_rfl) rfl (by rfl) (fun K' hK => ?_)
      go_simp
      (try dsimp only)
      refine hK.out _ _ (by rw [(((Keep.refl [T] w9).setCell (p := ⟨T, 1, none⟩) (.inl (List.mem_singleton.2 rfl)) (.string (varName m)))).cell (p := ⟨W, 4, none⟩) (cell_lt wc9.2.2.2.2.1) hWT]; exact wc9.2.2.2.2.1) (fun hHeld' => ?_)
      clear hK K' hHeld
      have hHeld := hHeld'
      clear hHeld'
      (try go_frame)
      clear hHeld
      have hk10 : Keep [T] w9 (w9.setCell ⟨T, 1, none⟩ (.string (varName m))) := ((Keep.refl [T] w9).setCell (p := ⟨T, 1, none⟩) (.inl (List.mem_singleton.2 rfl)) (.string (varName m)))
      have ST10 := Lib.hid (ST9.out.boxed hk10 (fun x hx => by simp at hx; subst hx; exact ⟨List.mem_cons_self .., hTW⟩))
      have tb10 : Ce11f (w9.setCell ⟨T, 1, none⟩ (.string (varName m))) T (.int .i64 1) (.string (varName m)) (.int .i64 x.op) (.int .i64 x.num) (.string x.name) (.slice xa x.args.length xc) (.string ⟨#[]⟩) (.slice none 0 0) (.slice none 0 0) (.slice none 0 0) (.slice none 0 0) := ⟨by go_simp, by go_simp, by go_simp, by go_simp, by go_simp, by go_simp, by go_simp, by go_simp, by go_simp, by go_simp, by go_simp, fun o => by go_simp⟩
      unfold Ce11f at tb10
      have fx10 := fkeep fx9 hk10 hFT
      have wc10 := ST10.out.wc
      unfold WCells at wc10
      have HK10 := Lib.hid hk10
      clear tb9 fx9 wc9 hk10
      generalize (w9.setCell ⟨T, 1, none⟩ (.string (varName m))) = w10 at ST10 tb10 fx10 wc10 HK10 ⊢
      have XR' := Lib.hid (ExprRep.mono (CT.of_keep HK10.out hsT) _ XR.out)
      clear XR
      have XR := XR'
      clear XR'
      refine wpAnyH_done (by kernel_rfl) ?_ _
      (try dsimp only)
      go_wp2_with fail
      go_meet
      case rel => exact ⟨x, xa, xc, XM.out, ST10.out, tb10, fx10, XR.out⟩
   ·go_simp
    (try dsimp only)
    refine hK.out _ _ (by rw [(((Keep.refl [T] w6).setCell (p := ⟨T, 0, none⟩) (.inl (List.mem_singleton.2 rfl)) (.int .i64 1))).cell (p := ⟨W, 4, none⟩) (cell_lt wc6.2.2.2.2.1) hWT]; exact wc6.2.2.2.2.1) (fun hHeld' => ?_)
    clear hK K' hHeld
    have hHeld := hHeld'
    clear hHeld'
    (try go_frame)
    have hk7 : Keep [T] w6 (w6.setCell ⟨T, 0, none⟩ (.int .i64 1)) := ((Keep.refl [T] w6).setCell (p := ⟨T, 0, none⟩) (.inl (List.mem_singleton.2 rfl)) (.int .i64 1))
    have ST7 := Lib.hid (ST6.out.boxed hk7 (fun x hx => by simp at hx; subst hx; exact ⟨List.mem_cons_self .., hTW⟩))
    have tb7 : Ce11f (w6.setCell ⟨T, 0, none⟩ (.int .i64 1)) T (.int .i64 1) (.string ⟨#[]⟩) (.int .i64 0) (.int .i64 0) (.string ⟨#[]⟩) (.slice none 0 0) (.string ⟨#[]⟩) (.slice none 0 0) (.slice none 0 0) (.slice none 0 0) (.slice none 0 0) := ⟨by go_simp, by go_simp, by go_simp, by go_simp, by go_simp, by go_simp, by go_simp, by go_simp, by go_simp, by go_simp, by go_simp, fun o => by go_simp⟩
    unfold Ce11f at tb7
    have fx7 := fkeep fx6 hk7 hFT
    have wc7 := ST7.out.wc
    unfold WCells at wc7
    have HK7 := Lib.hid hk7
    clear tb6 fx6 wc6 hk7
    generalize (w6.setCell ⟨T, 0, none⟩ (.int .i64 1)) = w7 at ST7 tb7 fx7 wc7 HK7 hHeld ⊢
    have XR' := Lib.hid (ExprRep.mono (CT.of_keep HK7.out hsT) _ XR.out)
    clear XR
    have XR := XR'
    clear XR'
    refine held_take 23 (v := ?vv53) (by kernel_rfl) rfl (by rfl) (by kernel_rfl) (by kernel_rfl) (fun _ _ _ h => hQp _ _ _ _ _ h) ?hyy53 (by assumption) ?rest53
    case hyy53 => (intro w hSw; (try dsimp only at hSw); go_simp; (try with_reducible rfl))
    (try go_frame)
    refine held_two 18 24 (by kernel_rfl) rfl rfl (by rfl) (by rfl) (fun K' hK => ?_) (fun K' hK => ?_)
    ·go_simp
     have ak : Keep [] w7 (w7.alloc (.cells #[.int .u8 b1.toNat, .int .u8 b2.toNat] 5)) := (Keep.refl _ _).alloc _
     (try dsimp only)
     refine hK.out _ _ (ST7.out.alloc _).wc.2.2.2.2.1 (fun hHeld' => ?_)
     clear hK K' hHeld
     have hHeld := hHeld'
     clear hHeld'
     (try go_frame)
     have ST8 := Lib.hid (ST7.out.alloc (.cells #[.int .u8 b1.toNat, .int .u8 b2.toNat] 5))
     have tb8 := tkeep tb7 ak (by simp)
     have fx8 := fkeep fx7 ak (by simp)
     have wc8 := ST8.out.wc
     unfold WCells at wc8
     have sb8 : ((w7.alloc (.cells #[.int .u8 b1.toNat, .int .u8 b2.toNat] 5)).cell? ⟨w7.heap.size, 0, none⟩ = some (.int .u8 b1.toNat) ∧ (w7.alloc (.cells #[.int .u8 b1.toNat, .int .u8 b2.toNat] 5)).cell? ⟨w7.heap.size, 1, none⟩ = some (.int .u8 b2.toNat)) := ⟨by go_simp, by go_simp⟩
     have hQS : w7.heap.size ∉ [S] := by have := ST7.out.hH S ST7.out.mS; simp; omega
     have hQT : w7.heap.size ∉ [T] := by have := ST7.out.hH T (List.mem_cons_self ..); simp; omega
     have XR' := Lib.hid (ExprRep.mono (CT.of_keep ak (fun x hx => by simp at hx)) _ XR.out)
     clear XR
     have XR := XR'
     clear XR'
     clear tb7 fx7 wc7
     generalize w7.alloc (.cells #[.int .u8 b1.toNat, .int .u8 b2.toNat] 5) = w8 at ak ST8 tb8 fx8 wc8 sb8 hHeld XR ⊢
     clear ak
     refine held_two 19 24 (by kernel_rfl) rfl rfl (by rfl) (by rfl) (fun K' hK => ?_) (fun K' hK => ?_)
     ·have hcv := conv_two b1 b2 sb8.1 sb8.2
      rw [← HT2.out] at hcv
      go_simp
      clear hcv
      (try dsimp only)
      refine hK.out _ _ ST8.out.wc.2.2.2.2.1 (fun hHeld' => ?_)
      clear hK K' hHeld
      have hHeld := hHeld'
      clear hHeld'
      (try go_frame)
      refine held_take 20 (v := ?vv58) (by kernel_rfl) rfl (by rfl) (by kernel_rfl) (by kernel_rfl) (fun _ _ _ h => hQp _ _ _ _ _ h) ?hyy58 (by assumption) ?rest58
      case hyy58 => (intro w hSw; (try dsimp only at hSw); go_simp; (try with_reducible rfl))
      (try go_frame)
      refine held_one 24 (by kernel_rfl) rfl (by rfl) (fun K' hK => ?_)
      go_simp
      (try dsimp only)
      refine hK.out _ _ (by rw [((((((Keep.refl [T] w8).setCell (p := ⟨T, 2, none⟩) (.inl (List.mem_singleton.2 rfl)) (.int .i64 x.op)).setCell (p := ⟨T, 3, none⟩) (.inl (List.mem_singleton.2 rfl)) (.int .i64 x.num)).setCell (p := ⟨T, 4, none⟩) (.inl (List.mem_singleton.2 rfl)) (.string x.name)).setCell (p := ⟨T, 5, none⟩) (.inl (List.mem_singleton.2 rfl)) (.slice xa x.args.length xc))).cell (p := ⟨W, 4, none⟩) (cell_lt wc8.2.2.2.2.1) hWT]; exact wc8.2.2.2.2.1) (fun hHeld' => ?_)
      clear hK K' hHeld
      have hHeld := hHeld'
      clear hHeld'
      (try go_frame)
      have hk9 : Keep [T] w8 ((((w8.setCell ⟨T, 2, none⟩ (.int .i64 x.op)).setCell ⟨T, 3, none⟩ (.int .i64 x.num)).setCell ⟨T, 4, none⟩ (.string x.name)).setCell ⟨T, 5, none⟩ (.slice xa x.args.length xc)) := (((((Keep.refl [T] w8).setCell (p := ⟨T, 2, none⟩) (.inl (List.mem_singleton.2 rfl)) (.int .i64 x.op)).setCell (p := ⟨T, 3, none⟩) (.inl (List.mem_singleton.2 rfl)) (.int .i64 x.num)).setCell (p := ⟨T, 4, none⟩) (.inl (List.mem_singleton.2 rfl)) (.string x.name)).setCell (p := ⟨T, 5, none⟩) (.inl (List.mem_singleton.2 rfl)) (.slice xa x.args.length xc))
      have ST9 := Lib.hid (ST8.out.boxed hk9 (fun x hx => by simp at hx; subst hx; exact ⟨List.mem_cons_self .., hTW⟩))
      have tb9 : Ce11f ((((w8.setCell ⟨T, 2, none⟩ (.int .i64 x.op)).setCell ⟨T, 3, none⟩ (.int .i64 x.num)).setCell ⟨T, 4, none⟩ (.string x.name)).setCell ⟨T, 5, none⟩ (.slice xa x.args.length xc)) T (.int .i64 1) (.string ⟨#[]⟩) (.int .i64 x.op) (.int .i64 x.num) (.string x.name) (.slice xa x.args.length xc) (.string ⟨#[]⟩) (.slice none 0 0) (.slice none 0 0) (.slice none 0 0) (.slice none 0 0) := ⟨by go_simp, by go_simp, by go_simp, by go_simp, by go_simp, by go_simp, by go_simp, by go_simp, by go_simp, by go_simp, by go_simp, fun o => by go_simp⟩
      unfold Ce11f at tb9
      have fx9 := fkeep fx8 hk9 hFT
      have wc9 := ST9.out.wc
      unfold WCells at wc9
      have HK9 := Lib.hid hk9
      clear tb8 fx8 wc8 hk9
      generalize ((((w8.setCell ⟨T, 2, none⟩ (.int .i64 x.op)).setCell ⟨T, 3, none⟩ (.int .i64 x.num)).setCell ⟨T, 4, none⟩ (.string x.name)).setCell ⟨T, 5, none⟩ (.slice xa x.args.length xc)) = w9 at ST9 tb9 fx9 wc9 HK9 hHeld ⊢
      have XR' := Lib.hid (ExprRep.mono (CT.of_keep HK9.out hsT) _ XR.out)
      clear XR
      have XR := XR'
      clear XR'
      refine held_take 25 (v := ?vv59) (by kernel_rfl) rfl (by rfl) (by kernel_rfl) (by kernel_rfl) (fun _ _ _ h => hQp _ _ _ _ _ h) ?hyy59 (by assumption) ?rest59
      case hyy59 => (intro w hSw; (try dsimp only at hSw); go_simp; (try with_reducible rfl))
      (try go_frame)
      refine held_one 26 (by kernel_rfl) rfl (by rfl) (fun K' hK => ?_)
      go_simp
      (try dsimp only)
      refine hK.out _ _ (by rw [(((Keep.refl [T] w9).setCell (p := ⟨T, 1, none⟩) (.inl (List.mem_singleton.2 rfl)) (.string (varName m)))).cell (p := ⟨W, 4, none⟩) (cell_lt wc9.2.2.2.2.1) hWT]; exact wc9.2.2.2.2.1) (fun hHeld' => ?_)
      clear hK K' hHeld
      have hHeld := hHeld'
      clear hHeld'
      (try go_frame)
      clear hHeld
      have hk10 : Keep [T] w9 (w9.setCell ⟨T, 1, none⟩ (.string (varName m))) := ((Keep.refl [T] w9).setCell (p := ⟨T, 1, none⟩) (.inl (List.mem_singleton.2 rfl)) (.string (varName m)))
      have ST10 := Lib.hid (ST9.out.boxed hk10 (fun x hx => by simp at hx; subst hx; exact ⟨List.mem_cons_self .., hTW⟩))
      have tb10 : Ce11f (w9.setCell ⟨T, 1, none⟩ (.string (varName m))) T (.int .i64 1) (.string (varName m)) (.int .i64 x.op) (.int .i64 x.num) (.string x.name) (.slice xa x.args.length xc) (.string ⟨#[]⟩) (.slice none 0 0) (.slice none 0 0) (.slice none 0 0) (.slice none 0 0) := ⟨by go_simp, by go_simp, by go_simp, by go_simp, by go_simp, by go_simp, by go_simp, by go_simp, by go_simp, by go_simp, by go_simp, fun o => by go_simp⟩
      unfold Ce11f at tb10
      have fx10 := fkeep fx9 hk10 hFT
      have wc10 := ST10.out.wc
      unfold WCells at wc10
      have HK10 := Lib.hid hk10
      clear tb9 fx9 wc9 hk10
      generalize (w9.setCell ⟨T, 1, none⟩ (.string (varName m))) = w10 at ST10 tb10 fx10 wc10 HK10 ⊢
      have XR' := Lib.hid (ExprRep.mono (CT.of_keep HK10.out hsT) _ XR.out)
      clear XR
      have XR := XR'
      clear XR'
      refine wpAnyH_done (by kernel_rfl) ?_ _
      (try dsimp only)
      go_wp2_with fail
      go_meet
      case rel => exact ⟨x, xa, xc, XM.out, ST10.out, tb10, fx10, XR.out⟩
     ·go_simp
      (try dsimp only)
      refine hK.out _ _ (by rw [((((((Keep.refl [T] w8).setCell (p := ⟨T, 2, none⟩) (.inl (List.mem_singleton.2 rfl)) (.int .i64 x.op)).setCell (p := ⟨T, 3, none⟩) (.inl (List.mem_singleton.2 rfl)) (.int .i64 x.num)).setCell (p := ⟨T, 4, none⟩) (.inl (List.mem_singleton.2 rfl)) (.string x.name)).setCell (p := ⟨T, 5, none⟩) (.inl (List.mem_singleton.2 rfl)) (.slice xa x.args.length xc))).cell (p := ⟨W, 4, none⟩) (cell_lt wc8.2.2.2.2.1) hWT]; exact wc8.2.2.2.2.1) (fun hHeld' => ?_)
      clear hK K' hHeld
      have hHeld := hHeld'
      clear hHeld'
      (try go_frame)
      have hk9 : Keep [T] w8 ((((w8.setCell ⟨T, 2, none⟩ (.int .i64 x.op)).setCell ⟨T, 3, none⟩ (.int .i64 x.num)).setCell ⟨T, 4, none⟩ (.string x.name)).setCell ⟨T, 5, none⟩ (.slice xa x.args.length xc)) := (((((Keep.refl [T] w8).setCell (p := ⟨T, 2, none⟩) (.inl (List.mem_singleton.2 rfl)) (.int .i64 x.op)).setCell (p := ⟨T, 3, none⟩) (.inl (List.mem_singleton.2 rfl)) (.int .i64 x.num)).setCell (p := ⟨T, 4, none⟩) (.inl (List.mem_singleton.2 rfl)) (.string x.name)).setCell (p := ⟨T, 5, none⟩) (.inl (List.mem_singleton.2 rfl)) (.slice xa x.args.length xc))
      have ST9 := Lib.hid (ST8.out.boxed hk9 (fun x hx => by simp at hx; subst hx; exact ⟨List.mem_cons_self .., hTW⟩))
      have tb9 : Ce11f ((((w8.setCell ⟨T, 2, none⟩ (.int .i64 x.op)).setCell ⟨T, 3, none⟩ (.int .i64 x.num)).setCell ⟨T, 4, none⟩ (.string x.name)).setCell ⟨T, 5, none⟩ (.slice xa x.args.length xc)) T (.int .i64 1) (.string ⟨#[]⟩) (.int .i64 x.op) (.int .i64 x.num) (.string x.name) (.slice xa x.args.length xc) (.string ⟨#[]⟩) (.slice none 0 0) (.slice none 0 0) (.slice none 0 0) (.slice none 0 0) := ⟨by go_simp, by go_simp, by go_simp, by go_simp, by go_simp, by go_simp, by go_simp, by go_simp, by go_simp, by go_simp, by go_simp, fun o => by go_simp⟩
      unfold Ce11f at tb9
      have fx9 := fkeep fx8 hk9 hFT
      have wc9 := ST9.out.wc
      unfold WCells at wc9
      have HK9 := Lib.hid hk9
      have sb9 := qkeep sb8 hk9 hQT
      clear tb8 fx8 wc8 hk9
      generalize ((((w8.setCell ⟨T, 2, none⟩ (.int .i64 x.op)).setCell ⟨T, 3, none⟩ (.int .i64 x.num)).setCell ⟨T, 4, none⟩ (.string x.name)).setCell ⟨T, 5, none⟩ (.slice xa x.args.length xc)) = w9 at ST9 tb9 fx9 wc9 HK9 hHeld sb9 ⊢
      have XR' := Lib.hid (ExprRep.mono (CT.of_keep HK9.out hsT) _ XR.out)
      clear XR
      have XR := XR'
      clear XR'
      refine held_one 19 (by kernel_rfl) rfl (by rfl) (fun K' hK => ?_)
      have hcv := conv_two b1 b2 sb9.1 sb9.2
      rw [← HT2.out] at hcv
      go_simp
      clear hcv
      (try dsimp only)
      refine hK.out _ _ ST9.out.wc.2.2.2.2.1 (fun hHeld' => ?_)
      clear hK K' hHeld
      have hHeld := hHeld'
      clear hHeld'
      (try go_frame)
      refine held_take 20 (v := ?vv56) (by kernel_rfl) rfl (by rfl) (by kernel_rfl) (by kernel_rfl) (fun _ _ _ h => hQp _ _ _ _ _ h) ?hyy56 (by assumption) ?rest56
      case hyy56 => (intro w hSw; (try dsimp only at hSw); go_simp; (try with_reducible rfl))
      (try go_frame)
      refine held_take 25 (v := ?vv57) (by kernel_rfl) rfl (by rfl) (by kernel_rfl) (by kernel_rfl) (fun _ _ _ h => hQp _ _ _ _ _ h) ?hyy57 (by assumption) ?rest57
      case hyy57 => (intro w hSw; (try dsimp only at hSw); go_simp; (try with_reducible rfl))
      (try go_frame)
      refine held_one 26 (by kernel_rfl) rfl (by rfl) (fun K' hK => ?_)
      go_simp
      (try dsimp only)
      refine hK.out _ _ (by rw [(((Keep.refl [T] w9).setCell (p := ⟨T, 1, none⟩) (.inl (List.mem_singleton.2 rfl)) (.string (varName m)))).cell (p := ⟨W, 4, none⟩) (cell_lt wc9.2.2.2.2.1) hWT]; exact wc9.2.2.2.2.1) (fun hHeld' => ?_)
      clear hK K' hHeld
      have hHeld := hHeld'
      clear hHeld'
      (try go_frame)
      clear hHeld
      have hk10 : Keep [T] w9 (w9.setCell ⟨T, 1, none⟩ (.string (varName m))) := ((Keep.refl [T] w9).setCell (p := ⟨T, 1, none⟩) (.inl (List.mem_singleton.2 rfl)) (.string (varName m)))
      have ST10 := Lib.hid (ST9.out.boxed hk10 (fun x hx => by simp at hx; subst hx; exact ⟨List.mem_cons_self .., hTW⟩))
      have tb10 : Ce11f (w9.setCell ⟨T, 1, none⟩ (.string (varName m))) T (.int .i64 1) (.string (varName m)) (.int .i64 x.op) (.int .i64 x.num) (.string x.name) (.slice xa x.args.length xc) (.string ⟨#[]⟩) (.slice none 0 0) (.slice none 0 0) (.slice none 0 0) (.slice none 0 0) := ⟨by go_simp, by go_simp, by go_simp, by go_simp, by go_simp, by go_simp, by go_simp, by go_simp, by go_simp, by go_simp, by go_simp, fun o => by go_simp⟩
      unfold Ce11f at tb10
      have fx10 := fkeep fx9 hk10 hFT
      have wc10 := ST10.out.wc
      unfold WCells at wc10
      have HK10 := Lib.hid hk10
      clear tb9 fx9 wc9 hk10
      generalize (w9.setCell ⟨T, 1, none⟩ (.string (varName m))) = w10 at ST10 tb10 fx10 wc10 HK10 ⊢
      have XR' := Lib.hid (ExprRep.mono (CT.of_keep HK10.out hsT) _ XR.out)
      clear XR
      have XR := XR'
      clear XR'
      refine wpAnyH_done (by kernel_rfl) ?_ _
      (try dsimp only)
      go_wp2_with fail
      go_meet
      case rel => exact ⟨x, xa, xc, XM.out, ST10.out, tb10, fx10, XR.out⟩
    ·go_simp
     (try dsimp only)
     refine hK.out _ _ (by rw [((((((Keep.refl [T] w7).setCell (p := ⟨T, 2, none⟩) (.inl (List.mem_singleton.2 rfl)) (.int .i64 x.op)).setCell (p := ⟨T, 3, none⟩) (.inl (List.mem_singleton.2 rfl)) (.int .i64 x.num)).setCell (p := ⟨T, 4, none⟩) (.inl (List.mem_singleton.2 rfl)) (.string x.name)).setCell (p := ⟨T, 5, none⟩) (.inl (List.mem_singleton.2 rfl)) (.slice xa x.args.length xc))).cell (p := ⟨W, 4, none⟩) (cell_lt wc7.2.2.2.2.1) hWT]; exact wc7.2.2.2.2.1) (fun hHeld' => ?_)
     clear hK K' hHeld
     have hHeld := hHeld'
     clear hHeld'
     (try go_frame)
     have hk8 : Keep [T] w7 ((((w7.setCell ⟨T, 2, none⟩ (.int .i64 x.op)).setCell ⟨T, 3, none⟩ (.int .i64 x.num)).setCell ⟨T, 4, none⟩ (.string x.name)).setCell ⟨T, 5, none⟩ (.slice xa x.args.length xc)) := (((((Keep.refl [T] w7).setCell (p := ⟨T, 2, none⟩) (.inl (List.mem_singleton.2 rfl)) (.int .i64 x.op)).setCell (p := ⟨T, 3, none⟩) (.inl (List.mem_singleton.2 rfl)) (.int .i64 x.num)).setCell (p := ⟨T, 4, none⟩) (.inl (List.mem_singleton.2 rfl)) (.string x.name)).setCell (p := ⟨T, 5, none⟩) (.inl (List.mem_singleton.2 rfl)) (.slice xa x.args.length xc))
     have ST8 := Lib.hid (ST7.out.boxed hk8 (fun x hx => by simp at hx; subst hx; exact ⟨List.mem_cons_self .., hTW⟩))
     have tb8 : Ce11f ((((w7.setCell ⟨T, 2, none⟩ (.int .i64 x.op)).setCell ⟨T, 3, none⟩ (.int .i64 x.num)).setCell ⟨T, 4, none⟩ (.string x.name)).setCell ⟨T, 5, none⟩ (.slice xa x.args.length xc)) T (.int .i64 1) (.string ⟨#[]⟩) (.int .i64 x.op) (.int .i64 x.num) (.string x.name) (.slice xa x.args.length xc) (.string ⟨#[]⟩) (.slice none 0 0) (.slice none 0 0) (.slice none 0 0) (.slice none 0 0) := ⟨by go_simp, by go_simp, by go_simp, by go_simp, by go_simp, by go_simp, by go_simp, by go_simp, by go_simp, by go_simp, by go_simp, fun o => by go_simp⟩
     unfold Ce11f at tb8
     have fx8 := fkeep fx7 hk8 hFT
     have wc8 := ST8.out.wc
     unfold WCells at wc8
     have HK8 := Lib.hid hk8
     clear tb7 fx7 wc7 hk8
     generalize ((((w7.setCell ⟨T, 2, none⟩ (.int .i64 x.op)).setCell ⟨T, 3, none⟩ (.int .i64 x.num)).setCell ⟨T, 4, none⟩ (.string x.name)).setCell ⟨T, 5, none⟩ (.slice xa x.args.length xc)) = w8 at ST8 tb8 fx8 wc8 HK8 hHeld ⊢
     have XR' := Lib.hid (ExprRep.mono (CT.of_keep HK8.out hsT) _ XR.out)
     clear XR
     have XR := XR'
     clear XR'
     refine held_one 18 (by kernel_rfl) rfl (by rfl) (fun K' hK => ?_)
     go_simp
     have ak : Keep [] w8 (w8.alloc (.cells #[.int .u8 b1.toNat, .int .u8 b2.toNat] 5)) := (Keep.refl _ _).alloc _
     (try dsimp only)
     refine hK.out _ _ (ST8.out.alloc _).wc.2.2.2.2.1 (fun hHeld' => ?_)
     clear hK K' hHeld
     have hHeld := hHeld'
     clear hHeld'
     (try go_frame)
     have ST9 := Lib.hid (ST8.out.alloc (.cells #[.int .u8 b1.toNat, .int .u8 b2.toNat] 5))
     have tb9 := tkeep tb8 ak (by simp)
     have fx9 := fkeep fx8 ak (by simp)
     have wc9 := ST9.out.wc
     unfold WCells at wc9
     have sb9 : ((w8.alloc (.cells #[.int .u8 b1.toNat, .int .u8 b2.toNat] 5)).cell? ⟨w8.heap.size, 0, none⟩ = some (.int .u8 b1.toNat) ∧ (w8.alloc (.cells #[.int .u8 b1.toNat, .int .u8 b2.toNat] 5)).cell? ⟨w8.heap.size, 1, none⟩ = some (.int .u8 b2.toNat)) := ⟨by go_simp, by go_simp⟩
     have hQS : w8.heap.size ∉ [S] := by have := ST8.out.hH S ST8.out.mS; simp; omega
     have hQT : w8.heap.size ∉ [T] := by have := ST8.out.hH T (List.mem_cons_self ..); simp; omega
     have XR' := Lib.hid (ExprRep.mono (CT.of_keep ak (fun x hx => by simp at hx)) _ XR.out)
     clear XR
     have XR := XR'
     clear XR'
     clear tb8 fx8 wc8
     generalize w8.alloc (.cells #[.int .u8 b1.toNat, .int .u8 b2.toNat] 5) = w9 at ak ST9 tb9 fx9 wc9 sb9 hHeld XR ⊢
     clear ak
     refine held_one 19 (by kernel_rfl) rfl (by rfl) (fun K' hK => ?_)
     have hcv := conv_two b1 b2 sb9.1 sb9.2
     rw [← HT2.out] at hcv
     go_simp
     clear hcv
     (try dsimp only)
     refine hK.out _ _ ST9.out.wc.2.2.2.2.1 (fun hHeld' => ?_)
     clear hK K' hHeld
     have hHeld := hHeld'
     clear hHeld'
     (try go_frame)
     refine held_take 20 (v := ?vv54) (by kernel_rfl) rfl (by rfl) (by kernel_rfl) (by kernel_rfl) (fun _ _ _ h => hQp _ _ _ _ _ h) ?hyy54 (by assumption) ?rest54
     case hyy54 => (intro w hSw; (try dsimp only at hSw); go_simp; (try with_reducible rfl))
     (try go_frame)
     refine held_take 25 (v := ?vv55) (by kernel_rfl) rfl (by rfl) (by kernel_rfl) (by kernel_rfl) (fun _ _ _ h => hQp _ _ _ _ _ h) ?hyy55 (by assumption) ?rest55
     case hyy55 => (intro w hSw; (try dsimp only at hSw); go_simp; (try with_reducible rfl))
     (try go_frame)
     refine held_one 26 (by kernel_rfl) rfl (by rfl) (fun K' hK => ?_)
     go_simp
     (try dsimp only)
     refine hK.out _ _ (by rw [(((Keep.refl [T] w9).setCell (p := ⟨T, 1, none⟩) (.inl (List.mem_singleton.2 rfl)) (.string (varName m)))).cell (p := ⟨W, 4, none⟩) (cell_lt wc9.2.2.2.2.1) hWT]; exact wc9.2.2.2.2.1) (fun hHeld' => ?_)
     clear hK K' hHeld
     have hHeld := hHeld'
     clear hHeld'
     (try go_frame)
     clear hHeld
     have hk10 : Keep [T] w9 (w9.setCell ⟨T, 1, none⟩ (.string (varName m))) := ((Keep.refl [T] w9).setCell (p := ⟨T, 1, none⟩) (.inl (List.mem_singleton.2 rfl)) (.string (varName m)))
     have ST10 := Lib.hid (ST9.out.boxed hk10 (fun x hx => by simp at hx; subst hx; exact ⟨List.mem_cons_self .., hTW⟩))
     have tb10 : Ce11f (w9.setCell ⟨T, 1, none⟩ (.string (varName m))) T (.int .i64 1) (.string (varName m)) (.int .i64 x.op) (.int .i64 x.num) (.string x.name) (.slice xa x.args.length xc) (.string ⟨#[]⟩) (.slice none 0 0) (.slice none 0 0) (.slice none 0 0) (.slice none 0 0) := ⟨by go_simp, by go_simp, by go_simp, by go_simp, by go_simp, by go_simp, by go_simp, by go_simp, by go_simp, by go_simp, by go_simp, fun o => by go_simp⟩
     unfold Ce11f at tb10
     have fx10 := fkeep fx9 hk10 hFT
     have wc10 := ST10.out.wc
     unfold WCells at wc10
     have HK10 := Lib.hid hk10
     clear tb9 fx9 wc9 hk10
     generalize (w9.setCell ⟨T, 1, none⟩ (.string (varName m))) = w10 at ST10 tb10 fx10 wc10 HK10 ⊢
     have XR' := Lib.hid (ExprRep.mono (CT.of_keep HK10.out hsT) _ XR.out)
     clear XR
     have XR := XR'
     clear XR'
     refine wpAnyH_done (by kernel_rfl) ?_ _
     (try dsimp only)
     go_wp2_with fail
     go_meet
     case rel => exact ⟨x, xa, xc, XM.out, ST10.out, tb10, fx10, XR.out⟩
  ·go_simp
   have ak : Keep [] w5 (w5.alloc (.cells #[.int .u8 b1.toNat, .int .u8 b2.toNat] 5)) := (Keep.refl _ _).alloc _
   (try dsimp only)
   refine hK.out _ _ (ST5.out.alloc _).wc.2.2.2.2.1 (fun hHeld' => ?_)
   clear hK K' hHeld
   have hHeld := hHeld'
   clear hHeld'
   (try go_frame)
   have ST6 := Lib.hid (ST5.out.alloc (.cells #[.int .u8 b1.toNat, .int .u8 b2.toNat] 5))
   have tb6 := tkeep tb5 ak (by simp)
   have fx6 := fkeep fx5 ak (by simp)
   have wc6 := ST6.out.wc
   unfold WCells at wc6
   have sb6 : ((w5.alloc (.cells #[.int .u8 b1.toNat, .int .u8 b2.toNat] 5)).cell? ⟨w5.heap.size, 0, none⟩ = some (.int .u8 b1.toNat) ∧ (w5.alloc (.cells #[.int .u8 b1.toNat, .int .u8 b2.toNat] 5)).cell? ⟨w5.heap.size, 1, none⟩ = some (.int .u8 b2.toNat)) := ⟨by go_simp, by go_simp⟩
   have hQS : w5.heap.size ∉ [S] := by have := ST5.out.hH S ST5.out.mS; simp; omega
   have hQT : w5.heap.size ∉ [T] := by have := ST5.out.hH T (List.mem_cons_self ..); simp; omega
   clear tb5 fx5 wc5
   generalize w5.alloc (.cells #[.int .u8 b1.toNat, .int .u8 b2.toNat] 5) = w6 at ak ST6 tb6 fx6 wc6 sb6 hHeld ⊢
   clear ak
   refine held_two 2 19 (by kernel_rfl) rfl rfl (by rfl) (by rfl) (fun K' hK => ?_) (fun K' hK => ?_)
   ·go_simp
    have BI6 := Lib.hid (ST6.out.into HIN.out HBW.out hTW)
    refine (wexpr_any (H := (ownB (.slice oa al.length oc) ++ (ownB (.slice na vs.length nc) ++ T :: H))) (N := [S, W]) (.slice na vs.length nc) BI6.out.src (by simp) BI6.out.hH BI6.out.hv (by omega) BI6.out.wc HWS.out (BI6.out.hH W BI6.out.mem)).mono ?_
    intro e w7 hq
    obtain ⟨⟨x, xa, xc, rfl, xm, xr⟩, hs7, hk7⟩ := hq
    have sb7 := qkeep sb6 hk7 hQS
    (try dsimp only)
    refine hK.out _ _ (ST6.out.callS hs7 hk7).wc.2.2.2.2.1 (fun hHeld' => ?_)
    clear hK K' hHeld
    have hHeld := hHeld'
    clear hHeld'
    (try go_frame)
    have ST7 := Lib.hid (ST6.out.callS hs7 hk7)
    have tb7 := tkeep tb6 hk7 hTS
    have fx7 := fkeep fx6 hk7 hFS
    have wc7 := ST7.out.wc
    unfold WCells at wc7
    have HK7 := Lib.hid hk7
    clear tb6 fx6 wc6 hs7 hk7
    have XR := Lib.hid xr
    have XM := Lib.hid xm
    clear xr xm
    refine held_two 19 22 (by kernel_rfl) rfl rfl (by rfl) (by rfl) (fun K' hK => ?_) (fun K' hK => ?_)
    ·have hcv := conv_two b1 b2 sb7.1 sb7.2
     rw [← HT2.out] at hcv
     go_simp
     clear hcv
     (try dsimp only)
     refine hK.out _ _ ST7.out.wc.2.2.2.2.1 (fun hHeld' => ?_)
     clear hK K' hHeld
     have hHeld := hHeld'
     clear hHeld'
     (try go_frame)
     refine held_take 20 (v := ?vv73) (by kernel_rfl) rfl (by rfl) (by kernel_rfl) (by kernel_rfl) (fun _ _ _ h => hQp _ _ _ _ _ h) ?hyy73 (by assumption) ?rest73
     case hyy73 => (intro w hSw; (try dsimp only at hSw); go_simp; (try with_reducible rfl))
     (try go_frame)
     refine held_one 22 (by kernel_rfl) rfl (by rfl) (fun K' hK => ?_)
     go_simp
     (try dsimp only)
     refine hK.out _ _ (by rw [(((Keep.refl [T] w7).setCell (p := ⟨T, 0, none⟩) (.inl (List.mem_singleton.2 rfl)) (.int .i64 1))).cell (p := ⟨W, 4, none⟩) (cell_lt wc7.2.2.2.2.1) hWT]; exact wc7.2.2.2.2.1) (fun hHeld' => ?_)
     clear hK K' hHeld
     have hHeld := hHeld'
     clear hHeld'
     (try go_frame)
     have hk8 : Keep [T] w7 (w7.setCell ⟨T, 0, none⟩ (.int .i64 1)) := ((Keep.refl [T] w7).setCell (p := ⟨T, 0, none⟩) (.inl (List.mem_singleton.2 rfl)) (.int .i64 1))
     have ST8 := Lib.hid (ST7.out.boxed hk8 (fun x hx => by simp at hx; subst hx; exact ⟨List.mem_cons_self .., hTW⟩))
     have tb8 : Ce11f (w7.setCell ⟨T, 0, none⟩ (.int .i64 1)) T (.int .i64 1) (.string ⟨#[]⟩) (.int .i64 0) (.int .i64 0) (.string ⟨#[]⟩) (.slice none 0 0) (.string ⟨#[]⟩) (.slice none 0 0) (.slice none 0 0) (.slice none 0 0) (.slice none 0 0) := ⟨by go_simp, by go_simp, by go_simp, by go_simp, by go_simp, by go_simp, by go_simp, by go_simp, by go_simp, by go_simp, by go_simp, fun o => by go_simp⟩
     unfold Ce11f at tb8
     have fx8 := fkeep fx7 hk8 hFT
     have wc8 := ST8.out.wc
     unfold WCells at wc8
     have HK8 := Lib.hid hk8
     clear tb7 fx7 wc7 hk8
     generalize (w7.setCell ⟨T, 0, none⟩ (.int .i64 1)) = w8 at ST8 tb8 fx8 wc8 HK8 hHeld ⊢
     have XR' := Lib.hid (ExprRep.mono (CT.of_keep HK8.out hsT) _ XR.out)
     clear XR
     have XR := XR'
     clear XR'
     refine held_take 23 (v := ?vv74) (by kernel_rfl) rfl (by rfl) (by kernel_rfl) (by kernel_rfl) (fun _ _ _ h => hQp _ _ _ _ _ h) ?hyy74 (by assumption) ?rest74
     case hyy74 => (intro w hSw; (try dsimp only at hSw); go_simp; (try with_reducible rfl))
     (try go_frame)
     refine held_one 24 (by kernel_rfl) rfl (by rfl) (fun K' hK => ?_)
     go_simp
     (try dsimp only)
     refine hK.out _ _ (by rw [((((((Keep.refl [T] w8).setCell (p := ⟨T, 2, none⟩) (.inl (List.mem_singleton.2 rfl)) (.int .i64 x.op)).setCell (p := ⟨T, 3, none⟩) (.inl (List.mem_singleton.2 rfl)) (.int .i64 x.num)).setCell (p := ⟨T, 4, none⟩) (.inl (List.mem_singleton.2 rfl)) (.string x.name)).setCell (p := ⟨T, 5, none⟩) (.inl (List.mem_singleton.2 rfl)) (.slice xa x.args.length xc))).cell (p := ⟨W, 4, none⟩) (cell_lt wc8.2.2.2.2.1) hWT]; exact wc8.2.2.2.2.1) (fun hHeld' => ?_)
     clear hK K' hHeld
     have hHeld := hHeld'
     clear hHeld'
     (try go_frame)
     have hk9 : Keep [T] w8 ((((w8.setCell ⟨T, 2, none⟩ (.int .i64 x.op)).setCell ⟨T, 3, none⟩ (.int .i64 x.num)).setCell ⟨T, 4, none⟩ (.string x.name)).setCell ⟨T, 5, none⟩ (.slice xa x.args.length xc)) := (((((Keep.refl [T] w8).setCell (p := ⟨T, 2, none⟩) (.inl (List.mem_singleton.2 rfl)) (.int .i64 x.op)).setCell (p := ⟨T, 3, none⟩) (.inl (List.mem_singleton.2 rfl)) (.int .i64 x.num)).setCell (p := ⟨T, 4, none⟩) (.inl (List.mem_singleton.2 rfl)) (.string x.name)).setCell (p := ⟨T, 5, none⟩) (.inl (List.mem_singleton.2 rfl)) (.slice xa x.args.length xc))
     have ST9 := Lib.hid (ST8.out.boxed hk9 (fun x hx => by simp at hx; subst hx; exact ⟨List.mem_cons_self .., hTW⟩))
     have tb9 : Ce11f ((((w8.setCell ⟨T, 2, none⟩ (.int .i64 x.op)).setCell ⟨T, 3, none⟩ (.int .i64 x.num)).setCell ⟨T, 4, none⟩ (.string x.name)).setCell ⟨T, 5, none⟩ (.slice xa x.args.length xc)) T (.int .i64 1) (.string ⟨#[]⟩) (.int .i64 x.op) (.int .i64 x.num) (.string x.name) (.slice xa x.args.length xc) (.string ⟨#[]⟩) (.slice none 0 0) (.slice none 0 0) (.slice none 0 0) (.slice none 0 0) := ⟨by go_simp, by go_simp, by go_simp, by go_simp, by go_simp, by go_simp, by go_simp, by go_simp, by go_simp, by go_simp, by go_simp, fun o => by go_simp⟩
     unfold Ce11f at tb9
     have fx9 := fkeep fx8 hk9 hFT
     have wc9 := ST9.out.wc
     unfold WCells at wc9
     have HK9 := Lib.hid hk9
     clear tb8 fx8 wc8 hk9
     generalize ((((w8.setCell ⟨T, 2, none⟩ (.int .i64 x.op)).setCell ⟨T, 3, none⟩ (.int .i64 x.num)).setCell ⟨T, 4, none⟩ (.string x.name)).setCell ⟨T, 5, none⟩ (.slice xa x.args.length xc)) = w9 at ST9 tb9 fx9 wc9 HK9 hHeld ⊢
     have XR' := Lib.hid (ExprRep.mono (CT.of_keep HK9.out hsT) _ XR.out)
     clear XR
     have XR := XR'
     clear XR'
     refine held_take 25 (v := ?vv75) (by kernel_rfl) rfl (by rfl) (by kernel_rfl) (by kernel_rfl) (fun _ _ _ h => hQp _ _ _ _ _ h) ?hyy75 (by assumption) ?rest75
     case hyy75 => (intro w hSw; (try dsimp only at hSw); go_simp; (try with_reducible rfl))
     (try go_frame)
     refine held_one 26 (by kernel_rfl) rfl (by rfl) (fun K' hK => ?_)
     go_simp
     (try dsimp only)
     refine hK.out _ _ (by rw [(((Keep.refl [T] w9).setCell (p := ⟨T, 1, none⟩) (.inl (List.mem_singleton.2 rfl)) (.string (varName m)))).cell (p := ⟨W, 4, none⟩) (cell_lt wc9.2.2.2.2.1) hWT]; exact wc9.2.2.2.2.1) (fun hHeld' => ?_)
     clear hK K' hHeld
     have hHeld := hHeld'
     clear hHeld'
     (try go_frame)
     clear hHeld
     have hk10 : Keep [T] w9 (w9.setCell ⟨T, 1, none⟩ (.string (varName m))) := ((Keep.refl [T] w9).setCell (p := ⟨T, 1, none⟩) (.inl (List.mem_singleton.2 rfl)) (.string (varName m)))
     have ST10 := Lib.hid (ST9.out.boxed hk10 (fun x hx => by simp at hx; subst hx; exact ⟨List.mem_cons_self .., hTW⟩))
     have tb10 : Ce11f (w9.setCell ⟨T, 1, none⟩ (.string (varName m))) T (.int .i64 1) (.string (varName m)) (.int .i64 x.op) (.int .i64 x.num) (.string x.name) (.slice xa x.args.length xc) (.string ⟨#[]⟩) (.slice none 0 0) (.slice none 0 0) (.slice none 0 0) (.slice none 0 0) := ⟨by go_simp, by go_simp, by go_simp, by go_simp, by go_simp, by go_simp, by go_simp, by go_simp, by go_simp, by go_simp, by go_simp, fun o => by go_simp⟩
     unfold Ce11f at tb10
     have fx10 := fkeep fx9 hk10 hFT
     have wc10 := ST10.out.wc
     unfold WCells at wc10
     have HK10 := Lib.hid hk10
     clear tb9 fx9 wc9 hk10
     generalize (w9.setCell ⟨T, 1, none⟩ (.string (varName m))) = w10 at ST10 tb10 fx10 wc10 HK10 ⊢
     have XR' := Lib.hid (ExprRep.mono (CT.of_keep HK10.out hsT) _ XR.out)
     clear XR
     have XR := XR'
     clear XR'
     refine wpAnyH_done (by kernel_rfl) ?_ _
     (try dsimp only)
     go_wp2_with fail
     go_meet
     case rel => exact ⟨x, xa, xc, XM.out, ST10.out, tb10, fx10, XR.out⟩
    ·go_simp
     (try dsimp only)
     refine hK.out _ _ (by rw [(((Keep.refl [T] w7).setCell (p := ⟨T, 0, none⟩) (.inl (List.mem_singleton.2 rfl)) (.int .i64 1))).cell (p := ⟨W, 4, none⟩) (cell_lt wc7.2.2.2.2.1) hWT]; exact wc7.2.2.2.2.1) (fun hHeld' => ?_)
     clear hK K' hHeld
     have hHeld := hHeld'
     clear hHeld'
     (try go_frame)
     have hk8 : Keep [T] w7 (w7.setCell ⟨T, 0, none⟩ (.int .i64 1)) := ((Keep.refl [T] w7).setCell (p := ⟨T, 0, none⟩) (.inl (List.mem_singleton.2 rfl)) (.int .i64 1))
     have ST8 := Lib.hid (ST7.out.boxed hk8 (fun x hx => by simp at hx; subst hx; exact ⟨List.mem_cons_self .., hTW⟩))
     have tb8 : Ce11f (w7.setCell ⟨T, 0, none⟩ (.int .i64 1)) T (.int .i64 1) (.string ⟨#[]⟩) (.int .i64 0) (.int .i64 0) (.string ⟨#[]⟩) (.slice none 0 0) (.string ⟨#[]⟩) (.slice none 0 0) (.slice none 0 0) (.slice none 0 0) (.slice none 0 0) := ⟨by go_simp, by go_simp, by go_simp, by go_simp, by go_simp, by go_simp, by go_simp, by go_simp, by go_simp, by go_simp, by go_simp, fun o => by go_simp⟩
     unfold Ce11f at tb8
     have fx8 := fkeep fx7 hk8 hFT
     have wc8 := ST8.out.wc
     unfold WCells at wc8
     have HK8 := Lib.hid hk8
     have sb8 := qkeep sb7 hk8 hQT
     clear tb7 fx7 wc7 hk8
     generalize (w7.setCell ⟨T, 0, none⟩ (.int .i64 1)) = w8 at ST8 tb8 fx8 wc8 HK8 hHeld sb8 ⊢
     have XR' := Lib.hid (ExprRep.mono (CT.of_keep HK8.out hsT) _ XR.out)
     clear XR
     have XR := XR'
     clear XR'
     refine held_take 23 (v := ?vv68) (by kernel_rfl) rfl (by rfl) (by kernel_rfl) (by kernel_rfl) (fun _ _ _ h => hQp _ _ _ _ _ h) ?hyy68 (by assumption) ?rest68
     case hyy68 => (intro w hSw; (try dsimp only at hSw); go_simp; (try with_reducible rfl))
     (try go_frame)
     refine held_two 19 24 (by kernel_rfl) rfl rfl (by rfl) (by rfl) (fun K' hK => ?_) (fun K' hK => ?_)
     ·have hcv := conv_two b1 b2 sb8.1 sb8.2
      rw [← HT2.out] at hcv
      go_simp
      clear hcv
      (try dsimp only)
      refine hK.out _ _ ST8.out.wc.2.2.2.2.1 (fun hHeld' => ?_)
      clear hK K' hHeld
      have hHeld := hHeld'
      clear hHeld'
      (try go_frame)
      refine held_take 20 (v := ?vv71) (by kernel_rfl) rfl (by rfl) (by kernel_rfl) (by kernel_rfl) (fun _ _ _ h => hQp _ _ _ _ _ h) ?hyy71 (by assumption) ?rest71
      case hyy71 => (intro w hSw; (try dsimp only at hSw); go_simp; (try with_reducible rfl))
      (try go_frame)
      refine held_one 24 (by kernel_rfl) rfl (by rfl) (fun K' hK => ?_)
      go_simp
      (try dsimp only)
      refine hK.out _ _ (by rw [((((((Keep.refl [T] w8).setCell (p := ⟨T, 2, none⟩) (.inl (List.mem_singleton.2 rfl)) (.int .i64 x.op)).setCell (p := ⟨T, 3, none⟩) (.inl (List.mem_singleton.2 rfl)) (.int .i64 x.num)).setCell (p := ⟨T, 4, none⟩) (.inl (List.mem_singleton.2 rfl)) (.string x.name)).setCell (p := ⟨T, 5, none⟩) (.inl (List.mem_singleton.2 rfl)) (.slice xa x.args.length xc))).cell (p := ⟨W, 4, none⟩) (cell_lt wc8.2.2.2.2.1) hWT]; exact wc8.2.2.2.2.1) (fun hHeld' => ?_)
      clear hK K' hHeld
      have hHeld := hHeld'
      clear hHeld'
      (try go_frame)
      have hk9 : Keep [T] w8 ((((w8.setCell ⟨T, 2, none⟩ (.int .i64 x.op)).setCell ⟨T, 3, none⟩ (.int .i64 x.num)).setCell ⟨T, 4, none⟩ (.string x.name)).setCell ⟨T, 5, none⟩ (.slice xa x.args.length xc)) := (((((Keep.refl [T] w8).setCell (p := ⟨T, 2, none⟩) (.inl (List.mem_singleton.2 rfl)) (.int .i64 x.op)).setCell (p := ⟨T, 3, none⟩) (.inl (List.mem_singleton.2 rfl)) (.int .i64 x.num)).setCell (p := ⟨T, 4, none⟩) (.inl (List.mem_singleton.2 rfl)) (.string x.name)).setCell (p := ⟨T, 5, none⟩) (.inl (List.mem_singleton.2 rfl)) (.slice xa x.args.length xc))
      have ST9 := Lib.hid (ST8.out.boxed hk9 (fun x hx => by simp at hx; subst hx; exact ⟨List.mem_cons_self .., hTW⟩))
      have tb9 : Ce11f ((((w8.setCell ⟨T, 2, none⟩ (.int .i64 x.op)).setCell ⟨T, 3, none⟩ (.int .i64 x.num)).setCell ⟨T, 4, none⟩ (.string x.name)).setCell ⟨T, 5, none⟩ (.slice xa x.args.length xc)) T (.int .i64 1) (.string ⟨#[]⟩) (.int .i64 x.op) (.int .i64 x.num) (.string x.name) (.slice xa x.args.length xc) (.string ⟨#[]⟩) (.slice none 0 0) (.slice none 0 0) (.slice none 0 0) (.slice none 0 0) := ⟨by go_simp, by go_simp, by go_simp, by go_simp, by go_simp, by go_simp, by go_simp, by go_simp, by go_simp, by go_simp, by go_simp, fun o => by go_simp⟩
      unfold Ce11f at tb9
      have fx9 := fkeep fx8 hk9 hFT
      have wc9 := ST9.out.wc
      unfold WCells at wc9
      have HK9 := Lib.hid hk9
      clear tb8 fx8 wc8 hk9
      generalize ((((w8.setCell ⟨T, 2, none⟩ (.int .i64 x.op)).setCell ⟨T, 3, none⟩ (.int .i64 x.num)).setCell ⟨T, 4, none⟩ (.string x.name)).setCell ⟨T, 5, none⟩ (.slice xa x.args.length xc)) = w9 at ST9 tb9 fx9 wc9 HK9 hHeld ⊢
      have XR' := Lib.hid (ExprRep.mono (CT.of_keep HK9.out hsT) _ XR.out)
      clear XR
      have XR := XR'
      clear XR'
      refine held_take 25 (v := ?vv72) (by kernel_rfl) rfl (by rfl) (by kernel_rfl) (by kernel_rfl) (fun _ _ _ h => hQp _ _ _ _ _ h) ?hyy72 (by assumption) ?rest72
      case hyy72 => (intro w hSw; (try dsimp only at hSw); go_simp; (try with_reducible rfl))
      (try go_frame)
      refine held_one 26 (by kernel_rfl) rfl (by rfl) (fun K' hK => ?_)
      go_simp
      (try dsimp only)
      refine hK.out _ _ (by rw [(((Keep.refl [T] w9).setCell (p := ⟨T, 1, none⟩) (.inl (List.mem_singleton.2 rfl)) (.string (varName m)))).cell (p := ⟨W, 4, none⟩) (cell_lt wc9.2.2.2.2.1) hWT]; exact wc9.2.2.2.2.1) (fun hHeld' => ?_)
      clear hK K' hHeld
      have hHeld := hHeld'
      clear hHeld'
      (try go_frame)
      clear hHeld
      have hk10 : Keep [T] w9 (w9.setCell ⟨T, 1, none⟩ (.string (varName m))) := ((Keep.refl [T] w9).setCell (p := ⟨T, 1, none⟩) (.inl (List.mem_singleton.2 rfl)) (.string (varName m)))
      have ST10 := Lib.hid (ST9.out.boxed hk10 (fun x hx => by simp at hx; subst hx; exact ⟨List.mem_cons_self .., hTW⟩))
      have tb10 : Ce11f (w9.setCell ⟨T, 1, none⟩ (.string (varName m))) T (.int .i64 1) (.string (varName m)) (.int .i64 x.op) (.int .i64 x.num) (.string x.name) (.slice xa x.args.length xc) (.string ⟨#[]⟩) (.slice none 0 0) (.slice none 0 0) (.slice none 0 0) (.slice none 0 0) := ⟨by go_simp, by go_simp, by go_simp, by go_simp, by go_simp, by go_simp, by go_simp, by go_simp, by go_simp, by go_simp, by go_simp, fun o => by go_simp⟩
      unfold Ce11f at tb10
      have fx10 := fkeep fx9 hk10 hFT
      have wc10 := ST10.out.wc
      unfold WCells at wc10
      have HK10 := Lib.hid hk10
      clear tb9 fx9 wc9 hk10
      generalize (w9.setCell ⟨T, 1, none⟩ (.string (varName m))) = w10 at ST10 tb10 fx10 wc10 HK10 ⊢
      have XR' := Lib.hid (ExprRep.mono (CT.of_keep HK10.out hsT) _ XR.out)
      clear XR
      have XR := XR'
      clear XR'
      refine wpAnyH_done (by kernel_rfl) ?_ _
      (try dsimp only)
      go_wp2_with fail
      go_meet
      case rel => exact ⟨x, xa, xc, XM.out, ST10.out, tb10, fx10, XR.out⟩
     ·go_simp
      (try dsimp only)
      refine hK.out _ _ (by rw [((((((Keep.refl [T] w8).setCell (p := ⟨T, 2, none⟩) (.inl (List.mem_singleton.2 rfl)) (.int .i64 x.op)).setCell (p := ⟨T, 3, none⟩) (.inl (List.mem_singleton.2 rfl)) (.int .i64 x.num)).setCell (p := ⟨T, 4, none⟩) (.inl (List.mem_singleton.2 rfl)) (.string x.name)).setCell (p := ⟨T, 5, none⟩) (.inl (List.mem_singleton.2 rfl)) (.slice xa x.args.length xc))).cell (p := ⟨W, 4, none⟩) (cell_lt wc8.2.2.2.2.1) hWT]; exact wc8.2.2.2.2.1) (fun hHeld' => ?_)
      clear hK K' hHeld
      have hHeld := hHeld'
      clear hHeld'
      (try go_frame)
      have hk9 : Keep [T] w8 ((((w8.setCell ⟨T, 2, none⟩ (.int .i64 x.op)).setCell ⟨T, 3, none⟩ (.int .i64 x.num)).setCell ⟨T, 4, none⟩ (.string x.name)).setCell ⟨T, 5, none⟩ (.slice xa x.args.length xc)) := (((((Keep.refl [T] w8).setCell (p := ⟨T, 2, none⟩) (.inl (List.mem_singleton.2 rfl)) (.int .i64 x.op)).setCell (p := ⟨T, 3, none⟩) (.inl (List.mem_singleton.2 rfl)) (.int .i64 x.num)).setCell (p := ⟨T, 4, none⟩) (.inl (List.mem_singleton.2 rfl)) (.string x.name)).setCell (p := ⟨T, 5, none⟩) (.inl (List.mem_singleton.2 rfl)) (.slice xa x.args.length xc))
      have ST9 := Lib.hid (ST8.out.boxed hk9 (fun x hx => by simp at hx; subst hx; exact ⟨List.mem_cons_self .., hTW⟩))
      have tb9 : Ce11f ((((w8.setCell ⟨T, 2, none⟩ (.int .i64 x.op)).setCell ⟨T, 3, none⟩ (.int .i64 x.num)).setCell ⟨T, 4, none⟩ (.string x.name)).setCell ⟨T, 5, none⟩ (.slice xa x.args.length xc)) T (.int .i64 1) (.string ⟨#[]⟩) (.int .i64 x.op) (.int .i64 x.num) (.string x.name) (.slice xa x.args.length xc) (.string ⟨#[]⟩) (.slice none 0 0) (.slice none 0 0) (.slice none 0 0) (.slice none 0 0) := ⟨by go_simp, by go_simp, by go_simp, by go_simp, by go_simp, by go_simp, by go_simp, by go_simp, by go_simp, by go_simp, by go_simp, fun o => by go_simp⟩
      unfold Ce11f at tb9
      have fx9 := fkeep fx8 hk9 hFT
      have wc9 := ST9.out.wc
      unfold WCells at wc9
      have HK9 := Lib.hid hk9
      have sb9 := qkeep sb8 hk9 hQT
      clear tb8 fx8 wc8 hk9
      generalize ((((w8.setCell ⟨T, 2, none⟩ (.int .i64 x.op)).setCell ⟨T, 3, none⟩ (.int .i64 x.num)).setCell ⟨T, 4, none⟩ (.string x.name)).setCell ⟨T, 5, none⟩ (.slice xa x.args.length xc)) = w9 at ST9 tb9 fx9 wc9 HK9 hHeld sb9 ⊢
      have XR' := Lib.hid (ExprRep.mono (CT.of_keep HK9.out hsT) _ XR.out)
      clear XR
      have XR := XR'
      clear XR'
      refine held_one 19 (by kernel_rfl) rfl (by rfl) (fun K' hK => ?_)
      have hcv := conv_two b1 b2 sb9.1 sb9.2
      rw [← HT2.out] at hcv
      go_simp
      clear hcv
      (try dsimp only)
      refine hK.out _ _ ST9.out.wc.2.2.2.2.1 (fun hHeld' => ?_)
      clear hK K' hHeld
      have hHeld := hHeld'
      clear hHeld'
      (try go_frame)
      refine held_take 20 (v := ?vv69) (by kernel_rfl) rfl (by rfl) (by kernel_rfl) (by kernel_rfl) (fun _ _ _ h => hQp _ _ _ _ _ h) ?hyy69 (by assumption) ?rest69
      case hyy69 => (intro w hSw; (try dsimp only at hSw); go_simp; (try with_reducible rfl))
      (try go_frame)
      refine held_take 25 (v := ?vv70) (by kernel_rfl) rfl (by rfl) (by kernel_rfl) (by kernel_rfl) (fun _ _ _ h => hQp _ _ _ _ _ h) ?hyy70 (by assumption) ?rest70
      case hyy70 => (intro w hSw; (try dsimp only at hSw); go_simp; (try with_reducible rfl))
      (try go_frame)
      refine held_one 26 (by kernel_rfl) rfl (by rfl) (fun K' hK => ?_)
      go_simp
      (try dsimp only)
      refine hK.out _ _ (by rw [(((Keep.refl [T] w9).setCell (p := ⟨T, 1, none⟩) (.inl (List.mem_singleton.2 rfl)) (.string (varName m)))).cell (p := ⟨W, 4, none⟩) (cell_lt wc9.2.2.2.2.1) hWT]; exact wc9.2.2.2.2.1) (fun hHeld' => ?_)
      clear hK K' hHeld
      have hHeld := hHeld'
      clear hHeld'
      (try go_frame)
      clear hHeld
      have hk10 : Keep [T] w9 (w9.setCell ⟨T, 1, none⟩ (.string (varName m))) := ((Keep.refl [T] w9).setCell (p := ⟨T, 1, none⟩) (.inl (List.mem_singleton.2 rfl)) (.string (varName m)))
      have ST10 := Lib.hid (ST9.out.boxed hk10 (fun x hx => by simp at hx; subst hx; exact ⟨List.mem_cons_self .., hTW⟩))
      have tb10 : Ce11f (w9.setCell ⟨T, 1, none⟩ (.string (varName m))) T (.int .i64 1) (.string (varName m)) (.int .i64 x.op) (.int .i64 x.num) (.string x.name) (.slice xa x.args.length xc) (.string ⟨#[]⟩) (.slice none 0 0) (.slice none 0 0) (.slice none 0 0) (.slice none 0 0) := ⟨by go_simp, by go_simp, by go_simp, by go_simp, by go_simp, by go_simp, by go_simp, by go_simp, by go_simp, by go_simp, by go_simp, fun o => by go_simp⟩
      unfold Ce11f at tb10
      have fx10 := fkeep fx9 hk10 hFT
      have wc10 := ST10.out.wc
      unfold WCells at wc10
      have HK10 := Lib.hid hk10
      clear tb9 fx9 wc9 hk10
      generalize (w9.setCell ⟨T, 1, none⟩ (.string (varName m))) = w10 at ST10 tb10 fx10 wc10 HK10 ⊢
      have XR' := Lib.hid (ExprRep.mono (CT.of_keep HK10.out hsT) _ XR.out)
      clear XR
      have XR := XR'
      clear XR'
      refine wpAnyH_done (by kernel_rfl) ?_ _
      (try dsimp only)
      go_wp2_with fail
      go_meet
      case rel => exact ⟨x, xa, xc, XM.out, ST10.out, tb10, fx10, XR.out⟩
   ·have hcv := conv_two b1 b2 sb6.1 sb6.2
    rw [← HT2.out] at hcv
    go_simp
    clear hcv
    (try dsimp only)
    refine hK.out _ _ ST6.out.wc.2.2.2.2.1 (fun hHeld' => ?_)
    clear hK K' hHeld
    have hHeld := hHeld'
    clear hHeld'
    (try go_frame)
    refine held_take 20 (v := ?vv76) (by kernel_rfl) rfl (by rfl) (by kernel_rfl) (by kernel_rfl) (fun _ _ _ h => hQp _ _ _ _ _ h) ?hyy76 (by assumption) ?rest76
    case hyy76 => (intro w hSw; (try dsimp only at hSw); go_simp; (try with_reducible rfl))
    (try go_frame)
    refine held_one 2 (by kernel_rfl) rfl (by rfl) (fun K' hK => ?_)
    go_simp
    have BI6 := Lib.hid (ST6.out.into HIN.out HBW.out hTW)
    refine (wexpr_any (H := (ownB (.slice oa al.length oc) ++ (ownB (.slice na vs.length nc) ++ T :: H))) (N := [S, W]) (.slice na vs.length nc) BI6.out.src (by simp) BI6.out.hH BI6.out.hv (by omega) BI6.out.wc HWS.out (BI6.out.hH W BI6.out.mem)).mono ?_
    intro e w7 hq
    obtain ⟨⟨x, xa, xc, rfl, xm, xr⟩, hs7, hk7⟩ := hq
    (try dsimp only)
    refine hK.out _ _ (ST6.out.callS hs7 hk7).wc.2.2.2.2.1 (fun hHeld' => ?_)
    clear hK K' hHeld
    have hHeld := hHeld'
    clear hHeld'
    (try go_frame)
    have ST7 := Lib.hid (ST6.out.callS hs7 hk7)
    have tb7 := tkeep tb6 hk7 hTS
    have fx7 := fkeep fx6 hk7 hFS
    have wc7 := ST7.out.wc
    unfold WCells at wc7
    have HK7 := Lib.hid hk7
    clear tb6 fx6 wc6 hs7 hk7
    have XR := Lib.hid xr
    have XM := Lib.hid xm
    clear xr xm
    refine held_one 22 (by kernel_rfl) rfl (by rfl) (fun K' hK => ?_)
    go_simp
    (try dsimp only)
    refine hK.out _ _ (by rw [(((Keep.refl [T] w7).setCell (p := ⟨T, 0, none⟩) (.inl (List.mem_singleton.2 rfl)) (.int .i64 1))).cell (p := ⟨W, 4, none⟩) (cell_lt wc7.2.2.2.2.1) hWT]; exact wc7.2.2.2.2.1) (fun hHeld' => ?_)
    clear hK K' hHeld
    have hHeld := hHeld'
    clear hHeld'
    (try go_frame)
    have hk8 : Keep [T] w7 (w7.setCell ⟨T, 0, none⟩ (.int .i64 1)) := ((Keep.refl [T] w7).setCell (p := ⟨T, 0, none⟩) (.inl (List.mem_singleton.2 rfl)) (.int .i64 1))
    have ST8 := Lib.hid (ST7.out.boxed hk8 (fun x hx => by simp at hx; subst hx; exact ⟨List.mem_cons_self .., hTW⟩))
    have tb8 : Ce11f (w7.setCell ⟨T, 0, none⟩ (.int .i64 1)) T (.int .i64 1) (.string ⟨#[]⟩) (.int .i64 0) (.int .i64 0) (.string ⟨#[]⟩) (.slice none 0 0) (.string ⟨#[]⟩) (.slice none 0 0) (.slice none 0 0) (.slice none 0 0) (.slice none 0 0) := ⟨by go_simp, by go_simp, by go_simp, by go_simp, by go_simp, by go_simp, by go_simp, by go_simp, by go_simp, by go_simp, by go_simp, fun o => by go_simp⟩
    unfold Ce11f at tb8
    have fx8 := fkeep fx7 hk8 hFT
    have wc8 := ST8.out.wc
    unfold WCells at wc8
    have HK8 := Lib.hid hk8
    clear tb7 fx7 wc7 hk8
    generalize (w7.setCell ⟨T, 0, none⟩ (.int .i64 1)) = w8 at ST8 tb8 fx8 wc8 HK8 hHeld ⊢
    have XR' := Lib.hid (ExprRep.mono (CT.of_keep HK8.out hsT) _ XR.out)
    clear XR
    have XR := XR'
    clear XR'
    refine held_take 23 (v := ?vv77) (by kernel_rfl) rfl (by rfl) (by kernel_rfl) (by kernel_rfl) (fun _ _ _ h => hQp _ _ _ _ _ h) ?hyy77 (by assumption) ?rest77
    case hyy77 => (intro w hSw; (try dsimp only at hSw); go_simp; (try with_reducible rfl))
    (try go_frame)
    refine held_one 24 (by kernel_rfl) rfl (by rfl) (fun K' hK => ?_)
    go_simp
    (try dsimp only)
    refine hK.out _ _ (by rw [((((((Keep.refl [T] w8).setCell (p := ⟨T, 2, none⟩) (.inl (List.mem_singleton.2 rfl)) (.int .i64 x.op)).setCell (p := ⟨T, 3, none⟩) (.inl (List.mem_singleton.2 rfl)) (.int .i64 x.num)).setCell (p := ⟨T, 4, none⟩) (.inl (List.mem_singleton.2 rfl)) (.string x.name)).setCell (p := ⟨T, 5, none⟩) (.inl (List.mem_singleton.2 rfl)) (.slice xa x.args.length xc))).cell (p := ⟨W, 4, none⟩) (cell_lt wc8.2.2.2.2.1) hWT]; exact wc8.2.2.2.2.1) (fun hHeld' => ?_)
    clear hK K' hHeld
    have hHeld := hHeld'
    clear hHeld'
    (try go_frame)
    have hk9 : Keep [T] w8 ((((w8.setCell ⟨T, 2, none⟩ (.int .i64 x.op)).setCell ⟨T, 3, none⟩ (.int .i64 x.num)).setCell ⟨T, 4, none⟩ (.string x.name)).setCell ⟨T, 5, none⟩ (.slice xa x.args.length xc)) := (((((Keep.refl [T] w8).setCell (p := ⟨T, 2, none⟩) (.inl (List.mem_singleton.2 rfl)) (.int .i64 x.op)).setCell (p := ⟨T, 3, none⟩) (.inl (List.mem_singleton.2 rfl)) (.int .i64 x.num)).setCell (p := ⟨T, 4, none⟩) (.inl (List.mem_singleton.2 rfl)) (.string x.name)).setCell (p := ⟨T, 5, none⟩) (.inl (List.mem_singleton.2 rfl)) (.slice xa x.args.length xc))
    have ST9 := Lib.hid (ST8.out.boxed hk9 (fun x hx => by simp at hx; subst hx; exact ⟨List.mem_cons_self .., hTW⟩))
    have tb9 : Ce11f ((((w8.setCell ⟨T, 2, none⟩ (.int .i64 x.op)).setCell ⟨T, 3, none⟩ (.int .i64 x.num)).setCell ⟨T, 4, none⟩ (.string x.name)).setCell ⟨T, 5, none⟩ (.slice xa x.args.length xc)) T (.int .i64 1) (.string ⟨#[]⟩) (.int .i64 x.op) (.int .i64 x.num) (.string x.name) (.slice xa x.args.length xc) (.string ⟨#[]⟩) (.slice none 0 0) (.slice none 0 0) (.slice none 0 0) (.slice none 0 0) := ⟨by go_simp, by go_simp, by go_simp, by go_simp, by go_simp, by go_simp, by go_simp, by go_simp, by go_simp, by go_simp, by go_simp, fun o => by go_simp⟩
    unfold Ce11f at tb9
    have fx9 := fkeep fx8 hk9 hFT
    have wc9 := ST9.out.wc
    unfold WCells at wc9
    have HK9 := Lib.hid hk9
    clear tb8 fx8 wc8 hk9
    generalize ((((w8.setCell ⟨T, 2, none⟩ (.int .i64 x.op)).setCell ⟨T, 3, none⟩ (.int .i64 x.num)).setCell ⟨T, 4, none⟩ (.string x.name)).setCell ⟨T, 5, none⟩ (.slice xa x.args.length xc)) = w9 at ST9 tb9 fx9 wc9 HK9 hHeld ⊢
    have XR' := Lib.hid (ExprRep.mono (CT.of_keep HK9.out hsT) _ XR.out)
    clear XR
    have XR := XR'
    clear XR'
    refine held_take 25 (v := ?vv78) (by kernel_rfl) rfl (by rfl) (by kernel_rfl) (by kernel_rfl) (fun _ _ _ h => hQp _ _ _ _ _ h) ?hyy78 (by assumption) ?rest78
    case hyy78 => (intro w hSw; (try dsimp only at hSw); go_simp; (try with_reducible rfl))
    (try go_frame)
    refine held_one 26 (by kernel_rfl) rfl (by rfl) (fun K' hK => ?_)
    go_simp
    (try dsimp only)
    refine hK.out _ _ (by rw [(((Keep.refl [T] w9).setCell (p := ⟨T, 1, none⟩) (.inl (List.mem_singleton.2 rfl)) (.string (varName m)))).cell (p := ⟨W, 4, none⟩) (cell_lt wc9.2.2.2.2.1) hWT]; exact wc9.2.2.2.2.1) (fun hHeld' => ?_)
    clear hK K' hHeld
    have hHeld := hHeld'
    clear hHeld'
    (try go_frame)
    clear hHeld
    have hk10 : Keep [T] w9 (w9.setCell ⟨T, 1, none⟩ (.string (varName m))) := ((Keep.refl [T] w9).setCell (p := ⟨T, 1, none⟩) (.inl (List.mem_singleton.2 rfl)) (.string (varName m)))
    have ST10 := Lib.hid (ST9.out.boxed hk10 (fun x hx => by simp at hx; subst hx; exact ⟨List.mem_cons_self .., hTW⟩))
    have tb10 : Ce11f (w9.setCell ⟨T, 1, none⟩ (.string (varName m))) T (.int .i64 1) (.string (varName m)) (.int .i64 x.op) (.int .i64 x.num) (.string x.name) (.slice xa x.args.length xc) (.string ⟨#[]⟩) (.slice none 0 0) (.slice none 0 0) (.slice none 0 0) (.slice none 0 0) := ⟨by go_simp, by go_simp, by go_simp, by go_simp, by go_simp, by go_simp, by go_simp, by go_simp, by go_simp, by go_simp, by go_simp, fun o => by go_simp⟩
    unfold Ce11f at tb10
    have fx10 := fkeep fx9 hk10 hFT
    have wc10 := ST10.out.wc
    unfold WCells at wc10
    have HK10 := Lib.hid hk10
    clear tb9 fx9 wc9 hk10
    generalize (w9.setCell ⟨T, 1, none⟩ (.string (varName m))) = w10 at ST10 tb10 fx10 wc10 HK10 ⊢
    have XR' := Lib.hid (ExprRep.mono (CT.of_keep HK10.out hsT) _ XR.out)
    clear XR
    have XR := XR'
    clear XR'
    refine wpAnyH_done (by kernel_rfl) ?_ _
    (try dsimp only)
    go_wp2_with fail
    go_meet
    case rel => exact ⟨x, xa, xc, XM.out, ST10.out, tb10, fx10, XR.out⟩
 case rest =>
  obtain ⟨x, xa, xc, XM, st20, tb20, fx20, XR⟩ := hcut
  obtain ⟨w20, hw20⟩ : ∃ x, x = wc := ⟨_, rfl⟩
  subst hw20
  have ST20 := Lib.hid st20
  have wc20 := st20.wc
  unfold WCells at wc20
  clear st20 tb4 fx4 wc4
  have XM := Lib.hid XM
  have hst2 := ST20.out.alloc (.cells #[.string (varName m)] 9)
  have HOW := Lib.hid hst2.vown
  have HST2 := Lib.hid hst2
  have ak : Keep [] w20 (w20.alloc (.cells #[.string (varName m)] 9)) := (Keep.refl _ _).alloc _
  have tb20' := tkeep tb20 ak (by simp)
  have fx20' := fkeep fx20 ak (by simp)
  have XR' := Lib.hid (ExprRep.mono (CT.of_keep ak (fun x hx => by simp at hx) : CT (ownB (.slice oa al.length oc) ++ (ownB (.slice na vs.length nc) ++ T :: H)) w20 (ownB (.slice oa al.length oc) ++ (ownB (.slice na vs.length nc) ++ T :: H)) (w20.alloc (.cells #[.string (varName m)] 9))) _ XR)
  clear hst2 XR ak
  have hsz : w.heap.size + 1 ≤ w20.heap.size := by have := ST20.out.keep.size; have := HW2S.out; omega
  (try dsimp only)
  go_wp2_with (at_builtin; refine wpList_append_fresh _ rfl _ _ 42 rfl (w.heap.size + 1) 9 i0 _ 1 16 Tryd.underlying42 hi hz0 hz1 hz2 rfl (by decide) (.slice na vs.length nc) vs.length (vs.map .string) rfl HOW.out ⟨w20.heap.size, 0, none⟩ 1 1 [.string (varName m)] rfl rfl (new_cells _ _ _) (by simp [Value.oneCell']) (by unfold maxLen; omega) (by omega) (by simp; omega) ?_)
  intro u1 w21 hown5 hgr5 hfr5
  have hgk := keep_of_grown hgr5
  have ST21 := Lib.hid (HST2.out.vars hgr5 (by simpa using hfr5) (by simpa using hown5))
  have tb21 := tkeep tb20' hgk (HST2.out.dH T (List.mem_cons_self ..)).1
  have fx21 := fkeep fx20' hgk (fun hm => by have := (HST2.out.uB _ hm).1; omega)
  have wc21 := ST21.out.wc
  unfold WCells at wc21
  have XR := Lib.hid (ExprRep.mono (varsCT hgr5 (by simpa using hfr5)) _ XR'.out)
  clear XR' tb20 tb20' fx20 fx20' wc20 hown5 hgr5 hfr5 hgk
  (try dsimp only)
  go_wp2_with fail
  have hsT1 : ∀ x, x ∈ [T] → x ∈ (ownB (.slice oa al.length oc) ++ (ownB u1 ++ T :: H)) := by intro x hx; simp at hx; subst hx; simp
  have hl1 : (vs ++ [varName m]).length = vs.length + 1 := by simp
  go_meet
  case rel =>
   have hkT : Keep [T] w21 w21 := (Keep.refl [T] w21)
   exact ⟨(vs ++ [varName m]), al, m, .mk 1 (varName m) x .zero [] [] [], 1, x.op, x.num, varName m, x.name, ⟨#[]⟩, xa, none, none, none, none, x.args.length, xc, 0, 0, 0, 0, 0, 0, 0, 0, ST21.out.boxed hkT (fun x hx => by simp at hx; subst hx; exact ⟨List.mem_cons_self .., hTW⟩), (HTO.out.step [_] (fun rest l' hr => .var XM.out hr)), by omega, by omega, stmtRep_iff.2 ⟨_, _, _, _, _, rfl, (ExprRep.mono (CT.of_keep hkT hsT1) _ XR.out), (zeroR_rep _), ListRep.nil _ _ _, ListRep.nil _ _ _, ListRep.nil _ _ _⟩, by go_simp, by go_simp, by go_simp, by go_simp, by go_simp, by go_simp, by go_simp, by go_simp, by go_simp, by go_simp, by go_simp⟩
end Go.Proofs.YtlbocidcjmehfaaDoor
