import Derived.Test.YtlbocidcjmehfaaDoorBlk2J
import Derived.Maps.RangeWalk
import Derived.Test.YtlbocidcjmehfaaDoorA1J
set_option linter.unusedVariables false
set_option linter.unusedSimpArgs false
namespace Go.Proofs.YtlbocidcjmehfaaDoor
open Go.RowKit
set_option maxRecDepth 100000 in
set_option maxHeartbeats 8000000 in
theorem blk_c9 (ms : List AMutex) (fs : List Sig) (ps : List AParam) (fn : ByteArray) (ma pa ba : Option Addr) (fb fo mc pc fc bn bc S W : Nat) (vg : Value) (ar : Bool) (hm1 : 1 ≤ ms.length) (hm2 : ms.length ≤ 1000) (hf1 : 1 ≤ fs.length) (hf2 : fs.length ≤ 1000) (hp2 : ps.length ≤ 1000) (L deep : Nat) (hd : deep ≤ 100) (most : Nat) (hmost : most ≤ 1000) (vars : List ByteArray) (vv : Value) (hvl : vars.length + L ≤ 1000) (H : List Nat) (w : World) (IHZ : Hid (∀ (m : Nat), m < L → ∀ (zd zm : Int) (deep : Nat), zd = deep → deep ≤ 100 → ∀ (most : Nat), most ≤ 1000 → zm = most → ∀ (vars : List ByteArray) (vv : Value), vars.length + m ≤ 1000 → ∀ (H : List Nat) (w : World), BlkIn ms fs ps ma pa (some ⟨fb, fo, none⟩) mc pc fc H S W vg ar vars vv m w → Calls Tryd.prog 51 #[.pointer (some ⟨W, 0, none⟩), .agg #[.string fn, .slice pa ps.length pc, .slice ba bn bc], vv, .int .i64 zd, .int .i64 zm] w (BlkOk ms fs ps (.slice ma ms.length mc) (.slice (some ⟨fb, fo, none⟩) fs.length fc) H S W vg ar vars deep m w))) (HIN : Hid (BlkIn ms fs ps ma pa (some ⟨fb, fo, none⟩) mc pc fc H S W vg ar vars vv L w)) (HHw : Hid (∀ (x : Nat), x ∈ H → x < w.heap.size)) (HFP : Hid (∀ (g : Sig), g ∈ fs → g.2.length ≤ 1000)) (HMZ : Hid (∀ (m : AMutex), m ∈ ms → m.size ≤ 1000)) (hSl : S < w.heap.size) (hWl : W < w.heap.size) (HWS : Hid (W ≠ S)) (W2 : World) (HW2S : Hid (W2.heap.size = w.heap.size + 1)) (HBW : Hid (Below w.heap.size w W2)) (HKI : Hid (Keep [S, W] w W2)) (u0 : Value) (w1 : World) (ST0 : Hid (BlSt H S W (w.heap.size + 1) vg (.slice ma ms.length mc) (.slice (some ⟨fb, fo, none⟩) fs.length fc) ar W2 vars u0 [] (.slice none 0 0) L w1)) (n0 : Nat) (c20 c21 c22 c23 c24 c25 c26 y15 y16 y27 y28 y29 y30 y31 y32 y33 y34 y35 y36 y37 y38 y39 y40 y41 y42 y43 y44 y45 y46 y47 y48 y49 y50 y51 y52 y53 y54 y55 y56 y57 y58 y59 y60 y61 y62 y63 y64 y65 y66 y67 y68 y69 y70 y71 y72 y73 y74 y75 y76 y77 y78 y79 y80 y81 y82 y83 y84 y85 y86 y87 y88 y89 y90 y91 y92 y93 y94 y95 y96 y97 y98 y99 y100 y101 y102 y103 y104 y105 y106 y107 y108 y109 y110 y111 y112 y113 y114 y115 y116 y117 y118 y119 y120 y121 y122 y123 y124 y125 y126 y127 y128 y129 y130 y131 y132 y133 y134 y135 y136 y137 y138 y139 y140 y141 y142 y143 y144 y145 y146 y147 y148 y149 y150 y151 y152 y153 y154 y155 y156 y157 y158 y159 y160 y161 y162 y163 y164 y165 y166 y167 y168 y169 y170 y171 y172 y173 y174 y175 y176 y177 y178 y179 y180 y181 y182 y183 y184 y185 y186 y187 y188 y189 y190 y191 y192 y193 y194 y195 y196 y197 y198 y199 y200 y201 y202 y203 y204 y205 y206 y207 y208 y209 y210 y211 y212 y213 y214 y215 y216 y217 y218 y219 y220 y221 y222 y223 y224 y225 y226 y227 y228 y229 y230 y231 y232 y233 y234 y235 y236 y237 y238 y239 y240 y241 y242 y243 y244 y245 y246 y247 : Value) (vs : List ByteArray) (al : List AStmt) (k : Nat) (hk : k ≤ most) (oa : Option Addr) (oc : Nat) (hki : (0 : Int) < (k : Int)) (m : Nat) (hvl2 : vs.length + (m + 1) ≤ 1000) (hlf : m + 1 ≤ L) (hall : al.length + 2 * (m + 1) ≤ 2 * L) (HTO : Hid (BlTo ms fs ps vars deep L vs (m + 1) al)) (T : Nat) (hTW : W2.heap.size ≤ T) (w4 : World) (q : Int) (q0 : 0 ≤ q) (q1 : q < 14) (ST4K : Hid (Keep [S, W] W2 w4)) (hTS : ¬ T ∈ [S]) (tb4 : w4.cell? ⟨T, 0, none⟩ = some (.int .i64 5) ∧ w4.cell? ⟨T, 1, none⟩ = some (.string ⟨#[]⟩) ∧ w4.cell? ⟨T, 2, none⟩ = some (.int .i64 0) ∧ w4.cell? ⟨T, 3, none⟩ = some (.int .i64 0) ∧ w4.cell? ⟨T, 4, none⟩ = some (.string ⟨#[]⟩) ∧ w4.cell? ⟨T, 5, none⟩ = some (.slice none 0 0) ∧ w4.cell? ⟨T, 6, none⟩ = some (.string ⟨#[]⟩) ∧ w4.cell? ⟨T, 7, none⟩ = some (.slice none 0 0) ∧ w4.cell? ⟨T, 8, none⟩ = some (.slice none 0 0) ∧ w4.cell? ⟨T, 9, none⟩ = some (.slice none 0 0) ∧ w4.cell? ⟨T, 10, none⟩ = some (.slice none 0 0) ∧ ∀ o, w4.frozen? ⟨T, o, none⟩ = false) (hFS : ¬ w.heap.size ∈ [S]) (fx4 : w4.cell? ⟨w.heap.size, 0, none⟩ = some (.string fn) ∧ w4.cell? ⟨w.heap.size, 1, none⟩ = some (.slice pa ps.length pc) ∧ w4.cell? ⟨w.heap.size, 2, none⟩ = some (.slice ba bn bc)) (wc4 : w4.cell? ⟨W, 0, none⟩ = some (.pointer (some ⟨S, 0, none⟩)) ∧ w4.cell? ⟨W, 1, none⟩ = some vg ∧ w4.cell? ⟨W, 2, none⟩ = some (.slice ma ms.length mc) ∧ w4.cell? ⟨W, 3, none⟩ = some (.slice (some ⟨fb, fo, none⟩) fs.length fc) ∧ w4.cell? ⟨W, 4, none⟩ = some (.int .i64 m) ∧ w4.cell? ⟨W, 5, none⟩ = some (.bool ar)) (J K' : Act → World → Prop) (hJ : ∀ (a' : Act) (w' : World), (∃ u2 u11 u15 u16 u27 u28 u29 u30 u31 u32 u33 u34 u35 u36 u37 u38 u39 u40 u41 u42 u43 u44 u45 u46 u47 u48 u49 u50 u51 u52 u53 u54 u55 u56 u57 u58 u59 u60 u61 u62 u63 u64 u65 u66 u67 u68 u69 u70 u71 u72 u73 u74 u75 u76 u77 u78 u79 u80 u81 u82 u83 u84 u85 u86 u87 u88 u89 u90 u91 u92 u93 u94 u95 u96 u97 u98 u99 u100 u101 u102 u103 u104 u105 u106 u107 u108 u109 u110 u111 u112 u113 u114 u115 u116 u117 u118 u119 u120 u121 u122 u123 u124 u125 u126 u127 u128 u129 u130 u131 u132 u133 u134 u135 u136 u137 u138 u139 u140 u141 u142 u143 u144 u145 u146 u147 u148 u149 u150 u151 u152 u153 u154 u155 u156 u157 u158 u159 u160 u161 u162 u163 u164 u165 u166 u167 u168 u169 u170 u171 u172 u173 u174 u175 u176 u177 u178 u179 u180 u181 u182 u183 u184 u185 u186 u187 u188 u189 u190 u191 u192 u193 u194 u195 u196 u197 u198 u199 u200 u201 u202 u203 u204 u205 u206 u207 u208 u209 u210 u211 u212 u213 u214 u215 u216 u217 u218 u219 u220 u221 u222 u223 u224 u225 u226 u227 u228 u229 u230 u231 u232 u233 u234 u235 u236 u237 u238 u239 u240 u241 u242 u243 u244 u245 u246 u247, cutR ms fs ps vars deep L H S W (w.heap.size + 1) vg (.slice ma ms.length mc) (.slice (some ⟨fb, fo, none⟩) fs.length fc) ar W2 T u2 u11 w' ∧ a' = ⟨#[.pointer (some ⟨W, 0, none⟩), .agg #[.string fn, .slice pa ps.length pc, .slice ba bn bc], u2, .int .i64 deep, .int .i64 most, undef, .pointer (some ⟨w.heap.size, 0, none⟩), undef, undef, undef, .slice none 0 0, u11, .int .i64 k, .pointer (some ⟨T, 0, none⟩), .int .i64 q, u15, u16, .slice (some ⟨w.heap.size + 1, 0, none⟩) 0 0, vv, u0, c20, c21, c22, c23, c24, c25, c26, u27, u28, u29, u30, u31, u32, u33, u34, u35, u36, u37, u38, u39, u40, u41, u42, u43, u44, u45, u46, u47, u48, u49, u50, u51, u52, u53, u54, u55, u56, u57, u58, u59, u60, u61, u62, u63, u64, u65, u66, u67, u68, u69, u70, u71, u72, u73, u74, u75, u76, u77, u78, u79, u80, u81, u82, u83, u84, u85, u86, u87, u88, u89, u90, u91, u92, u93, u94, u95, u96, u97, u98, u99, u100, u101, u102, u103, u104, u105, u106, u107, u108, u109, u110, u111, u112, u113, u114, u115, u116, u117, u118, u119, u120, u121, u122, u123, u124, u125, u126, u127, u128, u129, u130, u131, u132, u133, u134, u135, u136, u137, u138, u139, u140, u141, u142, u143, u144, u145, u146, u147, u148, u149, u150, u151, u152, u153, u154, u155, u156, u157, u158, u159, u160, u161, u162, u163, u164, u165, u166, u167, u168, u169, u170, u171, u172, u173, u174, u175, u176, u177, u178, u179, u180, u181, u182, u183, u184, u185, u186, u187, u188, u189, u190, u191, u192, u193, u194, u195, u196, u197, u198, u199, u200, u201, u202, u203, u204, u205, u206, u207, u208, u209, u210, u211, u212, u213, u214, u215, u216, u217, u218, u219, u220, u221, u222, u223, u224, u225, u226, u227, u228, u229, u230, u231, u232, u233, u234, u235, u236, u237, u238, u239, u240, u241, u242, u243, u244, u245, u246, u247, undef], []⟩) → J a' w') (hK : ∀ (a' : Act) (w' : World), Met J a' w' → K' a' w') (Q : Exit → Act → World → Prop) (hQp : ∀ c (a : Act) (d : Tmp) (v : Value) (w : World), Q (.panic c) (a.put (some d) v) w → Q (.panic c) a w) (na : Option Addr) (nc : Nat) (ST4 : Hid (BlSt (T :: H) S W (w.heap.size + 1) vg (.slice ma ms.length mc) (.slice (some ⟨fb, fo, none⟩) fs.length fc) ar W2 vs (.slice na vs.length nc) al (.slice oa al.length oc) m w4)) (hFT : ¬ w.heap.size ∈ [T]) (hTF : ¬ T = w.heap.size) (hFT' : ¬ w.heap.size = T) (hTSW : ¬ T ∈ [S, W]) (hFSW : ¬ w.heap.size ∈ [S, W]) (hsT : ∀ (x : Nat), x ∈ [T] → x ∈ ownB (Value.slice oa al.length oc) ++ (ownB (Value.slice na vs.length nc) ++ T :: H)) (hsS : ∀ (x : Nat), x ∈ [S] → x ∈ ownB (Value.slice oa al.length oc) ++ (ownB (Value.slice na vs.length nc) ++ T :: H)) (hsW : ∀ (x : Nat), x ∈ [S, W] → x ∈ ownB (Value.slice oa al.length oc) ++ (ownB (Value.slice na vs.length nc) ++ T :: H)) (hq : q = 9) :
  Code.wp Tryd.prog swCode (Exit.then K' Q) ⟨#[.pointer (some ⟨W, 0, none⟩), .agg #[.string fn, .slice pa ps.length pc, .slice ba bn bc], (.slice na vs.length nc), .int .i64 deep, .int .i64 most, undef, .pointer (some ⟨w.heap.size, 0, none⟩), undef, undef, undef, .slice none 0 0, (.slice oa al.length oc), .int .i64 k, .pointer (some ⟨T, 0, none⟩), .int .i64 q, y15, y16, .slice (some ⟨w.heap.size + 1, 0, none⟩) 0 0, vv, u0, c20, c21, c22, c23, c24, c25, c26, y27, y28, y29, y30, y31, y32, y33, y34, y35, y36, y37, y38, y39, y40, y41, y42, y43, y44, y45, y46, y47, y48, y49, y50, y51, y52, y53, y54, y55, y56, y57, y58, y59, y60, y61, y62, y63, y64, y65, y66, y67, y68, y69, y70, y71, y72, y73, y74, y75, y76, y77, y78, y79, y80, y81, y82, y83, y84, y85, y86, y87, y88, y89, y90, y91, y92, y93, y94, y95, y96, y97, y98, y99, y100, y101, y102, y103, y104, y105, y106, y107, y108, y109, y110, y111, y112, y113, y114, y115, y116, y117, y118, y119, y120, y121, y122, y123, y124, y125, y126, y127, y128, y129, y130, y131, y132, y133, y134, y135, y136, y137, y138, y139, y140, y141, y142, y143, y144, y145, y146, y147, y148, y149, y150, y151, y152, y153, y154, y155, y156, y157, y158, y159, y160, y161, y162, y163, y164, y165, y166, y167, y168, y169, y170, y171, y172, y173, y174, y175, y176, y177, y178, y179, y180, y181, y182, y183, y184, y185, y186, y187, y188, y189, y190, y191, y192, y193, y194, y195, y196, y197, y198, y199, y200, y201, y202, y203, y204, y205, y206, y207, y208, y209, y210, y211, y212, y213, y214, y215, y216, y217, y218, y219, y220, y221, y222, y223, y224, y225, y226, y227, y228, y229, y230, y231, y232, y233, y234, y235, y236, y237, y238, y239, y240, y241, y242, y243, y244, y245, y246, y247, undef], []⟩ w4 := by
 conv => arg 2; whnf
 subst hq
 obtain ⟨i0, hi, hz0, hz1, hz2⟩ := info_parts strInfo
 obtain ⟨i1, hj, hy0, hy1, hy2⟩ := info_parts stmtInfo
 (try dsimp only)
 go_upto_region 27 with fail
 have hk5 : Keep [T] w4 (w4.setCell ⟨T, 0, none⟩ (.int .i64 3)) := ((Keep.refl [T] w4).setCell (p := ⟨T, 0, none⟩) (.inl (List.mem_singleton.2 rfl)) (.int .i64 3))
 have ST5 := Lib.hid (ST4.out.boxed hk5 (fun x hx => by simp at hx; subst hx; exact ⟨List.mem_cons_self .., hTW⟩))
 have tb5 : Ce11f (w4.setCell ⟨T, 0, none⟩ (.int .i64 3)) T (.int .i64 3) (.string ⟨#[]⟩) (.int .i64 0) (.int .i64 0) (.string ⟨#[]⟩) (.slice none 0 0) (.string ⟨#[]⟩) (.slice none 0 0) (.slice none 0 0) (.slice none 0 0) (.slice none 0 0) := ⟨by go_simp, by go_simp, by go_simp, by go_simp, by go_simp, by go_simp, by go_simp, by go_simp, by go_simp, by go_simp, by go_simp, fun o => by go_simp⟩
 unfold Ce11f at tb5
 have fx5 := fkeep fx4 hk5 hFT
 have wc5 := ST5.out.wc
 unfold WCells at wc5
 have HK5 := Lib.hid hk5
 clear tb4 fx4 wc4 hk5
 generalize (w4.setCell ⟨T, 0, none⟩ (.int .i64 3)) = w5 at ST5 tb5 fx5 wc5 HK5 ⊢
 go_cut [15] from 154 to 171 (fun g wc => ∃ (G : Nat) (gs : Sig) (qa b2 : Option Addr) (qc b2n b2c : Nat), g = .pointer (some ⟨G, 0, none⟩) ∧ gs ∈ fs ∧ BlSt (T :: H) S W (w.heap.size + 1) vg (.slice ma ms.length mc) (.slice (some ⟨fb, fo, none⟩) fs.length fc) ar W2 vs (.slice na vs.length nc) al (.slice oa al.length oc) m wc ∧ (wc.cell? ⟨T, 0, none⟩ = some (.int .i64 3) ∧ wc.cell? ⟨T, 1, none⟩ = some (.string ⟨#[]⟩) ∧ wc.cell? ⟨T, 2, none⟩ = some (.int .i64 0) ∧ wc.cell? ⟨T, 3, none⟩ = some (.int .i64 0) ∧ wc.cell? ⟨T, 4, none⟩ = some (.string ⟨#[]⟩) ∧ wc.cell? ⟨T, 5, none⟩ = some (.slice none 0 0) ∧ wc.cell? ⟨T, 6, none⟩ = some (.string ⟨#[]⟩) ∧ wc.cell? ⟨T, 7, none⟩ = some (.slice none 0 0) ∧ wc.cell? ⟨T, 8, none⟩ = some (.slice none 0 0) ∧ wc.cell? ⟨T, 9, none⟩ = some (.slice none 0 0) ∧ wc.cell? ⟨T, 10, none⟩ = some (.slice none 0 0) ∧ ∀ o, wc.frozen? ⟨T, o, none⟩ = false) ∧ (wc.cell? ⟨w.heap.size, 0, none⟩ = some (.string fn) ∧ wc.cell? ⟨w.heap.size, 1, none⟩ = some (.slice pa ps.length pc) ∧ wc.cell? ⟨w.heap.size, 2, none⟩ = some (.slice ba bn bc)) ∧ (wc.cell? ⟨G, 0, none⟩ = some (.string gs.1) ∧ wc.cell? ⟨G, 1, none⟩ = some (.slice qa gs.2.length qc) ∧ wc.cell? ⟨G, 2, none⟩ = some (.slice b2 b2n b2c)) ∧ G ≠ T ∧ G ≠ S ∧ ListRep (hideL (ownB (.slice oa al.length oc) ++ (ownB (.slice na vs.length nc) ++ T :: H)) wc) ParamRep 2 (.slice qa gs.2.length qc) gs.2)
 case first =>
  have hdr : Keep [] w5 w5.drew := (Keep.refl _ _).drew
  refine wp_region_held_drew (S := fun w' => w'.cell? ⟨W, 0, none⟩ = some (.pointer (some ⟨S, 0, none⟩)) ∧ w'.cell? ⟨W, 3, none⟩ = some (.slice (some ⟨fb, fo, none⟩) fs.length fc) ∧ Hid (Keep [S, W] w w')) (by kernel_rfl) ⟨wc5.1, wc5.2.2.2.1, Lib.hid ((HKI.out.trans ST5.out.keep).drew)⟩ (fun hHeld => ?_)
  have ST6 := Lib.hid (ST5.out.drew)
  have tb6 := tkeep tb5 hdr (by simp)
  have fx6 := fkeep fx5 hdr (by simp)
  have wc6 := ST6.out.wc
  unfold WCells at wc6
  clear hdr tb5 fx5 wc5
  generalize w5.drew = w6 at ST6 tb6 fx6 wc6 hHeld ⊢
  refine held_take 0 (v := ?vv79) (by kernel_rfl) rfl (by rfl) (by kernel_rfl) (by kernel_rfl) (fun _ _ _ h => hQp _ _ _ _ _ h) ?hyy79 (by assumption) ?rest79
  case hyy79 => (intro w hSw; (try dsimp only at hSw); go_simp; (try with_reducible rfl))
  (try go_frame)
  refine held_take 1 (v := ?vv80) (by kernel_rfl) rfl (by rfl) (by kernel_rfl) (by kernel_rfl) (fun _ _ _ h => hQp _ _ _ _ _ h) ?hyy80 (by assumption) ?rest80
  case hyy80 => (intro w hSw; (try dsimp only at hSw); go_simp; (try with_reducible rfl))
  (try go_frame)
  refine held_take 2 (v := ?vv81) (by kernel_rfl) rfl (by rfl) (by kernel_rfl) (by kernel_rfl) (fun _ _ _ h => hQp _ _ _ _ _ h) ?hyy81 (by assumption) ?rest81
  case hyy81 => (intro w hSw; (try dsimp only at hSw); go_simp; (try with_reducible rfl))
  (try go_frame)
  refine held_take 3 (v := ?vv82) (by kernel_rfl) rfl (by rfl) (by kernel_rfl) (by kernel_rfl) (fun _ _ _ h => hQp _ _ _ _ _ h) ?hyy82 (by assumption) ?rest82
  case hyy82 => (intro w hSw; (try dsimp only at hSw); go_simp; (try with_reducible rfl))
  (try go_frame)
  refine held_take 4 (v := ?vv83) (by kernel_rfl) rfl (by rfl) (by kernel_rfl) (by kernel_rfl) (fun _ _ _ h => hQp _ _ _ _ _ h) ?hyy83 (by assumption) ?rest83
  case hyy83 => (intro w hSw; (try dsimp only at hSw); go_simp; (try with_reducible rfl))
  (try go_frame)
  refine held_take 5 (v := ?vv84) (by kernel_rfl) rfl (by rfl) (by kernel_rfl) (by kernel_rfl) (fun _ _ _ h => hQp _ _ _ _ _ h) ?hyy84 (by assumption) ?rest84
  case hyy84 => (intro w hSw; (try dsimp only at hSw); go_simp; (try with_reducible rfl))
  (try go_frame)
  refine held_take 6 (v := ?vv85) (by kernel_rfl) rfl (by rfl) (by kernel_rfl) (by kernel_rfl) (fun _ _ _ h => hQp _ _ _ _ _ h) ?hyy85 (by assumption) ?rest85
  case hyy85 => (intro w hSw; (try dsimp only at hSw); go_simp; (try with_reducible rfl))
  (try go_frame)
  refine held_take 7 (v := ?vv86) (by kernel_rfl) rfl (by rfl) (by kernel_rfl) (by kernel_rfl) (fun _ _ _ h => hQp _ _ _ _ _ h) ?hyy86 (by assumption) ?rest86
  case hyy86 => (intro w hSw; (try dsimp only at hSw); go_simp; (try with_reducible rfl))
  (try go_frame)
  refine held_take 8 (v := ?vv87) (by kernel_rfl) rfl (by rfl) (by kernel_rfl) (by kernel_rfl) (fun _ _ _ h => hQp _ _ _ _ _ h) ?hyy87 (by assumption) ?rest87
  case hyy87 => (intro w hSw; (try dsimp only at hSw); go_simp; (try with_reducible rfl))
  (try go_frame)
  refine held_take 9 (v := ?vv88) (by kernel_rfl) rfl (by rfl) (by kernel_rfl) (by kernel_rfl) (fun _ _ _ h => hQp _ _ _ _ _ h) ?hyy88 (by assumption) ?rest88
  case hyy88 => (intro w hSw; (try dsimp only at hSw); go_simp; (try with_reducible rfl))
  (try go_frame)
  refine held_take 10 (v := ?vv89) (by kernel_rfl) rfl (by rfl) (by kernel_rfl) (by kernel_rfl) (fun _ _ _ h => hQp _ _ _ _ _ h) ?hyy89 (by assumption) ?rest89
  case hyy89 => (intro w hSw; (try dsimp only at hSw); go_simp; (try with_reducible rfl))
  (try go_frame)
  refine held_take 11 (v := ?vv90) (by kernel_rfl) rfl (by rfl) (by kernel_rfl) (by kernel_rfl) (fun _ _ _ h => hQp _ _ _ _ _ h) ?hyy90 (by assumption) ?rest90
  case hyy90 => (intro w hSw; (try dsimp only at hSw); go_simp; (try with_reducible rfl))
  (try go_frame)
  refine held_take 12 (v := ?vv91) (by kernel_rfl) rfl (by rfl) (by kernel_rfl) (by kernel_rfl) (fun _ _ _ h => hQp _ _ _ _ _ h) ?hyy91 (by assumption) ?rest91
  case hyy91 => (intro w hSw; (try dsimp only at hSw); go_simp; (try with_reducible rfl))
  (try go_frame)
  refine held_take 13 (v := ?vv92) (by kernel_rfl) rfl (by rfl) (by kernel_rfl) (by kernel_rfl) (fun _ _ _ h => hQp _ _ _ _ _ h) ?hyy92 (by assumption) ?rest92
  case hyy92 => (intro w hSw; (try dsimp only at hSw); go_simp; (try with_reducible rfl))
  (try go_frame)
  refine held_take 14 (v := ?vv93) (by kernel_rfl) rfl (by rfl) (by kernel_rfl) (by kernel_rfl) (fun _ _ _ h => hQp _ _ _ _ _ h) ?hyy93 (by assumption) ?rest93
  case hyy93 => (intro w hSw; (try dsimp only at hSw); go_simp; (try with_reducible rfl))
  (try go_frame)
  refine held_two 15 18 (by kernel_rfl) rfl rfl (by rfl) (by rfl) (fun K' hK => ?_) (fun K' hK => ?_)
  ·go_simp
   refine (next_src (fs.length : Int) _ S _ ST6.out.src (by omega) (by omega)).mono ?_
   intro e w7 hq
   obtain ⟨z, rfl, z0, z1, hs7, hk7⟩ := Src.next hq
   clear hq
   (try dsimp only)
   refine hK.out _ _ ⟨(ST6.out.callS hs7 hk7).wc.1, (ST6.out.callS hs7 hk7).wc.2.2.2.1, Lib.hid (HKI.out.trans (ST6.out.callS hs7 hk7).keep)⟩ (fun hHeld' => ?_)
   clear hK K' hHeld
   have hHeld := hHeld'
   clear hHeld'
   (try go_frame)
   have ST7 := Lib.hid (ST6.out.callS hs7 hk7)
   have tb7 := tkeep tb6 hk7 hTS
   have fx7 := fkeep fx6 hk7 hFS
   have wc7 := ST7.out.wc
   unfold WCells at wc7
   have HK7 := Lib.hid hk7
   clear tb6 fx6 wc6 hs7 hk7
   obtain ⟨i, rfl⟩ : ∃ i : Nat, z = i := ⟨z.toNat, by omega⟩
   have hiv : i < fs.length := by omega
   obtain ⟨fb', fo', fcap, row, hsl, hc', hR, hrow, hblt, hcells⟩ := HIN.out.hfs.get (by omega) hiv
   cases hsl
   obtain ⟨qa, qc, vb, rfl, hqr, ba2, bn2, bc2, rfl⟩ := hR
   have ec0 := hcells 0 _ rfl
   have ec1 := hcells 1 _ rfl
   have ec2 := hcells 2 _ rfl
   rw [Nat.add_zero] at ec0
   clear hcells hrow
   obtain ⟨gs, hgs⟩ : ∃ gs, gs = fs[i] := ⟨_, rfl⟩
   rw [← hgs] at ec0 ec1 hqr
   have hgm : gs ∈ fs := by rw [hgs]; exact List.getElem_mem hiv
   clear hgs
   (try dsimp only at ec0 ec1 ec2)
   refine held_take 16 (v := ?vv94) (by kernel_rfl) rfl (by rfl) (by kernel_rfl) (by kernel_rfl) (fun _ _ _ h => hQp _ _ _ _ _ h) ?hyy94 (by assumption) ?rest94
   case hyy94 => (intro w hSw; (try dsimp only at hSw); go_simp; (try with_reducible rfl))
   (try go_frame)
   refine held_take 17 (v := ?vv95) (by kernel_rfl) rfl (by rfl) (by kernel_rfl) (by kernel_rfl) (fun _ _ _ h => hQp _ _ _ _ _ h) ?hyy95 (by assumption) ?rest95
   case hyy95 => (intro w hSw; have k9 := hSw.2.2.out; have g0 := k9.old ec0; have g1 := k9.old ec1; have g2 := k9.old ec2; clear hSw k9; go_simp; (try with_reducible rfl))
   (try go_frame)
   refine held_one 18 (by kernel_rfl) rfl (by rfl) (fun K' hK => ?_)
   go_simp
   (try dsimp only)
   refine hK.out _ _ ⟨(ST7.out.alloc _).wc.1, (ST7.out.alloc _).wc.2.2.2.1, Lib.hid ((HKI.out.trans ST7.out.keep).alloc _)⟩ (fun hHeld' => ?_)
   clear hK K' hHeld
   have hHeld := hHeld'
   clear hHeld'
   (try go_frame)
   refine held_one 19 (by kernel_rfl) rfl (by rfl) (fun K' hK => ?_)
   go_simp
   (try dsimp only)
   refine hK.out _ _ ⟨(ST7.out.alloc _).wc.1, (ST7.out.alloc _).wc.2.2.2.1, Lib.hid ((HKI.out.trans ST7.out.keep).alloc _)⟩ (fun hHeld' => ?_)
   clear hK K' hHeld
   have hHeld := hHeld'
   clear hHeld'
   (try go_frame)
   clear hHeld
   have hT7 := ST7.out.hH T (List.mem_cons_self ..)
   have hS7 := ST7.out.hH S ST7.out.mS
   refine wpAnyH_done (by kernel_rfl) ?_ _
   (try dsimp only)
   go_wp2_with fail
   go_meet
   case rel => exact ⟨w7.heap.size, gs, qa, ba2, qc, bn2, bc2, rfl, hgm, ST7.out.alloc _, tkeep tb7 ((Keep.refl [] _).alloc _) (by simp), fkeep fx7 ((Keep.refl [] _).alloc _) (by simp), ⟨by go_simp, by go_simp, by go_simp⟩, by have := ST0.out.hS; omega, by have := ST0.out.hS; omega, hqr.mono ((ST7.out.alloc _).ctIn HIN.out HBW.out hTW) (fun _ _ _ h => h)⟩
  ·go_simp
   (try dsimp only)
   refine hK.out _ _ ⟨(ST6.out.alloc _).wc.1, (ST6.out.alloc _).wc.2.2.2.1, Lib.hid ((HKI.out.trans ST6.out.keep).alloc _)⟩ (fun hHeld' => ?_)
   clear hK K' hHeld
   have hHeld := hHeld'
   clear hHeld'
   (try go_frame)
   have ak : Keep [W] w6 (w6.alloc (.cells #[.string ⟨#[]⟩, .slice none 0 0, .slice none 0 0] 76)) := (Keep.refl _ _).alloc _
   have ST7 := Lib.hid (ST6.out.box ak rfl (by simp) (ST6.out.alloc _).wc (ST6.out.alloc _).free)
   have hT6 := ST6.out.hH T (List.mem_cons_self ..)
   have hS6 := ST6.out.hH S ST6.out.mS
   have hW6 := ST6.out.hH W ST6.out.mW
   have tb7 := tkeep tb6 ak (by have := ST0.out.hW; simp; omega)
   have fx7 := fkeep fx6 ak (by simp; omega)
   have gx7 : Ce3 (w6.alloc (.cells #[.string ⟨#[]⟩, .slice none 0 0, .slice none 0 0] 76)) w6.heap.size (.string ⟨#[]⟩) (.slice none 0 0) (.slice none 0 0) := ⟨by go_simp, by go_simp, by go_simp⟩
   unfold Ce3 at gx7
   have gf7 : ∀ o, (w6.alloc (.cells #[.string ⟨#[]⟩, .slice none 0 0, .slice none 0 0] 76)).frozen? ⟨w6.heap.size, o, none⟩ = false := fun o => by go_simp
   have wc7 := ST7.out.wc
   unfold WCells at wc7
   clear tb6 fx6 wc6
   generalize w6.alloc (.cells #[.string ⟨#[]⟩, .slice none 0 0, .slice none 0 0] 76) = w7 at ak ST7 tb7 fx7 gx7 gf7 wc7 hHeld ⊢
   have hGS : w6.heap.size ∉ [S] := by simp; omega
   refine held_one 15 (by kernel_rfl) rfl (by rfl) (fun K' hK => ?_)
   go_simp
   refine (next_src (fs.length : Int) _ S _ ST7.out.src (by omega) (by omega)).mono ?_
   intro e w8 hq
   obtain ⟨z, rfl, z0, z1, hs8, hk8⟩ := Src.next hq
   clear hq
   (try dsimp only)
   refine hK.out _ _ ⟨(ST7.out.callS hs8 hk8).wc.1, (ST7.out.callS hs8 hk8).wc.2.2.2.1, Lib.hid (HKI.out.trans (ST7.out.callS hs8 hk8).keep)⟩ (fun hHeld' => ?_)
   clear hK K' hHeld
   have hHeld := hHeld'
   clear hHeld'
   (try go_frame)
   have gx8 := fkeep gx7 hk8 hGS
   have gf8 : ∀ o, w8.frozen? ⟨w6.heap.size, o, none⟩ = false := fun o => by rw [hk8.frozen (p := ⟨w6.heap.size, o, none⟩) (show w6.heap.size < w7.heap.size from cell_lt gx7.1) hGS]; exact gf7 o
   have ST8 := Lib.hid (ST7.out.callS hs8 hk8)
   have tb8 := tkeep tb7 hk8 hTS
   have fx8 := fkeep fx7 hk8 hFS
   have wc8 := ST8.out.wc
   unfold WCells at wc8
   have HK8 := Lib.hid hk8
   clear tb7 fx7 wc7 hs8 hk8
   obtain ⟨i, rfl⟩ : ∃ i : Nat, z = i := ⟨z.toNat, by omega⟩
   have hiv : i < fs.length := by omega
   obtain ⟨fb', fo', fcap, row, hsl, hc', hR, hrow, hblt, hcells⟩ := HIN.out.hfs.get (by omega) hiv
   cases hsl
   obtain ⟨qa, qc, vb, rfl, hqr, ba2, bn2, bc2, rfl⟩ := hR
   have ec0 := hcells 0 _ rfl
   have ec1 := hcells 1 _ rfl
   have ec2 := hcells 2 _ rfl
   rw [Nat.add_zero] at ec0
   clear hcells hrow
   obtain ⟨gs, hgs⟩ : ∃ gs, gs = fs[i] := ⟨_, rfl⟩
   rw [← hgs] at ec0 ec1 hqr
   have hgm : gs ∈ fs := by rw [hgs]; exact List.getElem_mem hiv
   clear hgs
   (try dsimp only at ec0 ec1 ec2)
   refine held_take 16 (v := ?vv96) (by kernel_rfl) rfl (by rfl) (by kernel_rfl) (by kernel_rfl) (fun _ _ _ h => hQp _ _ _ _ _ h) ?hyy96 (by assumption) ?rest96
   case hyy96 => (intro w hSw; (try dsimp only at hSw); go_simp; (try with_reducible rfl))
   (try go_frame)
   refine held_take 17 (v := ?vv97) (by kernel_rfl) rfl (by rfl) (by kernel_rfl) (by kernel_rfl) (fun _ _ _ h => hQp _ _ _ _ _ h) ?hyy97 (by assumption) ?rest97
   case hyy97 => (intro w hSw; have k9 := hSw.2.2.out; have g0 := k9.old ec0; have g1 := k9.old ec1; have g2 := k9.old ec2; clear hSw k9; go_simp; (try with_reducible rfl))
   (try go_frame)
   have hgk : Keep [w6.heap.size] w8 (((w8.setCell ⟨w6.heap.size, 0, none⟩ (.string gs.1)).setCell ⟨w6.heap.size, 1, none⟩ (.slice qa gs.2.length qc)).setCell ⟨w6.heap.size, 2, none⟩ (.slice ba2 bn2 bc2)) := (((Keep.refl [w6.heap.size] w8).setCell (p := ⟨w6.heap.size, 0, none⟩) (.inl (List.mem_singleton.2 rfl)) (.string gs.1)).setCell (p := ⟨w6.heap.size, 1, none⟩) (.inl (List.mem_singleton.2 rfl)) (.slice qa gs.2.length qc)).setCell (p := ⟨w6.heap.size, 2, none⟩) (.inl (List.mem_singleton.2 rfl)) (.slice ba2 bn2 bc2)
   have st9 := ST8.out.boxed hgk (fun x hx => by simp at hx; subst hx; exact ⟨List.mem_cons_self .., by omega⟩)
   have ST9 := Lib.hid (st9.unbox ST6.out.mS ST6.out.mW)
   clear st9
   refine held_one 19 (by kernel_rfl) rfl (by rfl) (fun K' hK => ?_)
   go_simp
   (try dsimp only)
   refine hK.out _ _ ⟨ST9.out.wc.1, ST9.out.wc.2.2.2.1, Lib.hid (HKI.out.trans ST9.out.keep)⟩ (fun hHeld' => ?_)
   clear hK K' hHeld
   have hHeld := hHeld'
   clear hHeld'
   (try go_frame)
   clear hHeld
   have hGT : T ∉ [w6.heap.size] := by simp; omega
   refine wpAnyH_done (by kernel_rfl) ?_ _
   (try dsimp only)
   go_wp2_with fail
   go_meet
   case rel => exact ⟨w6.heap.size, gs, qa, ba2, qc, bn2, bc2, rfl, hgm, ST9.out, tkeep tb8 hgk hGT, fkeep fx8 hgk (by have := HW2S.out; simp; omega), ⟨by go_simp, by go_simp, by go_simp⟩, by have := ST0.out.hS; omega, by have := ST0.out.hS; omega, hqr.mono (ST9.out.ctIn HIN.out HBW.out hTW) (fun _ _ _ h => h)⟩
 case rest =>
  obtain ⟨G, gs, qa, b2, qc, b2n, b2c, rfl, hgm, st20, tb20, fx20, gx20, hGTne, hGSne, hqr⟩ := hcut
  obtain ⟨w20, hw20⟩ : ∃ x, x = wc := ⟨_, rfl⟩
  subst hw20
  have ST20 := Lib.hid st20
  have wc20 := st20.wc
  unfold WCells at wc20
  clear st20 tb5 fx5 wc5
  have hGT : G ∉ [T] := by simpa using hGTne
  have hGS : G ∉ [S] := by simpa using hGSne
  have hGT' : ¬ (T = G) := fun h => hGTne h.symm
  have hq2 := HFP.out gs hgm
  have HQR := Lib.hid hqr
  clear hqr
  (try dsimp only)
  go_wp2_with fail
  have hdr : Keep [] w20 w20.drew := (Keep.refl _ _).drew
  refine wp_region_held_drew (S := fun w' => w'.cell? ⟨G, 0, none⟩ = some (.string gs.1) ∧ w'.cell? ⟨G, 1, none⟩ = some (.slice qa gs.2.length qc) ∧ w'.cell? ⟨G, 2, none⟩ = some (.slice b2 b2n b2c) ∧ w'.cell? ⟨w.heap.size, 0, none⟩ = some (.string fn) ∧ w'.cell? ⟨w.heap.size, 1, none⟩ = some (.slice pa ps.length pc) ∧ w'.cell? ⟨w.heap.size, 2, none⟩ = some (.slice ba bn bc)) (by kernel_rfl) (by have a9 := fkeep gx20 hdr (by simp); have b9 := fkeep fx20 hdr (by simp); exact ⟨a9.1, a9.2.1, a9.2.2, b9.1, b9.2.1, b9.2.2⟩) (fun hHeld => ?_)
  have HQ1 : Hid (ListRep (hideL (ownB (.slice oa al.length oc) ++ (ownB (.slice na vs.length nc) ++ T :: H)) w20.drew) ParamRep 2 (.slice qa gs.2.length qc) gs.2) := Lib.hid (HQR.out.mono (CT.of_keep hdr (fun x hx => by simp at hx)) (fun _ _ _ h => h))
  clear HQR
  have ST21 := Lib.hid (ST20.out.drew)
  have tb21 := tkeep tb20 hdr (by simp)
  have fx21 := fkeep fx20 hdr (by simp)
  have wc21 := ST21.out.wc
  unfold WCells at wc21
  clear hdr tb20 fx20 wc20
  generalize w20.drew = w21 at ST21 tb21 fx21 wc21 hHeld HQ1 ⊢
  have gx21 : w21.cell? ⟨G, 0, none⟩ = some (.string gs.1) ∧ w21.cell? ⟨G, 1, none⟩ = some (.slice qa gs.2.length qc) ∧ w21.cell? ⟨G, 2, none⟩ = some (.slice b2 b2n b2c) := ⟨hHeld.1, hHeld.2.1, hHeld.2.2.1⟩
  refine held_take 0 (v := ?vv98) (by kernel_rfl) rfl (by rfl) (by kernel_rfl) (by kernel_rfl) (fun _ _ _ h => hQp _ _ _ _ _ h) ?hyy98 (by assumption) ?rest98
  case hyy98 => (intro w hSw; (try dsimp only at hSw); go_simp; (try with_reducible rfl))
  (try go_frame)
  refine held_take 1 (v := ?vv99) (by kernel_rfl) rfl (by rfl) (by kernel_rfl) (by kernel_rfl) (fun _ _ _ h => hQp _ _ _ _ _ h) ?hyy99 (by assumption) ?rest99
  case hyy99 => (intro w hSw; (try dsimp only at hSw); go_simp; (try with_reducible rfl))
  (try go_frame)
  refine held_take 2 (v := ?vv100) (by kernel_rfl) rfl (by rfl) (by kernel_rfl) (by kernel_rfl) (fun _ _ _ h => hQp _ _ _ _ _ h) ?hyy100 (by assumption) ?rest100
  case hyy100 => (intro w hSw; (try dsimp only at hSw); go_simp; (try with_reducible rfl))
  (try go_frame)
  refine held_take 3 (v := ?vv101) (by kernel_rfl) rfl (by rfl) (by kernel_rfl) (by kernel_rfl) (fun _ _ _ h => hQp _ _ _ _ _ h) ?hyy101 (by assumption) ?rest101
  case hyy101 => (intro w hSw; (try dsimp only at hSw); go_simp; (try with_reducible rfl))
  (try go_frame)
  refine held_take 4 (v := ?vv102) (by kernel_rfl) rfl (by rfl) (by kernel_rfl) (by kernel_rfl) (fun _ _ _ h => hQp _ _ _ _ _ h) ?hyy102 (by assumption) ?rest102
  case hyy102 => (intro w hSw; (try dsimp only at hSw); go_simp; (try with_reducible rfl))
  (try go_frame)
  refine held_take 5 (v := ?vv103) (by kernel_rfl) rfl (by rfl) (by kernel_rfl) (by kernel_rfl) (fun _ _ _ h => hQp _ _ _ _ _ h) ?hyy103 (by assumption) ?rest103
  case hyy103 => (intro w hSw; (try dsimp only at hSw); go_simp; (try with_reducible rfl))
  (try go_frame)
  refine held_take 7 (v := ?vv104) (by kernel_rfl) rfl (by rfl) (by kernel_rfl) (by kernel_rfl) (fun _ _ _ h => hQp _ _ _ _ _ h) ?hyy104 (by assumption) ?rest104
  case hyy104 => (intro w hSw; (try dsimp only at hSw); go_simp; (try with_reducible rfl))
  (try go_frame)
  refine held_one 6 (by kernel_rfl) rfl (by rfl) (fun K' hK => ?_)
  go_simp
  have BI21 := Lib.hid (ST21.out.into HIN.out HBW.out hTW)
  refine (margs_any (H := (ownB (.slice oa al.length oc) ++ (ownB (.slice na vs.length nc) ++ T :: H))) (N := [S, W]) ms ps gs.2 vs (.slice na vs.length nc) fn gs.1 ma pa ba qa b2 mc pc bn bc qc b2n b2c BI21.out.src (by simp) BI21.out.hH BI21.out.hv (by omega) BI21.out.wc HWS.out (BI21.out.hH W BI21.out.mem) BI21.out.hms hm1 hm2 HMZ.out BI21.out.hps hp2 HQ1.out hq2).mono ?_
  intro e w22 hq
  obtain ⟨⟨ag, agv, rfl, agm, agr⟩, hs22, hk22⟩ := hq
  obtain ⟨aga, agc, rfl, _⟩ := agr.slice
  (try dsimp only)
  refine hK.out _ _ (by have a9 := fkeep gx21 hk22 hGS; have b9 := fkeep fx21 hk22 hFS; exact ⟨a9.1, a9.2.1, a9.2.2, b9.1, b9.2.1, b9.2.2⟩) (fun hHeld' => ?_)
  clear hK K' hHeld
  have hHeld := hHeld'
  clear hHeld'
  (try go_frame)
  have gx22 := fkeep gx21 hk22 hGS
  have ST22 := Lib.hid (ST21.out.callS hs22 hk22)
  have tb22 := tkeep tb21 hk22 hTS
  have fx22 := fkeep fx21 hk22 hFS
  have wc22 := ST22.out.wc
  unfold WCells at wc22
  have HK22 := Lib.hid hk22
  clear tb21 fx21 wc21 hs22 hk22
  have AGR := Lib.hid agr
  have AGM := Lib.hid agm
  clear agr agm
  refine held_one 8 (by kernel_rfl) rfl (by rfl) (fun K' hK => ?_)
  go_simp
  (try dsimp only)
  refine hK.out _ _ (by have a9 := fkeep gx22 ((Keep.refl [T] w22).setCell (p := ⟨T, 1, none⟩) (.inl (List.mem_singleton.2 rfl)) (.string gs.1)) hGT; have b9 := fkeep fx22 ((Keep.refl [T] w22).setCell (p := ⟨T, 1, none⟩) (.inl (List.mem_singleton.2 rfl)) (.string gs.1)) hFT; exact ⟨a9.1, a9.2.1, a9.2.2, b9.1, b9.2.1, b9.2.2⟩) (fun hHeld' => ?_)
  clear hK K' hHeld
  have hHeld := hHeld'
  clear hHeld'
  (try go_frame)
  refine held_take 9 (v := ?vv105) (by kernel_rfl) rfl (by rfl) (by kernel_rfl) (by kernel_rfl) (fun _ _ _ h => hQp _ _ _ _ _ h) ?hyy105 (by assumption) ?rest105
  case hyy105 => (intro w hSw; (try dsimp only at hSw); go_simp; (try with_reducible rfl))
  (try go_frame)
  refine held_one 10 (by kernel_rfl) rfl (by rfl) (fun K' hK => ?_)
  go_simp
  (try dsimp only)
  refine hK.out _ _ (by have a9 := fkeep gx22 (((Keep.refl [T] w22).setCell (p := ⟨T, 1, none⟩) (.inl (List.mem_singleton.2 rfl)) (.string gs.1)).setCell (p := ⟨T, 8, none⟩) (.inl (List.mem_singleton.2 rfl)) (.slice aga ag.length agc)) hGT; have b9 := fkeep fx22 (((Keep.refl [T] w22).setCell (p := ⟨T, 1, none⟩) (.inl (List.mem_singleton.2 rfl)) (.string gs.1)).setCell (p := ⟨T, 8, none⟩) (.inl (List.mem_singleton.2 rfl)) (.slice aga ag.length agc)) hFT; exact ⟨a9.1, a9.2.1, a9.2.2, b9.1, b9.2.1, b9.2.2⟩) (fun hHeld' => ?_)
  clear hK K' hHeld
  have hHeld := hHeld'
  clear hHeld'
  (try go_frame)
  clear hHeld
  refine wpAnyH_done (by kernel_rfl) ?_ _
  (try dsimp only)
  go_wp2_with fail
  go_meet
  case rel =>
   have hkT : Keep [T] w22 ((w22.setCell ⟨T, 1, none⟩ (.string gs.1)).setCell ⟨T, 8, none⟩ (.slice aga ag.length agc)) := (((Keep.refl [T] w22).setCell (p := ⟨T, 1, none⟩) (.inl (List.mem_singleton.2 rfl)) (.string gs.1)).setCell (p := ⟨T, 8, none⟩) (.inl (List.mem_singleton.2 rfl)) (.slice aga ag.length agc))
   exact ⟨vs, al, m, .mk 3 gs.1 .zero .zero ag [] [], 3, 0, 0, gs.1, ⟨#[]⟩, ⟨#[]⟩, none, none, aga, none, none, 0, 0, 0, 0, ag.length, agc, 0, 0, 0, 0, ST22.out.boxed hkT (fun x hx => by simp at hx; subst hx; exact ⟨List.mem_cons_self .., hTW⟩), (HTO.out.step [_] (fun rest l' hr => .call (.inl rfl) hgm AGM.out hr)), by omega, by omega, stmtRep_iff.2 ⟨_, _, _, _, _, rfl, (zeroE_rep _), (zeroR_rep _), (ListRep.mono (CT.of_keep hkT hsT) AGR.out (fun _ _ _ h => ArgRep.mono (CT.of_keep hkT hsT) h)), ListRep.nil _ _ _, ListRep.nil _ _ _⟩, by go_simp, by go_simp, by go_simp, by go_simp, by go_simp, by go_simp, by go_simp, by go_simp, by go_simp, by go_simp, by go_simp⟩
end Go.Proofs.YtlbocidcjmehfaaDoor
