import Derived.Test.YtlbocidcjmehfaaDoorBlk2J
import Derived.Test.YtlbocidcjmehfaaDoorA1J
set_option linter.unusedVariables false
set_option linter.unusedSimpArgs false
namespace Go.Proofs.YtlbocidcjmehfaaDoor
open Go.RowKit
set_option maxRecDepth 100000 in
set_option maxHeartbeats 8000000 in
theorem blk_p12 (ms : List AMutex) (fs : List Sig) (ps : List AParam) (fn : ByteArray) (ma pa ba : Option Addr) (fb fo mc pc fc bn bc S W : Nat) (vg : Value) (ar : Bool) (hm1 : 1 ≤ ms.length) (hm2 : ms.length ≤ 1000) (hf1 : 1 ≤ fs.length) (hf2 : fs.length ≤ 1000) (hp2 : ps.length ≤ 1000) (L deep : Nat) (hd : deep ≤ 100) (most : Nat) (hmost : most ≤ 1000) (vars : List ByteArray) (vv : Value) (hvl : vars.length + L ≤ 1000) (H : List Nat) (w : World) (IHZ : Hid (∀ (m : Nat), m < L → ∀ (zd zm : Int) (deep : Nat), zd = deep → deep ≤ 100 → ∀ (most : Nat), most ≤ 1000 → zm = most → ∀ (vars : List ByteArray) (vv : Value), vars.length + m ≤ 1000 → ∀ (H : List Nat) (w : World), BlkIn ms fs ps ma pa (some ⟨fb, fo, none⟩) mc pc fc H S W vg ar vars vv m w → Calls Tryd.prog 51 #[.pointer (some ⟨W, 0, none⟩), .agg #[.string fn, .slice pa ps.length pc, .slice ba bn bc], vv, .int .i64 zd, .int .i64 zm] w (BlkOk ms fs ps (.slice ma ms.length mc) (.slice (some ⟨fb, fo, none⟩) fs.length fc) H S W vg ar vars deep m w))) (HIN : Hid (BlkIn ms fs ps ma pa (some ⟨fb, fo, none⟩) mc pc fc H S W vg ar vars vv L w)) (HHw : Hid (∀ (x : Nat), x ∈ H → x < w.heap.size)) (HFP : Hid (∀ (g : Sig), g ∈ fs → g.2.length ≤ 1000)) (HMZ : Hid (∀ (m : AMutex), m ∈ ms → m.size ≤ 1000)) (hSl : S < w.heap.size) (hWl : W < w.heap.size) (HWS : Hid (W ≠ S)) (W2 : World) (HW2S : Hid (W2.heap.size = w.heap.size + 1)) (HBW : Hid (Below w.heap.size w W2)) (HKI : Hid (Keep [S, W] w W2)) (u0 : Value) (w1 : World) (ST0 : Hid (BlSt H S W (w.heap.size + 1) vg (.slice ma ms.length mc) (.slice (some ⟨fb, fo, none⟩) fs.length fc) ar W2 vars u0 [] (.slice none 0 0) L w1)) (n0 : Nat) (c20 c21 c22 c23 c24 c25 c26 y15 y16 y27 y28 y29 y30 y31 y32 y33 y34 y35 y36 y37 y38 y39 y40 y41 y42 y43 y44 y45 y46 y47 y48 y49 y50 y51 y52 y53 y54 y55 y56 y57 y58 y59 y60 y61 y62 y63 y64 y65 y66 y67 y68 y69 y70 y71 y72 y73 y74 y75 y76 y77 y78 y79 y80 y81 y82 y83 y84 y85 y86 y87 y88 y89 y90 y91 y92 y93 y94 y95 y96 y97 y98 y99 y100 y101 y102 y103 y104 y105 y106 y107 y108 y109 y110 y111 y112 y113 y114 y115 y116 y117 y118 y119 y120 y121 y122 y123 y124 y125 y126 y127 y128 y129 y130 y131 y132 y133 y134 y135 y136 y137 y138 y139 y140 y141 y142 y143 y144 y145 y146 y147 y148 y149 y150 y151 y152 y153 y154 y155 y156 y157 y158 y159 y160 y161 y162 y163 y164 y165 y166 y167 y168 y169 y170 y171 y172 y173 y174 y175 y176 y177 y178 y179 y180 y181 y182 y183 y184 y185 y186 y187 y188 y189 y190 y191 y192 y193 y194 y195 y196 y197 y198 y199 y200 y201 y202 y203 y204 y205 y206 y207 y208 y209 y210 y211 y212 y213 y214 y215 y216 y217 y218 y219 y220 y221 y222 y223 y224 y225 y226 y227 y228 y229 y230 y231 y232 y233 y234 y235 y236 y237 y238 y239 y240 y241 y242 y243 y244 y245 y246 y247 : Value) (vs : List ByteArray) (al : List AStmt) (k : Nat) (hk : k ≤ most) (oa : Option Addr) (oc : Nat) (hki : (0 : Int) < (k : Int)) (m : Nat) (hvl2 : vs.length + (m + 1) ≤ 1000) (hlf : m + 1 ≤ L) (hall : al.length + 2 * (m + 1) ≤ 2 * L) (HTO : Hid (BlTo ms fs ps vars deep L vs (m + 1) al)) (T : Nat) (hTW : W2.heap.size ≤ T) (w4 : World) (q : Int) (q0 : 0 ≤ q) (q1 : q < 14) (ST4K : Hid (Keep [S, W] W2 w4)) (hTS : ¬ T ∈ [S]) (tb4 : w4.cell? ⟨T, 0, none⟩ = some (.int .i64 5) ∧ w4.cell? ⟨T, 1, none⟩ = some (.string ⟨#[]⟩) ∧ w4.cell? ⟨T, 2, none⟩ = some (.int .i64 0) ∧ w4.cell? ⟨T, 3, none⟩ = some (.int .i64 0) ∧ w4.cell? ⟨T, 4, none⟩ = some (.string ⟨#[]⟩) ∧ w4.cell? ⟨T, 5, none⟩ = some (.slice none 0 0) ∧ w4.cell? ⟨T, 6, none⟩ = some (.string ⟨#[]⟩) ∧ w4.cell? ⟨T, 7, none⟩ = some (.slice none 0 0) ∧ w4.cell? ⟨T, 8, none⟩ = some (.slice none 0 0) ∧ w4.cell? ⟨T, 9, none⟩ = some (.slice none 0 0) ∧ w4.cell? ⟨T, 10, none⟩ = some (.slice none 0 0) ∧ ∀ o, w4.frozen? ⟨T, o, none⟩ = false) (hFS : ¬ w.heap.size ∈ [S]) (fx4 : w4.cell? ⟨w.heap.size, 0, none⟩ = some (.string fn) ∧ w4.cell? ⟨w.heap.size, 1, none⟩ = some (.slice pa ps.length pc) ∧ w4.cell? ⟨w.heap.size, 2, none⟩ = some (.slice ba bn bc)) (wc4 : w4.cell? ⟨W, 0, none⟩ = some (.pointer (some ⟨S, 0, none⟩)) ∧ w4.cell? ⟨W, 1, none⟩ = some vg ∧ w4.cell? ⟨W, 2, none⟩ = some (.slice ma ms.length mc) ∧ w4.cell? ⟨W, 3, none⟩ = some (.slice (some ⟨fb, fo, none⟩) fs.length fc) ∧ w4.cell? ⟨W, 4, none⟩ = some (.int .i64 m) ∧ w4.cell? ⟨W, 5, none⟩ = some (.bool ar)) (J K' : Act → World → Prop) (hJ : ∀ (a' : Act) (w' : World), (∃ u2 u11 u15 u16 u27 u28 u29 u30 u31 u32 u33 u34 u35 u36 u37 u38 u39 u40 u41 u42 u43 u44 u45 u46 u47 u48 u49 u50 u51 u52 u53 u54 u55 u56 u57 u58 u59 u60 u61 u62 u63 u64 u65 u66 u67 u68 u69 u70 u71 u72 u73 u74 u75 u76 u77 u78 u79 u80 u81 u82 u83 u84 u85 u86 u87 u88 u89 u90 u91 u92 u93 u94 u95 u96 u97 u98 u99 u100 u101 u102 u103 u104 u105 u106 u107 u108 u109 u110 u111 u112 u113 u114 u115 u116 u117 u118 u119 u120 u121 u122 u123 u124 u125 u126 u127 u128 u129 u130 u131 u132 u133 u134 u135 u136 u137 u138 u139 u140 u141 u142 u143 u144 u145 u146 u147 u148 u149 u150 u151 u152 u153 u154 u155 u156 u157 u158 u159 u160 u161 u162 u163 u164 u165 u166 u167 u168 u169 u170 u171 u172 u173 u174 u175 u176 u177 u178 u179 u180 u181 u182 u183 u184 u185 u186 u187 u188 u189 u190 u191 u192 u193 u194 u195 u196 u197 u198 u199 u200 u201 u202 u203 u204 u205 u206 u207 u208 u209 u210 u211 u212 u213 u214 u215 u216 u217 u218 u219 u220 u221 u222 u223 u224 u225 u226 u227 u228 u229 u230 u231 u232 u233 u234 u235 u236 u237 u238 u239 u240 u241 u242 u243 u244 u245 u246 u247, cutR ms fs ps vars deep L H S W (w.heap.size + 1) vg (.slice ma ms.length mc) (.slice (some ⟨fb, fo, none⟩) fs.length fc) ar W2 T u2 u11 w' ∧ a' = ⟨#[.pointer (some ⟨W, 0, none⟩), .agg #[.string fn, .slice pa ps.length pc, .slice ba bn bc], u2, .int .i64 deep, .int .i64 most, undef, .pointer (some ⟨w.heap.size, 0, none⟩), undef, undef, undef, .slice none 0 0, u11, .int .i64 k, .pointer (some ⟨T, 0, none⟩), .int .i64 q, u15, u16, .slice (some ⟨w.heap.size + 1, 0, none⟩) 0 0, vv, u0, c20, c21, c22, c23, c24, c25, c26, u27, u28, u29, u30, u31, u32, u33, u34, u35, u36, u37, u38, u39, u40, u41, u42, u43, u44, u45, u46, u47, u48, u49, u50, u51, u52, u53, u54, u55, u56, u57, u58, u59, u60, u61, u62, u63, u64, u65, u66, u67, u68, u69, u70, u71, u72, u73, u74, u75, u76, u77, u78, u79, u80, u81, u82, u83, u84, u85, u86, u87, u88, u89, u90, u91, u92, u93, u94, u95, u96, u97, u98, u99, u100, u101, u102, u103, u104, u105, u106, u107, u108, u109, u110, u111, u112, u113, u114, u115, u116, u117, u118, u119, u120, u121, u122, u123, u124, u125, u126, u127, u128, u129, u130, u131, u132, u133, u134, u135, u136, u137, u138, u139, u140, u141, u142, u143, u144, u145, u146, u147, u148, u149, u150, u151, u152, u153, u154, u155, u156, u157, u158, u159, u160, u161, u162, u163, u164, u165, u166, u167, u168, u169, u170, u171, u172, u173, u174, u175, u176, u177, u178, u179, u180, u181, u182, u183, u184, u185, u186, u187, u188, u189, u190, u191, u192, u193, u194, u195, u196, u197, u198, u199, u200, u201, u202, u203, u204, u205, u206, u207, u208, u209, u210, u211, u212, u213, u214, u215, u216, u217, u218, u219, u220, u221, u222, u223, u224, u225, u226, u227, u228, u229, u230, u231, u232, u233, u234, u235, u236, u237, u238, u239, u240, u241, u242, u243, u244, u245, u246, u247, undef], []⟩) → J a' w') (hK : ∀ (a' : Act) (w' : World), Met J a' w' → K' a' w') (Q : Exit → Act → World → Prop) (hQp : ∀ c (a : Act) (d : Tmp) (v : Value) (w : World), Q (.panic c) (a.put (some d) v) w → Q (.panic c) a w) (na : Option Addr) (nc : Nat) (ST4 : Hid (BlSt (T :: H) S W (w.heap.size + 1) vg (.slice ma ms.length mc) (.slice (some ⟨fb, fo, none⟩) fs.length fc) ar W2 vs (.slice na vs.length nc) al (.slice oa al.length oc) m w4)) (hFT : ¬ w.heap.size ∈ [T]) (hTF : ¬ T = w.heap.size) (hFT' : ¬ w.heap.size = T) (hTSW : ¬ T ∈ [S, W]) (hFSW : ¬ w.heap.size ∈ [S, W]) (hsT : ∀ (x : Nat), x ∈ [T] → x ∈ ownB (Value.slice oa al.length oc) ++ (ownB (Value.slice na vs.length nc) ++ T :: H)) (hsS : ∀ (x : Nat), x ∈ [S] → x ∈ ownB (Value.slice oa al.length oc) ++ (ownB (Value.slice na vs.length nc) ++ T :: H)) (hsW : ∀ (x : Nat), x ∈ [S, W] → x ∈ ownB (Value.slice oa al.length oc) ++ (ownB (Value.slice na vs.length nc) ++ T :: H)) (hq : q = 12) (hx : ¬ 0 < deep) :
  Code.wp Tryd.prog swCode (Exit.then K' Q) ⟨#[.pointer (some ⟨W, 0, none⟩), .agg #[.string fn, .slice pa ps.length pc, .slice ba bn bc], (.slice na vs.length nc), .int .i64 deep, .int .i64 most, undef, .pointer (some ⟨w.heap.size, 0, none⟩), undef, undef, undef, .slice none 0 0, (.slice oa al.length oc), .int .i64 k, .pointer (some ⟨T, 0, none⟩), .int .i64 q, y15, y16, .slice (some ⟨w.heap.size + 1, 0, none⟩) 0 0, vv, u0, c20, c21, c22, c23, c24, c25, c26, y27, y28, y29, y30, y31, y32, y33, y34, y35, y36, y37, y38, y39, y40, y41, y42, y43, y44, y45, y46, y47, y48, y49, y50, y51, y52, y53, y54, y55, y56, y57, y58, y59, y60, y61, y62, y63, y64, y65, y66, y67, y68, y69, y70, y71, y72, y73, y74, y75, y76, y77, y78, y79, y80, y81, y82, y83, y84, y85, y86, y87, y88, y89, y90, y91, y92, y93, y94, y95, y96, y97, y98, y99, y100, y101, y102, y103, y104, y105, y106, y107, y108, y109, y110, y111, y112, y113, y114, y115, y116, y117, y118, y119, y120, y121, y122, y123, y124, y125, y126, y127, y128, y129, y130, y131, y132, y133, y134, y135, y136, y137, y138, y139, y140, y141, y142, y143, y144, y145, y146, y147, y148, y149, y150, y151, y152, y153, y154, y155, y156, y157, y158, y159, y160, y161, y162, y163, y164, y165, y166, y167, y168, y169, y170, y171, y172, y173, y174, y175, y176, y177, y178, y179, y180, y181, y182, y183, y184, y185, y186, y187, y188, y189, y190, y191, y192, y193, y194, y195, y196, y197, y198, y199, y200, y201, y202, y203, y204, y205, y206, y207, y208, y209, y210, y211, y212, y213, y214, y215, y216, y217, y218, y219, y220, y221, y222, y223, y224, y225, y226, y227, y228, y229, y230, y231, y232, y233, y234, y235, y236, y237, y238, y239, y240, y241, y242, y243, y244, y245, y246, y247, undef], []⟩ w4 := by
 conv => arg 2; whnf
 subst hq
 obtain ⟨i0, hi, hz0, hz1, hz2⟩ := info_parts strInfo
 obtain ⟨i1, hj, hy0, hy1, hy2⟩ := info_parts stmtInfo
 have hdi : ¬ (0 : Int) < (deep : Int) := by omega
 (try dsimp only)
 go_wp2_with fail
 have BI4 := Lib.hid (ST4.out.into HIN.out HBW.out hTW)
 refine (mref_any (H := (ownB (.slice oa al.length oc) ++ (ownB (.slice na vs.length nc) ++ T :: H))) (N := [S, W]) ms ps vs (.slice na vs.length nc) fn ma pa ba mc pc bn bc BI4.out.src (by simp) BI4.out.hH BI4.out.hv (by omega) BI4.out.wc HWS.out (BI4.out.hH W BI4.out.mem) BI4.out.hms hm1 hm2 HMZ.out BI4.out.hps hp2).mono ?_
 intro e w5 hq
 obtain ⟨⟨r, ra, rc, rfl, rm, rr⟩, hs5, hk5⟩ := hq
 have ST5 := Lib.hid (ST4.out.callS hs5 hk5)
 have tb5 := tkeep tb4 hk5 hTS
 have fx5 := fkeep fx4 hk5 hFS
 have wc5 := ST5.out.wc
 unfold WCells at wc5
 have HK5 := Lib.hid hk5
 clear tb4 fx4 wc4 hs5 hk5
 have RR := Lib.hid rr
 have RM := Lib.hid rm
 clear rr rm
 (try dsimp only)
 go_upto_region 10 with fail
 have hk6 : Keep [T] w5 ((w5.setCell ⟨T, 6, none⟩ (.string r.name)).setCell ⟨T, 7, none⟩ (.slice ra r.index.length rc)) := (((Keep.refl [T] w5).setCell (p := ⟨T, 6, none⟩) (.inl (List.mem_singleton.2 rfl)) (.string r.name)).setCell (p := ⟨T, 7, none⟩) (.inl (List.mem_singleton.2 rfl)) (.slice ra r.index.length rc))
 have ST6 := Lib.hid (ST5.out.boxed hk6 (fun x hx => by simp at hx; subst hx; exact ⟨List.mem_cons_self .., hTW⟩))
 have tb6 : Ce11f ((w5.setCell ⟨T, 6, none⟩ (.string r.name)).setCell ⟨T, 7, none⟩ (.slice ra r.index.length rc)) T (.int .i64 5) (.string ⟨#[]⟩) (.int .i64 0) (.int .i64 0) (.string ⟨#[]⟩) (.slice none 0 0) (.string r.name) (.slice ra r.index.length rc) (.slice none 0 0) (.slice none 0 0) (.slice none 0 0) := ⟨by go_simp, by go_simp, by go_simp, by go_simp, by go_simp, by go_simp, by go_simp, by go_simp, by go_simp, by go_simp, by go_simp, fun o => by go_simp⟩
 unfold Ce11f at tb6
 have fx6 := fkeep fx5 hk6 hFT
 have wc6 := ST6.out.wc
 unfold WCells at wc6
 have HK6 := Lib.hid hk6
 clear tb5 fx5 wc5 hk6
 generalize ((w5.setCell ⟨T, 6, none⟩ (.string r.name)).setCell ⟨T, 7, none⟩ (.slice ra r.index.length rc)) = w6 at ST6 tb6 fx6 wc6 HK6 ⊢
 have RR' := Lib.hid (RefRep.mono (CT.of_keep HK6.out hsT) RR.out)
 clear RR
 have RR := RR'
 clear RR'
 (try dsimp only)
 go_upto_region 11 with fail
 obtain ⟨U, hU⟩ : ∃ U, U = w6.heap.size := ⟨_, rfl⟩
 have ak : Keep [] w6 (w6.alloc (.cells #[.int .i64 6, .string ⟨#[]⟩, .int .i64 0, .int .i64 0, .string ⟨#[]⟩, .slice none 0 0, .string r.name, .slice ra r.index.length rc, .slice none 0 0, .slice none 0 0, .slice none 0 0] 136)) := (Keep.refl _ _).alloc _
 have ST7 := Lib.hid (ST6.out.alloc (.cells #[.int .i64 6, .string ⟨#[]⟩, .int .i64 0, .int .i64 0, .string ⟨#[]⟩, .slice none 0 0, .string r.name, .slice ra r.index.length rc, .slice none 0 0, .slice none 0 0, .slice none 0 0] 136))
 have tb7 := tkeep tb6 ak (by simp)
 have fx7 := fkeep fx6 ak (by simp)
 have wc7 := ST7.out.wc
 unfold WCells at wc7
 have ub7 : Ce11f (w6.alloc (.cells #[.int .i64 6, .string ⟨#[]⟩, .int .i64 0, .int .i64 0, .string ⟨#[]⟩, .slice none 0 0, .string r.name, .slice ra r.index.length rc, .slice none 0 0, .slice none 0 0, .slice none 0 0] 136)) U (.int .i64 6) (.string ⟨#[]⟩) (.int .i64 0) (.int .i64 0) (.string ⟨#[]⟩) (.slice none 0 0) (.string r.name) (.slice ra r.index.length rc) (.slice none 0 0) (.slice none 0 0) (.slice none 0 0) := by rw [hU]; exact ⟨by go_simp, by go_simp, by go_simp, by go_simp, by go_simp, by go_simp, by go_simp, by go_simp, by go_simp, by go_simp, by go_simp, fun o => by go_simp⟩
 unfold Ce11f at ub7
 have hUo : U ∉ ownB (.slice oa al.length oc) := fun hm => by have := (ST6.out.oB U hm).2; omega
 have hUT : T ∉ [U] := by have := ST6.out.hH T (List.mem_cons_self ..); simp; omega
 have hUS : U ∉ [S, W] := by have := ST6.out.hH S ST6.out.mS; have := ST6.out.hH W ST6.out.mW; simp; omega
 have hUT' : U ∉ [T] := by simp at hUT ⊢; omega
 have RR' := Lib.hid (RefRep.mono (CT.of_keep ak (fun x hx => by simp at hx)) RR.out)
 clear RR
 have RR := RR'
 clear RR'
 rw [← hU]
 clear tb6 fx6 wc6 hU
 generalize w6.alloc (.cells #[.int .i64 6, .string ⟨#[]⟩, .int .i64 0, .int .i64 0, .string ⟨#[]⟩, .slice none 0 0, .string r.name, .slice ra r.index.length rc, .slice none 0 0, .slice none 0 0, .slice none 0 0] 136) = w7 at ak ST7 tb7 fx7 wc7 ub7 RR ⊢
 clear ak
 have hst2 := ST7.out.alloc (.cells #[.int .i64 5, .string ⟨#[]⟩, .int .i64 0, .int .i64 0, .string ⟨#[]⟩, .slice none 0 0, .string r.name, .slice ra r.index.length rc, .slice none 0 0, .slice none 0 0, .slice none 0 0] 136)
 obtain ⟨rows, hr1, hr2, hr3⟩ := hst2.coll.holds
 have HR2 := Lib.hid hr2
 have HR3 := Lib.hid hr3
 have HST2 := Lib.hid hst2
 have ak : Keep [] w7 (w7.alloc (.cells #[.int .i64 5, .string ⟨#[]⟩, .int .i64 0, .int .i64 0, .string ⟨#[]⟩, .slice none 0 0, .string r.name, .slice ra r.index.length rc, .slice none 0 0, .slice none 0 0, .slice none 0 0] 136)) := (Keep.refl _ _).alloc _
 have RR' := Lib.hid (RefRep.mono (CT.of_keep ak (fun x hx => by simp at hx)) RR.out)
 clear RR
 have RR := RR'
 clear RR'
 have tb7' := tkeep tb7 ak (by simp)
 have ub7' := tkeep ub7 ak (by simp)
 have fx7' := fkeep fx7 ak (by simp)
 have REP : Hid (StmtRep (hideL (ownB (.slice oa al.length oc) ++ (ownB (.slice na vs.length nc) ++ T :: H)) (w7.alloc (.cells #[.int .i64 5, .string ⟨#[]⟩, .int .i64 0, .int .i64 0, .string ⟨#[]⟩, .slice none 0 0, .string r.name, .slice ra r.index.length rc, .slice none 0 0, .slice none 0 0, .slice none 0 0] 136))) (.mk 5 emptyB .zero r [] [] []) [.int .i64 5, .string ⟨#[]⟩, .int .i64 0, .int .i64 0, .string ⟨#[]⟩, .slice none 0 0, .string r.name, .slice ra r.index.length rc, .slice none 0 0, .slice none 0 0, .slice none 0 0]) := Lib.hid (stmtRep_iff.2 ⟨_, _, _, _, _, rfl, zeroE_rep _, RR.out, ListRep.nil _ _ _, ListRep.nil _ _ _, ListRep.nil _ _ _⟩)
 clear hst2 hr2 hr3 ak
 have hsz : w.heap.size + 1 ≤ w7.heap.size := by have := ST7.out.keep.size; have := HW2S.out; omega
 (try dsimp only)
 go_wp2_with (at_builtin; refine wpList_append_fresh _ rfl _ _ 74 rfl (w.heap.size + 1) 136 i1 _ 11 192 Tryd.underlying74 hj hy0 hy1 hy2 rfl (by decide) (.slice oa al.length oc) al.length rows.flatten rfl HR3.out ⟨w7.heap.size, 0, none⟩ 1 1 [.int .i64 5, .string ⟨#[]⟩, .int .i64 0, .int .i64 0, .string ⟨#[]⟩, .slice none 0 0, .string r.name, .slice ra r.index.length rc, .slice none 0 0, .slice none 0 0, .slice none 0 0] rfl rfl (new_cells _ _ _) (by simp [Value.oneCell']) (by unfold maxLen; omega) (by omega) (by simp; omega) ?_)
 intro o1 w8 hown5 hgr5 hfr5
 have hgk := keep_of_grown hgr5
 have ST8 := Lib.hid (HST2.out.out (l2 := [.mk 5 emptyB .zero r [] [] []]) (rows2 := [[.int .i64 5, .string ⟨#[]⟩, .int .i64 0, .int .i64 0, .string ⟨#[]⟩, .slice none 0 0, .string r.name, .slice ra r.index.length rc, .slice none 0 0, .slice none 0 0, .slice none 0 0]]) rows hr1 HR2.out rfl (fun i h h' => by obtain rfl : i = 0 := (by simpa using h); exact ⟨REP.out, rfl⟩) hgr5 (by simpa using hfr5) (by simpa using hown5))
 have hUl : U < w7.heap.size := cell_lt ub7.1
 have hUo1 : U ∉ ownB o1 := fun hm => by rcases hfr5 U (ownB_mem.1 hm) with h9 | h9; exact hUo (ownB_mem.2 h9); (try simp at h9); omega
 have tb8 := tkeep tb7' hgk (HST2.out.dH T (List.mem_cons_self ..)).2
 have ub8 := tkeep ub7' hgk hUo
 have fx8 := fkeep fx7' hgk (fun hm => by have := (HST2.out.oB _ hm).1; omega)
 have wc8 := ST8.out.wc
 unfold WCells at wc8
 have RR' : Hid (RefRep (hideL (ownB o1 ++ (ownB (.slice na vs.length nc) ++ T :: H)) w8) r [.string r.name, .slice ra r.index.length rc]) := Lib.hid (RefRep.mono (ct_grown (H := ownB (.slice na vs.length nc) ++ T :: H) hgr5 (by simpa using hfr5)) RR.out)
 clear RR
 have RR := RR'
 clear RR'
 have hsW1 : ∀ x, x ∈ [S, W] → x ∈ (ownB o1 ++ (ownB (.slice na vs.length nc) ++ T :: H)) := fun x hx => by simp at hx; rcases hx with rfl | rfl; exact ST8.out.mem _ ST8.out.mS; exact ST8.out.mem _ ST8.out.mW
 clear tb7 ub7 fx7 tb7' ub7' fx7' wc7 hown5 hgr5 hfr5 hgk hr1
 (try dsimp only)
 go_wp2_with fail
 have BI8 := Lib.hid (ST8.out.into HIN.out HBW.out hTW)
 refine (IHZ.out m (by omega) 0 2 0 (by omega) (by omega) 2 (by omega) rfl vs (.slice na vs.length nc) (by omega) _ w8 BI8.out).mono ?_
 intro e w9 hq
 obtain ⟨⟨th, tha, thc, m2, rfl, hm, hml, hwc⟩, hs9, hk9, hf9⟩ := hq
 have ub9 := tkeep ub8 hk9 hUS
 have RR' := Lib.hid (RefRep.mono (CT.of_keep hk9 hsW1) RR.out)
 clear RR
 have RR := RR'
 clear RR'
 have ST9 := Lib.hid (ST8.out.callW hs9 hk9 hwc hf9)
 have tb9 := tkeep tb8 hk9 hTSW
 have fx9 := fkeep fx8 hk9 hFSW
 have wc9 := ST9.out.wc
 unfold WCells at wc9
 have HK9 := Lib.hid hk9
 have THR := Lib.hid hml
 have THM := Lib.hid hm
 have THL := hm.le
 clear tb8 fx8 wc8 hs9 hk9 hwc hf9 hml hm
 clear ub8
 have hthl := THM.out.len
 obtain ⟨rows, hr1, hr2, hr3⟩ := ST9.out.coll.holds
 obtain ⟨rows2, hrow, h3, h4⟩ := THR.out
 have h5 := rows_one h3 h4
 have hla : (al ++ [(.mk 5 emptyB .zero r [] [] [] : AStmt)]).length = al.length + 1 := by simp
 have HR2 := Lib.hid hr2
 have HR3 := Lib.hid hr3
 have H4 := Lib.hid h4
 have H5 := Lib.hid h5
 have HRW := Lib.hid hrow.unhide
 clear hr2 hr3 hrow h4 h5
 have hsz2 : w.heap.size + 1 ≤ w9.heap.size := by have := ST9.out.keep.size; have := HW2S.out; omega
 (try dsimp only)
 go_wp2_with (at_builtin; refine wpList_append_row _ rfl _ _ 74 rfl (w.heap.size + 1) 136 i1 _ 11 192 Tryd.underlying74 hj hy0 hy1 hy2 rfl (by decide) o1 _ rows.flatten rfl HR3.out _ th.length rows2.flatten rfl HRW.out H5.out.2 H5.out.1 (by rw [hla]; unfold maxLen; omega) (by rw [hla]; omega) hsz2 ?_)
 intro o2 w10 hown5 hgr5 hfr5
 have hgk := keep_of_grown hgr5
 have ST10 := Lib.hid (ST9.out.out (l2 := th) (rows2 := rows2) rows hr1 HR2.out h3 H4.out hgr5 hfr5 hown5)
 have tb10 := tkeep tb9 hgk (ST9.out.dH T (List.mem_cons_self ..)).2
 have ub10 := tkeep ub9 hgk hUo1
 have fx10 := fkeep fx9 hgk (fun hm => by have := (ST9.out.oB _ hm).1; omega)
 have wc10 := ST10.out.wc
 unfold WCells at wc10
 have RR' : Hid (RefRep (hideL (ownB o2 ++ (ownB (.slice na vs.length nc) ++ T :: H)) w10) r [.string r.name, .slice ra r.index.length rc]) := Lib.hid (RefRep.mono (ct_grown (H := ownB (.slice na vs.length nc) ++ T :: H) hgr5 hfr5) RR.out)
 clear RR
 have RR := RR'
 clear RR'
 have hsT2 : ∀ x, x ∈ [T] → x ∈ (ownB o2 ++ (ownB (.slice na vs.length nc) ++ T :: H)) := by intro x hx; simp at hx; subst hx; simp
 clear tb9 ub9 fx9 wc9 hown5 hgr5 hfr5 hgk hr1
 (try dsimp only)
 go_wp2_with fail
 go_meet
 case rel =>
  have hkT : Keep [T] w10 (((((((((((w10.setCell ⟨T, 0, none⟩ (.int .i64 6)).setCell ⟨T, 1, none⟩ (.string ⟨#[]⟩)).setCell ⟨T, 2, none⟩ (.int .i64 0)).setCell ⟨T, 3, none⟩ (.int .i64 0)).setCell ⟨T, 4, none⟩ (.string ⟨#[]⟩)).setCell ⟨T, 5, none⟩ (.slice none 0 0)).setCell ⟨T, 6, none⟩ (.string r.name)).setCell ⟨T, 7, none⟩ (.slice ra r.index.length rc)).setCell ⟨T, 8, none⟩ (.slice none 0 0)).setCell ⟨T, 9, none⟩ (.slice none 0 0)).setCell ⟨T, 10, none⟩ (.slice none 0 0)) := ((((((((((((Keep.refl [T] w10).setCell (p := ⟨T, 0, none⟩) (.inl (List.mem_singleton.2 rfl)) (.int .i64 6)).setCell (p := ⟨T, 1, none⟩) (.inl (List.mem_singleton.2 rfl)) (.string ⟨#[]⟩)).setCell (p := ⟨T, 2, none⟩) (.inl (List.mem_singleton.2 rfl)) (.int .i64 0)).setCell (p := ⟨T, 3, none⟩) (.inl (List.mem_singleton.2 rfl)) (.int .i64 0)).setCell (p := ⟨T, 4, none⟩) (.inl (List.mem_singleton.2 rfl)) (.string ⟨#[]⟩)).setCell (p := ⟨T, 5, none⟩) (.inl (List.mem_singleton.2 rfl)) (.slice none 0 0)).setCell (p := ⟨T, 6, none⟩) (.inl (List.mem_singleton.2 rfl)) (.string r.name)).setCell (p := ⟨T, 7, none⟩) (.inl (List.mem_singleton.2 rfl)) (.slice ra r.index.length rc)).setCell (p := ⟨T, 8, none⟩) (.inl (List.mem_singleton.2 rfl)) (.slice none 0 0)).setCell (p := ⟨T, 9, none⟩) (.inl (List.mem_singleton.2 rfl)) (.slice none 0 0)).setCell (p := ⟨T, 10, none⟩) (.inl (List.mem_singleton.2 rfl)) (.slice none 0 0))
  exact ⟨vs, ((al ++ [.mk 5 emptyB .zero r [] [] []]) ++ th), m2, .mk 6 emptyB .zero r [] [] [], 6, 0, 0, ⟨#[]⟩, ⟨#[]⟩, r.name, none, ra, none, none, none, 0, 0, r.index.length, rc, 0, 0, 0, 0, 0, 0, ST10.out.boxed hkT (fun x hx => by simp at hx; subst hx; exact ⟨List.mem_cons_self .., hTW⟩), (by have h9 := HTO.out.step (((.mk 5 emptyB .zero r [] [] []) : AStmt) :: (th ++ [.mk 6 emptyB .zero r [] [] []])) (fun rest l' hr => by simpa using MBlock.pair RM.out THM.out hr); simpa using h9), by omega, by omega, stmtRep_iff.2 ⟨_, _, _, _, _, rfl, (zeroE_rep _), (RefRep.mono (CT.of_keep hkT hsT2) RR.out), ListRep.nil _ _ _, ListRep.nil _ _ _, ListRep.nil _ _ _⟩, by go_simp, by go_simp, by go_simp, by go_simp, by go_simp, by go_simp, by go_simp, by go_simp, by go_simp, by go_simp, by go_simp⟩
end Go.Proofs.YtlbocidcjmehfaaDoor
