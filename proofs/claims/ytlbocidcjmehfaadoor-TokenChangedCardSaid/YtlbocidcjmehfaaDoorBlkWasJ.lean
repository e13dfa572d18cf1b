import Derived.Test.YtlbocidcjmehfaaDoorBlk2J
import Derived.Maps.RangeWalk
set_option linter.unusedVariables false
set_option linter.unusedSimpArgs false
namespace Go.Proofs.YtlbocidcjmehfaaDoor
open Go.RowKit
set_option maxRecDepth 100000 in
set_option maxHeartbeats 8000000 in
theorem blk_as (ms : List AMutex) (fs : List Sig) (ps : List AParam) (fn : ByteArray) (ma pa ba : Option Addr) (fb fo mc pc fc bn bc S W : Nat) (vg : Value) (ar : Bool) (hm1 : 1 ≤ ms.length) (hm2 : ms.length ≤ 1000) (hf1 : 1 ≤ fs.length) (hf2 : fs.length ≤ 1000) (hp2 : ps.length ≤ 1000) (L deep : Nat) (hd : deep ≤ 100) (most : Nat) (hmost : most ≤ 1000) (vars : List ByteArray) (vv : Value) (hvl : vars.length + L ≤ 1000) (H : List Nat) (w : World) (IHZ : Hid (∀ (m : Nat), m < L → ∀ (zd zm : Int) (deep : Nat), zd = deep → deep ≤ 100 → ∀ (most : Nat), most ≤ 1000 → zm = most → ∀ (vars : List ByteArray) (vv : Value), vars.length + m ≤ 1000 → ∀ (H : List Nat) (w : World), BlkIn ms fs ps ma pa (some ⟨fb, fo, none⟩) mc pc fc H S W vg ar vars vv m w → Calls Tryd.prog 51 #[.pointer (some ⟨W, 0, none⟩), .agg #[.string fn, .slice pa ps.length pc, .slice ba bn bc], vv, .int .i64 zd, .int .i64 zm] w (BlkOk ms fs ps (.slice ma ms.length mc) (.slice (some ⟨fb, fo, none⟩) fs.length fc) H S W vg ar vars deep m w))) (HIN : Hid (BlkIn ms fs ps ma pa (some ⟨fb, fo, none⟩) mc pc fc H S W vg ar vars vv L w)) (HHw : Hid (∀ (x : Nat), x ∈ H → x < w.heap.size)) (HFP : Hid (∀ (g : Sig), g ∈ fs → g.2.length ≤ 1000)) (HMZ : Hid (∀ (m : AMutex), m ∈ ms → m.size ≤ 1000)) (hSl : S < w.heap.size) (hWl : W < w.heap.size) (HWS : Hid (W ≠ S)) (W2 : World) (HW2S : Hid (W2.heap.size = w.heap.size + 1)) (HBW : Hid (Below w.heap.size w W2)) (HKI : Hid (Keep [S, W] w W2)) (u0 : Value) (w1 : World) (ST0 : Hid (BlSt H S W (w.heap.size + 1) vg (.slice ma ms.length mc) (.slice (some ⟨fb, fo, none⟩) fs.length fc) ar W2 vars u0 [] (.slice none 0 0) L w1)) (n0 : Nat) (c20 c21 c22 c23 c24 c25 c26 y15 y16 y27 y28 y29 y30 y31 y32 y33 y34 y35 y36 y37 y38 y39 y40 y41 y42 y43 y44 y45 y46 y47 y48 y49 y50 y51 y52 y53 y54 y55 y56 y57 y58 y59 y60 y61 y62 y63 y64 y65 y66 y67 y68 y69 y70 y71 y72 y73 y74 y75 y76 y77 y78 y79 y80 y81 y82 y83 y84 y85 y86 y87 y88 y89 y90 y91 y92 y93 y94 y95 y96 y97 y98 y99 y100 y101 y102 y103 y104 y105 y106 y107 y108 y109 y110 y111 y112 y113 y114 y115 y116 y117 y118 y119 y120 y121 y122 y123 y124 y125 y126 y127 y128 y129 y130 y131 y132 y133 y134 y135 y136 y137 y138 y139 y140 y141 y142 y143 y144 y145 y146 y147 y148 y149 y150 y151 y152 y153 y154 y155 y156 y157 y158 y159 y160 y161 y162 y163 y164 y165 y166 y167 y168 y169 y170 y171 y172 y173 y174 y175 y176 y177 y178 y179 y180 y181 y182 y183 y184 y185 y186 y187 y188 y189 y190 y191 y192 y193 y194 y195 y196 y197 y198 y199 y200 y201 y202 y203 y204 y205 y206 y207 y208 y209 y210 y211 y212 y213 y214 y215 y216 y217 y218 y219 y220 y221 y222 y223 y224 y225 y226 y227 y228 y229 y230 y231 y232 y233 y234 y235 y236 y237 y238 y239 y240 y241 y242 y243 y244 y245 y246 y247 : Value) (vs : List ByteArray) (al : List AStmt) (k : Nat) (hk : k ≤ most) (oa : Option Addr) (oc : Nat) (hki : (0 : Int) < (k : Int)) (m : Nat) (hvl2 : vs.length + (m + 1) ≤ 1000) (hlf : m + 1 ≤ L) (hall : al.length + 2 * (m + 1) ≤ 2 * L) (HTO : Hid (BlTo ms fs ps vars deep L vs (m + 1) al)) (T : Nat) (hTW : W2.heap.size ≤ T) (w4 : World) (q : Int) (q0 : 0 ≤ q) (q1 : q < 14) (ST4K : Hid (Keep [S, W] W2 w4)) (hTS : ¬ T ∈ [S]) (tb4 : w4.cell? ⟨T, 0, none⟩ = some (.int .i64 5) ∧ w4.cell? ⟨T, 1, none⟩ = some (.string ⟨#[]⟩) ∧ w4.cell? ⟨T, 2, none⟩ = some (.int .i64 0) ∧ w4.cell? ⟨T, 3, none⟩ = some (.int .i64 0) ∧ w4.cell? ⟨T, 4, none⟩ = some (.string ⟨#[]⟩) ∧ w4.cell? ⟨T, 5, none⟩ = some (.slice none 0 0) ∧ w4.cell? ⟨T, 6, none⟩ = some (.string ⟨#[]⟩) ∧ w4.cell? ⟨T, 7, none⟩ = some (.slice none 0 0) ∧ w4.cell? ⟨T, 8, none⟩ = some (.slice none 0 0) ∧ w4.cell? ⟨T, 9, none⟩ = some (.slice none 0 0) ∧ w4.cell? ⟨T, 10, none⟩ = some (.slice none 0 0) ∧ ∀ o, w4.frozen? ⟨T, o, none⟩ = false) (hFS : ¬ w.heap.size ∈ [S]) (fx4 : w4.cell? ⟨w.heap.size, 0, none⟩ = some (.string fn) ∧ w4.cell? ⟨w.heap.size, 1, none⟩ = some (.slice pa ps.length pc) ∧ w4.cell? ⟨w.heap.size, 2, none⟩ = some (.slice ba bn bc)) (wc4 : w4.cell? ⟨W, 0, none⟩ = some (.pointer (some ⟨S, 0, none⟩)) ∧ w4.cell? ⟨W, 1, none⟩ = some vg ∧ w4.cell? ⟨W, 2, none⟩ = some (.slice ma ms.length mc) ∧ w4.cell? ⟨W, 3, none⟩ = some (.slice (some ⟨fb, fo, none⟩) fs.length fc) ∧ w4.cell? ⟨W, 4, none⟩ = some (.int .i64 m) ∧ w4.cell? ⟨W, 5, none⟩ = some (.bool ar)) (J K' : Act → World → Prop) (hJ : ∀ (a' : Act) (w' : World), (∃ u2 u11 u15 u16 u27 u28 u29 u30 u31 u32 u33 u34 u35 u36 u37 u38 u39 u40 u41 u42 u43 u44 u45 u46 u47 u48 u49 u50 u51 u52 u53 u54 u55 u56 u57 u58 u59 u60 u61 u62 u63 u64 u65 u66 u67 u68 u69 u70 u71 u72 u73 u74 u75 u76 u77 u78 u79 u80 u81 u82 u83 u84 u85 u86 u87 u88 u89 u90 u91 u92 u93 u94 u95 u96 u97 u98 u99 u100 u101 u102 u103 u104 u105 u106 u107 u108 u109 u110 u111 u112 u113 u114 u115 u116 u117 u118 u119 u120 u121 u122 u123 u124 u125 u126 u127 u128 u129 u130 u131 u132 u133 u134 u135 u136 u137 u138 u139 u140 u141 u142 u143 u144 u145 u146 u147 u148 u149 u150 u151 u152 u153 u154 u155 u156 u157 u158 u159 u160 u161 u162 u163 u164 u165 u166 u167 u168 u169 u170 u171 u172 u173 u174 u175 u176 u177 u178 u179 u180 u181 u182 u183 u184 u185 u186 u187 u188 u189 u190 u191 u192 u193 u194 u195 u196 u197 u198 u199 u200 u201 u202 u203 u204 u205 u206 u207 u208 u209 u210 u211 u212 u213 u214 u215 u216 u217 u218 u219 u220 u221 u222 u223 u224 u225 u226 u227 u228 u229 u230 u231 u232 u233 u234 u235 u236 u237 u238 u239 u240 u241 u242 u243 u244 u245 u246 u247, cutR ms fs ps vars deep L H S W (w.heap.size + 1) vg (.slice ma ms.length mc) (.slice (some ⟨fb, fo, none⟩) fs.length fc) ar W2 T u2 u11 w' ∧ a' = ⟨#[.pointer (some ⟨W, 0, none⟩), .agg #[.string fn, .slice pa ps.length pc, .slice ba bn bc], u2, .int .i64 deep, .int .i64 most, undef, .pointer (some ⟨w.heap.size, 0, none⟩), undef, undef, undef, .slice none 0 0, u11, .int .i64 k, .pointer (some ⟨T, 0, none⟩), .int .i64 q, u15, u16, .slice (some ⟨w.heap.size + 1, 0, none⟩) 0 0, vv, u0, c20, c21, c22, c23, c24, c25, c26, u27, u28, u29, u30, u31, u32, u33, u34, u35, u36, u37, u38, u39, u40, u41, u42, u43, u44, u45, u46, u47, u48, u49, u50, u51, u52, u53, u54, u55, u56, u57, u58, u59, u60, u61, u62, u63, u64, u65, u66, u67, u68, u69, u70, u71, u72, u73, u74, u75, u76, u77, u78, u79, u80, u81, u82, u83, u84, u85, u86, u87, u88, u89, u90, u91, u92, u93, u94, u95, u96, u97, u98, u99, u100, u101, u102, u103, u104, u105, u106, u107, u108, u109, u110, u111, u112, u113, u114, u115, u116, u117, u118, u119, u120, u121, u122, u123, u124, u125, u126, u127, u128, u129, u130, u131, u132, u133, u134, u135, u136, u137, u138, u139, u140, u141, u142, u143, u144, u145, u146, u147, u148, u149, u150, u151, u152, u153, u154, u155, u156, u157, u158, u159, u160, u161, u162, u163, u164, u165, u166, u167, u168, u169, u170, u171, u172, u173, u174, u175, u176, u177, u178, u179, u180, u181, u182, u183, u184, u185, u186, u187, u188, u189, u190, u191, u192, u193, u194, u195, u196, u197, u198, u199, u200, u201, u202, u203, u204, u205, u206, u207, u208, u209, u210, u211, u212, u213, u214, u215, u216, u217, u218, u219, u220, u221, u222, u223, u224, u225, u226, u227, u228, u229, u230, u231, u232, u233, u234, u235, u236, u237, u238, u239, u240, u241, u242, u243, u244, u245, u246, u247, undef], []⟩) → J a' w') (hK : ∀ (a' : Act) (w' : World), Met J a' w' → K' a' w') (Q : Exit → Act → World → Prop) (hQp : ∀ c (a : Act) (d : Tmp) (v : Value) (w : World), Q (.panic c) (a.put (some d) v) w → Q (.panic c) a w) (na : Option Addr) (nc : Nat) (ST4 : Hid (BlSt (T :: H) S W (w.heap.size + 1) vg (.slice ma ms.length mc) (.slice (some ⟨fb, fo, none⟩) fs.length fc) ar W2 vs (.slice na vs.length nc) al (.slice oa al.length oc) m w4)) (hFT : ¬ w.heap.size ∈ [T]) (hTF : ¬ T = w.heap.size) (hFT' : ¬ w.heap.size = T) (hTSW : ¬ T ∈ [S, W]) (hFSW : ¬ w.heap.size ∈ [S, W]) (hsT : ∀ (x : Nat), x ∈ [T] → x ∈ ownB (Value.slice oa al.length oc) ++ (ownB (Value.slice na vs.length nc) ++ T :: H)) (hsS : ∀ (x : Nat), x ∈ [S] → x ∈ ownB (Value.slice oa al.length oc) ++ (ownB (Value.slice na vs.length nc) ++ T :: H)) (hsW : ∀ (x : Nat), x ∈ [S, W] → x ∈ ownB (Value.slice oa al.length oc) ++ (ownB (Value.slice na vs.length nc) ++ T :: H)) (hq : q = 8) (hx : 0 < vs.length) :
  Code.wp Tryd.prog swCode (Exit.then K' Q) ⟨#[.pointer (some ⟨W, 0, none⟩), .agg #[.string fn, .slice pa ps.length pc, .slice ba bn bc], (.slice na vs.length nc), .int .i64 deep, .int .i64 most, undef, .pointer (some ⟨w.heap.size, 0, none⟩), undef, undef, undef, .slice none 0 0, (.slice oa al.length oc), .int .i64 k, .pointer (some ⟨T, 0, none⟩), .int .i64 q, y15, y16, .slice (some ⟨w.heap.size + 1, 0, none⟩) 0 0, vv, u0, c20, c21, c22, c23, c24, c25, c26, y27, y28, y29, y30, y31, y32, y33, y34, y35, y36, y37, y38, y39, y40, y41, y42, y43, y44, y45, y46, y47, y48, y49, y50, y51, y52, y53, y54, y55, y56, y57, y58, y59, y60, y61, y62, y63, y64, y65, y66, y67, y68, y69, y70, y71, y72, y73, y74, y75, y76, y77, y78, y79, y80, y81, y82, y83, y84, y85, y86, y87, y88, y89, y90, y91, y92, y93, y94, y95, y96, y97, y98, y99, y100, y101, y102, y103, y104, y105, y106, y107, y108, y109, y110, y111, y112, y113, y114, y115, y116, y117, y118, y119, y120, y121, y122, y123, y124, y125, y126, y127, y128, y129, y130, y131, y132, y133, y134, y135, y136, y137, y138, y139, y140, y141, y142, y143, y144, y145, y146, y147, y148, y149, y150, y151, y152, y153, y154, y155, y156, y157, y158, y159, y160, y161, y162, y163, y164, y165, y166, y167, y168, y169, y170, y171, y172, y173, y174, y175, y176, y177, y178, y179, y180, y181, y182, y183, y184, y185, y186, y187, y188, y189, y190, y191, y192, y193, y194, y195, y196, y197, y198, y199, y200, y201, y202, y203, y204, y205, y206, y207, y208, y209, y210, y211, y212, y213, y214, y215, y216, y217, y218, y219, y220, y221, y222, y223, y224, y225, y226, y227, y228, y229, y230, y231, y232, y233, y234, y235, y236, y237, y238, y239, y240, y241, y242, y243, y244, y245, y246, y247, undef], []⟩ w4 := by
 conv => arg 2; whnf
 subst hq
 obtain ⟨i0, hi, hz0, hz1, hz2⟩ := info_parts strInfo
 obtain ⟨i1, hj, hy0, hy1, hy2⟩ := info_parts stmtInfo
 have hvz : 0 < vs.length := hx
 have hv0 : (0 : Int) < (vs.length : Int) := by omega
 have hnr := ST4.out.names
 obtain ⟨na', nc', he, hle, hr⟩ := hnr
 cases he
 rcases hr with h0 | ⟨nb, no, rfl, hr⟩
 ·exfalso; have h9 := congrArg List.length h0; rw [List.length_map] at h9; simp only [List.length_nil] at h9; omega
 have hnr : (∀ i (h : i < vs.length), w4.cell? ⟨nb, no + i, none⟩ = some (.string vs[i])) := fun i hi => (hideL_cell (hr i (.string vs[i]) (by simp [hi]))).1
 have hnb := (ST4.out.uB nb (ownB_mem.2 rfl)).1
 have hnS : nb ∉ [S] := by have := ST0.out.hS; have := HW2S.out; simp; omega
 have hnT : nb ∉ [T] := by simp; rintro rfl; exact (ST4.out.dH _ (List.mem_cons_self ..)).1 (ownB_mem.2 rfl)
 have NR4 := Lib.hid hnr
 clear hr hnr
 (try dsimp only)
 go_wp2_with fail
 have hdr : Keep [] w4 w4.drew := (Keep.refl _ _).drew
 refine wp_region_held_drew (S := fun w' => w'.cell? ⟨W, 0, none⟩ = some (.pointer (some ⟨S, 0, none⟩)) ∧ Hid (∀ i (h : i < vs.length), w'.cell? ⟨nb, no + i, none⟩ = some (.string vs[i]))) (by kernel_rfl) ⟨wc4.1, Lib.hid (fun i hi => NR4.out i hi)⟩ (fun hHeld => ?_)
 have ST5 := Lib.hid (ST4.out.drew)
 have tb5 := tkeep tb4 hdr (by simp)
 have fx5 := fkeep fx4 hdr (by simp)
 have wc5 := ST5.out.wc
 unfold WCells at wc5
 clear hdr tb4 fx4 wc4
 generalize w4.drew = w5 at ST5 tb5 fx5 wc5 hHeld ⊢
 have NR5 := Lib.hid (hHeld.2.out : (∀ i (h : i < vs.length), w5.cell? ⟨nb, no + i, none⟩ = some (.string vs[i])))
 refine held_take 0 (v := ?vv21) (by kernel_rfl) rfl (by rfl) (by kernel_rfl) (by kernel_rfl) (fun _ _ _ h => hQp _ _ _ _ _ h) ?hyy21 (by assumption) ?rest21
 case hyy21 => (intro w hSw; (try dsimp only at hSw); go_simp; (try with_reducible rfl))
 (try go_frame)
 refine held_take 1 (v := ?vv22) (by kernel_rfl) rfl (by rfl) (by kernel_rfl) (by kernel_rfl) (fun _ _ _ h => hQp _ _ _ _ _ h) ?hyy22 (by assumption) ?rest22
 case hyy22 => (intro w hSw; (try dsimp only at hSw); go_simp; (try with_reducible rfl))
 (try go_frame)
 refine held_take 2 (v := ?vv23) (by kernel_rfl) rfl (by rfl) (by kernel_rfl) (by kernel_rfl) (fun _ _ _ h => hQp _ _ _ _ _ h) ?hyy23 (by assumption) ?rest23
 case hyy23 => (intro w hSw; (try dsimp only at hSw); go_simp; (try with_reducible rfl))
 (try go_frame)
 refine held_take 3 (v := ?vv24) (by kernel_rfl) rfl (by rfl) (by kernel_rfl) (by kernel_rfl) (fun _ _ _ h => hQp _ _ _ _ _ h) ?hyy24 (by assumption) ?rest24
 case hyy24 => (intro w hSw; (try dsimp only at hSw); go_simp; (try with_reducible rfl))
 (try go_frame)
 refine held_take 4 (v := ?vv25) (by kernel_rfl) rfl (by rfl) (by kernel_rfl) (by kernel_rfl) (fun _ _ _ h => hQp _ _ _ _ _ h) ?hyy25 (by assumption) ?rest25
 case hyy25 => (intro w hSw; (try dsimp only at hSw); go_simp; (try with_reducible rfl))
 (try go_frame)
 refine held_take 5 (v := ?vv26) (by kernel_rfl) rfl (by rfl) (by kernel_rfl) (by kernel_rfl) (fun _ _ _ h => hQp _ _ _ _ _ h) ?hyy26 (by assumption) ?rest26
 case hyy26 => (intro w hSw; (try dsimp only at hSw); go_simp; (try with_reducible rfl))
 (try go_frame)
 refine held_take 6 (v := ?vv27) (by kernel_rfl) rfl (by rfl) (by kernel_rfl) (by kernel_rfl) (fun _ _ _ h => hQp _ _ _ _ _ h) ?hyy27 (by assumption) ?rest27
 case hyy27 => (intro w hSw; (try dsimp only at hSw); go_simp; (try with_reducible rfl))
 (try go_frame)
 refine held_take 10 (v := ?vv28) (by kernel_rfl) rfl (by rfl) (by kernel_rfl) (by kernel_rfl) (fun _ _ _ h => hQp _ _ _ _ _ h) ?hyy28 (by assumption) ?rest28
 case hyy28 => (intro w hSw; (try dsimp only at hSw); go_simp; (try with_reducible rfl))
 (try go_frame)
 refine held_take 11 (v := ?vv29) (by kernel_rfl) rfl (by rfl) (by kernel_rfl) (by kernel_rfl) (fun _ _ _ h => hQp _ _ _ _ _ h) ?hyy29 (by assumption) ?rest29
 case hyy29 => (intro w hSw; (try dsimp only at hSw); go_simp; (try with_reducible rfl))
 (try go_frame)
 refine held_take 13 (v := ?vv30) (by kernel_rfl) rfl (by rfl) (by kernel_rfl) (by kernel_rfl) (fun _ _ _ h => hQp _ _ _ _ _ h) ?hyy30 (by assumption) ?rest30
 case hyy30 => (intro w hSw; (try dsimp only at hSw); go_simp; (try with_reducible rfl))
 (try go_frame)
 refine held_one 7 (by kernel_rfl) rfl (by rfl) (fun K' hK => ?_)
 go_simp
 refine (next_src (vs.length : Int) _ S _ ST5.out.src (by omega) (by omega)).mono ?_
 intro e w6 hq
 obtain ⟨z, rfl, z0, z1, hs6, hk6⟩ := Src.next hq
 clear hq
 have nr6 : (∀ i (h : i < vs.length), w6.cell? ⟨nb, no + i, none⟩ = some (.string vs[i])) := fun i hi => by have h9 := NR5.out i hi; rw [hk6.cell (p := ⟨nb, no + i, none⟩) (cell_lt h9) hnS]; exact h9
 have NR6 := Lib.hid nr6
 clear nr6
 (try dsimp only)
 refine hK.out _ _ ⟨(ST5.out.callS hs6 hk6).wc.1, NR6⟩ (fun hHeld' => ?_)
 clear hK K' hHeld
 have hHeld := hHeld'
 clear hHeld'
 (try go_frame)
 have ST6 := Lib.hid (ST5.out.callS hs6 hk6)
 have tb6 := tkeep tb5 hk6 hTS
 have fx6 := fkeep fx5 hk6 hFS
 have wc6 := ST6.out.wc
 unfold WCells at wc6
 have HK6 := Lib.hid hk6
 clear tb5 fx5 wc5 hs6 hk6
 obtain ⟨i, rfl⟩ : ∃ i : Nat, z = i := ⟨z.toNat, by omega⟩
 have hiv : i < vs.length := by omega
 obtain ⟨y, hy⟩ : ∃ y, y = vs[i] := ⟨_, rfl⟩
 have hym : y ∈ vs := by rw [hy]; exact List.getElem_mem hiv
 have HY := Lib.hid hy
 clear hy
 refine held_take 8 (v := ?vv31) (by kernel_rfl) rfl (by rfl) (by kernel_rfl) (by kernel_rfl) (fun _ _ _ h => hQp _ _ _ _ _ h) ?hyy31 (by assumption) ?rest31
 case hyy31 => (intro w hSw; (try dsimp only at hSw); go_simp; (try with_reducible rfl))
 (try go_frame)
 refine held_take 9 (v := ?vv32) (by kernel_rfl) rfl (by rfl) (by kernel_rfl) (by kernel_rfl) (fun _ _ _ h => hQp _ _ _ _ _ h) ?hyy32 (by assumption) ?rest32
 case hyy32 => (intro w hSw; have h9 := hSw.2.out i hiv; rw [← HY.out] at h9; clear hSw; go_simp; (try with_reducible rfl))
 (try go_frame)
 refine held_one 12 (by kernel_rfl) rfl (by rfl) (fun K' hK => ?_)
 go_simp
 have BI6 := Lib.hid (ST6.out.into HIN.out HBW.out hTW)
 refine (wexpr_any (H := (ownB (.slice oa al.length oc) ++ (ownB (.slice (some ⟨nb, no, none⟩) vs.length nc) ++ T :: H))) (N := [S, W]) (.slice (some ⟨nb, no, none⟩) vs.length nc) BI6.out.src (by simp) BI6.out.hH BI6.out.hv (by omega) BI6.out.wc HWS.out (BI6.out.hH W BI6.out.mem)).mono ?_
 intro e w7 hq
 obtain ⟨⟨x, xa, xc, rfl, xm, xr⟩, hs7, hk7⟩ := hq
 have nr7 : (∀ i (h : i < vs.length), w7.cell? ⟨nb, no + i, none⟩ = some (.string vs[i])) := fun i hi => by have h9 := NR6.out i hi; rw [hk7.cell (p := ⟨nb, no + i, none⟩) (cell_lt h9) hnS]; exact h9
 have NR7 := Lib.hid nr7
 clear nr7
 (try dsimp only)
 refine hK.out _ _ ⟨(ST6.out.callS hs7 hk7).wc.1, NR7⟩ (fun hHeld' => ?_)
 clear hK K' hHeld
 have hHeld := hHeld'
 clear hHeld'
 (try go_frame)
 have ST7 := Lib.hid (ST6.out.callS hs7 hk7)
 have tb7 := tkeep tb6 hk7 hTS
 have fx7 := fkeep fx6 hk7 hFS
 have wc7 := ST7.out.wc
 unfold WCells at wc7
 have HK7 := Lib.hid hk7
 clear tb6 fx6 wc6 hs7 hk7
 have XR := Lib.hid xr
 have XM := Lib.hid xm
 clear xr xm
 have hWT : W ∉ [T] := by have := ST0.out.hW; simp; omega
 refine held_one 14 (by kernel_rfl) rfl (by rfl) (fun K' hK => ?_)
 go_simp
 (try dsimp only)
 refine hK.out _ _ ⟨by rw [(((Keep.refl [T] w7).setCell (p := ⟨T, 0, none⟩) (.inl (List.mem_singleton.2 rfl)) (.int .i64 2))).cell (p := ⟨W, 0, none⟩) (cell_lt wc7.1) hWT]; exact wc7.1, Lib.hid (fun i hi => by have h9 := NR7.out i hi; rw [(((Keep.refl [T] w7).setCell (p := ⟨T, 0, none⟩) (.inl (List.mem_singleton.2 rfl)) (.int .i64 2))).cell (p := ⟨nb, no + i, none⟩) (cell_lt h9) hnT]; exact h9)⟩ (fun hHeld' => ?_)
 clear hK K' hHeld
 have hHeld := hHeld'
 clear hHeld'
 (try go_frame)
 refine held_take 15 (v := ?vv33) (by kernel_rfl) rfl (by rfl) (by kernel_rfl) (by kernel_rfl) (fun _ _ _ h => hQp _ _ _ _ _ h) ?hyy33 (by assumption) ?rest33
 case hyy33 => (intro w hSw; (try dsimp only at hSw); go_simp; (try with_reducible rfl))
 (try go_frame)
 refine held_one 16 (by kernel_rfl) rfl (by rfl) (fun K' hK => ?_)
 go_simp
 (try dsimp only)
 refine hK.out _ _ ⟨by rw [((((Keep.refl [T] w7).setCell (p := ⟨T, 0, none⟩) (.inl (List.mem_singleton.2 rfl)) (.int .i64 2)).setCell (p := ⟨T, 1, none⟩) (.inl (List.mem_singleton.2 rfl)) (.string y))).cell (p := ⟨W, 0, none⟩) (cell_lt wc7.1) hWT]; exact wc7.1, Lib.hid (fun i hi => by have h9 := NR7.out i hi; rw [((((Keep.refl [T] w7).setCell (p := ⟨T, 0, none⟩) (.inl (List.mem_singleton.2 rfl)) (.int .i64 2)).setCell (p := ⟨T, 1, none⟩) (.inl (List.mem_singleton.2 rfl)) (.string y))).cell (p := ⟨nb, no + i, none⟩) (cell_lt h9) hnT]; exact h9)⟩ (fun hHeld' => ?_)
 clear hK K' hHeld
 have hHeld := hHeld'
 clear hHeld'
 (try go_frame)
 refine held_take 17 (v := ?vv34) (by kernel_rfl) rfl (by rfl) (by kernel_rfl) (by kernel_rfl) (fun _ _ _ h => hQp _ _ _ _ _ h) ?hyy34 (by assumption) ?rest34
 case hyy34 => (intro w hSw; (try dsimp only at hSw); go_simp; (try with_reducible rfl))
 (try go_frame)
 refine held_one 18 (by kernel_rfl) rfl (by rfl) (fun K' hK => ?_)
 go_simp
 (try dsimp only)
 refine hK.out _ _ ⟨by rw [((((((((Keep.refl [T] w7).setCell (p := ⟨T, 0, none⟩) (.inl (List.mem_singleton.2 rfl)) (.int .i64 2)).setCell (p := ⟨T, 1, none⟩) (.inl (List.mem_singleton.2 rfl)) (.string y)).setCell (p := ⟨T, 2, none⟩) (.inl (List.mem_singleton.2 rfl)) (.int .i64 x.op)).setCell (p := ⟨T, 3, none⟩) (.inl (List.mem_singleton.2 rfl)) (.int .i64 x.num)).setCell (p := ⟨T, 4, none⟩) (.inl (List.mem_singleton.2 rfl)) (.string x.name)).setCell (p := ⟨T, 5, none⟩) (.inl (List.mem_singleton.2 rfl)) (.slice xa x.args.length xc))).cell (p := ⟨W, 0, none⟩) (cell_lt wc7.1) hWT]; exact wc7.1, Lib.hid (fun i hi => by have h9 := NR7.out i hi; rw [((((((((Keep.refl [T] w7).setCell (p := ⟨T, 0, none⟩) (.inl (List.mem_singleton.2 rfl)) (.int .i64 2)).setCell (p := ⟨T, 1, none⟩) (.inl (List.mem_singleton.2 rfl)) (.string y)).setCell (p := ⟨T, 2, none⟩) (.inl (List.mem_singleton.2 rfl)) (.int .i64 x.op)).setCell (p := ⟨T, 3, none⟩) (.inl (List.mem_singleton.2 rfl)) (.int .i64 x.num)).setCell (p := ⟨T, 4, none⟩) (.inl (List.mem_singleton.2 rfl)) (.string x.name)).setCell (p := ⟨T, 5, none⟩) (.inl (List.mem_singleton.2 rfl)) (.slice xa x.args.length xc))).cell (p := ⟨nb, no + i, none⟩) (cell_lt h9) hnT]; exact h9)⟩ (fun hHeld' => ?_)
 clear hK K' hHeld
 have hHeld := hHeld'
 clear hHeld'
 (try go_frame)
 clear hHeld
 refine wpAnyH_done (by kernel_rfl) ?_ _
 (try dsimp only)
 go_wp2_with fail
 go_meet
 case rel =>
  have hkT : Keep [T] w7 ((((((w7.setCell ⟨T, 0, none⟩ (.int .i64 2)).setCell ⟨T, 1, none⟩ (.string y)).setCell ⟨T, 2, none⟩ (.int .i64 x.op)).setCell ⟨T, 3, none⟩ (.int .i64 x.num)).setCell ⟨T, 4, none⟩ (.string x.name)).setCell ⟨T, 5, none⟩ (.slice xa x.args.length xc)) := (((((((Keep.refl [T] w7).setCell (p := ⟨T, 0, none⟩) (.inl (List.mem_singleton.2 rfl)) (.int .i64 2)).setCell (p := ⟨T, 1, none⟩) (.inl (List.mem_singleton.2 rfl)) (.string y)).setCell (p := ⟨T, 2, none⟩) (.inl (List.mem_singleton.2 rfl)) (.int .i64 x.op)).setCell (p := ⟨T, 3, none⟩) (.inl (List.mem_singleton.2 rfl)) (.int .i64 x.num)).setCell (p := ⟨T, 4, none⟩) (.inl (List.mem_singleton.2 rfl)) (.string x.name)).setCell (p := ⟨T, 5, none⟩) (.inl (List.mem_singleton.2 rfl)) (.slice xa x.args.length xc))
  exact ⟨vs, al, m, .mk 2 y x .zero [] [] [], 2, x.op, x.num, y, x.name, ⟨#[]⟩, xa, none, none, none, none, x.args.length, xc, 0, 0, 0, 0, 0, 0, 0, 0, ST7.out.boxed hkT (fun x hx => by simp at hx; subst hx; exact ⟨List.mem_cons_self .., hTW⟩), (HTO.out.step [_] (fun rest l' hr => .assign hym XM.out hr)), by omega, by omega, stmtRep_iff.2 ⟨_, _, _, _, _, rfl, (ExprRep.mono (CT.of_keep hkT hsT) _ XR.out), (zeroR_rep _), ListRep.nil _ _ _, ListRep.nil _ _ _, ListRep.nil _ _ _⟩, by go_simp, by go_simp, by go_simp, by go_simp, by go_simp, by go_simp, by go_simp, by go_simp, by go_simp, by go_simp, by go_simp⟩
end Go.Proofs.YtlbocidcjmehfaaDoor
