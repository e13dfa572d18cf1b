import Derived.Test.YtflcnehhpmjipaaGreatDoorW6J
import Derived.Test.YtflcnehhpmjipaaGreatDoorP9J
import Derived.Test.YtflcnehhpmjipaaGreatDoorE0J
import Derived.KernelRfl
import Derived.Lib.SlBytesConst
set_option linter.unusedVariables false
set_option linter.unusedSimpArgs false
namespace Go.Proofs.YtflcnehhpmjipaaGreatDoor
open Go.RowKit
set_option synthInstance.maxHeartbeats 1000000
set_option synthInstance.maxSize 1000000
set_option linter.all false
theorem progX_small (s : List UInt8) : (progX s).1.small 1000000000 := by
 have hz : (⟨[], [], []⟩ : AProg).small 1000000000 := ⟨by simp, by simp, by simp, by simp⟩
 cases h : lexL s with
 | err p e => rw [progX_lex h]; exact hz
 | ok l =>
  have hok := TOk.of h
  cases h2 : programP l with
  | ok x k => rw [progX_good h h2]; exact programP_small (N := 1000000000) hok.last (by decide) (by have := hok.len; omega) (fun k x k9 hk h => by have h1 := exprP_few l k; have h2 := exprP_in hok.last hk; rw [h] at h1 h2; have h3 : x.nodes + 3 * k ≤ 3 * k9 := h1; have h4 := h2.2; have := hok.len; omega) h2
  | err k e =>
   have hb : k < l.length := by have h9 : (programP l).At l 0 := progP_at hok.last _ _ _ hok.last.1; rw [h2] at h9; exact h9.2.1
   rw [progX_bad h h2 hb]; exact hz
set_option maxRecDepth 100000 in
set_option maxHeartbeats 1600000 in
theorem same_c (bs : List UInt8) (m : Int) (s : Sto) : ACall Tryz.prog 13 [srcF bs m] [] s fun t s' => t = .c (.val (.bool true)) ∧ s' = s := by
 obtain ⟨bx, rw⟩ := s
 refine acall_body Tryz.func13 rfl (Nat.le_of_ble_eq_true rfl) ?_
 show AWp Tryz.prog _ ⟨34, [], ⟨bx, rw⟩, [(0, srcF bs m)]⟩ _
 refine go 8 ?_
 refine wo rfl (wcallE 0 [] rfl rfl (by decide) Tryz.call17 rfl rfl (pProgram_c bs m _) (fun _ h => by cases h) (fun _ h => by cases h) (fun _ _ h => by cases h) ?_)
 rintro t1 s1 ⟨rfl, rfl⟩
 refine go 13 fun b1 => ?_
 refine wo rfl (wcall [] rfl rfl (by decide) Tryz.call34 rfl (rProgram_c bs _) (fun _ h => by cases h) (fun _ h => by cases h) (fun _ _ h => by cases h) ?_)
 rintro t2 s2 ⟨rfl, rfl⟩
 refine go 14 fun b2 => ?_
 refine wyy rfl rfl rfl (ay_cmp true rfl rfl rfl (by simp [cmpR])) ?_
 refine go 3 ?_
 refine wyy rfl rfl rfl (ay_cmp true rfl rfl rfl (by simp [cmpR])) ?_
 refine go 4 ?_
 refine wo rfl (wcall [] rfl rfl (by decide) Tryz.call25 rfl (same_all _ (progX_small bs) _) (fun _ h => by cases h) (fun _ h => by cases h) (fun _ _ h => by cases h) ?_)
 rintro t3 s3 ⟨rfl, rfl⟩
 refine go 5 ?_
 exact ⟨.inr rfl, _, ⟨bx, rw⟩, res_one rfl (resv_tmp rfl), subS_of (.cons _ (.cons _ (.refl _))) (.refl _), rfl, rfl⟩
end Go.Proofs.YtflcnehhpmjipaaGreatDoor
namespace Go.Proofs.YtflcnehhpmjipaaGreatDoor
open Go.RowKit
def awP1 : List UInt8 := [109, 117, 116, 101, 120, 32, 97, 59, 32, 102, 117, 110, 99, 32, 109, 97, 105, 110, 40, 41, 32, 123, 32, 108, 111, 99, 107, 32, 97, 59, 32, 117, 110, 108, 111, 99, 107, 32, 97, 59, 32, 125]
def awP2 : List UInt8 := [109, 117, 116, 101, 120, 32, 97, 59, 32, 97]
theorem awP1_x : ((progX awP1).2.1, (progX awP1).2.2, (progX awP1).1.mutexes.length, (progX awP1).1.funcs.map fun f => f.body.length) = (42, 0, 1, [2]) := by kernel_rfl
theorem awP2_x : ((progX awP2).2.1, (progX awP2).2.2) = (9, 4) := by kernel_rfl
theorem prog_calls (bs : List UInt8) (v : Value) (w : World) (hv : ∃ m, RepT (hideL [] w) (srcF bs m) v) : Calls Tryz.prog 17 #[v] w fun e w' => (∃ g u f, e = .returned (.tuple #[.agg #[g, u, f], .int .i64 ((progX bs).2.1 : Int), .int .i64 ((progX bs).2.2 : Int)]) ∧ RepL (hideL [] w') (encPr (progX bs).1) [g, u, f]) ∧ Below w.heap.size w w' := by
 obtain ⟨m, hv⟩ := hv
 have hm : Mem ⟨[], []⟩ w := ⟨List.nodup_nil, (fun b hb => absurd hb (by simp [Sto.bl])), (fun x hx => absurd hx (by simp)), (fun x hx => absurd hx (by simp))⟩
 refine (pProgram_c bs m ⟨[], []⟩ [v] w hm (fun b hb => absurd hb (by simp)) rfl fun i hi hi' => ?_).mono fun e w' ⟨r, v', s', h1, ⟨h2, h3⟩, h4, h5, h6, h7⟩ => ?_
 ·obtain rfl : i = 0 := by simpa using hi
  exact hv
 ·subst h2; subst h3
  refine ⟨?_, h6.os, h6.tape, h6.output, h6.size, fun k hk => h6.block k hk (by simp)⟩
  cases h4 with
  | tup _ vs hl hh =>
   obtain ⟨a, b, c, rfl⟩ : ∃ a b c, vs = [a, b, c] := by
    match vs, hl with
    | [a, b, c], _ => exact ⟨a, b, c, rfl⟩
   have h0 := hh 0 (by simp) (by simp)
   have hb := hh 1 (by simp) (by simp)
   have hc := hh 2 (by simp) (by simp)
   simp only [List.getElem_cons_zero, List.getElem_cons_succ] at h0 hb hc
   cases hb with | c _ _ hb => cases hb with | val _ _ => cases hc with | c _ _ hc => cases hc with | val _ _ => cases h0 with | agg _ us hu =>
    obtain ⟨g, u, f, rfl⟩ : ∃ g u f, us = [g, u, f] := by
     have := hu.len
     match us, this with
     | [a, b, c], _ => exact ⟨a, b, c, rfl⟩
    exact ⟨g, u, f, h1, hu⟩
theorem src_rep {bs : List UInt8} {v : Value} {w : World} (he : Env w) (hv : RowAt w v bs.length (bcells bs)) (hc : ∀ a k c, v = .slice a k c → c ≤ 9223372036854775807) : ∃ m, RepT (hideL [] w) (srcF bs m) v := by
 obtain ⟨m, hm⟩ := he.maxLen
 have hid : ∀ a : Addr, (hideL [] w).cell? a = w.cell? a := fun a => hideL_cell_ne _ _ _ (by simp)
 refine ⟨m, .fact _ _ _ _ [.int .i64 m] _ (.fact _ _ _ _ (words.map .string) _ (.c _ _ (.sl _ _ (bcells bs) _ (hv.mono fun a u h => by rw [hid]; exact h) (by simp [srcA, bcells]) ?_ hc)) ?_ ?_) ?_ ?_⟩
 ·have h9 := repL_vals (hideL [] w) (bcells bs) (fun u hu => by obtain ⟨c, _, rfl⟩ := List.mem_map.1 hu; rfl)
  have e1 : (bcells bs).map AC.val = srcA bs := by simp [bcells, srcA]
  rw [e1] at h9; exact h9.at_
 ·have h9 := repL_vals (hideL [] w) (words.map .string) (fun u hu => by obtain ⟨c, _, rfl⟩ := List.mem_map.1 hu; rfl)
  rw [List.map_map] at h9; exact h9
 ·intro j u hj
  rw [hid]
  have hjl : j < words.length := by have := (List.getElem?_eq_some_iff.1 hj).1; simpa using this
  rw [he.words j hjl]
  rw [List.getElem?_map, List.getElem?_eq_getElem hjl] at hj
  simp at hj; subst hj
  simp [List.getD, hjl]
 ·exact repL_vals _ [.int .i64 m] (fun u hu => by simp at hu; subst hu; rfl)
 ·intro j u hj
  rw [hid]
  match j, hj with
  | 0, hj => simp at hj; subst hj; exact hm
  | j + 1, hj => simp at hj
theorem prog_aw1 (v : Value) (w : World) (he : Env w) (hv : RowAt w v awP1.length (bcells awP1)) (hc : ∀ a k c, v = .slice a k c → c ≤ 9223372036854775807) : Calls Tryz.prog 17 #[v] w fun e w' => (∃ ga gn gc a c b off c2 a3 c3, e = .returned (.tuple #[.agg #[.slice ga gn gc, .slice a 1 c, .slice (some ⟨b, off, none⟩) 1 c2], .int .i64 42, .int .i64 0]) ∧ 1 ≤ c2 ∧ w'.cell? ⟨b, off + 2, none⟩ = some (.slice a3 2 c3)) ∧ Below w.heap.size w w' := by
 refine (prog_calls awP1 v w (src_rep he hv hc)).mono fun e w' ⟨⟨g, u, f, h1, h2⟩, hb⟩ => ⟨?_, hb⟩
 have hx := awP1_x
 simp only [Prod.mk.injEq] at hx
 obtain ⟨x1, x2, x3, x4⟩ := hx
 rw [x1, x2] at h1
 generalize (progX awP1).1 = p at h2 x3 x4
 have hu := h2.at_ 1 (by simp [encPr]) (by simp)
 have hf := h2.at_ 2 (by simp [encPr]) (by simp)
 have hg := h2.at_ 0 (by simp [encPr]) (by simp)
 simp only [encPr, List.getElem_cons_zero, List.getElem_cons_succ] at hu hf hg
 obtain ⟨ga, gn, gc, rfl⟩ : ∃ ga gn gc, g = .slice ga gn gc := by cases hg with | sl _ _ _ _ hr _ _ _ => obtain ⟨p, q, rfl, _⟩ := hr; exact ⟨_, _, _, rfl⟩
 rw [x3] at hu
 obtain ⟨F, hF, hFb⟩ : ∃ F, p.funcs = [F] ∧ F.body.length = 2 := by
  generalize p.funcs = q at x4
  match q, x4 with
  | [F], x4 => exact ⟨F, rfl, by simpa using x4⟩
  | [], x4 => simp at x4
  | _ :: _ :: _, x4 => simp at x4
 rw [hF] at hf
 cases hu with
 | sl _ _ us1 _ hr1 _ _ _ =>
  obtain ⟨a, c, rfl, _⟩ := hr1
  cases hf with
  | sl _ _ us2 _ hr2 hl2 hh2 _ =>
   obtain ⟨a2, c2, rfl, hc2, hr2⟩ := hr2
   have hl3 : 2 < us2.length := by rw [hl2]; simp [encF]
   have h3 : Rep (hideL [] w') (.sl F.body.length (F.body.flatMap encS)) us2[2] := hh2 2 (by simp [encF]) hl3
   generalize hz : us2[2] = z at h3
   rw [hFb] at h3
   cases h3 with
   | sl _ _ us3 _ hr3 _ _ _ =>
    obtain ⟨a3, c3, rfl, _⟩ := hr3
    rcases hr2 with h0 | ⟨b, off, rfl, hr2⟩
    ·rw [h0] at hl2; simp [encF] at hl2
    ·refine ⟨ga, _, gc, a, c, b, off, c2, a3, c3, h1, by simpa using hc2, ?_⟩
     exact (hideL_cell (hr2 2 _ (by rw [List.getElem?_eq_getElem hl3, hz]))).1
theorem prog_aw2 (v : Value) (w : World) (he : Env w) (hv : RowAt w v awP2.length (bcells awP2)) (hc : ∀ a k c, v = .slice a k c → c ≤ 9223372036854775807) : Calls Tryz.prog 17 #[v] w fun e w' => (∃ ga gn gc ua un uc fa fn fc, e = .returned (.tuple #[.agg #[.slice ga gn gc, .slice ua un uc, .slice fa fn fc], .int .i64 9, .int .i64 4])) ∧ Below w.heap.size w w' := by
 refine (prog_calls awP2 v w (src_rep he hv hc)).mono fun e w' ⟨⟨g, u, f, h1, h2⟩, hb⟩ => ⟨?_, hb⟩
 have sl : ∀ {n : Nat} {cs : List AC} {v : Value}, Rep (hideL [] w') (.sl n cs) v → ∃ a n c, v = .slice a n c := fun h => by cases h with | sl _ _ _ _ hr _ _ _ => obtain ⟨p, q, rfl, _⟩ := hr; exact ⟨_, _, _, rfl⟩
 obtain ⟨ga, gn, gc, rfl⟩ := sl (h2.at_ 0 (by simp [encPr]) (by simp))
 obtain ⟨ua, un, uc, rfl⟩ := sl (h2.at_ 1 (by simp [encPr]) (by simp))
 obtain ⟨fa, fn, fc, rfl⟩ := sl (h2.at_ 2 (by simp [encPr]) (by simp))
 refine ⟨ga, gn, gc, ua, un, uc, fa, fn, fc, ?_⟩
 have hx := awP2_x
 simp only [Prod.mk.injEq] at hx
 rw [hx.1, hx.2] at h1; exact h1
end Go.Proofs.YtflcnehhpmjipaaGreatDoor
namespace Go.Proofs.YtflcnehhpmjipaaGreatDoor
open Go.RowKit
theorem aw1_at (w : World) (he : Env w) : Calls Tryz.prog 17 #[.slice (some ⟨w.heap.size, 0, none⟩) 42 42] (w.alloc (Obj.cells #[Value.int .u8 109, Value.int .u8 117, Value.int .u8 116, Value.int .u8 101, Value.int .u8 120, Value.int .u8 32, Value.int .u8 97, Value.int .u8 59, Value.int .u8 32, Value.int .u8 102, Value.int .u8 117, Value.int .u8 110, Value.int .u8 99, Value.int .u8 32, Value.int .u8 109, Value.int .u8 97, Value.int .u8 105, Value.int .u8 110, Value.int .u8 40, Value.int .u8 41, Value.int .u8 32, Value.int .u8 123, Value.int .u8 32, Value.int .u8 108, Value.int .u8 111, Value.int .u8 99, Value.int .u8 107, Value.int .u8 32, Value.int .u8 97, Value.int .u8 59, Value.int .u8 32, Value.int .u8 117, Value.int .u8 110, Value.int .u8 108, Value.int .u8 111, Value.int .u8 99, Value.int .u8 107, Value.int .u8 32, Value.int .u8 97, Value.int .u8 59, Value.int .u8 32, Value.int .u8 125] 5 (42, 43))) fun e w' => (∃ ga gn gc a c b off c2 a3 c3, e = .returned (.tuple #[.agg #[.slice ga gn gc, .slice a 1 c, .slice (some ⟨b, off, none⟩) 1 c2], .int .i64 42, .int .i64 0]) ∧ 1 ≤ c2 ∧ w'.cell? ⟨b, off + 2, none⟩ = some (.slice a3 2 c3)) ∧ Below w.heap.size w w' :=
 (prog_aw1 _ _ (he.alloc _) (RowAt.new_mark w (bcells awP1) 5 42 (42, 43)) (fun _ _ _ h => by cases h; decide)).mono fun e w' ⟨h, hb⟩ => ⟨h, ((Below.refl _ _).alloc (Nat.le_refl _) _).trans (hb.mono (by simp))⟩
theorem aw2_at (w : World) (he : Env w) : Calls Tryz.prog 17 #[.slice (some ⟨w.heap.size, 0, none⟩) 10 10] (w.alloc (Obj.cells #[Value.int .u8 109, Value.int .u8 117, Value.int .u8 116, Value.int .u8 101, Value.int .u8 120, Value.int .u8 32, Value.int .u8 97, Value.int .u8 59, Value.int .u8 32, Value.int .u8 97] 5 (10, 11))) fun e w' => (∃ ga gn gc ua un uc fa fn fc, e = .returned (.tuple #[.agg #[.slice ga gn gc, .slice ua un uc, .slice fa fn fc], .int .i64 9, .int .i64 4])) ∧ Below w.heap.size w w' :=
 (prog_aw2 _ _ (he.alloc _) (RowAt.new_mark w (bcells awP2) 5 10 (10, 11)) (fun _ _ _ h => by cases h; decide)).mono fun e w' ⟨h, hb⟩ => ⟨h, ((Below.refl _ _).alloc (Nat.le_refl _) _).trans (hb.mono (by simp))⟩
theorem aw2_at2 (w : World) (X : Obj) (he : Env w) : Calls Tryz.prog 17 #[.slice (some ⟨w.heap.size + 1, 0, none⟩) 10 10] ((w.alloc X).alloc (Obj.cells #[Value.int .u8 109, Value.int .u8 117, Value.int .u8 116, Value.int .u8 101, Value.int .u8 120, Value.int .u8 32, Value.int .u8 97, Value.int .u8 59, Value.int .u8 32, Value.int .u8 97] 5 (10, 11))) fun e w' => (∃ ga gn gc ua un uc fa fn fc, e = .returned (.tuple #[.agg #[.slice ga gn gc, .slice ua un uc, .slice fa fn fc], .int .i64 9, .int .i64 4])) ∧ Below (w.heap.size + 1) (w.alloc X) w' := by
 have h := aw2_at (w.alloc X) (he.alloc _)
 have e1 : (w.alloc X).heap.size = w.heap.size + 1 := by simp
 rw [e1] at h; exact h
set_option maxRecDepth 100000 in
set_option maxHeartbeats 1600000 in
theorem awake3_any (w : World) (he : Env w) :
  Calls Tryz.prog 14 #[] w fun e w' => e = .returned (.bool true) ∧ Below w.heap.size w w' := by
 have kc := fun (w : World) (C : Array Value) (n c : Nat) => Lib.run_convert_bytes_const (P := Tryz.prog) w 23 5 C n c Tryz.underlying23 Tryz.underlying5
 go_enter Tryz.func14, Tryz.ntmps14
 go_wp2_with (go_at_call 17; ((with_reducible refine (aw1_at w he).mono ?_); rintro e w1 ⟨⟨ga, gn, gc, a, c, b, off, c2, a3, c3, rfl, hc2, hcell⟩, hb1⟩))
 have he1 : Env w1 := he.below hb1 he.size
 have hs1 := hb1.size
 have key : ∀ w2, Below w1.heap.size w1 w2 → Env w2 ∧ w2.cell? ⟨b, off + 2, none⟩ = some (.slice a3 2 c3) := fun w2 hb2 => ⟨he1.below hb2 he1.size, by rw [hb2.cell (p := ⟨b, off + 2, none⟩) (cell_lt hcell)]; exact hcell⟩
 have KEY := Lib.hid key
 clear key
 have HQ : ∀ w2, Below (w1.heap.size + 1) (w1.alloc (Obj.cells #[Value.slice ga gn gc, Value.slice a 1 c, Value.slice (some ⟨b, off, none⟩) 1 c2] 40)) w2 → (∀ X, (w2.alloc X).cell? ⟨w1.heap.size, 1, none⟩ = some (.slice a 1 c)) ∧ (∀ X, (w2.alloc X).cell? ⟨w1.heap.size, 2, none⟩ = some (.slice (some ⟨b, off, none⟩) 1 c2)) ∧ (∀ X, (w2.alloc X).cell? ⟨b, off + 2, none⟩ = some (.slice a3 2 c3)) := by
  intro w2 hb2
  have hs2 := hb2.size
  simp only [World.size_alloc] at hs2
  have h1 : ∀ o u, (w1.alloc (Obj.cells #[Value.slice ga gn gc, Value.slice a 1 c, Value.slice (some ⟨b, off, none⟩) 1 c2] 40)).cell? ⟨w1.heap.size, o, none⟩ = some u → ∀ X, (w2.alloc X).cell? ⟨w1.heap.size, o, none⟩ = some u := fun o u h X => by
   rw [World.cell?_alloc_lt w2 _ ⟨w1.heap.size, o, none⟩ (by show w1.heap.size < w2.heap.size; omega), hb2.cell (p := ⟨w1.heap.size, o, none⟩) (by show w1.heap.size < _; omega)]; exact h
  have hbl := cell_lt hcell
  refine ⟨h1 1 _ (by simp [World.cell?_alloc_mark]), h1 2 _ (by simp [World.cell?_alloc_mark]), fun X => ?_⟩
  rw [World.cell?_alloc_lt w2 _ ⟨b, off + 2, none⟩ (by show b < w2.heap.size; have : b < w1.heap.size := hbl; omega), hb2.cell (p := ⟨b, off + 2, none⟩) (by show b < _; have : b < w1.heap.size := hbl; omega), World.cell?_alloc_lt w1 _ ⟨b, off + 2, none⟩ hbl]; exact hcell
 have kc2 := fun (X : Obj) (C : Array Value) (n c : Nat) => kc (w1.alloc X) C n c
 simp only [World.size_alloc] at kc2
 go_wp2_with (first | (go_at_call 17; ((with_reducible refine (aw2_at2 w1 _ he1).mono ?_); rintro e w2 ⟨⟨ga2, gn2, gc2, ua2, un2, uc2, fa2, fn2, fc2, rfl⟩, hb2⟩)))
 rw [kc2]
 go_wp2_with (first | (go_at_call 17; ((with_reducible refine (aw2_at2 w1 _ he1).mono ?_); rintro e w2 ⟨⟨ga2, gn2, gc2, ua2, un2, uc2, fa2, fn2, fc2, rfl⟩, hb2⟩; obtain ⟨q1, q2, q3⟩ := HQ w2 hb2)))
 go_ret
 have hb3 := (hb1.alloc hb1.size (Obj.cells #[Value.slice ga gn gc, Value.slice a 1 c, Value.slice (some ⟨b, off, none⟩) 1 c2] 40)).trans (hb2.mono (by have := hb1.size; omega))
 exact ⟨rfl, hb3.alloc hb3.size _⟩
end Go.Proofs.YtflcnehhpmjipaaGreatDoor
