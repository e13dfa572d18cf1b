import Derived.Test.YtlbocidcjmehfaaDoorText6J
import Derived.Test.YtlbocidcjmehfaaDoorA6J
set_option linter.unusedVariables false
set_option linter.unusedSimpArgs false
namespace Go.Proofs.YtlbocidcjmehfaaDoor
open Go.RowKit
theorem rlex_str (s : List UInt8) (w : World) (hs : s.length < 9223372036854775808) (c : Nat) (hc : c = grownCap w s.length 0 5) (fr : Nat × Nat) :
  Calls Tryd.prog 19 #[.slice (some ⟨w.heap.size, 0, none⟩) s.length c] ((w.alloc (.cells (bytesRow (bytes s) c) 5 fr)).drew)
   fun e w' => (∃ v pos er, e = .returned (.tuple #[v, .int .i64 pos, .int .i64 er]) ∧ LexR w' s v pos er) ∧ Below w.heap.size w w' := by
 subst hc
 have hr := row_of_string w (bytes s) (grownCap w s.length 0 5) 5 (by rw [bytes_size]; exact (grownCap_le w _ _ hs).1) fr
 rw [bytes_toList, bytes_size] at hr
 exact (rLex_any s _ (w.drew.alloc _) hr (fun _ _ c h => by cases h; exact (grownCap_le w _ _ hs).2)).mono fun e w' ⟨h, hb⟩ => ⟨h, Below.step (below_str w _) hb⟩
structure AProg.right (p : AProg) : Prop where
 lens : p.globals.length ≤ 16 ∧ p.mutexes.length ≤ 12 ∧ p.funcs.length ≤ 16
 globals : p.globals.all okGlobalB = true
 mutexes : p.mutexes.all okMutexB = true
 funcs : p.funcs.all okFuncB = true
 count : ∀ f, f ∈ p.funcs → countL f.body ≤ 100000000000000
theorem lexR_ok {w : World} {s : List UInt8} {v : Value} {pos er : Int} (h : LexR w s v pos er) : (er == 0) = (lexL s).isOk := by
 rcases h with ⟨l, h1, _, _, h4, _⟩ | ⟨p, e, h1, _, _, h4, h5⟩
 ·rw [h1, h4]; rfl
 ·rw [h1, h4, beq_eq_false_iff_ne.2 (by omega)]; rfl
theorem cells3 {A B : World} {p1 p2 p3 : Addr} {u1 u2 u3 : Value} (h : A.cell? p1 = some u1 ∧ A.cell? p2 = some u2 ∧ A.cell? p3 = some u3) (hb : Below A.heap.size A B) : B.cell? p1 = some u1 ∧ B.cell? p2 = some u2 ∧ B.cell? p3 = some u3 :=
 ⟨cell_step h.1 hb, cell_step h.2.1 hb, cell_step h.2.2 hb⟩
def vlR (w : World) (vg vm vf : Value) (n : Nat) (v : Value) (wr : World) : Prop :=
 ∃ k : Nat, v = .int .i64 k ∧ k ≤ n ∧ Below w.heap.size w wr ∧ w.heap.size < wr.heap.size ∧ wr.cell? ⟨w.heap.size, 0, none⟩ = some vg ∧ wr.cell? ⟨w.heap.size, 1, none⟩ = some vm ∧ wr.cell? ⟨w.heap.size, 2, none⟩ = some vf
def vpR (W : World) (n B : Nat) (vg vm vf : Value) (D : Nat) (vn vp vb : Value) (v : Value) (wr : World) : Prop :=
 ∃ k : Nat, v = .int .i64 k ∧ k ≤ n ∧ Below W.heap.size W wr ∧ wr.cell? ⟨B, 0, none⟩ = some vg ∧ wr.cell? ⟨B, 1, none⟩ = some vm ∧ wr.cell? ⟨B, 2, none⟩ = some vf ∧ wr.cell? ⟨D, 0, none⟩ = some vn ∧ wr.cell? ⟨D, 1, none⟩ = some vp ∧ wr.cell? ⟨D, 2, none⟩ = some vb
set_option maxRecDepth 100000 in
set_option maxHeartbeats 16000000 in
theorem valid_any (p : AProg) (cs : List Value) (w : World) (hf : p.fine) (hp : p.right) (hr : ProgRep w p cs) :
  Calls Tryd.prog 49 #[.agg cs.toArray] w fun e w' => e = .returned (.bool (lexL (progText p)).isOk) ∧ Below w.heap.size w w' := by
 have hr0 := hr
 have PG := Lib.hid (fun w' (hb : Below w.heap.size w w') => program_any p cs w' hf (hr0.below hb))
 have hlenP := hf.len
 obtain ⟨P, hP⟩ : ∃ P, P = progText p := ⟨_, rfl⟩
 rw [← hP] at PG hlenP ⊢
 have HFB := Lib.hid (show ∀ f, f ∈ p.funcs → fineL f.body from fun f h => (hf.funcs f h).2)
 clear hP hf hr0
 obtain ⟨gs, ms, fs⟩ := p
 obtain ⟨⟨hl1, hl2, hl3⟩, hg, hm, hfu, hco⟩ := hp
 obtain ⟨vg, vm, vf, rfl, hvg, hvm, hvf⟩ := hr
 dsimp only at hvg hvm hvf hl1 hl2 hl3 hg hm hfu hco HFB
 obtain ⟨ga, gc, rfl, hgc⟩ := hvg.slice
 obtain ⟨ma, mc, rfl, hmc⟩ := hvm.slice
 obtain ⟨fa, fc, rfl, hfc⟩ := hvf.slice
 have G1 := Lib.hid (List.all_eq_true.1 hg)
 have M1 := Lib.hid (List.all_eq_true.1 hm)
 have F1 := Lib.hid (List.all_eq_true.1 hfu)
 have C1 := Lib.hid hco
 clear hg hm hfu hco
 have HVG := Lib.hid hvg
 have HVM := Lib.hid hvm
 have HVF := Lib.hid hvf
 clear hvg hvm hvf
 have hbo := fun W => bytes_of W (bytes P)
 rw [bytes_size] at hbo
 have BO := Lib.hid hbo
 clear hbo
 go_enter Tryd.func49, Tryd.ntmps49
 go_wp2_with fail
 go_loopw [3] (fun v wr => vlR w (.slice ga gs.length gc) (.slice ma ms.length mc) (.slice fa fs.length fc) gs.length v wr) (fun v _ => gs.length - (intOf v).toNat)
 case atStart => exact ⟨0, rfl, by omega, by go_grown, by simp, by go_simp, by go_simp, by go_simp⟩
 case round =>
  obtain ⟨k, rfl, hk, hbel, hsz, c0, c1, c2⟩ := hrel
  by_cases hlt : k < gs.length
  ·have hlt' : (k : Int) < gs.length := by omega
   obtain ⟨b, off, cap', row, hsl, hc', hR, hrow, hblt, hcells⟩ := (HVG.out.below hbel fun a cs _ h => h).get (by omega) hlt
   cases hsl
   have hok := G1.out _ (List.getElem_mem hlt)
   generalize hsk : gs[k] = g at hR hok
   obtain ⟨name, init⟩ := g
   cases hR
   have d0 := hcells 0 _ rfl
   have d1 := hcells 1 _ rfl
   rw [Nat.add_zero] at d0
   rw [okGlobalB, Bool.and_eq_true] at hok
   dsimp only at d0 d1 hok
   have VN := Lib.hid (fun w' => rname_true name w' hok.1)
   have hi : (init == -9223372036854775808) = false := by rw [beq_eq_false_iff_ne]; simpa using hok.2
   have HSK := Lib.hid hsk
   clear hcells hrow hsk hok
   go_wp2_with (go_at_call 84; ((with_reducible refine (VN.out _).mono ?_); rintro e w2 ⟨rfl, hb2⟩; have hbel2 := Below.step hbel hb2; have hsz2 := Nat.lt_of_lt_of_le hsz hb2.size; have e0 := cell_step c0 hb2; have e1 := cell_step c1 hb2; have e2 := cell_step c2 hb2; have f1 := cell_step d1 hb2; clear c0 c1 c2 d0 d1))
   go_roundw
   case rel => exact ⟨k + 1, by go_num, by omega, hbel2, hsz2, e0, e1, e2⟩
   case measure => simp [intOf]; omega
  ·have hke : k = gs.length := by omega
   subst hke
   have hge : ¬ ((gs.length : Int) < gs.length) := by omega
   go_wp2_with fail
   go_loopw [4] (fun v wr => vlR w (.slice ga gs.length gc) (.slice ma ms.length mc) (.slice fa fs.length fc) ms.length v wr) (fun v _ => ms.length - (intOf v).toNat)
   case atStart => exact ⟨0, rfl, by omega, hbel, hsz, c0, c1, c2⟩
   case round =>
    clear hbel hsz c0 c1 c2
    obtain ⟨k, rfl, hk, hbel, hsz, c0, c1, c2⟩ := hrel
    by_cases hlt : k < ms.length
    ·have hlt' : (k : Int) < ms.length := by omega
     obtain ⟨b, off, cap', row, hsl, hc', hR, hrow, hblt, hcells⟩ := (HVM.out.below hbel fun a cs _ h => h).get (by omega) hlt
     cases hsl
     have hok := M1.out _ (List.getElem_mem hlt)
     generalize hsk : ms[k] = m at hR hok
     obtain ⟨name, re, size⟩ := m
     cases hR
     have d0 := hcells 0 _ rfl
     have d1 := hcells 1 _ rfl
     have d2 := hcells 2 _ rfl
     rw [Nat.add_zero] at d0
     rw [okMutexB, Bool.and_eq_true, Bool.and_eq_true, decide_eq_true_eq] at hok
     dsimp only at d0 d1 d2 hok
     obtain ⟨⟨hok1, hok2, hok3⟩, hok4⟩ := hok
     have VN := Lib.hid (fun w' => rname_true name w' hok1)
     have HSK := Lib.hid hsk
     clear hcells hrow hsk hok1
     cases re
     ·clear hok4
      go_wp2_with (go_at_call 84; ((with_reducible refine (VN.out _).mono ?_); rintro e w2 ⟨rfl, hb2⟩; have hbel2 := Below.step (hbel.alloc (Nat.le_of_lt hsz) _) hb2; have hsz2 : w.heap.size < w2.heap.size := Nat.lt_of_lt_of_le hsz (Nat.le_trans (Nat.le_succ _) (by have := hb2.size; simpa using this)); have e0 := cell_new c0 hb2; have e1 := cell_new c1 hb2; have e2 := cell_new c2 hb2; have m3 : w2.cell? ⟨wr.heap.size, 0, none⟩ = some (.string name) ∧ w2.cell? ⟨wr.heap.size, 1, none⟩ = some (.bool false) ∧ w2.cell? ⟨wr.heap.size, 2, none⟩ = some (.int .i64 size) := cells3 ⟨by go_simp, by go_simp, by go_simp⟩ hb2; clear c0 c1 c2 d0 d1 d2))
      go_roundw
      case rel => exact ⟨k + 1, by go_num, by omega, hbel2, hsz2, e0, e1, e2⟩
      case measure => simp [intOf]; omega
     ·obtain rfl : size = 0 := by simp at hok4; omega
      clear hok4 hok2 hok3
      go_wp2_with (go_at_call 84; ((with_reducible refine (VN.out _).mono ?_); rintro e w2 ⟨rfl, hb2⟩; have hbel2 := Below.step (hbel.alloc (Nat.le_of_lt hsz) _) hb2; have hsz2 : w.heap.size < w2.heap.size := Nat.lt_of_lt_of_le hsz (Nat.le_trans (Nat.le_succ _) (by have := hb2.size; simpa using this)); have e0 := cell_new c0 hb2; have e1 := cell_new c1 hb2; have e2 := cell_new c2 hb2; have m3 : w2.cell? ⟨wr.heap.size, 0, none⟩ = some (.string name) ∧ w2.cell? ⟨wr.heap.size, 1, none⟩ = some (.bool true) ∧ w2.cell? ⟨wr.heap.size, 2, none⟩ = some (.int .i64 0) := cells3 ⟨by go_simp, by go_simp, by go_simp⟩ hb2; clear c0 c1 c2 d0 d1 d2))
      go_roundw
      case rel => exact ⟨k + 1, by go_num, by omega, hbel2, hsz2, e0, e1, e2⟩
      case measure => simp [intOf]; omega
    ·have hke : k = ms.length := by omega
     subst hke
     have hge : ¬ ((ms.length : Int) < ms.length) := by omega
     go_wp2_with fail
     go_loopw [6] (fun v wr => vlR w (.slice ga gs.length gc) (.slice ma ms.length mc) (.slice fa fs.length fc) fs.length v wr) (fun v _ => fs.length - (intOf v).toNat)
     case atStart => exact ⟨0, rfl, by omega, hbel, hsz, c0, c1, c2⟩
     case round =>
      clear hbel hsz c0 c1 c2
      obtain ⟨k, rfl, hk, hbel, hsz, c0, c1, c2⟩ := hrel
      by_cases hlt : k < fs.length
      ·have hlt' : (k : Int) < fs.length := by omega
       obtain ⟨b, off, cap', row, hsl, hc', hR, hrow, hblt, hcells⟩ := (HVF.out.below hbel fun a cs _ h => FuncRep.below hbel h).get (by omega) hlt
       cases hsl
       have hok := F1.out _ (List.getElem_mem hlt)
       have hcn := C1.out _ (List.getElem_mem hlt)
       have hfb := HFB.out _ (List.getElem_mem hlt)
       generalize hsk : fs[k] = f at hR hok hcn hfb
       obtain ⟨name, ps, body⟩ := f
       obtain ⟨vp, vb, hrw, hvp, hvb⟩ := hR
       dsimp only at hvp hvb hcn hfb
       obtain ⟨pa, pc, rfl, hpc⟩ := hvp.slice
       obtain ⟨ba, bc, rfl, hbc⟩ := hvb.slice
       subst hrw
       have d0 := hcells 0 _ rfl
       have d1 := hcells 1 _ rfl
       have d2 := hcells 2 _ rfl
       rw [Nat.add_zero] at d0
       rw [okFuncB, Bool.and_eq_true, Bool.and_eq_true, Bool.and_eq_true, decide_eq_true_eq] at hok
       dsimp only at d0 d1 d2 hok
       obtain ⟨⟨⟨hok1, hok2⟩, hok3⟩, hok4⟩ := hok
       have hok2' : (ps.length : Int) ≤ 6 := by omega
       have VN := Lib.hid (fun w' => rname_true name w' hok1)
       have VB := Lib.hid (fun w' (hb : Below wr.heap.size wr w') => okStmts_true _ body hcn (Nat.le_refl _) hfb 0 0 rfl hok3 _ w' (hvb.below hb fun a cs _ h => StmtRep.below hb _ h))
       have PA := Lib.hid (List.all_eq_true.1 hok4)
       have HVP := Lib.hid hvp
       have HSK := Lib.hid hsk
       clear hcells hrow hsk hok1 hok3 hok4 hvp hvb hcn hfb
       go_wp2_with (first
        | (go_at_call 84; ((with_reducible refine (VN.out _).mono ?_); rintro e w2 ⟨rfl, hb2⟩; have hB2 : Below wr.heap.size wr w2 := Below.step (by go_grown) hb2; have hbel2 := Below.step (hbel.alloc (Nat.le_of_lt hsz) _) hb2; have e0 := cell_new c0 hb2; have e1 := cell_new c1 hb2; have e2 := cell_new c2 hb2; have m3 : w2.cell? ⟨wr.heap.size, 0, none⟩ = some (.string name) ∧ w2.cell? ⟨wr.heap.size, 1, none⟩ = some (.slice pa ps.length pc) ∧ w2.cell? ⟨wr.heap.size, 2, none⟩ = some (.slice ba body.length bc) := cells3 ⟨by go_simp, by go_simp, by go_simp⟩ hb2; clear c0 c1 c2 d0 d1 d2))
        | (go_at_call 85; ((with_reducible refine (VB.out _ hB2).mono ?_); rintro e w3 ⟨rfl, hb3⟩; have hB3 := Below.step hB2 hb3; have hbel3 := Below.step hbel2 hb3; have q0 := cell_step e0 hb3; have q1 := cell_step e1 hb3; have q2 := cell_step e2 hb3; have n3 := cells3 m3 hb3; clear e0 e1 e2 m3)))
       obtain ⟨wo, rfl⟩ : ∃ wo : World, wo = wr := ⟨_, rfl⟩
       go_loopw [8] (fun v wr' => vpR wo ps.length w.heap.size (.slice ga gs.length gc) (.slice ma ms.length mc) (.slice (some ⟨b, off, none⟩) fs.length fc) wo.heap.size (.string name) (.slice pa ps.length pc) (.slice ba body.length bc) v wr') (fun v _ => ps.length - (intOf v).toNat)
       case atStart => exact ⟨0, rfl, by omega, hB3, q0, q1, q2, n3.1, n3.2.1, n3.2.2⟩
       case round =>
        clear q0 q1 q2 n3
        obtain ⟨j, rfl, hj, kB, q0, q1, q2, n0, n1, n2⟩ := hrel
        by_cases hjt : j < ps.length
        ·have hjt' : (j : Int) < ps.length := by omega
         obtain ⟨pb, poff, pcap, prow, psl, pc', pR, prw, pblt, pcells⟩ := (HVP.out.below kB fun a cs _ h => h).get (by omega) hjt
         cases psl
         have pok := PA.out _ (List.getElem_mem hjt)
         generalize hpk : ps[j] = x at pR pok
         obtain ⟨pname, pm⟩ := x
         cases pR
         have p0 := pcells 0 _ rfl
         have p1 := pcells 1 _ rfl
         rw [Nat.add_zero] at p0
         dsimp only at p0 p1 pok
         have VX := Lib.hid (fun w' => rname_true pname w' pok)
         have PK := Lib.hid hpk
         clear pcells prw hpk pok
         go_wp2_with (go_at_call 84; ((with_reducible refine (VX.out _).mono ?_); rintro e w4 ⟨rfl, hb4⟩))
         go_roundw
         case rel => exact ⟨j + 1, by go_num, by omega, Below.step kB hb4, cell_step q0 hb4, cell_step q1 hb4, cell_step q2 hb4, cell_step n0 hb4, cell_step n1 hb4, cell_step n2 hb4⟩
         case measure => simp [intOf]; omega
        ·have hje : j = ps.length := by omega
         subst hje
         have hge2 : ¬ ((ps.length : Int) < ps.length) := by omega
         go_wp2_with fail
         go_roundw
         case rel => exact ⟨k + 1, by go_num, by omega, hbel.trans (kB.mono (Nat.le_of_lt hsz)), Nat.lt_of_lt_of_le hsz kB.size, q0, q1, q2⟩
         case measure => simp [intOf]; omega
      ·have hke : k = fs.length := by omega
       subst hke
       have hge : ¬ ((fs.length : Int) < fs.length) := by omega
       have hbo := BO.out
       go_wp2_with (first
        | (go_at_call 50; ((with_reducible refine (PG.out _ hbel).mono ?_); rintro e w2 ⟨rfl, hb2⟩; have hbel2 := Below.step hbel hb2))
        | (go_at_call 19; ((with_reducible refine (rlex_str P _ (by omega) _ rfl _).mono ?_); rintro e w3 ⟨⟨lv, pos, er, rfl, hlr⟩, hb3⟩; have hbel3 := Below.step hbel2 hb3; have HQ := Lib.hid (lexR_ok hlr); clear hlr hbo)))
       go_ret
       exact ⟨ret_bool (by rw [← HQ.out]), hbel3⟩
end Go.Proofs.YtlbocidcjmehfaaDoor
namespace Go.Proofs.YtlbocidcjmehfaaDoor
open Go.RowKit
def formatT (p : AProg) : List UInt8 := if (lexL (progText p)).isOk = true then progText p else []
theorem formatT_ok (p : AProg) : (lexL (formatT p)).isOk = true := by
 unfold formatT
 by_cases h : (lexL (progText p)).isOk = true
 ·rw [if_pos h]; exact h
 ·rw [if_neg h]; kernel_rfl
set_option maxRecDepth 100000 in
set_option maxHeartbeats 4000000 in
theorem format_any (p : AProg) (cs : List Value) (w : World) (hf : p.fine) (hp : p.right) (hr : ProgRep w p cs) :
  Calls Tryd.prog 28 #[.agg cs.toArray] w fun e w' => e = .returned (.string (bytes (formatT p))) ∧ Below w.heap.size w w' := by
 have hr0 := hr
 have VL := Lib.hid (fun w' (hb : Below w.heap.size w w') => valid_any p cs w' hf hp (hr0.below hb))
 have PG := Lib.hid (fun w' (hb : Below w.heap.size w w') => program_any p cs w' hf (hr0.below hb))
 obtain ⟨vg, vm, vf, rfl, hvg, hvm, hvf⟩ := hr
 obtain ⟨ga, gc, rfl, hgc⟩ := hvg.slice
 obtain ⟨ma, mc, rfl, hmc⟩ := hvm.slice
 obtain ⟨fa, fc, rfl, hfc⟩ := hvf.slice
 obtain ⟨q, hq⟩ : ∃ q, q = (lexL (progText p)).isOk := ⟨_, rfl⟩
 have HQ := Lib.hid hq
 obtain ⟨P, hP⟩ : ∃ P, P = progText p := ⟨_, rfl⟩
 have HP := Lib.hid hP
 rw [← hq] at VL
 rw [← hP] at PG
 clear hr0 hvg hvm hvf hf hp hq hP
 generalize p.globals.length = n1 at *
 generalize p.mutexes.length = n2 at *
 generalize p.funcs.length = n3 at *
 cases q
 all_goals
  go_enter Tryd.func28, Tryd.ntmps28
  go_wp2_with (first
   | (go_at_call 49; ((with_reducible refine (VL.out _ (by go_grown)).mono ?_); rintro e w1 ⟨rfl, hb1⟩; have hB1 : Below w.heap.size w w1 := Below.step (by go_grown) hb1; have c3 : w1.cell? ⟨w.heap.size, 0, none⟩ = some (.slice ga n1 gc) ∧ w1.cell? ⟨w.heap.size, 1, none⟩ = some (.slice ma n2 mc) ∧ w1.cell? ⟨w.heap.size, 2, none⟩ = some (.slice fa n3 fc) := cells3 ⟨by go_simp, by go_simp, by go_simp⟩ hb1))
   | (go_at_call 50; ((with_reducible refine (PG.out _ hB1).mono ?_); rintro e w2 ⟨rfl, hb2⟩; have hB2 := Below.step hB1 hb2)))
  go_ret
 ·exact ⟨ret_str (by rw [formatT, if_neg (by rw [← HQ.out]; simp)]; rfl), hB1⟩
 ·exact ⟨ret_str (by rw [formatT, if_pos HQ.out.symm, HP.out]), hB2⟩
end Go.Proofs.YtlbocidcjmehfaaDoor
