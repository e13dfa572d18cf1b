import Derived.Test.YtlbocidcjmehfaaDoorText4J
set_option linter.unusedVariables false
set_option linter.unusedSimpArgs false
namespace Go.Proofs.YtlbocidcjmehfaaDoor
open Go.RowKit
theorem cat_take {α : Type} (f : α → List UInt8) (l : List α) (k : Nat) (hk : k < l.length) : ((l.take (k + 1)).map f).flatten = ((l.take k).map f).flatten ++ f l[k] := by
 rw [List.take_succ_eq_append_getElem hk, List.map_append, List.flatten_append, List.map_cons, List.map_nil, List.flatten_cons, List.flatten_nil, List.append_nil]
theorem cat_part {α : Type} (f : α → List UInt8) (l : List α) (k : Nat) (hk : k < l.length) : ((l.take k).map f).flatten.length + (f l[k]).length ≤ ((l.map f).flatten).length := by
 have h : (l.map f).flatten = ((l.take (k + 1)).map f).flatten ++ ((l.drop (k + 1)).map f).flatten := by
  rw [← List.flatten_append, ← List.map_append, List.take_append_drop]
 rw [h, cat_take f l k hk]; simp only [List.length_append]; omega
theorem cat_long {α : Type} (f : α → List UInt8) (h1 : ∀ x, 1 ≤ (f x).length) : ∀ l : List α, l.length ≤ ((l.map f).flatten).length
 | [] => by simp
 | x :: r => by
  have := cat_long f h1 r
  have := h1 x
  simp only [List.map_cons, List.flatten_cons, List.length_append, List.length_cons]; omega
theorem globalText_one (g : AGlobal) : 1 ≤ (globalText g).length := by first | (simp [globalText]; done) | (simp [globalText]; omega)
theorem mutexText_one (g : AMutex) : 1 ≤ (mutexText g).length := by first | (simp [mutexText]; done) | (simp [mutexText]; omega)
theorem funcText_one (g : AFunc) : 1 ≤ (funcText g).length := by first | (simp [funcText]; done) | (simp [funcText]; omega)
def inI64 (n : Int) : Prop := -9223372036854775808 ≤ n ∧ n ≤ 9223372036854775807
def AFunc.fine (f : AFunc) : Prop := f.params.length ≤ 1000000000 ∧ fineL f.body
structure AProg.fine (p : AProg) : Prop where
 globals : ∀ g, g ∈ p.globals → inI64 g.init
 mutexes : ∀ m, m ∈ p.mutexes → inI64 m.size
 funcs : ∀ f, f ∈ p.funcs → f.fine
 len : (progText p).length ≤ 100000000000000
theorem cell_new {a b : World} {o : Obj} {p : Addr} {u : Value} (h : a.cell? p = some u) (hb : Below (a.alloc o).heap.size (a.alloc o) b) : b.cell? p = some u :=
 cell_step (cell_step h ((Below.refl _ _).alloc (Nat.le_refl _) o)) hb
def pgR (w : World) (vg vm vf : Value) (n : Nat) (T : Nat → List UInt8) (u v : Value) (wr : World) : Prop :=
 ∃ (k : Nat) (t : List UInt8), v = .int .i64 k ∧ k ≤ n ∧ u = .string (bytes t) ∧ t = T k ∧ Below w.heap.size w wr ∧ w.heap.size < wr.heap.size ∧ wr.cell? ⟨w.heap.size, 0, none⟩ = some vg ∧ wr.cell? ⟨w.heap.size, 1, none⟩ = some vm ∧ wr.cell? ⟨w.heap.size, 2, none⟩ = some vf
def paR (q : List UInt8) (ps : List AParam) (u v : Value) : Prop := ∃ (k : Nat) (t : List UInt8), v = .int .i64 k ∧ k ≤ ps.length ∧ u = .string (bytes t) ∧ t = q ++ commaL paramText (ps.take k)
theorem lines_tab (l : List AStmt) (v : Value) (w : World) (hf : fineL l) (hL : (stmtsText [9] l).length + 1 ≤ 1000000000000000) (hv : ListRep w (StmtRep w) 11 v l) :
  Calls Tryd.prog 87 #[v, .string ⟨#[9]⟩] w fun e w' => e = .returned (.string (bytes (stmtsText [9] l))) ∧ Below w.heap.size w w' := lines_any _ l (Nat.le_refl _) hf [9] hL v w hv
set_option maxRecDepth 100000 in
set_option maxHeartbeats 16000000 in
theorem program_any (p : AProg) (cs : List Value) (w : World) (hf : p.fine) (hr : ProgRep w p cs) :
  Calls Tryd.prog 50 #[.agg cs.toArray] w fun e w' => e = .returned (.string (bytes (progText p))) ∧ Below w.heap.size w w' := by
 obtain ⟨gs, ms, fs⟩ := p
 obtain ⟨vg, vm, vf, rfl, hvg, hvm, hvf⟩ := hr
 obtain ⟨hf1, hf2, hf3, hL⟩ := hf
 dsimp only at hvg hvm hvf hf1 hf2 hf3
 obtain ⟨ga, gc, rfl, hgc⟩ := hvg.slice
 obtain ⟨ma, mc, rfl, hmc⟩ := hvm.slice
 obtain ⟨fa, fc, rfl, hfc⟩ := hvf.slice
 obtain ⟨P, hP⟩ : ∃ P, P = progText ⟨gs, ms, fs⟩ := ⟨_, rfl⟩
 have hP2 : P = (gs.map globalText).flatten ++ (ms.map mutexText).flatten ++ (fs.map funcText).flatten := hP
 rw [← hP] at hL ⊢
 have hLL : (gs.map globalText).flatten.length + (ms.map mutexText).flatten.length + (fs.map funcText).flatten.length ≤ 100000000000000 := by rw [hP2] at hL; simp only [List.length_append] at hL; omega
 have hg1 := cat_long globalText globalText_one gs
 have hm1 := cat_long mutexText mutexText_one ms
 have hf1' := cat_long funcText funcText_one fs
 obtain ⟨G, hG⟩ : ∃ G, G = (gs.map globalText).flatten := ⟨_, rfl⟩
 obtain ⟨M, hM⟩ : ∃ M, M = (ms.map mutexText).flatten := ⟨_, rfl⟩
 have HP := Lib.hid hP2
 have HF1 := Lib.hid hf1
 have HF2 := Lib.hid hf2
 have HF3 := Lib.hid hf3
 have HG := Lib.hid hG
 have HM := Lib.hid hM
 clear hP hP2 hf1 hf2 hf3 hG hM hL
 go_enter Tryd.func50, Tryd.ntmps50
 go_wp2_with fail
 go_loopw [3, 4] (fun u v wr => pgR w (.slice ga gs.length gc) (.slice ma ms.length mc) (.slice fa fs.length fc) gs.length (fun k => ((gs.take k).map globalText).flatten) u v wr) (fun _ v _ => gs.length - (intOf v).toNat)
 case atStart => exact ⟨0, [], rfl, by omega, rfl, rfl, by go_grown, by simp, by go_simp, by go_simp, by go_simp⟩
 case round =>
  obtain ⟨k, t, rfl, hk, rfl, ht, hbel, hsz, c0, c1, c2⟩ := hrel
  by_cases hlt : k < gs.length
  ·have hlt' : (k : Int) < gs.length := by omega
   obtain ⟨b, off, cap', row, hsl, hc', hR, hrow, hblt, hcells⟩ := (hvg.below hbel fun a cs _ h => h).get (by omega) hlt
   cases hsl
   have hfg := HF1.out _ (List.getElem_mem hlt)
   have hct := cat_take globalText gs k hlt
   have hpart := cat_part globalText gs k hlt
   dsimp only at ht
   rw [← ht] at hct hpart
   generalize hsk : gs[k] = g at hR hfg hct hpart
   obtain ⟨name, init⟩ := g
   cases hR
   have d0 := hcells 0 _ rfl
   have d1 := hcells 1 _ rfl
   rw [Nat.add_zero] at d0
   dsimp only at d0 d1 hfg
   obtain ⟨nl, rfl⟩ : ∃ nl, name = bytes nl := ⟨name.data.toList, (bytes_back name).symm⟩
   rw [globalText] at hpart hct
   dsimp only at hpart hct
   rw [bytes_toList] at hpart hct
   have HVG := Lib.hid hvg
   have HVM := Lib.hid hvm
   have HVF := Lib.hid hvf
   have HSK := Lib.hid hsk
   clear hcells hrow hvg hvm hvf ht hsk
   by_cases h0 : init = 0
   ·subst h0
    rw [if_pos rfl] at hpart hct
    simp only [List.length_append, List.length_cons, List.length_nil] at hpart
    obtain ⟨t1, ht1, hlt1, hat1⟩ := add_opaque t [118, 97, 114, 32] ⟨#[118, 97, 114, 32]⟩ rfl (by (try simp only [List.length_append, List.length_cons, List.length_nil] at hpart ⊢); omega)
    obtain ⟨t2, ht2, hlt2, hat2⟩ := add_opaque t1 nl (bytes nl) rfl (by (try simp only [List.length_append, List.length_cons, List.length_nil] at hpart hlt1 ⊢); omega)
    obtain ⟨t3, ht3, hlt3, hat3⟩ := add_opaque t2 [59, 10] ⟨#[59, 10]⟩ rfl (by (try simp only [List.length_append, List.length_cons, List.length_nil] at hpart hlt1 hlt2 ⊢); omega)
    have HE := Lib.hid (show t3 = ((gs.take (k + 1)).map globalText).flatten by rw [hct, ht3, ht2, ht1]; try simp only [List.append_assoc, List.cons_append, List.nil_append, List.append_nil])
    clear ht1 hlt1 ht2 hlt2 ht3 hlt3
    clear hpart hct
    go_wp2_with fail
    go_roundw
    case rel => exact ⟨k + 1, t3, by go_num, by omega, rfl, HE.out, hbel, hsz, c0, c1, c2⟩
    case measure => simp [intOf]; omega
   ·have hn : (init != 0) = true := by simpa using h0
    rw [if_neg h0] at hpart hct
    obtain ⟨hfn1, hfn2⟩ := hfg
    obtain ⟨x, hx⟩ : ∃ x, x = numberL init := ⟨_, rfl⟩
    rw [← hx] at hpart hct
    have HX := Lib.hid hx
    simp only [List.length_append, List.length_cons, List.length_nil] at hpart
    obtain ⟨t1, ht1, hlt1, hat1⟩ := add_opaque t [118, 97, 114, 32] ⟨#[118, 97, 114, 32]⟩ rfl (by (try simp only [List.length_append, List.length_cons, List.length_nil] at hpart ⊢); omega)
    obtain ⟨t2, ht2, hlt2, hat2⟩ := add_opaque t1 nl (bytes nl) rfl (by (try simp only [List.length_append, List.length_cons, List.length_nil] at hpart hlt1 ⊢); omega)
    obtain ⟨t3, ht3, hlt3, hat3⟩ := add_opaque t2 [32, 61, 32] ⟨#[32, 61, 32]⟩ rfl (by (try simp only [List.length_append, List.length_cons, List.length_nil] at hpart hlt1 hlt2 ⊢); omega)
    obtain ⟨t4, ht4, hlt4, hat4⟩ := add_opaque t3 x (bytes x) rfl (by (try simp only [List.length_append, List.length_cons, List.length_nil] at hpart hlt1 hlt2 hlt3 ⊢); omega)
    obtain ⟨t5, ht5, hlt5, hat5⟩ := add_opaque t4 [59, 10] ⟨#[59, 10]⟩ rfl (by (try simp only [List.length_append, List.length_cons, List.length_nil] at hpart hlt1 hlt2 hlt3 hlt4 ⊢); omega)
    have HE := Lib.hid (show t5 = ((gs.take (k + 1)).map globalText).flatten by rw [hct, ht5, ht4, ht3, ht2, ht1]; try simp only [List.append_assoc, List.cons_append, List.nil_append, List.append_nil])
    clear ht1 hlt1 ht2 hlt2 ht3 hlt3 ht4 hlt4 ht5 hlt5
    clear hpart hct hx h0
    go_wp2_with (go_at_call 86; ((with_reducible refine (number_ref _ _ hfn1 hfn2).mono ?_); rintro e w2 ⟨rfl, hb2⟩; rw [← HX.out]; have hbel2 := Below.step hbel hb2; have hsz2 := Nat.lt_of_lt_of_le hsz hb2.size; have e0 := cell_step c0 hb2; have e1 := cell_step c1 hb2; have e2 := cell_step c2 hb2; have f1 := cell_step d1 hb2; clear d0 d1; clear c0 c1 c2))
    go_roundw
    case rel => exact ⟨k + 1, t5, by go_num, by omega, rfl, HE.out, hbel2, hsz2, e0, e1, e2⟩
    case measure => simp [intOf]; omega
  ·have hke : k = gs.length := by omega
   subst hke
   have hge : ¬ ((gs.length : Int) < gs.length) := by omega
   dsimp only at ht
   rw [List.take_of_length_le (Nat.le_refl _), ← HG.out] at ht
   subst ht
   go_wp2_with fail
   go_loopw [3, 5] (fun u v wr => pgR w (.slice ga gs.length gc) (.slice ma ms.length mc) (.slice fa fs.length fc) ms.length (fun k => t ++ ((ms.take k).map mutexText).flatten) u v wr) (fun _ v _ => ms.length - (intOf v).toNat)
   case atStart => exact ⟨0, t, rfl, by omega, rfl, by simp, by assumption, by assumption, by assumption, by assumption, by assumption⟩
   case round =>
    rename_i wr0 _ _ _
    clear hbel hsz c0 c1 c2
    obtain ⟨k, s, rfl, hk, rfl, ht, hbel, hsz, c0, c1, c2⟩ := hrel
    rw [← HG.out] at hLL
    by_cases hlt : k < ms.length
    ·have hlt' : (k : Int) < ms.length := by omega
     obtain ⟨b, off, cap', row, hsl, hc', hR, hrow, hblt, hcells⟩ := (hvm.below hbel fun a cs _ h => h).get (by omega) hlt
     cases hsl
     have hfm := HF2.out _ (List.getElem_mem hlt)
     have hct := cat_take mutexText ms k hlt
     have hpart := cat_part mutexText ms k hlt
     dsimp only at ht
     have hct2 : t ++ ((ms.take (k + 1)).map mutexText).flatten = s ++ mutexText ms[k] := by rw [hct, ht, List.append_assoc]
     have hpart2 : s.length + (mutexText ms[k]).length ≤ 100000000000000 := by rw [ht, List.length_append]; omega
     generalize hsk : ms[k] = m at hR hfm hct2 hpart2
     obtain ⟨name, re, size⟩ := m
     cases hR
     have d0 := hcells 0 _ rfl
     have d1 := hcells 1 _ rfl
     have d2 := hcells 2 _ rfl
     rw [Nat.add_zero] at d0
     dsimp only at d0 d1 d2 hfm
     obtain ⟨nl, rfl⟩ : ∃ nl, name = bytes nl := ⟨name.data.toList, (bytes_back name).symm⟩
     rw [mutexText] at hpart2 hct2
     dsimp only at hpart2 hct2
     rw [bytes_toList] at hpart2 hct2
     have HVG := Lib.hid hvg
     have HVM := Lib.hid hvm
     have HVF := Lib.hid hvf
     have HSK := Lib.hid hsk
     clear hcells hrow hvg hvm hvf ht hsk hct hpart
     cases re
     ·by_cases h0 : 0 < size
      ·simp only [if_true, if_false, Bool.false_eq_true, List.nil_append] at hpart2 hct2
       rw [if_pos h0] at hpart2 hct2
       obtain ⟨hfn1, hfn2⟩ := hfm
       obtain ⟨x, hx⟩ : ∃ x, x = numberL size := ⟨_, rfl⟩
       rw [← hx] at hpart2 hct2
       have HX := Lib.hid hx
       simp only [List.length_append, List.length_cons, List.length_nil] at hpart2
       obtain ⟨t1, ht1, hlt1, hat1⟩ := add_opaque s [109, 117, 116, 101, 120, 32] ⟨#[109, 117, 116, 101, 120, 32]⟩ rfl (by (try simp only [List.length_append, List.length_cons, List.length_nil] at hpart2 ⊢); omega)
       obtain ⟨t2, ht2, hlt2, hat2⟩ := add_opaque t1 nl (bytes nl) rfl (by (try simp only [List.length_append, List.length_cons, List.length_nil] at hpart2 hlt1 ⊢); omega)
       obtain ⟨t3, ht3, hlt3, hat3⟩ := add_opaque t2 [91] ⟨#[91]⟩ rfl (by (try simp only [List.length_append, List.length_cons, List.length_nil] at hpart2 hlt1 hlt2 ⊢); omega)
       obtain ⟨t4, ht4, hlt4, hat4⟩ := add_opaque t3 x (bytes x) rfl (by (try simp only [List.length_append, List.length_cons, List.length_nil] at hpart2 hlt1 hlt2 hlt3 ⊢); omega)
       obtain ⟨t5, ht5, hlt5, hat5⟩ := add_opaque t4 [93] ⟨#[93]⟩ rfl (by (try simp only [List.length_append, List.length_cons, List.length_nil] at hpart2 hlt1 hlt2 hlt3 hlt4 ⊢); omega)
       obtain ⟨t6, ht6, hlt6, hat6⟩ := add_opaque t5 [59, 10] ⟨#[59, 10]⟩ rfl (by (try simp only [List.length_append, List.length_cons, List.length_nil] at hpart2 hlt1 hlt2 hlt3 hlt4 hlt5 ⊢); omega)
       have HE := Lib.hid (show t6 = t ++ ((ms.take (k + 1)).map mutexText).flatten by rw [hct2, ht6, ht5, ht4, ht3, ht2, ht1]; try simp only [List.append_assoc, List.cons_append, List.nil_append, List.append_nil])
       clear ht1 hlt1 ht2 hlt2 ht3 hlt3 ht4 hlt4 ht5 hlt5 ht6 hlt6
       clear hpart2 hct2 hx
       go_wp2_with (go_at_call 86; ((with_reducible refine (number_ref _ _ hfn1 hfn2).mono ?_); rintro e w2 ⟨rfl, hb2⟩; rw [← HX.out]; have hbel2 := Below.step (hbel.alloc (Nat.le_of_lt hsz) _) hb2; have hsz2 := Nat.lt_of_lt_of_le hsz (Nat.le_trans (Nat.le_succ _) (by have := hb2.size; simpa using this)); have e0 := cell_new c0 hb2; have e1 := cell_new c1 hb2; have e2 := cell_new c2 hb2; clear c0 c1 c2))
       go_roundw
       case rel => exact ⟨k + 1, t6, by go_num, by omega, rfl, HE.out, hbel2, hsz2, e0, e1, e2⟩
       case measure => simp [intOf]; omega
      ·simp only [if_true, if_false, Bool.false_eq_true, List.nil_append] at hpart2 hct2
       rw [if_neg h0] at hpart2 hct2
       have h0' : size ≤ 0 := by omega
       simp only [List.length_append, List.length_cons, List.length_nil] at hpart2
       obtain ⟨t1, ht1, hlt1, hat1⟩ := add_opaque s [109, 117, 116, 101, 120, 32] ⟨#[109, 117, 116, 101, 120, 32]⟩ rfl (by (try simp only [List.length_append, List.length_cons, List.length_nil] at hpart2 ⊢); omega)
       obtain ⟨t2, ht2, hlt2, hat2⟩ := add_opaque t1 nl (bytes nl) rfl (by (try simp only [List.length_append, List.length_cons, List.length_nil] at hpart2 hlt1 ⊢); omega)
       obtain ⟨t3, ht3, hlt3, hat3⟩ := add_opaque t2 [59, 10] ⟨#[59, 10]⟩ rfl (by (try simp only [List.length_append, List.length_cons, List.length_nil] at hpart2 hlt1 hlt2 ⊢); omega)
       have HE := Lib.hid (show t3 = t ++ ((ms.take (k + 1)).map mutexText).flatten by rw [hct2, ht3, ht2, ht1]; try simp only [List.append_assoc, List.cons_append, List.nil_append, List.append_nil])
       clear ht1 hlt1 ht2 hlt2 ht3 hlt3
       clear hpart2 hct2
       go_wp2_with fail
       go_roundw
       case rel => exact ⟨k + 1, t3, by go_num, by omega, rfl, HE.out, hbel.alloc (Nat.le_of_lt hsz) _, by simp; omega, by go_simp, by go_simp, by go_simp⟩
       case measure => simp [intOf]; omega
     ·by_cases h0 : 0 < size
      ·simp only [if_true, if_false, Bool.false_eq_true, List.nil_append] at hpart2 hct2
       rw [if_pos h0] at hpart2 hct2
       obtain ⟨hfn1, hfn2⟩ := hfm
       obtain ⟨x, hx⟩ : ∃ x, x = numberL size := ⟨_, rfl⟩
       rw [← hx] at hpart2 hct2
       have HX := Lib.hid hx
       simp only [List.length_append, List.length_cons, List.length_nil] at hpart2
       obtain ⟨t1, ht1, hlt1, hat1⟩ := add_opaque s [114] ⟨#[114]⟩ rfl (by (try simp only [List.length_append, List.length_cons, List.length_nil] at hpart2 ⊢); omega)
       obtain ⟨t2, ht2, hlt2, hat2⟩ := add_opaque t1 [109, 117, 116, 101, 120, 32] ⟨#[109, 117, 116, 101, 120, 32]⟩ rfl (by (try simp only [List.length_append, List.length_cons, List.length_nil] at hpart2 hlt1 ⊢); omega)
       obtain ⟨t3, ht3, hlt3, hat3⟩ := add_opaque t2 nl (bytes nl) rfl (by (try simp only [List.length_append, List.length_cons, List.length_nil] at hpart2 hlt1 hlt2 ⊢); omega)
       obtain ⟨t4, ht4, hlt4, hat4⟩ := add_opaque t3 [91] ⟨#[91]⟩ rfl (by (try simp only [List.length_append, List.length_cons, List.length_nil] at hpart2 hlt1 hlt2 hlt3 ⊢); omega)
       obtain ⟨t5, ht5, hlt5, hat5⟩ := add_opaque t4 x (bytes x) rfl (by (try simp only [List.length_append, List.length_cons, List.length_nil] at hpart2 hlt1 hlt2 hlt3 hlt4 ⊢); omega)
       obtain ⟨t6, ht6, hlt6, hat6⟩ := add_opaque t5 [93] ⟨#[93]⟩ rfl (by (try simp only [List.length_append, List.length_cons, List.length_nil] at hpart2 hlt1 hlt2 hlt3 hlt4 hlt5 ⊢); omega)
       obtain ⟨t7, ht7, hlt7, hat7⟩ := add_opaque t6 [59, 10] ⟨#[59, 10]⟩ rfl (by (try simp only [List.length_append, List.length_cons, List.length_nil] at hpart2 hlt1 hlt2 hlt3 hlt4 hlt5 hlt6 ⊢); omega)
       have HE := Lib.hid (show t7 = t ++ ((ms.take (k + 1)).map mutexText).flatten by rw [hct2, ht7, ht6, ht5, ht4, ht3, ht2, ht1]; try simp only [List.append_assoc, List.cons_append, List.nil_append, List.append_nil])
       clear ht1 hlt1 ht2 hlt2 ht3 hlt3 ht4 hlt4 ht5 hlt5 ht6 hlt6 ht7 hlt7
       clear hpart2 hct2 hx
       go_wp2_with (go_at_call 86; ((with_reducible refine (number_ref _ _ hfn1 hfn2).mono ?_); rintro e w2 ⟨rfl, hb2⟩; rw [← HX.out]; have hbel2 := Below.step (hbel.alloc (Nat.le_of_lt hsz) _) hb2; have hsz2 := Nat.lt_of_lt_of_le hsz (Nat.le_trans (Nat.le_succ _) (by have := hb2.size; simpa using this)); have e0 := cell_new c0 hb2; have e1 := cell_new c1 hb2; have e2 := cell_new c2 hb2; clear c0 c1 c2))
       go_roundw
       case rel => exact ⟨k + 1, t7, by go_num, by omega, rfl, HE.out, hbel2, hsz2, e0, e1, e2⟩
       case measure => simp [intOf]; omega
      ·simp only [if_true, if_false, Bool.false_eq_true, List.nil_append] at hpart2 hct2
       rw [if_neg h0] at hpart2 hct2
       have h0' : size ≤ 0 := by omega
       simp only [List.length_append, List.length_cons, List.length_nil] at hpart2
       obtain ⟨t1, ht1, hlt1, hat1⟩ := add_opaque s [114] ⟨#[114]⟩ rfl (by (try simp only [List.length_append, List.length_cons, List.length_nil] at hpart2 ⊢); omega)
       obtain ⟨t2, ht2, hlt2, hat2⟩ := add_opaque t1 [109, 117, 116, 101, 120, 32] ⟨#[109, 117, 116, 101, 120, 32]⟩ rfl (by (try simp only [List.length_append, List.length_cons, List.length_nil] at hpart2 hlt1 ⊢); omega)
       obtain ⟨t3, ht3, hlt3, hat3⟩ := add_opaque t2 nl (bytes nl) rfl (by (try simp only [List.length_append, List.length_cons, List.length_nil] at hpart2 hlt1 hlt2 ⊢); omega)
       obtain ⟨t4, ht4, hlt4, hat4⟩ := add_opaque t3 [59, 10] ⟨#[59, 10]⟩ rfl (by (try simp only [List.length_append, List.length_cons, List.length_nil] at hpart2 hlt1 hlt2 hlt3 ⊢); omega)
       have HE := Lib.hid (show t4 = t ++ ((ms.take (k + 1)).map mutexText).flatten by rw [hct2, ht4, ht3, ht2, ht1]; try simp only [List.append_assoc, List.cons_append, List.nil_append, List.append_nil])
       clear ht1 hlt1 ht2 hlt2 ht3 hlt3 ht4 hlt4
       clear hpart2 hct2
       go_wp2_with fail
       go_roundw
       case rel => exact ⟨k + 1, t4, by go_num, by omega, rfl, HE.out, hbel.alloc (Nat.le_of_lt hsz) _, by simp; omega, by go_simp, by go_simp, by go_simp⟩
       case measure => simp [intOf]; omega
    ·have hke : k = ms.length := by omega
     subst hke
     have hge : ¬ ((ms.length : Int) < ms.length) := by omega
     dsimp only at ht
     rw [List.take_of_length_le (Nat.le_refl _)] at ht
     have HGM := Lib.hid (show s = (gs.map globalText).flatten ++ (ms.map mutexText).flatten by rw [ht, HG.out])
     have hsl : s.length + (fs.map funcText).flatten.length ≤ 100000000000000 := by rw [HGM.out, List.length_append, ← HG.out]; omega
     clear ht
     go_wp2_with fail
     go_loopw [3, 7] (fun u v wr => pgR w (.slice ga gs.length gc) (.slice ma ms.length mc) (.slice fa fs.length fc) fs.length (fun k => s ++ ((fs.take k).map funcText).flatten) u v wr) (fun _ v _ => fs.length - (intOf v).toNat)
     case atStart => exact ⟨0, s, rfl, by omega, rfl, by simp, by assumption, by assumption, by assumption, by assumption, by assumption⟩
     case round =>
      clear hbel hsz c0 c1 c2
      obtain ⟨k, q, rfl, hk, rfl, ht, hbel, hsz, c0, c1, c2⟩ := hrel
      by_cases hlt : k < fs.length
      ·have hlt' : (k : Int) < fs.length := by omega
       obtain ⟨b, off, cap', row, hsl0, hc', hR, hrow, hblt, hcells⟩ := (hvf.below hbel fun a cs _ h => FuncRep.below hbel h).get (by omega) hlt
       cases hsl0
       have hff := HF3.out _ (List.getElem_mem hlt)
       have hct := cat_take funcText fs k hlt
       have hpart := cat_part funcText fs k hlt
       dsimp only at ht
       have hct2 : s ++ ((fs.take (k + 1)).map funcText).flatten = q ++ funcText fs[k] := by rw [hct, ht, List.append_assoc]
       have hpart2 : q.length + (funcText fs[k]).length ≤ 100000000000000 := by rw [ht, List.length_append]; omega
       generalize hsk : fs[k] = f at hR hff hct2 hpart2
       obtain ⟨name, ps, body⟩ := f
       obtain ⟨vp, vb, hrw, hvp, hvb⟩ := hR
       dsimp only at hvp hvb
       obtain ⟨pa, pc, rfl, hpc⟩ := hvp.slice
       obtain ⟨ba, bc, rfl, hbc⟩ := hvb.slice
       subst hrw
       have d0 := hcells 0 _ rfl
       have d1 := hcells 1 _ rfl
       have d2 := hcells 2 _ rfl
       rw [Nat.add_zero] at d0
       obtain ⟨hfp, hfb⟩ := hff
       dsimp only at d0 d1 d2 hfp hfb
       obtain ⟨nl, rfl⟩ : ∃ nl, name = bytes nl := ⟨name.data.toList, (bytes_back name).symm⟩
       rw [funcText] at hpart2 hct2
       dsimp only at hpart2 hct2
       rw [bytes_toList] at hpart2 hct2
       obtain ⟨C, hC⟩ : ∃ C, C = commaL paramText ps := ⟨_, rfl⟩
       obtain ⟨B, hB⟩ : ∃ B, B = stmtsText [9] body := ⟨_, rfl⟩
       rw [← hC, ← hB] at hpart2 hct2
       simp only [List.length_append, List.length_cons, List.length_nil] at hpart2
       obtain ⟨q1, hq1, hlq1, haq1⟩ := add_opaque q [102, 117, 110, 99, 32] ⟨#[102, 117, 110, 99, 32]⟩ rfl (by simp; omega)
       obtain ⟨q2, hq2, hlq2, haq2⟩ := add_opaque q1 nl (bytes nl) rfl (by simp at hlq1 ⊢; omega)
       obtain ⟨q3, hq3, hlq3, haq3⟩ := add_opaque q2 [40] ⟨#[40]⟩ rfl (by simp at hlq1 hlq2 ⊢; omega)
       simp only [List.length_append, List.length_cons, List.length_nil] at hlq1 hlq2 hlq3
       have HQ3 := Lib.hid (show q3 = q ++ [102, 117, 110, 99, 32] ++ nl ++ [40] by rw [hq3, hq2, hq1])
       have HVG := Lib.hid hvg
       have HVM := Lib.hid hvm
       have HVF := Lib.hid hvf
       have HSK := Lib.hid hsk
       have HCT2 := Lib.hid hct2
       have HB := Lib.hid hB
       have HC := Lib.hid hC
       have HVP := Lib.hid hvp
       have HVB := Lib.hid hvb
       have hlen3 : q3.length + C.length + B.length + 6 ≤ 100000000000000 := by omega
       clear hcells hrow hvg hvm hvf ht hsk hct hpart hct2 hB hC hvp hvb hq1 hq2 hq3 hlq1 hlq2 hlq3 hpart2
       obtain ⟨wo, hwo⟩ : ∃ wo : World, wo = wr := ⟨_, rfl⟩
       go_wp2_with fail
       go_loop [3, 9] (fun u v => paR q3 ps u v) (fun _ v => ps.length - (intOf v).toNat)
       case atStart => exact ⟨0, q3, rfl, by omega, rfl, by simp [commaL]⟩
       case round =>
        obtain ⟨j, c, rfl, hj, rfl, hc2⟩ := hrel
        by_cases hjt : j < ps.length
        ·have hjt' : (j : Int) < ps.length := by omega
         obtain ⟨pb, poff, pcap, prow, psl, pc', pR, prw, pblt, pcells⟩ := HVP.out.get (by omega) hjt
         cases psl
         have pct := commaL_take paramText ps j hjt
         have pcm := commaL_mono paramText ps (ps.length - (j + 1)) (j + 1) (by omega)
         rw [← HC.out, pct] at pcm
         have hcl : c.length = q3.length + (commaL paramText (ps.take j)).length := by rw [hc2]; simp
         simp only [List.length_append] at pcm
         have hpart : c.length + (paramText ps[j]).length + 2 ≤ 100000000000000 := by omega
         have PCT := Lib.hid (show q3 ++ commaL paramText (ps.take (j + 1)) = c ++ (if j = 0 then [] else [44, 32]) ++ paramText ps[j] by rw [pct, hc2]; simp only [List.append_assoc])
         generalize hpk : ps[j] = x at pR hpart PCT
         obtain ⟨pname, pm⟩ := x
         cases pR
         have p0 := pcells 0 _ rfl
         have p1 := pcells 1 _ rfl
         rw [Nat.add_zero] at p0
         dsimp only at p0 p1
         obtain ⟨pl, rfl⟩ : ∃ pl, pname = bytes pl := ⟨pname.data.toList, (bytes_back pname).symm⟩
         have PK := Lib.hid hpk
         clear pcells prw pct pcm hcl hc2 hpk
         cases pm
         ·by_cases hj0 : j = 0
          ·have g0 : (j : Int) ≤ 0 := by omega
           rw [if_pos hj0, List.append_nil] at PCT
           simp only [paramText, bytes_toList, if_true, if_false, Bool.false_eq_true, List.nil_append] at PCT hpart
           have hpct := PCT.out
           try simp only [List.length_append, List.length_cons, List.length_nil] at hpart
           obtain ⟨t1, ht1, hlt1, hat1⟩ := add_opaque c pl (bytes pl) rfl (by (try simp only [List.length_append, List.length_cons, List.length_nil] at hpart ⊢); omega)
           have HE := Lib.hid (show t1 = q3 ++ commaL paramText (ps.take (j + 1)) by rw [hpct, ht1]; try simp only [List.append_assoc, List.cons_append, List.nil_append, List.append_nil])
           clear ht1 hlt1
           clear hpart hpct hj0
           go_wp2_with fail
           go_round
           case rel => exact ⟨j + 1, t1, by go_num, by omega, rfl, HE.out⟩
           case measure => simp [intOf]; omega
          ·have g0 : (0 : Int) < j := by omega
           rw [if_neg hj0] at PCT
           simp only [paramText, bytes_toList, if_true, if_false, Bool.false_eq_true, List.nil_append] at PCT hpart
           have hpct := PCT.out
           try simp only [List.length_append, List.length_cons, List.length_nil] at hpart
           obtain ⟨t1, ht1, hlt1, hat1⟩ := add_opaque c [44, 32] ⟨#[44, 32]⟩ rfl (by (try simp only [List.length_append, List.length_cons, List.length_nil] at hpart ⊢); omega)
           obtain ⟨t2, ht2, hlt2, hat2⟩ := add_opaque t1 pl (bytes pl) rfl (by (try simp only [List.length_append, List.length_cons, List.length_nil] at hpart hlt1 ⊢); omega)
           have HE := Lib.hid (show t2 = q3 ++ commaL paramText (ps.take (j + 1)) by rw [hpct, ht2, ht1]; try simp only [List.append_assoc, List.cons_append, List.nil_append, List.append_nil])
           clear ht1 hlt1 ht2 hlt2
           clear hpart hpct hj0
           go_wp2_with fail
           go_round
           case rel => exact ⟨j + 1, t2, by go_num, by omega, rfl, HE.out⟩
           case measure => simp [intOf]; omega
         ·by_cases hj0 : j = 0
          ·have g0 : (j : Int) ≤ 0 := by omega
           rw [if_pos hj0, List.append_nil] at PCT
           simp only [paramText, bytes_toList, if_true, if_false, Bool.false_eq_true, List.nil_append] at PCT hpart
           have hpct := PCT.out
           try simp only [List.length_append, List.length_cons, List.length_nil] at hpart
           obtain ⟨t1, ht1, hlt1, hat1⟩ := add_opaque c [109, 117, 116, 101, 120, 32] ⟨#[109, 117, 116, 101, 120, 32]⟩ rfl (by (try simp only [List.length_append, List.length_cons, List.length_nil] at hpart ⊢); omega)
           obtain ⟨t2, ht2, hlt2, hat2⟩ := add_opaque t1 pl (bytes pl) rfl (by (try simp only [List.length_append, List.length_cons, List.length_nil] at hpart hlt1 ⊢); omega)
           have HE := Lib.hid (show t2 = q3 ++ commaL paramText (ps.take (j + 1)) by rw [hpct, ht2, ht1]; try simp only [List.append_assoc, List.cons_append, List.nil_append, List.append_nil])
           clear ht1 hlt1 ht2 hlt2
           clear hpart hpct hj0
           go_wp2_with fail
           go_round
           case rel => exact ⟨j + 1, t2, by go_num, by omega, rfl, HE.out⟩
           case measure => simp [intOf]; omega
          ·have g0 : (0 : Int) < j := by omega
           rw [if_neg hj0] at PCT
           simp only [paramText, bytes_toList, if_true, if_false, Bool.false_eq_true, List.nil_append] at PCT hpart
           have hpct := PCT.out
           try simp only [List.length_append, List.length_cons, List.length_nil] at hpart
           obtain ⟨t1, ht1, hlt1, hat1⟩ := add_opaque c [44, 32] ⟨#[44, 32]⟩ rfl (by (try simp only [List.length_append, List.length_cons, List.length_nil] at hpart ⊢); omega)
           obtain ⟨t2, ht2, hlt2, hat2⟩ := add_opaque t1 [109, 117, 116, 101, 120, 32] ⟨#[109, 117, 116, 101, 120, 32]⟩ rfl (by (try simp only [List.length_append, List.length_cons, List.length_nil] at hpart hlt1 ⊢); omega)
           obtain ⟨t3, ht3, hlt3, hat3⟩ := add_opaque t2 pl (bytes pl) rfl (by (try simp only [List.length_append, List.length_cons, List.length_nil] at hpart hlt1 hlt2 ⊢); omega)
           have HE := Lib.hid (show t3 = q3 ++ commaL paramText (ps.take (j + 1)) by rw [hpct, ht3, ht2, ht1]; try simp only [List.append_assoc, List.cons_append, List.nil_append, List.append_nil])
           clear ht1 hlt1 ht2 hlt2 ht3 hlt3
           clear hpart hpct hj0
           go_wp2_with fail
           go_round
           case rel => exact ⟨j + 1, t3, by go_num, by omega, rfl, HE.out⟩
           case measure => simp [intOf]; omega
        ·have hke : j = ps.length := by omega
         subst hke
         have hge2 : ¬ ((ps.length : Int) < ps.length) := by omega
         rw [List.take_of_length_le (Nat.le_refl _), ← HC.out] at hc2
         have hcl : c.length = q3.length + C.length := by rw [hc2]; simp
         obtain ⟨u1, hu1, hlu1, hau1⟩ := add_opaque c [41, 32, 123, 10] ⟨#[41, 32, 123, 10]⟩ rfl (by simp; omega)
         obtain ⟨u2, hu2, hlu2, hau2⟩ := add_opaque u1 B (bytes B) rfl (by simp at hlu1 ⊢; omega)
         obtain ⟨u3, hu3, hlu3, hau3⟩ := add_opaque u2 [125, 10] ⟨#[125, 10]⟩ rfl (by simp at hlu1 hlu2 ⊢; omega)
         have HE := Lib.hid (show u3 = s ++ ((fs.take (k + 1)).map funcText).flatten by rw [HCT2.out, hu3, hu2, hu1, hc2, HQ3.out]; simp only [List.append_assoc, List.cons_append, List.nil_append, List.append_nil])
         have LN := Lib.hid (fun w' (hb : Below wr.heap.size wr w') => lines_tab body _ w' hfb (by rw [← HB.out]; omega) (HVB.out.below hb fun a cs _ h => StmtRep.below hb _ h))
         rw [← HB.out] at LN
         clear hc2 hcl hu1 hu2 hu3 hlu1 hlu2 hlu3
         go_wp2_with (go_at_call 87; ((with_reducible refine (LN.out _ (by go_grown)).mono ?_); rintro e w2 ⟨rfl, hb2⟩; have hbel2 := Below.step (hbel.alloc (Nat.le_of_lt hsz) _) hb2; have hsz2 : w.heap.size < w2.heap.size := Nat.lt_of_lt_of_le hsz (Nat.le_trans (Nat.le_succ _) (by have := hb2.size; simpa using this)); have e0 := cell_new c0 hb2; have e1 := cell_new c1 hb2; have e2 := cell_new c2 hb2; clear c0 c1 c2))
         subst hwo
         go_roundw
         case rel => exact ⟨k + 1, u3, by go_num, by omega, rfl, HE.out, hbel2, hsz2, e0, e1, e2⟩
         case measure => simp [intOf]; omega
      ·have hke : k = fs.length := by omega
       subst hke
       have hge : ¬ ((fs.length : Int) < fs.length) := by omega
       dsimp only at ht
       rw [List.take_of_length_le (Nat.le_refl _)] at ht
       have HQ := Lib.hid (show q = P by rw [ht, HGM.out, HP.out])
       clear ht
       go_wp2_with fail
       go_ret
       exact ⟨ret_str (by rw [HQ.out]), hbel⟩
end Go.Proofs.YtlbocidcjmehfaaDoor
