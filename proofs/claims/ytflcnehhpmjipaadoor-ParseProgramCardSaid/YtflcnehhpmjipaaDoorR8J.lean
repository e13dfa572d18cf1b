import Derived.Test.YtflcnehhpmjipaaDoorR7J
import Derived.Test.YtflcnehhpmjipaaDoorW4J
import Derived.Test.YtflcnehhpmjipaaDoorW5J
set_option linter.unusedVariables false
set_option linter.unusedSimpArgs false
namespace Go.Proofs.YtflcnehhpmjipaaDoor
open Go.RowKit
theorem TOk.of {s : List UInt8} {l : List Tok} (h : lexL s = .ok l) : TOk l := ⟨(lexL_toks h).ends, (lexL_toks h).reg, by have := (lexL_toks h).few; omega⟩
def progX (s : List UInt8) : AProg × Nat × Nat :=
 match lexL s with
 | .err p e => (⟨[], [], []⟩, p, e)
 | .ok l => match programP l with
  | .ok x _ => (x, s.length, 0)
  | .err k e => (⟨[], [], []⟩, (tokAt l k).pos, e)
theorem progX_lex {s : List UInt8} {p e : Nat} (h : lexL s = .err p e) : progX s = (⟨[], [], []⟩, p, e) := by unfold progX; rw [h]
theorem progX_bad {s : List UInt8} {l : List Tok} {k e : Nat} (h : lexL s = .ok l) (h2 : programP l = .err k e) (hk : k < l.length) : progX s = (⟨[], [], []⟩, l[k].pos, e) := by unfold progX; rw [h]; dsimp only; rw [h2]; dsimp only; rw [tokAt_lt hk]
theorem progX_good {s : List UInt8} {l : List Tok} {x : AProg} {k : Nat} (h : lexL s = .ok l) (h2 : programP l = .ok x k) : progX s = (x, s.length, 0) := by unfold progX; rw [h]; dsimp only; rw [h2]
theorem words_eq {l : List Tok} {k : Nat} {a b : List UInt8} (ha : wordAt l k a = true) (hb : wordAt l k b = true) : bytes a = bytes b := by
 rw [← (wordAt_kind ha).2, ← (wordAt_kind hb).2]
set_option maxRecDepth 100000 in
set_option maxHeartbeats 3200000 in
theorem rProgram_c (bs : List UInt8) (s : Sto) : ACall Tryd.prog 20 [.c (.sl bs.length (srcA bs))] [] s fun t s' => t = .tup [.agg (encPr (progX bs).1), .c (.val (.int .i64 ((progX bs).2.1 : Int))), .c (.val (.int .i64 ((progX bs).2.2 : Int)))] ∧ s' = s := by
 obtain ⟨bx, rw⟩ := s
 refine acall_body Tryd.func20 rfl (Nat.le_of_ble_eq_true rfl) ?_
 show AWp Tryd.prog _ ⟨146, [], ⟨bx, rw⟩, [(0, .c (.sl bs.length (srcA bs)))]⟩ _
 refine sqrg ?_
 refine wo rfl (walloc rfl rfl (by decide) Tryd.zeroValue47 rfl fun b1 => ?_)
 refine wag rfl rfl rfl rfl rfl ?_
 refine wag rfl rfl rfl rfl rfl ?_
 refine nx ?_
 refine wmv rfl rfl rfl rfl rfl ?_
 refine wo rfl (wcall [] rfl rfl (by decide) Tryd.call27 rfl (rLex_c bs _) (fun _ h => by cases h) (fun _ h => by cases h) (fun _ _ h => by cases h) ?_)
 rintro t1 s1 ⟨⟨l, hlx, rfl, hfew⟩ | ⟨p0, er, hlx, rfl, her⟩, rfl⟩
 ·have hok := TOk.of hlx
  have hlen := hok.len
  have hk : 0 < l.length := hok.last.1
  have he : (0 : Nat) < 16 := by decide
  refine wmv rfl rfl rfl rfl rfl ?_
  refine wyy rfl rfl rfl (ay_extract rfl rfl rfl) ?_
  refine wyy rfl rfl rfl (ay_extract rfl rfl rfl) ?_
  refine wyy rfl rfl rfl (ay_extract rfl rfl rfl) ?_
  refine wag rfl rfl rfl rfl rfl ?_
  refine wag rfl rfl rfl rfl rfl ?_
  refine wag rfl rfl rfl rfl rfl ?_
  refine nlnm ?_
  refine aw_seq ?_
  refine sqrg ?_
  refine wmv rfl rfl rfl rfl rfl ?_
  refine wyy rfl rfl rfl (ay_cmp false rfl rfl rfl (by rfl)) ?_
  refine nlnm ?_
  refine aw_condF rfl rfl ?_
  refine aw_skip ?_
  refine then_normal ?_
  refine sqrg ?_
  refine wyy rfl rfl rfl (ay_build Tryd.t47 [(0, 1), (1, 1), (2, 1)] rfl .nil Tryd.underlying47 (by kernel_rfl) rfl (by kernel_rfl) rfl rfl) ?_
  refine wmv rfl rfl rfl rfl rfl ?_
  refine wyy rfl rfl rfl (ay_build Tryd.t78 [(0, 1), (1, 1), (2, 1), (3, 1), (4, 1), (5, 1)] rfl (.cons rfl .nil) Tryd.underlying78 (by kernel_rfl) rfl (by kernel_rfl) rfl rfl) ?_
  refine wo rfl (wbox rfl rfl (by decide) rfl rfl fun P => ?_)
  refine wo rfl (walloc rfl rfl (by decide) Tryd.zeroValue47 rfl fun b3 => ?_)
  refine wo rfl (wst0 rfl rfl rfl rfl rfl Tryd.sizeOf47 rfl (Nat.le_of_ble_eq_true rfl) (splice_all rfl) (by simp) (fun _ => by simp) ?_)
  refine wag rfl rfl rfl rfl rfl ?_
  refine nlnm ?_
  refine aw_seq ?_
  refine aw_block ?_
  refine wrow 54 3 ?_
  refine wrow 86 3 ?_
  refine wrow 83 2 ?_
  refine aw_loop (fun g : AProg × Value × Value × Value × Nat × Nat × Nat => (⟨146, rowB g.2.1 ++ (rowB g.2.2.1 ++ (rowB g.2.2.2.1 ++ [b3, P, b1])), ⟨⟨b3, 47, [.val g.2.1, .val g.2.2.1, .val g.2.2.2.1]⟩ :: ⟨P, 78, [.sl l.length (l.flatMap encT), .val (.int .i64 (((g.2.2.2.2.1) : Nat) : Int)), .val (.int .i64 (((g.2.2.2.2.2.1) : Nat) : Int)), .val (.int .i64 (((g.2.2.2.2.2.2) : Nat) : Int)), .val (.int .i64 ((0 : Nat) : Int)), .val (.int .i64 ((0 : Nat) : Int))]⟩ :: ⟨b1, 47, [.val (.slice none 0 0), .val (.slice none 0 0), .val (.slice none 0 0)]⟩ :: bx, ⟨g.2.1, 83, 2, (g.1).globals.length, (g.1).globals.flatMap encG⟩ :: ⟨g.2.2.1, 86, 3, (g.1).mutexes.length, (g.1).mutexes.flatMap encM⟩ :: ⟨g.2.2.2.1, 54, 3, (g.1).funcs.length, (g.1).funcs.flatMap encF⟩ :: rw⟩, [(9, .c (.val (.pointer (some ⟨P, 0, none⟩)))), (8, .c (.val (.pointer (some ⟨b3, 0, none⟩)))), (6, .c (.val (.int .i64 (bs.length : Int)))), (5, .c (.sl l.length (l.flatMap encT))), (2, .c (.val (.pointer (some ⟨b1, 0, none⟩))))]⟩ : AS)) (fun g => g.2.2.2.2.1 < l.length ∧ g.2.2.2.2.2.2 < 16 ∧ (g.2.2.2.2.2.2 = 0 → g.1.globals.length ≤ 16 ∧ g.1.mutexes.length ≤ 12 ∧ g.1.funcs.length ≤ 16) ∧ (g.2.2.2.2.2.2 ≠ 0 → RRun 0 0 (programP l) g.1 g.2.2.2.2.1 g.2.2.2.2.2.1 g.2.2.2.2.2.2) ∧ (g.2.2.2.2.2.2 = 0 → g.2.2.2.2.2.1 = 0 ∧ ∃ n, l.length ≤ n + g.2.2.2.2.1 ∧ ∀ z k' b' e', RRun 0 0 (progP l n g.1 g.2.2.2.2.1) z k' b' e' → RRun 0 0 (programP l) z k' b' e')) (fun g => if g.2.2.2.2.2.2 = 0 then l.length - g.2.2.2.2.1 + 1 else 0) (⟨[], [], []⟩, .slice none 0 0, .slice none 0 0, .slice none 0 0, 0, 0, 0) (subA (.refl _) (.refl _) (by intro x hx; simpa [rowB, Value.ownBlock] using hx) (sub_cons rfl (Wk.refl _) (sub_cons rfl (Wk.refl _) (sub_cons rfl (Wk.refl _) (sub_cons rfl (Wk.refl _) (sub_cons rfl (Wk.refl _) sub_nil)))))) ⟨hk, he, fun _ => ⟨Nat.zero_le _, Nat.zero_le _, Nat.zero_le _⟩, fun h => absurd rfl h, fun _ => ⟨rfl, l.length, Nat.le_add_right _ _, fun z k' b' e' h2 => h2⟩⟩ ?_
  rintro ⟨x0, vg, vm, vf, k0, b0, e0⟩ ⟨hk0, he0, ha0, hn0, hc0⟩
  dsimp only at hk0 he0 ha0 hn0 hc0
  show AWp Tryd.prog _ (⟨146, rowB vg ++ (rowB vm ++ (rowB vf ++ [b3, P, b1])), ⟨⟨b3, 47, [.val vg, .val vm, .val vf]⟩ :: ⟨P, 78, [.sl l.length (l.flatMap encT), .val (.int .i64 (((k0) : Nat) : Int)), .val (.int .i64 (((b0) : Nat) : Int)), .val (.int .i64 (((e0) : Nat) : Int)), .val (.int .i64 ((0 : Nat) : Int)), .val (.int .i64 ((0 : Nat) : Int))]⟩ :: ⟨b1, 47, [.val (.slice none 0 0), .val (.slice none 0 0), .val (.slice none 0 0)]⟩ :: bx, ⟨vg, 83, 2, (x0).globals.length, (x0).globals.flatMap encG⟩ :: ⟨vm, 86, 3, (x0).mutexes.length, (x0).mutexes.flatMap encM⟩ :: ⟨vf, 54, 3, (x0).funcs.length, (x0).funcs.flatMap encF⟩ :: rw⟩, [(9, .c (.val (.pointer (some ⟨P, 0, none⟩)))), (8, .c (.val (.pointer (some ⟨b3, 0, none⟩)))), (6, .c (.val (.int .i64 (bs.length : Int)))), (5, .c (.sl l.length (l.flatMap encT))), (2, .c (.val (.pointer (some ⟨b1, 0, none⟩))))]⟩ : AS) _
  by_cases h0 : e0 = 0
  ·subst h0
   obtain ⟨hl1, hl2, hl3⟩ := ha0 rfl
   obtain ⟨rfl, n0, hn1, hcont⟩ := hc0 rfl
   refine aw_seq ?_
   refine sqrg ?_
   refine wmv rfl rfl rfl rfl rfl ?_
   refine wyy rfl rfl rfl (ay_nilCheck rfl rfl) ?_
   refine wyy rfl rfl rfl (ay_fieldAddr 3 3 rfl rfl Tryd.runUnderlying78 rfl Tryd.sizeOf36 (by decide) rfl) ?_
   refine wyy rfl rfl rfl (ay_load_box [_] rfl rfl rfl Tryd.isAgg36 Tryd.sizeOf36 rfl (fun _ h => by cases h)) ?_
   refine wyy rfl rfl rfl (ay_cmp true rfl rfl rfl (by rfl)) ?_
   refine wmv rfl rfl rfl rfl rfl ?_
   refine wmv rfl rfl rfl rfl rfl ?_
   refine wcP rfl rfl rfl rfl Tryd.call35 rfl (kindd [_] _ _ _ l k0 0 0 0 0 5 hk0) (by simp) (by simp [Sto.bl]) ?_
   rintro t3 s3 (⟨-, ha3, rfl, rfl⟩ | ⟨ha3, rfl, rfl⟩)
   ·refine wyy rfl rfl rfl (ay_not rfl rfl) ?_
    refine wyy rfl rfl rfl (ay_pick rfl rfl rfl) ?_
    refine nlnm ?_
    refine aw_condF rfl rfl ?_
    refine aw_exit ?_
    refine then_exit ?_
    refine then_exit ?_
    refine inB_exit ?_
    refine then_normal ?_
    refine aw_seq ?_
    refine sqrg ?_
    obtain ⟨m, rfl⟩ : ∃ m, n0 = m + 1 := ⟨n0 - 1, by omega⟩
    have hfin := hcont x0 k0 0 0 (by rw [progP, if_pos ha3]; exact .ok _ _ _ rfl)
    have hgood : programP l = .ok x0 k0 := (hfin.good rfl).2.1
    refine wmv rfl rfl rfl rfl rfl ?_
    refine wyy rfl rfl rfl (ay_nilCheck rfl rfl) ?_
    refine wyy rfl rfl rfl (ay_fieldAddr 3 3 rfl rfl Tryd.runUnderlying78 rfl Tryd.sizeOf36 (by decide) rfl) ?_
    refine wyy rfl rfl rfl (ay_load_box [_] rfl rfl rfl Tryd.isAgg36 Tryd.sizeOf36 rfl (fun _ h => by cases h)) ?_
    refine wyy rfl rfl rfl (ay_cmp false rfl rfl rfl (by rfl)) ?_
    refine nlnm ?_
    refine aw_condF rfl rfl ?_
    refine aw_skip ?_
    refine then_normal ?_
    refine sqrg ?_
    refine wfrzb [] 0 rfl rfl ?_
    refine wfrzb [] 1 rfl rfl ?_
    refine wfrzb [] 2 rfl rfl ?_
    refine wyy rfl rfl rfl (ay_load_box [] rfl rfl rfl Tryd.isAgg47 Tryd.sizeOf47 rfl (fun _ h => by cases h)) ?_
    refine wmv rfl rfl rfl rfl rfl ?_
    refine wo rfl (wst2 rfl rfl rfl rfl rfl Tryd.sizeOf47 rfl (Nat.le_of_ble_eq_true rfl) (splice_all rfl) (by simp) (fun _ => by simp) ?_)
    refine wag rfl rfl rfl rfl rfl ?_
    refine wag rfl rfl rfl rfl rfl ?_
    refine nlnm ?_
    refine aw_ret ?_
    exact ⟨.inr rfl, _, ⟨bx, rw⟩, (res_three rfl (resv_cell [_, _] rfl rfl Tryd.isAgg47 Tryd.sizeOf47 (pk_all rfl rfl)) (resv_tmp rfl) (resv_tmp rfl)), subS_of (.cons _ (.cons _ (.cons _ (.refl _)))) (.refl _), by rw [progX_good hlx hgood]; rfl, rfl⟩
   ·refine wyy rfl rfl rfl (ay_not rfl rfl) ?_
    refine wyy rfl rfl rfl (ay_pick rfl rfl rfl) ?_
    refine nlnm ?_
    refine aw_condT rfl rfl ?_
    refine aw_skip ?_
    refine then_normal ?_
    refine aw_block ?_
    refine sqrg ?_
    have hk5 : ¬ (tokAt l k0).kind = 5 := ha3 rfl
    refine wmv rfl rfl rfl rfl rfl ?_
    refine wcP rfl rfl rfl rfl Tryd.call36 rfl (isd_w [_] _ _ _ l k0 0 0 0 0 [118, 97, 114] (by decide) hok hk0) (by simp) (by simp [Sto.bl]) ?_
    rintro t7 s7 (⟨-, ha7, rfl, rfl⟩ | ⟨ha7, rfl, rfl⟩)
    ·refine wmv rfl rfl rfl rfl rfl ?_
     refine wcP rfl rfl rfl rfl Tryd.call36 rfl (isd_w [_] _ _ _ l k0 0 0 0 0 [109, 117, 116, 101, 120] (by decide) hok hk0) (by simp) (by simp [Sto.bl]) ?_
     rintro t8 s8 (⟨-, ha8, rfl, rfl⟩ | ⟨ha8, rfl, rfl⟩)
     ·exact absurd (words_eq ha8 ha7) (by decide)
     ·refine wmv rfl rfl rfl rfl rfl ?_
      refine wmv rfl rfl rfl rfl rfl ?_
      refine wcP rfl rfl rfl rfl Tryd.call36 rfl (isd_w [_] _ _ _ l k0 0 0 0 0 [114, 109, 117, 116, 101, 120] (by decide) hok hk0) (by simp) (by simp [Sto.bl]) ?_
      rintro t9 s9 (⟨-, ha9, rfl, rfl⟩ | ⟨ha9, rfl, rfl⟩)
      ·exact absurd (words_eq ha9 ha7) (by decide)
      ·refine wyy rfl rfl rfl (ay_pick rfl rfl rfl) ?_
       refine wmv rfl rfl rfl rfl rfl ?_
       refine wcP rfl rfl rfl rfl Tryd.call36 rfl (isd_w [_] _ _ _ l k0 0 0 0 0 [102, 117, 110, 99] (by decide) hok hk0) (by simp) (by simp [Sto.bl]) ?_
       rintro t10 s10 (⟨-, ha10, rfl, rfl⟩ | ⟨ha10, rfl, rfl⟩)
       ·exact absurd (words_eq ha10 ha7) (by decide)
       ·refine wag rfl rfl rfl rfl rfl ?_
        refine wag rfl rfl rfl rfl rfl ?_
        refine wag rfl rfl rfl rfl rfl ?_
        refine nlnm ?_
        refine aw_seq ?_
        refine sqrg ?_
        by_cases hglobals : x0.globals.length = 16
        ·skip
         refine wmv rfl rfl rfl rfl rfl ?_
         refine wmv rfl rfl rfl rfl rfl ?_
         refine wyy rfl rfl rfl (ay_fieldAddr 0 0 rfl rfl Tryd.runUnderlying47 rfl Tryd.sizeOf43 (by decide) rfl) ?_
         refine wyy rfl rfl rfl (ay_load_box [] rfl rfl rfl Tryd.isAgg43 Tryd.sizeOf43 rfl (fun _ h => by cases h)) ?_
         refine wyy rfl rfl rfl (ay_len_row [] rfl rfl rfl Tryd.runUnderlying43) ?_
         refine wyy rfl rfl rfl (ay_cmp true rfl rfl rfl (by rw [hglobals]; rfl)) ?_
         refine wyy rfl rfl rfl (ay_pick rfl rfl rfl) ?_
         refine wmv rfl rfl rfl rfl rfl ?_
         refine wskip rfl rfl (by decide) ?_
         refine wskip rfl rfl (by decide) ?_
         refine wskip rfl rfl (by decide) ?_
         refine wskip rfl rfl (by decide) ?_
         refine wskip rfl rfl (by decide) ?_
         refine wskip rfl rfl (by decide) ?_
         refine wskip rfl rfl (by decide) ?_
         refine wyy rfl rfl rfl (ay_pick rfl rfl rfl) ?_
         refine wmv rfl rfl rfl rfl rfl ?_
         refine wskip rfl rfl (by decide) ?_
         refine wskip rfl rfl (by decide) ?_
         refine wskip rfl rfl (by decide) ?_
         refine wskip rfl rfl (by decide) ?_
         refine wskip rfl rfl (by decide) ?_
         refine wskip rfl rfl (by decide) ?_
         refine wskip rfl rfl (by decide) ?_
         refine wyy rfl rfl rfl (ay_pick rfl rfl rfl) ?_
         refine nlnm ?_
         refine aw_condT rfl rfl ?_
         refine aw_region ?_
         refine wmv rfl rfl rfl rfl rfl ?_
         refine wcP rfl rfl rfl rfl Tryd.call37 rfl (fail_c [_] _ _ _ l k0 0 0 0 0 3) (by simp) (by simp [Sto.bl]) ?_
         rintro t12 s12 ⟨u12, e12, hf12, rfl, rfl⟩
         obtain ⟨rfl, rfl⟩ := hf12.1 rfl
         refine nlnm ?_
         refine aw_block ?_
         refine sqrg ?_
         refine wmv rfl rfl rfl rfl rfl ?_
         refine wcP rfl rfl rfl rfl Tryd.call38 rfl (take_w [_] _ _ _ l k0 k0 3 0 0 [118, 97, 114] (by decide) hok hk0) (by simp) (by simp [Sto.bl]) ?_
         rintro t13 s13 (⟨hz13, -⟩ | ⟨ha13, rfl, rfl⟩)
         ·exact absurd hz13 (by decide)
         ·refine wag rfl rfl rfl rfl rfl ?_
          refine nlnm ?_
          refine aw_condF rfl rfl ?_
          refine sqrg ?_
          refine wmv rfl rfl rfl rfl rfl ?_
          refine wcP rfl rfl rfl rfl Tryd.call38 rfl (take_w [_] _ _ _ l k0 k0 3 0 0 [109, 117, 116, 101, 120] (by decide) hok hk0) (by simp) (by simp [Sto.bl]) ?_
          rintro t15 s15 (⟨hz15, -⟩ | ⟨ha15, rfl, rfl⟩)
          ·exact absurd hz15 (by decide)
          ·refine wag rfl rfl rfl rfl rfl ?_
           refine nlnm ?_
           refine aw_condF rfl rfl ?_
           refine sqrg ?_
           refine wmv rfl rfl rfl rfl rfl ?_
           refine wcP rfl rfl rfl rfl Tryd.call38 rfl (take_w [_] _ _ _ l k0 k0 3 0 0 [114, 109, 117, 116, 101, 120] (by decide) hok hk0) (by simp) (by simp [Sto.bl]) ?_
           rintro t17 s17 (⟨hz17, -⟩ | ⟨ha17, rfl, rfl⟩)
           ·exact absurd hz17 (by decide)
           ·refine wag rfl rfl rfl rfl rfl ?_
            refine nlnm ?_
            refine aw_condF rfl rfl ?_
            refine sqrg ?_
            refine wmv rfl rfl rfl rfl rfl ?_
            refine wcP rfl rfl rfl rfl Tryd.call38 rfl (take_w [_] _ _ _ l k0 k0 3 0 0 [102, 117, 110, 99] (by decide) hok hk0) (by simp) (by simp [Sto.bl]) ?_
            rintro t19 s19 (⟨hz19, -⟩ | ⟨ha19, rfl, rfl⟩)
            ·exact absurd hz19 (by decide)
            ·refine wag rfl rfl rfl rfl rfl ?_
             refine nlnm ?_
             refine aw_condF rfl rfl ?_
             refine aw_region ?_
             refine wmv rfl rfl rfl rfl rfl ?_
             refine wcP rfl rfl rfl rfl Tryd.call37 rfl (fail_c [_] _ _ _ l k0 k0 3 0 0 4) (by simp) (by simp [Sto.bl]) ?_
             rintro t21 s21 ⟨u21, e21, hf21, rfl, rfl⟩
             obtain ⟨rfl, rfl⟩ := hf21.2 (by decide)
             refine aops_nil ?_
             refine inB_normal ?_
             refine inB_normal ?_
             obtain ⟨m, rfl⟩ : ∃ m, n0 = m + 1 := ⟨n0 - 1, by omega⟩
             have hel : RRun 0 0 (declP l x0 k0) x0 k0 k0 3 := .err _ _ _ _ _ (by unfold declP; rw [if_pos ha7, if_pos (by omega)]) (by decide)
             have hst : ∀ z k' b' e', RRun 3 k0 (progP l m x0 k0) z k' b' e' → RRun 0 0 (programP l) z k' b' e' := fun z k' b' e' h => hcont z k' b' e' (by rw [progP, if_neg hk5]; exact hel.bind h)
             have hgo : 3 = 0 → k0 < k0 ∧ k0 = 0 := fun h => by have h9 := declP_in hok.last (x := x0) hk0; rw [(hel.good h).2.1] at h9; exact ⟨h9.1, (hel.good h).2.2⟩
             refine ⟨(x0, vg, vm, vf, k0, k0, 3), ⟨hk0, (show (3 : Nat) < 16 by decide), fun h => ?_, fun h => hst _ _ _ _ (.skip h _ _ _), fun h => ⟨(hgo h).2, m, ?_, fun z k' b' e' h2 => hst _ _ _ _ ?_⟩⟩, ?_, subA (.refl _) (.refl _) (by intro x hx; simp only [List.mem_append, List.mem_cons, List.not_mem_nil, or_false] at hx ⊢; rcases hx with h | h | h | h | h | h <;> simp [h]) (sub_cons rfl (Wk.refl _) (sub_cons rfl (Wk.refl _) (sub_cons rfl (Wk.refl _) (sub_cons rfl (Wk.refl _) (sub_cons rfl (Wk.refl _) sub_nil)))))⟩
             ·exact absurd h (show ¬ (3 : Nat) = 0 by decide)
             ·have := hgo h; show l.length ≤ m + k0; omega
             ·exact absurd h (show ¬ (3 : Nat) = 0 by decide)
             ·show (if 3 = 0 then _ else _) < (if (0 : Nat) = 0 then _ else _)
              by_cases h : 3 = 0
              ·have := hgo h; rw [if_pos h, if_pos rfl]; show l.length - k0 + 1 < l.length - k0 + 1; omega
              ·rw [if_neg h, if_pos rfl]; show 0 < l.length - k0 + 1; omega
        ·skip
         refine wmv rfl rfl rfl rfl rfl ?_
         refine wmv rfl rfl rfl rfl rfl ?_
         refine wyy rfl rfl rfl (ay_fieldAddr 0 0 rfl rfl Tryd.runUnderlying47 rfl Tryd.sizeOf43 (by decide) rfl) ?_
         refine wyy rfl rfl rfl (ay_load_box [] rfl rfl rfl Tryd.isAgg43 Tryd.sizeOf43 rfl (fun _ h => by cases h)) ?_
         refine wyy rfl rfl rfl (ay_len_row [] rfl rfl rfl Tryd.runUnderlying43) ?_
         refine wyy rfl rfl rfl (ay_cmp false rfl rfl rfl (by rw [show cmpR .eql ((x0.globals.length : Nat) : Int) 16 = some (decide (x0.globals.length = 16)) from cmp_nat (n := 16), decide_eq_false hglobals])) ?_
         refine wyy rfl rfl rfl (ay_pick rfl rfl rfl) ?_
         refine wmv rfl rfl rfl rfl rfl ?_
         refine wmv rfl rfl rfl rfl rfl ?_
         refine wmv rfl rfl rfl rfl rfl ?_
         refine wskip rfl rfl (by decide) ?_
         refine wskip rfl rfl (by decide) ?_
         refine wskip rfl rfl (by decide) ?_
         refine wskip rfl rfl (by decide) ?_
         refine wyy rfl rfl rfl (ay_pick rfl rfl rfl) ?_
         refine wyy rfl rfl rfl (ay_pick rfl rfl rfl) ?_
         refine wmv rfl rfl rfl rfl rfl ?_
         refine wmv rfl rfl rfl rfl rfl ?_
         refine wmv rfl rfl rfl rfl rfl ?_
         refine wskip rfl rfl (by decide) ?_
         refine wskip rfl rfl (by decide) ?_
         refine wskip rfl rfl (by decide) ?_
         refine wskip rfl rfl (by decide) ?_
         refine wyy rfl rfl rfl (ay_pick rfl rfl rfl) ?_
         refine wyy rfl rfl rfl (ay_pick rfl rfl rfl) ?_
         refine nlnm ?_
         refine aw_condF rfl rfl ?_
         refine aw_skip ?_
         refine then_normal ?_
         refine aw_block ?_
         refine sqrg ?_
         refine wmv rfl rfl rfl rfl rfl ?_
         refine wcP rfl rfl rfl rfl Tryd.call38 rfl (take_w [_] _ _ _ l k0 0 0 0 0 [118, 97, 114] (by decide) hok hk0) (by simp) (by simp [Sto.bl]) ?_
         rintro t23 s23 (⟨-, ha23, hm23, rfl, rfl⟩ | ⟨ha23, rfl, rfl⟩)
         ·refine wag rfl rfl rfl rfl rfl ?_
          refine nlnm ?_
          refine aw_condT rfl rfl ?_
          refine aw_region_drew [] (by kernel_rfl) ?_
          refine tq 0 (by kernel_rfl) rfl rfl rfl rfl (ay_fieldAddr 0 0 rfl rfl Tryd.runUnderlying47 rfl Tryd.sizeOf43 (by decide) rfl) ?_
          refine tq 2 (by kernel_rfl) rfl rfl rfl rfl (ay_move rfl rfl) ?_
          refine two 1 3 (by kernel_rfl) rfl rfl rfl rfl ?_ ?_
          ·refine way rfl (by decide) (ay_load_box [] rfl rfl rfl Tryd.isAgg43 Tryd.sizeOf43 rfl (fun _ h => by cases h)) ?_
           refine one 3 (by kernel_rfl) rfl rfl (wcall [P] rfl rfl (by decide) Tryd.call39 rfl (global_c [_] _ _ _ l (k0 + 1) 0 0 0 hok hm23 (by decide)) (by intro b hb; simp at hb; subst hb; simp) (by intro b hb; simp at hb; subst hb; simp [Sto.bl]) (by intro h b hb; simp at hb; subst hb; exact offN (by simp [Sto.bl])) ?_)
           rintro t25 s25 ⟨x25, k25, u25, e25, rfl, hr25, hk25, he25, rfl⟩
           refine one 4 (by kernel_rfl) rfl rfl (wbs Tryd.t83 [.val (.string ⟨#[]⟩), .val (.int .i64 0)] rfl rfl (by decide) (.cons rfl .nil) Tryd.underlying43 (by kernel_rfl) rfl (by decide) (by decide) (by kernel_rfl) (by kernel_rfl) (fill_one encG encG x25 rfl rfl rfl) ?_)
           refine one 5 (by kernel_rfl) rfl rfl (wapI [] Tryd.t83 24 rfl rfl (by decide) rfl rfl Tryd.underlying43 (by kernel_rfl) rfl rfl rfl rfl (by decide) rfl (by decide) (by unfold maxLen; skip; omega) (by skip; omega) (@List.length_append _ x0.globals [x25]).symm (fun _ b hb => offN (by simp [Sto.bl, hb])) (fun b hb => by simp [hb]) (List.flatMap_append (f := encG)).symm fun v26 => ?_)
           refine tq 6 (by kernel_rfl) rfl rfl rfl rfl (ay_fieldAddr 0 0 rfl rfl Tryd.runUnderlying47 rfl Tryd.sizeOf43 (by decide) rfl) ?_
           refine one 7 (by kernel_rfl) rfl rfl (wst0 rfl rfl rfl rfl rfl Tryd.sizeOf43 rfl (Nat.le_of_ble_eq_true rfl) rfl (by simp) (fun _ => offN (by simp [Sto.bl])) ?_)
           refine any_done (by kernel_rfl) ?_
           refine inB_normal ?_
           refine inB_normal ?_
           obtain ⟨m, rfl⟩ : ∃ m, n0 = m + 1 := ⟨n0 - 1, by omega⟩
           have hel : RRun 0 0 (declP l x0 k0) { x0 with globals := x0.globals ++ [x25] } k25 u25 e25 := (hr25.map (f := fun g => { x0 with globals := x0.globals ++ [g] })).eq fun _ => by unfold declP; rw [if_pos ha7, if_neg (by omega)]
           have hst : ∀ z k' b' e', RRun e25 u25 (progP l m { x0 with globals := x0.globals ++ [x25] } k25) z k' b' e' → RRun 0 0 (programP l) z k' b' e' := fun z k' b' e' h => hcont z k' b' e' (by rw [progP, if_neg hk5]; exact hel.bind h)
           have hgo : e25 = 0 → k0 < k25 ∧ u25 = 0 := fun h => by have h9 := declP_in hok.last (x := x0) hk0; rw [(hel.good h).2.1] at h9; exact ⟨h9.1, (hel.good h).2.2⟩
           refine ⟨({ x0 with globals := x0.globals ++ [x25] }, v26, vm, vf, k25, u25, e25), ⟨hk25, he25, fun h => ?_, fun h => hst _ _ _ _ (.skip h _ _ _), fun h => ⟨(hgo h).2, m, ?_, fun z k' b' e' h2 => hst _ _ _ _ ?_⟩⟩, ?_, subA (.refl _) (.refl _) (by intro x hx; simp only [List.mem_append, List.mem_cons, List.not_mem_nil, or_false] at hx ⊢; rcases hx with h | h | h | h | h | h <;> simp [h]) (sub_cons rfl (Wk.refl _) (sub_cons rfl (Wk.refl _) (sub_cons rfl (Wk.refl _) (sub_cons rfl (Wk.refl _) (sub_cons rfl (Wk.refl _) sub_nil)))))⟩
           ·simp; omega
           ·have := hgo h; show l.length ≤ m + k25; omega
           ·rw [show e25 = 0 from h, show u25 = 0 from (hgo h).2]; exact h2
           ·show (if e25 = 0 then _ else _) < (if (0 : Nat) = 0 then _ else _)
            by_cases h : e25 = 0
            ·have := hgo h; rw [if_pos h, if_pos rfl]; show l.length - k25 + 1 < l.length - k0 + 1; omega
            ·rw [if_neg h, if_pos rfl]; show 0 < l.length - k0 + 1; omega
          ·refine (wcall [P] rfl rfl (by decide) Tryd.call39 rfl (global_c [_] _ _ _ l (k0 + 1) 0 0 0 hok hm23 (by decide)) (by intro b hb; simp at hb; subst hb; simp) (by intro b hb; simp at hb; subst hb; simp [Sto.bl]) (by intro h b hb; simp at hb; subst hb; exact offN (by simp [Sto.bl])) ?_)
           rintro t27 s27 ⟨x27, k27, u27, e27, rfl, hr27, hk27, he27, rfl⟩
           refine two 1 4 (by kernel_rfl) rfl rfl rfl rfl ?_ ?_
           ·refine way rfl (by decide) (ay_load_box [] rfl rfl rfl Tryd.isAgg43 Tryd.sizeOf43 rfl (fun _ h => by cases h)) ?_
            refine one 4 (by kernel_rfl) rfl rfl (wbs Tryd.t83 [.val (.string ⟨#[]⟩), .val (.int .i64 0)] rfl rfl (by decide) (.cons rfl .nil) Tryd.underlying43 (by kernel_rfl) rfl (by decide) (by decide) (by kernel_rfl) (by kernel_rfl) (fill_one encG encG x27 rfl rfl rfl) ?_)
            refine one 5 (by kernel_rfl) rfl rfl (wapI [] Tryd.t83 24 rfl rfl (by decide) rfl rfl Tryd.underlying43 (by kernel_rfl) rfl rfl rfl rfl (by decide) rfl (by decide) (by unfold maxLen; skip; omega) (by skip; omega) (@List.length_append _ x0.globals [x27]).symm (fun _ b hb => offN (by simp [Sto.bl, hb])) (fun b hb => by simp [hb]) (List.flatMap_append (f := encG)).symm fun v28 => ?_)
            refine tq 6 (by kernel_rfl) rfl rfl rfl rfl (ay_fieldAddr 0 0 rfl rfl Tryd.runUnderlying47 rfl Tryd.sizeOf43 (by decide) rfl) ?_
            refine one 7 (by kernel_rfl) rfl rfl (wst0 rfl rfl rfl rfl rfl Tryd.sizeOf43 rfl (Nat.le_of_ble_eq_true rfl) rfl (by simp) (fun _ => offN (by simp [Sto.bl])) ?_)
            refine any_done (by kernel_rfl) ?_
            refine inB_normal ?_
            refine inB_normal ?_
            obtain ⟨m, rfl⟩ : ∃ m, n0 = m + 1 := ⟨n0 - 1, by omega⟩
            have hel : RRun 0 0 (declP l x0 k0) { x0 with globals := x0.globals ++ [x27] } k27 u27 e27 := (hr27.map (f := fun g => { x0 with globals := x0.globals ++ [g] })).eq fun _ => by unfold declP; rw [if_pos ha7, if_neg (by omega)]
            have hst : ∀ z k' b' e', RRun e27 u27 (progP l m { x0 with globals := x0.globals ++ [x27] } k27) z k' b' e' → RRun 0 0 (programP l) z k' b' e' := fun z k' b' e' h => hcont z k' b' e' (by rw [progP, if_neg hk5]; exact hel.bind h)
            have hgo : e27 = 0 → k0 < k27 ∧ u27 = 0 := fun h => by have h9 := declP_in hok.last (x := x0) hk0; rw [(hel.good h).2.1] at h9; exact ⟨h9.1, (hel.good h).2.2⟩
            refine ⟨({ x0 with globals := x0.globals ++ [x27] }, v28, vm, vf, k27, u27, e27), ⟨hk27, he27, fun h => ?_, fun h => hst _ _ _ _ (.skip h _ _ _), fun h => ⟨(hgo h).2, m, ?_, fun z k' b' e' h2 => hst _ _ _ _ ?_⟩⟩, ?_, subA (.refl _) (.refl _) (by intro x hx; simp only [List.mem_append, List.mem_cons, List.not_mem_nil, or_false] at hx ⊢; rcases hx with h | h | h | h | h | h <;> simp [h]) (sub_cons rfl (Wk.refl _) (sub_cons rfl (Wk.refl _) (sub_cons rfl (Wk.refl _) (sub_cons rfl (Wk.refl _) (sub_cons rfl (Wk.refl _) sub_nil)))))⟩
            ·simp; omega
            ·have := hgo h; show l.length ≤ m + k27; omega
            ·rw [show e27 = 0 from h, show u27 = 0 from (hgo h).2]; exact h2
            ·show (if e27 = 0 then _ else _) < (if (0 : Nat) = 0 then _ else _)
             by_cases h : e27 = 0
             ·have := hgo h; rw [if_pos h, if_pos rfl]; show l.length - k27 + 1 < l.length - k0 + 1; omega
             ·rw [if_neg h, if_pos rfl]; show 0 < l.length - k0 + 1; omega
           ·refine (wbs Tryd.t83 [.val (.string ⟨#[]⟩), .val (.int .i64 0)] rfl rfl (by decide) (.cons rfl .nil) Tryd.underlying43 (by kernel_rfl) rfl (by decide) (by decide) (by kernel_rfl) (by kernel_rfl) (fill_one encG encG x27 rfl rfl rfl) ?_)
            refine one 1 (by kernel_rfl) rfl rfl (way rfl (by decide) (ay_load_box [] rfl rfl rfl Tryd.isAgg43 Tryd.sizeOf43 rfl (fun _ h => by cases h)) ?_)
            refine one 5 (by kernel_rfl) rfl rfl (wapI [] Tryd.t83 24 rfl rfl (by decide) rfl rfl Tryd.underlying43 (by kernel_rfl) rfl rfl rfl rfl (by decide) rfl (by decide) (by unfold maxLen; skip; omega) (by skip; omega) (@List.length_append _ x0.globals [x27]).symm (fun _ b hb => offN (by simp [Sto.bl, hb])) (fun b hb => by simp [hb]) (List.flatMap_append (f := encG)).symm fun v29 => ?_)
            refine tq 6 (by kernel_rfl) rfl rfl rfl rfl (ay_fieldAddr 0 0 rfl rfl Tryd.runUnderlying47 rfl Tryd.sizeOf43 (by decide) rfl) ?_
            refine one 7 (by kernel_rfl) rfl rfl (wst0 rfl rfl rfl rfl rfl Tryd.sizeOf43 rfl (Nat.le_of_ble_eq_true rfl) rfl (by simp) (fun _ => offN (by simp [Sto.bl])) ?_)
            refine any_done (by kernel_rfl) ?_
            refine inB_normal ?_
            refine inB_normal ?_
            obtain ⟨m, rfl⟩ : ∃ m, n0 = m + 1 := ⟨n0 - 1, by omega⟩
            have hel : RRun 0 0 (declP l x0 k0) { x0 with globals := x0.globals ++ [x27] } k27 u27 e27 := (hr27.map (f := fun g => { x0 with globals := x0.globals ++ [g] })).eq fun _ => by unfold declP; rw [if_pos ha7, if_neg (by omega)]
            have hst : ∀ z k' b' e', RRun e27 u27 (progP l m { x0 with globals := x0.globals ++ [x27] } k27) z k' b' e' → RRun 0 0 (programP l) z k' b' e' := fun z k' b' e' h => hcont z k' b' e' (by rw [progP, if_neg hk5]; exact hel.bind h)
            have hgo : e27 = 0 → k0 < k27 ∧ u27 = 0 := fun h => by have h9 := declP_in hok.last (x := x0) hk0; rw [(hel.good h).2.1] at h9; exact ⟨h9.1, (hel.good h).2.2⟩
            refine ⟨({ x0 with globals := x0.globals ++ [x27] }, v29, vm, vf, k27, u27, e27), ⟨hk27, he27, fun h => ?_, fun h => hst _ _ _ _ (.skip h _ _ _), fun h => ⟨(hgo h).2, m, ?_, fun z k' b' e' h2 => hst _ _ _ _ ?_⟩⟩, ?_, subA (.refl _) (.refl _) (by intro x hx; simp only [List.mem_append, List.mem_cons, List.not_mem_nil, or_false] at hx ⊢; rcases hx with h | h | h | h | h | h <;> simp [h]) (sub_cons rfl (Wk.refl _) (sub_cons rfl (Wk.refl _) (sub_cons rfl (Wk.refl _) (sub_cons rfl (Wk.refl _) (sub_cons rfl (Wk.refl _) sub_nil)))))⟩
            ·simp; omega
            ·have := hgo h; show l.length ≤ m + k27; omega
            ·rw [show e27 = 0 from h, show u27 = 0 from (hgo h).2]; exact h2
            ·show (if e27 = 0 then _ else _) < (if (0 : Nat) = 0 then _ else _)
             by_cases h : e27 = 0
             ·have := hgo h; rw [if_pos h, if_pos rfl]; show l.length - k27 + 1 < l.length - k0 + 1; omega
             ·rw [if_neg h, if_pos rfl]; show 0 < l.length - k0 + 1; omega
         ·exact absurd (ha23 rfl) (by rw [ha7]; decide)
    ·refine wmv rfl rfl rfl rfl rfl ?_
     refine wcP rfl rfl rfl rfl Tryd.call36 rfl (isd_w [_] _ _ _ l k0 0 0 0 0 [109, 117, 116, 101, 120] (by decide) hok hk0) (by simp) (by simp [Sto.bl]) ?_
     rintro t30 s30 (⟨-, ha30, rfl, rfl⟩ | ⟨ha30, rfl, rfl⟩)
     ·refine wmv rfl rfl rfl rfl rfl ?_
      refine wskip rfl rfl (by decide) ?_
      refine wskip rfl rfl (by decide) ?_
      refine wyy rfl rfl rfl (ay_pick rfl rfl rfl) ?_
      refine wmv rfl rfl rfl rfl rfl ?_
      refine wcP rfl rfl rfl rfl Tryd.call36 rfl (isd_w [_] _ _ _ l k0 0 0 0 0 [102, 117, 110, 99] (by decide) hok hk0) (by simp) (by simp [Sto.bl]) ?_
      rintro t31 s31 (⟨-, ha31, rfl, rfl⟩ | ⟨ha31, rfl, rfl⟩)
      ·exact absurd (words_eq ha31 ha30) (by decide)
      ·refine wag rfl rfl rfl rfl rfl ?_
       refine wag rfl rfl rfl rfl rfl ?_
       refine wag rfl rfl rfl rfl rfl ?_
       refine nlnm ?_
       refine aw_seq ?_
       refine sqrg ?_
       refine wmv rfl rfl rfl rfl rfl ?_
       by_cases hmutexes : x0.mutexes.length = 12
       ·skip
        refine wmv rfl rfl rfl rfl rfl ?_
        refine wskip rfl rfl (by decide) ?_
        refine wskip rfl rfl (by decide) ?_
        refine wskip rfl rfl (by decide) ?_
        refine wskip rfl rfl (by decide) ?_
        refine wyy rfl rfl rfl (ay_pick rfl rfl rfl) ?_
        refine wmv rfl rfl rfl rfl rfl ?_
        refine wmv rfl rfl rfl rfl rfl ?_
        refine wmv rfl rfl rfl rfl rfl ?_
        refine wyy rfl rfl rfl (ay_fieldAddr 1 1 rfl rfl Tryd.runUnderlying47 rfl Tryd.sizeOf44 (by decide) rfl) ?_
        refine wyy rfl rfl rfl (ay_load_box [] rfl rfl rfl Tryd.isAgg44 Tryd.sizeOf44 rfl (fun _ h => by cases h)) ?_
        refine wyy rfl rfl rfl (ay_len_row [_] rfl rfl rfl Tryd.runUnderlying44) ?_
        refine wyy rfl rfl rfl (ay_cmp true rfl rfl rfl (by rw [hmutexes]; rfl)) ?_
        refine wyy rfl rfl rfl (ay_pick rfl rfl rfl) ?_
        refine wyy rfl rfl rfl (ay_pick rfl rfl rfl) ?_
        refine wmv rfl rfl rfl rfl rfl ?_
        refine wskip rfl rfl (by decide) ?_
        refine wskip rfl rfl (by decide) ?_
        refine wskip rfl rfl (by decide) ?_
        refine wskip rfl rfl (by decide) ?_
        refine wskip rfl rfl (by decide) ?_
        refine wskip rfl rfl (by decide) ?_
        refine wskip rfl rfl (by decide) ?_
        refine wyy rfl rfl rfl (ay_pick rfl rfl rfl) ?_
        refine nlnm ?_
        refine aw_condT rfl rfl ?_
        refine aw_region ?_
        refine wmv rfl rfl rfl rfl rfl ?_
        refine wcP rfl rfl rfl rfl Tryd.call37 rfl (fail_c [_] _ _ _ l k0 0 0 0 0 3) (by simp) (by simp [Sto.bl]) ?_
        rintro t33 s33 ⟨u33, e33, hf33, rfl, rfl⟩
        obtain ⟨rfl, rfl⟩ := hf33.1 rfl
        refine nlnm ?_
        refine aw_block ?_
        refine sqrg ?_
        refine wmv rfl rfl rfl rfl rfl ?_
        refine wcP rfl rfl rfl rfl Tryd.call38 rfl (take_w [_] _ _ _ l k0 k0 3 0 0 [118, 97, 114] (by decide) hok hk0) (by simp) (by simp [Sto.bl]) ?_
        rintro t34 s34 (⟨hz34, -⟩ | ⟨ha34, rfl, rfl⟩)
        ·exact absurd hz34 (by decide)
        ·refine wag rfl rfl rfl rfl rfl ?_
         refine nlnm ?_
         refine aw_condF rfl rfl ?_
         refine sqrg ?_
         refine wmv rfl rfl rfl rfl rfl ?_
         refine wcP rfl rfl rfl rfl Tryd.call38 rfl (take_w [_] _ _ _ l k0 k0 3 0 0 [109, 117, 116, 101, 120] (by decide) hok hk0) (by simp) (by simp [Sto.bl]) ?_
         rintro t36 s36 (⟨hz36, -⟩ | ⟨ha36, rfl, rfl⟩)
         ·exact absurd hz36 (by decide)
         ·refine wag rfl rfl rfl rfl rfl ?_
          refine nlnm ?_
          refine aw_condF rfl rfl ?_
          refine sqrg ?_
          refine wmv rfl rfl rfl rfl rfl ?_
          refine wcP rfl rfl rfl rfl Tryd.call38 rfl (take_w [_] _ _ _ l k0 k0 3 0 0 [114, 109, 117, 116, 101, 120] (by decide) hok hk0) (by simp) (by simp [Sto.bl]) ?_
          rintro t38 s38 (⟨hz38, -⟩ | ⟨ha38, rfl, rfl⟩)
          ·exact absurd hz38 (by decide)
          ·refine wag rfl rfl rfl rfl rfl ?_
           refine nlnm ?_
           refine aw_condF rfl rfl ?_
           refine sqrg ?_
           refine wmv rfl rfl rfl rfl rfl ?_
           refine wcP rfl rfl rfl rfl Tryd.call38 rfl (take_w [_] _ _ _ l k0 k0 3 0 0 [102, 117, 110, 99] (by decide) hok hk0) (by simp) (by simp [Sto.bl]) ?_
           rintro t40 s40 (⟨hz40, -⟩ | ⟨ha40, rfl, rfl⟩)
           ·exact absurd hz40 (by decide)
           ·refine wag rfl rfl rfl rfl rfl ?_
            refine nlnm ?_
            refine aw_condF rfl rfl ?_
            refine aw_region ?_
            refine wmv rfl rfl rfl rfl rfl ?_
            refine wcP rfl rfl rfl rfl Tryd.call37 rfl (fail_c [_] _ _ _ l k0 k0 3 0 0 4) (by simp) (by simp [Sto.bl]) ?_
            rintro t42 s42 ⟨u42, e42, hf42, rfl, rfl⟩
            obtain ⟨rfl, rfl⟩ := hf42.2 (by decide)
            refine aops_nil ?_
            refine inB_normal ?_
            refine inB_normal ?_
            obtain ⟨m, rfl⟩ : ∃ m, n0 = m + 1 := ⟨n0 - 1, by omega⟩
            have hel : RRun 0 0 (declP l x0 k0) x0 k0 k0 3 := .err _ _ _ _ _ (by unfold declP; rw [if_neg (by rw [ha7 rfl]; decide), if_pos ha30, if_pos (by omega)]) (by decide)
            have hst : ∀ z k' b' e', RRun 3 k0 (progP l m x0 k0) z k' b' e' → RRun 0 0 (programP l) z k' b' e' := fun z k' b' e' h => hcont z k' b' e' (by rw [progP, if_neg hk5]; exact hel.bind h)
            have hgo : 3 = 0 → k0 < k0 ∧ k0 = 0 := fun h => by have h9 := declP_in hok.last (x := x0) hk0; rw [(hel.good h).2.1] at h9; exact ⟨h9.1, (hel.good h).2.2⟩
            refine ⟨(x0, vg, vm, vf, k0, k0, 3), ⟨hk0, (show (3 : Nat) < 16 by decide), fun h => ?_, fun h => hst _ _ _ _ (.skip h _ _ _), fun h => ⟨(hgo h).2, m, ?_, fun z k' b' e' h2 => hst _ _ _ _ ?_⟩⟩, ?_, subA (.refl _) (.refl _) (by intro x hx; simp only [List.mem_append, List.mem_cons, List.not_mem_nil, or_false] at hx ⊢; rcases hx with h | h | h | h | h | h <;> simp [h]) (sub_cons rfl (Wk.refl _) (sub_cons rfl (Wk.refl _) (sub_cons rfl (Wk.refl _) (sub_cons rfl (Wk.refl _) (sub_cons rfl (Wk.refl _) sub_nil)))))⟩
            ·exact absurd h (show ¬ (3 : Nat) = 0 by decide)
            ·have := hgo h; show l.length ≤ m + k0; omega
            ·exact absurd h (show ¬ (3 : Nat) = 0 by decide)
            ·show (if 3 = 0 then _ else _) < (if (0 : Nat) = 0 then _ else _)
             by_cases h : 3 = 0
             ·have := hgo h; rw [if_pos h, if_pos rfl]; show l.length - k0 + 1 < l.length - k0 + 1; omega
             ·rw [if_neg h, if_pos rfl]; show 0 < l.length - k0 + 1; omega
       ·skip
        refine wmv rfl rfl rfl rfl rfl ?_
        refine wskip rfl rfl (by decide) ?_
        refine wskip rfl rfl (by decide) ?_
        refine wskip rfl rfl (by decide) ?_
        refine wskip rfl rfl (by decide) ?_
        refine wyy rfl rfl rfl (ay_pick rfl rfl rfl) ?_
        refine wmv rfl rfl rfl rfl rfl ?_
        refine wmv rfl rfl rfl rfl rfl ?_
        refine wmv rfl rfl rfl rfl rfl ?_
        refine wyy rfl rfl rfl (ay_fieldAddr 1 1 rfl rfl Tryd.runUnderlying47 rfl Tryd.sizeOf44 (by decide) rfl) ?_
        refine wyy rfl rfl rfl (ay_load_box [] rfl rfl rfl Tryd.isAgg44 Tryd.sizeOf44 rfl (fun _ h => by cases h)) ?_
        refine wyy rfl rfl rfl (ay_len_row [_] rfl rfl rfl Tryd.runUnderlying44) ?_
        refine wyy rfl rfl rfl (ay_cmp false rfl rfl rfl (by rw [show cmpR .eql ((x0.mutexes.length : Nat) : Int) 12 = some (decide (x0.mutexes.length = 12)) from cmp_nat (n := 12), decide_eq_false hmutexes])) ?_
        refine wyy rfl rfl rfl (ay_pick rfl rfl rfl) ?_
        refine wyy rfl rfl rfl (ay_pick rfl rfl rfl) ?_
        refine wmv rfl rfl rfl rfl rfl ?_
        refine wmv rfl rfl rfl rfl rfl ?_
        refine wmv rfl rfl rfl rfl rfl ?_
        refine wskip rfl rfl (by decide) ?_
        refine wskip rfl rfl (by decide) ?_
        refine wskip rfl rfl (by decide) ?_
        refine wskip rfl rfl (by decide) ?_
        refine wyy rfl rfl rfl (ay_pick rfl rfl rfl) ?_
        refine wyy rfl rfl rfl (ay_pick rfl rfl rfl) ?_
        refine nlnm ?_
        refine aw_condF rfl rfl ?_
        refine aw_skip ?_
        refine then_normal ?_
        refine aw_block ?_
        refine sqrg ?_
        refine wmv rfl rfl rfl rfl rfl ?_
        refine wcP rfl rfl rfl rfl Tryd.call38 rfl (take_w [_] _ _ _ l k0 0 0 0 0 [118, 97, 114] (by decide) hok hk0) (by simp) (by simp [Sto.bl]) ?_
        rintro t44 s44 (⟨-, ha44, hm44, rfl, rfl⟩ | ⟨ha44, rfl, rfl⟩)
        ·exact absurd (words_eq ha44 ha30) (by decide)
        ·refine wag rfl rfl rfl rfl rfl ?_
         refine nlnm ?_
         refine aw_condF rfl rfl ?_
         refine sqrg ?_
         refine wmv rfl rfl rfl rfl rfl ?_
         refine wcP rfl rfl rfl rfl Tryd.call38 rfl (take_w [_] _ _ _ l k0 0 0 0 0 [109, 117, 116, 101, 120] (by decide) hok hk0) (by simp) (by simp [Sto.bl]) ?_
         rintro t46 s46 (⟨-, ha46, hm46, rfl, rfl⟩ | ⟨ha46, rfl, rfl⟩)
         ·refine wag rfl rfl rfl rfl rfl ?_
          refine nlnm ?_
          refine aw_condT rfl rfl ?_
          refine aw_region_drew [] (by kernel_rfl) ?_
          refine tq 0 (by kernel_rfl) rfl rfl rfl rfl (ay_fieldAddr 1 1 rfl rfl Tryd.runUnderlying47 rfl Tryd.sizeOf44 (by decide) rfl) ?_
          refine tq 2 (by kernel_rfl) rfl rfl rfl rfl (ay_move rfl rfl) ?_
          refine two 1 3 (by kernel_rfl) rfl rfl rfl rfl ?_ ?_
          ·refine way rfl (by decide) (ay_load_box [] rfl rfl rfl Tryd.isAgg44 Tryd.sizeOf44 rfl (fun _ h => by cases h)) ?_
           refine one 3 (by kernel_rfl) rfl rfl (wcall [P] rfl rfl (by decide) Tryd.call40 rfl (mutex_false [_] _ _ _ l (k0 + 1) 0 0 0 hok hm46 (by decide)) (by intro b hb; simp at hb; subst hb; simp) (by intro b hb; simp at hb; subst hb; simp [Sto.bl]) (by intro h b hb; simp at hb; subst hb; exact offN (by simp [Sto.bl])) ?_)
           rintro t48 s48 ⟨x48, k48, u48, e48, rfl, hr48, hk48, he48, rfl⟩
           refine one 4 (by kernel_rfl) rfl rfl (wbs Tryd.t86 [.val (.string ⟨#[]⟩), .val (.bool false), .val (.int .i64 0)] rfl rfl (by decide) (.cons rfl .nil) Tryd.underlying44 (by kernel_rfl) rfl (by decide) (by decide) (by kernel_rfl) (by kernel_rfl) (fill_one encM encM x48 rfl rfl rfl) ?_)
           refine one 5 (by kernel_rfl) rfl rfl (wapI [_] Tryd.t86 32 rfl rfl (by decide) rfl rfl Tryd.underlying44 (by kernel_rfl) rfl rfl rfl rfl (by decide) rfl (by decide) (by unfold maxLen; skip; omega) (by skip; omega) (@List.length_append _ x0.mutexes [x48]).symm (fun _ b hb => offN (by simp [Sto.bl, hb])) (fun b hb => by simp [hb]) (List.flatMap_append (f := encM)).symm fun v49 => ?_)
           refine tq 6 (by kernel_rfl) rfl rfl rfl rfl (ay_fieldAddr 1 1 rfl rfl Tryd.runUnderlying47 rfl Tryd.sizeOf44 (by decide) rfl) ?_
           refine one 7 (by kernel_rfl) rfl rfl (wst0 rfl rfl rfl rfl rfl Tryd.sizeOf44 rfl (Nat.le_of_ble_eq_true rfl) rfl (by simp) (fun _ => offN (by simp [Sto.bl])) ?_)
           refine any_done (by kernel_rfl) ?_
           refine inB_normal ?_
           refine inB_normal ?_
           obtain ⟨m, rfl⟩ : ∃ m, n0 = m + 1 := ⟨n0 - 1, by omega⟩
           have hel : RRun 0 0 (declP l x0 k0) { x0 with mutexes := x0.mutexes ++ [x48] } k48 u48 e48 := (hr48.map (f := fun g => { x0 with mutexes := x0.mutexes ++ [g] })).eq fun _ => by unfold declP; rw [if_neg (by rw [ha7 rfl]; decide), if_pos ha30, if_neg (by omega)]
           have hst : ∀ z k' b' e', RRun e48 u48 (progP l m { x0 with mutexes := x0.mutexes ++ [x48] } k48) z k' b' e' → RRun 0 0 (programP l) z k' b' e' := fun z k' b' e' h => hcont z k' b' e' (by rw [progP, if_neg hk5]; exact hel.bind h)
           have hgo : e48 = 0 → k0 < k48 ∧ u48 = 0 := fun h => by have h9 := declP_in hok.last (x := x0) hk0; rw [(hel.good h).2.1] at h9; exact ⟨h9.1, (hel.good h).2.2⟩
           refine ⟨({ x0 with mutexes := x0.mutexes ++ [x48] }, vg, v49, vf, k48, u48, e48), ⟨hk48, he48, fun h => ?_, fun h => hst _ _ _ _ (.skip h _ _ _), fun h => ⟨(hgo h).2, m, ?_, fun z k' b' e' h2 => hst _ _ _ _ ?_⟩⟩, ?_, subA (.refl _) (.refl _) (by intro x hx; simp only [List.mem_append, List.mem_cons, List.not_mem_nil, or_false] at hx ⊢; rcases hx with h | h | h | h | h | h <;> simp [h]) (sub_cons rfl (Wk.refl _) (sub_cons rfl (Wk.refl _) (sub_cons rfl (Wk.refl _) (sub_cons rfl (Wk.refl _) (sub_cons rfl (Wk.refl _) sub_nil)))))⟩
           ·simp; omega
           ·have := hgo h; show l.length ≤ m + k48; omega
           ·rw [show e48 = 0 from h, show u48 = 0 from (hgo h).2]; exact h2
           ·show (if e48 = 0 then _ else _) < (if (0 : Nat) = 0 then _ else _)
            by_cases h : e48 = 0
            ·have := hgo h; rw [if_pos h, if_pos rfl]; show l.length - k48 + 1 < l.length - k0 + 1; omega
            ·rw [if_neg h, if_pos rfl]; show 0 < l.length - k0 + 1; omega
          ·refine (wcall [P] rfl rfl (by decide) Tryd.call40 rfl (mutex_false [_] _ _ _ l (k0 + 1) 0 0 0 hok hm46 (by decide)) (by intro b hb; simp at hb; subst hb; simp) (by intro b hb; simp at hb; subst hb; simp [Sto.bl]) (by intro h b hb; simp at hb; subst hb; exact offN (by simp [Sto.bl])) ?_)
           rintro t50 s50 ⟨x50, k50, u50, e50, rfl, hr50, hk50, he50, rfl⟩
           refine two 1 4 (by kernel_rfl) rfl rfl rfl rfl ?_ ?_
           ·refine way rfl (by decide) (ay_load_box [] rfl rfl rfl Tryd.isAgg44 Tryd.sizeOf44 rfl (fun _ h => by cases h)) ?_
            refine one 4 (by kernel_rfl) rfl rfl (wbs Tryd.t86 [.val (.string ⟨#[]⟩), .val (.bool false), .val (.int .i64 0)] rfl rfl (by decide) (.cons rfl .nil) Tryd.underlying44 (by kernel_rfl) rfl (by decide) (by decide) (by kernel_rfl) (by kernel_rfl) (fill_one encM encM x50 rfl rfl rfl) ?_)
            refine one 5 (by kernel_rfl) rfl rfl (wapI [_] Tryd.t86 32 rfl rfl (by decide) rfl rfl Tryd.underlying44 (by kernel_rfl) rfl rfl rfl rfl (by decide) rfl (by decide) (by unfold maxLen; skip; omega) (by skip; omega) (@List.length_append _ x0.mutexes [x50]).symm (fun _ b hb => offN (by simp [Sto.bl, hb])) (fun b hb => by simp [hb]) (List.flatMap_append (f := encM)).symm fun v51 => ?_)
            refine tq 6 (by kernel_rfl) rfl rfl rfl rfl (ay_fieldAddr 1 1 rfl rfl Tryd.runUnderlying47 rfl Tryd.sizeOf44 (by decide) rfl) ?_
            refine one 7 (by kernel_rfl) rfl rfl (wst0 rfl rfl rfl rfl rfl Tryd.sizeOf44 rfl (Nat.le_of_ble_eq_true rfl) rfl (by simp) (fun _ => offN (by simp [Sto.bl])) ?_)
            refine any_done (by kernel_rfl) ?_
            refine inB_normal ?_
            refine inB_normal ?_
            obtain ⟨m, rfl⟩ : ∃ m, n0 = m + 1 := ⟨n0 - 1, by omega⟩
            have hel : RRun 0 0 (declP l x0 k0) { x0 with mutexes := x0.mutexes ++ [x50] } k50 u50 e50 := (hr50.map (f := fun g => { x0 with mutexes := x0.mutexes ++ [g] })).eq fun _ => by unfold declP; rw [if_neg (by rw [ha7 rfl]; decide), if_pos ha30, if_neg (by omega)]
            have hst : ∀ z k' b' e', RRun e50 u50 (progP l m { x0 with mutexes := x0.mutexes ++ [x50] } k50) z k' b' e' → RRun 0 0 (programP l) z k' b' e' := fun z k' b' e' h => hcont z k' b' e' (by rw [progP, if_neg hk5]; exact hel.bind h)
            have hgo : e50 = 0 → k0 < k50 ∧ u50 = 0 := fun h => by have h9 := declP_in hok.last (x := x0) hk0; rw [(hel.good h).2.1] at h9; exact ⟨h9.1, (hel.good h).2.2⟩
            refine ⟨({ x0 with mutexes := x0.mutexes ++ [x50] }, vg, v51, vf, k50, u50, e50), ⟨hk50, he50, fun h => ?_, fun h => hst _ _ _ _ (.skip h _ _ _), fun h => ⟨(hgo h).2, m, ?_, fun z k' b' e' h2 => hst _ _ _ _ ?_⟩⟩, ?_, subA (.refl _) (.refl _) (by intro x hx; simp only [List.mem_append, List.mem_cons, List.not_mem_nil, or_false] at hx ⊢; rcases hx with h | h | h | h | h | h <;> simp [h]) (sub_cons rfl (Wk.refl _) (sub_cons rfl (Wk.refl _) (sub_cons rfl (Wk.refl _) (sub_cons rfl (Wk.refl _) (sub_cons rfl (Wk.refl _) sub_nil)))))⟩
            ·simp; omega
            ·have := hgo h; show l.length ≤ m + k50; omega
            ·rw [show e50 = 0 from h, show u50 = 0 from (hgo h).2]; exact h2
            ·show (if e50 = 0 then _ else _) < (if (0 : Nat) = 0 then _ else _)
             by_cases h : e50 = 0
             ·have := hgo h; rw [if_pos h, if_pos rfl]; show l.length - k50 + 1 < l.length - k0 + 1; omega
             ·rw [if_neg h, if_pos rfl]; show 0 < l.length - k0 + 1; omega
           ·refine (wbs Tryd.t86 [.val (.string ⟨#[]⟩), .val (.bool false), .val (.int .i64 0)] rfl rfl (by decide) (.cons rfl .nil) Tryd.underlying44 (by kernel_rfl) rfl (by decide) (by decide) (by kernel_rfl) (by kernel_rfl) (fill_one encM encM x50 rfl rfl rfl) ?_)
            refine one 1 (by kernel_rfl) rfl rfl (way rfl (by decide) (ay_load_box [] rfl rfl rfl Tryd.isAgg44 Tryd.sizeOf44 rfl (fun _ h => by cases h)) ?_)
            refine one 5 (by kernel_rfl) rfl rfl (wapI [_] Tryd.t86 32 rfl rfl (by decide) rfl rfl Tryd.underlying44 (by kernel_rfl) rfl rfl rfl rfl (by decide) rfl (by decide) (by unfold maxLen; skip; omega) (by skip; omega) (@List.length_append _ x0.mutexes [x50]).symm (fun _ b hb => offN (by simp [Sto.bl, hb])) (fun b hb => by simp [hb]) (List.flatMap_append (f := encM)).symm fun v52 => ?_)
            refine tq 6 (by kernel_rfl) rfl rfl rfl rfl (ay_fieldAddr 1 1 rfl rfl Tryd.runUnderlying47 rfl Tryd.sizeOf44 (by decide) rfl) ?_
            refine one 7 (by kernel_rfl) rfl rfl (wst0 rfl rfl rfl rfl rfl Tryd.sizeOf44 rfl (Nat.le_of_ble_eq_true rfl) rfl (by simp) (fun _ => offN (by simp [Sto.bl])) ?_)
            refine any_done (by kernel_rfl) ?_
            refine inB_normal ?_
            refine inB_normal ?_
            obtain ⟨m, rfl⟩ : ∃ m, n0 = m + 1 := ⟨n0 - 1, by omega⟩
            have hel : RRun 0 0 (declP l x0 k0) { x0 with mutexes := x0.mutexes ++ [x50] } k50 u50 e50 := (hr50.map (f := fun g => { x0 with mutexes := x0.mutexes ++ [g] })).eq fun _ => by unfold declP; rw [if_neg (by rw [ha7 rfl]; decide), if_pos ha30, if_neg (by omega)]
            have hst : ∀ z k' b' e', RRun e50 u50 (progP l m { x0 with mutexes := x0.mutexes ++ [x50] } k50) z k' b' e' → RRun 0 0 (programP l) z k' b' e' := fun z k' b' e' h => hcont z k' b' e' (by rw [progP, if_neg hk5]; exact hel.bind h)
            have hgo : e50 = 0 → k0 < k50 ∧ u50 = 0 := fun h => by have h9 := declP_in hok.last (x := x0) hk0; rw [(hel.good h).2.1] at h9; exact ⟨h9.1, (hel.good h).2.2⟩
            refine ⟨({ x0 with mutexes := x0.mutexes ++ [x50] }, vg, v52, vf, k50, u50, e50), ⟨hk50, he50, fun h => ?_, fun h => hst _ _ _ _ (.skip h _ _ _), fun h => ⟨(hgo h).2, m, ?_, fun z k' b' e' h2 => hst _ _ _ _ ?_⟩⟩, ?_, subA (.refl _) (.refl _) (by intro x hx; simp only [List.mem_append, List.mem_cons, List.not_mem_nil, or_false] at hx ⊢; rcases hx with h | h | h | h | h | h <;> simp [h]) (sub_cons rfl (Wk.refl _) (sub_cons rfl (Wk.refl _) (sub_cons rfl (Wk.refl _) (sub_cons rfl (Wk.refl _) (sub_cons rfl (Wk.refl _) sub_nil)))))⟩
            ·simp; omega
            ·have := hgo h; show l.length ≤ m + k50; omega
            ·rw [show e50 = 0 from h, show u50 = 0 from (hgo h).2]; exact h2
            ·show (if e50 = 0 then _ else _) < (if (0 : Nat) = 0 then _ else _)
             by_cases h : e50 = 0
             ·have := hgo h; rw [if_pos h, if_pos rfl]; show l.length - k50 + 1 < l.length - k0 + 1; omega
             ·rw [if_neg h, if_pos rfl]; show 0 < l.length - k0 + 1; omega
         ·exact absurd (ha46 rfl) (by rw [ha30]; decide)
     ·refine wmv rfl rfl rfl rfl rfl ?_
      refine wmv rfl rfl rfl rfl rfl ?_
      refine wcP rfl rfl rfl rfl Tryd.call36 rfl (isd_w [_] _ _ _ l k0 0 0 0 0 [114, 109, 117, 116, 101, 120] (by decide) hok hk0) (by simp) (by simp [Sto.bl]) ?_
      rintro t53 s53 (⟨-, ha53, rfl, rfl⟩ | ⟨ha53, rfl, rfl⟩)
      ·refine wyy rfl rfl rfl (ay_pick rfl rfl rfl) ?_
       refine wmv rfl rfl rfl rfl rfl ?_
       refine wcP rfl rfl rfl rfl Tryd.call36 rfl (isd_w [_] _ _ _ l k0 0 0 0 0 [102, 117, 110, 99] (by decide) hok hk0) (by simp) (by simp [Sto.bl]) ?_
       rintro t54 s54 (⟨-, ha54, rfl, rfl⟩ | ⟨ha54, rfl, rfl⟩)
       ·exact absurd (words_eq ha54 ha53) (by decide)
       ·refine wag rfl rfl rfl rfl rfl ?_
        refine wag rfl rfl rfl rfl rfl ?_
        refine wag rfl rfl rfl rfl rfl ?_
        refine nlnm ?_
        refine aw_seq ?_
        refine sqrg ?_
        refine wmv rfl rfl rfl rfl rfl ?_
        by_cases hmutexes : x0.mutexes.length = 12
        ·skip
         refine wmv rfl rfl rfl rfl rfl ?_
         refine wskip rfl rfl (by decide) ?_
         refine wskip rfl rfl (by decide) ?_
         refine wskip rfl rfl (by decide) ?_
         refine wskip rfl rfl (by decide) ?_
         refine wyy rfl rfl rfl (ay_pick rfl rfl rfl) ?_
         refine wmv rfl rfl rfl rfl rfl ?_
         refine wmv rfl rfl rfl rfl rfl ?_
         refine wmv rfl rfl rfl rfl rfl ?_
         refine wyy rfl rfl rfl (ay_fieldAddr 1 1 rfl rfl Tryd.runUnderlying47 rfl Tryd.sizeOf44 (by decide) rfl) ?_
         refine wyy rfl rfl rfl (ay_load_box [] rfl rfl rfl Tryd.isAgg44 Tryd.sizeOf44 rfl (fun _ h => by cases h)) ?_
         refine wyy rfl rfl rfl (ay_len_row [_] rfl rfl rfl Tryd.runUnderlying44) ?_
         refine wyy rfl rfl rfl (ay_cmp true rfl rfl rfl (by rw [hmutexes]; rfl)) ?_
         refine wyy rfl rfl rfl (ay_pick rfl rfl rfl) ?_
         refine wyy rfl rfl rfl (ay_pick rfl rfl rfl) ?_
         refine wmv rfl rfl rfl rfl rfl ?_
         refine wskip rfl rfl (by decide) ?_
         refine wskip rfl rfl (by decide) ?_
         refine wskip rfl rfl (by decide) ?_
         refine wskip rfl rfl (by decide) ?_
         refine wskip rfl rfl (by decide) ?_
         refine wskip rfl rfl (by decide) ?_
         refine wskip rfl rfl (by decide) ?_
         refine wyy rfl rfl rfl (ay_pick rfl rfl rfl) ?_
         refine nlnm ?_
         refine aw_condT rfl rfl ?_
         refine aw_region ?_
         refine wmv rfl rfl rfl rfl rfl ?_
         refine wcP rfl rfl rfl rfl Tryd.call37 rfl (fail_c [_] _ _ _ l k0 0 0 0 0 3) (by simp) (by simp [Sto.bl]) ?_
         rintro t56 s56 ⟨u56, e56, hf56, rfl, rfl⟩
         obtain ⟨rfl, rfl⟩ := hf56.1 rfl
         refine nlnm ?_
         refine aw_block ?_
         refine sqrg ?_
         refine wmv rfl rfl rfl rfl rfl ?_
         refine wcP rfl rfl rfl rfl Tryd.call38 rfl (take_w [_] _ _ _ l k0 k0 3 0 0 [118, 97, 114] (by decide) hok hk0) (by simp) (by simp [Sto.bl]) ?_
         rintro t57 s57 (⟨hz57, -⟩ | ⟨ha57, rfl, rfl⟩)
         ·exact absurd hz57 (by decide)
         ·refine wag rfl rfl rfl rfl rfl ?_
          refine nlnm ?_
          refine aw_condF rfl rfl ?_
          refine sqrg ?_
          refine wmv rfl rfl rfl rfl rfl ?_
          refine wcP rfl rfl rfl rfl Tryd.call38 rfl (take_w [_] _ _ _ l k0 k0 3 0 0 [109, 117, 116, 101, 120] (by decide) hok hk0) (by simp) (by simp [Sto.bl]) ?_
          rintro t59 s59 (⟨hz59, -⟩ | ⟨ha59, rfl, rfl⟩)
          ·exact absurd hz59 (by decide)
          ·refine wag rfl rfl rfl rfl rfl ?_
           refine nlnm ?_
           refine aw_condF rfl rfl ?_
           refine sqrg ?_
           refine wmv rfl rfl rfl rfl rfl ?_
           refine wcP rfl rfl rfl rfl Tryd.call38 rfl (take_w [_] _ _ _ l k0 k0 3 0 0 [114, 109, 117, 116, 101, 120] (by decide) hok hk0) (by simp) (by simp [Sto.bl]) ?_
           rintro t61 s61 (⟨hz61, -⟩ | ⟨ha61, rfl, rfl⟩)
           ·exact absurd hz61 (by decide)
           ·refine wag rfl rfl rfl rfl rfl ?_
            refine nlnm ?_
            refine aw_condF rfl rfl ?_
            refine sqrg ?_
            refine wmv rfl rfl rfl rfl rfl ?_
            refine wcP rfl rfl rfl rfl Tryd.call38 rfl (take_w [_] _ _ _ l k0 k0 3 0 0 [102, 117, 110, 99] (by decide) hok hk0) (by simp) (by simp [Sto.bl]) ?_
            rintro t63 s63 (⟨hz63, -⟩ | ⟨ha63, rfl, rfl⟩)
            ·exact absurd hz63 (by decide)
            ·refine wag rfl rfl rfl rfl rfl ?_
             refine nlnm ?_
             refine aw_condF rfl rfl ?_
             refine aw_region ?_
             refine wmv rfl rfl rfl rfl rfl ?_
             refine wcP rfl rfl rfl rfl Tryd.call37 rfl (fail_c [_] _ _ _ l k0 k0 3 0 0 4) (by simp) (by simp [Sto.bl]) ?_
             rintro t65 s65 ⟨u65, e65, hf65, rfl, rfl⟩
             obtain ⟨rfl, rfl⟩ := hf65.2 (by decide)
             refine aops_nil ?_
             refine inB_normal ?_
             refine inB_normal ?_
             obtain ⟨m, rfl⟩ : ∃ m, n0 = m + 1 := ⟨n0 - 1, by omega⟩
             have hel : RRun 0 0 (declP l x0 k0) x0 k0 k0 3 := .err _ _ _ _ _ (by unfold declP; rw [if_neg (by rw [ha7 rfl]; decide), if_neg (by rw [ha30 rfl]; decide), if_pos ha53, if_pos (by omega)]) (by decide)
             have hst : ∀ z k' b' e', RRun 3 k0 (progP l m x0 k0) z k' b' e' → RRun 0 0 (programP l) z k' b' e' := fun z k' b' e' h => hcont z k' b' e' (by rw [progP, if_neg hk5]; exact hel.bind h)
             have hgo : 3 = 0 → k0 < k0 ∧ k0 = 0 := fun h => by have h9 := declP_in hok.last (x := x0) hk0; rw [(hel.good h).2.1] at h9; exact ⟨h9.1, (hel.good h).2.2⟩
             refine ⟨(x0, vg, vm, vf, k0, k0, 3), ⟨hk0, (show (3 : Nat) < 16 by decide), fun h => ?_, fun h => hst _ _ _ _ (.skip h _ _ _), fun h => ⟨(hgo h).2, m, ?_, fun z k' b' e' h2 => hst _ _ _ _ ?_⟩⟩, ?_, subA (.refl _) (.refl _) (by intro x hx; simp only [List.mem_append, List.mem_cons, List.not_mem_nil, or_false] at hx ⊢; rcases hx with h | h | h | h | h | h <;> simp [h]) (sub_cons rfl (Wk.refl _) (sub_cons rfl (Wk.refl _) (sub_cons rfl (Wk.refl _) (sub_cons rfl (Wk.refl _) (sub_cons rfl (Wk.refl _) sub_nil)))))⟩
             ·exact absurd h (show ¬ (3 : Nat) = 0 by decide)
             ·have := hgo h; show l.length ≤ m + k0; omega
             ·exact absurd h (show ¬ (3 : Nat) = 0 by decide)
             ·show (if 3 = 0 then _ else _) < (if (0 : Nat) = 0 then _ else _)
              by_cases h : 3 = 0
              ·have := hgo h; rw [if_pos h, if_pos rfl]; show l.length - k0 + 1 < l.length - k0 + 1; omega
              ·rw [if_neg h, if_pos rfl]; show 0 < l.length - k0 + 1; omega
        ·skip
         refine wmv rfl rfl rfl rfl rfl ?_
         refine wskip rfl rfl (by decide) ?_
         refine wskip rfl rfl (by decide) ?_
         refine wskip rfl rfl (by decide) ?_
         refine wskip rfl rfl (by decide) ?_
         refine wyy rfl rfl rfl (ay_pick rfl rfl rfl) ?_
         refine wmv rfl rfl rfl rfl rfl ?_
         refine wmv rfl rfl rfl rfl rfl ?_
         refine wmv rfl rfl rfl rfl rfl ?_
         refine wyy rfl rfl rfl (ay_fieldAddr 1 1 rfl rfl Tryd.runUnderlying47 rfl Tryd.sizeOf44 (by decide) rfl) ?_
         refine wyy rfl rfl rfl (ay_load_box [] rfl rfl rfl Tryd.isAgg44 Tryd.sizeOf44 rfl (fun _ h => by cases h)) ?_
         refine wyy rfl rfl rfl (ay_len_row [_] rfl rfl rfl Tryd.runUnderlying44) ?_
         refine wyy rfl rfl rfl (ay_cmp false rfl rfl rfl (by rw [show cmpR .eql ((x0.mutexes.length : Nat) : Int) 12 = some (decide (x0.mutexes.length = 12)) from cmp_nat (n := 12), decide_eq_false hmutexes])) ?_
         refine wyy rfl rfl rfl (ay_pick rfl rfl rfl) ?_
         refine wyy rfl rfl rfl (ay_pick rfl rfl rfl) ?_
         refine wmv rfl rfl rfl rfl rfl ?_
         refine wmv rfl rfl rfl rfl rfl ?_
         refine wmv rfl rfl rfl rfl rfl ?_
         refine wskip rfl rfl (by decide) ?_
         refine wskip rfl rfl (by decide) ?_
         refine wskip rfl rfl (by decide) ?_
         refine wskip rfl rfl (by decide) ?_
         refine wyy rfl rfl rfl (ay_pick rfl rfl rfl) ?_
         refine wyy rfl rfl rfl (ay_pick rfl rfl rfl) ?_
         refine nlnm ?_
         refine aw_condF rfl rfl ?_
         refine aw_skip ?_
         refine then_normal ?_
         refine aw_block ?_
         refine sqrg ?_
         refine wmv rfl rfl rfl rfl rfl ?_
         refine wcP rfl rfl rfl rfl Tryd.call38 rfl (take_w [_] _ _ _ l k0 0 0 0 0 [118, 97, 114] (by decide) hok hk0) (by simp) (by simp [Sto.bl]) ?_
         rintro t67 s67 (⟨-, ha67, hm67, rfl, rfl⟩ | ⟨ha67, rfl, rfl⟩)
         ·exact absurd (words_eq ha67 ha53) (by decide)
         ·refine wag rfl rfl rfl rfl rfl ?_
          refine nlnm ?_
          refine aw_condF rfl rfl ?_
          refine sqrg ?_
          refine wmv rfl rfl rfl rfl rfl ?_
          refine wcP rfl rfl rfl rfl Tryd.call38 rfl (take_w [_] _ _ _ l k0 0 0 0 0 [109, 117, 116, 101, 120] (by decide) hok hk0) (by simp) (by simp [Sto.bl]) ?_
          rintro t69 s69 (⟨-, ha69, hm69, rfl, rfl⟩ | ⟨ha69, rfl, rfl⟩)
          ·exact absurd (words_eq ha69 ha53) (by decide)
          ·refine wag rfl rfl rfl rfl rfl ?_
           refine nlnm ?_
           refine aw_condF rfl rfl ?_
           refine sqrg ?_
           refine wmv rfl rfl rfl rfl rfl ?_
           refine wcP rfl rfl rfl rfl Tryd.call38 rfl (take_w [_] _ _ _ l k0 0 0 0 0 [114, 109, 117, 116, 101, 120] (by decide) hok hk0) (by simp) (by simp [Sto.bl]) ?_
           rintro t71 s71 (⟨-, ha71, hm71, rfl, rfl⟩ | ⟨ha71, rfl, rfl⟩)
           ·refine wag rfl rfl rfl rfl rfl ?_
            refine nlnm ?_
            refine aw_condT rfl rfl ?_
            refine aw_region_drew [] (by kernel_rfl) ?_
            refine tq 0 (by kernel_rfl) rfl rfl rfl rfl (ay_fieldAddr 1 1 rfl rfl Tryd.runUnderlying47 rfl Tryd.sizeOf44 (by decide) rfl) ?_
            refine tq 2 (by kernel_rfl) rfl rfl rfl rfl (ay_move rfl rfl) ?_
            refine two 1 3 (by kernel_rfl) rfl rfl rfl rfl ?_ ?_
            ·refine way rfl (by decide) (ay_load_box [] rfl rfl rfl Tryd.isAgg44 Tryd.sizeOf44 rfl (fun _ h => by cases h)) ?_
             refine one 3 (by kernel_rfl) rfl rfl (wcall [P] rfl rfl (by decide) Tryd.call40 rfl (mutex_true [_] _ _ _ l (k0 + 1) 0 0 0 hok hm71 (by decide)) (by intro b hb; simp at hb; subst hb; simp) (by intro b hb; simp at hb; subst hb; simp [Sto.bl]) (by intro h b hb; simp at hb; subst hb; exact offN (by simp [Sto.bl])) ?_)
             rintro t73 s73 ⟨x73, k73, u73, e73, rfl, hr73, hk73, he73, rfl⟩
             refine one 4 (by kernel_rfl) rfl rfl (wbs Tryd.t86 [.val (.string ⟨#[]⟩), .val (.bool false), .val (.int .i64 0)] rfl rfl (by decide) (.cons rfl .nil) Tryd.underlying44 (by kernel_rfl) rfl (by decide) (by decide) (by kernel_rfl) (by kernel_rfl) (fill_one encM encM x73 rfl rfl rfl) ?_)
             refine one 5 (by kernel_rfl) rfl rfl (wapI [_] Tryd.t86 32 rfl rfl (by decide) rfl rfl Tryd.underlying44 (by kernel_rfl) rfl rfl rfl rfl (by decide) rfl (by decide) (by unfold maxLen; skip; omega) (by skip; omega) (@List.length_append _ x0.mutexes [x73]).symm (fun _ b hb => offN (by simp [Sto.bl, hb])) (fun b hb => by simp [hb]) (List.flatMap_append (f := encM)).symm fun v74 => ?_)
             refine tq 6 (by kernel_rfl) rfl rfl rfl rfl (ay_fieldAddr 1 1 rfl rfl Tryd.runUnderlying47 rfl Tryd.sizeOf44 (by decide) rfl) ?_
             refine one 7 (by kernel_rfl) rfl rfl (wst0 rfl rfl rfl rfl rfl Tryd.sizeOf44 rfl (Nat.le_of_ble_eq_true rfl) rfl (by simp) (fun _ => offN (by simp [Sto.bl])) ?_)
             refine any_done (by kernel_rfl) ?_
             refine inB_normal ?_
             refine inB_normal ?_
             obtain ⟨m, rfl⟩ : ∃ m, n0 = m + 1 := ⟨n0 - 1, by omega⟩
             have hel : RRun 0 0 (declP l x0 k0) { x0 with mutexes := x0.mutexes ++ [x73] } k73 u73 e73 := (hr73.map (f := fun g => { x0 with mutexes := x0.mutexes ++ [g] })).eq fun _ => by unfold declP; rw [if_neg (by rw [ha7 rfl]; decide), if_neg (by rw [ha30 rfl]; decide), if_pos ha53, if_neg (by omega)]
             have hst : ∀ z k' b' e', RRun e73 u73 (progP l m { x0 with mutexes := x0.mutexes ++ [x73] } k73) z k' b' e' → RRun 0 0 (programP l) z k' b' e' := fun z k' b' e' h => hcont z k' b' e' (by rw [progP, if_neg hk5]; exact hel.bind h)
             have hgo : e73 = 0 → k0 < k73 ∧ u73 = 0 := fun h => by have h9 := declP_in hok.last (x := x0) hk0; rw [(hel.good h).2.1] at h9; exact ⟨h9.1, (hel.good h).2.2⟩
             refine ⟨({ x0 with mutexes := x0.mutexes ++ [x73] }, vg, v74, vf, k73, u73, e73), ⟨hk73, he73, fun h => ?_, fun h => hst _ _ _ _ (.skip h _ _ _), fun h => ⟨(hgo h).2, m, ?_, fun z k' b' e' h2 => hst _ _ _ _ ?_⟩⟩, ?_, subA (.refl _) (.refl _) (by intro x hx; simp only [List.mem_append, List.mem_cons, List.not_mem_nil, or_false] at hx ⊢; rcases hx with h | h | h | h | h | h <;> simp [h]) (sub_cons rfl (Wk.refl _) (sub_cons rfl (Wk.refl _) (sub_cons rfl (Wk.refl _) (sub_cons rfl (Wk.refl _) (sub_cons rfl (Wk.refl _) sub_nil)))))⟩
             ·simp; omega
             ·have := hgo h; show l.length ≤ m + k73; omega
             ·rw [show e73 = 0 from h, show u73 = 0 from (hgo h).2]; exact h2
             ·show (if e73 = 0 then _ else _) < (if (0 : Nat) = 0 then _ else _)
              by_cases h : e73 = 0
              ·have := hgo h; rw [if_pos h, if_pos rfl]; show l.length - k73 + 1 < l.length - k0 + 1; omega
              ·rw [if_neg h, if_pos rfl]; show 0 < l.length - k0 + 1; omega
            ·refine (wcall [P] rfl rfl (by decide) Tryd.call40 rfl (mutex_true [_] _ _ _ l (k0 + 1) 0 0 0 hok hm71 (by decide)) (by intro b hb; simp at hb; subst hb; simp) (by intro b hb; simp at hb; subst hb; simp [Sto.bl]) (by intro h b hb; simp at hb; subst hb; exact offN (by simp [Sto.bl])) ?_)
             rintro t75 s75 ⟨x75, k75, u75, e75, rfl, hr75, hk75, he75, rfl⟩
             refine two 1 4 (by kernel_rfl) rfl rfl rfl rfl ?_ ?_
             ·refine way rfl (by decide) (ay_load_box [] rfl rfl rfl Tryd.isAgg44 Tryd.sizeOf44 rfl (fun _ h => by cases h)) ?_
              refine one 4 (by kernel_rfl) rfl rfl (wbs Tryd.t86 [.val (.string ⟨#[]⟩), .val (.bool false), .val (.int .i64 0)] rfl rfl (by decide) (.cons rfl .nil) Tryd.underlying44 (by kernel_rfl) rfl (by decide) (by decide) (by kernel_rfl) (by kernel_rfl) (fill_one encM encM x75 rfl rfl rfl) ?_)
              refine one 5 (by kernel_rfl) rfl rfl (wapI [_] Tryd.t86 32 rfl rfl (by decide) rfl rfl Tryd.underlying44 (by kernel_rfl) rfl rfl rfl rfl (by decide) rfl (by decide) (by unfold maxLen; skip; omega) (by skip; omega) (@List.length_append _ x0.mutexes [x75]).symm (fun _ b hb => offN (by simp [Sto.bl, hb])) (fun b hb => by simp [hb]) (List.flatMap_append (f := encM)).symm fun v76 => ?_)
              refine tq 6 (by kernel_rfl) rfl rfl rfl rfl (ay_fieldAddr 1 1 rfl rfl Tryd.runUnderlying47 rfl Tryd.sizeOf44 (by decide) rfl) ?_
              refine one 7 (by kernel_rfl) rfl rfl (wst0 rfl rfl rfl rfl rfl Tryd.sizeOf44 rfl (Nat.le_of_ble_eq_true rfl) rfl (by simp) (fun _ => offN (by simp [Sto.bl])) ?_)
              refine any_done (by kernel_rfl) ?_
              refine inB_normal ?_
              refine inB_normal ?_
              obtain ⟨m, rfl⟩ : ∃ m, n0 = m + 1 := ⟨n0 - 1, by omega⟩
              have hel : RRun 0 0 (declP l x0 k0) { x0 with mutexes := x0.mutexes ++ [x75] } k75 u75 e75 := (hr75.map (f := fun g => { x0 with mutexes := x0.mutexes ++ [g] })).eq fun _ => by unfold declP; rw [if_neg (by rw [ha7 rfl]; decide), if_neg (by rw [ha30 rfl]; decide), if_pos ha53, if_neg (by omega)]
              have hst : ∀ z k' b' e', RRun e75 u75 (progP l m { x0 with mutexes := x0.mutexes ++ [x75] } k75) z k' b' e' → RRun 0 0 (programP l) z k' b' e' := fun z k' b' e' h => hcont z k' b' e' (by rw [progP, if_neg hk5]; exact hel.bind h)
              have hgo : e75 = 0 → k0 < k75 ∧ u75 = 0 := fun h => by have h9 := declP_in hok.last (x := x0) hk0; rw [(hel.good h).2.1] at h9; exact ⟨h9.1, (hel.good h).2.2⟩
              refine ⟨({ x0 with mutexes := x0.mutexes ++ [x75] }, vg, v76, vf, k75, u75, e75), ⟨hk75, he75, fun h => ?_, fun h => hst _ _ _ _ (.skip h _ _ _), fun h => ⟨(hgo h).2, m, ?_, fun z k' b' e' h2 => hst _ _ _ _ ?_⟩⟩, ?_, subA (.refl _) (.refl _) (by intro x hx; simp only [List.mem_append, List.mem_cons, List.not_mem_nil, or_false] at hx ⊢; rcases hx with h | h | h | h | h | h <;> simp [h]) (sub_cons rfl (Wk.refl _) (sub_cons rfl (Wk.refl _) (sub_cons rfl (Wk.refl _) (sub_cons rfl (Wk.refl _) (sub_cons rfl (Wk.refl _) sub_nil)))))⟩
              ·simp; omega
              ·have := hgo h; show l.length ≤ m + k75; omega
              ·rw [show e75 = 0 from h, show u75 = 0 from (hgo h).2]; exact h2
              ·show (if e75 = 0 then _ else _) < (if (0 : Nat) = 0 then _ else _)
               by_cases h : e75 = 0
               ·have := hgo h; rw [if_pos h, if_pos rfl]; show l.length - k75 + 1 < l.length - k0 + 1; omega
               ·rw [if_neg h, if_pos rfl]; show 0 < l.length - k0 + 1; omega
             ·refine (wbs Tryd.t86 [.val (.string ⟨#[]⟩), .val (.bool false), .val (.int .i64 0)] rfl rfl (by decide) (.cons rfl .nil) Tryd.underlying44 (by kernel_rfl) rfl (by decide) (by decide) (by kernel_rfl) (by kernel_rfl) (fill_one encM encM x75 rfl rfl rfl) ?_)
              refine one 1 (by kernel_rfl) rfl rfl (way rfl (by decide) (ay_load_box [] rfl rfl rfl Tryd.isAgg44 Tryd.sizeOf44 rfl (fun _ h => by cases h)) ?_)
              refine one 5 (by kernel_rfl) rfl rfl (wapI [_] Tryd.t86 32 rfl rfl (by decide) rfl rfl Tryd.underlying44 (by kernel_rfl) rfl rfl rfl rfl (by decide) rfl (by decide) (by unfold maxLen; skip; omega) (by skip; omega) (@List.length_append _ x0.mutexes [x75]).symm (fun _ b hb => offN (by simp [Sto.bl, hb])) (fun b hb => by simp [hb]) (List.flatMap_append (f := encM)).symm fun v77 => ?_)
              refine tq 6 (by kernel_rfl) rfl rfl rfl rfl (ay_fieldAddr 1 1 rfl rfl Tryd.runUnderlying47 rfl Tryd.sizeOf44 (by decide) rfl) ?_
              refine one 7 (by kernel_rfl) rfl rfl (wst0 rfl rfl rfl rfl rfl Tryd.sizeOf44 rfl (Nat.le_of_ble_eq_true rfl) rfl (by simp) (fun _ => offN (by simp [Sto.bl])) ?_)
              refine any_done (by kernel_rfl) ?_
              refine inB_normal ?_
              refine inB_normal ?_
              obtain ⟨m, rfl⟩ : ∃ m, n0 = m + 1 := ⟨n0 - 1, by omega⟩
              have hel : RRun 0 0 (declP l x0 k0) { x0 with mutexes := x0.mutexes ++ [x75] } k75 u75 e75 := (hr75.map (f := fun g => { x0 with mutexes := x0.mutexes ++ [g] })).eq fun _ => by unfold declP; rw [if_neg (by rw [ha7 rfl]; decide), if_neg (by rw [ha30 rfl]; decide), if_pos ha53, if_neg (by omega)]
              have hst : ∀ z k' b' e', RRun e75 u75 (progP l m { x0 with mutexes := x0.mutexes ++ [x75] } k75) z k' b' e' → RRun 0 0 (programP l) z k' b' e' := fun z k' b' e' h => hcont z k' b' e' (by rw [progP, if_neg hk5]; exact hel.bind h)
              have hgo : e75 = 0 → k0 < k75 ∧ u75 = 0 := fun h => by have h9 := declP_in hok.last (x := x0) hk0; rw [(hel.good h).2.1] at h9; exact ⟨h9.1, (hel.good h).2.2⟩
              refine ⟨({ x0 with mutexes := x0.mutexes ++ [x75] }, vg, v77, vf, k75, u75, e75), ⟨hk75, he75, fun h => ?_, fun h => hst _ _ _ _ (.skip h _ _ _), fun h => ⟨(hgo h).2, m, ?_, fun z k' b' e' h2 => hst _ _ _ _ ?_⟩⟩, ?_, subA (.refl _) (.refl _) (by intro x hx; simp only [List.mem_append, List.mem_cons, List.not_mem_nil, or_false] at hx ⊢; rcases hx with h | h | h | h | h | h <;> simp [h]) (sub_cons rfl (Wk.refl _) (sub_cons rfl (Wk.refl _) (sub_cons rfl (Wk.refl _) (sub_cons rfl (Wk.refl _) (sub_cons rfl (Wk.refl _) sub_nil)))))⟩
              ·simp; omega
              ·have := hgo h; show l.length ≤ m + k75; omega
              ·rw [show e75 = 0 from h, show u75 = 0 from (hgo h).2]; exact h2
              ·show (if e75 = 0 then _ else _) < (if (0 : Nat) = 0 then _ else _)
               by_cases h : e75 = 0
               ·have := hgo h; rw [if_pos h, if_pos rfl]; show l.length - k75 + 1 < l.length - k0 + 1; omega
               ·rw [if_neg h, if_pos rfl]; show 0 < l.length - k0 + 1; omega
           ·exact absurd (ha71 rfl) (by rw [ha53]; decide)
      ·refine wyy rfl rfl rfl (ay_pick rfl rfl rfl) ?_
       refine wmv rfl rfl rfl rfl rfl ?_
       refine wcP rfl rfl rfl rfl Tryd.call36 rfl (isd_w [_] _ _ _ l k0 0 0 0 0 [102, 117, 110, 99] (by decide) hok hk0) (by simp) (by simp [Sto.bl]) ?_
       rintro t78 s78 (⟨-, ha78, rfl, rfl⟩ | ⟨ha78, rfl, rfl⟩)
       ·refine wag rfl rfl rfl rfl rfl ?_
        refine wag rfl rfl rfl rfl rfl ?_
        refine wag rfl rfl rfl rfl rfl ?_
        refine nlnm ?_
        refine aw_seq ?_
        refine sqrg ?_
        refine wmv rfl rfl rfl rfl rfl ?_
        refine wmv rfl rfl rfl rfl rfl ?_
        by_cases hfuncs : x0.funcs.length = 16
        ·skip
         refine wskip rfl rfl (by decide) ?_
         refine wskip rfl rfl (by decide) ?_
         refine wskip rfl rfl (by decide) ?_
         refine wskip rfl rfl (by decide) ?_
         refine wyy rfl rfl rfl (ay_pick rfl rfl rfl) ?_
         refine wmv rfl rfl rfl rfl rfl ?_
         refine wmv rfl rfl rfl rfl rfl ?_
         refine wmv rfl rfl rfl rfl rfl ?_
         refine wskip rfl rfl (by decide) ?_
         refine wskip rfl rfl (by decide) ?_
         refine wskip rfl rfl (by decide) ?_
         refine wskip rfl rfl (by decide) ?_
         refine wyy rfl rfl rfl (ay_pick rfl rfl rfl) ?_
         refine wyy rfl rfl rfl (ay_pick rfl rfl rfl) ?_
         refine wmv rfl rfl rfl rfl rfl ?_
         refine wmv rfl rfl rfl rfl rfl ?_
         refine wmv rfl rfl rfl rfl rfl ?_
         refine wyy rfl rfl rfl (ay_fieldAddr 2 2 rfl rfl Tryd.runUnderlying47 rfl Tryd.sizeOf45 (by decide) rfl) ?_
         refine wyy rfl rfl rfl (ay_load_box [] rfl rfl rfl Tryd.isAgg45 Tryd.sizeOf45 rfl (fun _ h => by cases h)) ?_
         refine wyy rfl rfl rfl (ay_len_row [_, _] rfl rfl rfl Tryd.runUnderlying45) ?_
         refine wyy rfl rfl rfl (ay_cmp true rfl rfl rfl (by rw [hfuncs]; rfl)) ?_
         refine wyy rfl rfl rfl (ay_pick rfl rfl rfl) ?_
         refine wyy rfl rfl rfl (ay_pick rfl rfl rfl) ?_
         refine nlnm ?_
         refine aw_condT rfl rfl ?_
         refine aw_region ?_
         refine wmv rfl rfl rfl rfl rfl ?_
         refine wcP rfl rfl rfl rfl Tryd.call37 rfl (fail_c [_] _ _ _ l k0 0 0 0 0 3) (by simp) (by simp [Sto.bl]) ?_
         rintro t80 s80 ⟨u80, e80, hf80, rfl, rfl⟩
         obtain ⟨rfl, rfl⟩ := hf80.1 rfl
         refine nlnm ?_
         refine aw_block ?_
         refine sqrg ?_
         refine wmv rfl rfl rfl rfl rfl ?_
         refine wcP rfl rfl rfl rfl Tryd.call38 rfl (take_w [_] _ _ _ l k0 k0 3 0 0 [118, 97, 114] (by decide) hok hk0) (by simp) (by simp [Sto.bl]) ?_
         rintro t81 s81 (⟨hz81, -⟩ | ⟨ha81, rfl, rfl⟩)
         ·exact absurd hz81 (by decide)
         ·refine wag rfl rfl rfl rfl rfl ?_
          refine nlnm ?_
          refine aw_condF rfl rfl ?_
          refine sqrg ?_
          refine wmv rfl rfl rfl rfl rfl ?_
          refine wcP rfl rfl rfl rfl Tryd.call38 rfl (take_w [_] _ _ _ l k0 k0 3 0 0 [109, 117, 116, 101, 120] (by decide) hok hk0) (by simp) (by simp [Sto.bl]) ?_
          rintro t83 s83 (⟨hz83, -⟩ | ⟨ha83, rfl, rfl⟩)
          ·exact absurd hz83 (by decide)
          ·refine wag rfl rfl rfl rfl rfl ?_
           refine nlnm ?_
           refine aw_condF rfl rfl ?_
           refine sqrg ?_
           refine wmv rfl rfl rfl rfl rfl ?_
           refine wcP rfl rfl rfl rfl Tryd.call38 rfl (take_w [_] _ _ _ l k0 k0 3 0 0 [114, 109, 117, 116, 101, 120] (by decide) hok hk0) (by simp) (by simp [Sto.bl]) ?_
           rintro t85 s85 (⟨hz85, -⟩ | ⟨ha85, rfl, rfl⟩)
           ·exact absurd hz85 (by decide)
           ·refine wag rfl rfl rfl rfl rfl ?_
            refine nlnm ?_
            refine aw_condF rfl rfl ?_
            refine sqrg ?_
            refine wmv rfl rfl rfl rfl rfl ?_
            refine wcP rfl rfl rfl rfl Tryd.call38 rfl (take_w [_] _ _ _ l k0 k0 3 0 0 [102, 117, 110, 99] (by decide) hok hk0) (by simp) (by simp [Sto.bl]) ?_
            rintro t87 s87 (⟨hz87, -⟩ | ⟨ha87, rfl, rfl⟩)
            ·exact absurd hz87 (by decide)
            ·refine wag rfl rfl rfl rfl rfl ?_
             refine nlnm ?_
             refine aw_condF rfl rfl ?_
             refine aw_region ?_
             refine wmv rfl rfl rfl rfl rfl ?_
             refine wcP rfl rfl rfl rfl Tryd.call37 rfl (fail_c [_] _ _ _ l k0 k0 3 0 0 4) (by simp) (by simp [Sto.bl]) ?_
             rintro t89 s89 ⟨u89, e89, hf89, rfl, rfl⟩
             obtain ⟨rfl, rfl⟩ := hf89.2 (by decide)
             refine aops_nil ?_
             refine inB_normal ?_
             refine inB_normal ?_
             obtain ⟨m, rfl⟩ : ∃ m, n0 = m + 1 := ⟨n0 - 1, by omega⟩
             have hel : RRun 0 0 (declP l x0 k0) x0 k0 k0 3 := .err _ _ _ _ _ (by unfold declP; rw [if_neg (by rw [ha7 rfl]; decide), if_neg (by rw [ha30 rfl]; decide), if_neg (by rw [ha53 rfl]; decide), if_pos ha78, if_pos (by omega)]) (by decide)
             have hst : ∀ z k' b' e', RRun 3 k0 (progP l m x0 k0) z k' b' e' → RRun 0 0 (programP l) z k' b' e' := fun z k' b' e' h => hcont z k' b' e' (by rw [progP, if_neg hk5]; exact hel.bind h)
             have hgo : 3 = 0 → k0 < k0 ∧ k0 = 0 := fun h => by have h9 := declP_in hok.last (x := x0) hk0; rw [(hel.good h).2.1] at h9; exact ⟨h9.1, (hel.good h).2.2⟩
             refine ⟨(x0, vg, vm, vf, k0, k0, 3), ⟨hk0, (show (3 : Nat) < 16 by decide), fun h => ?_, fun h => hst _ _ _ _ (.skip h _ _ _), fun h => ⟨(hgo h).2, m, ?_, fun z k' b' e' h2 => hst _ _ _ _ ?_⟩⟩, ?_, subA (.refl _) (.refl _) (by intro x hx; simp only [List.mem_append, List.mem_cons, List.not_mem_nil, or_false] at hx ⊢; rcases hx with h | h | h | h | h | h <;> simp [h]) (sub_cons rfl (Wk.refl _) (sub_cons rfl (Wk.refl _) (sub_cons rfl (Wk.refl _) (sub_cons rfl (Wk.refl _) (sub_cons rfl (Wk.refl _) sub_nil)))))⟩
             ·exact absurd h (show ¬ (3 : Nat) = 0 by decide)
             ·have := hgo h; show l.length ≤ m + k0; omega
             ·exact absurd h (show ¬ (3 : Nat) = 0 by decide)
             ·show (if 3 = 0 then _ else _) < (if (0 : Nat) = 0 then _ else _)
              by_cases h : 3 = 0
              ·have := hgo h; rw [if_pos h, if_pos rfl]; show l.length - k0 + 1 < l.length - k0 + 1; omega
              ·rw [if_neg h, if_pos rfl]; show 0 < l.length - k0 + 1; omega
        ·skip
         refine wskip rfl rfl (by decide) ?_
         refine wskip rfl rfl (by decide) ?_
         refine wskip rfl rfl (by decide) ?_
         refine wskip rfl rfl (by decide) ?_
         refine wyy rfl rfl rfl (ay_pick rfl rfl rfl) ?_
         refine wmv rfl rfl rfl rfl rfl ?_
         refine wmv rfl rfl rfl rfl rfl ?_
         refine wmv rfl rfl rfl rfl rfl ?_
         refine wskip rfl rfl (by decide) ?_
         refine wskip rfl rfl (by decide) ?_
         refine wskip rfl rfl (by decide) ?_
         refine wskip rfl rfl (by decide) ?_
         refine wyy rfl rfl rfl (ay_pick rfl rfl rfl) ?_
         refine wyy rfl rfl rfl (ay_pick rfl rfl rfl) ?_
         refine wmv rfl rfl rfl rfl rfl ?_
         refine wmv rfl rfl rfl rfl rfl ?_
         refine wmv rfl rfl rfl rfl rfl ?_
         refine wyy rfl rfl rfl (ay_fieldAddr 2 2 rfl rfl Tryd.runUnderlying47 rfl Tryd.sizeOf45 (by decide) rfl) ?_
         refine wyy rfl rfl rfl (ay_load_box [] rfl rfl rfl Tryd.isAgg45 Tryd.sizeOf45 rfl (fun _ h => by cases h)) ?_
         refine wyy rfl rfl rfl (ay_len_row [_, _] rfl rfl rfl Tryd.runUnderlying45) ?_
         refine wyy rfl rfl rfl (ay_cmp false rfl rfl rfl (by rw [show cmpR .eql ((x0.funcs.length : Nat) : Int) 16 = some (decide (x0.funcs.length = 16)) from cmp_nat (n := 16), decide_eq_false hfuncs])) ?_
         refine wyy rfl rfl rfl (ay_pick rfl rfl rfl) ?_
         refine wyy rfl rfl rfl (ay_pick rfl rfl rfl) ?_
         refine nlnm ?_
         refine aw_condF rfl rfl ?_
         refine aw_skip ?_
         refine then_normal ?_
         refine aw_block ?_
         refine sqrg ?_
         refine wmv rfl rfl rfl rfl rfl ?_
         refine wcP rfl rfl rfl rfl Tryd.call38 rfl (take_w [_] _ _ _ l k0 0 0 0 0 [118, 97, 114] (by decide) hok hk0) (by simp) (by simp [Sto.bl]) ?_
         rintro t91 s91 (⟨-, ha91, hm91, rfl, rfl⟩ | ⟨ha91, rfl, rfl⟩)
         ·exact absurd (words_eq ha91 ha78) (by decide)
         ·refine wag rfl rfl rfl rfl rfl ?_
          refine nlnm ?_
          refine aw_condF rfl rfl ?_
          refine sqrg ?_
          refine wmv rfl rfl rfl rfl rfl ?_
          refine wcP rfl rfl rfl rfl Tryd.call38 rfl (take_w [_] _ _ _ l k0 0 0 0 0 [109, 117, 116, 101, 120] (by decide) hok hk0) (by simp) (by simp [Sto.bl]) ?_
          rintro t93 s93 (⟨-, ha93, hm93, rfl, rfl⟩ | ⟨ha93, rfl, rfl⟩)
          ·exact absurd (words_eq ha93 ha78) (by decide)
          ·refine wag rfl rfl rfl rfl rfl ?_
           refine nlnm ?_
           refine aw_condF rfl rfl ?_
           refine sqrg ?_
           refine wmv rfl rfl rfl rfl rfl ?_
           refine wcP rfl rfl rfl rfl Tryd.call38 rfl (take_w [_] _ _ _ l k0 0 0 0 0 [114, 109, 117, 116, 101, 120] (by decide) hok hk0) (by simp) (by simp [Sto.bl]) ?_
           rintro t95 s95 (⟨-, ha95, hm95, rfl, rfl⟩ | ⟨ha95, rfl, rfl⟩)
           ·exact absurd (words_eq ha95 ha78) (by decide)
           ·refine wag rfl rfl rfl rfl rfl ?_
            refine nlnm ?_
            refine aw_condF rfl rfl ?_
            refine sqrg ?_
            refine wmv rfl rfl rfl rfl rfl ?_
            refine wcP rfl rfl rfl rfl Tryd.call38 rfl (take_w [_] _ _ _ l k0 0 0 0 0 [102, 117, 110, 99] (by decide) hok hk0) (by simp) (by simp [Sto.bl]) ?_
            rintro t97 s97 (⟨-, ha97, hm97, rfl, rfl⟩ | ⟨ha97, rfl, rfl⟩)
            ·refine wag rfl rfl rfl rfl rfl ?_
             refine nlnm ?_
             refine aw_condT rfl rfl ?_
             refine sqrg ?_
             refine wmv rfl rfl rfl rfl rfl ?_
             refine wcP rfl rfl rfl rfl Tryd.call41 rfl (name_c [_] _ _ _ l (k0 + 1) 0 0 0 0 hok hm97 (by decide)) (by simp) (by simp [Sto.bl]) ?_
             rintro t99 s99 ⟨x99, k99, u99, e99, rfl, hr99, hk99, he99, rfl⟩
             refine wyy rfl rfl rfl (ay_build Tryd.t54 [(0, 1), (1, 1), (2, 1)] rfl (.cons rfl .nil) Tryd.underlying54 (by kernel_rfl) rfl (by kernel_rfl) rfl rfl) ?_
             refine wo rfl (walloc rfl rfl (by decide) Tryd.zeroValue54 rfl fun b4 => ?_)
             refine wo rfl (wst0 rfl rfl rfl rfl rfl Tryd.sizeOf54 rfl (Nat.le_of_ble_eq_true rfl) (splice_all rfl) (by simp) (fun _ => by simp) ?_)
             refine nx ?_
             refine wmv rfl rfl rfl rfl rfl ?_
             refine wcP rfl rfl rfl rfl Tryd.call42 rfl (params_c [_, _] _ _ _ l k99 u99 e99 0 hok hk99 he99) (by simp) (by simp [Sto.bl]) ?_
             rintro t100 s100 ⟨x100, k100, u100, e100, rfl, hr100, hk100, he100, rfl⟩
             refine wyy rfl rfl rfl (ay_fieldAddr 1 1 rfl rfl Tryd.runUnderlying54 rfl Tryd.sizeOf51 (by decide) rfl) ?_
             refine wo rfl (wst0 rfl rfl rfl rfl rfl Tryd.sizeOf51 rfl (Nat.le_of_ble_eq_true rfl) rfl (by simp) (fun _ => by simp) ?_)
             refine nx ?_
             refine wmv rfl rfl rfl rfl rfl ?_
             refine wcP rfl rfl rfl rfl Tryd.call43 rfl (block_all l hok 24 (Nat.le_refl _) [_, _] _ _ _ k100 u100 e100 hk100 he100) (by simp) (by simp [Sto.bl]) ?_
             rintro t101 s101 ⟨x101, k101, u101, e101, rfl, hr101, hk101, he101, rfl⟩
             refine wyy rfl rfl rfl (ay_fieldAddr 2 2 rfl rfl Tryd.runUnderlying54 rfl Tryd.sizeOf52 (by decide) rfl) ?_
             refine wo rfl (wst0 rfl rfl rfl rfl rfl Tryd.sizeOf52 rfl (Nat.le_of_ble_eq_true rfl) rfl (by simp) (fun _ => by simp) ?_)
             refine nlnm ?_
             refine aw_region ?_
             refine wyy rfl rfl rfl (ay_fieldAddr 2 2 rfl rfl Tryd.runUnderlying47 rfl Tryd.sizeOf45 (by decide) rfl) ?_
             refine wyy rfl rfl rfl (ay_load_box [_] rfl rfl rfl Tryd.isAgg45 Tryd.sizeOf45 rfl (fun _ h => by cases h)) ?_
             refine wyy rfl rfl rfl (ay_load_box [] rfl rfl rfl Tryd.isAgg54 Tryd.sizeOf54 rfl (fun _ h => by cases h)) ?_
             refine wo rfl (wbs Tryd.t54 [.val (.string ⟨#[]⟩), .val (.slice none 0 0), .val (.slice none 0 0)] rfl rfl (by decide) (.cons rfl .nil) Tryd.underlying45 (by kernel_rfl) rfl (by decide) (by decide) (by kernel_rfl) (by kernel_rfl) (fill_one encF encF ⟨x99, x100, x101⟩ rfl rfl rfl) ?_)
             refine wo rfl (wapI [_, _] Tryd.t54 64 rfl rfl (by decide) rfl rfl Tryd.underlying45 (by kernel_rfl) rfl rfl rfl rfl (by decide) rfl (by decide) (by unfold maxLen; skip; omega) (by skip; omega) (@List.length_append _ x0.funcs [⟨x99, x100, x101⟩]).symm (fun _ b hb => by simp [hb]) (fun b hb => by simp [hb]) (List.flatMap_append (f := encF)).symm fun v102 => ?_)
             refine wyy rfl rfl rfl (ay_fieldAddr 2 2 rfl rfl Tryd.runUnderlying47 rfl Tryd.sizeOf45 (by decide) rfl) ?_
             refine wo rfl (wst1 rfl rfl rfl rfl rfl Tryd.sizeOf45 rfl (Nat.le_of_ble_eq_true rfl) rfl (by simp) (fun _ => by simp) ?_)
             refine aops_nil ?_
             refine inB_normal ?_
             refine inB_normal ?_
             obtain ⟨m, rfl⟩ : ∃ m, n0 = m + 1 := ⟨n0 - 1, by omega⟩
             have hel : RRun 0 0 (declP l x0 k0) { x0 with funcs := x0.funcs ++ [AFunc.mk x99 x100 x101] } k101 u101 e101 := ((hr99.bind (f := fun n k => (parensP l (paramP l) k).bind fun p k => (blockP l 24 k).bind fun b k => .ok (AFunc.mk n p b) k) (hr100.bind (f := fun p k => (blockP l 24 k).bind fun b k => .ok (AFunc.mk x99 p b) k) (hr101.map (f := fun b => AFunc.mk x99 x100 b))) : RRun _ _ (funcP l (k0 + 1)) _ _ _ _).map (f := fun g => { x0 with funcs := x0.funcs ++ [g] })).eq fun _ => by unfold declP; rw [if_neg (by rw [ha7 rfl]; decide), if_neg (by rw [ha30 rfl]; decide), if_neg (by rw [ha53 rfl]; decide), if_pos ha78, if_neg (by omega)]; rfl
             have hst : ∀ z k' b' e', RRun e101 u101 (progP l m { x0 with funcs := x0.funcs ++ [AFunc.mk x99 x100 x101] } k101) z k' b' e' → RRun 0 0 (programP l) z k' b' e' := fun z k' b' e' h => hcont z k' b' e' (by rw [progP, if_neg hk5]; exact hel.bind h)
             have hgo : e101 = 0 → k0 < k101 ∧ u101 = 0 := fun h => by have h9 := declP_in hok.last (x := x0) hk0; rw [(hel.good h).2.1] at h9; exact ⟨h9.1, (hel.good h).2.2⟩
             refine ⟨({ x0 with funcs := x0.funcs ++ [AFunc.mk x99 x100 x101] }, vg, vm, v102, k101, u101, e101), ⟨hk101, he101, fun h => ?_, fun h => hst _ _ _ _ (.skip h _ _ _), fun h => ⟨(hgo h).2, m, ?_, fun z k' b' e' h2 => hst _ _ _ _ ?_⟩⟩, ?_, subA (.cons _ (.refl _)) (.refl _) (by intro x hx; simp only [List.mem_append, List.mem_cons, List.not_mem_nil, or_false] at hx ⊢; rcases hx with h | h | h | h | h | h <;> simp [h]) (sub_cons rfl (Wk.refl _) (sub_cons rfl (Wk.refl _) (sub_cons rfl (Wk.refl _) (sub_cons rfl (Wk.refl _) (sub_cons rfl (Wk.refl _) sub_nil)))))⟩
             ·simp; omega
             ·have := hgo h; show l.length ≤ m + k101; omega
             ·rw [show e101 = 0 from h, show u101 = 0 from (hgo h).2]; exact h2
             ·show (if e101 = 0 then _ else _) < (if (0 : Nat) = 0 then _ else _)
              by_cases h : e101 = 0
              ·have := hgo h; rw [if_pos h, if_pos rfl]; show l.length - k101 + 1 < l.length - k0 + 1; omega
              ·rw [if_neg h, if_pos rfl]; show 0 < l.length - k0 + 1; omega
            ·exact absurd (ha97 rfl) (by rw [ha78]; decide)
       ·refine wag rfl rfl rfl rfl rfl ?_
        refine wag rfl rfl rfl rfl rfl ?_
        refine wag rfl rfl rfl rfl rfl ?_
        refine nlnm ?_
        refine aw_seq ?_
        refine sqrg ?_
        refine wmv rfl rfl rfl rfl rfl ?_
        refine wmv rfl rfl rfl rfl rfl ?_
        refine wskip rfl rfl (by decide) ?_
        refine wskip rfl rfl (by decide) ?_
        refine wskip rfl rfl (by decide) ?_
        refine wskip rfl rfl (by decide) ?_
        refine wyy rfl rfl rfl (ay_pick rfl rfl rfl) ?_
        refine wmv rfl rfl rfl rfl rfl ?_
        refine wmv rfl rfl rfl rfl rfl ?_
        refine wmv rfl rfl rfl rfl rfl ?_
        refine wskip rfl rfl (by decide) ?_
        refine wskip rfl rfl (by decide) ?_
        refine wskip rfl rfl (by decide) ?_
        refine wskip rfl rfl (by decide) ?_
        refine wyy rfl rfl rfl (ay_pick rfl rfl rfl) ?_
        refine wyy rfl rfl rfl (ay_pick rfl rfl rfl) ?_
        refine wmv rfl rfl rfl rfl rfl ?_
        refine wmv rfl rfl rfl rfl rfl ?_
        refine wmv rfl rfl rfl rfl rfl ?_
        refine wskip rfl rfl (by decide) ?_
        refine wskip rfl rfl (by decide) ?_
        refine wskip rfl rfl (by decide) ?_
        refine wskip rfl rfl (by decide) ?_
        refine wyy rfl rfl rfl (ay_pick rfl rfl rfl) ?_
        refine wyy rfl rfl rfl (ay_pick rfl rfl rfl) ?_
        refine nlnm ?_
        refine aw_condF rfl rfl ?_
        refine aw_skip ?_
        refine then_normal ?_
        refine aw_block ?_
        refine sqrg ?_
        refine wmv rfl rfl rfl rfl rfl ?_
        refine wcP rfl rfl rfl rfl Tryd.call38 rfl (take_w [_] _ _ _ l k0 0 0 0 0 [118, 97, 114] (by decide) hok hk0) (by simp) (by simp [Sto.bl]) ?_
        rintro t104 s104 (⟨-, ha104, hm104, rfl, rfl⟩ | ⟨ha104, rfl, rfl⟩)
        ·exact absurd ha104 (by rw [(ha7 rfl)]; decide)
        ·refine wag rfl rfl rfl rfl rfl ?_
         refine nlnm ?_
         refine aw_condF rfl rfl ?_
         refine sqrg ?_
         refine wmv rfl rfl rfl rfl rfl ?_
         refine wcP rfl rfl rfl rfl Tryd.call38 rfl (take_w [_] _ _ _ l k0 0 0 0 0 [109, 117, 116, 101, 120] (by decide) hok hk0) (by simp) (by simp [Sto.bl]) ?_
         rintro t106 s106 (⟨-, ha106, hm106, rfl, rfl⟩ | ⟨ha106, rfl, rfl⟩)
         ·exact absurd ha106 (by rw [(ha30 rfl)]; decide)
         ·refine wag rfl rfl rfl rfl rfl ?_
          refine nlnm ?_
          refine aw_condF rfl rfl ?_
          refine sqrg ?_
          refine wmv rfl rfl rfl rfl rfl ?_
          refine wcP rfl rfl rfl rfl Tryd.call38 rfl (take_w [_] _ _ _ l k0 0 0 0 0 [114, 109, 117, 116, 101, 120] (by decide) hok hk0) (by simp) (by simp [Sto.bl]) ?_
          rintro t108 s108 (⟨-, ha108, hm108, rfl, rfl⟩ | ⟨ha108, rfl, rfl⟩)
          ·exact absurd ha108 (by rw [(ha53 rfl)]; decide)
          ·refine wag rfl rfl rfl rfl rfl ?_
           refine nlnm ?_
           refine aw_condF rfl rfl ?_
           refine sqrg ?_
           refine wmv rfl rfl rfl rfl rfl ?_
           refine wcP rfl rfl rfl rfl Tryd.call38 rfl (take_w [_] _ _ _ l k0 0 0 0 0 [102, 117, 110, 99] (by decide) hok hk0) (by simp) (by simp [Sto.bl]) ?_
           rintro t110 s110 (⟨-, ha110, hm110, rfl, rfl⟩ | ⟨ha110, rfl, rfl⟩)
           ·exact absurd ha110 (by rw [(ha78 rfl)]; decide)
           ·refine wag rfl rfl rfl rfl rfl ?_
            refine nlnm ?_
            refine aw_condF rfl rfl ?_
            refine aw_region ?_
            refine wmv rfl rfl rfl rfl rfl ?_
            refine wcP rfl rfl rfl rfl Tryd.call37 rfl (fail_c [_] _ _ _ l k0 0 0 0 0 4) (by simp) (by simp [Sto.bl]) ?_
            rintro t112 s112 ⟨u112, e112, hf112, rfl, rfl⟩
            obtain ⟨rfl, rfl⟩ := hf112.1 rfl
            refine aops_nil ?_
            refine inB_normal ?_
            refine inB_normal ?_
            obtain ⟨m, rfl⟩ : ∃ m, n0 = m + 1 := ⟨n0 - 1, by omega⟩
            have hel : RRun 0 0 (declP l x0 k0) x0 k0 k0 4 := .err _ _ _ _ _ (by unfold declP; rw [if_neg (by rw [ha7 rfl]; decide), if_neg (by rw [ha30 rfl]; decide), if_neg (by rw [ha53 rfl]; decide), if_neg (by rw [ha78 rfl]; decide)]) (by decide)
            have hst : ∀ z k' b' e', RRun 4 k0 (progP l m x0 k0) z k' b' e' → RRun 0 0 (programP l) z k' b' e' := fun z k' b' e' h => hcont z k' b' e' (by rw [progP, if_neg hk5]; exact hel.bind h)
            have hgo : 4 = 0 → k0 < k0 ∧ k0 = 0 := fun h => by have h9 := declP_in hok.last (x := x0) hk0; rw [(hel.good h).2.1] at h9; exact ⟨h9.1, (hel.good h).2.2⟩
            refine ⟨(x0, vg, vm, vf, k0, k0, 4), ⟨hk0, (show (4 : Nat) < 16 by decide), fun h => ?_, fun h => hst _ _ _ _ (.skip h _ _ _), fun h => ⟨(hgo h).2, m, ?_, fun z k' b' e' h2 => hst _ _ _ _ ?_⟩⟩, ?_, subA (.refl _) (.refl _) (by intro x hx; simp only [List.mem_append, List.mem_cons, List.not_mem_nil, or_false] at hx ⊢; rcases hx with h | h | h | h | h | h <;> simp [h]) (sub_cons rfl (Wk.refl _) (sub_cons rfl (Wk.refl _) (sub_cons rfl (Wk.refl _) (sub_cons rfl (Wk.refl _) (sub_cons rfl (Wk.refl _) sub_nil)))))⟩
            ·exact absurd h (show ¬ (4 : Nat) = 0 by decide)
            ·have := hgo h; show l.length ≤ m + k0; omega
            ·exact absurd h (show ¬ (4 : Nat) = 0 by decide)
            ·show (if 4 = 0 then _ else _) < (if (0 : Nat) = 0 then _ else _)
             by_cases h : 4 = 0
             ·have := hgo h; rw [if_pos h, if_pos rfl]; show l.length - k0 + 1 < l.length - k0 + 1; omega
             ·rw [if_neg h, if_pos rfl]; show 0 < l.length - k0 + 1; omega
  ·refine aw_seq ?_
   refine sqrg ?_
   refine wmv rfl rfl rfl rfl rfl ?_
   refine wyy rfl rfl rfl (ay_nilCheck rfl rfl) ?_
   refine wyy rfl rfl rfl (ay_fieldAddr 3 3 rfl rfl Tryd.runUnderlying78 rfl Tryd.sizeOf36 (by decide) rfl) ?_
   refine wyy rfl rfl rfl (ay_load_box [_] rfl rfl rfl Tryd.isAgg36 Tryd.sizeOf36 rfl (fun _ h => by cases h)) ?_
   refine wyy rfl rfl rfl (ay_cmp false rfl rfl rfl (eq_nat0 h0)) ?_
   refine wmv rfl rfl rfl rfl rfl ?_
   refine wskip rfl rfl (by decide) ?_
   refine wskip rfl rfl (by decide) ?_
   refine wskip rfl rfl (by decide) ?_
   refine wyy rfl rfl rfl (ay_pick rfl rfl rfl) ?_
   refine nlnm ?_
   refine aw_condF rfl rfl ?_
   refine aw_exit ?_
   refine then_exit ?_
   refine then_exit ?_
   refine inB_exit ?_
   refine then_normal ?_
   refine aw_seq ?_
   refine sqrg ?_
   have herr : programP l = .err b0 e0 := by
    rcases hn0 h0 with ⟨h, _⟩ | ⟨_, ⟨_, h, _⟩ | ⟨h, _⟩⟩
    ·exact absurd rfl h
    ·exact absurd h h0
    ·exact h
   have hb0 : b0 < l.length := by have h9 : (programP l).At l 0 := progP_at hok.last _ _ _ hk; rw [herr] at h9; exact h9.2.1
   refine wmv rfl rfl rfl rfl rfl ?_
   refine wyy rfl rfl rfl (ay_nilCheck rfl rfl) ?_
   refine wyy rfl rfl rfl (ay_fieldAddr 3 3 rfl rfl Tryd.runUnderlying78 rfl Tryd.sizeOf36 (by decide) rfl) ?_
   refine wyy rfl rfl rfl (ay_load_box [_] rfl rfl rfl Tryd.isAgg36 Tryd.sizeOf36 rfl (fun _ h => by cases h)) ?_
   refine wyy rfl rfl rfl (ay_cmp true rfl rfl rfl (by simp [cmpR, h0])) ?_
   refine nlnm ?_
   refine aw_condT rfl rfl ?_
   refine aw_seq ?_
   refine aw_region_drew [b3, P] (by kernel_rfl) ?_
   refine tq 0 (by kernel_rfl) rfl rfl rfl rfl (ay_build Tryd.t47 [(0, 1), (1, 1), (2, 1)] rfl .nil Tryd.underlying47 (by kernel_rfl) rfl (by kernel_rfl) rfl rfl) ?_
   refine tq 1 (by kernel_rfl) rfl rfl rfl rfl (ay_move rfl rfl) ?_
   refine tq 2 (by kernel_rfl) rfl rfl rfl rfl (ay_move rfl rfl) ?_
   refine tq 3 (by kernel_rfl) rfl rfl rfl rfl (ay_nilCheck rfl rfl) ?_
   refine tq 4 (by kernel_rfl) rfl rfl rfl rfl (ay_fieldAddr 2 2 rfl rfl Tryd.runUnderlying78 rfl Tryd.sizeOf3 (by decide) rfl) ?_
   refine tq 5 (by kernel_rfl) rfl rfl rfl rfl (ay_load_box [_] rfl rfl rfl Tryd.isAgg3 Tryd.sizeOf3 rfl (fun _ h => (mem_off.1 h).2 (by simp))) ?_
   refine tq 6 (by kernel_rfl) rfl rfl rfl rfl (ay_ix encT encT l encT_len (fun _ => rfl) b0 rfl rfl rfl rfl hb0 (by decide) Tryd.runUnderlying34 Tryd.sizeOf65) ?_
   refine tq 7 (by kernel_rfl) rfl rfl rfl rfl (ay_fieldAddr_el 3 rfl rfl Tryd.runUnderlying65 rfl Tryd.sizeOf3 (by decide)) ?_
   refine tq 8 (by kernel_rfl) rfl rfl rfl rfl (ay_load_el rfl rfl Tryd.isAgg3 Tryd.sizeOf3 rfl) ?_
   refine tq 9 (by kernel_rfl) rfl rfl rfl rfl (ay_move rfl rfl) ?_
   refine tq 10 (by kernel_rfl) rfl rfl rfl rfl (ay_nilCheck rfl rfl) ?_
   refine tq 11 (by kernel_rfl) rfl rfl rfl rfl (ay_fieldAddr 3 3 rfl rfl Tryd.runUnderlying78 rfl Tryd.sizeOf36 (by decide) rfl) ?_
   refine tq 12 (by kernel_rfl) rfl rfl rfl rfl (ay_load_box [_] rfl rfl rfl Tryd.isAgg36 Tryd.sizeOf36 rfl (fun _ h => (mem_off.1 h).2 (by simp))) ?_
   refine one 13 (by kernel_rfl) rfl rfl (wst2 rfl rfl rfl rfl rfl Tryd.sizeOf47 rfl (Nat.le_of_ble_eq_true rfl) (splice_all rfl) (by simp) (fun h => mem_off.2 ⟨by simp [Sto.bl], fun hh => by simp only [List.mem_cons, List.not_mem_nil, or_false] at hh; rcases hh with rfl | rfl <;> simp [Sto.bl] at h⟩) ?_)
   refine tq 14 (by kernel_rfl) rfl rfl rfl rfl (ay_assign rfl rfl) ?_
   refine tq 15 (by kernel_rfl) rfl rfl rfl rfl (ay_assign rfl rfl) ?_
   refine any_done (by kernel_rfl) ?_
   refine then_normal ?_
   refine aw_ret ?_
   refine then_ret ?_
   exact ⟨.inr rfl, _, ⟨bx, rw⟩, (res_three rfl (resv_wk (Wk.agg (.cons wk_nil (.cons wk_nil (.cons wk_nil .nil)))) (resv_cell [_, _] rfl rfl Tryd.isAgg47 Tryd.sizeOf47 (pk_all rfl rfl))) (resv_tmp rfl) (resv_tmp rfl)), subS_of (.cons _ (.cons _ (.cons _ (.refl _)))) (.cons _ (.cons _ (.cons _ (.refl _)))), by rw [progX_bad hlx herr hb0]; rfl, rfl⟩
 ·skip
  refine wmv rfl rfl rfl rfl rfl ?_
  refine wyy rfl rfl rfl (ay_extract rfl rfl rfl) ?_
  refine wyy rfl rfl rfl (ay_extract rfl rfl rfl) ?_
  refine wyy rfl rfl rfl (ay_extract rfl rfl rfl) ?_
  refine wag rfl rfl rfl rfl rfl ?_
  refine wag rfl rfl rfl rfl rfl ?_
  refine wag rfl rfl rfl rfl rfl ?_
  refine nlnm ?_
  refine aw_seq ?_
  refine sqrg ?_
  refine wmv rfl rfl rfl rfl rfl ?_
  refine wyy rfl rfl rfl (ay_cmp true rfl rfl rfl (by simp [cmpR, her])) ?_
  refine nlnm ?_
  refine aw_condT rfl rfl ?_
  refine sqrg ?_
  refine wyy rfl rfl rfl (ay_build Tryd.t47 [(0, 1), (1, 1), (2, 1)] rfl .nil Tryd.underlying47 (by kernel_rfl) rfl (by kernel_rfl) rfl rfl) ?_
  refine wmv rfl rfl rfl rfl rfl ?_
  refine wmv rfl rfl rfl rfl rfl ?_
  refine wo rfl (wst0 rfl rfl rfl rfl rfl Tryd.sizeOf47 rfl (Nat.le_of_ble_eq_true rfl) (splice_all rfl) (by simp) (fun _ => by simp) ?_)
  refine wag rfl rfl rfl rfl rfl ?_
  refine wag rfl rfl rfl rfl rfl ?_
  refine nlnm ?_
  refine aw_ret ?_
  refine then_ret ?_
  exact ⟨.inr rfl, _, ⟨bx, rw⟩, (res_three rfl (resv_wk (Wk.agg (.cons wk_nil (.cons wk_nil (.cons wk_nil .nil)))) (resv_cell [] rfl rfl Tryd.isAgg47 Tryd.sizeOf47 (pk_all rfl rfl))) (resv_tmp rfl) (resv_tmp rfl)), subS_of (.cons _ (.refl _)) (.refl _), by rw [progX_lex hlx]; rfl, rfl⟩
end Go.Proofs.YtflcnehhpmjipaaDoor
