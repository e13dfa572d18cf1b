import Derived.Test.YtflcnehhpmjipaaGreatDoorW6J
import Derived.Test.YtflcnehhpmjipaaGreatDoorP5J
import Derived.Test.YtflcnehhpmjipaaGreatDoorR7J
import Derived.Test.YtflcnehhpmjipaaGreatDoorW5J
set_option linter.unusedVariables false
set_option linter.unusedSimpArgs false
namespace Go.Proofs.YtflcnehhpmjipaaGreatDoor
open Go.RowKit
set_option synthInstance.maxHeartbeats 1000000
set_option synthInstance.maxSize 1000000
set_option linter.all false
set_option maxRecDepth 100000 in
set_option maxHeartbeats 3200000 in
theorem declP_c (A B : List Box) (rw : List ORow) (P : Nat) (l : List Tok) (k X : Nat) (x0 : AProg) (vg vm vf : Value) (hok : TOk l) (hk : k < l.length) : ACall Tryz.prog 36 [.c (.val (.pointer (some ⟨P, 0, none⟩))), .c (.val (.pointer (some ⟨X, 0, none⟩)))] (rowB vg ++ (rowB vm ++ (rowB vf ++ [X, P]))) (PSt (⟨X, 40, [.val vg, .val vm, .val vf]⟩ :: A) B (⟨vg, 104, 2, (x0).globals.length, (x0).globals.flatMap encG⟩ :: ⟨vm, 102, 3, (x0).mutexes.length, (x0).mutexes.flatMap encM⟩ :: ⟨vf, 65, 3, (x0).funcs.length, (x0).funcs.flatMap encF⟩ :: rw) P l k 0 0) fun t s => ∃ y vg' vm' vf' k' e', t = .tup [] ∧ Run 0 k (declP l x0 k) y k' e' ∧ k' < l.length ∧ e' < 16 ∧ s = PSt (⟨X, 40, [.val vg', .val vm', .val vf']⟩ :: A) B (⟨vg', 104, 2, (y).globals.length, (y).globals.flatMap encG⟩ :: ⟨vm', 102, 3, (y).mutexes.length, (y).mutexes.flatMap encM⟩ :: ⟨vf', 65, 3, (y).funcs.length, (y).funcs.flatMap encF⟩ :: rw) P l k' 0 e' := by
 have hlen := hok.len
 have he : (0 : Nat) < 16 := by decide
 refine acall_body Tryz.func36 rfl (Nat.le_of_ble_eq_true rfl) ?_
 show AWp Tryz.prog _ ⟨102, rowB vg ++ (rowB vm ++ (rowB vf ++ [X, P])), ⟨⟨X, 40, [.val vg, .val vm, .val vf]⟩ :: (A ++ ⟨P, 70, [.sl l.length (l.flatMap encT), .val (.int .i64 ((k : Nat) : Int)), .val (.int .i64 ((0 : Nat) : Int)), .val (.int .i64 ((0 : Nat) : Int))]⟩ :: B), ⟨vg, 104, 2, (x0).globals.length, (x0).globals.flatMap encG⟩ :: ⟨vm, 102, 3, (x0).mutexes.length, (x0).mutexes.flatMap encM⟩ :: ⟨vf, 65, 3, (x0).funcs.length, (x0).funcs.flatMap encF⟩ :: rw⟩, [(0, .c (.val (.pointer (some ⟨P, 0, none⟩)))), (1, .c (.val (.pointer (some ⟨X, 0, none⟩))))]⟩ _
 refine go 1 ?_
 refine aw_region_drew [X, P] (by kernel_rfl) ?_
 refine tks [(0, true), (1, true), (2, true), (3, true), (4, true), (5, true), (6, true), (7, true)] 4 (by kernel_rfl) ?_
 refine go 9 ?_
 refine tq 8 (by kernel_rfl) rfl rfl rfl rfl (ay_ix encT encT l encT_len (fun _ => rfl) (k) rfl rfl rfl rfl hk (by decide) Tryz.runUnderlying47 Tryz.sizeOf72) ?_
 refine tks [(9, true), (10, true), (11, true)] 0 (by kernel_rfl) ?_
 refine go 4 ?_
 refine any_done (by kernel_rfl) ?_
 refine go 6 ?_
 refine wcP rfl rfl rfl rfl Tryz.call66 rfl (kindP_w (_ :: A) _ _ _ l k 0 0 [118, 97, 114] hk) (by simp) (by simp [Sto.bl]) ?_
 rintro t1 s1 (⟨-, ha1, rfl, rfl⟩ | ⟨ha1, rfl, rfl⟩)
 ·refine go 10 ?_
  refine wyy rfl rfl rfl (ay_len_row2 [] rfl rfl rfl Tryz.runUnderlying36) ?_
  by_cases h6 : 16 ≤ x0.globals.length
  ·skip
   refine wcP rfl rfl rfl rfl Tryz.call67 rfl (limit_yes (_ :: A) _ _ _ l k 0 0 x0.globals.length 16 (by decide) h6) (by simp) (by simp [Sto.bl]) ?_
   rintro t3 s3 ⟨e3, hf3, rfl, rfl⟩
   obtain rfl := hf3.1 rfl
   refine go 10 ?_
   refine wyy rfl rfl rfl (ay_cmp true rfl rfl rfl (by rfl)) ?_
   refine go 5 ?_
   exact ⟨.inr rfl, _, PSt (⟨X, 40, [.val vg, .val vm, .val vf]⟩ :: A) B (⟨vg, 104, 2, (x0).globals.length, (x0).globals.flatMap encG⟩ :: ⟨vm, 102, 3, (x0).mutexes.length, (x0).mutexes.flatMap encM⟩ :: ⟨vf, 65, 3, (x0).funcs.length, (x0).funcs.flatMap encF⟩ :: rw) P l (k) 0 (3), res_none rfl, subS_of (.refl _) (.refl _), ⟨x0, vg, vm, vf, k, 3, rfl, .err _ _ _ _ (by unfold declP; rw [if_pos ha1, if_pos h6]) (by decide), hk, (by decide), rfl⟩⟩
  ·skip
   refine wcP rfl rfl rfl rfl Tryz.call67 rfl (limit_no (_ :: A) _ _ _ l k 0 0 x0.globals.length 16 (by decide) (by omega)) (by simp) (by simp [Sto.bl]) ?_
   rintro t5 s5 ⟨rfl, rfl⟩
   refine go 10 ?_
   refine wyy rfl rfl rfl (ay_cmp false rfl rfl rfl (by rfl)) ?_
   refine go 7 ?_
   have ht : l[k].text = bytes [118, 97, 114] := by rw [← tokAt_lt hk]; exact (wordAt_kind ha1).2
   have hm := wordP_more hok hk ha1
   refine go 4 ?_
   refine wyy rfl rfl rfl (ay_add rfl rfl rfl (by omega) (by omega)) ?_
   refine go 13 ?_
   refine wyy rfl rfl rfl (ay_streq true rfl rfl rfl (by rw [ht]; kernel_rfl)) ?_
   refine go 4 ?_
   refine aw_region_drew [] (by kernel_rfl) ?_
   refine tks [(0, true), (1, true), (2, true), (3, true), (5, true)] 7 (by kernel_rfl) ?_
   refine go 6 ?_
   refine two 4 6 (by kernel_rfl) rfl rfl rfl rfl ?_ ?_
   ·refine way rfl (by decide) (ay_load_box [] rfl rfl rfl Tryz.isAgg36 Tryz.sizeOf36 rfl (fun _ h => by cases h)) ?_
    refine one 6 (by kernel_rfl) rfl rfl (wcall [P] rfl rfl (by decide) Tryz.call69 rfl (globalP_c (_ :: A) _ _ _ l (k + 1) 0 0 hok hm (by decide)) (by intro b hb; simp at hb; subst hb; simp) (by intro b hb; simp at hb; subst hb; simp [Sto.bl]) (by intro h b hb; simp at hb; subst hb; exact offN (by simp [Sto.bl])) ?_)
    rintro t8 s8 ⟨x8, k8, e8, rfl, hr8, hk8, he8, rfl⟩
    refine one 7 (by kernel_rfl) rfl rfl (wbs Tryz.t104 [.val (.string ⟨#[]⟩), .val (.int .i64 0)] rfl rfl (by decide) (.cons rfl .nil) Tryz.underlying36 (by kernel_rfl) rfl (by decide) (by decide) (by kernel_rfl) (by kernel_rfl) (fill_one encG encG x8 rfl rfl rfl) ?_)
    refine one 8 (by kernel_rfl) rfl rfl (wapI [] Tryz.t104 24 rfl rfl (by decide) rfl rfl Tryz.underlying36 (by kernel_rfl) rfl rfl rfl rfl (by decide) rfl (by decide) (by unfold maxLen; skip; omega) (by skip; omega) (@List.length_append _ x0.globals [x8]).symm (fun _ b hb => offN (by simp [Sto.bl, hb])) (fun b hb => by simp [hb]) (List.flatMap_append (f := encG)).symm fun v9 => ?_)
    refine tks [(9, true), (10, true), (11, false)] 0 (by kernel_rfl) ?_
    refine go 4 ?_
    refine any_done (by kernel_rfl) ?_
    refine go 1 ?_
    exact ⟨.inl rfl, _, PSt (⟨X, 40, [.val v9, .val vm, .val vf]⟩ :: A) B (⟨v9, 104, 2, ({ x0 with globals := x0.globals ++ [x8] }).globals.length, ({ x0 with globals := x0.globals ++ [x8] }).globals.flatMap encG⟩ :: ⟨vm, 102, 3, ({ x0 with globals := x0.globals ++ [x8] }).mutexes.length, ({ x0 with globals := x0.globals ++ [x8] }).mutexes.flatMap encM⟩ :: ⟨vf, 65, 3, ({ x0 with globals := x0.globals ++ [x8] }).funcs.length, ({ x0 with globals := x0.globals ++ [x8] }).funcs.flatMap encF⟩ :: rw) P l (k8) 0 (e8), res_none rfl, subS_of (.refl _) (.refl _), ⟨{ x0 with globals := x0.globals ++ [x8] }, v9, vm, vf, k8, e8, rfl, (Run.from (hr8.map (f := fun g => { x0 with globals := x0.globals ++ [g] }))).eq fun _ => by unfold declP; rw [if_pos ha1, if_neg h6], hk8, he8, rfl⟩⟩
   ·refine (wcall [P] rfl rfl (by decide) Tryz.call69 rfl (globalP_c (_ :: A) _ _ _ l (k + 1) 0 0 hok hm (by decide)) (by intro b hb; simp at hb; subst hb; simp) (by intro b hb; simp at hb; subst hb; simp [Sto.bl]) (by intro h b hb; simp at hb; subst hb; exact offN (by simp [Sto.bl])) ?_)
    rintro t10 s10 ⟨x10, k10, e10, rfl, hr10, hk10, he10, rfl⟩
    refine two 4 7 (by kernel_rfl) rfl rfl rfl rfl ?_ ?_
    ·refine way rfl (by decide) (ay_load_box [] rfl rfl rfl Tryz.isAgg36 Tryz.sizeOf36 rfl (fun _ h => by cases h)) ?_
     refine one 7 (by kernel_rfl) rfl rfl (wbs Tryz.t104 [.val (.string ⟨#[]⟩), .val (.int .i64 0)] rfl rfl (by decide) (.cons rfl .nil) Tryz.underlying36 (by kernel_rfl) rfl (by decide) (by decide) (by kernel_rfl) (by kernel_rfl) (fill_one encG encG x10 rfl rfl rfl) ?_)
     refine one 8 (by kernel_rfl) rfl rfl (wapI [] Tryz.t104 24 rfl rfl (by decide) rfl rfl Tryz.underlying36 (by kernel_rfl) rfl rfl rfl rfl (by decide) rfl (by decide) (by unfold maxLen; skip; omega) (by skip; omega) (@List.length_append _ x0.globals [x10]).symm (fun _ b hb => offN (by simp [Sto.bl, hb])) (fun b hb => by simp [hb]) (List.flatMap_append (f := encG)).symm fun v11 => ?_)
     refine tks [(9, true), (10, true), (11, false)] 0 (by kernel_rfl) ?_
     refine go 4 ?_
     refine any_done (by kernel_rfl) ?_
     refine go 1 ?_
     exact ⟨.inl rfl, _, PSt (⟨X, 40, [.val v11, .val vm, .val vf]⟩ :: A) B (⟨v11, 104, 2, ({ x0 with globals := x0.globals ++ [x10] }).globals.length, ({ x0 with globals := x0.globals ++ [x10] }).globals.flatMap encG⟩ :: ⟨vm, 102, 3, ({ x0 with globals := x0.globals ++ [x10] }).mutexes.length, ({ x0 with globals := x0.globals ++ [x10] }).mutexes.flatMap encM⟩ :: ⟨vf, 65, 3, ({ x0 with globals := x0.globals ++ [x10] }).funcs.length, ({ x0 with globals := x0.globals ++ [x10] }).funcs.flatMap encF⟩ :: rw) P l (k10) 0 (e10), res_none rfl, subS_of (.refl _) (.refl _), ⟨{ x0 with globals := x0.globals ++ [x10] }, v11, vm, vf, k10, e10, rfl, (Run.from (hr10.map (f := fun g => { x0 with globals := x0.globals ++ [g] }))).eq fun _ => by unfold declP; rw [if_pos ha1, if_neg h6], hk10, he10, rfl⟩⟩
    ·refine (wbs Tryz.t104 [.val (.string ⟨#[]⟩), .val (.int .i64 0)] rfl rfl (by decide) (.cons rfl .nil) Tryz.underlying36 (by kernel_rfl) rfl (by decide) (by decide) (by kernel_rfl) (by kernel_rfl) (fill_one encG encG x10 rfl rfl rfl) ?_)
     refine one 4 (by kernel_rfl) rfl rfl (way rfl (by decide) (ay_load_box [] rfl rfl rfl Tryz.isAgg36 Tryz.sizeOf36 rfl (fun _ h => by cases h)) ?_)
     refine one 8 (by kernel_rfl) rfl rfl (wapI [] Tryz.t104 24 rfl rfl (by decide) rfl rfl Tryz.underlying36 (by kernel_rfl) rfl rfl rfl rfl (by decide) rfl (by decide) (by unfold maxLen; skip; omega) (by skip; omega) (@List.length_append _ x0.globals [x10]).symm (fun _ b hb => offN (by simp [Sto.bl, hb])) (fun b hb => by simp [hb]) (List.flatMap_append (f := encG)).symm fun v12 => ?_)
     refine tks [(9, true), (10, true), (11, false)] 0 (by kernel_rfl) ?_
     refine go 4 ?_
     refine any_done (by kernel_rfl) ?_
     refine go 1 ?_
     exact ⟨.inl rfl, _, PSt (⟨X, 40, [.val v12, .val vm, .val vf]⟩ :: A) B (⟨v12, 104, 2, ({ x0 with globals := x0.globals ++ [x10] }).globals.length, ({ x0 with globals := x0.globals ++ [x10] }).globals.flatMap encG⟩ :: ⟨vm, 102, 3, ({ x0 with globals := x0.globals ++ [x10] }).mutexes.length, ({ x0 with globals := x0.globals ++ [x10] }).mutexes.flatMap encM⟩ :: ⟨vf, 65, 3, ({ x0 with globals := x0.globals ++ [x10] }).funcs.length, ({ x0 with globals := x0.globals ++ [x10] }).funcs.flatMap encF⟩ :: rw) P l (k10) 0 (e10), res_none rfl, subS_of (.refl _) (.refl _), ⟨{ x0 with globals := x0.globals ++ [x10] }, v12, vm, vf, k10, e10, rfl, (Run.from (hr10.map (f := fun g => { x0 with globals := x0.globals ++ [g] }))).eq fun _ => by unfold declP; rw [if_pos ha1, if_neg h6], hk10, he10, rfl⟩⟩
 ·refine go 8 ?_
  refine wcP rfl rfl rfl rfl Tryz.call66 rfl (kindP_w (_ :: A) _ _ _ l k 0 0 [109, 117, 116, 101, 120] hk) (by simp) (by simp [Sto.bl]) ?_
  rintro t14 s14 (⟨-, ha14, rfl, rfl⟩ | ⟨ha14, rfl, rfl⟩)
  ·refine go 13 ?_
   refine wyy rfl rfl rfl (ay_len_row2 [_] rfl rfl rfl Tryz.runUnderlying37) ?_
   by_cases h6 : 12 ≤ x0.mutexes.length
   ·skip
    refine wcP rfl rfl rfl rfl Tryz.call67 rfl (limit_yes (_ :: A) _ _ _ l k 0 0 x0.mutexes.length 12 (by decide) h6) (by simp) (by simp [Sto.bl]) ?_
    rintro t17 s17 ⟨e17, hf17, rfl, rfl⟩
    obtain rfl := hf17.1 rfl
    refine go 10 ?_
    refine wyy rfl rfl rfl (ay_cmp true rfl rfl rfl (by rfl)) ?_
    refine go 5 ?_
    exact ⟨.inr rfl, _, PSt (⟨X, 40, [.val vg, .val vm, .val vf]⟩ :: A) B (⟨vg, 104, 2, (x0).globals.length, (x0).globals.flatMap encG⟩ :: ⟨vm, 102, 3, (x0).mutexes.length, (x0).mutexes.flatMap encM⟩ :: ⟨vf, 65, 3, (x0).funcs.length, (x0).funcs.flatMap encF⟩ :: rw) P l (k) 0 (3), res_none rfl, subS_of (.refl _) (.refl _), ⟨x0, vg, vm, vf, k, 3, rfl, .err _ _ _ _ (by unfold declP; rw [if_neg (by rw [ha1 rfl]; decide), if_pos ha14, if_pos h6]) (by decide), hk, (by decide), rfl⟩⟩
   ·skip
    refine wcP rfl rfl rfl rfl Tryz.call67 rfl (limit_no (_ :: A) _ _ _ l k 0 0 x0.mutexes.length 12 (by decide) (by omega)) (by simp) (by simp [Sto.bl]) ?_
    rintro t19 s19 ⟨rfl, rfl⟩
    refine go 10 ?_
    refine wyy rfl rfl rfl (ay_cmp false rfl rfl rfl (by rfl)) ?_
    refine go 7 ?_
    have ht : l[k].text = bytes [109, 117, 116, 101, 120] := by rw [← tokAt_lt hk]; exact (wordAt_kind ha14).2
    have hm := wordP_more hok hk ha14
    refine go 4 ?_
    refine wyy rfl rfl rfl (ay_add rfl rfl rfl (by omega) (by omega)) ?_
    refine go 13 ?_
    refine wyy rfl rfl rfl (ay_streq false rfl rfl rfl (by rw [ht]; kernel_rfl)) ?_
    refine go 6 ?_
    refine wyy rfl rfl rfl (ay_streq false rfl rfl rfl (by rw [ht]; kernel_rfl)) ?_
    refine go 4 ?_
    refine aw_region_drew [] (by kernel_rfl) ?_
    refine tks [(0, true), (1, true), (2, true), (3, true), (5, true), (6, true)] 8 (by kernel_rfl) ?_
    refine go 7 ?_
    refine tq 7 (by kernel_rfl) rfl rfl rfl rfl (ay_streq false rfl rfl rfl (by rw [ht]; kernel_rfl)) ?_
    refine two 4 8 (by kernel_rfl) rfl rfl rfl rfl ?_ ?_
    ·refine way rfl (by decide) (ay_load_box [] rfl rfl rfl Tryz.isAgg37 Tryz.sizeOf37 rfl (fun _ h => by cases h)) ?_
     refine one 8 (by kernel_rfl) rfl rfl (wcall [P] rfl rfl (by decide) Tryz.call71 rfl (mutexP_false (_ :: A) _ _ _ l (k + 1) 0 0 hok hm (by decide)) (by intro b hb; simp at hb; subst hb; simp) (by intro b hb; simp at hb; subst hb; simp [Sto.bl]) (by intro h b hb; simp at hb; subst hb; exact offN (by simp [Sto.bl])) ?_)
     rintro t23 s23 ⟨x23, k23, e23, rfl, hr23, hk23, he23, rfl⟩
     refine one 9 (by kernel_rfl) rfl rfl (wbs Tryz.t102 [.val (.string ⟨#[]⟩), .val (.bool false), .val (.int .i64 0)] rfl rfl (by decide) (.cons rfl .nil) Tryz.underlying37 (by kernel_rfl) rfl (by decide) (by decide) (by kernel_rfl) (by kernel_rfl) (fill_one encM encM x23 rfl rfl rfl) ?_)
     refine one 10 (by kernel_rfl) rfl rfl (wapI [_] Tryz.t102 32 rfl rfl (by decide) rfl rfl Tryz.underlying37 (by kernel_rfl) rfl rfl rfl rfl (by decide) rfl (by decide) (by unfold maxLen; skip; omega) (by skip; omega) (@List.length_append _ x0.mutexes [x23]).symm (fun _ b hb => offN (by simp [Sto.bl, hb])) (fun b hb => by simp [hb]) (List.flatMap_append (f := encM)).symm fun v24 => ?_)
     refine tks [(11, true), (12, true), (13, false)] 0 (by kernel_rfl) ?_
     refine go 4 ?_
     refine any_done (by kernel_rfl) ?_
     refine go 1 ?_
     exact ⟨.inl rfl, _, PSt (⟨X, 40, [.val vg, .val v24, .val vf]⟩ :: A) B (⟨vg, 104, 2, ({ x0 with mutexes := x0.mutexes ++ [x23] }).globals.length, ({ x0 with mutexes := x0.mutexes ++ [x23] }).globals.flatMap encG⟩ :: ⟨v24, 102, 3, ({ x0 with mutexes := x0.mutexes ++ [x23] }).mutexes.length, ({ x0 with mutexes := x0.mutexes ++ [x23] }).mutexes.flatMap encM⟩ :: ⟨vf, 65, 3, ({ x0 with mutexes := x0.mutexes ++ [x23] }).funcs.length, ({ x0 with mutexes := x0.mutexes ++ [x23] }).funcs.flatMap encF⟩ :: rw) P l (k23) 0 (e23), res_none rfl, subS_of (.refl _) (.refl _), ⟨{ x0 with mutexes := x0.mutexes ++ [x23] }, vg, v24, vf, k23, e23, rfl, (Run.from (hr23.map (f := fun g => { x0 with mutexes := x0.mutexes ++ [g] }))).eq fun _ => by unfold declP; rw [if_neg (by rw [ha1 rfl]; decide), if_pos ha14, if_neg h6], hk23, he23, rfl⟩⟩
    ·refine (wcall [P] rfl rfl (by decide) Tryz.call71 rfl (mutexP_false (_ :: A) _ _ _ l (k + 1) 0 0 hok hm (by decide)) (by intro b hb; simp at hb; subst hb; simp) (by intro b hb; simp at hb; subst hb; simp [Sto.bl]) (by intro h b hb; simp at hb; subst hb; exact offN (by simp [Sto.bl])) ?_)
     rintro t25 s25 ⟨x25, k25, e25, rfl, hr25, hk25, he25, rfl⟩
     refine two 4 9 (by kernel_rfl) rfl rfl rfl rfl ?_ ?_
     ·refine way rfl (by decide) (ay_load_box [] rfl rfl rfl Tryz.isAgg37 Tryz.sizeOf37 rfl (fun _ h => by cases h)) ?_
      refine one 9 (by kernel_rfl) rfl rfl (wbs Tryz.t102 [.val (.string ⟨#[]⟩), .val (.bool false), .val (.int .i64 0)] rfl rfl (by decide) (.cons rfl .nil) Tryz.underlying37 (by kernel_rfl) rfl (by decide) (by decide) (by kernel_rfl) (by kernel_rfl) (fill_one encM encM x25 rfl rfl rfl) ?_)
      refine one 10 (by kernel_rfl) rfl rfl (wapI [_] Tryz.t102 32 rfl rfl (by decide) rfl rfl Tryz.underlying37 (by kernel_rfl) rfl rfl rfl rfl (by decide) rfl (by decide) (by unfold maxLen; skip; omega) (by skip; omega) (@List.length_append _ x0.mutexes [x25]).symm (fun _ b hb => offN (by simp [Sto.bl, hb])) (fun b hb => by simp [hb]) (List.flatMap_append (f := encM)).symm fun v26 => ?_)
      refine tks [(11, true), (12, true), (13, false)] 0 (by kernel_rfl) ?_
      refine go 4 ?_
      refine any_done (by kernel_rfl) ?_
      refine go 1 ?_
      exact ⟨.inl rfl, _, PSt (⟨X, 40, [.val vg, .val v26, .val vf]⟩ :: A) B (⟨vg, 104, 2, ({ x0 with mutexes := x0.mutexes ++ [x25] }).globals.length, ({ x0 with mutexes := x0.mutexes ++ [x25] }).globals.flatMap encG⟩ :: ⟨v26, 102, 3, ({ x0 with mutexes := x0.mutexes ++ [x25] }).mutexes.length, ({ x0 with mutexes := x0.mutexes ++ [x25] }).mutexes.flatMap encM⟩ :: ⟨vf, 65, 3, ({ x0 with mutexes := x0.mutexes ++ [x25] }).funcs.length, ({ x0 with mutexes := x0.mutexes ++ [x25] }).funcs.flatMap encF⟩ :: rw) P l (k25) 0 (e25), res_none rfl, subS_of (.refl _) (.refl _), ⟨{ x0 with mutexes := x0.mutexes ++ [x25] }, vg, v26, vf, k25, e25, rfl, (Run.from (hr25.map (f := fun g => { x0 with mutexes := x0.mutexes ++ [g] }))).eq fun _ => by unfold declP; rw [if_neg (by rw [ha1 rfl]; decide), if_pos ha14, if_neg h6], hk25, he25, rfl⟩⟩
     ·refine (wbs Tryz.t102 [.val (.string ⟨#[]⟩), .val (.bool false), .val (.int .i64 0)] rfl rfl (by decide) (.cons rfl .nil) Tryz.underlying37 (by kernel_rfl) rfl (by decide) (by decide) (by kernel_rfl) (by kernel_rfl) (fill_one encM encM x25 rfl rfl rfl) ?_)
      refine one 4 (by kernel_rfl) rfl rfl (way rfl (by decide) (ay_load_box [] rfl rfl rfl Tryz.isAgg37 Tryz.sizeOf37 rfl (fun _ h => by cases h)) ?_)
      refine one 10 (by kernel_rfl) rfl rfl (wapI [_] Tryz.t102 32 rfl rfl (by decide) rfl rfl Tryz.underlying37 (by kernel_rfl) rfl rfl rfl rfl (by decide) rfl (by decide) (by unfold maxLen; skip; omega) (by skip; omega) (@List.length_append _ x0.mutexes [x25]).symm (fun _ b hb => offN (by simp [Sto.bl, hb])) (fun b hb => by simp [hb]) (List.flatMap_append (f := encM)).symm fun v27 => ?_)
      refine tks [(11, true), (12, true), (13, false)] 0 (by kernel_rfl) ?_
      refine go 4 ?_
      refine any_done (by kernel_rfl) ?_
      refine go 1 ?_
      exact ⟨.inl rfl, _, PSt (⟨X, 40, [.val vg, .val v27, .val vf]⟩ :: A) B (⟨vg, 104, 2, ({ x0 with mutexes := x0.mutexes ++ [x25] }).globals.length, ({ x0 with mutexes := x0.mutexes ++ [x25] }).globals.flatMap encG⟩ :: ⟨v27, 102, 3, ({ x0 with mutexes := x0.mutexes ++ [x25] }).mutexes.length, ({ x0 with mutexes := x0.mutexes ++ [x25] }).mutexes.flatMap encM⟩ :: ⟨vf, 65, 3, ({ x0 with mutexes := x0.mutexes ++ [x25] }).funcs.length, ({ x0 with mutexes := x0.mutexes ++ [x25] }).funcs.flatMap encF⟩ :: rw) P l (k25) 0 (e25), res_none rfl, subS_of (.refl _) (.refl _), ⟨{ x0 with mutexes := x0.mutexes ++ [x25] }, vg, v27, vf, k25, e25, rfl, (Run.from (hr25.map (f := fun g => { x0 with mutexes := x0.mutexes ++ [g] }))).eq fun _ => by unfold declP; rw [if_neg (by rw [ha1 rfl]; decide), if_pos ha14, if_neg h6], hk25, he25, rfl⟩⟩
  ·refine go 6 ?_
   refine wcP rfl rfl rfl rfl Tryz.call66 rfl (kindP_w (_ :: A) _ _ _ l k 0 0 [114, 109, 117, 116, 101, 120] hk) (by simp) (by simp [Sto.bl]) ?_
   rintro t29 s29 (⟨-, ha29, rfl, rfl⟩ | ⟨ha29, rfl, rfl⟩)
   ·refine go 10 ?_
    refine wyy rfl rfl rfl (ay_len_row2 [_] rfl rfl rfl Tryz.runUnderlying37) ?_
    by_cases h6 : 12 ≤ x0.mutexes.length
    ·skip
     refine wcP rfl rfl rfl rfl Tryz.call67 rfl (limit_yes (_ :: A) _ _ _ l k 0 0 x0.mutexes.length 12 (by decide) h6) (by simp) (by simp [Sto.bl]) ?_
     rintro t31 s31 ⟨e31, hf31, rfl, rfl⟩
     obtain rfl := hf31.1 rfl
     refine go 10 ?_
     refine wyy rfl rfl rfl (ay_cmp true rfl rfl rfl (by rfl)) ?_
     refine go 5 ?_
     exact ⟨.inr rfl, _, PSt (⟨X, 40, [.val vg, .val vm, .val vf]⟩ :: A) B (⟨vg, 104, 2, (x0).globals.length, (x0).globals.flatMap encG⟩ :: ⟨vm, 102, 3, (x0).mutexes.length, (x0).mutexes.flatMap encM⟩ :: ⟨vf, 65, 3, (x0).funcs.length, (x0).funcs.flatMap encF⟩ :: rw) P l (k) 0 (3), res_none rfl, subS_of (.refl _) (.refl _), ⟨x0, vg, vm, vf, k, 3, rfl, .err _ _ _ _ (by unfold declP; rw [if_neg (by rw [ha1 rfl]; decide), if_neg (by rw [ha14 rfl]; decide), if_pos ha29, if_pos h6]) (by decide), hk, (by decide), rfl⟩⟩
    ·skip
     refine wcP rfl rfl rfl rfl Tryz.call67 rfl (limit_no (_ :: A) _ _ _ l k 0 0 x0.mutexes.length 12 (by decide) (by omega)) (by simp) (by simp [Sto.bl]) ?_
     rintro t33 s33 ⟨rfl, rfl⟩
     refine go 10 ?_
     refine wyy rfl rfl rfl (ay_cmp false rfl rfl rfl (by rfl)) ?_
     refine go 7 ?_
     have ht : l[k].text = bytes [114, 109, 117, 116, 101, 120] := by rw [← tokAt_lt hk]; exact (wordAt_kind ha29).2
     have hm := wordP_more hok hk ha29
     refine go 4 ?_
     refine wyy rfl rfl rfl (ay_add rfl rfl rfl (by omega) (by omega)) ?_
     refine go 13 ?_
     refine wyy rfl rfl rfl (ay_streq false rfl rfl rfl (by rw [ht]; kernel_rfl)) ?_
     refine go 6 ?_
     refine wyy rfl rfl rfl (ay_streq false rfl rfl rfl (by rw [ht]; kernel_rfl)) ?_
     refine go 4 ?_
     refine aw_region_drew [] (by kernel_rfl) ?_
     refine tks [(0, true), (1, true), (2, true), (3, true), (5, true), (6, true)] 8 (by kernel_rfl) ?_
     refine go 7 ?_
     refine tq 7 (by kernel_rfl) rfl rfl rfl rfl (ay_streq true rfl rfl rfl (by rw [ht]; kernel_rfl)) ?_
     refine two 4 8 (by kernel_rfl) rfl rfl rfl rfl ?_ ?_
     ·refine way rfl (by decide) (ay_load_box [] rfl rfl rfl Tryz.isAgg37 Tryz.sizeOf37 rfl (fun _ h => by cases h)) ?_
      refine one 8 (by kernel_rfl) rfl rfl (wcall [P] rfl rfl (by decide) Tryz.call71 rfl (mutexP_true (_ :: A) _ _ _ l (k + 1) 0 0 hok hm (by decide)) (by intro b hb; simp at hb; subst hb; simp) (by intro b hb; simp at hb; subst hb; simp [Sto.bl]) (by intro h b hb; simp at hb; subst hb; exact offN (by simp [Sto.bl])) ?_)
      rintro t37 s37 ⟨x37, k37, e37, rfl, hr37, hk37, he37, rfl⟩
      refine one 9 (by kernel_rfl) rfl rfl (wbs Tryz.t102 [.val (.string ⟨#[]⟩), .val (.bool false), .val (.int .i64 0)] rfl rfl (by decide) (.cons rfl .nil) Tryz.underlying37 (by kernel_rfl) rfl (by decide) (by decide) (by kernel_rfl) (by kernel_rfl) (fill_one encM encM x37 rfl rfl rfl) ?_)
      refine one 10 (by kernel_rfl) rfl rfl (wapI [_] Tryz.t102 32 rfl rfl (by decide) rfl rfl Tryz.underlying37 (by kernel_rfl) rfl rfl rfl rfl (by decide) rfl (by decide) (by unfold maxLen; skip; omega) (by skip; omega) (@List.length_append _ x0.mutexes [x37]).symm (fun _ b hb => offN (by simp [Sto.bl, hb])) (fun b hb => by simp [hb]) (List.flatMap_append (f := encM)).symm fun v38 => ?_)
      refine tks [(11, true), (12, true), (13, false)] 0 (by kernel_rfl) ?_
      refine go 4 ?_
      refine any_done (by kernel_rfl) ?_
      refine go 1 ?_
      exact ⟨.inl rfl, _, PSt (⟨X, 40, [.val vg, .val v38, .val vf]⟩ :: A) B (⟨vg, 104, 2, ({ x0 with mutexes := x0.mutexes ++ [x37] }).globals.length, ({ x0 with mutexes := x0.mutexes ++ [x37] }).globals.flatMap encG⟩ :: ⟨v38, 102, 3, ({ x0 with mutexes := x0.mutexes ++ [x37] }).mutexes.length, ({ x0 with mutexes := x0.mutexes ++ [x37] }).mutexes.flatMap encM⟩ :: ⟨vf, 65, 3, ({ x0 with mutexes := x0.mutexes ++ [x37] }).funcs.length, ({ x0 with mutexes := x0.mutexes ++ [x37] }).funcs.flatMap encF⟩ :: rw) P l (k37) 0 (e37), res_none rfl, subS_of (.refl _) (.refl _), ⟨{ x0 with mutexes := x0.mutexes ++ [x37] }, vg, v38, vf, k37, e37, rfl, (Run.from (hr37.map (f := fun g => { x0 with mutexes := x0.mutexes ++ [g] }))).eq fun _ => by unfold declP; rw [if_neg (by rw [ha1 rfl]; decide), if_neg (by rw [ha14 rfl]; decide), if_pos ha29, if_neg h6], hk37, he37, rfl⟩⟩
     ·refine (wcall [P] rfl rfl (by decide) Tryz.call71 rfl (mutexP_true (_ :: A) _ _ _ l (k + 1) 0 0 hok hm (by decide)) (by intro b hb; simp at hb; subst hb; simp) (by intro b hb; simp at hb; subst hb; simp [Sto.bl]) (by intro h b hb; simp at hb; subst hb; exact offN (by simp [Sto.bl])) ?_)
      rintro t39 s39 ⟨x39, k39, e39, rfl, hr39, hk39, he39, rfl⟩
      refine two 4 9 (by kernel_rfl) rfl rfl rfl rfl ?_ ?_
      ·refine way rfl (by decide) (ay_load_box [] rfl rfl rfl Tryz.isAgg37 Tryz.sizeOf37 rfl (fun _ h => by cases h)) ?_
       refine one 9 (by kernel_rfl) rfl rfl (wbs Tryz.t102 [.val (.string ⟨#[]⟩), .val (.bool false), .val (.int .i64 0)] rfl rfl (by decide) (.cons rfl .nil) Tryz.underlying37 (by kernel_rfl) rfl (by decide) (by decide) (by kernel_rfl) (by kernel_rfl) (fill_one encM encM x39 rfl rfl rfl) ?_)
       refine one 10 (by kernel_rfl) rfl rfl (wapI [_] Tryz.t102 32 rfl rfl (by decide) rfl rfl Tryz.underlying37 (by kernel_rfl) rfl rfl rfl rfl (by decide) rfl (by decide) (by unfold maxLen; skip; omega) (by skip; omega) (@List.length_append _ x0.mutexes [x39]).symm (fun _ b hb => offN (by simp [Sto.bl, hb])) (fun b hb => by simp [hb]) (List.flatMap_append (f := encM)).symm fun v40 => ?_)
       refine tks [(11, true), (12, true), (13, false)] 0 (by kernel_rfl) ?_
       refine go 4 ?_
       refine any_done (by kernel_rfl) ?_
       refine go 1 ?_
       exact ⟨.inl rfl, _, PSt (⟨X, 40, [.val vg, .val v40, .val vf]⟩ :: A) B (⟨vg, 104, 2, ({ x0 with mutexes := x0.mutexes ++ [x39] }).globals.length, ({ x0 with mutexes := x0.mutexes ++ [x39] }).globals.flatMap encG⟩ :: ⟨v40, 102, 3, ({ x0 with mutexes := x0.mutexes ++ [x39] }).mutexes.length, ({ x0 with mutexes := x0.mutexes ++ [x39] }).mutexes.flatMap encM⟩ :: ⟨vf, 65, 3, ({ x0 with mutexes := x0.mutexes ++ [x39] }).funcs.length, ({ x0 with mutexes := x0.mutexes ++ [x39] }).funcs.flatMap encF⟩ :: rw) P l (k39) 0 (e39), res_none rfl, subS_of (.refl _) (.refl _), ⟨{ x0 with mutexes := x0.mutexes ++ [x39] }, vg, v40, vf, k39, e39, rfl, (Run.from (hr39.map (f := fun g => { x0 with mutexes := x0.mutexes ++ [g] }))).eq fun _ => by unfold declP; rw [if_neg (by rw [ha1 rfl]; decide), if_neg (by rw [ha14 rfl]; decide), if_pos ha29, if_neg h6], hk39, he39, rfl⟩⟩
      ·refine (wbs Tryz.t102 [.val (.string ⟨#[]⟩), .val (.bool false), .val (.int .i64 0)] rfl rfl (by decide) (.cons rfl .nil) Tryz.underlying37 (by kernel_rfl) rfl (by decide) (by decide) (by kernel_rfl) (by kernel_rfl) (fill_one encM encM x39 rfl rfl rfl) ?_)
       refine one 4 (by kernel_rfl) rfl rfl (way rfl (by decide) (ay_load_box [] rfl rfl rfl Tryz.isAgg37 Tryz.sizeOf37 rfl (fun _ h => by cases h)) ?_)
       refine one 10 (by kernel_rfl) rfl rfl (wapI [_] Tryz.t102 32 rfl rfl (by decide) rfl rfl Tryz.underlying37 (by kernel_rfl) rfl rfl rfl rfl (by decide) rfl (by decide) (by unfold maxLen; skip; omega) (by skip; omega) (@List.length_append _ x0.mutexes [x39]).symm (fun _ b hb => offN (by simp [Sto.bl, hb])) (fun b hb => by simp [hb]) (List.flatMap_append (f := encM)).symm fun v41 => ?_)
       refine tks [(11, true), (12, true), (13, false)] 0 (by kernel_rfl) ?_
       refine go 4 ?_
       refine any_done (by kernel_rfl) ?_
       refine go 1 ?_
       exact ⟨.inl rfl, _, PSt (⟨X, 40, [.val vg, .val v41, .val vf]⟩ :: A) B (⟨vg, 104, 2, ({ x0 with mutexes := x0.mutexes ++ [x39] }).globals.length, ({ x0 with mutexes := x0.mutexes ++ [x39] }).globals.flatMap encG⟩ :: ⟨v41, 102, 3, ({ x0 with mutexes := x0.mutexes ++ [x39] }).mutexes.length, ({ x0 with mutexes := x0.mutexes ++ [x39] }).mutexes.flatMap encM⟩ :: ⟨vf, 65, 3, ({ x0 with mutexes := x0.mutexes ++ [x39] }).funcs.length, ({ x0 with mutexes := x0.mutexes ++ [x39] }).funcs.flatMap encF⟩ :: rw) P l (k39) 0 (e39), res_none rfl, subS_of (.refl _) (.refl _), ⟨{ x0 with mutexes := x0.mutexes ++ [x39] }, vg, v41, vf, k39, e39, rfl, (Run.from (hr39.map (f := fun g => { x0 with mutexes := x0.mutexes ++ [g] }))).eq fun _ => by unfold declP; rw [if_neg (by rw [ha1 rfl]; decide), if_neg (by rw [ha14 rfl]; decide), if_pos ha29, if_neg h6], hk39, he39, rfl⟩⟩
   ·refine go 7 ?_
    refine wcP rfl rfl rfl rfl Tryz.call66 rfl (kindP_w (_ :: A) _ _ _ l k 0 0 [102, 117, 110, 99] hk) (by simp) (by simp [Sto.bl]) ?_
    rintro t43 s43 (⟨-, ha43, rfl, rfl⟩ | ⟨ha43, rfl, rfl⟩)
    ·refine go 10 ?_
     refine wyy rfl rfl rfl (ay_len_row2 [_, _] rfl rfl rfl Tryz.runUnderlying38) ?_
     by_cases h6 : 16 ≤ x0.funcs.length
     ·skip
      refine wcP rfl rfl rfl rfl Tryz.call67 rfl (limit_yes (_ :: A) _ _ _ l k 0 0 x0.funcs.length 16 (by decide) h6) (by simp) (by simp [Sto.bl]) ?_
      rintro t45 s45 ⟨e45, hf45, rfl, rfl⟩
      obtain rfl := hf45.1 rfl
      refine go 10 ?_
      refine wyy rfl rfl rfl (ay_cmp true rfl rfl rfl (by rfl)) ?_
      refine go 5 ?_
      exact ⟨.inr rfl, _, PSt (⟨X, 40, [.val vg, .val vm, .val vf]⟩ :: A) B (⟨vg, 104, 2, (x0).globals.length, (x0).globals.flatMap encG⟩ :: ⟨vm, 102, 3, (x0).mutexes.length, (x0).mutexes.flatMap encM⟩ :: ⟨vf, 65, 3, (x0).funcs.length, (x0).funcs.flatMap encF⟩ :: rw) P l (k) 0 (3), res_none rfl, subS_of (.refl _) (.refl _), ⟨x0, vg, vm, vf, k, 3, rfl, .err _ _ _ _ (by unfold declP; rw [if_neg (by rw [ha1 rfl]; decide), if_neg (by rw [ha14 rfl]; decide), if_neg (by rw [ha29 rfl]; decide), if_pos ha43, if_pos h6]) (by decide), hk, (by decide), rfl⟩⟩
     ·skip
      refine wcP rfl rfl rfl rfl Tryz.call67 rfl (limit_no (_ :: A) _ _ _ l k 0 0 x0.funcs.length 16 (by decide) (by omega)) (by simp) (by simp [Sto.bl]) ?_
      rintro t47 s47 ⟨rfl, rfl⟩
      refine go 10 ?_
      refine wyy rfl rfl rfl (ay_cmp false rfl rfl rfl (by rfl)) ?_
      refine go 7 ?_
      have ht : l[k].text = bytes [102, 117, 110, 99] := by rw [← tokAt_lt hk]; exact (wordAt_kind ha43).2
      have hm := wordP_more hok hk ha43
      refine go 4 ?_
      refine wyy rfl rfl rfl (ay_add rfl rfl rfl (by omega) (by omega)) ?_
      refine go 13 ?_
      refine wyy rfl rfl rfl (ay_streq false rfl rfl rfl (by rw [ht]; kernel_rfl)) ?_
      refine go 6 ?_
      refine wyy rfl rfl rfl (ay_streq true rfl rfl rfl (by rw [ht]; kernel_rfl)) ?_
      refine go 4 ?_
      refine aw_region_drew [] (by kernel_rfl) ?_
      refine tks [(0, true), (1, true), (2, true), (3, true), (5, true)] 7 (by kernel_rfl) ?_
      refine go 6 ?_
      refine two 4 6 (by kernel_rfl) rfl rfl rfl rfl ?_ ?_
      ·refine way rfl (by decide) (ay_load_box [] rfl rfl rfl Tryz.isAgg38 Tryz.sizeOf38 rfl (fun _ h => by cases h)) ?_
       refine one 6 (by kernel_rfl) rfl rfl (wcall [P] rfl rfl (by decide) Tryz.call70 rfl (funcP_c (_ :: A) _ _ _ l (k + 1) 0 hok hm (by decide)) (by intro b hb; simp at hb; subst hb; simp) (by intro b hb; simp at hb; subst hb; simp [Sto.bl]) (by intro h b hb; simp at hb; subst hb; exact offN (by simp [Sto.bl])) ?_)
       rintro t51 s51 ⟨x51, k51, e51, rfl, hr51, hk51, he51, rfl⟩
       refine one 7 (by kernel_rfl) rfl rfl (wbs Tryz.t65 [.val (.string ⟨#[]⟩), .val (.slice none 0 0), .val (.slice none 0 0)] rfl rfl (by decide) (.cons rfl .nil) Tryz.underlying38 (by kernel_rfl) rfl (by decide) (by decide) (by kernel_rfl) (by kernel_rfl) (fill_one encF encF x51 rfl rfl rfl) ?_)
       refine one 8 (by kernel_rfl) rfl rfl (wapI [_, _] Tryz.t65 64 rfl rfl (by decide) rfl rfl Tryz.underlying38 (by kernel_rfl) rfl rfl rfl rfl (by decide) rfl (by decide) (by unfold maxLen; skip; omega) (by skip; omega) (@List.length_append _ x0.funcs [x51]).symm (fun _ b hb => offN (by simp [Sto.bl, hb])) (fun b hb => by simp [hb]) (List.flatMap_append (f := encF)).symm fun v52 => ?_)
       refine tks [(9, true), (10, true), (11, false)] 0 (by kernel_rfl) ?_
       refine go 4 ?_
       refine any_done (by kernel_rfl) ?_
       refine go 1 ?_
       exact ⟨.inl rfl, _, PSt (⟨X, 40, [.val vg, .val vm, .val v52]⟩ :: A) B (⟨vg, 104, 2, ({ x0 with funcs := x0.funcs ++ [x51] }).globals.length, ({ x0 with funcs := x0.funcs ++ [x51] }).globals.flatMap encG⟩ :: ⟨vm, 102, 3, ({ x0 with funcs := x0.funcs ++ [x51] }).mutexes.length, ({ x0 with funcs := x0.funcs ++ [x51] }).mutexes.flatMap encM⟩ :: ⟨v52, 65, 3, ({ x0 with funcs := x0.funcs ++ [x51] }).funcs.length, ({ x0 with funcs := x0.funcs ++ [x51] }).funcs.flatMap encF⟩ :: rw) P l (k51) 0 (e51), res_none rfl, subS_of (.refl _) (.refl _), ⟨{ x0 with funcs := x0.funcs ++ [x51] }, vg, vm, v52, k51, e51, rfl, (Run.from (hr51.map (f := fun g => { x0 with funcs := x0.funcs ++ [g] }))).eq fun _ => by unfold declP; rw [if_neg (by rw [ha1 rfl]; decide), if_neg (by rw [ha14 rfl]; decide), if_neg (by rw [ha29 rfl]; decide), if_pos ha43, if_neg h6], hk51, he51, rfl⟩⟩
      ·refine (wcall [P] rfl rfl (by decide) Tryz.call70 rfl (funcP_c (_ :: A) _ _ _ l (k + 1) 0 hok hm (by decide)) (by intro b hb; simp at hb; subst hb; simp) (by intro b hb; simp at hb; subst hb; simp [Sto.bl]) (by intro h b hb; simp at hb; subst hb; exact offN (by simp [Sto.bl])) ?_)
       rintro t53 s53 ⟨x53, k53, e53, rfl, hr53, hk53, he53, rfl⟩
       refine two 4 7 (by kernel_rfl) rfl rfl rfl rfl ?_ ?_
       ·refine way rfl (by decide) (ay_load_box [] rfl rfl rfl Tryz.isAgg38 Tryz.sizeOf38 rfl (fun _ h => by cases h)) ?_
        refine one 7 (by kernel_rfl) rfl rfl (wbs Tryz.t65 [.val (.string ⟨#[]⟩), .val (.slice none 0 0), .val (.slice none 0 0)] rfl rfl (by decide) (.cons rfl .nil) Tryz.underlying38 (by kernel_rfl) rfl (by decide) (by decide) (by kernel_rfl) (by kernel_rfl) (fill_one encF encF x53 rfl rfl rfl) ?_)
        refine one 8 (by kernel_rfl) rfl rfl (wapI [_, _] Tryz.t65 64 rfl rfl (by decide) rfl rfl Tryz.underlying38 (by kernel_rfl) rfl rfl rfl rfl (by decide) rfl (by decide) (by unfold maxLen; skip; omega) (by skip; omega) (@List.length_append _ x0.funcs [x53]).symm (fun _ b hb => offN (by simp [Sto.bl, hb])) (fun b hb => by simp [hb]) (List.flatMap_append (f := encF)).symm fun v54 => ?_)
        refine tks [(9, true), (10, true), (11, false)] 0 (by kernel_rfl) ?_
        refine go 4 ?_
        refine any_done (by kernel_rfl) ?_
        refine go 1 ?_
        exact ⟨.inl rfl, _, PSt (⟨X, 40, [.val vg, .val vm, .val v54]⟩ :: A) B (⟨vg, 104, 2, ({ x0 with funcs := x0.funcs ++ [x53] }).globals.length, ({ x0 with funcs := x0.funcs ++ [x53] }).globals.flatMap encG⟩ :: ⟨vm, 102, 3, ({ x0 with funcs := x0.funcs ++ [x53] }).mutexes.length, ({ x0 with funcs := x0.funcs ++ [x53] }).mutexes.flatMap encM⟩ :: ⟨v54, 65, 3, ({ x0 with funcs := x0.funcs ++ [x53] }).funcs.length, ({ x0 with funcs := x0.funcs ++ [x53] }).funcs.flatMap encF⟩ :: rw) P l (k53) 0 (e53), res_none rfl, subS_of (.refl _) (.refl _), ⟨{ x0 with funcs := x0.funcs ++ [x53] }, vg, vm, v54, k53, e53, rfl, (Run.from (hr53.map (f := fun g => { x0 with funcs := x0.funcs ++ [g] }))).eq fun _ => by unfold declP; rw [if_neg (by rw [ha1 rfl]; decide), if_neg (by rw [ha14 rfl]; decide), if_neg (by rw [ha29 rfl]; decide), if_pos ha43, if_neg h6], hk53, he53, rfl⟩⟩
       ·refine (wbs Tryz.t65 [.val (.string ⟨#[]⟩), .val (.slice none 0 0), .val (.slice none 0 0)] rfl rfl (by decide) (.cons rfl .nil) Tryz.underlying38 (by kernel_rfl) rfl (by decide) (by decide) (by kernel_rfl) (by kernel_rfl) (fill_one encF encF x53 rfl rfl rfl) ?_)
        refine one 4 (by kernel_rfl) rfl rfl (way rfl (by decide) (ay_load_box [] rfl rfl rfl Tryz.isAgg38 Tryz.sizeOf38 rfl (fun _ h => by cases h)) ?_)
        refine one 8 (by kernel_rfl) rfl rfl (wapI [_, _] Tryz.t65 64 rfl rfl (by decide) rfl rfl Tryz.underlying38 (by kernel_rfl) rfl rfl rfl rfl (by decide) rfl (by decide) (by unfold maxLen; skip; omega) (by skip; omega) (@List.length_append _ x0.funcs [x53]).symm (fun _ b hb => offN (by simp [Sto.bl, hb])) (fun b hb => by simp [hb]) (List.flatMap_append (f := encF)).symm fun v55 => ?_)
        refine tks [(9, true), (10, true), (11, false)] 0 (by kernel_rfl) ?_
        refine go 4 ?_
        refine any_done (by kernel_rfl) ?_
        refine go 1 ?_
        exact ⟨.inl rfl, _, PSt (⟨X, 40, [.val vg, .val vm, .val v55]⟩ :: A) B (⟨vg, 104, 2, ({ x0 with funcs := x0.funcs ++ [x53] }).globals.length, ({ x0 with funcs := x0.funcs ++ [x53] }).globals.flatMap encG⟩ :: ⟨vm, 102, 3, ({ x0 with funcs := x0.funcs ++ [x53] }).mutexes.length, ({ x0 with funcs := x0.funcs ++ [x53] }).mutexes.flatMap encM⟩ :: ⟨v55, 65, 3, ({ x0 with funcs := x0.funcs ++ [x53] }).funcs.length, ({ x0 with funcs := x0.funcs ++ [x53] }).funcs.flatMap encF⟩ :: rw) P l (k53) 0 (e53), res_none rfl, subS_of (.refl _) (.refl _), ⟨{ x0 with funcs := x0.funcs ++ [x53] }, vg, vm, v55, k53, e53, rfl, (Run.from (hr53.map (f := fun g => { x0 with funcs := x0.funcs ++ [g] }))).eq fun _ => by unfold declP; rw [if_neg (by rw [ha1 rfl]; decide), if_neg (by rw [ha14 rfl]; decide), if_neg (by rw [ha29 rfl]; decide), if_pos ha43, if_neg h6], hk53, he53, rfl⟩⟩
    ·refine go 6 ?_
     refine wcP rfl rfl rfl rfl Tryz.call68 rfl (failP_c (_ :: A) _ _ _ l k 0 0 4) (by simp) (by simp [Sto.bl]) ?_
     rintro t57 s57 ⟨e57, hf57, rfl, rfl⟩
     obtain rfl := hf57.1 rfl
     refine go 10 ?_
     refine wyy rfl rfl rfl (ay_cmp true rfl rfl rfl (by rfl)) ?_
     refine go 5 ?_
     exact ⟨.inr rfl, _, PSt (⟨X, 40, [.val vg, .val vm, .val vf]⟩ :: A) B (⟨vg, 104, 2, (x0).globals.length, (x0).globals.flatMap encG⟩ :: ⟨vm, 102, 3, (x0).mutexes.length, (x0).mutexes.flatMap encM⟩ :: ⟨vf, 65, 3, (x0).funcs.length, (x0).funcs.flatMap encF⟩ :: rw) P l (k) 0 (4), res_none rfl, subS_of (.refl _) (.refl _), ⟨x0, vg, vm, vf, k, 4, rfl, .err _ _ _ _ (by unfold declP; rw [if_neg (by rw [ha1 rfl]; decide), if_neg (by rw [ha14 rfl]; decide), if_neg (by rw [ha29 rfl]; decide), if_neg (by rw [ha43 rfl]; decide)]) (by decide), hk, (by decide), rfl⟩⟩
end Go.Proofs.YtflcnehhpmjipaaGreatDoor
namespace Go.Proofs.YtflcnehhpmjipaaGreatDoor
open Go.RowKit
set_option synthInstance.maxHeartbeats 1000000
set_option synthInstance.maxSize 1000000
set_option linter.all false
set_option maxRecDepth 100000 in
set_option maxHeartbeats 3200000 in
theorem pProgram_c (bs : List UInt8) (m : Int) (s : Sto) : ACall Tryz.prog 17 [srcF bs m] [] s fun t s' => t = .tup [.agg (encPr (progX bs).1), .c (.val (.int .i64 ((progX bs).2.1 : Int))), .c (.val (.int .i64 ((progX bs).2.2 : Int)))] ∧ s' = s := by
 obtain ⟨bx, rw⟩ := s
 refine acall_body Tryz.func17 rfl (Nat.le_of_ble_eq_true rfl) ?_
 show AWp Tryz.prog _ ⟨63, [], ⟨bx, rw⟩, [(0, srcF bs m)]⟩ _
 refine go 10 fun b1 => ?_
 refine wo rfl (wcallE 0 [] rfl rfl (by decide) Tryz.call35 rfl rfl (tLex_c bs m _) (fun _ h => by cases h) (fun _ h => by cases h) (fun _ _ h => by cases h) ?_)
 rintro t1 s1 ⟨⟨l, hlx, rfl, hfew⟩ | ⟨p0, er, hlx, rfl, her⟩, rfl⟩
 ·have hok := TOk.of hlx
  have hlen := hok.len
  have hk : 0 < l.length := hok.last.1
  have he : (0 : Nat) < 16 := by decide
  refine go 13 ?_
  refine wyy rfl rfl rfl (ay_cmp false rfl rfl rfl (by rfl)) ?_
  refine go 20 fun P b3 => ?_
  refine wrow 65 3 ?_
  refine wrow 102 3 ?_
  refine wrow 104 2 ?_
  refine aw_loop (fun g : AProg × Value × Value × Value × Nat × Nat => (⟨63, rowB g.2.1 ++ (rowB g.2.2.1 ++ (rowB g.2.2.2.1 ++ [b3, P, b1])), ⟨⟨b3, 40, [.val g.2.1, .val g.2.2.1, .val g.2.2.2.1]⟩ :: ⟨P, 70, [.sl l.length (l.flatMap encT), .val (.int .i64 (((g.2.2.2.2.1) : Nat) : Int)), .val (.int .i64 (((0) : Nat) : Int)), .val (.int .i64 (((g.2.2.2.2.2) : Nat) : Int))]⟩ :: ⟨b1, 40, [.val (.slice none 0 0), .val (.slice none 0 0), .val (.slice none 0 0)]⟩ :: bx, ⟨g.2.1, 104, 2, (g.1).globals.length, (g.1).globals.flatMap encG⟩ :: ⟨g.2.2.1, 102, 3, (g.1).mutexes.length, (g.1).mutexes.flatMap encM⟩ :: ⟨g.2.2.2.1, 65, 3, (g.1).funcs.length, (g.1).funcs.flatMap encF⟩ :: rw⟩, [(0, srcF bs m), (9, .c (.val (.pointer (some ⟨b3, 0, none⟩)))), (8, .c (.val (.pointer (some ⟨P, 0, none⟩)))), (6, .c (.val (.int .i64 (bs.length : Int)))), (5, .c (.sl l.length (l.flatMap encT))), (2, .c (.val (.pointer (some ⟨b1, 0, none⟩))))]⟩ : AS)) (fun g => g.2.2.2.2.1 < l.length ∧ g.2.2.2.2.2 < 16 ∧ (g.2.2.2.2.2 ≠ 0 → Run 0 0 (programP l) g.1 g.2.2.2.2.1 g.2.2.2.2.2) ∧ (g.2.2.2.2.2 = 0 → ∃ n, l.length ≤ n + g.2.2.2.2.1 ∧ ∀ z k' e', Run 0 g.2.2.2.2.1 (progP l n g.1 g.2.2.2.2.1) z k' e' → Run 0 0 (programP l) z k' e')) (fun g => if g.2.2.2.2.2 = 0 then l.length - g.2.2.2.2.1 + 1 else 0) (⟨[], [], []⟩, .slice none 0 0, .slice none 0 0, .slice none 0 0, 0, 0) (subA (.refl _) (.refl _) (by intro x hx; simpa [rowB, Value.ownBlock] using hx) (sub_cons rfl (Wk.refl _) (sub_cons rfl (Wk.refl _) (sub_cons rfl (Wk.refl _) (sub_cons rfl (Wk.refl _) (sub_cons rfl (Wk.refl _) (sub_cons rfl (Wk.refl _) sub_nil))))))) ⟨hk, he, fun h => absurd rfl h, fun _ => ⟨l.length, Nat.le_add_right _ _, fun z k' e' h2 => h2⟩⟩ ?_
  rintro ⟨x0, vg, vm, vf, k0, e0⟩ ⟨hk0, he0, hn0, hc0⟩
  dsimp only at hk0 he0 hn0 hc0
  show AWp Tryz.prog _ (⟨63, rowB vg ++ (rowB vm ++ (rowB vf ++ [b3, P, b1])), ⟨⟨b3, 40, [.val vg, .val vm, .val vf]⟩ :: ⟨P, 70, [.sl l.length (l.flatMap encT), .val (.int .i64 (((k0) : Nat) : Int)), .val (.int .i64 (((0) : Nat) : Int)), .val (.int .i64 (((e0) : Nat) : Int))]⟩ :: ⟨b1, 40, [.val (.slice none 0 0), .val (.slice none 0 0), .val (.slice none 0 0)]⟩ :: bx, ⟨vg, 104, 2, (x0).globals.length, (x0).globals.flatMap encG⟩ :: ⟨vm, 102, 3, (x0).mutexes.length, (x0).mutexes.flatMap encM⟩ :: ⟨vf, 65, 3, (x0).funcs.length, (x0).funcs.flatMap encF⟩ :: rw⟩, [(0, srcF bs m), (9, .c (.val (.pointer (some ⟨b3, 0, none⟩)))), (8, .c (.val (.pointer (some ⟨P, 0, none⟩)))), (6, .c (.val (.int .i64 (bs.length : Int)))), (5, .c (.sl l.length (l.flatMap encT))), (2, .c (.val (.pointer (some ⟨b1, 0, none⟩))))]⟩ : AS) _
  by_cases h0 : e0 = 0
  ·subst h0
   obtain ⟨n0, hn1, hcont⟩ := hc0 rfl
   obtain ⟨q, rfl⟩ : ∃ q, n0 = q + 1 := ⟨n0 - 1, by omega⟩
   by_cases h5 : l[k0].kind = 5
   ·skip
    refine go 7 ?_
    refine wyy rfl rfl rfl (ay_cmp true rfl rfl rfl (by rfl)) ?_
    refine go 6 ?_
    refine wyy rfl rfl rfl (ay_ix encT encT l encT_len (fun _ => rfl) (k0) rfl rfl rfl rfl hk0 (by decide) Tryz.runUnderlying47 Tryz.sizeOf72) ?_
    refine go 2 ?_
    refine wyy rfl rfl rfl (ay_cmp false rfl rfl rfl (by rw [h5]; rfl)) ?_
    refine go 12 ?_
    have hfin := hcont x0 k0 0 (by rw [progP, if_pos (by rw [tokAt_lt hk0]; exact h5)]; exact .ok _ _ _ rfl)
    have hgood : programP l = .ok x0 k0 := (hfin.good rfl).2
    refine go 4 ?_
    refine wyy rfl rfl rfl (ay_cmp false rfl rfl rfl (by rfl)) ?_
    refine go 7 ?_
    refine wfrzb [] 0 rfl rfl ?_
    refine wfrzb [] 1 rfl rfl ?_
    refine wfrzb [] 2 rfl rfl ?_
    refine wweak 0 rfl wk_src ?_
    refine go 9 ?_
    exact ⟨.inr rfl, _, ⟨bx, rw⟩, (res_three rfl (resv_cell [_, _] rfl rfl Tryz.isAgg40 Tryz.sizeOf40 (pk_all rfl rfl)) (resv_tmp rfl) (resv_tmp rfl)), subS_of (.cons _ (.cons _ (.cons _ (.refl _)))) (.refl _), by rw [progX_good hlx hgood]; rfl, rfl⟩
   ·skip
    refine go 7 ?_
    refine wyy rfl rfl rfl (ay_cmp true rfl rfl rfl (by rfl)) ?_
    refine go 6 ?_
    refine wyy rfl rfl rfl (ay_ix encT encT l encT_len (fun _ => rfl) (k0) rfl rfl rfl rfl hk0 (by decide) Tryz.runUnderlying47 Tryz.sizeOf72) ?_
    refine go 2 ?_
    refine wyy rfl rfl rfl (ay_cmp true rfl rfl rfl (by simp [cmpR]; omega)) ?_
    refine go 9 ?_
    refine wo rfl (wcallT (rowB vg ++ (rowB vm ++ (rowB vf ++ [b3, P]))) rfl rfl (by decide) Tryz.call36 rfl (declP_c [] (⟨b1, 40, [.val (.slice none 0 0), .val (.slice none 0 0), .val (.slice none 0 0)]⟩ :: bx) rw P l k0 b3 x0 vg vm vf hok hk0) (by intro b hb; simp at hb ⊢; rcases hb with h | h | h | h | h <;> simp [h]) (by intro b hb; simp at hb; simp [Sto.bl]; rcases hb with h | h | h | h | h <;> simp [h]) (by intro _ b hb; simp at hb ⊢; rcases hb with h | h | h | h | h <;> simp [h]) ?_)
    rintro t4 s4 ⟨y, vg', vm', vf', k1, e1, rfl, hr, hk1, he1, rfl⟩
    refine ⟨rowB vg' ++ (rowB vm' ++ rowB vf'), fun hnd b hb => ⟨?_, fun hb2 => ?_⟩, ?_⟩
    ·simp at hb; simp [Sto.bl]; rcases hb with h | h | h <;> simp [h]
    ·have h9 := rows_back (bx := ⟨b3, 40, [.val vg, .val vm, .val vf]⟩ :: ⟨P, 70, [.sl l.length (l.flatMap encT), .val (.int .i64 (((k0) : Nat) : Int)), .val (.int .i64 (((0) : Nat) : Int)), .val (.int .i64 (((0) : Nat) : Int))]⟩ :: ⟨b1, 40, [.val (.slice none 0 0), .val (.slice none 0 0), .val (.slice none 0 0)]⟩ :: bx) (rs := [⟨vg, 104, 2, x0.globals.length, x0.globals.flatMap encG⟩, ⟨vm, 102, 3, x0.mutexes.length, x0.mutexes.flatMap encM⟩, ⟨vf, 65, 3, x0.funcs.length, x0.funcs.flatMap encF⟩]) (rs' := [⟨vg', 104, 2, y.globals.length, y.globals.flatMap encG⟩, ⟨vm', 102, 3, y.mutexes.length, y.mutexes.flatMap encM⟩, ⟨vf', 65, 3, y.funcs.length, y.funcs.flatMap encF⟩]) (rw := rw) (b := b) (by simp) hnd (by simp at hb ⊢; exact hb) hb2
     simp at h9 ⊢; rcases h9 with h | h | h <;> simp [h]
    show AOps _ _ _ ⟨_, _, ⟨⟨b3, 40, [.val vg', .val vm', .val vf']⟩ :: ⟨P, 70, [.sl l.length (l.flatMap encT), .val (.int .i64 (((k1) : Nat) : Int)), .val (.int .i64 (((0) : Nat) : Int)), .val (.int .i64 (((e1) : Nat) : Int))]⟩ :: ⟨b1, 40, [.val (.slice none 0 0), .val (.slice none 0 0), .val (.slice none 0 0)]⟩ :: bx, ⟨vg', 104, 2, (y).globals.length, (y).globals.flatMap encG⟩ :: ⟨vm', 102, 3, (y).mutexes.length, (y).mutexes.flatMap encM⟩ :: ⟨vf', 65, 3, (y).funcs.length, (y).funcs.flatMap encF⟩ :: rw⟩, _⟩ _
    refine go 2 ?_
    have hk5 : ¬ (tokAt l k0).kind = 5 := by rw [tokAt_lt hk0]; exact h5
    have hst : ∀ z k' e', Run e1 k1 (progP l q y k1) z k' e' → Run 0 0 (programP l) z k' e' := fun z k' e' h => hcont z k' e' (by rw [progP, if_neg hk5]; exact hr.bind h)
    have hgo : e1 = 0 → k0 < k1 := fun h => by have h9 := declP_in hok.last (x := x0) hk0; rw [(hr.good h).2] at h9; exact h9.1
    refine ⟨(y, vg', vm', vf', k1, e1), ⟨hk1, he1, fun h => hst _ _ _ (.skip h _ _), fun h => ⟨q, ?_, fun z k' e' h2 => hst _ _ _ ?_⟩⟩, ?_, subA (.refl _) (.refl _) (by intro x hx; simp only [List.mem_append, List.mem_cons, List.not_mem_nil, or_false] at hx ⊢; rcases hx with h | h | h | h | h | h <;> simp [h]) (sub_cons rfl (Wk.refl _) (sub_cons rfl (Wk.refl _) (sub_cons rfl (Wk.refl _) (sub_cons rfl (Wk.refl _) (sub_cons rfl (Wk.refl _) (sub_cons rfl (Wk.refl _) sub_nil))))))⟩
    ·have := hgo h; show l.length ≤ q + k1; omega
    ·rw [show e1 = 0 from h]; exact h2
    ·show (if e1 = 0 then _ else _) < (if (0 : Nat) = 0 then _ else _)
     by_cases h : e1 = 0
     ·have := hgo h; rw [if_pos h, if_pos rfl]; show l.length - k1 + 1 < l.length - k0 + 1; omega
     ·rw [if_neg h, if_pos rfl]; show 0 < l.length - k0 + 1; omega
  ·skip
   refine go 7 ?_
   refine wyy rfl rfl rfl (ay_cmp false rfl rfl rfl (eq_nat0 h0)) ?_
   refine go 22 ?_
   have herr : programP l = .err k0 e0 := by
    rcases hn0 h0 with ⟨h, _⟩ | ⟨_, ⟨_, h⟩ | ⟨h, _⟩⟩
    ·exact absurd rfl h
    ·exact absurd h h0
    ·exact h
   refine go 4 ?_
   refine wyy rfl rfl rfl (ay_cmp true rfl rfl rfl (by simp [cmpR, h0])) ?_
   refine go 4 ?_
   refine aw_region_drew [b3, P] (by kernel_rfl) ?_
   refine tks [(0, true), (1, true), (2, true), (3, true), (4, true), (5, true)] 10 (by kernel_rfl) ?_
   refine go 7 ?_
   refine tq 6 (by kernel_rfl) rfl rfl rfl rfl (ay_ix encT encT l encT_len (fun _ => rfl) (k0) rfl rfl rfl rfl hk0 (by decide) Tryz.runUnderlying47 Tryz.sizeOf72) ?_
   refine tks [(7, true), (8, true), (9, true), (10, true), (11, true), (12, true), (13, false), (14, true), (15, true)] 0 (by kernel_rfl) ?_
   refine go 10 ?_
   refine any_done (by kernel_rfl) ?_
   refine go 3 ?_
   exact ⟨.inr rfl, _, ⟨bx, rw⟩, (res_three rfl (resv_wk (Wk.agg (.cons wk_nil (.cons wk_nil (.cons wk_nil .nil)))) (resv_cell [_, _] rfl rfl Tryz.isAgg40 Tryz.sizeOf40 (pk_all rfl rfl))) (resv_tmp rfl) (resv_tmp rfl)), subS_of (.cons _ (.cons _ (.cons _ (.refl _)))) (.cons _ (.cons _ (.cons _ (.refl _)))), by rw [progX_bad hlx herr hk0]; rfl, rfl⟩
 ·skip
  refine go 13 ?_
  refine wyy rfl rfl rfl (ay_cmp true rfl rfl rfl (by simp [cmpR, her])) ?_
  refine go 15 ?_
  exact ⟨.inr rfl, _, ⟨bx, rw⟩, (res_three rfl (resv_wk (Wk.agg (.cons wk_nil (.cons wk_nil (.cons wk_nil .nil)))) (resv_cell [] rfl rfl Tryz.isAgg40 Tryz.sizeOf40 (pk_all rfl rfl))) (resv_tmp rfl) (resv_tmp rfl)), subS_of (.cons _ (.refl _)) (.refl _), by rw [progX_lex hlx]; rfl, rfl⟩
end Go.Proofs.YtflcnehhpmjipaaGreatDoor
