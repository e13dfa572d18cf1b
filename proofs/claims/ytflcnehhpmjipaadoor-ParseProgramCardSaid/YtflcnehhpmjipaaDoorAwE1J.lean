import Derived.Test.YtflcnehhpmjipaaDoorR1J
import Derived.Test.YtflcnehhpmjipaaDoorE0J
set_option linter.unusedVariables false
set_option linter.unusedSimpArgs false
namespace Go.Proofs.YtflcnehhpmjipaaDoor
open Go.RowKit
abbrev ESt (A B : List Box) (rw : List ORow) (P : Nat) (l : List Tok) (k d e : Nat) : Sto := ⟨A ++ ⟨P, 68, [.sl l.length (l.flatMap encT), .val (.int .i64 (k : Int)), .val (.int .i64 (d : Int)), .val (.int .i64 (e : Int))]⟩ :: B, rw⟩
def EAn (A B : List Box) (rw : List ORow) (P : Nat) (l : List Tok) (d k0 : Nat) (r : PRes AExpr) (t : AT) (s : Sto) : Prop :=
 ∃ x k1 d1 e1, t = .agg (encE1 x) ∧ Run 0 k0 r x k1 e1 ∧ k1 < l.length ∧ e1 < 16 ∧ (e1 = 0 → d1 = d) ∧ d ≤ d1 ∧ d1 ≤ 24 ∧ s = ESt A B rw P l k1 d1 e1
theorem negP_bind2 (op : Int) (r : PRes AExpr) : negP op r = r.bind fun x k => .ok (.mk op 0 emptyB [x]) k := by cases r <;> rfl
theorem acall_old {F : FuncId} {args : List Value} {s : Sto} {t : AT} {v : Value} (ht : ∀ w, RepT w t v) (h : ∀ w, Calls Tryd.prog F args.toArray w fun e w' => e = .returned v ∧ w = w') : ACall Tryd.prog F (args.map fun a => .c (.val a)) [] s fun r s' => r = t ∧ s' = s := by
 intro vs w hm _ hl hr
 have : vs = args := by
  refine List.ext_getElem (by simpa using hl) fun i h1 h2 => ?_
  have h3 := hr i (by simpa using h2) h1
  generalize hx : (args.map fun a => AT.c (.val a))[i]'(by simpa using h2) = x at h3
  rw [List.getElem_map] at hx
  subst hx
  generalize vs[i] = u at h3
  cases h3 with | c _ _ h => cases h; rfl
 subst this
 exact (h w).mono fun e w' ⟨h1, h2⟩ => by subst h2; exact ⟨t, v, s, h1, ⟨rfl, rfl⟩, ht _, hm, Keep.refl _ _, fun b hb => .inl hb⟩
theorem binOp_c (x : ByteArray) (s : Sto) : ACall Tryd.prog 60 [.c (.val (.string x))] [] s fun r s' => r = .tup [.c (.val (.int .i64 ((binOp x).1 : Int))), .c (.val (.int .i64 ((binOp x).2 : Int)))] ∧ s' = s :=
 acall_old (args := [.string x]) (fun w => .tup _ [_, _] rfl fun i h h' => by
  match i, h, h' with
  | 0, _, _ => exact .c _ _ (.val _ rfl)
  | 1, _, _ => exact .c _ _ (.val _ rfl)) fun w => binaryOp_any x w
set_option maxRecDepth 100000 in
set_option maxHeartbeats 1600000 in
theorem isE_y (A B : List Box) (rw : List ORow) (P : Nat) (l : List Tok) (k d e : Nat) (sg : ByteArray) (hk : k < l.length) (h4 : l[k].kind = 4) (ht : l[k].text = sg) : ACall Tryd.prog 78 [.c (.val (.pointer (some ⟨P, 0, none⟩))), .c (.val (.string sg))] [P] (ESt A B rw P l k d e) fun t s => t = .c (.val (.bool true)) ∧ s = ESt A B rw P l k d e := by
 refine acall_body Tryd.func78 rfl (Nat.le_of_ble_eq_true rfl) ?_
 show AWp Tryd.prog _ ⟨32, [P], ⟨A ++ ⟨P, 68, [.sl l.length (l.flatMap encT), .val (.int .i64 ((k : Nat) : Int)), .val (.int .i64 ((d : Nat) : Int)), .val (.int .i64 ((e : Nat) : Int))]⟩ :: B, rw⟩, [(0, .c (.val (.pointer (some ⟨P, 0, none⟩)))), (1, .c (.val (.string sg)))]⟩ _
 refine sqrg ?_
 refine wag rfl rfl rfl rfl rfl ?_
 refine nlnm ?_
 refine aw_seq ?_
 refine aw_region_drew [P] (by kernel_rfl) ?_
 refine tq 0 (by kernel_rfl) rfl rfl rfl rfl (ay_move rfl rfl) ?_
 refine tq 1 (by kernel_rfl) rfl rfl rfl rfl (ay_nilCheck rfl rfl) ?_
 refine tq 2 (by kernel_rfl) rfl rfl rfl rfl (ay_fieldAddr 0 0 rfl rfl Tryd.runUnderlying68 rfl Tryd.sizeOf34 (by decide) rfl) ?_
 refine tq 3 (by kernel_rfl) rfl rfl rfl rfl (ay_load_box (A) rfl rfl rfl Tryd.isAgg34 Tryd.sizeOf34 rfl (fun _ h => (mem_off.1 h).2 (by simp))) ?_
 refine tq 4 (by kernel_rfl) rfl rfl rfl rfl (ay_move rfl rfl) ?_
 refine tq 5 (by kernel_rfl) rfl rfl rfl rfl (ay_nilCheck rfl rfl) ?_
 refine tq 6 (by kernel_rfl) rfl rfl rfl rfl (ay_fieldAddr 1 1 rfl rfl Tryd.runUnderlying68 rfl Tryd.sizeOf3 (by decide) rfl) ?_
 refine tq 7 (by kernel_rfl) rfl rfl rfl rfl (ay_load_box (A) rfl rfl rfl Tryd.isAgg3 Tryd.sizeOf3 rfl (fun _ h => (mem_off.1 h).2 (by simp))) ?_
 refine tq 8 (by kernel_rfl) rfl rfl rfl rfl (ay_ix encT encT l encT_len (fun _ => rfl) (k) rfl rfl rfl rfl hk (by decide) Tryd.runUnderlying34 Tryd.sizeOf65) ?_
 refine tq 9 (by kernel_rfl) rfl rfl rfl rfl (ay_fieldAddr_el 0 rfl rfl Tryd.runUnderlying65 rfl Tryd.sizeOf3 (by decide)) ?_
 refine tq 10 (by kernel_rfl) rfl rfl rfl rfl (ay_load_el rfl rfl Tryd.isAgg3 Tryd.sizeOf3 rfl) ?_
 refine tq 11 (by kernel_rfl) rfl rfl rfl rfl (ay_cmp true rfl rfl rfl (by rw [h4]; rfl)) ?_
 refine tq 12 (by kernel_rfl) rfl rfl rfl rfl (ay_move rfl rfl) ?_
 refine tq 13 (by kernel_rfl) rfl rfl rfl rfl (ay_move rfl rfl) ?_
 refine tq 14 (by kernel_rfl) rfl rfl rfl rfl (ay_nilCheck rfl rfl) ?_
 refine tq 15 (by kernel_rfl) rfl rfl rfl rfl (ay_fieldAddr 0 0 rfl rfl Tryd.runUnderlying68 rfl Tryd.sizeOf34 (by decide) rfl) ?_
 refine tq 16 (by kernel_rfl) rfl rfl rfl rfl (ay_load_box (A) rfl rfl rfl Tryd.isAgg34 Tryd.sizeOf34 rfl (fun _ h => (mem_off.1 h).2 (by simp))) ?_
 refine tq 17 (by kernel_rfl) rfl rfl rfl rfl (ay_move rfl rfl) ?_
 refine tq 18 (by kernel_rfl) rfl rfl rfl rfl (ay_nilCheck rfl rfl) ?_
 refine tq 19 (by kernel_rfl) rfl rfl rfl rfl (ay_fieldAddr 1 1 rfl rfl Tryd.runUnderlying68 rfl Tryd.sizeOf3 (by decide) rfl) ?_
 refine tq 20 (by kernel_rfl) rfl rfl rfl rfl (ay_load_box (A) rfl rfl rfl Tryd.isAgg3 Tryd.sizeOf3 rfl (fun _ h => (mem_off.1 h).2 (by simp))) ?_
 refine tq 21 (by kernel_rfl) rfl rfl rfl rfl (ay_ix encT encT l encT_len (fun _ => rfl) (k) rfl rfl rfl rfl hk (by decide) Tryd.runUnderlying34 Tryd.sizeOf65) ?_
 refine tq 22 (by kernel_rfl) rfl rfl rfl rfl (ay_fieldAddr_el 1 rfl rfl Tryd.runUnderlying65 rfl Tryd.sizeOf9 (by decide)) ?_
 refine tq 23 (by kernel_rfl) rfl rfl rfl rfl (ay_load_el rfl rfl Tryd.isAgg9 Tryd.sizeOf9 rfl) ?_
 refine tq 24 (by kernel_rfl) rfl rfl rfl rfl (ay_move rfl rfl) ?_
 refine tq 25 (by kernel_rfl) rfl rfl rfl rfl (ay_streq true rfl rfl rfl (by rw [ht]; simp [strR])) ?_
 refine tq 26 (by kernel_rfl) rfl rfl rfl rfl (ay_pick rfl rfl rfl) ?_
 refine tq 27 (by kernel_rfl) rfl rfl rfl rfl (ay_assign rfl rfl) ?_
 refine any_done (by kernel_rfl) ?_
 refine then_normal ?_
 refine aw_ret ?_
 exact ⟨.inr rfl, _, (ESt A B rw P l (k) (d) (e)), res_one rfl (resv_tmp rfl), subS_of (.refl _) (.refl _), rfl, rfl⟩
set_option maxRecDepth 100000 in
set_option maxHeartbeats 1600000 in
theorem isE_n (A B : List Box) (rw : List ORow) (P : Nat) (l : List Tok) (k d e : Nat) (sg : ByteArray) (hk : k < l.length) (h4 : l[k].kind = 4) (ht : ¬ l[k].text = sg) : ACall Tryd.prog 78 [.c (.val (.pointer (some ⟨P, 0, none⟩))), .c (.val (.string sg))] [P] (ESt A B rw P l k d e) fun t s => t = .c (.val (.bool false)) ∧ s = ESt A B rw P l k d e := by
 refine acall_body Tryd.func78 rfl (Nat.le_of_ble_eq_true rfl) ?_
 show AWp Tryd.prog _ ⟨32, [P], ⟨A ++ ⟨P, 68, [.sl l.length (l.flatMap encT), .val (.int .i64 ((k : Nat) : Int)), .val (.int .i64 ((d : Nat) : Int)), .val (.int .i64 ((e : Nat) : Int))]⟩ :: B, rw⟩, [(0, .c (.val (.pointer (some ⟨P, 0, none⟩)))), (1, .c (.val (.string sg)))]⟩ _
 refine sqrg ?_
 refine wag rfl rfl rfl rfl rfl ?_
 refine nlnm ?_
 refine aw_seq ?_
 refine aw_region_drew [P] (by kernel_rfl) ?_
 refine tq 0 (by kernel_rfl) rfl rfl rfl rfl (ay_move rfl rfl) ?_
 refine tq 1 (by kernel_rfl) rfl rfl rfl rfl (ay_nilCheck rfl rfl) ?_
 refine tq 2 (by kernel_rfl) rfl rfl rfl rfl (ay_fieldAddr 0 0 rfl rfl Tryd.runUnderlying68 rfl Tryd.sizeOf34 (by decide) rfl) ?_
 refine tq 3 (by kernel_rfl) rfl rfl rfl rfl (ay_load_box (A) rfl rfl rfl Tryd.isAgg34 Tryd.sizeOf34 rfl (fun _ h => (mem_off.1 h).2 (by simp))) ?_
 refine tq 4 (by kernel_rfl) rfl rfl rfl rfl (ay_move rfl rfl) ?_
 refine tq 5 (by kernel_rfl) rfl rfl rfl rfl (ay_nilCheck rfl rfl) ?_
 refine tq 6 (by kernel_rfl) rfl rfl rfl rfl (ay_fieldAddr 1 1 rfl rfl Tryd.runUnderlying68 rfl Tryd.sizeOf3 (by decide) rfl) ?_
 refine tq 7 (by kernel_rfl) rfl rfl rfl rfl (ay_load_box (A) rfl rfl rfl Tryd.isAgg3 Tryd.sizeOf3 rfl (fun _ h => (mem_off.1 h).2 (by simp))) ?_
 refine tq 8 (by kernel_rfl) rfl rfl rfl rfl (ay_ix encT encT l encT_len (fun _ => rfl) (k) rfl rfl rfl rfl hk (by decide) Tryd.runUnderlying34 Tryd.sizeOf65) ?_
 refine tq 9 (by kernel_rfl) rfl rfl rfl rfl (ay_fieldAddr_el 0 rfl rfl Tryd.runUnderlying65 rfl Tryd.sizeOf3 (by decide)) ?_
 refine tq 10 (by kernel_rfl) rfl rfl rfl rfl (ay_load_el rfl rfl Tryd.isAgg3 Tryd.sizeOf3 rfl) ?_
 refine tq 11 (by kernel_rfl) rfl rfl rfl rfl (ay_cmp true rfl rfl rfl (by rw [h4]; rfl)) ?_
 refine tq 12 (by kernel_rfl) rfl rfl rfl rfl (ay_move rfl rfl) ?_
 refine tq 13 (by kernel_rfl) rfl rfl rfl rfl (ay_move rfl rfl) ?_
 refine tq 14 (by kernel_rfl) rfl rfl rfl rfl (ay_nilCheck rfl rfl) ?_
 refine tq 15 (by kernel_rfl) rfl rfl rfl rfl (ay_fieldAddr 0 0 rfl rfl Tryd.runUnderlying68 rfl Tryd.sizeOf34 (by decide) rfl) ?_
 refine tq 16 (by kernel_rfl) rfl rfl rfl rfl (ay_load_box (A) rfl rfl rfl Tryd.isAgg34 Tryd.sizeOf34 rfl (fun _ h => (mem_off.1 h).2 (by simp))) ?_
 refine tq 17 (by kernel_rfl) rfl rfl rfl rfl (ay_move rfl rfl) ?_
 refine tq 18 (by kernel_rfl) rfl rfl rfl rfl (ay_nilCheck rfl rfl) ?_
 refine tq 19 (by kernel_rfl) rfl rfl rfl rfl (ay_fieldAddr 1 1 rfl rfl Tryd.runUnderlying68 rfl Tryd.sizeOf3 (by decide) rfl) ?_
 refine tq 20 (by kernel_rfl) rfl rfl rfl rfl (ay_load_box (A) rfl rfl rfl Tryd.isAgg3 Tryd.sizeOf3 rfl (fun _ h => (mem_off.1 h).2 (by simp))) ?_
 refine tq 21 (by kernel_rfl) rfl rfl rfl rfl (ay_ix encT encT l encT_len (fun _ => rfl) (k) rfl rfl rfl rfl hk (by decide) Tryd.runUnderlying34 Tryd.sizeOf65) ?_
 refine tq 22 (by kernel_rfl) rfl rfl rfl rfl (ay_fieldAddr_el 1 rfl rfl Tryd.runUnderlying65 rfl Tryd.sizeOf9 (by decide)) ?_
 refine tq 23 (by kernel_rfl) rfl rfl rfl rfl (ay_load_el rfl rfl Tryd.isAgg9 Tryd.sizeOf9 rfl) ?_
 refine tq 24 (by kernel_rfl) rfl rfl rfl rfl (ay_move rfl rfl) ?_
 refine tq 25 (by kernel_rfl) rfl rfl rfl rfl (ay_streq false rfl rfl rfl (by simp [strR, ht])) ?_
 refine tq 26 (by kernel_rfl) rfl rfl rfl rfl (ay_pick rfl rfl rfl) ?_
 refine tq 27 (by kernel_rfl) rfl rfl rfl rfl (ay_assign rfl rfl) ?_
 refine any_done (by kernel_rfl) ?_
 refine then_normal ?_
 refine aw_ret ?_
 exact ⟨.inr rfl, _, (ESt A B rw P l (k) (d) (e)), res_one rfl (resv_tmp rfl), subS_of (.refl _) (.refl _), rfl, rfl⟩
set_option maxRecDepth 100000 in
set_option maxHeartbeats 1600000 in
theorem isE_0 (A B : List Box) (rw : List ORow) (P : Nat) (l : List Tok) (k d e : Nat) (sg : ByteArray) (hk : k < l.length) (h4 : ¬ l[k].kind = 4) : ACall Tryd.prog 78 [.c (.val (.pointer (some ⟨P, 0, none⟩))), .c (.val (.string sg))] [P] (ESt A B rw P l k d e) fun t s => t = .c (.val (.bool false)) ∧ s = ESt A B rw P l k d e := by
 refine acall_body Tryd.func78 rfl (Nat.le_of_ble_eq_true rfl) ?_
 show AWp Tryd.prog _ ⟨32, [P], ⟨A ++ ⟨P, 68, [.sl l.length (l.flatMap encT), .val (.int .i64 ((k : Nat) : Int)), .val (.int .i64 ((d : Nat) : Int)), .val (.int .i64 ((e : Nat) : Int))]⟩ :: B, rw⟩, [(0, .c (.val (.pointer (some ⟨P, 0, none⟩)))), (1, .c (.val (.string sg)))]⟩ _
 refine sqrg ?_
 refine wag rfl rfl rfl rfl rfl ?_
 refine nlnm ?_
 refine aw_seq ?_
 refine aw_region_drew [P] (by kernel_rfl) ?_
 refine tq 0 (by kernel_rfl) rfl rfl rfl rfl (ay_move rfl rfl) ?_
 refine tq 1 (by kernel_rfl) rfl rfl rfl rfl (ay_nilCheck rfl rfl) ?_
 refine tq 2 (by kernel_rfl) rfl rfl rfl rfl (ay_fieldAddr 0 0 rfl rfl Tryd.runUnderlying68 rfl Tryd.sizeOf34 (by decide) rfl) ?_
 refine tq 3 (by kernel_rfl) rfl rfl rfl rfl (ay_load_box (A) rfl rfl rfl Tryd.isAgg34 Tryd.sizeOf34 rfl (fun _ h => (mem_off.1 h).2 (by simp))) ?_
 refine tq 4 (by kernel_rfl) rfl rfl rfl rfl (ay_move rfl rfl) ?_
 refine tq 5 (by kernel_rfl) rfl rfl rfl rfl (ay_nilCheck rfl rfl) ?_
 refine tq 6 (by kernel_rfl) rfl rfl rfl rfl (ay_fieldAddr 1 1 rfl rfl Tryd.runUnderlying68 rfl Tryd.sizeOf3 (by decide) rfl) ?_
 refine tq 7 (by kernel_rfl) rfl rfl rfl rfl (ay_load_box (A) rfl rfl rfl Tryd.isAgg3 Tryd.sizeOf3 rfl (fun _ h => (mem_off.1 h).2 (by simp))) ?_
 refine tq 8 (by kernel_rfl) rfl rfl rfl rfl (ay_ix encT encT l encT_len (fun _ => rfl) (k) rfl rfl rfl rfl hk (by decide) Tryd.runUnderlying34 Tryd.sizeOf65) ?_
 refine tq 9 (by kernel_rfl) rfl rfl rfl rfl (ay_fieldAddr_el 0 rfl rfl Tryd.runUnderlying65 rfl Tryd.sizeOf3 (by decide)) ?_
 refine tq 10 (by kernel_rfl) rfl rfl rfl rfl (ay_load_el rfl rfl Tryd.isAgg3 Tryd.sizeOf3 rfl) ?_
 refine tq 11 (by kernel_rfl) rfl rfl rfl rfl (ay_cmp false rfl rfl rfl (by rw [show cmpR .eql ((l[k].kind : Nat) : Int) 4 = some (decide (l[k].kind = 4)) from cmp_nat (n := 4), decide_eq_false h4])) ?_
 refine tq 12 (by kernel_rfl) rfl rfl rfl rfl (ay_move rfl rfl) ?_
 refine tkskip 13 (by kernel_rfl) rfl (by kernel_rfl) (by kernel_rfl) rfl rfl (by decide) ?_
 refine tkskip 14 (by kernel_rfl) rfl (by kernel_rfl) (by kernel_rfl) rfl rfl (by decide) ?_
 refine tkskip 15 (by kernel_rfl) rfl (by kernel_rfl) (by kernel_rfl) rfl rfl (by decide) ?_
 refine tkskip 16 (by kernel_rfl) rfl (by kernel_rfl) (by kernel_rfl) rfl rfl (by decide) ?_
 refine tkskip 17 (by kernel_rfl) rfl (by kernel_rfl) (by kernel_rfl) rfl rfl (by decide) ?_
 refine tkskip 18 (by kernel_rfl) rfl (by kernel_rfl) (by kernel_rfl) rfl rfl (by decide) ?_
 refine tkskip 19 (by kernel_rfl) rfl (by kernel_rfl) (by kernel_rfl) rfl rfl (by decide) ?_
 refine tkskip 20 (by kernel_rfl) rfl (by kernel_rfl) (by kernel_rfl) rfl rfl (by decide) ?_
 refine tkskip 21 (by kernel_rfl) rfl (by kernel_rfl) (by kernel_rfl) rfl rfl (by decide) ?_
 refine tkskip 22 (by kernel_rfl) rfl (by kernel_rfl) (by kernel_rfl) rfl rfl (by decide) ?_
 refine tkskip 23 (by kernel_rfl) rfl (by kernel_rfl) (by kernel_rfl) rfl rfl (by decide) ?_
 refine tkskip 24 (by kernel_rfl) rfl (by kernel_rfl) (by kernel_rfl) rfl rfl (by decide) ?_
 refine tkskip 25 (by kernel_rfl) rfl (by kernel_rfl) (by kernel_rfl) rfl rfl (by decide) ?_
 refine tq 26 (by kernel_rfl) rfl rfl rfl rfl (ay_pick rfl rfl rfl) ?_
 refine tq 27 (by kernel_rfl) rfl rfl rfl rfl (ay_assign rfl rfl) ?_
 refine any_done (by kernel_rfl) ?_
 refine then_normal ?_
 refine aw_ret ?_
 exact ⟨.inr rfl, _, (ESt A B rw P l (k) (d) (e)), res_one rfl (resv_tmp rfl), subS_of (.refl _) (.refl _), rfl, rfl⟩
theorem isE_d (A B : List Box) (rw : List ORow) (P : Nat) (l : List Tok) (k d e : Nat) (sg : List UInt8) (hk : k < l.length) : ACall Tryd.prog 78 [.c (.val (.pointer (some ⟨P, 0, none⟩))), .c (.val (.string (bytes sg)))] [P] (ESt A B rw P l k d e) fun t s => (signAt l k sg = true ∧ t = .c (.val (.bool true)) ∧ s = ESt A B rw P l k d e) ∨ (signAt l k sg = false ∧ t = .c (.val (.bool false)) ∧ s = ESt A B rw P l k d e) := by
 unfold signAt
 rw [tokAt_lt hk]
 by_cases h4 : l[k].kind = 4
 ·by_cases ht : l[k].text = bytes sg
  ·exact (isE_y A B rw P l k d e _ hk h4 ht).mono fun t s h => .inl ⟨by simp [h4, ht], h⟩
  ·exact (isE_n A B rw P l k d e _ hk h4 ht).mono fun t s h => .inr ⟨by simp [ht], h⟩
 ·exact (isE_0 A B rw P l k d e _ hk h4).mono fun t s h => .inr ⟨by simp [h4], h⟩
set_option maxRecDepth 100000 in
set_option maxHeartbeats 1600000 in
theorem failE_c (A B : List Box) (rw : List ORow) (P : Nat) (l : List Tok) (k d e x : Nat) : ACall Tryd.prog 81 [.c (.val (.pointer (some ⟨P, 0, none⟩))), .c (.val (.int .i64 (x : Int)))] [P] (ESt A B rw P l k d e) fun t s => t = .agg (encE1 .zero) ∧ s = ESt A B rw P l k d x := by
 refine acall_body Tryd.func81 rfl (Nat.le_of_ble_eq_true rfl) ?_
 show AWp Tryd.prog _ ⟨10, [P], ⟨A ++ ⟨P, 68, [.sl l.length (l.flatMap encT), .val (.int .i64 ((k : Nat) : Int)), .val (.int .i64 ((d : Nat) : Int)), .val (.int .i64 ((e : Nat) : Int))]⟩ :: B, rw⟩, [(0, .c (.val (.pointer (some ⟨P, 0, none⟩)))), (1, .c (.val (.int .i64 (x : Int))))]⟩ _
 refine sqrg ?_
 refine wo rfl (walloc rfl rfl (by decide) Tryd.zeroValue31 rfl fun b1 => ?_)
 refine nx ?_
 refine wmv rfl rfl rfl rfl rfl ?_
 refine wmv rfl rfl rfl rfl rfl ?_
 refine wyy rfl rfl rfl (ay_nilCheck rfl rfl) ?_
 refine wyy rfl rfl rfl (ay_fieldAddr 3 3 rfl rfl Tryd.runUnderlying68 rfl Tryd.sizeOf36 (by decide) rfl) ?_
 refine wo rfl (wstA1 rfl rfl rfl rfl rfl Tryd.sizeOf36 rfl (Nat.le_of_ble_eq_true rfl) rfl (by simp) (fun _ => by simp) ?_)
 refine nx ?_
 refine wyy rfl rfl rfl (ay_build Tryd.t31 [(0, 1), (1, 1), (2, 1), (3, 1)] rfl .nil Tryd.underlying31 (by kernel_rfl) rfl (by kernel_rfl) rfl rfl) ?_
 refine wo rfl (wst0 rfl rfl rfl rfl rfl Tryd.sizeOf31 rfl (Nat.le_of_ble_eq_true rfl) (splice_all rfl) (by simp) (fun _ => by simp) ?_)
 refine nlnm ?_
 refine aw_ret ?_
 exact ⟨.inr rfl, _, (ESt A B rw P l (k) (d) (x)), (res_wk (Wk.agg (.cons (WkC.refl _) (.cons (WkC.refl _) (.cons (WkC.refl _) (.cons wk_nil .nil))))) (res_one rfl (resv_cell [] rfl rfl Tryd.isAgg31 Tryd.sizeOf31 (pk_all rfl rfl)))), subS_of (.cons _ (.refl _)) (.refl _), rfl, rfl⟩
set_option maxRecDepth 100000 in
set_option maxHeartbeats 1600000 in
theorem enterE_24 (A B : List Box) (rw : List ORow) (P : Nat) (l : List Tok) (k : Nat) : ACall Tryd.prog 102 [.c (.val (.pointer (some ⟨P, 0, none⟩)))] [P] (ESt A B rw P l k 24 0) fun t s => t = .c (.val (.bool false)) ∧ s = ESt A B rw P l k 24 3 := by
 refine acall_body Tryd.func102 rfl (Nat.le_of_ble_eq_true rfl) ?_
 show AWp Tryd.prog _ ⟨25, [P], ⟨A ++ ⟨P, 68, [.sl l.length (l.flatMap encT), .val (.int .i64 ((k : Nat) : Int)), .val (.int .i64 ((24 : Nat) : Int)), .val (.int .i64 ((0 : Nat) : Int))]⟩ :: B, rw⟩, [(0, .c (.val (.pointer (some ⟨P, 0, none⟩))))]⟩ _
 refine sqrg ?_
 refine wag rfl rfl rfl rfl rfl ?_
 refine nlnm ?_
 refine aw_seq ?_
 refine sqrg ?_
 refine wmv rfl rfl rfl rfl rfl ?_
 refine wyy rfl rfl rfl (ay_nilCheck rfl rfl) ?_
 refine wyy rfl rfl rfl (ay_fieldAddr 2 2 rfl rfl Tryd.runUnderlying68 rfl Tryd.sizeOf3 (by decide) rfl) ?_
 refine wyy rfl rfl rfl (ay_load_box (A) rfl rfl rfl Tryd.isAgg3 Tryd.sizeOf3 rfl (fun _ h => by cases h)) ?_
 refine wyy rfl rfl rfl (ay_cmp true rfl rfl rfl (by rfl)) ?_
 refine nlnm ?_
 refine aw_condT rfl rfl ?_
 refine sqrg ?_
 refine wmv rfl rfl rfl rfl rfl ?_
 refine wyy rfl rfl rfl (ay_nilCheck rfl rfl) ?_
 refine wyy rfl rfl rfl (ay_fieldAddr 3 3 rfl rfl Tryd.runUnderlying68 rfl Tryd.sizeOf36 (by decide) rfl) ?_
 refine wo rfl (wstA0 rfl rfl rfl rfl rfl Tryd.sizeOf36 rfl (Nat.le_of_ble_eq_true rfl) rfl (by simp) (fun _ => by simp) ?_)
 refine nx ?_
 refine wag rfl rfl rfl rfl rfl ?_
 refine nlnm ?_
 refine aw_ret ?_
 refine then_ret ?_
 exact ⟨.inr rfl, _, (ESt A B rw P l (k) (24) (3)), res_one rfl (resv_tmp rfl), subS_of (.refl _) (.refl _), rfl, rfl⟩
set_option maxRecDepth 100000 in
set_option maxHeartbeats 1600000 in
theorem enterE_lt (A B : List Box) (rw : List ORow) (P : Nat) (l : List Tok) (k d : Nat) (hd : d < 24) (hk9 : k < 1000000) : ACall Tryd.prog 102 [.c (.val (.pointer (some ⟨P, 0, none⟩)))] [P] (ESt A B rw P l k d 0) fun t s => t = .c (.val (.bool true)) ∧ s = ESt A B rw P l (k + 1) (d + 1) 0 := by
 refine acall_body Tryd.func102 rfl (Nat.le_of_ble_eq_true rfl) ?_
 show AWp Tryd.prog _ ⟨25, [P], ⟨A ++ ⟨P, 68, [.sl l.length (l.flatMap encT), .val (.int .i64 ((k : Nat) : Int)), .val (.int .i64 ((d : Nat) : Int)), .val (.int .i64 ((0 : Nat) : Int))]⟩ :: B, rw⟩, [(0, .c (.val (.pointer (some ⟨P, 0, none⟩))))]⟩ _
 refine sqrg ?_
 refine wag rfl rfl rfl rfl rfl ?_
 refine nlnm ?_
 refine aw_seq ?_
 refine sqrg ?_
 refine wmv rfl rfl rfl rfl rfl ?_
 refine wyy rfl rfl rfl (ay_nilCheck rfl rfl) ?_
 refine wyy rfl rfl rfl (ay_fieldAddr 2 2 rfl rfl Tryd.runUnderlying68 rfl Tryd.sizeOf3 (by decide) rfl) ?_
 refine wyy rfl rfl rfl (ay_load_box (A) rfl rfl rfl Tryd.isAgg3 Tryd.sizeOf3 rfl (fun _ h => by cases h)) ?_
 refine wyy rfl rfl rfl (ay_cmp false rfl rfl rfl (by rw [show cmpR .eql ((d : Nat) : Int) 24 = some (decide (d = 24)) from cmp_nat (n := 24), decide_eq_false (by omega)])) ?_
 refine nlnm ?_
 refine aw_condF rfl rfl ?_
 refine aw_skip ?_
 refine then_normal ?_
 refine sqrg ?_
 refine wmv rfl rfl rfl rfl rfl ?_
 refine wyy rfl rfl rfl (ay_nilCheck rfl rfl) ?_
 refine wyy rfl rfl rfl (ay_fieldAddr 2 2 rfl rfl Tryd.runUnderlying68 rfl Tryd.sizeOf3 (by decide) rfl) ?_
 refine wyy rfl rfl rfl (ay_load_box (A) rfl rfl rfl Tryd.isAgg3 Tryd.sizeOf3 rfl (fun _ h => by cases h)) ?_
 refine wyy rfl rfl rfl (ay_add rfl rfl rfl (by omega) (by omega)) ?_
 refine wyy rfl rfl rfl (ay_nilCheck rfl rfl) ?_
 refine wyy rfl rfl rfl (ay_fieldAddr 2 2 rfl rfl Tryd.runUnderlying68 rfl Tryd.sizeOf3 (by decide) rfl) ?_
 refine wo rfl (wstA0 rfl rfl rfl rfl rfl Tryd.sizeOf3 rfl (Nat.le_of_ble_eq_true rfl) rfl (by simp) (fun _ => by simp) ?_)
 refine nx ?_
 refine wmv rfl rfl rfl rfl rfl ?_
 refine wyy rfl rfl rfl (ay_nilCheck rfl rfl) ?_
 refine wyy rfl rfl rfl (ay_fieldAddr 1 1 rfl rfl Tryd.runUnderlying68 rfl Tryd.sizeOf3 (by decide) rfl) ?_
 refine wyy rfl rfl rfl (ay_load_box (A) rfl rfl rfl Tryd.isAgg3 Tryd.sizeOf3 rfl (fun _ h => by cases h)) ?_
 refine wyy rfl rfl rfl (ay_add rfl rfl rfl (by omega) (by omega)) ?_
 refine wyy rfl rfl rfl (ay_nilCheck rfl rfl) ?_
 refine wyy rfl rfl rfl (ay_fieldAddr 1 1 rfl rfl Tryd.runUnderlying68 rfl Tryd.sizeOf3 (by decide) rfl) ?_
 refine wo rfl (wstA0 rfl rfl rfl rfl rfl Tryd.sizeOf3 rfl (Nat.le_of_ble_eq_true rfl) rfl (by simp) (fun _ => by simp) ?_)
 refine nx ?_
 refine wag rfl rfl rfl rfl rfl ?_
 refine nlnm ?_
 refine aw_ret ?_
 exact ⟨.inr rfl, _, (ESt A B rw P l (k + 1) (d + 1) (0)), res_one rfl (resv_tmp rfl), subS_of (.refl _) (.refl _), rfl, rfl⟩
set_option maxRecDepth 100000 in
set_option maxHeartbeats 1600000 in
theorem prefixed_24 (A B : List Box) (rw : List ORow) (P : Nat) (l : List Tok) (k : Nat) (op : Int) (hok : TOk l) (hk : k < l.length) : ACall Tryd.prog 79 [.c (.val (.pointer (some ⟨P, 0, none⟩))), .c (.val (.int .i64 op))] [P] (ESt A B rw P l k 24 0) (EAn A B rw P l 24 k (.err k 3)) := by
 have hlen := hok.len
 refine acall_body Tryd.func79 rfl (Nat.le_of_ble_eq_true rfl) ?_
 show AWp Tryd.prog _ ⟨23, [P], ⟨A ++ ⟨P, 68, [.sl l.length (l.flatMap encT), .val (.int .i64 ((k : Nat) : Int)), .val (.int .i64 ((24 : Nat) : Int)), .val (.int .i64 ((0 : Nat) : Int))]⟩ :: B, rw⟩, [(0, .c (.val (.pointer (some ⟨P, 0, none⟩)))), (1, .c (.val (.int .i64 op)))]⟩ _
 refine sqrg ?_
 refine wo rfl (walloc rfl rfl (by decide) Tryd.zeroValue31 rfl fun b1 => ?_)
 refine nlnm ?_
 refine aw_seq ?_
 refine sqrg ?_
 refine wmv rfl rfl rfl rfl rfl ?_
 refine wcP rfl rfl rfl rfl Tryd.call102 rfl (enterE_24 (_ :: A) _ _ _ l k) (by simp) (by simp [Sto.bl]) ?_
 rintro t1 s1 ⟨rfl, rfl⟩
 refine wyy rfl rfl rfl (ay_not rfl rfl) ?_
 refine nlnm ?_
 refine aw_condT rfl rfl ?_
 refine sqrg ?_
 refine wyy rfl rfl rfl (ay_build Tryd.t31 [(0, 1), (1, 1), (2, 1), (3, 1)] rfl .nil Tryd.underlying31 (by kernel_rfl) rfl (by kernel_rfl) rfl rfl) ?_
 refine wo rfl (wst0 rfl rfl rfl rfl rfl Tryd.sizeOf31 rfl (Nat.le_of_ble_eq_true rfl) (splice_all rfl) (by simp) (fun _ => by simp) ?_)
 refine nlnm ?_
 refine aw_ret ?_
 refine then_ret ?_
 exact ⟨.inr rfl, _, (ESt A B rw P l (k) (24) (3)), (res_wk (Wk.agg (.cons (WkC.refl _) (.cons (WkC.refl _) (.cons (WkC.refl _) (.cons wk_nil .nil))))) (res_one rfl (resv_cell [] rfl rfl Tryd.isAgg31 Tryd.sizeOf31 (pk_all rfl rfl)))), subS_of (.cons _ (.refl _)) (.refl _), ⟨.zero, k, 24, 3, rfl, .err _ _ _ _ rfl (by decide), hk, by decide, (fun h => nomatch h), Nat.le_refl _, Nat.le_refl _, rfl⟩⟩
theorem parP_bind2 (l : List Tok) (r : PRes AExpr) : parP l r = r.bind fun x k => if signAt l k [41] then .ok x (k + 1) else .err k 4 := by cases r <;> rfl
set_option maxRecDepth 100000 in
set_option maxHeartbeats 1600000 in
theorem enclosed_24 (A B : List Box) (rw : List ORow) (P : Nat) (l : List Tok) (k : Nat) (hok : TOk l) (hk : k < l.length) : ACall Tryd.prog 80 [.c (.val (.pointer (some ⟨P, 0, none⟩)))] [P] (ESt A B rw P l k 24 0) (EAn A B rw P l 24 k (.err k 3)) := by
 have hlen := hok.len
 refine acall_body Tryd.func80 rfl (Nat.le_of_ble_eq_true rfl) ?_
 show AWp Tryd.prog _ ⟨36, [P], ⟨A ++ ⟨P, 68, [.sl l.length (l.flatMap encT), .val (.int .i64 ((k : Nat) : Int)), .val (.int .i64 ((24 : Nat) : Int)), .val (.int .i64 ((0 : Nat) : Int))]⟩ :: B, rw⟩, [(0, .c (.val (.pointer (some ⟨P, 0, none⟩))))]⟩ _
 refine sqrg ?_
 refine wo rfl (walloc rfl rfl (by decide) Tryd.zeroValue31 rfl fun b1 => ?_)
 refine nlnm ?_
 refine aw_seq ?_
 refine sqrg ?_
 refine wmv rfl rfl rfl rfl rfl ?_
 refine wcP rfl rfl rfl rfl Tryd.call102 rfl (enterE_24 (_ :: A) _ _ _ l k) (by simp) (by simp [Sto.bl]) ?_
 rintro t1 s1 ⟨rfl, rfl⟩
 refine wyy rfl rfl rfl (ay_not rfl rfl) ?_
 refine nlnm ?_
 refine aw_condT rfl rfl ?_
 refine sqrg ?_
 refine wyy rfl rfl rfl (ay_build Tryd.t31 [(0, 1), (1, 1), (2, 1), (3, 1)] rfl .nil Tryd.underlying31 (by kernel_rfl) rfl (by kernel_rfl) rfl rfl) ?_
 refine wo rfl (wst0 rfl rfl rfl rfl rfl Tryd.sizeOf31 rfl (Nat.le_of_ble_eq_true rfl) (splice_all rfl) (by simp) (fun _ => by simp) ?_)
 refine nlnm ?_
 refine aw_ret ?_
 refine then_ret ?_
 exact ⟨.inr rfl, _, (ESt A B rw P l (k) (24) (3)), (res_wk (Wk.agg (.cons (WkC.refl _) (.cons (WkC.refl _) (.cons (WkC.refl _) (.cons wk_nil .nil))))) (res_one rfl (resv_cell [] rfl rfl Tryd.isAgg31 Tryd.sizeOf31 (pk_all rfl rfl)))), subS_of (.cons _ (.refl _)) (.refl _), ⟨.zero, k, 24, 3, rfl, .err _ _ _ _ rfl (by decide), hk, by decide, (fun h => nomatch h), Nat.le_refl _, Nat.le_refl _, rfl⟩⟩
set_option maxRecDepth 100000 in
set_option maxHeartbeats 1600000 in
theorem prefixed_lt (A B : List Box) (rw : List ORow) (P : Nat) (l : List Tok) (k d j : Nat) (op : Int) (hok : TOk l) (hk : k < l.length) (hm : k + 1 < l.length) (hd : d < 24) (ih : ∀ (A B : List Box) (rw : List ORow) (P : Nat) (k : Nat), k < l.length → ACall Tryd.prog 59 [.c (.val (.pointer (some ⟨P, 0, none⟩)))] [P] (ESt A B rw P l k (d + 1) 0) (EAn A B rw P l (d + 1) k (singleP l j k))) : ACall Tryd.prog 79 [.c (.val (.pointer (some ⟨P, 0, none⟩))), .c (.val (.int .i64 op))] [P] (ESt A B rw P l k d 0) (EAn A B rw P l d k (negP op (singleP l j (k + 1)))) := by
 have hlen := hok.len
 refine acall_body Tryd.func79 rfl (Nat.le_of_ble_eq_true rfl) ?_
 show AWp Tryd.prog _ ⟨23, [P], ⟨A ++ ⟨P, 68, [.sl l.length (l.flatMap encT), .val (.int .i64 ((k : Nat) : Int)), .val (.int .i64 ((d : Nat) : Int)), .val (.int .i64 ((0 : Nat) : Int))]⟩ :: B, rw⟩, [(0, .c (.val (.pointer (some ⟨P, 0, none⟩)))), (1, .c (.val (.int .i64 op)))]⟩ _
 refine sqrg ?_
 refine wo rfl (walloc rfl rfl (by decide) Tryd.zeroValue31 rfl fun b1 => ?_)
 refine nlnm ?_
 refine aw_seq ?_
 refine sqrg ?_
 refine wmv rfl rfl rfl rfl rfl ?_
 refine wcP rfl rfl rfl rfl Tryd.call102 rfl (enterE_lt (_ :: A) _ _ _ l k d (by omega) (by omega)) (by simp) (by simp [Sto.bl]) ?_
 rintro t1 s1 ⟨rfl, rfl⟩
 refine wyy rfl rfl rfl (ay_not rfl rfl) ?_
 refine nlnm ?_
 refine aw_condF rfl rfl ?_
 refine aw_skip ?_
 refine then_normal ?_
 refine sqrg ?_
 refine wmv rfl rfl rfl rfl rfl ?_
 refine wcP rfl rfl rfl rfl Tryd.call59 rfl (ih (_ :: A) _ _ _ (k + 1) hm) (by simp) (by simp [Sto.bl]) ?_
 rintro t3 s3 ⟨x3, k3, d3, e3, rfl, hr3, hk3, he3, hd3, hl3, hu3, rfl⟩
 refine wo rfl (walloc rfl rfl (by decide) Tryd.zeroValue31 rfl fun b2 => ?_)
 refine wo rfl (wst0 rfl rfl rfl rfl rfl Tryd.sizeOf31 rfl (Nat.le_of_ble_eq_true rfl) (splice_all rfl) (by simp) (fun _ => by simp) ?_)
 refine nx ?_
 refine wmv rfl rfl rfl rfl rfl ?_
 refine wyy rfl rfl rfl (ay_nilCheck rfl rfl) ?_
 refine wyy rfl rfl rfl (ay_fieldAddr 2 2 rfl rfl Tryd.runUnderlying68 rfl Tryd.sizeOf3 (by decide) rfl) ?_
 refine wyy rfl rfl rfl (ay_load_box (_ :: _ :: A) rfl rfl rfl Tryd.isAgg3 Tryd.sizeOf3 rfl (fun _ h => by cases h)) ?_
 refine wyy rfl rfl rfl (ay_subR ((d3 - 1 : Nat) : Int) rfl rfl rfl (by omega) (by omega) (by omega)) ?_
 refine wyy rfl rfl rfl (ay_nilCheck rfl rfl) ?_
 refine wyy rfl rfl rfl (ay_fieldAddr 2 2 rfl rfl Tryd.runUnderlying68 rfl Tryd.sizeOf3 (by decide) rfl) ?_
 refine wo rfl (wstA2 rfl rfl rfl rfl rfl Tryd.sizeOf3 rfl (Nat.le_of_ble_eq_true rfl) rfl (by simp) (fun _ => by simp) ?_)
 refine nx ?_
 refine wmv rfl rfl rfl rfl rfl ?_
 refine wyy rfl rfl rfl (ay_load_box [] rfl rfl rfl Tryd.isAgg31 Tryd.sizeOf31 rfl (fun _ h => by cases h)) ?_
 refine wo rfl (wbs Tryd.t31 [.val (.int .i64 0), .val (.int .i64 0), .val (.string ⟨#[]⟩), .val (.slice none 0 0)] rfl rfl (by decide) (.cons rfl .nil) Tryd.underlying29 (by kernel_rfl) rfl (by decide) (by decide) (by kernel_rfl) (by kernel_rfl) (fill_one encE encE1 x3 (encE_one _) rfl rfl) ?_)
 refine wyy rfl rfl rfl (ay_build Tryd.t31 [(0, 1), (1, 1), (2, 1), (3, 1)] rfl (.cons rfl (.cons rfl .nil)) Tryd.underlying31 (by kernel_rfl) rfl (by kernel_rfl) rfl rfl) ?_
 refine wo rfl (wst1 rfl rfl rfl rfl rfl Tryd.sizeOf31 rfl (Nat.le_of_ble_eq_true rfl) (splice_all rfl) (by simp) (fun _ => by simp) ?_)
 refine nlnm ?_
 refine aw_ret ?_
 exact ⟨.inr rfl, _, (ESt A B rw P l (k3) (d3 - 1) (e3)), (res_one rfl (resv_cell [_] rfl rfl Tryd.isAgg31 Tryd.sizeOf31 (pk_all rfl rfl))), subS_of (.cons _ (.cons _ (.refl _))) (.refl _), ⟨.mk op 0 emptyB [x3], k3, d3 - 1, e3, rfl, by rw [negP_bind2]; exact (Run.from hr3).map (f := fun x => AExpr.mk op 0 emptyB [x]), hk3, he3, fun h => by have := hd3 h; omega, by omega, by omega, rfl⟩⟩
set_option maxRecDepth 100000 in
set_option maxHeartbeats 1600000 in
theorem enclosed_lt (A B : List Box) (rw : List ORow) (P : Nat) (l : List Tok) (k d j : Nat) (hok : TOk l) (hk : k < l.length) (hm : k + 1 < l.length) (hd : d < 24) (ihb : ∀ (A B : List Box) (rw : List ORow) (P : Nat) (k : Nat), k < l.length → ACall Tryd.prog 28 [.c (.val (.pointer (some ⟨P, 0, none⟩))), .c (.val (.int .i64 1))] [P] (ESt A B rw P l k (d + 1) 0) (EAn A B rw P l (d + 1) k (binP l (singleP l j) 5 k))) : ACall Tryd.prog 80 [.c (.val (.pointer (some ⟨P, 0, none⟩)))] [P] (ESt A B rw P l k d 0) (EAn A B rw P l d k (parP l (binP l (singleP l j) 5 (k + 1)))) := by
 have hlen := hok.len
 refine acall_body Tryd.func80 rfl (Nat.le_of_ble_eq_true rfl) ?_
 show AWp Tryd.prog _ ⟨36, [P], ⟨A ++ ⟨P, 68, [.sl l.length (l.flatMap encT), .val (.int .i64 ((k : Nat) : Int)), .val (.int .i64 ((d : Nat) : Int)), .val (.int .i64 ((0 : Nat) : Int))]⟩ :: B, rw⟩, [(0, .c (.val (.pointer (some ⟨P, 0, none⟩))))]⟩ _
 refine sqrg ?_
 refine wo rfl (walloc rfl rfl (by decide) Tryd.zeroValue31 rfl fun b1 => ?_)
 refine nlnm ?_
 refine aw_seq ?_
 refine sqrg ?_
 refine wmv rfl rfl rfl rfl rfl ?_
 refine wcP rfl rfl rfl rfl Tryd.call102 rfl (enterE_lt (_ :: A) _ _ _ l k d (by omega) (by omega)) (by simp) (by simp [Sto.bl]) ?_
 rintro t1 s1 ⟨rfl, rfl⟩
 refine wyy rfl rfl rfl (ay_not rfl rfl) ?_
 refine nlnm ?_
 refine aw_condF rfl rfl ?_
 refine aw_skip ?_
 refine then_normal ?_
 refine sqrg ?_
 refine wmv rfl rfl rfl rfl rfl ?_
 refine wcP rfl rfl rfl rfl Tryd.call28 rfl (ihb (_ :: A) _ _ _ (k + 1) hm) (by simp) (by simp [Sto.bl]) ?_
 rintro t3 s3 ⟨x3, k3, d3, e3, rfl, hr3, hk3, he3, hd3, hl3, hu3, rfl⟩
 refine wo rfl (walloc rfl rfl (by decide) Tryd.zeroValue31 rfl fun b2 => ?_)
 refine wo rfl (wst0 rfl rfl rfl rfl rfl Tryd.sizeOf31 rfl (Nat.le_of_ble_eq_true rfl) (splice_all rfl) (by simp) (fun _ => by simp) ?_)
 refine nlnm ?_
 refine aw_seq ?_
 refine sqrg ?_
 by_cases her : e3 = 0
 ·skip
  refine wmv rfl rfl rfl rfl rfl ?_
  refine wyy rfl rfl rfl (ay_nilCheck rfl rfl) ?_
  refine wyy rfl rfl rfl (ay_fieldAddr 3 3 rfl rfl Tryd.runUnderlying68 rfl Tryd.sizeOf36 (by decide) rfl) ?_
  refine wyy rfl rfl rfl (ay_load_box (_ :: _ :: A) rfl rfl rfl Tryd.isAgg36 Tryd.sizeOf36 rfl (fun _ h => by cases h)) ?_
  refine wyy rfl rfl rfl (ay_cmp false rfl rfl rfl (by rw [her]; rfl)) ?_
  refine nlnm ?_
  refine aw_condF rfl rfl ?_
  refine aw_skip ?_
  refine then_normal ?_
  refine aw_seq ?_
  refine sqrg ?_
  refine wmv rfl rfl rfl rfl rfl ?_
  refine wcP rfl rfl rfl rfl Tryd.call78 rfl (isE_d (_ :: _ :: A) _ _ _ l k3 d3 e3 [41] hk3) (by simp) (by simp [Sto.bl]) ?_
  rintro t5 s5 (⟨ha5, rfl, rfl⟩ | ⟨ha5, rfl, rfl⟩)
  ·refine wyy rfl rfl rfl (ay_not rfl rfl) ?_
   refine nlnm ?_
   refine aw_condF rfl rfl ?_
   refine aw_skip ?_
   refine then_normal ?_
   refine sqrg ?_
   have hm2 := sign_more hok.last hk3 ha5
   refine wmv rfl rfl rfl rfl rfl ?_
   refine wyy rfl rfl rfl (ay_nilCheck rfl rfl) ?_
   refine wyy rfl rfl rfl (ay_fieldAddr 1 1 rfl rfl Tryd.runUnderlying68 rfl Tryd.sizeOf3 (by decide) rfl) ?_
   refine wyy rfl rfl rfl (ay_load_box (_ :: _ :: A) rfl rfl rfl Tryd.isAgg3 Tryd.sizeOf3 rfl (fun _ h => by cases h)) ?_
   refine wyy rfl rfl rfl (ay_add rfl rfl rfl (by omega) (by omega)) ?_
   refine wyy rfl rfl rfl (ay_nilCheck rfl rfl) ?_
   refine wyy rfl rfl rfl (ay_fieldAddr 1 1 rfl rfl Tryd.runUnderlying68 rfl Tryd.sizeOf3 (by decide) rfl) ?_
   refine wo rfl (wstA2 rfl rfl rfl rfl rfl Tryd.sizeOf3 rfl (Nat.le_of_ble_eq_true rfl) rfl (by simp) (fun _ => by simp) ?_)
   refine nx ?_
   refine wmv rfl rfl rfl rfl rfl ?_
   refine wyy rfl rfl rfl (ay_nilCheck rfl rfl) ?_
   refine wyy rfl rfl rfl (ay_fieldAddr 2 2 rfl rfl Tryd.runUnderlying68 rfl Tryd.sizeOf3 (by decide) rfl) ?_
   refine wyy rfl rfl rfl (ay_load_box (_ :: _ :: A) rfl rfl rfl Tryd.isAgg3 Tryd.sizeOf3 rfl (fun _ h => by cases h)) ?_
   refine wyy rfl rfl rfl (ay_subR ((d3 - 1 : Nat) : Int) rfl rfl rfl (by omega) (by omega) (by omega)) ?_
   refine wyy rfl rfl rfl (ay_nilCheck rfl rfl) ?_
   refine wyy rfl rfl rfl (ay_fieldAddr 2 2 rfl rfl Tryd.runUnderlying68 rfl Tryd.sizeOf3 (by decide) rfl) ?_
   refine wo rfl (wstA2 rfl rfl rfl rfl rfl Tryd.sizeOf3 rfl (Nat.le_of_ble_eq_true rfl) rfl (by simp) (fun _ => by simp) ?_)
   refine nx ?_
   refine wyy rfl rfl rfl (ay_load_box [] rfl rfl rfl Tryd.isAgg31 Tryd.sizeOf31 rfl (fun _ h => by cases h)) ?_
   refine wo rfl (wst1 rfl rfl rfl rfl rfl Tryd.sizeOf31 rfl (Nat.le_of_ble_eq_true rfl) (splice_all rfl) (by simp) (fun _ => by simp) ?_)
   refine nlnm ?_
   refine aw_ret ?_
   exact ⟨.inr rfl, _, (ESt A B rw P l (k3 + 1) (d3 - 1) (e3)), (res_one rfl (resv_cell [_] rfl rfl Tryd.isAgg31 Tryd.sizeOf31 (pk_all rfl rfl))), subS_of (.cons _ (.cons _ (.refl _))) (.refl _), ⟨x3, k3 + 1, d3 - 1, e3, rfl, by rw [parP_bind2]; exact (Run.from hr3).bind (by rw [her, if_pos ha5]; exact .ok _ _ _ rfl), hm2, he3, fun h => by have := hd3 h; omega, by omega, by omega, rfl⟩⟩
  ·refine wyy rfl rfl rfl (ay_not rfl rfl) ?_
   refine nlnm ?_
   refine aw_condT rfl rfl ?_
   refine sqrg ?_
   refine wmv rfl rfl rfl rfl rfl ?_
   refine wcP rfl rfl rfl rfl Tryd.call81 rfl (failE_c (_ :: _ :: A) _ _ _ l k3 d3 e3 4) (by simp) (by simp [Sto.bl]) ?_
   rintro t8 s8 ⟨rfl, rfl⟩
   refine wo rfl (wst1 rfl rfl rfl rfl rfl Tryd.sizeOf31 rfl (Nat.le_of_ble_eq_true rfl) (splice_all rfl) (by simp) (fun _ => by simp) ?_)
   refine nlnm ?_
   refine aw_ret ?_
   refine then_ret ?_
   exact ⟨.inr rfl, _, (ESt A B rw P l (k3) (d3) (4)), (res_one rfl (resv_cell [_] rfl rfl Tryd.isAgg31 Tryd.sizeOf31 (pk_all rfl rfl))), subS_of (.cons _ (.cons _ (.refl _))) (.refl _), ⟨.zero, k3, d3, 4, rfl, by rw [parP_bind2]; exact (Run.from hr3).bind (by rw [her, if_neg (by rw [ha5]; decide)]; exact .err _ _ _ _ rfl (by decide)), hk3, by decide, (fun h => nomatch h), by omega, by omega, rfl⟩⟩
 ·skip
  refine wmv rfl rfl rfl rfl rfl ?_
  refine wyy rfl rfl rfl (ay_nilCheck rfl rfl) ?_
  refine wyy rfl rfl rfl (ay_fieldAddr 3 3 rfl rfl Tryd.runUnderlying68 rfl Tryd.sizeOf36 (by decide) rfl) ?_
  refine wyy rfl rfl rfl (ay_load_box (_ :: _ :: A) rfl rfl rfl Tryd.isAgg36 Tryd.sizeOf36 rfl (fun _ h => by cases h)) ?_
  refine wyy rfl rfl rfl (ay_cmp true rfl rfl rfl (by simp [cmpR, her])) ?_
  refine nlnm ?_
  refine aw_condT rfl rfl ?_
  refine sqrg ?_
  refine wyy rfl rfl rfl (ay_load_box [] rfl rfl rfl Tryd.isAgg31 Tryd.sizeOf31 rfl (fun _ h => by cases h)) ?_
  refine wo rfl (wst1 rfl rfl rfl rfl rfl Tryd.sizeOf31 rfl (Nat.le_of_ble_eq_true rfl) (splice_all rfl) (by simp) (fun _ => by simp) ?_)
  refine nlnm ?_
  refine aw_ret ?_
  refine then_ret ?_
  exact ⟨.inr rfl, _, (ESt A B rw P l (k3) (d3) (e3)), (res_one rfl (resv_cell [_] rfl rfl Tryd.isAgg31 Tryd.sizeOf31 (pk_all rfl rfl))), subS_of (.cons _ (.cons _ (.refl _))) (.refl _), ⟨x3, k3, d3, e3, rfl, by rw [parP_bind2]; exact (Run.from hr3).bind (.skip her _ _), hk3, he3, fun h => absurd h her, by omega, by omega, rfl⟩⟩
set_option maxRecDepth 100000 in
set_option maxHeartbeats 1600000 in
theorem single_24 (A B : List Box) (rw : List ORow) (P : Nat) (l : List Tok) (k : Nat) (hok : TOk l) (hk : k < l.length) : ACall Tryd.prog 59 [.c (.val (.pointer (some ⟨P, 0, none⟩)))] [P] (ESt A B rw P l k 24 0) (EAn A B rw P l 24 k (singleP l 0 k)) := by
 have hlen := hok.len
 refine acall_body Tryd.func59 rfl (Nat.le_of_ble_eq_true rfl) ?_
 show AWp Tryd.prog _ ⟨59, [P], ⟨A ++ ⟨P, 68, [.sl l.length (l.flatMap encT), .val (.int .i64 ((k : Nat) : Int)), .val (.int .i64 ((24 : Nat) : Int)), .val (.int .i64 ((0 : Nat) : Int))]⟩ :: B, rw⟩, [(0, .c (.val (.pointer (some ⟨P, 0, none⟩))))]⟩ _
 refine sqrg ?_
 refine wo rfl (walloc rfl rfl (by decide) Tryd.zeroValue31 rfl fun b1 => ?_)
 refine nlnm ?_
 refine aw_seq ?_
 refine aw_region_drew [b1, P] (by kernel_rfl) ?_
 refine tq 0 (by kernel_rfl) rfl rfl rfl rfl (ay_move rfl rfl) ?_
 refine tq 1 (by kernel_rfl) rfl rfl rfl rfl (ay_nilCheck rfl rfl) ?_
 refine tq 2 (by kernel_rfl) rfl rfl rfl rfl (ay_fieldAddr 0 0 rfl rfl Tryd.runUnderlying68 rfl Tryd.sizeOf34 (by decide) rfl) ?_
 refine tq 3 (by kernel_rfl) rfl rfl rfl rfl (ay_load_box (_ :: A) rfl rfl rfl Tryd.isAgg34 Tryd.sizeOf34 rfl (fun _ h => (mem_off.1 h).2 (by simp))) ?_
 refine tq 4 (by kernel_rfl) rfl rfl rfl rfl (ay_move rfl rfl) ?_
 refine tq 5 (by kernel_rfl) rfl rfl rfl rfl (ay_nilCheck rfl rfl) ?_
 refine tq 6 (by kernel_rfl) rfl rfl rfl rfl (ay_fieldAddr 1 1 rfl rfl Tryd.runUnderlying68 rfl Tryd.sizeOf3 (by decide) rfl) ?_
 refine tq 7 (by kernel_rfl) rfl rfl rfl rfl (ay_load_box (_ :: A) rfl rfl rfl Tryd.isAgg3 Tryd.sizeOf3 rfl (fun _ h => (mem_off.1 h).2 (by simp))) ?_
 refine tq 8 (by kernel_rfl) rfl rfl rfl rfl (ay_ix encT encT l encT_len (fun _ => rfl) (k) rfl rfl rfl rfl hk (by decide) Tryd.runUnderlying34 Tryd.sizeOf65) ?_
 refine tq 9 (by kernel_rfl) rfl rfl rfl rfl (ay_load_el rfl rfl Tryd.isAgg65 Tryd.sizeOf65 (pk_head rfl rfl)) ?_
 refine one 10 (by kernel_rfl) rfl rfl (walloc rfl rfl (by decide) Tryd.zeroValue65 rfl fun b2 => ?_)
 refine one 11 (by kernel_rfl) rfl rfl (wst0 rfl rfl rfl rfl rfl Tryd.sizeOf65 rfl (Nat.le_of_ble_eq_true rfl) (splice_all rfl) (by simp) (fun h => mem_off.2 ⟨by simp [Sto.bl], fun hh => by simp only [List.mem_cons, List.not_mem_nil, or_false] at hh; rcases hh with rfl | rfl <;> simp [Sto.bl] at h⟩) ?_)
 refine any_done (by kernel_rfl) ?_
 refine then_normal ?_
 refine aw_seq ?_
 refine aw_block ?_
 refine sqrg ?_
 rcases (show l[k].kind = 2 ∨ (¬ l[k].kind = 2 ∧ l[k].kind = 1) ∨ (¬ l[k].kind = 2 ∧ ¬ l[k].kind = 1) by omega) with h2 | ⟨h2, h1⟩ | ⟨h2, h1⟩
 ·skip
  have hm := hok.last.more hk (by rw [tokAt_lt hk, h2]; decide)
  refine wyy rfl rfl rfl (ay_fieldAddr 0 0 rfl rfl Tryd.runUnderlying65 rfl Tryd.sizeOf3 (by decide) rfl) ?_
  refine wyy rfl rfl rfl (ay_load_box [] rfl rfl rfl Tryd.isAgg3 Tryd.sizeOf3 rfl (fun _ h => by cases h)) ?_
  refine wyy rfl rfl rfl (ay_cmp true rfl rfl rfl (by rw [h2]; rfl)) ?_
  refine wag rfl rfl rfl rfl rfl ?_
  refine nlnm ?_
  refine aw_condT rfl rfl ?_
  refine sqrg ?_
  refine wmv rfl rfl rfl rfl rfl ?_
  refine wyy rfl rfl rfl (ay_nilCheck rfl rfl) ?_
  refine wyy rfl rfl rfl (ay_fieldAddr 1 1 rfl rfl Tryd.runUnderlying68 rfl Tryd.sizeOf3 (by decide) rfl) ?_
  refine wyy rfl rfl rfl (ay_load_box (_ :: _ :: A) rfl rfl rfl Tryd.isAgg3 Tryd.sizeOf3 rfl (fun _ h => by cases h)) ?_
  refine wyy rfl rfl rfl (ay_add rfl rfl rfl (by omega) (by omega)) ?_
  refine wyy rfl rfl rfl (ay_nilCheck rfl rfl) ?_
  refine wyy rfl rfl rfl (ay_fieldAddr 1 1 rfl rfl Tryd.runUnderlying68 rfl Tryd.sizeOf3 (by decide) rfl) ?_
  refine wo rfl (wstA2 rfl rfl rfl rfl rfl Tryd.sizeOf3 rfl (Nat.le_of_ble_eq_true rfl) rfl (by simp) (fun _ => by simp) ?_)
  refine nx ?_
  refine wyy rfl rfl rfl (ay_fieldAddr 2 2 rfl rfl Tryd.runUnderlying65 rfl Tryd.sizeOf3 (by decide) rfl) ?_
  refine wyy rfl rfl rfl (ay_load_box [] rfl rfl rfl Tryd.isAgg3 Tryd.sizeOf3 rfl (fun _ h => by cases h)) ?_
  refine wyy rfl rfl rfl (ay_build Tryd.t31 [(0, 1), (1, 1), (2, 1), (3, 1)] rfl (.cons rfl (.cons rfl .nil)) Tryd.underlying31 (by kernel_rfl) rfl (by kernel_rfl) rfl rfl) ?_
  refine wo rfl (wst1 rfl rfl rfl rfl rfl Tryd.sizeOf31 rfl (Nat.le_of_ble_eq_true rfl) (splice_all rfl) (by simp) (fun _ => by simp) ?_)
  refine nlnm ?_
  refine aw_ret ?_
  refine inB_ret ?_
  refine then_ret ?_
  exact ⟨.inr rfl, _, (ESt A B rw P l (k + 1) (24) (0)), (res_wk (Wk.agg (.cons (WkC.refl _) (.cons (WkC.refl _) (.cons (WkC.refl _) (.cons wk_nil .nil))))) (res_one rfl (resv_cell [_] rfl rfl Tryd.isAgg31 Tryd.sizeOf31 (pk_all rfl rfl)))), subS_of (.cons _ (.cons _ (.refl _))) (.refl _), ⟨.mk 1 (l[k].num : Int) emptyB [], k + 1, 24, 0, rfl, .ok _ _ _ (by unfold singleP; rw [tokAt_lt hk, if_pos h2]), hm, by decide, fun _ => rfl, Nat.le_refl _, by omega, rfl⟩⟩
 ·skip
  have hm := hok.last.more hk (by rw [tokAt_lt hk, h1]; decide)
  refine wyy rfl rfl rfl (ay_fieldAddr 0 0 rfl rfl Tryd.runUnderlying65 rfl Tryd.sizeOf3 (by decide) rfl) ?_
  refine wyy rfl rfl rfl (ay_load_box [] rfl rfl rfl Tryd.isAgg3 Tryd.sizeOf3 rfl (fun _ h => by cases h)) ?_
  refine wyy rfl rfl rfl (ay_cmp false rfl rfl rfl (by rw [show cmpR .eql ((l[k].kind : Nat) : Int) 2 = some (decide (l[k].kind = 2)) from cmp_nat (n := 2), decide_eq_false h2])) ?_
  refine wag rfl rfl rfl rfl rfl ?_
  refine nlnm ?_
  refine aw_condF rfl rfl ?_
  refine sqrg ?_
  refine wyy rfl rfl rfl (ay_fieldAddr 0 0 rfl rfl Tryd.runUnderlying65 rfl Tryd.sizeOf3 (by decide) rfl) ?_
  refine wyy rfl rfl rfl (ay_load_box [] rfl rfl rfl Tryd.isAgg3 Tryd.sizeOf3 rfl (fun _ h => by cases h)) ?_
  refine wyy rfl rfl rfl (ay_cmp true rfl rfl rfl (by rw [h1]; rfl)) ?_
  refine wag rfl rfl rfl rfl rfl ?_
  refine nlnm ?_
  refine aw_condT rfl rfl ?_
  refine sqrg ?_
  refine wmv rfl rfl rfl rfl rfl ?_
  refine wyy rfl rfl rfl (ay_nilCheck rfl rfl) ?_
  refine wyy rfl rfl rfl (ay_fieldAddr 1 1 rfl rfl Tryd.runUnderlying68 rfl Tryd.sizeOf3 (by decide) rfl) ?_
  refine wyy rfl rfl rfl (ay_load_box (_ :: _ :: A) rfl rfl rfl Tryd.isAgg3 Tryd.sizeOf3 rfl (fun _ h => by cases h)) ?_
  refine wyy rfl rfl rfl (ay_add rfl rfl rfl (by omega) (by omega)) ?_
  refine wyy rfl rfl rfl (ay_nilCheck rfl rfl) ?_
  refine wyy rfl rfl rfl (ay_fieldAddr 1 1 rfl rfl Tryd.runUnderlying68 rfl Tryd.sizeOf3 (by decide) rfl) ?_
  refine wo rfl (wstA2 rfl rfl rfl rfl rfl Tryd.sizeOf3 rfl (Nat.le_of_ble_eq_true rfl) rfl (by simp) (fun _ => by simp) ?_)
  refine nx ?_
  refine wyy rfl rfl rfl (ay_fieldAddr 1 1 rfl rfl Tryd.runUnderlying65 rfl Tryd.sizeOf9 (by decide) rfl) ?_
  refine wyy rfl rfl rfl (ay_load_box [] rfl rfl rfl Tryd.isAgg9 Tryd.sizeOf9 rfl (fun _ h => by cases h)) ?_
  refine wyy rfl rfl rfl (ay_build Tryd.t31 [(0, 1), (1, 1), (2, 1), (3, 1)] rfl (.cons rfl (.cons rfl .nil)) Tryd.underlying31 (by kernel_rfl) rfl (by kernel_rfl) rfl rfl) ?_
  refine wo rfl (wst1 rfl rfl rfl rfl rfl Tryd.sizeOf31 rfl (Nat.le_of_ble_eq_true rfl) (splice_all rfl) (by simp) (fun _ => by simp) ?_)
  refine nlnm ?_
  refine aw_ret ?_
  refine inB_ret ?_
  refine then_ret ?_
  exact ⟨.inr rfl, _, (ESt A B rw P l (k + 1) (24) (0)), (res_wk (Wk.agg (.cons (WkC.refl _) (.cons (WkC.refl _) (.cons (WkC.refl _) (.cons wk_nil .nil))))) (res_one rfl (resv_cell [_] rfl rfl Tryd.isAgg31 Tryd.sizeOf31 (pk_all rfl rfl)))), subS_of (.cons _ (.cons _ (.refl _))) (.refl _), ⟨.mk 2 0 l[k].text [], k + 1, 24, 0, rfl, .ok _ _ _ (by unfold singleP; rw [tokAt_lt hk, if_neg h2, if_pos h1]), hm, by decide, fun _ => rfl, Nat.le_refl _, by omega, rfl⟩⟩
 ·skip
  refine wyy rfl rfl rfl (ay_fieldAddr 0 0 rfl rfl Tryd.runUnderlying65 rfl Tryd.sizeOf3 (by decide) rfl) ?_
  refine wyy rfl rfl rfl (ay_load_box [] rfl rfl rfl Tryd.isAgg3 Tryd.sizeOf3 rfl (fun _ h => by cases h)) ?_
  refine wyy rfl rfl rfl (ay_cmp false rfl rfl rfl (by rw [show cmpR .eql ((l[k].kind : Nat) : Int) 2 = some (decide (l[k].kind = 2)) from cmp_nat (n := 2), decide_eq_false h2])) ?_
  refine wag rfl rfl rfl rfl rfl ?_
  refine nlnm ?_
  refine aw_condF rfl rfl ?_
  refine sqrg ?_
  refine wyy rfl rfl rfl (ay_fieldAddr 0 0 rfl rfl Tryd.runUnderlying65 rfl Tryd.sizeOf3 (by decide) rfl) ?_
  refine wyy rfl rfl rfl (ay_load_box [] rfl rfl rfl Tryd.isAgg3 Tryd.sizeOf3 rfl (fun _ h => by cases h)) ?_
  refine wyy rfl rfl rfl (ay_cmp false rfl rfl rfl (by rw [show cmpR .eql ((l[k].kind : Nat) : Int) 1 = some (decide (l[k].kind = 1)) from cmp_nat (n := 1), decide_eq_false h1])) ?_
  refine wag rfl rfl rfl rfl rfl ?_
  refine nlnm ?_
  refine aw_condF rfl rfl ?_
  refine sqrg ?_
  refine wmv rfl rfl rfl rfl rfl ?_
  refine wcP rfl rfl rfl rfl Tryd.call78 rfl (isE_d (_ :: _ :: A) _ _ _ l k 24 0 [45] hk) (by simp) (by simp [Sto.bl]) ?_
  rintro t6 s6 (⟨ha6, rfl, rfl⟩ | ⟨ha6, rfl, rfl⟩)
  ·refine wag rfl rfl rfl rfl rfl ?_
   refine nlnm ?_
   refine aw_condT rfl rfl ?_
   refine sqrg ?_
   refine wmv rfl rfl rfl rfl rfl ?_
   have hm := sign_more hok.last hk ha6
   refine wcP rfl rfl rfl rfl Tryd.call79 rfl (prefixed_24 (_ :: _ :: A) _ _ _ l k 3 hok hk) (by simp) (by simp [Sto.bl]) ?_
   rintro t8 s8 ⟨x8, k8, d8, e8, rfl, hr8, hk8, he8, hd8, hl8, hu8, rfl⟩
   refine wo rfl (wst1 rfl rfl rfl rfl rfl Tryd.sizeOf31 rfl (Nat.le_of_ble_eq_true rfl) (splice_all rfl) (by simp) (fun _ => by simp) ?_)
   refine nlnm ?_
   refine aw_ret ?_
   refine inB_ret ?_
   refine then_ret ?_
   exact ⟨.inr rfl, _, (ESt A B rw P l (k8) (d8) (e8)), (res_one rfl (resv_cell [_] rfl rfl Tryd.isAgg31 Tryd.sizeOf31 (pk_all rfl rfl))), subS_of (.cons _ (.cons _ (.refl _))) (.refl _), ⟨x8, k8, d8, e8, rfl, hr8.eq fun _ => by unfold singleP; rw [if_neg (by rw [tokAt_lt hk]; exact h2), if_neg (by rw [tokAt_lt hk]; exact h1)]; rw [if_pos (by simp [ha6])], hk8, he8, hd8, hl8, hu8, rfl⟩⟩
  ·refine wag rfl rfl rfl rfl rfl ?_
   refine nlnm ?_
   refine aw_condF rfl rfl ?_
   refine sqrg ?_
   refine wmv rfl rfl rfl rfl rfl ?_
   refine wcP rfl rfl rfl rfl Tryd.call78 rfl (isE_d (_ :: _ :: A) _ _ _ l k 24 0 [33] hk) (by simp) (by simp [Sto.bl]) ?_
   rintro t10 s10 (⟨ha10, rfl, rfl⟩ | ⟨ha10, rfl, rfl⟩)
   ·refine wag rfl rfl rfl rfl rfl ?_
    refine nlnm ?_
    refine aw_condT rfl rfl ?_
    refine sqrg ?_
    refine wmv rfl rfl rfl rfl rfl ?_
    have hm := sign_more hok.last hk ha10
    refine wcP rfl rfl rfl rfl Tryd.call79 rfl (prefixed_24 (_ :: _ :: A) _ _ _ l k 4 hok hk) (by simp) (by simp [Sto.bl]) ?_
    rintro t12 s12 ⟨x12, k12, d12, e12, rfl, hr12, hk12, he12, hd12, hl12, hu12, rfl⟩
    refine wo rfl (wst1 rfl rfl rfl rfl rfl Tryd.sizeOf31 rfl (Nat.le_of_ble_eq_true rfl) (splice_all rfl) (by simp) (fun _ => by simp) ?_)
    refine nlnm ?_
    refine aw_ret ?_
    refine inB_ret ?_
    refine then_ret ?_
    exact ⟨.inr rfl, _, (ESt A B rw P l (k12) (d12) (e12)), (res_one rfl (resv_cell [_] rfl rfl Tryd.isAgg31 Tryd.sizeOf31 (pk_all rfl rfl))), subS_of (.cons _ (.cons _ (.refl _))) (.refl _), ⟨x12, k12, d12, e12, rfl, hr12.eq fun _ => by unfold singleP; rw [if_neg (by rw [tokAt_lt hk]; exact h2), if_neg (by rw [tokAt_lt hk]; exact h1)]; rw [if_pos (by simp [ha10])], hk12, he12, hd12, hl12, hu12, rfl⟩⟩
   ·refine wag rfl rfl rfl rfl rfl ?_
    refine nlnm ?_
    refine aw_condF rfl rfl ?_
    refine sqrg ?_
    refine wmv rfl rfl rfl rfl rfl ?_
    refine wcP rfl rfl rfl rfl Tryd.call78 rfl (isE_d (_ :: _ :: A) _ _ _ l k 24 0 [40] hk) (by simp) (by simp [Sto.bl]) ?_
    rintro t14 s14 (⟨ha14, rfl, rfl⟩ | ⟨ha14, rfl, rfl⟩)
    ·refine wag rfl rfl rfl rfl rfl ?_
     refine nlnm ?_
     refine aw_condT rfl rfl ?_
     refine sqrg ?_
     refine wmv rfl rfl rfl rfl rfl ?_
     have hm := sign_more hok.last hk ha14
     refine wcP rfl rfl rfl rfl Tryd.call80 rfl (enclosed_24 (_ :: _ :: A) _ _ _ l k hok hk) (by simp) (by simp [Sto.bl]) ?_
     rintro t16 s16 ⟨x16, k16, d16, e16, rfl, hr16, hk16, he16, hd16, hl16, hu16, rfl⟩
     refine wo rfl (wst1 rfl rfl rfl rfl rfl Tryd.sizeOf31 rfl (Nat.le_of_ble_eq_true rfl) (splice_all rfl) (by simp) (fun _ => by simp) ?_)
     refine nlnm ?_
     refine aw_ret ?_
     refine inB_ret ?_
     refine then_ret ?_
     exact ⟨.inr rfl, _, (ESt A B rw P l (k16) (d16) (e16)), (res_one rfl (resv_cell [_] rfl rfl Tryd.isAgg31 Tryd.sizeOf31 (pk_all rfl rfl))), subS_of (.cons _ (.cons _ (.refl _))) (.refl _), ⟨x16, k16, d16, e16, rfl, hr16.eq fun _ => by unfold singleP; rw [if_neg (by rw [tokAt_lt hk]; exact h2), if_neg (by rw [tokAt_lt hk]; exact h1)]; rw [if_pos (by simp [ha14])], hk16, he16, hd16, hl16, hu16, rfl⟩⟩
    ·refine wag rfl rfl rfl rfl rfl ?_
     refine nlnm ?_
     refine aw_condF rfl rfl ?_
     refine aw_skip ?_
     refine inB_normal ?_
     refine then_normal ?_
     refine sqrg ?_
     refine wmv rfl rfl rfl rfl rfl ?_
     refine wcP rfl rfl rfl rfl Tryd.call81 rfl (failE_c (_ :: _ :: A) _ _ _ l k 24 0 4) (by simp) (by simp [Sto.bl]) ?_
     rintro t18 s18 ⟨rfl, rfl⟩
     refine wo rfl (wst1 rfl rfl rfl rfl rfl Tryd.sizeOf31 rfl (Nat.le_of_ble_eq_true rfl) (splice_all rfl) (by simp) (fun _ => by simp) ?_)
     refine nlnm ?_
     refine aw_ret ?_
     exact ⟨.inr rfl, _, (ESt A B rw P l (k) (24) (4)), (res_one rfl (resv_cell [_] rfl rfl Tryd.isAgg31 Tryd.sizeOf31 (pk_all rfl rfl))), subS_of (.cons _ (.cons _ (.refl _))) (.refl _), ⟨.zero, k, 24, 4, rfl, .err _ _ _ _ (by unfold singleP; rw [if_neg (by rw [tokAt_lt hk]; exact h2), if_neg (by rw [tokAt_lt hk]; exact h1)]; rw [ha6, ha10, ha14]; rfl) (by decide), hk, by decide, (fun h => nomatch h), Nat.le_refl _, by omega, rfl⟩⟩
set_option maxRecDepth 100000 in
set_option maxHeartbeats 1600000 in
theorem single_lt (A B : List Box) (rw : List ORow) (P : Nat) (l : List Tok) (k d j : Nat) (hok : TOk l) (hk : k < l.length) (hd : d < 24) (ih : ∀ (A B : List Box) (rw : List ORow) (P : Nat) (k : Nat), k < l.length → ACall Tryd.prog 59 [.c (.val (.pointer (some ⟨P, 0, none⟩)))] [P] (ESt A B rw P l k (d + 1) 0) (EAn A B rw P l (d + 1) k (singleP l j k))) (ihb : ∀ (A B : List Box) (rw : List ORow) (P : Nat) (k : Nat), k < l.length → ACall Tryd.prog 28 [.c (.val (.pointer (some ⟨P, 0, none⟩))), .c (.val (.int .i64 1))] [P] (ESt A B rw P l k (d + 1) 0) (EAn A B rw P l (d + 1) k (binP l (singleP l j) 5 k))) : ACall Tryd.prog 59 [.c (.val (.pointer (some ⟨P, 0, none⟩)))] [P] (ESt A B rw P l k d 0) (EAn A B rw P l d k (singleP l (j + 1) k)) := by
 have hlen := hok.len
 refine acall_body Tryd.func59 rfl (Nat.le_of_ble_eq_true rfl) ?_
 show AWp Tryd.prog _ ⟨59, [P], ⟨A ++ ⟨P, 68, [.sl l.length (l.flatMap encT), .val (.int .i64 ((k : Nat) : Int)), .val (.int .i64 ((d : Nat) : Int)), .val (.int .i64 ((0 : Nat) : Int))]⟩ :: B, rw⟩, [(0, .c (.val (.pointer (some ⟨P, 0, none⟩))))]⟩ _
 refine sqrg ?_
 refine wo rfl (walloc rfl rfl (by decide) Tryd.zeroValue31 rfl fun b1 => ?_)
 refine nlnm ?_
 refine aw_seq ?_
 refine aw_region_drew [b1, P] (by kernel_rfl) ?_
 refine tq 0 (by kernel_rfl) rfl rfl rfl rfl (ay_move rfl rfl) ?_
 refine tq 1 (by kernel_rfl) rfl rfl rfl rfl (ay_nilCheck rfl rfl) ?_
 refine tq 2 (by kernel_rfl) rfl rfl rfl rfl (ay_fieldAddr 0 0 rfl rfl Tryd.runUnderlying68 rfl Tryd.sizeOf34 (by decide) rfl) ?_
 refine tq 3 (by kernel_rfl) rfl rfl rfl rfl (ay_load_box (_ :: A) rfl rfl rfl Tryd.isAgg34 Tryd.sizeOf34 rfl (fun _ h => (mem_off.1 h).2 (by simp))) ?_
 refine tq 4 (by kernel_rfl) rfl rfl rfl rfl (ay_move rfl rfl) ?_
 refine tq 5 (by kernel_rfl) rfl rfl rfl rfl (ay_nilCheck rfl rfl) ?_
 refine tq 6 (by kernel_rfl) rfl rfl rfl rfl (ay_fieldAddr 1 1 rfl rfl Tryd.runUnderlying68 rfl Tryd.sizeOf3 (by decide) rfl) ?_
 refine tq 7 (by kernel_rfl) rfl rfl rfl rfl (ay_load_box (_ :: A) rfl rfl rfl Tryd.isAgg3 Tryd.sizeOf3 rfl (fun _ h => (mem_off.1 h).2 (by simp))) ?_
 refine tq 8 (by kernel_rfl) rfl rfl rfl rfl (ay_ix encT encT l encT_len (fun _ => rfl) (k) rfl rfl rfl rfl hk (by decide) Tryd.runUnderlying34 Tryd.sizeOf65) ?_
 refine tq 9 (by kernel_rfl) rfl rfl rfl rfl (ay_load_el rfl rfl Tryd.isAgg65 Tryd.sizeOf65 (pk_head rfl rfl)) ?_
 refine one 10 (by kernel_rfl) rfl rfl (walloc rfl rfl (by decide) Tryd.zeroValue65 rfl fun b2 => ?_)
 refine one 11 (by kernel_rfl) rfl rfl (wst0 rfl rfl rfl rfl rfl Tryd.sizeOf65 rfl (Nat.le_of_ble_eq_true rfl) (splice_all rfl) (by simp) (fun h => mem_off.2 ⟨by simp [Sto.bl], fun hh => by simp only [List.mem_cons, List.not_mem_nil, or_false] at hh; rcases hh with rfl | rfl <;> simp [Sto.bl] at h⟩) ?_)
 refine any_done (by kernel_rfl) ?_
 refine then_normal ?_
 refine aw_seq ?_
 refine aw_block ?_
 refine sqrg ?_
 rcases (show l[k].kind = 2 ∨ (¬ l[k].kind = 2 ∧ l[k].kind = 1) ∨ (¬ l[k].kind = 2 ∧ ¬ l[k].kind = 1) by omega) with h2 | ⟨h2, h1⟩ | ⟨h2, h1⟩
 ·skip
  have hm := hok.last.more hk (by rw [tokAt_lt hk, h2]; decide)
  refine wyy rfl rfl rfl (ay_fieldAddr 0 0 rfl rfl Tryd.runUnderlying65 rfl Tryd.sizeOf3 (by decide) rfl) ?_
  refine wyy rfl rfl rfl (ay_load_box [] rfl rfl rfl Tryd.isAgg3 Tryd.sizeOf3 rfl (fun _ h => by cases h)) ?_
  refine wyy rfl rfl rfl (ay_cmp true rfl rfl rfl (by rw [h2]; rfl)) ?_
  refine wag rfl rfl rfl rfl rfl ?_
  refine nlnm ?_
  refine aw_condT rfl rfl ?_
  refine sqrg ?_
  refine wmv rfl rfl rfl rfl rfl ?_
  refine wyy rfl rfl rfl (ay_nilCheck rfl rfl) ?_
  refine wyy rfl rfl rfl (ay_fieldAddr 1 1 rfl rfl Tryd.runUnderlying68 rfl Tryd.sizeOf3 (by decide) rfl) ?_
  refine wyy rfl rfl rfl (ay_load_box (_ :: _ :: A) rfl rfl rfl Tryd.isAgg3 Tryd.sizeOf3 rfl (fun _ h => by cases h)) ?_
  refine wyy rfl rfl rfl (ay_add rfl rfl rfl (by omega) (by omega)) ?_
  refine wyy rfl rfl rfl (ay_nilCheck rfl rfl) ?_
  refine wyy rfl rfl rfl (ay_fieldAddr 1 1 rfl rfl Tryd.runUnderlying68 rfl Tryd.sizeOf3 (by decide) rfl) ?_
  refine wo rfl (wstA2 rfl rfl rfl rfl rfl Tryd.sizeOf3 rfl (Nat.le_of_ble_eq_true rfl) rfl (by simp) (fun _ => by simp) ?_)
  refine nx ?_
  refine wyy rfl rfl rfl (ay_fieldAddr 2 2 rfl rfl Tryd.runUnderlying65 rfl Tryd.sizeOf3 (by decide) rfl) ?_
  refine wyy rfl rfl rfl (ay_load_box [] rfl rfl rfl Tryd.isAgg3 Tryd.sizeOf3 rfl (fun _ h => by cases h)) ?_
  refine wyy rfl rfl rfl (ay_build Tryd.t31 [(0, 1), (1, 1), (2, 1), (3, 1)] rfl (.cons rfl (.cons rfl .nil)) Tryd.underlying31 (by kernel_rfl) rfl (by kernel_rfl) rfl rfl) ?_
  refine wo rfl (wst1 rfl rfl rfl rfl rfl Tryd.sizeOf31 rfl (Nat.le_of_ble_eq_true rfl) (splice_all rfl) (by simp) (fun _ => by simp) ?_)
  refine nlnm ?_
  refine aw_ret ?_
  refine inB_ret ?_
  refine then_ret ?_
  exact ⟨.inr rfl, _, (ESt A B rw P l (k + 1) (d) (0)), (res_wk (Wk.agg (.cons (WkC.refl _) (.cons (WkC.refl _) (.cons (WkC.refl _) (.cons wk_nil .nil))))) (res_one rfl (resv_cell [_] rfl rfl Tryd.isAgg31 Tryd.sizeOf31 (pk_all rfl rfl)))), subS_of (.cons _ (.cons _ (.refl _))) (.refl _), ⟨.mk 1 (l[k].num : Int) emptyB [], k + 1, d, 0, rfl, .ok _ _ _ (by rw [singleP.eq_2]; rw [tokAt_lt hk, if_pos h2]), hm, by decide, fun _ => rfl, Nat.le_refl _, by omega, rfl⟩⟩
 ·skip
  have hm := hok.last.more hk (by rw [tokAt_lt hk, h1]; decide)
  refine wyy rfl rfl rfl (ay_fieldAddr 0 0 rfl rfl Tryd.runUnderlying65 rfl Tryd.sizeOf3 (by decide) rfl) ?_
  refine wyy rfl rfl rfl (ay_load_box [] rfl rfl rfl Tryd.isAgg3 Tryd.sizeOf3 rfl (fun _ h => by cases h)) ?_
  refine wyy rfl rfl rfl (ay_cmp false rfl rfl rfl (by rw [show cmpR .eql ((l[k].kind : Nat) : Int) 2 = some (decide (l[k].kind = 2)) from cmp_nat (n := 2), decide_eq_false h2])) ?_
  refine wag rfl rfl rfl rfl rfl ?_
  refine nlnm ?_
  refine aw_condF rfl rfl ?_
  refine sqrg ?_
  refine wyy rfl rfl rfl (ay_fieldAddr 0 0 rfl rfl Tryd.runUnderlying65 rfl Tryd.sizeOf3 (by decide) rfl) ?_
  refine wyy rfl rfl rfl (ay_load_box [] rfl rfl rfl Tryd.isAgg3 Tryd.sizeOf3 rfl (fun _ h => by cases h)) ?_
  refine wyy rfl rfl rfl (ay_cmp true rfl rfl rfl (by rw [h1]; rfl)) ?_
  refine wag rfl rfl rfl rfl rfl ?_
  refine nlnm ?_
  refine aw_condT rfl rfl ?_
  refine sqrg ?_
  refine wmv rfl rfl rfl rfl rfl ?_
  refine wyy rfl rfl rfl (ay_nilCheck rfl rfl) ?_
  refine wyy rfl rfl rfl (ay_fieldAddr 1 1 rfl rfl Tryd.runUnderlying68 rfl Tryd.sizeOf3 (by decide) rfl) ?_
  refine wyy rfl rfl rfl (ay_load_box (_ :: _ :: A) rfl rfl rfl Tryd.isAgg3 Tryd.sizeOf3 rfl (fun _ h => by cases h)) ?_
  refine wyy rfl rfl rfl (ay_add rfl rfl rfl (by omega) (by omega)) ?_
  refine wyy rfl rfl rfl (ay_nilCheck rfl rfl) ?_
  refine wyy rfl rfl rfl (ay_fieldAddr 1 1 rfl rfl Tryd.runUnderlying68 rfl Tryd.sizeOf3 (by decide) rfl) ?_
  refine wo rfl (wstA2 rfl rfl rfl rfl rfl Tryd.sizeOf3 rfl (Nat.le_of_ble_eq_true rfl) rfl (by simp) (fun _ => by simp) ?_)
  refine nx ?_
  refine wyy rfl rfl rfl (ay_fieldAddr 1 1 rfl rfl Tryd.runUnderlying65 rfl Tryd.sizeOf9 (by decide) rfl) ?_
  refine wyy rfl rfl rfl (ay_load_box [] rfl rfl rfl Tryd.isAgg9 Tryd.sizeOf9 rfl (fun _ h => by cases h)) ?_
  refine wyy rfl rfl rfl (ay_build Tryd.t31 [(0, 1), (1, 1), (2, 1), (3, 1)] rfl (.cons rfl (.cons rfl .nil)) Tryd.underlying31 (by kernel_rfl) rfl (by kernel_rfl) rfl rfl) ?_
  refine wo rfl (wst1 rfl rfl rfl rfl rfl Tryd.sizeOf31 rfl (Nat.le_of_ble_eq_true rfl) (splice_all rfl) (by simp) (fun _ => by simp) ?_)
  refine nlnm ?_
  refine aw_ret ?_
  refine inB_ret ?_
  refine then_ret ?_
  exact ⟨.inr rfl, _, (ESt A B rw P l (k + 1) (d) (0)), (res_wk (Wk.agg (.cons (WkC.refl _) (.cons (WkC.refl _) (.cons (WkC.refl _) (.cons wk_nil .nil))))) (res_one rfl (resv_cell [_] rfl rfl Tryd.isAgg31 Tryd.sizeOf31 (pk_all rfl rfl)))), subS_of (.cons _ (.cons _ (.refl _))) (.refl _), ⟨.mk 2 0 l[k].text [], k + 1, d, 0, rfl, .ok _ _ _ (by rw [singleP.eq_2]; rw [tokAt_lt hk, if_neg h2, if_pos h1]), hm, by decide, fun _ => rfl, Nat.le_refl _, by omega, rfl⟩⟩
 ·skip
  refine wyy rfl rfl rfl (ay_fieldAddr 0 0 rfl rfl Tryd.runUnderlying65 rfl Tryd.sizeOf3 (by decide) rfl) ?_
  refine wyy rfl rfl rfl (ay_load_box [] rfl rfl rfl Tryd.isAgg3 Tryd.sizeOf3 rfl (fun _ h => by cases h)) ?_
  refine wyy rfl rfl rfl (ay_cmp false rfl rfl rfl (by rw [show cmpR .eql ((l[k].kind : Nat) : Int) 2 = some (decide (l[k].kind = 2)) from cmp_nat (n := 2), decide_eq_false h2])) ?_
  refine wag rfl rfl rfl rfl rfl ?_
  refine nlnm ?_
  refine aw_condF rfl rfl ?_
  refine sqrg ?_
  refine wyy rfl rfl rfl (ay_fieldAddr 0 0 rfl rfl Tryd.runUnderlying65 rfl Tryd.sizeOf3 (by decide) rfl) ?_
  refine wyy rfl rfl rfl (ay_load_box [] rfl rfl rfl Tryd.isAgg3 Tryd.sizeOf3 rfl (fun _ h => by cases h)) ?_
  refine wyy rfl rfl rfl (ay_cmp false rfl rfl rfl (by rw [show cmpR .eql ((l[k].kind : Nat) : Int) 1 = some (decide (l[k].kind = 1)) from cmp_nat (n := 1), decide_eq_false h1])) ?_
  refine wag rfl rfl rfl rfl rfl ?_
  refine nlnm ?_
  refine aw_condF rfl rfl ?_
  refine sqrg ?_
  refine wmv rfl rfl rfl rfl rfl ?_
  refine wcP rfl rfl rfl rfl Tryd.call78 rfl (isE_d (_ :: _ :: A) _ _ _ l k d 0 [45] hk) (by simp) (by simp [Sto.bl]) ?_
  rintro t6 s6 (⟨ha6, rfl, rfl⟩ | ⟨ha6, rfl, rfl⟩)
  ·refine wag rfl rfl rfl rfl rfl ?_
   refine nlnm ?_
   refine aw_condT rfl rfl ?_
   refine sqrg ?_
   refine wmv rfl rfl rfl rfl rfl ?_
   have hm := sign_more hok.last hk ha6
   refine wcP rfl rfl rfl rfl Tryd.call79 rfl (prefixed_lt (_ :: _ :: A) _ _ _ l k d j 3 hok hk hm (by omega) ih) (by simp) (by simp [Sto.bl]) ?_
   rintro t8 s8 ⟨x8, k8, d8, e8, rfl, hr8, hk8, he8, hd8, hl8, hu8, rfl⟩
   refine wo rfl (wst1 rfl rfl rfl rfl rfl Tryd.sizeOf31 rfl (Nat.le_of_ble_eq_true rfl) (splice_all rfl) (by simp) (fun _ => by simp) ?_)
   refine nlnm ?_
   refine aw_ret ?_
   refine inB_ret ?_
   refine then_ret ?_
   exact ⟨.inr rfl, _, (ESt A B rw P l (k8) (d8) (e8)), (res_one rfl (resv_cell [_] rfl rfl Tryd.isAgg31 Tryd.sizeOf31 (pk_all rfl rfl))), subS_of (.cons _ (.cons _ (.refl _))) (.refl _), ⟨x8, k8, d8, e8, rfl, hr8.eq fun _ => by rw [singleP.eq_2]; rw [if_neg (by rw [tokAt_lt hk]; exact h2), if_neg (by rw [tokAt_lt hk]; exact h1)]; rw [if_pos ha6], hk8, he8, hd8, hl8, hu8, rfl⟩⟩
  ·refine wag rfl rfl rfl rfl rfl ?_
   refine nlnm ?_
   refine aw_condF rfl rfl ?_
   refine sqrg ?_
   refine wmv rfl rfl rfl rfl rfl ?_
   refine wcP rfl rfl rfl rfl Tryd.call78 rfl (isE_d (_ :: _ :: A) _ _ _ l k d 0 [33] hk) (by simp) (by simp [Sto.bl]) ?_
   rintro t10 s10 (⟨ha10, rfl, rfl⟩ | ⟨ha10, rfl, rfl⟩)
   ·refine wag rfl rfl rfl rfl rfl ?_
    refine nlnm ?_
    refine aw_condT rfl rfl ?_
    refine sqrg ?_
    refine wmv rfl rfl rfl rfl rfl ?_
    have hm := sign_more hok.last hk ha10
    refine wcP rfl rfl rfl rfl Tryd.call79 rfl (prefixed_lt (_ :: _ :: A) _ _ _ l k d j 4 hok hk hm (by omega) ih) (by simp) (by simp [Sto.bl]) ?_
    rintro t12 s12 ⟨x12, k12, d12, e12, rfl, hr12, hk12, he12, hd12, hl12, hu12, rfl⟩
    refine wo rfl (wst1 rfl rfl rfl rfl rfl Tryd.sizeOf31 rfl (Nat.le_of_ble_eq_true rfl) (splice_all rfl) (by simp) (fun _ => by simp) ?_)
    refine nlnm ?_
    refine aw_ret ?_
    refine inB_ret ?_
    refine then_ret ?_
    exact ⟨.inr rfl, _, (ESt A B rw P l (k12) (d12) (e12)), (res_one rfl (resv_cell [_] rfl rfl Tryd.isAgg31 Tryd.sizeOf31 (pk_all rfl rfl))), subS_of (.cons _ (.cons _ (.refl _))) (.refl _), ⟨x12, k12, d12, e12, rfl, hr12.eq fun _ => by rw [singleP.eq_2]; rw [if_neg (by rw [tokAt_lt hk]; exact h2), if_neg (by rw [tokAt_lt hk]; exact h1)]; rw [if_neg (by rw [ha6]; decide), if_pos ha10], hk12, he12, hd12, hl12, hu12, rfl⟩⟩
   ·refine wag rfl rfl rfl rfl rfl ?_
    refine nlnm ?_
    refine aw_condF rfl rfl ?_
    refine sqrg ?_
    refine wmv rfl rfl rfl rfl rfl ?_
    refine wcP rfl rfl rfl rfl Tryd.call78 rfl (isE_d (_ :: _ :: A) _ _ _ l k d 0 [40] hk) (by simp) (by simp [Sto.bl]) ?_
    rintro t14 s14 (⟨ha14, rfl, rfl⟩ | ⟨ha14, rfl, rfl⟩)
    ·refine wag rfl rfl rfl rfl rfl ?_
     refine nlnm ?_
     refine aw_condT rfl rfl ?_
     refine sqrg ?_
     refine wmv rfl rfl rfl rfl rfl ?_
     have hm := sign_more hok.last hk ha14
     refine wcP rfl rfl rfl rfl Tryd.call80 rfl (enclosed_lt (_ :: _ :: A) _ _ _ l k d j hok hk hm (by omega) ihb) (by simp) (by simp [Sto.bl]) ?_
     rintro t16 s16 ⟨x16, k16, d16, e16, rfl, hr16, hk16, he16, hd16, hl16, hu16, rfl⟩
     refine wo rfl (wst1 rfl rfl rfl rfl rfl Tryd.sizeOf31 rfl (Nat.le_of_ble_eq_true rfl) (splice_all rfl) (by simp) (fun _ => by simp) ?_)
     refine nlnm ?_
     refine aw_ret ?_
     refine inB_ret ?_
     refine then_ret ?_
     exact ⟨.inr rfl, _, (ESt A B rw P l (k16) (d16) (e16)), (res_one rfl (resv_cell [_] rfl rfl Tryd.isAgg31 Tryd.sizeOf31 (pk_all rfl rfl))), subS_of (.cons _ (.cons _ (.refl _))) (.refl _), ⟨x16, k16, d16, e16, rfl, hr16.eq fun _ => by rw [singleP.eq_2]; rw [if_neg (by rw [tokAt_lt hk]; exact h2), if_neg (by rw [tokAt_lt hk]; exact h1)]; rw [if_neg (by rw [ha6]; decide), if_neg (by rw [ha10]; decide), if_pos ha14], hk16, he16, hd16, hl16, hu16, rfl⟩⟩
    ·refine wag rfl rfl rfl rfl rfl ?_
     refine nlnm ?_
     refine aw_condF rfl rfl ?_
     refine aw_skip ?_
     refine inB_normal ?_
     refine then_normal ?_
     refine sqrg ?_
     refine wmv rfl rfl rfl rfl rfl ?_
     refine wcP rfl rfl rfl rfl Tryd.call81 rfl (failE_c (_ :: _ :: A) _ _ _ l k d 0 4) (by simp) (by simp [Sto.bl]) ?_
     rintro t18 s18 ⟨rfl, rfl⟩
     refine wo rfl (wst1 rfl rfl rfl rfl rfl Tryd.sizeOf31 rfl (Nat.le_of_ble_eq_true rfl) (splice_all rfl) (by simp) (fun _ => by simp) ?_)
     refine nlnm ?_
     refine aw_ret ?_
     exact ⟨.inr rfl, _, (ESt A B rw P l (k) (d) (4)), (res_one rfl (resv_cell [_] rfl rfl Tryd.isAgg31 Tryd.sizeOf31 (pk_all rfl rfl))), subS_of (.cons _ (.cons _ (.refl _))) (.refl _), ⟨.zero, k, d, 4, rfl, .err _ _ _ _ (by rw [singleP.eq_2]; rw [if_neg (by rw [tokAt_lt hk]; exact h2), if_neg (by rw [tokAt_lt hk]; exact h1)]; rw [if_neg (by rw [ha6]; decide), if_neg (by rw [ha10]; decide), if_neg (by rw [ha14]; decide)]) (by decide), hk, by decide, (fun h => nomatch h), Nat.le_refl _, by omega, rfl⟩⟩
end Go.Proofs.YtflcnehhpmjipaaDoor
