import Derived.Test.YtflcnehhpmjipaaDoorAwE2J
set_option linter.unusedVariables false
set_option linter.unusedSimpArgs false
namespace Go.Proofs.YtflcnehhpmjipaaDoor
open Go.RowKit
abbrev PSt (A B : List Box) (rw : List ORow) (P : Nat) (l : List Tok) (k dp e : Nat) : Sto := ⟨A ++ ⟨P, 73, [.sl l.length (l.flatMap encT), .val (.int .i64 (k : Int)), .val (.int .i64 (dp : Int)), .val (.int .i64 (e : Int))]⟩ :: B, rw⟩
def PAn {α : Type} (A B : List Box) (rw : List ORow) (P : Nat) (l : List Tok) (dp : Nat) (enc : α → AT) (e k : Nat) (r : PRes α) (t : AT) (s : Sto) : Prop :=
 ∃ x k1 e1, t = enc x ∧ Run e k r x k1 e1 ∧ k1 < l.length ∧ e1 < 16 ∧ s = PSt A B rw P l k1 dp e1
def FailP (e x e1 : Nat) : Prop := (e = 0 → x = e1) ∧ (e ≠ 0 → e = e1)
theorem FailP.small {e x e1 : Nat} (h : FailP e x e1) (he : e < 16) (hx : x < 16) : e1 < 16 := by
 by_cases h0 : e = 0
 ·rw [← h.1 h0]; exact hx
 ·rw [← h.2 h0]; exact he
theorem FailP.run {α : Type} {e k x e1 : Nat} {r : PRes α} (h : FailP e x e1) (hx : x ≠ 0) (hr : e = 0 → r = .err k x) (y : α) : Run e k r y k e1 := by
 by_cases he : e = 0
 ·obtain rfl := h.1 he
  subst he
  exact .err _ _ _ _ (hr rfl) hx
 ·obtain rfl := h.2 he
  exact .skip he _ _
theorem wordP_more {l : List Tok} (h : TOk l) {k : Nat} (hk : k < l.length) {s : List UInt8} (ha : wordAt l k s = true) : k + 1 < l.length := h.last.more hk (by rw [(wordAt_kind ha).1]; decide)
set_option maxRecDepth 100000 in
set_option maxHeartbeats 1600000 in
theorem failP_0 (A B : List Box) (rw : List ORow) (P : Nat) (l : List Tok) (k dp x : Nat) : ACall Tryd.prog 68 [.c (.val (.pointer (some ⟨P, 0, none⟩))), .c (.val (.int .i64 (x : Int)))] [P] (PSt A B rw P l k dp 0) fun t s => t = .tup [] ∧ s = PSt A B rw P l k dp x := by
 refine acall_body Tryd.func68 rfl (Nat.le_of_ble_eq_true rfl) ?_
 show AWp Tryd.prog _ ⟨13, [P], ⟨A ++ ⟨P, 73, [.sl l.length (l.flatMap encT), .val (.int .i64 ((k : Nat) : Int)), .val (.int .i64 ((dp : Nat) : Int)), .val (.int .i64 ((0 : Nat) : Int))]⟩ :: B, rw⟩, [(0, .c (.val (.pointer (some ⟨P, 0, none⟩)))), (1, .c (.val (.int .i64 (x : Int))))]⟩ _
 refine sqrg ?_
 refine wmv rfl rfl rfl rfl rfl ?_
 refine wyy rfl rfl rfl (ay_nilCheck rfl rfl) ?_
 refine wyy rfl rfl rfl (ay_fieldAddr 3 3 rfl rfl Tryd.runUnderlying73 rfl Tryd.sizeOf36 (by decide) rfl) ?_
 refine wyy rfl rfl rfl (ay_load_box (A) rfl rfl rfl Tryd.isAgg36 Tryd.sizeOf36 rfl (fun _ h => by cases h)) ?_
 refine wyy rfl rfl rfl (ay_cmp true rfl rfl rfl (by rfl)) ?_
 refine nlnm ?_
 refine aw_condT rfl rfl ?_
 refine aw_region ?_
 refine wmv rfl rfl rfl rfl rfl ?_
 refine wmv rfl rfl rfl rfl rfl ?_
 refine wyy rfl rfl rfl (ay_nilCheck rfl rfl) ?_
 refine wyy rfl rfl rfl (ay_fieldAddr 3 3 rfl rfl Tryd.runUnderlying73 rfl Tryd.sizeOf36 (by decide) rfl) ?_
 refine wo rfl (wstA0 rfl rfl rfl rfl rfl Tryd.sizeOf36 rfl (Nat.le_of_ble_eq_true rfl) rfl (by simp) (fun _ => by simp) ?_)
 refine aops_nil ?_
 exact ⟨.inl rfl, _, (PSt A B rw P l (k) (dp) (x)), res_none rfl, subS_of (.refl _) (.refl _), rfl, rfl⟩
set_option maxRecDepth 100000 in
set_option maxHeartbeats 1600000 in
theorem failP_1 (A B : List Box) (rw : List ORow) (P : Nat) (l : List Tok) (k dp x e : Nat) (he0 : e ≠ 0) : ACall Tryd.prog 68 [.c (.val (.pointer (some ⟨P, 0, none⟩))), .c (.val (.int .i64 (x : Int)))] [P] (PSt A B rw P l k dp e) fun t s => t = .tup [] ∧ s = PSt A B rw P l k dp e := by
 refine acall_body Tryd.func68 rfl (Nat.le_of_ble_eq_true rfl) ?_
 show AWp Tryd.prog _ ⟨13, [P], ⟨A ++ ⟨P, 73, [.sl l.length (l.flatMap encT), .val (.int .i64 ((k : Nat) : Int)), .val (.int .i64 ((dp : Nat) : Int)), .val (.int .i64 ((e : Nat) : Int))]⟩ :: B, rw⟩, [(0, .c (.val (.pointer (some ⟨P, 0, none⟩)))), (1, .c (.val (.int .i64 (x : Int))))]⟩ _
 refine sqrg ?_
 refine wmv rfl rfl rfl rfl rfl ?_
 refine wyy rfl rfl rfl (ay_nilCheck rfl rfl) ?_
 refine wyy rfl rfl rfl (ay_fieldAddr 3 3 rfl rfl Tryd.runUnderlying73 rfl Tryd.sizeOf36 (by decide) rfl) ?_
 refine wyy rfl rfl rfl (ay_load_box (A) rfl rfl rfl Tryd.isAgg36 Tryd.sizeOf36 rfl (fun _ h => by cases h)) ?_
 refine wyy rfl rfl rfl (ay_cmp false rfl rfl rfl (eq_nat0 he0)) ?_
 refine nlnm ?_
 refine aw_condF rfl rfl ?_
 refine aw_skip ?_
 exact ⟨.inl rfl, _, (PSt A B rw P l (k) (dp) (e)), res_none rfl, subS_of (.refl _) (.refl _), rfl, rfl⟩
theorem failP_c (A B : List Box) (rw : List ORow) (P : Nat) (l : List Tok) (k dp e : Nat) (x : Nat) : ACall Tryd.prog 68 [.c (.val (.pointer (some ⟨P, 0, none⟩))), .c (.val (.int .i64 (x : Int)))] [P] (PSt A B rw P l k dp e) fun t s => ∃ e1, FailP e x e1 ∧ t = .tup [] ∧ s = PSt A B rw P l k dp e1 := by
 by_cases he : e = 0
 ·subst he
  exact (failP_0 A B rw P l k dp x).mono fun t s h => ⟨x, ⟨fun _ => rfl, fun h => absurd rfl h⟩, h⟩
 ·exact (failP_1 A B rw P l k dp x e he).mono fun t s h => ⟨e, ⟨fun h => absurd h he, fun _ => rfl⟩, h⟩
set_option maxRecDepth 100000 in
set_option maxHeartbeats 1600000 in
theorem kindP_s0 (A B : List Box) (rw : List ORow) (P : Nat) (l : List Tok) (k dp kk e : Nat) (sg : ByteArray) (hk : k < l.length) (he0 : e ≠ 0) : ACall Tryd.prog 66 [.c (.val (.pointer (some ⟨P, 0, none⟩))), .c (.val (.int .i64 (kk : Int))), .c (.val (.string sg))] [P] (PSt A B rw P l k dp e) fun t s => t = .c (.val (.bool false)) ∧ s = PSt A B rw P l k dp e := by
 refine acall_body Tryd.func66 rfl (Nat.le_of_ble_eq_true rfl) ?_
 show AWp Tryd.prog _ ⟨42, [P], ⟨A ++ ⟨P, 73, [.sl l.length (l.flatMap encT), .val (.int .i64 ((k : Nat) : Int)), .val (.int .i64 ((dp : Nat) : Int)), .val (.int .i64 ((e : Nat) : Int))]⟩ :: B, rw⟩, [(0, .c (.val (.pointer (some ⟨P, 0, none⟩)))), (1, .c (.val (.int .i64 (kk : Int)))), (2, .c (.val (.string sg)))]⟩ _
 refine sqrg ?_
 refine wag rfl rfl rfl rfl rfl ?_
 refine nlnm ?_
 refine aw_seq ?_
 refine aw_region_drew [P] (by kernel_rfl) ?_
 refine tq 0 (by kernel_rfl) rfl rfl rfl rfl (ay_move rfl rfl) ?_
 refine tq 1 (by kernel_rfl) rfl rfl rfl rfl (ay_nilCheck rfl rfl) ?_
 refine tq 2 (by kernel_rfl) rfl rfl rfl rfl (ay_fieldAddr 3 3 rfl rfl Tryd.runUnderlying73 rfl Tryd.sizeOf36 (by decide) rfl) ?_
 refine tq 3 (by kernel_rfl) rfl rfl rfl rfl (ay_load_box (A) rfl rfl rfl Tryd.isAgg36 Tryd.sizeOf36 rfl (fun _ h => (mem_off.1 h).2 (by simp))) ?_
 refine tq 4 (by kernel_rfl) rfl rfl rfl rfl (ay_cmp false rfl rfl rfl (eq_nat0 he0)) ?_
 refine tq 5 (by kernel_rfl) rfl rfl rfl rfl (ay_move rfl rfl) ?_
 refine tkskip 6 (by kernel_rfl) rfl (by kernel_rfl) (by kernel_rfl) rfl rfl (by decide) ?_
 refine tkskip 7 (by kernel_rfl) rfl (by kernel_rfl) (by kernel_rfl) rfl rfl (by decide) ?_
 refine tkskip 8 (by kernel_rfl) rfl (by kernel_rfl) (by kernel_rfl) rfl rfl (by decide) ?_
 refine tkskip 9 (by kernel_rfl) rfl (by kernel_rfl) (by kernel_rfl) rfl rfl (by decide) ?_
 refine tkskip 10 (by kernel_rfl) rfl (by kernel_rfl) (by kernel_rfl) rfl rfl (by decide) ?_
 refine tkskip 11 (by kernel_rfl) rfl (by kernel_rfl) (by kernel_rfl) rfl rfl (by decide) ?_
 refine tkskip 12 (by kernel_rfl) rfl (by kernel_rfl) (by kernel_rfl) rfl rfl (by decide) ?_
 refine tkskip 13 (by kernel_rfl) rfl (by kernel_rfl) (by kernel_rfl) rfl rfl (by decide) ?_
 refine tkskip 14 (by kernel_rfl) rfl (by kernel_rfl) (by kernel_rfl) rfl rfl (by decide) ?_
 refine tkskip 15 (by kernel_rfl) rfl (by kernel_rfl) (by kernel_rfl) rfl rfl (by decide) ?_
 refine tkskip 16 (by kernel_rfl) rfl (by kernel_rfl) (by kernel_rfl) rfl rfl (by decide) ?_
 refine tkskip 17 (by kernel_rfl) rfl (by kernel_rfl) (by kernel_rfl) rfl rfl (by decide) ?_
 refine tkskip 18 (by kernel_rfl) rfl (by kernel_rfl) (by kernel_rfl) rfl rfl (by decide) ?_
 refine tq 19 (by kernel_rfl) rfl rfl rfl rfl (ay_pick rfl rfl rfl) ?_
 refine tq 20 (by kernel_rfl) rfl rfl rfl rfl (ay_move rfl rfl) ?_
 refine tkskip 21 (by kernel_rfl) rfl (by kernel_rfl) (by kernel_rfl) rfl rfl (by decide) ?_
 refine tkskip 22 (by kernel_rfl) rfl (by kernel_rfl) (by kernel_rfl) rfl rfl (by decide) ?_
 refine tkskip 23 (by kernel_rfl) rfl (by kernel_rfl) (by kernel_rfl) rfl rfl (by decide) ?_
 refine tkskip 24 (by kernel_rfl) rfl (by kernel_rfl) (by kernel_rfl) rfl rfl (by decide) ?_
 refine tkskip 25 (by kernel_rfl) rfl (by kernel_rfl) (by kernel_rfl) rfl rfl (by decide) ?_
 refine tkskip 26 (by kernel_rfl) rfl (by kernel_rfl) (by kernel_rfl) rfl rfl (by decide) ?_
 refine tkskip 27 (by kernel_rfl) rfl (by kernel_rfl) (by kernel_rfl) rfl rfl (by decide) ?_
 refine tkskip 28 (by kernel_rfl) rfl (by kernel_rfl) (by kernel_rfl) rfl rfl (by decide) ?_
 refine tkskip 29 (by kernel_rfl) rfl (by kernel_rfl) (by kernel_rfl) rfl rfl (by decide) ?_
 refine tkskip 30 (by kernel_rfl) rfl (by kernel_rfl) (by kernel_rfl) rfl rfl (by decide) ?_
 refine tkskip 31 (by kernel_rfl) rfl (by kernel_rfl) (by kernel_rfl) rfl rfl (by decide) ?_
 refine tkskip 32 (by kernel_rfl) rfl (by kernel_rfl) (by kernel_rfl) rfl rfl (by decide) ?_
 refine tkskip 33 (by kernel_rfl) rfl (by kernel_rfl) (by kernel_rfl) rfl rfl (by decide) ?_
 refine tq 34 (by kernel_rfl) rfl rfl rfl rfl (ay_pick rfl rfl rfl) ?_
 refine tq 35 (by kernel_rfl) rfl rfl rfl rfl (ay_assign rfl rfl) ?_
 refine any_done (by kernel_rfl) ?_
 refine then_normal ?_
 refine aw_ret ?_
 exact ⟨.inr rfl, _, (PSt A B rw P l (k) (dp) (e)), res_one rfl (resv_tmp rfl), subS_of (.refl _) (.refl _), rfl, rfl⟩
set_option maxRecDepth 100000 in
set_option maxHeartbeats 1600000 in
theorem kindP_00 (A B : List Box) (rw : List ORow) (P : Nat) (l : List Tok) (k dp kk : Nat) (sg : ByteArray) (hk : k < l.length) (h4 : ¬ l[k].kind = kk) : ACall Tryd.prog 66 [.c (.val (.pointer (some ⟨P, 0, none⟩))), .c (.val (.int .i64 (kk : Int))), .c (.val (.string sg))] [P] (PSt A B rw P l k dp 0) fun t s => t = .c (.val (.bool false)) ∧ s = PSt A B rw P l k dp 0 := by
 refine acall_body Tryd.func66 rfl (Nat.le_of_ble_eq_true rfl) ?_
 show AWp Tryd.prog _ ⟨42, [P], ⟨A ++ ⟨P, 73, [.sl l.length (l.flatMap encT), .val (.int .i64 ((k : Nat) : Int)), .val (.int .i64 ((dp : Nat) : Int)), .val (.int .i64 ((0 : Nat) : Int))]⟩ :: B, rw⟩, [(0, .c (.val (.pointer (some ⟨P, 0, none⟩)))), (1, .c (.val (.int .i64 (kk : Int)))), (2, .c (.val (.string sg)))]⟩ _
 refine sqrg ?_
 refine wag rfl rfl rfl rfl rfl ?_
 refine nlnm ?_
 refine aw_seq ?_
 refine aw_region_drew [P] (by kernel_rfl) ?_
 refine tq 0 (by kernel_rfl) rfl rfl rfl rfl (ay_move rfl rfl) ?_
 refine tq 1 (by kernel_rfl) rfl rfl rfl rfl (ay_nilCheck rfl rfl) ?_
 refine tq 2 (by kernel_rfl) rfl rfl rfl rfl (ay_fieldAddr 3 3 rfl rfl Tryd.runUnderlying73 rfl Tryd.sizeOf36 (by decide) rfl) ?_
 refine tq 3 (by kernel_rfl) rfl rfl rfl rfl (ay_load_box (A) rfl rfl rfl Tryd.isAgg36 Tryd.sizeOf36 rfl (fun _ h => (mem_off.1 h).2 (by simp))) ?_
 refine tq 4 (by kernel_rfl) rfl rfl rfl rfl (ay_cmp true rfl rfl rfl (by rfl)) ?_
 refine tq 5 (by kernel_rfl) rfl rfl rfl rfl (ay_move rfl rfl) ?_
 refine tq 6 (by kernel_rfl) rfl rfl rfl rfl (ay_move rfl rfl) ?_
 refine tq 7 (by kernel_rfl) rfl rfl rfl rfl (ay_nilCheck rfl rfl) ?_
 refine tq 8 (by kernel_rfl) rfl rfl rfl rfl (ay_fieldAddr 0 0 rfl rfl Tryd.runUnderlying73 rfl Tryd.sizeOf34 (by decide) rfl) ?_
 refine tq 9 (by kernel_rfl) rfl rfl rfl rfl (ay_load_box (A) rfl rfl rfl Tryd.isAgg34 Tryd.sizeOf34 rfl (fun _ h => (mem_off.1 h).2 (by simp))) ?_
 refine tq 10 (by kernel_rfl) rfl rfl rfl rfl (ay_move rfl rfl) ?_
 refine tq 11 (by kernel_rfl) rfl rfl rfl rfl (ay_nilCheck rfl rfl) ?_
 refine tq 12 (by kernel_rfl) rfl rfl rfl rfl (ay_fieldAddr 1 1 rfl rfl Tryd.runUnderlying73 rfl Tryd.sizeOf3 (by decide) rfl) ?_
 refine tq 13 (by kernel_rfl) rfl rfl rfl rfl (ay_load_box (A) rfl rfl rfl Tryd.isAgg3 Tryd.sizeOf3 rfl (fun _ h => (mem_off.1 h).2 (by simp))) ?_
 refine tq 14 (by kernel_rfl) rfl rfl rfl rfl (ay_ix encT encT l encT_len (fun _ => rfl) (k) rfl rfl rfl rfl hk (by decide) Tryd.runUnderlying34 Tryd.sizeOf65) ?_
 refine tq 15 (by kernel_rfl) rfl rfl rfl rfl (ay_fieldAddr_el 0 rfl rfl Tryd.runUnderlying65 rfl Tryd.sizeOf3 (by decide)) ?_
 refine tq 16 (by kernel_rfl) rfl rfl rfl rfl (ay_load_el rfl rfl Tryd.isAgg3 Tryd.sizeOf3 rfl) ?_
 refine tq 17 (by kernel_rfl) rfl rfl rfl rfl (ay_move rfl rfl) ?_
 refine tq 18 (by kernel_rfl) rfl rfl rfl rfl (ay_cmp false rfl rfl rfl (by rw [show cmpR .eql ((l[k].kind : Nat) : Int) ((kk : Nat) : Int) = some (decide (l[k].kind = kk)) from cmp_nat, decide_eq_false h4])) ?_
 refine tq 19 (by kernel_rfl) rfl rfl rfl rfl (ay_pick rfl rfl rfl) ?_
 refine tq 20 (by kernel_rfl) rfl rfl rfl rfl (ay_move rfl rfl) ?_
 refine tkskip 21 (by kernel_rfl) rfl (by kernel_rfl) (by kernel_rfl) rfl rfl (by decide) ?_
 refine tkskip 22 (by kernel_rfl) rfl (by kernel_rfl) (by kernel_rfl) rfl rfl (by decide) ?_
 refine tkskip 23 (by kernel_rfl) rfl (by kernel_rfl) (by kernel_rfl) rfl rfl (by decide) ?_
 refine tkskip 24 (by kernel_rfl) rfl (by kernel_rfl) (by kernel_rfl) rfl rfl (by decide) ?_
 refine tkskip 25 (by kernel_rfl) rfl (by kernel_rfl) (by kernel_rfl) rfl rfl (by decide) ?_
 refine tkskip 26 (by kernel_rfl) rfl (by kernel_rfl) (by kernel_rfl) rfl rfl (by decide) ?_
 refine tkskip 27 (by kernel_rfl) rfl (by kernel_rfl) (by kernel_rfl) rfl rfl (by decide) ?_
 refine tkskip 28 (by kernel_rfl) rfl (by kernel_rfl) (by kernel_rfl) rfl rfl (by decide) ?_
 refine tkskip 29 (by kernel_rfl) rfl (by kernel_rfl) (by kernel_rfl) rfl rfl (by decide) ?_
 refine tkskip 30 (by kernel_rfl) rfl (by kernel_rfl) (by kernel_rfl) rfl rfl (by decide) ?_
 refine tkskip 31 (by kernel_rfl) rfl (by kernel_rfl) (by kernel_rfl) rfl rfl (by decide) ?_
 refine tkskip 32 (by kernel_rfl) rfl (by kernel_rfl) (by kernel_rfl) rfl rfl (by decide) ?_
 refine tkskip 33 (by kernel_rfl) rfl (by kernel_rfl) (by kernel_rfl) rfl rfl (by decide) ?_
 refine tq 34 (by kernel_rfl) rfl rfl rfl rfl (ay_pick rfl rfl rfl) ?_
 refine tq 35 (by kernel_rfl) rfl rfl rfl rfl (ay_assign rfl rfl) ?_
 refine any_done (by kernel_rfl) ?_
 refine then_normal ?_
 refine aw_ret ?_
 exact ⟨.inr rfl, _, (PSt A B rw P l (k) (dp) (0)), res_one rfl (resv_tmp rfl), subS_of (.refl _) (.refl _), rfl, rfl⟩
set_option maxRecDepth 100000 in
set_option maxHeartbeats 1600000 in
theorem kindP_y0 (A B : List Box) (rw : List ORow) (P : Nat) (l : List Tok) (k dp kk : Nat) (sg : ByteArray) (hk : k < l.length) (h4 : l[k].kind = kk) (ht : l[k].text = sg) : ACall Tryd.prog 66 [.c (.val (.pointer (some ⟨P, 0, none⟩))), .c (.val (.int .i64 (kk : Int))), .c (.val (.string sg))] [P] (PSt A B rw P l k dp 0) fun t s => t = .c (.val (.bool true)) ∧ s = PSt A B rw P l k dp 0 := by
 refine acall_body Tryd.func66 rfl (Nat.le_of_ble_eq_true rfl) ?_
 show AWp Tryd.prog _ ⟨42, [P], ⟨A ++ ⟨P, 73, [.sl l.length (l.flatMap encT), .val (.int .i64 ((k : Nat) : Int)), .val (.int .i64 ((dp : Nat) : Int)), .val (.int .i64 ((0 : Nat) : Int))]⟩ :: B, rw⟩, [(0, .c (.val (.pointer (some ⟨P, 0, none⟩)))), (1, .c (.val (.int .i64 (kk : Int)))), (2, .c (.val (.string sg)))]⟩ _
 refine sqrg ?_
 refine wag rfl rfl rfl rfl rfl ?_
 refine nlnm ?_
 refine aw_seq ?_
 refine aw_region_drew [P] (by kernel_rfl) ?_
 refine tq 0 (by kernel_rfl) rfl rfl rfl rfl (ay_move rfl rfl) ?_
 refine tq 1 (by kernel_rfl) rfl rfl rfl rfl (ay_nilCheck rfl rfl) ?_
 refine tq 2 (by kernel_rfl) rfl rfl rfl rfl (ay_fieldAddr 3 3 rfl rfl Tryd.runUnderlying73 rfl Tryd.sizeOf36 (by decide) rfl) ?_
 refine tq 3 (by kernel_rfl) rfl rfl rfl rfl (ay_load_box (A) rfl rfl rfl Tryd.isAgg36 Tryd.sizeOf36 rfl (fun _ h => (mem_off.1 h).2 (by simp))) ?_
 refine tq 4 (by kernel_rfl) rfl rfl rfl rfl (ay_cmp true rfl rfl rfl (by rfl)) ?_
 refine tq 5 (by kernel_rfl) rfl rfl rfl rfl (ay_move rfl rfl) ?_
 refine tq 6 (by kernel_rfl) rfl rfl rfl rfl (ay_move rfl rfl) ?_
 refine tq 7 (by kernel_rfl) rfl rfl rfl rfl (ay_nilCheck rfl rfl) ?_
 refine tq 8 (by kernel_rfl) rfl rfl rfl rfl (ay_fieldAddr 0 0 rfl rfl Tryd.runUnderlying73 rfl Tryd.sizeOf34 (by decide) rfl) ?_
 refine tq 9 (by kernel_rfl) rfl rfl rfl rfl (ay_load_box (A) rfl rfl rfl Tryd.isAgg34 Tryd.sizeOf34 rfl (fun _ h => (mem_off.1 h).2 (by simp))) ?_
 refine tq 10 (by kernel_rfl) rfl rfl rfl rfl (ay_move rfl rfl) ?_
 refine tq 11 (by kernel_rfl) rfl rfl rfl rfl (ay_nilCheck rfl rfl) ?_
 refine tq 12 (by kernel_rfl) rfl rfl rfl rfl (ay_fieldAddr 1 1 rfl rfl Tryd.runUnderlying73 rfl Tryd.sizeOf3 (by decide) rfl) ?_
 refine tq 13 (by kernel_rfl) rfl rfl rfl rfl (ay_load_box (A) rfl rfl rfl Tryd.isAgg3 Tryd.sizeOf3 rfl (fun _ h => (mem_off.1 h).2 (by simp))) ?_
 refine tq 14 (by kernel_rfl) rfl rfl rfl rfl (ay_ix encT encT l encT_len (fun _ => rfl) (k) rfl rfl rfl rfl hk (by decide) Tryd.runUnderlying34 Tryd.sizeOf65) ?_
 refine tq 15 (by kernel_rfl) rfl rfl rfl rfl (ay_fieldAddr_el 0 rfl rfl Tryd.runUnderlying65 rfl Tryd.sizeOf3 (by decide)) ?_
 refine tq 16 (by kernel_rfl) rfl rfl rfl rfl (ay_load_el rfl rfl Tryd.isAgg3 Tryd.sizeOf3 rfl) ?_
 refine tq 17 (by kernel_rfl) rfl rfl rfl rfl (ay_move rfl rfl) ?_
 refine tq 18 (by kernel_rfl) rfl rfl rfl rfl (ay_cmp true rfl rfl rfl (by rw [h4]; simp [cmpR])) ?_
 refine tq 19 (by kernel_rfl) rfl rfl rfl rfl (ay_pick rfl rfl rfl) ?_
 refine tq 20 (by kernel_rfl) rfl rfl rfl rfl (ay_move rfl rfl) ?_
 refine tq 21 (by kernel_rfl) rfl rfl rfl rfl (ay_move rfl rfl) ?_
 refine tq 22 (by kernel_rfl) rfl rfl rfl rfl (ay_nilCheck rfl rfl) ?_
 refine tq 23 (by kernel_rfl) rfl rfl rfl rfl (ay_fieldAddr 0 0 rfl rfl Tryd.runUnderlying73 rfl Tryd.sizeOf34 (by decide) rfl) ?_
 refine tq 24 (by kernel_rfl) rfl rfl rfl rfl (ay_load_box (A) rfl rfl rfl Tryd.isAgg34 Tryd.sizeOf34 rfl (fun _ h => (mem_off.1 h).2 (by simp))) ?_
 refine tq 25 (by kernel_rfl) rfl rfl rfl rfl (ay_move rfl rfl) ?_
 refine tq 26 (by kernel_rfl) rfl rfl rfl rfl (ay_nilCheck rfl rfl) ?_
 refine tq 27 (by kernel_rfl) rfl rfl rfl rfl (ay_fieldAddr 1 1 rfl rfl Tryd.runUnderlying73 rfl Tryd.sizeOf3 (by decide) rfl) ?_
 refine tq 28 (by kernel_rfl) rfl rfl rfl rfl (ay_load_box (A) rfl rfl rfl Tryd.isAgg3 Tryd.sizeOf3 rfl (fun _ h => (mem_off.1 h).2 (by simp))) ?_
 refine tq 29 (by kernel_rfl) rfl rfl rfl rfl (ay_ix encT encT l encT_len (fun _ => rfl) (k) rfl rfl rfl rfl hk (by decide) Tryd.runUnderlying34 Tryd.sizeOf65) ?_
 refine tq 30 (by kernel_rfl) rfl rfl rfl rfl (ay_fieldAddr_el 1 rfl rfl Tryd.runUnderlying65 rfl Tryd.sizeOf9 (by decide)) ?_
 refine tq 31 (by kernel_rfl) rfl rfl rfl rfl (ay_load_el rfl rfl Tryd.isAgg9 Tryd.sizeOf9 rfl) ?_
 refine tq 32 (by kernel_rfl) rfl rfl rfl rfl (ay_move rfl rfl) ?_
 refine tq 33 (by kernel_rfl) rfl rfl rfl rfl (ay_streq true rfl rfl rfl (by rw [ht]; simp [strR])) ?_
 refine tq 34 (by kernel_rfl) rfl rfl rfl rfl (ay_pick rfl rfl rfl) ?_
 refine tq 35 (by kernel_rfl) rfl rfl rfl rfl (ay_assign rfl rfl) ?_
 refine any_done (by kernel_rfl) ?_
 refine then_normal ?_
 refine aw_ret ?_
 exact ⟨.inr rfl, _, (PSt A B rw P l (k) (dp) (0)), res_one rfl (resv_tmp rfl), subS_of (.refl _) (.refl _), rfl, rfl⟩
set_option maxRecDepth 100000 in
set_option maxHeartbeats 1600000 in
theorem kindP_n0 (A B : List Box) (rw : List ORow) (P : Nat) (l : List Tok) (k dp kk : Nat) (sg : ByteArray) (hk : k < l.length) (h4 : l[k].kind = kk) (ht : ¬ l[k].text = sg) : ACall Tryd.prog 66 [.c (.val (.pointer (some ⟨P, 0, none⟩))), .c (.val (.int .i64 (kk : Int))), .c (.val (.string sg))] [P] (PSt A B rw P l k dp 0) fun t s => t = .c (.val (.bool false)) ∧ s = PSt A B rw P l k dp 0 := by
 refine acall_body Tryd.func66 rfl (Nat.le_of_ble_eq_true rfl) ?_
 show AWp Tryd.prog _ ⟨42, [P], ⟨A ++ ⟨P, 73, [.sl l.length (l.flatMap encT), .val (.int .i64 ((k : Nat) : Int)), .val (.int .i64 ((dp : Nat) : Int)), .val (.int .i64 ((0 : Nat) : Int))]⟩ :: B, rw⟩, [(0, .c (.val (.pointer (some ⟨P, 0, none⟩)))), (1, .c (.val (.int .i64 (kk : Int)))), (2, .c (.val (.string sg)))]⟩ _
 refine sqrg ?_
 refine wag rfl rfl rfl rfl rfl ?_
 refine nlnm ?_
 refine aw_seq ?_
 refine aw_region_drew [P] (by kernel_rfl) ?_
 refine tq 0 (by kernel_rfl) rfl rfl rfl rfl (ay_move rfl rfl) ?_
 refine tq 1 (by kernel_rfl) rfl rfl rfl rfl (ay_nilCheck rfl rfl) ?_
 refine tq 2 (by kernel_rfl) rfl rfl rfl rfl (ay_fieldAddr 3 3 rfl rfl Tryd.runUnderlying73 rfl Tryd.sizeOf36 (by decide) rfl) ?_
 refine tq 3 (by kernel_rfl) rfl rfl rfl rfl (ay_load_box (A) rfl rfl rfl Tryd.isAgg36 Tryd.sizeOf36 rfl (fun _ h => (mem_off.1 h).2 (by simp))) ?_
 refine tq 4 (by kernel_rfl) rfl rfl rfl rfl (ay_cmp true rfl rfl rfl (by rfl)) ?_
 refine tq 5 (by kernel_rfl) rfl rfl rfl rfl (ay_move rfl rfl) ?_
 refine tq 6 (by kernel_rfl) rfl rfl rfl rfl (ay_move rfl rfl) ?_
 refine tq 7 (by kernel_rfl) rfl rfl rfl rfl (ay_nilCheck rfl rfl) ?_
 refine tq 8 (by kernel_rfl) rfl rfl rfl rfl (ay_fieldAddr 0 0 rfl rfl Tryd.runUnderlying73 rfl Tryd.sizeOf34 (by decide) rfl) ?_
 refine tq 9 (by kernel_rfl) rfl rfl rfl rfl (ay_load_box (A) rfl rfl rfl Tryd.isAgg34 Tryd.sizeOf34 rfl (fun _ h => (mem_off.1 h).2 (by simp))) ?_
 refine tq 10 (by kernel_rfl) rfl rfl rfl rfl (ay_move rfl rfl) ?_
 refine tq 11 (by kernel_rfl) rfl rfl rfl rfl (ay_nilCheck rfl rfl) ?_
 refine tq 12 (by kernel_rfl) rfl rfl rfl rfl (ay_fieldAddr 1 1 rfl rfl Tryd.runUnderlying73 rfl Tryd.sizeOf3 (by decide) rfl) ?_
 refine tq 13 (by kernel_rfl) rfl rfl rfl rfl (ay_load_box (A) rfl rfl rfl Tryd.isAgg3 Tryd.sizeOf3 rfl (fun _ h => (mem_off.1 h).2 (by simp))) ?_
 refine tq 14 (by kernel_rfl) rfl rfl rfl rfl (ay_ix encT encT l encT_len (fun _ => rfl) (k) rfl rfl rfl rfl hk (by decide) Tryd.runUnderlying34 Tryd.sizeOf65) ?_
 refine tq 15 (by kernel_rfl) rfl rfl rfl rfl (ay_fieldAddr_el 0 rfl rfl Tryd.runUnderlying65 rfl Tryd.sizeOf3 (by decide)) ?_
 refine tq 16 (by kernel_rfl) rfl rfl rfl rfl (ay_load_el rfl rfl Tryd.isAgg3 Tryd.sizeOf3 rfl) ?_
 refine tq 17 (by kernel_rfl) rfl rfl rfl rfl (ay_move rfl rfl) ?_
 refine tq 18 (by kernel_rfl) rfl rfl rfl rfl (ay_cmp true rfl rfl rfl (by rw [h4]; simp [cmpR])) ?_
 refine tq 19 (by kernel_rfl) rfl rfl rfl rfl (ay_pick rfl rfl rfl) ?_
 refine tq 20 (by kernel_rfl) rfl rfl rfl rfl (ay_move rfl rfl) ?_
 refine tq 21 (by kernel_rfl) rfl rfl rfl rfl (ay_move rfl rfl) ?_
 refine tq 22 (by kernel_rfl) rfl rfl rfl rfl (ay_nilCheck rfl rfl) ?_
 refine tq 23 (by kernel_rfl) rfl rfl rfl rfl (ay_fieldAddr 0 0 rfl rfl Tryd.runUnderlying73 rfl Tryd.sizeOf34 (by decide) rfl) ?_
 refine tq 24 (by kernel_rfl) rfl rfl rfl rfl (ay_load_box (A) rfl rfl rfl Tryd.isAgg34 Tryd.sizeOf34 rfl (fun _ h => (mem_off.1 h).2 (by simp))) ?_
 refine tq 25 (by kernel_rfl) rfl rfl rfl rfl (ay_move rfl rfl) ?_
 refine tq 26 (by kernel_rfl) rfl rfl rfl rfl (ay_nilCheck rfl rfl) ?_
 refine tq 27 (by kernel_rfl) rfl rfl rfl rfl (ay_fieldAddr 1 1 rfl rfl Tryd.runUnderlying73 rfl Tryd.sizeOf3 (by decide) rfl) ?_
 refine tq 28 (by kernel_rfl) rfl rfl rfl rfl (ay_load_box (A) rfl rfl rfl Tryd.isAgg3 Tryd.sizeOf3 rfl (fun _ h => (mem_off.1 h).2 (by simp))) ?_
 refine tq 29 (by kernel_rfl) rfl rfl rfl rfl (ay_ix encT encT l encT_len (fun _ => rfl) (k) rfl rfl rfl rfl hk (by decide) Tryd.runUnderlying34 Tryd.sizeOf65) ?_
 refine tq 30 (by kernel_rfl) rfl rfl rfl rfl (ay_fieldAddr_el 1 rfl rfl Tryd.runUnderlying65 rfl Tryd.sizeOf9 (by decide)) ?_
 refine tq 31 (by kernel_rfl) rfl rfl rfl rfl (ay_load_el rfl rfl Tryd.isAgg9 Tryd.sizeOf9 rfl) ?_
 refine tq 32 (by kernel_rfl) rfl rfl rfl rfl (ay_move rfl rfl) ?_
 refine tq 33 (by kernel_rfl) rfl rfl rfl rfl (ay_streq false rfl rfl rfl (by simp [strR, ht])) ?_
 refine tq 34 (by kernel_rfl) rfl rfl rfl rfl (ay_pick rfl rfl rfl) ?_
 refine tq 35 (by kernel_rfl) rfl rfl rfl rfl (ay_assign rfl rfl) ?_
 refine any_done (by kernel_rfl) ?_
 refine then_normal ?_
 refine aw_ret ?_
 exact ⟨.inr rfl, _, (PSt A B rw P l (k) (dp) (0)), res_one rfl (resv_tmp rfl), subS_of (.refl _) (.refl _), rfl, rfl⟩
theorem kindP_s (A B : List Box) (rw : List ORow) (P : Nat) (l : List Tok) (k dp e : Nat) (sg : List UInt8) (hk : k < l.length) : ACall Tryd.prog 66 [.c (.val (.pointer (some ⟨P, 0, none⟩))), .c (.val (.int .i64 4)), .c (.val (.string (bytes sg)))] [P] (PSt A B rw P l k dp e) fun t s => (e = 0 ∧ signAt l k sg = true ∧ t = .c (.val (.bool true)) ∧ s = PSt A B rw P l k dp e) ∨ ((e = 0 → signAt l k sg = false) ∧ t = .c (.val (.bool false)) ∧ s = PSt A B rw P l k dp e) := by
 unfold signAt
 rw [tokAt_lt hk]
 by_cases he : e = 0
 ·subst he
  by_cases h4 : l[k].kind = 4
  ·by_cases ht : l[k].text = bytes sg
   ·exact (kindP_y0 A B rw P l k dp 4 _ hk h4 ht).mono fun t s h => .inl ⟨rfl, by simp [h4, ht], h⟩
   ·exact (kindP_n0 A B rw P l k dp 4 _ hk h4 ht).mono fun t s h => .inr ⟨fun _ => by simp [ht], h⟩
  ·exact (kindP_00 A B rw P l k dp 4 _ hk h4).mono fun t s h => .inr ⟨fun _ => by simp [h4], h⟩
 ·exact (kindP_s0 A B rw P l k dp 4 e _ hk he).mono fun t s h => .inr ⟨fun h0 => absurd h0 he, h⟩
theorem kindP_w (A B : List Box) (rw : List ORow) (P : Nat) (l : List Tok) (k dp e : Nat) (sg : List UInt8) (hk : k < l.length) : ACall Tryd.prog 66 [.c (.val (.pointer (some ⟨P, 0, none⟩))), .c (.val (.int .i64 3)), .c (.val (.string (bytes sg)))] [P] (PSt A B rw P l k dp e) fun t s => (e = 0 ∧ wordAt l k sg = true ∧ t = .c (.val (.bool true)) ∧ s = PSt A B rw P l k dp e) ∨ ((e = 0 → wordAt l k sg = false) ∧ t = .c (.val (.bool false)) ∧ s = PSt A B rw P l k dp e) := by
 unfold wordAt
 rw [tokAt_lt hk]
 by_cases he : e = 0
 ·subst he
  by_cases h4 : l[k].kind = 3
  ·by_cases ht : l[k].text = bytes sg
   ·exact (kindP_y0 A B rw P l k dp 3 _ hk h4 ht).mono fun t s h => .inl ⟨rfl, by simp [h4, ht], h⟩
   ·exact (kindP_n0 A B rw P l k dp 3 _ hk h4 ht).mono fun t s h => .inr ⟨fun _ => by simp [ht], h⟩
  ·exact (kindP_00 A B rw P l k dp 3 _ hk h4).mono fun t s h => .inr ⟨fun _ => by simp [h4], h⟩
 ·exact (kindP_s0 A B rw P l k dp 3 e _ hk he).mono fun t s h => .inr ⟨fun h0 => absurd h0 he, h⟩
set_option maxRecDepth 100000 in
set_option maxHeartbeats 1600000 in
theorem accept_c (A B : List Box) (rw : List ORow) (P : Nat) (l : List Tok) (k dp e : Nat) (sg : List UInt8) (hok : TOk l) (hk : k < l.length) : ACall Tryd.prog 91 [.c (.val (.pointer (some ⟨P, 0, none⟩))), .c (.val (.string (bytes sg)))] [P] (PSt A B rw P l k dp e) fun t s => (e = 0 ∧ signAt l k sg = true ∧ k + 1 < l.length ∧ t = .c (.val (.bool true)) ∧ s = PSt A B rw P l (k + 1) dp 0) ∨ ((e = 0 → signAt l k sg = false) ∧ t = .c (.val (.bool false)) ∧ s = PSt A B rw P l k dp e) := by
 have hlen := hok.len
 refine acall_body Tryd.func91 rfl (Nat.le_of_ble_eq_true rfl) ?_
 show AWp Tryd.prog _ ⟨16, [P], ⟨A ++ ⟨P, 73, [.sl l.length (l.flatMap encT), .val (.int .i64 ((k : Nat) : Int)), .val (.int .i64 ((dp : Nat) : Int)), .val (.int .i64 ((e : Nat) : Int))]⟩ :: B, rw⟩, [(0, .c (.val (.pointer (some ⟨P, 0, none⟩)))), (1, .c (.val (.string (bytes sg))))]⟩ _
 refine sqrg ?_
 refine wag rfl rfl rfl rfl rfl ?_
 refine nlnm ?_
 refine aw_seq ?_
 refine sqrg ?_
 refine wmv rfl rfl rfl rfl rfl ?_
 refine wmv rfl rfl rfl rfl rfl ?_
 refine wcP rfl rfl rfl rfl Tryd.call66 rfl (kindP_s (A) _ _ _ l k dp e sg hk) (by simp) (by simp [Sto.bl]) ?_
 rintro t1 s1 (⟨rfl, ha1, rfl, rfl⟩ | ⟨ha1, rfl, rfl⟩)
 ·refine wyy rfl rfl rfl (ay_not rfl rfl) ?_
  refine nlnm ?_
  refine aw_condF rfl rfl ?_
  refine aw_skip ?_
  refine then_normal ?_
  refine sqrg ?_
  have hm := sign_more hok.last hk ha1
  refine wmv rfl rfl rfl rfl rfl ?_
  refine wyy rfl rfl rfl (ay_nilCheck rfl rfl) ?_
  refine wyy rfl rfl rfl (ay_fieldAddr 1 1 rfl rfl Tryd.runUnderlying73 rfl Tryd.sizeOf3 (by decide) rfl) ?_
  refine wyy rfl rfl rfl (ay_load_box (A) rfl rfl rfl Tryd.isAgg3 Tryd.sizeOf3 rfl (fun _ h => by cases h)) ?_
  refine wyy rfl rfl rfl (ay_add rfl rfl rfl (by omega) (by omega)) ?_
  refine wyy rfl rfl rfl (ay_nilCheck rfl rfl) ?_
  refine wyy rfl rfl rfl (ay_fieldAddr 1 1 rfl rfl Tryd.runUnderlying73 rfl Tryd.sizeOf3 (by decide) rfl) ?_
  refine wo rfl (wstA0 rfl rfl rfl rfl rfl Tryd.sizeOf3 rfl (Nat.le_of_ble_eq_true rfl) rfl (by simp) (fun _ => by simp) ?_)
  refine nx ?_
  refine wag rfl rfl rfl rfl rfl ?_
  refine nlnm ?_
  refine aw_ret ?_
  exact ⟨.inr rfl, _, (PSt A B rw P l (k + 1) (dp) (0)), res_one rfl (resv_tmp rfl), subS_of (.refl _) (.refl _), .inl ⟨rfl, ha1, hm, rfl, rfl⟩⟩
 ·refine wyy rfl rfl rfl (ay_not rfl rfl) ?_
  refine nlnm ?_
  refine aw_condT rfl rfl ?_
  refine sqrg ?_
  refine wag rfl rfl rfl rfl rfl ?_
  refine nlnm ?_
  refine aw_ret ?_
  refine then_ret ?_
  exact ⟨.inr rfl, _, (PSt A B rw P l (k) (dp) (e)), res_one rfl (resv_tmp rfl), subS_of (.refl _) (.refl _), .inr ⟨ha1, rfl, rfl⟩⟩
set_option maxRecDepth 100000 in
set_option maxHeartbeats 1600000 in
theorem word_c (A B : List Box) (rw : List ORow) (P : Nat) (l : List Tok) (k dp e : Nat) (sg : List UInt8) (hok : TOk l) (hk : k < l.length) : ACall Tryd.prog 96 [.c (.val (.pointer (some ⟨P, 0, none⟩))), .c (.val (.string (bytes sg)))] [P] (PSt A B rw P l k dp e) fun t s => (e = 0 ∧ wordAt l k sg = true ∧ k + 1 < l.length ∧ t = .c (.val (.bool true)) ∧ s = PSt A B rw P l (k + 1) dp 0) ∨ ((e = 0 → wordAt l k sg = false) ∧ t = .c (.val (.bool false)) ∧ s = PSt A B rw P l k dp e) := by
 have hlen := hok.len
 refine acall_body Tryd.func96 rfl (Nat.le_of_ble_eq_true rfl) ?_
 show AWp Tryd.prog _ ⟨16, [P], ⟨A ++ ⟨P, 73, [.sl l.length (l.flatMap encT), .val (.int .i64 ((k : Nat) : Int)), .val (.int .i64 ((dp : Nat) : Int)), .val (.int .i64 ((e : Nat) : Int))]⟩ :: B, rw⟩, [(0, .c (.val (.pointer (some ⟨P, 0, none⟩)))), (1, .c (.val (.string (bytes sg))))]⟩ _
 refine sqrg ?_
 refine wag rfl rfl rfl rfl rfl ?_
 refine nlnm ?_
 refine aw_seq ?_
 refine sqrg ?_
 refine wmv rfl rfl rfl rfl rfl ?_
 refine wmv rfl rfl rfl rfl rfl ?_
 refine wcP rfl rfl rfl rfl Tryd.call66 rfl (kindP_w (A) _ _ _ l k dp e sg hk) (by simp) (by simp [Sto.bl]) ?_
 rintro t1 s1 (⟨rfl, ha1, rfl, rfl⟩ | ⟨ha1, rfl, rfl⟩)
 ·refine wyy rfl rfl rfl (ay_not rfl rfl) ?_
  refine nlnm ?_
  refine aw_condF rfl rfl ?_
  refine aw_skip ?_
  refine then_normal ?_
  refine sqrg ?_
  have hm := wordP_more hok hk ha1
  refine wmv rfl rfl rfl rfl rfl ?_
  refine wyy rfl rfl rfl (ay_nilCheck rfl rfl) ?_
  refine wyy rfl rfl rfl (ay_fieldAddr 1 1 rfl rfl Tryd.runUnderlying73 rfl Tryd.sizeOf3 (by decide) rfl) ?_
  refine wyy rfl rfl rfl (ay_load_box (A) rfl rfl rfl Tryd.isAgg3 Tryd.sizeOf3 rfl (fun _ h => by cases h)) ?_
  refine wyy rfl rfl rfl (ay_add rfl rfl rfl (by omega) (by omega)) ?_
  refine wyy rfl rfl rfl (ay_nilCheck rfl rfl) ?_
  refine wyy rfl rfl rfl (ay_fieldAddr 1 1 rfl rfl Tryd.runUnderlying73 rfl Tryd.sizeOf3 (by decide) rfl) ?_
  refine wo rfl (wstA0 rfl rfl rfl rfl rfl Tryd.sizeOf3 rfl (Nat.le_of_ble_eq_true rfl) rfl (by simp) (fun _ => by simp) ?_)
  refine nx ?_
  refine wag rfl rfl rfl rfl rfl ?_
  refine nlnm ?_
  refine aw_ret ?_
  exact ⟨.inr rfl, _, (PSt A B rw P l (k + 1) (dp) (0)), res_one rfl (resv_tmp rfl), subS_of (.refl _) (.refl _), .inl ⟨rfl, ha1, hm, rfl, rfl⟩⟩
 ·refine wyy rfl rfl rfl (ay_not rfl rfl) ?_
  refine nlnm ?_
  refine aw_condT rfl rfl ?_
  refine sqrg ?_
  refine wag rfl rfl rfl rfl rfl ?_
  refine nlnm ?_
  refine aw_ret ?_
  refine then_ret ?_
  exact ⟨.inr rfl, _, (PSt A B rw P l (k) (dp) (e)), res_one rfl (resv_tmp rfl), subS_of (.refl _) (.refl _), .inr ⟨ha1, rfl, rfl⟩⟩
set_option maxRecDepth 100000 in
set_option maxHeartbeats 1600000 in
theorem signP_c (A B : List Box) (rw : List ORow) (P : Nat) (l : List Tok) (k dp e : Nat) (sg : List UInt8) (hok : TOk l) (hk : k < l.length) (he : e < 16) : ACall Tryd.prog 93 [.c (.val (.pointer (some ⟨P, 0, none⟩))), .c (.val (.string (bytes sg)))] [P] (PSt A B rw P l k dp e) (PAn A B rw P l dp (fun _ => .tup []) e k (wantP l sg k)) := by
 have hlen := hok.len
 refine acall_body Tryd.func93 rfl (Nat.le_of_ble_eq_true rfl) ?_
 show AWp Tryd.prog _ ⟨10, [P], ⟨A ++ ⟨P, 73, [.sl l.length (l.flatMap encT), .val (.int .i64 ((k : Nat) : Int)), .val (.int .i64 ((dp : Nat) : Int)), .val (.int .i64 ((e : Nat) : Int))]⟩ :: B, rw⟩, [(0, .c (.val (.pointer (some ⟨P, 0, none⟩)))), (1, .c (.val (.string (bytes sg))))]⟩ _
 refine sqrg ?_
 refine wmv rfl rfl rfl rfl rfl ?_
 refine wmv rfl rfl rfl rfl rfl ?_
 refine wcP rfl rfl rfl rfl Tryd.call91 rfl (accept_c (A) _ _ _ l k dp e sg hok hk) (by simp) (by simp [Sto.bl]) ?_
 rintro t1 s1 (⟨rfl, ha1, hm1, rfl, rfl⟩ | ⟨ha1, rfl, rfl⟩)
 ·refine wyy rfl rfl rfl (ay_not rfl rfl) ?_
  refine nlnm ?_
  refine aw_condF rfl rfl ?_
  refine aw_skip ?_
  exact ⟨.inl rfl, _, (PSt A B rw P l (k + 1) (dp) (0)), res_none rfl, subS_of (.refl _) (.refl _), ⟨(), k + 1, 0, rfl, .ok _ _ _ (by unfold wantP; rw [if_pos ha1]), hm1, by decide, rfl⟩⟩
 ·refine wyy rfl rfl rfl (ay_not rfl rfl) ?_
  refine nlnm ?_
  refine aw_condT rfl rfl ?_
  refine aw_region ?_
  refine wmv rfl rfl rfl rfl rfl ?_
  refine wcP rfl rfl rfl rfl Tryd.call68 rfl (failP_c (A) _ _ _ l k dp e 4) (by simp) (by simp [Sto.bl]) ?_
  rintro t4 s4 ⟨e4, hf4, rfl, rfl⟩
  refine aops_nil ?_
  exact ⟨.inl rfl, _, (PSt A B rw P l (k) (dp) (e4)), res_none rfl, subS_of (.refl _) (.refl _), ⟨(), k, e4, rfl, hf4.run (by decide) (fun h => by unfold wantP; rw [if_neg (by rw [ha1 h]; decide)]) _, hk, (hf4.small he (by decide)), rfl⟩⟩
set_option maxRecDepth 100000 in
set_option maxHeartbeats 1600000 in
theorem nameP_s (A B : List Box) (rw : List ORow) (P : Nat) (l : List Tok) (k dp e : Nat) (hok : TOk l) (hk : k < l.length) (he : e < 16) (he0 : e ≠ 0) : ACall Tryd.prog 90 [.c (.val (.pointer (some ⟨P, 0, none⟩)))] [P] (PSt A B rw P l k dp e) (PAn A B rw P l dp (fun x => .c (.val (.string x))) e k (nameP l k)) := by
 have hlen := hok.len
 refine acall_body Tryd.func90 rfl (Nat.le_of_ble_eq_true rfl) ?_
 show AWp Tryd.prog _ ⟨43, [P], ⟨A ++ ⟨P, 73, [.sl l.length (l.flatMap encT), .val (.int .i64 ((k : Nat) : Int)), .val (.int .i64 ((dp : Nat) : Int)), .val (.int .i64 ((e : Nat) : Int))]⟩ :: B, rw⟩, [(0, .c (.val (.pointer (some ⟨P, 0, none⟩))))]⟩ _
 refine sqrg ?_
 refine wag rfl rfl rfl rfl rfl ?_
 refine nlnm ?_
 refine aw_seq ?_
 refine aw_seq ?_
 refine aw_region_drew [P] (by kernel_rfl) ?_
 refine tq 0 (by kernel_rfl) rfl rfl rfl rfl (ay_move rfl rfl) ?_
 refine tq 1 (by kernel_rfl) rfl rfl rfl rfl (ay_nilCheck rfl rfl) ?_
 refine tq 2 (by kernel_rfl) rfl rfl rfl rfl (ay_fieldAddr 3 3 rfl rfl Tryd.runUnderlying73 rfl Tryd.sizeOf36 (by decide) rfl) ?_
 refine tq 3 (by kernel_rfl) rfl rfl rfl rfl (ay_load_box (A) rfl rfl rfl Tryd.isAgg36 Tryd.sizeOf36 rfl (fun _ h => (mem_off.1 h).2 (by simp))) ?_
 refine tq 4 (by kernel_rfl) rfl rfl rfl rfl (ay_cmp true rfl rfl rfl (by simp [cmpR, he0])) ?_
 refine tq 5 (by kernel_rfl) rfl rfl rfl rfl (ay_move rfl rfl) ?_
 refine tkskip 6 (by kernel_rfl) rfl (by kernel_rfl) (by kernel_rfl) rfl rfl (by decide) ?_
 refine tkskip 7 (by kernel_rfl) rfl (by kernel_rfl) (by kernel_rfl) rfl rfl (by decide) ?_
 refine tkskip 8 (by kernel_rfl) rfl (by kernel_rfl) (by kernel_rfl) rfl rfl (by decide) ?_
 refine tkskip 9 (by kernel_rfl) rfl (by kernel_rfl) (by kernel_rfl) rfl rfl (by decide) ?_
 refine tkskip 10 (by kernel_rfl) rfl (by kernel_rfl) (by kernel_rfl) rfl rfl (by decide) ?_
 refine tkskip 11 (by kernel_rfl) rfl (by kernel_rfl) (by kernel_rfl) rfl rfl (by decide) ?_
 refine tkskip 12 (by kernel_rfl) rfl (by kernel_rfl) (by kernel_rfl) rfl rfl (by decide) ?_
 refine tkskip 13 (by kernel_rfl) rfl (by kernel_rfl) (by kernel_rfl) rfl rfl (by decide) ?_
 refine tkskip 14 (by kernel_rfl) rfl (by kernel_rfl) (by kernel_rfl) rfl rfl (by decide) ?_
 refine tkskip 15 (by kernel_rfl) rfl (by kernel_rfl) (by kernel_rfl) rfl rfl (by decide) ?_
 refine tkskip 16 (by kernel_rfl) rfl (by kernel_rfl) (by kernel_rfl) rfl rfl (by decide) ?_
 refine tkskip 17 (by kernel_rfl) rfl (by kernel_rfl) (by kernel_rfl) rfl rfl (by decide) ?_
 refine tq 18 (by kernel_rfl) rfl rfl rfl rfl (ay_pick rfl rfl rfl) ?_
 refine any_done (by kernel_rfl) ?_
 refine then_normal ?_
 refine aw_condT rfl rfl ?_
 refine sqrg ?_
 refine wmv rfl rfl rfl rfl rfl ?_
 refine wcP rfl rfl rfl rfl Tryd.call68 rfl (failP_c (A) _ _ _ l k dp e 4) (by simp) (by simp [Sto.bl]) ?_
 rintro t2 s2 ⟨e2, hf2, rfl, rfl⟩
 refine nx ?_
 refine wag rfl rfl rfl rfl rfl ?_
 refine nlnm ?_
 refine aw_ret ?_
 refine then_ret ?_
 exact ⟨.inr rfl, _, (PSt A B rw P l (k) (dp) (e2)), (res_one rfl (resv_tmp rfl)), subS_of (.refl _) (.refl _), ⟨emptyB, k, e2, rfl, hf2.run (by decide) (fun h => absurd h he0) _, hk, (hf2.small he (by decide)), rfl⟩⟩
set_option maxRecDepth 100000 in
set_option maxHeartbeats 1600000 in
theorem nameP_0 (A B : List Box) (rw : List ORow) (P : Nat) (l : List Tok) (k dp : Nat) (hok : TOk l) (hk : k < l.length) (h4 : ¬ l[k].kind = 1) : ACall Tryd.prog 90 [.c (.val (.pointer (some ⟨P, 0, none⟩)))] [P] (PSt A B rw P l k dp 0) (PAn A B rw P l dp (fun x => .c (.val (.string x))) 0 k (nameP l k)) := by
 have hlen := hok.len
 refine acall_body Tryd.func90 rfl (Nat.le_of_ble_eq_true rfl) ?_
 show AWp Tryd.prog _ ⟨43, [P], ⟨A ++ ⟨P, 73, [.sl l.length (l.flatMap encT), .val (.int .i64 ((k : Nat) : Int)), .val (.int .i64 ((dp : Nat) : Int)), .val (.int .i64 ((0 : Nat) : Int))]⟩ :: B, rw⟩, [(0, .c (.val (.pointer (some ⟨P, 0, none⟩))))]⟩ _
 refine sqrg ?_
 refine wag rfl rfl rfl rfl rfl ?_
 refine nlnm ?_
 refine aw_seq ?_
 refine aw_seq ?_
 refine aw_region_drew [P] (by kernel_rfl) ?_
 refine tq 0 (by kernel_rfl) rfl rfl rfl rfl (ay_move rfl rfl) ?_
 refine tq 1 (by kernel_rfl) rfl rfl rfl rfl (ay_nilCheck rfl rfl) ?_
 refine tq 2 (by kernel_rfl) rfl rfl rfl rfl (ay_fieldAddr 3 3 rfl rfl Tryd.runUnderlying73 rfl Tryd.sizeOf36 (by decide) rfl) ?_
 refine tq 3 (by kernel_rfl) rfl rfl rfl rfl (ay_load_box (A) rfl rfl rfl Tryd.isAgg36 Tryd.sizeOf36 rfl (fun _ h => (mem_off.1 h).2 (by simp))) ?_
 refine tq 4 (by kernel_rfl) rfl rfl rfl rfl (ay_cmp false rfl rfl rfl (by rfl)) ?_
 refine tq 5 (by kernel_rfl) rfl rfl rfl rfl (ay_move rfl rfl) ?_
 refine tq 6 (by kernel_rfl) rfl rfl rfl rfl (ay_move rfl rfl) ?_
 refine tq 7 (by kernel_rfl) rfl rfl rfl rfl (ay_nilCheck rfl rfl) ?_
 refine tq 8 (by kernel_rfl) rfl rfl rfl rfl (ay_fieldAddr 0 0 rfl rfl Tryd.runUnderlying73 rfl Tryd.sizeOf34 (by decide) rfl) ?_
 refine tq 9 (by kernel_rfl) rfl rfl rfl rfl (ay_load_box (A) rfl rfl rfl Tryd.isAgg34 Tryd.sizeOf34 rfl (fun _ h => (mem_off.1 h).2 (by simp))) ?_
 refine tq 10 (by kernel_rfl) rfl rfl rfl rfl (ay_move rfl rfl) ?_
 refine tq 11 (by kernel_rfl) rfl rfl rfl rfl (ay_nilCheck rfl rfl) ?_
 refine tq 12 (by kernel_rfl) rfl rfl rfl rfl (ay_fieldAddr 1 1 rfl rfl Tryd.runUnderlying73 rfl Tryd.sizeOf3 (by decide) rfl) ?_
 refine tq 13 (by kernel_rfl) rfl rfl rfl rfl (ay_load_box (A) rfl rfl rfl Tryd.isAgg3 Tryd.sizeOf3 rfl (fun _ h => (mem_off.1 h).2 (by simp))) ?_
 refine tq 14 (by kernel_rfl) rfl rfl rfl rfl (ay_ix encT encT l encT_len (fun _ => rfl) (k) rfl rfl rfl rfl hk (by decide) Tryd.runUnderlying34 Tryd.sizeOf65) ?_
 refine tq 15 (by kernel_rfl) rfl rfl rfl rfl (ay_fieldAddr_el 0 rfl rfl Tryd.runUnderlying65 rfl Tryd.sizeOf3 (by decide)) ?_
 refine tq 16 (by kernel_rfl) rfl rfl rfl rfl (ay_load_el rfl rfl Tryd.isAgg3 Tryd.sizeOf3 rfl) ?_
 refine tq 17 (by kernel_rfl) rfl rfl rfl rfl (ay_cmp true rfl rfl rfl (by simp [cmpR]; omega)) ?_
 refine tq 18 (by kernel_rfl) rfl rfl rfl rfl (ay_pick rfl rfl rfl) ?_
 refine any_done (by kernel_rfl) ?_
 refine then_normal ?_
 refine aw_condT rfl rfl ?_
 refine sqrg ?_
 refine wmv rfl rfl rfl rfl rfl ?_
 refine wcP rfl rfl rfl rfl Tryd.call68 rfl (failP_c (A) _ _ _ l k dp 0 4) (by simp) (by simp [Sto.bl]) ?_
 rintro t2 s2 ⟨e2, hf2, rfl, rfl⟩
 obtain rfl := hf2.1 rfl
 refine nx ?_
 refine wag rfl rfl rfl rfl rfl ?_
 refine nlnm ?_
 refine aw_ret ?_
 refine then_ret ?_
 exact ⟨.inr rfl, _, (PSt A B rw P l (k) (dp) (4)), (res_one rfl (resv_tmp rfl)), subS_of (.refl _) (.refl _), ⟨emptyB, k, 4, rfl, .err _ _ _ _ (by unfold nameP; rw [tokAt_lt hk, if_neg h4]) (by decide), hk, (by decide), rfl⟩⟩
set_option maxRecDepth 100000 in
set_option maxHeartbeats 1600000 in
theorem nameP_1 (A B : List Box) (rw : List ORow) (P : Nat) (l : List Tok) (k dp : Nat) (hok : TOk l) (hk : k < l.length) (h4 : l[k].kind = 1) : ACall Tryd.prog 90 [.c (.val (.pointer (some ⟨P, 0, none⟩)))] [P] (PSt A B rw P l k dp 0) (PAn A B rw P l dp (fun x => .c (.val (.string x))) 0 k (nameP l k)) := by
 have hlen := hok.len
 refine acall_body Tryd.func90 rfl (Nat.le_of_ble_eq_true rfl) ?_
 show AWp Tryd.prog _ ⟨43, [P], ⟨A ++ ⟨P, 73, [.sl l.length (l.flatMap encT), .val (.int .i64 ((k : Nat) : Int)), .val (.int .i64 ((dp : Nat) : Int)), .val (.int .i64 ((0 : Nat) : Int))]⟩ :: B, rw⟩, [(0, .c (.val (.pointer (some ⟨P, 0, none⟩))))]⟩ _
 refine sqrg ?_
 refine wag rfl rfl rfl rfl rfl ?_
 refine nlnm ?_
 refine aw_seq ?_
 refine aw_seq ?_
 refine aw_region_drew [P] (by kernel_rfl) ?_
 refine tq 0 (by kernel_rfl) rfl rfl rfl rfl (ay_move rfl rfl) ?_
 refine tq 1 (by kernel_rfl) rfl rfl rfl rfl (ay_nilCheck rfl rfl) ?_
 refine tq 2 (by kernel_rfl) rfl rfl rfl rfl (ay_fieldAddr 3 3 rfl rfl Tryd.runUnderlying73 rfl Tryd.sizeOf36 (by decide) rfl) ?_
 refine tq 3 (by kernel_rfl) rfl rfl rfl rfl (ay_load_box (A) rfl rfl rfl Tryd.isAgg36 Tryd.sizeOf36 rfl (fun _ h => (mem_off.1 h).2 (by simp))) ?_
 refine tq 4 (by kernel_rfl) rfl rfl rfl rfl (ay_cmp false rfl rfl rfl (by rfl)) ?_
 refine tq 5 (by kernel_rfl) rfl rfl rfl rfl (ay_move rfl rfl) ?_
 refine tq 6 (by kernel_rfl) rfl rfl rfl rfl (ay_move rfl rfl) ?_
 refine tq 7 (by kernel_rfl) rfl rfl rfl rfl (ay_nilCheck rfl rfl) ?_
 refine tq 8 (by kernel_rfl) rfl rfl rfl rfl (ay_fieldAddr 0 0 rfl rfl Tryd.runUnderlying73 rfl Tryd.sizeOf34 (by decide) rfl) ?_
 refine tq 9 (by kernel_rfl) rfl rfl rfl rfl (ay_load_box (A) rfl rfl rfl Tryd.isAgg34 Tryd.sizeOf34 rfl (fun _ h => (mem_off.1 h).2 (by simp))) ?_
 refine tq 10 (by kernel_rfl) rfl rfl rfl rfl (ay_move rfl rfl) ?_
 refine tq 11 (by kernel_rfl) rfl rfl rfl rfl (ay_nilCheck rfl rfl) ?_
 refine tq 12 (by kernel_rfl) rfl rfl rfl rfl (ay_fieldAddr 1 1 rfl rfl Tryd.runUnderlying73 rfl Tryd.sizeOf3 (by decide) rfl) ?_
 refine tq 13 (by kernel_rfl) rfl rfl rfl rfl (ay_load_box (A) rfl rfl rfl Tryd.isAgg3 Tryd.sizeOf3 rfl (fun _ h => (mem_off.1 h).2 (by simp))) ?_
 refine tq 14 (by kernel_rfl) rfl rfl rfl rfl (ay_ix encT encT l encT_len (fun _ => rfl) (k) rfl rfl rfl rfl hk (by decide) Tryd.runUnderlying34 Tryd.sizeOf65) ?_
 refine tq 15 (by kernel_rfl) rfl rfl rfl rfl (ay_fieldAddr_el 0 rfl rfl Tryd.runUnderlying65 rfl Tryd.sizeOf3 (by decide)) ?_
 refine tq 16 (by kernel_rfl) rfl rfl rfl rfl (ay_load_el rfl rfl Tryd.isAgg3 Tryd.sizeOf3 rfl) ?_
 refine tq 17 (by kernel_rfl) rfl rfl rfl rfl (ay_cmp false rfl rfl rfl (by rw [h4]; rfl)) ?_
 refine tq 18 (by kernel_rfl) rfl rfl rfl rfl (ay_pick rfl rfl rfl) ?_
 refine any_done (by kernel_rfl) ?_
 refine then_normal ?_
 refine aw_condF rfl rfl ?_
 refine aw_skip ?_
 refine then_normal ?_
 refine sqrg ?_
 have hm := hok.last.more hk (by rw [tokAt_lt hk, h4]; decide)
 refine wmv rfl rfl rfl rfl rfl ?_
 refine wyy rfl rfl rfl (ay_nilCheck rfl rfl) ?_
 refine wyy rfl rfl rfl (ay_fieldAddr 1 1 rfl rfl Tryd.runUnderlying73 rfl Tryd.sizeOf3 (by decide) rfl) ?_
 refine wyy rfl rfl rfl (ay_load_box (A) rfl rfl rfl Tryd.isAgg3 Tryd.sizeOf3 rfl (fun _ h => by cases h)) ?_
 refine wyy rfl rfl rfl (ay_add rfl rfl rfl (by omega) (by omega)) ?_
 refine wyy rfl rfl rfl (ay_nilCheck rfl rfl) ?_
 refine wyy rfl rfl rfl (ay_fieldAddr 1 1 rfl rfl Tryd.runUnderlying73 rfl Tryd.sizeOf3 (by decide) rfl) ?_
 refine wo rfl (wstA0 rfl rfl rfl rfl rfl Tryd.sizeOf3 rfl (Nat.le_of_ble_eq_true rfl) rfl (by simp) (fun _ => by simp) ?_)
 refine nlnm ?_
 refine aw_seq ?_
 refine aw_region_drew [P] (by kernel_rfl) ?_
 refine tq 0 (by kernel_rfl) rfl rfl rfl rfl (ay_move rfl rfl) ?_
 refine tq 1 (by kernel_rfl) rfl rfl rfl rfl (ay_nilCheck rfl rfl) ?_
 refine tq 2 (by kernel_rfl) rfl rfl rfl rfl (ay_fieldAddr 0 0 rfl rfl Tryd.runUnderlying73 rfl Tryd.sizeOf34 (by decide) rfl) ?_
 refine tq 3 (by kernel_rfl) rfl rfl rfl rfl (ay_load_box (A) rfl rfl rfl Tryd.isAgg34 Tryd.sizeOf34 rfl (fun _ h => (mem_off.1 h).2 (by simp))) ?_
 refine tq 4 (by kernel_rfl) rfl rfl rfl rfl (ay_move rfl rfl) ?_
 refine tq 5 (by kernel_rfl) rfl rfl rfl rfl (ay_nilCheck rfl rfl) ?_
 refine tq 6 (by kernel_rfl) rfl rfl rfl rfl (ay_fieldAddr 1 1 rfl rfl Tryd.runUnderlying73 rfl Tryd.sizeOf3 (by decide) rfl) ?_
 refine tq 7 (by kernel_rfl) rfl rfl rfl rfl (ay_load_box (A) rfl rfl rfl Tryd.isAgg3 Tryd.sizeOf3 rfl (fun _ h => (mem_off.1 h).2 (by simp))) ?_
 refine tq 8 (by kernel_rfl) rfl rfl rfl rfl (ay_sub rfl rfl rfl (by omega) (by omega)) ?_
 refine tq 9 (by kernel_rfl) rfl rfl rfl rfl (ay_ix encT encT l encT_len (fun _ => rfl) k rfl rfl rfl (by omega) hk (by decide) Tryd.runUnderlying34 Tryd.sizeOf65) ?_
 refine tq 10 (by kernel_rfl) rfl rfl rfl rfl (ay_fieldAddr_el 1 rfl rfl Tryd.runUnderlying65 rfl Tryd.sizeOf9 (by decide)) ?_
 refine tq 11 (by kernel_rfl) rfl rfl rfl rfl (ay_load_el rfl rfl Tryd.isAgg9 Tryd.sizeOf9 rfl) ?_
 refine tq 12 (by kernel_rfl) rfl rfl rfl rfl (ay_assign rfl rfl) ?_
 refine any_done (by kernel_rfl) ?_
 refine then_normal ?_
 refine aw_ret ?_
 exact ⟨.inr rfl, _, (PSt A B rw P l (k + 1) (dp) (0)), (res_one rfl (resv_tmp rfl)), subS_of (.refl _) (.refl _), ⟨l[k].text, k + 1, 0, rfl, .ok _ _ _ (by unfold nameP; rw [tokAt_lt hk, if_pos h4]), hm, by decide, rfl⟩⟩
theorem nameP_c (A B : List Box) (rw : List ORow) (P : Nat) (l : List Tok) (k dp e : Nat) (hok : TOk l) (hk : k < l.length) (he : e < 16) : ACall Tryd.prog 90 [.c (.val (.pointer (some ⟨P, 0, none⟩)))] [P] (PSt A B rw P l k dp e) (PAn A B rw P l dp (fun x => .c (.val (.string x))) e k (nameP l k)) := by
 by_cases h0 : e = 0
 ·subst h0
  by_cases h4 : l[k].kind = 1
  ·exact nameP_1 A B rw P l k dp hok hk h4
  ·exact nameP_0 A B rw P l k dp hok hk h4
 ·exact nameP_s A B rw P l k dp e hok hk he h0
set_option maxRecDepth 100000 in
set_option maxHeartbeats 1600000 in
theorem numP_s (A B : List Box) (rw : List ORow) (P : Nat) (l : List Tok) (k dp e : Nat) (hok : TOk l) (hk : k < l.length) (he : e < 16) (he0 : e ≠ 0) : ACall Tryd.prog 92 [.c (.val (.pointer (some ⟨P, 0, none⟩)))] [P] (PSt A B rw P l k dp e) (PAn A B rw P l dp (fun x => .c (.val (.int .i64 ((x : Nat) : Int)))) e k (numP l k)) := by
 have hlen := hok.len
 refine acall_body Tryd.func92 rfl (Nat.le_of_ble_eq_true rfl) ?_
 show AWp Tryd.prog _ ⟨43, [P], ⟨A ++ ⟨P, 73, [.sl l.length (l.flatMap encT), .val (.int .i64 ((k : Nat) : Int)), .val (.int .i64 ((dp : Nat) : Int)), .val (.int .i64 ((e : Nat) : Int))]⟩ :: B, rw⟩, [(0, .c (.val (.pointer (some ⟨P, 0, none⟩))))]⟩ _
 refine sqrg ?_
 refine wag rfl rfl rfl rfl rfl ?_
 refine nlnm ?_
 refine aw_seq ?_
 refine aw_seq ?_
 refine aw_region_drew [P] (by kernel_rfl) ?_
 refine tq 0 (by kernel_rfl) rfl rfl rfl rfl (ay_move rfl rfl) ?_
 refine tq 1 (by kernel_rfl) rfl rfl rfl rfl (ay_nilCheck rfl rfl) ?_
 refine tq 2 (by kernel_rfl) rfl rfl rfl rfl (ay_fieldAddr 3 3 rfl rfl Tryd.runUnderlying73 rfl Tryd.sizeOf36 (by decide) rfl) ?_
 refine tq 3 (by kernel_rfl) rfl rfl rfl rfl (ay_load_box (A) rfl rfl rfl Tryd.isAgg36 Tryd.sizeOf36 rfl (fun _ h => (mem_off.1 h).2 (by simp))) ?_
 refine tq 4 (by kernel_rfl) rfl rfl rfl rfl (ay_cmp true rfl rfl rfl (by simp [cmpR, he0])) ?_
 refine tq 5 (by kernel_rfl) rfl rfl rfl rfl (ay_move rfl rfl) ?_
 refine tkskip 6 (by kernel_rfl) rfl (by kernel_rfl) (by kernel_rfl) rfl rfl (by decide) ?_
 refine tkskip 7 (by kernel_rfl) rfl (by kernel_rfl) (by kernel_rfl) rfl rfl (by decide) ?_
 refine tkskip 8 (by kernel_rfl) rfl (by kernel_rfl) (by kernel_rfl) rfl rfl (by decide) ?_
 refine tkskip 9 (by kernel_rfl) rfl (by kernel_rfl) (by kernel_rfl) rfl rfl (by decide) ?_
 refine tkskip 10 (by kernel_rfl) rfl (by kernel_rfl) (by kernel_rfl) rfl rfl (by decide) ?_
 refine tkskip 11 (by kernel_rfl) rfl (by kernel_rfl) (by kernel_rfl) rfl rfl (by decide) ?_
 refine tkskip 12 (by kernel_rfl) rfl (by kernel_rfl) (by kernel_rfl) rfl rfl (by decide) ?_
 refine tkskip 13 (by kernel_rfl) rfl (by kernel_rfl) (by kernel_rfl) rfl rfl (by decide) ?_
 refine tkskip 14 (by kernel_rfl) rfl (by kernel_rfl) (by kernel_rfl) rfl rfl (by decide) ?_
 refine tkskip 15 (by kernel_rfl) rfl (by kernel_rfl) (by kernel_rfl) rfl rfl (by decide) ?_
 refine tkskip 16 (by kernel_rfl) rfl (by kernel_rfl) (by kernel_rfl) rfl rfl (by decide) ?_
 refine tkskip 17 (by kernel_rfl) rfl (by kernel_rfl) (by kernel_rfl) rfl rfl (by decide) ?_
 refine tq 18 (by kernel_rfl) rfl rfl rfl rfl (ay_pick rfl rfl rfl) ?_
 refine any_done (by kernel_rfl) ?_
 refine then_normal ?_
 refine aw_condT rfl rfl ?_
 refine sqrg ?_
 refine wmv rfl rfl rfl rfl rfl ?_
 refine wcP rfl rfl rfl rfl Tryd.call68 rfl (failP_c (A) _ _ _ l k dp e 4) (by simp) (by simp [Sto.bl]) ?_
 rintro t2 s2 ⟨e2, hf2, rfl, rfl⟩
 refine nx ?_
 refine wag rfl rfl rfl rfl rfl ?_
 refine nlnm ?_
 refine aw_ret ?_
 refine then_ret ?_
 exact ⟨.inr rfl, _, (PSt A B rw P l (k) (dp) (e2)), (res_one rfl (resv_tmp rfl)), subS_of (.refl _) (.refl _), ⟨0, k, e2, rfl, hf2.run (by decide) (fun h => absurd h he0) _, hk, (hf2.small he (by decide)), rfl⟩⟩
set_option maxRecDepth 100000 in
set_option maxHeartbeats 1600000 in
theorem numP_0 (A B : List Box) (rw : List ORow) (P : Nat) (l : List Tok) (k dp : Nat) (hok : TOk l) (hk : k < l.length) (h4 : ¬ l[k].kind = 2) : ACall Tryd.prog 92 [.c (.val (.pointer (some ⟨P, 0, none⟩)))] [P] (PSt A B rw P l k dp 0) (PAn A B rw P l dp (fun x => .c (.val (.int .i64 ((x : Nat) : Int)))) 0 k (numP l k)) := by
 have hlen := hok.len
 refine acall_body Tryd.func92 rfl (Nat.le_of_ble_eq_true rfl) ?_
 show AWp Tryd.prog _ ⟨43, [P], ⟨A ++ ⟨P, 73, [.sl l.length (l.flatMap encT), .val (.int .i64 ((k : Nat) : Int)), .val (.int .i64 ((dp : Nat) : Int)), .val (.int .i64 ((0 : Nat) : Int))]⟩ :: B, rw⟩, [(0, .c (.val (.pointer (some ⟨P, 0, none⟩))))]⟩ _
 refine sqrg ?_
 refine wag rfl rfl rfl rfl rfl ?_
 refine nlnm ?_
 refine aw_seq ?_
 refine aw_seq ?_
 refine aw_region_drew [P] (by kernel_rfl) ?_
 refine tq 0 (by kernel_rfl) rfl rfl rfl rfl (ay_move rfl rfl) ?_
 refine tq 1 (by kernel_rfl) rfl rfl rfl rfl (ay_nilCheck rfl rfl) ?_
 refine tq 2 (by kernel_rfl) rfl rfl rfl rfl (ay_fieldAddr 3 3 rfl rfl Tryd.runUnderlying73 rfl Tryd.sizeOf36 (by decide) rfl) ?_
 refine tq 3 (by kernel_rfl) rfl rfl rfl rfl (ay_load_box (A) rfl rfl rfl Tryd.isAgg36 Tryd.sizeOf36 rfl (fun _ h => (mem_off.1 h).2 (by simp))) ?_
 refine tq 4 (by kernel_rfl) rfl rfl rfl rfl (ay_cmp false rfl rfl rfl (by rfl)) ?_
 refine tq 5 (by kernel_rfl) rfl rfl rfl rfl (ay_move rfl rfl) ?_
 refine tq 6 (by kernel_rfl) rfl rfl rfl rfl (ay_move rfl rfl) ?_
 refine tq 7 (by kernel_rfl) rfl rfl rfl rfl (ay_nilCheck rfl rfl) ?_
 refine tq 8 (by kernel_rfl) rfl rfl rfl rfl (ay_fieldAddr 0 0 rfl rfl Tryd.runUnderlying73 rfl Tryd.sizeOf34 (by decide) rfl) ?_
 refine tq 9 (by kernel_rfl) rfl rfl rfl rfl (ay_load_box (A) rfl rfl rfl Tryd.isAgg34 Tryd.sizeOf34 rfl (fun _ h => (mem_off.1 h).2 (by simp))) ?_
 refine tq 10 (by kernel_rfl) rfl rfl rfl rfl (ay_move rfl rfl) ?_
 refine tq 11 (by kernel_rfl) rfl rfl rfl rfl (ay_nilCheck rfl rfl) ?_
 refine tq 12 (by kernel_rfl) rfl rfl rfl rfl (ay_fieldAddr 1 1 rfl rfl Tryd.runUnderlying73 rfl Tryd.sizeOf3 (by decide) rfl) ?_
 refine tq 13 (by kernel_rfl) rfl rfl rfl rfl (ay_load_box (A) rfl rfl rfl Tryd.isAgg3 Tryd.sizeOf3 rfl (fun _ h => (mem_off.1 h).2 (by simp))) ?_
 refine tq 14 (by kernel_rfl) rfl rfl rfl rfl (ay_ix encT encT l encT_len (fun _ => rfl) (k) rfl rfl rfl rfl hk (by decide) Tryd.runUnderlying34 Tryd.sizeOf65) ?_
 refine tq 15 (by kernel_rfl) rfl rfl rfl rfl (ay_fieldAddr_el 0 rfl rfl Tryd.runUnderlying65 rfl Tryd.sizeOf3 (by decide)) ?_
 refine tq 16 (by kernel_rfl) rfl rfl rfl rfl (ay_load_el rfl rfl Tryd.isAgg3 Tryd.sizeOf3 rfl) ?_
 refine tq 17 (by kernel_rfl) rfl rfl rfl rfl (ay_cmp true rfl rfl rfl (by simp [cmpR]; omega)) ?_
 refine tq 18 (by kernel_rfl) rfl rfl rfl rfl (ay_pick rfl rfl rfl) ?_
 refine any_done (by kernel_rfl) ?_
 refine then_normal ?_
 refine aw_condT rfl rfl ?_
 refine sqrg ?_
 refine wmv rfl rfl rfl rfl rfl ?_
 refine wcP rfl rfl rfl rfl Tryd.call68 rfl (failP_c (A) _ _ _ l k dp 0 4) (by simp) (by simp [Sto.bl]) ?_
 rintro t2 s2 ⟨e2, hf2, rfl, rfl⟩
 obtain rfl := hf2.1 rfl
 refine nx ?_
 refine wag rfl rfl rfl rfl rfl ?_
 refine nlnm ?_
 refine aw_ret ?_
 refine then_ret ?_
 exact ⟨.inr rfl, _, (PSt A B rw P l (k) (dp) (4)), (res_one rfl (resv_tmp rfl)), subS_of (.refl _) (.refl _), ⟨0, k, 4, rfl, .err _ _ _ _ (by unfold numP; rw [tokAt_lt hk, if_neg h4]) (by decide), hk, (by decide), rfl⟩⟩
set_option maxRecDepth 100000 in
set_option maxHeartbeats 1600000 in
theorem numP_1 (A B : List Box) (rw : List ORow) (P : Nat) (l : List Tok) (k dp : Nat) (hok : TOk l) (hk : k < l.length) (h4 : l[k].kind = 2) : ACall Tryd.prog 92 [.c (.val (.pointer (some ⟨P, 0, none⟩)))] [P] (PSt A B rw P l k dp 0) (PAn A B rw P l dp (fun x => .c (.val (.int .i64 ((x : Nat) : Int)))) 0 k (numP l k)) := by
 have hlen := hok.len
 refine acall_body Tryd.func92 rfl (Nat.le_of_ble_eq_true rfl) ?_
 show AWp Tryd.prog _ ⟨43, [P], ⟨A ++ ⟨P, 73, [.sl l.length (l.flatMap encT), .val (.int .i64 ((k : Nat) : Int)), .val (.int .i64 ((dp : Nat) : Int)), .val (.int .i64 ((0 : Nat) : Int))]⟩ :: B, rw⟩, [(0, .c (.val (.pointer (some ⟨P, 0, none⟩))))]⟩ _
 refine sqrg ?_
 refine wag rfl rfl rfl rfl rfl ?_
 refine nlnm ?_
 refine aw_seq ?_
 refine aw_seq ?_
 refine aw_region_drew [P] (by kernel_rfl) ?_
 refine tq 0 (by kernel_rfl) rfl rfl rfl rfl (ay_move rfl rfl) ?_
 refine tq 1 (by kernel_rfl) rfl rfl rfl rfl (ay_nilCheck rfl rfl) ?_
 refine tq 2 (by kernel_rfl) rfl rfl rfl rfl (ay_fieldAddr 3 3 rfl rfl Tryd.runUnderlying73 rfl Tryd.sizeOf36 (by decide) rfl) ?_
 refine tq 3 (by kernel_rfl) rfl rfl rfl rfl (ay_load_box (A) rfl rfl rfl Tryd.isAgg36 Tryd.sizeOf36 rfl (fun _ h => (mem_off.1 h).2 (by simp))) ?_
 refine tq 4 (by kernel_rfl) rfl rfl rfl rfl (ay_cmp false rfl rfl rfl (by rfl)) ?_
 refine tq 5 (by kernel_rfl) rfl rfl rfl rfl (ay_move rfl rfl) ?_
 refine tq 6 (by kernel_rfl) rfl rfl rfl rfl (ay_move rfl rfl) ?_
 refine tq 7 (by kernel_rfl) rfl rfl rfl rfl (ay_nilCheck rfl rfl) ?_
 refine tq 8 (by kernel_rfl) rfl rfl rfl rfl (ay_fieldAddr 0 0 rfl rfl Tryd.runUnderlying73 rfl Tryd.sizeOf34 (by decide) rfl) ?_
 refine tq 9 (by kernel_rfl) rfl rfl rfl rfl (ay_load_box (A) rfl rfl rfl Tryd.isAgg34 Tryd.sizeOf34 rfl (fun _ h => (mem_off.1 h).2 (by simp))) ?_
 refine tq 10 (by kernel_rfl) rfl rfl rfl rfl (ay_move rfl rfl) ?_
 refine tq 11 (by kernel_rfl) rfl rfl rfl rfl (ay_nilCheck rfl rfl) ?_
 refine tq 12 (by kernel_rfl) rfl rfl rfl rfl (ay_fieldAddr 1 1 rfl rfl Tryd.runUnderlying73 rfl Tryd.sizeOf3 (by decide) rfl) ?_
 refine tq 13 (by kernel_rfl) rfl rfl rfl rfl (ay_load_box (A) rfl rfl rfl Tryd.isAgg3 Tryd.sizeOf3 rfl (fun _ h => (mem_off.1 h).2 (by simp))) ?_
 refine tq 14 (by kernel_rfl) rfl rfl rfl rfl (ay_ix encT encT l encT_len (fun _ => rfl) (k) rfl rfl rfl rfl hk (by decide) Tryd.runUnderlying34 Tryd.sizeOf65) ?_
 refine tq 15 (by kernel_rfl) rfl rfl rfl rfl (ay_fieldAddr_el 0 rfl rfl Tryd.runUnderlying65 rfl Tryd.sizeOf3 (by decide)) ?_
 refine tq 16 (by kernel_rfl) rfl rfl rfl rfl (ay_load_el rfl rfl Tryd.isAgg3 Tryd.sizeOf3 rfl) ?_
 refine tq 17 (by kernel_rfl) rfl rfl rfl rfl (ay_cmp false rfl rfl rfl (by rw [h4]; rfl)) ?_
 refine tq 18 (by kernel_rfl) rfl rfl rfl rfl (ay_pick rfl rfl rfl) ?_
 refine any_done (by kernel_rfl) ?_
 refine then_normal ?_
 refine aw_condF rfl rfl ?_
 refine aw_skip ?_
 refine then_normal ?_
 refine sqrg ?_
 have hm := hok.last.more hk (by rw [tokAt_lt hk, h4]; decide)
 refine wmv rfl rfl rfl rfl rfl ?_
 refine wyy rfl rfl rfl (ay_nilCheck rfl rfl) ?_
 refine wyy rfl rfl rfl (ay_fieldAddr 1 1 rfl rfl Tryd.runUnderlying73 rfl Tryd.sizeOf3 (by decide) rfl) ?_
 refine wyy rfl rfl rfl (ay_load_box (A) rfl rfl rfl Tryd.isAgg3 Tryd.sizeOf3 rfl (fun _ h => by cases h)) ?_
 refine wyy rfl rfl rfl (ay_add rfl rfl rfl (by omega) (by omega)) ?_
 refine wyy rfl rfl rfl (ay_nilCheck rfl rfl) ?_
 refine wyy rfl rfl rfl (ay_fieldAddr 1 1 rfl rfl Tryd.runUnderlying73 rfl Tryd.sizeOf3 (by decide) rfl) ?_
 refine wo rfl (wstA0 rfl rfl rfl rfl rfl Tryd.sizeOf3 rfl (Nat.le_of_ble_eq_true rfl) rfl (by simp) (fun _ => by simp) ?_)
 refine nlnm ?_
 refine aw_seq ?_
 refine aw_region_drew [P] (by kernel_rfl) ?_
 refine tq 0 (by kernel_rfl) rfl rfl rfl rfl (ay_move rfl rfl) ?_
 refine tq 1 (by kernel_rfl) rfl rfl rfl rfl (ay_nilCheck rfl rfl) ?_
 refine tq 2 (by kernel_rfl) rfl rfl rfl rfl (ay_fieldAddr 0 0 rfl rfl Tryd.runUnderlying73 rfl Tryd.sizeOf34 (by decide) rfl) ?_
 refine tq 3 (by kernel_rfl) rfl rfl rfl rfl (ay_load_box (A) rfl rfl rfl Tryd.isAgg34 Tryd.sizeOf34 rfl (fun _ h => (mem_off.1 h).2 (by simp))) ?_
 refine tq 4 (by kernel_rfl) rfl rfl rfl rfl (ay_move rfl rfl) ?_
 refine tq 5 (by kernel_rfl) rfl rfl rfl rfl (ay_nilCheck rfl rfl) ?_
 refine tq 6 (by kernel_rfl) rfl rfl rfl rfl (ay_fieldAddr 1 1 rfl rfl Tryd.runUnderlying73 rfl Tryd.sizeOf3 (by decide) rfl) ?_
 refine tq 7 (by kernel_rfl) rfl rfl rfl rfl (ay_load_box (A) rfl rfl rfl Tryd.isAgg3 Tryd.sizeOf3 rfl (fun _ h => (mem_off.1 h).2 (by simp))) ?_
 refine tq 8 (by kernel_rfl) rfl rfl rfl rfl (ay_sub rfl rfl rfl (by omega) (by omega)) ?_
 refine tq 9 (by kernel_rfl) rfl rfl rfl rfl (ay_ix encT encT l encT_len (fun _ => rfl) k rfl rfl rfl (by omega) hk (by decide) Tryd.runUnderlying34 Tryd.sizeOf65) ?_
 refine tq 10 (by kernel_rfl) rfl rfl rfl rfl (ay_fieldAddr_el 2 rfl rfl Tryd.runUnderlying65 rfl Tryd.sizeOf3 (by decide)) ?_
 refine tq 11 (by kernel_rfl) rfl rfl rfl rfl (ay_load_el rfl rfl Tryd.isAgg3 Tryd.sizeOf3 rfl) ?_
 refine tq 12 (by kernel_rfl) rfl rfl rfl rfl (ay_assign rfl rfl) ?_
 refine any_done (by kernel_rfl) ?_
 refine then_normal ?_
 refine aw_ret ?_
 exact ⟨.inr rfl, _, (PSt A B rw P l (k + 1) (dp) (0)), (res_one rfl (resv_tmp rfl)), subS_of (.refl _) (.refl _), ⟨l[k].num, k + 1, 0, rfl, .ok _ _ _ (by unfold numP; rw [tokAt_lt hk, if_pos h4]), hm, by decide, rfl⟩⟩
theorem numP_c (A B : List Box) (rw : List ORow) (P : Nat) (l : List Tok) (k dp e : Nat) (hok : TOk l) (hk : k < l.length) (he : e < 16) : ACall Tryd.prog 92 [.c (.val (.pointer (some ⟨P, 0, none⟩)))] [P] (PSt A B rw P l k dp e) (PAn A B rw P l dp (fun x => .c (.val (.int .i64 ((x : Nat) : Int)))) e k (numP l k)) := by
 by_cases h0 : e = 0
 ·subst h0
  by_cases h4 : l[k].kind = 2
  ·exact numP_1 A B rw P l k dp hok hk h4
  ·exact numP_0 A B rw P l k dp hok hk h4
 ·exact numP_s A B rw P l k dp e hok hk he h0
set_option maxRecDepth 100000 in
set_option maxHeartbeats 1600000 in
theorem exprP_0 (A B : List Box) (rw : List ORow) (P : Nat) (l : List Tok) (k dp : Nat) (hok : TOk l) (hk : k < l.length) : ACall Tryd.prog 135 [.c (.val (.pointer (some ⟨P, 0, none⟩)))] [P] (PSt A B rw P l k dp 0) (PAn A B rw P l dp (fun x => .agg (encE1 x)) 0 k (exprP l k)) := by
 have hlen := hok.len
 refine acall_body Tryd.func135 rfl (Nat.le_of_ble_eq_true rfl) ?_
 show AWp Tryd.prog _ ⟨34, [P], ⟨A ++ ⟨P, 73, [.sl l.length (l.flatMap encT), .val (.int .i64 ((k : Nat) : Int)), .val (.int .i64 ((dp : Nat) : Int)), .val (.int .i64 ((0 : Nat) : Int))]⟩ :: B, rw⟩, [(0, .c (.val (.pointer (some ⟨P, 0, none⟩))))]⟩ _
 refine sqrg ?_
 refine wo rfl (walloc rfl rfl (by decide) Tryd.zeroValue31 rfl fun b1 => ?_)
 refine nlnm ?_
 refine aw_seq ?_
 refine sqrg ?_
 refine wmv rfl rfl rfl rfl rfl ?_
 refine wyy rfl rfl rfl (ay_nilCheck rfl rfl) ?_
 refine wyy rfl rfl rfl (ay_fieldAddr 3 3 rfl rfl Tryd.runUnderlying73 rfl Tryd.sizeOf36 (by decide) rfl) ?_
 refine wyy rfl rfl rfl (ay_load_box (_ :: A) rfl rfl rfl Tryd.isAgg36 Tryd.sizeOf36 rfl (fun _ h => by cases h)) ?_
 refine wyy rfl rfl rfl (ay_cmp false rfl rfl rfl (by rfl)) ?_
 refine nlnm ?_
 refine aw_condF rfl rfl ?_
 refine aw_skip ?_
 refine then_normal ?_
 refine aw_seq ?_
 refine aw_region_drew [b1, P] (by kernel_rfl) ?_
 refine tq 0 (by kernel_rfl) rfl rfl rfl rfl (ay_move rfl rfl) ?_
 refine tq 1 (by kernel_rfl) rfl rfl rfl rfl (ay_nilCheck rfl rfl) ?_
 refine tq 2 (by kernel_rfl) rfl rfl rfl rfl (ay_fieldAddr 0 0 rfl rfl Tryd.runUnderlying73 rfl Tryd.sizeOf34 (by decide) rfl) ?_
 refine tq 3 (by kernel_rfl) rfl rfl rfl rfl (ay_load_box (_ :: A) rfl rfl rfl Tryd.isAgg34 Tryd.sizeOf34 rfl (fun _ h => (mem_off.1 h).2 (by simp))) ?_
 refine tq 4 (by kernel_rfl) rfl rfl rfl rfl (ay_move rfl rfl) ?_
 refine tq 5 (by kernel_rfl) rfl rfl rfl rfl (ay_nilCheck rfl rfl) ?_
 refine tq 6 (by kernel_rfl) rfl rfl rfl rfl (ay_fieldAddr 1 1 rfl rfl Tryd.runUnderlying73 rfl Tryd.sizeOf3 (by decide) rfl) ?_
 refine tq 7 (by kernel_rfl) rfl rfl rfl rfl (ay_load_box (_ :: A) rfl rfl rfl Tryd.isAgg3 Tryd.sizeOf3 rfl (fun _ h => (mem_off.1 h).2 (by simp))) ?_
 refine two 8 13 (by kernel_rfl) rfl rfl rfl rfl ?_ ?_
 ·refine (wcall [] rfl rfl (by decide) Tryd.call14 rfl (parseE_c l k hok hk _) (fun _ h => by cases h) (fun _ h => by cases h) (fun _ _ h => by cases h) ?_)
  rintro t2 s2 ⟨x2, k2, e2, rfl, hr2, hk2, he2, rfl⟩
  refine tq 9 (by kernel_rfl) rfl rfl rfl rfl (ay_move rfl rfl) ?_
  refine tq 10 (by kernel_rfl) rfl rfl rfl rfl (ay_extract rfl rfl rfl) ?_
  refine tq 11 (by kernel_rfl) rfl rfl rfl rfl (ay_extract rfl rfl rfl) ?_
  refine tq 12 (by kernel_rfl) rfl rfl rfl rfl (ay_extract rfl rfl rfl) ?_
  refine one 13 (by kernel_rfl) rfl rfl (walloc rfl rfl (by decide) Tryd.zeroValue31 rfl fun b2 => ?_)
  refine one 14 (by kernel_rfl) rfl rfl (wst0 rfl rfl rfl rfl rfl Tryd.sizeOf31 rfl (Nat.le_of_ble_eq_true rfl) (splice_all rfl) (by simp) (fun h => mem_off.2 ⟨by simp [Sto.bl], fun hh => by simp only [List.mem_cons, List.not_mem_nil, or_false] at hh; rcases hh with rfl | rfl <;> simp [Sto.bl] at h⟩) ?_)
  refine tq 15 (by kernel_rfl) rfl rfl rfl rfl (ay_assign rfl rfl) ?_
  refine tq 16 (by kernel_rfl) rfl rfl rfl rfl (ay_assign rfl rfl) ?_
  refine any_done (by kernel_rfl) ?_
  refine then_normal ?_
  refine sqrg ?_
  refine wmv rfl rfl rfl rfl rfl ?_
  refine wmv rfl rfl rfl rfl rfl ?_
  refine wmv rfl rfl rfl rfl rfl ?_
  refine wmv rfl rfl rfl rfl rfl ?_
  refine wyy rfl rfl rfl (ay_nilCheck rfl rfl) ?_
  refine wyy rfl rfl rfl (ay_fieldAddr 1 1 rfl rfl Tryd.runUnderlying73 rfl Tryd.sizeOf3 (by decide) rfl) ?_
  refine wo rfl (wstA2 rfl rfl rfl rfl rfl Tryd.sizeOf3 rfl (Nat.le_of_ble_eq_true rfl) rfl (by simp) (fun _ => by simp) ?_)
  refine wyy rfl rfl rfl (ay_nilCheck rfl rfl) ?_
  refine wyy rfl rfl rfl (ay_fieldAddr 3 3 rfl rfl Tryd.runUnderlying73 rfl Tryd.sizeOf36 (by decide) rfl) ?_
  refine wo rfl (wstA2 rfl rfl rfl rfl rfl Tryd.sizeOf36 rfl (Nat.le_of_ble_eq_true rfl) rfl (by simp) (fun _ => by simp) ?_)
  refine nx ?_
  refine wyy rfl rfl rfl (ay_load_box [] rfl rfl rfl Tryd.isAgg31 Tryd.sizeOf31 rfl (fun _ h => by cases h)) ?_
  refine wo rfl (wst1 rfl rfl rfl rfl rfl Tryd.sizeOf31 rfl (Nat.le_of_ble_eq_true rfl) (splice_all rfl) (by simp) (fun _ => by simp) ?_)
  refine nlnm ?_
  refine aw_ret ?_
  exact ⟨.inr rfl, _, (PSt A B rw P l (k2) (dp) (e2)), (res_one rfl (resv_cell [_] rfl rfl Tryd.isAgg31 Tryd.sizeOf31 (pk_all rfl rfl))), subS_of (.cons _ (.cons _ (.refl _))) (.refl _), ⟨x2, k2, e2, rfl, hr2, hk2, he2, rfl⟩⟩
 ·refine (walloc rfl rfl (by decide) Tryd.zeroValue31 rfl fun b3 => ?_)
  refine one 8 (by kernel_rfl) rfl rfl (wcall [] rfl rfl (by decide) Tryd.call14 rfl (parseE_c l k hok hk _) (fun _ h => by cases h) (fun _ h => by cases h) (fun _ _ h => by cases h) ?_)
  rintro t3 s3 ⟨x3, k3, e3, rfl, hr3, hk3, he3, rfl⟩
  refine tq 9 (by kernel_rfl) rfl rfl rfl rfl (ay_move rfl rfl) ?_
  refine tq 10 (by kernel_rfl) rfl rfl rfl rfl (ay_extract rfl rfl rfl) ?_
  refine tq 11 (by kernel_rfl) rfl rfl rfl rfl (ay_extract rfl rfl rfl) ?_
  refine tq 12 (by kernel_rfl) rfl rfl rfl rfl (ay_extract rfl rfl rfl) ?_
  refine one 14 (by kernel_rfl) rfl rfl (wst0 rfl rfl rfl rfl rfl Tryd.sizeOf31 rfl (Nat.le_of_ble_eq_true rfl) (splice_all rfl) (by simp) (fun h => mem_off.2 ⟨by simp [Sto.bl], fun hh => by simp only [List.mem_cons, List.not_mem_nil, or_false] at hh; rcases hh with rfl | rfl <;> simp [Sto.bl] at h⟩) ?_)
  refine tq 15 (by kernel_rfl) rfl rfl rfl rfl (ay_assign rfl rfl) ?_
  refine tq 16 (by kernel_rfl) rfl rfl rfl rfl (ay_assign rfl rfl) ?_
  refine any_done (by kernel_rfl) ?_
  refine then_normal ?_
  refine sqrg ?_
  refine wmv rfl rfl rfl rfl rfl ?_
  refine wmv rfl rfl rfl rfl rfl ?_
  refine wmv rfl rfl rfl rfl rfl ?_
  refine wmv rfl rfl rfl rfl rfl ?_
  refine wyy rfl rfl rfl (ay_nilCheck rfl rfl) ?_
  refine wyy rfl rfl rfl (ay_fieldAddr 1 1 rfl rfl Tryd.runUnderlying73 rfl Tryd.sizeOf3 (by decide) rfl) ?_
  refine wo rfl (wstA2 rfl rfl rfl rfl rfl Tryd.sizeOf3 rfl (Nat.le_of_ble_eq_true rfl) rfl (by simp) (fun _ => by simp) ?_)
  refine wyy rfl rfl rfl (ay_nilCheck rfl rfl) ?_
  refine wyy rfl rfl rfl (ay_fieldAddr 3 3 rfl rfl Tryd.runUnderlying73 rfl Tryd.sizeOf36 (by decide) rfl) ?_
  refine wo rfl (wstA2 rfl rfl rfl rfl rfl Tryd.sizeOf36 rfl (Nat.le_of_ble_eq_true rfl) rfl (by simp) (fun _ => by simp) ?_)
  refine nx ?_
  refine wyy rfl rfl rfl (ay_load_box [] rfl rfl rfl Tryd.isAgg31 Tryd.sizeOf31 rfl (fun _ h => by cases h)) ?_
  refine wo rfl (wst1 rfl rfl rfl rfl rfl Tryd.sizeOf31 rfl (Nat.le_of_ble_eq_true rfl) (splice_all rfl) (by simp) (fun _ => by simp) ?_)
  refine nlnm ?_
  refine aw_ret ?_
  exact ⟨.inr rfl, _, (PSt A B rw P l (k3) (dp) (e3)), (res_one rfl (resv_cell [_] rfl rfl Tryd.isAgg31 Tryd.sizeOf31 (pk_all rfl rfl))), subS_of (.cons _ (.cons _ (.refl _))) (.refl _), ⟨x3, k3, e3, rfl, hr3, hk3, he3, rfl⟩⟩
set_option maxRecDepth 100000 in
set_option maxHeartbeats 1600000 in
theorem exprP_s (A B : List Box) (rw : List ORow) (P : Nat) (l : List Tok) (k dp e : Nat) (hok : TOk l) (hk : k < l.length) (he : e < 16) (he0 : e ≠ 0) : ACall Tryd.prog 135 [.c (.val (.pointer (some ⟨P, 0, none⟩)))] [P] (PSt A B rw P l k dp e) (PAn A B rw P l dp (fun x => .agg (encE1 x)) e k (exprP l k)) := by
 have hlen := hok.len
 refine acall_body Tryd.func135 rfl (Nat.le_of_ble_eq_true rfl) ?_
 show AWp Tryd.prog _ ⟨34, [P], ⟨A ++ ⟨P, 73, [.sl l.length (l.flatMap encT), .val (.int .i64 ((k : Nat) : Int)), .val (.int .i64 ((dp : Nat) : Int)), .val (.int .i64 ((e : Nat) : Int))]⟩ :: B, rw⟩, [(0, .c (.val (.pointer (some ⟨P, 0, none⟩))))]⟩ _
 refine sqrg ?_
 refine wo rfl (walloc rfl rfl (by decide) Tryd.zeroValue31 rfl fun b1 => ?_)
 refine nlnm ?_
 refine aw_seq ?_
 refine sqrg ?_
 refine wmv rfl rfl rfl rfl rfl ?_
 refine wyy rfl rfl rfl (ay_nilCheck rfl rfl) ?_
 refine wyy rfl rfl rfl (ay_fieldAddr 3 3 rfl rfl Tryd.runUnderlying73 rfl Tryd.sizeOf36 (by decide) rfl) ?_
 refine wyy rfl rfl rfl (ay_load_box (_ :: A) rfl rfl rfl Tryd.isAgg36 Tryd.sizeOf36 rfl (fun _ h => by cases h)) ?_
 refine wyy rfl rfl rfl (ay_cmp true rfl rfl rfl (by simp [cmpR, he0])) ?_
 refine nlnm ?_
 refine aw_condT rfl rfl ?_
 refine sqrg ?_
 refine wyy rfl rfl rfl (ay_build Tryd.t31 [(0, 1), (1, 1), (2, 1), (3, 1)] rfl .nil Tryd.underlying31 (by kernel_rfl) rfl (by kernel_rfl) rfl rfl) ?_
 refine wo rfl (wst0 rfl rfl rfl rfl rfl Tryd.sizeOf31 rfl (Nat.le_of_ble_eq_true rfl) (splice_all rfl) (by simp) (fun _ => by simp) ?_)
 refine nlnm ?_
 refine aw_ret ?_
 refine then_ret ?_
 exact ⟨.inr rfl, _, (PSt A B rw P l (k) (dp) (e)), (res_wk (Wk.agg (.cons (WkC.refl _) (.cons (WkC.refl _) (.cons (WkC.refl _) (.cons wk_nil .nil))))) (res_one rfl (resv_cell [] rfl rfl Tryd.isAgg31 Tryd.sizeOf31 (pk_all rfl rfl)))), subS_of (.cons _ (.refl _)) (.refl _), ⟨.zero, k, e, rfl, .skip he0 _ _, hk, he, rfl⟩⟩
theorem exprP_c (A B : List Box) (rw : List ORow) (P : Nat) (l : List Tok) (k dp e : Nat) (hok : TOk l) (hk : k < l.length) (he : e < 16) : ACall Tryd.prog 135 [.c (.val (.pointer (some ⟨P, 0, none⟩)))] [P] (PSt A B rw P l k dp e) (PAn A B rw P l dp (fun x => .agg (encE1 x)) e k (exprP l k)) := by
 by_cases h0 : e = 0
 ·subst h0; exact exprP_0 A B rw P l k dp hok hk
 ·exact exprP_s A B rw P l k dp e hok hk he h0
set_option maxRecDepth 100000 in
set_option maxHeartbeats 1600000 in
theorem refP_c (A B : List Box) (rw : List ORow) (P : Nat) (l : List Tok) (k dp e : Nat) (hok : TOk l) (hk : k < l.length) (he : e < 16) : ACall Tryd.prog 142 [.c (.val (.pointer (some ⟨P, 0, none⟩)))] [P] (PSt A B rw P l k dp e) (PAn A B rw P l dp (fun x => .agg (encR x)) e k (refP l k)) := by
 have hlen := hok.len
 refine acall_body Tryd.func142 rfl (Nat.le_of_ble_eq_true rfl) ?_
 show AWp Tryd.prog _ ⟨16, [P], ⟨A ++ ⟨P, 73, [.sl l.length (l.flatMap encT), .val (.int .i64 ((k : Nat) : Int)), .val (.int .i64 ((dp : Nat) : Int)), .val (.int .i64 ((e : Nat) : Int))]⟩ :: B, rw⟩, [(0, .c (.val (.pointer (some ⟨P, 0, none⟩))))]⟩ _
 refine sqrg ?_
 refine wo rfl (walloc rfl rfl (by decide) Tryd.zeroValue116 rfl fun b1 => ?_)
 refine nx ?_
 refine wmv rfl rfl rfl rfl rfl ?_
 refine wcP rfl rfl rfl rfl Tryd.call90 rfl (nameP_c (_ :: A) _ _ _ l k dp e hok hk he) (by simp) (by simp [Sto.bl]) ?_
 rintro t1 s1 ⟨x1, k1, e1, rfl, hr1, hk1, he1, rfl⟩
 refine wyy rfl rfl rfl (ay_build Tryd.t116 [(0, 1), (1, 1)] rfl (.cons rfl .nil) Tryd.underlying116 (by kernel_rfl) rfl (by kernel_rfl) rfl rfl) ?_
 refine wo rfl (walloc rfl rfl (by decide) Tryd.zeroValue116 rfl fun b2 => ?_)
 refine wo rfl (wst0 rfl rfl rfl rfl rfl Tryd.sizeOf116 rfl (Nat.le_of_ble_eq_true rfl) (splice_all rfl) (by simp) (fun _ => by simp) ?_)
 refine nlnm ?_
 refine aw_seq ?_
 refine sqrg ?_
 refine wmv rfl rfl rfl rfl rfl ?_
 refine wcP rfl rfl rfl rfl Tryd.call91 rfl (accept_c (_ :: _ :: A) _ _ _ l k1 dp e1 [91] hok hk1) (by simp) (by simp [Sto.bl]) ?_
 rintro t2 s2 (⟨rfl, ha2, hm2, rfl, rfl⟩ | ⟨ha2, rfl, rfl⟩)
 ·refine nlnm ?_
  refine aw_condT rfl rfl ?_
  refine sqrg ?_
  refine wmv rfl rfl rfl rfl rfl ?_
  refine wcP rfl rfl rfl rfl Tryd.call135 rfl (exprP_c (_ :: _ :: A) _ _ _ l (k1 + 1) dp 0 hok hm2 (by decide)) (by simp) (by simp [Sto.bl]) ?_
  rintro t4 s4 ⟨x4, k4, e4, rfl, hr4, hk4, he4, rfl⟩
  refine wo rfl (wbs Tryd.t31 [.val (.int .i64 0), .val (.int .i64 0), .val (.string ⟨#[]⟩), .val (.slice none 0 0)] rfl rfl (by decide) (.cons rfl .nil) Tryd.underlying29 (by kernel_rfl) rfl (by decide) (by decide) (by kernel_rfl) (by kernel_rfl) (fill_one encE encE1 x4 (encE_one _) rfl rfl) ?_)
  refine wyy rfl rfl rfl (ay_fieldAddr 1 1 rfl rfl Tryd.runUnderlying116 rfl Tryd.sizeOf29 (by decide) rfl) ?_
  refine wo rfl (wst0 rfl rfl rfl rfl rfl Tryd.sizeOf29 rfl (Nat.le_of_ble_eq_true rfl) rfl (by simp) (fun _ => by simp) ?_)
  refine nlnm ?_
  refine aw_region ?_
  refine wmv rfl rfl rfl rfl rfl ?_
  refine wcP rfl rfl rfl rfl Tryd.call93 rfl (signP_c (_ :: _ :: A) _ _ _ l k4 dp e4 [93] hok hk4 he4) (by simp) (by simp [Sto.bl]) ?_
  rintro t5 s5 ⟨x5, k5, e5, rfl, hr5, hk5, he5, rfl⟩
  refine nx ?_
  refine wyy rfl rfl rfl (ay_load_box [] rfl rfl rfl Tryd.isAgg116 Tryd.sizeOf116 rfl (fun _ h => by cases h)) ?_
  refine wo rfl (wst1 rfl rfl rfl rfl rfl Tryd.sizeOf116 rfl (Nat.le_of_ble_eq_true rfl) (splice_all rfl) (by simp) (fun _ => by simp) ?_)
  refine nlnm ?_
  refine aw_ret ?_
  exact ⟨.inr rfl, _, (PSt A B rw P l (k5) (dp) (e5)), (res_one rfl (resv_cell [_] rfl rfl Tryd.isAgg116 Tryd.sizeOf116 (pk_all rfl rfl))), subS_of (.cons _ (.cons _ (.refl _))) (.refl _), ⟨⟨x1, [x4]⟩, k5, e5, rfl, hr1.bind (f := refTail l) (Run.eq (Run.from (hr4.bind (f := fun e k => (wantP l [93] k).bind fun _ k => .ok ⟨x1, [e]⟩ k) (hr5.map (f := fun _ => ARef.mk x1 [x4])))) fun _ => by unfold refTail; rw [if_pos ha2]), hk5, he5, rfl⟩⟩
 ·refine nlnm ?_
  refine aw_condF rfl rfl ?_
  refine aw_skip ?_
  refine then_normal ?_
  refine sqrg ?_
  refine wyy rfl rfl rfl (ay_load_box [] rfl rfl rfl Tryd.isAgg116 Tryd.sizeOf116 rfl (fun _ h => by cases h)) ?_
  refine wo rfl (wst1 rfl rfl rfl rfl rfl Tryd.sizeOf116 rfl (Nat.le_of_ble_eq_true rfl) (splice_all rfl) (by simp) (fun _ => by simp) ?_)
  refine nlnm ?_
  refine aw_ret ?_
  exact ⟨.inr rfl, _, (PSt A B rw P l (k1) (dp) (e1)), (res_wk (Wk.agg (.cons (WkC.refl _) (.cons wk_nil .nil))) (res_one rfl (resv_cell [_] rfl rfl Tryd.isAgg116 Tryd.sizeOf116 (pk_all rfl rfl)))), subS_of (.cons _ (.cons _ (.refl _))) (.refl _), ⟨⟨x1, []⟩, k1, e1, rfl, hr1.bind (f := refTail l) ((Run.pure _ _ _).eq fun h => by unfold refTail; rw [if_neg (by rw [ha2 h]; decide)]), hk1, he1, rfl⟩⟩
set_option maxRecDepth 100000 in
set_option maxHeartbeats 1600000 in
theorem argP_c (A B : List Box) (rw : List ORow) (P : Nat) (l : List Tok) (k dp e : Nat) (hok : TOk l) (hk : k < l.length) (he : e < 16) : ACall Tryd.prog 144 [.c (.val (.pointer (some ⟨P, 0, none⟩)))] [P] (PSt A B rw P l k dp e) (PAn A B rw P l dp (fun x => .agg (encA x)) e k (argP l k)) := by
 have hlen := hok.len
 refine acall_body Tryd.func144 rfl (Nat.le_of_ble_eq_true rfl) ?_
 show AWp Tryd.prog _ ⟨11, [P], ⟨A ++ ⟨P, 73, [.sl l.length (l.flatMap encT), .val (.int .i64 ((k : Nat) : Int)), .val (.int .i64 ((dp : Nat) : Int)), .val (.int .i64 ((e : Nat) : Int))]⟩ :: B, rw⟩, [(0, .c (.val (.pointer (some ⟨P, 0, none⟩))))]⟩ _
 refine sqrg ?_
 refine wo rfl (walloc rfl rfl (by decide) Tryd.zeroValue123 rfl fun b1 => ?_)
 refine nlnm ?_
 refine aw_seq ?_
 refine sqrg ?_
 refine wmv rfl rfl rfl rfl rfl ?_
 refine wcP rfl rfl rfl rfl Tryd.call96 rfl (word_c (_ :: A) _ _ _ l k dp e [109, 117, 116, 101, 120] hok hk) (by simp) (by simp [Sto.bl]) ?_
 rintro t1 s1 (⟨rfl, ha1, hm1, rfl, rfl⟩ | ⟨ha1, rfl, rfl⟩)
 ·refine nlnm ?_
  refine aw_condT rfl rfl ?_
  refine sqrg ?_
  refine wmv rfl rfl rfl rfl rfl ?_
  refine wcP rfl rfl rfl rfl Tryd.call142 rfl (refP_c (_ :: A) _ _ _ l (k + 1) dp 0 hok hm1 (by decide)) (by simp) (by simp [Sto.bl]) ?_
  rintro t3 s3 ⟨x3, k3, e3, rfl, hr3, hk3, he3, rfl⟩
  refine wyy rfl rfl rfl (ay_build Tryd.t123 [(0, 1), (1, 2), (3, 4)] rfl (.cons rfl (.cons rfl .nil)) Tryd.underlying123 (by kernel_rfl) rfl (by kernel_rfl) rfl rfl) ?_
  refine wo rfl (wst0 rfl rfl rfl rfl rfl Tryd.sizeOf123 rfl (Nat.le_of_ble_eq_true rfl) (splice_all rfl) (by simp) (fun _ => by simp) ?_)
  refine nlnm ?_
  refine aw_ret ?_
  refine then_ret ?_
  exact ⟨.inr rfl, _, (PSt A B rw P l (k3) (dp) (e3)), (res_wk (Wk.agg (.cons (WkC.refl _) (.cons (WkC.refl _) (.cons (WkC.refl _) (.cons (WkC.refl _) (.cons (WkC.refl _) (.cons (WkC.refl _) (.cons wk_nil .nil)))))))) (res_one rfl (resv_cell [] rfl rfl Tryd.isAgg123 Tryd.sizeOf123 (pk_all rfl rfl)))), subS_of (.cons _ (.refl _)) (.refl _), ⟨⟨true, x3, .zero⟩, k3, e3, rfl, (Run.from (hr3.map (f := fun r => AArg.mk true r .zero))).eq fun _ => by unfold argP; rw [if_pos ha1], hk3, he3, rfl⟩⟩
 ·refine nlnm ?_
  refine aw_condF rfl rfl ?_
  refine aw_skip ?_
  refine then_normal ?_
  refine sqrg ?_
  refine wmv rfl rfl rfl rfl rfl ?_
  refine wcP rfl rfl rfl rfl Tryd.call135 rfl (exprP_c (_ :: A) _ _ _ l k dp e hok hk he) (by simp) (by simp [Sto.bl]) ?_
  rintro t5 s5 ⟨x5, k5, e5, rfl, hr5, hk5, he5, rfl⟩
  refine wyy rfl rfl rfl (ay_build Tryd.t123 [(0, 1), (1, 2), (3, 4)] rfl (.cons rfl .nil) Tryd.underlying123 (by kernel_rfl) rfl (by kernel_rfl) rfl rfl) ?_
  refine wo rfl (wst0 rfl rfl rfl rfl rfl Tryd.sizeOf123 rfl (Nat.le_of_ble_eq_true rfl) (splice_all rfl) (by simp) (fun _ => by simp) ?_)
  refine nlnm ?_
  refine aw_ret ?_
  exact ⟨.inr rfl, _, (PSt A B rw P l (k5) (dp) (e5)), (res_wk (Wk.agg (.cons (WkC.refl _) (.cons (WkC.refl _) (.cons wk_nil (.cons (WkC.refl _) (.cons (WkC.refl _) (.cons (WkC.refl _) (.cons (WkC.refl _) .nil)))))))) (res_one rfl (resv_cell [] rfl rfl Tryd.isAgg123 Tryd.sizeOf123 (pk_all rfl rfl)))), subS_of (.cons _ (.refl _)) (.refl _), ⟨⟨false, .zero, x5⟩, k5, e5, rfl, (hr5.map (f := fun e => AArg.mk false .zero e)).eq fun h => by unfold argP; rw [if_neg (by rw [ha1 h]; decide)], hk5, he5, rfl⟩⟩
end Go.Proofs.YtflcnehhpmjipaaDoor
