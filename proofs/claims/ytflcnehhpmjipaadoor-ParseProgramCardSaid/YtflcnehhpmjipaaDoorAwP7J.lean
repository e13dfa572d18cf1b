import Derived.Test.YtflcnehhpmjipaaDoorP5J
set_option linter.unusedVariables false
set_option linter.unusedSimpArgs false
namespace Go.Proofs.YtflcnehhpmjipaaDoor
open Go.RowKit
theorem ay_len_row2 {P : Program} {U : List Nat} {o : Oper} {st : AS} {x : Operand} {t e E : TypeId} {v : Value} {z n : Nat} {cs : List AC} (A : List ORow) {B : List ORow} (ho : o.op = .call { callee := .builtin .len, args := #[x], argTypes := #[t] }) (hx : evA st x = some (.c (.val v))) (hrow : st.s.rows = A ++ ⟨v, E, z, n, cs⟩ :: B) (hu : ∀ w, (underlying t).run P w = .ok (.slice e) w) : AY P U o st (.c (.val (.int .i64 n))) :=
 ay_vals rfl fun a w hs w' => by
  obtain ⟨us, hown, -⟩ := hs.mem.row ⟨v, E, z, n, cs⟩ (by rw [hrow]; simp)
  have hv : ∃ p c, v = .slice p n c := by
   rcases hown.2 with ⟨h1, h2⟩ | ⟨g, cap, cur, h1, -⟩
   ·dsimp only at h1 h2; subst h2; exact ⟨_, _, h1⟩
   ·exact ⟨_, _, h1⟩
  obtain ⟨p, c, rfl⟩ := hv
  simp only [execOp, ho, resolve, List.map_toArray, List.map_cons, List.map_nil, hs.val hx]
  simp [go_sem, invoke, builtin, Builtin.len_, hu, goInt]
set_option maxRecDepth 100000 in
set_option maxHeartbeats 1600000 in
theorem kindN_s0 (A B : List Box) (rw : List ORow) (P : Nat) (l : List Tok) (k dp kk e : Nat) (sg : ByteArray) (hk : k < l.length) (he0 : e ≠ 0) : ACall Tryd.prog 66 [.c (.val (.pointer (some ⟨P, 0, none⟩))), .c (.val (.int .i64 (kk : Int))), .c (.val (.string sg))] [] (PSt A B rw P l k dp e) fun t s => t = .c (.val (.bool false)) ∧ s = PSt A B rw P l k dp e := by
 refine acall_body Tryd.func66 rfl (Nat.le_of_ble_eq_true rfl) ?_
 show AWp Tryd.prog _ ⟨42, [], ⟨A ++ ⟨P, 73, [.sl l.length (l.flatMap encT), .val (.int .i64 ((k : Nat) : Int)), .val (.int .i64 ((dp : Nat) : Int)), .val (.int .i64 ((e : Nat) : Int))]⟩ :: B, rw⟩, [(0, .c (.val (.pointer (some ⟨P, 0, none⟩)))), (1, .c (.val (.int .i64 (kk : Int)))), (2, .c (.val (.string sg)))]⟩ _
 refine sqrg ?_
 refine wag rfl rfl rfl rfl rfl ?_
 refine nlnm ?_
 refine aw_seq ?_
 refine aw_region_drew [P] (by kernel_rfl) ?_
 refine tq 0 (by kernel_rfl) rfl rfl rfl rfl (ay_move rfl rfl) ?_
 refine tq 1 (by kernel_rfl) rfl rfl rfl rfl (ay_nilCheck rfl rfl) ?_
 refine tq 2 (by kernel_rfl) rfl rfl rfl rfl (ay_fieldAddr 3 3 rfl rfl Tryd.runUnderlying73 rfl Tryd.sizeOf36 (by decide) rfl) ?_
 refine tq 3 (by kernel_rfl) rfl rfl rfl rfl (ay_load_box (A) rfl rfl rfl Tryd.isAgg36 Tryd.sizeOf36 rfl (fun _ h => (mem_off.1 h).2 (by simp))) ?_
 refine tq 4 (by kernel_rfl) rfl rfl rfl rfl (ay_cmp false rfl rfl rfl (eq_nat0 he0)) ?_
 refine tq 5 (by kernel_rfl) rfl rfl rfl rfl (ay_move rfl rfl) ?_
 refine tkskip 6 (by kernel_rfl) rfl (by kernel_rfl) (by kernel_rfl) rfl rfl (by decide) ?_
 refine tkskip 7 (by kernel_rfl) rfl (by kernel_rfl) (by kernel_rfl) rfl rfl (by decide) ?_
 refine tkskip 8 (by kernel_rfl) rfl (by kernel_rfl) (by kernel_rfl) rfl rfl (by decide) ?_
 refine tkskip 9 (by kernel_rfl) rfl (by kernel_rfl) (by kernel_rfl) rfl rfl (by decide) ?_
 refine tkskip 10 (by kernel_rfl) rfl (by kernel_rfl) (by kernel_rfl) rfl rfl (by decide) ?_
 refine tkskip 11 (by kernel_rfl) rfl (by kernel_rfl) (by kernel_rfl) rfl rfl (by decide) ?_
 refine tkskip 12 (by kernel_rfl) rfl (by kernel_rfl) (by kernel_rfl) rfl rfl (by decide) ?_
 refine tkskip 13 (by kernel_rfl) rfl (by kernel_rfl) (by kernel_rfl) rfl rfl (by decide) ?_
 refine tkskip 14 (by kernel_rfl) rfl (by kernel_rfl) (by kernel_rfl) rfl rfl (by decide) ?_
 refine tkskip 15 (by kernel_rfl) rfl (by kernel_rfl) (by kernel_rfl) rfl rfl (by decide) ?_
 refine tkskip 16 (by kernel_rfl) rfl (by kernel_rfl) (by kernel_rfl) rfl rfl (by decide) ?_
 refine tkskip 17 (by kernel_rfl) rfl (by kernel_rfl) (by kernel_rfl) rfl rfl (by decide) ?_
 refine tkskip 18 (by kernel_rfl) rfl (by kernel_rfl) (by kernel_rfl) rfl rfl (by decide) ?_
 refine tq 19 (by kernel_rfl) rfl rfl rfl rfl (ay_pick rfl rfl rfl) ?_
 refine tq 20 (by kernel_rfl) rfl rfl rfl rfl (ay_move rfl rfl) ?_
 refine tkskip 21 (by kernel_rfl) rfl (by kernel_rfl) (by kernel_rfl) rfl rfl (by decide) ?_
 refine tkskip 22 (by kernel_rfl) rfl (by kernel_rfl) (by kernel_rfl) rfl rfl (by decide) ?_
 refine tkskip 23 (by kernel_rfl) rfl (by kernel_rfl) (by kernel_rfl) rfl rfl (by decide) ?_
 refine tkskip 24 (by kernel_rfl) rfl (by kernel_rfl) (by kernel_rfl) rfl rfl (by decide) ?_
 refine tkskip 25 (by kernel_rfl) rfl (by kernel_rfl) (by kernel_rfl) rfl rfl (by decide) ?_
 refine tkskip 26 (by kernel_rfl) rfl (by kernel_rfl) (by kernel_rfl) rfl rfl (by decide) ?_
 refine tkskip 27 (by kernel_rfl) rfl (by kernel_rfl) (by kernel_rfl) rfl rfl (by decide) ?_
 refine tkskip 28 (by kernel_rfl) rfl (by kernel_rfl) (by kernel_rfl) rfl rfl (by decide) ?_
 refine tkskip 29 (by kernel_rfl) rfl (by kernel_rfl) (by kernel_rfl) rfl rfl (by decide) ?_
 refine tkskip 30 (by kernel_rfl) rfl (by kernel_rfl) (by kernel_rfl) rfl rfl (by decide) ?_
 refine tkskip 31 (by kernel_rfl) rfl (by kernel_rfl) (by kernel_rfl) rfl rfl (by decide) ?_
 refine tkskip 32 (by kernel_rfl) rfl (by kernel_rfl) (by kernel_rfl) rfl rfl (by decide) ?_
 refine tkskip 33 (by kernel_rfl) rfl (by kernel_rfl) (by kernel_rfl) rfl rfl (by decide) ?_
 refine tq 34 (by kernel_rfl) rfl rfl rfl rfl (ay_pick rfl rfl rfl) ?_
 refine tq 35 (by kernel_rfl) rfl rfl rfl rfl (ay_assign rfl rfl) ?_
 refine any_done (by kernel_rfl) ?_
 refine then_normal ?_
 refine aw_ret ?_
 exact ⟨.inr rfl, _, (PSt A B rw P l (k) (dp) (e)), res_one rfl (resv_tmp rfl), subS_of (.refl _) (.refl _), rfl, rfl⟩
set_option maxRecDepth 100000 in
set_option maxHeartbeats 1600000 in
theorem kindN_00 (A B : List Box) (rw : List ORow) (P : Nat) (l : List Tok) (k dp kk : Nat) (sg : ByteArray) (hk : k < l.length) (h4 : ¬ l[k].kind = kk) : ACall Tryd.prog 66 [.c (.val (.pointer (some ⟨P, 0, none⟩))), .c (.val (.int .i64 (kk : Int))), .c (.val (.string sg))] [] (PSt A B rw P l k dp 0) fun t s => t = .c (.val (.bool false)) ∧ s = PSt A B rw P l k dp 0 := by
 refine acall_body Tryd.func66 rfl (Nat.le_of_ble_eq_true rfl) ?_
 show AWp Tryd.prog _ ⟨42, [], ⟨A ++ ⟨P, 73, [.sl l.length (l.flatMap encT), .val (.int .i64 ((k : Nat) : Int)), .val (.int .i64 ((dp : Nat) : Int)), .val (.int .i64 ((0 : Nat) : Int))]⟩ :: B, rw⟩, [(0, .c (.val (.pointer (some ⟨P, 0, none⟩)))), (1, .c (.val (.int .i64 (kk : Int)))), (2, .c (.val (.string sg)))]⟩ _
 refine sqrg ?_
 refine wag rfl rfl rfl rfl rfl ?_
 refine nlnm ?_
 refine aw_seq ?_
 refine aw_region_drew [P] (by kernel_rfl) ?_
 refine tq 0 (by kernel_rfl) rfl rfl rfl rfl (ay_move rfl rfl) ?_
 refine tq 1 (by kernel_rfl) rfl rfl rfl rfl (ay_nilCheck rfl rfl) ?_
 refine tq 2 (by kernel_rfl) rfl rfl rfl rfl (ay_fieldAddr 3 3 rfl rfl Tryd.runUnderlying73 rfl Tryd.sizeOf36 (by decide) rfl) ?_
 refine tq 3 (by kernel_rfl) rfl rfl rfl rfl (ay_load_box (A) rfl rfl rfl Tryd.isAgg36 Tryd.sizeOf36 rfl (fun _ h => (mem_off.1 h).2 (by simp))) ?_
 refine tq 4 (by kernel_rfl) rfl rfl rfl rfl (ay_cmp true rfl rfl rfl (by rfl)) ?_
 refine tq 5 (by kernel_rfl) rfl rfl rfl rfl (ay_move rfl rfl) ?_
 refine tq 6 (by kernel_rfl) rfl rfl rfl rfl (ay_move rfl rfl) ?_
 refine tq 7 (by kernel_rfl) rfl rfl rfl rfl (ay_nilCheck rfl rfl) ?_
 refine tq 8 (by kernel_rfl) rfl rfl rfl rfl (ay_fieldAddr 0 0 rfl rfl Tryd.runUnderlying73 rfl Tryd.sizeOf34 (by decide) rfl) ?_
 refine tq 9 (by kernel_rfl) rfl rfl rfl rfl (ay_load_box (A) rfl rfl rfl Tryd.isAgg34 Tryd.sizeOf34 rfl (fun _ h => (mem_off.1 h).2 (by simp))) ?_
 refine tq 10 (by kernel_rfl) rfl rfl rfl rfl (ay_move rfl rfl) ?_
 refine tq 11 (by kernel_rfl) rfl rfl rfl rfl (ay_nilCheck rfl rfl) ?_
 refine tq 12 (by kernel_rfl) rfl rfl rfl rfl (ay_fieldAddr 1 1 rfl rfl Tryd.runUnderlying73 rfl Tryd.sizeOf3 (by decide) rfl) ?_
 refine tq 13 (by kernel_rfl) rfl rfl rfl rfl (ay_load_box (A) rfl rfl rfl Tryd.isAgg3 Tryd.sizeOf3 rfl (fun _ h => (mem_off.1 h).2 (by simp))) ?_
 refine tq 14 (by kernel_rfl) rfl rfl rfl rfl (ay_ix encT encT l encT_len (fun _ => rfl) (k) rfl rfl rfl rfl hk (by decide) Tryd.runUnderlying34 Tryd.sizeOf65) ?_
 refine tq 15 (by kernel_rfl) rfl rfl rfl rfl (ay_fieldAddr_el 0 rfl rfl Tryd.runUnderlying65 rfl Tryd.sizeOf3 (by decide)) ?_
 refine tq 16 (by kernel_rfl) rfl rfl rfl rfl (ay_load_el rfl rfl Tryd.isAgg3 Tryd.sizeOf3 rfl) ?_
 refine tq 17 (by kernel_rfl) rfl rfl rfl rfl (ay_move rfl rfl) ?_
 refine tq 18 (by kernel_rfl) rfl rfl rfl rfl (ay_cmp false rfl rfl rfl (by rw [show cmpR .eql ((l[k].kind : Nat) : Int) ((kk : Nat) : Int) = some (decide (l[k].kind = kk)) from cmp_nat, decide_eq_false h4])) ?_
 refine tq 19 (by kernel_rfl) rfl rfl rfl rfl (ay_pick rfl rfl rfl) ?_
 refine tq 20 (by kernel_rfl) rfl rfl rfl rfl (ay_move rfl rfl) ?_
 refine tkskip 21 (by kernel_rfl) rfl (by kernel_rfl) (by kernel_rfl) rfl rfl (by decide) ?_
 refine tkskip 22 (by kernel_rfl) rfl (by kernel_rfl) (by kernel_rfl) rfl rfl (by decide) ?_
 refine tkskip 23 (by kernel_rfl) rfl (by kernel_rfl) (by kernel_rfl) rfl rfl (by decide) ?_
 refine tkskip 24 (by kernel_rfl) rfl (by kernel_rfl) (by kernel_rfl) rfl rfl (by decide) ?_
 refine tkskip 25 (by kernel_rfl) rfl (by kernel_rfl) (by kernel_rfl) rfl rfl (by decide) ?_
 refine tkskip 26 (by kernel_rfl) rfl (by kernel_rfl) (by kernel_rfl) rfl rfl (by decide) ?_
 refine tkskip 27 (by kernel_rfl) rfl (by kernel_rfl) (by kernel_rfl) rfl rfl (by decide) ?_
 refine tkskip 28 (by kernel_rfl) rfl (by kernel_rfl) (by kernel_rfl) rfl rfl (by decide) ?_
 refine tkskip 29 (by kernel_rfl) rfl (by kernel_rfl) (by kernel_rfl) rfl rfl (by decide) ?_
 refine tkskip 30 (by kernel_rfl) rfl (by kernel_rfl) (by kernel_rfl) rfl rfl (by decide) ?_
 refine tkskip 31 (by kernel_rfl) rfl (by kernel_rfl) (by kernel_rfl) rfl rfl (by decide) ?_
 refine tkskip 32 (by kernel_rfl) rfl (by kernel_rfl) (by kernel_rfl) rfl rfl (by decide) ?_
 refine tkskip 33 (by kernel_rfl) rfl (by kernel_rfl) (by kernel_rfl) rfl rfl (by decide) ?_
 refine tq 34 (by kernel_rfl) rfl rfl rfl rfl (ay_pick rfl rfl rfl) ?_
 refine tq 35 (by kernel_rfl) rfl rfl rfl rfl (ay_assign rfl rfl) ?_
 refine any_done (by kernel_rfl) ?_
 refine then_normal ?_
 refine aw_ret ?_
 exact ⟨.inr rfl, _, (PSt A B rw P l (k) (dp) (0)), res_one rfl (resv_tmp rfl), subS_of (.refl _) (.refl _), rfl, rfl⟩
set_option maxRecDepth 100000 in
set_option maxHeartbeats 1600000 in
theorem kindN_y0 (A B : List Box) (rw : List ORow) (P : Nat) (l : List Tok) (k dp kk : Nat) (sg : ByteArray) (hk : k < l.length) (h4 : l[k].kind = kk) (ht : l[k].text = sg) : ACall Tryd.prog 66 [.c (.val (.pointer (some ⟨P, 0, none⟩))), .c (.val (.int .i64 (kk : Int))), .c (.val (.string sg))] [] (PSt A B rw P l k dp 0) fun t s => t = .c (.val (.bool true)) ∧ s = PSt A B rw P l k dp 0 := by
 refine acall_body Tryd.func66 rfl (Nat.le_of_ble_eq_true rfl) ?_
 show AWp Tryd.prog _ ⟨42, [], ⟨A ++ ⟨P, 73, [.sl l.length (l.flatMap encT), .val (.int .i64 ((k : Nat) : Int)), .val (.int .i64 ((dp : Nat) : Int)), .val (.int .i64 ((0 : Nat) : Int))]⟩ :: B, rw⟩, [(0, .c (.val (.pointer (some ⟨P, 0, none⟩)))), (1, .c (.val (.int .i64 (kk : Int)))), (2, .c (.val (.string sg)))]⟩ _
 refine sqrg ?_
 refine wag rfl rfl rfl rfl rfl ?_
 refine nlnm ?_
 refine aw_seq ?_
 refine aw_region_drew [P] (by kernel_rfl) ?_
 refine tq 0 (by kernel_rfl) rfl rfl rfl rfl (ay_move rfl rfl) ?_
 refine tq 1 (by kernel_rfl) rfl rfl rfl rfl (ay_nilCheck rfl rfl) ?_
 refine tq 2 (by kernel_rfl) rfl rfl rfl rfl (ay_fieldAddr 3 3 rfl rfl Tryd.runUnderlying73 rfl Tryd.sizeOf36 (by decide) rfl) ?_
 refine tq 3 (by kernel_rfl) rfl rfl rfl rfl (ay_load_box (A) rfl rfl rfl Tryd.isAgg36 Tryd.sizeOf36 rfl (fun _ h => (mem_off.1 h).2 (by simp))) ?_
 refine tq 4 (by kernel_rfl) rfl rfl rfl rfl (ay_cmp true rfl rfl rfl (by rfl)) ?_
 refine tq 5 (by kernel_rfl) rfl rfl rfl rfl (ay_move rfl rfl) ?_
 refine tq 6 (by kernel_rfl) rfl rfl rfl rfl (ay_move rfl rfl) ?_
 refine tq 7 (by kernel_rfl) rfl rfl rfl rfl (ay_nilCheck rfl rfl) ?_
 refine tq 8 (by kernel_rfl) rfl rfl rfl rfl (ay_fieldAddr 0 0 rfl rfl Tryd.runUnderlying73 rfl Tryd.sizeOf34 (by decide) rfl) ?_
 refine tq 9 (by kernel_rfl) rfl rfl rfl rfl (ay_load_box (A) rfl rfl rfl Tryd.isAgg34 Tryd.sizeOf34 rfl (fun _ h => (mem_off.1 h).2 (by simp))) ?_
 refine tq 10 (by kernel_rfl) rfl rfl rfl rfl (ay_move rfl rfl) ?_
 refine tq 11 (by kernel_rfl) rfl rfl rfl rfl (ay_nilCheck rfl rfl) ?_
 refine tq 12 (by kernel_rfl) rfl rfl rfl rfl (ay_fieldAddr 1 1 rfl rfl Tryd.runUnderlying73 rfl Tryd.sizeOf3 (by decide) rfl) ?_
 refine tq 13 (by kernel_rfl) rfl rfl rfl rfl (ay_load_box (A) rfl rfl rfl Tryd.isAgg3 Tryd.sizeOf3 rfl (fun _ h => (mem_off.1 h).2 (by simp))) ?_
 refine tq 14 (by kernel_rfl) rfl rfl rfl rfl (ay_ix encT encT l encT_len (fun _ => rfl) (k) rfl rfl rfl rfl hk (by decide) Tryd.runUnderlying34 Tryd.sizeOf65) ?_
 refine tq 15 (by kernel_rfl) rfl rfl rfl rfl (ay_fieldAddr_el 0 rfl rfl Tryd.runUnderlying65 rfl Tryd.sizeOf3 (by decide)) ?_
 refine tq 16 (by kernel_rfl) rfl rfl rfl rfl (ay_load_el rfl rfl Tryd.isAgg3 Tryd.sizeOf3 rfl) ?_
 refine tq 17 (by kernel_rfl) rfl rfl rfl rfl (ay_move rfl rfl) ?_
 refine tq 18 (by kernel_rfl) rfl rfl rfl rfl (ay_cmp true rfl rfl rfl (by rw [h4]; simp [cmpR])) ?_
 refine tq 19 (by kernel_rfl) rfl rfl rfl rfl (ay_pick rfl rfl rfl) ?_
 refine tq 20 (by kernel_rfl) rfl rfl rfl rfl (ay_move rfl rfl) ?_
 refine tq 21 (by kernel_rfl) rfl rfl rfl rfl (ay_move rfl rfl) ?_
 refine tq 22 (by kernel_rfl) rfl rfl rfl rfl (ay_nilCheck rfl rfl) ?_
 refine tq 23 (by kernel_rfl) rfl rfl rfl rfl (ay_fieldAddr 0 0 rfl rfl Tryd.runUnderlying73 rfl Tryd.sizeOf34 (by decide) rfl) ?_
 refine tq 24 (by kernel_rfl) rfl rfl rfl rfl (ay_load_box (A) rfl rfl rfl Tryd.isAgg34 Tryd.sizeOf34 rfl (fun _ h => (mem_off.1 h).2 (by simp))) ?_
 refine tq 25 (by kernel_rfl) rfl rfl rfl rfl (ay_move rfl rfl) ?_
 refine tq 26 (by kernel_rfl) rfl rfl rfl rfl (ay_nilCheck rfl rfl) ?_
 refine tq 27 (by kernel_rfl) rfl rfl rfl rfl (ay_fieldAddr 1 1 rfl rfl Tryd.runUnderlying73 rfl Tryd.sizeOf3 (by decide) rfl) ?_
 refine tq 28 (by kernel_rfl) rfl rfl rfl rfl (ay_load_box (A) rfl rfl rfl Tryd.isAgg3 Tryd.sizeOf3 rfl (fun _ h => (mem_off.1 h).2 (by simp))) ?_
 refine tq 29 (by kernel_rfl) rfl rfl rfl rfl (ay_ix encT encT l encT_len (fun _ => rfl) (k) rfl rfl rfl rfl hk (by decide) Tryd.runUnderlying34 Tryd.sizeOf65) ?_
 refine tq 30 (by kernel_rfl) rfl rfl rfl rfl (ay_fieldAddr_el 1 rfl rfl Tryd.runUnderlying65 rfl Tryd.sizeOf9 (by decide)) ?_
 refine tq 31 (by kernel_rfl) rfl rfl rfl rfl (ay_load_el rfl rfl Tryd.isAgg9 Tryd.sizeOf9 rfl) ?_
 refine tq 32 (by kernel_rfl) rfl rfl rfl rfl (ay_move rfl rfl) ?_
 refine tq 33 (by kernel_rfl) rfl rfl rfl rfl (ay_streq true rfl rfl rfl (by rw [ht]; simp [strR])) ?_
 refine tq 34 (by kernel_rfl) rfl rfl rfl rfl (ay_pick rfl rfl rfl) ?_
 refine tq 35 (by kernel_rfl) rfl rfl rfl rfl (ay_assign rfl rfl) ?_
 refine any_done (by kernel_rfl) ?_
 refine then_normal ?_
 refine aw_ret ?_
 exact ⟨.inr rfl, _, (PSt A B rw P l (k) (dp) (0)), res_one rfl (resv_tmp rfl), subS_of (.refl _) (.refl _), rfl, rfl⟩
set_option maxRecDepth 100000 in
set_option maxHeartbeats 1600000 in
theorem kindN_n0 (A B : List Box) (rw : List ORow) (P : Nat) (l : List Tok) (k dp kk : Nat) (sg : ByteArray) (hk : k < l.length) (h4 : l[k].kind = kk) (ht : ¬ l[k].text = sg) : ACall Tryd.prog 66 [.c (.val (.pointer (some ⟨P, 0, none⟩))), .c (.val (.int .i64 (kk : Int))), .c (.val (.string sg))] [] (PSt A B rw P l k dp 0) fun t s => t = .c (.val (.bool false)) ∧ s = PSt A B rw P l k dp 0 := by
 refine acall_body Tryd.func66 rfl (Nat.le_of_ble_eq_true rfl) ?_
 show AWp Tryd.prog _ ⟨42, [], ⟨A ++ ⟨P, 73, [.sl l.length (l.flatMap encT), .val (.int .i64 ((k : Nat) : Int)), .val (.int .i64 ((dp : Nat) : Int)), .val (.int .i64 ((0 : Nat) : Int))]⟩ :: B, rw⟩, [(0, .c (.val (.pointer (some ⟨P, 0, none⟩)))), (1, .c (.val (.int .i64 (kk : Int)))), (2, .c (.val (.string sg)))]⟩ _
 refine sqrg ?_
 refine wag rfl rfl rfl rfl rfl ?_
 refine nlnm ?_
 refine aw_seq ?_
 refine aw_region_drew [P] (by kernel_rfl) ?_
 refine tq 0 (by kernel_rfl) rfl rfl rfl rfl (ay_move rfl rfl) ?_
 refine tq 1 (by kernel_rfl) rfl rfl rfl rfl (ay_nilCheck rfl rfl) ?_
 refine tq 2 (by kernel_rfl) rfl rfl rfl rfl (ay_fieldAddr 3 3 rfl rfl Tryd.runUnderlying73 rfl Tryd.sizeOf36 (by decide) rfl) ?_
 refine tq 3 (by kernel_rfl) rfl rfl rfl rfl (ay_load_box (A) rfl rfl rfl Tryd.isAgg36 Tryd.sizeOf36 rfl (fun _ h => (mem_off.1 h).2 (by simp))) ?_
 refine tq 4 (by kernel_rfl) rfl rfl rfl rfl (ay_cmp true rfl rfl rfl (by rfl)) ?_
 refine tq 5 (by kernel_rfl) rfl rfl rfl rfl (ay_move rfl rfl) ?_
 refine tq 6 (by kernel_rfl) rfl rfl rfl rfl (ay_move rfl rfl) ?_
 refine tq 7 (by kernel_rfl) rfl rfl rfl rfl (ay_nilCheck rfl rfl) ?_
 refine tq 8 (by kernel_rfl) rfl rfl rfl rfl (ay_fieldAddr 0 0 rfl rfl Tryd.runUnderlying73 rfl Tryd.sizeOf34 (by decide) rfl) ?_
 refine tq 9 (by kernel_rfl) rfl rfl rfl rfl (ay_load_box (A) rfl rfl rfl Tryd.isAgg34 Tryd.sizeOf34 rfl (fun _ h => (mem_off.1 h).2 (by simp))) ?_
 refine tq 10 (by kernel_rfl) rfl rfl rfl rfl (ay_move rfl rfl) ?_
 refine tq 11 (by kernel_rfl) rfl rfl rfl rfl (ay_nilCheck rfl rfl) ?_
 refine tq 12 (by kernel_rfl) rfl rfl rfl rfl (ay_fieldAddr 1 1 rfl rfl Tryd.runUnderlying73 rfl Tryd.sizeOf3 (by decide) rfl) ?_
 refine tq 13 (by kernel_rfl) rfl rfl rfl rfl (ay_load_box (A) rfl rfl rfl Tryd.isAgg3 Tryd.sizeOf3 rfl (fun _ h => (mem_off.1 h).2 (by simp))) ?_
 refine tq 14 (by kernel_rfl) rfl rfl rfl rfl (ay_ix encT encT l encT_len (fun _ => rfl) (k) rfl rfl rfl rfl hk (by decide) Tryd.runUnderlying34 Tryd.sizeOf65) ?_
 refine tq 15 (by kernel_rfl) rfl rfl rfl rfl (ay_fieldAddr_el 0 rfl rfl Tryd.runUnderlying65 rfl Tryd.sizeOf3 (by decide)) ?_
 refine tq 16 (by kernel_rfl) rfl rfl rfl rfl (ay_load_el rfl rfl Tryd.isAgg3 Tryd.sizeOf3 rfl) ?_
 refine tq 17 (by kernel_rfl) rfl rfl rfl rfl (ay_move rfl rfl) ?_
 refine tq 18 (by kernel_rfl) rfl rfl rfl rfl (ay_cmp true rfl rfl rfl (by rw [h4]; simp [cmpR])) ?_
 refine tq 19 (by kernel_rfl) rfl rfl rfl rfl (ay_pick rfl rfl rfl) ?_
 refine tq 20 (by kernel_rfl) rfl rfl rfl rfl (ay_move rfl rfl) ?_
 refine tq 21 (by kernel_rfl) rfl rfl rfl rfl (ay_move rfl rfl) ?_
 refine tq 22 (by kernel_rfl) rfl rfl rfl rfl (ay_nilCheck rfl rfl) ?_
 refine tq 23 (by kernel_rfl) rfl rfl rfl rfl (ay_fieldAddr 0 0 rfl rfl Tryd.runUnderlying73 rfl Tryd.sizeOf34 (by decide) rfl) ?_
 refine tq 24 (by kernel_rfl) rfl rfl rfl rfl (ay_load_box (A) rfl rfl rfl Tryd.isAgg34 Tryd.sizeOf34 rfl (fun _ h => (mem_off.1 h).2 (by simp))) ?_
 refine tq 25 (by kernel_rfl) rfl rfl rfl rfl (ay_move rfl rfl) ?_
 refine tq 26 (by kernel_rfl) rfl rfl rfl rfl (ay_nilCheck rfl rfl) ?_
 refine tq 27 (by kernel_rfl) rfl rfl rfl rfl (ay_fieldAddr 1 1 rfl rfl Tryd.runUnderlying73 rfl Tryd.sizeOf3 (by decide) rfl) ?_
 refine tq 28 (by kernel_rfl) rfl rfl rfl rfl (ay_load_box (A) rfl rfl rfl Tryd.isAgg3 Tryd.sizeOf3 rfl (fun _ h => (mem_off.1 h).2 (by simp))) ?_
 refine tq 29 (by kernel_rfl) rfl rfl rfl rfl (ay_ix encT encT l encT_len (fun _ => rfl) (k) rfl rfl rfl rfl hk (by decide) Tryd.runUnderlying34 Tryd.sizeOf65) ?_
 refine tq 30 (by kernel_rfl) rfl rfl rfl rfl (ay_fieldAddr_el 1 rfl rfl Tryd.runUnderlying65 rfl Tryd.sizeOf9 (by decide)) ?_
 refine tq 31 (by kernel_rfl) rfl rfl rfl rfl (ay_load_el rfl rfl Tryd.isAgg9 Tryd.sizeOf9 rfl) ?_
 refine tq 32 (by kernel_rfl) rfl rfl rfl rfl (ay_move rfl rfl) ?_
 refine tq 33 (by kernel_rfl) rfl rfl rfl rfl (ay_streq false rfl rfl rfl (by simp [strR, ht])) ?_
 refine tq 34 (by kernel_rfl) rfl rfl rfl rfl (ay_pick rfl rfl rfl) ?_
 refine tq 35 (by kernel_rfl) rfl rfl rfl rfl (ay_assign rfl rfl) ?_
 refine any_done (by kernel_rfl) ?_
 refine then_normal ?_
 refine aw_ret ?_
 exact ⟨.inr rfl, _, (PSt A B rw P l (k) (dp) (0)), res_one rfl (resv_tmp rfl), subS_of (.refl _) (.refl _), rfl, rfl⟩
theorem kindN_w (A B : List Box) (rw : List ORow) (P : Nat) (l : List Tok) (k dp e : Nat) (sg : List UInt8) (hk : k < l.length) : ACall Tryd.prog 66 [.c (.val (.pointer (some ⟨P, 0, none⟩))), .c (.val (.int .i64 3)), .c (.val (.string (bytes sg)))] [] (PSt A B rw P l k dp e) fun t s => (e = 0 ∧ wordAt l k sg = true ∧ t = .c (.val (.bool true)) ∧ s = PSt A B rw P l k dp e) ∨ ((e = 0 → wordAt l k sg = false) ∧ t = .c (.val (.bool false)) ∧ s = PSt A B rw P l k dp e) := by
 unfold wordAt
 rw [tokAt_lt hk]
 by_cases he : e = 0
 ·subst he
  by_cases h4 : l[k].kind = 3
  ·by_cases ht : l[k].text = bytes sg
   ·exact (kindN_y0 A B rw P l k dp 3 _ hk h4 ht).mono fun t s h => .inl ⟨rfl, by simp [h4, ht], h⟩
   ·exact (kindN_n0 A B rw P l k dp 3 _ hk h4 ht).mono fun t s h => .inr ⟨fun _ => by simp [ht], h⟩
  ·exact (kindN_00 A B rw P l k dp 3 _ hk h4).mono fun t s h => .inr ⟨fun _ => by simp [h4], h⟩
 ·exact (kindN_s0 A B rw P l k dp 3 e _ hk he).mono fun t s h => .inr ⟨fun h0 => absurd h0 he, h⟩
set_option maxRecDepth 100000 in
set_option maxHeartbeats 1600000 in
theorem parF_1 (A B : List Box) (rw : List ORow) (P : Nat) (l : List Tok) (k dp c1 c2 c3 : Nat) (T2 : TypeId) (cs2 : List AC) (nm : ByteArray) (v : Value) (acc : List AParam) (hok : TOk l) (hk : k < l.length) (hal : acc.length ≤ 1000000) (h1 : l[k].kind = 1) : ACall Tryd.prog 95 [.c (.val (.pointer (some ⟨c1, 0, none⟩))), .c (.val (.pointer (some ⟨c3, 0, none⟩)))] (rowB v ++ ([c3] ++ [P])) (PSt (⟨c3, 54, [.val (.string nm), .val v, .val (.slice none 0 0)]⟩ :: ⟨c2, T2, cs2⟩ :: ⟨c1, 71, [.val (.pointer (some ⟨P, 0, none⟩))]⟩ :: A) B (⟨v, 93, 2, (acc).length, (acc).flatMap encP⟩ :: rw) P l k dp 0) fun t s => ∃ x v' k' e', t = .tup [] ∧ Run 0 k (paramP l acc.length k) x k' e' ∧ k' < l.length ∧ e' < 16 ∧ s = PSt (⟨c3, 54, [.val (.string nm), .val v', .val (.slice none 0 0)]⟩ :: ⟨c2, T2, cs2⟩ :: ⟨c1, 71, [.val (.pointer (some ⟨P, 0, none⟩))]⟩ :: A) B (⟨v', 93, 2, (acc ++ [x]).length, (acc ++ [x]).flatMap encP⟩ :: rw) P l k' dp e' := by
 have hlen := hok.len
 have he : (0 : Nat) < 16 := by decide
 refine acall_body Tryd.func95 rfl (Nat.le_of_ble_eq_true rfl) ?_
 show AWp Tryd.prog _ ⟨36, rowB v ++ ([c3] ++ [P]), ⟨⟨c3, 54, [.val (.string nm), .val v, .val (.slice none 0 0)]⟩ :: ⟨c2, T2, cs2⟩ :: ⟨c1, 71, [.val (.pointer (some ⟨P, 0, none⟩))]⟩ :: (A ++ ⟨P, 73, [.sl l.length (l.flatMap encT), .val (.int .i64 ((k : Nat) : Int)), .val (.int .i64 ((dp : Nat) : Int)), .val (.int .i64 ((0 : Nat) : Int))]⟩ :: B), ⟨v, 93, 2, (acc).length, (acc).flatMap encP⟩ :: rw⟩, [(0, .c (.val (.pointer (some ⟨c1, 0, none⟩)))), (1, .c (.val (.pointer (some ⟨c3, 0, none⟩))))]⟩ _
 refine aw_seq ?_
 refine aw_seq ?_
 refine aw_region_drew [c3, c2, c1, P] (by kernel_rfl) ?_
 refine tq 0 (by kernel_rfl) rfl rfl rfl rfl (ay_load_box [_, _] rfl rfl rfl Tryd.isAgg71 Tryd.sizeOf71 rfl (fun _ h => (mem_off.1 h).2 (by simp))) ?_
 refine tq 1 (by kernel_rfl) rfl rfl rfl rfl (ay_nilCheck rfl rfl) ?_
 refine tq 2 (by kernel_rfl) rfl rfl rfl rfl (ay_fieldAddr 0 0 rfl rfl Tryd.runUnderlying73 rfl Tryd.sizeOf34 (by decide) rfl) ?_
 refine tq 3 (by kernel_rfl) rfl rfl rfl rfl (ay_load_box (_ :: _ :: _ :: A) rfl rfl rfl Tryd.isAgg34 Tryd.sizeOf34 rfl (fun _ h => (mem_off.1 h).2 (by simp))) ?_
 refine tq 4 (by kernel_rfl) rfl rfl rfl rfl (ay_load_box [_, _] rfl rfl rfl Tryd.isAgg71 Tryd.sizeOf71 rfl (fun _ h => (mem_off.1 h).2 (by simp))) ?_
 refine tq 5 (by kernel_rfl) rfl rfl rfl rfl (ay_nilCheck rfl rfl) ?_
 refine tq 6 (by kernel_rfl) rfl rfl rfl rfl (ay_fieldAddr 1 1 rfl rfl Tryd.runUnderlying73 rfl Tryd.sizeOf3 (by decide) rfl) ?_
 refine tq 7 (by kernel_rfl) rfl rfl rfl rfl (ay_load_box (_ :: _ :: _ :: A) rfl rfl rfl Tryd.isAgg3 Tryd.sizeOf3 rfl (fun _ h => (mem_off.1 h).2 (by simp))) ?_
 refine tq 8 (by kernel_rfl) rfl rfl rfl rfl (ay_ix encT encT l encT_len (fun _ => rfl) (k) rfl rfl rfl rfl hk (by decide) Tryd.runUnderlying34 Tryd.sizeOf65) ?_
 refine tq 9 (by kernel_rfl) rfl rfl rfl rfl (ay_fieldAddr_el 0 rfl rfl Tryd.runUnderlying65 rfl Tryd.sizeOf3 (by decide)) ?_
 refine tq 10 (by kernel_rfl) rfl rfl rfl rfl (ay_load_el rfl rfl Tryd.isAgg3 Tryd.sizeOf3 rfl) ?_
 refine tq 11 (by kernel_rfl) rfl rfl rfl rfl (ay_cmp true rfl rfl rfl (by rw [h1]; rfl)) ?_
 refine tq 12 (by kernel_rfl) rfl rfl rfl rfl (ay_move rfl rfl) ?_
 refine tkskip 13 (by kernel_rfl) rfl (by kernel_rfl) (by kernel_rfl) rfl rfl (by decide) ?_
 refine tkskip 14 (by kernel_rfl) rfl (by kernel_rfl) (by kernel_rfl) rfl rfl (by decide) ?_
 refine tq 15 (by kernel_rfl) rfl rfl rfl rfl (ay_pick rfl rfl rfl) ?_
 refine any_done (by kernel_rfl) ?_
 refine then_normal ?_
 refine aw_condT rfl rfl ?_
 refine aw_region ?_
 by_cases h6 : 6 ≤ acc.length
 ·skip
  refine wyy rfl rfl rfl (ay_load_box [_, _] rfl rfl rfl Tryd.isAgg71 Tryd.sizeOf71 rfl (fun _ h => by cases h)) ?_
  refine wyy rfl rfl rfl (ay_fieldAddr 1 1 rfl rfl Tryd.runUnderlying54 rfl Tryd.sizeOf51 (by decide) rfl) ?_
  refine wyy rfl rfl rfl (ay_load_box [] rfl rfl rfl Tryd.isAgg51 Tryd.sizeOf51 rfl (fun _ h => by cases h)) ?_
  refine wyy rfl rfl rfl (ay_len_row2 [] rfl rfl rfl Tryd.runUnderlying51) ?_
  refine wcP rfl rfl rfl rfl Tryd.call67 rfl (limit_yes (_ :: _ :: _ :: A) _ _ _ l k dp 0 acc.length 6 (by decide) h6) (by simp) (by simp [Sto.bl]) ?_
  rintro t2 s2 ⟨e2, hf2, rfl, rfl⟩
  obtain rfl := hf2.1 rfl
  refine nx ?_
  refine wyy rfl rfl rfl (ay_load_box [_, _] rfl rfl rfl Tryd.isAgg71 Tryd.sizeOf71 rfl (fun _ h => by cases h)) ?_
  refine wcP rfl rfl rfl rfl Tryd.call96 rfl (word_c (_ :: _ :: _ :: A) _ _ _ l k dp 3 [109, 117, 116, 101, 120] hok hk) (by simp) (by simp [Sto.bl]) ?_
  rintro t3 s3 (⟨hz3, -⟩ | ⟨ha3, rfl, rfl⟩)
  ·exact absurd hz3 (by decide)
  ·refine wyy rfl rfl rfl (ay_build Tryd.t93 [(0, 1), (1, 1)] rfl (.cons rfl .nil) Tryd.underlying93 (by kernel_rfl) rfl (by kernel_rfl) rfl rfl) ?_
   refine wo rfl (walloc rfl rfl (by decide) Tryd.zeroValue93 rfl fun b1 => ?_)
   refine wo rfl (wst0 rfl rfl rfl rfl rfl Tryd.sizeOf93 rfl (Nat.le_of_ble_eq_true rfl) (splice_all rfl) (by simp) (fun _ => by simp) ?_)
   refine nx ?_
   refine wyy rfl rfl rfl (ay_load_box [_, _, _] rfl rfl rfl Tryd.isAgg71 Tryd.sizeOf71 rfl (fun _ h => by cases h)) ?_
   refine wcP rfl rfl rfl rfl Tryd.call90 rfl (nameP_c (_ :: _ :: _ :: _ :: A) _ _ _ l k dp 3 hok hk (by decide)) (by simp) (by simp [Sto.bl]) ?_
   rintro t4 s4 ⟨x4, k4, e4, rfl, hr4, hk4, he4, rfl⟩
   refine wyy rfl rfl rfl (ay_fieldAddr 0 0 rfl rfl Tryd.runUnderlying93 rfl Tryd.sizeOf9 (by decide) rfl) ?_
   refine wo rfl (wst0 rfl rfl rfl rfl rfl Tryd.sizeOf9 rfl (Nat.le_of_ble_eq_true rfl) rfl (by simp) (fun _ => by simp) ?_)
   refine nlnm ?_
   refine aw_region ?_
   have hel : Run 0 k (paramP l acc.length k) (AParam.mk x4 false) k4 e4 := hr4.badP (by decide) (by unfold paramP; rw [if_pos ⟨h6, .inl (by rw [tokAt_lt hk]; exact h1)⟩]) k
   refine wyy rfl rfl rfl (ay_fieldAddr 1 1 rfl rfl Tryd.runUnderlying54 rfl Tryd.sizeOf51 (by decide) rfl) ?_
   refine wyy rfl rfl rfl (ay_load_box [_] rfl rfl rfl Tryd.isAgg51 Tryd.sizeOf51 rfl (fun _ h => by cases h)) ?_
   refine wyy rfl rfl rfl (ay_load_box [] rfl rfl rfl Tryd.isAgg93 Tryd.sizeOf93 rfl (fun _ h => by cases h)) ?_
   refine wo rfl (wbs Tryd.t93 [.val (.string ⟨#[]⟩), .val (.bool false)] rfl rfl (by decide) (.cons rfl .nil) Tryd.underlying51 (by kernel_rfl) rfl (by decide) (by decide) (by kernel_rfl) (by kernel_rfl) (fill_one encP encP (AParam.mk x4 false) rfl rfl rfl) ?_)
   refine wo rfl (wapI [] Tryd.t93 24 rfl rfl (by decide) rfl rfl Tryd.underlying51 (by kernel_rfl) rfl rfl rfl rfl (by decide) rfl (by decide) (by unfold maxLen; skip; omega) (by skip; omega) (@List.length_append _ acc [(AParam.mk x4 false)]).symm (fun _ b hb => by simp [hb]) (fun b hb => by simp [hb]) (List.flatMap_append (f := encP)).symm fun v5 => ?_)
   refine wyy rfl rfl rfl (ay_fieldAddr 1 1 rfl rfl Tryd.runUnderlying54 rfl Tryd.sizeOf51 (by decide) rfl) ?_
   refine wo rfl (wst1 rfl rfl rfl rfl rfl Tryd.sizeOf51 rfl (Nat.le_of_ble_eq_true rfl) rfl (by simp) (fun _ => by simp) ?_)
   refine aops_nil ?_
   exact ⟨.inl rfl, _, PSt (⟨c3, 54, [.val (.string nm), .val v5, .val (.slice none 0 0)]⟩ :: ⟨c2, T2, cs2⟩ :: ⟨c1, 71, [.val (.pointer (some ⟨P, 0, none⟩))]⟩ :: A) B (⟨v5, 93, 2, (acc ++ [(AParam.mk x4 false)]).length, (acc ++ [(AParam.mk x4 false)]).flatMap encP⟩ :: rw) P l (k4) dp (e4), res_none rfl, subS_of (.cons _ (.refl _)) (.refl _), ⟨(AParam.mk x4 false), v5, k4, e4, rfl, hel, hk4, he4, rfl⟩⟩
 ·skip
  refine wyy rfl rfl rfl (ay_load_box [_, _] rfl rfl rfl Tryd.isAgg71 Tryd.sizeOf71 rfl (fun _ h => by cases h)) ?_
  refine wyy rfl rfl rfl (ay_fieldAddr 1 1 rfl rfl Tryd.runUnderlying54 rfl Tryd.sizeOf51 (by decide) rfl) ?_
  refine wyy rfl rfl rfl (ay_load_box [] rfl rfl rfl Tryd.isAgg51 Tryd.sizeOf51 rfl (fun _ h => by cases h)) ?_
  refine wyy rfl rfl rfl (ay_len_row2 [] rfl rfl rfl Tryd.runUnderlying51) ?_
  refine wcP rfl rfl rfl rfl Tryd.call67 rfl (limit_no (_ :: _ :: _ :: A) _ _ _ l k dp 0 acc.length 6 (by decide) (by omega)) (by simp) (by simp [Sto.bl]) ?_
  rintro t6 s6 ⟨rfl, rfl⟩
  refine nx ?_
  refine wyy rfl rfl rfl (ay_load_box [_, _] rfl rfl rfl Tryd.isAgg71 Tryd.sizeOf71 rfl (fun _ h => by cases h)) ?_
  refine wcP rfl rfl rfl rfl Tryd.call96 rfl (word_c (_ :: _ :: _ :: A) _ _ _ l k dp 0 [109, 117, 116, 101, 120] hok hk) (by simp) (by simp [Sto.bl]) ?_
  rintro t7 s7 (⟨-, ha7, hm7, rfl, rfl⟩ | ⟨ha7, rfl, rfl⟩)
  ·refine wyy rfl rfl rfl (ay_build Tryd.t93 [(0, 1), (1, 1)] rfl (.cons rfl .nil) Tryd.underlying93 (by kernel_rfl) rfl (by kernel_rfl) rfl rfl) ?_
   refine wo rfl (walloc rfl rfl (by decide) Tryd.zeroValue93 rfl fun b2 => ?_)
   refine wo rfl (wst0 rfl rfl rfl rfl rfl Tryd.sizeOf93 rfl (Nat.le_of_ble_eq_true rfl) (splice_all rfl) (by simp) (fun _ => by simp) ?_)
   refine nx ?_
   refine wyy rfl rfl rfl (ay_load_box [_, _, _] rfl rfl rfl Tryd.isAgg71 Tryd.sizeOf71 rfl (fun _ h => by cases h)) ?_
   refine wcP rfl rfl rfl rfl Tryd.call90 rfl (nameP_c (_ :: _ :: _ :: _ :: A) _ _ _ l (k + 1) dp 0 hok hm7 (by decide)) (by simp) (by simp [Sto.bl]) ?_
   rintro t8 s8 ⟨x8, k8, e8, rfl, hr8, hk8, he8, rfl⟩
   refine wyy rfl rfl rfl (ay_fieldAddr 0 0 rfl rfl Tryd.runUnderlying93 rfl Tryd.sizeOf9 (by decide) rfl) ?_
   refine wo rfl (wst0 rfl rfl rfl rfl rfl Tryd.sizeOf9 rfl (Nat.le_of_ble_eq_true rfl) rfl (by simp) (fun _ => by simp) ?_)
   refine nlnm ?_
   refine aw_region ?_
   have hel : Run 0 k (paramP l acc.length k) (AParam.mk x8 true) k8 e8 := (Run.from (hr8.map (f := fun s => AParam.mk s true))).eq fun _ => by unfold paramP; rw [if_neg (fun hh => absurd hh.1 h6), if_pos ha7]
   refine wyy rfl rfl rfl (ay_fieldAddr 1 1 rfl rfl Tryd.runUnderlying54 rfl Tryd.sizeOf51 (by decide) rfl) ?_
   refine wyy rfl rfl rfl (ay_load_box [_] rfl rfl rfl Tryd.isAgg51 Tryd.sizeOf51 rfl (fun _ h => by cases h)) ?_
   refine wyy rfl rfl rfl (ay_load_box [] rfl rfl rfl Tryd.isAgg93 Tryd.sizeOf93 rfl (fun _ h => by cases h)) ?_
   refine wo rfl (wbs Tryd.t93 [.val (.string ⟨#[]⟩), .val (.bool false)] rfl rfl (by decide) (.cons rfl .nil) Tryd.underlying51 (by kernel_rfl) rfl (by decide) (by decide) (by kernel_rfl) (by kernel_rfl) (fill_one encP encP (AParam.mk x8 true) rfl rfl rfl) ?_)
   refine wo rfl (wapI [] Tryd.t93 24 rfl rfl (by decide) rfl rfl Tryd.underlying51 (by kernel_rfl) rfl rfl rfl rfl (by decide) rfl (by decide) (by unfold maxLen; skip; omega) (by skip; omega) (@List.length_append _ acc [(AParam.mk x8 true)]).symm (fun _ b hb => by simp [hb]) (fun b hb => by simp [hb]) (List.flatMap_append (f := encP)).symm fun v9 => ?_)
   refine wyy rfl rfl rfl (ay_fieldAddr 1 1 rfl rfl Tryd.runUnderlying54 rfl Tryd.sizeOf51 (by decide) rfl) ?_
   refine wo rfl (wst1 rfl rfl rfl rfl rfl Tryd.sizeOf51 rfl (Nat.le_of_ble_eq_true rfl) rfl (by simp) (fun _ => by simp) ?_)
   refine aops_nil ?_
   exact ⟨.inl rfl, _, PSt (⟨c3, 54, [.val (.string nm), .val v9, .val (.slice none 0 0)]⟩ :: ⟨c2, T2, cs2⟩ :: ⟨c1, 71, [.val (.pointer (some ⟨P, 0, none⟩))]⟩ :: A) B (⟨v9, 93, 2, (acc ++ [(AParam.mk x8 true)]).length, (acc ++ [(AParam.mk x8 true)]).flatMap encP⟩ :: rw) P l (k8) dp (e8), res_none rfl, subS_of (.cons _ (.refl _)) (.refl _), ⟨(AParam.mk x8 true), v9, k8, e8, rfl, hel, hk8, he8, rfl⟩⟩
  ·refine wyy rfl rfl rfl (ay_build Tryd.t93 [(0, 1), (1, 1)] rfl (.cons rfl .nil) Tryd.underlying93 (by kernel_rfl) rfl (by kernel_rfl) rfl rfl) ?_
   refine wo rfl (walloc rfl rfl (by decide) Tryd.zeroValue93 rfl fun b3 => ?_)
   refine wo rfl (wst0 rfl rfl rfl rfl rfl Tryd.sizeOf93 rfl (Nat.le_of_ble_eq_true rfl) (splice_all rfl) (by simp) (fun _ => by simp) ?_)
   refine nx ?_
   refine wyy rfl rfl rfl (ay_load_box [_, _, _] rfl rfl rfl Tryd.isAgg71 Tryd.sizeOf71 rfl (fun _ h => by cases h)) ?_
   refine wcP rfl rfl rfl rfl Tryd.call90 rfl (nameP_c (_ :: _ :: _ :: _ :: A) _ _ _ l k dp 0 hok hk he) (by simp) (by simp [Sto.bl]) ?_
   rintro t10 s10 ⟨x10, k10, e10, rfl, hr10, hk10, he10, rfl⟩
   refine wyy rfl rfl rfl (ay_fieldAddr 0 0 rfl rfl Tryd.runUnderlying93 rfl Tryd.sizeOf9 (by decide) rfl) ?_
   refine wo rfl (wst0 rfl rfl rfl rfl rfl Tryd.sizeOf9 rfl (Nat.le_of_ble_eq_true rfl) rfl (by simp) (fun _ => by simp) ?_)
   refine nlnm ?_
   refine aw_region ?_
   have hel : Run 0 k (paramP l acc.length k) (AParam.mk x10 false) k10 e10 := (hr10.map (f := fun s => AParam.mk s false)).eq fun _ => by unfold paramP; rw [if_neg (fun hh => absurd hh.1 h6), if_neg (by rw [ha7 rfl]; decide)]
   refine wyy rfl rfl rfl (ay_fieldAddr 1 1 rfl rfl Tryd.runUnderlying54 rfl Tryd.sizeOf51 (by decide) rfl) ?_
   refine wyy rfl rfl rfl (ay_load_box [_] rfl rfl rfl Tryd.isAgg51 Tryd.sizeOf51 rfl (fun _ h => by cases h)) ?_
   refine wyy rfl rfl rfl (ay_load_box [] rfl rfl rfl Tryd.isAgg93 Tryd.sizeOf93 rfl (fun _ h => by cases h)) ?_
   refine wo rfl (wbs Tryd.t93 [.val (.string ⟨#[]⟩), .val (.bool false)] rfl rfl (by decide) (.cons rfl .nil) Tryd.underlying51 (by kernel_rfl) rfl (by decide) (by decide) (by kernel_rfl) (by kernel_rfl) (fill_one encP encP (AParam.mk x10 false) rfl rfl rfl) ?_)
   refine wo rfl (wapI [] Tryd.t93 24 rfl rfl (by decide) rfl rfl Tryd.underlying51 (by kernel_rfl) rfl rfl rfl rfl (by decide) rfl (by decide) (by unfold maxLen; skip; omega) (by skip; omega) (@List.length_append _ acc [(AParam.mk x10 false)]).symm (fun _ b hb => by simp [hb]) (fun b hb => by simp [hb]) (List.flatMap_append (f := encP)).symm fun v11 => ?_)
   refine wyy rfl rfl rfl (ay_fieldAddr 1 1 rfl rfl Tryd.runUnderlying54 rfl Tryd.sizeOf51 (by decide) rfl) ?_
   refine wo rfl (wst1 rfl rfl rfl rfl rfl Tryd.sizeOf51 rfl (Nat.le_of_ble_eq_true rfl) rfl (by simp) (fun _ => by simp) ?_)
   refine aops_nil ?_
   exact ⟨.inl rfl, _, PSt (⟨c3, 54, [.val (.string nm), .val v11, .val (.slice none 0 0)]⟩ :: ⟨c2, T2, cs2⟩ :: ⟨c1, 71, [.val (.pointer (some ⟨P, 0, none⟩))]⟩ :: A) B (⟨v11, 93, 2, (acc ++ [(AParam.mk x10 false)]).length, (acc ++ [(AParam.mk x10 false)]).flatMap encP⟩ :: rw) P l (k10) dp (e10), res_none rfl, subS_of (.cons _ (.refl _)) (.refl _), ⟨(AParam.mk x10 false), v11, k10, e10, rfl, hel, hk10, he10, rfl⟩⟩
set_option maxRecDepth 100000 in
set_option maxHeartbeats 1600000 in
theorem parF_0 (A B : List Box) (rw : List ORow) (P : Nat) (l : List Tok) (k dp c1 c2 c3 : Nat) (T2 : TypeId) (cs2 : List AC) (nm : ByteArray) (v : Value) (acc : List AParam) (hok : TOk l) (hk : k < l.length) (hal : acc.length ≤ 1000000) (h1 : ¬ l[k].kind = 1) : ACall Tryd.prog 95 [.c (.val (.pointer (some ⟨c1, 0, none⟩))), .c (.val (.pointer (some ⟨c3, 0, none⟩)))] (rowB v ++ ([c3] ++ [P])) (PSt (⟨c3, 54, [.val (.string nm), .val v, .val (.slice none 0 0)]⟩ :: ⟨c2, T2, cs2⟩ :: ⟨c1, 71, [.val (.pointer (some ⟨P, 0, none⟩))]⟩ :: A) B (⟨v, 93, 2, (acc).length, (acc).flatMap encP⟩ :: rw) P l k dp 0) fun t s => ∃ x v' k' e', t = .tup [] ∧ Run 0 k (paramP l acc.length k) x k' e' ∧ k' < l.length ∧ e' < 16 ∧ s = PSt (⟨c3, 54, [.val (.string nm), .val v', .val (.slice none 0 0)]⟩ :: ⟨c2, T2, cs2⟩ :: ⟨c1, 71, [.val (.pointer (some ⟨P, 0, none⟩))]⟩ :: A) B (⟨v', 93, 2, (acc ++ [x]).length, (acc ++ [x]).flatMap encP⟩ :: rw) P l k' dp e' := by
 have hlen := hok.len
 have he : (0 : Nat) < 16 := by decide
 refine acall_body Tryd.func95 rfl (Nat.le_of_ble_eq_true rfl) ?_
 show AWp Tryd.prog _ ⟨36, rowB v ++ ([c3] ++ [P]), ⟨⟨c3, 54, [.val (.string nm), .val v, .val (.slice none 0 0)]⟩ :: ⟨c2, T2, cs2⟩ :: ⟨c1, 71, [.val (.pointer (some ⟨P, 0, none⟩))]⟩ :: (A ++ ⟨P, 73, [.sl l.length (l.flatMap encT), .val (.int .i64 ((k : Nat) : Int)), .val (.int .i64 ((dp : Nat) : Int)), .val (.int .i64 ((0 : Nat) : Int))]⟩ :: B), ⟨v, 93, 2, (acc).length, (acc).flatMap encP⟩ :: rw⟩, [(0, .c (.val (.pointer (some ⟨c1, 0, none⟩)))), (1, .c (.val (.pointer (some ⟨c3, 0, none⟩))))]⟩ _
 refine aw_seq ?_
 refine aw_seq ?_
 refine aw_region_drew [c3, c2, c1, P] (by kernel_rfl) ?_
 refine tq 0 (by kernel_rfl) rfl rfl rfl rfl (ay_load_box [_, _] rfl rfl rfl Tryd.isAgg71 Tryd.sizeOf71 rfl (fun _ h => (mem_off.1 h).2 (by simp))) ?_
 refine tq 1 (by kernel_rfl) rfl rfl rfl rfl (ay_nilCheck rfl rfl) ?_
 refine tq 2 (by kernel_rfl) rfl rfl rfl rfl (ay_fieldAddr 0 0 rfl rfl Tryd.runUnderlying73 rfl Tryd.sizeOf34 (by decide) rfl) ?_
 refine tq 3 (by kernel_rfl) rfl rfl rfl rfl (ay_load_box (_ :: _ :: _ :: A) rfl rfl rfl Tryd.isAgg34 Tryd.sizeOf34 rfl (fun _ h => (mem_off.1 h).2 (by simp))) ?_
 refine tq 4 (by kernel_rfl) rfl rfl rfl rfl (ay_load_box [_, _] rfl rfl rfl Tryd.isAgg71 Tryd.sizeOf71 rfl (fun _ h => (mem_off.1 h).2 (by simp))) ?_
 refine tq 5 (by kernel_rfl) rfl rfl rfl rfl (ay_nilCheck rfl rfl) ?_
 refine tq 6 (by kernel_rfl) rfl rfl rfl rfl (ay_fieldAddr 1 1 rfl rfl Tryd.runUnderlying73 rfl Tryd.sizeOf3 (by decide) rfl) ?_
 refine tq 7 (by kernel_rfl) rfl rfl rfl rfl (ay_load_box (_ :: _ :: _ :: A) rfl rfl rfl Tryd.isAgg3 Tryd.sizeOf3 rfl (fun _ h => (mem_off.1 h).2 (by simp))) ?_
 refine tq 8 (by kernel_rfl) rfl rfl rfl rfl (ay_ix encT encT l encT_len (fun _ => rfl) (k) rfl rfl rfl rfl hk (by decide) Tryd.runUnderlying34 Tryd.sizeOf65) ?_
 refine tq 9 (by kernel_rfl) rfl rfl rfl rfl (ay_fieldAddr_el 0 rfl rfl Tryd.runUnderlying65 rfl Tryd.sizeOf3 (by decide)) ?_
 refine tq 10 (by kernel_rfl) rfl rfl rfl rfl (ay_load_el rfl rfl Tryd.isAgg3 Tryd.sizeOf3 rfl) ?_
 refine tq 11 (by kernel_rfl) rfl rfl rfl rfl (ay_cmp false rfl rfl rfl (by rw [show cmpR .eql ((l[k].kind : Nat) : Int) 1 = some (decide (l[k].kind = 1)) from cmp_nat (n := 1), decide_eq_false h1])) ?_
 refine tq 12 (by kernel_rfl) rfl rfl rfl rfl (ay_move rfl rfl) ?_
 refine tq 13 (by kernel_rfl) rfl rfl rfl rfl (ay_load_box [_, _] rfl rfl rfl Tryd.isAgg71 Tryd.sizeOf71 rfl (fun _ h => (mem_off.1 h).2 (by simp))) ?_
 refine one 14 (by kernel_rfl) rfl rfl (wcall [] rfl rfl (by decide) Tryd.call66 rfl (kindN_w (_ :: _ :: _ :: A) _ _ _ l k dp 0 [109, 117, 116, 101, 120] hk) (fun _ h => by cases h) (fun _ h => by cases h) (fun _ _ h => by cases h) ?_)
 rintro t1 s1 (⟨-, ha1, rfl, rfl⟩ | ⟨ha1, rfl, rfl⟩)
 ·refine tq 15 (by kernel_rfl) rfl rfl rfl rfl (ay_pick rfl rfl rfl) ?_
  refine any_done (by kernel_rfl) ?_
  refine then_normal ?_
  refine aw_condT rfl rfl ?_
  refine aw_region ?_
  by_cases h6 : 6 ≤ acc.length
  ·skip
   refine wyy rfl rfl rfl (ay_load_box [_, _] rfl rfl rfl Tryd.isAgg71 Tryd.sizeOf71 rfl (fun _ h => by cases h)) ?_
   refine wyy rfl rfl rfl (ay_fieldAddr 1 1 rfl rfl Tryd.runUnderlying54 rfl Tryd.sizeOf51 (by decide) rfl) ?_
   refine wyy rfl rfl rfl (ay_load_box [] rfl rfl rfl Tryd.isAgg51 Tryd.sizeOf51 rfl (fun _ h => by cases h)) ?_
   refine wyy rfl rfl rfl (ay_len_row2 [] rfl rfl rfl Tryd.runUnderlying51) ?_
   refine wcP rfl rfl rfl rfl Tryd.call67 rfl (limit_yes (_ :: _ :: _ :: A) _ _ _ l k dp 0 acc.length 6 (by decide) h6) (by simp) (by simp [Sto.bl]) ?_
   rintro t3 s3 ⟨e3, hf3, rfl, rfl⟩
   obtain rfl := hf3.1 rfl
   refine nx ?_
   refine wyy rfl rfl rfl (ay_load_box [_, _] rfl rfl rfl Tryd.isAgg71 Tryd.sizeOf71 rfl (fun _ h => by cases h)) ?_
   refine wcP rfl rfl rfl rfl Tryd.call96 rfl (word_c (_ :: _ :: _ :: A) _ _ _ l k dp 3 [109, 117, 116, 101, 120] hok hk) (by simp) (by simp [Sto.bl]) ?_
   rintro t4 s4 (⟨hz4, -⟩ | ⟨ha4, rfl, rfl⟩)
   ·exact absurd hz4 (by decide)
   ·refine wyy rfl rfl rfl (ay_build Tryd.t93 [(0, 1), (1, 1)] rfl (.cons rfl .nil) Tryd.underlying93 (by kernel_rfl) rfl (by kernel_rfl) rfl rfl) ?_
    refine wo rfl (walloc rfl rfl (by decide) Tryd.zeroValue93 rfl fun b1 => ?_)
    refine wo rfl (wst0 rfl rfl rfl rfl rfl Tryd.sizeOf93 rfl (Nat.le_of_ble_eq_true rfl) (splice_all rfl) (by simp) (fun _ => by simp) ?_)
    refine nx ?_
    refine wyy rfl rfl rfl (ay_load_box [_, _, _] rfl rfl rfl Tryd.isAgg71 Tryd.sizeOf71 rfl (fun _ h => by cases h)) ?_
    refine wcP rfl rfl rfl rfl Tryd.call90 rfl (nameP_c (_ :: _ :: _ :: _ :: A) _ _ _ l k dp 3 hok hk (by decide)) (by simp) (by simp [Sto.bl]) ?_
    rintro t5 s5 ⟨x5, k5, e5, rfl, hr5, hk5, he5, rfl⟩
    refine wyy rfl rfl rfl (ay_fieldAddr 0 0 rfl rfl Tryd.runUnderlying93 rfl Tryd.sizeOf9 (by decide) rfl) ?_
    refine wo rfl (wst0 rfl rfl rfl rfl rfl Tryd.sizeOf9 rfl (Nat.le_of_ble_eq_true rfl) rfl (by simp) (fun _ => by simp) ?_)
    refine nlnm ?_
    refine aw_region ?_
    have hel : Run 0 k (paramP l acc.length k) (AParam.mk x5 false) k5 e5 := hr5.badP (by decide) (by unfold paramP; rw [if_pos ⟨h6, .inr ha1⟩]) k
    refine wyy rfl rfl rfl (ay_fieldAddr 1 1 rfl rfl Tryd.runUnderlying54 rfl Tryd.sizeOf51 (by decide) rfl) ?_
    refine wyy rfl rfl rfl (ay_load_box [_] rfl rfl rfl Tryd.isAgg51 Tryd.sizeOf51 rfl (fun _ h => by cases h)) ?_
    refine wyy rfl rfl rfl (ay_load_box [] rfl rfl rfl Tryd.isAgg93 Tryd.sizeOf93 rfl (fun _ h => by cases h)) ?_
    refine wo rfl (wbs Tryd.t93 [.val (.string ⟨#[]⟩), .val (.bool false)] rfl rfl (by decide) (.cons rfl .nil) Tryd.underlying51 (by kernel_rfl) rfl (by decide) (by decide) (by kernel_rfl) (by kernel_rfl) (fill_one encP encP (AParam.mk x5 false) rfl rfl rfl) ?_)
    refine wo rfl (wapI [] Tryd.t93 24 rfl rfl (by decide) rfl rfl Tryd.underlying51 (by kernel_rfl) rfl rfl rfl rfl (by decide) rfl (by decide) (by unfold maxLen; skip; omega) (by skip; omega) (@List.length_append _ acc [(AParam.mk x5 false)]).symm (fun _ b hb => by simp [hb]) (fun b hb => by simp [hb]) (List.flatMap_append (f := encP)).symm fun v6 => ?_)
    refine wyy rfl rfl rfl (ay_fieldAddr 1 1 rfl rfl Tryd.runUnderlying54 rfl Tryd.sizeOf51 (by decide) rfl) ?_
    refine wo rfl (wst1 rfl rfl rfl rfl rfl Tryd.sizeOf51 rfl (Nat.le_of_ble_eq_true rfl) rfl (by simp) (fun _ => by simp) ?_)
    refine aops_nil ?_
    exact ⟨.inl rfl, _, PSt (⟨c3, 54, [.val (.string nm), .val v6, .val (.slice none 0 0)]⟩ :: ⟨c2, T2, cs2⟩ :: ⟨c1, 71, [.val (.pointer (some ⟨P, 0, none⟩))]⟩ :: A) B (⟨v6, 93, 2, (acc ++ [(AParam.mk x5 false)]).length, (acc ++ [(AParam.mk x5 false)]).flatMap encP⟩ :: rw) P l (k5) dp (e5), res_none rfl, subS_of (.cons _ (.refl _)) (.refl _), ⟨(AParam.mk x5 false), v6, k5, e5, rfl, hel, hk5, he5, rfl⟩⟩
  ·skip
   refine wyy rfl rfl rfl (ay_load_box [_, _] rfl rfl rfl Tryd.isAgg71 Tryd.sizeOf71 rfl (fun _ h => by cases h)) ?_
   refine wyy rfl rfl rfl (ay_fieldAddr 1 1 rfl rfl Tryd.runUnderlying54 rfl Tryd.sizeOf51 (by decide) rfl) ?_
   refine wyy rfl rfl rfl (ay_load_box [] rfl rfl rfl Tryd.isAgg51 Tryd.sizeOf51 rfl (fun _ h => by cases h)) ?_
   refine wyy rfl rfl rfl (ay_len_row2 [] rfl rfl rfl Tryd.runUnderlying51) ?_
   refine wcP rfl rfl rfl rfl Tryd.call67 rfl (limit_no (_ :: _ :: _ :: A) _ _ _ l k dp 0 acc.length 6 (by decide) (by omega)) (by simp) (by simp [Sto.bl]) ?_
   rintro t7 s7 ⟨rfl, rfl⟩
   refine nx ?_
   refine wyy rfl rfl rfl (ay_load_box [_, _] rfl rfl rfl Tryd.isAgg71 Tryd.sizeOf71 rfl (fun _ h => by cases h)) ?_
   refine wcP rfl rfl rfl rfl Tryd.call96 rfl (word_c (_ :: _ :: _ :: A) _ _ _ l k dp 0 [109, 117, 116, 101, 120] hok hk) (by simp) (by simp [Sto.bl]) ?_
   rintro t8 s8 (⟨-, ha8, hm8, rfl, rfl⟩ | ⟨ha8, rfl, rfl⟩)
   ·refine wyy rfl rfl rfl (ay_build Tryd.t93 [(0, 1), (1, 1)] rfl (.cons rfl .nil) Tryd.underlying93 (by kernel_rfl) rfl (by kernel_rfl) rfl rfl) ?_
    refine wo rfl (walloc rfl rfl (by decide) Tryd.zeroValue93 rfl fun b2 => ?_)
    refine wo rfl (wst0 rfl rfl rfl rfl rfl Tryd.sizeOf93 rfl (Nat.le_of_ble_eq_true rfl) (splice_all rfl) (by simp) (fun _ => by simp) ?_)
    refine nx ?_
    refine wyy rfl rfl rfl (ay_load_box [_, _, _] rfl rfl rfl Tryd.isAgg71 Tryd.sizeOf71 rfl (fun _ h => by cases h)) ?_
    refine wcP rfl rfl rfl rfl Tryd.call90 rfl (nameP_c (_ :: _ :: _ :: _ :: A) _ _ _ l (k + 1) dp 0 hok hm8 (by decide)) (by simp) (by simp [Sto.bl]) ?_
    rintro t9 s9 ⟨x9, k9, e9, rfl, hr9, hk9, he9, rfl⟩
    refine wyy rfl rfl rfl (ay_fieldAddr 0 0 rfl rfl Tryd.runUnderlying93 rfl Tryd.sizeOf9 (by decide) rfl) ?_
    refine wo rfl (wst0 rfl rfl rfl rfl rfl Tryd.sizeOf9 rfl (Nat.le_of_ble_eq_true rfl) rfl (by simp) (fun _ => by simp) ?_)
    refine nlnm ?_
    refine aw_region ?_
    have hel : Run 0 k (paramP l acc.length k) (AParam.mk x9 true) k9 e9 := (Run.from (hr9.map (f := fun s => AParam.mk s true))).eq fun _ => by unfold paramP; rw [if_neg (fun hh => absurd hh.1 h6), if_pos ha8]
    refine wyy rfl rfl rfl (ay_fieldAddr 1 1 rfl rfl Tryd.runUnderlying54 rfl Tryd.sizeOf51 (by decide) rfl) ?_
    refine wyy rfl rfl rfl (ay_load_box [_] rfl rfl rfl Tryd.isAgg51 Tryd.sizeOf51 rfl (fun _ h => by cases h)) ?_
    refine wyy rfl rfl rfl (ay_load_box [] rfl rfl rfl Tryd.isAgg93 Tryd.sizeOf93 rfl (fun _ h => by cases h)) ?_
    refine wo rfl (wbs Tryd.t93 [.val (.string ⟨#[]⟩), .val (.bool false)] rfl rfl (by decide) (.cons rfl .nil) Tryd.underlying51 (by kernel_rfl) rfl (by decide) (by decide) (by kernel_rfl) (by kernel_rfl) (fill_one encP encP (AParam.mk x9 true) rfl rfl rfl) ?_)
    refine wo rfl (wapI [] Tryd.t93 24 rfl rfl (by decide) rfl rfl Tryd.underlying51 (by kernel_rfl) rfl rfl rfl rfl (by decide) rfl (by decide) (by unfold maxLen; skip; omega) (by skip; omega) (@List.length_append _ acc [(AParam.mk x9 true)]).symm (fun _ b hb => by simp [hb]) (fun b hb => by simp [hb]) (List.flatMap_append (f := encP)).symm fun v10 => ?_)
    refine wyy rfl rfl rfl (ay_fieldAddr 1 1 rfl rfl Tryd.runUnderlying54 rfl Tryd.sizeOf51 (by decide) rfl) ?_
    refine wo rfl (wst1 rfl rfl rfl rfl rfl Tryd.sizeOf51 rfl (Nat.le_of_ble_eq_true rfl) rfl (by simp) (fun _ => by simp) ?_)
    refine aops_nil ?_
    exact ⟨.inl rfl, _, PSt (⟨c3, 54, [.val (.string nm), .val v10, .val (.slice none 0 0)]⟩ :: ⟨c2, T2, cs2⟩ :: ⟨c1, 71, [.val (.pointer (some ⟨P, 0, none⟩))]⟩ :: A) B (⟨v10, 93, 2, (acc ++ [(AParam.mk x9 true)]).length, (acc ++ [(AParam.mk x9 true)]).flatMap encP⟩ :: rw) P l (k9) dp (e9), res_none rfl, subS_of (.cons _ (.refl _)) (.refl _), ⟨(AParam.mk x9 true), v10, k9, e9, rfl, hel, hk9, he9, rfl⟩⟩
   ·exact absurd (ha8 rfl) (by rw [ha1]; decide)
 ·refine tq 15 (by kernel_rfl) rfl rfl rfl rfl (ay_pick rfl rfl rfl) ?_
  refine any_done (by kernel_rfl) ?_
  refine then_normal ?_
  refine aw_condF rfl rfl ?_
  refine aw_skip ?_
  refine then_normal ?_
  refine sqrg ?_
  refine wyy rfl rfl rfl (ay_load_box [_, _] rfl rfl rfl Tryd.isAgg71 Tryd.sizeOf71 rfl (fun _ h => by cases h)) ?_
  refine wcP rfl rfl rfl rfl Tryd.call96 rfl (word_c (_ :: _ :: _ :: A) _ _ _ l k dp 0 [109, 117, 116, 101, 120] hok hk) (by simp) (by simp [Sto.bl]) ?_
  rintro t12 s12 (⟨-, ha12, hm12, rfl, rfl⟩ | ⟨ha12, rfl, rfl⟩)
  ·exact absurd ha12 (by rw [(ha1 rfl)]; decide)
  ·refine wyy rfl rfl rfl (ay_build Tryd.t93 [(0, 1), (1, 1)] rfl (.cons rfl .nil) Tryd.underlying93 (by kernel_rfl) rfl (by kernel_rfl) rfl rfl) ?_
   refine wo rfl (walloc rfl rfl (by decide) Tryd.zeroValue93 rfl fun b3 => ?_)
   refine wo rfl (wst0 rfl rfl rfl rfl rfl Tryd.sizeOf93 rfl (Nat.le_of_ble_eq_true rfl) (splice_all rfl) (by simp) (fun _ => by simp) ?_)
   refine nx ?_
   refine wyy rfl rfl rfl (ay_load_box [_, _, _] rfl rfl rfl Tryd.isAgg71 Tryd.sizeOf71 rfl (fun _ h => by cases h)) ?_
   refine wcP rfl rfl rfl rfl Tryd.call90 rfl (nameP_c (_ :: _ :: _ :: _ :: A) _ _ _ l k dp 0 hok hk he) (by simp) (by simp [Sto.bl]) ?_
   rintro t13 s13 ⟨x13, k13, e13, rfl, hr13, hk13, he13, rfl⟩
   refine wyy rfl rfl rfl (ay_fieldAddr 0 0 rfl rfl Tryd.runUnderlying93 rfl Tryd.sizeOf9 (by decide) rfl) ?_
   refine wo rfl (wst0 rfl rfl rfl rfl rfl Tryd.sizeOf9 rfl (Nat.le_of_ble_eq_true rfl) rfl (by simp) (fun _ => by simp) ?_)
   refine nlnm ?_
   refine aw_region ?_
   have hel : Run 0 k (paramP l acc.length k) (AParam.mk x13 false) k13 e13 := (hr13.map (f := fun s => AParam.mk s false)).eq fun _ => by unfold paramP; rw [if_neg (fun hh => hh.2.elim (by rw [tokAt_lt hk]; exact h1) (fun h => absurd h (by rw [ha1 rfl]; decide))), if_neg (by rw [ha12 rfl]; decide)]
   refine wyy rfl rfl rfl (ay_fieldAddr 1 1 rfl rfl Tryd.runUnderlying54 rfl Tryd.sizeOf51 (by decide) rfl) ?_
   refine wyy rfl rfl rfl (ay_load_box [_] rfl rfl rfl Tryd.isAgg51 Tryd.sizeOf51 rfl (fun _ h => by cases h)) ?_
   refine wyy rfl rfl rfl (ay_load_box [] rfl rfl rfl Tryd.isAgg93 Tryd.sizeOf93 rfl (fun _ h => by cases h)) ?_
   refine wo rfl (wbs Tryd.t93 [.val (.string ⟨#[]⟩), .val (.bool false)] rfl rfl (by decide) (.cons rfl .nil) Tryd.underlying51 (by kernel_rfl) rfl (by decide) (by decide) (by kernel_rfl) (by kernel_rfl) (fill_one encP encP (AParam.mk x13 false) rfl rfl rfl) ?_)
   refine wo rfl (wapI [] Tryd.t93 24 rfl rfl (by decide) rfl rfl Tryd.underlying51 (by kernel_rfl) rfl rfl rfl rfl (by decide) rfl (by decide) (by unfold maxLen; skip; omega) (by skip; omega) (@List.length_append _ acc [(AParam.mk x13 false)]).symm (fun _ b hb => by simp [hb]) (fun b hb => by simp [hb]) (List.flatMap_append (f := encP)).symm fun v14 => ?_)
   refine wyy rfl rfl rfl (ay_fieldAddr 1 1 rfl rfl Tryd.runUnderlying54 rfl Tryd.sizeOf51 (by decide) rfl) ?_
   refine wo rfl (wst1 rfl rfl rfl rfl rfl Tryd.sizeOf51 rfl (Nat.le_of_ble_eq_true rfl) rfl (by simp) (fun _ => by simp) ?_)
   refine aops_nil ?_
   exact ⟨.inl rfl, _, PSt (⟨c3, 54, [.val (.string nm), .val v14, .val (.slice none 0 0)]⟩ :: ⟨c2, T2, cs2⟩ :: ⟨c1, 71, [.val (.pointer (some ⟨P, 0, none⟩))]⟩ :: A) B (⟨v14, 93, 2, (acc ++ [(AParam.mk x13 false)]).length, (acc ++ [(AParam.mk x13 false)]).flatMap encP⟩ :: rw) P l (k13) dp (e13), res_none rfl, subS_of (.cons _ (.refl _)) (.refl _), ⟨(AParam.mk x13 false), v14, k13, e13, rfl, hel, hk13, he13, rfl⟩⟩
theorem parF_c (A B : List Box) (rw : List ORow) (P : Nat) (l : List Tok) (k dp c1 c2 c3 : Nat) (T2 : TypeId) (cs2 : List AC) (nm : ByteArray) (v : Value) (acc : List AParam) (hok : TOk l) (hk : k < l.length) (hal : acc.length ≤ 1000000) : ACall Tryd.prog 95 [.c (.val (.pointer (some ⟨c1, 0, none⟩))), .c (.val (.pointer (some ⟨c3, 0, none⟩)))] (rowB v ++ ([c3] ++ [P])) (PSt (⟨c3, 54, [.val (.string nm), .val v, .val (.slice none 0 0)]⟩ :: ⟨c2, T2, cs2⟩ :: ⟨c1, 71, [.val (.pointer (some ⟨P, 0, none⟩))]⟩ :: A) B (⟨v, 93, 2, (acc).length, (acc).flatMap encP⟩ :: rw) P l k dp 0) fun t s => ∃ x v' k' e', t = .tup [] ∧ Run 0 k (paramP l acc.length k) x k' e' ∧ k' < l.length ∧ e' < 16 ∧ s = PSt (⟨c3, 54, [.val (.string nm), .val v', .val (.slice none 0 0)]⟩ :: ⟨c2, T2, cs2⟩ :: ⟨c1, 71, [.val (.pointer (some ⟨P, 0, none⟩))]⟩ :: A) B (⟨v', 93, 2, (acc ++ [x]).length, (acc ++ [x]).flatMap encP⟩ :: rw) P l k' dp e' := by
 by_cases h1 : l[k].kind = 1
 ·exact parF_1 A B rw P l k dp c1 c2 c3 T2 cs2 nm v acc hok hk hal h1
 ·exact parF_0 A B rw P l k dp c1 c2 c3 T2 cs2 nm v acc hok hk hal h1
set_option maxRecDepth 100000 in
set_option maxHeartbeats 1600000 in
theorem funcP_c (A B : List Box) (rw : List ORow) (P : Nat) (l : List Tok) (k e : Nat) (hok : TOk l) (hk : k < l.length) (he : e < 16) : ACall Tryd.prog 70 [.c (.val (.pointer (some ⟨P, 0, none⟩)))] [P] (PSt A B rw P l k 0 e) (PAn A B rw P l 0 (fun x => .agg (encF x)) e k (funcP l k)) := by
 have hlen := hok.len
 refine acall_body Tryd.func70 rfl (Nat.le_of_ble_eq_true rfl) ?_
 show AWp Tryd.prog _ ⟨14, [P], ⟨A ++ ⟨P, 73, [.sl l.length (l.flatMap encT), .val (.int .i64 ((k : Nat) : Int)), .val (.int .i64 ((0 : Nat) : Int)), .val (.int .i64 ((e : Nat) : Int))]⟩ :: B, rw⟩, [(0, .c (.val (.pointer (some ⟨P, 0, none⟩))))]⟩ _
 refine sqrg ?_
 refine wo rfl (wbox rfl rfl (by decide) rfl rfl fun b1 => ?_)
 refine wo rfl (walloc rfl rfl (by decide) Tryd.zeroValue54 rfl fun b2 => ?_)
 refine nx ?_
 refine wyy rfl rfl rfl (ay_load_box [_] rfl rfl rfl Tryd.isAgg71 Tryd.sizeOf71 rfl (fun _ h => by cases h)) ?_
 refine wcP rfl rfl rfl rfl Tryd.call90 rfl (nameP_c (_ :: _ :: A) _ _ _ l k 0 e hok hk he) (by simp) (by simp [Sto.bl]) ?_
 rintro t1 s1 ⟨x1, k1, e1, rfl, hr1, hk1, he1, rfl⟩
 refine wyy rfl rfl rfl (ay_build Tryd.t54 [(0, 1), (1, 1), (2, 1)] rfl (.cons rfl .nil) Tryd.underlying54 (by kernel_rfl) rfl (by kernel_rfl) rfl rfl) ?_
 refine wo rfl (walloc rfl rfl (by decide) Tryd.zeroValue54 rfl fun b3 => ?_)
 refine wo rfl (wst0 rfl rfl rfl rfl rfl Tryd.sizeOf54 rfl (Nat.le_of_ble_eq_true rfl) (splice_all rfl) (by simp) (fun _ => by simp) ?_)
 refine nlnm ?_
 refine aw_seq ?_
 refine wrow 93 2 ?_
 refine aw_region ?_
 refine wyy rfl rfl rfl (ay_load_box [_, _] rfl rfl rfl Tryd.isAgg71 Tryd.sizeOf71 rfl (fun _ h => by cases h)) ?_
 refine wyy rfl rfl rfl (ay_makeFunc rfl (vs := [.pointer (some ⟨b1, 0, none⟩), .pointer (some ⟨b3, 0, none⟩)]) rfl) ?_
 refine wo rfl (wcall ([b3] ++ [P]) rfl rfl (by decide) Tryd.call94 rfl (listed_c (fun acc v => ⟨b3, 54, [.val (.string x1), .val v, .val (.slice none 0 0)]⟩ :: ⟨b2, 54, [.val (.string ⟨#[]⟩), .val (.slice none 0 0), .val (.slice none 0 0)]⟩ :: ⟨b1, 71, [.val (.pointer (some ⟨P, 0, none⟩))]⟩ :: A) B (fun acc v => ⟨v, 93, 2, acc.length, acc.flatMap encP⟩ :: rw) P l k1 0 e1 [b3] 95 #[] #[.pointer (some ⟨b1, 0, none⟩), .pointer (some ⟨b3, 0, none⟩)] (paramP l) hok hk1 he1 Tryd.call95 (fun _ k hk => paramP_in hok.last hk) (fun acc v k e b hb => by simp [Sto.bl] at hb ⊢; rcases hb with h | h | h <;> simp [h]) (fun acc v k e b hb => by simp [Sto.bl]; exact .inr (.inr (.inr (.inr (.inr (.inr (.inl hb))))))) (fun acc v k e acc' v' k' e' hn b hb hb2 => row_back (by simp) hn hb hb2) (fun acc v k hk ha => parF_c A B rw P l k 0 b1 b2 b3 _ _ x1 v acc hok hk (by omega))) (by intro b hb; simp at hb; rcases hb with rfl | rfl <;> simp) (by intro b hb; simp at hb; rcases hb with rfl | rfl <;> simp [Sto.bl]) (by intro _ b hb; simp at hb; rcases hb with rfl | rfl <;> simp) ?_)
 rintro t2 s2 ⟨acc, v0, k2, e2, rfl, hr2, hk2, he2, rfl⟩
 show AOps _ _ _ ⟨_, _, ⟨⟨b3, 54, [.val (.string x1), .val v0, .val (.slice none 0 0)]⟩ :: ⟨b2, 54, [.val (.string ⟨#[]⟩), .val (.slice none 0 0), .val (.slice none 0 0)]⟩ :: ⟨b1, 71, [.val (.pointer (some ⟨P, 0, none⟩))]⟩ :: (A ++ ⟨P, 73, [.sl l.length (l.flatMap encT), .val (.int .i64 (((k2) : Nat) : Int)), .val (.int .i64 (((0) : Nat) : Int)), .val (.int .i64 (((e2) : Nat) : Int))]⟩ :: B), ⟨v0, 93, 2, (acc).length, (acc).flatMap encP⟩ :: rw⟩, _⟩ _
 refine nx ?_
 refine wfrzb [] 1 rfl rfl ?_
 refine wyy rfl rfl rfl (ay_load_box [_, _] rfl rfl rfl Tryd.isAgg71 Tryd.sizeOf71 rfl (fun _ h => by cases h)) ?_
 refine wcP rfl rfl rfl rfl Tryd.call97 rfl (blockP_all l hok 24 (Nat.le_refl _) (_ :: _ :: _ :: A) _ _ _ k2 e2 hk2 he2) (by simp) (by simp [Sto.bl]) ?_
 rintro t3 s3 ⟨x3, k3, e3, rfl, hr3, hk3, he3, rfl⟩
 refine wyy rfl rfl rfl (ay_fieldAddr 2 2 rfl rfl Tryd.runUnderlying54 rfl Tryd.sizeOf52 (by decide) rfl) ?_
 refine wo rfl (wst0 rfl rfl rfl rfl rfl Tryd.sizeOf52 rfl (Nat.le_of_ble_eq_true rfl) rfl (by simp) (fun _ => by simp) ?_)
 refine nx ?_
 refine wyy rfl rfl rfl (ay_load_box [] rfl rfl rfl Tryd.isAgg54 Tryd.sizeOf54 rfl (fun _ h => by cases h)) ?_
 refine wo rfl (wst1 rfl rfl rfl rfl rfl Tryd.sizeOf54 rfl (Nat.le_of_ble_eq_true rfl) (splice_all rfl) (by simp) (fun _ => by simp) ?_)
 refine nlnm ?_
 refine aw_ret ?_
 exact ⟨.inr rfl, _, (PSt A B rw P l (k3) (0) (e3)), (res_one rfl (resv_cell [_] rfl rfl Tryd.isAgg54 Tryd.sizeOf54 (pk_all rfl rfl))), subS_of (.cons _ (.cons _ (.cons _ (.refl _)))) (.refl _), ⟨⟨x1, acc, x3⟩, k3, e3, rfl, by unfold funcP; exact hr1.bind (hr2.bind (hr3.map (f := fun b => AFunc.mk x1 acc b))), hk3, he3, rfl⟩⟩
end Go.Proofs.YtflcnehhpmjipaaDoor
