import Derived.Test.YtflcnehhpmjipaaDoorAwSameJ
import Derived.Test.YtflcnehhpmjipaaDoorE0J
set_option linter.unusedVariables false
set_option linter.unusedSimpArgs false
namespace Go.Proofs.YtflcnehhpmjipaaDoor
open Go.RowKit
abbrev RSt (A B : List Box) (rw : List ORow) (P : Nat) (l : List Tok) (k b e ns dp : Nat) : Sto := ⟨A ++ ⟨P, 78, [.sl l.length (l.flatMap encT), .val (.int .i64 (k : Int)), .val (.int .i64 (b : Int)), .val (.int .i64 (e : Int)), .val (.int .i64 (ns : Int)), .val (.int .i64 (dp : Int))]⟩ :: B, rw⟩
def RAn {α : Type} (A B : List Box) (rw : List ORow) (P : Nat) (l : List Tok) (ns dp : Nat) (enc : α → AT) (e b : Nat) (r : PRes α) (t : AT) (s : Sto) : Prop :=
 ∃ x k1 b1 e1, t = enc x ∧ RRun e b r x k1 b1 e1 ∧ k1 < l.length ∧ e1 < 16 ∧ s = RSt A B rw P l k1 b1 e1 ns dp
structure TOk (l : List Tok) : Prop where
 last : EndAt l
 reg : ∀ t, t ∈ l → RegT t
 len : l.length ≤ 1000000
def anyAt (l : List Tok) (k : Nat) (s : ByteArray) : Bool := (decide ((tokAt l k).kind = 4) || decide ((tokAt l k).kind = 3)) && decide ((tokAt l k).text = s)
theorem eq_nat0 {e : Nat} (h : e ≠ 0) : cmpR .eql (e : Int) 0 = some false := by simp [cmpR, h]
theorem cmp_nat {m n : Nat} : cmpR .eql (m : Int) (n : Int) = some (decide (m = n)) := by
 by_cases h : m = n
 ·subst h; simp [cmpR]
 ·have h2 : ¬ (m : Int) = (n : Int) := by omega
  simp [cmpR, h, h2]
set_option maxRecDepth 100000 in
set_option maxHeartbeats 1600000 in
theorem fail_0 (A B : List Box) (rw : List ORow) (P : Nat) (l : List Tok) (k b ns dp x : Nat) : ACall Tryd.prog 37 [.c (.val (.pointer (some ⟨P, 0, none⟩))), .c (.val (.int .i64 (x : Int)))] [P] (RSt A B rw P l k b 0 ns dp) fun t s => t = .tup [] ∧ s = RSt A B rw P l k k x ns dp := by
 refine acall_body Tryd.func37 rfl (Nat.le_of_ble_eq_true rfl) ?_
 show AWp Tryd.prog _ ⟨20, [P], ⟨A ++ ⟨P, 78, [.sl l.length (l.flatMap encT), .val (.int .i64 ((k : Nat) : Int)), .val (.int .i64 ((b : Nat) : Int)), .val (.int .i64 ((0 : Nat) : Int)), .val (.int .i64 ((ns : Nat) : Int)), .val (.int .i64 ((dp : Nat) : Int))]⟩ :: B, rw⟩, [(0, .c (.val (.pointer (some ⟨P, 0, none⟩)))), (1, .c (.val (.int .i64 (x : Int))))]⟩ _
 refine sqrg ?_
 refine wmv rfl rfl rfl rfl rfl ?_
 refine wyy rfl rfl rfl (ay_nilCheck rfl rfl) ?_
 refine wyy rfl rfl rfl (ay_fieldAddr 3 3 rfl rfl Tryd.runUnderlying78 rfl Tryd.sizeOf36 (by decide) rfl) ?_
 refine wyy rfl rfl rfl (ay_load_box (A) rfl rfl rfl Tryd.isAgg36 Tryd.sizeOf36 rfl (fun _ h => by cases h)) ?_
 refine wyy rfl rfl rfl (ay_cmp true rfl rfl rfl (by rfl)) ?_
 refine nlnm ?_
 refine aw_condT rfl rfl ?_
 refine aw_region ?_
 refine wmv rfl rfl rfl rfl rfl ?_
 refine wmv rfl rfl rfl rfl rfl ?_
 refine wmv rfl rfl rfl rfl rfl ?_
 refine wmv rfl rfl rfl rfl rfl ?_
 refine wyy rfl rfl rfl (ay_nilCheck rfl rfl) ?_
 refine wyy rfl rfl rfl (ay_fieldAddr 1 1 rfl rfl Tryd.runUnderlying78 rfl Tryd.sizeOf3 (by decide) rfl) ?_
 refine wyy rfl rfl rfl (ay_load_box (A) rfl rfl rfl Tryd.isAgg3 Tryd.sizeOf3 rfl (fun _ h => by cases h)) ?_
 refine wyy rfl rfl rfl (ay_nilCheck rfl rfl) ?_
 refine wyy rfl rfl rfl (ay_fieldAddr 3 3 rfl rfl Tryd.runUnderlying78 rfl Tryd.sizeOf36 (by decide) rfl) ?_
 refine wo rfl (wstA0 rfl rfl rfl rfl rfl Tryd.sizeOf36 rfl (Nat.le_of_ble_eq_true rfl) rfl (by simp) (fun _ => by simp) ?_)
 refine wyy rfl rfl rfl (ay_nilCheck rfl rfl) ?_
 refine wyy rfl rfl rfl (ay_fieldAddr 2 2 rfl rfl Tryd.runUnderlying78 rfl Tryd.sizeOf3 (by decide) rfl) ?_
 refine wo rfl (wstA0 rfl rfl rfl rfl rfl Tryd.sizeOf3 rfl (Nat.le_of_ble_eq_true rfl) rfl (by simp) (fun _ => by simp) ?_)
 refine aops_nil ?_
 exact ⟨.inl rfl, _, (RSt A B rw P l (k) (k) (x) (ns) (dp)), res_none rfl, subS_of (.refl _) (.refl _), rfl, rfl⟩
set_option maxRecDepth 100000 in
set_option maxHeartbeats 1600000 in
theorem fail_1 (A B : List Box) (rw : List ORow) (P : Nat) (l : List Tok) (k b ns dp x e : Nat) (he0 : e ≠ 0) : ACall Tryd.prog 37 [.c (.val (.pointer (some ⟨P, 0, none⟩))), .c (.val (.int .i64 (x : Int)))] [P] (RSt A B rw P l k b e ns dp) fun t s => t = .tup [] ∧ s = RSt A B rw P l k b e ns dp := by
 refine acall_body Tryd.func37 rfl (Nat.le_of_ble_eq_true rfl) ?_
 show AWp Tryd.prog _ ⟨20, [P], ⟨A ++ ⟨P, 78, [.sl l.length (l.flatMap encT), .val (.int .i64 ((k : Nat) : Int)), .val (.int .i64 ((b : Nat) : Int)), .val (.int .i64 ((e : Nat) : Int)), .val (.int .i64 ((ns : Nat) : Int)), .val (.int .i64 ((dp : Nat) : Int))]⟩ :: B, rw⟩, [(0, .c (.val (.pointer (some ⟨P, 0, none⟩)))), (1, .c (.val (.int .i64 (x : Int))))]⟩ _
 refine sqrg ?_
 refine wmv rfl rfl rfl rfl rfl ?_
 refine wyy rfl rfl rfl (ay_nilCheck rfl rfl) ?_
 refine wyy rfl rfl rfl (ay_fieldAddr 3 3 rfl rfl Tryd.runUnderlying78 rfl Tryd.sizeOf36 (by decide) rfl) ?_
 refine wyy rfl rfl rfl (ay_load_box (A) rfl rfl rfl Tryd.isAgg36 Tryd.sizeOf36 rfl (fun _ h => by cases h)) ?_
 refine wyy rfl rfl rfl (ay_cmp false rfl rfl rfl (eq_nat0 he0)) ?_
 refine nlnm ?_
 refine aw_condF rfl rfl ?_
 refine aw_skip ?_
 exact ⟨.inl rfl, _, (RSt A B rw P l (k) (b) (e) (ns) (dp)), res_none rfl, subS_of (.refl _) (.refl _), rfl, rfl⟩
set_option maxRecDepth 100000 in
set_option maxHeartbeats 1600000 in
theorem is_s (A B : List Box) (rw : List ORow) (P : Nat) (l : List Tok) (k b ns dp e : Nat) (sg : ByteArray) (hk : k < l.length) (he0 : e ≠ 0) : ACall Tryd.prog 36 [.c (.val (.pointer (some ⟨P, 0, none⟩))), .c (.val (.string sg))] [P] (RSt A B rw P l k b e ns dp) fun t s => t = .c (.val (.bool false)) ∧ s = RSt A B rw P l k b e ns dp := by
 refine acall_body Tryd.func36 rfl (Nat.le_of_ble_eq_true rfl) ?_
 show AWp Tryd.prog _ ⟨37, [P], ⟨A ++ ⟨P, 78, [.sl l.length (l.flatMap encT), .val (.int .i64 ((k : Nat) : Int)), .val (.int .i64 ((b : Nat) : Int)), .val (.int .i64 ((e : Nat) : Int)), .val (.int .i64 ((ns : Nat) : Int)), .val (.int .i64 ((dp : Nat) : Int))]⟩ :: B, rw⟩, [(0, .c (.val (.pointer (some ⟨P, 0, none⟩)))), (1, .c (.val (.string sg)))]⟩ _
 refine sqrg ?_
 refine wag rfl rfl rfl rfl rfl ?_
 refine nlnm ?_
 refine aw_seq ?_
 refine aw_region_drew [P] (by kernel_rfl) ?_
 refine tq 0 (by kernel_rfl) rfl rfl rfl rfl (ay_move rfl rfl) ?_
 refine tq 1 (by kernel_rfl) rfl rfl rfl rfl (ay_nilCheck rfl rfl) ?_
 refine tq 2 (by kernel_rfl) rfl rfl rfl rfl (ay_fieldAddr 0 0 rfl rfl Tryd.runUnderlying78 rfl Tryd.sizeOf34 (by decide) rfl) ?_
 refine tq 3 (by kernel_rfl) rfl rfl rfl rfl (ay_load_box (A) rfl rfl rfl Tryd.isAgg34 Tryd.sizeOf34 rfl (fun _ h => (mem_off.1 h).2 (by simp))) ?_
 refine tq 4 (by kernel_rfl) rfl rfl rfl rfl (ay_move rfl rfl) ?_
 refine tq 5 (by kernel_rfl) rfl rfl rfl rfl (ay_nilCheck rfl rfl) ?_
 refine tq 6 (by kernel_rfl) rfl rfl rfl rfl (ay_fieldAddr 1 1 rfl rfl Tryd.runUnderlying78 rfl Tryd.sizeOf3 (by decide) rfl) ?_
 refine tq 7 (by kernel_rfl) rfl rfl rfl rfl (ay_load_box (A) rfl rfl rfl Tryd.isAgg3 Tryd.sizeOf3 rfl (fun _ h => (mem_off.1 h).2 (by simp))) ?_
 refine tq 8 (by kernel_rfl) rfl rfl rfl rfl (ay_ix encT encT l encT_len (fun _ => rfl) (k) rfl rfl rfl rfl hk (by decide) Tryd.runUnderlying34 Tryd.sizeOf65) ?_
 refine tq 9 (by kernel_rfl) rfl rfl rfl rfl (ay_load_el rfl rfl Tryd.isAgg65 Tryd.sizeOf65 (pk_head rfl rfl)) ?_
 refine one 10 (by kernel_rfl) rfl rfl (walloc rfl rfl (by decide) Tryd.zeroValue65 rfl fun b1 => ?_)
 refine one 11 (by kernel_rfl) rfl rfl (wst0 rfl rfl rfl rfl rfl Tryd.sizeOf65 rfl (Nat.le_of_ble_eq_true rfl) (splice_all rfl) (by simp) (fun h => mem_off.2 ⟨by simp [Sto.bl], by simp [Sto.bl] at h; simp [h]⟩) ?_)
 refine any_done (by kernel_rfl) ?_
 refine then_normal ?_
 refine sqrg ?_
 refine wmv rfl rfl rfl rfl rfl ?_
 refine wyy rfl rfl rfl (ay_nilCheck rfl rfl) ?_
 refine wyy rfl rfl rfl (ay_fieldAddr 3 3 rfl rfl Tryd.runUnderlying78 rfl Tryd.sizeOf36 (by decide) rfl) ?_
 refine wyy rfl rfl rfl (ay_load_box (_ :: A) rfl rfl rfl Tryd.isAgg36 Tryd.sizeOf36 rfl (fun _ h => by cases h)) ?_
 refine wyy rfl rfl rfl (ay_cmp false rfl rfl rfl (eq_nat0 he0)) ?_
 refine wmv rfl rfl rfl rfl rfl ?_
 refine wskip rfl rfl (by decide) ?_
 refine wskip rfl rfl (by decide) ?_
 refine wskip rfl rfl (by decide) ?_
 refine wskip rfl rfl (by decide) ?_
 refine wskip rfl rfl (by decide) ?_
 refine wskip rfl rfl (by decide) ?_
 refine wskip rfl rfl (by decide) ?_
 refine wskip rfl rfl (by decide) ?_
 refine wyy rfl rfl rfl (ay_pick rfl rfl rfl) ?_
 refine wmv rfl rfl rfl rfl rfl ?_
 refine wskip rfl rfl (by decide) ?_
 refine wskip rfl rfl (by decide) ?_
 refine wskip rfl rfl (by decide) ?_
 refine wskip rfl rfl (by decide) ?_
 refine wyy rfl rfl rfl (ay_pick rfl rfl rfl) ?_
 refine wag rfl rfl rfl rfl rfl ?_
 refine nlnm ?_
 refine aw_ret ?_
 exact ⟨.inr rfl, _, (RSt A B rw P l (k) (b) (e) (ns) (dp)), res_one rfl (resv_tmp rfl), subS_of (.cons _ (.refl _)) (.refl _), rfl, rfl⟩
set_option maxRecDepth 100000 in
set_option maxHeartbeats 1600000 in
theorem is_4y (A B : List Box) (rw : List ORow) (P : Nat) (l : List Tok) (k b ns dp : Nat) (sg : ByteArray) (hk : k < l.length) (h4 : l[k].kind = 4) (ht : l[k].text = sg) : ACall Tryd.prog 36 [.c (.val (.pointer (some ⟨P, 0, none⟩))), .c (.val (.string sg))] [P] (RSt A B rw P l k b 0 ns dp) fun t s => t = .c (.val (.bool true)) ∧ s = RSt A B rw P l k b 0 ns dp := by
 refine acall_body Tryd.func36 rfl (Nat.le_of_ble_eq_true rfl) ?_
 show AWp Tryd.prog _ ⟨37, [P], ⟨A ++ ⟨P, 78, [.sl l.length (l.flatMap encT), .val (.int .i64 ((k : Nat) : Int)), .val (.int .i64 ((b : Nat) : Int)), .val (.int .i64 ((0 : Nat) : Int)), .val (.int .i64 ((ns : Nat) : Int)), .val (.int .i64 ((dp : Nat) : Int))]⟩ :: B, rw⟩, [(0, .c (.val (.pointer (some ⟨P, 0, none⟩)))), (1, .c (.val (.string sg)))]⟩ _
 refine sqrg ?_
 refine wag rfl rfl rfl rfl rfl ?_
 refine nlnm ?_
 refine aw_seq ?_
 refine aw_region_drew [P] (by kernel_rfl) ?_
 refine tq 0 (by kernel_rfl) rfl rfl rfl rfl (ay_move rfl rfl) ?_
 refine tq 1 (by kernel_rfl) rfl rfl rfl rfl (ay_nilCheck rfl rfl) ?_
 refine tq 2 (by kernel_rfl) rfl rfl rfl rfl (ay_fieldAddr 0 0 rfl rfl Tryd.runUnderlying78 rfl Tryd.sizeOf34 (by decide) rfl) ?_
 refine tq 3 (by kernel_rfl) rfl rfl rfl rfl (ay_load_box (A) rfl rfl rfl Tryd.isAgg34 Tryd.sizeOf34 rfl (fun _ h => (mem_off.1 h).2 (by simp))) ?_
 refine tq 4 (by kernel_rfl) rfl rfl rfl rfl (ay_move rfl rfl) ?_
 refine tq 5 (by kernel_rfl) rfl rfl rfl rfl (ay_nilCheck rfl rfl) ?_
 refine tq 6 (by kernel_rfl) rfl rfl rfl rfl (ay_fieldAddr 1 1 rfl rfl Tryd.runUnderlying78 rfl Tryd.sizeOf3 (by decide) rfl) ?_
 refine tq 7 (by kernel_rfl) rfl rfl rfl rfl (ay_load_box (A) rfl rfl rfl Tryd.isAgg3 Tryd.sizeOf3 rfl (fun _ h => (mem_off.1 h).2 (by simp))) ?_
 refine tq 8 (by kernel_rfl) rfl rfl rfl rfl (ay_ix encT encT l encT_len (fun _ => rfl) (k) rfl rfl rfl rfl hk (by decide) Tryd.runUnderlying34 Tryd.sizeOf65) ?_
 refine tq 9 (by kernel_rfl) rfl rfl rfl rfl (ay_load_el rfl rfl Tryd.isAgg65 Tryd.sizeOf65 (pk_head rfl rfl)) ?_
 refine one 10 (by kernel_rfl) rfl rfl (walloc rfl rfl (by decide) Tryd.zeroValue65 rfl fun b1 => ?_)
 refine one 11 (by kernel_rfl) rfl rfl (wst0 rfl rfl rfl rfl rfl Tryd.sizeOf65 rfl (Nat.le_of_ble_eq_true rfl) (splice_all rfl) (by simp) (fun h => mem_off.2 ⟨by simp [Sto.bl], by simp [Sto.bl] at h; simp [h]⟩) ?_)
 refine any_done (by kernel_rfl) ?_
 refine then_normal ?_
 refine sqrg ?_
 refine wmv rfl rfl rfl rfl rfl ?_
 refine wyy rfl rfl rfl (ay_nilCheck rfl rfl) ?_
 refine wyy rfl rfl rfl (ay_fieldAddr 3 3 rfl rfl Tryd.runUnderlying78 rfl Tryd.sizeOf36 (by decide) rfl) ?_
 refine wyy rfl rfl rfl (ay_load_box (_ :: A) rfl rfl rfl Tryd.isAgg36 Tryd.sizeOf36 rfl (fun _ h => by cases h)) ?_
 refine wyy rfl rfl rfl (ay_cmp true rfl rfl rfl (by rfl)) ?_
 refine wmv rfl rfl rfl rfl rfl ?_
 refine wyy rfl rfl rfl (ay_fieldAddr 0 0 rfl rfl Tryd.runUnderlying65 rfl Tryd.sizeOf3 (by decide) rfl) ?_
 refine wyy rfl rfl rfl (ay_load_box [] rfl rfl rfl Tryd.isAgg3 Tryd.sizeOf3 rfl (fun _ h => by cases h)) ?_
 refine wyy rfl rfl rfl (ay_cmp true rfl rfl rfl (by rw [h4]; rfl)) ?_
 refine wmv rfl rfl rfl rfl rfl ?_
 refine wskip rfl rfl (by decide) ?_
 refine wskip rfl rfl (by decide) ?_
 refine wskip rfl rfl (by decide) ?_
 refine wyy rfl rfl rfl (ay_pick rfl rfl rfl) ?_
 refine wyy rfl rfl rfl (ay_pick rfl rfl rfl) ?_
 refine wmv rfl rfl rfl rfl rfl ?_
 refine wyy rfl rfl rfl (ay_fieldAddr 1 1 rfl rfl Tryd.runUnderlying65 rfl Tryd.sizeOf9 (by decide) rfl) ?_
 refine wyy rfl rfl rfl (ay_load_box [] rfl rfl rfl Tryd.isAgg9 Tryd.sizeOf9 rfl (fun _ h => by cases h)) ?_
 refine wmv rfl rfl rfl rfl rfl ?_
 refine wyy rfl rfl rfl (ay_streq true rfl rfl rfl (by rw [ht]; simp [strR])) ?_
 refine wyy rfl rfl rfl (ay_pick rfl rfl rfl) ?_
 refine wag rfl rfl rfl rfl rfl ?_
 refine nlnm ?_
 refine aw_ret ?_
 exact ⟨.inr rfl, _, (RSt A B rw P l (k) (b) (0) (ns) (dp)), res_one rfl (resv_tmp rfl), subS_of (.cons _ (.refl _)) (.refl _), rfl, rfl⟩
set_option maxRecDepth 100000 in
set_option maxHeartbeats 1600000 in
theorem is_4n (A B : List Box) (rw : List ORow) (P : Nat) (l : List Tok) (k b ns dp : Nat) (sg : ByteArray) (hk : k < l.length) (h4 : l[k].kind = 4) (ht : ¬ l[k].text = sg) : ACall Tryd.prog 36 [.c (.val (.pointer (some ⟨P, 0, none⟩))), .c (.val (.string sg))] [P] (RSt A B rw P l k b 0 ns dp) fun t s => t = .c (.val (.bool false)) ∧ s = RSt A B rw P l k b 0 ns dp := by
 refine acall_body Tryd.func36 rfl (Nat.le_of_ble_eq_true rfl) ?_
 show AWp Tryd.prog _ ⟨37, [P], ⟨A ++ ⟨P, 78, [.sl l.length (l.flatMap encT), .val (.int .i64 ((k : Nat) : Int)), .val (.int .i64 ((b : Nat) : Int)), .val (.int .i64 ((0 : Nat) : Int)), .val (.int .i64 ((ns : Nat) : Int)), .val (.int .i64 ((dp : Nat) : Int))]⟩ :: B, rw⟩, [(0, .c (.val (.pointer (some ⟨P, 0, none⟩)))), (1, .c (.val (.string sg)))]⟩ _
 refine sqrg ?_
 refine wag rfl rfl rfl rfl rfl ?_
 refine nlnm ?_
 refine aw_seq ?_
 refine aw_region_drew [P] (by kernel_rfl) ?_
 refine tq 0 (by kernel_rfl) rfl rfl rfl rfl (ay_move rfl rfl) ?_
 refine tq 1 (by kernel_rfl) rfl rfl rfl rfl (ay_nilCheck rfl rfl) ?_
 refine tq 2 (by kernel_rfl) rfl rfl rfl rfl (ay_fieldAddr 0 0 rfl rfl Tryd.runUnderlying78 rfl Tryd.sizeOf34 (by decide) rfl) ?_
 refine tq 3 (by kernel_rfl) rfl rfl rfl rfl (ay_load_box (A) rfl rfl rfl Tryd.isAgg34 Tryd.sizeOf34 rfl (fun _ h => (mem_off.1 h).2 (by simp))) ?_
 refine tq 4 (by kernel_rfl) rfl rfl rfl rfl (ay_move rfl rfl) ?_
 refine tq 5 (by kernel_rfl) rfl rfl rfl rfl (ay_nilCheck rfl rfl) ?_
 refine tq 6 (by kernel_rfl) rfl rfl rfl rfl (ay_fieldAddr 1 1 rfl rfl Tryd.runUnderlying78 rfl Tryd.sizeOf3 (by decide) rfl) ?_
 refine tq 7 (by kernel_rfl) rfl rfl rfl rfl (ay_load_box (A) rfl rfl rfl Tryd.isAgg3 Tryd.sizeOf3 rfl (fun _ h => (mem_off.1 h).2 (by simp))) ?_
 refine tq 8 (by kernel_rfl) rfl rfl rfl rfl (ay_ix encT encT l encT_len (fun _ => rfl) (k) rfl rfl rfl rfl hk (by decide) Tryd.runUnderlying34 Tryd.sizeOf65) ?_
 refine tq 9 (by kernel_rfl) rfl rfl rfl rfl (ay_load_el rfl rfl Tryd.isAgg65 Tryd.sizeOf65 (pk_head rfl rfl)) ?_
 refine one 10 (by kernel_rfl) rfl rfl (walloc rfl rfl (by decide) Tryd.zeroValue65 rfl fun b1 => ?_)
 refine one 11 (by kernel_rfl) rfl rfl (wst0 rfl rfl rfl rfl rfl Tryd.sizeOf65 rfl (Nat.le_of_ble_eq_true rfl) (splice_all rfl) (by simp) (fun h => mem_off.2 ⟨by simp [Sto.bl], by simp [Sto.bl] at h; simp [h]⟩) ?_)
 refine any_done (by kernel_rfl) ?_
 refine then_normal ?_
 refine sqrg ?_
 refine wmv rfl rfl rfl rfl rfl ?_
 refine wyy rfl rfl rfl (ay_nilCheck rfl rfl) ?_
 refine wyy rfl rfl rfl (ay_fieldAddr 3 3 rfl rfl Tryd.runUnderlying78 rfl Tryd.sizeOf36 (by decide) rfl) ?_
 refine wyy rfl rfl rfl (ay_load_box (_ :: A) rfl rfl rfl Tryd.isAgg36 Tryd.sizeOf36 rfl (fun _ h => by cases h)) ?_
 refine wyy rfl rfl rfl (ay_cmp true rfl rfl rfl (by rfl)) ?_
 refine wmv rfl rfl rfl rfl rfl ?_
 refine wyy rfl rfl rfl (ay_fieldAddr 0 0 rfl rfl Tryd.runUnderlying65 rfl Tryd.sizeOf3 (by decide) rfl) ?_
 refine wyy rfl rfl rfl (ay_load_box [] rfl rfl rfl Tryd.isAgg3 Tryd.sizeOf3 rfl (fun _ h => by cases h)) ?_
 refine wyy rfl rfl rfl (ay_cmp true rfl rfl rfl (by rw [h4]; rfl)) ?_
 refine wmv rfl rfl rfl rfl rfl ?_
 refine wskip rfl rfl (by decide) ?_
 refine wskip rfl rfl (by decide) ?_
 refine wskip rfl rfl (by decide) ?_
 refine wyy rfl rfl rfl (ay_pick rfl rfl rfl) ?_
 refine wyy rfl rfl rfl (ay_pick rfl rfl rfl) ?_
 refine wmv rfl rfl rfl rfl rfl ?_
 refine wyy rfl rfl rfl (ay_fieldAddr 1 1 rfl rfl Tryd.runUnderlying65 rfl Tryd.sizeOf9 (by decide) rfl) ?_
 refine wyy rfl rfl rfl (ay_load_box [] rfl rfl rfl Tryd.isAgg9 Tryd.sizeOf9 rfl (fun _ h => by cases h)) ?_
 refine wmv rfl rfl rfl rfl rfl ?_
 refine wyy rfl rfl rfl (ay_streq false rfl rfl rfl (by simp [strR, ht])) ?_
 refine wyy rfl rfl rfl (ay_pick rfl rfl rfl) ?_
 refine wag rfl rfl rfl rfl rfl ?_
 refine nlnm ?_
 refine aw_ret ?_
 exact ⟨.inr rfl, _, (RSt A B rw P l (k) (b) (0) (ns) (dp)), res_one rfl (resv_tmp rfl), subS_of (.cons _ (.refl _)) (.refl _), rfl, rfl⟩
set_option maxRecDepth 100000 in
set_option maxHeartbeats 1600000 in
theorem is_3y (A B : List Box) (rw : List ORow) (P : Nat) (l : List Tok) (k b ns dp : Nat) (sg : ByteArray) (hk : k < l.length) (h4 : ¬ l[k].kind = 4) (h3 : l[k].kind = 3) (ht : l[k].text = sg) : ACall Tryd.prog 36 [.c (.val (.pointer (some ⟨P, 0, none⟩))), .c (.val (.string sg))] [P] (RSt A B rw P l k b 0 ns dp) fun t s => t = .c (.val (.bool true)) ∧ s = RSt A B rw P l k b 0 ns dp := by
 refine acall_body Tryd.func36 rfl (Nat.le_of_ble_eq_true rfl) ?_
 show AWp Tryd.prog _ ⟨37, [P], ⟨A ++ ⟨P, 78, [.sl l.length (l.flatMap encT), .val (.int .i64 ((k : Nat) : Int)), .val (.int .i64 ((b : Nat) : Int)), .val (.int .i64 ((0 : Nat) : Int)), .val (.int .i64 ((ns : Nat) : Int)), .val (.int .i64 ((dp : Nat) : Int))]⟩ :: B, rw⟩, [(0, .c (.val (.pointer (some ⟨P, 0, none⟩)))), (1, .c (.val (.string sg)))]⟩ _
 refine sqrg ?_
 refine wag rfl rfl rfl rfl rfl ?_
 refine nlnm ?_
 refine aw_seq ?_
 refine aw_region_drew [P] (by kernel_rfl) ?_
 refine tq 0 (by kernel_rfl) rfl rfl rfl rfl (ay_move rfl rfl) ?_
 refine tq 1 (by kernel_rfl) rfl rfl rfl rfl (ay_nilCheck rfl rfl) ?_
 refine tq 2 (by kernel_rfl) rfl rfl rfl rfl (ay_fieldAddr 0 0 rfl rfl Tryd.runUnderlying78 rfl Tryd.sizeOf34 (by decide) rfl) ?_
 refine tq 3 (by kernel_rfl) rfl rfl rfl rfl (ay_load_box (A) rfl rfl rfl Tryd.isAgg34 Tryd.sizeOf34 rfl (fun _ h => (mem_off.1 h).2 (by simp))) ?_
 refine tq 4 (by kernel_rfl) rfl rfl rfl rfl (ay_move rfl rfl) ?_
 refine tq 5 (by kernel_rfl) rfl rfl rfl rfl (ay_nilCheck rfl rfl) ?_
 refine tq 6 (by kernel_rfl) rfl rfl rfl rfl (ay_fieldAddr 1 1 rfl rfl Tryd.runUnderlying78 rfl Tryd.sizeOf3 (by decide) rfl) ?_
 refine tq 7 (by kernel_rfl) rfl rfl rfl rfl (ay_load_box (A) rfl rfl rfl Tryd.isAgg3 Tryd.sizeOf3 rfl (fun _ h => (mem_off.1 h).2 (by simp))) ?_
 refine tq 8 (by kernel_rfl) rfl rfl rfl rfl (ay_ix encT encT l encT_len (fun _ => rfl) (k) rfl rfl rfl rfl hk (by decide) Tryd.runUnderlying34 Tryd.sizeOf65) ?_
 refine tq 9 (by kernel_rfl) rfl rfl rfl rfl (ay_load_el rfl rfl Tryd.isAgg65 Tryd.sizeOf65 (pk_head rfl rfl)) ?_
 refine one 10 (by kernel_rfl) rfl rfl (walloc rfl rfl (by decide) Tryd.zeroValue65 rfl fun b1 => ?_)
 refine one 11 (by kernel_rfl) rfl rfl (wst0 rfl rfl rfl rfl rfl Tryd.sizeOf65 rfl (Nat.le_of_ble_eq_true rfl) (splice_all rfl) (by simp) (fun h => mem_off.2 ⟨by simp [Sto.bl], by simp [Sto.bl] at h; simp [h]⟩) ?_)
 refine any_done (by kernel_rfl) ?_
 refine then_normal ?_
 refine sqrg ?_
 refine wmv rfl rfl rfl rfl rfl ?_
 refine wyy rfl rfl rfl (ay_nilCheck rfl rfl) ?_
 refine wyy rfl rfl rfl (ay_fieldAddr 3 3 rfl rfl Tryd.runUnderlying78 rfl Tryd.sizeOf36 (by decide) rfl) ?_
 refine wyy rfl rfl rfl (ay_load_box (_ :: A) rfl rfl rfl Tryd.isAgg36 Tryd.sizeOf36 rfl (fun _ h => by cases h)) ?_
 refine wyy rfl rfl rfl (ay_cmp true rfl rfl rfl (by rfl)) ?_
 refine wmv rfl rfl rfl rfl rfl ?_
 refine wyy rfl rfl rfl (ay_fieldAddr 0 0 rfl rfl Tryd.runUnderlying65 rfl Tryd.sizeOf3 (by decide) rfl) ?_
 refine wyy rfl rfl rfl (ay_load_box [] rfl rfl rfl Tryd.isAgg3 Tryd.sizeOf3 rfl (fun _ h => by cases h)) ?_
 refine wyy rfl rfl rfl (ay_cmp false rfl rfl rfl (by rw [show cmpR .eql ((l[k].kind : Nat) : Int) 4 = some (decide (l[k].kind = 4)) from cmp_nat (n := 4), decide_eq_false h4])) ?_
 refine wmv rfl rfl rfl rfl rfl ?_
 refine wyy rfl rfl rfl (ay_fieldAddr 0 0 rfl rfl Tryd.runUnderlying65 rfl Tryd.sizeOf3 (by decide) rfl) ?_
 refine wyy rfl rfl rfl (ay_load_box [] rfl rfl rfl Tryd.isAgg3 Tryd.sizeOf3 rfl (fun _ h => by cases h)) ?_
 refine wyy rfl rfl rfl (ay_cmp true rfl rfl rfl (by rw [h3]; rfl)) ?_
 refine wyy rfl rfl rfl (ay_pick rfl rfl rfl) ?_
 refine wyy rfl rfl rfl (ay_pick rfl rfl rfl) ?_
 refine wmv rfl rfl rfl rfl rfl ?_
 refine wyy rfl rfl rfl (ay_fieldAddr 1 1 rfl rfl Tryd.runUnderlying65 rfl Tryd.sizeOf9 (by decide) rfl) ?_
 refine wyy rfl rfl rfl (ay_load_box [] rfl rfl rfl Tryd.isAgg9 Tryd.sizeOf9 rfl (fun _ h => by cases h)) ?_
 refine wmv rfl rfl rfl rfl rfl ?_
 refine wyy rfl rfl rfl (ay_streq true rfl rfl rfl (by rw [ht]; simp [strR])) ?_
 refine wyy rfl rfl rfl (ay_pick rfl rfl rfl) ?_
 refine wag rfl rfl rfl rfl rfl ?_
 refine nlnm ?_
 refine aw_ret ?_
 exact ⟨.inr rfl, _, (RSt A B rw P l (k) (b) (0) (ns) (dp)), res_one rfl (resv_tmp rfl), subS_of (.cons _ (.refl _)) (.refl _), rfl, rfl⟩
set_option maxRecDepth 100000 in
set_option maxHeartbeats 1600000 in
theorem is_3n (A B : List Box) (rw : List ORow) (P : Nat) (l : List Tok) (k b ns dp : Nat) (sg : ByteArray) (hk : k < l.length) (h4 : ¬ l[k].kind = 4) (h3 : l[k].kind = 3) (ht : ¬ l[k].text = sg) : ACall Tryd.prog 36 [.c (.val (.pointer (some ⟨P, 0, none⟩))), .c (.val (.string sg))] [P] (RSt A B rw P l k b 0 ns dp) fun t s => t = .c (.val (.bool false)) ∧ s = RSt A B rw P l k b 0 ns dp := by
 refine acall_body Tryd.func36 rfl (Nat.le_of_ble_eq_true rfl) ?_
 show AWp Tryd.prog _ ⟨37, [P], ⟨A ++ ⟨P, 78, [.sl l.length (l.flatMap encT), .val (.int .i64 ((k : Nat) : Int)), .val (.int .i64 ((b : Nat) : Int)), .val (.int .i64 ((0 : Nat) : Int)), .val (.int .i64 ((ns : Nat) : Int)), .val (.int .i64 ((dp : Nat) : Int))]⟩ :: B, rw⟩, [(0, .c (.val (.pointer (some ⟨P, 0, none⟩)))), (1, .c (.val (.string sg)))]⟩ _
 refine sqrg ?_
 refine wag rfl rfl rfl rfl rfl ?_
 refine nlnm ?_
 refine aw_seq ?_
 refine aw_region_drew [P] (by kernel_rfl) ?_
 refine tq 0 (by kernel_rfl) rfl rfl rfl rfl (ay_move rfl rfl) ?_
 refine tq 1 (by kernel_rfl) rfl rfl rfl rfl (ay_nilCheck rfl rfl) ?_
 refine tq 2 (by kernel_rfl) rfl rfl rfl rfl (ay_fieldAddr 0 0 rfl rfl Tryd.runUnderlying78 rfl Tryd.sizeOf34 (by decide) rfl) ?_
 refine tq 3 (by kernel_rfl) rfl rfl rfl rfl (ay_load_box (A) rfl rfl rfl Tryd.isAgg34 Tryd.sizeOf34 rfl (fun _ h => (mem_off.1 h).2 (by simp))) ?_
 refine tq 4 (by kernel_rfl) rfl rfl rfl rfl (ay_move rfl rfl) ?_
 refine tq 5 (by kernel_rfl) rfl rfl rfl rfl (ay_nilCheck rfl rfl) ?_
 refine tq 6 (by kernel_rfl) rfl rfl rfl rfl (ay_fieldAddr 1 1 rfl rfl Tryd.runUnderlying78 rfl Tryd.sizeOf3 (by decide) rfl) ?_
 refine tq 7 (by kernel_rfl) rfl rfl rfl rfl (ay_load_box (A) rfl rfl rfl Tryd.isAgg3 Tryd.sizeOf3 rfl (fun _ h => (mem_off.1 h).2 (by simp))) ?_
 refine tq 8 (by kernel_rfl) rfl rfl rfl rfl (ay_ix encT encT l encT_len (fun _ => rfl) (k) rfl rfl rfl rfl hk (by decide) Tryd.runUnderlying34 Tryd.sizeOf65) ?_
 refine tq 9 (by kernel_rfl) rfl rfl rfl rfl (ay_load_el rfl rfl Tryd.isAgg65 Tryd.sizeOf65 (pk_head rfl rfl)) ?_
 refine one 10 (by kernel_rfl) rfl rfl (walloc rfl rfl (by decide) Tryd.zeroValue65 rfl fun b1 => ?_)
 refine one 11 (by kernel_rfl) rfl rfl (wst0 rfl rfl rfl rfl rfl Tryd.sizeOf65 rfl (Nat.le_of_ble_eq_true rfl) (splice_all rfl) (by simp) (fun h => mem_off.2 ⟨by simp [Sto.bl], by simp [Sto.bl] at h; simp [h]⟩) ?_)
 refine any_done (by kernel_rfl) ?_
 refine then_normal ?_
 refine sqrg ?_
 refine wmv rfl rfl rfl rfl rfl ?_
 refine wyy rfl rfl rfl (ay_nilCheck rfl rfl) ?_
 refine wyy rfl rfl rfl (ay_fieldAddr 3 3 rfl rfl Tryd.runUnderlying78 rfl Tryd.sizeOf36 (by decide) rfl) ?_
 refine wyy rfl rfl rfl (ay_load_box (_ :: A) rfl rfl rfl Tryd.isAgg36 Tryd.sizeOf36 rfl (fun _ h => by cases h)) ?_
 refine wyy rfl rfl rfl (ay_cmp true rfl rfl rfl (by rfl)) ?_
 refine wmv rfl rfl rfl rfl rfl ?_
 refine wyy rfl rfl rfl (ay_fieldAddr 0 0 rfl rfl Tryd.runUnderlying65 rfl Tryd.sizeOf3 (by decide) rfl) ?_
 refine wyy rfl rfl rfl (ay_load_box [] rfl rfl rfl Tryd.isAgg3 Tryd.sizeOf3 rfl (fun _ h => by cases h)) ?_
 refine wyy rfl rfl rfl (ay_cmp false rfl rfl rfl (by rw [show cmpR .eql ((l[k].kind : Nat) : Int) 4 = some (decide (l[k].kind = 4)) from cmp_nat (n := 4), decide_eq_false h4])) ?_
 refine wmv rfl rfl rfl rfl rfl ?_
 refine wyy rfl rfl rfl (ay_fieldAddr 0 0 rfl rfl Tryd.runUnderlying65 rfl Tryd.sizeOf3 (by decide) rfl) ?_
 refine wyy rfl rfl rfl (ay_load_box [] rfl rfl rfl Tryd.isAgg3 Tryd.sizeOf3 rfl (fun _ h => by cases h)) ?_
 refine wyy rfl rfl rfl (ay_cmp true rfl rfl rfl (by rw [h3]; rfl)) ?_
 refine wyy rfl rfl rfl (ay_pick rfl rfl rfl) ?_
 refine wyy rfl rfl rfl (ay_pick rfl rfl rfl) ?_
 refine wmv rfl rfl rfl rfl rfl ?_
 refine wyy rfl rfl rfl (ay_fieldAddr 1 1 rfl rfl Tryd.runUnderlying65 rfl Tryd.sizeOf9 (by decide) rfl) ?_
 refine wyy rfl rfl rfl (ay_load_box [] rfl rfl rfl Tryd.isAgg9 Tryd.sizeOf9 rfl (fun _ h => by cases h)) ?_
 refine wmv rfl rfl rfl rfl rfl ?_
 refine wyy rfl rfl rfl (ay_streq false rfl rfl rfl (by simp [strR, ht])) ?_
 refine wyy rfl rfl rfl (ay_pick rfl rfl rfl) ?_
 refine wag rfl rfl rfl rfl rfl ?_
 refine nlnm ?_
 refine aw_ret ?_
 exact ⟨.inr rfl, _, (RSt A B rw P l (k) (b) (0) (ns) (dp)), res_one rfl (resv_tmp rfl), subS_of (.cons _ (.refl _)) (.refl _), rfl, rfl⟩
set_option maxRecDepth 100000 in
set_option maxHeartbeats 1600000 in
theorem is_0 (A B : List Box) (rw : List ORow) (P : Nat) (l : List Tok) (k b ns dp : Nat) (sg : ByteArray) (hk : k < l.length) (h4 : ¬ l[k].kind = 4) (h3 : ¬ l[k].kind = 3) : ACall Tryd.prog 36 [.c (.val (.pointer (some ⟨P, 0, none⟩))), .c (.val (.string sg))] [P] (RSt A B rw P l k b 0 ns dp) fun t s => t = .c (.val (.bool false)) ∧ s = RSt A B rw P l k b 0 ns dp := by
 refine acall_body Tryd.func36 rfl (Nat.le_of_ble_eq_true rfl) ?_
 show AWp Tryd.prog _ ⟨37, [P], ⟨A ++ ⟨P, 78, [.sl l.length (l.flatMap encT), .val (.int .i64 ((k : Nat) : Int)), .val (.int .i64 ((b : Nat) : Int)), .val (.int .i64 ((0 : Nat) : Int)), .val (.int .i64 ((ns : Nat) : Int)), .val (.int .i64 ((dp : Nat) : Int))]⟩ :: B, rw⟩, [(0, .c (.val (.pointer (some ⟨P, 0, none⟩)))), (1, .c (.val (.string sg)))]⟩ _
 refine sqrg ?_
 refine wag rfl rfl rfl rfl rfl ?_
 refine nlnm ?_
 refine aw_seq ?_
 refine aw_region_drew [P] (by kernel_rfl) ?_
 refine tq 0 (by kernel_rfl) rfl rfl rfl rfl (ay_move rfl rfl) ?_
 refine tq 1 (by kernel_rfl) rfl rfl rfl rfl (ay_nilCheck rfl rfl) ?_
 refine tq 2 (by kernel_rfl) rfl rfl rfl rfl (ay_fieldAddr 0 0 rfl rfl Tryd.runUnderlying78 rfl Tryd.sizeOf34 (by decide) rfl) ?_
 refine tq 3 (by kernel_rfl) rfl rfl rfl rfl (ay_load_box (A) rfl rfl rfl Tryd.isAgg34 Tryd.sizeOf34 rfl (fun _ h => (mem_off.1 h).2 (by simp))) ?_
 refine tq 4 (by kernel_rfl) rfl rfl rfl rfl (ay_move rfl rfl) ?_
 refine tq 5 (by kernel_rfl) rfl rfl rfl rfl (ay_nilCheck rfl rfl) ?_
 refine tq 6 (by kernel_rfl) rfl rfl rfl rfl (ay_fieldAddr 1 1 rfl rfl Tryd.runUnderlying78 rfl Tryd.sizeOf3 (by decide) rfl) ?_
 refine tq 7 (by kernel_rfl) rfl rfl rfl rfl (ay_load_box (A) rfl rfl rfl Tryd.isAgg3 Tryd.sizeOf3 rfl (fun _ h => (mem_off.1 h).2 (by simp))) ?_
 refine tq 8 (by kernel_rfl) rfl rfl rfl rfl (ay_ix encT encT l encT_len (fun _ => rfl) (k) rfl rfl rfl rfl hk (by decide) Tryd.runUnderlying34 Tryd.sizeOf65) ?_
 refine tq 9 (by kernel_rfl) rfl rfl rfl rfl (ay_load_el rfl rfl Tryd.isAgg65 Tryd.sizeOf65 (pk_head rfl rfl)) ?_
 refine one 10 (by kernel_rfl) rfl rfl (walloc rfl rfl (by decide) Tryd.zeroValue65 rfl fun b1 => ?_)
 refine one 11 (by kernel_rfl) rfl rfl (wst0 rfl rfl rfl rfl rfl Tryd.sizeOf65 rfl (Nat.le_of_ble_eq_true rfl) (splice_all rfl) (by simp) (fun h => mem_off.2 ⟨by simp [Sto.bl], by simp [Sto.bl] at h; simp [h]⟩) ?_)
 refine any_done (by kernel_rfl) ?_
 refine then_normal ?_
 refine sqrg ?_
 refine wmv rfl rfl rfl rfl rfl ?_
 refine wyy rfl rfl rfl (ay_nilCheck rfl rfl) ?_
 refine wyy rfl rfl rfl (ay_fieldAddr 3 3 rfl rfl Tryd.runUnderlying78 rfl Tryd.sizeOf36 (by decide) rfl) ?_
 refine wyy rfl rfl rfl (ay_load_box (_ :: A) rfl rfl rfl Tryd.isAgg36 Tryd.sizeOf36 rfl (fun _ h => by cases h)) ?_
 refine wyy rfl rfl rfl (ay_cmp true rfl rfl rfl (by rfl)) ?_
 refine wmv rfl rfl rfl rfl rfl ?_
 refine wyy rfl rfl rfl (ay_fieldAddr 0 0 rfl rfl Tryd.runUnderlying65 rfl Tryd.sizeOf3 (by decide) rfl) ?_
 refine wyy rfl rfl rfl (ay_load_box [] rfl rfl rfl Tryd.isAgg3 Tryd.sizeOf3 rfl (fun _ h => by cases h)) ?_
 refine wyy rfl rfl rfl (ay_cmp false rfl rfl rfl (by rw [show cmpR .eql ((l[k].kind : Nat) : Int) 4 = some (decide (l[k].kind = 4)) from cmp_nat (n := 4), decide_eq_false h4])) ?_
 refine wmv rfl rfl rfl rfl rfl ?_
 refine wyy rfl rfl rfl (ay_fieldAddr 0 0 rfl rfl Tryd.runUnderlying65 rfl Tryd.sizeOf3 (by decide) rfl) ?_
 refine wyy rfl rfl rfl (ay_load_box [] rfl rfl rfl Tryd.isAgg3 Tryd.sizeOf3 rfl (fun _ h => by cases h)) ?_
 refine wyy rfl rfl rfl (ay_cmp false rfl rfl rfl (by rw [show cmpR .eql ((l[k].kind : Nat) : Int) 3 = some (decide (l[k].kind = 3)) from cmp_nat (n := 3), decide_eq_false h3])) ?_
 refine wyy rfl rfl rfl (ay_pick rfl rfl rfl) ?_
 refine wyy rfl rfl rfl (ay_pick rfl rfl rfl) ?_
 refine wmv rfl rfl rfl rfl rfl ?_
 refine wskip rfl rfl (by decide) ?_
 refine wskip rfl rfl (by decide) ?_
 refine wskip rfl rfl (by decide) ?_
 refine wskip rfl rfl (by decide) ?_
 refine wyy rfl rfl rfl (ay_pick rfl rfl rfl) ?_
 refine wag rfl rfl rfl rfl rfl ?_
 refine nlnm ?_
 refine aw_ret ?_
 exact ⟨.inr rfl, _, (RSt A B rw P l (k) (b) (0) (ns) (dp)), res_one rfl (resv_tmp rfl), subS_of (.cons _ (.refl _)) (.refl _), rfl, rfl⟩
theorem is_c (A B : List Box) (rw : List ORow) (P : Nat) (l : List Tok) (k b e ns dp : Nat) (sg : ByteArray) (hk : k < l.length) : ACall Tryd.prog 36 [.c (.val (.pointer (some ⟨P, 0, none⟩))), .c (.val (.string sg))] [P] (RSt A B rw P l k b e ns dp) fun t s => t = .c (.val (.bool (decide (e = 0) && anyAt l k sg))) ∧ s = RSt A B rw P l k b e ns dp := by
 unfold anyAt
 rw [tokAt_lt hk]
 by_cases he : e = 0
 ·subst he
  by_cases h4 : l[k].kind = 4
  ·by_cases ht : l[k].text = sg
   ·simpa [h4, ht] using is_4y A B rw P l k b ns dp sg hk h4 ht
   ·simpa [h4, ht] using is_4n A B rw P l k b ns dp sg hk h4 ht
  ·by_cases h3 : l[k].kind = 3
   ·by_cases ht : l[k].text = sg
    ·simpa [h3, ht] using is_3y A B rw P l k b ns dp sg hk h4 h3 ht
    ·simpa [h3, ht] using is_3n A B rw P l k b ns dp sg hk h4 h3 ht
   ·simpa [h4, h3] using is_0 A B rw P l k b ns dp sg hk h4 h3
 ·simpa [he] using is_s A B rw P l k b ns dp e sg hk he
theorem any_sign {l : List Tok} (h : TOk l) {k : Nat} (hk : k < l.length) {s : List UInt8} (hr : reserved (bytes s) = false) : anyAt l k (bytes s) = signAt l k s := by
 unfold anyAt signAt
 rw [tokAt_lt hk]
 have h1 := h.reg _ (List.getElem_mem hk)
 by_cases ht : l[k].text = bytes s
 ·by_cases h3 : l[k].kind = 3
  ·have := h1.1 h3; rw [ht, hr] at this; cases this
  ·simp [ht, h3]
 ·simp [ht]
theorem any_word {l : List Tok} (h : TOk l) {k : Nat} (hk : k < l.length) {s : List UInt8} (hr : reserved (bytes s) = true) : anyAt l k (bytes s) = wordAt l k s := by
 unfold anyAt wordAt
 rw [tokAt_lt hk]
 have h1 := h.reg _ (List.getElem_mem hk)
 by_cases ht : l[k].text = bytes s
 ·by_cases h4 : l[k].kind = 4
  ·have := h1.2.1 h4; rw [ht, hr] at this; cases this
  ·simp [ht, h4]
 ·simp [ht]
theorem any_more {l : List Tok} (h : TOk l) {k : Nat} (hk : k < l.length) {s : ByteArray} (ha : anyAt l k s = true) : k + 1 < l.length := by
 refine h.last.more hk fun h5 => ?_
 unfold anyAt at ha
 rw [h5] at ha; simp at ha
set_option maxRecDepth 100000 in
set_option maxHeartbeats 1600000 in
theorem take_c (A B : List Box) (rw : List ORow) (P : Nat) (l : List Tok) (k b e ns dp : Nat) (sg : ByteArray) (hok : TOk l) (hk : k < l.length) : ACall Tryd.prog 38 [.c (.val (.pointer (some ⟨P, 0, none⟩))), .c (.val (.string sg))] [P] (RSt A B rw P l k b e ns dp) fun t s => (e = 0 ∧ anyAt l k sg = true ∧ k + 1 < l.length ∧ t = .c (.val (.bool true)) ∧ s = RSt A B rw P l (k + 1) b 0 ns dp) ∨ (¬ (e = 0 ∧ anyAt l k sg = true) ∧ t = .c (.val (.bool false)) ∧ s = RSt A B rw P l k b e ns dp) := by
 have hlen := hok.len
 refine acall_body Tryd.func38 rfl (Nat.le_of_ble_eq_true rfl) ?_
 show AWp Tryd.prog _ ⟨16, [P], ⟨A ++ ⟨P, 78, [.sl l.length (l.flatMap encT), .val (.int .i64 ((k : Nat) : Int)), .val (.int .i64 ((b : Nat) : Int)), .val (.int .i64 ((e : Nat) : Int)), .val (.int .i64 ((ns : Nat) : Int)), .val (.int .i64 ((dp : Nat) : Int))]⟩ :: B, rw⟩, [(0, .c (.val (.pointer (some ⟨P, 0, none⟩)))), (1, .c (.val (.string sg)))]⟩ _
 refine sqrg ?_
 refine wag rfl rfl rfl rfl rfl ?_
 refine nlnm ?_
 refine aw_seq ?_
 refine sqrg ?_
 refine wmv rfl rfl rfl rfl rfl ?_
 refine wmv rfl rfl rfl rfl rfl ?_
 refine wcP rfl rfl rfl rfl Tryd.call36 rfl (is_c (A) _ _ _ l k b e ns dp _ hk) (by simp) (by simp [Sto.bl]) ?_
 rintro t1 s1 ⟨rfl, rfl⟩
 refine wyy rfl rfl rfl (ay_not rfl rfl) ?_
 refine nlnm ?_
 refine aw_cond rfl (fun hc2 => ?_) (fun hc2 => ?_)
 ·refine sqrg ?_
  refine wag rfl rfl rfl rfl rfl ?_
  refine nlnm ?_
  refine aw_ret ?_
  refine then_ret ?_
  exact ⟨.inr rfl, _, (RSt A B rw P l (k) (b) (e) (ns) (dp)), res_one rfl (resv_tmp rfl), subS_of (.refl _) (.refl _), .inr ⟨fun h => by simp [h.1, h.2] at hc2, rfl, rfl⟩⟩
 ·obtain ⟨rfl, ha⟩ : e = 0 ∧ anyAt l k sg = true := by simpa using hc2
  have hm := any_more hok hk ha
  refine aw_skip ?_
  refine then_normal ?_
  refine sqrg ?_
  refine wmv rfl rfl rfl rfl rfl ?_
  refine wyy rfl rfl rfl (ay_nilCheck rfl rfl) ?_
  refine wyy rfl rfl rfl (ay_fieldAddr 1 1 rfl rfl Tryd.runUnderlying78 rfl Tryd.sizeOf3 (by decide) rfl) ?_
  refine wyy rfl rfl rfl (ay_load_box (A) rfl rfl rfl Tryd.isAgg3 Tryd.sizeOf3 rfl (fun _ h => by cases h)) ?_
  refine wyy rfl rfl rfl (ay_add rfl rfl rfl (by omega) (by omega)) ?_
  refine wyy rfl rfl rfl (ay_nilCheck rfl rfl) ?_
  refine wyy rfl rfl rfl (ay_fieldAddr 1 1 rfl rfl Tryd.runUnderlying78 rfl Tryd.sizeOf3 (by decide) rfl) ?_
  refine wo rfl (wstA0 rfl rfl rfl rfl rfl Tryd.sizeOf3 rfl (Nat.le_of_ble_eq_true rfl) rfl (by simp) (fun _ => by simp) ?_)
  refine nx ?_
  refine wag rfl rfl rfl rfl rfl ?_
  refine nlnm ?_
  refine aw_ret ?_
  exact ⟨.inr rfl, _, (RSt A B rw P l (k + 1) (b) (0) (ns) (dp)), res_one rfl (resv_tmp rfl), subS_of (.refl _) (.refl _), .inl ⟨rfl, ha, hm, rfl, rfl⟩⟩
theorem take_s (A B : List Box) (rw : List ORow) (P : Nat) (l : List Tok) (k b e ns dp : Nat) (sg : List UInt8) (hr : reserved (bytes sg) = false) (hok : TOk l) (hk : k < l.length) : ACall Tryd.prog 38 [.c (.val (.pointer (some ⟨P, 0, none⟩))), .c (.val (.string (bytes sg)))] [P] (RSt A B rw P l k b e ns dp) fun t s => (e = 0 ∧ signAt l k sg = true ∧ k + 1 < l.length ∧ t = .c (.val (.bool true)) ∧ s = RSt A B rw P l (k + 1) b 0 ns dp) ∨ ((e = 0 → signAt l k sg = false) ∧ t = .c (.val (.bool false)) ∧ s = RSt A B rw P l k b e ns dp) := by
 refine (take_c A B rw P l k b e ns dp (bytes sg) hok hk).mono fun t s h => ?_
 rw [any_sign hok hk hr] at h
 refine h.imp id fun ⟨h1, h2⟩ => ⟨fun h0 => ?_, h2⟩
 cases hs : signAt l k sg with
 | false => rfl
 | true => exact absurd ⟨h0, hs⟩ h1
theorem take_w (A B : List Box) (rw : List ORow) (P : Nat) (l : List Tok) (k b e ns dp : Nat) (sg : List UInt8) (hr : reserved (bytes sg) = true) (hok : TOk l) (hk : k < l.length) : ACall Tryd.prog 38 [.c (.val (.pointer (some ⟨P, 0, none⟩))), .c (.val (.string (bytes sg)))] [P] (RSt A B rw P l k b e ns dp) fun t s => (e = 0 ∧ wordAt l k sg = true ∧ k + 1 < l.length ∧ t = .c (.val (.bool true)) ∧ s = RSt A B rw P l (k + 1) b 0 ns dp) ∨ ((e = 0 → wordAt l k sg = false) ∧ t = .c (.val (.bool false)) ∧ s = RSt A B rw P l k b e ns dp) := by
 refine (take_c A B rw P l k b e ns dp (bytes sg) hok hk).mono fun t s h => ?_
 rw [any_word hok hk hr] at h
 refine h.imp id fun ⟨h1, h2⟩ => ⟨fun h0 => ?_, h2⟩
 cases hs : wordAt l k sg with
 | false => rfl
 | true => exact absurd ⟨h0, hs⟩ h1
def FailOk (e b k x b1 e1 : Nat) : Prop := (e = 0 → k = b1 ∧ x = e1) ∧ (e ≠ 0 → b = b1 ∧ e = e1)
theorem fail_c (A B : List Box) (rw : List ORow) (P : Nat) (l : List Tok) (k b e ns dp : Nat) (x : Nat) : ACall Tryd.prog 37 [.c (.val (.pointer (some ⟨P, 0, none⟩))), .c (.val (.int .i64 (x : Int)))] [P] (RSt A B rw P l k b e ns dp) fun t s => ∃ b1 e1, FailOk e b k x b1 e1 ∧ t = .tup [] ∧ s = RSt A B rw P l k b1 e1 ns dp := by
 by_cases he : e = 0
 ·subst he
  exact (fail_0 A B rw P l k b ns dp x).mono fun t s h => ⟨k, x, ⟨fun _ => ⟨rfl, rfl⟩, fun h => absurd rfl h⟩, h⟩
 ·exact (fail_1 A B rw P l k b ns dp x e he).mono fun t s h => ⟨b, e, ⟨fun h => absurd h he, fun _ => ⟨rfl, rfl⟩⟩, h⟩
theorem FailOk.run {α : Type} {e b k x b1 e1 : Nat} {r : PRes α} (h : FailOk e b k x b1 e1) (hx : x ≠ 0) (hr : e = 0 → r = .err k x) (y : α) (k1 : Nat) : RRun e b r y k1 b1 e1 := by
 by_cases he : e = 0
 ·obtain ⟨rfl, rfl⟩ := h.1 he
  subst he
  exact .err _ _ _ _ _ (hr rfl) hx
 ·obtain ⟨rfl, rfl⟩ := h.2 he
  exact .skip he _ _ _
theorem FailOk.small {e b k x b1 e1 : Nat} (h : FailOk e b k x b1 e1) (he : e < 16) (hx : x < 16) : e1 < 16 := by
 by_cases h0 : e = 0
 ·rw [← (h.1 h0).2]; exact hx
 ·rw [← (h.2 h0).2]; exact he
set_option maxRecDepth 100000 in
set_option maxHeartbeats 1600000 in
theorem must_c (A B : List Box) (rw : List ORow) (P : Nat) (l : List Tok) (k b e ns dp : Nat) (sg : List UInt8) (hr : reserved (bytes sg) = false) (hok : TOk l) (hk : k < l.length) (he : e < 16) : ACall Tryd.prog 72 [.c (.val (.pointer (some ⟨P, 0, none⟩))), .c (.val (.string (bytes sg)))] [P] (RSt A B rw P l k b e ns dp) fun t s => RAn A B rw P l ns dp (fun _ => .tup []) e b (wantP l sg k) t s := by
 refine acall_body Tryd.func72 rfl (Nat.le_of_ble_eq_true rfl) ?_
 show AWp Tryd.prog _ ⟨10, [P], ⟨A ++ ⟨P, 78, [.sl l.length (l.flatMap encT), .val (.int .i64 ((k : Nat) : Int)), .val (.int .i64 ((b : Nat) : Int)), .val (.int .i64 ((e : Nat) : Int)), .val (.int .i64 ((ns : Nat) : Int)), .val (.int .i64 ((dp : Nat) : Int))]⟩ :: B, rw⟩, [(0, .c (.val (.pointer (some ⟨P, 0, none⟩)))), (1, .c (.val (.string (bytes sg))))]⟩ _
 refine sqrg ?_
 refine wmv rfl rfl rfl rfl rfl ?_
 refine wmv rfl rfl rfl rfl rfl ?_
 refine wcP rfl rfl rfl rfl Tryd.call38 rfl (take_s (A) _ _ _ l k b e ns dp sg hr hok hk) (by simp) (by simp [Sto.bl]) ?_
 rintro t1 s1 (⟨rfl, ha1, hm1, rfl, rfl⟩ | ⟨ha1, rfl, rfl⟩)
 ·refine wyy rfl rfl rfl (ay_not rfl rfl) ?_
  refine nlnm ?_
  refine aw_condF rfl rfl ?_
  refine aw_skip ?_
  exact ⟨.inl rfl, _, (RSt A B rw P l (k + 1) (b) (0) (ns) (dp)), res_none rfl, subS_of (.refl _) (.refl _), ⟨(), k + 1, b, 0, rfl, .ok _ _ _ (by unfold wantP; rw [if_pos ha1]), hm1, by decide, rfl⟩⟩
 ·refine wyy rfl rfl rfl (ay_not rfl rfl) ?_
  refine nlnm ?_
  refine aw_condT rfl rfl ?_
  refine aw_region ?_
  refine wmv rfl rfl rfl rfl rfl ?_
  refine wcP rfl rfl rfl rfl Tryd.call37 rfl (fail_c (A) _ _ _ l k b e ns dp 4) (by simp) (by simp [Sto.bl]) ?_
  rintro t4 s4 ⟨b4x, e4x, hf4, rfl, rfl⟩
  refine aops_nil ?_
  exact ⟨.inl rfl, _, (RSt A B rw P l (k) (b4x) (e4x) (ns) (dp)), res_none rfl, subS_of (.refl _) (.refl _), ⟨(), k, b4x, e4x, rfl, hf4.run (by decide) (fun h => by unfold wantP; rw [if_neg (by rw [ha1 h]; decide)]) _ _, hk, (hf4.small he (by decide)), rfl⟩⟩
set_option maxRecDepth 100000 in
set_option maxHeartbeats 1600000 in
theorem kind_s (A B : List Box) (rw : List ORow) (P : Nat) (l : List Tok) (k b ns dp kk e : Nat) (hk : k < l.length) (he0 : e ≠ 0) : ACall Tryd.prog 35 [.c (.val (.pointer (some ⟨P, 0, none⟩))), .c (.val (.int .i64 (kk : Int)))] [P] (RSt A B rw P l k b e ns dp) fun t s => t = .c (.val (.bool false)) ∧ s = RSt A B rw P l k b e ns dp := by
 refine acall_body Tryd.func35 rfl (Nat.le_of_ble_eq_true rfl) ?_
 show AWp Tryd.prog _ ⟨25, [P], ⟨A ++ ⟨P, 78, [.sl l.length (l.flatMap encT), .val (.int .i64 ((k : Nat) : Int)), .val (.int .i64 ((b : Nat) : Int)), .val (.int .i64 ((e : Nat) : Int)), .val (.int .i64 ((ns : Nat) : Int)), .val (.int .i64 ((dp : Nat) : Int))]⟩ :: B, rw⟩, [(0, .c (.val (.pointer (some ⟨P, 0, none⟩)))), (1, .c (.val (.int .i64 (kk : Int))))]⟩ _
 refine sqrg ?_
 refine wag rfl rfl rfl rfl rfl ?_
 refine nlnm ?_
 refine aw_seq ?_
 refine aw_region_drew [P] (by kernel_rfl) ?_
 refine tq 0 (by kernel_rfl) rfl rfl rfl rfl (ay_move rfl rfl) ?_
 refine tq 1 (by kernel_rfl) rfl rfl rfl rfl (ay_nilCheck rfl rfl) ?_
 refine tq 2 (by kernel_rfl) rfl rfl rfl rfl (ay_fieldAddr 3 3 rfl rfl Tryd.runUnderlying78 rfl Tryd.sizeOf36 (by decide) rfl) ?_
 refine tq 3 (by kernel_rfl) rfl rfl rfl rfl (ay_load_box (A) rfl rfl rfl Tryd.isAgg36 Tryd.sizeOf36 rfl (fun _ h => (mem_off.1 h).2 (by simp))) ?_
 refine tq 4 (by kernel_rfl) rfl rfl rfl rfl (ay_cmp false rfl rfl rfl (eq_nat0 he0)) ?_
 refine tq 5 (by kernel_rfl) rfl rfl rfl rfl (ay_move rfl rfl) ?_
 refine tkskip 6 (by kernel_rfl) rfl (by kernel_rfl) (by kernel_rfl) rfl rfl (by decide) ?_
 refine tkskip 7 (by kernel_rfl) rfl (by kernel_rfl) (by kernel_rfl) rfl rfl (by decide) ?_
 refine tkskip 8 (by kernel_rfl) rfl (by kernel_rfl) (by kernel_rfl) rfl rfl (by decide) ?_
 refine tkskip 9 (by kernel_rfl) rfl (by kernel_rfl) (by kernel_rfl) rfl rfl (by decide) ?_
 refine tkskip 10 (by kernel_rfl) rfl (by kernel_rfl) (by kernel_rfl) rfl rfl (by decide) ?_
 refine tkskip 11 (by kernel_rfl) rfl (by kernel_rfl) (by kernel_rfl) rfl rfl (by decide) ?_
 refine tkskip 12 (by kernel_rfl) rfl (by kernel_rfl) (by kernel_rfl) rfl rfl (by decide) ?_
 refine tkskip 13 (by kernel_rfl) rfl (by kernel_rfl) (by kernel_rfl) rfl rfl (by decide) ?_
 refine tkskip 14 (by kernel_rfl) rfl (by kernel_rfl) (by kernel_rfl) rfl rfl (by decide) ?_
 refine tkskip 15 (by kernel_rfl) rfl (by kernel_rfl) (by kernel_rfl) rfl rfl (by decide) ?_
 refine tkskip 16 (by kernel_rfl) rfl (by kernel_rfl) (by kernel_rfl) rfl rfl (by decide) ?_
 refine tkskip 17 (by kernel_rfl) rfl (by kernel_rfl) (by kernel_rfl) rfl rfl (by decide) ?_
 refine tkskip 18 (by kernel_rfl) rfl (by kernel_rfl) (by kernel_rfl) rfl rfl (by decide) ?_
 refine tq 19 (by kernel_rfl) rfl rfl rfl rfl (ay_pick rfl rfl rfl) ?_
 refine tq 20 (by kernel_rfl) rfl rfl rfl rfl (ay_assign rfl rfl) ?_
 refine any_done (by kernel_rfl) ?_
 refine then_normal ?_
 refine aw_ret ?_
 exact ⟨.inr rfl, _, (RSt A B rw P l (k) (b) (e) (ns) (dp)), res_one rfl (resv_tmp rfl), subS_of (.refl _) (.refl _), rfl, rfl⟩
set_option maxRecDepth 100000 in
set_option maxHeartbeats 1600000 in
theorem kind_0 (A B : List Box) (rw : List ORow) (P : Nat) (l : List Tok) (k b ns dp kk : Nat) (hk : k < l.length) : ACall Tryd.prog 35 [.c (.val (.pointer (some ⟨P, 0, none⟩))), .c (.val (.int .i64 (kk : Int)))] [P] (RSt A B rw P l k b 0 ns dp) fun t s => t = .c (.val (.bool (decide (l[k].kind = kk)))) ∧ s = RSt A B rw P l k b 0 ns dp := by
 refine acall_body Tryd.func35 rfl (Nat.le_of_ble_eq_true rfl) ?_
 show AWp Tryd.prog _ ⟨25, [P], ⟨A ++ ⟨P, 78, [.sl l.length (l.flatMap encT), .val (.int .i64 ((k : Nat) : Int)), .val (.int .i64 ((b : Nat) : Int)), .val (.int .i64 ((0 : Nat) : Int)), .val (.int .i64 ((ns : Nat) : Int)), .val (.int .i64 ((dp : Nat) : Int))]⟩ :: B, rw⟩, [(0, .c (.val (.pointer (some ⟨P, 0, none⟩)))), (1, .c (.val (.int .i64 (kk : Int))))]⟩ _
 refine sqrg ?_
 refine wag rfl rfl rfl rfl rfl ?_
 refine nlnm ?_
 refine aw_seq ?_
 refine aw_region_drew [P] (by kernel_rfl) ?_
 refine tq 0 (by kernel_rfl) rfl rfl rfl rfl (ay_move rfl rfl) ?_
 refine tq 1 (by kernel_rfl) rfl rfl rfl rfl (ay_nilCheck rfl rfl) ?_
 refine tq 2 (by kernel_rfl) rfl rfl rfl rfl (ay_fieldAddr 3 3 rfl rfl Tryd.runUnderlying78 rfl Tryd.sizeOf36 (by decide) rfl) ?_
 refine tq 3 (by kernel_rfl) rfl rfl rfl rfl (ay_load_box (A) rfl rfl rfl Tryd.isAgg36 Tryd.sizeOf36 rfl (fun _ h => (mem_off.1 h).2 (by simp))) ?_
 refine tq 4 (by kernel_rfl) rfl rfl rfl rfl (ay_cmp true rfl rfl rfl (by rfl)) ?_
 refine tq 5 (by kernel_rfl) rfl rfl rfl rfl (ay_move rfl rfl) ?_
 refine tq 6 (by kernel_rfl) rfl rfl rfl rfl (ay_move rfl rfl) ?_
 refine tq 7 (by kernel_rfl) rfl rfl rfl rfl (ay_nilCheck rfl rfl) ?_
 refine tq 8 (by kernel_rfl) rfl rfl rfl rfl (ay_fieldAddr 0 0 rfl rfl Tryd.runUnderlying78 rfl Tryd.sizeOf34 (by decide) rfl) ?_
 refine tq 9 (by kernel_rfl) rfl rfl rfl rfl (ay_load_box (A) rfl rfl rfl Tryd.isAgg34 Tryd.sizeOf34 rfl (fun _ h => (mem_off.1 h).2 (by simp))) ?_
 refine tq 10 (by kernel_rfl) rfl rfl rfl rfl (ay_move rfl rfl) ?_
 refine tq 11 (by kernel_rfl) rfl rfl rfl rfl (ay_nilCheck rfl rfl) ?_
 refine tq 12 (by kernel_rfl) rfl rfl rfl rfl (ay_fieldAddr 1 1 rfl rfl Tryd.runUnderlying78 rfl Tryd.sizeOf3 (by decide) rfl) ?_
 refine tq 13 (by kernel_rfl) rfl rfl rfl rfl (ay_load_box (A) rfl rfl rfl Tryd.isAgg3 Tryd.sizeOf3 rfl (fun _ h => (mem_off.1 h).2 (by simp))) ?_
 refine tq 14 (by kernel_rfl) rfl rfl rfl rfl (ay_ix encT encT l encT_len (fun _ => rfl) (k) rfl rfl rfl rfl hk (by decide) Tryd.runUnderlying34 Tryd.sizeOf65) ?_
 refine tq 15 (by kernel_rfl) rfl rfl rfl rfl (ay_fieldAddr_el 0 rfl rfl Tryd.runUnderlying65 rfl Tryd.sizeOf3 (by decide)) ?_
 refine tq 16 (by kernel_rfl) rfl rfl rfl rfl (ay_load_el rfl rfl Tryd.isAgg3 Tryd.sizeOf3 rfl) ?_
 refine tq 17 (by kernel_rfl) rfl rfl rfl rfl (ay_move rfl rfl) ?_
 refine tq 18 (by kernel_rfl) rfl rfl rfl rfl (ay_cmp (decide (l[k].kind = kk)) rfl rfl rfl cmp_nat) ?_
 refine tq 19 (by kernel_rfl) rfl rfl rfl rfl (ay_pick rfl rfl rfl) ?_
 refine tq 20 (by kernel_rfl) rfl rfl rfl rfl (ay_assign rfl rfl) ?_
 refine any_done (by kernel_rfl) ?_
 refine then_normal ?_
 refine aw_ret ?_
 exact ⟨.inr rfl, _, (RSt A B rw P l (k) (b) (0) (ns) (dp)), res_one rfl (resv_tmp rfl), subS_of (.refl _) (.refl _), rfl, rfl⟩
theorem kind_c (A B : List Box) (rw : List ORow) (P : Nat) (l : List Tok) (k b e ns dp : Nat) (kk : Nat) (hk : k < l.length) : ACall Tryd.prog 35 [.c (.val (.pointer (some ⟨P, 0, none⟩))), .c (.val (.int .i64 (kk : Int)))] [P] (RSt A B rw P l k b e ns dp) fun t s => t = .c (.val (.bool (decide (e = 0) && decide ((tokAt l k).kind = kk)))) ∧ s = RSt A B rw P l k b e ns dp := by
 rw [tokAt_lt hk]
 by_cases he : e = 0
 ·subst he; simpa using kind_0 A B rw P l k b ns dp kk hk
 ·simpa [he] using kind_s A B rw P l k b ns dp kk e hk he
set_option maxRecDepth 100000 in
set_option maxHeartbeats 1600000 in
theorem name_c (A B : List Box) (rw : List ORow) (P : Nat) (l : List Tok) (k b e ns dp : Nat) (hok : TOk l) (hk : k < l.length) (he : e < 16) : ACall Tryd.prog 41 [.c (.val (.pointer (some ⟨P, 0, none⟩)))] [P] (RSt A B rw P l k b e ns dp) fun t s => RAn A B rw P l ns dp (fun x => .c (.val (.string x))) e b (nameP l k) t s := by
 have hlen := hok.len
 refine acall_body Tryd.func41 rfl (Nat.le_of_ble_eq_true rfl) ?_
 show AWp Tryd.prog _ ⟨27, [P], ⟨A ++ ⟨P, 78, [.sl l.length (l.flatMap encT), .val (.int .i64 ((k : Nat) : Int)), .val (.int .i64 ((b : Nat) : Int)), .val (.int .i64 ((e : Nat) : Int)), .val (.int .i64 ((ns : Nat) : Int)), .val (.int .i64 ((dp : Nat) : Int))]⟩ :: B, rw⟩, [(0, .c (.val (.pointer (some ⟨P, 0, none⟩))))]⟩ _
 refine sqrg ?_
 refine wag rfl rfl rfl rfl rfl ?_
 refine nlnm ?_
 refine aw_seq ?_
 refine sqrg ?_
 refine wmv rfl rfl rfl rfl rfl ?_
 refine wcP rfl rfl rfl rfl Tryd.call35 rfl (kind_c (A) _ _ _ l k b e ns dp 1 hk) (by simp) (by simp [Sto.bl]) ?_
 rintro t1 s1 ⟨rfl, rfl⟩
 refine wyy rfl rfl rfl (ay_not rfl rfl) ?_
 refine nlnm ?_
 refine aw_cond rfl (fun hc2 => ?_) (fun hc2 => ?_)
 ·refine sqrg ?_
  refine wmv rfl rfl rfl rfl rfl ?_
  refine wcP rfl rfl rfl rfl Tryd.call37 rfl (fail_c (A) _ _ _ l k b e ns dp 4) (by simp) (by simp [Sto.bl]) ?_
  rintro t3 s3 ⟨b3x, e3x, hf3, rfl, rfl⟩
  refine nx ?_
  refine wag rfl rfl rfl rfl rfl ?_
  refine nlnm ?_
  refine aw_ret ?_
  refine then_ret ?_
  exact ⟨.inr rfl, _, (RSt A B rw P l (k) (b3x) (e3x) (ns) (dp)), res_one rfl (resv_tmp rfl), subS_of (.refl _) (.refl _), ⟨emptyB, k, b3x, e3x, rfl, hf3.run (by decide) (fun h => by unfold nameP; rw [if_neg (fun h2 => by simp [h, h2] at hc2)]) _ _, hk, (hf3.small he (by decide)), rfl⟩⟩
 ·obtain ⟨rfl, ha⟩ : e = 0 ∧ (tokAt l k).kind = 1 := by simpa using hc2
  have hm := hok.last.more hk (by omega)
  refine aw_skip ?_
  refine then_normal ?_
  refine sqrg ?_
  refine wmv rfl rfl rfl rfl rfl ?_
  refine wyy rfl rfl rfl (ay_nilCheck rfl rfl) ?_
  refine wyy rfl rfl rfl (ay_fieldAddr 1 1 rfl rfl Tryd.runUnderlying78 rfl Tryd.sizeOf3 (by decide) rfl) ?_
  refine wyy rfl rfl rfl (ay_load_box (A) rfl rfl rfl Tryd.isAgg3 Tryd.sizeOf3 rfl (fun _ h => by cases h)) ?_
  refine wyy rfl rfl rfl (ay_add rfl rfl rfl (by omega) (by omega)) ?_
  refine wyy rfl rfl rfl (ay_nilCheck rfl rfl) ?_
  refine wyy rfl rfl rfl (ay_fieldAddr 1 1 rfl rfl Tryd.runUnderlying78 rfl Tryd.sizeOf3 (by decide) rfl) ?_
  refine wo rfl (wstA0 rfl rfl rfl rfl rfl Tryd.sizeOf3 rfl (Nat.le_of_ble_eq_true rfl) rfl (by simp) (fun _ => by simp) ?_)
  refine nlnm ?_
  refine aw_seq ?_
  refine aw_region_drew [P] (by kernel_rfl) ?_
  refine tq 0 (by kernel_rfl) rfl rfl rfl rfl (ay_move rfl rfl) ?_
  refine tq 1 (by kernel_rfl) rfl rfl rfl rfl (ay_nilCheck rfl rfl) ?_
  refine tq 2 (by kernel_rfl) rfl rfl rfl rfl (ay_fieldAddr 0 0 rfl rfl Tryd.runUnderlying78 rfl Tryd.sizeOf34 (by decide) rfl) ?_
  refine tq 3 (by kernel_rfl) rfl rfl rfl rfl (ay_load_box (A) rfl rfl rfl Tryd.isAgg34 Tryd.sizeOf34 rfl (fun _ h => (mem_off.1 h).2 (by simp))) ?_
  refine tq 4 (by kernel_rfl) rfl rfl rfl rfl (ay_move rfl rfl) ?_
  refine tq 5 (by kernel_rfl) rfl rfl rfl rfl (ay_nilCheck rfl rfl) ?_
  refine tq 6 (by kernel_rfl) rfl rfl rfl rfl (ay_fieldAddr 1 1 rfl rfl Tryd.runUnderlying78 rfl Tryd.sizeOf3 (by decide) rfl) ?_
  refine tq 7 (by kernel_rfl) rfl rfl rfl rfl (ay_load_box (A) rfl rfl rfl Tryd.isAgg3 Tryd.sizeOf3 rfl (fun _ h => (mem_off.1 h).2 (by simp))) ?_
  refine tq 8 (by kernel_rfl) rfl rfl rfl rfl (ay_sub rfl rfl rfl (by omega) (by omega)) ?_
  refine tq 9 (by kernel_rfl) rfl rfl rfl rfl (ay_ix encT encT l encT_len (fun _ => rfl) k rfl rfl rfl (by omega) hk (by decide) Tryd.runUnderlying34 Tryd.sizeOf65) ?_
  refine tq 10 (by kernel_rfl) rfl rfl rfl rfl (ay_fieldAddr_el 1 rfl rfl Tryd.runUnderlying65 rfl Tryd.sizeOf9 (by decide)) ?_
  refine tq 11 (by kernel_rfl) rfl rfl rfl rfl (ay_load_el rfl rfl Tryd.isAgg9 Tryd.sizeOf9 rfl) ?_
  refine tq 12 (by kernel_rfl) rfl rfl rfl rfl (ay_assign rfl rfl) ?_
  refine any_done (by kernel_rfl) ?_
  refine then_normal ?_
  refine aw_ret ?_
  exact ⟨.inr rfl, _, (RSt A B rw P l (k + 1) (b) (0) (ns) (dp)), res_one rfl (resv_tmp rfl), subS_of (.refl _) (.refl _), ⟨_, k + 1, b, 0, rfl, .ok _ _ _ (by unfold nameP; rw [if_pos ha, tokAt_lt hk]), hm, by decide, rfl⟩⟩
end Go.Proofs.YtflcnehhpmjipaaDoor
