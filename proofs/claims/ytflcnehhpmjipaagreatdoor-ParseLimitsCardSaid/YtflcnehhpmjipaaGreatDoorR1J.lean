import Derived.Test.YtflcnehhpmjipaaGreatDoorW6J
import Derived.Test.YtflcnehhpmjipaaGreatDoorAwSameJ
import Derived.Test.YtflcnehhpmjipaaGreatDoorE0J
set_option linter.unusedVariables false
set_option linter.unusedSimpArgs false
namespace Go.Proofs.YtflcnehhpmjipaaGreatDoor
open Go.RowKit
set_option synthInstance.maxHeartbeats 1000000
set_option synthInstance.maxSize 1000000
set_option linter.all false
abbrev RSt (A B : List Box) (rw : List ORow) (P : Nat) (l : List Tok) (k b e ns dp : Nat) : Sto := ⟨A ++ ⟨P, 85, [.sl l.length (l.flatMap encT), .val (.int .i64 (k : Int)), .val (.int .i64 (b : Int)), .val (.int .i64 (e : Int)), .val (.int .i64 (ns : Int)), .val (.int .i64 (dp : Int))]⟩ :: B, rw⟩
def RAn {α : Type} (A B : List Box) (rw : List ORow) (P : Nat) (l : List Tok) (ns dp : Nat) (enc : α → AT) (e b : Nat) (r : PRes α) (t : AT) (s : Sto) : Prop :=
 ∃ x k1 b1 e1, t = enc x ∧ RRun e b r x k1 b1 e1 ∧ k1 < l.length ∧ e1 < 16 ∧ s = RSt A B rw P l k1 b1 e1 ns dp
structure TOk (l : List Tok) : Prop where
 last : EndAt l
 reg : ∀ t, t ∈ l → RegT t
 len : l.length ≤ 1000000
def anyAt (l : List Tok) (k : Nat) (s : ByteArray) : Bool := (decide ((tokAt l k).kind = 4) || decide ((tokAt l k).kind = 3)) && decide ((tokAt l k).text = s)
theorem eq_nat0 {e : Nat} (h : e ≠ 0) : cmpR .eql (e : Int) 0 = some false := by simp [cmpR, h]
theorem cmp_nat {m n : Nat} : cmpR .eql (m : Int) (n : Int) = some (decide (m = n)) := by
 by_cases h : m = n
 ·subst h; simp [cmpR]
 ·have h2 : ¬ (m : Int) = (n : Int) := by omega
  simp [cmpR, h, h2]
set_option maxRecDepth 100000 in
set_option maxHeartbeats 1600000 in
theorem fail_0 (A B : List Box) (rw : List ORow) (P : Nat) (l : List Tok) (k b ns dp x : Nat) : ACall Tryz.prog 58 [.c (.val (.pointer (some ⟨P, 0, none⟩))), .c (.val (.int .i64 (x : Int)))] [P] (RSt A B rw P l k b 0 ns dp) fun t s => t = .tup [] ∧ s = RSt A B rw P l k k x ns dp := by
 refine acall_body Tryz.func58 rfl (Nat.le_of_ble_eq_true rfl) ?_
 show AWp Tryz.prog _ ⟨20, [P], ⟨A ++ ⟨P, 85, [.sl l.length (l.flatMap encT), .val (.int .i64 ((k : Nat) : Int)), .val (.int .i64 ((b : Nat) : Int)), .val (.int .i64 ((0 : Nat) : Int)), .val (.int .i64 ((ns : Nat) : Int)), .val (.int .i64 ((dp : Nat) : Int))]⟩ :: B, rw⟩, [(0, .c (.val (.pointer (some ⟨P, 0, none⟩)))), (1, .c (.val (.int .i64 (x : Int))))]⟩ _
 refine go 6 ?_
 refine wyy rfl rfl rfl (ay_cmp true rfl rfl rfl (by rfl)) ?_
 refine go 18 ?_
 exact ⟨.inl rfl, _, (RSt A B rw P l (k) (k) (x) (ns) (dp)), res_none rfl, subS_of (.refl _) (.refl _), rfl, rfl⟩
set_option maxRecDepth 100000 in
set_option maxHeartbeats 1600000 in
theorem fail_1 (A B : List Box) (rw : List ORow) (P : Nat) (l : List Tok) (k b ns dp x e : Nat) (he0 : e ≠ 0) : ACall Tryz.prog 58 [.c (.val (.pointer (some ⟨P, 0, none⟩))), .c (.val (.int .i64 (x : Int)))] [P] (RSt A B rw P l k b e ns dp) fun t s => t = .tup [] ∧ s = RSt A B rw P l k b e ns dp := by
 refine acall_body Tryz.func58 rfl (Nat.le_of_ble_eq_true rfl) ?_
 show AWp Tryz.prog _ ⟨20, [P], ⟨A ++ ⟨P, 85, [.sl l.length (l.flatMap encT), .val (.int .i64 ((k : Nat) : Int)), .val (.int .i64 ((b : Nat) : Int)), .val (.int .i64 ((e : Nat) : Int)), .val (.int .i64 ((ns : Nat) : Int)), .val (.int .i64 ((dp : Nat) : Int))]⟩ :: B, rw⟩, [(0, .c (.val (.pointer (some ⟨P, 0, none⟩)))), (1, .c (.val (.int .i64 (x : Int))))]⟩ _
 refine go 6 ?_
 refine wyy rfl rfl rfl (ay_cmp false rfl rfl rfl (eq_nat0 he0)) ?_
 refine go 4 ?_
 exact ⟨.inl rfl, _, (RSt A B rw P l (k) (b) (e) (ns) (dp)), res_none rfl, subS_of (.refl _) (.refl _), rfl, rfl⟩
set_option maxRecDepth 100000 in
set_option maxHeartbeats 1600000 in
theorem is_s (A B : List Box) (rw : List ORow) (P : Nat) (l : List Tok) (k b ns dp e : Nat) (sg : ByteArray) (hk : k < l.length) (he0 : e ≠ 0) : ACall Tryz.prog 57 [.c (.val (.pointer (some ⟨P, 0, none⟩))), .c (.val (.string sg))] [P] (RSt A B rw P l k b e ns dp) fun t s => t = .c (.val (.bool false)) ∧ s = RSt A B rw P l k b e ns dp := by
 refine acall_body Tryz.func57 rfl (Nat.le_of_ble_eq_true rfl) ?_
 show AWp Tryz.prog _ ⟨37, [P], ⟨A ++ ⟨P, 85, [.sl l.length (l.flatMap encT), .val (.int .i64 ((k : Nat) : Int)), .val (.int .i64 ((b : Nat) : Int)), .val (.int .i64 ((e : Nat) : Int)), .val (.int .i64 ((ns : Nat) : Int)), .val (.int .i64 ((dp : Nat) : Int))]⟩ :: B, rw⟩, [(0, .c (.val (.pointer (some ⟨P, 0, none⟩)))), (1, .c (.val (.string sg)))]⟩ _
 refine go 6 ?_
 refine aw_region_drew [P] (by kernel_rfl) ?_
 refine tks [(0, true), (1, true), (2, true), (3, true), (4, true), (5, true), (6, true), (7, true)] 4 (by kernel_rfl) ?_
 refine go 9 ?_
 refine tq 8 (by kernel_rfl) rfl rfl rfl rfl (ay_ix encT encT l encT_len (fun _ => rfl) (k) rfl rfl rfl rfl hk (by decide) Tryz.runUnderlying47 Tryz.sizeOf72) ?_
 refine tks [(9, true), (10, false), (11, false)] 0 (by kernel_rfl) ?_
 refine go 4 fun b1 => ?_
 refine any_done (by kernel_rfl) ?_
 refine go 7 ?_
 refine wyy rfl rfl rfl (ay_cmp false rfl rfl rfl (eq_nat0 he0)) ?_
 refine go 20 ?_
 exact ⟨.inr rfl, _, (RSt A B rw P l (k) (b) (e) (ns) (dp)), res_one rfl (resv_tmp rfl), subS_of (.cons _ (.refl _)) (.refl _), rfl, rfl⟩
set_option maxRecDepth 100000 in
set_option maxHeartbeats 1600000 in
theorem is_4y (A B : List Box) (rw : List ORow) (P : Nat) (l : List Tok) (k b ns dp : Nat) (sg : ByteArray) (hk : k < l.length) (h4 : l[k].kind = 4) (ht : l[k].text = sg) : ACall Tryz.prog 57 [.c (.val (.pointer (some ⟨P, 0, none⟩))), .c (.val (.string sg))] [P] (RSt A B rw P l k b 0 ns dp) fun t s => t = .c (.val (.bool true)) ∧ s = RSt A B rw P l k b 0 ns dp := by
 refine acall_body Tryz.func57 rfl (Nat.le_of_ble_eq_true rfl) ?_
 show AWp Tryz.prog _ ⟨37, [P], ⟨A ++ ⟨P, 85, [.sl l.length (l.flatMap encT), .val (.int .i64 ((k : Nat) : Int)), .val (.int .i64 ((b : Nat) : Int)), .val (.int .i64 ((0 : Nat) : Int)), .val (.int .i64 ((ns : Nat) : Int)), .val (.int .i64 ((dp : Nat) : Int))]⟩ :: B, rw⟩, [(0, .c (.val (.pointer (some ⟨P, 0, none⟩)))), (1, .c (.val (.string sg)))]⟩ _
 refine go 6 ?_
 refine aw_region_drew [P] (by kernel_rfl) ?_
 refine tks [(0, true), (1, true), (2, true), (3, true), (4, true), (5, true), (6, true), (7, true)] 4 (by kernel_rfl) ?_
 refine go 9 ?_
 refine tq 8 (by kernel_rfl) rfl rfl rfl rfl (ay_ix encT encT l encT_len (fun _ => rfl) (k) rfl rfl rfl rfl hk (by decide) Tryz.runUnderlying47 Tryz.sizeOf72) ?_
 refine tks [(9, true), (10, false), (11, false)] 0 (by kernel_rfl) ?_
 refine go 4 fun b1 => ?_
 refine any_done (by kernel_rfl) ?_
 refine go 7 ?_
 refine wyy rfl rfl rfl (ay_cmp true rfl rfl rfl (by rfl)) ?_
 refine go 3 ?_
 refine wyy rfl rfl rfl (ay_cmp true rfl rfl rfl (by rw [h4]; rfl)) ?_
 refine go 10 ?_
 refine wyy rfl rfl rfl (ay_streq true rfl rfl rfl (by rw [ht]; simp [strR])) ?_
 refine go 5 ?_
 exact ⟨.inr rfl, _, (RSt A B rw P l (k) (b) (0) (ns) (dp)), res_one rfl (resv_tmp rfl), subS_of (.cons _ (.refl _)) (.refl _), rfl, rfl⟩
set_option maxRecDepth 100000 in
set_option maxHeartbeats 1600000 in
theorem is_4n (A B : List Box) (rw : List ORow) (P : Nat) (l : List Tok) (k b ns dp : Nat) (sg : ByteArray) (hk : k < l.length) (h4 : l[k].kind = 4) (ht : ¬ l[k].text = sg) : ACall Tryz.prog 57 [.c (.val (.pointer (some ⟨P, 0, none⟩))), .c (.val (.string sg))] [P] (RSt A B rw P l k b 0 ns dp) fun t s => t = .c (.val (.bool false)) ∧ s = RSt A B rw P l k b 0 ns dp := by
 refine acall_body Tryz.func57 rfl (Nat.le_of_ble_eq_true rfl) ?_
 show AWp Tryz.prog _ ⟨37, [P], ⟨A ++ ⟨P, 85, [.sl l.length (l.flatMap encT), .val (.int .i64 ((k : Nat) : Int)), .val (.int .i64 ((b : Nat) : Int)), .val (.int .i64 ((0 : Nat) : Int)), .val (.int .i64 ((ns : Nat) : Int)), .val (.int .i64 ((dp : Nat) : Int))]⟩ :: B, rw⟩, [(0, .c (.val (.pointer (some ⟨P, 0, none⟩)))), (1, .c (.val (.string sg)))]⟩ _
 refine go 6 ?_
 refine aw_region_drew [P] (by kernel_rfl) ?_
 refine tks [(0, true), (1, true), (2, true), (3, true), (4, true), (5, true), (6, true), (7, true)] 4 (by kernel_rfl) ?_
 refine go 9 ?_
 refine tq 8 (by kernel_rfl) rfl rfl rfl rfl (ay_ix encT encT l encT_len (fun _ => rfl) (k) rfl rfl rfl rfl hk (by decide) Tryz.runUnderlying47 Tryz.sizeOf72) ?_
 refine tks [(9, true), (10, false), (11, false)] 0 (by kernel_rfl) ?_
 refine go 4 fun b1 => ?_
 refine any_done (by kernel_rfl) ?_
 refine go 7 ?_
 refine wyy rfl rfl rfl (ay_cmp true rfl rfl rfl (by rfl)) ?_
 refine go 3 ?_
 refine wyy rfl rfl rfl (ay_cmp true rfl rfl rfl (by rw [h4]; rfl)) ?_
 refine go 10 ?_
 refine wyy rfl rfl rfl (ay_streq false rfl rfl rfl (by simp [strR, ht])) ?_
 refine go 5 ?_
 exact ⟨.inr rfl, _, (RSt A B rw P l (k) (b) (0) (ns) (dp)), res_one rfl (resv_tmp rfl), subS_of (.cons _ (.refl _)) (.refl _), rfl, rfl⟩
set_option maxRecDepth 100000 in
set_option maxHeartbeats 1600000 in
theorem is_3y (A B : List Box) (rw : List ORow) (P : Nat) (l : List Tok) (k b ns dp : Nat) (sg : ByteArray) (hk : k < l.length) (h4 : ¬ l[k].kind = 4) (h3 : l[k].kind = 3) (ht : l[k].text = sg) : ACall Tryz.prog 57 [.c (.val (.pointer (some ⟨P, 0, none⟩))), .c (.val (.string sg))] [P] (RSt A B rw P l k b 0 ns dp) fun t s => t = .c (.val (.bool true)) ∧ s = RSt A B rw P l k b 0 ns dp := by
 refine acall_body Tryz.func57 rfl (Nat.le_of_ble_eq_true rfl) ?_
 show AWp Tryz.prog _ ⟨37, [P], ⟨A ++ ⟨P, 85, [.sl l.length (l.flatMap encT), .val (.int .i64 ((k : Nat) : Int)), .val (.int .i64 ((b : Nat) : Int)), .val (.int .i64 ((0 : Nat) : Int)), .val (.int .i64 ((ns : Nat) : Int)), .val (.int .i64 ((dp : Nat) : Int))]⟩ :: B, rw⟩, [(0, .c (.val (.pointer (some ⟨P, 0, none⟩)))), (1, .c (.val (.string sg)))]⟩ _
 refine go 6 ?_
 refine aw_region_drew [P] (by kernel_rfl) ?_
 refine tks [(0, true), (1, true), (2, true), (3, true), (4, true), (5, true), (6, true), (7, true)] 4 (by kernel_rfl) ?_
 refine go 9 ?_
 refine tq 8 (by kernel_rfl) rfl rfl rfl rfl (ay_ix encT encT l encT_len (fun _ => rfl) (k) rfl rfl rfl rfl hk (by decide) Tryz.runUnderlying47 Tryz.sizeOf72) ?_
 refine tks [(9, true), (10, false), (11, false)] 0 (by kernel_rfl) ?_
 refine go 4 fun b1 => ?_
 refine any_done (by kernel_rfl) ?_
 refine go 7 ?_
 refine wyy rfl rfl rfl (ay_cmp true rfl rfl rfl (by rfl)) ?_
 refine go 3 ?_
 refine wyy rfl rfl rfl (ay_cmp false rfl rfl rfl (by rw [show cmpR .eql ((l[k].kind : Nat) : Int) 4 = some (decide (l[k].kind = 4)) from cmp_nat (n := 4), decide_eq_false h4])) ?_
 refine go 3 ?_
 refine wyy rfl rfl rfl (ay_cmp true rfl rfl rfl (by rw [h3]; rfl)) ?_
 refine go 6 ?_
 refine wyy rfl rfl rfl (ay_streq true rfl rfl rfl (by rw [ht]; simp [strR])) ?_
 refine go 5 ?_
 exact ⟨.inr rfl, _, (RSt A B rw P l (k) (b) (0) (ns) (dp)), res_one rfl (resv_tmp rfl), subS_of (.cons _ (.refl _)) (.refl _), rfl, rfl⟩
set_option maxRecDepth 100000 in
set_option maxHeartbeats 1600000 in
theorem is_3n (A B : List Box) (rw : List ORow) (P : Nat) (l : List Tok) (k b ns dp : Nat) (sg : ByteArray) (hk : k < l.length) (h4 : ¬ l[k].kind = 4) (h3 : l[k].kind = 3) (ht : ¬ l[k].text = sg) : ACall Tryz.prog 57 [.c (.val (.pointer (some ⟨P, 0, none⟩))), .c (.val (.string sg))] [P] (RSt A B rw P l k b 0 ns dp) fun t s => t = .c (.val (.bool false)) ∧ s = RSt A B rw P l k b 0 ns dp := by
 refine acall_body Tryz.func57 rfl (Nat.le_of_ble_eq_true rfl) ?_
 show AWp Tryz.prog _ ⟨37, [P], ⟨A ++ ⟨P, 85, [.sl l.length (l.flatMap encT), .val (.int .i64 ((k : Nat) : Int)), .val (.int .i64 ((b : Nat) : Int)), .val (.int .i64 ((0 : Nat) : Int)), .val (.int .i64 ((ns : Nat) : Int)), .val (.int .i64 ((dp : Nat) : Int))]⟩ :: B, rw⟩, [(0, .c (.val (.pointer (some ⟨P, 0, none⟩)))), (1, .c (.val (.string sg)))]⟩ _
 refine go 6 ?_
 refine aw_region_drew [P] (by kernel_rfl) ?_
 refine tks [(0, true), (1, true), (2, true), (3, true), (4, true), (5, true), (6, true), (7, true)] 4 (by kernel_rfl) ?_
 refine go 9 ?_
 refine tq 8 (by kernel_rfl) rfl rfl rfl rfl (ay_ix encT encT l encT_len (fun _ => rfl) (k) rfl rfl rfl rfl hk (by decide) Tryz.runUnderlying47 Tryz.sizeOf72) ?_
 refine tks [(9, true), (10, false), (11, false)] 0 (by kernel_rfl) ?_
 refine go 4 fun b1 => ?_
 refine any_done (by kernel_rfl) ?_
 refine go 7 ?_
 refine wyy rfl rfl rfl (ay_cmp true rfl rfl rfl (by rfl)) ?_
 refine go 3 ?_
 refine wyy rfl rfl rfl (ay_cmp false rfl rfl rfl (by rw [show cmpR .eql ((l[k].kind : Nat) : Int) 4 = some (decide (l[k].kind = 4)) from cmp_nat (n := 4), decide_eq_false h4])) ?_
 refine go 3 ?_
 refine wyy rfl rfl rfl (ay_cmp true rfl rfl rfl (by rw [h3]; rfl)) ?_
 refine go 6 ?_
 refine wyy rfl rfl rfl (ay_streq false rfl rfl rfl (by simp [strR, ht])) ?_
 refine go 5 ?_
 exact ⟨.inr rfl, _, (RSt A B rw P l (k) (b) (0) (ns) (dp)), res_one rfl (resv_tmp rfl), subS_of (.cons _ (.refl _)) (.refl _), rfl, rfl⟩
set_option maxRecDepth 100000 in
set_option maxHeartbeats 1600000 in
theorem is_0 (A B : List Box) (rw : List ORow) (P : Nat) (l : List Tok) (k b ns dp : Nat) (sg : ByteArray) (hk : k < l.length) (h4 : ¬ l[k].kind = 4) (h3 : ¬ l[k].kind = 3) : ACall Tryz.prog 57 [.c (.val (.pointer (some ⟨P, 0, none⟩))), .c (.val (.string sg))] [P] (RSt A B rw P l k b 0 ns dp) fun t s => t = .c (.val (.bool false)) ∧ s = RSt A B rw P l k b 0 ns dp := by
 refine acall_body Tryz.func57 rfl (Nat.le_of_ble_eq_true rfl) ?_
 show AWp Tryz.prog _ ⟨37, [P], ⟨A ++ ⟨P, 85, [.sl l.length (l.flatMap encT), .val (.int .i64 ((k : Nat) : Int)), .val (.int .i64 ((b : Nat) : Int)), .val (.int .i64 ((0 : Nat) : Int)), .val (.int .i64 ((ns : Nat) : Int)), .val (.int .i64 ((dp : Nat) : Int))]⟩ :: B, rw⟩, [(0, .c (.val (.pointer (some ⟨P, 0, none⟩)))), (1, .c (.val (.string sg)))]⟩ _
 refine go 6 ?_
 refine aw_region_drew [P] (by kernel_rfl) ?_
 refine tks [(0, true), (1, true), (2, true), (3, true), (4, true), (5, true), (6, true), (7, true)] 4 (by kernel_rfl) ?_
 refine go 9 ?_
 refine tq 8 (by kernel_rfl) rfl rfl rfl rfl (ay_ix encT encT l encT_len (fun _ => rfl) (k) rfl rfl rfl rfl hk (by decide) Tryz.runUnderlying47 Tryz.sizeOf72) ?_
 refine tks [(9, true), (10, false), (11, false)] 0 (by kernel_rfl) ?_
 refine go 4 fun b1 => ?_
 refine any_done (by kernel_rfl) ?_
 refine go 7 ?_
 refine wyy rfl rfl rfl (ay_cmp true rfl rfl rfl (by rfl)) ?_
 refine go 3 ?_
 refine wyy rfl rfl rfl (ay_cmp false rfl rfl rfl (by rw [show cmpR .eql ((l[k].kind : Nat) : Int) 4 = some (decide (l[k].kind = 4)) from cmp_nat (n := 4), decide_eq_false h4])) ?_
 refine go 3 ?_
 refine wyy rfl rfl rfl (ay_cmp false rfl rfl rfl (by rw [show cmpR .eql ((l[k].kind : Nat) : Int) 3 = some (decide (l[k].kind = 3)) from cmp_nat (n := 3), decide_eq_false h3])) ?_
 refine go 12 ?_
 exact ⟨.inr rfl, _, (RSt A B rw P l (k) (b) (0) (ns) (dp)), res_one rfl (resv_tmp rfl), subS_of (.cons _ (.refl _)) (.refl _), rfl, rfl⟩
theorem is_c (A B : List Box) (rw : List ORow) (P : Nat) (l : List Tok) (k b e ns dp : Nat) (sg : ByteArray) (hk : k < l.length) : ACall Tryz.prog 57 [.c (.val (.pointer (some ⟨P, 0, none⟩))), .c (.val (.string sg))] [P] (RSt A B rw P l k b e ns dp) fun t s => t = .c (.val (.bool (decide (e = 0) && anyAt l k sg))) ∧ s = RSt A B rw P l k b e ns dp := by
 unfold anyAt
 rw [tokAt_lt hk]
 by_cases he : e = 0
 ·subst he
  by_cases h4 : l[k].kind = 4
  ·by_cases ht : l[k].text = sg
   ·simpa [h4, ht] using is_4y A B rw P l k b ns dp sg hk h4 ht
   ·simpa [h4, ht] using is_4n A B rw P l k b ns dp sg hk h4 ht
  ·by_cases h3 : l[k].kind = 3
   ·by_cases ht : l[k].text = sg
    ·simpa [h3, ht] using is_3y A B rw P l k b ns dp sg hk h4 h3 ht
    ·simpa [h3, ht] using is_3n A B rw P l k b ns dp sg hk h4 h3 ht
   ·simpa [h4, h3] using is_0 A B rw P l k b ns dp sg hk h4 h3
 ·simpa [he] using is_s A B rw P l k b ns dp e sg hk he
theorem any_sign {l : List Tok} (h : TOk l) {k : Nat} (hk : k < l.length) {s : List UInt8} (hr : reserved (bytes s) = false) : anyAt l k (bytes s) = signAt l k s := by
 unfold anyAt signAt
 rw [tokAt_lt hk]
 have h1 := h.reg _ (List.getElem_mem hk)
 by_cases ht : l[k].text = bytes s
 ·by_cases h3 : l[k].kind = 3
  ·have := h1.1 h3; rw [ht, hr] at this; cases this
  ·simp [ht, h3]
 ·simp [ht]
theorem any_word {l : List Tok} (h : TOk l) {k : Nat} (hk : k < l.length) {s : List UInt8} (hr : reserved (bytes s) = true) : anyAt l k (bytes s) = wordAt l k s := by
 unfold anyAt wordAt
 rw [tokAt_lt hk]
 have h1 := h.reg _ (List.getElem_mem hk)
 by_cases ht : l[k].text = bytes s
 ·by_cases h4 : l[k].kind = 4
  ·have := h1.2.1 h4; rw [ht, hr] at this; cases this
  ·simp [ht, h4]
 ·simp [ht]
theorem any_more {l : List Tok} (h : TOk l) {k : Nat} (hk : k < l.length) {s : ByteArray} (ha : anyAt l k s = true) : k + 1 < l.length := by
 refine h.last.more hk fun h5 => ?_
 unfold anyAt at ha
 rw [h5] at ha; simp at ha
set_option maxRecDepth 100000 in
set_option maxHeartbeats 1600000 in
theorem take_c (A B : List Box) (rw : List ORow) (P : Nat) (l : List Tok) (k b e ns dp : Nat) (sg : ByteArray) (hok : TOk l) (hk : k < l.length) : ACall Tryz.prog 59 [.c (.val (.pointer (some ⟨P, 0, none⟩))), .c (.val (.string sg))] [P] (RSt A B rw P l k b e ns dp) fun t s => (e = 0 ∧ anyAt l k sg = true ∧ k + 1 < l.length ∧ t = .c (.val (.bool true)) ∧ s = RSt A B rw P l (k + 1) b 0 ns dp) ∨ (¬ (e = 0 ∧ anyAt l k sg = true) ∧ t = .c (.val (.bool false)) ∧ s = RSt A B rw P l k b e ns dp) := by
 have hlen := hok.len
 refine acall_body Tryz.func59 rfl (Nat.le_of_ble_eq_true rfl) ?_
 show AWp Tryz.prog _ ⟨16, [P], ⟨A ++ ⟨P, 85, [.sl l.length (l.flatMap encT), .val (.int .i64 ((k : Nat) : Int)), .val (.int .i64 ((b : Nat) : Int)), .val (.int .i64 ((e : Nat) : Int)), .val (.int .i64 ((ns : Nat) : Int)), .val (.int .i64 ((dp : Nat) : Int))]⟩ :: B, rw⟩, [(0, .c (.val (.pointer (some ⟨P, 0, none⟩)))), (1, .c (.val (.string sg)))]⟩ _
 refine go 10 ?_
 refine wcP rfl rfl rfl rfl Tryz.call57 rfl (is_c (A) _ _ _ l k b e ns dp _ hk) (by simp) (by simp [Sto.bl]) ?_
 rintro t1 s1 ⟨rfl, rfl⟩
 refine wyy rfl rfl rfl (ay_not  rfl rfl) ?_
 refine go 2 ?_
 refine aw_cond rfl (fun hc2 => ?_) (fun hc2 => ?_)
 ·refine go 7 ?_
  exact ⟨.inr rfl, _, (RSt A B rw P l (k) (b) (e) (ns) (dp)), res_one rfl (resv_tmp rfl), subS_of (.refl _) (.refl _), .inr ⟨fun h => by simp [h.1, h.2] at hc2, rfl, rfl⟩⟩
 ·obtain ⟨rfl, ha⟩ : e = 0 ∧ anyAt l k sg = true := by simpa using hc2
  have hm := any_more hok hk ha
  refine go 8 ?_
  refine wyy rfl rfl rfl (ay_add rfl rfl rfl (by omega) (by omega)) ?_
  refine go 11 ?_
  exact ⟨.inr rfl, _, (RSt A B rw P l (k + 1) (b) (0) (ns) (dp)), res_one rfl (resv_tmp rfl), subS_of (.refl _) (.refl _), .inl ⟨rfl, ha, hm, rfl, rfl⟩⟩
theorem take_s (A B : List Box) (rw : List ORow) (P : Nat) (l : List Tok) (k b e ns dp : Nat) (sg : List UInt8) (hr : reserved (bytes sg) = false) (hok : TOk l) (hk : k < l.length) : ACall Tryz.prog 59 [.c (.val (.pointer (some ⟨P, 0, none⟩))), .c (.val (.string (bytes sg)))] [P] (RSt A B rw P l k b e ns dp) fun t s => (e = 0 ∧ signAt l k sg = true ∧ k + 1 < l.length ∧ t = .c (.val (.bool true)) ∧ s = RSt A B rw P l (k + 1) b 0 ns dp) ∨ ((e = 0 → signAt l k sg = false) ∧ t = .c (.val (.bool false)) ∧ s = RSt A B rw P l k b e ns dp) := by
 refine (take_c A B rw P l k b e ns dp (bytes sg) hok hk).mono fun t s h => ?_
 rw [any_sign hok hk hr] at h
 refine h.imp id fun ⟨h1, h2⟩ => ⟨fun h0 => ?_, h2⟩
 cases hs : signAt l k sg with
 | false => rfl
 | true => exact absurd ⟨h0, hs⟩ h1
theorem take_w (A B : List Box) (rw : List ORow) (P : Nat) (l : List Tok) (k b e ns dp : Nat) (sg : List UInt8) (hr : reserved (bytes sg) = true) (hok : TOk l) (hk : k < l.length) : ACall Tryz.prog 59 [.c (.val (.pointer (some ⟨P, 0, none⟩))), .c (.val (.string (bytes sg)))] [P] (RSt A B rw P l k b e ns dp) fun t s => (e = 0 ∧ wordAt l k sg = true ∧ k + 1 < l.length ∧ t = .c (.val (.bool true)) ∧ s = RSt A B rw P l (k + 1) b 0 ns dp) ∨ ((e = 0 → wordAt l k sg = false) ∧ t = .c (.val (.bool false)) ∧ s = RSt A B rw P l k b e ns dp) := by
 refine (take_c A B rw P l k b e ns dp (bytes sg) hok hk).mono fun t s h => ?_
 rw [any_word hok hk hr] at h
 refine h.imp id fun ⟨h1, h2⟩ => ⟨fun h0 => ?_, h2⟩
 cases hs : wordAt l k sg with
 | false => rfl
 | true => exact absurd ⟨h0, hs⟩ h1
def FailOk (e b k x b1 e1 : Nat) : Prop := (e = 0 → k = b1 ∧ x = e1) ∧ (e ≠ 0 → b = b1 ∧ e = e1)
theorem fail_c (A B : List Box) (rw : List ORow) (P : Nat) (l : List Tok) (k b e ns dp : Nat) (x : Nat) : ACall Tryz.prog 58 [.c (.val (.pointer (some ⟨P, 0, none⟩))), .c (.val (.int .i64 (x : Int)))] [P] (RSt A B rw P l k b e ns dp) fun t s => ∃ b1 e1, FailOk e b k x b1 e1 ∧ t = .tup [] ∧ s = RSt A B rw P l k b1 e1 ns dp := by
 by_cases he : e = 0
 ·subst he
  exact (fail_0 A B rw P l k b ns dp x).mono fun t s h => ⟨k, x, ⟨fun _ => ⟨rfl, rfl⟩, fun h => absurd rfl h⟩, h⟩
 ·exact (fail_1 A B rw P l k b ns dp x e he).mono fun t s h => ⟨b, e, ⟨fun h => absurd h he, fun _ => ⟨rfl, rfl⟩⟩, h⟩
theorem FailOk.run {α : Type} {e b k x b1 e1 : Nat} {r : PRes α} (h : FailOk e b k x b1 e1) (hx : x ≠ 0) (hr : e = 0 → r = .err k x) (y : α) (k1 : Nat) : RRun e b r y k1 b1 e1 := by
 by_cases he : e = 0
 ·obtain ⟨rfl, rfl⟩ := h.1 he
  subst he
  exact .err _ _ _ _ _ (hr rfl) hx
 ·obtain ⟨rfl, rfl⟩ := h.2 he
  exact .skip he _ _ _
theorem FailOk.small {e b k x b1 e1 : Nat} (h : FailOk e b k x b1 e1) (he : e < 16) (hx : x < 16) : e1 < 16 := by
 by_cases h0 : e = 0
 ·rw [← (h.1 h0).2]; exact hx
 ·rw [← (h.2 h0).2]; exact he
set_option maxRecDepth 100000 in
set_option maxHeartbeats 1600000 in
theorem must_c (A B : List Box) (rw : List ORow) (P : Nat) (l : List Tok) (k b e ns dp : Nat) (sg : List UInt8) (hr : reserved (bytes sg) = false) (hok : TOk l) (hk : k < l.length) (he : e < 16) : ACall Tryz.prog 76 [.c (.val (.pointer (some ⟨P, 0, none⟩))), .c (.val (.string (bytes sg)))] [P] (RSt A B rw P l k b e ns dp) fun t s => RAn A B rw P l ns dp (fun _ => .tup []) e b (wantP l sg k) t s := by
 refine acall_body Tryz.func76 rfl (Nat.le_of_ble_eq_true rfl) ?_
 show AWp Tryz.prog _ ⟨10, [P], ⟨A ++ ⟨P, 85, [.sl l.length (l.flatMap encT), .val (.int .i64 ((k : Nat) : Int)), .val (.int .i64 ((b : Nat) : Int)), .val (.int .i64 ((e : Nat) : Int)), .val (.int .i64 ((ns : Nat) : Int)), .val (.int .i64 ((dp : Nat) : Int))]⟩ :: B, rw⟩, [(0, .c (.val (.pointer (some ⟨P, 0, none⟩)))), (1, .c (.val (.string (bytes sg))))]⟩ _
 refine go 4 ?_
 refine wcP rfl rfl rfl rfl Tryz.call59 rfl (take_s (A) _ _ _ l k b e ns dp sg hr hok hk) (by simp) (by simp [Sto.bl]) ?_
 rintro t1 s1 (⟨rfl, ha1, hm1, rfl, rfl⟩ | ⟨ha1, rfl, rfl⟩)
 ·refine go 5 ?_
  exact ⟨.inl rfl, _, (RSt A B rw P l (k + 1) (b) (0) (ns) (dp)), res_none rfl, subS_of (.refl _) (.refl _), ⟨(), k + 1, b, 0, rfl, .ok _ _ _ (by unfold wantP; rw [if_pos ha1]), hm1, by decide, rfl⟩⟩
 ·refine go 6 ?_
  refine wcP rfl rfl rfl rfl Tryz.call58 rfl (fail_c (A) _ _ _ l k b e ns dp 4) (by simp) (by simp [Sto.bl]) ?_
  rintro t4 s4 ⟨b4x, e4x, hf4, rfl, rfl⟩
  refine go 1 ?_
  exact ⟨.inl rfl, _, (RSt A B rw P l (k) (b4x) (e4x) (ns) (dp)), res_none rfl, subS_of (.refl _) (.refl _), ⟨(), k, b4x, e4x, rfl, hf4.run (by decide) (fun h => by unfold wantP; rw [if_neg (by rw [ha1 h]; decide)]) _ _, hk, (hf4.small he (by decide)), rfl⟩⟩
set_option maxRecDepth 100000 in
set_option maxHeartbeats 1600000 in
theorem kind_s (A B : List Box) (rw : List ORow) (P : Nat) (l : List Tok) (k b ns dp kk e : Nat) (hk : k < l.length) (he0 : e ≠ 0) : ACall Tryz.prog 56 [.c (.val (.pointer (some ⟨P, 0, none⟩))), .c (.val (.int .i64 (kk : Int)))] [P] (RSt A B rw P l k b e ns dp) fun t s => t = .c (.val (.bool false)) ∧ s = RSt A B rw P l k b e ns dp := by
 refine acall_body Tryz.func56 rfl (Nat.le_of_ble_eq_true rfl) ?_
 show AWp Tryz.prog _ ⟨25, [P], ⟨A ++ ⟨P, 85, [.sl l.length (l.flatMap encT), .val (.int .i64 ((k : Nat) : Int)), .val (.int .i64 ((b : Nat) : Int)), .val (.int .i64 ((e : Nat) : Int)), .val (.int .i64 ((ns : Nat) : Int)), .val (.int .i64 ((dp : Nat) : Int))]⟩ :: B, rw⟩, [(0, .c (.val (.pointer (some ⟨P, 0, none⟩)))), (1, .c (.val (.int .i64 (kk : Int))))]⟩ _
 refine go 6 ?_
 refine aw_region_drew [P] (by kernel_rfl) ?_
 refine tks [(0, true), (1, true), (2, true), (3, true)] 17 (by kernel_rfl) ?_
 refine go 5 ?_
 refine tq 4 (by kernel_rfl) rfl rfl rfl rfl (ay_cmp false rfl rfl rfl (eq_nat0 he0)) ?_
 refine tks [(5, true), (6, true), (7, true), (8, true), (9, true), (10, true), (11, true), (12, true), (13, true), (14, true), (15, true), (16, true), (17, true), (18, true), (19, true), (20, true)] 0 (by kernel_rfl) ?_
 refine go 17 ?_
 refine any_done (by kernel_rfl) ?_
 refine go 2 ?_
 exact ⟨.inr rfl, _, (RSt A B rw P l (k) (b) (e) (ns) (dp)), res_one rfl (resv_tmp rfl), subS_of (.refl _) (.refl _), rfl, rfl⟩
set_option maxRecDepth 100000 in
set_option maxHeartbeats 1600000 in
theorem kind_0 (A B : List Box) (rw : List ORow) (P : Nat) (l : List Tok) (k b ns dp kk : Nat) (hk : k < l.length) : ACall Tryz.prog 56 [.c (.val (.pointer (some ⟨P, 0, none⟩))), .c (.val (.int .i64 (kk : Int)))] [P] (RSt A B rw P l k b 0 ns dp) fun t s => t = .c (.val (.bool (decide (l[k].kind = kk)))) ∧ s = RSt A B rw P l k b 0 ns dp := by
 refine acall_body Tryz.func56 rfl (Nat.le_of_ble_eq_true rfl) ?_
 show AWp Tryz.prog _ ⟨25, [P], ⟨A ++ ⟨P, 85, [.sl l.length (l.flatMap encT), .val (.int .i64 ((k : Nat) : Int)), .val (.int .i64 ((b : Nat) : Int)), .val (.int .i64 ((0 : Nat) : Int)), .val (.int .i64 ((ns : Nat) : Int)), .val (.int .i64 ((dp : Nat) : Int))]⟩ :: B, rw⟩, [(0, .c (.val (.pointer (some ⟨P, 0, none⟩)))), (1, .c (.val (.int .i64 (kk : Int))))]⟩ _
 refine go 6 ?_
 refine aw_region_drew [P] (by kernel_rfl) ?_
 refine tks [(0, true), (1, true), (2, true), (3, true)] 17 (by kernel_rfl) ?_
 refine go 5 ?_
 refine tq 4 (by kernel_rfl) rfl rfl rfl rfl (ay_cmp true rfl rfl rfl (by rfl)) ?_
 refine tks [(5, true), (6, true), (7, true), (8, true), (9, true), (10, true), (11, true), (12, true), (13, true)] 7 (by kernel_rfl) ?_
 refine go 10 ?_
 refine tq 14 (by kernel_rfl) rfl rfl rfl rfl (ay_ix encT encT l encT_len (fun _ => rfl) (k) rfl rfl rfl rfl hk (by decide) Tryz.runUnderlying47 Tryz.sizeOf72) ?_
 refine tks [(15, true), (16, true), (17, true)] 3 (by kernel_rfl) ?_
 refine go 4 ?_
 refine tq 18 (by kernel_rfl) rfl rfl rfl rfl (ay_cmp (decide (l[k].kind = kk)) rfl rfl rfl cmp_nat) ?_
 refine tks [(19, true), (20, true)] 0 (by kernel_rfl) ?_
 refine go 3 ?_
 refine any_done (by kernel_rfl) ?_
 refine go 2 ?_
 exact ⟨.inr rfl, _, (RSt A B rw P l (k) (b) (0) (ns) (dp)), res_one rfl (resv_tmp rfl), subS_of (.refl _) (.refl _), rfl, rfl⟩
theorem kind_c (A B : List Box) (rw : List ORow) (P : Nat) (l : List Tok) (k b e ns dp : Nat) (kk : Nat) (hk : k < l.length) : ACall Tryz.prog 56 [.c (.val (.pointer (some ⟨P, 0, none⟩))), .c (.val (.int .i64 (kk : Int)))] [P] (RSt A B rw P l k b e ns dp) fun t s => t = .c (.val (.bool (decide (e = 0) && decide ((tokAt l k).kind = kk)))) ∧ s = RSt A B rw P l k b e ns dp := by
 rw [tokAt_lt hk]
 by_cases he : e = 0
 ·subst he; simpa using kind_0 A B rw P l k b ns dp kk hk
 ·simpa [he] using kind_s A B rw P l k b ns dp kk e hk he
set_option maxRecDepth 100000 in
set_option maxHeartbeats 1600000 in
theorem name_c (A B : List Box) (rw : List ORow) (P : Nat) (l : List Tok) (k b e ns dp : Nat) (hok : TOk l) (hk : k < l.length) (he : e < 16) : ACall Tryz.prog 62 [.c (.val (.pointer (some ⟨P, 0, none⟩)))] [P] (RSt A B rw P l k b e ns dp) fun t s => RAn A B rw P l ns dp (fun x => .c (.val (.string x))) e b (nameP l k) t s := by
 have hlen := hok.len
 refine acall_body Tryz.func62 rfl (Nat.le_of_ble_eq_true rfl) ?_
 show AWp Tryz.prog _ ⟨27, [P], ⟨A ++ ⟨P, 85, [.sl l.length (l.flatMap encT), .val (.int .i64 ((k : Nat) : Int)), .val (.int .i64 ((b : Nat) : Int)), .val (.int .i64 ((e : Nat) : Int)), .val (.int .i64 ((ns : Nat) : Int)), .val (.int .i64 ((dp : Nat) : Int))]⟩ :: B, rw⟩, [(0, .c (.val (.pointer (some ⟨P, 0, none⟩))))]⟩ _
 refine go 9 ?_
 refine wcP rfl rfl rfl rfl Tryz.call56 rfl (kind_c (A) _ _ _ l k b e ns dp 1 hk) (by simp) (by simp [Sto.bl]) ?_
 rintro t1 s1 ⟨rfl, rfl⟩
 refine wyy rfl rfl rfl (ay_not  rfl rfl) ?_
 refine go 2 ?_
 refine aw_cond rfl (fun hc2 => ?_) (fun hc2 => ?_)
 ·refine go 3 ?_
  refine wcP rfl rfl rfl rfl Tryz.call58 rfl (fail_c (A) _ _ _ l k b e ns dp 4) (by simp) (by simp [Sto.bl]) ?_
  rintro t3 s3 ⟨b3x, e3x, hf3, rfl, rfl⟩
  refine go 9 ?_
  exact ⟨.inr rfl, _, (RSt A B rw P l (k) (b3x) (e3x) (ns) (dp)), res_one rfl (resv_tmp rfl), subS_of (.refl _) (.refl _), ⟨emptyB, k, b3x, e3x, rfl, hf3.run (by decide) (fun h => by unfold nameP; rw [if_neg (fun h2 => by simp [h, h2] at hc2)]) _ _, hk, (hf3.small he (by decide)), rfl⟩⟩
 ·obtain ⟨rfl, ha⟩ : e = 0 ∧ (tokAt l k).kind = 1 := by simpa using hc2
  have hm := hok.last.more hk (by omega)
  refine go 8 ?_
  refine wyy rfl rfl rfl (ay_add rfl rfl rfl (by omega) (by omega)) ?_
  refine go 6 ?_
  refine aw_region_drew [P] (by kernel_rfl) ?_
  refine tks [(0, true), (1, true), (2, true), (3, true), (4, true), (5, true), (6, true), (7, true)] 5 (by kernel_rfl) ?_
  refine go 9 ?_
  refine tq 8 (by kernel_rfl) rfl rfl rfl rfl (ay_sub rfl rfl rfl (by omega) (by omega)) ?_
  refine tq 9 (by kernel_rfl) rfl rfl rfl rfl (ay_ix encT encT l encT_len (fun _ => rfl) k rfl rfl rfl (by omega) hk (by decide) Tryz.runUnderlying47 Tryz.sizeOf72) ?_
  refine tks [(10, true), (11, true), (12, true)] 0 (by kernel_rfl) ?_
  refine go 4 ?_
  refine any_done (by kernel_rfl) ?_
  refine go 2 ?_
  exact ⟨.inr rfl, _, (RSt A B rw P l (k + 1) (b) (0) (ns) (dp)), res_one rfl (resv_tmp rfl), subS_of (.refl _) (.refl _), ⟨_, k + 1, b, 0, rfl, .ok _ _ _ (by unfold nameP; rw [if_pos ha, tokAt_lt hk]), hm, by decide, rfl⟩⟩
end Go.Proofs.YtflcnehhpmjipaaGreatDoor
namespace Go.Proofs.YtflcnehhpmjipaaGreatDoor
open Go.RowKit
set_option synthInstance.maxHeartbeats 1000000
set_option synthInstance.maxSize 1000000
set_option linter.all false
theorem isd_s (A B : List Box) (rw : List ORow) (P : Nat) (l : List Tok) (k b e ns dp : Nat) (sg : List UInt8) (hr : reserved (bytes sg) = false) (hok : TOk l) (hk : k < l.length) : ACall Tryz.prog 57 [.c (.val (.pointer (some ⟨P, 0, none⟩))), .c (.val (.string (bytes sg)))] [P] (RSt A B rw P l k b e ns dp) fun t s => (e = 0 ∧ signAt l k sg = true ∧ t = .c (.val (.bool true)) ∧ s = RSt A B rw P l k b e ns dp) ∨ ((e = 0 → signAt l k sg = false) ∧ t = .c (.val (.bool false)) ∧ s = RSt A B rw P l k b e ns dp) := by
 refine (is_c A B rw P l k b e ns dp (bytes sg) hk).mono fun t s h => ?_
 rw [any_sign hok hk hr] at h
 by_cases he : e = 0
 ·cases hs : signAt l k sg with
  | true => exact .inl ⟨he, rfl, by rw [h.1, hs, he]; rfl, h.2⟩
  | false => exact .inr ⟨fun _ => rfl, by rw [h.1, hs, he]; rfl, h.2⟩
 ·exact .inr ⟨fun h0 => absurd h0 he, by rw [h.1, decide_eq_false he]; rfl, h.2⟩
theorem isd_w (A B : List Box) (rw : List ORow) (P : Nat) (l : List Tok) (k b e ns dp : Nat) (sg : List UInt8) (hr : reserved (bytes sg) = true) (hok : TOk l) (hk : k < l.length) : ACall Tryz.prog 57 [.c (.val (.pointer (some ⟨P, 0, none⟩))), .c (.val (.string (bytes sg)))] [P] (RSt A B rw P l k b e ns dp) fun t s => (e = 0 ∧ wordAt l k sg = true ∧ t = .c (.val (.bool true)) ∧ s = RSt A B rw P l k b e ns dp) ∨ ((e = 0 → wordAt l k sg = false) ∧ t = .c (.val (.bool false)) ∧ s = RSt A B rw P l k b e ns dp) := by
 refine (is_c A B rw P l k b e ns dp (bytes sg) hk).mono fun t s h => ?_
 rw [any_word hok hk hr] at h
 by_cases he : e = 0
 ·cases hs : wordAt l k sg with
  | true => exact .inl ⟨he, rfl, by rw [h.1, hs, he]; rfl, h.2⟩
  | false => exact .inr ⟨fun _ => rfl, by rw [h.1, hs, he]; rfl, h.2⟩
 ·exact .inr ⟨fun h0 => absurd h0 he, by rw [h.1, decide_eq_false he]; rfl, h.2⟩
theorem kindd (A B : List Box) (rw : List ORow) (P : Nat) (l : List Tok) (k b e ns dp : Nat) (kk : Nat) (hk : k < l.length) : ACall Tryz.prog 56 [.c (.val (.pointer (some ⟨P, 0, none⟩))), .c (.val (.int .i64 (kk : Int)))] [P] (RSt A B rw P l k b e ns dp) fun t s => (e = 0 ∧ (tokAt l k).kind = kk ∧ t = .c (.val (.bool true)) ∧ s = RSt A B rw P l k b e ns dp) ∨ ((e = 0 → (tokAt l k).kind ≠ kk) ∧ t = .c (.val (.bool false)) ∧ s = RSt A B rw P l k b e ns dp) := by
 refine (kind_c A B rw P l k b e ns dp kk hk).mono fun t s h => ?_
 by_cases he : e = 0
 ·by_cases hq : (tokAt l k).kind = kk
  ·exact .inl ⟨he, hq, by rw [h.1, decide_eq_true hq, he]; rfl, h.2⟩
  ·exact .inr ⟨fun _ => hq, by rw [h.1, decide_eq_false hq, he]; rfl, h.2⟩
 ·exact .inr ⟨fun h0 => absurd h0 he, by rw [h.1, decide_eq_false he]; rfl, h.2⟩
theorem negP_bind (op : Int) (r : PRes AExpr) : negP op r = r.bind fun x k => .ok (.mk op 0 emptyB [x]) k := by cases r <;> rfl
theorem parP_bind (l : List Tok) (r : PRes AExpr) : parP l r = r.bind fun x k => (wantP l [41] k).bind fun _ k => .ok x k := by
 cases r with
 | ok x k => show (if signAt l k [41] = true then _ else _) = _; unfold PRes.bind wantP; dsimp only; split <;> rfl
 | err a e => rfl
set_option maxRecDepth 100000 in
set_option maxHeartbeats 1600000 in
theorem enter_lt (A B : List Box) (rw : List ORow) (P : Nat) (l : List Tok) (k b e ns dp : Nat) (hns : ¬ ns = 24) (hn2 : ns ≤ 24) : ACall Tryz.prog 163 [.c (.val (.pointer (some ⟨P, 0, none⟩)))] [P] (RSt A B rw P l k b e ns dp) fun t s => t = .tup [] ∧ s = RSt A B rw P l k b e (ns + 1) dp := by
 refine acall_body Tryz.func163 rfl (Nat.le_of_ble_eq_true rfl) ?_
 show AWp Tryz.prog _ ⟨16, [P], ⟨A ++ ⟨P, 85, [.sl l.length (l.flatMap encT), .val (.int .i64 ((k : Nat) : Int)), .val (.int .i64 ((b : Nat) : Int)), .val (.int .i64 ((e : Nat) : Int)), .val (.int .i64 ((ns : Nat) : Int)), .val (.int .i64 ((dp : Nat) : Int))]⟩ :: B, rw⟩, [(0, .c (.val (.pointer (some ⟨P, 0, none⟩))))]⟩ _
 refine go 7 ?_
 refine wyy rfl rfl rfl (ay_cmp false rfl rfl rfl (by rw [show cmpR .eql ((ns : Nat) : Int) 24 = some (decide (ns = 24)) from cmp_nat (n := 24), decide_eq_false hns])) ?_
 refine go 10 ?_
 refine wyy rfl rfl rfl (ay_add rfl rfl rfl (by omega) (by omega)) ?_
 refine go 4 ?_
 exact ⟨.inl rfl, _, (RSt A B rw P l (k) (b) (e) (ns + 1) (dp)), res_none rfl, subS_of (.refl _) (.refl _), rfl, rfl⟩
set_option maxRecDepth 100000 in
set_option maxHeartbeats 1600000 in
theorem enter_24 (A B : List Box) (rw : List ORow) (P : Nat) (l : List Tok) (k b e dp : Nat)  : ACall Tryz.prog 163 [.c (.val (.pointer (some ⟨P, 0, none⟩)))] [P] (RSt A B rw P l k b e 24 dp) fun t s => ∃ b1 e1, FailOk e b k 3 b1 e1 ∧ t = .tup [] ∧ s = RSt A B rw P l k b1 e1 25 dp := by
 refine acall_body Tryz.func163 rfl (Nat.le_of_ble_eq_true rfl) ?_
 show AWp Tryz.prog _ ⟨16, [P], ⟨A ++ ⟨P, 85, [.sl l.length (l.flatMap encT), .val (.int .i64 ((k : Nat) : Int)), .val (.int .i64 ((b : Nat) : Int)), .val (.int .i64 ((e : Nat) : Int)), .val (.int .i64 ((24 : Nat) : Int)), .val (.int .i64 ((dp : Nat) : Int))]⟩ :: B, rw⟩, [(0, .c (.val (.pointer (some ⟨P, 0, none⟩))))]⟩ _
 refine go 7 ?_
 refine wyy rfl rfl rfl (ay_cmp true rfl rfl rfl (by rfl)) ?_
 refine go 5 ?_
 refine wcP rfl rfl rfl rfl Tryz.call58 rfl (fail_c (A) _ _ _ l k b e 24 dp 3) (by simp) (by simp [Sto.bl]) ?_
 rintro t2 s2 ⟨u2, e2, hf2, rfl, rfl⟩
 refine go 7 ?_
 refine wyy rfl rfl rfl (ay_add rfl rfl rfl (by omega) (by omega)) ?_
 refine go 4 ?_
 exact ⟨.inl rfl, _, (RSt A B rw P l (k) (u2) (e2) (25) (dp)), res_none rfl, subS_of (.refl _) (.refl _), ⟨u2, e2, hf2, rfl, rfl⟩⟩
set_option maxRecDepth 100000 in
set_option maxHeartbeats 1600000 in
theorem operand_0 (A B : List Box) (rw : List ORow) (P : Nat) (l : List Tok) (k b e dp : Nat) (hok : TOk l) (hk : k < l.length) (he : e < 16) : ACall Tryz.prog 142 [.c (.val (.pointer (some ⟨P, 0, none⟩)))] [P] (RSt A B rw P l k b e 24 dp) fun t s => RAn A B rw P l 24 dp (fun x => .agg (encE1 x)) e b (singleP l 0 k) t s := by
 have hlen := hok.len
 refine acall_body Tryz.func142 rfl (Nat.le_of_ble_eq_true rfl) ?_
 show AWp Tryz.prog _ ⟨100, [P], ⟨A ++ ⟨P, 85, [.sl l.length (l.flatMap encT), .val (.int .i64 ((k : Nat) : Int)), .val (.int .i64 ((b : Nat) : Int)), .val (.int .i64 ((e : Nat) : Int)), .val (.int .i64 ((24 : Nat) : Int)), .val (.int .i64 ((dp : Nat) : Int))]⟩ :: B, rw⟩, [(0, .c (.val (.pointer (some ⟨P, 0, none⟩))))]⟩ _
 refine go 17 fun b1 b2 => ?_
 refine wcP rfl rfl rfl rfl Tryz.call56 rfl (kindd (_ :: _ :: A) _ _ _ l k b e 24 dp 2 hk) (by simp) (by simp [Sto.bl]) ?_
 rintro t1 s1 (⟨rfl, ha1, rfl, rfl⟩ | ⟨ha1, rfl, rfl⟩)
 ·refine go 5 ?_
  refine aw_region_drew [b1, P] (by kernel_rfl) ?_
  refine tks [(0, true), (1, true), (2, true), (3, true), (4, true), (5, true), (6, true), (7, true)] 5 (by kernel_rfl) ?_
  refine go 9 ?_
  refine tq 8 (by kernel_rfl) rfl rfl rfl rfl (ay_ix encT encT l encT_len (fun _ => rfl) (k) rfl rfl rfl rfl hk (by decide) Tryz.runUnderlying47 Tryz.sizeOf72) ?_
  refine tks [(9, true), (10, true), (11, true), (12, false)] 0 (by kernel_rfl) ?_
  refine go 5 ?_
  refine any_done (by kernel_rfl) ?_
  refine go 6 ?_
  refine wyy rfl rfl rfl (ay_add rfl rfl rfl (by omega) (by omega)) ?_
  refine go 13 ?_
  have hm := hok.last.more hk (by rw [ha1]; decide)
  exact ⟨.inr rfl, _, (RSt A B rw P l (k + 1) (b) (0) (24) (dp)), (res_wk (Wk.agg (.cons (WkC.refl _) (.cons (WkC.refl _) (.cons (WkC.refl _) (.cons wk_nil .nil))))) (res_one rfl (resv_cell [_] rfl rfl Tryz.isAgg88 Tryz.sizeOf88 (pk_all rfl rfl)))), subS_of (.cons _ (.cons _ (.refl _))) (.refl _), ⟨(.mk 1 (l[k].num : Int) emptyB []), k + 1, b, 0, rfl, .ok _ _ _ (by unfold singleP; rw [if_pos ha1, tokAt_lt hk]), hm, (by decide), rfl⟩⟩
 ·refine go 7 ?_
  refine wcP rfl rfl rfl rfl Tryz.call56 rfl (kindd (_ :: _ :: A) _ _ _ l k b e 24 dp 1 hk) (by simp) (by simp [Sto.bl]) ?_
  rintro t4 s4 (⟨rfl, ha4, rfl, rfl⟩ | ⟨ha4, rfl, rfl⟩)
  ·refine go 6 ?_
   refine wcP rfl rfl rfl rfl Tryz.call62 rfl (name_c (_ :: _ :: A) _ _ _ l k b 0 24 dp hok hk (by decide)) (by simp) (by simp [Sto.bl]) ?_
   rintro t6 s6 ⟨x6, k6, u6, e6, rfl, hr6, hk6, he6, rfl⟩
   refine go 12 ?_
   exact ⟨.inr rfl, _, (RSt A B rw P l (k6) (u6) (e6) (24) (dp)), (res_wk (Wk.agg (.cons (WkC.refl _) (.cons (WkC.refl _) (.cons (WkC.refl _) (.cons wk_nil .nil))))) (res_one rfl (resv_cell [_] rfl rfl Tryz.isAgg88 Tryz.sizeOf88 (pk_all rfl rfl)))), subS_of (.cons _ (.cons _ (.refl _))) (.refl _), ⟨(.mk 2 0 x6 []), k6, u6, e6, rfl, (hr6.map (f := fun n => AExpr.mk 2 0 n [])).eq (fun _ => by unfold singleP nameP; rw [if_neg (ha1 rfl), if_pos ha4, if_pos ha4]; rfl), hk6, he6, rfl⟩⟩
  ·refine go 7 ?_
   refine wcP rfl rfl rfl rfl Tryz.call57 rfl (isd_s (_ :: _ :: A) _ _ _ l k b e 24 dp [45] (by decide) hok hk) (by simp) (by simp [Sto.bl]) ?_
   rintro t8 s8 (⟨rfl, ha8, rfl, rfl⟩ | ⟨ha8, rfl, rfl⟩)
   ·refine go 18 ?_
    refine wcP rfl rfl rfl rfl Tryz.call57 rfl (isd_s (_ :: _ :: A) _ _ _ l k b 0 24 dp [45] (by decide) hok hk) (by simp) (by simp [Sto.bl]) ?_
    rintro t10 s10 (⟨-, ha10, rfl, rfl⟩ | ⟨ha10, rfl, rfl⟩)
    ·refine go 11 ?_
     refine wcP rfl rfl rfl rfl Tryz.call163 rfl (enter_24 (_ :: _ :: A) _ _ _ l k b 0 dp) (by simp) (by simp [Sto.bl]) ?_
     rintro t12 s12 ⟨u12, e12, hf12, rfl, rfl⟩
     obtain ⟨rfl, rfl⟩ := hf12.1 rfl
     refine go 9 ?_
     refine wyy rfl rfl rfl (ay_cmp false rfl rfl rfl rfl) ?_
     refine go 10 ?_
     refine wyy rfl rfl rfl (ay_subR ((24 : Nat) : Int) rfl rfl rfl rfl (by omega) (by omega)) ?_
     refine go 13 ?_
     exact ⟨.inr rfl, _, (RSt A B rw P l (k) (k) (3) (24) (dp)), (res_wk (Wk.agg (.cons (WkC.refl _) (.cons (WkC.refl _) (.cons (WkC.refl _) (.cons wk_nil .nil))))) (res_one rfl (resv_cell [_] rfl rfl Tryz.isAgg88 Tryz.sizeOf88 (pk_all rfl rfl)))), subS_of (.cons _ (.cons _ (.refl _))) (.refl _), ⟨(.mk 3 0 emptyB []), k, k, 3, rfl, .err _ _ _ _ _ (by unfold singleP; rw [if_neg (ha1 rfl), if_neg (ha4 rfl), if_pos (by simp [ha8])]) (by decide), hk, (by decide), rfl⟩⟩
    ·exact absurd (ha10 rfl) (by rw [ha8]; decide)
   ·refine go 2 ?_
    refine wcP rfl rfl rfl rfl Tryz.call57 rfl (isd_s (_ :: _ :: A) _ _ _ l k b e 24 dp [33] (by decide) hok hk) (by simp) (by simp [Sto.bl]) ?_
    rintro t14 s14 (⟨rfl, ha14, rfl, rfl⟩ | ⟨ha14, rfl, rfl⟩)
    ·refine go 15 ?_
     refine wcP rfl rfl rfl rfl Tryz.call57 rfl (isd_s (_ :: _ :: A) _ _ _ l k b 0 24 dp [45] (by decide) hok hk) (by simp) (by simp [Sto.bl]) ?_
     rintro t16 s16 (⟨-, ha16, rfl, rfl⟩ | ⟨ha16, rfl, rfl⟩)
     ·exact absurd ha16 (by rw [(ha8 rfl)]; decide)
     ·refine go 8 ?_
      refine wcP rfl rfl rfl rfl Tryz.call163 rfl (enter_24 (_ :: _ :: A) _ _ _ l k b 0 dp) (by simp) (by simp [Sto.bl]) ?_
      rintro t18 s18 ⟨u18, e18, hf18, rfl, rfl⟩
      obtain ⟨rfl, rfl⟩ := hf18.1 rfl
      refine go 9 ?_
      refine wyy rfl rfl rfl (ay_cmp false rfl rfl rfl rfl) ?_
      refine go 10 ?_
      refine wyy rfl rfl rfl (ay_subR ((24 : Nat) : Int) rfl rfl rfl rfl (by omega) (by omega)) ?_
      refine go 13 ?_
      exact ⟨.inr rfl, _, (RSt A B rw P l (k) (k) (3) (24) (dp)), (res_wk (Wk.agg (.cons (WkC.refl _) (.cons (WkC.refl _) (.cons (WkC.refl _) (.cons wk_nil .nil))))) (res_one rfl (resv_cell [_] rfl rfl Tryz.isAgg88 Tryz.sizeOf88 (pk_all rfl rfl)))), subS_of (.cons _ (.cons _ (.refl _))) (.refl _), ⟨(.mk 4 0 emptyB []), k, k, 3, rfl, .err _ _ _ _ _ (by unfold singleP; rw [if_neg (ha1 rfl), if_neg (ha4 rfl), if_pos (by simp [ha14])]) (by decide), hk, (by decide), rfl⟩⟩
    ·refine go 8 ?_
     refine wcP rfl rfl rfl rfl Tryz.call57 rfl (isd_s (_ :: _ :: A) _ _ _ l k b e 24 dp [40] (by decide) hok hk) (by simp) (by simp [Sto.bl]) ?_
     rintro t21 s21 (⟨rfl, ha21, rfl, rfl⟩ | ⟨ha21, rfl, rfl⟩)
     ·refine go 7 ?_
      refine wcP rfl rfl rfl rfl Tryz.call163 rfl (enter_24 (_ :: _ :: A) _ _ _ l k b 0 dp) (by simp) (by simp [Sto.bl]) ?_
      rintro t23 s23 ⟨u23, e23, hf23, rfl, rfl⟩
      obtain ⟨rfl, rfl⟩ := hf23.1 rfl
      refine go 9 ?_
      refine wyy rfl rfl rfl (ay_cmp false rfl rfl rfl rfl) ?_
      refine go 10 ?_
      refine wyy rfl rfl rfl (ay_subR ((24 : Nat) : Int) rfl rfl rfl rfl (by omega) (by omega)) ?_
      refine go 13 ?_
      exact ⟨.inr rfl, _, (RSt A B rw P l (k) (k) (3) (24) (dp)), (res_wk (Wk.agg (.cons (WkC.refl _) (.cons (WkC.refl _) (.cons (WkC.refl _) (.cons wk_nil .nil))))) (res_one rfl (resv_cell [_] rfl rfl Tryz.isAgg88 Tryz.sizeOf88 (pk_all rfl rfl)))), subS_of (.cons _ (.cons _ (.refl _))) (.refl _), ⟨AExpr.zero, k, k, 3, rfl, .err _ _ _ _ _ (by unfold singleP; rw [if_neg (ha1 rfl), if_neg (ha4 rfl), if_pos (by simp [ha21])]) (by decide), hk, (by decide), rfl⟩⟩
     ·refine go 6 ?_
      refine wcP rfl rfl rfl rfl Tryz.call58 rfl (fail_c (_ :: _ :: A) _ _ _ l k b e 24 dp 4) (by simp) (by simp [Sto.bl]) ?_
      rintro t26 s26 ⟨u26, e26, hf26, rfl, rfl⟩
      refine go 10 ?_
      exact ⟨.inr rfl, _, (RSt A B rw P l (k) (u26) (e26) (24) (dp)), (res_wk (Wk.agg (.cons (WkC.refl _) (.cons (WkC.refl _) (.cons (WkC.refl _) (.cons wk_nil .nil))))) (res_one rfl (resv_cell [_] rfl rfl Tryz.isAgg88 Tryz.sizeOf88 (pk_all rfl rfl)))), subS_of (.cons _ (.cons _ (.refl _))) (.refl _), ⟨AExpr.zero, k, u26, e26, rfl, hf26.run (by decide) (fun h => by unfold singleP; rw [if_neg (ha1 h), if_neg (ha4 h), if_neg (by rw [ha8 h, ha14 h, ha21 h]; decide)]) _ _, hk, (hf26.small he (by decide)), rfl⟩⟩
set_option maxRecDepth 100000 in
set_option maxHeartbeats 1600000 in
theorem operand_s (A B : List Box) (rw : List ORow) (P : Nat) (l : List Tok) (k b e ns dp : Nat) (d : Nat) (hns : ns + (d + 1) = 24) (hok : TOk l) (hk : k < l.length) (he : e < 16) (iho : ∀ (A B : List Box) (rw : List ORow) (P k b e ns dp : Nat), ns + d = 24 → k < l.length → e < 16 → ACall Tryz.prog 142 [.c (.val (.pointer (some ⟨P, 0, none⟩)))] [P] (RSt A B rw P l k b e ns dp) (RAn A B rw P l ns dp (fun x => .agg (encE1 x)) e b (singleP l d k))) (ihb : ∀ (A B : List Box) (rw : List ORow) (P k b e ns dp : Nat), ns + d = 24 → k < l.length → e < 16 → ACall Tryz.prog 108 [.c (.val (.pointer (some ⟨P, 0, none⟩))), .c (.val (.int .i64 0))] [P] (RSt A B rw P l k b e ns dp) (RAn A B rw P l ns dp (fun x => .agg (encE1 x)) e b (binP l (singleP l d) 5 k))) : ACall Tryz.prog 142 [.c (.val (.pointer (some ⟨P, 0, none⟩)))] [P] (RSt A B rw P l k b e ns dp) fun t s => RAn A B rw P l ns dp (fun x => .agg (encE1 x)) e b (singleP l (d + 1) k) t s := by
 have hlen := hok.len
 refine acall_body Tryz.func142 rfl (Nat.le_of_ble_eq_true rfl) ?_
 show AWp Tryz.prog _ ⟨100, [P], ⟨A ++ ⟨P, 85, [.sl l.length (l.flatMap encT), .val (.int .i64 ((k : Nat) : Int)), .val (.int .i64 ((b : Nat) : Int)), .val (.int .i64 ((e : Nat) : Int)), .val (.int .i64 ((ns : Nat) : Int)), .val (.int .i64 ((dp : Nat) : Int))]⟩ :: B, rw⟩, [(0, .c (.val (.pointer (some ⟨P, 0, none⟩))))]⟩ _
 refine go 17 fun b1 b2 => ?_
 refine wcP rfl rfl rfl rfl Tryz.call56 rfl (kindd (_ :: _ :: A) _ _ _ l k b e ns dp 2 hk) (by simp) (by simp [Sto.bl]) ?_
 rintro t1 s1 (⟨rfl, ha1, rfl, rfl⟩ | ⟨ha1, rfl, rfl⟩)
 ·refine go 5 ?_
  refine aw_region_drew [b1, P] (by kernel_rfl) ?_
  refine tks [(0, true), (1, true), (2, true), (3, true), (4, true), (5, true), (6, true), (7, true)] 5 (by kernel_rfl) ?_
  refine go 9 ?_
  refine tq 8 (by kernel_rfl) rfl rfl rfl rfl (ay_ix encT encT l encT_len (fun _ => rfl) (k) rfl rfl rfl rfl hk (by decide) Tryz.runUnderlying47 Tryz.sizeOf72) ?_
  refine tks [(9, true), (10, true), (11, true), (12, false)] 0 (by kernel_rfl) ?_
  refine go 5 ?_
  refine any_done (by kernel_rfl) ?_
  refine go 6 ?_
  refine wyy rfl rfl rfl (ay_add rfl rfl rfl (by omega) (by omega)) ?_
  refine go 13 ?_
  have hm := hok.last.more hk (by rw [ha1]; decide)
  exact ⟨.inr rfl, _, (RSt A B rw P l (k + 1) (b) (0) (ns) (dp)), (res_wk (Wk.agg (.cons (WkC.refl _) (.cons (WkC.refl _) (.cons (WkC.refl _) (.cons wk_nil .nil))))) (res_one rfl (resv_cell [_] rfl rfl Tryz.isAgg88 Tryz.sizeOf88 (pk_all rfl rfl)))), subS_of (.cons _ (.cons _ (.refl _))) (.refl _), ⟨(.mk 1 (l[k].num : Int) emptyB []), k + 1, b, 0, rfl, .ok _ _ _ (by unfold singleP; rw [if_pos ha1, tokAt_lt hk]), hm, (by decide), rfl⟩⟩
 ·refine go 7 ?_
  refine wcP rfl rfl rfl rfl Tryz.call56 rfl (kindd (_ :: _ :: A) _ _ _ l k b e ns dp 1 hk) (by simp) (by simp [Sto.bl]) ?_
  rintro t4 s4 (⟨rfl, ha4, rfl, rfl⟩ | ⟨ha4, rfl, rfl⟩)
  ·refine go 6 ?_
   refine wcP rfl rfl rfl rfl Tryz.call62 rfl (name_c (_ :: _ :: A) _ _ _ l k b 0 ns dp hok hk (by decide)) (by simp) (by simp [Sto.bl]) ?_
   rintro t6 s6 ⟨x6, k6, u6, e6, rfl, hr6, hk6, he6, rfl⟩
   refine go 12 ?_
   exact ⟨.inr rfl, _, (RSt A B rw P l (k6) (u6) (e6) (ns) (dp)), (res_wk (Wk.agg (.cons (WkC.refl _) (.cons (WkC.refl _) (.cons (WkC.refl _) (.cons wk_nil .nil))))) (res_one rfl (resv_cell [_] rfl rfl Tryz.isAgg88 Tryz.sizeOf88 (pk_all rfl rfl)))), subS_of (.cons _ (.cons _ (.refl _))) (.refl _), ⟨(.mk 2 0 x6 []), k6, u6, e6, rfl, (hr6.map (f := fun n => AExpr.mk 2 0 n [])).eq (fun _ => by unfold singleP nameP; rw [if_neg (ha1 rfl), if_pos ha4, if_pos ha4]; rfl), hk6, he6, rfl⟩⟩
  ·refine go 7 ?_
   refine wcP rfl rfl rfl rfl Tryz.call57 rfl (isd_s (_ :: _ :: A) _ _ _ l k b e ns dp [45] (by decide) hok hk) (by simp) (by simp [Sto.bl]) ?_
   rintro t8 s8 (⟨rfl, ha8, rfl, rfl⟩ | ⟨ha8, rfl, rfl⟩)
   ·refine go 18 ?_
    refine wcP rfl rfl rfl rfl Tryz.call57 rfl (isd_s (_ :: _ :: A) _ _ _ l k b 0 ns dp [45] (by decide) hok hk) (by simp) (by simp [Sto.bl]) ?_
    rintro t10 s10 (⟨-, ha10, rfl, rfl⟩ | ⟨ha10, rfl, rfl⟩)
    ·refine go 11 ?_
     refine wcP rfl rfl rfl rfl Tryz.call163 rfl (enter_lt (_ :: _ :: A) _ _ _ l k b 0 ns dp (by omega) (by omega)) (by simp) (by simp [Sto.bl]) ?_
     rintro t12 s12 ⟨rfl, rfl⟩
     refine go 9 ?_
     refine wyy rfl rfl rfl (ay_cmp true rfl rfl rfl (by simp [cmpR])) ?_
     refine go 5 ?_
     have hm := sign_more hok.last hk ha10
     refine go 4 ?_
     refine wyy rfl rfl rfl (ay_add rfl rfl rfl (by omega) (by omega)) ?_
     refine go 7 ?_
     refine wcP rfl rfl rfl rfl Tryz.call142 rfl (iho (_ :: _ :: A) _ _ _ (k + 1) b 0 (ns + 1) dp (by omega) hm (by decide)) (by simp) (by simp [Sto.bl]) ?_
     rintro t14 s14 ⟨x14, k14, u14, e14, rfl, hr14, hk14, he14, rfl⟩
     refine wo rfl (wbs Tryz.t88 [.val (.int .i64 0), .val (.int .i64 0), .val (.string ⟨#[]⟩), .val (.slice none 0 0)] rfl rfl (by decide) (.cons rfl .nil) Tryz.underlying86 (by kernel_rfl) rfl (by decide) (by decide) (by kernel_rfl) (by kernel_rfl) (fill_one encE encE1 x14 (encE_one _) rfl rfl) ?_)
     refine go 9 ?_
     refine wyy rfl rfl rfl (ay_subR ((ns : Nat) : Int) rfl rfl rfl (by omega) (by omega) (by omega)) ?_
     refine go 13 ?_
     exact ⟨.inr rfl, _, (RSt A B rw P l (k14) (u14) (e14) (ns) (dp)), (res_one rfl (resv_cell [_] rfl rfl Tryz.isAgg88 Tryz.sizeOf88 (pk_all rfl rfl))), subS_of (.cons _ (.cons _ (.refl _))) (.refl _), ⟨(.mk 3 0 emptyB [x14]), k14, u14, e14, rfl, (hr14.map (f := fun x => AExpr.mk 3 0 emptyB [x])).eq (fun _ => by rw [singleP.eq_2, if_neg (ha1 rfl), if_neg (ha4 rfl), if_pos ha8, negP_bind]), hk14, he14, rfl⟩⟩
    ·exact absurd (ha10 rfl) (by rw [ha8]; decide)
   ·refine go 2 ?_
    refine wcP rfl rfl rfl rfl Tryz.call57 rfl (isd_s (_ :: _ :: A) _ _ _ l k b e ns dp [33] (by decide) hok hk) (by simp) (by simp [Sto.bl]) ?_
    rintro t15 s15 (⟨rfl, ha15, rfl, rfl⟩ | ⟨ha15, rfl, rfl⟩)
    ·refine go 15 ?_
     refine wcP rfl rfl rfl rfl Tryz.call57 rfl (isd_s (_ :: _ :: A) _ _ _ l k b 0 ns dp [45] (by decide) hok hk) (by simp) (by simp [Sto.bl]) ?_
     rintro t17 s17 (⟨-, ha17, rfl, rfl⟩ | ⟨ha17, rfl, rfl⟩)
     ·exact absurd ha17 (by rw [(ha8 rfl)]; decide)
     ·refine go 8 ?_
      refine wcP rfl rfl rfl rfl Tryz.call163 rfl (enter_lt (_ :: _ :: A) _ _ _ l k b 0 ns dp (by omega) (by omega)) (by simp) (by simp [Sto.bl]) ?_
      rintro t19 s19 ⟨rfl, rfl⟩
      refine go 9 ?_
      refine wyy rfl rfl rfl (ay_cmp true rfl rfl rfl (by simp [cmpR])) ?_
      refine go 5 ?_
      have hm := sign_more hok.last hk ha15
      refine go 4 ?_
      refine wyy rfl rfl rfl (ay_add rfl rfl rfl (by omega) (by omega)) ?_
      refine go 7 ?_
      refine wcP rfl rfl rfl rfl Tryz.call142 rfl (iho (_ :: _ :: A) _ _ _ (k + 1) b 0 (ns + 1) dp (by omega) hm (by decide)) (by simp) (by simp [Sto.bl]) ?_
      rintro t21 s21 ⟨x21, k21, u21, e21, rfl, hr21, hk21, he21, rfl⟩
      refine wo rfl (wbs Tryz.t88 [.val (.int .i64 0), .val (.int .i64 0), .val (.string ⟨#[]⟩), .val (.slice none 0 0)] rfl rfl (by decide) (.cons rfl .nil) Tryz.underlying86 (by kernel_rfl) rfl (by decide) (by decide) (by kernel_rfl) (by kernel_rfl) (fill_one encE encE1 x21 (encE_one _) rfl rfl) ?_)
      refine go 9 ?_
      refine wyy rfl rfl rfl (ay_subR ((ns : Nat) : Int) rfl rfl rfl (by omega) (by omega) (by omega)) ?_
      refine go 13 ?_
      exact ⟨.inr rfl, _, (RSt A B rw P l (k21) (u21) (e21) (ns) (dp)), (res_one rfl (resv_cell [_] rfl rfl Tryz.isAgg88 Tryz.sizeOf88 (pk_all rfl rfl))), subS_of (.cons _ (.cons _ (.refl _))) (.refl _), ⟨(.mk 4 0 emptyB [x21]), k21, u21, e21, rfl, (hr21.map (f := fun x => AExpr.mk 4 0 emptyB [x])).eq (fun _ => by rw [singleP.eq_2, if_neg (ha1 rfl), if_neg (ha4 rfl), if_neg (by rw [ha17 rfl]; decide), if_pos ha15, negP_bind]), hk21, he21, rfl⟩⟩
    ·refine go 8 ?_
     refine wcP rfl rfl rfl rfl Tryz.call57 rfl (isd_s (_ :: _ :: A) _ _ _ l k b e ns dp [40] (by decide) hok hk) (by simp) (by simp [Sto.bl]) ?_
     rintro t23 s23 (⟨rfl, ha23, rfl, rfl⟩ | ⟨ha23, rfl, rfl⟩)
     ·refine go 7 ?_
      refine wcP rfl rfl rfl rfl Tryz.call163 rfl (enter_lt (_ :: _ :: A) _ _ _ l k b 0 ns dp (by omega) (by omega)) (by simp) (by simp [Sto.bl]) ?_
      rintro t25 s25 ⟨rfl, rfl⟩
      refine go 9 ?_
      refine wyy rfl rfl rfl (ay_cmp true rfl rfl rfl (by simp [cmpR])) ?_
      refine go 5 ?_
      have hm := sign_more hok.last hk ha23
      refine go 4 ?_
      refine wyy rfl rfl rfl (ay_add rfl rfl rfl (by omega) (by omega)) ?_
      refine go 8 ?_
      refine wcP rfl rfl rfl rfl Tryz.call108 rfl (ihb (_ :: _ :: A) _ _ _ (k + 1) b 0 (ns + 1) dp (by omega) hm (by decide)) (by simp) (by simp [Sto.bl]) ?_
      rintro t27 s27 ⟨x27, k27, u27, e27, rfl, hr27, hk27, he27, rfl⟩
      refine go 5 ?_
      refine wcP rfl rfl rfl rfl Tryz.call76 rfl (must_c (_ :: _ :: A) _ _ _ l k27 u27 e27 (ns + 1) dp [41] (by decide) hok hk27 he27) (by simp) (by simp [Sto.bl]) ?_
      rintro t28 s28 ⟨x28, k28, u28, e28, rfl, hr28, hk28, he28, rfl⟩
      refine go 7 ?_
      refine wyy rfl rfl rfl (ay_subR ((ns : Nat) : Int) rfl rfl rfl (by omega) (by omega) (by omega)) ?_
      refine go 13 ?_
      exact ⟨.inr rfl, _, (RSt A B rw P l (k28) (u28) (e28) (ns) (dp)), (res_one rfl (resv_cell [_] rfl rfl Tryz.isAgg88 Tryz.sizeOf88 (pk_all rfl rfl))), subS_of (.cons _ (.cons _ (.refl _))) (.refl _), ⟨x27, k28, u28, e28, rfl, (hr27.bind (f := fun x k => (wantP l [41] k).bind fun _ k => .ok x k) (hr28.map (f := fun _ => x27))).eq (fun _ => by rw [singleP.eq_2, if_neg (ha1 rfl), if_neg (ha4 rfl), if_neg (by rw [ha8 rfl]; decide), if_neg (by rw [ha15 rfl]; decide), if_pos ha23, parP_bind]), hk28, he28, rfl⟩⟩
     ·refine go 6 ?_
      refine wcP rfl rfl rfl rfl Tryz.call58 rfl (fail_c (_ :: _ :: A) _ _ _ l k b e ns dp 4) (by simp) (by simp [Sto.bl]) ?_
      rintro t30 s30 ⟨u30, e30, hf30, rfl, rfl⟩
      refine go 10 ?_
      exact ⟨.inr rfl, _, (RSt A B rw P l (k) (u30) (e30) (ns) (dp)), (res_wk (Wk.agg (.cons (WkC.refl _) (.cons (WkC.refl _) (.cons (WkC.refl _) (.cons wk_nil .nil))))) (res_one rfl (resv_cell [_] rfl rfl Tryz.isAgg88 Tryz.sizeOf88 (pk_all rfl rfl)))), subS_of (.cons _ (.cons _ (.refl _))) (.refl _), ⟨AExpr.zero, k, u30, e30, rfl, hf30.run (by decide) (fun h => by unfold singleP; rw [if_neg (ha1 h), if_neg (ha4 h), if_neg (by rw [ha8 h]; decide), if_neg (by rw [ha15 h]; decide), if_neg (by rw [ha23 h]; decide)]) _ _, hk, (hf30.small he (by decide)), rfl⟩⟩
end Go.Proofs.YtflcnehhpmjipaaGreatDoor
namespace Go.Proofs.YtflcnehhpmjipaaGreatDoor
open Go.RowKit
set_option synthInstance.maxHeartbeats 1000000
set_option synthInstance.maxSize 1000000
set_option linter.all false
abbrev strL (l : List ByteArray) : AC := .sl l.length (l.map fun s => .val (.string s))
abbrev intL (l : List Int) : AC := .sl l.length (l.map fun n => .val (.int .i64 n))
set_option maxRecDepth 100000 in
set_option maxHeartbeats 1600000 in
theorem signs_0 (s : Sto) : ACall Tryz.prog 143 [.c (.val (.int .i64 ((0 : Nat) : Int)))] [] s fun t s' => t = .tup [.c (strL (signsS 0)), .c (intL (signsO 0))] ∧ s' = s := by
 obtain ⟨bx, rw⟩ := s
 refine acall_body Tryz.func143 rfl (Nat.le_of_ble_eq_true rfl) ?_
 show AWp Tryz.prog _ ⟨23, _, ⟨bx, rw⟩, [(0, .c (.val (.int .i64 ((0 : Nat) : Int))))]⟩ _
 refine go 15 ?_
 refine wyy rfl rfl rfl (ay_cmp true rfl rfl rfl (by simp [cmpR])) ?_
 refine go 6 ?_
 refine wo rfl (wbs Tryz.t9 [.val (.string ⟨#[]⟩)] rfl rfl (by decide) (.cons rfl .nil) Tryz.underlying26 (by kernel_rfl) rfl (by decide) (by decide) (by kernel_rfl) (by kernel_rfl) rfl ?_)
 refine wo rfl (wbs Tryz.t3 [.val (.int .i64 0)] rfl rfl (by decide) (.cons rfl .nil) Tryz.underlying22 (by kernel_rfl) rfl (by decide) (by decide) (by kernel_rfl) (by kernel_rfl) rfl ?_)
 refine go 7 ?_
 exact ⟨.inr rfl, _, ⟨bx, rw⟩, res_two rfl (resv_tmp rfl) (resv_tmp rfl), subS_of (.refl _) (.refl _), rfl, rfl⟩
set_option maxRecDepth 100000 in
set_option maxHeartbeats 1600000 in
theorem signs_1 (s : Sto) : ACall Tryz.prog 143 [.c (.val (.int .i64 ((1 : Nat) : Int)))] [] s fun t s' => t = .tup [.c (strL (signsS 1)), .c (intL (signsO 1))] ∧ s' = s := by
 obtain ⟨bx, rw⟩ := s
 refine acall_body Tryz.func143 rfl (Nat.le_of_ble_eq_true rfl) ?_
 show AWp Tryz.prog _ ⟨23, _, ⟨bx, rw⟩, [(0, .c (.val (.int .i64 ((1 : Nat) : Int))))]⟩ _
 refine go 15 ?_
 refine wyy rfl rfl rfl (ay_cmp false rfl rfl rfl rfl) ?_
 refine go 6 ?_
 refine wyy rfl rfl rfl (ay_cmp true rfl rfl rfl (by simp [cmpR])) ?_
 refine go 6 ?_
 refine wo rfl (wbs Tryz.t9 [.val (.string ⟨#[]⟩)] rfl rfl (by decide) (.cons rfl .nil) Tryz.underlying26 (by kernel_rfl) rfl (by decide) (by decide) (by kernel_rfl) (by kernel_rfl) rfl ?_)
 refine wo rfl (wbs Tryz.t3 [.val (.int .i64 0)] rfl rfl (by decide) (.cons rfl .nil) Tryz.underlying22 (by kernel_rfl) rfl (by decide) (by decide) (by kernel_rfl) (by kernel_rfl) rfl ?_)
 refine go 7 ?_
 exact ⟨.inr rfl, _, ⟨bx, rw⟩, res_two rfl (resv_tmp rfl) (resv_tmp rfl), subS_of (.refl _) (.refl _), rfl, rfl⟩
set_option maxRecDepth 100000 in
set_option maxHeartbeats 1600000 in
theorem signs_2 (s : Sto) : ACall Tryz.prog 143 [.c (.val (.int .i64 ((2 : Nat) : Int)))] [] s fun t s' => t = .tup [.c (strL (signsS 2)), .c (intL (signsO 2))] ∧ s' = s := by
 obtain ⟨bx, rw⟩ := s
 refine acall_body Tryz.func143 rfl (Nat.le_of_ble_eq_true rfl) ?_
 show AWp Tryz.prog _ ⟨23, _, ⟨bx, rw⟩, [(0, .c (.val (.int .i64 ((2 : Nat) : Int))))]⟩ _
 refine go 15 ?_
 refine wyy rfl rfl rfl (ay_cmp false rfl rfl rfl rfl) ?_
 refine go 6 ?_
 refine wyy rfl rfl rfl (ay_cmp false rfl rfl rfl rfl) ?_
 refine go 6 ?_
 refine wyy rfl rfl rfl (ay_cmp true rfl rfl rfl (by simp [cmpR])) ?_
 refine go 6 ?_
 refine wo rfl (wbs Tryz.t9 [.val (.string ⟨#[]⟩), .val (.string ⟨#[]⟩), .val (.string ⟨#[]⟩), .val (.string ⟨#[]⟩), .val (.string ⟨#[]⟩), .val (.string ⟨#[]⟩)] rfl rfl (by decide) (.cons rfl (.cons rfl (.cons rfl (.cons rfl (.cons rfl (.cons rfl .nil)))))) Tryz.underlying26 (by kernel_rfl) rfl (by decide) (by decide) (by kernel_rfl) (by kernel_rfl) rfl ?_)
 refine wo rfl (wbs Tryz.t3 [.val (.int .i64 0), .val (.int .i64 0), .val (.int .i64 0), .val (.int .i64 0), .val (.int .i64 0), .val (.int .i64 0)] rfl rfl (by decide) (.cons rfl (.cons rfl (.cons rfl (.cons rfl (.cons rfl (.cons rfl .nil)))))) Tryz.underlying22 (by kernel_rfl) rfl (by decide) (by decide) (by kernel_rfl) (by kernel_rfl) rfl ?_)
 refine go 7 ?_
 exact ⟨.inr rfl, _, ⟨bx, rw⟩, res_two rfl (resv_tmp rfl) (resv_tmp rfl), subS_of (.refl _) (.refl _), rfl, rfl⟩
set_option maxRecDepth 100000 in
set_option maxHeartbeats 1600000 in
theorem signs_3 (s : Sto) : ACall Tryz.prog 143 [.c (.val (.int .i64 ((3 : Nat) : Int)))] [] s fun t s' => t = .tup [.c (strL (signsS 3)), .c (intL (signsO 3))] ∧ s' = s := by
 obtain ⟨bx, rw⟩ := s
 refine acall_body Tryz.func143 rfl (Nat.le_of_ble_eq_true rfl) ?_
 show AWp Tryz.prog _ ⟨23, _, ⟨bx, rw⟩, [(0, .c (.val (.int .i64 ((3 : Nat) : Int))))]⟩ _
 refine go 15 ?_
 refine wyy rfl rfl rfl (ay_cmp false rfl rfl rfl rfl) ?_
 refine go 6 ?_
 refine wyy rfl rfl rfl (ay_cmp false rfl rfl rfl rfl) ?_
 refine go 6 ?_
 refine wyy rfl rfl rfl (ay_cmp false rfl rfl rfl rfl) ?_
 refine go 6 ?_
 refine wyy rfl rfl rfl (ay_cmp true rfl rfl rfl (by simp [cmpR])) ?_
 refine go 6 ?_
 refine wo rfl (wbs Tryz.t9 [.val (.string ⟨#[]⟩), .val (.string ⟨#[]⟩)] rfl rfl (by decide) (.cons rfl (.cons rfl .nil)) Tryz.underlying26 (by kernel_rfl) rfl (by decide) (by decide) (by kernel_rfl) (by kernel_rfl) rfl ?_)
 refine wo rfl (wbs Tryz.t3 [.val (.int .i64 0), .val (.int .i64 0)] rfl rfl (by decide) (.cons rfl (.cons rfl .nil)) Tryz.underlying22 (by kernel_rfl) rfl (by decide) (by decide) (by kernel_rfl) (by kernel_rfl) rfl ?_)
 refine go 7 ?_
 exact ⟨.inr rfl, _, ⟨bx, rw⟩, res_two rfl (resv_tmp rfl) (resv_tmp rfl), subS_of (.refl _) (.refl _), rfl, rfl⟩
set_option maxRecDepth 100000 in
set_option maxHeartbeats 1600000 in
theorem signs_4 (s : Sto) : ACall Tryz.prog 143 [.c (.val (.int .i64 ((4 : Nat) : Int)))] [] s fun t s' => t = .tup [.c (strL (signsS 4)), .c (intL (signsO 4))] ∧ s' = s := by
 obtain ⟨bx, rw⟩ := s
 refine acall_body Tryz.func143 rfl (Nat.le_of_ble_eq_true rfl) ?_
 show AWp Tryz.prog _ ⟨23, _, ⟨bx, rw⟩, [(0, .c (.val (.int .i64 ((4 : Nat) : Int))))]⟩ _
 refine go 15 ?_
 refine wyy rfl rfl rfl (ay_cmp false rfl rfl rfl rfl) ?_
 refine go 6 ?_
 refine wyy rfl rfl rfl (ay_cmp false rfl rfl rfl rfl) ?_
 refine go 6 ?_
 refine wyy rfl rfl rfl (ay_cmp false rfl rfl rfl rfl) ?_
 refine go 6 ?_
 refine wyy rfl rfl rfl (ay_cmp false rfl rfl rfl rfl) ?_
 refine go 9 ?_
 refine wo rfl (wbs Tryz.t9 [.val (.string ⟨#[]⟩), .val (.string ⟨#[]⟩), .val (.string ⟨#[]⟩)] rfl rfl (by decide) (.cons rfl (.cons rfl (.cons rfl .nil))) Tryz.underlying26 (by kernel_rfl) rfl (by decide) (by decide) (by kernel_rfl) (by kernel_rfl) rfl ?_)
 refine wo rfl (wbs Tryz.t3 [.val (.int .i64 0), .val (.int .i64 0), .val (.int .i64 0)] rfl rfl (by decide) (.cons rfl (.cons rfl (.cons rfl .nil))) Tryz.underlying22 (by kernel_rfl) rfl (by decide) (by decide) (by kernel_rfl) (by kernel_rfl) rfl ?_)
 refine go 5 ?_
 exact ⟨.inr rfl, _, ⟨bx, rw⟩, res_two rfl (resv_tmp rfl) (resv_tmp rfl), subS_of (.refl _) (.refl _), rfl, rfl⟩
theorem signs_c (lv : Nat) (h : lv < 5) (s : Sto) : ACall Tryz.prog 143 [.c (.val (.int .i64 (lv : Int)))] [] s fun t s' => t = .tup [.c (strL (signsS lv)), .c (intL (signsO lv))] ∧ s' = s := by
 rcases (show lv = 0 ∨ lv = 1 ∨ lv = 2 ∨ lv = 3 ∨ lv = 4 by omega) with rfl | rfl | rfl | rfl | rfl
 ·exact signs_0 s
 ·exact signs_1 s
 ·exact signs_2 s
 ·exact signs_3 s
 ·exact signs_4 s
theorem any_op {l : List Tok} (h : TOk l) {k lv j : Nat} (hk : k < l.length) (hlv : lv < 5) (hj : j < (signsS lv).length) (ha : anyAt l k (signsS lv)[j] = true) : (tokAt l k).kind = 4 ∧ (binOp (tokAt l k).text).2 = lv + 1 ∧ ∀ h' : j < (signsO lv).length, ((binOp (tokAt l k).text).1 : Int) = (signsO lv)[j] := by
 unfold anyAt at ha
 simp only [Bool.and_eq_true, Bool.or_eq_true, decide_eq_true_eq] at ha
 obtain ⟨h1, h2⟩ := ha
 have h4 : (tokAt l k).kind = 4 := by
  rcases h1 with h1 | h1
  ·exact h1
  ·have := (h.reg _ (List.getElem_mem hk)).1 (by rw [← tokAt_lt hk]; exact h1)
   rw [← tokAt_lt hk, h2, signs_free lv hlv j hj] at this; cases this
 rw [h2]
 have hO : j < (signsO lv).length := by rw [(signs_len lv).1]; exact hj
 exact ⟨h4, (signs_op lv hlv j hj hO).2, fun h' => (signs_op lv hlv j hj h').1⟩
theorem any_none {l : List Tok} {k lv : Nat} (hlv : lv < 5) (h : ∀ j (hj : j < (signsS lv).length), anyAt l k (signsS lv)[j] = false) : ¬ ((tokAt l k).kind = 4 ∧ (binOp (tokAt l k).text).2 = lv + 1) := by
 rintro ⟨h1, h2⟩
 obtain ⟨j, hj, he⟩ := List.getElem_of_mem (signs_all lv hlv _ h2)
 have := h j hj
 unfold anyAt at this
 rw [he] at this
 simp [h1] at this
def BCont (l : List Tok) (sub : Nat → PRes AExpr) (lv e0 b0 k0 : Nat) (x : AExpr) (k b e n : Nat) : Prop :=
 (e = 0 → l.length < n + k) ∧ ∀ z k' b' e', RRun e b (loopP l sub (lv + 1) n x k) z k' b' e' → RRun e0 b0 ((sub k0).bind fun x k => loopP l sub (lv + 1) (l.length + 1) x k) z k' b' e'
set_option maxRecDepth 100000 in
set_option maxHeartbeats 1600000 in
theorem binary_5 (A B : List Box) (rw : List ORow) (P : Nat) (l : List Tok) (k b e ns dp : Nat) (sub : Nat → PRes AExpr) (hok : TOk l) (hk : k < l.length) (he : e < 16) (iho : ∀ (A B : List Box) (rw : List ORow) (P k b e : Nat), k < l.length → e < 16 → ACall Tryz.prog 142 [.c (.val (.pointer (some ⟨P, 0, none⟩)))] [P] (RSt A B rw P l k b e ns dp) (RAn A B rw P l ns dp (fun x => .agg (encE1 x)) e b (sub k))) : ACall Tryz.prog 108 [.c (.val (.pointer (some ⟨P, 0, none⟩))), .c (.val (.int .i64 5))] [P] (RSt A B rw P l k b e ns dp) fun t s => RAn A B rw P l ns dp (fun x => .agg (encE1 x)) e b (sub k) t s := by
 have hlen := hok.len
 refine acall_body Tryz.func108 rfl (Nat.le_of_ble_eq_true rfl) ?_
 show AWp Tryz.prog _ ⟨52, [P], ⟨A ++ ⟨P, 85, [.sl l.length (l.flatMap encT), .val (.int .i64 ((k : Nat) : Int)), .val (.int .i64 ((b : Nat) : Int)), .val (.int .i64 ((e : Nat) : Int)), .val (.int .i64 ((ns : Nat) : Int)), .val (.int .i64 ((dp : Nat) : Int))]⟩ :: B, rw⟩, [(0, .c (.val (.pointer (some ⟨P, 0, none⟩)))), (1, .c (.val (.int .i64 5)))]⟩ _
 refine go 9 fun b1 => ?_
 refine wyy rfl rfl rfl (ay_cmp true rfl rfl rfl rfl) ?_
 refine go 6 ?_
 refine wcP rfl rfl rfl rfl Tryz.call142 rfl (iho (_ :: A) _ _ _ k b e hk he) (by simp) (by simp [Sto.bl]) ?_
 rintro t2 s2 ⟨x2, k2, u2, e2, rfl, hr2, hk2, he2, rfl⟩
 refine go 5 ?_
 exact ⟨.inr rfl, _, (RSt A B rw P l (k2) (u2) (e2) (ns) (dp)), (res_one rfl (resv_cell [] rfl rfl Tryz.isAgg88 Tryz.sizeOf88 (pk_all rfl rfl))), subS_of (.cons _ (.refl _)) (.refl _), ⟨x2, k2, u2, e2, rfl, hr2, hk2, he2, rfl⟩⟩
set_option maxRecDepth 100000 in
set_option maxHeartbeats 1600000 in
theorem binary_s (A B : List Box) (rw : List ORow) (P : Nat) (l : List Tok) (k b e ns dp : Nat) (lv : Nat) (sub : Nat → PRes AExpr) (hlv : lv < 5) (hin : ∀ k, k < l.length → (sub k).In l k) (hok : TOk l) (hk : k < l.length) (he : e < 16) (ihb : ∀ (A B : List Box) (rw : List ORow) (P k b e : Nat), k < l.length → e < 16 → ACall Tryz.prog 108 [.c (.val (.pointer (some ⟨P, 0, none⟩))), .c (.val (.int .i64 ((lv : Nat) + 1 : Int)))] [P] (RSt A B rw P l k b e ns dp) (RAn A B rw P l ns dp (fun x => .agg (encE1 x)) e b (sub k))) : ACall Tryz.prog 108 [.c (.val (.pointer (some ⟨P, 0, none⟩))), .c (.val (.int .i64 (lv : Int)))] [P] (RSt A B rw P l k b e ns dp) fun t s => RAn A B rw P l ns dp (fun x => .agg (encE1 x)) e b ((sub k).bind fun x k => loopP l sub (lv + 1) (l.length + 1) x k) t s := by
 have hlen := hok.len
 refine acall_body Tryz.func108 rfl (Nat.le_of_ble_eq_true rfl) ?_
 show AWp Tryz.prog _ ⟨52, [P], ⟨A ++ ⟨P, 85, [.sl l.length (l.flatMap encT), .val (.int .i64 ((k : Nat) : Int)), .val (.int .i64 ((b : Nat) : Int)), .val (.int .i64 ((e : Nat) : Int)), .val (.int .i64 ((ns : Nat) : Int)), .val (.int .i64 ((dp : Nat) : Int))]⟩ :: B, rw⟩, [(0, .c (.val (.pointer (some ⟨P, 0, none⟩)))), (1, .c (.val (.int .i64 ((lv : Nat) : Int))))]⟩ _
 refine go 9 fun b1 => ?_
 refine wyy rfl rfl rfl (ay_cmp false rfl rfl rfl (by simp [cmpR]; omega)) ?_
 refine go 9 ?_
 refine wyy rfl rfl rfl (ay_add rfl rfl rfl (by omega) (by omega)) ?_
 refine wcP rfl rfl rfl rfl Tryz.call108 rfl (ihb (_ :: A) _ _ _ k b e hk he) (by simp) (by simp [Sto.bl]) ?_
 rintro t2 s2 ⟨x2, k2, u2, e2, rfl, hr2, hk2, he2, rfl⟩
 refine go 7 fun b2 => ?_
 refine wo rfl (wcall [] rfl rfl (by decide) Tryz.call143 rfl (signs_c lv hlv _) (fun _ h => by cases h) (fun _ h => by cases h) (fun _ _ h => by cases h) ?_)
 rintro t3 s3 ⟨rfl, rfl⟩
 refine go 14 ?_
 refine aw_loop (fun g : Bool × AExpr × Nat × Nat × Nat => (⟨52, [b2, b1, P], ⟨⟨b2, 88, encE1 (g.2.1)⟩ :: ⟨b1, 88, [.val (.int .i64 0), .val (.int .i64 0), .val (.string ⟨#[]⟩), .val (.slice none 0 0)]⟩ :: (A ++ ⟨P, 85, [.sl l.length (l.flatMap encT), .val (.int .i64 (((g.2.2.1) : Nat) : Int)), .val (.int .i64 (((g.2.2.2.1) : Nat) : Int)), .val (.int .i64 (((g.2.2.2.2) : Nat) : Int)), .val (.int .i64 ((ns : Nat) : Int)), .val (.int .i64 ((dp : Nat) : Int))]⟩ :: B), rw⟩, [(8, .c (.val (.bool g.1))), (0, .c (.val (.pointer (some ⟨P, 0, none⟩)))), (1, .c (.val (.int .i64 ((lv : Nat) : Int)))), (4, .c (.val (.pointer (some ⟨b1, 0, none⟩)))), (5, .c (.val (.pointer (some ⟨b2, 0, none⟩)))), (6, .c (strL (signsS lv))), (7, .c (intL (signsO lv)))]⟩ : AS)) (fun g => g.2.2.1 < l.length ∧ g.2.2.2.2 < 16 ∧ (g.1 = true → ∃ n, BCont l sub lv e b k g.2.1 g.2.2.1 g.2.2.2.1 g.2.2.2.2 n) ∧ (g.1 = false → RRun e b ((sub k).bind fun x k => loopP l sub (lv + 1) (l.length + 1) x k) g.2.1 g.2.2.1 g.2.2.2.1 g.2.2.2.2)) (fun g => if g.1 then (if g.2.2.2.2 = 0 then l.length - g.2.2.1 + 2 else 1) else 0) (true, x2, k2, u2, e2) (subA (.refl _) (.refl _) (fun _ h => h) (sub_cons rfl (Wk.refl _) (sub_cons rfl (Wk.refl _) (sub_cons rfl (Wk.refl _) (sub_cons rfl (Wk.refl _) (sub_cons rfl (Wk.refl _) (sub_cons rfl (Wk.refl _) (sub_cons rfl (Wk.refl _) sub_nil)))))))) ⟨hk2, he2, fun _ => ⟨l.length + 1, fun _ => by omega, fun z k' b' e' h => hr2.bind h⟩, (fun h => nomatch h)⟩ ?_
 rintro ⟨ag0, x0, k0, b0, e0⟩ ⟨hk0, he0, hc0, hd0⟩
 dsimp only at hk0 he0 hc0 hd0
 show AWp Tryz.prog _ (⟨52, [b2, b1, P], ⟨⟨b2, 88, encE1 (x0)⟩ :: ⟨b1, 88, [.val (.int .i64 0), .val (.int .i64 0), .val (.string ⟨#[]⟩), .val (.slice none 0 0)]⟩ :: (A ++ ⟨P, 85, [.sl l.length (l.flatMap encT), .val (.int .i64 (((k0) : Nat) : Int)), .val (.int .i64 (((b0) : Nat) : Int)), .val (.int .i64 (((e0) : Nat) : Int)), .val (.int .i64 ((ns : Nat) : Int)), .val (.int .i64 ((dp : Nat) : Int))]⟩ :: B), rw⟩, [(8, .c (.val (.bool ag0))), (0, .c (.val (.pointer (some ⟨P, 0, none⟩)))), (1, .c (.val (.int .i64 ((lv : Nat) : Int)))), (4, .c (.val (.pointer (some ⟨b1, 0, none⟩)))), (5, .c (.val (.pointer (some ⟨b2, 0, none⟩)))), (6, .c (strL (signsS lv))), (7, .c (intL (signsO lv)))]⟩ : AS) _
 cases ag0
 ·refine go 19 ?_
  exact ⟨.inr rfl, _, (RSt A B rw P l (k0) (b0) (e0) (ns) (dp)), (res_one rfl (resv_cell [_] rfl rfl Tryz.isAgg88 Tryz.sizeOf88 (pk_all rfl rfl))), subS_of (.cons _ (.cons _ (.refl _))) (.refl _), ⟨x0, k0, b0, e0, rfl, hd0 rfl, hk0, he0, rfl⟩⟩
 ·refine go 21 ?_
  obtain ⟨n0, hn0, hcont⟩ := hc0 rfl
  refine aw_loop (fun g : Nat × Bool × AExpr × Nat × Nat × Nat => (⟨52, [b2, b1, P], ⟨⟨b2, 88, encE1 (g.2.2.1)⟩ :: ⟨b1, 88, [.val (.int .i64 0), .val (.int .i64 0), .val (.string ⟨#[]⟩), .val (.slice none 0 0)]⟩ :: (A ++ ⟨P, 85, [.sl l.length (l.flatMap encT), .val (.int .i64 (((g.2.2.2.1) : Nat) : Int)), .val (.int .i64 (((g.2.2.2.2.1) : Nat) : Int)), .val (.int .i64 (((g.2.2.2.2.2) : Nat) : Int)), .val (.int .i64 ((ns : Nat) : Int)), .val (.int .i64 ((dp : Nat) : Int))]⟩ :: B), rw⟩, [(9, .c (.val (.int .i64 (((g.1) : Nat) : Int)))), (8, .c (.val (.bool g.2.1))), (0, .c (.val (.pointer (some ⟨P, 0, none⟩)))), (1, .c (.val (.int .i64 ((lv : Nat) : Int)))), (4, .c (.val (.pointer (some ⟨b1, 0, none⟩)))), (5, .c (.val (.pointer (some ⟨b2, 0, none⟩)))), (6, .c (strL (signsS lv))), (7, .c (intL (signsO lv)))]⟩ : AS)) (fun g => g.1 ≤ (signsS lv).length ∧ (g.2.1 = false → g.2.2 = (x0, k0, b0, e0) ∧ (e0 = 0 → ∀ j (hj : j < (signsS lv).length), j < g.1 → anyAt l k0 (signsS lv)[j] = false)) ∧ (g.2.1 = true → e0 = 0 ∧ g.2.2.2.1 < l.length ∧ g.2.2.2.2.2 < 16 ∧ (g.2.2.2.2.2 = 0 → k0 < g.2.2.2.1) ∧ ∃ n, BCont l sub lv e b k g.2.2.1 g.2.2.2.1 g.2.2.2.2.1 g.2.2.2.2.2 n)) (fun g => (signsS lv).length - g.1) (0, false, x0, k0, b0, e0) (subA (.refl _) (.refl _) (fun _ h => h) (sub_cons rfl (Wk.refl _) (sub_cons rfl (Wk.refl _) (sub_cons rfl (Wk.refl _) (sub_cons rfl (Wk.refl _) (sub_cons rfl (Wk.refl _) (sub_cons rfl (Wk.refl _) (sub_cons rfl (Wk.refl _) (sub_cons rfl (Wk.refl _) sub_nil))))))))) ⟨Nat.zero_le _, fun _ => ⟨rfl, fun _ j _ h => by omega⟩, (fun h => nomatch h)⟩ ?_
  rintro ⟨i, ag, x1, k1, b1', e1⟩ ⟨hi0, hf0, ht0⟩
  dsimp only at hi0 hf0 ht0
  have hsl := signs_len lv
  cases ag
  ·by_cases hlt : i < (signsS lv).length
   ·obtain ⟨hq, hno⟩ := hf0 rfl
    obtain ⟨rfl, rfl, rfl, rfl⟩ : x1 = x0 ∧ k1 = k0 ∧ b1' = b0 ∧ e1 = e0 := by simpa using hq
    clear hq hf0 ht0
    show AWp Tryz.prog _ (⟨52, [b2, b1, P], ⟨⟨b2, 88, encE1 (x1)⟩ :: ⟨b1, 88, [.val (.int .i64 0), .val (.int .i64 0), .val (.string ⟨#[]⟩), .val (.slice none 0 0)]⟩ :: (A ++ ⟨P, 85, [.sl l.length (l.flatMap encT), .val (.int .i64 (((k1) : Nat) : Int)), .val (.int .i64 (((b1') : Nat) : Int)), .val (.int .i64 (((e1) : Nat) : Int)), .val (.int .i64 ((ns : Nat) : Int)), .val (.int .i64 ((dp : Nat) : Int))]⟩ :: B), rw⟩, [(9, .c (.val (.int .i64 (((i) : Nat) : Int)))), (8, .c (.val (.bool false))), (0, .c (.val (.pointer (some ⟨P, 0, none⟩)))), (1, .c (.val (.int .i64 ((lv : Nat) : Int)))), (4, .c (.val (.pointer (some ⟨b1, 0, none⟩)))), (5, .c (.val (.pointer (some ⟨b2, 0, none⟩)))), (6, .c (strL (signsS lv))), (7, .c (intL (signsO lv)))]⟩ : AS) _
    refine go 6 ?_
    refine wyy rfl rfl rfl (ay_cmp true rfl rfl rfl (by simp [cmpR, hlt])) ?_
    refine go 16 ?_
    refine wyy rfl rfl rfl (ay_ixm (fun s => .val (.string s)) (signsS lv) i rfl rfl rfl rfl hlt Tryz.runUnderlying26 Tryz.sizeOf9) ?_
    refine go 1 ?_
    refine wcP rfl rfl rfl rfl Tryz.call59 rfl (take_c (_ :: _ :: A) _ _ _ l k1 b1' e1 ns dp (signsS lv)[i] hok hk0) (by simp) (by simp [Sto.bl]) ?_
    rintro t7 s7 (⟨rfl, ha, hm, rfl, rfl⟩ | ⟨hna7, rfl, rfl⟩)
    ·refine go 3 ?_
     refine aw_region_drew [b1] (by kernel_rfl) ?_
     refine tks [(0, true), (1, true)] 11 (by kernel_rfl) ?_
     refine go 3 ?_
     refine tq 2 (by kernel_rfl) rfl rfl rfl rfl (ay_ixm (fun n => .val (.int .i64 n)) (signsO lv) i rfl rfl rfl rfl (by omega) Tryz.runUnderlying22 Tryz.sizeOf3) ?_
     refine tks [(3, true), (5, true), (6, true)] 7 (by kernel_rfl) ?_
     refine go 4 ?_
     refine tq 7 (by kernel_rfl) rfl rfl rfl rfl (ay_add rfl rfl rfl (by omega) (by omega)) ?_
     refine two 4 8 (by kernel_rfl) rfl rfl rfl rfl ?_ ?_
     ·refine way rfl (by decide) (ay_load_box [] rfl rfl rfl Tryz.isAgg88 Tryz.sizeOf88 rfl (fun _ h => by cases h)) ?_
      refine one 8 (by kernel_rfl) rfl rfl (wcall [P] rfl rfl (by decide) Tryz.call108 rfl (ihb (_ :: _ :: A) _ _ _ ((k1 + 1)) b1' 0 hm (by decide)) (by intro b hb; simp at hb; subst hb; simp) (by intro b hb; simp at hb; subst hb; simp [Sto.bl]) (by intro h b hb; simp at hb; subst hb; exact mem_off.2 ⟨by simp [Sto.bl], fun hh => by simp only [List.mem_cons, List.not_mem_nil, or_false] at hh; rcases hh with rfl <;> simp [Sto.bl] at h⟩) ?_)
      rintro t9 s9 ⟨x9, k9, u9, e9, rfl, hr9, hk9, he9, rfl⟩
      refine one 9 (by kernel_rfl) rfl rfl (wbs Tryz.t88 [.val (.int .i64 0), .val (.int .i64 0), .val (.string ⟨#[]⟩), .val (.slice none 0 0), .val (.int .i64 0), .val (.int .i64 0), .val (.string ⟨#[]⟩), .val (.slice none 0 0)] rfl rfl (by decide) (.cons rfl (.cons rfl .nil)) Tryz.underlying86 (by kernel_rfl) rfl (by decide) (by decide) (by kernel_rfl) (by kernel_rfl) (fill_two encE encE1 x1 x9 encE_one rfl (fun _ => rfl)) ?_)
      refine tks [(10, true), (11, false), (12, true)] 0 (by kernel_rfl) ?_
      refine go 4 ?_
      refine any_done (by kernel_rfl) ?_
      refine go 4 ?_
      refine wyy rfl rfl rfl (ay_add rfl rfl rfl (by omega) (by omega)) ?_
      refine go 2 ?_
      obtain ⟨h4, hlv2, hop⟩ := any_op hok hk0 hlv hlt ha
      have hin2 := hin (k1 + 1) hm
      refine ⟨(i + 1, true, .mk (signsO lv)[i] 0 emptyB [x1, x9], k9, u9, e9), ⟨by show i + 1 ≤ _; omega, (fun h => nomatch h), fun _ => ⟨rfl, hk9, he9, fun h0 => ?_, n0 - 1, fun h0 => ?_, fun z k' b' e' h => hcont z k' b' e' ?_⟩⟩, by show (signsS lv).length - (i + 1) < (signsS lv).length - i; omega, subA (.refl _) (.refl _) (fun _ h => h) (sub_cons rfl (Wk.refl _) (sub_cons rfl (Wk.refl _) (sub_cons rfl (Wk.refl _) (sub_cons rfl (Wk.refl _) (sub_cons rfl (Wk.refl _) (sub_cons rfl (Wk.refl _) (sub_cons rfl (Wk.refl _) (sub_cons rfl (Wk.refl _) sub_nil))))))))⟩
      ·have hg := hr9.good h0
       rw [hg.2.1] at hin2
       show k1 < k9
       have := hin2.1; omega
      ·have hg := hr9.good h0
       rw [hg.2.1] at hin2
       have h1 := hin2.1
       have h2 := hn0 rfl
       show l.length < n0 - 1 + k9
       omega
      ·obtain ⟨m, rfl⟩ : ∃ m, n0 = m + 1 := ⟨n0 - 1, by have := hn0 rfl; omega⟩
       rw [loopP, if_pos ⟨h4, hlv2⟩]
       refine (hr9.bind (f := fun y k => loopP l sub (lv + 1) m (.mk (signsO lv)[i] 0 emptyB [x1, y]) k) h).eq fun _ => ?_
       rw [hop (by omega)]
       cases sub (k1 + 1) <;> rfl
     ·refine (wcall [P] rfl rfl (by decide) Tryz.call108 rfl (ihb (_ :: _ :: A) _ _ _ ((k1 + 1)) b1' 0 hm (by decide)) (by intro b hb; simp at hb; subst hb; simp) (by intro b hb; simp at hb; subst hb; simp [Sto.bl]) (by intro h b hb; simp at hb; subst hb; exact mem_off.2 ⟨by simp [Sto.bl], fun hh => by simp only [List.mem_cons, List.not_mem_nil, or_false] at hh; rcases hh with rfl <;> simp [Sto.bl] at h⟩) ?_)
      rintro t10 s10 ⟨x10, k10, u10, e10, rfl, hr10, hk10, he10, rfl⟩
      refine one 4 (by kernel_rfl) rfl rfl (way rfl (by decide) (ay_load_box [] rfl rfl rfl Tryz.isAgg88 Tryz.sizeOf88 rfl (fun _ h => by cases h)) ?_)
      refine one 9 (by kernel_rfl) rfl rfl (wbs Tryz.t88 [.val (.int .i64 0), .val (.int .i64 0), .val (.string ⟨#[]⟩), .val (.slice none 0 0), .val (.int .i64 0), .val (.int .i64 0), .val (.string ⟨#[]⟩), .val (.slice none 0 0)] rfl rfl (by decide) (.cons rfl (.cons rfl .nil)) Tryz.underlying86 (by kernel_rfl) rfl (by decide) (by decide) (by kernel_rfl) (by kernel_rfl) (fill_two encE encE1 x1 x10 encE_one rfl (fun _ => rfl)) ?_)
      refine tks [(10, true), (11, false), (12, true)] 0 (by kernel_rfl) ?_
      refine go 4 ?_
      refine any_done (by kernel_rfl) ?_
      refine go 4 ?_
      refine wyy rfl rfl rfl (ay_add rfl rfl rfl (by omega) (by omega)) ?_
      refine go 2 ?_
      obtain ⟨h4, hlv2, hop⟩ := any_op hok hk0 hlv hlt ha
      have hin2 := hin (k1 + 1) hm
      refine ⟨(i + 1, true, .mk (signsO lv)[i] 0 emptyB [x1, x10], k10, u10, e10), ⟨by show i + 1 ≤ _; omega, (fun h => nomatch h), fun _ => ⟨rfl, hk10, he10, fun h0 => ?_, n0 - 1, fun h0 => ?_, fun z k' b' e' h => hcont z k' b' e' ?_⟩⟩, by show (signsS lv).length - (i + 1) < (signsS lv).length - i; omega, subA (.refl _) (.refl _) (fun _ h => h) (sub_cons rfl (Wk.refl _) (sub_cons rfl (Wk.refl _) (sub_cons rfl (Wk.refl _) (sub_cons rfl (Wk.refl _) (sub_cons rfl (Wk.refl _) (sub_cons rfl (Wk.refl _) (sub_cons rfl (Wk.refl _) (sub_cons rfl (Wk.refl _) sub_nil))))))))⟩
      ·have hg := hr10.good h0
       rw [hg.2.1] at hin2
       show k1 < k10
       have := hin2.1; omega
      ·have hg := hr10.good h0
       rw [hg.2.1] at hin2
       have h1 := hin2.1
       have h2 := hn0 rfl
       show l.length < n0 - 1 + k10
       omega
      ·obtain ⟨m, rfl⟩ : ∃ m, n0 = m + 1 := ⟨n0 - 1, by have := hn0 rfl; omega⟩
       rw [loopP, if_pos ⟨h4, hlv2⟩]
       refine (hr10.bind (f := fun y k => loopP l sub (lv + 1) m (.mk (signsO lv)[i] 0 emptyB [x1, y]) k) h).eq fun _ => ?_
       rw [hop (by omega)]
       cases sub (k1 + 1) <;> rfl
    ·have hno2 : e1 = 0 → anyAt l k1 (signsS lv)[i] = false := fun h0 => by cases hh : anyAt l k1 (signsS lv)[i] with | false => rfl | true => exact absurd ⟨h0, hh⟩ hna7
     refine go 8 ?_
     refine wyy rfl rfl rfl (ay_add rfl rfl rfl (by omega) (by omega)) ?_
     refine go 2 ?_
     refine ⟨(i + 1, false, x1, k1, b1', e1), ⟨by show i + 1 ≤ _; omega, fun _ => ⟨rfl, fun h0 j hj hji => ?_⟩, (fun h => nomatch h)⟩, by show (signsS lv).length - (i + 1) < (signsS lv).length - i; omega, subA (.refl _) (.refl _) (fun _ h => h) (sub_cons rfl (Wk.refl _) (sub_cons rfl (Wk.refl _) (sub_cons rfl (Wk.refl _) (sub_cons rfl (Wk.refl _) (sub_cons rfl (Wk.refl _) (sub_cons rfl (Wk.refl _) (sub_cons rfl (Wk.refl _) (sub_cons rfl (Wk.refl _) sub_nil))))))))⟩
     have hji2 : j < i + 1 := hji
     rcases Nat.lt_or_ge j i with h | h
     ·exact hno h0 j hj h
     ·obtain rfl : j = i := by omega
      exact hno2 h0
   ·obtain ⟨hq, hno⟩ := hf0 rfl
    obtain ⟨rfl, rfl, rfl, rfl⟩ : x1 = x0 ∧ k1 = k0 ∧ b1' = b0 ∧ e1 = e0 := by simpa using hq
    clear hq hf0 ht0
    show AWp Tryz.prog _ (⟨52, [b2, b1, P], ⟨⟨b2, 88, encE1 (x1)⟩ :: ⟨b1, 88, [.val (.int .i64 0), .val (.int .i64 0), .val (.string ⟨#[]⟩), .val (.slice none 0 0)]⟩ :: (A ++ ⟨P, 85, [.sl l.length (l.flatMap encT), .val (.int .i64 (((k1) : Nat) : Int)), .val (.int .i64 (((b1') : Nat) : Int)), .val (.int .i64 (((e1) : Nat) : Int)), .val (.int .i64 ((ns : Nat) : Int)), .val (.int .i64 ((dp : Nat) : Int))]⟩ :: B), rw⟩, [(9, .c (.val (.int .i64 (((i) : Nat) : Int)))), (8, .c (.val (.bool false))), (0, .c (.val (.pointer (some ⟨P, 0, none⟩)))), (1, .c (.val (.int .i64 ((lv : Nat) : Int)))), (4, .c (.val (.pointer (some ⟨b1, 0, none⟩)))), (5, .c (.val (.pointer (some ⟨b2, 0, none⟩)))), (6, .c (strL (signsS lv))), (7, .c (intL (signsO lv)))]⟩ : AS) _
    obtain rfl : i = (signsS lv).length := by omega
    refine go 6 ?_
    refine wyy rfl rfl rfl (ay_cmp false rfl rfl rfl (by simp [cmpR])) ?_
    refine go 8 ?_
    have hfin : RRun e b ((sub k).bind fun x k => loopP l sub (lv + 1) (l.length + 1) x k) x1 k1 b1' e1 := by
     refine hcont x1 k1 b1' e1 ?_
     by_cases h0 : e1 = 0
     ·subst h0
      obtain ⟨m, rfl⟩ : ∃ m, n0 = m + 1 := ⟨n0 - 1, by have := hn0 rfl; omega⟩
      rw [loopP, if_neg (any_none hlv fun j hj => hno rfl j hj hj)]
      exact RRun.pure _ _ _ _
     ·exact .skip h0 _ _ _
    refine go 4 ?_
    exact ⟨(false, x1, k1, b1', e1), ⟨hk0, he0, (fun h => nomatch h), fun _ => hfin⟩, by simp only [if_true, Bool.false_eq_true, if_false]; split <;> omega, subA (.refl _) (.refl _) (fun _ h => h) (sub_cons rfl (Wk.refl _) (sub_cons rfl (Wk.refl _) (sub_cons rfl (Wk.refl _) (sub_cons rfl (Wk.refl _) (sub_cons rfl (Wk.refl _) (sub_cons rfl (Wk.refl _) (sub_cons rfl (Wk.refl _) sub_nil)))))))⟩
  ·by_cases hlt : i < (signsS lv).length
   ·obtain ⟨rfl, hk1, he1, hgt, n1, hb1⟩ := ht0 rfl
    clear hf0 ht0
    show AWp Tryz.prog _ (⟨52, [b2, b1, P], ⟨⟨b2, 88, encE1 (x1)⟩ :: ⟨b1, 88, [.val (.int .i64 0), .val (.int .i64 0), .val (.string ⟨#[]⟩), .val (.slice none 0 0)]⟩ :: (A ++ ⟨P, 85, [.sl l.length (l.flatMap encT), .val (.int .i64 (((k1) : Nat) : Int)), .val (.int .i64 (((b1') : Nat) : Int)), .val (.int .i64 (((e1) : Nat) : Int)), .val (.int .i64 ((ns : Nat) : Int)), .val (.int .i64 ((dp : Nat) : Int))]⟩ :: B), rw⟩, [(9, .c (.val (.int .i64 (((i) : Nat) : Int)))), (8, .c (.val (.bool true))), (0, .c (.val (.pointer (some ⟨P, 0, none⟩)))), (1, .c (.val (.int .i64 ((lv : Nat) : Int)))), (4, .c (.val (.pointer (some ⟨b1, 0, none⟩)))), (5, .c (.val (.pointer (some ⟨b2, 0, none⟩)))), (6, .c (strL (signsS lv))), (7, .c (intL (signsO lv)))]⟩ : AS) _
    refine go 6 ?_
    refine wyy rfl rfl rfl (ay_cmp true rfl rfl rfl (by simp [cmpR, hlt])) ?_
    refine go 8 ?_
    have hmu : (if true = true then (if e1 = 0 then l.length - k1 + 2 else 1) else 0) < (if true = true then (if (0 : Nat) = 0 then l.length - k0 + 2 else 1) else 0) := by
     simp only [if_true]
     by_cases h0 : e1 = 0
     ·have := hgt h0; rw [if_pos h0]; omega
     ·rw [if_neg h0]; omega
    refine go 4 ?_
    exact ⟨(true, x1, k1, b1', e1), ⟨hk1, he1, fun _ => ⟨_, hb1⟩, (fun h => nomatch h)⟩, hmu, subA (.refl _) (.refl _) (fun _ h => h) (sub_cons rfl (Wk.refl _) (sub_cons rfl (Wk.refl _) (sub_cons rfl (Wk.refl _) (sub_cons rfl (Wk.refl _) (sub_cons rfl (Wk.refl _) (sub_cons rfl (Wk.refl _) (sub_cons rfl (Wk.refl _) sub_nil)))))))⟩
   ·obtain ⟨rfl, hk1, he1, hgt, n1, hb1⟩ := ht0 rfl
    clear hf0 ht0
    show AWp Tryz.prog _ (⟨52, [b2, b1, P], ⟨⟨b2, 88, encE1 (x1)⟩ :: ⟨b1, 88, [.val (.int .i64 0), .val (.int .i64 0), .val (.string ⟨#[]⟩), .val (.slice none 0 0)]⟩ :: (A ++ ⟨P, 85, [.sl l.length (l.flatMap encT), .val (.int .i64 (((k1) : Nat) : Int)), .val (.int .i64 (((b1') : Nat) : Int)), .val (.int .i64 (((e1) : Nat) : Int)), .val (.int .i64 ((ns : Nat) : Int)), .val (.int .i64 ((dp : Nat) : Int))]⟩ :: B), rw⟩, [(9, .c (.val (.int .i64 (((i) : Nat) : Int)))), (8, .c (.val (.bool true))), (0, .c (.val (.pointer (some ⟨P, 0, none⟩)))), (1, .c (.val (.int .i64 ((lv : Nat) : Int)))), (4, .c (.val (.pointer (some ⟨b1, 0, none⟩)))), (5, .c (.val (.pointer (some ⟨b2, 0, none⟩)))), (6, .c (strL (signsS lv))), (7, .c (intL (signsO lv)))]⟩ : AS) _
    refine go 6 ?_
    refine wyy rfl rfl rfl (ay_cmp false rfl rfl rfl (by simp [cmpR, hlt])) ?_
    refine go 8 ?_
    have hmu : (if true = true then (if e1 = 0 then l.length - k1 + 2 else 1) else 0) < (if true = true then (if (0 : Nat) = 0 then l.length - k0 + 2 else 1) else 0) := by
     simp only [if_true]
     by_cases h0 : e1 = 0
     ·have := hgt h0; rw [if_pos h0]; omega
     ·rw [if_neg h0]; omega
    refine go 4 ?_
    exact ⟨(true, x1, k1, b1', e1), ⟨hk1, he1, fun _ => ⟨_, hb1⟩, (fun h => nomatch h)⟩, hmu, subA (.refl _) (.refl _) (fun _ h => h) (sub_cons rfl (Wk.refl _) (sub_cons rfl (Wk.refl _) (sub_cons rfl (Wk.refl _) (sub_cons rfl (Wk.refl _) (sub_cons rfl (Wk.refl _) (sub_cons rfl (Wk.refl _) (sub_cons rfl (Wk.refl _) sub_nil)))))))⟩
theorem bin_all (l : List Tok) (hok : TOk l) (d : Nat) (iho : ∀ (A B : List Box) (rw : List ORow) (P : Nat) (k b e dp : Nat), k < l.length → e < 16 → ACall Tryz.prog 142 [.c (.val (.pointer (some ⟨P, 0, none⟩)))] [P] (RSt A B rw P l k b e (24 - d) dp) (RAn A B rw P l (24 - d) dp (fun x => .agg (encE1 x)) e b (singleP l d k))) : ∀ (j : Nat), j ≤ 5 → ∀ (A B : List Box) (rw : List ORow) (P : Nat) (k b e dp : Nat), k < l.length → e < 16 → ACall Tryz.prog 108 [.c (.val (.pointer (some ⟨P, 0, none⟩))), .c (.val (.int .i64 ((5 - j : Nat) : Int)))] [P] (RSt A B rw P l k b e (24 - d) dp) (RAn A B rw P l (24 - d) dp (fun x => .agg (encE1 x)) e b (binP l (singleP l d) j k))
 | 0, _, A, B, rw, P, k, b, e, dp, hk, he => (binary_5 A B rw P l k b e (24 - d) dp (singleP l d) hok hk he fun A B rw P k b e hk he => iho A B rw P k b e dp hk he)
 | j + 1, hj, A, B, rw, P, k, b, e, dp, hk, he => by
  have h := binary_s A B rw P l k b e (24 - d) dp (5 - (j + 1)) (binP l (singleP l d) j) (by omega) (fun k hk => binP_in hok.last (fun k hk => singleP_in hok.last d k hk) j k hk) hok hk he (fun A B rw P k b e hk he => by
   have h9 := bin_all l hok d iho j (by omega) A B rw P k b e dp hk he
   have e1 : (((5 - (j + 1) : Nat) : Int) + 1) = ((5 - j : Nat) : Int) := by omega
   rw [e1]; exact h9)
  have e2 : binP l (singleP l d) (j + 1) k = (binP l (singleP l d) j k).bind fun x k => loopP l (binP l (singleP l d) j) (5 - (j + 1) + 1) (l.length + 1) x k := by
   rw [binP, show 5 - (j + 1) + 1 = 5 - j by omega]
   cases binP l (singleP l d) j k <;> rfl
  rw [e2]; exact h
theorem operand_all (l : List Tok) (hok : TOk l) : ∀ (d : Nat), d ≤ 24 → ∀ (A B : List Box) (rw : List ORow) (P : Nat) (k b e dp : Nat), k < l.length → e < 16 → ACall Tryz.prog 142 [.c (.val (.pointer (some ⟨P, 0, none⟩)))] [P] (RSt A B rw P l k b e (24 - d) dp) (RAn A B rw P l (24 - d) dp (fun x => .agg (encE1 x)) e b (singleP l d k))
 | 0, _, A, B, rw, P, k, b, e, dp, hk, he => operand_0 A B rw P l k b e dp hok hk he
 | d + 1, hd, A, B, rw, P, k, b, e, dp, hk, he => operand_s A B rw P l k b e (24 - (d + 1)) dp d (by omega) hok hk he
   (fun A B rw P k b e ns dp hns hk he => by
    obtain rfl : ns = 24 - d := by omega
    exact operand_all l hok d (by omega) A B rw P k b e dp hk he)
   (fun A B rw P k b e ns dp hns hk he => by
    obtain rfl : ns = 24 - d := by omega
    exact bin_all l hok d (operand_all l hok d (by omega)) 5 (Nat.le_refl _) A B rw P k b e dp hk he)
theorem expr_c (A B : List Box) (rw : List ORow) (P : Nat) (l : List Tok) (k b e dp : Nat) (hok : TOk l) (hk : k < l.length) (he : e < 16) : ACall Tryz.prog 108 [.c (.val (.pointer (some ⟨P, 0, none⟩))), .c (.val (.int .i64 0))] [P] (RSt A B rw P l k b e 0 dp) (RAn A B rw P l 0 dp (fun x => .agg (encE1 x)) e b (exprP l k)) :=
 bin_all l hok 24 (operand_all l hok 24 (Nat.le_refl _)) 5 (Nat.le_refl _) A B rw P k b e dp hk he
end Go.Proofs.YtflcnehhpmjipaaGreatDoor
