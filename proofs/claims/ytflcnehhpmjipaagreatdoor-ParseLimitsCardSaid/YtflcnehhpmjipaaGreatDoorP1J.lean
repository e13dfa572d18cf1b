import Derived.Test.YtflcnehhpmjipaaGreatDoorW6J
import Derived.Test.YtflcnehhpmjipaaGreatDoorR1J
import Derived.Test.YtflcnehhpmjipaaGreatDoorE0J
import Derived.Test.YtflcnehhpmjipaaGreatDoorW4J
set_option linter.unusedVariables false
set_option linter.unusedSimpArgs false
namespace Go.Proofs.YtflcnehhpmjipaaGreatDoor
open Go.RowKit
set_option synthInstance.maxHeartbeats 1000000
set_option synthInstance.maxSize 1000000
set_option linter.all false
abbrev ESt (A B : List Box) (rw : List ORow) (P : Nat) (l : List Tok) (k d e : Nat) : Sto := ⟨A ++ ⟨P, 197, [.sl l.length (l.flatMap encT), .val (.int .i64 (k : Int)), .val (.int .i64 (d : Int)), .val (.int .i64 (e : Int))]⟩ :: B, rw⟩
def EAn (A B : List Box) (rw : List ORow) (P : Nat) (l : List Tok) (d k0 : Nat) (r : PRes AExpr) (t : AT) (s : Sto) : Prop :=
 ∃ x k1 d1 e1, t = .agg (encE1 x) ∧ Run 0 k0 r x k1 e1 ∧ k1 < l.length ∧ e1 < 16 ∧ (e1 = 0 → d1 = d) ∧ d ≤ d1 ∧ d1 ≤ 24 ∧ s = ESt A B rw P l k1 d1 e1
theorem negP_bind2 (op : Int) (r : PRes AExpr) : negP op r = r.bind fun x k => .ok (.mk op 0 emptyB [x]) k := by cases r <;> rfl
theorem acall_old {F : FuncId} {args : List Value} {s : Sto} {t : AT} {v : Value} (ht : ∀ w, RepT w t v) (h : ∀ w, Calls Tryz.prog F args.toArray w fun e w' => e = .returned v ∧ w = w') : ACall Tryz.prog F (args.map fun a => .c (.val a)) [] s fun r s' => r = t ∧ s' = s := by
 intro vs w hm _ hl hr
 have : vs = args := by
  refine List.ext_getElem (by simpa using hl) fun i h1 h2 => ?_
  have h3 := hr i (by simpa using h2) h1
  generalize hx : (args.map fun a => AT.c (.val a))[i]'(by simpa using h2) = x at h3
  rw [List.getElem_map] at hx
  subst hx
  generalize vs[i] = u at h3
  cases h3 with | c _ _ h => cases h; rfl
 subst this
 exact (h w).mono fun e w' ⟨h1, h2⟩ => by subst h2; exact ⟨t, v, s, h1, ⟨rfl, rfl⟩, ht _, hm, Keep.refl _ _, fun b hb => .inl hb⟩
theorem binOp_c (x : ByteArray) (s : Sto) : ACall Tryz.prog 199 [.c (.val (.string x))] [] s fun r s' => r = .tup [.c (.val (.int .i64 ((binOp x).1 : Int))), .c (.val (.int .i64 ((binOp x).2 : Int)))] ∧ s' = s :=
 acall_old (args := [.string x]) (fun w => .tup _ [_, _] rfl fun i h h' => by
  match i, h, h' with
  | 0, _, _ => exact .c _ _ (.val _ rfl)
  | 1, _, _ => exact .c _ _ (.val _ rfl)) fun w => binaryOp_any x w
set_option maxRecDepth 100000 in
set_option maxHeartbeats 1600000 in
theorem isE_y (A B : List Box) (rw : List ORow) (P : Nat) (l : List Tok) (k d e : Nat) (sg : ByteArray) (hk : k < l.length) (h4 : l[k].kind = 4) (ht : l[k].text = sg) : ACall Tryz.prog 212 [.c (.val (.pointer (some ⟨P, 0, none⟩))), .c (.val (.string sg))] [P] (ESt A B rw P l k d e) fun t s => t = .c (.val (.bool true)) ∧ s = ESt A B rw P l k d e := by
 refine acall_body Tryz.func212 rfl (Nat.le_of_ble_eq_true rfl) ?_
 show AWp Tryz.prog _ ⟨32, [P], ⟨A ++ ⟨P, 197, [.sl l.length (l.flatMap encT), .val (.int .i64 ((k : Nat) : Int)), .val (.int .i64 ((d : Nat) : Int)), .val (.int .i64 ((e : Nat) : Int))]⟩ :: B, rw⟩, [(0, .c (.val (.pointer (some ⟨P, 0, none⟩)))), (1, .c (.val (.string sg)))]⟩ _
 refine go 6 ?_
 refine aw_region_drew [P] (by kernel_rfl) ?_
 refine tks [(0, true), (1, true), (2, true), (3, true), (4, true), (5, true), (6, true), (7, true)] 20 (by kernel_rfl) ?_
 refine go 9 ?_
 refine tq 8 (by kernel_rfl) rfl rfl rfl rfl (ay_ix encT encT l encT_len (fun _ => rfl) (k) rfl rfl rfl rfl hk (by decide) Tryz.runUnderlying47 Tryz.sizeOf72) ?_
 refine tks [(9, true), (10, true)] 17 (by kernel_rfl) ?_
 refine go 3 ?_
 refine tq 11 (by kernel_rfl) rfl rfl rfl rfl (ay_cmp true rfl rfl rfl (by rw [h4]; rfl)) ?_
 refine tks [(12, true), (13, true), (14, true), (15, true), (16, true), (17, true), (18, true), (19, true), (20, true)] 7 (by kernel_rfl) ?_
 refine go 10 ?_
 refine tq 21 (by kernel_rfl) rfl rfl rfl rfl (ay_ix encT encT l encT_len (fun _ => rfl) (k) rfl rfl rfl rfl hk (by decide) Tryz.runUnderlying47 Tryz.sizeOf72) ?_
 refine tks [(22, true), (23, true), (24, true)] 3 (by kernel_rfl) ?_
 refine go 4 ?_
 refine tq 25 (by kernel_rfl) rfl rfl rfl rfl (ay_streq true rfl rfl rfl (by rw [ht]; simp [strR])) ?_
 refine tks [(26, true), (27, true)] 0 (by kernel_rfl) ?_
 refine go 3 ?_
 refine any_done (by kernel_rfl) ?_
 refine go 2 ?_
 exact ⟨.inr rfl, _, (ESt A B rw P l (k) (d) (e)), res_one rfl (resv_tmp rfl), subS_of (.refl _) (.refl _), rfl, rfl⟩
set_option maxRecDepth 100000 in
set_option maxHeartbeats 1600000 in
theorem isE_n (A B : List Box) (rw : List ORow) (P : Nat) (l : List Tok) (k d e : Nat) (sg : ByteArray) (hk : k < l.length) (h4 : l[k].kind = 4) (ht : ¬ l[k].text = sg) : ACall Tryz.prog 212 [.c (.val (.pointer (some ⟨P, 0, none⟩))), .c (.val (.string sg))] [P] (ESt A B rw P l k d e) fun t s => t = .c (.val (.bool false)) ∧ s = ESt A B rw P l k d e := by
 refine acall_body Tryz.func212 rfl (Nat.le_of_ble_eq_true rfl) ?_
 show AWp Tryz.prog _ ⟨32, [P], ⟨A ++ ⟨P, 197, [.sl l.length (l.flatMap encT), .val (.int .i64 ((k : Nat) : Int)), .val (.int .i64 ((d : Nat) : Int)), .val (.int .i64 ((e : Nat) : Int))]⟩ :: B, rw⟩, [(0, .c (.val (.pointer (some ⟨P, 0, none⟩)))), (1, .c (.val (.string sg)))]⟩ _
 refine go 6 ?_
 refine aw_region_drew [P] (by kernel_rfl) ?_
 refine tks [(0, true), (1, true), (2, true), (3, true), (4, true), (5, true), (6, true), (7, true)] 20 (by kernel_rfl) ?_
 refine go 9 ?_
 refine tq 8 (by kernel_rfl) rfl rfl rfl rfl (ay_ix encT encT l encT_len (fun _ => rfl) (k) rfl rfl rfl rfl hk (by decide) Tryz.runUnderlying47 Tryz.sizeOf72) ?_
 refine tks [(9, true), (10, true)] 17 (by kernel_rfl) ?_
 refine go 3 ?_
 refine tq 11 (by kernel_rfl) rfl rfl rfl rfl (ay_cmp true rfl rfl rfl (by rw [h4]; rfl)) ?_
 refine tks [(12, true), (13, true), (14, true), (15, true), (16, true), (17, true), (18, true), (19, true), (20, true)] 7 (by kernel_rfl) ?_
 refine go 10 ?_
 refine tq 21 (by kernel_rfl) rfl rfl rfl rfl (ay_ix encT encT l encT_len (fun _ => rfl) (k) rfl rfl rfl rfl hk (by decide) Tryz.runUnderlying47 Tryz.sizeOf72) ?_
 refine tks [(22, true), (23, true), (24, true)] 3 (by kernel_rfl) ?_
 refine go 4 ?_
 refine tq 25 (by kernel_rfl) rfl rfl rfl rfl (ay_streq false rfl rfl rfl (by simp [strR, ht])) ?_
 refine tks [(26, true), (27, true)] 0 (by kernel_rfl) ?_
 refine go 3 ?_
 refine any_done (by kernel_rfl) ?_
 refine go 2 ?_
 exact ⟨.inr rfl, _, (ESt A B rw P l (k) (d) (e)), res_one rfl (resv_tmp rfl), subS_of (.refl _) (.refl _), rfl, rfl⟩
set_option maxRecDepth 100000 in
set_option maxHeartbeats 1600000 in
theorem isE_0 (A B : List Box) (rw : List ORow) (P : Nat) (l : List Tok) (k d e : Nat) (sg : ByteArray) (hk : k < l.length) (h4 : ¬ l[k].kind = 4) : ACall Tryz.prog 212 [.c (.val (.pointer (some ⟨P, 0, none⟩))), .c (.val (.string sg))] [P] (ESt A B rw P l k d e) fun t s => t = .c (.val (.bool false)) ∧ s = ESt A B rw P l k d e := by
 refine acall_body Tryz.func212 rfl (Nat.le_of_ble_eq_true rfl) ?_
 show AWp Tryz.prog _ ⟨32, [P], ⟨A ++ ⟨P, 197, [.sl l.length (l.flatMap encT), .val (.int .i64 ((k : Nat) : Int)), .val (.int .i64 ((d : Nat) : Int)), .val (.int .i64 ((e : Nat) : Int))]⟩ :: B, rw⟩, [(0, .c (.val (.pointer (some ⟨P, 0, none⟩)))), (1, .c (.val (.string sg)))]⟩ _
 refine go 6 ?_
 refine aw_region_drew [P] (by kernel_rfl) ?_
 refine tks [(0, true), (1, true), (2, true), (3, true), (4, true), (5, true), (6, true), (7, true)] 20 (by kernel_rfl) ?_
 refine go 9 ?_
 refine tq 8 (by kernel_rfl) rfl rfl rfl rfl (ay_ix encT encT l encT_len (fun _ => rfl) (k) rfl rfl rfl rfl hk (by decide) Tryz.runUnderlying47 Tryz.sizeOf72) ?_
 refine tks [(9, true), (10, true)] 17 (by kernel_rfl) ?_
 refine go 3 ?_
 refine tq 11 (by kernel_rfl) rfl rfl rfl rfl (ay_cmp false rfl rfl rfl (by rw [show cmpR .eql ((l[k].kind : Nat) : Int) 4 = some (decide (l[k].kind = 4)) from cmp_nat (n := 4), decide_eq_false h4])) ?_
 refine tks [(12, true), (13, true), (14, true), (15, true), (16, true), (17, true), (18, true), (19, true), (20, true), (21, true), (22, true), (23, true), (24, true), (25, true), (26, true), (27, true)] 0 (by kernel_rfl) ?_
 refine go 17 ?_
 refine any_done (by kernel_rfl) ?_
 refine go 2 ?_
 exact ⟨.inr rfl, _, (ESt A B rw P l (k) (d) (e)), res_one rfl (resv_tmp rfl), subS_of (.refl _) (.refl _), rfl, rfl⟩
theorem isE_d (A B : List Box) (rw : List ORow) (P : Nat) (l : List Tok) (k d e : Nat) (sg : List UInt8) (hk : k < l.length) : ACall Tryz.prog 212 [.c (.val (.pointer (some ⟨P, 0, none⟩))), .c (.val (.string (bytes sg)))] [P] (ESt A B rw P l k d e) fun t s => (signAt l k sg = true ∧ t = .c (.val (.bool true)) ∧ s = ESt A B rw P l k d e) ∨ (signAt l k sg = false ∧ t = .c (.val (.bool false)) ∧ s = ESt A B rw P l k d e) := by
 unfold signAt
 rw [tokAt_lt hk]
 by_cases h4 : l[k].kind = 4
 ·by_cases ht : l[k].text = bytes sg
  ·exact (isE_y A B rw P l k d e _ hk h4 ht).mono fun t s h => .inl ⟨by simp [h4, ht], h⟩
  ·exact (isE_n A B rw P l k d e _ hk h4 ht).mono fun t s h => .inr ⟨by simp [ht], h⟩
 ·exact (isE_0 A B rw P l k d e _ hk h4).mono fun t s h => .inr ⟨by simp [h4], h⟩
set_option maxRecDepth 100000 in
set_option maxHeartbeats 1600000 in
theorem failE_c (A B : List Box) (rw : List ORow) (P : Nat) (l : List Tok) (k d e x : Nat) : ACall Tryz.prog 215 [.c (.val (.pointer (some ⟨P, 0, none⟩))), .c (.val (.int .i64 (x : Int)))] [P] (ESt A B rw P l k d e) fun t s => t = .agg (encE1 .zero) ∧ s = ESt A B rw P l k d x := by
 refine acall_body Tryz.func215 rfl (Nat.le_of_ble_eq_true rfl) ?_
 show AWp Tryz.prog _ ⟨10, [P], ⟨A ++ ⟨P, 197, [.sl l.length (l.flatMap encT), .val (.int .i64 ((k : Nat) : Int)), .val (.int .i64 ((d : Nat) : Int)), .val (.int .i64 ((e : Nat) : Int))]⟩ :: B, rw⟩, [(0, .c (.val (.pointer (some ⟨P, 0, none⟩)))), (1, .c (.val (.int .i64 (x : Int))))]⟩ _
 refine go 21 fun b1 => ?_
 exact ⟨.inr rfl, _, (ESt A B rw P l (k) (d) (x)), (res_wk (Wk.agg (.cons (WkC.refl _) (.cons (WkC.refl _) (.cons (WkC.refl _) (.cons wk_nil .nil))))) (res_one rfl (resv_cell [] rfl rfl Tryz.isAgg88 Tryz.sizeOf88 (pk_all rfl rfl)))), subS_of (.cons _ (.refl _)) (.refl _), rfl, rfl⟩
set_option maxRecDepth 100000 in
set_option maxHeartbeats 1600000 in
theorem enterE_24 (A B : List Box) (rw : List ORow) (P : Nat) (l : List Tok) (k : Nat) : ACall Tryz.prog 219 [.c (.val (.pointer (some ⟨P, 0, none⟩)))] [P] (ESt A B rw P l k 24 0) fun t s => t = .c (.val (.bool false)) ∧ s = ESt A B rw P l k 24 3 := by
 refine acall_body Tryz.func219 rfl (Nat.le_of_ble_eq_true rfl) ?_
 show AWp Tryz.prog _ ⟨25, [P], ⟨A ++ ⟨P, 197, [.sl l.length (l.flatMap encT), .val (.int .i64 ((k : Nat) : Int)), .val (.int .i64 ((24 : Nat) : Int)), .val (.int .i64 ((0 : Nat) : Int))]⟩ :: B, rw⟩, [(0, .c (.val (.pointer (some ⟨P, 0, none⟩))))]⟩ _
 refine go 12 ?_
 refine wyy rfl rfl rfl (ay_cmp true rfl rfl rfl (by rfl)) ?_
 refine go 18 ?_
 exact ⟨.inr rfl, _, (ESt A B rw P l (k) (24) (3)), res_one rfl (resv_tmp rfl), subS_of (.refl _) (.refl _), rfl, rfl⟩
set_option maxRecDepth 100000 in
set_option maxHeartbeats 1600000 in
theorem enterE_lt (A B : List Box) (rw : List ORow) (P : Nat) (l : List Tok) (k d : Nat) (hd : d < 24) (hk9 : k < 1000000) : ACall Tryz.prog 219 [.c (.val (.pointer (some ⟨P, 0, none⟩)))] [P] (ESt A B rw P l k d 0) fun t s => t = .c (.val (.bool true)) ∧ s = ESt A B rw P l (k + 1) (d + 1) 0 := by
 refine acall_body Tryz.func219 rfl (Nat.le_of_ble_eq_true rfl) ?_
 show AWp Tryz.prog _ ⟨25, [P], ⟨A ++ ⟨P, 197, [.sl l.length (l.flatMap encT), .val (.int .i64 ((k : Nat) : Int)), .val (.int .i64 ((d : Nat) : Int)), .val (.int .i64 ((0 : Nat) : Int))]⟩ :: B, rw⟩, [(0, .c (.val (.pointer (some ⟨P, 0, none⟩))))]⟩ _
 refine go 12 ?_
 refine wyy rfl rfl rfl (ay_cmp false rfl rfl rfl (by rw [show cmpR .eql ((d : Nat) : Int) 24 = some (decide (d = 24)) from cmp_nat (n := 24), decide_eq_false (by omega)])) ?_
 refine go 11 ?_
 refine wyy rfl rfl rfl (ay_add rfl rfl rfl (by omega) (by omega)) ?_
 refine go 11 ?_
 refine wyy rfl rfl rfl (ay_add rfl rfl rfl (by omega) (by omega)) ?_
 refine go 11 ?_
 exact ⟨.inr rfl, _, (ESt A B rw P l (k + 1) (d + 1) (0)), res_one rfl (resv_tmp rfl), subS_of (.refl _) (.refl _), rfl, rfl⟩
set_option maxRecDepth 100000 in
set_option maxHeartbeats 1600000 in
theorem prefixed_24 (A B : List Box) (rw : List ORow) (P : Nat) (l : List Tok) (k : Nat) (op : Int) (hok : TOk l) (hk : k < l.length) : ACall Tryz.prog 213 [.c (.val (.pointer (some ⟨P, 0, none⟩))), .c (.val (.int .i64 op))] [P] (ESt A B rw P l k 24 0) (EAn A B rw P l 24 k (.err k 3)) := by
 have hlen := hok.len
 refine acall_body Tryz.func213 rfl (Nat.le_of_ble_eq_true rfl) ?_
 show AWp Tryz.prog _ ⟨23, [P], ⟨A ++ ⟨P, 197, [.sl l.length (l.flatMap encT), .val (.int .i64 ((k : Nat) : Int)), .val (.int .i64 ((24 : Nat) : Int)), .val (.int .i64 ((0 : Nat) : Int))]⟩ :: B, rw⟩, [(0, .c (.val (.pointer (some ⟨P, 0, none⟩)))), (1, .c (.val (.int .i64 op)))]⟩ _
 refine go 9 fun b1 => ?_
 refine wcP rfl rfl rfl rfl Tryz.call219 rfl (enterE_24 (_ :: A) _ _ _ l k) (by simp) (by simp [Sto.bl]) ?_
 rintro t1 s1 ⟨rfl, rfl⟩
 refine go 12 ?_
 exact ⟨.inr rfl, _, (ESt A B rw P l (k) (24) (3)), (res_wk (Wk.agg (.cons (WkC.refl _) (.cons (WkC.refl _) (.cons (WkC.refl _) (.cons wk_nil .nil))))) (res_one rfl (resv_cell [] rfl rfl Tryz.isAgg88 Tryz.sizeOf88 (pk_all rfl rfl)))), subS_of (.cons _ (.refl _)) (.refl _), ⟨.zero, k, 24, 3, rfl, .err _ _ _ _ rfl (by decide), hk, by decide, (fun h => nomatch h), Nat.le_refl _, Nat.le_refl _, rfl⟩⟩
theorem parP_bind2 (l : List Tok) (r : PRes AExpr) : parP l r = r.bind fun x k => if signAt l k [41] then .ok x (k + 1) else .err k 4 := by cases r <;> rfl
set_option maxRecDepth 100000 in
set_option maxHeartbeats 1600000 in
theorem enclosed_24 (A B : List Box) (rw : List ORow) (P : Nat) (l : List Tok) (k : Nat) (hok : TOk l) (hk : k < l.length) : ACall Tryz.prog 214 [.c (.val (.pointer (some ⟨P, 0, none⟩)))] [P] (ESt A B rw P l k 24 0) (EAn A B rw P l 24 k (.err k 3)) := by
 have hlen := hok.len
 refine acall_body Tryz.func214 rfl (Nat.le_of_ble_eq_true rfl) ?_
 show AWp Tryz.prog _ ⟨36, [P], ⟨A ++ ⟨P, 197, [.sl l.length (l.flatMap encT), .val (.int .i64 ((k : Nat) : Int)), .val (.int .i64 ((24 : Nat) : Int)), .val (.int .i64 ((0 : Nat) : Int))]⟩ :: B, rw⟩, [(0, .c (.val (.pointer (some ⟨P, 0, none⟩))))]⟩ _
 refine go 9 fun b1 => ?_
 refine wcP rfl rfl rfl rfl Tryz.call219 rfl (enterE_24 (_ :: A) _ _ _ l k) (by simp) (by simp [Sto.bl]) ?_
 rintro t1 s1 ⟨rfl, rfl⟩
 refine go 12 ?_
 exact ⟨.inr rfl, _, (ESt A B rw P l (k) (24) (3)), (res_wk (Wk.agg (.cons (WkC.refl _) (.cons (WkC.refl _) (.cons (WkC.refl _) (.cons wk_nil .nil))))) (res_one rfl (resv_cell [] rfl rfl Tryz.isAgg88 Tryz.sizeOf88 (pk_all rfl rfl)))), subS_of (.cons _ (.refl _)) (.refl _), ⟨.zero, k, 24, 3, rfl, .err _ _ _ _ rfl (by decide), hk, by decide, (fun h => nomatch h), Nat.le_refl _, Nat.le_refl _, rfl⟩⟩
set_option maxRecDepth 100000 in
set_option maxHeartbeats 1600000 in
theorem prefixed_lt (A B : List Box) (rw : List ORow) (P : Nat) (l : List Tok) (k d j : Nat) (op : Int) (hok : TOk l) (hk : k < l.length) (hm : k + 1 < l.length) (hd : d < 24) (ih : ∀ (A B : List Box) (rw : List ORow) (P : Nat) (k : Nat), k < l.length → ACall Tryz.prog 198 [.c (.val (.pointer (some ⟨P, 0, none⟩)))] [P] (ESt A B rw P l k (d + 1) 0) (EAn A B rw P l (d + 1) k (singleP l j k))) : ACall Tryz.prog 213 [.c (.val (.pointer (some ⟨P, 0, none⟩))), .c (.val (.int .i64 op))] [P] (ESt A B rw P l k d 0) (EAn A B rw P l d k (negP op (singleP l j (k + 1)))) := by
 have hlen := hok.len
 refine acall_body Tryz.func213 rfl (Nat.le_of_ble_eq_true rfl) ?_
 show AWp Tryz.prog _ ⟨23, [P], ⟨A ++ ⟨P, 197, [.sl l.length (l.flatMap encT), .val (.int .i64 ((k : Nat) : Int)), .val (.int .i64 ((d : Nat) : Int)), .val (.int .i64 ((0 : Nat) : Int))]⟩ :: B, rw⟩, [(0, .c (.val (.pointer (some ⟨P, 0, none⟩)))), (1, .c (.val (.int .i64 op)))]⟩ _
 refine go 9 fun b1 => ?_
 refine wcP rfl rfl rfl rfl Tryz.call219 rfl (enterE_lt (_ :: A) _ _ _ l k d (by omega) (by omega)) (by simp) (by simp [Sto.bl]) ?_
 rintro t1 s1 ⟨rfl, rfl⟩
 refine go 9 ?_
 refine wcP rfl rfl rfl rfl Tryz.call198 rfl (ih (_ :: A) _ _ _ (k + 1) hm) (by simp) (by simp [Sto.bl]) ?_
 rintro t3 s3 ⟨x3, k3, d3, e3, rfl, hr3, hk3, he3, hd3, hl3, hu3, rfl⟩
 refine go 10 fun b2 => ?_
 refine wyy rfl rfl rfl (ay_subR ((d3 - 1 : Nat) : Int) rfl rfl rfl (by omega) (by omega) (by omega)) ?_
 refine go 9 ?_
 refine wo rfl (wbs Tryz.t88 [.val (.int .i64 0), .val (.int .i64 0), .val (.string ⟨#[]⟩), .val (.slice none 0 0)] rfl rfl (by decide) (.cons rfl .nil) Tryz.underlying86 (by kernel_rfl) rfl (by decide) (by decide) (by kernel_rfl) (by kernel_rfl) (fill_one encE encE1 x3 (encE_one _) rfl rfl) ?_)
 refine go 5 ?_
 exact ⟨.inr rfl, _, (ESt A B rw P l (k3) (d3 - 1) (e3)), (res_one rfl (resv_cell [_] rfl rfl Tryz.isAgg88 Tryz.sizeOf88 (pk_all rfl rfl))), subS_of (.cons _ (.cons _ (.refl _))) (.refl _), ⟨.mk op 0 emptyB [x3], k3, d3 - 1, e3, rfl, by rw [negP_bind2]; exact (Run.from hr3).map (f := fun x => AExpr.mk op 0 emptyB [x]), hk3, he3, fun h => by have := hd3 h; omega, by omega, by omega, rfl⟩⟩
set_option maxRecDepth 100000 in
set_option maxHeartbeats 1600000 in
theorem enclosed_lt (A B : List Box) (rw : List ORow) (P : Nat) (l : List Tok) (k d j : Nat) (hok : TOk l) (hk : k < l.length) (hm : k + 1 < l.length) (hd : d < 24) (ihb : ∀ (A B : List Box) (rw : List ORow) (P : Nat) (k : Nat), k < l.length → ACall Tryz.prog 182 [.c (.val (.pointer (some ⟨P, 0, none⟩))), .c (.val (.int .i64 1))] [P] (ESt A B rw P l k (d + 1) 0) (EAn A B rw P l (d + 1) k (binP l (singleP l j) 5 k))) : ACall Tryz.prog 214 [.c (.val (.pointer (some ⟨P, 0, none⟩)))] [P] (ESt A B rw P l k d 0) (EAn A B rw P l d k (parP l (binP l (singleP l j) 5 (k + 1)))) := by
 have hlen := hok.len
 refine acall_body Tryz.func214 rfl (Nat.le_of_ble_eq_true rfl) ?_
 show AWp Tryz.prog _ ⟨36, [P], ⟨A ++ ⟨P, 197, [.sl l.length (l.flatMap encT), .val (.int .i64 ((k : Nat) : Int)), .val (.int .i64 ((d : Nat) : Int)), .val (.int .i64 ((0 : Nat) : Int))]⟩ :: B, rw⟩, [(0, .c (.val (.pointer (some ⟨P, 0, none⟩))))]⟩ _
 refine go 9 fun b1 => ?_
 refine wcP rfl rfl rfl rfl Tryz.call219 rfl (enterE_lt (_ :: A) _ _ _ l k d (by omega) (by omega)) (by simp) (by simp [Sto.bl]) ?_
 rintro t1 s1 ⟨rfl, rfl⟩
 refine go 9 ?_
 refine wcP rfl rfl rfl rfl Tryz.call182 rfl (ihb (_ :: A) _ _ _ (k + 1) hm) (by simp) (by simp [Sto.bl]) ?_
 rintro t3 s3 ⟨x3, k3, d3, e3, rfl, hr3, hk3, he3, hd3, hl3, hu3, rfl⟩
 refine go 7 fun b2 => ?_
 by_cases her : e3 = 0
 ·skip
  refine go 4 ?_
  refine wyy rfl rfl rfl (ay_cmp false rfl rfl rfl (by rw [her]; rfl)) ?_
  refine go 9 ?_
  refine wcP rfl rfl rfl rfl Tryz.call212 rfl (isE_d (_ :: _ :: A) _ _ _ l k3 d3 e3 [41] hk3) (by simp) (by simp [Sto.bl]) ?_
  rintro t5 s5 (⟨ha5, rfl, rfl⟩ | ⟨ha5, rfl, rfl⟩)
  ·refine go 8 ?_
   have hm2 := sign_more hok.last hk3 ha5
   refine go 4 ?_
   refine wyy rfl rfl rfl (ay_add rfl rfl rfl (by omega) (by omega)) ?_
   refine go 11 ?_
   refine wyy rfl rfl rfl (ay_subR ((d3 - 1 : Nat) : Int) rfl rfl rfl (by omega) (by omega) (by omega)) ?_
   refine go 12 ?_
   exact ⟨.inr rfl, _, (ESt A B rw P l (k3 + 1) (d3 - 1) (e3)), (res_one rfl (resv_cell [_] rfl rfl Tryz.isAgg88 Tryz.sizeOf88 (pk_all rfl rfl))), subS_of (.cons _ (.cons _ (.refl _))) (.refl _), ⟨x3, k3 + 1, d3 - 1, e3, rfl, by rw [parP_bind2]; exact (Run.from hr3).bind (by rw [her, if_pos ha5]; exact .ok _ _ _ rfl), hm2, he3, fun h => by have := hd3 h; omega, by omega, by omega, rfl⟩⟩
  ·refine go 7 ?_
   refine wcP rfl rfl rfl rfl Tryz.call215 rfl (failE_c (_ :: _ :: A) _ _ _ l k3 d3 e3 4) (by simp) (by simp [Sto.bl]) ?_
   rintro t8 s8 ⟨rfl, rfl⟩
   refine go 5 ?_
   exact ⟨.inr rfl, _, (ESt A B rw P l (k3) (d3) (4)), (res_one rfl (resv_cell [_] rfl rfl Tryz.isAgg88 Tryz.sizeOf88 (pk_all rfl rfl))), subS_of (.cons _ (.cons _ (.refl _))) (.refl _), ⟨.zero, k3, d3, 4, rfl, by rw [parP_bind2]; exact (Run.from hr3).bind (by rw [her, if_neg (by rw [ha5]; decide)]; exact .err _ _ _ _ rfl (by decide)), hk3, by decide, (fun h => nomatch h), by omega, by omega, rfl⟩⟩
 ·skip
  refine go 4 ?_
  refine wyy rfl rfl rfl (ay_cmp true rfl rfl rfl (by simp [cmpR, her])) ?_
  refine go 11 ?_
  exact ⟨.inr rfl, _, (ESt A B rw P l (k3) (d3) (e3)), (res_one rfl (resv_cell [_] rfl rfl Tryz.isAgg88 Tryz.sizeOf88 (pk_all rfl rfl))), subS_of (.cons _ (.cons _ (.refl _))) (.refl _), ⟨x3, k3, d3, e3, rfl, by rw [parP_bind2]; exact (Run.from hr3).bind (.skip her _ _), hk3, he3, fun h => absurd h her, by omega, by omega, rfl⟩⟩
set_option maxRecDepth 100000 in
set_option maxHeartbeats 1600000 in
theorem single_24 (A B : List Box) (rw : List ORow) (P : Nat) (l : List Tok) (k : Nat) (hok : TOk l) (hk : k < l.length) : ACall Tryz.prog 198 [.c (.val (.pointer (some ⟨P, 0, none⟩)))] [P] (ESt A B rw P l k 24 0) (EAn A B rw P l 24 k (singleP l 0 k)) := by
 have hlen := hok.len
 refine acall_body Tryz.func198 rfl (Nat.le_of_ble_eq_true rfl) ?_
 show AWp Tryz.prog _ ⟨59, [P], ⟨A ++ ⟨P, 197, [.sl l.length (l.flatMap encT), .val (.int .i64 ((k : Nat) : Int)), .val (.int .i64 ((24 : Nat) : Int)), .val (.int .i64 ((0 : Nat) : Int))]⟩ :: B, rw⟩, [(0, .c (.val (.pointer (some ⟨P, 0, none⟩))))]⟩ _
 refine go 6 fun b1 => ?_
 refine aw_region_drew [b1, P] (by kernel_rfl) ?_
 refine tks [(0, true), (1, true), (2, true), (3, true), (4, true), (5, true), (6, true), (7, true)] 4 (by kernel_rfl) ?_
 refine go 9 ?_
 refine tq 8 (by kernel_rfl) rfl rfl rfl rfl (ay_ix encT encT l encT_len (fun _ => rfl) (k) rfl rfl rfl rfl hk (by decide) Tryz.runUnderlying47 Tryz.sizeOf72) ?_
 refine tks [(9, true), (10, false), (11, false)] 0 (by kernel_rfl) ?_
 refine go 4 fun b2 => ?_
 refine any_done (by kernel_rfl) ?_
 refine go 5 ?_
 rcases (show l[k].kind = 2 ∨ (¬ l[k].kind = 2 ∧ l[k].kind = 1) ∨ (¬ l[k].kind = 2 ∧ ¬ l[k].kind = 1) by omega) with h2 | ⟨h2, h1⟩ | ⟨h2, h1⟩
 ·skip
  have hm := hok.last.more hk (by rw [tokAt_lt hk, h2]; decide)
  refine go 2 ?_
  refine wyy rfl rfl rfl (ay_cmp true rfl rfl rfl (by rw [h2]; rfl)) ?_
  refine go 10 ?_
  refine wyy rfl rfl rfl (ay_add rfl rfl rfl (by omega) (by omega)) ?_
  refine go 16 ?_
  exact ⟨.inr rfl, _, (ESt A B rw P l (k + 1) (24) (0)), (res_wk (Wk.agg (.cons (WkC.refl _) (.cons (WkC.refl _) (.cons (WkC.refl _) (.cons wk_nil .nil))))) (res_one rfl (resv_cell [_] rfl rfl Tryz.isAgg88 Tryz.sizeOf88 (pk_all rfl rfl)))), subS_of (.cons _ (.cons _ (.refl _))) (.refl _), ⟨.mk 1 (l[k].num : Int) emptyB [], k + 1, 24, 0, rfl, .ok _ _ _ (by unfold singleP; rw [tokAt_lt hk, if_pos h2]), hm, by decide, fun _ => rfl, Nat.le_refl _, by omega, rfl⟩⟩
 ·skip
  have hm := hok.last.more hk (by rw [tokAt_lt hk, h1]; decide)
  refine go 2 ?_
  refine wyy rfl rfl rfl (ay_cmp false rfl rfl rfl (by rw [show cmpR .eql ((l[k].kind : Nat) : Int) 2 = some (decide (l[k].kind = 2)) from cmp_nat (n := 2), decide_eq_false h2])) ?_
  refine go 8 ?_
  refine wyy rfl rfl rfl (ay_cmp true rfl rfl rfl (by rw [h1]; rfl)) ?_
  refine go 10 ?_
  refine wyy rfl rfl rfl (ay_add rfl rfl rfl (by omega) (by omega)) ?_
  refine go 16 ?_
  exact ⟨.inr rfl, _, (ESt A B rw P l (k + 1) (24) (0)), (res_wk (Wk.agg (.cons (WkC.refl _) (.cons (WkC.refl _) (.cons (WkC.refl _) (.cons wk_nil .nil))))) (res_one rfl (resv_cell [_] rfl rfl Tryz.isAgg88 Tryz.sizeOf88 (pk_all rfl rfl)))), subS_of (.cons _ (.cons _ (.refl _))) (.refl _), ⟨.mk 2 0 l[k].text [], k + 1, 24, 0, rfl, .ok _ _ _ (by unfold singleP; rw [tokAt_lt hk, if_neg h2, if_pos h1]), hm, by decide, fun _ => rfl, Nat.le_refl _, by omega, rfl⟩⟩
 ·skip
  refine go 2 ?_
  refine wyy rfl rfl rfl (ay_cmp false rfl rfl rfl (by rw [show cmpR .eql ((l[k].kind : Nat) : Int) 2 = some (decide (l[k].kind = 2)) from cmp_nat (n := 2), decide_eq_false h2])) ?_
  refine go 8 ?_
  refine wyy rfl rfl rfl (ay_cmp false rfl rfl rfl (by rw [show cmpR .eql ((l[k].kind : Nat) : Int) 1 = some (decide (l[k].kind = 1)) from cmp_nat (n := 1), decide_eq_false h1])) ?_
  refine go 7 ?_
  refine wcP rfl rfl rfl rfl Tryz.call212 rfl (isE_d (_ :: _ :: A) _ _ _ l k 24 0 [45] hk) (by simp) (by simp [Sto.bl]) ?_
  rintro t6 s6 (⟨ha6, rfl, rfl⟩ | ⟨ha6, rfl, rfl⟩)
  ·refine go 7 ?_
   have hm := sign_more hok.last hk ha6
   refine wcP rfl rfl rfl rfl Tryz.call213 rfl (prefixed_24 (_ :: _ :: A) _ _ _ l k 3 hok hk) (by simp) (by simp [Sto.bl]) ?_
   rintro t8 s8 ⟨x8, k8, d8, e8, rfl, hr8, hk8, he8, hd8, hl8, hu8, rfl⟩
   refine go 6 ?_
   exact ⟨.inr rfl, _, (ESt A B rw P l (k8) (d8) (e8)), (res_one rfl (resv_cell [_] rfl rfl Tryz.isAgg88 Tryz.sizeOf88 (pk_all rfl rfl))), subS_of (.cons _ (.cons _ (.refl _))) (.refl _), ⟨x8, k8, d8, e8, rfl, hr8.eq fun _ => by unfold singleP; rw [if_neg (by rw [tokAt_lt hk]; exact h2), if_neg (by rw [tokAt_lt hk]; exact h1)]; rw [if_pos (by simp [ha6])], hk8, he8, hd8, hl8, hu8, rfl⟩⟩
  ·refine go 7 ?_
   refine wcP rfl rfl rfl rfl Tryz.call212 rfl (isE_d (_ :: _ :: A) _ _ _ l k 24 0 [33] hk) (by simp) (by simp [Sto.bl]) ?_
   rintro t10 s10 (⟨ha10, rfl, rfl⟩ | ⟨ha10, rfl, rfl⟩)
   ·refine go 7 ?_
    have hm := sign_more hok.last hk ha10
    refine wcP rfl rfl rfl rfl Tryz.call213 rfl (prefixed_24 (_ :: _ :: A) _ _ _ l k 4 hok hk) (by simp) (by simp [Sto.bl]) ?_
    rintro t12 s12 ⟨x12, k12, d12, e12, rfl, hr12, hk12, he12, hd12, hl12, hu12, rfl⟩
    refine go 6 ?_
    exact ⟨.inr rfl, _, (ESt A B rw P l (k12) (d12) (e12)), (res_one rfl (resv_cell [_] rfl rfl Tryz.isAgg88 Tryz.sizeOf88 (pk_all rfl rfl))), subS_of (.cons _ (.cons _ (.refl _))) (.refl _), ⟨x12, k12, d12, e12, rfl, hr12.eq fun _ => by unfold singleP; rw [if_neg (by rw [tokAt_lt hk]; exact h2), if_neg (by rw [tokAt_lt hk]; exact h1)]; rw [if_pos (by simp [ha10])], hk12, he12, hd12, hl12, hu12, rfl⟩⟩
   ·refine go 7 ?_
    refine wcP rfl rfl rfl rfl Tryz.call212 rfl (isE_d (_ :: _ :: A) _ _ _ l k 24 0 [40] hk) (by simp) (by simp [Sto.bl]) ?_
    rintro t14 s14 (⟨ha14, rfl, rfl⟩ | ⟨ha14, rfl, rfl⟩)
    ·refine go 7 ?_
     have hm := sign_more hok.last hk ha14
     refine wcP rfl rfl rfl rfl Tryz.call214 rfl (enclosed_24 (_ :: _ :: A) _ _ _ l k hok hk) (by simp) (by simp [Sto.bl]) ?_
     rintro t16 s16 ⟨x16, k16, d16, e16, rfl, hr16, hk16, he16, hd16, hl16, hu16, rfl⟩
     refine go 6 ?_
     exact ⟨.inr rfl, _, (ESt A B rw P l (k16) (d16) (e16)), (res_one rfl (resv_cell [_] rfl rfl Tryz.isAgg88 Tryz.sizeOf88 (pk_all rfl rfl))), subS_of (.cons _ (.cons _ (.refl _))) (.refl _), ⟨x16, k16, d16, e16, rfl, hr16.eq fun _ => by unfold singleP; rw [if_neg (by rw [tokAt_lt hk]; exact h2), if_neg (by rw [tokAt_lt hk]; exact h1)]; rw [if_pos (by simp [ha14])], hk16, he16, hd16, hl16, hu16, rfl⟩⟩
    ·refine go 10 ?_
     refine wcP rfl rfl rfl rfl Tryz.call215 rfl (failE_c (_ :: _ :: A) _ _ _ l k 24 0 4) (by simp) (by simp [Sto.bl]) ?_
     rintro t18 s18 ⟨rfl, rfl⟩
     refine go 4 ?_
     exact ⟨.inr rfl, _, (ESt A B rw P l (k) (24) (4)), (res_one rfl (resv_cell [_] rfl rfl Tryz.isAgg88 Tryz.sizeOf88 (pk_all rfl rfl))), subS_of (.cons _ (.cons _ (.refl _))) (.refl _), ⟨.zero, k, 24, 4, rfl, .err _ _ _ _ (by unfold singleP; rw [if_neg (by rw [tokAt_lt hk]; exact h2), if_neg (by rw [tokAt_lt hk]; exact h1)]; rw [ha6, ha10, ha14]; rfl) (by decide), hk, by decide, (fun h => nomatch h), Nat.le_refl _, by omega, rfl⟩⟩
set_option maxRecDepth 100000 in
set_option maxHeartbeats 1600000 in
theorem single_lt (A B : List Box) (rw : List ORow) (P : Nat) (l : List Tok) (k d j : Nat) (hok : TOk l) (hk : k < l.length) (hd : d < 24) (ih : ∀ (A B : List Box) (rw : List ORow) (P : Nat) (k : Nat), k < l.length → ACall Tryz.prog 198 [.c (.val (.pointer (some ⟨P, 0, none⟩)))] [P] (ESt A B rw P l k (d + 1) 0) (EAn A B rw P l (d + 1) k (singleP l j k))) (ihb : ∀ (A B : List Box) (rw : List ORow) (P : Nat) (k : Nat), k < l.length → ACall Tryz.prog 182 [.c (.val (.pointer (some ⟨P, 0, none⟩))), .c (.val (.int .i64 1))] [P] (ESt A B rw P l k (d + 1) 0) (EAn A B rw P l (d + 1) k (binP l (singleP l j) 5 k))) : ACall Tryz.prog 198 [.c (.val (.pointer (some ⟨P, 0, none⟩)))] [P] (ESt A B rw P l k d 0) (EAn A B rw P l d k (singleP l (j + 1) k)) := by
 have hlen := hok.len
 refine acall_body Tryz.func198 rfl (Nat.le_of_ble_eq_true rfl) ?_
 show AWp Tryz.prog _ ⟨59, [P], ⟨A ++ ⟨P, 197, [.sl l.length (l.flatMap encT), .val (.int .i64 ((k : Nat) : Int)), .val (.int .i64 ((d : Nat) : Int)), .val (.int .i64 ((0 : Nat) : Int))]⟩ :: B, rw⟩, [(0, .c (.val (.pointer (some ⟨P, 0, none⟩))))]⟩ _
 refine go 6 fun b1 => ?_
 refine aw_region_drew [b1, P] (by kernel_rfl) ?_
 refine tks [(0, true), (1, true), (2, true), (3, true), (4, true), (5, true), (6, true), (7, true)] 4 (by kernel_rfl) ?_
 refine go 9 ?_
 refine tq 8 (by kernel_rfl) rfl rfl rfl rfl (ay_ix encT encT l encT_len (fun _ => rfl) (k) rfl rfl rfl rfl hk (by decide) Tryz.runUnderlying47 Tryz.sizeOf72) ?_
 refine tks [(9, true), (10, false), (11, false)] 0 (by kernel_rfl) ?_
 refine go 4 fun b2 => ?_
 refine any_done (by kernel_rfl) ?_
 refine go 5 ?_
 rcases (show l[k].kind = 2 ∨ (¬ l[k].kind = 2 ∧ l[k].kind = 1) ∨ (¬ l[k].kind = 2 ∧ ¬ l[k].kind = 1) by omega) with h2 | ⟨h2, h1⟩ | ⟨h2, h1⟩
 ·skip
  have hm := hok.last.more hk (by rw [tokAt_lt hk, h2]; decide)
  refine go 2 ?_
  refine wyy rfl rfl rfl (ay_cmp true rfl rfl rfl (by rw [h2]; rfl)) ?_
  refine go 10 ?_
  refine wyy rfl rfl rfl (ay_add rfl rfl rfl (by omega) (by omega)) ?_
  refine go 16 ?_
  exact ⟨.inr rfl, _, (ESt A B rw P l (k + 1) (d) (0)), (res_wk (Wk.agg (.cons (WkC.refl _) (.cons (WkC.refl _) (.cons (WkC.refl _) (.cons wk_nil .nil))))) (res_one rfl (resv_cell [_] rfl rfl Tryz.isAgg88 Tryz.sizeOf88 (pk_all rfl rfl)))), subS_of (.cons _ (.cons _ (.refl _))) (.refl _), ⟨.mk 1 (l[k].num : Int) emptyB [], k + 1, d, 0, rfl, .ok _ _ _ (by rw [singleP.eq_2]; rw [tokAt_lt hk, if_pos h2]), hm, by decide, fun _ => rfl, Nat.le_refl _, by omega, rfl⟩⟩
 ·skip
  have hm := hok.last.more hk (by rw [tokAt_lt hk, h1]; decide)
  refine go 2 ?_
  refine wyy rfl rfl rfl (ay_cmp false rfl rfl rfl (by rw [show cmpR .eql ((l[k].kind : Nat) : Int) 2 = some (decide (l[k].kind = 2)) from cmp_nat (n := 2), decide_eq_false h2])) ?_
  refine go 8 ?_
  refine wyy rfl rfl rfl (ay_cmp true rfl rfl rfl (by rw [h1]; rfl)) ?_
  refine go 10 ?_
  refine wyy rfl rfl rfl (ay_add rfl rfl rfl (by omega) (by omega)) ?_
  refine go 16 ?_
  exact ⟨.inr rfl, _, (ESt A B rw P l (k + 1) (d) (0)), (res_wk (Wk.agg (.cons (WkC.refl _) (.cons (WkC.refl _) (.cons (WkC.refl _) (.cons wk_nil .nil))))) (res_one rfl (resv_cell [_] rfl rfl Tryz.isAgg88 Tryz.sizeOf88 (pk_all rfl rfl)))), subS_of (.cons _ (.cons _ (.refl _))) (.refl _), ⟨.mk 2 0 l[k].text [], k + 1, d, 0, rfl, .ok _ _ _ (by rw [singleP.eq_2]; rw [tokAt_lt hk, if_neg h2, if_pos h1]), hm, by decide, fun _ => rfl, Nat.le_refl _, by omega, rfl⟩⟩
 ·skip
  refine go 2 ?_
  refine wyy rfl rfl rfl (ay_cmp false rfl rfl rfl (by rw [show cmpR .eql ((l[k].kind : Nat) : Int) 2 = some (decide (l[k].kind = 2)) from cmp_nat (n := 2), decide_eq_false h2])) ?_
  refine go 8 ?_
  refine wyy rfl rfl rfl (ay_cmp false rfl rfl rfl (by rw [show cmpR .eql ((l[k].kind : Nat) : Int) 1 = some (decide (l[k].kind = 1)) from cmp_nat (n := 1), decide_eq_false h1])) ?_
  refine go 7 ?_
  refine wcP rfl rfl rfl rfl Tryz.call212 rfl (isE_d (_ :: _ :: A) _ _ _ l k d 0 [45] hk) (by simp) (by simp [Sto.bl]) ?_
  rintro t6 s6 (⟨ha6, rfl, rfl⟩ | ⟨ha6, rfl, rfl⟩)
  ·refine go 7 ?_
   have hm := sign_more hok.last hk ha6
   refine wcP rfl rfl rfl rfl Tryz.call213 rfl (prefixed_lt (_ :: _ :: A) _ _ _ l k d j 3 hok hk hm (by omega) ih) (by simp) (by simp [Sto.bl]) ?_
   rintro t8 s8 ⟨x8, k8, d8, e8, rfl, hr8, hk8, he8, hd8, hl8, hu8, rfl⟩
   refine go 6 ?_
   exact ⟨.inr rfl, _, (ESt A B rw P l (k8) (d8) (e8)), (res_one rfl (resv_cell [_] rfl rfl Tryz.isAgg88 Tryz.sizeOf88 (pk_all rfl rfl))), subS_of (.cons _ (.cons _ (.refl _))) (.refl _), ⟨x8, k8, d8, e8, rfl, hr8.eq fun _ => by rw [singleP.eq_2]; rw [if_neg (by rw [tokAt_lt hk]; exact h2), if_neg (by rw [tokAt_lt hk]; exact h1)]; rw [if_pos ha6], hk8, he8, hd8, hl8, hu8, rfl⟩⟩
  ·refine go 7 ?_
   refine wcP rfl rfl rfl rfl Tryz.call212 rfl (isE_d (_ :: _ :: A) _ _ _ l k d 0 [33] hk) (by simp) (by simp [Sto.bl]) ?_
   rintro t10 s10 (⟨ha10, rfl, rfl⟩ | ⟨ha10, rfl, rfl⟩)
   ·refine go 7 ?_
    have hm := sign_more hok.last hk ha10
    refine wcP rfl rfl rfl rfl Tryz.call213 rfl (prefixed_lt (_ :: _ :: A) _ _ _ l k d j 4 hok hk hm (by omega) ih) (by simp) (by simp [Sto.bl]) ?_
    rintro t12 s12 ⟨x12, k12, d12, e12, rfl, hr12, hk12, he12, hd12, hl12, hu12, rfl⟩
    refine go 6 ?_
    exact ⟨.inr rfl, _, (ESt A B rw P l (k12) (d12) (e12)), (res_one rfl (resv_cell [_] rfl rfl Tryz.isAgg88 Tryz.sizeOf88 (pk_all rfl rfl))), subS_of (.cons _ (.cons _ (.refl _))) (.refl _), ⟨x12, k12, d12, e12, rfl, hr12.eq fun _ => by rw [singleP.eq_2]; rw [if_neg (by rw [tokAt_lt hk]; exact h2), if_neg (by rw [tokAt_lt hk]; exact h1)]; rw [if_neg (by rw [ha6]; decide), if_pos ha10], hk12, he12, hd12, hl12, hu12, rfl⟩⟩
   ·refine go 7 ?_
    refine wcP rfl rfl rfl rfl Tryz.call212 rfl (isE_d (_ :: _ :: A) _ _ _ l k d 0 [40] hk) (by simp) (by simp [Sto.bl]) ?_
    rintro t14 s14 (⟨ha14, rfl, rfl⟩ | ⟨ha14, rfl, rfl⟩)
    ·refine go 7 ?_
     have hm := sign_more hok.last hk ha14
     refine wcP rfl rfl rfl rfl Tryz.call214 rfl (enclosed_lt (_ :: _ :: A) _ _ _ l k d j hok hk hm (by omega) ihb) (by simp) (by simp [Sto.bl]) ?_
     rintro t16 s16 ⟨x16, k16, d16, e16, rfl, hr16, hk16, he16, hd16, hl16, hu16, rfl⟩
     refine go 6 ?_
     exact ⟨.inr rfl, _, (ESt A B rw P l (k16) (d16) (e16)), (res_one rfl (resv_cell [_] rfl rfl Tryz.isAgg88 Tryz.sizeOf88 (pk_all rfl rfl))), subS_of (.cons _ (.cons _ (.refl _))) (.refl _), ⟨x16, k16, d16, e16, rfl, hr16.eq fun _ => by rw [singleP.eq_2]; rw [if_neg (by rw [tokAt_lt hk]; exact h2), if_neg (by rw [tokAt_lt hk]; exact h1)]; rw [if_neg (by rw [ha6]; decide), if_neg (by rw [ha10]; decide), if_pos ha14], hk16, he16, hd16, hl16, hu16, rfl⟩⟩
    ·refine go 10 ?_
     refine wcP rfl rfl rfl rfl Tryz.call215 rfl (failE_c (_ :: _ :: A) _ _ _ l k d 0 4) (by simp) (by simp [Sto.bl]) ?_
     rintro t18 s18 ⟨rfl, rfl⟩
     refine go 4 ?_
     exact ⟨.inr rfl, _, (ESt A B rw P l (k) (d) (4)), (res_one rfl (resv_cell [_] rfl rfl Tryz.isAgg88 Tryz.sizeOf88 (pk_all rfl rfl))), subS_of (.cons _ (.cons _ (.refl _))) (.refl _), ⟨.zero, k, d, 4, rfl, .err _ _ _ _ (by rw [singleP.eq_2]; rw [if_neg (by rw [tokAt_lt hk]; exact h2), if_neg (by rw [tokAt_lt hk]; exact h1)]; rw [if_neg (by rw [ha6]; decide), if_neg (by rw [ha10]; decide), if_neg (by rw [ha14]; decide)]) (by decide), hk, by decide, (fun h => nomatch h), Nat.le_refl _, by omega, rfl⟩⟩
end Go.Proofs.YtflcnehhpmjipaaGreatDoor
namespace Go.Proofs.YtflcnehhpmjipaaGreatDoor
open Go.RowKit
set_option synthInstance.maxHeartbeats 1000000
set_option synthInstance.maxSize 1000000
set_option linter.all false
theorem binP_s (l : List Tok) (single : Nat → PRes AExpr) (j k : Nat) : binP l single (j + 1) k = (binP l single j k).bind fun x k => loopP l (binP l single j) (5 - j) (l.length + 1) x k := by
 rw [binP]; cases binP l single j k <;> rfl
theorem loopP_s (l : List Tok) (sub : Nat → PRes AExpr) (level n : Nat) (x : AExpr) (k : Nat) : loopP l sub level (n + 1) x k = if (tokAt l k).kind = 4 ∧ (binOp (tokAt l k).text).2 = level then (sub (k + 1)).bind fun y k2 => loopP l sub level n (.mk ((binOp (tokAt l k).text).1 : Int) 0 emptyB [x, y]) k2 else .ok x k := by
 rw [loopP]
 split
 ·cases sub (k + 1) <;> rfl
 ·rfl
set_option maxRecDepth 100000 in
set_option maxHeartbeats 1600000 in
theorem binaryE_6 (A B : List Box) (rw : List ORow) (P : Nat) (l : List Tok) (k d : Nat) (sub : Nat → PRes AExpr) (hok : TOk l) (hk : k < l.length) (ih : ∀ (A B : List Box) (rw : List ORow) (P : Nat) (k : Nat), k < l.length → ACall Tryz.prog 198 [.c (.val (.pointer (some ⟨P, 0, none⟩)))] [P] (ESt A B rw P l k d 0) (EAn A B rw P l d k (sub k))) : ACall Tryz.prog 182 [.c (.val (.pointer (some ⟨P, 0, none⟩))), .c (.val (.int .i64 6))] [P] (ESt A B rw P l k d 0) (EAn A B rw P l d k (sub k)) := by
 have hlen := hok.len
 refine acall_body Tryz.func182 rfl (Nat.le_of_ble_eq_true rfl) ?_
 show AWp Tryz.prog _ ⟨71, [P], ⟨A ++ ⟨P, 197, [.sl l.length (l.flatMap encT), .val (.int .i64 ((k : Nat) : Int)), .val (.int .i64 ((d : Nat) : Int)), .val (.int .i64 ((0 : Nat) : Int))]⟩ :: B, rw⟩, [(0, .c (.val (.pointer (some ⟨P, 0, none⟩)))), (1, .c (.val (.int .i64 6)))]⟩ _
 refine go 9 fun b1 => ?_
 refine wyy rfl rfl rfl (ay_cmp true rfl rfl rfl rfl) ?_
 refine go 6 ?_
 refine wcP rfl rfl rfl rfl Tryz.call198 rfl (ih (_ :: A) _ _ _ k hk) (by simp) (by simp [Sto.bl]) ?_
 rintro t2 s2 ⟨x2, k2, d2, e2, rfl, hr2, hk2, he2, hd2, hl2, hu2, rfl⟩
 refine go 5 ?_
 exact ⟨.inr rfl, _, (ESt A B rw P l (k2) (d2) (e2)), (res_one rfl (resv_cell [] rfl rfl Tryz.isAgg88 Tryz.sizeOf88 (pk_all rfl rfl))), subS_of (.cons _ (.refl _)) (.refl _), ⟨x2, k2, d2, e2, rfl, hr2, hk2, he2, hd2, hl2, hu2, rfl⟩⟩
set_option maxRecDepth 100000 in
set_option maxHeartbeats 1600000 in
theorem binaryE_s (A B : List Box) (rw : List ORow) (P : Nat) (l : List Tok) (k d lv : Nat) (sub : Nat → PRes AExpr) (hlv : lv ≤ 5) (hin : ∀ k, k < l.length → (sub k).In l k) (hok : TOk l) (hk : k < l.length) (ih : ∀ (A B : List Box) (rw : List ORow) (P : Nat) (k : Nat), k < l.length → ACall Tryz.prog 182 [.c (.val (.pointer (some ⟨P, 0, none⟩))), .c (.val (.int .i64 ((lv : Nat) + 1 : Int)))] [P] (ESt A B rw P l k d 0) (EAn A B rw P l d k (sub k))) : ACall Tryz.prog 182 [.c (.val (.pointer (some ⟨P, 0, none⟩))), .c (.val (.int .i64 (lv : Int)))] [P] (ESt A B rw P l k d 0) (EAn A B rw P l d k ((sub k).bind fun x k => loopP l sub lv (l.length + 1) x k)) := by
 have hlen := hok.len
 refine acall_body Tryz.func182 rfl (Nat.le_of_ble_eq_true rfl) ?_
 show AWp Tryz.prog _ ⟨71, [P], ⟨A ++ ⟨P, 197, [.sl l.length (l.flatMap encT), .val (.int .i64 ((k : Nat) : Int)), .val (.int .i64 ((d : Nat) : Int)), .val (.int .i64 ((0 : Nat) : Int))]⟩ :: B, rw⟩, [(0, .c (.val (.pointer (some ⟨P, 0, none⟩)))), (1, .c (.val (.int .i64 ((lv : Nat) : Int))))]⟩ _
 refine go 9 fun b1 => ?_
 refine wyy rfl rfl rfl (ay_cmp false rfl rfl rfl (by simp [cmpR]; omega)) ?_
 refine go 9 ?_
 refine wyy rfl rfl rfl (ay_add rfl rfl rfl (by omega) (by omega)) ?_
 refine wcP rfl rfl rfl rfl Tryz.call182 rfl (ih (_ :: A) _ _ _ k hk) (by simp) (by simp [Sto.bl]) ?_
 rintro t2 s2 ⟨x2, k2, d2, e2, rfl, hr2, hk2, he2, hd2, hl2, hu2, rfl⟩
 refine go 6 fun b2 => ?_
 refine aw_loop (fun g : AExpr × Nat × Nat × Nat => (⟨71, [b2, b1, P], ⟨⟨b2, 88, encE1 (g.1)⟩ :: ⟨b1, 88, [.val (.int .i64 0), .val (.int .i64 0), .val (.string ⟨#[]⟩), .val (.slice none 0 0)]⟩ :: (A ++ ⟨P, 197, [.sl l.length (l.flatMap encT), .val (.int .i64 (((g.2.1) : Nat) : Int)), .val (.int .i64 (((g.2.2.1) : Nat) : Int)), .val (.int .i64 (((g.2.2.2) : Nat) : Int))]⟩ :: B), rw⟩, [(5, .c (.val (.pointer (some ⟨b2, 0, none⟩)))), (4, .c (.val (.pointer (some ⟨b1, 0, none⟩)))), (1, .c (.val (.int .i64 ((lv : Nat) : Int)))), (0, .c (.val (.pointer (some ⟨P, 0, none⟩))))]⟩ : AS)) (fun g => g.2.1 < l.length ∧ g.2.2.2 < 16 ∧ (g.2.2.2 = 0 → g.2.2.1 = d) ∧ d ≤ g.2.2.1 ∧ g.2.2.1 ≤ 24 ∧ (g.2.2.2 ≠ 0 → Run 0 k ((sub k).bind fun x k => loopP l sub lv (l.length + 1) x k) g.1 g.2.1 g.2.2.2) ∧ (g.2.2.2 = 0 → ∃ n, l.length < n + g.2.1 ∧ ∀ z k' e', Run 0 g.2.1 (loopP l sub lv n g.1 g.2.1) z k' e' → Run 0 k ((sub k).bind fun x k => loopP l sub lv (l.length + 1) x k) z k' e')) (fun g => if g.2.2.2 = 0 then l.length - g.2.1 + 1 else 0) (x2, k2, d2, e2) (subA (.refl _) (.refl _) (fun _ h => h) (sub_cons rfl (Wk.refl _) (sub_cons rfl (Wk.refl _) (sub_cons rfl (Wk.refl _) (sub_cons rfl (Wk.refl _) sub_nil))))) ⟨hk2, he2, hd2, hl2, hu2, fun h => hr2.bind (.skip h _ _), fun h => ⟨l.length + 1, by show l.length < l.length + 1 + k2; omega, fun z k' e' h2 => hr2.bind (by rw [show e2 = 0 from h]; exact h2)⟩⟩ ?_
 rintro ⟨x0, k0, d0, e0⟩ ⟨hk0, he0, hd0, hl0, hu0, hn0, hc0⟩
 dsimp only at hk0 he0 hd0 hl0 hu0 hn0 hc0
 show AWp Tryz.prog _ (⟨71, [b2, b1, P], ⟨⟨b2, 88, encE1 (x0)⟩ :: ⟨b1, 88, [.val (.int .i64 0), .val (.int .i64 0), .val (.string ⟨#[]⟩), .val (.slice none 0 0)]⟩ :: (A ++ ⟨P, 197, [.sl l.length (l.flatMap encT), .val (.int .i64 (((k0) : Nat) : Int)), .val (.int .i64 (((d0) : Nat) : Int)), .val (.int .i64 (((e0) : Nat) : Int))]⟩ :: B), rw⟩, [(5, .c (.val (.pointer (some ⟨b2, 0, none⟩)))), (4, .c (.val (.pointer (some ⟨b1, 0, none⟩)))), (1, .c (.val (.int .i64 ((lv : Nat) : Int)))), (0, .c (.val (.pointer (some ⟨P, 0, none⟩))))]⟩ : AS) _
 by_cases h0 : e0 = 0
 ·subst h0
  obtain rfl : d = d0 := (hd0 rfl).symm
  obtain ⟨n0, hn1, hcont⟩ := hc0 rfl
  obtain ⟨m, rfl⟩ : ∃ m, n0 = m + 1 := ⟨n0 - 1, by omega⟩
  by_cases h4 : l[k0].kind = 4
  ·by_cases hlv2 : (binOp l[k0].text).2 = lv
   ·skip
    refine go 2 ?_
    refine aw_region_drew [b2, b1, P] (by kernel_rfl) ?_
    refine tks [(0, true), (1, true), (2, true), (3, true)] 15 (by kernel_rfl) ?_
    refine go 5 ?_
    refine tq 4 (by kernel_rfl) rfl rfl rfl rfl (ay_cmp true rfl rfl rfl (by rfl)) ?_
    refine tks [(5, true), (6, true), (7, true), (8, true), (9, true), (10, true), (11, true), (12, true), (13, true)] 5 (by kernel_rfl) ?_
    refine go 10 ?_
    refine tq 14 (by kernel_rfl) rfl rfl rfl rfl (ay_ix encT encT l encT_len (fun _ => rfl) (k0) rfl rfl rfl rfl hk0 (by decide) Tryz.runUnderlying47 Tryz.sizeOf72) ?_
    refine tks [(15, true), (16, true)] 2 (by kernel_rfl) ?_
    refine go 3 ?_
    refine tq 17 (by kernel_rfl) rfl rfl rfl rfl (ay_cmp true rfl rfl rfl (by rw [h4]; rfl)) ?_
    refine tks [(18, true)] 0 (by kernel_rfl) ?_
    refine go 2 ?_
    refine any_done (by kernel_rfl) ?_
    refine go 6 ?_
    refine aw_region_drew [b2, b1, P] (by kernel_rfl) ?_
    refine tks [(0, true), (1, true), (2, true), (3, true), (4, true), (5, true), (6, true), (7, true)] 9 (by kernel_rfl) ?_
    refine go 9 ?_
    refine tq 8 (by kernel_rfl) rfl rfl rfl rfl (ay_ix encT encT l encT_len (fun _ => rfl) (k0) rfl rfl rfl rfl hk0 (by decide) Tryz.runUnderlying47 Tryz.sizeOf72) ?_
    refine tks [(9, true), (10, true)] 6 (by kernel_rfl) ?_
    refine go 3 ?_
    refine one 11 (by kernel_rfl) rfl rfl (wcall [] rfl rfl (by decide) Tryz.call199 rfl (binOp_c l[k0].text _) (fun _ h => by cases h) (fun _ h => by cases h) (fun _ _ h => by cases h) ?_)
    rintro t9 s9 ⟨rfl, rfl⟩
    refine tks [(12, true), (13, true), (14, true), (15, true), (16, true)] 0 (by kernel_rfl) ?_
    refine go 6 ?_
    refine any_done (by kernel_rfl) ?_
    refine go 6 ?_
    refine wyy rfl rfl rfl (ay_cmp false rfl rfl rfl (by simp [cmpR]; omega)) ?_
    refine go 7 ?_
    have hm := hok.last.more hk0 (by rw [tokAt_lt hk0, h4]; decide)
    refine go 4 ?_
    refine wyy rfl rfl rfl (ay_add rfl rfl rfl (by omega) (by omega)) ?_
    refine go 9 ?_
    refine wyy rfl rfl rfl (ay_add rfl rfl rfl (by omega) (by omega)) ?_
    refine wcP rfl rfl rfl rfl Tryz.call182 rfl (ih (_ :: _ :: A) _ _ _ (k0 + 1) hm) (by simp) (by simp [Sto.bl]) ?_
    rintro t11 s11 ⟨x11, k11, d11, e11, rfl, hr11, hk11, he11, hd11, hl11, hu11, rfl⟩
    refine go 8 fun b3 => ?_
    refine wo rfl (wbs Tryz.t88 [.val (.int .i64 0), .val (.int .i64 0), .val (.string ⟨#[]⟩), .val (.slice none 0 0), .val (.int .i64 0), .val (.int .i64 0), .val (.string ⟨#[]⟩), .val (.slice none 0 0)] rfl rfl (by decide) (.cons rfl (.cons rfl .nil)) Tryz.underlying86 (by kernel_rfl) rfl (by decide) (by decide) (by kernel_rfl) (by kernel_rfl) (fill_two encE encE1 x0 x11 encE_one rfl (fun _ => rfl)) ?_)
    refine go 4 ?_
    have hst : ∀ z k' e', Run e11 k11 (loopP l sub lv m (.mk ((binOp l[k0].text).1 : Int) 0 emptyB [x0, x11]) k11) z k' e' → Run 0 k ((sub k).bind fun x k => loopP l sub lv (l.length + 1) x k) z k' e' := fun z k' e' h => hcont z k' e' (by rw [loopP_s, tokAt_lt hk0, if_pos ⟨h4, hlv2⟩]; exact (Run.from hr11).bind h)
    have hgo : e11 = 0 → k0 < k11 := fun h => by have h9 := hin (k0 + 1) hm; rw [(hr11.good h).2] at h9; have := h9.1; omega
    refine ⟨((.mk ((binOp l[k0].text).1 : Int) 0 emptyB [x0, x11]), k11, d11, e11), ⟨hk11, he11, hd11, by omega, hu11, fun h => hst _ _ _ (.skip h _ _), fun h => ⟨m, ?_, fun z k' e' h2 => hst _ _ _ ?_⟩⟩, ?_, subA (.cons _ (.refl _)) (.refl _) (by intro x hx; simp only [List.mem_append, List.mem_cons, List.not_mem_nil, or_false] at hx ⊢; rcases hx with h | h | h <;> simp [h]) (sub_cons rfl (Wk.refl _) (sub_cons rfl (Wk.refl _) (sub_cons rfl (Wk.refl _) (sub_cons rfl (Wk.refl _) sub_nil))))⟩
    ·have := hgo h; show l.length < m + k11; omega
    ·rw [show e11 = 0 from h]; exact h2
    ·show (if e11 = 0 then _ else _) < (if (0 : Nat) = 0 then _ else _)
     by_cases h : e11 = 0
     ·have := hgo h; rw [if_pos h, if_pos rfl]; show l.length - k11 + 1 < l.length - k0 + 1; omega
     ·rw [if_neg h, if_pos rfl]; show 0 < l.length - k0 + 1; omega
   ·skip
    refine go 2 ?_
    refine aw_region_drew [b2, b1, P] (by kernel_rfl) ?_
    refine tks [(0, true), (1, true), (2, true), (3, true)] 15 (by kernel_rfl) ?_
    refine go 5 ?_
    refine tq 4 (by kernel_rfl) rfl rfl rfl rfl (ay_cmp true rfl rfl rfl (by rfl)) ?_
    refine tks [(5, true), (6, true), (7, true), (8, true), (9, true), (10, true), (11, true), (12, true), (13, true)] 5 (by kernel_rfl) ?_
    refine go 10 ?_
    refine tq 14 (by kernel_rfl) rfl rfl rfl rfl (ay_ix encT encT l encT_len (fun _ => rfl) (k0) rfl rfl rfl rfl hk0 (by decide) Tryz.runUnderlying47 Tryz.sizeOf72) ?_
    refine tks [(15, true), (16, true)] 2 (by kernel_rfl) ?_
    refine go 3 ?_
    refine tq 17 (by kernel_rfl) rfl rfl rfl rfl (ay_cmp true rfl rfl rfl (by rw [h4]; rfl)) ?_
    refine tks [(18, true)] 0 (by kernel_rfl) ?_
    refine go 2 ?_
    refine any_done (by kernel_rfl) ?_
    refine go 6 ?_
    refine aw_region_drew [b2, b1, P] (by kernel_rfl) ?_
    refine tks [(0, true), (1, true), (2, true), (3, true), (4, true), (5, true), (6, true), (7, true)] 9 (by kernel_rfl) ?_
    refine go 9 ?_
    refine tq 8 (by kernel_rfl) rfl rfl rfl rfl (ay_ix encT encT l encT_len (fun _ => rfl) (k0) rfl rfl rfl rfl hk0 (by decide) Tryz.runUnderlying47 Tryz.sizeOf72) ?_
    refine tks [(9, true), (10, true)] 6 (by kernel_rfl) ?_
    refine go 3 ?_
    refine one 11 (by kernel_rfl) rfl rfl (wcall [] rfl rfl (by decide) Tryz.call199 rfl (binOp_c l[k0].text _) (fun _ h => by cases h) (fun _ h => by cases h) (fun _ _ h => by cases h) ?_)
    rintro t6 s6 ⟨rfl, rfl⟩
    refine tks [(12, true), (13, true), (14, true), (15, true), (16, true)] 0 (by kernel_rfl) ?_
    refine go 6 ?_
    refine any_done (by kernel_rfl) ?_
    refine go 6 ?_
    refine wyy rfl rfl rfl (ay_cmp true rfl rfl rfl (by simp [cmpR]; omega)) ?_
    refine go 16 ?_
    exact ⟨.inr rfl, _, (ESt A B rw P l (k0) (d) (0)), (res_one rfl (resv_cell [_] rfl rfl Tryz.isAgg88 Tryz.sizeOf88 (pk_all rfl rfl))), subS_of (.cons _ (.cons _ (.refl _))) (.refl _), ⟨x0, k0, d, 0, rfl, hcont _ _ _ (by rw [loopP_s, if_neg (fun h => hlv2 (by rw [← tokAt_lt hk0]; exact h.2))]; exact .ok _ _ _ rfl), hk0, by decide, fun _ => rfl, Nat.le_refl _, hu0, rfl⟩⟩
  ·skip
   refine go 2 ?_
   refine aw_region_drew [b2, b1, P] (by kernel_rfl) ?_
   refine tks [(0, true), (1, true), (2, true), (3, true)] 15 (by kernel_rfl) ?_
   refine go 5 ?_
   refine tq 4 (by kernel_rfl) rfl rfl rfl rfl (ay_cmp true rfl rfl rfl (by rfl)) ?_
   refine tks [(5, true), (6, true), (7, true), (8, true), (9, true), (10, true), (11, true), (12, true), (13, true)] 5 (by kernel_rfl) ?_
   refine go 10 ?_
   refine tq 14 (by kernel_rfl) rfl rfl rfl rfl (ay_ix encT encT l encT_len (fun _ => rfl) (k0) rfl rfl rfl rfl hk0 (by decide) Tryz.runUnderlying47 Tryz.sizeOf72) ?_
   refine tks [(15, true), (16, true)] 2 (by kernel_rfl) ?_
   refine go 3 ?_
   refine tq 17 (by kernel_rfl) rfl rfl rfl rfl (ay_cmp false rfl rfl rfl (by rw [show cmpR .eql ((l[k0].kind : Nat) : Int) 4 = some (decide (l[k0].kind = 4)) from cmp_nat (n := 4), decide_eq_false h4])) ?_
   refine tks [(18, true)] 0 (by kernel_rfl) ?_
   refine go 2 ?_
   refine any_done (by kernel_rfl) ?_
   refine go 14 ?_
   exact ⟨.inr rfl, _, (ESt A B rw P l (k0) (d) (0)), (res_one rfl (resv_cell [_] rfl rfl Tryz.isAgg88 Tryz.sizeOf88 (pk_all rfl rfl))), subS_of (.cons _ (.cons _ (.refl _))) (.refl _), ⟨x0, k0, d, 0, rfl, hcont _ _ _ (by rw [loopP_s, if_neg (fun h => h4 (by rw [← tokAt_lt hk0]; exact h.1))]; exact .ok _ _ _ rfl), hk0, by decide, fun _ => rfl, Nat.le_refl _, hu0, rfl⟩⟩
 ·skip
  refine go 2 ?_
  refine aw_region_drew [b2, b1, P] (by kernel_rfl) ?_
  refine tks [(0, true), (1, true), (2, true), (3, true)] 15 (by kernel_rfl) ?_
  refine go 5 ?_
  refine tq 4 (by kernel_rfl) rfl rfl rfl rfl (ay_cmp false rfl rfl rfl (eq_nat0 h0)) ?_
  refine tks [(5, true), (6, true), (7, true), (8, true), (9, true), (10, true), (11, true), (12, true), (13, true), (14, true), (15, true), (16, true), (17, true), (18, true)] 0 (by kernel_rfl) ?_
  refine go 15 ?_
  refine any_done (by kernel_rfl) ?_
  refine go 14 ?_
  exact ⟨.inr rfl, _, (ESt A B rw P l (k0) (d0) (e0)), (res_one rfl (resv_cell [_] rfl rfl Tryz.isAgg88 Tryz.sizeOf88 (pk_all rfl rfl))), subS_of (.cons _ (.cons _ (.refl _))) (.refl _), ⟨x0, k0, d0, e0, rfl, hn0 h0, hk0, he0, fun h => absurd h h0, hl0, hu0, rfl⟩⟩
theorem binE_all (l : List Tok) (hok : TOk l) (d D : Nat) (ih : ∀ (A B : List Box) (rw : List ORow) (P : Nat) (k : Nat), k < l.length → ACall Tryz.prog 198 [.c (.val (.pointer (some ⟨P, 0, none⟩)))] [P] (ESt A B rw P l k d 0) (EAn A B rw P l d k (singleP l D k))) : ∀ (j : Nat), j ≤ 5 → ∀ (A B : List Box) (rw : List ORow) (P : Nat) (k : Nat), k < l.length → ACall Tryz.prog 182 [.c (.val (.pointer (some ⟨P, 0, none⟩))), .c (.val (.int .i64 ((6 - j : Nat) : Int)))] [P] (ESt A B rw P l k d 0) (EAn A B rw P l d k (binP l (singleP l D) j k))
 | 0, _, A, B, rw, P, k, hk => binaryE_6 A B rw P l k d (singleP l D) hok hk fun A B rw P k hk => ih A B rw P k hk
 | j + 1, hj, A, B, rw, P, k, hk => by
  have h := binaryE_s A B rw P l k d (6 - (j + 1)) (binP l (singleP l D) j) (by omega) (fun k hk => binP_in hok.last (fun k hk => singleP_in hok.last D k hk) j k hk) hok hk (fun A B rw P k hk => by
   have h9 := binE_all l hok d D ih j (by omega) A B rw P k hk
   have e1 : (((6 - (j + 1) : Nat) : Int) + 1) = ((6 - j : Nat) : Int) := by omega
   rw [e1]; exact h9)
  rw [binP_s, show 5 - j = 6 - (j + 1) by omega]
  exact h
theorem singleE_all (l : List Tok) (hok : TOk l) : ∀ (D : Nat), D ≤ 24 → ∀ (A B : List Box) (rw : List ORow) (P : Nat) (k : Nat), k < l.length → ACall Tryz.prog 198 [.c (.val (.pointer (some ⟨P, 0, none⟩)))] [P] (ESt A B rw P l k (24 - D) 0) (EAn A B rw P l (24 - D) k (singleP l D k))
 | 0, _, A, B, rw, P, k, hk => single_24 A B rw P l k hok hk
 | D + 1, hD, A, B, rw, P, k, hk => by
  have e1 : 24 - (D + 1) + 1 = 24 - D := by omega
  exact single_lt A B rw P l k (24 - (D + 1)) D hok hk (by omega)
   (fun A B rw P k hk => by rw [e1]; exact singleE_all l hok D (by omega) A B rw P k hk)
   (fun A B rw P k hk => by rw [e1]; exact binE_all l hok (24 - D) D (singleE_all l hok D (by omega)) 5 (Nat.le_refl _) A B rw P k hk)
theorem binaryE_c (A B : List Box) (rw : List ORow) (P : Nat) (l : List Tok) (k : Nat) (hok : TOk l) (hk : k < l.length) : ACall Tryz.prog 182 [.c (.val (.pointer (some ⟨P, 0, none⟩))), .c (.val (.int .i64 1))] [P] (ESt A B rw P l k 0 0) (EAn A B rw P l 0 k (exprP l k)) :=
 binE_all l hok 0 24 (singleE_all l hok 24 (Nat.le_refl _)) 5 (Nat.le_refl _) A B rw P k hk
theorem Run.other {e0 k0 k e : Nat} {r : PRes AExpr} {x y : AExpr} (h : Run e0 k0 r x k e) (he : e ≠ 0) : Run e0 k0 r y k e := by
 rcases h with ⟨h0, h1, h2⟩ | ⟨h0, ⟨_, h2⟩ | h⟩
 ·exact .inl ⟨h0, h1, h2⟩
 ·exact absurd h2 he
 ·exact .inr ⟨h0, .inr h⟩
set_option maxRecDepth 100000 in
set_option maxHeartbeats 1600000 in
theorem parseE_c (l : List Tok) (k : Nat) (hok : TOk l) (hk : k < l.length) (s : Sto) : ACall Tryz.prog 160 [.c (.sl l.length (l.flatMap encT)), .c (.val (.int .i64 (k : Int)))] [] s fun t s' => ∃ x k1 e1, t = .tup [.agg (encE1 x), .c (.val (.int .i64 ((k1 : Nat) : Int))), .c (.val (.int .i64 ((e1 : Nat) : Int)))] ∧ Run 0 k (exprP l k) x k1 e1 ∧ k1 < l.length ∧ e1 < 16 ∧ s' = s := by
 have hlen := hok.len
 have hend : l[l.length - 1].kind = 5 := hok.last.2
 obtain ⟨bx, rw⟩ := s
 refine acall_body Tryz.func160 rfl (Nat.le_of_ble_eq_true rfl) ?_
 show AWp Tryz.prog _ ⟨54, [], ⟨bx, rw⟩, [(0, .c (.sl l.length (l.flatMap encT))), (1, .c (.val (.int .i64 ((k : Nat) : Int))))]⟩ _
 refine go 11 fun b1 => ?_
 refine wyy rfl rfl rfl (ay_cmp false rfl rfl rfl (by simp [cmpR])) ?_
 refine go 4 ?_
 refine wyy rfl rfl rfl (ay_cmp false rfl rfl rfl (by simp [cmpR]; omega)) ?_
 refine go 5 ?_
 refine wyy rfl rfl rfl (ay_sub rfl rfl rfl (by omega) (by omega)) ?_
 refine wyy rfl rfl rfl (ay_ix encT encT l encT_len (fun _ => rfl) (l.length - 1) rfl rfl rfl (by omega) (by omega) (by decide) Tryz.runUnderlying47 Tryz.sizeOf72) ?_
 refine go 2 ?_
 refine wyy rfl rfl rfl (ay_cmp false rfl rfl rfl (by rw [hend]; rfl)) ?_
 refine go 18 fun P => ?_
 refine wcP rfl rfl rfl rfl Tryz.call182 rfl (binaryE_c [] _ _ _ l k hok hk) (by simp) (by simp [Sto.bl]) ?_
 rintro t2 s2 ⟨x2, k2, d2, e2, rfl, hr2, hk2, he2, hd2, hl2, hu2, rfl⟩
 refine go 7 fun b2 => ?_
 by_cases her : e2 = 0
 ·skip
  refine go 4 ?_
  refine wyy rfl rfl rfl (ay_cmp false rfl rfl rfl (by rw [her]; rfl)) ?_
  refine go 6 ?_
  refine aw_region_drew [b2, P] (by kernel_rfl) ?_
  refine tks [(0, true), (1, true), (2, true), (3, true), (4, true), (5, false), (6, true), (7, true)] 0 (by kernel_rfl) ?_
  refine go 9 ?_
  refine any_done (by kernel_rfl) ?_
  refine go 2 ?_
  exact ⟨.inr rfl, _, ⟨bx, rw⟩, (res_three rfl (resv_cell [_, _] rfl rfl Tryz.isAgg88 Tryz.sizeOf88 (pk_all rfl rfl)) (resv_tmp rfl) (resv_tmp rfl)), subS_of (.cons _ (.cons _ (.cons _ (.refl _)))) (.refl _), ⟨x2, k2, e2, by rw [her]; rfl, hr2, hk2, he2, rfl⟩⟩
 ·skip
  refine go 4 ?_
  refine wyy rfl rfl rfl (ay_cmp true rfl rfl rfl (by simp [cmpR, her])) ?_
  refine go 4 ?_
  refine aw_region_drew [b2, P] (by kernel_rfl) ?_
  refine tks [(0, true), (1, true), (2, true), (3, true), (4, true), (5, true), (6, true), (7, true), (8, true), (9, false), (10, true), (11, true)] 0 (by kernel_rfl) ?_
  refine go 13 ?_
  refine any_done (by kernel_rfl) ?_
  refine go 3 ?_
  exact ⟨.inr rfl, _, ⟨bx, rw⟩, (res_three rfl (resv_wk (Wk.agg (.cons (WkC.refl _) (.cons (WkC.refl _) (.cons (WkC.refl _) (.cons wk_nil .nil))))) (resv_cell [_, _] rfl rfl Tryz.isAgg88 Tryz.sizeOf88 (pk_all rfl rfl))) (resv_tmp rfl) (resv_tmp rfl)), subS_of (.cons _ (.cons _ (.cons _ (.refl _)))) (.refl _), ⟨.zero, k2, e2, rfl, (hr2.other her), hk2, he2, rfl⟩⟩
end Go.Proofs.YtflcnehhpmjipaaGreatDoor
namespace Go.Proofs.YtflcnehhpmjipaaGreatDoor
open Go.RowKit
set_option synthInstance.maxHeartbeats 1000000
set_option synthInstance.maxSize 1000000
set_option linter.all false
abbrev PSt (A B : List Box) (rw : List ORow) (P : Nat) (l : List Tok) (k dp e : Nat) : Sto := ⟨A ++ ⟨P, 70, [.sl l.length (l.flatMap encT), .val (.int .i64 (k : Int)), .val (.int .i64 (dp : Int)), .val (.int .i64 (e : Int))]⟩ :: B, rw⟩
def PAn {α : Type} (A B : List Box) (rw : List ORow) (P : Nat) (l : List Tok) (dp : Nat) (enc : α → AT) (e k : Nat) (r : PRes α) (t : AT) (s : Sto) : Prop :=
 ∃ x k1 e1, t = enc x ∧ Run e k r x k1 e1 ∧ k1 < l.length ∧ e1 < 16 ∧ s = PSt A B rw P l k1 dp e1
def FailP (e x e1 : Nat) : Prop := (e = 0 → x = e1) ∧ (e ≠ 0 → e = e1)
theorem FailP.small {e x e1 : Nat} (h : FailP e x e1) (he : e < 16) (hx : x < 16) : e1 < 16 := by
 by_cases h0 : e = 0
 ·rw [← h.1 h0]; exact hx
 ·rw [← h.2 h0]; exact he
theorem FailP.run {α : Type} {e k x e1 : Nat} {r : PRes α} (h : FailP e x e1) (hx : x ≠ 0) (hr : e = 0 → r = .err k x) (y : α) : Run e k r y k e1 := by
 by_cases he : e = 0
 ·obtain rfl := h.1 he
  subst he
  exact .err _ _ _ _ (hr rfl) hx
 ·obtain rfl := h.2 he
  exact .skip he _ _
theorem wordP_more {l : List Tok} (h : TOk l) {k : Nat} (hk : k < l.length) {s : List UInt8} (ha : wordAt l k s = true) : k + 1 < l.length := h.last.more hk (by rw [(wordAt_kind ha).1]; decide)
set_option maxRecDepth 100000 in
set_option maxHeartbeats 1600000 in
theorem failP_0 (A B : List Box) (rw : List ORow) (P : Nat) (l : List Tok) (k dp x : Nat) : ACall Tryz.prog 68 [.c (.val (.pointer (some ⟨P, 0, none⟩))), .c (.val (.int .i64 (x : Int)))] [P] (PSt A B rw P l k dp 0) fun t s => t = .tup [] ∧ s = PSt A B rw P l k dp x := by
 refine acall_body Tryz.func68 rfl (Nat.le_of_ble_eq_true rfl) ?_
 show AWp Tryz.prog _ ⟨13, [P], ⟨A ++ ⟨P, 70, [.sl l.length (l.flatMap encT), .val (.int .i64 ((k : Nat) : Int)), .val (.int .i64 ((dp : Nat) : Int)), .val (.int .i64 ((0 : Nat) : Int))]⟩ :: B, rw⟩, [(0, .c (.val (.pointer (some ⟨P, 0, none⟩)))), (1, .c (.val (.int .i64 (x : Int))))]⟩ _
 refine go 6 ?_
 refine wyy rfl rfl rfl (ay_cmp true rfl rfl rfl (by rfl)) ?_
 refine go 10 ?_
 exact ⟨.inl rfl, _, (PSt A B rw P l (k) (dp) (x)), res_none rfl, subS_of (.refl _) (.refl _), rfl, rfl⟩
set_option maxRecDepth 100000 in
set_option maxHeartbeats 1600000 in
theorem failP_1 (A B : List Box) (rw : List ORow) (P : Nat) (l : List Tok) (k dp x e : Nat) (he0 : e ≠ 0) : ACall Tryz.prog 68 [.c (.val (.pointer (some ⟨P, 0, none⟩))), .c (.val (.int .i64 (x : Int)))] [P] (PSt A B rw P l k dp e) fun t s => t = .tup [] ∧ s = PSt A B rw P l k dp e := by
 refine acall_body Tryz.func68 rfl (Nat.le_of_ble_eq_true rfl) ?_
 show AWp Tryz.prog _ ⟨13, [P], ⟨A ++ ⟨P, 70, [.sl l.length (l.flatMap encT), .val (.int .i64 ((k : Nat) : Int)), .val (.int .i64 ((dp : Nat) : Int)), .val (.int .i64 ((e : Nat) : Int))]⟩ :: B, rw⟩, [(0, .c (.val (.pointer (some ⟨P, 0, none⟩)))), (1, .c (.val (.int .i64 (x : Int))))]⟩ _
 refine go 6 ?_
 refine wyy rfl rfl rfl (ay_cmp false rfl rfl rfl (eq_nat0 he0)) ?_
 refine go 4 ?_
 exact ⟨.inl rfl, _, (PSt A B rw P l (k) (dp) (e)), res_none rfl, subS_of (.refl _) (.refl _), rfl, rfl⟩
theorem failP_c (A B : List Box) (rw : List ORow) (P : Nat) (l : List Tok) (k dp e : Nat) (x : Nat) : ACall Tryz.prog 68 [.c (.val (.pointer (some ⟨P, 0, none⟩))), .c (.val (.int .i64 (x : Int)))] [P] (PSt A B rw P l k dp e) fun t s => ∃ e1, FailP e x e1 ∧ t = .tup [] ∧ s = PSt A B rw P l k dp e1 := by
 by_cases he : e = 0
 ·subst he
  exact (failP_0 A B rw P l k dp x).mono fun t s h => ⟨x, ⟨fun _ => rfl, fun h => absurd rfl h⟩, h⟩
 ·exact (failP_1 A B rw P l k dp x e he).mono fun t s h => ⟨e, ⟨fun h => absurd h he, fun _ => rfl⟩, h⟩
set_option maxRecDepth 100000 in
set_option maxHeartbeats 1600000 in
theorem kindP_s0 (A B : List Box) (rw : List ORow) (P : Nat) (l : List Tok) (k dp kk e : Nat) (sg : ByteArray) (hk : k < l.length) (he0 : e ≠ 0) : ACall Tryz.prog 66 [.c (.val (.pointer (some ⟨P, 0, none⟩))), .c (.val (.int .i64 (kk : Int))), .c (.val (.string sg))] [P] (PSt A B rw P l k dp e) fun t s => t = .c (.val (.bool false)) ∧ s = PSt A B rw P l k dp e := by
 refine acall_body Tryz.func66 rfl (Nat.le_of_ble_eq_true rfl) ?_
 show AWp Tryz.prog _ ⟨42, [P], ⟨A ++ ⟨P, 70, [.sl l.length (l.flatMap encT), .val (.int .i64 ((k : Nat) : Int)), .val (.int .i64 ((dp : Nat) : Int)), .val (.int .i64 ((e : Nat) : Int))]⟩ :: B, rw⟩, [(0, .c (.val (.pointer (some ⟨P, 0, none⟩)))), (1, .c (.val (.int .i64 (kk : Int)))), (2, .c (.val (.string sg)))]⟩ _
 refine go 6 ?_
 refine aw_region_drew [P] (by kernel_rfl) ?_
 refine tks [(0, true), (1, true), (2, true), (3, true)] 32 (by kernel_rfl) ?_
 refine go 5 ?_
 refine tq 4 (by kernel_rfl) rfl rfl rfl rfl (ay_cmp false rfl rfl rfl (eq_nat0 he0)) ?_
 refine tks [(5, true), (6, true), (7, true), (8, true), (9, true), (10, true), (11, true), (12, true), (13, true), (14, true), (15, true), (16, true), (17, true), (18, true), (19, true), (20, true), (21, true), (22, true), (23, true), (24, true), (25, true), (26, true), (27, true), (28, true), (29, true), (30, true), (31, true), (32, true), (33, true), (34, true), (35, true)] 0 (by kernel_rfl) ?_
 refine go 32 ?_
 refine any_done (by kernel_rfl) ?_
 refine go 2 ?_
 exact ⟨.inr rfl, _, (PSt A B rw P l (k) (dp) (e)), res_one rfl (resv_tmp rfl), subS_of (.refl _) (.refl _), rfl, rfl⟩
set_option maxRecDepth 100000 in
set_option maxHeartbeats 1600000 in
theorem kindP_00 (A B : List Box) (rw : List ORow) (P : Nat) (l : List Tok) (k dp kk : Nat) (sg : ByteArray) (hk : k < l.length) (h4 : ¬ l[k].kind = kk) : ACall Tryz.prog 66 [.c (.val (.pointer (some ⟨P, 0, none⟩))), .c (.val (.int .i64 (kk : Int))), .c (.val (.string sg))] [P] (PSt A B rw P l k dp 0) fun t s => t = .c (.val (.bool false)) ∧ s = PSt A B rw P l k dp 0 := by
 refine acall_body Tryz.func66 rfl (Nat.le_of_ble_eq_true rfl) ?_
 show AWp Tryz.prog _ ⟨42, [P], ⟨A ++ ⟨P, 70, [.sl l.length (l.flatMap encT), .val (.int .i64 ((k : Nat) : Int)), .val (.int .i64 ((dp : Nat) : Int)), .val (.int .i64 ((0 : Nat) : Int))]⟩ :: B, rw⟩, [(0, .c (.val (.pointer (some ⟨P, 0, none⟩)))), (1, .c (.val (.int .i64 (kk : Int)))), (2, .c (.val (.string sg)))]⟩ _
 refine go 6 ?_
 refine aw_region_drew [P] (by kernel_rfl) ?_
 refine tks [(0, true), (1, true), (2, true), (3, true)] 32 (by kernel_rfl) ?_
 refine go 5 ?_
 refine tq 4 (by kernel_rfl) rfl rfl rfl rfl (ay_cmp true rfl rfl rfl (by rfl)) ?_
 refine tks [(5, true), (6, true), (7, true), (8, true), (9, true), (10, true), (11, true), (12, true), (13, true)] 22 (by kernel_rfl) ?_
 refine go 10 ?_
 refine tq 14 (by kernel_rfl) rfl rfl rfl rfl (ay_ix encT encT l encT_len (fun _ => rfl) (k) rfl rfl rfl rfl hk (by decide) Tryz.runUnderlying47 Tryz.sizeOf72) ?_
 refine tks [(15, true), (16, true), (17, true)] 18 (by kernel_rfl) ?_
 refine go 4 ?_
 refine tq 18 (by kernel_rfl) rfl rfl rfl rfl (ay_cmp false rfl rfl rfl (by rw [show cmpR .eql ((l[k].kind : Nat) : Int) ((kk : Nat) : Int) = some (decide (l[k].kind = kk)) from cmp_nat, decide_eq_false h4])) ?_
 refine tks [(19, true), (20, true), (21, true), (22, true), (23, true), (24, true), (25, true), (26, true), (27, true), (28, true), (29, true), (30, true), (31, true), (32, true), (33, true), (34, true), (35, true)] 0 (by kernel_rfl) ?_
 refine go 18 ?_
 refine any_done (by kernel_rfl) ?_
 refine go 2 ?_
 exact ⟨.inr rfl, _, (PSt A B rw P l (k) (dp) (0)), res_one rfl (resv_tmp rfl), subS_of (.refl _) (.refl _), rfl, rfl⟩
set_option maxRecDepth 100000 in
set_option maxHeartbeats 1600000 in
theorem kindP_y0 (A B : List Box) (rw : List ORow) (P : Nat) (l : List Tok) (k dp kk : Nat) (sg : ByteArray) (hk : k < l.length) (h4 : l[k].kind = kk) (ht : l[k].text = sg) : ACall Tryz.prog 66 [.c (.val (.pointer (some ⟨P, 0, none⟩))), .c (.val (.int .i64 (kk : Int))), .c (.val (.string sg))] [P] (PSt A B rw P l k dp 0) fun t s => t = .c (.val (.bool true)) ∧ s = PSt A B rw P l k dp 0 := by
 refine acall_body Tryz.func66 rfl (Nat.le_of_ble_eq_true rfl) ?_
 show AWp Tryz.prog _ ⟨42, [P], ⟨A ++ ⟨P, 70, [.sl l.length (l.flatMap encT), .val (.int .i64 ((k : Nat) : Int)), .val (.int .i64 ((dp : Nat) : Int)), .val (.int .i64 ((0 : Nat) : Int))]⟩ :: B, rw⟩, [(0, .c (.val (.pointer (some ⟨P, 0, none⟩)))), (1, .c (.val (.int .i64 (kk : Int)))), (2, .c (.val (.string sg)))]⟩ _
 refine go 6 ?_
 refine aw_region_drew [P] (by kernel_rfl) ?_
 refine tks [(0, true), (1, true), (2, true), (3, true)] 32 (by kernel_rfl) ?_
 refine go 5 ?_
 refine tq 4 (by kernel_rfl) rfl rfl rfl rfl (ay_cmp true rfl rfl rfl (by rfl)) ?_
 refine tks [(5, true), (6, true), (7, true), (8, true), (9, true), (10, true), (11, true), (12, true), (13, true)] 22 (by kernel_rfl) ?_
 refine go 10 ?_
 refine tq 14 (by kernel_rfl) rfl rfl rfl rfl (ay_ix encT encT l encT_len (fun _ => rfl) (k) rfl rfl rfl rfl hk (by decide) Tryz.runUnderlying47 Tryz.sizeOf72) ?_
 refine tks [(15, true), (16, true), (17, true)] 18 (by kernel_rfl) ?_
 refine go 4 ?_
 refine tq 18 (by kernel_rfl) rfl rfl rfl rfl (ay_cmp true rfl rfl rfl (by rw [h4]; simp [cmpR])) ?_
 refine tks [(19, true), (20, true), (21, true), (22, true), (23, true), (24, true), (25, true), (26, true), (27, true), (28, true)] 7 (by kernel_rfl) ?_
 refine go 11 ?_
 refine tq 29 (by kernel_rfl) rfl rfl rfl rfl (ay_ix encT encT l encT_len (fun _ => rfl) (k) rfl rfl rfl rfl hk (by decide) Tryz.runUnderlying47 Tryz.sizeOf72) ?_
 refine tks [(30, true), (31, true), (32, true)] 3 (by kernel_rfl) ?_
 refine go 4 ?_
 refine tq 33 (by kernel_rfl) rfl rfl rfl rfl (ay_streq true rfl rfl rfl (by rw [ht]; simp [strR])) ?_
 refine tks [(34, true), (35, true)] 0 (by kernel_rfl) ?_
 refine go 3 ?_
 refine any_done (by kernel_rfl) ?_
 refine go 2 ?_
 exact ⟨.inr rfl, _, (PSt A B rw P l (k) (dp) (0)), res_one rfl (resv_tmp rfl), subS_of (.refl _) (.refl _), rfl, rfl⟩
set_option maxRecDepth 100000 in
set_option maxHeartbeats 1600000 in
theorem kindP_n0 (A B : List Box) (rw : List ORow) (P : Nat) (l : List Tok) (k dp kk : Nat) (sg : ByteArray) (hk : k < l.length) (h4 : l[k].kind = kk) (ht : ¬ l[k].text = sg) : ACall Tryz.prog 66 [.c (.val (.pointer (some ⟨P, 0, none⟩))), .c (.val (.int .i64 (kk : Int))), .c (.val (.string sg))] [P] (PSt A B rw P l k dp 0) fun t s => t = .c (.val (.bool false)) ∧ s = PSt A B rw P l k dp 0 := by
 refine acall_body Tryz.func66 rfl (Nat.le_of_ble_eq_true rfl) ?_
 show AWp Tryz.prog _ ⟨42, [P], ⟨A ++ ⟨P, 70, [.sl l.length (l.flatMap encT), .val (.int .i64 ((k : Nat) : Int)), .val (.int .i64 ((dp : Nat) : Int)), .val (.int .i64 ((0 : Nat) : Int))]⟩ :: B, rw⟩, [(0, .c (.val (.pointer (some ⟨P, 0, none⟩)))), (1, .c (.val (.int .i64 (kk : Int)))), (2, .c (.val (.string sg)))]⟩ _
 refine go 6 ?_
 refine aw_region_drew [P] (by kernel_rfl) ?_
 refine tks [(0, true), (1, true), (2, true), (3, true)] 32 (by kernel_rfl) ?_
 refine go 5 ?_
 refine tq 4 (by kernel_rfl) rfl rfl rfl rfl (ay_cmp true rfl rfl rfl (by rfl)) ?_
 refine tks [(5, true), (6, true), (7, true), (8, true), (9, true), (10, true), (11, true), (12, true), (13, true)] 22 (by kernel_rfl) ?_
 refine go 10 ?_
 refine tq 14 (by kernel_rfl) rfl rfl rfl rfl (ay_ix encT encT l encT_len (fun _ => rfl) (k) rfl rfl rfl rfl hk (by decide) Tryz.runUnderlying47 Tryz.sizeOf72) ?_
 refine tks [(15, true), (16, true), (17, true)] 18 (by kernel_rfl) ?_
 refine go 4 ?_
 refine tq 18 (by kernel_rfl) rfl rfl rfl rfl (ay_cmp true rfl rfl rfl (by rw [h4]; simp [cmpR])) ?_
 refine tks [(19, true), (20, true), (21, true), (22, true), (23, true), (24, true), (25, true), (26, true), (27, true), (28, true)] 7 (by kernel_rfl) ?_
 refine go 11 ?_
 refine tq 29 (by kernel_rfl) rfl rfl rfl rfl (ay_ix encT encT l encT_len (fun _ => rfl) (k) rfl rfl rfl rfl hk (by decide) Tryz.runUnderlying47 Tryz.sizeOf72) ?_
 refine tks [(30, true), (31, true), (32, true)] 3 (by kernel_rfl) ?_
 refine go 4 ?_
 refine tq 33 (by kernel_rfl) rfl rfl rfl rfl (ay_streq false rfl rfl rfl (by simp [strR, ht])) ?_
 refine tks [(34, true), (35, true)] 0 (by kernel_rfl) ?_
 refine go 3 ?_
 refine any_done (by kernel_rfl) ?_
 refine go 2 ?_
 exact ⟨.inr rfl, _, (PSt A B rw P l (k) (dp) (0)), res_one rfl (resv_tmp rfl), subS_of (.refl _) (.refl _), rfl, rfl⟩
theorem kindP_s (A B : List Box) (rw : List ORow) (P : Nat) (l : List Tok) (k dp e : Nat) (sg : List UInt8) (hk : k < l.length) : ACall Tryz.prog 66 [.c (.val (.pointer (some ⟨P, 0, none⟩))), .c (.val (.int .i64 4)), .c (.val (.string (bytes sg)))] [P] (PSt A B rw P l k dp e) fun t s => (e = 0 ∧ signAt l k sg = true ∧ t = .c (.val (.bool true)) ∧ s = PSt A B rw P l k dp e) ∨ ((e = 0 → signAt l k sg = false) ∧ t = .c (.val (.bool false)) ∧ s = PSt A B rw P l k dp e) := by
 unfold signAt
 rw [tokAt_lt hk]
 by_cases he : e = 0
 ·subst he
  by_cases h4 : l[k].kind = 4
  ·by_cases ht : l[k].text = bytes sg
   ·exact (kindP_y0 A B rw P l k dp 4 _ hk h4 ht).mono fun t s h => .inl ⟨rfl, by simp [h4, ht], h⟩
   ·exact (kindP_n0 A B rw P l k dp 4 _ hk h4 ht).mono fun t s h => .inr ⟨fun _ => by simp [ht], h⟩
  ·exact (kindP_00 A B rw P l k dp 4 _ hk h4).mono fun t s h => .inr ⟨fun _ => by simp [h4], h⟩
 ·exact (kindP_s0 A B rw P l k dp 4 e _ hk he).mono fun t s h => .inr ⟨fun h0 => absurd h0 he, h⟩
theorem kindP_w (A B : List Box) (rw : List ORow) (P : Nat) (l : List Tok) (k dp e : Nat) (sg : List UInt8) (hk : k < l.length) : ACall Tryz.prog 66 [.c (.val (.pointer (some ⟨P, 0, none⟩))), .c (.val (.int .i64 3)), .c (.val (.string (bytes sg)))] [P] (PSt A B rw P l k dp e) fun t s => (e = 0 ∧ wordAt l k sg = true ∧ t = .c (.val (.bool true)) ∧ s = PSt A B rw P l k dp e) ∨ ((e = 0 → wordAt l k sg = false) ∧ t = .c (.val (.bool false)) ∧ s = PSt A B rw P l k dp e) := by
 unfold wordAt
 rw [tokAt_lt hk]
 by_cases he : e = 0
 ·subst he
  by_cases h4 : l[k].kind = 3
  ·by_cases ht : l[k].text = bytes sg
   ·exact (kindP_y0 A B rw P l k dp 3 _ hk h4 ht).mono fun t s h => .inl ⟨rfl, by simp [h4, ht], h⟩
   ·exact (kindP_n0 A B rw P l k dp 3 _ hk h4 ht).mono fun t s h => .inr ⟨fun _ => by simp [ht], h⟩
  ·exact (kindP_00 A B rw P l k dp 3 _ hk h4).mono fun t s h => .inr ⟨fun _ => by simp [h4], h⟩
 ·exact (kindP_s0 A B rw P l k dp 3 e _ hk he).mono fun t s h => .inr ⟨fun h0 => absurd h0 he, h⟩
set_option maxRecDepth 100000 in
set_option maxHeartbeats 1600000 in
theorem accept_c (A B : List Box) (rw : List ORow) (P : Nat) (l : List Tok) (k dp e : Nat) (sg : List UInt8) (hok : TOk l) (hk : k < l.length) : ACall Tryz.prog 74 [.c (.val (.pointer (some ⟨P, 0, none⟩))), .c (.val (.string (bytes sg)))] [P] (PSt A B rw P l k dp e) fun t s => (e = 0 ∧ signAt l k sg = true ∧ k + 1 < l.length ∧ t = .c (.val (.bool true)) ∧ s = PSt A B rw P l (k + 1) dp 0) ∨ ((e = 0 → signAt l k sg = false) ∧ t = .c (.val (.bool false)) ∧ s = PSt A B rw P l k dp e) := by
 have hlen := hok.len
 refine acall_body Tryz.func74 rfl (Nat.le_of_ble_eq_true rfl) ?_
 show AWp Tryz.prog _ ⟨16, [P], ⟨A ++ ⟨P, 70, [.sl l.length (l.flatMap encT), .val (.int .i64 ((k : Nat) : Int)), .val (.int .i64 ((dp : Nat) : Int)), .val (.int .i64 ((e : Nat) : Int))]⟩ :: B, rw⟩, [(0, .c (.val (.pointer (some ⟨P, 0, none⟩)))), (1, .c (.val (.string (bytes sg))))]⟩ _
 refine go 10 ?_
 refine wcP rfl rfl rfl rfl Tryz.call66 rfl (kindP_s (A) _ _ _ l k dp e sg hk) (by simp) (by simp [Sto.bl]) ?_
 rintro t1 s1 (⟨rfl, ha1, rfl, rfl⟩ | ⟨ha1, rfl, rfl⟩)
 ·refine go 8 ?_
  have hm := sign_more hok.last hk ha1
  refine go 4 ?_
  refine wyy rfl rfl rfl (ay_add rfl rfl rfl (by omega) (by omega)) ?_
  refine go 11 ?_
  exact ⟨.inr rfl, _, (PSt A B rw P l (k + 1) (dp) (0)), res_one rfl (resv_tmp rfl), subS_of (.refl _) (.refl _), .inl ⟨rfl, ha1, hm, rfl, rfl⟩⟩
 ·refine go 11 ?_
  exact ⟨.inr rfl, _, (PSt A B rw P l (k) (dp) (e)), res_one rfl (resv_tmp rfl), subS_of (.refl _) (.refl _), .inr ⟨ha1, rfl, rfl⟩⟩
set_option maxRecDepth 100000 in
set_option maxHeartbeats 1600000 in
theorem word_c (A B : List Box) (rw : List ORow) (P : Nat) (l : List Tok) (k dp e : Nat) (sg : List UInt8) (hok : TOk l) (hk : k < l.length) : ACall Tryz.prog 105 [.c (.val (.pointer (some ⟨P, 0, none⟩))), .c (.val (.string (bytes sg)))] [P] (PSt A B rw P l k dp e) fun t s => (e = 0 ∧ wordAt l k sg = true ∧ k + 1 < l.length ∧ t = .c (.val (.bool true)) ∧ s = PSt A B rw P l (k + 1) dp 0) ∨ ((e = 0 → wordAt l k sg = false) ∧ t = .c (.val (.bool false)) ∧ s = PSt A B rw P l k dp e) := by
 have hlen := hok.len
 refine acall_body Tryz.func105 rfl (Nat.le_of_ble_eq_true rfl) ?_
 show AWp Tryz.prog _ ⟨16, [P], ⟨A ++ ⟨P, 70, [.sl l.length (l.flatMap encT), .val (.int .i64 ((k : Nat) : Int)), .val (.int .i64 ((dp : Nat) : Int)), .val (.int .i64 ((e : Nat) : Int))]⟩ :: B, rw⟩, [(0, .c (.val (.pointer (some ⟨P, 0, none⟩)))), (1, .c (.val (.string (bytes sg))))]⟩ _
 refine go 10 ?_
 refine wcP rfl rfl rfl rfl Tryz.call66 rfl (kindP_w (A) _ _ _ l k dp e sg hk) (by simp) (by simp [Sto.bl]) ?_
 rintro t1 s1 (⟨rfl, ha1, rfl, rfl⟩ | ⟨ha1, rfl, rfl⟩)
 ·refine go 8 ?_
  have hm := wordP_more hok hk ha1
  refine go 4 ?_
  refine wyy rfl rfl rfl (ay_add rfl rfl rfl (by omega) (by omega)) ?_
  refine go 11 ?_
  exact ⟨.inr rfl, _, (PSt A B rw P l (k + 1) (dp) (0)), res_one rfl (resv_tmp rfl), subS_of (.refl _) (.refl _), .inl ⟨rfl, ha1, hm, rfl, rfl⟩⟩
 ·refine go 11 ?_
  exact ⟨.inr rfl, _, (PSt A B rw P l (k) (dp) (e)), res_one rfl (resv_tmp rfl), subS_of (.refl _) (.refl _), .inr ⟨ha1, rfl, rfl⟩⟩
set_option maxRecDepth 100000 in
set_option maxHeartbeats 1600000 in
theorem signP_c (A B : List Box) (rw : List ORow) (P : Nat) (l : List Tok) (k dp e : Nat) (sg : List UInt8) (hok : TOk l) (hk : k < l.length) (he : e < 16) : ACall Tryz.prog 73 [.c (.val (.pointer (some ⟨P, 0, none⟩))), .c (.val (.string (bytes sg)))] [P] (PSt A B rw P l k dp e) (PAn A B rw P l dp (fun _ => .tup []) e k (wantP l sg k)) := by
 have hlen := hok.len
 refine acall_body Tryz.func73 rfl (Nat.le_of_ble_eq_true rfl) ?_
 show AWp Tryz.prog _ ⟨10, [P], ⟨A ++ ⟨P, 70, [.sl l.length (l.flatMap encT), .val (.int .i64 ((k : Nat) : Int)), .val (.int .i64 ((dp : Nat) : Int)), .val (.int .i64 ((e : Nat) : Int))]⟩ :: B, rw⟩, [(0, .c (.val (.pointer (some ⟨P, 0, none⟩)))), (1, .c (.val (.string (bytes sg))))]⟩ _
 refine go 4 ?_
 refine wcP rfl rfl rfl rfl Tryz.call74 rfl (accept_c (A) _ _ _ l k dp e sg hok hk) (by simp) (by simp [Sto.bl]) ?_
 rintro t1 s1 (⟨rfl, ha1, hm1, rfl, rfl⟩ | ⟨ha1, rfl, rfl⟩)
 ·refine go 5 ?_
  exact ⟨.inl rfl, _, (PSt A B rw P l (k + 1) (dp) (0)), res_none rfl, subS_of (.refl _) (.refl _), ⟨(), k + 1, 0, rfl, .ok _ _ _ (by unfold wantP; rw [if_pos ha1]), hm1, by decide, rfl⟩⟩
 ·refine go 6 ?_
  refine wcP rfl rfl rfl rfl Tryz.call68 rfl (failP_c (A) _ _ _ l k dp e 4) (by simp) (by simp [Sto.bl]) ?_
  rintro t4 s4 ⟨e4, hf4, rfl, rfl⟩
  refine go 1 ?_
  exact ⟨.inl rfl, _, (PSt A B rw P l (k) (dp) (e4)), res_none rfl, subS_of (.refl _) (.refl _), ⟨(), k, e4, rfl, hf4.run (by decide) (fun h => by unfold wantP; rw [if_neg (by rw [ha1 h]; decide)]) _, hk, (hf4.small he (by decide)), rfl⟩⟩
set_option maxRecDepth 100000 in
set_option maxHeartbeats 1600000 in
theorem nameP_s (A B : List Box) (rw : List ORow) (P : Nat) (l : List Tok) (k dp e : Nat) (hok : TOk l) (hk : k < l.length) (he : e < 16) (he0 : e ≠ 0) : ACall Tryz.prog 101 [.c (.val (.pointer (some ⟨P, 0, none⟩)))] [P] (PSt A B rw P l k dp e) (PAn A B rw P l dp (fun x => .c (.val (.string x))) e k (nameP l k)) := by
 have hlen := hok.len
 refine acall_body Tryz.func101 rfl (Nat.le_of_ble_eq_true rfl) ?_
 show AWp Tryz.prog _ ⟨43, [P], ⟨A ++ ⟨P, 70, [.sl l.length (l.flatMap encT), .val (.int .i64 ((k : Nat) : Int)), .val (.int .i64 ((dp : Nat) : Int)), .val (.int .i64 ((e : Nat) : Int))]⟩ :: B, rw⟩, [(0, .c (.val (.pointer (some ⟨P, 0, none⟩))))]⟩ _
 refine go 7 ?_
 refine aw_region_drew [P] (by kernel_rfl) ?_
 refine tks [(0, true), (1, true), (2, true), (3, true)] 15 (by kernel_rfl) ?_
 refine go 5 ?_
 refine tq 4 (by kernel_rfl) rfl rfl rfl rfl (ay_cmp true rfl rfl rfl (by simp [cmpR, he0])) ?_
 refine tks [(5, true), (6, true), (7, true), (8, true), (9, true), (10, true), (11, true), (12, true), (13, true), (14, true), (15, true), (16, true), (17, true), (18, true)] 0 (by kernel_rfl) ?_
 refine go 15 ?_
 refine any_done (by kernel_rfl) ?_
 refine go 5 ?_
 refine wcP rfl rfl rfl rfl Tryz.call68 rfl (failP_c (A) _ _ _ l k dp e 4) (by simp) (by simp [Sto.bl]) ?_
 rintro t2 s2 ⟨e2, hf2, rfl, rfl⟩
 refine go 9 ?_
 exact ⟨.inr rfl, _, (PSt A B rw P l (k) (dp) (e2)), (res_one rfl (resv_tmp rfl)), subS_of (.refl _) (.refl _), ⟨emptyB, k, e2, rfl, hf2.run (by decide) (fun h => absurd h he0) _, hk, (hf2.small he (by decide)), rfl⟩⟩
set_option maxRecDepth 100000 in
set_option maxHeartbeats 1600000 in
theorem nameP_0 (A B : List Box) (rw : List ORow) (P : Nat) (l : List Tok) (k dp : Nat) (hok : TOk l) (hk : k < l.length) (h4 : ¬ l[k].kind = 1) : ACall Tryz.prog 101 [.c (.val (.pointer (some ⟨P, 0, none⟩)))] [P] (PSt A B rw P l k dp 0) (PAn A B rw P l dp (fun x => .c (.val (.string x))) 0 k (nameP l k)) := by
 have hlen := hok.len
 refine acall_body Tryz.func101 rfl (Nat.le_of_ble_eq_true rfl) ?_
 show AWp Tryz.prog _ ⟨43, [P], ⟨A ++ ⟨P, 70, [.sl l.length (l.flatMap encT), .val (.int .i64 ((k : Nat) : Int)), .val (.int .i64 ((dp : Nat) : Int)), .val (.int .i64 ((0 : Nat) : Int))]⟩ :: B, rw⟩, [(0, .c (.val (.pointer (some ⟨P, 0, none⟩))))]⟩ _
 refine go 7 ?_
 refine aw_region_drew [P] (by kernel_rfl) ?_
 refine tks [(0, true), (1, true), (2, true), (3, true)] 15 (by kernel_rfl) ?_
 refine go 5 ?_
 refine tq 4 (by kernel_rfl) rfl rfl rfl rfl (ay_cmp false rfl rfl rfl (by rfl)) ?_
 refine tks [(5, true), (6, true), (7, true), (8, true), (9, true), (10, true), (11, true), (12, true), (13, true)] 5 (by kernel_rfl) ?_
 refine go 10 ?_
 refine tq 14 (by kernel_rfl) rfl rfl rfl rfl (ay_ix encT encT l encT_len (fun _ => rfl) (k) rfl rfl rfl rfl hk (by decide) Tryz.runUnderlying47 Tryz.sizeOf72) ?_
 refine tks [(15, true), (16, true)] 2 (by kernel_rfl) ?_
 refine go 3 ?_
 refine tq 17 (by kernel_rfl) rfl rfl rfl rfl (ay_cmp true rfl rfl rfl (by simp [cmpR]; omega)) ?_
 refine tks [(18, true)] 0 (by kernel_rfl) ?_
 refine go 2 ?_
 refine any_done (by kernel_rfl) ?_
 refine go 5 ?_
 refine wcP rfl rfl rfl rfl Tryz.call68 rfl (failP_c (A) _ _ _ l k dp 0 4) (by simp) (by simp [Sto.bl]) ?_
 rintro t2 s2 ⟨e2, hf2, rfl, rfl⟩
 obtain rfl := hf2.1 rfl
 refine go 9 ?_
 exact ⟨.inr rfl, _, (PSt A B rw P l (k) (dp) (4)), (res_one rfl (resv_tmp rfl)), subS_of (.refl _) (.refl _), ⟨emptyB, k, 4, rfl, .err _ _ _ _ (by unfold nameP; rw [tokAt_lt hk, if_neg h4]) (by decide), hk, (by decide), rfl⟩⟩
set_option maxRecDepth 100000 in
set_option maxHeartbeats 1600000 in
theorem nameP_1 (A B : List Box) (rw : List ORow) (P : Nat) (l : List Tok) (k dp : Nat) (hok : TOk l) (hk : k < l.length) (h4 : l[k].kind = 1) : ACall Tryz.prog 101 [.c (.val (.pointer (some ⟨P, 0, none⟩)))] [P] (PSt A B rw P l k dp 0) (PAn A B rw P l dp (fun x => .c (.val (.string x))) 0 k (nameP l k)) := by
 have hlen := hok.len
 refine acall_body Tryz.func101 rfl (Nat.le_of_ble_eq_true rfl) ?_
 show AWp Tryz.prog _ ⟨43, [P], ⟨A ++ ⟨P, 70, [.sl l.length (l.flatMap encT), .val (.int .i64 ((k : Nat) : Int)), .val (.int .i64 ((dp : Nat) : Int)), .val (.int .i64 ((0 : Nat) : Int))]⟩ :: B, rw⟩, [(0, .c (.val (.pointer (some ⟨P, 0, none⟩))))]⟩ _
 refine go 7 ?_
 refine aw_region_drew [P] (by kernel_rfl) ?_
 refine tks [(0, true), (1, true), (2, true), (3, true)] 15 (by kernel_rfl) ?_
 refine go 5 ?_
 refine tq 4 (by kernel_rfl) rfl rfl rfl rfl (ay_cmp false rfl rfl rfl (by rfl)) ?_
 refine tks [(5, true), (6, true), (7, true), (8, true), (9, true), (10, true), (11, true), (12, true), (13, true)] 5 (by kernel_rfl) ?_
 refine go 10 ?_
 refine tq 14 (by kernel_rfl) rfl rfl rfl rfl (ay_ix encT encT l encT_len (fun _ => rfl) (k) rfl rfl rfl rfl hk (by decide) Tryz.runUnderlying47 Tryz.sizeOf72) ?_
 refine tks [(15, true), (16, true)] 2 (by kernel_rfl) ?_
 refine go 3 ?_
 refine tq 17 (by kernel_rfl) rfl rfl rfl rfl (ay_cmp false rfl rfl rfl (by rw [h4]; rfl)) ?_
 refine tks [(18, true)] 0 (by kernel_rfl) ?_
 refine go 2 ?_
 refine any_done (by kernel_rfl) ?_
 refine go 6 ?_
 have hm := hok.last.more hk (by rw [tokAt_lt hk, h4]; decide)
 refine go 4 ?_
 refine wyy rfl rfl rfl (ay_add rfl rfl rfl (by omega) (by omega)) ?_
 refine go 6 ?_
 refine aw_region_drew [P] (by kernel_rfl) ?_
 refine tks [(0, true), (1, true), (2, true), (3, true), (4, true), (5, true), (6, true), (7, true)] 5 (by kernel_rfl) ?_
 refine go 9 ?_
 refine tq 8 (by kernel_rfl) rfl rfl rfl rfl (ay_sub rfl rfl rfl (by omega) (by omega)) ?_
 refine tq 9 (by kernel_rfl) rfl rfl rfl rfl (ay_ix encT encT l encT_len (fun _ => rfl) k rfl rfl rfl (by omega) hk (by decide) Tryz.runUnderlying47 Tryz.sizeOf72) ?_
 refine tks [(10, true), (11, true), (12, true)] 0 (by kernel_rfl) ?_
 refine go 4 ?_
 refine any_done (by kernel_rfl) ?_
 refine go 2 ?_
 exact ⟨.inr rfl, _, (PSt A B rw P l (k + 1) (dp) (0)), (res_one rfl (resv_tmp rfl)), subS_of (.refl _) (.refl _), ⟨l[k].text, k + 1, 0, rfl, .ok _ _ _ (by unfold nameP; rw [tokAt_lt hk, if_pos h4]), hm, by decide, rfl⟩⟩
theorem nameP_c (A B : List Box) (rw : List ORow) (P : Nat) (l : List Tok) (k dp e : Nat) (hok : TOk l) (hk : k < l.length) (he : e < 16) : ACall Tryz.prog 101 [.c (.val (.pointer (some ⟨P, 0, none⟩)))] [P] (PSt A B rw P l k dp e) (PAn A B rw P l dp (fun x => .c (.val (.string x))) e k (nameP l k)) := by
 by_cases h0 : e = 0
 ·subst h0
  by_cases h4 : l[k].kind = 1
  ·exact nameP_1 A B rw P l k dp hok hk h4
  ·exact nameP_0 A B rw P l k dp hok hk h4
 ·exact nameP_s A B rw P l k dp e hok hk he h0
set_option maxRecDepth 100000 in
set_option maxHeartbeats 1600000 in
theorem numP_s (A B : List Box) (rw : List ORow) (P : Nat) (l : List Tok) (k dp e : Nat) (hok : TOk l) (hk : k < l.length) (he : e < 16) (he0 : e ≠ 0) : ACall Tryz.prog 102 [.c (.val (.pointer (some ⟨P, 0, none⟩)))] [P] (PSt A B rw P l k dp e) (PAn A B rw P l dp (fun x => .c (.val (.int .i64 ((x : Nat) : Int)))) e k (numP l k)) := by
 have hlen := hok.len
 refine acall_body Tryz.func102 rfl (Nat.le_of_ble_eq_true rfl) ?_
 show AWp Tryz.prog _ ⟨43, [P], ⟨A ++ ⟨P, 70, [.sl l.length (l.flatMap encT), .val (.int .i64 ((k : Nat) : Int)), .val (.int .i64 ((dp : Nat) : Int)), .val (.int .i64 ((e : Nat) : Int))]⟩ :: B, rw⟩, [(0, .c (.val (.pointer (some ⟨P, 0, none⟩))))]⟩ _
 refine go 7 ?_
 refine aw_region_drew [P] (by kernel_rfl) ?_
 refine tks [(0, true), (1, true), (2, true), (3, true)] 15 (by kernel_rfl) ?_
 refine go 5 ?_
 refine tq 4 (by kernel_rfl) rfl rfl rfl rfl (ay_cmp true rfl rfl rfl (by simp [cmpR, he0])) ?_
 refine tks [(5, true), (6, true), (7, true), (8, true), (9, true), (10, true), (11, true), (12, true), (13, true), (14, true), (15, true), (16, true), (17, true), (18, true)] 0 (by kernel_rfl) ?_
 refine go 15 ?_
 refine any_done (by kernel_rfl) ?_
 refine go 5 ?_
 refine wcP rfl rfl rfl rfl Tryz.call68 rfl (failP_c (A) _ _ _ l k dp e 4) (by simp) (by simp [Sto.bl]) ?_
 rintro t2 s2 ⟨e2, hf2, rfl, rfl⟩
 refine go 9 ?_
 exact ⟨.inr rfl, _, (PSt A B rw P l (k) (dp) (e2)), (res_one rfl (resv_tmp rfl)), subS_of (.refl _) (.refl _), ⟨0, k, e2, rfl, hf2.run (by decide) (fun h => absurd h he0) _, hk, (hf2.small he (by decide)), rfl⟩⟩
set_option maxRecDepth 100000 in
set_option maxHeartbeats 1600000 in
theorem numP_0 (A B : List Box) (rw : List ORow) (P : Nat) (l : List Tok) (k dp : Nat) (hok : TOk l) (hk : k < l.length) (h4 : ¬ l[k].kind = 2) : ACall Tryz.prog 102 [.c (.val (.pointer (some ⟨P, 0, none⟩)))] [P] (PSt A B rw P l k dp 0) (PAn A B rw P l dp (fun x => .c (.val (.int .i64 ((x : Nat) : Int)))) 0 k (numP l k)) := by
 have hlen := hok.len
 refine acall_body Tryz.func102 rfl (Nat.le_of_ble_eq_true rfl) ?_
 show AWp Tryz.prog _ ⟨43, [P], ⟨A ++ ⟨P, 70, [.sl l.length (l.flatMap encT), .val (.int .i64 ((k : Nat) : Int)), .val (.int .i64 ((dp : Nat) : Int)), .val (.int .i64 ((0 : Nat) : Int))]⟩ :: B, rw⟩, [(0, .c (.val (.pointer (some ⟨P, 0, none⟩))))]⟩ _
 refine go 7 ?_
 refine aw_region_drew [P] (by kernel_rfl) ?_
 refine tks [(0, true), (1, true), (2, true), (3, true)] 15 (by kernel_rfl) ?_
 refine go 5 ?_
 refine tq 4 (by kernel_rfl) rfl rfl rfl rfl (ay_cmp false rfl rfl rfl (by rfl)) ?_
 refine tks [(5, true), (6, true), (7, true), (8, true), (9, true), (10, true), (11, true), (12, true), (13, true)] 5 (by kernel_rfl) ?_
 refine go 10 ?_
 refine tq 14 (by kernel_rfl) rfl rfl rfl rfl (ay_ix encT encT l encT_len (fun _ => rfl) (k) rfl rfl rfl rfl hk (by decide) Tryz.runUnderlying47 Tryz.sizeOf72) ?_
 refine tks [(15, true), (16, true)] 2 (by kernel_rfl) ?_
 refine go 3 ?_
 refine tq 17 (by kernel_rfl) rfl rfl rfl rfl (ay_cmp true rfl rfl rfl (by simp [cmpR]; omega)) ?_
 refine tks [(18, true)] 0 (by kernel_rfl) ?_
 refine go 2 ?_
 refine any_done (by kernel_rfl) ?_
 refine go 5 ?_
 refine wcP rfl rfl rfl rfl Tryz.call68 rfl (failP_c (A) _ _ _ l k dp 0 4) (by simp) (by simp [Sto.bl]) ?_
 rintro t2 s2 ⟨e2, hf2, rfl, rfl⟩
 obtain rfl := hf2.1 rfl
 refine go 9 ?_
 exact ⟨.inr rfl, _, (PSt A B rw P l (k) (dp) (4)), (res_one rfl (resv_tmp rfl)), subS_of (.refl _) (.refl _), ⟨0, k, 4, rfl, .err _ _ _ _ (by unfold numP; rw [tokAt_lt hk, if_neg h4]) (by decide), hk, (by decide), rfl⟩⟩
set_option maxRecDepth 100000 in
set_option maxHeartbeats 1600000 in
theorem numP_1 (A B : List Box) (rw : List ORow) (P : Nat) (l : List Tok) (k dp : Nat) (hok : TOk l) (hk : k < l.length) (h4 : l[k].kind = 2) : ACall Tryz.prog 102 [.c (.val (.pointer (some ⟨P, 0, none⟩)))] [P] (PSt A B rw P l k dp 0) (PAn A B rw P l dp (fun x => .c (.val (.int .i64 ((x : Nat) : Int)))) 0 k (numP l k)) := by
 have hlen := hok.len
 refine acall_body Tryz.func102 rfl (Nat.le_of_ble_eq_true rfl) ?_
 show AWp Tryz.prog _ ⟨43, [P], ⟨A ++ ⟨P, 70, [.sl l.length (l.flatMap encT), .val (.int .i64 ((k : Nat) : Int)), .val (.int .i64 ((dp : Nat) : Int)), .val (.int .i64 ((0 : Nat) : Int))]⟩ :: B, rw⟩, [(0, .c (.val (.pointer (some ⟨P, 0, none⟩))))]⟩ _
 refine go 7 ?_
 refine aw_region_drew [P] (by kernel_rfl) ?_
 refine tks [(0, true), (1, true), (2, true), (3, true)] 15 (by kernel_rfl) ?_
 refine go 5 ?_
 refine tq 4 (by kernel_rfl) rfl rfl rfl rfl (ay_cmp false rfl rfl rfl (by rfl)) ?_
 refine tks [(5, true), (6, true), (7, true), (8, true), (9, true), (10, true), (11, true), (12, true), (13, true)] 5 (by kernel_rfl) ?_
 refine go 10 ?_
 refine tq 14 (by kernel_rfl) rfl rfl rfl rfl (ay_ix encT encT l encT_len (fun _ => rfl) (k) rfl rfl rfl rfl hk (by decide) Tryz.runUnderlying47 Tryz.sizeOf72) ?_
 refine tks [(15, true), (16, true)] 2 (by kernel_rfl) ?_
 refine go 3 ?_
 refine tq 17 (by kernel_rfl) rfl rfl rfl rfl (ay_cmp false rfl rfl rfl (by rw [h4]; rfl)) ?_
 refine tks [(18, true)] 0 (by kernel_rfl) ?_
 refine go 2 ?_
 refine any_done (by kernel_rfl) ?_
 refine go 6 ?_
 have hm := hok.last.more hk (by rw [tokAt_lt hk, h4]; decide)
 refine go 4 ?_
 refine wyy rfl rfl rfl (ay_add rfl rfl rfl (by omega) (by omega)) ?_
 refine go 6 ?_
 refine aw_region_drew [P] (by kernel_rfl) ?_
 refine tks [(0, true), (1, true), (2, true), (3, true), (4, true), (5, true), (6, true), (7, true)] 5 (by kernel_rfl) ?_
 refine go 9 ?_
 refine tq 8 (by kernel_rfl) rfl rfl rfl rfl (ay_sub rfl rfl rfl (by omega) (by omega)) ?_
 refine tq 9 (by kernel_rfl) rfl rfl rfl rfl (ay_ix encT encT l encT_len (fun _ => rfl) k rfl rfl rfl (by omega) hk (by decide) Tryz.runUnderlying47 Tryz.sizeOf72) ?_
 refine tks [(10, true), (11, true), (12, true)] 0 (by kernel_rfl) ?_
 refine go 4 ?_
 refine any_done (by kernel_rfl) ?_
 refine go 2 ?_
 exact ⟨.inr rfl, _, (PSt A B rw P l (k + 1) (dp) (0)), (res_one rfl (resv_tmp rfl)), subS_of (.refl _) (.refl _), ⟨l[k].num, k + 1, 0, rfl, .ok _ _ _ (by unfold numP; rw [tokAt_lt hk, if_pos h4]), hm, by decide, rfl⟩⟩
theorem numP_c (A B : List Box) (rw : List ORow) (P : Nat) (l : List Tok) (k dp e : Nat) (hok : TOk l) (hk : k < l.length) (he : e < 16) : ACall Tryz.prog 102 [.c (.val (.pointer (some ⟨P, 0, none⟩)))] [P] (PSt A B rw P l k dp e) (PAn A B rw P l dp (fun x => .c (.val (.int .i64 ((x : Nat) : Int)))) e k (numP l k)) := by
 by_cases h0 : e = 0
 ·subst h0
  by_cases h4 : l[k].kind = 2
  ·exact numP_1 A B rw P l k dp hok hk h4
  ·exact numP_0 A B rw P l k dp hok hk h4
 ·exact numP_s A B rw P l k dp e hok hk he h0
set_option maxRecDepth 100000 in
set_option maxHeartbeats 1600000 in
theorem exprP_0 (A B : List Box) (rw : List ORow) (P : Nat) (l : List Tok) (k dp : Nat) (hok : TOk l) (hk : k < l.length) : ACall Tryz.prog 140 [.c (.val (.pointer (some ⟨P, 0, none⟩)))] [P] (PSt A B rw P l k dp 0) (PAn A B rw P l dp (fun x => .agg (encE1 x)) 0 k (exprP l k)) := by
 have hlen := hok.len
 refine acall_body Tryz.func140 rfl (Nat.le_of_ble_eq_true rfl) ?_
 show AWp Tryz.prog _ ⟨34, [P], ⟨A ++ ⟨P, 70, [.sl l.length (l.flatMap encT), .val (.int .i64 ((k : Nat) : Int)), .val (.int .i64 ((dp : Nat) : Int)), .val (.int .i64 ((0 : Nat) : Int))]⟩ :: B, rw⟩, [(0, .c (.val (.pointer (some ⟨P, 0, none⟩))))]⟩ _
 refine go 12 fun b1 => ?_
 refine wyy rfl rfl rfl (ay_cmp false rfl rfl rfl (by rfl)) ?_
 refine go 6 ?_
 refine aw_region_drew [b1, P] (by kernel_rfl) ?_
 refine tks [(0, true), (1, true), (2, true), (3, true), (4, true), (5, true), (6, true), (7, true)] 9 (by kernel_rfl) ?_
 refine go 9 ?_
 refine two 8 13 (by kernel_rfl) rfl rfl rfl rfl ?_ ?_
 ·refine (wcall [] rfl rfl (by decide) Tryz.call160 rfl (parseE_c l k hok hk _) (fun _ h => by cases h) (fun _ h => by cases h) (fun _ _ h => by cases h) ?_)
  rintro t2 s2 ⟨x2, k2, e2, rfl, hr2, hk2, he2, rfl⟩
  refine tks [(9, true), (10, true), (11, true), (12, true), (13, false), (14, false), (15, true), (16, true)] 0 (by kernel_rfl) ?_
  refine go 9 fun b2 => ?_
  refine any_done (by kernel_rfl) ?_
  refine go 22 ?_
  exact ⟨.inr rfl, _, (PSt A B rw P l (k2) (dp) (e2)), (res_one rfl (resv_cell [_] rfl rfl Tryz.isAgg88 Tryz.sizeOf88 (pk_all rfl rfl))), subS_of (.cons _ (.cons _ (.refl _))) (.refl _), ⟨x2, k2, e2, rfl, hr2, hk2, he2, rfl⟩⟩
 ·refine (walloc rfl rfl (by decide) Tryz.zeroValue88 rfl fun b3 => ?_)
  refine one 8 (by kernel_rfl) rfl rfl (wcall [] rfl rfl (by decide) Tryz.call160 rfl (parseE_c l k hok hk _) (fun _ h => by cases h) (fun _ h => by cases h) (fun _ _ h => by cases h) ?_)
  rintro t3 s3 ⟨x3, k3, e3, rfl, hr3, hk3, he3, rfl⟩
  refine tks [(9, true), (10, true), (11, true), (12, true), (14, false), (15, true), (16, true)] 0 (by kernel_rfl) ?_
  refine go 8 ?_
  refine any_done (by kernel_rfl) ?_
  refine go 22 ?_
  exact ⟨.inr rfl, _, (PSt A B rw P l (k3) (dp) (e3)), (res_one rfl (resv_cell [_] rfl rfl Tryz.isAgg88 Tryz.sizeOf88 (pk_all rfl rfl))), subS_of (.cons _ (.cons _ (.refl _))) (.refl _), ⟨x3, k3, e3, rfl, hr3, hk3, he3, rfl⟩⟩
set_option maxRecDepth 100000 in
set_option maxHeartbeats 1600000 in
theorem exprP_s (A B : List Box) (rw : List ORow) (P : Nat) (l : List Tok) (k dp e : Nat) (hok : TOk l) (hk : k < l.length) (he : e < 16) (he0 : e ≠ 0) : ACall Tryz.prog 140 [.c (.val (.pointer (some ⟨P, 0, none⟩)))] [P] (PSt A B rw P l k dp e) (PAn A B rw P l dp (fun x => .agg (encE1 x)) e k (exprP l k)) := by
 have hlen := hok.len
 refine acall_body Tryz.func140 rfl (Nat.le_of_ble_eq_true rfl) ?_
 show AWp Tryz.prog _ ⟨34, [P], ⟨A ++ ⟨P, 70, [.sl l.length (l.flatMap encT), .val (.int .i64 ((k : Nat) : Int)), .val (.int .i64 ((dp : Nat) : Int)), .val (.int .i64 ((e : Nat) : Int))]⟩ :: B, rw⟩, [(0, .c (.val (.pointer (some ⟨P, 0, none⟩))))]⟩ _
 refine go 12 fun b1 => ?_
 refine wyy rfl rfl rfl (ay_cmp true rfl rfl rfl (by simp [cmpR, he0])) ?_
 refine go 11 ?_
 exact ⟨.inr rfl, _, (PSt A B rw P l (k) (dp) (e)), (res_wk (Wk.agg (.cons (WkC.refl _) (.cons (WkC.refl _) (.cons (WkC.refl _) (.cons wk_nil .nil))))) (res_one rfl (resv_cell [] rfl rfl Tryz.isAgg88 Tryz.sizeOf88 (pk_all rfl rfl)))), subS_of (.cons _ (.refl _)) (.refl _), ⟨.zero, k, e, rfl, .skip he0 _ _, hk, he, rfl⟩⟩
theorem exprP_c (A B : List Box) (rw : List ORow) (P : Nat) (l : List Tok) (k dp e : Nat) (hok : TOk l) (hk : k < l.length) (he : e < 16) : ACall Tryz.prog 140 [.c (.val (.pointer (some ⟨P, 0, none⟩)))] [P] (PSt A B rw P l k dp e) (PAn A B rw P l dp (fun x => .agg (encE1 x)) e k (exprP l k)) := by
 by_cases h0 : e = 0
 ·subst h0; exact exprP_0 A B rw P l k dp hok hk
 ·exact exprP_s A B rw P l k dp e hok hk he h0
set_option maxRecDepth 100000 in
set_option maxHeartbeats 1600000 in
theorem refP_c (A B : List Box) (rw : List ORow) (P : Nat) (l : List Tok) (k dp e : Nat) (hok : TOk l) (hk : k < l.length) (he : e < 16) : ACall Tryz.prog 159 [.c (.val (.pointer (some ⟨P, 0, none⟩)))] [P] (PSt A B rw P l k dp e) (PAn A B rw P l dp (fun x => .agg (encR x)) e k (refP l k)) := by
 have hlen := hok.len
 refine acall_body Tryz.func159 rfl (Nat.le_of_ble_eq_true rfl) ?_
 show AWp Tryz.prog _ ⟨16, [P], ⟨A ++ ⟨P, 70, [.sl l.length (l.flatMap encT), .val (.int .i64 ((k : Nat) : Int)), .val (.int .i64 ((dp : Nat) : Int)), .val (.int .i64 ((e : Nat) : Int))]⟩ :: B, rw⟩, [(0, .c (.val (.pointer (some ⟨P, 0, none⟩))))]⟩ _
 refine go 8 fun b1 => ?_
 refine wcP rfl rfl rfl rfl Tryz.call101 rfl (nameP_c (_ :: A) _ _ _ l k dp e hok hk he) (by simp) (by simp [Sto.bl]) ?_
 rintro t1 s1 ⟨x1, k1, e1, rfl, hr1, hk1, he1, rfl⟩
 refine go 9 fun b2 => ?_
 refine wcP rfl rfl rfl rfl Tryz.call74 rfl (accept_c (_ :: _ :: A) _ _ _ l k1 dp e1 [91] hok hk1) (by simp) (by simp [Sto.bl]) ?_
 rintro t2 s2 (⟨rfl, ha2, hm2, rfl, rfl⟩ | ⟨ha2, rfl, rfl⟩)
 ·refine go 6 ?_
  refine wcP rfl rfl rfl rfl Tryz.call140 rfl (exprP_c (_ :: _ :: A) _ _ _ l (k1 + 1) dp 0 hok hm2 (by decide)) (by simp) (by simp [Sto.bl]) ?_
  rintro t4 s4 ⟨x4, k4, e4, rfl, hr4, hk4, he4, rfl⟩
  refine wo rfl (wbs Tryz.t88 [.val (.int .i64 0), .val (.int .i64 0), .val (.string ⟨#[]⟩), .val (.slice none 0 0)] rfl rfl (by decide) (.cons rfl .nil) Tryz.underlying86 (by kernel_rfl) rfl (by decide) (by decide) (by kernel_rfl) (by kernel_rfl) (fill_one encE encE1 x4 (encE_one _) rfl rfl) ?_)
  refine go 6 ?_
  refine wcP rfl rfl rfl rfl Tryz.call73 rfl (signP_c (_ :: _ :: A) _ _ _ l k4 dp e4 [93] hok hk4 he4) (by simp) (by simp [Sto.bl]) ?_
  rintro t5 s5 ⟨x5, k5, e5, rfl, hr5, hk5, he5, rfl⟩
  refine go 9 ?_
  exact ⟨.inr rfl, _, (PSt A B rw P l (k5) (dp) (e5)), (res_one rfl (resv_cell [_] rfl rfl Tryz.isAgg90 Tryz.sizeOf90 (pk_all rfl rfl))), subS_of (.cons _ (.cons _ (.refl _))) (.refl _), ⟨⟨x1, [x4]⟩, k5, e5, rfl, hr1.bind (f := refTail l) (Run.eq (Run.from (hr4.bind (f := fun e k => (wantP l [93] k).bind fun _ k => .ok ⟨x1, [e]⟩ k) (hr5.map (f := fun _ => ARef.mk x1 [x4])))) fun _ => by unfold refTail; rw [if_pos ha2]), hk5, he5, rfl⟩⟩
 ·refine go 12 ?_
  exact ⟨.inr rfl, _, (PSt A B rw P l (k1) (dp) (e1)), (res_wk (Wk.agg (.cons (WkC.refl _) (.cons wk_nil .nil))) (res_one rfl (resv_cell [_] rfl rfl Tryz.isAgg90 Tryz.sizeOf90 (pk_all rfl rfl)))), subS_of (.cons _ (.cons _ (.refl _))) (.refl _), ⟨⟨x1, []⟩, k1, e1, rfl, hr1.bind (f := refTail l) ((Run.pure _ _ _).eq fun h => by unfold refTail; rw [if_neg (by rw [ha2 h]; decide)]), hk1, he1, rfl⟩⟩
set_option maxRecDepth 100000 in
set_option maxHeartbeats 1600000 in
theorem argP_c (A B : List Box) (rw : List ORow) (P : Nat) (l : List Tok) (k dp e : Nat) (hok : TOk l) (hk : k < l.length) (he : e < 16) : ACall Tryz.prog 162 [.c (.val (.pointer (some ⟨P, 0, none⟩)))] [P] (PSt A B rw P l k dp e) (PAn A B rw P l dp (fun x => .agg (encA x)) e k (argP l k)) := by
 have hlen := hok.len
 refine acall_body Tryz.func162 rfl (Nat.le_of_ble_eq_true rfl) ?_
 show AWp Tryz.prog _ ⟨11, [P], ⟨A ++ ⟨P, 70, [.sl l.length (l.flatMap encT), .val (.int .i64 ((k : Nat) : Int)), .val (.int .i64 ((dp : Nat) : Int)), .val (.int .i64 ((e : Nat) : Int))]⟩ :: B, rw⟩, [(0, .c (.val (.pointer (some ⟨P, 0, none⟩))))]⟩ _
 refine go 9 fun b1 => ?_
 refine wcP rfl rfl rfl rfl Tryz.call105 rfl (word_c (_ :: A) _ _ _ l k dp e [109, 117, 116, 101, 120] hok hk) (by simp) (by simp [Sto.bl]) ?_
 rintro t1 s1 (⟨rfl, ha1, hm1, rfl, rfl⟩ | ⟨ha1, rfl, rfl⟩)
 ·refine go 6 ?_
  refine wcP rfl rfl rfl rfl Tryz.call159 rfl (refP_c (_ :: A) _ _ _ l (k + 1) dp 0 hok hm1 (by decide)) (by simp) (by simp [Sto.bl]) ?_
  rintro t3 s3 ⟨x3, k3, e3, rfl, hr3, hk3, he3, rfl⟩
  refine go 6 ?_
  exact ⟨.inr rfl, _, (PSt A B rw P l (k3) (dp) (e3)), (res_wk (Wk.agg (.cons (WkC.refl _) (.cons (WkC.refl _) (.cons (WkC.refl _) (.cons (WkC.refl _) (.cons (WkC.refl _) (.cons (WkC.refl _) (.cons wk_nil .nil)))))))) (res_one rfl (resv_cell [] rfl rfl Tryz.isAgg97 Tryz.sizeOf97 (pk_all rfl rfl)))), subS_of (.cons _ (.refl _)) (.refl _), ⟨⟨true, x3, .zero⟩, k3, e3, rfl, (Run.from (hr3.map (f := fun r => AArg.mk true r .zero))).eq fun _ => by unfold argP; rw [if_pos ha1], hk3, he3, rfl⟩⟩
 ·refine go 8 ?_
  refine wcP rfl rfl rfl rfl Tryz.call140 rfl (exprP_c (_ :: A) _ _ _ l k dp e hok hk he) (by simp) (by simp [Sto.bl]) ?_
  rintro t5 s5 ⟨x5, k5, e5, rfl, hr5, hk5, he5, rfl⟩
  refine go 5 ?_
  exact ⟨.inr rfl, _, (PSt A B rw P l (k5) (dp) (e5)), (res_wk (Wk.agg (.cons (WkC.refl _) (.cons (WkC.refl _) (.cons wk_nil (.cons (WkC.refl _) (.cons (WkC.refl _) (.cons (WkC.refl _) (.cons (WkC.refl _) .nil)))))))) (res_one rfl (resv_cell [] rfl rfl Tryz.isAgg97 Tryz.sizeOf97 (pk_all rfl rfl)))), subS_of (.cons _ (.refl _)) (.refl _), ⟨⟨false, .zero, x5⟩, k5, e5, rfl, (hr5.map (f := fun e => AArg.mk false .zero e)).eq fun h => by unfold argP; rw [if_neg (by rw [ha1 h]; decide)], hk5, he5, rfl⟩⟩
end Go.Proofs.YtflcnehhpmjipaaGreatDoor
