import Derived.Test.YtflcnehhpmjipaaDoorP2J
set_option linter.unusedVariables false
set_option linter.unusedSimpArgs false
namespace Go.Proofs.YtflcnehhpmjipaaDoor
open Go.RowKit
def six : AStmt → AStmt
 | .mk _ n e r a t f => .mk 6 n e r a t f
theorem lock_six (l : List Tok) (k : Nat) : lockP l 6 k = (lockP l 5 k).bind fun s k => .ok (six s) k := by
 unfold lockP semi
 cases refP l k with
 | ok r k => show ((wantP l [59] k).bind _) = ((wantP l [59] k).bind _).bind _; cases wantP l [59] k <;> rfl
 | err a e => rfl
theorem wordAt_at {l : List Tok} {k : Nat} (hk : k < l.length) (u : List UInt8) : wordAt l k u = (decide (l[k].kind = 3) && decide (l[k].text = bytes u)) := by unfold wordAt; rw [tokAt_lt hk]
set_option maxRecDepth 100000 in
set_option maxHeartbeats 1600000 in
theorem localP_c (A B : List Box) (rw : List ORow) (P : Nat) (l : List Tok) (k dp e : Nat) (hok : TOk l) (hk : k < l.length) (he : e < 16) : ACall Tryd.prog 128 [.c (.val (.pointer (some ⟨P, 0, none⟩)))] [P] (PSt A B rw P l k dp e) (PAn A B rw P l dp (fun x => .agg (encS1 x)) e k (localP l k)) := by
 have hlen := hok.len
 refine acall_body Tryd.func128 rfl (Nat.le_of_ble_eq_true rfl) ?_
 show AWp Tryd.prog _ ⟨15, [P], ⟨A ++ ⟨P, 73, [.sl l.length (l.flatMap encT), .val (.int .i64 ((k : Nat) : Int)), .val (.int .i64 ((dp : Nat) : Int)), .val (.int .i64 ((e : Nat) : Int))]⟩ :: B, rw⟩, [(0, .c (.val (.pointer (some ⟨P, 0, none⟩))))]⟩ _
 refine sqrg ?_
 refine wo rfl (walloc rfl rfl (by decide) Tryd.zeroValue119 rfl fun b1 => ?_)
 refine nx ?_
 refine wmv rfl rfl rfl rfl rfl ?_
 refine wcP rfl rfl rfl rfl Tryd.call90 rfl (nameP_c (_ :: A) _ _ _ l k dp e hok hk he) (by simp) (by simp [Sto.bl]) ?_
 rintro t1 s1 ⟨x1, k1, e1, rfl, hr1, hk1, he1, rfl⟩
 refine wyy rfl rfl rfl (ay_build Tryd.t119 [(0, 1), (1, 1), (2, 4), (6, 2), (8, 1), (9, 1), (10, 1)] rfl (.cons rfl (.cons rfl .nil)) Tryd.underlying119 (by kernel_rfl) rfl (by kernel_rfl) rfl rfl) ?_
 refine wo rfl (walloc rfl rfl (by decide) Tryd.zeroValue119 rfl fun b2 => ?_)
 refine wo rfl (wst0 rfl rfl rfl rfl rfl Tryd.sizeOf119 rfl (Nat.le_of_ble_eq_true rfl) (splice_all rfl) (by simp) (fun _ => by simp) ?_)
 refine nx ?_
 refine wmv rfl rfl rfl rfl rfl ?_
 refine wcP rfl rfl rfl rfl Tryd.call93 rfl (signP_c (_ :: _ :: A) _ _ _ l k1 dp e1 [61] hok hk1 he1) (by simp) (by simp [Sto.bl]) ?_
 rintro t2 s2 ⟨x2, k2, e2, rfl, hr2, hk2, he2, rfl⟩
 refine nx ?_
 refine wmv rfl rfl rfl rfl rfl ?_
 refine wcP rfl rfl rfl rfl Tryd.call135 rfl (exprP_c (_ :: _ :: A) _ _ _ l k2 dp e2 hok hk2 he2) (by simp) (by simp [Sto.bl]) ?_
 rintro t3 s3 ⟨x3, k3, e3, rfl, hr3, hk3, he3, rfl⟩
 refine wyy rfl rfl rfl (ay_fieldAddr 2 2 rfl rfl Tryd.runUnderlying119 rfl Tryd.sizeOf31 (by decide) rfl) ?_
 refine wo rfl (wst0 rfl rfl rfl rfl rfl Tryd.sizeOf31 rfl (Nat.le_of_ble_eq_true rfl) rfl (by simp) (fun _ => by simp) ?_)
 refine nx ?_
 refine wmv rfl rfl rfl rfl rfl ?_
 refine wcP rfl rfl rfl rfl Tryd.call93 rfl (signP_c (_ :: _ :: A) _ _ _ l k3 dp e3 [59] hok hk3 he3) (by simp) (by simp [Sto.bl]) ?_
 rintro t4 s4 ⟨x4, k4, e4, rfl, hr4, hk4, he4, rfl⟩
 refine nx ?_
 refine wyy rfl rfl rfl (ay_load_box [] rfl rfl rfl Tryd.isAgg119 Tryd.sizeOf119 rfl (fun _ h => by cases h)) ?_
 refine wo rfl (wst1 rfl rfl rfl rfl rfl Tryd.sizeOf119 rfl (Nat.le_of_ble_eq_true rfl) (splice_all rfl) (by simp) (fun _ => by simp) ?_)
 refine nlnm ?_
 refine aw_ret ?_
 have hs : Run e k (localP l k) (.mk 1 x1 x3 .zero [] [] []) k4 e4 := by
  unfold localP semi
  exact hr1.bind (hr2.bind (hr3.bind (hr4.bind (Run.pure _ _ _))))
 exact ⟨.inr rfl, _, (PSt A B rw P l (k4) (dp) (e4)), (res_wk (Wk.agg (.cons (WkC.refl _) (.cons (WkC.refl _) (.cons (WkC.refl _) (.cons (WkC.refl _) (.cons (WkC.refl _) (.cons (WkC.refl _) (.cons (WkC.refl _) (.cons wk_nil (.cons wk_nil (.cons wk_nil (.cons wk_nil .nil)))))))))))) (res_one rfl (resv_cell [_] rfl rfl Tryd.isAgg119 Tryd.sizeOf119 (pk_all rfl rfl)))), subS_of (.cons _ (.cons _ (.refl _))) (.refl _), ⟨(.mk 1 x1 x3 .zero [] [] []), k4, e4, rfl, hs, hk4, he4, rfl⟩⟩
set_option maxRecDepth 100000 in
set_option maxHeartbeats 1600000 in
theorem goP_c (A B : List Box) (rw : List ORow) (P : Nat) (l : List Tok) (k dp e : Nat) (hok : TOk l) (hk : k < l.length) (he : e < 16) : ACall Tryd.prog 129 [.c (.val (.pointer (some ⟨P, 0, none⟩)))] [P] (PSt A B rw P l k dp e) (PAn A B rw P l dp (fun x => .agg (encS1 x)) e k (goP l k)) := by
 have hlen := hok.len
 refine acall_body Tryd.func129 rfl (Nat.le_of_ble_eq_true rfl) ?_
 show AWp Tryd.prog _ ⟨13, [P], ⟨A ++ ⟨P, 73, [.sl l.length (l.flatMap encT), .val (.int .i64 ((k : Nat) : Int)), .val (.int .i64 ((dp : Nat) : Int)), .val (.int .i64 ((e : Nat) : Int))]⟩ :: B, rw⟩, [(0, .c (.val (.pointer (some ⟨P, 0, none⟩))))]⟩ _
 refine sqrg ?_
 refine wo rfl (walloc rfl rfl (by decide) Tryd.zeroValue119 rfl fun b1 => ?_)
 refine nx ?_
 refine wmv rfl rfl rfl rfl rfl ?_
 refine wcP rfl rfl rfl rfl Tryd.call90 rfl (nameP_c (_ :: A) _ _ _ l k dp e hok hk he) (by simp) (by simp [Sto.bl]) ?_
 rintro t1 s1 ⟨x1, k1, e1, rfl, hr1, hk1, he1, rfl⟩
 refine wyy rfl rfl rfl (ay_build Tryd.t119 [(0, 1), (1, 1), (2, 4), (6, 2), (8, 1), (9, 1), (10, 1)] rfl (.cons rfl (.cons rfl .nil)) Tryd.underlying119 (by kernel_rfl) rfl (by kernel_rfl) rfl rfl) ?_
 refine wo rfl (walloc rfl rfl (by decide) Tryd.zeroValue119 rfl fun b2 => ?_)
 refine wo rfl (wst0 rfl rfl rfl rfl rfl Tryd.sizeOf119 rfl (Nat.le_of_ble_eq_true rfl) (splice_all rfl) (by simp) (fun _ => by simp) ?_)
 refine nx ?_
 refine wmv rfl rfl rfl rfl rfl ?_
 refine wcP rfl rfl rfl rfl Tryd.call136 rfl (argsP_c (_ :: _ :: A) _ _ _ l k1 dp e1 hok hk1 he1) (by simp) (by simp [Sto.bl]) ?_
 rintro t2 s2 ⟨x2, k2, e2, rfl, hr2, hk2, he2, rfl⟩
 refine wyy rfl rfl rfl (ay_fieldAddr 8 8 rfl rfl Tryd.runUnderlying119 rfl Tryd.sizeOf117 (by decide) rfl) ?_
 refine wo rfl (wst0 rfl rfl rfl rfl rfl Tryd.sizeOf117 rfl (Nat.le_of_ble_eq_true rfl) rfl (by simp) (fun _ => by simp) ?_)
 refine nx ?_
 refine wmv rfl rfl rfl rfl rfl ?_
 refine wcP rfl rfl rfl rfl Tryd.call93 rfl (signP_c (_ :: _ :: A) _ _ _ l k2 dp e2 [59] hok hk2 he2) (by simp) (by simp [Sto.bl]) ?_
 rintro t3 s3 ⟨x3, k3, e3, rfl, hr3, hk3, he3, rfl⟩
 refine nx ?_
 refine wyy rfl rfl rfl (ay_load_box [] rfl rfl rfl Tryd.isAgg119 Tryd.sizeOf119 rfl (fun _ h => by cases h)) ?_
 refine wo rfl (wst1 rfl rfl rfl rfl rfl Tryd.sizeOf119 rfl (Nat.le_of_ble_eq_true rfl) (splice_all rfl) (by simp) (fun _ => by simp) ?_)
 refine nlnm ?_
 refine aw_ret ?_
 have hs : Run e k (goP l k) (.mk 4 x1 .zero .zero x2 [] []) k3 e3 := by
  unfold goP semi
  exact hr1.bind (hr2.bind (hr3.bind (Run.pure _ _ _)))
 exact ⟨.inr rfl, _, (PSt A B rw P l (k3) (dp) (e3)), (res_wk (Wk.agg (.cons (WkC.refl _) (.cons (WkC.refl _) (.cons (WkC.refl _) (.cons (WkC.refl _) (.cons (WkC.refl _) (.cons wk_nil (.cons (WkC.refl _) (.cons wk_nil (.cons (WkC.refl _) (.cons wk_nil (.cons wk_nil .nil)))))))))))) (res_one rfl (resv_cell [_] rfl rfl Tryd.isAgg119 Tryd.sizeOf119 (pk_all rfl rfl)))), subS_of (.cons _ (.cons _ (.refl _))) (.refl _), ⟨(.mk 4 x1 .zero .zero x2 [] []), k3, e3, rfl, hs, hk3, he3, rfl⟩⟩
set_option maxRecDepth 100000 in
set_option maxHeartbeats 1600000 in
theorem lockP_c (A B : List Box) (rw : List ORow) (P : Nat) (l : List Tok) (k dp e : Nat) (hok : TOk l) (hk : k < l.length) (he : e < 16) : ACall Tryd.prog 130 [.c (.val (.pointer (some ⟨P, 0, none⟩)))] [P] (PSt A B rw P l k dp e) (PAn A B rw P l dp (fun x => .agg (encS1 x)) e k (lockP l 5 k)) := by
 have hlen := hok.len
 refine acall_body Tryd.func130 rfl (Nat.le_of_ble_eq_true rfl) ?_
 show AWp Tryd.prog _ ⟨10, [P], ⟨A ++ ⟨P, 73, [.sl l.length (l.flatMap encT), .val (.int .i64 ((k : Nat) : Int)), .val (.int .i64 ((dp : Nat) : Int)), .val (.int .i64 ((e : Nat) : Int))]⟩ :: B, rw⟩, [(0, .c (.val (.pointer (some ⟨P, 0, none⟩))))]⟩ _
 refine sqrg ?_
 refine wo rfl (walloc rfl rfl (by decide) Tryd.zeroValue119 rfl fun b1 => ?_)
 refine nx ?_
 refine wmv rfl rfl rfl rfl rfl ?_
 refine wcP rfl rfl rfl rfl Tryd.call142 rfl (refP_c (_ :: A) _ _ _ l k dp e hok hk he) (by simp) (by simp [Sto.bl]) ?_
 rintro t1 s1 ⟨x1, k1, e1, rfl, hr1, hk1, he1, rfl⟩
 refine wyy rfl rfl rfl (ay_build Tryd.t119 [(0, 1), (1, 1), (2, 4), (6, 2), (8, 1), (9, 1), (10, 1)] rfl (.cons rfl (.cons rfl .nil)) Tryd.underlying119 (by kernel_rfl) rfl (by kernel_rfl) rfl rfl) ?_
 refine wo rfl (walloc rfl rfl (by decide) Tryd.zeroValue119 rfl fun b2 => ?_)
 refine wo rfl (wst0 rfl rfl rfl rfl rfl Tryd.sizeOf119 rfl (Nat.le_of_ble_eq_true rfl) (splice_all rfl) (by simp) (fun _ => by simp) ?_)
 refine nx ?_
 refine wmv rfl rfl rfl rfl rfl ?_
 refine wcP rfl rfl rfl rfl Tryd.call93 rfl (signP_c (_ :: _ :: A) _ _ _ l k1 dp e1 [59] hok hk1 he1) (by simp) (by simp [Sto.bl]) ?_
 rintro t2 s2 ⟨x2, k2, e2, rfl, hr2, hk2, he2, rfl⟩
 refine nx ?_
 refine wyy rfl rfl rfl (ay_load_box [] rfl rfl rfl Tryd.isAgg119 Tryd.sizeOf119 rfl (fun _ h => by cases h)) ?_
 refine wo rfl (wst1 rfl rfl rfl rfl rfl Tryd.sizeOf119 rfl (Nat.le_of_ble_eq_true rfl) (splice_all rfl) (by simp) (fun _ => by simp) ?_)
 refine nlnm ?_
 refine aw_ret ?_
 have hs : Run e k (lockP l 5 k) (.mk 5 emptyB .zero x1 [] [] []) k2 e2 := by
  unfold lockP semi
  exact hr1.bind (hr2.bind (Run.pure _ _ _))
 exact ⟨.inr rfl, _, (PSt A B rw P l (k2) (dp) (e2)), (res_wk (Wk.agg (.cons (WkC.refl _) (.cons (WkC.refl _) (.cons (WkC.refl _) (.cons (WkC.refl _) (.cons (WkC.refl _) (.cons wk_nil (.cons (WkC.refl _) (.cons (WkC.refl _) (.cons wk_nil (.cons wk_nil (.cons wk_nil .nil)))))))))))) (res_one rfl (resv_cell [_] rfl rfl Tryd.isAgg119 Tryd.sizeOf119 (pk_all rfl rfl)))), subS_of (.cons _ (.cons _ (.refl _))) (.refl _), ⟨(.mk 5 emptyB .zero x1 [] [] []), k2, e2, rfl, hs, hk2, he2, rfl⟩⟩
set_option maxRecDepth 100000 in
set_option maxHeartbeats 1600000 in
theorem whileP_c (A B : List Box) (rw : List ORow) (P : Nat) (l : List Tok) (k dp e : Nat) (blk : Nat → PRes (List AStmt)) (hblk : ∀ (A B : List Box) (rw : List ORow) (P k e : Nat), k < l.length → e < 16 → ACall Tryd.prog 97 [.c (.val (.pointer (some ⟨P, 0, none⟩)))] [P] (PSt A B rw P l k dp e) (PAn A B rw P l dp (fun x => .c (.sl x.length (x.flatMap encS))) e k (blk k))) (hok : TOk l) (hk : k < l.length) (he : e < 16) : ACall Tryd.prog 133 [.c (.val (.pointer (some ⟨P, 0, none⟩)))] [P] (PSt A B rw P l k dp e) (PAn A B rw P l dp (fun x => .agg (encS1 x)) e k (whileP l blk k)) := by
 have hlen := hok.len
 refine acall_body Tryd.func133 rfl (Nat.le_of_ble_eq_true rfl) ?_
 show AWp Tryd.prog _ ⟨11, [P], ⟨A ++ ⟨P, 73, [.sl l.length (l.flatMap encT), .val (.int .i64 ((k : Nat) : Int)), .val (.int .i64 ((dp : Nat) : Int)), .val (.int .i64 ((e : Nat) : Int))]⟩ :: B, rw⟩, [(0, .c (.val (.pointer (some ⟨P, 0, none⟩))))]⟩ _
 refine sqrg ?_
 refine wo rfl (walloc rfl rfl (by decide) Tryd.zeroValue119 rfl fun b1 => ?_)
 refine nx ?_
 refine wmv rfl rfl rfl rfl rfl ?_
 refine wcP rfl rfl rfl rfl Tryd.call135 rfl (exprP_c (_ :: A) _ _ _ l k dp e hok hk he) (by simp) (by simp [Sto.bl]) ?_
 rintro t1 s1 ⟨x1, k1, e1, rfl, hr1, hk1, he1, rfl⟩
 refine wyy rfl rfl rfl (ay_build Tryd.t119 [(0, 1), (1, 1), (2, 4), (6, 2), (8, 1), (9, 1), (10, 1)] rfl (.cons rfl (.cons rfl .nil)) Tryd.underlying119 (by kernel_rfl) rfl (by kernel_rfl) rfl rfl) ?_
 refine wo rfl (walloc rfl rfl (by decide) Tryd.zeroValue119 rfl fun b2 => ?_)
 refine wo rfl (wst0 rfl rfl rfl rfl rfl Tryd.sizeOf119 rfl (Nat.le_of_ble_eq_true rfl) (splice_all rfl) (by simp) (fun _ => by simp) ?_)
 refine nx ?_
 refine wmv rfl rfl rfl rfl rfl ?_
 refine wcP rfl rfl rfl rfl Tryd.call97 rfl (hblk (_ :: _ :: A) _ _ _ k1 e1 hk1 he1) (by simp) (by simp [Sto.bl]) ?_
 rintro t2 s2 ⟨x2, k2, e2, rfl, hr2, hk2, he2, rfl⟩
 refine wyy rfl rfl rfl (ay_fieldAddr 9 9 rfl rfl Tryd.runUnderlying119 rfl Tryd.sizeOf52 (by decide) rfl) ?_
 refine wo rfl (wst0 rfl rfl rfl rfl rfl Tryd.sizeOf52 rfl (Nat.le_of_ble_eq_true rfl) rfl (by simp) (fun _ => by simp) ?_)
 refine nx ?_
 refine wyy rfl rfl rfl (ay_load_box [] rfl rfl rfl Tryd.isAgg119 Tryd.sizeOf119 rfl (fun _ h => by cases h)) ?_
 refine wo rfl (wst1 rfl rfl rfl rfl rfl Tryd.sizeOf119 rfl (Nat.le_of_ble_eq_true rfl) (splice_all rfl) (by simp) (fun _ => by simp) ?_)
 refine nlnm ?_
 refine aw_ret ?_
 have hs : Run e k (whileP l blk k) (.mk 8 emptyB x1 .zero [] x2 []) k2 e2 := by
  unfold whileP
  exact hr1.bind (hr2.bind (Run.pure _ _ _))
 exact ⟨.inr rfl, _, (PSt A B rw P l (k2) (dp) (e2)), (res_wk (Wk.agg (.cons (WkC.refl _) (.cons (WkC.refl _) (.cons (WkC.refl _) (.cons (WkC.refl _) (.cons (WkC.refl _) (.cons (WkC.refl _) (.cons (WkC.refl _) (.cons wk_nil (.cons wk_nil (.cons (WkC.refl _) (.cons wk_nil .nil)))))))))))) (res_one rfl (resv_cell [_] rfl rfl Tryd.isAgg119 Tryd.sizeOf119 (pk_all rfl rfl)))), subS_of (.cons _ (.cons _ (.refl _))) (.refl _), ⟨(.mk 8 emptyB x1 .zero [] x2 []), k2, e2, rfl, hs, hk2, he2, rfl⟩⟩
set_option maxRecDepth 100000 in
set_option maxHeartbeats 1600000 in
theorem retP_c (A B : List Box) (rw : List ORow) (P : Nat) (l : List Tok) (k dp e : Nat) (hok : TOk l) (hk : k < l.length) (he : e < 16) : ACall Tryd.prog 134 [.c (.val (.pointer (some ⟨P, 0, none⟩)))] [P] (PSt A B rw P l k dp e) (PAn A B rw P l dp (fun x => .agg (encS1 x)) e k (retP l k)) := by
 have hlen := hok.len
 refine acall_body Tryd.func134 rfl (Nat.le_of_ble_eq_true rfl) ?_
 show AWp Tryd.prog _ ⟨6, [P], ⟨A ++ ⟨P, 73, [.sl l.length (l.flatMap encT), .val (.int .i64 ((k : Nat) : Int)), .val (.int .i64 ((dp : Nat) : Int)), .val (.int .i64 ((e : Nat) : Int))]⟩ :: B, rw⟩, [(0, .c (.val (.pointer (some ⟨P, 0, none⟩))))]⟩ _
 refine sqrg ?_
 refine wo rfl (walloc rfl rfl (by decide) Tryd.zeroValue119 rfl fun b1 => ?_)
 refine nx ?_
 refine wmv rfl rfl rfl rfl rfl ?_
 refine wcP rfl rfl rfl rfl Tryd.call93 rfl (signP_c (_ :: A) _ _ _ l k dp e [59] hok hk he) (by simp) (by simp [Sto.bl]) ?_
 rintro t1 s1 ⟨x1, k1, e1, rfl, hr1, hk1, he1, rfl⟩
 refine nx ?_
 refine wyy rfl rfl rfl (ay_build Tryd.t119 [(0, 1), (1, 1), (2, 4), (6, 2), (8, 1), (9, 1), (10, 1)] rfl (.cons rfl .nil) Tryd.underlying119 (by kernel_rfl) rfl (by kernel_rfl) rfl rfl) ?_
 refine wo rfl (wst0 rfl rfl rfl rfl rfl Tryd.sizeOf119 rfl (Nat.le_of_ble_eq_true rfl) (splice_all rfl) (by simp) (fun _ => by simp) ?_)
 refine nlnm ?_
 refine aw_ret ?_
 have hs : Run e k (retP l k) (.mk 9 emptyB .zero .zero [] [] []) k1 e1 := by
  unfold retP semi
  exact hr1.bind (Run.pure _ _ _)
 exact ⟨.inr rfl, _, (PSt A B rw P l (k1) (dp) (e1)), (res_wk (Wk.agg (.cons (WkC.refl _) (.cons (WkC.refl _) (.cons (WkC.refl _) (.cons (WkC.refl _) (.cons (WkC.refl _) (.cons wk_nil (.cons (WkC.refl _) (.cons wk_nil (.cons wk_nil (.cons wk_nil (.cons wk_nil .nil)))))))))))) (res_one rfl (resv_cell [] rfl rfl Tryd.isAgg119 Tryd.sizeOf119 (pk_all rfl rfl)))), subS_of (.cons _ (.refl _)) (.refl _), ⟨(.mk 9 emptyB .zero .zero [] [] []), k1, e1, rfl, hs, hk1, he1, rfl⟩⟩
set_option maxRecDepth 100000 in
set_option maxHeartbeats 1600000 in
theorem ifP_c (A B : List Box) (rw : List ORow) (P : Nat) (l : List Tok) (k dp e : Nat) (blk : Nat → PRes (List AStmt)) (hblk : ∀ (A B : List Box) (rw : List ORow) (P k e : Nat), k < l.length → e < 16 → ACall Tryd.prog 97 [.c (.val (.pointer (some ⟨P, 0, none⟩)))] [P] (PSt A B rw P l k dp e) (PAn A B rw P l dp (fun x => .c (.sl x.length (x.flatMap encS))) e k (blk k))) (hok : TOk l) (hk : k < l.length) (he : e < 16) : ACall Tryd.prog 132 [.c (.val (.pointer (some ⟨P, 0, none⟩)))] [P] (PSt A B rw P l k dp e) (PAn A B rw P l dp (fun x => .agg (encS1 x)) e k (ifP l blk k)) := by
 have hlen := hok.len
 refine acall_body Tryd.func132 rfl (Nat.le_of_ble_eq_true rfl) ?_
 show AWp Tryd.prog _ ⟨16, [P], ⟨A ++ ⟨P, 73, [.sl l.length (l.flatMap encT), .val (.int .i64 ((k : Nat) : Int)), .val (.int .i64 ((dp : Nat) : Int)), .val (.int .i64 ((e : Nat) : Int))]⟩ :: B, rw⟩, [(0, .c (.val (.pointer (some ⟨P, 0, none⟩))))]⟩ _
 refine sqrg ?_
 refine wo rfl (walloc rfl rfl (by decide) Tryd.zeroValue119 rfl fun b1 => ?_)
 refine nx ?_
 refine wmv rfl rfl rfl rfl rfl ?_
 refine wcP rfl rfl rfl rfl Tryd.call135 rfl (exprP_c (_ :: A) _ _ _ l k dp e hok hk he) (by simp) (by simp [Sto.bl]) ?_
 rintro t1 s1 ⟨x1, k1, e1, rfl, hr1, hk1, he1, rfl⟩
 refine wyy rfl rfl rfl (ay_build Tryd.t119 [(0, 1), (1, 1), (2, 4), (6, 2), (8, 1), (9, 1), (10, 1)] rfl (.cons rfl (.cons rfl .nil)) Tryd.underlying119 (by kernel_rfl) rfl (by kernel_rfl) rfl rfl) ?_
 refine wo rfl (walloc rfl rfl (by decide) Tryd.zeroValue119 rfl fun b2 => ?_)
 refine wo rfl (wst0 rfl rfl rfl rfl rfl Tryd.sizeOf119 rfl (Nat.le_of_ble_eq_true rfl) (splice_all rfl) (by simp) (fun _ => by simp) ?_)
 refine nx ?_
 refine wmv rfl rfl rfl rfl rfl ?_
 refine wcP rfl rfl rfl rfl Tryd.call97 rfl (hblk (_ :: _ :: A) _ _ _ k1 e1 hk1 he1) (by simp) (by simp [Sto.bl]) ?_
 rintro t2 s2 ⟨x2, k2, e2, rfl, hr2, hk2, he2, rfl⟩
 refine wyy rfl rfl rfl (ay_fieldAddr 9 9 rfl rfl Tryd.runUnderlying119 rfl Tryd.sizeOf52 (by decide) rfl) ?_
 refine wo rfl (wst0 rfl rfl rfl rfl rfl Tryd.sizeOf52 rfl (Nat.le_of_ble_eq_true rfl) rfl (by simp) (fun _ => by simp) ?_)
 refine nlnm ?_
 refine aw_seq ?_
 refine sqrg ?_
 refine wmv rfl rfl rfl rfl rfl ?_
 refine wcP rfl rfl rfl rfl Tryd.call96 rfl (word_c (_ :: _ :: A) _ _ _ l k2 dp e2 [101, 108, 115, 101] hok hk2) (by simp) (by simp [Sto.bl]) ?_
 rintro t3 s3 (⟨rfl, ha3, hm3, rfl, rfl⟩ | ⟨ha3, rfl, rfl⟩)
 ·refine nlnm ?_
  refine aw_condT rfl rfl ?_
  refine aw_region ?_
  refine wmv rfl rfl rfl rfl rfl ?_
  refine wcP rfl rfl rfl rfl Tryd.call97 rfl (hblk (_ :: _ :: A) _ _ _ (k2 + 1) 0 hm3 (by decide)) (by simp) (by simp [Sto.bl]) ?_
  rintro t5 s5 ⟨x5, k5, e5, rfl, hr5, hk5, he5, rfl⟩
  refine wyy rfl rfl rfl (ay_fieldAddr 10 10 rfl rfl Tryd.runUnderlying119 rfl Tryd.sizeOf52 (by decide) rfl) ?_
  refine wo rfl (wst0 rfl rfl rfl rfl rfl Tryd.sizeOf52 rfl (Nat.le_of_ble_eq_true rfl) rfl (by simp) (fun _ => by simp) ?_)
  refine nx ?_
  refine wyy rfl rfl rfl (ay_load_box [] rfl rfl rfl Tryd.isAgg119 Tryd.sizeOf119 rfl (fun _ h => by cases h)) ?_
  refine wo rfl (wst1 rfl rfl rfl rfl rfl Tryd.sizeOf119 rfl (Nat.le_of_ble_eq_true rfl) (splice_all rfl) (by simp) (fun _ => by simp) ?_)
  refine nlnm ?_
  refine aw_ret ?_
  have hs : Run e k (ifP l blk k) (.mk 7 emptyB x1 .zero [] x2 x5) k5 e5 := by
   unfold ifP
   exact hr1.bind (hr2.bind (by unfold elseP; rw [if_pos ha3]; exact Run.from (hr5.map (f := fun f => AStmt.mk 7 emptyB x1 .zero [] x2 f))))
  exact ⟨.inr rfl, _, (PSt A B rw P l (k5) (dp) (e5)), (res_wk (Wk.agg (.cons (WkC.refl _) (.cons (WkC.refl _) (.cons (WkC.refl _) (.cons (WkC.refl _) (.cons (WkC.refl _) (.cons (WkC.refl _) (.cons (WkC.refl _) (.cons wk_nil (.cons wk_nil (.cons (WkC.refl _) (.cons (WkC.refl _) .nil)))))))))))) (res_one rfl (resv_cell [_] rfl rfl Tryd.isAgg119 Tryd.sizeOf119 (pk_all rfl rfl)))), subS_of (.cons _ (.cons _ (.refl _))) (.refl _), ⟨(.mk 7 emptyB x1 .zero [] x2 x5), k5, e5, rfl, hs, hk5, he5, rfl⟩⟩
 ·refine nlnm ?_
  refine aw_condF rfl rfl ?_
  refine aw_skip ?_
  refine then_normal ?_
  refine sqrg ?_
  refine wyy rfl rfl rfl (ay_load_box [] rfl rfl rfl Tryd.isAgg119 Tryd.sizeOf119 rfl (fun _ h => by cases h)) ?_
  refine wo rfl (wst1 rfl rfl rfl rfl rfl Tryd.sizeOf119 rfl (Nat.le_of_ble_eq_true rfl) (splice_all rfl) (by simp) (fun _ => by simp) ?_)
  refine nlnm ?_
  refine aw_ret ?_
  have hs : Run e k (ifP l blk k) (.mk 7 emptyB x1 .zero [] x2 []) k2 e2 := by
   unfold ifP
   exact hr1.bind (hr2.bind ((Run.pure _ _ _).eq fun h => by unfold elseP; rw [if_neg (by rw [ha3 h]; decide)]))
  exact ⟨.inr rfl, _, (PSt A B rw P l (k2) (dp) (e2)), (res_wk (Wk.agg (.cons (WkC.refl _) (.cons (WkC.refl _) (.cons (WkC.refl _) (.cons (WkC.refl _) (.cons (WkC.refl _) (.cons (WkC.refl _) (.cons (WkC.refl _) (.cons wk_nil (.cons wk_nil (.cons (WkC.refl _) (.cons wk_nil .nil)))))))))))) (res_one rfl (resv_cell [_] rfl rfl Tryd.isAgg119 Tryd.sizeOf119 (pk_all rfl rfl)))), subS_of (.cons _ (.cons _ (.refl _))) (.refl _), ⟨(.mk 7 emptyB x1 .zero [] x2 []), k2, e2, rfl, hs, hk2, he2, rfl⟩⟩
set_option maxRecDepth 100000 in
set_option maxHeartbeats 1600000 in
theorem namedP_c (A B : List Box) (rw : List ORow) (P : Nat) (l : List Tok) (k dp e : Nat) (hok : TOk l) (hk : k < l.length) (he : e < 16) : ACall Tryd.prog 119 [.c (.val (.pointer (some ⟨P, 0, none⟩)))] [P] (PSt A B rw P l k dp e) (PAn A B rw P l dp (fun x => .agg (encS1 x)) e k (namedP l k)) := by
 have hlen := hok.len
 refine acall_body Tryd.func119 rfl (Nat.le_of_ble_eq_true rfl) ?_
 show AWp Tryd.prog _ ⟨19, [P], ⟨A ++ ⟨P, 73, [.sl l.length (l.flatMap encT), .val (.int .i64 ((k : Nat) : Int)), .val (.int .i64 ((dp : Nat) : Int)), .val (.int .i64 ((e : Nat) : Int))]⟩ :: B, rw⟩, [(0, .c (.val (.pointer (some ⟨P, 0, none⟩))))]⟩ _
 refine sqrg ?_
 refine wo rfl (walloc rfl rfl (by decide) Tryd.zeroValue119 rfl fun b1 => ?_)
 refine nx ?_
 refine wmv rfl rfl rfl rfl rfl ?_
 refine wcP rfl rfl rfl rfl Tryd.call90 rfl (nameP_c (_ :: A) _ _ _ l k dp e hok hk he) (by simp) (by simp [Sto.bl]) ?_
 rintro t1 s1 ⟨x1, k1, e1, rfl, hr1, hk1, he1, rfl⟩
 refine wyy rfl rfl rfl (ay_build Tryd.t119 [(0, 1), (1, 1), (2, 4), (6, 2), (8, 1), (9, 1), (10, 1)] rfl (.cons rfl (.cons rfl .nil)) Tryd.underlying119 (by kernel_rfl) rfl (by kernel_rfl) rfl rfl) ?_
 refine wo rfl (walloc rfl rfl (by decide) Tryd.zeroValue119 rfl fun b2 => ?_)
 refine wo rfl (wst0 rfl rfl rfl rfl rfl Tryd.sizeOf119 rfl (Nat.le_of_ble_eq_true rfl) (splice_all rfl) (by simp) (fun _ => by simp) ?_)
 refine nlnm ?_
 refine aw_seq ?_
 refine sqrg ?_
 refine wmv rfl rfl rfl rfl rfl ?_
 refine wcP rfl rfl rfl rfl Tryd.call91 rfl (accept_c (_ :: _ :: A) _ _ _ l k1 dp e1 [61] hok hk1) (by simp) (by simp [Sto.bl]) ?_
 rintro t2 s2 (⟨rfl, ha2, hm2, rfl, rfl⟩ | ⟨ha2, rfl, rfl⟩)
 ·refine nlnm ?_
  refine aw_condT rfl rfl ?_
  refine aw_region ?_
  refine wmv rfl rfl rfl rfl rfl ?_
  refine wcP rfl rfl rfl rfl Tryd.call135 rfl (exprP_c (_ :: _ :: A) _ _ _ l (k1 + 1) dp 0 hok hm2 (by decide)) (by simp) (by simp [Sto.bl]) ?_
  rintro t4 s4 ⟨x4, k4, e4, rfl, hr4, hk4, he4, rfl⟩
  refine wyy rfl rfl rfl (ay_fieldAddr 0 0 rfl rfl Tryd.runUnderlying119 rfl Tryd.sizeOf3 (by decide) rfl) ?_
  refine wo rfl (wst0 rfl rfl rfl rfl rfl Tryd.sizeOf3 rfl (Nat.le_of_ble_eq_true rfl) rfl (by simp) (fun _ => by simp) ?_)
  refine wyy rfl rfl rfl (ay_fieldAddr 2 2 rfl rfl Tryd.runUnderlying119 rfl Tryd.sizeOf31 (by decide) rfl) ?_
  refine wo rfl (wst0 rfl rfl rfl rfl rfl Tryd.sizeOf31 rfl (Nat.le_of_ble_eq_true rfl) rfl (by simp) (fun _ => by simp) ?_)
  refine nx ?_
  refine wmv rfl rfl rfl rfl rfl ?_
  refine wcP rfl rfl rfl rfl Tryd.call93 rfl (signP_c (_ :: _ :: A) _ _ _ l k4 dp e4 [59] hok hk4 he4) (by simp) (by simp [Sto.bl]) ?_
  rintro t5 s5 ⟨x5, k5, e5, rfl, hr5, hk5, he5, rfl⟩
  refine nx ?_
  refine wyy rfl rfl rfl (ay_load_box [] rfl rfl rfl Tryd.isAgg119 Tryd.sizeOf119 rfl (fun _ h => by cases h)) ?_
  refine wo rfl (wst1 rfl rfl rfl rfl rfl Tryd.sizeOf119 rfl (Nat.le_of_ble_eq_true rfl) (splice_all rfl) (by simp) (fun _ => by simp) ?_)
  refine nlnm ?_
  refine aw_ret ?_
  have hs : Run e k (namedP l k) (.mk 2 x1 x4 .zero [] [] []) k5 e5 := by
   unfold namedP
   exact hr1.bind (by unfold namedTail; rw [if_pos ha2]; unfold semi; exact Run.from (hr4.bind (hr5.bind (Run.pure _ _ _))))
  exact ⟨.inr rfl, _, (PSt A B rw P l (k5) (dp) (e5)), (res_wk (Wk.agg (.cons (WkC.refl _) (.cons (WkC.refl _) (.cons (WkC.refl _) (.cons (WkC.refl _) (.cons (WkC.refl _) (.cons (WkC.refl _) (.cons (WkC.refl _) (.cons wk_nil (.cons wk_nil (.cons wk_nil (.cons wk_nil .nil)))))))))))) (res_one rfl (resv_cell [_] rfl rfl Tryd.isAgg119 Tryd.sizeOf119 (pk_all rfl rfl)))), subS_of (.cons _ (.cons _ (.refl _))) (.refl _), ⟨(.mk 2 x1 x4 .zero [] [] []), k5, e5, rfl, hs, hk5, he5, rfl⟩⟩
 ·refine nlnm ?_
  refine aw_condF rfl rfl ?_
  refine aw_region ?_
  refine wmv rfl rfl rfl rfl rfl ?_
  refine wcP rfl rfl rfl rfl Tryd.call136 rfl (argsP_c (_ :: _ :: A) _ _ _ l k1 dp e1 hok hk1 he1) (by simp) (by simp [Sto.bl]) ?_
  rintro t7 s7 ⟨x7, k7, e7, rfl, hr7, hk7, he7, rfl⟩
  refine wyy rfl rfl rfl (ay_fieldAddr 8 8 rfl rfl Tryd.runUnderlying119 rfl Tryd.sizeOf117 (by decide) rfl) ?_
  refine wo rfl (wst0 rfl rfl rfl rfl rfl Tryd.sizeOf117 rfl (Nat.le_of_ble_eq_true rfl) rfl (by simp) (fun _ => by simp) ?_)
  refine nx ?_
  refine wmv rfl rfl rfl rfl rfl ?_
  refine wcP rfl rfl rfl rfl Tryd.call93 rfl (signP_c (_ :: _ :: A) _ _ _ l k7 dp e7 [59] hok hk7 he7) (by simp) (by simp [Sto.bl]) ?_
  rintro t8 s8 ⟨x8, k8, e8, rfl, hr8, hk8, he8, rfl⟩
  refine nx ?_
  refine wyy rfl rfl rfl (ay_load_box [] rfl rfl rfl Tryd.isAgg119 Tryd.sizeOf119 rfl (fun _ h => by cases h)) ?_
  refine wo rfl (wst1 rfl rfl rfl rfl rfl Tryd.sizeOf119 rfl (Nat.le_of_ble_eq_true rfl) (splice_all rfl) (by simp) (fun _ => by simp) ?_)
  refine nlnm ?_
  refine aw_ret ?_
  have hs : Run e k (namedP l k) (.mk 3 x1 .zero .zero x7 [] []) k8 e8 := by
   unfold namedP
   exact hr1.bind (Run.eq (r := (argsP l _).bind fun a k => semi l (.mk 3 x1 .zero .zero a [] []) k) (by unfold semi; exact hr7.bind (hr8.bind (Run.pure _ _ _))) fun h => by unfold namedTail; rw [if_neg (by rw [ha2 h]; decide)])
  exact ⟨.inr rfl, _, (PSt A B rw P l (k8) (dp) (e8)), (res_wk (Wk.agg (.cons (WkC.refl _) (.cons (WkC.refl _) (.cons (WkC.refl _) (.cons (WkC.refl _) (.cons (WkC.refl _) (.cons wk_nil (.cons (WkC.refl _) (.cons wk_nil (.cons (WkC.refl _) (.cons wk_nil (.cons wk_nil .nil)))))))))))) (res_one rfl (resv_cell [_] rfl rfl Tryd.isAgg119 Tryd.sizeOf119 (pk_all rfl rfl)))), subS_of (.cons _ (.cons _ (.refl _))) (.refl _), ⟨(.mk 3 x1 .zero .zero x7 [] []), k8, e8, rfl, hs, hk8, he8, rfl⟩⟩
set_option maxRecDepth 100000 in
set_option maxHeartbeats 1600000 in
theorem unlockP_c (A B : List Box) (rw : List ORow) (P : Nat) (l : List Tok) (k dp e : Nat) (hok : TOk l) (hk : k < l.length) (he : e < 16) : ACall Tryd.prog 131 [.c (.val (.pointer (some ⟨P, 0, none⟩)))] [P] (PSt A B rw P l k dp e) (PAn A B rw P l dp (fun x => .agg (encS1 x)) e k (lockP l 6 k)) := by
 have hlen := hok.len
 refine acall_body Tryd.func131 rfl (Nat.le_of_ble_eq_true rfl) ?_
 show AWp Tryd.prog _ ⟨8, [P], ⟨A ++ ⟨P, 73, [.sl l.length (l.flatMap encT), .val (.int .i64 ((k : Nat) : Int)), .val (.int .i64 ((dp : Nat) : Int)), .val (.int .i64 ((e : Nat) : Int))]⟩ :: B, rw⟩, [(0, .c (.val (.pointer (some ⟨P, 0, none⟩))))]⟩ _
 refine sqrg ?_
 refine wo rfl (walloc rfl rfl (by decide) Tryd.zeroValue119 rfl fun b1 => ?_)
 refine nx ?_
 refine wmv rfl rfl rfl rfl rfl ?_
 refine wcP rfl rfl rfl rfl Tryd.call130 rfl (lockP_c (_ :: A) _ _ _ l k dp e hok hk he) (by simp) (by simp [Sto.bl]) ?_
 rintro t1 s1 ⟨x1, k1, e1, rfl, hr1, hk1, he1, rfl⟩
 obtain ⟨kd1, nn1, ee1, rr1, aa1, tt1, ff1⟩ := x1
 refine wo rfl (walloc rfl rfl (by decide) Tryd.zeroValue119 rfl fun b2 => ?_)
 refine wo rfl (wst0 rfl rfl rfl rfl rfl Tryd.sizeOf119 rfl (Nat.le_of_ble_eq_true rfl) (splice_all rfl) (by simp) (fun _ => by simp) ?_)
 refine nx ?_
 refine wyy rfl rfl rfl (ay_fieldAddr 0 0 rfl rfl Tryd.runUnderlying119 rfl Tryd.sizeOf3 (by decide) rfl) ?_
 refine wo rfl (wst0 rfl rfl rfl rfl rfl Tryd.sizeOf3 rfl (Nat.le_of_ble_eq_true rfl) rfl (by simp) (fun _ => by simp) ?_)
 refine nx ?_
 refine wyy rfl rfl rfl (ay_load_box [] rfl rfl rfl Tryd.isAgg119 Tryd.sizeOf119 rfl (fun _ h => by cases h)) ?_
 refine wo rfl (wst1 rfl rfl rfl rfl rfl Tryd.sizeOf119 rfl (Nat.le_of_ble_eq_true rfl) (splice_all rfl) (by simp) (fun _ => by simp) ?_)
 refine nlnm ?_
 refine aw_ret ?_
 exact ⟨.inr rfl, _, (PSt A B rw P l (k1) (dp) (e1)), (res_one rfl (resv_cell [_] rfl rfl Tryd.isAgg119 Tryd.sizeOf119 (pk_all rfl rfl))), subS_of (.cons _ (.cons _ (.refl _))) (.refl _), ⟨(.mk 6 nn1 ee1 rr1 aa1 tt1 ff1), k1, e1, rfl, by rw [lock_six]; exact hr1.map (f := six), hk1, he1, rfl⟩⟩
set_option maxRecDepth 100000 in
set_option maxHeartbeats 1600000 in
theorem reader_0 (P : Nat) (t : ByteArray) (ht : t = bytes [118, 97, 114]) (s : Sto) : ACall Tryd.prog 118 [.c (.val (.pointer (some ⟨P, 0, none⟩))), .c (.val (.string t))] [] s fun r s' => r = .c (.val (.func (.func 128) #[.pointer (some ⟨P, 0, none⟩)] #[])) ∧ s' = s := by
 obtain ⟨bx, rw⟩ := s
 refine acall_body Tryd.func118 rfl (Nat.le_of_ble_eq_true rfl) ?_
 show AWp Tryd.prog _ ⟨34, [], ⟨bx, rw⟩, [(0, .c (.val (.pointer (some ⟨P, 0, none⟩)))), (1, .c (.val (.string t)))]⟩ _
 refine sqrg ?_
 refine wag rfl rfl rfl rfl rfl ?_
 refine nlnm ?_
 refine aw_seq ?_
 refine sqrg ?_
 refine wmv rfl rfl rfl rfl rfl ?_
 refine nlnm ?_
 refine aw_block ?_
 refine sqrg ?_
 refine wyy rfl rfl rfl (ay_streq true rfl rfl rfl (by subst ht; kernel_rfl)) ?_
 refine wag rfl rfl rfl rfl rfl ?_
 refine nlnm ?_
 refine aw_condT rfl rfl ?_
 refine sqrg ?_
 refine wmv rfl rfl rfl rfl rfl ?_
 refine wyy rfl rfl rfl (ay_makeFuncB rfl (vs := [.pointer (some ⟨P, 0, none⟩)]) rfl) ?_
 refine wag rfl rfl rfl rfl rfl ?_
 refine nlnm ?_
 refine aw_ret ?_
 refine inB_ret ?_
 refine then_ret ?_
 exact ⟨.inr rfl, _, ⟨bx, rw⟩, res_one rfl (resv_tmp rfl), subS_of (.refl _) (.refl _), rfl, rfl⟩
set_option maxRecDepth 100000 in
set_option maxHeartbeats 1600000 in
theorem reader_1 (P : Nat) (t : ByteArray) (ht : t = bytes [103, 111]) (s : Sto) : ACall Tryd.prog 118 [.c (.val (.pointer (some ⟨P, 0, none⟩))), .c (.val (.string t))] [] s fun r s' => r = .c (.val (.func (.func 129) #[.pointer (some ⟨P, 0, none⟩)] #[])) ∧ s' = s := by
 obtain ⟨bx, rw⟩ := s
 refine acall_body Tryd.func118 rfl (Nat.le_of_ble_eq_true rfl) ?_
 show AWp Tryd.prog _ ⟨34, [], ⟨bx, rw⟩, [(0, .c (.val (.pointer (some ⟨P, 0, none⟩)))), (1, .c (.val (.string t)))]⟩ _
 refine sqrg ?_
 refine wag rfl rfl rfl rfl rfl ?_
 refine nlnm ?_
 refine aw_seq ?_
 refine sqrg ?_
 refine wmv rfl rfl rfl rfl rfl ?_
 refine nlnm ?_
 refine aw_block ?_
 refine sqrg ?_
 refine wyy rfl rfl rfl (ay_streq false rfl rfl rfl (by subst ht; kernel_rfl)) ?_
 refine wag rfl rfl rfl rfl rfl ?_
 refine nlnm ?_
 refine aw_condF rfl rfl ?_
 refine sqrg ?_
 refine wyy rfl rfl rfl (ay_streq true rfl rfl rfl (by subst ht; kernel_rfl)) ?_
 refine wag rfl rfl rfl rfl rfl ?_
 refine nlnm ?_
 refine aw_condT rfl rfl ?_
 refine sqrg ?_
 refine wmv rfl rfl rfl rfl rfl ?_
 refine wyy rfl rfl rfl (ay_makeFuncB rfl (vs := [.pointer (some ⟨P, 0, none⟩)]) rfl) ?_
 refine wag rfl rfl rfl rfl rfl ?_
 refine nlnm ?_
 refine aw_ret ?_
 refine inB_ret ?_
 refine then_ret ?_
 exact ⟨.inr rfl, _, ⟨bx, rw⟩, res_one rfl (resv_tmp rfl), subS_of (.refl _) (.refl _), rfl, rfl⟩
set_option maxRecDepth 100000 in
set_option maxHeartbeats 1600000 in
theorem reader_2 (P : Nat) (t : ByteArray) (ht : t = bytes [108, 111, 99, 107]) (s : Sto) : ACall Tryd.prog 118 [.c (.val (.pointer (some ⟨P, 0, none⟩))), .c (.val (.string t))] [] s fun r s' => r = .c (.val (.func (.func 130) #[.pointer (some ⟨P, 0, none⟩)] #[])) ∧ s' = s := by
 obtain ⟨bx, rw⟩ := s
 refine acall_body Tryd.func118 rfl (Nat.le_of_ble_eq_true rfl) ?_
 show AWp Tryd.prog _ ⟨34, [], ⟨bx, rw⟩, [(0, .c (.val (.pointer (some ⟨P, 0, none⟩)))), (1, .c (.val (.string t)))]⟩ _
 refine sqrg ?_
 refine wag rfl rfl rfl rfl rfl ?_
 refine nlnm ?_
 refine aw_seq ?_
 refine sqrg ?_
 refine wmv rfl rfl rfl rfl rfl ?_
 refine nlnm ?_
 refine aw_block ?_
 refine sqrg ?_
 refine wyy rfl rfl rfl (ay_streq false rfl rfl rfl (by subst ht; kernel_rfl)) ?_
 refine wag rfl rfl rfl rfl rfl ?_
 refine nlnm ?_
 refine aw_condF rfl rfl ?_
 refine sqrg ?_
 refine wyy rfl rfl rfl (ay_streq false rfl rfl rfl (by subst ht; kernel_rfl)) ?_
 refine wag rfl rfl rfl rfl rfl ?_
 refine nlnm ?_
 refine aw_condF rfl rfl ?_
 refine sqrg ?_
 refine wyy rfl rfl rfl (ay_streq true rfl rfl rfl (by subst ht; kernel_rfl)) ?_
 refine wag rfl rfl rfl rfl rfl ?_
 refine nlnm ?_
 refine aw_condT rfl rfl ?_
 refine sqrg ?_
 refine wmv rfl rfl rfl rfl rfl ?_
 refine wyy rfl rfl rfl (ay_makeFuncB rfl (vs := [.pointer (some ⟨P, 0, none⟩)]) rfl) ?_
 refine wag rfl rfl rfl rfl rfl ?_
 refine nlnm ?_
 refine aw_ret ?_
 refine inB_ret ?_
 refine then_ret ?_
 exact ⟨.inr rfl, _, ⟨bx, rw⟩, res_one rfl (resv_tmp rfl), subS_of (.refl _) (.refl _), rfl, rfl⟩
set_option maxRecDepth 100000 in
set_option maxHeartbeats 1600000 in
theorem reader_3 (P : Nat) (t : ByteArray) (ht : t = bytes [117, 110, 108, 111, 99, 107]) (s : Sto) : ACall Tryd.prog 118 [.c (.val (.pointer (some ⟨P, 0, none⟩))), .c (.val (.string t))] [] s fun r s' => r = .c (.val (.func (.func 131) #[.pointer (some ⟨P, 0, none⟩)] #[])) ∧ s' = s := by
 obtain ⟨bx, rw⟩ := s
 refine acall_body Tryd.func118 rfl (Nat.le_of_ble_eq_true rfl) ?_
 show AWp Tryd.prog _ ⟨34, [], ⟨bx, rw⟩, [(0, .c (.val (.pointer (some ⟨P, 0, none⟩)))), (1, .c (.val (.string t)))]⟩ _
 refine sqrg ?_
 refine wag rfl rfl rfl rfl rfl ?_
 refine nlnm ?_
 refine aw_seq ?_
 refine sqrg ?_
 refine wmv rfl rfl rfl rfl rfl ?_
 refine nlnm ?_
 refine aw_block ?_
 refine sqrg ?_
 refine wyy rfl rfl rfl (ay_streq false rfl rfl rfl (by subst ht; kernel_rfl)) ?_
 refine wag rfl rfl rfl rfl rfl ?_
 refine nlnm ?_
 refine aw_condF rfl rfl ?_
 refine sqrg ?_
 refine wyy rfl rfl rfl (ay_streq false rfl rfl rfl (by subst ht; kernel_rfl)) ?_
 refine wag rfl rfl rfl rfl rfl ?_
 refine nlnm ?_
 refine aw_condF rfl rfl ?_
 refine sqrg ?_
 refine wyy rfl rfl rfl (ay_streq false rfl rfl rfl (by subst ht; kernel_rfl)) ?_
 refine wag rfl rfl rfl rfl rfl ?_
 refine nlnm ?_
 refine aw_condF rfl rfl ?_
 refine sqrg ?_
 refine wyy rfl rfl rfl (ay_streq true rfl rfl rfl (by subst ht; kernel_rfl)) ?_
 refine wag rfl rfl rfl rfl rfl ?_
 refine nlnm ?_
 refine aw_condT rfl rfl ?_
 refine sqrg ?_
 refine wmv rfl rfl rfl rfl rfl ?_
 refine wyy rfl rfl rfl (ay_makeFuncB rfl (vs := [.pointer (some ⟨P, 0, none⟩)]) rfl) ?_
 refine wag rfl rfl rfl rfl rfl ?_
 refine nlnm ?_
 refine aw_ret ?_
 refine inB_ret ?_
 refine then_ret ?_
 exact ⟨.inr rfl, _, ⟨bx, rw⟩, res_one rfl (resv_tmp rfl), subS_of (.refl _) (.refl _), rfl, rfl⟩
set_option maxRecDepth 100000 in
set_option maxHeartbeats 1600000 in
theorem reader_4 (P : Nat) (t : ByteArray) (ht : t = bytes [105, 102]) (s : Sto) : ACall Tryd.prog 118 [.c (.val (.pointer (some ⟨P, 0, none⟩))), .c (.val (.string t))] [] s fun r s' => r = .c (.val (.func (.func 132) #[.pointer (some ⟨P, 0, none⟩)] #[])) ∧ s' = s := by
 obtain ⟨bx, rw⟩ := s
 refine acall_body Tryd.func118 rfl (Nat.le_of_ble_eq_true rfl) ?_
 show AWp Tryd.prog _ ⟨34, [], ⟨bx, rw⟩, [(0, .c (.val (.pointer (some ⟨P, 0, none⟩)))), (1, .c (.val (.string t)))]⟩ _
 refine sqrg ?_
 refine wag rfl rfl rfl rfl rfl ?_
 refine nlnm ?_
 refine aw_seq ?_
 refine sqrg ?_
 refine wmv rfl rfl rfl rfl rfl ?_
 refine nlnm ?_
 refine aw_block ?_
 refine sqrg ?_
 refine wyy rfl rfl rfl (ay_streq false rfl rfl rfl (by subst ht; kernel_rfl)) ?_
 refine wag rfl rfl rfl rfl rfl ?_
 refine nlnm ?_
 refine aw_condF rfl rfl ?_
 refine sqrg ?_
 refine wyy rfl rfl rfl (ay_streq false rfl rfl rfl (by subst ht; kernel_rfl)) ?_
 refine wag rfl rfl rfl rfl rfl ?_
 refine nlnm ?_
 refine aw_condF rfl rfl ?_
 refine sqrg ?_
 refine wyy rfl rfl rfl (ay_streq false rfl rfl rfl (by subst ht; kernel_rfl)) ?_
 refine wag rfl rfl rfl rfl rfl ?_
 refine nlnm ?_
 refine aw_condF rfl rfl ?_
 refine sqrg ?_
 refine wyy rfl rfl rfl (ay_streq false rfl rfl rfl (by subst ht; kernel_rfl)) ?_
 refine wag rfl rfl rfl rfl rfl ?_
 refine nlnm ?_
 refine aw_condF rfl rfl ?_
 refine sqrg ?_
 refine wyy rfl rfl rfl (ay_streq true rfl rfl rfl (by subst ht; kernel_rfl)) ?_
 refine wag rfl rfl rfl rfl rfl ?_
 refine nlnm ?_
 refine aw_condT rfl rfl ?_
 refine sqrg ?_
 refine wmv rfl rfl rfl rfl rfl ?_
 refine wyy rfl rfl rfl (ay_makeFuncB rfl (vs := [.pointer (some ⟨P, 0, none⟩)]) rfl) ?_
 refine wag rfl rfl rfl rfl rfl ?_
 refine nlnm ?_
 refine aw_ret ?_
 refine inB_ret ?_
 refine then_ret ?_
 exact ⟨.inr rfl, _, ⟨bx, rw⟩, res_one rfl (resv_tmp rfl), subS_of (.refl _) (.refl _), rfl, rfl⟩
set_option maxRecDepth 100000 in
set_option maxHeartbeats 1600000 in
theorem reader_5 (P : Nat) (t : ByteArray) (ht : t = bytes [119, 104, 105, 108, 101]) (s : Sto) : ACall Tryd.prog 118 [.c (.val (.pointer (some ⟨P, 0, none⟩))), .c (.val (.string t))] [] s fun r s' => r = .c (.val (.func (.func 133) #[.pointer (some ⟨P, 0, none⟩)] #[])) ∧ s' = s := by
 obtain ⟨bx, rw⟩ := s
 refine acall_body Tryd.func118 rfl (Nat.le_of_ble_eq_true rfl) ?_
 show AWp Tryd.prog _ ⟨34, [], ⟨bx, rw⟩, [(0, .c (.val (.pointer (some ⟨P, 0, none⟩)))), (1, .c (.val (.string t)))]⟩ _
 refine sqrg ?_
 refine wag rfl rfl rfl rfl rfl ?_
 refine nlnm ?_
 refine aw_seq ?_
 refine sqrg ?_
 refine wmv rfl rfl rfl rfl rfl ?_
 refine nlnm ?_
 refine aw_block ?_
 refine sqrg ?_
 refine wyy rfl rfl rfl (ay_streq false rfl rfl rfl (by subst ht; kernel_rfl)) ?_
 refine wag rfl rfl rfl rfl rfl ?_
 refine nlnm ?_
 refine aw_condF rfl rfl ?_
 refine sqrg ?_
 refine wyy rfl rfl rfl (ay_streq false rfl rfl rfl (by subst ht; kernel_rfl)) ?_
 refine wag rfl rfl rfl rfl rfl ?_
 refine nlnm ?_
 refine aw_condF rfl rfl ?_
 refine sqrg ?_
 refine wyy rfl rfl rfl (ay_streq false rfl rfl rfl (by subst ht; kernel_rfl)) ?_
 refine wag rfl rfl rfl rfl rfl ?_
 refine nlnm ?_
 refine aw_condF rfl rfl ?_
 refine sqrg ?_
 refine wyy rfl rfl rfl (ay_streq false rfl rfl rfl (by subst ht; kernel_rfl)) ?_
 refine wag rfl rfl rfl rfl rfl ?_
 refine nlnm ?_
 refine aw_condF rfl rfl ?_
 refine sqrg ?_
 refine wyy rfl rfl rfl (ay_streq false rfl rfl rfl (by subst ht; kernel_rfl)) ?_
 refine wag rfl rfl rfl rfl rfl ?_
 refine nlnm ?_
 refine aw_condF rfl rfl ?_
 refine sqrg ?_
 refine wyy rfl rfl rfl (ay_streq true rfl rfl rfl (by subst ht; kernel_rfl)) ?_
 refine wag rfl rfl rfl rfl rfl ?_
 refine nlnm ?_
 refine aw_condT rfl rfl ?_
 refine sqrg ?_
 refine wmv rfl rfl rfl rfl rfl ?_
 refine wyy rfl rfl rfl (ay_makeFuncB rfl (vs := [.pointer (some ⟨P, 0, none⟩)]) rfl) ?_
 refine wag rfl rfl rfl rfl rfl ?_
 refine nlnm ?_
 refine aw_ret ?_
 refine inB_ret ?_
 refine then_ret ?_
 exact ⟨.inr rfl, _, ⟨bx, rw⟩, res_one rfl (resv_tmp rfl), subS_of (.refl _) (.refl _), rfl, rfl⟩
set_option maxRecDepth 100000 in
set_option maxHeartbeats 1600000 in
theorem reader_6 (P : Nat) (t : ByteArray) (ht : t = bytes [114, 101, 116, 117, 114, 110]) (s : Sto) : ACall Tryd.prog 118 [.c (.val (.pointer (some ⟨P, 0, none⟩))), .c (.val (.string t))] [] s fun r s' => r = .c (.val (.func (.func 134) #[.pointer (some ⟨P, 0, none⟩)] #[])) ∧ s' = s := by
 obtain ⟨bx, rw⟩ := s
 refine acall_body Tryd.func118 rfl (Nat.le_of_ble_eq_true rfl) ?_
 show AWp Tryd.prog _ ⟨34, [], ⟨bx, rw⟩, [(0, .c (.val (.pointer (some ⟨P, 0, none⟩)))), (1, .c (.val (.string t)))]⟩ _
 refine sqrg ?_
 refine wag rfl rfl rfl rfl rfl ?_
 refine nlnm ?_
 refine aw_seq ?_
 refine sqrg ?_
 refine wmv rfl rfl rfl rfl rfl ?_
 refine nlnm ?_
 refine aw_block ?_
 refine sqrg ?_
 refine wyy rfl rfl rfl (ay_streq false rfl rfl rfl (by subst ht; kernel_rfl)) ?_
 refine wag rfl rfl rfl rfl rfl ?_
 refine nlnm ?_
 refine aw_condF rfl rfl ?_
 refine sqrg ?_
 refine wyy rfl rfl rfl (ay_streq false rfl rfl rfl (by subst ht; kernel_rfl)) ?_
 refine wag rfl rfl rfl rfl rfl ?_
 refine nlnm ?_
 refine aw_condF rfl rfl ?_
 refine sqrg ?_
 refine wyy rfl rfl rfl (ay_streq false rfl rfl rfl (by subst ht; kernel_rfl)) ?_
 refine wag rfl rfl rfl rfl rfl ?_
 refine nlnm ?_
 refine aw_condF rfl rfl ?_
 refine sqrg ?_
 refine wyy rfl rfl rfl (ay_streq false rfl rfl rfl (by subst ht; kernel_rfl)) ?_
 refine wag rfl rfl rfl rfl rfl ?_
 refine nlnm ?_
 refine aw_condF rfl rfl ?_
 refine sqrg ?_
 refine wyy rfl rfl rfl (ay_streq false rfl rfl rfl (by subst ht; kernel_rfl)) ?_
 refine wag rfl rfl rfl rfl rfl ?_
 refine nlnm ?_
 refine aw_condF rfl rfl ?_
 refine sqrg ?_
 refine wyy rfl rfl rfl (ay_streq false rfl rfl rfl (by subst ht; kernel_rfl)) ?_
 refine wag rfl rfl rfl rfl rfl ?_
 refine nlnm ?_
 refine aw_condF rfl rfl ?_
 refine sqrg ?_
 refine wyy rfl rfl rfl (ay_streq true rfl rfl rfl (by subst ht; kernel_rfl)) ?_
 refine wag rfl rfl rfl rfl rfl ?_
 refine nlnm ?_
 refine aw_condT rfl rfl ?_
 refine sqrg ?_
 refine wmv rfl rfl rfl rfl rfl ?_
 refine wyy rfl rfl rfl (ay_makeFuncB rfl (vs := [.pointer (some ⟨P, 0, none⟩)]) rfl) ?_
 refine wag rfl rfl rfl rfl rfl ?_
 refine nlnm ?_
 refine aw_ret ?_
 refine inB_ret ?_
 refine then_ret ?_
 exact ⟨.inr rfl, _, ⟨bx, rw⟩, res_one rfl (resv_tmp rfl), subS_of (.refl _) (.refl _), rfl, rfl⟩
set_option maxRecDepth 100000 in
set_option maxHeartbeats 1600000 in
theorem reader_no (P : Nat) (t : ByteArray) (h0 : ¬ t = bytes [118, 97, 114]) (h1 : ¬ t = bytes [103, 111]) (h2 : ¬ t = bytes [108, 111, 99, 107]) (h3 : ¬ t = bytes [117, 110, 108, 111, 99, 107]) (h4 : ¬ t = bytes [105, 102]) (h5 : ¬ t = bytes [119, 104, 105, 108, 101]) (h6 : ¬ t = bytes [114, 101, 116, 117, 114, 110]) (s : Sto) : ACall Tryd.prog 118 [.c (.val (.pointer (some ⟨P, 0, none⟩))), .c (.val (.string t))] [] s fun r s' => r = .c (.val (.nilFunc)) ∧ s' = s := by
 obtain ⟨bx, rw⟩ := s
 refine acall_body Tryd.func118 rfl (Nat.le_of_ble_eq_true rfl) ?_
 show AWp Tryd.prog _ ⟨34, [], ⟨bx, rw⟩, [(0, .c (.val (.pointer (some ⟨P, 0, none⟩)))), (1, .c (.val (.string t)))]⟩ _
 refine sqrg ?_
 refine wag rfl rfl rfl rfl rfl ?_
 refine nlnm ?_
 refine aw_seq ?_
 refine sqrg ?_
 refine wmv rfl rfl rfl rfl rfl ?_
 refine nlnm ?_
 refine aw_block ?_
 refine sqrg ?_
 refine wyy rfl rfl rfl (ay_streq false rfl rfl rfl (by show some (decide (t = bytes [118, 97, 114])) = some false; rw [decide_eq_false h0])) ?_
 refine wag rfl rfl rfl rfl rfl ?_
 refine nlnm ?_
 refine aw_condF rfl rfl ?_
 refine sqrg ?_
 refine wyy rfl rfl rfl (ay_streq false rfl rfl rfl (by show some (decide (t = bytes [103, 111])) = some false; rw [decide_eq_false h1])) ?_
 refine wag rfl rfl rfl rfl rfl ?_
 refine nlnm ?_
 refine aw_condF rfl rfl ?_
 refine sqrg ?_
 refine wyy rfl rfl rfl (ay_streq false rfl rfl rfl (by show some (decide (t = bytes [108, 111, 99, 107])) = some false; rw [decide_eq_false h2])) ?_
 refine wag rfl rfl rfl rfl rfl ?_
 refine nlnm ?_
 refine aw_condF rfl rfl ?_
 refine sqrg ?_
 refine wyy rfl rfl rfl (ay_streq false rfl rfl rfl (by show some (decide (t = bytes [117, 110, 108, 111, 99, 107])) = some false; rw [decide_eq_false h3])) ?_
 refine wag rfl rfl rfl rfl rfl ?_
 refine nlnm ?_
 refine aw_condF rfl rfl ?_
 refine sqrg ?_
 refine wyy rfl rfl rfl (ay_streq false rfl rfl rfl (by show some (decide (t = bytes [105, 102])) = some false; rw [decide_eq_false h4])) ?_
 refine wag rfl rfl rfl rfl rfl ?_
 refine nlnm ?_
 refine aw_condF rfl rfl ?_
 refine sqrg ?_
 refine wyy rfl rfl rfl (ay_streq false rfl rfl rfl (by show some (decide (t = bytes [119, 104, 105, 108, 101])) = some false; rw [decide_eq_false h5])) ?_
 refine wag rfl rfl rfl rfl rfl ?_
 refine nlnm ?_
 refine aw_condF rfl rfl ?_
 refine sqrg ?_
 refine wyy rfl rfl rfl (ay_streq false rfl rfl rfl (by show some (decide (t = bytes [114, 101, 116, 117, 114, 110])) = some false; rw [decide_eq_false h6])) ?_
 refine wag rfl rfl rfl rfl rfl ?_
 refine nlnm ?_
 refine aw_condF rfl rfl ?_
 refine aw_skip ?_
 refine inB_normal ?_
 refine then_normal ?_
 refine sqrg ?_
 refine wag rfl rfl rfl rfl rfl ?_
 refine nlnm ?_
 refine aw_ret ?_
 exact ⟨.inr rfl, _, ⟨bx, rw⟩, res_one rfl (resv_tmp rfl), subS_of (.refl _) (.refl _), rfl, rfl⟩
set_option maxRecDepth 100000 in
set_option maxHeartbeats 1600000 in
theorem stmtP_0 (A B : List Box) (rw : List ORow) (P : Nat) (l : List Tok) (k dp : Nat) (blk : Nat → PRes (List AStmt)) (hblk : ∀ (A B : List Box) (rw : List ORow) (P k e : Nat), k < l.length → e < 16 → ACall Tryd.prog 97 [.c (.val (.pointer (some ⟨P, 0, none⟩)))] [P] (PSt A B rw P l k dp e) (PAn A B rw P l dp (fun x => .c (.sl x.length (x.flatMap encS))) e k (blk k))) (hok : TOk l) (hk : k < l.length) (hk3 : l[k].kind = 3) (ht : l[k].text = bytes [118, 97, 114]) : ACall Tryd.prog 109 [.c (.val (.pointer (some ⟨P, 0, none⟩)))] [P] (PSt A B rw P l k dp 0) (PAn A B rw P l dp (fun x => .agg (encS1 x)) 0 k (stmtP l blk k)) := by
 have hlen := hok.len
 have he : (0 : Nat) < 16 := by decide
 refine acall_body Tryd.func109 rfl (Nat.le_of_ble_eq_true rfl) ?_
 show AWp Tryd.prog _ ⟨42, [P], ⟨A ++ ⟨P, 73, [.sl l.length (l.flatMap encT), .val (.int .i64 ((k : Nat) : Int)), .val (.int .i64 ((dp : Nat) : Int)), .val (.int .i64 ((0 : Nat) : Int))]⟩ :: B, rw⟩, [(0, .c (.val (.pointer (some ⟨P, 0, none⟩))))]⟩ _
 refine sqrg ?_
 refine wo rfl (walloc rfl rfl (by decide) Tryd.zeroValue119 rfl fun b1 => ?_)
 refine nlnm ?_
 refine aw_seq ?_
 refine aw_seq ?_
 refine aw_region_drew [b1, P] (by kernel_rfl) ?_
 refine tq 0 (by kernel_rfl) rfl rfl rfl rfl (ay_move rfl rfl) ?_
 refine tq 1 (by kernel_rfl) rfl rfl rfl rfl (ay_nilCheck rfl rfl) ?_
 refine tq 2 (by kernel_rfl) rfl rfl rfl rfl (ay_fieldAddr 0 0 rfl rfl Tryd.runUnderlying73 rfl Tryd.sizeOf34 (by decide) rfl) ?_
 refine tq 3 (by kernel_rfl) rfl rfl rfl rfl (ay_load_box (_ :: A) rfl rfl rfl Tryd.isAgg34 Tryd.sizeOf34 rfl (fun _ h => (mem_off.1 h).2 (by simp))) ?_
 refine tq 4 (by kernel_rfl) rfl rfl rfl rfl (ay_move rfl rfl) ?_
 refine tq 5 (by kernel_rfl) rfl rfl rfl rfl (ay_nilCheck rfl rfl) ?_
 refine tq 6 (by kernel_rfl) rfl rfl rfl rfl (ay_fieldAddr 1 1 rfl rfl Tryd.runUnderlying73 rfl Tryd.sizeOf3 (by decide) rfl) ?_
 refine tq 7 (by kernel_rfl) rfl rfl rfl rfl (ay_load_box (_ :: A) rfl rfl rfl Tryd.isAgg3 Tryd.sizeOf3 rfl (fun _ h => (mem_off.1 h).2 (by simp))) ?_
 refine tq 8 (by kernel_rfl) rfl rfl rfl rfl (ay_ix encT encT l encT_len (fun _ => rfl) (k) rfl rfl rfl rfl hk (by decide) Tryd.runUnderlying34 Tryd.sizeOf65) ?_
 refine tq 9 (by kernel_rfl) rfl rfl rfl rfl (ay_fieldAddr_el 0 rfl rfl Tryd.runUnderlying65 rfl Tryd.sizeOf3 (by decide)) ?_
 refine tq 10 (by kernel_rfl) rfl rfl rfl rfl (ay_load_el rfl rfl Tryd.isAgg3 Tryd.sizeOf3 rfl) ?_
 refine tq 11 (by kernel_rfl) rfl rfl rfl rfl (ay_cmp true rfl rfl rfl (by rw [hk3]; rfl)) ?_
 refine any_done (by kernel_rfl) ?_
 refine then_normal ?_
 refine aw_condT rfl rfl ?_
 refine aw_seq ?_
 refine aw_region_drew [b1, P] (by kernel_rfl) ?_
 refine tq 0 (by kernel_rfl) rfl rfl rfl rfl (ay_move rfl rfl) ?_
 refine tq 1 (by kernel_rfl) rfl rfl rfl rfl (ay_move rfl rfl) ?_
 refine tq 2 (by kernel_rfl) rfl rfl rfl rfl (ay_nilCheck rfl rfl) ?_
 refine tq 3 (by kernel_rfl) rfl rfl rfl rfl (ay_fieldAddr 0 0 rfl rfl Tryd.runUnderlying73 rfl Tryd.sizeOf34 (by decide) rfl) ?_
 refine tq 4 (by kernel_rfl) rfl rfl rfl rfl (ay_load_box (_ :: A) rfl rfl rfl Tryd.isAgg34 Tryd.sizeOf34 rfl (fun _ h => (mem_off.1 h).2 (by simp))) ?_
 refine tq 5 (by kernel_rfl) rfl rfl rfl rfl (ay_move rfl rfl) ?_
 refine tq 6 (by kernel_rfl) rfl rfl rfl rfl (ay_nilCheck rfl rfl) ?_
 refine tq 7 (by kernel_rfl) rfl rfl rfl rfl (ay_fieldAddr 1 1 rfl rfl Tryd.runUnderlying73 rfl Tryd.sizeOf3 (by decide) rfl) ?_
 refine tq 8 (by kernel_rfl) rfl rfl rfl rfl (ay_load_box (_ :: A) rfl rfl rfl Tryd.isAgg3 Tryd.sizeOf3 rfl (fun _ h => (mem_off.1 h).2 (by simp))) ?_
 refine tq 9 (by kernel_rfl) rfl rfl rfl rfl (ay_ix encT encT l encT_len (fun _ => rfl) (k) rfl rfl rfl rfl hk (by decide) Tryd.runUnderlying34 Tryd.sizeOf65) ?_
 refine tq 10 (by kernel_rfl) rfl rfl rfl rfl (ay_fieldAddr_el 1 rfl rfl Tryd.runUnderlying65 rfl Tryd.sizeOf9 (by decide)) ?_
 refine tq 11 (by kernel_rfl) rfl rfl rfl rfl (ay_load_el rfl rfl Tryd.isAgg9 Tryd.sizeOf9 rfl) ?_
 refine one 12 (by kernel_rfl) rfl rfl (wcall [] rfl rfl (by decide) Tryd.call118 rfl (reader_0 P l[k].text ht _) (fun _ h => by cases h) (fun _ h => by cases h) (fun _ _ h => by cases h) ?_)
 rintro t2 s2 ⟨rfl, rfl⟩
 refine tq 13 (by kernel_rfl) rfl rfl rfl rfl (ay_assign rfl rfl) ?_
 refine any_done (by kernel_rfl) ?_
 refine then_normal ?_
 refine sqrg ?_
 refine wmv rfl rfl rfl rfl rfl ?_
 refine wyy rfl rfl rfl (ay_fnne rfl rfl rfl) ?_
 refine nlnm ?_
 refine aw_condT rfl rfl ?_
 refine sqrg ?_
 have hm := hok.last.more hk (by rw [tokAt_lt hk, hk3]; decide)
 refine wmv rfl rfl rfl rfl rfl ?_
 refine wyy rfl rfl rfl (ay_nilCheck rfl rfl) ?_
 refine wyy rfl rfl rfl (ay_fieldAddr 1 1 rfl rfl Tryd.runUnderlying73 rfl Tryd.sizeOf3 (by decide) rfl) ?_
 refine wyy rfl rfl rfl (ay_load_box (_ :: A) rfl rfl rfl Tryd.isAgg3 Tryd.sizeOf3 rfl (fun _ h => by cases h)) ?_
 refine wyy rfl rfl rfl (ay_add rfl rfl rfl (by omega) (by omega)) ?_
 refine wyy rfl rfl rfl (ay_nilCheck rfl rfl) ?_
 refine wyy rfl rfl rfl (ay_fieldAddr 1 1 rfl rfl Tryd.runUnderlying73 rfl Tryd.sizeOf3 (by decide) rfl) ?_
 refine wo rfl (wstA1 rfl rfl rfl rfl rfl Tryd.sizeOf3 rfl (Nat.le_of_ble_eq_true rfl) rfl (by simp) (fun _ => by simp) ?_)
 refine nx ?_
 refine wmv rfl rfl rfl rfl rfl ?_
 refine wo rfl (wcallv [P] rfl rfl rfl (by decide) Tryd.call128 (us := []) rfl (localP_c (_ :: A) B rw P l (k + 1) dp 0 hok hm (by decide)) (i1 (by simp)) (i1 (by simp [Sto.bl])) (fun _ => i1 (by simp)) ?_)
 rintro t4 s4 ⟨x4, k4, e4, rfl, hr4, hk4, he4, rfl⟩
 refine ⟨[], (fun _ b hb => nomatch hb), ?_⟩
 refine wo rfl (wst0 rfl rfl rfl rfl rfl Tryd.sizeOf119 rfl (Nat.le_of_ble_eq_true rfl) (splice_all rfl) (by simp) (fun _ => by simp) ?_)
 refine nlnm ?_
 refine aw_ret ?_
 refine then_ret ?_
 exact ⟨.inr rfl, _, (PSt A B rw P l (k4) (dp) (e4)), (res_one rfl (resv_cell [] rfl rfl Tryd.isAgg119 Tryd.sizeOf119 (pk_all rfl rfl))), subS_of (.cons _ (.refl _)) (.refl _), ⟨x4, k4, e4, rfl, (Run.from hr4).eq fun _ => by unfold stmtP; rw [if_pos (by rw [wordAt_at hk, hk3, ht]; decide)], hk4, he4, rfl⟩⟩
set_option maxRecDepth 100000 in
set_option maxHeartbeats 1600000 in
theorem stmtP_1 (A B : List Box) (rw : List ORow) (P : Nat) (l : List Tok) (k dp : Nat) (blk : Nat → PRes (List AStmt)) (hblk : ∀ (A B : List Box) (rw : List ORow) (P k e : Nat), k < l.length → e < 16 → ACall Tryd.prog 97 [.c (.val (.pointer (some ⟨P, 0, none⟩)))] [P] (PSt A B rw P l k dp e) (PAn A B rw P l dp (fun x => .c (.sl x.length (x.flatMap encS))) e k (blk k))) (hok : TOk l) (hk : k < l.length) (hk3 : l[k].kind = 3) (ht : l[k].text = bytes [103, 111]) : ACall Tryd.prog 109 [.c (.val (.pointer (some ⟨P, 0, none⟩)))] [P] (PSt A B rw P l k dp 0) (PAn A B rw P l dp (fun x => .agg (encS1 x)) 0 k (stmtP l blk k)) := by
 have hlen := hok.len
 have he : (0 : Nat) < 16 := by decide
 refine acall_body Tryd.func109 rfl (Nat.le_of_ble_eq_true rfl) ?_
 show AWp Tryd.prog _ ⟨42, [P], ⟨A ++ ⟨P, 73, [.sl l.length (l.flatMap encT), .val (.int .i64 ((k : Nat) : Int)), .val (.int .i64 ((dp : Nat) : Int)), .val (.int .i64 ((0 : Nat) : Int))]⟩ :: B, rw⟩, [(0, .c (.val (.pointer (some ⟨P, 0, none⟩))))]⟩ _
 refine sqrg ?_
 refine wo rfl (walloc rfl rfl (by decide) Tryd.zeroValue119 rfl fun b1 => ?_)
 refine nlnm ?_
 refine aw_seq ?_
 refine aw_seq ?_
 refine aw_region_drew [b1, P] (by kernel_rfl) ?_
 refine tq 0 (by kernel_rfl) rfl rfl rfl rfl (ay_move rfl rfl) ?_
 refine tq 1 (by kernel_rfl) rfl rfl rfl rfl (ay_nilCheck rfl rfl) ?_
 refine tq 2 (by kernel_rfl) rfl rfl rfl rfl (ay_fieldAddr 0 0 rfl rfl Tryd.runUnderlying73 rfl Tryd.sizeOf34 (by decide) rfl) ?_
 refine tq 3 (by kernel_rfl) rfl rfl rfl rfl (ay_load_box (_ :: A) rfl rfl rfl Tryd.isAgg34 Tryd.sizeOf34 rfl (fun _ h => (mem_off.1 h).2 (by simp))) ?_
 refine tq 4 (by kernel_rfl) rfl rfl rfl rfl (ay_move rfl rfl) ?_
 refine tq 5 (by kernel_rfl) rfl rfl rfl rfl (ay_nilCheck rfl rfl) ?_
 refine tq 6 (by kernel_rfl) rfl rfl rfl rfl (ay_fieldAddr 1 1 rfl rfl Tryd.runUnderlying73 rfl Tryd.sizeOf3 (by decide) rfl) ?_
 refine tq 7 (by kernel_rfl) rfl rfl rfl rfl (ay_load_box (_ :: A) rfl rfl rfl Tryd.isAgg3 Tryd.sizeOf3 rfl (fun _ h => (mem_off.1 h).2 (by simp))) ?_
 refine tq 8 (by kernel_rfl) rfl rfl rfl rfl (ay_ix encT encT l encT_len (fun _ => rfl) (k) rfl rfl rfl rfl hk (by decide) Tryd.runUnderlying34 Tryd.sizeOf65) ?_
 refine tq 9 (by kernel_rfl) rfl rfl rfl rfl (ay_fieldAddr_el 0 rfl rfl Tryd.runUnderlying65 rfl Tryd.sizeOf3 (by decide)) ?_
 refine tq 10 (by kernel_rfl) rfl rfl rfl rfl (ay_load_el rfl rfl Tryd.isAgg3 Tryd.sizeOf3 rfl) ?_
 refine tq 11 (by kernel_rfl) rfl rfl rfl rfl (ay_cmp true rfl rfl rfl (by rw [hk3]; rfl)) ?_
 refine any_done (by kernel_rfl) ?_
 refine then_normal ?_
 refine aw_condT rfl rfl ?_
 refine aw_seq ?_
 refine aw_region_drew [b1, P] (by kernel_rfl) ?_
 refine tq 0 (by kernel_rfl) rfl rfl rfl rfl (ay_move rfl rfl) ?_
 refine tq 1 (by kernel_rfl) rfl rfl rfl rfl (ay_move rfl rfl) ?_
 refine tq 2 (by kernel_rfl) rfl rfl rfl rfl (ay_nilCheck rfl rfl) ?_
 refine tq 3 (by kernel_rfl) rfl rfl rfl rfl (ay_fieldAddr 0 0 rfl rfl Tryd.runUnderlying73 rfl Tryd.sizeOf34 (by decide) rfl) ?_
 refine tq 4 (by kernel_rfl) rfl rfl rfl rfl (ay_load_box (_ :: A) rfl rfl rfl Tryd.isAgg34 Tryd.sizeOf34 rfl (fun _ h => (mem_off.1 h).2 (by simp))) ?_
 refine tq 5 (by kernel_rfl) rfl rfl rfl rfl (ay_move rfl rfl) ?_
 refine tq 6 (by kernel_rfl) rfl rfl rfl rfl (ay_nilCheck rfl rfl) ?_
 refine tq 7 (by kernel_rfl) rfl rfl rfl rfl (ay_fieldAddr 1 1 rfl rfl Tryd.runUnderlying73 rfl Tryd.sizeOf3 (by decide) rfl) ?_
 refine tq 8 (by kernel_rfl) rfl rfl rfl rfl (ay_load_box (_ :: A) rfl rfl rfl Tryd.isAgg3 Tryd.sizeOf3 rfl (fun _ h => (mem_off.1 h).2 (by simp))) ?_
 refine tq 9 (by kernel_rfl) rfl rfl rfl rfl (ay_ix encT encT l encT_len (fun _ => rfl) (k) rfl rfl rfl rfl hk (by decide) Tryd.runUnderlying34 Tryd.sizeOf65) ?_
 refine tq 10 (by kernel_rfl) rfl rfl rfl rfl (ay_fieldAddr_el 1 rfl rfl Tryd.runUnderlying65 rfl Tryd.sizeOf9 (by decide)) ?_
 refine tq 11 (by kernel_rfl) rfl rfl rfl rfl (ay_load_el rfl rfl Tryd.isAgg9 Tryd.sizeOf9 rfl) ?_
 refine one 12 (by kernel_rfl) rfl rfl (wcall [] rfl rfl (by decide) Tryd.call118 rfl (reader_1 P l[k].text ht _) (fun _ h => by cases h) (fun _ h => by cases h) (fun _ _ h => by cases h) ?_)
 rintro t2 s2 ⟨rfl, rfl⟩
 refine tq 13 (by kernel_rfl) rfl rfl rfl rfl (ay_assign rfl rfl) ?_
 refine any_done (by kernel_rfl) ?_
 refine then_normal ?_
 refine sqrg ?_
 refine wmv rfl rfl rfl rfl rfl ?_
 refine wyy rfl rfl rfl (ay_fnne rfl rfl rfl) ?_
 refine nlnm ?_
 refine aw_condT rfl rfl ?_
 refine sqrg ?_
 have hm := hok.last.more hk (by rw [tokAt_lt hk, hk3]; decide)
 refine wmv rfl rfl rfl rfl rfl ?_
 refine wyy rfl rfl rfl (ay_nilCheck rfl rfl) ?_
 refine wyy rfl rfl rfl (ay_fieldAddr 1 1 rfl rfl Tryd.runUnderlying73 rfl Tryd.sizeOf3 (by decide) rfl) ?_
 refine wyy rfl rfl rfl (ay_load_box (_ :: A) rfl rfl rfl Tryd.isAgg3 Tryd.sizeOf3 rfl (fun _ h => by cases h)) ?_
 refine wyy rfl rfl rfl (ay_add rfl rfl rfl (by omega) (by omega)) ?_
 refine wyy rfl rfl rfl (ay_nilCheck rfl rfl) ?_
 refine wyy rfl rfl rfl (ay_fieldAddr 1 1 rfl rfl Tryd.runUnderlying73 rfl Tryd.sizeOf3 (by decide) rfl) ?_
 refine wo rfl (wstA1 rfl rfl rfl rfl rfl Tryd.sizeOf3 rfl (Nat.le_of_ble_eq_true rfl) rfl (by simp) (fun _ => by simp) ?_)
 refine nx ?_
 refine wmv rfl rfl rfl rfl rfl ?_
 refine wo rfl (wcallv [P] rfl rfl rfl (by decide) Tryd.call129 (us := []) rfl (goP_c (_ :: A) B rw P l (k + 1) dp 0 hok hm (by decide)) (i1 (by simp)) (i1 (by simp [Sto.bl])) (fun _ => i1 (by simp)) ?_)
 rintro t4 s4 ⟨x4, k4, e4, rfl, hr4, hk4, he4, rfl⟩
 refine ⟨[], (fun _ b hb => nomatch hb), ?_⟩
 refine wo rfl (wst0 rfl rfl rfl rfl rfl Tryd.sizeOf119 rfl (Nat.le_of_ble_eq_true rfl) (splice_all rfl) (by simp) (fun _ => by simp) ?_)
 refine nlnm ?_
 refine aw_ret ?_
 refine then_ret ?_
 exact ⟨.inr rfl, _, (PSt A B rw P l (k4) (dp) (e4)), (res_one rfl (resv_cell [] rfl rfl Tryd.isAgg119 Tryd.sizeOf119 (pk_all rfl rfl))), subS_of (.cons _ (.refl _)) (.refl _), ⟨x4, k4, e4, rfl, (Run.from hr4).eq fun _ => by unfold stmtP; rw [if_neg (by rw [wordAt_at hk, hk3, ht]; decide), if_pos (by rw [wordAt_at hk, hk3, ht]; decide)], hk4, he4, rfl⟩⟩
set_option maxRecDepth 100000 in
set_option maxHeartbeats 1600000 in
theorem stmtP_2 (A B : List Box) (rw : List ORow) (P : Nat) (l : List Tok) (k dp : Nat) (blk : Nat → PRes (List AStmt)) (hblk : ∀ (A B : List Box) (rw : List ORow) (P k e : Nat), k < l.length → e < 16 → ACall Tryd.prog 97 [.c (.val (.pointer (some ⟨P, 0, none⟩)))] [P] (PSt A B rw P l k dp e) (PAn A B rw P l dp (fun x => .c (.sl x.length (x.flatMap encS))) e k (blk k))) (hok : TOk l) (hk : k < l.length) (hk3 : l[k].kind = 3) (ht : l[k].text = bytes [108, 111, 99, 107]) : ACall Tryd.prog 109 [.c (.val (.pointer (some ⟨P, 0, none⟩)))] [P] (PSt A B rw P l k dp 0) (PAn A B rw P l dp (fun x => .agg (encS1 x)) 0 k (stmtP l blk k)) := by
 have hlen := hok.len
 have he : (0 : Nat) < 16 := by decide
 refine acall_body Tryd.func109 rfl (Nat.le_of_ble_eq_true rfl) ?_
 show AWp Tryd.prog _ ⟨42, [P], ⟨A ++ ⟨P, 73, [.sl l.length (l.flatMap encT), .val (.int .i64 ((k : Nat) : Int)), .val (.int .i64 ((dp : Nat) : Int)), .val (.int .i64 ((0 : Nat) : Int))]⟩ :: B, rw⟩, [(0, .c (.val (.pointer (some ⟨P, 0, none⟩))))]⟩ _
 refine sqrg ?_
 refine wo rfl (walloc rfl rfl (by decide) Tryd.zeroValue119 rfl fun b1 => ?_)
 refine nlnm ?_
 refine aw_seq ?_
 refine aw_seq ?_
 refine aw_region_drew [b1, P] (by kernel_rfl) ?_
 refine tq 0 (by kernel_rfl) rfl rfl rfl rfl (ay_move rfl rfl) ?_
 refine tq 1 (by kernel_rfl) rfl rfl rfl rfl (ay_nilCheck rfl rfl) ?_
 refine tq 2 (by kernel_rfl) rfl rfl rfl rfl (ay_fieldAddr 0 0 rfl rfl Tryd.runUnderlying73 rfl Tryd.sizeOf34 (by decide) rfl) ?_
 refine tq 3 (by kernel_rfl) rfl rfl rfl rfl (ay_load_box (_ :: A) rfl rfl rfl Tryd.isAgg34 Tryd.sizeOf34 rfl (fun _ h => (mem_off.1 h).2 (by simp))) ?_
 refine tq 4 (by kernel_rfl) rfl rfl rfl rfl (ay_move rfl rfl) ?_
 refine tq 5 (by kernel_rfl) rfl rfl rfl rfl (ay_nilCheck rfl rfl) ?_
 refine tq 6 (by kernel_rfl) rfl rfl rfl rfl (ay_fieldAddr 1 1 rfl rfl Tryd.runUnderlying73 rfl Tryd.sizeOf3 (by decide) rfl) ?_
 refine tq 7 (by kernel_rfl) rfl rfl rfl rfl (ay_load_box (_ :: A) rfl rfl rfl Tryd.isAgg3 Tryd.sizeOf3 rfl (fun _ h => (mem_off.1 h).2 (by simp))) ?_
 refine tq 8 (by kernel_rfl) rfl rfl rfl rfl (ay_ix encT encT l encT_len (fun _ => rfl) (k) rfl rfl rfl rfl hk (by decide) Tryd.runUnderlying34 Tryd.sizeOf65) ?_
 refine tq 9 (by kernel_rfl) rfl rfl rfl rfl (ay_fieldAddr_el 0 rfl rfl Tryd.runUnderlying65 rfl Tryd.sizeOf3 (by decide)) ?_
 refine tq 10 (by kernel_rfl) rfl rfl rfl rfl (ay_load_el rfl rfl Tryd.isAgg3 Tryd.sizeOf3 rfl) ?_
 refine tq 11 (by kernel_rfl) rfl rfl rfl rfl (ay_cmp true rfl rfl rfl (by rw [hk3]; rfl)) ?_
 refine any_done (by kernel_rfl) ?_
 refine then_normal ?_
 refine aw_condT rfl rfl ?_
 refine aw_seq ?_
 refine aw_region_drew [b1, P] (by kernel_rfl) ?_
 refine tq 0 (by kernel_rfl) rfl rfl rfl rfl (ay_move rfl rfl) ?_
 refine tq 1 (by kernel_rfl) rfl rfl rfl rfl (ay_move rfl rfl) ?_
 refine tq 2 (by kernel_rfl) rfl rfl rfl rfl (ay_nilCheck rfl rfl) ?_
 refine tq 3 (by kernel_rfl) rfl rfl rfl rfl (ay_fieldAddr 0 0 rfl rfl Tryd.runUnderlying73 rfl Tryd.sizeOf34 (by decide) rfl) ?_
 refine tq 4 (by kernel_rfl) rfl rfl rfl rfl (ay_load_box (_ :: A) rfl rfl rfl Tryd.isAgg34 Tryd.sizeOf34 rfl (fun _ h => (mem_off.1 h).2 (by simp))) ?_
 refine tq 5 (by kernel_rfl) rfl rfl rfl rfl (ay_move rfl rfl) ?_
 refine tq 6 (by kernel_rfl) rfl rfl rfl rfl (ay_nilCheck rfl rfl) ?_
 refine tq 7 (by kernel_rfl) rfl rfl rfl rfl (ay_fieldAddr 1 1 rfl rfl Tryd.runUnderlying73 rfl Tryd.sizeOf3 (by decide) rfl) ?_
 refine tq 8 (by kernel_rfl) rfl rfl rfl rfl (ay_load_box (_ :: A) rfl rfl rfl Tryd.isAgg3 Tryd.sizeOf3 rfl (fun _ h => (mem_off.1 h).2 (by simp))) ?_
 refine tq 9 (by kernel_rfl) rfl rfl rfl rfl (ay_ix encT encT l encT_len (fun _ => rfl) (k) rfl rfl rfl rfl hk (by decide) Tryd.runUnderlying34 Tryd.sizeOf65) ?_
 refine tq 10 (by kernel_rfl) rfl rfl rfl rfl (ay_fieldAddr_el 1 rfl rfl Tryd.runUnderlying65 rfl Tryd.sizeOf9 (by decide)) ?_
 refine tq 11 (by kernel_rfl) rfl rfl rfl rfl (ay_load_el rfl rfl Tryd.isAgg9 Tryd.sizeOf9 rfl) ?_
 refine one 12 (by kernel_rfl) rfl rfl (wcall [] rfl rfl (by decide) Tryd.call118 rfl (reader_2 P l[k].text ht _) (fun _ h => by cases h) (fun _ h => by cases h) (fun _ _ h => by cases h) ?_)
 rintro t2 s2 ⟨rfl, rfl⟩
 refine tq 13 (by kernel_rfl) rfl rfl rfl rfl (ay_assign rfl rfl) ?_
 refine any_done (by kernel_rfl) ?_
 refine then_normal ?_
 refine sqrg ?_
 refine wmv rfl rfl rfl rfl rfl ?_
 refine wyy rfl rfl rfl (ay_fnne rfl rfl rfl) ?_
 refine nlnm ?_
 refine aw_condT rfl rfl ?_
 refine sqrg ?_
 have hm := hok.last.more hk (by rw [tokAt_lt hk, hk3]; decide)
 refine wmv rfl rfl rfl rfl rfl ?_
 refine wyy rfl rfl rfl (ay_nilCheck rfl rfl) ?_
 refine wyy rfl rfl rfl (ay_fieldAddr 1 1 rfl rfl Tryd.runUnderlying73 rfl Tryd.sizeOf3 (by decide) rfl) ?_
 refine wyy rfl rfl rfl (ay_load_box (_ :: A) rfl rfl rfl Tryd.isAgg3 Tryd.sizeOf3 rfl (fun _ h => by cases h)) ?_
 refine wyy rfl rfl rfl (ay_add rfl rfl rfl (by omega) (by omega)) ?_
 refine wyy rfl rfl rfl (ay_nilCheck rfl rfl) ?_
 refine wyy rfl rfl rfl (ay_fieldAddr 1 1 rfl rfl Tryd.runUnderlying73 rfl Tryd.sizeOf3 (by decide) rfl) ?_
 refine wo rfl (wstA1 rfl rfl rfl rfl rfl Tryd.sizeOf3 rfl (Nat.le_of_ble_eq_true rfl) rfl (by simp) (fun _ => by simp) ?_)
 refine nx ?_
 refine wmv rfl rfl rfl rfl rfl ?_
 refine wo rfl (wcallv [P] rfl rfl rfl (by decide) Tryd.call130 (us := []) rfl (lockP_c (_ :: A) B rw P l (k + 1) dp 0 hok hm (by decide)) (i1 (by simp)) (i1 (by simp [Sto.bl])) (fun _ => i1 (by simp)) ?_)
 rintro t4 s4 ⟨x4, k4, e4, rfl, hr4, hk4, he4, rfl⟩
 refine ⟨[], (fun _ b hb => nomatch hb), ?_⟩
 refine wo rfl (wst0 rfl rfl rfl rfl rfl Tryd.sizeOf119 rfl (Nat.le_of_ble_eq_true rfl) (splice_all rfl) (by simp) (fun _ => by simp) ?_)
 refine nlnm ?_
 refine aw_ret ?_
 refine then_ret ?_
 exact ⟨.inr rfl, _, (PSt A B rw P l (k4) (dp) (e4)), (res_one rfl (resv_cell [] rfl rfl Tryd.isAgg119 Tryd.sizeOf119 (pk_all rfl rfl))), subS_of (.cons _ (.refl _)) (.refl _), ⟨x4, k4, e4, rfl, (Run.from hr4).eq fun _ => by unfold stmtP; rw [if_neg (by rw [wordAt_at hk, hk3, ht]; decide), if_neg (by rw [wordAt_at hk, hk3, ht]; decide), if_pos (by rw [wordAt_at hk, hk3, ht]; decide)], hk4, he4, rfl⟩⟩
set_option maxRecDepth 100000 in
set_option maxHeartbeats 1600000 in
theorem stmtP_3 (A B : List Box) (rw : List ORow) (P : Nat) (l : List Tok) (k dp : Nat) (blk : Nat → PRes (List AStmt)) (hblk : ∀ (A B : List Box) (rw : List ORow) (P k e : Nat), k < l.length → e < 16 → ACall Tryd.prog 97 [.c (.val (.pointer (some ⟨P, 0, none⟩)))] [P] (PSt A B rw P l k dp e) (PAn A B rw P l dp (fun x => .c (.sl x.length (x.flatMap encS))) e k (blk k))) (hok : TOk l) (hk : k < l.length) (hk3 : l[k].kind = 3) (ht : l[k].text = bytes [117, 110, 108, 111, 99, 107]) : ACall Tryd.prog 109 [.c (.val (.pointer (some ⟨P, 0, none⟩)))] [P] (PSt A B rw P l k dp 0) (PAn A B rw P l dp (fun x => .agg (encS1 x)) 0 k (stmtP l blk k)) := by
 have hlen := hok.len
 have he : (0 : Nat) < 16 := by decide
 refine acall_body Tryd.func109 rfl (Nat.le_of_ble_eq_true rfl) ?_
 show AWp Tryd.prog _ ⟨42, [P], ⟨A ++ ⟨P, 73, [.sl l.length (l.flatMap encT), .val (.int .i64 ((k : Nat) : Int)), .val (.int .i64 ((dp : Nat) : Int)), .val (.int .i64 ((0 : Nat) : Int))]⟩ :: B, rw⟩, [(0, .c (.val (.pointer (some ⟨P, 0, none⟩))))]⟩ _
 refine sqrg ?_
 refine wo rfl (walloc rfl rfl (by decide) Tryd.zeroValue119 rfl fun b1 => ?_)
 refine nlnm ?_
 refine aw_seq ?_
 refine aw_seq ?_
 refine aw_region_drew [b1, P] (by kernel_rfl) ?_
 refine tq 0 (by kernel_rfl) rfl rfl rfl rfl (ay_move rfl rfl) ?_
 refine tq 1 (by kernel_rfl) rfl rfl rfl rfl (ay_nilCheck rfl rfl) ?_
 refine tq 2 (by kernel_rfl) rfl rfl rfl rfl (ay_fieldAddr 0 0 rfl rfl Tryd.runUnderlying73 rfl Tryd.sizeOf34 (by decide) rfl) ?_
 refine tq 3 (by kernel_rfl) rfl rfl rfl rfl (ay_load_box (_ :: A) rfl rfl rfl Tryd.isAgg34 Tryd.sizeOf34 rfl (fun _ h => (mem_off.1 h).2 (by simp))) ?_
 refine tq 4 (by kernel_rfl) rfl rfl rfl rfl (ay_move rfl rfl) ?_
 refine tq 5 (by kernel_rfl) rfl rfl rfl rfl (ay_nilCheck rfl rfl) ?_
 refine tq 6 (by kernel_rfl) rfl rfl rfl rfl (ay_fieldAddr 1 1 rfl rfl Tryd.runUnderlying73 rfl Tryd.sizeOf3 (by decide) rfl) ?_
 refine tq 7 (by kernel_rfl) rfl rfl rfl rfl (ay_load_box (_ :: A) rfl rfl rfl Tryd.isAgg3 Tryd.sizeOf3 rfl (fun _ h => (mem_off.1 h).2 (by simp))) ?_
 refine tq 8 (by kernel_rfl) rfl rfl rfl rfl (ay_ix encT encT l encT_len (fun _ => rfl) (k) rfl rfl rfl rfl hk (by decide) Tryd.runUnderlying34 Tryd.sizeOf65) ?_
 refine tq 9 (by kernel_rfl) rfl rfl rfl rfl (ay_fieldAddr_el 0 rfl rfl Tryd.runUnderlying65 rfl Tryd.sizeOf3 (by decide)) ?_
 refine tq 10 (by kernel_rfl) rfl rfl rfl rfl (ay_load_el rfl rfl Tryd.isAgg3 Tryd.sizeOf3 rfl) ?_
 refine tq 11 (by kernel_rfl) rfl rfl rfl rfl (ay_cmp true rfl rfl rfl (by rw [hk3]; rfl)) ?_
 refine any_done (by kernel_rfl) ?_
 refine then_normal ?_
 refine aw_condT rfl rfl ?_
 refine aw_seq ?_
 refine aw_region_drew [b1, P] (by kernel_rfl) ?_
 refine tq 0 (by kernel_rfl) rfl rfl rfl rfl (ay_move rfl rfl) ?_
 refine tq 1 (by kernel_rfl) rfl rfl rfl rfl (ay_move rfl rfl) ?_
 refine tq 2 (by kernel_rfl) rfl rfl rfl rfl (ay_nilCheck rfl rfl) ?_
 refine tq 3 (by kernel_rfl) rfl rfl rfl rfl (ay_fieldAddr 0 0 rfl rfl Tryd.runUnderlying73 rfl Tryd.sizeOf34 (by decide) rfl) ?_
 refine tq 4 (by kernel_rfl) rfl rfl rfl rfl (ay_load_box (_ :: A) rfl rfl rfl Tryd.isAgg34 Tryd.sizeOf34 rfl (fun _ h => (mem_off.1 h).2 (by simp))) ?_
 refine tq 5 (by kernel_rfl) rfl rfl rfl rfl (ay_move rfl rfl) ?_
 refine tq 6 (by kernel_rfl) rfl rfl rfl rfl (ay_nilCheck rfl rfl) ?_
 refine tq 7 (by kernel_rfl) rfl rfl rfl rfl (ay_fieldAddr 1 1 rfl rfl Tryd.runUnderlying73 rfl Tryd.sizeOf3 (by decide) rfl) ?_
 refine tq 8 (by kernel_rfl) rfl rfl rfl rfl (ay_load_box (_ :: A) rfl rfl rfl Tryd.isAgg3 Tryd.sizeOf3 rfl (fun _ h => (mem_off.1 h).2 (by simp))) ?_
 refine tq 9 (by kernel_rfl) rfl rfl rfl rfl (ay_ix encT encT l encT_len (fun _ => rfl) (k) rfl rfl rfl rfl hk (by decide) Tryd.runUnderlying34 Tryd.sizeOf65) ?_
 refine tq 10 (by kernel_rfl) rfl rfl rfl rfl (ay_fieldAddr_el 1 rfl rfl Tryd.runUnderlying65 rfl Tryd.sizeOf9 (by decide)) ?_
 refine tq 11 (by kernel_rfl) rfl rfl rfl rfl (ay_load_el rfl rfl Tryd.isAgg9 Tryd.sizeOf9 rfl) ?_
 refine one 12 (by kernel_rfl) rfl rfl (wcall [] rfl rfl (by decide) Tryd.call118 rfl (reader_3 P l[k].text ht _) (fun _ h => by cases h) (fun _ h => by cases h) (fun _ _ h => by cases h) ?_)
 rintro t2 s2 ⟨rfl, rfl⟩
 refine tq 13 (by kernel_rfl) rfl rfl rfl rfl (ay_assign rfl rfl) ?_
 refine any_done (by kernel_rfl) ?_
 refine then_normal ?_
 refine sqrg ?_
 refine wmv rfl rfl rfl rfl rfl ?_
 refine wyy rfl rfl rfl (ay_fnne rfl rfl rfl) ?_
 refine nlnm ?_
 refine aw_condT rfl rfl ?_
 refine sqrg ?_
 have hm := hok.last.more hk (by rw [tokAt_lt hk, hk3]; decide)
 refine wmv rfl rfl rfl rfl rfl ?_
 refine wyy rfl rfl rfl (ay_nilCheck rfl rfl) ?_
 refine wyy rfl rfl rfl (ay_fieldAddr 1 1 rfl rfl Tryd.runUnderlying73 rfl Tryd.sizeOf3 (by decide) rfl) ?_
 refine wyy rfl rfl rfl (ay_load_box (_ :: A) rfl rfl rfl Tryd.isAgg3 Tryd.sizeOf3 rfl (fun _ h => by cases h)) ?_
 refine wyy rfl rfl rfl (ay_add rfl rfl rfl (by omega) (by omega)) ?_
 refine wyy rfl rfl rfl (ay_nilCheck rfl rfl) ?_
 refine wyy rfl rfl rfl (ay_fieldAddr 1 1 rfl rfl Tryd.runUnderlying73 rfl Tryd.sizeOf3 (by decide) rfl) ?_
 refine wo rfl (wstA1 rfl rfl rfl rfl rfl Tryd.sizeOf3 rfl (Nat.le_of_ble_eq_true rfl) rfl (by simp) (fun _ => by simp) ?_)
 refine nx ?_
 refine wmv rfl rfl rfl rfl rfl ?_
 refine wo rfl (wcallv [P] rfl rfl rfl (by decide) Tryd.call131 (us := []) rfl (unlockP_c (_ :: A) B rw P l (k + 1) dp 0 hok hm (by decide)) (i1 (by simp)) (i1 (by simp [Sto.bl])) (fun _ => i1 (by simp)) ?_)
 rintro t4 s4 ⟨x4, k4, e4, rfl, hr4, hk4, he4, rfl⟩
 refine ⟨[], (fun _ b hb => nomatch hb), ?_⟩
 refine wo rfl (wst0 rfl rfl rfl rfl rfl Tryd.sizeOf119 rfl (Nat.le_of_ble_eq_true rfl) (splice_all rfl) (by simp) (fun _ => by simp) ?_)
 refine nlnm ?_
 refine aw_ret ?_
 refine then_ret ?_
 exact ⟨.inr rfl, _, (PSt A B rw P l (k4) (dp) (e4)), (res_one rfl (resv_cell [] rfl rfl Tryd.isAgg119 Tryd.sizeOf119 (pk_all rfl rfl))), subS_of (.cons _ (.refl _)) (.refl _), ⟨x4, k4, e4, rfl, (Run.from hr4).eq fun _ => by unfold stmtP; rw [if_neg (by rw [wordAt_at hk, hk3, ht]; decide), if_neg (by rw [wordAt_at hk, hk3, ht]; decide), if_neg (by rw [wordAt_at hk, hk3, ht]; decide), if_pos (by rw [wordAt_at hk, hk3, ht]; decide)], hk4, he4, rfl⟩⟩
set_option maxRecDepth 100000 in
set_option maxHeartbeats 1600000 in
theorem stmtP_4 (A B : List Box) (rw : List ORow) (P : Nat) (l : List Tok) (k dp : Nat) (blk : Nat → PRes (List AStmt)) (hblk : ∀ (A B : List Box) (rw : List ORow) (P k e : Nat), k < l.length → e < 16 → ACall Tryd.prog 97 [.c (.val (.pointer (some ⟨P, 0, none⟩)))] [P] (PSt A B rw P l k dp e) (PAn A B rw P l dp (fun x => .c (.sl x.length (x.flatMap encS))) e k (blk k))) (hok : TOk l) (hk : k < l.length) (hk3 : l[k].kind = 3) (ht : l[k].text = bytes [105, 102]) : ACall Tryd.prog 109 [.c (.val (.pointer (some ⟨P, 0, none⟩)))] [P] (PSt A B rw P l k dp 0) (PAn A B rw P l dp (fun x => .agg (encS1 x)) 0 k (stmtP l blk k)) := by
 have hlen := hok.len
 have he : (0 : Nat) < 16 := by decide
 refine acall_body Tryd.func109 rfl (Nat.le_of_ble_eq_true rfl) ?_
 show AWp Tryd.prog _ ⟨42, [P], ⟨A ++ ⟨P, 73, [.sl l.length (l.flatMap encT), .val (.int .i64 ((k : Nat) : Int)), .val (.int .i64 ((dp : Nat) : Int)), .val (.int .i64 ((0 : Nat) : Int))]⟩ :: B, rw⟩, [(0, .c (.val (.pointer (some ⟨P, 0, none⟩))))]⟩ _
 refine sqrg ?_
 refine wo rfl (walloc rfl rfl (by decide) Tryd.zeroValue119 rfl fun b1 => ?_)
 refine nlnm ?_
 refine aw_seq ?_
 refine aw_seq ?_
 refine aw_region_drew [b1, P] (by kernel_rfl) ?_
 refine tq 0 (by kernel_rfl) rfl rfl rfl rfl (ay_move rfl rfl) ?_
 refine tq 1 (by kernel_rfl) rfl rfl rfl rfl (ay_nilCheck rfl rfl) ?_
 refine tq 2 (by kernel_rfl) rfl rfl rfl rfl (ay_fieldAddr 0 0 rfl rfl Tryd.runUnderlying73 rfl Tryd.sizeOf34 (by decide) rfl) ?_
 refine tq 3 (by kernel_rfl) rfl rfl rfl rfl (ay_load_box (_ :: A) rfl rfl rfl Tryd.isAgg34 Tryd.sizeOf34 rfl (fun _ h => (mem_off.1 h).2 (by simp))) ?_
 refine tq 4 (by kernel_rfl) rfl rfl rfl rfl (ay_move rfl rfl) ?_
 refine tq 5 (by kernel_rfl) rfl rfl rfl rfl (ay_nilCheck rfl rfl) ?_
 refine tq 6 (by kernel_rfl) rfl rfl rfl rfl (ay_fieldAddr 1 1 rfl rfl Tryd.runUnderlying73 rfl Tryd.sizeOf3 (by decide) rfl) ?_
 refine tq 7 (by kernel_rfl) rfl rfl rfl rfl (ay_load_box (_ :: A) rfl rfl rfl Tryd.isAgg3 Tryd.sizeOf3 rfl (fun _ h => (mem_off.1 h).2 (by simp))) ?_
 refine tq 8 (by kernel_rfl) rfl rfl rfl rfl (ay_ix encT encT l encT_len (fun _ => rfl) (k) rfl rfl rfl rfl hk (by decide) Tryd.runUnderlying34 Tryd.sizeOf65) ?_
 refine tq 9 (by kernel_rfl) rfl rfl rfl rfl (ay_fieldAddr_el 0 rfl rfl Tryd.runUnderlying65 rfl Tryd.sizeOf3 (by decide)) ?_
 refine tq 10 (by kernel_rfl) rfl rfl rfl rfl (ay_load_el rfl rfl Tryd.isAgg3 Tryd.sizeOf3 rfl) ?_
 refine tq 11 (by kernel_rfl) rfl rfl rfl rfl (ay_cmp true rfl rfl rfl (by rw [hk3]; rfl)) ?_
 refine any_done (by kernel_rfl) ?_
 refine then_normal ?_
 refine aw_condT rfl rfl ?_
 refine aw_seq ?_
 refine aw_region_drew [b1, P] (by kernel_rfl) ?_
 refine tq 0 (by kernel_rfl) rfl rfl rfl rfl (ay_move rfl rfl) ?_
 refine tq 1 (by kernel_rfl) rfl rfl rfl rfl (ay_move rfl rfl) ?_
 refine tq 2 (by kernel_rfl) rfl rfl rfl rfl (ay_nilCheck rfl rfl) ?_
 refine tq 3 (by kernel_rfl) rfl rfl rfl rfl (ay_fieldAddr 0 0 rfl rfl Tryd.runUnderlying73 rfl Tryd.sizeOf34 (by decide) rfl) ?_
 refine tq 4 (by kernel_rfl) rfl rfl rfl rfl (ay_load_box (_ :: A) rfl rfl rfl Tryd.isAgg34 Tryd.sizeOf34 rfl (fun _ h => (mem_off.1 h).2 (by simp))) ?_
 refine tq 5 (by kernel_rfl) rfl rfl rfl rfl (ay_move rfl rfl) ?_
 refine tq 6 (by kernel_rfl) rfl rfl rfl rfl (ay_nilCheck rfl rfl) ?_
 refine tq 7 (by kernel_rfl) rfl rfl rfl rfl (ay_fieldAddr 1 1 rfl rfl Tryd.runUnderlying73 rfl Tryd.sizeOf3 (by decide) rfl) ?_
 refine tq 8 (by kernel_rfl) rfl rfl rfl rfl (ay_load_box (_ :: A) rfl rfl rfl Tryd.isAgg3 Tryd.sizeOf3 rfl (fun _ h => (mem_off.1 h).2 (by simp))) ?_
 refine tq 9 (by kernel_rfl) rfl rfl rfl rfl (ay_ix encT encT l encT_len (fun _ => rfl) (k) rfl rfl rfl rfl hk (by decide) Tryd.runUnderlying34 Tryd.sizeOf65) ?_
 refine tq 10 (by kernel_rfl) rfl rfl rfl rfl (ay_fieldAddr_el 1 rfl rfl Tryd.runUnderlying65 rfl Tryd.sizeOf9 (by decide)) ?_
 refine tq 11 (by kernel_rfl) rfl rfl rfl rfl (ay_load_el rfl rfl Tryd.isAgg9 Tryd.sizeOf9 rfl) ?_
 refine one 12 (by kernel_rfl) rfl rfl (wcall [] rfl rfl (by decide) Tryd.call118 rfl (reader_4 P l[k].text ht _) (fun _ h => by cases h) (fun _ h => by cases h) (fun _ _ h => by cases h) ?_)
 rintro t2 s2 ⟨rfl, rfl⟩
 refine tq 13 (by kernel_rfl) rfl rfl rfl rfl (ay_assign rfl rfl) ?_
 refine any_done (by kernel_rfl) ?_
 refine then_normal ?_
 refine sqrg ?_
 refine wmv rfl rfl rfl rfl rfl ?_
 refine wyy rfl rfl rfl (ay_fnne rfl rfl rfl) ?_
 refine nlnm ?_
 refine aw_condT rfl rfl ?_
 refine sqrg ?_
 have hm := hok.last.more hk (by rw [tokAt_lt hk, hk3]; decide)
 refine wmv rfl rfl rfl rfl rfl ?_
 refine wyy rfl rfl rfl (ay_nilCheck rfl rfl) ?_
 refine wyy rfl rfl rfl (ay_fieldAddr 1 1 rfl rfl Tryd.runUnderlying73 rfl Tryd.sizeOf3 (by decide) rfl) ?_
 refine wyy rfl rfl rfl (ay_load_box (_ :: A) rfl rfl rfl Tryd.isAgg3 Tryd.sizeOf3 rfl (fun _ h => by cases h)) ?_
 refine wyy rfl rfl rfl (ay_add rfl rfl rfl (by omega) (by omega)) ?_
 refine wyy rfl rfl rfl (ay_nilCheck rfl rfl) ?_
 refine wyy rfl rfl rfl (ay_fieldAddr 1 1 rfl rfl Tryd.runUnderlying73 rfl Tryd.sizeOf3 (by decide) rfl) ?_
 refine wo rfl (wstA1 rfl rfl rfl rfl rfl Tryd.sizeOf3 rfl (Nat.le_of_ble_eq_true rfl) rfl (by simp) (fun _ => by simp) ?_)
 refine nx ?_
 refine wmv rfl rfl rfl rfl rfl ?_
 refine wo rfl (wcallv [P] rfl rfl rfl (by decide) Tryd.call132 (us := []) rfl (ifP_c (_ :: A) B rw P l (k + 1) dp 0 blk hblk hok hm (by decide)) (i1 (by simp)) (i1 (by simp [Sto.bl])) (fun _ => i1 (by simp)) ?_)
 rintro t4 s4 ⟨x4, k4, e4, rfl, hr4, hk4, he4, rfl⟩
 refine ⟨[], (fun _ b hb => nomatch hb), ?_⟩
 refine wo rfl (wst0 rfl rfl rfl rfl rfl Tryd.sizeOf119 rfl (Nat.le_of_ble_eq_true rfl) (splice_all rfl) (by simp) (fun _ => by simp) ?_)
 refine nlnm ?_
 refine aw_ret ?_
 refine then_ret ?_
 exact ⟨.inr rfl, _, (PSt A B rw P l (k4) (dp) (e4)), (res_one rfl (resv_cell [] rfl rfl Tryd.isAgg119 Tryd.sizeOf119 (pk_all rfl rfl))), subS_of (.cons _ (.refl _)) (.refl _), ⟨x4, k4, e4, rfl, (Run.from hr4).eq fun _ => by unfold stmtP; rw [if_neg (by rw [wordAt_at hk, hk3, ht]; decide), if_neg (by rw [wordAt_at hk, hk3, ht]; decide), if_neg (by rw [wordAt_at hk, hk3, ht]; decide), if_neg (by rw [wordAt_at hk, hk3, ht]; decide), if_pos (by rw [wordAt_at hk, hk3, ht]; decide)], hk4, he4, rfl⟩⟩
set_option maxRecDepth 100000 in
set_option maxHeartbeats 1600000 in
theorem stmtP_5 (A B : List Box) (rw : List ORow) (P : Nat) (l : List Tok) (k dp : Nat) (blk : Nat → PRes (List AStmt)) (hblk : ∀ (A B : List Box) (rw : List ORow) (P k e : Nat), k < l.length → e < 16 → ACall Tryd.prog 97 [.c (.val (.pointer (some ⟨P, 0, none⟩)))] [P] (PSt A B rw P l k dp e) (PAn A B rw P l dp (fun x => .c (.sl x.length (x.flatMap encS))) e k (blk k))) (hok : TOk l) (hk : k < l.length) (hk3 : l[k].kind = 3) (ht : l[k].text = bytes [119, 104, 105, 108, 101]) : ACall Tryd.prog 109 [.c (.val (.pointer (some ⟨P, 0, none⟩)))] [P] (PSt A B rw P l k dp 0) (PAn A B rw P l dp (fun x => .agg (encS1 x)) 0 k (stmtP l blk k)) := by
 have hlen := hok.len
 have he : (0 : Nat) < 16 := by decide
 refine acall_body Tryd.func109 rfl (Nat.le_of_ble_eq_true rfl) ?_
 show AWp Tryd.prog _ ⟨42, [P], ⟨A ++ ⟨P, 73, [.sl l.length (l.flatMap encT), .val (.int .i64 ((k : Nat) : Int)), .val (.int .i64 ((dp : Nat) : Int)), .val (.int .i64 ((0 : Nat) : Int))]⟩ :: B, rw⟩, [(0, .c (.val (.pointer (some ⟨P, 0, none⟩))))]⟩ _
 refine sqrg ?_
 refine wo rfl (walloc rfl rfl (by decide) Tryd.zeroValue119 rfl fun b1 => ?_)
 refine nlnm ?_
 refine aw_seq ?_
 refine aw_seq ?_
 refine aw_region_drew [b1, P] (by kernel_rfl) ?_
 refine tq 0 (by kernel_rfl) rfl rfl rfl rfl (ay_move rfl rfl) ?_
 refine tq 1 (by kernel_rfl) rfl rfl rfl rfl (ay_nilCheck rfl rfl) ?_
 refine tq 2 (by kernel_rfl) rfl rfl rfl rfl (ay_fieldAddr 0 0 rfl rfl Tryd.runUnderlying73 rfl Tryd.sizeOf34 (by decide) rfl) ?_
 refine tq 3 (by kernel_rfl) rfl rfl rfl rfl (ay_load_box (_ :: A) rfl rfl rfl Tryd.isAgg34 Tryd.sizeOf34 rfl (fun _ h => (mem_off.1 h).2 (by simp))) ?_
 refine tq 4 (by kernel_rfl) rfl rfl rfl rfl (ay_move rfl rfl) ?_
 refine tq 5 (by kernel_rfl) rfl rfl rfl rfl (ay_nilCheck rfl rfl) ?_
 refine tq 6 (by kernel_rfl) rfl rfl rfl rfl (ay_fieldAddr 1 1 rfl rfl Tryd.runUnderlying73 rfl Tryd.sizeOf3 (by decide) rfl) ?_
 refine tq 7 (by kernel_rfl) rfl rfl rfl rfl (ay_load_box (_ :: A) rfl rfl rfl Tryd.isAgg3 Tryd.sizeOf3 rfl (fun _ h => (mem_off.1 h).2 (by simp))) ?_
 refine tq 8 (by kernel_rfl) rfl rfl rfl rfl (ay_ix encT encT l encT_len (fun _ => rfl) (k) rfl rfl rfl rfl hk (by decide) Tryd.runUnderlying34 Tryd.sizeOf65) ?_
 refine tq 9 (by kernel_rfl) rfl rfl rfl rfl (ay_fieldAddr_el 0 rfl rfl Tryd.runUnderlying65 rfl Tryd.sizeOf3 (by decide)) ?_
 refine tq 10 (by kernel_rfl) rfl rfl rfl rfl (ay_load_el rfl rfl Tryd.isAgg3 Tryd.sizeOf3 rfl) ?_
 refine tq 11 (by kernel_rfl) rfl rfl rfl rfl (ay_cmp true rfl rfl rfl (by rw [hk3]; rfl)) ?_
 refine any_done (by kernel_rfl) ?_
 refine then_normal ?_
 refine aw_condT rfl rfl ?_
 refine aw_seq ?_
 refine aw_region_drew [b1, P] (by kernel_rfl) ?_
 refine tq 0 (by kernel_rfl) rfl rfl rfl rfl (ay_move rfl rfl) ?_
 refine tq 1 (by kernel_rfl) rfl rfl rfl rfl (ay_move rfl rfl) ?_
 refine tq 2 (by kernel_rfl) rfl rfl rfl rfl (ay_nilCheck rfl rfl) ?_
 refine tq 3 (by kernel_rfl) rfl rfl rfl rfl (ay_fieldAddr 0 0 rfl rfl Tryd.runUnderlying73 rfl Tryd.sizeOf34 (by decide) rfl) ?_
 refine tq 4 (by kernel_rfl) rfl rfl rfl rfl (ay_load_box (_ :: A) rfl rfl rfl Tryd.isAgg34 Tryd.sizeOf34 rfl (fun _ h => (mem_off.1 h).2 (by simp))) ?_
 refine tq 5 (by kernel_rfl) rfl rfl rfl rfl (ay_move rfl rfl) ?_
 refine tq 6 (by kernel_rfl) rfl rfl rfl rfl (ay_nilCheck rfl rfl) ?_
 refine tq 7 (by kernel_rfl) rfl rfl rfl rfl (ay_fieldAddr 1 1 rfl rfl Tryd.runUnderlying73 rfl Tryd.sizeOf3 (by decide) rfl) ?_
 refine tq 8 (by kernel_rfl) rfl rfl rfl rfl (ay_load_box (_ :: A) rfl rfl rfl Tryd.isAgg3 Tryd.sizeOf3 rfl (fun _ h => (mem_off.1 h).2 (by simp))) ?_
 refine tq 9 (by kernel_rfl) rfl rfl rfl rfl (ay_ix encT encT l encT_len (fun _ => rfl) (k) rfl rfl rfl rfl hk (by decide) Tryd.runUnderlying34 Tryd.sizeOf65) ?_
 refine tq 10 (by kernel_rfl) rfl rfl rfl rfl (ay_fieldAddr_el 1 rfl rfl Tryd.runUnderlying65 rfl Tryd.sizeOf9 (by decide)) ?_
 refine tq 11 (by kernel_rfl) rfl rfl rfl rfl (ay_load_el rfl rfl Tryd.isAgg9 Tryd.sizeOf9 rfl) ?_
 refine one 12 (by kernel_rfl) rfl rfl (wcall [] rfl rfl (by decide) Tryd.call118 rfl (reader_5 P l[k].text ht _) (fun _ h => by cases h) (fun _ h => by cases h) (fun _ _ h => by cases h) ?_)
 rintro t2 s2 ⟨rfl, rfl⟩
 refine tq 13 (by kernel_rfl) rfl rfl rfl rfl (ay_assign rfl rfl) ?_
 refine any_done (by kernel_rfl) ?_
 refine then_normal ?_
 refine sqrg ?_
 refine wmv rfl rfl rfl rfl rfl ?_
 refine wyy rfl rfl rfl (ay_fnne rfl rfl rfl) ?_
 refine nlnm ?_
 refine aw_condT rfl rfl ?_
 refine sqrg ?_
 have hm := hok.last.more hk (by rw [tokAt_lt hk, hk3]; decide)
 refine wmv rfl rfl rfl rfl rfl ?_
 refine wyy rfl rfl rfl (ay_nilCheck rfl rfl) ?_
 refine wyy rfl rfl rfl (ay_fieldAddr 1 1 rfl rfl Tryd.runUnderlying73 rfl Tryd.sizeOf3 (by decide) rfl) ?_
 refine wyy rfl rfl rfl (ay_load_box (_ :: A) rfl rfl rfl Tryd.isAgg3 Tryd.sizeOf3 rfl (fun _ h => by cases h)) ?_
 refine wyy rfl rfl rfl (ay_add rfl rfl rfl (by omega) (by omega)) ?_
 refine wyy rfl rfl rfl (ay_nilCheck rfl rfl) ?_
 refine wyy rfl rfl rfl (ay_fieldAddr 1 1 rfl rfl Tryd.runUnderlying73 rfl Tryd.sizeOf3 (by decide) rfl) ?_
 refine wo rfl (wstA1 rfl rfl rfl rfl rfl Tryd.sizeOf3 rfl (Nat.le_of_ble_eq_true rfl) rfl (by simp) (fun _ => by simp) ?_)
 refine nx ?_
 refine wmv rfl rfl rfl rfl rfl ?_
 refine wo rfl (wcallv [P] rfl rfl rfl (by decide) Tryd.call133 (us := []) rfl (whileP_c (_ :: A) B rw P l (k + 1) dp 0 blk hblk hok hm (by decide)) (i1 (by simp)) (i1 (by simp [Sto.bl])) (fun _ => i1 (by simp)) ?_)
 rintro t4 s4 ⟨x4, k4, e4, rfl, hr4, hk4, he4, rfl⟩
 refine ⟨[], (fun _ b hb => nomatch hb), ?_⟩
 refine wo rfl (wst0 rfl rfl rfl rfl rfl Tryd.sizeOf119 rfl (Nat.le_of_ble_eq_true rfl) (splice_all rfl) (by simp) (fun _ => by simp) ?_)
 refine nlnm ?_
 refine aw_ret ?_
 refine then_ret ?_
 exact ⟨.inr rfl, _, (PSt A B rw P l (k4) (dp) (e4)), (res_one rfl (resv_cell [] rfl rfl Tryd.isAgg119 Tryd.sizeOf119 (pk_all rfl rfl))), subS_of (.cons _ (.refl _)) (.refl _), ⟨x4, k4, e4, rfl, (Run.from hr4).eq fun _ => by unfold stmtP; rw [if_neg (by rw [wordAt_at hk, hk3, ht]; decide), if_neg (by rw [wordAt_at hk, hk3, ht]; decide), if_neg (by rw [wordAt_at hk, hk3, ht]; decide), if_neg (by rw [wordAt_at hk, hk3, ht]; decide), if_neg (by rw [wordAt_at hk, hk3, ht]; decide), if_pos (by rw [wordAt_at hk, hk3, ht]; decide)], hk4, he4, rfl⟩⟩
set_option maxRecDepth 100000 in
set_option maxHeartbeats 1600000 in
theorem stmtP_6 (A B : List Box) (rw : List ORow) (P : Nat) (l : List Tok) (k dp : Nat) (blk : Nat → PRes (List AStmt)) (hblk : ∀ (A B : List Box) (rw : List ORow) (P k e : Nat), k < l.length → e < 16 → ACall Tryd.prog 97 [.c (.val (.pointer (some ⟨P, 0, none⟩)))] [P] (PSt A B rw P l k dp e) (PAn A B rw P l dp (fun x => .c (.sl x.length (x.flatMap encS))) e k (blk k))) (hok : TOk l) (hk : k < l.length) (hk3 : l[k].kind = 3) (ht : l[k].text = bytes [114, 101, 116, 117, 114, 110]) : ACall Tryd.prog 109 [.c (.val (.pointer (some ⟨P, 0, none⟩)))] [P] (PSt A B rw P l k dp 0) (PAn A B rw P l dp (fun x => .agg (encS1 x)) 0 k (stmtP l blk k)) := by
 have hlen := hok.len
 have he : (0 : Nat) < 16 := by decide
 refine acall_body Tryd.func109 rfl (Nat.le_of_ble_eq_true rfl) ?_
 show AWp Tryd.prog _ ⟨42, [P], ⟨A ++ ⟨P, 73, [.sl l.length (l.flatMap encT), .val (.int .i64 ((k : Nat) : Int)), .val (.int .i64 ((dp : Nat) : Int)), .val (.int .i64 ((0 : Nat) : Int))]⟩ :: B, rw⟩, [(0, .c (.val (.pointer (some ⟨P, 0, none⟩))))]⟩ _
 refine sqrg ?_
 refine wo rfl (walloc rfl rfl (by decide) Tryd.zeroValue119 rfl fun b1 => ?_)
 refine nlnm ?_
 refine aw_seq ?_
 refine aw_seq ?_
 refine aw_region_drew [b1, P] (by kernel_rfl) ?_
 refine tq 0 (by kernel_rfl) rfl rfl rfl rfl (ay_move rfl rfl) ?_
 refine tq 1 (by kernel_rfl) rfl rfl rfl rfl (ay_nilCheck rfl rfl) ?_
 refine tq 2 (by kernel_rfl) rfl rfl rfl rfl (ay_fieldAddr 0 0 rfl rfl Tryd.runUnderlying73 rfl Tryd.sizeOf34 (by decide) rfl) ?_
 refine tq 3 (by kernel_rfl) rfl rfl rfl rfl (ay_load_box (_ :: A) rfl rfl rfl Tryd.isAgg34 Tryd.sizeOf34 rfl (fun _ h => (mem_off.1 h).2 (by simp))) ?_
 refine tq 4 (by kernel_rfl) rfl rfl rfl rfl (ay_move rfl rfl) ?_
 refine tq 5 (by kernel_rfl) rfl rfl rfl rfl (ay_nilCheck rfl rfl) ?_
 refine tq 6 (by kernel_rfl) rfl rfl rfl rfl (ay_fieldAddr 1 1 rfl rfl Tryd.runUnderlying73 rfl Tryd.sizeOf3 (by decide) rfl) ?_
 refine tq 7 (by kernel_rfl) rfl rfl rfl rfl (ay_load_box (_ :: A) rfl rfl rfl Tryd.isAgg3 Tryd.sizeOf3 rfl (fun _ h => (mem_off.1 h).2 (by simp))) ?_
 refine tq 8 (by kernel_rfl) rfl rfl rfl rfl (ay_ix encT encT l encT_len (fun _ => rfl) (k) rfl rfl rfl rfl hk (by decide) Tryd.runUnderlying34 Tryd.sizeOf65) ?_
 refine tq 9 (by kernel_rfl) rfl rfl rfl rfl (ay_fieldAddr_el 0 rfl rfl Tryd.runUnderlying65 rfl Tryd.sizeOf3 (by decide)) ?_
 refine tq 10 (by kernel_rfl) rfl rfl rfl rfl (ay_load_el rfl rfl Tryd.isAgg3 Tryd.sizeOf3 rfl) ?_
 refine tq 11 (by kernel_rfl) rfl rfl rfl rfl (ay_cmp true rfl rfl rfl (by rw [hk3]; rfl)) ?_
 refine any_done (by kernel_rfl) ?_
 refine then_normal ?_
 refine aw_condT rfl rfl ?_
 refine aw_seq ?_
 refine aw_region_drew [b1, P] (by kernel_rfl) ?_
 refine tq 0 (by kernel_rfl) rfl rfl rfl rfl (ay_move rfl rfl) ?_
 refine tq 1 (by kernel_rfl) rfl rfl rfl rfl (ay_move rfl rfl) ?_
 refine tq 2 (by kernel_rfl) rfl rfl rfl rfl (ay_nilCheck rfl rfl) ?_
 refine tq 3 (by kernel_rfl) rfl rfl rfl rfl (ay_fieldAddr 0 0 rfl rfl Tryd.runUnderlying73 rfl Tryd.sizeOf34 (by decide) rfl) ?_
 refine tq 4 (by kernel_rfl) rfl rfl rfl rfl (ay_load_box (_ :: A) rfl rfl rfl Tryd.isAgg34 Tryd.sizeOf34 rfl (fun _ h => (mem_off.1 h).2 (by simp))) ?_
 refine tq 5 (by kernel_rfl) rfl rfl rfl rfl (ay_move rfl rfl) ?_
 refine tq 6 (by kernel_rfl) rfl rfl rfl rfl (ay_nilCheck rfl rfl) ?_
 refine tq 7 (by kernel_rfl) rfl rfl rfl rfl (ay_fieldAddr 1 1 rfl rfl Tryd.runUnderlying73 rfl Tryd.sizeOf3 (by decide) rfl) ?_
 refine tq 8 (by kernel_rfl) rfl rfl rfl rfl (ay_load_box (_ :: A) rfl rfl rfl Tryd.isAgg3 Tryd.sizeOf3 rfl (fun _ h => (mem_off.1 h).2 (by simp))) ?_
 refine tq 9 (by kernel_rfl) rfl rfl rfl rfl (ay_ix encT encT l encT_len (fun _ => rfl) (k) rfl rfl rfl rfl hk (by decide) Tryd.runUnderlying34 Tryd.sizeOf65) ?_
 refine tq 10 (by kernel_rfl) rfl rfl rfl rfl (ay_fieldAddr_el 1 rfl rfl Tryd.runUnderlying65 rfl Tryd.sizeOf9 (by decide)) ?_
 refine tq 11 (by kernel_rfl) rfl rfl rfl rfl (ay_load_el rfl rfl Tryd.isAgg9 Tryd.sizeOf9 rfl) ?_
 refine one 12 (by kernel_rfl) rfl rfl (wcall [] rfl rfl (by decide) Tryd.call118 rfl (reader_6 P l[k].text ht _) (fun _ h => by cases h) (fun _ h => by cases h) (fun _ _ h => by cases h) ?_)
 rintro t2 s2 ⟨rfl, rfl⟩
 refine tq 13 (by kernel_rfl) rfl rfl rfl rfl (ay_assign rfl rfl) ?_
 refine any_done (by kernel_rfl) ?_
 refine then_normal ?_
 refine sqrg ?_
 refine wmv rfl rfl rfl rfl rfl ?_
 refine wyy rfl rfl rfl (ay_fnne rfl rfl rfl) ?_
 refine nlnm ?_
 refine aw_condT rfl rfl ?_
 refine sqrg ?_
 have hm := hok.last.more hk (by rw [tokAt_lt hk, hk3]; decide)
 refine wmv rfl rfl rfl rfl rfl ?_
 refine wyy rfl rfl rfl (ay_nilCheck rfl rfl) ?_
 refine wyy rfl rfl rfl (ay_fieldAddr 1 1 rfl rfl Tryd.runUnderlying73 rfl Tryd.sizeOf3 (by decide) rfl) ?_
 refine wyy rfl rfl rfl (ay_load_box (_ :: A) rfl rfl rfl Tryd.isAgg3 Tryd.sizeOf3 rfl (fun _ h => by cases h)) ?_
 refine wyy rfl rfl rfl (ay_add rfl rfl rfl (by omega) (by omega)) ?_
 refine wyy rfl rfl rfl (ay_nilCheck rfl rfl) ?_
 refine wyy rfl rfl rfl (ay_fieldAddr 1 1 rfl rfl Tryd.runUnderlying73 rfl Tryd.sizeOf3 (by decide) rfl) ?_
 refine wo rfl (wstA1 rfl rfl rfl rfl rfl Tryd.sizeOf3 rfl (Nat.le_of_ble_eq_true rfl) rfl (by simp) (fun _ => by simp) ?_)
 refine nx ?_
 refine wmv rfl rfl rfl rfl rfl ?_
 refine wo rfl (wcallv [P] rfl rfl rfl (by decide) Tryd.call134 (us := []) rfl (retP_c (_ :: A) B rw P l (k + 1) dp 0 hok hm (by decide)) (i1 (by simp)) (i1 (by simp [Sto.bl])) (fun _ => i1 (by simp)) ?_)
 rintro t4 s4 ⟨x4, k4, e4, rfl, hr4, hk4, he4, rfl⟩
 refine ⟨[], (fun _ b hb => nomatch hb), ?_⟩
 refine wo rfl (wst0 rfl rfl rfl rfl rfl Tryd.sizeOf119 rfl (Nat.le_of_ble_eq_true rfl) (splice_all rfl) (by simp) (fun _ => by simp) ?_)
 refine nlnm ?_
 refine aw_ret ?_
 refine then_ret ?_
 exact ⟨.inr rfl, _, (PSt A B rw P l (k4) (dp) (e4)), (res_one rfl (resv_cell [] rfl rfl Tryd.isAgg119 Tryd.sizeOf119 (pk_all rfl rfl))), subS_of (.cons _ (.refl _)) (.refl _), ⟨x4, k4, e4, rfl, (Run.from hr4).eq fun _ => by unfold stmtP; rw [if_neg (by rw [wordAt_at hk, hk3, ht]; decide), if_neg (by rw [wordAt_at hk, hk3, ht]; decide), if_neg (by rw [wordAt_at hk, hk3, ht]; decide), if_neg (by rw [wordAt_at hk, hk3, ht]; decide), if_neg (by rw [wordAt_at hk, hk3, ht]; decide), if_neg (by rw [wordAt_at hk, hk3, ht]; decide), if_pos (by rw [wordAt_at hk, hk3, ht]; decide)], hk4, he4, rfl⟩⟩
set_option maxRecDepth 100000 in
set_option maxHeartbeats 1600000 in
theorem stmtP_no (A B : List Box) (rw : List ORow) (P : Nat) (l : List Tok) (k dp : Nat) (blk : Nat → PRes (List AStmt)) (hblk : ∀ (A B : List Box) (rw : List ORow) (P k e : Nat), k < l.length → e < 16 → ACall Tryd.prog 97 [.c (.val (.pointer (some ⟨P, 0, none⟩)))] [P] (PSt A B rw P l k dp e) (PAn A B rw P l dp (fun x => .c (.sl x.length (x.flatMap encS))) e k (blk k))) (hok : TOk l) (hk : k < l.length) (hk3 : l[k].kind = 3) (h0 : ¬ l[k].text = bytes [118, 97, 114]) (h1 : ¬ l[k].text = bytes [103, 111]) (h2 : ¬ l[k].text = bytes [108, 111, 99, 107]) (h3 : ¬ l[k].text = bytes [117, 110, 108, 111, 99, 107]) (h4 : ¬ l[k].text = bytes [105, 102]) (h5 : ¬ l[k].text = bytes [119, 104, 105, 108, 101]) (h6 : ¬ l[k].text = bytes [114, 101, 116, 117, 114, 110]) : ACall Tryd.prog 109 [.c (.val (.pointer (some ⟨P, 0, none⟩)))] [P] (PSt A B rw P l k dp 0) (PAn A B rw P l dp (fun x => .agg (encS1 x)) 0 k (stmtP l blk k)) := by
 have hlen := hok.len
 have he : (0 : Nat) < 16 := by decide
 refine acall_body Tryd.func109 rfl (Nat.le_of_ble_eq_true rfl) ?_
 show AWp Tryd.prog _ ⟨42, [P], ⟨A ++ ⟨P, 73, [.sl l.length (l.flatMap encT), .val (.int .i64 ((k : Nat) : Int)), .val (.int .i64 ((dp : Nat) : Int)), .val (.int .i64 ((0 : Nat) : Int))]⟩ :: B, rw⟩, [(0, .c (.val (.pointer (some ⟨P, 0, none⟩))))]⟩ _
 refine sqrg ?_
 refine wo rfl (walloc rfl rfl (by decide) Tryd.zeroValue119 rfl fun b1 => ?_)
 refine nlnm ?_
 refine aw_seq ?_
 refine aw_seq ?_
 refine aw_region_drew [b1, P] (by kernel_rfl) ?_
 refine tq 0 (by kernel_rfl) rfl rfl rfl rfl (ay_move rfl rfl) ?_
 refine tq 1 (by kernel_rfl) rfl rfl rfl rfl (ay_nilCheck rfl rfl) ?_
 refine tq 2 (by kernel_rfl) rfl rfl rfl rfl (ay_fieldAddr 0 0 rfl rfl Tryd.runUnderlying73 rfl Tryd.sizeOf34 (by decide) rfl) ?_
 refine tq 3 (by kernel_rfl) rfl rfl rfl rfl (ay_load_box (_ :: A) rfl rfl rfl Tryd.isAgg34 Tryd.sizeOf34 rfl (fun _ h => (mem_off.1 h).2 (by simp))) ?_
 refine tq 4 (by kernel_rfl) rfl rfl rfl rfl (ay_move rfl rfl) ?_
 refine tq 5 (by kernel_rfl) rfl rfl rfl rfl (ay_nilCheck rfl rfl) ?_
 refine tq 6 (by kernel_rfl) rfl rfl rfl rfl (ay_fieldAddr 1 1 rfl rfl Tryd.runUnderlying73 rfl Tryd.sizeOf3 (by decide) rfl) ?_
 refine tq 7 (by kernel_rfl) rfl rfl rfl rfl (ay_load_box (_ :: A) rfl rfl rfl Tryd.isAgg3 Tryd.sizeOf3 rfl (fun _ h => (mem_off.1 h).2 (by simp))) ?_
 refine tq 8 (by kernel_rfl) rfl rfl rfl rfl (ay_ix encT encT l encT_len (fun _ => rfl) (k) rfl rfl rfl rfl hk (by decide) Tryd.runUnderlying34 Tryd.sizeOf65) ?_
 refine tq 9 (by kernel_rfl) rfl rfl rfl rfl (ay_fieldAddr_el 0 rfl rfl Tryd.runUnderlying65 rfl Tryd.sizeOf3 (by decide)) ?_
 refine tq 10 (by kernel_rfl) rfl rfl rfl rfl (ay_load_el rfl rfl Tryd.isAgg3 Tryd.sizeOf3 rfl) ?_
 refine tq 11 (by kernel_rfl) rfl rfl rfl rfl (ay_cmp true rfl rfl rfl (by rw [hk3]; rfl)) ?_
 refine any_done (by kernel_rfl) ?_
 refine then_normal ?_
 refine aw_condT rfl rfl ?_
 refine aw_seq ?_
 refine aw_region_drew [b1, P] (by kernel_rfl) ?_
 refine tq 0 (by kernel_rfl) rfl rfl rfl rfl (ay_move rfl rfl) ?_
 refine tq 1 (by kernel_rfl) rfl rfl rfl rfl (ay_move rfl rfl) ?_
 refine tq 2 (by kernel_rfl) rfl rfl rfl rfl (ay_nilCheck rfl rfl) ?_
 refine tq 3 (by kernel_rfl) rfl rfl rfl rfl (ay_fieldAddr 0 0 rfl rfl Tryd.runUnderlying73 rfl Tryd.sizeOf34 (by decide) rfl) ?_
 refine tq 4 (by kernel_rfl) rfl rfl rfl rfl (ay_load_box (_ :: A) rfl rfl rfl Tryd.isAgg34 Tryd.sizeOf34 rfl (fun _ h => (mem_off.1 h).2 (by simp))) ?_
 refine tq 5 (by kernel_rfl) rfl rfl rfl rfl (ay_move rfl rfl) ?_
 refine tq 6 (by kernel_rfl) rfl rfl rfl rfl (ay_nilCheck rfl rfl) ?_
 refine tq 7 (by kernel_rfl) rfl rfl rfl rfl (ay_fieldAddr 1 1 rfl rfl Tryd.runUnderlying73 rfl Tryd.sizeOf3 (by decide) rfl) ?_
 refine tq 8 (by kernel_rfl) rfl rfl rfl rfl (ay_load_box (_ :: A) rfl rfl rfl Tryd.isAgg3 Tryd.sizeOf3 rfl (fun _ h => (mem_off.1 h).2 (by simp))) ?_
 refine tq 9 (by kernel_rfl) rfl rfl rfl rfl (ay_ix encT encT l encT_len (fun _ => rfl) (k) rfl rfl rfl rfl hk (by decide) Tryd.runUnderlying34 Tryd.sizeOf65) ?_
 refine tq 10 (by kernel_rfl) rfl rfl rfl rfl (ay_fieldAddr_el 1 rfl rfl Tryd.runUnderlying65 rfl Tryd.sizeOf9 (by decide)) ?_
 refine tq 11 (by kernel_rfl) rfl rfl rfl rfl (ay_load_el rfl rfl Tryd.isAgg9 Tryd.sizeOf9 rfl) ?_
 refine one 12 (by kernel_rfl) rfl rfl (wcall [] rfl rfl (by decide) Tryd.call118 rfl (reader_no P l[k].text h0 h1 h2 h3 h4 h5 h6 _) (fun _ h => by cases h) (fun _ h => by cases h) (fun _ _ h => by cases h) ?_)
 rintro t2 s2 ⟨rfl, rfl⟩
 refine tq 13 (by kernel_rfl) rfl rfl rfl rfl (ay_assign rfl rfl) ?_
 refine any_done (by kernel_rfl) ?_
 refine then_normal ?_
 refine sqrg ?_
 refine wmv rfl rfl rfl rfl rfl ?_
 refine wyy rfl rfl rfl (ay_nfne rfl rfl rfl) ?_
 refine nlnm ?_
 refine aw_condF rfl rfl ?_
 refine aw_skip ?_
 refine then_normal ?_
 refine sqrg ?_
 refine wmv rfl rfl rfl rfl rfl ?_
 refine wcP rfl rfl rfl rfl Tryd.call119 rfl (namedP_c (_ :: A) _ _ _ l k dp 0 hok hk he) (by simp) (by simp [Sto.bl]) ?_
 rintro t4 s4 ⟨x4, k4, e4, rfl, hr4, hk4, he4, rfl⟩
 refine wo rfl (wst0 rfl rfl rfl rfl rfl Tryd.sizeOf119 rfl (Nat.le_of_ble_eq_true rfl) (splice_all rfl) (by simp) (fun _ => by simp) ?_)
 refine nlnm ?_
 refine aw_ret ?_
 exact ⟨.inr rfl, _, (PSt A B rw P l (k4) (dp) (e4)), (res_one rfl (resv_cell [] rfl rfl Tryd.isAgg119 Tryd.sizeOf119 (pk_all rfl rfl))), subS_of (.cons _ (.refl _)) (.refl _), ⟨x4, k4, e4, rfl, hr4.eq fun _ => by unfold stmtP; rw [if_neg (by rw [wordAt_at hk, decide_eq_false h0, Bool.and_false]; decide), if_neg (by rw [wordAt_at hk, decide_eq_false h1, Bool.and_false]; decide), if_neg (by rw [wordAt_at hk, decide_eq_false h2, Bool.and_false]; decide), if_neg (by rw [wordAt_at hk, decide_eq_false h3, Bool.and_false]; decide), if_neg (by rw [wordAt_at hk, decide_eq_false h4, Bool.and_false]; decide), if_neg (by rw [wordAt_at hk, decide_eq_false h5, Bool.and_false]; decide), if_neg (by rw [wordAt_at hk, decide_eq_false h6, Bool.and_false]; decide)], hk4, he4, rfl⟩⟩
set_option maxRecDepth 100000 in
set_option maxHeartbeats 1600000 in
theorem stmtP_kind (A B : List Box) (rw : List ORow) (P : Nat) (l : List Tok) (k dp : Nat) (blk : Nat → PRes (List AStmt)) (hblk : ∀ (A B : List Box) (rw : List ORow) (P k e : Nat), k < l.length → e < 16 → ACall Tryd.prog 97 [.c (.val (.pointer (some ⟨P, 0, none⟩)))] [P] (PSt A B rw P l k dp e) (PAn A B rw P l dp (fun x => .c (.sl x.length (x.flatMap encS))) e k (blk k))) (hok : TOk l) (hk : k < l.length) (hk3 : ¬ l[k].kind = 3) : ACall Tryd.prog 109 [.c (.val (.pointer (some ⟨P, 0, none⟩)))] [P] (PSt A B rw P l k dp 0) (PAn A B rw P l dp (fun x => .agg (encS1 x)) 0 k (stmtP l blk k)) := by
 have hlen := hok.len
 have he : (0 : Nat) < 16 := by decide
 refine acall_body Tryd.func109 rfl (Nat.le_of_ble_eq_true rfl) ?_
 show AWp Tryd.prog _ ⟨42, [P], ⟨A ++ ⟨P, 73, [.sl l.length (l.flatMap encT), .val (.int .i64 ((k : Nat) : Int)), .val (.int .i64 ((dp : Nat) : Int)), .val (.int .i64 ((0 : Nat) : Int))]⟩ :: B, rw⟩, [(0, .c (.val (.pointer (some ⟨P, 0, none⟩))))]⟩ _
 refine sqrg ?_
 refine wo rfl (walloc rfl rfl (by decide) Tryd.zeroValue119 rfl fun b1 => ?_)
 refine nlnm ?_
 refine aw_seq ?_
 refine aw_seq ?_
 refine aw_region_drew [b1, P] (by kernel_rfl) ?_
 refine tq 0 (by kernel_rfl) rfl rfl rfl rfl (ay_move rfl rfl) ?_
 refine tq 1 (by kernel_rfl) rfl rfl rfl rfl (ay_nilCheck rfl rfl) ?_
 refine tq 2 (by kernel_rfl) rfl rfl rfl rfl (ay_fieldAddr 0 0 rfl rfl Tryd.runUnderlying73 rfl Tryd.sizeOf34 (by decide) rfl) ?_
 refine tq 3 (by kernel_rfl) rfl rfl rfl rfl (ay_load_box (_ :: A) rfl rfl rfl Tryd.isAgg34 Tryd.sizeOf34 rfl (fun _ h => (mem_off.1 h).2 (by simp))) ?_
 refine tq 4 (by kernel_rfl) rfl rfl rfl rfl (ay_move rfl rfl) ?_
 refine tq 5 (by kernel_rfl) rfl rfl rfl rfl (ay_nilCheck rfl rfl) ?_
 refine tq 6 (by kernel_rfl) rfl rfl rfl rfl (ay_fieldAddr 1 1 rfl rfl Tryd.runUnderlying73 rfl Tryd.sizeOf3 (by decide) rfl) ?_
 refine tq 7 (by kernel_rfl) rfl rfl rfl rfl (ay_load_box (_ :: A) rfl rfl rfl Tryd.isAgg3 Tryd.sizeOf3 rfl (fun _ h => (mem_off.1 h).2 (by simp))) ?_
 refine tq 8 (by kernel_rfl) rfl rfl rfl rfl (ay_ix encT encT l encT_len (fun _ => rfl) (k) rfl rfl rfl rfl hk (by decide) Tryd.runUnderlying34 Tryd.sizeOf65) ?_
 refine tq 9 (by kernel_rfl) rfl rfl rfl rfl (ay_fieldAddr_el 0 rfl rfl Tryd.runUnderlying65 rfl Tryd.sizeOf3 (by decide)) ?_
 refine tq 10 (by kernel_rfl) rfl rfl rfl rfl (ay_load_el rfl rfl Tryd.isAgg3 Tryd.sizeOf3 rfl) ?_
 refine tq 11 (by kernel_rfl) rfl rfl rfl rfl (ay_cmp false rfl rfl rfl (by rw [show cmpR .eql ((l[k].kind : Nat) : Int) 3 = some (decide (l[k].kind = 3)) from cmp_nat (n := 3), decide_eq_false hk3])) ?_
 refine any_done (by kernel_rfl) ?_
 refine then_normal ?_
 refine aw_condF rfl rfl ?_
 refine aw_skip ?_
 refine then_normal ?_
 refine sqrg ?_
 refine wmv rfl rfl rfl rfl rfl ?_
 refine wcP rfl rfl rfl rfl Tryd.call119 rfl (namedP_c (_ :: A) _ _ _ l k dp 0 hok hk he) (by simp) (by simp [Sto.bl]) ?_
 rintro t2 s2 ⟨x2, k2, e2, rfl, hr2, hk2, he2, rfl⟩
 refine wo rfl (wst0 rfl rfl rfl rfl rfl Tryd.sizeOf119 rfl (Nat.le_of_ble_eq_true rfl) (splice_all rfl) (by simp) (fun _ => by simp) ?_)
 refine nlnm ?_
 refine aw_ret ?_
 exact ⟨.inr rfl, _, (PSt A B rw P l (k2) (dp) (e2)), (res_one rfl (resv_cell [] rfl rfl Tryd.isAgg119 Tryd.sizeOf119 (pk_all rfl rfl))), subS_of (.cons _ (.refl _)) (.refl _), ⟨x2, k2, e2, rfl, hr2.eq fun _ => by unfold stmtP; rw [if_neg (by rw [wordAt_at hk, decide_eq_false hk3, Bool.false_and]; decide), if_neg (by rw [wordAt_at hk, decide_eq_false hk3, Bool.false_and]; decide), if_neg (by rw [wordAt_at hk, decide_eq_false hk3, Bool.false_and]; decide), if_neg (by rw [wordAt_at hk, decide_eq_false hk3, Bool.false_and]; decide), if_neg (by rw [wordAt_at hk, decide_eq_false hk3, Bool.false_and]; decide), if_neg (by rw [wordAt_at hk, decide_eq_false hk3, Bool.false_and]; decide), if_neg (by rw [wordAt_at hk, decide_eq_false hk3, Bool.false_and]; decide)], hk2, he2, rfl⟩⟩
theorem stmtP_c (A B : List Box) (rw : List ORow) (P : Nat) (l : List Tok) (k dp : Nat) (blk : Nat → PRes (List AStmt)) (hblk : ∀ (A B : List Box) (rw : List ORow) (P k e : Nat), k < l.length → e < 16 → ACall Tryd.prog 97 [.c (.val (.pointer (some ⟨P, 0, none⟩)))] [P] (PSt A B rw P l k dp e) (PAn A B rw P l dp (fun x => .c (.sl x.length (x.flatMap encS))) e k (blk k))) (hok : TOk l) (hk : k < l.length) : ACall Tryd.prog 109 [.c (.val (.pointer (some ⟨P, 0, none⟩)))] [P] (PSt A B rw P l k dp 0) (PAn A B rw P l dp (fun x => .agg (encS1 x)) 0 k (stmtP l blk k)) := by
 by_cases hk3 : l[k].kind = 3
 ·by_cases h0 : l[k].text = bytes [118, 97, 114]
  ·exact stmtP_0 A B rw P l k dp blk hblk hok hk hk3 h0
  by_cases h1 : l[k].text = bytes [103, 111]
  ·exact stmtP_1 A B rw P l k dp blk hblk hok hk hk3 h1
  by_cases h2 : l[k].text = bytes [108, 111, 99, 107]
  ·exact stmtP_2 A B rw P l k dp blk hblk hok hk hk3 h2
  by_cases h3 : l[k].text = bytes [117, 110, 108, 111, 99, 107]
  ·exact stmtP_3 A B rw P l k dp blk hblk hok hk hk3 h3
  by_cases h4 : l[k].text = bytes [105, 102]
  ·exact stmtP_4 A B rw P l k dp blk hblk hok hk hk3 h4
  by_cases h5 : l[k].text = bytes [119, 104, 105, 108, 101]
  ·exact stmtP_5 A B rw P l k dp blk hblk hok hk hk3 h5
  by_cases h6 : l[k].text = bytes [114, 101, 116, 117, 114, 110]
  ·exact stmtP_6 A B rw P l k dp blk hblk hok hk hk3 h6
  exact stmtP_no A B rw P l k dp blk hblk hok hk hk3 h0 h1 h2 h3 h4 h5 h6
 ·exact stmtP_kind A B rw P l k dp blk hblk hok hk hk3
end Go.Proofs.YtflcnehhpmjipaaDoor
