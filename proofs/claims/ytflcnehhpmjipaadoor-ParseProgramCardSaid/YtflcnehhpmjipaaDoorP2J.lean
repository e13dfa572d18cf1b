import Derived.Test.YtflcnehhpmjipaaDoorAwP1J
import Derived.Test.YtflcnehhpmjipaaDoorW4J
set_option linter.unusedVariables false
set_option linter.unusedSimpArgs false
namespace Go.Proofs.YtflcnehhpmjipaaDoor
open Go.RowKit
set_option maxRecDepth 100000 in
set_option maxHeartbeats 1600000 in
theorem listed_c {α : Type} (A' : List α → Value → List Box) (B : List Box) (rw' : List α → Value → List ORow) (P : Nat) (l : List Tok) (k dp e : Nat) (Tv : List Nat) (F : FuncId) (fst cap : Array Value) (el : Nat → Nat → PRes α) (hok : TOk l) (hk : k < l.length) (he : e < 16)
  (hcf : ∀ args w, (callFunc F args).run Tryd.prog w = .ok (.enter F args) w) (hin : ∀ n k, k < l.length → (el n k).In l k) (hTb : ∀ acc v k e, ∀ b, b ∈ rowB v ++ (Tv ++ [P]) → b ∈ (PSt (A' acc v) B (rw' acc v) P l k dp e).bl) (hrB : ∀ acc v k e, ∀ b, b ∈ rowB v → b ∈ (PSt (A' acc v) B (rw' acc v) P l k dp e).bl)
  (hback : ∀ acc v k e acc' v' k' e', (PSt (A' acc' v') B (rw' acc' v') P l k' dp e').bl.Nodup → ∀ b, b ∈ rowB v' → b ∈ (PSt (A' acc v) B (rw' acc v) P l k dp e).bl → b ∈ rowB v)
  (hcl : ∀ acc v k, k < l.length → acc.length ≤ k → ACall Tryd.prog F (fst.toList.map cst ++ [] ++ cap.toList.map cst) (rowB v ++ (Tv ++ [P])) (PSt (A' acc v) B (rw' acc v) P l k dp 0) fun t s => ∃ x v' k' e', t = .tup [] ∧ Run 0 k (el acc.length k) x k' e' ∧ k' < l.length ∧ e' < 16 ∧ s = PSt (A' (acc ++ [x]) v') B (rw' (acc ++ [x]) v') P l k' dp e') :
  ACall Tryd.prog 94 [.c (.val (.pointer (some ⟨P, 0, none⟩))), .c (.val (.func (.func F) fst cap))] (Tv ++ [P]) (PSt (A' [] (.slice none 0 0)) B (rw' [] (.slice none 0 0)) P l k dp e) fun t s => ∃ acc v k' e', t = .tup [] ∧ Run e k (parensP l el k) acc k' e' ∧ k' < l.length ∧ e' < 16 ∧ s = PSt (A' acc v) B (rw' acc v) P l k' dp e' := by
 have hlen := hok.len
 refine acall_body Tryd.func94 rfl (Nat.le_of_ble_eq_true rfl) ?_
 show AWp Tryd.prog _ ⟨23, Tv ++ [P], ⟨(A' [] (.slice none 0 0)) ++ ⟨P, 73, [.sl l.length (l.flatMap encT), .val (.int .i64 ((k : Nat) : Int)), .val (.int .i64 ((dp : Nat) : Int)), .val (.int .i64 ((e : Nat) : Int))]⟩ :: B, (rw' [] (.slice none 0 0))⟩, [(0, .c (.val (.pointer (some ⟨P, 0, none⟩)))), (1, .c (.val (.func (.func F) fst cap)))]⟩ _
 refine sqrg ?_
 refine wmv rfl rfl rfl rfl rfl ?_
 refine wcP rfl rfl rfl rfl Tryd.call93 rfl (signP_c ((A' [] (.slice none 0 0))) _ _ _ l k dp e [40] hok hk he) (by simp) (by simp [Sto.bl]) ?_
 rintro t1 s1 ⟨x1, k1, e1, rfl, hr1, hk1, he1, rfl⟩
 refine nlnm ?_
 refine aw_seq ?_
 refine sqrg ?_
 refine wmv rfl rfl rfl rfl rfl ?_
 refine wcP rfl rfl rfl rfl Tryd.call91 rfl (accept_c ((A' [] (.slice none 0 0))) _ _ _ l k1 dp e1 [41] hok hk1) (by simp) (by simp [Sto.bl]) ?_
 rintro t2 s2 (⟨rfl, ha2, hm2, rfl, rfl⟩ | ⟨ha2, rfl, rfl⟩)
 ·refine nlnm ?_
  refine aw_condT rfl rfl ?_
  refine aw_ret ?_
  refine then_ret ?_
  exact ⟨.inr rfl, _, PSt (A' [] (.slice none 0 0)) B (rw' [] (.slice none 0 0)) P l (k1 + 1) dp 0, res_none rfl, subS_of (.refl _) (.refl _), ⟨[], .slice none 0 0, k1 + 1, 0, rfl, hr1.bind (by rw [if_pos ha2]; exact .ok _ _ _ rfl), hm2, (by decide), rfl⟩⟩
 ·refine nlnm ?_
  refine aw_condF rfl rfl ?_
  refine aw_skip ?_
  refine then_normal ?_
  refine aw_seq ?_
  refine sqrg ?_
  refine wag rfl rfl rfl rfl rfl ?_
  refine nlnm ?_
  refine aw_block ?_
  refine aw_loop (fun g : Bool × List α × Value × Nat × Nat => (⟨23, rowB g.2.2.1 ++ (Tv ++ [P]), ⟨A' (g.2.1) g.2.2.1 ++ ⟨P, 73, [.sl l.length (l.flatMap encT), .val (.int .i64 (((g.2.2.2.1) : Nat) : Int)), .val (.int .i64 (((dp) : Nat) : Int)), .val (.int .i64 (((g.2.2.2.2) : Nat) : Int))]⟩ :: B, rw' (g.2.1) g.2.2.1⟩, [(4, .c (.val (.bool g.1))), (1, .c (.val (.func (.func F) fst cap))), (0, .c (.val (.pointer (some ⟨P, 0, none⟩))))]⟩ : AS)) (fun g => g.2.2.2.1 < l.length ∧ g.2.2.2.2 < 16 ∧ (g.2.2.2.2 = 0 → g.2.1.length ≤ g.2.2.2.1) ∧ (g.2.2.2.2 ≠ 0 → Run e k (parensP l el k) g.2.1 g.2.2.2.1 g.2.2.2.2) ∧ (g.2.2.2.2 = 0 → g.1 = true → ∃ n, l.length ≤ n + g.2.2.2.1 ∧ ∀ z k' e', Run 0 g.2.2.2.1 (listP l el n g.2.1 g.2.2.2.1) z k' e' → Run e k (parensP l el k) z k' e') ∧ (g.2.2.2.2 = 0 → g.1 = false → ∀ z k' e', Run 0 g.2.2.2.1 ((wantP l [41] g.2.2.2.1).bind fun _ k => .ok g.2.1 k) z k' e' → Run e k (parensP l el k) z k' e')) (fun g => if g.1 = true ∧ g.2.2.2.2 = 0 then l.length - g.2.2.2.1 + 1 else 0) (true, [], .slice none 0 0, k1, e1) (subA (.refl _) (.refl _) (by intro x hx; simpa [rowB, Value.ownBlock] using hx) (sub_cons rfl (Wk.refl _) (sub_cons rfl (Wk.refl _) (sub_cons rfl (Wk.refl _) sub_nil)))) ⟨hk1, he1, fun _ => Nat.zero_le _, fun h => hr1.bind (.skip h _ _), fun h _ => ⟨l.length, Nat.le_add_right _ _, fun z k' e' h2 => ?_⟩, fun _ h => nomatch h⟩ ?_
  ·have h : e1 = 0 := h
   refine hr1.bind ?_
   rw [h, if_neg (by rw [ha2 h]; decide)]
   exact h2
  rintro ⟨more, acc, v0, k0, e0⟩ ⟨hk0, he0, ha0, hn0, hc0, hd0⟩
  dsimp only at hk0 he0 ha0 hn0 hc0 hd0
  show AWp Tryd.prog _ (⟨23, rowB v0 ++ (Tv ++ [P]), ⟨A' (acc) v0 ++ ⟨P, 73, [.sl l.length (l.flatMap encT), .val (.int .i64 (((k0) : Nat) : Int)), .val (.int .i64 (((dp) : Nat) : Int)), .val (.int .i64 (((e0) : Nat) : Int))]⟩ :: B, rw' (acc) v0⟩, [(4, .c (.val (.bool more))), (1, .c (.val (.func (.func F) fst cap))), (0, .c (.val (.pointer (some ⟨P, 0, none⟩))))]⟩ : AS) _
  cases more
  ·skip
   refine aw_seq ?_
   refine sqrg ?_
   refine wmv rfl rfl rfl rfl rfl ?_
   refine wmv rfl rfl rfl rfl rfl ?_
   refine wskip rfl rfl (by decide) ?_
   refine wskip rfl rfl (by decide) ?_
   refine wskip rfl rfl (by decide) ?_
   refine wskip rfl rfl (by decide) ?_
   refine wskip rfl rfl (by decide) ?_
   refine wyy rfl rfl rfl (ay_pick rfl rfl rfl) ?_
   refine nlnm ?_
   refine aw_condF rfl rfl ?_
   refine aw_exit ?_
   refine then_exit ?_
   refine then_exit ?_
   refine inB_exit ?_
   refine then_normal ?_
   refine aw_region ?_
   refine wmv rfl rfl rfl rfl rfl ?_
   refine wcP rfl rfl rfl rfl Tryd.call93 rfl (signP_c ((A' acc v0)) _ _ _ l k0 dp e0 [41] hok hk0 he0) (by simp) (by simp [Sto.bl]) ?_
   rintro t6 s6 ⟨x6, k6, e6, rfl, hr6, hk6, he6, rfl⟩
   refine aops_nil ?_
   exact ⟨.inl rfl, _, PSt (A' acc v0) B (rw' acc v0) P l (k6) dp (e6), res_none rfl, subS_of (.refl _) (.refl _), ⟨acc, v0, k6, e6, rfl, (by by_cases h0 : e0 = 0; exact hd0 h0 rfl _ _ _ (by rw [← h0]; exact hr6.map (f := fun _ => acc)); rcases hr6 with ⟨_, rfl, rfl⟩ | ⟨h, _⟩; exact hn0 h0; exact absurd h h0), hk6, he6, rfl⟩⟩
  ·by_cases h0 : e0 = 0
   ·subst h0
    have ha1 := ha0 rfl
    obtain ⟨n0, hn1, hcont⟩ := hc0 rfl rfl
    obtain ⟨m, rfl⟩ : ∃ m, n0 = m + 1 := ⟨n0 - 1, by omega⟩
    skip
    refine aw_seq ?_
    refine sqrg ?_
    refine wmv rfl rfl rfl rfl rfl ?_
    refine wmv rfl rfl rfl rfl rfl ?_
    refine wmv rfl rfl rfl rfl rfl ?_
    refine wyy rfl rfl rfl (ay_nilCheck rfl rfl) ?_
    refine wyy rfl rfl rfl (ay_fieldAddr 3 3 rfl rfl Tryd.runUnderlying73 rfl Tryd.sizeOf36 (by decide) rfl) ?_
    refine wyy rfl rfl rfl (ay_load_box ((A' acc v0)) rfl rfl rfl Tryd.isAgg36 Tryd.sizeOf36 rfl (fun _ h => by cases h)) ?_
    refine wyy rfl rfl rfl (ay_cmp true rfl rfl rfl (by rfl)) ?_
    refine wyy rfl rfl rfl (ay_pick rfl rfl rfl) ?_
    refine nlnm ?_
    refine aw_condT rfl rfl ?_
    refine aw_skip ?_
    refine then_normal ?_
    refine aw_seq ?_
    refine aw_block ?_
    refine aw_region ?_
    refine wmv rfl rfl rfl rfl rfl ?_
    refine wo rfl (wcallv (rowB v0 ++ (Tv ++ [P])) rfl rfl rfl (by decide) hcf (us := []) rfl (hcl acc v0 k0 hk0 ha1) (fun b hb => by simpa using hb) (hTb acc v0 k0 0) (fun _ b hb => hb) ?_)
    rintro t10 s10 ⟨x10, v10, k10, e10, rfl, hr10, hk10, he10, rfl⟩
    refine ⟨rowB v10, fun hnd b hb => ⟨hrB _ _ _ _ b hb, fun hb2 => List.mem_append_left _ (hback acc v0 k0 0 (acc ++ [x10]) v10 k10 e10 hnd b hb hb2)⟩, ?_⟩
    show AOps _ _ _ ⟨_, _, ⟨A' (acc ++ [x10]) v10 ++ ⟨P, 73, [.sl l.length (l.flatMap encT), .val (.int .i64 (((k10) : Nat) : Int)), .val (.int .i64 (((dp) : Nat) : Int)), .val (.int .i64 (((e10) : Nat) : Int))]⟩ :: B, rw' (acc ++ [x10]) v10⟩, _⟩ _
    refine aops_nil ?_
    refine inB_normal ?_
    refine then_normal ?_
    refine aw_region ?_
    refine wmv rfl rfl rfl rfl rfl ?_
    refine wcP rfl rfl rfl rfl Tryd.call91 rfl (accept_c ((A' (acc ++ [x10]) v10)) _ _ _ l k10 dp e10 [44] hok hk10) (by simp) (by simp [Sto.bl]) ?_
    rintro t11 s11 (⟨rfl, ha11, hm11, rfl, rfl⟩ | ⟨ha11, rfl, rfl⟩)
    ·refine wag rfl rfl rfl rfl rfl ?_
     refine aops_nil ?_
     refine ⟨(true, acc ++ [x10], v10, k10 + 1, 0), ⟨hm11, (show (0 : Nat) < 16 by decide), ?_, ?_, ?_, ?_⟩, ?_, subA (.refl _) (.refl _) (by intro x hx; rcases List.mem_append.1 hx with h | h; exact List.mem_append_left _ h; exact List.mem_append_right _ (List.mem_append_right _ h)) (sub_cons rfl (Wk.refl _) (sub_cons rfl (Wk.refl _) (sub_cons rfl (Wk.refl _) sub_nil)))⟩
     ·intro _; have h9 := hin acc.length k0 hk0; rw [(hr10.good rfl).2] at h9; have := h9.1; show (acc ++ [x10]).length ≤ k10 + 1; simp; omega
     ·intro h; exact absurd rfl h
     ·intro _ _; refine ⟨m, ?_, fun z k' e' h => hcont z k' e' ?_⟩
      ·have h9 := hin acc.length k0 hk0; rw [(hr10.good rfl).2] at h9; have := h9.1; show l.length ≤ m + (k10 + 1); omega
      ·rw [listP]; exact hr10.bind (by rw [if_pos ha11]; exact Run.from h)
     ·intro _ h; exact nomatch h
     ·have h9 := hin acc.length k0 hk0; rw [(hr10.good rfl).2] at h9; have := h9.1; show (if true = true ∧ (0 : Nat) = 0 then _ else _) < (if true = true ∧ (0 : Nat) = 0 then _ else _); rw [if_pos ⟨rfl, rfl⟩, if_pos ⟨rfl, rfl⟩]; show l.length - (k10 + 1) + 1 < l.length - k0 + 1; omega
    ·refine wag rfl rfl rfl rfl rfl ?_
     refine aops_nil ?_
     refine ⟨(false, acc ++ [x10], v10, k10, e10), ⟨hk10, he10, ?_, ?_, ?_, ?_⟩, ?_, subA (.refl _) (.refl _) (by intro x hx; rcases List.mem_append.1 hx with h | h; exact List.mem_append_left _ h; exact List.mem_append_right _ (List.mem_append_right _ h)) (sub_cons rfl (Wk.refl _) (sub_cons rfl (Wk.refl _) (sub_cons rfl (Wk.refl _) sub_nil)))⟩
     ·intro h; have h9 := hin acc.length k0 hk0; rw [(hr10.good h).2] at h9; have := h9.1; show (acc ++ [x10]).length ≤ k10; simp; omega
     ·intro h; exact hcont _ _ _ (by rw [listP]; exact hr10.bind (.skip h _ _))
     ·intro _ h; exact nomatch h
     ·intro h _ z k' e' h2; refine hcont _ _ _ ?_; rw [listP]; refine hr10.bind ?_; rw [show e10 = 0 from h, if_neg (by rw [ha11 h]; decide)]; exact h2
     ·show (if false = true ∧ _ then _ else _) < (if true = true ∧ (0 : Nat) = 0 then _ else _); rw [if_neg (fun h => nomatch h.1), if_pos ⟨rfl, rfl⟩]; show 0 < l.length - k0 + 1; omega
   ·skip
    refine aw_seq ?_
    refine sqrg ?_
    refine wmv rfl rfl rfl rfl rfl ?_
    refine wmv rfl rfl rfl rfl rfl ?_
    refine wmv rfl rfl rfl rfl rfl ?_
    refine wyy rfl rfl rfl (ay_nilCheck rfl rfl) ?_
    refine wyy rfl rfl rfl (ay_fieldAddr 3 3 rfl rfl Tryd.runUnderlying73 rfl Tryd.sizeOf36 (by decide) rfl) ?_
    refine wyy rfl rfl rfl (ay_load_box ((A' acc v0)) rfl rfl rfl Tryd.isAgg36 Tryd.sizeOf36 rfl (fun _ h => by cases h)) ?_
    refine wyy rfl rfl rfl (ay_cmp false rfl rfl rfl (eq_nat0 h0)) ?_
    refine wyy rfl rfl rfl (ay_pick rfl rfl rfl) ?_
    refine nlnm ?_
    refine aw_condF rfl rfl ?_
    refine aw_exit ?_
    refine then_exit ?_
    refine then_exit ?_
    refine inB_exit ?_
    refine then_normal ?_
    refine aw_region ?_
    refine wmv rfl rfl rfl rfl rfl ?_
    refine wcP rfl rfl rfl rfl Tryd.call93 rfl (signP_c ((A' acc v0)) _ _ _ l k0 dp e0 [41] hok hk0 he0) (by simp) (by simp [Sto.bl]) ?_
    rintro t8 s8 ⟨x8, k8, e8, rfl, hr8, hk8, he8, rfl⟩
    refine aops_nil ?_
    exact ⟨.inl rfl, _, PSt (A' acc v0) B (rw' acc v0) P l (k8) dp (e8), res_none rfl, subS_of (.refl _) (.refl _), ⟨acc, v0, k8, e8, rfl, (by rcases hr8 with ⟨_, rfl, rfl⟩ | ⟨h, _⟩; exact hn0 h0; exact absurd h h0), hk8, he8, rfl⟩⟩
end Go.Proofs.YtflcnehhpmjipaaDoor
namespace Go.Proofs.YtflcnehhpmjipaaDoor
open Go.RowKit
set_option maxRecDepth 100000 in
set_option maxHeartbeats 1600000 in
theorem argF_c (A B : List Box) (rw : List ORow) (P : Nat) (l : List Tok) (k dp c1 c2 : Nat) (v : Value) (acc : List AArg) (hok : TOk l) (hk : k < l.length) (hal : acc.length ≤ 1000000) : ACall Tryd.prog 143 [.c (.val (.pointer (some ⟨c2, 0, none⟩))), .c (.val (.pointer (some ⟨c1, 0, none⟩)))] (rowB v ++ ([c2] ++ [P])) (PSt (⟨c2, 117, [.val v]⟩ :: ⟨c1, 71, [.val (.pointer (some ⟨P, 0, none⟩))]⟩ :: A) B (⟨v, 123, 7, (acc).length, (acc).flatMap encA⟩ :: rw) P l k dp 0) fun t s => ∃ x v' k' e', t = .tup [] ∧ Run 0 k (argP l k) x k' e' ∧ k' < l.length ∧ e' < 16 ∧ s = PSt (⟨c2, 117, [.val v']⟩ :: ⟨c1, 71, [.val (.pointer (some ⟨P, 0, none⟩))]⟩ :: A) B (⟨v', 123, 7, (acc ++ [x]).length, (acc ++ [x]).flatMap encA⟩ :: rw) P l k' dp e' := by
 have hlen := hok.len
 have he : (0 : Nat) < 16 := by decide
 refine acall_body Tryd.func143 rfl (Nat.le_of_ble_eq_true rfl) ?_
 show AWp Tryd.prog _ ⟨7, rowB v ++ ([c2] ++ [P]), ⟨⟨c2, 117, [.val v]⟩ :: ⟨c1, 71, [.val (.pointer (some ⟨P, 0, none⟩))]⟩ :: (A ++ ⟨P, 73, [.sl l.length (l.flatMap encT), .val (.int .i64 ((k : Nat) : Int)), .val (.int .i64 ((dp : Nat) : Int)), .val (.int .i64 ((0 : Nat) : Int))]⟩ :: B), ⟨v, 123, 7, (acc).length, (acc).flatMap encA⟩ :: rw⟩, [(0, .c (.val (.pointer (some ⟨c2, 0, none⟩)))), (1, .c (.val (.pointer (some ⟨c1, 0, none⟩))))]⟩ _
 refine aw_region_drew [] (by kernel_rfl) ?_
 refine two 0 1 (by kernel_rfl) rfl rfl rfl rfl ?_ ?_
 ·refine way rfl (by decide) (ay_load_box [] rfl rfl rfl Tryd.isAgg117 Tryd.sizeOf117 rfl (fun _ h => by cases h)) ?_
  refine one 1 (by kernel_rfl) rfl rfl (way rfl (by decide) (ay_load_box [_] rfl rfl rfl Tryd.isAgg71 Tryd.sizeOf71 rfl (fun _ h => by cases h)) ?_)
  refine one 2 (by kernel_rfl) rfl rfl (wcall [P] rfl rfl (by decide) Tryd.call144 rfl (argP_c (_ :: _ :: A) _ _ _ l k dp 0 hok hk he) (by intro b hb; simp at hb; subst hb; simp) (by intro b hb; simp at hb; subst hb; simp [Sto.bl]) (by intro h b hb; simp at hb; subst hb; exact offN (by simp [Sto.bl])) ?_)
  rintro t1 s1 ⟨x1, k1, e1, rfl, hr1, hk1, he1, rfl⟩
  refine one 3 (by kernel_rfl) rfl rfl (wbs Tryd.t123 [.val (.bool false), .val (.string ⟨#[]⟩), .val (.slice none 0 0), .val (.int .i64 0), .val (.int .i64 0), .val (.string ⟨#[]⟩), .val (.slice none 0 0)] rfl rfl (by decide) (.cons rfl .nil) Tryd.underlying117 (by kernel_rfl) rfl (by decide) (by decide) (by kernel_rfl) (by kernel_rfl) (fill_one encA encA x1 rfl rfl rfl) ?_)
  refine one 4 (by kernel_rfl) rfl rfl (wapI [] Tryd.t123 104 rfl rfl (by decide) rfl rfl Tryd.underlying117 (by kernel_rfl) rfl rfl rfl rfl (by decide) rfl (by decide) (by unfold maxLen; skip; omega) (by skip; omega) (@List.length_append _ acc [x1]).symm (fun _ b hb => offN (by simp [Sto.bl, hb])) (fun b hb => by simp [hb]) (List.flatMap_append (f := encA)).symm fun v2 => ?_)
  refine one 5 (by kernel_rfl) rfl rfl (wst0 rfl rfl rfl rfl rfl Tryd.sizeOf117 rfl (Nat.le_of_ble_eq_true rfl) (splice_all rfl) (by simp) (fun _ => offN (by simp [Sto.bl])) ?_)
  refine any_done (by kernel_rfl) ?_
  exact ⟨.inl rfl, _, PSt (⟨c2, 117, [.val v2]⟩ :: ⟨c1, 71, [.val (.pointer (some ⟨P, 0, none⟩))]⟩ :: A) B (⟨v2, 123, 7, (acc ++ [x1]).length, (acc ++ [x1]).flatMap encA⟩ :: rw) P l k1 dp e1, res_none rfl, subS_of (.refl _) (.refl _), ⟨x1, v2, k1, e1, rfl, hr1, hk1, he1, rfl⟩⟩
 ·refine way rfl (by decide) (ay_load_box [_] rfl rfl rfl Tryd.isAgg71 Tryd.sizeOf71 rfl (fun _ h => by cases h)) ?_
  refine two 0 2 (by kernel_rfl) rfl rfl rfl rfl ?_ ?_
  ·refine way rfl (by decide) (ay_load_box [] rfl rfl rfl Tryd.isAgg117 Tryd.sizeOf117 rfl (fun _ h => by cases h)) ?_
   refine one 2 (by kernel_rfl) rfl rfl (wcall [P] rfl rfl (by decide) Tryd.call144 rfl (argP_c (_ :: _ :: A) _ _ _ l k dp 0 hok hk he) (by intro b hb; simp at hb; subst hb; simp) (by intro b hb; simp at hb; subst hb; simp [Sto.bl]) (by intro h b hb; simp at hb; subst hb; exact offN (by simp [Sto.bl])) ?_)
   rintro t3 s3 ⟨x3, k3, e3, rfl, hr3, hk3, he3, rfl⟩
   refine one 3 (by kernel_rfl) rfl rfl (wbs Tryd.t123 [.val (.bool false), .val (.string ⟨#[]⟩), .val (.slice none 0 0), .val (.int .i64 0), .val (.int .i64 0), .val (.string ⟨#[]⟩), .val (.slice none 0 0)] rfl rfl (by decide) (.cons rfl .nil) Tryd.underlying117 (by kernel_rfl) rfl (by decide) (by decide) (by kernel_rfl) (by kernel_rfl) (fill_one encA encA x3 rfl rfl rfl) ?_)
   refine one 4 (by kernel_rfl) rfl rfl (wapI [] Tryd.t123 104 rfl rfl (by decide) rfl rfl Tryd.underlying117 (by kernel_rfl) rfl rfl rfl rfl (by decide) rfl (by decide) (by unfold maxLen; skip; omega) (by skip; omega) (@List.length_append _ acc [x3]).symm (fun _ b hb => offN (by simp [Sto.bl, hb])) (fun b hb => by simp [hb]) (List.flatMap_append (f := encA)).symm fun v4 => ?_)
   refine one 5 (by kernel_rfl) rfl rfl (wst0 rfl rfl rfl rfl rfl Tryd.sizeOf117 rfl (Nat.le_of_ble_eq_true rfl) (splice_all rfl) (by simp) (fun _ => offN (by simp [Sto.bl])) ?_)
   refine any_done (by kernel_rfl) ?_
   exact ⟨.inl rfl, _, PSt (⟨c2, 117, [.val v4]⟩ :: ⟨c1, 71, [.val (.pointer (some ⟨P, 0, none⟩))]⟩ :: A) B (⟨v4, 123, 7, (acc ++ [x3]).length, (acc ++ [x3]).flatMap encA⟩ :: rw) P l k3 dp e3, res_none rfl, subS_of (.refl _) (.refl _), ⟨x3, v4, k3, e3, rfl, hr3, hk3, he3, rfl⟩⟩
  ·refine (wcall [P] rfl rfl (by decide) Tryd.call144 rfl (argP_c (_ :: _ :: A) _ _ _ l k dp 0 hok hk he) (by intro b hb; simp at hb; subst hb; simp) (by intro b hb; simp at hb; subst hb; simp [Sto.bl]) (by intro h b hb; simp at hb; subst hb; exact offN (by simp [Sto.bl])) ?_)
   rintro t5 s5 ⟨x5, k5, e5, rfl, hr5, hk5, he5, rfl⟩
   refine two 0 3 (by kernel_rfl) rfl rfl rfl rfl ?_ ?_
   ·refine way rfl (by decide) (ay_load_box [] rfl rfl rfl Tryd.isAgg117 Tryd.sizeOf117 rfl (fun _ h => by cases h)) ?_
    refine one 3 (by kernel_rfl) rfl rfl (wbs Tryd.t123 [.val (.bool false), .val (.string ⟨#[]⟩), .val (.slice none 0 0), .val (.int .i64 0), .val (.int .i64 0), .val (.string ⟨#[]⟩), .val (.slice none 0 0)] rfl rfl (by decide) (.cons rfl .nil) Tryd.underlying117 (by kernel_rfl) rfl (by decide) (by decide) (by kernel_rfl) (by kernel_rfl) (fill_one encA encA x5 rfl rfl rfl) ?_)
    refine one 4 (by kernel_rfl) rfl rfl (wapI [] Tryd.t123 104 rfl rfl (by decide) rfl rfl Tryd.underlying117 (by kernel_rfl) rfl rfl rfl rfl (by decide) rfl (by decide) (by unfold maxLen; skip; omega) (by skip; omega) (@List.length_append _ acc [x5]).symm (fun _ b hb => offN (by simp [Sto.bl, hb])) (fun b hb => by simp [hb]) (List.flatMap_append (f := encA)).symm fun v6 => ?_)
    refine one 5 (by kernel_rfl) rfl rfl (wst0 rfl rfl rfl rfl rfl Tryd.sizeOf117 rfl (Nat.le_of_ble_eq_true rfl) (splice_all rfl) (by simp) (fun _ => offN (by simp [Sto.bl])) ?_)
    refine any_done (by kernel_rfl) ?_
    exact ⟨.inl rfl, _, PSt (⟨c2, 117, [.val v6]⟩ :: ⟨c1, 71, [.val (.pointer (some ⟨P, 0, none⟩))]⟩ :: A) B (⟨v6, 123, 7, (acc ++ [x5]).length, (acc ++ [x5]).flatMap encA⟩ :: rw) P l k5 dp e5, res_none rfl, subS_of (.refl _) (.refl _), ⟨x5, v6, k5, e5, rfl, hr5, hk5, he5, rfl⟩⟩
   ·refine (wbs Tryd.t123 [.val (.bool false), .val (.string ⟨#[]⟩), .val (.slice none 0 0), .val (.int .i64 0), .val (.int .i64 0), .val (.string ⟨#[]⟩), .val (.slice none 0 0)] rfl rfl (by decide) (.cons rfl .nil) Tryd.underlying117 (by kernel_rfl) rfl (by decide) (by decide) (by kernel_rfl) (by kernel_rfl) (fill_one encA encA x5 rfl rfl rfl) ?_)
    refine one 0 (by kernel_rfl) rfl rfl (way rfl (by decide) (ay_load_box [] rfl rfl rfl Tryd.isAgg117 Tryd.sizeOf117 rfl (fun _ h => by cases h)) ?_)
    refine one 4 (by kernel_rfl) rfl rfl (wapI [] Tryd.t123 104 rfl rfl (by decide) rfl rfl Tryd.underlying117 (by kernel_rfl) rfl rfl rfl rfl (by decide) rfl (by decide) (by unfold maxLen; skip; omega) (by skip; omega) (@List.length_append _ acc [x5]).symm (fun _ b hb => offN (by simp [Sto.bl, hb])) (fun b hb => by simp [hb]) (List.flatMap_append (f := encA)).symm fun v7 => ?_)
    refine one 5 (by kernel_rfl) rfl rfl (wst0 rfl rfl rfl rfl rfl Tryd.sizeOf117 rfl (Nat.le_of_ble_eq_true rfl) (splice_all rfl) (by simp) (fun _ => offN (by simp [Sto.bl])) ?_)
    refine any_done (by kernel_rfl) ?_
    exact ⟨.inl rfl, _, PSt (⟨c2, 117, [.val v7]⟩ :: ⟨c1, 71, [.val (.pointer (some ⟨P, 0, none⟩))]⟩ :: A) B (⟨v7, 123, 7, (acc ++ [x5]).length, (acc ++ [x5]).flatMap encA⟩ :: rw) P l k5 dp e5, res_none rfl, subS_of (.refl _) (.refl _), ⟨x5, v7, k5, e5, rfl, hr5, hk5, he5, rfl⟩⟩
set_option maxRecDepth 100000 in
set_option maxHeartbeats 1600000 in
theorem argsP_c (A B : List Box) (rw : List ORow) (P : Nat) (l : List Tok) (k dp e : Nat) (hok : TOk l) (hk : k < l.length) (he : e < 16) : ACall Tryd.prog 136 [.c (.val (.pointer (some ⟨P, 0, none⟩)))] [P] (PSt A B rw P l k dp e) (PAn A B rw P l dp (fun x => .c (.sl x.length (x.flatMap encA))) e k (argsP l k)) := by
 have hlen := hok.len
 refine acall_body Tryd.func136 rfl (Nat.le_of_ble_eq_true rfl) ?_
 show AWp Tryd.prog _ ⟨8, [P], ⟨A ++ ⟨P, 73, [.sl l.length (l.flatMap encT), .val (.int .i64 ((k : Nat) : Int)), .val (.int .i64 ((dp : Nat) : Int)), .val (.int .i64 ((e : Nat) : Int))]⟩ :: B, rw⟩, [(0, .c (.val (.pointer (some ⟨P, 0, none⟩))))]⟩ _
 refine sqrg ?_
 refine wo rfl (wbox rfl rfl (by decide) rfl rfl fun b1 => ?_)
 refine wag rfl rfl rfl rfl rfl ?_
 refine nx ?_
 refine wo rfl (walloc rfl rfl (by decide) Tryd.zeroValue117 rfl fun b2 => ?_)
 refine nlnm ?_
 refine aw_seq ?_
 refine wrow 123 7 ?_
 refine aw_region ?_
 refine wyy rfl rfl rfl (ay_load_box [_] rfl rfl rfl Tryd.isAgg71 Tryd.sizeOf71 rfl (fun _ h => by cases h)) ?_
 refine wyy rfl rfl rfl (ay_makeFunc rfl (vs := [.pointer (some ⟨b2, 0, none⟩), .pointer (some ⟨b1, 0, none⟩)]) rfl) ?_
 refine wo rfl (wcall ([b2] ++ [P]) rfl rfl (by decide) Tryd.call94 rfl (listed_c (fun acc v => ⟨b2, 117, [.val v]⟩ :: ⟨b1, 71, [.val (.pointer (some ⟨P, 0, none⟩))]⟩ :: A) B (fun acc v => ⟨v, 123, 7, acc.length, acc.flatMap encA⟩ :: rw) P l k dp e [b2] 143 #[] #[.pointer (some ⟨b2, 0, none⟩), .pointer (some ⟨b1, 0, none⟩)] (fun _ => argP l) hok hk he Tryd.call143 (fun _ k hk => argP_in hok.last hk) (fun acc v k e b hb => by simp [Sto.bl] at hb ⊢; rcases hb with h | h | h <;> simp [h]) (fun acc v k e b hb => by simp [Sto.bl]; exact .inr (.inr (.inr (.inr (.inr (.inl hb)))))) (fun acc v k e acc' v' k' e' hn b hb hb2 => row_back (by simp) hn hb hb2) (fun acc v k hk ha => argF_c A B rw P l k dp b1 b2 v acc hok hk (by omega))) (by intro b hb; simp at hb; rcases hb with rfl | rfl <;> simp) (by intro b hb; simp at hb; rcases hb with rfl | rfl <;> simp [Sto.bl]) (by intro _ b hb; simp at hb; rcases hb with rfl | rfl <;> simp) ?_)
 rintro t1 s1 ⟨acc, v0, k1, e1, rfl, hr1, hk1, he1, rfl⟩
 show AOps _ _ _ ⟨_, _, ⟨⟨b2, 117, [.val v0]⟩ :: ⟨b1, 71, [.val (.pointer (some ⟨P, 0, none⟩))]⟩ :: (A ++ ⟨P, 73, [.sl l.length (l.flatMap encT), .val (.int .i64 (((k1) : Nat) : Int)), .val (.int .i64 (((dp) : Nat) : Int)), .val (.int .i64 (((e1) : Nat) : Int))]⟩ :: B), ⟨v0, 123, 7, (acc).length, (acc).flatMap encA⟩ :: rw⟩, _⟩ _
 refine nx ?_
 refine wyy rfl rfl rfl (ay_load_box [] rfl rfl rfl Tryd.isAgg117 Tryd.sizeOf117 rfl (fun _ h => by cases h)) ?_
 refine wag rfl rfl rfl rfl rfl ?_
 refine nlnm ?_
 refine wfrz 2 rfl ?_
 refine aw_ret ?_
 exact ⟨.inr rfl, _, (PSt A B rw P l (k1) (dp) (e1)), (res_one rfl (resv_tmp rfl)), subS_of (.cons _ (.cons _ (.refl _))) (.refl _), ⟨acc, k1, e1, rfl, hr1, hk1, he1, rfl⟩⟩
end Go.Proofs.YtflcnehhpmjipaaDoor
