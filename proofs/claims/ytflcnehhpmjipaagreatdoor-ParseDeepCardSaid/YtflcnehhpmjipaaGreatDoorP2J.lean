import Derived.Test.YtflcnehhpmjipaaGreatDoorW6J
import Derived.Test.YtflcnehhpmjipaaGreatDoorP1J
import Derived.Test.YtflcnehhpmjipaaGreatDoorW4J
set_option linter.unusedVariables false
set_option linter.unusedSimpArgs false
namespace Go.Proofs.YtflcnehhpmjipaaGreatDoor
open Go.RowKit
set_option synthInstance.maxHeartbeats 1000000
set_option synthInstance.maxSize 1000000
set_option linter.all false
set_option maxRecDepth 100000 in
set_option maxHeartbeats 1600000 in
theorem listed_c {α : Type} (A' : List α → Value → List Box) (B : List Box) (rw' : List α → Value → List ORow) (P : Nat) (l : List Tok) (k dp e : Nat) (Tv : List Nat) (F : FuncId) (fst cap : Array Value) (el : Nat → Nat → PRes α) (hok : TOk l) (hk : k < l.length) (he : e < 16)
  (hcf : ∀ args w, (callFunc F args).run Tryz.prog w = .ok (.enter F args) w) (hin : ∀ n k, k < l.length → (el n k).In l k) (hTb : ∀ acc v k e, ∀ b, b ∈ rowB v ++ (Tv ++ [P]) → b ∈ (PSt (A' acc v) B (rw' acc v) P l k dp e).bl) (hrB : ∀ acc v k e, ∀ b, b ∈ rowB v → b ∈ (PSt (A' acc v) B (rw' acc v) P l k dp e).bl)
  (hback : ∀ acc v k e acc' v' k' e', (PSt (A' acc' v') B (rw' acc' v') P l k' dp e').bl.Nodup → ∀ b, b ∈ rowB v' → b ∈ (PSt (A' acc v) B (rw' acc v) P l k dp e).bl → b ∈ rowB v)
  (hcl : ∀ acc v k, k < l.length → acc.length ≤ k → ACall Tryz.prog F (fst.toList.map cst ++ [] ++ cap.toList.map cst) (rowB v ++ (Tv ++ [P])) (PSt (A' acc v) B (rw' acc v) P l k dp 0) fun t s => ∃ x v' k' e', t = .tup [] ∧ Run 0 k (el acc.length k) x k' e' ∧ k' < l.length ∧ e' < 16 ∧ s = PSt (A' (acc ++ [x]) v') B (rw' (acc ++ [x]) v') P l k' dp e') :
  ACall Tryz.prog 103 [.c (.val (.pointer (some ⟨P, 0, none⟩))), .c (.val (.func (.func F) fst cap))] (Tv ++ [P]) (PSt (A' [] (.slice none 0 0)) B (rw' [] (.slice none 0 0)) P l k dp e) fun t s => ∃ acc v k' e', t = .tup [] ∧ Run e k (parensP l el k) acc k' e' ∧ k' < l.length ∧ e' < 16 ∧ s = PSt (A' acc v) B (rw' acc v) P l k' dp e' := by
 have hlen := hok.len
 refine acall_body Tryz.func103 rfl (Nat.le_of_ble_eq_true rfl) ?_
 show AWp Tryz.prog _ ⟨23, Tv ++ [P], ⟨(A' [] (.slice none 0 0)) ++ ⟨P, 70, [.sl l.length (l.flatMap encT), .val (.int .i64 ((k : Nat) : Int)), .val (.int .i64 ((dp : Nat) : Int)), .val (.int .i64 ((e : Nat) : Int))]⟩ :: B, (rw' [] (.slice none 0 0))⟩, [(0, .c (.val (.pointer (some ⟨P, 0, none⟩)))), (1, .c (.val (.func (.func F) fst cap)))]⟩ _
 refine go 3 ?_
 refine wcP rfl rfl rfl rfl Tryz.call73 rfl (signP_c ((A' [] (.slice none 0 0))) _ _ _ l k dp e [40] hok hk he) (by simp) (by simp [Sto.bl]) ?_
 rintro t1 s1 ⟨x1, k1, e1, rfl, hr1, hk1, he1, rfl⟩
 refine go 6 ?_
 refine wcP rfl rfl rfl rfl Tryz.call74 rfl (accept_c ((A' [] (.slice none 0 0))) _ _ _ l k1 dp e1 [41] hok hk1) (by simp) (by simp [Sto.bl]) ?_
 rintro t2 s2 (⟨rfl, ha2, hm2, rfl, rfl⟩ | ⟨ha2, rfl, rfl⟩)
 ·refine go 5 ?_
  exact ⟨.inr rfl, _, PSt (A' [] (.slice none 0 0)) B (rw' [] (.slice none 0 0)) P l (k1 + 1) dp 0, res_none rfl, subS_of (.refl _) (.refl _), ⟨[], .slice none 0 0, k1 + 1, 0, rfl, hr1.bind (by rw [if_pos ha2]; exact .ok _ _ _ rfl), hm2, (by decide), rfl⟩⟩
 ·refine go 12 ?_
  refine aw_loop (fun g : Bool × List α × Value × Nat × Nat => (⟨23, rowB g.2.2.1 ++ (Tv ++ [P]), ⟨A' (g.2.1) g.2.2.1 ++ ⟨P, 70, [.sl l.length (l.flatMap encT), .val (.int .i64 (((g.2.2.2.1) : Nat) : Int)), .val (.int .i64 (((dp) : Nat) : Int)), .val (.int .i64 (((g.2.2.2.2) : Nat) : Int))]⟩ :: B, rw' (g.2.1) g.2.2.1⟩, [(4, .c (.val (.bool g.1))), (1, .c (.val (.func (.func F) fst cap))), (0, .c (.val (.pointer (some ⟨P, 0, none⟩))))]⟩ : AS)) (fun g => g.2.2.2.1 < l.length ∧ g.2.2.2.2 < 16 ∧ (g.2.2.2.2 = 0 → g.2.1.length ≤ g.2.2.2.1) ∧ (g.2.2.2.2 ≠ 0 → Run e k (parensP l el k) g.2.1 g.2.2.2.1 g.2.2.2.2) ∧ (g.2.2.2.2 = 0 → g.1 = true → ∃ n, l.length ≤ n + g.2.2.2.1 ∧ ∀ z k' e', Run 0 g.2.2.2.1 (listP l el n g.2.1 g.2.2.2.1) z k' e' → Run e k (parensP l el k) z k' e') ∧ (g.2.2.2.2 = 0 → g.1 = false → ∀ z k' e', Run 0 g.2.2.2.1 ((wantP l [41] g.2.2.2.1).bind fun _ k => .ok g.2.1 k) z k' e' → Run e k (parensP l el k) z k' e')) (fun g => if g.1 = true ∧ g.2.2.2.2 = 0 then l.length - g.2.2.2.1 + 1 else 0) (true, [], .slice none 0 0, k1, e1) (subA (.refl _) (.refl _) (by intro x hx; simpa [rowB, Value.ownBlock] using hx) (sub_cons rfl (Wk.refl _) (sub_cons rfl (Wk.refl _) (sub_cons rfl (Wk.refl _) sub_nil)))) ⟨hk1, he1, fun _ => Nat.zero_le _, fun h => hr1.bind (.skip h _ _), fun h _ => ⟨l.length, Nat.le_add_right _ _, fun z k' e' h2 => ?_⟩, fun _ h => nomatch h⟩ ?_
  ·have h : e1 = 0 := h
   refine hr1.bind ?_
   rw [h, if_neg (by rw [ha2 h]; decide)]
   exact h2
  rintro ⟨more, acc, v0, k0, e0⟩ ⟨hk0, he0, ha0, hn0, hc0, hd0⟩
  dsimp only at hk0 he0 ha0 hn0 hc0 hd0
  show AWp Tryz.prog _ (⟨23, rowB v0 ++ (Tv ++ [P]), ⟨A' (acc) v0 ++ ⟨P, 70, [.sl l.length (l.flatMap encT), .val (.int .i64 (((k0) : Nat) : Int)), .val (.int .i64 (((dp) : Nat) : Int)), .val (.int .i64 (((e0) : Nat) : Int))]⟩ :: B, rw' (acc) v0⟩, [(4, .c (.val (.bool more))), (1, .c (.val (.func (.func F) fst cap))), (0, .c (.val (.pointer (some ⟨P, 0, none⟩))))]⟩ : AS) _
  cases more
  ·skip
   refine go 21 ?_
   refine wcP rfl rfl rfl rfl Tryz.call73 rfl (signP_c ((A' acc v0)) _ _ _ l k0 dp e0 [41] hok hk0 he0) (by simp) (by simp [Sto.bl]) ?_
   rintro t6 s6 ⟨x6, k6, e6, rfl, hr6, hk6, he6, rfl⟩
   refine go 1 ?_
   exact ⟨.inl rfl, _, PSt (A' acc v0) B (rw' acc v0) P l (k6) dp (e6), res_none rfl, subS_of (.refl _) (.refl _), ⟨acc, v0, k6, e6, rfl, (by by_cases h0 : e0 = 0; exact hd0 h0 rfl _ _ _ (by rw [← h0]; exact hr6.map (f := fun _ => acc)); rcases hr6 with ⟨_, rfl, rfl⟩ | ⟨h, _⟩; exact hn0 h0; exact absurd h h0), hk6, he6, rfl⟩⟩
  ·by_cases h0 : e0 = 0
   ·subst h0
    have ha1 := ha0 rfl
    obtain ⟨n0, hn1, hcont⟩ := hc0 rfl rfl
    obtain ⟨m, rfl⟩ : ∃ m, n0 = m + 1 := ⟨n0 - 1, by omega⟩
    skip
    refine go 9 ?_
    refine wyy rfl rfl rfl (ay_cmp true rfl rfl rfl (by rfl)) ?_
    refine go 10 ?_
    refine wo rfl (wcallv (rowB v0 ++ (Tv ++ [P])) rfl rfl rfl (by decide) hcf (us := []) rfl (hcl acc v0 k0 hk0 ha1) (fun b hb => by simpa using hb) (hTb acc v0 k0 0) (fun _ b hb => hb) ?_)
    rintro t10 s10 ⟨x10, v10, k10, e10, rfl, hr10, hk10, he10, rfl⟩
    refine ⟨rowB v10, fun hnd b hb => ⟨hrB _ _ _ _ b hb, fun hb2 => List.mem_append_left _ (hback acc v0 k0 0 (acc ++ [x10]) v10 k10 e10 hnd b hb hb2)⟩, ?_⟩
    show AOps _ _ _ ⟨_, _, ⟨A' (acc ++ [x10]) v10 ++ ⟨P, 70, [.sl l.length (l.flatMap encT), .val (.int .i64 (((k10) : Nat) : Int)), .val (.int .i64 (((dp) : Nat) : Int)), .val (.int .i64 (((e10) : Nat) : Int))]⟩ :: B, rw' (acc ++ [x10]) v10⟩, _⟩ _
    refine go 5 ?_
    refine wcP rfl rfl rfl rfl Tryz.call74 rfl (accept_c ((A' (acc ++ [x10]) v10)) _ _ _ l k10 dp e10 [44] hok hk10) (by simp) (by simp [Sto.bl]) ?_
    rintro t11 s11 (⟨rfl, ha11, hm11, rfl, rfl⟩ | ⟨ha11, rfl, rfl⟩)
    ·refine go 2 ?_
     refine ⟨(true, acc ++ [x10], v10, k10 + 1, 0), ⟨hm11, (show (0 : Nat) < 16 by decide), ?_, ?_, ?_, ?_⟩, ?_, subA (.refl _) (.refl _) (by intro x hx; rcases List.mem_append.1 hx with h | h; exact List.mem_append_left _ h; exact List.mem_append_right _ (List.mem_append_right _ h)) (sub_cons rfl (Wk.refl _) (sub_cons rfl (Wk.refl _) (sub_cons rfl (Wk.refl _) sub_nil)))⟩
     ·intro _; have h9 := hin acc.length k0 hk0; rw [(hr10.good rfl).2] at h9; have := h9.1; show (acc ++ [x10]).length ≤ k10 + 1; simp; omega
     ·intro h; exact absurd rfl h
     ·intro _ _; refine ⟨m, ?_, fun z k' e' h => hcont z k' e' ?_⟩
      ·have h9 := hin acc.length k0 hk0; rw [(hr10.good rfl).2] at h9; have := h9.1; show l.length ≤ m + (k10 + 1); omega
      ·rw [listP]; exact hr10.bind (by rw [if_pos ha11]; exact Run.from h)
     ·intro _ h; exact nomatch h
     ·have h9 := hin acc.length k0 hk0; rw [(hr10.good rfl).2] at h9; have := h9.1; show (if true = true ∧ (0 : Nat) = 0 then _ else _) < (if true = true ∧ (0 : Nat) = 0 then _ else _); rw [if_pos ⟨rfl, rfl⟩, if_pos ⟨rfl, rfl⟩]; show l.length - (k10 + 1) + 1 < l.length - k0 + 1; omega
    ·refine go 2 ?_
     refine ⟨(false, acc ++ [x10], v10, k10, e10), ⟨hk10, he10, ?_, ?_, ?_, ?_⟩, ?_, subA (.refl _) (.refl _) (by intro x hx; rcases List.mem_append.1 hx with h | h; exact List.mem_append_left _ h; exact List.mem_append_right _ (List.mem_append_right _ h)) (sub_cons rfl (Wk.refl _) (sub_cons rfl (Wk.refl _) (sub_cons rfl (Wk.refl _) sub_nil)))⟩
     ·intro h; have h9 := hin acc.length k0 hk0; rw [(hr10.good h).2] at h9; have := h9.1; show (acc ++ [x10]).length ≤ k10; simp; omega
     ·intro h; exact hcont _ _ _ (by rw [listP]; exact hr10.bind (.skip h _ _))
     ·intro _ h; exact nomatch h
     ·intro h _ z k' e' h2; refine hcont _ _ _ ?_; rw [listP]; refine hr10.bind ?_; rw [show e10 = 0 from h, if_neg (by rw [ha11 h]; decide)]; exact h2
     ·show (if false = true ∧ _ then _ else _) < (if true = true ∧ (0 : Nat) = 0 then _ else _); rw [if_neg (fun h => nomatch h.1), if_pos ⟨rfl, rfl⟩]; show 0 < l.length - k0 + 1; omega
   ·skip
    refine go 9 ?_
    refine wyy rfl rfl rfl (ay_cmp false rfl rfl rfl (eq_nat0 h0)) ?_
    refine go 11 ?_
    refine wcP rfl rfl rfl rfl Tryz.call73 rfl (signP_c ((A' acc v0)) _ _ _ l k0 dp e0 [41] hok hk0 he0) (by simp) (by simp [Sto.bl]) ?_
    rintro t8 s8 ⟨x8, k8, e8, rfl, hr8, hk8, he8, rfl⟩
    refine go 1 ?_
    exact ⟨.inl rfl, _, PSt (A' acc v0) B (rw' acc v0) P l (k8) dp (e8), res_none rfl, subS_of (.refl _) (.refl _), ⟨acc, v0, k8, e8, rfl, (by rcases hr8 with ⟨_, rfl, rfl⟩ | ⟨h, _⟩; exact hn0 h0; exact absurd h h0), hk8, he8, rfl⟩⟩
end Go.Proofs.YtflcnehhpmjipaaGreatDoor
namespace Go.Proofs.YtflcnehhpmjipaaGreatDoor
open Go.RowKit
set_option synthInstance.maxHeartbeats 1000000
set_option synthInstance.maxSize 1000000
set_option linter.all false
set_option maxRecDepth 100000 in
set_option maxHeartbeats 1600000 in
theorem argF_c (A B : List Box) (rw : List ORow) (P : Nat) (l : List Tok) (k dp c1 c2 : Nat) (v : Value) (acc : List AArg) (hok : TOk l) (hk : k < l.length) (hal : acc.length ≤ 1000000) : ACall Tryz.prog 161 [.c (.val (.pointer (some ⟨c2, 0, none⟩))), .c (.val (.pointer (some ⟨c1, 0, none⟩)))] (rowB v ++ ([c2] ++ [P])) (PSt (⟨c2, 91, [.val v]⟩ :: ⟨c1, 68, [.val (.pointer (some ⟨P, 0, none⟩))]⟩ :: A) B (⟨v, 97, 7, (acc).length, (acc).flatMap encA⟩ :: rw) P l k dp 0) fun t s => ∃ x v' k' e', t = .tup [] ∧ Run 0 k (argP l k) x k' e' ∧ k' < l.length ∧ e' < 16 ∧ s = PSt (⟨c2, 91, [.val v']⟩ :: ⟨c1, 68, [.val (.pointer (some ⟨P, 0, none⟩))]⟩ :: A) B (⟨v', 97, 7, (acc ++ [x]).length, (acc ++ [x]).flatMap encA⟩ :: rw) P l k' dp e' := by
 have hlen := hok.len
 have he : (0 : Nat) < 16 := by decide
 refine acall_body Tryz.func161 rfl (Nat.le_of_ble_eq_true rfl) ?_
 show AWp Tryz.prog _ ⟨7, rowB v ++ ([c2] ++ [P]), ⟨⟨c2, 91, [.val v]⟩ :: ⟨c1, 68, [.val (.pointer (some ⟨P, 0, none⟩))]⟩ :: (A ++ ⟨P, 70, [.sl l.length (l.flatMap encT), .val (.int .i64 ((k : Nat) : Int)), .val (.int .i64 ((dp : Nat) : Int)), .val (.int .i64 ((0 : Nat) : Int))]⟩ :: B), ⟨v, 97, 7, (acc).length, (acc).flatMap encA⟩ :: rw⟩, [(0, .c (.val (.pointer (some ⟨c2, 0, none⟩)))), (1, .c (.val (.pointer (some ⟨c1, 0, none⟩))))]⟩ _
 refine aw_region_drew [] (by kernel_rfl) ?_
 refine two 0 1 (by kernel_rfl) rfl rfl rfl rfl ?_ ?_
 ·refine way rfl (by decide) (ay_load_box [] rfl rfl rfl Tryz.isAgg91 Tryz.sizeOf91 rfl (fun _ h => by cases h)) ?_
  refine one 1 (by kernel_rfl) rfl rfl (way rfl (by decide) (ay_load_box [_] rfl rfl rfl Tryz.isAgg68 Tryz.sizeOf68 rfl (fun _ h => by cases h)) ?_)
  refine one 2 (by kernel_rfl) rfl rfl (wcall [P] rfl rfl (by decide) Tryz.call162 rfl (argP_c (_ :: _ :: A) _ _ _ l k dp 0 hok hk he) (by intro b hb; simp at hb; subst hb; simp) (by intro b hb; simp at hb; subst hb; simp [Sto.bl]) (by intro h b hb; simp at hb; subst hb; exact offN (by simp [Sto.bl])) ?_)
  rintro t1 s1 ⟨x1, k1, e1, rfl, hr1, hk1, he1, rfl⟩
  refine one 3 (by kernel_rfl) rfl rfl (wbs Tryz.t97 [.val (.bool false), .val (.string ⟨#[]⟩), .val (.slice none 0 0), .val (.int .i64 0), .val (.int .i64 0), .val (.string ⟨#[]⟩), .val (.slice none 0 0)] rfl rfl (by decide) (.cons rfl .nil) Tryz.underlying91 (by kernel_rfl) rfl (by decide) (by decide) (by kernel_rfl) (by kernel_rfl) (fill_one encA encA x1 rfl rfl rfl) ?_)
  refine one 4 (by kernel_rfl) rfl rfl (wapI [] Tryz.t97 104 rfl rfl (by decide) rfl rfl Tryz.underlying91 (by kernel_rfl) rfl rfl rfl rfl (by decide) rfl (by decide) (by unfold maxLen; skip; omega) (by skip; omega) (@List.length_append _ acc [x1]).symm (fun _ b hb => offN (by simp [Sto.bl, hb])) (fun b hb => by simp [hb]) (List.flatMap_append (f := encA)).symm fun v2 => ?_)
  refine tks [(5, false)] 0 (by kernel_rfl) ?_
  refine go 2 ?_
  refine any_done (by kernel_rfl) ?_
  exact ⟨.inl rfl, _, PSt (⟨c2, 91, [.val v2]⟩ :: ⟨c1, 68, [.val (.pointer (some ⟨P, 0, none⟩))]⟩ :: A) B (⟨v2, 97, 7, (acc ++ [x1]).length, (acc ++ [x1]).flatMap encA⟩ :: rw) P l k1 dp e1, res_none rfl, subS_of (.refl _) (.refl _), ⟨x1, v2, k1, e1, rfl, hr1, hk1, he1, rfl⟩⟩
 ·refine way rfl (by decide) (ay_load_box [_] rfl rfl rfl Tryz.isAgg68 Tryz.sizeOf68 rfl (fun _ h => by cases h)) ?_
  refine two 0 2 (by kernel_rfl) rfl rfl rfl rfl ?_ ?_
  ·refine way rfl (by decide) (ay_load_box [] rfl rfl rfl Tryz.isAgg91 Tryz.sizeOf91 rfl (fun _ h => by cases h)) ?_
   refine one 2 (by kernel_rfl) rfl rfl (wcall [P] rfl rfl (by decide) Tryz.call162 rfl (argP_c (_ :: _ :: A) _ _ _ l k dp 0 hok hk he) (by intro b hb; simp at hb; subst hb; simp) (by intro b hb; simp at hb; subst hb; simp [Sto.bl]) (by intro h b hb; simp at hb; subst hb; exact offN (by simp [Sto.bl])) ?_)
   rintro t3 s3 ⟨x3, k3, e3, rfl, hr3, hk3, he3, rfl⟩
   refine one 3 (by kernel_rfl) rfl rfl (wbs Tryz.t97 [.val (.bool false), .val (.string ⟨#[]⟩), .val (.slice none 0 0), .val (.int .i64 0), .val (.int .i64 0), .val (.string ⟨#[]⟩), .val (.slice none 0 0)] rfl rfl (by decide) (.cons rfl .nil) Tryz.underlying91 (by kernel_rfl) rfl (by decide) (by decide) (by kernel_rfl) (by kernel_rfl) (fill_one encA encA x3 rfl rfl rfl) ?_)
   refine one 4 (by kernel_rfl) rfl rfl (wapI [] Tryz.t97 104 rfl rfl (by decide) rfl rfl Tryz.underlying91 (by kernel_rfl) rfl rfl rfl rfl (by decide) rfl (by decide) (by unfold maxLen; skip; omega) (by skip; omega) (@List.length_append _ acc [x3]).symm (fun _ b hb => offN (by simp [Sto.bl, hb])) (fun b hb => by simp [hb]) (List.flatMap_append (f := encA)).symm fun v4 => ?_)
   refine tks [(5, false)] 0 (by kernel_rfl) ?_
   refine go 2 ?_
   refine any_done (by kernel_rfl) ?_
   exact ⟨.inl rfl, _, PSt (⟨c2, 91, [.val v4]⟩ :: ⟨c1, 68, [.val (.pointer (some ⟨P, 0, none⟩))]⟩ :: A) B (⟨v4, 97, 7, (acc ++ [x3]).length, (acc ++ [x3]).flatMap encA⟩ :: rw) P l k3 dp e3, res_none rfl, subS_of (.refl _) (.refl _), ⟨x3, v4, k3, e3, rfl, hr3, hk3, he3, rfl⟩⟩
  ·refine (wcall [P] rfl rfl (by decide) Tryz.call162 rfl (argP_c (_ :: _ :: A) _ _ _ l k dp 0 hok hk he) (by intro b hb; simp at hb; subst hb; simp) (by intro b hb; simp at hb; subst hb; simp [Sto.bl]) (by intro h b hb; simp at hb; subst hb; exact offN (by simp [Sto.bl])) ?_)
   rintro t5 s5 ⟨x5, k5, e5, rfl, hr5, hk5, he5, rfl⟩
   refine two 0 3 (by kernel_rfl) rfl rfl rfl rfl ?_ ?_
   ·refine way rfl (by decide) (ay_load_box [] rfl rfl rfl Tryz.isAgg91 Tryz.sizeOf91 rfl (fun _ h => by cases h)) ?_
    refine one 3 (by kernel_rfl) rfl rfl (wbs Tryz.t97 [.val (.bool false), .val (.string ⟨#[]⟩), .val (.slice none 0 0), .val (.int .i64 0), .val (.int .i64 0), .val (.string ⟨#[]⟩), .val (.slice none 0 0)] rfl rfl (by decide) (.cons rfl .nil) Tryz.underlying91 (by kernel_rfl) rfl (by decide) (by decide) (by kernel_rfl) (by kernel_rfl) (fill_one encA encA x5 rfl rfl rfl) ?_)
    refine one 4 (by kernel_rfl) rfl rfl (wapI [] Tryz.t97 104 rfl rfl (by decide) rfl rfl Tryz.underlying91 (by kernel_rfl) rfl rfl rfl rfl (by decide) rfl (by decide) (by unfold maxLen; skip; omega) (by skip; omega) (@List.length_append _ acc [x5]).symm (fun _ b hb => offN (by simp [Sto.bl, hb])) (fun b hb => by simp [hb]) (List.flatMap_append (f := encA)).symm fun v6 => ?_)
    refine tks [(5, false)] 0 (by kernel_rfl) ?_
    refine go 2 ?_
    refine any_done (by kernel_rfl) ?_
    exact ⟨.inl rfl, _, PSt (⟨c2, 91, [.val v6]⟩ :: ⟨c1, 68, [.val (.pointer (some ⟨P, 0, none⟩))]⟩ :: A) B (⟨v6, 97, 7, (acc ++ [x5]).length, (acc ++ [x5]).flatMap encA⟩ :: rw) P l k5 dp e5, res_none rfl, subS_of (.refl _) (.refl _), ⟨x5, v6, k5, e5, rfl, hr5, hk5, he5, rfl⟩⟩
   ·refine (wbs Tryz.t97 [.val (.bool false), .val (.string ⟨#[]⟩), .val (.slice none 0 0), .val (.int .i64 0), .val (.int .i64 0), .val (.string ⟨#[]⟩), .val (.slice none 0 0)] rfl rfl (by decide) (.cons rfl .nil) Tryz.underlying91 (by kernel_rfl) rfl (by decide) (by decide) (by kernel_rfl) (by kernel_rfl) (fill_one encA encA x5 rfl rfl rfl) ?_)
    refine one 0 (by kernel_rfl) rfl rfl (way rfl (by decide) (ay_load_box [] rfl rfl rfl Tryz.isAgg91 Tryz.sizeOf91 rfl (fun _ h => by cases h)) ?_)
    refine one 4 (by kernel_rfl) rfl rfl (wapI [] Tryz.t97 104 rfl rfl (by decide) rfl rfl Tryz.underlying91 (by kernel_rfl) rfl rfl rfl rfl (by decide) rfl (by decide) (by unfold maxLen; skip; omega) (by skip; omega) (@List.length_append _ acc [x5]).symm (fun _ b hb => offN (by simp [Sto.bl, hb])) (fun b hb => by simp [hb]) (List.flatMap_append (f := encA)).symm fun v7 => ?_)
    refine tks [(5, false)] 0 (by kernel_rfl) ?_
    refine go 2 ?_
    refine any_done (by kernel_rfl) ?_
    exact ⟨.inl rfl, _, PSt (⟨c2, 91, [.val v7]⟩ :: ⟨c1, 68, [.val (.pointer (some ⟨P, 0, none⟩))]⟩ :: A) B (⟨v7, 97, 7, (acc ++ [x5]).length, (acc ++ [x5]).flatMap encA⟩ :: rw) P l k5 dp e5, res_none rfl, subS_of (.refl _) (.refl _), ⟨x5, v7, k5, e5, rfl, hr5, hk5, he5, rfl⟩⟩
set_option maxRecDepth 100000 in
set_option maxHeartbeats 1600000 in
theorem argsP_c (A B : List Box) (rw : List ORow) (P : Nat) (l : List Tok) (k dp e : Nat) (hok : TOk l) (hk : k < l.length) (he : e < 16) : ACall Tryz.prog 141 [.c (.val (.pointer (some ⟨P, 0, none⟩)))] [P] (PSt A B rw P l k dp e) (PAn A B rw P l dp (fun x => .c (.sl x.length (x.flatMap encA))) e k (argsP l k)) := by
 have hlen := hok.len
 refine acall_body Tryz.func141 rfl (Nat.le_of_ble_eq_true rfl) ?_
 show AWp Tryz.prog _ ⟨8, [P], ⟨A ++ ⟨P, 70, [.sl l.length (l.flatMap encT), .val (.int .i64 ((k : Nat) : Int)), .val (.int .i64 ((dp : Nat) : Int)), .val (.int .i64 ((e : Nat) : Int))]⟩ :: B, rw⟩, [(0, .c (.val (.pointer (some ⟨P, 0, none⟩))))]⟩ _
 refine go 12 fun b1 b2 => ?_
 refine wrow 97 7 ?_
 refine go 2 ?_
 refine wyy rfl rfl rfl (ay_makeFunc rfl (vs := [.pointer (some ⟨b2, 0, none⟩), .pointer (some ⟨b1, 0, none⟩)]) rfl) ?_
 refine wo rfl (wcall ([b2] ++ [P]) rfl rfl (by decide) Tryz.call103 rfl (listed_c (fun acc v => ⟨b2, 91, [.val v]⟩ :: ⟨b1, 68, [.val (.pointer (some ⟨P, 0, none⟩))]⟩ :: A) B (fun acc v => ⟨v, 97, 7, acc.length, acc.flatMap encA⟩ :: rw) P l k dp e [b2] 161 #[] #[.pointer (some ⟨b2, 0, none⟩), .pointer (some ⟨b1, 0, none⟩)] (fun _ => argP l) hok hk he Tryz.call161 (fun _ k hk => argP_in hok.last hk) (fun acc v k e b hb => by simp [Sto.bl] at hb ⊢; rcases hb with h | h | h <;> simp [h]) (fun acc v k e b hb => by simp [Sto.bl]; exact .inr (.inr (.inr (.inr (.inr (.inl hb)))))) (fun acc v k e acc' v' k' e' hn b hb hb2 => row_back (by simp) hn hb hb2) (fun acc v k hk ha => argF_c A B rw P l k dp b1 b2 v acc hok hk (by omega))) (by intro b hb; simp at hb; rcases hb with rfl | rfl <;> simp) (by intro b hb; simp at hb; rcases hb with rfl | rfl <;> simp [Sto.bl]) (by intro _ b hb; simp at hb; rcases hb with rfl | rfl <;> simp) ?_)
 rintro t1 s1 ⟨acc, v0, k1, e1, rfl, hr1, hk1, he1, rfl⟩
 show AOps _ _ _ ⟨_, _, ⟨⟨b2, 91, [.val v0]⟩ :: ⟨b1, 68, [.val (.pointer (some ⟨P, 0, none⟩))]⟩ :: (A ++ ⟨P, 70, [.sl l.length (l.flatMap encT), .val (.int .i64 (((k1) : Nat) : Int)), .val (.int .i64 (((dp) : Nat) : Int)), .val (.int .i64 (((e1) : Nat) : Int))]⟩ :: B), ⟨v0, 97, 7, (acc).length, (acc).flatMap encA⟩ :: rw⟩, _⟩ _
 refine go 8 ?_
 refine wfrz 2 rfl ?_
 refine go 1 ?_
 exact ⟨.inr rfl, _, (PSt A B rw P l (k1) (dp) (e1)), (res_one rfl (resv_tmp rfl)), subS_of (.cons _ (.cons _ (.refl _))) (.refl _), ⟨acc, k1, e1, rfl, hr1, hk1, he1, rfl⟩⟩
end Go.Proofs.YtflcnehhpmjipaaGreatDoor
namespace Go.Proofs.YtflcnehhpmjipaaGreatDoor
open Go.RowKit
set_option synthInstance.maxHeartbeats 1000000
set_option synthInstance.maxSize 1000000
set_option linter.all false
def six : AStmt → AStmt
 | .mk _ n e r a t f => .mk 6 n e r a t f
theorem lock_six (l : List Tok) (k : Nat) : lockP l 6 k = (lockP l 5 k).bind fun s k => .ok (six s) k := by
 unfold lockP semi
 cases refP l k with
 | ok r k => show ((wantP l [59] k).bind _) = ((wantP l [59] k).bind _).bind _; cases wantP l [59] k <;> rfl
 | err a e => rfl
theorem wordAt_at {l : List Tok} {k : Nat} (hk : k < l.length) (u : List UInt8) : wordAt l k u = (decide (l[k].kind = 3) && decide (l[k].text = bytes u)) := by unfold wordAt; rw [tokAt_lt hk]
set_option maxRecDepth 100000 in
set_option maxHeartbeats 1600000 in
theorem localP_c (A B : List Box) (rw : List ORow) (P : Nat) (l : List Tok) (k dp e : Nat) (hok : TOk l) (hk : k < l.length) (he : e < 16) : ACall Tryz.prog 133 [.c (.val (.pointer (some ⟨P, 0, none⟩)))] [P] (PSt A B rw P l k dp e) (PAn A B rw P l dp (fun x => .agg (encS1 x)) e k (localP l k)) := by
 have hlen := hok.len
 refine acall_body Tryz.func133 rfl (Nat.le_of_ble_eq_true rfl) ?_
 show AWp Tryz.prog _ ⟨15, [P], ⟨A ++ ⟨P, 70, [.sl l.length (l.flatMap encT), .val (.int .i64 ((k : Nat) : Int)), .val (.int .i64 ((dp : Nat) : Int)), .val (.int .i64 ((e : Nat) : Int))]⟩ :: B, rw⟩, [(0, .c (.val (.pointer (some ⟨P, 0, none⟩))))]⟩ _
 refine go 8 fun b1 => ?_
 refine wcP rfl rfl rfl rfl Tryz.call101 rfl (nameP_c (_ :: A) _ _ _ l k dp e hok hk he) (by simp) (by simp [Sto.bl]) ?_
 rintro t1 s1 ⟨x1, k1, e1, rfl, hr1, hk1, he1, rfl⟩
 refine go 8 fun b2 => ?_
 refine wcP rfl rfl rfl rfl Tryz.call73 rfl (signP_c (_ :: _ :: A) _ _ _ l k1 dp e1 [61] hok hk1 he1) (by simp) (by simp [Sto.bl]) ?_
 rintro t2 s2 ⟨x2, k2, e2, rfl, hr2, hk2, he2, rfl⟩
 refine go 5 ?_
 refine wcP rfl rfl rfl rfl Tryz.call140 rfl (exprP_c (_ :: _ :: A) _ _ _ l k2 dp e2 hok hk2 he2) (by simp) (by simp [Sto.bl]) ?_
 rintro t3 s3 ⟨x3, k3, e3, rfl, hr3, hk3, he3, rfl⟩
 refine go 7 ?_
 refine wcP rfl rfl rfl rfl Tryz.call73 rfl (signP_c (_ :: _ :: A) _ _ _ l k3 dp e3 [59] hok hk3 he3) (by simp) (by simp [Sto.bl]) ?_
 rintro t4 s4 ⟨x4, k4, e4, rfl, hr4, hk4, he4, rfl⟩
 refine go 9 ?_
 have hs : Run e k (localP l k) (.mk 1 x1 x3 .zero [] [] []) k4 e4 := by
  unfold localP semi
  exact hr1.bind (hr2.bind (hr3.bind (hr4.bind (Run.pure _ _ _))))
 exact ⟨.inr rfl, _, (PSt A B rw P l (k4) (dp) (e4)), (res_wk (Wk.agg (.cons (WkC.refl _) (.cons (WkC.refl _) (.cons (WkC.refl _) (.cons (WkC.refl _) (.cons (WkC.refl _) (.cons (WkC.refl _) (.cons (WkC.refl _) (.cons wk_nil (.cons wk_nil (.cons wk_nil (.cons wk_nil .nil)))))))))))) (res_one rfl (resv_cell [_] rfl rfl Tryz.isAgg93 Tryz.sizeOf93 (pk_all rfl rfl)))), subS_of (.cons _ (.cons _ (.refl _))) (.refl _), ⟨(.mk 1 x1 x3 .zero [] [] []), k4, e4, rfl, hs, hk4, he4, rfl⟩⟩
set_option maxRecDepth 100000 in
set_option maxHeartbeats 1600000 in
theorem goP_c (A B : List Box) (rw : List ORow) (P : Nat) (l : List Tok) (k dp e : Nat) (hok : TOk l) (hk : k < l.length) (he : e < 16) : ACall Tryz.prog 134 [.c (.val (.pointer (some ⟨P, 0, none⟩)))] [P] (PSt A B rw P l k dp e) (PAn A B rw P l dp (fun x => .agg (encS1 x)) e k (goP l k)) := by
 have hlen := hok.len
 refine acall_body Tryz.func134 rfl (Nat.le_of_ble_eq_true rfl) ?_
 show AWp Tryz.prog _ ⟨13, [P], ⟨A ++ ⟨P, 70, [.sl l.length (l.flatMap encT), .val (.int .i64 ((k : Nat) : Int)), .val (.int .i64 ((dp : Nat) : Int)), .val (.int .i64 ((e : Nat) : Int))]⟩ :: B, rw⟩, [(0, .c (.val (.pointer (some ⟨P, 0, none⟩))))]⟩ _
 refine go 8 fun b1 => ?_
 refine wcP rfl rfl rfl rfl Tryz.call101 rfl (nameP_c (_ :: A) _ _ _ l k dp e hok hk he) (by simp) (by simp [Sto.bl]) ?_
 rintro t1 s1 ⟨x1, k1, e1, rfl, hr1, hk1, he1, rfl⟩
 refine go 8 fun b2 => ?_
 refine wcP rfl rfl rfl rfl Tryz.call141 rfl (argsP_c (_ :: _ :: A) _ _ _ l k1 dp e1 hok hk1 he1) (by simp) (by simp [Sto.bl]) ?_
 rintro t2 s2 ⟨x2, k2, e2, rfl, hr2, hk2, he2, rfl⟩
 refine go 7 ?_
 refine wcP rfl rfl rfl rfl Tryz.call73 rfl (signP_c (_ :: _ :: A) _ _ _ l k2 dp e2 [59] hok hk2 he2) (by simp) (by simp [Sto.bl]) ?_
 rintro t3 s3 ⟨x3, k3, e3, rfl, hr3, hk3, he3, rfl⟩
 refine go 9 ?_
 have hs : Run e k (goP l k) (.mk 4 x1 .zero .zero x2 [] []) k3 e3 := by
  unfold goP semi
  exact hr1.bind (hr2.bind (hr3.bind (Run.pure _ _ _)))
 exact ⟨.inr rfl, _, (PSt A B rw P l (k3) (dp) (e3)), (res_wk (Wk.agg (.cons (WkC.refl _) (.cons (WkC.refl _) (.cons (WkC.refl _) (.cons (WkC.refl _) (.cons (WkC.refl _) (.cons wk_nil (.cons (WkC.refl _) (.cons wk_nil (.cons (WkC.refl _) (.cons wk_nil (.cons wk_nil .nil)))))))))))) (res_one rfl (resv_cell [_] rfl rfl Tryz.isAgg93 Tryz.sizeOf93 (pk_all rfl rfl)))), subS_of (.cons _ (.cons _ (.refl _))) (.refl _), ⟨(.mk 4 x1 .zero .zero x2 [] []), k3, e3, rfl, hs, hk3, he3, rfl⟩⟩
set_option maxRecDepth 100000 in
set_option maxHeartbeats 1600000 in
theorem lockP_c (A B : List Box) (rw : List ORow) (P : Nat) (l : List Tok) (k dp e : Nat) (hok : TOk l) (hk : k < l.length) (he : e < 16) : ACall Tryz.prog 135 [.c (.val (.pointer (some ⟨P, 0, none⟩)))] [P] (PSt A B rw P l k dp e) (PAn A B rw P l dp (fun x => .agg (encS1 x)) e k (lockP l 5 k)) := by
 have hlen := hok.len
 refine acall_body Tryz.func135 rfl (Nat.le_of_ble_eq_true rfl) ?_
 show AWp Tryz.prog _ ⟨10, [P], ⟨A ++ ⟨P, 70, [.sl l.length (l.flatMap encT), .val (.int .i64 ((k : Nat) : Int)), .val (.int .i64 ((dp : Nat) : Int)), .val (.int .i64 ((e : Nat) : Int))]⟩ :: B, rw⟩, [(0, .c (.val (.pointer (some ⟨P, 0, none⟩))))]⟩ _
 refine go 8 fun b1 => ?_
 refine wcP rfl rfl rfl rfl Tryz.call159 rfl (refP_c (_ :: A) _ _ _ l k dp e hok hk he) (by simp) (by simp [Sto.bl]) ?_
 rintro t1 s1 ⟨x1, k1, e1, rfl, hr1, hk1, he1, rfl⟩
 refine go 8 fun b2 => ?_
 refine wcP rfl rfl rfl rfl Tryz.call73 rfl (signP_c (_ :: _ :: A) _ _ _ l k1 dp e1 [59] hok hk1 he1) (by simp) (by simp [Sto.bl]) ?_
 rintro t2 s2 ⟨x2, k2, e2, rfl, hr2, hk2, he2, rfl⟩
 refine go 9 ?_
 have hs : Run e k (lockP l 5 k) (.mk 5 emptyB .zero x1 [] [] []) k2 e2 := by
  unfold lockP semi
  exact hr1.bind (hr2.bind (Run.pure _ _ _))
 exact ⟨.inr rfl, _, (PSt A B rw P l (k2) (dp) (e2)), (res_wk (Wk.agg (.cons (WkC.refl _) (.cons (WkC.refl _) (.cons (WkC.refl _) (.cons (WkC.refl _) (.cons (WkC.refl _) (.cons wk_nil (.cons (WkC.refl _) (.cons (WkC.refl _) (.cons wk_nil (.cons wk_nil (.cons wk_nil .nil)))))))))))) (res_one rfl (resv_cell [_] rfl rfl Tryz.isAgg93 Tryz.sizeOf93 (pk_all rfl rfl)))), subS_of (.cons _ (.cons _ (.refl _))) (.refl _), ⟨(.mk 5 emptyB .zero x1 [] [] []), k2, e2, rfl, hs, hk2, he2, rfl⟩⟩
set_option maxRecDepth 100000 in
set_option maxHeartbeats 1600000 in
theorem whileP_c (A B : List Box) (rw : List ORow) (P : Nat) (l : List Tok) (k dp e : Nat) (blk : Nat → PRes (List AStmt)) (hblk : ∀ (A B : List Box) (rw : List ORow) (P k e : Nat), k < l.length → e < 16 → ACall Tryz.prog 44 [.c (.val (.pointer (some ⟨P, 0, none⟩)))] [P] (PSt A B rw P l k dp e) (PAn A B rw P l dp (fun x => .c (.sl x.length (x.flatMap encS))) e k (blk k))) (hok : TOk l) (hk : k < l.length) (he : e < 16) : ACall Tryz.prog 138 [.c (.val (.pointer (some ⟨P, 0, none⟩)))] [P] (PSt A B rw P l k dp e) (PAn A B rw P l dp (fun x => .agg (encS1 x)) e k (whileP l blk k)) := by
 have hlen := hok.len
 refine acall_body Tryz.func138 rfl (Nat.le_of_ble_eq_true rfl) ?_
 show AWp Tryz.prog _ ⟨11, [P], ⟨A ++ ⟨P, 70, [.sl l.length (l.flatMap encT), .val (.int .i64 ((k : Nat) : Int)), .val (.int .i64 ((dp : Nat) : Int)), .val (.int .i64 ((e : Nat) : Int))]⟩ :: B, rw⟩, [(0, .c (.val (.pointer (some ⟨P, 0, none⟩))))]⟩ _
 refine go 8 fun b1 => ?_
 refine wcP rfl rfl rfl rfl Tryz.call140 rfl (exprP_c (_ :: A) _ _ _ l k dp e hok hk he) (by simp) (by simp [Sto.bl]) ?_
 rintro t1 s1 ⟨x1, k1, e1, rfl, hr1, hk1, he1, rfl⟩
 refine go 8 fun b2 => ?_
 refine wcP rfl rfl rfl rfl Tryz.call44 rfl (hblk (_ :: _ :: A) _ _ _ k1 e1 hk1 he1) (by simp) (by simp [Sto.bl]) ?_
 rintro t2 s2 ⟨x2, k2, e2, rfl, hr2, hk2, he2, rfl⟩
 refine go 11 ?_
 have hs : Run e k (whileP l blk k) (.mk 8 emptyB x1 .zero [] x2 []) k2 e2 := by
  unfold whileP
  exact hr1.bind (hr2.bind (Run.pure _ _ _))
 exact ⟨.inr rfl, _, (PSt A B rw P l (k2) (dp) (e2)), (res_wk (Wk.agg (.cons (WkC.refl _) (.cons (WkC.refl _) (.cons (WkC.refl _) (.cons (WkC.refl _) (.cons (WkC.refl _) (.cons (WkC.refl _) (.cons (WkC.refl _) (.cons wk_nil (.cons wk_nil (.cons (WkC.refl _) (.cons wk_nil .nil)))))))))))) (res_one rfl (resv_cell [_] rfl rfl Tryz.isAgg93 Tryz.sizeOf93 (pk_all rfl rfl)))), subS_of (.cons _ (.cons _ (.refl _))) (.refl _), ⟨(.mk 8 emptyB x1 .zero [] x2 []), k2, e2, rfl, hs, hk2, he2, rfl⟩⟩
set_option maxRecDepth 100000 in
set_option maxHeartbeats 1600000 in
theorem retP_c (A B : List Box) (rw : List ORow) (P : Nat) (l : List Tok) (k dp e : Nat) (hok : TOk l) (hk : k < l.length) (he : e < 16) : ACall Tryz.prog 139 [.c (.val (.pointer (some ⟨P, 0, none⟩)))] [P] (PSt A B rw P l k dp e) (PAn A B rw P l dp (fun x => .agg (encS1 x)) e k (retP l k)) := by
 have hlen := hok.len
 refine acall_body Tryz.func139 rfl (Nat.le_of_ble_eq_true rfl) ?_
 show AWp Tryz.prog _ ⟨6, [P], ⟨A ++ ⟨P, 70, [.sl l.length (l.flatMap encT), .val (.int .i64 ((k : Nat) : Int)), .val (.int .i64 ((dp : Nat) : Int)), .val (.int .i64 ((e : Nat) : Int))]⟩ :: B, rw⟩, [(0, .c (.val (.pointer (some ⟨P, 0, none⟩))))]⟩ _
 refine go 8 fun b1 => ?_
 refine wcP rfl rfl rfl rfl Tryz.call73 rfl (signP_c (_ :: A) _ _ _ l k dp e [59] hok hk he) (by simp) (by simp [Sto.bl]) ?_
 rintro t1 s1 ⟨x1, k1, e1, rfl, hr1, hk1, he1, rfl⟩
 refine go 9 ?_
 have hs : Run e k (retP l k) (.mk 9 emptyB .zero .zero [] [] []) k1 e1 := by
  unfold retP semi
  exact hr1.bind (Run.pure _ _ _)
 exact ⟨.inr rfl, _, (PSt A B rw P l (k1) (dp) (e1)), (res_wk (Wk.agg (.cons (WkC.refl _) (.cons (WkC.refl _) (.cons (WkC.refl _) (.cons (WkC.refl _) (.cons (WkC.refl _) (.cons wk_nil (.cons (WkC.refl _) (.cons wk_nil (.cons wk_nil (.cons wk_nil (.cons wk_nil .nil)))))))))))) (res_one rfl (resv_cell [] rfl rfl Tryz.isAgg93 Tryz.sizeOf93 (pk_all rfl rfl)))), subS_of (.cons _ (.refl _)) (.refl _), ⟨(.mk 9 emptyB .zero .zero [] [] []), k1, e1, rfl, hs, hk1, he1, rfl⟩⟩
set_option maxRecDepth 100000 in
set_option maxHeartbeats 1600000 in
theorem ifP_c (A B : List Box) (rw : List ORow) (P : Nat) (l : List Tok) (k dp e : Nat) (blk : Nat → PRes (List AStmt)) (hblk : ∀ (A B : List Box) (rw : List ORow) (P k e : Nat), k < l.length → e < 16 → ACall Tryz.prog 44 [.c (.val (.pointer (some ⟨P, 0, none⟩)))] [P] (PSt A B rw P l k dp e) (PAn A B rw P l dp (fun x => .c (.sl x.length (x.flatMap encS))) e k (blk k))) (hok : TOk l) (hk : k < l.length) (he : e < 16) : ACall Tryz.prog 137 [.c (.val (.pointer (some ⟨P, 0, none⟩)))] [P] (PSt A B rw P l k dp e) (PAn A B rw P l dp (fun x => .agg (encS1 x)) e k (ifP l blk k)) := by
 have hlen := hok.len
 refine acall_body Tryz.func137 rfl (Nat.le_of_ble_eq_true rfl) ?_
 show AWp Tryz.prog _ ⟨16, [P], ⟨A ++ ⟨P, 70, [.sl l.length (l.flatMap encT), .val (.int .i64 ((k : Nat) : Int)), .val (.int .i64 ((dp : Nat) : Int)), .val (.int .i64 ((e : Nat) : Int))]⟩ :: B, rw⟩, [(0, .c (.val (.pointer (some ⟨P, 0, none⟩))))]⟩ _
 refine go 8 fun b1 => ?_
 refine wcP rfl rfl rfl rfl Tryz.call140 rfl (exprP_c (_ :: A) _ _ _ l k dp e hok hk he) (by simp) (by simp [Sto.bl]) ?_
 rintro t1 s1 ⟨x1, k1, e1, rfl, hr1, hk1, he1, rfl⟩
 refine go 8 fun b2 => ?_
 refine wcP rfl rfl rfl rfl Tryz.call44 rfl (hblk (_ :: _ :: A) _ _ _ k1 e1 hk1 he1) (by simp) (by simp [Sto.bl]) ?_
 rintro t2 s2 ⟨x2, k2, e2, rfl, hr2, hk2, he2, rfl⟩
 refine go 8 ?_
 refine wcP rfl rfl rfl rfl Tryz.call105 rfl (word_c (_ :: _ :: A) _ _ _ l k2 dp e2 [101, 108, 115, 101] hok hk2) (by simp) (by simp [Sto.bl]) ?_
 rintro t3 s3 (⟨rfl, ha3, hm3, rfl, rfl⟩ | ⟨ha3, rfl, rfl⟩)
 ·refine go 5 ?_
  refine wcP rfl rfl rfl rfl Tryz.call44 rfl (hblk (_ :: _ :: A) _ _ _ (k2 + 1) 0 hm3 (by decide)) (by simp) (by simp [Sto.bl]) ?_
  rintro t5 s5 ⟨x5, k5, e5, rfl, hr5, hk5, he5, rfl⟩
  refine go 11 ?_
  have hs : Run e k (ifP l blk k) (.mk 7 emptyB x1 .zero [] x2 x5) k5 e5 := by
   unfold ifP
   exact hr1.bind (hr2.bind (by unfold elseP; rw [if_pos ha3]; exact Run.from (hr5.map (f := fun f => AStmt.mk 7 emptyB x1 .zero [] x2 f))))
  exact ⟨.inr rfl, _, (PSt A B rw P l (k5) (dp) (e5)), (res_wk (Wk.agg (.cons (WkC.refl _) (.cons (WkC.refl _) (.cons (WkC.refl _) (.cons (WkC.refl _) (.cons (WkC.refl _) (.cons (WkC.refl _) (.cons (WkC.refl _) (.cons wk_nil (.cons wk_nil (.cons (WkC.refl _) (.cons (WkC.refl _) .nil)))))))))))) (res_one rfl (resv_cell [_] rfl rfl Tryz.isAgg93 Tryz.sizeOf93 (pk_all rfl rfl)))), subS_of (.cons _ (.cons _ (.refl _))) (.refl _), ⟨(.mk 7 emptyB x1 .zero [] x2 x5), k5, e5, rfl, hs, hk5, he5, rfl⟩⟩
 ·refine go 12 ?_
  have hs : Run e k (ifP l blk k) (.mk 7 emptyB x1 .zero [] x2 []) k2 e2 := by
   unfold ifP
   exact hr1.bind (hr2.bind ((Run.pure _ _ _).eq fun h => by unfold elseP; rw [if_neg (by rw [ha3 h]; decide)]))
  exact ⟨.inr rfl, _, (PSt A B rw P l (k2) (dp) (e2)), (res_wk (Wk.agg (.cons (WkC.refl _) (.cons (WkC.refl _) (.cons (WkC.refl _) (.cons (WkC.refl _) (.cons (WkC.refl _) (.cons (WkC.refl _) (.cons (WkC.refl _) (.cons wk_nil (.cons wk_nil (.cons (WkC.refl _) (.cons wk_nil .nil)))))))))))) (res_one rfl (resv_cell [_] rfl rfl Tryz.isAgg93 Tryz.sizeOf93 (pk_all rfl rfl)))), subS_of (.cons _ (.cons _ (.refl _))) (.refl _), ⟨(.mk 7 emptyB x1 .zero [] x2 []), k2, e2, rfl, hs, hk2, he2, rfl⟩⟩
set_option maxRecDepth 100000 in
set_option maxHeartbeats 1600000 in
theorem namedP_c (A B : List Box) (rw : List ORow) (P : Nat) (l : List Tok) (k dp e : Nat) (hok : TOk l) (hk : k < l.length) (he : e < 16) : ACall Tryz.prog 107 [.c (.val (.pointer (some ⟨P, 0, none⟩)))] [P] (PSt A B rw P l k dp e) (PAn A B rw P l dp (fun x => .agg (encS1 x)) e k (namedP l k)) := by
 have hlen := hok.len
 refine acall_body Tryz.func107 rfl (Nat.le_of_ble_eq_true rfl) ?_
 show AWp Tryz.prog _ ⟨19, [P], ⟨A ++ ⟨P, 70, [.sl l.length (l.flatMap encT), .val (.int .i64 ((k : Nat) : Int)), .val (.int .i64 ((dp : Nat) : Int)), .val (.int .i64 ((e : Nat) : Int))]⟩ :: B, rw⟩, [(0, .c (.val (.pointer (some ⟨P, 0, none⟩))))]⟩ _
 refine go 8 fun b1 => ?_
 refine wcP rfl rfl rfl rfl Tryz.call101 rfl (nameP_c (_ :: A) _ _ _ l k dp e hok hk he) (by simp) (by simp [Sto.bl]) ?_
 rintro t1 s1 ⟨x1, k1, e1, rfl, hr1, hk1, he1, rfl⟩
 refine go 9 fun b2 => ?_
 refine wcP rfl rfl rfl rfl Tryz.call74 rfl (accept_c (_ :: _ :: A) _ _ _ l k1 dp e1 [61] hok hk1) (by simp) (by simp [Sto.bl]) ?_
 rintro t2 s2 (⟨rfl, ha2, hm2, rfl, rfl⟩ | ⟨ha2, rfl, rfl⟩)
 ·refine go 5 ?_
  refine wcP rfl rfl rfl rfl Tryz.call140 rfl (exprP_c (_ :: _ :: A) _ _ _ l (k1 + 1) dp 0 hok hm2 (by decide)) (by simp) (by simp [Sto.bl]) ?_
  rintro t4 s4 ⟨x4, k4, e4, rfl, hr4, hk4, he4, rfl⟩
  refine go 9 ?_
  refine wcP rfl rfl rfl rfl Tryz.call73 rfl (signP_c (_ :: _ :: A) _ _ _ l k4 dp e4 [59] hok hk4 he4) (by simp) (by simp [Sto.bl]) ?_
  rintro t5 s5 ⟨x5, k5, e5, rfl, hr5, hk5, he5, rfl⟩
  refine go 9 ?_
  have hs : Run e k (namedP l k) (.mk 2 x1 x4 .zero [] [] []) k5 e5 := by
   unfold namedP
   exact hr1.bind (by unfold namedTail; rw [if_pos ha2]; unfold semi; exact Run.from (hr4.bind (hr5.bind (Run.pure _ _ _))))
  exact ⟨.inr rfl, _, (PSt A B rw P l (k5) (dp) (e5)), (res_wk (Wk.agg (.cons (WkC.refl _) (.cons (WkC.refl _) (.cons (WkC.refl _) (.cons (WkC.refl _) (.cons (WkC.refl _) (.cons (WkC.refl _) (.cons (WkC.refl _) (.cons wk_nil (.cons wk_nil (.cons wk_nil (.cons wk_nil .nil)))))))))))) (res_one rfl (resv_cell [_] rfl rfl Tryz.isAgg93 Tryz.sizeOf93 (pk_all rfl rfl)))), subS_of (.cons _ (.cons _ (.refl _))) (.refl _), ⟨(.mk 2 x1 x4 .zero [] [] []), k5, e5, rfl, hs, hk5, he5, rfl⟩⟩
 ·refine go 5 ?_
  refine wcP rfl rfl rfl rfl Tryz.call141 rfl (argsP_c (_ :: _ :: A) _ _ _ l k1 dp e1 hok hk1 he1) (by simp) (by simp [Sto.bl]) ?_
  rintro t7 s7 ⟨x7, k7, e7, rfl, hr7, hk7, he7, rfl⟩
  refine go 7 ?_
  refine wcP rfl rfl rfl rfl Tryz.call73 rfl (signP_c (_ :: _ :: A) _ _ _ l k7 dp e7 [59] hok hk7 he7) (by simp) (by simp [Sto.bl]) ?_
  rintro t8 s8 ⟨x8, k8, e8, rfl, hr8, hk8, he8, rfl⟩
  refine go 9 ?_
  have hs : Run e k (namedP l k) (.mk 3 x1 .zero .zero x7 [] []) k8 e8 := by
   unfold namedP
   exact hr1.bind (Run.eq (r := (argsP l _).bind fun a k => semi l (.mk 3 x1 .zero .zero a [] []) k) (by unfold semi; exact hr7.bind (hr8.bind (Run.pure _ _ _))) fun h => by unfold namedTail; rw [if_neg (by rw [ha2 h]; decide)])
  exact ⟨.inr rfl, _, (PSt A B rw P l (k8) (dp) (e8)), (res_wk (Wk.agg (.cons (WkC.refl _) (.cons (WkC.refl _) (.cons (WkC.refl _) (.cons (WkC.refl _) (.cons (WkC.refl _) (.cons wk_nil (.cons (WkC.refl _) (.cons wk_nil (.cons (WkC.refl _) (.cons wk_nil (.cons wk_nil .nil)))))))))))) (res_one rfl (resv_cell [_] rfl rfl Tryz.isAgg93 Tryz.sizeOf93 (pk_all rfl rfl)))), subS_of (.cons _ (.cons _ (.refl _))) (.refl _), ⟨(.mk 3 x1 .zero .zero x7 [] []), k8, e8, rfl, hs, hk8, he8, rfl⟩⟩
set_option maxRecDepth 100000 in
set_option maxHeartbeats 1600000 in
theorem unlockP_c (A B : List Box) (rw : List ORow) (P : Nat) (l : List Tok) (k dp e : Nat) (hok : TOk l) (hk : k < l.length) (he : e < 16) : ACall Tryz.prog 136 [.c (.val (.pointer (some ⟨P, 0, none⟩)))] [P] (PSt A B rw P l k dp e) (PAn A B rw P l dp (fun x => .agg (encS1 x)) e k (lockP l 6 k)) := by
 have hlen := hok.len
 refine acall_body Tryz.func136 rfl (Nat.le_of_ble_eq_true rfl) ?_
 show AWp Tryz.prog _ ⟨8, [P], ⟨A ++ ⟨P, 70, [.sl l.length (l.flatMap encT), .val (.int .i64 ((k : Nat) : Int)), .val (.int .i64 ((dp : Nat) : Int)), .val (.int .i64 ((e : Nat) : Int))]⟩ :: B, rw⟩, [(0, .c (.val (.pointer (some ⟨P, 0, none⟩))))]⟩ _
 refine go 8 fun b1 => ?_
 refine wcP rfl rfl rfl rfl Tryz.call135 rfl (lockP_c (_ :: A) _ _ _ l k dp e hok hk he) (by simp) (by simp [Sto.bl]) ?_
 rintro t1 s1 ⟨x1, k1, e1, rfl, hr1, hk1, he1, rfl⟩
 obtain ⟨kd1, nn1, ee1, rr1, aa1, tt1, ff1⟩ := x1
 refine go 17 fun b2 => ?_
 exact ⟨.inr rfl, _, (PSt A B rw P l (k1) (dp) (e1)), (res_one rfl (resv_cell [_] rfl rfl Tryz.isAgg93 Tryz.sizeOf93 (pk_all rfl rfl))), subS_of (.cons _ (.cons _ (.refl _))) (.refl _), ⟨(.mk 6 nn1 ee1 rr1 aa1 tt1 ff1), k1, e1, rfl, by rw [lock_six]; exact hr1.map (f := six), hk1, he1, rfl⟩⟩
set_option maxRecDepth 100000 in
set_option maxHeartbeats 1600000 in
theorem reader_0 (P : Nat) (t : ByteArray) (ht : t = bytes [118, 97, 114]) (s : Sto) : ACall Tryz.prog 106 [.c (.val (.pointer (some ⟨P, 0, none⟩))), .c (.val (.string t))] [] s fun r s' => r = .c (.val (.func (.func 133) #[.pointer (some ⟨P, 0, none⟩)] #[])) ∧ s' = s := by
 obtain ⟨bx, rw⟩ := s
 refine acall_body Tryz.func106 rfl (Nat.le_of_ble_eq_true rfl) ?_
 show AWp Tryz.prog _ ⟨34, [], ⟨bx, rw⟩, [(0, .c (.val (.pointer (some ⟨P, 0, none⟩)))), (1, .c (.val (.string t)))]⟩ _
 refine go 14 ?_
 refine wyy rfl rfl rfl (ay_streq true rfl rfl rfl (by subst ht; kernel_rfl)) ?_
 refine go 7 ?_
 refine wyy rfl rfl rfl (ay_makeFuncB rfl (vs := [.pointer (some ⟨P, 0, none⟩)]) rfl) ?_
 refine go 6 ?_
 exact ⟨.inr rfl, _, ⟨bx, rw⟩, res_one rfl (resv_tmp rfl), subS_of (.refl _) (.refl _), rfl, rfl⟩
set_option maxRecDepth 100000 in
set_option maxHeartbeats 1600000 in
theorem reader_1 (P : Nat) (t : ByteArray) (ht : t = bytes [103, 111]) (s : Sto) : ACall Tryz.prog 106 [.c (.val (.pointer (some ⟨P, 0, none⟩))), .c (.val (.string t))] [] s fun r s' => r = .c (.val (.func (.func 134) #[.pointer (some ⟨P, 0, none⟩)] #[])) ∧ s' = s := by
 obtain ⟨bx, rw⟩ := s
 refine acall_body Tryz.func106 rfl (Nat.le_of_ble_eq_true rfl) ?_
 show AWp Tryz.prog _ ⟨34, [], ⟨bx, rw⟩, [(0, .c (.val (.pointer (some ⟨P, 0, none⟩)))), (1, .c (.val (.string t)))]⟩ _
 refine go 14 ?_
 refine wyy rfl rfl rfl (ay_streq false rfl rfl rfl (by subst ht; kernel_rfl)) ?_
 refine go 6 ?_
 refine wyy rfl rfl rfl (ay_streq true rfl rfl rfl (by subst ht; kernel_rfl)) ?_
 refine go 7 ?_
 refine wyy rfl rfl rfl (ay_makeFuncB rfl (vs := [.pointer (some ⟨P, 0, none⟩)]) rfl) ?_
 refine go 6 ?_
 exact ⟨.inr rfl, _, ⟨bx, rw⟩, res_one rfl (resv_tmp rfl), subS_of (.refl _) (.refl _), rfl, rfl⟩
set_option maxRecDepth 100000 in
set_option maxHeartbeats 1600000 in
theorem reader_2 (P : Nat) (t : ByteArray) (ht : t = bytes [108, 111, 99, 107]) (s : Sto) : ACall Tryz.prog 106 [.c (.val (.pointer (some ⟨P, 0, none⟩))), .c (.val (.string t))] [] s fun r s' => r = .c (.val (.func (.func 135) #[.pointer (some ⟨P, 0, none⟩)] #[])) ∧ s' = s := by
 obtain ⟨bx, rw⟩ := s
 refine acall_body Tryz.func106 rfl (Nat.le_of_ble_eq_true rfl) ?_
 show AWp Tryz.prog _ ⟨34, [], ⟨bx, rw⟩, [(0, .c (.val (.pointer (some ⟨P, 0, none⟩)))), (1, .c (.val (.string t)))]⟩ _
 refine go 14 ?_
 refine wyy rfl rfl rfl (ay_streq false rfl rfl rfl (by subst ht; kernel_rfl)) ?_
 refine go 6 ?_
 refine wyy rfl rfl rfl (ay_streq false rfl rfl rfl (by subst ht; kernel_rfl)) ?_
 refine go 6 ?_
 refine wyy rfl rfl rfl (ay_streq true rfl rfl rfl (by subst ht; kernel_rfl)) ?_
 refine go 7 ?_
 refine wyy rfl rfl rfl (ay_makeFuncB rfl (vs := [.pointer (some ⟨P, 0, none⟩)]) rfl) ?_
 refine go 6 ?_
 exact ⟨.inr rfl, _, ⟨bx, rw⟩, res_one rfl (resv_tmp rfl), subS_of (.refl _) (.refl _), rfl, rfl⟩
set_option maxRecDepth 100000 in
set_option maxHeartbeats 1600000 in
theorem reader_3 (P : Nat) (t : ByteArray) (ht : t = bytes [117, 110, 108, 111, 99, 107]) (s : Sto) : ACall Tryz.prog 106 [.c (.val (.pointer (some ⟨P, 0, none⟩))), .c (.val (.string t))] [] s fun r s' => r = .c (.val (.func (.func 136) #[.pointer (some ⟨P, 0, none⟩)] #[])) ∧ s' = s := by
 obtain ⟨bx, rw⟩ := s
 refine acall_body Tryz.func106 rfl (Nat.le_of_ble_eq_true rfl) ?_
 show AWp Tryz.prog _ ⟨34, [], ⟨bx, rw⟩, [(0, .c (.val (.pointer (some ⟨P, 0, none⟩)))), (1, .c (.val (.string t)))]⟩ _
 refine go 14 ?_
 refine wyy rfl rfl rfl (ay_streq false rfl rfl rfl (by subst ht; kernel_rfl)) ?_
 refine go 6 ?_
 refine wyy rfl rfl rfl (ay_streq false rfl rfl rfl (by subst ht; kernel_rfl)) ?_
 refine go 6 ?_
 refine wyy rfl rfl rfl (ay_streq false rfl rfl rfl (by subst ht; kernel_rfl)) ?_
 refine go 6 ?_
 refine wyy rfl rfl rfl (ay_streq true rfl rfl rfl (by subst ht; kernel_rfl)) ?_
 refine go 7 ?_
 refine wyy rfl rfl rfl (ay_makeFuncB rfl (vs := [.pointer (some ⟨P, 0, none⟩)]) rfl) ?_
 refine go 6 ?_
 exact ⟨.inr rfl, _, ⟨bx, rw⟩, res_one rfl (resv_tmp rfl), subS_of (.refl _) (.refl _), rfl, rfl⟩
set_option maxRecDepth 100000 in
set_option maxHeartbeats 1600000 in
theorem reader_4 (P : Nat) (t : ByteArray) (ht : t = bytes [105, 102]) (s : Sto) : ACall Tryz.prog 106 [.c (.val (.pointer (some ⟨P, 0, none⟩))), .c (.val (.string t))] [] s fun r s' => r = .c (.val (.func (.func 137) #[.pointer (some ⟨P, 0, none⟩)] #[])) ∧ s' = s := by
 obtain ⟨bx, rw⟩ := s
 refine acall_body Tryz.func106 rfl (Nat.le_of_ble_eq_true rfl) ?_
 show AWp Tryz.prog _ ⟨34, [], ⟨bx, rw⟩, [(0, .c (.val (.pointer (some ⟨P, 0, none⟩)))), (1, .c (.val (.string t)))]⟩ _
 refine go 14 ?_
 refine wyy rfl rfl rfl (ay_streq false rfl rfl rfl (by subst ht; kernel_rfl)) ?_
 refine go 6 ?_
 refine wyy rfl rfl rfl (ay_streq false rfl rfl rfl (by subst ht; kernel_rfl)) ?_
 refine go 6 ?_
 refine wyy rfl rfl rfl (ay_streq false rfl rfl rfl (by subst ht; kernel_rfl)) ?_
 refine go 6 ?_
 refine wyy rfl rfl rfl (ay_streq false rfl rfl rfl (by subst ht; kernel_rfl)) ?_
 refine go 6 ?_
 refine wyy rfl rfl rfl (ay_streq true rfl rfl rfl (by subst ht; kernel_rfl)) ?_
 refine go 7 ?_
 refine wyy rfl rfl rfl (ay_makeFuncB rfl (vs := [.pointer (some ⟨P, 0, none⟩)]) rfl) ?_
 refine go 6 ?_
 exact ⟨.inr rfl, _, ⟨bx, rw⟩, res_one rfl (resv_tmp rfl), subS_of (.refl _) (.refl _), rfl, rfl⟩
set_option maxRecDepth 100000 in
set_option maxHeartbeats 1600000 in
theorem reader_5 (P : Nat) (t : ByteArray) (ht : t = bytes [119, 104, 105, 108, 101]) (s : Sto) : ACall Tryz.prog 106 [.c (.val (.pointer (some ⟨P, 0, none⟩))), .c (.val (.string t))] [] s fun r s' => r = .c (.val (.func (.func 138) #[.pointer (some ⟨P, 0, none⟩)] #[])) ∧ s' = s := by
 obtain ⟨bx, rw⟩ := s
 refine acall_body Tryz.func106 rfl (Nat.le_of_ble_eq_true rfl) ?_
 show AWp Tryz.prog _ ⟨34, [], ⟨bx, rw⟩, [(0, .c (.val (.pointer (some ⟨P, 0, none⟩)))), (1, .c (.val (.string t)))]⟩ _
 refine go 14 ?_
 refine wyy rfl rfl rfl (ay_streq false rfl rfl rfl (by subst ht; kernel_rfl)) ?_
 refine go 6 ?_
 refine wyy rfl rfl rfl (ay_streq false rfl rfl rfl (by subst ht; kernel_rfl)) ?_
 refine go 6 ?_
 refine wyy rfl rfl rfl (ay_streq false rfl rfl rfl (by subst ht; kernel_rfl)) ?_
 refine go 6 ?_
 refine wyy rfl rfl rfl (ay_streq false rfl rfl rfl (by subst ht; kernel_rfl)) ?_
 refine go 6 ?_
 refine wyy rfl rfl rfl (ay_streq false rfl rfl rfl (by subst ht; kernel_rfl)) ?_
 refine go 6 ?_
 refine wyy rfl rfl rfl (ay_streq true rfl rfl rfl (by subst ht; kernel_rfl)) ?_
 refine go 7 ?_
 refine wyy rfl rfl rfl (ay_makeFuncB rfl (vs := [.pointer (some ⟨P, 0, none⟩)]) rfl) ?_
 refine go 6 ?_
 exact ⟨.inr rfl, _, ⟨bx, rw⟩, res_one rfl (resv_tmp rfl), subS_of (.refl _) (.refl _), rfl, rfl⟩
set_option maxRecDepth 100000 in
set_option maxHeartbeats 1600000 in
theorem reader_6 (P : Nat) (t : ByteArray) (ht : t = bytes [114, 101, 116, 117, 114, 110]) (s : Sto) : ACall Tryz.prog 106 [.c (.val (.pointer (some ⟨P, 0, none⟩))), .c (.val (.string t))] [] s fun r s' => r = .c (.val (.func (.func 139) #[.pointer (some ⟨P, 0, none⟩)] #[])) ∧ s' = s := by
 obtain ⟨bx, rw⟩ := s
 refine acall_body Tryz.func106 rfl (Nat.le_of_ble_eq_true rfl) ?_
 show AWp Tryz.prog _ ⟨34, [], ⟨bx, rw⟩, [(0, .c (.val (.pointer (some ⟨P, 0, none⟩)))), (1, .c (.val (.string t)))]⟩ _
 refine go 14 ?_
 refine wyy rfl rfl rfl (ay_streq false rfl rfl rfl (by subst ht; kernel_rfl)) ?_
 refine go 6 ?_
 refine wyy rfl rfl rfl (ay_streq false rfl rfl rfl (by subst ht; kernel_rfl)) ?_
 refine go 6 ?_
 refine wyy rfl rfl rfl (ay_streq false rfl rfl rfl (by subst ht; kernel_rfl)) ?_
 refine go 6 ?_
 refine wyy rfl rfl rfl (ay_streq false rfl rfl rfl (by subst ht; kernel_rfl)) ?_
 refine go 6 ?_
 refine wyy rfl rfl rfl (ay_streq false rfl rfl rfl (by subst ht; kernel_rfl)) ?_
 refine go 6 ?_
 refine wyy rfl rfl rfl (ay_streq false rfl rfl rfl (by subst ht; kernel_rfl)) ?_
 refine go 6 ?_
 refine wyy rfl rfl rfl (ay_streq true rfl rfl rfl (by subst ht; kernel_rfl)) ?_
 refine go 7 ?_
 refine wyy rfl rfl rfl (ay_makeFuncB rfl (vs := [.pointer (some ⟨P, 0, none⟩)]) rfl) ?_
 refine go 6 ?_
 exact ⟨.inr rfl, _, ⟨bx, rw⟩, res_one rfl (resv_tmp rfl), subS_of (.refl _) (.refl _), rfl, rfl⟩
set_option maxRecDepth 100000 in
set_option maxHeartbeats 1600000 in
theorem reader_no (P : Nat) (t : ByteArray) (h0 : ¬ t = bytes [118, 97, 114]) (h1 : ¬ t = bytes [103, 111]) (h2 : ¬ t = bytes [108, 111, 99, 107]) (h3 : ¬ t = bytes [117, 110, 108, 111, 99, 107]) (h4 : ¬ t = bytes [105, 102]) (h5 : ¬ t = bytes [119, 104, 105, 108, 101]) (h6 : ¬ t = bytes [114, 101, 116, 117, 114, 110]) (s : Sto) : ACall Tryz.prog 106 [.c (.val (.pointer (some ⟨P, 0, none⟩))), .c (.val (.string t))] [] s fun r s' => r = .c (.val (.nilFunc)) ∧ s' = s := by
 obtain ⟨bx, rw⟩ := s
 refine acall_body Tryz.func106 rfl (Nat.le_of_ble_eq_true rfl) ?_
 show AWp Tryz.prog _ ⟨34, [], ⟨bx, rw⟩, [(0, .c (.val (.pointer (some ⟨P, 0, none⟩)))), (1, .c (.val (.string t)))]⟩ _
 refine go 14 ?_
 refine wyy rfl rfl rfl (ay_streq false rfl rfl rfl (by show some (decide (t = bytes [118, 97, 114])) = some false; rw [decide_eq_false h0])) ?_
 refine go 6 ?_
 refine wyy rfl rfl rfl (ay_streq false rfl rfl rfl (by show some (decide (t = bytes [103, 111])) = some false; rw [decide_eq_false h1])) ?_
 refine go 6 ?_
 refine wyy rfl rfl rfl (ay_streq false rfl rfl rfl (by show some (decide (t = bytes [108, 111, 99, 107])) = some false; rw [decide_eq_false h2])) ?_
 refine go 6 ?_
 refine wyy rfl rfl rfl (ay_streq false rfl rfl rfl (by show some (decide (t = bytes [117, 110, 108, 111, 99, 107])) = some false; rw [decide_eq_false h3])) ?_
 refine go 6 ?_
 refine wyy rfl rfl rfl (ay_streq false rfl rfl rfl (by show some (decide (t = bytes [105, 102])) = some false; rw [decide_eq_false h4])) ?_
 refine go 6 ?_
 refine wyy rfl rfl rfl (ay_streq false rfl rfl rfl (by show some (decide (t = bytes [119, 104, 105, 108, 101])) = some false; rw [decide_eq_false h5])) ?_
 refine go 6 ?_
 refine wyy rfl rfl rfl (ay_streq false rfl rfl rfl (by show some (decide (t = bytes [114, 101, 116, 117, 114, 110])) = some false; rw [decide_eq_false h6])) ?_
 refine go 13 ?_
 exact ⟨.inr rfl, _, ⟨bx, rw⟩, res_one rfl (resv_tmp rfl), subS_of (.refl _) (.refl _), rfl, rfl⟩
set_option maxRecDepth 100000 in
set_option maxHeartbeats 1600000 in
theorem stmtP_0 (A B : List Box) (rw : List ORow) (P : Nat) (l : List Tok) (k dp : Nat) (blk : Nat → PRes (List AStmt)) (hblk : ∀ (A B : List Box) (rw : List ORow) (P k e : Nat), k < l.length → e < 16 → ACall Tryz.prog 44 [.c (.val (.pointer (some ⟨P, 0, none⟩)))] [P] (PSt A B rw P l k dp e) (PAn A B rw P l dp (fun x => .c (.sl x.length (x.flatMap encS))) e k (blk k))) (hok : TOk l) (hk : k < l.length) (hk3 : l[k].kind = 3) (ht : l[k].text = bytes [118, 97, 114]) : ACall Tryz.prog 75 [.c (.val (.pointer (some ⟨P, 0, none⟩)))] [P] (PSt A B rw P l k dp 0) (PAn A B rw P l dp (fun x => .agg (encS1 x)) 0 k (stmtP l blk k)) := by
 have hlen := hok.len
 have he : (0 : Nat) < 16 := by decide
 refine acall_body Tryz.func75 rfl (Nat.le_of_ble_eq_true rfl) ?_
 show AWp Tryz.prog _ ⟨42, [P], ⟨A ++ ⟨P, 70, [.sl l.length (l.flatMap encT), .val (.int .i64 ((k : Nat) : Int)), .val (.int .i64 ((dp : Nat) : Int)), .val (.int .i64 ((0 : Nat) : Int))]⟩ :: B, rw⟩, [(0, .c (.val (.pointer (some ⟨P, 0, none⟩))))]⟩ _
 refine go 7 fun b1 => ?_
 refine aw_region_drew [b1, P] (by kernel_rfl) ?_
 refine tks [(0, true), (1, true), (2, true), (3, true), (4, true), (5, true), (6, true), (7, true)] 4 (by kernel_rfl) ?_
 refine go 9 ?_
 refine tq 8 (by kernel_rfl) rfl rfl rfl rfl (ay_ix encT encT l encT_len (fun _ => rfl) (k) rfl rfl rfl rfl hk (by decide) Tryz.runUnderlying47 Tryz.sizeOf72) ?_
 refine tks [(9, true), (10, true)] 1 (by kernel_rfl) ?_
 refine go 3 ?_
 refine tq 11 (by kernel_rfl) rfl rfl rfl rfl (ay_cmp true rfl rfl rfl (by rw [hk3]; rfl)) ?_
 refine any_done (by kernel_rfl) ?_
 refine go 3 ?_
 refine aw_region_drew [b1, P] (by kernel_rfl) ?_
 refine tks [(0, true), (1, true), (2, true), (3, true), (4, true), (5, true), (6, true), (7, true), (8, true)] 5 (by kernel_rfl) ?_
 refine go 10 ?_
 refine tq 9 (by kernel_rfl) rfl rfl rfl rfl (ay_ix encT encT l encT_len (fun _ => rfl) (k) rfl rfl rfl rfl hk (by decide) Tryz.runUnderlying47 Tryz.sizeOf72) ?_
 refine tks [(10, true), (11, true)] 2 (by kernel_rfl) ?_
 refine go 3 ?_
 refine one 12 (by kernel_rfl) rfl rfl (wcall [] rfl rfl (by decide) Tryz.call106 rfl (reader_0 P l[k].text ht _) (fun _ h => by cases h) (fun _ h => by cases h) (fun _ _ h => by cases h) ?_)
 rintro t2 s2 ⟨rfl, rfl⟩
 refine tks [(13, true)] 0 (by kernel_rfl) ?_
 refine go 2 ?_
 refine any_done (by kernel_rfl) ?_
 refine go 4 ?_
 refine wyy rfl rfl rfl (ay_fnne rfl rfl rfl) ?_
 refine go 5 ?_
 have hm := hok.last.more hk (by rw [tokAt_lt hk, hk3]; decide)
 refine go 4 ?_
 refine wyy rfl rfl rfl (ay_add rfl rfl rfl (by omega) (by omega)) ?_
 refine go 8 ?_
 refine wo rfl (wcallv [P] rfl rfl rfl (by decide) Tryz.call133 (us := []) rfl (localP_c (_ :: A) B rw P l (k + 1) dp 0 hok hm (by decide)) (i1 (by simp)) (i1 (by simp [Sto.bl])) (fun _ => i1 (by simp)) ?_)
 rintro t4 s4 ⟨x4, k4, e4, rfl, hr4, hk4, he4, rfl⟩
 refine ⟨[], (fun _ b hb => nomatch hb), ?_⟩
 refine go 5 ?_
 exact ⟨.inr rfl, _, (PSt A B rw P l (k4) (dp) (e4)), (res_one rfl (resv_cell [] rfl rfl Tryz.isAgg93 Tryz.sizeOf93 (pk_all rfl rfl))), subS_of (.cons _ (.refl _)) (.refl _), ⟨x4, k4, e4, rfl, (Run.from hr4).eq fun _ => by unfold stmtP; rw [if_pos (by rw [wordAt_at hk, hk3, ht]; decide)], hk4, he4, rfl⟩⟩
set_option maxRecDepth 100000 in
set_option maxHeartbeats 1600000 in
theorem stmtP_1 (A B : List Box) (rw : List ORow) (P : Nat) (l : List Tok) (k dp : Nat) (blk : Nat → PRes (List AStmt)) (hblk : ∀ (A B : List Box) (rw : List ORow) (P k e : Nat), k < l.length → e < 16 → ACall Tryz.prog 44 [.c (.val (.pointer (some ⟨P, 0, none⟩)))] [P] (PSt A B rw P l k dp e) (PAn A B rw P l dp (fun x => .c (.sl x.length (x.flatMap encS))) e k (blk k))) (hok : TOk l) (hk : k < l.length) (hk3 : l[k].kind = 3) (ht : l[k].text = bytes [103, 111]) : ACall Tryz.prog 75 [.c (.val (.pointer (some ⟨P, 0, none⟩)))] [P] (PSt A B rw P l k dp 0) (PAn A B rw P l dp (fun x => .agg (encS1 x)) 0 k (stmtP l blk k)) := by
 have hlen := hok.len
 have he : (0 : Nat) < 16 := by decide
 refine acall_body Tryz.func75 rfl (Nat.le_of_ble_eq_true rfl) ?_
 show AWp Tryz.prog _ ⟨42, [P], ⟨A ++ ⟨P, 70, [.sl l.length (l.flatMap encT), .val (.int .i64 ((k : Nat) : Int)), .val (.int .i64 ((dp : Nat) : Int)), .val (.int .i64 ((0 : Nat) : Int))]⟩ :: B, rw⟩, [(0, .c (.val (.pointer (some ⟨P, 0, none⟩))))]⟩ _
 refine go 7 fun b1 => ?_
 refine aw_region_drew [b1, P] (by kernel_rfl) ?_
 refine tks [(0, true), (1, true), (2, true), (3, true), (4, true), (5, true), (6, true), (7, true)] 4 (by kernel_rfl) ?_
 refine go 9 ?_
 refine tq 8 (by kernel_rfl) rfl rfl rfl rfl (ay_ix encT encT l encT_len (fun _ => rfl) (k) rfl rfl rfl rfl hk (by decide) Tryz.runUnderlying47 Tryz.sizeOf72) ?_
 refine tks [(9, true), (10, true)] 1 (by kernel_rfl) ?_
 refine go 3 ?_
 refine tq 11 (by kernel_rfl) rfl rfl rfl rfl (ay_cmp true rfl rfl rfl (by rw [hk3]; rfl)) ?_
 refine any_done (by kernel_rfl) ?_
 refine go 3 ?_
 refine aw_region_drew [b1, P] (by kernel_rfl) ?_
 refine tks [(0, true), (1, true), (2, true), (3, true), (4, true), (5, true), (6, true), (7, true), (8, true)] 5 (by kernel_rfl) ?_
 refine go 10 ?_
 refine tq 9 (by kernel_rfl) rfl rfl rfl rfl (ay_ix encT encT l encT_len (fun _ => rfl) (k) rfl rfl rfl rfl hk (by decide) Tryz.runUnderlying47 Tryz.sizeOf72) ?_
 refine tks [(10, true), (11, true)] 2 (by kernel_rfl) ?_
 refine go 3 ?_
 refine one 12 (by kernel_rfl) rfl rfl (wcall [] rfl rfl (by decide) Tryz.call106 rfl (reader_1 P l[k].text ht _) (fun _ h => by cases h) (fun _ h => by cases h) (fun _ _ h => by cases h) ?_)
 rintro t2 s2 ⟨rfl, rfl⟩
 refine tks [(13, true)] 0 (by kernel_rfl) ?_
 refine go 2 ?_
 refine any_done (by kernel_rfl) ?_
 refine go 4 ?_
 refine wyy rfl rfl rfl (ay_fnne rfl rfl rfl) ?_
 refine go 5 ?_
 have hm := hok.last.more hk (by rw [tokAt_lt hk, hk3]; decide)
 refine go 4 ?_
 refine wyy rfl rfl rfl (ay_add rfl rfl rfl (by omega) (by omega)) ?_
 refine go 8 ?_
 refine wo rfl (wcallv [P] rfl rfl rfl (by decide) Tryz.call134 (us := []) rfl (goP_c (_ :: A) B rw P l (k + 1) dp 0 hok hm (by decide)) (i1 (by simp)) (i1 (by simp [Sto.bl])) (fun _ => i1 (by simp)) ?_)
 rintro t4 s4 ⟨x4, k4, e4, rfl, hr4, hk4, he4, rfl⟩
 refine ⟨[], (fun _ b hb => nomatch hb), ?_⟩
 refine go 5 ?_
 exact ⟨.inr rfl, _, (PSt A B rw P l (k4) (dp) (e4)), (res_one rfl (resv_cell [] rfl rfl Tryz.isAgg93 Tryz.sizeOf93 (pk_all rfl rfl))), subS_of (.cons _ (.refl _)) (.refl _), ⟨x4, k4, e4, rfl, (Run.from hr4).eq fun _ => by unfold stmtP; rw [if_neg (by rw [wordAt_at hk, hk3, ht]; decide), if_pos (by rw [wordAt_at hk, hk3, ht]; decide)], hk4, he4, rfl⟩⟩
set_option maxRecDepth 100000 in
set_option maxHeartbeats 1600000 in
theorem stmtP_2 (A B : List Box) (rw : List ORow) (P : Nat) (l : List Tok) (k dp : Nat) (blk : Nat → PRes (List AStmt)) (hblk : ∀ (A B : List Box) (rw : List ORow) (P k e : Nat), k < l.length → e < 16 → ACall Tryz.prog 44 [.c (.val (.pointer (some ⟨P, 0, none⟩)))] [P] (PSt A B rw P l k dp e) (PAn A B rw P l dp (fun x => .c (.sl x.length (x.flatMap encS))) e k (blk k))) (hok : TOk l) (hk : k < l.length) (hk3 : l[k].kind = 3) (ht : l[k].text = bytes [108, 111, 99, 107]) : ACall Tryz.prog 75 [.c (.val (.pointer (some ⟨P, 0, none⟩)))] [P] (PSt A B rw P l k dp 0) (PAn A B rw P l dp (fun x => .agg (encS1 x)) 0 k (stmtP l blk k)) := by
 have hlen := hok.len
 have he : (0 : Nat) < 16 := by decide
 refine acall_body Tryz.func75 rfl (Nat.le_of_ble_eq_true rfl) ?_
 show AWp Tryz.prog _ ⟨42, [P], ⟨A ++ ⟨P, 70, [.sl l.length (l.flatMap encT), .val (.int .i64 ((k : Nat) : Int)), .val (.int .i64 ((dp : Nat) : Int)), .val (.int .i64 ((0 : Nat) : Int))]⟩ :: B, rw⟩, [(0, .c (.val (.pointer (some ⟨P, 0, none⟩))))]⟩ _
 refine go 7 fun b1 => ?_
 refine aw_region_drew [b1, P] (by kernel_rfl) ?_
 refine tks [(0, true), (1, true), (2, true), (3, true), (4, true), (5, true), (6, true), (7, true)] 4 (by kernel_rfl) ?_
 refine go 9 ?_
 refine tq 8 (by kernel_rfl) rfl rfl rfl rfl (ay_ix encT encT l encT_len (fun _ => rfl) (k) rfl rfl rfl rfl hk (by decide) Tryz.runUnderlying47 Tryz.sizeOf72) ?_
 refine tks [(9, true), (10, true)] 1 (by kernel_rfl) ?_
 refine go 3 ?_
 refine tq 11 (by kernel_rfl) rfl rfl rfl rfl (ay_cmp true rfl rfl rfl (by rw [hk3]; rfl)) ?_
 refine any_done (by kernel_rfl) ?_
 refine go 3 ?_
 refine aw_region_drew [b1, P] (by kernel_rfl) ?_
 refine tks [(0, true), (1, true), (2, true), (3, true), (4, true), (5, true), (6, true), (7, true), (8, true)] 5 (by kernel_rfl) ?_
 refine go 10 ?_
 refine tq 9 (by kernel_rfl) rfl rfl rfl rfl (ay_ix encT encT l encT_len (fun _ => rfl) (k) rfl rfl rfl rfl hk (by decide) Tryz.runUnderlying47 Tryz.sizeOf72) ?_
 refine tks [(10, true), (11, true)] 2 (by kernel_rfl) ?_
 refine go 3 ?_
 refine one 12 (by kernel_rfl) rfl rfl (wcall [] rfl rfl (by decide) Tryz.call106 rfl (reader_2 P l[k].text ht _) (fun _ h => by cases h) (fun _ h => by cases h) (fun _ _ h => by cases h) ?_)
 rintro t2 s2 ⟨rfl, rfl⟩
 refine tks [(13, true)] 0 (by kernel_rfl) ?_
 refine go 2 ?_
 refine any_done (by kernel_rfl) ?_
 refine go 4 ?_
 refine wyy rfl rfl rfl (ay_fnne rfl rfl rfl) ?_
 refine go 5 ?_
 have hm := hok.last.more hk (by rw [tokAt_lt hk, hk3]; decide)
 refine go 4 ?_
 refine wyy rfl rfl rfl (ay_add rfl rfl rfl (by omega) (by omega)) ?_
 refine go 8 ?_
 refine wo rfl (wcallv [P] rfl rfl rfl (by decide) Tryz.call135 (us := []) rfl (lockP_c (_ :: A) B rw P l (k + 1) dp 0 hok hm (by decide)) (i1 (by simp)) (i1 (by simp [Sto.bl])) (fun _ => i1 (by simp)) ?_)
 rintro t4 s4 ⟨x4, k4, e4, rfl, hr4, hk4, he4, rfl⟩
 refine ⟨[], (fun _ b hb => nomatch hb), ?_⟩
 refine go 5 ?_
 exact ⟨.inr rfl, _, (PSt A B rw P l (k4) (dp) (e4)), (res_one rfl (resv_cell [] rfl rfl Tryz.isAgg93 Tryz.sizeOf93 (pk_all rfl rfl))), subS_of (.cons _ (.refl _)) (.refl _), ⟨x4, k4, e4, rfl, (Run.from hr4).eq fun _ => by unfold stmtP; rw [if_neg (by rw [wordAt_at hk, hk3, ht]; decide), if_neg (by rw [wordAt_at hk, hk3, ht]; decide), if_pos (by rw [wordAt_at hk, hk3, ht]; decide)], hk4, he4, rfl⟩⟩
set_option maxRecDepth 100000 in
set_option maxHeartbeats 1600000 in
theorem stmtP_3 (A B : List Box) (rw : List ORow) (P : Nat) (l : List Tok) (k dp : Nat) (blk : Nat → PRes (List AStmt)) (hblk : ∀ (A B : List Box) (rw : List ORow) (P k e : Nat), k < l.length → e < 16 → ACall Tryz.prog 44 [.c (.val (.pointer (some ⟨P, 0, none⟩)))] [P] (PSt A B rw P l k dp e) (PAn A B rw P l dp (fun x => .c (.sl x.length (x.flatMap encS))) e k (blk k))) (hok : TOk l) (hk : k < l.length) (hk3 : l[k].kind = 3) (ht : l[k].text = bytes [117, 110, 108, 111, 99, 107]) : ACall Tryz.prog 75 [.c (.val (.pointer (some ⟨P, 0, none⟩)))] [P] (PSt A B rw P l k dp 0) (PAn A B rw P l dp (fun x => .agg (encS1 x)) 0 k (stmtP l blk k)) := by
 have hlen := hok.len
 have he : (0 : Nat) < 16 := by decide
 refine acall_body Tryz.func75 rfl (Nat.le_of_ble_eq_true rfl) ?_
 show AWp Tryz.prog _ ⟨42, [P], ⟨A ++ ⟨P, 70, [.sl l.length (l.flatMap encT), .val (.int .i64 ((k : Nat) : Int)), .val (.int .i64 ((dp : Nat) : Int)), .val (.int .i64 ((0 : Nat) : Int))]⟩ :: B, rw⟩, [(0, .c (.val (.pointer (some ⟨P, 0, none⟩))))]⟩ _
 refine go 7 fun b1 => ?_
 refine aw_region_drew [b1, P] (by kernel_rfl) ?_
 refine tks [(0, true), (1, true), (2, true), (3, true), (4, true), (5, true), (6, true), (7, true)] 4 (by kernel_rfl) ?_
 refine go 9 ?_
 refine tq 8 (by kernel_rfl) rfl rfl rfl rfl (ay_ix encT encT l encT_len (fun _ => rfl) (k) rfl rfl rfl rfl hk (by decide) Tryz.runUnderlying47 Tryz.sizeOf72) ?_
 refine tks [(9, true), (10, true)] 1 (by kernel_rfl) ?_
 refine go 3 ?_
 refine tq 11 (by kernel_rfl) rfl rfl rfl rfl (ay_cmp true rfl rfl rfl (by rw [hk3]; rfl)) ?_
 refine any_done (by kernel_rfl) ?_
 refine go 3 ?_
 refine aw_region_drew [b1, P] (by kernel_rfl) ?_
 refine tks [(0, true), (1, true), (2, true), (3, true), (4, true), (5, true), (6, true), (7, true), (8, true)] 5 (by kernel_rfl) ?_
 refine go 10 ?_
 refine tq 9 (by kernel_rfl) rfl rfl rfl rfl (ay_ix encT encT l encT_len (fun _ => rfl) (k) rfl rfl rfl rfl hk (by decide) Tryz.runUnderlying47 Tryz.sizeOf72) ?_
 refine tks [(10, true), (11, true)] 2 (by kernel_rfl) ?_
 refine go 3 ?_
 refine one 12 (by kernel_rfl) rfl rfl (wcall [] rfl rfl (by decide) Tryz.call106 rfl (reader_3 P l[k].text ht _) (fun _ h => by cases h) (fun _ h => by cases h) (fun _ _ h => by cases h) ?_)
 rintro t2 s2 ⟨rfl, rfl⟩
 refine tks [(13, true)] 0 (by kernel_rfl) ?_
 refine go 2 ?_
 refine any_done (by kernel_rfl) ?_
 refine go 4 ?_
 refine wyy rfl rfl rfl (ay_fnne rfl rfl rfl) ?_
 refine go 5 ?_
 have hm := hok.last.more hk (by rw [tokAt_lt hk, hk3]; decide)
 refine go 4 ?_
 refine wyy rfl rfl rfl (ay_add rfl rfl rfl (by omega) (by omega)) ?_
 refine go 8 ?_
 refine wo rfl (wcallv [P] rfl rfl rfl (by decide) Tryz.call136 (us := []) rfl (unlockP_c (_ :: A) B rw P l (k + 1) dp 0 hok hm (by decide)) (i1 (by simp)) (i1 (by simp [Sto.bl])) (fun _ => i1 (by simp)) ?_)
 rintro t4 s4 ⟨x4, k4, e4, rfl, hr4, hk4, he4, rfl⟩
 refine ⟨[], (fun _ b hb => nomatch hb), ?_⟩
 refine go 5 ?_
 exact ⟨.inr rfl, _, (PSt A B rw P l (k4) (dp) (e4)), (res_one rfl (resv_cell [] rfl rfl Tryz.isAgg93 Tryz.sizeOf93 (pk_all rfl rfl))), subS_of (.cons _ (.refl _)) (.refl _), ⟨x4, k4, e4, rfl, (Run.from hr4).eq fun _ => by unfold stmtP; rw [if_neg (by rw [wordAt_at hk, hk3, ht]; decide), if_neg (by rw [wordAt_at hk, hk3, ht]; decide), if_neg (by rw [wordAt_at hk, hk3, ht]; decide), if_pos (by rw [wordAt_at hk, hk3, ht]; decide)], hk4, he4, rfl⟩⟩
set_option maxRecDepth 100000 in
set_option maxHeartbeats 1600000 in
theorem stmtP_4 (A B : List Box) (rw : List ORow) (P : Nat) (l : List Tok) (k dp : Nat) (blk : Nat → PRes (List AStmt)) (hblk : ∀ (A B : List Box) (rw : List ORow) (P k e : Nat), k < l.length → e < 16 → ACall Tryz.prog 44 [.c (.val (.pointer (some ⟨P, 0, none⟩)))] [P] (PSt A B rw P l k dp e) (PAn A B rw P l dp (fun x => .c (.sl x.length (x.flatMap encS))) e k (blk k))) (hok : TOk l) (hk : k < l.length) (hk3 : l[k].kind = 3) (ht : l[k].text = bytes [105, 102]) : ACall Tryz.prog 75 [.c (.val (.pointer (some ⟨P, 0, none⟩)))] [P] (PSt A B rw P l k dp 0) (PAn A B rw P l dp (fun x => .agg (encS1 x)) 0 k (stmtP l blk k)) := by
 have hlen := hok.len
 have he : (0 : Nat) < 16 := by decide
 refine acall_body Tryz.func75 rfl (Nat.le_of_ble_eq_true rfl) ?_
 show AWp Tryz.prog _ ⟨42, [P], ⟨A ++ ⟨P, 70, [.sl l.length (l.flatMap encT), .val (.int .i64 ((k : Nat) : Int)), .val (.int .i64 ((dp : Nat) : Int)), .val (.int .i64 ((0 : Nat) : Int))]⟩ :: B, rw⟩, [(0, .c (.val (.pointer (some ⟨P, 0, none⟩))))]⟩ _
 refine go 7 fun b1 => ?_
 refine aw_region_drew [b1, P] (by kernel_rfl) ?_
 refine tks [(0, true), (1, true), (2, true), (3, true), (4, true), (5, true), (6, true), (7, true)] 4 (by kernel_rfl) ?_
 refine go 9 ?_
 refine tq 8 (by kernel_rfl) rfl rfl rfl rfl (ay_ix encT encT l encT_len (fun _ => rfl) (k) rfl rfl rfl rfl hk (by decide) Tryz.runUnderlying47 Tryz.sizeOf72) ?_
 refine tks [(9, true), (10, true)] 1 (by kernel_rfl) ?_
 refine go 3 ?_
 refine tq 11 (by kernel_rfl) rfl rfl rfl rfl (ay_cmp true rfl rfl rfl (by rw [hk3]; rfl)) ?_
 refine any_done (by kernel_rfl) ?_
 refine go 3 ?_
 refine aw_region_drew [b1, P] (by kernel_rfl) ?_
 refine tks [(0, true), (1, true), (2, true), (3, true), (4, true), (5, true), (6, true), (7, true), (8, true)] 5 (by kernel_rfl) ?_
 refine go 10 ?_
 refine tq 9 (by kernel_rfl) rfl rfl rfl rfl (ay_ix encT encT l encT_len (fun _ => rfl) (k) rfl rfl rfl rfl hk (by decide) Tryz.runUnderlying47 Tryz.sizeOf72) ?_
 refine tks [(10, true), (11, true)] 2 (by kernel_rfl) ?_
 refine go 3 ?_
 refine one 12 (by kernel_rfl) rfl rfl (wcall [] rfl rfl (by decide) Tryz.call106 rfl (reader_4 P l[k].text ht _) (fun _ h => by cases h) (fun _ h => by cases h) (fun _ _ h => by cases h) ?_)
 rintro t2 s2 ⟨rfl, rfl⟩
 refine tks [(13, true)] 0 (by kernel_rfl) ?_
 refine go 2 ?_
 refine any_done (by kernel_rfl) ?_
 refine go 4 ?_
 refine wyy rfl rfl rfl (ay_fnne rfl rfl rfl) ?_
 refine go 5 ?_
 have hm := hok.last.more hk (by rw [tokAt_lt hk, hk3]; decide)
 refine go 4 ?_
 refine wyy rfl rfl rfl (ay_add rfl rfl rfl (by omega) (by omega)) ?_
 refine go 8 ?_
 refine wo rfl (wcallv [P] rfl rfl rfl (by decide) Tryz.call137 (us := []) rfl (ifP_c (_ :: A) B rw P l (k + 1) dp 0 blk hblk hok hm (by decide)) (i1 (by simp)) (i1 (by simp [Sto.bl])) (fun _ => i1 (by simp)) ?_)
 rintro t4 s4 ⟨x4, k4, e4, rfl, hr4, hk4, he4, rfl⟩
 refine ⟨[], (fun _ b hb => nomatch hb), ?_⟩
 refine go 5 ?_
 exact ⟨.inr rfl, _, (PSt A B rw P l (k4) (dp) (e4)), (res_one rfl (resv_cell [] rfl rfl Tryz.isAgg93 Tryz.sizeOf93 (pk_all rfl rfl))), subS_of (.cons _ (.refl _)) (.refl _), ⟨x4, k4, e4, rfl, (Run.from hr4).eq fun _ => by unfold stmtP; rw [if_neg (by rw [wordAt_at hk, hk3, ht]; decide), if_neg (by rw [wordAt_at hk, hk3, ht]; decide), if_neg (by rw [wordAt_at hk, hk3, ht]; decide), if_neg (by rw [wordAt_at hk, hk3, ht]; decide), if_pos (by rw [wordAt_at hk, hk3, ht]; decide)], hk4, he4, rfl⟩⟩
set_option maxRecDepth 100000 in
set_option maxHeartbeats 1600000 in
theorem stmtP_5 (A B : List Box) (rw : List ORow) (P : Nat) (l : List Tok) (k dp : Nat) (blk : Nat → PRes (List AStmt)) (hblk : ∀ (A B : List Box) (rw : List ORow) (P k e : Nat), k < l.length → e < 16 → ACall Tryz.prog 44 [.c (.val (.pointer (some ⟨P, 0, none⟩)))] [P] (PSt A B rw P l k dp e) (PAn A B rw P l dp (fun x => .c (.sl x.length (x.flatMap encS))) e k (blk k))) (hok : TOk l) (hk : k < l.length) (hk3 : l[k].kind = 3) (ht : l[k].text = bytes [119, 104, 105, 108, 101]) : ACall Tryz.prog 75 [.c (.val (.pointer (some ⟨P, 0, none⟩)))] [P] (PSt A B rw P l k dp 0) (PAn A B rw P l dp (fun x => .agg (encS1 x)) 0 k (stmtP l blk k)) := by
 have hlen := hok.len
 have he : (0 : Nat) < 16 := by decide
 refine acall_body Tryz.func75 rfl (Nat.le_of_ble_eq_true rfl) ?_
 show AWp Tryz.prog _ ⟨42, [P], ⟨A ++ ⟨P, 70, [.sl l.length (l.flatMap encT), .val (.int .i64 ((k : Nat) : Int)), .val (.int .i64 ((dp : Nat) : Int)), .val (.int .i64 ((0 : Nat) : Int))]⟩ :: B, rw⟩, [(0, .c (.val (.pointer (some ⟨P, 0, none⟩))))]⟩ _
 refine go 7 fun b1 => ?_
 refine aw_region_drew [b1, P] (by kernel_rfl) ?_
 refine tks [(0, true), (1, true), (2, true), (3, true), (4, true), (5, true), (6, true), (7, true)] 4 (by kernel_rfl) ?_
 refine go 9 ?_
 refine tq 8 (by kernel_rfl) rfl rfl rfl rfl (ay_ix encT encT l encT_len (fun _ => rfl) (k) rfl rfl rfl rfl hk (by decide) Tryz.runUnderlying47 Tryz.sizeOf72) ?_
 refine tks [(9, true), (10, true)] 1 (by kernel_rfl) ?_
 refine go 3 ?_
 refine tq 11 (by kernel_rfl) rfl rfl rfl rfl (ay_cmp true rfl rfl rfl (by rw [hk3]; rfl)) ?_
 refine any_done (by kernel_rfl) ?_
 refine go 3 ?_
 refine aw_region_drew [b1, P] (by kernel_rfl) ?_
 refine tks [(0, true), (1, true), (2, true), (3, true), (4, true), (5, true), (6, true), (7, true), (8, true)] 5 (by kernel_rfl) ?_
 refine go 10 ?_
 refine tq 9 (by kernel_rfl) rfl rfl rfl rfl (ay_ix encT encT l encT_len (fun _ => rfl) (k) rfl rfl rfl rfl hk (by decide) Tryz.runUnderlying47 Tryz.sizeOf72) ?_
 refine tks [(10, true), (11, true)] 2 (by kernel_rfl) ?_
 refine go 3 ?_
 refine one 12 (by kernel_rfl) rfl rfl (wcall [] rfl rfl (by decide) Tryz.call106 rfl (reader_5 P l[k].text ht _) (fun _ h => by cases h) (fun _ h => by cases h) (fun _ _ h => by cases h) ?_)
 rintro t2 s2 ⟨rfl, rfl⟩
 refine tks [(13, true)] 0 (by kernel_rfl) ?_
 refine go 2 ?_
 refine any_done (by kernel_rfl) ?_
 refine go 4 ?_
 refine wyy rfl rfl rfl (ay_fnne rfl rfl rfl) ?_
 refine go 5 ?_
 have hm := hok.last.more hk (by rw [tokAt_lt hk, hk3]; decide)
 refine go 4 ?_
 refine wyy rfl rfl rfl (ay_add rfl rfl rfl (by omega) (by omega)) ?_
 refine go 8 ?_
 refine wo rfl (wcallv [P] rfl rfl rfl (by decide) Tryz.call138 (us := []) rfl (whileP_c (_ :: A) B rw P l (k + 1) dp 0 blk hblk hok hm (by decide)) (i1 (by simp)) (i1 (by simp [Sto.bl])) (fun _ => i1 (by simp)) ?_)
 rintro t4 s4 ⟨x4, k4, e4, rfl, hr4, hk4, he4, rfl⟩
 refine ⟨[], (fun _ b hb => nomatch hb), ?_⟩
 refine go 5 ?_
 exact ⟨.inr rfl, _, (PSt A B rw P l (k4) (dp) (e4)), (res_one rfl (resv_cell [] rfl rfl Tryz.isAgg93 Tryz.sizeOf93 (pk_all rfl rfl))), subS_of (.cons _ (.refl _)) (.refl _), ⟨x4, k4, e4, rfl, (Run.from hr4).eq fun _ => by unfold stmtP; rw [if_neg (by rw [wordAt_at hk, hk3, ht]; decide), if_neg (by rw [wordAt_at hk, hk3, ht]; decide), if_neg (by rw [wordAt_at hk, hk3, ht]; decide), if_neg (by rw [wordAt_at hk, hk3, ht]; decide), if_neg (by rw [wordAt_at hk, hk3, ht]; decide), if_pos (by rw [wordAt_at hk, hk3, ht]; decide)], hk4, he4, rfl⟩⟩
set_option maxRecDepth 100000 in
set_option maxHeartbeats 1600000 in
theorem stmtP_6 (A B : List Box) (rw : List ORow) (P : Nat) (l : List Tok) (k dp : Nat) (blk : Nat → PRes (List AStmt)) (hblk : ∀ (A B : List Box) (rw : List ORow) (P k e : Nat), k < l.length → e < 16 → ACall Tryz.prog 44 [.c (.val (.pointer (some ⟨P, 0, none⟩)))] [P] (PSt A B rw P l k dp e) (PAn A B rw P l dp (fun x => .c (.sl x.length (x.flatMap encS))) e k (blk k))) (hok : TOk l) (hk : k < l.length) (hk3 : l[k].kind = 3) (ht : l[k].text = bytes [114, 101, 116, 117, 114, 110]) : ACall Tryz.prog 75 [.c (.val (.pointer (some ⟨P, 0, none⟩)))] [P] (PSt A B rw P l k dp 0) (PAn A B rw P l dp (fun x => .agg (encS1 x)) 0 k (stmtP l blk k)) := by
 have hlen := hok.len
 have he : (0 : Nat) < 16 := by decide
 refine acall_body Tryz.func75 rfl (Nat.le_of_ble_eq_true rfl) ?_
 show AWp Tryz.prog _ ⟨42, [P], ⟨A ++ ⟨P, 70, [.sl l.length (l.flatMap encT), .val (.int .i64 ((k : Nat) : Int)), .val (.int .i64 ((dp : Nat) : Int)), .val (.int .i64 ((0 : Nat) : Int))]⟩ :: B, rw⟩, [(0, .c (.val (.pointer (some ⟨P, 0, none⟩))))]⟩ _
 refine go 7 fun b1 => ?_
 refine aw_region_drew [b1, P] (by kernel_rfl) ?_
 refine tks [(0, true), (1, true), (2, true), (3, true), (4, true), (5, true), (6, true), (7, true)] 4 (by kernel_rfl) ?_
 refine go 9 ?_
 refine tq 8 (by kernel_rfl) rfl rfl rfl rfl (ay_ix encT encT l encT_len (fun _ => rfl) (k) rfl rfl rfl rfl hk (by decide) Tryz.runUnderlying47 Tryz.sizeOf72) ?_
 refine tks [(9, true), (10, true)] 1 (by kernel_rfl) ?_
 refine go 3 ?_
 refine tq 11 (by kernel_rfl) rfl rfl rfl rfl (ay_cmp true rfl rfl rfl (by rw [hk3]; rfl)) ?_
 refine any_done (by kernel_rfl) ?_
 refine go 3 ?_
 refine aw_region_drew [b1, P] (by kernel_rfl) ?_
 refine tks [(0, true), (1, true), (2, true), (3, true), (4, true), (5, true), (6, true), (7, true), (8, true)] 5 (by kernel_rfl) ?_
 refine go 10 ?_
 refine tq 9 (by kernel_rfl) rfl rfl rfl rfl (ay_ix encT encT l encT_len (fun _ => rfl) (k) rfl rfl rfl rfl hk (by decide) Tryz.runUnderlying47 Tryz.sizeOf72) ?_
 refine tks [(10, true), (11, true)] 2 (by kernel_rfl) ?_
 refine go 3 ?_
 refine one 12 (by kernel_rfl) rfl rfl (wcall [] rfl rfl (by decide) Tryz.call106 rfl (reader_6 P l[k].text ht _) (fun _ h => by cases h) (fun _ h => by cases h) (fun _ _ h => by cases h) ?_)
 rintro t2 s2 ⟨rfl, rfl⟩
 refine tks [(13, true)] 0 (by kernel_rfl) ?_
 refine go 2 ?_
 refine any_done (by kernel_rfl) ?_
 refine go 4 ?_
 refine wyy rfl rfl rfl (ay_fnne rfl rfl rfl) ?_
 refine go 5 ?_
 have hm := hok.last.more hk (by rw [tokAt_lt hk, hk3]; decide)
 refine go 4 ?_
 refine wyy rfl rfl rfl (ay_add rfl rfl rfl (by omega) (by omega)) ?_
 refine go 8 ?_
 refine wo rfl (wcallv [P] rfl rfl rfl (by decide) Tryz.call139 (us := []) rfl (retP_c (_ :: A) B rw P l (k + 1) dp 0 hok hm (by decide)) (i1 (by simp)) (i1 (by simp [Sto.bl])) (fun _ => i1 (by simp)) ?_)
 rintro t4 s4 ⟨x4, k4, e4, rfl, hr4, hk4, he4, rfl⟩
 refine ⟨[], (fun _ b hb => nomatch hb), ?_⟩
 refine go 5 ?_
 exact ⟨.inr rfl, _, (PSt A B rw P l (k4) (dp) (e4)), (res_one rfl (resv_cell [] rfl rfl Tryz.isAgg93 Tryz.sizeOf93 (pk_all rfl rfl))), subS_of (.cons _ (.refl _)) (.refl _), ⟨x4, k4, e4, rfl, (Run.from hr4).eq fun _ => by unfold stmtP; rw [if_neg (by rw [wordAt_at hk, hk3, ht]; decide), if_neg (by rw [wordAt_at hk, hk3, ht]; decide), if_neg (by rw [wordAt_at hk, hk3, ht]; decide), if_neg (by rw [wordAt_at hk, hk3, ht]; decide), if_neg (by rw [wordAt_at hk, hk3, ht]; decide), if_neg (by rw [wordAt_at hk, hk3, ht]; decide), if_pos (by rw [wordAt_at hk, hk3, ht]; decide)], hk4, he4, rfl⟩⟩
set_option maxRecDepth 100000 in
set_option maxHeartbeats 1600000 in
theorem stmtP_no (A B : List Box) (rw : List ORow) (P : Nat) (l : List Tok) (k dp : Nat) (blk : Nat → PRes (List AStmt)) (hblk : ∀ (A B : List Box) (rw : List ORow) (P k e : Nat), k < l.length → e < 16 → ACall Tryz.prog 44 [.c (.val (.pointer (some ⟨P, 0, none⟩)))] [P] (PSt A B rw P l k dp e) (PAn A B rw P l dp (fun x => .c (.sl x.length (x.flatMap encS))) e k (blk k))) (hok : TOk l) (hk : k < l.length) (hk3 : l[k].kind = 3) (h0 : ¬ l[k].text = bytes [118, 97, 114]) (h1 : ¬ l[k].text = bytes [103, 111]) (h2 : ¬ l[k].text = bytes [108, 111, 99, 107]) (h3 : ¬ l[k].text = bytes [117, 110, 108, 111, 99, 107]) (h4 : ¬ l[k].text = bytes [105, 102]) (h5 : ¬ l[k].text = bytes [119, 104, 105, 108, 101]) (h6 : ¬ l[k].text = bytes [114, 101, 116, 117, 114, 110]) : ACall Tryz.prog 75 [.c (.val (.pointer (some ⟨P, 0, none⟩)))] [P] (PSt A B rw P l k dp 0) (PAn A B rw P l dp (fun x => .agg (encS1 x)) 0 k (stmtP l blk k)) := by
 have hlen := hok.len
 have he : (0 : Nat) < 16 := by decide
 refine acall_body Tryz.func75 rfl (Nat.le_of_ble_eq_true rfl) ?_
 show AWp Tryz.prog _ ⟨42, [P], ⟨A ++ ⟨P, 70, [.sl l.length (l.flatMap encT), .val (.int .i64 ((k : Nat) : Int)), .val (.int .i64 ((dp : Nat) : Int)), .val (.int .i64 ((0 : Nat) : Int))]⟩ :: B, rw⟩, [(0, .c (.val (.pointer (some ⟨P, 0, none⟩))))]⟩ _
 refine go 7 fun b1 => ?_
 refine aw_region_drew [b1, P] (by kernel_rfl) ?_
 refine tks [(0, true), (1, true), (2, true), (3, true), (4, true), (5, true), (6, true), (7, true)] 4 (by kernel_rfl) ?_
 refine go 9 ?_
 refine tq 8 (by kernel_rfl) rfl rfl rfl rfl (ay_ix encT encT l encT_len (fun _ => rfl) (k) rfl rfl rfl rfl hk (by decide) Tryz.runUnderlying47 Tryz.sizeOf72) ?_
 refine tks [(9, true), (10, true)] 1 (by kernel_rfl) ?_
 refine go 3 ?_
 refine tq 11 (by kernel_rfl) rfl rfl rfl rfl (ay_cmp true rfl rfl rfl (by rw [hk3]; rfl)) ?_
 refine any_done (by kernel_rfl) ?_
 refine go 3 ?_
 refine aw_region_drew [b1, P] (by kernel_rfl) ?_
 refine tks [(0, true), (1, true), (2, true), (3, true), (4, true), (5, true), (6, true), (7, true), (8, true)] 5 (by kernel_rfl) ?_
 refine go 10 ?_
 refine tq 9 (by kernel_rfl) rfl rfl rfl rfl (ay_ix encT encT l encT_len (fun _ => rfl) (k) rfl rfl rfl rfl hk (by decide) Tryz.runUnderlying47 Tryz.sizeOf72) ?_
 refine tks [(10, true), (11, true)] 2 (by kernel_rfl) ?_
 refine go 3 ?_
 refine one 12 (by kernel_rfl) rfl rfl (wcall [] rfl rfl (by decide) Tryz.call106 rfl (reader_no P l[k].text h0 h1 h2 h3 h4 h5 h6 _) (fun _ h => by cases h) (fun _ h => by cases h) (fun _ _ h => by cases h) ?_)
 rintro t2 s2 ⟨rfl, rfl⟩
 refine tks [(13, true)] 0 (by kernel_rfl) ?_
 refine go 2 ?_
 refine any_done (by kernel_rfl) ?_
 refine go 4 ?_
 refine wyy rfl rfl rfl (ay_nfne rfl rfl rfl) ?_
 refine go 8 ?_
 refine wcP rfl rfl rfl rfl Tryz.call107 rfl (namedP_c (_ :: A) _ _ _ l k dp 0 hok hk he) (by simp) (by simp [Sto.bl]) ?_
 rintro t4 s4 ⟨x4, k4, e4, rfl, hr4, hk4, he4, rfl⟩
 refine go 4 ?_
 exact ⟨.inr rfl, _, (PSt A B rw P l (k4) (dp) (e4)), (res_one rfl (resv_cell [] rfl rfl Tryz.isAgg93 Tryz.sizeOf93 (pk_all rfl rfl))), subS_of (.cons _ (.refl _)) (.refl _), ⟨x4, k4, e4, rfl, hr4.eq fun _ => by unfold stmtP; rw [if_neg (by rw [wordAt_at hk, decide_eq_false h0, Bool.and_false]; decide), if_neg (by rw [wordAt_at hk, decide_eq_false h1, Bool.and_false]; decide), if_neg (by rw [wordAt_at hk, decide_eq_false h2, Bool.and_false]; decide), if_neg (by rw [wordAt_at hk, decide_eq_false h3, Bool.and_false]; decide), if_neg (by rw [wordAt_at hk, decide_eq_false h4, Bool.and_false]; decide), if_neg (by rw [wordAt_at hk, decide_eq_false h5, Bool.and_false]; decide), if_neg (by rw [wordAt_at hk, decide_eq_false h6, Bool.and_false]; decide)], hk4, he4, rfl⟩⟩
set_option maxRecDepth 100000 in
set_option maxHeartbeats 1600000 in
theorem stmtP_kind (A B : List Box) (rw : List ORow) (P : Nat) (l : List Tok) (k dp : Nat) (blk : Nat → PRes (List AStmt)) (hblk : ∀ (A B : List Box) (rw : List ORow) (P k e : Nat), k < l.length → e < 16 → ACall Tryz.prog 44 [.c (.val (.pointer (some ⟨P, 0, none⟩)))] [P] (PSt A B rw P l k dp e) (PAn A B rw P l dp (fun x => .c (.sl x.length (x.flatMap encS))) e k (blk k))) (hok : TOk l) (hk : k < l.length) (hk3 : ¬ l[k].kind = 3) : ACall Tryz.prog 75 [.c (.val (.pointer (some ⟨P, 0, none⟩)))] [P] (PSt A B rw P l k dp 0) (PAn A B rw P l dp (fun x => .agg (encS1 x)) 0 k (stmtP l blk k)) := by
 have hlen := hok.len
 have he : (0 : Nat) < 16 := by decide
 refine acall_body Tryz.func75 rfl (Nat.le_of_ble_eq_true rfl) ?_
 show AWp Tryz.prog _ ⟨42, [P], ⟨A ++ ⟨P, 70, [.sl l.length (l.flatMap encT), .val (.int .i64 ((k : Nat) : Int)), .val (.int .i64 ((dp : Nat) : Int)), .val (.int .i64 ((0 : Nat) : Int))]⟩ :: B, rw⟩, [(0, .c (.val (.pointer (some ⟨P, 0, none⟩))))]⟩ _
 refine go 7 fun b1 => ?_
 refine aw_region_drew [b1, P] (by kernel_rfl) ?_
 refine tks [(0, true), (1, true), (2, true), (3, true), (4, true), (5, true), (6, true), (7, true)] 4 (by kernel_rfl) ?_
 refine go 9 ?_
 refine tq 8 (by kernel_rfl) rfl rfl rfl rfl (ay_ix encT encT l encT_len (fun _ => rfl) (k) rfl rfl rfl rfl hk (by decide) Tryz.runUnderlying47 Tryz.sizeOf72) ?_
 refine tks [(9, true), (10, true)] 1 (by kernel_rfl) ?_
 refine go 3 ?_
 refine tq 11 (by kernel_rfl) rfl rfl rfl rfl (ay_cmp false rfl rfl rfl (by rw [show cmpR .eql ((l[k].kind : Nat) : Int) 3 = some (decide (l[k].kind = 3)) from cmp_nat (n := 3), decide_eq_false hk3])) ?_
 refine any_done (by kernel_rfl) ?_
 refine go 7 ?_
 refine wcP rfl rfl rfl rfl Tryz.call107 rfl (namedP_c (_ :: A) _ _ _ l k dp 0 hok hk he) (by simp) (by simp [Sto.bl]) ?_
 rintro t2 s2 ⟨x2, k2, e2, rfl, hr2, hk2, he2, rfl⟩
 refine go 4 ?_
 exact ⟨.inr rfl, _, (PSt A B rw P l (k2) (dp) (e2)), (res_one rfl (resv_cell [] rfl rfl Tryz.isAgg93 Tryz.sizeOf93 (pk_all rfl rfl))), subS_of (.cons _ (.refl _)) (.refl _), ⟨x2, k2, e2, rfl, hr2.eq fun _ => by unfold stmtP; rw [if_neg (by rw [wordAt_at hk, decide_eq_false hk3, Bool.false_and]; decide), if_neg (by rw [wordAt_at hk, decide_eq_false hk3, Bool.false_and]; decide), if_neg (by rw [wordAt_at hk, decide_eq_false hk3, Bool.false_and]; decide), if_neg (by rw [wordAt_at hk, decide_eq_false hk3, Bool.false_and]; decide), if_neg (by rw [wordAt_at hk, decide_eq_false hk3, Bool.false_and]; decide), if_neg (by rw [wordAt_at hk, decide_eq_false hk3, Bool.false_and]; decide), if_neg (by rw [wordAt_at hk, decide_eq_false hk3, Bool.false_and]; decide)], hk2, he2, rfl⟩⟩
theorem stmtP_c (A B : List Box) (rw : List ORow) (P : Nat) (l : List Tok) (k dp : Nat) (blk : Nat → PRes (List AStmt)) (hblk : ∀ (A B : List Box) (rw : List ORow) (P k e : Nat), k < l.length → e < 16 → ACall Tryz.prog 44 [.c (.val (.pointer (some ⟨P, 0, none⟩)))] [P] (PSt A B rw P l k dp e) (PAn A B rw P l dp (fun x => .c (.sl x.length (x.flatMap encS))) e k (blk k))) (hok : TOk l) (hk : k < l.length) : ACall Tryz.prog 75 [.c (.val (.pointer (some ⟨P, 0, none⟩)))] [P] (PSt A B rw P l k dp 0) (PAn A B rw P l dp (fun x => .agg (encS1 x)) 0 k (stmtP l blk k)) := by
 by_cases hk3 : l[k].kind = 3
 ·by_cases h0 : l[k].text = bytes [118, 97, 114]
  ·exact stmtP_0 A B rw P l k dp blk hblk hok hk hk3 h0
  by_cases h1 : l[k].text = bytes [103, 111]
  ·exact stmtP_1 A B rw P l k dp blk hblk hok hk hk3 h1
  by_cases h2 : l[k].text = bytes [108, 111, 99, 107]
  ·exact stmtP_2 A B rw P l k dp blk hblk hok hk hk3 h2
  by_cases h3 : l[k].text = bytes [117, 110, 108, 111, 99, 107]
  ·exact stmtP_3 A B rw P l k dp blk hblk hok hk hk3 h3
  by_cases h4 : l[k].text = bytes [105, 102]
  ·exact stmtP_4 A B rw P l k dp blk hblk hok hk hk3 h4
  by_cases h5 : l[k].text = bytes [119, 104, 105, 108, 101]
  ·exact stmtP_5 A B rw P l k dp blk hblk hok hk hk3 h5
  by_cases h6 : l[k].text = bytes [114, 101, 116, 117, 114, 110]
  ·exact stmtP_6 A B rw P l k dp blk hblk hok hk hk3 h6
  exact stmtP_no A B rw P l k dp blk hblk hok hk hk3 h0 h1 h2 h3 h4 h5 h6
 ·exact stmtP_kind A B rw P l k dp blk hblk hok hk hk3
end Go.Proofs.YtflcnehhpmjipaaGreatDoor
