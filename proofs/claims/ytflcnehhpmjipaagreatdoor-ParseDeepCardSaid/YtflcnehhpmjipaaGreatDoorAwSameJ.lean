import Derived.Test.YtflcnehhpmjipaaGreatDoorW6J
import Derived.Test.YtflcnehhpmjipaaGreatDoorW4J
import Derived.Test.YtflcnehhpmjipaaGreatDoorE0J
import Derived.Test.YtflcnehhpmjipaaGreatDoorProg
set_option linter.unusedVariables false
set_option linter.unusedSimpArgs false
namespace Go.Proofs.YtflcnehhpmjipaaGreatDoor
open Go.RowKit
set_option synthInstance.maxHeartbeats 1000000
set_option synthInstance.maxSize 1000000
set_option linter.all false
set_option maxRecDepth 100000 in
set_option maxHeartbeats 1600000 in
theorem sameExpr_node (op num : Int) (name : ByteArray) (args : List AExpr) (hl : args.length ≤ 1000000000) (ih : ∀ k (h : k < args.length) (s : Sto), ACall Tryz.prog 47 [.agg (encE1 args[k]), .agg (encE1 args[k])] [] s fun r s' => r = .c (.val (.bool true)) ∧ s' = s) (s : Sto) :
  ACall Tryz.prog 47 [.agg [.val (.int .i64 op), .val (.int .i64 num), .val (.string name), .sl args.length (args.flatMap encE)], .agg [.val (.int .i64 op), .val (.int .i64 num), .val (.string name), .sl args.length (args.flatMap encE)]] [] s fun r s' => r = .c (.val (.bool true)) ∧ s' = s := by
 obtain ⟨bx, rw⟩ := s
 refine acall_body Tryz.func47 rfl (Nat.le_of_ble_eq_true rfl) ?_
 show AWp Tryz.prog _ ⟨53, _, ⟨bx, rw⟩, [(0, .agg [.val (.int .i64 op), .val (.int .i64 num), .val (.string name), .sl args.length (args.flatMap encE)]), (1, .agg [.val (.int .i64 op), .val (.int .i64 num), .val (.string name), .sl args.length (args.flatMap encE)])]⟩ _
 refine go 14 fun b1 b2 => ?_
 refine wyy rfl rfl rfl (ay_cmp false rfl rfl rfl (by simp [cmpR])) ?_
 refine go 5 ?_
 refine wyy rfl rfl rfl (ay_cmp false rfl rfl rfl (by simp [cmpR])) ?_
 refine go 6 ?_
 refine wyy rfl rfl rfl (ay_streq false rfl rfl rfl (by simp [strR])) ?_
 refine go 8 ?_
 refine wyy rfl rfl rfl (ay_cmp false rfl rfl rfl (by simp [cmpR])) ?_
 refine go 13 ?_
 refine aw_for (args.length) 5 [(2, _), (3, _)] (sub_cons rfl (.refl _) (sub_cons rfl (.refl _) (sub_cons rfl (.refl _) sub_nil))) fun k hk => ?_
 refine go 7 ?_
 refine wyy rfl rfl rfl (ay_cmp _ rfl rfl rfl rfl) ?_
 refine go 2 ?_
 refine aw_cond rfl (fun hc2 => ?_) (fun hc2 => ?_)
 ·have hk2 : k < args.length := by simpa using hc2
  refine go 5 ?_
  refine aw_region_drew [b2, b1] (by kernel_rfl) ?_
  refine tks [(0, true), (1, true), (2, true)] 9 (by kernel_rfl) ?_
  refine go 4 ?_
  refine tq 3 (by kernel_rfl) rfl rfl rfl rfl (ay_ix encE encE1 args encE_len encE_one k rfl rfl rfl rfl hk2 (by decide) Tryz.runUnderlying86 Tryz.sizeOf88) ?_
  refine tks [(4, true), (5, true), (6, true), (7, true)] 4 (by kernel_rfl) ?_
  refine go 5 ?_
  refine tq 8 (by kernel_rfl) rfl rfl rfl rfl (ay_ix encE encE1 args encE_len encE_one k rfl rfl rfl rfl hk2 (by decide) Tryz.runUnderlying86 Tryz.sizeOf88) ?_
  refine tks [(9, true)] 2 (by kernel_rfl) ?_
  refine go 2 ?_
  refine one 10 (by kernel_rfl) rfl rfl (wcall [] rfl rfl (by decide) Tryz.call47 rfl (ih k hk2 ⟨_, _⟩) (fun _ h => by cases h) (fun _ h => by cases h) (fun _ _ h => by cases h) ?_)
  rintro r3 s3 ⟨rfl, rfl⟩
  refine tks [(11, true)] 0 (by kernel_rfl) ?_
  refine go 2 ?_
  refine any_done (by kernel_rfl) ?_
  refine go 7 ?_
  refine wyy rfl rfl rfl (ay_add rfl rfl rfl (by omega) (by omega)) ?_
  refine go 2 ?_
  exact ⟨by omega, (sub_cons rfl (.refl _) (sub_cons rfl (.refl _) (sub_cons rfl (.refl _) sub_nil)))⟩
 ·refine go 11 ?_
  exact ⟨.inr rfl, _, ⟨bx, rw⟩, res_one rfl (resv_tmp rfl), subS_of (.cons _ (.cons _ (.refl _))) (.refl _), rfl, rfl⟩
mutual
theorem sameExpr_all : ∀ (x : AExpr), x.nodes ≤ 1000000000 → ∀ (s : Sto), ACall Tryz.prog 47 [.agg (encE1 x), .agg (encE1 x)] [] s fun r s' => r = .c (.val (.bool true)) ∧ s' = s
 | .mk op num name args, hn, s => sameExpr_node op num name args (by have := nodesL_len args; simp only [AExpr.nodes] at hn; omega) (fun k h s => sameExprs_all args (by simp only [AExpr.nodes] at hn; omega) k h s) s
theorem sameExprs_all : ∀ (l : List AExpr), nodesL l ≤ 1000000000 → ∀ (k : Nat) (h : k < l.length) (s : Sto), ACall Tryz.prog 47 [.agg (encE1 l[k]), .agg (encE1 l[k])] [] s fun r s' => r = .c (.val (.bool true)) ∧ s' = s
 | [], _, _, h, _ => absurd h (by simp)
 | e :: es, hn, 0, _, s => sameExpr_all e (by simp only [nodesL] at hn; omega) s
 | e :: es, hn, k + 1, h, s => sameExprs_all es (by simp only [nodesL] at hn; omega) k (by simpa using h) s
end
set_option maxRecDepth 100000 in
set_option maxHeartbeats 1600000 in
theorem sameRef_nil (name : ByteArray) (s : Sto) : ACall Tryz.prog 48 [.agg [.val (.string name), .sl 0 []], .agg [.val (.string name), .sl 0 []]] [] s fun r s' => r = .c (.val (.bool true)) ∧ s' = s := by
 obtain ⟨bx, rw⟩ := s
 refine acall_body Tryz.func48 rfl (Nat.le_of_ble_eq_true rfl) ?_
 show AWp Tryz.prog _ ⟨40, _, ⟨bx, rw⟩, [(0, .agg [.val (.string name), .sl 0 []]), (1, .agg [.val (.string name), .sl 0 []])]⟩ _
 refine go 14 fun b1 b2 => ?_
 refine wyy rfl rfl rfl (ay_streq false rfl rfl rfl (by simp [strR])) ?_
 refine go 7 ?_
 refine wyy rfl rfl rfl (ay_cmp false rfl rfl rfl (by simp [cmpR])) ?_
 refine go 7 ?_
 refine aw_region_drew [b2, b1] (by kernel_rfl) ?_
 refine tks [(0, true), (1, true), (2, true)] 19 (by kernel_rfl) ?_
 refine go 4 ?_
 refine tq 3 (by kernel_rfl) rfl rfl rfl rfl (ay_cmp true rfl rfl rfl (by simp [cmpR])) ?_
 refine tks [(4, true), (5, true), (6, true), (7, true), (8, true), (9, true), (10, true), (11, true), (12, true), (13, true), (14, true), (15, true), (16, true), (17, true), (18, true), (19, true), (20, true), (21, true)] 0 (by kernel_rfl) ?_
 refine go 19 ?_
 refine any_done (by kernel_rfl) ?_
 refine go 2 ?_
 exact ⟨.inr rfl, _, ⟨bx, rw⟩, res_one rfl (resv_tmp rfl), subS_of (.cons _ (.cons _ (.refl _))) (.refl _), rfl, rfl⟩
set_option maxRecDepth 100000 in
set_option maxHeartbeats 1600000 in
theorem sameRef_one (name : ByteArray) (x : AExpr) (hx : x.nodes ≤ 1000000000) (s : Sto) : ACall Tryz.prog 48 [.agg [.val (.string name), .sl [x].length ([x].flatMap encE)], .agg [.val (.string name), .sl [x].length ([x].flatMap encE)]] [] s fun r s' => r = .c (.val (.bool true)) ∧ s' = s := by
 obtain ⟨bx, rw⟩ := s
 refine acall_body Tryz.func48 rfl (Nat.le_of_ble_eq_true rfl) ?_
 show AWp Tryz.prog _ ⟨40, _, ⟨bx, rw⟩, [(0, .agg [.val (.string name), .sl [x].length ([x].flatMap encE)]), (1, .agg [.val (.string name), .sl [x].length ([x].flatMap encE)])]⟩ _
 refine go 14 fun b1 b2 => ?_
 refine wyy rfl rfl rfl (ay_streq false rfl rfl rfl (by simp [strR])) ?_
 refine go 7 ?_
 refine wyy rfl rfl rfl (ay_cmp false rfl rfl rfl (by simp [cmpR])) ?_
 refine go 7 ?_
 refine aw_region_drew [b2, b1] (by kernel_rfl) ?_
 refine tks [(0, true), (1, true), (2, true)] 19 (by kernel_rfl) ?_
 refine go 4 ?_
 refine tq 3 (by kernel_rfl) rfl rfl rfl rfl (ay_cmp false rfl rfl rfl rfl) ?_
 refine tks [(4, true), (5, true), (6, true), (7, true)] 14 (by kernel_rfl) ?_
 refine go 5 ?_
 refine tq 8 (by kernel_rfl) rfl rfl rfl rfl (ay_cmp true rfl rfl rfl (by simp [cmpR])) ?_
 refine tks [(9, true), (10, true), (11, true)] 10 (by kernel_rfl) ?_
 refine go 4 ?_
 refine tq 12 (by kernel_rfl) rfl rfl rfl rfl (ay_ix encE encE1 [x] encE_len encE_one 0 rfl rfl rfl rfl (by simp) (by decide) Tryz.runUnderlying86 Tryz.sizeOf88) ?_
 refine tks [(13, true), (14, true), (15, true)] 6 (by kernel_rfl) ?_
 refine go 4 ?_
 refine tq 16 (by kernel_rfl) rfl rfl rfl rfl (ay_ix encE encE1 [x] encE_len encE_one 0 rfl rfl rfl rfl (by simp) (by decide) Tryz.runUnderlying86 Tryz.sizeOf88) ?_
 refine tks [(17, true)] 4 (by kernel_rfl) ?_
 refine go 2 ?_
 refine one 18 (by kernel_rfl) rfl rfl (wcall [] rfl rfl (by decide) Tryz.call47 rfl (sameExpr_all x hx ⟨_, _⟩) (fun _ h => by cases h) (fun _ h => by cases h) (fun _ _ h => by cases h) ?_)
 rintro r2 s2 ⟨rfl, rfl⟩
 refine tks [(19, true), (20, true), (21, true)] 0 (by kernel_rfl) ?_
 refine go 4 ?_
 refine any_done (by kernel_rfl) ?_
 refine go 2 ?_
 exact ⟨.inr rfl, _, ⟨bx, rw⟩, res_one rfl (resv_tmp rfl), subS_of (.cons _ (.cons _ (.refl _))) (.refl _), rfl, rfl⟩
theorem sameRef_all (x : ARef) (hx : x.small 1000000000) (s : Sto) : ACall Tryz.prog 48 [.agg (encR x), .agg (encR x)] [] s fun r s' => r = .c (.val (.bool true)) ∧ s' = s := by
 obtain ⟨name, index⟩ := x
 obtain ⟨h1, h2⟩ := hx
 match index, h1, h2 with
 | [], _, _ => exact sameRef_nil name s
 | [x], _, h2 => exact sameRef_one name x (h2 x (by simp)) s
 | _ :: _ :: _, h1, _ => simp at h1
set_option maxRecDepth 100000 in
set_option maxHeartbeats 1600000 in
theorem sameStmts_node (l : List AStmt) (hl : l.length ≤ 1000000000) (hs : ∀ k (h : k < l.length), l[k].expr.nodes ≤ 1000000000 ∧ l[k].ref.small 1000000000 ∧ l[k].args.length ≤ 1000000000 ∧ (∀ x, x ∈ l[k].args → x.small 1000000000) ∧ True)
  (ih1 : ∀ k (h : k < l.length) (s : Sto), ACall Tryz.prog 22 [.c (.sl l[k].thn.length (l[k].thn.flatMap encS)), .c (.sl l[k].thn.length (l[k].thn.flatMap encS))] [] s fun r s' => r = .c (.val (.bool true)) ∧ s' = s) (ih2 : ∀ k (h : k < l.length) (s : Sto), ACall Tryz.prog 22 [.c (.sl l[k].els.length (l[k].els.flatMap encS)), .c (.sl l[k].els.length (l[k].els.flatMap encS))] [] s fun r s' => r = .c (.val (.bool true)) ∧ s' = s) (s : Sto) : ACall Tryz.prog 22 [.c (.sl l.length (l.flatMap encS)), .c (.sl l.length (l.flatMap encS))] [] s fun r s' => r = .c (.val (.bool true)) ∧ s' = s := by
 obtain ⟨bx, rw⟩ := s
 refine acall_body Tryz.func22 rfl (Nat.le_of_ble_eq_true rfl) ?_
 show AWp Tryz.prog _ ⟨133, _, ⟨bx, rw⟩, [(0, .c (.sl l.length (l.flatMap encS))), (1, .c (.sl l.length (l.flatMap encS)))]⟩ _
 refine go 12 ?_
 refine wyy rfl rfl rfl (ay_cmp false rfl rfl rfl (by simp [cmpR])) ?_
 refine go 12 ?_
 refine aw_for (l.length) 5 [(0, _), (1, _)] (sub_cons rfl (.refl _) (sub_cons rfl (.refl _) (sub_cons rfl (.refl _) sub_nil))) fun k hk => ?_
 refine go 6 ?_
 refine wyy rfl rfl rfl (ay_cmp _ rfl rfl rfl rfl) ?_
 refine go 2 ?_
 refine aw_cond rfl (fun hc2 => ?_) (fun hc2 => ?_)
 ·have hk2 : k < l.length := by simpa using hc2
  have hal : l[k].args.length ≤ 1000000000 := (hs k hk2).2.2.1
  refine go 5 ?_
  refine aw_region_drew [] (by kernel_rfl) ?_
  refine tks [(0, true), (1, true)] 10 (by kernel_rfl) ?_
  refine go 3 ?_
  refine tq 2 (by kernel_rfl) rfl rfl rfl rfl (ay_ix encS encS1 l encS_len encS_one k rfl rfl rfl rfl hk2 (by decide) Tryz.runUnderlying50 Tryz.sizeOf93) ?_
  refine tks [(3, true), (4, true), (5, true)] 6 (by kernel_rfl) ?_
  refine go 4 ?_
  refine tq 6 (by kernel_rfl) rfl rfl rfl rfl (ay_ix encS encS1 l encS_len encS_one k rfl rfl rfl rfl hk2 (by decide) Tryz.runUnderlying50 Tryz.sizeOf93) ?_
  refine tks [(7, true)] 4 (by kernel_rfl) ?_
  refine go 2 ?_
  refine allocs2 8 9 (by kernel_rfl) (by kernel_rfl) (by kernel_rfl) rfl rfl rfl rfl rfl rfl rfl rfl (by decide) rfl rfl (by decide) (by decide) (by decide) Tryz.zeroValue93 rfl Tryz.zeroValue93 rfl fun b1 b2 => ?_
  refine tks [(10, false), (11, false)] 0 (by kernel_rfl) ?_
  refine go 3 ?_
  refine any_done (by kernel_rfl) ?_
  refine go 8 ?_
  refine wyy rfl rfl rfl (ay_cmp false rfl rfl rfl (by simp [cmpR])) ?_
  refine go 5 ?_
  refine wyy rfl rfl rfl (ay_streq false rfl rfl rfl (by simp [strR])) ?_
  refine go 6 ?_
  refine wo rfl (wcall [] rfl rfl (by decide) Tryz.call47 rfl (sameExpr_all l[k].expr (hs k hk2).1 ⟨_, _⟩) (fun _ h => by cases h) (fun _ h => by cases h) (fun _ _ h => by cases h) ?_)
  rintro r3 s3 ⟨rfl, rfl⟩
  refine go 7 ?_
  refine wo rfl (wcall [] rfl rfl (by decide) Tryz.call48 rfl (sameRef_all l[k].ref (hs k hk2).2.1 ⟨_, _⟩) (fun _ h => by cases h) (fun _ h => by cases h) (fun _ _ h => by cases h) ?_)
  rintro r4 s4 ⟨rfl, rfl⟩
  refine go 9 ?_
  refine wyy rfl rfl rfl (ay_cmp false rfl rfl rfl (by simp [cmpR])) ?_
  refine go 6 ?_
  refine wo rfl (wcall [] rfl rfl (by decide) Tryz.call22 rfl (ih1 k hk2 ⟨_, _⟩) (fun _ h => by cases h) (fun _ h => by cases h) (fun _ _ h => by cases h) ?_)
  rintro r5 s5 ⟨rfl, rfl⟩
  refine go 7 ?_
  refine wo rfl (wcall [] rfl rfl (by decide) Tryz.call22 rfl (ih2 k hk2 ⟨_, _⟩) (fun _ h => by cases h) (fun _ h => by cases h) (fun _ _ h => by cases h) ?_)
  rintro r6 s6 ⟨rfl, rfl⟩
  refine go 13 ?_
  refine aw_for (l[k].args.length) 8 [(0, _), (1, _), (5, _), (6, _), (7, _)] (sub_cons rfl (.refl _) (sub_cons rfl (.refl _) (sub_cons rfl (.refl _) (sub_cons rfl (.refl _) (sub_cons rfl (.refl _) (sub_cons rfl (.refl _) sub_nil)))))) fun j hj => ?_
  refine go 7 ?_
  refine wyy rfl rfl rfl (ay_cmp _ rfl rfl rfl rfl) ?_
  refine go 2 ?_
  refine aw_cond rfl (fun hc8 => ?_) (fun hc8 => ?_)
  ·have hj2 : j < l[k].args.length := by simpa using hc8
   refine go 5 ?_
   refine aw_region_drew [b2, b1] (by kernel_rfl) ?_
   refine tks [(0, true), (1, true), (2, true)] 42 (by kernel_rfl) ?_
   refine go 4 ?_
   refine tq 3 (by kernel_rfl) rfl rfl rfl rfl (ay_ix encA encA l[k].args encA_len (fun _ => rfl) j rfl rfl rfl rfl hj2 (by decide) Tryz.runUnderlying91 Tryz.sizeOf97) ?_
   refine tks [(4, true), (5, true), (6, true), (7, true), (8, true)] 36 (by kernel_rfl) ?_
   refine go 6 ?_
   refine tq 9 (by kernel_rfl) rfl rfl rfl rfl (ay_ix encA encA l[k].args encA_len (fun _ => rfl) j rfl rfl rfl rfl hj2 (by decide) Tryz.runUnderlying91 Tryz.sizeOf97) ?_
   refine tks [(10, true), (11, true)] 33 (by kernel_rfl) ?_
   refine go 3 ?_
   refine tq 12 (by kernel_rfl) rfl rfl rfl rfl (ay_booleq false rfl rfl rfl Tryz.runUnderlying4 (by simp [boolR])) ?_
   refine tks [(13, true), (14, true), (15, true), (16, true)] 28 (by kernel_rfl) ?_
   refine go 5 ?_
   refine tq 17 (by kernel_rfl) rfl rfl rfl rfl (ay_ix encA encA l[k].args encA_len (fun _ => rfl) j rfl rfl rfl rfl hj2 (by decide) Tryz.runUnderlying91 Tryz.sizeOf97) ?_
   refine tks [(18, true), (19, true), (20, true), (21, true), (22, true)] 22 (by kernel_rfl) ?_
   refine go 6 ?_
   refine tq 23 (by kernel_rfl) rfl rfl rfl rfl (ay_ix encA encA l[k].args encA_len (fun _ => rfl) j rfl rfl rfl rfl hj2 (by decide) Tryz.runUnderlying91 Tryz.sizeOf97) ?_
   refine tks [(24, true), (25, true)] 19 (by kernel_rfl) ?_
   refine go 3 ?_
   refine one 26 (by kernel_rfl) rfl rfl (wcall [] rfl rfl (by decide) Tryz.call48 rfl (sameRef_all l[k].args[j].ref ((hs k hk2).2.2.2.1 _ (List.getElem_mem hj2)).1 ⟨_, _⟩) (fun _ h => by cases h) (fun _ h => by cases h) (fun _ _ h => by cases h) ?_)
   rintro r9 s9 ⟨rfl, rfl⟩
   refine tks [(27, true), (28, true), (29, true), (30, true), (31, true), (32, true)] 12 (by kernel_rfl) ?_
   refine go 7 ?_
   refine tq 33 (by kernel_rfl) rfl rfl rfl rfl (ay_ix encA encA l[k].args encA_len (fun _ => rfl) j rfl rfl rfl rfl hj2 (by decide) Tryz.runUnderlying91 Tryz.sizeOf97) ?_
   refine tks [(34, true), (35, true), (36, true), (37, true), (38, true)] 6 (by kernel_rfl) ?_
   refine go 6 ?_
   refine tq 39 (by kernel_rfl) rfl rfl rfl rfl (ay_ix encA encA l[k].args encA_len (fun _ => rfl) j rfl rfl rfl rfl hj2 (by decide) Tryz.runUnderlying91 Tryz.sizeOf97) ?_
   refine tks [(40, true), (41, true)] 3 (by kernel_rfl) ?_
   refine go 3 ?_
   refine one 42 (by kernel_rfl) rfl rfl (wcall [] rfl rfl (by decide) Tryz.call47 rfl (sameExpr_all l[k].args[j].expr ((hs k hk2).2.2.2.1 _ (List.getElem_mem hj2)).2 ⟨_, _⟩) (fun _ h => by cases h) (fun _ h => by cases h) (fun _ _ h => by cases h) ?_)
   rintro r10 s10 ⟨rfl, rfl⟩
   refine tks [(43, true), (44, true)] 0 (by kernel_rfl) ?_
   refine go 3 ?_
   refine any_done (by kernel_rfl) ?_
   refine go 7 ?_
   refine wyy rfl rfl rfl (ay_add rfl rfl rfl (by omega) (by omega)) ?_
   refine go 2 ?_
   exact ⟨by omega, (sub_cons rfl (.refl _) (sub_cons rfl (.refl _) (sub_cons rfl (.refl _) (sub_cons rfl (.refl _) (sub_cons rfl (.refl _) (sub_cons rfl (.refl _) sub_nil))))))⟩
  ·refine go 8 ?_
   refine wyy rfl rfl rfl (ay_add rfl rfl rfl (by omega) (by omega)) ?_
   refine go 2 ?_
   exact ⟨by omega, subA (.cons _ (.cons _ (.refl _))) (.refl _) (fun b hb => List.mem_cons_of_mem _ (List.mem_cons_of_mem _ (hb))) (sub_cons rfl (.refl _) (sub_cons rfl (.refl _) (sub_cons rfl (.refl _) sub_nil)))⟩
 ·refine go 11 ?_
  exact ⟨.inr rfl, _, ⟨bx, rw⟩, res_one rfl (resv_tmp rfl), subS_of (.refl _) (.refl _), rfl, rfl⟩
theorem small_parts {x : AStmt} (h : x.small 1000000000) : x.expr.nodes ≤ 1000000000 ∧ x.ref.small 1000000000 ∧ x.args.length ≤ 1000000000 ∧ (∀ a, a ∈ x.args → a.small 1000000000) ∧ True := by
 cases x; rw [AStmt.small] at h; exact ⟨h.1, h.2.1, h.2.2.1, h.2.2.2.1, trivial⟩
mutual
theorem sameStmt_all : ∀ (x : AStmt), x.small 1000000000 → (∀ (s : Sto), ACall Tryz.prog 22 [.c (.sl x.thn.length (x.thn.flatMap encS)), .c (.sl x.thn.length (x.thn.flatMap encS))] [] s fun r s' => r = .c (.val (.bool true)) ∧ s' = s) ∧ ∀ (s : Sto), ACall Tryz.prog 22 [.c (.sl x.els.length (x.els.flatMap encS)), .c (.sl x.els.length (x.els.flatMap encS))] [] s fun r s' => r = .c (.val (.bool true)) ∧ s' = s
 | .mk k n e r a t f, h => by
  rw [AStmt.small] at h
  exact ⟨fun s => sameStmts_node t h.2.2.2.2.1 (fun k hk => small_parts (smalls_iff.1 h.2.2.2.2.2.1 _ (List.getElem_mem hk))) (fun k hk s => (sameStmtsK t h.2.2.2.2.2.1 k hk).1 s) (fun k hk s => (sameStmtsK t h.2.2.2.2.2.1 k hk).2 s) s,
   fun s => sameStmts_node f h.2.2.2.2.2.2.1 (fun k hk => small_parts (smalls_iff.1 h.2.2.2.2.2.2.2 _ (List.getElem_mem hk))) (fun k hk s => (sameStmtsK f h.2.2.2.2.2.2.2 k hk).1 s) (fun k hk s => (sameStmtsK f h.2.2.2.2.2.2.2 k hk).2 s) s⟩
theorem sameStmtsK : ∀ (l : List AStmt), smalls 1000000000 l → ∀ k (h : k < l.length), (∀ (s : Sto), ACall Tryz.prog 22 [.c (.sl l[k].thn.length (l[k].thn.flatMap encS)), .c (.sl l[k].thn.length (l[k].thn.flatMap encS))] [] s fun r s' => r = .c (.val (.bool true)) ∧ s' = s) ∧ ∀ (s : Sto), ACall Tryz.prog 22 [.c (.sl l[k].els.length (l[k].els.flatMap encS)), .c (.sl l[k].els.length (l[k].els.flatMap encS))] [] s fun r s' => r = .c (.val (.bool true)) ∧ s' = s
 | [], _, _, h => absurd h (by simp)
 | x :: l, hs, 0, _ => by rw [smalls] at hs; exact sameStmt_all x hs.1
 | x :: l, hs, k + 1, h => by rw [smalls] at hs; exact sameStmtsK l hs.2 k (by simpa using h)
end
theorem sameStmts_all (l : List AStmt) (hl : l.length ≤ 1000000000) (h : smalls 1000000000 l) (s : Sto) : ACall Tryz.prog 22 [.c (.sl l.length (l.flatMap encS)), .c (.sl l.length (l.flatMap encS))] [] s fun r s' => r = .c (.val (.bool true)) ∧ s' = s :=
 sameStmts_node l hl (fun k hk => small_parts (smalls_iff.1 h _ (List.getElem_mem hk))) (fun k hk s => (sameStmtsK l h k hk).1 s) (fun k hk s => (sameStmtsK l h k hk).2 s) s
theorem eqG1 (d : Nat) (s : ByteArray) (i : Int) (w : World) : (Op.equalIn (d + 1 + 1) 104 (.agg #[.string s, .int .i64 i]) (.agg #[.string s, .int .i64 i])).run Tryz.prog w = .ok true w := by
 simp [Op.equalIn, go_sem, ba_beq]
theorem eqG (s : ByteArray) (i : Int) (w : World) : (Op.equal 104 (.agg #[.string s, .int .i64 i]) (.agg #[.string s, .int .i64 i])).run Tryz.prog w = .ok true w := eqG1 _ s i w
theorem eqM1 (d : Nat) (s : ByteArray) (b : Bool) (i : Int) (w : World) : (Op.equalIn (d + 1 + 1) 102 (.agg #[.string s, .bool b, .int .i64 i]) (.agg #[.string s, .bool b, .int .i64 i])).run Tryz.prog w = .ok true w := by
 simp [Op.equalIn, go_sem, ba_beq]
theorem eqM (s : ByteArray) (b : Bool) (i : Int) (w : World) : (Op.equal 102 (.agg #[.string s, .bool b, .int .i64 i]) (.agg #[.string s, .bool b, .int .i64 i])).run Tryz.prog w = .ok true w := eqM1 _ s b i w
theorem eqP1 (d : Nat) (s : ByteArray) (b : Bool) (w : World) : (Op.equalIn (d + 1 + 1) 106 (.agg #[.string s, .bool b]) (.agg #[.string s, .bool b])).run Tryz.prog w = .ok true w := by
 simp [Op.equalIn, go_sem, ba_beq]
theorem eqP (s : ByteArray) (b : Bool) (w : World) : (Op.equal 106 (.agg #[.string s, .bool b]) (.agg #[.string s, .bool b])).run Tryz.prog w = .ok true w := eqP1 _ s b w
set_option maxRecDepth 100000 in
set_option maxHeartbeats 1600000 in
theorem same_all (p : AProg) (hp : p.small 1000000000) (s : Sto) : ACall Tryz.prog 25 [.agg (encPr p), .agg (encPr p)] [] s fun r s' => r = .c (.val (.bool true)) ∧ s' = s := by
 obtain ⟨bx, rw⟩ := s
 have hgl := hp.1
 have hml := hp.2.1
 have hfl := hp.2.2.1
 refine acall_body Tryz.func25 rfl (Nat.le_of_ble_eq_true rfl) ?_
 show AWp Tryz.prog _ ⟨129, _, ⟨bx, rw⟩, [(0, .agg (encPr p)), (1, .agg (encPr p))]⟩ _
 refine go 16 fun b1 b2 => ?_
 refine wyy rfl rfl rfl (ay_cmp false rfl rfl rfl (by simp [cmpR])) ?_
 refine go 7 ?_
 refine wyy rfl rfl rfl (ay_cmp false rfl rfl rfl (by simp [cmpR])) ?_
 refine go 8 ?_
 refine wyy rfl rfl rfl (ay_cmp false rfl rfl rfl (by simp [cmpR])) ?_
 refine go 13 ?_
 refine aw_for (p.globals.length) 5 [(2, _), (3, _)] (sub_cons rfl (.refl _) (sub_cons rfl (.refl _) (sub_cons rfl (.refl _) sub_nil))) fun k hk => ?_
 refine go 7 ?_
 refine wyy rfl rfl rfl (ay_cmp _ rfl rfl rfl rfl) ?_
 refine go 2 ?_
 refine aw_cond rfl (fun hc2 => ?_) (fun hc2 => ?_)
 ·have hk2 : k < p.globals.length := by simpa using hc2
  refine go 5 ?_
  refine aw_region_drew [b2, b1] (by kernel_rfl) ?_
  refine tks [(0, true), (1, true), (2, true)] 8 (by kernel_rfl) ?_
  refine go 4 ?_
  refine tq 3 (by kernel_rfl) rfl rfl rfl rfl (ay_ix encG encG p.globals encG_len (fun _ => rfl) k rfl rfl rfl rfl hk2 (by decide) Tryz.runUnderlying36 Tryz.sizeOf104) ?_
  refine tks [(4, true), (5, true), (6, true), (7, true)] 3 (by kernel_rfl) ?_
  refine go 5 ?_
  refine tq 8 (by kernel_rfl) rfl rfl rfl rfl (ay_ix encG encG p.globals encG_len (fun _ => rfl) k rfl rfl rfl rfl hk2 (by decide) Tryz.runUnderlying36 Tryz.sizeOf104) ?_
  refine tks [(9, true)] 1 (by kernel_rfl) ?_
  refine go 2 ?_
  refine tq 10 (by kernel_rfl) rfl rfl rfl rfl (ay_aggeq [.string p.globals[k].name, .int .i64 p.globals[k].init] false rfl rfl rfl Tryz.eqGuardType104 (fun w => eqG _ _ w) rfl) ?_
  refine any_done (by kernel_rfl) ?_
  refine go 7 ?_
  refine wyy rfl rfl rfl (ay_add rfl rfl rfl (by omega) (by omega)) ?_
  refine go 2 ?_
  exact ⟨by omega, (sub_cons rfl (.refl _) (sub_cons rfl (.refl _) (sub_cons rfl (.refl _) sub_nil)))⟩
 ·refine go 12 ?_
  refine aw_for (p.mutexes.length) 6 [(2, _), (3, _)] (sub_cons rfl (.refl _) (sub_cons rfl (.refl _) (sub_cons rfl (.refl _) sub_nil))) fun k hk => ?_
  refine go 7 ?_
  refine wyy rfl rfl rfl (ay_cmp _ rfl rfl rfl rfl) ?_
  refine go 2 ?_
  refine aw_cond rfl (fun hc4 => ?_) (fun hc4 => ?_)
  ·have hk2 : k < p.mutexes.length := by simpa using hc4
   refine go 5 ?_
   refine aw_region_drew [b2, b1] (by kernel_rfl) ?_
   refine tks [(0, true), (1, true), (2, true)] 8 (by kernel_rfl) ?_
   refine go 4 ?_
   refine tq 3 (by kernel_rfl) rfl rfl rfl rfl (ay_ix encM encM p.mutexes encM_len (fun _ => rfl) k rfl rfl rfl rfl hk2 (by decide) Tryz.runUnderlying37 Tryz.sizeOf102) ?_
   refine tks [(4, true), (5, true), (6, true), (7, true)] 3 (by kernel_rfl) ?_
   refine go 5 ?_
   refine tq 8 (by kernel_rfl) rfl rfl rfl rfl (ay_ix encM encM p.mutexes encM_len (fun _ => rfl) k rfl rfl rfl rfl hk2 (by decide) Tryz.runUnderlying37 Tryz.sizeOf102) ?_
   refine tks [(9, true)] 1 (by kernel_rfl) ?_
   refine go 2 ?_
   refine tq 10 (by kernel_rfl) rfl rfl rfl rfl (ay_aggeq [.string p.mutexes[k].name, .bool p.mutexes[k].reentrant, .int .i64 p.mutexes[k].size] false rfl rfl rfl Tryz.eqGuardType102 (fun w => eqM _ _ _ w) rfl) ?_
   refine any_done (by kernel_rfl) ?_
   refine go 7 ?_
   refine wyy rfl rfl rfl (ay_add rfl rfl rfl (by omega) (by omega)) ?_
   refine go 2 ?_
   exact ⟨by omega, (sub_cons rfl (.refl _) (sub_cons rfl (.refl _) (sub_cons rfl (.refl _) sub_nil)))⟩
  ·refine go 12 ?_
   refine aw_for (p.funcs.length) 7 [(2, _), (3, _)] (sub_cons rfl (.refl _) (sub_cons rfl (.refl _) (sub_cons rfl (.refl _) sub_nil))) fun k hk => ?_
   refine go 7 ?_
   refine wyy rfl rfl rfl (ay_cmp _ rfl rfl rfl rfl) ?_
   refine go 2 ?_
   refine aw_cond rfl (fun hc6 => ?_) (fun hc6 => ?_)
   ·have hk2 : k < p.funcs.length := by simpa using hc6
    obtain ⟨hpl, hbl, hbs⟩ := hp.2.2.2 _ (List.getElem_mem hk2)
    refine go 5 ?_
    refine aw_region_drew [b2, b1] (by kernel_rfl) ?_
    refine tks [(0, true), (1, true), (2, true)] 11 (by kernel_rfl) ?_
    refine go 4 ?_
    refine tq 3 (by kernel_rfl) rfl rfl rfl rfl (ay_ix encF encF p.funcs encF_len (fun _ => rfl) k rfl rfl rfl rfl hk2 (by decide) Tryz.runUnderlying38 Tryz.sizeOf65) ?_
    refine tks [(4, true), (5, true), (6, true), (7, true)] 6 (by kernel_rfl) ?_
    refine go 5 ?_
    refine tq 8 (by kernel_rfl) rfl rfl rfl rfl (ay_ix encF encF p.funcs encF_len (fun _ => rfl) k rfl rfl rfl rfl hk2 (by decide) Tryz.runUnderlying38 Tryz.sizeOf65) ?_
    refine tks [(9, true)] 4 (by kernel_rfl) ?_
    refine go 2 ?_
    refine allocs2 10 11 (by kernel_rfl) (by kernel_rfl) (by kernel_rfl) rfl rfl rfl rfl rfl rfl rfl rfl (by decide) rfl rfl (by decide) (by decide) (by decide) Tryz.zeroValue65 rfl Tryz.zeroValue65 rfl fun b3 b4 => ?_
    refine tks [(12, false), (13, false)] 0 (by kernel_rfl) ?_
    refine go 3 ?_
    refine any_done (by kernel_rfl) ?_
    refine go 8 ?_
    refine wyy rfl rfl rfl (ay_streq false rfl rfl rfl (by simp [strR])) ?_
    refine go 7 ?_
    refine wyy rfl rfl rfl (ay_cmp false rfl rfl rfl (by simp [cmpR])) ?_
    refine go 6 ?_
    refine wo rfl (wcall [] rfl rfl (by decide) Tryz.call22 rfl (sameStmts_all p.funcs[k].body hbl hbs ⟨_, _⟩) (fun _ h => by cases h) (fun _ h => by cases h) (fun _ _ h => by cases h) ?_)
    rintro r7 s7 ⟨rfl, rfl⟩
    refine go 13 ?_
    refine aw_for (p.funcs[k].params.length) 10 [(2, _), (3, _), (7, _), (8, _), (9, _)] (sub_cons rfl (.refl _) (sub_cons rfl (.refl _) (sub_cons rfl (.refl _) (sub_cons rfl (.refl _) (sub_cons rfl (.refl _) (sub_cons rfl (.refl _) sub_nil)))))) fun j hj => ?_
    refine go 7 ?_
    refine wyy rfl rfl rfl (ay_cmp _ rfl rfl rfl rfl) ?_
    refine go 2 ?_
    refine aw_cond rfl (fun hc9 => ?_) (fun hc9 => ?_)
    ·have hj2 : j < p.funcs[k].params.length := by simpa using hc9
     refine go 5 ?_
     refine aw_region_drew [b4, b3, b2, b1] (by kernel_rfl) ?_
     refine tks [(0, true), (1, true), (2, true)] 8 (by kernel_rfl) ?_
     refine go 4 ?_
     refine tq 3 (by kernel_rfl) rfl rfl rfl rfl (ay_ix encP encP p.funcs[k].params encP_len (fun _ => rfl) j rfl rfl rfl rfl hj2 (by decide) Tryz.runUnderlying63 Tryz.sizeOf106) ?_
     refine tks [(4, true), (5, true), (6, true), (7, true)] 3 (by kernel_rfl) ?_
     refine go 5 ?_
     refine tq 8 (by kernel_rfl) rfl rfl rfl rfl (ay_ix encP encP p.funcs[k].params encP_len (fun _ => rfl) j rfl rfl rfl rfl hj2 (by decide) Tryz.runUnderlying63 Tryz.sizeOf106) ?_
     refine tks [(9, true)] 1 (by kernel_rfl) ?_
     refine go 2 ?_
     refine tq 10 (by kernel_rfl) rfl rfl rfl rfl (ay_aggeq [.string p.funcs[k].params[j].name, .bool p.funcs[k].params[j].mutex] false rfl rfl rfl Tryz.eqGuardType106 (fun w => eqP _ _ w) rfl) ?_
     refine any_done (by kernel_rfl) ?_
     refine go 7 ?_
     refine wyy rfl rfl rfl (ay_add rfl rfl rfl (by omega) (by omega)) ?_
     refine go 2 ?_
     exact ⟨by omega, (sub_cons rfl (.refl _) (sub_cons rfl (.refl _) (sub_cons rfl (.refl _) (sub_cons rfl (.refl _) (sub_cons rfl (.refl _) (sub_cons rfl (.refl _) sub_nil))))))⟩
    ·refine go 8 ?_
     refine wyy rfl rfl rfl (ay_add rfl rfl rfl (by omega) (by omega)) ?_
     refine go 2 ?_
     exact ⟨by omega, subA (.cons _ (.cons _ (.refl _))) (.refl _) (fun b hb => List.mem_cons_of_mem _ (List.mem_cons_of_mem _ (hb))) (sub_cons rfl (.refl _) (sub_cons rfl (.refl _) (sub_cons rfl (.refl _) sub_nil)))⟩
   ·refine go 11 ?_
    exact ⟨.inr rfl, _, ⟨bx, rw⟩, res_one rfl (resv_tmp rfl), subS_of (.cons _ (.cons _ (.refl _))) (.refl _), rfl, rfl⟩
end Go.Proofs.YtflcnehhpmjipaaGreatDoor
