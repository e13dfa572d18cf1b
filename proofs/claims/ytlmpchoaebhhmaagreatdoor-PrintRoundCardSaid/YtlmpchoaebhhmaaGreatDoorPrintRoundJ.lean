/-
  Proved: for all arguments lockorderlaw04.PrintRound returns true and leaves its arguments as they were. No condition beyond the row's own. (Printed by genlaw_prnd.py.)
-/
import Derived.Test.YtlmpchoaebhhmaaGreatDoorH5J
import Derived.Test.YtlmpchoaebhhmaaGreatDoorH23J
import Derived.Test.YtlmpchoaebhhmaaGreatDoorH26J
import Derived.Test.YtlmpchoaebhhmaaGreatDoorH27J
import Derived.Test.YtlmpchoaebhhmaaGreatDoorH29J
import Derived.Test.YtlmpchoaebhhmaaGreatDoorH30J
import Derived.Test.YtlmpchoaebhhmaaGreatDoorH36J
import Derived.Test.YtlmpchoaebhhmaaGreatDoorH10J
import Derived.Test.YtlmpchoaebhhmaaGreatDoorH13J
set_option linter.all false
set_option synthInstance.maxHeartbeats 1000000
set_option synthInstance.maxSize 1000000
set_option maxHeartbeats 8000000
set_option maxRecDepth 100000
namespace Go.Proofs.YtlmpchoaebhhmaaGreatDoor
open Go.Proofs.Tryz
open List (length_append length_cons length_nil mem_append mem_cons not_mem_nil append_assoc getElem_mem take_of_length_le)
section
open Go.ChangeShapes Go.WideShapes Go.ChangeAt Go.RowKit
theorem bE2{n:Int}(h:(Lit.int .i64 n).wf=true):-9223372036854775808 <= n /\ n <= 9223372036854775807:=by
 simp only [Lit.wf,Bool.and_eq_true,decide_eq_true_eq] at h
 exact h
theorem bUm{p:cK}(hs:p.sane)(hv:jI p=true):jM (vI p)=(p,(vI p).length,0):=by
 obtain ⟨L,k,h1,-,h3⟩:=aFx hs hv
 have hf:vI p=cR p:=by unfold vI;rw [if_pos hv]
 rw [hf]
 exact pT h1 h3
theorem bTu{p:cK}(hs:p.sane):(vI p).length <= p.wt*3000000:=by
 unfold vI
 split
 ·rename_i h
  rw [nX] at h
  simp only [Bool.and_eq_true] at h
  exact aAd hs h.1
 simp
theorem bUa(l0:List Int)(n1:Int)(n2:Int)(n3:Int)(n4:Int)(hl0:l0.length <= 9223372036854775807)(hn1:-9223372036854775808 <= n1 /\ n1 <= 9223372036854775807)(hn2:-9223372036854775808 <= n2 /\ n2 <= 9223372036854775807)(hn3:-9223372036854775808 <= n3 /\ n3 <= 9223372036854775807)(hn4:-9223372036854775808 <= n4 /\ n4 <= 9223372036854775807):aL prog 6 [bK5 (.c (.sl l0.length (l0.map fun i=>.val (.int .i64 i)))),.c (.val (.int .i64 n1)),.c (.val (.int .i64 n2)),.c (.val (.int .i64 n3)),.c (.val (.int .i64 n4))] [] ⟨[],[]⟩ fun r s'=>r=.c (.val (.bool true)) /\ s'=⟨[],[]⟩:=by
 refine acB func6 rfl ?_
 show AWp prog _ ⟨61,[],⟨[],[]⟩,[(0,bK5 (.c (.sl l0.length (l0.map fun i=>.val (.int .i64 i))))),(1,.c (.val (.int .i64 n1))),(2,.c (.val (.int .i64 n2))),(3,.c (.val (.int .i64 n3))),(4,.c (.val (.int .i64 n4)))]⟩ _
 refine go 8 ?_
 refine wc0 rfl call20 rfl (aHs l0 (by omega) _) ?_
 rintro _ _ ⟨p,rfl,hp,rfl⟩
 have hfa:=hp.facts
 have hfw:=hfa.wt
 have hpf:=hp.funcs
 refine go 7 fun b1=>?_
 refine wcR 0 rfl call23 rfl (bNl p hfa.sane (by omega) _) ?_
 refine wo rfl (aDc rfl rfl (by decide) rfl underlying9 underlying23 underlying5 (by rw [kT];first|(have:=bTu (p:=q) hqs;omega)|(have:=bTu (p:=p) hfa.sane;omega)) (N:=(vI p).length) rfl (cs:=iF (vI p)) rfl ?_)
 refine wo rfl (bN9 0 [] rfl rfl (by decide) call28 rfl rfl (fun m=>tQ (vI p) m _) bDl bDl (fun _=>bDl) ?_)
 rintro _ _ ⟨hr1,rfl⟩
 have hx1:=bUm hfa.sane (yO hp)
 rw [hx1] at hr1
 dsimp only at hr1
 subst hr1
 refine go 14 fun b2=>?_
 refine wcp false rfl (by simp [bC]) ?_
 refine go 3 ?_
 refine wc1 rfl call29 rfl (aMe p (by have h9:=aFh (vI p);rw [hx1] at h9;exact h9) _) ?_
 refine go 14 ?_
 refine wc0 rfl call19 rfl (bTz p n1 n2 n3 n4 hfa.sane (by omega) (by omega) hn4 _) ?_
 rintro _ _ ⟨⟨q,rfl,hq⟩,rfl⟩
 have hqw:=hq.wt
 have hqs:=hq.sane
 refine go 7 ?_
 rcases Bool.eq_false_or_eq_true (jI q) with h3|h3
 ·refine bK8 0 rfl call21 rfl (bOk q hqs (by omega) _) h3 ?_
  refine go 9 ?_
  refine wcR 0 rfl call23 rfl (bNl q hqs (by omega) _) ?_
  refine wo rfl (aDc rfl rfl (by decide) rfl underlying9 underlying23 underlying5 (by rw [kT];first|(have:=bTu (p:=q) hqs;omega)|(have:=bTu (p:=p) hfa.sane;omega)) (N:=(vI q).length) rfl (cs:=iF (vI q)) rfl ?_)
  refine wo rfl (bN9 0 [] rfl rfl (by decide) call28 rfl rfl (fun m=>tQ (vI q) m _) bDl bDl (fun _=>bDl) ?_)
  rintro _ _ ⟨hr5,rfl⟩
  have hx5:=bUm hqs h3
  rw [hx5] at hr5
  dsimp only at hr5
  subst hr5
  refine go 11 ?_
  refine wcp true rfl (by simp [bC]) ?_
  refine go 3 ?_
  refine wc1 rfl call29 rfl (aMe q (by have h9:=aFh (vI q);rw [hx5] at h9;exact h9) _) ?_
  refine go 2 ?_
  refine wo rfl (bRj 0 rfl rfl (by decide) call25 rfl bPi ?_)
  refine go 5 ?_
  exact ⟨.inr rfl,_,⟨[],[]⟩,aR rfl (aF rfl),aA (List.nil_sublist _) (List.nil_sublist _),rfl,rfl⟩
 refine bK8 0 rfl call21 rfl (bOk q hqs (by omega) _) h3 ?_
 refine go 6 ?_
 refine wo rfl (bRj 0 rfl rfl (by decide) call25 rfl bPi ?_)
 refine go 5 ?_
 exact ⟨.inr rfl,_,⟨[],[]⟩,aR rfl (aF rfl),aA (List.nil_sublist _) (List.nil_sublist _),rfl,rfl⟩
theorem bS9(H:Type)(enc:TypeId×Value -> H)(W:World)(base:Nat)(args:Array Value)(ds gs:List (DataW H))(before:List MemPlace)
  (hval:∀(j:Nat) t v,Tryz.f6.params[j]?=some t -> args[j]?=some v -> Value.okWide prog W .any base t v)
  (hW:DataW.Whole enc prog Tryz.f6.params.toList Rows.printRoundSpec.vars false W args.toList ds gs before) (he:bM9 W):
  Calls prog 6 args W fun e W'=>∃v,e=.returned v /\ Rows.printRoundSpec.post enc prog Tryz.f6 false true false false W args v W':=by
 have hW':=hW
 obtain ⟨p,q,hA0,hV,rfl,hfz,hnd⟩:=hW
 have hA:DataW.TrodAll enc prog W 0 (fun _=>true) true Tryz.f6.params.toList args.toList ds p:=hA0
 rw [Tryz.params6] at hA hval
 obtain ⟨v0,vs0,d0,ds0,p0,q0,hargs,rfl,rfl,h0,r0⟩:=trodAll_cons hA
 obtain ⟨v1,vs1,d1,ds1,p1,q1,rfl,rfl,rfl,h1,r1⟩:=trodAll_cons r0
 obtain ⟨v2,vs2,d2,ds2,p2,q2,rfl,rfl,rfl,h2,r2⟩:=trodAll_cons r1
 obtain ⟨v3,vs3,d3,ds3,p3,q3,rfl,rfl,rfl,h3,r3⟩:=trodAll_cons r2
 obtain ⟨v4,vs4,d4,ds4,p4,q4,rfl,rfl,rfl,h4,r4⟩:=trodAll_cons r3
 obtain ⟨rfl,rfl,rfl⟩:=trodAll_nil r4
 obtain rfl:args=#[v0,v1,v2,v3,v4]:=by cases args;simp_all
 have walk:Calls prog 6 #[v0,v1,v2,v3,v4] W fun e w'=>e=.returned (.bool true) /\ Below W.heap.size W w':=by
  obtain ⟨l0,a0,cap0,rfl,hc0,hcm0,hr0⟩:=aHn (hval 0 22 v0 rfl rfl) h0
  obtain ⟨n1,rfl,rfl,rfl,hn1⟩:=open_int underlying3 (hval 1 3 v1 rfl rfl) h1
  obtain ⟨n2,rfl,rfl,rfl,hn2⟩:=open_int underlying3 (hval 2 3 v2 rfl rfl) h2
  obtain ⟨n3,rfl,rfl,rfl,hn3⟩:=open_int underlying3 (hval 3 3 v3 rfl rfl) h3
  obtain ⟨n4,rfl,rfl,rfl,hn4⟩:=open_int underlying3 (hval 4 3 v4 rfl rfl) h4
  have hm0:=bOi (t:=.c (.sl l0.length (l0.map fun i=>.val (.int .i64 i)))) (v:=.slice a0 l0.length cap0) he (aLg hr0 (by unfold maxLen at hcm0;omega))
  exact aJe (vs:=[.slice a0 l0.length cap0,.int .i64 n1,.int .i64 n2,.int .i64 n3,.int .i64 n4]) (bUa l0 n1 n2 n3 n4 (by unfold maxLen at hcm0;omega) (bE2 hn1) (bE2 hn2) (bE2 hn3) (bE2 hn4)) rfl fun i h h'=>by
   match i,h,h' with
   |0,_,_=>exact hm0
   |1,_,_=>exact .c _ _ (.val _ rfl)
   |2,_,_=>exact .c _ _ (.val _ rfl)
   |3,_,_=>exact .c _ _ (.val _ rfl)
   |4,_,_=>exact .c _ _ (.val _ rfl)
 refine walk.mono fun e W' ⟨he,hb⟩=>?_
 subst he
 exact aMc hW' rfl rfl (by rw [Tryz.params6];intro t ht;simp at ht;rcases ht with rfl|rfl|rfl|rfl|rfl<;>exact ⟨by kernel_rfl,of_decide_eq_true (by kernel_rfl)⟩) rfl hb
theorem bTo(os:Os){H:Type}(enc:TypeId×Value -> H):∃places,DataW.whole enc prog ((World.doorLaid prog 60 os).forCall (fun _ _=>0) ⟨#[],#[.slice none 0 0,.int .i64 0,.int .i64 0,.int .i64 0,.int .i64 0],[]⟩).memory Tryz.f6.params.toList Rows.printRoundSpec.vars false (#[.slice none 0 0,.int .i64 0,.int .i64 0,.int .i64 0,.int .i64 0]:Array Value).toList 8=some ([.nil,.lit (.int .i64 0),.lit (.int .i64 0),.lit (.int .i64 0),.lit (.int .i64 0)],[],places):=
 ⟨[],by kernel_rfl⟩
theorem bTn(os:Os)(started:os.Started)(H:Type)(enc:TypeId×Value -> H)(F:Stop.Interp):
  ReturnsInHanded {} Tryz.checked os 6 .any ((OpenSpec.ofChange Rows.printRoundSpec).preRow enc prog Tryz.f6 Rows.printRoundRow.domain false Rows.printRoundRow.laid) (((OpenSpec.ofChange Rows.printRoundSpec).at F).post enc prog Tryz.f6 false true false false):=by
 obtain ⟨places,hx⟩:=bTo os enc
 refine returnsInHanded_of_row (C:=Tryz.checked) (s:=OpenSpec.ofChange Rows.printRoundSpec) own started (by kernel_rfl) func6
  (witness_row_at (enc:=enc) (C:=Tryz.checked) false (World.doorLaid prog 60 os) #[.slice none 0 0,.int .i64 0,.int .i64 0,.int .i64 0,.int .i64 0] rfl (by kernel_rfl) (by kernel_rfl) (by kernel_rfl)
   (OpenSpec.preRow_of_cond 8 hx (by kernel_rfl) (fun k hk=>by cases hk) (by kernel_rfl) (bQj os _))) ?_
 intro W base args ds gs before hval hW _ _ _ hL hSh _
 exact bS9 H enc W base args ds gs before hval hW (bRl hL hSh)
theorem bTj:joinedFacts prog 6 Tryz.f6 (OpenSpec.ofChange Rows.printRoundSpec).bare Rows.printRoundRow=true:=by
 unfold joinedFacts
 repeat (rw [Bool.and_eq_true];refine And.intro ?_ (by as_aux_lemma=>kernel_rfl))
 as_aux_lemma=>kernel_rfl
theorem bTt:Rows.PrintRoundSaid:=
 OpenClaim.holds_of_cond 6 Tryz.f6 rfl rfl rfl rfl rfl rfl rfl ⟨rfl,rfl,rfl,rfl,rfl⟩ rfl rfl rfl rfl rfl (by kernel_rfl) func6 bTj
  (of_decide_eq_true (by kernel_rfl)) (by unfold Func.isWrapper;first|(rw [if_pos (by decide+kernel)];kernel_rfl)|(rw [if_neg (by decide+kernel)];exact ⟨rfl,rfl⟩))
  (fun os started H enc _ F=>by rw [OpenClaim.pre_eq_preRow];exact bTn os started H enc F)
theorem bTr (f : FuncId) (fn : Func) (hf : Tryz.pinned.checked.prog.funcNamed "lockorder/lockorderlaw04.PrintRound" = some f) (hfn : Tryz.pinned.checked.prog.funcs[f]? = some fn) :
  false=Tryz.pinned.checked.prog.looks [] /\ ∀(j:Nat) t,fn.params[j]?=some t -> Tryz.pinned.checked.prog.wantsStandIn t=false:=by
 obtain rfl : f = 6 := Option.some.inj ((show prog.funcNamed "lockorder/lockorderlaw04.PrintRound" = some 6 by kernel_rfl).symm.trans hf) |>.symm
 obtain rfl:fn=Tryz.f6:=(Option.some.inj (func6.symm.trans hfn)).symm
 refine ⟨by kernel_rfl,fun j t ht=>?_⟩
 rw [Tryz.params6] at ht
 have hm:t∈[22,3,3,3,3]:=by simpa using Array.mem_of_getElem? ht
 have hall:([22,3,3,3,3].all fun u=>!prog.wantsStandIn u)=true:=by kernel_rfl
 exact (show prog.wantsStandIn t=false by simpa using List.all_eq_true.1 hall t hm)
theorem printRound_card:Rows.PrintRoundCardSaid:=
 Claim7.holds_tied_plain_at .later [] _ _ _ _ bTt (fun _ h=>by cases h) (by kernel_rfl) (fun _ h=>by cases h) printRound_row_tie rfl ⟨rfl,rfl⟩ (by kernel_rfl) rfl bTr (by kernel_rfl)
#print axioms printRound_card
end
end Go.Proofs.YtlmpchoaebhhmaaGreatDoor
