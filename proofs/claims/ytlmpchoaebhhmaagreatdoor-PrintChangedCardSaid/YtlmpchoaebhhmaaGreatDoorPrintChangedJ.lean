/-
  Proved: for all arguments lockorderlaw04.PrintChanged returns true and leaves its arguments as they were. No condition beyond the row's own. (Printed by genlaw_pchg.py.)
-/
import Derived.Test.YtlmpchoaebhhmaaGreatDoorG5J
import Derived.Test.YtlmpchoaebhhmaaGreatDoorG23J
import Derived.Test.YtlmpchoaebhhmaaGreatDoorG26J
import Derived.Test.YtlmpchoaebhhmaaGreatDoorG27J
import Derived.Test.YtlmpchoaebhhmaaGreatDoorG29J
set_option linter.all false
set_option synthInstance.maxHeartbeats 1000000
set_option synthInstance.maxSize 1000000
set_option maxHeartbeats 8000000
set_option maxRecDepth 100000
namespace Go.Proofs.YtlmpchoaebhhmaaGreatDoor
open Go.Proofs.Tryz
open List (length_append length_cons length_nil mem_append mem_cons not_mem_nil append_assoc getElem_mem take_of_length_le)
section
open Go.ChangeShapes Go.WideShapes Go.ChangeAt Go.RowKit
theorem bE2{n:Int}(h:(Lit.int .i64 n).wf=true):-9223372036854775808 <= n /\ n <= 9223372036854775807:=by
 simp only [Lit.wf,Bool.and_eq_true,decide_eq_true_eq] at h
 exact h
theorem bT2(l0:List Int)(n1:Int)(n2:Int)(n3:Int)(n4:Int)(hl0:l0.length <= 9223372036854775807)(hn1:-9223372036854775808 <= n1 /\ n1 <= 9223372036854775807)(hn2:-9223372036854775808 <= n2 /\ n2 <= 9223372036854775807)(hn3:-9223372036854775808 <= n3 /\ n3 <= 9223372036854775807)(hn4:-9223372036854775808 <= n4 /\ n4 <= 9223372036854775807):aL prog 4 [bK5 (.c (.sl l0.length (l0.map fun i=>.val (.int .i64 i)))),.c (.val (.int .i64 n1)),.c (.val (.int .i64 n2)),.c (.val (.int .i64 n3)),.c (.val (.int .i64 n4))] [] ⟨[],[]⟩ fun r s'=>r=.c (.val (.bool true)) /\ s'=⟨[],[]⟩:=by
 refine acB func4 rfl ?_
 show AWp prog _ ⟨34,[],⟨[],[]⟩,[(0,bK5 (.c (.sl l0.length (l0.map fun i=>.val (.int .i64 i))))),(1,.c (.val (.int .i64 n1))),(2,.c (.val (.int .i64 n2))),(3,.c (.val (.int .i64 n3))),(4,.c (.val (.int .i64 n4)))]⟩ _
 refine go 8 ?_
 refine wc0 rfl call20 rfl (aHs l0 (by omega) _) ?_
 rintro _ _ ⟨p,rfl,hp,rfl⟩
 have hfa:=hp.facts
 have hfw:=hfa.wt
 have hpf:=hp.funcs
 refine go 4 ?_
 refine wc0 rfl call19 rfl (bTz p n1 n2 n3 n4 hfa.sane (by omega) (by omega) hn4 _) ?_
 rintro _ _ ⟨⟨q,rfl,hq⟩,rfl⟩
 have hqw:=hq.wt
 have hqs:=hq.sane
 refine go 5 fun b1=>?_
 refine aB [b1] (by kernel_rfl) ?_
 refine tks [(0,true),(2,true)] 14 (by kernel_rfl) ?_
 refine go 3 ?_
 refine one 1 (by kernel_rfl) rfl rfl (bMg 0 [] rfl rfl (by decide) call21 rfl rfl (bOk q hqs (by omega) _) bDl bDl (fun _=>bDl) ?_)
 rintro _ _ ⟨hr1,rfl⟩
 rcases Bool.eq_false_or_eq_true (jI q) with h2|h2
 ·rw [h2] at hr1
  subst hr1
  refine one 3 (by kernel_rfl) rfl rfl (bV rfl rfl (by decide) call22 rfl (aPt q hqs (by omega) _) ?_)
  rintro _ _ ⟨hr3,rfl⟩
  rw [h2] at hr3
  subst hr3
  refine tr 4 (by kernel_rfl) rfl (aJ8 true rfl rfl rfl runUnderlying4 (by simp [aEb])) ?_
  refine tks [(5,true),(6,true),(8,true)] 8 (by kernel_rfl) ?_
  refine go 4 ?_
  refine one 7 (by kernel_rfl) rfl rfl (bMg 0 [] rfl rfl (by decide) call23 rfl rfl (bNl q hqs (by omega) _) bDl bDl (fun _=>bDl) ?_)
  rintro _ _ ⟨rfl,rfl⟩
  refine one 9 (by kernel_rfl) rfl rfl (bV rfl rfl (by decide) call24 rfl (aNw q hqs (by omega) _) ?_)
  rintro _ _ ⟨rfl,rfl⟩
  refine tr 10 (by kernel_rfl) rfl (aZ true rfl rfl rfl (by simp [oM])) ?_
  refine tks [(11,true),(12,true)] 3 (by kernel_rfl) ?_
  refine go 3 ?_
  refine one 13 (by kernel_rfl) rfl rfl (bRj 0 rfl rfl (by decide) call25 rfl bPi ?_)
  refine tks [(14,true),(15,true)] 0 (by kernel_rfl) ?_
  refine go 3 ?_
  refine aE (by kernel_rfl) ?_
  refine go 2 ?_
  exact ⟨.inr rfl,_,⟨[],[]⟩,aR rfl (aF rfl),aA (List.nil_sublist _) (List.nil_sublist _),rfl,rfl⟩
 rw [h2] at hr1
 subst hr1
 refine one 3 (by kernel_rfl) rfl rfl (bV rfl rfl (by decide) call22 rfl (aPt q hqs (by omega) _) ?_)
 rintro _ _ ⟨hr6,rfl⟩
 rw [h2] at hr6
 subst hr6
 refine tr 4 (by kernel_rfl) rfl (aJ8 true rfl rfl rfl runUnderlying4 (by simp [aEb])) ?_
 refine tks [(5,true),(6,true),(8,true)] 8 (by kernel_rfl) ?_
 refine go 4 ?_
 refine one 7 (by kernel_rfl) rfl rfl (bMg 0 [] rfl rfl (by decide) call23 rfl rfl (bNl q hqs (by omega) _) bDl bDl (fun _=>bDl) ?_)
 rintro _ _ ⟨rfl,rfl⟩
 refine one 9 (by kernel_rfl) rfl rfl (bV rfl rfl (by decide) call24 rfl (aNw q hqs (by omega) _) ?_)
 rintro _ _ ⟨rfl,rfl⟩
 refine tr 10 (by kernel_rfl) rfl (aZ true rfl rfl rfl (by simp [oM])) ?_
 refine tks [(11,true),(12,true)] 3 (by kernel_rfl) ?_
 refine go 3 ?_
 refine one 13 (by kernel_rfl) rfl rfl (bRj 0 rfl rfl (by decide) call25 rfl bPi ?_)
 refine tks [(14,true),(15,true)] 0 (by kernel_rfl) ?_
 refine go 3 ?_
 refine aE (by kernel_rfl) ?_
 refine go 2 ?_
 exact ⟨.inr rfl,_,⟨[],[]⟩,aR rfl (aF rfl),aA (List.nil_sublist _) (List.nil_sublist _),rfl,rfl⟩
theorem bS2(H:Type)(enc:TypeId×Value -> H)(W:World)(base:Nat)(args:Array Value)(ds gs:List (DataW H))(before:List MemPlace)
  (hval:∀(j:Nat) t v,Tryz.f4.params[j]?=some t -> args[j]?=some v -> Value.okWide prog W .any base t v)
  (hW:DataW.Whole enc prog Tryz.f4.params.toList Rows.printChangedSpec.vars false W args.toList ds gs before) (he:bM9 W):
  Calls prog 4 args W fun e W'=>∃v,e=.returned v /\ Rows.printChangedSpec.post enc prog Tryz.f4 false true false false W args v W':=by
 have hW':=hW
 obtain ⟨p,q,hA0,hV,rfl,hfz,hnd⟩:=hW
 have hA:DataW.TrodAll enc prog W 0 (fun _=>true) true Tryz.f4.params.toList args.toList ds p:=hA0
 rw [Tryz.params4] at hA hval
 obtain ⟨v0,vs0,d0,ds0,p0,q0,hargs,rfl,rfl,h0,r0⟩:=trodAll_cons hA
 obtain ⟨v1,vs1,d1,ds1,p1,q1,rfl,rfl,rfl,h1,r1⟩:=trodAll_cons r0
 obtain ⟨v2,vs2,d2,ds2,p2,q2,rfl,rfl,rfl,h2,r2⟩:=trodAll_cons r1
 obtain ⟨v3,vs3,d3,ds3,p3,q3,rfl,rfl,rfl,h3,r3⟩:=trodAll_cons r2
 obtain ⟨v4,vs4,d4,ds4,p4,q4,rfl,rfl,rfl,h4,r4⟩:=trodAll_cons r3
 obtain ⟨rfl,rfl,rfl⟩:=trodAll_nil r4
 obtain rfl:args=#[v0,v1,v2,v3,v4]:=by cases args;simp_all
 have walk:Calls prog 4 #[v0,v1,v2,v3,v4] W fun e w'=>e=.returned (.bool true) /\ Below W.heap.size W w':=by
  obtain ⟨l0,a0,cap0,rfl,hc0,hcm0,hr0⟩:=aHn (hval 0 22 v0 rfl rfl) h0
  obtain ⟨n1,rfl,rfl,rfl,hn1⟩:=open_int underlying3 (hval 1 3 v1 rfl rfl) h1
  obtain ⟨n2,rfl,rfl,rfl,hn2⟩:=open_int underlying3 (hval 2 3 v2 rfl rfl) h2
  obtain ⟨n3,rfl,rfl,rfl,hn3⟩:=open_int underlying3 (hval 3 3 v3 rfl rfl) h3
  obtain ⟨n4,rfl,rfl,rfl,hn4⟩:=open_int underlying3 (hval 4 3 v4 rfl rfl) h4
  have hm0:=bOi (t:=.c (.sl l0.length (l0.map fun i=>.val (.int .i64 i)))) (v:=.slice a0 l0.length cap0) he (aLg hr0 (by unfold maxLen at hcm0;omega))
  exact aJe (vs:=[.slice a0 l0.length cap0,.int .i64 n1,.int .i64 n2,.int .i64 n3,.int .i64 n4]) (bT2 l0 n1 n2 n3 n4 (by unfold maxLen at hcm0;omega) (bE2 hn1) (bE2 hn2) (bE2 hn3) (bE2 hn4)) rfl fun i h h'=>by
   match i,h,h' with
   |0,_,_=>exact hm0
   |1,_,_=>exact .c _ _ (.val _ rfl)
   |2,_,_=>exact .c _ _ (.val _ rfl)
   |3,_,_=>exact .c _ _ (.val _ rfl)
   |4,_,_=>exact .c _ _ (.val _ rfl)
 refine walk.mono fun e W' ⟨he,hb⟩=>?_
 subst he
 exact aMc hW' rfl rfl (by rw [Tryz.params4];intro t ht;simp at ht;rcases ht with rfl|rfl|rfl|rfl|rfl<;>exact ⟨by kernel_rfl,of_decide_eq_true (by kernel_rfl)⟩) rfl hb
theorem bTe(os:Os){H:Type}(enc:TypeId×Value -> H):∃places,DataW.whole enc prog ((World.doorLaid prog 60 os).forCall (fun _ _=>0) ⟨#[],#[.slice none 0 0,.int .i64 0,.int .i64 0,.int .i64 0,.int .i64 0],[]⟩).memory Tryz.f4.params.toList Rows.printChangedSpec.vars false (#[.slice none 0 0,.int .i64 0,.int .i64 0,.int .i64 0,.int .i64 0]:Array Value).toList 8=some ([.nil,.lit (.int .i64 0),.lit (.int .i64 0),.lit (.int .i64 0),.lit (.int .i64 0)],[],places):=
 ⟨[],by kernel_rfl⟩
theorem bTa(os:Os)(started:os.Started)(H:Type)(enc:TypeId×Value -> H)(F:Stop.Interp):
  ReturnsInHanded {} Tryz.checked os 4 .any ((OpenSpec.ofChange Rows.printChangedSpec).preRow enc prog Tryz.f4 Rows.printChangedRow.domain false Rows.printChangedRow.laid) (((OpenSpec.ofChange Rows.printChangedSpec).at F).post enc prog Tryz.f4 false true false false):=by
 obtain ⟨places,hx⟩:=bTe os enc
 refine returnsInHanded_of_row (C:=Tryz.checked) (s:=OpenSpec.ofChange Rows.printChangedSpec) own started (by kernel_rfl) func4
  (witness_row_at (enc:=enc) (C:=Tryz.checked) false (World.doorLaid prog 60 os) #[.slice none 0 0,.int .i64 0,.int .i64 0,.int .i64 0,.int .i64 0] rfl (by kernel_rfl) (by kernel_rfl) (by kernel_rfl)
   (OpenSpec.preRow_of_cond 8 hx (by kernel_rfl) (fun k hk=>by cases hk) (by kernel_rfl) (bQj os _))) ?_
 intro W base args ds gs before hval hW _ _ _ hL hSh _
 exact bS2 H enc W base args ds gs before hval hW (bRl hL hSh)
theorem bS8:joinedFacts prog 4 Tryz.f4 (OpenSpec.ofChange Rows.printChangedSpec).bare Rows.printChangedRow=true:=by
 unfold joinedFacts
 repeat (rw [Bool.and_eq_true];refine And.intro ?_ (by as_aux_lemma=>kernel_rfl))
 as_aux_lemma=>kernel_rfl
theorem bTl:Rows.PrintChangedSaid:=
 OpenClaim.holds_of_cond 4 Tryz.f4 rfl rfl rfl rfl rfl rfl rfl ⟨rfl,rfl,rfl,rfl,rfl⟩ rfl rfl rfl rfl rfl (by kernel_rfl) func4 bS8
  (of_decide_eq_true (by kernel_rfl)) (by unfold Func.isWrapper;first|(rw [if_pos (by decide+kernel)];kernel_rfl)|(rw [if_neg (by decide+kernel)];exact ⟨rfl,rfl⟩))
  (fun os started H enc _ F=>by rw [OpenClaim.pre_eq_preRow];exact bTa os started H enc F)
theorem bTc (f : FuncId) (fn : Func) (hf : Tryz.pinned.checked.prog.funcNamed "lockorder/lockorderlaw04.PrintChanged" = some f) (hfn : Tryz.pinned.checked.prog.funcs[f]? = some fn) :
  false=Tryz.pinned.checked.prog.looks [] /\ ∀(j:Nat) t,fn.params[j]?=some t -> Tryz.pinned.checked.prog.wantsStandIn t=false:=by
 obtain rfl : f = 4 := Option.some.inj ((show prog.funcNamed "lockorder/lockorderlaw04.PrintChanged" = some 4 by kernel_rfl).symm.trans hf) |>.symm
 obtain rfl:fn=Tryz.f4:=(Option.some.inj (func4.symm.trans hfn)).symm
 refine ⟨by kernel_rfl,fun j t ht=>?_⟩
 rw [Tryz.params4] at ht
 have hm:t∈[22,3,3,3,3]:=by simpa using Array.mem_of_getElem? ht
 have hall:([22,3,3,3,3].all fun u=>!prog.wantsStandIn u)=true:=by kernel_rfl
 exact (show prog.wantsStandIn t=false by simpa using List.all_eq_true.1 hall t hm)
theorem printChanged_card:Rows.PrintChangedCardSaid:=
 Claim7.holds_tied_plain_at .later [] _ _ _ _ bTl (fun _ h=>by cases h) (by kernel_rfl) (fun _ h=>by cases h) printChanged_row_tie rfl ⟨rfl,rfl⟩ (by kernel_rfl) rfl bTc (by kernel_rfl)
#print axioms printChanged_card
end
end Go.Proofs.YtlmpchoaebhhmaaGreatDoor
