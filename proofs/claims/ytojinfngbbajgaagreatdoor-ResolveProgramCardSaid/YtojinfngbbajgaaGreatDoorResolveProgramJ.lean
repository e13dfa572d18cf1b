/-
  Proved: for all arguments lockorderlaw05.ResolveProgram returns true and leaves its arguments as they were. No condition beyond the row's own. (Printed by genlaw_rprog.py.)
-/
import Derived.Test.YtojinfngbbajgaaGreatDoorR5J
import Derived.Test.YtojinfngbbajgaaGreatDoorR32J
import Derived.Test.YtojinfngbbajgaaGreatDoorR35J
import Derived.Test.YtojinfngbbajgaaGreatDoorR31J
import Derived.Test.YtojinfngbbajgaaGreatDoorR36J
import Derived.Test.YtojinfngbbajgaaGreatDoorR9J
set_option linter.all false
set_option synthInstance.maxHeartbeats 1000000
set_option synthInstance.maxSize 1000000
set_option maxHeartbeats 8000000
set_option maxRecDepth 100000
namespace Go.Proofs.YtojinfngbbajgaaGreatDoor
open Go.Proofs.Tryz
open List (length_append length_cons length_nil mem_append mem_cons not_mem_nil append_assoc getElem_mem take_of_length_le)
section
open Go.ChangeShapes Go.WideShapes Go.ChangeAt Go.RowKit
theorem cBi(l0:List Int)(hl0:l0.length <= 9223372036854775807):aL prog 5 [bK5 (.c (.sl l0.length (l0.map fun i=>.val (.int .i64 i))))] [] ⟨[],[]⟩ fun r s'=>r=.c (.val (.bool true)) /\ s'=⟨[],[]⟩:=by
 refine acB func5 rfl ?_
 show AWp prog _ ⟨26,[],⟨[],[]⟩,[(0,bK5 (.c (.sl l0.length (l0.map fun i=>.val (.int .i64 i)))))]⟩ _
 refine go 8 ?_
 refine wc0 rfl call20 rfl (aHs l0 (by omega) _) ?_
 rintro _ _ ⟨p,rfl,hp,rfl⟩
 have hfa:=hp.facts
 have hfw:=hfa.wt
 have hpf:=hp.funcs
 refine wo rfl (bMg 0 [] rfl rfl (by decide) call19 rfl rfl (cCm p hfa.sane (by omega) _) bDl bDl (fun _=>bDl) ?_)
 rintro _ _ ⟨f,s0,e,hc,rfl,rfl⟩
 rw [cDm hp] at hc
 cases hc
 refine go 12 ?_
 refine wcp true rfl (by simp [bC]) (go 2 ?_)
 refine wcp true rfl (by simp [bC]) (go 3 ?_)
 refine wcp true rfl (by simp [bC]) (go 2 ?_)
 refine wo rfl (bRj 0 rfl rfl (by decide) call21 rfl cCo ?_)
 refine go 5 ?_
 exact ⟨.inr rfl,_,⟨[],[]⟩,aR rfl (aF rfl),aA (List.nil_sublist _) (List.nil_sublist _),rfl,rfl⟩
theorem cAp(H:Type)(enc:TypeId×Value -> H)(W:World)(base:Nat)(args:Array Value)(ds gs:List (DataW H))(before:List MemPlace)
  (hval:∀(j:Nat) t v,Tryz.f5.params[j]?=some t -> args[j]?=some v -> Value.okWide prog W .any base t v)
  (hW:DataW.Whole enc prog Tryz.f5.params.toList Rows.resolveProgramSpec.vars false W args.toList ds gs before) (he:bM9 W):
  Calls prog 5 args W fun e W'=>∃v,e=.returned v /\ Rows.resolveProgramSpec.post enc prog Tryz.f5 false true false false W args v W':=by
 have hW':=hW
 obtain ⟨p,q,hA0,hV,rfl,hfz,hnd⟩:=hW
 have hA:DataW.TrodAll enc prog W 0 (fun _=>true) true Tryz.f5.params.toList args.toList ds p:=hA0
 rw [Tryz.params5] at hA hval
 obtain ⟨v0,vs0,d0,ds0,p0,q0,hargs,rfl,rfl,h0,r0⟩:=trodAll_cons hA
 obtain ⟨rfl,rfl,rfl⟩:=trodAll_nil r0
 obtain rfl:args=#[v0]:=by cases args;simp_all
 have walk:Calls prog 5 #[v0] W fun e w'=>e=.returned (.bool true) /\ Below W.heap.size W w':=by
  obtain ⟨l0,a0,cap0,rfl,hc0,hcm0,hr0⟩:=aHn (hval 0 22 v0 rfl rfl) h0
  have hm0:=bOi (t:=.c (.sl l0.length (l0.map fun i=>.val (.int .i64 i)))) (v:=.slice a0 l0.length cap0) he (aLg hr0 (by unfold maxLen at hcm0;omega))
  exact aJe (vs:=[.slice a0 l0.length cap0]) (cBi l0 (by unfold maxLen at hcm0;omega)) rfl fun i h h'=>by
   match i,h,h' with
   |0,_,_=>exact hm0
 refine walk.mono fun e W' ⟨he,hb⟩=>?_
 subst he
 exact aMc hW' rfl rfl (by rw [Tryz.params5];intro t ht;simp at ht;subst ht;exact ⟨by kernel_rfl,of_decide_eq_true (by kernel_rfl)⟩) rfl hb
theorem cA4(os:Os){H:Type}(enc:TypeId×Value -> H):∃places,DataW.whole enc prog ((World.doorLaid prog 60 os).forCall (fun _ _=>0) ⟨#[],#[.slice none 0 0],[]⟩).memory Tryz.f5.params.toList Rows.resolveProgramSpec.vars false (#[.slice none 0 0]:Array Value).toList 8=some ([.nil],[],places):=
 ⟨[],by kernel_rfl⟩
theorem cA0(os:Os)(started:os.Started)(H:Type)(enc:TypeId×Value -> H)(F:Stop.Interp):
  ReturnsInHanded {} Tryz.checked os 5 .any ((OpenSpec.ofChange Rows.resolveProgramSpec).preRow enc prog Tryz.f5 Rows.resolveProgramRow.domain false Rows.resolveProgramRow.laid) (((OpenSpec.ofChange Rows.resolveProgramSpec).at F).post enc prog Tryz.f5 false true false false):=by
 obtain ⟨places,hx⟩:=cA4 os enc
 refine returnsInHanded_of_row (C:=Tryz.checked) (s:=OpenSpec.ofChange Rows.resolveProgramSpec) own started (by kernel_rfl) func5
  (witness_row_at (enc:=enc) (C:=Tryz.checked) false (World.doorLaid prog 60 os) #[.slice none 0 0] rfl (by kernel_rfl) (by kernel_rfl) (by kernel_rfl)
   (OpenSpec.preRow_of_cond 8 hx (by kernel_rfl) (fun k hk=>by cases hk) (by kernel_rfl) (bQj os _))) ?_
 intro W base args ds gs before hval hW _ _ _ hL hSh _
 exact cAp H enc W base args ds gs before hval hW (bRl hL hSh)
theorem cAz:joinedFacts prog 5 Tryz.f5 (OpenSpec.ofChange Rows.resolveProgramSpec).bare Rows.resolveProgramRow=true:=by
 unfold joinedFacts
 repeat (rw [Bool.and_eq_true];refine And.intro ?_ (by as_aux_lemma=>kernel_rfl))
 as_aux_lemma=>kernel_rfl
theorem cA8:Rows.ResolveProgramSaid:=
 OpenClaim.holds_of_cond 5 Tryz.f5 rfl rfl rfl rfl rfl rfl rfl ⟨rfl,rfl,rfl,rfl,rfl⟩ rfl rfl rfl rfl rfl (by kernel_rfl) func5 cAz
  (of_decide_eq_true (by kernel_rfl)) (by unfold Func.isWrapper;first|(rw [if_pos (by decide+kernel)];kernel_rfl)|(rw [if_neg (by decide+kernel)];exact ⟨rfl,rfl⟩))
  (fun os started H enc _ F=>by rw [OpenClaim.pre_eq_preRow];exact cA0 os started H enc F)
theorem cA2 (f : FuncId) (fn : Func) (hf : Tryz.pinned.checked.prog.funcNamed "lockorder/lockorderlaw05.ResolveProgram" = some f) (hfn : Tryz.pinned.checked.prog.funcs[f]? = some fn) :
  false=Tryz.pinned.checked.prog.looks [] /\ ∀(j:Nat) t,fn.params[j]?=some t -> Tryz.pinned.checked.prog.wantsStandIn t=false:=by
 obtain rfl : f = 5 := Option.some.inj ((show prog.funcNamed "lockorder/lockorderlaw05.ResolveProgram" = some 5 by kernel_rfl).symm.trans hf) |>.symm
 obtain rfl:fn=Tryz.f5:=(Option.some.inj (func5.symm.trans hfn)).symm
 refine ⟨by kernel_rfl,fun j t ht=>?_⟩
 rw [Tryz.params5] at ht
 have hm:t∈[22]:=by simpa using Array.mem_of_getElem? ht
 have hall:([22].all fun u=>!prog.wantsStandIn u)=true:=by kernel_rfl
 exact (show prog.wantsStandIn t=false by simpa using List.all_eq_true.1 hall t hm)
theorem resolveProgram_card:Rows.ResolveProgramCardSaid:=
 Claim7.holds_tied_plain_at .later [] _ _ _ _ cA8 (fun _ h=>by cases h) (by kernel_rfl) (fun _ h=>by cases h) resolveProgram_row_tie rfl ⟨rfl,rfl⟩ (by kernel_rfl) rfl cA2 (by kernel_rfl)
#print axioms resolveProgram_card
end
end Go.Proofs.YtojinfngbbajgaaGreatDoor
