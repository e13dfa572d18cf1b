/-
  Proved: for all arguments lockorderlaw05.ResolveRaw returns true and leaves its arguments as they were. No condition beyond the row's own. (Printed by genlaw_rraw.py.)
-/
import Derived.Test.YtbdfdjdgfanjaaaGreatDoorM0J
import Derived.Test.YtbdfdjdgfanjaaaGreatDoorG24J
set_option linter.all false
set_option synthInstance.maxHeartbeats 1000000
set_option synthInstance.maxSize 1000000
set_option maxHeartbeats 8000000
set_option maxRecDepth 100000
namespace Go.Proofs.YtbdfdjdgfanjaaaGreatDoor
open Go.Proofs.Tryz
open List (length_append length_cons length_nil mem_append mem_cons not_mem_nil append_assoc getElem_mem take_of_length_le)
section
open Go.ChangeShapes Go.WideShapes Go.ChangeAt Go.RowKit
theorem cKi{W:World}{cs:List AC}{arr:Array Value}(h:fG W cs (Value.agg arr).cells.toList):dO (bI [] W) (.agg cs) (.agg arr):=by
 have:=dO.agg cs arr.toList (h.mono (bO6 W))
 simpa using this
theorem cJa(pr0:cK)(hs0:pr0.sane)(hw0:pr0.wt <= 1048576):aL prog 4 [bK5 (.agg (jV pr0))] [] ⟨[],[]⟩ λr s'=>r=Cb true /\ s'=⟨[],[]⟩:=by
 refine acX 8 func4 ?_
 refine go 9 λb1=>?_
 refine wcR 0 Y call15 Y (cLb pr0 hs0 J _) (go 1 ?_)
 refine wo Y (bRj 0 Y Y V call16 Y cCo ?_)
 refine go 5 ?_
 exact ⟨.inr Y,_,⟨[],[]⟩,aR Y (aF Y),aA (List.nil_sublist _) (List.nil_sublist _),Y,Y⟩
theorem cHe(H:Type)(enc:TypeId×Value -> H)(W:World)(base:Nat)(args:Array Value)(ds gs:List (DataW H))(before:List MemPlace)
  (hval:∀(j:Nat) t v,Tryz.f4.params[j]?=some t -> args[j]?=some v -> Value.okWide prog W .any base t v)
  (hW:DataW.Whole enc prog Tryz.f4.params.toList Rows.resolveRawSpec.vars false W args.toList ds gs before) (he:bM9 W) (hk:Rows.uptoSmall H (ds++gs)=true):
  Calls prog 4 args W λe W'=>∃v,e=.returned v /\ Rows.resolveRawSpec.post enc prog Tryz.f4 false true false false W args v W':=by
 have hW':=hW
 obtain ⟨p,q,hA0,hV,rfl,hfz,hnd⟩:=hW
 have hA:DataW.TrodAll enc prog W 0 (λ_=>true) true Tryz.f4.params.toList args.toList ds p:=hA0
 rw [Tryz.params4] at hA hval
 obtain ⟨v0,vs0,d0,ds0,p0,q0,hargs,rfl,rfl,h0,r0⟩:=trodAll_cons hA
 obtain ⟨rfl,rfl,rfl⟩:=trodAll_nil r0
 obtain rfl:args=#[v0]:=by cases args;simp_all
 have walk:Calls prog 4 #[v0] W λe w'=>e=.returned (.bool true) /\ Below W.heap.size W w':=by
  have hkk:Rows.uptoBulkAll ([d0]++gs) <= 1048576:=of_decide_eq_true hk
  simp only [List.cons_append,Rows.uptoBulkAll] at hkk
  obtain ⟨arr0,rfl,-⟩:=okWide_struct underlying27 (hval 0 27 v0 rfl rfl)
  obtain ⟨pr0,hp0,hs0,hw0⟩:=Raw.one cL0 h0 J
  have hm0:=bOi (t:=.agg (jV pr0)) (v:=.agg arr0) he (cKi hp0)
  exact aJe (vs:=[.agg arr0]) (cJa pr0 hs0 J) Y λi h h'=>by
   match i,h,h' with
   |0,_,_=>exact hm0
 refine walk.mono λe W' ⟨he,hb⟩=>?_
 subst he
 exact aMc hW' Y Y (by rw [Tryz.params4];intro t ht;simp at ht;subst ht;exact ⟨B6,of_decide_eq_true B6⟩) Y hb
theorem cHz(os:Os){H:Type}(enc:TypeId×Value -> H):∃places,DataW.whole enc prog ((World.doorLaid prog 60 os).forCall (λ_ _=>0) ⟨#[],#[.agg #[.slice none 0 0,.slice none 0 0,.slice none 0 0]],[]⟩).memory Tryz.f4.params.toList Rows.resolveRawSpec.vars false (#[.agg #[.slice none 0 0,.slice none 0 0,.slice none 0 0]]:Array Value).toList 8=some ([.agg [.nil,.nil,.nil]],[],places):=
 ⟨[],B6⟩
theorem cHq(os:Os)(started:os.Started)(H:Type)(enc:TypeId×Value -> H)(F:Stop.Interp):
  ReturnsInHanded {} Tryz.checked os 4 .any ((Rows.OpenSpec.upto Rows.resolveRawSpec).preRow enc prog Tryz.f4 Rows.resolveRawUptoRow.domain false Rows.resolveRawUptoRow.laid) (((Rows.OpenSpec.upto Rows.resolveRawSpec).at F).post enc prog Tryz.f4 false true false false):=by
 obtain ⟨places,hx⟩:=cHz os enc
 refine returnsInHanded_of_row (C:=Tryz.checked) (s:=Rows.OpenSpec.upto Rows.resolveRawSpec) own started B6 func4
  (witness_row_at (enc:=enc) (C:=Tryz.checked) false (World.doorLaid prog 60 os) #[.agg #[.slice none 0 0,.slice none 0 0,.slice none 0 0]] rfl B6 B6 B6
   (OpenSpec.preRow_of_cond 8 hx B6 (λk hk=>by cases hk;kernel_rfl) B6 (bQj os _))) ?_
 intro W base args ds gs before hval hW _ hk _ hL hSh _
 exact cHe H enc W base args ds gs before hval hW (bRl hL hSh) (hk _ Y)
theorem cHr:joinedFacts prog 4 Tryz.f4 (Rows.OpenSpec.upto Rows.resolveRawSpec).bare Rows.resolveRawUptoRow=true:=by
 unfold joinedFacts
 repeat (rw [Bool.and_eq_true];refine And.intro ?_ (by as_aux_lemma=>kernel_rfl))
 as_aux_lemma=>kernel_rfl
theorem cIb:Rows.ResolveRawUptoSaid:=
 OpenClaim.holds_of_cond 4 Tryz.f4 rfl rfl rfl rfl rfl rfl rfl ⟨rfl,rfl,rfl,rfl,rfl⟩ rfl rfl rfl rfl rfl B6 func4 cHr
  (of_decide_eq_true B6) (by unfold Func.isWrapper;first|(rw [if_pos (by decide+kernel)];kernel_rfl)|(rw [if_neg (by decide+kernel)];exact ⟨rfl,rfl⟩))
  (λos started H enc _ F=>by rw [OpenClaim.pre_eq_preRow];exact cHq os started H enc F)
theorem cH0 (f : FuncId) (fn : Func) (hf : Tryz.pinned.checked.prog.funcNamed "lockorder/lockorderlaw05.ResolveRaw" = some f) (hfn : Tryz.pinned.checked.prog.funcs[f]? = some fn) :
  false=Tryz.pinned.checked.prog.looks [] /\ ∀(j:Nat) t,fn.params[j]?=some t -> Tryz.pinned.checked.prog.wantsStandIn t=false:=by
 obtain rfl : f = 4 := Option.some.inj ((show prog.funcNamed "lockorder/lockorderlaw05.ResolveRaw" = some 4 by kernel_rfl).symm.trans hf) |>.symm
 obtain rfl:fn=Tryz.f4:=(Option.some.inj (func4.symm.trans hfn)).symm
 refine ⟨B6,λj t ht=>?_⟩
 rw [Tryz.params4] at ht
 have hm:t∈[27]:=by simpa using Array.mem_of_getElem? ht
 have hall:([27].all λu=>!prog.wantsStandIn u)=true:=B6
 exact (show prog.wantsStandIn t=false by simpa using List.all_eq_true.1 hall t hm)
theorem resolveRaw_card:Rows.ResolveRawUptoCardSaid:=
 Claim7.holds_tied_plain_at .later [] _ _ _ _ cIb Bu B6 Bu resolveRawUpto_row_tie rfl ⟨rfl,rfl⟩ B6 rfl cH0 B6
#print axioms resolveRaw_card
end
end Go.Proofs.YtbdfdjdgfanjaaaGreatDoor
