import Derived.Test.YtbdfdjdgfanjaaaGreatDoorG26J
import Derived.Test.YtbdfdjdgfanjaaaGreatDoorG28J
/-
  Proved: for all arguments lockorderlaw05.ResolveChanged returns true and leaves its arguments as they were. No condition beyond the row's own. (Printed by genlaw_rchg.py.)
-/
set_option linter.all false
set_option synthInstance.maxHeartbeats 1000000
set_option synthInstance.maxSize 1000000
set_option maxHeartbeats 8000000
set_option maxRecDepth 100000
namespace Go.Proofs.YtbdfdjdgfanjaaaGreatDoor
open Go.Proofs.Tryz
open List (length_append length_cons length_nil mem_append mem_cons not_mem_nil append_assoc getElem_mem take_of_length_le)
section
open Go.ChangeShapes Go.WideShapes Go.ChangeAt Go.RowKit
theorem bE2{n:Int}(h:(Lit.int .i64 n).wf=true):-9223372036854775808 <= n /\ n <= 9223372036854775807:=by
 simp only [Lit.wf,Bool.and_eq_true,decide_eq_true_eq] at h
 exact h
theorem cR0(l0:List Int)(n1:Int)(n2:Int)(n3:Int)(n4:Int)(n5:Int)(n6:Int)(n7:Int)(n8:Int)(hl0:l0.length <= 9223372036854775807)(hn1:-9223372036854775808 <= n1 /\ n1 <= 9223372036854775807)(hn2:-9223372036854775808 <= n2 /\ n2 <= 9223372036854775807)(hn3:-9223372036854775808 <= n3 /\ n3 <= 9223372036854775807)(hn4:-9223372036854775808 <= n4 /\ n4 <= 9223372036854775807)(hn5:-9223372036854775808 <= n5 /\ n5 <= 9223372036854775807)(hn6:-9223372036854775808 <= n6 /\ n6 <= 9223372036854775807)(hn7:-9223372036854775808 <= n7 /\ n7 <= 9223372036854775807)(hn8:-9223372036854775808 <= n8 /\ n8 <= 9223372036854775807):aL prog 3 [bK5 (.c (.sl l0.length (l0.map λi=>Vi i))),Ci n1,Ci n2,Ci n3,Ci n4,Ci n5,Ci n6,Ci n7,Ci n8] [] ⟨[],[]⟩ λr s'=>r=Cb true /\ s'=⟨[],[]⟩:=by
 refine acX 41 func3 ?_
 refine go 8 ?_
 refine wc0 Y call14 Y (aHs l0 J _) ?_
 rintro _ _ ⟨p,rfl,hp,rfl⟩
 have hfa:=hp.facts
 have hfw:=hfa.wt
 have hpf:=hp.funcs
 refine go 4 ?_
 refine wc0 Y call13 Y (bTz p n1 n2 n3 n4 hfa.sane J J hn4 _) ?_
 rintro _ _ ⟨⟨q,rfl,hq⟩,rfl⟩
 have hqw:=hq.wt
 have hqs:=hq.sane
 refine go 7 λb1=>?_
 refine wcR 0 Y call15 Y (cLb q hqs J _) (go 6 ?_)
 refine wc0 Y call13 Y (bTz q n5 n6 n7 n8 hqs J (by have:=hq.funcs;omega) hn8 _) ?_
 rintro _ _ ⟨⟨q2,rfl,hq2⟩,rfl⟩
 have hq2w:=hq2.wt
 have hq2s:=hq2.sane
 refine wcR 0 Y call15 Y (cLb q2 hq2s J _) (go 2 ?_)
 refine wo Y (bRj 0 Y Y V call16 Y cCo ?_)
 refine go 5 ?_
 exact ⟨.inr Y,_,⟨[],[]⟩,aR Y (aF Y),aA (List.nil_sublist _) (List.nil_sublist _),Y,Y⟩
theorem cRu(H:Type)(enc:TypeId×Value -> H)(W:World)(base:Nat)(args:Array Value)(ds gs:List (DataW H))(before:List MemPlace)
  (hval:∀(j:Nat) t v,Tryz.f3.params[j]?=some t -> args[j]?=some v -> Value.okWide prog W .any base t v)
  (hW:DataW.Whole enc prog Tryz.f3.params.toList Rows.resolveChangedSpec.vars false W args.toList ds gs before) (he:bM9 W):
  Calls prog 3 args W λe W'=>∃v,e=.returned v /\ Rows.resolveChangedSpec.post enc prog Tryz.f3 false true false false W args v W':=by
 have hW':=hW
 obtain ⟨p,q,hA0,hV,rfl,hfz,hnd⟩:=hW
 have hA:DataW.TrodAll enc prog W 0 (λ_=>true) true Tryz.f3.params.toList args.toList ds p:=hA0
 rw [Tryz.params3] at hA hval
 obtain ⟨v0,vs0,d0,ds0,p0,q0,hargs,rfl,rfl,h0,r0⟩:=trodAll_cons hA
 obtain ⟨v1,vs1,d1,ds1,p1,q1,rfl,rfl,rfl,h1,r1⟩:=trodAll_cons r0
 obtain ⟨v2,vs2,d2,ds2,p2,q2,rfl,rfl,rfl,h2,r2⟩:=trodAll_cons r1
 obtain ⟨v3,vs3,d3,ds3,p3,q3,rfl,rfl,rfl,h3,r3⟩:=trodAll_cons r2
 obtain ⟨v4,vs4,d4,ds4,p4,q4,rfl,rfl,rfl,h4,r4⟩:=trodAll_cons r3
 obtain ⟨v5,vs5,d5,ds5,p5,q5,rfl,rfl,rfl,h5,r5⟩:=trodAll_cons r4
 obtain ⟨v6,vs6,d6,ds6,p6,q6,rfl,rfl,rfl,h6,r6⟩:=trodAll_cons r5
 obtain ⟨v7,vs7,d7,ds7,p7,q7,rfl,rfl,rfl,h7,r7⟩:=trodAll_cons r6
 obtain ⟨v8,vs8,d8,ds8,p8,q8,rfl,rfl,rfl,h8,r8⟩:=trodAll_cons r7
 obtain ⟨rfl,rfl,rfl⟩:=trodAll_nil r8
 obtain rfl:args=#[v0,v1,v2,v3,v4,v5,v6,v7,v8]:=by cases args;simp_all
 have walk:Calls prog 3 #[v0,v1,v2,v3,v4,v5,v6,v7,v8] W λe w'=>e=.returned (.bool true) /\ Below W.heap.size W w':=by
  obtain ⟨l0,a0,cap0,rfl,hc0,hcm0,hr0⟩:=aHn (hval 0 22 v0 rfl rfl) h0
  obtain ⟨n1,rfl,rfl,rfl,hn1⟩:=open_int underlying3 (hval 1 3 v1 rfl rfl) h1
  obtain ⟨n2,rfl,rfl,rfl,hn2⟩:=open_int underlying3 (hval 2 3 v2 rfl rfl) h2
  obtain ⟨n3,rfl,rfl,rfl,hn3⟩:=open_int underlying3 (hval 3 3 v3 rfl rfl) h3
  obtain ⟨n4,rfl,rfl,rfl,hn4⟩:=open_int underlying3 (hval 4 3 v4 rfl rfl) h4
  obtain ⟨n5,rfl,rfl,rfl,hn5⟩:=open_int underlying3 (hval 5 3 v5 rfl rfl) h5
  obtain ⟨n6,rfl,rfl,rfl,hn6⟩:=open_int underlying3 (hval 6 3 v6 rfl rfl) h6
  obtain ⟨n7,rfl,rfl,rfl,hn7⟩:=open_int underlying3 (hval 7 3 v7 rfl rfl) h7
  obtain ⟨n8,rfl,rfl,rfl,hn8⟩:=open_int underlying3 (hval 8 3 v8 rfl rfl) h8
  have hm0:=bOi (t:=.c (.sl l0.length (l0.map λi=>Vi i))) (v:=.slice a0 l0.length cap0) he (aLg hr0 (by unfold maxLen at hcm0;omega))
  exact aJe (vs:=[.slice a0 l0.length cap0,.int .i64 n1,.int .i64 n2,.int .i64 n3,.int .i64 n4,.int .i64 n5,.int .i64 n6,.int .i64 n7,.int .i64 n8]) (cR0 l0 n1 n2 n3 n4 n5 n6 n7 n8 (by unfold maxLen at hcm0;omega) (bE2 hn1) (bE2 hn2) (bE2 hn3) (bE2 hn4) (bE2 hn5) (bE2 hn6) (bE2 hn7) (bE2 hn8)) Y λi h h'=>by
   match i,h,h' with
   |0,_,_=>exact hm0
   |1,_,_=>exact .c _ _ (.val _ rfl)
   |2,_,_=>exact .c _ _ (.val _ rfl)
   |3,_,_=>exact .c _ _ (.val _ rfl)
   |4,_,_=>exact .c _ _ (.val _ rfl)
   |5,_,_=>exact .c _ _ (.val _ rfl)
   |6,_,_=>exact .c _ _ (.val _ rfl)
   |7,_,_=>exact .c _ _ (.val _ rfl)
   |8,_,_=>exact .c _ _ (.val _ rfl)
 refine walk.mono λe W' ⟨he,hb⟩=>?_
 subst he
 exact aMc hW' Y Y (by rw [Tryz.params3];intro t ht;simp at ht;rcases ht with rfl|rfl|rfl|rfl|rfl|rfl|rfl|rfl|rfl<;>exact ⟨B6,of_decide_eq_true B6⟩) Y hb
theorem cRx(os:Os){H:Type}(enc:TypeId×Value -> H):∃places,DataW.whole enc prog ((World.doorLaid prog 60 os).forCall (λ_ _=>0) ⟨#[],#[.slice none 0 0,.int .i64 0,.int .i64 0,.int .i64 0,.int .i64 0,.int .i64 0,.int .i64 0,.int .i64 0,.int .i64 0],[]⟩).memory Tryz.f3.params.toList Rows.resolveChangedSpec.vars false (#[.slice none 0 0,.int .i64 0,.int .i64 0,.int .i64 0,.int .i64 0,.int .i64 0,.int .i64 0,.int .i64 0,.int .i64 0]:Array Value).toList 8=some ([.nil,.lit (.int .i64 0),.lit (.int .i64 0),.lit (.int .i64 0),.lit (.int .i64 0),.lit (.int .i64 0),.lit (.int .i64 0),.lit (.int .i64 0),.lit (.int .i64 0)],[],places):=
 ⟨[],B6⟩
theorem cRw(os:Os)(started:os.Started)(H:Type)(enc:TypeId×Value -> H)(F:Stop.Interp):
  ReturnsInHanded {} Tryz.checked os 3 .any ((OpenSpec.ofChange Rows.resolveChangedSpec).preRow enc prog Tryz.f3 Rows.resolveChangedRow.domain false Rows.resolveChangedRow.laid) (((OpenSpec.ofChange Rows.resolveChangedSpec).at F).post enc prog Tryz.f3 false true false false):=by
 obtain ⟨places,hx⟩:=cRx os enc
 refine returnsInHanded_of_row (C:=Tryz.checked) (s:=OpenSpec.ofChange Rows.resolveChangedSpec) own started B6 func3
  (witness_row_at (enc:=enc) (C:=Tryz.checked) false (World.doorLaid prog 60 os) #[.slice none 0 0,.int .i64 0,.int .i64 0,.int .i64 0,.int .i64 0,.int .i64 0,.int .i64 0,.int .i64 0,.int .i64 0] rfl B6 B6 B6
   (OpenSpec.preRow_of_cond 8 hx B6 (λk hk=>by cases hk) B6 (bQj os _))) ?_
 intro W base args ds gs before hval hW _ _ _ hL hSh _
 exact cRu H enc W base args ds gs before hval hW (bRl hL hSh)
theorem cRv:joinedFacts prog 3 Tryz.f3 (OpenSpec.ofChange Rows.resolveChangedSpec).bare Rows.resolveChangedRow=true:=by
 unfold joinedFacts
 repeat (rw [Bool.and_eq_true];refine And.intro ?_ (by as_aux_lemma=>kernel_rfl))
 as_aux_lemma=>kernel_rfl
theorem cRz:Rows.ResolveChangedSaid:=
 OpenClaim.holds_of_cond 3 Tryz.f3 rfl rfl rfl rfl rfl rfl rfl ⟨rfl,rfl,rfl,rfl,rfl⟩ rfl rfl rfl rfl rfl B6 func3 cRv
  (of_decide_eq_true B6) (by unfold Func.isWrapper;first|(rw [if_pos (by decide+kernel)];kernel_rfl)|(rw [if_neg (by decide+kernel)];exact ⟨rfl,rfl⟩))
  (λos started H enc _ F=>by rw [OpenClaim.pre_eq_preRow];exact cRw os started H enc F)
theorem cRy (f : FuncId) (fn : Func) (hf : Tryz.pinned.checked.prog.funcNamed "lockorder/lockorderlaw05.ResolveChanged" = some f) (hfn : Tryz.pinned.checked.prog.funcs[f]? = some fn) :
  false=Tryz.pinned.checked.prog.looks [] /\ ∀(j:Nat) t,fn.params[j]?=some t -> Tryz.pinned.checked.prog.wantsStandIn t=false:=by
 obtain rfl : f = 3 := Option.some.inj ((show prog.funcNamed "lockorder/lockorderlaw05.ResolveChanged" = some 3 by kernel_rfl).symm.trans hf) |>.symm
 obtain rfl:fn=Tryz.f3:=(Option.some.inj (func3.symm.trans hfn)).symm
 refine ⟨B6,λj t ht=>?_⟩
 rw [Tryz.params3] at ht
 have hm:t∈[22,3,3,3,3,3,3,3,3]:=by simpa using Array.mem_of_getElem? ht
 have hall:([22,3,3,3,3,3,3,3,3].all λu=>!prog.wantsStandIn u)=true:=B6
 exact (show prog.wantsStandIn t=false by simpa using List.all_eq_true.1 hall t hm)
theorem resolveChanged_card:Rows.ResolveChangedCardSaid:=
 Claim7.holds_tied_plain_at .later [] _ _ _ _ cRz Bu B6 Bu resolveChanged_row_tie rfl ⟨rfl,rfl⟩ B6 rfl cRy B6
#print axioms resolveChanged_card
end
end Go.Proofs.YtbdfdjdgfanjaaaGreatDoor
