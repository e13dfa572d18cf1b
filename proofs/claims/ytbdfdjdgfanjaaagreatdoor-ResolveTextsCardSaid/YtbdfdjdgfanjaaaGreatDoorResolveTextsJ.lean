/-
  Proved: for all arguments lockorderlaw05.ResolveTexts returns true and leaves its arguments as they were. No condition beyond the row's own. (Printed by genlaw_rtexts.py.)
-/
import Derived.Test.YtbdfdjdgfanjaaaGreatDoorM0J
import Derived.Test.YtbdfdjdgfanjaaaGreatDoorG3J
import Derived.Test.YtbdfdjdgfanjaaaGreatDoorG24J
import Derived.Test.YtbdfdjdgfanjaaaGreatDoorG25J
import Derived.Test.YtbdfdjdgfanjaaaGreatDoorG9J
import Derived.Test.YtbdfdjdgfanjaaaGreatDoorG6J
set_option linter.all false
set_option synthInstance.maxHeartbeats 1000000
set_option synthInstance.maxSize 1000000
set_option maxHeartbeats 8000000
set_option maxRecDepth 100000
namespace Go.Proofs.YtbdfdjdgfanjaaaGreatDoor
open Go.Proofs.Tryz
open List (length_append length_cons length_nil mem_append mem_cons not_mem_nil append_assoc getElem_mem take_of_length_le)
section
open Go.ChangeShapes Go.WideShapes Go.ChangeAt Go.RowKit
theorem cRo(is:List Nat)(j:Nat)(h:is.length=4):bytes (txT is++[125,32,102,117,110,99,32,102,40,120,44,32,109,117,116,101,120,32,109,41,32,123,32]++txB j)=bytes (txT (is++[j])):=by rw [cQ5,if_pos h];rfl
theorem cRq(is:List Nat)(j:Nat)(h:¬is.length=4):bytes (txT is++txB j)=bytes (txT (is++[j])):=by rw [cQ5,if_neg h]
theorem cRi(is:List Nat)(h:is.length <= 4):bytes (txT is++[125,32,102,117,110,99,32,102,40,110,44,32,109,117,116,101,120,32,109,41,32,123,32]++[125])=bytes (txE is):=by unfold txE;rw [if_pos h];rfl
theorem cRh(is:List Nat)(h:¬is.length <= 4):bytes (txT is++[125])=bytes (txE is):=by unfold txE;rw [if_neg h]
theorem cRg(j:Nat)(hj:j<txW.length):txW[j]=bytes (txB j):=sI (by rw [cRd];rfl)
theorem cQ2(l0:List Int)(hl0:l0.length <= 9223372036854775807):aL prog 5 [bK5 (.c (.sl l0.length (l0.map λi=>Vi i)))] [] ⟨[],[]⟩ λr s'=>r=Cb true /\ s'=⟨[],[]⟩:=by
 refine acX 58 func5 ?_
 refine go 7 ?_
 refine wo Y (wbs Tryz.t9 [Vs ⟨#[]⟩,Vs ⟨#[]⟩,Vs ⟨#[]⟩,Vs ⟨#[]⟩,Vs ⟨#[]⟩,Vs ⟨#[]⟩,Vs ⟨#[]⟩,Vs ⟨#[]⟩,Vs ⟨#[]⟩,Vs ⟨#[]⟩,Vs ⟨#[]⟩,Vs ⟨#[]⟩,Vs ⟨#[]⟩,Vs ⟨#[]⟩,Vs ⟨#[]⟩,Vs ⟨#[]⟩,Vs ⟨#[]⟩,Vs ⟨#[]⟩,Vs ⟨#[]⟩,Vs ⟨#[]⟩,Vs ⟨#[]⟩,Vs ⟨#[]⟩] Y Y V (.cons Y (.cons Y (.cons Y (.cons Y (.cons Y (.cons Y (.cons Y (.cons Y (.cons Y (.cons Y (.cons Y (.cons Y (.cons Y (.cons Y (.cons Y (.cons Y (.cons Y (.cons Y (.cons Y (.cons Y (.cons Y (.cons Y .nil)))))))))))))))))))))) underlying33 B6 Y V V B6 B6 (r:=txW.map λx=>Vs x) B6 ?_)
 refine go 15 ?_
 refine fM (λg:List Nat=>⟨58,[],⟨[],[]⟩,[(5,nI g.length),(4,Cs (bytes (txT g))),(0,bK5 (.c (.sl l0.length (l0.map λi=>Vi i)))),(3,.c (.sl txW.length (txW.map λx=>Vs x)))]⟩) (λg=>g.length <= l0.length /\ g.length <= 8 /\ ∀j,j∈g -> j<22) (λg=>8-g.length) [] (aG Y (.refl _) (aG Y (jX (show _=bytes (txT []) from Y)) (sA Y))) ⟨Nat.zero_le _,Nat.zero_le _,λ_ h=>DV⟩ ?_
 rintro is ⟨hk1,hk2,hk3⟩
 show AWp prog _ (⟨58,[],⟨[],[]⟩,[(5,nI is.length),(4,Cs (bytes (txT is))),(0,bK5 (.c (.sl l0.length (l0.map λi=>Vi i)))),(3,.c (.sl txW.length (txW.map λx=>Vs x)))]⟩:AS) _
 have htl:=cQ8 is
 refine go 6 ?_
 by_cases h1:((is.length:Nat):Int)<((l0.length:Nat):Int)
 ·refine wcp true Y (jZ h1) (go 2 ?_)
  by_cases h2:((is.length:Nat):Int)<8
  ·refine wcp true Y (jZ h2) (go 12 ?_)
   by_cases h4:((is.length:Nat):Int)=4
   ·refine wcp true Y (eR h4) (go 5 ?_)
    refine wyz Y (cz (txT is) [125,32,102,117,110,99,32,102,40,120,44,32,109,117,116,101,120,32,109,41,32,123,32] Y Y Y Y Y) (go 8 ?_)
    refine wyz Y (rT (λi=>Vi i) l0 is.length Y Y Y Y J runUnderlying22 sizeOf3) (go 3 ?_)
    have hz9:txW.length=22:=Y
    obtain ⟨j,hj,hlj0⟩:=bEj (l0[is.length]) (((txW.length:Nat):Int)) J
    have hlj:j<txW.length:=J
    refine wc0 Y call17 Y (bEl (l0[is.length]) (((txW.length:Nat):Int)) j J J hj _) ?_
    rintro _ _ ⟨rfl,rfl⟩
    have h12:=cQ3 j
    refine wyz Y (rT (λx=>Vs x) txW j Y Y Y Y hlj runUnderlying33 sizeOf9) (go 1 ?_)
    refine eA 34 Y (jX (cRg j hlj)) ?_
    refine wyz Y (cz ((txT is)++[125,32,102,117,110,99,32,102,40,120,44,32,109,117,116,101,120,32,109,41,32,123,32]) (txB j) Y Y Y Y Y) (go 6 ?_)
    refine wad Y (go 2 ?_)
    refine ⟨is++[j],⟨DR,DR,λi hi=>Fw⟩,DR,aG Y (gQ M) (aG Y (jX (cRo is j J)) (sA Y))⟩
   refine wcp false Y (eD h4) (go 10 ?_)
   refine wyz Y (rT (λi=>Vi i) l0 is.length Y Y Y Y J runUnderlying22 sizeOf3) (go 3 ?_)
   have hz9:txW.length=22:=Y
   obtain ⟨j,hj,hlj0⟩:=bEj (l0[is.length]) (((txW.length:Nat):Int)) J
   have hlj:j<txW.length:=J
   refine wc0 Y call17 Y (bEl (l0[is.length]) (((txW.length:Nat):Int)) j J J hj _) ?_
   rintro _ _ ⟨rfl,rfl⟩
   have h12:=cQ3 j
   refine wyz Y (rT (λx=>Vs x) txW j Y Y Y Y hlj runUnderlying33 sizeOf9) (go 1 ?_)
   refine eA 34 Y (jX (cRg j hlj)) ?_
   refine wyz Y (cz (txT is) (txB j) Y Y Y Y Y) (go 6 ?_)
   refine wad Y (go 2 ?_)
   refine ⟨is++[j],⟨DR,DR,λi hi=>Fw⟩,DR,aG Y (gQ M) (aG Y (jX (cRq is j J)) (sA Y))⟩
  refine wcp false Y (jQ h2) (go 14 ?_)
  by_cases h8:((l0.length:Nat):Int) <= 4
  ·refine wcp true Y (aPz h8) (go 5 ?_)
   refine wyz Y (cz (txT is) [125,32,102,117,110,99,32,102,40,110,44,32,109,117,116,101,120,32,109,41,32,123,32] Y Y Y Y Y) (go 6 ?_)
   refine wyz Y (cz ((txT is)++[125,32,102,117,110,99,32,102,40,110,44,32,109,117,116,101,120,32,109,41,32,123,32]) [125] Y Y Y Y Y) ?_
   refine eA 43 Y (jX (cRi is J)) ?_
   obtain ⟨htx,hte,hts,htw⟩:=cQ0 is hk3 hk2
   refine wo Y (aDc Y Y V Y underlying9 underlying38 underlying5 F6 (N:=(txE is).length) (by rw [kT]) (cs:=iF (txE is)) Y ?_)
   refine wc0 Y call18 Y (bGw (txE is) _) ?_
   rintro _ _ ⟨hrr,rfl⟩
   rw [htx] at hrr
   dsimp only at hrr
   subst hrr
   refine go 13 λb1=>?_
   refine wcp true Y B7 (go 2 ?_)
   refine wcR 0 Y call15 Y (cLb (txP is) hts J _) (go 2 ?_)
   refine wo Y (bRj 0 Y Y V call16 Y cCo ?_)
   refine go 5 ?_
   exact ⟨.inr Y,_,⟨[],[]⟩,aR Y (aF Y),aA (List.nil_sublist _) (List.nil_sublist _),Y,Y⟩
  refine wcp false Y (aPx h8) (go 8 ?_)
  refine wyz Y (cz (txT is) [125] Y Y Y Y Y) ?_
  refine eA 43 Y (jX (cRh is J)) ?_
  obtain ⟨htx,hte,hts,htw⟩:=cQ0 is hk3 hk2
  refine wo Y (aDc Y Y V Y underlying9 underlying38 underlying5 F6 (N:=(txE is).length) (by rw [kT]) (cs:=iF (txE is)) Y ?_)
  refine wc0 Y call18 Y (bGw (txE is) _) ?_
  rintro _ _ ⟨hrr,rfl⟩
  rw [htx] at hrr
  dsimp only at hrr
  subst hrr
  refine go 13 λb2=>?_
  refine wcp true Y B7 (go 2 ?_)
  refine wcR 0 Y call15 Y (cLb (txP is) hts J _) (go 2 ?_)
  refine wo Y (bRj 0 Y Y V call16 Y cCo ?_)
  refine go 5 ?_
  exact ⟨.inr Y,_,⟨[],[]⟩,aR Y (aF Y),aA (List.nil_sublist _) (List.nil_sublist _),Y,Y⟩
 refine wcp false Y (jQ h1) (go 17 ?_)
 by_cases h12:((l0.length:Nat):Int) <= 4
 ·refine wcp true Y (aPz h12) (go 5 ?_)
  refine wyz Y (cz (txT is) [125,32,102,117,110,99,32,102,40,110,44,32,109,117,116,101,120,32,109,41,32,123,32] Y Y Y Y Y) (go 6 ?_)
  refine wyz Y (cz ((txT is)++[125,32,102,117,110,99,32,102,40,110,44,32,109,117,116,101,120,32,109,41,32,123,32]) [125] Y Y Y Y Y) ?_
  refine eA 43 Y (jX (cRi is J)) ?_
  obtain ⟨htx,hte,hts,htw⟩:=cQ0 is hk3 hk2
  refine wo Y (aDc Y Y V Y underlying9 underlying38 underlying5 F6 (N:=(txE is).length) (by rw [kT]) (cs:=iF (txE is)) Y ?_)
  refine wc0 Y call18 Y (bGw (txE is) _) ?_
  rintro _ _ ⟨hrr,rfl⟩
  rw [htx] at hrr
  dsimp only at hrr
  subst hrr
  refine go 13 λb3=>?_
  refine wcp true Y B7 (go 2 ?_)
  refine wcR 0 Y call15 Y (cLb (txP is) hts J _) (go 2 ?_)
  refine wo Y (bRj 0 Y Y V call16 Y cCo ?_)
  refine go 5 ?_
  exact ⟨.inr Y,_,⟨[],[]⟩,aR Y (aF Y),aA (List.nil_sublist _) (List.nil_sublist _),Y,Y⟩
 refine wcp false Y (aPx h12) (go 8 ?_)
 refine wyz Y (cz (txT is) [125] Y Y Y Y Y) ?_
 refine eA 43 Y (jX (cRh is J)) ?_
 obtain ⟨htx,hte,hts,htw⟩:=cQ0 is hk3 hk2
 refine wo Y (aDc Y Y V Y underlying9 underlying38 underlying5 F6 (N:=(txE is).length) (by rw [kT]) (cs:=iF (txE is)) Y ?_)
 refine wc0 Y call18 Y (bGw (txE is) _) ?_
 rintro _ _ ⟨hrr,rfl⟩
 rw [htx] at hrr
 dsimp only at hrr
 subst hrr
 refine go 13 λb4=>?_
 refine wcp true Y B7 (go 2 ?_)
 refine wcR 0 Y call15 Y (cLb (txP is) hts J _) (go 2 ?_)
 refine wo Y (bRj 0 Y Y V call16 Y cCo ?_)
 refine go 5 ?_
 exact ⟨.inr Y,_,⟨[],[]⟩,aR Y (aF Y),aA (List.nil_sublist _) (List.nil_sublist _),Y,Y⟩
theorem cQt(H:Type)(enc:TypeId×Value -> H)(W:World)(base:Nat)(args:Array Value)(ds gs:List (DataW H))(before:List MemPlace)
  (hval:∀(j:Nat) t v,Tryz.f5.params[j]?=some t -> args[j]?=some v -> Value.okWide prog W .any base t v)
  (hW:DataW.Whole enc prog Tryz.f5.params.toList Rows.resolveTextsSpec.vars false W args.toList ds gs before) (he:bM9 W):
  Calls prog 5 args W λe W'=>∃v,e=.returned v /\ Rows.resolveTextsSpec.post enc prog Tryz.f5 false true false false W args v W':=by
 have hW':=hW
 obtain ⟨p,q,hA0,hV,rfl,hfz,hnd⟩:=hW
 have hA:DataW.TrodAll enc prog W 0 (λ_=>true) true Tryz.f5.params.toList args.toList ds p:=hA0
 rw [Tryz.params5] at hA hval
 obtain ⟨v0,vs0,d0,ds0,p0,q0,hargs,rfl,rfl,h0,r0⟩:=trodAll_cons hA
 obtain ⟨rfl,rfl,rfl⟩:=trodAll_nil r0
 obtain rfl:args=#[v0]:=by cases args;simp_all
 have walk:Calls prog 5 #[v0] W λe w'=>e=.returned (.bool true) /\ Below W.heap.size W w':=by
  obtain ⟨l0,a0,cap0,rfl,hc0,hcm0,hr0⟩:=aHn (hval 0 22 v0 rfl rfl) h0
  have hm0:=bOi (t:=.c (.sl l0.length (l0.map λi=>Vi i))) (v:=.slice a0 l0.length cap0) he (aLg hr0 (by unfold maxLen at hcm0;omega))
  exact aJe (vs:=[.slice a0 l0.length cap0]) (cQ2 l0 (by unfold maxLen at hcm0;omega)) Y λi h h'=>by
   match i,h,h' with
   |0,_,_=>exact hm0
 refine walk.mono λe W' ⟨he,hb⟩=>?_
 subst he
 exact aMc hW' Y Y (by rw [Tryz.params5];intro t ht;simp at ht;subst ht;exact ⟨B6,of_decide_eq_true B6⟩) Y hb
theorem cQw(os:Os){H:Type}(enc:TypeId×Value -> H):∃places,DataW.whole enc prog ((World.doorLaid prog 60 os).forCall (λ_ _=>0) ⟨#[],#[.slice none 0 0],[]⟩).memory Tryz.f5.params.toList Rows.resolveTextsSpec.vars false (#[.slice none 0 0]:Array Value).toList 8=some ([.nil],[],places):=
 ⟨[],B6⟩
theorem cQu(os:Os)(started:os.Started)(H:Type)(enc:TypeId×Value -> H)(F:Stop.Interp):
  ReturnsInHanded {} Tryz.checked os 5 .any ((OpenSpec.ofChange Rows.resolveTextsSpec).preRow enc prog Tryz.f5 Rows.resolveTextsRow.domain false Rows.resolveTextsRow.laid) (((OpenSpec.ofChange Rows.resolveTextsSpec).at F).post enc prog Tryz.f5 false true false false):=by
 obtain ⟨places,hx⟩:=cQw os enc
 refine returnsInHanded_of_row (C:=Tryz.checked) (s:=OpenSpec.ofChange Rows.resolveTextsSpec) own started B6 func5
  (witness_row_at (enc:=enc) (C:=Tryz.checked) false (World.doorLaid prog 60 os) #[.slice none 0 0] rfl B6 B6 B6
   (OpenSpec.preRow_of_cond 8 hx B6 (λk hk=>by cases hk) B6 (bQj os _))) ?_
 intro W base args ds gs before hval hW _ _ _ hL hSh _
 exact cQt H enc W base args ds gs before hval hW (bRl hL hSh)
theorem cQv:joinedFacts prog 5 Tryz.f5 (OpenSpec.ofChange Rows.resolveTextsSpec).bare Rows.resolveTextsRow=true:=by
 unfold joinedFacts
 repeat (rw [Bool.and_eq_true];refine And.intro ?_ (by as_aux_lemma=>kernel_rfl))
 as_aux_lemma=>kernel_rfl
theorem cQz:Rows.ResolveTextsSaid:=
 OpenClaim.holds_of_cond 5 Tryz.f5 rfl rfl rfl rfl rfl rfl rfl ⟨rfl,rfl,rfl,rfl,rfl⟩ rfl rfl rfl rfl rfl B6 func5 cQv
  (of_decide_eq_true B6) (by unfold Func.isWrapper;first|(rw [if_pos (by decide+kernel)];kernel_rfl)|(rw [if_neg (by decide+kernel)];exact ⟨rfl,rfl⟩))
  (λos started H enc _ F=>by rw [OpenClaim.pre_eq_preRow];exact cQu os started H enc F)
theorem cQy (f : FuncId) (fn : Func) (hf : Tryz.pinned.checked.prog.funcNamed "lockorder/lockorderlaw05.ResolveTexts" = some f) (hfn : Tryz.pinned.checked.prog.funcs[f]? = some fn) :
  false=Tryz.pinned.checked.prog.looks [] /\ ∀(j:Nat) t,fn.params[j]?=some t -> Tryz.pinned.checked.prog.wantsStandIn t=false:=by
 obtain rfl : f = 5 := Option.some.inj ((show prog.funcNamed "lockorder/lockorderlaw05.ResolveTexts" = some 5 by kernel_rfl).symm.trans hf) |>.symm
 obtain rfl:fn=Tryz.f5:=(Option.some.inj (func5.symm.trans hfn)).symm
 refine ⟨B6,λj t ht=>?_⟩
 rw [Tryz.params5] at ht
 have hm:t∈[22]:=by simpa using Array.mem_of_getElem? ht
 have hall:([22].all λu=>!prog.wantsStandIn u)=true:=B6
 exact (show prog.wantsStandIn t=false by simpa using List.all_eq_true.1 hall t hm)
theorem resolveTexts_card:Rows.ResolveTextsCardSaid:=
 Claim7.holds_tied_plain_at .later [] _ _ _ _ cQz Bu B6 Bu resolveTexts_row_tie rfl ⟨rfl,rfl⟩ B6 rfl cQy B6
#print axioms resolveTexts_card
end
end Go.Proofs.YtbdfdjdgfanjaaaGreatDoor
