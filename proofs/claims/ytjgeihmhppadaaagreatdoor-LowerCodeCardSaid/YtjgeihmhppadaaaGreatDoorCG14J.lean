import Derived.Test.YtjgeihmhppadaaaGreatDoorCG13J
set_option linter.all false
set_option synthInstance.maxHeartbeats 1000000
set_option synthInstance.maxSize 1000000
set_option maxHeartbeats 8000000
set_option maxRecDepth 100000
namespace Go.Proofs.YtjgeihmhppadaaaGreatDoor
open Go.Proofs.Tryz
open List (length_append length_cons length_nil mem_append mem_cons not_mem_nil append_assoc getElem_mem take_of_length_le)
section
open Go.ChangeShapes Go.WideShapes Go.ChangeAt Go.RowKit
def TX(l0:List Int)(hl0:l0.length <= 9223372036854775807):aR prog 5 [cC (.c (.sl l0.length (l0.map λi=>aA i)))] [] ⟨[],[]⟩ λr s'=>r=ap true /\ s'=⟨[],[]⟩:=by
 refine bN 50 func5 ?_;refine go 8 ?_;refine cy J call8 J (Ts l0 Y _) ?_;rintro _ _ ⟨p,rfl,hp,rfl⟩;have hfa:=hp.facts;have hfw:=hfa.wt;have hpf:=hp.funcs;refine go 7 λb1=>?_;refine aW J (nd 0 [] J J V call9 J J (M5 p hfa.sane Y _) dL dL (λ_=>dL) ?_);rintro _ _ ⟨rfl,rfl⟩;rw [Bd hp];dsimp only;obtain ⟨hul,hup⟩:=Rz (Bd hp);obtain ⟨u,hu⟩:∃u,u=kV p:=⟨_,rfl⟩;rw [←hu] at hul hup⊢;refine go 15 λb2=>?_;refine cy J call18 J (SF p hfa.sane Y _ _) ?_;rintro _ _ ⟨rfl,rfl⟩;rw [Bd hp,←hu];dsimp only;refine go 15 λb3=>?_;refine aC true J ge (go 2 ?_);refine aC true J ge (go 3 ?_);refine aC true J ge (go 3 ?_);refine aC true J ge (go 4 ?_);obtain ⟨i1,i2,i3,i4⟩:=Pj (p:=p) Y;rw [←hu] at i1 i2 i3 i4;refine m4 J call12 J (PN u i1 i2 i3 i4 _) (go 2 ?_);refine aW J (OL 0 J J V call13 J UQ ?_);refine go 5 ?_;exact ⟨.inr J,_,⟨[],[]⟩,bT J (bM J),aj (zg _) (zg _),J,J⟩
def SD(H:Type)(enc:bA×aM -> H)(W:aV)(base:Nat)(args:Array aM)(ds gs:List (DataW H))(before:List MemPlace)
  (hval:∀(j:Nat) t v,Tryz.f5.params[j]?=some t -> args[j]?=some v -> Value.okWide prog W .any base t v)
  (hW:DataW.Whole enc prog Tryz.f5.params.toList Rows.lowerCodeSpec.vars false W args.toList ds gs before) (he:nH W):
  Calls prog 5 args W λe W'=>∃v,e=.returned v /\ Rows.lowerCodeSpec.post enc prog Tryz.f5 false true false false W args v W':=by
 have hW':=hW;obtain ⟨p,q,hA0,hV,rfl,hfz,hnd⟩:=hW;have hA:DataW.TrodAll enc prog W 0 (λ_=>true) true Tryz.f5.params.toList args.toList ds p:=hA0;rw [Tryz.params5] at hA hval;obtain ⟨v0,vs0,d0,ds0,p0,q0,hargs,rfl,rfl,h0,r0⟩:=trodAll_cons hA;obtain ⟨rfl,rfl,rfl⟩:=trodAll_nil r0;obtain rfl:args=#[v0]:=by cases args;simp_all
 have walk:Calls prog 5 #[v0] W λe w'=>e=.returned (.bool true) /\ Below W.heap.size W w':=by
  obtain ⟨l0,a0,cap0,rfl,hc0,hcm0,hr0⟩:=Q3 (hval 0 22 v0 rfl rfl) h0;have hm0:=Qk (t:=.c (.sl l0.length (l0.map λi=>aA i))) (v:=.slice a0 l0.length cap0) he (TO hr0 (by unfold maxLen at hcm0;omega));exact Nm (vs:=[.slice a0 l0.length cap0]) (TX l0 (by unfold maxLen at hcm0;omega)) J λi h h'=>by
   match i,h,h' with
   |0,_,_=>exact hm0
 refine walk.mono λe W' ⟨he,hb⟩=>?_;subst he;exact TD hW' J J (by rw [Tryz.params5];intro t ht;simp at ht;subst ht;exact ⟨aQ,of_decide_eq_true aQ⟩) J hb
def Rp(os:Os){H:Type}(enc:bA×aM -> H):∃places,DataW.whole enc prog ((World.doorLaid prog 60 os).forCall (λ_ _=>0) ⟨#[],#[.slice none 0 0],[]⟩).memory Tryz.f5.params.toList Rows.lowerCodeSpec.vars false (#[.slice none 0 0]:Array aM).toList 8=some ([.nil],[],places):=
 ⟨[],aQ⟩
def VL(os:Os)(started:os.Started)(H:Type)(enc:bA×aM -> H)(F:Stop.Interp):
  ReturnsInHanded {} Tryz.checked os 5 .any ((OpenSpec.ofChange Rows.lowerCodeSpec).preRow enc prog Tryz.f5 Rows.lowerCodeRow.domain false Rows.lowerCodeRow.laid) (((OpenSpec.ofChange Rows.lowerCodeSpec).at F).post enc prog Tryz.f5 false true false false):=by
 obtain ⟨places,hx⟩:=Rp os enc;refine returnsInHanded_of_row (C:=Tryz.checked) (s:=OpenSpec.ofChange Rows.lowerCodeSpec) own started aQ func5
  (witness_row_at (enc:=enc) (C:=Tryz.checked) false (World.doorLaid prog 60 os) #[.slice none 0 0] rfl aQ aQ aQ
   (OpenSpec.preRow_of_cond 8 hx aQ (λk hk=>by cases hk) aQ (VS os _))) ?_
 intro W base args ds gs before hval hW _ _ _ hL hSh _;exact SD H enc W base args ds gs before hval hW (Uk hL hSh)
def Q2:joinedFacts prog 5 Tryz.f5 (OpenSpec.ofChange Rows.lowerCodeSpec).bare Rows.lowerCodeRow=true:=by
 unfold joinedFacts
 repeat (rw [cz];refine And.intro ?_ (by as_aux_lemma=>kernel_rfl))
 as_aux_lemma=>kernel_rfl
def Su:Rows.LowerCodeSaid:=
 OpenClaim.holds_of_cond 5 Tryz.f5 rfl rfl rfl rfl rfl rfl rfl ⟨rfl,rfl,rfl,rfl,rfl⟩ rfl rfl rfl rfl rfl aQ func5 Q2
  (of_decide_eq_true aQ) (by unfold Func.isWrapper;first|(rw [if_pos (by decide+kernel)];kernel_rfl)|(rw [if_neg (by decide+kernel)];exact ⟨rfl,rfl⟩))
  (λos started H enc _ F=>by rw [OpenClaim.pre_eq_preRow];exact VL os started H enc F)
def QJ (f : FuncId) (fn : Func) (hf : Tryz.pinned.checked.prog.funcNamed "lockorder/lockorderlaw06.LowerCode" = some f) (hfn : Tryz.pinned.checked.prog.funcs[f]? = some fn) :
  false=Tryz.pinned.checked.prog.looks [] /\ ∀(j:Nat) t,fn.params[j]?=some t -> Tryz.pinned.checked.prog.wantsStandIn t=false:=by
 obtain rfl : f = 5 := kz ((show prog.funcNamed "lockorder/lockorderlaw06.LowerCode" = some 5 by kernel_rfl).symm.trans hf) |>.symm
 obtain rfl:fn=Tryz.f5:=(kz (func5.symm.trans hfn)).symm;refine ⟨aQ,λj t ht=>?_⟩;rw [Tryz.params5] at ht;have hm:t∈[22]:=by simpa using Array.mem_of_getElem? ht
 have hall:([22].all λu=>!prog.wantsStandIn u)=true:=aQ;exact (show prog.wantsStandIn t=false by simpa using d3.1 hall t hm)
end
end Go.Proofs.YtjgeihmhppadaaaGreatDoor
