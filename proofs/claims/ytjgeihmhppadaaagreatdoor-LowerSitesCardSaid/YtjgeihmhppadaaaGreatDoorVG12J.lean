import Derived.Test.YtjgeihmhppadaaaGreatDoorVG11J
set_option linter.all false
set_option synthInstance.maxHeartbeats 1000000
set_option synthInstance.maxSize 1000000
set_option maxHeartbeats 8000000
set_option maxRecDepth 100000
namespace Go.Proofs.YtjgeihmhppadaaaGreatDoor
open Go.Proofs.Tryz
open List (length_append length_cons length_nil mem_append mem_cons not_mem_nil append_assoc getElem_mem take_of_length_le)
section
open Go.ChangeShapes Go.WideShapes Go.ChangeAt Go.RowKit
def Xn(l0:List Int)(n1:Int)(n2:Int)(n3:Int)(n4:Int)(n5:Int)(hl0:l0.length <= 9223372036854775807)(hn1:-9223372036854775808 <= n1 /\ n1 <= 9223372036854775807)(hn2:-9223372036854775808 <= n2 /\ n2 <= 9223372036854775807)(hn3:-9223372036854775808 <= n3 /\ n3 <= 9223372036854775807)(hn4:-9223372036854775808 <= n4 /\ n4 <= 9223372036854775807)(hn5:-9223372036854775808 <= n5 /\ n5 <= 9223372036854775807):aU prog 6 [cM (.c (.sl l0.length (l0.map λi=>aA i))),an n1,an n2,an n3,an n4,an n5] [] ⟨[],[]⟩ λr s'=>r=bC true /\ s'=⟨[],[]⟩:=by
 refine bR 59 func6 ?_;refine go 8 ?_;refine cc J call8 J (VZ l0 Y _) ?_;rintro _ _ ⟨p,rfl,hp,rfl⟩;have hfa:=hp.facts;have hfw:=hfa.wt;have hpf:=hp.funcs;refine go 10 λb1=>?_;refine bP J ?_;obtain ⟨j1,hj1,aMk⟩:=mG (n1) (((p.funcs.length:Int)+2)) Y;refine cc J lx J (mL (n1) (((p.funcs.length:Int)+2)) j1 Y Y hj1 _) ?_;rintro _ _ ⟨rfl,rfl⟩;refine aD J (jh) (go 10 ?_);refine cc J call15 J (XK p n2 n3 n4 n5 hfa.bt Y Y hn5 _) ?_;rintro _ _ ⟨⟨q,rfl,hq⟩,rfl⟩;have hqw:=hq.wt;have hqs:=hq.bt;have hql:=oE bB.wt wa q.funcs;have hqe:q.wt=q.globals.length+q.mutexes.length+(q.funcs.map bB.wt).sum:=J;refine go 5 λb2=>?_;refine cB [b2,b1] (aa [0,1,3,4] 25 (go 5 ?_));refine aW 2 J J (oM 0 [] J J V call20 J J (CU p ((j1:Int)-1) hfa.bt Y _) dJ dJ (λ_=>dJ) ?_);rintro _ _ ⟨rfl,rfl⟩;refine aW 5 J J (da J J V call21 J (EB p ((j1:Int)-1) hfa.bt Y _ _) ?_);rintro _ _ ⟨rfl,rfl⟩;refine aW 6 J J (da J J V call19 J (BA (kW p ((j1:Int)-1)) (kW p ((j1:Int)-1)) J (G3 Y) _) ?_);rintro _ _ ⟨rfl,rfl⟩;refine aa [7,8,9,11,12] 17 (go 6 ?_);refine aW 10 J J (oM 0 [] J J V call20 J J (CU q ((j1:Int)-1) hqs Y _) dJ dJ (λ_=>dJ) ?_);rintro _ _ ⟨rfl,rfl⟩;refine aW 13 J J (da J J V call21 J (EB q ((j1:Int)-1) hqs Y _ _) ?_);rintro _ _ ⟨rfl,rfl⟩;refine aW 14 J J (da J J V call19 J (BA (kW q ((j1:Int)-1)) (kW q ((j1:Int)-1)) J (G3 Y) _) ?_);rintro _ _ ⟨rfl,rfl⟩;refine aa [15,16,17,18,20,21] 8 (go 7 ?_);refine aW 19 J J (oM 0 [] J J V call20 J J (CU p n1 hfa.bt Y _) dJ dJ (λ_=>dJ) ?_);rintro _ _ ⟨rfl,rfl⟩;refine aW 22 J J (da J J V call21 J (EB p n1 hfa.bt Y _ _) ?_);rintro _ _ ⟨rfl,rfl⟩;refine aW 23 J J (da J J V call19 J (BA (kW p n1) (kW p n1) J (G3 Y) _) ?_);rintro _ _ ⟨rfl,rfl⟩;refine aa [24,25] 3 (go 3 ?_);refine aW 26 J J (Uw 0 J J V call13 J Ux ?_);refine aa [27,28] 0 (go 3 ?_);refine bH (go 2 ?_);exact ⟨.inr J,_,⟨[],[]⟩,bK J (bN J),ai (CE _) (CE _),J,J⟩
def Sn(H:Type)(enc:bA×aN -> H)(W:ab)(base:Nat)(args:Array aN)(ds gs:List (DataW H))(before:List MemPlace)
  (hval:∀(j:Nat) t v,Tryz.f6.params[j]?=some t -> args[j]?=some v -> Value.okWide prog W .any base t v)
  (hW:DataW.Whole enc prog Tryz.f6.params.toList Rows.lowerSitesSpec.vars false W args.toList ds gs before) (he:oZ W):
  Calls prog 6 args W λe W'=>∃v,e=.returned v /\ Rows.lowerSitesSpec.post enc prog Tryz.f6 false true false false W args v W':=by
 have hW':=hW;obtain ⟨p,q,hA0,hV,rfl,hfz,hnd⟩:=hW;have hA:DataW.TrodAll enc prog W 0 (λ_=>true) true Tryz.f6.params.toList args.toList ds p:=hA0;rw [Tryz.params6] at hA hval;obtain ⟨v0,vs0,d0,ds0,p0,q0,hargs,rfl,rfl,h0,r0⟩:=trodAll_cons hA;obtain ⟨v1,vs1,gD,ds1,p1,q1,rfl,rfl,rfl,h1,r1⟩:=trodAll_cons r0;obtain ⟨v2,vs2,gt,ds2,p2,q2,rfl,rfl,rfl,h2,r2⟩:=trodAll_cons r1;obtain ⟨v3,vs3,pw,ds3,p3,q3,rfl,rfl,rfl,h3,r3⟩:=trodAll_cons r2;obtain ⟨v4,vs4,vK,ds4,p4,q4,rfl,rfl,rfl,h4,r4⟩:=trodAll_cons r3;obtain ⟨v5,vs5,uw,ds5,p5,q5,rfl,rfl,rfl,h5,r5⟩:=trodAll_cons r4;obtain ⟨rfl,rfl,rfl⟩:=trodAll_nil r5;obtain rfl:args=#[v0,v1,v2,v3,v4,v5]:=by cases args;simp_all
 have walk:Calls prog 6 #[v0,v1,v2,v3,v4,v5] W λe w'=>e=.returned (.bool true) /\ Below W.heap.size W w':=by
  obtain ⟨l0,a0,cap0,rfl,hc0,hcm0,hr0⟩:=YV (hval 0 22 v0 rfl rfl) h0;obtain ⟨n1,rfl,rfl,rfl,hn1⟩:=open_int uP (hval 1 3 v1 rfl rfl) h1;obtain ⟨n2,rfl,rfl,rfl,hn2⟩:=open_int uP (hval 2 3 v2 rfl rfl) h2;obtain ⟨n3,rfl,rfl,rfl,hn3⟩:=open_int uP (hval 3 3 v3 rfl rfl) h3;obtain ⟨n4,rfl,rfl,rfl,hn4⟩:=open_int uP (hval 4 3 v4 rfl rfl) h4;obtain ⟨n5,rfl,rfl,rfl,hn5⟩:=open_int uP (hval 5 3 v5 rfl rfl) h5;have hm0:=Ur (t:=.c (.sl l0.length (l0.map λi=>aA i))) (v:=.slice a0 l0.length cap0) he (V7 hr0 (by unfold maxLen at hcm0;omega));exact QW (vs:=[.slice a0 l0.length cap0,.int .i64 n1,.int .i64 n2,.int .i64 n3,.int .i64 n4,.int .i64 n5]) (Xn l0 n1 n2 n3 n4 n5 (by unfold maxLen at hcm0;omega) (w_ hn1) (w_ hn2) (w_ hn3) (w_ hn4) (w_ hn5)) J λi h h'=>by
   match i,h,h' with
   |0,_,_=>exact hm0
   |1,_,_=>exact .c _ _ (.val _ rfl)
   |2,_,_=>exact .c _ _ (.val _ rfl)
   |3,_,_=>exact .c _ _ (.val _ rfl)
   |4,_,_=>exact .c _ _ (.val _ rfl)
   |5,_,_=>exact .c _ _ (.val _ rfl)
 refine walk.mono λe W' ⟨he,hb⟩=>?_;subst he;exact WY hW' J J (by rw [Tryz.params6];intro t ht;simp at ht;rcases ht with rfl|rfl|rfl|rfl|rfl|rfl<;>exact ⟨aQ,of_decide_eq_true aQ⟩) rfl hb
def R6(os:Os){H:Type}(enc:bA×aN -> H):∃places,DataW.whole enc prog ((World.doorLaid prog 60 os).forCall (λ_ _=>0) ⟨#[],#[.slice none 0 0,.int .i64 0,.int .i64 0,.int .i64 0,.int .i64 0,.int .i64 0],[]⟩).memory Tryz.f6.params.toList Rows.lowerSitesSpec.vars false (#[.slice none 0 0,.int .i64 0,.int .i64 0,.int .i64 0,.int .i64 0,.int .i64 0]:Array aN).toList 8=some ([.nil,.lit (.int .i64 0),.lit (.int .i64 0),.lit (.int .i64 0),.lit (.int .i64 0),.lit (.int .i64 0)],[],places):=
 ⟨[],aQ⟩
def Wg(os:Os)(started:os.Started)(H:Type)(enc:bA×aN -> H)(F:Stop.Interp):
  ReturnsInHanded {} Tryz.checked os 6 .any ((OpenSpec.ofChange Rows.lowerSitesSpec).preRow enc prog Tryz.f6 Rows.lowerSitesRow.domain false Rows.lowerSitesRow.laid) (((OpenSpec.ofChange Rows.lowerSitesSpec).at F).post enc prog Tryz.f6 false true false false):=by
 obtain ⟨places,hx⟩:=R6 os enc;refine returnsInHanded_of_row (C:=Tryz.checked) (s:=OpenSpec.ofChange Rows.lowerSitesSpec) own started aQ func6
  (witness_row_at (enc:=enc) (C:=Tryz.checked) false (World.doorLaid prog 60 os) #[.slice none 0 0,.int .i64 0,.int .i64 0,.int .i64 0,.int .i64 0,.int .i64 0] rfl aQ aQ aQ
   (OpenSpec.preRow_of_cond 8 hx aQ (λk hk=>by cases hk) aQ (W9 os _))) ?_
 intro W base args ds gs before hval hW _ _ _ hL hSh _;exact Sn H enc W base args ds gs before hval hW (Wi hL hSh)
def Yg:joinedFacts prog 6 Tryz.f6 (OpenSpec.ofChange Rows.lowerSitesSpec).bare Rows.lowerSitesRow=true:=by
 unfold joinedFacts
 repeat (rw [di];refine And.intro ?_ (by as_aux_lemma=>kernel_rfl))
 as_aux_lemma=>kernel_rfl
def Ug:Rows.LowerSitesSaid:=
 OpenClaim.holds_of_cond 6 Tryz.f6 rfl rfl rfl rfl rfl rfl rfl ⟨rfl,rfl,rfl,rfl,rfl⟩ rfl rfl rfl rfl rfl aQ func6 Yg
  (of_decide_eq_true aQ) (by unfold Func.isWrapper;first|(rw [if_pos (by decide+kernel)];kernel_rfl)|(rw [if_neg (by decide+kernel)];exact ⟨rfl,rfl⟩))
  (λos started H enc _ F=>by rw [OpenClaim.pre_eq_preRow];exact Wg os started H enc F)
def Wa (f : FuncId) (fn : Func) (hf : Tryz.pinned.checked.prog.funcNamed "lockorder/lockorderlaw06.LowerSites" = some f) (hfn : Tryz.pinned.checked.prog.funcs[f]? = some fn) :
  false=Tryz.pinned.checked.prog.looks [] /\ ∀(j:Nat) t,fn.params[j]?=some t -> Tryz.pinned.checked.prog.wantsStandIn t=false:=by
 obtain rfl : f = 6 := mT ((show prog.funcNamed "lockorder/lockorderlaw06.LowerSites" = some 6 by kernel_rfl).symm.trans hf) |>.symm
 obtain rfl:fn=Tryz.f6:=(mT (func6.symm.trans hfn)).symm;refine ⟨aQ,λj t ht=>?_⟩;rw [Tryz.params6] at ht;have hm:t∈[22,3,3,3,3,3]:=by simpa using Array.mem_of_getElem? ht
 have hall:([22,3,3,3,3,3].all λu=>!prog.wantsStandIn u)=true:=aQ;exact (show prog.wantsStandIn t=false by simpa using e0.1 hall t hm)
end
end Go.Proofs.YtjgeihmhppadaaaGreatDoor
