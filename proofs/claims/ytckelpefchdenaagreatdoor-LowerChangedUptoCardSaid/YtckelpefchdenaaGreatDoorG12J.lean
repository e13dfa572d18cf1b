import Derived.Test.YtckelpefchdenaaGreatDoorG11J
set_option linter.all false
set_option synthInstance.maxHeartbeats 1000000
set_option synthInstance.maxSize 1000000
set_option maxHeartbeats 8000000
set_option maxRecDepth 100000
namespace Go.Proofs.YtckelpefchdenaaGreatDoor
open Go.Proofs.Tryz
open List (length_append length_cons length_nil mem_append mem_cons not_mem_nil append_assoc getElem_mem take_of_length_le)
section
open Go.ChangeShapes Go.WideShapes Go.ChangeAt Go.RowKit
def Yo{W:aa}{cs:List aO}{arr:Array aN}(h:dA W cs (Value.agg arr).cells.toList):cS (bh [] W) (.agg cs) (.agg arr):=by
 have:=cS.agg cs arr.toList (h.mono (FD W));simpa using this
def Rz(l0:List Int)(n1:Int)(n2:Int)(n3:Int)(n4:Int)(n5:Int)(n6:Int)(n7:Int)(n8:Int)(pr9:aX)(m10:Bool)(hl0:l0.length <= 9223372036854775807)(hn1:-9223372036854775808 <= n1 /\ n1 <= 9223372036854775807)(hn2:-9223372036854775808 <= n2 /\ n2 <= 9223372036854775807)(hn3:-9223372036854775808 <= n3 /\ n3 <= 9223372036854775807)(hn4:-9223372036854775808 <= n4 /\ n4 <= 9223372036854775807)(hn5:-9223372036854775808 <= n5 /\ n5 <= 9223372036854775807)(hn6:-9223372036854775808 <= n6 /\ n6 <= 9223372036854775807)(hn7:-9223372036854775808 <= n7 /\ n7 <= 9223372036854775807)(hn8:-9223372036854775808 <= n8 /\ n8 <= 9223372036854775807)(Id:pr9.bt)(hw9:pr9.wt <= 1048576):aT prog 3 [cL (.c (.sl l0.length (l0.map λi=>aA i))),aj n1,aj n2,aj n3,aj n4,aj n5,aj n6,aj n7,aj n8,.agg (di pr9),au m10] [] ⟨[],[]⟩ λr s'=>r=au true /\ s'=⟨[],[]⟩:=by
 refine bM 86 func3 ?_;refine go 9 λb1=>?_;refine cf J call5 J (Yu l0 Y _) ?_;rintro _ _ ⟨p,rfl,hp,rfl⟩;have hfa:=hp.facts;have hfw:=hfa.wt;have hpf:=hp.funcs;refine go 4 ?_;refine cf J call4 J (O4 p n1 n2 n3 n4 hfa.bt Y Y hn4 _) ?_;rintro _ _ ⟨⟨q,rfl,hq⟩,rfl⟩;have hqw:=hq.wt;have hqs:=hq.bt;refine go 8 λb2=>?_;refine aC J (yP J J J) ?_;by_cases h1:(vn n5 1)=1;focus
  refine aJ J (bR h1) (go 6 ?_);refine aC J (Em J J J) (go 3 ?_);refine cf J call4 J (O4 q (n5.fdiv 2) n6 n7 n8 hqs Y (by have:=hq.funcs;omega) hn8 _) ?_;rintro _ _ ⟨⟨q2,rfl,hq2⟩,rfl⟩;have hq2w:=hq2.wt;have hq2s:=hq2.bt;refine go 9 ?_;refine iD J (λh3=>?_) (λh3=>?_);focus
   refine go 8 ?_;obtain ⟨z,hz,hzs,hzw⟩:∃z:aX,z=pr9 /\ z.bt /\ z.wt <= 9000000:=⟨pr9,rfl,Id,Y⟩
  rotate_left;refine go 5 ?_;obtain ⟨z,hz,hzs,hzw⟩:∃z:aX,z=q2 /\ z.bt /\ z.wt <= 9000000:=⟨q2,rfl,hq2s,Y⟩
 rotate_left 2;focus
  refine aF J (bN h1) (go 11 ?_);refine iD J (λh3=>?_) (λh3=>?_);focus
   refine go 8 ?_;obtain ⟨z,hz,hzs,hzw⟩:∃z:aX,z=pr9 /\ z.bt /\ z.wt <= 9000000:=⟨pr9,rfl,Id,Y⟩
  rotate_left;refine go 5 ?_;obtain ⟨z,hz,hzs,hzw⟩:∃z:aX,z=q /\ z.bt /\ z.wt <= 9000000:=⟨q,rfl,hqs,Y⟩
 all_goals
  rw [←hz];refine aW J (pV 0 [] J J V call6 J J (KO z hzs hzw _) dX dX (λ_=>dX) ?_);rintro _ _ ⟨rfl,rfl⟩;obtain ⟨f,s0,e,hc⟩:∃f s e,gp z=(f,s,e):=⟨_,_,_,rfl⟩;rw [hc];dsimp only;obtain ⟨u,hu⟩:∃u,u=oN z:=⟨_,rfl⟩;rw [←hu];refine go 15 λb3=>?_;refine cf J call7 J (Yh z hzs hzw _ _) ?_;rintro _ _ ⟨rfl,rfl⟩;rw [hc,←hu];dsimp only;refine go 16 λb4=>?_;refine aJ J (bR Y) (go 3 ?_);refine aJ J (bR Y) (go 4 ?_);refine aJ J (bR Y) (go 4 ?_);obtain ⟨i1,i2,i3,i4⟩:=Sp (p:=z) hzw;rw [←hu] at i1 i2 i3 i4;refine pM J call8 J (RU u i1 i2 i3 i4 _) (go 2 ?_);refine aW J (Uc 0 J J V call9 J UX ?_);refine go 5 ?_;exact ⟨.inr J,_,⟨[],[]⟩,bJ J (bO J),ah (D1 _) (D1 _),J,J⟩
def R2(H:Type)(enc:ax×aN -> H)(W:aa)(base:Nat)(args:Array aN)(ds gs:List (DataW H))(before:List MemPlace)
  (hval:∀(j:Nat) t v,Tryz.f3.params[j]?=some t -> args[j]?=some v -> Value.okWide prog W .any base t v)
  (hW:DataW.Whole enc prog Tryz.f3.params.toList Rows.lowerChangedSpec.vars false W args.toList ds gs before) (he:pJ W) (hk:Rows.uptoSmall H (ds++gs)=true):
  Calls prog 3 args W λe W'=>∃v,e=.returned v /\ Rows.lowerChangedSpec.post enc prog Tryz.f3 false true false false W args v W':=by
 have hW':=hW;obtain ⟨p,q,hA0,hV,rfl,hfz,hnd⟩:=hW;have hA:DataW.TrodAll enc prog W 0 (λ_=>true) true Tryz.f3.params.toList args.toList ds p:=hA0;rw [Tryz.params3] at hA hval;obtain ⟨v0,vs0,d0,ds0,p0,q0,hargs,rfl,rfl,h0,r0⟩:=trodAll_cons hA;obtain ⟨v1,vs1,fK,ds1,p1,q1,rfl,rfl,rfl,h1,r1⟩:=trodAll_cons r0;obtain ⟨v2,vs2,fe,ds2,p2,q2,rfl,rfl,rfl,h2,r2⟩:=trodAll_cons r1;obtain ⟨v3,vs3,ou,ds3,p3,q3,rfl,rfl,rfl,h3,r3⟩:=trodAll_cons r2;obtain ⟨v4,vs4,tk,ds4,p4,q4,rfl,rfl,rfl,h4,r4⟩:=trodAll_cons r3;obtain ⟨v5,vs5,tX,ds5,p5,q5,rfl,rfl,rfl,h5,r5⟩:=trodAll_cons r4;obtain ⟨v6,vs6,sk,ds6,p6,q6,rfl,rfl,rfl,h6,r6⟩:=trodAll_cons r5;obtain ⟨v7,vs7,ru,ds7,p7,q7,rfl,rfl,rfl,h7,r7⟩:=trodAll_cons r6;obtain ⟨v8,vs8,rA,ds8,p8,q8,rfl,rfl,rfl,h8,r8⟩:=trodAll_cons r7;obtain ⟨v9,vs9,jG,ds9,p9,q9,rfl,rfl,rfl,h9,r9⟩:=trodAll_cons r8;obtain ⟨v10,SW,d10,ds10,p10,q10,rfl,rfl,rfl,h10,r10⟩:=trodAll_cons r9;obtain ⟨rfl,rfl,rfl⟩:=trodAll_nil r10;obtain rfl:args=#[v0,v1,v2,v3,v4,v5,v6,v7,v8,v9,v10]:=by cases args;simp_all
 have walk:Calls prog 3 #[v0,v1,v2,v3,v4,v5,v6,v7,v8,v9,v10] W λe w'=>e=.returned (.bool true) /\ Below W.heap.size W w':=by
  have hkk:Rows.uptoBulkAll ([d0,fK,fe,ou,tk,tX,sk,ru,rA,jG,d10]++gs) <= 1048576:=of_decide_eq_true hk;simp only [eE,Rows.uptoBulkAll] at hkk;obtain ⟨l0,a0,cap0,rfl,hc0,hcm0,hr0⟩:=Wp (hval 0 22 v0 rfl rfl) h0;obtain ⟨n1,rfl,rfl,rfl,hn1⟩:=open_int mt (hval 1 3 v1 rfl rfl) h1;obtain ⟨n2,rfl,rfl,rfl,hn2⟩:=open_int mt (hval 2 3 v2 rfl rfl) h2;obtain ⟨n3,rfl,rfl,rfl,hn3⟩:=open_int mt (hval 3 3 v3 rfl rfl) h3;obtain ⟨n4,rfl,rfl,rfl,hn4⟩:=open_int mt (hval 4 3 v4 rfl rfl) h4;obtain ⟨n5,rfl,rfl,rfl,hn5⟩:=open_int mt (hval 5 3 v5 rfl rfl) h5;obtain ⟨n6,rfl,rfl,rfl,hn6⟩:=open_int mt (hval 6 3 v6 rfl rfl) h6;obtain ⟨n7,rfl,rfl,rfl,hn7⟩:=open_int mt (hval 7 3 v7 rfl rfl) h7;obtain ⟨n8,rfl,rfl,rfl,hn8⟩:=open_int mt (hval 8 3 v8 rfl rfl) h8;obtain ⟨aRd,rfl,-⟩:=okWide_struct underlying27 (hval 9 27 v9 rfl rfl);obtain ⟨pr9,hp9,Id,hw9⟩:=Raw.one Sy h9 Y;obtain ⟨m10,rfl,rfl,rfl⟩:=open_bool yT (hval 10 4 v10 rfl rfl) h10;have hm0:=U' (t:=.c (.sl l0.length (l0.map λi=>aA i))) (v:=.slice a0 l0.length cap0) he (Ti hr0 (by unfold maxLen at hcm0;omega));exact WQ (vs:=[.slice a0 l0.length cap0,.int .i64 n1,.int .i64 n2,.int .i64 n3,.int .i64 n4,.int .i64 n5,.int .i64 n6,.int .i64 n7,.int .i64 n8,.agg aRd,.bool m10]) (Rz l0 n1 n2 n3 n4 n5 n6 n7 n8 pr9 m10 (by unfold maxLen at hcm0;omega) (tA hn1) (tA hn2) (tA hn3) (tA hn4) (tA hn5) (tA hn6) (tA hn7) (tA hn8) Id Y) J λi h h'=>by
   match i,h,h' with
   |0,_,_=>exact hm0
   |1,_,_=>exact .c _ _ (.val _ rfl)
   |2,_,_=>exact .c _ _ (.val _ rfl)
   |3,_,_=>exact .c _ _ (.val _ rfl)
   |4,_,_=>exact .c _ _ (.val _ rfl)
   |5,_,_=>exact .c _ _ (.val _ rfl)
   |6,_,_=>exact .c _ _ (.val _ rfl)
   |7,_,_=>exact .c _ _ (.val _ rfl)
   |8,_,_=>exact .c _ _ (.val _ rfl)
   |9,_,_=>exact Yo hp9
   |10,_,_=>exact .c _ _ (.val _ rfl)
 refine walk.mono λe W' ⟨he,hb⟩=>?_;subst he;exact YR hW' J J (by rw [Tryz.params3];intro t ht;simp at ht;rcases ht with rfl|rfl|rfl|rfl|rfl|rfl|rfl|rfl|rfl|rfl|rfl<;>exact ⟨aL,of_decide_eq_true aL⟩) rfl hb
def Rk(os:Os){H:Type}(enc:ax×aN -> H):∃places,DataW.whole enc prog ((World.doorLaid prog 60 os).forCall (λ_ _=>0) ⟨#[],#[.slice none 0 0,.int .i64 0,.int .i64 0,.int .i64 0,.int .i64 0,.int .i64 0,.int .i64 0,.int .i64 0,.int .i64 0,.agg #[.slice none 0 0,.slice none 0 0,.slice none 0 0],.bool false],[]⟩).memory Tryz.f3.params.toList Rows.lowerChangedSpec.vars false (#[.slice none 0 0,.int .i64 0,.int .i64 0,.int .i64 0,.int .i64 0,.int .i64 0,.int .i64 0,.int .i64 0,.int .i64 0,.agg #[.slice none 0 0,.slice none 0 0,.slice none 0 0],.bool false]:Array aN).toList 8=some ([.nil,.lit (.int .i64 0),.lit (.int .i64 0),.lit (.int .i64 0),.lit (.int .i64 0),.lit (.int .i64 0),.lit (.int .i64 0),.lit (.int .i64 0),.lit (.int .i64 0),.agg [.nil,.nil,.nil],.lit (.bool false)],[],places):=
 ⟨[],aL⟩
def Vs(os:Os)(started:os.Started)(H:Type)(enc:ax×aN -> H)(F:Stop.Interp):
  ReturnsInHanded {} Tryz.checked os 3 .any ((Rows.OpenSpec.upto Rows.lowerChangedSpec).preRow enc prog Tryz.f3 Rows.lowerChangedUptoRow.domain false Rows.lowerChangedUptoRow.laid) (((Rows.OpenSpec.upto Rows.lowerChangedSpec).at F).post enc prog Tryz.f3 false true false false):=by
 obtain ⟨places,hx⟩:=Rk os enc;refine returnsInHanded_of_row (C:=Tryz.checked) (s:=Rows.OpenSpec.upto Rows.lowerChangedSpec) own started aL func3
  (witness_row_at (enc:=enc) (C:=Tryz.checked) false (World.doorLaid prog 60 os) #[.slice none 0 0,.int .i64 0,.int .i64 0,.int .i64 0,.int .i64 0,.int .i64 0,.int .i64 0,.int .i64 0,.int .i64 0,.agg #[.slice none 0 0,.slice none 0 0,.slice none 0 0],.bool false] rfl aL aL aL
   (OpenSpec.preRow_of_cond 8 hx aL (λk hk=>by cases hk;kernel_rfl) aL (WF os _))) ?_
 intro W base args ds gs before hval hW _ hk _ hL hSh _;exact R2 H enc W base args ds gs before hval hW (UH hL hSh) (hk _ J)
def U7:joinedFacts prog 3 Tryz.f3 (Rows.OpenSpec.upto Rows.lowerChangedSpec).bare Rows.lowerChangedUptoRow=true:=by
 unfold joinedFacts
 repeat (rw [dm];refine And.intro ?_ (by as_aux_lemma=>kernel_rfl))
 as_aux_lemma=>kernel_rfl
def Rc:Rows.LowerChangedUptoSaid:=
 OpenClaim.holds_of_cond 3 Tryz.f3 rfl rfl rfl rfl rfl rfl rfl ⟨rfl,rfl,rfl,rfl,rfl⟩ rfl rfl rfl rfl rfl aL func3 U7
  (of_decide_eq_true aL) (by unfold Func.isWrapper;first|(rw [if_pos (by decide+kernel)];kernel_rfl)|(rw [if_neg (by decide+kernel)];exact ⟨rfl,rfl⟩))
  (λos started H enc _ F=>by rw [OpenClaim.pre_eq_preRow];exact Vs os started H enc F)
def Wj (f : FuncId) (fn : Func) (hf : Tryz.pinned.checked.prog.funcNamed "lockorder/lockorderlaw06.LowerChanged" = some f) (hfn : Tryz.pinned.checked.prog.funcs[f]? = some fn) :
  false=Tryz.pinned.checked.prog.looks [] /\ ∀(j:Nat) t,fn.params[j]?=some t -> Tryz.pinned.checked.prog.wantsStandIn t=false:=by
 obtain rfl : f = 3 := mU ((show prog.funcNamed "lockorder/lockorderlaw06.LowerChanged" = some 3 by kernel_rfl).symm.trans hf) |>.symm
 obtain rfl:fn=Tryz.f3:=(mU (func3.symm.trans hfn)).symm;refine ⟨aL,λj t ht=>?_⟩;rw [Tryz.params3] at ht;have hm:t∈[22,3,3,3,3,3,3,3,3,27,4]:=by simpa using Array.mem_of_getElem? ht
 have hall:([22,3,3,3,3,3,3,3,3,27,4].all λu=>!prog.wantsStandIn u)=true:=aL;exact (show prog.wantsStandIn t=false by simpa using fC.1 hall t hm)
end
end Go.Proofs.YtckelpefchdenaaGreatDoor
