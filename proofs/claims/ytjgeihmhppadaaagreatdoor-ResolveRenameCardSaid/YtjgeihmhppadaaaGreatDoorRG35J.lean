import Derived.Test.YtjgeihmhppadaaaGreatDoorRG22J
import Derived.Test.YtjgeihmhppadaaaGreatDoorRG34J
set_option linter.all false
set_option synthInstance.maxHeartbeats 1000000
set_option synthInstance.maxSize 1000000
set_option maxHeartbeats 8000000
set_option maxRecDepth 100000
namespace Go.Proofs.YtjgeihmhppadaaaGreatDoor
open Go.Proofs.Tryz
open List (length_append length_cons length_nil mem_append mem_cons not_mem_nil append_assoc getElem_mem take_of_length_le)
section
open Go.ChangeShapes Go.WideShapes Go.ChangeAt Go.RowKit
theorem bE2{n:Int}(h:(Lit.int .i64 n).wf=true):-9223372036854775808 <= n /\ n <= 9223372036854775807:=by
 simp only [Lit.wf,Bool.and_eq_true,decide_eq_true_eq] at h
 exact h
theorem dFj(l0:List Int)(n1:Int)(n2:Int)(n3:Int)(n4:Int)(n5:Int)(hl0:l0.length <= 9223372036854775807)(hn1:-9223372036854775808 <= n1 /\ n1 <= 9223372036854775807)(hn2:-9223372036854775808 <= n2 /\ n2 <= 9223372036854775807)(hn3:-9223372036854775808 <= n3 /\ n3 <= 9223372036854775807)(hn4:-9223372036854775808 <= n4 /\ n4 <= 9223372036854775807)(hn5:-9223372036854775808 <= n5 /\ n5 <= 9223372036854775807):aL prog 4 [bK5 (.c (.sl l0.length (l0.map λi=>Vi i))),Ci n1,Ci n2,Ci n3,Ci n4,Ci n5] [] ⟨[],[]⟩ λr s'=>r=Cb true /\ s'=⟨[],[]⟩:=by
 refine acX 79 func4 ?_
 refine go 8 ?_
 refine wc0 Y call8 Y (aHs l0 J _) ?_
 rintro _ _ ⟨p,rfl,hp,rfl⟩
 have hfa:=hp.facts
 have hfw:=hfa.wt
 have hpf:=hp.funcs
 have hpm:=hp.mutexes
 have hpg:=hp.globals
 have hpw:=hp.funcs
 refine go 5 λb1=>?_
 refine dx [b1] (tz [(0,true),(1,true),(2,true)] 4 (go 4 ?_))
 refine t2 3 5 Y ?_ ?_
 focus
  refine (bV Y Y V call11 Y (dDg p n1 J hpm.1 J hpf.1 J _) ?_)
  rintro _ _ ⟨⟨jd,hjd,rfl⟩,rfl⟩
  have had:=getElem_mem hjd
  obtain ⟨a,ha⟩:∃a,a=(cZ1 p)[jd]:=⟨_,rfl⟩
  rw [←ha] at had⊢
  have hgd:=dCg hp had
  obtain ⟨d1,d2,-,-⟩:=dBl hp had
  have hg:=dEi d1 dBx d2 dB7
  refine t2 4 5 Y ?_ ?_
  focus
   refine (bV Y Y V call10 Y (dCc p a zzz J _) ?_)
   rintro _ _ ⟨rfl,rfl⟩
   rw [dCf hgd]
   obtain ⟨r1,hr1⟩:∃z,z=mP (sw a zzz) (sw a zzz) p:=⟨_,rfl⟩
   rw [←hr1]
   have r1s:r1.sane:=GG
   have r1w:r1.wt=p.wt:=by rw [hr1,dC3]
   have r1c:cAb r1=cAb p:=GC
   refine tz [(5,false),(6,false)] 0 (go 3 λb4=>?_)
  rotate_left
  refine (jK Y Y V zeroValue27 Y λb4=>?_)
  refine ox 4 Y Y (bV Y Y V call10 Y (dCc p a zzz J _) ?_)
  rintro _ _ ⟨rfl,rfl⟩
  rw [dCf hgd]
  obtain ⟨r1,hr1⟩:∃z,z=mP (sw a zzz) (sw a zzz) p:=⟨_,rfl⟩
  rw [←hr1]
  have r1s:r1.sane:=GG
  have r1w:r1.wt=p.wt:=by rw [hr1,dC3]
  have r1c:cAb r1=cAb p:=GC
  refine tz [(6,false)] 0 (go 2 ?_)
 rotate_left 2
 refine (jK Y Y V zeroValue27 Y λb4=>?_)
 refine ox 3 Y Y (bV Y Y V call11 Y (dDg p n1 J hpm.1 J hpf.1 J _) ?_)
 rintro _ _ ⟨⟨jd,hjd,rfl⟩,rfl⟩
 have had:=getElem_mem hjd
 obtain ⟨a,ha⟩:∃a,a=(cZ1 p)[jd]:=⟨_,rfl⟩
 rw [←ha] at had⊢
 have hgd:=dCg hp had
 obtain ⟨d1,d2,-,-⟩:=dBl hp had
 have hg:=dEi d1 dBx d2 dB7
 refine ox 4 Y Y (bV Y Y V call10 Y (dCc p a zzz J _) ?_)
 rintro _ _ ⟨rfl,rfl⟩
 rw [dCf hgd]
 obtain ⟨r1,hr1⟩:∃z,z=mP (sw a zzz) (sw a zzz) p:=⟨_,rfl⟩
 rw [←hr1]
 have r1s:r1.sane:=GG
 have r1w:r1.wt=p.wt:=by rw [hr1,dC3]
 have r1c:cAb r1=cAb p:=GC
 refine tz [(6,false)] 0 (go 2 ?_)
 all_goals
  refine ax (go 4 ?_)
  refine wo Y (bMg 0 [] Y Y V call14 Y Y (cCm r1 r1s J _) bDl bDl (λ_=>bDl) ?_)
  rintro _ _ ⟨f,s0,e,hc,rfl,rfl⟩
  rw [r1c,cDm hp] at hc
  cases hc
  refine go 13 ?_
  refine wcp false Y B7 (go 6 ?_)
  refine dx [b4] (tz [(1,true),(4,true),(5,true),(6,true)] 5 (go 5 ?_))
  refine t2 0 2 Y ?_ ?_
  focus
   refine way Y V (aX [_] isAgg27 sizeOf27) ?_
   obtain ⟨j1,hj1,hlj1⟩:=bEj (n2) (7) J
   refine ox 2 Y Y (bV Y Y V call16 Y (bEl (n2) (7) j1 J J hj1 _) ?_)
   rintro _ _ ⟨rfl,rfl⟩
   refine tx 3 Y (bB Y Y Y J J) ?_
  rotate_left
  obtain ⟨j1,hj1,hlj1⟩:=bEj (n2) (7) J
  refine (bV Y Y V call16 Y (bEl (n2) (7) j1 J J hj1 _) ?_)
  rintro _ _ ⟨rfl,rfl⟩
  refine tx 3 Y (bB Y Y Y J J) ?_
  refine ox 0 Y Y (way Y V (aX [_] isAgg27 sizeOf27) ?_)
  all_goals
   refine ox 7 Y Y (bV Y Y V call15 Y (hM p (5+((j1:Nat):Int)) n3 n4 n5 J J hfa.sane J J hn5 _) ?_)
   rintro _ _ ⟨⟨q,rfl,hq⟩,rfl⟩
   have hqw:=hq.wt
   have hqs:=hq.sane
   have hqd:=dE8 hq
   have hqn:q.globals.length=p.globals.length /\ q.mutexes.length=p.mutexes.length:=by obtain ⟨k,t,hk,e,-⟩:=hq.body;rw [e];exact ⟨rfl,rfl⟩
   obtain ⟨hqg,hqm⟩:=hqn
   have hql:=aDr bS.wt Cg q.funcs
   have hqe:q.wt=q.globals.length+q.mutexes.length+(q.funcs.map bS.wt).sum:=Y
   have hqf:=hq.funcs
   refine tz [(8,false)] 0 (go 2 ?_)
   refine ax (go 2 ?_)
   refine dx [b1] (tz [(0,true),(1,true),(2,true)] 3 (go 4 ?_))
   refine ox 3 Y Y (bV Y Y V call11 Y (dDg q n1 J J J J J _) ?_)
   rintro _ _ ⟨⟨je,hje,rfl⟩,rfl⟩
   have hbd:=getElem_mem hje
   obtain ⟨b,hb⟩:∃b,b=(cZ1 q)[je]:=⟨_,rfl⟩
   rw [←hb] at hbd⊢
   rw [hqd] at hbd
   have hgq:=dFh hq (dCg hp hbd)
   obtain ⟨d3,d4,-,-⟩:=dBl hp hbd
   have hg2:=dEi d3 dBx d4 dB7
   refine ox 4 Y Y (bV Y Y V call10 Y (dCc q b zzz J _) ?_)
   rintro _ _ ⟨rfl,rfl⟩
   rw [dCf hgq]
   obtain ⟨r2,hr2⟩:∃z,z=mP (sw b zzz) (sw b zzz) q:=⟨_,rfl⟩
   rw [←hr2]
   have r2s:r2.sane:=by rw [hr2];exact dBo hg2 hqs
   have r2w:r2.wt=q.wt:=by rw [hr2,dC3]
   have r2c:cAb r2=cAb q:=by rw [cLp,cLp,hr2,dAz hg2 hqs]
   refine tz [(5,false)] 0 (go 2 ?_)
   refine ax (go 4 ?_)
   refine wo Y (bMg 0 [] Y Y V call14 Y Y (cCm q hqs J _) bDl bDl (λ_=>bDl) ?_)
   rintro _ _ ⟨f,s0,e,hc,rfl,rfl⟩
   refine go 12 ?_
   refine wo Y (bMg 0 [] Y Y V call14 Y Y (cCm r2 r2s J _) bDl bDl (λ_=>bDl) ?_)
   rintro _ _ ⟨f',s0',e',hc',rfl,rfl⟩
   rw [r2c,hc] at hc'
   cases hc'
   refine go 13 ?_
   refine wcp true Y (eR J) (go 3 ?_)
   refine wcp true Y (eR J) (go 4 ?_)
   refine wcp true Y (eR J) (go 2 ?_)
   refine wo Y (bRj 0 Y Y V call17 Y cCo ?_)
   refine go 5 ?_
   exact ⟨.inr Y,_,⟨[],[]⟩,aR Y (aF Y),aA (List.nil_sublist _) (List.nil_sublist _),Y,Y⟩
theorem dE9(H:Type)(enc:TypeId×Value -> H)(W:World)(base:Nat)(args:Array Value)(ds gs:List (DataW H))(before:List MemPlace)
  (hval:∀(j:Nat) t v,Tryz.f4.params[j]?=some t -> args[j]?=some v -> Value.okWide prog W .any base t v)
  (hW:DataW.Whole enc prog Tryz.f4.params.toList Rows.resolveRenameSpec.vars false W args.toList ds gs before) (he:bM9 W):
  Calls prog 4 args W λe W'=>∃v,e=.returned v /\ Rows.resolveRenameSpec.post enc prog Tryz.f4 false true false false W args v W':=by
 have hW':=hW
 obtain ⟨p,q,hA0,hV,rfl,hfz,hnd⟩:=hW
 have hA:DataW.TrodAll enc prog W 0 (λ_=>true) true Tryz.f4.params.toList args.toList ds p:=hA0
 rw [Tryz.params4] at hA hval
 obtain ⟨v0,vs0,d0,ds0,p0,q0,hargs,rfl,rfl,h0,r0⟩:=trodAll_cons hA
 obtain ⟨v1,vs1,d1,ds1,p1,q1,rfl,rfl,rfl,h1,r1⟩:=trodAll_cons r0
 obtain ⟨v2,vs2,d2,ds2,p2,q2,rfl,rfl,rfl,h2,r2⟩:=trodAll_cons r1
 obtain ⟨v3,vs3,d3,ds3,p3,q3,rfl,rfl,rfl,h3,r3⟩:=trodAll_cons r2
 obtain ⟨v4,vs4,d4,ds4,p4,q4,rfl,rfl,rfl,h4,r4⟩:=trodAll_cons r3
 obtain ⟨v5,vs5,d5,ds5,p5,q5,rfl,rfl,rfl,h5,r5⟩:=trodAll_cons r4
 obtain ⟨rfl,rfl,rfl⟩:=trodAll_nil r5
 obtain rfl:args=#[v0,v1,v2,v3,v4,v5]:=by cases args;simp_all
 have walk:Calls prog 4 #[v0,v1,v2,v3,v4,v5] W λe w'=>e=.returned (.bool true) /\ Below W.heap.size W w':=by
  obtain ⟨l0,a0,cap0,rfl,hc0,hcm0,hr0⟩:=aHn (hval 0 22 v0 rfl rfl) h0
  obtain ⟨n1,rfl,rfl,rfl,hn1⟩:=open_int underlying3 (hval 1 3 v1 rfl rfl) h1
  obtain ⟨n2,rfl,rfl,rfl,hn2⟩:=open_int underlying3 (hval 2 3 v2 rfl rfl) h2
  obtain ⟨n3,rfl,rfl,rfl,hn3⟩:=open_int underlying3 (hval 3 3 v3 rfl rfl) h3
  obtain ⟨n4,rfl,rfl,rfl,hn4⟩:=open_int underlying3 (hval 4 3 v4 rfl rfl) h4
  obtain ⟨n5,rfl,rfl,rfl,hn5⟩:=open_int underlying3 (hval 5 3 v5 rfl rfl) h5
  have hm0:=bOi (t:=.c (.sl l0.length (l0.map λi=>Vi i))) (v:=.slice a0 l0.length cap0) he (aLg hr0 (by unfold maxLen at hcm0;omega))
  exact aJe (vs:=[.slice a0 l0.length cap0,.int .i64 n1,.int .i64 n2,.int .i64 n3,.int .i64 n4,.int .i64 n5]) (dFj l0 n1 n2 n3 n4 n5 (by unfold maxLen at hcm0;omega) (bE2 hn1) (bE2 hn2) (bE2 hn3) (bE2 hn4) (bE2 hn5)) Y λi h h'=>by
   match i,h,h' with
   |0,_,_=>exact hm0
   |1,_,_=>exact .c _ _ (.val _ rfl)
   |2,_,_=>exact .c _ _ (.val _ rfl)
   |3,_,_=>exact .c _ _ (.val _ rfl)
   |4,_,_=>exact .c _ _ (.val _ rfl)
   |5,_,_=>exact .c _ _ (.val _ rfl)
 refine walk.mono λe W' ⟨he,hb⟩=>?_
 subst he
 exact aMc hW' Y Y (by rw [Tryz.params4];intro t ht;simp at ht;rcases ht with rfl|rfl|rfl|rfl|rfl|rfl<;>exact ⟨B6,of_decide_eq_true B6⟩) rfl hb
theorem dFc(os:Os){H:Type}(enc:TypeId×Value -> H):∃places,DataW.whole enc prog ((World.doorLaid prog 60 os).forCall (λ_ _=>0) ⟨#[],#[.slice none 0 0,.int .i64 0,.int .i64 0,.int .i64 0,.int .i64 0,.int .i64 0],[]⟩).memory Tryz.f4.params.toList Rows.resolveRenameSpec.vars false (#[.slice none 0 0,.int .i64 0,.int .i64 0,.int .i64 0,.int .i64 0,.int .i64 0]:Array Value).toList 8=some ([.nil,.lit (.int .i64 0),.lit (.int .i64 0),.lit (.int .i64 0),.lit (.int .i64 0),.lit (.int .i64 0)],[],places):=
 ⟨[],B6⟩
theorem dFa(os:Os)(started:os.Started)(H:Type)(enc:TypeId×Value -> H)(F:Stop.Interp):
  ReturnsInHanded {} Tryz.checked os 4 .any ((OpenSpec.ofChange Rows.resolveRenameSpec).preRow enc prog Tryz.f4 Rows.resolveRenameRow.domain false Rows.resolveRenameRow.laid) (((OpenSpec.ofChange Rows.resolveRenameSpec).at F).post enc prog Tryz.f4 false true false false):=by
 obtain ⟨places,hx⟩:=dFc os enc
 refine returnsInHanded_of_row (C:=Tryz.checked) (s:=OpenSpec.ofChange Rows.resolveRenameSpec) own started B6 func4
  (witness_row_at (enc:=enc) (C:=Tryz.checked) false (World.doorLaid prog 60 os) #[.slice none 0 0,.int .i64 0,.int .i64 0,.int .i64 0,.int .i64 0,.int .i64 0] rfl B6 B6 B6
   (OpenSpec.preRow_of_cond 8 hx B6 (λk hk=>by cases hk) B6 (bQj os _))) ?_
 intro W base args ds gs before hval hW _ _ _ hL hSh _
 exact dE9 H enc W base args ds gs before hval hW (bRl hL hSh)
theorem dFb:joinedFacts prog 4 Tryz.f4 (OpenSpec.ofChange Rows.resolveRenameSpec).bare Rows.resolveRenameRow=true:=by
 unfold joinedFacts
 repeat (rw [Bool.and_eq_true];refine And.intro ?_ (by as_aux_lemma=>kernel_rfl))
 as_aux_lemma=>kernel_rfl
theorem dFg:Rows.ResolveRenameSaid:=
 OpenClaim.holds_of_cond 4 Tryz.f4 rfl rfl rfl rfl rfl rfl rfl ⟨rfl,rfl,rfl,rfl,rfl⟩ rfl rfl rfl rfl rfl B6 func4 dFb
  (of_decide_eq_true B6) (by unfold Func.isWrapper;first|(rw [if_pos (by decide+kernel)];kernel_rfl)|(rw [if_neg (by decide+kernel)];exact ⟨rfl,rfl⟩))
  (λos started H enc _ F=>by rw [OpenClaim.pre_eq_preRow];exact dFa os started H enc F)
theorem dFd (f : FuncId) (fn : Func) (hf : Tryz.pinned.checked.prog.funcNamed "lockorder/lockorderlaw05.ResolveRename" = some f) (hfn : Tryz.pinned.checked.prog.funcs[f]? = some fn) :
  false=Tryz.pinned.checked.prog.looks [] /\ ∀(j:Nat) t,fn.params[j]?=some t -> Tryz.pinned.checked.prog.wantsStandIn t=false:=by
 obtain rfl : f = 4 := Option.some.inj ((show prog.funcNamed "lockorder/lockorderlaw05.ResolveRename" = some 4 by kernel_rfl).symm.trans hf) |>.symm
 obtain rfl:fn=Tryz.f4:=(Option.some.inj (func4.symm.trans hfn)).symm
 refine ⟨B6,λj t ht=>?_⟩
 rw [Tryz.params4] at ht
 have hm:t∈[22,3,3,3,3,3]:=by simpa using Array.mem_of_getElem? ht
 have hall:([22,3,3,3,3,3].all λu=>!prog.wantsStandIn u)=true:=B6
 exact (show prog.wantsStandIn t=false by simpa using List.all_eq_true.1 hall t hm)
end
end Go.Proofs.YtjgeihmhppadaaaGreatDoor
