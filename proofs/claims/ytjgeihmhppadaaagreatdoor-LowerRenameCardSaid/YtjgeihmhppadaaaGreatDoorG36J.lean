import Derived.Test.YtjgeihmhppadaaaGreatDoorG35J
set_option linter.all false
set_option synthInstance.maxHeartbeats 1000000
set_option synthInstance.maxSize 1000000
set_option maxHeartbeats 8000000
set_option maxRecDepth 100000
namespace Go.Proofs.YtjgeihmhppadaaaGreatDoor
open Go.Proofs.Tryz
open List (length_append length_cons length_nil mem_append mem_cons not_mem_nil append_assoc getElem_mem take_of_length_le)
section
open Go.ChangeShapes Go.WideShapes Go.ChangeAt Go.RowKit
theorem dGg{n m:Nat}{c d:List AC}(h:n=m)(h1:c=d):AC.sl n c=AC.sl m d:=by rw [h,h1]
theorem dGh{a b c d a' b' c' d':AC}(h:a=a')(h1:b=b')(h2:c=c')(h3:d=d'):[a,b,c,d]=[a',b',c',d']:=by rw [h,h1,h2,h3]
theorem dBr(g:ByteArray -> ByteArray)(u:cJ0):cK1 ⟨u.globals,u.mutexes.map (mM g),u.procs.map (mPc g),u.main⟩=[.sl u.globals.length (u.globals.map λx=>Vi x),.sl u.mutexes.length (u.mutexes.flatMap λx=>bT (mM g x)),.sl u.procs.length (u.procs.flatMap λx=>cF9 (mPc g x)),nC u.main]:=by
 exact dGh Y (dGg (List.length_map _) (List.flatMap_map ..)) (dGg (List.length_map _) (List.flatMap_map ..)) Y
theorem dBh(l0:List Int)(n1:Int)(hl0:l0.length <= 9223372036854775807)(hn1:-9223372036854775808 <= n1 /\ n1 <= 9223372036854775807):aL prog 3 [bK5 (.c (.sl l0.length (l0.map λi=>Vi i))),Ci n1] [] ⟨[],[]⟩ λr s'=>r=Cb true /\ s'=⟨[],[]⟩:=by
 refine acX 48 func3 ?_
 refine go 8 ?_
 refine wc0 Y call8 Y (aHs l0 J _) ?_
 rintro _ _ ⟨p,rfl,hp,rfl⟩
 have hfa:=hp.facts
 have hfw:=hfa.wt
 have hpf:=hp.funcs
 have hpm:=hp.mutexes
 have hpg:=hp.globals
 refine go 7 λb1=>?_
 refine wo Y (bMg 0 [] Y Y V call9 Y Y (cUg p hfa.sane J _) bDl bDl (λ_=>bDl) ?_)
 rintro _ _ ⟨rfl,rfl⟩
 rw [cSf hp]
 dsimp only
 obtain ⟨hul,hup⟩:=cTt (cSf hp)
 obtain ⟨u,hu⟩:∃u,u=cKk p:=⟨_,rfl⟩
 rw [←hu] at hul hup⊢
 refine go 13 λb2=>?_
 refine dx [b2,b1] (tz [(0,true),(1,true),(2,true)] 13 (go 4 ?_))
 refine t2 3 11 Y ?_ ?_
 focus
  refine (bV Y Y V call11 Y (dDg p n1 J hpm.1 J hpf.1 J _) ?_)
  rintro _ _ ⟨⟨jd,hjd,rfl⟩,rfl⟩
  have had:=getElem_mem hjd
  obtain ⟨a,ha⟩:∃a,a=(cZ1 p)[jd]:=⟨_,rfl⟩
  rw [←ha] at had⊢
  have hgd:=dCg hp had
  obtain ⟨d1,d2,-,-⟩:=dBl hp had
  have hg:=dEi d1 dBx d2 dB7
  refine t2 4 11 Y ?_ ?_
  focus
   refine (bV Y Y V call10 Y (dCc p a zzz J _) ?_)
   rintro _ _ ⟨rfl,rfl⟩
   rw [dCf hgd]
   obtain ⟨q,hq⟩:∃q,q=mP (sw a zzz) (sw a zzz) p:=⟨_,rfl⟩
   rw [←hq]
   have hqs:q.sane:=GR
   have hqw:q.wt=p.wt:=by rw [hq,dC3]
   have hqc:cFx q=(0,0,0):=GG
   have hql:cKk q=⟨(cKk p).globals,(cKk p).mutexes.map (mM (sw a zzz)),(cKk p).procs.map (mPc (sw a zzz)),(cKk p).main⟩:=GF
   refine t2 5 11 Y ?_ ?_
   focus
    refine (bMg 0 [] Y Y V call9 Y Y (cUg q hqs J _) bDl bDl (λ_=>bDl) ?_)
    rintro _ _ ⟨rfl,rfl⟩
    rw [hqc,hql,dBr,←hu]
    dsimp only
    refine tz [(6,true),(7,true),(8,true),(9,true),(10,true),(11,false),(12,false),(13,true),(14,true),(15,true)] 0 (go 11 λb3=>?_)
   rotate_left
   refine (jK Y Y V zeroValue31 Y λb4=>?_)
   refine ox 5 Y Y (bMg 0 [] Y Y V call9 Y Y (cUg q hqs J _) bDl bDl (λ_=>bDl) ?_)
   rintro _ _ ⟨rfl,rfl⟩
   rw [hqc,hql,dBr,←hu]
   dsimp only
   refine tz [(6,true),(7,true),(8,true),(9,true),(10,true),(12,false),(13,true),(14,true),(15,true)] 0 (go 10 ?_)
  rotate_left 2
  refine (jK Y Y V zeroValue31 Y λb5=>?_)
  refine ox 4 Y Y (bV Y Y V call10 Y (dCc p a zzz J _) ?_)
  rintro _ _ ⟨rfl,rfl⟩
  rw [dCf hgd]
  obtain ⟨q,hq⟩:∃q,q=mP (sw a zzz) (sw a zzz) p:=⟨_,rfl⟩
  rw [←hq]
  have hqs:q.sane:=GR
  have hqw:q.wt=p.wt:=by rw [hq,dC3]
  have hqc:cFx q=(0,0,0):=GG
  have hql:cKk q=⟨(cKk p).globals,(cKk p).mutexes.map (mM (sw a zzz)),(cKk p).procs.map (mPc (sw a zzz)),(cKk p).main⟩:=GF
  refine ox 5 Y Y (bMg 0 [] Y Y V call9 Y Y (cUg q hqs J _) bDl bDl (λ_=>bDl) ?_)
  rintro _ _ ⟨rfl,rfl⟩
  rw [hqc,hql,dBr,←hu]
  dsimp only
  refine tz [(6,true),(7,true),(8,true),(9,true),(10,true),(12,false),(13,true),(14,true),(15,true)] 0 (go 10 ?_)
 rotate_left 3
 refine (jK Y Y V zeroValue31 Y λb6=>?_)
 refine ox 3 Y Y (bV Y Y V call11 Y (dDg p n1 J hpm.1 J hpf.1 J _) ?_)
 rintro _ _ ⟨⟨jd,hjd,rfl⟩,rfl⟩
 have had:=getElem_mem hjd
 obtain ⟨a,ha⟩:∃a,a=(cZ1 p)[jd]:=⟨_,rfl⟩
 rw [←ha] at had⊢
 have hgd:=dCg hp had
 obtain ⟨d1,d2,-,-⟩:=dBl hp had
 have hg:=dEi d1 dBx d2 dB7
 refine ox 4 Y Y (bV Y Y V call10 Y (dCc p a zzz J _) ?_)
 rintro _ _ ⟨rfl,rfl⟩
 rw [dCf hgd]
 obtain ⟨q,hq⟩:∃q,q=mP (sw a zzz) (sw a zzz) p:=⟨_,rfl⟩
 rw [←hq]
 have hqs:q.sane:=GR
 have hqw:q.wt=p.wt:=by rw [hq,dC3]
 have hqc:cFx q=(0,0,0):=GG
 have hql:cKk q=⟨(cKk p).globals,(cKk p).mutexes.map (mM (sw a zzz)),(cKk p).procs.map (mPc (sw a zzz)),(cKk p).main⟩:=GF
 refine ox 5 Y Y (bMg 0 [] Y Y V call9 Y Y (cUg q hqs J _) bDl bDl (λ_=>bDl) ?_)
 rintro _ _ ⟨rfl,rfl⟩
 rw [hqc,hql,dBr,←hu]
 dsimp only
 refine tz [(6,true),(7,true),(8,true),(9,true),(10,true),(12,false),(13,true),(14,true),(15,true)] 0 (go 10 ?_)
 all_goals
  refine ax (go 4 ?_)
  refine wcp true Y B7 (go 2 ?_)
  refine wcp true Y B7 (go 4 ?_)
  obtain ⟨i1,i2,i3,i4⟩:=dA2 (p:=p) J
  rw [←hu] at i1 i2 i3 i4
  refine wc1 Y call12 Y (dA1 u (sw a zzz) i1 i2 i3 i4 _) (go 2 ?_)
  refine wo Y (bRj 0 Y Y V call13 Y cTp ?_)
  refine go 5 ?_
  exact ⟨.inr Y,_,⟨[],[]⟩,aR Y (aF Y),aA (List.nil_sublist _) (List.nil_sublist _),Y,Y⟩
theorem dAc(H:Type)(enc:TypeId×Value -> H)(W:World)(base:Nat)(args:Array Value)(ds gs:List (DataW H))(before:List MemPlace)
  (hval:∀(j:Nat) t v,Tryz.f3.params[j]?=some t -> args[j]?=some v -> Value.okWide prog W .any base t v)
  (hW:DataW.Whole enc prog Tryz.f3.params.toList Rows.lowerRenameSpec.vars false W args.toList ds gs before) (he:bM9 W):
  Calls prog 3 args W λe W'=>∃v,e=.returned v /\ Rows.lowerRenameSpec.post enc prog Tryz.f3 false true false false W args v W':=by
 have hW':=hW
 obtain ⟨p,q,hA0,hV,rfl,hfz,hnd⟩:=hW
 have hA:DataW.TrodAll enc prog W 0 (λ_=>true) true Tryz.f3.params.toList args.toList ds p:=hA0
 rw [Tryz.params3] at hA hval
 obtain ⟨v0,vs0,d0,ds0,p0,q0,hargs,rfl,rfl,h0,r0⟩:=trodAll_cons hA
 obtain ⟨v1,vs1,d1,ds1,p1,q1,rfl,rfl,rfl,h1,r1⟩:=trodAll_cons r0
 obtain ⟨rfl,rfl,rfl⟩:=trodAll_nil r1
 obtain rfl:args=#[v0,v1]:=by cases args;simp_all
 have walk:Calls prog 3 #[v0,v1] W λe w'=>e=.returned (.bool true) /\ Below W.heap.size W w':=by
  obtain ⟨l0,a0,cap0,rfl,hc0,hcm0,hr0⟩:=aHn (hval 0 22 v0 rfl rfl) h0
  obtain ⟨n1,rfl,rfl,rfl,hn1⟩:=open_int underlying3 (hval 1 3 v1 rfl rfl) h1
  have hm0:=bOi (t:=.c (.sl l0.length (l0.map λi=>Vi i))) (v:=.slice a0 l0.length cap0) he (aLg hr0 (by unfold maxLen at hcm0;omega))
  exact aJe (vs:=[.slice a0 l0.length cap0,.int .i64 n1]) (dBh l0 n1 (by unfold maxLen at hcm0;omega) (bE2 hn1)) Y λi h h'=>by
   match i,h,h' with
   |0,_,_=>exact hm0
   |1,_,_=>exact .c _ _ (.val _ rfl)
 refine walk.mono λe W' ⟨he,hb⟩=>?_
 subst he
 exact aMc hW' Y Y (by rw [Tryz.params3];intro t ht;simp at ht;rcases ht with rfl|rfl<;>exact ⟨B6,of_decide_eq_true B6⟩) rfl hb
theorem dAr(os:Os){H:Type}(enc:TypeId×Value -> H):∃places,DataW.whole enc prog ((World.doorLaid prog 60 os).forCall (λ_ _=>0) ⟨#[],#[.slice none 0 0,.int .i64 0],[]⟩).memory Tryz.f3.params.toList Rows.lowerRenameSpec.vars false (#[.slice none 0 0,.int .i64 0]:Array Value).toList 8=some ([.nil,.lit (.int .i64 0)],[],places):=
 ⟨[],B6⟩
theorem dAj(os:Os)(started:os.Started)(H:Type)(enc:TypeId×Value -> H)(F:Stop.Interp):
  ReturnsInHanded {} Tryz.checked os 3 .any ((OpenSpec.ofChange Rows.lowerRenameSpec).preRow enc prog Tryz.f3 Rows.lowerRenameRow.domain false Rows.lowerRenameRow.laid) (((OpenSpec.ofChange Rows.lowerRenameSpec).at F).post enc prog Tryz.f3 false true false false):=by
 obtain ⟨places,hx⟩:=dAr os enc
 refine returnsInHanded_of_row (C:=Tryz.checked) (s:=OpenSpec.ofChange Rows.lowerRenameSpec) own started B6 func3
  (witness_row_at (enc:=enc) (C:=Tryz.checked) false (World.doorLaid prog 60 os) #[.slice none 0 0,.int .i64 0] rfl B6 B6 B6
   (OpenSpec.preRow_of_cond 8 hx B6 (λk hk=>by cases hk) B6 (bQj os _))) ?_
 intro W base args ds gs before hval hW _ _ _ hL hSh _
 exact dAc H enc W base args ds gs before hval hW (bRl hL hSh)
theorem dAi:joinedFacts prog 3 Tryz.f3 (OpenSpec.ofChange Rows.lowerRenameSpec).bare Rows.lowerRenameRow=true:=by
 unfold joinedFacts
 repeat (rw [Bool.and_eq_true];refine And.intro ?_ (by as_aux_lemma=>kernel_rfl))
 as_aux_lemma=>kernel_rfl
theorem dAs:Rows.LowerRenameSaid:=
 OpenClaim.holds_of_cond 3 Tryz.f3 rfl rfl rfl rfl rfl rfl rfl ⟨rfl,rfl,rfl,rfl,rfl⟩ rfl rfl rfl rfl rfl B6 func3 dAi
  (of_decide_eq_true B6) (by unfold Func.isWrapper;first|(rw [if_pos (by decide+kernel)];kernel_rfl)|(rw [if_neg (by decide+kernel)];exact ⟨rfl,rfl⟩))
  (λos started H enc _ F=>by rw [OpenClaim.pre_eq_preRow];exact dAj os started H enc F)
theorem dAn (f : FuncId) (fn : Func) (hf : Tryz.pinned.checked.prog.funcNamed "lockorder/lockorderlaw06.LowerRename" = some f) (hfn : Tryz.pinned.checked.prog.funcs[f]? = some fn) :
  false=Tryz.pinned.checked.prog.looks [] /\ ∀(j:Nat) t,fn.params[j]?=some t -> Tryz.pinned.checked.prog.wantsStandIn t=false:=by
 obtain rfl : f = 3 := Option.some.inj ((show prog.funcNamed "lockorder/lockorderlaw06.LowerRename" = some 3 by kernel_rfl).symm.trans hf) |>.symm
 obtain rfl:fn=Tryz.f3:=(Option.some.inj (func3.symm.trans hfn)).symm
 refine ⟨B6,λj t ht=>?_⟩
 rw [Tryz.params3] at ht
 have hm:t∈[22,3]:=by simpa using Array.mem_of_getElem? ht
 have hall:([22,3].all λu=>!prog.wantsStandIn u)=true:=B6
 exact (show prog.wantsStandIn t=false by simpa using List.all_eq_true.1 hall t hm)
end
end Go.Proofs.YtjgeihmhppadaaaGreatDoor
