import Derived.Test.YtkfdfhcdmmlfmaaGreatDoorG30J
set_option linter.all false
set_option synthInstance.maxHeartbeats 1000000
set_option synthInstance.maxSize 1000000
set_option maxHeartbeats 8000000
set_option maxRecDepth 100000
namespace Go.Proofs.YtkfdfhcdmmlfmaaGreatDoor
open Go.Proofs.Tryz
open List (length_append length_cons length_nil mem_append mem_cons not_mem_nil append_assoc getElem_mem take_of_length_le)
section
open Go.ChangeShapes Go.WideShapes Go.ChangeAt Go.RowKit
theorem cUz{p:cK}{f:bS}(h:cVz p f){c:List cFw}{s:List Int}(hc:c=(cGe p f).code)(hs:s=cJl p f):s.length=c.length /\ c.length=szL f.body+1 /\ (∀j (h:j<c.length),j+1=c.length -> c[j].op=8) /\ (∀j (h:j<s.length),j+1=s.length -> s[j]=((bLh f.body:Nat):Int)) /\
  (∀j (h:j<c.length),(c[j].op=6∨c[j].op=7) -> c[j].target<c.length) /\ (∀j (h:j<s.length),0 <= s[j] /\ s[j] <= ((bLh f.body:Nat):Int)) /\ ∀m:Nat,m <= bLh f.body -> (m:Int)∈s:=by
 subst hc;subst hs
 obtain ⟨c1,s1,e1,e2⟩:=h.last
 have hl1:(cGe p f).code.length=c1.length+1:=by rw [e1,length_append];rfl
 have hl2:(cJl p f).length=s1.length+1:=by rw [e2,length_append];rfl
 refine ⟨h.sites,h.code,λj hj e=>?_,λj hj e=>?_,λj hj=>h.jmp _ (getElem_mem hj),λj hj=>h.low _ (getElem_mem hj),h.all⟩
 ·rw [List.getElem_of_eq e1,List.getElem_append_right J]
  have:∀q (hq:q<[opI 8 .zero].length),([opI 8 .zero])[q].op=8:=λq hq=>by
   obtain rfl:q=0:=by simp at hq;exact hq
   rfl
  exact this _ _
 rw [List.getElem_of_eq e2,List.getElem_append_right J]
 have:∀q (hq:q<[((bLh f.body:Nat):Int)].length),([((bLh f.body:Nat):Int)])[q]=((bLh f.body:Nat):Int):=λq hq=>by
  obtain rfl:q=0:=by simp at hq;exact hq
  rfl
 exact this _ _
theorem cTb(l0:List Int)(hl0:l0.length <= 9223372036854775807):aL prog 7 [bK5 (.c (.sl l0.length (l0.map λi=>Vi i)))] [] ⟨[],[]⟩ λr s'=>r=Cb true /\ s'=⟨[],[]⟩:=by
 refine acX 163 func7 ?_
 refine go 8 ?_
 refine wc0 Y call15 Y (aHs l0 J _) ?_
 rintro _ _ ⟨p,rfl,hp,rfl⟩
 have hfa:=hp.facts
 have hfw:=hfa.wt
 have hpf:=hp.funcs
 refine go 7 λb1=>?_
 refine wo Y (bMg 0 [] Y Y V call22 Y Y (cUg p hfa.sane J _) bDl bDl (λ_=>bDl) ?_)
 rintro _ _ ⟨rfl,rfl⟩
 rw [cSf hp]
 dsimp only
 obtain ⟨hul,hup⟩:=cTt (cSf hp)
 obtain ⟨u,hu⟩:∃u,u=cKk p:=⟨_,rfl⟩
 rw [←hu] at hul hup⊢
 refine go 16 λb2=>?_
 refine wcp false Y B7 (go 7 ?_)
 refine wcp false Y (xG J) (go 13 ?_)
 refine bMj (α:=Unit) (λ_ _=>True) (u.procs.length) 8 (λ_=>[b2,b1]) (λk _=>⟨[⟨b2,40,cK1 u⟩,⟨b1,27,jV p⟩],[]⟩) (λ_=>[(0,bK5 (.c (.sl l0.length (l0.map λi=>Vi i)))),(3,pP b1),(4,pP b2)]) () trivial (cQf BP) ?_
 rintro k ⟨⟩ hk -
 try dsimp only
 refine go 7 ?_
 by_cases h2:((k:Nat):Int)<((u.procs.length:Nat):Int)
 ·refine wcp true Y (jZ h2) (go 8 ?_)
  have hkl:k<p.funcs.length:=J
  have hj:u.procs[k]=cGe p p.funcs[k]:=hup k J hkl
  have hpk:=cUm hp p.funcs[k] (getElem_mem hkl)
  obtain ⟨ss,hss⟩:∃ss,ss=cJl p p.funcs[k]:=⟨_,rfl⟩
  obtain ⟨g1,g2,g3,g4,g5,g6,g7⟩:=cUz hpk (c:=u.procs[k].code) (by rw [hj]) hss
  have q5:=cTm p.funcs[k].body
  have q9:=bNe p.funcs[k].body
  have q6:=aDi bS.wt p.funcs k hkl
  have q7:bS.wt p.funcs[k]=1+p.funcs[k].params.length+wtS p.funcs[k].body:=Y
  have q8:p.wt=p.globals.length+p.mutexes.length+(p.funcs.map bS.wt).sum:=Y
  refine dx [b2,b1] (tz [(0,true),(1,true),(2,true)] 8 (go 4 ?_))
  refine tx 3 Y (bH cF9 cF9 u.procs cI0 (λ_=>Y) k Y Y Y Y J V runUnderlying38 sizeOf51) (tz [(4,true),(5,true),(6,true),(7,true)] 3 (go 5 ?_))
  refine ox 8 Y Y (bMg 0 [] Y Y V call27 Y Y (cUb p ((k:Nat):Int) hfa.sane J _) bDl bDl (λ_=>bDl) ?_)
  rintro _ _ ⟨rfl,rfl⟩
  rw [cUd (cSf hp) hkl,←hss]
  refine tz [(9,true),(10,true)] 0 (go 3 ?_)
  refine ax (go 6 ?_)
  refine wyz Y (bH fV fV p.funcs vC (λ_=>Y) k Y Y Y Y J V runUnderlying25 sizeOf56) (go 2 ?_)
  refine wc1 Y call29 Y (bPd _ p.funcs[k].body (Nat.le_refl _) J _) (go 10 ?_)
  refine wcp false Y (xG J) (go 3 ?_)
  refine wcp false Y (eD J) (go 5 ?_)
  refine wyz Y (qC) ?_
  obtain ⟨jl,hjl⟩:∃jl:Nat,jl+1=u.procs[k].code.length:=⟨u.procs[k].code.length-1,J⟩
  refine eA 73 Y (t:=nI jl) (gQ J) ?_
  have g8:=g3 jl J hjl
  refine wyz Y (bH encI encI u.procs[k].code cGj (λ_=>Y) jl Y Y Y Y J V runUnderlying49 sizeOf64) (go 2 ?_)
  refine wcp false Y (xG J) (go 5 ?_)
  refine wyz Y (qC) ?_
  refine eA 83 Y (t:=nI jl) (gQ J) ?_
  have g9:=g4 jl J J
  refine wyz Y (rT (λx=>Vi x) ss jl Y Y Y Y J runUnderlying22 sizeOf3) (go 2 ?_)
  refine wcp false Y (xG J) (go 9 ?_)
  refine wad Y ?_
  refine eA 90 Y (t:=Ci (((bLh p.funcs[k].body)+1:Nat):Int)) (gQ J) ?_
  refine wo Y (cX0 Tryz.t4 Y Y V Y Y underlying65 B6 Y Y Y J λgg=>?_)
  rw [cUx]
  refine go 10 ?_
  refine bMj (α:=Unit) (λ_ _=>True) (u.procs[k].code.length) 13 (λ_=>[gg,b2,b1]) (λj _=>⟨[⟨b2,40,cK1 u⟩,⟨b1,27,jV p⟩],[⟨.slice (some ⟨gg,0,none⟩) ((bLh p.funcs[k].body)+1) ((bLh p.funcs[k].body)+1),4,1,(bLh p.funcs[k].body)+1,cSb (ss.take j) ((bLh p.funcs[k].body)+1)⟩]⟩) (λ_=>[(0,bK5 (.c (.sl l0.length (l0.map λi=>Vi i)))),(3,pP b1),(4,pP b2),(8,nI k),(9,.c (Sq encI u.procs[k].code)),(10,.c (.sl ss.length (ss.map λx=>Vi x))),(11,Ci ((bLh p.funcs[k].body:Nat):Int)),(12,Cv (.slice (some ⟨gg,0,none⟩) ((bLh p.funcs[k].body)+1) ((bLh p.funcs[k].body)+1)))]) () trivial (cQf BP) ?_
  rintro j ⟨⟩ hj -
  try dsimp only
  refine go 6 ?_
  by_cases h5:((j:Nat):Int)<((u.procs[k].code.length:Nat):Int)
  ·refine wcp true Y (jZ h5) (go 9 ?_)
   have hjc:j<u.procs[k].code.length:=J
   have g10:=g5 j hjc
   have g11:=g6 j J
   refine go 3 ?_
   refine wyz Y (bH encI encI u.procs[k].code cGj (λ_=>Y) j Y Y Y Y J V runUnderlying49 sizeOf64) (go 2 ?_)
   by_cases h7:u.procs[k].code[j].op=6
   focus
    refine wcp true Y (eR h7) (go 15 ?_)
    have g12:u.procs[k].code[j].target<u.procs[k].code.length:=g10 J
    refine go 2 ?_
    refine wyz Y (bH encI encI u.procs[k].code cGj (λ_=>Y) j Y Y Y Y J V runUnderlying49 sizeOf64) (go 2 ?_)
    refine wcp false Y (jQ J) (go 3 ?_)
    refine wyz Y (bH encI encI u.procs[k].code cGj (λ_=>Y) j Y Y Y Y J V runUnderlying49 sizeOf64) (go 4 ?_)
    refine wcp false Y (aMx J) (go 5 ?_)
   rotate_left
   focus
    refine wcp false Y (eD h7) (go 3 ?_)
    refine wyz Y (bH encI encI u.procs[k].code cGj (λ_=>Y) j Y Y Y Y J V runUnderlying49 sizeOf64) (go 2 ?_)
    by_cases h9:u.procs[k].code[j].op=7
    focus
     refine wcp true Y (eR h9) (go 8 ?_)
     have g12:u.procs[k].code[j].target<u.procs[k].code.length:=g10 J
     refine go 2 ?_
     refine wyz Y (bH encI encI u.procs[k].code cGj (λ_=>Y) j Y Y Y Y J V runUnderlying49 sizeOf64) (go 2 ?_)
     refine wcp false Y (jQ J) (go 3 ?_)
     refine wyz Y (bH encI encI u.procs[k].code cGj (λ_=>Y) j Y Y Y Y J V runUnderlying49 sizeOf64) (go 4 ?_)
     refine wcp false Y (aMx J) (go 5 ?_)
    rotate_left
    refine wcp false Y (eD h9) (go 28 ?_)
   all_goals
    refine wyz Y (rT (λx=>Vi x) ss j Y Y Y Y J runUnderlying22 sizeOf3) (go 1 ?_)
    refine wcp false Y (jQ J) (go 4 ?_)
    refine wyz Y (rT (λx=>Vi x) ss j Y Y Y Y J runUnderlying22 sizeOf3) (go 2 ?_)
    refine wcp false Y (mI J) (go 10 ?_)
    refine wyz Y (rT (λx=>Vi x) ss j Y Y Y Y J runUnderlying22 sizeOf3) (go 1 ?_)
    obtain ⟨sj,hsj⟩:∃sj:Nat,ss[j]=(sj:Int):=⟨ss[j].toNat,J⟩
    have hsj2:sj<(bLh p.funcs[k].body)+1:=J
    refine eA 150 Y (t:=nI sj) (gQ hsj) ?_
    refine wyz Y (dH (z:=1) sj Y Y Y Y hsj2 runUnderlying65 sizeOf4) ?_
    refine wo Y (aO0 (r:=cSb (ss.take (j+1)) ((bLh p.funcs[k].body)+1)) [] Y Y Y Y Y sizeOf4 Y (by rw [cSi];omega) (cTi hsj2 J hsj) G0 GL ?_)
    refine go 5 ?_
    refine wad Y (go 2 ?_)
    exact ⟨J,(),trivial,cQf (h:=aG Y (gQ J) (sA Y)) BP⟩
  refine wcp false Y (jQ h5) (go 14 ?_)
  rw [show ss.take j=ss from take_of_length_le J]
  refine bMj (α:=Unit) (λ_ _=>True) ((bLh p.funcs[k].body)+1) 15 (λ_=>[gg,b2,b1]) (λm _=>⟨[⟨b2,40,cK1 u⟩,⟨b1,27,jV p⟩],[⟨.slice (some ⟨gg,0,none⟩) ((bLh p.funcs[k].body)+1) ((bLh p.funcs[k].body)+1),4,1,(bLh p.funcs[k].body)+1,cSb ss ((bLh p.funcs[k].body)+1)⟩]⟩) (λ_=>[(0,bK5 (.c (.sl l0.length (l0.map λi=>Vi i)))),(3,pP b1),(4,pP b2),(8,nI k),(9,.c (Sq encI u.procs[k].code)),(10,.c (.sl ss.length (ss.map λx=>Vi x))),(11,Ci ((bLh p.funcs[k].body:Nat):Int)),(12,Cv (.slice (some ⟨gg,0,none⟩) ((bLh p.funcs[k].body)+1) ((bLh p.funcs[k].body)+1)))]) () trivial (cQf BP) ?_
  rintro m ⟨⟩ hm -
  try dsimp only
  refine go 5 ?_
  by_cases h13:((m:Nat):Int) <= ((bLh p.funcs[k].body:Nat):Int)
  ·refine wcp true Y (aPz h13) (go 11 ?_)
   refine wyz Y (dH (z:=1) m Y Y Y Y J runUnderlying65 sizeOf4) ?_
   refine wyz Y (rM [] Y Y Y isAgg4 sizeOf4 (cVe J (g7 m J)) Bu) (go 9 ?_)
   refine wad Y (go 2 ?_)
   exact ⟨J,(),trivial,cQf (h:=aG Y (gQ J) (sA Y)) BP⟩
  refine wcp false Y (aPx h13) (go 11 ?_)
  refine wad Y (go 2 ?_)
  exact ⟨J,(),trivial,cQf (h2:=(.cons _ (.refl _))) (h:=aG Y (gQ J) (sA Y)) BP⟩
 refine wcp false Y (jQ h2) (go 10 ?_)
 refine wo Y (bRj 0 Y Y V call25 Y cTp ?_)
 refine go 4 ?_
 exact ⟨.inr Y,_,⟨[],[]⟩,aR Y (aF Y),aA (List.nil_sublist _) (List.nil_sublist _),Y,Y⟩
theorem cSg(H:Type)(enc:TypeId×Value -> H)(W:World)(base:Nat)(args:Array Value)(ds gs:List (DataW H))(before:List MemPlace)
  (hval:∀(j:Nat) t v,Tryz.f7.params[j]?=some t -> args[j]?=some v -> Value.okWide prog W .any base t v)
  (hW:DataW.Whole enc prog Tryz.f7.params.toList Rows.lowerTargetsSpec.vars false W args.toList ds gs before) (he:bM9 W):
  Calls prog 7 args W λe W'=>∃v,e=.returned v /\ Rows.lowerTargetsSpec.post enc prog Tryz.f7 false true false false W args v W':=by
 have hW':=hW
 obtain ⟨p,q,hA0,hV,rfl,hfz,hnd⟩:=hW
 have hA:DataW.TrodAll enc prog W 0 (λ_=>true) true Tryz.f7.params.toList args.toList ds p:=hA0
 rw [Tryz.params7] at hA hval
 obtain ⟨v0,vs0,d0,ds0,p0,q0,hargs,rfl,rfl,h0,r0⟩:=trodAll_cons hA
 obtain ⟨rfl,rfl,rfl⟩:=trodAll_nil r0
 obtain rfl:args=#[v0]:=GZ
 have walk:Calls prog 7 #[v0] W λe w'=>e=.returned (.bool true) /\ Below W.heap.size W w':=by
  obtain ⟨l0,a0,cap0,rfl,hc0,hcm0,hr0⟩:=aHn (hval 0 22 v0 rfl rfl) h0
  have hm0:=bOi (t:=.c (.sl l0.length (l0.map λi=>Vi i))) (v:=.slice a0 l0.length cap0) he (aLg hr0 G6)
  exact aJe (vs:=[.slice a0 l0.length cap0]) (cTb l0 G6) Y λi h h'=>by
   match i,h,h' with
   |0,_,_=>exact hm0
 refine walk.mono λe W' ⟨he,hb⟩=>?_
 subst he
 exact aMc hW' Y Y (by rw [Tryz.params7];intro t ht;simp at ht;subst ht;exact ⟨B6,of_decide_eq_true B6⟩) Y hb
theorem cSq(os:Os){H:Type}(enc:TypeId×Value -> H):∃places,DataW.whole enc prog ((World.doorLaid prog 60 os).forCall (λ_ _=>0) ⟨#[],#[.slice none 0 0],[]⟩).memory Tryz.f7.params.toList Rows.lowerTargetsSpec.vars false (#[.slice none 0 0]:Array Value).toList 8=some ([.nil],[],places):=
 ⟨[],B6⟩
theorem cSo(os:Os)(started:os.Started)(H:Type)(enc:TypeId×Value -> H)(F:Stop.Interp):
  ReturnsInHanded {} Tryz.checked os 7 .any ((OpenSpec.ofChange Rows.lowerTargetsSpec).preRow enc prog Tryz.f7 Rows.lowerTargetsRow.domain false Rows.lowerTargetsRow.laid) (((OpenSpec.ofChange Rows.lowerTargetsSpec).at F).post enc prog Tryz.f7 false true false false):=by
 obtain ⟨places,hx⟩:=cSq os enc
 refine returnsInHanded_of_row (C:=Tryz.checked) (s:=OpenSpec.ofChange Rows.lowerTargetsSpec) own started B6 func7
  (witness_row_at (enc:=enc) (C:=Tryz.checked) false (World.doorLaid prog 60 os) #[.slice none 0 0] rfl B6 B6 B6
   (OpenSpec.preRow_of_cond 8 hx B6 (λk hk=>by cases hk) B6 (bQj os _))) ?_
 intro W base args ds gs before hval hW _ _ _ hL hSh _
 exact cSg H enc W base args ds gs before hval hW (bRl hL hSh)
theorem cSn:joinedFacts prog 7 Tryz.f7 (OpenSpec.ofChange Rows.lowerTargetsSpec).bare Rows.lowerTargetsRow=true:=by
 unfold joinedFacts
 repeat (rw [Bool.and_eq_true];refine And.intro ?_ GO)
 as_aux_lemma=>kernel_rfl
theorem cSu:Rows.LowerTargetsSaid:=
 OpenClaim.holds_of_cond 7 Tryz.f7 rfl rfl rfl rfl rfl rfl rfl ⟨rfl,rfl,rfl,rfl,rfl⟩ rfl rfl rfl rfl rfl B6 func7 cSn
  (of_decide_eq_true B6) G2
  (λos started H enc _ F=>by rw [OpenClaim.pre_eq_preRow];exact cSo os started H enc F)
theorem cSp (f : FuncId) (fn : Func) (hf : Tryz.pinned.checked.prog.funcNamed "lockorder/lockorderlaw06.LowerTargets" = some f) (hfn : Tryz.pinned.checked.prog.funcs[f]? = some fn) :
  false=Tryz.pinned.checked.prog.looks [] /\ ∀(j:Nat) t,fn.params[j]?=some t -> Tryz.pinned.checked.prog.wantsStandIn t=false:=by
 obtain rfl : f = 7 := Option.some.inj ((show prog.funcNamed "lockorder/lockorderlaw06.LowerTargets" = some 7 by kernel_rfl).symm.trans hf) |>.symm
 obtain rfl:fn=Tryz.f7:=(Option.some.inj (func7.symm.trans hfn)).symm
 refine ⟨B6,λj t ht=>?_⟩
 rw [Tryz.params7] at ht
 have hm:t∈[22]:=GF
 have hall:([22].all λu=>!prog.wantsStandIn u)=true:=B6
 exact (show prog.wantsStandIn t=false by simpa using List.all_eq_true.1 hall t hm)
end
end Go.Proofs.YtkfdfhcdmmlfmaaGreatDoor
