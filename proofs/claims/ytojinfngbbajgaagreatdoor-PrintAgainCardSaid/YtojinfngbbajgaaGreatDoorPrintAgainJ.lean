/-
  Proved: for all arguments lockorderlaw04.PrintAgain returns true and leaves its arguments as they were. No condition beyond the row's own. (Printed by genlaw_pagain.py.)
-/
import Derived.Test.YtojinfngbbajgaaGreatDoorP5J
import Derived.Test.YtojinfngbbajgaaGreatDoorP23J
import Derived.Test.YtojinfngbbajgaaGreatDoorP26J
import Derived.Test.YtojinfngbbajgaaGreatDoorP27J
import Derived.Test.YtojinfngbbajgaaGreatDoorP29J
import Derived.Test.YtojinfngbbajgaaGreatDoorP35J
import Derived.Test.YtojinfngbbajgaaGreatDoorP10J
import Derived.Test.YtojinfngbbajgaaGreatDoorP14J
import Derived.Test.YtojinfngbbajgaaGreatDoorP9J
set_option linter.all false
set_option synthInstance.maxHeartbeats 1000000
set_option synthInstance.maxSize 1000000
set_option maxHeartbeats 8000000
set_option maxRecDepth 100000
namespace Go.Proofs.YtojinfngbbajgaaGreatDoor
open Go.Proofs.Tryz
open List (length_append length_cons length_nil mem_append mem_cons not_mem_nil append_assoc getElem_mem take_of_length_le)
section
open Go.ChangeShapes Go.WideShapes Go.ChangeAt Go.RowKit
theorem bG8{P:Program}{U:List Nat}{o:Oper}{st:AS}{t e:TypeId}{x y:Operand}{n cap b:Nat}{k:IntKind}{i:Int}(j:Nat)(ho:o.op=.indexAddr t x y)(hx:evA st x=some (.c (.val (.slice (some ⟨b,0,none⟩) n cap))))(hy:evA st y=some (.c (.val (.int k i))))(hi:i=j)(hj:j<n)
  (hu:∀w,(underlying t).run P w=.ok (.slice e) w) (hS:∀w,(sizeOf e).run P w=.ok 1 w):AY P U o st (.c (.val (.pointer (some ⟨b,j,none⟩)))):=by
 have h:=dH (z:=1) (U:=U) j ho hx hy hi hj hu hS
 simpa only [Nat.zero_add,Nat.mul_one] using h
theorem bG2(bs:List UInt8)(pad:List AC)(j:Nat)(u:UInt8)(h:j<bs.length):splice (iF bs++pad) j [.val (.int .u8 (u.toNat:Int))]=iF (bs.set j u)++pad:=by
 unfold splice iF
 rw [List.take_append_of_le_length (by simp;omega),List.drop_append_of_le_length (by simp;omega),←append_assoc]
 congr 1
 rw [List.map_set,List.set_eq_take_append_cons_drop,if_pos (by simpa using h)]
 simp
theorem bZj{s:List UInt8}{L:List Tok}{p:cK}{k:Nat}(h:iH s=.ok L)(hp:fH L=.ok p k):jM (vI p)=(p,(vI p).length,0):=by
 obtain ⟨hs,-,-,hv,hf,-⟩:=bY5 h hp
 obtain ⟨M,k2,h1,-,h3⟩:=aFx hs hv
 rw [hf]
 exact pT h1 h3
theorem bYz(l0:List Int)(l1:List Int)(s2:List UInt8)(hl0:l0.length <= 9223372036854775807)(hl1:l1.length <= 9223372036854775807)(hl2:s2.length <= 9223372036854775807):aL prog 3 [bK5 (.c (.sl l0.length (l0.map fun i=>.val (.int .i64 i)))),.c (.sl l1.length (l1.map fun i=>.val (.int .i64 i))),.c (.sl s2.length (iF s2))] [] ⟨[],[]⟩ fun r s'=>r=.c (.val (.bool true)) /\ s'=⟨[],[]⟩:=by
 refine acB func3 rfl ?_
 show AWp prog _ ⟨118,[],⟨[],[]⟩,[(0,bK5 (.c (.sl l0.length (l0.map fun i=>.val (.int .i64 i))))),(1,.c (.sl l1.length (l1.map fun i=>.val (.int .i64 i)))),(2,.c (.sl s2.length (iF s2)))]⟩ _
 refine go 8 ?_
 refine wc0 rfl call11 rfl (bE3 l0 (by omega) _) ?_
 rintro _ _ ⟨p0,hp0,rfl,rfl⟩
 have hpl0:=bEq hp0
 obtain ⟨N,hN⟩:∃N,N=(vI p0).length:=⟨_,rfl⟩
 refine wo rfl (bG5 rfl rfl (by decide) rfl underlying9 underlying23 underlying5 (by rw [kT];omega) (N:=N) (by rw [kT,hN]) (cs:=iF (vI p0)) rfl fun g C pad hC hC2=>?_)
 refine go 10 ?_
 refine fM (fun q:Nat×List UInt8=>(⟨118,[g],⟨[⟨g,5,iF q.2++pad⟩],[]⟩,[(8,nI q.1),(7,.c (.val (.slice (some ⟨g,0,none⟩) N C))),(0,bK5 (.c (.sl l0.length (l0.map fun i=>.val (.int .i64 i))))),(1,.c (.sl l1.length (l1.map fun x=>.val (.int .i64 x)))),(2,.c (.sl s2.length (iF s2)))]⟩:AS)) (fun q=>q.1 <= 2 /\ q.2.length=N) (fun q=>2-q.1) (0,vI p0) (sA rfl) ⟨by omega,hN.symm⟩ ?_
 rintro ⟨k,bs⟩ ⟨hk,hb⟩
 dsimp only at hk hb
 show AWp prog _ ⟨118,[g],⟨[⟨g,5,iF bs++pad⟩],[]⟩,[(8,nI k),(7,.c (.val (.slice (some ⟨g,0,none⟩) N C))),(0,bK5 (.c (.sl l0.length (l0.map fun i=>.val (.int .i64 i))))),(1,.c (.sl l1.length (l1.map fun x=>.val (.int .i64 x)))),(2,.c (.sl s2.length (iF s2)))]⟩ _
 refine go 1 ?_
 refine xX [(43,.c (.val (.bool (decide (k<l1.length /\ k<s2.length /\ k<2 /\ 0<N))))),(8,nI k),(7,.c (.val (.slice (some ⟨g,0,none⟩) N C))),(0,bK5 (.c (.sl l0.length (l0.map fun i=>.val (.int .i64 i))))),(1,.c (.sl l1.length (l1.map fun x=>.val (.int .i64 x)))),(2,.c (.sl s2.length (iF s2)))] ?_ ?_
 ·refine go 4 ?_
  by_cases h1:((k:Nat):Int)<((l1.length:Nat):Int)
  ·refine wcp true rfl (jZ h1) (go 4 ?_)
   by_cases h2:((k:Nat):Int)<((s2.length:Nat):Int)
   ·refine wcp true rfl (jZ h2) (go 3 ?_)
    by_cases h3:((k:Nat):Int)<2
    ·refine wcp true rfl (jZ h3) (go 4 ?_)
     by_cases h4:(0:Int)<((N:Nat):Int)
     ·refine wcp true rfl (mH h4) (go 2 ?_)
      exact ⟨rfl,(aG rfl (bZ (by first|exact (decide_eq_true ⟨by omega,by omega,by omega,by omega⟩).symm|exact (decide_eq_false (fun hh=>by omega)).symm)) (sA rfl))⟩
     refine wcp false rfl (mI h4) (go 2 ?_)
     exact ⟨rfl,(aG rfl (bZ (by first|exact (decide_eq_true ⟨by omega,by omega,by omega,by omega⟩).symm|exact (decide_eq_false (fun hh=>by omega)).symm)) (sA rfl))⟩
    refine wcp false rfl (jQ h3) (go 7 ?_)
    exact ⟨rfl,(aG rfl (bZ (by first|exact (decide_eq_true ⟨by omega,by omega,by omega,by omega⟩).symm|exact (decide_eq_false (fun hh=>by omega)).symm)) (sA rfl))⟩
   refine wcp false rfl (jQ h2) (go 11 ?_)
   exact ⟨rfl,(aG rfl (bZ (by first|exact (decide_eq_true ⟨by omega,by omega,by omega,by omega⟩).symm|exact (decide_eq_false (fun hh=>by omega)).symm)) (sA rfl))⟩
  refine wcp false rfl (jQ h1) (go 16 ?_)
  exact ⟨rfl,(aG rfl (bZ (by first|exact (decide_eq_true ⟨by omega,by omega,by omega,by omega⟩).symm|exact (decide_eq_false (fun hh=>by omega)).symm)) (sA rfl))⟩
 refine gY rfl (fun h5=>?_) (fun h5=>?_)
 ·refine go 4 ?_
  refine dx [] ?_
  obtain ⟨hc1,hc2,hc3,hc4⟩:=of_decide_eq_true h5
  refine tz [(0,true),(1,true),(2,true)] 11 (go 4 ?_)
  refine tx 3 rfl (rT (fun i=>.val (.int .i64 i)) l1 k rfl rfl rfl rfl hc1 runUnderlying22 sizeOf3) (tz [(4,true),(5,true),(6,true),(8,true),(9,true)] 5 (go 6 ?_))
  refine tx 10 rfl (rT (fun c:UInt8=>.val (.int .u8 c.toNat)) s2 k rfl rfl rfl rfl hc2 runUnderlying23 sizeOf5) (tz [(11,true)] 3 (go 2 ?_))
  obtain ⟨j1,hj1,hlj1⟩:=bEj (l1[k]) (((N:Nat):Int)) (by omega)
  refine ox 7 rfl rfl (bV rfl rfl (by decide) call12 rfl (bEl (l1[k]) (((N:Nat):Int)) j1 (by omega) (by omega) hj1 _) ?_)
  rintro _ _ ⟨rfl,rfl⟩
  refine tx 12 rfl (bG8 j1 rfl rfl rfl rfl (by omega) runUnderlying23 sizeOf5) ?_
  refine ox 13 rfl rfl (bHc j1 rfl rfl rfl rfl sizeOf5 (by simp only [iF,length_append,List.length_map];omega) (bG2 bs pad j1 s2[k] (by omega)) (kH.2 ⟨by simp [Sto.bl],by simp⟩) ?_)
  refine ax (go 4 ?_)
  refine wad rfl (go 2 ?_)
  refine ⟨(k+1,bs.set j1 s2[k]),⟨by omega,by simp only [List.length_set];exact hb⟩,by show 2-(k+1)<2-k;omega,(sA rfl)⟩
 refine go 7 ?_
 refine bHa 7 rfl hC hC2 ?_
 subst hb
 refine go 1 ?_
 refine wo rfl (bN9 0 [] rfl rfl (by decide) call13 rfl rfl (fun m=>tQ bs m _) bDl bDl (fun _=>bDl) ?_)
 rintro _ _ ⟨rfl,rfl⟩
 refine go 14 fun b1=>?_
 by_cases h6:(((jM bs).2.2:Nat):Int)=0
 ·refine wcp false rfl (xG h6) (go 7 ?_)
  obtain ⟨L,p,kk,hL,hp,hpx⟩:=bY7 (s:=bs) (by omega)
  obtain ⟨hps,hsm,hpw,hpv,hpf,hpl,M,hM,hML⟩:=bY5 hL hp
  have hax:=bZj hL hp
  rw [hpx]
  dsimp only
  have hfl:(vI p).length <= 262144:=by rw [hpf];exact hpl
  have hfz:(bytes (vI p)).size=(vI p).length:=kT _
  refine go 1 ?_
  refine wcR 0 rfl call15 rfl (bNl p hps (by omega) _) (go 6 ?_)
  refine wo rfl (aDc rfl rfl (by decide) rfl underlying9 underlying23 underlying5 (by rw [kT,hpf];omega) (N:=(vI p).length) rfl (cs:=iF (vI p)) rfl ?_)
  refine wo rfl (bN9 0 [] rfl rfl (by decide) call13 rfl rfl (fun m=>tQ (vI p) m _) bDl bDl (fun _=>bDl) ?_)
  rintro _ _ ⟨hr2,rfl⟩
  rw [hax] at hr2
  dsimp only at hr2
  subst hr2
  refine go 13 fun b2=>?_
  refine wc0 rfl call16 rfl (aLb bs _) ?_
  rintro _ _ ⟨(⟨tl,hl2,rfl,htl⟩|⟨p2,e2,hl2,rfl,he2⟩),rfl⟩
  ·obtain rfl:L=tl:=fX.ok.inj (hL.symm.trans hl2)
   refine go 12 ?_
   refine wo rfl (aDc rfl rfl (by decide) rfl underlying9 underlying23 underlying5 (by rw [kT,hpf];omega) (N:=(vI p).length) rfl (cs:=iF (vI p)) rfl ?_)
   refine wc0 rfl call16 rfl (aLb (vI p) _) ?_
   rintro _ _ ⟨(⟨tl,hl2,rfl,htl⟩|⟨p2,e2,hl2,rfl,he2⟩),rfl⟩
   ·rw [hpf] at hl2
    obtain rfl:M=tl:=fX.ok.inj (hM.symm.trans hl2)
    refine go 12 ?_
    refine wcp true rfl (by simp [bC]) (go 3 ?_)
    refine wc1 rfl call17 rfl (aMe p hsm _) (go 6 ?_)
    refine wcp true rfl (aPz (by omega)) (go 4 ?_)
    refine wcp true rfl (aPz (by omega)) (go 3 ?_)
    refine wcR 0 rfl call15 rfl (bNl p hps (by omega) _) (go 1 ?_)
    refine wyz rfl (aZ true rfl rfl rfl (by simp [oM])) (go 2 ?_)
    refine wo rfl (bRj 0 rfl rfl (by decide) call14 rfl bPi ?_)
    refine go 5 ?_
    exact ⟨.inr rfl,_,⟨[],[]⟩,aR rfl (aF rfl),aA (List.nil_sublist _) (List.nil_sublist _),rfl,rfl⟩
   rw [hpf,hM] at hl2
   cases hl2
  rw [hL] at hl2
  cases hl2
 refine wcp true rfl (xL h6) (go 5 ?_)
 refine wo rfl (bRj 0 rfl rfl (by decide) call14 rfl bPi ?_)
 refine go 5 ?_
 exact ⟨.inr rfl,_,⟨[],[]⟩,aR rfl (aF rfl),aA (List.nil_sublist _) (List.nil_sublist _),rfl,rfl⟩
theorem bX6(H:Type)(enc:TypeId×Value -> H)(W:World)(base:Nat)(args:Array Value)(ds gs:List (DataW H))(before:List MemPlace)
  (hval:∀(j:Nat) t v,Tryz.f3.params[j]?=some t -> args[j]?=some v -> Value.okWide prog W .any base t v)
  (hW:DataW.Whole enc prog Tryz.f3.params.toList Rows.printAgainSpec.vars false W args.toList ds gs before) (he:bM9 W):
  Calls prog 3 args W fun e W'=>∃v,e=.returned v /\ Rows.printAgainSpec.post enc prog Tryz.f3 false true false false W args v W':=by
 have hW':=hW
 obtain ⟨p,q,hA0,hV,rfl,hfz,hnd⟩:=hW
 have hA:DataW.TrodAll enc prog W 0 (fun _=>true) true Tryz.f3.params.toList args.toList ds p:=hA0
 rw [Tryz.params3] at hA hval
 obtain ⟨v0,vs0,d0,ds0,p0,q0,hargs,rfl,rfl,h0,r0⟩:=trodAll_cons hA
 obtain ⟨v1,vs1,d1,ds1,p1,q1,rfl,rfl,rfl,h1,r1⟩:=trodAll_cons r0
 obtain ⟨v2,vs2,d2,ds2,p2,q2,rfl,rfl,rfl,h2,r2⟩:=trodAll_cons r1
 obtain ⟨rfl,rfl,rfl⟩:=trodAll_nil r2
 obtain rfl:args=#[v0,v1,v2]:=by cases args;simp_all
 have walk:Calls prog 3 #[v0,v1,v2] W fun e w'=>e=.returned (.bool true) /\ Below W.heap.size W w':=by
  obtain ⟨l0,a0,cap0,rfl,hc0,hcm0,hr0⟩:=aHn (hval 0 22 v0 rfl rfl) h0
  obtain ⟨l1,a1,cap1,rfl,hc1,hcm1,hr1⟩:=aHn (hval 1 22 v1 rfl rfl) h1
  obtain ⟨s2,a2,cap2,rfl,hc2,hcm2,hr2⟩:=bGx (hval 2 23 v2 rfl rfl) h2
  have hm0:=bOi (t:=.c (.sl l0.length (l0.map fun i=>.val (.int .i64 i)))) (v:=.slice a0 l0.length cap0) he (aLg hr0 (by unfold maxLen at hcm0;omega))
  exact aJe (vs:=[.slice a0 l0.length cap0,.slice a1 l1.length cap1,.slice a2 s2.length cap2]) (bYz l0 l1 s2 (by unfold maxLen at hcm0;omega) (by unfold maxLen at hcm1;omega) (by unfold maxLen at hcm2;omega)) rfl fun i h h'=>by
   match i,h,h' with
   |0,_,_=>exact hm0
   |1,_,_=>exact aLg hr1 (by unfold maxLen at hcm1;omega)
   |2,_,_=>exact bGz hr2 (by unfold maxLen at hcm2;omega)
 refine walk.mono fun e W' ⟨he,hb⟩=>?_
 subst he
 exact aMc hW' rfl rfl (by rw [Tryz.params3];intro t ht;simp at ht;rcases ht with rfl|rfl|rfl<;>exact ⟨by kernel_rfl,of_decide_eq_true (by kernel_rfl)⟩) rfl hb
theorem bYf(os:Os){H:Type}(enc:TypeId×Value -> H):∃places,DataW.whole enc prog ((World.doorLaid prog 60 os).forCall (fun _ _=>0) ⟨#[],#[.slice none 0 0,.slice none 0 0,.slice none 0 0],[]⟩).memory Tryz.f3.params.toList Rows.printAgainSpec.vars false (#[.slice none 0 0,.slice none 0 0,.slice none 0 0]:Array Value).toList 8=some ([.nil,.nil,.nil],[],places):=
 ⟨[],by kernel_rfl⟩
theorem bYa(os:Os)(started:os.Started)(H:Type)(enc:TypeId×Value -> H)(F:Stop.Interp):
  ReturnsInHanded {} Tryz.checked os 3 .any ((OpenSpec.ofChange Rows.printAgainSpec).preRow enc prog Tryz.f3 Rows.printAgainRow.domain false Rows.printAgainRow.laid) (((OpenSpec.ofChange Rows.printAgainSpec).at F).post enc prog Tryz.f3 false true false false):=by
 obtain ⟨places,hx⟩:=bYf os enc
 refine returnsInHanded_of_row (C:=Tryz.checked) (s:=OpenSpec.ofChange Rows.printAgainSpec) own started (by kernel_rfl) func3
  (witness_row_at (enc:=enc) (C:=Tryz.checked) false (World.doorLaid prog 60 os) #[.slice none 0 0,.slice none 0 0,.slice none 0 0] rfl (by kernel_rfl) (by kernel_rfl) (by kernel_rfl)
   (OpenSpec.preRow_of_cond 8 hx (by kernel_rfl) (fun k hk=>by cases hk) (by kernel_rfl) (bQj os _))) ?_
 intro W base args ds gs before hval hW _ _ _ hL hSh _
 exact bX6 H enc W base args ds gs before hval hW (bRl hL hSh)
theorem bX9:joinedFacts prog 3 Tryz.f3 (OpenSpec.ofChange Rows.printAgainSpec).bare Rows.printAgainRow=true:=by
 unfold joinedFacts
 repeat (rw [Bool.and_eq_true];refine And.intro ?_ (by as_aux_lemma=>kernel_rfl))
 as_aux_lemma=>kernel_rfl
theorem bYj:Rows.PrintAgainSaid:=
 OpenClaim.holds_of_cond 3 Tryz.f3 rfl rfl rfl rfl rfl rfl rfl ⟨rfl,rfl,rfl,rfl,rfl⟩ rfl rfl rfl rfl rfl (by kernel_rfl) func3 bX9
  (of_decide_eq_true (by kernel_rfl)) (by unfold Func.isWrapper;first|(rw [if_pos (by decide+kernel)];kernel_rfl)|(rw [if_neg (by decide+kernel)];exact ⟨rfl,rfl⟩))
  (fun os started H enc _ F=>by rw [OpenClaim.pre_eq_preRow];exact bYa os started H enc F)
theorem bYe (f : FuncId) (fn : Func) (hf : Tryz.pinned.checked.prog.funcNamed "lockorder/lockorderlaw04.PrintAgain" = some f) (hfn : Tryz.pinned.checked.prog.funcs[f]? = some fn) :
  false=Tryz.pinned.checked.prog.looks [] /\ ∀(j:Nat) t,fn.params[j]?=some t -> Tryz.pinned.checked.prog.wantsStandIn t=false:=by
 obtain rfl : f = 3 := Option.some.inj ((show prog.funcNamed "lockorder/lockorderlaw04.PrintAgain" = some 3 by kernel_rfl).symm.trans hf) |>.symm
 obtain rfl:fn=Tryz.f3:=(Option.some.inj (func3.symm.trans hfn)).symm
 refine ⟨by kernel_rfl,fun j t ht=>?_⟩
 rw [Tryz.params3] at ht
 have hm:t∈[22,22,23]:=by simpa using Array.mem_of_getElem? ht
 have hall:([22,22,23].all fun u=>!prog.wantsStandIn u)=true:=by kernel_rfl
 exact (show prog.wantsStandIn t=false by simpa using List.all_eq_true.1 hall t hm)
theorem printAgain_card:Rows.PrintAgainCardSaid:=
 Claim7.holds_tied_plain_at .later [] _ _ _ _ bYj (fun _ h=>by cases h) (by kernel_rfl) (fun _ h=>by cases h) printAgain_row_tie rfl ⟨rfl,rfl⟩ (by kernel_rfl) rfl bYe (by kernel_rfl)
#print axioms printAgain_card
end
end Go.Proofs.YtojinfngbbajgaaGreatDoor
