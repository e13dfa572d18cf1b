/-
  Proved: for all arguments lockorderlaw02.ExprFormat returns true and leaves its arguments as they were. No condition beyond the row's own. (Printed by genlaw_efmt.py.)
-/
import Derived.Test.YtbdfdjdgfanjaaaDoorG10J
set_option linter.all false
set_option synthInstance.maxHeartbeats 1000000
set_option synthInstance.maxSize 1000000
set_option maxHeartbeats 8000000
set_option maxRecDepth 100000
namespace Go.Proofs.YtbdfdjdgfanjaaaDoor
open Go.Proofs.Tryd
open List (length_append length_cons length_nil mem_append mem_cons not_mem_nil append_assoc getElem_mem take_of_length_le)
section
open Go.ChangeShapes Go.WideShapes Go.ChangeAt Go.RowKit
theorem cKi{W:World}{cs:List AC}{arr:Array Value}(h:fG W cs (Value.agg arr).cells.toList):dO (bI [] W) (.agg cs) (.agg arr):=by
 have:=dO.agg cs arr.toList (h.mono (bO6 W))
 simpa using this
theorem cPo{e:aH}(h:VE e)(hh:dI e <= 24)(hl:(aP e).length <= 3000):∃L,iH (aP e)=.ok L /\ lJ L 0=.ok e (L.length-1) /\ 0<L.length /\ L.length <= 4001:=by
 have h1:=h.lx [] [] Fin.nil Lx.end
 rw [List.append_nil,List.append_nil] at h1
 have h2:=h1.len_le
 obtain ⟨L,hL,hm⟩:=aIz h1 (by omega) (by omega)
 obtain ⟨e1,e2,e3⟩:=cPp hm
 have hp:=h.parse hh (cO7 hm).app.1 (by rw [Nat.zero_add];exact e3 1)
 refine ⟨L,hL,?_,by omega,by omega⟩
 rw [hp,e1,Nat.zero_add];rfl
theorem cO0(l0:List Int)(e1:aH)(hl0:l0.length <= 9223372036854775807)(hs1:e1.sane)(hw1:e1.nodes <= 1048576):aL prog 3 [bK5 (.c (.sl l0.length (l0.map fun i=>.val (.int .i64 i)))),.agg (cU e1)] [] ⟨[],[]⟩ fun r s'=>r=.c (.val (.bool true)) /\ s'=⟨[],[]⟩:=by
 refine acX 54 func3 ?_
 refine go 9 fun b1=>?_
 refine wc0 rfl call5 rfl (cPl l0 (by omega) _) ?_
 rintro _ _ ⟨x,rfl,hx,rfl⟩
 have hvx:=hx.valid cOz (by decide)
 have hsx:=hx.sane cOz
 have hnx:=hx.nodes
 have hlx:=hx.len cOz
 have hhx:=hx.height
 obtain ⟨L,hL,hP,h0L,hfew⟩:=cPo (hx.ve cOz) (by omega) (by omega)
 have hF:bRv x=aP x:=by unfold bRv;rw [if_pos hvx]
 rw [←hF] at hL
 refine go 7 fun b2=>?_
 refine wcR 0 rfl call6 rfl (bQg x (by omega) hsx (fun hv=>by omega) _) (go 5 ?_)
 refine dx [b2,b1] (tz [(0,true),(1,true)] 9 (go 3 ?_))
 refine ox 2 rfl rfl (bV rfl rfl (by decide) call7 rfl (cPn x (by omega) hsx _) ?_)
 rintro _ _ ⟨rfl,rfl⟩
 refine tx 3 rfl (aZ false rfl rfl rfl (by simp [oM])) (tz [(4,true),(5,true),(7,true)] 4 (go 4 ?_))
 refine ox 6 rfl rfl (bMg 0 [] rfl rfl (by decide) call6 rfl rfl (bQg e1 (by omega) hs1 (fun hv=>by have:=tU hs1 (bPb hv);omega) _) bDl bDl (fun _=>bDl) ?_)
 rintro _ _ ⟨rfl,rfl⟩
 refine ox 8 rfl rfl (bV rfl rfl (by decide) call7 rfl (cPn e1 (by omega) hs1 _) ?_)
 rintro _ _ ⟨rfl,rfl⟩
 refine tx 9 rfl (aZ false rfl rfl rfl (by simp [oM])) (tz [(10,true)] 0 (go 2 ?_))
 refine ax (go 7 ?_)
 refine wc1 rfl call8 rfl (cOs (bRv x) L (by rw [hF];omega) hL _) (go 8 ?_)
 by_cases h5:((L.length:Nat):Int)=0
 ·exfalso;omega
 refine wcp false rfl (eD h5) (go 8 ?_)
 refine wc0 rfl call9 rfl (cOu (TOk.of hL) h0L hP _) ?_
 rintro _ _ ⟨rfl,rfl⟩
 refine go 13 fun b3=>?_
 refine wcp true rfl (by simp [bC]) (go 4 ?_)
 refine wyz rfl (qC rfl rfl rfl (by omega) (by omega)) ?_
 by_cases h8:((L.length-1:Nat):Int)=(((L.length:Nat):Int)-1)
 ·refine wcp true rfl (eR h8) (go 4 ?_)
  refine wc1 rfl call10 rfl (mM x (by omega) _) (go 2 ?_)
  refine wo rfl (bRj 0 rfl rfl (by decide) call11 rfl cO5 ?_)
  refine go 5 ?_
  exact ⟨.inr rfl,_,⟨[],[]⟩,aR rfl (aF rfl),aA (List.nil_sublist _) (List.nil_sublist _),rfl,rfl⟩
 exfalso;omega
theorem hZ(H:Type)(enc:TypeId×Value -> H)(W:World)(base:Nat)(args:Array Value)(ds gs:List (DataW H))(before:List MemPlace)
  (hval:∀(j:Nat) t v,Tryd.f3.params[j]?=some t -> args[j]?=some v -> Value.okWide prog W .any base t v)
  (hW:DataW.Whole enc prog Tryd.f3.params.toList Rows.exprFormatSpec.vars false W args.toList ds gs before) (he:bM9 W) (hk:Rows.uptoSmall H (ds++gs)=true):
  Calls prog 3 args W fun e W'=>∃v,e=.returned v /\ Rows.exprFormatSpec.post enc prog Tryd.f3 false true false false W args v W':=by
 have hW':=hW
 obtain ⟨p,q,hA0,hV,rfl,hfz,hnd⟩:=hW
 have hA:DataW.TrodAll enc prog W 0 (fun _=>true) true Tryd.f3.params.toList args.toList ds p:=hA0
 rw [Tryd.params3] at hA hval
 obtain ⟨v0,vs0,d0,ds0,p0,q0,hargs,rfl,rfl,h0,r0⟩:=trodAll_cons hA
 obtain ⟨v1,vs1,d1,ds1,p1,q1,rfl,rfl,rfl,h1,r1⟩:=trodAll_cons r0
 obtain ⟨rfl,rfl,rfl⟩:=trodAll_nil r1
 obtain rfl:args=#[v0,v1]:=by cases args;simp_all
 have walk:Calls prog 3 #[v0,v1] W fun e w'=>e=.returned (.bool true) /\ Below W.heap.size W w':=by
  have hkk:Rows.uptoBulkAll ([d0,d1]++gs) <= 1048576:=of_decide_eq_true hk
  simp only [List.cons_append,Rows.uptoBulkAll] at hkk
  obtain ⟨l0,a0,cap0,rfl,hc0,hcm0,hr0⟩:=aHn (hval 0 22 v0 rfl rfl) h0
  obtain ⟨arr1,rfl,-⟩:=okWide_struct underlying25 (hval 1 25 v1 rfl rfl)
  obtain ⟨e1,hp1,hs1,hw1⟩:=Raw.one cLn h1 (by omega)
  rw [fP] at hp1
  have hm0:=bOi (t:=.c (.sl l0.length (l0.map fun i=>.val (.int .i64 i)))) (v:=.slice a0 l0.length cap0) he (aLg hr0 (by unfold maxLen at hcm0;omega))
  exact aJe (vs:=[.slice a0 l0.length cap0,.agg arr1]) (cO0 l0 e1 (by unfold maxLen at hcm0;omega) hs1 (by omega)) rfl fun i h h'=>by
   match i,h,h' with
   |0,_,_=>exact hm0
   |1,_,_=>exact cKi hp1
 refine walk.mono fun e W' ⟨he,hb⟩=>?_
 subst he
 exact aMc hW' rfl rfl (by rw [Tryd.params3];intro t ht;simp at ht;rcases ht with rfl|rfl<;>exact ⟨by kernel_rfl,of_decide_eq_true (by kernel_rfl)⟩) rfl hb
theorem cOv(os:Os){H:Type}(enc:TypeId×Value -> H):∃places,DataW.whole enc prog ((World.doorLaid prog 60 os).forCall (fun _ _=>0) ⟨#[],#[.slice none 0 0,.agg #[.int .i64 0,.int .i64 0,.string ⟨#[]⟩,.slice none 0 0]],[]⟩).memory Tryd.f3.params.toList Rows.exprFormatSpec.vars false (#[.slice none 0 0,.agg #[.int .i64 0,.int .i64 0,.string ⟨#[]⟩,.slice none 0 0]]:Array Value).toList 8=some ([.nil,.agg [.lit (.int .i64 0),.lit (.int .i64 0),.lit (.string []),.nil]],[],places):=
 ⟨[],by kernel_rfl⟩
theorem cOt(os:Os)(started:os.Started)(H:Type)(enc:TypeId×Value -> H)(F:Stop.Interp):
  ReturnsInHanded {} Tryd.checked os 3 .any ((Rows.OpenSpec.upto Rows.exprFormatSpec).preRow enc prog Tryd.f3 Rows.exprFormatUptoRow.domain false Rows.exprFormatUptoRow.laid) (((Rows.OpenSpec.upto Rows.exprFormatSpec).at F).post enc prog Tryd.f3 false true false false):=by
 obtain ⟨places,hx⟩:=cOv os enc
 refine returnsInHanded_of_row (C:=Tryd.checked) (s:=Rows.OpenSpec.upto Rows.exprFormatSpec) own started (by kernel_rfl) func3
  (witness_row_at (enc:=enc) (C:=Tryd.checked) false (World.doorLaid prog 60 os) #[.slice none 0 0,.agg #[.int .i64 0,.int .i64 0,.string ⟨#[]⟩,.slice none 0 0]] rfl (by kernel_rfl) (by kernel_rfl) (by kernel_rfl)
   (OpenSpec.preRow_of_cond 8 hx (by kernel_rfl) (fun k hk=>by cases hk;kernel_rfl) (by kernel_rfl) (bQj os _))) ?_
 intro W base args ds gs before hval hW _ hk _ hL hSh _
 exact hZ H enc W base args ds gs before hval hW (bRl hL hSh) (hk _ rfl)
theorem cOr:joinedFacts prog 3 Tryd.f3 (Rows.OpenSpec.upto Rows.exprFormatSpec).bare Rows.exprFormatUptoRow=true:=by
 unfold joinedFacts
 repeat (rw [Bool.and_eq_true];refine And.intro ?_ (by as_aux_lemma=>kernel_rfl))
 as_aux_lemma=>kernel_rfl
theorem cOy:Rows.ExprFormatUptoSaid:=
 OpenClaim.holds_of_cond 3 Tryd.f3 rfl rfl rfl rfl rfl rfl rfl ⟨rfl,rfl,rfl,rfl,rfl⟩ rfl rfl rfl rfl rfl (by kernel_rfl) func3 cOr
  (of_decide_eq_true (by kernel_rfl)) (by unfold Func.isWrapper;first|(rw [if_pos (by decide+kernel)];kernel_rfl)|(rw [if_neg (by decide+kernel)];exact ⟨rfl,rfl⟩))
  (fun os started H enc _ F=>by rw [OpenClaim.pre_eq_preRow];exact cOt os started H enc F)
theorem cOw (f : FuncId) (fn : Func) (hf : Tryd.pinned.checked.prog.funcNamed "lockorder/lockorderlaw02.ExprFormat" = some f) (hfn : Tryd.pinned.checked.prog.funcs[f]? = some fn) :
  false=Tryd.pinned.checked.prog.looks [] /\ ∀(j:Nat) t,fn.params[j]?=some t -> Tryd.pinned.checked.prog.wantsStandIn t=false:=by
 obtain rfl : f = 3 := Option.some.inj ((show prog.funcNamed "lockorder/lockorderlaw02.ExprFormat" = some 3 by kernel_rfl).symm.trans hf) |>.symm
 obtain rfl:fn=Tryd.f3:=(Option.some.inj (func3.symm.trans hfn)).symm
 refine ⟨by kernel_rfl,fun j t ht=>?_⟩
 rw [Tryd.params3] at ht
 have hm:t∈[22,25]:=by simpa using Array.mem_of_getElem? ht
 have hall:([22,25].all fun u=>!prog.wantsStandIn u)=true:=by kernel_rfl
 exact (show prog.wantsStandIn t=false by simpa using List.all_eq_true.1 hall t hm)
theorem exprFormat_card:Rows.ExprFormatUptoCardSaid:=
 Claim7.holds_tied_plain_at .later [] _ _ _ _ cOy (fun _ h=>by cases h) (by kernel_rfl) (fun _ h=>by cases h) exprFormatUpto_row_tie rfl ⟨rfl,rfl⟩ (by kernel_rfl) rfl cOw (by kernel_rfl)
#print axioms exprFormat_card
end
end Go.Proofs.YtbdfdjdgfanjaaaDoor
