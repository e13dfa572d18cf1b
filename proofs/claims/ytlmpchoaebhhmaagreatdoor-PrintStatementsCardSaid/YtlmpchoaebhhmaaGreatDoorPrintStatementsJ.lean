/-
  Proved: for all arguments lockorderlaw04.PrintStatements returns true and leaves its arguments as they were. No condition beyond the row's own. (Printed by genlaw_pstm.py.)
-/
import Derived.Test.YtlmpchoaebhhmaaGreatDoorG5J
import Derived.Test.YtlmpchoaebhhmaaGreatDoorG23J
import Derived.Test.YtlmpchoaebhhmaaGreatDoorG26J
import Derived.Test.YtlmpchoaebhhmaaGreatDoorG27J
import Derived.Test.YtlmpchoaebhhmaaGreatDoorG13J
set_option linter.all false
set_option synthInstance.maxHeartbeats 1000000
set_option synthInstance.maxSize 1000000
set_option maxHeartbeats 8000000
set_option maxRecDepth 100000
namespace Go.Proofs.YtlmpchoaebhhmaaGreatDoor
open Go.Proofs.Tryz
open List (length_append length_cons length_nil mem_append mem_cons not_mem_nil append_assoc getElem_mem take_of_length_le)
section
open Go.ChangeShapes Go.WideShapes Go.ChangeAt Go.RowKit
theorem bE2{n:Int}(h:(Lit.int .i64 n).wf=true):-9223372036854775808 <= n /\ n <= 9223372036854775807:=by
 simp only [Lit.wf,Bool.and_eq_true,decide_eq_true_eq] at h
 exact h
theorem bRo{P:Program}{U:List Nat}{o:Oper}{st:AS}{t yt:TypeId}{x y:Operand}{m:Int}(ho:o.op=.binOp .shr t x y yt)(hx:evA st x=some (.c (.val (.int .i64 m))))(hy:evA st y=some (.c (.val (.int .u64 4)))):AY P U o st (.c (.val (.int .i64 (m.fdiv 16)))):=
 fW rfl fun a w hs w'=>by
  simp only [execOp,ho,hs.val hx,hs.val hy]
  simp [go_sem,eqGuard,binOp,Op.shift,show min (Int.toNat 4) IntKind.i64.bits=4 from rfl]
theorem bP8(l:List aJ)(k:Nat):(l.flatMap encS).take (k*11)=(l.take k).flatMap encS:=by
 induction l generalizing k with
 |nil=>simp
 |cons x l ih=>
  cases k with
  |zero=>simp
  |succ k=>
   rw [List.flatMap_cons,List.take_succ_cons,List.flatMap_cons,List.take_append,mE,take_of_length_le (by rw [mE];omega),show (k+1)*11-11=k*11 by omega,ih]
theorem bP5(l:List aJ)(k:Nat):(l.flatMap encS).drop (k*11)=(l.drop k).flatMap encS:=by
 induction l generalizing k with
 |nil=>simp
 |cons x l ih=>
  cases k with
  |zero=>simp
  |succ k=>
   rw [List.flatMap_cons,List.drop_succ_cons,List.drop_append,mE,List.drop_of_length_le (by rw [mE];omega),show (k+1)*11-11=k*11 by omega,ih,List.nil_append]
theorem bQd(l:List aJ):(l.flatMap encS).length=l.length*11:=by
 induction l with
 |nil=>simp
 |cons x l ih=>rw [List.flatMap_cons,length_append,mE,ih,length_cons];omega
theorem bP4(l:List aJ)(k:Nat):bLh l=bLh (l.take k)+bLh (l.drop k):=by rw [←bO0,List.take_append_drop]
theorem bMt(l0:List Int)(n1:Int)(hl0:l0.length <= 9223372036854775807)(hn1:-9223372036854775808 <= n1 /\ n1 <= 9223372036854775807):aL prog 5 [bK5 (.c (.sl l0.length (l0.map fun i=>.val (.int .i64 i)))),.c (.val (.int .i64 n1))] [] ⟨[],[]⟩ fun r s'=>r=.c (.val (.bool true)) /\ s'=⟨[],[]⟩:=by
 refine acB func5 rfl ?_
 show AWp prog _ ⟨49,[],⟨[],[]⟩,[(0,bK5 (.c (.sl l0.length (l0.map fun i=>.val (.int .i64 i))))),(1,.c (.val (.int .i64 n1)))]⟩ _
 refine go 8 ?_
 refine wc0 rfl call20 rfl (aHs l0 (by omega) _) ?_
 rintro _ _ ⟨p,rfl,hp,rfl⟩
 have hfa:=hp.facts
 have hfw:=hfa.wt
 have hpf:=hp.funcs
 refine go 5 fun b1=>?_
 refine aB [b1] (by kernel_rfl) ?_
 refine tks [(0,true),(1,true),(2,true),(3,true),(4,true),(5,true)] 5 (by kernel_rfl) ?_
 refine go 7 ?_
 obtain ⟨j1,hj1,hlj1⟩:=bEj (n1) (((p.funcs.length:Nat):Int)) (by omega)
 refine one 6 (by kernel_rfl) rfl rfl (bV rfl rfl (by decide) call16 rfl (bEl (n1) (((p.funcs.length:Nat):Int)) j1 (by omega) (by omega) hj1 _) ?_)
 rintro _ _ ⟨rfl,rfl⟩
 refine tr 7 (by kernel_rfl) rfl (bH fV fV p.funcs vC (fun _=>rfl) j1 rfl rfl rfl rfl (by omega) (by decide) runUnderlying33 sizeOf44) ?_
 refine tks [(8,true),(9,true),(10,true)] 0 (by kernel_rfl) ?_
 refine go 4 ?_
 refine aE (by kernel_rfl) ?_
 refine go 3 ?_
 have hwf:=aDi bS.wt p.funcs j1 (by omega)
 rw [show bS.wt p.funcs[j1]=1+p.funcs[j1].params.length+wtS p.funcs[j1].body from rfl] at hwf
 have hcw:=bNe p.funcs[j1].body
 have hkid:=bLo p.funcs[j1].body
 have hpw:p.wt=p.globals.length+p.mutexes.length+(p.funcs.map bS.wt).sum:=rfl
 refine go 1 ?_
 refine wc1 rfl call26 rfl (bMy (bLh p.funcs[j1].body) p.funcs[j1].body (Nat.le_refl _) (by omega) _) ?_
 refine go 6 ?_
 refine wyz rfl (bRo rfl rfl rfl) ?_
 refine go 2 ?_
 refine wad rfl ?_
 obtain ⟨j2,hj2,hlj2⟩:=bEj ((n1.fdiv 16)) ((((p.funcs[j1].body.length:Nat):Int)+1)) (by omega)
 refine wc0 rfl call16 rfl (bEl ((n1.fdiv 16)) ((((p.funcs[j1].body.length:Nat):Int)+1)) j2 (by omega) (by omega) hj2 _) ?_
 rintro _ _ ⟨rfl,rfl⟩
 refine go 4 ?_
 refine aB [b1] (by kernel_rfl) ?_
 have hsp:=bP4 p.funcs[j1].body j2
 refine tks [(0,true),(1,true)] 19 (by kernel_rfl) ?_
 refine go 3 ?_
 refine one 2 (by kernel_rfl) rfl rfl (bV rfl rfl (by decide) call27 rfl (bPd (bLh p.funcs[j1].body) p.funcs[j1].body (Nat.le_refl _) (by omega) _) ?_)
 rintro _ _ ⟨rfl,rfl⟩
 refine tr 3 (by kernel_rfl) rfl (bO true rfl rfl rfl (eR (by omega))) ?_
 refine tks [(4,true),(5,true),(6,true),(7,true)] 13 (by kernel_rfl) ?_
 refine go 5 ?_
 refine tr 8 (by kernel_rfl) rfl (aGm (h:=(p.funcs[j1].body.take j2).length) (r:=(p.funcs[j1].body.take j2).flatMap encS) rfl rfl rfl (by rw [List.length_take,Nat.min_eq_left (by omega)]) (by rw [List.length_take];omega) (by kernel_rfl) (by kernel_rfl) sizeOf94 (by rw [List.length_take,Nat.min_eq_left (by omega)];exact bP8 p.funcs[j1].body j2)) ?_
 refine tks [(10,true),(11,true)] 10 (by kernel_rfl) ?_
 refine go 3 ?_
 refine tr 12 (by kernel_rfl) rfl (bGm (l:=j2) (m:=(p.funcs[j1].body.drop j2).length) (r:=(p.funcs[j1].body.drop j2).flatMap encS) rfl rfl rfl rfl (by omega) (bQd p.funcs[j1].body) (by kernel_rfl) (by kernel_rfl) sizeOf94 List.length_drop.symm (bP5 p.funcs[j1].body j2)) ?_
 refine one 9 (by kernel_rfl) rfl rfl (bV rfl rfl (by decide) call26 rfl (bMy (bLh (p.funcs[j1].body.take j2)) (p.funcs[j1].body.take j2) (Nat.le_refl _) (by omega) _) ?_)
 rintro _ _ ⟨rfl,rfl⟩
 refine one 13 (by kernel_rfl) rfl rfl (bV rfl rfl (by decide) call26 rfl (bMy (bLh (p.funcs[j1].body.drop j2)) (p.funcs[j1].body.drop j2) (Nat.le_refl _) (by omega) _) ?_)
 rintro _ _ ⟨rfl,rfl⟩
 refine tr 14 (by kernel_rfl) rfl (bB rfl rfl rfl (by omega) (by omega)) ?_
 refine tr 15 (by kernel_rfl) rfl (bO true rfl rfl rfl (eR (by omega))) ?_
 refine tks [(16,true),(17,true)] 3 (by kernel_rfl) ?_
 refine go 3 ?_
 refine one 18 (by kernel_rfl) rfl rfl (bRj 0 rfl rfl (by decide) call25 rfl bPi ?_)
 refine tks [(19,true),(20,true)] 0 (by kernel_rfl) ?_
 refine go 3 ?_
 refine aE (by kernel_rfl) ?_
 refine go 2 ?_
 exact ⟨.inr rfl,_,⟨[],[]⟩,aR rfl (aF rfl),aA (List.nil_sublist _) (List.nil_sublist _),rfl,rfl⟩
theorem bL2(H:Type)(enc:TypeId×Value -> H)(W:World)(base:Nat)(args:Array Value)(ds gs:List (DataW H))(before:List MemPlace)
  (hval:∀(j:Nat) t v,Tryz.f5.params[j]?=some t -> args[j]?=some v -> Value.okWide prog W .any base t v)
  (hW:DataW.Whole enc prog Tryz.f5.params.toList Rows.printStatementsSpec.vars false W args.toList ds gs before) (he:bM9 W):
  Calls prog 5 args W fun e W'=>∃v,e=.returned v /\ Rows.printStatementsSpec.post enc prog Tryz.f5 false true false false W args v W':=by
 have hW':=hW
 obtain ⟨p,q,hA0,hV,rfl,hfz,hnd⟩:=hW
 have hA:DataW.TrodAll enc prog W 0 (fun _=>true) true Tryz.f5.params.toList args.toList ds p:=hA0
 rw [Tryz.params5] at hA hval
 obtain ⟨v0,vs0,d0,ds0,p0,q0,hargs,rfl,rfl,h0,r0⟩:=trodAll_cons hA
 obtain ⟨v1,vs1,d1,ds1,p1,q1,rfl,rfl,rfl,h1,r1⟩:=trodAll_cons r0
 obtain ⟨rfl,rfl,rfl⟩:=trodAll_nil r1
 obtain rfl:args=#[v0,v1]:=by cases args;simp_all
 have walk:Calls prog 5 #[v0,v1] W fun e w'=>e=.returned (.bool true) /\ Below W.heap.size W w':=by
  obtain ⟨l0,a0,cap0,rfl,hc0,hcm0,hr0⟩:=aHn (hval 0 22 v0 rfl rfl) h0
  obtain ⟨n1,rfl,rfl,rfl,hn1⟩:=open_int underlying3 (hval 1 3 v1 rfl rfl) h1
  have hm0:=bOi (t:=.c (.sl l0.length (l0.map fun i=>.val (.int .i64 i)))) (v:=.slice a0 l0.length cap0) he (aLg hr0 (by unfold maxLen at hcm0;omega))
  exact aJe (vs:=[.slice a0 l0.length cap0,.int .i64 n1]) (bMt l0 n1 (by unfold maxLen at hcm0;omega) (bE2 hn1)) rfl fun i h h'=>by
   match i,h,h' with
   |0,_,_=>exact hm0
   |1,_,_=>exact .c _ _ (.val _ rfl)
 refine walk.mono fun e W' ⟨he,hb⟩=>?_
 subst he
 exact aMc hW' rfl rfl (by rw [Tryz.params5];intro t ht;simp at ht;rcases ht with rfl|rfl<;>exact ⟨by kernel_rfl,of_decide_eq_true (by kernel_rfl)⟩) rfl hb
theorem bMc(os:Os){H:Type}(enc:TypeId×Value -> H):∃places,DataW.whole enc prog ((World.doorLaid prog 60 os).forCall (fun _ _=>0) ⟨#[],#[.slice none 0 0,.int .i64 0],[]⟩).memory Tryz.f5.params.toList Rows.printStatementsSpec.vars false (#[.slice none 0 0,.int .i64 0]:Array Value).toList 8=some ([.nil,.lit (.int .i64 0)],[],places):=
 ⟨[],by kernel_rfl⟩
theorem bL8(os:Os)(started:os.Started)(H:Type)(enc:TypeId×Value -> H)(F:Stop.Interp):
  ReturnsInHanded {} Tryz.checked os 5 .any ((OpenSpec.ofChange Rows.printStatementsSpec).preRow enc prog Tryz.f5 Rows.printStatementsRow.domain false Rows.printStatementsRow.laid) (((OpenSpec.ofChange Rows.printStatementsSpec).at F).post enc prog Tryz.f5 false true false false):=by
 obtain ⟨places,hx⟩:=bMc os enc
 refine returnsInHanded_of_row (C:=Tryz.checked) (s:=OpenSpec.ofChange Rows.printStatementsSpec) own started (by kernel_rfl) func5
  (witness_row_at (enc:=enc) (C:=Tryz.checked) false (World.doorLaid prog 60 os) #[.slice none 0 0,.int .i64 0] rfl (by kernel_rfl) (by kernel_rfl) (by kernel_rfl)
   (OpenSpec.preRow_of_cond 8 hx (by kernel_rfl) (fun k hk=>by cases hk) (by kernel_rfl) (bQj os _))) ?_
 intro W base args ds gs before hval hW _ _ _ hL hSh _
 exact bL2 H enc W base args ds gs before hval hW (bRl hL hSh)
theorem bL9:joinedFacts prog 5 Tryz.f5 (OpenSpec.ofChange Rows.printStatementsSpec).bare Rows.printStatementsRow=true:=by
 unfold joinedFacts
 repeat (rw [Bool.and_eq_true];refine And.intro ?_ (by as_aux_lemma=>kernel_rfl))
 as_aux_lemma=>kernel_rfl
theorem bMh:Rows.PrintStatementsSaid:=
 OpenClaim.holds_of_cond 5 Tryz.f5 rfl rfl rfl rfl rfl rfl rfl ⟨rfl,rfl,rfl,rfl,rfl⟩ rfl rfl rfl rfl rfl (by kernel_rfl) func5 bL9
  (of_decide_eq_true (by kernel_rfl)) (by unfold Func.isWrapper;first|(rw [if_pos (by decide+kernel)];kernel_rfl)|(rw [if_neg (by decide+kernel)];exact ⟨rfl,rfl⟩))
  (fun os started H enc _ F=>by rw [OpenClaim.pre_eq_preRow];exact bL8 os started H enc F)
theorem bMd (f : FuncId) (fn : Func) (hf : Tryz.pinned.checked.prog.funcNamed "lockorder/lockorderlaw04.PrintStatements" = some f) (hfn : Tryz.pinned.checked.prog.funcs[f]? = some fn) :
  false=Tryz.pinned.checked.prog.looks [] /\ ∀(j:Nat) t,fn.params[j]?=some t -> Tryz.pinned.checked.prog.wantsStandIn t=false:=by
 obtain rfl : f = 5 := Option.some.inj ((show prog.funcNamed "lockorder/lockorderlaw04.PrintStatements" = some 5 by kernel_rfl).symm.trans hf) |>.symm
 obtain rfl:fn=Tryz.f5:=(Option.some.inj (func5.symm.trans hfn)).symm
 refine ⟨by kernel_rfl,fun j t ht=>?_⟩
 rw [Tryz.params5] at ht
 have hm:t∈[22,3]:=by simpa using Array.mem_of_getElem? ht
 have hall:([22,3].all fun u=>!prog.wantsStandIn u)=true:=by kernel_rfl
 exact (show prog.wantsStandIn t=false by simpa using List.all_eq_true.1 hall t hm)
theorem printStatements_card:Rows.PrintStatementsCardSaid:=
 Claim7.holds_tied_plain_at .later [] _ _ _ _ bMh (fun _ h=>by cases h) (by kernel_rfl) (fun _ h=>by cases h) printStatements_row_tie rfl ⟨rfl,rfl⟩ (by kernel_rfl) rfl bMd (by kernel_rfl)
#print axioms printStatements_card
end
end Go.Proofs.YtlmpchoaebhhmaaGreatDoor
