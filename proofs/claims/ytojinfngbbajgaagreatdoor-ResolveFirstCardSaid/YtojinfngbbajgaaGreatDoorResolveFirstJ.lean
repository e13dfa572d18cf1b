/-
  Proved: for all arguments lockorderlaw05.ResolveFirst returns true and leaves its arguments as they were. No condition beyond the row's own. (Printed by genlaw_rfirst.py.)
-/
import Derived.Test.YtojinfngbbajgaaGreatDoorF31J
import Derived.Test.YtojinfngbbajgaaGreatDoorF34J
import Derived.Test.YtojinfngbbajgaaGreatDoorF35J
import Derived.Test.YtojinfngbbajgaaGreatDoorF37J
import Derived.Test.YtojinfngbbajgaaGreatDoorF38J
import Derived.Test.YtojinfngbbajgaaGreatDoorF15J
set_option linter.all false
set_option synthInstance.maxHeartbeats 1000000
set_option synthInstance.maxSize 1000000
set_option maxHeartbeats 8000000
set_option maxRecDepth 100000
namespace Go.Proofs.YtojinfngbbajgaaGreatDoor
open Go.Proofs.Tryz
open List (length_append length_cons length_nil mem_append mem_cons not_mem_nil append_assoc getElem_mem take_of_length_le)
section
open Go.ChangeShapes Go.WideShapes Go.ChangeAt Go.RowKit
theorem bE2{n:Int}(h:(Lit.int .i64 n).wf=true):-9223372036854775808 <= n /\ n <= 9223372036854775807:=by
 simp only [Lit.wf,Bool.and_eq_true,decide_eq_true_eq] at h
 exact h
theorem cEt(l0:List Int)(n1:Int)(n2:Int)(n3:Int)(n4:Int)(n5:Int)(n6:Int)(n7:Int)(hl0:l0.length <= 9223372036854775807)(hn1:-9223372036854775808 <= n1 /\ n1 <= 9223372036854775807)(hn2:-9223372036854775808 <= n2 /\ n2 <= 9223372036854775807)(hn3:-9223372036854775808 <= n3 /\ n3 <= 9223372036854775807)(hn4:-9223372036854775808 <= n4 /\ n4 <= 9223372036854775807)(hn5:-9223372036854775808 <= n5 /\ n5 <= 9223372036854775807)(hn6:-9223372036854775808 <= n6 /\ n6 <= 9223372036854775807)(hn7:-9223372036854775808 <= n7 /\ n7 <= 9223372036854775807):aL prog 10 [bK5 (.c (.sl l0.length (l0.map fun i=>.val (.int .i64 i)))),.c (.val (.int .i64 n1)),.c (.val (.int .i64 n2)),.c (.val (.int .i64 n3)),.c (.val (.int .i64 n4)),.c (.val (.int .i64 n5)),.c (.val (.int .i64 n6)),.c (.val (.int .i64 n7))] [] ⟨[],[]⟩ fun r s'=>r=.c (.val (.bool true)) /\ s'=⟨[],[]⟩:=by
 refine acB func10 rfl ?_
 show AWp prog _ ⟨125,[],⟨[],[]⟩,[(0,bK5 (.c (.sl l0.length (l0.map fun i=>.val (.int .i64 i))))),(1,.c (.val (.int .i64 n1))),(2,.c (.val (.int .i64 n2))),(3,.c (.val (.int .i64 n3))),(4,.c (.val (.int .i64 n4))),(5,.c (.val (.int .i64 n5))),(6,.c (.val (.int .i64 n6))),(7,.c (.val (.int .i64 n7)))]⟩ _
 refine go 8 ?_
 refine wc0 rfl call20 rfl (aHs l0 (by omega) _) ?_
 rintro _ _ ⟨p,rfl,hp,rfl⟩
 have hfa:=hp.facts
 have hfw:=hfa.wt
 have hpf:=hp.funcs
 have hwp:p.wt=p.globals.length+p.mutexes.length+(p.funcs.map bS.wt).sum:=rfl
 have hfn:=aDr bS.wt (fun x=>by unfold bS.wt;omega) p.funcs
 refine go 1 ?_
 obtain ⟨j1,hj1,hlj1⟩:=bEj (n1) (7) (by omega)
 refine wc0 rfl call12 rfl (bEl (n1) (7) j1 (by omega) (by omega) hj1 _) ?_
 rintro _ _ ⟨rfl,rfl⟩
 refine wad rfl (go 3 ?_)
 refine wc0 rfl call22 rfl (bTz p (5+((j1:Nat):Int)) n2 n3 n4 hfa.sane (by omega) (by omega) hn4 _) ?_
 rintro _ _ ⟨⟨q,rfl,hq⟩,rfl⟩
 have hqw:=hq.wt
 have hqs:=hq.sane
 have hql:=aDr bS.wt (fun x=>by unfold bS.wt;omega) q.funcs
 have hqe:q.wt=q.globals.length+q.mutexes.length+(q.funcs.map bS.wt).sum:=rfl
 refine go 7 fun b1=>?_
 refine wo rfl (bMg 0 [] rfl rfl (by decide) call19 rfl rfl (cCm q hqs (by omega) _) bDl bDl (fun _=>bDl) ?_)
 rintro _ _ ⟨f,s0,e,hc,rfl,rfl⟩
 have hat:e=0∨(-1 <= f /\ f<(q.funcs.length:Int)):=(Nat.eq_zero_or_pos e).imp id fun he=>cE4 hc (by omega)
 refine go 13 ?_
 by_cases h1:((e:Nat):Int)=0
 ·refine wcp true rfl (eR h1) (go 17 ?_)
  refine wo rfl (bRj 0 rfl rfl (by decide) call21 rfl cCo ?_)
  refine go 5 ?_
  exact ⟨.inr rfl,_,⟨[],[]⟩,aR rfl (aF rfl),aA (List.nil_sublist _) (List.nil_sublist _),rfl,rfl⟩
 refine wcp false rfl (eD h1) (go 2 ?_)
 by_cases h3:f<0
 ·refine wcp true rfl (jZ h3) (go 14 ?_)
  refine wo rfl (bRj 0 rfl rfl (by decide) call21 rfl cCo ?_)
  refine go 5 ?_
  exact ⟨.inr rfl,_,⟨[],[]⟩,aR rfl (aF rfl),aA (List.nil_sublist _) (List.nil_sublist _),rfl,rfl⟩
 refine wcp false rfl (jQ h3) (go 3 ?_)
 refine wad rfl (go 3 ?_)
 by_cases h5:((q.funcs.length:Nat):Int) <= (f+1)
 ·refine wcp true rfl (aMq h5) (go 6 ?_)
  refine wo rfl (bRj 0 rfl rfl (by decide) call21 rfl cCo ?_)
  refine go 5 ?_
  exact ⟨.inr rfl,_,⟨[],[]⟩,aR rfl (aF rfl),aA (List.nil_sublist _) (List.nil_sublist _),rfl,rfl⟩
 refine wcp false rfl (aMx h5) (go 9 ?_)
 refine wad rfl (go 5 ?_)
 refine wyz rfl (qC rfl rfl rfl (by omega) (by omega)) ?_
 refine wyz rfl (qC rfl rfl rfl (by omega) (by omega)) ?_
 obtain ⟨j2,hj2,hlj2⟩:=bEj (n6) (((((q.funcs.length:Nat):Int)-f)-1)) (by omega)
 refine wc0 rfl call12 rfl (bEl (n6) (((((q.funcs.length:Nat):Int)-f)-1)) j2 (by omega) (by omega) hj2 _) ?_
 rintro _ _ ⟨rfl,rfl⟩
 refine wad rfl (go 5 ?_)
 obtain ⟨kk,hkk⟩:∃kk:Nat,(kk:Int)=f+1+(j2:Int):=⟨(f+1+j2).toNat,by omega⟩
 have hj1:kk<q.funcs.length:=by omega
 refine eA 21 rfl (t:=.c (.val (.int .i64 (kk:Nat)))) (gQ (by omega)) ?_
 have hfs:=hqs.funcs q.funcs[kk] (getElem_mem hj1)
 have hfw:=aDi bS.wt q.funcs kk hj1
 have hfw2:bS.wt q.funcs[kk]=1+q.funcs[kk].params.length+wtS q.funcs[kk].body:=rfl
 have hcw:=bNe q.funcs[kk].body
 refine go 3 ?_
 refine wyz rfl (bH fV fV q.funcs vC (fun _=>rfl) kk rfl rfl rfl rfl (by omega) (by decide) runUnderlying28 sizeOf58) (go 2 ?_)
 refine wc1 rfl call27 rfl (bPd (bLh q.funcs[kk].body) q.funcs[kk].body (Nat.le_refl _) (by omega) _) ?_
 refine wyz rfl (aNq _ rfl rfl rfl rfl) (go 5 ?_)
 refine wo rfl (aTr rfl rfl (by decide) underlying28 sizeOf58 fun g2=>?_)
 refine go 2 ?_
 refine wo rfl (jU [] Tryz.t58 64 rfl rfl (by decide) rfl rfl underlying28 (by kernel_rfl) rfl rfl rfl rfl (by decide) (aFz fV 3 (fun _=>rfl) q.funcs) (by unfold maxLen;omega) (by omega) (Nat.zero_add q.funcs.length) (fun _ b hb=>by first|(simp [hb];done)|(simp only [aY,Value.ownBlock,Option.toList,mem_cons,not_mem_nil,or_false] at hb;simp [hb];done)) (fun b hb=>by first|(simp [hb];done)|(simp only [aY,Value.ownBlock,Option.toList,mem_cons,not_mem_nil,or_false] at hb;simp [hb];done)) (List.nil_append _) fun w3=>?_)
 refine go 5 ?_
 refine aEw [] (by omega) fun gF cF hgF=>?_
 subst hgF
 refine dx [b1] (tz [(0,true),(1,true),(2,true),(3,true),(4,true),(5,true)] 14 (go 7 ?_))
 refine tx 6 rfl (dH (z:=3) kk rfl rfl rfl rfl hj1 runUnderlying28 sizeOf58) ?_
 refine tx 7 rfl (id <|uX 2 (0+kk*3+2) rfl rfl runUnderlying58 rfl sizeOf56 (by decide) rfl) (tz [(9,true),(10,true),(12,true)] 9 (go 4 ?_))
 refine t2 8 11 rfl ?_ ?_
 ·refine way rfl (by decide) (rM [] rfl rfl rfl isAgg56 sizeOf56 (bTd hj1 2 _ rfl) (fun _ h=>by cases h)) ?_
  obtain ⟨j3,hj3,hlj3⟩:=bEj (n5) ((max 1 ((bLh q.funcs[kk].body:Nat):Int))) (by omega)
  refine ox 11 rfl rfl (bV rfl rfl (by decide) call12 rfl (bEl (n5) ((max 1 ((bLh q.funcs[kk].body:Nat):Int))) j3 (by omega) (by omega) hj3 _) ?_)
  rintro _ _ ⟨rfl,rfl⟩
  refine ox 13 rfl rfl (bV rfl rfl (by decide) call28 rfl (bUh (wtS q.funcs[kk].body) q.funcs[kk].body ((j3:Nat):Int) 7 n7 (by omega) (Nat.le_refl _) hfs.2.2 (by omega) (by omega) _) ?_)
  rintro _ _ ⟨⟨t1,m1,rfl,hE1⟩,rfl⟩
  refine tz [(14,true),(15,true),(16,true)] 3 (go 4 ?_)
  refine tx 17 rfl (dH (z:=3) kk rfl rfl rfl rfl hj1 runUnderlying28 sizeOf58) ?_
  refine tx 18 rfl (id <|uX 2 (0+kk*3+2) rfl rfl runUnderlying58 rfl sizeOf56 (by decide) rfl) ?_
  refine ox 19 rfl rfl (aO0 (r:=(q.funcs.set kk (bTb q.funcs[kk] t1)).flatMap fV) [] rfl rfl rfl rfl rfl sizeOf56 rfl (bSz hj1 2 1 (by decide)) (bS1 hj1 2 _ (by decide) rfl) (by simp [aY,Value.ownBlock]) (fun hn=>qM (r:=(⟨(.slice (some ⟨gF,0,none⟩) q.funcs.length cF),58,3,q.funcs.length,q.funcs.flatMap fV⟩:bA)) (by simp) hn (by simp [aY,Value.ownBlock])) ?_)
  refine ax (go 3 ?_)
  refine aAg [] 2 rfl rfl ?_
  refine go 1 ?_
  refine eA 100 rfl (t:=.agg (jV ⟨q.globals,q.mutexes,q.funcs.set kk (bTb q.funcs[kk] t1)⟩)) (by unfold jV;(try simp only [List.length_set]);exact fun _ _ h=>h) ?_
  refine wo rfl (bMg 0 [] rfl rfl (by decide) call19 rfl rfl (cCm ⟨q.globals,q.mutexes,q.funcs.set kk (bTb q.funcs[kk] t1)⟩ ⟨hqs.globals,hqs.mutexes,bS0 hqs.funcs ⟨hfs.1,hfs.2.1,hE1.sane⟩⟩ (by show q.globals.length+q.mutexes.length+wtF (q.funcs.set kk (bTb q.funcs[kk] t1)) <= 9000000;have h8:=bSw q.funcs kk (bTb q.funcs[kk] t1);have h9:bS.wt (bTb q.funcs[kk] t1)=1+q.funcs[kk].params.length+wtS t1:=rfl;have:=hE1.wt;unfold wtF at h8⊢;omega) _) bDl bDl (fun _=>bDl) ?_)
  rintro _ _ ⟨f2,s2,e2,hc2,rfl,rfl⟩
  have hor:=cEx hc (by omega) (by omega) kk hj1 (by omega) t1
  change cAb ⟨q.globals,q.mutexes,q.funcs.set kk (bTb q.funcs[kk] t1)⟩=_∨cAb ⟨q.globals,q.mutexes,q.funcs.set kk (bTb q.funcs[kk] t1)⟩=_ at hor
  rw [hc2] at hor
  simp only [Prod.mk.injEq] at hor
  rcases hor with ⟨rfl,rfl,rfl⟩|⟨rfl,rfl,rfl⟩
  ·refine go 12 ?_
   by_cases h8:((e2:Nat):Int)=10
   ·refine wcp true rfl (eR h8) (go 16 ?_)
    refine wo rfl (bRj 0 rfl rfl (by decide) call21 rfl cCo ?_)
    refine go 5 ?_
    exact ⟨.inr rfl,_,⟨[],[]⟩,aR rfl (aF rfl),aA (List.nil_sublist _) (List.nil_sublist _),rfl,rfl⟩
   refine wcp false rfl (eD h8) (go 3 ?_)
   refine wcp true rfl (eR (by omega)) (go 3 ?_)
   refine wcp true rfl (eR (by omega)) (go 4 ?_)
   refine wcp true rfl (eR (by omega)) (go 3 ?_)
   refine wo rfl (bRj 0 rfl rfl (by decide) call21 rfl cCo ?_)
   refine go 5 ?_
   exact ⟨.inr rfl,_,⟨[],[]⟩,aR rfl (aF rfl),aA (List.nil_sublist _) (List.nil_sublist _),rfl,rfl⟩
  refine go 12 ?_
  refine wcp true rfl (by simp [bC]) (go 16 ?_)
  refine wo rfl (bRj 0 rfl rfl (by decide) call21 rfl cCo ?_)
  refine go 5 ?_
  exact ⟨.inr rfl,_,⟨[],[]⟩,aR rfl (aF rfl),aA (List.nil_sublist _) (List.nil_sublist _),rfl,rfl⟩
 obtain ⟨j3,hj3,hlj3⟩:=bEj (n5) ((max 1 ((bLh q.funcs[kk].body:Nat):Int))) (by omega)
 refine (bV rfl rfl (by decide) call12 rfl (bEl (n5) ((max 1 ((bLh q.funcs[kk].body:Nat):Int))) j3 (by omega) (by omega) hj3 _) ?_)
 rintro _ _ ⟨rfl,rfl⟩
 refine ox 8 rfl rfl (way rfl (by decide) (rM [] rfl rfl rfl isAgg56 sizeOf56 (bTd hj1 2 _ rfl) (fun _ h=>by cases h)) ?_)
 refine ox 13 rfl rfl (bV rfl rfl (by decide) call28 rfl (bUh (wtS q.funcs[kk].body) q.funcs[kk].body ((j3:Nat):Int) 7 n7 (by omega) (Nat.le_refl _) hfs.2.2 (by omega) (by omega) _) ?_)
 rintro _ _ ⟨⟨t1,m1,rfl,hE1⟩,rfl⟩
 refine tz [(14,true),(15,true),(16,true)] 3 (go 4 ?_)
 refine tx 17 rfl (dH (z:=3) kk rfl rfl rfl rfl hj1 runUnderlying28 sizeOf58) ?_
 refine tx 18 rfl (id <|uX 2 (0+kk*3+2) rfl rfl runUnderlying58 rfl sizeOf56 (by decide) rfl) ?_
 refine ox 19 rfl rfl (aO0 (r:=(q.funcs.set kk (bTb q.funcs[kk] t1)).flatMap fV) [] rfl rfl rfl rfl rfl sizeOf56 rfl (bSz hj1 2 1 (by decide)) (bS1 hj1 2 _ (by decide) rfl) (by simp [aY,Value.ownBlock]) (fun hn=>qM (r:=(⟨(.slice (some ⟨gF,0,none⟩) q.funcs.length cF),58,3,q.funcs.length,q.funcs.flatMap fV⟩:bA)) (by simp) hn (by simp [aY,Value.ownBlock])) ?_)
 refine ax (go 3 ?_)
 refine aAg [] 2 rfl rfl ?_
 refine go 1 ?_
 refine eA 100 rfl (t:=.agg (jV ⟨q.globals,q.mutexes,q.funcs.set kk (bTb q.funcs[kk] t1)⟩)) (by unfold jV;(try simp only [List.length_set]);exact fun _ _ h=>h) ?_
 refine wo rfl (bMg 0 [] rfl rfl (by decide) call19 rfl rfl (cCm ⟨q.globals,q.mutexes,q.funcs.set kk (bTb q.funcs[kk] t1)⟩ ⟨hqs.globals,hqs.mutexes,bS0 hqs.funcs ⟨hfs.1,hfs.2.1,hE1.sane⟩⟩ (by show q.globals.length+q.mutexes.length+wtF (q.funcs.set kk (bTb q.funcs[kk] t1)) <= 9000000;have h8:=bSw q.funcs kk (bTb q.funcs[kk] t1);have h9:bS.wt (bTb q.funcs[kk] t1)=1+q.funcs[kk].params.length+wtS t1:=rfl;have:=hE1.wt;unfold wtF at h8⊢;omega) _) bDl bDl (fun _=>bDl) ?_)
 rintro _ _ ⟨f2,s2,e2,hc2,rfl,rfl⟩
 have hor:=cEx hc (by omega) (by omega) kk hj1 (by omega) t1
 change cAb ⟨q.globals,q.mutexes,q.funcs.set kk (bTb q.funcs[kk] t1)⟩=_∨cAb ⟨q.globals,q.mutexes,q.funcs.set kk (bTb q.funcs[kk] t1)⟩=_ at hor
 rw [hc2] at hor
 simp only [Prod.mk.injEq] at hor
 rcases hor with ⟨rfl,rfl,rfl⟩|⟨rfl,rfl,rfl⟩
 ·refine go 12 ?_
  by_cases h9:((e2:Nat):Int)=10
  ·refine wcp true rfl (eR h9) (go 16 ?_)
   refine wo rfl (bRj 0 rfl rfl (by decide) call21 rfl cCo ?_)
   refine go 5 ?_
   exact ⟨.inr rfl,_,⟨[],[]⟩,aR rfl (aF rfl),aA (List.nil_sublist _) (List.nil_sublist _),rfl,rfl⟩
  refine wcp false rfl (eD h9) (go 3 ?_)
  refine wcp true rfl (eR (by omega)) (go 3 ?_)
  refine wcp true rfl (eR (by omega)) (go 4 ?_)
  refine wcp true rfl (eR (by omega)) (go 3 ?_)
  refine wo rfl (bRj 0 rfl rfl (by decide) call21 rfl cCo ?_)
  refine go 5 ?_
  exact ⟨.inr rfl,_,⟨[],[]⟩,aR rfl (aF rfl),aA (List.nil_sublist _) (List.nil_sublist _),rfl,rfl⟩
 refine go 12 ?_
 refine wcp true rfl (by simp [bC]) (go 16 ?_)
 refine wo rfl (bRj 0 rfl rfl (by decide) call21 rfl cCo ?_)
 refine go 5 ?_
 exact ⟨.inr rfl,_,⟨[],[]⟩,aR rfl (aF rfl),aA (List.nil_sublist _) (List.nil_sublist _),rfl,rfl⟩
theorem fT(H:Type)(enc:TypeId×Value -> H)(W:World)(base:Nat)(args:Array Value)(ds gs:List (DataW H))(before:List MemPlace)
  (hval:∀(j:Nat) t v,Tryz.f10.params[j]?=some t -> args[j]?=some v -> Value.okWide prog W .any base t v)
  (hW:DataW.Whole enc prog Tryz.f10.params.toList Rows.resolveFirstSpec.vars false W args.toList ds gs before) (he:bM9 W):
  Calls prog 10 args W fun e W'=>∃v,e=.returned v /\ Rows.resolveFirstSpec.post enc prog Tryz.f10 false true false false W args v W':=by
 have hW':=hW
 obtain ⟨p,q,hA0,hV,rfl,hfz,hnd⟩:=hW
 have hA:DataW.TrodAll enc prog W 0 (fun _=>true) true Tryz.f10.params.toList args.toList ds p:=hA0
 rw [Tryz.params10] at hA hval
 obtain ⟨v0,vs0,d0,ds0,p0,q0,hargs,rfl,rfl,h0,r0⟩:=trodAll_cons hA
 obtain ⟨v1,vs1,d1,ds1,p1,q1,rfl,rfl,rfl,h1,r1⟩:=trodAll_cons r0
 obtain ⟨v2,vs2,d2,ds2,p2,q2,rfl,rfl,rfl,h2,r2⟩:=trodAll_cons r1
 obtain ⟨v3,vs3,d3,ds3,p3,q3,rfl,rfl,rfl,h3,r3⟩:=trodAll_cons r2
 obtain ⟨v4,vs4,d4,ds4,p4,q4,rfl,rfl,rfl,h4,r4⟩:=trodAll_cons r3
 obtain ⟨v5,vs5,d5,ds5,p5,q5,rfl,rfl,rfl,h5,r5⟩:=trodAll_cons r4
 obtain ⟨v6,vs6,d6,ds6,p6,q6,rfl,rfl,rfl,h6,r6⟩:=trodAll_cons r5
 obtain ⟨v7,vs7,d7,ds7,p7,q7,rfl,rfl,rfl,h7,r7⟩:=trodAll_cons r6
 obtain ⟨rfl,rfl,rfl⟩:=trodAll_nil r7
 obtain rfl:args=#[v0,v1,v2,v3,v4,v5,v6,v7]:=by cases args;simp_all
 have walk:Calls prog 10 #[v0,v1,v2,v3,v4,v5,v6,v7] W fun e w'=>e=.returned (.bool true) /\ Below W.heap.size W w':=by
  obtain ⟨l0,a0,cap0,rfl,hc0,hcm0,hr0⟩:=aHn (hval 0 22 v0 rfl rfl) h0
  obtain ⟨n1,rfl,rfl,rfl,hn1⟩:=open_int underlying3 (hval 1 3 v1 rfl rfl) h1
  obtain ⟨n2,rfl,rfl,rfl,hn2⟩:=open_int underlying3 (hval 2 3 v2 rfl rfl) h2
  obtain ⟨n3,rfl,rfl,rfl,hn3⟩:=open_int underlying3 (hval 3 3 v3 rfl rfl) h3
  obtain ⟨n4,rfl,rfl,rfl,hn4⟩:=open_int underlying3 (hval 4 3 v4 rfl rfl) h4
  obtain ⟨n5,rfl,rfl,rfl,hn5⟩:=open_int underlying3 (hval 5 3 v5 rfl rfl) h5
  obtain ⟨n6,rfl,rfl,rfl,hn6⟩:=open_int underlying3 (hval 6 3 v6 rfl rfl) h6
  obtain ⟨n7,rfl,rfl,rfl,hn7⟩:=open_int underlying3 (hval 7 3 v7 rfl rfl) h7
  have hm0:=bOi (t:=.c (.sl l0.length (l0.map fun i=>.val (.int .i64 i)))) (v:=.slice a0 l0.length cap0) he (aLg hr0 (by unfold maxLen at hcm0;omega))
  exact aJe (vs:=[.slice a0 l0.length cap0,.int .i64 n1,.int .i64 n2,.int .i64 n3,.int .i64 n4,.int .i64 n5,.int .i64 n6,.int .i64 n7]) (cEt l0 n1 n2 n3 n4 n5 n6 n7 (by unfold maxLen at hcm0;omega) (bE2 hn1) (bE2 hn2) (bE2 hn3) (bE2 hn4) (bE2 hn5) (bE2 hn6) (bE2 hn7)) rfl fun i h h'=>by
   match i,h,h' with
   |0,_,_=>exact hm0
   |1,_,_=>exact .c _ _ (.val _ rfl)
   |2,_,_=>exact .c _ _ (.val _ rfl)
   |3,_,_=>exact .c _ _ (.val _ rfl)
   |4,_,_=>exact .c _ _ (.val _ rfl)
   |5,_,_=>exact .c _ _ (.val _ rfl)
   |6,_,_=>exact .c _ _ (.val _ rfl)
   |7,_,_=>exact .c _ _ (.val _ rfl)
 refine walk.mono fun e W' ⟨he,hb⟩=>?_
 subst he
 exact aMc hW' rfl rfl (by rw [Tryz.params10];intro t ht;simp at ht;rcases ht with rfl|rfl|rfl|rfl|rfl|rfl|rfl|rfl<;>exact ⟨by kernel_rfl,of_decide_eq_true (by kernel_rfl)⟩) rfl hb
theorem cEp(os:Os){H:Type}(enc:TypeId×Value -> H):∃places,DataW.whole enc prog ((World.doorLaid prog 60 os).forCall (fun _ _=>0) ⟨#[],#[.slice none 0 0,.int .i64 0,.int .i64 0,.int .i64 0,.int .i64 0,.int .i64 0,.int .i64 0,.int .i64 0],[]⟩).memory Tryz.f10.params.toList Rows.resolveFirstSpec.vars false (#[.slice none 0 0,.int .i64 0,.int .i64 0,.int .i64 0,.int .i64 0,.int .i64 0,.int .i64 0,.int .i64 0]:Array Value).toList 8=some ([.nil,.lit (.int .i64 0),.lit (.int .i64 0),.lit (.int .i64 0),.lit (.int .i64 0),.lit (.int .i64 0),.lit (.int .i64 0),.lit (.int .i64 0)],[],places):=
 ⟨[],by kernel_rfl⟩
theorem cEn(os:Os)(started:os.Started)(H:Type)(enc:TypeId×Value -> H)(F:Stop.Interp):
  ReturnsInHanded {} Tryz.checked os 10 .any ((OpenSpec.ofChange Rows.resolveFirstSpec).preRow enc prog Tryz.f10 Rows.resolveFirstRow.domain false Rows.resolveFirstRow.laid) (((OpenSpec.ofChange Rows.resolveFirstSpec).at F).post enc prog Tryz.f10 false true false false):=by
 obtain ⟨places,hx⟩:=cEp os enc
 refine returnsInHanded_of_row (C:=Tryz.checked) (s:=OpenSpec.ofChange Rows.resolveFirstSpec) own started (by kernel_rfl) func10
  (witness_row_at (enc:=enc) (C:=Tryz.checked) false (World.doorLaid prog 60 os) #[.slice none 0 0,.int .i64 0,.int .i64 0,.int .i64 0,.int .i64 0,.int .i64 0,.int .i64 0,.int .i64 0] rfl (by kernel_rfl) (by kernel_rfl) (by kernel_rfl)
   (OpenSpec.preRow_of_cond 8 hx (by kernel_rfl) (fun k hk=>by cases hk) (by kernel_rfl) (bQj os _))) ?_
 intro W base args ds gs before hval hW _ _ _ hL hSh _
 exact fT H enc W base args ds gs before hval hW (bRl hL hSh)
theorem cEo:joinedFacts prog 10 Tryz.f10 (OpenSpec.ofChange Rows.resolveFirstSpec).bare Rows.resolveFirstRow=true:=by
 unfold joinedFacts
 repeat (rw [Bool.and_eq_true];refine And.intro ?_ (by as_aux_lemma=>kernel_rfl))
 as_aux_lemma=>kernel_rfl
theorem cEr:Rows.ResolveFirstSaid:=
 OpenClaim.holds_of_cond 10 Tryz.f10 rfl rfl rfl rfl rfl rfl rfl ⟨rfl,rfl,rfl,rfl,rfl⟩ rfl rfl rfl rfl rfl (by kernel_rfl) func10 cEo
  (of_decide_eq_true (by kernel_rfl)) (by unfold Func.isWrapper;first|(rw [if_pos (by decide+kernel)];kernel_rfl)|(rw [if_neg (by decide+kernel)];exact ⟨rfl,rfl⟩))
  (fun os started H enc _ F=>by rw [OpenClaim.pre_eq_preRow];exact cEn os started H enc F)
theorem cEq (f : FuncId) (fn : Func) (hf : Tryz.pinned.checked.prog.funcNamed "lockorder/lockorderlaw05.ResolveFirst" = some f) (hfn : Tryz.pinned.checked.prog.funcs[f]? = some fn) :
  false=Tryz.pinned.checked.prog.looks [] /\ ∀(j:Nat) t,fn.params[j]?=some t -> Tryz.pinned.checked.prog.wantsStandIn t=false:=by
 obtain rfl : f = 10 := Option.some.inj ((show prog.funcNamed "lockorder/lockorderlaw05.ResolveFirst" = some 10 by kernel_rfl).symm.trans hf) |>.symm
 obtain rfl:fn=Tryz.f10:=(Option.some.inj (func10.symm.trans hfn)).symm
 refine ⟨by kernel_rfl,fun j t ht=>?_⟩
 rw [Tryz.params10] at ht
 have hm:t∈[22,3,3,3,3,3,3,3]:=by simpa using Array.mem_of_getElem? ht
 have hall:([22,3,3,3,3,3,3,3].all fun u=>!prog.wantsStandIn u)=true:=by kernel_rfl
 exact (show prog.wantsStandIn t=false by simpa using List.all_eq_true.1 hall t hm)
theorem resolveFirst_card:Rows.ResolveFirstCardSaid:=
 Claim7.holds_tied_plain_at .later [] _ _ _ _ cEr (fun _ h=>by cases h) (by kernel_rfl) (fun _ h=>by cases h) resolveFirst_row_tie rfl ⟨rfl,rfl⟩ (by kernel_rfl) rfl cEq (by kernel_rfl)
#print axioms resolveFirst_card
end
end Go.Proofs.YtojinfngbbajgaaGreatDoor
