/-
  Proved: for all arguments lockorderlaw02.ExprValid returns true and leaves its arguments as they were. No condition beyond the row's own. (Printed by genlaw_evalid.py.)
-/
import Derived.Test.YtbdfdjdgfanjaaaDoorV3J
import Derived.Test.YtbdfdjdgfanjaaaDoorV10J
set_option linter.all false
set_option synthInstance.maxHeartbeats 1000000
set_option synthInstance.maxSize 1000000
set_option maxHeartbeats 8000000
set_option maxRecDepth 100000
namespace Go.Proofs.YtbdfdjdgfanjaaaDoor
open Go.Proofs.Tryd
open List (length_append length_cons length_nil mem_append mem_cons not_mem_nil append_assoc getElem_mem take_of_length_le)
section
open Go.ChangeShapes Go.WideShapes Go.ChangeAt Go.RowKit
theorem bE2{n:Int}(h:(Lit.int .i64 n).wf=true):-9223372036854775808 <= n /\ n <= 9223372036854775807:=by
 simp only [Lit.wf,Bool.and_eq_true,decide_eq_true_eq] at h
 exact h
theorem cKi{W:World}{cs:List AC}{arr:Array Value}(h:fG W cs (Value.agg arr).cells.toList):dO (bI [] W) (.agg cs) (.agg arr):=by
 have:=dO.agg cs arr.toList (h.mono (bO6 W))
 simpa using this
theorem cQo{P:Program}{c y:Code}{st:AS}{Q Q0:Exit -> AS -> Prop}{ι:Type}(NF:ι -> AS)(I:ι -> Prop)(h1:AWp P c st (fun e s=>e=.normal /\ ∃i,I i /\ Sub s (NF i)))(h2:∀i,I i -> AWp P y (NF i) Q):AWp P c st (sU (fun s=>AWp P y s Q) Q0):=
 sE h1 fun e s ⟨he,i,hi,hs⟩=>by subst he;exact rX (zU hs (h2 i hi))
theorem cQi{n k z:Nat}{T:List Nat}{bx:List Box}{v:Value}{E:TypeId}{cs:List AC}{rw:List bA}{ts:List (Nat×AT)}(i:Nat)(hi:look ts i=some (.c (.val v)))(hz:0<z:=by decide):Sub ⟨n,T,⟨bx,⟨v,E,z,k,cs⟩::rw⟩,ts⟩ ⟨n,T,⟨bx,rw⟩,(i,.c (.sl k cs))::ts⟩:=
 yS (st:=⟨n,T,⟨bx,⟨v,E,z,k,cs⟩::rw⟩,ts⟩) (A:=[]) i hi rfl hz
theorem cQp(l:List aH)(e:aH)(h:0<l.length):splice (l.flatMap fO) (0+0*4) (cU e)=(l.set 0 e).flatMap fO:=by
 cases l with
 |nil=>simp at h
 |cons y r=>
  rw [List.set_cons_zero,List.flatMap_cons,List.flatMap_cons,fP e,fP y]
  rfl
theorem cQq(j:Nat):fit 0:=by unfold fit;decide
theorem cP7{o n:Int}{m:ByteArray}{l:List aH}(h1:fit n)(h2:m.size <= 4611686018427387904)(h3:iI l):(aH.mk o n m l).sane:=by rw [aH.sane];exact ⟨h1,h2,h3⟩
theorem cQa{e:aH}(h:e.sane):fit e.num /\ e.name.size <= 4611686018427387904 /\ iI e.args:=by cases e;rw [aH.sane] at h;exact h
theorem cQn(e:aH):e.nodes=1+cZ e.args:=by cases e;rw [aH.nodes];rfl
theorem cQm{a b:List aH}(h:iI a)(k:iI b):iI (a++b):=cIx _ fun x hx=>(mem_append.1 hx).elim (mV _ h x) (mV _ k x)
theorem cQl{a:List aH}{x:aH}(j:Nat)(h:iI a)(k:x.sane):iI (a.set j x):=cIx _ fun y hy=>by
 rcases List.mem_or_eq_of_mem_set hy with h1|h1
 ·exact mV _ h y h1
 subst h1;exact k
theorem cQh(a b:List aH):cZ (a++b)=cZ a+cZ b:=by rw [cHg,cHg,cHg,List.map_append,List.sum_append]
theorem cQk(a:List aH)(j:Nat)(x:aH):cZ (a.set j x) <= cZ a+(x.nodes+1):=by
 induction a generalizing j with
 |nil=>simp
 |cons y a ih=>
  cases j with
  |zero=>rw [List.set_cons_zero,cZ,cZ];omega
  |succ j=>rw [List.set_cons_succ,cZ,cZ];have:=ih j;omega
theorem cP6(x:aH):cZ [x]=1+x.nodes:=by rw [cZ,cZ];omega
theorem cP9{x:aH}(h:x.sane):iI [x]:=by rw [iI,iI];exact ⟨h,trivial⟩
theorem cQj(l0:List Int)(e1:aH)(n2:Int)(n3:Int)(hl0:l0.length <= 9223372036854775807)(hs1:e1.sane)(hw1:e1.nodes <= 1048576)(hn2:-9223372036854775808 <= n2 /\ n2 <= 9223372036854775807)(hn3:-9223372036854775808 <= n3 /\ n3 <= 9223372036854775807):aL prog 4 [bK5 (.c (.sl l0.length (l0.map fun i=>.val (.int .i64 i)))),.agg (cU e1),.c (.val (.int .i64 n2)),.c (.val (.int .i64 n3))] [] ⟨[],[]⟩ fun r s'=>r=.c (.val (.bool true)) /\ s'=⟨[],[]⟩:=by
 refine acX 81 func4 ?_
 refine go 9 fun b1=>?_
 refine wc0 rfl call5 rfl (cPl l0 (by omega) _) ?_
 rintro _ _ ⟨x,rfl,hx,rfl⟩
 have hvx:=hx.valid cOz (by decide)
 have hsx:=hx.sane cOz
 have hnx:=hx.nodes
 have hq:=cQn x
 have hsq:=cQa hsx
 have hal:=tN x.args
 have hs1q:=cQa hs1
 refine go 6 fun b2=>?_
 refine dx [b2,b1] (tz [(0,true),(2,true)] 8 (go 3 ?_))
 refine ox 1 rfl rfl (bMg 0 [] rfl rfl (by decide) call12 rfl rfl (bLw e1 (by omega) hs1 _) bDl bDl (fun _=>bDl) ?_)
 rintro _ _ ⟨rfl,rfl⟩
 refine ox 3 rfl rfl (bV rfl rfl (by decide) call13 rfl (qT e1 (by omega) hs1 _) ?_)
 rintro _ _ ⟨rfl,rfl⟩
 refine tx 4 rfl (aJ8 false rfl rfl rfl runUnderlying4 (by simp [aEb])) (tz [(5,true),(6,true)] 3 (go 3 ?_))
 refine ox 7 rfl rfl (bMg 0 [] rfl rfl (by decide) call12 rfl rfl ((by have h:=bLw x (by omega) hsx;rw [hvx] at h;exact h _)) bDl bDl (fun _=>bDl) ?_)
 rintro _ _ ⟨rfl,rfl⟩
 refine tz [(8,true),(9,true)] 0 (go 3 ?_)
 refine ax (go 6 ?_)
 refine wo rfl (aTr rfl rfl (by decide) underlying23 sizeOf25 fun g1=>?_)
 refine go 2 ?_
 refine wo rfl (jU [] Tryd.t25 56 rfl rfl (by decide) rfl rfl underlying23 (by kernel_rfl) rfl rfl rfl rfl (by decide) (aFz fO 4 iU x.args) (by unfold maxLen;omega) (by omega) (Nat.zero_add x.args.length) (fun _ b hb=>by first|(simp [hb];done)|(simp only [aY,Value.ownBlock,Option.toList,mem_cons,not_mem_nil,or_false] at hb;simp [hb];done)) (fun b hb=>by first|(simp [hb];done)|(simp only [aY,Value.ownBlock,Option.toList,mem_cons,not_mem_nil,or_false] at hb;simp [hb];done)) (List.nil_append _) fun w1=>?_)
 refine go 7 ?_
 obtain ⟨jw,hjw,hljw⟩:=bEj (n2) (6) (by omega)
 refine wc0 rfl call14 rfl (bEl (n2) (6) jw (by omega) (by omega) hjw _) ?_
 rintro _ _ ⟨rfl,rfl⟩
 refine go 2 ?_
 refine cQo (fun a:aH×List aH=>(⟨81,[b2,b1],⟨[⟨b2,25,cU a.1⟩,⟨b1,25,cU e1⟩],[]⟩,[(10,.c (.sl a.2.length (a.2.flatMap fO))),(9,pP b2),(0,bK5 (.c (.sl l0.length (l0.map fun i=>.val (.int .i64 i)))))]⟩:AS)) (fun a=>a.1.sane /\ a.1.nodes <= 3000000 /\ iI a.2 /\ cZ a.2 <= 3000000) ?_ ?_
 ·refine go 3 ?_
  by_cases h3:((jw:Nat):Int)=0
  ·refine wcp true rfl (eR h3) (go 5 ?_)
   refine aE1 10 rfl ?_
   refine go 1 ?_
   obtain ⟨jz,hjz,hljz⟩:=bEj (n3) (22) (by omega)
   refine wc0 rfl call14 rfl (bEl (n3) (22) jz (by omega) (by omega) hjz _) ?_
   rintro _ _ ⟨rfl,rfl⟩
   refine wyz rfl (qC rfl rfl rfl (by omega) (by omega)) (go 4 ?_)
   exact ⟨rfl,((.mk ((jz:Int)-1) x.num x.name x.args),x.args),⟨cP7 hsq.1 hsq.2.1 hsq.2.2,by show aH.nodes (.mk ((jz:Int)-1) x.num x.name x.args) <= 3000000;rw [aH.nodes];omega,hsq.2.2,by show cZ x.args <= 3000000;omega⟩,cQf (.refl _) (.refl _) (by intro x hx;simp only [mem_append,mem_cons,not_mem_nil,or_false] at hx⊢;grind) (sA rfl)⟩
  refine wcp false rfl (eD h3) (go 6 ?_)
  by_cases h6:((jw:Nat):Int)=1
  ·refine wcp true rfl (eR h6) (go 5 ?_)
   refine aE1 10 rfl ?_
   refine go 5 ?_
   exact ⟨rfl,((.mk x.op n3 x.name x.args),x.args),⟨cP7 hn3 hsq.2.1 hsq.2.2,by show aH.nodes (.mk x.op n3 x.name x.args) <= 3000000;rw [aH.nodes];omega,hsq.2.2,by show cZ x.args <= 3000000;omega⟩,cQf (.refl _) (.refl _) (by intro x hx;simp only [mem_append,mem_cons,not_mem_nil,or_false] at hx⊢;grind) (sA rfl)⟩
  refine wcp false rfl (eD h6) (go 6 ?_)
  by_cases h9:((jw:Nat):Int)=2
  ·refine wcp true rfl (eR h9) (go 5 ?_)
   refine aE1 10 rfl ?_
   refine go 6 ?_
   exact ⟨rfl,((.mk x.op x.num e1.name x.args),x.args),⟨cP7 hsq.1 hs1q.2.1 hsq.2.2,by show aH.nodes (.mk x.op x.num e1.name x.args) <= 3000000;rw [aH.nodes];omega,hsq.2.2,by show cZ x.args <= 3000000;omega⟩,cQf (.refl _) (.refl _) (by intro x hx;simp only [mem_append,mem_cons,not_mem_nil,or_false] at hx⊢;grind) (sA rfl)⟩
  refine wcp false rfl (eD h9) (go 6 ?_)
  by_cases h12:((jw:Nat):Int)=3
  ·refine wcp true rfl (eR h12) (go 6 ?_)
   by_cases ha0:0<x.args.length
   ·refine aF1 [] ha0 fun gA cA hgA=>?_
    subst hgA
    refine go 1 ?_
    refine wyz rfl (kV [] rfl rfl rfl runUnderlying23) ?_
    refine wcp true rfl (by first|exact eU (by omega)|(simp [bC]<;>omega)) (go 6 ?_)
    refine wyz rfl (dH (z:=4) 0 rfl rfl rfl rfl ha0 runUnderlying23 sizeOf25) ?_
    refine wo rfl (aO0 (r:=(x.args.set 0 e1).flatMap fO) [] rfl rfl rfl rfl rfl sizeOf25 rfl (by rw [aFz fO 4 iU];omega) (cQp x.args e1 ha0) (by simp [aY,Value.ownBlock]) (fun hn=>by simp [aY,Value.ownBlock]) ?_)
    refine go 2 ?_
    exact ⟨rfl,(x,x.args.set 0 e1),⟨hsx,by show aH.nodes x <= 3000000;omega,cQl 0 hsq.2.2 hs1,by show cZ (x.args.set 0 e1) <= 3000000;have:=cQk x.args 0 e1;omega⟩,(cQi (z:=4) 10 rfl).trans <|cQf (.refl _) (.refl _) (by intro x hx;simp only [mem_append,mem_cons,not_mem_nil,or_false] at hx⊢;grind) (aG rfl (by rw [List.length_set];exact Wk.refl _) (sA rfl))⟩
   refine aE1 10 rfl ?_
   refine go 2 ?_
   refine wcp false rfl (by first|exact eE (by omega)|(simp [bC]<;>omega)) (go 5 ?_)
   exact ⟨rfl,(x,x.args),⟨hsx,by show aH.nodes x <= 3000000;omega,hsq.2.2,by show cZ x.args <= 3000000;omega⟩,cQf (.refl _) (.refl _) (by intro x hx;simp only [mem_append,mem_cons,not_mem_nil,or_false] at hx⊢;grind) (sA rfl)⟩
  refine wcp false rfl (eD h12) (go 6 ?_)
  by_cases h17:((jw:Nat):Int)=4
  ·refine wcp true rfl (eR h17) (go 7 ?_)
   refine wo rfl (bDk zb1 rfl (.cons rfl .nil) (aV fO cU e1 (fP _) rfl rfl) ?_)
   refine wo rfl (bDm [] bN3 rfl (by rw [aFz fO 4 iU];rfl) (by decide) (by unfold maxLen;omega) (by omega) (@length_append _ x.args [e1]).symm (fun _ b hb=>by first|(simp [hb];done)|(simp only [aY,Value.ownBlock,Option.toList,mem_cons,not_mem_nil,or_false] at hb;simp [hb];done)) (fun b hb=>by first|(simp [hb];done)|(simp only [aY,Value.ownBlock,Option.toList,mem_cons,not_mem_nil,or_false] at hb;simp [hb];done)) (List.flatMap_append (f:=fO)).symm fun w2=>?_)
   refine go 3 ?_
   exact ⟨rfl,(x,x.args++[e1]),⟨hsx,by show aH.nodes x <= 3000000;omega,cQm hsq.2.2 (cP9 hs1),by show cZ (x.args++[e1]) <= 3000000;rw [cQh,cP6];omega⟩,(cQi (z:=4) 10 rfl).trans <|cQf (.refl _) (.refl _) (by intro x hx;simp only [mem_append,mem_cons,not_mem_nil,or_false] at hx⊢;grind) (sA rfl)⟩
  refine wcp false rfl (eD h17) (go 6 ?_)
  refine aE1 10 rfl ?_
  refine go 4 ?_
  refine fM (fun g:Nat×aH×List aH=>(⟨81,[b2,b1],⟨[⟨b2,25,cU g.2.1⟩,⟨b1,25,cU e1⟩],[]⟩,[(11,nI g.1),(3,.c (.val (.int .i64 n3))),(10,.c (.sl g.2.2.length (g.2.2.flatMap fO))),(9,pP b2),(0,bK5 (.c (.sl l0.length (l0.map fun i=>.val (.int .i64 i)))))]⟩:AS)) (fun g=>g.1 <= 30 /\ g.2.1.sane /\ g.2.1.nodes <= 1000+3*g.1 /\ iI g.2.2 /\ cZ g.2.2 <= 1000+3*g.1) (fun g=>30-g.1) (0,x,x.args) (cQf (.refl _) (.refl _) (by intro x hx;simp only [mem_append,mem_cons,not_mem_nil,or_false] at hx⊢;grind) (sA rfl)) ⟨Nat.zero_le _,hsx,by show x.nodes <= _;omega,hsq.2.2,by show cZ x.args <= _;omega⟩ ?_
  rintro ⟨k,y,al⟩ ⟨hk,hsy,hny,hsa,hna⟩
  dsimp only at hk hsy hny hsa hna
  try dsimp only
  refine go 5 ?_
  obtain ⟨jl,hjl,hljl⟩:=bEj (n3) (8) (by omega)
  refine wc0 rfl call14 rfl (bEl (n3) (8) jl (by omega) (by omega) hjl _) ?_
  rintro _ _ ⟨rfl,rfl⟩
  refine wad rfl ?_
  by_cases h20:((k:Nat):Int)<(20+((jl:Nat):Int))
  ·refine wcp true rfl (jZ h20) (go 10 ?_)
   refine wo rfl (bDk zb1 rfl (.cons rfl .nil) (aV fO cU y (fP _) rfl rfl) ?_)
   refine go 13 ?_
   refine wad rfl (go 2 ?_)
   refine ⟨(k+1,(aH.mk 3 0 aK [y]),[y]),⟨by show k+1 <= 30;omega,cP7 (cQq 0) (by decide) (cP9 hsy),by show aH.nodes (aH.mk 3 0 aK [y]) <= 1000+3*(k+1);rw [aH.nodes,cP6];omega,cP9 hsy,by show cZ [y] <= 1000+3*(k+1);rw [cP6];omega⟩,by show 30-(k+1)<30-k;omega,cQf (.refl _) (.refl _) (by intro x hx;simp only [mem_append,mem_cons,not_mem_nil,or_false] at hx⊢;grind) (sA rfl)⟩
  refine wcp false rfl (jQ h20) (go 8 ?_)
  exact ⟨rfl,(y,al),⟨hsy,by show aH.nodes y <= 3000000;omega,hsa,by show cZ al <= 3000000;omega⟩,cQf (.refl _) (.refl _) (by intro x hx;simp only [mem_append,mem_cons,not_mem_nil,or_false] at hx⊢;grind) (sA rfl)⟩
 rintro ⟨y,al⟩ ⟨hsy,hny,hsa,hna⟩
 dsimp only at hsy hny hsa hna
 try dsimp only
 have hsz:(aH.mk y.op y.num y.name al).sane:=cP7 (cQa hsy).1 (cQa hsy).2.1 hsa
 have hnz:(aH.mk y.op y.num y.name al).nodes <= 3000001:=by rw [aH.nodes];omega
 refine go 8 ?_
 refine dx [b2,b1] (tz [(0,true),(2,true)] 7 (go 3 ?_))
 refine ox 1 rfl rfl (bMg 0 [] rfl rfl (by decide) call12 rfl rfl (bLw (aH.mk y.op y.num y.name al) (by omega) hsz _) bDl bDl (fun _=>bDl) ?_)
 rintro _ _ ⟨rfl,rfl⟩
 refine ox 3 rfl rfl (bV rfl rfl (by decide) call13 rfl (qT (aH.mk y.op y.num y.name al) (by omega) hsz _) ?_)
 rintro _ _ ⟨rfl,rfl⟩
 refine tx 4 rfl (aJ8 true rfl rfl rfl runUnderlying4 (by simp [aEb])) (tz [(5,true)] 3 (go 2 ?_))
 refine ox 6 rfl rfl (bRj 0 rfl rfl (by decide) call11 rfl cO5 ?_)
 refine tz [(7,true),(8,true)] 0 (go 3 ?_)
 refine ax (go 2 ?_)
 exact ⟨.inr rfl,_,⟨[],[]⟩,aR rfl (aF rfl),aA (List.nil_sublist _) (List.nil_sublist _),rfl,rfl⟩
theorem cP8(H:Type)(enc:TypeId×Value -> H)(W:World)(base:Nat)(args:Array Value)(ds gs:List (DataW H))(before:List MemPlace)
  (hval:∀(j:Nat) t v,Tryd.f4.params[j]?=some t -> args[j]?=some v -> Value.okWide prog W .any base t v)
  (hW:DataW.Whole enc prog Tryd.f4.params.toList Rows.exprValidSpec.vars false W args.toList ds gs before) (he:bM9 W) (hk:Rows.uptoSmall H (ds++gs)=true):
  Calls prog 4 args W fun e W'=>∃v,e=.returned v /\ Rows.exprValidSpec.post enc prog Tryd.f4 false true false false W args v W':=by
 have hW':=hW
 obtain ⟨p,q,hA0,hV,rfl,hfz,hnd⟩:=hW
 have hA:DataW.TrodAll enc prog W 0 (fun _=>true) true Tryd.f4.params.toList args.toList ds p:=hA0
 rw [Tryd.params4] at hA hval
 obtain ⟨v0,vs0,d0,ds0,p0,q0,hargs,rfl,rfl,h0,r0⟩:=trodAll_cons hA
 obtain ⟨v1,vs1,d1,ds1,p1,q1,rfl,rfl,rfl,h1,r1⟩:=trodAll_cons r0
 obtain ⟨v2,vs2,d2,ds2,p2,q2,rfl,rfl,rfl,h2,r2⟩:=trodAll_cons r1
 obtain ⟨v3,vs3,d3,ds3,p3,q3,rfl,rfl,rfl,h3,r3⟩:=trodAll_cons r2
 obtain ⟨rfl,rfl,rfl⟩:=trodAll_nil r3
 obtain rfl:args=#[v0,v1,v2,v3]:=by cases args;simp_all
 have walk:Calls prog 4 #[v0,v1,v2,v3] W fun e w'=>e=.returned (.bool true) /\ Below W.heap.size W w':=by
  have hkk:Rows.uptoBulkAll ([d0,d1,d2,d3]++gs) <= 1048576:=of_decide_eq_true hk
  simp only [List.cons_append,Rows.uptoBulkAll] at hkk
  obtain ⟨l0,a0,cap0,rfl,hc0,hcm0,hr0⟩:=aHn (hval 0 22 v0 rfl rfl) h0
  obtain ⟨arr1,rfl,-⟩:=okWide_struct underlying25 (hval 1 25 v1 rfl rfl)
  obtain ⟨e1,hp1,hs1,hw1⟩:=Raw.one cLn h1 (by omega)
  rw [fP] at hp1
  obtain ⟨n2,rfl,rfl,rfl,hn2⟩:=open_int underlying3 (hval 2 3 v2 rfl rfl) h2
  obtain ⟨n3,rfl,rfl,rfl,hn3⟩:=open_int underlying3 (hval 3 3 v3 rfl rfl) h3
  have hm0:=bOi (t:=.c (.sl l0.length (l0.map fun i=>.val (.int .i64 i)))) (v:=.slice a0 l0.length cap0) he (aLg hr0 (by unfold maxLen at hcm0;omega))
  exact aJe (vs:=[.slice a0 l0.length cap0,.agg arr1,.int .i64 n2,.int .i64 n3]) (cQj l0 e1 n2 n3 (by unfold maxLen at hcm0;omega) hs1 (by omega) (bE2 hn2) (bE2 hn3)) rfl fun i h h'=>by
   match i,h,h' with
   |0,_,_=>exact hm0
   |1,_,_=>exact cKi hp1
   |2,_,_=>exact .c _ _ (.val _ rfl)
   |3,_,_=>exact .c _ _ (.val _ rfl)
 refine walk.mono fun e W' ⟨he,hb⟩=>?_
 subst he
 exact aMc hW' rfl rfl (by rw [Tryd.params4];intro t ht;simp at ht;rcases ht with rfl|rfl|rfl|rfl<;>exact ⟨by kernel_rfl,of_decide_eq_true (by kernel_rfl)⟩) rfl hb
theorem cQd(os:Os){H:Type}(enc:TypeId×Value -> H):∃places,DataW.whole enc prog ((World.doorLaid prog 60 os).forCall (fun _ _=>0) ⟨#[],#[.slice none 0 0,.agg #[.int .i64 0,.int .i64 0,.string ⟨#[]⟩,.slice none 0 0],.int .i64 0,.int .i64 0],[]⟩).memory Tryd.f4.params.toList Rows.exprValidSpec.vars false (#[.slice none 0 0,.agg #[.int .i64 0,.int .i64 0,.string ⟨#[]⟩,.slice none 0 0],.int .i64 0,.int .i64 0]:Array Value).toList 8=some ([.nil,.agg [.lit (.int .i64 0),.lit (.int .i64 0),.lit (.string []),.nil],.lit (.int .i64 0),.lit (.int .i64 0)],[],places):=
 ⟨[],by kernel_rfl⟩
theorem cQc(os:Os)(started:os.Started)(H:Type)(enc:TypeId×Value -> H)(F:Stop.Interp):
  ReturnsInHanded {} Tryd.checked os 4 .any ((Rows.OpenSpec.upto Rows.exprValidSpec).preRow enc prog Tryd.f4 Rows.exprValidUptoRow.domain false Rows.exprValidUptoRow.laid) (((Rows.OpenSpec.upto Rows.exprValidSpec).at F).post enc prog Tryd.f4 false true false false):=by
 obtain ⟨places,hx⟩:=cQd os enc
 refine returnsInHanded_of_row (C:=Tryd.checked) (s:=Rows.OpenSpec.upto Rows.exprValidSpec) own started (by kernel_rfl) func4
  (witness_row_at (enc:=enc) (C:=Tryd.checked) false (World.doorLaid prog 60 os) #[.slice none 0 0,.agg #[.int .i64 0,.int .i64 0,.string ⟨#[]⟩,.slice none 0 0],.int .i64 0,.int .i64 0] rfl (by kernel_rfl) (by kernel_rfl) (by kernel_rfl)
   (OpenSpec.preRow_of_cond 8 hx (by kernel_rfl) (fun k hk=>by cases hk;kernel_rfl) (by kernel_rfl) (bQj os _))) ?_
 intro W base args ds gs before hval hW _ hk _ hL hSh _
 exact cP8 H enc W base args ds gs before hval hW (bRl hL hSh) (hk _ rfl)
theorem cQb:joinedFacts prog 4 Tryd.f4 (Rows.OpenSpec.upto Rows.exprValidSpec).bare Rows.exprValidUptoRow=true:=by
 unfold joinedFacts
 repeat (rw [Bool.and_eq_true];refine And.intro ?_ (by as_aux_lemma=>kernel_rfl))
 as_aux_lemma=>kernel_rfl
theorem cQg:Rows.ExprValidUptoSaid:=
 OpenClaim.holds_of_cond 4 Tryd.f4 rfl rfl rfl rfl rfl rfl rfl ⟨rfl,rfl,rfl,rfl,rfl⟩ rfl rfl rfl rfl rfl (by kernel_rfl) func4 cQb
  (of_decide_eq_true (by kernel_rfl)) (by unfold Func.isWrapper;first|(rw [if_pos (by decide+kernel)];kernel_rfl)|(rw [if_neg (by decide+kernel)];exact ⟨rfl,rfl⟩))
  (fun os started H enc _ F=>by rw [OpenClaim.pre_eq_preRow];exact cQc os started H enc F)
theorem cQe (f : FuncId) (fn : Func) (hf : Tryd.pinned.checked.prog.funcNamed "lockorder/lockorderlaw02.ExprValid" = some f) (hfn : Tryd.pinned.checked.prog.funcs[f]? = some fn) :
  false=Tryd.pinned.checked.prog.looks [] /\ ∀(j:Nat) t,fn.params[j]?=some t -> Tryd.pinned.checked.prog.wantsStandIn t=false:=by
 obtain rfl : f = 4 := Option.some.inj ((show prog.funcNamed "lockorder/lockorderlaw02.ExprValid" = some 4 by kernel_rfl).symm.trans hf) |>.symm
 obtain rfl:fn=Tryd.f4:=(Option.some.inj (func4.symm.trans hfn)).symm
 refine ⟨by kernel_rfl,fun j t ht=>?_⟩
 rw [Tryd.params4] at ht
 have hm:t∈[22,25,3,3]:=by simpa using Array.mem_of_getElem? ht
 have hall:([22,25,3,3].all fun u=>!prog.wantsStandIn u)=true:=by kernel_rfl
 exact (show prog.wantsStandIn t=false by simpa using List.all_eq_true.1 hall t hm)
theorem exprValid_card:Rows.ExprValidUptoCardSaid:=
 Claim7.holds_tied_plain_at .later [] _ _ _ _ cQg (fun _ h=>by cases h) (by kernel_rfl) (fun _ h=>by cases h) exprValidUpto_row_tie rfl ⟨rfl,rfl⟩ (by kernel_rfl) rfl cQe (by kernel_rfl)
#print axioms exprValid_card
end
end Go.Proofs.YtbdfdjdgfanjaaaDoor
