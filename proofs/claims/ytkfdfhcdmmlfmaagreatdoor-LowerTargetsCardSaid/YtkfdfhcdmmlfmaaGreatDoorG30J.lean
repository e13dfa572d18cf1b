import Derived.Test.YtkfdfhcdmmlfmaaGreatDoorG29J
set_option linter.all false
set_option synthInstance.maxHeartbeats 1000000
set_option synthInstance.maxSize 1000000
set_option maxHeartbeats 8000000
set_option maxRecDepth 100000
namespace Go.Proofs.YtkfdfhcdmmlfmaaGreatDoor
open Go.Proofs.Tryz
open List (length_append length_cons length_nil mem_append mem_cons not_mem_nil append_assoc getElem_mem take_of_length_le)
section
open Go.ChangeShapes Go.WideShapes Go.ChangeAt Go.RowKit
theorem cUa(l0:List Int)(n1:Int)(hl0:l0.length <= 9223372036854775807)(hn1:-9223372036854775808 <= n1 /\ n1 <= 9223372036854775807):aL prog 9 [bK5 (.c (.sl l0.length (l0.map λi=>Vi i))),Ci n1] [] ⟨[],[]⟩ λr s'=>r=Cb true /\ s'=⟨[],[]⟩:=by
 refine acX 84 func9 ?_
 refine go 8 ?_
 refine wc0 Y call15 Y (aHs l0 J _) ?_
 rintro _ _ ⟨p,rfl,hp,rfl⟩
 have hfa:=hp.facts
 have hfw:=hfa.wt
 have hpf:=hp.funcs
 refine go 7 λb1=>?_
 refine wo Y (bMg 0 [] Y Y V call22 Y Y (cUg p hfa.sane J _) bDl bDl (λ_=>bDl) ?_)
 rintro _ _ ⟨rfl,rfl⟩
 rw [cSf hp]
 dsimp only
 obtain ⟨hul,hup⟩:=cTt (cSf hp)
 obtain ⟨u,hu⟩:∃u,u=cKk p:=⟨_,rfl⟩
 rw [←hu] at hul hup⊢
 refine go 18 λb2=>?_
 obtain ⟨j1,hj1,hlj1⟩:=bEj (n1) (((p.funcs.length:Nat):Int)) J
 refine wc0 Y call20 Y (bEl (n1) (((p.funcs.length:Nat):Int)) j1 J J hj1 _) ?_
 rintro _ _ ⟨rfl,rfl⟩
 refine go 7 ?_
 refine wcp false Y B7 (go 7 ?_)
 refine wcp false Y (xG J) (go 7 ?_)
 have hl1:j1<p.funcs.length:=J
 have hj:u.procs[j1]=cGe p p.funcs[j1]:=hup j1 J hl1
 have hpk:=cUm hp p.funcs[j1] (getElem_mem hl1)
 have q1:u.procs[j1].name=p.funcs[j1].name:=by rw [hj];exact hpk.name
 have q2:u.procs[j1].ints+u.procs[j1].locks=p.funcs[j1].params.length:=by rw [hj];exact hpk.pars
 have q3:u.procs[j1].ints <= u.procs[j1].locals:=by rw [hj];exact hpk.loc
 have q4:u.procs[j1].code.length=szL p.funcs[j1].body+1:=by rw [hj];exact hpk.code
 have q5:=cTm p.funcs[j1].body
 have q6:=aDi bS.wt p.funcs j1 hl1
 have q7:bS.wt p.funcs[j1]=1+p.funcs[j1].params.length+wtS p.funcs[j1].body:=Y
 have q8:p.wt=p.globals.length+p.mutexes.length+(p.funcs.map bS.wt).sum:=Y
 refine dx [b2,b1] (tz [(0,true),(1,true),(2,true)] 11 (go 4 ?_))
 refine tx 3 Y (bH cF9 cF9 u.procs cI0 (λ_=>Y) j1 Y Y Y Y J V runUnderlying38 sizeOf51) (tz [(4,true),(5,true),(6,true),(7,true)] 6 (go 5 ?_))
 refine tx 8 Y (bH fV fV p.funcs vC (λ_=>Y) j1 Y Y Y Y J V runUnderlying25 sizeOf56) (tz [(9,true)] 4 (go 2 ?_))
 refine aI1 10 11 B6 B6 B6 Y Y Y Y Y Y Y Y V Y Y V V V zeroValue51 Y zeroValue56 Y λb3 b4=>?_
 refine tz [(12,false),(13,false)] 0 (go 3 ?_)
 refine ax (go 2 ?_)
 refine dx [b4,b3,b2,b1] (tz [(0,true),(1,true),(2,true),(3,true),(4,true)] 32 (go 6 ?_))
 refine ox 5 Y Y (bV Y Y V call30 Y (cVy _ p.funcs[j1].body (Nat.le_refl _) J _) ?_)
 rintro _ _ ⟨rfl,rfl⟩
 refine tx 6 Y (bB Y Y Y J J) ?_
 refine tx 7 Y (bO true Y Y Y (eR J)) (tz [(8,true),(9,true),(10,true),(11,true),(12,true)] 24 (go 6 ?_))
 refine tx 13 Y (bB Y Y Y J J) (tz [(14,true),(15,true),(16,true)] 20 (go 4 ?_))
 refine tx 17 Y (bO true Y Y Y (eR J)) (tz [(18,true),(19,true),(20,true),(21,true),(22,true),(23,true)] 13 (go 7 ?_))
 refine tx 24 Y (bO true Y Y Y (aMq J)) (tz [(25,true),(26,true),(27,true),(28,true),(29,true),(30,true)] 6 (go 7 ?_))
 refine tx 31 Y (aZ true Y Y Y (aL8 q1)) (tz [(32,true),(33,true)] 3 (go 3 ?_))
 refine ox 34 Y Y (bRj 0 Y Y V call25 Y cTp ?_)
 refine tz [(35,true),(36,true)] 0 (go 3 ?_)
 refine ax (go 2 ?_)
 exact ⟨.inr Y,_,⟨[],[]⟩,aR Y (aF Y),aA (List.nil_sublist _) (List.nil_sublist _),Y,Y⟩
theorem cSs(H:Type)(enc:TypeId×Value -> H)(W:World)(base:Nat)(args:Array Value)(ds gs:List (DataW H))(before:List MemPlace)
  (hval:∀(j:Nat) t v,Tryz.f9.params[j]?=some t -> args[j]?=some v -> Value.okWide prog W .any base t v)
  (hW:DataW.Whole enc prog Tryz.f9.params.toList Rows.lowerSizeSpec.vars false W args.toList ds gs before) (he:bM9 W):
  Calls prog 9 args W λe W'=>∃v,e=.returned v /\ Rows.lowerSizeSpec.post enc prog Tryz.f9 false true false false W args v W':=by
 have hW':=hW
 obtain ⟨p,q,hA0,hV,rfl,hfz,hnd⟩:=hW
 have hA:DataW.TrodAll enc prog W 0 (λ_=>true) true Tryz.f9.params.toList args.toList ds p:=hA0
 rw [Tryz.params9] at hA hval
 obtain ⟨v0,vs0,d0,ds0,p0,q0,hargs,rfl,rfl,h0,r0⟩:=trodAll_cons hA
 obtain ⟨v1,vs1,d1,ds1,p1,q1,rfl,rfl,rfl,h1,r1⟩:=trodAll_cons r0
 obtain ⟨rfl,rfl,rfl⟩:=trodAll_nil r1
 obtain rfl:args=#[v0,v1]:=GZ
 have walk:Calls prog 9 #[v0,v1] W λe w'=>e=.returned (.bool true) /\ Below W.heap.size W w':=by
  obtain ⟨l0,a0,cap0,rfl,hc0,hcm0,hr0⟩:=aHn (hval 0 22 v0 rfl rfl) h0
  obtain ⟨n1,rfl,rfl,rfl,hn1⟩:=open_int underlying3 (hval 1 3 v1 rfl rfl) h1
  have hm0:=bOi (t:=.c (.sl l0.length (l0.map λi=>Vi i))) (v:=.slice a0 l0.length cap0) he (aLg hr0 G6)
  exact aJe (vs:=[.slice a0 l0.length cap0,.int .i64 n1]) (cUa l0 n1 G6 (bE2 hn1)) Y λi h h'=>by
   match i,h,h' with
   |0,_,_=>exact hm0
   |1,_,_=>exact .c _ _ (.val _ rfl)
 refine walk.mono λe W' ⟨he,hb⟩=>?_
 subst he
 exact aMc hW' Y Y G7 Y hb
theorem cS5(os:Os){H:Type}(enc:TypeId×Value -> H):∃places,DataW.whole enc prog ((World.doorLaid prog 60 os).forCall (λ_ _=>0) ⟨#[],#[.slice none 0 0,.int .i64 0],[]⟩).memory Tryz.f9.params.toList Rows.lowerSizeSpec.vars false (#[.slice none 0 0,.int .i64 0]:Array Value).toList 8=some ([.nil,.lit (.int .i64 0)],[],places):=
 ⟨[],B6⟩
theorem cS0(os:Os)(started:os.Started)(H:Type)(enc:TypeId×Value -> H)(F:Stop.Interp):
  ReturnsInHanded {} Tryz.checked os 9 .any ((OpenSpec.ofChange Rows.lowerSizeSpec).preRow enc prog Tryz.f9 Rows.lowerSizeRow.domain false Rows.lowerSizeRow.laid) (((OpenSpec.ofChange Rows.lowerSizeSpec).at F).post enc prog Tryz.f9 false true false false):=by
 obtain ⟨places,hx⟩:=cS5 os enc
 refine returnsInHanded_of_row (C:=Tryz.checked) (s:=OpenSpec.ofChange Rows.lowerSizeSpec) own started B6 func9
  (witness_row_at (enc:=enc) (C:=Tryz.checked) false (World.doorLaid prog 60 os) #[.slice none 0 0,.int .i64 0] rfl B6 B6 B6
   (OpenSpec.preRow_of_cond 8 hx B6 (λk hk=>by cases hk) B6 (bQj os _))) ?_
 intro W base args ds gs before hval hW _ _ _ hL hSh _
 exact cSs H enc W base args ds gs before hval hW (bRl hL hSh)
theorem cS3:joinedFacts prog 9 Tryz.f9 (OpenSpec.ofChange Rows.lowerSizeSpec).bare Rows.lowerSizeRow=true:=by
 unfold joinedFacts
 repeat (rw [Bool.and_eq_true];refine And.intro ?_ GO)
 as_aux_lemma=>kernel_rfl
theorem cS9:Rows.LowerSizeSaid:=
 OpenClaim.holds_of_cond 9 Tryz.f9 rfl rfl rfl rfl rfl rfl rfl ⟨rfl,rfl,rfl,rfl,rfl⟩ rfl rfl rfl rfl rfl B6 func9 cS3
  (of_decide_eq_true B6) G2
  (λos started H enc _ F=>by rw [OpenClaim.pre_eq_preRow];exact cS0 os started H enc F)
theorem cS7 (f : FuncId) (fn : Func) (hf : Tryz.pinned.checked.prog.funcNamed "lockorder/lockorderlaw06.LowerSize" = some f) (hfn : Tryz.pinned.checked.prog.funcs[f]? = some fn) :
  false=Tryz.pinned.checked.prog.looks [] /\ ∀(j:Nat) t,fn.params[j]?=some t -> Tryz.pinned.checked.prog.wantsStandIn t=false:=by
 obtain rfl : f = 9 := Option.some.inj ((show prog.funcNamed "lockorder/lockorderlaw06.LowerSize" = some 9 by kernel_rfl).symm.trans hf) |>.symm
 obtain rfl:fn=Tryz.f9:=(Option.some.inj (func9.symm.trans hfn)).symm
 refine ⟨B6,λj t ht=>?_⟩
 rw [Tryz.params9] at ht
 have hm:t∈[22,3]:=GF
 have hall:([22,3].all λu=>!prog.wantsStandIn u)=true:=B6
 exact (show prog.wantsStandIn t=false by simpa using List.all_eq_true.1 hall t hm)
end
section
open Go.RowKit
section
variable {P:Program}{U T:List Nat}{o:Oper}{n d:Nat}{bx:List Box}{rw:List bA}{ts:List (Nat×AT)}{K:AS -> Prop}
theorem cX0{E e:TypeId}{x y:Operand}{N:Nat}(i:TypeInfo)(ho:o.op=.makeSlice E x y)(hd:o.dst=some d)(hn:d<n)(hx:evA ⟨n,T,⟨bx,rw⟩,ts⟩ x=some (nI N))(hy:evA ⟨n,T,⟨bx,rw⟩,ts⟩ y=some (nI N))
  (hu:P.underlying E=some (.slice e)) (hi:P.info? e=some i) (hz:i.zero=some (.bool false)) (hsz:i.size=1) (hby:i.bytes=1) (hN:N <= 1000000)
  (h:∀g,K ⟨n,g::T,⟨bx,⟨.slice (some ⟨g,0,none⟩) N N,e,1,N,List.replicate N (Vb false)⟩::rw⟩,(d,Cv (.slice (some ⟨g,0,none⟩) N N))::ts⟩):AO P U o ⟨n,T,⟨bx,rw⟩,ts⟩ K:=by
 intro a w hs KK QQ hK
 unfold Oper.wp
 obtain ⟨C,hC⟩:∃C,C=madeCells (Value.bool false).cells N:=⟨_,rfl⟩
 have hCl:C.toList=List.replicate N (Value.bool false):=by rw [hC];exact toList_madeCells_one _ _
 have hCs:C.size=N*1:=by rw [hC,size_madeCells];omega
 have hrun:(execOp a.eval o).run P w=.ok (.value (.slice (some ⟨w.heap.size,0,none⟩) N N)) (w.alloc (.cells C e)):=by
  have h1:=run_make (P:=P) w E e i (.bool false) hu hi hz .i64 .i64 (N:Int) (N:Int) J (Int.le_refl _) (by rw [hby];omega) J
  rw [hsz] at h1
  simp only [Int.toNat_natCast,Nat.mul_one] at h1
  simp only [execOp,ho,Sem.run_bind,hs.val hx,hs.val hy]
  rw [h1,←hC];rfl
 rw [hrun,Oper.upon_value,hd]
 obtain ⟨R,hR⟩:∃R:bA,R=⟨.slice (some ⟨w.heap.size,0,none⟩) N N,e,1,N,List.replicate N (.val (.bool false))⟩:=⟨_,rfl⟩
 have hRb:aY R.v=[w.heap.size]:=by rw [hR];rfl
 have hk:cW [] w (w.alloc (.cells C e)):=(cW.refl _ _).alloc _
 have hne:w.heap.size∉(⟨bx,rw⟩:Sto).bl:=λhm=>GA
 have hbl:(⟨bx,R::rw⟩:Sto).bl=bx.map Box.b++w.heap.size::rw.flatMap λr=>aY r.v:=by unfold Sto.bl;simp [hRb]
 have hsub:∀b,b∈(⟨bx,R::rw⟩:Sto).bl -> b∈(⟨bx,rw⟩:Sto).bl∨w.heap.size <= b:=λb hb=>by
  rw [hbl] at hb
  simp only [mem_append,mem_cons] at hb
  rcases hb with h|rfl|h
  ·exact .inl (List.mem_append_left _ h)
  ·exact .inr (Nat.le_refl _)
  exact .inl (List.mem_append_right _ h)
 have hup:Up2 (bI (⟨bx,rw⟩:Sto).bl w) (bI (⟨bx,R::rw⟩:Sto).bl (w.alloc (.cells C e))):=jA hk Bu hsub
 have hsz:(w.alloc (.cells C e)).heap.size=w.heap.size+1:=G0
 have hm:Mem ⟨bx,R::rw⟩ (w.alloc (.cells C e)):=by
  refine ⟨?_,λb hb=>?_,λx hx=>?_,λr hr=>?_⟩
  ·rw [hbl]
   have hnd:(bx.map Box.b++rw.flatMap λr=>aY r.v).Nodup:=hs.mem.nodup
   rw [List.nodup_append] at hnd⊢
   refine ⟨hnd.1,List.nodup_cons.2 ⟨λh=>hne (List.mem_append_right _ h),hnd.2.1⟩,λa ha b hb=>?_⟩
   rcases mem_cons.1 hb with rfl|hb
   ·intro he;subst he;exact hne (List.mem_append_left _ ha)
   exact hnd.2.2 a ha b hb
  ·rw [hbl] at hb
   simp only [mem_append,mem_cons] at hb
   rw [hsz]
   rcases hb with h|rfl|h
   ·exact Nat.lt_succ_of_lt (hs.mem.lt b (List.mem_append_left _ h))
   ·exact Nat.lt_succ_self _
   exact Nat.lt_succ_of_lt (hs.mem.lt b (List.mem_append_right _ h))
  ·obtain ⟨us,e1,e2⟩:=hs.mem.box x hx
   exact ⟨us,BN,e2.mono hup⟩
  rcases mem_cons.1 hr with rfl|hr
  ·have h8:=World.ownsRow_lit (e:=e) (base:=0) (size:=1) w C N (Nat.zero_le _) B1 hCs
   refine ⟨C.toList,.inl (by rw [hR];exact h8),?_⟩
   have h9:=gU (bI (⟨bx,r::rw⟩:Sto).bl (w.alloc (.cells C e))) C.toList (λu hu=>by rw [hCl] at hu;rw [List.eq_of_mem_replicate hu];rfl)
   rw [show r.cs=C.toList.map AC.val by rw [hR,hCl];simp];exact h9
  obtain ⟨us,e1,e2⟩:=hs.mem.row r hr
  exact ⟨us,e1.keep λg hg=>hk.block g (hs.mem.lt g (List.mem_append_right _ (List.mem_flatMap.2 ⟨r,hr,hg⟩))) G0,e2.mono hup⟩
 have s1:=hs.step (st:=⟨n,T,⟨bx,rw⟩,ts⟩) (w.heap.size::T) (hk.mono G0) hm hsub
 have h0:=h w.heap.size
 rw [←hR] at h0
 refine hK _ _ _ h0 (s1.put (v:=.slice (some ⟨w.heap.size,0,none⟩) N N) hn (.c _ _ (.val _ Y))) ⟨hk.mono G0,hk.mono G0,hsub,λb hb=>?_⟩ (hk.mono G0)
 rcases mem_cons.1 hb with rfl|hb
 ·exact .inr (Nat.le_refl _)
 exact .inl hb
end
def cSb(l:List Int)(N:Nat):List AC:=(List.range N).map λm:Nat=>Vb (decide (((m:Nat):Int)∈l))
theorem cUx(N:Nat):List.replicate N (AC.val (.bool false))=cSb [] N:=by
 unfold cSb
 apply List.ext_getElem G0
 intro i h1 h2
 simp
theorem cSi(l:List Int)(N:Nat):(cSb l N).length=N:=by unfold cSb;simp
theorem cTl(l:List Int)(N i:Nat):(cSb l N)[i]?=if i<N then some (Vb (decide (((i:Nat):Int)∈l))) else none:=by
 unfold cSb;rw [List.getElem?_map]
 by_cases h:i<N
 ·rw [List.getElem?_range h,if_pos h];rfl
 rw [List.getElem?_eq_none DR,if_neg h];rfl
theorem cTi{l:List Int}{N j k:Nat}(hj:j<N)(hk:k<l.length)(e:l[k]=(j:Int)):splice (cSb (l.take k) N) (0+j*1) [Vb true]=cSb (l.take (k+1)) N:=by
 have h0:splice (cSb (l.take k) N) (0+j*1) [Vb true]=(cSb (l.take k) N).set j (Vb true):=by
  rw [List.set_eq_take_append_cons_drop,if_pos (by rw [cSi];exact hj)]
  unfold splice;rw [Nat.zero_add,Nat.mul_one,append_assoc];rfl
 rw [h0]
 apply List.ext_getElem?
 intro i
 rw [List.getElem?_set,cTl,cTl,cSi]
 have hm:(((i:Nat):Int)∈l.take (k+1))↔(((i:Nat):Int)∈l.take k∨i=j):=by
  rw [List.take_succ_eq_append_getElem hk,mem_append,List.mem_singleton,e]
  constructor
  ·rintro (h|h)
   ·exact .inl h
   exact .inr J
  rintro (h|h)
  ·exact .inl h
  exact .inr J
 by_cases h4:j=i
 ·subst h4
  rw [if_pos rfl,if_pos hj,if_pos hj,decide_eq_true (hm.2 (.inr rfl))]
 rw [if_neg h4]
 split
 ·rw [show decide (((i:Nat):Int)∈l.take k)=decide (((i:Nat):Int)∈l.take (k+1)) from decide_eq_decide.2 ⟨λh=>hm.2 (.inl h),λh=>(hm.1 h).elim id (λh=>absurd h.symm h4)⟩]
 rfl
theorem cVe{l:List Int}{N j:Nat}(hj:j<N)(hm:(j:Int)∈l):pk false 1 (cSb l N) (0+j*1)=some (Cb true):=by
 rw [Nat.zero_add,Nat.mul_one]
 have h:(cSb l N)[j]?=some (Vb true):=by rw [cTl,if_pos hj,decide_eq_true hm]
 unfold pk;rw [if_neg V,h];rfl
end
end Go.Proofs.YtkfdfhcdmmlfmaaGreatDoor
