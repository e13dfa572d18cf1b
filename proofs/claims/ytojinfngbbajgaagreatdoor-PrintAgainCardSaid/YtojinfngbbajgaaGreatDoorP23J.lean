import Derived.Test.YtojinfngbbajgaaGreatDoorCards
import Derived.Test.YtojinfngbbajgaaGreatDoorTie
import Derived.KernelRfl
import Derived.ProofKit
import Derived.OpenShut
import Derived.Carry
import Derived.Deep.DeepHandedRow
import Derived.LaidMore
import Derived.Lib.LaidTab
import Derived.Shelf.Vars
import Derived.Test.YtojinfngbbajgaaGreatDoorP6J
import Derived.Test.YtojinfngbbajgaaGreatDoorP7J
import Derived.Lib.SlBytesConst
import Derived.Test.YtojinfngbbajgaaGreatDoorP9J
import Derived.Test.YtojinfngbbajgaaGreatDoorP5J
import Derived.Test.YtojinfngbbajgaaGreatDoorP22J
import Derived.Test.YtojinfngbbajgaaGreatDoorP1J
import Derived.Test.YtojinfngbbajgaaGreatDoorP12J
set_option linter.all false
set_option synthInstance.maxHeartbeats 1000000
set_option synthInstance.maxSize 1000000
set_option maxHeartbeats 1600000
set_option maxRecDepth 100000
namespace Go.Proofs.YtojinfngbbajgaaGreatDoor
open Go.Proofs.Tryz
open List (length_append length_cons length_nil mem_append mem_cons not_mem_nil append_assoc getElem_mem take_of_length_le)
section
open Go.ChangeShapes Go.WideShapes Go.ChangeAt Go.RowKit
theorem own:ownKnob prog.godebug=none:=by kernel_rfl
theorem laidOut:laidOutB prog=true:=by kernel_rfl
theorem aRc : prog.globalNamed "lockorder/token.words" = some 0 := by kernel_rfl
theorem aA1{H:Type}{enc:TypeId×Value -> H}{P:Program}{w:World}{base:Nat}{sp:Nat -> Bool}{held:Bool}{fuel:Nat}{t e:TypeId}{n:Nat}{cs:List Value}{zs:List (List UInt8)}{p:List MemPlace}
  (ht:P.underlying t=some (.array n e)) (he:P.underlying e=some .string) (hce:P.cellsOf e=1) (hct:P.cellsOf t=n)
  (h:DataW.trod enc P w base sp held fuel t cs=some (.agg (zs.map fun z=>.lit (.string z)),p)):cs=zs.map fun z=>Value.string (bytes z):=by
 cases fuel with
 |zero=>simp [DataW.trod] at h
 |succ fuel=>
  simp only [DataW.trod,ht,hce,hct,Nat.mul_one] at h
  split at h
  ·rename_i hl
   obtain ⟨xs,hm,hx⟩:=Option.map_eq_some_iff.1 h
   have hxs:xs.map (·.1)=zs.map fun z=>(DataW.lit (.string z):DataW H):=by
    have:=congrArg Prod.fst hx
    simpa using this
   have hxl:xs.length=n:=by simpa using Lib.mapM_length hm
   have hzl:zs.length=n:=by
    have:=congrArg List.length hxs
    simp at this
    omega
   apply List.ext_getElem?
   intro i
   by_cases hi:i<n
   ·obtain ⟨b,hb,hf⟩:=Lib.mapM_at hm i i (by simp [hi])
    obtain ⟨z,hc,rfl,_⟩:=DataW.trod_string he hf
    have h1:cs[i]?=some (.string z):=by
     have:=congrArg (·[0]?) hc
     simpa [List.getElem?_take,List.getElem?_drop] using this
    have h2:(xs.map (·.1))[i]?=some (DataW.lit (.string z.data.toList):DataW H):=by simp [hb]
    rw [hxs] at h2
    simp only [List.getElem?_map,Option.map_eq_some_iff,DataW.lit.injEq,Lit.string.injEq] at h2
    obtain ⟨z',hz',he'⟩:=h2
    simp [h1,hz',bytes,he']
   rw [List.getElem?_eq_none (by omega),List.getElem?_eq_none (by simp;omega)]
  cases h
def aGj:List (List UInt8):=words.map fun b=>b.data.toList
theorem sV{H:Type}{enc:TypeId×Value -> H}{W W':World}(hb:Below W.heap.size W W'):
  ∀{ts:List TypeId} {vs:List Value} {ds:List (DataW H)} {ps:List MemPlace},(∀t∈ts,prog.readableRec t=true /\ t<prog.types.size) -> DataW.TrodAll enc prog W 0 (fun _=>true) true ts vs ds ps -> (∀x∈ps,x.block<W.heap.size) ->
   DataW.TrodAll enc prog W' 0 (fun b=>decide (b<W.heap.size)) true ts vs ds ps
 |[],_,_,_,_,h,_=>by
  obtain ⟨rfl,rfl,rfl⟩:=trodAll_nil h
  exact trodAll_mk0
 |t::ts,_,_,_,hr,h,hlt=>by
  obtain ⟨v,vs1,d,ds1,a,b,rfl,rfl,rfl,h1,h2⟩:=trodAll_cons h
  have ht:=hr t (List.mem_cons_self ..)
  exact ⟨a,b,Below.trod laidOut ht.1 ht.2 h1 hb (fun x hx=>hlt x (List.mem_append_left _ hx)),
   sV hb (fun u hu=>hr u (List.mem_cons_of_mem _ hu)) h2 (fun x hx=>hlt x (List.mem_append_right _ hx)),rfl⟩
theorem aMc{H:Type}{enc:TypeId×Value -> H}{F:Func}{s:ChangeSpec}{W W':World}{args:Array Value}{ds gs:List (DataW H)}{before:List MemPlace}
  (hW:DataW.Whole enc prog F.params.toList s.vars false W args.toList ds gs before) (hv:s.vars=[]) (hfn:s.fn H ds={results:=[.lit (.bool true)],args:=ds})
  (hread:∀t∈F.params.toList,prog.readableRec t=true /\ t<prog.types.size) (hres:F.resultTypes=#[4]) (hb:Below W.heap.size W W'):
  ∃v,Ending.returned (.bool true)=.returned v /\ s.post enc prog F false true false false W args v W':=by
 refine ⟨_,rfl,?_⟩
 have hlt:∀p∈before,p.block<W.heap.size:=fun p hp=>by simpa using hW.lt p hp
 have hW':=hW
 obtain ⟨p,q,hA,hV,rfl,hfz,hnd⟩:=hW
 rw [hv] at hV
 obtain ⟨rfl,rfl⟩:=trodVars_none hV
 simp only [List.append_nil] at hlt hW'
 refine ⟨ds,[],p,[],p,[],hW',?_,?_,?_,?_,fun h=>by cases h⟩
 ·rw [hres,List.append_nil,hfn]
  exact trodAll_cons_mk (shut_bool underlying4 true) trodAll_mk0
 ·rw [List.append_nil,hfn]
  exact sV hb hread hA hlt
 ·rw [List.append_nil,hfn,hv];rfl
 exact hb.frame _
theorem aFm{W:World}{a:Addr}{u:Value}(h:W.cell? (a.add 0)=some u):∃b off,a=⟨b,off,none⟩:=by
 obtain ⟨b,off,sp⟩:=a
 cases sp with
 |none=>exact ⟨b,off,rfl⟩
 |some k=>
  exfalso
  simp only [Addr.add,if_true] at h
  unfold World.cell? at h
  split at h
  ·simp at h
  cases h
theorem bGq(n:Int)(h:(Lit.int .u8 n).wf=true):((UInt8.ofNat n.toNat).toNat:Int)=n:=by
 simp only [Lit.wf,Bool.and_eq_true,decide_eq_true_eq] at h
 have h1:(0:Int) <= n:=h.1
 have h2:n <= 255:=h.2
 rw [UInt8.toNat_ofNat'];omega
theorem bGx{H:Type}{enc:TypeId×Value -> H}{W:World}{base:Nat}{v:Value}{d:DataW H}{p:List MemPlace}(hval:Value.okWide prog W .any base 23 v)(hd:DataW.Trod enc prog W 0 (fun _=>true) true 23 v d p):
  ∃(s:List UInt8) (a:Option Addr) (cap:Nat),v=.slice a s.length cap /\ s.length <= cap /\ cap <= maxLen /\ dD W v s.length (cC s):=by
 obtain ⟨a,len,cap,rfl⟩:=okWide_slice underlying23 hval
 obtain ⟨fuel,hf⟩:=hd
 rcases open_ints underlying23 underlying5 (by kernel_rfl) hf with ⟨hcs,hx⟩|⟨a',len',cap',zs,hcs,_,hl,hm,hz,hx,hcell,hwz⟩
 ·simp [Value.cells] at hcs
  obtain ⟨rfl,rfl,rfl⟩:=hcs
  exact ⟨[],none,0,rfl,Nat.le_refl _,(by unfold maxLen;omega),dD.nil _⟩
 simp [Value.cells] at hcs
 obtain ⟨rfl,rfl,rfl⟩:=hcs
 simp only [if_true] at hz
 have hlen:((zs.take len).map fun n=>UInt8.ofNat n.toNat).length=len:=by rw [List.length_map,List.length_take];omega
 refine ⟨(zs.take len).map fun n=>UInt8.ofNat n.toNat,some a',cap,by rw [hlen],by rw [hlen];exact hl,hm,some a',cap,by rw [hlen],by rw [hlen];exact hl,?_⟩
 by_cases h0:len=0
 ·left;subst h0;rfl
 right
 obtain ⟨b,off,rfl⟩:=aFm (hcell 0 (by omega))
 refine ⟨b,off,rfl,fun j u hu=>?_⟩
 have hj:j<len:=by
  rcases Nat.lt_or_ge j len with h|h
  ·exact h
  rw [List.getElem?_eq_none (by simp only [cC,List.length_map];rw [hlen] at *;simp;omega)] at hu;cases hu
 have hc:=hcell j (by omega)
 rw [add_plain] at hc
 rw [hc]
 simp only [cC,List.map_map,List.getElem?_map,List.getElem?_take,if_pos hj,List.getElem?_eq_getElem (show j<zs.length by omega),Option.map_some,Function.comp] at hu
 rw [←hu,bGq _ (hwz _ (getElem_mem _))]
 simp [List.getD,show j<zs.length by omega]
end
section
open Go.ChangeShapes Go.WideShapes Go.ChangeAt Go.RowKit
theorem aHn{H:Type}{enc:TypeId×Value -> H}{W:World}{base:Nat}{v:Value}{d:DataW H}{p:List MemPlace}(hval:Value.okWide prog W .any base 22 v)(hd:DataW.Trod enc prog W 0 (fun _=>true) true 22 v d p):
  ∃(s:List Int) (a:Option Addr) (cap:Nat),v=.slice a s.length cap /\ s.length <= cap /\ cap <= maxLen /\ dD W v s.length (s.map (.int .i64)):=by
 obtain ⟨a,len,cap,rfl⟩:=okWide_slice underlying22 hval
 obtain ⟨fuel,hf⟩:=hd
 rcases open_ints underlying22 underlying3 (by kernel_rfl) hf with ⟨hcs,hx⟩|⟨a',len',cap',zs,hcs,_,hl,hm,hz,hx,hcell,hwz⟩
 ·simp [Value.cells] at hcs
  obtain ⟨rfl,rfl,rfl⟩:=hcs
  exact ⟨[],none,0,rfl,Nat.le_refl _,(by unfold maxLen;omega),dD.nil _⟩
 simp [Value.cells] at hcs
 obtain ⟨rfl,rfl,rfl⟩:=hcs
 simp only [if_true] at hz
 have hlen:(zs.take len).length=len:=by rw [List.length_take];omega
 refine ⟨zs.take len,some a',cap,by rw [hlen],by rw [hlen];exact hl,hm,some a',cap,by rw [hlen],by rw [hlen];exact hl,?_⟩
 by_cases h0:len=0
 ·left;subst h0;rfl
 right
 obtain ⟨b,off,rfl⟩:=aFm (hcell 0 (by omega))
 refine ⟨b,off,rfl,fun j u hu=>?_⟩
 have hj:j<len:=by
  rcases Nat.lt_or_ge j len with h|h
  ·exact h
  rw [List.getElem?_eq_none (by rw [List.length_map,hlen];exact h)] at hu;cases hu
 have hc:=hcell j (by omega)
 rw [add_plain] at hc
 rw [hc]
 simp only [List.getElem?_map,List.getElem?_take,if_pos hj,List.getElem?_eq_getElem (show j<zs.length by omega),Option.map_some] at hu
 rw [←hu]
 simp [List.getD,show j<zs.length by omega]
end
section
open Go.ChangeShapes Go.WideShapes Go.ChangeAt Go.RowKit
theorem bR6 : prog.globalNamed "lockorder/expr.signs" = some 3 := by kernel_rfl
theorem bSj : prog.globalNamed "internal/strconv.uint64pow10" = some 2 := by kernel_rfl
def bRe:List (List UInt8):=bLb.map fun b=>b.data.toList
abbrev bQr : List (String × DataW Unit) := [("math/bits.deBruijn32tab", Rows.laid_math_bits_deBruijn32tab), ("math/bits.deBruijn64tab", Rows.laid_math_bits_deBruijn64tab), ("internal/strconv.uint64pow10", Rows.laid_internal_strconv_uint64pow10), ("lockorder/token.words", Rows.laid_lockorder_token_words), ("lockorder/expr.signs", Rows.laid_lockorder_expr_signs)]
theorem bRl{W:World}(h:laidMetH prog bQr W)(hs:W.ShapedOpen prog):bM9 W:=by
 obtain ⟨ps,hL,_⟩:=(show laidMet prog bQr W from h)
 obtain ⟨_,_,_,_,_,_,_,_,_,_,hL,_⟩:=hL
 obtain ⟨_,_,_,_,_,_,_,_,_,_,hL,_⟩:=hL
 obtain ⟨g3,t3,cs3,fuel3,p3,q3,hg3,ht3,hvar3,hd3,hL,_⟩:=hL
 obtain ⟨g',t',cs,fuel,p,q,hg',ht',hvar,hd,hL,_⟩:=hL
 obtain ⟨g2,t2,cs2,fuel2,p2,q2,hg2,ht2,hvar2,hd2,_,_⟩:=hL
 refine ⟨fun j hj=>?_,?_,⟨fun j hj=>?_⟩,?_⟩
 ·obtain rfl:=Option.some.inj (aRc.symm.trans hg')
  obtain rfl:t'=222:=Option.some.inj (ht'.symm.trans (show (prog.globals[0]?).map (·.type)=some 222 by kernel_rfl))
  have hc:=aA1 (zs:=aGj) (n:=11) (e:=9) underlying222 underlying9 (by kernel_rfl) (by kernel_rfl) hd
  have:=World.var?_cell hg' hvar j
  rw [←Array.getElem?_toList,hc] at this
  rw [this]
  simp only [aGj,List.map_map]
  rw [List.getElem?_map,List.getElem?_eq_getElem hj]
  simp [bytes]
 ·exact cell_of_shapedOpen_int (zero:=#[.int .i64 0]) (t:=3) hs (of_decide_eq_true (by kernel_rfl)) (by kernel_rfl) rfl (by kernel_rfl) (by kernel_rfl) underlying3
 ·obtain rfl:=Option.some.inj (bR6.symm.trans hg2)
  obtain rfl:t2=261:=Option.some.inj (ht2.symm.trans (show (prog.globals[3]?).map (·.type)=some 261 by kernel_rfl))
  have hc:=aA1 (zs:=bRe) (n:=18) (e:=9) underlying261 underlying9 (by kernel_rfl) (by kernel_rfl) hd2
  have:=World.var?_cell hg2 hvar2 j
  rw [←Array.getElem?_toList,hc] at this
  rw [this]
  simp only [bRe,List.map_map]
  rw [List.getElem?_map,List.getElem?_eq_getElem hj]
  simp [bytes]
 obtain rfl:=Option.some.inj (bSj.symm.trans hg3)
 obtain rfl:t3=256:=Option.some.inj (ht3.symm.trans (show (prog.globals[2]?).map (·.type)=some 256 by kernel_rfl))
 unfold Lib.TabIs
 rw [hvar3,←Lib.cells_of_tab (zs:=Lib.pow10Tab) (k:=.u64) underlying256 underlying189 (by kernel_rfl) (by kernel_rfl) hd3]
theorem bQj(os:Os)(args:Array Value):laidMet prog bQr ((World.doorLaid prog 60 os).forCall (fun _ _=>0) ⟨#[],args,[]⟩).memory:=
 laidMet_of_run' 8 (by kernel_rfl) (by kernel_rfl)
theorem bO6(w:World):Up2 w (bI [] w):=
 ⟨fun a u h=>by rw [eW _ _ _ (by simp)];exact h,fun g cs t fz h _=>by rw [aFp _ _ _ (by simp)];exact h⟩
theorem bOi{w:World}{t:AT}{v:Value}(he:bM9 w)(h:dO (bI [] w) t v):dO (bI [] w) (bK5 t) v:=bOr h (he.up (bO6 w))
theorem bRj{P:Program}{U:List Nat}{o:Oper}{n d:Nat}{T:List Nat}{s:Sto}{ts:List (Nat×AT)}{K:AS -> Prop}{F:FuncId}{t0:AT}(i0:Nat)(ho:o.op=.call {callee:=.value (.func F),args:=#[],argTypes:=#[]})(hd:o.dst=some d)(hn:d<n)
  (hcf:∀args w,(callFunc F args).run P w=.ok (.enter F args) w) (hl:look ts i0=some (bK5 t0)) (hc:∀w,bM9 w -> Calls P F #[] w fun e w'=>e=.returned (.bool true) /\ Below w.heap.size w w')
  (h:K ⟨n,T,s,(d,.c (.val (.bool true)))::ts⟩):AO P U o ⟨n,T,s,ts⟩ K:=by
 intro a w hs KK QQ' hK
 obtain ⟨v0,-,hv0⟩:=hs.tm i0 _ hl
 unfold Oper.wp
 rw [show (execOp a.eval o).run P w=.ok (.enter F #[]) w from by
  simp only [execOp,ho,resolve,Deferred.ofValue,Act.eval,Sem.run_bind,Sem.run_pure,Result.andThen_ok,invoke]
  rw [hcf];simp,Oper.upon_enter]
 refine (hc w (bMx hv0)).mono ?_
 rintro en w' ⟨rfl,hb⟩
 dsimp only
 rw [hd]
 obtain ⟨hk,hm⟩:=aBl hs.mem hb
 have s1:=hs.step (st:=⟨n,T,s,ts⟩) T (hk.mono (by simp)) hm (fun b hb=>.inl hb)
 exact hK _ _ _ h (s1.put hn (dO.c _ _ (.val _ rfl))) ⟨hk.mono (by simp),hk.mono (by simp),fun b hb=>.inl hb,fun b hb=>.inl hb⟩ (hk.mono (by simp))
theorem bPa{P:Program}{F:FuncId}{fn:Func}{c:Code}(hf:P.funcs[F]?=some fn)(hb:fn.body=some c)(i:Nat)(hi:i<fn.ntmps){w:World}(he:bM9 w)
  (h:AWp P c ⟨fn.ntmps,[],⟨[],[]⟩,[(i,bK5 (.raw undef))]⟩ fun e st=>(e=.normal∨e=.ret) /\ ∃r s',aEt P fn st r /\ aAz st.s s' /\ r=.c (.val (.bool true)) /\ s'=⟨[],[]⟩):Calls P F #[] w fun e w'=>e=.returned (.bool true) /\ Below w.heap.size w w':=by
 have hm:Mem ⟨[],[]⟩ w:=⟨List.nodup_nil,(fun b hb=>absurd hb (by simp [Sto.bl])),(fun x hx=>absurd hx (by simp)),(fun x hx=>absurd hx (by simp))⟩
 refine calls_of_wp hf hb ?_
 refine h _ w ⟨rfl,?_,fun j t ht=>?_,hm⟩ _ ?_
 ·simp
 ·simp only [look] at ht
  split at ht
  ·rename_i hj;subst hj;cases ht
   exact ⟨undef,by simp [hi],bOr (.raw _) (he.up (bO6 w))⟩
  cases ht
 intro e a' w' st' q s' k
 obtain ⟨he,r,s2,hres,hsub,rfl,rfl⟩:=q
 obtain ⟨v,h1,h2⟩:=hres a' w' s'
 have hv:v=.bool true:=by cases h1 with|c _ _ h4=>cases h4;rfl
 subst hv
 have hk:=k.keepT
 rcases he with rfl|rfl
 ·exact ⟨s'.df,_,h2,rfl,⟨hk.os,hk.tape,hk.output,hk.size,fun j hj=>hk.block j hj (by simp)⟩⟩
 exact ⟨s'.df,_,h2,rfl,⟨hk.os,hk.tape,hk.output,hk.size,fun j hj=>hk.block j hj (by simp)⟩⟩
theorem bQk{k:Nat}{xs ys:List AC}(h:WkL xs ys):WkC (.sl k xs) (.sl k ys):=fun w v hr=>by
 cases hr with
 |sl _ _ us _ hra hul hu hcap=>
  have h9:=h.rep (us:=us) ⟨hul,hu⟩
  exact .sl k ys us _ hra h9.len h9.at_ hcap
end
section
open Go.RowKit
def bNa:cK:=⟨[],[⟨⟨#[97]⟩,false,0⟩],[⟨⟨#[109,97,105,110]⟩,[],[.mk 7 aK ⟨1,1,aK,[]⟩ ⟨aK,[]⟩ [] [] [.mk 9 aK ⟨0,0,aK,[]⟩ ⟨aK,[]⟩ [] [] []]]⟩]⟩
theorem bQh:jI bNa=true:=by kernel_rfl
theorem bQx:bytes (vI bNa)=⟨#[109,117,116,101,120,32,97,59,10,102,117,110,99,32,109,97,105,110,40,41,32,123,10,9,105,102,32,49,32,123,10,9,125,32,101,108,115,101,32,123,10,9,9,114,101,116,117,114,110,59,10,9,125,10,125,10]⟩:=by kernel_rfl
theorem bO2:bNa.sane:=by
 refine ⟨fun g hg=>(by cases hg),fun m hm=>?_,fun f hf=>?_⟩
 ·obtain rfl:m=_:=List.mem_singleton.1 hm
  exact ⟨by unfold fit;decide,by decide⟩
 obtain rfl:f=_:=List.mem_singleton.1 hf
 refine ⟨by decide,fun x hx=>(by cases hx),?_⟩
 have e:aK.size <= 4611686018427387904:=by decide
 have f0:fit 0:=by unfold fit;decide
 have f1:fit 1:=by unfold fit;decide
 simp only [gC,aJ.sane,aH.sane,cY.sane,iI,e,f0,f1,not_mem_nil,and_true,true_and,false_implies,implies_true,forall_const]
theorem bQ3:bNa.wt <= 9000000:=of_decide_eq_true (by kernel_rfl)
theorem bR1(s:Sto):aL prog 33 [.c (.sl bNa.funcs[0].body.length (bNa.funcs[0].body.flatMap encS))] [] s fun t s'=>t=.c (.val (.int .i64 2)) /\ s'=s:=
 bMy 2 _ (of_decide_eq_true (by kernel_rfl)) (by decide) s
theorem bSg(s:Sto):aL prog 32 [bK5 (.agg (jV bNa))] [] s fun t s'=>t=.c (.val (.bool true)) /\ s'=s:=by
 have h:=bOk bNa bO2 bQ3 s
 rw [bQh] at h;exact h
theorem bSi(s:Sto):aL prog 15 [bK5 (.agg (jV bNa))] [] s fun t s'=>t=.c (.val (.string ⟨#[109,117,116,101,120,32,97,59,10,102,117,110,99,32,109,97,105,110,40,41,32,123,10,9,105,102,32,49,32,123,10,9,125,32,101,108,115,101,32,123,10,9,9,114,101,116,117,114,110,59,10,9,125,10,125,10]⟩)) /\ s'=s:=by
 have h:=bNl bNa bO2 bQ3 s
 rw [bQx] at h;exact h
theorem bPi(w:World)(he:bM9 w):Calls prog 14 #[] w fun e w'=>e=.returned (.bool true) /\ Below w.heap.size w w':=by
 refine bPa func14 rfl 27 (Nat.le_of_ble_eq_true rfl) he ?_
 show AWp prog _ ⟨28,[],⟨[],[]⟩,[(27,bK5 (.raw undef))]⟩ _
 refine go 8 ?_
 refine wo rfl (bDk zb8 rfl (.cons rfl .nil) (r:=[.val (.string ⟨#[97]⟩),.val (.bool false),.val (.int .i64 0)]) rfl ?_)
 refine go 2 ?_
 refine wo rfl (bDk bDu rfl (.cons rfl .nil) (r:=[.val (.int .i64 9),.val (.string ⟨#[]⟩),.val (.int .i64 0),.val (.int .i64 0),.val (.string ⟨#[]⟩),.val (.slice none 0 0),.val (.string ⟨#[]⟩),.val (.slice none 0 0),.val (.slice none 0 0),.val (.slice none 0 0),.val (.slice none 0 0)]) rfl ?_)
 refine go 1 ?_
 refine wo rfl (bDk bDu rfl (.cons rfl .nil) (r:=[.val (.int .i64 7),.val (.string ⟨#[]⟩),.val (.int .i64 1),.val (.int .i64 1),.val (.string ⟨#[]⟩),.val (.slice none 0 0),.val (.string ⟨#[]⟩),.val (.slice none 0 0),.val (.slice none 0 0),.val (.slice none 0 0),(.sl 1 [.val (.int .i64 9),.val (.string ⟨#[]⟩),.val (.int .i64 0),.val (.int .i64 0),.val (.string ⟨#[]⟩),.val (.slice none 0 0),.val (.string ⟨#[]⟩),.val (.slice none 0 0),.val (.slice none 0 0),.val (.slice none 0 0),.val (.slice none 0 0)])]) rfl ?_)
 refine go 1 ?_
 refine wo rfl (bDk zb7 rfl (.cons rfl .nil) (r:=[.val (.string ⟨#[109,97,105,110]⟩),.val (.slice none 0 0),(.sl 1 [.val (.int .i64 7),.val (.string ⟨#[]⟩),.val (.int .i64 1),.val (.int .i64 1),.val (.string ⟨#[]⟩),.val (.slice none 0 0),.val (.string ⟨#[]⟩),.val (.slice none 0 0),.val (.slice none 0 0),.val (.slice none 0 0),(.sl 1 [.val (.int .i64 9),.val (.string ⟨#[]⟩),.val (.int .i64 0),.val (.int .i64 0),.val (.string ⟨#[]⟩),.val (.slice none 0 0),.val (.string ⟨#[]⟩),.val (.slice none 0 0),.val (.slice none 0 0),.val (.slice none 0 0),.val (.slice none 0 0)])])]) rfl ?_)
 refine go 1 ?_
 refine eA 11 rfl (Wk.agg (.n (.r (.cons (bQk (.r (.n (.cons (bQk (.r (.r (.r (.r (.r (.n (.r (.n (.n (.n (.cons (bQk (.r (.r (.r (.r (.r (.n (.r (.n (.n (.n (.n .nil)))))))))))) .nil)))))))))))) .nil)))) .nil))):Wk _ (.agg (jV bNa))) (go 7 fun b1=>?_)
 refine wcR 27 rfl call32 rfl (bSg _) (go 2 ?_)
 refine wcR 27 rfl call15 rfl (bSi _) ?_
 refine wyz rfl (aZ true rfl rfl rfl (by simp [oM])) (go 4 ?_)
 refine wyz rfl (bH fV fV bNa.funcs vC (fun _=>rfl) 0 rfl rfl rfl rfl (by decide) (by decide) runUnderlying28 sizeOf58) (go 2 ?_)
 refine wc1 rfl call33 rfl (bR1 _) ?_
 refine wcp true rfl (by simp [bC]) (go 5 ?_)
 exact ⟨.inr rfl,_,⟨[],[]⟩,aR rfl (aF rfl),aA (List.nil_sublist _) (List.nil_sublist _),rfl,rfl⟩
end
section
open Go.RowKit
abbrev SSt(A B:List Box)(rw:List bA)(S:Nat)(l:List Int)(i:Nat):Sto:=⟨A++⟨S,102,[.sl l.length (l.map fun i=>.val (.int .i64 i)),nC i]⟩::B,rw⟩
theorem aTv(l:List Int)(n:Nat)(s:Sto):aL prog 44 [.c (.sl l.length (l.map fun i=>.val (.int .i64 i))),nI n] [] s fun r s'=>r=.c (.sl (l.take n).length ((l.take n).map fun i=>.val (.int .i64 i))) /\ s'=s:=by
 obtain ⟨bx,rw⟩:=s
 refine acB func44 rfl ?_
 show AWp prog _ ⟨13,[],⟨bx,rw⟩,[(0,.c (.sl l.length (l.map fun i=>.val (.int .i64 i)))),(1,nI n)]⟩ _
 refine go 11 ?_
 by_cases hlt:n<l.length
 ·refine wcp true rfl (by first|exact eU (by omega)|(simp [bC]<;>omega)) (go 7 ?_)
  refine wyz rfl (aGm (h:=(l.take n).length) (z:=1) rfl rfl rfl (by rw [List.length_take];omega) (by rw [List.length_take];omega) (by kernel_rfl) (by kernel_rfl) sizeOf3 (by rw [List.length_take,Nat.min_eq_left (by omega),Nat.mul_one,←List.map_take])) (go 5 ?_)
  exact bHe (s':=⟨bx,rw⟩) rfl sb0 ⟨rfl,rfl⟩
 rw [take_of_length_le (l:=l) (i:=n) (by omega)]
 refine wcp false rfl (by first|exact eE (by omega)|(simp [bC]<;>omega)) (go 12 ?_)
 exact bHe (s':=⟨bx,rw⟩) rfl sb0 ⟨rfl,rfl⟩
theorem aC2(A B:List Box)(rw:List bA)(S:Nat)(l:List Int)(i0:Nat)(n:Int)(hi0:i0 <= l.length)(hl:l.length <= 1000000)(hn0:0<n)(hn1:n <= 4611686018427387904):aL prog 45 [pP S,.c (.val (.int .i64 n))] [S] (SSt A B rw S l i0) fun r s=>∃(z:Int) (i:Nat),r=.c (.val (.int .i64 z)) /\ 0 <= z /\ z<n /\ i <= l.length /\ s=SSt A B rw S l i:=by
 refine acB func45 rfl ?_
 show AWp prog _ ⟨35,[S],⟨A++⟨S,102,[.sl l.length (l.map fun i=>.val (.int .i64 i)),nC i0]⟩::B,rw⟩,[(0,pP S),(1,.c (.val (.int .i64 n)))]⟩ _
 refine go 7 ?_
 refine dx [S] (tz [(0,true),(1,true),(2,true),(3,true),(4,true),(5,true),(6,true),(7,true),(8,true)] 1 (go 10 ?_))
 refine tx 9 rfl (bO _ rfl rfl rfl rfl) ?_
 refine ax (go 1 ?_)
 refine gY rfl (fun hc1=>?_) (fun hc1=>?_)
 ·have hge:l.length <= i0:=by simpa using hc1
  refine go 7 ?_
  exact bHe (s':=SSt A B rw S l i0) rfl sb0 ⟨0,i0,rfl,by omega,hn0,hi0,rfl⟩
 have hlt:i0<l.length:=by simpa using hc1
 refine go 8 ?_
 refine wad rfl (go 6 ?_)
 refine dx [S] (tz [(0,true),(1,true),(2,true),(3,true),(4,true),(5,true),(6,true),(7,true)] 6 (go 9 ?_))
 refine tx 8 rfl (cI ((i0:Nat):Int) rfl rfl rfl (by omega) (by omega) (by omega)) ?_
 refine tx 9 rfl (rT (fun i=>.val (.int .i64 i)) l i0 rfl rfl rfl rfl hlt runUnderlying22 sizeOf3) (tz [(10,true),(11,true)] 2 (go 3 ?_))
 refine ox 12 rfl rfl (bD [] rfl rfl (by decide) call12 rfl (aNz _ _ hn0 hn1 _) bDl bDl (fun _=>bDl) ?_)
 rintro rj sj ⟨rfl,rfl⟩
 refine tz [(13,true)] 0 (go 2 ?_)
 refine ax (go 2 ?_)
 exact bHe (s':=SSt A B rw S l (i0+1)) rfl sb0 ⟨l[i0]%n,i0+1,rfl,Int.emod_nonneg _ (by omega),Int.emod_lt_of_pos _ hn0,hlt,rfl⟩
theorem vH(A B:List Box)(rw:List bA)(S:Nat)(l:List Int)(i0:Nat)(hi0:i0 <= l.length)(hl:l.length <= 1000000):aL prog 156 [pP S] [S] (SSt A B rw S l i0) fun r s=>∃(z:Int) (i:Nat),r=.c (.val (.int .i64 z)) /\ 0 <= z /\ z<4611686018427387904 /\ i <= l.length /\ s=SSt A B rw S l i:=by
 refine acB func156 rfl ?_
 show AWp prog _ ⟨10,[S],⟨A++⟨S,102,[.sl l.length (l.map fun i=>.val (.int .i64 i)),nC i0]⟩::B,rw⟩,[(0,pP S)]⟩ _
 refine go 9 ?_
 refine wo rfl (bD [S] rfl rfl (by decide) call45 rfl (aC2 A _ _ _ l i0 _ hi0 hl (by decide) (by decide)) (bDj (by simp)) (bDj (by simp [Sto.bl])) (fun _=>bDj (by simp)) ?_)
 rintro r1 s1 ⟨z1,i1,rfl,hz1,hy1,hi1,rfl⟩
 refine wyz rfl (bO _ rfl rfl rfl rfl) (go 2 ?_)
 refine gY rfl (fun hc1=>?_) (fun hc1=>?_)
 ·refine go 3 ?_
  refine wo rfl (bD [S] rfl rfl (by decide) call45 rfl (aC2 A _ _ _ l i1 _ hi1 hl (by decide) (by decide)) (bDj (by simp)) (bDj (by simp [Sto.bl])) (fun _=>bDj (by simp)) ?_)
  rintro r2 s2 ⟨z2,i2,rfl,hz2,hy2,hi2,rfl⟩
  refine go 5 ?_
  exact bHe (s':=SSt A B rw S l i2) rfl sb0 ⟨z2,i2,rfl,hz2,by omega,hi2,rfl⟩
 refine go 5 ?_
 refine wo rfl (bD [S] rfl rfl (by decide) call45 rfl (aC2 A _ _ _ l i1 _ hi1 hl (by decide) (by decide)) (bDj (by simp)) (bDj (by simp [Sto.bl])) (fun _=>bDj (by simp)) ?_)
 rintro r2 s2 ⟨z2,i2,rfl,hz2,hy2,hi2,rfl⟩
 refine go 4 ?_
 exact bHe (s':=SSt A B rw S l i2) rfl sb0 ⟨z2,i2,rfl,hz2,by omega,hi2,rfl⟩
end
section
inductive eT (names:List ByteArray):Nat -> aH -> Prop
 |name {d:Nat} {x:ByteArray} (h:x∈names):eT names d (.mk 2 0 x [])
 |num {d:Nat} {n:Int} (h0:0 <= n) (h1:n<4611686018427387904):eT names d (.mk 1 n aK [])
 |un {d:Nat} {op:Int} {e:aH} (ho:op=3∨op=4) (he:eT names d e):eT names (d+1) (.mk op 0 aK [e])
 |bin {d:Nat} {op:Int} {a b:aH} (h0:5 <= op) (h1:op <= 17) (ha:eT names d a) (hb:eT names d b):eT names (d+1) (.mk op 0 aK [a,b])
theorem eT.mono{names:List ByteArray}{d d':Nat}{e:aH}(h:eT names d e)(hd:d <= d'):eT names d' e:=by
 induction h generalizing d' with
 |name h=>exact .name h
 |num h0 h1=>exact .num h0 h1
 |@un d op e ho he ih=>
  obtain ⟨k,rfl⟩:∃k,d'=k+1:=⟨d'-1,by omega⟩
  exact .un ho (ih (by omega))
 |@bin d op a b h0 h1 ha hb iha ihb=>
  obtain ⟨k,rfl⟩:∃k,d'=k+1:=⟨d'-1,by omega⟩
  exact .bin h0 h1 (iha (by omega)) (ihb (by omega))
inductive uA (ms:List cL) (ps:List aS) (vars:List ByteArray):cY -> Prop
 |arr {m:cL} {e:aH} (hm:m∈ms) (hs:0<m.size) (he:eT vars 1 e):uA ms ps vars ⟨m.name,[e]⟩
 |scalar {m:cL} (hm:m∈ms) (hs:m.size <= 0):uA ms ps vars ⟨m.name,[]⟩
 |param {x:aS} (hx:x∈ps) (hm:x.mutex=true):uA ms ps vars ⟨x.name,[]⟩
inductive nB (ms:List cL) (ps:List aS) (vars:List ByteArray):List aS -> List eN -> Prop
 |nil:nB ms ps vars [] []
 |mutex {x:aS} {l:List aS} {asl:List eN} {r:cY} (hx:x.mutex=true) (hr:uA ms ps vars r) (h:nB ms ps vars l asl):nB ms ps vars (x::l) (⟨true,r,.zero⟩::asl)
 |expr {x:aS} {l:List aS} {asl:List eN} {e:aH} (hx:x.mutex=false) (he:eT vars 2 e) (h:nB ms ps vars l asl):nB ms ps vars (x::l) (⟨false,.zero,e⟩::asl)
def cM(left:Nat):ByteArray:=bytes [118,UInt8.ofNat (97+left%26),UInt8.ofNat (97+left/26%26)]
abbrev Sig:=ByteArray×List aS
inductive dJ (ms:List cL) (fs:List Sig) (ps:List aS):List ByteArray -> Nat -> Nat -> List aJ -> Nat -> Prop
 |nil {vars:List ByteArray} {deep left:Nat}:dJ ms fs ps vars deep left [] left
 |lock {vars:List ByteArray} {deep left left':Nat} {r:cY} {rest:List aJ} (hr:uA ms ps vars r) (h:dJ ms fs ps vars deep left rest left'):
   dJ ms fs ps vars deep (left+1) (.mk 5 aK .zero r [] [] []::rest) left'
 |unlock {vars:List ByteArray} {deep left left':Nat} {r:cY} {rest:List aJ} (hr:uA ms ps vars r) (h:dJ ms fs ps vars deep left rest left'):
   dJ ms fs ps vars deep (left+1) (.mk 6 aK .zero r [] [] []::rest) left'
 |var {vars:List ByteArray} {deep left left':Nat} {e:aH} {rest:List aJ} (he:eT vars 2 e) (h:dJ ms fs ps (vars++[cM left]) deep left rest left'):
   dJ ms fs ps vars deep (left+1) (.mk 1 (cM left) e .zero [] [] []::rest) left'
 |assign {vars:List ByteArray} {deep left left':Nat} {x:ByteArray} {e:aH} {rest:List aJ} (hx:x∈vars) (he:eT vars 2 e) (h:dJ ms fs ps vars deep left rest left'):
   dJ ms fs ps vars deep (left+1) (.mk 2 x e .zero [] [] []::rest) left'
 |call {vars:List ByteArray} {deep left left':Nat} {k:Int} {g:Sig} {asl:List eN} {rest:List aJ} (hk:k=3∨k=4) (hg:g∈fs) (ha:nB ms ps vars g.2 asl) (h:dJ ms fs ps vars deep left rest left'):
   dJ ms fs ps vars deep (left+1) (.mk k g.1 .zero .zero asl [] []::rest) left'
 |cond {vars:List ByteArray} {deep left l1 l2 left':Nat} {e:aH} {thn els rest:List aJ} (he:eT vars 2 e) (ht:dJ ms fs ps vars deep left thn l1) (hel:dJ ms fs ps vars deep l1 els l2) (h:dJ ms fs ps vars (deep+1) l2 rest left'):
   dJ ms fs ps vars (deep+1) (left+1) (.mk 7 aK e .zero [] thn els::rest) left'
 |loop {vars:List ByteArray} {deep left l1 left':Nat} {e:aH} {thn rest:List aJ} (he:eT vars 2 e) (ht:dJ ms fs ps vars deep left thn l1) (h:dJ ms fs ps vars (deep+1) l1 rest left'):
   dJ ms fs ps vars (deep+1) (left+1) (.mk 8 aK e .zero [] thn []::rest) left'
 |ret {vars:List ByteArray} {deep left left':Nat} {rest:List aJ} (h:dJ ms fs ps vars deep left rest left'):
   dJ ms fs ps vars deep (left+1) (.mk 9 aK .zero .zero [] [] []::rest) left'
 |pair {vars:List ByteArray} {deep left l1 left':Nat} {r:cY} {mid rest:List aJ} (hr:uA ms ps vars r) (hm:dJ ms fs ps vars 0 left mid l1) (h:dJ ms fs ps vars deep l1 rest left'):
   dJ ms fs ps vars deep (left+1) (.mk 5 aK .zero r [] [] []::(mid++.mk 6 aK .zero r [] [] []::rest)) left'
theorem dJ.le{ms:List cL}{fs:List Sig}{ps:List aS}{vars:List ByteArray}{deep left left':Nat}{l:List aJ}(h:dJ ms fs ps vars deep left l left'):left' <= left:=by
 induction h<;>omega
def aDx(i:Nat)(m:cL):Prop:=m.name=bytes [UInt8.ofNat (97+i)] /\ ((m.reentrant=false /\ 0 <= m.size /\ m.size <= 3)∨(m.reentrant=true /\ m.size=0))
def aDa(i:Nat)(g:aI):Prop:=g.name=bytes [103,UInt8.ofNat (48+i)] /\ -2 <= g.init /\ g.init <= 2
def pM(l:List aS):Prop:=l.length <= 2 /\ ∀k (h:k<l.length),l[k].name=bytes [112,UInt8.ofNat (48+(l.length-k))]
def aMn(i:Nat)(f:bS):Prop:=(i=0 -> f.name=bytes [109,97,105,110] /\ f.params=[]) /\ (0<i -> f.name=bytes [102,UInt8.ofNat (48+i)]) /\ pM f.params
def bS.sig(f:bS):Sig:=(f.name,f.params)
def uS(gs:List aI)(ps:List aS):List ByteArray:=gs.map aI.name++(ps.filter fun x=>!x.mutex).map aS.name
inductive kZ (ms:List cL) (fs:List Sig) (gs:List aI):Nat -> List bS -> Prop
 |nil {left:Nat}:kZ ms fs gs left []
 |cons {left left':Nat} {f:bS} {l:List bS} (h:dJ ms fs f.params (uS gs f.params) 2 left f.body left') (hl:kZ ms fs gs left' l):kZ ms fs gs left (f::l)
structure sY (p:cK):Prop where
 mutexes:1 <= p.mutexes.length /\ p.mutexes.length <= 4 /\ ∀k (h:k<p.mutexes.length),aDx k p.mutexes[k]
 globals:p.globals.length <= 2 /\ ∀k (h:k<p.globals.length),aDa k p.globals[k]
 funcs:1 <= p.funcs.length /\ p.funcs.length <= 4 /\ ∀k (h:k<p.funcs.length),aMn k p.funcs[k]
 bodies:kZ p.mutexes (p.funcs.map bS.sig) p.globals 24 p.funcs
end
section
open Go.RowKit
theorem eC(A B:List Box)(rw:List bA)(S:Nat)(l:List Int)(i0:Nat)(n:Int)(hi0:i0 <= l.length)(hl:l.length <= 1000000)(hn0:0<n)(hn1:n <= 4611686018427387904):aL prog 45 [pP S,.c (.val (.int .i64 n))] [S] (SSt A B rw S l i0) fun r s=>∃(z:Nat) (i:Nat),r=nI z /\ (z:Int)<n /\ i <= l.length /\ s=SSt A B rw S l i:=
 (aC2 A B rw S l i0 n hi0 hl hn0 hn1).mono fun r s ⟨z,i,h1,h2,h3,h4,h5⟩=>⟨z.toNat,i,h1.trans (congrArg (fun x=>AT.c (.val (.int .i64 x))) (Int.toNat_of_nonneg h2).symm),by rw [Int.toNat_of_nonneg h2];exact h3,h4,h5⟩
abbrev gP(RA:List bA)(nv:Value)(names:List ByteArray)(rw:List bA):List bA:=RA++⟨nv,9,1,names.length,bP names⟩::rw
theorem aNv{P:Program}{U:List Nat}{o:Oper}{st:AS}{E yt:TypeId}{x y:Operand}{m:Nat}(r:Nat)(ho:o.op=.binOp .rem E x y yt)(hx:evA st x=some (nI m))(hy:evA st y=some (.c (.val (.int .i64 2))))(hr:m%2=r):AY P U o st (nI r):=by
 subst hr
 exact aG3 ho hx hy (by decide) rfl
theorem yU(A B:List Box)(RA rw:List bA)(nv:Value)(S:Nat)(l:List Int)(i0:Nat)(names:List ByteArray)(d:Nat)(hi0:i0 <= l.length)(hl:l.length <= 1000000)(hnl:names.length <= 1000000)(hd:d <= 100)(ih:d≠0 -> ∀(A:List Box)(i:Nat),i <= l.length -> aL prog 121 [pP S,.c (.val nv),.c (.val (.int .i64 ((d-1:Nat):Int)))] [S] (SSt A B (gP RA nv names rw) S l i) (fun r s=>∃(e:aH) (i:Nat),r=.agg (cU e) /\ eT names (d-1) e /\ i <= l.length /\ s=SSt A B (gP RA nv names rw) S l i)):aL prog 121 [pP S,.c (.val nv),nI d] [S] (SSt A B (gP RA nv names rw) S l i0) (fun r s=>∃(e:aH) (i:Nat),r=.agg (cU e) /\ eT names (d) e /\ i <= l.length /\ s=SSt A B (gP RA nv names rw) S l i):=by
 refine acB func121 rfl ?_
 show AWp prog _ ⟨64,[S],⟨A++⟨S,102,[.sl l.length (l.map fun i=>.val (.int .i64 i)),nC i0]⟩::B,RA++⟨nv,9,1,names.length,bP names⟩::rw⟩,[(0,pP S),(1,.c (.val nv)),(2,nI d)]⟩ _
 refine go 8 fun b1=>?_
 refine wo rfl (bD [S] rfl rfl (by decide) call45 rfl (eC (_::A) _ _ _ l i0 _ hi0 hl (by decide) (by decide)) (bDj (by simp)) (bDj (by simp [Sto.bl])) (fun _=>bDj (by simp)) ?_)
 rintro r1 s1 ⟨z1,i1,rfl,hy1,hi1,rfl⟩
 refine go 8 ?_
 by_cases hd0:d=0
 ·refine wcp true rfl (by first|exact eU (by omega)|(simp [bC]<;>omega)) (go 12 ?_)
  refine wyz rfl (kV RA rfl rfl rfl runUnderlying50) ?_
  by_cases hn0:0<names.length
  ·refine wcp true rfl (by first|exact eU (by omega)|(simp [bC]<;>omega)) (go 2 ?_)
   refine wo rfl (bD [S] rfl rfl (by decide) call45 rfl (eC (_::A) _ _ _ l i1 _ hi1 hl (by decide) (by decide)) (bDj (by simp)) (bDj (by simp [Sto.bl])) (fun _=>bDj (by simp)) ?_)
   rintro r2 s2 ⟨z2,i2,rfl,hy2,hi2,rfl⟩
   by_cases hz21:z2=1
   ·refine wcp true rfl (by first|exact eU (by omega)|(simp [bC]<;>omega)) (go 9 ?_)
    refine wyz rfl (kV RA rfl rfl rfl runUnderlying50) ?_
    refine wo rfl (bD [S] rfl rfl (by decide) call45 rfl (eC (_::A) _ _ _ l i2 _ hi2 hl (by omega) (by omega)) (bDj (by simp)) (bDj (by simp [Sto.bl])) (fun _=>bDj (by simp)) ?_)
    rintro r3 s3 ⟨z3,i3,rfl,hy3,hi3,rfl⟩
    have hj2:z3<names.length:=by omega
    refine aF1 RA (by omega) fun g cap hg=>?_
    subst hg
    refine wyz rfl (dH z3 rfl rfl rfl rfl hj2 runUnderlying50 sizeOf9) ?_
    refine wyz rfl (rM RA rfl rfl rfl isAgg9 sizeOf9 (rB names _ hj2) (fun _ h=>by cases h)) (go 8 ?_)
    exact ⟨.inr rfl,_,SSt A B (gP RA _ names rw) S l i3,(eK (Wk.agg (.r (.r (.r (.n .nil))))) (aR rfl (aO [] rfl rfl isAgg73 sizeOf73 (bK rfl rfl)))),aA (.cons _ (.refl _)) (.refl _),⟨(.mk 2 0 names[z3] []),i3,rfl,(.name (getElem_mem hj2)),hi3,rfl⟩⟩
   refine wcp false rfl (by first|exact eE (by omega)|(simp [bC]<;>omega)) (go 9 ?_)
   refine wo rfl (bD [S] rfl rfl (by decide) call156 rfl (vH (_::A) _ _ _ l i2 hi2 hl) (bDj (by simp)) (bDj (by simp [Sto.bl])) (fun _=>bDj (by simp)) ?_)
   rintro r3 s3 ⟨z3,i3,rfl,hz3,hy3,hi3,rfl⟩
   refine go 7 ?_
   exact ⟨.inr rfl,_,SSt A B (gP RA _ names rw) S l i3,(eK (Wk.agg (.r (.r (.r (.n .nil))))) (aR rfl (aO [] rfl rfl isAgg73 sizeOf73 (bK rfl rfl)))),aA (.cons _ (.refl _)) (.refl _),⟨(.mk 1 z3 aK []),i3,rfl,(.num hz3 hy3),hi3,rfl⟩⟩
  refine wcp false rfl (by first|exact eE (by omega)|(simp [bC]<;>omega)) (go 13 ?_)
  refine wo rfl (bD [S] rfl rfl (by decide) call156 rfl (vH (_::A) _ _ _ l i1 hi1 hl) (bDj (by simp)) (bDj (by simp [Sto.bl])) (fun _=>bDj (by simp)) ?_)
  rintro r2 s2 ⟨z2,i2,rfl,hz2,hy2,hi2,rfl⟩
  refine go 7 ?_
  exact ⟨.inr rfl,_,SSt A B (gP RA _ names rw) S l i2,(eK (Wk.agg (.r (.r (.r (.n .nil))))) (aR rfl (aO [] rfl rfl isAgg73 sizeOf73 (bK rfl rfl)))),aA (.cons _ (.refl _)) (.refl _),⟨(.mk 1 z2 aK []),i2,rfl,(.num hz2 hy2),hi2,rfl⟩⟩
 refine wcp false rfl (by first|exact eE (by omega)|(simp [bC]<;>omega)) (go 2 ?_)
 by_cases hz2:z1<2
 ·refine wcp true rfl (by first|exact eU (by omega)|(simp [bC]<;>omega)) (go 9 ?_)
  refine wyz rfl (kV RA rfl rfl rfl runUnderlying50) ?_
  by_cases hn0:0<names.length
  ·refine wcp true rfl (by first|exact eU (by omega)|(simp [bC]<;>omega)) (go 2 ?_)
   refine wo rfl (bD [S] rfl rfl (by decide) call45 rfl (eC (_::A) _ _ _ l i1 _ hi1 hl (by decide) (by decide)) (bDj (by simp)) (bDj (by simp [Sto.bl])) (fun _=>bDj (by simp)) ?_)
   rintro r2 s2 ⟨z2,i2,rfl,hy2,hi2,rfl⟩
   by_cases hz21:z2=1
   ·refine wcp true rfl (by first|exact eU (by omega)|(simp [bC]<;>omega)) (go 9 ?_)
    refine wyz rfl (kV RA rfl rfl rfl runUnderlying50) ?_
    refine wo rfl (bD [S] rfl rfl (by decide) call45 rfl (eC (_::A) _ _ _ l i2 _ hi2 hl (by omega) (by omega)) (bDj (by simp)) (bDj (by simp [Sto.bl])) (fun _=>bDj (by simp)) ?_)
    rintro r3 s3 ⟨z3,i3,rfl,hy3,hi3,rfl⟩
    have hj2:z3<names.length:=by omega
    refine aF1 RA (by omega) fun g cap hg=>?_
    subst hg
    refine wyz rfl (dH z3 rfl rfl rfl rfl hj2 runUnderlying50 sizeOf9) ?_
    refine wyz rfl (rM RA rfl rfl rfl isAgg9 sizeOf9 (rB names _ hj2) (fun _ h=>by cases h)) (go 8 ?_)
    exact ⟨.inr rfl,_,SSt A B (gP RA _ names rw) S l i3,(eK (Wk.agg (.r (.r (.r (.n .nil))))) (aR rfl (aO [] rfl rfl isAgg73 sizeOf73 (bK rfl rfl)))),aA (.cons _ (.refl _)) (.refl _),⟨(.mk 2 0 names[z3] []),i3,rfl,(.name (getElem_mem hj2)),hi3,rfl⟩⟩
   refine wcp false rfl (by first|exact eE (by omega)|(simp [bC]<;>omega)) (go 9 ?_)
   refine wo rfl (bD [S] rfl rfl (by decide) call156 rfl (vH (_::A) _ _ _ l i2 hi2 hl) (bDj (by simp)) (bDj (by simp [Sto.bl])) (fun _=>bDj (by simp)) ?_)
   rintro r3 s3 ⟨z3,i3,rfl,hz3,hy3,hi3,rfl⟩
   refine go 7 ?_
   exact ⟨.inr rfl,_,SSt A B (gP RA _ names rw) S l i3,(eK (Wk.agg (.r (.r (.r (.n .nil))))) (aR rfl (aO [] rfl rfl isAgg73 sizeOf73 (bK rfl rfl)))),aA (.cons _ (.refl _)) (.refl _),⟨(.mk 1 z3 aK []),i3,rfl,(.num hz3 hy3),hi3,rfl⟩⟩
  refine wcp false rfl (by first|exact eE (by omega)|(simp [bC]<;>omega)) (go 13 ?_)
  refine wo rfl (bD [S] rfl rfl (by decide) call156 rfl (vH (_::A) _ _ _ l i1 hi1 hl) (bDj (by simp)) (bDj (by simp [Sto.bl])) (fun _=>bDj (by simp)) ?_)
  rintro r2 s2 ⟨z2,i2,rfl,hz2,hy2,hi2,rfl⟩
  refine go 7 ?_
  exact ⟨.inr rfl,_,SSt A B (gP RA _ names rw) S l i2,(eK (Wk.agg (.r (.r (.r (.n .nil))))) (aR rfl (aO [] rfl rfl isAgg73 sizeOf73 (bK rfl rfl)))),aA (.cons _ (.refl _)) (.refl _),⟨(.mk 1 z2 aK []),i2,rfl,(.num hz2 hy2),hi2,rfl⟩⟩
 refine wcp false rfl (by first|exact eE (by omega)|(simp [bC]<;>omega)) (go 8 ?_)
 by_cases hz4:z1<4
 ·refine wcp true rfl (by first|exact eU (by omega)|(simp [bC]<;>omega)) (go 7 ?_)
  refine wyz rfl (aNv (z1%2) rfl rfl rfl rfl) ?_
  refine wad rfl (go 3 ?_)
  refine wyz rfl (cI ((d-1:Nat):Int) rfl rfl rfl (by omega) (by omega) (by omega)) ?_
  refine wo rfl (bD [S] rfl rfl (by decide) call121 rfl (ih hd0 (_::A) i1 hi1) (bDj (by simp)) (bDj (by simp [Sto.bl])) (fun _=>bDj (by simp)) ?_)
  rintro r2 s2 ⟨x2,i2,rfl,hm2,hi2,rfl⟩
  refine wo rfl (bDk bDs rfl (.cons rfl .nil) (aV fO cU x2 (fP _) rfl rfl) ?_)
  refine go 7 ?_
  exact ⟨.inr rfl,_,SSt A B (gP RA _ names rw) S l i2,(eK (Wk.agg (.r (.r (.r (.r .nil))))) (aR rfl (aO [] rfl rfl isAgg73 sizeOf73 (bK rfl rfl)))),aA (.cons _ (.refl _)) (.refl _),⟨(.mk (3+((z1%2:Nat):Int)) 0 aK [x2]),i2,rfl,(by obtain ⟨d',rfl⟩:∃d',d=d'+1:=⟨d-1,by omega⟩;exact .un (by omega) hm2),hi2,rfl⟩⟩
 refine wcp false rfl (by first|exact eE (by omega)|(simp [bC]<;>omega)) (go 10 ?_)
 refine wo rfl (bD [S] rfl rfl (by decide) call45 rfl (eC (_::A) _ _ _ l i1 _ hi1 hl (by decide) (by decide)) (bDj (by simp)) (bDj (by simp [Sto.bl])) (fun _=>bDj (by simp)) ?_)
 rintro r2 s2 ⟨z2,i2,rfl,hy2,hi2,rfl⟩
 refine wad rfl (go 3 ?_)
 refine wyz rfl (cI ((d-1:Nat):Int) rfl rfl rfl (by omega) (by omega) (by omega)) ?_
 refine wo rfl (bD [S] rfl rfl (by decide) call121 rfl (ih hd0 (_::A) i2 hi2) (bDj (by simp)) (bDj (by simp [Sto.bl])) (fun _=>bDj (by simp)) ?_)
 rintro r3 s3 ⟨x3,i3,rfl,hm3,hi3,rfl⟩
 refine go 3 ?_
 refine wyz rfl (cI ((d-1:Nat):Int) rfl rfl rfl (by omega) (by omega) (by omega)) ?_
 refine wo rfl (bD [S] rfl rfl (by decide) call121 rfl (ih hd0 (_::A) i3 hi3) (bDj (by simp)) (bDj (by simp [Sto.bl])) (fun _=>bDj (by simp)) ?_)
 rintro r4 s4 ⟨x4,i4,rfl,hm4,hi4,rfl⟩
 refine wo rfl (bDk zb9 rfl (.cons rfl (.cons rfl .nil)) (aEp fO cU x3 x4 fP rfl (fun _=>rfl)) ?_)
 refine go 5 ?_
 exact ⟨.inr rfl,_,SSt A B (gP RA _ names rw) S l i4,(eK (Wk.agg (.r (.r (.r (.r .nil))))) (aR rfl (aO [] rfl rfl isAgg73 sizeOf73 (bK rfl rfl)))),aA (.cons _ (.refl _)) (.refl _),⟨(.mk (5+((z2:Nat):Int)) 0 aK [x3,x4]),i4,rfl,(by obtain ⟨d',rfl⟩:∃d',d=d'+1:=⟨d-1,by omega⟩;exact .bin (by omega) (by omega) hm3 hm4),hi4,rfl⟩⟩
theorem xZ(B:List Box)(RA rw:List bA)(nv:Value)(S:Nat)(l:List Int)(names:List ByteArray)(hl:l.length <= 1000000)(hnl:names.length <= 1000000):∀(d:Nat),d <= 100 -> ∀(A:List Box)(i:Nat),i <= l.length -> aL prog 121 [pP S,.c (.val nv),nI d] [S] (SSt A B (gP RA nv names rw) S l i) (fun r s=>∃(e:aH) (i:Nat),r=.agg (cU e) /\ eT names (d) e /\ i <= l.length /\ s=SSt A B (gP RA nv names rw) S l i)
 |0,hd,A,i,hi=>yU A B RA rw nv S l i names 0 hi hl hnl hd (fun h=>absurd rfl h)
 |d+1,hd,A,i,hi=>yU A B RA rw nv S l i names (d+1) hi hl hnl hd (fun _ A i hi=>xZ B RA rw nv S l names hl hnl d (by omega) A i hi)
theorem aM1(A B:List Box)(RA rw:List bA)(nv:Value)(S W:Nat)(l:List Int)(i0:Nat)(names:List ByteArray)(G M F:AC)(left:Int)(ar:Bool)(size:Int)(hs0:0<size)(hs1:size <= 4611686018427387904)(hi0:i0 <= l.length)(hl:l.length <= 1000000)(hnl:names.length <= 1000000):aL prog 120 [pP W,.c (.val nv),.c (.val (.int .i64 size))] [S] (SSt A (⟨W,104,[.val (.pointer (some ⟨S,0,none⟩)),G,M,F,.val (.int .i64 left),.val (.bool ar)]⟩::B) (gP RA nv names rw) S l i0) (fun r s=>∃(e:aH) (i:Nat),r=.agg (cU e) /\ eT names 1 e /\ i <= l.length /\ s=SSt A (⟨W,104,[.val (.pointer (some ⟨S,0,none⟩)),G,M,F,.val (.int .i64 left),.val (.bool ar)]⟩::B) (gP RA nv names rw) S l i):=by
 cases ar
 ·refine acB func120 rfl ?_
  show AWp prog _ ⟨32,[S],⟨A++⟨S,102,[.sl l.length (l.map fun i=>.val (.int .i64 i)),nC i0]⟩::⟨W,104,[.val (.pointer (some ⟨S,0,none⟩)),G,M,F,.val (.int .i64 left),.val (.bool false)]⟩::B,RA++⟨nv,9,1,names.length,bP names⟩::rw⟩,[(0,pP W),(1,.c (.val nv)),(2,.c (.val (.int .i64 size)))]⟩ _
  refine go 32 fun b1=>?_
  refine wo rfl (bD [S] rfl rfl (by decide) call45 rfl (eC (_::A) _ _ _ l i0 _ hi0 hl hs0 hs1) (bDj (by simp)) (bDj (by simp [Sto.bl])) (fun _=>bDj (by simp)) ?_)
  rintro r1 s1 ⟨z1,i1,rfl,hy1,hi1,rfl⟩
  refine go 5 ?_
  exact ⟨.inr rfl,_,SSt A (⟨W,104,[.val (.pointer (some ⟨S,0,none⟩)),G,M,F,.val (.int .i64 left),.val (.bool false)]⟩::B) (gP RA nv names rw) S l i1,(eK (Wk.agg (.r (.r (.r (.n .nil))))) (aR rfl (aO [] rfl rfl isAgg73 sizeOf73 (bK rfl rfl)))),aA (.cons _ (.refl _)) (.refl _),⟨.mk 1 z1 aK [],i1,rfl,.num (by omega) (by omega),hi1,rfl⟩⟩
 refine acB func120 rfl ?_
 show AWp prog _ ⟨32,[S],⟨A++⟨S,102,[.sl l.length (l.map fun i=>.val (.int .i64 i)),nC i0]⟩::⟨W,104,[.val (.pointer (some ⟨S,0,none⟩)),G,M,F,.val (.int .i64 left),.val (.bool true)]⟩::B,RA++⟨nv,9,1,names.length,bP names⟩::rw⟩,[(0,pP W),(1,.c (.val nv)),(2,.c (.val (.int .i64 size)))]⟩ _
 refine go 17 fun b1=>?_
 refine wo rfl (bD [S] rfl rfl (by decide) call45 rfl (eC (_::A) _ _ _ l i0 _ hi0 hl (by decide) (by decide)) (bDj (by simp)) (bDj (by simp [Sto.bl])) (fun _=>bDj (by simp)) ?_)
 rintro r1 s1 ⟨z1,i1,rfl,hy1,hi1,rfl⟩
 by_cases hz1:z1=1
 ·refine wcp true rfl (by first|exact eU (by omega)|(simp [bC]<;>omega)) (go 11 ?_)
  refine wo rfl (bD [S] rfl rfl (by decide) call121 rfl (xZ _ RA _ _ S l names hl hnl 1 (by first|decide|omega) (_::A) i1 hi1) (bDj (by simp)) (bDj (by simp [Sto.bl])) (fun _=>bDj (by simp)) ?_)
  rintro r2 s2 ⟨x2,i2,rfl,hm2,hi2,rfl⟩
  refine go 5 ?_
  exact ⟨.inr rfl,_,SSt A (⟨W,104,[.val (.pointer (some ⟨S,0,none⟩)),G,M,F,.val (.int .i64 left),.val (.bool true)]⟩::B) (gP RA nv names rw) S l i2,(aR rfl (aO [] rfl rfl isAgg73 sizeOf73 (bK rfl rfl))),aA (.cons _ (.refl _)) (.refl _),⟨x2,i2,rfl,hm2,hi2,rfl⟩⟩
 refine wcp false rfl (by first|exact eE (by omega)|(simp [bC]<;>omega)) (go 13 ?_)
 refine wo rfl (bD [S] rfl rfl (by decide) call45 rfl (eC (_::A) _ _ _ l i1 _ hi1 hl hs0 hs1) (bDj (by simp)) (bDj (by simp [Sto.bl])) (fun _=>bDj (by simp)) ?_)
 rintro r2 s2 ⟨z2,i2,rfl,hy2,hi2,rfl⟩
 refine go 5 ?_
 exact ⟨.inr rfl,_,SSt A (⟨W,104,[.val (.pointer (some ⟨S,0,none⟩)),G,M,F,.val (.int .i64 left),.val (.bool true)]⟩::B) (gP RA nv names rw) S l i2,(eK (Wk.agg (.r (.r (.r (.n .nil))))) (aR rfl (aO [] rfl rfl isAgg73 sizeOf73 (bK rfl rfl)))),aA (.cons _ (.refl _)) (.refl _),⟨.mk 1 z2 aK [],i2,rfl,.num (by omega) (by omega),hi2,rfl⟩⟩
theorem pQ(A B:List Box)(RA rw:List bA)(nv:Value)(S W:Nat)(l:List Int)(i0:Nat)(names:List ByteArray)(G M F:AC)(left:Int)(ar:Bool)(hi0:i0 <= l.length)(hl:l.length <= 1000000)(hnl:names.length <= 1000000):aL prog 83 [pP W,.c (.val nv)] [S] (SSt A (⟨W,104,[.val (.pointer (some ⟨S,0,none⟩)),G,M,F,.val (.int .i64 left),.val (.bool ar)]⟩::B) (gP RA nv names rw) S l i0) (fun r s=>∃(e:aH) (i:Nat),r=.agg (cU e) /\ eT names 2 e /\ i <= l.length /\ s=SSt A (⟨W,104,[.val (.pointer (some ⟨S,0,none⟩)),G,M,F,.val (.int .i64 left),.val (.bool ar)]⟩::B) (gP RA nv names rw) S l i):=by
 cases ar
 ·refine acB func83 rfl ?_
  show AWp prog _ ⟨28,[S],⟨A++⟨S,102,[.sl l.length (l.map fun i=>.val (.int .i64 i)),nC i0]⟩::⟨W,104,[.val (.pointer (some ⟨S,0,none⟩)),G,M,F,.val (.int .i64 left),.val (.bool false)]⟩::B,RA++⟨nv,9,1,names.length,bP names⟩::rw⟩,[(0,pP W),(1,.c (.val nv))]⟩ _
  refine go 23 fun b1=>?_
  refine wo rfl (bD [S] rfl rfl (by decide) call121 rfl (xZ _ RA _ _ S l names hl hnl 0 (by first|decide|omega) (_::A) i0 hi0) (bDj (by simp)) (bDj (by simp [Sto.bl])) (fun _=>bDj (by simp)) ?_)
  rintro r1 s1 ⟨x1,i1,rfl,hm1,hi1,rfl⟩
  refine go 5 ?_
  exact ⟨.inr rfl,_,SSt A (⟨W,104,[.val (.pointer (some ⟨S,0,none⟩)),G,M,F,.val (.int .i64 left),.val (.bool false)]⟩::B) (gP RA nv names rw) S l i1,(aR rfl (aO [] rfl rfl isAgg73 sizeOf73 (bK rfl rfl))),aA (.cons _ (.refl _)) (.refl _),⟨x1,i1,rfl,(hm1.mono (by omega)),hi1,rfl⟩⟩
 refine acB func83 rfl ?_
 show AWp prog _ ⟨28,[S],⟨A++⟨S,102,[.sl l.length (l.map fun i=>.val (.int .i64 i)),nC i0]⟩::⟨W,104,[.val (.pointer (some ⟨S,0,none⟩)),G,M,F,.val (.int .i64 left),.val (.bool true)]⟩::B,RA++⟨nv,9,1,names.length,bP names⟩::rw⟩,[(0,pP W),(1,.c (.val nv))]⟩ _
 refine go 19 fun b1=>?_
 refine dx [W] (tz [(0,true),(1,true),(2,true),(3,true),(4,true),(5,true),(6,true),(7,true),(8,true)] 4 (go 10 ?_))
 refine ox 9 rfl rfl (bD [S] rfl rfl (by decide) call45 rfl (eC (_::A) _ _ _ l i0 _ hi0 hl (by decide) (by decide)) (by intro b hb;simp at hb;subst hb;simp) (by intro b hb;simp at hb;subst hb;simp [Sto.bl]) (fun hn b hb=>by simp at hb;subst hb<;>exact jJ hn) ?_)
 rintro r1 s1 ⟨z1,i1,rfl,hy1,hi1,rfl⟩
 refine tx 10 rfl (bB rfl rfl rfl (by omega) (by omega)) ?_
 refine ox 11 rfl rfl (bD [S] rfl rfl (by decide) call121 rfl (xZ _ RA _ _ S l names hl hnl (1+z1) (by first|decide|omega) (_::A) i1 hi1) (by intro b hb;simp at hb;subst hb;simp) (by intro b hb;simp at hb;subst hb;simp [Sto.bl]) (fun hn b hb=>by simp at hb;subst hb<;>exact jJ hn) ?_)
 rintro r2 s2 ⟨x2,i2,rfl,hm2,hi2,rfl⟩
 refine tz [(12,false)] 0 (go 2 ?_)
 refine ax (go 2 ?_)
 exact ⟨.inr rfl,_,SSt A (⟨W,104,[.val (.pointer (some ⟨S,0,none⟩)),G,M,F,.val (.int .i64 left),.val (.bool true)]⟩::B) (gP RA nv names rw) S l i2,(aR rfl (aO [] rfl rfl isAgg73 sizeOf73 (bK rfl rfl))),aA (.cons _ (.refl _)) (.refl _),⟨x2,i2,rfl,(hm2.mono (by omega)),hi2,rfl⟩⟩
end
section
def iZ(ms:List cL):List ByteArray:=ms.map cL.name
def jB(ps:List aS):List ByteArray:=(ps.map fun x=>if x.mutex then [x.name,x.name] else []).flatten
theorem aDs(ms:List cL)(k:Nat)(h:k<ms.length):iZ (ms.take (k+1))=iZ (ms.take k)++[ms[k].name]:=by
 rw [List.take_succ_eq_append_getElem h,iZ,List.map_append];rfl
theorem vX(ps:List aS)(k:Nat)(h:k<ps.length):jB (ps.take (k+1))=jB (ps.take k)++(if ps[k].mutex then [ps[k].name,ps[k].name] else []):=by
 rw [List.take_succ_eq_append_getElem h,jB,List.map_append,List.flatten_append];simp [jB]
theorem xK:∀(ps:List aS),(jB ps).length <= 2*ps.length
 |[]=>by simp [jB]
 |x::r=>by
  have:=xK r
  simp only [jB,List.map_cons,List.flatten_cons,length_append,length_cons] at this⊢
  split<;>(simp only [length_cons,length_nil];omega)
theorem aE4(ps:List aS)(n:ByteArray)(h:n∈jB ps):∃x,x∈ps /\ x.mutex=true /\ x.name=n:=by
 simp only [jB,List.mem_flatten,List.mem_map] at h
 obtain ⟨l,⟨x,hx,rfl⟩,hn⟩:=h
 cases hm:x.mutex with
 |true=>rw [hm] at hn;simp at hn;exact ⟨x,hx,hm,hn.symm⟩
 |false=>rw [hm] at hn;simp at hn
end
end Go.Proofs.YtojinfngbbajgaaGreatDoor
