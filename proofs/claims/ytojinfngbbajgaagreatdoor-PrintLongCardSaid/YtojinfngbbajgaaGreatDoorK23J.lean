import Derived.Test.YtojinfngbbajgaaGreatDoorCards
import Derived.Test.YtojinfngbbajgaaGreatDoorTie
import Derived.KernelRfl
import Derived.ProofKit
import Derived.OpenShut
import Derived.Carry
import Derived.Deep.DeepHandedRow
import Derived.LaidMore
import Derived.Lib.LaidTab
import Derived.Shelf.Vars
import Derived.Test.YtojinfngbbajgaaGreatDoorK6J
import Derived.Test.YtojinfngbbajgaaGreatDoorK7J
import Derived.Lib.SlBytesConst
import Derived.Test.YtojinfngbbajgaaGreatDoorK9J
import Derived.Test.YtojinfngbbajgaaGreatDoorK5J
import Derived.Test.YtojinfngbbajgaaGreatDoorK22J
import Derived.Test.YtojinfngbbajgaaGreatDoorK14J
import Derived.Test.YtojinfngbbajgaaGreatDoorK19J
import Derived.Test.YtojinfngbbajgaaGreatDoorK11J
import Derived.Test.YtojinfngbbajgaaGreatDoorK1J
import Derived.Test.YtojinfngbbajgaaGreatDoorK18J
import Derived.Test.YtojinfngbbajgaaGreatDoorK12J
set_option linter.all false
set_option synthInstance.maxHeartbeats 1000000
set_option synthInstance.maxSize 1000000
set_option maxHeartbeats 1600000
set_option maxRecDepth 100000
namespace Go.Proofs.YtojinfngbbajgaaGreatDoor
open Go.Proofs.Tryz
open List (length_append length_cons length_nil mem_append mem_cons not_mem_nil append_assoc getElem_mem take_of_length_le)
section
open Go.ChangeShapes Go.WideShapes Go.ChangeAt Go.RowKit
theorem own:ownKnob prog.godebug=none:=by kernel_rfl
theorem laidOut:laidOutB prog=true:=by kernel_rfl
theorem aRc : prog.globalNamed "lockorder/token.words" = some 0 := by kernel_rfl
theorem aA1{H:Type}{enc:TypeId×Value -> H}{P:Program}{w:World}{base:Nat}{sp:Nat -> Bool}{held:Bool}{fuel:Nat}{t e:TypeId}{n:Nat}{cs:List Value}{zs:List (List UInt8)}{p:List MemPlace}
  (ht:P.underlying t=some (.array n e)) (he:P.underlying e=some .string) (hce:P.cellsOf e=1) (hct:P.cellsOf t=n)
  (h:DataW.trod enc P w base sp held fuel t cs=some (.agg (zs.map fun z=>.lit (.string z)),p)):cs=zs.map fun z=>Value.string (bytes z):=by
 cases fuel with
 |zero=>simp [DataW.trod] at h
 |succ fuel=>
  simp only [DataW.trod,ht,hce,hct,Nat.mul_one] at h
  split at h
  ·rename_i hl
   obtain ⟨xs,hm,hx⟩:=Option.map_eq_some_iff.1 h
   have hxs:xs.map (·.1)=zs.map fun z=>(DataW.lit (.string z):DataW H):=by
    have:=congrArg Prod.fst hx
    simpa using this
   have hxl:xs.length=n:=by simpa using Lib.mapM_length hm
   have hzl:zs.length=n:=by
    have:=congrArg List.length hxs
    simp at this
    omega
   apply List.ext_getElem?
   intro i
   by_cases hi:i<n
   ·obtain ⟨b,hb,hf⟩:=Lib.mapM_at hm i i (by simp [hi])
    obtain ⟨z,hc,rfl,_⟩:=DataW.trod_string he hf
    have h1:cs[i]?=some (.string z):=by
     have:=congrArg (·[0]?) hc
     simpa [List.getElem?_take,List.getElem?_drop] using this
    have h2:(xs.map (·.1))[i]?=some (DataW.lit (.string z.data.toList):DataW H):=by simp [hb]
    rw [hxs] at h2
    simp only [List.getElem?_map,Option.map_eq_some_iff,DataW.lit.injEq,Lit.string.injEq] at h2
    obtain ⟨z',hz',he'⟩:=h2
    simp [h1,hz',bytes,he']
   rw [List.getElem?_eq_none (by omega),List.getElem?_eq_none (by simp;omega)]
  cases h
def aGj:List (List UInt8):=words.map fun b=>b.data.toList
theorem sV{H:Type}{enc:TypeId×Value -> H}{W W':World}(hb:Below W.heap.size W W'):
  ∀{ts:List TypeId} {vs:List Value} {ds:List (DataW H)} {ps:List MemPlace},(∀t∈ts,prog.readableRec t=true /\ t<prog.types.size) -> DataW.TrodAll enc prog W 0 (fun _=>true) true ts vs ds ps -> (∀x∈ps,x.block<W.heap.size) ->
   DataW.TrodAll enc prog W' 0 (fun b=>decide (b<W.heap.size)) true ts vs ds ps
 |[],_,_,_,_,h,_=>by
  obtain ⟨rfl,rfl,rfl⟩:=trodAll_nil h
  exact trodAll_mk0
 |t::ts,_,_,_,hr,h,hlt=>by
  obtain ⟨v,vs1,d,ds1,a,b,rfl,rfl,rfl,h1,h2⟩:=trodAll_cons h
  have ht:=hr t (List.mem_cons_self ..)
  exact ⟨a,b,Below.trod laidOut ht.1 ht.2 h1 hb (fun x hx=>hlt x (List.mem_append_left _ hx)),
   sV hb (fun u hu=>hr u (List.mem_cons_of_mem _ hu)) h2 (fun x hx=>hlt x (List.mem_append_right _ hx)),rfl⟩
theorem aMc{H:Type}{enc:TypeId×Value -> H}{F:Func}{s:ChangeSpec}{W W':World}{args:Array Value}{ds gs:List (DataW H)}{before:List MemPlace}
  (hW:DataW.Whole enc prog F.params.toList s.vars false W args.toList ds gs before) (hv:s.vars=[]) (hfn:s.fn H ds={results:=[.lit (.bool true)],args:=ds})
  (hread:∀t∈F.params.toList,prog.readableRec t=true /\ t<prog.types.size) (hres:F.resultTypes=#[4]) (hb:Below W.heap.size W W'):
  ∃v,Ending.returned (.bool true)=.returned v /\ s.post enc prog F false true false false W args v W':=by
 refine ⟨_,rfl,?_⟩
 have hlt:∀p∈before,p.block<W.heap.size:=fun p hp=>by simpa using hW.lt p hp
 have hW':=hW
 obtain ⟨p,q,hA,hV,rfl,hfz,hnd⟩:=hW
 rw [hv] at hV
 obtain ⟨rfl,rfl⟩:=trodVars_none hV
 simp only [List.append_nil] at hlt hW'
 refine ⟨ds,[],p,[],p,[],hW',?_,?_,?_,?_,fun h=>by cases h⟩
 ·rw [hres,List.append_nil,hfn]
  exact trodAll_cons_mk (shut_bool underlying4 true) trodAll_mk0
 ·rw [List.append_nil,hfn]
  exact sV hb hread hA hlt
 ·rw [List.append_nil,hfn,hv];rfl
 exact hb.frame _
end
section
open Go.ChangeShapes Go.WideShapes Go.ChangeAt Go.RowKit
theorem bR6 : prog.globalNamed "lockorder/expr.signs" = some 3 := by kernel_rfl
theorem bSj : prog.globalNamed "internal/strconv.uint64pow10" = some 2 := by kernel_rfl
def bRe:List (List UInt8):=bLb.map fun b=>b.data.toList
abbrev bQr : List (String × DataW Unit) := [("math/bits.deBruijn32tab", Rows.laid_math_bits_deBruijn32tab), ("math/bits.deBruijn64tab", Rows.laid_math_bits_deBruijn64tab), ("internal/strconv.uint64pow10", Rows.laid_internal_strconv_uint64pow10), ("lockorder/token.words", Rows.laid_lockorder_token_words), ("lockorder/expr.signs", Rows.laid_lockorder_expr_signs)]
theorem bRl{W:World}(h:laidMetH prog bQr W)(hs:W.ShapedOpen prog):bM9 W:=by
 obtain ⟨ps,hL,_⟩:=(show laidMet prog bQr W from h)
 obtain ⟨_,_,_,_,_,_,_,_,_,_,hL,_⟩:=hL
 obtain ⟨_,_,_,_,_,_,_,_,_,_,hL,_⟩:=hL
 obtain ⟨g3,t3,cs3,fuel3,p3,q3,hg3,ht3,hvar3,hd3,hL,_⟩:=hL
 obtain ⟨g',t',cs,fuel,p,q,hg',ht',hvar,hd,hL,_⟩:=hL
 obtain ⟨g2,t2,cs2,fuel2,p2,q2,hg2,ht2,hvar2,hd2,_,_⟩:=hL
 refine ⟨fun j hj=>?_,?_,⟨fun j hj=>?_⟩,?_⟩
 ·obtain rfl:=Option.some.inj (aRc.symm.trans hg')
  obtain rfl:t'=222:=Option.some.inj (ht'.symm.trans (show (prog.globals[0]?).map (·.type)=some 222 by kernel_rfl))
  have hc:=aA1 (zs:=aGj) (n:=11) (e:=9) underlying222 underlying9 (by kernel_rfl) (by kernel_rfl) hd
  have:=World.var?_cell hg' hvar j
  rw [←Array.getElem?_toList,hc] at this
  rw [this]
  simp only [aGj,List.map_map]
  rw [List.getElem?_map,List.getElem?_eq_getElem hj]
  simp [bytes]
 ·exact cell_of_shapedOpen_int (zero:=#[.int .i64 0]) (t:=3) hs (of_decide_eq_true (by kernel_rfl)) (by kernel_rfl) rfl (by kernel_rfl) (by kernel_rfl) underlying3
 ·obtain rfl:=Option.some.inj (bR6.symm.trans hg2)
  obtain rfl:t2=261:=Option.some.inj (ht2.symm.trans (show (prog.globals[3]?).map (·.type)=some 261 by kernel_rfl))
  have hc:=aA1 (zs:=bRe) (n:=18) (e:=9) underlying261 underlying9 (by kernel_rfl) (by kernel_rfl) hd2
  have:=World.var?_cell hg2 hvar2 j
  rw [←Array.getElem?_toList,hc] at this
  rw [this]
  simp only [bRe,List.map_map]
  rw [List.getElem?_map,List.getElem?_eq_getElem hj]
  simp [bytes]
 obtain rfl:=Option.some.inj (bSj.symm.trans hg3)
 obtain rfl:t3=256:=Option.some.inj (ht3.symm.trans (show (prog.globals[2]?).map (·.type)=some 256 by kernel_rfl))
 unfold Lib.TabIs
 rw [hvar3,←Lib.cells_of_tab (zs:=Lib.pow10Tab) (k:=.u64) underlying256 underlying189 (by kernel_rfl) (by kernel_rfl) hd3]
theorem bQj(os:Os)(args:Array Value):laidMet prog bQr ((World.doorLaid prog 60 os).forCall (fun _ _=>0) ⟨#[],args,[]⟩).memory:=
 laidMet_of_run' 8 (by kernel_rfl) (by kernel_rfl)
theorem bO6(w:World):Up2 w (bI [] w):=
 ⟨fun a u h=>by rw [eW _ _ _ (by simp)];exact h,fun g cs t fz h _=>by rw [aFp _ _ _ (by simp)];exact h⟩
theorem bOi{w:World}{t:AT}{v:Value}(he:bM9 w)(h:dO (bI [] w) t v):dO (bI [] w) (bK5 t) v:=bOr h (he.up (bO6 w))
theorem bRj{P:Program}{U:List Nat}{o:Oper}{n d:Nat}{T:List Nat}{s:Sto}{ts:List (Nat×AT)}{K:AS -> Prop}{F:FuncId}{t0:AT}(i0:Nat)(ho:o.op=.call {callee:=.value (.func F),args:=#[],argTypes:=#[]})(hd:o.dst=some d)(hn:d<n)
  (hcf:∀args w,(callFunc F args).run P w=.ok (.enter F args) w) (hl:look ts i0=some (bK5 t0)) (hc:∀w,bM9 w -> Calls P F #[] w fun e w'=>e=.returned (.bool true) /\ Below w.heap.size w w')
  (h:K ⟨n,T,s,(d,.c (.val (.bool true)))::ts⟩):AO P U o ⟨n,T,s,ts⟩ K:=by
 intro a w hs KK QQ' hK
 obtain ⟨v0,-,hv0⟩:=hs.tm i0 _ hl
 unfold Oper.wp
 rw [show (execOp a.eval o).run P w=.ok (.enter F #[]) w from by
  simp only [execOp,ho,resolve,Deferred.ofValue,Act.eval,Sem.run_bind,Sem.run_pure,Result.andThen_ok,invoke]
  rw [hcf];simp,Oper.upon_enter]
 refine (hc w (bMx hv0)).mono ?_
 rintro en w' ⟨rfl,hb⟩
 dsimp only
 rw [hd]
 obtain ⟨hk,hm⟩:=aBl hs.mem hb
 have s1:=hs.step (st:=⟨n,T,s,ts⟩) T (hk.mono (by simp)) hm (fun b hb=>.inl hb)
 exact hK _ _ _ h (s1.put hn (dO.c _ _ (.val _ rfl))) ⟨hk.mono (by simp),hk.mono (by simp),fun b hb=>.inl hb,fun b hb=>.inl hb⟩ (hk.mono (by simp))
theorem bPa{P:Program}{F:FuncId}{fn:Func}{c:Code}(hf:P.funcs[F]?=some fn)(hb:fn.body=some c)(i:Nat)(hi:i<fn.ntmps){w:World}(he:bM9 w)
  (h:AWp P c ⟨fn.ntmps,[],⟨[],[]⟩,[(i,bK5 (.raw undef))]⟩ fun e st=>(e=.normal∨e=.ret) /\ ∃r s',aEt P fn st r /\ aAz st.s s' /\ r=.c (.val (.bool true)) /\ s'=⟨[],[]⟩):Calls P F #[] w fun e w'=>e=.returned (.bool true) /\ Below w.heap.size w w':=by
 have hm:Mem ⟨[],[]⟩ w:=⟨List.nodup_nil,(fun b hb=>absurd hb (by simp [Sto.bl])),(fun x hx=>absurd hx (by simp)),(fun x hx=>absurd hx (by simp))⟩
 refine calls_of_wp hf hb ?_
 refine h _ w ⟨rfl,?_,fun j t ht=>?_,hm⟩ _ ?_
 ·simp
 ·simp only [look] at ht
  split at ht
  ·rename_i hj;subst hj;cases ht
   exact ⟨undef,by simp [hi],bOr (.raw _) (he.up (bO6 w))⟩
  cases ht
 intro e a' w' st' q s' k
 obtain ⟨he,r,s2,hres,hsub,rfl,rfl⟩:=q
 obtain ⟨v,h1,h2⟩:=hres a' w' s'
 have hv:v=.bool true:=by cases h1 with|c _ _ h4=>cases h4;rfl
 subst hv
 have hk:=k.keepT
 rcases he with rfl|rfl
 ·exact ⟨s'.df,_,h2,rfl,⟨hk.os,hk.tape,hk.output,hk.size,fun j hj=>hk.block j hj (by simp)⟩⟩
 exact ⟨s'.df,_,h2,rfl,⟨hk.os,hk.tape,hk.output,hk.size,fun j hj=>hk.block j hj (by simp)⟩⟩
theorem bQk{k:Nat}{xs ys:List AC}(h:WkL xs ys):WkC (.sl k xs) (.sl k ys):=fun w v hr=>by
 cases hr with
 |sl _ _ us _ hra hul hu hcap=>
  have h9:=h.rep (us:=us) ⟨hul,hu⟩
  exact .sl k ys us _ hra h9.len h9.at_ hcap
end
section
open Go.RowKit
def bNa:cK:=⟨[],[⟨⟨#[97]⟩,false,0⟩],[⟨⟨#[109,97,105,110]⟩,[],[.mk 7 aK ⟨1,1,aK,[]⟩ ⟨aK,[]⟩ [] [] [.mk 9 aK ⟨0,0,aK,[]⟩ ⟨aK,[]⟩ [] [] []]]⟩]⟩
theorem bQh:jI bNa=true:=by kernel_rfl
theorem bQx:bytes (vI bNa)=⟨#[109,117,116,101,120,32,97,59,10,102,117,110,99,32,109,97,105,110,40,41,32,123,10,9,105,102,32,49,32,123,10,9,125,32,101,108,115,101,32,123,10,9,9,114,101,116,117,114,110,59,10,9,125,10,125,10]⟩:=by kernel_rfl
theorem bO2:bNa.sane:=by
 refine ⟨fun g hg=>(by cases hg),fun m hm=>?_,fun f hf=>?_⟩
 ·obtain rfl:m=_:=List.mem_singleton.1 hm
  exact ⟨by unfold fit;decide,by decide⟩
 obtain rfl:f=_:=List.mem_singleton.1 hf
 refine ⟨by decide,fun x hx=>(by cases hx),?_⟩
 have e:aK.size <= 4611686018427387904:=by decide
 have f0:fit 0:=by unfold fit;decide
 have f1:fit 1:=by unfold fit;decide
 simp only [gC,aJ.sane,aH.sane,cY.sane,iI,e,f0,f1,not_mem_nil,and_true,true_and,false_implies,implies_true,forall_const]
theorem bQ3:bNa.wt <= 9000000:=of_decide_eq_true (by kernel_rfl)
theorem bR1(s:Sto):aL prog 33 [.c (.sl bNa.funcs[0].body.length (bNa.funcs[0].body.flatMap encS))] [] s fun t s'=>t=.c (.val (.int .i64 2)) /\ s'=s:=
 bMy 2 _ (of_decide_eq_true (by kernel_rfl)) (by decide) s
theorem bSg(s:Sto):aL prog 32 [bK5 (.agg (jV bNa))] [] s fun t s'=>t=.c (.val (.bool true)) /\ s'=s:=by
 have h:=bOk bNa bO2 bQ3 s
 rw [bQh] at h;exact h
theorem bSi(s:Sto):aL prog 15 [bK5 (.agg (jV bNa))] [] s fun t s'=>t=.c (.val (.string ⟨#[109,117,116,101,120,32,97,59,10,102,117,110,99,32,109,97,105,110,40,41,32,123,10,9,105,102,32,49,32,123,10,9,125,32,101,108,115,101,32,123,10,9,9,114,101,116,117,114,110,59,10,9,125,10,125,10]⟩)) /\ s'=s:=by
 have h:=bNl bNa bO2 bQ3 s
 rw [bQx] at h;exact h
theorem bPi(w:World)(he:bM9 w):Calls prog 14 #[] w fun e w'=>e=.returned (.bool true) /\ Below w.heap.size w w':=by
 refine bPa func14 rfl 27 (Nat.le_of_ble_eq_true rfl) he ?_
 show AWp prog _ ⟨28,[],⟨[],[]⟩,[(27,bK5 (.raw undef))]⟩ _
 refine go 8 ?_
 refine wo rfl (bDk zb3 rfl (.cons rfl .nil) (r:=[.val (.string ⟨#[97]⟩),.val (.bool false),.val (.int .i64 0)]) rfl ?_)
 refine go 2 ?_
 refine wo rfl (bDk zb6 rfl (.cons rfl .nil) (r:=[.val (.int .i64 9),.val (.string ⟨#[]⟩),.val (.int .i64 0),.val (.int .i64 0),.val (.string ⟨#[]⟩),.val (.slice none 0 0),.val (.string ⟨#[]⟩),.val (.slice none 0 0),.val (.slice none 0 0),.val (.slice none 0 0),.val (.slice none 0 0)]) rfl ?_)
 refine go 1 ?_
 refine wo rfl (bDk zb6 rfl (.cons rfl .nil) (r:=[.val (.int .i64 7),.val (.string ⟨#[]⟩),.val (.int .i64 1),.val (.int .i64 1),.val (.string ⟨#[]⟩),.val (.slice none 0 0),.val (.string ⟨#[]⟩),.val (.slice none 0 0),.val (.slice none 0 0),.val (.slice none 0 0),(.sl 1 [.val (.int .i64 9),.val (.string ⟨#[]⟩),.val (.int .i64 0),.val (.int .i64 0),.val (.string ⟨#[]⟩),.val (.slice none 0 0),.val (.string ⟨#[]⟩),.val (.slice none 0 0),.val (.slice none 0 0),.val (.slice none 0 0),.val (.slice none 0 0)])]) rfl ?_)
 refine go 1 ?_
 refine wo rfl (bDk zb2 rfl (.cons rfl .nil) (r:=[.val (.string ⟨#[109,97,105,110]⟩),.val (.slice none 0 0),(.sl 1 [.val (.int .i64 7),.val (.string ⟨#[]⟩),.val (.int .i64 1),.val (.int .i64 1),.val (.string ⟨#[]⟩),.val (.slice none 0 0),.val (.string ⟨#[]⟩),.val (.slice none 0 0),.val (.slice none 0 0),.val (.slice none 0 0),(.sl 1 [.val (.int .i64 9),.val (.string ⟨#[]⟩),.val (.int .i64 0),.val (.int .i64 0),.val (.string ⟨#[]⟩),.val (.slice none 0 0),.val (.string ⟨#[]⟩),.val (.slice none 0 0),.val (.slice none 0 0),.val (.slice none 0 0),.val (.slice none 0 0)])])]) rfl ?_)
 refine go 1 ?_
 refine eA 11 rfl (Wk.agg (.n (.r (.cons (bQk (.r (.n (.cons (bQk (.r (.r (.r (.r (.r (.n (.r (.n (.n (.n (.cons (bQk (.r (.r (.r (.r (.r (.n (.r (.n (.n (.n (.n .nil)))))))))))) .nil)))))))))))) .nil)))) .nil))):Wk _ (.agg (jV bNa))) ?_
 refine go 7 fun b1=>?_
 refine wcR 27 rfl call32 rfl (bSg _) ?_
 refine go 2 ?_
 refine wcR 27 rfl call15 rfl (bSi _) ?_
 refine wyz rfl (aZ true rfl rfl rfl (by simp [oM])) ?_
 refine go 4 ?_
 refine wyz rfl (bH fV fV bNa.funcs vC (fun _=>rfl) 0 rfl rfl rfl rfl (by decide) (by decide) runUnderlying28 sizeOf58) ?_
 refine go 2 ?_
 refine wc1 rfl call33 rfl (bR1 _) ?_
 refine wcp true rfl (by simp [bC]) ?_
 refine go 5 ?_
 exact ⟨.inr rfl,_,⟨[],[]⟩,aR rfl (aF rfl),aA (List.nil_sublist _) (List.nil_sublist _),rfl,rfl⟩
end
section
open Go.RowKit
theorem bVk{P:Program}{w:World}(t u ty e:TypeId)(i:TypeInfo)(ht:P.underlying t=some (.slice e))(hu:P.underlying u=some .string)(hi:P.info? e=some i)(hs1:i.size=1)
  (g N C:Nat) (cur:Array Value) (fz:Nat×Nat) (hg:w.heap[g]?=some (.cells cur e fz)) (hfz:fz=(0,0)∨cur.size <= fz.1) (s:ByteArray) (hroom:N+s.size <= C) (hfit:N+s.size <= cur.size):
  (Builtin.append_ #[t,u] ty #[.slice (some ⟨g,0,none⟩) N C,.string s]).run P w=.ok (.slice (some ⟨g,0,none⟩) (N+s.size) C) (w.setRow g (cur.toList.take N++Lib.strCells s++cur.toList.drop (N+s.size)).toArray):=by
 have hf:=Lib.run_firstCells_string (P:=P) w 1 s
 have hst:=bGv P g N e fz (Lib.strCells s) 0 cur w hg hfz (by simpa [Lib.strCells_length] using hfit) (Lib.strCells_oneCell s)
 simp only [Nat.add_zero,Lib.strCells_length] at hst
 simp [Builtin.append_,run_underlying ht,run_underlying hu,sizeOf,typeInfo,hi,hs1,Builtin.lenOf,hroom,hf,Addr.add_lit,hst]
section
variable {P:Program}{U T:List Nat}{o:Oper}{n d:Nat}{ts:List (Nat×AT)}{K:AS -> Prop}{bx:List Box}{rw:List bA}
theorem bWa(w:World)(z:ByteArray):fG w (iF z.data.toList) (Lib.strCells z):=by
 have hR:=gU w (Lib.strCells z) (fun u hu=>by obtain ⟨c,_,rfl⟩:=List.mem_map.1 hu;rfl)
 have e1:(Lib.strCells z).map AC.val=iF z.data.toList:=by simp [Lib.strCells,iF]
 rw [e1] at hR;exact hR
theorem bVb{E E2 e:TypeId}{x y:Operand}{g C:Nat}{bs:List UInt8}{pad:List AC}{z:ByteArray}(i:TypeInfo)(ho:o.op=.call {callee:=.builtin .append,args:=#[x,y],argTypes:=#[E,E2]})(hd:o.dst=some d)(hn:d<n)
  (hx:evA ⟨n,T,⟨⟨g,e,iF bs++pad⟩::bx,rw⟩,ts⟩ x=some (.c (.val (.slice (some ⟨g,0,none⟩) bs.length C)))) (hy:evA ⟨n,T,⟨⟨g,e,iF bs++pad⟩::bx,rw⟩,ts⟩ y=some (.c (.val (.string z)))) (hu:P.underlying E=some (.slice e)) (hu2:P.underlying E2=some .string) (hi:P.info? e=some i) (hs1:i.size=1)
  (hpad:bs.length+pad.length=C) (hroom:bs.length+z.size <= C) (hT:g∈T) (hU:(⟨⟨g,e,iF bs++pad⟩::bx,rw⟩:Sto).bl.Nodup -> g∈U)
  (h:K ⟨n,T,⟨⟨g,e,iF (bs++z.data.toList)++pad.drop z.size⟩::bx,rw⟩,(d,.c (.val (.slice (some ⟨g,0,none⟩) (bs++z.data.toList).length C)))::ts⟩):AO P U o ⟨n,T,⟨⟨g,e,iF bs++pad⟩::bx,rw⟩,ts⟩ K:=by
 intro a w hs KK QQ hK
 obtain ⟨us,⟨fz,hfz,h1⟩,h2⟩:=hs.mem.box ⟨g,e,iF bs++pad⟩ (by simp)
 dsimp only at h1 h2 hfz
 have hl:us.length=C:=by rw [h2.len,length_append];unfold iF;rw [List.length_map];exact hpad
 have hzl:(Lib.strCells z).length=z.size:=Lib.strCells_length z
 have hzd:z.data.toList.length=z.size:=Array.length_toList
 have hrun:=bVk (P:=P) E E2 o.type e i hu hu2 hi hs1 g bs.length C us.toArray fz h1 (by simpa using hfz) z hroom (by simp;omega)
 have hsp:=h2.splice (bWa _ z) bs.length
 have hcs:splice (iF bs++pad) bs.length (iF z.data.toList)=iF (bs++z.data.toList)++pad.drop z.size:=by
  unfold splice iF
  rw [List.take_left' (by simp),List.drop_append,List.drop_of_length_le (by simp),List.map_append]
  simp [hzd]
 rw [hcs] at hsp
 have hk:=oI w g (us.take bs.length++Lib.strCells z++us.drop (bs.length+(Lib.strCells z).length)).toArray
 have hm:=hs.mem.setRow (A:=[]) (B:=bx) rfl hfz (by simp only [length_append,List.length_take,List.length_drop];omega) h1 hsp
 have hbl:(⟨⟨g,e,iF (bs++z.data.toList)++pad.drop z.size⟩::bx,rw⟩:Sto).bl=(⟨⟨g,e,iF bs++pad⟩::bx,rw⟩:Sto).bl:=by unfold Sto.bl;simp
 have hg:g∈(⟨⟨g,e,iF bs++pad⟩::bx,rw⟩:Sto).bl:=by unfold Sto.bl;simp
 unfold Oper.wp
 have hrun2:(execOp a.eval o).run P w=.ok (.value (.slice (some ⟨g,0,none⟩) (bs++z.data.toList).length C)) (w.setRow g (us.take bs.length++Lib.strCells z++us.drop (bs.length+(Lib.strCells z).length)).toArray):=by
  unfold execOp
  simp only [ho,resolve,invoke,builtin,Sem.run_bind,Sem.run_pure,Result.andThen_ok,List.map_toArray,List.map_cons,List.map_nil,hs.val hx,hs.val hy]
  rw [hrun,hzl]
  simp only [Result.andThen_ok,length_append,hzd]
 rw [hrun2,Oper.upon_value,hd]
 have s1:=hs.step (st:=⟨n,T,⟨⟨g,e,iF bs++pad⟩::bx,rw⟩,ts⟩) T (hk.mono (by simp;exact hg)) hm (fun b hb=>.inl (by rw [←hbl];exact hb))
 exact hK _ _ _ h (s1.put hn (.c _ _ (.val _ rfl))) ⟨hk.mono (by simp;exact hg),hk.mono (by simp;exact hT),fun b hb=>.inl (by rw [←hbl];exact hb),fun b hb=>.inl hb⟩ (hk.mono (by simp;exact hU hs.mem.nodup))
theorem bVa{E E2 e:TypeId}{x y:Operand}{g C:Nat}{bs:List UInt8}{pad:List AC}{z:ByteArray}(i:TypeInfo)(ho:o.op=.call {callee:=.builtin .append,args:=#[x,y],argTypes:=#[E,E2]})(hd:o.dst=some d)(hn:d<n)
  (hx:evA ⟨n,T,⟨⟨g,e,iF bs++pad⟩::bx,rw⟩,ts⟩ x=some (.c (.val (.slice (some ⟨g,0,none⟩) bs.length C)))) (hy:evA ⟨n,T,⟨⟨g,e,iF bs++pad⟩::bx,rw⟩,ts⟩ y=some (.c (.val (.string z)))) (hu:P.underlying E=some (.slice e)) (hu2:P.underlying E2=some .string) (hi:P.info? e=some i) (hz:i.zero=some (.int .u8 0)) (hs1:i.size=1) (hby:i.bytes=1)
  (hgrow:C<bs.length+z.size) (hlen:bs.length+z.size <= 140737488355328)
  (h:∀v',K ⟨n,aY v'++T,⟨bx,⟨v',e,1,(bs++z.data.toList).length,iF (bs++z.data.toList)⟩::rw⟩,(d,.c (.val v'))::ts⟩):AO P U o ⟨n,T,⟨⟨g,e,iF bs++pad⟩::bx,rw⟩,ts⟩ K:=by
 intro a w hs KK QQ hK
 obtain ⟨us,⟨fz,hfz,h1⟩,h2⟩:=hs.mem.box ⟨g,e,iF bs++pad⟩ (by simp)
 dsimp only at h1 h2 hfz
 have hl:us.length=bs.length+pad.length:=by rw [h2.len,length_append];unfold iF;rw [List.length_map]
 have hzd:z.data.toList.length=z.size:=Array.length_toList
 have hxs:us.take bs.length=cC bs:=by
  refine yC (w:=bI (⟨⟨g,e,iF bs++pad⟩::bx,rw⟩:Sto).bl w) (vs:=cC bs) ?_
  rw [show (cC bs).map AC.val=iF bs by simp [cC,iF]]
  have hsl:(iF bs).length=bs.length:=by simp [iF]
  refine ⟨by rw [List.length_take,hsl];omega,fun j hj hj'=>?_⟩
  have hj2:j<bs.length:=by omega
  have h9:=h2.at_ j (by rw [length_append,hsl];omega) (by omega)
  rw [List.getElem_append_left (by omega)] at h9
  rw [List.getElem_take];exact h9
 have hxl:(cC bs).length=bs.length:=by simp [cC]
 have hcell:∀j u,(cC bs)[j]?=some u -> w.cell? ((⟨g,0,none⟩:Addr).add j)=some u:=fun j u hj=>by
  have hjl:j<bs.length:=by have:=(List.getElem?_eq_some_iff.1 hj).1;omega
  rw [←hxs,List.getElem?_take,if_pos hjl] at hj
  have e1:(⟨g,0,none⟩:Addr).add j=⟨g,j,none⟩:=by unfold Addr.add;split<;>simp_all
  rw [e1]
  unfold World.cell?
  simp only [h1,Nat.zero_add,List.getElem?_toArray]
  exact hj
 have hrun:=Lib.run_append_grow_string (P:=P) w E E2 o.type e i (.int .u8 0) hu hu2 hi hz ⟨g,0,none⟩ bs.length C (cC bs) (by rw [hs1,hxl,Nat.mul_one]) hcell z hgrow (by omega) (by rw [hby];exact growslice_fits (by omega) (by omega))
 have hmax:bs.length+z.size <= maxLen:=by unfold maxLen;omega
 have hge:=grownCap_ge w (bs.length+z.size) C e
 have hcm:=grownCap_le_maxLen w (bs.length+z.size) C e hmax
 generalize hC:grownCap w (bs.length+z.size) C e=C' at hrun hge hcm
 have hrow:(w.drew.alloc (.cells ((cC bs).toArray++(Lib.strCells z).toArray++Builtin.zeroCells (Value.int .u8 0).cells (C'-(bs.length+z.size))) e)).ownsRow 0 e 1 (.slice (some ⟨w.heap.size,0,none⟩) (bs++z.data.toList).length C') (bs++z.data.toList).length (cC bs++Lib.strCells z):=by
  have hN:(bs++z.data.toList).length=bs.length+z.size:=by rw [length_append,hzd]
  rw [hN]
  have hll:(cC bs++Lib.strCells z).length=(bs.length+z.size)*1:=by rw [length_append,hxl,Lib.strCells_length,Nat.mul_one]
  refine ⟨hll,.inr ⟨w.heap.size,C',_,rfl,Nat.zero_le _,heap_alloc_new w.drew _,hge,hcm,?_,?_⟩⟩
  ·have hz1:(Value.int IntKind.u8 0).cells.size=1:=rfl
   simp only [Array.size_append,List.size_toArray,size_zeroCells,hz1,hxl,Lib.strCells_length]
   omega
  simp only [Array.toList_append,append_assoc]
  rw [←append_assoc,←hll]
  exact List.take_left
 generalize hw1:w.drew.alloc (.cells ((cC bs).toArray++(Lib.strCells z).toArray++Builtin.zeroCells (Value.int .u8 0).cells (C'-(bs.length+z.size))) e)=w1 at hrun hrow
 have hk:cW [] w w1:=by rw [←hw1];exact (cW.refl _ _).drew.alloc _
 have hsz:w1.heap.size=w.heap.size+1:=by rw [←hw1];show (w.heap.push _).size=_;simp
 have hm0:Mem ⟨bx,rw⟩ w:=((aA (s:=⟨⟨g,e,iF bs++pad⟩::bx,rw⟩) (s':=⟨bx,rw⟩) (List.Sublist.cons _ (List.Sublist.refl _)) (List.Sublist.refl _)) w hs.mem).1
 have hsub0:∀b,b∈(⟨bx,rw⟩:Sto).bl -> b∈(⟨⟨g,e,iF bs++pad⟩::bx,rw⟩:Sto).bl:=fun b hb=>by
  unfold Sto.bl at hb⊢
  rw [List.map_cons,List.cons_append];exact List.mem_cons_of_mem _ hb
 have hmem1:∀b,b∈(⟨bx,⟨.slice (some ⟨w.heap.size,0,none⟩) (bs++z.data.toList).length C',e,1,(bs++z.data.toList).length,iF (bs++z.data.toList)⟩::rw⟩:Sto).bl -> b∈(⟨bx,rw⟩:Sto).bl∨b=w.heap.size:=fun b hb=>by
  unfold Sto.bl at hb⊢
  simp only [List.flatMap_cons,aY,Value.ownBlock,Option.toList,mem_append,mem_cons,not_mem_nil,or_false] at hb⊢
  rcases hb with h|h|h
  ·exact .inl (.inl h)
  ·exact .inr h
  exact .inl (.inr h)
 have hne:w.heap.size∉(⟨bx,rw⟩:Sto).bl:=fun hm=>Nat.lt_irrefl _ (hm0.lt _ hm)
 have hsub:∀b,b∈(⟨bx,⟨.slice (some ⟨w.heap.size,0,none⟩) (bs++z.data.toList).length C',e,1,(bs++z.data.toList).length,iF (bs++z.data.toList)⟩::rw⟩:Sto).bl -> b∈(⟨bx,rw⟩:Sto).bl∨w.heap.size <= b:=fun b hb=>(hmem1 b hb).imp id (fun h=>by omega)
 have hup:=jA (bl:=(⟨bx,rw⟩:Sto).bl) hk (fun _ h=>by cases h) hsub
 obtain ⟨m1,m2⟩:=hm0.up hup (fun b hb=>hk.block b (hm0.lt b hb) (by simp))
 have hm:Mem ⟨bx,⟨.slice (some ⟨w.heap.size,0,none⟩) (bs++z.data.toList).length C',e,1,(bs++z.data.toList).length,iF (bs++z.data.toList)⟩::rw⟩ w1:=by
  refine ⟨?_,fun b hb=>?_,m1,fun r hr=>?_⟩
  ·have hnd:=hm0.nodup
   unfold Sto.bl at hnd hne⊢
   simp only [List.flatMap_cons,aY,Value.ownBlock,Option.toList] at hnd hne⊢
   have hp:(bx.map Box.b++([w.heap.size]++rw.flatMap fun r=>aY r.v)).Perm (w.heap.size::(bx.map Box.b++rw.flatMap fun r=>aY r.v)):=List.perm_middle
   exact hp.nodup_iff.2 (List.nodup_cons.2 ⟨hne,hnd⟩)
  ·rcases hmem1 b hb with h|h
   ·exact Nat.lt_of_lt_of_le (hm0.lt b h) hk.size
   omega
  rcases mem_cons.1 hr with rfl|hr
  ·refine ⟨_,.inl hrow,?_⟩
   have h9:=gU (bI (⟨bx,⟨.slice (some ⟨w.heap.size,0,none⟩) (bs++z.data.toList).length C',e,1,(bs++z.data.toList).length,iF (bs++z.data.toList)⟩::rw⟩:Sto).bl w1) (cC bs++Lib.strCells z) (fun u hu=>by
    rcases mem_append.1 hu with hu|hu
    ·obtain ⟨c,_,rfl⟩:=List.mem_map.1 hu;rfl
    obtain ⟨c,_,rfl⟩:=List.mem_map.1 hu;rfl)
   rw [show (cC bs++Lib.strCells z).map AC.val=iF (bs++z.data.toList) by simp [cC,Lib.strCells,iF];rfl] at h9
   exact h9
  exact m2 r hr
 unfold Oper.wp
 have hrun2:(execOp a.eval o).run P w=.ok (.value (.slice (some ⟨w.heap.size,0,none⟩) (bs++z.data.toList).length C')) w1:=by
  unfold execOp
  simp only [ho,resolve,invoke,builtin,Sem.run_bind,Sem.run_pure,Result.andThen_ok,List.map_toArray,List.map_cons,List.map_nil,hs.val hx,hs.val hy]
  rw [hrun]
  simp only [Result.andThen_ok,length_append,hzd]
 rw [hrun2,Oper.upon_value,hd]
 have hsubF:∀b,b∈(⟨bx,⟨.slice (some ⟨w.heap.size,0,none⟩) (bs++z.data.toList).length C',e,1,(bs++z.data.toList).length,iF (bs++z.data.toList)⟩::rw⟩:Sto).bl -> b∈(⟨⟨g,e,iF bs++pad⟩::bx,rw⟩:Sto).bl∨w.heap.size <= b:=fun b hb=>(hsub b hb).imp (hsub0 b) id
 have s1:=hs.step (st:=⟨n,T,⟨⟨g,e,iF bs++pad⟩::bx,rw⟩,ts⟩) (aY (.slice (some ⟨w.heap.size,0,none⟩) (bs++z.data.toList).length C')++T) (hk.mono (by simp)) hm hsubF
 refine hK _ _ _ (h _) (s1.put hn (.c _ _ (.val _ rfl))) ⟨hk.mono (by simp),hk.mono (by simp),hsubF,fun b hb=>?_⟩ (hk.mono (by simp))
 rcases mem_append.1 hb with hb|hb
 ·simp only [aY,Value.ownBlock,Option.toList,mem_cons,not_mem_nil,or_false] at hb
  exact .inr (by omega)
 exact .inl hb
theorem bV5{E E' e:TypeId}{x:Operand}{b:ByteArray}(ho:o.op=.convert E E' x)(hd:o.dst=some d)(hn:d<n)(hx:evA ⟨n,T,⟨bx,rw⟩,ts⟩ x=some (.c (.val (.string b))))(hE:P.underlying E=some .string)(hE':P.underlying E'=some (.slice e))(he:P.underlying e=some (.int .u8))(hb:b.size<9223372036854775808){N:Nat}{cs:List AC}(hN:b.size=N)(hcs:iF b.data.toList=cs)
  (h:∀g C pad,N <= C -> C <= 9223372036854775807 -> N+pad.length=C -> K ⟨n,g::T,⟨⟨g,e,cs++pad⟩::bx,rw⟩,(d,.c (.val (.slice (some ⟨g,0,none⟩) N C)))::ts⟩):AO P U o ⟨n,T,⟨bx,rw⟩,ts⟩ K:=by
 subst hN;subst hcs
 intro a w hs KK QQ hK
 obtain ⟨C,hC⟩:∃C,C=grownCap w b.size 0 e:=⟨_,rfl⟩
 obtain ⟨g1,g2⟩:=grownCap_le w b.size e hb
 have hrun:(execOp a.eval o).run P w=.ok (.value (.slice (some ⟨w.heap.size,0,none⟩) b.size C)) (w.drew.alloc (.cells (bytesRow b C) e ((bytesRow b C).size,(bytesRow b C).size+1))):=by
  subst hC
  simp only [execOp,ho,Sem.run_bind,hs.val hx]
  rw [run_bytes_of_string w E E' e b hE hE' he];rfl
 rw [←hC] at g1 g2
 clear hC
 unfold Oper.wp
 rw [hrun,Oper.upon_value,hd]
 obtain ⟨L,hL⟩:∃L,L=cC b.data.toList++List.replicate (C-b.size) (Value.int .u8 0):=⟨_,rfl⟩
 have hLa:bytesRow b C=L.toArray:=by subst hL;unfold bytesRow;apply Array.toList_inj.1;simp [cC]
 rw [hLa]
 generalize hw1:w.drew.alloc (.cells L.toArray e (L.toArray.size,L.toArray.size+1))=w1
 have hk:cW [] w w1:=by rw [←hw1];exact (cW.refl _ _).drew.alloc _
 have hsz:w1.heap.size=w.heap.size+1:=by rw [←hw1];show (w.heap.push _).size=_;simp
 have hR:fG (bI (⟨⟨w.heap.size,e,iF b.data.toList++List.replicate (C-b.size) (.val (.int .u8 0))⟩::bx,rw⟩:Sto).bl w1) (iF b.data.toList++List.replicate (C-b.size) (.val (.int .u8 0))) L:=by
  have h9:=gU (bI (⟨⟨w.heap.size,e,iF b.data.toList++List.replicate (C-b.size) (.val (.int .u8 0))⟩::bx,rw⟩:Sto).bl w1) L (fun u hu=>by
   subst hL
   rcases mem_append.1 hu with hu|hu
   ·obtain ⟨c,_,rfl⟩:=List.mem_map.1 hu;rfl
   rw [List.eq_of_mem_replicate hu];rfl)
  have e1:L.map AC.val=iF b.data.toList++List.replicate (C-b.size) (.val (.int .u8 0)):=by subst hL;simp [cC,iF]
  rw [e1] at h9
  exact h9
 have hbl:(⟨⟨w.heap.size,e,iF b.data.toList++List.replicate (C-b.size) (.val (.int .u8 0))⟩::bx,rw⟩:Sto).bl=w.heap.size::(⟨bx,rw⟩:Sto).bl:=by unfold Sto.bl;simp
 have hsub:∀b',b'∈(⟨⟨w.heap.size,e,iF b.data.toList++List.replicate (C-b.size) (.val (.int .u8 0))⟩::bx,rw⟩:Sto).bl -> b'∈(⟨bx,rw⟩:Sto).bl∨w.heap.size <= b':=fun b' hb'=>by
  rw [hbl] at hb'
  rcases mem_cons.1 hb' with rfl|h
  ·exact .inr (Nat.le_refl _)
  exact .inl h
 have hup:Up2 (bI (⟨bx,rw⟩:Sto).bl w) (bI (⟨⟨w.heap.size,e,iF b.data.toList++List.replicate (C-b.size) (.val (.int .u8 0))⟩::bx,rw⟩:Sto).bl w1):=jA hk (fun _ h=>by cases h) hsub
 obtain ⟨m1,m2⟩:=hs.mem.up hup (fun b' hb'=>hk.block b' (hs.mem.lt b' hb') (by simp))
 have hne:w.heap.size∉(⟨bx,rw⟩:Sto).bl:=fun hm=>by have h9:w.heap.size<w.heap.size:=hs.mem.lt _ hm;omega
 have hm:Mem ⟨⟨w.heap.size,e,iF b.data.toList++List.replicate (C-b.size) (.val (.int .u8 0))⟩::bx,rw⟩ w1:=by
  refine ⟨by rw [hbl];exact List.nodup_cons.2 ⟨hne,hs.mem.nodup⟩,fun b' hb'=>?_,fun x hx=>?_,m2⟩
  ·rw [hbl] at hb'
   rcases mem_cons.1 hb' with rfl|h
   ·omega
   exact Nat.lt_of_lt_of_le (hs.mem.lt _ h) hk.size
  rcases mem_cons.1 hx with rfl|hx
  ·refine ⟨L,⟨(L.toArray.size,L.toArray.size+1),.inr (by simp),?_⟩,hR⟩
   rw [←hw1]
   show (w.heap.push _)[w.heap.size]?=_
   simp
  exact m1 x hx
 have s1:=hs.step (st:=⟨n,T,⟨bx,rw⟩,ts⟩) (w1:=w1) (w.heap.size::T) (hk.mono (by simp)) hm hsub
 refine hK _ _ _ (h w.heap.size C (List.replicate (C-b.size) (.val (.int .u8 0))) g1 g2 (by rw [List.length_replicate];omega)) (s1.put hn (.c _ _ (.val _ rfl))) ⟨hk.mono (by simp),hk.mono (by simp),hsub,fun b' hb'=>?_⟩ (hk.mono (by simp))
 rcases mem_cons.1 hb' with rfl|h
 ·exact .inr (Nat.le_refl _)
 exact .inl h
end
end
section
open Go.RowKit
theorem bWf{L M:List Tok}(h:M.map Tok.pt=L.map Tok.pt):M.length=L.length /\ ∀k (h1:k<L.length) (h2:k<M.length),L[k].kind=M[k].kind /\ L[k].text=M[k].text /\ L[k].num=M[k].num:=by
 have hl:M.length=L.length:=by have:=congrArg List.length h;simpa using this
 refine ⟨hl,fun k h1 h2=>?_⟩
 have h3:(M.map Tok.pt)[k]'(by simpa using h2)=(L.map Tok.pt)[k]'(by simpa using h1):=by simp only [h]
 rw [List.getElem_map,List.getElem_map] at h3
 unfold Tok.pt at h3
 simp only [PT.mk.injEq] at h3
 exact ⟨h3.1.symm,h3.2.1.symm,h3.2.2.symm⟩
theorem bU8(L M:List Tok)(hl:L.length <= 100000)(h:M.map Tok.pt=L.map Tok.pt)(s:Sto):aL prog 18 [.c (.sl L.length (L.flatMap aW)),.c (.sl M.length (M.flatMap aW)),.c (.val (.bool false))] [] s fun t s'=>t=.c (.val (.bool true)) /\ s'=s:=by
 obtain ⟨bx,rw⟩:=s
 obtain ⟨hlm,hpt⟩:=bWf h
 refine acB func18 rfl ?_
 show AWp prog _ ⟨72,_,⟨bx,rw⟩,[(0,.c (.sl L.length (L.flatMap aW))),(1,.c (.sl M.length (M.flatMap aW))),(2,.c (.val (.bool false)))]⟩ _
 refine go 12 ?_
 refine wcp false rfl (xG (by omega)) ?_
 refine go 12 ?_
 refine oC (L.length) 7 (fun k=>[(0,.c (.sl L.length (L.flatMap aW))),(1,.c (.sl M.length (M.flatMap aW))),(2,.c (.val (.bool false)))]) (sA rfl) fun k hk=>?_
 show AWp prog _ ⟨72,_,_,(7,nI k)::[(0,.c (.sl L.length (L.flatMap aW))),(1,.c (.sl M.length (M.flatMap aW))),(2,.c (.val (.bool false)))]⟩ _
 refine go 6 ?_
 by_cases h2:((k:Nat):Int)<((L.length:Nat):Int)
 ·refine wcp true rfl (jZ h2) ?_
  refine go 8 ?_
  have hkL:k<L.length:=by omega
  have hkM:k<M.length:=by omega
  obtain ⟨e1,e2,e3⟩:=hpt k hkL hkM
  refine aB [] (by kernel_rfl) ?_
  refine tks [(0,true),(1,true)] 51 (by kernel_rfl) ?_
  refine go 3 ?_
  refine tr 2 (by kernel_rfl) rfl (bH aW aW L bJ (fun _=>rfl) k rfl rfl rfl rfl (by omega) (by decide) runUnderlying36 sizeOf66) ?_
  refine tks [(3,true),(4,true),(5,true),(6,true)] 46 (by kernel_rfl) ?_
  refine go 5 ?_
  refine tr 7 (by kernel_rfl) rfl (bH aW aW M bJ (fun _=>rfl) k rfl rfl rfl rfl (by omega) (by decide) runUnderlying36 sizeOf66) ?_
  refine tks [(8,true),(9,true)] 43 (by kernel_rfl) ?_
  refine go 3 ?_
  refine tr 10 (by kernel_rfl) rfl (bO false rfl rfl rfl (xG (by omega))) ?_
  refine tks [(11,true),(12,true),(13,true)] 39 (by kernel_rfl) ?_
  refine go 4 ?_
  refine tr 14 (by kernel_rfl) rfl (bH aW aW L bJ (fun _=>rfl) k rfl rfl rfl rfl (by omega) (by decide) runUnderlying36 sizeOf66) ?_
  refine tks [(15,true),(16,true),(17,true),(18,true)] 34 (by kernel_rfl) ?_
  refine go 5 ?_
  refine tr 19 (by kernel_rfl) rfl (bH aW aW M bJ (fun _=>rfl) k rfl rfl rfl rfl (by omega) (by decide) runUnderlying36 sizeOf66) ?_
  refine tks [(20,true),(21,true)] 31 (by kernel_rfl) ?_
  refine go 3 ?_
  refine tr 22 (by kernel_rfl) rfl (aZ false rfl rfl rfl (aMz e2)) ?_
  refine tks [(23,true),(24,true),(25,true),(26,true)] 26 (by kernel_rfl) ?_
  refine go 5 ?_
  refine tr 27 (by kernel_rfl) rfl (bH aW aW L bJ (fun _=>rfl) k rfl rfl rfl rfl (by omega) (by decide) runUnderlying36 sizeOf66) ?_
  refine tks [(28,true),(29,true),(30,true),(31,true)] 21 (by kernel_rfl) ?_
  refine go 5 ?_
  refine tr 32 (by kernel_rfl) rfl (bH aW aW M bJ (fun _=>rfl) k rfl rfl rfl rfl (by omega) (by decide) runUnderlying36 sizeOf66) ?_
  refine tks [(33,true),(34,true)] 18 (by kernel_rfl) ?_
  refine go 3 ?_
  refine tr 35 (by kernel_rfl) rfl (bO false rfl rfl rfl (xG (by omega))) ?_
  refine tks [(36,true),(37,true),(38,true),(39,true),(40,true),(41,true),(42,true),(43,true),(44,true),(45,true),(46,true),(47,true),(48,true),(49,true),(50,true),(51,true),(52,true)] 0 (by kernel_rfl) ?_
  refine go 18 ?_
  refine aE (by kernel_rfl) ?_
  refine go 7 ?_
  refine wad rfl ?_
  refine go 2 ?_
  exact ⟨by omega,(aG rfl (gQ (by omega)) (sA rfl))⟩
 refine wcp false rfl (jQ h2) ?_
 refine go 14 ?_
 exact bHe (s':=⟨bx,rw⟩) rfl sb0 ⟨cX rfl,rfl⟩
end
section
inductive eT (names:List ByteArray):Nat -> aH -> Prop
 |name {d:Nat} {x:ByteArray} (h:x∈names):eT names d (.mk 2 0 x [])
 |num {d:Nat} {n:Int} (h0:0 <= n) (h1:n<4611686018427387904):eT names d (.mk 1 n aK [])
 |un {d:Nat} {op:Int} {e:aH} (ho:op=3∨op=4) (he:eT names d e):eT names (d+1) (.mk op 0 aK [e])
 |bin {d:Nat} {op:Int} {a b:aH} (h0:5 <= op) (h1:op <= 17) (ha:eT names d a) (hb:eT names d b):eT names (d+1) (.mk op 0 aK [a,b])
theorem eT.mono{names:List ByteArray}{d d':Nat}{e:aH}(h:eT names d e)(hd:d <= d'):eT names d' e:=by
 induction h generalizing d' with
 |name h=>exact .name h
 |num h0 h1=>exact .num h0 h1
 |@un d op e ho he ih=>
  obtain ⟨k,rfl⟩:∃k,d'=k+1:=⟨d'-1,by omega⟩
  exact .un ho (ih (by omega))
 |@bin d op a b h0 h1 ha hb iha ihb=>
  obtain ⟨k,rfl⟩:∃k,d'=k+1:=⟨d'-1,by omega⟩
  exact .bin h0 h1 (iha (by omega)) (ihb (by omega))
inductive uA (ms:List cL) (ps:List aS) (vars:List ByteArray):cY -> Prop
 |arr {m:cL} {e:aH} (hm:m∈ms) (hs:0<m.size) (he:eT vars 1 e):uA ms ps vars ⟨m.name,[e]⟩
 |scalar {m:cL} (hm:m∈ms) (hs:m.size <= 0):uA ms ps vars ⟨m.name,[]⟩
 |param {x:aS} (hx:x∈ps) (hm:x.mutex=true):uA ms ps vars ⟨x.name,[]⟩
inductive nB (ms:List cL) (ps:List aS) (vars:List ByteArray):List aS -> List eN -> Prop
 |nil:nB ms ps vars [] []
 |mutex {x:aS} {l:List aS} {asl:List eN} {r:cY} (hx:x.mutex=true) (hr:uA ms ps vars r) (h:nB ms ps vars l asl):nB ms ps vars (x::l) (⟨true,r,.zero⟩::asl)
 |expr {x:aS} {l:List aS} {asl:List eN} {e:aH} (hx:x.mutex=false) (he:eT vars 2 e) (h:nB ms ps vars l asl):nB ms ps vars (x::l) (⟨false,.zero,e⟩::asl)
def cM(left:Nat):ByteArray:=bytes [118,UInt8.ofNat (97+left%26),UInt8.ofNat (97+left/26%26)]
abbrev Sig:=ByteArray×List aS
inductive dJ (ms:List cL) (fs:List Sig) (ps:List aS):List ByteArray -> Nat -> Nat -> List aJ -> Nat -> Prop
 |nil {vars:List ByteArray} {deep left:Nat}:dJ ms fs ps vars deep left [] left
 |lock {vars:List ByteArray} {deep left left':Nat} {r:cY} {rest:List aJ} (hr:uA ms ps vars r) (h:dJ ms fs ps vars deep left rest left'):
   dJ ms fs ps vars deep (left+1) (.mk 5 aK .zero r [] [] []::rest) left'
 |unlock {vars:List ByteArray} {deep left left':Nat} {r:cY} {rest:List aJ} (hr:uA ms ps vars r) (h:dJ ms fs ps vars deep left rest left'):
   dJ ms fs ps vars deep (left+1) (.mk 6 aK .zero r [] [] []::rest) left'
 |var {vars:List ByteArray} {deep left left':Nat} {e:aH} {rest:List aJ} (he:eT vars 2 e) (h:dJ ms fs ps (vars++[cM left]) deep left rest left'):
   dJ ms fs ps vars deep (left+1) (.mk 1 (cM left) e .zero [] [] []::rest) left'
 |assign {vars:List ByteArray} {deep left left':Nat} {x:ByteArray} {e:aH} {rest:List aJ} (hx:x∈vars) (he:eT vars 2 e) (h:dJ ms fs ps vars deep left rest left'):
   dJ ms fs ps vars deep (left+1) (.mk 2 x e .zero [] [] []::rest) left'
 |call {vars:List ByteArray} {deep left left':Nat} {k:Int} {g:Sig} {asl:List eN} {rest:List aJ} (hk:k=3∨k=4) (hg:g∈fs) (ha:nB ms ps vars g.2 asl) (h:dJ ms fs ps vars deep left rest left'):
   dJ ms fs ps vars deep (left+1) (.mk k g.1 .zero .zero asl [] []::rest) left'
 |cond {vars:List ByteArray} {deep left l1 l2 left':Nat} {e:aH} {thn els rest:List aJ} (he:eT vars 2 e) (ht:dJ ms fs ps vars deep left thn l1) (hel:dJ ms fs ps vars deep l1 els l2) (h:dJ ms fs ps vars (deep+1) l2 rest left'):
   dJ ms fs ps vars (deep+1) (left+1) (.mk 7 aK e .zero [] thn els::rest) left'
 |loop {vars:List ByteArray} {deep left l1 left':Nat} {e:aH} {thn rest:List aJ} (he:eT vars 2 e) (ht:dJ ms fs ps vars deep left thn l1) (h:dJ ms fs ps vars (deep+1) l1 rest left'):
   dJ ms fs ps vars (deep+1) (left+1) (.mk 8 aK e .zero [] thn []::rest) left'
 |ret {vars:List ByteArray} {deep left left':Nat} {rest:List aJ} (h:dJ ms fs ps vars deep left rest left'):
   dJ ms fs ps vars deep (left+1) (.mk 9 aK .zero .zero [] [] []::rest) left'
 |pair {vars:List ByteArray} {deep left l1 left':Nat} {r:cY} {mid rest:List aJ} (hr:uA ms ps vars r) (hm:dJ ms fs ps vars 0 left mid l1) (h:dJ ms fs ps vars deep l1 rest left'):
   dJ ms fs ps vars deep (left+1) (.mk 5 aK .zero r [] [] []::(mid++.mk 6 aK .zero r [] [] []::rest)) left'
theorem dJ.le{ms:List cL}{fs:List Sig}{ps:List aS}{vars:List ByteArray}{deep left left':Nat}{l:List aJ}(h:dJ ms fs ps vars deep left l left'):left' <= left:=by
 induction h<;>omega
def pM(l:List aS):Prop:=l.length <= 2 /\ ∀k (h:k<l.length),l[k].name=bytes [112,UInt8.ofNat (48+(l.length-k))]
def aMn(i:Nat)(f:bS):Prop:=(i=0 -> f.name=bytes [109,97,105,110] /\ f.params=[]) /\ (0<i -> f.name=bytes [102,UInt8.ofNat (48+i)]) /\ pM f.params
def uS(gs:List aI)(ps:List aS):List ByteArray:=gs.map aI.name++(ps.filter fun x=>!x.mutex).map aS.name
inductive kZ (ms:List cL) (fs:List Sig) (gs:List aI):Nat -> List bS -> Prop
 |nil {left:Nat}:kZ ms fs gs left []
 |cons {left left':Nat} {f:bS} {l:List bS} (h:dJ ms fs f.params (uS gs f.params) 2 left f.body left') (hl:kZ ms fs gs left' l):kZ ms fs gs left (f::l)
end
section
theorem dV{s:ByteArray}(h:bQ s=true):s.size <= 16:=by
 unfold bQ at h
 split at h
 ·cases h
 simp only [Bool.and_eq_true,decide_eq_true_eq] at h;exact h.1.2
theorem eT.nodes{names:List ByteArray}{d:Nat}{e:aH}(h:eT names d e):e.nodes+3 <= 4*2 ^ d:=by
 induction h with
 |@name d x h=>rw [aH.nodes,cZ];have:=Nat.one_le_two_pow (n:=d);omega
 |@num d n h0 h1=>rw [aH.nodes,cZ];have:=Nat.one_le_two_pow (n:=d);omega
 |@un d op e ho he ih=>rw [aH.nodes,cZ,cZ,Nat.pow_succ];have:=Nat.one_le_two_pow (n:=d);omega
 |@bin d op a b h0 h1 ha hb iha ihb=>rw [aH.nodes,cZ,cZ,cZ,Nat.pow_succ];have:=Nat.one_le_two_pow (n:=d);omega
theorem eT.tame{names:List ByteArray}{d:Nat}{e:aH}(hn:∀x,x∈names -> bQ x=true)(h:eT names d e):e.tame:=by
 induction h with
 |@name d x h=>rw [aH.tame];exact ⟨by decide,Nat.le_trans (dV (hn x h)) (by decide),by rw [oG];trivial⟩
 |@num d n h0 h1=>rw [aH.tame];exact ⟨by omega,by decide,by rw [oG];trivial⟩
 |@un d op e ho he ih=>rw [aH.tame];exact ⟨by decide,by decide,by rw [oG,oG];exact ⟨ih,trivial⟩⟩
 |@bin d op a b h0 h1 ha hb iha ihb=>rw [aH.tame];exact ⟨by decide,by decide,by rw [oG,oG,oG];exact ⟨iha,ihb,trivial⟩⟩
theorem sX{op:Int}(h0:5 <= op)(h1:op <= 17):aM op<5:=by
 unfold aM
 repeat' split
 all_goals omega
theorem aDj{op:Int}(h:op=3∨op=4):aM op=5:=by
 rcases h with rfl|rfl<;>rfl
theorem eT.shape{names:List ByteArray}{d:Nat}{e:aH}(hn:∀x,x∈names -> bQ x=true)(h:eT names d e):eO e=true:=by
 induction h with
 |@name d x h=>
  rw [eO,dY,show aM 2=6 from rfl,if_pos rfl,jG,arity,show aM 2=6 from rfl,if_pos rfl,hn x h];simp
 |@num d n h0 h1=>
  rw [eO,dY,show aM 1=6 from rfl,if_pos rfl,jG,arity,show aM 1=6 from rfl,if_pos rfl];simp [h0]
 |@un d op e ho he ih=>
  have hs:=aDj ho
  rw [eO,dY,dY,arity,hs,if_neg (by decide),if_neg (by decide),if_pos rfl,ih];simp
 |@bin d op a b h0 h1 ha hb iha ihb=>
  have hs:=sX h0 h1
  rw [eO,dY,dY,dY,arity,if_neg (by omega),if_neg (by omega),if_neg (by omega),iha,ihb];simp
theorem eT.height{names:List ByteArray}{d:Nat}{e:aH}(h:eT names d e):dI e <= 2*d:=by
 induction h with
 |@name d x h=>rw [dI,bSm,if_neg (by decide)];omega
 |@num d n h0 h1=>rw [dI,bSm,if_neg (by decide)];omega
 |@un d op e ho he ih=>rw [dI,bSm,bSm];split<;>split<;>omega
 |@bin d op a b h0 h1 ha hb iha ihb=>rw [dI,bSm,bSm,bSm];split<;>split<;>split<;>omega
theorem eT.valid{names:List ByteArray}{d:Nat}{e:aH}(hn:∀x,x∈names -> bQ x=true)(h:eT names d e)(hd:d <= 12):dM e=true:=by
 rw [dM,h.shape hn,Bool.true_and,decide_eq_true_eq];have:=h.height;omega
theorem eT.sane{names:List ByteArray}{d:Nat}{e:aH}(hn:∀x,x∈names -> bQ x=true)(h:eT names d e):e.sane:=by
 induction h with
 |@name d x h=>rw [aH.sane];exact ⟨by unfold fit;omega,Nat.le_trans (dV (hn x h)) (by decide),by rw [iI];trivial⟩
 |@num d n h0 h1=>rw [aH.sane];exact ⟨by unfold fit;omega,by decide,by rw [iI];trivial⟩
 |@un d op e ho he ih=>rw [aH.sane];exact ⟨by unfold fit;omega,by decide,by rw [iI,iI];exact ⟨ih,trivial⟩⟩
 |@bin d op a b h0 h1 ha hb iha ihb=>rw [aH.sane];exact ⟨by unfold fit;omega,by decide,by rw [iI,iI,iI];exact ⟨iha,ihb,trivial⟩⟩
theorem rQ{n:Int}(h0:-9223372036854775808 <= n)(h1:n <= 9223372036854775807):(eH n).length <= 21:=by
 have:=kC n.natAbs (by omega)
 unfold eH
 split<;>simp<;>omega
theorem eT.len{names:List ByteArray}{d:Nat}{e:aH}(hn:∀x,x∈names -> bQ x=true)(h:eT names d e):(aP e).length+10 <= 31*2 ^ d:=by
 induction h with
 |@name d x h=>
  have h1:=dV (hn x h)
  have h2:x.data.toList.length=x.size:=rfl
  rw [aP,iX,if_neg (by decide),if_pos rfl];have:=Nat.one_le_two_pow (n:=d);omega
 |@num d n h0 h1=>
  have:=rQ (n:=n) (by omega) (by omega)
  rw [aP,iX,if_pos rfl];have:=Nat.one_le_two_pow (n:=d);omega
 |@un d op e ho he ih=>
  rw [aP,dP,dP,Nat.pow_succ]
  have hl:∀x:List UInt8,(iX op 0 aK [x]).length=x.length+1:=by
   intro x;rcases ho with rfl|rfl<;>simp [iX]
  rw [hl]
  have:=Nat.one_le_two_pow (n:=d)
  split
  ·simp only [length_append,length_cons,length_nil];omega
  ·omega
 |@bin d op a b h0 h1 ha hb iha ihb=>
  rw [aP,dP,dP,dP,Nat.pow_succ]
  have hs:=sX h0 h1
  have ho:=aAr op
  have hl:∀x y:List UInt8,(iX op 0 aK [x,y]).length=x.length+1+(iW op).length+1+y.length:=by
   intro x y;rw [iX,if_neg (by omega),if_neg (by omega),if_neg (by omega),if_neg (by omega),if_pos hs];simp;omega
  rw [hl]
  split<;>split<;>(try simp only [length_append,length_cons,length_nil])<;>omega
end
section
theorem eT.ve{names:List ByteArray}{d:Nat}{e:aH}(hn:∀x,x∈names -> bQ x=true)(h:eT names d e):VE e:=by
 induction h with
 |@name d x h=>exact .name x (hn x h)
 |@num d n h0 h1=>
  obtain ⟨k,rfl⟩:∃k:Nat,n=k:=⟨n.toNat,by omega⟩
  exact .num k (by omega)
 |@un d op e ho he ih=>exact .un op e ho ih
 |@bin d op a b h0 h1 ha hb iha ihb=>exact .bin op a b ⟨h0,h1⟩ iha ihb
end
end Go.Proofs.YtojinfngbbajgaaGreatDoor
