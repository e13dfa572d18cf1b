import Derived.Test.YtojinfngbbajgaaGreatDoorF17J
import Derived.Test.YtojinfngbbajgaaGreatDoorF25J
import Derived.Test.YtojinfngbbajgaaGreatDoorF9J
import Derived.Test.YtojinfngbbajgaaGreatDoorF12J
import Derived.Test.YtojinfngbbajgaaGreatDoorCards
import Derived.Test.YtojinfngbbajgaaGreatDoorTie
import Derived.KernelRfl
import Derived.ProofKit
import Derived.OpenShut
import Derived.Carry
import Derived.Deep.DeepHandedRow
import Derived.LaidMore
import Derived.Lib.LaidTab
import Derived.Shelf.Vars
import Derived.Test.YtojinfngbbajgaaGreatDoorF6J
import Derived.Test.YtojinfngbbajgaaGreatDoorF7J
import Derived.Lib.SlBytesConst
import Derived.Test.YtojinfngbbajgaaGreatDoorF18J
import Derived.Test.YtojinfngbbajgaaGreatDoorF5J
import Derived.Test.YtojinfngbbajgaaGreatDoorF4J
import Derived.Test.YtojinfngbbajgaaGreatDoorF10J
import Derived.Test.YtojinfngbbajgaaGreatDoorProg
set_option linter.all false
set_option synthInstance.maxHeartbeats 1000000
set_option synthInstance.maxSize 1000000
set_option maxHeartbeats 1600000
set_option maxRecDepth 100000
namespace Go.Proofs.YtojinfngbbajgaaGreatDoor
open Go.Proofs.Tryz
open List (length_append length_cons length_nil mem_append mem_cons not_mem_nil append_assoc getElem_mem take_of_length_le)
section
open Go.RowKit
theorem cDc{p:cK}(h:jI p=false):cAb p=(-1,-1,10):=by unfold cAb;rw [if_pos h]
theorem cDf{p:cK}{i:Nat}{v:Vis}(h:jI p=true)(hd:bZz (bZs p) [] 0=(some i,v)):cAb p=(-1,(i:Int),5):=by unfold cAb;rw [if_neg (by rw [h];decide),hd]
theorem cCj{p:cK}{v:Vis}(h:jI p=true)(hd:bZz (bZs p) [] 0=(none,v))(hm:cA9 p=false):cAb p=(-1,-1,9):=by unfold cAb;rw [if_neg (by rw [h];decide),hd];dsimp only;rw [if_neg (by rw [hm];decide)]
theorem cCk{p:cK}{v:Vis}(h:jI p=true)(hd:bZz (bZs p) [] 0=(none,v))(hm:cA9 p=true):cAb p=cAg (bZ7 p.funcs) p.funcs 0 v:=by unfold cAb;rw [if_neg (by rw [h];decide),hd];dsimp only;rw [if_pos hm]
theorem cDg{p:cK}(h:bZu (bZ7 p.funcs) cCg=none):cA9 p=false:=by unfold cA9;rw [h]
theorem cB6{p:cK}{f:bS}(h:bZu (bZ7 p.funcs) cCg=some f):cA9 p=decide (f.params.length=0):=by unfold cA9;rw [h]
theorem cBq{fs:Fns}{l:List bS}{v v0:Vis}{k:Nat}(hk:k<l.length)(h:cAg fs (l.drop k) k v=cAg fs l 0 v0):
  ((cAe fs l[k] v).1=0 -> cAg fs (l.drop (k+1)) (k+1) (cAe fs l[k] v).2.vis=cAg fs l 0 v0) /\ ((cAe fs l[k] v).1≠0 -> cAg fs l 0 v0=((k:Int),(cAe fs l[k] v).2.at_,(cAe fs l[k] v).1)):=by
 rw [List.drop_eq_getElem_cons hk,cAg] at h
 refine ⟨fun h0=>?_,fun h0=>?_⟩
 ·rw [if_pos h0] at h;exact h
 rw [if_neg h0] at h;exact h.symm
theorem cCm(p:cK)(hs:p.sane)(hw:p.wt <= 9000000)(s:Sto):aL prog 19 [bK5 (.agg (jV p))] [] s fun t s'=>∃(f s0:Int) (e:Nat),cAb p=(f,s0,e) /\ t=.tup [.c (.val (.int .i64 f)),.c (.val (.int .i64 s0)),nI e] /\ s'=s:=by
 obtain ⟨bx,rw⟩:=s
 have hwq:=hw
 unfold cK.wt at hwq
 have hfl:=aDr bS.wt (fun f=>by unfold bS.wt;omega) p.funcs
 refine acB func19 rfl ?_
 show AWp prog _ ⟨61,[],⟨bx,rw⟩,[(0,bK5 (.agg (jV p)))]⟩ _
 refine go 12 fun b1=>?_
 rcases Bool.eq_false_or_eq_true (jI p) with h1|h1
 ·refine bK8 0 rfl call32 rfl (bOk p hs hw _) h1 (go 9 ?_)
  refine wo rfl (cB3 0 (evI) rfl rfl (by decide) fun gv=>?_)
  refine wo rfl (cB3 3 (fV) rfl rfl (by decide) fun gf=>?_)
  refine go 9 fun C=>?_
  refine wo rfl (bD [C,gv,gf] rfl rfl (by decide) call42 rfl (cD4 [] _ C gv gf p rw (by omega) (by omega) (by omega)) (by intro b hb;simp at hb⊢;rcases hb with rfl|rfl|rfl<;>simp) (by intro b hb;simp at hb;rcases hb with rfl|rfl|rfl<;>simp [Sto.bl,bZw]) (by intro _ b hb;simp at hb⊢;rcases hb with rfl|rfl|rfl<;>simp) ?_)
  rintro _ _ ⟨r,v0,fsx,hd,rfl,rfl,hok⟩
  rcases r with _|ix
  ·obtain ⟨rfl,hf0⟩:=hok rfl
   clear hok
   show eQ prog _ _ ⟨_,_,_,(_,.c (.val (.int .i64 (-1))))::_⟩ _
   refine go 6 ?_
   refine wcp false rfl rfl (go 12 ?_)
   rcases hmn:bZu (bZ7 p.funcs) cCg with _|fm
   ·refine wyz rfl (cDh (m:=3) (ev:=fV) (bZ7 p.funcs) rfl rfl rfl (by simp) (by decide) (fun _=>rfl) underlying92 underlying9 zeroValue58 (fun _ h=>by cases h) hmn (.agg [.val (.string ⟨#[]⟩),.val (.slice none 0 0),.val (.slice none 0 0)]) rfl) (go 30 fun b4=>?_)
    exact ⟨.inr rfl,_,⟨bx,rw⟩,pC rfl (aF rfl) (aF rfl) (aF rfl),aA (.cons _ (.cons _ (.cons _ (.refl _)))) (.cons _ (.cons _ (.refl _))),-1,-1,9,cCj h1 hd (cDg hmn),rfl,rfl⟩
   refine wyz rfl (cDa (m:=3) (ev:=fV) (bZ7 p.funcs) rfl rfl rfl (by simp) (by decide) (fun _=>rfl) underlying92 underlying9 zeroValue58 (fun _ h=>by cases h) hmn) (go 16 fun b5=>?_)
   by_cases h5:(0:Int)<((fm.params.length:Nat):Int)
   ·refine wcp true rfl (mH h5) (go 13 ?_)
    exact ⟨.inr rfl,_,⟨bx,rw⟩,pC rfl (aF rfl) (aF rfl) (aF rfl),aA (.cons _ (.cons _ (.cons _ (.refl _)))) (.cons _ (.cons _ (.refl _))),-1,-1,9,cCj h1 hd (by rw [cB6 hmn];exact decide_eq_false (by omega)),rfl,rfl⟩
   refine wcp false rfl (mI h5) (go 16 ?_)
   have hmz:cA9 p=true:=by rw [cB6 hmn];exact decide_eq_true (by omega)
   refine fM (fun g:Nat×Vis×Int×Int=>(⟨61,[b5,C,gf,gv,b1],⟨⟨b5,58,fV fm⟩::⟨C,94,[.sl p.globals.length (p.globals.flatMap dB),.sl p.mutexes.length (p.mutexes.flatMap bT),.sl p.funcs.length (p.funcs.flatMap fV),.val (.map (some gv)),.val (.map (some gf)),.val (.int .i64 g.2.2.1),.val (.int .i64 g.2.2.2)]⟩::⟨b1,30,jV p⟩::bx,hM gf 3 fV (bZ7 p.funcs)::hM gv 0 evI g.2.1::rw⟩,[(44,nI g.1),(1,pP b1),(2,.c (.val (.int .i64 0))),(3,.c (.val (.int .i64 0))),(4,.c (.val (.int .i64 0))),(5,pP C),(7,pP b5),(42,.c (.sl p.funcs.length (p.funcs.flatMap fV))),(43,nI p.funcs.length)]⟩:AS)) (fun g=>g.1 <= p.funcs.length /\ cAg (bZ7 p.funcs) (p.funcs.drop g.1) g.1 g.2.1=cAg (bZ7 p.funcs) p.funcs 0 v0 /\ bZt g.2.1 (bZ7 p.funcs)) (fun g=>p.funcs.length-g.1) (0,v0,0,0) (cA (.refl _) (.refl _) (by intro x hx;simp only [mem_cons,not_mem_nil,or_false] at hx⊢;grind) (sA rfl)) ⟨Nat.zero_le _,rfl,hf0⟩ ?_
   rintro ⟨k,vis,n0,a0⟩ ⟨hk,hst,hfk⟩
   dsimp only at hk hst hfk
   show AWp prog _ ⟨61,[b5,C,gf,gv,b1],⟨⟨b5,58,fV fm⟩::⟨C,94,[.sl p.globals.length (p.globals.flatMap dB),.sl p.mutexes.length (p.mutexes.flatMap bT),.sl p.funcs.length (p.funcs.flatMap fV),.val (.map (some gv)),.val (.map (some gf)),.val (.int .i64 n0),.val (.int .i64 a0)]⟩::⟨b1,30,jV p⟩::bx,hM gf 3 fV (bZ7 p.funcs)::hM gv 0 evI vis::rw⟩,[(44,nI k),(1,pP b1),(2,.c (.val (.int .i64 0))),(3,.c (.val (.int .i64 0))),(4,.c (.val (.int .i64 0))),(5,pP C),(7,pP b5),(42,.c (.sl p.funcs.length (p.funcs.flatMap fV))),(43,nI p.funcs.length)]⟩ _
   refine go 2 ?_
   by_cases h8:((k:Nat):Int)<((p.funcs.length:Nat):Int)
   ·refine wcp true rfl (jZ h8) (go 11 ?_)
    refine wyz rfl (bH fV fV p.funcs vC (fun _=>rfl) k rfl rfl rfl rfl (by omega) (by decide) runUnderlying28 sizeOf58) (go 10 fun b6=>?_)
    refine wo rfl (bD [C,gv] rfl rfl (by decide) call43 rfl (cD6 [_,_] _ C gv gf p (bZ7 p.funcs) [_] rw (by simp) _ _ vis p.funcs[k] hfk (by have:=aDi bS.wt p.funcs k (by omega);unfold cK.wt at hw;omega)) (by intro b hb;simp at hb⊢;rcases hb with rfl|rfl<;>simp) (by intro b hb;simp at hb;rcases hb with rfl|rfl<;>simp [Sto.bl,bZw]) (by intro _ b hb;simp at hb⊢;rcases hb with rfl|rfl<;>simp) ?_)
    rintro _ _ ⟨e,y,hy,rfl,rfl⟩
    refine go 6 ?_
    by_cases h10:((e:Nat):Int)=0
    ·refine wcp false rfl (xG h10) (go 7 ?_)
     refine wad rfl (go 2 ?_)
     have hnx:=(cBq (by omega) hst).1 (by rw [hy];show e=0;omega)
     rw [hy] at hnx
     have hf1:=cDt p.funcs[k] hfk
     rw [hy] at hf1
     exact ⟨(k+1,y.vis,((y.n:Nat):Int),y.at_),⟨by show k+1 <= p.funcs.length;omega,hnx,hf1⟩,by show p.funcs.length-(k+1)<p.funcs.length-k;omega,cA (.cons _ (.refl _)) (.refl _) (by intro x hx;simp only [mem_cons,not_mem_nil,or_false] at hx⊢;grind) (aG rfl (gQ (by omega)) (sA rfl))⟩
    refine wcp true rfl (xL h10) (go 4 ?_)
    refine dx [b6,b5,C,b1] (tz [(0,true),(1,true),(2,true),(3,true),(4,true),(5,true),(6,true),(7,true),(8,true)] 0 (go 10 ?_))
    refine ax (go 7 ?_)
    exact ⟨.inr rfl,_,⟨bx,rw⟩,pC rfl (aF rfl) (aF rfl) (aF rfl),aA (.cons _ (.cons _ (.cons _ (.cons _ (.refl _))))) (.cons _ (.cons _ (.refl _))),((k:Nat):Int),y.at_,e,(by rw [cCk h1 hd hmz,(cBq (by omega) hst).2 (by rw [hy];show e≠0;omega),hy]),rfl,rfl⟩
   refine wcp false rfl (jQ h8) (go 17 ?_)
   exact ⟨.inr rfl,_,⟨bx,rw⟩,pC rfl (aF rfl) (aF rfl) (aF rfl),aA (.cons _ (.cons _ (.cons _ (.refl _)))) (.cons _ (.cons _ (.refl _))),0,0,0,(by rw [cCk h1 hd hmz,←hst,List.drop_eq_nil_of_le (by omega)];rfl),rfl,rfl⟩
  show eQ prog _ _ ⟨_,_,_,(_,nI ix)::_⟩ _
  refine go 6 ?_
  refine wcp true rfl (aMq (by omega)) (go 13 ?_)
  exact ⟨.inr rfl,_,⟨bx,rw⟩,pC rfl (aF rfl) (aF rfl) (aF rfl),aA (.cons _ (.cons _ (.refl _))) (.cons _ (.cons _ (.refl _))),-1,((ix:Nat):Int),5,cDf h1 hd,rfl,rfl⟩
 refine bK8 0 rfl call32 rfl (bOk p hs hw _) h1 (go 13 ?_)
 exact ⟨.inr rfl,_,⟨bx,rw⟩,pC rfl (aF rfl) (aF rfl) (aF rfl),aA (.cons _ (.refl _)) (.refl _),-1,-1,10,cDc h1,rfl,rfl⟩
end
section
open Go.ChangeShapes Go.WideShapes Go.ChangeAt Go.RowKit
theorem own:ownKnob prog.godebug=none:=by kernel_rfl
theorem laidOut:laidOutB prog=true:=by kernel_rfl
theorem aRc : prog.globalNamed "lockorder/token.words" = some 0 := by kernel_rfl
theorem aA1{H:Type}{enc:TypeId×Value -> H}{P:Program}{w:World}{base:Nat}{sp:Nat -> Bool}{held:Bool}{fuel:Nat}{t e:TypeId}{n:Nat}{cs:List Value}{zs:List (List UInt8)}{p:List MemPlace}
  (ht:P.underlying t=some (.array n e)) (he:P.underlying e=some .string) (hce:P.cellsOf e=1) (hct:P.cellsOf t=n)
  (h:DataW.trod enc P w base sp held fuel t cs=some (.agg (zs.map fun z=>.lit (.string z)),p)):cs=zs.map fun z=>Value.string (bytes z):=by
 cases fuel with
 |zero=>simp [DataW.trod] at h
 |succ fuel=>
  simp only [DataW.trod,ht,hce,hct,Nat.mul_one] at h
  split at h
  ·rename_i hl
   obtain ⟨xs,hm,hx⟩:=Option.map_eq_some_iff.1 h
   have hxs:xs.map (·.1)=zs.map fun z=>(DataW.lit (.string z):DataW H):=by
    have:=congrArg Prod.fst hx
    simpa using this
   have hxl:xs.length=n:=by simpa using Lib.mapM_length hm
   have hzl:zs.length=n:=by
    have:=congrArg List.length hxs
    simp at this
    omega
   apply List.ext_getElem?
   intro i
   by_cases hi:i<n
   ·obtain ⟨b,hb,hf⟩:=Lib.mapM_at hm i i (by simp [hi])
    obtain ⟨z,hc,rfl,_⟩:=DataW.trod_string he hf
    have h1:cs[i]?=some (.string z):=by
     have:=congrArg (·[0]?) hc
     simpa [List.getElem?_take,List.getElem?_drop] using this
    have h2:(xs.map (·.1))[i]?=some (DataW.lit (.string z.data.toList):DataW H):=by simp [hb]
    rw [hxs] at h2
    simp only [List.getElem?_map,Option.map_eq_some_iff,DataW.lit.injEq,Lit.string.injEq] at h2
    obtain ⟨z',hz',he'⟩:=h2
    simp [h1,hz',bytes,he']
   rw [List.getElem?_eq_none (by omega),List.getElem?_eq_none (by simp;omega)]
  cases h
def aGj:List (List UInt8):=words.map fun b=>b.data.toList
theorem sV{H:Type}{enc:TypeId×Value -> H}{W W':World}(hb:Below W.heap.size W W'):
  ∀{ts:List TypeId} {vs:List Value} {ds:List (DataW H)} {ps:List MemPlace},(∀t∈ts,prog.readableRec t=true /\ t<prog.types.size) -> DataW.TrodAll enc prog W 0 (fun _=>true) true ts vs ds ps -> (∀x∈ps,x.block<W.heap.size) ->
   DataW.TrodAll enc prog W' 0 (fun b=>decide (b<W.heap.size)) true ts vs ds ps
 |[],_,_,_,_,h,_=>by
  obtain ⟨rfl,rfl,rfl⟩:=trodAll_nil h
  exact trodAll_mk0
 |t::ts,_,_,_,hr,h,hlt=>by
  obtain ⟨v,vs1,d,ds1,a,b,rfl,rfl,rfl,h1,h2⟩:=trodAll_cons h
  have ht:=hr t (List.mem_cons_self ..)
  exact ⟨a,b,Below.trod laidOut ht.1 ht.2 h1 hb (fun x hx=>hlt x (List.mem_append_left _ hx)),
   sV hb (fun u hu=>hr u (List.mem_cons_of_mem _ hu)) h2 (fun x hx=>hlt x (List.mem_append_right _ hx)),rfl⟩
theorem aMc{H:Type}{enc:TypeId×Value -> H}{F:Func}{s:ChangeSpec}{W W':World}{args:Array Value}{ds gs:List (DataW H)}{before:List MemPlace}
  (hW:DataW.Whole enc prog F.params.toList s.vars false W args.toList ds gs before) (hv:s.vars=[]) (hfn:s.fn H ds={results:=[.lit (.bool true)],args:=ds})
  (hread:∀t∈F.params.toList,prog.readableRec t=true /\ t<prog.types.size) (hres:F.resultTypes=#[4]) (hb:Below W.heap.size W W'):
  ∃v,Ending.returned (.bool true)=.returned v /\ s.post enc prog F false true false false W args v W':=by
 refine ⟨_,rfl,?_⟩
 have hlt:∀p∈before,p.block<W.heap.size:=fun p hp=>by simpa using hW.lt p hp
 have hW':=hW
 obtain ⟨p,q,hA,hV,rfl,hfz,hnd⟩:=hW
 rw [hv] at hV
 obtain ⟨rfl,rfl⟩:=trodVars_none hV
 simp only [List.append_nil] at hlt hW'
 refine ⟨ds,[],p,[],p,[],hW',?_,?_,?_,?_,fun h=>by cases h⟩
 ·rw [hres,List.append_nil,hfn]
  exact trodAll_cons_mk (shut_bool underlying4 true) trodAll_mk0
 ·rw [List.append_nil,hfn]
  exact sV hb hread hA hlt
 ·rw [List.append_nil,hfn,hv];rfl
 exact hb.frame _
theorem aFm{W:World}{a:Addr}{u:Value}(h:W.cell? (a.add 0)=some u):∃b off,a=⟨b,off,none⟩:=by
 obtain ⟨b,off,sp⟩:=a
 cases sp with
 |none=>exact ⟨b,off,rfl⟩
 |some k=>
  exfalso
  simp only [Addr.add,if_true] at h
  unfold World.cell? at h
  split at h
  ·simp at h
  cases h
end
section
open Go.ChangeShapes Go.WideShapes Go.ChangeAt Go.RowKit
theorem aHn{H:Type}{enc:TypeId×Value -> H}{W:World}{base:Nat}{v:Value}{d:DataW H}{p:List MemPlace}(hval:Value.okWide prog W .any base 22 v)(hd:DataW.Trod enc prog W 0 (fun _=>true) true 22 v d p):
  ∃(s:List Int) (a:Option Addr) (cap:Nat),v=.slice a s.length cap /\ s.length <= cap /\ cap <= maxLen /\ dD W v s.length (s.map (.int .i64)):=by
 obtain ⟨a,len,cap,rfl⟩:=okWide_slice underlying22 hval
 obtain ⟨fuel,hf⟩:=hd
 rcases open_ints underlying22 underlying3 (by kernel_rfl) hf with ⟨hcs,hx⟩|⟨a',len',cap',zs,hcs,_,hl,hm,hz,hx,hcell,hwz⟩
 ·simp [Value.cells] at hcs
  obtain ⟨rfl,rfl,rfl⟩:=hcs
  exact ⟨[],none,0,rfl,Nat.le_refl _,(by unfold maxLen;omega),dD.nil _⟩
 simp [Value.cells] at hcs
 obtain ⟨rfl,rfl,rfl⟩:=hcs
 simp only [if_true] at hz
 have hlen:(zs.take len).length=len:=by rw [List.length_take];omega
 refine ⟨zs.take len,some a',cap,by rw [hlen],by rw [hlen];exact hl,hm,some a',cap,by rw [hlen],by rw [hlen];exact hl,?_⟩
 by_cases h0:len=0
 ·left;subst h0;rfl
 right
 obtain ⟨b,off,rfl⟩:=aFm (hcell 0 (by omega))
 refine ⟨b,off,rfl,fun j u hu=>?_⟩
 have hj:j<len:=by
  rcases Nat.lt_or_ge j len with h|h
  ·exact h
  rw [List.getElem?_eq_none (by rw [List.length_map,hlen];exact h)] at hu;cases hu
 have hc:=hcell j (by omega)
 rw [add_plain] at hc
 rw [hc]
 simp only [List.getElem?_map,List.getElem?_take,if_pos hj,List.getElem?_eq_getElem (show j<zs.length by omega),Option.map_some] at hu
 rw [←hu]
 simp [List.getD,show j<zs.length by omega]
end
section
open Go.ChangeShapes Go.WideShapes Go.ChangeAt Go.RowKit
theorem bR6 : prog.globalNamed "lockorder/expr.signs" = some 3 := by kernel_rfl
theorem bSj : prog.globalNamed "internal/strconv.uint64pow10" = some 2 := by kernel_rfl
def bRe:List (List UInt8):=bLb.map fun b=>b.data.toList
abbrev bQr : List (String × DataW Unit) := [("math/bits.deBruijn32tab", Rows.laid_math_bits_deBruijn32tab), ("math/bits.deBruijn64tab", Rows.laid_math_bits_deBruijn64tab), ("internal/strconv.uint64pow10", Rows.laid_internal_strconv_uint64pow10), ("lockorder/token.words", Rows.laid_lockorder_token_words), ("lockorder/expr.signs", Rows.laid_lockorder_expr_signs)]
theorem bRl{W:World}(h:laidMetH prog bQr W)(hs:W.ShapedOpen prog):bM9 W:=by
 obtain ⟨ps,hL,_⟩:=(show laidMet prog bQr W from h)
 obtain ⟨_,_,_,_,_,_,_,_,_,_,hL,_⟩:=hL
 obtain ⟨_,_,_,_,_,_,_,_,_,_,hL,_⟩:=hL
 obtain ⟨g3,t3,cs3,fuel3,p3,q3,hg3,ht3,hvar3,hd3,hL,_⟩:=hL
 obtain ⟨g',t',cs,fuel,p,q,hg',ht',hvar,hd,hL,_⟩:=hL
 obtain ⟨g2,t2,cs2,fuel2,p2,q2,hg2,ht2,hvar2,hd2,_,_⟩:=hL
 refine ⟨fun j hj=>?_,?_,⟨fun j hj=>?_⟩,?_⟩
 ·obtain rfl:=Option.some.inj (aRc.symm.trans hg')
  obtain rfl:t'=222:=Option.some.inj (ht'.symm.trans (show (prog.globals[0]?).map (·.type)=some 222 by kernel_rfl))
  have hc:=aA1 (zs:=aGj) (n:=11) (e:=9) underlying222 underlying9 (by kernel_rfl) (by kernel_rfl) hd
  have:=World.var?_cell hg' hvar j
  rw [←Array.getElem?_toList,hc] at this
  rw [this]
  simp only [aGj,List.map_map]
  rw [List.getElem?_map,List.getElem?_eq_getElem hj]
  simp [bytes]
 ·exact cell_of_shapedOpen_int (zero:=#[.int .i64 0]) (t:=3) hs (of_decide_eq_true (by kernel_rfl)) (by kernel_rfl) rfl (by kernel_rfl) (by kernel_rfl) underlying3
 ·obtain rfl:=Option.some.inj (bR6.symm.trans hg2)
  obtain rfl:t2=261:=Option.some.inj (ht2.symm.trans (show (prog.globals[3]?).map (·.type)=some 261 by kernel_rfl))
  have hc:=aA1 (zs:=bRe) (n:=18) (e:=9) underlying261 underlying9 (by kernel_rfl) (by kernel_rfl) hd2
  have:=World.var?_cell hg2 hvar2 j
  rw [←Array.getElem?_toList,hc] at this
  rw [this]
  simp only [bRe,List.map_map]
  rw [List.getElem?_map,List.getElem?_eq_getElem hj]
  simp [bytes]
 obtain rfl:=Option.some.inj (bSj.symm.trans hg3)
 obtain rfl:t3=256:=Option.some.inj (ht3.symm.trans (show (prog.globals[2]?).map (·.type)=some 256 by kernel_rfl))
 unfold Lib.TabIs
 rw [hvar3,←Lib.cells_of_tab (zs:=Lib.pow10Tab) (k:=.u64) underlying256 underlying189 (by kernel_rfl) (by kernel_rfl) hd3]
theorem bQj(os:Os)(args:Array Value):laidMet prog bQr ((World.doorLaid prog 60 os).forCall (fun _ _=>0) ⟨#[],args,[]⟩).memory:=
 laidMet_of_run' 8 (by kernel_rfl) (by kernel_rfl)
theorem bO6(w:World):Up2 w (bI [] w):=
 ⟨fun a u h=>by rw [eW _ _ _ (by simp)];exact h,fun g cs t fz h _=>by rw [aFp _ _ _ (by simp)];exact h⟩
theorem bOi{w:World}{t:AT}{v:Value}(he:bM9 w)(h:dO (bI [] w) t v):dO (bI [] w) (bK5 t) v:=bOr h (he.up (bO6 w))
theorem bRj{P:Program}{U:List Nat}{o:Oper}{n d:Nat}{T:List Nat}{s:Sto}{ts:List (Nat×AT)}{K:AS -> Prop}{F:FuncId}{t0:AT}(i0:Nat)(ho:o.op=.call {callee:=.value (.func F),args:=#[],argTypes:=#[]})(hd:o.dst=some d)(hn:d<n)
  (hcf:∀args w,(callFunc F args).run P w=.ok (.enter F args) w) (hl:look ts i0=some (bK5 t0)) (hc:∀w,bM9 w -> Calls P F #[] w fun e w'=>e=.returned (.bool true) /\ Below w.heap.size w w')
  (h:K ⟨n,T,s,(d,.c (.val (.bool true)))::ts⟩):AO P U o ⟨n,T,s,ts⟩ K:=by
 intro a w hs KK QQ' hK
 obtain ⟨v0,-,hv0⟩:=hs.tm i0 _ hl
 unfold Oper.wp
 rw [show (execOp a.eval o).run P w=.ok (.enter F #[]) w from by
  simp only [execOp,ho,resolve,Deferred.ofValue,Act.eval,Sem.run_bind,Sem.run_pure,Result.andThen_ok,invoke]
  rw [hcf];simp,Oper.upon_enter]
 refine (hc w (bMx hv0)).mono ?_
 rintro en w' ⟨rfl,hb⟩
 dsimp only
 rw [hd]
 obtain ⟨hk,hm⟩:=aBl hs.mem hb
 have s1:=hs.step (st:=⟨n,T,s,ts⟩) T (hk.mono (by simp)) hm (fun b hb=>.inl hb)
 exact hK _ _ _ h (s1.put hn (dO.c _ _ (.val _ rfl))) ⟨hk.mono (by simp),hk.mono (by simp),fun b hb=>.inl hb,fun b hb=>.inl hb⟩ (hk.mono (by simp))
theorem bPa{P:Program}{F:FuncId}{fn:Func}{c:Code}(hf:P.funcs[F]?=some fn)(hb:fn.body=some c)(i:Nat)(hi:i<fn.ntmps){w:World}(he:bM9 w)
  (h:AWp P c ⟨fn.ntmps,[],⟨[],[]⟩,[(i,bK5 (.raw undef))]⟩ fun e st=>(e=.normal∨e=.ret) /\ ∃r s',aEt P fn st r /\ aAz st.s s' /\ r=.c (.val (.bool true)) /\ s'=⟨[],[]⟩):Calls P F #[] w fun e w'=>e=.returned (.bool true) /\ Below w.heap.size w w':=by
 have hm:Mem ⟨[],[]⟩ w:=⟨List.nodup_nil,(fun b hb=>absurd hb (by simp [Sto.bl])),(fun x hx=>absurd hx (by simp)),(fun x hx=>absurd hx (by simp))⟩
 refine calls_of_wp hf hb ?_
 refine h _ w ⟨rfl,?_,fun j t ht=>?_,hm⟩ _ ?_
 ·simp
 ·simp only [look] at ht
  split at ht
  ·rename_i hj;subst hj;cases ht
   exact ⟨undef,by simp [hi],bOr (.raw _) (he.up (bO6 w))⟩
  cases ht
 intro e a' w' st' q s' k
 obtain ⟨he,r,s2,hres,hsub,rfl,rfl⟩:=q
 obtain ⟨v,h1,h2⟩:=hres a' w' s'
 have hv:v=.bool true:=by cases h1 with|c _ _ h4=>cases h4;rfl
 subst hv
 have hk:=k.keepT
 rcases he with rfl|rfl
 ·exact ⟨s'.df,_,h2,rfl,⟨hk.os,hk.tape,hk.output,hk.size,fun j hj=>hk.block j hj (by simp)⟩⟩
 exact ⟨s'.df,_,h2,rfl,⟨hk.os,hk.tape,hk.output,hk.size,fun j hj=>hk.block j hj (by simp)⟩⟩
end
section
open Go.RowKit
abbrev RSt(A B:List Box)(rw:List bA)(P:Nat)(l:List Tok)(k b e ns dp:Nat):Sto:=⟨A++⟨P,112,[.sl l.length (l.flatMap aW),.val (.int .i64 (k:Int)),.val (.int .i64 (b:Int)),.val (.int .i64 (e:Int)),.val (.int .i64 (ns:Int)),.val (.int .i64 (dp:Int))]⟩::B,rw⟩
def RAn{α:Type}(A B:List Box)(rw:List bA)(P:Nat)(l:List Tok)(ns dp:Nat)(enc:α -> AT)(e b:Nat)(r:bN α)(t:AT)(s:Sto):Prop:=
 ∃x k1 b1 e1,t=enc x /\ kX e b r x k1 b1 e1 /\ k1<l.length /\ e1<16 /\ s=RSt A B rw P l k1 b1 e1 ns dp
structure TOk (l:List Tok):Prop where
 last:rP l
 reg:∀t,t∈l -> aPn t
 len:l.length <= 1000000
def cAf(l:List Tok)(k:Nat)(s:ByteArray):Bool:=(decide ((bU l k).kind=4)||decide ((bU l k).kind=3)) && decide ((bU l k).text=s)
theorem lA{e:Nat}(h:e≠0):bC .eql (e:Int) 0=some false:=by simp [bC,h]
theorem jS{m n:Nat}:bC .eql (m:Int) (n:Int)=some (decide (m=n)):=by
 by_cases h:m=n
 ·subst h;simp [bC]
 have h2:¬(m:Int)=(n:Int):=by omega
 simp [bC,h,h2]
theorem bFr(A B:List Box)(rw:List bA)(P:Nat)(l:List Tok)(k b ns dp x:Nat):aL prog 52 [pP P,.c (.val (.int .i64 (x:Int)))] [P] (RSt A B rw P l k b 0 ns dp) fun t s=>t=.tup [] /\ s=RSt A B rw P l k k x ns dp:=by
 refine acB func52 rfl ?_
 show AWp prog _ ⟨20,[P],⟨A++⟨P,112,[.sl l.length (l.flatMap aW),nC k,nC b,nC 0,nC ns,nC dp]⟩::B,rw⟩,[(0,pP P),(1,.c (.val (.int .i64 (x:Int))))]⟩ _
 refine go 6 ?_
 refine wcp true rfl (by rfl) (go 18 ?_)
 exact ⟨.inl rfl,_,(RSt A B rw P l (k) (k) (x) (ns) (dp)),cH rfl,aA (.refl _) (.refl _),rfl,rfl⟩
theorem bFo(A B:List Box)(rw:List bA)(P:Nat)(l:List Tok)(k b ns dp x e:Nat)(he0:e≠0):aL prog 52 [pP P,.c (.val (.int .i64 (x:Int)))] [P] (RSt A B rw P l k b e ns dp) fun t s=>t=.tup [] /\ s=RSt A B rw P l k b e ns dp:=by
 refine acB func52 rfl ?_
 show AWp prog _ ⟨20,[P],⟨A++⟨P,112,[.sl l.length (l.flatMap aW),nC k,nC b,nC e,nC ns,nC dp]⟩::B,rw⟩,[(0,pP P),(1,.c (.val (.int .i64 (x:Int))))]⟩ _
 refine go 6 ?_
 refine wcp false rfl (lA he0) (go 4 ?_)
 exact ⟨.inl rfl,_,(RSt A B rw P l (k) (b) (e) (ns) (dp)),cH rfl,aA (.refl _) (.refl _),rfl,rfl⟩
theorem bFx(A B:List Box)(rw:List bA)(P:Nat)(l:List Tok)(k b ns dp e:Nat)(sg:ByteArray)(hk:k<l.length)(he0:e≠0):aL prog 51 [pP P,.c (.val (.string sg))] [P] (RSt A B rw P l k b e ns dp) fun t s=>t=.c (.val (.bool false)) /\ s=RSt A B rw P l k b e ns dp:=by
 refine acB func51 rfl ?_
 show AWp prog _ ⟨37,[P],⟨A++⟨P,112,[.sl l.length (l.flatMap aW),nC k,nC b,nC e,nC ns,nC dp]⟩::B,rw⟩,[(0,pP P),(1,.c (.val (.string sg)))]⟩ _
 refine go 6 ?_
 refine dx [P] (tz [(0,true),(1,true),(2,true),(3,true),(4,true),(5,true),(6,true),(7,true)] 4 (go 9 ?_))
 refine tx 8 rfl (bH aW aW l bJ (fun _=>rfl) (k) rfl rfl rfl rfl hk (by decide) runUnderlying36 sizeOf66) (tz [(9,true),(10,false),(11,false)] 0 (go 4 fun b1=>?_))
 refine ax (go 7 ?_)
 refine wcp false rfl (lA he0) (go 20 ?_)
 exact bHe (s':=(RSt A B rw P l (k) (b) (e) (ns) (dp))) rfl sb1 ⟨rfl,rfl⟩
theorem bFs(A B:List Box)(rw:List bA)(P:Nat)(l:List Tok)(k b ns dp:Nat)(sg:ByteArray)(hk:k<l.length)(h4:l[k].kind=4)(ht:l[k].text=sg):aL prog 51 [pP P,.c (.val (.string sg))] [P] (RSt A B rw P l k b 0 ns dp) fun t s=>t=.c (.val (.bool true)) /\ s=RSt A B rw P l k b 0 ns dp:=by
 refine acB func51 rfl ?_
 show AWp prog _ ⟨37,[P],⟨A++⟨P,112,[.sl l.length (l.flatMap aW),nC k,nC b,nC 0,nC ns,nC dp]⟩::B,rw⟩,[(0,pP P),(1,.c (.val (.string sg)))]⟩ _
 refine go 6 ?_
 refine dx [P] (tz [(0,true),(1,true),(2,true),(3,true),(4,true),(5,true),(6,true),(7,true)] 4 (go 9 ?_))
 refine tx 8 rfl (bH aW aW l bJ (fun _=>rfl) (k) rfl rfl rfl rfl hk (by decide) runUnderlying36 sizeOf66) (tz [(9,true),(10,false),(11,false)] 0 (go 4 fun b1=>?_))
 refine ax (go 7 ?_)
 refine wcp true rfl (by rfl) (go 3 ?_)
 refine wcp true rfl (by rw [h4];rfl) (go 10 ?_)
 refine wyz rfl (aZ true rfl rfl rfl (by rw [ht];simp [oM])) (go 5 ?_)
 exact bHe (s':=(RSt A B rw P l (k) (b) (0) (ns) (dp))) rfl sb1 ⟨rfl,rfl⟩
theorem bFu(A B:List Box)(rw:List bA)(P:Nat)(l:List Tok)(k b ns dp:Nat)(sg:ByteArray)(hk:k<l.length)(h4:l[k].kind=4)(ht:¬l[k].text=sg):aL prog 51 [pP P,.c (.val (.string sg))] [P] (RSt A B rw P l k b 0 ns dp) fun t s=>t=.c (.val (.bool false)) /\ s=RSt A B rw P l k b 0 ns dp:=by
 refine acB func51 rfl ?_
 show AWp prog _ ⟨37,[P],⟨A++⟨P,112,[.sl l.length (l.flatMap aW),nC k,nC b,nC 0,nC ns,nC dp]⟩::B,rw⟩,[(0,pP P),(1,.c (.val (.string sg)))]⟩ _
 refine go 6 ?_
 refine dx [P] (tz [(0,true),(1,true),(2,true),(3,true),(4,true),(5,true),(6,true),(7,true)] 4 (go 9 ?_))
 refine tx 8 rfl (bH aW aW l bJ (fun _=>rfl) (k) rfl rfl rfl rfl hk (by decide) runUnderlying36 sizeOf66) (tz [(9,true),(10,false),(11,false)] 0 (go 4 fun b1=>?_))
 refine ax (go 7 ?_)
 refine wcp true rfl (by rfl) (go 3 ?_)
 refine wcp true rfl (by rw [h4];rfl) (go 10 ?_)
 refine wyz rfl (aZ false rfl rfl rfl (by simp [oM,ht])) (go 5 ?_)
 exact bHe (s':=(RSt A B rw P l (k) (b) (0) (ns) (dp))) rfl sb1 ⟨rfl,rfl⟩
theorem bFt(A B:List Box)(rw:List bA)(P:Nat)(l:List Tok)(k b ns dp:Nat)(sg:ByteArray)(hk:k<l.length)(h4:¬l[k].kind=4)(h3:l[k].kind=3)(ht:l[k].text=sg):aL prog 51 [pP P,.c (.val (.string sg))] [P] (RSt A B rw P l k b 0 ns dp) fun t s=>t=.c (.val (.bool true)) /\ s=RSt A B rw P l k b 0 ns dp:=by
 refine acB func51 rfl ?_
 show AWp prog _ ⟨37,[P],⟨A++⟨P,112,[.sl l.length (l.flatMap aW),nC k,nC b,nC 0,nC ns,nC dp]⟩::B,rw⟩,[(0,pP P),(1,.c (.val (.string sg)))]⟩ _
 refine go 6 ?_
 refine dx [P] (tz [(0,true),(1,true),(2,true),(3,true),(4,true),(5,true),(6,true),(7,true)] 4 (go 9 ?_))
 refine tx 8 rfl (bH aW aW l bJ (fun _=>rfl) (k) rfl rfl rfl rfl hk (by decide) runUnderlying36 sizeOf66) (tz [(9,true),(10,false),(11,false)] 0 (go 4 fun b1=>?_))
 refine ax (go 7 ?_)
 refine wcp true rfl (by rfl) (go 3 ?_)
 refine wcp false rfl (by rw [show bC .eql ((l[k].kind:Nat):Int) 4=some (decide (l[k].kind=4)) from jS (n:=4),decide_eq_false h4]) (go 3 ?_)
 refine wcp true rfl (by rw [h3];rfl) (go 6 ?_)
 refine wyz rfl (aZ true rfl rfl rfl (by rw [ht];simp [oM])) (go 5 ?_)
 exact bHe (s':=(RSt A B rw P l (k) (b) (0) (ns) (dp))) rfl sb1 ⟨rfl,rfl⟩
theorem bFw(A B:List Box)(rw:List bA)(P:Nat)(l:List Tok)(k b ns dp:Nat)(sg:ByteArray)(hk:k<l.length)(h4:¬l[k].kind=4)(h3:l[k].kind=3)(ht:¬l[k].text=sg):aL prog 51 [pP P,.c (.val (.string sg))] [P] (RSt A B rw P l k b 0 ns dp) fun t s=>t=.c (.val (.bool false)) /\ s=RSt A B rw P l k b 0 ns dp:=by
 refine acB func51 rfl ?_
 show AWp prog _ ⟨37,[P],⟨A++⟨P,112,[.sl l.length (l.flatMap aW),nC k,nC b,nC 0,nC ns,nC dp]⟩::B,rw⟩,[(0,pP P),(1,.c (.val (.string sg)))]⟩ _
 refine go 6 ?_
 refine dx [P] (tz [(0,true),(1,true),(2,true),(3,true),(4,true),(5,true),(6,true),(7,true)] 4 (go 9 ?_))
 refine tx 8 rfl (bH aW aW l bJ (fun _=>rfl) (k) rfl rfl rfl rfl hk (by decide) runUnderlying36 sizeOf66) (tz [(9,true),(10,false),(11,false)] 0 (go 4 fun b1=>?_))
 refine ax (go 7 ?_)
 refine wcp true rfl (by rfl) (go 3 ?_)
 refine wcp false rfl (by rw [show bC .eql ((l[k].kind:Nat):Int) 4=some (decide (l[k].kind=4)) from jS (n:=4),decide_eq_false h4]) (go 3 ?_)
 refine wcp true rfl (by rw [h3];rfl) (go 6 ?_)
 refine wyz rfl (aZ false rfl rfl rfl (by simp [oM,ht])) (go 5 ?_)
 exact bHe (s':=(RSt A B rw P l (k) (b) (0) (ns) (dp))) rfl sb1 ⟨rfl,rfl⟩
theorem bFy(A B:List Box)(rw:List bA)(P:Nat)(l:List Tok)(k b ns dp:Nat)(sg:ByteArray)(hk:k<l.length)(h4:¬l[k].kind=4)(h3:¬l[k].kind=3):aL prog 51 [pP P,.c (.val (.string sg))] [P] (RSt A B rw P l k b 0 ns dp) fun t s=>t=.c (.val (.bool false)) /\ s=RSt A B rw P l k b 0 ns dp:=by
 refine acB func51 rfl ?_
 show AWp prog _ ⟨37,[P],⟨A++⟨P,112,[.sl l.length (l.flatMap aW),nC k,nC b,nC 0,nC ns,nC dp]⟩::B,rw⟩,[(0,pP P),(1,.c (.val (.string sg)))]⟩ _
 refine go 6 ?_
 refine dx [P] (tz [(0,true),(1,true),(2,true),(3,true),(4,true),(5,true),(6,true),(7,true)] 4 (go 9 ?_))
 refine tx 8 rfl (bH aW aW l bJ (fun _=>rfl) (k) rfl rfl rfl rfl hk (by decide) runUnderlying36 sizeOf66) (tz [(9,true),(10,false),(11,false)] 0 (go 4 fun b1=>?_))
 refine ax (go 7 ?_)
 refine wcp true rfl (by rfl) (go 3 ?_)
 refine wcp false rfl (by rw [show bC .eql ((l[k].kind:Nat):Int) 4=some (decide (l[k].kind=4)) from jS (n:=4),decide_eq_false h4]) (go 3 ?_)
 refine wcp false rfl (by rw [show bC .eql ((l[k].kind:Nat):Int) 3=some (decide (l[k].kind=3)) from jS (n:=3),decide_eq_false h3]) (go 12 ?_)
 exact bHe (s':=(RSt A B rw P l (k) (b) (0) (ns) (dp))) rfl sb1 ⟨rfl,rfl⟩
theorem bFv(A B:List Box)(rw:List bA)(P:Nat)(l:List Tok)(k b e ns dp:Nat)(sg:ByteArray)(hk:k<l.length):aL prog 51 [pP P,.c (.val (.string sg))] [P] (RSt A B rw P l k b e ns dp) fun t s=>t=.c (.val (.bool (decide (e=0) && cAf l k sg))) /\ s=RSt A B rw P l k b e ns dp:=by
 unfold cAf
 rw [bG hk]
 by_cases he:e=0
 ·subst he
  by_cases h4:l[k].kind=4
  ·by_cases ht:l[k].text=sg
   ·simpa [h4,ht] using bFs A B rw P l k b ns dp sg hk h4 ht
   simpa [h4,ht] using bFu A B rw P l k b ns dp sg hk h4 ht
  by_cases h3:l[k].kind=3
  ·by_cases ht:l[k].text=sg
   ·simpa [h3,ht] using bFt A B rw P l k b ns dp sg hk h4 h3 ht
   simpa [h3,ht] using bFw A B rw P l k b ns dp sg hk h4 h3 ht
  simpa [h4,h3] using bFy A B rw P l k b ns dp sg hk h4 h3
 simpa [he] using bFx A B rw P l k b ns dp e sg hk he
theorem bEp{l:List Tok}(h:TOk l){k:Nat}(hk:k<l.length){s:List UInt8}(hr:dA (bytes s)=false):cAf l k (bytes s)=cS l k s:=by
 unfold cAf cS
 rw [bG hk]
 have h1:=h.reg _ (getElem_mem hk)
 by_cases ht:l[k].text=bytes s
 ·by_cases h3:l[k].kind=3
  ·have:=h1.1 h3;rw [ht,hr] at this;cases this
  simp [ht,h3]
 simp [ht]
theorem bE6{l:List Tok}(h:TOk l){k:Nat}(hk:k<l.length){s:List UInt8}(hr:dA (bytes s)=true):cAf l k (bytes s)=dN l k s:=by
 unfold cAf dN
 rw [bG hk]
 have h1:=h.reg _ (getElem_mem hk)
 by_cases ht:l[k].text=bytes s
 ·by_cases h4:l[k].kind=4
  ·have:=h1.2.1 h4;rw [ht,hr] at this;cases this
  simp [ht,h4]
 simp [ht]
theorem bE8{l:List Tok}(h:TOk l){k:Nat}(hk:k<l.length){s:ByteArray}(ha:cAf l k s=true):k+1<l.length:=by
 refine h.last.more hk fun h5=>?_
 unfold cAf at ha
 rw [h5] at ha;simp at ha
theorem bEu(A B:List Box)(rw:List bA)(P:Nat)(l:List Tok)(k b e ns dp:Nat)(sg:ByteArray)(hok:TOk l)(hk:k<l.length):aL prog 53 [pP P,.c (.val (.string sg))] [P] (RSt A B rw P l k b e ns dp) fun t s=>(e=0 /\ cAf l k sg=true /\ k+1<l.length /\ t=.c (.val (.bool true)) /\ s=RSt A B rw P l (k+1) b 0 ns dp)∨(¬(e=0 /\ cAf l k sg=true) /\ t=.c (.val (.bool false)) /\ s=RSt A B rw P l k b e ns dp):=by
 have hlen:=hok.len
 refine acB func53 rfl ?_
 show AWp prog _ ⟨16,[P],⟨A++⟨P,112,[.sl l.length (l.flatMap aW),nC k,nC b,nC e,nC ns,nC dp]⟩::B,rw⟩,[(0,pP P),(1,.c (.val (.string sg)))]⟩ _
 refine go 10 ?_
 refine wcQ rfl call51 rfl (bFv (A) _ _ _ l k b e ns dp _ hk) ?_
 rintro t1 s1 ⟨rfl,rfl⟩
 refine wyz rfl (lF  rfl rfl) (go 2 ?_)
 refine gY rfl (fun hc2=>?_) (fun hc2=>?_)
 ·refine go 7 ?_
  exact bHe (s':=(RSt A B rw P l (k) (b) (e) (ns) (dp))) rfl sb0 (.inr ⟨fun h=>by simp [h.1,h.2] at hc2,rfl,rfl⟩)
 obtain ⟨rfl,ha⟩:e=0 /\ cAf l k sg=true:=by simpa using hc2
 have hm:=bE8 hok hk ha
 refine go 8 ?_
 refine wad rfl (go 11 ?_)
 exact bHe (s':=(RSt A B rw P l (k+1) (b) (0) (ns) (dp))) rfl sb0 (.inl ⟨rfl,ha,hm,rfl,rfl⟩)
theorem bD5(A B:List Box)(rw:List bA)(P:Nat)(l:List Tok)(k b e ns dp:Nat)(sg:List UInt8)(hr:dA (bytes sg)=false)(hok:TOk l)(hk:k<l.length):aL prog 53 [pP P,.c (.val (.string (bytes sg)))] [P] (RSt A B rw P l k b e ns dp) fun t s=>(e=0 /\ cS l k sg=true /\ k+1<l.length /\ t=.c (.val (.bool true)) /\ s=RSt A B rw P l (k+1) b 0 ns dp)∨((e=0 -> cS l k sg=false) /\ t=.c (.val (.bool false)) /\ s=RSt A B rw P l k b e ns dp):=by
 refine (bEu A B rw P l k b e ns dp (bytes sg) hok hk).mono fun t s h=>?_
 rw [bEp hok hk hr] at h
 refine h.imp id fun ⟨h1,h2⟩=>⟨fun h0=>?_,h2⟩
 cases hs:cS l k sg with
 |false=>rfl
 |true=>exact absurd ⟨h0,hs⟩ h1
theorem bD2(A B:List Box)(rw:List bA)(P:Nat)(l:List Tok)(k b e ns dp:Nat)(sg:List UInt8)(hr:dA (bytes sg)=true)(hok:TOk l)(hk:k<l.length):aL prog 53 [pP P,.c (.val (.string (bytes sg)))] [P] (RSt A B rw P l k b e ns dp) fun t s=>(e=0 /\ dN l k sg=true /\ k+1<l.length /\ t=.c (.val (.bool true)) /\ s=RSt A B rw P l (k+1) b 0 ns dp)∨((e=0 -> dN l k sg=false) /\ t=.c (.val (.bool false)) /\ s=RSt A B rw P l k b e ns dp):=by
 refine (bEu A B rw P l k b e ns dp (bytes sg) hok hk).mono fun t s h=>?_
 rw [bE6 hok hk hr] at h
 refine h.imp id fun ⟨h1,h2⟩=>⟨fun h0=>?_,h2⟩
 cases hs:dN l k sg with
 |false=>rfl
 |true=>exact absurd ⟨h0,hs⟩ h1
def aC7(e b k x b1 e1:Nat):Prop:=(e=0 -> k=b1 /\ x=e1) /\ (e≠0 -> b=b1 /\ e=e1)
theorem bEa(A B:List Box)(rw:List bA)(P:Nat)(l:List Tok)(k b e ns dp:Nat)(x:Nat):aL prog 52 [pP P,.c (.val (.int .i64 (x:Int)))] [P] (RSt A B rw P l k b e ns dp) fun t s=>∃b1 e1,aC7 e b k x b1 e1 /\ t=.tup [] /\ s=RSt A B rw P l k b1 e1 ns dp:=by
 by_cases he:e=0
 ·subst he
  exact (bFr A B rw P l k b ns dp x).mono fun t s h=>⟨k,x,⟨fun _=>⟨rfl,rfl⟩,fun h=>absurd rfl h⟩,h⟩
 exact (bFo A B rw P l k b ns dp x e he).mono fun t s h=>⟨b,e,⟨fun h=>absurd h he,fun _=>⟨rfl,rfl⟩⟩,h⟩
theorem aC7.run{α:Type}{e b k x b1 e1:Nat}{r:bN α}(h:aC7 e b k x b1 e1)(hx:x≠0)(hr:e=0 -> r=.err k x)(y:α)(k1:Nat):kX e b r y k1 b1 e1:=by
 by_cases he:e=0
 ·obtain ⟨rfl,rfl⟩:=h.1 he
  subst he
  exact .err _ _ _ _ _ (hr rfl) hx
 obtain ⟨rfl,rfl⟩:=h.2 he
 exact .skip he _ _ _
theorem aC7.small{e b k x b1 e1:Nat}(h:aC7 e b k x b1 e1)(he:e<16)(hx:x<16):e1<16:=by
 by_cases h0:e=0
 ·rw [←(h.1 h0).2];exact hx
 rw [←(h.2 h0).2];exact he
theorem bZx(A B:List Box)(rw:List bA)(P:Nat)(l:List Tok)(k b e ns dp:Nat)(sg:List UInt8)(hr:dA (bytes sg)=false)(hok:TOk l)(hk:k<l.length)(he:e<16):aL prog 86 [pP P,.c (.val (.string (bytes sg)))] [P] (RSt A B rw P l k b e ns dp) fun t s=>RAn A B rw P l ns dp (fun _=>.tup []) e b (fD l sg k) t s:=by
 refine acB func86 rfl ?_
 show AWp prog _ ⟨10,[P],⟨A++⟨P,112,[.sl l.length (l.flatMap aW),nC k,nC b,nC e,nC ns,nC dp]⟩::B,rw⟩,[(0,pP P),(1,.c (.val (.string (bytes sg))))]⟩ _
 refine go 4 ?_
 refine wcQ rfl call53 rfl (bD5 (A) _ _ _ l k b e ns dp sg hr hok hk) ?_
 rintro t1 s1 (⟨rfl,ha1,hm1,rfl,rfl⟩|⟨ha1,rfl,rfl⟩)
 ·refine go 5 ?_
  exact ⟨.inl rfl,_,(RSt A B rw P l (k+1) (b) (0) (ns) (dp)),cH rfl,aA (.refl _) (.refl _),⟨(),k+1,b,0,rfl,.ok _ _ _ (by unfold fD;rw [if_pos ha1]),hm1,by decide,rfl⟩⟩
 refine go 6 ?_
 refine wcQ rfl call52 rfl (bEa (A) _ _ _ l k b e ns dp 4) ?_
 rintro t4 s4 ⟨b4x,e4x,hf4,rfl,rfl⟩
 refine go 1 ?_
 exact ⟨.inl rfl,_,(RSt A B rw P l (k) (b4x) (e4x) (ns) (dp)),cH rfl,aA (.refl _) (.refl _),⟨(),k,b4x,e4x,rfl,hf4.run (by decide) (fun h=>by unfold fD;rw [if_neg (by rw [ha1 h];decide)]) _ _,hk,(hf4.small he (by decide)),rfl⟩⟩
theorem bFp(A B:List Box)(rw:List bA)(P:Nat)(l:List Tok)(k b ns dp kk e:Nat)(hk:k<l.length)(he0:e≠0):aL prog 50 [pP P,.c (.val (.int .i64 (kk:Int)))] [P] (RSt A B rw P l k b e ns dp) fun t s=>t=.c (.val (.bool false)) /\ s=RSt A B rw P l k b e ns dp:=by
 refine acB func50 rfl ?_
 show AWp prog _ ⟨25,[P],⟨A++⟨P,112,[.sl l.length (l.flatMap aW),nC k,nC b,nC e,nC ns,nC dp]⟩::B,rw⟩,[(0,pP P),(1,.c (.val (.int .i64 (kk:Int))))]⟩ _
 refine go 6 ?_
 refine dx [P] (tz [(0,true),(1,true),(2,true),(3,true)] 17 (go 5 ?_))
 refine tx 4 rfl (bO false rfl rfl rfl (lA he0)) (tz [(5,true),(6,true),(7,true),(8,true),(9,true),(10,true),(11,true),(12,true),(13,true),(14,true),(15,true),(16,true),(17,true),(18,true),(19,true),(20,true)] 0 (go 17 ?_))
 refine ax (go 2 ?_)
 exact bHe (s':=(RSt A B rw P l (k) (b) (e) (ns) (dp))) rfl sb0 ⟨rfl,rfl⟩
theorem bFq(A B:List Box)(rw:List bA)(P:Nat)(l:List Tok)(k b ns dp kk:Nat)(hk:k<l.length):aL prog 50 [pP P,.c (.val (.int .i64 (kk:Int)))] [P] (RSt A B rw P l k b 0 ns dp) fun t s=>t=.c (.val (.bool (decide (l[k].kind=kk)))) /\ s=RSt A B rw P l k b 0 ns dp:=by
 refine acB func50 rfl ?_
 show AWp prog _ ⟨25,[P],⟨A++⟨P,112,[.sl l.length (l.flatMap aW),nC k,nC b,nC 0,nC ns,nC dp]⟩::B,rw⟩,[(0,pP P),(1,.c (.val (.int .i64 (kk:Int))))]⟩ _
 refine go 6 ?_
 refine dx [P] (tz [(0,true),(1,true),(2,true),(3,true)] 17 (go 5 ?_))
 refine tx 4 rfl (bO true rfl rfl rfl (by rfl)) (tz [(5,true),(6,true),(7,true),(8,true),(9,true),(10,true),(11,true),(12,true),(13,true)] 7 (go 10 ?_))
 refine tx 14 rfl (bH aW aW l bJ (fun _=>rfl) (k) rfl rfl rfl rfl hk (by decide) runUnderlying36 sizeOf66) (tz [(15,true),(16,true),(17,true)] 3 (go 4 ?_))
 refine tx 18 rfl (bO (decide (l[k].kind=kk)) rfl rfl rfl jS) (tz [(19,true),(20,true)] 0 (go 3 ?_))
 refine ax (go 2 ?_)
 exact bHe (s':=(RSt A B rw P l (k) (b) (0) (ns) (dp))) rfl sb0 ⟨rfl,rfl⟩
theorem bFb(A B:List Box)(rw:List bA)(P:Nat)(l:List Tok)(k b e ns dp:Nat)(kk:Nat)(hk:k<l.length):aL prog 50 [pP P,.c (.val (.int .i64 (kk:Int)))] [P] (RSt A B rw P l k b e ns dp) fun t s=>t=.c (.val (.bool (decide (e=0) && decide ((bU l k).kind=kk)))) /\ s=RSt A B rw P l k b e ns dp:=by
 rw [bG hk]
 by_cases he:e=0
 ·subst he;simpa using bFq A B rw P l k b ns dp kk hk
 simpa [he] using bFp A B rw P l k b ns dp kk e hk he
theorem bEb(A B:List Box)(rw:List bA)(P:Nat)(l:List Tok)(k b e ns dp:Nat)(hok:TOk l)(hk:k<l.length)(he:e<16):aL prog 56 [pP P] [P] (RSt A B rw P l k b e ns dp) fun t s=>RAn A B rw P l ns dp (fun x=>.c (.val (.string x))) e b (jW l k) t s:=by
 have hlen:=hok.len
 refine acB func56 rfl ?_
 show AWp prog _ ⟨27,[P],⟨A++⟨P,112,[.sl l.length (l.flatMap aW),nC k,nC b,nC e,nC ns,nC dp]⟩::B,rw⟩,[(0,pP P)]⟩ _
 refine go 9 ?_
 refine wcQ rfl call50 rfl (bFb (A) _ _ _ l k b e ns dp 1 hk) ?_
 rintro t1 s1 ⟨rfl,rfl⟩
 refine wyz rfl (lF  rfl rfl) (go 2 ?_)
 refine gY rfl (fun hc2=>?_) (fun hc2=>?_)
 ·refine go 3 ?_
  refine wcQ rfl call52 rfl (bEa (A) _ _ _ l k b e ns dp 4) ?_
  rintro t3 s3 ⟨b3x,e3x,hf3,rfl,rfl⟩
  refine go 9 ?_
  exact bHe (s':=(RSt A B rw P l (k) (b3x) (e3x) (ns) (dp))) rfl sb0 ⟨aK,k,b3x,e3x,rfl,hf3.run (by decide) (fun h=>by unfold jW;rw [if_neg (fun h2=>by simp [h,h2] at hc2)]) _ _,hk,(hf3.small he (by decide)),rfl⟩
 obtain ⟨rfl,ha⟩:e=0 /\ (bU l k).kind=1:=by simpa using hc2
 have hm:=hok.last.more hk (by omega)
 refine go 8 ?_
 refine wad rfl (go 6 ?_)
 refine dx [P] (tz [(0,true),(1,true),(2,true),(3,true),(4,true),(5,true),(6,true),(7,true)] 5 (go 9 ?_))
 refine tx 8 rfl (qC rfl rfl rfl (by omega) (by omega)) ?_
 refine tx 9 rfl (bH aW aW l bJ (fun _=>rfl) k rfl rfl rfl (by omega) hk (by decide) runUnderlying36 sizeOf66) (tz [(10,true),(11,true),(12,true)] 0 (go 4 ?_))
 refine ax (go 2 ?_)
 exact bHe (s':=(RSt A B rw P l (k+1) (b) (0) (ns) (dp))) rfl sb0 ⟨_,k+1,b,0,rfl,.ok _ _ _ (by unfold jW;rw [if_pos ha,bG hk]),hm,by decide,rfl⟩
end
end Go.Proofs.YtojinfngbbajgaaGreatDoor
