import Derived.Test.YtlmpchoaebhhmaaGreatDoorL5J
import Derived.Test.YtlmpchoaebhhmaaGreatDoorL27J
import Derived.Test.YtlmpchoaebhhmaaGreatDoorL31J
import Derived.Test.YtlmpchoaebhhmaaGreatDoorL7J
import Derived.Test.YtlmpchoaebhhmaaGreatDoorProg
import Derived.KernelRfl
import Derived.Lib.SlBytesConst
import Derived.Test.YtlmpchoaebhhmaaGreatDoorCards
import Derived.Test.YtlmpchoaebhhmaaGreatDoorTie
import Derived.ProofKit
import Derived.OpenShut
import Derived.Carry
import Derived.Deep.DeepHandedRow
import Derived.LaidMore
import Derived.Lib.LaidTab
import Derived.Shelf.Vars
import Derived.Test.YtlmpchoaebhhmaaGreatDoorL6J
import Derived.Test.YtlmpchoaebhhmaaGreatDoorL13J
import Derived.Lib.AppendStr
set_option linter.all false
set_option synthInstance.maxHeartbeats 1000000
set_option synthInstance.maxSize 1000000
set_option maxHeartbeats 1600000
set_option maxRecDepth 100000
namespace Go.Proofs.YtlmpchoaebhhmaaGreatDoor
open Go.Proofs.Tryz
open List (length_append length_cons length_nil mem_append mem_cons not_mem_nil append_assoc getElem_mem take_of_length_le)
section
open Go.RowKit
theorem bGu(bs:List UInt8)(m:Int)(s:Sto):aL prog 17 [aC0 bs m] [] s fun t s'=>t=.c (.val (.bool true)) /\ s'=s:=by
 obtain ⟨bx,rw⟩:=s
 refine acB func17 rfl ?_
 show AWp prog _ ⟨34,[],⟨bx,rw⟩,[(0,aC0 bs m)]⟩ _
 refine go 8 ?_
 refine wo rfl (aHw 0 [] rfl rfl (by decide) call28 rfl rfl (tQ bs m _) bDl bDl (fun _=>bDl) ?_)
 rintro t1 s1 ⟨rfl,rfl⟩
 refine go 13 fun b1=>?_
 refine wo rfl (bD [] rfl rfl (by decide) call35 rfl (bGw bs _) bDl bDl (fun _=>bDl) ?_)
 rintro t2 s2 ⟨rfl,rfl⟩
 refine go 14 fun b2=>?_
 refine wcp true rfl (by simp [bC]) ?_
 refine go 3 ?_
 refine wcp true rfl (by simp [bC]) ?_
 refine go 4 ?_
 refine wo rfl (bD [] rfl rfl (by decide) call29 rfl (aMe _ (aFh bs) _) bDl bDl (fun _=>bDl) ?_)
 rintro t3 s3 ⟨rfl,rfl⟩
 refine go 5 ?_
 exact bHe (s':=⟨bx,rw⟩) rfl sb2 ⟨rfl,rfl⟩
end
section
open Go.RowKit
def aCh:List UInt8:=[109,117,116,101,120,32,97,59,32,102,117,110,99,32,109,97,105,110,40,41,32,123,32,108,111,99,107,32,97,59,32,117,110,108,111,99,107,32,97,59,32,125]
def aJ9:List UInt8:=[109,117,116,101,120,32,97,59,32,97]
theorem aQu:((jM aCh).2.1,(jM aCh).2.2,(jM aCh).1.mutexes.length,(jM aCh).1.funcs.map fun f=>f.body.length)=(42,0,1,[2]):=by kernel_rfl
theorem aP7:((jM aJ9).2.1,(jM aJ9).2.2)=(9,4):=by kernel_rfl
theorem zM(bs:List UInt8)(v:Value)(w:World)(hv:∃m,dO (bI [] w) (aC0 bs m) v):Calls prog 28 #[v] w fun e w'=>(∃g u f,e=.returned (.tuple #[.agg #[g,u,f],.int .i64 ((jM bs).2.1:Int),.int .i64 ((jM bs).2.2:Int)]) /\ fG (bI [] w') (jV (jM bs).1) [g,u,f]) /\ Below w.heap.size w w':=by
 obtain ⟨m,hv⟩:=hv
 have hm:Mem ⟨[],[]⟩ w:=⟨List.nodup_nil,(fun b hb=>absurd hb (by simp [Sto.bl])),(fun x hx=>absurd hx (by simp)),(fun x hx=>absurd hx (by simp))⟩
 refine (tQ bs m ⟨[],[]⟩ [v] w hm (fun b hb=>absurd hb (by simp)) rfl fun i hi hi'=>?_).mono fun e w' ⟨r,v',s',h1,⟨h2,h3⟩,h4,h5,h6,h7⟩=>?_
 ·obtain rfl:i=0:=by simpa using hi
  exact hv
 subst h2;subst h3
 refine ⟨?_,h6.os,h6.tape,h6.output,h6.size,fun k hk=>h6.block k hk (by simp)⟩
 cases h4 with
 |tup _ vs hl hh=>
  obtain ⟨a,b,c,rfl⟩:∃a b c,vs=[a,b,c]:=by
   match vs,hl with
   |[a,b,c],_=>exact ⟨a,b,c,rfl⟩
  have h0:=hh 0 (by simp) (by simp)
  have hb:=hh 1 (by simp) (by simp)
  have hc:=hh 2 (by simp) (by simp)
  simp only [List.getElem_cons_zero,List.getElem_cons_succ] at h0 hb hc
  cases hb with|c _ _ hb=>cases hb with|val _ _=>cases hc with|c _ _ hc=>cases hc with|val _ _=>cases h0 with|agg _ us hu=>
   obtain ⟨g,u,f,rfl⟩:∃g u f,us=[g,u,f]:=by
    have:=hu.len
    match us,this with
    |[a,b,c],_=>exact ⟨a,b,c,rfl⟩
   exact ⟨g,u,f,h1,hu⟩
theorem aIp{bs:List UInt8}{v:Value}{w:World}(he:Env w)(hv:dD w v bs.length (cC bs))(hc:∀a k c,v=.slice a k c -> c <= 9223372036854775807):∃m,dO (bI [] w) (aC0 bs m) v:=by
 obtain ⟨m,hm⟩:=he.maxLen
 have hid:∀a:Addr,(bI [] w).cell? a=w.cell? a:=fun a=>eW _ _ _ (by simp)
 refine ⟨m,.fact _ _ _ _ [.int .i64 m] _ (.fact _ _ _ _ (words.map .string) _ (.c _ _ (.sl _ _ (cC bs) _ (hv.mono fun a u h=>by rw [hid];exact h) (by simp [iF,cC]) ?_ hc)) ?_ ?_) ?_ ?_⟩
 ·have h9:=gU (bI [] w) (cC bs) (fun u hu=>by obtain ⟨c,_,rfl⟩:=List.mem_map.1 hu;rfl)
  have e1:(cC bs).map AC.val=iF bs:=by simp [cC,iF]
  rw [e1] at h9;exact h9.at_
 ·have h9:=gU (bI [] w) (words.map .string) (fun u hu=>by obtain ⟨c,_,rfl⟩:=List.mem_map.1 hu;rfl)
  rw [List.map_map] at h9;exact h9
 ·intro j u hj
  rw [hid]
  have hjl:j<words.length:=by have:=(List.getElem?_eq_some_iff.1 hj).1;simpa using this
  rw [he.words j hjl]
  rw [List.getElem?_map,List.getElem?_eq_getElem hjl] at hj
  simp at hj;subst hj
  simp [List.getD,hjl]
 ·exact gU _ [.int .i64 m] (fun u hu=>by simp at hu;subst hu;rfl)
 intro j u hj
 rw [hid]
 match j,hj with
 |0,hj=>simp at hj;subst hj;exact hm
 |j+1,hj=>simp at hj
theorem aMf(v:Value)(w:World)(he:Env w)(hv:dD w v aCh.length (cC aCh))(hc:∀a k c,v=.slice a k c -> c <= 9223372036854775807):Calls prog 28 #[v] w fun e w'=>(∃ga gn gc a c b off c2 a3 c3,e=.returned (.tuple #[.agg #[.slice ga gn gc,.slice a 1 c,.slice (some ⟨b,off,none⟩) 1 c2],.int .i64 42,.int .i64 0]) /\ 1 <= c2 /\ w'.cell? ⟨b,off+2,none⟩=some (.slice a3 2 c3)) /\ Below w.heap.size w w':=by
 refine (zM aCh v w (aIp he hv hc)).mono fun e w' ⟨⟨g,u,f,h1,h2⟩,hb⟩=>⟨?_,hb⟩
 have hx:=aQu
 simp only [Prod.mk.injEq] at hx
 obtain ⟨x1,x2,x3,x4⟩:=hx
 rw [x1,x2] at h1
 generalize (jM aCh).1=p at h2 x3 x4
 have hu:=h2.at_ 1 (by simp [jV]) (by simp)
 have hf:=h2.at_ 2 (by simp [jV]) (by simp)
 have hg:=h2.at_ 0 (by simp [jV]) (by simp)
 simp only [jV,List.getElem_cons_zero,List.getElem_cons_succ] at hu hf hg
 obtain ⟨ga,gn,gc,rfl⟩:∃ga gn gc,g=.slice ga gn gc:=by cases hg with|sl _ _ _ _ hr _ _ _=>obtain ⟨p,q,rfl,_⟩:=hr;exact ⟨_,_,_,rfl⟩
 rw [x3] at hu
 obtain ⟨F,hF,hFb⟩:∃F,p.funcs=[F] /\ F.body.length=2:=by
  generalize p.funcs=q at x4
  match q,x4 with
  |[F],x4=>exact ⟨F,rfl,by simpa using x4⟩
  |[],x4=>simp at x4
  |_::_::_,x4=>simp at x4
 rw [hF] at hf
 cases hu with
 |sl _ _ us1 _ hr1 _ _ _=>
  obtain ⟨a,c,rfl,_⟩:=hr1
  cases hf with
  |sl _ _ us2 _ hr2 hl2 hh2 _=>
   obtain ⟨a2,c2,rfl,hc2,hr2⟩:=hr2
   have hl3:2<us2.length:=by rw [hl2];simp [fV]
   have h3:Rep (bI [] w') (.sl F.body.length (F.body.flatMap encS)) us2[2]:=hh2 2 (by simp [fV]) hl3
   generalize hz:us2[2]=z at h3
   rw [hFb] at h3
   cases h3 with
   |sl _ _ us3 _ hr3 _ _ _=>
    obtain ⟨a3,c3,rfl,_⟩:=hr3
    rcases hr2 with h0|⟨b,off,rfl,hr2⟩
    ·rw [h0] at hl2;simp [fV] at hl2
    refine ⟨ga,_,gc,a,c,b,off,c2,a3,c3,h1,by simpa using hc2,?_⟩
    exact (gA (hr2 2 _ (by rw [List.getElem?_eq_getElem hl3,hz]))).1
theorem aMo(v:Value)(w:World)(he:Env w)(hv:dD w v aJ9.length (cC aJ9))(hc:∀a k c,v=.slice a k c -> c <= 9223372036854775807):Calls prog 28 #[v] w fun e w'=>(∃ga gn gc ua un uc fa fn fc,e=.returned (.tuple #[.agg #[.slice ga gn gc,.slice ua un uc,.slice fa fn fc],.int .i64 9,.int .i64 4])) /\ Below w.heap.size w w':=by
 refine (zM aJ9 v w (aIp he hv hc)).mono fun e w' ⟨⟨g,u,f,h1,h2⟩,hb⟩=>⟨?_,hb⟩
 have sl:∀{n:Nat} {cs:List AC} {v:Value},Rep (bI [] w') (.sl n cs) v -> ∃a n c,v=.slice a n c:=fun h=>by cases h with|sl _ _ _ _ hr _ _ _=>obtain ⟨p,q,rfl,_⟩:=hr;exact ⟨_,_,_,rfl⟩
 obtain ⟨ga,gn,gc,rfl⟩:=sl (h2.at_ 0 (by simp [jV]) (by simp))
 obtain ⟨ua,un,uc,rfl⟩:=sl (h2.at_ 1 (by simp [jV]) (by simp))
 obtain ⟨fa,fn,fc,rfl⟩:=sl (h2.at_ 2 (by simp [jV]) (by simp))
 refine ⟨ga,gn,gc,ua,un,uc,fa,fn,fc,?_⟩
 have hx:=aP7
 simp only [Prod.mk.injEq] at hx
 rw [hx.1,hx.2] at h1;exact h1
end
section
open Go.RowKit
theorem aQw(w:World)(he:Env w):Calls prog 28 #[.slice (some ⟨w.heap.size,0,none⟩) 42 42] (w.alloc (Obj.cells #[Value.int .u8 109,Value.int .u8 117,Value.int .u8 116,Value.int .u8 101,Value.int .u8 120,Value.int .u8 32,Value.int .u8 97,Value.int .u8 59,Value.int .u8 32,Value.int .u8 102,Value.int .u8 117,Value.int .u8 110,Value.int .u8 99,Value.int .u8 32,Value.int .u8 109,Value.int .u8 97,Value.int .u8 105,Value.int .u8 110,Value.int .u8 40,Value.int .u8 41,Value.int .u8 32,Value.int .u8 123,Value.int .u8 32,Value.int .u8 108,Value.int .u8 111,Value.int .u8 99,Value.int .u8 107,Value.int .u8 32,Value.int .u8 97,Value.int .u8 59,Value.int .u8 32,Value.int .u8 117,Value.int .u8 110,Value.int .u8 108,Value.int .u8 111,Value.int .u8 99,Value.int .u8 107,Value.int .u8 32,Value.int .u8 97,Value.int .u8 59,Value.int .u8 32,Value.int .u8 125] 5 (42,43))) fun e w'=>(∃ga gn gc a c b off c2 a3 c3,e=.returned (.tuple #[.agg #[.slice ga gn gc,.slice a 1 c,.slice (some ⟨b,off,none⟩) 1 c2],.int .i64 42,.int .i64 0]) /\ 1 <= c2 /\ w'.cell? ⟨b,off+2,none⟩=some (.slice a3 2 c3)) /\ Below w.heap.size w w':=
 (aMf _ _ (he.alloc _) (dD.new_mark w (cC aCh) 5 42 (42,43)) (fun _ _ _ h=>by cases h;decide)).mono fun e w' ⟨h,hb⟩=>⟨h,((Below.refl _ _).alloc (Nat.le_refl _) _).trans (hb.mono (by simp))⟩
theorem aQn(w:World)(he:Env w):Calls prog 28 #[.slice (some ⟨w.heap.size,0,none⟩) 10 10] (w.alloc (Obj.cells #[Value.int .u8 109,Value.int .u8 117,Value.int .u8 116,Value.int .u8 101,Value.int .u8 120,Value.int .u8 32,Value.int .u8 97,Value.int .u8 59,Value.int .u8 32,Value.int .u8 97] 5 (10,11))) fun e w'=>(∃ga gn gc ua un uc fa fn fc,e=.returned (.tuple #[.agg #[.slice ga gn gc,.slice ua un uc,.slice fa fn fc],.int .i64 9,.int .i64 4])) /\ Below w.heap.size w w':=
 (aMo _ _ (he.alloc _) (dD.new_mark w (cC aJ9) 5 10 (10,11)) (fun _ _ _ h=>by cases h;decide)).mono fun e w' ⟨h,hb⟩=>⟨h,((Below.refl _ _).alloc (Nat.le_refl _) _).trans (hb.mono (by simp))⟩
theorem aH8(w:World)(X:Obj)(he:Env w):Calls prog 28 #[.slice (some ⟨w.heap.size+1,0,none⟩) 10 10] ((w.alloc X).alloc (Obj.cells #[Value.int .u8 109,Value.int .u8 117,Value.int .u8 116,Value.int .u8 101,Value.int .u8 120,Value.int .u8 32,Value.int .u8 97,Value.int .u8 59,Value.int .u8 32,Value.int .u8 97] 5 (10,11))) fun e w'=>(∃ga gn gc ua un uc fa fn fc,e=.returned (.tuple #[.agg #[.slice ga gn gc,.slice ua un uc,.slice fa fn fc],.int .i64 9,.int .i64 4])) /\ Below (w.heap.size+1) (w.alloc X) w':=by
 have h:=aQn (w.alloc X) (he.alloc _)
 have e1:(w.alloc X).heap.size=w.heap.size+1:=by simp
 rw [e1] at h;exact h
theorem aH2(w:World)(he:Env w):
  Calls prog 18 #[] w fun e w'=>e=.returned (.bool true) /\ Below w.heap.size w w':=by
 have kc:=fun (w:World) (C:Array Value) (n c:Nat)=>Lib.run_convert_bytes_const (P:=prog) w 23 5 C n c underlying23 underlying5
 go_enter func18,Tryz.ntmps18
 go_wp2_with (go_at_call 28;((with_reducible refine (aQw w he).mono ?_);rintro e w1 ⟨⟨ga,gn,gc,a,c,b,off,c2,a3,c3,rfl,hc2,hcell⟩,hb1⟩))
 have he1:Env w1:=he.below hb1 he.size
 have hs1:=hb1.size
 have key:∀w2,Below w1.heap.size w1 w2 -> Env w2 /\ w2.cell? ⟨b,off+2,none⟩=some (.slice a3 2 c3):=fun w2 hb2=>⟨he1.below hb2 he1.size,by rw [hb2.cell (p:=⟨b,off+2,none⟩) (gV hcell)];exact hcell⟩
 have KEY:=Lib.hid key
 clear key
 have HQ:∀w2,Below (w1.heap.size+1) (w1.alloc (Obj.cells #[Value.slice ga gn gc,Value.slice a 1 c,Value.slice (some ⟨b,off,none⟩) 1 c2] 35)) w2 -> (∀X,(w2.alloc X).cell? ⟨w1.heap.size,1,none⟩=some (.slice a 1 c)) /\ (∀X,(w2.alloc X).cell? ⟨w1.heap.size,2,none⟩=some (.slice (some ⟨b,off,none⟩) 1 c2)) /\ (∀X,(w2.alloc X).cell? ⟨b,off+2,none⟩=some (.slice a3 2 c3)):=by
  intro w2 hb2
  have hs2:=hb2.size
  simp only [World.size_alloc] at hs2
  have h1:∀o u,(w1.alloc (Obj.cells #[Value.slice ga gn gc,Value.slice a 1 c,Value.slice (some ⟨b,off,none⟩) 1 c2] 35)).cell? ⟨w1.heap.size,o,none⟩=some u -> ∀X,(w2.alloc X).cell? ⟨w1.heap.size,o,none⟩=some u:=fun o u h X=>by
   rw [World.cell?_alloc_lt w2 _ ⟨w1.heap.size,o,none⟩ (by show w1.heap.size<w2.heap.size;omega),hb2.cell (p:=⟨w1.heap.size,o,none⟩) (by show w1.heap.size<_;omega)];exact h
  have hbl:=gV hcell
  refine ⟨h1 1 _ (by simp [World.cell?_alloc_mark]),h1 2 _ (by simp [World.cell?_alloc_mark]),fun X=>?_⟩
  rw [World.cell?_alloc_lt w2 _ ⟨b,off+2,none⟩ (by show b<w2.heap.size;have:b<w1.heap.size:=hbl;omega),hb2.cell (p:=⟨b,off+2,none⟩) (by show b<_;have:b<w1.heap.size:=hbl;omega),World.cell?_alloc_lt w1 _ ⟨b,off+2,none⟩ hbl];exact hcell
 have kc2:=fun (X:Obj) (C:Array Value) (n c:Nat)=>kc (w1.alloc X) C n c
 simp only [World.size_alloc] at kc2
 go_wp2_with (first|(go_at_call 28;((with_reducible refine (aH8 w1 _ he1).mono ?_);rintro e w2 ⟨⟨ga2,gn2,gc2,ua2,un2,uc2,fa2,fn2,fc2,rfl⟩,hb2⟩)))
 rw [kc2]
 go_wp2_with (first|(go_at_call 28;((with_reducible refine (aH8 w1 _ he1).mono ?_);rintro e w2 ⟨⟨ga2,gn2,gc2,ua2,un2,uc2,fa2,fn2,fc2,rfl⟩,hb2⟩;obtain ⟨q1,q2,q3⟩:=HQ w2 hb2)))
 go_ret
 have hb3:=(hb1.alloc hb1.size (Obj.cells #[Value.slice ga gn gc,Value.slice a 1 c,Value.slice (some ⟨b,off,none⟩) 1 c2] 35)).trans (hb2.mono (by have:=hb1.size;omega))
 exact ⟨rfl,hb3.alloc hb3.size _⟩
end
section
open Go.ChangeShapes Go.WideShapes Go.ChangeAt Go.RowKit
theorem own:ownKnob prog.godebug=none:=by kernel_rfl
theorem laidOut:laidOutB prog=true:=by kernel_rfl
theorem aRc : prog.globalNamed "lockorder/token.words" = some 0 := by kernel_rfl
theorem aA1{H:Type}{enc:TypeId×Value -> H}{P:Program}{w:World}{base:Nat}{sp:Nat -> Bool}{held:Bool}{fuel:Nat}{t e:TypeId}{n:Nat}{cs:List Value}{zs:List (List UInt8)}{p:List MemPlace}
  (ht:P.underlying t=some (.array n e)) (he:P.underlying e=some .string) (hce:P.cellsOf e=1) (hct:P.cellsOf t=n)
  (h:DataW.trod enc P w base sp held fuel t cs=some (.agg (zs.map fun z=>.lit (.string z)),p)):cs=zs.map fun z=>Value.string (bytes z):=by
 cases fuel with
 |zero=>simp [DataW.trod] at h
 |succ fuel=>
  simp only [DataW.trod,ht,hce,hct,Nat.mul_one] at h
  split at h
  ·rename_i hl
   obtain ⟨xs,hm,hx⟩:=Option.map_eq_some_iff.1 h
   have hxs:xs.map (·.1)=zs.map fun z=>(DataW.lit (.string z):DataW H):=by
    have:=congrArg Prod.fst hx
    simpa using this
   have hxl:xs.length=n:=by simpa using Lib.mapM_length hm
   have hzl:zs.length=n:=by
    have:=congrArg List.length hxs
    simp at this
    omega
   apply List.ext_getElem?
   intro i
   by_cases hi:i<n
   ·obtain ⟨b,hb,hf⟩:=Lib.mapM_at hm i i (by simp [hi])
    obtain ⟨z,hc,rfl,_⟩:=DataW.trod_string he hf
    have h1:cs[i]?=some (.string z):=by
     have:=congrArg (·[0]?) hc
     simpa [List.getElem?_take,List.getElem?_drop] using this
    have h2:(xs.map (·.1))[i]?=some (DataW.lit (.string z.data.toList):DataW H):=by simp [hb]
    rw [hxs] at h2
    simp only [List.getElem?_map,Option.map_eq_some_iff,DataW.lit.injEq,Lit.string.injEq] at h2
    obtain ⟨z',hz',he'⟩:=h2
    simp [h1,hz',bytes,he']
   rw [List.getElem?_eq_none (by omega),List.getElem?_eq_none (by simp;omega)]
  cases h
def aGj:List (List UInt8):=words.map fun b=>b.data.toList
theorem aQe {W : World} (h : laidMetH prog [("lockorder/token.words", Rows.laid_lockorder_token_words)] W) (hs : W.ShapedOpen prog) : Env W := by
 obtain ⟨ps, ⟨g', t', cs, fuel, p, q, hg', ht', hvar, hd, _, _⟩, _⟩ := (show laidMet prog [("lockorder/token.words", Rows.laid_lockorder_token_words)] W from h)
 obtain rfl:=Option.some.inj (aRc.symm.trans hg')
 obtain rfl:t'=235:=Option.some.inj (ht'.symm.trans (show (prog.globals[0]?).map (·.type)=some 235 by kernel_rfl))
 have hc:=aA1 (zs:=aGj) (n:=11) (e:=9) underlying235 underlying9 (by kernel_rfl) (by kernel_rfl) hd
 refine ⟨fun j hj=>?_,?_,?_⟩
 ·have:=World.var?_cell hg' hvar j
  rw [←Array.getElem?_toList,hc] at this
  rw [Nat.zero_add,this]
  have hj':j<11:=hj
  have:∀i,i<11 -> (aGj.map fun z=>Value.string (bytes z))[i]?=some (.string (words.getD i ByteArray.empty)):=by
   intro i hi
   simp only [aGj,List.map_map]
   rw [List.getElem?_map,List.getElem?_eq_getElem (show i<words.length from hi)]
   simp [List.getD,show i<words.length from hi,bytes]
  simpa using this j hj'
 ·exact cell_of_shapedOpen_int (zero:=#[.int .i64 0]) (t:=3) hs (of_decide_eq_true (by kernel_rfl)) (by kernel_rfl) rfl (by kernel_rfl) (by kernel_rfl) underlying3
 obtain ⟨m,hm⟩:=cell_of_shapedOpen_int (zero:=#[.int .i64 0]) (t:=3) (g:=1) hs (of_decide_eq_true (by kernel_rfl)) (by kernel_rfl) rfl (by kernel_rfl) (by kernel_rfl) underlying3
 have:=gV hm
 exact this
theorem sV{H:Type}{enc:TypeId×Value -> H}{W W':World}(hb:Below W.heap.size W W'):
  ∀{ts:List TypeId} {vs:List Value} {ds:List (DataW H)} {ps:List MemPlace},(∀t∈ts,prog.readableRec t=true /\ t<prog.types.size) -> DataW.TrodAll enc prog W 0 (fun _=>true) true ts vs ds ps -> (∀x∈ps,x.block<W.heap.size) ->
   DataW.TrodAll enc prog W' 0 (fun b=>decide (b<W.heap.size)) true ts vs ds ps
 |[],_,_,_,_,h,_=>by
  obtain ⟨rfl,rfl,rfl⟩:=trodAll_nil h
  exact trodAll_mk0
 |t::ts,_,_,_,hr,h,hlt=>by
  obtain ⟨v,vs1,d,ds1,a,b,rfl,rfl,rfl,h1,h2⟩:=trodAll_cons h
  have ht:=hr t (List.mem_cons_self ..)
  exact ⟨a,b,Below.trod laidOut ht.1 ht.2 h1 hb (fun x hx=>hlt x (List.mem_append_left _ hx)),
   sV hb (fun u hu=>hr u (List.mem_cons_of_mem _ hu)) h2 (fun x hx=>hlt x (List.mem_append_right _ hx)),rfl⟩
theorem aMc{H:Type}{enc:TypeId×Value -> H}{F:Func}{s:ChangeSpec}{W W':World}{args:Array Value}{ds gs:List (DataW H)}{before:List MemPlace}
  (hW:DataW.Whole enc prog F.params.toList s.vars false W args.toList ds gs before) (hv:s.vars=[]) (hfn:s.fn H ds={results:=[.lit (.bool true)],args:=ds})
  (hread:∀t∈F.params.toList,prog.readableRec t=true /\ t<prog.types.size) (hres:F.resultTypes=#[4]) (hb:Below W.heap.size W W'):
  ∃v,Ending.returned (.bool true)=.returned v /\ s.post enc prog F false true false false W args v W':=by
 refine ⟨_,rfl,?_⟩
 have hlt:∀p∈before,p.block<W.heap.size:=fun p hp=>by simpa using hW.lt p hp
 have hW':=hW
 obtain ⟨p,q,hA,hV,rfl,hfz,hnd⟩:=hW
 rw [hv] at hV
 obtain ⟨rfl,rfl⟩:=trodVars_none hV
 simp only [List.append_nil] at hlt hW'
 refine ⟨ds,[],p,[],p,[],hW',?_,?_,?_,?_,fun h=>by cases h⟩
 ·rw [hres,List.append_nil,hfn]
  exact trodAll_cons_mk (shut_bool underlying4 true) trodAll_mk0
 ·rw [List.append_nil,hfn]
  exact sV hb hread hA hlt
 ·rw [List.append_nil,hfn,hv];rfl
 exact hb.frame _
theorem aNi (os : Os) (args : Array Value) : laidMet prog [("lockorder/token.words", Rows.laid_lockorder_token_words)] ((World.doorLaid prog 60 os).forCall (fun _ _ => 0) ⟨#[], args, []⟩).memory :=
 laidMet_of_run' 8 (by kernel_rfl) (by kernel_rfl)
theorem aFm{W:World}{a:Addr}{u:Value}(h:W.cell? (a.add 0)=some u):∃b off,a=⟨b,off,none⟩:=by
 obtain ⟨b,off,sp⟩:=a
 cases sp with
 |none=>exact ⟨b,off,rfl⟩
 |some k=>
  exfalso
  simp only [Addr.add,if_true] at h
  unfold World.cell? at h
  split at h
  ·simp at h
  cases h
theorem bGq(n:Int)(h:(Lit.int .u8 n).wf=true):((UInt8.ofNat n.toNat).toNat:Int)=n:=by
 simp only [Lit.wf,Bool.and_eq_true,decide_eq_true_eq] at h
 have h1:(0:Int) <= n:=h.1
 have h2:n <= 255:=h.2
 rw [UInt8.toNat_ofNat'];omega
theorem bGx{H:Type}{enc:TypeId×Value -> H}{W:World}{base:Nat}{v:Value}{d:DataW H}{p:List MemPlace}(hval:Value.okWide prog W .any base 23 v)(hd:DataW.Trod enc prog W 0 (fun _=>true) true 23 v d p):
  ∃(s:List UInt8) (a:Option Addr) (cap:Nat),v=.slice a s.length cap /\ s.length <= cap /\ cap <= maxLen /\ dD W v s.length (cC s):=by
 obtain ⟨a,len,cap,rfl⟩:=okWide_slice underlying23 hval
 obtain ⟨fuel,hf⟩:=hd
 rcases open_ints underlying23 underlying5 (by kernel_rfl) hf with ⟨hcs,hx⟩|⟨a',len',cap',zs,hcs,_,hl,hm,hz,hx,hcell,hwz⟩
 ·simp [Value.cells] at hcs
  obtain ⟨rfl,rfl,rfl⟩:=hcs
  exact ⟨[],none,0,rfl,Nat.le_refl _,(by unfold maxLen;omega),dD.nil _⟩
 simp [Value.cells] at hcs
 obtain ⟨rfl,rfl,rfl⟩:=hcs
 simp only [if_true] at hz
 have hlen:((zs.take len).map fun n=>UInt8.ofNat n.toNat).length=len:=by rw [List.length_map,List.length_take];omega
 refine ⟨(zs.take len).map fun n=>UInt8.ofNat n.toNat,some a',cap,by rw [hlen],by rw [hlen];exact hl,hm,some a',cap,by rw [hlen],by rw [hlen];exact hl,?_⟩
 by_cases h0:len=0
 ·left;subst h0;rfl
 right
 obtain ⟨b,off,rfl⟩:=aFm (hcell 0 (by omega))
 refine ⟨b,off,rfl,fun j u hu=>?_⟩
 have hj:j<len:=by
  rcases Nat.lt_or_ge j len with h|h
  ·exact h
  rw [List.getElem?_eq_none (by simp only [cC,List.length_map];rw [hlen] at *;simp;omega)] at hu;cases hu
 have hc:=hcell j (by omega)
 rw [add_plain] at hc
 rw [hc]
 simp only [cC,List.map_map,List.getElem?_map,List.getElem?_take,if_pos hj,List.getElem?_eq_getElem (show j<zs.length by omega),Option.map_some,Function.comp] at hu
 rw [←hu,bGq _ (hwz _ (getElem_mem _))]
 simp [List.getD,show j<zs.length by omega]
end
section
open Go.ChangeShapes Go.WideShapes Go.ChangeAt Go.RowKit
theorem aHn{H:Type}{enc:TypeId×Value -> H}{W:World}{base:Nat}{v:Value}{d:DataW H}{p:List MemPlace}(hval:Value.okWide prog W .any base 22 v)(hd:DataW.Trod enc prog W 0 (fun _=>true) true 22 v d p):
  ∃(s:List Int) (a:Option Addr) (cap:Nat),v=.slice a s.length cap /\ s.length <= cap /\ cap <= maxLen /\ dD W v s.length (s.map (.int .i64)):=by
 obtain ⟨a,len,cap,rfl⟩:=okWide_slice underlying22 hval
 obtain ⟨fuel,hf⟩:=hd
 rcases open_ints underlying22 underlying3 (by kernel_rfl) hf with ⟨hcs,hx⟩|⟨a',len',cap',zs,hcs,_,hl,hm,hz,hx,hcell,hwz⟩
 ·simp [Value.cells] at hcs
  obtain ⟨rfl,rfl,rfl⟩:=hcs
  exact ⟨[],none,0,rfl,Nat.le_refl _,(by unfold maxLen;omega),dD.nil _⟩
 simp [Value.cells] at hcs
 obtain ⟨rfl,rfl,rfl⟩:=hcs
 simp only [if_true] at hz
 have hlen:(zs.take len).length=len:=by rw [List.length_take];omega
 refine ⟨zs.take len,some a',cap,by rw [hlen],by rw [hlen];exact hl,hm,some a',cap,by rw [hlen],by rw [hlen];exact hl,?_⟩
 by_cases h0:len=0
 ·left;subst h0;rfl
 right
 obtain ⟨b,off,rfl⟩:=aFm (hcell 0 (by omega))
 refine ⟨b,off,rfl,fun j u hu=>?_⟩
 have hj:j<len:=by
  rcases Nat.lt_or_ge j len with h|h
  ·exact h
  rw [List.getElem?_eq_none (by rw [List.length_map,hlen];exact h)] at hu;cases hu
 have hc:=hcell j (by omega)
 rw [add_plain] at hc
 rw [hc]
 simp only [List.getElem?_map,List.getElem?_take,if_pos hj,List.getElem?_eq_getElem (show j<zs.length by omega),Option.map_some] at hu
 rw [←hu]
 simp [List.getD,show j<zs.length by omega]
end
section
open Go.RowKit
def bFm(x y:Int):Int:=IntKind.i64.wrap ((BitVec.ofInt IntKind.i64.bits x &&& BitVec.ofInt IntKind.i64.bits y).toNat)
section
variable {P:Program}{U:List Nat}{o:Oper}{st:AS}
theorem bFn{t yt:TypeId}{x y:Operand}{m n:Int}(ho:o.op=.binOp .and t x y yt)(hx:evA st x=some (.c (.val (.int .i64 m))))(hy:evA st y=some (.c (.val (.int .i64 n)))):AY P U o st (.c (.val (.int .i64 (bFm m n)))):=
 fW rfl fun a w hs w'=>by
  simp only [execOp,ho,hs.val hx,hs.val hy]
  simp [go_sem,eqGuard,binOp,Op.intBits,bFm]
theorem bG6{t yt:TypeId}{x y:Operand}{m:Int}(ho:o.op=.binOp .shr t x y yt)(hx:evA st x=some (.c (.val (.int .i64 m))))(hy:evA st y=some (.c (.val (.int .u64 2)))):AY P U o st (.c (.val (.int .i64 (m.fdiv 4)))):=
 fW rfl fun a w hs w'=>by
  simp only [execOp,ho,hs.val hx,hs.val hy]
  simp [go_sem,eqGuard,binOp,Op.shift,show min (Int.toNat 2) IntKind.i64.bits=2 from rfl]
end
theorem bEj(x n:Int)(hn:0<n):∃k:Nat,x%n=k /\ (k:Int)<n:=
 ⟨(x%n).toNat,by have:=Int.emod_nonneg x (b:=n) (by omega);omega,by have:=Int.emod_nonneg x (b:=n) (by omega);have:=Int.emod_lt_of_pos x (b:=n) hn;omega⟩
theorem bEl(x n:Int)(k:Nat)(hn:0<n)(hn2:n <= 4611686018427387904)(hk:x%n=k)(s:Sto):aL prog 16 [.c (.val (.int .i64 x)),.c (.val (.int .i64 n))] [] s fun r s'=>r=nI k /\ s'=s:=by
 have h:=aNz x n hn hn2 s
 rw [hk] at h
 exact h
end
section
open Go.RowKit
section
variable {P:Program}{U T:List Nat}{o:Oper}{n d:Nat}{bx:List Box}{rw:List bA}{ts:List (Nat×AT)}{K:AS -> Prop}{st:AS}{t:AT}
theorem bG5{E E' e:TypeId}{x:Operand}{b:ByteArray}(ho:o.op=.convert E E' x)(hd:o.dst=some d)(hn:d<n)(hx:evA ⟨n,T,⟨bx,rw⟩,ts⟩ x=some (.c (.val (.string b))))(hE:P.underlying E=some .string)(hE':P.underlying E'=some (.slice e))(he:P.underlying e=some (.int .u8))(hb:b.size<9223372036854775808){N:Nat}{cs:List AC}(hN:b.size=N)(hcs:iF b.data.toList=cs)
  (h:∀g C pad,N <= C -> C <= 9223372036854775807 -> K ⟨n,g::T,⟨⟨g,e,cs++pad⟩::bx,rw⟩,(d,.c (.val (.slice (some ⟨g,0,none⟩) N C)))::ts⟩):AO P U o ⟨n,T,⟨bx,rw⟩,ts⟩ K:=by
 subst hN;subst hcs
 intro a w hs KK QQ hK
 obtain ⟨C,hC⟩:∃C,C=grownCap w b.size 0 e:=⟨_,rfl⟩
 obtain ⟨g1,g2⟩:=grownCap_le w b.size e hb
 have hrun:(execOp a.eval o).run P w=.ok (.value (.slice (some ⟨w.heap.size,0,none⟩) b.size C)) (w.drew.alloc (.cells (bytesRow b C) e ((bytesRow b C).size,(bytesRow b C).size+1))):=by
  subst hC
  simp only [execOp,ho,Sem.run_bind,hs.val hx]
  rw [run_bytes_of_string w E E' e b hE hE' he];rfl
 rw [←hC] at g1 g2
 clear hC
 unfold Oper.wp
 rw [hrun,Oper.upon_value,hd]
 obtain ⟨L,hL⟩:∃L,L=cC b.data.toList++List.replicate (C-b.size) (Value.int .u8 0):=⟨_,rfl⟩
 have hLa:bytesRow b C=L.toArray:=by subst hL;unfold bytesRow;apply Array.toList_inj.1;simp [cC]
 rw [hLa]
 generalize hw1:w.drew.alloc (.cells L.toArray e (L.toArray.size,L.toArray.size+1))=w1
 have hk:cW [] w w1:=by rw [←hw1];exact (cW.refl _ _).drew.alloc _
 have hsz:w1.heap.size=w.heap.size+1:=by rw [←hw1];show (w.heap.push _).size=_;simp
 have hR:fG (bI (⟨⟨w.heap.size,e,iF b.data.toList++List.replicate (C-b.size) (.val (.int .u8 0))⟩::bx,rw⟩:Sto).bl w1) (iF b.data.toList++List.replicate (C-b.size) (.val (.int .u8 0))) L:=by
  have h9:=gU (bI (⟨⟨w.heap.size,e,iF b.data.toList++List.replicate (C-b.size) (.val (.int .u8 0))⟩::bx,rw⟩:Sto).bl w1) L (fun u hu=>by
   subst hL
   rcases mem_append.1 hu with hu|hu
   ·obtain ⟨c,_,rfl⟩:=List.mem_map.1 hu;rfl
   rw [List.eq_of_mem_replicate hu];rfl)
  have e1:L.map AC.val=iF b.data.toList++List.replicate (C-b.size) (.val (.int .u8 0)):=by subst hL;simp [cC,iF]
  rw [e1] at h9
  exact h9
 have hbl:(⟨⟨w.heap.size,e,iF b.data.toList++List.replicate (C-b.size) (.val (.int .u8 0))⟩::bx,rw⟩:Sto).bl=w.heap.size::(⟨bx,rw⟩:Sto).bl:=by unfold Sto.bl;simp
 have hsub:∀b',b'∈(⟨⟨w.heap.size,e,iF b.data.toList++List.replicate (C-b.size) (.val (.int .u8 0))⟩::bx,rw⟩:Sto).bl -> b'∈(⟨bx,rw⟩:Sto).bl∨w.heap.size <= b':=fun b' hb'=>by
  rw [hbl] at hb'
  rcases mem_cons.1 hb' with rfl|h
  ·exact .inr (Nat.le_refl _)
  exact .inl h
 have hup:Up2 (bI (⟨bx,rw⟩:Sto).bl w) (bI (⟨⟨w.heap.size,e,iF b.data.toList++List.replicate (C-b.size) (.val (.int .u8 0))⟩::bx,rw⟩:Sto).bl w1):=jA hk (fun _ h=>by cases h) hsub
 obtain ⟨m1,m2⟩:=hs.mem.up hup (fun b' hb'=>hk.block b' (hs.mem.lt b' hb') (by simp))
 have hne:w.heap.size∉(⟨bx,rw⟩:Sto).bl:=fun hm=>by have h9:w.heap.size<w.heap.size:=hs.mem.lt _ hm;omega
 have hm:Mem ⟨⟨w.heap.size,e,iF b.data.toList++List.replicate (C-b.size) (.val (.int .u8 0))⟩::bx,rw⟩ w1:=by
  refine ⟨by rw [hbl];exact List.nodup_cons.2 ⟨hne,hs.mem.nodup⟩,fun b' hb'=>?_,fun x hx=>?_,m2⟩
  ·rw [hbl] at hb'
   rcases mem_cons.1 hb' with rfl|h
   ·omega
   exact Nat.lt_of_lt_of_le (hs.mem.lt _ h) hk.size
  rcases mem_cons.1 hx with rfl|hx
  ·refine ⟨L,⟨(L.toArray.size,L.toArray.size+1),.inr (by simp),?_⟩,hR⟩
   rw [←hw1]
   show (w.heap.push _)[w.heap.size]?=_
   simp
  exact m1 x hx
 have s1:=hs.step (st:=⟨n,T,⟨bx,rw⟩,ts⟩) (w1:=w1) (w.heap.size::T) (hk.mono (by simp)) hm hsub
 refine hK _ _ _ (h w.heap.size C (List.replicate (C-b.size) (.val (.int .u8 0))) g1 g2) (s1.put hn (.c _ _ (.val _ rfl))) ⟨hk.mono (by simp),hk.mono (by simp),hsub,fun b' hb'=>?_⟩ (hk.mono (by simp))
 rcases mem_cons.1 hb' with rfl|h
 ·exact .inr (Nat.le_refl _)
 exact .inl h
theorem bGr{g:Nat}{E:TypeId}{cs ds:List AC}{N C:Nat}{B:List Box}(i:Nat)(hi:look st.ts i=some (.c (.val (.slice (some ⟨g,0,none⟩) N C))))(hrow:st.s.boxes=⟨g,E,cs++ds⟩::B)(hC:N <= C)(hC2:C <= 9223372036854775807):Sub st {st with s:=⟨B,st.s.rows⟩,ts:=(i,.c (.sl N cs))::st.ts}:=fun a w hs=>by
 have hsub:aAz st.s ⟨B,st.s.rows⟩:=aA (by rw [hrow];exact List.sublist_cons_self _ _) (List.Sublist.refl _)
 obtain ⟨h1,h2,h3⟩:=vU hsub a w hs
 refine ⟨⟨h1.df,h1.sz,fun j x hx=>?_,h1.mem⟩,h2,h3⟩
 simp only [look] at hx
 split at hx
 ·rename_i he;subst he;cases hx
  obtain ⟨u,e1,e2⟩:=hs.tm i _ hi
  have:=e2.val
  subst this
  obtain ⟨us,⟨fz,-,hh⟩,hrep⟩:=hs.mem.box ⟨g,E,cs++ds⟩ (by rw [hrow];simp)
  have hlen:us.length=cs.length+ds.length:=by have:=hrep.len;simpa using this
  have hr2:=hrep.take cs.length
  rw [List.take_left] at hr2
  have hnm:g∉(⟨B,st.s.rows⟩:Sto).bl:=by
   have hnd:=hs.mem.nodup
   have hbl:st.s.bl=g::(⟨B,st.s.rows⟩:Sto).bl:=by unfold Sto.bl;rw [hrow];simp
   rw [hbl] at hnd
   exact (List.nodup_cons.1 hnd).1
  refine ⟨_,e1,.c _ _ (.sl _ _ (us.take cs.length) _ ⟨_,_,rfl,hC,.inr ⟨g,0,rfl,fun j x hj=>?_⟩⟩ hr2.len (fun k h h'=>(hr2.at_ k h h').mono (up_sub h2)) (fun _ _ _ h=>by cases h;exact hC2))⟩
  rw [eW _ _ _ hnm]
  unfold World.cell?
  simp only [hh]
  rw [List.getElem?_take] at hj
  split at hj
  ·simpa using hj
  cases hj
 exact h1.tm j x hx
theorem bHa{ops:Array Oper}{l:List Oper}{Q:Exit -> AS -> Prop}{g:Nat}{E:TypeId}{cs ds:List AC}{N C:Nat}(i:Nat)(hi:look ts i=some (.c (.val (.slice (some ⟨g,0,none⟩) N C))))(hC:N <= C)(hC2:C <= 9223372036854775807)(h:eQ P ops l ⟨n,T,⟨bx,rw⟩,(i,.c (.sl N cs))::ts⟩ Q):eQ P ops l ⟨n,T,⟨⟨g,E,cs++ds⟩::bx,rw⟩,ts⟩ Q:=
 uQ (bGr (st:=⟨n,T,⟨⟨g,E,cs++ds⟩::bx,rw⟩,ts⟩) i hi rfl hC hC2) h
theorem bHc{ty:TypeId}{x y:Operand}{g:Nat}{E:TypeId}{cs r:List AC}{u:AC}(j:Nat)(ho:o.op=.store ty x y)(hd:o.dst=none)(hx:evA ⟨n,g::T,⟨⟨g,E,cs⟩::bx,rw⟩,ts⟩ x=some (.c (.val (.pointer (some ⟨g,j,none⟩)))))(hy:evA ⟨n,g::T,⟨⟨g,E,cs⟩::bx,rw⟩,ts⟩ y=some (.c u))(hS:∀w,(sizeOf ty).run P w=.ok 1 w)(hl:j<cs.length)(hr:splice cs j [u]=r)
  (hU:g∈U) (h:K ⟨n,g::T,⟨⟨g,E,r⟩::bx,rw⟩,ts⟩):AO P U o ⟨n,g::T,⟨⟨g,E,cs⟩::bx,rw⟩,ts⟩ K:=
 zQ (st:=⟨n,g::T,⟨⟨g,E,cs⟩::bx,rw⟩,ts⟩) (ds:=[u]) (z:=1) [] ho hd hx hy rfl rfl hS rfl (by omega) hr (by simp) (fun _=>hU) h
theorem bGt{e:TypeId}{d n m z:Nat}{v:Value}{cs ds:List AC}(A:List bA){B:List bA}(hd:o.dst=some d)(hn:d<st.n)
  (hrow:st.s.rows=A++⟨v,e,z,n,cs⟩::B)
  (hy:∀a w,Sim st a w -> ∀us,w.ownsRow 0 e z v n us -> ∃ys,fG (bI st.s.bl w) ds ys /\ ∀(KK:Act -> World -> Prop)(QQ:Exit -> Act -> World -> Prop),(∀v' w',w'.ownsRow 0 e z v' (n+m) (us++ys) -> w.grownBy w' v.ownBlock -> (∀g,v'.ownBlock=some g -> v.ownBlock=some g∨w.heap.size <= g) -> KK (a.put o.dst v') w') -> o.wp P a w KK QQ)
  (hU:st.s.bl.Nodup -> ∀b,b∈aY v -> b∈U) (hT:∀b,b∈aY v -> b∈st.T)
  (h:∀v',K {st with s:=⟨st.s.boxes,A++⟨v',e,z,n+m,cs++ds⟩::B⟩,T:=aY v'++st.T,ts:=(d,.c (.val v'))::st.ts}):AO P U o st K:=by
 intro a w hs KK QQ hK
 obtain ⟨us,hown,hrep⟩:=hs.mem.row ⟨v,e,z,n,cs⟩ (by rw [hrow];simp)
 obtain ⟨ys,hyrep,hgo⟩:=hy a w hs us hown
 skip
 refine hgo KK QQ ?_
 intro v' w' hown' hgrow hfr
 have hkr:cW (aY v) w w':=⟨hgrow.os,hgrow.tape,hgrow.output,hgrow.size,fun k hk hn=>hgrow.block k hk (fun he=>hn (lZ.2 he.symm))⟩
 have hfr2:∀g,g∈aY v' -> g∈aY v∨w.heap.size <= g:=fun g hg=>(hfr g (lZ.1 hg)).imp lZ.2 id
 have hbl0:st.s.bl=(st.s.boxes.map Box.b++A.flatMap fun r=>aY r.v)++(aY v++B.flatMap fun r=>aY r.v):=by have:=sO st.s.boxes A B ⟨v,e,z,n,cs⟩;rw [←hrow] at this;exact this
 have hbl1:=sO st.s.boxes A B ⟨v',e,z,n+m,cs++ds⟩
 generalize hs1:(⟨st.s.boxes,A++⟨v',e,z,n+m,cs++ds⟩::B⟩:Sto)=s1 at hbl1
 have hvb:∀g,g∈aY v -> g∈st.s.bl:=fun g hg=>by rw [hbl0];simp [hg]
 have hsub:∀g,g∈s1.bl -> g∈st.s.bl∨w.heap.size <= g:=fun g hg=>by
  rw [hbl1] at hg
  rw [hbl0]
  simp only [mem_append] at hg⊢
  rcases hg with (hg|hg)|hg|hg
  ·exact .inl (.inl (.inl hg))
  ·exact .inl (.inl (.inr hg))
  ·rcases hfr2 g hg with hg|hg
   ·exact .inl (.inr (.inl hg))
   exact .inr hg
  exact .inl (.inr (.inr hg))
 have hkb:cW st.s.bl w w':=hkr.mono hvb
 have hup:Up2 (bI st.s.bl w) (bI s1.bl w'):=jA hkb (fun _ h=>h) hsub
 have hnd:=hs.mem.nodup
 rw [hbl0] at hnd
 have hlt0:∀g,g∈(st.s.boxes.map Box.b++A.flatMap fun r=>aY r.v)++(aY v++B.flatMap fun r=>aY r.v) -> g<w.heap.size:=by rw [←hbl0];exact hs.mem.lt
 have hnd1:s1.bl.Nodup:=by rw [hbl1];exact aAi hnd hfr2 hlt0 (yK _)
 have hltn:∀g,g∈aY v' -> g<w'.heap.size:=fun g hg=>pF hown' (lZ.1 hg)
 have hmem:Mem s1 w':=by
  refine ⟨hnd1,fun g hg=>?_,fun bx hbx=>?_,fun r hr=>?_⟩
  ·rw [hbl1] at hg
   simp only [mem_append] at hg
   rcases hg with (hg|hg)|hg|hg
   ·exact Nat.lt_of_lt_of_le (hlt0 g (by simp [hg])) hkb.size
   ·exact Nat.lt_of_lt_of_le (hlt0 g (by simp only [mem_append];exact .inl (.inr hg))) hkb.size
   ·exact hltn g hg
   exact Nat.lt_of_lt_of_le (hlt0 g (by simp only [mem_append];exact .inr (.inr hg))) hkb.size
  ·have hbx2:bx∈st.s.boxes:=by rw [←hs1] at hbx;exact hbx
   obtain ⟨us',e1,e2⟩:=hs.mem.box bx hbx2
   have hbb:bx.b∈st.s.boxes.map Box.b:=List.mem_map.2 ⟨bx,hbx2,rfl⟩
   refine ⟨us',?_,e2.mono hup⟩
   rw [hkr.block _ (hlt0 _ (by simp only [mem_append];exact .inl (.inl hbb))) (fun hm=>?_)]
   ·exact e1
   exact (List.nodup_append.1 hnd).2.2 bx.b (List.mem_append_left _ hbb) bx.b (List.mem_append_left _ hm) rfl
  rw [←hs1] at hr
  simp only [mem_append,mem_cons] at hr
  have old:r∈A∨r∈B -> ∃us,w'.ownsRow 0 r.E r.z r.v r.n us /\ fG (bI s1.bl w') r.cs us:=fun hr=>by
   obtain ⟨us',e1,e2⟩:=hs.mem.row r (by rw [hrow];simp only [mem_append,mem_cons];rcases hr with h|h;exact .inl h;exact .inr (.inr h))
   refine ⟨us',lV e1 fun g hg=>?_,e2.mono hup⟩
   refine hkr.block g ?_ fun hm=>?_
   ·rcases hr with hr|hr
    ·exact hlt0 g (by simp only [mem_append];exact .inl (.inr (List.mem_flatMap.2 ⟨r,hr,hg⟩)))
    exact hlt0 g (by simp only [mem_append];exact .inr (.inr (List.mem_flatMap.2 ⟨r,hr,hg⟩)))
   rcases hr with hr|hr
   ·exact (List.nodup_append.1 hnd).2.2 g (List.mem_append_right _ (List.mem_flatMap.2 ⟨r,hr,hg⟩)) g (List.mem_append_left _ hm) rfl
   exact (List.nodup_append.1 (List.nodup_append.1 hnd).2.1).2.2 g hm g (List.mem_flatMap.2 ⟨r,hr,hg⟩) rfl
  rcases hr with hr|rfl|hr
  ·exact old (.inl hr)
  ·exact ⟨us++ys,hown',(hrep.mono hup).app (hyrep.mono hup)⟩
  exact old (.inr hr)
 have s2:=hs.step (aY v'++st.T) hkb hmem hsub
 rw [hd]
 have h9:=h v'
 rw [hs1] at h9
 have h1c:v'.oneCell'=true:=by obtain ⟨_,_,he⟩:=lR hown';rw [he];rfl
 refine hK _ _ _ h9 (s2.put (v:=v') hn (.c _ _ (.val _ h1c))) ⟨hkb,hkr.mono hT,hsub,fun g hg=>?_⟩ (hkr.mono (hU hs.mem.nodup))
 rcases mem_append.1 hg with hg|hg
 ·exact (hfr2 g hg).imp (hT g) id
 exact .inl hg
theorem bG0(w:World){a:Act}{K:Act -> World -> Prop}{Q:Exit -> Act -> World -> Prop}(s x:Operand)(t u:TypeId)
  (ho:o.op=.call {callee:=.builtin .append,args:=#[s,x],argTypes:=#[t,u]})
  (e:TypeId) (i:TypeInfo) (ht:P.underlying t=some (.slice e)) (hu:P.underlying u=some .string) (hi:P.info? e=some i) (hz:i.zero=some (.int .u8 0)) (hsize:i.size=1) (hby:i.bytes=1)
  (v:Value) (n:Nat) (xs:List Value) (hs:a.eval s=v) (hown:w.ownsRow 0 e 1 v n xs) (z:ByteArray) (hx:a.eval x=.string z) (h63:n+z.size <= maxLen) (hbytes:n+z.size <= 140737488355328)
  (h:∀v' w',w'.ownsRow 0 e 1 v' (n+z.size) (xs++Lib.strCells z) -> w.grownBy w' v.ownBlock -> (∀g,v'.ownBlock=some g -> v.ownBlock=some g∨w.heap.size <= g) -> K (a.put o.dst v') w'):o.wp P a w K Q:=by
 obtain ⟨v',w',hr,h2,h3,h4⟩:=Lib.run_append_own_string (P:=P) w 0 t u o.type e i ht hu hi hz hsize hby v n xs hown z h63 hbytes (Nat.zero_le _)
 have hfr:∀g,v'.ownBlock=some g -> v.ownBlock=some g∨w.heap.size <= g:=by
  rcases hown.2 with ⟨hv0,hn0⟩|⟨g,cap,cur,hv0,hbg,hg,hnc,hcm,hcs,htake⟩
  ·obtain ⟨v2,w2,hr2,h5,_,_⟩:=Lib.run_append_own_string (P:=P) w w.heap.size t u o.type e i ht hu hi hz hsize hby v n xs ⟨hown.1,.inl ⟨hv0,hn0⟩⟩ z h63 hbytes (Nat.le_refl _)
   rw [hr] at hr2
   injection hr2 with e1 e2
   subst e1
   intro k hk
   exact Or.inr (h5.lt k hk).1
  subst hv0
  by_cases hroom:n+z.size <= cap
  ·have hr2:=Lib.run_append_room_string (P:=P) w t u o.type e i ht hu hi hsize g n cap cur hg z hroom (by omega)
   rw [hr] at hr2
   injection hr2 with e1 e2
   subst e1
   intro k hk
   exact .inl hk
  have holds:∀j u,xs[j]?=some u -> w.cell? ((⟨g,0,none⟩:Addr).add j)=some u:=hown.cells (g:=g) rfl
  have hr2:=Lib.run_append_grow_string (P:=P) w t u o.type e i (.int .u8 0) ht hu hi hz ⟨g,0,none⟩ n cap xs (by rw [hsize];exact hown.1) holds z (by omega) (by simp only [maxLen] at h63;omega) (by rw [hby];exact growslice_fits (by omega) (by omega))
  rw [hr] at hr2
  injection hr2 with e1 e2
  subst e1
  intro k hk
  simp [Value.ownBlock] at hk
  exact .inr (by omega)
 unfold Oper.wp execOp
 simp only [ho,resolve,invoke,builtin,Sem.run_bind,Sem.run_pure,Result.andThen_ok,List.map_toArray,List.map_cons,List.map_nil,hs,hx,hr]
 exact h v' w' h2 h3 hfr
theorem bHb{E E2 e:TypeId}{x y:Operand}{k:Nat}{v:Value}{cs ds r:List AC}(A:List bA)(i:TypeInfo){B:List bA}{z:ByteArray}(ho:o.op=.call {callee:=.builtin .append,args:=#[x,y],argTypes:=#[E,E2]})(hd:o.dst=some d)(hn:d<n)
  (hx:evA ⟨n,T,⟨bx,A++⟨v,e,1,k,cs⟩::B⟩,ts⟩ x=some (.c (.val v))) (hy:evA ⟨n,T,⟨bx,A++⟨v,e,1,k,cs⟩::B⟩,ts⟩ y=some (.c (.val (.string z)))) (hu:P.underlying E=some (.slice e)) (hu2:P.underlying E2=some .string) (hi:P.info? e=some i) (hz:i.zero=some (.int .u8 0)) (hsz:i.size=1) (hby:i.bytes=1)
  (hlen:k+z.size <= maxLen) (hbytes:k+z.size <= 140737488355328) {N:Nat} (hN:k+z.size=N) (hds:iF z.data.toList=ds) (hU:(⟨bx,A++⟨v,e,1,k,cs⟩::B⟩:Sto).bl.Nodup -> ∀b,b∈aY v -> b∈U) (hT:∀b,b∈aY v -> b∈T) (hr:cs++ds=r)
  (h:∀v',K ⟨n,aY v'++T,⟨bx,A++⟨v',e,1,N,r⟩::B⟩,(d,.c (.val v'))::ts⟩):AO P U o ⟨n,T,⟨bx,A++⟨v,e,1,k,cs⟩::B⟩,ts⟩ K:=by
 subst hr;subst hN;subst hds
 refine bGt A hd hn rfl (fun a w hs us hown=>⟨Lib.strCells z,?_,fun KK QQ hK=>bG0 w x y E E2 ho e i hu hu2 hi hz hsz hby v k us (hs.val hx) hown z (hs.val hy) hlen hbytes hK⟩) hU hT h
 have hR:=gU (bI (⟨bx,A++⟨v,e,1,k,cs⟩::B⟩:Sto).bl w) (Lib.strCells z) (fun u hu=>by obtain ⟨c,_,rfl⟩:=List.mem_map.1 hu;rfl)
 have e1:(Lib.strCells z).map AC.val=iF z.data.toList:=by simp [Lib.strCells,iF]
 rw [e1] at hR
 exact hR
end
end
end Go.Proofs.YtlmpchoaebhhmaaGreatDoor
