import Derived.StillTailTactics
import Derived.Test.YtjgeihmhppadaaaGreatDoorG9J
set_option linter.all false
set_option synthInstance.maxHeartbeats 1000000
set_option synthInstance.maxSize 1000000
set_option maxHeartbeats 1600000
set_option maxRecDepth 100000
namespace Go.Proofs.YtjgeihmhppadaaaGreatDoor
open Go.Proofs.Tryz
open List (length_append length_cons length_nil mem_append mem_cons not_mem_nil append_assoc getElem_mem take_of_length_le)
section
open Go.RowKit
def bSy(ops:Array Oper)(m:Nat):Array Oper:=(ops.toList.take m).toArray
def bT0(ops:Array Oper)(j:Nat):List Nat:=match ops.toList[j]? with
 |none=>[]
 |some o=>o.after.toList.filterMap λe=>if Region.binds .any e then some e.on else none
def bUu(ops:Array Oper):Nat -> List Nat -> List Nat
 |0,c=>c
 |n+1,c=>bUu ops n (c++c.flatMap (bT0 ops))
theorem bUe{ops:Array Oper}{L:Nat -> Prop}(h:∀i o,ops[i]?=some o -> L i -> ∀e∈o.after,Region.binds .any e=true -> L e.on):∀(n:Nat)(c:List Nat),(∀x,x∈c -> L x) -> ∀x,x∈bUu ops n c -> L x
 |0,_,hc=>hc
 |n+1,c,hc=>bUe h n _ λx hx=>by
  rcases mem_append.1 hx with hx|hx
  ·exact hc x hx
  obtain ⟨y,hy,hxy⟩:=List.mem_flatMap.1 hx
  unfold bT0 at hxy
  rw [Array.getElem?_toList] at hxy
  cases ho:ops[y]? with
  |none=>rw [ho] at hxy;cases hxy
  |some o=>
   rw [ho] at hxy
   obtain ⟨e,he,h2⟩:=List.mem_filterMap.1 hxy
   split at h2
   ·rename_i hb
    cases h2
    exact h y o ho (hc y hy) e C3 hb
   cases h2
def bUz(ops:Array Oper)(m:Nat):Bool:=(List.range ops.size).all λi=>match ops.toList[i]? with
 |none=>true
 |some o=>if i<m then o.guard.isNone && o.after.toList.all (λe=>!Region.binds .any e||decide (e.on<i)) else (List.range m).all λj=>(bUu ops 2 (bT0 ops i)).contains j
theorem bT1{P:Program}{md:Region.Mode}{ops:Array Oper}{Q:Exit -> Act -> World -> Prop}:∀(f:Nat)(l:Array Bool)(a:Act)(w:World),wpAny P md ops Q f l a w -> wpAny P md ops Q (f+1) l a w
 |0,_,_,_,h=>⟨λ_=>h.2,λi hi=>by rw [h.1] at hi;cases hi⟩
 |f+1,_,_,_,h=>⟨h.1,λi hi=>wpOp_mono (λa' w' h'=>bT1 f _ a' w' h') (h.2 i hi)⟩
theorem bTs{P:Program}{md:Region.Mode}{ops:Array Oper}{Q:Exit -> Act -> World -> Prop}(f:Nat)(l:Array Bool)(a:Act)(w:World)(h:wpAny P md ops Q f l a w):∀n,wpAny P md ops Q (n+f) l a w
 |0=>by rw [Nat.zero_add];exact h
 |n+1=>by rw [show n+1+f=(n+f)+1 by omega];exact bT1 _ _ _ _ (bTs f l a w h n)
theorem bS4{ops:Array Oper}{m i:Nat}:(bSy ops m)[i]?=if i<m then ops[i]? else none:=by
 unfold bSy
 rw [List.getElem?_toArray,List.getElem?_take,Array.getElem?_toList]
theorem bUp{P:Program}{ops:Array Oper}{Q Q1:Exit -> Act -> World -> Prop}{m f2:Nat}{D:Array Bool}(hc:bUz ops m=true)(hm:m <= ops.size)(hDt:∀j,j<m -> D[j]?=some true)
  (hn:∀a w,Q1 .normal a w -> wpAny P .any ops Q f2 D a w) (hq:∀e a w,e≠.normal -> Q1 e a w -> Q e a w):∀(f:Nat)(l1 l:Array Bool)(a:Act)(w:World),l1.size=m -> l.size=D.size -> m <= D.size -> (∀j,j<m -> l[j]?=l1[j]?) -> (∀j,m <= j -> l[j]?=D[j]?) -> (∀i o,ops[i]?=some o -> l.getD i false=true -> ∀e∈o.after,Region.binds .any e=true -> l.getD e.on false=true) ->
   wpAny P .any (bSy ops m) Q1 f l1 a w -> wpAny P .any ops Q (f+f2) l a w:=by
 have hcs:∀i o,ops[i]?=some o -> if i<m then o.guard=none /\ (∀e∈o.after,Region.binds .any e=true -> e.on<i) else ∀j,j<m -> j∈bUu ops 2 (bT0 ops i):=by
  intro i o ho
  have hi:i<ops.size:=(Array.getElem?_eq_some_iff.1 ho).1
  have h9:=List.all_eq_true.1 hc i (List.mem_range.2 hi)
  rw [Array.getElem?_toList,ho] at h9
  dsimp only at h9
  by_cases him:i<m
  ·rw [if_pos him] at h9⊢
   simp only [Bool.and_eq_true,List.all_eq_true,Bool.or_eq_true,Bool.not_eq_true',decide_eq_true_eq,Option.isNone_iff_eq_none] at h9
   exact ⟨h9.1,λe he hb=>(h9.2 e C3).resolve_left (by rw [hb];decide)⟩
  rw [if_neg him] at h9⊢
  intro j hj
  have h8:=List.all_eq_true.1 h9 j (List.mem_range.2 hj)
  simpa using h8
 have over:∀(l1 l:Array Bool),l1.size=m -> m <= ops.size -> (∀j,j<m -> l[j]?=l1[j]?) -> Region.ready .any (bSy ops m) l1=[] -> ∀j,j<m -> l1[j]?=some true:=by
  intro l1 l hs hm hl hr j
  induction j using Nat.strongRecOn with
  |_ j ih=>
   intro hj
   by_cases h:l1.getD j true=false
   ·exfalso
    have hop:(bSy ops m)[j]?=some (ops[j]'(by omega)):=EL
    have hin:j∈Region.ready .any (bSy ops m) l1:=by
     refine mem_ready.2 ⟨h,_,hop,λe he hb=>?_⟩
     have h2:=hcs j _ (Array.getElem?_eq_getElem (J:j<ops.size))
     rw [if_pos hj] at h2
     have h3:=h2.2 e he hb
     have h4:=ih e.on h3 J
     simp [Array.getD_eq_getD_getElem?,h4]
    rw [hr] at hin;cases hin
   have hj2:j<l1.size:=J
   rw [Array.getElem?_eq_getElem hj2]
   simp only [Array.getD_eq_getD_getElem?,Array.getElem?_eq_getElem hj2,Option.getD_some] at h
   simpa using h
 have same:∀(l1 l:Array Bool),l1.size=m -> l.size=D.size -> (∀j,j<m -> l[j]?=l1[j]?) -> (∀j,m <= j -> l[j]?=D[j]?) -> Region.ready .any (bSy ops m) l1=[] -> l=D:=by
  intro l1 l hs1 hs2 he1 he2 hr
  refine Array.ext_getElem? λj=>?_
  by_cases hj:j<m
  ·rw [he1 j hj,over l1 l hs1 hm he1 hr j hj,hDt j hj]
  exact he2 j J
 have getD_eq:∀(l1 l:Array Bool)(j:Nat)(d:Bool),l[j]?=l1[j]? -> l.getD j d=l1.getD j d:=λl1 l j d h=>by
  rw [Array.getD_eq_getD_getElem?,Array.getD_eq_getD_getElem?,h]
 intro f
 induction f with
 |zero=>
  intro l1 l a w hs1 hs2 hmD he1 he2 hcl H
  rw [Nat.zero_add,same l1 l hs1 hs2 he1 he2 H.1]
  exact hn a w H.2
 |succ f ih=>
  intro l1 l a w hs1 hs2 hmD he1 he2 hcl H
  by_cases hr:Region.ready .any (bSy ops m) l1=[]
  ·rw [same l1 l hs1 hs2 he1 he2 hr]
   exact bTs f2 _ _ _ (hn a w (H.1 hr)) (f+1)
  obtain ⟨k,hk⟩:=List.exists_mem_of_ne_nil _ hr
  obtain ⟨hku,ok,hok,hkall⟩:=mem_ready.1 hk
  have hkm:k<m:=by
   by_cases h:k<m
   ·exact h
   rw [bS4,if_neg h] at hok;cases hok
  rw [bS4,if_pos hkm] at hok
  have hk1:l1[k]?=some false:=by
   have hks:k<l1.size:=J
   rw [Array.getD_eq_getD_getElem?,Array.getElem?_eq_getElem hks] at hku
   rw [Array.getElem?_eq_getElem hks];simpa using hku
  rw [show f+1+f2=(f+f2)+1 by omega]
  refine ⟨λh0=>?_,λi hi=>?_⟩
  ·exfalso
   have hin:k∈Region.ready .any ops l:=by
    refine mem_ready.2 ⟨Ex,ok,hok,λe he hb=>?_⟩
    have h2:=hcs k ok hok
    rw [if_pos hkm] at h2
    have h3:=h2.2 e he hb
    rw [getD_eq l1 l e.on false (he1 _ J)]
    exact hkall e he hb
   rw [h0] at hin;cases hin
  obtain ⟨hiu,o,ho,hall⟩:=mem_ready.1 hi
  have h2:=hcs i o ho
  by_cases him:i<m
  ·rw [if_pos him] at h2
   have ho1:(bSy ops m)[i]?=some o:=by rw [bS4,if_pos him];exact ho
   have hi1:i∈Region.ready .any (bSy ops m) l1:=by
    refine mem_ready.2 ⟨Eu,o,ho1,λe he hb=>?_⟩
    have h3:=h2.2 e he hb
    rw [←getD_eq l1 l e.on false (he1 _ J)]
    exact hall e he hb
   have h4:=H.2 i hi1
   have hw:∀y,Region.wanted o y=true:=λy=>by unfold Region.wanted;rw [h2.1]
   unfold wpOp at h4⊢
   rw [ho1] at h4
   rw [ho]
   dsimp only at h4⊢
   rw [if_pos (hw _)] at h4⊢
   have hL:LetsOut Q1 -> LetsOut Q:=λ⟨a,w,h⟩=>⟨a,w,hq _ a w G0 h⟩
   rcases h4 with h4|⟨h5,h6⟩
   ·refine .inl (Oper.wp_mono2 (λa' w' h'=>ih (l1.setIfInBounds i true) (l.setIfInBounds i true) a' w' (by simpa using hs1) (by simpa using hs2) hmD (λj hj=>?_) (λj hj=>?_) (λq oq hoq hlq e he hb=>?_) h') hq hL h4)
    ·rw [Array.getElem?_setIfInBounds,Array.getElem?_setIfInBounds]
     by_cases hij:i=j
     ·rw [if_pos hij,if_pos hij,if_pos J,if_pos J]
     rw [if_neg hij,if_neg hij];exact he1 j hj
    ·rw [Array.getElem?_setIfInBounds,if_neg J];exact he2 j hj
    have hup:∀z,l.getD z false=true -> (l.setIfInBounds i true).getD z false=true:=λz hz=>by
     rw [Array.getD_eq_getD_getElem?] at hz⊢
     rw [Array.getElem?_setIfInBounds]
     split
     ·split
      ·rfl
      rw [Array.getElem?_eq_none J] at hz;cases hz
     exact hz
    by_cases hqi:i=q
    ·subst hqi
     obtain rfl:=Option.some.inj (ho.symm.trans hoq)
     exact hup _ (hall e he hb)
    refine hup _ (hcl q oq hoq ?_ e he hb)
    rw [Array.getD_eq_getD_getElem?,Array.getElem?_setIfInBounds,if_neg hqi] at hlq
    rw [Array.getD_eq_getD_getElem?];exact hlq
   exact .inr ⟨h5,hL h6⟩
  exfalso
  rw [if_neg him] at h2
  have h3:l.getD k false=true:=bUe (L:=λz=>l.getD z false=true) hcl 2 _ (λx hx=>by
   unfold bT0 at hx
   rw [Array.getElem?_toList,ho] at hx
   obtain ⟨e,he,h2⟩:=List.mem_filterMap.1 hx
   split at h2
   ·rename_i hb
    cases h2
    exact hall e C3 hb
   cases h2) k (h2 k hkm)
  rw [getD_eq l1 l k false (he1 k hkm),Array.getD_eq_getD_getElem?,hk1] at h3
  cases h3
theorem bT3{P:Program}{id:Nat}{ops:Array Oper}{st:AS}{Q:Exit -> AS -> Prop}(m:Nat)(Z1 Z2:List Nat)(D:Array Bool)(hm:P.follows .mixedOrders=true)(hc:(bUz ops m,decide (m <= ops.size),decide (D.size=ops.size),(List.range m).all (λj=>D[j]? == some true),(List.range ops.size).all (λj=>decide (j<m)||D[j]? == some false))=(true,true,true,true,true))
  (h:lD P (bSy ops m) Z1 m (Array.replicate m false) st (λst'=>lD P ops Z2 (ops.size-m) D st' (Q .normal))):AWp P (.region id ops true) st Q:=by
 simp only [Prod.mk.injEq,decide_eq_true_eq,List.all_eq_true,List.mem_range,beq_iff_eq,Bool.or_eq_true] at hc
 obtain ⟨hc1,hc2,hc3,hc4,hc5⟩:=hc
 intro a w hs QQ hQ
 refine Code.wp_mono (Q:=λe a' w'=>match e with|.normal=>QQ .normal a' w'|_=>False) EB ?_
 refine wp_region_any hm ?_
 show wpAny P .any ops _ ops.size (Array.replicate ops.size false) a w.drew
 rw [show ops.size=m+(ops.size-m) by omega]
 refine bUp (Q1:=λe a' w'=>match e with|.normal=>∃st',lD P ops Z2 (ops.size-m) D st' (Q .normal) /\ Sim st' a' w' /\ Ext st w.drew st' w'|_=>False) (D:=D) hc1 hc2 hc4 ?_ ?_ m (Array.replicate m false) _ a w.drew G0 DR J (λj hj=>?_) (λj hj=>?_) (λi o _ h=>?_) ?_
 ·rintro a' w' ⟨st',h1,h2,h3⟩
  exact wpAny_of_held _ _ _ _ (h1 a' w' h2 _ (λ_ _ _ q=>q) λa2 w2 st2 q2 s2 k2=>hQ _ a2 w2 st2 q2 s2 (by
   have k:=h3.trans k2
   exact ⟨⟨k.keep.os,k.keep.tape,k.keep.output,k.keep.size,k.keep.block⟩,⟨k.keepT.os,k.keepT.tape,k.keepT.output,k.keepT.size,k.keepT.block⟩,k.bl,k.T⟩))
 ·intro e a' w' he q
  cases e with
  |normal=>exact absurd rfl he
  |_=>exact q.elim
 ·rw [Array.getElem?_replicate,Array.getElem?_replicate,if_pos J,if_pos hj]
 ·rw [Array.getElem?_replicate]
  by_cases hjn:j<ops.size
  ·rw [if_pos J,(hc5 j hjn).resolve_left J]
  rw [if_neg J,Array.getElem?_eq_none J]
 ·exfalso
  rw [Array.getD_eq_getD_getElem?,Array.getElem?_replicate] at h
  split at h<;>cases h
 exact wpAny_of_held _ _ _ _ (h a w.drew hs.drew _ (λ_ _ _ q=>q) λa' w' st' q s' k=>⟨st',q,s',k⟩)
theorem bTy{P:Program}{id:Nat}{l l1 l2:List Oper}{st:AS}{Q:Exit -> AS -> Prop}(m:Nat)(Z1 Z2:List Nat)(D:Array Bool)[hs:vT m l l1 l2](hm:P.follows .mixedOrders=true)(hc:(bUz l.toArray m,decide (m <= l.toArray.size),decide (D.size=l.toArray.size),(List.range m).all (λj=>D[j]? == some true),(List.range l.toArray.size).all (λj=>decide (j<m)||D[j]? == some false))=(true,true,true,true,true))(h1:l1.length=m)
  (h:lD P l1.toArray Z1 m (Array.replicate m false) st (λst'=>lD P l.toArray Z2 (l.toArray.size-m) D st' (Q .normal))):AWp P (.region id l.toArray true) st Q:=by
 refine bT3 m Z1 Z2 D hm hc ?_
 rw [show bSy l.toArray m=l1.toArray by unfold bSy;rw [hs.h];simp only;rw [List.take_left' h1]]
 exact h
theorem gJ{s:ByteArray}{l:List UInt8}(h:s=bytes l):(s.toList == l)=true:=by subst h;rw [ByteArray.toList_eq];simp [bytes]
theorem fI{s:ByteArray}{l:List UInt8}(h:s≠bytes l):(s.toList == l)=false:=by
 rw [beq_eq_false_iff_ne,ByteArray.toList_eq];intro e;apply h;apply sI;rw [e];simp [bytes]
theorem aDq(s:ByteArray)(w:World):Calls prog 211 #[.string s] w λe w'=>e=.returned (.tuple #[.int .i64 (binOp s).1,.int .i64 (binOp s).2]) /\ w=w':=by
 go_enter func211,Tryz.ntmps211
 by_cases h0:s=bytes [124,124]
 ·have g0:(s.toList == [124,124])=true:=gJ h0
  have hb:binOp s=(17,1):=by rw [binOp,if_pos h0]
  rw [hb]
  clear hb h0
  go_wp2_with fail
  refine bodyPost_ret (v:=.tuple #[.int .i64 17,.int .i64 1]) G4 Y ?_
  exact ⟨Y,Y⟩
 have g0:(s.toList == [124,124])=false:=fI h0
 by_cases h1:s=bytes [38,38]
 ·have g1:(s.toList == [38,38])=true:=gJ h1
  have hb:binOp s=(16,2):=by rw [binOp,if_neg h0,if_pos h1]
  rw [hb]
  clear hb h0 h1
  go_wp2_with fail
  refine bodyPost_ret (v:=.tuple #[.int .i64 16,.int .i64 2]) G4 Y ?_
  exact ⟨Y,Y⟩
 have g1:(s.toList == [38,38])=false:=fI h1
 by_cases h2:s=bytes [61,61]
 ·have g2:(s.toList == [61,61])=true:=gJ h2
  have hb:binOp s=(14,3):=by rw [binOp,if_neg h0,if_neg h1,if_pos h2]
  rw [hb]
  clear hb h0 h1 h2
  go_wp2_with fail
  refine bodyPost_ret (v:=.tuple #[.int .i64 14,.int .i64 3]) G4 Y ?_
  exact ⟨Y,Y⟩
 have g2:(s.toList == [61,61])=false:=fI h2
 by_cases h3:s=bytes [33,61]
 ·have g3:(s.toList == [33,61])=true:=gJ h3
  have hb:binOp s=(15,3):=by rw [binOp,if_neg h0,if_neg h1,if_neg h2,if_pos h3]
  rw [hb]
  clear hb h0 h1 h2 h3
  go_wp2_with fail
  refine bodyPost_ret (v:=.tuple #[.int .i64 15,.int .i64 3]) G4 Y ?_
  exact ⟨Y,Y⟩
 have g3:(s.toList == [33,61])=false:=fI h3
 by_cases h4:s=bytes [60]
 ·have g4:(s.toList == [60])=true:=gJ h4
  have hb:binOp s=(10,3):=by rw [binOp,if_neg h0,if_neg h1,if_neg h2,if_neg h3,if_pos h4]
  rw [hb]
  clear hb h0 h1 h2 h3 h4
  go_wp2_with fail
  refine bodyPost_ret (v:=.tuple #[.int .i64 10,.int .i64 3]) G4 Y ?_
  exact ⟨Y,Y⟩
 have g4:(s.toList == [60])=false:=fI h4
 by_cases h5:s=bytes [60,61]
 ·have g5:(s.toList == [60,61])=true:=gJ h5
  have hb:binOp s=(11,3):=by rw [binOp,if_neg h0,if_neg h1,if_neg h2,if_neg h3,if_neg h4,if_pos h5]
  rw [hb]
  clear hb h0 h1 h2 h3 h4 h5
  go_wp2_with fail
  refine bodyPost_ret (v:=.tuple #[.int .i64 11,.int .i64 3]) G4 Y ?_
  exact ⟨Y,Y⟩
 have g5:(s.toList == [60,61])=false:=fI h5
 by_cases h6:s=bytes [62]
 ·have g6:(s.toList == [62])=true:=gJ h6
  have hb:binOp s=(12,3):=by rw [binOp,if_neg h0,if_neg h1,if_neg h2,if_neg h3,if_neg h4,if_neg h5,if_pos h6]
  rw [hb]
  clear hb h0 h1 h2 h3 h4 h5 h6
  go_wp2_with fail
  refine bodyPost_ret (v:=.tuple #[.int .i64 12,.int .i64 3]) G4 Y ?_
  exact ⟨Y,Y⟩
 have g6:(s.toList == [62])=false:=fI h6
 by_cases h7:s=bytes [62,61]
 ·have g7:(s.toList == [62,61])=true:=gJ h7
  have hb:binOp s=(13,3):=by rw [binOp,if_neg h0,if_neg h1,if_neg h2,if_neg h3,if_neg h4,if_neg h5,if_neg h6,if_pos h7]
  rw [hb]
  clear hb h0 h1 h2 h3 h4 h5 h6 h7
  go_wp2_with fail
  refine bodyPost_ret (v:=.tuple #[.int .i64 13,.int .i64 3]) G4 Y ?_
  exact ⟨Y,Y⟩
 have g7:(s.toList == [62,61])=false:=fI h7
 by_cases h8:s=bytes [43]
 ·have g8:(s.toList == [43])=true:=gJ h8
  have hb:binOp s=(8,4):=by rw [binOp,if_neg h0,if_neg h1,if_neg h2,if_neg h3,if_neg h4,if_neg h5,if_neg h6,if_neg h7,if_pos h8]
  rw [hb]
  clear hb h0 h1 h2 h3 h4 h5 h6 h7 h8
  go_wp2_with fail
  refine bodyPost_ret (v:=.tuple #[.int .i64 8,.int .i64 4]) G4 Y ?_
  exact ⟨Y,Y⟩
 have g8:(s.toList == [43])=false:=fI h8
 by_cases h9:s=bytes [45]
 ·have g9:(s.toList == [45])=true:=gJ h9
  have hb:binOp s=(9,4):=by rw [binOp,if_neg h0,if_neg h1,if_neg h2,if_neg h3,if_neg h4,if_neg h5,if_neg h6,if_neg h7,if_neg h8,if_pos h9]
  rw [hb]
  clear hb h0 h1 h2 h3 h4 h5 h6 h7 h8 h9
  go_wp2_with fail
  refine bodyPost_ret (v:=.tuple #[.int .i64 9,.int .i64 4]) G4 Y ?_
  exact ⟨Y,Y⟩
 have g9:(s.toList == [45])=false:=fI h9
 by_cases h10:s=bytes [42]
 ·have g10:(s.toList == [42])=true:=gJ h10
  have hb:binOp s=(5,5):=by rw [binOp,if_neg h0,if_neg h1,if_neg h2,if_neg h3,if_neg h4,if_neg h5,if_neg h6,if_neg h7,if_neg h8,if_neg h9,if_pos h10]
  rw [hb]
  clear hb h0 h1 h2 h3 h4 h5 h6 h7 h8 h9 h10
  go_wp2_with fail
  refine bodyPost_ret (v:=.tuple #[.int .i64 5,.int .i64 5]) G4 Y ?_
  exact ⟨Y,Y⟩
 have g10:(s.toList == [42])=false:=fI h10
 by_cases h11:s=bytes [47]
 ·have g11:(s.toList == [47])=true:=gJ h11
  have hb:binOp s=(6,5):=by rw [binOp,if_neg h0,if_neg h1,if_neg h2,if_neg h3,if_neg h4,if_neg h5,if_neg h6,if_neg h7,if_neg h8,if_neg h9,if_neg h10,if_pos h11]
  rw [hb]
  clear hb h0 h1 h2 h3 h4 h5 h6 h7 h8 h9 h10 h11
  go_wp2_with fail
  refine bodyPost_ret (v:=.tuple #[.int .i64 6,.int .i64 5]) G4 Y ?_
  exact ⟨Y,Y⟩
 have g11:(s.toList == [47])=false:=fI h11
 by_cases h12:s=bytes [37]
 ·have g12:(s.toList == [37])=true:=gJ h12
  have hb:binOp s=(7,5):=by rw [binOp,if_neg h0,if_neg h1,if_neg h2,if_neg h3,if_neg h4,if_neg h5,if_neg h6,if_neg h7,if_neg h8,if_neg h9,if_neg h10,if_neg h11,if_pos h12]
  rw [hb]
  clear hb h0 h1 h2 h3 h4 h5 h6 h7 h8 h9 h10 h11 h12
  go_wp2_with fail
  refine bodyPost_ret (v:=.tuple #[.int .i64 7,.int .i64 5]) G4 Y ?_
  exact ⟨Y,Y⟩
 have g12:(s.toList == [37])=false:=fI h12
 have hb:binOp s=(0,0):=by rw [binOp,if_neg h0,if_neg h1,if_neg h2,if_neg h3,if_neg h4,if_neg h5,if_neg h6,if_neg h7,if_neg h8,if_neg h9,if_neg h10,if_neg h11,if_neg h12]
 rw [hb]
 clear hb h0 h1 h2 h3 h4 h5 h6 h7 h8 h9 h10 h11 h12
 go_wp2_with fail
 refine bodyPost_ret (v:=.tuple #[.int .i64 0,.int .i64 0]) G4 Y ?_
 exact ⟨Y,Y⟩
def bLb:List ByteArray:=[⟨#[]⟩,⟨#[]⟩,⟨#[]⟩,⟨#[45]⟩,⟨#[33]⟩,⟨#[42]⟩,⟨#[47]⟩,⟨#[37]⟩,⟨#[43]⟩,⟨#[45]⟩,⟨#[60]⟩,⟨#[60,61]⟩,⟨#[62]⟩,⟨#[62,61]⟩,⟨#[61,61]⟩,⟨#[33,61]⟩,⟨#[38,38]⟩,⟨#[124,124]⟩]
structure bOp (w:World):Prop where
 signs:∀j (h:j<bLb.length),w.cell? ⟨3,j,none⟩=some (.string bLb[j])
theorem bOp.keep{L:List Nat}{w w':World}(h:bOp w)(hk:cW L w w')(hn:3∉L):bOp w':=
 ⟨λj hj=>by rw [hk.cell (gV (h.signs j hj)) hn];exact h.signs j hj⟩
theorem bOp.below{w w':World}(h:bOp w)(hb:Below w.heap.size w w'):bOp w':=h.keep (L:=[]) (cW.of_below hb) G0
def bLk(op:Int):Nat:=if op=17 then 1 else if op=16 then 2 else if 10 <= op /\ op <= 15 then 3 else if op=8∨op=9 then 4 else if 5 <= op /\ op <= 7 then 5 else if op=3∨op=4 then 6 else if op=1∨op=2 then 7 else 0
theorem bQb:∀j (h:j<bLb.length),j≠1 -> j≠2 -> j≠3 -> j≠4 -> (binOp bLb[j]).2=bLk j:=V
theorem bOt(op:Int)(h:op<0∨18 <= op):bLk op=0:=by
 unfold bLk
 repeat rw [if_neg J]
theorem bNc(op:Int)(h:1 <= op /\ op <= 17):bLk op=aM op+1:=by
 unfold bLk aM
 split
 ·rfl
 split
 ·rfl
 split
 ·rfl
 split
 ·rfl
 split
 ·rfl
 split
 ·rfl
 rw [if_pos J]
theorem bQf(op:Int)(w:World)(he:bOp w):Calls prog 198 #[.int .i64 op] w λe w'=>e=.returned (.int .i64 (bLk op)) /\ w=w':=by
 have HE:=Lib.hid he
 clear he
 by_cases h1:op=1
 ·subst h1
  go_enter func198,Tryz.ntmps198
  go_wp2_with fail
  go_ret
  exact ⟨Y,Y⟩
 by_cases h2:op=2
 ·subst h2
  go_enter func198,Tryz.ntmps198
  go_wp2_with fail
  go_ret
  exact ⟨Y,Y⟩
 by_cases h3:op=3
 ·subst h3
  go_enter func198,Tryz.ntmps198
  go_wp2_with fail
  go_ret
  exact ⟨Y,Y⟩
 by_cases h4:op=4
 ·subst h4
  go_enter func198,Tryz.ntmps198
  go_wp2_with fail
  go_ret
  exact ⟨Y,Y⟩
 have b1:(op == 1)=false:=C2
 have b2:(op == 2)=false:=B4
 have b3:(op == 3)=false:=DL
 have b4:(op == 4)=false:=by simpa using h4
 by_cases hneg:op<0
 ·have hd:decide (op<0)=true:=by simpa using hneg
  have hs:=bOt op (.inl hneg)
  rw [hs]
  clear hs h1 h2 h3 h4
  go_enter func198,Tryz.ntmps198
  go_wp2_with fail
  go_ret
  exact ⟨Y,Y⟩
 have hd:decide (op<0)=false:=by simpa using hneg
 by_cases hbig:18 <= op
 ·have hd2:decide (18 <= op)=true:=by simpa using hbig
  have hs:=bOt op (.inr hbig)
  rw [hs]
  clear hs h1 h2 h3 h4
  go_enter func198,Tryz.ntmps198
  go_wp2_with fail
  go_ret
  exact ⟨Y,Y⟩
 obtain ⟨j,rfl⟩:∃j:Nat,op=j:=⟨op.toNat,J⟩
 have hj:j<bLb.length:=by simp [bLb];omega
 have hs:=bQb j hj J J J J
 have hc:=HE.out.signs j hj
 have hd2:decide ((18:Int) <= j)=false:=by simpa using hbig
 have hlt:(j:Int)<18:=J
 obtain ⟨s,hs2⟩:∃s,s=bLb[j]:=⟨_,rfl⟩
 rw [←hs2] at hs hc
 rw [←hs]
 clear hs h1 h2 h3 h4 hs2
 go_enter func198,Tryz.ntmps198
 go_wp2_with fail
 refine (aDq s w).mono ?_
 rintro e w' ⟨rfl,rfl⟩
 go_wp2_with fail
 go_ret
 exact ⟨Y,Y⟩
structure bM9 (w:World):Prop where
 words:∀j (h:j<words.length),w.cell? ⟨0,j,none⟩=some (.string words[j])
 maxLen:∃m:Int,w.cell? ⟨2,0,none⟩=some (.int .i64 m)
 signs:bOp w
 tab : Lib.TabIs prog w "internal/strconv.uint64pow10" .u64 Lib.pow10Tab
theorem bM9.up{w w':World}(h:bM9 w)(hu:Up2 w w'):bM9 w':=by
 refine ⟨λj hj=>hu.1 _ _ (h.words j hj),h.maxLen.imp λm hm=>hu.1 _ _ hm,⟨λj hj=>hu.1 _ _ (h.signs.signs j hj)⟩,?_⟩
 have h1:=h.tab
 unfold Lib.TabIs World.var? at h1⊢
 cases hg : prog.globalNamed "internal/strconv.uint64pow10" with
 |none=>rw [hg] at h1;exact absurd h1 G0
 |some g=>
  rw [hg,Option.bind_some] at h1
  rw [Option.bind_some]
  cases hb:w.heap[g]? with
  |none=>rw [hb] at h1;exact absurd h1 G0
  |some o=>
   rw [hb] at h1
   cases o with
   |cells cs t fz=>
    simp only [Option.some.injEq] at h1
    subst h1
    rw [hu.2 g _ t fz hb (by rw [List.size_toArray,List.length_map];decide)]
   |_=>exact absurd h1 G0
abbrev bK5(t:AT):AT:=.ride t bM9
theorem bL3{w:World}{t u:AT}{p:World -> Prop}{v0 v:Value}(h0:dO w (.ride t p) v0)(h:dO w u v):dO w (.ride u p) v:=by
 cases h0 with|ride _ _ _ _ hp=>exact .ride _ _ _ h hp
theorem bMx{bl:List Nat}{w:World}{t:AT}{p:World -> Prop}{v:Value}(h:dO (bI bl w) (.ride t p) v):p w:=by
 cases h with|ride _ _ _ _ hp=>exact hp w (bRm bl w)
theorem bNx{w:World}{t:AT}{p:World -> Prop}{v:Value}(h:dO w (.ride t p) v):p w:=by
 cases h with|ride _ _ _ _ hp=>exact hp w ⟨λ_ _ h=>h,λ_ _ _ _ h _=>h⟩
theorem bOr{w:World}{t:AT}{v:Value}(h:dO w t v)(he:bM9 w):dO w (bK5 t) v:=.ride _ _ _ h λ_ hu=>he.up hu
theorem bPv{t:AT}{p:World -> Prop}:Wk (.ride t p) t:=λw v h=>by cases h with|ride _ _ _ h _=>exact h
theorem bQv{w:World}{t u:AT}{v0 v:Value}(h0:dO w (bK5 t) v0)(h:dO w u v):∃m,dO w (aA2 u m) v:=by
 have he:=bNx h0
 obtain ⟨m,hm⟩:=he.maxLen
 refine ⟨m,.fact _ _ _ _ [.int .i64 m] _ (.fact _ _ _ _ (words.map .string) _ h ?_ ?_) ?_ ?_⟩
 ·have h9:=gU w (words.map .string) AW
  rw [List.map_map] at h9;exact h9
 ·intro j u hj
  have hjl:j<words.length:=by have:=(List.getElem?_eq_some_iff.1 hj).1;simpa using this
  rw [Nat.zero_add,he.words j hjl]
  rw [List.getElem?_map,List.getElem?_eq_getElem hjl] at hj
  exact hj
 ·exact gU _ [.int .i64 m] (λu hu=>by simp at hu;subst hu;rfl)
 intro j u hj
 match j,hj with
 |0,hj=>simp at hj;subst hj;exact hm
 |j+1,hj=>simp at hj
section
variable {P:Program}{U T:List Nat}{o:Oper}{n d:Nat}{ts:List (Nat×AT)}{s:Sto}{K:AS -> Prop}{p:World -> Prop}{t0 u:AT}{us:List AT}{ops:Array Oper}{l:List Oper}{Q:Exit -> AS -> Prop}
theorem bMg{F:FuncId}{ars:Array Operand}{tys:Array TypeId}(i0:Nat)(T':List Nat){QQ:AT -> Sto -> Prop}(ho:o.op=.call {callee:=.value (.func F),args:=ars,argTypes:=tys})(hd:o.dst=some d)(hn:d<n)
  (hcf:∀args w,(callFunc F args).run P w=.ok (.enter F args) w) (hl:look ts i0=some (.ride t0 p)) (has:ars.toList.map (evA ⟨n,T,s,ts⟩)=(u::us).map some) (hc:aL P F (.ride u p::us) T' s QQ) (hT:∀b,b∈T' -> b∈T) (hTb:∀b,b∈T' -> b∈s.bl) (hU:s.bl.Nodup -> ∀b,b∈T' -> b∈U)
  (h:∀r s',QQ r s' -> K ⟨n,T,s',(d,r)::ts⟩):AO P U o ⟨n,T,s,ts⟩ K:=by
 intro a w hs KK QQ' hK
 obtain ⟨h1,h2⟩:=rU hs has
 obtain ⟨v0,-,hv0⟩:=hs.tm i0 _ hl
 refine aCf (st:=⟨n,T,s,ts⟩) (ts:=.ride u p::us) hs hd hn h1 (λi hi hi'=>?_) ?_ hc hT hTb hU h KK QQ' hK
 ·match i,hi with
  |0,hi=>exact bL3 hv0 (h2 0 G0 hi')
  |i+1,hi=>exact h2 (i+1) B3 hi'
 ·simp only [execOp,ho,resolve,Deferred.ofValue,Act.eval,Sem.run_bind,Sem.run_pure,Result.andThen_ok,invoke]
  rw [hcf]
  congr 2
  rw [←Array.toList_inj];simp
theorem bN9{F:FuncId}{ars:Array Operand}{tys:Array TypeId}(i0:Nat)(T':List Nat){QQ:AT -> Sto -> Prop}(ho:o.op=.call {callee:=.value (.func F),args:=ars,argTypes:=tys})(hd:o.dst=some d)(hn:d<n)
  (hcf:∀args w,(callFunc F args).run P w=.ok (.enter F args) w) (hl:look ts i0=some (bK5 t0)) (has:ars.toList.map (evA ⟨n,T,s,ts⟩)=(u::us).map some) (hc:∀m,aL P F (aA2 u m::us) T' s QQ) (hT:∀b,b∈T' -> b∈T) (hTb:∀b,b∈T' -> b∈s.bl) (hU:s.bl.Nodup -> ∀b,b∈T' -> b∈U)
  (h:∀r s',QQ r s' -> K ⟨n,T,s',(d,r)::ts⟩):AO P U o ⟨n,T,s,ts⟩ K:=by
 intro a w hs KK QQ' hK
 obtain ⟨h1,h2⟩:=rU hs has
 obtain ⟨v0,-,hv0⟩:=hs.tm i0 _ hl
 obtain ⟨m,hm⟩:=bQv hv0 (h2 0 G0 (by rw [h1];simp))
 refine aCf (st:=⟨n,T,s,ts⟩) (ts:=aA2 u m::us) hs hd hn h1 (λi hi hi'=>?_) ?_ (hc m) hT hTb hU h KK QQ' hK
 ·match i,hi with
  |0,hi=>exact hm
  |i+1,hi=>exact h2 (i+1) B3 hi'
 ·simp only [execOp,ho,resolve,Deferred.ofValue,Act.eval,Sem.run_bind,Sem.run_pure,Result.andThen_ok,invoke]
  rw [hcf]
  congr 2
  rw [←Array.toList_inj];simp
theorem bRz{F:FuncId}{x:Operand}{cap:Array Value}{ars:Array Operand}{tys:Array TypeId}(i0:Nat)(T':List Nat){QQ:AT -> Sto -> Prop}(ho:o.op=.call {callee:=.value x,args:=ars,argTypes:=tys})(hx:evA ⟨n,T,s,ts⟩ x=some (Cv (.func (.func F) #[] cap)))(hd:o.dst=some d)(hn:d<n)
  (hcf:∀args w,(callFunc F args).run P w=.ok (.enter F args) w) (hl:look ts i0=some (.ride t0 p)) (has:ars.toList.map (evA ⟨n,T,s,ts⟩)=(u::us).map some) (hc:aL P F (.ride u p::(us++cap.toList.map cst)) T' s QQ) (hT:∀b,b∈T' -> b∈T) (hTb:∀b,b∈T' -> b∈s.bl) (hU:s.bl.Nodup -> ∀b,b∈T' -> b∈U)
  (h:∀r s',QQ r s' -> K ⟨n,T,s',(d,r)::ts⟩):AO P U o ⟨n,T,s,ts⟩ K:=by
 intro a w hs KK QQ' hK
 obtain ⟨h1,h2⟩:=rU hs has
 obtain ⟨v0,-,hv0⟩:=hs.tm i0 _ hl
 obtain ⟨d1,d2⟩:=aA7 (bI s.bl w) cap.toList
 have h3:(ars.toList.map a.eval).length=(AT.ride u p::us).length /\ ∀i (h:i<(AT.ride u p::us).length) (h':i<(ars.toList.map a.eval).length),dO (bI s.bl w) (AT.ride u p::us)[i] (ars.toList.map a.eval)[i]:=by
  refine ⟨h1,λi hi hi'=>?_⟩
  match i,hi with
  |0,hi=>exact bL3 hv0 (h2 0 G0 hi')
  |i+1,hi=>exact h2 (i+1) B3 hi'
 obtain ⟨g3,g4⟩:=aBo h3.1 h3.2 d1 d2
 refine aCf (st:=⟨n,T,s,ts⟩) (ts:=.ride u p::(us++cap.toList.map cst)) hs hd hn g3 g4 ?_ hc hT hTb hU h KK QQ' hK
 simp only [execOp,ho,resolve,hs.val hx,Deferred.ofValue,Sem.run_bind,Sem.run_pure,Result.andThen_ok,invoke]
 rw [hcf]
 congr 2
 rw [←Array.toList_inj];simp
theorem noT{X:List Nat}:∀b,b∈([]:List Nat) -> b∈X:=λ_ h=>DV
theorem wcR{F:FuncId}{ars:Array Operand}{tys:Array TypeId}{r:AT}(i0:Nat)(h0:(fC ops o ⟨n,T,s,ts⟩,o.op,o.dst,Nat.blt d n,look ts i0)=(some true,.call {callee:=.value (.func F),args:=ars,argTypes:=tys},some d,true,some (.ride t0 p)))
  (hcf:∀args w,(callFunc F args).run P w=.ok (.enter F args) w) (has:ars.toList.map (evA ⟨n,T,s,ts⟩)=(u::us).map some) (hc:aL P F (.ride u p::us) [] s λt s'=>t=r /\ s'=s) (h:eQ P ops l ⟨n,T,s,(d,r)::ts⟩ Q):eQ P ops (o::l) ⟨n,T,s,ts⟩ Q:=by
 simp only [Prod.mk.injEq] at h0
 exact wo h0.1 (bMg i0 [] h0.2.1 h0.2.2.1 (Nat.le_of_ble_eq_true h0.2.2.2.1) hcf h0.2.2.2.2 has hc noT noT (λ_=>noT) λr s' ⟨h1,h2⟩=>Ej)
theorem bK8{F:FuncId}{ars:Array Operand}{tys:Array TypeId}{b c:Bool}(i0:Nat)(h0:(fC ops o ⟨n,T,s,ts⟩,o.op,o.dst,Nat.blt d n,look ts i0)=(some true,.call {callee:=.value (.func F),args:=ars,argTypes:=tys},some d,true,some (.ride t0 p)))
  (hcf:∀args w,(callFunc F args).run P w=.ok (.enter F args) w) (has:ars.toList.map (evA ⟨n,T,s,ts⟩)=(u::us).map some) (hc:aL P F (.ride u p::us) [] s λt s'=>t=Cb b /\ s'=s) (hb:b=c) (h:eQ P ops l ⟨n,T,s,(d,Cb c)::ts⟩ Q):eQ P ops (o::l) ⟨n,T,s,ts⟩ Q:=by
 subst hb;exact wcR i0 h0 hcf has hc h
theorem wc1{F:FuncId}{ars:Array Operand}{tys:Array TypeId}{r:AT}(h0:(fC ops o ⟨n,T,s,ts⟩,o.op,o.dst,Nat.blt d n)=(some true,.call {callee:=.value (.func F),args:=ars,argTypes:=tys},some d,true))
  (hcf:∀args w,(callFunc F args).run P w=.ok (.enter F args) w) (has:ars.toList.map (evA ⟨n,T,s,ts⟩)=us.map some) (hc:aL P F us [] s λt s'=>t=r /\ s'=s) (h:eQ P ops l ⟨n,T,s,(d,r)::ts⟩ Q):eQ P ops (o::l) ⟨n,T,s,ts⟩ Q:=by
 simp only [Prod.mk.injEq] at h0
 exact wo h0.1 (bD [] h0.2.1 h0.2.2.1 (Nat.le_of_ble_eq_true h0.2.2.2) hcf has hc noT noT (λ_=>noT) λr s' ⟨h1,h2⟩=>Ej)
theorem bOu{F:FuncId}{ars:Array Operand}{tys:Array TypeId}{b c:Bool}(h0:(fC ops o ⟨n,T,s,ts⟩,o.op,o.dst,Nat.blt d n)=(some true,.call {callee:=.value (.func F),args:=ars,argTypes:=tys},some d,true))
  (hcf:∀args w,(callFunc F args).run P w=.ok (.enter F args) w) (has:ars.toList.map (evA ⟨n,T,s,ts⟩)=us.map some) (hc:aL P F us [] s λt s'=>t=Cb b /\ s'=s) (hb:b=c) (h:eQ P ops l ⟨n,T,s,(d,Cb c)::ts⟩ Q):eQ P ops (o::l) ⟨n,T,s,ts⟩ Q:=by
 subst hb;exact wc1 h0 hcf has hc h
theorem bRr{t e:TypeId}{y:Operand}{k:IntKind}{i:Int}{N:Nat}(i0 j:Nat)(ho:o.op=.indexAddr t (.global 3) y)(hl:look ts i0=some (bK5 t0))(hy:evA ⟨n,T,s,ts⟩ y=some (Cv (.int k i)))(hi:i=j)(hj:j<bLb.length)(hN:bLb.length=N)
  (hu:∀w,(underlying t).run P w=.ok (.array N e) w) (hS:∀w,(sizeOf e).run P w=.ok 1 w):AY P U o ⟨n,T,s,ts⟩ (.el [Vs (bLb[j])]):=by
 intro a w hs _
 subst hi;subst hN
 obtain ⟨v0,-,hv0⟩:=hs.tm i0 _ hl
 have he:=(bNx hv0).signs.signs j hj
 refine ⟨.pointer (some ⟨3,j,none⟩),.el _ _ _ [.string bLb[j]] (gU _ [.string bLb[j]] (λu hu=>by simp at hu;subst hu;rfl)) (λi u hu=>?_) (gV he),λw' _=>?_⟩
 ·match i,hu with
  |0,hu=>simp at hu;subst hu;exact he
  |i+1,hu=>simp at hu
 ·simp only [execOp,ho,hs.val hy,show a.eval (.global 3)=.pointer (some ⟨3,0,none⟩) from rfl,Instr.indexAt,asIntOf,Sem.run_bind,Sem.run_pure,Result.andThen_ok,hu]
  simp [go_sem,hS,hj,oU]
end
end
section
def aPn(t:Tok):Prop:=(t.kind=3 -> dA t.text=true) /\ (t.kind=4 -> dA t.text=false) /\ t.num <= 9223372036854775807
theorem aBk:∀(r:List UInt8)(n m:Nat),n <= 9223372036854775807 -> iT n r=some m -> m <= 9223372036854775807
 |[],n,m,h,he=>by unfold iT at he;cases he;exact h
 |c::r,n,m,h,he=>by
  unfold iT at he
  split at he
  ·cases he
  exact aBk r _ m (by have:=c.toNat_lt;omega) he
theorem aKj:∀x,x∈words -> fU (x.data.toList.headD 0)=true:=V
theorem aKh{c:UInt8}{r:List UInt8}(h:fU c=false){n:Nat}(hn:n≠0):dA (bytes ((c::r).take n))=false:=by
 cases hr:dA (bytes ((c::r).take n)) with
 |false=>rfl
 |true=>
  have h1:=aKj _ ((cZx _).1 hr)
  obtain ⟨m,rfl⟩:∃m,n=m+1:=⟨n-1,J⟩
  simp [bytes] at h1
  rw [h] at h1;cases h1
theorem aKe{c:UInt8}{r:List UInt8}{kind len num:Nat}(p:Nat)(h:dQ (c::r)=.tok kind len num):aPn ⟨kind,bytes ((c::r).take len),num,p⟩ /\ kind≠5:=by
 cases hc:fU c with
 |true=>
  rw [kK hc] at h
  split at h
  ·cases h
  ·injection h with h1 h2 h3
   subst h2;subst h3;subst h1
   have ht:(c::r).take ((c::r).takeWhile cT).length=(c::r).takeWhile cT:=by
    have:=List.takeWhile_prefix (l:=c::r) cT
    exact (List.prefix_iff_eq_take.1 this).symm
   rw [ht]
   refine ⟨⟨λh3=>?_,λh4=>?_,by show 0 <= _;omega⟩,?_⟩
   ·change (if dA (bytes ((c::r).takeWhile cT))=true then 3 else 1)=3 at h3
    split at h3
    ·assumption
    omega
   ·change (if dA (bytes ((c::r).takeWhile cT))=true then 3 else 1)=4 at h4
    split at h4<;>omega
   ·split<;>omega
 |false=>
  cases hd:cD c with
  |true=>
   cases hn:iT 0 ((c::r).takeWhile cD) with
   |none=>rw [nK hc hd hn] at h;cases h
   |some n=>
    rw [lP hc hd hn] at h
    injection h with h1 h2 h3
    subst h1;subst h2;subst h3
    exact ⟨⟨λh=>absurd h (show ¬(2=3) by decide),λh=>absurd h (show ¬(2=4) by decide),aBk _ _ _ J hn⟩,J⟩
  |false=>
   rw [iN hc hd] at h
   split at h
   ·cases h
   rename_i h0
   injection h with h1 h2 h3
   subst h1;subst h2;subst h3
   exact ⟨⟨λh=>absurd h (show ¬(4=3) by decide),λ_=>aKh hc h0,Nat.zero_le _⟩,J⟩
structure aX5 (l:List Tok):Prop where
 ends:rP l
 reg:∀t,t∈l -> aPn t
 few:l.length <= 4001
theorem aFf:∀(m:Nat)(s:List UInt8)(k n:Nat),s.length-k <= m -> k <= s.length -> n <= 4000 -> ∀L,kD s k n=.ok L -> (∃h:0<L.length,(L[L.length-1]'(by omega)).kind=5) /\ (∀t,t∈L -> aPn t) /\ L.length+n <= 4001
 |m,s,k,n,hm,hk,hn,L,h=>by
  by_cases he:s.length <= bF s k
  ·rw [dAd he] at h
   cases h
   refine ⟨⟨G0,Y⟩,λt ht=>?_,DR⟩
   simp at ht;subst ht
   exact ⟨λh=>DV,λh=>DV,by show 0 <= _;omega⟩
  have hlt:bF s k<s.length:=J
  cases hx:dQ (s.drop (bF s k)) with
  |err e=>rw [uY hlt hx] at h;cases h
  |tok kind len num=>
   by_cases h4:n=4000
   ·subst h4;rw [sG hlt hx] at h;cases h
   rw [nD hk hlt hx h4] at h
   have hg:=lG s k hk
   have hd:s.drop (bF s k)≠[]:=CF
   have hl:=cZy hd hx
   rw [List.length_drop] at hl
   obtain ⟨c,r,hcr⟩:=List.exists_cons_of_ne_nil hd
   rw [hcr] at hx h
   have hreg:=aKe (bF s k) hx
   cases m with
   |zero=>omega
   |succ m=>
    cases ht:kD s (bF s k+len) (n+1) with
    |err p e=>rw [ht] at h;cases h
    |ok L'=>
     rw [ht] at h
     cases h
     obtain ⟨⟨h0,h5⟩,h2,h3⟩:=aFf m s (bF s k+len) (n+1) J J J L' ht
     refine ⟨⟨G0,?_⟩,λt ht=>?_,DR⟩
     ·simp only [length_cons]
      rw [List.getElem_cons]
      rw [dif_neg J]
      simpa using h5
     rcases mem_cons.1 ht with rfl|ht
     ·exact hreg.1
     exact h2 t ht
theorem wD{s:List UInt8}{L:List Tok}(h:iH s=.ok L):aX5 L:=by
 unfold iH at h
 split at h
 ·cases h
 obtain ⟨h1,h2,h3⟩:=aFf s.length s 0 0 J J J L h
 exact ⟨h1,h2,J⟩
end
section
theorem bOa{c:UInt8}{r:List UInt8}{len num:Nat}(h:dQ (c::r)=.tok 1 len num):bQ (bytes ((c::r).take len))=true:=by
 cases hc:fU c with
 |true=>
  rw [kK hc] at h
  split at h
  ·cases h
  ·rename_i h16
   injection h with h1 h2 h3
   subst h2
   have ht:(c::r).take ((c::r).takeWhile cT).length=(c::r).takeWhile cT:=
    (List.prefix_iff_eq_take.1 (List.takeWhile_prefix (l:=c::r) cT)).symm
   rw [ht]
   have hn:cT c=true:=by simp [cT,hc]
   have hd:(bytes ((c::r).takeWhile cT)).data.toList=c::r.takeWhile cT:=by rw [List.takeWhile_cons_of_pos hn];simp [bytes]
   unfold bQ
   rw [hd]
   have hsz:(bytes ((c::r).takeWhile cT)).size=((c::r).takeWhile cT).length:=Co
   have hres:dA (bytes ((c::r).takeWhile cT))=false:=by
    cases hr:dA (bytes ((c::r).takeWhile cT)) with
    |false=>rfl
    |true=>rw [if_pos hr] at h1;omega
   have hall:(r.takeWhile cT).all cT=true:=List.all_eq_true.2 λx hx=>by
    have:=List.all_takeWhile (p:=cT) (l:=r)
    exact List.all_eq_true.1 this x hx
   simp only [hc,hall,hres,hsz,decide_eq_true (show ((c::r).takeWhile cT).length <= 16 by omega),Bool.and_self,Bool.not_false]
 |false=>
  cases hd:cD c with
  |true=>
   cases hn:iT 0 ((c::r).takeWhile cD) with
   |none=>rw [nK hc hd hn] at h;cases h
   |some n=>rw [lP hc hd hn] at h;injection h with h1;omega
  |false=>
   rw [iN hc hd] at h
   split at h
   ·cases h
   injection h with h1;omega
theorem bNf:∀(m:Nat)(s:List UInt8)(k n:Nat),s.length-k <= m -> k <= s.length -> ∀L,kD s k n=.ok L -> ∀t,t∈L -> t.kind=1 -> bQ t.text=true
 |m,s,k,n,hm,hk,L,h,t,ht,h1=>by
  by_cases he:s.length <= bF s k
  ·rw [dAd he] at h
   cases h
   simp at ht;subst ht;cases h1
  have hlt:bF s k<s.length:=J
  cases hx:dQ (s.drop (bF s k)) with
  |err e=>rw [uY hlt hx] at h;cases h
  |tok kind len num=>
   by_cases h4:n=4000
   ·subst h4;rw [sG hlt hx] at h;cases h
   rw [nD hk hlt hx h4] at h
   have hg:=lG s k hk
   have hd:s.drop (bF s k)≠[]:=CF
   have hl:=cZy hd hx
   rw [List.length_drop] at hl
   obtain ⟨c,r,hcr⟩:=List.exists_cons_of_ne_nil hd
   rw [hcr] at hx h
   cases m with
   |zero=>omega
   |succ m=>
    cases hq:kD s (bF s k+len) (n+1) with
    |err p e=>rw [hq] at h;cases h
    |ok L'=>
     rw [hq] at h
     cases h
     rcases mem_cons.1 ht with rfl|ht
     ·dsimp only at h1
      subst h1
      exact bOa hx
     exact bNf m s (bF s k+len) (n+1) J J L' hq t ht h1
theorem bO7{s:List UInt8}{L:List Tok}(h:iH s=.ok L):∀t,t∈L -> t.kind=1 -> bQ t.text=true:=by
 unfold iH at h
 split at h
 ·cases h
 exact bNf s.length s 0 0 J J L h
theorem bMf{p:UInt8 -> Bool}:∀{l:List UInt8},(∀x,x∈l -> p x=true) -> l.takeWhile p=l
 |[],_=>rfl
 |x::l,h=>by rw [List.takeWhile_cons_of_pos (h x G0),bMf λy hy=>h y (by simp [hy])]
theorem bP2{c:UInt8}(h:fU c=true):isSp c=false /\ c≠47:=by
 unfold fU at h
 rw [decide_eq_true_eq] at h
 refine ⟨by unfold isSp;rw [decide_eq_false_iff_not];omega,?_⟩
 rintro rfl
 revert h;decide
theorem bNq{s:ByteArray}(h:bQ s=true):iH s.data.toList=.ok [⟨1,s,0,0⟩,⟨5,⟨#[]⟩,0,s.size⟩]:=by
 unfold bQ at h
 have hsz:s.size=s.data.toList.length:=Y
 have hb:bytes s.data.toList=s:=Dn
 rw [hsz] at h⊢
 cases hd:s.data.toList with
 |nil=>rw [hd] at h;simp at h
 |cons c r=>
  rw [hd] at h hb
  simp only [Bool.and_eq_true,decide_eq_true_eq,Bool.not_eq_true'] at h
  obtain ⟨⟨⟨h1,h2⟩,h3⟩,h4⟩:=h
  have hall:(c::r).takeWhile cT=c::r:=bMf (by
   intro x hx
   rcases mem_cons.1 hx with rfl|hx
   ·simp [cT,h1]
   exact List.all_eq_true.1 h2 x hx)
  have hk:bF (c::r) 0=0:=zX _ 0 G0 (bP2 h1).1 (λh=>(bP2 h1).2 h.1)
  unfold iH
  rw [if_neg J,kD,hk,if_neg G0,List.drop_zero,kK h1,hall,if_neg J]
  dsimp only
  rw [if_neg J,dif_pos ⟨G0,G0⟩,kD,aA5 _ _ G0,if_pos (Nat.le_refl _),List.take_length,hb,h4]
  rfl
theorem bL0{s:ByteArray}{L:List Tok}(h:iH s.data.toList=.ok L):(L.length=2 /\ ∃h0:0<L.length,L[0].kind=1 /\ L[0].text=s)↔bQ s=true:=by
 constructor
 ·rintro ⟨_,h0,h1,h2⟩
  rw [←h2]
  exact bO7 h _ (getElem_mem _) h1
 intro hn
 rw [bNq hn] at h
 cases h
 exact ⟨Y,G0,Y,Y⟩
theorem bOs{s:ByteArray}{p e:Nat}(h:iH s.data.toList=.err p e):bQ s=false:=by
 cases hn:bQ s with
 |false=>rfl
 |true=>rw [bNq hn] at h;cases h
end
section
open Go.RowKit
theorem bNt{F:FuncId}{u0:Value}{us:List Value}{u:Value}(h1:u.oneCell'=true)(h:∀w,bM9 w -> Calls prog F (u0::us).toArray w λe w'=>e=.returned u /\ w=w')(s:Sto):aL prog F (bK5 (Cv u0)::us.map λu=>Cv u) [] s λr s'=>r=Cv u /\ s'=s:=by
 intro vs w hm _ hl hr
 cases vs with
 |nil=>cases hl
 |cons v vs=>
  have h0:dO (bI s.bl w) (bK5 (Cv u0)) v:=hr 0 G0 G0
  obtain rfl:=(bPv _ _ h0).val
  obtain rfl:vs=us:=by
   refine List.ext_getElem Dm λi h1 h2=>?_
   have h3:=hr (i+1) B4 C2
   simp only [List.getElem_cons_succ,List.getElem_map] at h3
   exact h3.val
  exact (h w (bMx h0)).mono λe w' ⟨h2,h3⟩=>CE
theorem bOf(op:Int)(s:Sto):aL prog 198 [bK5 (Ci op)] [] s λr s'=>r=Ci ((bLk op:Nat):Int) /\ s'=s:=
 bNt (us:=[]) rfl (λw he=>bQf op w he.signs) s
theorem bPh{op:Int}(h:bLk op=7):op=1∨op=2:=by
 unfold bLk at h;(repeat' split at h)<;>omega
theorem bSc{op:Int}(h:bLk op=6):op=3∨op=4:=by
 unfold bLk at h;(repeat' split at h)<;>omega
theorem bNd(op:Int):bLk op <= 7:=by unfold bLk;(repeat' split)<;>omega
theorem bR4{op:Int}(h:bLk op=0):¬(1 <= op /\ op <= 17):=by
 unfold bLk at h;(repeat' split at h)<;>omega
theorem bN2{op:Int}(h:¬bLk op=0):1 <= op /\ op <= 17:=by
 unfold bLk at h;(repeat' split at h)<;>omega
def bLj(e:aH):Bool:=
 if bLk e.op=0 then false else if bLk e.op=7 then decide (e.args.length=0) && jG e.op e.num e.name
 else decide (e.args.length=if bLk e.op=6 then 1 else 2) && decide (e.num=0) && decide (e.name=aK) && dY e.args
theorem bK7(e:aH):eO e=bLj e:=by
 rw [dZ]
 unfold bLj
 by_cases h0:bLk e.op=0
 ·have h1:=bR4 h0
  have hs:aM e.op=6:=D9
  have hl:jG e.op e.num e.name=false:=by
   unfold jG
   rw [decide_eq_false (show ¬(e.op=1 /\ 0 <= e.num) by omega),decide_eq_false (show ¬(e.op=2 /\ e.num=0) by omega)];rfl
  rw [if_pos h0,if_pos hs,hl];rfl
 have hop:=bN2 h0
 have h2:=bNc e.op hop
 rw [if_neg h0]
 by_cases h7:bLk e.op=7
 ·rw [if_pos h7,if_pos J]
  unfold arity
  rw [if_pos J]
  cases ha:e.args with
  |nil=>simp [dY]
  |cons x l=>simp
 rw [if_neg h7,if_neg (by have:=bNd e.op;omega)]
 unfold arity
 rw [if_neg (by have:=bNd e.op;omega)]
 by_cases h6:bLk e.op=6
 ·rw [if_pos h6,if_pos J]
  cases decide (e.num=0)<;>cases decide (e.name=aK)<;>cases dY e.args<;>simp
 rw [if_neg h6,if_neg J]
 cases decide (e.num=0)<;>cases decide (e.name=aK)<;>cases dY e.args<;>simp
theorem bPx:∀{l:List aH} (h:l.length=1),dY l=eO (l[0]'(by omega))
 |[x],_=>by simp [dY]
theorem bOm:∀{l:List aH} (h:l.length=2),dY l=(eO (l[0]'(by omega)) && eO (l[1]'(by omega)))
 |[x,y],_=>by simp [dY]
theorem bLd{e:aH}(h:eO e=true):(1 <= e.op /\ e.op <= 17) /\ ∀k (hk:k<e.args.length),eO e.args[k]=true:=by
 refine ⟨bN2 λh0=>?_,λk hk=>?_⟩
 ·rw [bK7] at h;unfold bLj at h;rw [if_pos h0] at h;cases h
 cases hs:eO e.args[k] with
 |true=>rfl
 |false=>
  rw [dZ,oF _ _ _ hs,Bool.and_false] at h;cases h
theorem bOl(e:aH)(k:Nat)(hk:k<e.args.length)(ho:1 <= e.op /\ e.op <= 17)(hok:1 <= e.args[k].op /\ e.args[k].op <= 17)(s:Sto):aL prog 200 [bK5 (.agg (cU e)),nI k] [] s λt s'=>t=Cb (cV e.op k e.args[k].op) /\ s'=s:=by
 obtain ⟨bx,rw⟩:=s
 refine acX 29 func200 ?_
 refine go 7 λb1=>?_
 refine dx [b1] (tz [(0,true),(1,true),(2,true)] 9 (go 4 ?_))
 refine tx 3 Y (bH fO cU e.args iU fP k Y Y Y Y J V runUnderlying85 sizeOf87) (tz [(4,true),(5,true),(7,true),(8,true)] 4 (go 5 ?_))
 refine ox 6 Y Y (bMg 0 [] Y Y V call198 Y Y (bOf e.args[k].op _) bDl bDl (λ_=>bDl) ?_)
 rintro _ _ ⟨rfl,rfl⟩
 refine ox 9 Y Y (bMg 0 [] Y Y V call198 Y Y (bOf e.op _) bDl bDl (λ_=>bDl) ?_)
 rintro _ _ ⟨rfl,rfl⟩
 refine tz [(10,true),(11,true)] 0 (go 3 ?_)
 refine ax (go 3 ?_)
 have hs1:=bNc e.op ho
 have hs2:=bNc e.args[k].op hok
 refine go 2 ?_
 by_cases h3:((bLk e.args[k].op:Nat):Int)<((bLk e.op:Nat):Int)
 focus
  refine wcp true Y (jZ h3) (go 13 ?_)
 rotate_left
 focus
  refine wcp false Y (jQ h3) (go 3 ?_)
  by_cases h4:((bLk e.args[k].op:Nat):Int)=((bLk e.op:Nat):Int)
  focus
   refine wcp true Y (eR h4) (go 2 ?_)
   by_cases h5:((k:Nat):Int)=1
   focus
    refine wcp true Y (eR h5) (go 6 ?_)
   rotate_left
   refine wcp false Y (eD h5) (go 6 ?_)
  rotate_left 2
  refine wcp false Y (eD h4) (go 9 ?_)
 all_goals
  exact bHe (s':=⟨bx,rw⟩) Y sb1 ⟨cX (by unfold cV;first|exact decide_eq_true J|exact decide_eq_false J),Y⟩
theorem bP1(x:ByteArray)(hx:x.size <= 4611686018427387904)(s:Sto):aL prog 199 [bK5 (Cs x)] [] s λt s'=>t=Cb (bQ x) /\ s'=s:=by
 obtain ⟨bx,rw⟩:=s
 refine acX 35 func199 ?_
 refine go 8 ?_
 refine wo Y (aDc Y Y V Y underlying9 underlying58 underlying5 D5 (N:=x.data.toList.length) Y (cs:=iF x.data.toList) Y ?_)
 refine wo Y (bN9 0 [] Y Y V call94 Y Y (λm=>aP8 x.data.toList m _) bDl bDl (λ_=>bDl) ?_)
 rintro _ _ ⟨(⟨tl1,hlx1,rfl,htl1⟩|⟨p1,e1,hlx1,rfl,he1⟩),rfl⟩
 ·refine go 12 ?_
  refine wcp true Y B7 (go 3 ?_)
  by_cases h2:((tl1.length:Nat):Int)=2
  ·refine wcp true Y (eR h2) (go 3 ?_)
   refine wyz Y (bH aW aW tl1 bJ (λ_=>Y) 0 Y Y Y Y J V runUnderlying139 sizeOf154) (go 2 ?_)
   by_cases h3:((tl1[0].kind:Nat):Int)=1
   ·refine wcp true Y (eR h3) (go 3 ?_)
    refine wyz Y (bH aW aW tl1 bJ (λ_=>Y) 0 Y Y Y Y J V runUnderlying139 sizeOf154) (go 3 ?_)
    by_cases h4:tl1[0].text=x
    ·refine wyz Y (aZ true Y Y Y (aL8 h4)) (go 5 ?_)
     exact bHe (s':=⟨bx,rw⟩) Y sb0 ⟨cX ((bL0 hlx1).1 ⟨J,J,J,h4⟩),Y⟩
    refine wyz Y (aZ false Y Y Y (aLs h4)) (go 5 ?_)
    exact bHe (s':=⟨bx,rw⟩) Y sb0 ⟨cX (Bool.eq_false_iff.2 λhh=>D2),Y⟩
   refine wcp false Y (eD h3) (go 13 ?_)
   exact bHe (s':=⟨bx,rw⟩) Y sb0 ⟨cX (Bool.eq_false_iff.2 λhh=>D3),Y⟩
  refine wcp false Y (eD h2) (go 20 ?_)
  exact bHe (s':=⟨bx,rw⟩) Y sb0 ⟨cX (Bool.eq_false_iff.2 λhh=>D4),Y⟩
 refine go 12 ?_
 refine wcp false Y (eD J) (go 24 ?_)
 exact bHe (s':=⟨bx,rw⟩) Y sb0 ⟨cX (bOs hlx1),Y⟩
theorem bQi(e:aH)(hx:e.name.size <= 4611686018427387904)(ih:∀k (h:k<e.args.length) (s:Sto),aL prog 183 [bK5 (.agg (cU e.args[k]))] [] s λr s'=>r=Cb (eO e.args[k]) /\ s'=s)(s:Sto):aL prog 183 [bK5 (.agg (cU e))] [] s λt s'=>t=Cb (eO e) /\ s'=s:=by
 obtain ⟨bx,rw⟩:=s
 refine acX 93 func183 ?_
 refine go 11 λb1=>?_
 refine wcR 0 Y call198 Y (bOf e.op _) (go 5 ?_)
 by_cases h1:((bLk e.op:Nat):Int)=0
 ·have h7:=bPh (op:=e.op)
  have hle:=bNd e.op
  refine wcp true Y (eR h1) (go 12 ?_)
  exact bHe (s':=⟨bx,rw⟩) Y sb1 ⟨cX (by rw [bK7];unfold bLj;rw [if_pos J]),Y⟩
 have h7:=bPh (op:=e.op)
 have hle:=bNd e.op
 refine wcp false Y (eD h1) (go 6 ?_)
 by_cases h4:((bLk e.op:Nat):Int)=7
 ·refine wcp true Y (eR h4) (go 10 ?_)
  by_cases h6:(0:Int)<((e.args.length:Nat):Int)
  ·refine wcp true Y (mH h6) (go 12 ?_)
   exact bHe (s':=⟨bx,rw⟩) Y sb1 ⟨cX (by rw [bK7];unfold bLj;rw [if_neg J,if_pos J];rw [decide_eq_false J];rfl),Y⟩
  refine wcp false Y (mI h6) (go 9 ?_)
  by_cases h9:e.op=1
  ·refine wcp true Y (eR h9) (go 3 ?_)
   by_cases h10:(0:Int) <= e.num
   ·refine wcp true Y (aMq h10) (go 4 ?_)
    by_cases h11:e.name=aK
    ·refine wyz Y (aZ true Y Y Y (aL8 h11)) (go 22 ?_)
     exact bHe (s':=⟨bx,rw⟩) Y sb1 ⟨cX (by rw [bK7];unfold bLj;rw [if_neg J,if_pos J];rw [decide_eq_true (show e.args.length=0 by omega)];unfold jG;rw [decide_eq_true (show e.op=1 /\ 0 <= e.num by omega),decide_eq_true h11,decide_eq_false (show ¬(e.op=2 /\ e.num=0) by omega)];rfl),Y⟩
    refine wyz Y (aZ false Y Y Y (aLs h11)) (go 4 ?_)
    refine wcp false Y (eD J) (go 17 ?_)
    exact bHe (s':=⟨bx,rw⟩) Y sb1 ⟨cX (by rw [bK7];unfold bLj;rw [if_neg J,if_pos J];rw [decide_eq_true (show e.args.length=0 by omega)];unfold jG;rw [decide_eq_true (show e.op=1 /\ 0 <= e.num by omega),decide_eq_false h11,decide_eq_false (show ¬(e.op=2 /\ e.num=0) by omega)];rfl),Y⟩
   refine wcp false Y (aMx h10) (go 9 ?_)
   refine wcp false Y (eD J) (go 17 ?_)
   exact bHe (s':=⟨bx,rw⟩) Y sb1 ⟨cX (by rw [bK7];unfold bLj;rw [if_neg J,if_pos J];rw [decide_eq_true (show e.args.length=0 by omega)];unfold jG;rw [decide_eq_false (show ¬(e.op=1 /\ 0 <= e.num) by omega),decide_eq_false (show ¬(e.op=2 /\ e.num=0) by omega)];rfl),Y⟩
  refine wcp false Y (eD h9) (go 13 ?_)
  by_cases h12:e.op=2
  focus
   refine wcp true Y (eR h12) (go 3 ?_)
   by_cases h13:e.num=0
   ·refine wcp true Y (eR h13) (go 4 ?_)
    rcases Bool.eq_false_or_eq_true (bQ e.name) with h14|h14
    rotate_left
    all_goals
     refine bK8 0 Y call199 Y (bP1 e.name (by first|assumption|omega) _) h14 (go 8 ?_)
     exact bHe (s':=⟨bx,rw⟩) Y sb1 ⟨cX (by rw [bK7];unfold bLj;rw [if_neg J,if_pos J];rw [decide_eq_true (show e.args.length=0 by omega)];unfold jG;rw [decide_eq_false (show ¬(e.op=1 /\ 0 <= e.num) by omega)];rw [decide_eq_true (show e.op=2 /\ e.num=0 by omega),h14];rfl),Y⟩
   refine wcp false Y (eD h13) (go 13 ?_)
  rotate_left
  refine wcp false Y (eD h12) (go 17 ?_)
  all_goals
   exact bHe (s':=⟨bx,rw⟩) Y sb1 ⟨cX (by rw [bK7];unfold bLj;rw [if_neg J,if_pos J];rw [decide_eq_true (show e.args.length=0 by omega)];unfold jG;rw [decide_eq_false (show ¬(e.op=1 /\ 0 <= e.num) by omega)];rw [decide_eq_false (show ¬(e.op=2 /\ e.num=0) by omega)];rfl),Y⟩
 refine wcp false Y (eD h4) (go 6 ?_)
 by_cases h16:((bLk e.op:Nat):Int)=6
 ·refine wcp true Y (eR h16) (go 9 ?_)
  by_cases h18:((e.args.length:Nat):Int)=1
  ·refine wcp true Y (eR h18) (go 3 ?_)
   by_cases h19:e.num=0
   ·refine wcp true Y (eR h19) (go 4 ?_)
    by_cases h20:e.name=aK
    ·refine wyz Y (aZ true Y Y Y (aL8 h20)) (go 4 ?_)
     refine wyz Y (bH fO cU e.args iU fP 0 Y Y Y Y J V runUnderlying85 sizeOf87) (go 1 ?_)
     rcases Bool.eq_false_or_eq_true (eO e.args[0]) with h21|h21
     rotate_left
     all_goals
      refine bK8 0 Y call183 Y (ih 0 J _) h21 (go 7 ?_)
      exact bHe (s':=⟨bx,rw⟩) Y sb1 ⟨cX (by rw [bK7];unfold bLj;rw [if_neg J,if_neg J,if_pos J];rw [decide_eq_true J,decide_eq_true (show e.num=0 by omega),decide_eq_true h20,bPx J,h21];rfl),Y⟩
    refine wyz Y (aZ false Y Y Y (aLs h20)) (go 14 ?_)
    exact bHe (s':=⟨bx,rw⟩) Y sb1 ⟨cX (by rw [bK7];unfold bLj;rw [if_neg J,if_neg J,if_pos J];rw [decide_eq_true J,decide_eq_true (show e.num=0 by omega),decide_eq_false h20];rfl),Y⟩
   refine wcp false Y (eD h19) (go 19 ?_)
   exact bHe (s':=⟨bx,rw⟩) Y sb1 ⟨cX (by rw [bK7];unfold bLj;rw [if_neg J,if_neg J,if_pos J];rw [decide_eq_true J,decide_eq_false (show ¬e.num=0 by omega)];rfl),Y⟩
  refine wcp false Y (eD h18) (go 23 ?_)
  exact bHe (s':=⟨bx,rw⟩) Y sb1 ⟨cX (by rw [bK7];unfold bLj;rw [if_neg J,if_neg J,if_pos J];rw [decide_eq_false J];rfl),Y⟩
 refine wcp false Y (eD h16) (go 12 ?_)
 by_cases h23:((e.args.length:Nat):Int)=2
 ·refine wcp true Y (eR h23) (go 3 ?_)
  by_cases h24:e.num=0
  ·refine wcp true Y (eR h24) (go 4 ?_)
   by_cases h25:e.name=aK
   ·refine wyz Y (aZ true Y Y Y (aL8 h25)) (go 4 ?_)
    refine wyz Y (bH fO cU e.args iU fP 0 Y Y Y Y J V runUnderlying85 sizeOf87) (go 1 ?_)
    rcases Bool.eq_false_or_eq_true (eO e.args[0]) with h26|h26
    ·refine bK8 0 Y call183 Y (ih 0 J _) h26 (go 4 ?_)
     refine wyz Y (bH fO cU e.args iU fP 1 Y Y Y Y J V runUnderlying85 sizeOf87) (go 1 ?_)
     rcases Bool.eq_false_or_eq_true (eO e.args[1]) with h27|h27
     rotate_left
     all_goals
      refine bK8 0 Y call183 Y (ih 1 J _) h27 (go 5 ?_)
      exact bHe (s':=⟨bx,rw⟩) Y sb1 ⟨cX (by rw [bK7];unfold bLj;rw [if_neg J,if_neg J,if_neg J];rw [decide_eq_true J,decide_eq_true (show e.num=0 by omega),decide_eq_true h25,bOm J,h26,h27];rfl),Y⟩
    refine bK8 0 Y call183 Y (ih 0 J _) h26 (go 12 ?_)
    exact bHe (s':=⟨bx,rw⟩) Y sb1 ⟨cX (by rw [bK7];unfold bLj;rw [if_neg J,if_neg J,if_neg J];rw [decide_eq_true J,decide_eq_true (show e.num=0 by omega),decide_eq_true h25,bOm J,h26];rfl),Y⟩
   refine wyz Y (aZ false Y Y Y (aLs h25)) (go 19 ?_)
   exact bHe (s':=⟨bx,rw⟩) Y sb1 ⟨cX (by rw [bK7];unfold bLj;rw [if_neg J,if_neg J,if_neg J];rw [decide_eq_true J,decide_eq_true (show e.num=0 by omega),decide_eq_false h25];rfl),Y⟩
  refine wcp false Y (eD h24) (go 24 ?_)
  exact bHe (s':=⟨bx,rw⟩) Y sb1 ⟨cX (by rw [bK7];unfold bLj;rw [if_neg J,if_neg J,if_neg J];rw [decide_eq_true J,decide_eq_false (show ¬e.num=0 by omega)];rfl),Y⟩
 refine wcp false Y (eD h23) (go 28 ?_)
 exact bHe (s':=⟨bx,rw⟩) Y sb1 ⟨cX (by rw [bK7];unfold bLj;rw [if_neg J,if_neg J,if_neg J];rw [decide_eq_false J];rfl),Y⟩
theorem bM1{e:aH}(h:e.sane):e.name.size <= 4611686018427387904 /\ iI e.args:=by cases e;rw [aH.sane] at h;first|exact ⟨h.2.2.1,h.2.2.2⟩|exact ⟨h.2.1,h.2.2⟩|exact ⟨h.1,h.2⟩
theorem bO9:∀(N:Nat)(e:aH),e.nodes <= N -> e.sane -> ∀s:Sto,aL prog 183 [bK5 (.agg (cU e))] [] s λr s'=>r=Cb (eO e) /\ s'=s
 |0,e,h,_,_=>Bm
 |N+1,e,h,hs,s=>bQi e (bM1 hs).1 (λk hk s=>bO9 N e.args[k] B0 (mV _ (bM1 hs).2 _ (getElem_mem _)) s) s
theorem bN7(e:aH)(hN:e.nodes <= 1000000000)(hsh:eO e=true)(ih:∀k (h:k<e.args.length) (s:Sto),aL prog 184 [bK5 (.agg (cU e.args[k]))] [] s λr s'=>r=Ci ((dI e.args[k]:Nat):Int) /\ s'=s)(s:Sto):aL prog 184 [bK5 (.agg (cU e))] [] s λt s'=>t=Ci ((dI e:Nat):Int) /\ s'=s:=by
 obtain ⟨bx,rw⟩:=s
 have hlen:=uC e
 refine acX 34 func184 ?_
 refine go 21 λb1=>?_
 refine oC (e.args.length) 9 (λk=>[(3,Ci ((bSm e.op 0 (e.args.take (k)):Nat):Int)),(0,bK5 (.agg (cU e))),(1,pP b1),(8,nI e.args.length)]) (sA Y) λk hk=>?_
 show AWp prog _ ⟨34,_,_,(9,nI k)::[(3,Ci ((bSm e.op 0 (e.args.take (k)):Nat):Int)),(0,bK5 (.agg (cU e))),(1,pP b1),(8,nI e.args.length)]⟩ _
 refine go 2 ?_
 by_cases h1:((k:Nat):Int)<((e.args.length:Nat):Int)
 ·refine wcp true Y (jZ h1) (go 16 ?_)
  have hle:=aBa _ e.args[k] (Nat.le_refl _)
  have hnk:=sF e k J
  have hmx:=kF e.op e.args k J
  refine go 3 ?_
  refine wyz Y (bH fO cU e.args iU fP k Y Y Y Y J V runUnderlying85 sizeOf87) (go 1 ?_)
  refine wcR 0 Y call184 Y (ih k J _) (go 8 ?_)
  rcases Bool.eq_false_or_eq_true (cV e.op k e.args[k].op) with h3|h3
  focus
   refine bK8 0 Y call200 Y (bOl e k J (bLd hsh).1 (bLd ((bLd hsh).2 k J)).1 _) h3 (go 5 ?_)
   refine wad Y (go 6 ?_)
  rotate_left
  refine bK8 0 Y call200 Y (bOl e k J (bLd hsh).1 (bLd ((bLd hsh).2 k J)).1 _) h3 (go 8 ?_)
  all_goals
   refine wyz Y (aNq _ Y Y Y Y) (go 5 ?_)
   refine wad Y (go 2 ?_)
   exact ⟨J,(aG Y (gQ J) (aG Y (gQ (by rw [kF _ _ _ J,h3];simp only [if_true,Bool.false_eq_true,if_false];omega)) (sA Y)))⟩
 refine wcp false Y (jQ h1) (go 12 ?_)
 have hle0:=aBa _ e (Nat.le_refl _)
 have hq:=tX e
 obtain rfl:k=e.args.length:=J
 rw [take_of_length_le (Nat.le_refl _)]
 have hsE:=bNc e.op (bLd hsh).1
 refine go 2 ?_
 refine wcR 0 Y call198 Y (bOf e.op _) ?_
 by_cases h7:((bLk e.op:Nat):Int)=6
 ·refine wcp true Y (eR h7) (go 5 ?_)
  refine wad Y (go 10 ?_)
  exact bHe (s':=⟨bx,rw⟩) Y sb1 ⟨aPy (by rw [tX,if_pos J];first|rfl|simp),Y⟩
 refine wcp false Y (eD h7) (go 12 ?_)
 exact bHe (s':=⟨bx,rw⟩) Y sb1 ⟨aPy (by rw [tX,if_neg J];first|rfl|simp),Y⟩
theorem bNv:∀(N:Nat)(e:aH),e.nodes <= N -> N <= 1000000000 -> eO e=true -> ∀s:Sto,aL prog 184 [bK5 (.agg (cU e))] [] s λr s'=>r=Ci ((dI e:Nat):Int) /\ s'=s
 |0,e,h,_,_,_=>Bm
 |N+1,e,h,hN,hs,s=>bN7 e J hs (λk hk s=>bNv N e.args[k] B0 J ((bLd hs).2 k hk) s) s
theorem bLw(e:aH)(hN:e.nodes <= 1000000000)(hs:e.sane)(s:Sto):aL prog 163 [bK5 (.agg (cU e))] [] s λt s'=>t=Cb (dM e) /\ s'=s:=by
 obtain ⟨bx,rw⟩:=s
 refine acX 10 func163 ?_
 refine go 9 λb1=>?_
 rcases Bool.eq_false_or_eq_true (eO e) with h1|h1
 ·refine bK8 0 Y call183 Y (bO9 _ e (Nat.le_refl _) hs _) h1 (go 2 ?_)
  refine wcR 0 Y call184 Y (bNv _ e (Nat.le_refl _) hN h1 _) ?_
  by_cases h2:((dI e:Nat):Int) <= 24
  ·refine wcp true Y (aPz h2) (go 5 ?_)
   exact bHe (s':=⟨bx,rw⟩) Y sb1 ⟨cX (by unfold dM;rw [h1,decide_eq_true J];rfl),Y⟩
  refine wcp false Y (aPx h2) (go 5 ?_)
  exact bHe (s':=⟨bx,rw⟩) Y sb1 ⟨cX (by unfold dM;rw [h1,decide_eq_false J];rfl),Y⟩
 refine bK8 0 Y call183 Y (bO9 _ e (Nat.le_refl _) hs _) h1 (go 9 ?_)
 exact bHe (s':=⟨bx,rw⟩) Y sb1 ⟨cX (by unfold dM;rw [h1];rfl),Y⟩
section
variable {P:Program}{U T:List Nat}{o:Oper}{n d:Nat}{bx:List Box}{rw:List bA}{ts:List (Nat×AT)}{K:AS -> Prop}{st:AS}{t:AT}
theorem bGr{g:Nat}{E:TypeId}{cs ds:List AC}{N C:Nat}{B:List Box}(i:Nat)(hi:look st.ts i=some (Cv (.slice (some ⟨g,0,none⟩) N C)))(hrow:st.s.boxes=⟨g,E,cs++ds⟩::B)(hC:N <= C)(hC2:C <= 9223372036854775807):Sub st {st with s:=⟨B,st.s.rows⟩,ts:=(i,.c (.sl N cs))::st.ts}:=λa w hs=>by
 have hsub:aAz st.s ⟨B,st.s.rows⟩:=aA (by rw [hrow];exact List.sublist_cons_self _ _) (List.Sublist.refl _)
 obtain ⟨h1,h2,h3⟩:=vU hsub a w hs
 refine ⟨⟨h1.df,h1.sz,λj x hx=>?_,h1.mem⟩,h2,h3⟩
 simp only [look] at hx
 split at hx
 ·rename_i he;subst he;cases hx
  obtain ⟨u,e1,e2⟩:=hs.tm i _ hi
  have:=e2.val
  subst this
  obtain ⟨us,⟨fz,-,hh⟩,hrep⟩:=hs.mem.box ⟨g,E,cs++ds⟩ C1
  have hlen:us.length=cs.length+ds.length:=by have:=hrep.len;simpa using this
  have hr2:=hrep.take cs.length
  rw [List.take_left] at hr2
  have hnm:g∉(⟨B,st.s.rows⟩:Sto).bl:=by
   have hnd:=hs.mem.nodup
   have hbl:st.s.bl=g::(⟨B,st.s.rows⟩:Sto).bl:=Ei
   rw [hbl] at hnd
   exact (List.nodup_cons.1 hnd).1
  refine ⟨_,e1,.c _ _ (.sl _ _ (us.take cs.length) _ ⟨_,_,Y,hC,.inr ⟨g,0,Y,λj x hj=>?_⟩⟩ hr2.len (λk h h'=>(hr2.at_ k h h').mono (up_sub h2)) (λ_ _ _ h=>by cases h;exact hC2))⟩
  rw [eW _ _ _ hnm]
  unfold World.cell?
  simp only [hh]
  rw [List.getElem?_take] at hj
  split at hj
  ·simpa using hj
  cases hj
 exact h1.tm j x hx
theorem bHa{ops:Array Oper}{l:List Oper}{Q:Exit -> AS -> Prop}{g:Nat}{E:TypeId}{cs ds:List AC}{N C:Nat}(i:Nat)(hi:look ts i=some (Cv (.slice (some ⟨g,0,none⟩) N C)))(hC:N <= C)(hC2:C <= 9223372036854775807)(h:eQ P ops l ⟨n,T,⟨bx,rw⟩,(i,.c (.sl N cs))::ts⟩ Q):eQ P ops l ⟨n,T,⟨⟨g,E,cs++ds⟩::bx,rw⟩,ts⟩ Q:=
 uQ (bGr (st:=⟨n,T,⟨⟨g,E,cs++ds⟩::bx,rw⟩,ts⟩) i hi rfl hC hC2) h
theorem bG0(w:World){a:Act}{K:Act -> World -> Prop}{Q:Exit -> Act -> World -> Prop}(s x:Operand)(t u:TypeId)
  (ho:o.op=.call {callee:=.builtin .append,args:=#[s,x],argTypes:=#[t,u]})
  (e:TypeId) (i:TypeInfo) (ht:P.underlying t=some (.slice e)) (hu:P.underlying u=some .string) (hi:P.info? e=some i) (hz:i.zero=some (.int .u8 0)) (hsize:i.size=1) (hby:i.bytes=1)
  (v:Value) (n:Nat) (xs:List Value) (hs:a.eval s=v) (hown:w.ownsRow 0 e 1 v n xs) (z:ByteArray) (hx:a.eval x=.string z) (h63:n+z.size <= maxLen) (hbytes:n+z.size <= 140737488355328)
  (h:∀v' w',w'.ownsRow 0 e 1 v' (n+z.size) (xs++Lib.strCells z) -> w.grownBy w' v.ownBlock -> (∀g,v'.ownBlock=some g -> v.ownBlock=some g∨w.heap.size <= g) -> K (a.put o.dst v') w'):o.wp P a w K Q:=by
 obtain ⟨v',w',hr,h2,h3,h4⟩:=Lib.run_append_own_string (P:=P) w 0 t u o.type e i ht hu hi hz hsize hby v n xs hown z h63 hbytes (Nat.zero_le _)
 have hfr:∀g,v'.ownBlock=some g -> v.ownBlock=some g∨w.heap.size <= g:=by
  rcases hown.2 with ⟨hv0,hn0⟩|⟨g,cap,cur,hv0,hbg,hg,hnc,hcm,hcs,htake⟩
  ·obtain ⟨v2,w2,hr2,h5,_,_⟩:=Lib.run_append_own_string (P:=P) w w.heap.size t u o.type e i ht hu hi hz hsize hby v n xs ⟨hown.1,.inl ⟨hv0,hn0⟩⟩ z h63 hbytes (Nat.le_refl _)
   rw [hr] at hr2
   injection hr2 with e1 e2
   subst e1
   intro k hk
   exact Or.inr (h5.lt k hk).1
  subst hv0
  by_cases hroom:n+z.size <= cap
  ·have hr2:=Lib.run_append_room_string (P:=P) w t u o.type e i ht hu hi hsize g n cap cur hg z hroom J
   rw [hr] at hr2
   injection hr2 with e1 e2
   subst e1
   intro k hk
   exact .inl hk
  have holds:∀j u,xs[j]?=some u -> w.cell? ((⟨g,0,none⟩:Addr).add j)=some u:=hown.cells (g:=g) Y
  have hr2:=Lib.run_append_grow_string (P:=P) w t u o.type e i (.int .u8 0) ht hu hi hz ⟨g,0,none⟩ n cap xs (by rw [hsize];exact hown.1) holds z J (by simp only [maxLen] at h63;omega) (by rw [hby];exact growslice_fits J J)
  rw [hr] at hr2
  injection hr2 with e1 e2
  subst e1
  intro k hk
  simp [Value.ownBlock] at hk
  exact .inr J
 unfold Oper.wp execOp
 simp only [ho,resolve,invoke,builtin,Sem.run_bind,Sem.run_pure,Result.andThen_ok,List.map_toArray,List.map_cons,List.map_nil,hs,hx,hr]
 exact h v' w' h2 h3 hfr
theorem bHb{E E2 e:TypeId}{x y:Operand}{k:Nat}{v:Value}{cs ds r:List AC}(A:List bA)(i:TypeInfo){B:List bA}{z:ByteArray}(ho:o.op=.call {callee:=.builtin .append,args:=#[x,y],argTypes:=#[E,E2]})(hd:o.dst=some d)(hn:d<n)
  (hx:evA ⟨n,T,⟨bx,A++⟨v,e,1,k,cs⟩::B⟩,ts⟩ x=some (Cv v)) (hy:evA ⟨n,T,⟨bx,A++⟨v,e,1,k,cs⟩::B⟩,ts⟩ y=some (Cs z)) (hu:P.underlying E=some (.slice e)) (hu2:P.underlying E2=some .string) (hi:P.info? e=some i) (hz:i.zero=some (.int .u8 0)) (hsz:i.size=1) (hby:i.bytes=1)
  (hlen:k+z.size <= maxLen) (hbytes:k+z.size <= 140737488355328) {N:Nat} (hN:k+z.size=N) (hds:iF z.data.toList=ds) (hU:(⟨bx,A++⟨v,e,1,k,cs⟩::B⟩:Sto).bl.Nodup -> ∀b,b∈aY v -> b∈U) (hT:∀b,b∈aY v -> b∈T) (hr:cs++ds=r)
  (h:∀v',K ⟨n,aY v'++T,⟨bx,A++⟨v',e,1,N,r⟩::B⟩,(d,Cv v')::ts⟩):AO P U o ⟨n,T,⟨bx,A++⟨v,e,1,k,cs⟩::B⟩,ts⟩ K:=by
 subst hr;subst hN;subst hds
 refine bGt A hd hn Y V (λa w hs us hown=>⟨Lib.strCells z,?_,λKK QQ hK=>bG0 w x y E E2 ho e i hu hu2 hi hz hsz hby v k us (hs.val hx) hown z (hs.val hy) hlen hbytes hK⟩) hU hT h
 have hR:=gU (bI (⟨bx,A++⟨v,e,1,k,cs⟩::B⟩:Sto).bl w) (Lib.strCells z) AW
 have e1:(Lib.strCells z).map AC.val=iF z.data.toList:=by simp [Lib.strCells,iF]
 rw [e1] at hR
 exact hR
end
end
section
open Go.RowKit Go.Sort
theorem bLy:∀u:Nat,Lib.decDigits u=cO u:=λu=>by
 induction u using Nat.strongRecOn with
 |_ u ih=>
  rw [Lib.decDigits,cO]
  by_cases h:u<10
  ·rw [dif_pos h,if_pos h]
  rw [dif_neg h,if_neg h,ih (u/10) J]
theorem bQn(n:Int):Lib.itoa n=eH n:=by
 unfold Lib.itoa eH
 rw [bLy,bLy]
 by_cases h:n<0
 ·rw [if_pos h,if_pos h]
 rw [if_neg h,if_neg h,show n.toNat=n.natAbs by omega]
theorem bOw(w:World)(k:Nat)(os:Array Obj):Below w.heap.size w (grow (w.drewN k) os):=
 ⟨rfl,rfl,rfl,by show w.heap.size <= (w.heap++os).size;rw [Array.size_append];omega,λi hi=>by show (w.heap++os)[i]?=_;rw [Array.getElem?_append_left hi]⟩
section
variable {P:Program}{U T:List Nat}{o:Oper}{n d:Nat}{ts:List (Nat×AT)}{s:Sto}{K:AS -> Prop}{st:AS}{p:World -> Prop}{t0 u:AT}{us:List AT}{bx:List Box}{rw:List bA}{ops:Array Oper}{l:List Oper}{Q:Exit -> AS -> Prop}
theorem bOy{E E':TypeId}{x:Operand}{k k':IntKind}{m r:Int}(ho:o.op=.convert E E' x)(hx:evA st x=some (Cv (.int k m)))(hE:(P.underlying E).isSome=true)(hE':P.underlying E'=some (.int (P.intKind E')))(hk8:P.intKind E'=k')(hr:k'.wrap m=r):AY P U o st (Cv (.int k' r)):=by
 intro a w hs _
 refine ⟨_,.c _ _ (.val _ Y),λw' _=>?_⟩
 have h1:=run_convert_int (P:=P) (w:=w') E E' k m hE hE'
 simp only [execOp,ho,Sem.run_bind,hs.val hx]
 rw [h1,hk8,hr];rfl
theorem bSh{m:Int}(h1:0 <= m)(h2:m <= 18446744073709551615):IntKind.u64.wrap m=m:=by
 have:IntKind.u64.wrap m=m%18446744073709551616:=by unfold IntKind.wrap;simp [IntKind.signed,IntKind.bits]
 rw [this];omega
theorem bNr{t e:TypeId}{x y':Operand}{b h N:Nat}{k2:IntKind}{j:Int}(ho:o.op=.slice t x none (some y') none)(hx:evA st x=some (pP b))(hy':evA st y'=some (Cv (.int k2 j)))(hj:j=h)(h2:h <= N)(h0:0<N)
  (ht:∀w,(underlying t).run P w=.ok (.array N e) w) (hz:∀w,(sizeOf e).run P w=.ok 1 w):AY P U o st (Cv (.slice (some ⟨b,0,none⟩) h N)):=
 fW rfl λa w hs w'=>by
  subst hj
  simp only [execOp,ho,hs.val hx,hs.val hy',Instr.sliceAt,Option.map_some,Option.map_none,Sem.run_bind,Sem.run_pure,Result.andThen_ok,ht,Instr.sureAddr,hz]
  simp [go_sem,Instr.sliceBounds,asIntOf]
  omega
theorem bMs{st:AS}{F:FuncId}{cap:Array Operand}{vs:List Value}(ho:o.op=.makeFunc (.func F) #[] cap)(hc:cap.toList.map (evA st)=vs.map λv=>some (Cv v)):AY P U o st (Cv (.func (.func F) #[] vs.toArray)):=
 fW rfl λa w hs w'=>by
  have e:cap.map a.eval=vs.toArray:=by
   rw [←Array.toList_inj,Array.toList_map]
   have:∀(l:List Operand)(vs:List Value),l.map (evA st)=vs.map (λv=>some (Cv v)) -> l.map a.eval=vs:=by
    intro l
    induction l with
    |nil=>intro vs h;cases vs with|nil=>rfl|cons=>cases h
    |cons x l ih=>
     intro vs h
     cases vs with
     |nil=>cases h
     |cons v vs=>
      simp only [List.map_cons,List.cons.injEq] at h⊢
      exact ⟨hs.val h.1,ih vs h.2⟩
   exact this _ _ hc
  simp only [execOp,ho,Instr.makeFunc,e]
  simp [go_sem]
theorem bNo{F:FuncId}{x:Operand}{cap:Array Value}{ars:Array Operand}{tys:Array TypeId}{b c:Bool}(i0:Nat)(h0:(fC ops o ⟨n,T,s,ts⟩,o.op,evA ⟨n,T,s,ts⟩ x,o.dst,Nat.blt d n,look ts i0)=(some true,.call {callee:=.value x,args:=ars,argTypes:=tys},some (Cv (.func (.func F) #[] cap)),some d,true,some (.ride t0 p)))
  (hcf:∀args w,(callFunc F args).run P w=.ok (.enter F args) w) (has:ars.toList.map (evA ⟨n,T,s,ts⟩)=[u].map some) (hc:aL P F (.ride u p::cap.toList.map cst) [] s λt s'=>t=Cb b /\ s'=s) (hb:b=c) (h:eQ P ops l ⟨n,T,s,(d,Cb c)::ts⟩ Q):eQ P ops (o::l) ⟨n,T,s,ts⟩ Q:=by
 simp only [Prod.mk.injEq] at h0
 subst hb
 exact wo h0.1 (bRz (us:=[]) i0 [] h0.2.1 h0.2.2.1 h0.2.2.2.1 (Nat.le_of_ble_eq_true h0.2.2.2.2.1) hcf h0.2.2.2.2.2 has hc noT noT (λ_=>noT) λr s' ⟨h1,h2⟩=>Ej)
theorem bR5(i j:Nat){c:Code}{t1:AT}(hi:look ts i=some (.ride t0 p))(hj:look ts j=some t1)(h:AWp P c ⟨n,T,s,(j,.ride t1 p)::ts⟩ Q):AWp P c ⟨n,T,s,ts⟩ Q:=by
 refine zU (st':=⟨n,T,s,(j,.ride t1 p)::ts⟩) (λa w hs=>?_) h
 refine ⟨⟨hs.df,hs.sz,λk x hx=>?_,hs.mem⟩,λ_ h=>h,λ_ h=>h⟩
 simp only [look] at hx
 split at hx
 ·rename_i he;subst he;cases hx
  obtain ⟨v,e1,e2⟩:=hs.tm j t1 hj
  obtain ⟨v0,-,e3⟩:=hs.tm i _ hi
  exact ⟨v,e1,bL3 e3 e2⟩
 exact hs.tm k x hx
theorem bR3(E:TypeId)(z:Nat)(h:eQ P ops l ⟨n,T,⟨bx,⟨.slice none 0 0,E,z,0,[]⟩::rw⟩,ts⟩ Q):eQ P ops l ⟨n,T,⟨bx,rw⟩,ts⟩ Q:=uQ (aOb (st:=⟨n,T,⟨bx,rw⟩,ts⟩) E z) h
theorem bMu{F:FuncId}{ars:Array Operand}{tys:Array TypeId}{v:Value}{E:TypeId}{z k k':Nat}{cs cs':List AC}(i0:Nat)(h0:(o.op,o.dst,Nat.blt d n,look ts i0)=(.call {callee:=.value (.func F),args:=ars,argTypes:=tys},some d,true,some (.ride t0 p)))
  (hcf:∀args w,(callFunc F args).run P w=.ok (.enter F args) w) (has:ars.toList.map (evA ⟨n,T,⟨bx,⟨v,E,z,k,cs⟩::rw⟩,ts⟩)=(u::us).map some)
  (hc:aL P F (.ride u p::us) (aY v) ⟨bx,⟨v,E,z,k,cs⟩::rw⟩ λt s'=>∃v',t=Cv v' /\ s'=⟨bx,⟨v',E,z,k',cs'⟩::rw⟩) (hT:∀b,b∈aY v -> b∈T) (hU:(⟨bx,⟨v,E,z,k,cs⟩::rw⟩:Sto).bl.Nodup -> ∀b,b∈aY v -> b∈U)
  (h:∀v',K ⟨n,aY v'++T,⟨bx,⟨v',E,z,k',cs'⟩::rw⟩,(d,Cv v')::ts⟩):AO P U o ⟨n,T,⟨bx,⟨v,E,z,k,cs⟩::rw⟩,ts⟩ K:=by
 simp only [Prod.mk.injEq] at h0
 obtain ⟨ho,hd,hn,hl⟩:=h0
 intro a w hs KK QQ' hK
 obtain ⟨h1,h2⟩:=rU hs has
 obtain ⟨v0,-,hv0⟩:=hs.tm i0 _ hl
 have hTb:∀b,b∈aY v -> b∈(⟨bx,⟨v,E,z,k,cs⟩::rw⟩:Sto).bl:=λb hb=>by unfold Sto.bl;simp [hb]
 unfold Oper.wp
 rw [show (execOp a.eval o).run P w=.ok (.enter F (ars.toList.map a.eval).toArray) w from by
  simp only [execOp,ho,resolve,Deferred.ofValue,Act.eval,Sem.run_bind,Sem.run_pure,Result.andThen_ok,invoke]
  rw [hcf]
  congr 2
  rw [←Array.toList_inj];simp,Oper.upon_enter]
 refine (hc _ w hs.mem hTb h1 (λi hi hi'=>?_)).mono ?_
 ·match i,hi with
  |0,hi=>exact bL3 hv0 (h2 0 G0 hi')
  |i+1,hi=>exact h2 (i+1) B3 hi'
 ·rintro en w' ⟨r,vr,s',rfl,⟨v',rfl,rfl⟩,hr,hm,hk,hb⟩
  dsimp only
  rw [hd]
  have s1:=hs.step (aY v'++T) (hk.mono hTb) hm hb
  refine hK _ _ _ (h v') (s1.put (Nat.le_of_ble_eq_true hn) hr) ⟨hk.mono hTb,hk.mono hT,hb,λb hb2=>?_⟩ (hk.mono (hU hs.mem.nodup))
  rcases mem_append.1 hb2 with hb2|hb2
  ·have e1:b∈(⟨bx,⟨v',E,z,k',cs'⟩::rw⟩:Sto).bl:=Dg
   exact (hb b e1).imp (λh9=>hT b (aFb (bx:=bx) (bx':=bx) Y hm.nodup hb2 h9)) id
  exact .inl hb2
theorem bPe{F:FuncId}{x:Operand}{cap:Array Value}{ars:Array Operand}{tys:Array TypeId}{v:Value}{E:TypeId}{z k k':Nat}{cs cs':List AC}(i0:Nat)(h0:(o.op,evA ⟨n,T,⟨bx,⟨v,E,z,k,cs⟩::rw⟩,ts⟩ x,o.dst,Nat.blt d n,look ts i0)=(.call {callee:=.value x,args:=ars,argTypes:=tys},some (Cv (.func (.func F) #[] cap)),some d,true,some (.ride t0 p)))
  (hcf:∀args w,(callFunc F args).run P w=.ok (.enter F args) w) (has:ars.toList.map (evA ⟨n,T,⟨bx,⟨v,E,z,k,cs⟩::rw⟩,ts⟩)=(u::us).map some)
  (hc:aL P F (.ride u p::(us++cap.toList.map cst)) (aY v) ⟨bx,⟨v,E,z,k,cs⟩::rw⟩ λt s'=>∃v',t=Cv v' /\ s'=⟨bx,⟨v',E,z,k',cs'⟩::rw⟩) (hT:∀b,b∈aY v -> b∈T) (hU:(⟨bx,⟨v,E,z,k,cs⟩::rw⟩:Sto).bl.Nodup -> ∀b,b∈aY v -> b∈U)
  (h:∀v',K ⟨n,aY v'++T,⟨bx,⟨v',E,z,k',cs'⟩::rw⟩,(d,Cv v')::ts⟩):AO P U o ⟨n,T,⟨bx,⟨v,E,z,k,cs⟩::rw⟩,ts⟩ K:=by
 simp only [Prod.mk.injEq] at h0
 obtain ⟨ho,hx,hd,hn,hl⟩:=h0
 intro a w hs KK QQ' hK
 obtain ⟨h1,h2⟩:=rU hs has
 obtain ⟨v0,-,hv0⟩:=hs.tm i0 _ hl
 obtain ⟨d1,d2⟩:=aA7 (bI (⟨bx,⟨v,E,z,k,cs⟩::rw⟩:Sto).bl w) cap.toList
 have hTb:∀b,b∈aY v -> b∈(⟨bx,⟨v,E,z,k,cs⟩::rw⟩:Sto).bl:=λb hb=>by unfold Sto.bl;simp [hb]
 have h3:(ars.toList.map a.eval).length=(AT.ride u p::us).length /\ ∀i (h:i<(AT.ride u p::us).length) (h':i<(ars.toList.map a.eval).length),dO (bI (⟨bx,⟨v,E,z,k,cs⟩::rw⟩:Sto).bl w) (AT.ride u p::us)[i] (ars.toList.map a.eval)[i]:=by
  refine ⟨h1,λi hi hi'=>?_⟩
  match i,hi with
  |0,hi=>exact bL3 hv0 (h2 0 G0 hi')
  |i+1,hi=>exact h2 (i+1) B3 hi'
 obtain ⟨g3,g4⟩:=aBo h3.1 h3.2 d1 d2
 unfold Oper.wp
 rw [show (execOp a.eval o).run P w=.ok (.enter F (ars.toList.map a.eval++cap.toList).toArray) w from by
  simp only [execOp,ho,resolve,hs.val hx,Deferred.ofValue,Sem.run_bind,Sem.run_pure,Result.andThen_ok,invoke]
  rw [hcf]
  congr 2
  rw [←Array.toList_inj];simp,Oper.upon_enter]
 refine (hc _ w hs.mem hTb g3 g4).mono ?_
 rintro en w' ⟨r,vr,s',rfl,⟨v',rfl,rfl⟩,hr,hm,hk,hb⟩
 dsimp only
 rw [hd]
 have s1:=hs.step (aY v'++T) (hk.mono hTb) hm hb
 refine hK _ _ _ (h v') (s1.put (Nat.le_of_ble_eq_true hn) hr) ⟨hk.mono hTb,hk.mono hT,hb,λb hb2=>?_⟩ (hk.mono (hU hs.mem.nodup))
 rcases mem_append.1 hb2 with hb2|hb2
 ·have e1:b∈(⟨bx,⟨v',E,z,k',cs'⟩::rw⟩:Sto).bl:=Dg
  exact (hb b e1).imp (λh9=>hT b (aFb (bx:=bx) (bx':=bx) Y hm.nodup hb2 h9)) id
 exact .inl hb2
end
theorem bNn(w:World)(b:Nat)(cur:Array Value)(T:TypeId)(fz:Nat×Nat)(f:Array Value -> Array Value)(h:w.heap[b]?=some (.cells cur T fz)):mapBlock w b f=w.setRow b (f cur):=by
 unfold mapBlock World.setRow
 congr 1
 apply Array.ext_getElem?
 intro k
 simp only [Array.getElem?_modify]
 by_cases hk:b=k
 ·subst hk;rw [if_pos rfl,if_pos rfl,h];rfl
 rw [if_neg hk,if_neg hk]
theorem Mem.drewN{s:Sto}{w:World}(h:Mem s w):∀k,Mem s (w.drewN k)
 |0=>h
 |k+1=>(Mem.drewN h k).drew
theorem bRk(b:Nat)(T:TypeId)(cs:List UInt8)(u N:Nat)(bx:List Box)(rw:List bA)(hu:u<18446744073709551616)(hn:Lib.nDigits u <= cs.length)(hc:cs.length <= 100):aL prog 191 [Cv (.slice (some ⟨b,0,none⟩) (Lib.nDigits u) N),Cv (.int .u64 ((u:Nat):Int))] [b] ⟨⟨b,T,iF cs⟩::bx,rw⟩ λt s'=>t=.tup [] /\ s'=⟨⟨b,T,iF (cO u)++iF (cs.drop (Lib.nDigits u))⟩::bx,rw⟩:=by
 rw [show iF (cO u)++iF (cs.drop (Lib.nDigits u))=iF (cO u++cs.drop (Lib.nDigits u)) by unfold iF;rw [List.map_append]]
 intro vs w hm _ hl hr
 obtain ⟨v1,v2,rfl⟩:∃v1 v2,vs=[v1,v2]:=by
  match vs,hl with
  |[x,y],_=>exact ⟨x,y,rfl⟩
 obtain rfl:v1=_:=(show dO _ (.c (.val (.slice (some ⟨b,0,none⟩) (Lib.nDigits u) N))) v1 from hr 0 G0 G0).val
 obtain rfl:v2=_:=(show dO _ (.c (.val (.int .u64 ((u:Nat):Int)))) v2 from hr 1 G0 G0).val
 obtain ⟨us,⟨fz,hfz,h1⟩,h2⟩:=hm.box ⟨b,T,iF cs⟩ G0
 obtain rfl:us=cC cs:=yC (vs:=cC cs) (by rw [show (cC cs).map AC.val=iF cs by simp [cC,iF]];exact h2)
 have hlen:(cC cs).length=cs.length:=by simp [cC]
 have hbr:=setRow_heap
 have hH:Holds (λ(b:UInt8)=>Value.int .u8 (b.toNat:Int)) w b 0 (cs.take (Lib.nDigits u)).toArray:=by
  intro j hj
  have hj1:j<Lib.nDigits u:=by simpa [Nat.min_eq_left hn] using hj
  have hj2:j<cs.length:=J
  refine ⟨?_,?_⟩
  ·rw [getElem!_pos _ j hj]
   unfold World.cell?
   simp only [h1]
   simp [cC,hj2]
  obtain ⟨lo,up⟩:=fz
  simp only [World.frozen?,h1,Bool.and_eq_false_iff,decide_eq_false_iff_not]
  rcases hfz with h|h
  ·cases h;exact .inr J
  dsimp only at h;rw [hlen] at h;exact .inl J
 have hsz:(cs.take (Lib.nDigits u)).toArray.size=Lib.nDigits u:=by simp [Nat.min_eq_left hn]
 have hcall:=Tryz.internal_strconv_formatBase10 b 0 N u (cs.take (Lib.nDigits u)).toArray w hH (by rw [hsz];exact Lib.lt_pow_nDigits u) hu (by rw [hsz];omega)
 rw [hsz] at hcall
 refine hcall.mono ?_
 rintro e w' ⟨rfl,k,v',dk,rfl,hinv⟩
 have hdk:dk.toList=cO u:=by
  rw [←bLy]
  have hs1:dk.size=Lib.nDigits u:=hinv.size
  refine List.ext_getElem (by rw [Lib.decDigits_length,Array.length_toList,hs1]) λj h3 h4=>?_
  rw [Lib.row_is_numeral hinv j h4,getElem!_pos dk j DL];simp
 have hs1:dk.size=Lib.nDigits u:=hinv.size
 have hput:putCells (λ(b:UInt8)=>Value.int .u8 (b.toNat:Int)) 0 dk (cC cs).toArray=(cC (cO u++cs.drop (Lib.nDigits u))).toArray:=by
  apply Array.ext_getElem?
  intro i
  simp only [putCells,Array.getElem?_mapIdx,List.getElem?_toArray]
  unfold cC
  rw [List.getElem?_map,List.getElem?_map]
  have hdl:(cO u).length=Lib.nDigits u:=by rw [←hdk];simpa using hs1
  by_cases hi:i<Lib.nDigits u
  ·rw [List.getElem?_append_left (by rw [hdl];exact hi),List.getElem?_eq_getElem (show i<cs.length by omega),List.getElem?_eq_getElem (by rw [hdl];exact hi)]
   simp only [Option.map_some,Nat.zero_le,true_and,Nat.zero_add,Nat.sub_zero]
   rw [if_pos Fj,getElem!_pos dk i Fj]
   have:dk[i]'(by rw [hs1];exact hi)=(cO u)[i]'(by rw [hdl];exact hi):=by simp only [←hdk];simp
   rw [this]
  rw [List.getElem?_append_right (by rw [hdl];omega),List.getElem?_drop,hdl,show Lib.nDigits u+(i-Lib.nDigits u)=i by omega]
  cases hci:cs[i]? with
  |none=>rfl
  |some c=>
   simp only [Option.map_some,Nat.zero_le,true_and,Nat.zero_add]
   rw [if_neg Fj]
 have hw1:putRow (λ(b:UInt8)=>Value.int .u8 (b.toNat:Int)) w b 0 dk=w.setRow b (cC (cO u++cs.drop (Lib.nDigits u))).toArray:=by
  unfold putRow
  rw [bNn w b _ T fz _ h1,hput]
 rw [hw1]
 have hlen2:(cC (cO u++cs.drop (Lib.nDigits u))).length=(cC cs).length:=by
  have hdl:(cO u).length=Lib.nDigits u:=by rw [←hdk];simpa using hs1
  simp [cC,hdl];omega
 have hR:fG (bI (⟨⟨b,T,iF cs⟩::bx,rw⟩:Sto).bl w) (iF (cO u++cs.drop (Lib.nDigits u))) (cC (cO u++cs.drop (Lib.nDigits u))):=by
  have h9:=gU (bI (⟨⟨b,T,iF cs⟩::bx,rw⟩:Sto).bl w) (cC (cO u++cs.drop (Lib.nDigits u))) AW
  rw [show (cC (cO u++cs.drop (Lib.nDigits u))).map AC.val=iF (cO u++cs.drop (Lib.nDigits u)) by unfold cC iF;rw [List.map_map];rfl] at h9
  exact h9
 have hm1:=hm.setRow (A:=[]) (B:=bx) Y hfz hlen2 h1 hR
 have hk1:=oI w b (cC (cO u++cs.drop (Lib.nDigits u))).toArray
 refine ⟨_,_,_,Y,⟨Y,Y⟩,.tup [] [] Y D8,hm1.drewN k,hk1.drewN k,λb' hb'=>.inl ?_⟩
 unfold Sto.bl at hb'⊢
 exact hb'
theorem bMa{u:Nat}(h:u<18446744073709551616):1 <= Lib.nDigits u /\ Lib.nDigits u <= 20:=by
 refine ⟨Lib.nDigits_pos u,?_⟩
 by_cases h1:1 <= u
 ·have h2:=Lib.numDigits_eq u h1 h
  have h3:(if 10 ^ Lib.l10 (Lib.bitLen u) <= u then 1 else 0) <= 1:=by split<;>omega
  omega
 rw [Lib.nDigits_small J];omega
theorem bL6(u:Nat):(cO u).length=Lib.nDigits u:=by rw [←bLy];exact Lib.decDigits_length u
theorem bQp(i:Nat)(h:i<100)(s:Sto):aL prog 189 [nI i] [] s λt s'=>t=Cs (bytes (cO i)) /\ s'=s:=
 aP3 (us:=[.int .i64 ((i:Nat):Int)]) rfl rfl (λw=>(Tryz.internal_strconv_small i h w).mono λe w' ⟨h1,h2⟩=>⟨by rw [h1,bLy];rfl,h2.symm⟩) s
theorem bP7(u:Nat)(h1:1 <= u)(h2:u<18446744073709551616)(s:Sto):aL prog 190 [bK5 (Cv (.int .u64 ((u:Nat):Int)))] [] s λt s'=>t=Ci ((Lib.nDigits u:Nat):Int) /\ s'=s:=
 bNt (us:=[]) rfl (λw he=>(Tryz.internal_strconv_numDigits u h1 h2 w he.tab).mono λe w' ⟨h1,h2⟩=>⟨h1,h2.symm⟩) s
theorem bLc(a b:List UInt8):iF a++iF b=iF (a++b):=by unfold iF;rw [List.map_append]
instance bSl:eM prog 250 (iF (List.replicate 24 0)):=⟨_,zeroValue250,rfl⟩
end
end Go.Proofs.YtjgeihmhppadaaaGreatDoor
