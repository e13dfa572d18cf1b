import Derived.Test.YtbdfdjdgfanjaaaGreatDoorG19J
set_option linter.all false
set_option synthInstance.maxHeartbeats 1000000
set_option synthInstance.maxSize 1000000
set_option maxHeartbeats 1600000
set_option maxRecDepth 100000
namespace Go.Proofs.YtbdfdjdgfanjaaaGreatDoor
open Go.Proofs.Tryz
open List (length_append length_cons length_nil mem_append mem_cons not_mem_nil append_assoc getElem_mem take_of_length_le)
section
open Go.RowKit
def bSy(ops:Array Oper)(m:Nat):Array Oper:=(ops.toList.take m).toArray
def bT0(ops:Array Oper)(j:Nat):List Nat:=match ops.toList[j]? with
 |none=>[]
 |some o=>o.after.toList.filterMap λe=>if Region.binds .any e then some e.on else none
def bUu(ops:Array Oper):Nat -> List Nat -> List Nat
 |0,c=>c
 |n+1,c=>bUu ops n (c++c.flatMap (bT0 ops))
theorem bUe{ops:Array Oper}{L:Nat -> Prop}(h:∀i o,ops[i]?=some o -> L i -> ∀e∈o.after,Region.binds .any e=true -> L e.on):∀(n:Nat)(c:List Nat),(∀x,x∈c -> L x) -> ∀x,x∈bUu ops n c -> L x
 |0,_,hc=>hc
 |n+1,c,hc=>bUe h n _ λx hx=>by
  rcases mem_append.1 hx with hx|hx
  ·exact hc x hx
  obtain ⟨y,hy,hxy⟩:=List.mem_flatMap.1 hx
  unfold bT0 at hxy
  rw [Array.getElem?_toList] at hxy
  cases ho:ops[y]? with
  |none=>rw [ho] at hxy;cases hxy
  |some o=>
   rw [ho] at hxy
   obtain ⟨e,he,h2⟩:=List.mem_filterMap.1 hxy
   split at h2
   ·rename_i hb
    cases h2
    exact h y o ho (hc y hy) e C3 hb
   cases h2
def bUz(ops:Array Oper)(m:Nat):Bool:=(List.range ops.size).all λi=>match ops.toList[i]? with
 |none=>true
 |some o=>if i<m then o.guard.isNone && o.after.toList.all (λe=>!Region.binds .any e||decide (e.on<i)) else (List.range m).all λj=>(bUu ops 2 (bT0 ops i)).contains j
theorem bT1{P:Program}{md:Region.Mode}{ops:Array Oper}{Q:Exit -> Act -> World -> Prop}:∀(f:Nat)(l:Array Bool)(a:Act)(w:World),wpAny P md ops Q f l a w -> wpAny P md ops Q (f+1) l a w
 |0,_,_,_,h=>⟨λ_=>h.2,λi hi=>by rw [h.1] at hi;cases hi⟩
 |f+1,_,_,_,h=>⟨h.1,λi hi=>wpOp_mono (λa' w' h'=>bT1 f _ a' w' h') (h.2 i hi)⟩
theorem bTs{P:Program}{md:Region.Mode}{ops:Array Oper}{Q:Exit -> Act -> World -> Prop}(f:Nat)(l:Array Bool)(a:Act)(w:World)(h:wpAny P md ops Q f l a w):∀n,wpAny P md ops Q (n+f) l a w
 |0=>by rw [Nat.zero_add];exact h
 |n+1=>by rw [show n+1+f=(n+f)+1 by omega];exact bT1 _ _ _ _ (bTs f l a w h n)
theorem bS4{ops:Array Oper}{m i:Nat}:(bSy ops m)[i]?=if i<m then ops[i]? else none:=by
 unfold bSy
 rw [List.getElem?_toArray,List.getElem?_take,Array.getElem?_toList]
theorem bUp{P:Program}{ops:Array Oper}{Q Q1:Exit -> Act -> World -> Prop}{m f2:Nat}{D:Array Bool}(hc:bUz ops m=true)(hm:m <= ops.size)(hDt:∀j,j<m -> D[j]?=some true)
  (hn:∀a w,Q1 .normal a w -> wpAny P .any ops Q f2 D a w) (hq:∀e a w,e≠.normal -> Q1 e a w -> Q e a w):∀(f:Nat)(l1 l:Array Bool)(a:Act)(w:World),l1.size=m -> l.size=D.size -> m <= D.size -> (∀j,j<m -> l[j]?=l1[j]?) -> (∀j,m <= j -> l[j]?=D[j]?) -> (∀i o,ops[i]?=some o -> l.getD i false=true -> ∀e∈o.after,Region.binds .any e=true -> l.getD e.on false=true) ->
   wpAny P .any (bSy ops m) Q1 f l1 a w -> wpAny P .any ops Q (f+f2) l a w:=by
 have hcs:∀i o,ops[i]?=some o -> if i<m then o.guard=none /\ (∀e∈o.after,Region.binds .any e=true -> e.on<i) else ∀j,j<m -> j∈bUu ops 2 (bT0 ops i):=by
  intro i o ho
  have hi:i<ops.size:=(Array.getElem?_eq_some_iff.1 ho).1
  have h9:=List.all_eq_true.1 hc i (List.mem_range.2 hi)
  rw [Array.getElem?_toList,ho] at h9
  dsimp only at h9
  by_cases him:i<m
  ·rw [if_pos him] at h9⊢
   simp only [Bool.and_eq_true,List.all_eq_true,Bool.or_eq_true,Bool.not_eq_true',decide_eq_true_eq,Option.isNone_iff_eq_none] at h9
   exact ⟨h9.1,λe he hb=>(h9.2 e C3).resolve_left (by rw [hb];decide)⟩
  rw [if_neg him] at h9⊢
  intro j hj
  have h8:=List.all_eq_true.1 h9 j (List.mem_range.2 hj)
  simpa using h8
 have over:∀(l1 l:Array Bool),l1.size=m -> m <= ops.size -> (∀j,j<m -> l[j]?=l1[j]?) -> Region.ready .any (bSy ops m) l1=[] -> ∀j,j<m -> l1[j]?=some true:=by
  intro l1 l hs hm hl hr j
  induction j using Nat.strongRecOn with
  |_ j ih=>
   intro hj
   by_cases h:l1.getD j true=false
   ·exfalso
    have hop:(bSy ops m)[j]?=some (ops[j]'(by omega)):=EL
    have hin:j∈Region.ready .any (bSy ops m) l1:=by
     refine mem_ready.2 ⟨h,_,hop,λe he hb=>?_⟩
     have h2:=hcs j _ (Array.getElem?_eq_getElem (J:j<ops.size))
     rw [if_pos hj] at h2
     have h3:=h2.2 e he hb
     have h4:=ih e.on h3 J
     simp [Array.getD_eq_getD_getElem?,h4]
    rw [hr] at hin;cases hin
   have hj2:j<l1.size:=J
   rw [Array.getElem?_eq_getElem hj2]
   simp only [Array.getD_eq_getD_getElem?,Array.getElem?_eq_getElem hj2,Option.getD_some] at h
   simpa using h
 have same:∀(l1 l:Array Bool),l1.size=m -> l.size=D.size -> (∀j,j<m -> l[j]?=l1[j]?) -> (∀j,m <= j -> l[j]?=D[j]?) -> Region.ready .any (bSy ops m) l1=[] -> l=D:=by
  intro l1 l hs1 hs2 he1 he2 hr
  refine Array.ext_getElem? λj=>?_
  by_cases hj:j<m
  ·rw [he1 j hj,over l1 l hs1 hm he1 hr j hj,hDt j hj]
  exact he2 j J
 have getD_eq:∀(l1 l:Array Bool)(j:Nat)(d:Bool),l[j]?=l1[j]? -> l.getD j d=l1.getD j d:=λl1 l j d h=>by
  rw [Array.getD_eq_getD_getElem?,Array.getD_eq_getD_getElem?,h]
 intro f
 induction f with
 |zero=>
  intro l1 l a w hs1 hs2 hmD he1 he2 hcl H
  rw [Nat.zero_add,same l1 l hs1 hs2 he1 he2 H.1]
  exact hn a w H.2
 |succ f ih=>
  intro l1 l a w hs1 hs2 hmD he1 he2 hcl H
  by_cases hr:Region.ready .any (bSy ops m) l1=[]
  ·rw [same l1 l hs1 hs2 he1 he2 hr]
   exact bTs f2 _ _ _ (hn a w (H.1 hr)) (f+1)
  obtain ⟨k,hk⟩:=List.exists_mem_of_ne_nil _ hr
  obtain ⟨hku,ok,hok,hkall⟩:=mem_ready.1 hk
  have hkm:k<m:=by
   by_cases h:k<m
   ·exact h
   rw [bS4,if_neg h] at hok;cases hok
  rw [bS4,if_pos hkm] at hok
  have hk1:l1[k]?=some false:=by
   have hks:k<l1.size:=J
   rw [Array.getD_eq_getD_getElem?,Array.getElem?_eq_getElem hks] at hku
   rw [Array.getElem?_eq_getElem hks];simpa using hku
  rw [show f+1+f2=(f+f2)+1 by omega]
  refine ⟨λh0=>?_,λi hi=>?_⟩
  ·exfalso
   have hin:k∈Region.ready .any ops l:=by
    refine mem_ready.2 ⟨Ex,ok,hok,λe he hb=>?_⟩
    have h2:=hcs k ok hok
    rw [if_pos hkm] at h2
    have h3:=h2.2 e he hb
    rw [getD_eq l1 l e.on false (he1 _ J)]
    exact hkall e he hb
   rw [h0] at hin;cases hin
  obtain ⟨hiu,o,ho,hall⟩:=mem_ready.1 hi
  have h2:=hcs i o ho
  by_cases him:i<m
  ·rw [if_pos him] at h2
   have ho1:(bSy ops m)[i]?=some o:=by rw [bS4,if_pos him];exact ho
   have hi1:i∈Region.ready .any (bSy ops m) l1:=by
    refine mem_ready.2 ⟨Eu,o,ho1,λe he hb=>?_⟩
    have h3:=h2.2 e he hb
    rw [←getD_eq l1 l e.on false (he1 _ J)]
    exact hall e he hb
   have h4:=H.2 i hi1
   have hw:∀y,Region.wanted o y=true:=λy=>by unfold Region.wanted;rw [h2.1]
   unfold wpOp at h4⊢
   rw [ho1] at h4
   rw [ho]
   dsimp only at h4⊢
   rw [if_pos (hw _)] at h4⊢
   have hL:LetsOut Q1 -> LetsOut Q:=λ⟨a,w,h⟩=>⟨a,w,hq _ a w G0 h⟩
   rcases h4 with h4|⟨h5,h6⟩
   ·refine .inl (Oper.wp_mono2 (λa' w' h'=>ih (l1.setIfInBounds i true) (l.setIfInBounds i true) a' w' (by simpa using hs1) (by simpa using hs2) hmD (λj hj=>?_) (λj hj=>?_) (λq oq hoq hlq e he hb=>?_) h') hq hL h4)
    ·rw [Array.getElem?_setIfInBounds,Array.getElem?_setIfInBounds]
     by_cases hij:i=j
     ·rw [if_pos hij,if_pos hij,if_pos J,if_pos J]
     rw [if_neg hij,if_neg hij];exact he1 j hj
    ·rw [Array.getElem?_setIfInBounds,if_neg J];exact he2 j hj
    have hup:∀z,l.getD z false=true -> (l.setIfInBounds i true).getD z false=true:=λz hz=>by
     rw [Array.getD_eq_getD_getElem?] at hz⊢
     rw [Array.getElem?_setIfInBounds]
     split
     ·split
      ·rfl
      rw [Array.getElem?_eq_none J] at hz;cases hz
     exact hz
    by_cases hqi:i=q
    ·subst hqi
     obtain rfl:=Option.some.inj (ho.symm.trans hoq)
     exact hup _ (hall e he hb)
    refine hup _ (hcl q oq hoq ?_ e he hb)
    rw [Array.getD_eq_getD_getElem?,Array.getElem?_setIfInBounds,if_neg hqi] at hlq
    rw [Array.getD_eq_getD_getElem?];exact hlq
   exact .inr ⟨h5,hL h6⟩
  exfalso
  rw [if_neg him] at h2
  have h3:l.getD k false=true:=bUe (L:=λz=>l.getD z false=true) hcl 2 _ (λx hx=>by
   unfold bT0 at hx
   rw [Array.getElem?_toList,ho] at hx
   obtain ⟨e,he,h2⟩:=List.mem_filterMap.1 hx
   split at h2
   ·rename_i hb
    cases h2
    exact hall e C3 hb
   cases h2) k (h2 k hkm)
  rw [getD_eq l1 l k false (he1 k hkm),Array.getD_eq_getD_getElem?,hk1] at h3
  cases h3
theorem bT3{P:Program}{id:Nat}{ops:Array Oper}{st:AS}{Q:Exit -> AS -> Prop}(m:Nat)(Z1 Z2:List Nat)(D:Array Bool)(hm:P.follows .mixedOrders=true)(hc:(bUz ops m,decide (m <= ops.size),decide (D.size=ops.size),(List.range m).all (λj=>D[j]? == some true),(List.range ops.size).all (λj=>decide (j<m)||D[j]? == some false))=(true,true,true,true,true))
  (h:lD P (bSy ops m) Z1 m (Array.replicate m false) st (λst'=>lD P ops Z2 (ops.size-m) D st' (Q .normal))):AWp P (.region id ops true) st Q:=by
 simp only [Prod.mk.injEq,decide_eq_true_eq,List.all_eq_true,List.mem_range,beq_iff_eq,Bool.or_eq_true] at hc
 obtain ⟨hc1,hc2,hc3,hc4,hc5⟩:=hc
 intro a w hs QQ hQ
 refine Code.wp_mono (Q:=λe a' w'=>match e with|.normal=>QQ .normal a' w'|_=>False) EB ?_
 refine wp_region_any hm ?_
 show wpAny P .any ops _ ops.size (Array.replicate ops.size false) a w.drew
 rw [show ops.size=m+(ops.size-m) by omega]
 refine bUp (Q1:=λe a' w'=>match e with|.normal=>∃st',lD P ops Z2 (ops.size-m) D st' (Q .normal) /\ Sim st' a' w' /\ Ext st w.drew st' w'|_=>False) (D:=D) hc1 hc2 hc4 ?_ ?_ m (Array.replicate m false) _ a w.drew G0 DR J (λj hj=>?_) (λj hj=>?_) (λi o _ h=>?_) ?_
 ·rintro a' w' ⟨st',h1,h2,h3⟩
  exact wpAny_of_held _ _ _ _ (h1 a' w' h2 _ (λ_ _ _ q=>q) λa2 w2 st2 q2 s2 k2=>hQ _ a2 w2 st2 q2 s2 (by
   have k:=h3.trans k2
   exact ⟨⟨k.keep.os,k.keep.tape,k.keep.output,k.keep.size,k.keep.block⟩,⟨k.keepT.os,k.keepT.tape,k.keepT.output,k.keepT.size,k.keepT.block⟩,k.bl,k.T⟩))
 ·intro e a' w' he q
  cases e with
  |normal=>exact absurd rfl he
  |_=>exact q.elim
 ·rw [Array.getElem?_replicate,Array.getElem?_replicate,if_pos J,if_pos hj]
 ·rw [Array.getElem?_replicate]
  by_cases hjn:j<ops.size
  ·rw [if_pos J,(hc5 j hjn).resolve_left J]
  rw [if_neg J,Array.getElem?_eq_none J]
 ·exfalso
  rw [Array.getD_eq_getD_getElem?,Array.getElem?_replicate] at h
  split at h<;>cases h
 exact wpAny_of_held _ _ _ _ (h a w.drew hs.drew _ (λ_ _ _ q=>q) λa' w' st' q s' k=>⟨st',q,s',k⟩)
theorem bTy{P:Program}{id:Nat}{l l1 l2:List Oper}{st:AS}{Q:Exit -> AS -> Prop}(m:Nat)(Z1 Z2:List Nat)(D:Array Bool)[hs:vT m l l1 l2](hm:P.follows .mixedOrders=true)(hc:(bUz l.toArray m,decide (m <= l.toArray.size),decide (D.size=l.toArray.size),(List.range m).all (λj=>D[j]? == some true),(List.range l.toArray.size).all (λj=>decide (j<m)||D[j]? == some false))=(true,true,true,true,true))(h1:l1.length=m)
  (h:lD P l1.toArray Z1 m (Array.replicate m false) st (λst'=>lD P l.toArray Z2 (l.toArray.size-m) D st' (Q .normal))):AWp P (.region id l.toArray true) st Q:=by
 refine bT3 m Z1 Z2 D hm hc ?_
 rw [show bSy l.toArray m=l1.toArray by unfold bSy;rw [hs.h];simp only;rw [List.take_left' h1]]
 exact h
class cFh (v:Value) (T:List Nat):Prop where h:∀b,b∈aY v -> b∈T
instance (priority:=1200) rbIn_hit{v:Value}{T:List Nat}:cFh v (aY v++T):=⟨λ_ hb=>List.mem_append_left _ hb⟩
instance (priority:=1200) rbIn_self{v:Value}:cFh v (aY v):=⟨λ_ hb=>hb⟩
instance (priority:=1300) rbIn_none{T:List Nat}:cFh (.slice none 0 0) T:=⟨λb hb=>DF⟩
instance (priority:=1300) rbIn_lit{g n c:Nat}{T:List Nat}[h:InL g T]:cFh (.slice (some ⟨g,0,none⟩) n c) T:=⟨λb hb=>by
 simp only [aY,Value.ownBlock,Option.toList,mem_cons,not_mem_nil,or_false] at hb
 rw [hb];exact h.h⟩
instance cL6{v:Value}{X T:List Nat}[h:cFh v T]:cFh v (X++T):=⟨λb hb=>List.mem_append_right _ (h.h b hb)⟩
instance cLx{v:Value}{X T:List Nat}[h:cFh v X]:cFh v (X++T):=⟨λb hb=>List.mem_append_left _ (h.h b hb)⟩
instance cLw{v:Value}{x:Nat}{T:List Nat}[h:cFh v T]:cFh v (x::T):=⟨λb hb=>List.mem_cons_of_mem _ (h.h b hb)⟩
instance cNf{x:cFc}:mR (cE9 x) 3:=⟨rfl⟩
instance cM8{x:cG5}:mR (cF7 x) 3:=⟨rfl⟩
instance cN8{x:cFw}:mR (encI x) 12:=⟨rfl⟩
instance cL2{x:cFc}:iY (cE9 x) [Vs x.name,Vi x.kind,nC x.n]:=⟨rfl⟩
instance cMf{x:cG5}:iY (cF7 x) [Vb x.param,nC x.index,Sq fO x.at_]:=⟨rfl⟩
instance cMw{x:cFw}:iY (encI x) [Vi x.op,nC x.target,Vb x.global,Vi x.expr.op,Vi x.expr.num,Vs x.expr.name,Sq fO x.expr.args,Vb x.place.param,nC x.place.index,Sq fO x.place.at_,Sq fO x.ints,Sq cF7 x.places]:=⟨rfl⟩
theorem cG2{P:Program}{α:Type}{x y:Code}{st:AS}{Q:Exit -> AS -> Prop}(F:α -> AS)(h1:AWp P x st (sU (λs=>∃a,Sub s (F a)) Q))(h2:∀a,AWp P y (F a) Q):AWp P (.seq x y) st Q:=
 aHp (sE h1 λe s h=>by
  cases e with
  |normal=>obtain ⟨a,ha⟩:=h;exact zU ha (h2 a)
  |_=>exact h)
theorem cLh{m n:Int}:bC .eql m n=some (decide (m=n)):=by unfold bC;by_cases h:m=n<;>simp [h]
theorem cKx{q:ES}{e:Nat}{s:Int}(h:((q.1:Nat):Int)=0)(he:e≠0):cFg q e s=(e,s):=by unfold cFg;rw [if_pos ⟨J,he⟩]
theorem cK6{q:ES}{e:Nat}{s:Int}(h:¬((q.1:Nat):Int)=0):cFg q e s=q:=by unfold cFg;rw [if_neg (λh2=>h J)]
theorem cIp{l:List cFc}{s:ByteArray}{k:Nat}(h:k<l.length)(hn:¬l[k].name=s)(hv:cFa (l.drop k) s=cFa l s):cFa (l.drop (k+1)) s=cFa l s:=by
 rw [List.drop_eq_getElem_cons h,cFa,if_neg hn] at hv;exact hv
theorem cI2{l:List cFc}{s:ByteArray}{k:Nat}(h:k<l.length)(hn:l[k].name=s)(hv:cFa (l.drop k) s=cFa l s):cFa l s=some l[k]:=by
 rw [List.drop_eq_getElem_cons h,cFa,if_pos hn] at hv;exact hv.symm
theorem cF3(A B:List Box)(X:Nat)(p:cK)(l:List cFc)(loc n:Int)(q:ES)(c8 c9:AC)(rw:List bA)(e:Nat)(s:Int)(he:e≠0):aL prog 114 [pP X,nI e,Ci s] [X] ⟨A++⟨X,169,[Sq dB p.globals,Sq bT p.mutexes,Sq fV p.funcs,Sq cE9 l,Vi loc,Vi n,Vi q.2,nC q.1,c8,c9]⟩::B,rw⟩ λt s'=>t=.tup [] /\ s'=⟨A++⟨X,169,[Sq dB p.globals,Sq bT p.mutexes,Sq fV p.funcs,Sq cE9 l,Vi loc,Vi n,Vi ((cFg q e s).2),Vi (((cFg q e s).1:Nat):Int),c8,c9]⟩::B,rw⟩:=by
 refine acX 19 func114 ?_
 refine go 6 ?_
 by_cases h1:((q.1:Nat):Int)=0
 ·refine wcp true Y (eR h1) (go 15 ?_)
  exact ⟨.inl Y,_,⟨A++⟨X,169,[Sq dB p.globals,Sq bT p.mutexes,Sq fV p.funcs,Sq cE9 l,Vi loc,Vi n,Vi (((e,s):ES).2),Vi ((((e,s):ES).1:Nat):Int),c8,c9]⟩::B,rw⟩,cH Y,aA (.refl _) (.refl _),Y,by rw [cKx h1 he]⟩
 refine wcp false Y (eD h1) (go 4 ?_)
 exact ⟨.inl Y,_,⟨A++⟨X,169,[Sq dB p.globals,Sq bT p.mutexes,Sq fV p.funcs,Sq cE9 l,Vi loc,Vi n,Vi q.2,nC q.1,c8,c9]⟩::B,rw⟩,cH Y,aA (.refl _) (.refl _),Y,by rw [cK6 h1]⟩
theorem cGx(l:List cFc)(s:ByteArray)(hN:l.length <= 1000000000)(st:Sto):aL prog 57 [.c (Sq cE9 l),Cs s] [] st λt s'=>t=.tup [.agg (cE9 (cFb l s)),Cb ((cFa l s).isSome)] /\ s'=st:=by
 obtain ⟨bx,rw⟩:=st
 unfold cFb
 refine acX 25 func57 ?_
 refine go 13 λb1=>?_
 refine lE (λk=>cFa (l.drop k) s=cFa l s) (l.length) 6 (λk=>[(0,.c (Sq cE9 l)),(1,Cs s),(4,pP b1)]) Y (sA Y) λk hk hvk=>?_
 replace hvk:cFa (l.drop k) s=cFa l s:=hvk
 try dsimp only
 refine go 6 ?_
 by_cases h1:((k:Nat):Int)<((l.length:Nat):Int)
 ·refine wcp true Y (jZ h1) (go 11 ?_)
  refine wyz Y (bH cE9 cE9 l cFm (λ_=>Y) k Y Y Y Y J V runUnderlying124 sizeOf128) (go 3 ?_)
  by_cases h3:l[k].name=s
  ·refine wyz Y (aZ true Y Y Y (aL8 h3)) (go 7 ?_)
   refine wyz Y (bH cE9 cE9 l cFm (λ_=>Y) k Y Y Y Y J V runUnderlying124 sizeOf128) (go 11 ?_)
   exact ⟨.inr Y,_,⟨bx,rw⟩,uM Y (aO [] Y Y isAgg128 sizeOf128 (bK Y Y)) (aF Y),aA (.cons _ (.refl _)) (.refl _),by rw [cI2 J h3 hvk];rfl,Y⟩
  refine wyz Y (aZ false Y Y Y (aLs h3)) (go 8 ?_)
  refine wad Y (go 2 ?_)
  exact ⟨J,(cIp J h3 hvk),(aG Y (gQ J) (sA Y))⟩
 refine wcp false Y (jQ h1) (go 16 ?_)
 exact ⟨.inr Y,_,⟨bx,rw⟩,uM Y (aO [] Y Y isAgg128 sizeOf128 (bK Y Y)) (aF Y),aA (.cons _ (.refl _)) (.refl _),D6,Y⟩
theorem cKd{l:List cFc}{x:ByteArray}(h:(cFa l x).isSome=false):cGq l x=6:=by
 unfold cGq;rcases h2:cFa l x with _|v
 ·rfl
 rw [h2] at h;cases h
theorem cHy{l:List cFc}{x:ByteArray}(h:(cFa l x).isSome=true):cGq l x=if (cFb l x).kind=1∨(cFb l x).kind=4 then 0 else 8:=by
 unfold cGq cFb;rcases h2:cFa l x with _|v
 ·rw [h2] at h;cases h
 rfl
theorem cKn(A B:List Box)(X:Nat)(p:cK)(l:List cFc)(loc n:Int)(q:ES)(c8 c9:AC)(rw:List bA)(x:ByteArray)(s:Int)(hl:l.length <= 1000000000):aL prog 116 [pP X,Cs x,Ci s] [X] ⟨A++⟨X,169,[Sq dB p.globals,Sq bT p.mutexes,Sq fV p.funcs,Sq cE9 l,Vi loc,Vi n,Vi q.2,nC q.1,c8,c9]⟩::B,rw⟩ λt s'=>t=.agg (cE9 (cFb l x)) /\ s'=⟨A++⟨X,169,[Sq dB p.globals,Sq bT p.mutexes,Sq fV p.funcs,Sq cE9 l,Vi loc,Vi n,Vi ((cFg q (cGq l x) s).2),Vi (((cFg q (cGq l x) s).1:Nat):Int),c8,c9]⟩::B,rw⟩:=by
 refine acX 37 func116 ?_
 refine go 12 λb1=>?_
 refine wc0 Y call57 Y (cGx l x J _) ?_
 rintro _ _ ⟨rfl,rfl⟩
 refine go 13 λb2=>?_
 rcases Bool.eq_false_or_eq_true ((cFa l x).isSome) with h1|h1
 ·refine wyz Y (fL (bZ (aKs h1)) (lF Y Y)) (go 8 ?_)
  by_cases h3:(cFb l x).kind=1
  ·refine wcp false Y (xG h3) (go 19 ?_)
   exact ⟨.inr Y,_,⟨A++⟨X,169,[Sq dB p.globals,Sq bT p.mutexes,Sq fV p.funcs,Sq cE9 l,Vi loc,Vi n,Vi q.2,nC q.1,c8,c9]⟩::B,rw⟩,aR Y (aO [_] Y Y isAgg128 sizeOf128 (bK Y Y)),aA (.cons _ (.cons _ (.refl _))) (.refl _),Y,by rw [cHy h1,if_pos J,cGg]⟩
  refine wcp true Y (xL h3) (go 3 ?_)
  by_cases h5:(cFb l x).kind=4
  ·refine wcp false Y (xG h5) (go 15 ?_)
   exact ⟨.inr Y,_,⟨A++⟨X,169,[Sq dB p.globals,Sq bT p.mutexes,Sq fV p.funcs,Sq cE9 l,Vi loc,Vi n,Vi q.2,nC q.1,c8,c9]⟩::B,rw⟩,aR Y (aO [_] Y Y isAgg128 sizeOf128 (bK Y Y)),aA (.cons _ (.cons _ (.refl _))) (.refl _),Y,by rw [cHy h1,if_pos J,cGg]⟩
  refine wcp true Y (xL h5) (go 8 ?_)
  refine wo Y (bD [X] call114 (cF3 (_::_::A) B X p l loc n q _ _ rw 8 s V) Gg FU Bd ?_)
  rintro _ _ ⟨rfl,rfl⟩
  refine go 10 ?_
  exact ⟨.inr Y,_,⟨A++⟨X,169,[Sq dB p.globals,Sq bT p.mutexes,Sq fV p.funcs,Sq cE9 l,Vi loc,Vi n,Vi ((cFg q 8 s).2),Vi (((cFg q 8 s).1:Nat):Int),c8,c9]⟩::B,rw⟩,aR Y (aO [_] Y Y isAgg128 sizeOf128 (bK Y Y)),aA (.cons _ (.cons _ (.refl _))) (.refl _),Y,by rw [cHy h1,if_neg J]⟩
 refine wyz Y (fL (bZ (aKt h1)) (lF Y Y)) (go 7 ?_)
 refine wo Y (bD [X] call114 (cF3 (_::_::A) B X p l loc n q _ _ rw 6 s V) Gg FU Bd ?_)
 rintro _ _ ⟨rfl,rfl⟩
 refine go 10 ?_
 exact ⟨.inr Y,_,⟨A++⟨X,169,[Sq dB p.globals,Sq bT p.mutexes,Sq fV p.funcs,Sq cE9 l,Vi loc,Vi n,Vi ((cFg q 6 s).2),Vi (((cFg q 6 s).1:Nat):Int),c8,c9]⟩::B,rw⟩,aR Y (aO [_] Y Y isAgg128 sizeOf128 (bK Y Y)),aA (.cons _ (.cons _ (.refl _))) (.refl _),Y,by rw [cKd h1]⟩
theorem cFt{l:List cFc}{x:ByteArray}(h:(cFa l x).isSome=true):cFa l x=some (cFb l x):=by
 unfold cFb;rcases h2:cFa l x with _|v
 ·rw [h2] at h;cases h
 rfl
theorem cJ8{p:cK}{l:List cFc}{x:ByteArray}{n:Nat}(h:(cFa l x).isSome=false):cG3 p n (cFa l x)=6:=by
 rcases h2:cFa l x with _|v
 ·rfl
 rw [h2] at h;cases h
theorem cGf{p:cK}{l:List cFc}{x:ByteArray}{n:Nat}(h:(cFa l x).isSome=true):cG3 p n (cFa l x)=if (cFb l x).kind=2∨(cFb l x).kind=5 then (if (decide ((cFb l x).kind=2) && decide (0<cHk p (cFb l x).n))=decide (0<n) then 0 else 8) else 8:=by
 rw [cFt h];rfl
theorem cHm{α β:Type}(f:α -> β)(enc:β -> List AC)(l:List α)(k:Nat)(h:k<l.length):((l.take k).map f).flatMap enc++[f l[k]].flatMap enc=((l.take (k+1)).map f).flatMap enc:=by
 rw [List.take_succ_eq_append_getElem h,List.map_append,List.flatMap_append];rfl
theorem cJu(A B:List Box)(X:Nat)(p:cK)(l:List cFc)(loc n:Int)(q:ES)(c8 c9:AC)(rw:List bA)(e:aH)(s:Int)(hl:l.length <= 1000000000)(hN:e.nodes <= 1000000000)(ih:∀k (h:k<e.args.length) (A:List Box) (q:ES) (rw:List bA),aL prog 115 [pP X,.agg (cU e.args[k]),Ci s] [X] ⟨A++⟨X,169,[Sq dB p.globals,Sq bT p.mutexes,Sq fV p.funcs,Sq cE9 l,Vi loc,Vi n,Vi q.2,nC q.1,c8,c9]⟩::B,rw⟩ λt s'=>t=.agg (cU (cFk l e.args[k])) /\ s'=⟨A++⟨X,169,[Sq dB p.globals,Sq bT p.mutexes,Sq fV p.funcs,Sq cE9 l,Vi loc,Vi n,Vi ((cFg q (cFf l e.args[k]) s).2),Vi (((cFg q (cFf l e.args[k]) s).1:Nat):Int),c8,c9]⟩::B,rw⟩):aL prog 115 [pP X,.agg (cU e),Ci s] [X] ⟨A++⟨X,169,[Sq dB p.globals,Sq bT p.mutexes,Sq fV p.funcs,Sq cE9 l,Vi loc,Vi n,Vi q.2,nC q.1,c8,c9]⟩::B,rw⟩ λt s'=>t=.agg (cU (cFk l e)) /\ s'=⟨A++⟨X,169,[Sq dB p.globals,Sq bT p.mutexes,Sq fV p.funcs,Sq cE9 l,Vi loc,Vi n,Vi ((cFg q (cFf l e) s).2),Vi (((cFg q (cFf l e) s).1:Nat):Int),c8,c9]⟩::B,rw⟩:=by
 have hlen:=uC e
 refine acX 53 func115 ?_
 refine go 11 λb1 b2=>?_
 by_cases h1:e.op=2
 ·refine wcp true Y (eR h1) (go 9 ?_)
  refine wo Y (bD [X] call116 (cKn (_::_::A) B X p l loc n q _ _ rw e.name s hl) Gg FU Bd ?_)
  rintro _ _ ⟨rfl,rfl⟩
  refine go 9 λb3=>?_
  by_cases h3:(cFb l e.name).kind=1
  ·refine wcp true Y (eR h3) (go 14 ?_)
   exact ⟨.inr Y,_,⟨A++⟨X,169,[Sq dB p.globals,Sq bT p.mutexes,Sq fV p.funcs,Sq cE9 l,Vi loc,Vi n,Vi ((cFg q (cGq l e.name) s).2),Vi (((cFg q (cGq l e.name) s).1:Nat):Int),c8,c9]⟩::B,rw⟩,aR Y (aCn (Wk.agg (.r (.r (.r (.n .nil))))) (aO [_] Y Y isAgg65 sizeOf65 (bK Y Y))),aA (.cons _ (.cons _ (.cons _ (.refl _)))) (.refl _),by rw [cIs,if_pos J];unfold cJw;rw [if_pos J];rfl,by rw [cIj,if_pos J]⟩
  refine wcp false Y (eD h3) (go 15 ?_)
  exact ⟨.inr Y,_,⟨A++⟨X,169,[Sq dB p.globals,Sq bT p.mutexes,Sq fV p.funcs,Sq cE9 l,Vi loc,Vi n,Vi ((cFg q (cGq l e.name) s).2),Vi (((cFg q (cGq l e.name) s).1:Nat):Int),c8,c9]⟩::B,rw⟩,aR Y (aCn (Wk.agg (.r (.r (.r (.n .nil))))) (aO [_] Y Y isAgg65 sizeOf65 (bK Y Y))),aA (.cons _ (.cons _ (.cons _ (.refl _)))) (.refl _),by rw [cIs,if_pos J];unfold cJw;rw [if_neg J];rfl,by rw [cIj,if_pos J]⟩
 refine wcp false Y (eD h1) (go 23 λb4=>?_)
 refine qR 65 4 ?_
 refine bMj (α:=Value×ES) (λk g=>g.2=cFg q (cFq l (e.args.take k)) s) (e.args.length) 9 (λg=>aY g.1++[b4,b2,b1,X]) (λk g=>⟨⟨b4,65,[Vi e.op,Vi e.num,Vs aK,.val g.1]⟩::⟨b2,65,[Vi 0,Vi 0,Vs aK,Nl]⟩::⟨b1,65,cU e⟩::A++⟨X,169,[Sq dB p.globals,Sq bT p.mutexes,Sq fV p.funcs,Sq cE9 l,Vi loc,Vi n,Vi g.2.2,nC g.2.1,c8,c9]⟩::B,⟨g.1,65,4,k,((e.args.take k).map (cFk l)).flatMap fO⟩::rw⟩) (λ_=>[(0,pP X),(2,Ci s),(4,pP b1),(6,pP b2),(8,pP b4)]) (.slice none 0 0,q) (by rw [List.take_zero,cFq,cGg]) (cQf BU) ?_
 rintro k ⟨v,qq⟩ hk hvk
 replace hvk:qq=cFg q (cFq l (e.args.take k)) s:=hvk
 try dsimp only
 refine go 7 ?_
 by_cases h7:((k:Nat):Int)<((e.args.length:Nat):Int)
 ·refine wcp true Y (jZ h7) (go 7 ?_)
  refine bTy 12 [b4,b2,b1] [] #[true,true,true,true,true,true,true,true,true,true,true,true,false,false] B6 B6 B6 ?_
  refine tz [(0,true),(1,true),(2,true),(3,true),(4,true),(5,true)] 6 (go 7 ?_)
  refine tx 6 Y (bH fO cU e.args iU fP k Y Y Y Y J V runUnderlying63 sizeOf65) (tz [(7,true),(8,true)] 3 (go 3 ?_))
  refine ox 9 Y Y (bD [X] call115 (ih k J (_::_::_::A) qq (_::rw)) Gg FU (by intro h b hb;simp at hb;subst hb;exact kH.2 ⟨C4,λhh=>by simp only [mem_cons,not_mem_nil,or_false] at hh;rcases hh with rfl|rfl|rfl<;>simp [Sto.bl] at h⟩) ?_)
  rintro _ _ ⟨rfl,rfl⟩
  refine ox 10 Y Y (bDk (hf:=aV fO cU (cFk l e.args[k]) (fP _) Y Y) bHf ?_)
  refine ox 11 Y Y (bDm [] cLu Y (aFz fO 4 iU _) V B1 J (N:=k+1) Y (λhn b hb=>qM (r:=(⟨v,65,4,k,((e.args.take k).map (cFk l)).flatMap fO⟩:bA)) hn hb) cFh.h (r:=((e.args.take (k+1)).map (cFk l)).flatMap fO) (cHm (cFk l) fO e.args k J) λw5=>?_)
  refine ax ?_
  refine id ?_
  refine tz [(12,true),(13,false)] 0 (go 3 ?_)
  refine ax (go 4 ?_)
  refine wad Y (go 2 ?_)
  exact ⟨J,(w5,(cFg qq (cFf l e.args[k]) s)),(by rw [hvk];exact cH5 l e.args k J q s),cQf (h:=aG Y (gQ J) (sA Y)) BP⟩
 refine wcp false Y (jQ h7) (go 10 ?_)
 obtain rfl:k=e.args.length:=J
 rw [List.take_length]
 refine aAg (cs':=[Vi e.op,Vi e.num,Vs aK,.sl e.args.length ((e.args.map (cFk l)).flatMap fO)]) [] 3 Y Y ?_
 show eQ prog _ _ ⟨_,_,⟨⟨b4,65,[Vi e.op,Vi e.num,Vs aK,.sl e.args.length ((e.args.map (cFk l)).flatMap fO)]⟩::⟨b2,65,[Vi 0,Vi 0,Vs aK,Nl]⟩::⟨b1,65,cU e⟩::A++⟨X,169,[Sq dB p.globals,Sq bT p.mutexes,Sq fV p.funcs,Sq cE9 l,Vi loc,Vi n,Vi qq.2,nC qq.1,c8,c9]⟩::B,rw⟩,_⟩ _
 refine go 5 ?_
 exact ⟨.inr Y,_,⟨A++⟨X,169,[Sq dB p.globals,Sq bT p.mutexes,Sq fV p.funcs,Sq cE9 l,Vi loc,Vi n,Vi qq.2,nC qq.1,c8,c9]⟩::B,rw⟩,aR Y (aO [_] Y Y isAgg65 sizeOf65 (bK Y Y)),aA (.cons _ (.cons _ (.cons _ (.refl _)))) (.refl _),by rw [cIs,if_neg J];show _=AT.agg [_,_,_,.sl (e.args.map (cFk l)).length _];rw [List.length_map];rfl,by rw [cIj,if_neg J,hvk,List.take_length]⟩
theorem cJy:∀(N:Nat)(e:aH),e.nodes <= N -> N <= 1000000000 -> ∀(A B:List Box)(X:Nat)(p:cK)(l:List cFc)(loc n:Int)(q:ES)(c8 c9:AC)(rw:List bA)(s:Int)(hl:l.length <= 1000000000),aL prog 115 [pP X,.agg (cU e),Ci s] [X] ⟨A++⟨X,169,[Sq dB p.globals,Sq bT p.mutexes,Sq fV p.funcs,Sq cE9 l,Vi loc,Vi n,Vi q.2,nC q.1,c8,c9]⟩::B,rw⟩ λt s'=>t=.agg (cU (cFk l e)) /\ s'=⟨A++⟨X,169,[Sq dB p.globals,Sq bT p.mutexes,Sq fV p.funcs,Sq cE9 l,Vi loc,Vi n,Vi ((cFg q (cFf l e) s).2),Vi (((cFg q (cFf l e) s).1:Nat):Int),c8,c9]⟩::B,rw⟩
 |0,e,h,_=>Bm
 |N+1,e,h,hN=>λA B X p l loc n q c8 c9 rw s hl=>cJu A B X p l loc n q c8 c9 rw e s hl J λk hk A q rw=>cJy N e.args[k] B0 J A B X p l loc n q c8 c9 rw s hl
theorem cI5(A B:List Box)(X:Nat)(p:cK)(l:List cFc)(loc n:Int)(q:ES)(c8 c9:AC)(rw:List bA)(e:aH)(s:Int)(hl:l.length <= 1000000000)(h:e.nodes <= 1000000000):aL prog 115 [pP X,.agg (cU e),Ci s] [X] ⟨A++⟨X,169,[Sq dB p.globals,Sq bT p.mutexes,Sq fV p.funcs,Sq cE9 l,Vi loc,Vi n,Vi q.2,nC q.1,c8,c9]⟩::B,rw⟩ λt s'=>t=.agg (cU (cFk l e)) /\ s'=⟨A++⟨X,169,[Sq dB p.globals,Sq bT p.mutexes,Sq fV p.funcs,Sq cE9 l,Vi loc,Vi n,Vi ((cFg q (cFf l e) s).2),Vi (((cFg q (cFf l e) s).1:Nat):Int),c8,c9]⟩::B,rw⟩:=cJy _ e h (Nat.le_refl _) A B X p l loc n q c8 c9 rw s hl
end
end Go.Proofs.YtbdfdjdgfanjaaaGreatDoor
