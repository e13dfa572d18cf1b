import Derived.Test.YtkfdfhcdmmlfmaaGreatDoorG15J
set_option linter.all false
set_option synthInstance.maxHeartbeats 1000000
set_option synthInstance.maxSize 1000000
namespace Go.Proofs.YtkfdfhcdmmlfmaaGreatDoor
open List (length_append length_cons length_nil mem_append mem_cons not_mem_nil append_assoc getElem_mem take_of_length_le)
section
open Go.RowKit
section
variable {p:cK}{l:List cFc}{al:List eN}{xs:List aS}{k:Nat}(hl:xs.length=al.length)(hk:k<xs.length)(hn:cGb (al.take k) (xs.take k)=al.take k)
include hl hk hn
end
theorem cLq{l:List cFc}{al:List eN}{k:Nat}(h:k<al.length)(hm:al[k].mutex=true):cFn l (al.take (k+1))=cFn l (al.take k) /\ cF4 l (al.take (k+1))=cF4 l (al.take k)++[cG6 l al[k].ref]:=by
 unfold cFn cF4
 rw [List.take_succ_eq_append_getElem h]
 simp only [List.filter_append,List.map_append,List.filter_cons,List.filter_nil,hm];simp
theorem cLr{l:List cFc}{al:List eN}{k:Nat}(h:k<al.length)(hm:al[k].mutex=false):cF4 l (al.take (k+1))=cF4 l (al.take k) /\ cFn l (al.take (k+1))=cFn l (al.take k)++[cFk l al[k].expr]:=by
 unfold cFn cF4
 rw [List.take_succ_eq_append_getElem h]
 simp only [List.filter_append,List.map_append,List.filter_cons,List.filter_nil,hm];simp
theorem cK5(l:List cFc)(al:List eN):(cFn l al).length <= al.length /\ (cF4 l al).length <= al.length:=by
 unfold cFn cF4;rw [List.length_map,List.length_map];exact ⟨List.length_filter_le _ _,List.length_filter_le _ _⟩
end
section
open Go.RowKit
def cLf(ops:Array Oper)(m:Nat)(l0:Array Bool):Bool:=(List.range ops.size).all λi=>match ops.toList[i]? with
 |none=>true
 |some o=>if i<m then o.guard.isNone && o.after.toList.all (λe=>!Region.binds .any e||decide (e.on<i)) else (List.range m).all λj=>l0.getD j false||(bUu ops 6 (bT0 ops i)).contains j
theorem cH9{P:Program}{md:Region.Mode}{ops:Array Oper}{Q:Exit -> Act -> World -> Prop}{S:World -> Prop}:∀(f:Nat)(l:Array Bool)(a:Act)(w:World),wpAnyH P md ops Q S f l a w -> wpAnyH P md ops Q S (f+1) l a w
 |0,_,_,_,h=>⟨λ_=>h.2,λi hi=>by rw [h.1] at hi;cases hi⟩
 |f+1,_,_,_,h=>⟨h.1,λi hi=>wpOp_mono (λa' w' h'=>⟨h'.1,cH9 f _ a' w' h'.2⟩) (h.2 i hi)⟩
theorem cHn{P:Program}{md:Region.Mode}{ops:Array Oper}{Q:Exit -> Act -> World -> Prop}{S:World -> Prop}(f:Nat)(l:Array Bool)(a:Act)(w:World)(h:wpAnyH P md ops Q S f l a w):∀n,wpAnyH P md ops Q S (n+f) l a w
 |0=>by rw [Nat.zero_add];exact h
 |n+1=>by rw [show n+1+f=(n+f)+1 by omega];exact cH9 _ _ _ _ (cHn f l a w h n)
theorem cJm{P:Program}{ops:Array Oper}{Q Q1:Exit -> Act -> World -> Prop}{S S1:World -> Prop}(hS:∀w,S1 w -> S w){m f2:Nat}{l0 D:Array Bool}(hc:cLf ops m l0=true)(hm:m <= ops.size)(hDt:∀j,j<m -> D[j]?=some true)
  (hn:∀a w,Q1 .normal a w -> wpAnyH P .any ops Q S f2 D a w) (hq:∀e a w,e≠.normal -> Q1 e a w -> Q e a w):∀(f:Nat)(l1 l:Array Bool)(a:Act)(w:World),l1.size=m -> l.size=D.size -> m <= D.size -> (∀j,j<m -> l[j]?=l1[j]?) -> (∀j,m <= j -> l[j]?=D[j]?) -> (∀j,j<m -> l0.getD j false=true -> l1[j]?=some true) -> (∀i o,ops[i]?=some o -> l.getD i false=true -> ∀e∈o.after,Region.binds .any e=true -> l.getD e.on false=true) ->
   wpAnyH P .any (bSy ops m) Q1 S1 f l1 a w -> wpAnyH P .any ops Q S (f+f2) l a w:=by
 have hcs:∀i o,ops[i]?=some o -> if i<m then o.guard=none /\ (∀e∈o.after,Region.binds .any e=true -> e.on<i) else ∀j,j<m -> l0.getD j false=true∨j∈bUu ops 6 (bT0 ops i):=by
  intro i o ho
  have hi:i<ops.size:=(Array.getElem?_eq_some_iff.1 ho).1
  have h9:=List.all_eq_true.1 hc i (List.mem_range.2 hi)
  rw [Array.getElem?_toList,ho] at h9
  dsimp only at h9
  by_cases him:i<m
  ·rw [if_pos him] at h9⊢
   simp only [Bool.and_eq_true,List.all_eq_true,Bool.or_eq_true,Bool.not_eq_true',decide_eq_true_eq,Option.isNone_iff_eq_none] at h9
   exact ⟨h9.1,λe he hb=>(h9.2 e C3).resolve_left (by rw [hb];decide)⟩
  rw [if_neg him] at h9⊢
  intro j hj
  have h8:=List.all_eq_true.1 h9 j (List.mem_range.2 hj)
  simpa using h8
 have over:∀(l1 l:Array Bool),l1.size=m -> m <= ops.size -> (∀j,j<m -> l[j]?=l1[j]?) -> Region.ready .any (bSy ops m) l1=[] -> ∀j,j<m -> l1[j]?=some true:=by
  intro l1 l hs hm hl hr j
  induction j using Nat.strongRecOn with
  |_ j ih=>
   intro hj
   by_cases h:l1.getD j true=false
   ·exfalso
    have hop:(bSy ops m)[j]?=some (ops[j]'(by omega)):=EL
    have hin:j∈Region.ready .any (bSy ops m) l1:=by
     refine mem_ready.2 ⟨h,_,hop,λe he hb=>?_⟩
     have h2:=hcs j _ (Array.getElem?_eq_getElem (J:j<ops.size))
     rw [if_pos hj] at h2
     have h3:=h2.2 e he hb
     have h4:=ih e.on h3 J
     simp [Array.getD_eq_getD_getElem?,h4]
    rw [hr] at hin;cases hin
   have hj2:j<l1.size:=J
   rw [Array.getElem?_eq_getElem hj2]
   simp only [Array.getD_eq_getD_getElem?,Array.getElem?_eq_getElem hj2,Option.getD_some] at h
   simpa using h
 have same:∀(l1 l:Array Bool),l1.size=m -> l.size=D.size -> (∀j,j<m -> l[j]?=l1[j]?) -> (∀j,m <= j -> l[j]?=D[j]?) -> Region.ready .any (bSy ops m) l1=[] -> l=D:=by
  intro l1 l hs1 hs2 he1 he2 hr
  refine Array.ext_getElem? λj=>?_
  by_cases hj:j<m
  ·rw [he1 j hj,over l1 l hs1 hm he1 hr j hj,hDt j hj]
  exact he2 j J
 have getD_eq:∀(l1 l:Array Bool)(j:Nat)(d:Bool),l[j]?=l1[j]? -> l.getD j d=l1.getD j d:=λl1 l j d h=>by
  rw [Array.getD_eq_getD_getElem?,Array.getD_eq_getD_getElem?,h]
 intro f
 induction f with
 |zero=>
  intro l1 l a w hs1 hs2 hmD he1 he2 h00 hcl H
  rw [Nat.zero_add,same l1 l hs1 hs2 he1 he2 H.1]
  exact hn a w H.2
 |succ f ih=>
  intro l1 l a w hs1 hs2 hmD he1 he2 h00 hcl H
  by_cases hr:Region.ready .any (bSy ops m) l1=[]
  ·rw [same l1 l hs1 hs2 he1 he2 hr]
   exact cHn f2 _ _ _ (hn a w (H.1 hr)) (f+1)
  obtain ⟨k,hk⟩:=List.exists_mem_of_ne_nil _ hr
  obtain ⟨hku,ok,hok,hkall⟩:=mem_ready.1 hk
  have hkm:k<m:=by
   by_cases h:k<m
   ·exact h
   rw [bS4,if_neg h] at hok;cases hok
  rw [bS4,if_pos hkm] at hok
  have hk1:l1[k]?=some false:=by
   have hks:k<l1.size:=J
   rw [Array.getD_eq_getD_getElem?,Array.getElem?_eq_getElem hks] at hku
   rw [Array.getElem?_eq_getElem hks];simpa using hku
  rw [show f+1+f2=(f+f2)+1 by omega]
  refine ⟨λh0=>?_,λi hi=>?_⟩
  ·exfalso
   have hin:k∈Region.ready .any ops l:=by
    refine mem_ready.2 ⟨Ex,ok,hok,λe he hb=>?_⟩
    have h2:=hcs k ok hok
    rw [if_pos hkm] at h2
    have h3:=h2.2 e he hb
    rw [getD_eq l1 l e.on false (he1 _ J)]
    exact hkall e he hb
   rw [h0] at hin;cases hin
  obtain ⟨hiu,o,ho,hall⟩:=mem_ready.1 hi
  have h2:=hcs i o ho
  by_cases him:i<m
  ·rw [if_pos him] at h2
   have ho1:(bSy ops m)[i]?=some o:=by rw [bS4,if_pos him];exact ho
   have hi1:i∈Region.ready .any (bSy ops m) l1:=by
    refine mem_ready.2 ⟨Eu,o,ho1,λe he hb=>?_⟩
    have h3:=h2.2 e he hb
    rw [←getD_eq l1 l e.on false (he1 _ J)]
    exact hall e he hb
   have h4:=H.2 i hi1
   have hw:∀y,Region.wanted o y=true:=λy=>by unfold Region.wanted;rw [h2.1]
   unfold wpOp at h4⊢
   rw [ho1] at h4
   rw [ho]
   dsimp only at h4⊢
   rw [if_pos (hw _)] at h4⊢
   have hL:LetsOut Q1 -> LetsOut Q:=λ⟨a,w,h⟩=>⟨a,w,hq _ a w G0 h⟩
   rcases h4 with h4|⟨h5,h6⟩
   ·refine .inl (Oper.wp_mono2 (λa' w' h'=>⟨hS _ h'.1,ih (l1.setIfInBounds i true) (l.setIfInBounds i true) a' w' (by simpa using hs1) (by simpa using hs2) hmD (λj hj=>?_) (λj hj=>?_) (λj hj h0=>?_) (λq oq hoq hlq e he hb=>?_) h'.2⟩) hq hL h4)
    ·rw [Array.getElem?_setIfInBounds,Array.getElem?_setIfInBounds]
     by_cases hij:i=j
     ·rw [if_pos hij,if_pos hij,if_pos J,if_pos J]
     rw [if_neg hij,if_neg hij];exact he1 j hj
    ·rw [Array.getElem?_setIfInBounds,if_neg J];exact he2 j hj
    ·rw [Array.getElem?_setIfInBounds]
     by_cases hij:i=j
     ·rw [if_pos hij,if_pos J]
     rw [if_neg hij];exact h00 j hj h0
    have hup:∀z,l.getD z false=true -> (l.setIfInBounds i true).getD z false=true:=λz hz=>by
     rw [Array.getD_eq_getD_getElem?] at hz⊢
     rw [Array.getElem?_setIfInBounds]
     split
     ·split
      ·rfl
      rw [Array.getElem?_eq_none J] at hz;cases hz
     exact hz
    by_cases hqi:i=q
    ·subst hqi
     obtain rfl:=Option.some.inj (ho.symm.trans hoq)
     exact hup _ (hall e he hb)
    refine hup _ (hcl q oq hoq ?_ e he hb)
    rw [Array.getD_eq_getD_getElem?,Array.getElem?_setIfInBounds,if_neg hqi] at hlq
    rw [Array.getD_eq_getD_getElem?];exact hlq
   exact .inr ⟨h5,hL h6⟩
  exfalso
  rw [if_neg him] at h2
  rcases h2 k hkm with h2|h2
  ·rw [h00 k hkm h2] at hk1;cases hk1
  have h3:l.getD k false=true:=bUe (L:=λz=>l.getD z false=true) hcl 6 _ (λx hx=>by
   unfold bT0 at hx
   rw [Array.getElem?_toList,ho] at hx
   obtain ⟨e,he,h7⟩:=List.mem_filterMap.1 hx
   split at h7
   ·rename_i hb
    cases h7
    exact hall e C3 hb
   cases h7) k h2
  rw [getD_eq l1 l k false (he1 k hkm),Array.getD_eq_getD_getElem?,hk1] at h3
  cases h3
theorem cKh{st st':AS}{w w' w2:World}{Z:List Nat}(k:Ext st w st' w')(h:cW (lM st'.s Z) w' w2):cW (lM st.s []) w w2:=by
 refine ⟨h.os.trans k.keep.os,h.tape.trans k.keep.tape,h.output.trans k.keep.output,Nat.le_trans k.keep.size h.size,λi hi hn=>?_⟩
 have hb:i∉st.s.bl:=λhb=>hn (kH.2 ⟨hb,G0⟩)
 rw [h.block i (Nat.lt_of_lt_of_le hi k.keep.size) (λh2=>(k.bl i (kH.1 h2).1).elim hb (λh3=>J)),k.keep.block i hi hb]
theorem cHd{P:Program}{l l1 l2:List Oper}{st:AS}{K:AS -> Prop}(m f1 f2:Nat)(Z1 Z2:List Nat)(L0 L1 D:Array Bool)[hs:vT m l l1 l2]{fuel:Nat}(hf:f1+f2=fuel)
  (hc:(cLf l.toArray m L0,decide (m <= l.toArray.size),decide (D.size=l.toArray.size),decide (L0.size=l.toArray.size),decide (L1.size=m),(List.range m).all (λj=>D[j]? == some true && L0[j]? == L1[j]?),(List.range l.toArray.size).all (λj=>decide (j<m)||(D[j]? == some false && L0[j]? == some false)),(List.range l.toArray.size).all (λi=>!L0.getD i false||(bT0 l.toArray i).all (λj=>L0.getD j false)))=(true,true,true,true,true,true,true,true)) (h1:l1.length=m)
  (h:lD P l1.toArray Z1 f1 L1 st (λst'=>lD P l.toArray Z2 f2 D st' K)):lD P l.toArray [] fuel L0 st K:=by
 simp only [Prod.mk.injEq,decide_eq_true_eq,List.all_eq_true,List.mem_range,beq_iff_eq,Bool.or_eq_true,Bool.and_eq_true,Bool.not_eq_true'] at hc
 obtain ⟨hc1,hc2,hc3,hc4,hc5,hc6,hc7,hc8⟩:=hc
 have e1:bSy l.toArray m=l1.toArray:=by unfold bSy;rw [hs.h];simp only;rw [List.take_left' h1]
 intro a w hS QQ hp hQ
 rw [←hf]
 refine cJm (S1:=λw'=>cW (lM st.s Z1) w w') (λw' k=>k.mono λb hb=>kH.2 ⟨(kH.1 hb).1,G0⟩) (Q1:=λe a' w'=>match e with|.normal=>∃st',lD P l.toArray Z2 f2 D st' K /\ Sim st' a' w' /\ Ext st w st' w'|_=>QQ e a' w') (l0:=L0) (D:=D) hc1 hc2 (λj hj=>(hc6 j hj).1) ?_ ?_ f1 L1 L0 a w hc5 (by rw [hc4,hc3]) (by rw [hc3];exact hc2) (λj hj=>(hc6 j hj).2) (λj hj=>?_) (λj hj h0=>?_) (λi o ho h0 e he hb=>?_) ?_
 ·rintro a' w' ⟨st',q1,q2,q3⟩
  exact aO8 (λw2 k2=>cKh q3 k2) (q1 a' w' q2 QQ hp λa2 w2 st2 p2 s2 k2=>hQ a2 w2 st2 p2 s2 (q3.trans k2))
 ·intro e a' w' he q
  cases e with
  |normal=>exact absurd rfl he
  |_=>exact q
 ·by_cases hjn:j<l.toArray.size
  ·rcases hc7 j hjn with h9|h9
   ·omega
   rw [h9.1,h9.2]
  rw [Array.getElem?_eq_none J,Array.getElem?_eq_none J]
 ·rw [←(hc6 j hj).2]
  have hjs:j<L0.size:=J
  rw [Array.getD_eq_getD_getElem?,Array.getElem?_eq_getElem hjs] at h0
  rw [Array.getElem?_eq_getElem hjs];simpa using h0
 ·have hi:i<l.toArray.size:=(Array.getElem?_eq_some_iff.1 ho).1
  rcases hc8 i hi with h9|h9
  ·rw [h0] at h9;cases h9
  refine h9 e.on ?_
  unfold bT0
  rw [Array.getElem?_toList,ho]
  exact List.mem_filterMap.2 ⟨e,C3,by rw [if_pos hb]⟩
 rw [e1]
 exact h a w hS _ (λc a2 w2 q=>hp c a2 w2 q) λa' w' st' q s' k=>⟨st',q,s',k⟩
theorem cJ4{P:Program}{ops:Array Oper}{Z:List Nat}{fuel:Nat}{listed:Array Bool}{n:Nat}{T:List Nat}{s:Sto}{ts:List (Nat×AT)}{K:AS -> Prop}(i:Nat){u t:AT}(hl:look ts i=some u)(hw:Wk u t)(h:lD P ops Z fuel listed ⟨n,T,s,(i,t)::ts⟩ K):lD P ops Z fuel listed ⟨n,T,s,ts⟩ K:=
 aO1 (aN9 (st:=⟨n,T,s,ts⟩) i hl hw) h
theorem wcL{P:Program}{U T:List Nat}{o:Oper}{n d:Nat}{ts:List (Nat×AT)}{K:AS -> Prop}{F:FuncId}{ars:Array Operand}{tys:Array TypeId}{us:List AT}{A B:List Box}{X:Nat}{E E1 E2:TypeId}{cs:List AC}{cs':Value -> Value -> List AC}{vc vs:Value}{z1 z2 k1 k2 k1' k2':Nat}{r1 r2 r1' r2':List AC}{rw:List bA}{r:AT}
  (ho:o.op=.call {callee:=.value (.func F),args:=ars,argTypes:=tys}) (hd:o.dst=some d) (hn:d<n) (hcf:∀args w,(callFunc F args).run P w=.ok (.enter F args) w)
  (has:ars.toList.map (evA ⟨n,T,⟨A++⟨X,E,cs⟩::B,⟨vc,E1,z1,k1,r1⟩::⟨vs,E2,z2,k2,r2⟩::rw⟩,ts⟩)=us.map some)
  (hc:aL P F us (X::(aY vc++aY vs)) ⟨A++⟨X,E,cs⟩::B,⟨vc,E1,z1,k1,r1⟩::⟨vs,E2,z2,k2,r2⟩::rw⟩ λt s'=>t=r /\ ∃vc' vs',s'=⟨A++⟨X,E,cs' vc' vs'⟩::B,⟨vc',E1,z1,k1',r1'⟩::⟨vs',E2,z2,k2',r2'⟩::rw⟩)
  (hX:X∈T) (hv1:∀b,b∈aY vc -> b∈T) (hv2:∀b,b∈aY vs -> b∈T)
  (hU:(⟨A++⟨X,E,cs⟩::B,⟨vc,E1,z1,k1,r1⟩::⟨vs,E2,z2,k2,r2⟩::rw⟩:Sto).bl.Nodup -> X∈U /\ (∀b,b∈aY vc -> b∈U) /\ ∀b,b∈aY vs -> b∈U)
  (h:∀vc' vs',K ⟨n,(aY vc'++aY vs')++T,⟨A++⟨X,E,cs' vc' vs'⟩::B,⟨vc',E1,z1,k1',r1'⟩::⟨vs',E2,z2,k2',r2'⟩::rw⟩,(d,r)::ts⟩):
  AO P U o ⟨n,T,⟨A++⟨X,E,cs⟩::B,⟨vc,E1,z1,k1,r1⟩::⟨vs,E2,z2,k2,r2⟩::rw⟩,ts⟩ K:=by
 refine aQk (X::(aY vc++aY vs)) ho hd hn hcf has hc (λb hb=>?_) (λb hb=>?_) (λhn b hb=>?_) ?_
 ·simp only [mem_cons,mem_append] at hb
  rcases hb with rfl|hb|hb
  ·exact hX
  ·exact hv1 b hb
  exact hv2 b hb
 ·simp only [mem_cons,mem_append] at hb
  unfold Sto.bl
  rcases hb with rfl|hb|hb
  ·simp
  ·simp [hb]
  simp [hb]
 ·simp only [mem_cons,mem_append] at hb
  obtain ⟨u1,u2,u3⟩:=hU hn
  rcases hb with rfl|hb|hb
  ·exact u1
  ·exact u2 b hb
  exact u3 b hb
 rintro _ _ ⟨rfl,vc',vs',rfl⟩
 refine ⟨aY vc'++aY vs',λhn b hb=>⟨?_,λh9=>?_⟩,h vc' vs'⟩
 ·unfold Sto.bl
  rcases mem_append.1 hb with hb|hb<;>simp [hb]
 have h8:=aJ2 (bx:=A++⟨X,E,cs⟩::B) (bx':=A++⟨X,E,cs' vc' vs'⟩::B) (rs:=[⟨vc,E1,z1,k1,r1⟩,⟨vs,E2,z2,k2,r2⟩]) (rs':=[⟨vc',E1,z1,k1',r1'⟩,⟨vs',E2,z2,k2',r2'⟩]) (rw:=rw) (b:=b) G0 hn GJ h9
 simp only [List.flatMap_cons,List.flatMap_nil,List.append_nil,mem_append] at h8
 rcases h8 with h8|h8
 ·exact hv1 b h8
 exact hv2 b h8
end
end Go.Proofs.YtkfdfhcdmmlfmaaGreatDoor
