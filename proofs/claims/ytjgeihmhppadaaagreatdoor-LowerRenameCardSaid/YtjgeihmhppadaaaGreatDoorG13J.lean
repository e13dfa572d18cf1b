import Derived.Test.YtjgeihmhppadaaaGreatDoorG12J
set_option linter.all false
set_option synthInstance.maxHeartbeats 1000000
set_option synthInstance.maxSize 1000000
set_option maxHeartbeats 1600000
set_option maxRecDepth 100000
namespace Go.Proofs.YtjgeihmhppadaaaGreatDoor
open Go.Proofs.Tryz
open List (length_append length_cons length_nil mem_append mem_cons not_mem_nil append_assoc getElem_mem take_of_length_le)
section
open Go.RowKit
def cLf(ops:Array Oper)(m:Nat)(l0:Array Bool):Bool:=(List.range ops.size).all λi=>match ops.toList[i]? with
 |none=>true
 |some o=>if i<m then o.guard.isNone && o.after.toList.all (λe=>!Region.binds .any e||decide (e.on<i)) else (List.range m).all λj=>l0.getD j false||(bUu ops 6 (bT0 ops i)).contains j
theorem cH9{P:Program}{md:Region.Mode}{ops:Array Oper}{Q:Exit -> Act -> World -> Prop}{S:World -> Prop}:∀(f:Nat)(l:Array Bool)(a:Act)(w:World),wpAnyH P md ops Q S f l a w -> wpAnyH P md ops Q S (f+1) l a w
 |0,_,_,_,h=>⟨λ_=>h.2,λi hi=>by rw [h.1] at hi;cases hi⟩
 |f+1,_,_,_,h=>⟨h.1,λi hi=>wpOp_mono (λa' w' h'=>⟨h'.1,cH9 f _ a' w' h'.2⟩) (h.2 i hi)⟩
theorem cHn{P:Program}{md:Region.Mode}{ops:Array Oper}{Q:Exit -> Act -> World -> Prop}{S:World -> Prop}(f:Nat)(l:Array Bool)(a:Act)(w:World)(h:wpAnyH P md ops Q S f l a w):∀n,wpAnyH P md ops Q S (n+f) l a w
 |0=>by rw [Nat.zero_add];exact h
 |n+1=>by rw [show n+1+f=(n+f)+1 by omega];exact cH9 _ _ _ _ (cHn f l a w h n)
theorem cJm{P:Program}{ops:Array Oper}{Q Q1:Exit -> Act -> World -> Prop}{S S1:World -> Prop}(hS:∀w,S1 w -> S w){m f2:Nat}{l0 D:Array Bool}(hc:cLf ops m l0=true)(hm:m <= ops.size)(hDt:∀j,j<m -> D[j]?=some true)
  (hn:∀a w,Q1 .normal a w -> wpAnyH P .any ops Q S f2 D a w) (hq:∀e a w,e≠.normal -> Q1 e a w -> Q e a w):∀(f:Nat)(l1 l:Array Bool)(a:Act)(w:World),l1.size=m -> l.size=D.size -> m <= D.size -> (∀j,j<m -> l[j]?=l1[j]?) -> (∀j,m <= j -> l[j]?=D[j]?) -> (∀j,j<m -> l0.getD j false=true -> l1[j]?=some true) -> (∀i o,ops[i]?=some o -> l.getD i false=true -> ∀e∈o.after,Region.binds .any e=true -> l.getD e.on false=true) ->
   wpAnyH P .any (bSy ops m) Q1 S1 f l1 a w -> wpAnyH P .any ops Q S (f+f2) l a w:=by
 have hcs:∀i o,ops[i]?=some o -> if i<m then o.guard=none /\ (∀e∈o.after,Region.binds .any e=true -> e.on<i) else ∀j,j<m -> l0.getD j false=true∨j∈bUu ops 6 (bT0 ops i):=by
  intro i o ho
  have hi:i<ops.size:=(Array.getElem?_eq_some_iff.1 ho).1
  have h9:=List.all_eq_true.1 hc i (List.mem_range.2 hi)
  rw [Array.getElem?_toList,ho] at h9
  dsimp only at h9
  by_cases him:i<m
  ·rw [if_pos him] at h9⊢
   simp only [Bool.and_eq_true,List.all_eq_true,Bool.or_eq_true,Bool.not_eq_true',decide_eq_true_eq,Option.isNone_iff_eq_none] at h9
   exact ⟨h9.1,λe he hb=>(h9.2 e C3).resolve_left (by rw [hb];decide)⟩
  rw [if_neg him] at h9⊢
  intro j hj
  have h8:=List.all_eq_true.1 h9 j (List.mem_range.2 hj)
  simpa using h8
 have over:∀(l1 l:Array Bool),l1.size=m -> m <= ops.size -> (∀j,j<m -> l[j]?=l1[j]?) -> Region.ready .any (bSy ops m) l1=[] -> ∀j,j<m -> l1[j]?=some true:=by
  intro l1 l hs hm hl hr j
  induction j using Nat.strongRecOn with
  |_ j ih=>
   intro hj
   by_cases h:l1.getD j true=false
   ·exfalso
    have hop:(bSy ops m)[j]?=some (ops[j]'(by omega)):=EL
    have hin:j∈Region.ready .any (bSy ops m) l1:=by
     refine mem_ready.2 ⟨h,_,hop,λe he hb=>?_⟩
     have h2:=hcs j _ (Array.getElem?_eq_getElem (J:j<ops.size))
     rw [if_pos hj] at h2
     have h3:=h2.2 e he hb
     have h4:=ih e.on h3 J
     simp [Array.getD_eq_getD_getElem?,h4]
    rw [hr] at hin;cases hin
   have hj2:j<l1.size:=J
   rw [Array.getElem?_eq_getElem hj2]
   simp only [Array.getD_eq_getD_getElem?,Array.getElem?_eq_getElem hj2,Option.getD_some] at h
   simpa using h
 have same:∀(l1 l:Array Bool),l1.size=m -> l.size=D.size -> (∀j,j<m -> l[j]?=l1[j]?) -> (∀j,m <= j -> l[j]?=D[j]?) -> Region.ready .any (bSy ops m) l1=[] -> l=D:=by
  intro l1 l hs1 hs2 he1 he2 hr
  refine Array.ext_getElem? λj=>?_
  by_cases hj:j<m
  ·rw [he1 j hj,over l1 l hs1 hm he1 hr j hj,hDt j hj]
  exact he2 j J
 have getD_eq:∀(l1 l:Array Bool)(j:Nat)(d:Bool),l[j]?=l1[j]? -> l.getD j d=l1.getD j d:=λl1 l j d h=>by
  rw [Array.getD_eq_getD_getElem?,Array.getD_eq_getD_getElem?,h]
 intro f
 induction f with
 |zero=>
  intro l1 l a w hs1 hs2 hmD he1 he2 h00 hcl H
  rw [Nat.zero_add,same l1 l hs1 hs2 he1 he2 H.1]
  exact hn a w H.2
 |succ f ih=>
  intro l1 l a w hs1 hs2 hmD he1 he2 h00 hcl H
  by_cases hr:Region.ready .any (bSy ops m) l1=[]
  ·rw [same l1 l hs1 hs2 he1 he2 hr]
   exact cHn f2 _ _ _ (hn a w (H.1 hr)) (f+1)
  obtain ⟨k,hk⟩:=List.exists_mem_of_ne_nil _ hr
  obtain ⟨hku,ok,hok,hkall⟩:=mem_ready.1 hk
  have hkm:k<m:=by
   by_cases h:k<m
   ·exact h
   rw [bS4,if_neg h] at hok;cases hok
  rw [bS4,if_pos hkm] at hok
  have hk1:l1[k]?=some false:=by
   have hks:k<l1.size:=J
   rw [Array.getD_eq_getD_getElem?,Array.getElem?_eq_getElem hks] at hku
   rw [Array.getElem?_eq_getElem hks];simpa using hku
  rw [show f+1+f2=(f+f2)+1 by omega]
  refine ⟨λh0=>?_,λi hi=>?_⟩
  ·exfalso
   have hin:k∈Region.ready .any ops l:=by
    refine mem_ready.2 ⟨Ex,ok,hok,λe he hb=>?_⟩
    have h2:=hcs k ok hok
    rw [if_pos hkm] at h2
    have h3:=h2.2 e he hb
    rw [getD_eq l1 l e.on false (he1 _ J)]
    exact hkall e he hb
   rw [h0] at hin;cases hin
  obtain ⟨hiu,o,ho,hall⟩:=mem_ready.1 hi
  have h2:=hcs i o ho
  by_cases him:i<m
  ·rw [if_pos him] at h2
   have ho1:(bSy ops m)[i]?=some o:=by rw [bS4,if_pos him];exact ho
   have hi1:i∈Region.ready .any (bSy ops m) l1:=by
    refine mem_ready.2 ⟨Eu,o,ho1,λe he hb=>?_⟩
    have h3:=h2.2 e he hb
    rw [←getD_eq l1 l e.on false (he1 _ J)]
    exact hall e he hb
   have h4:=H.2 i hi1
   have hw:∀y,Region.wanted o y=true:=λy=>by unfold Region.wanted;rw [h2.1]
   unfold wpOp at h4⊢
   rw [ho1] at h4
   rw [ho]
   dsimp only at h4⊢
   rw [if_pos (hw _)] at h4⊢
   have hL:LetsOut Q1 -> LetsOut Q:=λ⟨a,w,h⟩=>⟨a,w,hq _ a w G0 h⟩
   rcases h4 with h4|⟨h5,h6⟩
   ·refine .inl (Oper.wp_mono2 (λa' w' h'=>⟨hS _ h'.1,ih (l1.setIfInBounds i true) (l.setIfInBounds i true) a' w' (by simpa using hs1) (by simpa using hs2) hmD (λj hj=>?_) (λj hj=>?_) (λj hj h0=>?_) (λq oq hoq hlq e he hb=>?_) h'.2⟩) hq hL h4)
    ·rw [Array.getElem?_setIfInBounds,Array.getElem?_setIfInBounds]
     by_cases hij:i=j
     ·rw [if_pos hij,if_pos hij,if_pos J,if_pos J]
     rw [if_neg hij,if_neg hij];exact he1 j hj
    ·rw [Array.getElem?_setIfInBounds,if_neg J];exact he2 j hj
    ·rw [Array.getElem?_setIfInBounds]
     by_cases hij:i=j
     ·rw [if_pos hij,if_pos J]
     rw [if_neg hij];exact h00 j hj h0
    have hup:∀z,l.getD z false=true -> (l.setIfInBounds i true).getD z false=true:=λz hz=>by
     rw [Array.getD_eq_getD_getElem?] at hz⊢
     rw [Array.getElem?_setIfInBounds]
     split
     ·split
      ·rfl
      rw [Array.getElem?_eq_none J] at hz;cases hz
     exact hz
    by_cases hqi:i=q
    ·subst hqi
     obtain rfl:=Option.some.inj (ho.symm.trans hoq)
     exact hup _ (hall e he hb)
    refine hup _ (hcl q oq hoq ?_ e he hb)
    rw [Array.getD_eq_getD_getElem?,Array.getElem?_setIfInBounds,if_neg hqi] at hlq
    rw [Array.getD_eq_getD_getElem?];exact hlq
   exact .inr ⟨h5,hL h6⟩
  exfalso
  rw [if_neg him] at h2
  rcases h2 k hkm with h2|h2
  ·rw [h00 k hkm h2] at hk1;cases hk1
  have h3:l.getD k false=true:=bUe (L:=λz=>l.getD z false=true) hcl 6 _ (λx hx=>by
   unfold bT0 at hx
   rw [Array.getElem?_toList,ho] at hx
   obtain ⟨e,he,h7⟩:=List.mem_filterMap.1 hx
   split at h7
   ·rename_i hb
    cases h7
    exact hall e C3 hb
   cases h7) k h2
  rw [getD_eq l1 l k false (he1 k hkm),Array.getD_eq_getD_getElem?,hk1] at h3
  cases h3
theorem cKh{st st':AS}{w w' w2:World}{Z:List Nat}(k:Ext st w st' w')(h:cW (lM st'.s Z) w' w2):cW (lM st.s []) w w2:=by
 refine ⟨h.os.trans k.keep.os,h.tape.trans k.keep.tape,h.output.trans k.keep.output,Nat.le_trans k.keep.size h.size,λi hi hn=>?_⟩
 have hb:i∉st.s.bl:=λhb=>hn (kH.2 ⟨hb,G0⟩)
 rw [h.block i (Nat.lt_of_lt_of_le hi k.keep.size) (λh2=>(k.bl i (kH.1 h2).1).elim hb (λh3=>J)),k.keep.block i hi hb]
theorem cHd{P:Program}{l l1 l2:List Oper}{st:AS}{K:AS -> Prop}(m f1 f2:Nat)(Z1 Z2:List Nat)(L0 L1 D:Array Bool)[hs:vT m l l1 l2]{fuel:Nat}(hf:f1+f2=fuel)
  (hc:(cLf l.toArray m L0,decide (m <= l.toArray.size),decide (D.size=l.toArray.size),decide (L0.size=l.toArray.size),decide (L1.size=m),(List.range m).all (λj=>D[j]? == some true && L0[j]? == L1[j]?),(List.range l.toArray.size).all (λj=>decide (j<m)||(D[j]? == some false && L0[j]? == some false)),(List.range l.toArray.size).all (λi=>!L0.getD i false||(bT0 l.toArray i).all (λj=>L0.getD j false)))=(true,true,true,true,true,true,true,true)) (h1:l1.length=m)
  (h:lD P l1.toArray Z1 f1 L1 st (λst'=>lD P l.toArray Z2 f2 D st' K)):lD P l.toArray [] fuel L0 st K:=by
 simp only [Prod.mk.injEq,decide_eq_true_eq,List.all_eq_true,List.mem_range,beq_iff_eq,Bool.or_eq_true,Bool.and_eq_true,Bool.not_eq_true'] at hc
 obtain ⟨hc1,hc2,hc3,hc4,hc5,hc6,hc7,hc8⟩:=hc
 have e1:bSy l.toArray m=l1.toArray:=by unfold bSy;rw [hs.h];simp only;rw [List.take_left' h1]
 intro a w hS QQ hp hQ
 rw [←hf]
 refine cJm (S1:=λw'=>cW (lM st.s Z1) w w') (λw' k=>k.mono λb hb=>kH.2 ⟨(kH.1 hb).1,G0⟩) (Q1:=λe a' w'=>match e with|.normal=>∃st',lD P l.toArray Z2 f2 D st' K /\ Sim st' a' w' /\ Ext st w st' w'|_=>QQ e a' w') (l0:=L0) (D:=D) hc1 hc2 (λj hj=>(hc6 j hj).1) ?_ ?_ f1 L1 L0 a w hc5 (by rw [hc4,hc3]) (by rw [hc3];exact hc2) (λj hj=>(hc6 j hj).2) (λj hj=>?_) (λj hj h0=>?_) (λi o ho h0 e he hb=>?_) ?_
 ·rintro a' w' ⟨st',q1,q2,q3⟩
  exact aO8 (λw2 k2=>cKh q3 k2) (q1 a' w' q2 QQ hp λa2 w2 st2 p2 s2 k2=>hQ a2 w2 st2 p2 s2 (q3.trans k2))
 ·intro e a' w' he q
  cases e with
  |normal=>exact absurd rfl he
  |_=>exact q
 ·by_cases hjn:j<l.toArray.size
  ·rcases hc7 j hjn with h9|h9
   ·omega
   rw [h9.1,h9.2]
  rw [Array.getElem?_eq_none J,Array.getElem?_eq_none J]
 ·rw [←(hc6 j hj).2]
  have hjs:j<L0.size:=J
  rw [Array.getD_eq_getD_getElem?,Array.getElem?_eq_getElem hjs] at h0
  rw [Array.getElem?_eq_getElem hjs];simpa using h0
 ·have hi:i<l.toArray.size:=(Array.getElem?_eq_some_iff.1 ho).1
  rcases hc8 i hi with h9|h9
  ·rw [h0] at h9;cases h9
  refine h9 e.on ?_
  unfold bT0
  rw [Array.getElem?_toList,ho]
  exact List.mem_filterMap.2 ⟨e,C3,by rw [if_pos hb]⟩
 rw [e1]
 exact h a w hS _ (λc a2 w2 q=>hp c a2 w2 q) λa' w' st' q s' k=>⟨st',q,s',k⟩
theorem cJ4{P:Program}{ops:Array Oper}{Z:List Nat}{fuel:Nat}{listed:Array Bool}{n:Nat}{T:List Nat}{s:Sto}{ts:List (Nat×AT)}{K:AS -> Prop}(i:Nat){u t:AT}(hl:look ts i=some u)(hw:Wk u t)(h:lD P ops Z fuel listed ⟨n,T,s,(i,t)::ts⟩ K):lD P ops Z fuel listed ⟨n,T,s,ts⟩ K:=
 aO1 (aN9 (st:=⟨n,T,s,ts⟩) i hl hw) h
theorem wcL{P:Program}{U T:List Nat}{o:Oper}{n d:Nat}{ts:List (Nat×AT)}{K:AS -> Prop}{F:FuncId}{ars:Array Operand}{tys:Array TypeId}{us:List AT}{A B:List Box}{X:Nat}{E E1 E2:TypeId}{cs:List AC}{cs':Value -> Value -> List AC}{vc vs:Value}{z1 z2 k1 k2 k1' k2':Nat}{r1 r2 r1' r2':List AC}{rw:List bA}{r:AT}
  (ho:o.op=.call {callee:=.value (.func F),args:=ars,argTypes:=tys}) (hd:o.dst=some d) (hn:d<n) (hcf:∀args w,(callFunc F args).run P w=.ok (.enter F args) w)
  (has:ars.toList.map (evA ⟨n,T,⟨A++⟨X,E,cs⟩::B,⟨vc,E1,z1,k1,r1⟩::⟨vs,E2,z2,k2,r2⟩::rw⟩,ts⟩)=us.map some)
  (hc:aL P F us (X::(aY vc++aY vs)) ⟨A++⟨X,E,cs⟩::B,⟨vc,E1,z1,k1,r1⟩::⟨vs,E2,z2,k2,r2⟩::rw⟩ λt s'=>t=r /\ ∃vc' vs',s'=⟨A++⟨X,E,cs' vc' vs'⟩::B,⟨vc',E1,z1,k1',r1'⟩::⟨vs',E2,z2,k2',r2'⟩::rw⟩)
  (hX:X∈T) (hv1:∀b,b∈aY vc -> b∈T) (hv2:∀b,b∈aY vs -> b∈T)
  (hU:(⟨A++⟨X,E,cs⟩::B,⟨vc,E1,z1,k1,r1⟩::⟨vs,E2,z2,k2,r2⟩::rw⟩:Sto).bl.Nodup -> X∈U /\ (∀b,b∈aY vc -> b∈U) /\ ∀b,b∈aY vs -> b∈U)
  (h:∀vc' vs',K ⟨n,(aY vc'++aY vs')++T,⟨A++⟨X,E,cs' vc' vs'⟩::B,⟨vc',E1,z1,k1',r1'⟩::⟨vs',E2,z2,k2',r2'⟩::rw⟩,(d,r)::ts⟩):
  AO P U o ⟨n,T,⟨A++⟨X,E,cs⟩::B,⟨vc,E1,z1,k1,r1⟩::⟨vs,E2,z2,k2,r2⟩::rw⟩,ts⟩ K:=by
 refine aQk (X::(aY vc++aY vs)) ho hd hn hcf has hc (λb hb=>?_) (λb hb=>?_) (λhn b hb=>?_) ?_
 ·simp only [mem_cons,mem_append] at hb
  rcases hb with rfl|hb|hb
  ·exact hX
  ·exact hv1 b hb
  exact hv2 b hb
 ·simp only [mem_cons,mem_append] at hb
  unfold Sto.bl
  rcases hb with rfl|hb|hb
  ·simp
  ·simp [hb]
  simp [hb]
 ·simp only [mem_cons,mem_append] at hb
  obtain ⟨u1,u2,u3⟩:=hU hn
  rcases hb with rfl|hb|hb
  ·exact u1
  ·exact u2 b hb
  exact u3 b hb
 rintro _ _ ⟨rfl,vc',vs',rfl⟩
 refine ⟨aY vc'++aY vs',λhn b hb=>⟨?_,λh9=>?_⟩,h vc' vs'⟩
 ·unfold Sto.bl
  rcases mem_append.1 hb with hb|hb<;>simp [hb]
 have h8:=aJ2 (bx:=A++⟨X,E,cs⟩::B) (bx':=A++⟨X,E,cs' vc' vs'⟩::B) (rs:=[⟨vc,E1,z1,k1,r1⟩,⟨vs,E2,z2,k2,r2⟩]) (rs':=[⟨vc',E1,z1,k1',r1'⟩,⟨vs',E2,z2,k2',r2'⟩]) (rw:=rw) (b:=b) G0 hn GM h9
 simp only [List.flatMap_cons,List.flatMap_nil,List.append_nil,mem_append] at h8
 rcases h8 with h8|h8
 ·exact hv1 b h8
 exact hv2 b h8
theorem cSa(A B:List Box)(D gg gm gf gk gl:Nat)(x:LS)(vc vs:Value)(rw:List bA)(i:cFw)(s:Nat)(hc:x.code.length <= 100000000)(hs:x.sites.length=x.code.length):aL prog 52 [pP D,nI s,.agg (encI i)] (D::(aY vc++aY vs)) ⟨A++⟨D,77,[Vm gg,Vm gm,Vm gf,Vm gl,Vm gk,nC x.locals,.val vc,.val vs,nC x.n]⟩::B,⟨vc,92,12,x.code.length,x.code.flatMap encI⟩::⟨vs,3,1,x.sites.length,x.sites.map λx=>Vi x⟩::rw⟩ λt s'=>t=nI x.code.length /\ ∃vc' vs',s'=⟨A++⟨D,77,[Vm gg,Vm gm,Vm gf,Vm gl,Vm gk,Vi (((x.put i s).locals:Nat):Int),.val vc',.val vs',Vi (((x.put i s).n:Nat):Int)]⟩::B,⟨vc',92,12,(x.put i s).code.length,(x.put i s).code.flatMap encI⟩::⟨vs',3,1,(x.put i s).sites.length,(x.put i s).sites.map λx=>Vi x⟩::rw⟩:=by
 have hci:(x.code++[i]).length=x.code.length+1:=by rw [length_append];rfl
 refine acX 33 func52 ?_
 refine go 7 λb1=>?_
 refine dx [] (tz [(1,true)] 21 (go 2 ?_))
 refine cHd 16 15 6 [b1,D] [] #[false,true,false,false,false,false,false,false,false,false,false,false,false,false,false,false,false,false,false,false,false,false] #[false,true,false,false,false,false,false,false,false,false,false,false,false,false,false,false] #[true,true,true,true,true,true,true,true,true,true,true,true,true,true,true,true,false,false,false,false,false,false] Y B6 B6 ?_
 refine tz [(0,true),(2,true),(3,true),(4,true),(5,true),(6,true),(9,true),(10,true),(11,true),(12,true),(13,true)] 4 (go 12 ?_)
 refine t2 7 14 Y ?_ ?_
 focus
  refine (bDk (hf:=aV encI encI i Y Y Y) cQs ?_)
  refine t2 8 14 Y ?_ ?_
  focus
   refine (bDm [] dFv Y (aFz encI 12 cGj _) V B1 J (@length_append _ x.code [i]).symm (λhn b hb=>cZl (r:=(⟨vc,92,12,x.code.length,x.code.flatMap encI⟩:bA)) hn hb) cFh.h (List.flatMap_append (f:=encI)).symm λw6=>?_)
   refine ox 14 Y Y (bDk (r:=[nC s]) zb6 ?_)
  rotate_left
  refine (bDk (r:=[nC s]) zb6 ?_)
  refine ox 8 Y Y (bDm [] dFv Y (aFz encI 12 cGj _) V B1 J (@length_append _ x.code [i]).symm (λhn b hb=>cZl (r:=(⟨vc,92,12,x.code.length,x.code.flatMap encI⟩:bA)) hn hb) cFh.h (List.flatMap_append (f:=encI)).symm λw6=>?_)
 rotate_left 2
 refine (bDk (r:=[nC s]) zb6 ?_)
 refine ox 7 Y Y (bDk (hf:=aV encI encI i Y Y Y) cQs ?_)
 refine ox 8 Y Y (bDm [] dFv Y (aFz encI 12 cGj _) V B1 J (@length_append _ x.code [i]).symm (λhn b hb=>cZl (r:=(⟨vc,92,12,x.code.length,x.code.flatMap encI⟩:bA)) hn hb) cFh.h (List.flatMap_append (f:=encI)).symm λw6=>?_)
 all_goals
  refine ox 15 Y Y (bDm [_] cLa Y Y V B1 J (@length_append _ x.sites [((s:Nat):Int)]).symm (λhn b hb=>cZl (r:=(⟨vs,3,1,x.sites.length,x.sites.map (λx=>AC.val (Value.int .i64 x))⟩:bA)) hn hb) cFh.h (List.map_append (f:=(λx=>AC.val (Value.int .i64 x))) (l₁:=x.sites) (l₂:=[((s:Nat):Int)])).symm λw7=>?_)
  refine ax ?_
  refine id ?_
  refine tz [(16,true),(17,true),(18,false),(19,true),(20,true),(21,false)] 0 (go 7 ?_)
  refine ax (go 7 ?_)
  refine wyz Y (kV [] Y Y Y runUnderlying75) ?_
  refine wyz Y (qC) (go 4 ?_)
  exact ⟨.inr Y,_,⟨A++⟨D,77,[Vm gg,Vm gm,Vm gf,Vm gl,Vm gk,Vi (((x.put i s).locals:Nat):Int),.val w6,.val w7,Vi (((x.put i s).n:Nat):Int)]⟩::B,⟨w6,92,12,(x.put i s).code.length,(x.put i s).code.flatMap encI⟩::⟨w7,3,1,(x.put i s).sites.length,(x.put i s).sites.map λx=>Vi x⟩::rw⟩,aR Y (aCn (gQ (show (((x.code++[i]).length:Nat):Int)-1=_ by rw [length_append];simp only [length_cons,length_nil];omega)) (aF Y)),aA (.cons _ (.refl _)) (.refl _),Y,w6,w7,Y⟩
theorem cSy(A1 A B:List Box)(C D gg gm gf gk gl:Nat)(x:LS)(vc vs:Value)(rw:List bA)(b:Nat)(hb:b<x.code.length)(hc:x.code.length <= 100000000):aL prog 138 [nI b,pP C] (D::(aY vc++aY vs)) ⟨A1++⟨C,71,[.val (.pointer (some ⟨D,0,none⟩))]⟩::(A++⟨D,77,[Vm gg,Vm gm,Vm gf,Vm gl,Vm gk,nC x.locals,.val vc,.val vs,nC x.n]⟩::B),⟨vc,92,12,x.code.length,x.code.flatMap encI⟩::⟨vs,3,1,x.sites.length,x.sites.map λx=>Vi x⟩::rw⟩ λt s'=>t=.tup [] /\ ∃vc' vs',s'=⟨A1++⟨C,71,[.val (.pointer (some ⟨D,0,none⟩))]⟩::(A++⟨D,77,[Vm gg,Vm gm,Vm gf,Vm gl,Vm gk,Vi (((x.patch b).locals:Nat):Int),.val vc',.val vs',Vi (((x.patch b).n:Nat):Int)]⟩::B),⟨vc',92,12,(x.patch b).code.length,(x.patch b).code.flatMap encI⟩::⟨vs',3,1,(x.patch b).sites.length,(x.patch b).sites.map λx=>Vi x⟩::rw⟩:=by
 refine acX 15 func138 ?_
 have hjp:b<x.code.length:=hb
 refine aEw [] (show 0<x.code.length by omega) λg0 c0 hg0=>?_
 subst hg0
 refine dx [C,D] (tz [(0,true),(1,true),(2,true),(3,true),(4,true),(5,true),(6,true),(7,true),(8,true)] 4 (go 10 ?_))
 refine tx 9 Y (kV [] Y Y Y runUnderlying75) ?_
 refine tx 10 Y (dH (z:=12) b Y Y Y Y hjp runUnderlying75 sizeOf92) ?_
 refine tx 11 Y (id <|uX 1 (0+b*12+1) runUnderlying92 sizeOf3) ?_
 refine ox 12 Y Y (aO0 (r:=((x.patch b).code).flatMap encI) [] Y Y Y Y Y sizeOf3 Y (by rw [aFz encI 12 cGj];omega) (cHl hjp) Cq (λhn=>cZl (r:=(⟨(.slice (some ⟨g0,0,none⟩) x.code.length c0),92,12,x.code.length,x.code.flatMap encI⟩:bA)) hn Cq) ?_)
 refine ax ?_
 exact ⟨.inl Y,_,⟨A1++⟨C,71,[.val (.pointer (some ⟨D,0,none⟩))]⟩::(A++⟨D,77,[Vm gg,Vm gm,Vm gf,Vm gl,Vm gk,Vi (((x.patch b).locals:Nat):Int),.val (.slice (some ⟨g0,0,none⟩) x.code.length c0),.val vs,Vi (((x.patch b).n:Nat):Int)]⟩::B),⟨(.slice (some ⟨g0,0,none⟩) x.code.length c0),92,12,x.code.length,(x.patch b).code.flatMap encI⟩::⟨vs,3,1,x.sites.length,x.sites.map λx=>Vi x⟩::rw⟩,cH Y,aA (.refl _) (.refl _),Y,(.slice (some ⟨g0,0,none⟩) x.code.length c0),vs,by rw [cFp];rfl⟩
end
section
theorem cVb(l:List aJ)(k:Nat)(h:k<l.length):wtS l=wtS (l.take k)+(l[k].wt+wtS (l.drop (k+1))):=by
 have e:∀a b:List aJ,wtS (a++b)=wtS a+wtS b:=λa b=>by
  induction a with
  |nil=>rw [List.nil_append,wtS];omega
  |cons s a ih=>rw [List.cons_append,wtS,wtS,ih];omega
 conv=>lhs;rw [←List.take_append_drop k l,e,List.drop_eq_getElem_cons h,wtS]
theorem cR4{q:ES}{e:Nat}{s:Int}(h:(cFg q e s).1=0):q.1=0 /\ e=0:=by
 unfold cFg at h
 split at h
 ·rename_i h1;exact ⟨h1.1,h⟩
 rename_i h1
 refine ⟨h,?_⟩
 rcases Nat.eq_zero_or_pos e with h2|h2
 ·exact h2
 exact absurd ⟨h,J⟩ h1
theorem cUr{p:cK}{s:aJ}{x:LS}(h:(cFu p s x).q.1=0):x.q.1=0:=by
 unfold cFu at h
 split at h
 ·exact (cR4 h).1
 split at h
 ·exact (cR4 h).1
 split at h
 ·exact (cR4 h).1
 split at h
 ·exact (cR4 h).1
 split at h<;>exact (cR4 h).1
mutual
theorem cVa(p:cK):∀(s:aJ)(x:LS),(cFs p s x).q.1=0 -> x.q.1=0
 |.mk k name e r args t f,x,h=>by
  rw [cFs] at h
  split at h
  ·split at h
   ·exact (cR4 (cR6 p t (x.branch e) h)).1
   exact (cR4 (cR6 p t (x.branch e) (cR6 p f ((((x.branch e).back (cFe p t (x.branch e))).put (opI 7 .zero) x.n).patch x.code.length) h))).1
  split at h
  ·exact (cR4 (cR6 p t (x.branch e) h)).1
  exact cUr h
theorem cR6(p:cK):∀(l:List aJ)(x:LS),(cFe p l x).q.1=0 -> x.q.1=0
 |[],x,h=>by rw [cFe] at h;exact h
 |s::l,x,h=>by rw [cFe] at h;exact cVa p s x (cR6 p l _ h)
end
theorem cS8(p:cK):∀(a b:List aJ)(x:LS),cFe p (a++b) x=cFe p b (cFe p a x)
 |[],b,x=>by rw [List.nil_append,cFe]
 |s::a,b,x=>by rw [List.cons_append,cFe,cFe,cS8 p a b]
theorem cUv(p:cK)(l:List aJ)(x:LS)(k:Nat)(h:(cFe p l x).q.1=0):(cFe p (l.take k) x).q.1=0:=by
 have e:=cS8 p (l.take k) (l.drop k) x
 rw [List.take_append_drop] at e
 rw [e] at h;exact cR6 p _ _ h
structure NoE (p:cK) (s:aJ) (x:LS):Prop where
 var:s.kind=1 -> cFv x.ents s.name=0 /\ cFf x.ents s.expr=0
 set:s.kind=2 -> cGq x.ents s.name=0 /\ cFf x.ents s.expr=0
 call:s.kind=3∨s.kind=4 -> cFy p x.ents s=0
 lock:s.kind=5∨s.kind=6 -> cGo p x.ents s.ref=0
 cond:s.kind=7∨s.kind=8 -> cFf x.ents s.expr=0 /\ (cFe p s.thn (x.branch s.expr)).q.1=0
 els:s.kind=7 -> s.els.length≠0 -> (cFe p s.els (((cRs p s.thn (x.branch s.expr)).put (opI 7 .zero) x.n).patch x.code.length)).q.1=0
theorem cUh{p:cK}{s:aJ}{x:LS}(h:(cFs p s x).q.1=0):NoE p s x:=by
 rw [cFz] at h
 refine ⟨λhk=>?_,λhk=>?_,λhk=>?_,λhk=>?_,λhk=>?_,λhk hl=>?_⟩
 ·rw [if_neg J,if_neg J] at h
  unfold cFu at h;rw [if_pos hk] at h
  exact cR7 (cR4 h).2
 ·rw [if_neg J,if_neg J] at h
  unfold cFu at h;rw [if_neg J,if_pos hk] at h
  exact cR7 (cR4 h).2
 ·rw [if_neg J,if_neg J] at h
  unfold cFu at h;rw [if_neg J,if_neg J,if_pos hk] at h
  exact (cR4 h).2
 ·rw [if_neg J,if_neg J] at h
  unfold cFu at h;rw [if_neg J,if_neg J,if_neg J] at h
  by_cases h5:s.kind=5
  ·rw [if_pos h5] at h;exact (cR4 h).2
  rw [if_neg h5,if_pos J] at h;exact (cR4 h).2
 ·by_cases h7:s.kind=7
  ·rw [if_pos h7] at h
   by_cases hl:s.els.length=0
   ·rw [if_pos hl] at h
    exact ⟨(cR4 (cR6 p _ _ h)).2,h⟩
   rw [if_neg hl] at h
   have h1:=cR6 p _ _ h
   exact ⟨(cR4 (cR6 p _ (x.branch s.expr) h1)).2,h1⟩
  rw [if_neg h7,if_pos J] at h
  exact ⟨(cR4 (cR6 p _ _ h)).2,h⟩
 rw [if_pos hk,if_neg hl] at h;exact h
theorem cTq(p:cK)(s:aJ)(x:LS):(cFs p s x).ents=if s.kind=1 then x.ents++[⟨s.name,4,x.locals⟩] else x.ents:=by
 rw [cFz]
 by_cases h1:s.kind=1
 ·rw [if_neg J,if_neg J,if_pos h1]
  unfold cFu;rw [if_pos h1];rfl
 rw [if_neg h1]
 split
 ·split<;>rfl
 split
 ·rfl
 unfold cFu
 rw [if_neg h1]
 split
 ·rfl
 split
 ·rfl
 split
 ·rfl
 split<;>rfl
theorem cTj{l:List cFc}{e:cFc}{s:ByteArray}(h:cFa (l++[e]) s=none):cFa l s=none /\ e.name≠s:=by
 rw [cGu] at h
 rcases h1:cFa l s with _|v
 ·rw [h1] at h;dsimp only at h;split at h
  ·cases h
  exact ⟨Y,Dp⟩
 rw [h1] at h;cases h
theorem cUc{l:List cFc}{s:ByteArray}(h:cFv l s=0):cFa l s=none:=by
 unfold cFv at h
 rcases h1:cFa l s with _|v
 ·rfl
 rw [h1] at h;cases h
theorem cTv(p:cK):∀(l:List aJ)(x:LS),(cFe p l x).q.1=0 -> ∀s,((∃t,t∈l /\ t.kind=1 /\ t.name=s) -> cFa x.ents s=none) /\ ((¬∃t,t∈l /\ t.kind=1 /\ t.name=s) -> cFa (cFe p l x).ents s=cFa x.ents s)
 |[],x,_,s=>⟨λ⟨t,ht,_⟩=>(by cases ht),λ_=>by rw [cFe]⟩
 |a::l,x,h,s=>by
  rw [cFe] at h⊢
  obtain ⟨i1,i2⟩:=cTv p l (cFs p a x) h s
  have hn:=cUh (cR6 p l _ h)
  rw [cTq] at i1 i2
  refine ⟨λ⟨t,ht,hk,hs⟩=>?_,λhno=>?_⟩
  ·by_cases ha:a.kind=1 /\ a.name=s
   ·rw [←ha.2];exact cUc (hn.var ha.1).1
   have ht':t∈l:=by
    rcases mem_cons.1 ht with rfl|ht
    ·exact absurd ⟨hk,hs⟩ ha
    exact ht
   have h1:=i1 ⟨t,ht',hk,hs⟩
   split at h1
   ·exact (cTj h1).1
   exact h1
  rw [i2 (λ⟨t,ht,hk,hs⟩=>hno ⟨t,by simp [ht],hk,hs⟩)]
  split
  ·rename_i hk
   have hne:a.name≠s:=λhe=>hno ⟨a,G0,hk,he⟩
   rw [cGu]
   rcases cFa x.ents s with _|v
   ·show (if a.name=s then _ else none)=none
    rw [if_neg hne]
   rfl
  rfl
def cSe:List aJ -> Vis -> Vis
 |[],v=>v
 |s::l,v=>cSe l (if s.kind=1 then bZy v s.name else v)
theorem cT0:∀(l:List aJ)(s:aJ)(v:Vis),cSe (l++[s]) v=if s.kind=1 then bZy (cSe l v) s.name else cSe l v
 |[],s,v=>rfl
 |a::l,s,v=>by rw [List.cons_append,cSe,cSe,cT0 l s]
theorem cTw(l:List aJ)(k:Nat)(h:k<l.length)(v:Vis):cSe (l.take (k+1)) v=if l[k].kind=1 then bZy (cSe (l.take k) v) l[k].name else cSe (l.take k) v:=by
 rw [List.take_succ_eq_append_getElem h,cT0]
theorem cUo:∀(l:List aJ)(v:Vis),KN v -> KN (cSe l v)
 |[],_,h=>h
 |s::l,v,h=>by rw [cSe];exact cUo l _ (by split;exact h.del _;exact h)
theorem cTs:∀(l:List aJ)(v:Vis),KN v -> ∀s,((∃t,t∈l /\ t.kind=1 /\ t.name=s) -> bZu (cSe l v) s=none) /\ ((¬∃t,t∈l /\ t.kind=1 /\ t.name=s) -> bZu (cSe l v) s=bZu v s)
 |[],v,_,s=>⟨λ⟨t,ht,_⟩=>(by cases ht),λ_=>rfl⟩
 |a::l,v,hk,s=>by
  rw [cSe]
  obtain ⟨i1,i2⟩:=cTs l (if a.kind=1 then bZy v a.name else v) (by split;exact hk.del _;exact hk) s
  by_cases hin:∃t,t∈l /\ t.kind=1 /\ t.name=s
  ·exact ⟨λ_=>i1 hin,λhno=>absurd (by obtain ⟨t,h1,h2⟩:=hin;exact ⟨t,by simp [h1],h2⟩) hno⟩
  have h2:=i2 hin
  refine ⟨λ⟨t,ht,h3,h4⟩=>?_,λhno=>?_⟩
  ·rcases mem_cons.1 ht with rfl|ht
   ·rw [h2,if_pos h3,cD9 hk,if_pos h4]
   exact absurd ⟨t,ht,h3,h4⟩ hin
  rw [h2]
  split
  ·rename_i h3
   rw [cD9 hk,if_neg (λh4=>hno ⟨a,G0,h3,h4⟩)]
  rfl
theorem MR.var{gs ms fs lk lo:Vis}{l:List cFc}(m:MR gs ms fs lk lo l){s:ByteArray}(h:cFa l s=none)(n:Nat):MR gs ms fs lk (bZq lo s ((n:Nat):Int)) (l++[⟨s,4,n⟩]):=by
 refine ⟨λt=>?_,λt=>?_,λt v hv hk=>?_,λt v hv hk=>?_,λt v hv hk=>?_⟩
 ·rw [cBo,cGu,m.lo t]
  by_cases e:s=t
  ·subst e;rw [if_pos rfl,h];dsimp only;rw [if_pos rfl];rfl
  rw [if_neg e]
  rcases cFa l t with _|v
  ·dsimp only;rw [if_neg e]
  rfl
 ·rw [cGu,m.lk t]
  by_cases e:s=t
  ·subst e;rw [h];dsimp only;rw [if_pos rfl];rfl
  rcases cFa l t with _|v
  ·dsimp only;rw [if_neg e]
  rfl
 all_goals
  rw [cGu] at hv
  rcases h1:cFa l t with _|u
  ·rw [h1] at hv;dsimp only at hv;split at hv
   ·cases hv;cases hk
   cases hv
  rw [h1] at hv
  obtain rfl:=Option.some.inj hv
  first|exact m.gs t u h1 hk|exact m.ms t u h1 hk|exact m.fs t u h1 hk
theorem MR.block{gs ms fs lk lo lo':Vis}{p:cK}{l:List aJ}{x:LS}(m:MR gs ms fs lk lo x.ents)(m':MR gs ms fs lk lo' (cFe p l x).ents)(hk:KN lo')(hq:(cFe p l x).q.1=0):MR gs ms fs lk (cSe l lo') x.ents:=by
 refine ⟨λs=>?_,m.lk,m.gs,m.ms,m.fs⟩
 obtain ⟨d1,d2⟩:=cTs l lo' hk s
 obtain ⟨f1,f2⟩:=cTv p l x hq s
 by_cases h:∃t,t∈l /\ t.kind=1 /\ t.name=s
 ·rw [d1 h,f1 h]
 rw [d2 h,m'.lo s,f2 h]
mutual
def knS:aJ -> Prop
 |.mk k _ _ _ _ t f=>(1 <= k /\ k <= 9) /\ cSh t /\ cSh f
def cSh:List aJ -> Prop
 |[]=>True
 |s::l=>knS s /\ cSh l
end
mutual
theorem cV9:∀(D:Nat)(s:aJ),bK9 D s=true -> knS s
 |D,.mk k name e r args t f,h=>by
  rw [bK9] at h
  simp only [Bool.and_eq_true,Bool.or_eq_true,decide_eq_true_eq] at h
  obtain ⟨⟨⟨⟨⟨⟨hk,-⟩,-⟩,-⟩,-⟩,-⟩,ht⟩:=h.1
  have hf:=h.2
  rw [knS]
  refine ⟨hk,?_,?_⟩
  ·by_cases h7:k=7∨k=8
   ·rw [if_pos h7] at ht;exact cT4 (D+1) t ht
   rw [if_neg h7] at ht
   obtain rfl:t=[]:=List.length_eq_zero_iff.1 (of_decide_eq_true ht)
   rw [cSh];trivial
  rcases hf with hf|⟨-,hf⟩
  ·obtain rfl:f=[]:=List.length_eq_zero_iff.1 hf
   rw [cSh];trivial
  exact cT4 (D+1) f hf
theorem cT4:∀(D:Nat)(l:List aJ),bM D l=true -> cSh l
 |D,[],_=>by rw [cSh];trivial
 |D,s::l,h=>by
  rw [bM,Bool.and_eq_true] at h
  rw [cSh];exact ⟨cV9 D s h.1,cT4 D l h.2⟩
end
theorem cS1{s:aJ}(h:knS s):(1 <= s.kind /\ s.kind <= 9) /\ cSh s.thn /\ cSh s.els:=by
 cases s;rw [knS] at h;exact h
theorem cT9:∀(l:List aJ),cSh l -> ∀k (h:k<l.length),knS l[k]
 |s::l,hs,0,_=>by rw [cSh] at hs;exact hs.1
 |s::l,hs,k+1,h=>by rw [cSh] at hs;exact cT9 l hs.2 k Er
end
section
open Go.RowKit
structure MW4 (gg gm gf gk:Nat) (gs ms fs lk:Vis) (rw:List bA):Prop where
 gg:cR3 gg 0 evI gs∈rw
 gm:cR3 gm 0 evI ms∈rw
 gf:cR3 gf 0 evI fs∈rw
 gk:cR3 gk 0 evI lk∈rw
theorem MW4.mw{gg gm gf gk gl:Nat}{gs ms fs lk lo:Vis}{rw:List bA}(h:MW4 gg gm gf gk gs ms fs lk rw):MW gg gm gf gk gl gs ms fs lk lo (cR3 gl 0 evI lo::rw):=⟨by simp [h.gg],by simp [h.gm],by simp [h.gf],by simp [h.gk],G0⟩
theorem cR9(g:Nat):aY (bWn g)=[g]:=rfl
section
variable {P:Program}{U T:List Nat}{o:Oper}{n d:Nat}{ts:List (Nat×AT)}{K:AS -> Prop}{F:FuncId}{ars:Array Operand}{tys:Array TypeId}{us:List AT}{A B:List Box}{X gl:Nat}{E E1 E2:TypeId}{cs:List AC}{cs':Value -> Value -> List AC}{vc vs:Value}{z1 z2 k1 k2 k1' k2':Nat}{r1 r2 r1' r2':List AC}{rw:List bA}{r:AT}{lo:Vis}{Pr:Vis -> Prop}
theorem cU1(ho:o.op=.call {callee:=.value (.func F),args:=ars,argTypes:=tys})(hd:o.dst=some d)(hn:d<n)(hcf:∀args w,(callFunc F args).run P w=.ok (.enter F args) w)
  (has:ars.toList.map (evA ⟨n,T,⟨A++⟨X,E,cs⟩::B,⟨vc,E1,z1,k1,r1⟩::⟨vs,E2,z2,k2,r2⟩::cR3 gl 0 evI lo::rw⟩,ts⟩)=us.map some)
  (hc:aL P F us (X::gl::(aY vc++aY vs)) ⟨A++⟨X,E,cs⟩::B,⟨vc,E1,z1,k1,r1⟩::⟨vs,E2,z2,k2,r2⟩::cR3 gl 0 evI lo::rw⟩ λt s'=>t=r /\ ∃vc' vs' lo',Pr lo' /\ s'=⟨A++⟨X,E,cs' vc' vs'⟩::B,⟨vc',E1,z1,k1',r1'⟩::⟨vs',E2,z2,k2',r2'⟩::cR3 gl 0 evI lo'::rw⟩)
  (hX:X∈T) (hg:gl∈T) (hv1:∀b,b∈aY vc -> b∈T) (hv2:∀b,b∈aY vs -> b∈T)
  (hU:(⟨A++⟨X,E,cs⟩::B,⟨vc,E1,z1,k1,r1⟩::⟨vs,E2,z2,k2,r2⟩::cR3 gl 0 evI lo::rw⟩:Sto).bl.Nodup -> X∈U /\ gl∈U /\ (∀b,b∈aY vc -> b∈U) /\ ∀b,b∈aY vs -> b∈U)
  (h:∀vc' vs' lo',Pr lo' -> K ⟨n,(aY vc'++aY vs')++T,⟨A++⟨X,E,cs' vc' vs'⟩::B,⟨vc',E1,z1,k1',r1'⟩::⟨vs',E2,z2,k2',r2'⟩::cR3 gl 0 evI lo'::rw⟩,(d,r)::ts⟩):
  AO P U o ⟨n,T,⟨A++⟨X,E,cs⟩::B,⟨vc,E1,z1,k1,r1⟩::⟨vs,E2,z2,k2,r2⟩::cR3 gl 0 evI lo::rw⟩,ts⟩ K:=by
 refine aQk (X::gl::(aY vc++aY vs)) ho hd hn hcf has hc (λb hb=>?_) (λb hb=>?_) (λhn b hb=>?_) ?_
 ·simp only [mem_cons,mem_append] at hb
  rcases hb with rfl|rfl|hb|hb
  ·exact hX
  ·exact hg
  ·exact hv1 b hb
  exact hv2 b hb
 ·simp only [mem_cons,mem_append] at hb
  unfold Sto.bl
  rcases hb with rfl|rfl|hb|hb
  ·simp
  ·simp [cR9]
  ·simp [hb]
  simp [hb]
 ·simp only [mem_cons,mem_append] at hb
  obtain ⟨u1,u0,u2,u3⟩:=hU hn
  rcases hb with rfl|rfl|hb|hb
  ·exact u1
  ·exact u0
  ·exact u2 b hb
  exact u3 b hb
 rintro _ _ ⟨rfl,vc',vs',lo',hp,rfl⟩
 refine ⟨aY vc'++aY vs',λhn b hb=>⟨?_,λh9=>?_⟩,h vc' vs' lo' hp⟩
 ·unfold Sto.bl
  rcases mem_append.1 hb with hb|hb<;>simp [hb]
 have h8:=aJ2 (bx:=A++⟨X,E,cs⟩::B) (bx':=A++⟨X,E,cs' vc' vs'⟩::B) (rs:=[⟨vc,E1,z1,k1,r1⟩,⟨vs,E2,z2,k2,r2⟩,cR3 gl 0 evI lo]) (rs':=[⟨vc',E1,z1,k1',r1'⟩,⟨vs',E2,z2,k2',r2'⟩,cR3 gl 0 evI lo']) (rw:=rw) (b:=b) G0 hn (by rcases mem_append.1 hb with hb|hb<;>simp [hb]) h9
 simp only [List.flatMap_cons,List.flatMap_nil,List.append_nil,mem_append,cR9,List.mem_singleton] at h8
 rcases h8 with h8|h8|rfl
 ·exact hv1 b h8
 ·exact hv2 b h8
 exact hg
theorem cVk{y:Operand}{fst cap:Array Value}(ho:o.op=.call {callee:=.value y,args:=ars,argTypes:=tys})(hx:evA ⟨n,T,⟨A++⟨X,E,cs⟩::B,⟨vc,E1,z1,k1,r1⟩::⟨vs,E2,z2,k2,r2⟩::rw⟩,ts⟩ y=some (Cv (.func (.func F) fst cap)))(hd:o.dst=some d)(hn:d<n)(hcf:∀args w,(callFunc F args).run P w=.ok (.enter F args) w)
  (has:ars.toList.map (evA ⟨n,T,⟨A++⟨X,E,cs⟩::B,⟨vc,E1,z1,k1,r1⟩::⟨vs,E2,z2,k2,r2⟩::rw⟩,ts⟩)=us.map some)
  (hc:aL P F (fst.toList.map cst++us++cap.toList.map cst) (X::(aY vc++aY vs)) ⟨A++⟨X,E,cs⟩::B,⟨vc,E1,z1,k1,r1⟩::⟨vs,E2,z2,k2,r2⟩::rw⟩ λt s'=>t=r /\ ∃vc' vs',s'=⟨A++⟨X,E,cs' vc' vs'⟩::B,⟨vc',E1,z1,k1',r1'⟩::⟨vs',E2,z2,k2',r2'⟩::rw⟩)
  (hX:X∈T) (hv1:∀b,b∈aY vc -> b∈T) (hv2:∀b,b∈aY vs -> b∈T)
  (hU:(⟨A++⟨X,E,cs⟩::B,⟨vc,E1,z1,k1,r1⟩::⟨vs,E2,z2,k2,r2⟩::rw⟩:Sto).bl.Nodup -> X∈U /\ (∀b,b∈aY vc -> b∈U) /\ ∀b,b∈aY vs -> b∈U)
  (h:∀vc' vs',K ⟨n,(aY vc'++aY vs')++T,⟨A++⟨X,E,cs' vc' vs'⟩::B,⟨vc',E1,z1,k1',r1'⟩::⟨vs',E2,z2,k2',r2'⟩::rw⟩,(d,r)::ts⟩):
  AO P U o ⟨n,T,⟨A++⟨X,E,cs⟩::B,⟨vc,E1,z1,k1,r1⟩::⟨vs,E2,z2,k2,r2⟩::rw⟩,ts⟩ K:=by
 refine rL (X::(aY vc++aY vs)) ho hx hd hn hcf has hc (λb hb=>?_) (λb hb=>?_) (λhn b hb=>?_) ?_
 ·simp only [mem_cons,mem_append] at hb
  rcases hb with rfl|hb|hb
  ·exact hX
  ·exact hv1 b hb
  exact hv2 b hb
 ·simp only [mem_cons,mem_append] at hb
  unfold Sto.bl
  rcases hb with rfl|hb|hb
  ·simp
  ·simp [hb]
  simp [hb]
 ·simp only [mem_cons,mem_append] at hb
  obtain ⟨u1,u2,u3⟩:=hU hn
  rcases hb with rfl|hb|hb
  ·exact u1
  ·exact u2 b hb
  exact u3 b hb
 rintro _ _ ⟨rfl,vc',vs',rfl⟩
 refine ⟨aY vc'++aY vs',λhn b hb=>⟨?_,λh9=>?_⟩,h vc' vs'⟩
 ·unfold Sto.bl
  rcases mem_append.1 hb with hb|hb<;>simp [hb]
 have h8:=aJ2 (bx:=A++⟨X,E,cs⟩::B) (bx':=A++⟨X,E,cs' vc' vs'⟩::B) (rs:=[⟨vc,E1,z1,k1,r1⟩,⟨vs,E2,z2,k2,r2⟩]) (rs':=[⟨vc',E1,z1,k1',r1'⟩,⟨vs',E2,z2,k2',r2'⟩]) (rw:=rw) (b:=b) G0 hn GM h9
 simp only [List.flatMap_cons,List.flatMap_nil,List.append_nil,mem_append] at h8
 rcases h8 with h8|h8
 ·exact hv1 b h8
 exact hv2 b h8
end
theorem cVj(s:aJ)(ihT:∀(A B:List Box)(D gg gm gf gk gl:Nat)(p:cK)(x:LS)(gs ms fs lk lo:Vis)(vc vs:Value)(rw:List bA)(hM:MR gs ms fs lk lo x.ents)(hW:MW4 gg gm gf gk gs ms fs lk rw)(hK:KN lo),RmL p x (wtS s.thn) -> (cFe p s.thn x).q.1=0 -> aL prog 51 [pP D,.c (Sq encS s.thn)] (D::gl::(aY vc++aY vs)) ⟨A++⟨D,77,[Vm gg,Vm gm,Vm gf,Vm gl,Vm gk,nC x.locals,.val vc,.val vs,nC x.n]⟩::B,⟨vc,92,12,x.code.length,x.code.flatMap encI⟩::⟨vs,3,1,x.sites.length,x.sites.map λx=>Vi x⟩::cR3 gl 0 evI lo::rw⟩ λt s'=>t=.tup [] /\ ∃vc' vs' lo',(MR gs ms fs lk lo' x.ents /\ KN lo') /\ s'=⟨A++⟨D,77,[Vm gg,Vm gm,Vm gf,Vm gl,Vm gk,Vi (((cRs p s.thn x).locals:Nat):Int),.val vc',.val vs',Vi (((cRs p s.thn x).n:Nat):Int)]⟩::B,⟨vc',92,12,(cRs p s.thn x).code.length,(cRs p s.thn x).code.flatMap encI⟩::⟨vs',3,1,(cRs p s.thn x).sites.length,(cRs p s.thn x).sites.map λx=>Vi x⟩::cR3 gl 0 evI lo'::rw⟩)(ihE:∀(A B:List Box)(D gg gm gf gk gl:Nat)(p:cK)(x:LS)(gs ms fs lk lo:Vis)(vc vs:Value)(rw:List bA)(hM:MR gs ms fs lk lo x.ents)(hW:MW4 gg gm gf gk gs ms fs lk rw)(hK:KN lo),RmL p x (wtS s.els) -> (cFe p s.els x).q.1=0 -> aL prog 51 [pP D,.c (Sq encS s.els)] (D::gl::(aY vc++aY vs)) ⟨A++⟨D,77,[Vm gg,Vm gm,Vm gf,Vm gl,Vm gk,nC x.locals,.val vc,.val vs,nC x.n]⟩::B,⟨vc,92,12,x.code.length,x.code.flatMap encI⟩::⟨vs,3,1,x.sites.length,x.sites.map λx=>Vi x⟩::cR3 gl 0 evI lo::rw⟩ λt s'=>t=.tup [] /\ ∃vc' vs' lo',(MR gs ms fs lk lo' x.ents /\ KN lo') /\ s'=⟨A++⟨D,77,[Vm gg,Vm gm,Vm gf,Vm gl,Vm gk,Vi (((cRs p s.els x).locals:Nat):Int),.val vc',.val vs',Vi (((cRs p s.els x).n:Nat):Int)]⟩::B,⟨vc',92,12,(cRs p s.els x).code.length,(cRs p s.els x).code.flatMap encI⟩::⟨vs',3,1,(cRs p s.els x).sites.length,(cRs p s.els x).sites.map λx=>Vi x⟩::cR3 gl 0 evI lo'::rw⟩)(A B:List Box)(D gg gm gf gk gl:Nat)(p:cK)(x:LS)(gs ms fs lk lo:Vis)(vc vs:Value)(rw:List bA)(hM:MR gs ms fs lk lo x.ents)(hW:MW4 gg gm gf gk gs ms fs lk rw)(hK:KN lo)(h7:s.kind=7∨s.kind=8)(hok:RmL p x s.wt)(hq:(cFs p s x).q.1=0):aL prog 112 [pP D,nI x.n,.agg (dG s)] (D::gl::(aY vc++aY vs)) ⟨A++⟨D,77,[Vm gg,Vm gm,Vm gf,Vm gl,Vm gk,Vi (((x.beg (cFf x.ents s.expr)).locals:Nat):Int),.val vc,.val vs,Vi (((x.beg (cFf x.ents s.expr)).n:Nat):Int)]⟩::B,⟨vc,92,12,(x.beg (cFf x.ents s.expr)).code.length,(x.beg (cFf x.ents s.expr)).code.flatMap encI⟩::⟨vs,3,1,(x.beg (cFf x.ents s.expr)).sites.length,(x.beg (cFf x.ents s.expr)).sites.map λx=>Vi x⟩::cR3 gl 0 evI lo::rw⟩ λt s'=>t=.tup [] /\ ∃vc' vs' lo',(MR gs ms fs lk lo' x.ents /\ KN lo') /\ s'=⟨A++⟨D,77,[Vm gg,Vm gm,Vm gf,Vm gl,Vm gk,Vi (((cFs p s x).locals:Nat):Int),.val vc',.val vs',Vi (((cFs p s x).n:Nat):Int)]⟩::B,⟨vc',92,12,(cFs p s x).code.length,(cFs p s x).code.flatMap encI⟩::⟨vs',3,1,(cFs p s x).sites.length,(cFs p s x).sites.map λx=>Vi x⟩::cR3 gl 0 evI lo'::rw⟩:=by
 have hne:=cUh hq
 have hno:=hne.cond h7
 have hwp:=gD s
 have hxc:=hok.code
 have hxn:=hok.n
 refine acX 56 func112 ?_
 refine go 7 λb1 b2=>?_
 refine dx [b2,b1] (tz [(0,true),(1,true),(2,true),(3,true),(4,true)] 4 (go 6 ?_))
 refine ox 5 Y Y (bV Y Y V call108 Y (cSj _ s.expr (Nat.le_refl _) J (_::_::A) B D gg gm gf gk gl p x.ents gs ms fs lk lo _ _ _ _ _ hM hW.mw.cons.cons hno.1) ?_)
 rintro _ _ ⟨rfl,rfl⟩
 refine tz [(6,true)] 2 (go 2 ?_)
 refine cJ4 15 Y ((Wk.agg (.r (.r (.r (.r (.r (.r (.r (.r (.r (.n (.n (.n .nil))))))))))))):Wk _ (.agg (encI (opI 6 (cFk x.ents s.expr))))) ?_
 have hz3:(x.beg (cFf x.ents s.expr)).code.length <= 100000000 /\ (x.beg (cFf x.ents s.expr)).sites.length=(x.beg (cFf x.ents s.expr)).code.length:=⟨G5,hok.sites⟩
 refine ox 7 Y Y (wcL Y Y V call52 Y (cSa (_::_::A) B D gg gm gf gk gl (x.beg (cFf x.ents s.expr)) vc vs _ (opI 6 (cFk x.ents s.expr)) x.n hz3.1 hz3.2) G0 cFh.h cFh.h (λh=>⟨kH.2 ⟨C4,λhh=>by simp only [mem_cons,not_mem_nil,or_false] at hh;rcases hh with rfl|rfl<;>simp [Sto.bl] at h⟩,λb hb=>cZl (r:=(⟨vc,92,12,(x.beg (cFf x.ents s.expr)).code.length,(x.beg (cFf x.ents s.expr)).code.flatMap encI⟩:bA)) h hb,λb hb=>cZl (r:=(⟨vs,3,1,(x.beg (cFf x.ents s.expr)).sites.length,(x.beg (cFf x.ents s.expr)).sites.map λx=>.val (.int .i64 x)⟩:bA)) h hb⟩) λvc3 vs3=>?_)
 refine tz [(8,true)] 0 (go 2 ?_)
 refine ax (go 3 ?_)
 refine wyz Y (xR (vs:=[.pointer (some ⟨b1,0,none⟩)]) Y Y) (go 8 ?_)
 have hbr:=(hok.mono J:RmL p x ((wtS s.thn+wtS s.els)+1)).branch s.expr
 have hth:=cH2 p s.thn (x.branch s.expr) (wtS s.els) hbr.1
 have hge:x.code.length+1 <= (cRs p s.thn (x.branch s.expr)).code.length:=by have h1:=cGs p s.thn (x.branch s.expr);have h2:(x.branch s.expr).code.length=x.code.length+1:=cF1 _ _;show _ <= (cFe p s.thn (x.branch s.expr)).code.length;omega
 have hle:(cRs p s.thn (x.branch s.expr)).code.length+2+3*wtS s.els <= 100000000:=by have h1:=cGa p s.thn (x.branch s.expr);have h2:=hbr.2;show (cFe p s.thn (x.branch s.expr)).code.length+2+3*wtS s.els <= _;omega
 refine wo Y (cU1 Y Y V call51 Y (ihT (_::_::A) B D gg gm gf gk gl p (x.branch s.expr) gs ms fs lk lo vc3 vs3 _ hM hW hK (hbr.1.mono J) hno.2) G0 G0 cFh.h cFh.h G8 λvc4 vs4 lo4 hp4=>?_)
 refine go 7 ?_
 by_cases h1:s.kind=8
 ·refine wcp true Y (eR h1) (go 10 ?_)
  refine eA 32 Y ((Wk.agg (.r (.r (.r (.r (.r (.r (.n (.r (.r (.n (.n (.n .nil))))))))))))):Wk _ (.agg (encI (⟨7,x.code.length,false,.zero,plZ,[],[]⟩)))) ?_
  have hz5:(cRs p s.thn (x.branch s.expr)).code.length <= 100000000 /\ (cRs p s.thn (x.branch s.expr)).sites.length=(cRs p s.thn (x.branch s.expr)).code.length:=⟨(by have:=hth.code;omega),hth.sites⟩
  refine wo Y (wcL Y Y V call52 Y (cSa (_::_::A) B D gg gm gf gk gl (cRs p s.thn (x.branch s.expr)) vc4 vs4 _ (⟨7,x.code.length,false,.zero,plZ,[],[]⟩) x.n hz5.1 hz5.2) G0 cFh.h cFh.h Bj λvc5 vs5=>?_)
  refine go 5 ?_
  have hc6:((cRs p s.thn (x.branch s.expr)).put ⟨7,x.code.length,false,.zero,plZ,[],[]⟩ x.n).code.length <= 100000000:=GX
  refine wo Y (cVk Y Y Y V call138 (us:=[nI x.code.length]) Y (cSy [⟨b2,120,[Vi s.kind,Vs s.name,Vi s.expr.op,Vi s.expr.num,Vs s.expr.name,Sq fO s.expr.args,Vs s.ref.name,Sq fO s.ref.index,Sq eJ s.args,Sq encS s.thn,Sq encS s.els]⟩] A B b1 D gg gm gf gk gl ((cRs p s.thn (x.branch s.expr)).put ⟨7,x.code.length,false,.zero,plZ,[],[]⟩ x.n) vc5 vs5 _ x.code.length (by rw [cF1];omega) hc6) G0 cFh.h cFh.h Bj λvc6 vs6=>?_)
  refine go 2 ?_
  have hst:cFs p s x=(((cRs p s.thn (x.branch s.expr)).put ⟨7,x.code.length,false,.zero,plZ,[],[]⟩ x.n).patch x.code.length):=by rw [cFz,if_neg J,if_pos J]<;>rfl
  rw [hst]
  exact ⟨.inl Y,_,⟨A++⟨D,77,[Vm gg,Vm gm,Vm gf,Vm gl,Vm gk,Vi (((((cRs p s.thn (x.branch s.expr)).put ⟨7,x.code.length,false,.zero,plZ,[],[]⟩ x.n).patch x.code.length).locals:Nat):Int),.val vc6,.val vs6,Vi (((((cRs p s.thn (x.branch s.expr)).put ⟨7,x.code.length,false,.zero,plZ,[],[]⟩ x.n).patch x.code.length).n:Nat):Int)]⟩::B,⟨vc6,92,12,(((cRs p s.thn (x.branch s.expr)).put ⟨7,x.code.length,false,.zero,plZ,[],[]⟩ x.n).patch x.code.length).code.length,(((cRs p s.thn (x.branch s.expr)).put ⟨7,x.code.length,false,.zero,plZ,[],[]⟩ x.n).patch x.code.length).code.flatMap encI⟩::⟨vs6,3,1,(((cRs p s.thn (x.branch s.expr)).put ⟨7,x.code.length,false,.zero,plZ,[],[]⟩ x.n).patch x.code.length).sites.length,(((cRs p s.thn (x.branch s.expr)).put ⟨7,x.code.length,false,.zero,plZ,[],[]⟩ x.n).patch x.code.length).sites.map λx=>Vi x⟩::cR3 gl 0 evI lo4::rw⟩,cH Y,aA (.cons _ (.cons _ (.refl _))) (.refl _),Y,vc6,vs6,lo4,⟨hp4.1,hp4.2⟩,Y⟩
 refine wcp false Y (eD h1) (go 9 ?_)
 by_cases h4:(0:Int)<((s.els.length:Nat):Int)
 ·refine wcp true Y (mH h4) (go 9 ?_)
  refine eA 44 Y ((Wk.agg (.r (.r (.r (.r (.r (.r (.n (.r (.r (.n (.n (.n .nil))))))))))))):Wk _ (.agg (encI (opI 7 .zero)))) ?_
  have hz7:(cRs p s.thn (x.branch s.expr)).code.length <= 100000000 /\ (cRs p s.thn (x.branch s.expr)).sites.length=(cRs p s.thn (x.branch s.expr)).code.length:=⟨(by have:=hth.code;omega),hth.sites⟩
  refine wo Y (wcL Y Y V call52 Y (cSa (_::_::A) B D gg gm gf gk gl (cRs p s.thn (x.branch s.expr)) vc4 vs4 _ (opI 7 .zero) x.n hz7.1 hz7.2) G0 cFh.h cFh.h Bj λvc7 vs7=>?_)
  refine go 7 ?_
  have hc8:((cRs p s.thn (x.branch s.expr)).put (opI 7 .zero) x.n).code.length <= 100000000:=GX
  refine wo Y (cVk Y Y Y V call138 (us:=[nI x.code.length]) Y (cSy [⟨b2,120,[Vi s.kind,Vs s.name,Vi s.expr.op,Vi s.expr.num,Vs s.expr.name,Sq fO s.expr.args,Vs s.ref.name,Sq fO s.ref.index,Sq eJ s.args,Sq encS s.thn,Sq encS s.els]⟩] A B b1 D gg gm gf gk gl ((cRs p s.thn (x.branch s.expr)).put (opI 7 .zero) x.n) vc7 vs7 _ x.code.length (by rw [cF1];omega) hc8) G0 cFh.h cFh.h Bj λvc8 vs8=>?_)
  refine go 7 ?_
  have hnoe:=hne.els J J
  have hzp:RmL p (((cRs p s.thn (x.branch s.expr)).put (opI 7 .zero) x.n).patch x.code.length) (wtS s.els):=(hth.put J _ _).patch _
  refine wo Y (cU1 Y Y V call51 Y (ihE (_::_::A) B D gg gm gf gk gl p (((cRs p s.thn (x.branch s.expr)).put (opI 7 .zero) x.n).patch x.code.length) gs ms fs lk lo4 vc8 vs8 _ hp4.1 hW hp4.2 hzp hnoe) G0 G0 cFh.h cFh.h G8 λvc9 vs9 lo9 hp9=>?_)
  refine go 5 ?_
  have hje:(cRs p s.thn (x.branch s.expr)).code.length<(cRs p s.els (((cRs p s.thn (x.branch s.expr)).put (opI 7 .zero) x.n).patch x.code.length)).code.length:=by have h1:=cGs p s.els (((cRs p s.thn (x.branch s.expr)).put (opI 7 .zero) x.n).patch x.code.length);rw [cFp,cF1] at h1;show _<(cFe p s.els (((cRs p s.thn (x.branch s.expr)).put (opI 7 .zero) x.n).patch x.code.length)).code.length;omega
  have hel:=cGr p s.els (((cRs p s.thn (x.branch s.expr)).put (opI 7 .zero) x.n).patch x.code.length) 0 (hzp.mono J)
  have hc10:(cRs p s.els (((cRs p s.thn (x.branch s.expr)).put (opI 7 .zero) x.n).patch x.code.length)).code.length <= 100000000:=by have:=hel.code;show (cFe p s.els (((cRs p s.thn (x.branch s.expr)).put (opI 7 .zero) x.n).patch x.code.length)).code.length <= _;omega
  refine wo Y (cVk Y Y Y V call138 (us:=[Ci (((cRs p s.thn (x.branch s.expr)).code.length:Nat):Int)]) Y (cSy [⟨b2,120,[Vi s.kind,Vs s.name,Vi s.expr.op,Vi s.expr.num,Vs s.expr.name,Sq fO s.expr.args,Vs s.ref.name,Sq fO s.ref.index,Sq eJ s.args,Sq encS s.thn,Sq encS s.els]⟩] A B b1 D gg gm gf gk gl (cRs p s.els (((cRs p s.thn (x.branch s.expr)).put (opI 7 .zero) x.n).patch x.code.length)) vc9 vs9 _ ((cRs p s.thn (x.branch s.expr)).code.length) hje hc10) G0 cFh.h cFh.h Bj λvc10 vs10=>?_)
  refine go 2 ?_
  have hst:cFs p s x=((cRs p s.els (((cRs p s.thn (x.branch s.expr)).put (opI 7 .zero) x.n).patch x.code.length)).patch ((cRs p s.thn (x.branch s.expr)).code.length)):=by rw [cFz,if_pos J,if_neg J]<;>rfl
  rw [hst]
  exact ⟨.inl Y,_,⟨A++⟨D,77,[Vm gg,Vm gm,Vm gf,Vm gl,Vm gk,Vi ((((cRs p s.els (((cRs p s.thn (x.branch s.expr)).put (opI 7 .zero) x.n).patch x.code.length)).patch ((cRs p s.thn (x.branch s.expr)).code.length)).locals:Nat):Int),.val vc10,.val vs10,Vi ((((cRs p s.els (((cRs p s.thn (x.branch s.expr)).put (opI 7 .zero) x.n).patch x.code.length)).patch ((cRs p s.thn (x.branch s.expr)).code.length)).n:Nat):Int)]⟩::B,⟨vc10,92,12,((cRs p s.els (((cRs p s.thn (x.branch s.expr)).put (opI 7 .zero) x.n).patch x.code.length)).patch ((cRs p s.thn (x.branch s.expr)).code.length)).code.length,((cRs p s.els (((cRs p s.thn (x.branch s.expr)).put (opI 7 .zero) x.n).patch x.code.length)).patch ((cRs p s.thn (x.branch s.expr)).code.length)).code.flatMap encI⟩::⟨vs10,3,1,((cRs p s.els (((cRs p s.thn (x.branch s.expr)).put (opI 7 .zero) x.n).patch x.code.length)).patch ((cRs p s.thn (x.branch s.expr)).code.length)).sites.length,((cRs p s.els (((cRs p s.thn (x.branch s.expr)).put (opI 7 .zero) x.n).patch x.code.length)).patch ((cRs p s.thn (x.branch s.expr)).code.length)).sites.map λx=>Vi x⟩::cR3 gl 0 evI lo9::rw⟩,cH Y,aA (.cons _ (.cons _ (.refl _))) (.refl _),Y,vc10,vs10,lo9,⟨hp9.1,hp9.2⟩,Y⟩
 refine wcp false Y (mI h4) (go 7 ?_)
 have hc11:(cRs p s.thn (x.branch s.expr)).code.length <= 100000000:=GX
 refine wo Y (cVk Y Y Y V call138 (us:=[nI x.code.length]) Y (cSy [⟨b2,120,[Vi s.kind,Vs s.name,Vi s.expr.op,Vi s.expr.num,Vs s.expr.name,Sq fO s.expr.args,Vs s.ref.name,Sq fO s.ref.index,Sq eJ s.args,Sq encS s.thn,Sq encS s.els]⟩] A B b1 D gg gm gf gk gl (cRs p s.thn (x.branch s.expr)) vc4 vs4 _ x.code.length J hc11) G0 cFh.h cFh.h Bj λvc11 vs11=>?_)
 refine go 2 ?_
 have hst:cFs p s x=((cRs p s.thn (x.branch s.expr)).patch x.code.length):=by rw [cFz,if_pos J,if_pos J]<;>rfl
 rw [hst]
 exact ⟨.inl Y,_,⟨A++⟨D,77,[Vm gg,Vm gm,Vm gf,Vm gl,Vm gk,Vi ((((cRs p s.thn (x.branch s.expr)).patch x.code.length).locals:Nat):Int),.val vc11,.val vs11,Vi ((((cRs p s.thn (x.branch s.expr)).patch x.code.length).n:Nat):Int)]⟩::B,⟨vc11,92,12,((cRs p s.thn (x.branch s.expr)).patch x.code.length).code.length,((cRs p s.thn (x.branch s.expr)).patch x.code.length).code.flatMap encI⟩::⟨vs11,3,1,((cRs p s.thn (x.branch s.expr)).patch x.code.length).sites.length,((cRs p s.thn (x.branch s.expr)).patch x.code.length).sites.map λx=>Vi x⟩::cR3 gl 0 evI lo4::rw⟩,cH Y,aA (.cons _ (.cons _ (.refl _))) (.refl _),Y,vc11,vs11,lo4,⟨hp4.1,hp4.2⟩,Y⟩
end
end Go.Proofs.YtjgeihmhppadaaaGreatDoor
