import Derived.Test.YtjgeihmhppadaaaGreatDoorG25J
set_option linter.all false
set_option synthInstance.maxHeartbeats 1000000
set_option synthInstance.maxSize 1000000
set_option maxHeartbeats 3200000
set_option maxRecDepth 100000
namespace Go.Proofs.YtjgeihmhppadaaaGreatDoor
open Go.Proofs.Tryz
open List (length_append length_cons length_nil mem_append mem_cons not_mem_nil append_assoc getElem_mem take_of_length_le)
section
open Go.RowKit
theorem bGw(bs:List UInt8)(s:Sto):aL prog 30 [.c (.sl bs.length (iF bs))] [] s λt s'=>t=.tup [.agg (jV (jM bs).1),Ci ((jM bs).2.1:Int),Ci ((jM bs).2.2:Int)] /\ s'=s:=by
 obtain ⟨bx,rw⟩:=s
 refine acX 146 func30 ?_
 refine go 10 λb1=>?_
 refine wo Y (bD [] Y Y V call58 Y (aLb bs _) bDl bDl (λ_=>bDl) ?_)
 rintro t1 s1 ⟨⟨l,hlx,rfl,hfew⟩|⟨p0,er,hlx,rfl,her⟩,rfl⟩
 ·have hok:=TOk.of hlx
  have hlen:=hok.len
  have hk:0<l.length:=hok.last.1
  have he:(0:Nat)<16:=V
  refine go 13 ?_
  refine wcp false Y Fs (go 18 λP b3=>?_)
  refine qR 67 3 ?_
  refine qR 60 3 ?_
  refine qR 63 2 ?_
  refine fM (λg:cK×Value×Value×Value×Nat×Nat×Nat=>(⟨146,aY g.2.1++(aY g.2.2.1++(aY g.2.2.2.1++[b3,P,b1])),⟨⟨b3,27,[.val g.2.1,.val g.2.2.1,.val g.2.2.2.1]⟩::⟨P,144,[Sq aW l,Vi (((g.2.2.2.2.1):Nat):Int),Vi (((g.2.2.2.2.2.1):Nat):Int),Vi (((g.2.2.2.2.2.2):Nat):Int),nC 0,nC 0]⟩::⟨b1,27,[Nl,Nl,Nl]⟩::bx,⟨g.2.1,63,2,(g.1).globals.length,(g.1).globals.flatMap dB⟩::⟨g.2.2.1,60,3,(g.1).mutexes.length,(g.1).mutexes.flatMap bT⟩::⟨g.2.2.2.1,67,3,(g.1).funcs.length,(g.1).funcs.flatMap fV⟩::rw⟩,[(9,pP P),(8,pP b3),(6,Ci (bs.length:Int)),(5,.c (Sq aW l)),(2,pP b1)]⟩:AS)) (λg=>g.2.2.2.2.1<l.length /\ g.2.2.2.2.2.2<16 /\ (g.2.2.2.2.2.2=0 -> g.1.globals.length <= 16 /\ g.1.mutexes.length <= 12 /\ g.1.funcs.length <= 16) /\ (g.2.2.2.2.2.2≠0 -> kX 0 0 (fH l) g.1 g.2.2.2.2.1 g.2.2.2.2.2.1 g.2.2.2.2.2.2) /\ (g.2.2.2.2.2.2=0 -> g.2.2.2.2.2.1=0 /\ ∃n,l.length <= n+g.2.2.2.2.1 /\ ∀z k' b' e',kX 0 0 (lK l n g.1 g.2.2.2.2.1) z k' b' e' -> kX 0 0 (fH l) z k' b' e')) (λg=>if g.2.2.2.2.2.2=0 then l.length-g.2.2.2.2.1+1 else 0) (⟨[],[],[]⟩,.slice none 0 0,.slice none 0 0,.slice none 0 0,0,0,0) (cQf Cc) ⟨hk,he,λ_=>⟨Nat.zero_le _,Nat.zero_le _,Nat.zero_le _⟩,λh=>absurd Y h,λ_=>⟨Y,l.length,Nat.le_add_right _ _,λz k' b' e' h2=>h2⟩⟩ ?_
  rintro ⟨x0,vg,vm,vf,k0,b0,e0⟩ ⟨hk0,he0,ha0,hn0,hc0⟩
  dsimp only at hk0 he0 ha0 hn0 hc0
  show AWp prog _ (⟨146,aY vg++(aY vm++(aY vf++[b3,P,b1])),⟨⟨b3,27,[.val vg,.val vm,.val vf]⟩::⟨P,144,[Sq aW l,Vi (((k0):Nat):Int),Vi (((b0):Nat):Int),Vi (((e0):Nat):Int),nC 0,nC 0]⟩::⟨b1,27,[Nl,Nl,Nl]⟩::bx,⟨vg,63,2,(x0).globals.length,(x0).globals.flatMap dB⟩::⟨vm,60,3,(x0).mutexes.length,(x0).mutexes.flatMap bT⟩::⟨vf,67,3,(x0).funcs.length,(x0).funcs.flatMap fV⟩::rw⟩,[(9,pP P),(8,pP b3),(6,Ci (bs.length:Int)),(5,.c (Sq aW l)),(2,pP b1)]⟩:AS) _
  by_cases h0:e0=0
  ·subst h0
   obtain ⟨hl1,hl2,hl3⟩:=ha0 rfl
   obtain ⟨rfl,n0,hn1,hcont⟩:=hc0 rfl
   refine go 7 ?_
   refine wcp true Y Fs (go 2 ?_)
   refine wcQ Y call59 Y (bEv [_] _ _ _ l k0 0 0 0 0 5 hk0) ?_
   rintro t3 s3 (⟨-,ha3,rfl,rfl⟩|⟨ha3,rfl,rfl⟩)
   ·refine go 13 ?_
    obtain ⟨m,rfl⟩:∃m,n0=m+1:=⟨n0-1,J⟩
    have hfin:=hcont x0 k0 0 0 (by rw [lK,if_pos ha3];exact .ok _ _ _ rfl)
    have hgood:fH l=.ok x0 k0:=(hfin.good Y).2.1
    refine go 4 ?_
    refine wcp false Y Fs (go 7 ?_)
    refine aAg [] 0 Y Y ?_
    refine aAg [] 1 Y Y ?_
    refine aAg [] 2 Y Y ?_
    refine go 8 ?_
    exact ⟨.inr Y,_,⟨bx,rw⟩,(pC Y (aO [_,_] Y Y isAgg27 sizeOf27 (bK Y Y)) (aF Y) (aF Y)),aA (.cons _ (.cons _ (.cons _ (.refl _)))) (.refl _),by rw [pT hlx hgood];rfl,Y⟩
   refine go 10 ?_
   have hk5:¬(bU l k0).kind=5:=ha3 Y
   refine go 1 ?_
   refine wcQ Y call60 Y (bGf [_] _ _ _ l k0 0 0 0 0 [118,97,114] V hok hk0) ?_
   rintro t7 s7 (⟨-,ha7,rfl,rfl⟩|⟨ha7,rfl,rfl⟩)
   ·refine go 1 ?_
    refine wcQ Y call60 Y (bGf [_] _ _ _ l k0 0 0 0 0 [109,117,116,101,120] V hok hk0) ?_
    rintro t8 s8 (⟨-,ha8,rfl,rfl⟩|⟨ha8,rfl,rfl⟩)
    ·exact absurd (bGa ha8 ha7) V
    refine go 2 ?_
    refine wcQ Y call60 Y (bGf [_] _ _ _ l k0 0 0 0 0 [114,109,117,116,101,120] V hok hk0) ?_
    rintro t9 s9 (⟨-,ha9,rfl,rfl⟩|⟨ha9,rfl,rfl⟩)
    ·exact absurd (bGa ha9 ha7) V
    refine go 2 ?_
    refine wcQ Y call60 Y (bGf [_] _ _ _ l k0 0 0 0 0 [102,117,110,99] V hok hk0) ?_
    rintro t10 s10 (⟨-,ha10,rfl,rfl⟩|⟨ha10,rfl,rfl⟩)
    ·exact absurd (bGa ha10 ha7) V
    refine go 8 ?_
    by_cases hglobals:x0.globals.length=16
    ·refine go 4 ?_
     refine wyz Y (bF9 [] Y Y Y runUnderlying23) ?_
     refine wcp true Y (by rw [hglobals];rfl) (go 24 ?_)
     refine wcQ Y call61 Y (bEa [_] _ _ _ l k0 0 0 0 0 3) ?_
     rintro t12 s12 ⟨u12,e12,hf12,rfl,rfl⟩
     obtain ⟨rfl,rfl⟩:=hf12.1 rfl
     refine go 6 ?_
     refine wcQ Y call62 Y (bD2 [_] _ _ _ l k0 k0 3 0 0 [118,97,114] V hok hk0) ?_
     rintro t13 s13 (⟨hz13,-⟩|⟨ha13,rfl,rfl⟩)
     ·exact absurd hz13 V
     refine go 7 ?_
     refine wcQ Y call62 Y (bD2 [_] _ _ _ l k0 k0 3 0 0 [109,117,116,101,120] V hok hk0) ?_
     rintro t15 s15 (⟨hz15,-⟩|⟨ha15,rfl,rfl⟩)
     ·exact absurd hz15 V
     refine go 7 ?_
     refine wcQ Y call62 Y (bD2 [_] _ _ _ l k0 k0 3 0 0 [114,109,117,116,101,120] V hok hk0) ?_
     rintro t17 s17 (⟨hz17,-⟩|⟨ha17,rfl,rfl⟩)
     ·exact absurd hz17 V
     refine go 7 ?_
     refine wcQ Y call62 Y (bD2 [_] _ _ _ l k0 k0 3 0 0 [102,117,110,99] V hok hk0) ?_
     rintro t19 s19 (⟨hz19,-⟩|⟨ha19,rfl,rfl⟩)
     ·exact absurd hz19 V
     refine go 6 ?_
     refine wcQ Y call61 Y (bEa [_] _ _ _ l k0 k0 3 0 0 4) ?_
     rintro t21 s21 ⟨u21,e21,hf21,rfl,rfl⟩
     obtain ⟨rfl,rfl⟩:=hf21.2 V
     refine go 3 ?_
     obtain ⟨m,rfl⟩:∃m,n0=m+1:=⟨n0-1,J⟩
     have hel:kX 0 0 (gR l x0 k0) x0 k0 k0 3:=.err _ _ _ _ _ (by unfold gR;rw [if_pos ha7,if_pos J]) V
     have hst:∀z k' b' e',kX 3 k0 (lK l m x0 k0) z k' b' e' -> kX 0 0 (fH l) z k' b' e':=λz k' b' e' h=>hcont z k' b' e' Bi
     have hgo:3=0 -> k0<k0 /\ k0=0:=λh=>AB
     refine ⟨(x0,vg,vm,vf,k0,k0,3),⟨hk0,(show (3:Nat)<16 by decide),λh=>?_,λh=>hst _ _ _ _ (.skip h _ _ _),λh=>⟨(hgo h).2,m,?_,λz k' b' e' h2=>hst _ _ _ _ ?_⟩⟩,?_,cQf Dr⟩
     ·exact absurd h (show ¬(3:Nat)=0 by decide)
     ·have:=hgo h;show l.length <= m+k0;omega
     ·exact absurd h (show ¬(3:Nat)=0 by decide)
     show (if 3=0 then _ else _)<(if (0:Nat)=0 then _ else _)
     by_cases h:3=0
     ·have:=hgo h;rw [if_pos h,if_pos rfl];show l.length-k0+1<l.length-k0+1;omega
     rw [if_neg h,if_pos rfl];show 0<l.length-k0+1;omega
    refine go 4 ?_
    refine wyz Y (bF9 [] Y Y Y runUnderlying23) ?_
    refine wcp false Y (by rw [show bC .eql ((x0.globals.length:Nat):Int) 16=some (decide (x0.globals.length=16)) from jS (n:=16),decide_eq_false hglobals]) (go 28 ?_)
    refine wcQ Y call62 Y (bD2 [_] _ _ _ l k0 0 0 0 0 [118,97,114] V hok hk0) ?_
    rintro t23 s23 (⟨-,ha23,hm23,rfl,rfl⟩|⟨ha23,rfl,rfl⟩)
    ·refine go 4 ?_
     refine dx [] (tz [(0,true),(2,true)] 6 (go 3 ?_))
     refine t2 1 3 Y ?_ ?_
     focus
      refine way Y V (aX [] isAgg23 sizeOf23) ?_
      refine ox 3 Y Y (bD [P] Y Y V call63 Y (bGs [_] _ _ _ l (k0+1) 0 0 0 hok hm23 V) Gg FU AU ?_)
      rintro t25 s25 ⟨x27,k27,u27,e27,rfl,hr27,hk27,he27,rfl⟩
      refine ox 4 Y Y (bDk (hf:=aV dB dB x27 Y Y Y) bDs ?_)
     rotate_left
     focus
      refine (bD [P] Y Y V call63 Y (bGs [_] _ _ _ l (k0+1) 0 0 0 hok hm23 V) Gg FU AU ?_)
      rintro t27 s27 ⟨x27,k27,u27,e27,rfl,hr27,hk27,he27,rfl⟩
      refine t2 1 4 Y ?_ ?_
      focus
       refine way Y V (aX [] isAgg23 sizeOf23) ?_
       refine ox 4 Y Y (bDk (hf:=aV dB dB x27 Y Y Y) bDs ?_)
      rotate_left
      refine (bDk (hf:=aV dB dB x27 Y Y Y) bDs ?_)
      refine ox 1 Y Y (way Y V (aX [] isAgg23 sizeOf23) ?_)
     all_goals
      refine ox 5 Y Y (bDm [] bN3 Y Y V Bv C6 (@length_append _ x0.globals [x27]).symm Bf Bq (List.flatMap_append (f:=dB)).symm λv29=>?_)
      refine tz [(6,true),(7,false)] 0 (go 3 ?_)
      refine ax (go 2 ?_)
      obtain ⟨m,rfl⟩:∃m,n0=m+1:=⟨n0-1,J⟩
      have hel:kX 0 0 (gR l x0 k0) {x0 with globals:=x0.globals++[x27]} k27 u27 e27:=(hr27.map (f:=λg=>{x0 with globals:=x0.globals++[g]})).eq λ_=>by unfold gR;rw [if_pos ha7,if_neg J]
      have hst:∀z k' b' e',kX e27 u27 (lK l m {x0 with globals:=x0.globals++[x27]} k27) z k' b' e' -> kX 0 0 (fH l) z k' b' e':=λz k' b' e' h=>hcont z k' b' e' Bi
      have hgo:e27=0 -> k0<k27 /\ u27=0:=λh=>AB
      refine ⟨({x0 with globals:=x0.globals++[x27]},v29,vm,vf,k27,u27,e27),⟨hk27,he27,λh=>?_,λh=>hst _ _ _ _ (.skip h _ _ _),λh=>⟨(hgo h).2,m,?_,λz k' b' e' h2=>hst _ _ _ _ ?_⟩⟩,?_,cQf Dr⟩
      ·simp;omega
      ·have:=hgo h;show l.length <= m+k27;omega
      ·rw [show e27=0 from h,show u27=0 from (hgo h).2];exact h2
      show (if e27=0 then _ else _)<(if (0:Nat)=0 then _ else _)
      by_cases h:e27=0
      ·have:=hgo h;rw [if_pos h,if_pos rfl];show l.length-k27+1<l.length-k0+1;omega
      rw [if_neg h,if_pos rfl];show 0<l.length-k0+1;omega
    exact absurd (ha23 Y) (by rw [ha7];decide)
   refine go 1 ?_
   refine wcQ Y call60 Y (bGf [_] _ _ _ l k0 0 0 0 0 [109,117,116,101,120] V hok hk0) ?_
   rintro t30 s30 (⟨-,ha30,rfl,rfl⟩|⟨ha30,rfl,rfl⟩)
   ·refine go 5 ?_
    refine wcQ Y call60 Y (bGf [_] _ _ _ l k0 0 0 0 0 [102,117,110,99] V hok hk0) ?_
    rintro t31 s31 (⟨-,ha31,rfl,rfl⟩|⟨ha31,rfl,rfl⟩)
    ·exact absurd (bGa ha31 ha30) V
    refine go 9 ?_
    by_cases hmutexes:x0.mutexes.length=12
    ·refine go 11 ?_
     refine wyz Y (bF9 [_] Y Y Y runUnderlying24) ?_
     refine wcp true Y (by rw [hmutexes];rfl) (go 16 ?_)
     refine wcQ Y call61 Y (bEa [_] _ _ _ l k0 0 0 0 0 3) ?_
     rintro t33 s33 ⟨u33,e33,hf33,rfl,rfl⟩
     obtain ⟨rfl,rfl⟩:=hf33.1 rfl
     refine go 6 ?_
     refine wcQ Y call62 Y (bD2 [_] _ _ _ l k0 k0 3 0 0 [118,97,114] V hok hk0) ?_
     rintro t34 s34 (⟨hz34,-⟩|⟨ha34,rfl,rfl⟩)
     ·exact absurd hz34 V
     refine go 7 ?_
     refine wcQ Y call62 Y (bD2 [_] _ _ _ l k0 k0 3 0 0 [109,117,116,101,120] V hok hk0) ?_
     rintro t36 s36 (⟨hz36,-⟩|⟨ha36,rfl,rfl⟩)
     ·exact absurd hz36 V
     refine go 7 ?_
     refine wcQ Y call62 Y (bD2 [_] _ _ _ l k0 k0 3 0 0 [114,109,117,116,101,120] V hok hk0) ?_
     rintro t38 s38 (⟨hz38,-⟩|⟨ha38,rfl,rfl⟩)
     ·exact absurd hz38 V
     refine go 7 ?_
     refine wcQ Y call62 Y (bD2 [_] _ _ _ l k0 k0 3 0 0 [102,117,110,99] V hok hk0) ?_
     rintro t40 s40 (⟨hz40,-⟩|⟨ha40,rfl,rfl⟩)
     ·exact absurd hz40 V
     refine go 6 ?_
     refine wcQ Y call61 Y (bEa [_] _ _ _ l k0 k0 3 0 0 4) ?_
     rintro t42 s42 ⟨u42,e42,hf42,rfl,rfl⟩
     obtain ⟨rfl,rfl⟩:=hf42.2 V
     refine go 3 ?_
     obtain ⟨m,rfl⟩:∃m,n0=m+1:=⟨n0-1,J⟩
     have hel:kX 0 0 (gR l x0 k0) x0 k0 k0 3:=.err _ _ _ _ _ (by unfold gR;rw [if_neg Dj,if_pos ha30,if_pos J]) V
     have hst:∀z k' b' e',kX 3 k0 (lK l m x0 k0) z k' b' e' -> kX 0 0 (fH l) z k' b' e':=λz k' b' e' h=>hcont z k' b' e' Bi
     have hgo:3=0 -> k0<k0 /\ k0=0:=λh=>AB
     refine ⟨(x0,vg,vm,vf,k0,k0,3),⟨hk0,(show (3:Nat)<16 by decide),λh=>?_,λh=>hst _ _ _ _ (.skip h _ _ _),λh=>⟨(hgo h).2,m,?_,λz k' b' e' h2=>hst _ _ _ _ ?_⟩⟩,?_,cQf Dr⟩
     ·exact absurd h (show ¬(3:Nat)=0 by decide)
     ·have:=hgo h;show l.length <= m+k0;omega
     ·exact absurd h (show ¬(3:Nat)=0 by decide)
     show (if 3=0 then _ else _)<(if (0:Nat)=0 then _ else _)
     by_cases h:3=0
     ·have:=hgo h;rw [if_pos h,if_pos rfl];show l.length-k0+1<l.length-k0+1;omega
     rw [if_neg h,if_pos rfl];show 0<l.length-k0+1;omega
    refine go 11 ?_
    refine wyz Y (bF9 [_] Y Y Y runUnderlying24) ?_
    refine wcp false Y BC (go 20 ?_)
    refine wcQ Y call62 Y (bD2 [_] _ _ _ l k0 0 0 0 0 [118,97,114] V hok hk0) ?_
    rintro t44 s44 (⟨-,ha44,hm44,rfl,rfl⟩|⟨ha44,rfl,rfl⟩)
    ·exact absurd (bGa ha44 ha30) V
    refine go 7 ?_
    refine wcQ Y call62 Y (bD2 [_] _ _ _ l k0 0 0 0 0 [109,117,116,101,120] V hok hk0) ?_
    rintro t46 s46 (⟨-,ha46,hm46,rfl,rfl⟩|⟨ha46,rfl,rfl⟩)
    ·refine go 4 ?_
     refine dx [] (tz [(0,true),(2,true)] 6 (go 3 ?_))
     refine t2 1 3 Y ?_ ?_
     focus
      refine way Y V (aX [] isAgg24 sizeOf24) ?_
      refine ox 3 Y Y (bD [P] Y Y V call64 Y (bGj [_] _ _ _ l (k0+1) 0 0 0 hok hm46 V) Gg FU AU ?_)
      rintro t48 s48 ⟨x50,k50,u50,e50,rfl,hr50,hk50,he50,rfl⟩
      refine ox 4 Y Y (bDk (hf:=aV bT bT x50 Y Y Y) zb9 ?_)
     rotate_left
     focus
      refine (bD [P] Y Y V call64 Y (bGj [_] _ _ _ l (k0+1) 0 0 0 hok hm46 V) Gg FU AU ?_)
      rintro t50 s50 ⟨x50,k50,u50,e50,rfl,hr50,hk50,he50,rfl⟩
      refine t2 1 4 Y ?_ ?_
      focus
       refine way Y V (aX [] isAgg24 sizeOf24) ?_
       refine ox 4 Y Y (bDk (hf:=aV bT bT x50 Y Y Y) zb9 ?_)
      rotate_left
      refine (bDk (hf:=aV bT bT x50 Y Y Y) zb9 ?_)
      refine ox 1 Y Y (way Y V (aX [] isAgg24 sizeOf24) ?_)
     all_goals
      refine ox 5 Y Y (bDm [_] cKb Y Y V Bv C6 (@length_append _ x0.mutexes [x50]).symm Bf Bq (List.flatMap_append (f:=bT)).symm λv52=>?_)
      refine tz [(6,true),(7,false)] 0 (go 3 ?_)
      refine ax (go 2 ?_)
      obtain ⟨m,rfl⟩:∃m,n0=m+1:=⟨n0-1,J⟩
      have hel:kX 0 0 (gR l x0 k0) {x0 with mutexes:=x0.mutexes++[x50]} k50 u50 e50:=(hr50.map (f:=λg=>{x0 with mutexes:=x0.mutexes++[g]})).eq λ_=>by unfold gR;rw [if_neg Dj,if_pos ha30,if_neg J]
      have hst:∀z k' b' e',kX e50 u50 (lK l m {x0 with mutexes:=x0.mutexes++[x50]} k50) z k' b' e' -> kX 0 0 (fH l) z k' b' e':=λz k' b' e' h=>hcont z k' b' e' Bi
      have hgo:e50=0 -> k0<k50 /\ u50=0:=λh=>AB
      refine ⟨({x0 with mutexes:=x0.mutexes++[x50]},vg,v52,vf,k50,u50,e50),⟨hk50,he50,λh=>?_,λh=>hst _ _ _ _ (.skip h _ _ _),λh=>⟨(hgo h).2,m,?_,λz k' b' e' h2=>hst _ _ _ _ ?_⟩⟩,?_,cQf Dr⟩
      ·simp;omega
      ·have:=hgo h;show l.length <= m+k50;omega
      ·rw [show e50=0 from h,show u50=0 from (hgo h).2];exact h2
      show (if e50=0 then _ else _)<(if (0:Nat)=0 then _ else _)
      by_cases h:e50=0
      ·have:=hgo h;rw [if_pos h,if_pos rfl];show l.length-k50+1<l.length-k0+1;omega
      rw [if_neg h,if_pos rfl];show 0<l.length-k0+1;omega
    exact absurd (ha46 Y) (by rw [ha30];decide)
   refine go 2 ?_
   refine wcQ Y call60 Y (bGf [_] _ _ _ l k0 0 0 0 0 [114,109,117,116,101,120] V hok hk0) ?_
   rintro t53 s53 (⟨-,ha53,rfl,rfl⟩|⟨ha53,rfl,rfl⟩)
   ·refine go 2 ?_
    refine wcQ Y call60 Y (bGf [_] _ _ _ l k0 0 0 0 0 [102,117,110,99] V hok hk0) ?_
    rintro t54 s54 (⟨-,ha54,rfl,rfl⟩|⟨ha54,rfl,rfl⟩)
    ·exact absurd (bGa ha54 ha53) V
    refine go 9 ?_
    by_cases hmutexes:x0.mutexes.length=12
    ·refine go 11 ?_
     refine wyz Y (bF9 [_] Y Y Y runUnderlying24) ?_
     refine wcp true Y (by rw [hmutexes];rfl) (go 16 ?_)
     refine wcQ Y call61 Y (bEa [_] _ _ _ l k0 0 0 0 0 3) ?_
     rintro t56 s56 ⟨u56,e56,hf56,rfl,rfl⟩
     obtain ⟨rfl,rfl⟩:=hf56.1 rfl
     refine go 6 ?_
     refine wcQ Y call62 Y (bD2 [_] _ _ _ l k0 k0 3 0 0 [118,97,114] V hok hk0) ?_
     rintro t57 s57 (⟨hz57,-⟩|⟨ha57,rfl,rfl⟩)
     ·exact absurd hz57 V
     refine go 7 ?_
     refine wcQ Y call62 Y (bD2 [_] _ _ _ l k0 k0 3 0 0 [109,117,116,101,120] V hok hk0) ?_
     rintro t59 s59 (⟨hz59,-⟩|⟨ha59,rfl,rfl⟩)
     ·exact absurd hz59 V
     refine go 7 ?_
     refine wcQ Y call62 Y (bD2 [_] _ _ _ l k0 k0 3 0 0 [114,109,117,116,101,120] V hok hk0) ?_
     rintro t61 s61 (⟨hz61,-⟩|⟨ha61,rfl,rfl⟩)
     ·exact absurd hz61 V
     refine go 7 ?_
     refine wcQ Y call62 Y (bD2 [_] _ _ _ l k0 k0 3 0 0 [102,117,110,99] V hok hk0) ?_
     rintro t63 s63 (⟨hz63,-⟩|⟨ha63,rfl,rfl⟩)
     ·exact absurd hz63 V
     refine go 6 ?_
     refine wcQ Y call61 Y (bEa [_] _ _ _ l k0 k0 3 0 0 4) ?_
     rintro t65 s65 ⟨u65,e65,hf65,rfl,rfl⟩
     obtain ⟨rfl,rfl⟩:=hf65.2 V
     refine go 3 ?_
     obtain ⟨m,rfl⟩:∃m,n0=m+1:=⟨n0-1,J⟩
     have hel:kX 0 0 (gR l x0 k0) x0 k0 k0 3:=.err _ _ _ _ _ (by unfold gR;rw [if_neg Dj,if_neg DJ,if_pos ha53,if_pos J]) V
     have hst:∀z k' b' e',kX 3 k0 (lK l m x0 k0) z k' b' e' -> kX 0 0 (fH l) z k' b' e':=λz k' b' e' h=>hcont z k' b' e' Bi
     have hgo:3=0 -> k0<k0 /\ k0=0:=λh=>AB
     refine ⟨(x0,vg,vm,vf,k0,k0,3),⟨hk0,(show (3:Nat)<16 by decide),λh=>?_,λh=>hst _ _ _ _ (.skip h _ _ _),λh=>⟨(hgo h).2,m,?_,λz k' b' e' h2=>hst _ _ _ _ ?_⟩⟩,?_,cQf Dr⟩
     ·exact absurd h (show ¬(3:Nat)=0 by decide)
     ·have:=hgo h;show l.length <= m+k0;omega
     ·exact absurd h (show ¬(3:Nat)=0 by decide)
     show (if 3=0 then _ else _)<(if (0:Nat)=0 then _ else _)
     by_cases h:3=0
     ·have:=hgo h;rw [if_pos h,if_pos rfl];show l.length-k0+1<l.length-k0+1;omega
     rw [if_neg h,if_pos rfl];show 0<l.length-k0+1;omega
    refine go 11 ?_
    refine wyz Y (bF9 [_] Y Y Y runUnderlying24) ?_
    refine wcp false Y BC (go 20 ?_)
    refine wcQ Y call62 Y (bD2 [_] _ _ _ l k0 0 0 0 0 [118,97,114] V hok hk0) ?_
    rintro t67 s67 (⟨-,ha67,hm67,rfl,rfl⟩|⟨ha67,rfl,rfl⟩)
    ·exact absurd (bGa ha67 ha53) V
    refine go 7 ?_
    refine wcQ Y call62 Y (bD2 [_] _ _ _ l k0 0 0 0 0 [109,117,116,101,120] V hok hk0) ?_
    rintro t69 s69 (⟨-,ha69,hm69,rfl,rfl⟩|⟨ha69,rfl,rfl⟩)
    ·exact absurd (bGa ha69 ha53) V
    refine go 7 ?_
    refine wcQ Y call62 Y (bD2 [_] _ _ _ l k0 0 0 0 0 [114,109,117,116,101,120] V hok hk0) ?_
    rintro t71 s71 (⟨-,ha71,hm71,rfl,rfl⟩|⟨ha71,rfl,rfl⟩)
    ·refine go 4 ?_
     refine dx [] (tz [(0,true),(2,true)] 6 (go 3 ?_))
     refine t2 1 3 Y ?_ ?_
     focus
      refine way Y V (aX [] isAgg24 sizeOf24) ?_
      refine ox 3 Y Y (bD [P] Y Y V call64 Y (bGn [_] _ _ _ l (k0+1) 0 0 0 hok hm71 V) Gg FU AU ?_)
      rintro t73 s73 ⟨x75,k75,u75,e75,rfl,hr75,hk75,he75,rfl⟩
      refine ox 4 Y Y (bDk (hf:=aV bT bT x75 Y Y Y) zb9 ?_)
     rotate_left
     focus
      refine (bD [P] Y Y V call64 Y (bGn [_] _ _ _ l (k0+1) 0 0 0 hok hm71 V) Gg FU AU ?_)
      rintro t75 s75 ⟨x75,k75,u75,e75,rfl,hr75,hk75,he75,rfl⟩
      refine t2 1 4 Y ?_ ?_
      focus
       refine way Y V (aX [] isAgg24 sizeOf24) ?_
       refine ox 4 Y Y (bDk (hf:=aV bT bT x75 Y Y Y) zb9 ?_)
      rotate_left
      refine (bDk (hf:=aV bT bT x75 Y Y Y) zb9 ?_)
      refine ox 1 Y Y (way Y V (aX [] isAgg24 sizeOf24) ?_)
     all_goals
      refine ox 5 Y Y (bDm [_] cKb Y Y V Bv C6 (@length_append _ x0.mutexes [x75]).symm Bf Bq (List.flatMap_append (f:=bT)).symm λv77=>?_)
      refine tz [(6,true),(7,false)] 0 (go 3 ?_)
      refine ax (go 2 ?_)
      obtain ⟨m,rfl⟩:∃m,n0=m+1:=⟨n0-1,J⟩
      have hel:kX 0 0 (gR l x0 k0) {x0 with mutexes:=x0.mutexes++[x75]} k75 u75 e75:=(hr75.map (f:=λg=>{x0 with mutexes:=x0.mutexes++[g]})).eq λ_=>by unfold gR;rw [if_neg Dj,if_neg DJ,if_pos ha53,if_neg J]
      have hst:∀z k' b' e',kX e75 u75 (lK l m {x0 with mutexes:=x0.mutexes++[x75]} k75) z k' b' e' -> kX 0 0 (fH l) z k' b' e':=λz k' b' e' h=>hcont z k' b' e' Bi
      have hgo:e75=0 -> k0<k75 /\ u75=0:=λh=>AB
      refine ⟨({x0 with mutexes:=x0.mutexes++[x75]},vg,v77,vf,k75,u75,e75),⟨hk75,he75,λh=>?_,λh=>hst _ _ _ _ (.skip h _ _ _),λh=>⟨(hgo h).2,m,?_,λz k' b' e' h2=>hst _ _ _ _ ?_⟩⟩,?_,cQf Dr⟩
      ·simp;omega
      ·have:=hgo h;show l.length <= m+k75;omega
      ·rw [show e75=0 from h,show u75=0 from (hgo h).2];exact h2
      show (if e75=0 then _ else _)<(if (0:Nat)=0 then _ else _)
      by_cases h:e75=0
      ·have:=hgo h;rw [if_pos h,if_pos rfl];show l.length-k75+1<l.length-k0+1;omega
      rw [if_neg h,if_pos rfl];show 0<l.length-k0+1;omega
    exact absurd (ha71 Y) (by rw [ha53];decide)
   refine go 2 ?_
   refine wcQ Y call60 Y (bGf [_] _ _ _ l k0 0 0 0 0 [102,117,110,99] V hok hk0) ?_
   rintro t78 s78 (⟨-,ha78,rfl,rfl⟩|⟨ha78,rfl,rfl⟩)
   ·refine go 10 ?_
    by_cases hfuncs:x0.funcs.length=16
    ·refine go 19 ?_
     refine wyz Y (bF9 [_,_] Y Y Y runUnderlying25) ?_
     refine wcp true Y (by rw [hfuncs];rfl) (go 7 ?_)
     refine wcQ Y call61 Y (bEa [_] _ _ _ l k0 0 0 0 0 3) ?_
     rintro t80 s80 ⟨u80,e80,hf80,rfl,rfl⟩
     obtain ⟨rfl,rfl⟩:=hf80.1 rfl
     refine go 6 ?_
     refine wcQ Y call62 Y (bD2 [_] _ _ _ l k0 k0 3 0 0 [118,97,114] V hok hk0) ?_
     rintro t81 s81 (⟨hz81,-⟩|⟨ha81,rfl,rfl⟩)
     ·exact absurd hz81 V
     refine go 7 ?_
     refine wcQ Y call62 Y (bD2 [_] _ _ _ l k0 k0 3 0 0 [109,117,116,101,120] V hok hk0) ?_
     rintro t83 s83 (⟨hz83,-⟩|⟨ha83,rfl,rfl⟩)
     ·exact absurd hz83 V
     refine go 7 ?_
     refine wcQ Y call62 Y (bD2 [_] _ _ _ l k0 k0 3 0 0 [114,109,117,116,101,120] V hok hk0) ?_
     rintro t85 s85 (⟨hz85,-⟩|⟨ha85,rfl,rfl⟩)
     ·exact absurd hz85 V
     refine go 7 ?_
     refine wcQ Y call62 Y (bD2 [_] _ _ _ l k0 k0 3 0 0 [102,117,110,99] V hok hk0) ?_
     rintro t87 s87 (⟨hz87,-⟩|⟨ha87,rfl,rfl⟩)
     ·exact absurd hz87 V
     refine go 6 ?_
     refine wcQ Y call61 Y (bEa [_] _ _ _ l k0 k0 3 0 0 4) ?_
     rintro t89 s89 ⟨u89,e89,hf89,rfl,rfl⟩
     obtain ⟨rfl,rfl⟩:=hf89.2 V
     refine go 3 ?_
     obtain ⟨m,rfl⟩:∃m,n0=m+1:=⟨n0-1,J⟩
     have hel:kX 0 0 (gR l x0 k0) x0 k0 k0 3:=.err _ _ _ _ _ (by unfold gR;rw [if_neg Dj,if_neg DJ,if_neg E5,if_pos ha78,if_pos J]) V
     have hst:∀z k' b' e',kX 3 k0 (lK l m x0 k0) z k' b' e' -> kX 0 0 (fH l) z k' b' e':=λz k' b' e' h=>hcont z k' b' e' Bi
     have hgo:3=0 -> k0<k0 /\ k0=0:=λh=>AB
     refine ⟨(x0,vg,vm,vf,k0,k0,3),⟨hk0,(show (3:Nat)<16 by decide),λh=>?_,λh=>hst _ _ _ _ (.skip h _ _ _),λh=>⟨(hgo h).2,m,?_,λz k' b' e' h2=>hst _ _ _ _ ?_⟩⟩,?_,cQf Dr⟩
     ·exact absurd h (show ¬(3:Nat)=0 by decide)
     ·have:=hgo h;show l.length <= m+k0;omega
     ·exact absurd h (show ¬(3:Nat)=0 by decide)
     show (if 3=0 then _ else _)<(if (0:Nat)=0 then _ else _)
     by_cases h:3=0
     ·have:=hgo h;rw [if_pos h,if_pos rfl];show l.length-k0+1<l.length-k0+1;omega
     rw [if_neg h,if_pos rfl];show 0<l.length-k0+1;omega
    refine go 19 ?_
    refine wyz Y (bF9 [_,_] Y Y Y runUnderlying25) ?_
    refine wcp false Y (by rw [show bC .eql ((x0.funcs.length:Nat):Int) 16=some (decide (x0.funcs.length=16)) from jS (n:=16),decide_eq_false hfuncs]) (go 11 ?_)
    refine wcQ Y call62 Y (bD2 [_] _ _ _ l k0 0 0 0 0 [118,97,114] V hok hk0) ?_
    rintro t91 s91 (⟨-,ha91,hm91,rfl,rfl⟩|⟨ha91,rfl,rfl⟩)
    ·exact absurd (bGa ha91 ha78) V
    refine go 7 ?_
    refine wcQ Y call62 Y (bD2 [_] _ _ _ l k0 0 0 0 0 [109,117,116,101,120] V hok hk0) ?_
    rintro t93 s93 (⟨-,ha93,hm93,rfl,rfl⟩|⟨ha93,rfl,rfl⟩)
    ·exact absurd (bGa ha93 ha78) V
    refine go 7 ?_
    refine wcQ Y call62 Y (bD2 [_] _ _ _ l k0 0 0 0 0 [114,109,117,116,101,120] V hok hk0) ?_
    rintro t95 s95 (⟨-,ha95,hm95,rfl,rfl⟩|⟨ha95,rfl,rfl⟩)
    ·exact absurd (bGa ha95 ha78) V
    refine go 7 ?_
    refine wcQ Y call62 Y (bD2 [_] _ _ _ l k0 0 0 0 0 [102,117,110,99] V hok hk0) ?_
    rintro t97 s97 (⟨-,ha97,hm97,rfl,rfl⟩|⟨ha97,rfl,rfl⟩)
    ·refine go 7 ?_
     refine wcQ Y call65 Y (bEb [_] _ _ _ l (k0+1) 0 0 0 0 hok hm97 V) ?_
     rintro t99 s99 ⟨x99,k99,u99,e99,rfl,hr99,hk99,he99,rfl⟩
     refine go 8 λb4=>?_
     refine wcQ Y call66 Y (bG3 [_,_] _ _ _ l k99 u99 e99 0 hok hk99 he99) ?_
     rintro t100 s100 ⟨x100,k100,u100,e100,rfl,hr100,hk100,he100,rfl⟩
     refine go 7 ?_
     refine wcQ Y call67 Y (bEh l hok 24 (Nat.le_refl _) [_,_] _ _ _ k100 u100 e100 hk100 he100) ?_
     rintro t101 s101 ⟨x101,k101,u101,e101,rfl,hr101,hk101,he101,rfl⟩
     refine go 8 ?_
     refine wo Y (bDk (hf:=aV fV fV ⟨x99,x100,x101⟩ Y Y Y) bDu ?_)
     refine wo Y (bDm [_,_] cN3 Y Y V Bv C6 (@length_append _ x0.funcs [⟨x99,x100,x101⟩]).symm Bo Bq (List.flatMap_append (f:=fV)).symm λv102=>?_)
     refine go 5 ?_
     obtain ⟨m,rfl⟩:∃m,n0=m+1:=⟨n0-1,J⟩
     have hel:kX 0 0 (gR l x0 k0) {x0 with funcs:=x0.funcs++[bS.mk x99 x100 x101]} k101 u101 e101:=((hr99.bind (f:=λn k=>(jC l (fQ l) k).bind λp k=>(eX l 24 k).bind λb k=>.ok (bS.mk n p b) k) (hr100.bind (f:=λp k=>(eX l 24 k).bind λb k=>.ok (bS.mk x99 p b) k) (hr101.map (f:=λb=>bS.mk x99 x100 b))):kX _ _ (sW l (k0+1)) _ _ _ _).map (f:=λg=>{x0 with funcs:=x0.funcs++[g]})).eq λ_=>by unfold gR;rw [if_neg Dj,if_neg DJ,if_neg E5,if_pos ha78,if_neg J];rfl
     have hst:∀z k' b' e',kX e101 u101 (lK l m {x0 with funcs:=x0.funcs++[bS.mk x99 x100 x101]} k101) z k' b' e' -> kX 0 0 (fH l) z k' b' e':=λz k' b' e' h=>hcont z k' b' e' Bi
     have hgo:e101=0 -> k0<k101 /\ u101=0:=λh=>AB
     refine ⟨({x0 with funcs:=x0.funcs++[bS.mk x99 x100 x101]},vg,vm,v102,k101,u101,e101),⟨hk101,he101,λh=>?_,λh=>hst _ _ _ _ (.skip h _ _ _),λh=>⟨(hgo h).2,m,?_,λz k' b' e' h2=>hst _ _ _ _ ?_⟩⟩,?_,cQf (h1:=(.cons _ (.refl _))) Dr⟩
     ·simp;omega
     ·have:=hgo h;show l.length <= m+k101;omega
     ·rw [show e101=0 from h,show u101=0 from (hgo h).2];exact h2
     show (if e101=0 then _ else _)<(if (0:Nat)=0 then _ else _)
     by_cases h:e101=0
     ·have:=hgo h;rw [if_pos h,if_pos rfl];show l.length-k101+1<l.length-k0+1;omega
     rw [if_neg h,if_pos rfl];show 0<l.length-k0+1;omega
    exact absurd (ha97 Y) (by rw [ha78];decide)
   refine go 42 ?_
   refine wcQ Y call62 Y (bD2 [_] _ _ _ l k0 0 0 0 0 [118,97,114] V hok hk0) ?_
   rintro t104 s104 (⟨-,ha104,hm104,rfl,rfl⟩|⟨ha104,rfl,rfl⟩)
   ·exact absurd ha104 (by rw [(ha7 rfl)];decide)
   refine go 7 ?_
   refine wcQ Y call62 Y (bD2 [_] _ _ _ l k0 0 0 0 0 [109,117,116,101,120] V hok hk0) ?_
   rintro t106 s106 (⟨-,ha106,hm106,rfl,rfl⟩|⟨ha106,rfl,rfl⟩)
   ·exact absurd ha106 (by rw [(ha30 rfl)];decide)
   refine go 7 ?_
   refine wcQ Y call62 Y (bD2 [_] _ _ _ l k0 0 0 0 0 [114,109,117,116,101,120] V hok hk0) ?_
   rintro t108 s108 (⟨-,ha108,hm108,rfl,rfl⟩|⟨ha108,rfl,rfl⟩)
   ·exact absurd ha108 (by rw [(ha53 rfl)];decide)
   refine go 7 ?_
   refine wcQ Y call62 Y (bD2 [_] _ _ _ l k0 0 0 0 0 [102,117,110,99] V hok hk0) ?_
   rintro t110 s110 (⟨-,ha110,hm110,rfl,rfl⟩|⟨ha110,rfl,rfl⟩)
   ·exact absurd ha110 (by rw [(ha78 rfl)];decide)
   refine go 6 ?_
   refine wcQ Y call61 Y (bEa [_] _ _ _ l k0 0 0 0 0 4) ?_
   rintro t112 s112 ⟨u112,e112,hf112,rfl,rfl⟩
   obtain ⟨rfl,rfl⟩:=hf112.1 rfl
   refine go 3 ?_
   obtain ⟨m,rfl⟩:∃m,n0=m+1:=⟨n0-1,J⟩
   have hel:kX 0 0 (gR l x0 k0) x0 k0 k0 4:=.err _ _ _ _ _ (by unfold gR;rw [if_neg Dj,if_neg DJ,if_neg E5,if_neg (by rw [ha78 rfl];decide)]) V
   have hst:∀z k' b' e',kX 4 k0 (lK l m x0 k0) z k' b' e' -> kX 0 0 (fH l) z k' b' e':=λz k' b' e' h=>hcont z k' b' e' Bi
   have hgo:4=0 -> k0<k0 /\ k0=0:=λh=>AB
   refine ⟨(x0,vg,vm,vf,k0,k0,4),⟨hk0,(show (4:Nat)<16 by decide),λh=>?_,λh=>hst _ _ _ _ (.skip h _ _ _),λh=>⟨(hgo h).2,m,?_,λz k' b' e' h2=>hst _ _ _ _ ?_⟩⟩,?_,cQf Dr⟩
   ·exact absurd h (show ¬(4:Nat)=0 by decide)
   ·have:=hgo h;show l.length <= m+k0;omega
   ·exact absurd h (show ¬(4:Nat)=0 by decide)
   show (if 4=0 then _ else _)<(if (0:Nat)=0 then _ else _)
   by_cases h:4=0
   ·have:=hgo h;rw [if_pos h,if_pos rfl];show l.length-k0+1<l.length-k0+1;omega
   rw [if_neg h,if_pos rfl];show 0<l.length-k0+1;omega
  refine go 7 ?_
  refine wcp false Y (lA h0) (go 16 ?_)
  have herr:fH l=.err b0 e0:=by
   rcases hn0 h0 with ⟨h,_⟩|⟨_,⟨_,h,_⟩|⟨h,_⟩⟩
   ·exact absurd Y h
   ·exact absurd h h0
   exact h
  have hb0:b0<l.length:=by have h9:(fH l).At l 0:=aD9 hok.last _ _ _ hk;rw [herr] at h9;exact h9.2.1
  refine go 4 ?_
  refine wcp true Y (by simp [bC,h0]) (go 4 ?_)
  refine dx [b3,P] (tz [(0,true),(1,true),(2,true),(3,true),(4,true),(5,true)] 10 (go 7 ?_))
  refine tx 6 Y (bH aW aW l bJ (λ_=>Y) b0 Y Y Y Y hb0 V runUnderlying139 sizeOf154) (tz [(7,true),(8,true),(9,true),(10,true),(11,true),(12,true),(13,false),(14,true),(15,true)] 0 (go 10 ?_))
  refine ax (go 3 ?_)
  exact ⟨.inr Y,_,⟨bx,rw⟩,(pC Y (aCn (Wk.agg (.n (.n (.n .nil)))) (aO [_,_] Y Y isAgg27 sizeOf27 (bK Y Y))) (aF Y) (aF Y)),aA (.cons _ (.cons _ (.cons _ (.refl _)))) (.cons _ (.cons _ (.cons _ (.refl _)))),by rw [aBe hlx herr hb0];rfl,Y⟩
 refine go 13 ?_
 refine wcp true Y (by simp [bC,her]) (go 15 ?_)
 exact ⟨.inr Y,_,⟨bx,rw⟩,(pC Y (aCn (Wk.agg (.n (.n (.n .nil)))) (aO [] Y Y isAgg27 sizeOf27 (bK Y Y))) (aF Y) (aF Y)),aA (.cons _ (.refl _)) (.refl _),by rw [aA9 hlx];rfl,Y⟩
theorem cVv{P:Program}{ops:Array Oper}{o1 o2:Oper}{l:List Oper}{Q:Exit -> AS -> Prop}{n d1 d2:Nat}{T:List Nat}{s:Sto}{ts:List (Nat×AT)}{t e:TypeId}(i:TypeInfo){z:Value}{len:Nat}{parts:Array (Nat×Operand)}{ps:List (Nat×AT)}{zc r:List AC}
  (ho:o1.op=.buildSlice t len parts) (hd:o1.dst=some d1) (hg:o1.guard=none) (hn:d1<n) (hps:EvP ⟨n,T,s,ts⟩ parts.toList ps)
  (hu:P.underlying t=some (.slice e)) (hi:P.info? e=some i) (hz:i.zero=some z) (hsmall:¬len*i.size>2 ^ 24) (hpos:¬len*i.size=0) (hzc:(((Array.range (len*i.size)).map (z.cells[·% z.cells.size]!)).toList.all (·.oneCell'))=true) (hzr:((Array.range (len*i.size)).map (z.cells[·% z.cells.size]!)).toList.map .val=zc)
  (hf:qO (λk=>some (k*i.size,i.size)) zc ps=some r) (ho2:o2.op=.convert t t (.tmp d1)) (hd2:o2.dst=some d2) (hg2:o2.guard=none) (hn2:d2<n) (he:P.underlying e=some (.int .u8))
  (h:∀v,eQ P ops l ⟨n,T,s,(d2,.c (.sl len r))::(d1,Cv v)::ts⟩ Q):eQ P ops (o1::o2::l) ⟨n,T,s,ts⟩ Q:=by
 intro a w hs QQ hQ
 obtain ⟨h1,h2⟩:=aI2 hps.map
 subst hzr
 obtain ⟨vs,e1,e2⟩:=aAh (w:=bI s.bl w) (a:=a) (place:=λk=>some (k*i.size,i.size)) parts.toList ps _ ((Array.range (len*i.size)).map (z.cells[·% z.cells.size]!)) r h1 (λi h h'=>hs.ev (h2 i h h')) (gU _ _ λu hu=>Hh) hf
 have wt:∀{o:Oper} {a:Act},o.guard=none -> Region.wanted o (yielded ops a.tmps)=true:=λh=>by unfold Region.wanted;rw [h]
 obtain ⟨v,hv⟩:∃v,v=Value.slice (some ⟨w.heap.size,0,none⟩) len len:=⟨_,rfl⟩
 refine wpList_step λK hK=>?_
 rw [if_pos (wt hg)]
 unfold Oper.wp
 have hrun:(execOp a.eval o1).run P w=.ok (.value v) (w.alloc (.cells vs e)):=by
  subst hv
  simp only [execOp,ho,Sem.run_bind]
  rw [run_buildSlice w t e len _ vs i z hu hi hz hsmall hpos (by rw [Array.toList_map];exact e1)];rfl
 rw [hrun,Oper.upon_value,hd]
 refine hK _ _ (wpList_step λK2 hK2=>?_)
 rw [if_pos (wt hg2)]
 have hoc:v.oneCell'=true:=by subst hv;rfl
 have hev:(a.put (some d1) v).eval (.tmp d1)=v:=(hs.put (v:=v) hn (t:=Cv v) (.c _ _ (.val _ hoc))).val (x:=.tmp d1) (by simp [evA,look];rfl)
 generalize hw1:w.alloc (.cells vs e (vs.size,vs.size+1))=w1
 have hrun2:(execOp (a.put (some d1) v).eval o2).run P (w.alloc (.cells vs e))=.ok (.value v) w1:=by
  subst hw1
  simp only [execOp,ho2,Sem.run_bind,hev]
  subst hv
  rw [Lib.run_convert_bytes_const w t e vs len len hu he];rfl
 unfold Oper.wp
 rw [hrun2,Oper.upon_value,hd2]
 have hk:cW [] w w1:=by rw [←hw1];exact (cW.refl _ _).alloc _
 have hub:Up2 (bI s.bl w) (bI s.bl w1):=jA hk Bu (λb h=>.inl h)
 obtain ⟨m1,m2⟩:=hs.mem.up hub FC
 have hm:Mem s w1:=⟨hs.mem.nodup,λb hb=>Nat.lt_of_lt_of_le (hs.mem.lt b hb) hk.size,m1,m2⟩
 have s1:=hs.step (w1:=w1) T (hk.mono G0) hm (λb hb=>.inl hb)
 have hmaxcap:len <= 16777216:=by
  have h1:0<i.size:=Nat.pos_of_ne_zero λh0=>hpos Hk
  have h2:=Nat.le_mul_of_pos_right len h1
  omega
 have hne:w.heap.size∉s.bl:=λhm=>GV
 have hrow:dO (bI s.bl w1) (.c (.sl len r)) v:=by
  subst hv
  refine .c _ _ (.sl _ _ vs.toList _ ⟨_,_,Y,Nat.le_refl _,.inr ⟨_,_,Y,λj u hj=>?_⟩⟩ e2.len (λi h h'=>(e2.at_ i h h').mono hub) (λ_ _ _ h=>by cases h;have:=hmaxcap;omega))
  rw [eW _ _ _ hne,←hw1]
  unfold World.cell?
  have h9:(w.alloc (.cells vs e (vs.size,vs.size+1))).heap[w.heap.size]?=some (.cells vs e (vs.size,vs.size+1)):=Hg
  simp only [h9]
  simpa using hj
 refine hK2 _ _ (h v _ _ ((s1.put (v:=v) hn (.c _ _ (.val _ hoc))).put hn2 hrow) QQ λe a2 w2 st2 q s' k=>hQ e a2 w2 st2 q s' (Ext.trans (s1:=⟨n,T,s,(d2,.c (.sl len r))::(d1,Cv v)::ts⟩) (w1:=w1) ⟨hk.mono G0,hk.mono G0,λb hb=>.inl hb,λb hb=>.inl hb⟩ k))
theorem cVd(a b:List Int)(h:a=b)(hl:a.length <= 1000000000)(s:Sto):aL prog 19 [.c (.sl a.length (a.map λx=>Vi x)),.c (.sl b.length (b.map λx=>Vi x))] [] s λt s'=>t=Cb true /\ s'=s:=by
 subst h
 obtain ⟨bx,rw⟩:=s
 refine acX 26 func19 ?_
 refine go 12 ?_
 refine wcp false Y (xG J) (go 12 ?_)
 refine oC (a.length) 5 (λk=>[(0,.c (.sl a.length (a.map λx=>Vi x))),(1,.c (.sl a.length (a.map λx=>Vi x)))]) (sA Y) λk hk=>?_
 show AWp prog _ ⟨26,_,_,(5,nI k)::[(0,.c (.sl a.length (a.map λx=>Vi x))),(1,.c (.sl a.length (a.map λx=>Vi x)))]⟩ _
 refine go 6 ?_
 by_cases h2:((k:Nat):Int)<((a.length:Nat):Int)
 ·refine wcp true Y (jZ h2) (go 8 ?_)
  have hkl:k<a.length:=J
  refine dx [] (tz [(0,true),(1,true)] 7 (go 3 ?_))
  refine tx 2 Y (rT (λx=>Vi x) a k Y Y Y Y J runUnderlying22 sizeOf3) (tz [(3,true),(4,true),(5,true)] 3 (go 4 ?_))
  refine tx 6 Y (rT (λx=>Vi x) a k Y Y Y Y J runUnderlying22 sizeOf3) (tz [(7,true)] 1 (go 2 ?_))
  refine tx 8 Y (bO false Y Y Y (xG J)) ?_
  refine ax (go 7 ?_)
  refine wad Y (go 2 ?_)
  exact ⟨J,(aG Y (gQ J) (sA Y))⟩
 refine wcp false Y (jQ h2) (go 14 ?_)
 exact bHe (s':=⟨bx,rw⟩) Y sb0 ⟨cX Y,Y⟩
def cU3:List UInt8:=[118,97,114,32,120,59,32,109,117,116,101,120,32,97,59,32,102,117,110,99,32,109,97,105,110,40,41,32,123,32,119,104,105,108,101,32,120,32,123,32,108,111,99,107,32,97,59,32,125,32,125]
def cTc:cK:=⟨[⟨⟨#[120]⟩,0⟩],[⟨⟨#[97]⟩,false,0⟩],[⟨⟨#[109,97,105,110]⟩,[],[.mk 8 aK (.mk 2 0 ⟨#[120]⟩ []) ⟨aK,[]⟩ [] [.mk 5 aK .zero ⟨⟨#[97]⟩,[]⟩ [] [] []] []]⟩]⟩
theorem cT7:cTc.sane:=by
 refine ⟨λg hg=>?_,λm hm=>?_,λf hf=>?_⟩
 ·obtain rfl:g=_:=List.mem_singleton.1 hg
  exact ⟨F2,V⟩
 ·obtain rfl:m=_:=List.mem_singleton.1 hm
  exact ⟨F2,V⟩
 obtain rfl:f=_:=List.mem_singleton.1 hf
 refine ⟨V,λx hx=>Hb,?_⟩
 have e:aK.size <= 4611686018427387904:=V
 have e1:(⟨#[120]⟩:ByteArray).size <= 4611686018427387904:=V
 have e2:(⟨#[97]⟩:ByteArray).size <= 4611686018427387904:=V
 have f0:fit 0:=F2
 have f1:fit 8:=F2
 have f2:fit 5:=F2
 have f3:fit 2:=F2
 simp only [aH.zero,gC,aJ.sane,aH.sane,cY.sane,iI,e,e1,e2,f0,f1,f2,f3,not_mem_nil,and_true,true_and,false_implies,implies_true,forall_const]
theorem cV4:jM cU3=(cTc,51,0):=B6
theorem cV3:cFx cTc=(0,0,0):=B6
theorem cVl:cTc.wt <= 9000000:=of_decide_eq_true B6
def cSc:cJ0:=cKk cTc
theorem cV5:cSc.procs.length=1:=B6
theorem cVn(h:0<cSc.procs.length):cSc.procs[0].code.length=4 /\ ∀(h0:0<cSc.procs[0].code.length)(h1:1<cSc.procs[0].code.length)(h2:2<cSc.procs[0].code.length)(h3:3<cSc.procs[0].code.length),
  cSc.procs[0].code[0].op=6 /\ cSc.procs[0].code[0].target=3 /\ cSc.procs[0].code[0].expr.op=19 /\ cSc.procs[0].code[1].op=4 /\ cSc.procs[0].code[2].op=7 /\ cSc.procs[0].code[2].target=0 /\ cSc.procs[0].code[3].op=8:=
 ⟨B6,λ_ _ _ _=>⟨B6,B6,B6,B6,B6,B6,B6⟩⟩
theorem cV7:cSd cTc 0=[0,1,0,2]:=B6
theorem cVi(s:Sto):aL prog 9 [bK5 (.agg (jV cTc))] [] s λt s'=>t=.tup [.agg (cK1 cSc),Ci 0,Ci 0,Ci 0] /\ s'=s:=by
 have h:=cUg cTc cT7 cVl s
 rw [cV3] at h;exact h
theorem cVc(s:Sto):aL prog 20 [bK5 (.agg (jV cTc)),Ci 0] [] s λt s'=>t=.c (.sl ([0,1,0,2]:List Int).length (([0,1,0,2]:List Int).map λx=>Vi x)) /\ s'=s:=by
 have h:=cUb cTc 0 cT7 cVl s
 rw [cV7] at h;exact h
theorem cU5(s:Sto):aL prog 30 [.c (.sl cU3.length (iF cU3))] [] s λt s'=>t=.tup [.agg (jV cTc),Ci 51,Ci 0] /\ s'=s:=by
 have h:=bGw cU3 s
 rw [cV4] at h;exact h
theorem cTp(w:World)(he:bM9 w):Calls prog 13 #[] w λe w'=>e=.returned (.bool true) /\ Below w.heap.size w w':=by
 have hn1:=cV5
 have hn2:=(cVn J).1
 obtain ⟨k1,k2,k3,k4,k5,k6,k7⟩:=(cVn J).2 J J J J
 refine bPa func13 Y 98 (Nat.le_of_ble_eq_true Y) he ?_
 show AWp prog _ ⟨99,[],⟨[],[]⟩,[(98,bK5 (.raw undef))]⟩ _
 refine go 7 ?_
 refine cVv Tryz.t5 Y Y Y V (.cons Y (.cons Y (.cons Y (.cons Y (.cons Y (.cons Y (.cons Y (.cons Y (.cons Y (.cons Y (.cons Y (.cons Y (.cons Y (.cons Y (.cons Y (.cons Y (.cons Y (.cons Y (.cons Y (.cons Y (.cons Y (.cons Y (.cons Y (.cons Y (.cons Y (.cons Y (.cons Y (.cons Y (.cons Y (.cons Y (.cons Y (.cons Y (.cons Y (.cons Y (.cons Y (.cons Y (.cons Y (.cons Y (.cons Y (.cons Y (.cons Y (.cons Y (.cons Y (.cons Y (.cons Y (.cons Y (.cons Y (.cons Y (.cons Y (.cons Y (.cons Y .nil))))))))))))))))))))))))))))))))))))))))))))))))))) underlying58 B6 Y V V B6 (zc:=List.replicate 51 (.val (.int .u8 0))) B6 (r:=iF cU3) B6 Y Y Y V underlying5 λvc=>?_
 refine wc1 Y call30 Y (cU5 _) (go 13 λb1=>?_)
 refine wcR 98 Y call9 Y (cVi _) (go 16 λb2=>?_)
 refine wcp false Y B7 (go 4 ?_)
 refine wcp false Y (xG J) (go 4 ?_)
 refine wyz Y (bH cF9 cF9 cSc.procs cI0 (λ_=>Y) 0 Y Y Y Y J V runUnderlying29 sizeOf79) (go 3 ?_)
 refine wcp false Y (xG J) (go 10 ?_)
 refine wyz Y (bH cF9 cF9 cSc.procs cI0 (λ_=>Y) 0 Y Y Y Y J V runUnderlying29 sizeOf79) (go 8 ?_)
 refine wyz Y (bH encI encI cSc.procs[0].code cGj (λ_=>Y) 0 Y Y Y Y J V runUnderlying75 sizeOf92) (go 2 ?_)
 refine wcp true Y (eR J) (go 2 ?_)
 refine wyz Y (bH encI encI cSc.procs[0].code cGj (λ_=>Y) 0 Y Y Y Y J V runUnderlying75 sizeOf92) (go 2 ?_)
 refine wcp true Y (eR J) (go 3 ?_)
 refine wyz Y (bH encI encI cSc.procs[0].code cGj (λ_=>Y) 0 Y Y Y Y J V runUnderlying75 sizeOf92) (go 3 ?_)
 refine wcp true Y (eR J) (go 3 ?_)
 refine wyz Y (bH encI encI cSc.procs[0].code cGj (λ_=>Y) 1 Y Y Y Y J V runUnderlying75 sizeOf92) (go 2 ?_)
 refine wcp true Y (eR J) (go 3 ?_)
 refine wyz Y (bH encI encI cSc.procs[0].code cGj (λ_=>Y) 2 Y Y Y Y J V runUnderlying75 sizeOf92) (go 2 ?_)
 refine wcp true Y (eR J) (go 3 ?_)
 refine wyz Y (bH encI encI cSc.procs[0].code cGj (λ_=>Y) 2 Y Y Y Y J V runUnderlying75 sizeOf92) (go 2 ?_)
 refine wcp true Y (eR J) (go 3 ?_)
 refine wyz Y (bH encI encI cSc.procs[0].code cGj (λ_=>Y) 3 Y Y Y Y J V runUnderlying75 sizeOf92) (go 2 ?_)
 refine wcp true Y (eR J) (go 3 ?_)
 refine wcR 98 Y call20 Y (cVc _) ?_
 refine wo Y (wbs Tryz.t3 [Vi 0,Vi 0,Vi 0,Vi 0] Y Y V (.cons Y (.cons Y (.cons Y (.cons Y .nil)))) underlying22 B6 Y V V B6 B6 (r:=([0,1,0,2]:List Int).map λx=>Vi x) Y ?_)
 refine wc1 Y call19 Y (cVd [0,1,0,2] [0,1,0,2] Y V _) (go 5 ?_)
 exact ⟨.inr Y,_,⟨[],[]⟩,aR Y (aF Y),aA (List.nil_sublist _) (List.nil_sublist _),Y,Y⟩
abbrev SSt(A B:List Box)(rw:List bA)(S:Nat)(l:List Int)(i:Nat):Sto:=⟨A++⟨S,54,[.sl l.length (l.map λi=>Vi i),nC i]⟩::B,rw⟩
theorem aTv(l:List Int)(n:Nat)(s:Sto):aL prog 22 [.c (.sl l.length (l.map λi=>Vi i)),nI n] [] s λr s'=>r=.c (.sl (l.take n).length ((l.take n).map λi=>Vi i)) /\ s'=s:=by
 obtain ⟨bx,rw⟩:=s
 refine acX 13 func22 ?_
 refine go 11 ?_
 by_cases hlt:n<l.length
 ·refine wcp true Y FT (go 7 ?_)
  refine wyz Y (aGm (h:=(l.take n).length) (z:=1) Y Y Y Gl Gl B6 B6 sizeOf3 (by rw [List.length_take,Nat.min_eq_left J,Nat.mul_one,←List.map_take])) (go 5 ?_)
  exact bHe (s':=⟨bx,rw⟩) Y sb0 ⟨Y,Y⟩
 rw [take_of_length_le (l:=l) (i:=n) J]
 refine wcp false Y FS (go 12 ?_)
 exact bHe (s':=⟨bx,rw⟩) Y sb0 ⟨Y,Y⟩
theorem aC2(A B:List Box)(rw:List bA)(S:Nat)(l:List Int)(i0:Nat)(n:Int)(hi0:i0 <= l.length)(hl:l.length <= 1000000)(hn0:0<n)(hn1:n <= 4611686018427387904):aL prog 23 [pP S,Ci n] [S] (SSt A B rw S l i0) λr s=>∃(z:Int) (i:Nat),r=Ci z /\ 0 <= z /\ z<n /\ i <= l.length /\ s=SSt A B rw S l i:=by
 refine acX 35 func23 ?_
 refine go 7 ?_
 refine dx [S] (tz [(0,true),(1,true),(2,true),(3,true),(4,true),(5,true),(6,true),(7,true),(8,true)] 1 (go 10 ?_))
 refine tx 9 Y (bO _ Y Y Y Y) ?_
 refine ax (go 1 ?_)
 refine gY Y (λhc1=>?_) (λhc1=>?_)
 ·have hge:l.length <= i0:=by simpa using hc1
  refine go 7 ?_
  exact bHe (s':=SSt A B rw S l i0) Y sb0 ⟨0,i0,Y,J,hn0,hi0,Y⟩
 have hlt:i0<l.length:=by simpa using hc1
 refine go 8 ?_
 refine wad Y (go 6 ?_)
 refine dx [S] (tz [(0,true),(1,true),(2,true),(3,true),(4,true),(5,true),(6,true),(7,true)] 6 (go 9 ?_))
 refine tx 8 Y (cI ((i0:Nat):Int)) ?_
 refine tx 9 Y (rT (λi=>Vi i) l i0 Y Y Y Y hlt runUnderlying22 sizeOf3) (tz [(10,true),(11,true)] 2 (go 3 ?_))
 refine ox 12 Y Y (bD [] Y Y V call16 Y (aNz _ _ hn0 hn1 _) bDl bDl (λ_=>bDl) ?_)
 rintro rj sj ⟨rfl,rfl⟩
 refine tz [(13,true)] 0 (go 2 ?_)
 refine ax (go 2 ?_)
 exact bHe (s':=SSt A B rw S l (i0+1)) Y sb0 ⟨l[i0]%n,i0+1,Y,Int.emod_nonneg _ J,Int.emod_lt_of_pos _ hn0,hlt,Y⟩
theorem vH(A B:List Box)(rw:List bA)(S:Nat)(l:List Int)(i0:Nat)(hi0:i0 <= l.length)(hl:l.length <= 1000000):aL prog 107 [pP S] [S] (SSt A B rw S l i0) λr s=>∃(z:Int) (i:Nat),r=Ci z /\ 0 <= z /\ z<4611686018427387904 /\ i <= l.length /\ s=SSt A B rw S l i:=by
 refine acX 10 func107 ?_
 refine go 9 ?_
 refine wo Y (bD [S] Y Y V call23 Y (aC2 A _ _ _ l i0 _ hi0 hl V V) (bDj) (bDj (h:=by simp [Sto.bl])) (λ_=>bDj) ?_)
 rintro r1 s1 ⟨z1,i1,rfl,hz1,hy1,hi1,rfl⟩
 refine wyz Y (bO _ Y Y Y Y) (go 2 ?_)
 refine gY Y (λhc1=>?_) (λhc1=>?_)
 ·refine go 3 ?_
  refine wo Y (bD [S] Y Y V call23 Y (aC2 A _ _ _ l i1 _ hi1 hl V V) (bDj) (bDj (h:=by simp [Sto.bl])) (λ_=>bDj) ?_)
  rintro r2 s2 ⟨z2,i2,rfl,hz2,hy2,hi2,rfl⟩
  refine go 5 ?_
  exact bHe (s':=SSt A B rw S l i2) Y sb0 ⟨z2,i2,Y,hz2,J,hi2,Y⟩
 refine go 5 ?_
 refine wo Y (bD [S] Y Y V call23 Y (aC2 A _ _ _ l i1 _ hi1 hl V V) (bDj) (bDj (h:=by simp [Sto.bl])) (λ_=>bDj) ?_)
 rintro r2 s2 ⟨z2,i2,rfl,hz2,hy2,hi2,rfl⟩
 refine go 4 ?_
 exact bHe (s':=SSt A B rw S l i2) Y sb0 ⟨z2,i2,Y,hz2,J,hi2,Y⟩
end
section
inductive eT (names:List ByteArray):Nat -> aH -> Prop
 |name {d:Nat} {x:ByteArray} (h:x∈names):eT names d (.mk 2 0 x [])
 |num {d:Nat} {n:Int} (h0:0 <= n) (h1:n<4611686018427387904):eT names d (.mk 1 n aK [])
 |un {d:Nat} {op:Int} {e:aH} (ho:op=3∨op=4) (he:eT names d e):eT names (d+1) (.mk op 0 aK [e])
 |bin {d:Nat} {op:Int} {a b:aH} (h0:5 <= op) (h1:op <= 17) (ha:eT names d a) (hb:eT names d b):eT names (d+1) (.mk op 0 aK [a,b])
theorem eT.mono{names:List ByteArray}{d d':Nat}{e:aH}(h:eT names d e)(hd:d <= d'):eT names d' e:=by
 induction h generalizing d' with
 |name h=>exact .name h
 |num h0 h1=>exact .num h0 h1
 |@un d op e ho he ih=>
  obtain ⟨k,rfl⟩:∃k,d'=k+1:=⟨d'-1,J⟩
  exact .un ho (ih J)
 |@bin d op a b h0 h1 ha hb iha ihb=>
  obtain ⟨k,rfl⟩:∃k,d'=k+1:=⟨d'-1,J⟩
  exact .bin h0 h1 (iha J) (ihb J)
inductive uA (ms:List cL) (ps:List aS) (vars:List ByteArray):cY -> Prop
 |arr {m:cL} {e:aH} (hm:m∈ms) (hs:0<m.size) (he:eT vars 1 e):uA ms ps vars ⟨m.name,[e]⟩
 |scalar {m:cL} (hm:m∈ms) (hs:m.size <= 0):uA ms ps vars ⟨m.name,[]⟩
 |param {x:aS} (hx:x∈ps) (hm:x.mutex=true):uA ms ps vars ⟨x.name,[]⟩
inductive nB (ms:List cL) (ps:List aS) (vars:List ByteArray):List aS -> List eN -> Prop
 |nil:nB ms ps vars [] []
 |mutex {x:aS} {l:List aS} {asl:List eN} {r:cY} (hx:x.mutex=true) (hr:uA ms ps vars r) (h:nB ms ps vars l asl):nB ms ps vars (x::l) (⟨true,r,.zero⟩::asl)
 |expr {x:aS} {l:List aS} {asl:List eN} {e:aH} (hx:x.mutex=false) (he:eT vars 2 e) (h:nB ms ps vars l asl):nB ms ps vars (x::l) (⟨false,.zero,e⟩::asl)
def cZk(left:Nat):ByteArray:=bytes [118,UInt8.ofNat (97+left%26),UInt8.ofNat (97+left/26%26)]
abbrev Sig:=ByteArray×List aS
inductive dJ (ms:List cL) (fs:List Sig) (ps:List aS):List ByteArray -> Nat -> Nat -> List aJ -> Nat -> Prop
 |nil {vars:List ByteArray} {deep left:Nat}:dJ ms fs ps vars deep left [] left
 |lock {vars:List ByteArray} {deep left left':Nat} {r:cY} {rest:List aJ} (hr:uA ms ps vars r) (h:dJ ms fs ps vars deep left rest left'):
   dJ ms fs ps vars deep (left+1) (.mk 5 aK .zero r [] [] []::rest) left'
 |unlock {vars:List ByteArray} {deep left left':Nat} {r:cY} {rest:List aJ} (hr:uA ms ps vars r) (h:dJ ms fs ps vars deep left rest left'):
   dJ ms fs ps vars deep (left+1) (.mk 6 aK .zero r [] [] []::rest) left'
 |var {vars:List ByteArray} {deep left left':Nat} {e:aH} {rest:List aJ} (he:eT vars 2 e) (h:dJ ms fs ps (vars++[cZk left]) deep left rest left'):
   dJ ms fs ps vars deep (left+1) (.mk 1 (cZk left) e .zero [] [] []::rest) left'
 |assign {vars:List ByteArray} {deep left left':Nat} {x:ByteArray} {e:aH} {rest:List aJ} (hx:x∈vars) (he:eT vars 2 e) (h:dJ ms fs ps vars deep left rest left'):
   dJ ms fs ps vars deep (left+1) (.mk 2 x e .zero [] [] []::rest) left'
 |call {vars:List ByteArray} {deep left left':Nat} {k:Int} {g:Sig} {asl:List eN} {rest:List aJ} (hk:k=3∨k=4) (hg:g∈fs) (ha:nB ms ps vars g.2 asl) (h:dJ ms fs ps vars deep left rest left'):
   dJ ms fs ps vars deep (left+1) (.mk k g.1 .zero .zero asl [] []::rest) left'
 |cond {vars:List ByteArray} {deep left l1 l2 left':Nat} {e:aH} {thn els rest:List aJ} (he:eT vars 2 e) (ht:dJ ms fs ps vars deep left thn l1) (hel:dJ ms fs ps vars deep l1 els l2) (h:dJ ms fs ps vars (deep+1) l2 rest left'):
   dJ ms fs ps vars (deep+1) (left+1) (.mk 7 aK e .zero [] thn els::rest) left'
 |loop {vars:List ByteArray} {deep left l1 left':Nat} {e:aH} {thn rest:List aJ} (he:eT vars 2 e) (ht:dJ ms fs ps vars deep left thn l1) (h:dJ ms fs ps vars (deep+1) l1 rest left'):
   dJ ms fs ps vars (deep+1) (left+1) (.mk 8 aK e .zero [] thn []::rest) left'
 |ret {vars:List ByteArray} {deep left left':Nat} {rest:List aJ} (h:dJ ms fs ps vars deep left rest left'):
   dJ ms fs ps vars deep (left+1) (.mk 9 aK .zero .zero [] [] []::rest) left'
 |pair {vars:List ByteArray} {deep left l1 left':Nat} {r:cY} {mid rest:List aJ} (hr:uA ms ps vars r) (hm:dJ ms fs ps vars 0 left mid l1) (h:dJ ms fs ps vars deep l1 rest left'):
   dJ ms fs ps vars deep (left+1) (.mk 5 aK .zero r [] [] []::(mid++.mk 6 aK .zero r [] [] []::rest)) left'
theorem dJ.le{ms:List cL}{fs:List Sig}{ps:List aS}{vars:List ByteArray}{deep left left':Nat}{l:List aJ}(h:dJ ms fs ps vars deep left l left'):left' <= left:=by
 induction h<;>omega
def aDx(i:Nat)(m:cL):Prop:=m.name=bytes [UInt8.ofNat (97+i)] /\ ((m.reentrant=false /\ 0 <= m.size /\ m.size <= 3)∨(m.reentrant=true /\ m.size=0))
def aDa(i:Nat)(g:aI):Prop:=g.name=bytes [103,UInt8.ofNat (48+i)] /\ -2 <= g.init /\ g.init <= 2
def pM(l:List aS):Prop:=l.length <= 2 /\ ∀k (h:k<l.length),l[k].name=bytes [112,UInt8.ofNat (48+(l.length-k))]
def aMn(i:Nat)(f:bS):Prop:=(i=0 -> f.name=bytes [109,97,105,110] /\ f.params=[]) /\ (0<i -> f.name=bytes [102,UInt8.ofNat (48+i)]) /\ pM f.params
def bS.sig(f:bS):Sig:=(f.name,f.params)
def uS(gs:List aI)(ps:List aS):List ByteArray:=gs.map aI.name++(ps.filter λx=>!x.mutex).map aS.name
inductive kZ (ms:List cL) (fs:List Sig) (gs:List aI):Nat -> List bS -> Prop
 |nil {left:Nat}:kZ ms fs gs left []
 |cons {left left':Nat} {f:bS} {l:List bS} (h:dJ ms fs f.params (uS gs f.params) 2 left f.body left') (hl:kZ ms fs gs left' l):kZ ms fs gs left (f::l)
structure sY (p:cK):Prop where
 mutexes:1 <= p.mutexes.length /\ p.mutexes.length <= 4 /\ ∀k (h:k<p.mutexes.length),aDx k p.mutexes[k]
 globals:p.globals.length <= 2 /\ ∀k (h:k<p.globals.length),aDa k p.globals[k]
 funcs:1 <= p.funcs.length /\ p.funcs.length <= 4 /\ ∀k (h:k<p.funcs.length),aMn k p.funcs[k]
 bodies:kZ p.mutexes (p.funcs.map bS.sig) p.globals 24 p.funcs
end
end Go.Proofs.YtjgeihmhppadaaaGreatDoor
