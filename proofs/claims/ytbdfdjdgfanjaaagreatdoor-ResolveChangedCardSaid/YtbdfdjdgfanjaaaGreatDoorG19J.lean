import Derived.Test.YtbdfdjdgfanjaaaGreatDoorG18J
set_option linter.all false
set_option synthInstance.maxHeartbeats 1000000
set_option synthInstance.maxSize 1000000
set_option maxHeartbeats 3200000
set_option maxRecDepth 100000
namespace Go.Proofs.YtbdfdjdgfanjaaaGreatDoor
open Go.Proofs.Tryz
open List (length_append length_cons length_nil mem_append mem_cons not_mem_nil append_assoc getElem_mem take_of_length_le)
section
open Go.RowKit
theorem bGw(bs:List UInt8)(s:Sto):aL prog 18 [.c (.sl bs.length (iF bs))] [] s λt s'=>t=.tup [.agg (jV (jM bs).1),Ci ((jM bs).2.1:Int),Ci ((jM bs).2.2:Int)] /\ s'=s:=by
 obtain ⟨bx,rw⟩:=s
 refine acX 146 func18 ?_
 refine go 10 λb1=>?_
 refine wo Y (bD [] call38 (aLb bs _) bDl bDl (λ_=>bDl) ?_)
 rintro t1 s1 ⟨⟨l,hlx,rfl,hfew⟩|⟨p0,er,hlx,rfl,her⟩,rfl⟩
 ·have hok:=TOk.of hlx
  have hlen:=hok.len
  have hk:0<l.length:=hok.last.1
  have he:(0:Nat)<16:=V
  refine go 13 ?_
  refine wcp false Y Fs (go 18 λP b3=>?_)
  refine qR 62 3 ?_
  refine qR 77 3 ?_
  refine qR 75 2 ?_
  refine fM (λg:cK×Value×Value×Value×Nat×Nat×Nat=>(⟨146,aY g.2.1++(aY g.2.2.1++(aY g.2.2.2.1++[b3,P,b1])),⟨⟨b3,27,[.val g.2.1,.val g.2.2.1,.val g.2.2.2.1]⟩::⟨P,97,[Sq aW l,Vi (((g.2.2.2.2.1):Nat):Int),Vi (((g.2.2.2.2.2.1):Nat):Int),Vi (((g.2.2.2.2.2.2):Nat):Int),nC 0,nC 0]⟩::⟨b1,27,[Nl,Nl,Nl]⟩::bx,⟨g.2.1,75,2,(g.1).globals.length,(g.1).globals.flatMap dB⟩::⟨g.2.2.1,77,3,(g.1).mutexes.length,(g.1).mutexes.flatMap bT⟩::⟨g.2.2.2.1,62,3,(g.1).funcs.length,(g.1).funcs.flatMap fV⟩::rw⟩,[(9,pP P),(8,pP b3),(6,Ci (bs.length:Int)),(5,.c (Sq aW l)),(2,pP b1)]⟩:AS)) (λg=>g.2.2.2.2.1<l.length /\ g.2.2.2.2.2.2<16 /\ (g.2.2.2.2.2.2=0 -> g.1.globals.length <= 16 /\ g.1.mutexes.length <= 12 /\ g.1.funcs.length <= 16) /\ (g.2.2.2.2.2.2≠0 -> kX 0 0 (fH l) g.1 g.2.2.2.2.1 g.2.2.2.2.2.1 g.2.2.2.2.2.2) /\ (g.2.2.2.2.2.2=0 -> g.2.2.2.2.2.1=0 /\ ∃n,l.length <= n+g.2.2.2.2.1 /\ ∀z k' b' e',kX 0 0 (lK l n g.1 g.2.2.2.2.1) z k' b' e' -> kX 0 0 (fH l) z k' b' e')) (λg=>if g.2.2.2.2.2.2=0 then l.length-g.2.2.2.2.1+1 else 0) (⟨[],[],[]⟩,.slice none 0 0,.slice none 0 0,.slice none 0 0,0,0,0) (cQf Cc) ⟨hk,he,λ_=>⟨Nat.zero_le _,Nat.zero_le _,Nat.zero_le _⟩,λh=>absurd Y h,λ_=>⟨Y,l.length,Nat.le_add_right _ _,λz k' b' e' h2=>h2⟩⟩ ?_
  rintro ⟨x0,vg,vm,vf,k0,b0,e0⟩ ⟨hk0,he0,ha0,hn0,hc0⟩
  dsimp only at hk0 he0 ha0 hn0 hc0
  show AWp prog _ (⟨146,aY vg++(aY vm++(aY vf++[b3,P,b1])),⟨⟨b3,27,[.val vg,.val vm,.val vf]⟩::⟨P,97,[Sq aW l,Vi (((k0):Nat):Int),Vi (((b0):Nat):Int),Vi (((e0):Nat):Int),nC 0,nC 0]⟩::⟨b1,27,[Nl,Nl,Nl]⟩::bx,⟨vg,75,2,(x0).globals.length,(x0).globals.flatMap dB⟩::⟨vm,77,3,(x0).mutexes.length,(x0).mutexes.flatMap bT⟩::⟨vf,62,3,(x0).funcs.length,(x0).funcs.flatMap fV⟩::rw⟩,[(9,pP P),(8,pP b3),(6,Ci (bs.length:Int)),(5,.c (Sq aW l)),(2,pP b1)]⟩:AS) _
  by_cases h0:e0=0
  ·subst h0
   obtain ⟨hl1,hl2,hl3⟩:=ha0 rfl
   obtain ⟨rfl,n0,hn1,hcont⟩:=hc0 rfl
   refine go 7 ?_
   refine wcp true Y Fs (go 2 ?_)
   refine wcQ Y call39 Y (bEv [_] _ _ _ l k0 0 0 0 0 5 hk0) ?_
   rintro t3 s3 (⟨-,ha3,rfl,rfl⟩|⟨ha3,rfl,rfl⟩)
   ·refine go 13 ?_
    obtain ⟨m,rfl⟩:∃m,n0=m+1:=⟨n0-1,J⟩
    have hfin:=hcont x0 k0 0 0 (by rw [lK,if_pos ha3];exact .ok _ _ _ rfl)
    have hgood:fH l=.ok x0 k0:=(hfin.good Y).2.1
    refine go 4 ?_
    refine wcp false Y Fs (go 7 ?_)
    refine aAg [] 0 Y Y ?_
    refine aAg [] 1 Y Y ?_
    refine aAg [] 2 Y Y ?_
    refine go 8 ?_
    exact ⟨.inr Y,_,⟨bx,rw⟩,(pC Y (aO [_,_] Y Y isAgg27 sizeOf27 (bK Y Y)) (aF Y) (aF Y)),aA (.cons _ (.cons _ (.cons _ (.refl _)))) (.refl _),by rw [pT hlx hgood];rfl,Y⟩
   refine go 10 ?_
   have hk5:¬(bU l k0).kind=5:=ha3 Y
   refine go 1 ?_
   refine wcQ Y call40 Y (bGf [_] _ _ _ l k0 0 0 0 0 [118,97,114] V hok hk0) ?_
   rintro t7 s7 (⟨-,ha7,rfl,rfl⟩|⟨ha7,rfl,rfl⟩)
   ·refine go 1 ?_
    refine wcQ Y call40 Y (bGf [_] _ _ _ l k0 0 0 0 0 [109,117,116,101,120] V hok hk0) ?_
    rintro t8 s8 (⟨-,ha8,rfl,rfl⟩|⟨ha8,rfl,rfl⟩)
    ·exact absurd (bGa ha8 ha7) V
    refine go 2 ?_
    refine wcQ Y call40 Y (bGf [_] _ _ _ l k0 0 0 0 0 [114,109,117,116,101,120] V hok hk0) ?_
    rintro t9 s9 (⟨-,ha9,rfl,rfl⟩|⟨ha9,rfl,rfl⟩)
    ·exact absurd (bGa ha9 ha7) V
    refine go 2 ?_
    refine wcQ Y call40 Y (bGf [_] _ _ _ l k0 0 0 0 0 [102,117,110,99] V hok hk0) ?_
    rintro t10 s10 (⟨-,ha10,rfl,rfl⟩|⟨ha10,rfl,rfl⟩)
    ·exact absurd (bGa ha10 ha7) V
    refine go 8 ?_
    by_cases hglobals:x0.globals.length=16
    ·refine go 4 ?_
     refine wyz Y (bF9 [] Y Y Y runUnderlying23) ?_
     refine wcp true Y (by rw [hglobals];rfl) (go 24 ?_)
     refine wcQ Y call41 Y (bEa [_] _ _ _ l k0 0 0 0 0 3) ?_
     rintro t12 s12 ⟨u12,e12,hf12,rfl,rfl⟩
     obtain ⟨rfl,rfl⟩:=hf12.1 rfl
     refine go 6 ?_
     refine wcQ Y call42 Y (bD2 [_] _ _ _ l k0 k0 3 0 0 [118,97,114] V hok hk0) ?_
     rintro t13 s13 (⟨hz13,-⟩|⟨ha13,rfl,rfl⟩)
     ·exact absurd hz13 V
     refine go 7 ?_
     refine wcQ Y call42 Y (bD2 [_] _ _ _ l k0 k0 3 0 0 [109,117,116,101,120] V hok hk0) ?_
     rintro t15 s15 (⟨hz15,-⟩|⟨ha15,rfl,rfl⟩)
     ·exact absurd hz15 V
     refine go 7 ?_
     refine wcQ Y call42 Y (bD2 [_] _ _ _ l k0 k0 3 0 0 [114,109,117,116,101,120] V hok hk0) ?_
     rintro t17 s17 (⟨hz17,-⟩|⟨ha17,rfl,rfl⟩)
     ·exact absurd hz17 V
     refine go 7 ?_
     refine wcQ Y call42 Y (bD2 [_] _ _ _ l k0 k0 3 0 0 [102,117,110,99] V hok hk0) ?_
     rintro t19 s19 (⟨hz19,-⟩|⟨ha19,rfl,rfl⟩)
     ·exact absurd hz19 V
     refine go 6 ?_
     refine wcQ Y call41 Y (bEa [_] _ _ _ l k0 k0 3 0 0 4) ?_
     rintro t21 s21 ⟨u21,e21,hf21,rfl,rfl⟩
     obtain ⟨rfl,rfl⟩:=hf21.2 V
     refine go 3 ?_
     obtain ⟨m,rfl⟩:∃m,n0=m+1:=⟨n0-1,J⟩
     have hel:kX 0 0 (gR l x0 k0) x0 k0 k0 3:=.err _ _ _ _ _ (by unfold gR;rw [if_pos ha7,if_pos J]) V
     have hst:∀z k' b' e',kX 3 k0 (lK l m x0 k0) z k' b' e' -> kX 0 0 (fH l) z k' b' e':=λz k' b' e' h=>hcont z k' b' e' Bi
     have hgo:3=0 -> k0<k0 /\ k0=0:=λh=>AB
     refine ⟨(x0,vg,vm,vf,k0,k0,3),⟨hk0,(show (3:Nat)<16 by decide),λh=>?_,λh=>hst _ _ _ _ (.skip h _ _ _),λh=>⟨(hgo h).2,m,?_,λz k' b' e' h2=>hst _ _ _ _ ?_⟩⟩,?_,cQf Dr⟩
     ·exact absurd h (show ¬(3:Nat)=0 by decide)
     ·have:=hgo h;show l.length <= m+k0;omega
     ·exact absurd h (show ¬(3:Nat)=0 by decide)
     show (if 3=0 then _ else _)<(if (0:Nat)=0 then _ else _)
     by_cases h:3=0
     ·have:=hgo h;rw [if_pos h,if_pos rfl];show l.length-k0+1<l.length-k0+1;omega
     rw [if_neg h,if_pos rfl];show 0<l.length-k0+1;omega
    refine go 4 ?_
    refine wyz Y (bF9 [] Y Y Y runUnderlying23) ?_
    refine wcp false Y (by rw [show bC .eql ((x0.globals.length:Nat):Int) 16=some (decide (x0.globals.length=16)) from jS (n:=16),decide_eq_false hglobals]) (go 28 ?_)
    refine wcQ Y call42 Y (bD2 [_] _ _ _ l k0 0 0 0 0 [118,97,114] V hok hk0) ?_
    rintro t23 s23 (⟨-,ha23,hm23,rfl,rfl⟩|⟨ha23,rfl,rfl⟩)
    ·refine go 4 ?_
     refine dx [] (tz [(0,true),(2,true)] 6 (go 3 ?_))
     refine t2 1 3 Y ?_ ?_
     focus
      refine way Y V (aX [] isAgg23 sizeOf23) ?_
      refine ox 3 Y Y (bD [P] call43 (bGs [_] _ _ _ l (k0+1) 0 0 0 hok hm23 V) Gg FU AU ?_)
      rintro t25 s25 ⟨x27,k27,u27,e27,rfl,hr27,hk27,he27,rfl⟩
      refine ox 4 Y Y (bDk (hf:=aV dB dB x27 Y Y Y) bDo ?_)
     rotate_left
     focus
      refine (bD [P] call43 (bGs [_] _ _ _ l (k0+1) 0 0 0 hok hm23 V) Gg FU AU ?_)
      rintro t27 s27 ⟨x27,k27,u27,e27,rfl,hr27,hk27,he27,rfl⟩
      refine t2 1 4 Y ?_ ?_
      focus
       refine way Y V (aX [] isAgg23 sizeOf23) ?_
       refine ox 4 Y Y (bDk (hf:=aV dB dB x27 Y Y Y) bDo ?_)
      rotate_left
      refine (bDk (hf:=aV dB dB x27 Y Y Y) bDo ?_)
      refine ox 1 Y Y (way Y V (aX [] isAgg23 sizeOf23) ?_)
     all_goals
      refine ox 5 Y Y (bDm [] bN3 Y Y V Bv C6 (@length_append _ x0.globals [x27]).symm Bf Bq (List.flatMap_append (f:=dB)).symm λv29=>?_)
      refine tz [(6,true),(7,false)] 0 (go 3 ?_)
      refine ax (go 2 ?_)
      obtain ⟨m,rfl⟩:∃m,n0=m+1:=⟨n0-1,J⟩
      have hel:kX 0 0 (gR l x0 k0) {x0 with globals:=x0.globals++[x27]} k27 u27 e27:=(hr27.map (f:=λg=>{x0 with globals:=x0.globals++[g]})).eq λ_=>by unfold gR;rw [if_pos ha7,if_neg J]
      have hst:∀z k' b' e',kX e27 u27 (lK l m {x0 with globals:=x0.globals++[x27]} k27) z k' b' e' -> kX 0 0 (fH l) z k' b' e':=λz k' b' e' h=>hcont z k' b' e' Bi
      have hgo:e27=0 -> k0<k27 /\ u27=0:=λh=>AB
      refine ⟨({x0 with globals:=x0.globals++[x27]},v29,vm,vf,k27,u27,e27),⟨hk27,he27,λh=>?_,λh=>hst _ _ _ _ (.skip h _ _ _),λh=>⟨(hgo h).2,m,?_,λz k' b' e' h2=>hst _ _ _ _ ?_⟩⟩,?_,cQf Dr⟩
      ·simp;omega
      ·have:=hgo h;show l.length <= m+k27;omega
      ·rw [show e27=0 from h,show u27=0 from (hgo h).2];exact h2
      show (if e27=0 then _ else _)<(if (0:Nat)=0 then _ else _)
      by_cases h:e27=0
      ·have:=hgo h;rw [if_pos h,if_pos rfl];show l.length-k27+1<l.length-k0+1;omega
      rw [if_neg h,if_pos rfl];show 0<l.length-k0+1;omega
    exact absurd (ha23 Y) (by rw [ha7];decide)
   refine go 1 ?_
   refine wcQ Y call40 Y (bGf [_] _ _ _ l k0 0 0 0 0 [109,117,116,101,120] V hok hk0) ?_
   rintro t30 s30 (⟨-,ha30,rfl,rfl⟩|⟨ha30,rfl,rfl⟩)
   ·refine go 5 ?_
    refine wcQ Y call40 Y (bGf [_] _ _ _ l k0 0 0 0 0 [102,117,110,99] V hok hk0) ?_
    rintro t31 s31 (⟨-,ha31,rfl,rfl⟩|⟨ha31,rfl,rfl⟩)
    ·exact absurd (bGa ha31 ha30) V
    refine go 9 ?_
    by_cases hmutexes:x0.mutexes.length=12
    ·refine go 11 ?_
     refine wyz Y (bF9 [_] Y Y Y runUnderlying24) ?_
     refine wcp true Y (by rw [hmutexes];rfl) (go 16 ?_)
     refine wcQ Y call41 Y (bEa [_] _ _ _ l k0 0 0 0 0 3) ?_
     rintro t33 s33 ⟨u33,e33,hf33,rfl,rfl⟩
     obtain ⟨rfl,rfl⟩:=hf33.1 rfl
     refine go 6 ?_
     refine wcQ Y call42 Y (bD2 [_] _ _ _ l k0 k0 3 0 0 [118,97,114] V hok hk0) ?_
     rintro t34 s34 (⟨hz34,-⟩|⟨ha34,rfl,rfl⟩)
     ·exact absurd hz34 V
     refine go 7 ?_
     refine wcQ Y call42 Y (bD2 [_] _ _ _ l k0 k0 3 0 0 [109,117,116,101,120] V hok hk0) ?_
     rintro t36 s36 (⟨hz36,-⟩|⟨ha36,rfl,rfl⟩)
     ·exact absurd hz36 V
     refine go 7 ?_
     refine wcQ Y call42 Y (bD2 [_] _ _ _ l k0 k0 3 0 0 [114,109,117,116,101,120] V hok hk0) ?_
     rintro t38 s38 (⟨hz38,-⟩|⟨ha38,rfl,rfl⟩)
     ·exact absurd hz38 V
     refine go 7 ?_
     refine wcQ Y call42 Y (bD2 [_] _ _ _ l k0 k0 3 0 0 [102,117,110,99] V hok hk0) ?_
     rintro t40 s40 (⟨hz40,-⟩|⟨ha40,rfl,rfl⟩)
     ·exact absurd hz40 V
     refine go 6 ?_
     refine wcQ Y call41 Y (bEa [_] _ _ _ l k0 k0 3 0 0 4) ?_
     rintro t42 s42 ⟨u42,e42,hf42,rfl,rfl⟩
     obtain ⟨rfl,rfl⟩:=hf42.2 V
     refine go 3 ?_
     obtain ⟨m,rfl⟩:∃m,n0=m+1:=⟨n0-1,J⟩
     have hel:kX 0 0 (gR l x0 k0) x0 k0 k0 3:=.err _ _ _ _ _ (by unfold gR;rw [if_neg Dj,if_pos ha30,if_pos J]) V
     have hst:∀z k' b' e',kX 3 k0 (lK l m x0 k0) z k' b' e' -> kX 0 0 (fH l) z k' b' e':=λz k' b' e' h=>hcont z k' b' e' Bi
     have hgo:3=0 -> k0<k0 /\ k0=0:=λh=>AB
     refine ⟨(x0,vg,vm,vf,k0,k0,3),⟨hk0,(show (3:Nat)<16 by decide),λh=>?_,λh=>hst _ _ _ _ (.skip h _ _ _),λh=>⟨(hgo h).2,m,?_,λz k' b' e' h2=>hst _ _ _ _ ?_⟩⟩,?_,cQf Dr⟩
     ·exact absurd h (show ¬(3:Nat)=0 by decide)
     ·have:=hgo h;show l.length <= m+k0;omega
     ·exact absurd h (show ¬(3:Nat)=0 by decide)
     show (if 3=0 then _ else _)<(if (0:Nat)=0 then _ else _)
     by_cases h:3=0
     ·have:=hgo h;rw [if_pos h,if_pos rfl];show l.length-k0+1<l.length-k0+1;omega
     rw [if_neg h,if_pos rfl];show 0<l.length-k0+1;omega
    refine go 11 ?_
    refine wyz Y (bF9 [_] Y Y Y runUnderlying24) ?_
    refine wcp false Y BC (go 20 ?_)
    refine wcQ Y call42 Y (bD2 [_] _ _ _ l k0 0 0 0 0 [118,97,114] V hok hk0) ?_
    rintro t44 s44 (⟨-,ha44,hm44,rfl,rfl⟩|⟨ha44,rfl,rfl⟩)
    ·exact absurd (bGa ha44 ha30) V
    refine go 7 ?_
    refine wcQ Y call42 Y (bD2 [_] _ _ _ l k0 0 0 0 0 [109,117,116,101,120] V hok hk0) ?_
    rintro t46 s46 (⟨-,ha46,hm46,rfl,rfl⟩|⟨ha46,rfl,rfl⟩)
    ·refine go 4 ?_
     refine dx [] (tz [(0,true),(2,true)] 6 (go 3 ?_))
     refine t2 1 3 Y ?_ ?_
     focus
      refine way Y V (aX [] isAgg24 sizeOf24) ?_
      refine ox 3 Y Y (bD [P] call44 (bGj [_] _ _ _ l (k0+1) 0 0 0 hok hm46 V) Gg FU AU ?_)
      rintro t48 s48 ⟨x50,k50,u50,e50,rfl,hr50,hk50,he50,rfl⟩
      refine ox 4 Y Y (bDk (hf:=aV bT bT x50 Y Y Y) bDx ?_)
     rotate_left
     focus
      refine (bD [P] call44 (bGj [_] _ _ _ l (k0+1) 0 0 0 hok hm46 V) Gg FU AU ?_)
      rintro t50 s50 ⟨x50,k50,u50,e50,rfl,hr50,hk50,he50,rfl⟩
      refine t2 1 4 Y ?_ ?_
      focus
       refine way Y V (aX [] isAgg24 sizeOf24) ?_
       refine ox 4 Y Y (bDk (hf:=aV bT bT x50 Y Y Y) bDx ?_)
      rotate_left
      refine (bDk (hf:=aV bT bT x50 Y Y Y) bDx ?_)
      refine ox 1 Y Y (way Y V (aX [] isAgg24 sizeOf24) ?_)
     all_goals
      refine ox 5 Y Y (bDm [_] cKb Y Y V Bv C6 (@length_append _ x0.mutexes [x50]).symm Bf Bq (List.flatMap_append (f:=bT)).symm λv52=>?_)
      refine tz [(6,true),(7,false)] 0 (go 3 ?_)
      refine ax (go 2 ?_)
      obtain ⟨m,rfl⟩:∃m,n0=m+1:=⟨n0-1,J⟩
      have hel:kX 0 0 (gR l x0 k0) {x0 with mutexes:=x0.mutexes++[x50]} k50 u50 e50:=(hr50.map (f:=λg=>{x0 with mutexes:=x0.mutexes++[g]})).eq λ_=>by unfold gR;rw [if_neg Dj,if_pos ha30,if_neg J]
      have hst:∀z k' b' e',kX e50 u50 (lK l m {x0 with mutexes:=x0.mutexes++[x50]} k50) z k' b' e' -> kX 0 0 (fH l) z k' b' e':=λz k' b' e' h=>hcont z k' b' e' Bi
      have hgo:e50=0 -> k0<k50 /\ u50=0:=λh=>AB
      refine ⟨({x0 with mutexes:=x0.mutexes++[x50]},vg,v52,vf,k50,u50,e50),⟨hk50,he50,λh=>?_,λh=>hst _ _ _ _ (.skip h _ _ _),λh=>⟨(hgo h).2,m,?_,λz k' b' e' h2=>hst _ _ _ _ ?_⟩⟩,?_,cQf Dr⟩
      ·simp;omega
      ·have:=hgo h;show l.length <= m+k50;omega
      ·rw [show e50=0 from h,show u50=0 from (hgo h).2];exact h2
      show (if e50=0 then _ else _)<(if (0:Nat)=0 then _ else _)
      by_cases h:e50=0
      ·have:=hgo h;rw [if_pos h,if_pos rfl];show l.length-k50+1<l.length-k0+1;omega
      rw [if_neg h,if_pos rfl];show 0<l.length-k0+1;omega
    exact absurd (ha46 Y) (by rw [ha30];decide)
   refine go 2 ?_
   refine wcQ Y call40 Y (bGf [_] _ _ _ l k0 0 0 0 0 [114,109,117,116,101,120] V hok hk0) ?_
   rintro t53 s53 (⟨-,ha53,rfl,rfl⟩|⟨ha53,rfl,rfl⟩)
   ·refine go 2 ?_
    refine wcQ Y call40 Y (bGf [_] _ _ _ l k0 0 0 0 0 [102,117,110,99] V hok hk0) ?_
    rintro t54 s54 (⟨-,ha54,rfl,rfl⟩|⟨ha54,rfl,rfl⟩)
    ·exact absurd (bGa ha54 ha53) V
    refine go 9 ?_
    by_cases hmutexes:x0.mutexes.length=12
    ·refine go 11 ?_
     refine wyz Y (bF9 [_] Y Y Y runUnderlying24) ?_
     refine wcp true Y (by rw [hmutexes];rfl) (go 16 ?_)
     refine wcQ Y call41 Y (bEa [_] _ _ _ l k0 0 0 0 0 3) ?_
     rintro t56 s56 ⟨u56,e56,hf56,rfl,rfl⟩
     obtain ⟨rfl,rfl⟩:=hf56.1 rfl
     refine go 6 ?_
     refine wcQ Y call42 Y (bD2 [_] _ _ _ l k0 k0 3 0 0 [118,97,114] V hok hk0) ?_
     rintro t57 s57 (⟨hz57,-⟩|⟨ha57,rfl,rfl⟩)
     ·exact absurd hz57 V
     refine go 7 ?_
     refine wcQ Y call42 Y (bD2 [_] _ _ _ l k0 k0 3 0 0 [109,117,116,101,120] V hok hk0) ?_
     rintro t59 s59 (⟨hz59,-⟩|⟨ha59,rfl,rfl⟩)
     ·exact absurd hz59 V
     refine go 7 ?_
     refine wcQ Y call42 Y (bD2 [_] _ _ _ l k0 k0 3 0 0 [114,109,117,116,101,120] V hok hk0) ?_
     rintro t61 s61 (⟨hz61,-⟩|⟨ha61,rfl,rfl⟩)
     ·exact absurd hz61 V
     refine go 7 ?_
     refine wcQ Y call42 Y (bD2 [_] _ _ _ l k0 k0 3 0 0 [102,117,110,99] V hok hk0) ?_
     rintro t63 s63 (⟨hz63,-⟩|⟨ha63,rfl,rfl⟩)
     ·exact absurd hz63 V
     refine go 6 ?_
     refine wcQ Y call41 Y (bEa [_] _ _ _ l k0 k0 3 0 0 4) ?_
     rintro t65 s65 ⟨u65,e65,hf65,rfl,rfl⟩
     obtain ⟨rfl,rfl⟩:=hf65.2 V
     refine go 3 ?_
     obtain ⟨m,rfl⟩:∃m,n0=m+1:=⟨n0-1,J⟩
     have hel:kX 0 0 (gR l x0 k0) x0 k0 k0 3:=.err _ _ _ _ _ (by unfold gR;rw [if_neg Dj,if_neg DJ,if_pos ha53,if_pos J]) V
     have hst:∀z k' b' e',kX 3 k0 (lK l m x0 k0) z k' b' e' -> kX 0 0 (fH l) z k' b' e':=λz k' b' e' h=>hcont z k' b' e' Bi
     have hgo:3=0 -> k0<k0 /\ k0=0:=λh=>AB
     refine ⟨(x0,vg,vm,vf,k0,k0,3),⟨hk0,(show (3:Nat)<16 by decide),λh=>?_,λh=>hst _ _ _ _ (.skip h _ _ _),λh=>⟨(hgo h).2,m,?_,λz k' b' e' h2=>hst _ _ _ _ ?_⟩⟩,?_,cQf Dr⟩
     ·exact absurd h (show ¬(3:Nat)=0 by decide)
     ·have:=hgo h;show l.length <= m+k0;omega
     ·exact absurd h (show ¬(3:Nat)=0 by decide)
     show (if 3=0 then _ else _)<(if (0:Nat)=0 then _ else _)
     by_cases h:3=0
     ·have:=hgo h;rw [if_pos h,if_pos rfl];show l.length-k0+1<l.length-k0+1;omega
     rw [if_neg h,if_pos rfl];show 0<l.length-k0+1;omega
    refine go 11 ?_
    refine wyz Y (bF9 [_] Y Y Y runUnderlying24) ?_
    refine wcp false Y BC (go 20 ?_)
    refine wcQ Y call42 Y (bD2 [_] _ _ _ l k0 0 0 0 0 [118,97,114] V hok hk0) ?_
    rintro t67 s67 (⟨-,ha67,hm67,rfl,rfl⟩|⟨ha67,rfl,rfl⟩)
    ·exact absurd (bGa ha67 ha53) V
    refine go 7 ?_
    refine wcQ Y call42 Y (bD2 [_] _ _ _ l k0 0 0 0 0 [109,117,116,101,120] V hok hk0) ?_
    rintro t69 s69 (⟨-,ha69,hm69,rfl,rfl⟩|⟨ha69,rfl,rfl⟩)
    ·exact absurd (bGa ha69 ha53) V
    refine go 7 ?_
    refine wcQ Y call42 Y (bD2 [_] _ _ _ l k0 0 0 0 0 [114,109,117,116,101,120] V hok hk0) ?_
    rintro t71 s71 (⟨-,ha71,hm71,rfl,rfl⟩|⟨ha71,rfl,rfl⟩)
    ·refine go 4 ?_
     refine dx [] (tz [(0,true),(2,true)] 6 (go 3 ?_))
     refine t2 1 3 Y ?_ ?_
     focus
      refine way Y V (aX [] isAgg24 sizeOf24) ?_
      refine ox 3 Y Y (bD [P] call44 (bGn [_] _ _ _ l (k0+1) 0 0 0 hok hm71 V) Gg FU AU ?_)
      rintro t73 s73 ⟨x75,k75,u75,e75,rfl,hr75,hk75,he75,rfl⟩
      refine ox 4 Y Y (bDk (hf:=aV bT bT x75 Y Y Y) bDx ?_)
     rotate_left
     focus
      refine (bD [P] call44 (bGn [_] _ _ _ l (k0+1) 0 0 0 hok hm71 V) Gg FU AU ?_)
      rintro t75 s75 ⟨x75,k75,u75,e75,rfl,hr75,hk75,he75,rfl⟩
      refine t2 1 4 Y ?_ ?_
      focus
       refine way Y V (aX [] isAgg24 sizeOf24) ?_
       refine ox 4 Y Y (bDk (hf:=aV bT bT x75 Y Y Y) bDx ?_)
      rotate_left
      refine (bDk (hf:=aV bT bT x75 Y Y Y) bDx ?_)
      refine ox 1 Y Y (way Y V (aX [] isAgg24 sizeOf24) ?_)
     all_goals
      refine ox 5 Y Y (bDm [_] cKb Y Y V Bv C6 (@length_append _ x0.mutexes [x75]).symm Bf Bq (List.flatMap_append (f:=bT)).symm λv77=>?_)
      refine tz [(6,true),(7,false)] 0 (go 3 ?_)
      refine ax (go 2 ?_)
      obtain ⟨m,rfl⟩:∃m,n0=m+1:=⟨n0-1,J⟩
      have hel:kX 0 0 (gR l x0 k0) {x0 with mutexes:=x0.mutexes++[x75]} k75 u75 e75:=(hr75.map (f:=λg=>{x0 with mutexes:=x0.mutexes++[g]})).eq λ_=>by unfold gR;rw [if_neg Dj,if_neg DJ,if_pos ha53,if_neg J]
      have hst:∀z k' b' e',kX e75 u75 (lK l m {x0 with mutexes:=x0.mutexes++[x75]} k75) z k' b' e' -> kX 0 0 (fH l) z k' b' e':=λz k' b' e' h=>hcont z k' b' e' Bi
      have hgo:e75=0 -> k0<k75 /\ u75=0:=λh=>AB
      refine ⟨({x0 with mutexes:=x0.mutexes++[x75]},vg,v77,vf,k75,u75,e75),⟨hk75,he75,λh=>?_,λh=>hst _ _ _ _ (.skip h _ _ _),λh=>⟨(hgo h).2,m,?_,λz k' b' e' h2=>hst _ _ _ _ ?_⟩⟩,?_,cQf Dr⟩
      ·simp;omega
      ·have:=hgo h;show l.length <= m+k75;omega
      ·rw [show e75=0 from h,show u75=0 from (hgo h).2];exact h2
      show (if e75=0 then _ else _)<(if (0:Nat)=0 then _ else _)
      by_cases h:e75=0
      ·have:=hgo h;rw [if_pos h,if_pos rfl];show l.length-k75+1<l.length-k0+1;omega
      rw [if_neg h,if_pos rfl];show 0<l.length-k0+1;omega
    exact absurd (ha71 Y) (by rw [ha53];decide)
   refine go 2 ?_
   refine wcQ Y call40 Y (bGf [_] _ _ _ l k0 0 0 0 0 [102,117,110,99] V hok hk0) ?_
   rintro t78 s78 (⟨-,ha78,rfl,rfl⟩|⟨ha78,rfl,rfl⟩)
   ·refine go 10 ?_
    by_cases hfuncs:x0.funcs.length=16
    ·refine go 19 ?_
     refine wyz Y (bF9 [_,_] Y Y Y runUnderlying25) ?_
     refine wcp true Y (by rw [hfuncs];rfl) (go 7 ?_)
     refine wcQ Y call41 Y (bEa [_] _ _ _ l k0 0 0 0 0 3) ?_
     rintro t80 s80 ⟨u80,e80,hf80,rfl,rfl⟩
     obtain ⟨rfl,rfl⟩:=hf80.1 rfl
     refine go 6 ?_
     refine wcQ Y call42 Y (bD2 [_] _ _ _ l k0 k0 3 0 0 [118,97,114] V hok hk0) ?_
     rintro t81 s81 (⟨hz81,-⟩|⟨ha81,rfl,rfl⟩)
     ·exact absurd hz81 V
     refine go 7 ?_
     refine wcQ Y call42 Y (bD2 [_] _ _ _ l k0 k0 3 0 0 [109,117,116,101,120] V hok hk0) ?_
     rintro t83 s83 (⟨hz83,-⟩|⟨ha83,rfl,rfl⟩)
     ·exact absurd hz83 V
     refine go 7 ?_
     refine wcQ Y call42 Y (bD2 [_] _ _ _ l k0 k0 3 0 0 [114,109,117,116,101,120] V hok hk0) ?_
     rintro t85 s85 (⟨hz85,-⟩|⟨ha85,rfl,rfl⟩)
     ·exact absurd hz85 V
     refine go 7 ?_
     refine wcQ Y call42 Y (bD2 [_] _ _ _ l k0 k0 3 0 0 [102,117,110,99] V hok hk0) ?_
     rintro t87 s87 (⟨hz87,-⟩|⟨ha87,rfl,rfl⟩)
     ·exact absurd hz87 V
     refine go 6 ?_
     refine wcQ Y call41 Y (bEa [_] _ _ _ l k0 k0 3 0 0 4) ?_
     rintro t89 s89 ⟨u89,e89,hf89,rfl,rfl⟩
     obtain ⟨rfl,rfl⟩:=hf89.2 V
     refine go 3 ?_
     obtain ⟨m,rfl⟩:∃m,n0=m+1:=⟨n0-1,J⟩
     have hel:kX 0 0 (gR l x0 k0) x0 k0 k0 3:=.err _ _ _ _ _ (by unfold gR;rw [if_neg Dj,if_neg DJ,if_neg E5,if_pos ha78,if_pos J]) V
     have hst:∀z k' b' e',kX 3 k0 (lK l m x0 k0) z k' b' e' -> kX 0 0 (fH l) z k' b' e':=λz k' b' e' h=>hcont z k' b' e' Bi
     have hgo:3=0 -> k0<k0 /\ k0=0:=λh=>AB
     refine ⟨(x0,vg,vm,vf,k0,k0,3),⟨hk0,(show (3:Nat)<16 by decide),λh=>?_,λh=>hst _ _ _ _ (.skip h _ _ _),λh=>⟨(hgo h).2,m,?_,λz k' b' e' h2=>hst _ _ _ _ ?_⟩⟩,?_,cQf Dr⟩
     ·exact absurd h (show ¬(3:Nat)=0 by decide)
     ·have:=hgo h;show l.length <= m+k0;omega
     ·exact absurd h (show ¬(3:Nat)=0 by decide)
     show (if 3=0 then _ else _)<(if (0:Nat)=0 then _ else _)
     by_cases h:3=0
     ·have:=hgo h;rw [if_pos h,if_pos rfl];show l.length-k0+1<l.length-k0+1;omega
     rw [if_neg h,if_pos rfl];show 0<l.length-k0+1;omega
    refine go 19 ?_
    refine wyz Y (bF9 [_,_] Y Y Y runUnderlying25) ?_
    refine wcp false Y (by rw [show bC .eql ((x0.funcs.length:Nat):Int) 16=some (decide (x0.funcs.length=16)) from jS (n:=16),decide_eq_false hfuncs]) (go 11 ?_)
    refine wcQ Y call42 Y (bD2 [_] _ _ _ l k0 0 0 0 0 [118,97,114] V hok hk0) ?_
    rintro t91 s91 (⟨-,ha91,hm91,rfl,rfl⟩|⟨ha91,rfl,rfl⟩)
    ·exact absurd (bGa ha91 ha78) V
    refine go 7 ?_
    refine wcQ Y call42 Y (bD2 [_] _ _ _ l k0 0 0 0 0 [109,117,116,101,120] V hok hk0) ?_
    rintro t93 s93 (⟨-,ha93,hm93,rfl,rfl⟩|⟨ha93,rfl,rfl⟩)
    ·exact absurd (bGa ha93 ha78) V
    refine go 7 ?_
    refine wcQ Y call42 Y (bD2 [_] _ _ _ l k0 0 0 0 0 [114,109,117,116,101,120] V hok hk0) ?_
    rintro t95 s95 (⟨-,ha95,hm95,rfl,rfl⟩|⟨ha95,rfl,rfl⟩)
    ·exact absurd (bGa ha95 ha78) V
    refine go 7 ?_
    refine wcQ Y call42 Y (bD2 [_] _ _ _ l k0 0 0 0 0 [102,117,110,99] V hok hk0) ?_
    rintro t97 s97 (⟨-,ha97,hm97,rfl,rfl⟩|⟨ha97,rfl,rfl⟩)
    ·refine go 7 ?_
     refine wcQ Y call45 Y (bEb [_] _ _ _ l (k0+1) 0 0 0 0 hok hm97 V) ?_
     rintro t99 s99 ⟨x99,k99,u99,e99,rfl,hr99,hk99,he99,rfl⟩
     refine go 8 λb4=>?_
     refine wcQ Y call46 Y (bG3 [_,_] _ _ _ l k99 u99 e99 0 hok hk99 he99) ?_
     rintro t100 s100 ⟨x100,k100,u100,e100,rfl,hr100,hk100,he100,rfl⟩
     refine go 7 ?_
     refine wcQ Y call47 Y (bEh l hok 24 (Nat.le_refl _) [_,_] _ _ _ k100 u100 e100 hk100 he100) ?_
     rintro t101 s101 ⟨x101,k101,u101,e101,rfl,hr101,hk101,he101,rfl⟩
     refine go 8 ?_
     refine wo Y (bDk (hf:=aV fV fV ⟨x99,x100,x101⟩ Y Y Y) bDs ?_)
     refine wo Y (bDm [_,_] cN3 Y Y V Bv C6 (@length_append _ x0.funcs [⟨x99,x100,x101⟩]).symm Bo Bq (List.flatMap_append (f:=fV)).symm λv102=>?_)
     refine go 5 ?_
     obtain ⟨m,rfl⟩:∃m,n0=m+1:=⟨n0-1,J⟩
     have hel:kX 0 0 (gR l x0 k0) {x0 with funcs:=x0.funcs++[bS.mk x99 x100 x101]} k101 u101 e101:=((hr99.bind (f:=λn k=>(jC l (fQ l) k).bind λp k=>(eX l 24 k).bind λb k=>.ok (bS.mk n p b) k) (hr100.bind (f:=λp k=>(eX l 24 k).bind λb k=>.ok (bS.mk x99 p b) k) (hr101.map (f:=λb=>bS.mk x99 x100 b))):kX _ _ (sW l (k0+1)) _ _ _ _).map (f:=λg=>{x0 with funcs:=x0.funcs++[g]})).eq λ_=>by unfold gR;rw [if_neg Dj,if_neg DJ,if_neg E5,if_pos ha78,if_neg J];rfl
     have hst:∀z k' b' e',kX e101 u101 (lK l m {x0 with funcs:=x0.funcs++[bS.mk x99 x100 x101]} k101) z k' b' e' -> kX 0 0 (fH l) z k' b' e':=λz k' b' e' h=>hcont z k' b' e' Bi
     have hgo:e101=0 -> k0<k101 /\ u101=0:=λh=>AB
     refine ⟨({x0 with funcs:=x0.funcs++[bS.mk x99 x100 x101]},vg,vm,v102,k101,u101,e101),⟨hk101,he101,λh=>?_,λh=>hst _ _ _ _ (.skip h _ _ _),λh=>⟨(hgo h).2,m,?_,λz k' b' e' h2=>hst _ _ _ _ ?_⟩⟩,?_,cQf (h1:=(.cons _ (.refl _))) Dr⟩
     ·simp;omega
     ·have:=hgo h;show l.length <= m+k101;omega
     ·rw [show e101=0 from h,show u101=0 from (hgo h).2];exact h2
     show (if e101=0 then _ else _)<(if (0:Nat)=0 then _ else _)
     by_cases h:e101=0
     ·have:=hgo h;rw [if_pos h,if_pos rfl];show l.length-k101+1<l.length-k0+1;omega
     rw [if_neg h,if_pos rfl];show 0<l.length-k0+1;omega
    exact absurd (ha97 Y) (by rw [ha78];decide)
   refine go 42 ?_
   refine wcQ Y call42 Y (bD2 [_] _ _ _ l k0 0 0 0 0 [118,97,114] V hok hk0) ?_
   rintro t104 s104 (⟨-,ha104,hm104,rfl,rfl⟩|⟨ha104,rfl,rfl⟩)
   ·exact absurd ha104 (by rw [(ha7 rfl)];decide)
   refine go 7 ?_
   refine wcQ Y call42 Y (bD2 [_] _ _ _ l k0 0 0 0 0 [109,117,116,101,120] V hok hk0) ?_
   rintro t106 s106 (⟨-,ha106,hm106,rfl,rfl⟩|⟨ha106,rfl,rfl⟩)
   ·exact absurd ha106 (by rw [(ha30 rfl)];decide)
   refine go 7 ?_
   refine wcQ Y call42 Y (bD2 [_] _ _ _ l k0 0 0 0 0 [114,109,117,116,101,120] V hok hk0) ?_
   rintro t108 s108 (⟨-,ha108,hm108,rfl,rfl⟩|⟨ha108,rfl,rfl⟩)
   ·exact absurd ha108 (by rw [(ha53 rfl)];decide)
   refine go 7 ?_
   refine wcQ Y call42 Y (bD2 [_] _ _ _ l k0 0 0 0 0 [102,117,110,99] V hok hk0) ?_
   rintro t110 s110 (⟨-,ha110,hm110,rfl,rfl⟩|⟨ha110,rfl,rfl⟩)
   ·exact absurd ha110 (by rw [(ha78 rfl)];decide)
   refine go 6 ?_
   refine wcQ Y call41 Y (bEa [_] _ _ _ l k0 0 0 0 0 4) ?_
   rintro t112 s112 ⟨u112,e112,hf112,rfl,rfl⟩
   obtain ⟨rfl,rfl⟩:=hf112.1 rfl
   refine go 3 ?_
   obtain ⟨m,rfl⟩:∃m,n0=m+1:=⟨n0-1,J⟩
   have hel:kX 0 0 (gR l x0 k0) x0 k0 k0 4:=.err _ _ _ _ _ (by unfold gR;rw [if_neg Dj,if_neg DJ,if_neg E5,if_neg (by rw [ha78 rfl];decide)]) V
   have hst:∀z k' b' e',kX 4 k0 (lK l m x0 k0) z k' b' e' -> kX 0 0 (fH l) z k' b' e':=λz k' b' e' h=>hcont z k' b' e' Bi
   have hgo:4=0 -> k0<k0 /\ k0=0:=λh=>AB
   refine ⟨(x0,vg,vm,vf,k0,k0,4),⟨hk0,(show (4:Nat)<16 by decide),λh=>?_,λh=>hst _ _ _ _ (.skip h _ _ _),λh=>⟨(hgo h).2,m,?_,λz k' b' e' h2=>hst _ _ _ _ ?_⟩⟩,?_,cQf Dr⟩
   ·exact absurd h (show ¬(4:Nat)=0 by decide)
   ·have:=hgo h;show l.length <= m+k0;omega
   ·exact absurd h (show ¬(4:Nat)=0 by decide)
   show (if 4=0 then _ else _)<(if (0:Nat)=0 then _ else _)
   by_cases h:4=0
   ·have:=hgo h;rw [if_pos h,if_pos rfl];show l.length-k0+1<l.length-k0+1;omega
   rw [if_neg h,if_pos rfl];show 0<l.length-k0+1;omega
  refine go 7 ?_
  refine wcp false Y (lA h0) (go 16 ?_)
  have herr:fH l=.err b0 e0:=by
   rcases hn0 h0 with ⟨h,_⟩|⟨_,⟨_,h,_⟩|⟨h,_⟩⟩
   ·exact absurd Y h
   ·exact absurd h h0
   exact h
  have hb0:b0<l.length:=by have h9:(fH l).At l 0:=aD9 hok.last _ _ _ hk;rw [herr] at h9;exact h9.2.1
  refine go 4 ?_
  refine wcp true Y (by simp [bC,h0]) (go 4 ?_)
  refine dx [b3,P] (tz [(0,true),(1,true),(2,true),(3,true),(4,true),(5,true)] 10 (go 7 ?_))
  refine tx 6 Y (bH aW aW l bJ (λ_=>Y) b0 Y Y Y Y hb0 V runUnderlying92 sizeOf107) (tz [(7,true),(8,true),(9,true),(10,true),(11,true),(12,true),(13,false),(14,true),(15,true)] 0 (go 10 ?_))
  refine ax (go 3 ?_)
  exact ⟨.inr Y,_,⟨bx,rw⟩,(pC Y (aCn (Wk.agg (.n (.n (.n .nil)))) (aO [_,_] Y Y isAgg27 sizeOf27 (bK Y Y))) (aF Y) (aF Y)),aA (.cons _ (.cons _ (.cons _ (.refl _)))) (.cons _ (.cons _ (.cons _ (.refl _)))),by rw [aBe hlx herr hb0];rfl,Y⟩
 refine go 13 ?_
 refine wcp true Y (by simp [bC,her]) (go 15 ?_)
 exact ⟨.inr Y,_,⟨bx,rw⟩,(pC Y (aCn (Wk.agg (.n (.n (.n .nil)))) (aO [] Y Y isAgg27 sizeOf27 (bK Y Y))) (aF Y) (aF Y)),aA (.cons _ (.refl _)) (.refl _),by rw [aA9 hlx];rfl,Y⟩
def cDq:List UInt8:=[109,117,116,101,120,32,97,59,32,102,117,110,99,32,109,97,105,110,40,41,32,123,32,108,111,99,107,32,97,59,32,117,110,108,111,99,107,32,97,59,32,125]
def cDj:List UInt8:=[109,117,116,101,120,32,97,59,32,102,117,110,99,32,109,97,105,110,40,41,32,123,32,108,111,99,107,32,97,59,32,108,111,99,107,32,98,59,32,125]
def cDr:List UInt8:=[]
def cE0(k:Int)(n:List UInt8):aJ:=.mk k aK .zero ⟨bytes n,[]⟩ [] [] []
def cE5(l:List aJ):cK:=⟨[],[⟨⟨#[97]⟩,false,0⟩],[⟨⟨#[109,97,105,110]⟩,[],l⟩]⟩
theorem cEm(k:Int)(n:List UInt8)(h0:0 <= k)(h1:k <= 9)(hn:n.length <= 9):(cE0 k n).sane:=by
 have e:aK.size <= 4611686018427387904:=V
 have f0:fit 0:=F2
 have f1:fit k:=F4
 have e2:(bytes n).size <= 4611686018427387904:=by rw [kT];omega
 simp only [cE0,aH.zero,aJ.sane,aH.sane,cY.sane,iI,gC,e,f0,f1,e2,not_mem_nil,and_true,true_and,false_implies,implies_true,forall_const]
theorem cEw{l:List aJ}(h:gC l):(cE5 l).sane:=by
 refine ⟨λg hg=>(by cases hg),λm hm=>?_,λf hf=>?_⟩
 ·obtain rfl:m=_:=List.mem_singleton.1 hm
  exact ⟨F2,V⟩
 obtain rfl:f=_:=List.mem_singleton.1 hf
 exact ⟨(V:(⟨#[109,97,105,110]⟩:ByteArray).size <= 4611686018427387904),λx hx=>(by cases hx),h⟩
theorem cE8:jM cDq=(cE5 [cE0 5 [97],cE0 6 [97]],42,0):=B6
theorem cE7:jM cDj=(cE5 [cE0 5 [97],cE0 5 [98]],40,0):=B6
theorem cE6:jM cDr=(⟨[],[],[]⟩,0,0):=B6
theorem cCn:(jM cDq).1.sane /\ (jM cDq).1.wt <= 16000 /\ cAb (jM cDq).1=(0,0,0):=by
 rw [cE8];exact ⟨cEw BF,of_decide_eq_true B6,B6⟩
theorem cCv:(jM cDj).1.sane /\ (jM cDj).1.wt <= 16000 /\ cAb (jM cDj).1=(0,1,6):=by
 rw [cE7];exact ⟨cEw BF,of_decide_eq_true B6,B6⟩
theorem cCu:(jM cDr).1.sane /\ (jM cDr).1.wt <= 16000 /\ cAb (jM cDr).1=(-1,-1,9):=by
 rw [cE6];exact ⟨⟨λg hg=>(by cases hg),λg hg=>(by cases hg),λg hg=>(by cases hg)⟩,of_decide_eq_true B6,B6⟩
theorem cBy(l:List UInt8)(hl:l.length <= 100000)(hs:(jM l).1.sane)(hw:(jM l).1.wt <= 16000){f s0:Int}{e:Nat}(hc:cAb (jM l).1=(f,s0,e))(s:Sto):aL prog 37 [bK5 (Cs (bytes l))] [] s λt s'=>t=.tup [Ci f,Ci s0,nI e] /\ s'=s:=by
 obtain ⟨bx,rw⟩:=s
 refine acX 20 func37 ?_
 refine go 10 ?_
 refine wo Y (aDc Y Y V Y underlying9 underlying38 underlying5 (by rw [kT];omega) (N:=l.length) Y (cs:=iF l) Y ?_)
 refine wc0 Y call18 Y (bGw l _) ?_
 rintro _ _ ⟨rfl,rfl⟩
 refine go 13 λb1=>?_
 refine wo Y (bMg 0 [] Y Y V call21 Y Y (cCm _ hs J _) bDl bDl (λ_=>bDl) ?_)
 rintro _ _ ⟨f1,s1,e1,hc1,rfl,rfl⟩
 rw [hc] at hc1
 cases hc1
 refine go 9 ?_
 exact ⟨.inr Y,_,⟨bx,rw⟩,pC Y (aF Y) (aF Y) (aF Y),aA ((List.sublist_cons_self _ _)) (List.Sublist.refl _),Y,Y⟩
theorem cEd(s:Sto):aL prog 37 [bK5 (Cs ⟨#[109,117,116,101,120,32,97,59,32,102,117,110,99,32,109,97,105,110,40,41,32,123,32,108,111,99,107,32,97,59,32,117,110,108,111,99,107,32,97,59,32,125]⟩)] [] s λt s'=>t=.tup [Ci 0,Ci 0,Ci 0] /\ s'=s:=cBy cDq V cCn.1 cCn.2.1 cCn.2.2 s
theorem cEi(s:Sto):aL prog 37 [bK5 (Cs ⟨#[109,117,116,101,120,32,97,59,32,102,117,110,99,32,109,97,105,110,40,41,32,123,32,108,111,99,107,32,97,59,32,108,111,99,107,32,98,59,32,125]⟩)] [] s λt s'=>t=.tup [Ci 0,Ci 1,Ci 6] /\ s'=s:=cBy cDj V cCv.1 cCv.2.1 cCv.2.2 s
theorem cEe(s:Sto):aL prog 37 [bK5 (Cs ⟨#[]⟩)] [] s λt s'=>t=.tup [Ci (-1),Ci (-1),Ci 9] /\ s'=s:=cBy cDr V cCu.1 cCu.2.1 cCu.2.2 s
theorem cCo(w:World)(he:bM9 w):Calls prog 16 #[] w λe w'=>e=.returned (.bool true) /\ Below w.heap.size w w':=by
 refine bPa func16 Y 42 (Nat.le_of_ble_eq_true Y) he ?_
 show AWp prog _ ⟨43,[],⟨[],[]⟩,[(42,bK5 (.raw undef))]⟩ _
 refine go 7 ?_
 refine wcR 42 Y call37 Y (cEd _) (go 11 ?_)
 refine wcR 42 Y call37 Y (cEi _) (go 11 ?_)
 refine wcR 42 Y call37 Y (cEe _) (go 12 ?_)
 refine wcp true Y B7 (go 2 ?_)
 refine wcp true Y B7 (go 3 ?_)
 refine wcp true Y B7 (go 3 ?_)
 refine wcp true Y B7 (go 3 ?_)
 refine wcp true Y B7 (go 5 ?_)
 exact ⟨.inr Y,_,⟨[],[]⟩,aR Y (aF Y),aA (List.nil_sublist _) (List.nil_sublist _),Y,Y⟩
end
section
structure cFc where
 name:ByteArray
 kind:Int
 n:Nat
def cE9(x:cFc):List AC:=[Vs x.name,Vi x.kind,nC x.n]
theorem cFm(x:cFc):(cE9 x).length=3:=rfl
structure cG5 where
 param:Bool
 index:Nat
 at_:List aH
def cF7(x:cG5):List AC:=[Vb x.param,nC x.index,Sq fO x.at_]
theorem cJ7(x:cG5):(cF7 x).length=3:=rfl
structure cFw where
 op:Int
 target:Nat
 global:Bool
 expr:aH
 place:cG5
 ints:List aH
 places:List cG5
def encI(x:cFw):List AC:=[Vi x.op,nC x.target,Vb x.global,Vi x.expr.op,Vi x.expr.num,Vs x.expr.name,Sq fO x.expr.args,Vb x.place.param,nC x.place.index,Sq fO x.place.at_,Sq fO x.ints,Sq cF7 x.places]
theorem cGj(x:cFw):(encI x).length=12:=rfl
def cN6:cFc:=⟨aK,0,0⟩
def plZ:cG5:=⟨false,0,[]⟩
def cFa:List cFc -> ByteArray -> Option cFc
 |[],_=>none
 |x::l,s=>if x.name=s then some x else cFa l s
def cN4:Option cFc -> cFc
 |none=>cN6
 |some v=>v
def cFb(l:List cFc)(s:ByteArray):cFc:=cN4 (cFa l s)
structure cHo (p:cK) (l:List cFc):Prop where
 ms:∀s v,cFa l s=some v -> v.kind=2 -> v.n<p.mutexes.length
 fs:∀s v,cFa l s=some v -> v.kind=3 -> v.n<p.funcs.length
abbrev ES:=Nat×Int
def cFg(q:ES)(e:Nat)(s:Int):ES:=if q.1=0 /\ e≠0 then (e,s) else q
def cFj(a b:Nat):Nat:=if a=0 then b else a
theorem cGg(q:ES)(s:Int):cFg q 0 s=q:=by unfold cFg;rw [if_neg G0]
theorem cGi(q:ES)(a b:Nat)(s:Int):cFg (cFg q a s) b s=cFg q (cFj a b) s:=by
 unfold cFg cFj
 by_cases h:q.1=0<;>by_cases ha:a=0<;>by_cases hb:b=0<;>simp [h,ha,hb]
theorem cJ1(b:Nat):cFj 0 b=b:=rfl
def cN1:Option cFc -> Nat
 |none=>6
 |some v=>if v.kind=1∨v.kind=4 then 0 else 8
def cGq(l:List cFc)(s:ByteArray):Nat:=cN1 (cFa l s)
def cJw(l:List cFc)(s:ByteArray):aH:=.mk (if (cFb l s).kind=1 then 19 else 18) ((cFb l s).n:Nat) aK []
mutual
def cFk(l:List cFc):aH -> aH
 |.mk op num name args=>if op=2 then cJw l name else .mk op num aK (cIl l args)
def cIl(l:List cFc):List aH -> List aH
 |[]=>[]
 |e::r=>cFk l e::cIl l r
end
mutual
def cFf(l:List cFc):aH -> Nat
 |.mk op _ name args=>if op=2 then cGq l name else cFq l args
def cFq(l:List cFc):List aH -> Nat
 |[]=>0
 |e::r=>cFj (cFf l e) (cFq l r)
end
theorem cIn(l:List cFc):∀r:List aH,cIl l r=r.map (cFk l)
 |[]=>by rw [cIl];rfl
 |e::r=>by rw [cIl,cIn l r];rfl
theorem cIs(l:List cFc)(e:aH):cFk l e=if e.op=2 then cJw l e.name else .mk e.op e.num aK (e.args.map (cFk l)):=by
 cases e;rw [cFk,cIn];rfl
theorem cIj(l:List cFc)(e:aH):cFf l e=if e.op=2 then cGq l e.name else cFq l e.args:=by cases e;rw [cFf];rfl
theorem cH6(a b c:Nat):cFj (cFj a b) c=cFj a (cFj b c):=by unfold cFj;by_cases h:a=0<;>simp [h]
theorem cH4(l:List cFc):∀(r:List aH)(e:aH),cFq l (r++[e])=cFj (cFq l r) (cFf l e)
 |[],e=>by rw [List.nil_append,cFq,cFq,cFq,cJ1];unfold cFj;split<;>simp_all
 |a::r,e=>by rw [List.cons_append,cFq,cFq,cH4 l r e,cH6]
theorem cH5(l:List cFc)(r:List aH)(k:Nat)(h:k<r.length)(q:ES)(s:Int):cFg (cFg q (cFq l (r.take k)) s) (cFf l r[k]) s=cFg q (cFq l (r.take (k+1))) s:=by
 rw [cGi,List.take_succ_eq_append_getElem h,cH4]
def cHk(p:cK)(n:Nat):Int:=match p.mutexes[n]? with
 |none=>0
 |some m=>m.size
theorem cGz{p:cK}{n:Nat}(h:n<p.mutexes.length):cHk p n=p.mutexes[n].size:=by unfold cHk;rw [List.getElem?_eq_getElem h]
def cG6(l:List cFc)(r:cY):cG5:=⟨decide ((cFb l r.name).kind=5),(cFb l r.name).n,r.index.map (cFk l)⟩
def cG3(p:cK)(n:Nat):Option cFc -> Nat
 |none=>6
 |some v=>if v.kind=2∨v.kind=5 then (if (decide (v.kind=2) && decide (0<cHk p v.n))=decide (0<n) then 0 else 8) else 8
def cGo(p:cK)(l:List cFc)(r:cY):Nat:=cFj (cG3 p r.index.length (cFa l r.name)) (cFq l r.index)
def cJh(p:cK)(l:List cFc)(a:eN):Nat:=if a.mutex then cGo p l a.ref else cFf l a.expr
def cF8(p:cK)(l:List cFc):List eN -> List aS -> Nat
 |a::r,x::xs=>if a.mutex=x.mutex then cFj (cJh p l a) (cF8 p l r xs) else 8
 |_,_=>0
def cGb:List eN -> List aS -> List eN
 |a::r,x::xs=>if a.mutex=x.mutex then a::cGb r xs else []
 |_,_=>[]
def cF4(l:List cFc)(al:List eN):List cG5:=(al.filter eN.mutex).map λa=>cG6 l a.ref
def cFn(l:List cFc)(al:List eN):List aH:=(al.filter λa=>!a.mutex).map λa=>cFk l a.expr
def cGc(p:cK)(n:Nat):List aS:=match p.funcs[n]? with
 |none=>[]
 |some f=>f.params
theorem cHc{p:cK}{n:Nat}(h:n<p.funcs.length):cGc p n=p.funcs[n].params:=by unfold cGc;rw [List.getElem?_eq_getElem h]
def cHb(p:cK)(l:List cFc)(al:List eN):Option cFc -> Nat
 |none=>6
 |some v=>if v.kind=3 then (if (cGc p v.n).length=al.length then cF8 p l al (cGc p v.n) else 7) else 8
def cFy(p:cK)(l:List cFc)(s:aJ):Nat:=cHb p l s.args (cFa l s.name)
def cG9(p:cK)(l:List cFc)(al:List eN)(op:Int):Option cFc -> cFw
 |none=>⟨op,0,false,.zero,plZ,[],[]⟩
 |some v=>if v.kind=3 then (if (cGc p v.n).length=al.length then ⟨op,v.n,false,.zero,plZ,cFn l (cGb al (cGc p v.n)),cF4 l (cGb al (cGc p v.n))⟩ else ⟨op,v.n,false,.zero,plZ,[],[]⟩) else ⟨op,0,false,.zero,plZ,[],[]⟩
def cGn(p:cK)(l:List cFc)(s:aJ):cFw:=cG9 p l s.args (if s.kind=4 then 3 else 2) (cFa l s.name)
structure LS where
 ents:List cFc
 locals:Nat
 n:Nat
 q:ES
 code:List cFw
 sites:List Int
def LS.put(x:LS)(i:cFw)(s:Nat):LS:=⟨x.ents,x.locals,x.n,x.q,x.code++[i],x.sites++[(s:Int)]⟩
def cFw.to(i:cFw)(t:Nat):cFw:=⟨i.op,t,i.global,i.expr,i.place,i.ints,i.places⟩
def LS.patch(x:LS)(b:Nat):LS:=⟨x.ents,x.locals,x.n,x.q,x.code.modify b (λi=>i.to x.code.length),x.sites⟩
def LS.beg(x:LS)(e:Nat):LS:=⟨x.ents,x.locals,x.n+1,cFg x.q e x.n,x.code,x.sites⟩
def cFv(l:List cFc)(s:ByteArray):Nat:=if (cFa l s).isSome then 5 else 0
def LS.var(x:LS)(s:ByteArray):LS:=⟨x.ents++[⟨s,4,x.locals⟩],x.locals+1,x.n,x.q,x.code,x.sites⟩
def opI(k:Int)(e:aH):cFw:=⟨k,0,false,e,plZ,[],[]⟩
def cFu(p:cK)(s:aJ)(x:LS):LS:=
 if s.kind=1 then ((x.beg (cFj (cFv x.ents s.name) (cFf x.ents s.expr))).put ⟨1,x.locals,false,cFk x.ents s.expr,plZ,[],[]⟩ x.n).var s.name
 else if s.kind=2 then (x.beg (cFj (cGq x.ents s.name) (cFf x.ents s.expr))).put ⟨1,(cFb x.ents s.name).n,decide ((cFb x.ents s.name).kind=1),cFk x.ents s.expr,plZ,[],[]⟩ x.n
 else if s.kind=3∨s.kind=4 then (x.beg (cFy p x.ents s)).put (cGn p x.ents s) x.n
 else if s.kind=5 then (x.beg (cGo p x.ents s.ref)).put ⟨4,0,false,.zero,cG6 x.ents s.ref,[],[]⟩ x.n
 else if s.kind=6 then (x.beg (cGo p x.ents s.ref)).put ⟨5,0,false,.zero,cG6 x.ents s.ref,[],[]⟩ x.n
 else (x.beg 0).put (opI 8 .zero) x.n
def LS.branch(x:LS)(e:aH):LS:=(x.beg (cFf x.ents e)).put (opI 6 (cFk x.ents e)) x.n
def LS.back(x:LS)(y:LS):LS:=⟨x.ents,y.locals,y.n,y.q,y.code,y.sites⟩
mutual
def cFs(p:cK):aJ -> LS -> LS
 |.mk k name e r args t f,x=>
  if k=7 then
   (if f.length=0 then ((x.branch e).back (cFe p t (x.branch e))).patch x.code.length
    else (LS.back x (cFe p f ((((x.branch e).back (cFe p t (x.branch e))).put (opI 7 .zero) x.n).patch x.code.length))).patch (cFe p t (x.branch e)).code.length)
  else if k=8 then (((x.branch e).back (cFe p t (x.branch e))).put ⟨7,x.code.length,false,.zero,plZ,[],[]⟩ x.n).patch x.code.length
  else cFu p (.mk k name e r args t f) x
def cFe(p:cK):List aJ -> LS -> LS
 |[],x=>x
 |s::l,x=>cFe p l (cFs p s x)
end
def cRs(p:cK)(l:List aJ)(x:LS):LS:=x.back (cFe p l x)
theorem cFz(p:cK)(s:aJ)(x:LS):cFs p s x=if s.kind=7 then
   (if s.els.length=0 then (cRs p s.thn (x.branch s.expr)).patch x.code.length
    else (cRs p s.els (((cRs p s.thn (x.branch s.expr)).put (opI 7 .zero) x.n).patch x.code.length)).patch (cRs p s.thn (x.branch s.expr)).code.length)
  else if s.kind=8 then ((cRs p s.thn (x.branch s.expr)).put ⟨7,x.code.length,false,.zero,plZ,[],[]⟩ x.n).patch x.code.length
  else cFu p s x:=by
 obtain ⟨k,n,e,r,a,t,f⟩:=s
 rw [cFs];rfl
theorem cIa(p:cK):∀(l:List aJ)(s:aJ)(x:LS),cFe p (l++[s]) x=cFs p s (cFe p l x)
 |[],s,x=>by rw [List.nil_append,cFe,cFe,cFe]
 |a::l,s,x=>by rw [List.cons_append,cFe,cFe,cIa p l s]
theorem cFo(p:cK)(l:List aJ)(k:Nat)(h:k<l.length)(x:LS):cFs p l[k] (cFe p (l.take k) x)=cFe p (l.take (k+1)) x:=by
 rw [List.take_succ_eq_append_getElem h,cIa]
def cFd(p:cK):List cFc:=p.globals.mapIdx (λi g=>⟨g.name,1,i⟩)++(p.mutexes.mapIdx (λi m=>⟨m.name,2,i⟩)++p.funcs.mapIdx (λi f=>⟨f.name,3,i⟩))
def cG0:List cFc -> List cFc -> Option Nat
 |_,[]=>none
 |l,x::r=>if (cFa l x.name).isSome then some l.length else cG0 (l++[x]) r
def cGd:List aS -> List cFc -> Nat -> Nat -> Option (List cFc×Nat×Nat)
 |[],l,i,m=>some (l,i,m)
 |x::r,l,i,m=>if (cFa l x.name).isSome then none else if x.mutex then cGd r (l++[⟨x.name,5,m⟩]) i (m+1) else cGd r (l++[⟨x.name,4,i⟩]) (i+1) m
def LS.init(l:List cFc)(i:Nat):LS:=⟨l,i,0,(0,0),[],[]⟩
def cJg(p:cK)(f:bS)(l:List cFc)(i:Nat):LS:=(cRs p f.body (LS.init l i)).put (opI 8 .zero) (cRs p f.body (LS.init l i)).n
def cGk(p:cK)(f:bS):ES:=match cGd f.params (cFd p) 0 0 with
 |none=>(5,-1)
 |some (l,i,_)=>(cJg p f l i).q
structure cI1 where
 name:ByteArray
 ints:Nat
 locks:Nat
 locals:Nat
 code:List cFw
def cGe(p:cK)(f:bS):cI1:=match cGd f.params (cFd p) 0 0 with
 |none=>⟨aK,0,0,0,[]⟩
 |some (l,i,m)=>⟨f.name,i,m,(cJg p f l i).locals,(cJg p f l i).code⟩
def cGh(p:cK):List bS -> Nat -> Int×Int×Nat
 |[],_=>(0,0,0)
 |f::r,i=>if (cGk p f).1=0 then cGh p r (i+1) else (i,(cGk p f).2,(cGk p f).1)
def cFl:ByteArray:=⟨#[109,97,105,110]⟩
def cHa(p:cK):Bool:=match cFa (cFd p) cFl with
 |none=>false
 |some v=>decide (v.kind=3) && decide ((cGc p v.n).length=0)
def cFx(p:cK):Int×Int×Nat:=
 if jI p=false then (-1,-1,10) else
 match cG0 [] (cFd p) with
 |some i=>(-1,i,5)
 |none=>if cHa p then cGh p p.funcs 0 else (-1,-1,9)
end
end Go.Proofs.YtbdfdjdgfanjaaaGreatDoor
