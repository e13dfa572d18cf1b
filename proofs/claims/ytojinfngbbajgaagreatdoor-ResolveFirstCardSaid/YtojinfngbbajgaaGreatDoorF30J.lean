import Derived.Test.YtojinfngbbajgaaGreatDoorF5J
import Derived.Test.YtojinfngbbajgaaGreatDoorF29J
import Derived.Test.YtojinfngbbajgaaGreatDoorF4J
import Derived.Test.YtojinfngbbajgaaGreatDoorF7J
set_option linter.all false
set_option synthInstance.maxHeartbeats 1000000
set_option synthInstance.maxSize 1000000
set_option maxHeartbeats 3200000
set_option maxRecDepth 100000
namespace Go.Proofs.YtojinfngbbajgaaGreatDoor
open Go.Proofs.Tryz
open List (length_append length_cons length_nil mem_append mem_cons not_mem_nil append_assoc getElem_mem take_of_length_le)
section
open Go.RowKit
theorem bGw(bs:List UInt8)(s:Sto):aL prog 24 [.c (.sl bs.length (iF bs))] [] s fun t s'=>t=.tup [.agg (jV (jM bs).1),.c (.val (.int .i64 ((jM bs).2.1:Int))),.c (.val (.int .i64 ((jM bs).2.2:Int)))] /\ s'=s:=by
 obtain ⟨bx,rw⟩:=s
 refine acB func24 rfl ?_
 show AWp prog _ ⟨146,[],⟨bx,rw⟩,[(0,.c (.sl bs.length (iF bs)))]⟩ _
 refine go 10 fun b1=>?_
 refine wo rfl (bD [] rfl rfl (by decide) call16 rfl (aLb bs _) bDl bDl (fun _=>bDl) ?_)
 rintro t1 s1 ⟨⟨l,hlx,rfl,hfew⟩|⟨p0,er,hlx,rfl,her⟩,rfl⟩
 ·have hok:=TOk.of hlx
  have hlen:=hok.len
  have hk:0<l.length:=hok.last.1
  have he:(0:Nat)<16:=by decide
  refine go 13 ?_
  refine wcp false rfl (by rfl) (go 18 fun P b3=>?_)
  refine qR 58 3 ?_
  refine qR 70 3 ?_
  refine qR 86 2 ?_
  refine fM (fun g:cK×Value×Value×Value×Nat×Nat×Nat=>(⟨146,aY g.2.1++(aY g.2.2.1++(aY g.2.2.2.1++[b3,P,b1])),⟨⟨b3,30,[.val g.2.1,.val g.2.2.1,.val g.2.2.2.1]⟩::⟨P,112,[.sl l.length (l.flatMap aW),.val (.int .i64 (((g.2.2.2.2.1):Nat):Int)),.val (.int .i64 (((g.2.2.2.2.2.1):Nat):Int)),.val (.int .i64 (((g.2.2.2.2.2.2):Nat):Int)),nC 0,nC 0]⟩::⟨b1,30,[.val (.slice none 0 0),.val (.slice none 0 0),.val (.slice none 0 0)]⟩::bx,⟨g.2.1,86,2,(g.1).globals.length,(g.1).globals.flatMap dB⟩::⟨g.2.2.1,70,3,(g.1).mutexes.length,(g.1).mutexes.flatMap bT⟩::⟨g.2.2.2.1,58,3,(g.1).funcs.length,(g.1).funcs.flatMap fV⟩::rw⟩,[(9,pP P),(8,pP b3),(6,.c (.val (.int .i64 (bs.length:Int)))),(5,.c (.sl l.length (l.flatMap aW))),(2,pP b1)]⟩:AS)) (fun g=>g.2.2.2.2.1<l.length /\ g.2.2.2.2.2.2<16 /\ (g.2.2.2.2.2.2=0 -> g.1.globals.length <= 16 /\ g.1.mutexes.length <= 12 /\ g.1.funcs.length <= 16) /\ (g.2.2.2.2.2.2≠0 -> kX 0 0 (fH l) g.1 g.2.2.2.2.1 g.2.2.2.2.2.1 g.2.2.2.2.2.2) /\ (g.2.2.2.2.2.2=0 -> g.2.2.2.2.2.1=0 /\ ∃n,l.length <= n+g.2.2.2.2.1 /\ ∀z k' b' e',kX 0 0 (lK l n g.1 g.2.2.2.2.1) z k' b' e' -> kX 0 0 (fH l) z k' b' e')) (fun g=>if g.2.2.2.2.2.2=0 then l.length-g.2.2.2.2.1+1 else 0) (⟨[],[],[]⟩,.slice none 0 0,.slice none 0 0,.slice none 0 0,0,0,0) (cA (.refl _) (.refl _) (by intro x hx;simpa [aY,Value.ownBlock] using hx) (sA rfl)) ⟨hk,he,fun _=>⟨Nat.zero_le _,Nat.zero_le _,Nat.zero_le _⟩,fun h=>absurd rfl h,fun _=>⟨rfl,l.length,Nat.le_add_right _ _,fun z k' b' e' h2=>h2⟩⟩ ?_
  rintro ⟨x0,vg,vm,vf,k0,b0,e0⟩ ⟨hk0,he0,ha0,hn0,hc0⟩
  dsimp only at hk0 he0 ha0 hn0 hc0
  show AWp prog _ (⟨146,aY vg++(aY vm++(aY vf++[b3,P,b1])),⟨⟨b3,30,[.val vg,.val vm,.val vf]⟩::⟨P,112,[.sl l.length (l.flatMap aW),.val (.int .i64 (((k0):Nat):Int)),.val (.int .i64 (((b0):Nat):Int)),.val (.int .i64 (((e0):Nat):Int)),nC 0,nC 0]⟩::⟨b1,30,[.val (.slice none 0 0),.val (.slice none 0 0),.val (.slice none 0 0)]⟩::bx,⟨vg,86,2,(x0).globals.length,(x0).globals.flatMap dB⟩::⟨vm,70,3,(x0).mutexes.length,(x0).mutexes.flatMap bT⟩::⟨vf,58,3,(x0).funcs.length,(x0).funcs.flatMap fV⟩::rw⟩,[(9,pP P),(8,pP b3),(6,.c (.val (.int .i64 (bs.length:Int)))),(5,.c (.sl l.length (l.flatMap aW))),(2,pP b1)]⟩:AS) _
  by_cases h0:e0=0
  ·subst h0
   obtain ⟨hl1,hl2,hl3⟩:=ha0 rfl
   obtain ⟨rfl,n0,hn1,hcont⟩:=hc0 rfl
   refine go 7 ?_
   refine wcp true rfl (by rfl) (go 2 ?_)
   refine wcQ rfl call50 rfl (bEv [_] _ _ _ l k0 0 0 0 0 5 hk0) ?_
   rintro t3 s3 (⟨-,ha3,rfl,rfl⟩|⟨ha3,rfl,rfl⟩)
   ·refine go 13 ?_
    obtain ⟨m,rfl⟩:∃m,n0=m+1:=⟨n0-1,by omega⟩
    have hfin:=hcont x0 k0 0 0 (by rw [lK,if_pos ha3];exact .ok _ _ _ rfl)
    have hgood:fH l=.ok x0 k0:=(hfin.good rfl).2.1
    refine go 4 ?_
    refine wcp false rfl (by rfl) (go 7 ?_)
    refine aAg [] 0 rfl rfl ?_
    refine aAg [] 1 rfl rfl ?_
    refine aAg [] 2 rfl rfl ?_
    refine go 8 ?_
    exact ⟨.inr rfl,_,⟨bx,rw⟩,(pC rfl (aO [_,_] rfl rfl isAgg30 sizeOf30 (bK rfl rfl)) (aF rfl) (aF rfl)),aA (.cons _ (.cons _ (.cons _ (.refl _)))) (.refl _),by rw [pT hlx hgood];rfl,rfl⟩
   refine go 10 ?_
   have hk5:¬(bU l k0).kind=5:=ha3 rfl
   refine go 1 ?_
   refine wcQ rfl call51 rfl (bGf [_] _ _ _ l k0 0 0 0 0 [118,97,114] (by decide) hok hk0) ?_
   rintro t7 s7 (⟨-,ha7,rfl,rfl⟩|⟨ha7,rfl,rfl⟩)
   ·refine go 1 ?_
    refine wcQ rfl call51 rfl (bGf [_] _ _ _ l k0 0 0 0 0 [109,117,116,101,120] (by decide) hok hk0) ?_
    rintro t8 s8 (⟨-,ha8,rfl,rfl⟩|⟨ha8,rfl,rfl⟩)
    ·exact absurd (bGa ha8 ha7) (by decide)
    refine go 2 ?_
    refine wcQ rfl call51 rfl (bGf [_] _ _ _ l k0 0 0 0 0 [114,109,117,116,101,120] (by decide) hok hk0) ?_
    rintro t9 s9 (⟨-,ha9,rfl,rfl⟩|⟨ha9,rfl,rfl⟩)
    ·exact absurd (bGa ha9 ha7) (by decide)
    refine go 2 ?_
    refine wcQ rfl call51 rfl (bGf [_] _ _ _ l k0 0 0 0 0 [102,117,110,99] (by decide) hok hk0) ?_
    rintro t10 s10 (⟨-,ha10,rfl,rfl⟩|⟨ha10,rfl,rfl⟩)
    ·exact absurd (bGa ha10 ha7) (by decide)
    refine go 8 ?_
    by_cases hglobals:x0.globals.length=16
    ·refine go 4 ?_
     refine wyz rfl (bF9 [] rfl rfl rfl runUnderlying26) ?_
     refine wcp true rfl (by rw [hglobals];rfl) (go 24 ?_)
     refine wcQ rfl call52 rfl (bEa [_] _ _ _ l k0 0 0 0 0 3) ?_
     rintro t12 s12 ⟨u12,e12,hf12,rfl,rfl⟩
     obtain ⟨rfl,rfl⟩:=hf12.1 rfl
     refine go 6 ?_
     refine wcQ rfl call53 rfl (bD2 [_] _ _ _ l k0 k0 3 0 0 [118,97,114] (by decide) hok hk0) ?_
     rintro t13 s13 (⟨hz13,-⟩|⟨ha13,rfl,rfl⟩)
     ·exact absurd hz13 (by decide)
     refine go 7 ?_
     refine wcQ rfl call53 rfl (bD2 [_] _ _ _ l k0 k0 3 0 0 [109,117,116,101,120] (by decide) hok hk0) ?_
     rintro t15 s15 (⟨hz15,-⟩|⟨ha15,rfl,rfl⟩)
     ·exact absurd hz15 (by decide)
     refine go 7 ?_
     refine wcQ rfl call53 rfl (bD2 [_] _ _ _ l k0 k0 3 0 0 [114,109,117,116,101,120] (by decide) hok hk0) ?_
     rintro t17 s17 (⟨hz17,-⟩|⟨ha17,rfl,rfl⟩)
     ·exact absurd hz17 (by decide)
     refine go 7 ?_
     refine wcQ rfl call53 rfl (bD2 [_] _ _ _ l k0 k0 3 0 0 [102,117,110,99] (by decide) hok hk0) ?_
     rintro t19 s19 (⟨hz19,-⟩|⟨ha19,rfl,rfl⟩)
     ·exact absurd hz19 (by decide)
     refine go 6 ?_
     refine wcQ rfl call52 rfl (bEa [_] _ _ _ l k0 k0 3 0 0 4) ?_
     rintro t21 s21 ⟨u21,e21,hf21,rfl,rfl⟩
     obtain ⟨rfl,rfl⟩:=hf21.2 (by decide)
     refine go 3 ?_
     obtain ⟨m,rfl⟩:∃m,n0=m+1:=⟨n0-1,by omega⟩
     have hel:kX 0 0 (gR l x0 k0) x0 k0 k0 3:=.err _ _ _ _ _ (by unfold gR;rw [if_pos ha7,if_pos (by omega)]) (by decide)
     have hst:∀z k' b' e',kX 3 k0 (lK l m x0 k0) z k' b' e' -> kX 0 0 (fH l) z k' b' e':=fun z k' b' e' h=>hcont z k' b' e' (by rw [lK,if_neg hk5];exact hel.bind h)
     have hgo:3=0 -> k0<k0 /\ k0=0:=fun h=>by have h9:=aAj hok.last (x:=x0) hk0;rw [(hel.good h).2.1] at h9;exact ⟨h9.1,(hel.good h).2.2⟩
     refine ⟨(x0,vg,vm,vf,k0,k0,3),⟨hk0,(show (3:Nat)<16 by decide),fun h=>?_,fun h=>hst _ _ _ _ (.skip h _ _ _),fun h=>⟨(hgo h).2,m,?_,fun z k' b' e' h2=>hst _ _ _ _ ?_⟩⟩,?_,cA (.refl _) (.refl _) (by grind) (sA rfl)⟩
     ·exact absurd h (show ¬(3:Nat)=0 by decide)
     ·have:=hgo h;show l.length <= m+k0;omega
     ·exact absurd h (show ¬(3:Nat)=0 by decide)
     show (if 3=0 then _ else _)<(if (0:Nat)=0 then _ else _)
     by_cases h:3=0
     ·have:=hgo h;rw [if_pos h,if_pos rfl];show l.length-k0+1<l.length-k0+1;omega
     rw [if_neg h,if_pos rfl];show 0<l.length-k0+1;omega
    refine go 4 ?_
    refine wyz rfl (bF9 [] rfl rfl rfl runUnderlying26) ?_
    refine wcp false rfl (by rw [show bC .eql ((x0.globals.length:Nat):Int) 16=some (decide (x0.globals.length=16)) from jS (n:=16),decide_eq_false hglobals]) (go 28 ?_)
    refine wcQ rfl call53 rfl (bD2 [_] _ _ _ l k0 0 0 0 0 [118,97,114] (by decide) hok hk0) ?_
    rintro t23 s23 (⟨-,ha23,hm23,rfl,rfl⟩|⟨ha23,rfl,rfl⟩)
    ·refine go 4 ?_
     refine dx [] (tz [(0,true),(2,true)] 6 (go 3 ?_))
     refine t2 1 3 rfl ?_ ?_
     ·refine way rfl (by decide) (aX [] rfl rfl rfl isAgg26 sizeOf26 rfl (fun _ h=>by cases h)) ?_
      refine ox 3 rfl rfl (bD [P] rfl rfl (by decide) call54 rfl (bGs [_] _ _ _ l (k0+1) 0 0 0 hok hm23 (by decide)) (by intro b hb;simp at hb;subst hb;simp) (by intro b hb;simp at hb;subst hb;simp [Sto.bl]) (by intro h b hb;simp at hb;subst hb;exact lU (by simp [Sto.bl])) ?_)
      rintro t25 s25 ⟨x25,k25,u25,e25,rfl,hr25,hk25,he25,rfl⟩
      refine ox 4 rfl rfl (bDk bHf rfl (.cons rfl .nil) (aV dB dB x25 rfl rfl rfl) ?_)
      refine ox 5 rfl rfl (bDm [] bDn rfl rfl (by decide) (by unfold maxLen;skip;omega) (by skip;omega) (@length_append _ x0.globals [x25]).symm (fun _ b hb=>lU (by simp [Sto.bl,hb])) (fun b hb=>by simp [hb]) (List.flatMap_append (f:=dB)).symm fun v26=>?_)
      refine tz [(6,true),(7,false)] 0 (go 3 ?_)
      refine ax (go 2 ?_)
      obtain ⟨m,rfl⟩:∃m,n0=m+1:=⟨n0-1,by omega⟩
      have hel:kX 0 0 (gR l x0 k0) {x0 with globals:=x0.globals++[x25]} k25 u25 e25:=(hr25.map (f:=fun g=>{x0 with globals:=x0.globals++[g]})).eq fun _=>by unfold gR;rw [if_pos ha7,if_neg (by omega)]
      have hst:∀z k' b' e',kX e25 u25 (lK l m {x0 with globals:=x0.globals++[x25]} k25) z k' b' e' -> kX 0 0 (fH l) z k' b' e':=fun z k' b' e' h=>hcont z k' b' e' (by rw [lK,if_neg hk5];exact hel.bind h)
      have hgo:e25=0 -> k0<k25 /\ u25=0:=fun h=>by have h9:=aAj hok.last (x:=x0) hk0;rw [(hel.good h).2.1] at h9;exact ⟨h9.1,(hel.good h).2.2⟩
      refine ⟨({x0 with globals:=x0.globals++[x25]},v26,vm,vf,k25,u25,e25),⟨hk25,he25,fun h=>?_,fun h=>hst _ _ _ _ (.skip h _ _ _),fun h=>⟨(hgo h).2,m,?_,fun z k' b' e' h2=>hst _ _ _ _ ?_⟩⟩,?_,cA (.refl _) (.refl _) (by grind) (sA rfl)⟩
      ·simp;omega
      ·have:=hgo h;show l.length <= m+k25;omega
      ·rw [show e25=0 from h,show u25=0 from (hgo h).2];exact h2
      show (if e25=0 then _ else _)<(if (0:Nat)=0 then _ else _)
      by_cases h:e25=0
      ·have:=hgo h;rw [if_pos h,if_pos rfl];show l.length-k25+1<l.length-k0+1;omega
      rw [if_neg h,if_pos rfl];show 0<l.length-k0+1;omega
     refine (bD [P] rfl rfl (by decide) call54 rfl (bGs [_] _ _ _ l (k0+1) 0 0 0 hok hm23 (by decide)) (by intro b hb;simp at hb;subst hb;simp) (by intro b hb;simp at hb;subst hb;simp [Sto.bl]) (by intro h b hb;simp at hb;subst hb;exact lU (by simp [Sto.bl])) ?_)
     rintro t27 s27 ⟨x27,k27,u27,e27,rfl,hr27,hk27,he27,rfl⟩
     refine t2 1 4 rfl ?_ ?_
     ·refine way rfl (by decide) (aX [] rfl rfl rfl isAgg26 sizeOf26 rfl (fun _ h=>by cases h)) ?_
      refine ox 4 rfl rfl (bDk bHf rfl (.cons rfl .nil) (aV dB dB x27 rfl rfl rfl) ?_)
      refine ox 5 rfl rfl (bDm [] bDn rfl rfl (by decide) (by unfold maxLen;skip;omega) (by skip;omega) (@length_append _ x0.globals [x27]).symm (fun _ b hb=>lU (by simp [Sto.bl,hb])) (fun b hb=>by simp [hb]) (List.flatMap_append (f:=dB)).symm fun v28=>?_)
      refine tz [(6,true),(7,false)] 0 (go 3 ?_)
      refine ax (go 2 ?_)
      obtain ⟨m,rfl⟩:∃m,n0=m+1:=⟨n0-1,by omega⟩
      have hel:kX 0 0 (gR l x0 k0) {x0 with globals:=x0.globals++[x27]} k27 u27 e27:=(hr27.map (f:=fun g=>{x0 with globals:=x0.globals++[g]})).eq fun _=>by unfold gR;rw [if_pos ha7,if_neg (by omega)]
      have hst:∀z k' b' e',kX e27 u27 (lK l m {x0 with globals:=x0.globals++[x27]} k27) z k' b' e' -> kX 0 0 (fH l) z k' b' e':=fun z k' b' e' h=>hcont z k' b' e' (by rw [lK,if_neg hk5];exact hel.bind h)
      have hgo:e27=0 -> k0<k27 /\ u27=0:=fun h=>by have h9:=aAj hok.last (x:=x0) hk0;rw [(hel.good h).2.1] at h9;exact ⟨h9.1,(hel.good h).2.2⟩
      refine ⟨({x0 with globals:=x0.globals++[x27]},v28,vm,vf,k27,u27,e27),⟨hk27,he27,fun h=>?_,fun h=>hst _ _ _ _ (.skip h _ _ _),fun h=>⟨(hgo h).2,m,?_,fun z k' b' e' h2=>hst _ _ _ _ ?_⟩⟩,?_,cA (.refl _) (.refl _) (by grind) (sA rfl)⟩
      ·simp;omega
      ·have:=hgo h;show l.length <= m+k27;omega
      ·rw [show e27=0 from h,show u27=0 from (hgo h).2];exact h2
      show (if e27=0 then _ else _)<(if (0:Nat)=0 then _ else _)
      by_cases h:e27=0
      ·have:=hgo h;rw [if_pos h,if_pos rfl];show l.length-k27+1<l.length-k0+1;omega
      rw [if_neg h,if_pos rfl];show 0<l.length-k0+1;omega
     refine (bDk bHf rfl (.cons rfl .nil) (aV dB dB x27 rfl rfl rfl) ?_)
     refine ox 1 rfl rfl (way rfl (by decide) (aX [] rfl rfl rfl isAgg26 sizeOf26 rfl (fun _ h=>by cases h)) ?_)
     refine ox 5 rfl rfl (bDm [] bDn rfl rfl (by decide) (by unfold maxLen;skip;omega) (by skip;omega) (@length_append _ x0.globals [x27]).symm (fun _ b hb=>lU (by simp [Sto.bl,hb])) (fun b hb=>by simp [hb]) (List.flatMap_append (f:=dB)).symm fun v29=>?_)
     refine tz [(6,true),(7,false)] 0 (go 3 ?_)
     refine ax (go 2 ?_)
     obtain ⟨m,rfl⟩:∃m,n0=m+1:=⟨n0-1,by omega⟩
     have hel:kX 0 0 (gR l x0 k0) {x0 with globals:=x0.globals++[x27]} k27 u27 e27:=(hr27.map (f:=fun g=>{x0 with globals:=x0.globals++[g]})).eq fun _=>by unfold gR;rw [if_pos ha7,if_neg (by omega)]
     have hst:∀z k' b' e',kX e27 u27 (lK l m {x0 with globals:=x0.globals++[x27]} k27) z k' b' e' -> kX 0 0 (fH l) z k' b' e':=fun z k' b' e' h=>hcont z k' b' e' (by rw [lK,if_neg hk5];exact hel.bind h)
     have hgo:e27=0 -> k0<k27 /\ u27=0:=fun h=>by have h9:=aAj hok.last (x:=x0) hk0;rw [(hel.good h).2.1] at h9;exact ⟨h9.1,(hel.good h).2.2⟩
     refine ⟨({x0 with globals:=x0.globals++[x27]},v29,vm,vf,k27,u27,e27),⟨hk27,he27,fun h=>?_,fun h=>hst _ _ _ _ (.skip h _ _ _),fun h=>⟨(hgo h).2,m,?_,fun z k' b' e' h2=>hst _ _ _ _ ?_⟩⟩,?_,cA (.refl _) (.refl _) (by grind) (sA rfl)⟩
     ·simp;omega
     ·have:=hgo h;show l.length <= m+k27;omega
     ·rw [show e27=0 from h,show u27=0 from (hgo h).2];exact h2
     show (if e27=0 then _ else _)<(if (0:Nat)=0 then _ else _)
     by_cases h:e27=0
     ·have:=hgo h;rw [if_pos h,if_pos rfl];show l.length-k27+1<l.length-k0+1;omega
     rw [if_neg h,if_pos rfl];show 0<l.length-k0+1;omega
    exact absurd (ha23 rfl) (by rw [ha7];decide)
   refine go 1 ?_
   refine wcQ rfl call51 rfl (bGf [_] _ _ _ l k0 0 0 0 0 [109,117,116,101,120] (by decide) hok hk0) ?_
   rintro t30 s30 (⟨-,ha30,rfl,rfl⟩|⟨ha30,rfl,rfl⟩)
   ·refine go 5 ?_
    refine wcQ rfl call51 rfl (bGf [_] _ _ _ l k0 0 0 0 0 [102,117,110,99] (by decide) hok hk0) ?_
    rintro t31 s31 (⟨-,ha31,rfl,rfl⟩|⟨ha31,rfl,rfl⟩)
    ·exact absurd (bGa ha31 ha30) (by decide)
    refine go 9 ?_
    by_cases hmutexes:x0.mutexes.length=12
    ·refine go 11 ?_
     refine wyz rfl (bF9 [_] rfl rfl rfl runUnderlying27) ?_
     refine wcp true rfl (by rw [hmutexes];rfl) (go 16 ?_)
     refine wcQ rfl call52 rfl (bEa [_] _ _ _ l k0 0 0 0 0 3) ?_
     rintro t33 s33 ⟨u33,e33,hf33,rfl,rfl⟩
     obtain ⟨rfl,rfl⟩:=hf33.1 rfl
     refine go 6 ?_
     refine wcQ rfl call53 rfl (bD2 [_] _ _ _ l k0 k0 3 0 0 [118,97,114] (by decide) hok hk0) ?_
     rintro t34 s34 (⟨hz34,-⟩|⟨ha34,rfl,rfl⟩)
     ·exact absurd hz34 (by decide)
     refine go 7 ?_
     refine wcQ rfl call53 rfl (bD2 [_] _ _ _ l k0 k0 3 0 0 [109,117,116,101,120] (by decide) hok hk0) ?_
     rintro t36 s36 (⟨hz36,-⟩|⟨ha36,rfl,rfl⟩)
     ·exact absurd hz36 (by decide)
     refine go 7 ?_
     refine wcQ rfl call53 rfl (bD2 [_] _ _ _ l k0 k0 3 0 0 [114,109,117,116,101,120] (by decide) hok hk0) ?_
     rintro t38 s38 (⟨hz38,-⟩|⟨ha38,rfl,rfl⟩)
     ·exact absurd hz38 (by decide)
     refine go 7 ?_
     refine wcQ rfl call53 rfl (bD2 [_] _ _ _ l k0 k0 3 0 0 [102,117,110,99] (by decide) hok hk0) ?_
     rintro t40 s40 (⟨hz40,-⟩|⟨ha40,rfl,rfl⟩)
     ·exact absurd hz40 (by decide)
     refine go 6 ?_
     refine wcQ rfl call52 rfl (bEa [_] _ _ _ l k0 k0 3 0 0 4) ?_
     rintro t42 s42 ⟨u42,e42,hf42,rfl,rfl⟩
     obtain ⟨rfl,rfl⟩:=hf42.2 (by decide)
     refine go 3 ?_
     obtain ⟨m,rfl⟩:∃m,n0=m+1:=⟨n0-1,by omega⟩
     have hel:kX 0 0 (gR l x0 k0) x0 k0 k0 3:=.err _ _ _ _ _ (by unfold gR;rw [if_neg (by rw [ha7 rfl];decide),if_pos ha30,if_pos (by omega)]) (by decide)
     have hst:∀z k' b' e',kX 3 k0 (lK l m x0 k0) z k' b' e' -> kX 0 0 (fH l) z k' b' e':=fun z k' b' e' h=>hcont z k' b' e' (by rw [lK,if_neg hk5];exact hel.bind h)
     have hgo:3=0 -> k0<k0 /\ k0=0:=fun h=>by have h9:=aAj hok.last (x:=x0) hk0;rw [(hel.good h).2.1] at h9;exact ⟨h9.1,(hel.good h).2.2⟩
     refine ⟨(x0,vg,vm,vf,k0,k0,3),⟨hk0,(show (3:Nat)<16 by decide),fun h=>?_,fun h=>hst _ _ _ _ (.skip h _ _ _),fun h=>⟨(hgo h).2,m,?_,fun z k' b' e' h2=>hst _ _ _ _ ?_⟩⟩,?_,cA (.refl _) (.refl _) (by grind) (sA rfl)⟩
     ·exact absurd h (show ¬(3:Nat)=0 by decide)
     ·have:=hgo h;show l.length <= m+k0;omega
     ·exact absurd h (show ¬(3:Nat)=0 by decide)
     show (if 3=0 then _ else _)<(if (0:Nat)=0 then _ else _)
     by_cases h:3=0
     ·have:=hgo h;rw [if_pos h,if_pos rfl];show l.length-k0+1<l.length-k0+1;omega
     rw [if_neg h,if_pos rfl];show 0<l.length-k0+1;omega
    refine go 11 ?_
    refine wyz rfl (bF9 [_] rfl rfl rfl runUnderlying27) ?_
    refine wcp false rfl (by rw [show bC .eql ((x0.mutexes.length:Nat):Int) 12=some (decide (x0.mutexes.length=12)) from jS (n:=12),decide_eq_false hmutexes]) (go 20 ?_)
    refine wcQ rfl call53 rfl (bD2 [_] _ _ _ l k0 0 0 0 0 [118,97,114] (by decide) hok hk0) ?_
    rintro t44 s44 (⟨-,ha44,hm44,rfl,rfl⟩|⟨ha44,rfl,rfl⟩)
    ·exact absurd (bGa ha44 ha30) (by decide)
    refine go 7 ?_
    refine wcQ rfl call53 rfl (bD2 [_] _ _ _ l k0 0 0 0 0 [109,117,116,101,120] (by decide) hok hk0) ?_
    rintro t46 s46 (⟨-,ha46,hm46,rfl,rfl⟩|⟨ha46,rfl,rfl⟩)
    ·refine go 4 ?_
     refine dx [] (tz [(0,true),(2,true)] 6 (go 3 ?_))
     refine t2 1 3 rfl ?_ ?_
     ·refine way rfl (by decide) (aX [] rfl rfl rfl isAgg27 sizeOf27 rfl (fun _ h=>by cases h)) ?_
      refine ox 3 rfl rfl (bD [P] rfl rfl (by decide) call55 rfl (bGj [_] _ _ _ l (k0+1) 0 0 0 hok hm46 (by decide)) (by intro b hb;simp at hb;subst hb;simp) (by intro b hb;simp at hb;subst hb;simp [Sto.bl]) (by intro h b hb;simp at hb;subst hb;exact lU (by simp [Sto.bl])) ?_)
      rintro t48 s48 ⟨x48,k48,u48,e48,rfl,hr48,hk48,he48,rfl⟩
      refine ox 4 rfl rfl (bDk zb8 rfl (.cons rfl .nil) (aV bT bT x48 rfl rfl rfl) ?_)
      refine ox 5 rfl rfl (bDm [_] bWh rfl rfl (by decide) (by unfold maxLen;skip;omega) (by skip;omega) (@length_append _ x0.mutexes [x48]).symm (fun _ b hb=>lU (by simp [Sto.bl,hb])) (fun b hb=>by simp [hb]) (List.flatMap_append (f:=bT)).symm fun v49=>?_)
      refine tz [(6,true),(7,false)] 0 (go 3 ?_)
      refine ax (go 2 ?_)
      obtain ⟨m,rfl⟩:∃m,n0=m+1:=⟨n0-1,by omega⟩
      have hel:kX 0 0 (gR l x0 k0) {x0 with mutexes:=x0.mutexes++[x48]} k48 u48 e48:=(hr48.map (f:=fun g=>{x0 with mutexes:=x0.mutexes++[g]})).eq fun _=>by unfold gR;rw [if_neg (by rw [ha7 rfl];decide),if_pos ha30,if_neg (by omega)]
      have hst:∀z k' b' e',kX e48 u48 (lK l m {x0 with mutexes:=x0.mutexes++[x48]} k48) z k' b' e' -> kX 0 0 (fH l) z k' b' e':=fun z k' b' e' h=>hcont z k' b' e' (by rw [lK,if_neg hk5];exact hel.bind h)
      have hgo:e48=0 -> k0<k48 /\ u48=0:=fun h=>by have h9:=aAj hok.last (x:=x0) hk0;rw [(hel.good h).2.1] at h9;exact ⟨h9.1,(hel.good h).2.2⟩
      refine ⟨({x0 with mutexes:=x0.mutexes++[x48]},vg,v49,vf,k48,u48,e48),⟨hk48,he48,fun h=>?_,fun h=>hst _ _ _ _ (.skip h _ _ _),fun h=>⟨(hgo h).2,m,?_,fun z k' b' e' h2=>hst _ _ _ _ ?_⟩⟩,?_,cA (.refl _) (.refl _) (by grind) (sA rfl)⟩
      ·simp;omega
      ·have:=hgo h;show l.length <= m+k48;omega
      ·rw [show e48=0 from h,show u48=0 from (hgo h).2];exact h2
      show (if e48=0 then _ else _)<(if (0:Nat)=0 then _ else _)
      by_cases h:e48=0
      ·have:=hgo h;rw [if_pos h,if_pos rfl];show l.length-k48+1<l.length-k0+1;omega
      rw [if_neg h,if_pos rfl];show 0<l.length-k0+1;omega
     refine (bD [P] rfl rfl (by decide) call55 rfl (bGj [_] _ _ _ l (k0+1) 0 0 0 hok hm46 (by decide)) (by intro b hb;simp at hb;subst hb;simp) (by intro b hb;simp at hb;subst hb;simp [Sto.bl]) (by intro h b hb;simp at hb;subst hb;exact lU (by simp [Sto.bl])) ?_)
     rintro t50 s50 ⟨x50,k50,u50,e50,rfl,hr50,hk50,he50,rfl⟩
     refine t2 1 4 rfl ?_ ?_
     ·refine way rfl (by decide) (aX [] rfl rfl rfl isAgg27 sizeOf27 rfl (fun _ h=>by cases h)) ?_
      refine ox 4 rfl rfl (bDk zb8 rfl (.cons rfl .nil) (aV bT bT x50 rfl rfl rfl) ?_)
      refine ox 5 rfl rfl (bDm [_] bWh rfl rfl (by decide) (by unfold maxLen;skip;omega) (by skip;omega) (@length_append _ x0.mutexes [x50]).symm (fun _ b hb=>lU (by simp [Sto.bl,hb])) (fun b hb=>by simp [hb]) (List.flatMap_append (f:=bT)).symm fun v51=>?_)
      refine tz [(6,true),(7,false)] 0 (go 3 ?_)
      refine ax (go 2 ?_)
      obtain ⟨m,rfl⟩:∃m,n0=m+1:=⟨n0-1,by omega⟩
      have hel:kX 0 0 (gR l x0 k0) {x0 with mutexes:=x0.mutexes++[x50]} k50 u50 e50:=(hr50.map (f:=fun g=>{x0 with mutexes:=x0.mutexes++[g]})).eq fun _=>by unfold gR;rw [if_neg (by rw [ha7 rfl];decide),if_pos ha30,if_neg (by omega)]
      have hst:∀z k' b' e',kX e50 u50 (lK l m {x0 with mutexes:=x0.mutexes++[x50]} k50) z k' b' e' -> kX 0 0 (fH l) z k' b' e':=fun z k' b' e' h=>hcont z k' b' e' (by rw [lK,if_neg hk5];exact hel.bind h)
      have hgo:e50=0 -> k0<k50 /\ u50=0:=fun h=>by have h9:=aAj hok.last (x:=x0) hk0;rw [(hel.good h).2.1] at h9;exact ⟨h9.1,(hel.good h).2.2⟩
      refine ⟨({x0 with mutexes:=x0.mutexes++[x50]},vg,v51,vf,k50,u50,e50),⟨hk50,he50,fun h=>?_,fun h=>hst _ _ _ _ (.skip h _ _ _),fun h=>⟨(hgo h).2,m,?_,fun z k' b' e' h2=>hst _ _ _ _ ?_⟩⟩,?_,cA (.refl _) (.refl _) (by grind) (sA rfl)⟩
      ·simp;omega
      ·have:=hgo h;show l.length <= m+k50;omega
      ·rw [show e50=0 from h,show u50=0 from (hgo h).2];exact h2
      show (if e50=0 then _ else _)<(if (0:Nat)=0 then _ else _)
      by_cases h:e50=0
      ·have:=hgo h;rw [if_pos h,if_pos rfl];show l.length-k50+1<l.length-k0+1;omega
      rw [if_neg h,if_pos rfl];show 0<l.length-k0+1;omega
     refine (bDk zb8 rfl (.cons rfl .nil) (aV bT bT x50 rfl rfl rfl) ?_)
     refine ox 1 rfl rfl (way rfl (by decide) (aX [] rfl rfl rfl isAgg27 sizeOf27 rfl (fun _ h=>by cases h)) ?_)
     refine ox 5 rfl rfl (bDm [_] bWh rfl rfl (by decide) (by unfold maxLen;skip;omega) (by skip;omega) (@length_append _ x0.mutexes [x50]).symm (fun _ b hb=>lU (by simp [Sto.bl,hb])) (fun b hb=>by simp [hb]) (List.flatMap_append (f:=bT)).symm fun v52=>?_)
     refine tz [(6,true),(7,false)] 0 (go 3 ?_)
     refine ax (go 2 ?_)
     obtain ⟨m,rfl⟩:∃m,n0=m+1:=⟨n0-1,by omega⟩
     have hel:kX 0 0 (gR l x0 k0) {x0 with mutexes:=x0.mutexes++[x50]} k50 u50 e50:=(hr50.map (f:=fun g=>{x0 with mutexes:=x0.mutexes++[g]})).eq fun _=>by unfold gR;rw [if_neg (by rw [ha7 rfl];decide),if_pos ha30,if_neg (by omega)]
     have hst:∀z k' b' e',kX e50 u50 (lK l m {x0 with mutexes:=x0.mutexes++[x50]} k50) z k' b' e' -> kX 0 0 (fH l) z k' b' e':=fun z k' b' e' h=>hcont z k' b' e' (by rw [lK,if_neg hk5];exact hel.bind h)
     have hgo:e50=0 -> k0<k50 /\ u50=0:=fun h=>by have h9:=aAj hok.last (x:=x0) hk0;rw [(hel.good h).2.1] at h9;exact ⟨h9.1,(hel.good h).2.2⟩
     refine ⟨({x0 with mutexes:=x0.mutexes++[x50]},vg,v52,vf,k50,u50,e50),⟨hk50,he50,fun h=>?_,fun h=>hst _ _ _ _ (.skip h _ _ _),fun h=>⟨(hgo h).2,m,?_,fun z k' b' e' h2=>hst _ _ _ _ ?_⟩⟩,?_,cA (.refl _) (.refl _) (by grind) (sA rfl)⟩
     ·simp;omega
     ·have:=hgo h;show l.length <= m+k50;omega
     ·rw [show e50=0 from h,show u50=0 from (hgo h).2];exact h2
     show (if e50=0 then _ else _)<(if (0:Nat)=0 then _ else _)
     by_cases h:e50=0
     ·have:=hgo h;rw [if_pos h,if_pos rfl];show l.length-k50+1<l.length-k0+1;omega
     rw [if_neg h,if_pos rfl];show 0<l.length-k0+1;omega
    exact absurd (ha46 rfl) (by rw [ha30];decide)
   refine go 2 ?_
   refine wcQ rfl call51 rfl (bGf [_] _ _ _ l k0 0 0 0 0 [114,109,117,116,101,120] (by decide) hok hk0) ?_
   rintro t53 s53 (⟨-,ha53,rfl,rfl⟩|⟨ha53,rfl,rfl⟩)
   ·refine go 2 ?_
    refine wcQ rfl call51 rfl (bGf [_] _ _ _ l k0 0 0 0 0 [102,117,110,99] (by decide) hok hk0) ?_
    rintro t54 s54 (⟨-,ha54,rfl,rfl⟩|⟨ha54,rfl,rfl⟩)
    ·exact absurd (bGa ha54 ha53) (by decide)
    refine go 9 ?_
    by_cases hmutexes:x0.mutexes.length=12
    ·refine go 11 ?_
     refine wyz rfl (bF9 [_] rfl rfl rfl runUnderlying27) ?_
     refine wcp true rfl (by rw [hmutexes];rfl) (go 16 ?_)
     refine wcQ rfl call52 rfl (bEa [_] _ _ _ l k0 0 0 0 0 3) ?_
     rintro t56 s56 ⟨u56,e56,hf56,rfl,rfl⟩
     obtain ⟨rfl,rfl⟩:=hf56.1 rfl
     refine go 6 ?_
     refine wcQ rfl call53 rfl (bD2 [_] _ _ _ l k0 k0 3 0 0 [118,97,114] (by decide) hok hk0) ?_
     rintro t57 s57 (⟨hz57,-⟩|⟨ha57,rfl,rfl⟩)
     ·exact absurd hz57 (by decide)
     refine go 7 ?_
     refine wcQ rfl call53 rfl (bD2 [_] _ _ _ l k0 k0 3 0 0 [109,117,116,101,120] (by decide) hok hk0) ?_
     rintro t59 s59 (⟨hz59,-⟩|⟨ha59,rfl,rfl⟩)
     ·exact absurd hz59 (by decide)
     refine go 7 ?_
     refine wcQ rfl call53 rfl (bD2 [_] _ _ _ l k0 k0 3 0 0 [114,109,117,116,101,120] (by decide) hok hk0) ?_
     rintro t61 s61 (⟨hz61,-⟩|⟨ha61,rfl,rfl⟩)
     ·exact absurd hz61 (by decide)
     refine go 7 ?_
     refine wcQ rfl call53 rfl (bD2 [_] _ _ _ l k0 k0 3 0 0 [102,117,110,99] (by decide) hok hk0) ?_
     rintro t63 s63 (⟨hz63,-⟩|⟨ha63,rfl,rfl⟩)
     ·exact absurd hz63 (by decide)
     refine go 6 ?_
     refine wcQ rfl call52 rfl (bEa [_] _ _ _ l k0 k0 3 0 0 4) ?_
     rintro t65 s65 ⟨u65,e65,hf65,rfl,rfl⟩
     obtain ⟨rfl,rfl⟩:=hf65.2 (by decide)
     refine go 3 ?_
     obtain ⟨m,rfl⟩:∃m,n0=m+1:=⟨n0-1,by omega⟩
     have hel:kX 0 0 (gR l x0 k0) x0 k0 k0 3:=.err _ _ _ _ _ (by unfold gR;rw [if_neg (by rw [ha7 rfl];decide),if_neg (by rw [ha30 rfl];decide),if_pos ha53,if_pos (by omega)]) (by decide)
     have hst:∀z k' b' e',kX 3 k0 (lK l m x0 k0) z k' b' e' -> kX 0 0 (fH l) z k' b' e':=fun z k' b' e' h=>hcont z k' b' e' (by rw [lK,if_neg hk5];exact hel.bind h)
     have hgo:3=0 -> k0<k0 /\ k0=0:=fun h=>by have h9:=aAj hok.last (x:=x0) hk0;rw [(hel.good h).2.1] at h9;exact ⟨h9.1,(hel.good h).2.2⟩
     refine ⟨(x0,vg,vm,vf,k0,k0,3),⟨hk0,(show (3:Nat)<16 by decide),fun h=>?_,fun h=>hst _ _ _ _ (.skip h _ _ _),fun h=>⟨(hgo h).2,m,?_,fun z k' b' e' h2=>hst _ _ _ _ ?_⟩⟩,?_,cA (.refl _) (.refl _) (by grind) (sA rfl)⟩
     ·exact absurd h (show ¬(3:Nat)=0 by decide)
     ·have:=hgo h;show l.length <= m+k0;omega
     ·exact absurd h (show ¬(3:Nat)=0 by decide)
     show (if 3=0 then _ else _)<(if (0:Nat)=0 then _ else _)
     by_cases h:3=0
     ·have:=hgo h;rw [if_pos h,if_pos rfl];show l.length-k0+1<l.length-k0+1;omega
     rw [if_neg h,if_pos rfl];show 0<l.length-k0+1;omega
    refine go 11 ?_
    refine wyz rfl (bF9 [_] rfl rfl rfl runUnderlying27) ?_
    refine wcp false rfl (by rw [show bC .eql ((x0.mutexes.length:Nat):Int) 12=some (decide (x0.mutexes.length=12)) from jS (n:=12),decide_eq_false hmutexes]) (go 20 ?_)
    refine wcQ rfl call53 rfl (bD2 [_] _ _ _ l k0 0 0 0 0 [118,97,114] (by decide) hok hk0) ?_
    rintro t67 s67 (⟨-,ha67,hm67,rfl,rfl⟩|⟨ha67,rfl,rfl⟩)
    ·exact absurd (bGa ha67 ha53) (by decide)
    refine go 7 ?_
    refine wcQ rfl call53 rfl (bD2 [_] _ _ _ l k0 0 0 0 0 [109,117,116,101,120] (by decide) hok hk0) ?_
    rintro t69 s69 (⟨-,ha69,hm69,rfl,rfl⟩|⟨ha69,rfl,rfl⟩)
    ·exact absurd (bGa ha69 ha53) (by decide)
    refine go 7 ?_
    refine wcQ rfl call53 rfl (bD2 [_] _ _ _ l k0 0 0 0 0 [114,109,117,116,101,120] (by decide) hok hk0) ?_
    rintro t71 s71 (⟨-,ha71,hm71,rfl,rfl⟩|⟨ha71,rfl,rfl⟩)
    ·refine go 4 ?_
     refine dx [] (tz [(0,true),(2,true)] 6 (go 3 ?_))
     refine t2 1 3 rfl ?_ ?_
     ·refine way rfl (by decide) (aX [] rfl rfl rfl isAgg27 sizeOf27 rfl (fun _ h=>by cases h)) ?_
      refine ox 3 rfl rfl (bD [P] rfl rfl (by decide) call55 rfl (bGn [_] _ _ _ l (k0+1) 0 0 0 hok hm71 (by decide)) (by intro b hb;simp at hb;subst hb;simp) (by intro b hb;simp at hb;subst hb;simp [Sto.bl]) (by intro h b hb;simp at hb;subst hb;exact lU (by simp [Sto.bl])) ?_)
      rintro t73 s73 ⟨x73,k73,u73,e73,rfl,hr73,hk73,he73,rfl⟩
      refine ox 4 rfl rfl (bDk zb8 rfl (.cons rfl .nil) (aV bT bT x73 rfl rfl rfl) ?_)
      refine ox 5 rfl rfl (bDm [_] bWh rfl rfl (by decide) (by unfold maxLen;skip;omega) (by skip;omega) (@length_append _ x0.mutexes [x73]).symm (fun _ b hb=>lU (by simp [Sto.bl,hb])) (fun b hb=>by simp [hb]) (List.flatMap_append (f:=bT)).symm fun v74=>?_)
      refine tz [(6,true),(7,false)] 0 (go 3 ?_)
      refine ax (go 2 ?_)
      obtain ⟨m,rfl⟩:∃m,n0=m+1:=⟨n0-1,by omega⟩
      have hel:kX 0 0 (gR l x0 k0) {x0 with mutexes:=x0.mutexes++[x73]} k73 u73 e73:=(hr73.map (f:=fun g=>{x0 with mutexes:=x0.mutexes++[g]})).eq fun _=>by unfold gR;rw [if_neg (by rw [ha7 rfl];decide),if_neg (by rw [ha30 rfl];decide),if_pos ha53,if_neg (by omega)]
      have hst:∀z k' b' e',kX e73 u73 (lK l m {x0 with mutexes:=x0.mutexes++[x73]} k73) z k' b' e' -> kX 0 0 (fH l) z k' b' e':=fun z k' b' e' h=>hcont z k' b' e' (by rw [lK,if_neg hk5];exact hel.bind h)
      have hgo:e73=0 -> k0<k73 /\ u73=0:=fun h=>by have h9:=aAj hok.last (x:=x0) hk0;rw [(hel.good h).2.1] at h9;exact ⟨h9.1,(hel.good h).2.2⟩
      refine ⟨({x0 with mutexes:=x0.mutexes++[x73]},vg,v74,vf,k73,u73,e73),⟨hk73,he73,fun h=>?_,fun h=>hst _ _ _ _ (.skip h _ _ _),fun h=>⟨(hgo h).2,m,?_,fun z k' b' e' h2=>hst _ _ _ _ ?_⟩⟩,?_,cA (.refl _) (.refl _) (by grind) (sA rfl)⟩
      ·simp;omega
      ·have:=hgo h;show l.length <= m+k73;omega
      ·rw [show e73=0 from h,show u73=0 from (hgo h).2];exact h2
      show (if e73=0 then _ else _)<(if (0:Nat)=0 then _ else _)
      by_cases h:e73=0
      ·have:=hgo h;rw [if_pos h,if_pos rfl];show l.length-k73+1<l.length-k0+1;omega
      rw [if_neg h,if_pos rfl];show 0<l.length-k0+1;omega
     refine (bD [P] rfl rfl (by decide) call55 rfl (bGn [_] _ _ _ l (k0+1) 0 0 0 hok hm71 (by decide)) (by intro b hb;simp at hb;subst hb;simp) (by intro b hb;simp at hb;subst hb;simp [Sto.bl]) (by intro h b hb;simp at hb;subst hb;exact lU (by simp [Sto.bl])) ?_)
     rintro t75 s75 ⟨x75,k75,u75,e75,rfl,hr75,hk75,he75,rfl⟩
     refine t2 1 4 rfl ?_ ?_
     ·refine way rfl (by decide) (aX [] rfl rfl rfl isAgg27 sizeOf27 rfl (fun _ h=>by cases h)) ?_
      refine ox 4 rfl rfl (bDk zb8 rfl (.cons rfl .nil) (aV bT bT x75 rfl rfl rfl) ?_)
      refine ox 5 rfl rfl (bDm [_] bWh rfl rfl (by decide) (by unfold maxLen;skip;omega) (by skip;omega) (@length_append _ x0.mutexes [x75]).symm (fun _ b hb=>lU (by simp [Sto.bl,hb])) (fun b hb=>by simp [hb]) (List.flatMap_append (f:=bT)).symm fun v76=>?_)
      refine tz [(6,true),(7,false)] 0 (go 3 ?_)
      refine ax (go 2 ?_)
      obtain ⟨m,rfl⟩:∃m,n0=m+1:=⟨n0-1,by omega⟩
      have hel:kX 0 0 (gR l x0 k0) {x0 with mutexes:=x0.mutexes++[x75]} k75 u75 e75:=(hr75.map (f:=fun g=>{x0 with mutexes:=x0.mutexes++[g]})).eq fun _=>by unfold gR;rw [if_neg (by rw [ha7 rfl];decide),if_neg (by rw [ha30 rfl];decide),if_pos ha53,if_neg (by omega)]
      have hst:∀z k' b' e',kX e75 u75 (lK l m {x0 with mutexes:=x0.mutexes++[x75]} k75) z k' b' e' -> kX 0 0 (fH l) z k' b' e':=fun z k' b' e' h=>hcont z k' b' e' (by rw [lK,if_neg hk5];exact hel.bind h)
      have hgo:e75=0 -> k0<k75 /\ u75=0:=fun h=>by have h9:=aAj hok.last (x:=x0) hk0;rw [(hel.good h).2.1] at h9;exact ⟨h9.1,(hel.good h).2.2⟩
      refine ⟨({x0 with mutexes:=x0.mutexes++[x75]},vg,v76,vf,k75,u75,e75),⟨hk75,he75,fun h=>?_,fun h=>hst _ _ _ _ (.skip h _ _ _),fun h=>⟨(hgo h).2,m,?_,fun z k' b' e' h2=>hst _ _ _ _ ?_⟩⟩,?_,cA (.refl _) (.refl _) (by grind) (sA rfl)⟩
      ·simp;omega
      ·have:=hgo h;show l.length <= m+k75;omega
      ·rw [show e75=0 from h,show u75=0 from (hgo h).2];exact h2
      show (if e75=0 then _ else _)<(if (0:Nat)=0 then _ else _)
      by_cases h:e75=0
      ·have:=hgo h;rw [if_pos h,if_pos rfl];show l.length-k75+1<l.length-k0+1;omega
      rw [if_neg h,if_pos rfl];show 0<l.length-k0+1;omega
     refine (bDk zb8 rfl (.cons rfl .nil) (aV bT bT x75 rfl rfl rfl) ?_)
     refine ox 1 rfl rfl (way rfl (by decide) (aX [] rfl rfl rfl isAgg27 sizeOf27 rfl (fun _ h=>by cases h)) ?_)
     refine ox 5 rfl rfl (bDm [_] bWh rfl rfl (by decide) (by unfold maxLen;skip;omega) (by skip;omega) (@length_append _ x0.mutexes [x75]).symm (fun _ b hb=>lU (by simp [Sto.bl,hb])) (fun b hb=>by simp [hb]) (List.flatMap_append (f:=bT)).symm fun v77=>?_)
     refine tz [(6,true),(7,false)] 0 (go 3 ?_)
     refine ax (go 2 ?_)
     obtain ⟨m,rfl⟩:∃m,n0=m+1:=⟨n0-1,by omega⟩
     have hel:kX 0 0 (gR l x0 k0) {x0 with mutexes:=x0.mutexes++[x75]} k75 u75 e75:=(hr75.map (f:=fun g=>{x0 with mutexes:=x0.mutexes++[g]})).eq fun _=>by unfold gR;rw [if_neg (by rw [ha7 rfl];decide),if_neg (by rw [ha30 rfl];decide),if_pos ha53,if_neg (by omega)]
     have hst:∀z k' b' e',kX e75 u75 (lK l m {x0 with mutexes:=x0.mutexes++[x75]} k75) z k' b' e' -> kX 0 0 (fH l) z k' b' e':=fun z k' b' e' h=>hcont z k' b' e' (by rw [lK,if_neg hk5];exact hel.bind h)
     have hgo:e75=0 -> k0<k75 /\ u75=0:=fun h=>by have h9:=aAj hok.last (x:=x0) hk0;rw [(hel.good h).2.1] at h9;exact ⟨h9.1,(hel.good h).2.2⟩
     refine ⟨({x0 with mutexes:=x0.mutexes++[x75]},vg,v77,vf,k75,u75,e75),⟨hk75,he75,fun h=>?_,fun h=>hst _ _ _ _ (.skip h _ _ _),fun h=>⟨(hgo h).2,m,?_,fun z k' b' e' h2=>hst _ _ _ _ ?_⟩⟩,?_,cA (.refl _) (.refl _) (by grind) (sA rfl)⟩
     ·simp;omega
     ·have:=hgo h;show l.length <= m+k75;omega
     ·rw [show e75=0 from h,show u75=0 from (hgo h).2];exact h2
     show (if e75=0 then _ else _)<(if (0:Nat)=0 then _ else _)
     by_cases h:e75=0
     ·have:=hgo h;rw [if_pos h,if_pos rfl];show l.length-k75+1<l.length-k0+1;omega
     rw [if_neg h,if_pos rfl];show 0<l.length-k0+1;omega
    exact absurd (ha71 rfl) (by rw [ha53];decide)
   refine go 2 ?_
   refine wcQ rfl call51 rfl (bGf [_] _ _ _ l k0 0 0 0 0 [102,117,110,99] (by decide) hok hk0) ?_
   rintro t78 s78 (⟨-,ha78,rfl,rfl⟩|⟨ha78,rfl,rfl⟩)
   ·refine go 10 ?_
    by_cases hfuncs:x0.funcs.length=16
    ·refine go 19 ?_
     refine wyz rfl (bF9 [_,_] rfl rfl rfl runUnderlying28) ?_
     refine wcp true rfl (by rw [hfuncs];rfl) (go 7 ?_)
     refine wcQ rfl call52 rfl (bEa [_] _ _ _ l k0 0 0 0 0 3) ?_
     rintro t80 s80 ⟨u80,e80,hf80,rfl,rfl⟩
     obtain ⟨rfl,rfl⟩:=hf80.1 rfl
     refine go 6 ?_
     refine wcQ rfl call53 rfl (bD2 [_] _ _ _ l k0 k0 3 0 0 [118,97,114] (by decide) hok hk0) ?_
     rintro t81 s81 (⟨hz81,-⟩|⟨ha81,rfl,rfl⟩)
     ·exact absurd hz81 (by decide)
     refine go 7 ?_
     refine wcQ rfl call53 rfl (bD2 [_] _ _ _ l k0 k0 3 0 0 [109,117,116,101,120] (by decide) hok hk0) ?_
     rintro t83 s83 (⟨hz83,-⟩|⟨ha83,rfl,rfl⟩)
     ·exact absurd hz83 (by decide)
     refine go 7 ?_
     refine wcQ rfl call53 rfl (bD2 [_] _ _ _ l k0 k0 3 0 0 [114,109,117,116,101,120] (by decide) hok hk0) ?_
     rintro t85 s85 (⟨hz85,-⟩|⟨ha85,rfl,rfl⟩)
     ·exact absurd hz85 (by decide)
     refine go 7 ?_
     refine wcQ rfl call53 rfl (bD2 [_] _ _ _ l k0 k0 3 0 0 [102,117,110,99] (by decide) hok hk0) ?_
     rintro t87 s87 (⟨hz87,-⟩|⟨ha87,rfl,rfl⟩)
     ·exact absurd hz87 (by decide)
     refine go 6 ?_
     refine wcQ rfl call52 rfl (bEa [_] _ _ _ l k0 k0 3 0 0 4) ?_
     rintro t89 s89 ⟨u89,e89,hf89,rfl,rfl⟩
     obtain ⟨rfl,rfl⟩:=hf89.2 (by decide)
     refine go 3 ?_
     obtain ⟨m,rfl⟩:∃m,n0=m+1:=⟨n0-1,by omega⟩
     have hel:kX 0 0 (gR l x0 k0) x0 k0 k0 3:=.err _ _ _ _ _ (by unfold gR;rw [if_neg (by rw [ha7 rfl];decide),if_neg (by rw [ha30 rfl];decide),if_neg (by rw [ha53 rfl];decide),if_pos ha78,if_pos (by omega)]) (by decide)
     have hst:∀z k' b' e',kX 3 k0 (lK l m x0 k0) z k' b' e' -> kX 0 0 (fH l) z k' b' e':=fun z k' b' e' h=>hcont z k' b' e' (by rw [lK,if_neg hk5];exact hel.bind h)
     have hgo:3=0 -> k0<k0 /\ k0=0:=fun h=>by have h9:=aAj hok.last (x:=x0) hk0;rw [(hel.good h).2.1] at h9;exact ⟨h9.1,(hel.good h).2.2⟩
     refine ⟨(x0,vg,vm,vf,k0,k0,3),⟨hk0,(show (3:Nat)<16 by decide),fun h=>?_,fun h=>hst _ _ _ _ (.skip h _ _ _),fun h=>⟨(hgo h).2,m,?_,fun z k' b' e' h2=>hst _ _ _ _ ?_⟩⟩,?_,cA (.refl _) (.refl _) (by grind) (sA rfl)⟩
     ·exact absurd h (show ¬(3:Nat)=0 by decide)
     ·have:=hgo h;show l.length <= m+k0;omega
     ·exact absurd h (show ¬(3:Nat)=0 by decide)
     show (if 3=0 then _ else _)<(if (0:Nat)=0 then _ else _)
     by_cases h:3=0
     ·have:=hgo h;rw [if_pos h,if_pos rfl];show l.length-k0+1<l.length-k0+1;omega
     rw [if_neg h,if_pos rfl];show 0<l.length-k0+1;omega
    refine go 19 ?_
    refine wyz rfl (bF9 [_,_] rfl rfl rfl runUnderlying28) ?_
    refine wcp false rfl (by rw [show bC .eql ((x0.funcs.length:Nat):Int) 16=some (decide (x0.funcs.length=16)) from jS (n:=16),decide_eq_false hfuncs]) (go 11 ?_)
    refine wcQ rfl call53 rfl (bD2 [_] _ _ _ l k0 0 0 0 0 [118,97,114] (by decide) hok hk0) ?_
    rintro t91 s91 (⟨-,ha91,hm91,rfl,rfl⟩|⟨ha91,rfl,rfl⟩)
    ·exact absurd (bGa ha91 ha78) (by decide)
    refine go 7 ?_
    refine wcQ rfl call53 rfl (bD2 [_] _ _ _ l k0 0 0 0 0 [109,117,116,101,120] (by decide) hok hk0) ?_
    rintro t93 s93 (⟨-,ha93,hm93,rfl,rfl⟩|⟨ha93,rfl,rfl⟩)
    ·exact absurd (bGa ha93 ha78) (by decide)
    refine go 7 ?_
    refine wcQ rfl call53 rfl (bD2 [_] _ _ _ l k0 0 0 0 0 [114,109,117,116,101,120] (by decide) hok hk0) ?_
    rintro t95 s95 (⟨-,ha95,hm95,rfl,rfl⟩|⟨ha95,rfl,rfl⟩)
    ·exact absurd (bGa ha95 ha78) (by decide)
    refine go 7 ?_
    refine wcQ rfl call53 rfl (bD2 [_] _ _ _ l k0 0 0 0 0 [102,117,110,99] (by decide) hok hk0) ?_
    rintro t97 s97 (⟨-,ha97,hm97,rfl,rfl⟩|⟨ha97,rfl,rfl⟩)
    ·refine go 7 ?_
     refine wcQ rfl call56 rfl (bEb [_] _ _ _ l (k0+1) 0 0 0 0 hok hm97 (by decide)) ?_
     rintro t99 s99 ⟨x99,k99,u99,e99,rfl,hr99,hk99,he99,rfl⟩
     refine go 8 fun b4=>?_
     refine wcQ rfl call57 rfl (bG3 [_,_] _ _ _ l k99 u99 e99 0 hok hk99 he99) ?_
     rintro t100 s100 ⟨x100,k100,u100,e100,rfl,hr100,hk100,he100,rfl⟩
     refine go 7 ?_
     refine wcQ rfl call58 rfl (bEh l hok 24 (Nat.le_refl _) [_,_] _ _ _ k100 u100 e100 hk100 he100) ?_
     rintro t101 s101 ⟨x101,k101,u101,e101,rfl,hr101,hk101,he101,rfl⟩
     refine go 8 ?_
     refine wo rfl (bDk zb7 rfl (.cons rfl .nil) (aV fV fV ⟨x99,x100,x101⟩ rfl rfl rfl) ?_)
     refine wo rfl (bDm [_,_] bWk rfl rfl (by decide) (by unfold maxLen;skip;omega) (by skip;omega) (@length_append _ x0.funcs [⟨x99,x100,x101⟩]).symm (fun _ b hb=>by simp [hb]) (fun b hb=>by simp [hb]) (List.flatMap_append (f:=fV)).symm fun v102=>?_)
     refine go 5 ?_
     obtain ⟨m,rfl⟩:∃m,n0=m+1:=⟨n0-1,by omega⟩
     have hel:kX 0 0 (gR l x0 k0) {x0 with funcs:=x0.funcs++[bS.mk x99 x100 x101]} k101 u101 e101:=((hr99.bind (f:=fun n k=>(jC l (fQ l) k).bind fun p k=>(eX l 24 k).bind fun b k=>.ok (bS.mk n p b) k) (hr100.bind (f:=fun p k=>(eX l 24 k).bind fun b k=>.ok (bS.mk x99 p b) k) (hr101.map (f:=fun b=>bS.mk x99 x100 b))):kX _ _ (sW l (k0+1)) _ _ _ _).map (f:=fun g=>{x0 with funcs:=x0.funcs++[g]})).eq fun _=>by unfold gR;rw [if_neg (by rw [ha7 rfl];decide),if_neg (by rw [ha30 rfl];decide),if_neg (by rw [ha53 rfl];decide),if_pos ha78,if_neg (by omega)];rfl
     have hst:∀z k' b' e',kX e101 u101 (lK l m {x0 with funcs:=x0.funcs++[bS.mk x99 x100 x101]} k101) z k' b' e' -> kX 0 0 (fH l) z k' b' e':=fun z k' b' e' h=>hcont z k' b' e' (by rw [lK,if_neg hk5];exact hel.bind h)
     have hgo:e101=0 -> k0<k101 /\ u101=0:=fun h=>by have h9:=aAj hok.last (x:=x0) hk0;rw [(hel.good h).2.1] at h9;exact ⟨h9.1,(hel.good h).2.2⟩
     refine ⟨({x0 with funcs:=x0.funcs++[bS.mk x99 x100 x101]},vg,vm,v102,k101,u101,e101),⟨hk101,he101,fun h=>?_,fun h=>hst _ _ _ _ (.skip h _ _ _),fun h=>⟨(hgo h).2,m,?_,fun z k' b' e' h2=>hst _ _ _ _ ?_⟩⟩,?_,cA (.cons _ (.refl _)) (.refl _) (by grind) (sA rfl)⟩
     ·simp;omega
     ·have:=hgo h;show l.length <= m+k101;omega
     ·rw [show e101=0 from h,show u101=0 from (hgo h).2];exact h2
     show (if e101=0 then _ else _)<(if (0:Nat)=0 then _ else _)
     by_cases h:e101=0
     ·have:=hgo h;rw [if_pos h,if_pos rfl];show l.length-k101+1<l.length-k0+1;omega
     rw [if_neg h,if_pos rfl];show 0<l.length-k0+1;omega
    exact absurd (ha97 rfl) (by rw [ha78];decide)
   refine go 42 ?_
   refine wcQ rfl call53 rfl (bD2 [_] _ _ _ l k0 0 0 0 0 [118,97,114] (by decide) hok hk0) ?_
   rintro t104 s104 (⟨-,ha104,hm104,rfl,rfl⟩|⟨ha104,rfl,rfl⟩)
   ·exact absurd ha104 (by rw [(ha7 rfl)];decide)
   refine go 7 ?_
   refine wcQ rfl call53 rfl (bD2 [_] _ _ _ l k0 0 0 0 0 [109,117,116,101,120] (by decide) hok hk0) ?_
   rintro t106 s106 (⟨-,ha106,hm106,rfl,rfl⟩|⟨ha106,rfl,rfl⟩)
   ·exact absurd ha106 (by rw [(ha30 rfl)];decide)
   refine go 7 ?_
   refine wcQ rfl call53 rfl (bD2 [_] _ _ _ l k0 0 0 0 0 [114,109,117,116,101,120] (by decide) hok hk0) ?_
   rintro t108 s108 (⟨-,ha108,hm108,rfl,rfl⟩|⟨ha108,rfl,rfl⟩)
   ·exact absurd ha108 (by rw [(ha53 rfl)];decide)
   refine go 7 ?_
   refine wcQ rfl call53 rfl (bD2 [_] _ _ _ l k0 0 0 0 0 [102,117,110,99] (by decide) hok hk0) ?_
   rintro t110 s110 (⟨-,ha110,hm110,rfl,rfl⟩|⟨ha110,rfl,rfl⟩)
   ·exact absurd ha110 (by rw [(ha78 rfl)];decide)
   refine go 6 ?_
   refine wcQ rfl call52 rfl (bEa [_] _ _ _ l k0 0 0 0 0 4) ?_
   rintro t112 s112 ⟨u112,e112,hf112,rfl,rfl⟩
   obtain ⟨rfl,rfl⟩:=hf112.1 rfl
   refine go 3 ?_
   obtain ⟨m,rfl⟩:∃m,n0=m+1:=⟨n0-1,by omega⟩
   have hel:kX 0 0 (gR l x0 k0) x0 k0 k0 4:=.err _ _ _ _ _ (by unfold gR;rw [if_neg (by rw [ha7 rfl];decide),if_neg (by rw [ha30 rfl];decide),if_neg (by rw [ha53 rfl];decide),if_neg (by rw [ha78 rfl];decide)]) (by decide)
   have hst:∀z k' b' e',kX 4 k0 (lK l m x0 k0) z k' b' e' -> kX 0 0 (fH l) z k' b' e':=fun z k' b' e' h=>hcont z k' b' e' (by rw [lK,if_neg hk5];exact hel.bind h)
   have hgo:4=0 -> k0<k0 /\ k0=0:=fun h=>by have h9:=aAj hok.last (x:=x0) hk0;rw [(hel.good h).2.1] at h9;exact ⟨h9.1,(hel.good h).2.2⟩
   refine ⟨(x0,vg,vm,vf,k0,k0,4),⟨hk0,(show (4:Nat)<16 by decide),fun h=>?_,fun h=>hst _ _ _ _ (.skip h _ _ _),fun h=>⟨(hgo h).2,m,?_,fun z k' b' e' h2=>hst _ _ _ _ ?_⟩⟩,?_,cA (.refl _) (.refl _) (by grind) (sA rfl)⟩
   ·exact absurd h (show ¬(4:Nat)=0 by decide)
   ·have:=hgo h;show l.length <= m+k0;omega
   ·exact absurd h (show ¬(4:Nat)=0 by decide)
   show (if 4=0 then _ else _)<(if (0:Nat)=0 then _ else _)
   by_cases h:4=0
   ·have:=hgo h;rw [if_pos h,if_pos rfl];show l.length-k0+1<l.length-k0+1;omega
   rw [if_neg h,if_pos rfl];show 0<l.length-k0+1;omega
  refine go 7 ?_
  refine wcp false rfl (lA h0) (go 16 ?_)
  have herr:fH l=.err b0 e0:=by
   rcases hn0 h0 with ⟨h,_⟩|⟨_,⟨_,h,_⟩|⟨h,_⟩⟩
   ·exact absurd rfl h
   ·exact absurd h h0
   exact h
  have hb0:b0<l.length:=by have h9:(fH l).At l 0:=aD9 hok.last _ _ _ hk;rw [herr] at h9;exact h9.2.1
  refine go 4 ?_
  refine wcp true rfl (by simp [bC,h0]) (go 4 ?_)
  refine dx [b3,P] (tz [(0,true),(1,true),(2,true),(3,true),(4,true),(5,true)] 10 (go 7 ?_))
  refine tx 6 rfl (bH aW aW l bJ (fun _=>rfl) b0 rfl rfl rfl rfl hb0 (by decide) runUnderlying36 sizeOf66) (tz [(7,true),(8,true),(9,true),(10,true),(11,true),(12,true),(13,false),(14,true),(15,true)] 0 (go 10 ?_))
  refine ax (go 3 ?_)
  exact ⟨.inr rfl,_,⟨bx,rw⟩,(pC rfl (aCn (Wk.agg (.n (.n (.n .nil)))) (aO [_,_] rfl rfl isAgg30 sizeOf30 (bK rfl rfl))) (aF rfl) (aF rfl)),aA (.cons _ (.cons _ (.cons _ (.refl _)))) (.cons _ (.cons _ (.cons _ (.refl _)))),by rw [aBe hlx herr hb0];rfl,rfl⟩
 refine go 13 ?_
 refine wcp true rfl (by simp [bC,her]) (go 15 ?_)
 exact ⟨.inr rfl,_,⟨bx,rw⟩,(pC rfl (aCn (Wk.agg (.n (.n (.n .nil)))) (aO [] rfl rfl isAgg30 sizeOf30 (bK rfl rfl))) (aF rfl) (aF rfl)),aA (.cons _ (.refl _)) (.refl _),by rw [aA9 hlx];rfl,rfl⟩
end
end Go.Proofs.YtojinfngbbajgaaGreatDoor
