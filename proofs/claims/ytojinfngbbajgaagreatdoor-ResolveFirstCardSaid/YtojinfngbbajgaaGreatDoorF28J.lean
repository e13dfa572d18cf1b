import Derived.Test.YtojinfngbbajgaaGreatDoorF5J
import Derived.Test.YtojinfngbbajgaaGreatDoorF27J
set_option linter.all false
set_option synthInstance.maxHeartbeats 1000000
set_option synthInstance.maxSize 1000000
set_option maxHeartbeats 1600000
set_option maxRecDepth 100000
namespace Go.Proofs.YtojinfngbbajgaaGreatDoor
open Go.Proofs.Tryz
open List (length_append length_cons length_nil mem_append mem_cons not_mem_nil append_assoc getElem_mem take_of_length_le)
section
open Go.RowKit
theorem bFc(A B:List Box)(rw:List bA)(P:Nat)(l:List Tok)(k b e dp:Nat)(hok:TOk l)(hk:k<l.length)(he:e<16):aL prog 127 [pP P] [P] (RSt A B rw P l k b e 0 dp) (RAn A B rw P l 0 dp (fun x=>.agg (encR x)) e b (xV l k)):=by
 have hlen:=hok.len
 refine acB func127 rfl ?_
 show AWp prog _ ⟨16,[P],⟨A++⟨P,112,[.sl l.length (l.flatMap aW),nC k,nC b,nC e,nC 0,nC dp]⟩::B,rw⟩,[(0,pP P)]⟩ _
 refine go 8 fun b1=>?_
 refine wcQ rfl call56 rfl (bEb (_::A) _ _ _ l k b e 0 dp hok hk he) ?_
 rintro t1 s1 ⟨x1,k1,u1,e1,rfl,hr1,hk1,he1,rfl⟩
 refine go 9 fun b2=>?_
 refine wcQ rfl call53 rfl (bD5 (_::_::A) _ _ _ l k1 u1 e1 0 dp [91] (by decide) hok hk1) ?_
 rintro t2 s2 (⟨rfl,ha2,hm2,rfl,rfl⟩|⟨ha2,rfl,rfl⟩)
 ·refine go 6 ?_
  refine wcQ rfl call125 rfl (bD9 (_::_::A) _ _ _ l (k1+1) u1 0 dp hok hm2 (by decide)) ?_
  rintro t4 s4 ⟨x4,k4,u4,e4,rfl,hr4,hk4,he4,rfl⟩
  refine wo rfl (bDk bDs rfl (.cons rfl .nil) (aV fO cU x4 (fP _) rfl rfl) ?_)
  refine go 6 ?_
  refine wcQ rfl call86 rfl (bZx (_::_::A) _ _ _ l k4 u4 e4 0 dp [93] (by decide) hok hk4 he4) ?_
  rintro t5 s5 ⟨x5,k5,u5,e5,rfl,hr5,hk5,he5,rfl⟩
  refine go 9 ?_
  exact ⟨.inr rfl,_,(RSt A B rw P l (k5) (u5) (e5) (0) (dp)),(aR rfl (aO [_] rfl rfl isAgg75 sizeOf75 (bK rfl rfl))),aA (.cons _ (.cons _ (.refl _))) (.refl _),⟨⟨x1,[x4]⟩,k5,u5,e5,rfl,hr1.bind (f:=jT l) ((hr4.bind (f:=fun e k=>(fD l [93] k).bind fun _ k=>.ok ⟨x1,[e]⟩ k) (hr5.map (f:=fun _=>cY.mk x1 [x4]))).eq fun _=>by unfold jT;rw [if_pos ha2]),hk5,he5,rfl⟩⟩
 refine go 12 ?_
 exact ⟨.inr rfl,_,(RSt A B rw P l (k1) (u1) (e1) (0) (dp)),(eK (Wk.agg (.r (.n .nil))) (aR rfl (aO [_] rfl rfl isAgg75 sizeOf75 (bK rfl rfl)))),aA (.cons _ (.cons _ (.refl _))) (.refl _),⟨⟨x1,[]⟩,k1,u1,e1,rfl,hr1.bind (f:=jT l) ((kX.pure _ _ _ _).eq fun h=>by unfold jT;rw [if_neg (by rw [ha2 h];decide)]),hk1,he1,rfl⟩⟩
theorem bE5(A B:List Box)(rw:List bA)(P:Nat)(l:List Tok)(k b e dp:Nat)(hok:TOk l)(hk:k<l.length)(he:e<16):aL prog 126 [pP P] [P] (RSt A B rw P l k b e 0 dp) (RAn A B rw P l 0 dp (fun x=>.c (.sl x.length (x.flatMap eJ))) e b (rA l k)):=by
 have hlen:=hok.len
 refine acB func126 rfl ?_
 show AWp prog _ ⟨34,[P],⟨A++⟨P,112,[.sl l.length (l.flatMap aW),nC k,nC b,nC e,nC 0,nC dp]⟩::B,rw⟩,[(0,pP P)]⟩ _
 refine go 13 ?_
 refine wcQ rfl call86 rfl (bZx (A) _ _ _ l k b e 0 dp [40] (by decide) hok hk he) ?_
 rintro t1 s1 ⟨x1,k1,u1,e1,rfl,hr1,hk1,he1,rfl⟩
 refine go 6 ?_
 refine wcQ rfl call53 rfl (bD5 (A) _ _ _ l k1 u1 e1 0 dp [41] (by decide) hok hk1) ?_
 rintro t2 s2 (⟨rfl,ha2,hm2,rfl,rfl⟩|⟨ha2,rfl,rfl⟩)
 ·refine go 10 ?_
  exact ⟨.inr rfl,_,(RSt A B rw P l (k1+1) (u1) (0) (0) (dp)),(eK (Wk.c aQl) (aR rfl (aF rfl))),aA (.refl _) (.refl _),⟨[],k1+1,u1,0,rfl,hr1.bind (by rw [if_pos ha2];exact .ok _ _ _ rfl),hm2,(by decide),rfl⟩⟩
 refine go 7 ?_
 refine qR 141 7 ?_
 refine fM (fun g:List eN×Value×Nat×Nat×Nat=>(⟨34,aY g.2.1++[P],⟨A++⟨P,112,[.sl l.length (l.flatMap aW),.val (.int .i64 (((g.2.2.1):Nat):Int)),.val (.int .i64 (((g.2.2.2.1):Nat):Int)),.val (.int .i64 (((g.2.2.2.2):Nat):Int)),nC 0,nC dp]⟩::B,⟨g.2.1,141,7,(g.1).length,(g.1).flatMap eJ⟩::rw⟩,[(3,.c (.val g.2.1)),(0,pP P)]⟩:AS)) (fun g=>g.2.2.1<l.length /\ g.2.2.2.2<16 /\ g.1.length <= g.2.2.1 /\ (g.2.2.2.2≠0 -> kX e b (rA l k) g.1 g.2.2.1 g.2.2.2.1 g.2.2.2.2) /\ (g.2.2.2.2=0 -> ∃n,l.length <= n+g.2.2.1 /\ ∀z k' b' e',kX 0 g.2.2.2.1 (lI l (fun _=>rC l) n g.1 g.2.2.1) z k' b' e' -> kX e b (rA l k) z k' b' e')) (fun g=>if g.2.2.2.2=0 then l.length-g.2.2.1+1 else 0) ([],.slice none 0 0,k1,u1,e1) (cA (.refl _) (.refl _) (fun _ h=>h) (sA rfl)) ⟨hk1,he1,Nat.zero_le _,fun h=>hr1.bind (kX.skip h _ _ _),fun h=>⟨l.length,Nat.le_add_right _ _,fun z k' b' e' h2=>?_⟩⟩ ?_
 ·have h:e1=0:=h
  refine hr1.bind ?_
  rw [h,if_neg (by rw [ha2 h];decide)]
  exact h2
 rintro ⟨acc,v0,k0,b0,e0⟩ ⟨hk0,he0,ha0,hn0,hc0⟩
 dsimp only at hk0 he0 ha0 hn0 hc0
 show AWp prog _ (⟨34,aY v0++[P],⟨A++⟨P,112,[.sl l.length (l.flatMap aW),.val (.int .i64 (((k0):Nat):Int)),.val (.int .i64 (((b0):Nat):Int)),.val (.int .i64 (((e0):Nat):Int)),nC 0,nC dp]⟩::B,⟨v0,141,7,(acc).length,(acc).flatMap eJ⟩::rw⟩,[(3,.c (.val v0)),(0,pP P)]⟩:AS) _
 by_cases h0:e0=0
 ·subst h0
  obtain ⟨n0,hn1,hcont⟩:=hc0 rfl
  refine go 7 ?_
  refine wcp true rfl (by rfl) (go 17 fun b1=>?_)
  refine wcQ rfl call53 rfl (bD2 (_::A) _ _ _ l k0 b0 0 0 dp [109,117,116,101,120] (by decide) hok hk0) ?_
  rintro t6 s6 (⟨-,ha6,hm6,rfl,rfl⟩|⟨ha6,rfl,rfl⟩)
  ·refine go 5 ?_
   refine wcQ rfl call127 rfl (bFc (_::A) _ _ _ l (k0+1) b0 0 dp hok hm6 (by decide)) ?_
   rintro t8 s8 ⟨x8,k8,u8,e8,rfl,hr8,hk8,he8,rfl⟩
   refine go 6 ?_
   have hel:kX 0 b0 (rC l k0) ⟨true,x8,.zero⟩ k8 u8 e8:=(hr8.map (f:=fun r=>eN.mk true r .zero)).eq fun _=>by unfold rC;rw [if_pos ha6]
   refine go 2 ?_
   refine eA 24 rfl (Wk.agg (.r (.r (.r (.r (.r (.r (.n .nil)))))))) ?_
   refine wo rfl (bDk zb0 rfl (.cons rfl .nil) (aV eJ eJ ⟨true,x8,.zero⟩ rfl rfl rfl) ?_)
   refine wo rfl (bFe Tryz.t141 104 rfl rfl (by decide) rfl rfl underlying76 (by kernel_rfl) rfl rfl rfl rfl (by decide) rfl (by decide) (by unfold maxLen;skip;omega) (by skip;omega) (@length_append _ acc [⟨true,x8,.zero⟩]).symm (fun _ b hb=>by simp [hb]) (fun b hb=>by simp [hb]) (List.flatMap_append (f:=eJ)).symm fun v9=>?_)
   refine go 6 ?_
   refine wcQ rfl call53 rfl (bD5 (_::A) _ _ _ l k8 u8 e8 0 dp [44] (by decide) hok hk8) ?_
   rintro t10 s10 (⟨rfl,ha10,hm10,rfl,rfl⟩|⟨ha10,rfl,rfl⟩)
   ·refine go 6 ?_
    obtain ⟨m,rfl⟩:∃m,n0=m+1:=⟨n0-1,by omega⟩
    have hin:=aDl hok.last hk0
    rw [(hel.good rfl).2.1] at hin
    have hin1:=hin.1
    refine ⟨(acc++[⟨true,x8,.zero⟩],v9,k8+1,u8,0),⟨hm10,by show (0:Nat)<16;decide,by show (acc++[_]).length <= k8+1;simp;omega,fun h=>absurd rfl h,fun _=>⟨m,by show l.length <= m+(k8+1);omega,fun z k' b' e' h=>hcont z k' b' e' ?_⟩⟩,by show (if (0:Nat)=0 then _ else _)<(if (0:Nat)=0 then _ else _);rw [if_pos rfl,if_pos rfl];show l.length-(k8+1)+1<l.length-k0+1;omega,cA (.cons _ (.refl _)) (.refl _) (by grind) (sA rfl)⟩
    rw [lI]
    refine hel.bind ?_
    rw [if_pos ha10]
    exact h
   refine go 7 ?_
   refine wcQ rfl call86 rfl (bZx (_::A) _ _ _ l k8 u8 e8 0 dp [41] (by decide) hok hk8 he8) ?_
   rintro t13 s13 ⟨x13,k13,u13,e13,rfl,hr13,hk13,he13,rfl⟩
   refine go 8 ?_
   refine aH0 2 rfl ?_
   refine go 5 ?_
   obtain ⟨m,rfl⟩:∃m,n0=m+1:=⟨n0-1,by omega⟩
   exact ⟨.inr rfl,_,(RSt A B rw P l (k13) (u13) (e13) (0) (dp)),(aR rfl (aF rfl)),aA (.cons _ (.refl _)) (.refl _),⟨acc++[⟨true,x8,.zero⟩],k13,u13,e13,rfl,hcont _ _ _ _ (by rw [lI];exact hel.bind ((hr13.map (f:=fun _=>acc++[⟨true,x8,.zero⟩])).eq fun h=>by rw [if_neg (by rw [ha10 h];decide)])),hk13,he13,rfl⟩⟩
  refine go 5 ?_
  refine wcQ rfl call125 rfl (bD9 (_::A) _ _ _ l k0 b0 0 dp hok hk0 he0) ?_
  rintro t15 s15 ⟨x15,k15,u15,e15,rfl,hr15,hk15,he15,rfl⟩
  refine go 6 ?_
  have hel:kX 0 b0 (rC l k0) ⟨false,.zero,x15⟩ k15 u15 e15:=(hr15.map (f:=fun e=>eN.mk false .zero e)).eq fun _=>by unfold rC;rw [if_neg (by rw [ha6 rfl];decide)]
  refine go 2 ?_
  refine eA 24 rfl (Wk.agg (.r (.r (.n (.r (.r (.r (.r .nil)))))))) ?_
  refine wo rfl (bDk zb0 rfl (.cons rfl .nil) (aV eJ eJ ⟨false,.zero,x15⟩ rfl rfl rfl) ?_)
  refine wo rfl (bFe Tryz.t141 104 rfl rfl (by decide) rfl rfl underlying76 (by kernel_rfl) rfl rfl rfl rfl (by decide) rfl (by decide) (by unfold maxLen;skip;omega) (by skip;omega) (@length_append _ acc [⟨false,.zero,x15⟩]).symm (fun _ b hb=>by simp [hb]) (fun b hb=>by simp [hb]) (List.flatMap_append (f:=eJ)).symm fun v16=>?_)
  refine go 6 ?_
  refine wcQ rfl call53 rfl (bD5 (_::A) _ _ _ l k15 u15 e15 0 dp [44] (by decide) hok hk15) ?_
  rintro t17 s17 (⟨rfl,ha17,hm17,rfl,rfl⟩|⟨ha17,rfl,rfl⟩)
  ·refine go 6 ?_
   obtain ⟨m,rfl⟩:∃m,n0=m+1:=⟨n0-1,by omega⟩
   have hin:=aDl hok.last hk0
   rw [(hel.good rfl).2.1] at hin
   have hin1:=hin.1
   refine ⟨(acc++[⟨false,.zero,x15⟩],v16,k15+1,u15,0),⟨hm17,by show (0:Nat)<16;decide,by show (acc++[_]).length <= k15+1;simp;omega,fun h=>absurd rfl h,fun _=>⟨m,by show l.length <= m+(k15+1);omega,fun z k' b' e' h=>hcont z k' b' e' ?_⟩⟩,by show (if (0:Nat)=0 then _ else _)<(if (0:Nat)=0 then _ else _);rw [if_pos rfl,if_pos rfl];show l.length-(k15+1)+1<l.length-k0+1;omega,cA (.cons _ (.refl _)) (.refl _) (by grind) (sA rfl)⟩
   rw [lI]
   refine hel.bind ?_
   rw [if_pos ha17]
   exact h
  refine go 7 ?_
  refine wcQ rfl call86 rfl (bZx (_::A) _ _ _ l k15 u15 e15 0 dp [41] (by decide) hok hk15 he15) ?_
  rintro t20 s20 ⟨x20,k20,u20,e20,rfl,hr20,hk20,he20,rfl⟩
  refine go 8 ?_
  refine aH0 2 rfl ?_
  refine go 5 ?_
  obtain ⟨m,rfl⟩:∃m,n0=m+1:=⟨n0-1,by omega⟩
  exact ⟨.inr rfl,_,(RSt A B rw P l (k20) (u20) (e20) (0) (dp)),(aR rfl (aF rfl)),aA (.cons _ (.refl _)) (.refl _),⟨acc++[⟨false,.zero,x15⟩],k20,u20,e20,rfl,hcont _ _ _ _ (by rw [lI];exact hel.bind ((hr20.map (f:=fun _=>acc++[⟨false,.zero,x15⟩])).eq fun h=>by rw [if_neg (by rw [ha17 h];decide)])),hk20,he20,rfl⟩⟩
 refine go 7 ?_
 refine wcp false rfl (lA h0) (go 14 ?_)
 refine aH0 2 rfl ?_
 refine go 1 ?_
 exact ⟨.inr rfl,_,(RSt A B rw P l (k0) (b0) (e0) (0) (dp)),(aR rfl (aF rfl)),aA (.refl _) (.refl _),⟨acc,k0,b0,e0,rfl,hn0 h0,hk0,he0,rfl⟩⟩
end
section
open Go.RowKit
theorem bEy{l:List Tok}{n:ByteArray}{k:Nat}(h:cS l k [40]=false):iB l n k=(fD l [61] k).bind fun _ k=>(lJ l k).bind fun e k=>oO l (.mk 2 n e .zero [] [] []) k:=by
 unfold iB
 by_cases h2:cS l k [61]=true
 ·rw [if_pos h2];unfold fD;rw [if_pos h2];rfl
 rw [if_neg h2]
 unfold rA jC fD
 rw [if_neg (by rw [h];decide),if_neg h2];rfl
theorem bEt{l:List Tok}{n:ByteArray}{k:Nat}(h:cS l k [40]=true):iB l n k=(rA l k).bind fun a k=>oO l (.mk 3 n .zero .zero a [] []) k:=by
 unfold iB
 rw [if_neg]
 intro h2
 have h3:=(mD h).2
 rw [(mD h2).2] at h3
 revert h3;decide
theorem bFl(A B:List Box)(rw:List bA)(P:Nat)(l:List Tok)(k b e dp:Nat)(blk:Nat -> bN (List aJ))(hok:TOk l)(hk:k<l.length)(he:e<16)(hblk:∀(A B:List Box)(rw:List bA)(P k b e:Nat),k<l.length -> e<16 -> aL prog 58 [pP P] [P] (RSt A B rw P l k b e 0 dp) (RAn A B rw P l 0 dp (fun x=>.c (.sl x.length (x.flatMap encS))) e b (blk k))):aL prog 87 [pP P] [P] (RSt A B rw P l k b e 0 dp) (RAn A B rw P l 0 dp (fun x=>.agg (dG x)) e b (fB l blk k)):=by
 have hlen:=hok.len
 refine acB func87 rfl ?_
 show AWp prog _ ⟨98,[P],⟨A++⟨P,112,[.sl l.length (l.flatMap aW),nC k,nC b,nC e,nC 0,nC dp]⟩::B,rw⟩,[(0,pP P)]⟩ _
 refine go 17 fun b1 b2=>?_
 refine wcQ rfl call53 rfl (bD2 (_::_::A) _ _ _ l k b e 0 dp [118,97,114] (by decide) hok hk) ?_
 rintro t1 s1 (⟨rfl,ha1,hm1,rfl,rfl⟩|⟨ha1,rfl,rfl⟩)
 ·refine go 7 ?_
  refine wcQ rfl call56 rfl (bEb (_::_::A) _ _ _ l (k+1) b 0 0 dp hok hm1 (by decide)) ?_
  rintro t3 s3 ⟨x3,k3,u3,e3,rfl,hr3,hk3,he3,rfl⟩
  refine go 9 ?_
  refine wcQ rfl call86 rfl (bZx (_::_::A) _ _ _ l k3 u3 e3 0 dp [61] (by decide) hok hk3 he3) ?_
  rintro t4 s4 ⟨x4,k4,u4,e4,rfl,hr4,hk4,he4,rfl⟩
  refine go 5 ?_
  refine wcQ rfl call125 rfl (bD9 (_::_::A) _ _ _ l k4 u4 e4 dp hok hk4 he4) ?_
  rintro t5 s5 ⟨x5,k5,u5,e5,rfl,hr5,hk5,he5,rfl⟩
  refine go 6 ?_
  refine wcQ rfl call86 rfl (bZx (_::_::A) _ _ _ l k5 u5 e5 0 dp [59] (by decide) hok hk5 he5) ?_
  rintro t6 s6 ⟨x6,k6,u6,e6,rfl,hr6,hk6,he6,rfl⟩
  refine go 10 ?_
  have hs:kX 0 b (qI l (k+1)) (.mk 1 x3 x5 .zero [] [] []) k6 u6 e6:=by
   unfold qI oO
   exact hr3.bind (hr4.bind (hr5.bind (hr6.bind (kX.pure _ _ _ _))))
  exact ⟨.inr rfl,_,(RSt A B rw P l (k6) (u6) (e6) (0) (dp)),(eK (Wk.agg (.r (.r (.r (.r (.r (.r (.r (.n (.n (.n (.n .nil)))))))))))) (aR rfl (aO [_] rfl rfl isAgg78 sizeOf78 (bK rfl rfl)))),aA (.cons _ (.cons _ (.refl _))) (.refl _),⟨(.mk 1 x3 x5 .zero [] [] []),k6,u6,e6,rfl,hs.eq (fun _=>by unfold fB;rw [if_pos ha1]),hk6,he6,rfl⟩⟩
 refine go 7 ?_
 refine wcQ rfl call53 rfl (bD2 (_::_::A) _ _ _ l k b e 0 dp [103,111] (by decide) hok hk) ?_
 rintro t8 s8 (⟨rfl,ha8,hm8,rfl,rfl⟩|⟨ha8,rfl,rfl⟩)
 ·refine go 7 ?_
  refine wcQ rfl call56 rfl (bEb (_::_::A) _ _ _ l (k+1) b 0 0 dp hok hm8 (by decide)) ?_
  rintro t10 s10 ⟨x10,k10,u10,e10,rfl,hr10,hk10,he10,rfl⟩
  refine go 9 ?_
  refine wcQ rfl call126 rfl (bE5 (_::_::A) _ _ _ l k10 u10 e10 dp hok hk10 he10) ?_
  rintro t11 s11 ⟨x11,k11,u11,e11,rfl,hr11,hk11,he11,rfl⟩
  refine go 6 ?_
  refine wcQ rfl call86 rfl (bZx (_::_::A) _ _ _ l k11 u11 e11 0 dp [59] (by decide) hok hk11 he11) ?_
  rintro t12 s12 ⟨x12,k12,u12,e12,rfl,hr12,hk12,he12,rfl⟩
  refine go 10 ?_
  have hs:kX 0 b (goP l (k+1)) (.mk 4 x10 .zero .zero x11 [] []) k12 u12 e12:=by
   unfold goP oO
   exact hr10.bind (hr11.bind (hr12.bind (kX.pure _ _ _ _)))
  exact ⟨.inr rfl,_,(RSt A B rw P l (k12) (u12) (e12) (0) (dp)),(eK (Wk.agg (.r (.r (.r (.r (.r (.n (.r (.n (.r (.n (.n .nil)))))))))))) (aR rfl (aO [_] rfl rfl isAgg78 sizeOf78 (bK rfl rfl)))),aA (.cons _ (.cons _ (.refl _))) (.refl _),⟨(.mk 4 x10 .zero .zero x11 [] []),k12,u12,e12,rfl,hs.eq (fun _=>by unfold fB;rw [if_neg (by rw [ha1 rfl];decide),if_pos ha8]),hk12,he12,rfl⟩⟩
 refine go 7 ?_
 refine wcQ rfl call53 rfl (bD2 (_::_::A) _ _ _ l k b e 0 dp [108,111,99,107] (by decide) hok hk) ?_
 rintro t14 s14 (⟨rfl,ha14,hm14,rfl,rfl⟩|⟨ha14,rfl,rfl⟩)
 ·refine go 7 ?_
  refine wcQ rfl call127 rfl (bFc (_::_::A) _ _ _ l (k+1) b 0 dp hok hm14 (by decide)) ?_
  rintro t16 s16 ⟨x16,k16,u16,e16,rfl,hr16,hk16,he16,rfl⟩
  refine go 8 ?_
  refine wcQ rfl call86 rfl (bZx (_::_::A) _ _ _ l k16 u16 e16 0 dp [59] (by decide) hok hk16 he16) ?_
  rintro t17 s17 ⟨x17,k17,u17,e17,rfl,hr17,hk17,he17,rfl⟩
  refine go 10 ?_
  have hs:kX 0 b (nH l 5 (k+1)) (.mk 5 aK .zero x16 [] [] []) k17 u17 e17:=by
   unfold nH oO
   exact hr16.bind (hr17.bind (kX.pure _ _ _ _))
  exact ⟨.inr rfl,_,(RSt A B rw P l (k17) (u17) (e17) (0) (dp)),(eK (Wk.agg (.r (.r (.r (.r (.r (.n (.r (.r (.n (.n (.n .nil)))))))))))) (aR rfl (aO [_] rfl rfl isAgg78 sizeOf78 (bK rfl rfl)))),aA (.cons _ (.cons _ (.refl _))) (.refl _),⟨(.mk 5 aK .zero x16 [] [] []),k17,u17,e17,rfl,hs.eq (fun _=>by unfold fB;rw [if_neg (by rw [ha1 rfl];decide),if_neg (by rw [ha8 rfl];decide),if_pos ha14]),hk17,he17,rfl⟩⟩
 refine go 7 ?_
 refine wcQ rfl call53 rfl (bD2 (_::_::A) _ _ _ l k b e 0 dp [117,110,108,111,99,107] (by decide) hok hk) ?_
 rintro t19 s19 (⟨rfl,ha19,hm19,rfl,rfl⟩|⟨ha19,rfl,rfl⟩)
 ·refine go 7 ?_
  refine wcQ rfl call127 rfl (bFc (_::_::A) _ _ _ l (k+1) b 0 dp hok hm19 (by decide)) ?_
  rintro t21 s21 ⟨x21,k21,u21,e21,rfl,hr21,hk21,he21,rfl⟩
  refine go 8 ?_
  refine wcQ rfl call86 rfl (bZx (_::_::A) _ _ _ l k21 u21 e21 0 dp [59] (by decide) hok hk21 he21) ?_
  rintro t22 s22 ⟨x22,k22,u22,e22,rfl,hr22,hk22,he22,rfl⟩
  refine go 10 ?_
  have hs:kX 0 b (nH l 6 (k+1)) (.mk 6 aK .zero x21 [] [] []) k22 u22 e22:=by
   unfold nH oO
   exact hr21.bind (hr22.bind (kX.pure _ _ _ _))
  exact ⟨.inr rfl,_,(RSt A B rw P l (k22) (u22) (e22) (0) (dp)),(eK (Wk.agg (.r (.r (.r (.r (.r (.n (.r (.r (.n (.n (.n .nil)))))))))))) (aR rfl (aO [_] rfl rfl isAgg78 sizeOf78 (bK rfl rfl)))),aA (.cons _ (.cons _ (.refl _))) (.refl _),⟨(.mk 6 aK .zero x21 [] [] []),k22,u22,e22,rfl,hs.eq (fun _=>by unfold fB;rw [if_neg (by rw [ha1 rfl];decide),if_neg (by rw [ha8 rfl];decide),if_neg (by rw [ha14 rfl];decide),if_pos ha19]),hk22,he22,rfl⟩⟩
 refine go 7 ?_
 refine wcQ rfl call53 rfl (bD2 (_::_::A) _ _ _ l k b e 0 dp [105,102] (by decide) hok hk) ?_
 rintro t24 s24 (⟨rfl,ha24,hm24,rfl,rfl⟩|⟨ha24,rfl,rfl⟩)
 ·refine go 7 ?_
  refine wcQ rfl call125 rfl (bD9 (_::_::A) _ _ _ l (k+1) b 0 dp hok hm24 (by decide)) ?_
  rintro t26 s26 ⟨x26,k26,u26,e26,rfl,hr26,hk26,he26,rfl⟩
  refine go 9 ?_
  refine wcQ rfl call58 rfl (hblk (_::_::A) _ _ _ k26 u26 e26 hk26 he26) ?_
  rintro t27 s27 ⟨x27,k27,u27,e27,rfl,hr27,hk27,he27,rfl⟩
  refine go 7 ?_
  refine wcQ rfl call53 rfl (bD2 (_::_::A) _ _ _ l k27 u27 e27 0 dp [101,108,115,101] (by decide) hok hk27) ?_
  rintro t28 s28 (⟨rfl,ha28,hm28,rfl,rfl⟩|⟨ha28,rfl,rfl⟩)
  ·refine go 5 ?_
   refine wcQ rfl call58 rfl (hblk (_::_::A) _ _ _ (k27+1) u27 0 hm28 (by decide)) ?_
   rintro t30 s30 ⟨x30,k30,u30,e30,rfl,hr30,hk30,he30,rfl⟩
   refine go 12 ?_
   have hs:kX 0 b (ifP l blk (k+1)) (.mk 7 aK x26 .zero [] x27 x30) k30 u30 e30:=by
    unfold ifP
    exact hr26.bind (hr27.bind (by unfold tA;rw [if_pos ha28];exact hr30.map (f:=fun f=>aJ.mk 7 aK x26 .zero [] x27 f)))
   exact ⟨.inr rfl,_,(RSt A B rw P l (k30) (u30) (e30) (0) (dp)),(eK (Wk.agg (.r (.r (.r (.r (.r (.r (.r (.n (.n (.r (.r .nil)))))))))))) (aR rfl (aO [_] rfl rfl isAgg78 sizeOf78 (bK rfl rfl)))),aA (.cons _ (.cons _ (.refl _))) (.refl _),⟨(.mk 7 aK x26 .zero [] x27 x30),k30,u30,e30,rfl,hs.eq (fun _=>by unfold fB;rw [if_neg (by rw [ha1 rfl];decide),if_neg (by rw [ha8 rfl];decide),if_neg (by rw [ha14 rfl];decide),if_neg (by rw [ha19 rfl];decide),if_pos ha24]),hk30,he30,rfl⟩⟩
  refine go 13 ?_
  have hs:kX 0 b (ifP l blk (k+1)) (.mk 7 aK x26 .zero [] x27 []) k27 u27 e27:=by
   unfold ifP
   exact hr26.bind (hr27.bind ((kX.pure _ _ _ _).eq fun h=>by unfold tA;rw [if_neg (by rw [ha28 h];decide)]))
  exact ⟨.inr rfl,_,(RSt A B rw P l (k27) (u27) (e27) (0) (dp)),(eK (Wk.agg (.r (.r (.r (.r (.r (.r (.r (.n (.n (.r (.n .nil)))))))))))) (aR rfl (aO [_] rfl rfl isAgg78 sizeOf78 (bK rfl rfl)))),aA (.cons _ (.cons _ (.refl _))) (.refl _),⟨(.mk 7 aK x26 .zero [] x27 []),k27,u27,e27,rfl,hs.eq (fun _=>by unfold fB;rw [if_neg (by rw [ha1 rfl];decide),if_neg (by rw [ha8 rfl];decide),if_neg (by rw [ha14 rfl];decide),if_neg (by rw [ha19 rfl];decide),if_pos ha24]),hk27,he27,rfl⟩⟩
 refine go 7 ?_
 refine wcQ rfl call53 rfl (bD2 (_::_::A) _ _ _ l k b e 0 dp [119,104,105,108,101] (by decide) hok hk) ?_
 rintro t33 s33 (⟨rfl,ha33,hm33,rfl,rfl⟩|⟨ha33,rfl,rfl⟩)
 ·refine go 7 ?_
  refine wcQ rfl call125 rfl (bD9 (_::_::A) _ _ _ l (k+1) b 0 dp hok hm33 (by decide)) ?_
  rintro t35 s35 ⟨x35,k35,u35,e35,rfl,hr35,hk35,he35,rfl⟩
  refine go 8 ?_
  refine wcQ rfl call58 rfl (hblk (_::_::A) _ _ _ k35 u35 e35 hk35 he35) ?_
  rintro t36 s36 ⟨x36,k36,u36,e36,rfl,hr36,hk36,he36,rfl⟩
  refine go 12 ?_
  have hs:kX 0 b (pJ l blk (k+1)) (.mk 8 aK x35 .zero [] x36 []) k36 u36 e36:=by
   unfold pJ
   exact hr35.bind (hr36.bind (kX.pure _ _ _ _))
  exact ⟨.inr rfl,_,(RSt A B rw P l (k36) (u36) (e36) (0) (dp)),(eK (Wk.agg (.r (.r (.r (.r (.r (.r (.r (.n (.n (.r (.n .nil)))))))))))) (aR rfl (aO [_] rfl rfl isAgg78 sizeOf78 (bK rfl rfl)))),aA (.cons _ (.cons _ (.refl _))) (.refl _),⟨(.mk 8 aK x35 .zero [] x36 []),k36,u36,e36,rfl,hs.eq (fun _=>by unfold fB;rw [if_neg (by rw [ha1 rfl];decide),if_neg (by rw [ha8 rfl];decide),if_neg (by rw [ha14 rfl];decide),if_neg (by rw [ha19 rfl];decide),if_neg (by rw [ha24 rfl];decide),if_pos ha33]),hk36,he36,rfl⟩⟩
 refine go 7 ?_
 refine wcQ rfl call53 rfl (bD2 (_::_::A) _ _ _ l k b e 0 dp [114,101,116,117,114,110] (by decide) hok hk) ?_
 rintro t38 s38 (⟨rfl,ha38,hm38,rfl,rfl⟩|⟨ha38,rfl,rfl⟩)
 ·refine go 12 ?_
  refine wcQ rfl call86 rfl (bZx (_::_::A) _ _ _ l (k+1) b 0 0 dp [59] (by decide) hok hm38 (by decide)) ?_
  rintro t40 s40 ⟨x40,k40,u40,e40,rfl,hr40,hk40,he40,rfl⟩
  refine go 10 ?_
  have hs:kX 0 b (aD8 l (k+1)) (.mk 9 aK .zero .zero [] [] []) k40 u40 e40:=by
   unfold aD8 oO
   exact hr40.bind (kX.pure _ _ _ _)
  exact ⟨.inr rfl,_,(RSt A B rw P l (k40) (u40) (e40) (0) (dp)),(eK (Wk.agg (.r (.r (.r (.r (.r (.n (.r (.n (.n (.n (.n .nil)))))))))))) (aR rfl (aO [_] rfl rfl isAgg78 sizeOf78 (bK rfl rfl)))),aA (.cons _ (.cons _ (.refl _))) (.refl _),⟨(.mk 9 aK .zero .zero [] [] []),k40,u40,e40,rfl,hs.eq (fun _=>by unfold fB;rw [if_neg (by rw [ha1 rfl];decide),if_neg (by rw [ha8 rfl];decide),if_neg (by rw [ha14 rfl];decide),if_neg (by rw [ha19 rfl];decide),if_neg (by rw [ha24 rfl];decide),if_neg (by rw [ha33 rfl];decide),if_pos ha38]),hk40,he40,rfl⟩⟩
 refine go 7 ?_
 refine wcQ rfl call56 rfl (bEb (_::_::A) _ _ _ l k b e 0 dp hok hk he) ?_
 rintro t42 s42 ⟨x42,k42,u42,e42,rfl,hr42,hk42,he42,rfl⟩
 refine go 10 ?_
 refine wcQ rfl call51 rfl (bD0 (_::_::A) _ _ _ l k42 u42 e42 0 dp [40] (by decide) hok hk42) ?_
 rintro t43 s43 (⟨rfl,ha43,rfl,rfl⟩|⟨ha43,rfl,rfl⟩)
 ·refine go 5 ?_
  refine wcQ rfl call126 rfl (bE5 (_::_::A) _ _ _ l k42 u42 0 dp hok hk42 (by decide)) ?_
  rintro t45 s45 ⟨x45,k45,u45,e45,rfl,hr45,hk45,he45,rfl⟩
  refine go 8 ?_
  refine wcQ rfl call86 rfl (bZx (_::_::A) _ _ _ l k45 u45 e45 0 dp [59] (by decide) hok hk45 he45) ?_
  rintro t46 s46 ⟨x46,k46,u46,e46,rfl,hr46,hk46,he46,rfl⟩
  refine go 10 ?_
  have hs:kX e b (mG l k) (.mk 3 x42 .zero .zero x45 [] []) k46 u46 e46:=by
   unfold mG
   exact hr42.bind (by rw [bEt ha43];unfold oO;exact hr45.bind (hr46.bind (kX.pure _ _ _ _)))
  exact ⟨.inr rfl,_,(RSt A B rw P l (k46) (u46) (e46) (0) (dp)),(eK (Wk.agg (.r (.r (.r (.r (.r (.n (.r (.n (.r (.n (.n .nil)))))))))))) (aR rfl (aO [_] rfl rfl isAgg78 sizeOf78 (bK rfl rfl)))),aA (.cons _ (.cons _ (.refl _))) (.refl _),⟨(.mk 3 x42 .zero .zero x45 [] []),k46,u46,e46,rfl,hs.eq (fun h=>by unfold fB;rw [if_neg (by rw [ha1 h];decide),if_neg (by rw [ha8 h];decide),if_neg (by rw [ha14 h];decide),if_neg (by rw [ha19 h];decide),if_neg (by rw [ha24 h];decide),if_neg (by rw [ha33 h];decide),if_neg (by rw [ha38 h];decide)]),hk46,he46,rfl⟩⟩
 refine go 6 ?_
 refine wcQ rfl call86 rfl (bZx (_::_::A) _ _ _ l k42 u42 e42 0 dp [61] (by decide) hok hk42 he42) ?_
 rintro t48 s48 ⟨x48,k48,u48,e48,rfl,hr48,hk48,he48,rfl⟩
 refine go 4 ?_
 refine wcQ rfl call125 rfl (bD9 (_::_::A) _ _ _ l k48 u48 e48 dp hok hk48 he48) ?_
 rintro t49 s49 ⟨x49,k49,u49,e49,rfl,hr49,hk49,he49,rfl⟩
 refine go 6 ?_
 refine wcQ rfl call86 rfl (bZx (_::_::A) _ _ _ l k49 u49 e49 0 dp [59] (by decide) hok hk49 he49) ?_
 rintro t50 s50 ⟨x50,k50,u50,e50,rfl,hr50,hk50,he50,rfl⟩
 refine go 10 ?_
 have hs:kX e b (mG l k) (.mk 2 x42 x49 .zero [] [] []) k50 u50 e50:=by
  unfold mG
  exact hr42.bind (kX.eq (r:=(fD l [61] _).bind fun _ k=>(lJ l k).bind fun e k=>oO l (.mk 2 x42 e .zero [] [] []) k) (by unfold oO;exact hr48.bind (hr49.bind (hr50.bind (kX.pure _ _ _ _)))) fun h=>(bEy (ha43 h)).symm)
 exact ⟨.inr rfl,_,(RSt A B rw P l (k50) (u50) (e50) (0) (dp)),(eK (Wk.agg (.r (.r (.r (.r (.r (.r (.r (.n (.n (.n (.n .nil)))))))))))) (aR rfl (aO [_] rfl rfl isAgg78 sizeOf78 (bK rfl rfl)))),aA (.cons _ (.cons _ (.refl _))) (.refl _),⟨(.mk 2 x42 x49 .zero [] [] []),k50,u50,e50,rfl,hs.eq (fun h=>by unfold fB;rw [if_neg (by rw [ha1 h];decide),if_neg (by rw [ha8 h];decide),if_neg (by rw [ha14 h];decide),if_neg (by rw [ha19 h];decide),if_neg (by rw [ha24 h];decide),if_neg (by rw [ha33 h];decide),if_neg (by rw [ha38 h];decide)]),hk50,he50,rfl⟩⟩
end
section
open Go.RowKit
theorem bFj(A B:List Box)(rw:List bA)(P:Nat)(l:List Tok)(k b e:Nat)(hok:TOk l)(hk:k<l.length)(he:e<16):aL prog 58 [pP P] [P] (RSt A B rw P l k b e 0 24) (RAn A B rw P l 0 24 (fun x=>.c (.sl x.length (x.flatMap encS))) e b (eX l 0 k)):=by
 have hlen:=hok.len
 refine acB func58 rfl ?_
 show AWp prog _ ⟨47,[P],⟨A++⟨P,112,[.sl l.length (l.flatMap aW),nC k,nC b,nC e,nC 0,nC 24]⟩::B,rw⟩,[(0,pP P)]⟩ _
 refine go 9 ?_
 refine wcQ rfl call51 rfl (bD0 (A) _ _ _ l k b e 0 24 [123] (by decide) hok hk) ?_
 rintro t1 s1 (⟨rfl,ha1,rfl,rfl⟩|⟨ha1,rfl,rfl⟩)
 ·refine go 5 ?_
  refine wcp true rfl (by rfl) (go 6 ?_)
  refine wcQ rfl call52 rfl (bEa (A) _ _ _ l k b 0 0 24 3) ?_
  rintro t3 s3 ⟨u3,e3,hf3,rfl,rfl⟩
  obtain ⟨rfl,rfl⟩:=hf3.1 rfl
  refine go 5 ?_
  refine wcQ rfl call86 rfl (bZx (A) _ _ _ l k k 3 0 24 [123] (by decide) hok hk (by decide)) ?_
  rintro t4 s4 ⟨x4,k4,u4,e4,rfl,hr4,hk4,he4,rfl⟩
  refine go 8 ?_
  refine wad rfl (go 12 ?_)
  have hbad:e4≠0 /\ kX 0 b (eX l 0 k) [] k4 u4 e4:=by
   rcases hr4 with ⟨_,rfl,rfl⟩|⟨h,_⟩
   ·exact ⟨by decide,.err _ _ _ _ _ (by unfold eX;rw [if_pos ha1]) (by decide)⟩
   exact absurd h (by decide)
  refine qR 78 11 ?_
  refine fM (fun g:List aJ×Value×Nat×Nat×Nat=>(⟨47,aY g.2.1++[P],⟨A++⟨P,112,[.sl l.length (l.flatMap aW),.val (.int .i64 (((g.2.2.1):Nat):Int)),.val (.int .i64 (((g.2.2.2.1):Nat):Int)),.val (.int .i64 (((g.2.2.2.2):Nat):Int)),nC 0,.val (.int .i64 (((25):Nat):Int))]⟩::B,⟨g.2.1,78,11,(g.1).length,(g.1).flatMap encS⟩::rw⟩,[(3,.c (.val g.2.1)),(0,pP P)]⟩:AS)) (fun g=>g.2.2.1<l.length /\ g.2.2.2.2<16 /\ g.2.2.2.2≠0 /\ kX 0 b (eX l 0 k) g.1 g.2.2.1 g.2.2.2.1 g.2.2.2.2) (fun g=>if g.2.2.2.2=0 then l.length-g.2.2.1+1 else 0) ([],.slice none 0 0,k4,u4,e4) (cA (.refl _) (.refl _) (fun _ h=>h) (sA rfl)) ⟨hk4,he4,hbad.1,hbad.2⟩ ?_
  rintro ⟨acc,v0,k0,b0,e0⟩ ⟨hk0,he0,hz0,hn0⟩
  dsimp only at hk0 he0 hz0 hn0
  show AWp prog _ (⟨47,aY v0++[P],⟨A++⟨P,112,[.sl l.length (l.flatMap aW),.val (.int .i64 (((k0):Nat):Int)),.val (.int .i64 (((b0):Nat):Int)),.val (.int .i64 (((e0):Nat):Int)),nC 0,.val (.int .i64 (((25):Nat):Int))]⟩::B,⟨v0,78,11,(acc).length,(acc).flatMap encS⟩::rw⟩,[(3,.c (.val v0)),(0,pP P)]⟩:AS) _
  have h0:=hz0
  refine go 7 ?_
  refine wcp false rfl (lA h0) (go 19 ?_)
  refine wyz rfl (cI ((24:Nat):Int) rfl rfl rfl rfl (by omega) (by omega)) (go 11 ?_)
  refine aH0 2 rfl ?_
  refine go 1 ?_
  exact ⟨.inr rfl,_,(RSt A B rw P l (k0) (b0) (e0) (0) (24)),(aR rfl (aF rfl)),aA (.refl _) (.refl _),⟨acc,k0,b0,e0,rfl,hn0,hk0,he0,rfl⟩⟩
 refine go 15 ?_
 refine wcQ rfl call86 rfl (bZx (A) _ _ _ l k b e 0 24 [123] (by decide) hok hk he) ?_
 rintro t7 s7 ⟨x7,k7,u7,e7,rfl,hr7,hk7,he7,rfl⟩
 refine go 8 ?_
 refine wad rfl (go 12 ?_)
 have hbad:e7≠0 /\ kX e b (eX l 0 k) [] k7 u7 e7:=by
  rcases hr7 with ⟨h,rfl,rfl⟩|⟨h,h2⟩
  ·exact ⟨h,.skip h _ _ _⟩
  subst h
  have hq:=ha1 rfl
  have h9:fD l [123] k=.err k 4:=by unfold fD;rw [if_neg (by rw [hq];decide)]
  rw [h9] at h2
  rcases h2 with ⟨h2,_,_⟩|⟨h2,h3⟩
  ·cases h2
  cases h2;exact ⟨h3,.err _ _ _ _ _ (by unfold eX;rw [if_neg (by rw [hq];decide)]) h3⟩
 refine qR 78 11 ?_
 refine fM (fun g:List aJ×Value×Nat×Nat×Nat=>(⟨47,aY g.2.1++[P],⟨A++⟨P,112,[.sl l.length (l.flatMap aW),.val (.int .i64 (((g.2.2.1):Nat):Int)),.val (.int .i64 (((g.2.2.2.1):Nat):Int)),.val (.int .i64 (((g.2.2.2.2):Nat):Int)),nC 0,.val (.int .i64 (((25):Nat):Int))]⟩::B,⟨g.2.1,78,11,(g.1).length,(g.1).flatMap encS⟩::rw⟩,[(3,.c (.val g.2.1)),(0,pP P)]⟩:AS)) (fun g=>g.2.2.1<l.length /\ g.2.2.2.2<16 /\ g.2.2.2.2≠0 /\ kX e b (eX l 0 k) g.1 g.2.2.1 g.2.2.2.1 g.2.2.2.2) (fun g=>if g.2.2.2.2=0 then l.length-g.2.2.1+1 else 0) ([],.slice none 0 0,k7,u7,e7) (cA (.refl _) (.refl _) (fun _ h=>h) (sA rfl)) ⟨hk7,he7,hbad.1,hbad.2⟩ ?_
 rintro ⟨acc,v0,k0,b0,e0⟩ ⟨hk0,he0,hz0,hn0⟩
 dsimp only at hk0 he0 hz0 hn0
 show AWp prog _ (⟨47,aY v0++[P],⟨A++⟨P,112,[.sl l.length (l.flatMap aW),.val (.int .i64 (((k0):Nat):Int)),.val (.int .i64 (((b0):Nat):Int)),.val (.int .i64 (((e0):Nat):Int)),nC 0,.val (.int .i64 (((25):Nat):Int))]⟩::B,⟨v0,78,11,(acc).length,(acc).flatMap encS⟩::rw⟩,[(3,.c (.val v0)),(0,pP P)]⟩:AS) _
 have h0:=hz0
 refine go 7 ?_
 refine wcp false rfl (lA h0) (go 19 ?_)
 refine wyz rfl (cI ((24:Nat):Int) rfl rfl rfl rfl (by omega) (by omega)) (go 11 ?_)
 refine aH0 2 rfl ?_
 refine go 1 ?_
 exact ⟨.inr rfl,_,(RSt A B rw P l (k0) (b0) (e0) (0) (24)),(aR rfl (aF rfl)),aA (.refl _) (.refl _),⟨acc,k0,b0,e0,rfl,hn0,hk0,he0,rfl⟩⟩
theorem bFh(A B:List Box)(rw:List bA)(P:Nat)(l:List Tok)(k b e dp:Nat)(st:Nat -> bN aJ)(hdp:dp<24)(hin:∀k,k<l.length -> (st k).In l k)(hstm:∀(A B:List Box)(rw:List bA)(P k b e:Nat),k<l.length -> e<16 -> aL prog 87 [pP P] [P] (RSt A B rw P l k b e 0 (dp+1)) (RAn A B rw P l 0 (dp+1) (fun x=>.agg (dG x)) e b (st k)))(hok:TOk l)(hk:k<l.length)(he:e<16):aL prog 58 [pP P] [P] (RSt A B rw P l k b e 0 dp) (RAn A B rw P l 0 dp (fun x=>.c (.sl x.length (x.flatMap encS))) e b ((fD l [123] k).bind fun _ k=>eS l st l.length [] k)):=by
 have hlen:=hok.len
 refine acB func58 rfl ?_
 show AWp prog _ ⟨47,[P],⟨A++⟨P,112,[.sl l.length (l.flatMap aW),nC k,nC b,nC e,nC 0,nC dp]⟩::B,rw⟩,[(0,pP P)]⟩ _
 refine go 9 ?_
 refine wcQ rfl call51 rfl (bD0 (A) _ _ _ l k b e 0 dp [123] (by decide) hok hk) ?_
 rintro t1 s1 (⟨rfl,ha1,rfl,rfl⟩|⟨ha1,rfl,rfl⟩)
 ·refine go 5 ?_
  refine wcp false rfl (by rw [show bC .eql ((dp:Nat):Int) 24=some (decide (dp=24)) from jS (n:=24),decide_eq_false (by omega)]) (go 9 ?_)
  refine wcQ rfl call86 rfl (bZx (A) _ _ _ l k b 0 0 dp [123] (by decide) hok hk (by decide)) ?_
  rintro t3 s3 ⟨x3,k3,u3,e3,rfl,hr3,hk3,he3,rfl⟩
  refine go 8 ?_
  refine wad rfl (go 12 ?_)
  refine qR 78 11 ?_
  refine fM (fun g:List aJ×Value×Nat×Nat×Nat=>(⟨47,aY g.2.1++[P],⟨A++⟨P,112,[.sl l.length (l.flatMap aW),.val (.int .i64 (((g.2.2.1):Nat):Int)),.val (.int .i64 (((g.2.2.2.1):Nat):Int)),.val (.int .i64 (((g.2.2.2.2):Nat):Int)),nC 0,.val (.int .i64 (((dp+1):Nat):Int))]⟩::B,⟨g.2.1,78,11,(g.1).length,(g.1).flatMap encS⟩::rw⟩,[(3,.c (.val g.2.1)),(0,pP P)]⟩:AS)) (fun g=>g.2.2.1<l.length /\ g.2.2.2.2<16 /\ (g.2.2.2.2=0 -> g.1.length <= g.2.2.1) /\ (g.2.2.2.2≠0 -> kX 0 b ((fD l [123] k).bind fun _ k=>eS l st l.length [] k) g.1 g.2.2.1 g.2.2.2.1 g.2.2.2.2) /\ (g.2.2.2.2=0 -> ∃n,l.length <= n+g.2.2.1 /\ ∀z k' b' e',kX 0 g.2.2.2.1 (eS l st n g.1 g.2.2.1) z k' b' e' -> kX 0 b ((fD l [123] k).bind fun _ k=>eS l st l.length [] k) z k' b' e')) (fun g=>if g.2.2.2.2=0 then l.length-g.2.2.1+1 else 0) ([],.slice none 0 0,k3,u3,e3) (cA (.refl _) (.refl _) (fun _ h=>h) (sA rfl)) ⟨hk3,he3,fun _=>Nat.zero_le _,fun h=>hr3.bind (kX.skip h _ _ _),fun h=>⟨l.length,Nat.le_add_right _ _,fun z k' b' e' h2=>hr3.bind (by rw [show e3=0 from h];exact h2)⟩⟩ ?_
  rintro ⟨acc,v0,k0,b0,e0⟩ ⟨hk0,he0,ha0,hn0,hc0⟩
  dsimp only at hk0 he0 ha0 hn0 hc0
  show AWp prog _ (⟨47,aY v0++[P],⟨A++⟨P,112,[.sl l.length (l.flatMap aW),.val (.int .i64 (((k0):Nat):Int)),.val (.int .i64 (((b0):Nat):Int)),.val (.int .i64 (((e0):Nat):Int)),nC 0,.val (.int .i64 (((dp+1):Nat):Int))]⟩::B,⟨v0,78,11,(acc).length,(acc).flatMap encS⟩::rw⟩,[(3,.c (.val v0)),(0,pP P)]⟩:AS) _
  by_cases h0:e0=0
  ·subst h0
   have ha1:=ha0 rfl
   obtain ⟨n0,hn1,hcont⟩:=hc0 rfl
   refine go 7 ?_
   refine wcp true rfl (by rfl) (go 2 ?_)
   refine wcQ rfl call53 rfl (bD5 (A) _ _ _ l k0 b0 0 0 (dp+1) [125] (by decide) hok hk0) ?_
   rintro t4 s4 (⟨-,ha4,hm4,rfl,rfl⟩|⟨ha4,rfl,rfl⟩)
   ·refine go 16 ?_
    refine wyz rfl (cI ((dp:Nat):Int) rfl rfl rfl (by omega) (by omega) (by omega)) (go 11 ?_)
    refine aH0 2 rfl ?_
    refine go 1 ?_
    obtain ⟨m,rfl⟩:∃m,n0=m+1:=⟨n0-1,by omega⟩
    exact ⟨.inr rfl,_,(RSt A B rw P l (k0+1) (b0) (0) (0) (dp)),(aR rfl (aF rfl)),aA (.refl _) (.refl _),⟨acc,k0+1,b0,0,rfl,hcont _ _ _ _ (by rw [eS,if_pos ha4];exact .ok _ _ _ rfl),hm4,(by decide),rfl⟩⟩
   refine go 11 ?_
   refine wcQ rfl call87 rfl (hstm (A) _ _ _ k0 b0 0 hk0 he0) ?_
   rintro t7 s7 ⟨x7,k7,u7,e7,rfl,hr7,hk7,he7,rfl⟩
   refine wo rfl (bDk bDu rfl (.cons rfl .nil) (aV encS dG x7 (cJ _) rfl rfl) ?_)
   refine wo rfl (bFe Tryz.t78 192 rfl rfl (by decide) rfl rfl underlying56 (by kernel_rfl) rfl rfl rfl rfl (by decide) (by rw [List.flatMap_cons,List.flatMap_nil,List.append_nil,mE]) (by decide) (by unfold maxLen;skip;omega) (by skip;omega) (@length_append _ acc [x7]).symm (fun _ b hb=>by simp [hb]) (fun b hb=>by simp [hb]) (List.flatMap_append (f:=encS)).symm fun v8=>?_)
   refine go 3 ?_
   obtain ⟨m,rfl⟩:∃m,n0=m+1:=⟨n0-1,by omega⟩
   have hst:∀z k' b' e',kX e7 u7 (eS l st m (acc++[x7]) k7) z k' b' e' -> kX 0 b ((fD l [123] k).bind fun _ k=>eS l st l.length [] k) z k' b' e':=fun z k' b' e' h=>hcont z k' b' e' (by rw [eS,if_neg (by rw [ha4 rfl];decide)];exact hr7.bind h)
   have hgo:e7=0 -> k0<k7:=fun h=>by have h9:=hin k0 hk0;rw [(hr7.good h).2.1] at h9;exact h9.1
   refine ⟨(acc++[x7],v8,k7,u7,e7),⟨hk7,he7,fun h=>?_,fun h=>hst _ _ _ _ (.skip h _ _ _),fun h=>⟨m,?_,fun z k' b' e' h2=>hst _ _ _ _ ?_⟩⟩,?_,cA (.refl _) (.refl _) (by grind) (sA rfl)⟩
   ·have:=hgo h;show (acc++[_]).length <= k7;simp;omega
   ·have:=hgo h;show l.length <= m+k7;omega
   ·rw [show e7=0 from h];exact h2
   show (if e7=0 then _ else _)<(if (0:Nat)=0 then _ else _)
   by_cases h:e7=0
   ·have:=hgo h;rw [if_pos h,if_pos rfl];show l.length-k7+1<l.length-k0+1;omega
   rw [if_neg h,if_pos rfl];show 0<l.length-k0+1;omega
  refine go 7 ?_
  refine wcp false rfl (lA h0) (go 19 ?_)
  refine wyz rfl (cI ((dp:Nat):Int) rfl rfl rfl (by omega) (by omega) (by omega)) (go 11 ?_)
  refine aH0 2 rfl ?_
  refine go 1 ?_
  exact ⟨.inr rfl,_,(RSt A B rw P l (k0) (b0) (e0) (0) (dp)),(aR rfl (aF rfl)),aA (.refl _) (.refl _),⟨acc,k0,b0,e0,rfl,hn0 h0,hk0,he0,rfl⟩⟩
 refine go 15 ?_
 refine wcQ rfl call86 rfl (bZx (A) _ _ _ l k b e 0 dp [123] (by decide) hok hk he) ?_
 rintro t11 s11 ⟨x11,k11,u11,e11,rfl,hr11,hk11,he11,rfl⟩
 refine go 8 ?_
 refine wad rfl (go 12 ?_)
 refine qR 78 11 ?_
 refine fM (fun g:List aJ×Value×Nat×Nat×Nat=>(⟨47,aY g.2.1++[P],⟨A++⟨P,112,[.sl l.length (l.flatMap aW),.val (.int .i64 (((g.2.2.1):Nat):Int)),.val (.int .i64 (((g.2.2.2.1):Nat):Int)),.val (.int .i64 (((g.2.2.2.2):Nat):Int)),nC 0,.val (.int .i64 (((dp+1):Nat):Int))]⟩::B,⟨g.2.1,78,11,(g.1).length,(g.1).flatMap encS⟩::rw⟩,[(3,.c (.val g.2.1)),(0,pP P)]⟩:AS)) (fun g=>g.2.2.1<l.length /\ g.2.2.2.2<16 /\ (g.2.2.2.2=0 -> g.1.length <= g.2.2.1) /\ (g.2.2.2.2≠0 -> kX e b ((fD l [123] k).bind fun _ k=>eS l st l.length [] k) g.1 g.2.2.1 g.2.2.2.1 g.2.2.2.2) /\ (g.2.2.2.2=0 -> ∃n,l.length <= n+g.2.2.1 /\ ∀z k' b' e',kX 0 g.2.2.2.1 (eS l st n g.1 g.2.2.1) z k' b' e' -> kX e b ((fD l [123] k).bind fun _ k=>eS l st l.length [] k) z k' b' e')) (fun g=>if g.2.2.2.2=0 then l.length-g.2.2.1+1 else 0) ([],.slice none 0 0,k11,u11,e11) (cA (.refl _) (.refl _) (fun _ h=>h) (sA rfl)) ⟨hk11,he11,fun _=>Nat.zero_le _,fun h=>hr11.bind (kX.skip h _ _ _),fun h=>⟨l.length,Nat.le_add_right _ _,fun z k' b' e' h2=>hr11.bind (by rw [show e11=0 from h];exact h2)⟩⟩ ?_
 rintro ⟨acc,v0,k0,b0,e0⟩ ⟨hk0,he0,ha0,hn0,hc0⟩
 dsimp only at hk0 he0 ha0 hn0 hc0
 show AWp prog _ (⟨47,aY v0++[P],⟨A++⟨P,112,[.sl l.length (l.flatMap aW),.val (.int .i64 (((k0):Nat):Int)),.val (.int .i64 (((b0):Nat):Int)),.val (.int .i64 (((e0):Nat):Int)),nC 0,.val (.int .i64 (((dp+1):Nat):Int))]⟩::B,⟨v0,78,11,(acc).length,(acc).flatMap encS⟩::rw⟩,[(3,.c (.val v0)),(0,pP P)]⟩:AS) _
 by_cases h0:e0=0
 ·subst h0
  have ha1:=ha0 rfl
  obtain ⟨n0,hn1,hcont⟩:=hc0 rfl
  refine go 7 ?_
  refine wcp true rfl (by rfl) (go 2 ?_)
  refine wcQ rfl call53 rfl (bD5 (A) _ _ _ l k0 b0 0 0 (dp+1) [125] (by decide) hok hk0) ?_
  rintro t12 s12 (⟨-,ha12,hm12,rfl,rfl⟩|⟨ha12,rfl,rfl⟩)
  ·refine go 16 ?_
   refine wyz rfl (cI ((dp:Nat):Int) rfl rfl rfl (by omega) (by omega) (by omega)) (go 11 ?_)
   refine aH0 2 rfl ?_
   refine go 1 ?_
   obtain ⟨m,rfl⟩:∃m,n0=m+1:=⟨n0-1,by omega⟩
   exact ⟨.inr rfl,_,(RSt A B rw P l (k0+1) (b0) (0) (0) (dp)),(aR rfl (aF rfl)),aA (.refl _) (.refl _),⟨acc,k0+1,b0,0,rfl,hcont _ _ _ _ (by rw [eS,if_pos ha12];exact .ok _ _ _ rfl),hm12,(by decide),rfl⟩⟩
  refine go 11 ?_
  refine wcQ rfl call87 rfl (hstm (A) _ _ _ k0 b0 0 hk0 he0) ?_
  rintro t15 s15 ⟨x15,k15,u15,e15,rfl,hr15,hk15,he15,rfl⟩
  refine wo rfl (bDk bDu rfl (.cons rfl .nil) (aV encS dG x15 (cJ _) rfl rfl) ?_)
  refine wo rfl (bFe Tryz.t78 192 rfl rfl (by decide) rfl rfl underlying56 (by kernel_rfl) rfl rfl rfl rfl (by decide) (by rw [List.flatMap_cons,List.flatMap_nil,List.append_nil,mE]) (by decide) (by unfold maxLen;skip;omega) (by skip;omega) (@length_append _ acc [x15]).symm (fun _ b hb=>by simp [hb]) (fun b hb=>by simp [hb]) (List.flatMap_append (f:=encS)).symm fun v16=>?_)
  refine go 3 ?_
  obtain ⟨m,rfl⟩:∃m,n0=m+1:=⟨n0-1,by omega⟩
  have hst:∀z k' b' e',kX e15 u15 (eS l st m (acc++[x15]) k15) z k' b' e' -> kX e b ((fD l [123] k).bind fun _ k=>eS l st l.length [] k) z k' b' e':=fun z k' b' e' h=>hcont z k' b' e' (by rw [eS,if_neg (by rw [ha12 rfl];decide)];exact hr15.bind h)
  have hgo:e15=0 -> k0<k15:=fun h=>by have h9:=hin k0 hk0;rw [(hr15.good h).2.1] at h9;exact h9.1
  refine ⟨(acc++[x15],v16,k15,u15,e15),⟨hk15,he15,fun h=>?_,fun h=>hst _ _ _ _ (.skip h _ _ _),fun h=>⟨m,?_,fun z k' b' e' h2=>hst _ _ _ _ ?_⟩⟩,?_,cA (.refl _) (.refl _) (by grind) (sA rfl)⟩
  ·have:=hgo h;show (acc++[_]).length <= k15;simp;omega
  ·have:=hgo h;show l.length <= m+k15;omega
  ·rw [show e15=0 from h];exact h2
  show (if e15=0 then _ else _)<(if (0:Nat)=0 then _ else _)
  by_cases h:e15=0
  ·have:=hgo h;rw [if_pos h,if_pos rfl];show l.length-k15+1<l.length-k0+1;omega
  rw [if_neg h,if_pos rfl];show 0<l.length-k0+1;omega
 refine go 7 ?_
 refine wcp false rfl (lA h0) (go 19 ?_)
 refine wyz rfl (cI ((dp:Nat):Int) rfl rfl rfl (by omega) (by omega) (by omega)) (go 11 ?_)
 refine aH0 2 rfl ?_
 refine go 1 ?_
 exact ⟨.inr rfl,_,(RSt A B rw P l (k0) (b0) (e0) (0) (dp)),(aR rfl (aF rfl)),aA (.refl _) (.refl _),⟨acc,k0,b0,e0,rfl,hn0 h0,hk0,he0,rfl⟩⟩
theorem bEh(l:List Tok)(hok:TOk l):∀(d:Nat),d <= 24 -> ∀(A B:List Box)(rw:List bA)(P:Nat)(k b e:Nat),k<l.length -> e<16 -> aL prog 58 [pP P] [P] (RSt A B rw P l k b e 0 (24-d)) (RAn A B rw P l 0 (24-d) (fun x=>.c (.sl x.length (x.flatMap encS))) e b (eX l d k))
 |0,_,A,B,rw,P,k,b,e,hk,he=>bFj A B rw P l k b e hok hk he
 |d+1,hd,A,B,rw,P,k,b,e,hk,he=>by
  have hb:∀k,k<l.length -> (eX l d k).In l k:=fun k hk=>pB hok.last d k hk
  have h:=bFh A B rw P l k b e (24-(d+1)) (fB l (eX l d)) (by omega) (fun k hk=>zE hok.last hb hk) (fun A B rw P k b e hk he=>by
   have h9:=bFl A B rw P l k b e (24-(d+1)+1) (eX l d) hok hk he (fun A B rw P k b e hk he=>by
    have h8:=bEh l hok d (by omega) A B rw P k b e hk he
    have e1:24-(d+1)+1=24-d:=by omega
    rw [e1];exact h8)
   exact h9) hok hk he
  exact h
end
end Go.Proofs.YtojinfngbbajgaaGreatDoor
