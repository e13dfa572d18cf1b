import Derived.Test.YtckelpefchdenaaGreatDoorG8J
set_option linter.all false
set_option synthInstance.maxHeartbeats 1000000
set_option synthInstance.maxSize 1000000
set_option maxHeartbeats 3200000
set_option maxRecDepth 100000
namespace Go.Proofs.YtckelpefchdenaaGreatDoor
open Go.Proofs.Tryz
open List (length_append length_cons length_nil mem_append mem_cons not_mem_nil append_assoc getElem_mem take_of_length_le)
section
open Go.RowKit
def Si{l:List Tok}{n:aI}{k:Nat}(h:fZ l k [40]=false):vl l n k=(gJ l [61] k).bind λ_ k=>(rI l k).bind λe k=>mF l (.mk 2 n e .zero [] [] []) k:=by
 unfold vl;by_cases h2:fZ l k [61]=true
 ·rw [if_pos h2];unfold gJ;rw [if_pos h2];rfl
 rw [if_neg h2];unfold ss rM gJ;rw [if_neg nx,if_neg h2];rfl
def Rn{l:List Tok}{n:aI}{k:Nat}(h:fZ l k [40]=true):vl l n k=(ss l k).bind λa k=>mF l (.mk 3 n .zero .zero a [] []) k:=by
 unfold vl;rw [if_neg];intro h2;have h3:=(v_ h).2;rw [(v_ h2).2] at h3
 revert h3;decide
def Y2(A B:List aV)(rw:List aQ)(P:Nat)(l:List Tok)(k b e dp:Nat)(blk:Nat -> cJ (List aD))(hok:gb l)(hk:k<l.length)(he:e<16)(hblk:∀(A B:List aV)(rw:List aQ)(P k b e:Nat),k<l.length -> e<16 -> aT prog 61 [aE P] [P] (bc A B rw P l k b e 0 dp) (ig A B rw P l 0 dp (λx=>.c (aG encS x)) e b (blk k))):aT prog 86 [aE P] [P] (bc A B rw P l k b e 0 dp) (ig A B rw P l 0 dp (λx=>.agg (cm x)) e b (oI l blk k)):=by
 have hlen:=hok.len;refine bM 98 func86 ?_;refine go 17 λb1 b2=>?_;refine bE J dw J (eh (_::_::A) _ _ _ l k b e 0 dp [118,97,114] V hok hk) ?_;rintro t1 s1 (⟨rfl,ha1,hm1,rfl,rfl⟩|⟨ha1,rfl,rfl⟩)
 ·refine go 7 ?_;refine bE J mb J (mi (_::_::A) _ _ _ l (k+1) b 0 0 dp hok hm1 V) ?_;rintro t3 s3 ⟨x3,k3,u3,e3,rfl,hr3,hk3,he3,rfl⟩;refine go 9 ?_;refine bE J iL J (iF (_::_::A) _ _ _ l k3 u3 e3 0 dp [61] V hok hk3 he3) ?_;rintro t4 s4 ⟨x4,k4,u4,e4,rfl,hr4,hk4,he4,rfl⟩;refine go 5 ?_;refine bE J qR J (xl (_::_::A) _ _ _ l k4 u4 e4 dp hok hk4 he4) ?_;rintro t5 s5 ⟨x5,k5,u5,e5,rfl,hr5,hk5,he5,rfl⟩;refine go 6 ?_;refine bE J iL J (iF (_::_::A) _ _ _ l k5 u5 e5 0 dp [59] V hok hk5 he5) ?_;rintro t6 s6 ⟨x6,k6,u6,e6,rfl,hr6,hk6,he6,rfl⟩;refine go 10 ?_;have hs:bj 0 b (Dy l (k+1)) (.mk 1 x3 x5 .zero [] [] []) k6 u6 e6:=by
   unfold Dy mF;exact hr3.bind (hr4.bind (hr5.bind (hr6.bind (bj.pure _ _ _ _))))
  exact ⟨.inr J,_,(bc A B rw P l (k6) (u6) (e6) (0) (dp)),(gK (bI.agg (.r (.r (.r (.r (.r (.r (.r (.n (.n (.n (.n .nil)))))))))))) (bJ J (bv [_] J J ge eB (cG J J)))),ah c_ (.refl _),⟨(.mk 1 x3 x5 .zero [] [] []),k6,u6,e6,J,hs.eq (λ_=>by unfold oI;rw [if_pos ha1]),hk6,he6,J⟩⟩
 refine go 7 ?_;refine bE J dw J (eh (_::_::A) _ _ _ l k b e 0 dp [103,111] V hok hk) ?_;rintro t8 s8 (⟨rfl,L7,hm8,rfl,rfl⟩|⟨L7,rfl,rfl⟩)
 ·refine go 7 ?_;refine bE J mb J (mi (_::_::A) _ _ _ l (k+1) b 0 0 dp hok hm8 V) ?_;rintro t10 s10 ⟨x10,k10,u10,e10,rfl,CT,hk10,aKl,rfl⟩;refine go 9 ?_;refine bE J call109 J (Kk (_::_::A) _ _ _ l k10 u10 e10 dp hok hk10 aKl) ?_;rintro t11 s11 ⟨x11,k11,u11,e11,rfl,aIr,aIl,aJl,rfl⟩;refine go 6 ?_;refine bE J iL J (iF (_::_::A) _ _ _ l k11 u11 e11 0 dp [59] V hok aIl aJl) ?_;rintro t12 s12 ⟨x12,k12,u12,e12,rfl,aMv,aKi,aMw,rfl⟩;refine go 10 ?_;have hs:bj 0 b (C_ l (k+1)) (.mk 4 x10 .zero .zero x11 [] []) k12 u12 e12:=by
   unfold C_ mF;exact CT.bind (aIr.bind (aMv.bind (bj.pure _ _ _ _)))
  exact ⟨.inr J,_,(bc A B rw P l (k12) (u12) (e12) (0) (dp)),(gK (bI.agg (.r (.r (.r (.r (.r (.n (.r (.n (.r (.n (.n .nil)))))))))))) (bJ J (bv [_] J J ge eB (cG J J)))),ah c_ (.refl _),⟨(.mk 4 x10 .zero .zero x11 [] []),k12,u12,e12,J,hs.eq (λ_=>by unfold oI;rw [if_neg yq,if_pos L7]),aKi,aMw,J⟩⟩
 refine go 7 ?_;refine bE J dw J (eh (_::_::A) _ _ _ l k b e 0 dp [108,111,99,107] V hok hk) ?_;rintro t14 s14 (⟨rfl,OF,aSx,rfl,rfl⟩|⟨OF,rfl,rfl⟩)
 ·refine go 7 ?_;refine bE J call110 J (GD (_::_::A) _ _ _ l (k+1) b 0 dp hok aSx V) ?_;rintro t16 s16 ⟨x16,k16,u16,e16,rfl,St,aMx,aMy,rfl⟩;refine go 8 ?_;refine bE J iL J (iF (_::_::A) _ _ _ l k16 u16 e16 0 dp [59] V hok aMx aMy) ?_;rintro t17 s17 ⟨x17,k17,u17,e17,rfl,aS0,aS1,aS2,rfl⟩;refine go 10 ?_;have hs:bj 0 b (uq l 5 (k+1)) (.mk 5 ay .zero x16 [] [] []) k17 u17 e17:=by
   unfold uq mF;exact St.bind (aS0.bind (bj.pure _ _ _ _))
  exact ⟨.inr J,_,(bc A B rw P l (k17) (u17) (e17) (0) (dp)),(gK (bI.agg (.r (.r (.r (.r (.r (.n (.r (.r (.n (.n (.n .nil)))))))))))) (bJ J (bv [_] J J ge eB (cG J J)))),ah c_ (.refl _),⟨(.mk 5 ay .zero x16 [] [] []),k17,u17,e17,J,hs.eq (λ_=>by unfold oI;rw [if_neg yq,if_neg yh,if_pos OF]),aS1,aS2,J⟩⟩
 refine go 7 ?_;refine bE J dw J (eh (_::_::A) _ _ _ l k b e 0 dp [117,110,108,111,99,107] V hok hk) ?_;rintro t19 s19 (⟨rfl,Rd,aS3,rfl,rfl⟩|⟨Rd,rfl,rfl⟩)
 ·refine go 7 ?_;refine bE J call110 J (GD (_::_::A) _ _ _ l (k+1) b 0 dp hok aS3 V) ?_;rintro t21 s21 ⟨x21,k21,u21,e21,rfl,aMj,aMk,aMl,rfl⟩;refine go 8 ?_;refine bE J iL J (iF (_::_::A) _ _ _ l k21 u21 e21 0 dp [59] V hok aMk aMl) ?_;rintro t22 s22 ⟨x22,k22,u22,e22,rfl,aS4,aS5,aS6,rfl⟩;refine go 10 ?_;have hs:bj 0 b (uq l 6 (k+1)) (.mk 6 ay .zero x21 [] [] []) k22 u22 e22:=by
   unfold uq mF;exact aMj.bind (aS4.bind (bj.pure _ _ _ _))
  exact ⟨.inr J,_,(bc A B rw P l (k22) (u22) (e22) (0) (dp)),(gK (bI.agg (.r (.r (.r (.r (.r (.n (.r (.r (.n (.n (.n .nil)))))))))))) (bJ J (bv [_] J J ge eB (cG J J)))),ah c_ (.refl _),⟨(.mk 6 ay .zero x21 [] [] []),k22,u22,e22,J,hs.eq (λ_=>by unfold oI;rw [if_neg yq,if_neg yh,if_neg HG,if_pos Rd]),aS5,aS6,J⟩⟩
 refine go 7 ?_;refine bE J dw J (eh (_::_::A) _ _ _ l k b e 0 dp [105,102] V hok hk) ?_;rintro t24 s24 (⟨rfl,aIz,aS7,rfl,rfl⟩|⟨aIz,rfl,rfl⟩)
 ·refine go 7 ?_;refine bE J qR J (xl (_::_::A) _ _ _ l (k+1) b 0 dp hok aS7 V) ?_;rintro t26 s26 ⟨x26,k26,u26,e26,rfl,aO7,aS8,aS9,rfl⟩;refine go 9 ?_;refine bE J call61 J (hblk (_::_::A) _ _ _ k26 u26 e26 aS8 aS9) ?_;rintro t27 s27 ⟨x27,k27,u27,e27,rfl,LT,aH6,aIp,rfl⟩;refine go 7 ?_;refine bE J dw J (eh (_::_::A) _ _ _ l k27 u27 e27 0 dp [101,108,115,101] V hok aH6) ?_;rintro t28 s28 (⟨rfl,aMz,aTa,rfl,rfl⟩|⟨aMz,rfl,rfl⟩)
  ·refine go 5 ?_;refine bE J call61 J (hblk (_::_::A) _ _ _ (k27+1) u27 0 aTa V) ?_;rintro t30 s30 ⟨x30,k30,u30,e30,rfl,aTc,aTd,aTe,rfl⟩;refine go 12 ?_;have hs:bj 0 b (wq l blk (k+1)) (.mk 7 ay x26 .zero [] x27 x30) k30 u30 e30:=by
    unfold wq;exact aO7.bind (LT.bind (by unfold zO;rw [if_pos aMz];exact aTc.map (f:=λf=>aD.mk 7 ay x26 .zero [] x27 f)))
   exact ⟨.inr J,_,(bc A B rw P l (k30) (u30) (e30) (0) (dp)),(gK (bI.agg (.r (.r (.r (.r (.r (.r (.r (.n (.n (.r (.r .nil)))))))))))) (bJ J (bv [_] J J ge eB (cG J J)))),ah c_ (.refl _),⟨(.mk 7 ay x26 .zero [] x27 x30),k30,u30,e30,J,hs.eq K6,aTd,aTe,J⟩⟩
  refine go 13 ?_;have hs:bj 0 b (wq l blk (k+1)) (.mk 7 ay x26 .zero [] x27 []) k27 u27 e27:=by
   unfold wq;exact aO7.bind (LT.bind ((bj.pure _ _ _ _).eq λh=>by unfold zO;rw [if_neg (by rw [aMz h];decide)]))
  exact ⟨.inr J,_,(bc A B rw P l (k27) (u27) (e27) (0) (dp)),(gK (bI.agg (.r (.r (.r (.r (.r (.r (.r (.n (.n (.r (.n .nil)))))))))))) (bJ J (bv [_] J J ge eB (cG J J)))),ah c_ (.refl _),⟨(.mk 7 ay x26 .zero [] x27 []),k27,u27,e27,J,hs.eq K6,aH6,aIp,J⟩⟩
 refine go 7 ?_;refine bE J dw J (eh (_::_::A) _ _ _ l k b e 0 dp [119,104,105,108,101] V hok hk) ?_;rintro t33 s33 (⟨rfl,aJy,aTf,rfl,rfl⟩|⟨aJy,rfl,rfl⟩)
 ·refine go 7 ?_;refine bE J qR J (xl (_::_::A) _ _ _ l (k+1) b 0 dp hok aTf V) ?_;rintro t35 s35 ⟨x35,k35,u35,e35,rfl,PB,aTg,aTh,rfl⟩;refine go 8 ?_;refine bE J call61 J (hblk (_::_::A) _ _ _ k35 u35 e35 aTg aTh) ?_;rintro t36 s36 ⟨x36,k36,u36,e36,rfl,aM0,aKs,aM1,rfl⟩;refine go 12 ?_;have hs:bj 0 b (EA l blk (k+1)) (.mk 8 ay x35 .zero [] x36 []) k36 u36 e36:=by
   unfold EA;exact PB.bind (aM0.bind (bj.pure _ _ _ _))
  exact ⟨.inr J,_,(bc A B rw P l (k36) (u36) (e36) (0) (dp)),(gK (bI.agg (.r (.r (.r (.r (.r (.r (.r (.n (.n (.r (.n .nil)))))))))))) (bJ J (bv [_] J J ge eB (cG J J)))),ah c_ (.refl _),⟨(.mk 8 ay x35 .zero [] x36 []),k36,u36,e36,J,hs.eq (λ_=>by unfold oI;rw [if_neg yq,if_neg yh,if_neg HG,if_neg (by rw [Rd rfl];decide),if_neg (by rw [aIz rfl];decide),if_pos aJy]),aKs,aM1,J⟩⟩
 refine go 7 ?_;refine bE J dw J (eh (_::_::A) _ _ _ l k b e 0 dp [114,101,116,117,114,110] V hok hk) ?_;rintro t38 s38 (⟨rfl,Rg,aM2,rfl,rfl⟩|⟨Rg,rfl,rfl⟩)
 ·refine go 12 ?_;refine bE J iL J (iF (_::_::A) _ _ _ l (k+1) b 0 0 dp [59] V hok aM2 V) ?_;rintro t40 s40 ⟨x40,k40,u40,e40,rfl,aTj,aTk,aTl,rfl⟩;refine go 10 ?_;have hs:bj 0 b (Fx l (k+1)) (.mk 9 ay .zero .zero [] [] []) k40 u40 e40:=by
   unfold Fx mF;exact aTj.bind (bj.pure _ _ _ _)
  exact ⟨.inr J,_,(bc A B rw P l (k40) (u40) (e40) (0) (dp)),(gK (bI.agg (.r (.r (.r (.r (.r (.n (.r (.n (.n (.n (.n .nil)))))))))))) (bJ J (bv [_] J J ge eB (cG J J)))),ah c_ (.refl _),⟨(.mk 9 ay .zero .zero [] [] []),k40,u40,e40,J,hs.eq (λ_=>by unfold oI;rw [if_neg yq,if_neg yh,if_neg HG,if_neg (by rw [Rd rfl];decide),if_neg (by rw [aIz rfl];decide),if_neg (by rw [aJy rfl];decide),if_pos Rg]),aTk,aTl,J⟩⟩
 refine go 7 ?_;refine bE J mb J (mi (_::_::A) _ _ _ l k b e 0 dp hok hk he) ?_;rintro t42 s42 ⟨RW,k42,u42,e42,rfl,aKt,RK,aIs,rfl⟩;refine go 10 ?_;refine bE J jN J (oS (_::_::A) _ _ _ l k42 u42 e42 0 dp [40] V hok RK) ?_;rintro t43 s43 (⟨rfl,aM3,rfl,rfl⟩|⟨aM3,rfl,rfl⟩)
 ·refine go 5 ?_;refine bE J call109 J (Kk (_::_::A) _ _ _ l k42 u42 0 dp hok RK V) ?_;rintro t45 s45 ⟨x45,k45,u45,e45,rfl,aTm,aTn,aTo,rfl⟩;refine go 8 ?_;refine bE J iL J (iF (_::_::A) _ _ _ l k45 u45 e45 0 dp [59] V hok aTn aTo) ?_;rintro t46 s46 ⟨x46,k46,u46,e46,rfl,aTq,aTr,aTs,rfl⟩;refine go 10 ?_;have hs:bj e b (xT l k) (.mk 3 RW .zero .zero x45 [] []) k46 u46 e46:=by
   unfold xT;exact aKt.bind (by rw [Rn aM3];unfold mF;exact aTm.bind (aTq.bind (bj.pure _ _ _ _)))
  exact ⟨.inr J,_,(bc A B rw P l (k46) (u46) (e46) (0) (dp)),(gK (bI.agg (.r (.r (.r (.r (.r (.n (.r (.n (.r (.n (.n .nil)))))))))))) (bJ J (bv [_] J J ge eB (cG J J)))),ah c_ (.refl _),⟨(.mk 3 RW .zero .zero x45 [] []),k46,u46,e46,J,hs.eq MQ,aTr,aTs,J⟩⟩
 refine go 6 ?_;refine bE J iL J (iF (_::_::A) _ _ _ l k42 u42 e42 0 dp [61] V hok RK aIs) ?_;rintro t48 s48 ⟨x48,k48,u48,e48,rfl,aIk,aTt,aTu,rfl⟩;refine go 4 ?_;refine bE J qR J (xl (_::_::A) _ _ _ l k48 u48 e48 dp hok aTt aTu) ?_;rintro t49 s49 ⟨x49,k49,u49,e49,rfl,aTv,aTw,aTx,rfl⟩;refine go 6 ?_;refine bE J iL J (iF (_::_::A) _ _ _ l k49 u49 e49 0 dp [59] V hok aTw aTx) ?_;rintro t50 s50 ⟨x50,k50,u50,e50,rfl,By,aKv,aKw,rfl⟩;refine go 10 ?_;have hs:bj e b (xT l k) (.mk 2 RW x49 .zero [] [] []) k50 u50 e50:=by
  unfold xT;exact aKt.bind (bj.eq (r:=(gJ l [61] _).bind λ_ k=>(rI l k).bind λe k=>mF l (.mk 2 RW e .zero [] [] []) k) (by unfold mF;exact aIk.bind (aTv.bind (By.bind (bj.pure _ _ _ _)))) λh=>(Si (aM3 h)).symm)
 exact ⟨.inr J,_,(bc A B rw P l (k50) (u50) (e50) (0) (dp)),(gK (bI.agg (.r (.r (.r (.r (.r (.r (.r (.n (.n (.n (.n .nil)))))))))))) (bJ J (bv [_] J J ge eB (cG J J)))),ah c_ (.refl _),⟨(.mk 2 RW x49 .zero [] [] []),k50,u50,e50,J,hs.eq MQ,aKv,aKw,J⟩⟩
def W8(A B:List aV)(rw:List aQ)(P:Nat)(l:List Tok)(k b e:Nat)(hok:gb l)(hk:k<l.length)(he:e<16):aT prog 61 [aE P] [P] (bc A B rw P l k b e 0 24) (ig A B rw P l 0 24 (λx=>.c (aG encS x)) e b (lP l 0 k)):=by
 have hlen:=hok.len;refine bM 47 func61 ?_;refine go 9 ?_;refine bE J jN J (oS (A) _ _ _ l k b e 0 24 [123] V hok hk) ?_;rintro t1 s1 (⟨rfl,ha1,rfl,rfl⟩|⟨ha1,rfl,rfl⟩);focus
  refine go 5 ?_;refine aJ J j9 (go 6 ?_);refine bE J jx J (j5 (A) _ _ _ l k b 0 0 24 3) ?_;rintro t3 s3 ⟨u3,e3,hf3,rfl,rfl⟩;obtain ⟨rfl,rfl⟩:=hf3.1 rfl;refine go 5 ?_;refine bE J iL J (iF (A) _ _ _ l k k 3 0 24 [123] V hok hk V) ?_;rintro t4 s4 ⟨x4,k4,u4,e4,rfl,hr4,hk4,he4,rfl⟩;refine go 8 ?_;refine bK J (go 12 ?_);have hbad:e4≠0 /\ bj 0 b (lP l 0 k) [] k4 u4 e4:=by
   rcases hr4 with ⟨_,rfl,rfl⟩|⟨h,_⟩
   ·exact ⟨V,.err _ _ _ _ _ (by unfold lP;rw [if_pos ha1]) V⟩
   exact absurd h V
  refine gA 105 11 ?_;refine fv (λg:List aD×aN×Nat×Nat×Nat=>(⟨47,aR g.2.1++[P],⟨A++⟨P,141,[aG da l,aA (((g.2.2.1):Nat):Int),aA (((g.2.2.2.1):Nat):Int),aA (((g.2.2.2.2):Nat):Int),am 0,aA (((25):Nat):Int)]⟩::B,⟨g.2.1,105,11,(g.1).length,(g.1).flatMap encS⟩::rw⟩,[(3,ap g.2.1),(0,aE P)]⟩:AS)) (λg=>g.2.2.1<l.length /\ g.2.2.2.2<16 /\ g.2.2.2.2≠0 /\ bj 0 b (lP l 0 k) g.1 g.2.2.1 g.2.2.2.1 g.2.2.2.2) (λg=>if g.2.2.2.2=0 then l.length-g.2.2.1+1 else 0) ([],.slice none 0 0,k4,u4,e4) (az (λ_ h=>h)) ⟨hk4,he4,hbad.1,hbad.2⟩ ?_
 rotate_left;refine go 15 ?_;refine bE J iL J (iF (A) _ _ _ l k b e 0 24 [123] V hok hk he) ?_;rintro t7 s7 ⟨x7,k7,u7,e7,rfl,hr7,hk7,he7,rfl⟩;refine go 8 ?_;refine bK J (go 12 ?_);have hbad:e7≠0 /\ bj e b (lP l 0 k) [] k7 u7 e7:=by
  rcases hr7 with ⟨h,rfl,rfl⟩|⟨h,h2⟩
  ·exact ⟨h,.skip h _ _ _⟩
  subst h;have hq:=ha1 J;have h9:gJ l [123] k=.err k 4:=by unfold gJ;rw [if_neg (by rw [hq];decide)]
  rw [h9] at h2;rcases h2 with ⟨h2,_,_⟩|⟨h2,h3⟩
  ·cases h2
  cases h2;exact ⟨h3,.err _ _ _ _ _ (by unfold lP;rw [if_neg (by rw [hq];decide)]) h3⟩
 refine gA 105 11 ?_;refine fv (λg:List aD×aN×Nat×Nat×Nat=>(⟨47,aR g.2.1++[P],⟨A++⟨P,141,[aG da l,aA (((g.2.2.1):Nat):Int),aA (((g.2.2.2.1):Nat):Int),aA (((g.2.2.2.2):Nat):Int),am 0,aA (((25):Nat):Int)]⟩::B,⟨g.2.1,105,11,(g.1).length,(g.1).flatMap encS⟩::rw⟩,[(3,ap g.2.1),(0,aE P)]⟩:AS)) (λg=>g.2.2.1<l.length /\ g.2.2.2.2<16 /\ g.2.2.2.2≠0 /\ bj e b (lP l 0 k) g.1 g.2.2.1 g.2.2.2.1 g.2.2.2.2) (λg=>if g.2.2.2.2=0 then l.length-g.2.2.1+1 else 0) ([],.slice none 0 0,k7,u7,e7) (az (λ_ h=>h)) ⟨hk7,he7,hbad.1,hbad.2⟩ ?_;all_goals
  rintro ⟨acc,v0,k0,b0,bp⟩ ⟨hk0,he0,hz0,hn0⟩;dsimp only at hk0 he0 hz0 hn0;show bi prog _ (⟨47,aR v0++[P],⟨A++⟨P,141,[aG da l,aA (((k0):Nat):Int),aA (((b0):Nat):Int),aA (((bp):Nat):Int),am 0,aA (((25):Nat):Int)]⟩::B,⟨v0,105,11,(acc).length,(acc).flatMap encS⟩::rw⟩,[(3,ap v0),(0,aE P)]⟩:AS) _;have h0:=hz0;refine go 7 ?_;refine aF J (sf h0) (go 19 ?_);refine aC J (jz (hr:=J) ((24:Nat):Int)) (go 11 ?_);refine oB 2 J ?_;refine go 1 ?_;exact ⟨.inr J,_,(bc A B rw P l (k0) (b0) (bp) (0) (24)),(bJ J (bO J)),ah (.refl _) (.refl _),⟨acc,k0,b0,bp,J,hn0,hk0,he0,J⟩⟩
def XF(A B:List aV)(rw:List aQ)(P:Nat)(l:List Tok)(k b e dp:Nat)(st:Nat -> cJ aD)(hdp:dp<24)(hin:∀k,k<l.length -> (st k).In l k)(aO8:∀(A B:List aV)(rw:List aQ)(P k b e:Nat),k<l.length -> e<16 -> aT prog 86 [aE P] [P] (bc A B rw P l k b e 0 (dp+1)) (ig A B rw P l 0 (dp+1) (λx=>.agg (cm x)) e b (st k)))(hok:gb l)(hk:k<l.length)(he:e<16):aT prog 61 [aE P] [P] (bc A B rw P l k b e 0 dp) (ig A B rw P l 0 dp (λx=>.c (aG encS x)) e b ((gJ l [123] k).bind λ_ k=>ka l st l.length [] k)):=by
 have hlen:=hok.len;refine bM 47 func61 ?_;refine go 9 ?_;refine bE J jN J (oS (A) _ _ _ l k b e 0 dp [123] V hok hk) ?_;rintro t1 s1 (⟨rfl,ha1,rfl,rfl⟩|⟨ha1,rfl,rfl⟩);focus
  refine go 5 ?_;refine aF J (by rw [show ef .eql (dp:Int) 24=some (decide (dp=24)) from r_ (n:=24),decide_eq_false Y]) (go 9 ?_);refine bE J iL J (iF (A) _ _ _ l k b 0 0 dp [123] V hok hk V) ?_;rintro t3 s3 ⟨x3,k3,u3,e3,rfl,hr3,hk3,he3,rfl⟩;refine go 8 ?_;refine bK J (go 12 ?_);refine gA 105 11 ?_;refine fv (λg:List aD×aN×Nat×Nat×Nat=>(⟨47,aR g.2.1++[P],⟨A++⟨P,141,[aG da l,aA (((g.2.2.1):Nat):Int),aA (((g.2.2.2.1):Nat):Int),aA (((g.2.2.2.2):Nat):Int),am 0,aA (((dp+1):Nat):Int)]⟩::B,⟨g.2.1,105,11,(g.1).length,(g.1).flatMap encS⟩::rw⟩,[(3,ap g.2.1),(0,aE P)]⟩:AS)) (λg=>g.2.2.1<l.length /\ g.2.2.2.2<16 /\ (g.2.2.2.2=0 -> g.1.length <= g.2.2.1) /\ (g.2.2.2.2≠0 -> bj 0 b ((gJ l [123] k).bind λ_ k=>ka l st l.length [] k) g.1 g.2.2.1 g.2.2.2.1 g.2.2.2.2) /\ (g.2.2.2.2=0 -> ∃n,l.length <= n+g.2.2.1 /\ ∀z k' b' e',bj 0 g.2.2.2.1 (ka l st n g.1 g.2.2.1) z k' b' e' -> bj 0 b ((gJ l [123] k).bind λ_ k=>ka l st l.length [] k) z k' b' e')) (λg=>if g.2.2.2.2=0 then l.length-g.2.2.1+1 else 0) ([],.slice none 0 0,k3,u3,e3) (az (λ_ h=>h)) ⟨hk3,he3,λ_=>eL _,λh=>hr3.bind (bj.skip h _ _ _),λh=>⟨l.length,yj _ _,λz k' b' e' h2=>hr3.bind (by rw [show e3=0 from h];exact h2)⟩⟩ ?_;rintro ⟨acc,v0,k0,b0,bp⟩ ⟨hk0,he0,ha0,hn0,hc0⟩;dsimp only at hk0 he0 ha0 hn0 hc0;show bi prog _ (⟨47,aR v0++[P],⟨A++⟨P,141,[aG da l,aA (((k0):Nat):Int),aA (((b0):Nat):Int),aA (((bp):Nat):Int),am 0,aA (((dp+1):Nat):Int)]⟩::B,⟨v0,105,11,(acc).length,(acc).flatMap encS⟩::rw⟩,[(3,ap v0),(0,aE P)]⟩:AS) _;by_cases h0:bp=0
  ·subst h0;have ha1:=ha0 J;obtain ⟨n0,hn1,hcont⟩:=hc0 rfl;refine go 7 ?_;refine aJ J j9 (go 2 ?_);refine bE J dw J (nq (A) _ _ _ l k0 b0 0 0 (dp+1) [125] V hok hk0) ?_;rintro t4 s4 (⟨-,DE,DM,rfl,rfl⟩|⟨DE,rfl,rfl⟩)
   ·refine go 16 ?_;refine aC J (jz (dp:Int)) (go 11 ?_);refine oB 2 J ?_;refine go 1 ?_;obtain ⟨m,rfl⟩:∃m,n0=m+1:=⟨n0-1,Y⟩;exact ⟨.inr J,_,(bc A B rw P l (k0+1) (b0) (0) (0) (dp)),(bJ J (bO J)),ah (.refl _) (.refl _),⟨acc,k0+1,b0,0,J,hcont _ _ _ _ (by rw [ka,if_pos DE];exact .ok _ _ _ rfl),DM,V,J⟩⟩
   refine go 11 ?_;refine bE J call86 J (aO8 (A) _ _ _ k0 b0 0 hk0 he0) ?_;rintro t7 s7 ⟨x7,k7,u7,e7,rfl,hr7,hk7,he7,rfl⟩;refine aW J (bU (hf:=dd encS cm x7 (mQ _) J J) CM ?_);refine aW J (yO Tryz.t105 192 J J V J J pi aL J J J J V Lz V uG tY (@length_append _ acc [x7]).symm fy co (dh (f:=encS)).symm λv8=>?_);refine go 3 ?_;obtain ⟨m,rfl⟩:∃m,n0=m+1:=⟨n0-1,Y⟩;have hst:∀z k' b' e',bj e7 u7 (ka l st m (acc++[x7]) k7) z k' b' e' -> bj 0 b ((gJ l [123] k).bind λ_ k=>ka l st l.length [] k) z k' b' e':=λz k' b' e' h=>hcont z k' b' e' (by rw [ka,if_neg Hh];exact hr7.bind h);have hgo:e7=0 -> k0<k7:=λh=>by have h9:=hin k0 hk0;rw [(hr7.good h).2.1] at h9;exact h9.1
   refine ⟨(acc++[x7],v8,k7,u7,e7),⟨hk7,he7,λh=>?_,λh=>hst _ _ _ _ (.skip h _ _ _),λh=>⟨m,?_,λz k' b' e' h2=>hst _ _ _ _ ?_⟩⟩,?_,az fG⟩
   ·have:=hgo h;show (acc++[_]).length <= k7;simp;omega
   ·have:=hgo h;show l.length <= m+k7;omega
   ·rw [show e7=0 from h];exact h2
   show (if e7=0 then _ else _)<(if (0:Nat)=0 then _ else _);by_cases h:e7=0
   ·have:=hgo h;rw [if_pos h,if_pos rfl];show l.length-k7+1<l.length-k0+1;omega
   rw [if_neg h,if_pos rfl];show 0<l.length-k0+1;omega
 rotate_left;refine go 15 ?_;refine bE J iL J (iF (A) _ _ _ l k b e 0 dp [123] V hok hk he) ?_;rintro t11 s11 ⟨x11,k11,u11,e11,rfl,aIr,aIl,aJl,rfl⟩;refine go 8 ?_;refine bK J (go 12 ?_);refine gA 105 11 ?_;refine fv (λg:List aD×aN×Nat×Nat×Nat=>(⟨47,aR g.2.1++[P],⟨A++⟨P,141,[aG da l,aA (((g.2.2.1):Nat):Int),aA (((g.2.2.2.1):Nat):Int),aA (((g.2.2.2.2):Nat):Int),am 0,aA (((dp+1):Nat):Int)]⟩::B,⟨g.2.1,105,11,(g.1).length,(g.1).flatMap encS⟩::rw⟩,[(3,ap g.2.1),(0,aE P)]⟩:AS)) (λg=>g.2.2.1<l.length /\ g.2.2.2.2<16 /\ (g.2.2.2.2=0 -> g.1.length <= g.2.2.1) /\ (g.2.2.2.2≠0 -> bj e b ((gJ l [123] k).bind λ_ k=>ka l st l.length [] k) g.1 g.2.2.1 g.2.2.2.1 g.2.2.2.2) /\ (g.2.2.2.2=0 -> ∃n,l.length <= n+g.2.2.1 /\ ∀z k' b' e',bj 0 g.2.2.2.1 (ka l st n g.1 g.2.2.1) z k' b' e' -> bj e b ((gJ l [123] k).bind λ_ k=>ka l st l.length [] k) z k' b' e')) (λg=>if g.2.2.2.2=0 then l.length-g.2.2.1+1 else 0) ([],.slice none 0 0,k11,u11,e11) (az (λ_ h=>h)) ⟨aIl,aJl,λ_=>eL _,λh=>aIr.bind (bj.skip h _ _ _),λh=>⟨l.length,yj _ _,λz k' b' e' h2=>aIr.bind (by rw [show e11=0 from h];exact h2)⟩⟩ ?_;rintro ⟨acc,v0,k0,b0,bp⟩ ⟨hk0,he0,ha0,hn0,hc0⟩;dsimp only at hk0 he0 ha0 hn0 hc0;show bi prog _ (⟨47,aR v0++[P],⟨A++⟨P,141,[aG da l,aA (((k0):Nat):Int),aA (((b0):Nat):Int),aA (((bp):Nat):Int),am 0,aA (((dp+1):Nat):Int)]⟩::B,⟨v0,105,11,(acc).length,(acc).flatMap encS⟩::rw⟩,[(3,ap v0),(0,aE P)]⟩:AS) _;by_cases h0:bp=0
 ·subst h0;have ha1:=ha0 J;obtain ⟨n0,hn1,hcont⟩:=hc0 rfl;refine go 7 ?_;refine aJ J j9 (go 2 ?_);refine bE J dw J (nq (A) _ _ _ l k0 b0 0 0 (dp+1) [125] V hok hk0) ?_;rintro t12 s12 (⟨-,aM4,aTz,rfl,rfl⟩|⟨aM4,rfl,rfl⟩)
  ·refine go 16 ?_;refine aC J (jz (dp:Int)) (go 11 ?_);refine oB 2 J ?_;refine go 1 ?_;obtain ⟨m,rfl⟩:∃m,n0=m+1:=⟨n0-1,Y⟩;exact ⟨.inr J,_,(bc A B rw P l (k0+1) (b0) (0) (0) (dp)),(bJ J (bO J)),ah (.refl _) (.refl _),⟨acc,k0+1,b0,0,J,hcont _ _ _ _ (by rw [ka,if_pos aM4];exact .ok _ _ _ rfl),aTz,V,J⟩⟩
  refine go 11 ?_;refine bE J call86 J (aO8 (A) _ _ _ k0 b0 0 hk0 he0) ?_;rintro t15 s15 ⟨x15,k15,u15,e15,rfl,aKm,aKn,aMo,rfl⟩;refine aW J (bU (hf:=dd encS cm x15 (mQ _) J J) CM ?_);refine aW J (yO Tryz.t105 192 J J V J J pi aL J J J J V Lz V uG tY (@length_append _ acc [x15]).symm fy co (dh (f:=encS)).symm λv16=>?_);refine go 3 ?_;obtain ⟨m,rfl⟩:∃m,n0=m+1:=⟨n0-1,Y⟩;have hst:∀z k' b' e',bj e15 u15 (ka l st m (acc++[x15]) k15) z k' b' e' -> bj e b ((gJ l [123] k).bind λ_ k=>ka l st l.length [] k) z k' b' e':=λz k' b' e' h=>hcont z k' b' e' (by rw [ka,if_neg (by rw [aM4 rfl];decide)];exact aKm.bind h);have hgo:e15=0 -> k0<k15:=λh=>by have h9:=hin k0 hk0;rw [(aKm.good h).2.1] at h9;exact h9.1
  refine ⟨(acc++[x15],v16,k15,u15,e15),⟨aKn,aMo,λh=>?_,λh=>hst _ _ _ _ (.skip h _ _ _),λh=>⟨m,?_,λz k' b' e' h2=>hst _ _ _ _ ?_⟩⟩,?_,az fG⟩
  ·have:=hgo h;show (acc++[_]).length <= k15;simp;omega
  ·have:=hgo h;show l.length <= m+k15;omega
  ·rw [show e15=0 from h];exact h2
  show (if e15=0 then _ else _)<(if (0:Nat)=0 then _ else _);by_cases h:e15=0
  ·have:=hgo h;rw [if_pos h,if_pos rfl];show l.length-k15+1<l.length-k0+1;omega
  rw [if_neg h,if_pos rfl];show 0<l.length-k0+1;omega
 all_goals
  refine go 7 ?_;refine aF J (sf h0) (go 19 ?_);refine aC J (jz (dp:Int)) (go 11 ?_);refine oB 2 J ?_;refine go 1 ?_;exact ⟨.inr J,_,(bc A B rw P l (k0) (b0) (bp) (0) (dp)),(bJ J (bO J)),ah (.refl _) (.refl _),⟨acc,k0,b0,bp,J,hn0 h0,hk0,he0,J⟩⟩
def PI(l:List Tok)(hok:gb l):∀(d:Nat),d <= 24 -> ∀(A B:List aV)(rw:List aQ)(P:Nat)(k b e:Nat),k<l.length -> e<16 -> aT prog 61 [aE P] [P] (bc A B rw P l k b e 0 (24-d)) (ig A B rw P l 0 (24-d) (λx=>.c (aG encS x)) e b (lP l d k))
 |0,_,A,B,rw,P,k,b,e,hk,he=>W8 A B rw P l k b e hok hk he
 |d+1,hd,A,B,rw,P,k,b,e,hk,he=>by
  have hb:∀k,k<l.length -> (lP l d k).In l k:=λk hk=>HW hok.last d k hk;have h:=XF A B rw P l k b e (24-(d+1)) (oI l (lP l d)) Y (λk hk=>OR hok.last hb hk) (λA B rw P k b e hk he=>by
   have h9:=Y2 A B rw P l k b e (24-(d+1)+1) (lP l d) hok hk he (λA B rw P k b e hk he=>by
    have h8:=PI l hok d Y A B rw P k b e hk he;have ae:24-(d+1)+1=24-d:=Y;rw [ae];exact h8)
   exact h9) hok hk he
  exact h
def XG{P:Program}{U:List Nat}{o:Oper}{st:AS}(r:Int){t:ax}{x:bb}{m:Int}(ho:o.op=.unOp .neg t x)(hx:aw st x=some (aj m))(hr:0-m=r)(h1:-9223372036854775808 <= r)(h2:r <= 9223372036854775807):cp P U o st (aj r):=by
 have h:=Rh (P:=P) (U:=U) ho hx;rw [hr,wrap64 h1 h2] at h;exact h
def rr{P:Program}{U:List Nat}{o:Oper}{st:AS}{x:bb}{t e E:ax}{v:aN}{z n:Nat}{cs:List aO}(A:List aQ){B:List aQ}(ho:o.op=.call {callee:=.builtin .len,args:=#[x],argTypes:=#[t]})(hx:aw st x=some (ap v))(hrow:st.s.rows=A++⟨v,E,z,n,cs⟩::B)(hu:∀w,(underlying t).run P w=.ok (.slice e) w)(hz:0<z:=by decide):cp P U o st (aj n):=
 iM rfl λa w hs w'=>by
  obtain ⟨us,la,-⟩:=hs.mem.row ⟨v,E,z,n,cs⟩ ti;have hown:=la.row hz;have hv:∃p c,v=.slice p n c:=by
   rcases hown.2 with ⟨h1,h2⟩|⟨g,cap,cur,h1,-⟩
   ·dsimp only at h1 h2;subst h2;exact ⟨_,_,h1⟩
   exact ⟨_,_,h1⟩
  obtain ⟨p,c,rfl⟩:=hv;simp only [execOp,ho,resolve,mH,ca,d7,hs.val hx];simp [go_sem,invoke,builtin,Builtin.len_,hu,goInt]
def bj.bad{α β:Type}{ae b1 b0 k k2 b e:Nat}{r:cJ α}{r':cJ β}{y:β}{x:α}(h:bj ae b1 r' y k b e)(h1:ae≠0)(hr:r=.err b1 ae):bj 0 b0 r x k2 b e:=by
 rcases h with ⟨_,rfl,rfl⟩|⟨h,_⟩
 ·exact .err _ _ _ _ _ hr h1
 exact absurd h h1
def Xk{l:List Tok}{k:Nat}(h:(dn l k).kind≠1):lq l k=.err k 4:=by unfold lq;rw [if_neg h]
def XR(A B:List aV)(rw:List aQ)(P:Nat)(l:List Tok)(k b e dp:Nat)(hok:gb l)(hk:k<l.length)(he:e<16):aT prog 60 [aE P] [P] (bc A B rw P l k b e 0 dp) (ig A B rw P l 0 dp (λx=>.c (aG cE x)) e b (rM l (kN l) k)):=by
 have hlen:=hok.len;refine bM 44 func60 ?_;refine go 13 ?_;refine bE J iL J (iF (A) _ _ _ l k b e 0 dp [40] V hok hk he) ?_;rintro t1 s1 ⟨x1,k1,u1,ae,rfl,hr1,hk1,he1,rfl⟩;refine go 6 ?_;refine bE J dw J (nq (A) _ _ _ l k1 u1 ae 0 dp [41] V hok hk1) ?_;rintro cC s2 (⟨rfl,ha2,hm2,rfl,rfl⟩|⟨ha2,rfl,rfl⟩)
 ·refine go 10 ?_;exact ⟨.inr J,_,(bc A B rw P l (k1+1) (u1) (0) (0) (dp)),(gK (bI.c tz) (bJ J (bO J))),ah (.refl _) (.refl _),⟨[],k1+1,u1,0,J,hr1.bind On,hm2,V,J⟩⟩
 refine go 7 ?_;refine gA 51 2 ?_;refine fv (λg:List bg×aN×Nat×Nat×Nat=>(⟨44,aR g.2.1++[P],⟨A++⟨P,141,[aG da l,aA (((g.2.2.1):Nat):Int),aA (((g.2.2.2.1):Nat):Int),aA (((g.2.2.2.2):Nat):Int),am 0,aA (((dp):Nat):Int)]⟩::B,⟨g.2.1,51,2,(g.1).length,(g.1).flatMap cE⟩::rw⟩,[(3,ap g.2.1),(0,aE P)]⟩:AS)) (λg=>g.2.2.1<l.length /\ g.2.2.2.2<16 /\ (g.2.2.2.2=0 -> g.1.length <= 6) /\ (g.2.2.2.2≠0 -> bj e b (rM l (kN l) k) g.1 g.2.2.1 g.2.2.2.1 g.2.2.2.2) /\ (g.2.2.2.2=0 -> ∃n,l.length <= n+g.2.2.1 /\ ∀z k' b' e',bj 0 g.2.2.2.1 (mm l (kN l) n g.1 g.2.2.1) z k' b' e' -> bj e b (rM l (kN l) k) z k' b' e')) (λg=>if g.2.2.2.2=0 then l.length-g.2.2.1+1 else 0) ([],.slice none 0 0,k1,u1,ae) (az (λ_ h=>h)) ⟨hk1,he1,λ_=>eL _,λh=>hr1.bind (bj.skip h _ _ _),λh=>⟨l.length,yj _ _,λz k' b' e' h2=>?_⟩⟩ ?_
 ·have h:ae=0:=h;refine hr1.bind ?_;rw [h,if_neg Cu];exact h2
 rintro ⟨acc,v0,k0,b0,bp⟩ ⟨hk0,he0,ha0,hn0,hc0⟩;dsimp only at hk0 he0 ha0 hn0 hc0;show bi prog _ (⟨44,aR v0++[P],⟨A++⟨P,141,[aG da l,aA (((k0):Nat):Int),aA (((b0):Nat):Int),aA (((bp):Nat):Int),am 0,aA (((dp):Nat):Int)]⟩::B,⟨v0,51,2,(acc).length,(acc).flatMap cE⟩::rw⟩,[(3,ap v0),(0,aE P)]⟩:AS) _;by_cases h0:bp=0
 ·subst h0;have ha1:=ha0 J;obtain ⟨n0,hn1,hcont⟩:=hc0 rfl;refine go 7 ?_;refine aJ J j9 (go 10 ?_);refine aC J (rr [] J J J iK) ?_;by_cases hfull:acc.length=6;focus
   refine aJ J (by rw [hfull];rfl) (go 2 ?_);refine bE J jN J (qo (A) _ _ _ l k0 b0 0 0 dp [109,117,116,101,120] V hok hk0) ?_;rintro t6 s6 (⟨-,ha6,rfl,rfl⟩|⟨ha6,rfl,rfl⟩);focus
    refine go 10 ?_;refine bE J jx J (j5 (A) _ _ _ l k0 b0 0 0 dp 3) ?_;rintro t8 s8 ⟨u8,e8,hf8,rfl,rfl⟩;obtain ⟨rfl,rfl⟩:=hf8.1 rfl;refine go 5 ?_;refine bE J dw J (eh (A) _ _ _ l k0 k0 3 0 dp [109,117,116,101,120] V hok hk0) ?_;rintro t9 s9 (⟨hz9,-⟩|⟨ha9,rfl,rfl⟩)
    ·exact absurd hz9 V
    refine go 8 λb1=>?_;refine bE J mb J (mi (_::A) _ _ _ l k0 k0 3 0 dp hok hk0 V) ?_;rintro t10 s10 ⟨RW,k42,u42,e42,rfl,CT,RK,aIs,rfl⟩;refine go 6 ?_;have hel:bj 0 b0 (kN l acc.length k0) ⟨RW,false⟩ k42 u42 e42:=CT.bad V (by unfold kN;rw [if_pos ⟨Y,.inr ha6⟩]);have aI2:e42=0 -> acc.length<6:=λh=>by
     have h9:=(hel.good h).2.1;unfold kN at h9;rw [if_pos ⟨Y,.inr ha6⟩] at h9;cases h9
   rotate_left;focus
    refine go 2 ?_;refine bE J qZ J (sJ (A) _ _ _ l k0 b0 0 0 dp 1 hk0) ?_;rintro t16 s16 (⟨-,ha16,rfl,rfl⟩|⟨ha16,rfl,rfl⟩);focus
     refine go 7 ?_;refine bE J jx J (j5 (A) _ _ _ l k0 b0 0 0 dp 3) ?_;rintro t18 s18 ⟨u18,e18,aMd,rfl,rfl⟩;obtain ⟨rfl,rfl⟩:=aMd.1 rfl;refine go 5 ?_;refine bE J dw J (eh (A) _ _ _ l k0 k0 3 0 dp [109,117,116,101,120] V hok hk0) ?_;rintro t19 s19 (⟨aM5,-⟩|⟨Rd,rfl,rfl⟩)
     ·exact absurd aM5 V
     refine go 8 λb2=>?_;refine bE J mb J (mi (_::A) _ _ _ l k0 k0 3 0 dp hok hk0 V) ?_;rintro t20 s20 ⟨RW,k42,u42,e42,rfl,aIi,RK,aIs,rfl⟩;refine go 6 ?_;have hel:bj 0 b0 (kN l acc.length k0) ⟨RW,false⟩ k42 u42 e42:=aIi.bad V (by unfold kN;rw [if_pos ⟨Y,.inl ha16⟩]);have aI2:e42=0 -> acc.length<6:=λh=>by
      have h9:=(hel.good h).2.1;unfold kN at h9;rw [if_pos ⟨Y,.inl ha16⟩] at h9;cases h9
    rotate_left;refine go 10 ?_;refine bE J dw J (eh (A) _ _ _ l k0 b0 0 0 dp [109,117,116,101,120] V hok hk0) ?_;rintro t27 s27 (⟨-,aKx,hm27,rfl,rfl⟩|⟨aKx,rfl,rfl⟩)
    ·exact absurd aKx (by rw [(ha6 rfl)];decide)
    refine go 8 λb3=>?_;refine bE J mb J (mi (_::A) _ _ _ l k0 b0 0 0 dp hok hk0 he0) ?_;rintro t28 s28 ⟨RW,k42,u42,e42,rfl,aMm,RK,aIs,rfl⟩;refine go 6 ?_;have hel:bj 0 b0 (kN l acc.length k0) ⟨RW,false⟩ k42 u42 e42:=(aMm.map (f:=λs=>bg.mk s false)).eq λ_=>by unfold kN;rw [if_neg OE,if_neg (by rw [aKx rfl];decide)]
    have aI2:e42=0 -> acc.length<6:=λh=>by
     have h9:=(hel.good h).2.1;unfold kN at h9;rw [if_neg OE,if_neg (by rw [aKx rfl];decide),Xk (ha16 rfl)] at h9;cases h9
  rotate_left 3;refine aF J (by rw [show ef .eql (acc.length:Int) 6=some (decide (acc.length=6)) from r_ (n:=6),decide_eq_false hfull]) (go 16 ?_);refine bE J dw J (eh (A) _ _ _ l k0 b0 0 0 dp [109,117,116,101,120] V hok hk0) ?_;rintro t35 s35 (⟨-,aM6,aT1,rfl,rfl⟩|⟨aM6,rfl,rfl⟩)
  ·refine go 8 λb4=>?_;refine bE J mb J (mi (_::A) _ _ _ l (k0+1) b0 0 0 dp hok aT1 V) ?_;rintro t36 s36 ⟨x36,k36,u36,e36,rfl,aM0,aKs,aM1,rfl⟩;refine go 6 ?_;have hel:bj 0 b0 (kN l acc.length k0) ⟨x36,true⟩ k36 u36 e36:=(aM0.map (f:=λs=>bg.mk s true)).eq λ_=>by unfold kN;rw [if_neg (by rintro ⟨h,-⟩;omega),if_pos aM6]
   have aI2:e36=0 -> acc.length<6:=λh=>by
    omega
   refine go 2 ?_;refine aW J (bU (hf:=dd cE cE ⟨x36,true⟩ J J J) AC ?_);refine aW J (yO Tryz.t51 24 J J V J J qA aL J J J J V J V (by unfold maxLen;have:=ha1;omega) (by have:=ha1;omega) (@length_append _ acc [⟨x36,true⟩]).symm fy co (dh (f:=cE)).symm λv37=>?_);refine go 6 ?_;refine bE J dw J (nq (_::A) _ _ _ l k36 u36 e36 0 dp [44] V hok aKs) ?_;rintro t38 s38 (⟨rfl,Rg,aM2,rfl,rfl⟩|⟨Rg,rfl,rfl⟩)
   ·refine go 6 ?_;obtain ⟨m,rfl⟩:∃m,n0=m+1:=⟨n0-1,Y⟩;have hin:=G2 (n:=acc.length) hok.last hk0;rw [(hel.good rfl).2.1] at hin;have hin1:=hin.1;refine ⟨(acc++[⟨x36,true⟩],v37,k36+1,u36,0),⟨aM2,Bp,λ_=>MO,λh=>absurd J h,λ_=>⟨m,by show l.length <= m+(k36+1);omega,λz k' b' e' h=>hcont z k' b' e' ?_⟩⟩,by show (if (0:Nat)=0 then _ else _)<(if (0:Nat)=0 then _ else _);rw [if_pos rfl,if_pos rfl];show l.length-(k36+1)+1<l.length-k0+1;omega,az (h1:=bG) fG⟩;rw [mm];refine hel.bind ?_;rw [if_pos Rg];exact h
   refine go 7 ?_;refine bE J iL J (iF (_::A) _ _ _ l k36 u36 e36 0 dp [41] V hok aKs aM1) ?_;rintro t41 s41 ⟨x41,k41,u41,e41,rfl,aT2,aT3,aT4,rfl⟩;refine go 8 ?_;refine oB 2 J ?_;refine go 5 ?_;obtain ⟨m,rfl⟩:∃m,n0=m+1:=⟨n0-1,Y⟩;exact ⟨.inr J,_,(bc A B rw P l (k41) (u41) (e41) (0) (dp)),(bJ J (bO J)),ah bG (.refl _),⟨acc++[⟨x36,true⟩],k41,u41,e41,J,hcont _ _ _ _ (by rw [mm];exact hel.bind ((aT2.map (f:=λ_=>acc++[⟨x36,true⟩])).eq λh=>by rw [if_neg (by rw [Rg h];decide)])),aT3,aT4,J⟩⟩
  refine go 8 λb5=>?_;refine bE J mb J (mi (_::A) _ _ _ l k0 b0 0 0 dp hok hk0 he0) ?_;rintro t42 s42 ⟨RW,k42,u42,e42,rfl,aKt,RK,aIs,rfl⟩;refine go 6 ?_;have hel:bj 0 b0 (kN l acc.length k0) ⟨RW,false⟩ k42 u42 e42:=(aKt.map (f:=λs=>bg.mk s false)).eq λ_=>by unfold kN;rw [if_neg (by rintro ⟨h,-⟩;omega),if_neg (by rw [aM6 rfl];decide)]
  have aI2:e42=0 -> acc.length<6:=λh=>by
   omega
  all_goals
   refine go 2 ?_;refine aW J (bU (hf:=dd cE cE ⟨RW,false⟩ J J J) AC ?_);refine aW J (yO Tryz.t51 24 J J V J J qA aL J J J J V J V (by unfold maxLen;have:=ha1;omega) (by have:=ha1;omega) (@length_append _ acc [⟨RW,false⟩]).symm fy co (dh (f:=cE)).symm λv43=>?_);refine go 6 ?_;refine bE J dw J (nq (_::A) _ _ _ l k42 u42 e42 0 dp [44] V hok RK) ?_;rintro t44 s44 (⟨rfl,aIt,aO9,rfl,rfl⟩|⟨aIt,rfl,rfl⟩)
   ·refine go 6 ?_;obtain ⟨m,rfl⟩:∃m,n0=m+1:=⟨n0-1,Y⟩;have hin:=G2 (n:=acc.length) hok.last hk0;rw [(hel.good rfl).2.1] at hin;have hin1:=hin.1;refine ⟨(acc++[⟨RW,false⟩],v43,k42+1,u42,0),⟨aO9,Bp,λ_=>MO,λh=>absurd J h,λ_=>⟨m,by show l.length <= m+(k42+1);omega,λz k' b' e' h=>hcont z k' b' e' ?_⟩⟩,by show (if (0:Nat)=0 then _ else _)<(if (0:Nat)=0 then _ else _);rw [if_pos rfl,if_pos rfl];show l.length-(k42+1)+1<l.length-k0+1;omega,az (h1:=bG) fG⟩;rw [mm];refine hel.bind ?_;rw [if_pos aIt];exact h
   refine go 7 ?_;refine bE J iL J (iF (_::A) _ _ _ l k42 u42 e42 0 dp [41] V hok RK aIs) ?_;rintro t47 s47 ⟨x47,k47,u47,e47,rfl,aT5,aT6,aT7,rfl⟩;refine go 8 ?_;refine oB 2 J ?_;refine go 5 ?_;obtain ⟨m,rfl⟩:∃m,n0=m+1:=⟨n0-1,Y⟩;exact ⟨.inr J,_,(bc A B rw P l (k47) (u47) (e47) (0) (dp)),(bJ J (bO J)),ah bG (.refl _),⟨acc++[⟨RW,false⟩],k47,u47,e47,J,hcont _ _ _ _ (by rw [mm];exact hel.bind ((aT5.map (f:=λ_=>acc++[⟨RW,false⟩])).eq λh=>by rw [if_neg (by rw [aIt h];decide)])),aT6,aT7,J⟩⟩
 refine go 7 ?_;refine aF J (sf h0) (go 14 ?_);refine oB 2 J ?_;refine go 1 ?_;exact ⟨.inr J,_,(bc A B rw P l (k0) (b0) (bp) (0) (dp)),(bJ J (bO J)),ah (.refl _) (.refl _),⟨acc,k0,b0,bp,J,hn0 h0,hk0,he0,J⟩⟩
def PK(A B:List aV)(rw:List aQ)(P:Nat)(l:List Tok)(k b e dp:Nat)(hok:gb l)(hk:k<l.length)(he:e<16):aT prog 57 [aE P] [P] (bc A B rw P l k b e 0 dp) (ig A B rw P l 0 dp (λx=>.agg (cR x)) e b (Ap l k)):=by
 have hlen:=hok.len;refine bM 45 func57 ?_;refine go 8 λb1=>?_;refine bE J mb J (mi (_::A) _ _ _ l k b e 0 dp hok hk he) ?_;rintro t1 s1 ⟨x1,k1,u1,ae,rfl,hr1,hk1,he1,rfl⟩;refine go 9 λb2=>?_;refine bE J dw J (nq (_::_::A) _ _ _ l k1 u1 ae 0 dp [61] V hok hk1) ?_;rintro cC s2 (⟨rfl,ha2,hm2,rfl,rfl⟩|⟨ha2,rfl,rfl⟩)
 ·refine go 6 ?_;refine bE J dw J (nq (_::_::A) _ _ _ l (k1+1) u1 0 0 dp [45] V hok hm2) ?_;rintro t4 s4 (⟨-,DE,DM,rfl,rfl⟩|⟨DE,rfl,rfl⟩)
  ·refine go 7 ?_;refine bE J qZ J (sJ (_::_::A) _ _ _ l ((k1+1)+1) u1 0 0 dp 2 DM) ?_;rintro t5 s5 (⟨-,ha5,rfl,rfl⟩|⟨ha5,rfl,rfl⟩)
   ·refine go 7 ?_;have hreg:=(hok.reg _ (getElem_mem DM)).2.2;have rx:mf l ((k1+1)+1)=.ok l[(k1+1)+1].num ((k1+1)+1+1):=by unfold mf;rw [if_pos ha5,nS DM]
    refine bu [b1,P] (aU [0,1,2,3,4,5,6,7] 5 (go 9 ?_));refine aZ 8 J (bX da da l lN (λ_=>J) ((k1+1)+1) J J J J DM V lA lE) (cY [(9,true),(10,true),(11,true),(12,false)] 0 (go 5 ?_));refine bC (go 11 ?_);refine aC J (XG (-((l[(k1+1)+1].num:Nat):Int)) J J Y Y Y) (go 9 ?_);refine bK J (go 7 ?_);have hm:=hok.last.more DM (by rw [ha5];decide);refine go 1 ?_;refine bE J iL J (iF (_::_::A) _ _ _ l (((k1+1)+1)+1) u1 0 0 dp [59] V hok hm V) ?_;rintro t8 s8 ⟨x8,k8,u8,e8,rfl,hr8,hk8,he8,rfl⟩;refine go 9 ?_;exact ⟨.inr J,_,(bc A B rw P l (k8) (u8) (e8) (0) (dp)),(bJ J (bv [_] J J isAgg43 jU (cG J J))),ah c_ (.refl _),⟨⟨x1,(-((l[(k1+1)+1].num:Nat):Int))⟩,k8,u8,e8,J,hr1.bind (.yes (λ_=>ha2) (.yes (λ_=>DE) (bj.bind (.ok _ _ _ rx) (hr8.map (f:=λ_=>bw.mk x1 (-((l[(k1+1)+1].num:Nat):Int))))))),hk8,he8,J⟩⟩
   refine go 7 ?_;refine bE J jx J (j5 (_::_::A) _ _ _ l ((k1+1)+1) u1 0 0 dp 4) ?_;rintro t10 s10 ⟨u10,e10,aT8,rfl,rfl⟩;obtain ⟨rfl,rfl⟩:=aT8.1 rfl;refine go 11 ?_;exact ⟨.inr J,_,(bc A B rw P l ((k1+1)+1) ((k1+1)+1) (4) (0) (dp)),(bJ J (bv [_] J J isAgg43 jU (cG J J))),ah c_ (.refl _),⟨⟨x1,0⟩,(k1+1)+1,(k1+1)+1,4,J,hr1.bind (.yes (λ_=>ha2) (.yes (λ_=>DE) (bj.bind (x:=0) (k:=0) (.err _ _ _ _ _ (by unfold mf;rw [if_neg (ha5 rfl)]) V) (.skip V _ _ _)))),DM,V,J⟩⟩
  refine go 7 ?_;refine bE J qZ J (sJ (_::_::A) _ _ _ l (k1+1) u1 0 0 dp 2 hm2) ?_;rintro t11 s11 (⟨-,aKy,rfl,rfl⟩|⟨aKy,rfl,rfl⟩)
  ·refine go 7 ?_;have hreg:=(hok.reg _ (getElem_mem hm2)).2.2;have rx:mf l (k1+1)=.ok l[k1+1].num (k1+1+1):=by unfold mf;rw [if_pos aKy,nS hm2]
   refine bu [b1,P] (aU [0,1,2,3,4,5,6,7] 5 (go 9 ?_));refine aZ 8 J (bX da da l lN (λ_=>J) (k1+1) J J J J hm2 V lA lE) (cY [(9,true),(10,true),(11,true),(12,false)] 0 (go 5 ?_));refine bC (go 15 ?_);refine bK J (go 7 ?_);have hm:=hok.last.more hm2 (by rw [aKy];decide);refine go 1 ?_;refine bE J iL J (iF (_::_::A) _ _ _ l ((k1+1)+1) u1 0 0 dp [59] V hok hm V) ?_;rintro t14 s14 ⟨x14,k14,u14,e14,rfl,aMg,aMh,aMi,rfl⟩;refine go 9 ?_;exact ⟨.inr J,_,(bc A B rw P l (k14) (u14) (e14) (0) (dp)),(bJ J (bv [_] J J isAgg43 jU (cG J J))),ah c_ (.refl _),⟨⟨x1,((l[k1+1].num:Nat):Int)⟩,k14,u14,e14,J,hr1.bind (.yes (λ_=>ha2) (.no (λ_=>Hh) (bj.bind (.ok _ _ _ rx) (aMg.map (f:=λ_=>bw.mk x1 ((l[k1+1].num:Nat):Int)))))),aMh,aMi,J⟩⟩
  refine go 7 ?_;refine bE J jx J (j5 (_::_::A) _ _ _ l (k1+1) u1 0 0 dp 4) ?_;rintro t16 s16 ⟨u16,e16,aT9,rfl,rfl⟩;obtain ⟨rfl,rfl⟩:=aT9.1 rfl;refine go 11 ?_;exact ⟨.inr J,_,(bc A B rw P l (k1+1) (k1+1) (4) (0) (dp)),(bJ J (bv [_] J J isAgg43 jU (cG J J))),ah c_ (.refl _),⟨⟨x1,0⟩,k1+1,k1+1,4,J,hr1.bind (.yes (λ_=>ha2) (.no (λ_=>Hh) (bj.bind (x:=0) (k:=0) (.err _ _ _ _ _ (by unfold mf;rw [if_neg (aKy rfl)]) V) (.skip V _ _ _)))),hm2,V,J⟩⟩
 refine go 8 ?_;refine bE J iL J (iF (_::_::A) _ _ _ l k1 u1 ae 0 dp [59] V hok hk1 he1) ?_;rintro t18 s18 ⟨x18,k18,u18,e18,rfl,aUa,aUb,aUc,rfl⟩;refine go 9 ?_;exact ⟨.inr J,_,(bc A B rw P l (k18) (u18) (e18) (0) (dp)),(bJ J (bv [_] J J isAgg43 jU (cG J J))),ah c_ (.refl _),⟨⟨x1,0⟩,k18,u18,e18,J,hr1.bind (.no (λh=>Cu) (aUa.map (f:=λ_=>bw.mk x1 0))),aUb,aUc,J⟩⟩
def N_(A B:List aV)(rw:List aQ)(P:Nat)(l:List Tok)(k b e dp:Nat)(hok:gb l)(hk:k<l.length)(he:e<16):aT prog 58 [aE P,au true] [P] (bc A B rw P l k b e 0 dp) (ig A B rw P l 0 dp (λx=>.agg (bB x)) e b (wb l true k)):=by
 have hlen:=hok.len;refine bM 57 func58 ?_;refine go 8 λb1=>?_;refine bE J mb J (mi (_::A) _ _ _ l k b e 0 dp hok hk he) ?_;rintro t1 s1 ⟨x1,k1,u1,ae,rfl,hr1,hk1,he1,rfl⟩;refine go 23 λb2=>?_;refine bE J iL J (iF (_::_::A) _ _ _ l k1 u1 ae 0 dp [59] V hok hk1 he1) ?_;rintro t3 s3 ⟨x3,k3,u3,e3,rfl,hr3,hk3,he3,rfl⟩;refine go 9 ?_;exact ⟨.inr J,_,(bc A B rw P l (k3) (u3) (e3) (0) (dp)),(bJ J (bv [_] J J vR fp (cG J J))),ah c_ (.refl _),⟨⟨x1,true,0⟩,k3,u3,e3,J,hr1.bind (.no (λh=>by rintro ⟨h,-⟩;cases h) (hr3.map (f:=λ_=>cn.mk x1 true 0))),hk3,he3,J⟩⟩
def PV(A B:List aV)(rw:List aQ)(P:Nat)(l:List Tok)(k b e dp:Nat)(hok:gb l)(hk:k<l.length)(he:e<16):aT prog 58 [aE P,au false] [P] (bc A B rw P l k b e 0 dp) (ig A B rw P l 0 dp (λx=>.agg (bB x)) e b (wb l false k)):=by
 have hlen:=hok.len;refine bM 57 func58 ?_;refine go 8 λb1=>?_;refine bE J mb J (mi (_::A) _ _ _ l k b e 0 dp hok hk he) ?_;rintro t1 s1 ⟨x1,k1,u1,ae,rfl,hr1,hk1,he1,rfl⟩;refine go 13 λb2=>?_;refine bE J dw J (nq (_::_::A) _ _ _ l k1 u1 ae 0 dp [91] V hok hk1) ?_;rintro cC s2 (⟨rfl,ha2,hm2,rfl,rfl⟩|⟨ha2,rfl,rfl⟩)
 ·refine go 8 ?_;refine bE J qZ J (sJ (_::_::A) _ _ _ l (k1+1) u1 0 0 dp 2 hm2) ?_;rintro t4 s4 (⟨-,DE,rfl,rfl⟩|⟨DE,rfl,rfl⟩)
  ·refine go 7 ?_;have hreg:=(hok.reg _ (getElem_mem hm2)).2.2;have rx:mf l (k1+1)=.ok l[k1+1].num (k1+1+1):=by unfold mf;rw [if_pos DE,nS hm2]
   refine bu [b1,P] (aU [0,1,2,3,4,5,6,7] 5 (go 9 ?_));refine aZ 8 J (bX da da l lN (λ_=>J) (k1+1) J J J J hm2 V lA lE) (cY [(9,true),(10,true),(11,true),(12,false)] 0 (go 5 ?_));refine bC (go 4 ?_);rcases (show l[k1+1].num<1∨(¬l[k1+1].num<1 /\ 64<l[k1+1].num)∨(¬l[k1+1].num<1 /\ ¬64<l[k1+1].num) by omega) with hs1|⟨hs1,hs2⟩|⟨hs1,hs2⟩
   ·have hsz:(l[k1+1].num<1∨64<l[k1+1].num):=Y;refine go 2 ?_;refine aJ J yC (go 11 ?_);refine bE J jx J (j5 (_::_::A) _ _ _ l (k1+1) u1 0 0 dp 3) ?_;rintro t7 s7 ⟨u7,e7,hf7,rfl,rfl⟩;obtain ⟨rfl,rfl⟩:=hf7.1 rfl;refine go 11 ?_;exact ⟨.inr J,_,(bc A B rw P l (k1+1) (k1+1) (3) (0) (dp)),(bJ J (bv [_] J J vR fp (cG J J))),ah c_ (.refl _),⟨⟨x1,false,l[k1+1].num⟩,k1+1,k1+1,3,J,hr1.bind (.yes (λ_=>⟨J,ha2⟩) (bj.bind (x:=0) (k:=0) (bj.bind (.ok _ _ _ rx) (.yes (λ_=>hsz) (.err _ _ _ _ _ J V))) (.skip V _ _ _))),hm2,V,J⟩⟩
   ·have hsz:(l[k1+1].num<1∨64<l[k1+1].num):=Y;refine go 2 ?_;refine aF J yC (go 3 ?_);refine aJ J yC (go 7 ?_);refine bE J jx J (j5 (_::_::A) _ _ _ l (k1+1) u1 0 0 dp 3) ?_;rintro t9 s9 ⟨u9,e9,hf9,rfl,rfl⟩;obtain ⟨rfl,rfl⟩:=hf9.1 rfl;refine go 11 ?_;exact ⟨.inr J,_,(bc A B rw P l (k1+1) (k1+1) (3) (0) (dp)),(bJ J (bv [_] J J vR fp (cG J J))),ah c_ (.refl _),⟨⟨x1,false,l[k1+1].num⟩,k1+1,k1+1,3,J,hr1.bind (.yes (λ_=>⟨J,ha2⟩) (bj.bind (x:=0) (k:=0) (bj.bind (.ok _ _ _ rx) (.yes (λ_=>hsz) (.err _ _ _ _ _ J V))) (.skip V _ _ _))),hm2,V,J⟩⟩
   have hsz:¬(l[k1+1].num<1∨64<l[k1+1].num):=Y;refine go 2 ?_;refine aF J yC (go 3 ?_);refine aF J yC (go 12 ?_);refine bK J (go 6 ?_);have hm:=hok.last.more hm2 (by rw [DE];decide);refine go 1 ?_;refine bE J iL J (iF (_::_::A) _ _ _ l ((k1+1)+1) u1 0 0 dp [93] V hok hm V) ?_;rintro t11 s11 ⟨x11,k11,u11,e11,rfl,aIr,aIl,aJl,rfl⟩;refine go 5 ?_;refine bE J iL J (iF (_::_::A) _ _ _ l k11 u11 e11 0 dp [59] V hok aIl aJl) ?_;rintro t12 s12 ⟨x12,k12,u12,e12,rfl,aMv,aKi,aMw,rfl⟩;refine go 9 ?_;exact ⟨.inr J,_,(bc A B rw P l (k12) (u12) (e12) (0) (dp)),(bJ J (bv [_] J J vR fp (cG J J))),ah c_ (.refl _),⟨⟨x1,false,l[k1+1].num⟩,k12,u12,e12,J,hr1.bind (.yes (λ_=>⟨J,ha2⟩) (bj.bind (bj.bind (.ok _ _ _ rx) (.no (λ_=>hsz) (.ok _ _ _ J))) (aIr.bind (aMv.map (f:=λ_=>cn.mk x1 false l[k1+1].num))))),aKi,aMw,J⟩⟩
  refine go 7 ?_;refine bE J jx J (j5 (_::_::A) _ _ _ l (k1+1) u1 0 0 dp 4) ?_;rintro t14 s14 ⟨u14,e14,aUd,rfl,rfl⟩;obtain ⟨rfl,rfl⟩:=aUd.1 rfl;refine go 11 ?_;exact ⟨.inr J,_,(bc A B rw P l (k1+1) (k1+1) (4) (0) (dp)),(bJ J (bv [_] J J vR fp (cG J J))),ah c_ (.refl _),⟨⟨x1,false,0⟩,k1+1,k1+1,4,J,hr1.bind (.yes (λ_=>⟨J,ha2⟩) (bj.bind (x:=0) (k:=0) (bj.bind (x:=0) (k:=0) (.err _ _ _ _ _ (by unfold mf;rw [if_neg (DE rfl)]) V) (.skip V _ _ _)) (.skip V _ _ _))),hm2,V,J⟩⟩
 refine go 9 ?_;refine bE J iL J (iF (_::_::A) _ _ _ l k1 u1 ae 0 dp [59] V hok hk1 he1) ?_;rintro t16 s16 ⟨x16,k16,u16,e16,rfl,St,aMx,aMy,rfl⟩;refine go 9 ?_;exact ⟨.inr J,_,(bc A B rw P l (k16) (u16) (e16) (0) (dp)),(bJ J (bv [_] J J vR fp (cG J J))),ah c_ (.refl _),⟨⟨x1,false,0⟩,k16,u16,e16,J,hr1.bind (.no (λh=>by rintro ⟨-,h9⟩;rw [ha2 h] at h9;cases h9) (St.map (f:=λ_=>cn.mk x1 false 0))),aMx,aMy,J⟩⟩
def gb.of{s:List UInt8}{l:List Tok}(h:gj s=.ok l):gb l:=⟨(Ga h).ends,(Ga h).reg,by have:=(Ga h).few;omega⟩
def qa(s:List UInt8):aX×Nat×Nat:=
 match gj s with
 |.err p e=>(⟨[],[],[]⟩,p,e)
 |.ok l=>match lr l with
  |.ok x _=>(x,s.length,0)
  |.err k e=>(⟨[],[],[]⟩,(dn l k).pos,e)
def XJ{s:List UInt8}{p e:Nat}(h:gj s=.err p e):qa s=(⟨[],[],[]⟩,p,e):=by unfold qa;rw [h]
def WI{s:List UInt8}{l:List Tok}{k e:Nat}(h:gj s=.ok l)(h2:lr l=.err k e)(hk:k<l.length):qa s=(⟨[],[],[]⟩,l[k].pos,e):=by unfold qa;rw [h];dsimp only;rw [h2];dsimp only;rw [nS hk]
def Wa{s:List UInt8}{l:List Tok}{x:aX}{k:Nat}(h:gj s=.ok l)(h2:lr l=.ok x k):qa s=(x,s.length,0):=by unfold qa;rw [h];dsimp only;rw [h2]
def pq{l:List Tok}{k:Nat}{a b:List UInt8}(ha:gM l k a=true)(hb:gM l k b=true):bytes a=bytes b:=by
 rw [←(Ip ha).2,←(Ip hb).2]
def TV(bs:List UInt8)(s:aH):aT prog 27 [.c (.sl bs.length (cb bs))] [] s λt s'=>t=.fd [.agg (di (qa bs).1),aj ((qa bs).2.1:Int),aj ((qa bs).2.2:Int)] /\ s'=s:=by
 obtain ⟨bx,rw⟩:=s;refine bM 146 func27 ?_;refine go 10 λb1=>?_;refine aW J (bo [] J J V call46 J (Ne bs _) dX dX (λ_=>dX) ?_);rintro t1 s1 ⟨⟨l,hlx,rfl,hfew⟩|⟨p0,er,hlx,rfl,her⟩,rfl⟩
 ·have hok:=gb.of hlx;have hlen:=hok.len;have hk:0<l.length:=hok.last.1;have he:(0:Nat)<16:=V;refine go 13 ?_;refine aF J j9 (go 18 λP b3=>?_);refine gA 49 3 ?_;refine gA 45 3 ?_;refine gA 43 2 ?_;refine fv (λg:aX×aN×aN×aN×Nat×Nat×Nat=>(⟨146,aR g.2.1++(aR g.2.2.1++(aR g.2.2.2.1++[b3,P,b1])),⟨⟨b3,27,[.val g.2.1,.val g.2.2.1,.val g.2.2.2.1]⟩::⟨P,141,[aG da l,aA (((g.2.2.2.2.1):Nat):Int),aA (((g.2.2.2.2.2.1):Nat):Int),aA (((g.2.2.2.2.2.2):Nat):Int),am 0,am 0]⟩::⟨b1,27,[aK,aK,aK]⟩::bx,⟨g.2.1,43,2,(g.1).globals.length,(g.1).globals.flatMap cR⟩::⟨g.2.2.1,45,3,(g.1).mutexes.length,(g.1).mutexes.flatMap bB⟩::⟨g.2.2.2.1,49,3,(g.1).funcs.length,(g.1).funcs.flatMap bT⟩::rw⟩,[(9,aE P),(8,aE b3),(6,aj (bs.length:Int)),(5,.c (aG da l)),(2,aE b1)]⟩:AS)) (λg=>g.2.2.2.2.1<l.length /\ g.2.2.2.2.2.2<16 /\ (g.2.2.2.2.2.2=0 -> g.1.globals.length <= 16 /\ g.1.mutexes.length <= 12 /\ g.1.funcs.length <= 16) /\ (g.2.2.2.2.2.2≠0 -> bj 0 0 (lr l) g.1 g.2.2.2.2.1 g.2.2.2.2.2.1 g.2.2.2.2.2.2) /\ (g.2.2.2.2.2.2=0 -> g.2.2.2.2.2.1=0 /\ ∃n,l.length <= n+g.2.2.2.2.1 /\ ∀z k' b' e',bj 0 0 (mD l n g.1 g.2.2.2.2.1) z k' b' e' -> bj 0 0 (lr l) z k' b' e')) (λg=>if g.2.2.2.2.2.2=0 then l.length-g.2.2.2.2.1+1 else 0) (⟨[],[],[]⟩,.slice none 0 0,.slice none 0 0,.slice none 0 0,0,0,0) (az vJ) ⟨hk,he,λ_=>⟨eL _,eL _,eL _⟩,λh=>absurd J h,λ_=>⟨J,l.length,yj _ _,λz k' b' e' h2=>h2⟩⟩ ?_;rintro ⟨x0,vg,vm,vf,k0,b0,bp⟩ ⟨hk0,he0,ha0,hn0,hc0⟩;dsimp only at hk0 he0 ha0 hn0 hc0;show bi prog _ (⟨146,aR vg++(aR vm++(aR vf++[b3,P,b1])),⟨⟨b3,27,[.val vg,.val vm,.val vf]⟩::⟨P,141,[aG da l,aA (((k0):Nat):Int),aA (((b0):Nat):Int),aA (((bp):Nat):Int),am 0,am 0]⟩::⟨b1,27,[aK,aK,aK]⟩::bx,⟨vg,43,2,(x0).globals.length,(x0).globals.flatMap cR⟩::⟨vm,45,3,(x0).mutexes.length,(x0).mutexes.flatMap bB⟩::⟨vf,49,3,(x0).funcs.length,(x0).funcs.flatMap bT⟩::rw⟩,[(9,aE P),(8,aE b3),(6,aj (bs.length:Int)),(5,.c (aG da l)),(2,aE b1)]⟩:AS) _;by_cases h0:bp=0
  ·subst h0;obtain ⟨hl1,hl2,hl3⟩:=ha0 rfl;obtain ⟨rfl,n0,hn1,hcont⟩:=hc0 rfl;refine go 7 ?_;refine aJ J j9 (go 2 ?_);refine bE J qZ J (sJ [_] _ _ _ l k0 0 0 0 0 5 hk0) ?_;rintro t3 s3 (⟨-,ha3,rfl,rfl⟩|⟨ha3,rfl,rfl⟩)
   ·refine go 13 ?_;obtain ⟨m,rfl⟩:∃m,n0=m+1:=⟨n0-1,Y⟩;have hfin:=hcont x0 k0 0 0 (by rw [mD,if_pos ha3];exact .ok _ _ _ rfl);have hgood:lr l=.ok x0 k0:=(hfin.good J).2.1;refine go 4 ?_;refine aF J j9 (go 7 ?_);refine eO [] 0 J J ?_;refine eO [] 1 J J ?_;refine eO [] 2 J J ?_;refine go 8 ?_;exact ⟨.inr J,_,⟨bx,rw⟩,(rk J (bv [_,_] J J oA oL (cG J J)) (bO J) (bO J)),ah ek (.refl _),by rw [Wa hlx hgood];rfl,J⟩
   refine go 10 ?_;have hk5:¬(dn l k0).kind=5:=ha3 J;refine go 1 ?_;refine bE J jN J (qo [_] _ _ _ l k0 0 0 0 0 [118,97,114] V hok hk0) ?_;rintro t7 s7 (⟨-,ha7,rfl,rfl⟩|⟨ha7,rfl,rfl⟩)
   ·refine go 1 ?_;refine bE J jN J (qo [_] _ _ _ l k0 0 0 0 0 [109,117,116,101,120] V hok hk0) ?_;rintro t8 s8 (⟨-,L7,rfl,rfl⟩|⟨L7,rfl,rfl⟩)
    ·exact absurd (pq L7 ha7) V
    refine go 2 ?_;refine bE J jN J (qo [_] _ _ _ l k0 0 0 0 0 [114,109,117,116,101,120] V hok hk0) ?_;rintro t9 s9 (⟨-,ha9,rfl,rfl⟩|⟨ha9,rfl,rfl⟩)
    ·exact absurd (pq ha9 ha7) V
    refine go 2 ?_;refine bE J jN J (qo [_] _ _ _ l k0 0 0 0 0 [102,117,110,99] V hok hk0) ?_;rintro t10 s10 (⟨-,DA,rfl,rfl⟩|⟨DA,rfl,rfl⟩)
    ·exact absurd (pq DA ha7) V
    refine go 8 ?_;by_cases aHu:x0.globals.length=16
    ·refine go 4 ?_;refine aC J (rr [] J J J mp) ?_;refine aJ J (by rw [aHu];rfl) (go 24 ?_);refine bE J jx J (j5 [_] _ _ _ l k0 0 0 0 0 3) ?_;rintro t12 s12 ⟨u12,e12,aMc,rfl,rfl⟩;obtain ⟨rfl,rfl⟩:=aMc.1 rfl;refine go 6 ?_;refine bE J dw J (eh [_] _ _ _ l k0 k0 3 0 0 [118,97,114] V hok hk0) ?_;rintro t13 s13 (⟨aUf,-⟩|⟨ha13,rfl,rfl⟩)
     ·exact absurd aUf V
     refine go 7 ?_;refine bE J dw J (eh [_] _ _ _ l k0 k0 3 0 0 [109,117,116,101,120] V hok hk0) ?_;rintro t15 s15 (⟨aUg,-⟩|⟨aIo,rfl,rfl⟩)
     ·exact absurd aUg V
     refine go 7 ?_;refine bE J dw J (eh [_] _ _ _ l k0 k0 3 0 0 [114,109,117,116,101,120] V hok hk0) ?_;rintro t17 s17 (⟨aUh,-⟩|⟨aHs,rfl,rfl⟩)
     ·exact absurd aUh V
     refine go 7 ?_;refine bE J dw J (eh [_] _ _ _ l k0 k0 3 0 0 [102,117,110,99] V hok hk0) ?_;rintro t19 s19 (⟨aM5,-⟩|⟨Rd,rfl,rfl⟩)
     ·exact absurd aM5 V
     refine go 6 ?_;refine bE J jx J (j5 [_] _ _ _ l k0 k0 3 0 0 4) ?_;rintro t21 s21 ⟨u21,e21,aUi,rfl,rfl⟩;obtain ⟨rfl,rfl⟩:=aUi.2 V;refine go 3 ?_;obtain ⟨m,rfl⟩:∃m,n0=m+1:=⟨n0-1,Y⟩;have hel:bj 0 0 (kK l x0 k0) x0 k0 k0 3:=.err _ _ _ _ _ (by unfold kK;rw [if_pos ha7,if_pos Y]) V;have hst:∀z k' b' e',bj 3 k0 (mD l m x0 k0) z k' b' e' -> bj 0 0 (lr l) z k' b' e':=λz k' b' e' h=>hcont z k' b' e' sU;have hgo:3=0 -> k0<k0 /\ k0=0:=λh=>rb;refine ⟨(x0,vg,vm,vf,k0,k0,3),⟨hk0,(show (3:Nat)<16 by decide),λh=>?_,λh=>hst _ _ _ _ (.skip h _ _ _),λh=>⟨(hgo h).2,m,?_,λz k' b' e' h2=>hst _ _ _ _ ?_⟩⟩,?_,az fG⟩
     ·exact absurd h (show ¬(3:Nat)=0 by decide)
     ·have:=hgo h;show l.length <= m+k0;omega
     ·exact absurd h (show ¬(3:Nat)=0 by decide)
     show (if 3=0 then _ else _)<(if (0:Nat)=0 then _ else _);by_cases h:3=0
     ·have:=hgo h;rw [if_pos h,if_pos rfl];show l.length-k0+1<l.length-k0+1;omega
     rw [if_neg h,if_pos rfl];show 0<l.length-k0+1;omega
    refine go 4 ?_;refine aC J (rr [] J J J mp) ?_;refine aF J (by rw [show ef .eql (x0.globals.length:Int) 16=some (decide (x0.globals.length=16)) from r_ (n:=16),decide_eq_false aHu]) (go 28 ?_);refine bE J dw J (eh [_] _ _ _ l k0 0 0 0 0 [118,97,114] V hok hk0) ?_;rintro t23 s23 (⟨-,aH5,aPa,rfl,rfl⟩|⟨aH5,rfl,rfl⟩)
    ·refine go 4 ?_;refine bu [] (aU [0,2] 6 (go 3 ?_));refine cC 1 3 J ?_ ?_;focus
      refine dR J V (cW [] pG o9) ?_;refine aY 3 J J (bo [P] J J V call57 J (PK [_] _ _ _ l (k0+1) 0 0 0 hok aPa V) de dc wM ?_);rintro t25 s25 ⟨x27,k27,u27,e27,rfl,LT,aH6,aIp,rfl⟩;refine aY 4 J J (bU (hf:=dd cR cR x27 J J J) pT ?_)
     rotate_left;focus
      refine (bo [P] J J V call57 J (PK [_] _ _ _ l (k0+1) 0 0 0 hok aPa V) de dc wM ?_);rintro t27 s27 ⟨x27,k27,u27,e27,rfl,LT,aH6,aIp,rfl⟩;refine cC 1 4 J ?_ ?_;focus
       refine dR J V (cW [] pG o9) ?_;refine aY 4 J J (bU (hf:=dd cR cR x27 J J J) pT ?_)
      rotate_left;refine (bU (hf:=dd cR cR x27 J J J) pT ?_);refine aY 1 J J (dR J V (cW [] pG o9) ?_)
     all_goals
      refine aY 5 J J (dS [] rm J J V uG tY (@length_append _ x0.globals [x27]).symm GV co (dh (f:=cR)).symm λv29=>?_);refine cY [(6,true),(7,false)] 0 (go 3 ?_);refine bC (go 2 ?_);obtain ⟨m,rfl⟩:∃m,n0=m+1:=⟨n0-1,Y⟩;have hel:bj 0 0 (kK l x0 k0) {x0 with globals:=x0.globals++[x27]} k27 u27 e27:=(LT.map (f:=λg=>{x0 with globals:=x0.globals++[g]})).eq λ_=>by unfold kK;rw [if_pos ha7,if_neg Y]
      have hst:∀z k' b' e',bj e27 u27 (mD l m {x0 with globals:=x0.globals++[x27]} k27) z k' b' e' -> bj 0 0 (lr l) z k' b' e':=λz k' b' e' h=>hcont z k' b' e' sU;have hgo:e27=0 -> k0<k27 /\ u27=0:=λh=>rb;refine ⟨({x0 with globals:=x0.globals++[x27]},v29,vm,vf,k27,u27,e27),⟨aH6,aIp,λh=>?_,λh=>hst _ _ _ _ (.skip h _ _ _),λh=>⟨(hgo h).2,m,?_,λz k' b' e' h2=>hst _ _ _ _ ?_⟩⟩,?_,az fG⟩
      ·simp;omega
      ·have:=hgo h;show l.length <= m+k27;omega
      ·rw [show e27=0 from h,show u27=0 from (hgo h).2];exact h2
      show (if e27=0 then _ else _)<(if (0:Nat)=0 then _ else _);by_cases h:e27=0
      ·have:=hgo h;rw [if_pos h,if_pos rfl];show l.length-k27+1<l.length-k0+1;omega
      rw [if_neg h,if_pos rfl];show 0<l.length-k0+1;omega
    exact absurd (aH5 J) (by rw [ha7];decide)
   refine go 1 ?_;refine bE J jN J (qo [_] _ _ _ l k0 0 0 0 0 [109,117,116,101,120] V hok hk0) ?_;rintro t30 s30 (⟨-,SM,rfl,rfl⟩|⟨SM,rfl,rfl⟩)
   ·refine go 5 ?_;refine bE J jN J (qo [_] _ _ _ l k0 0 0 0 0 [102,117,110,99] V hok hk0) ?_;rintro t31 s31 (⟨-,aPb,rfl,rfl⟩|⟨aPb,rfl,rfl⟩)
    ·exact absurd (pq aPb SM) V
    refine go 9 ?_;by_cases Bx:x0.mutexes.length=12
    ·refine go 11 ?_;refine aC J (rr [_] J J J j6) ?_;refine aJ J (by rw [Bx];rfl) (go 16 ?_);refine bE J jx J (j5 [_] _ _ _ l k0 0 0 0 0 3) ?_;rintro t33 s33 ⟨u33,e33,aUj,rfl,rfl⟩;obtain ⟨rfl,rfl⟩:=aUj.1 rfl;refine go 6 ?_;refine bE J dw J (eh [_] _ _ _ l k0 k0 3 0 0 [118,97,114] V hok hk0) ?_;rintro t34 s34 (⟨aUk,-⟩|⟨ha34,rfl,rfl⟩)
     ·exact absurd aUk V
     refine go 7 ?_;refine bE J dw J (eh [_] _ _ _ l k0 k0 3 0 0 [109,117,116,101,120] V hok hk0) ?_;rintro t36 s36 (⟨aUl,-⟩|⟨ha36,rfl,rfl⟩)
     ·exact absurd aUl V
     refine go 7 ?_;refine bE J dw J (eh [_] _ _ _ l k0 k0 3 0 0 [114,109,117,116,101,120] V hok hk0) ?_;rintro t38 s38 (⟨aUm,-⟩|⟨Rg,rfl,rfl⟩)
     ·exact absurd aUm V
     refine go 7 ?_;refine bE J dw J (eh [_] _ _ _ l k0 k0 3 0 0 [102,117,110,99] V hok hk0) ?_;rintro t40 s40 (⟨aUn,-⟩|⟨ha40,rfl,rfl⟩)
     ·exact absurd aUn V
     refine go 6 ?_;refine bE J jx J (j5 [_] _ _ _ l k0 k0 3 0 0 4) ?_;rintro t42 s42 ⟨u42,e42,aUo,rfl,rfl⟩;obtain ⟨rfl,rfl⟩:=aUo.2 V;refine go 3 ?_;obtain ⟨m,rfl⟩:∃m,n0=m+1:=⟨n0-1,Y⟩;have hel:bj 0 0 (kK l x0 k0) x0 k0 k0 3:=.err _ _ _ _ _ (by unfold kK;rw [if_neg uO,if_pos SM,if_pos Y]) V;have hst:∀z k' b' e',bj 3 k0 (mD l m x0 k0) z k' b' e' -> bj 0 0 (lr l) z k' b' e':=λz k' b' e' h=>hcont z k' b' e' sU;have hgo:3=0 -> k0<k0 /\ k0=0:=λh=>rb;refine ⟨(x0,vg,vm,vf,k0,k0,3),⟨hk0,(show (3:Nat)<16 by decide),λh=>?_,λh=>hst _ _ _ _ (.skip h _ _ _),λh=>⟨(hgo h).2,m,?_,λz k' b' e' h2=>hst _ _ _ _ ?_⟩⟩,?_,az fG⟩
     ·exact absurd h (show ¬(3:Nat)=0 by decide)
     ·have:=hgo h;show l.length <= m+k0;omega
     ·exact absurd h (show ¬(3:Nat)=0 by decide)
     show (if 3=0 then _ else _)<(if (0:Nat)=0 then _ else _);by_cases h:3=0
     ·have:=hgo h;rw [if_pos h,if_pos rfl];show l.length-k0+1<l.length-k0+1;omega
     rw [if_neg h,if_pos rfl];show 0<l.length-k0+1;omega
    refine go 11 ?_;refine aC J (rr [_] J J J j6) ?_;refine aF J PQ (go 20 ?_);refine bE J dw J (eh [_] _ _ _ l k0 0 0 0 0 [118,97,114] V hok hk0) ?_;rintro t44 s44 (⟨-,aIt,aO9,rfl,rfl⟩|⟨aIt,rfl,rfl⟩)
    ·exact absurd (pq aIt SM) V
    refine go 7 ?_;refine bE J dw J (eh [_] _ _ _ l k0 0 0 0 0 [109,117,116,101,120] V hok hk0) ?_;rintro t46 s46 (⟨-,aPc,aPd,rfl,rfl⟩|⟨aPc,rfl,rfl⟩)
    ·refine go 4 ?_;refine bu [] (aU [0,2] 6 (go 3 ?_));refine cC 1 3 J ?_ ?_;focus
      refine dR J V (cW [] kC kL) ?_;refine aY 3 J J (bo [P] J J V call58 J (PV [_] _ _ _ l (k0+1) 0 0 0 hok aPd V) de dc wM ?_);rintro t48 s48 ⟨x50,k50,u50,e50,rfl,By,aKv,aKw,rfl⟩;refine aY 4 J J (bU (hf:=dd bB bB x50 J J J) kT ?_)
     rotate_left;focus
      refine (bo [P] J J V call58 J (PV [_] _ _ _ l (k0+1) 0 0 0 hok aPd V) de dc wM ?_);rintro t50 s50 ⟨x50,k50,u50,e50,rfl,By,aKv,aKw,rfl⟩;refine cC 1 4 J ?_ ?_;focus
       refine dR J V (cW [] kC kL) ?_;refine aY 4 J J (bU (hf:=dd bB bB x50 J J J) kT ?_)
      rotate_left;refine (bU (hf:=dd bB bB x50 J J J) kT ?_);refine aY 1 J J (dR J V (cW [] kC kL) ?_)
     all_goals
      refine aY 5 J J (dS [_] uP J J V uG tY (@length_append _ x0.mutexes [x50]).symm GV co (dh (f:=bB)).symm λv52=>?_);refine cY [(6,true),(7,false)] 0 (go 3 ?_);refine bC (go 2 ?_);obtain ⟨m,rfl⟩:∃m,n0=m+1:=⟨n0-1,Y⟩;have hel:bj 0 0 (kK l x0 k0) {x0 with mutexes:=x0.mutexes++[x50]} k50 u50 e50:=(By.map (f:=λg=>{x0 with mutexes:=x0.mutexes++[g]})).eq λ_=>by unfold kK;rw [if_neg uO,if_pos SM,if_neg Y]
      have hst:∀z k' b' e',bj e50 u50 (mD l m {x0 with mutexes:=x0.mutexes++[x50]} k50) z k' b' e' -> bj 0 0 (lr l) z k' b' e':=λz k' b' e' h=>hcont z k' b' e' sU;have hgo:e50=0 -> k0<k50 /\ u50=0:=λh=>rb;refine ⟨({x0 with mutexes:=x0.mutexes++[x50]},vg,v52,vf,k50,u50,e50),⟨aKv,aKw,λh=>?_,λh=>hst _ _ _ _ (.skip h _ _ _),λh=>⟨(hgo h).2,m,?_,λz k' b' e' h2=>hst _ _ _ _ ?_⟩⟩,?_,az fG⟩
      ·simp;omega
      ·have:=hgo h;show l.length <= m+k50;omega
      ·rw [show e50=0 from h,show u50=0 from (hgo h).2];exact h2
      show (if e50=0 then _ else _)<(if (0:Nat)=0 then _ else _);by_cases h:e50=0
      ·have:=hgo h;rw [if_pos h,if_pos rfl];show l.length-k50+1<l.length-k0+1;omega
      rw [if_neg h,if_pos rfl];show 0<l.length-k0+1;omega
    exact absurd (aPc J) (by rw [SM];decide)
   refine go 2 ?_;refine bE J jN J (qo [_] _ _ _ l k0 0 0 0 0 [114,109,117,116,101,120] V hok hk0) ?_;rintro t53 s53 (⟨-,Ok,rfl,rfl⟩|⟨Ok,rfl,rfl⟩)
   ·refine go 2 ?_;refine bE J jN J (qo [_] _ _ _ l k0 0 0 0 0 [102,117,110,99] V hok hk0) ?_;rintro t54 s54 (⟨-,aPe,rfl,rfl⟩|⟨aPe,rfl,rfl⟩)
    ·exact absurd (pq aPe Ok) V
    refine go 9 ?_;by_cases Bx:x0.mutexes.length=12
    ·refine go 11 ?_;refine aC J (rr [_] J J J j6) ?_;refine aJ J (by rw [Bx];rfl) (go 16 ?_);refine bE J jx J (j5 [_] _ _ _ l k0 0 0 0 0 3) ?_;rintro t56 s56 ⟨u56,e56,aUp,rfl,rfl⟩;obtain ⟨rfl,rfl⟩:=aUp.1 rfl;refine go 6 ?_;refine bE J dw J (eh [_] _ _ _ l k0 k0 3 0 0 [118,97,114] V hok hk0) ?_;rintro t57 s57 (⟨aUq,-⟩|⟨ha57,rfl,rfl⟩)
     ·exact absurd aUq V
     refine go 7 ?_;refine bE J dw J (eh [_] _ _ _ l k0 k0 3 0 0 [109,117,116,101,120] V hok hk0) ?_;rintro t59 s59 (⟨aUr,-⟩|⟨ha59,rfl,rfl⟩)
     ·exact absurd aUr V
     refine go 7 ?_;refine bE J dw J (eh [_] _ _ _ l k0 k0 3 0 0 [114,109,117,116,101,120] V hok hk0) ?_;rintro t61 s61 (⟨aUs,-⟩|⟨ha61,rfl,rfl⟩)
     ·exact absurd aUs V
     refine go 7 ?_;refine bE J dw J (eh [_] _ _ _ l k0 k0 3 0 0 [102,117,110,99] V hok hk0) ?_;rintro t63 s63 (⟨aUt,-⟩|⟨ha63,rfl,rfl⟩)
     ·exact absurd aUt V
     refine go 6 ?_;refine bE J jx J (j5 [_] _ _ _ l k0 k0 3 0 0 4) ?_;rintro t65 s65 ⟨u65,e65,aUu,rfl,rfl⟩;obtain ⟨rfl,rfl⟩:=aUu.2 V;refine go 3 ?_;obtain ⟨m,rfl⟩:∃m,n0=m+1:=⟨n0-1,Y⟩;have hel:bj 0 0 (kK l x0 k0) x0 k0 k0 3:=.err _ _ _ _ _ (by unfold kK;rw [if_neg uO,if_neg ze,if_pos Ok,if_pos Y]) V;have hst:∀z k' b' e',bj 3 k0 (mD l m x0 k0) z k' b' e' -> bj 0 0 (lr l) z k' b' e':=λz k' b' e' h=>hcont z k' b' e' sU;have hgo:3=0 -> k0<k0 /\ k0=0:=λh=>rb;refine ⟨(x0,vg,vm,vf,k0,k0,3),⟨hk0,(show (3:Nat)<16 by decide),λh=>?_,λh=>hst _ _ _ _ (.skip h _ _ _),λh=>⟨(hgo h).2,m,?_,λz k' b' e' h2=>hst _ _ _ _ ?_⟩⟩,?_,az fG⟩
     ·exact absurd h (show ¬(3:Nat)=0 by decide)
     ·have:=hgo h;show l.length <= m+k0;omega
     ·exact absurd h (show ¬(3:Nat)=0 by decide)
     show (if 3=0 then _ else _)<(if (0:Nat)=0 then _ else _);by_cases h:3=0
     ·have:=hgo h;rw [if_pos h,if_pos rfl];show l.length-k0+1<l.length-k0+1;omega
     rw [if_neg h,if_pos rfl];show 0<l.length-k0+1;omega
    refine go 11 ?_;refine aC J (rr [_] J J J j6) ?_;refine aF J PQ (go 20 ?_);refine bE J dw J (eh [_] _ _ _ l k0 0 0 0 0 [118,97,114] V hok hk0) ?_;rintro t67 s67 (⟨-,aPf,hm67,rfl,rfl⟩|⟨aPf,rfl,rfl⟩)
    ·exact absurd (pq aPf Ok) V
    refine go 7 ?_;refine bE J dw J (eh [_] _ _ _ l k0 0 0 0 0 [109,117,116,101,120] V hok hk0) ?_;rintro t69 s69 (⟨-,aPg,hm69,rfl,rfl⟩|⟨aPg,rfl,rfl⟩)
    ·exact absurd (pq aPg Ok) V
    refine go 7 ?_;refine bE J dw J (eh [_] _ _ _ l k0 0 0 0 0 [114,109,117,116,101,120] V hok hk0) ?_;rintro t71 s71 (⟨-,aPh,aPi,rfl,rfl⟩|⟨aPh,rfl,rfl⟩)
    ·refine go 4 ?_;refine bu [] (aU [0,2] 6 (go 3 ?_));refine cC 1 3 J ?_ ?_;focus
      refine dR J V (cW [] kC kL) ?_;refine aY 3 J J (bo [P] J J V call58 J (N_ [_] _ _ _ l (k0+1) 0 0 0 hok aPi V) de dc wM ?_);rintro t73 s73 ⟨x75,k75,u75,e75,rfl,aPj,aPk,aPl,rfl⟩;refine aY 4 J J (bU (hf:=dd bB bB x75 J J J) kT ?_)
     rotate_left;focus
      refine (bo [P] J J V call58 J (N_ [_] _ _ _ l (k0+1) 0 0 0 hok aPi V) de dc wM ?_);rintro t75 s75 ⟨x75,k75,u75,e75,rfl,aPj,aPk,aPl,rfl⟩;refine cC 1 4 J ?_ ?_;focus
       refine dR J V (cW [] kC kL) ?_;refine aY 4 J J (bU (hf:=dd bB bB x75 J J J) kT ?_)
      rotate_left;refine (bU (hf:=dd bB bB x75 J J J) kT ?_);refine aY 1 J J (dR J V (cW [] kC kL) ?_)
     all_goals
      refine aY 5 J J (dS [_] uP J J V uG tY (@length_append _ x0.mutexes [x75]).symm GV co (dh (f:=bB)).symm λv77=>?_);refine cY [(6,true),(7,false)] 0 (go 3 ?_);refine bC (go 2 ?_);obtain ⟨m,rfl⟩:∃m,n0=m+1:=⟨n0-1,Y⟩;have hel:bj 0 0 (kK l x0 k0) {x0 with mutexes:=x0.mutexes++[x75]} k75 u75 e75:=(aPj.map (f:=λg=>{x0 with mutexes:=x0.mutexes++[g]})).eq λ_=>by unfold kK;rw [if_neg uO,if_neg ze,if_pos Ok,if_neg Y]
      have hst:∀z k' b' e',bj e75 u75 (mD l m {x0 with mutexes:=x0.mutexes++[x75]} k75) z k' b' e' -> bj 0 0 (lr l) z k' b' e':=λz k' b' e' h=>hcont z k' b' e' sU;have hgo:e75=0 -> k0<k75 /\ u75=0:=λh=>rb;refine ⟨({x0 with mutexes:=x0.mutexes++[x75]},vg,v77,vf,k75,u75,e75),⟨aPk,aPl,λh=>?_,λh=>hst _ _ _ _ (.skip h _ _ _),λh=>⟨(hgo h).2,m,?_,λz k' b' e' h2=>hst _ _ _ _ ?_⟩⟩,?_,az fG⟩
      ·simp;omega
      ·have:=hgo h;show l.length <= m+k75;omega
      ·rw [show e75=0 from h,show u75=0 from (hgo h).2];exact h2
      show (if e75=0 then _ else _)<(if (0:Nat)=0 then _ else _);by_cases h:e75=0
      ·have:=hgo h;rw [if_pos h,if_pos rfl];show l.length-k75+1<l.length-k0+1;omega
      rw [if_neg h,if_pos rfl];show 0<l.length-k0+1;omega
    exact absurd (aPh J) (by rw [Ok];decide)
   refine go 2 ?_;refine bE J jN J (qo [_] _ _ _ l k0 0 0 0 0 [102,117,110,99] V hok hk0) ?_;rintro t78 s78 (⟨-,RM,rfl,rfl⟩|⟨RM,rfl,rfl⟩)
   ·refine go 10 ?_;by_cases aJn:x0.funcs.length=16
    ·refine go 19 ?_;refine aC J (rr [_,_] J J J fu) ?_;refine aJ J (by rw [aJn];rfl) (go 7 ?_);refine bE J jx J (j5 [_] _ _ _ l k0 0 0 0 0 3) ?_;rintro t80 s80 ⟨u80,e80,aUv,rfl,rfl⟩;obtain ⟨rfl,rfl⟩:=aUv.1 rfl;refine go 6 ?_;refine bE J dw J (eh [_] _ _ _ l k0 k0 3 0 0 [118,97,114] V hok hk0) ?_;rintro t81 s81 (⟨aUw,-⟩|⟨ha81,rfl,rfl⟩)
     ·exact absurd aUw V
     refine go 7 ?_;refine bE J dw J (eh [_] _ _ _ l k0 k0 3 0 0 [109,117,116,101,120] V hok hk0) ?_;rintro t83 s83 (⟨aUx,-⟩|⟨ha83,rfl,rfl⟩)
     ·exact absurd aUx V
     refine go 7 ?_;refine bE J dw J (eh [_] _ _ _ l k0 k0 3 0 0 [114,109,117,116,101,120] V hok hk0) ?_;rintro t85 s85 (⟨aUy,-⟩|⟨ha85,rfl,rfl⟩)
     ·exact absurd aUy V
     refine go 7 ?_;refine bE J dw J (eh [_] _ _ _ l k0 k0 3 0 0 [102,117,110,99] V hok hk0) ?_;rintro t87 s87 (⟨aUz,-⟩|⟨ha87,rfl,rfl⟩)
     ·exact absurd aUz V
     refine go 6 ?_;refine bE J jx J (j5 [_] _ _ _ l k0 k0 3 0 0 4) ?_;rintro t89 s89 ⟨u89,e89,aU0,rfl,rfl⟩;obtain ⟨rfl,rfl⟩:=aU0.2 V;refine go 3 ?_;obtain ⟨m,rfl⟩:∃m,n0=m+1:=⟨n0-1,Y⟩;have hel:bj 0 0 (kK l x0 k0) x0 k0 k0 3:=.err _ _ _ _ _ (by unfold kK;rw [if_neg uO,if_neg ze,if_neg F5,if_pos RM,if_pos Y]) V;have hst:∀z k' b' e',bj 3 k0 (mD l m x0 k0) z k' b' e' -> bj 0 0 (lr l) z k' b' e':=λz k' b' e' h=>hcont z k' b' e' sU;have hgo:3=0 -> k0<k0 /\ k0=0:=λh=>rb;refine ⟨(x0,vg,vm,vf,k0,k0,3),⟨hk0,(show (3:Nat)<16 by decide),λh=>?_,λh=>hst _ _ _ _ (.skip h _ _ _),λh=>⟨(hgo h).2,m,?_,λz k' b' e' h2=>hst _ _ _ _ ?_⟩⟩,?_,az fG⟩
     ·exact absurd h (show ¬(3:Nat)=0 by decide)
     ·have:=hgo h;show l.length <= m+k0;omega
     ·exact absurd h (show ¬(3:Nat)=0 by decide)
     show (if 3=0 then _ else _)<(if (0:Nat)=0 then _ else _);by_cases h:3=0
     ·have:=hgo h;rw [if_pos h,if_pos rfl];show l.length-k0+1<l.length-k0+1;omega
     rw [if_neg h,if_pos rfl];show 0<l.length-k0+1;omega
    refine go 19 ?_;refine aC J (rr [_,_] J J J fu) ?_;refine aF J (by rw [show ef .eql (x0.funcs.length:Int) 16=some (decide (x0.funcs.length=16)) from r_ (n:=16),decide_eq_false aJn]) (go 11 ?_);refine bE J dw J (eh [_] _ _ _ l k0 0 0 0 0 [118,97,114] V hok hk0) ?_;rintro t91 s91 (⟨-,aPm,hm91,rfl,rfl⟩|⟨aPm,rfl,rfl⟩)
    ·exact absurd (pq aPm RM) V
    refine go 7 ?_;refine bE J dw J (eh [_] _ _ _ l k0 0 0 0 0 [109,117,116,101,120] V hok hk0) ?_;rintro t93 s93 (⟨-,aPn,hm93,rfl,rfl⟩|⟨aPn,rfl,rfl⟩)
    ·exact absurd (pq aPn RM) V
    refine go 7 ?_;refine bE J dw J (eh [_] _ _ _ l k0 0 0 0 0 [114,109,117,116,101,120] V hok hk0) ?_;rintro t95 s95 (⟨-,aPo,hm95,rfl,rfl⟩|⟨aPo,rfl,rfl⟩)
    ·exact absurd (pq aPo RM) V
    refine go 7 ?_;refine bE J dw J (eh [_] _ _ _ l k0 0 0 0 0 [102,117,110,99] V hok hk0) ?_;rintro t97 s97 (⟨-,aPp,aU1,rfl,rfl⟩|⟨aPp,rfl,rfl⟩)
    ·refine go 7 ?_;refine bE J mb J (mi [_] _ _ _ l (k0+1) 0 0 0 0 hok aU1 V) ?_;rintro t99 s99 ⟨x99,k99,u99,e99,rfl,aU2,aU3,aU4,rfl⟩;refine go 8 λb4=>?_;refine bE J call60 J (XR [_,_] _ _ _ l k99 u99 e99 0 hok aU3 aU4) ?_;rintro t100 s100 ⟨x100,aU5,aU6,aU7,rfl,aPq,aPr,aPs,rfl⟩;refine go 7 ?_;refine bE J call61 J (PI l hok 24 (bY _) [_,_] _ _ _ aU5 aU6 aU7 aPr aPs) ?_;rintro t101 s101 ⟨x101,aIu,aJo,e101,rfl,aPt,aPu,aPv,rfl⟩;refine go 8 ?_;refine aW J (bU (hf:=dd bT bT ⟨x99,x100,x101⟩ J J J) ug ?_);refine aW J (dS [_,_] Ei J J V uG tY (@length_append _ x0.funcs [⟨x99,x100,x101⟩]).symm fy co (dh (f:=bT)).symm λaU8=>?_);refine go 5 ?_;obtain ⟨m,rfl⟩:∃m,n0=m+1:=⟨n0-1,Y⟩;have hel:bj 0 0 (kK l x0 k0) {x0 with funcs:=x0.funcs++[a_.mk x99 x100 x101]} aIu aJo e101:=((aU2.bind (f:=λn k=>(rM l (kN l) k).bind λp k=>(lP l 24 k).bind λb k=>.ok (a_.mk n p b) k) (aPq.bind (f:=λp k=>(lP l 24 k).bind λb k=>.ok (a_.mk x99 p b) k) (aPt.map (f:=λb=>a_.mk x99 x100 b))):bj _ _ (Gu l (k0+1)) _ _ _ _).map (f:=λg=>{x0 with funcs:=x0.funcs++[g]})).eq λ_=>by unfold kK;rw [if_neg uO,if_neg ze,if_neg F5,if_pos RM,if_neg Y];rfl
     have hst:∀z k' b' e',bj e101 aJo (mD l m {x0 with funcs:=x0.funcs++[a_.mk x99 x100 x101]} aIu) z k' b' e' -> bj 0 0 (lr l) z k' b' e':=λz k' b' e' h=>hcont z k' b' e' sU;have hgo:e101=0 -> k0<aIu /\ aJo=0:=λh=>rb;refine ⟨({x0 with funcs:=x0.funcs++[a_.mk x99 x100 x101]},vg,vm,aU8,aIu,aJo,e101),⟨aPu,aPv,λh=>?_,λh=>hst _ _ _ _ (.skip h _ _ _),λh=>⟨(hgo h).2,m,?_,λz k' b' e' h2=>hst _ _ _ _ ?_⟩⟩,?_,az (h1:=bG) fG⟩
     ·simp;omega
     ·have:=hgo h;show l.length <= m+aIu;omega
     ·rw [show e101=0 from h,show aJo=0 from (hgo h).2];exact h2
     show (if e101=0 then _ else _)<(if (0:Nat)=0 then _ else _);by_cases h:e101=0
     ·have:=hgo h;rw [if_pos h,if_pos rfl];show l.length-aIu+1<l.length-k0+1;omega
     rw [if_neg h,if_pos rfl];show 0<l.length-k0+1;omega
    exact absurd (aPp J) (by rw [RM];decide)
   refine go 42 ?_;refine bE J dw J (eh [_] _ _ _ l k0 0 0 0 0 [118,97,114] V hok hk0) ?_;rintro t104 s104 (⟨-,aLr,hm104,rfl,rfl⟩|⟨aLr,rfl,rfl⟩)
   ·exact absurd aLr (by rw [(ha7 rfl)];decide)
   refine go 7 ?_;refine bE J dw J (eh [_] _ _ _ l k0 0 0 0 0 [109,117,116,101,120] V hok hk0) ?_;rintro t106 s106 (⟨-,aLs,hm106,rfl,rfl⟩|⟨aLs,rfl,rfl⟩)
   ·exact absurd aLs (by rw [(SM rfl)];decide)
   refine go 7 ?_;refine bE J dw J (eh [_] _ _ _ l k0 0 0 0 0 [114,109,117,116,101,120] V hok hk0) ?_;rintro t108 s108 (⟨-,aLt,hm108,rfl,rfl⟩|⟨aLt,rfl,rfl⟩)
   ·exact absurd aLt (by rw [(Ok rfl)];decide)
   refine go 7 ?_;refine bE J dw J (eh [_] _ _ _ l k0 0 0 0 0 [102,117,110,99] V hok hk0) ?_;rintro t110 s110 (⟨-,aLu,hm110,rfl,rfl⟩|⟨aLu,rfl,rfl⟩)
   ·exact absurd aLu (by rw [(RM rfl)];decide)
   refine go 6 ?_;refine bE J jx J (j5 [_] _ _ _ l k0 0 0 0 0 4) ?_;rintro t112 s112 ⟨u112,e112,aPw,rfl,rfl⟩;obtain ⟨rfl,rfl⟩:=aPw.1 rfl;refine go 3 ?_;obtain ⟨m,rfl⟩:∃m,n0=m+1:=⟨n0-1,Y⟩;have hel:bj 0 0 (kK l x0 k0) x0 k0 k0 4:=.err _ _ _ _ _ (by unfold kK;rw [if_neg uO,if_neg ze,if_neg F5,if_neg (by rw [RM rfl];decide)]) V;have hst:∀z k' b' e',bj 4 k0 (mD l m x0 k0) z k' b' e' -> bj 0 0 (lr l) z k' b' e':=λz k' b' e' h=>hcont z k' b' e' sU;have hgo:4=0 -> k0<k0 /\ k0=0:=λh=>rb;refine ⟨(x0,vg,vm,vf,k0,k0,4),⟨hk0,(show (4:Nat)<16 by decide),λh=>?_,λh=>hst _ _ _ _ (.skip h _ _ _),λh=>⟨(hgo h).2,m,?_,λz k' b' e' h2=>hst _ _ _ _ ?_⟩⟩,?_,az fG⟩
   ·exact absurd h (show ¬(4:Nat)=0 by decide)
   ·have:=hgo h;show l.length <= m+k0;omega
   ·exact absurd h (show ¬(4:Nat)=0 by decide)
   show (if 4=0 then _ else _)<(if (0:Nat)=0 then _ else _);by_cases h:4=0
   ·have:=hgo h;rw [if_pos h,if_pos rfl];show l.length-k0+1<l.length-k0+1;omega
   rw [if_neg h,if_pos rfl];show 0<l.length-k0+1;omega
  refine go 7 ?_;refine aF J (sf h0) (go 16 ?_);have aPx:lr l=.err b0 bp:=by
   rcases hn0 h0 with ⟨h,_⟩|⟨_,⟨_,h,_⟩|⟨h,_⟩⟩
   ·exact absurd J h
   ·exact absurd h h0
   exact h
  have hb0:b0<l.length:=by have h9:(lr l).At l 0:=QX hok.last _ _ _ hk;rw [aPx] at h9;exact h9.2.1
  refine go 4 ?_;refine aJ J (by simp [ef,h0]) (go 4 ?_);refine bu [b3,P] (aU [0,1,2,3,4,5] 10 (go 7 ?_));refine aZ 6 J (bX da da l lN (λ_=>J) b0 J J J J hb0 V lA lE) (cY [(7,true),(8,true),(9,true),(10,true),(11,true),(12,true),(13,false),(14,true),(15,true)] 0 (go 10 ?_));refine bC (go 3 ?_);exact ⟨.inr J,_,⟨bx,rw⟩,(rk J (iB (bI.agg (.n (.n (.n .nil)))) (bv [_,_] J J oA oL (cG J J))) (bO J) (bO J)),ah ek ek,by rw [WI hlx aPx hb0];rfl,J⟩
 refine go 13 ?_;refine aJ J (by simp [ef,her]) (go 15 ?_);exact ⟨.inr J,_,⟨bx,rw⟩,(rk J (iB (bI.agg (.n (.n (.n .nil)))) (bv [] J J oA oL (cG J J))) (bO J) (bO J)),ah bG (.refl _),by rw [XJ hlx];rfl,J⟩
def Tc{P:Program}{ops:Array Oper}{o1 o2:Oper}{l:List Oper}{Q:Exit -> AS -> Prop}{n fK fe:Nat}{T:List Nat}{s:aH}{ts:List (Nat×AT)}{t e:ax}(i:TypeInfo){z:aN}{len:Nat}{parts:Array (Nat×bb)}{ps:List (Nat×AT)}{zc r:List aO}
  (ho:o1.op=.buildSlice t len parts) (hd:o1.dst=some fK) (hg:o1.guard=none) (hn:fK<n) (hps:pX ⟨n,T,s,ts⟩ parts.toList ps)
  (hu:P.underlying t=some (.slice e)) (hi:P.info? e=some i) (hz:i.zero=some z) (hsmall:¬len*i.size>2 ^ 24) (hpos:¬len*i.size=0) (hzc:(((Array.range (len*i.size)).map (z.cells[·% z.cells.size]!)).toList.all (·.oneCell'))=true) (hzr:((Array.range (len*i.size)).map (z.cells[·% z.cells.size]!)).toList.map .val=zc)
  (hf:nV (λk=>some (k*i.size,i.size)) zc ps=some r) (ho2:o2.op=.convert t t (.tmp fK)) (hd2:o2.dst=some fe) (hg2:o2.guard=none) (hn2:fe<n) (he:P.underlying e=some (.int .u8))
  (h:∀v,cN P ops l ⟨n,T,s,(fe,.c (.sl len r))::(fK,ap v)::ts⟩ Q):cN P ops (o1::o2::l) ⟨n,T,s,ts⟩ Q:=by
 intro a w hs QQ hQ;obtain ⟨h1,h2⟩:=G8 hps.map;subst hzr;obtain ⟨vs,ae,e2⟩:=A2 (w:=bh s.bl w) (a:=a) (place:=λk=>some (k*i.size,i.size)) parts.toList ps _ ((Array.range (len*i.size)).map (z.cells[·% z.cells.size]!)) r h1 (λi h h'=>hs.ev (h2 i h h')) (oK _ _ λu hu=>Qq) hf
 have wt:∀{o:Oper} {a:Act},o.guard=none -> Region.wanted o (yielded ops a.tmps)=true:=λh=>by unfold Region.wanted;rw [h]
 obtain ⟨v,hv⟩:∃v,v=Value.slice (some ⟨w.heap.size,0,none⟩) len len:=⟨_,rfl⟩;refine wpList_step λK hK=>?_;rw [if_pos (wt hg)];unfold Oper.wp;have hrun:(execOp a.eval o1).run P w=.ok (.value v) (w.alloc (.cells vs e)):=by
  subst hv;simp only [execOp,ho,dK];rw [run_buildSlice w t e len _ vs i z hu hi hz hsmall hpos (by rw [zx];exact ae)];rfl
 rw [hrun,Oper.upon_value,hd];refine hK _ _ (wpList_step λK2 hK2=>?_);rw [if_pos (wt hg2)];have hoc:v.oneCell'=true:=by subst hv;rfl
 have hev:(a.put (some fK) v).eval (.tmp fK)=v:=(hs.put (v:=v) hn (t:=ap v) (.c _ _ (.val _ hoc))).val (x:=.tmp fK) (by simp [aw,look];rfl);generalize hw1:w.alloc (.cells vs e (vs.size,vs.size+1))=w1;have IT:(execOp (a.put (some fK) v).eval o2).run P (w.alloc (.cells vs e))=.ok (.value v) w1:=by
  subst hw1;simp only [execOp,ho2,dK,hev];subst hv;rw [Lib.run_convert_bytes_const w t e vs len len hu he];rfl
 unfold Oper.wp;rw [IT,Oper.upon_value,hd2];have hk:cQ [] w w1:=by rw [←hw1];exact (cQ.refl _ _).alloc _
 have hub:f7 (bh s.bl w) (bh s.bl w1):=l_ hk jf (λb h=>.inl h);obtain ⟨m1,m2⟩:=hs.mem.up hub GO;have hm:Mem s w1:=⟨hs.mem.nodup,λb hb=>mM (hs.mem.lt b hb) hk.size,m1,m2⟩;have s1:=hs.step (w1:=w1) T (hk.mono aM) hm (λb hb=>.inl hb);have Pc:len <= 16777216:=by
  have h1:0<i.size:=Nat.pos_of_ne_zero λh0=>hpos Cz;have h2:=Nat.le_mul_of_pos_right len h1;omega
 have hne:w.heap.size∉s.bl:=λhm=>Oe;have hrow:cS (bh s.bl w1) (.c (.sl len r)) v:=by
  subst hv;refine .c _ _ (.sl _ _ vs.toList _ ⟨_,_,J,bY _,.inr ⟨_,_,J,λj u hj=>?_⟩⟩ e2.len (λi h h'=>(e2.at_ i h h').mono hub) (λ_ _ _ h=>by cases h;have:=Pc;omega));rw [pw _ _ _ hne,←hw1];unfold World.cell?;have h9:(w.alloc (.cells vs e (vs.size,vs.size+1))).heap[w.heap.size]?=some (.cells vs e (vs.size,vs.size+1)):=Kj;simp only [h9];simpa using hj
 refine hK2 _ _ (h v _ _ ((s1.put (v:=v) hn (.c _ _ (.val _ hoc))).put hn2 hrow) QQ λe a2 w2 st2 q s' k=>hQ e a2 w2 st2 q s' (iT.trans (s1:=⟨n,T,s,(fe,.c (.sl len r))::(fK,ap v)::ts⟩) (w1:=w1) ⟨hk.mono aM,hk.mono aM,λb hb=>.inl hb,λb hb=>.inl hb⟩ k))
def Qc(a b:List Int)(h:a=b)(hl:a.length <= 1000000000)(s:aH):aT prog 25 [.c (.sl a.length (a.map λx=>aA x)),.c (.sl b.length (b.map λx=>aA x))] [] s λt s'=>t=au true /\ s'=s:=by
 subst h;obtain ⟨bx,rw⟩:=s;refine bM 26 func25 ?_;refine go 12 ?_;refine aF J (eG Y) (go 12 ?_);refine m9 (a.length) 5 (λk=>[(0,.c (.sl a.length (a.map λx=>aA x))),(1,.c (.sl a.length (a.map λx=>aA x)))]) (ao J) λk hk=>?_;show bi prog _ ⟨26,_,_,(5,ab k)::[(0,.c (.sl a.length (a.map λx=>aA x))),(1,.c (.sl a.length (a.map λx=>aA x)))]⟩ _;refine go 6 ?_;by_cases h2:(k:Int)<(a.length:Int)
 ·refine aJ J (cw h2) (go 8 ?_);have hkl:k<a.length:=Y;refine bu [] (aU [0,1] 7 (go 3 ?_));refine aZ 2 J (m0 (λx=>aA x) a k J J J J Y yJ lK) (aU [3,4,5] 3 (go 4 ?_));refine aZ 6 J (m0 (λx=>aA x) a k J J J J Y yJ lK) (aU [7] 1 (go 2 ?_));refine aZ 8 J (ei false J J J (eG Y)) ?_;refine bC (go 7 ?_);refine bK J (go 2 ?_);exact ⟨Y,(av J (b_ Y) (ao J))⟩
 refine aF J (ct h2) (go 14 ?_);exact bF bx rw J d3 ⟨bZ J,J⟩
def zX:List UInt8:=[118,97,114,32,120,59,32,109,117,116,101,120,32,97,59,32,102,117,110,99,32,109,97,105,110,40,41,32,123,32,119,104,105,108,101,32,120,32,123,32,108,111,99,107,32,97,59,32,125,32,125]
def p_:aX:=⟨[⟨⟨#[120]⟩,0⟩],[⟨⟨#[97]⟩,false,0⟩],[⟨⟨#[109,97,105,110]⟩,[],[.mk 8 ay (.mk 2 0 ⟨#[120]⟩ []) ⟨ay,[]⟩ [] [.mk 5 ay .zero ⟨⟨#[97]⟩,[]⟩ [] [] []] []]⟩]⟩
def QT:p_.bt:=by
 refine ⟨λg hg=>?_,λm hm=>?_,λf hf=>?_⟩
 ·obtain rfl:g=_:=jq.1 hg;exact ⟨uI,V⟩
 ·obtain rfl:m=_:=jq.1 hm;exact ⟨uI,V⟩
 obtain rfl:f=_:=jq.1 hf;refine ⟨V,λx hx=>AZ,?_⟩;have e:ay.size <= 4611686018427387904:=V;have ae:(⟨#[120]⟩:aI).size <= 4611686018427387904:=V;have e2:(⟨#[97]⟩:aI).size <= 4611686018427387904:=V;have f0:fit 0:=uI;have f1:fit 8:=uI;have f2:fit 5:=uI;have f3:fit 2:=uI;simp only [aS.zero,eI,aD.bt,aS.bt,cD.bt,jM,e,ae,e2,f0,f1,f2,f3,not_mem_nil,and_true,true_and,false_implies,implies_true,forall_const]
def XW:qa zX=(p_,51,0):=aL
def Sk:gp p_=(0,0,0):=aL
def KI:p_.wt <= 9000000:=of_decide_eq_true aL
def jF:wz:=oN p_
def Te:jF.procs.length=1:=aL
def N8(h:0<jF.procs.length):jF.procs[0].code.length=4 /\ ∀(h0:0<jF.procs[0].code.length)(h1:1<jF.procs[0].code.length)(h2:2<jF.procs[0].code.length)(h3:3<jF.procs[0].code.length),
  jF.procs[0].code[0].op=6 /\ jF.procs[0].code[0].target=3 /\ jF.procs[0].code[0].expr.op=19 /\ jF.procs[0].code[1].op=4 /\ jF.procs[0].code[2].op=7 /\ jF.procs[0].code[2].target=0 /\ jF.procs[0].code[3].op=8:=
 ⟨aL,λ_ _ _ _=>⟨aL,aL,aL,aL,aL,aL,aL⟩⟩
def X8:qK p_ 0=[0,1,0,2]:=aL
def Ul(s:aH):aT prog 6 [cL (.agg (di p_))] [] s λt s'=>t=.fd [.agg (sO jF),aj 0,aj 0,aj 0] /\ s'=s:=by
 have h:=KO p_ QT KI s;rw [Sk] at h;exact h
def Wn(s:aH):aT prog 28 [cL (.agg (di p_)),aj 0] [] s λt s'=>t=.c (.sl ([0,1,0,2]:List Int).length (([0,1,0,2]:List Int).map λx=>aA x)) /\ s'=s:=by
 have h:=UM p_ 0 QT KI s;rw [X8] at h;exact h
def Tx(s:aH):aT prog 27 [.c (.sl zX.length (cb zX))] [] s λt s'=>t=.fd [.agg (di p_),aj 51,aj 0] /\ s'=s:=by
 have h:=TV zX s;rw [XW] at h;exact h
def UX(w:aa)(he:pJ w):Calls prog 9 #[] w λe w'=>e=.returned (.bool true) /\ Below w.heap.size w w':=by
 have hn1:=Te;have hn2:=(N8 Y).1;obtain ⟨k1,k2,k3,k4,k5,k6,k7⟩:=(N8 Y).2 Y Y Y Y;refine Vr func9 J 98 (fV J) he ?_;show bi prog _ ⟨99,[],⟨[],[]⟩,[(98,cL (.raw undef))]⟩ _;refine go 7 ?_;refine Tc Tryz.t5 J J J V (.cons J (.cons J (.cons J (.cons J (.cons J (.cons J (.cons J (.cons J (.cons J (.cons J (.cons J (.cons J (.cons J (.cons J (.cons J (.cons J (.cons J (.cons J (.cons J (.cons J (.cons J (.cons J (.cons J (.cons J (.cons J (.cons J (.cons J (.cons J (.cons J (.cons J (.cons J (.cons J (.cons J (.cons J (.cons J (.cons J (.cons J (.cons J (.cons J (.cons J (.cons J (.cons J (.cons J (.cons J (.cons J (.cons J (.cons J (.cons J (.cons J (.cons J (.cons J .nil))))))))))))))))))))))))))))))))))))))))))))))))))) ky aL J V V aL (zc:=List.replicate 51 (.val (.int .u8 0))) aL (r:=cb zX) aL J J J V pR λvc=>?_;refine pM J call27 J (Tx _) (go 13 λb1=>?_);refine kP 98 J call6 J (Ul _) (go 16 λb2=>?_);refine aF J jL (go 4 ?_);refine aF J (eG Y) (go 4 ?_);refine aC J (bX fk fk jF.procs wg (λ_=>J) 0 J J J J Y V Ab rf) (go 3 ?_);refine aF J (eG Y) (go 10 ?_);refine aC J (bX fk fk jF.procs wg (λ_=>J) 0 J J J J Y V Ab rf) (go 8 ?_);refine aC J (bX encI encI jF.procs[0].code lh (λ_=>J) 0 J J J J Y V jv jS) (go 2 ?_);refine aJ J (bR Y) (go 2 ?_);refine aC J (bX encI encI jF.procs[0].code lh (λ_=>J) 0 J J J J Y V jv jS) (go 2 ?_);refine aJ J (bR Y) (go 3 ?_);refine aC J (bX encI encI jF.procs[0].code lh (λ_=>J) 0 J J J J Y V jv jS) (go 3 ?_);refine aJ J (bR Y) (go 3 ?_);refine aC J (bX encI encI jF.procs[0].code lh (λ_=>J) 1 J J J J Y V jv jS) (go 2 ?_);refine aJ J (bR Y) (go 3 ?_);refine aC J (bX encI encI jF.procs[0].code lh (λ_=>J) 2 J J J J Y V jv jS) (go 2 ?_);refine aJ J (bR Y) (go 3 ?_);refine aC J (bX encI encI jF.procs[0].code lh (λ_=>J) 2 J J J J Y V jv jS) (go 2 ?_);refine aJ J (bR Y) (go 3 ?_);refine aC J (bX encI encI jF.procs[0].code lh (λ_=>J) 3 J J J J Y V jv jS) (go 2 ?_);refine aJ J (bR Y) (go 3 ?_);refine kP 98 J call28 J (Wn _) ?_;refine aW J (uM Tryz.t3 [aA 0,aA 0,aA 0,aA 0] J J V (.cons J (.cons J (.cons J (.cons J .nil)))) tn aL J V V aL aL (r:=([0,1,0,2]:List Int).map λx=>aA x) J ?_)
 refine pM J call25 J (Qc [0,1,0,2] [0,1,0,2] J V _) (go 5 ?_);exact ⟨.inr J,_,⟨[],[]⟩,bJ J (bO J),ah (D1 _) (D1 _),J,J⟩
abbrev eS(A B:List aV)(rw:List aQ)(S:Nat)(l:List Int)(i:Nat):aH:=⟨A++⟨S,59,[.sl l.length (l.map λi=>aA i),am i]⟩::B,rw⟩
def YF(l:List Int)(n:Nat)(s:aH):aT prog 14 [.c (.sl l.length (l.map λi=>aA i)),ab n] [] s λr s'=>r=.c (.sl (l.take n).length ((l.take n).map λi=>aA i)) /\ s'=s:=by
 obtain ⟨bx,rw⟩:=s;refine bM 13 func14 ?_;refine go 11 ?_;by_cases hlt:n<l.length
 ·refine aJ J fP (go 7 ?_);refine aC J (V5 (h:=(l.take n).length) (z:=1) J J J ES ES aL aL lK (by rw [kU,tJ Y,sM,←List.map_take])) (go 5 ?_);exact bF bx rw J d3 ⟨J,J⟩
 rw [take_of_length_le (l:=l) (i:=n) Y];refine aF J eU (go 12 ?_);exact bF bx rw J d3 ⟨J,J⟩
def CO(A B:List aV)(rw:List aQ)(S:Nat)(l:List Int)(i0:Nat)(n:Int)(hi0:i0 <= l.length)(hl:l.length <= 1000000)(hn0:0<n)(hn1:n <= 4611686018427387904):aT prog 15 [aE S,aj n] [S] (eS A B rw S l i0) λr s=>∃(z:Int) (i:Nat),r=aj z /\ 0 <= z /\ z<n /\ i <= l.length /\ s=eS A B rw S l i:=by
 refine bM 35 func15 ?_;refine go 7 ?_;refine bu [S] (aU [0,1,2,3,4,5,6,7,8] 1 (go 10 ?_));refine aZ 9 J (ei _ J J J J) ?_;refine bC (go 1 ?_);refine iD J (λhc1=>?_) (λhc1=>?_)
 ·have hge:l.length <= i0:=by simpa using hc1
  refine go 7 ?_;exact kR (s':=eS A B rw S l i0) J d3 ⟨0,i0,J,Y,hn0,hi0,J⟩
 have hlt:i0<l.length:=by simpa using hc1
 refine go 8 ?_;refine bK J (go 6 ?_);refine bu [S] (aU [0,1,2,3,4,5,6,7] 6 (go 9 ?_));refine aZ 8 J (jz (i0:Int)) ?_;refine aZ 9 J (m0 (λi=>aA i) l i0 J J J J hlt yJ lK) (aU [10,11] 2 (go 3 ?_));refine aY 12 J J (bo [] J J V mG J (LS _ _ hn0 hn1 _) dX dX (λ_=>dX) ?_);rintro rj sj ⟨rfl,rfl⟩;refine aU [13] 0 (go 2 ?_);refine bC (go 2 ?_);exact kR (s':=eS A B rw S l (i0+1)) J d3 ⟨l[i0]%n,i0+1,J,As _ Y,FG _ hn0,hlt,J⟩
def BS(A B:List aV)(rw:List aQ)(S:Nat)(l:List Int)(i0:Nat)(hi0:i0 <= l.length)(hl:l.length <= 1000000):aT prog 87 [aE S] [S] (eS A B rw S l i0) λr s=>∃(z:Int) (i:Nat),r=aj z /\ 0 <= z /\ z<4611686018427387904 /\ i <= l.length /\ s=eS A B rw S l i:=by
 refine bM 10 func87 ?_;refine go 9 ?_;refine aW J (bo [S] J J V fN J (CO A _ _ _ l i0 _ hi0 hl V V) (ba) (ba (h:=by simp [aH.bl])) (λ_=>ba) ?_);rintro r1 s1 ⟨z1,i1,rfl,hz1,hy1,hi1,rfl⟩;refine aC J (ei _ J J J J) (go 2 ?_);refine iD J (λhc1=>?_) (λhc1=>?_)
 ·refine go 3 ?_;refine aW J (bo [S] J J V fN J (CO A _ _ _ l i1 _ hi1 hl V V) (ba) (ba (h:=by simp [aH.bl])) (λ_=>ba) ?_);rintro r2 s2 ⟨z2,i2,rfl,hz2,hy2,hi2,rfl⟩;refine go 5 ?_;exact kR (s':=eS A B rw S l i2) J d3 ⟨z2,i2,J,hz2,Y,hi2,J⟩
 refine go 5 ?_;refine aW J (bo [S] J J V fN J (CO A _ _ _ l i1 _ hi1 hl V V) (ba) (ba (h:=by simp [aH.bl])) (λ_=>ba) ?_);rintro r2 s2 ⟨z2,i2,rfl,hz2,hy2,hi2,rfl⟩;refine go 4 ?_;exact kR (s':=eS A B rw S l i2) J d3 ⟨z2,i2,J,hz2,Y,hi2,J⟩
end
section
inductive fM (names:List ByteArray):Nat -> aS -> Prop
 |name {d:Nat} {x:ByteArray} (h:x∈names):fM names d (.mk 2 0 x [])
 |num {d:Nat} {n:Int} (h0:0 <= n) (h1:n<4611686018427387904):fM names d (.mk 1 n ay [])
 |un {d:Nat} {op:Int} {e:aS} (ho:op=3∨op=4) (he:fM names d e):fM names (d+1) (.mk op 0 ay [e])
 |bin {d:Nat} {op:Int} {a b:aS} (h0:5 <= op) (h1:op <= 17) (ha:fM names d a) (hb:fM names d b):fM names (d+1) (.mk op 0 ay [a,b])
def fM.mono{names:List aI}{d d':Nat}{e:aS}(h:fM names d e)(hd:d <= d'):fM names d' e:=by
 induction h generalizing d' with
 |name h=>exact .name h
 |num h0 h1=>exact .num h0 h1
 |@un d op e ho he ih=>
  obtain ⟨k,rfl⟩:∃k,d'=k+1:=⟨d'-1,Y⟩;exact .un ho (ih Y)
 |@bin d op a b h0 h1 ha hb iha ihb=>
  obtain ⟨k,rfl⟩:∃k,d'=k+1:=⟨d'-1,Y⟩;exact .bin h0 h1 (iha Y) (ihb Y)
inductive m5 (ms:List cn) (ps:List bg) (vars:List ByteArray):cD -> Prop
 |arr {m:cn} {e:aS} (hm:m∈ms) (hs:0<m.size) (he:fM vars 1 e):m5 ms ps vars ⟨m.name,[e]⟩
 |scalar {m:cn} (hm:m∈ms) (hs:m.size <= 0):m5 ms ps vars ⟨m.name,[]⟩
 |param {x:bg} (hx:x∈ps) (hm:x.mutex=true):m5 ms ps vars ⟨x.name,[]⟩
inductive m7 (ms:List cn) (ps:List bg) (vars:List ByteArray):List bg -> List bq -> Prop
 |nil:m7 ms ps vars [] []
 |mutex {x:bg} {l:List bg} {asl:List bq} {r:cD} (hx:x.mutex=true) (hr:m5 ms ps vars r) (h:m7 ms ps vars l asl):m7 ms ps vars (x::l) (⟨true,r,.zero⟩::asl)
 |expr {x:bg} {l:List bg} {asl:List bq} {e:aS} (hx:x.mutex=false) (he:fM vars 2 e) (h:m7 ms ps vars l asl):m7 ms ps vars (x::l) (⟨false,.zero,e⟩::asl)
def kW(left:Nat):ByteArray:=bytes [118,UInt8.ofNat (97+left%26),UInt8.ofNat (97+left/26%26)]
abbrev iV:=ByteArray×List bg
inductive fD (ms:List cn) (fs:List iV) (ps:List bg):List ByteArray -> Nat -> Nat -> List aD -> Nat -> Prop
 |nil {vars:List ByteArray} {deep left:Nat}:fD ms fs ps vars deep left [] left
 |lock {vars:List ByteArray} {deep left left':Nat} {r:cD} {rest:List aD} (hr:m5 ms ps vars r) (h:fD ms fs ps vars deep left rest left'):
   fD ms fs ps vars deep (left+1) (.mk 5 ay .zero r [] [] []::rest) left'
 |unlock {vars:List ByteArray} {deep left left':Nat} {r:cD} {rest:List aD} (hr:m5 ms ps vars r) (h:fD ms fs ps vars deep left rest left'):
   fD ms fs ps vars deep (left+1) (.mk 6 ay .zero r [] [] []::rest) left'
 |var {vars:List ByteArray} {deep left left':Nat} {e:aS} {rest:List aD} (he:fM vars 2 e) (h:fD ms fs ps (vars++[kW left]) deep left rest left'):
   fD ms fs ps vars deep (left+1) (.mk 1 (kW left) e .zero [] [] []::rest) left'
 |assign {vars:List ByteArray} {deep left left':Nat} {x:ByteArray} {e:aS} {rest:List aD} (hx:x∈vars) (he:fM vars 2 e) (h:fD ms fs ps vars deep left rest left'):
   fD ms fs ps vars deep (left+1) (.mk 2 x e .zero [] [] []::rest) left'
 |call {vars:List ByteArray} {deep left left':Nat} {k:Int} {g:iV} {asl:List bq} {rest:List aD} (hk:k=3∨k=4) (hg:g∈fs) (ha:m7 ms ps vars g.2 asl) (h:fD ms fs ps vars deep left rest left'):
   fD ms fs ps vars deep (left+1) (.mk k g.1 .zero .zero asl [] []::rest) left'
 |cond {vars:List ByteArray} {deep left l1 l2 left':Nat} {e:aS} {thn els rest:List aD} (he:fM vars 2 e) (ht:fD ms fs ps vars deep left thn l1) (hel:fD ms fs ps vars deep l1 els l2) (h:fD ms fs ps vars (deep+1) l2 rest left'):
   fD ms fs ps vars (deep+1) (left+1) (.mk 7 ay e .zero [] thn els::rest) left'
 |loop {vars:List ByteArray} {deep left l1 left':Nat} {e:aS} {thn rest:List aD} (he:fM vars 2 e) (ht:fD ms fs ps vars deep left thn l1) (h:fD ms fs ps vars (deep+1) l1 rest left'):
   fD ms fs ps vars (deep+1) (left+1) (.mk 8 ay e .zero [] thn []::rest) left'
 |ret {vars:List ByteArray} {deep left left':Nat} {rest:List aD} (h:fD ms fs ps vars deep left rest left'):
   fD ms fs ps vars deep (left+1) (.mk 9 ay .zero .zero [] [] []::rest) left'
 |pair {vars:List ByteArray} {deep left l1 left':Nat} {r:cD} {mid rest:List aD} (hr:m5 ms ps vars r) (hm:fD ms fs ps vars 0 left mid l1) (h:fD ms fs ps vars deep l1 rest left'):
   fD ms fs ps vars deep (left+1) (.mk 5 ay .zero r [] [] []::(mid++.mk 6 ay .zero r [] [] []::rest)) left'
def fD.le{ms:List cn}{fs:List iV}{ps:List bg}{vars:List aI}{deep left left':Nat}{l:List aD}(h:fD ms fs ps vars deep left l left'):left' <= left:=by
 induction h<;>omega
def Ce(i:Nat)(m:cn):Prop:=m.name=bytes [UInt8.ofNat (97+i)] /\ ((m.ex=false /\ 0 <= m.size /\ m.size <= 3)∨(m.ex=true /\ m.size=0))
def Gc(i:Nat)(g:bw):Prop:=g.name=bytes [103,UInt8.ofNat (48+i)] /\ -2 <= g.init /\ g.init <= 2
def xN(l:List bg):Prop:=l.length <= 2 /\ ∀k (h:k<l.length),l[k].name=bytes [112,UInt8.ofNat (48+(l.length-k))]
def Fo(i:Nat)(f:a_):Prop:=(i=0 -> f.name=bytes [109,97,105,110] /\ f.params=[]) /\ (0<i -> f.name=bytes [102,UInt8.ofNat (48+i)]) /\ xN f.params
def a_.sig(f:a_):iV:=(f.name,f.params)
def AQ(gs:List bw)(ps:List bg):List ByteArray:=gs.map bw.name++(ps.filter λx=>!x.mutex).map bg.name
inductive qC (ms:List cn) (fs:List iV) (gs:List bw):Nat -> List a_ -> Prop
 |nil {left:Nat}:qC ms fs gs left []
 |cons {left left':Nat} {f:a_} {l:List a_} (h:fD ms fs f.params (AQ gs f.params) 2 left f.body left') (hl:qC ms fs gs left' l):qC ms fs gs left (f::l)
structure BW (p:aX):Prop where
 mutexes:1 <= p.mutexes.length /\ p.mutexes.length <= 4 /\ ∀k (h:k<p.mutexes.length),Ce k p.mutexes[k]
 globals:p.globals.length <= 2 /\ ∀k (h:k<p.globals.length),Gc k p.globals[k]
 funcs:1 <= p.funcs.length /\ p.funcs.length <= 4 /\ ∀k (h:k<p.funcs.length),Fo k p.funcs[k]
 bodies:qC p.mutexes (p.funcs.map a_.sig) p.globals 24 p.funcs
end
section
open Go.RowKit
def fa(A B:List aV)(rw:List aQ)(S:Nat)(l:List Int)(i0:Nat)(n:Int)(hi0:i0 <= l.length)(hl:l.length <= 1000000)(hn0:0<n)(hn1:n <= 4611686018427387904):aT prog 15 [aE S,aj n] [S] (eS A B rw S l i0) λr s=>∃(z:Nat) (i:Nat),r=ab z /\ (z:Int)<n /\ i <= l.length /\ s=eS A B rw S l i:=
 (CO A B rw S l i0 n hi0 hl hn0 hn1).mono λr s ⟨z,i,h1,h2,h3,h4,h5⟩=>⟨z.toNat,i,h1.trans (congrArg (λx=>AT.c (aA x)) (Int.toNat_of_nonneg h2).symm),by rw [Int.toNat_of_nonneg h2];exact h3,h4,h5⟩
abbrev eg(RA:List aQ)(nv:Value)(names:List ByteArray)(rw:List aQ):List aQ:=RA++⟨nv,9,1,names.length,cj names⟩::rw
def RP{P:Program}{U:List Nat}{o:Oper}{st:AS}{E yt:ax}{x y:bb}{m:Nat}(r:Nat)(ho:o.op=.binOp .rem E x y yt)(hx:aw st x=some (ab m))(hy:aw st y=some (aj 2))(hr:m%2=r):cp P U o st (ab r):=by
 subst hr;exact E7 ho hx hy V J
def QK(A B:List aV)(RA rw:List aQ)(nv:aN)(S:Nat)(l:List Int)(i0:Nat)(names:List aI)(d:Nat)(hi0:i0 <= l.length)(hl:l.length <= 1000000)(hnl:names.length <= 1000000)(hd:d <= 100)(ih:d≠0 -> ∀(A:List aV)(i:Nat),i <= l.length -> aT prog 63 [aE S,ap nv,aj ((d-1:Nat):Int)] [S] (eS A B (eg RA nv names rw) S l i) (λr s=>∃(e:aS) (i:Nat),r=.agg (bf e) /\ fM names (d-1) e /\ i <= l.length /\ s=eS A B (eg RA nv names rw) S l i)):aT prog 63 [aE S,ap nv,ab d] [S] (eS A B (eg RA nv names rw) S l i0) (λr s=>∃(e:aS) (i:Nat),r=.agg (bf e) /\ fM names (d) e /\ i <= l.length /\ s=eS A B (eg RA nv names rw) S l i):=by
 refine bM 64 func63 ?_;refine go 8 λb1=>?_;refine aW J (bo [S] J J V fN J (fa (_::A) _ _ _ l i0 _ hi0 hl V V) (ba) (ba (h:=by simp [aH.bl])) (λ_=>ba) ?_);rintro r1 s1 ⟨z1,i1,rfl,hy1,hi1,rfl⟩;refine go 8 ?_;by_cases hd0:d=0
 ·refine aJ J fP (go 12 ?_);refine aC J (lT RA J J J kj) ?_;by_cases hn0:0<names.length;focus
   refine aJ J fP (go 2 ?_);refine aW J (bo [S] J J V fN J (fa (_::A) _ _ _ l i1 _ hi1 hl V V) (ba) (ba (h:=by simp [aH.bl])) (λ_=>ba) ?_);rintro r11 s29 ⟨z7,i7,rfl,hy8,hi7,rfl⟩;by_cases aU9:z7=1
   ·refine aJ J fP (go 9 ?_);refine aC J (lT RA J J J kj) ?_;refine aW J (bo [S] J J V fN J (fa (_::A) _ _ _ l i7 _ hi7 hl Y Y) (ba) (ba (h:=by simp [aH.bl])) (λ_=>ba) ?_);rintro r2 s2 ⟨z2,i2,rfl,hy2,hi2,rfl⟩;have hj2:z2<names.length:=Y;refine zY RA Y λg cap hg=>?_;subst hg;refine aC J (ez z2 J J J J hj2 kj iG) ?_;refine aC J (kb RA rl iG (zj names _ hj2)) (go 8 ?_);exact ⟨.inr J,_,eS A B (eg RA _ names rw) S l i2,(gK (bI.agg (.r (.r (.r (.n .nil))))) (bJ J (bv [] J J gE dl (cG J J)))),ah bG (.refl _),⟨(.mk 2 0 names[z2] []),i2,J,(.name (getElem_mem hj2)),hi2,J⟩⟩
   refine aF J eU (go 9 ?_);refine aW J (bo [S] J J V call87 J (BS (_::A) _ _ _ l i7 hi7 hl) (ba) (ba (h:=by simp [aH.bl])) (λ_=>ba) ?_)
  rotate_left;refine aF J eU (go 13 ?_);refine aW J (bo [S] J J V call87 J (BS (_::A) _ _ _ l i1 hi1 hl) (ba) (ba (h:=by simp [aH.bl])) (λ_=>ba) ?_);all_goals
   rintro r2 s2 ⟨z2,i2,rfl,hz2,hy2,hi2,rfl⟩;refine go 7 ?_;exact ⟨.inr J,_,eS A B (eg RA _ names rw) S l i2,(gK (bI.agg (.r (.r (.r (.n .nil))))) (bJ J (bv [] J J gE dl (cG J J)))),ah bG (.refl _),⟨(.mk 1 z2 ay []),i2,J,(.num hz2 hy2),hi2,J⟩⟩
 refine aF J eU (go 2 ?_);by_cases hz2:z1<2
 ·refine aJ J fP (go 9 ?_);refine aC J (lT RA J J J kj) ?_;by_cases hn0:0<names.length;focus
   refine aJ J fP (go 2 ?_);refine aW J (bo [S] J J V fN J (fa (_::A) _ _ _ l i1 _ hi1 hl V V) (ba) (ba (h:=by simp [aH.bl])) (λ_=>ba) ?_);rintro r11 s29 ⟨z7,i7,rfl,hy8,hi7,rfl⟩;by_cases aU9:z7=1
   ·refine aJ J fP (go 9 ?_);refine aC J (lT RA J J J kj) ?_;refine aW J (bo [S] J J V fN J (fa (_::A) _ _ _ l i7 _ hi7 hl Y Y) (ba) (ba (h:=by simp [aH.bl])) (λ_=>ba) ?_);rintro r2 s2 ⟨z2,i2,rfl,hy2,hi2,rfl⟩;have hj2:z2<names.length:=Y;refine zY RA Y λg cap hg=>?_;subst hg;refine aC J (ez z2 J J J J hj2 kj iG) ?_;refine aC J (kb RA rl iG (zj names _ hj2)) (go 8 ?_);exact ⟨.inr J,_,eS A B (eg RA _ names rw) S l i2,(gK (bI.agg (.r (.r (.r (.n .nil))))) (bJ J (bv [] J J gE dl (cG J J)))),ah bG (.refl _),⟨(.mk 2 0 names[z2] []),i2,J,(.name (getElem_mem hj2)),hi2,J⟩⟩
   refine aF J eU (go 9 ?_);refine aW J (bo [S] J J V call87 J (BS (_::A) _ _ _ l i7 hi7 hl) (ba) (ba (h:=by simp [aH.bl])) (λ_=>ba) ?_)
  rotate_left;refine aF J eU (go 13 ?_);refine aW J (bo [S] J J V call87 J (BS (_::A) _ _ _ l i1 hi1 hl) (ba) (ba (h:=by simp [aH.bl])) (λ_=>ba) ?_);all_goals
   rintro r2 s2 ⟨z2,i2,rfl,hz2,hy2,hi2,rfl⟩;refine go 7 ?_;exact ⟨.inr J,_,eS A B (eg RA _ names rw) S l i2,(gK (bI.agg (.r (.r (.r (.n .nil))))) (bJ J (bv [] J J gE dl (cG J J)))),ah bG (.refl _),⟨(.mk 1 z2 ay []),i2,J,(.num hz2 hy2),hi2,J⟩⟩
 refine aF J eU (go 8 ?_);by_cases hz4:z1<4
 ·refine aJ J fP (go 7 ?_);refine aC J (RP (z1%2) J J J J) ?_;refine bK J (go 3 ?_);refine aC J (jz ((d-1:Nat):Int)) ?_;refine aW J (bo [S] J J V call63 J (ih hd0 (_::A) i1 hi1) (ba) (ba (h:=by simp [aH.bl])) (λ_=>ba) ?_);rintro r2 s2 ⟨x2,i2,rfl,hm2,hi2,rfl⟩;refine aW J (bU (hf:=dd bV bf x2 (fR _) J J) o' ?_);refine go 7 ?_;exact ⟨.inr J,_,eS A B (eg RA _ names rw) S l i2,(gK (bI.agg (.r (.r (.r (.r .nil))))) (bJ J (bv [] J J gE dl (cG J J)))),ah bG (.refl _),⟨(.mk (3+((z1%2:Nat):Int)) 0 ay [x2]),i2,J,(by obtain ⟨d',rfl⟩:∃d',d=d'+1:=⟨d-1,Y⟩;exact .un Y hm2),hi2,J⟩⟩
 refine aF J eU (go 10 ?_);refine aW J (bo [S] J J V fN J (fa (_::A) _ _ _ l i1 _ hi1 hl V V) (ba) (ba (h:=by simp [aH.bl])) (λ_=>ba) ?_);rintro r2 s2 ⟨z2,i2,rfl,hy2,hi2,rfl⟩;refine bK J (go 3 ?_);refine aC J (jz ((d-1:Nat):Int)) ?_;refine aW J (bo [S] J J V call63 J (ih hd0 (_::A) i2 hi2) (ba) (ba (h:=by simp [aH.bl])) (λ_=>ba) ?_);rintro r3 s3 ⟨x3,i3,rfl,hm3,hi3,rfl⟩;refine go 3 ?_;refine aC J (jz ((d-1:Nat):Int)) ?_;refine aW J (bo [S] J J V call63 J (ih hd0 (_::A) i3 hi3) (ba) (ba (h:=by simp [aH.bl])) (λ_=>ba) ?_);rintro r4 s4 ⟨x4,i4,rfl,DM,hi4,rfl⟩;refine aW J (bU (hps:=(.cons J (.cons J .nil))) (hf:=Q5 bV bf x3 x4 fR J (λ_=>J)) Jp ?_);refine go 5 ?_;exact ⟨.inr J,_,eS A B (eg RA _ names rw) S l i4,(gK (bI.agg (.r (.r (.r (.r .nil))))) (bJ J (bv [] J J gE dl (cG J J)))),ah bG (.refl _),⟨(.mk (5+(z2:Int)) 0 ay [x3,x4]),i4,J,(by obtain ⟨d',rfl⟩:∃d',d=d'+1:=⟨d-1,Y⟩;exact .bin Y Y hm3 DM),hi4,J⟩⟩
def DZ(B:List aV)(RA rw:List aQ)(nv:aN)(S:Nat)(l:List Int)(names:List aI)(hl:l.length <= 1000000)(hnl:names.length <= 1000000):∀(d:Nat),d <= 100 -> ∀(A:List aV)(i:Nat),i <= l.length -> aT prog 63 [aE S,ap nv,ab d] [S] (eS A B (eg RA nv names rw) S l i) (λr s=>∃(e:aS) (i:Nat),r=.agg (bf e) /\ fM names (d) e /\ i <= l.length /\ s=eS A B (eg RA nv names rw) S l i)
 |0,hd,A,i,hi=>QK A B RA rw nv S l i names 0 hi hl hnl hd (λh=>absurd rfl h)
 |d+1,hd,A,i,hi=>QK A B RA rw nv S l i names (d+1) hi hl hnl hd (λ_ A i hi=>DZ B RA rw nv S l names hl hnl d Y A i hi)
def Vk(A B:List aV)(RA rw:List aQ)(nv:aN)(S W:Nat)(l:List Int)(i0:Nat)(names:List aI)(G M F:aO)(left:Int)(ar:Bool)(size:Int)(hs0:0<size)(hs1:size <= 4611686018427387904)(hi0:i0 <= l.length)(hl:l.length <= 1000000)(hnl:names.length <= 1000000):aT prog 62 [aE W,ap nv,aj size] [S] (eS A (⟨W,61,[.val (.pointer (some ⟨S,0,none⟩)),G,M,F,aA left,bD ar]⟩::B) (eg RA nv names rw) S l i0) (λr s=>∃(e:aS) (i:Nat),r=.agg (bf e) /\ fM names 1 e /\ i <= l.length /\ s=eS A (⟨W,61,[.val (.pointer (some ⟨S,0,none⟩)),G,M,F,aA left,bD ar]⟩::B) (eg RA nv names rw) S l i):=by
 cases ar
 ·refine bM 32 func62 ?_;refine go 32 λb1=>?_;refine aW J (bo [S] J J V fN J (fa (_::A) _ _ _ l i0 _ hi0 hl hs0 hs1) (ba) (ba (h:=by simp [aH.bl])) (λ_=>ba) ?_);rintro r1 s1 ⟨z1,i1,rfl,hy1,hi1,rfl⟩;refine go 5 ?_;exact ⟨.inr J,_,eS A (⟨W,61,[.val (.pointer (some ⟨S,0,none⟩)),G,M,F,aA left,bD false]⟩::B) (eg RA nv names rw) S l i1,(gK (bI.agg (.r (.r (.r (.n .nil))))) (bJ J (bv [] J J gE dl (cG J J)))),ah bG (.refl _),⟨.mk 1 z1 ay [],i1,J,.num Y Y,hi1,J⟩⟩
 refine bM 32 func62 ?_;refine go 17 λb1=>?_;refine aW J (bo [S] J J V fN J (fa (_::A) _ _ _ l i0 _ hi0 hl V V) (ba) (ba (h:=by simp [aH.bl])) (λ_=>ba) ?_);rintro r1 s1 ⟨z1,i1,rfl,hy1,hi1,rfl⟩;by_cases hz1:z1=1
 ·refine aJ J fP (go 11 ?_);refine aW J (bo [S] J J V call63 J (DZ _ RA _ _ S l names hl hnl 1 Gx (_::A) i1 hi1) (ba) (ba (h:=by simp [aH.bl])) (λ_=>ba) ?_);rintro r2 s2 ⟨x2,i2,rfl,hm2,hi2,rfl⟩;refine go 5 ?_;exact ⟨.inr J,_,eS A (⟨W,61,[.val (.pointer (some ⟨S,0,none⟩)),G,M,F,aA left,bD true]⟩::B) (eg RA nv names rw) S l i2,(bJ J (bv [] J J gE dl (cG J J))),ah bG (.refl _),⟨x2,i2,J,hm2,hi2,J⟩⟩
 refine aF J eU (go 13 ?_);refine aW J (bo [S] J J V fN J (fa (_::A) _ _ _ l i1 _ hi1 hl hs0 hs1) (ba) (ba (h:=by simp [aH.bl])) (λ_=>ba) ?_);rintro r2 s2 ⟨z2,i2,rfl,hy2,hi2,rfl⟩;refine go 5 ?_;exact ⟨.inr J,_,eS A (⟨W,61,[.val (.pointer (some ⟨S,0,none⟩)),G,M,F,aA left,bD true]⟩::B) (eg RA nv names rw) S l i2,(gK (bI.agg (.r (.r (.r (.n .nil))))) (bJ J (bv [] J J gE dl (cG J J)))),ah bG (.refl _),⟨.mk 1 z2 ay [],i2,J,.num Y Y,hi2,J⟩⟩
def uT(A B:List aV)(RA rw:List aQ)(nv:aN)(S W:Nat)(l:List Int)(i0:Nat)(names:List aI)(G M F:aO)(left:Int)(ar:Bool)(hi0:i0 <= l.length)(hl:l.length <= 1000000)(hnl:names.length <= 1000000):aT prog 31 [aE W,ap nv] [S] (eS A (⟨W,61,[.val (.pointer (some ⟨S,0,none⟩)),G,M,F,aA left,bD ar]⟩::B) (eg RA nv names rw) S l i0) (λr s=>∃(e:aS) (i:Nat),r=.agg (bf e) /\ fM names 2 e /\ i <= l.length /\ s=eS A (⟨W,61,[.val (.pointer (some ⟨S,0,none⟩)),G,M,F,aA left,bD ar]⟩::B) (eg RA nv names rw) S l i):=by
 cases ar
 ·refine bM 28 func31 ?_;refine go 23 λb1=>?_;refine aW J (bo [S] J J V call63 J (DZ _ RA _ _ S l names hl hnl 0 Gx (_::A) i0 hi0) (ba) (ba (h:=by simp [aH.bl])) (λ_=>ba) ?_);rintro r1 s1 ⟨x1,i1,rfl,hm1,hi1,rfl⟩;refine go 5 ?_;exact ⟨.inr J,_,eS A (⟨W,61,[.val (.pointer (some ⟨S,0,none⟩)),G,M,F,aA left,bD false]⟩::B) (eg RA nv names rw) S l i1,(bJ J (bv [] J J gE dl (cG J J))),ah bG (.refl _),⟨x1,i1,J,(hm1.mono Y),hi1,J⟩⟩
 refine bM 28 func31 ?_;refine go 19 λb1=>?_;refine bu [W] (aU [0,1,2,3,4,5,6,7,8] 4 (go 10 ?_));refine aY 9 J J (bo [S] J J V fN J (fa (_::A) _ _ _ l i0 _ hi0 hl V V) de dc i_ ?_);rintro r1 s1 ⟨z1,i1,rfl,hy1,hi1,rfl⟩;refine aZ 10 J (ua J J J Y Y) ?_;refine aY 11 J J (bo [S] J J V call63 J (DZ _ RA _ _ S l names hl hnl (1+z1) Gx (_::A) i1 hi1) de dc i_ ?_);rintro r2 s2 ⟨x2,i2,rfl,hm2,hi2,rfl⟩;refine cY [(12,false)] 0 (go 2 ?_);refine bC (go 2 ?_);exact ⟨.inr J,_,eS A (⟨W,61,[.val (.pointer (some ⟨S,0,none⟩)),G,M,F,aA left,bD true]⟩::B) (eg RA nv names rw) S l i2,(bJ J (bv [] J J gE dl (cG J J))),ah bG (.refl _),⟨x2,i2,J,(hm2.mono Y),hi2,J⟩⟩
end
section
def nT(ms:List cn):List ByteArray:=ms.map cn.name
def nI(ps:List bg):List ByteArray:=(ps.map λx=>if x.mutex then [x.name,x.name] else []).flatten
def U3(ms:List cn)(k:Nat)(h:k<ms.length):nT (ms.take (k+1))=nT (ms.take k)++[ms[k].name]:=by
 rw [gX h,nT,e1];rfl
def Jy(ps:List bg)(k:Nat)(h:k<ps.length):nI (ps.take (k+1))=nI (ps.take k)++(if ps[k].mutex then [ps[k].name,ps[k].name] else []):=by
 rw [gX h,nI,e1,GU];simp [nI]
def Mo:∀(ps:List bg),(nI ps).length <= 2*ps.length
 |[]=>by simp [nI]
 |x::r=>by
  have:=Mo r;simp only [nI,ca,jd,length_append,length_cons] at this⊢;split<;>(simp only [length_cons,length_nil];omega)
def SS(ps:List bg)(n:aI)(h:n∈nI ps):∃x,x∈ps /\ x.mutex=true /\ x.name=n:=by
 simp only [nI,List.mem_flatten,k_] at h;obtain ⟨l,⟨x,hx,rfl⟩,hn⟩:=h;cases hm:x.mutex with
 |true=>rw [hm] at hn;simp at hn;exact ⟨x,hx,hm,hn.symm⟩
 |false=>rw [hm] at hn;simp at hn
end
section
open Go.RowKit
def WE{ms:List cn}{ps:List bg}{vars:List aI}{n:aI}(h:n∈nI ps):m5 ms ps vars ⟨n,[]⟩:=by
 obtain ⟨x,hx,hxm,rfl⟩:=SS ps _ h;exact .param hx hxm
def tW(A B:List aV)(RA rw:List aQ)(vv:aN)(S W:Nat)(l:List Int)(i0:Nat)(ms:List cn)(ps:List bg)(vars:List aI)(fn:aI)(G F FB:aO)(left:Int)(ar:Bool)(hi0:i0 <= l.length)(hl:l.length <= 1000000)(hm1:1 <= ms.length)(hm2:ms.length <= 1000)(hmz:∀m,m∈ms -> m.size <= 1000)(hp2:ps.length <= 1000)(hvl:vars.length <= 1000000):aT prog 30 [aE W,.agg [ac fn,aG cE ps,FB],ap vv] [S] (eS A (⟨W,61,[.val (.pointer (some ⟨S,0,none⟩)),G,(aG bB ms),F,aA left,bD ar]⟩::B) (eg RA vv vars rw) S l i0) (λr s=>∃(f:cD) (i:Nat),r=.agg (encR f) /\ m5 ms ps vars f /\ i <= l.length /\ s=eS A (⟨W,61,[.val (.pointer (some ⟨S,0,none⟩)),G,(aG bB ms),F,aA left,bD ar]⟩::B) (eg RA vv vars rw) S l i):=by
 refine bM 107 func30 ?_;refine go 18 λb1 b2=>?_;refine gA 9 1 ?_;refine fv (λg:Nat×aN×List aI=>(⟨107,aR g.2.1++[b2,b1,S],⟨⟨b2,102,[ac ⟨#[]⟩,aK]⟩::⟨b1,49,[ac fn,aG cE ps,FB]⟩::(A++⟨S,59,[.sl l.length (l.map λi=>aA i),am i0]⟩::⟨W,61,[.val (.pointer (some ⟨S,0,none⟩)),G,(aG bB ms),F,aA left,bD ar]⟩::B),⟨g.2.1,9,1,g.2.2.length,cj g.2.2⟩::(eg RA vv vars rw)⟩,[(8,ab g.1),(7,ap g.2.1),(0,aE W),(2,ap vv),(4,aE b1),(6,aE b2)]⟩:AS)) (λg=>g.1 <= ms.length /\ g.2.2=nT (ms.take g.1)) (λg=>ms.length-g.1) (0,.slice none 0 0,[]) (az vJ) ⟨eL _,J⟩ ?_;rintro ⟨k,v,acc⟩ ⟨hk,hacc⟩;dsimp only at hk hacc;show bi prog _ (⟨107,aR v++[b2,b1,S],⟨⟨b2,102,[ac ⟨#[]⟩,aK]⟩::⟨b1,49,[ac fn,aG cE ps,FB]⟩::(A++⟨S,59,[.sl l.length (l.map λi=>aA i),am i0]⟩::⟨W,61,[.val (.pointer (some ⟨S,0,none⟩)),G,(aG bB ms),F,aA left,bD ar]⟩::B),⟨v,9,1,acc.length,cj acc⟩::(eg RA vv vars rw)⟩,[(8,ab k),(7,ap v),(0,aE W),(2,ap vv),(4,aE b1),(6,aE b2)]⟩:AS) _;have hal:acc.length=k:=by rw [hacc,nT,gS,kU];omega
 refine go 10 ?_;by_cases hlt:k<ms.length
 ·refine aJ J fP (go 15 ?_);refine aC J (bX bB bB ms lC (λ_=>J) k J J J J Y V j6 fp) (go 2 ?_);refine aW J (bU (r:=cj [ms[k].name]) iy ?_);refine aW J (dS [] pE J J V cO Y (@length_append _ acc [ms[k].name]).symm fy co (e1 (f:=λx=>aO.val (.string x))).symm λv1=>?_);refine go 6 ?_;refine bK J (go 2 ?_);refine ⟨(k+1,v1,acc++[ms[k].name]),⟨Y,by rw [U3 ms k hlt,hacc]⟩,by show ms.length-(k+1)<ms.length-k;omega,az fG⟩
 refine aF J eU (go 11 ?_);refine aC J (lT [] J J J kj) ?_;have hke:acc.length=ms.length:=Y;rw [hke];refine go 10 ?_
 skip
 refine fv (λg:Nat×aN×List aI×Nat=>(⟨107,aR g.2.1++[b2,b1,S],⟨⟨b2,102,[ac ⟨#[]⟩,aK]⟩::⟨b1,49,[ac fn,aG cE ps,FB]⟩::(A++⟨S,59,[.sl l.length (l.map λi=>aA i),am i0]⟩::⟨W,61,[.val (.pointer (some ⟨S,0,none⟩)),G,(aG bB ms),F,aA left,bD ar]⟩::B),⟨g.2.1,9,1,g.2.2.2,cj g.2.2.1⟩::(eg RA vv vars rw)⟩,[(10,ab g.1),(7,ap g.2.1),(0,aE W),(2,ap vv),(4,aE b1),(6,aE b2),(9,ab ms.length)]⟩:AS)) (λg=>g.1 <= ps.length /\ g.2.2.1=nT ms++nI (ps.take g.1) /\ g.2.2.2=g.2.2.1.length) (λg=>ps.length-g.1) (0,v,acc,ms.length) (ao J) ⟨eL _,by show acc=_;rw [hacc,take_of_length_le Y];simp [nI],hke.symm⟩ ?_;clear hal hacc hk hke;rintro ⟨j,v,acc,c⟩ ⟨hj,hacc,hc⟩;dsimp only at hj hacc hc;show bi prog _ (⟨107,aR v++[b2,b1,S],⟨⟨b2,102,[ac ⟨#[]⟩,aK]⟩::⟨b1,49,[ac fn,aG cE ps,FB]⟩::(A++⟨S,59,[.sl l.length (l.map λi=>aA i),am i0]⟩::⟨W,61,[.val (.pointer (some ⟨S,0,none⟩)),G,(aG bB ms),F,aA left,bD ar]⟩::B),⟨v,9,1,c,cj acc⟩::(eg RA vv vars rw)⟩,[(10,ab j),(7,ap v),(0,aE W),(2,ap vv),(4,aE b1),(6,aE b2),(9,ab ms.length)]⟩:AS) _;have hal:acc.length <= ms.length+2*ps.length:=by have h1:=Mo (ps.take j);rw [hacc,length_append,nT,gS];rw [kU] at h1;omega
 refine go 7 ?_;by_cases hlj:j<ps.length
 ·refine aJ J fP (go 12 ?_);refine aC J (bX cE cE ps iQ (λ_=>J) j J J J J Y V iK ga) (go 4 ?_);refine iD J (λhc4=>?_) (λhc4=>?_)
  ·have hmx:=hc4;refine bu [b2,b1,S,W] (aU [0,1,2,3] 12 (go 5 ?_));refine aZ 4 J (bX cE cE ps iQ (λ_=>J) j J J J J Y V iK ga) (aU [5,6,7,8,9] 6 (go 6 ?_));refine aZ 10 J (bX cE cE ps iQ (λ_=>J) j J J J J Y V iK ga) (aU [11,12] 3 (go 3 ?_));refine aY 13 J J (bU (r:=cj [ps[j].name,ps[j].name]) (hps:=(.cons J (.cons J .nil))) Fc ?_);refine aY 14 J J (dS [] pE J J V cO Y (N:=c+2) J (λhn b hb=>gi hn hb) co (e1 (f:=λx=>aO.val (.string x))).symm λv1=>?_);refine aU [15] 0 (go 2 ?_);refine bC (go 4 ?_);refine bK J (go 2 ?_);refine ⟨(j+1,v1,acc++[ps[j].name,ps[j].name],c+2),⟨Y,by show acc++[ps[j].name,ps[j].name]=_;rw [Jy ps j hlj,hacc,if_pos hmx,append_assoc],by simp [hc]⟩,by show ps.length-(j+1)<ps.length-j;omega,az fG⟩
  have hmx:=hc4;refine go 5 ?_;refine bK J (go 2 ?_);refine ⟨(j+1,v,acc,c),⟨Y,by show acc=_;rw [Jy ps j hlj,hacc,if_neg (by rw [hmx];decide),eY],hc⟩,by show ps.length-(j+1)<ps.length-j;omega,az fG⟩
 refine aF J eU (go 10 ?_);have hfin:acc=nT ms++nI ps:=by rw [hacc,take_of_length_le Y]
 have hlen:ms.length <= acc.length:=by rw [hfin,length_append,nT,gS];omega
 subst hc;refine io 7 J ?_;refine go 6 ?_;refine aW J (bo [S] J J V fN J (fa (_::_::A) _ _ _ l i0 _ hi0 hl Y Y) (ba) (ba (h:=by simp [aH.bl])) (λ_=>ba) ?_);rintro r1 s1 ⟨z1,i1,rfl,hy1,hi1,rfl⟩;refine go 7 ?_;refine aC J (m0 (λx=>ac x) acc z1 J J J J Y kj iG) (go 11 λb3=>?_);by_cases hzm:z1<ms.length
 ·refine aJ J fP (go 7 ?_);refine aC J (bX bB bB ms lC (λ_=>J) z1 J J J J Y V j6 fp) (go 2 ?_);by_cases hsz:0<ms[z1].size
  ·refine aJ J fP (go 13 ?_);refine aC J (bX bB bB ms lC (λ_=>J) z1 J J J J Y V j6 fp) (go 2 ?_);refine aW J (bo [S] J J V call62 J (Vk (_::_::_::A) _ RA _ _ S W l i1 vars G (aG bB ms) F left ar ms[z1].size hsz (by have:=hmz _ (getElem_mem hzm);omega) hi1 hl hvl) (ba) (ba (h:=by simp [aH.bl])) (λ_=>ba) ?_);rintro r2 s2 ⟨x2,i2,rfl,hm2,hi2,rfl⟩;refine aW J (bU (hf:=dd bV bf x2 (fR _) J J) o' ?_);refine go 11 ?_;exact ⟨.inr J,_,eS A (⟨W,61,[.val (.pointer (some ⟨S,0,none⟩)),G,(aG bB ms),F,aA left,bD ar]⟩::B) (eg RA vv vars rw) S l i2,(gK (bI.agg (.r (.r .nil))) (bJ J (bv [_] J J xV xD (cG J J)))),ah ek (.refl _),⟨⟨acc[z1],[x2]⟩,i2,J,(by rw [(show acc[z1]=ms[z1].name by simp only [hfin];rw [sG (by rw [nT,gS];exact hzm)];simp [nT])];exact .arr (getElem_mem hzm) hsz hm2),hi2,J⟩⟩
  refine aF J eU (go 13 ?_);exact ⟨.inr J,_,eS A (⟨W,61,[.val (.pointer (some ⟨S,0,none⟩)),G,(aG bB ms),F,aA left,bD ar]⟩::B) (eg RA vv vars rw) S l i1,(gK (bI.agg (.r (.n .nil))) (bJ J (bv [_] J J xV xD (cG J J)))),ah ek (.refl _),⟨⟨acc[z1],[]⟩,i1,J,(by rw [(show acc[z1]=ms[z1].name by simp only [hfin];rw [sG (by rw [nT,gS];exact hzm)];simp [nT])];exact .scalar (getElem_mem hzm) Y),hi1,J⟩⟩
 refine aF J eU (go 24 ?_);exact ⟨.inr J,_,eS A (⟨W,61,[.val (.pointer (some ⟨S,0,none⟩)),G,(aG bB ms),F,aA left,bD ar]⟩::B) (eg RA vv vars rw) S l i1,(gK (bI.agg (.r (.n .nil))) (bJ J (bv [_] J J xV xD (cG J J)))),ah ek (.refl _),⟨⟨acc[z1],[]⟩,i1,J,(WE (show acc[z1]∈nI ps by simp only [hfin];rw [rX (by rw [nT,gS];omega)];exact getElem_mem _)),hi1,J⟩⟩
def m7.snoc{ms:List cn}{ps:List bg}{vars:List aI}{l:List bg}{al:List bq}(h:m7 ms ps vars l al){x:bg}{a:bq}(ha:(x.mutex=true /\ a=⟨true,a.ref,.zero⟩ /\ m5 ms ps vars a.ref)∨(x.mutex=false /\ a=⟨false,.zero,a.expr⟩ /\ fM vars 2 a.expr)):m7 ms ps vars (l++[x]) (al++[a]):=by
 induction h with
 |nil=>
  rcases ha with ⟨h1,h2,h3⟩|⟨h1,h2,h3⟩
  ·rw [h2];exact .mutex h1 h3 .nil
  ·rw [h2];exact .expr h1 h3 .nil
 |mutex hx hr _ ih=>exact .mutex hx hr ih
 |expr hx he _ ih=>exact .expr hx he ih
def PC(A B:List aV)(RA rw:List aQ)(vv:aN)(S W:Nat)(l:List Int)(i0:Nat)(ms:List cn)(ps:List bg)(vars:List aI)(fn:aI)(G F FB:aO)(left:Int)(ar:Bool)(gn:aI)(qs:List bg)(GB:aO)(hi0:i0 <= l.length)(hl:l.length <= 1000000)(hm1:1 <= ms.length)(hm2:ms.length <= 1000)(hmz:∀m,m∈ms -> m.size <= 1000)(hp2:ps.length <= 1000)(hvl:vars.length <= 1000000)(hq2:qs.length <= 1000):aT prog 32 [aE W,.agg [ac fn,aG cE ps,FB],.agg [ac gn,aG cE qs,GB],ap vv] [S] (eS A (⟨W,61,[.val (.pointer (some ⟨S,0,none⟩)),G,(aG bB ms),F,aA left,bD ar]⟩::B) (eg RA vv vars rw) S l i0) (λr s=>∃(al:List bq) (i:Nat),r=.c (aG cg al) /\ m7 ms ps vars qs al /\ i <= l.length /\ s=eS A (⟨W,61,[.val (.pointer (some ⟨S,0,none⟩)),G,(aG bB ms),F,aA left,bD ar]⟩::B) (eg RA vv vars rw) S l i):=by
 refine bM 40 func32 ?_;refine go 19 λb1 b2=>?_;refine gA 152 7 ?_;refine fv (λg:Nat×aN×List bq×Nat=>(⟨40,aR g.2.1++[b2,b1,S],⟨⟨b2,49,[ac gn,aG cE qs,GB]⟩::⟨b1,49,[ac fn,aG cE ps,FB]⟩::(A++⟨S,59,[.sl l.length (l.map λi=>aA i),am g.2.2.2]⟩::⟨W,61,[.val (.pointer (some ⟨S,0,none⟩)),G,(aG bB ms),F,aA left,bD ar]⟩::B),⟨g.2.1,152,7,g.2.2.1.length,g.2.2.1.flatMap cg⟩::(eg RA vv vars rw)⟩,[(10,ab g.1),(9,ap g.2.1),(0,aE W),(3,ap vv),(5,aE b1),(6,aE b2)]⟩:AS)) (λg=>g.1 <= qs.length /\ g.2.2.1.length=g.1 /\ m7 ms ps vars (qs.take g.1) g.2.2.1 /\ g.2.2.2 <= l.length) (λg=>qs.length-g.1) (0,.slice none 0 0,[],i0) (az vJ) ⟨eL _,J,.nil,hi0⟩ ?_;rintro ⟨k,v,acc,ik⟩ ⟨hk,hal,hacc,hik⟩;dsimp only at hk hal hacc hik;show bi prog _ (⟨40,aR v++[b2,b1,S],⟨⟨b2,49,[ac gn,aG cE qs,GB]⟩::⟨b1,49,[ac fn,aG cE ps,FB]⟩::(A++⟨S,59,[.sl l.length (l.map λi=>aA i),am ik]⟩::⟨W,61,[.val (.pointer (some ⟨S,0,none⟩)),G,(aG bB ms),F,aA left,bD ar]⟩::B),⟨v,152,7,acc.length,acc.flatMap cg⟩::(eg RA vv vars rw)⟩,[(10,ab k),(9,ap v),(0,aE W),(3,ap vv),(5,aE b1),(6,aE b2)]⟩:AS) _;refine go 7 ?_;by_cases hlt:k<qs.length
 ·refine aJ J fP (go 12 ?_);refine aC J (bX cE cE qs iQ (λ_=>J) k J J J J Y V iK ga) (go 4 ?_);refine iD J (λhc2=>?_) (λhc2=>?_)
  ·have hmx:=hc2;refine go 5 ?_;refine aW J (bo [S] J J V call30 J (tW (_::_::A) _ (_::RA) _ _ S W l ik ms ps vars fn G F FB left ar hik hl hm1 hm2 hmz hp2 hvl) (ba) (ba (h:=by simp [aH.bl])) (λ_=>ba) ?_);rintro r1 s1 ⟨f1,i1,rfl,hm1,hi1,rfl⟩;refine go 1 ?_;refine cx 29 J (bI.agg (.r (.r (.r (.r (.r (.r (.n .nil)))))))) ?_;refine aW J (bU (hf:=dd cg cg ⟨true,f1,.zero⟩ J J J) y5 ?_);refine aW J (dS [] FS J J V cO Y (@length_append _ acc [⟨true,f1,.zero⟩]).symm fy co (dh (f:=cg)).symm λv2=>?_);refine go 6 ?_;refine bK J (go 2 ?_);refine ⟨(k+1,v2,acc++[⟨true,f1,.zero⟩],i1),⟨Y,by simp [hal],by rw [gX hlt];exact hacc.snoc (.inl ⟨hmx,rfl,hm1⟩),hi1⟩,by show qs.length-(k+1)<qs.length-k;omega,az fG⟩
  have hmx:=hc2;refine go 4 ?_;refine aW J (bo [S] J J V call31 J (uT (_::_::A) _ (_::RA) _ _ S W l ik vars G (aG bB ms) F left ar hik hl hvl) (ba) (ba (h:=by simp [aH.bl])) (λ_=>ba) ?_);rintro r1 s1 ⟨x1,i1,rfl,hm1,hi1,rfl⟩;refine go 1 ?_;refine cx 36 J (bI.agg (.r (.r (.n (.r (.r (.r (.r .nil)))))))) ?_;refine aW J (bU (hf:=dd cg cg ⟨false,.zero,x1⟩ J J J) y5 ?_);refine aW J (dS [] FS J J V cO Y (@length_append _ acc [⟨false,.zero,x1⟩]).symm fy co (dh (f:=cg)).symm λv2=>?_);refine go 6 ?_;refine bK J (go 2 ?_);refine ⟨(k+1,v2,acc++[⟨false,.zero,x1⟩],i1),⟨Y,by simp [hal],by rw [gX hlt];exact hacc.snoc (.inr ⟨hmx,rfl,hm1⟩),hi1⟩,by show qs.length-(k+1)<qs.length-k;omega,az fG⟩
 refine aF J eU (go 10 ?_);refine io 9 J ?_;refine go 5 ?_;exact ⟨.inr J,_,eS A (⟨W,61,[.val (.pointer (some ⟨S,0,none⟩)),G,(aG bB ms),F,aA left,bD ar]⟩::B) (eg RA vv vars rw) S l ik,bJ J (bO J),ah c_ (.refl _),⟨acc,ik,J,by rw [take_of_length_le Y] at hacc;exact hacc,hik,J⟩⟩
end
end Go.Proofs.YtckelpefchdenaaGreatDoor
