import Derived.Test.YtjgeihmhppadaaaGreatDoorVG8J
set_option linter.all false
set_option synthInstance.maxHeartbeats 1000000
set_option synthInstance.maxSize 1000000
set_option maxHeartbeats 3200000
set_option maxRecDepth 100000
namespace Go.Proofs.YtjgeihmhppadaaaGreatDoor
open Go.Proofs.Tryz
open List (length_append length_cons length_nil mem_append mem_cons not_mem_nil append_assoc getElem_mem take_of_length_le)
section
open Go.RowKit
def TX{l:List Tok}{n:aH}{k:Nat}(h:fZ l k [40]=false):ut l n k=(gE l [61] k).bind λ_ k=>(qT l k).bind λe k=>l7 l (.mk 2 n e .zero [] [] []) k:=by
 unfold ut;by_cases h2:fZ l k [61]=true
 ·rw [if_pos h2];unfold gE;rw [if_pos h2];rfl
 rw [if_neg h2];unfold tU rU gE;rw [if_neg oD,if_neg h2];rfl
def XE{l:List Tok}{n:aH}{k:Nat}(h:fZ l k [40]=true):ut l n k=(tU l k).bind λa k=>l7 l (.mk 3 n .zero .zero a [] []) k:=by
 unfold ut;rw [if_neg];intro h2;have h3:=(uM h).2;rw [(uM h2).2] at h3
 revert h3;decide
def Xf(A B:List aV)(rw:List aP)(P:Nat)(l:List Tok)(k b e dp:Nat)(blk:Nat -> cJ (List aE))(hok:gi l)(hk:k<l.length)(he:e<16)(hblk:∀(A B:List aV)(rw:List aP)(P k b e:Nat),k<l.length -> e<16 -> aU prog 67 [aF P] [P] (ba A B rw P l k b e 0 dp) (iW A B rw P l 0 dp (λx=>.c (aB encS x)) e b (blk k))):aU prog 87 [aF P] [P] (ba A B rw P l k b e 0 dp) (iW A B rw P l 0 dp (λx=>.agg (ci x)) e b (ny l blk k)):=by
 have hlen:=hok.len;refine bR 98 func87 ?_;refine go 17 λb1 b2=>?_;refine bF J dt J (ef (_::_::A) _ _ _ l k b e 0 dp [118,97,114] V hok hk) ?_;rintro t1 s1 (⟨rfl,ha1,hm1,rfl,rfl⟩|⟨ha1,rfl,rfl⟩)
 ·refine go 7 ?_;refine bF J mh J (mn (_::_::A) _ _ _ l (k+1) b 0 0 dp hok hm1 V) ?_;rintro t3 s3 ⟨x3,k3,u3,e3,rfl,hr3,hk3,he3,rfl⟩;refine go 9 ?_;refine bF J iN J (iM (_::_::A) _ _ _ l k3 u3 e3 0 dp [61] V hok hk3 he3) ?_;rintro t4 s4 ⟨x4,k4,u4,e4,rfl,hr4,hk4,he4,rfl⟩;refine go 5 ?_;refine bF J qY J (xU (_::_::A) _ _ _ l k4 u4 e4 dp hok hk4 he4) ?_;rintro t5 s5 ⟨x5,k5,u5,e5,rfl,hr5,hk5,he5,rfl⟩;refine go 6 ?_;refine bF J iN J (iM (_::_::A) _ _ _ l k5 u5 e5 0 dp [59] V hok hk5 he5) ?_;rintro t6 s6 ⟨x6,k6,u6,e6,rfl,hr6,hk6,he6,rfl⟩;refine go 10 ?_;have hs:bi 0 b (AW l (k+1)) (.mk 1 x3 x5 .zero [] [] []) k6 u6 e6:=by
   unfold AW l7;exact hr3.bind (hr4.bind (hr5.bind (hr6.bind (bi.pure _ _ _ _))))
  exact ⟨.inr J,_,(ba A B rw P l (k6) (u6) (e6) (0) (dp)),(gK (bL.agg (.r (.r (.r (.r (.r (.r (.r (.n (.n (.n (.n .nil)))))))))))) (bK J (bu [_] J J gX d7 (cH J J)))),ai cq (.refl _),⟨(.mk 1 x3 x5 .zero [] [] []),k6,u6,e6,J,hs.eq (λ_=>by unfold ny;rw [if_pos ha1]),hk6,he6,J⟩⟩
 refine go 7 ?_;refine bF J dt J (ef (_::_::A) _ _ _ l k b e 0 dp [103,111] V hok hk) ?_;rintro t8 s8 (⟨rfl,JT,hm8,rfl,rfl⟩|⟨JT,rfl,rfl⟩)
 ·refine go 7 ?_;refine bF J mh J (mn (_::_::A) _ _ _ l (k+1) b 0 0 dp hok hm8 V) ?_;rintro t10 s10 ⟨x10,k10,u10,e10,rfl,By,hk10,aJa,rfl⟩;refine go 9 ?_;refine bF J call115 J (PS (_::_::A) _ _ _ l k10 u10 e10 dp hok hk10 aJa) ?_;rintro t11 s11 ⟨x11,k11,u11,e11,rfl,aHh,aHb,aId,rfl⟩;refine go 6 ?_;refine bF J iN J (iM (_::_::A) _ _ _ l k11 u11 e11 0 dp [59] V hok aHb aId) ?_;rintro t12 s12 ⟨x12,k12,u12,e12,rfl,aK7,aIv,aK8,rfl⟩;refine go 10 ?_;have hs:bi 0 b (BH l (k+1)) (.mk 4 x10 .zero .zero x11 [] []) k12 u12 e12:=by
   unfold BH l7;exact By.bind (aHh.bind (aK7.bind (bi.pure _ _ _ _)))
  exact ⟨.inr J,_,(ba A B rw P l (k12) (u12) (e12) (0) (dp)),(gK (bL.agg (.r (.r (.r (.r (.r (.n (.r (.n (.r (.n (.n .nil)))))))))))) (bK J (bu [_] J J gX d7 (cH J J)))),ai cq (.refl _),⟨(.mk 4 x10 .zero .zero x11 [] []),k12,u12,e12,J,hs.eq (λ_=>by unfold ny;rw [if_neg zi,if_pos JT]),aIv,aK8,J⟩⟩
 refine go 7 ?_;refine bF J dt J (ef (_::_::A) _ _ _ l k b e 0 dp [108,111,99,107] V hok hk) ?_;rintro t14 s14 (⟨rfl,MT,aQ3,rfl,rfl⟩|⟨MT,rfl,rfl⟩)
 ·refine go 7 ?_;refine bF J call116 J (FY (_::_::A) _ _ _ l (k+1) b 0 dp hok aQ3 V) ?_;rintro t16 s16 ⟨x16,k16,u16,e16,rfl,RT,aK9,aLa,rfl⟩;refine go 8 ?_;refine bF J iN J (iM (_::_::A) _ _ _ l k16 u16 e16 0 dp [59] V hok aK9 aLa) ?_;rintro t17 s17 ⟨x17,k17,u17,e17,rfl,aQ7,aQ8,aQ9,rfl⟩;refine go 10 ?_;have hs:bi 0 b (vR l 5 (k+1)) (.mk 5 a_ .zero x16 [] [] []) k17 u17 e17:=by
   unfold vR l7;exact RT.bind (aQ7.bind (bi.pure _ _ _ _))
  exact ⟨.inr J,_,(ba A B rw P l (k17) (u17) (e17) (0) (dp)),(gK (bL.agg (.r (.r (.r (.r (.r (.n (.r (.r (.n (.n (.n .nil)))))))))))) (bK J (bu [_] J J gX d7 (cH J J)))),ai cq (.refl _),⟨(.mk 5 a_ .zero x16 [] [] []),k17,u17,e17,J,hs.eq (λ_=>by unfold ny;rw [if_neg zi,if_neg x_,if_pos MT]),aQ8,aQ9,J⟩⟩
 refine go 7 ?_;refine bF J dt J (ef (_::_::A) _ _ _ l k b e 0 dp [117,110,108,111,99,107] V hok hk) ?_;rintro t19 s19 (⟨rfl,Rg,aRb,rfl,rfl⟩|⟨Rg,rfl,rfl⟩)
 ·refine go 7 ?_;refine bF J call116 J (FY (_::_::A) _ _ _ l (k+1) b 0 dp hok aRb V) ?_;rintro t21 s21 ⟨x21,k21,u21,e21,rfl,aLb,aLc,aLd,rfl⟩;refine go 8 ?_;refine bF J iN J (iM (_::_::A) _ _ _ l k21 u21 e21 0 dp [59] V hok aLc aLd) ?_;rintro t22 s22 ⟨x22,k22,u22,e22,rfl,aRd,aRe,aRf,rfl⟩;refine go 10 ?_;have hs:bi 0 b (vR l 6 (k+1)) (.mk 6 a_ .zero x21 [] [] []) k22 u22 e22:=by
   unfold vR l7;exact aLb.bind (aRd.bind (bi.pure _ _ _ _))
  exact ⟨.inr J,_,(ba A B rw P l (k22) (u22) (e22) (0) (dp)),(gK (bL.agg (.r (.r (.r (.r (.r (.n (.r (.r (.n (.n (.n .nil)))))))))))) (bK J (bu [_] J J gX d7 (cH J J)))),ai cq (.refl _),⟨(.mk 6 a_ .zero x21 [] [] []),k22,u22,e22,J,hs.eq (λ_=>by unfold ny;rw [if_neg zi,if_neg x_,if_neg EF,if_pos Rg]),aRe,aRf,J⟩⟩
 refine go 7 ?_;refine bF J dt J (ef (_::_::A) _ _ _ l k b e 0 dp [105,102] V hok hk) ?_;rintro t24 s24 (⟨rfl,aH6,aRg,rfl,rfl⟩|⟨aH6,rfl,rfl⟩)
 ·refine go 7 ?_;refine bF J qY J (xU (_::_::A) _ _ _ l (k+1) b 0 dp hok aRg V) ?_;rintro t26 s26 ⟨x26,k26,u26,e26,rfl,aNn,aRh,aRi,rfl⟩;refine go 9 ?_;refine bF J call67 J (hblk (_::_::A) _ _ _ k26 u26 e26 aRh aRi) ?_;rintro t27 s27 ⟨x27,k27,u27,e27,rfl,IT,aG0,aHi,rfl⟩;refine go 7 ?_;refine bF J dt J (ef (_::_::A) _ _ _ l k27 u27 e27 0 dp [101,108,115,101] V hok aG0) ?_;rintro t28 s28 (⟨rfl,aLe,aRk,rfl,rfl⟩|⟨aLe,rfl,rfl⟩)
  ·refine go 5 ?_;refine bF J call67 J (hblk (_::_::A) _ _ _ (k27+1) u27 0 aRk V) ?_;rintro t30 s30 ⟨x30,k30,u30,e30,rfl,aRm,aRn,aRo,rfl⟩;refine go 12 ?_;have hs:bi 0 b (wI l blk (k+1)) (.mk 7 a_ x26 .zero [] x27 x30) k30 u30 e30:=by
    unfold wI;exact aNn.bind (IT.bind (by unfold xz;rw [if_pos aLe];exact aRm.map (f:=λf=>aE.mk 7 a_ x26 .zero [] x27 f)))
   exact ⟨.inr J,_,(ba A B rw P l (k30) (u30) (e30) (0) (dp)),(gK (bL.agg (.r (.r (.r (.r (.r (.r (.r (.n (.n (.r (.r .nil)))))))))))) (bK J (bu [_] J J gX d7 (cH J J)))),ai cq (.refl _),⟨(.mk 7 a_ x26 .zero [] x27 x30),k30,u30,e30,J,hs.eq Mt,aRn,aRo,J⟩⟩
  refine go 13 ?_;have hs:bi 0 b (wI l blk (k+1)) (.mk 7 a_ x26 .zero [] x27 []) k27 u27 e27:=by
   unfold wI;exact aNn.bind (IT.bind ((bi.pure _ _ _ _).eq λh=>by unfold xz;rw [if_neg (by rw [aLe h];decide)]))
  exact ⟨.inr J,_,(ba A B rw P l (k27) (u27) (e27) (0) (dp)),(gK (bL.agg (.r (.r (.r (.r (.r (.r (.r (.n (.n (.r (.n .nil)))))))))))) (bK J (bu [_] J J gX d7 (cH J J)))),ai cq (.refl _),⟨(.mk 7 a_ x26 .zero [] x27 []),k27,u27,e27,J,hs.eq Mt,aG0,aHi,J⟩⟩
 refine go 7 ?_;refine bF J dt J (ef (_::_::A) _ _ _ l k b e 0 dp [119,104,105,108,101] V hok hk) ?_;rintro t33 s33 (⟨rfl,aI7,aRp,rfl,rfl⟩|⟨aI7,rfl,rfl⟩)
 ·refine go 7 ?_;refine bF J qY J (xU (_::_::A) _ _ _ l (k+1) b 0 dp hok aRp V) ?_;rintro t35 s35 ⟨x35,k35,u35,e35,rfl,L7,aRq,aRr,rfl⟩;refine go 8 ?_;refine bF J call67 J (hblk (_::_::A) _ _ _ k35 u35 e35 aRq aRr) ?_;rintro t36 s36 ⟨x36,k36,u36,e36,rfl,aLf,aJc,aLg,rfl⟩;refine go 12 ?_;have hs:bi 0 b (An l blk (k+1)) (.mk 8 a_ x35 .zero [] x36 []) k36 u36 e36:=by
   unfold An;exact L7.bind (aLf.bind (bi.pure _ _ _ _))
  exact ⟨.inr J,_,(ba A B rw P l (k36) (u36) (e36) (0) (dp)),(gK (bL.agg (.r (.r (.r (.r (.r (.r (.r (.n (.n (.r (.n .nil)))))))))))) (bK J (bu [_] J J gX d7 (cH J J)))),ai cq (.refl _),⟨(.mk 8 a_ x35 .zero [] x36 []),k36,u36,e36,J,hs.eq (λ_=>by unfold ny;rw [if_neg zi,if_neg x_,if_neg EF,if_neg (by rw [Rg rfl];decide),if_neg (by rw [aH6 rfl];decide),if_pos aI7]),aJc,aLg,J⟩⟩
 refine go 7 ?_;refine bF J dt J (ef (_::_::A) _ _ _ l k b e 0 dp [114,101,116,117,114,110] V hok hk) ?_;rintro t38 s38 (⟨rfl,SM,aLh,rfl,rfl⟩|⟨SM,rfl,rfl⟩)
 ·refine go 12 ?_;refine bF J iN J (iM (_::_::A) _ _ _ l (k+1) b 0 0 dp [59] V hok aLh V) ?_;rintro t40 s40 ⟨x40,k40,u40,e40,rfl,aRt,aRu,aRv,rfl⟩;refine go 10 ?_;have hs:bi 0 b (FC l (k+1)) (.mk 9 a_ .zero .zero [] [] []) k40 u40 e40:=by
   unfold FC l7;exact aRt.bind (bi.pure _ _ _ _)
  exact ⟨.inr J,_,(ba A B rw P l (k40) (u40) (e40) (0) (dp)),(gK (bL.agg (.r (.r (.r (.r (.r (.n (.r (.n (.n (.n (.n .nil)))))))))))) (bK J (bu [_] J J gX d7 (cH J J)))),ai cq (.refl _),⟨(.mk 9 a_ .zero .zero [] [] []),k40,u40,e40,J,hs.eq (λ_=>by unfold ny;rw [if_neg zi,if_neg x_,if_neg EF,if_neg (by rw [Rg rfl];decide),if_neg (by rw [aH6 rfl];decide),if_neg (by rw [aI7 rfl];decide),if_pos SM]),aRu,aRv,J⟩⟩
 refine go 7 ?_;refine bF J mh J (mn (_::_::A) _ _ _ l k b e 0 dp hok hk he) ?_;rintro t42 s42 ⟨RC,k42,u42,e42,rfl,aJd,PA,aHj,rfl⟩;refine go 10 ?_;refine bF J iz J (ni (_::_::A) _ _ _ l k42 u42 e42 0 dp [40] V hok PA) ?_;rintro t43 s43 (⟨rfl,aLi,rfl,rfl⟩|⟨aLi,rfl,rfl⟩)
 ·refine go 5 ?_;refine bF J call115 J (PS (_::_::A) _ _ _ l k42 u42 0 dp hok PA V) ?_;rintro t45 s45 ⟨x45,k45,u45,e45,rfl,aRw,aRx,aRy,rfl⟩;refine go 8 ?_;refine bF J iN J (iM (_::_::A) _ _ _ l k45 u45 e45 0 dp [59] V hok aRx aRy) ?_;rintro t46 s46 ⟨x46,k46,u46,e46,rfl,aR0,aR1,aR2,rfl⟩;refine go 10 ?_;have hs:bi e b (xP l k) (.mk 3 RC .zero .zero x45 [] []) k46 u46 e46:=by
   unfold xP;exact aJd.bind (by rw [XE aLi];unfold l7;exact aRw.bind (aR0.bind (bi.pure _ _ _ _)))
  exact ⟨.inr J,_,(ba A B rw P l (k46) (u46) (e46) (0) (dp)),(gK (bL.agg (.r (.r (.r (.r (.r (.n (.r (.n (.r (.n (.n .nil)))))))))))) (bK J (bu [_] J J gX d7 (cH J J)))),ai cq (.refl _),⟨(.mk 3 RC .zero .zero x45 [] []),k46,u46,e46,J,hs.eq Pd,aR1,aR2,J⟩⟩
 refine go 6 ?_;refine bF J iN J (iM (_::_::A) _ _ _ l k42 u42 e42 0 dp [61] V hok PA aHj) ?_;rintro t48 s48 ⟨x48,k48,u48,e48,rfl,aHk,aR3,aR4,rfl⟩;refine go 4 ?_;refine bF J qY J (xU (_::_::A) _ _ _ l k48 u48 e48 dp hok aR3 aR4) ?_;rintro t49 s49 ⟨x49,k49,u49,e49,rfl,aR5,aR6,aR7,rfl⟩;refine go 6 ?_;refine bF J iN J (iM (_::_::A) _ _ _ l k49 u49 e49 0 dp [59] V hok aR6 aR7) ?_;rintro t50 s50 ⟨x50,k50,u50,e50,rfl,BT,aJf,aJg,rfl⟩;refine go 10 ?_;have hs:bi e b (xP l k) (.mk 2 RC x49 .zero [] [] []) k50 u50 e50:=by
  unfold xP;exact aJd.bind (bi.eq (r:=(gE l [61] _).bind λ_ k=>(qT l k).bind λe k=>l7 l (.mk 2 RC e .zero [] [] []) k) (by unfold l7;exact aHk.bind (aR5.bind (BT.bind (bi.pure _ _ _ _)))) λh=>(TX (aLi h)).symm)
 exact ⟨.inr J,_,(ba A B rw P l (k50) (u50) (e50) (0) (dp)),(gK (bL.agg (.r (.r (.r (.r (.r (.r (.r (.n (.n (.n (.n .nil)))))))))))) (bK J (bu [_] J J gX d7 (cH J J)))),ai cq (.refl _),⟨(.mk 2 RC x49 .zero [] [] []),k50,u50,e50,J,hs.eq Pd,aJf,aJg,J⟩⟩
def YL(A B:List aV)(rw:List aP)(P:Nat)(l:List Tok)(k b e:Nat)(hok:gi l)(hk:k<l.length)(he:e<16):aU prog 67 [aF P] [P] (ba A B rw P l k b e 0 24) (iW A B rw P l 0 24 (λx=>.c (aB encS x)) e b (lL l 0 k)):=by
 have hlen:=hok.len;refine bR 47 func67 ?_;refine go 9 ?_;refine bF J iz J (ni (A) _ _ _ l k b e 0 24 [123] V hok hk) ?_;rintro t1 s1 (⟨rfl,ha1,rfl,rfl⟩|⟨ha1,rfl,rfl⟩);focus
  refine go 5 ?_;refine aI J jo (go 6 ?_);refine bF J jk J (jx (A) _ _ _ l k b 0 0 24 3) ?_;rintro t3 s3 ⟨u3,e3,hf3,rfl,rfl⟩;obtain ⟨rfl,rfl⟩:=hf3.1 rfl;refine go 5 ?_;refine bF J iN J (iM (A) _ _ _ l k k 3 0 24 [123] V hok hk V) ?_;rintro t4 s4 ⟨x4,k4,u4,e4,rfl,hr4,hk4,he4,rfl⟩;refine go 8 ?_;refine bP J (go 12 ?_);have hbad:e4≠0 /\ bi 0 b (lL l 0 k) [] k4 u4 e4:=by
   rcases hr4 with ⟨_,rfl,rfl⟩|⟨h,_⟩
   ·exact ⟨V,.err _ _ _ _ _ (by unfold lL;rw [if_pos ha1]) V⟩
   exact absurd h V
  refine f_ 120 11 ?_;refine f9 (λg:List aE×aN×Nat×Nat×Nat=>(⟨47,aR g.2.1++[P],⟨A++⟨P,144,[aB dY l,aA (((g.2.2.1):Nat):Int),aA (((g.2.2.2.1):Nat):Int),aA (((g.2.2.2.2):Nat):Int),ap 0,aA (((25):Nat):Int)]⟩::B,⟨g.2.1,120,11,(g.1).length,(g.1).flatMap encS⟩::rw⟩,[(3,av g.2.1),(0,aF P)]⟩:AS)) (λg=>g.2.2.1<l.length /\ g.2.2.2.2<16 /\ g.2.2.2.2≠0 /\ bi 0 b (lL l 0 k) g.1 g.2.2.1 g.2.2.2.1 g.2.2.2.2) (λg=>if g.2.2.2.2=0 then l.length-g.2.2.1+1 else 0) ([],.slice none 0 0,k4,u4,e4) (bD (λ_ h=>h)) ⟨hk4,he4,hbad.1,hbad.2⟩ ?_
 rotate_left;refine go 15 ?_;refine bF J iN J (iM (A) _ _ _ l k b e 0 24 [123] V hok hk he) ?_;rintro t7 s7 ⟨x7,k7,u7,e7,rfl,hr7,hk7,he7,rfl⟩;refine go 8 ?_;refine bP J (go 12 ?_);have hbad:e7≠0 /\ bi e b (lL l 0 k) [] k7 u7 e7:=by
  rcases hr7 with ⟨h,rfl,rfl⟩|⟨h,h2⟩
  ·exact ⟨h,.skip h _ _ _⟩
  subst h;have hq:=ha1 J;have h9:gE l [123] k=.err k 4:=by unfold gE;rw [if_neg (by rw [hq];decide)]
  rw [h9] at h2;rcases h2 with ⟨h2,_,_⟩|⟨h2,h3⟩
  ·cases h2
  cases h2;exact ⟨h3,.err _ _ _ _ _ (by unfold lL;rw [if_neg (by rw [hq];decide)]) h3⟩
 refine f_ 120 11 ?_;refine f9 (λg:List aE×aN×Nat×Nat×Nat=>(⟨47,aR g.2.1++[P],⟨A++⟨P,144,[aB dY l,aA (((g.2.2.1):Nat):Int),aA (((g.2.2.2.1):Nat):Int),aA (((g.2.2.2.2):Nat):Int),ap 0,aA (((25):Nat):Int)]⟩::B,⟨g.2.1,120,11,(g.1).length,(g.1).flatMap encS⟩::rw⟩,[(3,av g.2.1),(0,aF P)]⟩:AS)) (λg=>g.2.2.1<l.length /\ g.2.2.2.2<16 /\ g.2.2.2.2≠0 /\ bi e b (lL l 0 k) g.1 g.2.2.1 g.2.2.2.1 g.2.2.2.2) (λg=>if g.2.2.2.2=0 then l.length-g.2.2.1+1 else 0) ([],.slice none 0 0,k7,u7,e7) (bD (λ_ h=>h)) ⟨hk7,he7,hbad.1,hbad.2⟩ ?_;all_goals
  rintro ⟨acc,v0,k0,b0,be⟩ ⟨hk0,he0,hz0,hn0⟩;dsimp only at hk0 he0 hz0 hn0;show br prog _ (⟨47,aR v0++[P],⟨A++⟨P,144,[aB dY l,aA (((k0):Nat):Int),aA (((b0):Nat):Int),aA (((be):Nat):Int),ap 0,aA (((25):Nat):Int)]⟩::B,⟨v0,120,11,(acc).length,(acc).flatMap encS⟩::rw⟩,[(3,av v0),(0,aF P)]⟩:AS) _;have h0:=hz0;refine go 7 ?_;refine aG J (sd h0) (go 19 ?_);refine aD J (jq (hr:=J) ((24:Nat):Int)) (go 11 ?_);refine oJ 2 J ?_;refine go 1 ?_;exact ⟨.inr J,_,(ba A B rw P l (k0) (b0) (be) (0) (24)),(bK J (bN J)),ai (.refl _) (.refl _),⟨acc,k0,b0,be,J,hn0,hk0,he0,J⟩⟩
def Rp(A B:List aV)(rw:List aP)(P:Nat)(l:List Tok)(k b e dp:Nat)(st:Nat -> cJ aE)(hdp:dp<24)(hin:∀k,k<l.length -> (st k).In l k)(aNo:∀(A B:List aV)(rw:List aP)(P k b e:Nat),k<l.length -> e<16 -> aU prog 87 [aF P] [P] (ba A B rw P l k b e 0 (dp+1)) (iW A B rw P l 0 (dp+1) (λx=>.agg (ci x)) e b (st k)))(hok:gi l)(hk:k<l.length)(he:e<16):aU prog 67 [aF P] [P] (ba A B rw P l k b e 0 dp) (iW A B rw P l 0 dp (λx=>.c (aB encS x)) e b ((gE l [123] k).bind λ_ k=>kf l st l.length [] k)):=by
 have hlen:=hok.len;refine bR 47 func67 ?_;refine go 9 ?_;refine bF J iz J (ni (A) _ _ _ l k b e 0 dp [123] V hok hk) ?_;rintro t1 s1 (⟨rfl,ha1,rfl,rfl⟩|⟨ha1,rfl,rfl⟩);focus
  refine go 5 ?_;refine aG J (by rw [show ed .eql (dp:Int) 24=some (decide (dp=24)) from ry (n:=24),decide_eq_false Y]) (go 9 ?_);refine bF J iN J (iM (A) _ _ _ l k b 0 0 dp [123] V hok hk V) ?_;rintro t3 s3 ⟨x3,k3,u3,e3,rfl,hr3,hk3,he3,rfl⟩;refine go 8 ?_;refine bP J (go 12 ?_);refine f_ 120 11 ?_;refine f9 (λg:List aE×aN×Nat×Nat×Nat=>(⟨47,aR g.2.1++[P],⟨A++⟨P,144,[aB dY l,aA (((g.2.2.1):Nat):Int),aA (((g.2.2.2.1):Nat):Int),aA (((g.2.2.2.2):Nat):Int),ap 0,aA (((dp+1):Nat):Int)]⟩::B,⟨g.2.1,120,11,(g.1).length,(g.1).flatMap encS⟩::rw⟩,[(3,av g.2.1),(0,aF P)]⟩:AS)) (λg=>g.2.2.1<l.length /\ g.2.2.2.2<16 /\ (g.2.2.2.2=0 -> g.1.length <= g.2.2.1) /\ (g.2.2.2.2≠0 -> bi 0 b ((gE l [123] k).bind λ_ k=>kf l st l.length [] k) g.1 g.2.2.1 g.2.2.2.1 g.2.2.2.2) /\ (g.2.2.2.2=0 -> ∃n,l.length <= n+g.2.2.1 /\ ∀z k' b' e',bi 0 g.2.2.2.1 (kf l st n g.1 g.2.2.1) z k' b' e' -> bi 0 b ((gE l [123] k).bind λ_ k=>kf l st l.length [] k) z k' b' e')) (λg=>if g.2.2.2.2=0 then l.length-g.2.2.1+1 else 0) ([],.slice none 0 0,k3,u3,e3) (bD (λ_ h=>h)) ⟨hk3,he3,λ_=>eT _,λh=>hr3.bind (bi.skip h _ _ _),λh=>⟨l.length,y8 _ _,λz k' b' e' h2=>hr3.bind (by rw [show e3=0 from h];exact h2)⟩⟩ ?_;rintro ⟨acc,v0,k0,b0,be⟩ ⟨hk0,he0,ha0,hn0,hc0⟩;dsimp only at hk0 he0 ha0 hn0 hc0;show br prog _ (⟨47,aR v0++[P],⟨A++⟨P,144,[aB dY l,aA (((k0):Nat):Int),aA (((b0):Nat):Int),aA (((be):Nat):Int),ap 0,aA (((dp+1):Nat):Int)]⟩::B,⟨v0,120,11,(acc).length,(acc).flatMap encS⟩::rw⟩,[(3,av v0),(0,aF P)]⟩:AS) _;by_cases h0:be=0
  ·subst h0;have ha1:=ha0 J;obtain ⟨n0,hn1,hcont⟩:=hc0 rfl;refine go 7 ?_;refine aI J jo (go 2 ?_);refine bF J dt J (oC (A) _ _ _ l k0 b0 0 0 (dp+1) [125] V hok hk0) ?_;rintro t4 s4 (⟨-,DH,CD,rfl,rfl⟩|⟨DH,rfl,rfl⟩)
   ·refine go 16 ?_;refine aD J (jq (dp:Int)) (go 11 ?_);refine oJ 2 J ?_;refine go 1 ?_;obtain ⟨m,rfl⟩:∃m,n0=m+1:=⟨n0-1,Y⟩;exact ⟨.inr J,_,(ba A B rw P l (k0+1) (b0) (0) (0) (dp)),(bK J (bN J)),ai (.refl _) (.refl _),⟨acc,k0+1,b0,0,J,hcont _ _ _ _ (by rw [kf,if_pos DH];exact .ok _ _ _ rfl),CD,V,J⟩⟩
   refine go 11 ?_;refine bF J call87 J (aNo (A) _ _ _ k0 b0 0 hk0 he0) ?_;rintro t7 s7 ⟨x7,k7,u7,e7,rfl,hr7,hk7,he7,rfl⟩;refine aX J (bV (hf:=dc encS ci x7 (mQ _) J J) Co ?_);refine aX J (xe Tryz.t120 192 J J V J J sx aQ J J J J V PF V sW sI (@length_append _ acc [x7]).symm fu cm (dj (f:=encS)).symm λv8=>?_);refine go 3 ?_;obtain ⟨m,rfl⟩:∃m,n0=m+1:=⟨n0-1,Y⟩;have hst:∀z k' b' e',bi e7 u7 (kf l st m (acc++[x7]) k7) z k' b' e' -> bi 0 b ((gE l [123] k).bind λ_ k=>kf l st l.length [] k) z k' b' e':=λz k' b' e' h=>hcont z k' b' e' (by rw [kf,if_neg EC];exact hr7.bind h);have hgo:e7=0 -> k0<k7:=λh=>by have h9:=hin k0 hk0;rw [(hr7.good h).2.1] at h9;exact h9.1
   refine ⟨(acc++[x7],v8,k7,u7,e7),⟨hk7,he7,λh=>?_,λh=>hst _ _ _ _ (.skip h _ _ _),λh=>⟨m,?_,λz k' b' e' h2=>hst _ _ _ _ ?_⟩⟩,?_,bD fD⟩
   ·have:=hgo h;show (acc++[_]).length <= k7;simp;omega
   ·have:=hgo h;show l.length <= m+k7;omega
   ·rw [show e7=0 from h];exact h2
   show (if e7=0 then _ else _)<(if (0:Nat)=0 then _ else _);by_cases h:e7=0
   ·have:=hgo h;rw [if_pos h,if_pos rfl];show l.length-k7+1<l.length-k0+1;omega
   rw [if_neg h,if_pos rfl];show 0<l.length-k0+1;omega
 rotate_left;refine go 15 ?_;refine bF J iN J (iM (A) _ _ _ l k b e 0 dp [123] V hok hk he) ?_;rintro t11 s11 ⟨x11,k11,u11,e11,rfl,aHh,aHb,aId,rfl⟩;refine go 8 ?_;refine bP J (go 12 ?_);refine f_ 120 11 ?_;refine f9 (λg:List aE×aN×Nat×Nat×Nat=>(⟨47,aR g.2.1++[P],⟨A++⟨P,144,[aB dY l,aA (((g.2.2.1):Nat):Int),aA (((g.2.2.2.1):Nat):Int),aA (((g.2.2.2.2):Nat):Int),ap 0,aA (((dp+1):Nat):Int)]⟩::B,⟨g.2.1,120,11,(g.1).length,(g.1).flatMap encS⟩::rw⟩,[(3,av g.2.1),(0,aF P)]⟩:AS)) (λg=>g.2.2.1<l.length /\ g.2.2.2.2<16 /\ (g.2.2.2.2=0 -> g.1.length <= g.2.2.1) /\ (g.2.2.2.2≠0 -> bi e b ((gE l [123] k).bind λ_ k=>kf l st l.length [] k) g.1 g.2.2.1 g.2.2.2.1 g.2.2.2.2) /\ (g.2.2.2.2=0 -> ∃n,l.length <= n+g.2.2.1 /\ ∀z k' b' e',bi 0 g.2.2.2.1 (kf l st n g.1 g.2.2.1) z k' b' e' -> bi e b ((gE l [123] k).bind λ_ k=>kf l st l.length [] k) z k' b' e')) (λg=>if g.2.2.2.2=0 then l.length-g.2.2.1+1 else 0) ([],.slice none 0 0,k11,u11,e11) (bD (λ_ h=>h)) ⟨aHb,aId,λ_=>eT _,λh=>aHh.bind (bi.skip h _ _ _),λh=>⟨l.length,y8 _ _,λz k' b' e' h2=>aHh.bind (by rw [show e11=0 from h];exact h2)⟩⟩ ?_;rintro ⟨acc,v0,k0,b0,be⟩ ⟨hk0,he0,ha0,hn0,hc0⟩;dsimp only at hk0 he0 ha0 hn0 hc0;show br prog _ (⟨47,aR v0++[P],⟨A++⟨P,144,[aB dY l,aA (((k0):Nat):Int),aA (((b0):Nat):Int),aA (((be):Nat):Int),ap 0,aA (((dp+1):Nat):Int)]⟩::B,⟨v0,120,11,(acc).length,(acc).flatMap encS⟩::rw⟩,[(3,av v0),(0,aF P)]⟩:AS) _;by_cases h0:be=0
 ·subst h0;have ha1:=ha0 J;obtain ⟨n0,hn1,hcont⟩:=hc0 rfl;refine go 7 ?_;refine aI J jo (go 2 ?_);refine bF J dt J (oC (A) _ _ _ l k0 b0 0 0 (dp+1) [125] V hok hk0) ?_;rintro t12 s12 (⟨-,aLj,aR9,rfl,rfl⟩|⟨aLj,rfl,rfl⟩)
  ·refine go 16 ?_;refine aD J (jq (dp:Int)) (go 11 ?_);refine oJ 2 J ?_;refine go 1 ?_;obtain ⟨m,rfl⟩:∃m,n0=m+1:=⟨n0-1,Y⟩;exact ⟨.inr J,_,(ba A B rw P l (k0+1) (b0) (0) (0) (dp)),(bK J (bN J)),ai (.refl _) (.refl _),⟨acc,k0+1,b0,0,J,hcont _ _ _ _ (by rw [kf,if_pos aLj];exact .ok _ _ _ rfl),aR9,V,J⟩⟩
  refine go 11 ?_;refine bF J call87 J (aNo (A) _ _ _ k0 b0 0 hk0 he0) ?_;rintro t15 s15 ⟨x15,k15,u15,e15,rfl,aJh,aJi,aLl,rfl⟩;refine aX J (bV (hf:=dc encS ci x15 (mQ _) J J) Co ?_);refine aX J (xe Tryz.t120 192 J J V J J sx aQ J J J J V PF V sW sI (@length_append _ acc [x15]).symm fu cm (dj (f:=encS)).symm λv16=>?_);refine go 3 ?_;obtain ⟨m,rfl⟩:∃m,n0=m+1:=⟨n0-1,Y⟩;have hst:∀z k' b' e',bi e15 u15 (kf l st m (acc++[x15]) k15) z k' b' e' -> bi e b ((gE l [123] k).bind λ_ k=>kf l st l.length [] k) z k' b' e':=λz k' b' e' h=>hcont z k' b' e' (by rw [kf,if_neg (by rw [aLj rfl];decide)];exact aJh.bind h);have hgo:e15=0 -> k0<k15:=λh=>by have h9:=hin k0 hk0;rw [(aJh.good h).2.1] at h9;exact h9.1
  refine ⟨(acc++[x15],v16,k15,u15,e15),⟨aJi,aLl,λh=>?_,λh=>hst _ _ _ _ (.skip h _ _ _),λh=>⟨m,?_,λz k' b' e' h2=>hst _ _ _ _ ?_⟩⟩,?_,bD fD⟩
  ·have:=hgo h;show (acc++[_]).length <= k15;simp;omega
  ·have:=hgo h;show l.length <= m+k15;omega
  ·rw [show e15=0 from h];exact h2
  show (if e15=0 then _ else _)<(if (0:Nat)=0 then _ else _);by_cases h:e15=0
  ·have:=hgo h;rw [if_pos h,if_pos rfl];show l.length-k15+1<l.length-k0+1;omega
  rw [if_neg h,if_pos rfl];show 0<l.length-k0+1;omega
 all_goals
  refine go 7 ?_;refine aG J (sd h0) (go 19 ?_);refine aD J (jq (dp:Int)) (go 11 ?_);refine oJ 2 J ?_;refine go 1 ?_;exact ⟨.inr J,_,(ba A B rw P l (k0) (b0) (be) (0) (dp)),(bK J (bN J)),ai (.refl _) (.refl _),⟨acc,k0,b0,be,J,hn0 h0,hk0,he0,J⟩⟩
def Nr(l:List Tok)(hok:gi l):∀(d:Nat),d <= 24 -> ∀(A B:List aV)(rw:List aP)(P:Nat)(k b e:Nat),k<l.length -> e<16 -> aU prog 67 [aF P] [P] (ba A B rw P l k b e 0 (24-d)) (iW A B rw P l 0 (24-d) (λx=>.c (aB encS x)) e b (lL l d k))
 |0,_,A,B,rw,P,k,b,e,hk,he=>YL A B rw P l k b e hok hk he
 |d+1,hd,A,B,rw,P,k,b,e,hk,he=>by
  have hb:∀k,k<l.length -> (lL l d k).In l k:=λk hk=>FK hok.last d k hk;have h:=Rp A B rw P l k b e (24-(d+1)) (ny l (lL l d)) Y (λk hk=>N9 hok.last hb hk) (λA B rw P k b e hk he=>by
   have h9:=Xf A B rw P l k b e (24-(d+1)+1) (lL l d) hok hk he (λA B rw P k b e hk he=>by
    have h8:=Nr l hok d Y A B rw P k b e hk he;have aj:24-(d+1)+1=24-d:=Y;rw [aj];exact h8)
   exact h9) hok hk he
  exact h
def Qx{P:Program}{U:List Nat}{o:Oper}{st:AS}(r:Int){t:bA}{x:bb}{m:Int}(ho:o.op=.unOp .neg t x)(hx:aw st x=some (an m))(hr:0-m=r)(h1:-9223372036854775808 <= r)(h2:r <= 9223372036854775807):co P U o st (an r):=by
 have h:=Ul (P:=P) (U:=U) ho hx;rw [hr,wrap64 h1 h2] at h;exact h
def rA{P:Program}{U:List Nat}{o:Oper}{st:AS}{x:bb}{t e E:bA}{v:aN}{z n:Nat}{cs:List aO}(A:List aP){B:List aP}(ho:o.op=.call {callee:=.builtin .len,args:=#[x],argTypes:=#[t]})(hx:aw st x=some (av v))(hrow:st.s.rows=A++⟨v,E,z,n,cs⟩::B)(hu:∀w,(underlying t).run P w=.ok (.slice e) w)(hz:0<z:=by decide):co P U o st (an n):=
 iF rfl λa w hs w'=>by
  obtain ⟨us,la,-⟩:=hs.mem.row ⟨v,E,z,n,cs⟩ tF;have hown:=la.row hz;have hv:∃p c,v=.slice p n c:=by
   rcases hown.2 with ⟨h1,h2⟩|⟨g,cap,cur,h1,-⟩
   ·dsimp only at h1 h2;subst h2;exact ⟨_,_,h1⟩
   exact ⟨_,_,h1⟩
  obtain ⟨p,c,rfl⟩:=hv;simp only [execOp,ho,resolve,mI,dE,gH,hs.val hx];simp [go_sem,invoke,builtin,Builtin.len_,hu,goInt]
def bi.bad{α β:Type}{aj b1 b0 k k2 b e:Nat}{r:cJ α}{r':cJ β}{y:β}{x:α}(h:bi aj b1 r' y k b e)(h1:aj≠0)(hr:r=.err b1 aj):bi 0 b0 r x k2 b e:=by
 rcases h with ⟨_,rfl,rfl⟩|⟨h,_⟩
 ·exact .err _ _ _ _ _ hr h1
 exact absurd h h1
def Q3{l:List Tok}{k:Nat}(h:(dm l k).kind≠1):mA l k=.err k 4:=by unfold mA;rw [if_neg h]
def X_(A B:List aV)(rw:List aP)(P:Nat)(l:List Tok)(k b e dp:Nat)(hok:gi l)(hk:k<l.length)(he:e<16):aU prog 66 [aF P] [P] (ba A B rw P l k b e 0 dp) (iW A B rw P l 0 dp (λx=>.c (aB cC x)) e b (rU l (kB l) k)):=by
 have hlen:=hok.len;refine bR 44 func66 ?_;refine go 13 ?_;refine bF J iN J (iM (A) _ _ _ l k b e 0 dp [40] V hok hk he) ?_;rintro t1 s1 ⟨x1,k1,u1,aj,rfl,hr1,hk1,he1,rfl⟩;refine go 6 ?_;refine bF J dt J (oC (A) _ _ _ l k1 u1 aj 0 dp [41] V hok hk1) ?_;rintro cA s2 (⟨rfl,ha2,hm2,rfl,rfl⟩|⟨ha2,rfl,rfl⟩)
 ·refine go 10 ?_;exact ⟨.inr J,_,(ba A B rw P l (k1+1) (u1) (0) (0) (dp)),(gK (bL.c pu) (bK J (bN J))),ai (.refl _) (.refl _),⟨[],k1+1,u1,0,J,hr1.bind Kv,hm2,V,J⟩⟩
 refine go 7 ?_;refine f_ 69 2 ?_;refine f9 (λg:List bg×aN×Nat×Nat×Nat=>(⟨44,aR g.2.1++[P],⟨A++⟨P,144,[aB dY l,aA (((g.2.2.1):Nat):Int),aA (((g.2.2.2.1):Nat):Int),aA (((g.2.2.2.2):Nat):Int),ap 0,aA (((dp):Nat):Int)]⟩::B,⟨g.2.1,69,2,(g.1).length,(g.1).flatMap cC⟩::rw⟩,[(3,av g.2.1),(0,aF P)]⟩:AS)) (λg=>g.2.2.1<l.length /\ g.2.2.2.2<16 /\ (g.2.2.2.2=0 -> g.1.length <= 6) /\ (g.2.2.2.2≠0 -> bi e b (rU l (kB l) k) g.1 g.2.2.1 g.2.2.2.1 g.2.2.2.2) /\ (g.2.2.2.2=0 -> ∃n,l.length <= n+g.2.2.1 /\ ∀z k' b' e',bi 0 g.2.2.2.1 (mg l (kB l) n g.1 g.2.2.1) z k' b' e' -> bi e b (rU l (kB l) k) z k' b' e')) (λg=>if g.2.2.2.2=0 then l.length-g.2.2.1+1 else 0) ([],.slice none 0 0,k1,u1,aj) (bD (λ_ h=>h)) ⟨hk1,he1,λ_=>eT _,λh=>hr1.bind (bi.skip h _ _ _),λh=>⟨l.length,y8 _ _,λz k' b' e' h2=>?_⟩⟩ ?_
 ·have h:aj=0:=h;refine hr1.bind ?_;rw [h,if_neg C9];exact h2
 rintro ⟨acc,v0,k0,b0,be⟩ ⟨hk0,he0,ha0,hn0,hc0⟩;dsimp only at hk0 he0 ha0 hn0 hc0;show br prog _ (⟨44,aR v0++[P],⟨A++⟨P,144,[aB dY l,aA (((k0):Nat):Int),aA (((b0):Nat):Int),aA (((be):Nat):Int),ap 0,aA (((dp):Nat):Int)]⟩::B,⟨v0,69,2,(acc).length,(acc).flatMap cC⟩::rw⟩,[(3,av v0),(0,aF P)]⟩:AS) _;by_cases h0:be=0
 ·subst h0;have ha1:=ha0 J;obtain ⟨n0,hn1,hcont⟩:=hc0 rfl;refine go 7 ?_;refine aI J jo (go 10 ?_);refine aD J (rA [] J J J iO) ?_;by_cases hfull:acc.length=6;focus
   refine aI J (by rw [hfull];rfl) (go 2 ?_);refine bF J iz J (qj (A) _ _ _ l k0 b0 0 0 dp [109,117,116,101,120] V hok hk0) ?_;rintro t6 s6 (⟨-,ha6,rfl,rfl⟩|⟨ha6,rfl,rfl⟩);focus
    refine go 10 ?_;refine bF J jk J (jx (A) _ _ _ l k0 b0 0 0 dp 3) ?_;rintro t8 s8 ⟨u8,e8,hf8,rfl,rfl⟩;obtain ⟨rfl,rfl⟩:=hf8.1 rfl;refine go 5 ?_;refine bF J dt J (ef (A) _ _ _ l k0 k0 3 0 dp [109,117,116,101,120] V hok hk0) ?_;rintro t9 s9 (⟨hz9,-⟩|⟨ha9,rfl,rfl⟩)
    ·exact absurd hz9 V
    refine go 8 λb1=>?_;refine bF J mh J (mn (_::A) _ _ _ l k0 k0 3 0 dp hok hk0 V) ?_;rintro t10 s10 ⟨RC,k42,u42,e42,rfl,By,PA,aHj,rfl⟩;refine go 6 ?_;have hel:bi 0 b0 (kB l acc.length k0) ⟨RC,false⟩ k42 u42 e42:=By.bad V (by unfold kB;rw [if_pos ⟨Y,.inr ha6⟩]);have aH7:e42=0 -> acc.length<6:=λh=>by
     have h9:=(hel.good h).2.1;unfold kB at h9;rw [if_pos ⟨Y,.inr ha6⟩] at h9;cases h9
   rotate_left;focus
    refine go 2 ?_;refine bF J qS J (q8 (A) _ _ _ l k0 b0 0 0 dp 1 hk0) ?_;rintro t16 s16 (⟨-,ha16,rfl,rfl⟩|⟨ha16,rfl,rfl⟩);focus
     refine go 7 ?_;refine bF J jk J (jx (A) _ _ _ l k0 b0 0 0 dp 3) ?_;rintro t18 s18 ⟨u18,e18,aLm,rfl,rfl⟩;obtain ⟨rfl,rfl⟩:=aLm.1 rfl;refine go 5 ?_;refine bF J dt J (ef (A) _ _ _ l k0 k0 3 0 dp [109,117,116,101,120] V hok hk0) ?_;rintro t19 s19 (⟨aLn,-⟩|⟨Rg,rfl,rfl⟩)
     ·exact absurd aLn V
     refine go 8 λb2=>?_;refine bF J mh J (mn (_::A) _ _ _ l k0 k0 3 0 dp hok hk0 V) ?_;rintro t20 s20 ⟨RC,k42,u42,e42,rfl,aHl,PA,aHj,rfl⟩;refine go 6 ?_;have hel:bi 0 b0 (kB l acc.length k0) ⟨RC,false⟩ k42 u42 e42:=aHl.bad V (by unfold kB;rw [if_pos ⟨Y,.inl ha16⟩]);have aH7:e42=0 -> acc.length<6:=λh=>by
      have h9:=(hel.good h).2.1;unfold kB at h9;rw [if_pos ⟨Y,.inl ha16⟩] at h9;cases h9
    rotate_left;refine go 10 ?_;refine bF J dt J (ef (A) _ _ _ l k0 b0 0 0 dp [109,117,116,101,120] V hok hk0) ?_;rintro t27 s27 (⟨-,aJj,hm27,rfl,rfl⟩|⟨aJj,rfl,rfl⟩)
    ·exact absurd aJj (by rw [(ha6 rfl)];decide)
    refine go 8 λb3=>?_;refine bF J mh J (mn (_::A) _ _ _ l k0 b0 0 0 dp hok hk0 he0) ?_;rintro t28 s28 ⟨RC,k42,u42,e42,rfl,aLo,PA,aHj,rfl⟩;refine go 6 ?_;have hel:bi 0 b0 (kB l acc.length k0) ⟨RC,false⟩ k42 u42 e42:=(aLo.map (f:=λs=>bg.mk s false)).eq λ_=>by unfold kB;rw [if_neg OB,if_neg (by rw [aJj rfl];decide)]
    have aH7:e42=0 -> acc.length<6:=λh=>by
     have h9:=(hel.good h).2.1;unfold kB at h9;rw [if_neg OB,if_neg (by rw [aJj rfl];decide),Q3 (ha16 rfl)] at h9;cases h9
  rotate_left 3;refine aG J (by rw [show ed .eql (acc.length:Int) 6=some (decide (acc.length=6)) from ry (n:=6),decide_eq_false hfull]) (go 16 ?_);refine bF J dt J (ef (A) _ _ _ l k0 b0 0 0 dp [109,117,116,101,120] V hok hk0) ?_;rintro t35 s35 (⟨-,aLp,aSb,rfl,rfl⟩|⟨aLp,rfl,rfl⟩)
  ·refine go 8 λb4=>?_;refine bF J mh J (mn (_::A) _ _ _ l (k0+1) b0 0 0 dp hok aSb V) ?_;rintro t36 s36 ⟨x36,k36,u36,e36,rfl,aLf,aJc,aLg,rfl⟩;refine go 6 ?_;have hel:bi 0 b0 (kB l acc.length k0) ⟨x36,true⟩ k36 u36 e36:=(aLf.map (f:=λs=>bg.mk s true)).eq λ_=>by unfold kB;rw [if_neg (by rintro ⟨h,-⟩;omega),if_pos aLp]
   have aH7:e36=0 -> acc.length<6:=λh=>by
    omega
   refine go 2 ?_;refine aX J (bV (hf:=dc cC cC ⟨x36,true⟩ J J J) yg ?_);refine aX J (xe Tryz.t69 24 J J V J J qO aQ J J J J V J V (by unfold maxLen;have:=ha1;omega) (by have:=ha1;omega) (@length_append _ acc [⟨x36,true⟩]).symm fu cm (dj (f:=cC)).symm λv37=>?_);refine go 6 ?_;refine bF J dt J (oC (_::A) _ _ _ l k36 u36 e36 0 dp [44] V hok aJc) ?_;rintro t38 s38 (⟨rfl,SM,aLh,rfl,rfl⟩|⟨SM,rfl,rfl⟩)
   ·refine go 6 ?_;obtain ⟨m,rfl⟩:∃m,n0=m+1:=⟨n0-1,Y⟩;have hin:=F6 (n:=acc.length) hok.last hk0;rw [(hel.good rfl).2.1] at hin;have hin1:=hin.1;refine ⟨(acc++[⟨x36,true⟩],v37,k36+1,u36,0),⟨aLh,Br,λ_=>Oe,λh=>absurd J h,λ_=>⟨m,by show l.length <= m+(k36+1);omega,λz k' b' e' h=>hcont z k' b' e' ?_⟩⟩,by show (if (0:Nat)=0 then _ else _)<(if (0:Nat)=0 then _ else _);rw [if_pos rfl,if_pos rfl];show l.length-(k36+1)+1<l.length-k0+1;omega,bD (h1:=bI) fD⟩;rw [mg];refine hel.bind ?_;rw [if_pos SM];exact h
   refine go 7 ?_;refine bF J iN J (iM (_::A) _ _ _ l k36 u36 e36 0 dp [41] V hok aJc aLg) ?_;rintro t41 s41 ⟨x41,k41,u41,e41,rfl,aSc,aSd,aSe,rfl⟩;refine go 8 ?_;refine oJ 2 J ?_;refine go 5 ?_;obtain ⟨m,rfl⟩:∃m,n0=m+1:=⟨n0-1,Y⟩;exact ⟨.inr J,_,(ba A B rw P l (k41) (u41) (e41) (0) (dp)),(bK J (bN J)),ai bI (.refl _),⟨acc++[⟨x36,true⟩],k41,u41,e41,J,hcont _ _ _ _ (by rw [mg];exact hel.bind ((aSc.map (f:=λ_=>acc++[⟨x36,true⟩])).eq λh=>by rw [if_neg (by rw [SM h];decide)])),aSd,aSe,J⟩⟩
  refine go 8 λb5=>?_;refine bF J mh J (mn (_::A) _ _ _ l k0 b0 0 0 dp hok hk0 he0) ?_;rintro t42 s42 ⟨RC,k42,u42,e42,rfl,aJd,PA,aHj,rfl⟩;refine go 6 ?_;have hel:bi 0 b0 (kB l acc.length k0) ⟨RC,false⟩ k42 u42 e42:=(aJd.map (f:=λs=>bg.mk s false)).eq λ_=>by unfold kB;rw [if_neg (by rintro ⟨h,-⟩;omega),if_neg (by rw [aLp rfl];decide)]
  have aH7:e42=0 -> acc.length<6:=λh=>by
   omega
  all_goals
   refine go 2 ?_;refine aX J (bV (hf:=dc cC cC ⟨RC,false⟩ J J J) yg ?_);refine aX J (xe Tryz.t69 24 J J V J J qO aQ J J J J V J V (by unfold maxLen;have:=ha1;omega) (by have:=ha1;omega) (@length_append _ acc [⟨RC,false⟩]).symm fu cm (dj (f:=cC)).symm λv43=>?_);refine go 6 ?_;refine bF J dt J (oC (_::A) _ _ _ l k42 u42 e42 0 dp [44] V hok PA) ?_;rintro t44 s44 (⟨rfl,aHm,aNp,rfl,rfl⟩|⟨aHm,rfl,rfl⟩)
   ·refine go 6 ?_;obtain ⟨m,rfl⟩:∃m,n0=m+1:=⟨n0-1,Y⟩;have hin:=F6 (n:=acc.length) hok.last hk0;rw [(hel.good rfl).2.1] at hin;have hin1:=hin.1;refine ⟨(acc++[⟨RC,false⟩],v43,k42+1,u42,0),⟨aNp,Br,λ_=>Oe,λh=>absurd J h,λ_=>⟨m,by show l.length <= m+(k42+1);omega,λz k' b' e' h=>hcont z k' b' e' ?_⟩⟩,by show (if (0:Nat)=0 then _ else _)<(if (0:Nat)=0 then _ else _);rw [if_pos rfl,if_pos rfl];show l.length-(k42+1)+1<l.length-k0+1;omega,bD (h1:=bI) fD⟩;rw [mg];refine hel.bind ?_;rw [if_pos aHm];exact h
   refine go 7 ?_;refine bF J iN J (iM (_::A) _ _ _ l k42 u42 e42 0 dp [41] V hok PA aHj) ?_;rintro t47 s47 ⟨x47,k47,u47,e47,rfl,aSf,aSg,aSh,rfl⟩;refine go 8 ?_;refine oJ 2 J ?_;refine go 5 ?_;obtain ⟨m,rfl⟩:∃m,n0=m+1:=⟨n0-1,Y⟩;exact ⟨.inr J,_,(ba A B rw P l (k47) (u47) (e47) (0) (dp)),(bK J (bN J)),ai bI (.refl _),⟨acc++[⟨RC,false⟩],k47,u47,e47,J,hcont _ _ _ _ (by rw [mg];exact hel.bind ((aSf.map (f:=λ_=>acc++[⟨RC,false⟩])).eq λh=>by rw [if_neg (by rw [aHm h];decide)])),aSg,aSh,J⟩⟩
 refine go 7 ?_;refine aG J (sd h0) (go 14 ?_);refine oJ 2 J ?_;refine go 1 ?_;exact ⟨.inr J,_,(ba A B rw P l (k0) (b0) (be) (0) (dp)),(bK J (bN J)),ai (.refl _) (.refl _),⟨acc,k0,b0,be,J,hn0 h0,hk0,he0,J⟩⟩
def JM(A B:List aV)(rw:List aP)(P:Nat)(l:List Tok)(k b e dp:Nat)(hok:gi l)(hk:k<l.length)(he:e<16):aU prog 63 [aF P] [P] (ba A B rw P l k b e 0 dp) (iW A B rw P l 0 dp (λx=>.agg (am x)) e b (Bp l k)):=by
 have hlen:=hok.len;refine bR 45 func63 ?_;refine go 8 λb1=>?_;refine bF J mh J (mn (_::A) _ _ _ l k b e 0 dp hok hk he) ?_;rintro t1 s1 ⟨x1,k1,u1,aj,rfl,hr1,hk1,he1,rfl⟩;refine go 9 λb2=>?_;refine bF J dt J (oC (_::_::A) _ _ _ l k1 u1 aj 0 dp [61] V hok hk1) ?_;rintro cA s2 (⟨rfl,ha2,hm2,rfl,rfl⟩|⟨ha2,rfl,rfl⟩)
 ·refine go 6 ?_;refine bF J dt J (oC (_::_::A) _ _ _ l (k1+1) u1 0 0 dp [45] V hok hm2) ?_;rintro t4 s4 (⟨-,DH,CD,rfl,rfl⟩|⟨DH,rfl,rfl⟩)
  ·refine go 7 ?_;refine bF J qS J (q8 (_::_::A) _ _ _ l ((k1+1)+1) u1 0 0 dp 2 CD) ?_;rintro t5 s5 (⟨-,ha5,rfl,rfl⟩|⟨ha5,rfl,rfl⟩)
   ·refine go 7 ?_;have hreg:=(hok.reg _ (getElem_mem CD)).2.2;have ro:m4 l ((k1+1)+1)=.ok l[(k1+1)+1].num ((k1+1)+1+1):=by unfold m4;rw [if_pos ha5,nX CD]
    refine cB [b1,P] (aa [0,1,2,3,4,5,6,7] 5 (go 9 ?_));refine ac 8 J (bf dY dY l lN (λ_=>J) ((k1+1)+1) J J J J CD V km kr) (cY [(9,true),(10,true),(11,true),(12,false)] 0 (go 5 ?_));refine bH (go 11 ?_);refine aD J (Qx (-((l[(k1+1)+1].num:Nat):Int)) J J Y Y Y) (go 9 ?_);refine bP J (go 7 ?_);have hm:=hok.last.more CD (by rw [ha5];decide);refine go 1 ?_;refine bF J iN J (iM (_::_::A) _ _ _ l (((k1+1)+1)+1) u1 0 0 dp [59] V hok hm V) ?_;rintro t8 s8 ⟨x8,k8,u8,e8,rfl,hr8,hk8,he8,rfl⟩;refine go 9 ?_;exact ⟨.inr J,_,(ba A B rw P l (k8) (u8) (e8) (0) (dp)),(bK J (bu [_] J J isAgg63 jX (cH J J))),ai cq (.refl _),⟨⟨x1,(-((l[(k1+1)+1].num:Nat):Int))⟩,k8,u8,e8,J,hr1.bind (.yes (λ_=>ha2) (.yes (λ_=>DH) (bi.bind (.ok _ _ _ ro) (hr8.map (f:=λ_=>b_.mk x1 (-((l[(k1+1)+1].num:Nat):Int))))))),hk8,he8,J⟩⟩
   refine go 7 ?_;refine bF J jk J (jx (_::_::A) _ _ _ l ((k1+1)+1) u1 0 0 dp 4) ?_;rintro t10 s10 ⟨u10,e10,aSj,rfl,rfl⟩;obtain ⟨rfl,rfl⟩:=aSj.1 rfl;refine go 11 ?_;exact ⟨.inr J,_,(ba A B rw P l ((k1+1)+1) ((k1+1)+1) (4) (0) (dp)),(bK J (bu [_] J J isAgg63 jX (cH J J))),ai cq (.refl _),⟨⟨x1,0⟩,(k1+1)+1,(k1+1)+1,4,J,hr1.bind (.yes (λ_=>ha2) (.yes (λ_=>DH) (bi.bind (x:=0) (k:=0) (.err _ _ _ _ _ (by unfold m4;rw [if_neg (ha5 rfl)]) V) (.skip V _ _ _)))),CD,V,J⟩⟩
  refine go 7 ?_;refine bF J qS J (q8 (_::_::A) _ _ _ l (k1+1) u1 0 0 dp 2 hm2) ?_;rintro t11 s11 (⟨-,aJk,rfl,rfl⟩|⟨aJk,rfl,rfl⟩)
  ·refine go 7 ?_;have hreg:=(hok.reg _ (getElem_mem hm2)).2.2;have ro:m4 l (k1+1)=.ok l[k1+1].num (k1+1+1):=by unfold m4;rw [if_pos aJk,nX hm2]
   refine cB [b1,P] (aa [0,1,2,3,4,5,6,7] 5 (go 9 ?_));refine ac 8 J (bf dY dY l lN (λ_=>J) (k1+1) J J J J hm2 V km kr) (cY [(9,true),(10,true),(11,true),(12,false)] 0 (go 5 ?_));refine bH (go 15 ?_);refine bP J (go 7 ?_);have hm:=hok.last.more hm2 (by rw [aJk];decide);refine go 1 ?_;refine bF J iN J (iM (_::_::A) _ _ _ l ((k1+1)+1) u1 0 0 dp [59] V hok hm V) ?_;rintro t14 s14 ⟨x14,k14,u14,e14,rfl,aLq,aLr,aLs,rfl⟩;refine go 9 ?_;exact ⟨.inr J,_,(ba A B rw P l (k14) (u14) (e14) (0) (dp)),(bK J (bu [_] J J isAgg63 jX (cH J J))),ai cq (.refl _),⟨⟨x1,((l[k1+1].num:Nat):Int)⟩,k14,u14,e14,J,hr1.bind (.yes (λ_=>ha2) (.no (λ_=>EC) (bi.bind (.ok _ _ _ ro) (aLq.map (f:=λ_=>b_.mk x1 ((l[k1+1].num:Nat):Int)))))),aLr,aLs,J⟩⟩
  refine go 7 ?_;refine bF J jk J (jx (_::_::A) _ _ _ l (k1+1) u1 0 0 dp 4) ?_;rintro t16 s16 ⟨u16,e16,aSl,rfl,rfl⟩;obtain ⟨rfl,rfl⟩:=aSl.1 rfl;refine go 11 ?_;exact ⟨.inr J,_,(ba A B rw P l (k1+1) (k1+1) (4) (0) (dp)),(bK J (bu [_] J J isAgg63 jX (cH J J))),ai cq (.refl _),⟨⟨x1,0⟩,k1+1,k1+1,4,J,hr1.bind (.yes (λ_=>ha2) (.no (λ_=>EC) (bi.bind (x:=0) (k:=0) (.err _ _ _ _ _ (by unfold m4;rw [if_neg (aJk rfl)]) V) (.skip V _ _ _)))),hm2,V,J⟩⟩
 refine go 8 ?_;refine bF J iN J (iM (_::_::A) _ _ _ l k1 u1 aj 0 dp [59] V hok hk1 he1) ?_;rintro t18 s18 ⟨x18,k18,u18,e18,rfl,aSm,aSn,aSo,rfl⟩;refine go 9 ?_;exact ⟨.inr J,_,(ba A B rw P l (k18) (u18) (e18) (0) (dp)),(bK J (bu [_] J J isAgg63 jX (cH J J))),ai cq (.refl _),⟨⟨x1,0⟩,k18,u18,e18,J,hr1.bind (.no (λh=>C9) (aSm.map (f:=λ_=>b_.mk x1 0))),aSn,aSo,J⟩⟩
def PH(A B:List aV)(rw:List aP)(P:Nat)(l:List Tok)(k b e dp:Nat)(hok:gi l)(hk:k<l.length)(he:e<16):aU prog 64 [aF P,bC true] [P] (ba A B rw P l k b e 0 dp) (iW A B rw P l 0 dp (λx=>.agg (aT x)) e b (xl l true k)):=by
 have hlen:=hok.len;refine bR 57 func64 ?_;refine go 8 λb1=>?_;refine bF J mh J (mn (_::A) _ _ _ l k b e 0 dp hok hk he) ?_;rintro t1 s1 ⟨x1,k1,u1,aj,rfl,hr1,hk1,he1,rfl⟩;refine go 23 λb2=>?_;refine bF J iN J (iM (_::_::A) _ _ _ l k1 u1 aj 0 dp [59] V hok hk1 he1) ?_;rintro t3 s3 ⟨x3,k3,u3,e3,rfl,hr3,hk3,he3,rfl⟩;refine go 9 ?_;exact ⟨.inr J,_,(ba A B rw P l (k3) (u3) (e3) (0) (dp)),(bK J (bu [_] J J uz gq (cH J J))),ai cq (.refl _),⟨⟨x1,true,0⟩,k3,u3,e3,J,hr1.bind (.no (λh=>by rintro ⟨h,-⟩;cases h) (hr3.map (f:=λ_=>cn.mk x1 true 0))),hk3,he3,J⟩⟩
def Po(A B:List aV)(rw:List aP)(P:Nat)(l:List Tok)(k b e dp:Nat)(hok:gi l)(hk:k<l.length)(he:e<16):aU prog 64 [aF P,bC false] [P] (ba A B rw P l k b e 0 dp) (iW A B rw P l 0 dp (λx=>.agg (aT x)) e b (xl l false k)):=by
 have hlen:=hok.len;refine bR 57 func64 ?_;refine go 8 λb1=>?_;refine bF J mh J (mn (_::A) _ _ _ l k b e 0 dp hok hk he) ?_;rintro t1 s1 ⟨x1,k1,u1,aj,rfl,hr1,hk1,he1,rfl⟩;refine go 13 λb2=>?_;refine bF J dt J (oC (_::_::A) _ _ _ l k1 u1 aj 0 dp [91] V hok hk1) ?_;rintro cA s2 (⟨rfl,ha2,hm2,rfl,rfl⟩|⟨ha2,rfl,rfl⟩)
 ·refine go 8 ?_;refine bF J qS J (q8 (_::_::A) _ _ _ l (k1+1) u1 0 0 dp 2 hm2) ?_;rintro t4 s4 (⟨-,DH,rfl,rfl⟩|⟨DH,rfl,rfl⟩)
  ·refine go 7 ?_;have hreg:=(hok.reg _ (getElem_mem hm2)).2.2;have ro:m4 l (k1+1)=.ok l[k1+1].num (k1+1+1):=by unfold m4;rw [if_pos DH,nX hm2]
   refine cB [b1,P] (aa [0,1,2,3,4,5,6,7] 5 (go 9 ?_));refine ac 8 J (bf dY dY l lN (λ_=>J) (k1+1) J J J J hm2 V km kr) (cY [(9,true),(10,true),(11,true),(12,false)] 0 (go 5 ?_));refine bH (go 4 ?_);rcases (show l[k1+1].num<1∨(¬l[k1+1].num<1 /\ 64<l[k1+1].num)∨(¬l[k1+1].num<1 /\ ¬64<l[k1+1].num) by omega) with hs1|⟨hs1,hs2⟩|⟨hs1,hs2⟩
   ·have hsz:(l[k1+1].num<1∨64<l[k1+1].num):=Y;refine go 2 ?_;refine aI J wB (go 11 ?_);refine bF J jk J (jx (_::_::A) _ _ _ l (k1+1) u1 0 0 dp 3) ?_;rintro t7 s7 ⟨u7,e7,hf7,rfl,rfl⟩;obtain ⟨rfl,rfl⟩:=hf7.1 rfl;refine go 11 ?_;exact ⟨.inr J,_,(ba A B rw P l (k1+1) (k1+1) (3) (0) (dp)),(bK J (bu [_] J J uz gq (cH J J))),ai cq (.refl _),⟨⟨x1,false,l[k1+1].num⟩,k1+1,k1+1,3,J,hr1.bind (.yes (λ_=>⟨J,ha2⟩) (bi.bind (x:=0) (k:=0) (bi.bind (.ok _ _ _ ro) (.yes (λ_=>hsz) (.err _ _ _ _ _ J V))) (.skip V _ _ _))),hm2,V,J⟩⟩
   ·have hsz:(l[k1+1].num<1∨64<l[k1+1].num):=Y;refine go 2 ?_;refine aG J wB (go 3 ?_);refine aI J wB (go 7 ?_);refine bF J jk J (jx (_::_::A) _ _ _ l (k1+1) u1 0 0 dp 3) ?_;rintro t9 s9 ⟨u9,e9,hf9,rfl,rfl⟩;obtain ⟨rfl,rfl⟩:=hf9.1 rfl;refine go 11 ?_;exact ⟨.inr J,_,(ba A B rw P l (k1+1) (k1+1) (3) (0) (dp)),(bK J (bu [_] J J uz gq (cH J J))),ai cq (.refl _),⟨⟨x1,false,l[k1+1].num⟩,k1+1,k1+1,3,J,hr1.bind (.yes (λ_=>⟨J,ha2⟩) (bi.bind (x:=0) (k:=0) (bi.bind (.ok _ _ _ ro) (.yes (λ_=>hsz) (.err _ _ _ _ _ J V))) (.skip V _ _ _))),hm2,V,J⟩⟩
   have hsz:¬(l[k1+1].num<1∨64<l[k1+1].num):=Y;refine go 2 ?_;refine aG J wB (go 3 ?_);refine aG J wB (go 12 ?_);refine bP J (go 6 ?_);have hm:=hok.last.more hm2 (by rw [DH];decide);refine go 1 ?_;refine bF J iN J (iM (_::_::A) _ _ _ l ((k1+1)+1) u1 0 0 dp [93] V hok hm V) ?_;rintro t11 s11 ⟨x11,k11,u11,e11,rfl,aHh,aHb,aId,rfl⟩;refine go 5 ?_;refine bF J iN J (iM (_::_::A) _ _ _ l k11 u11 e11 0 dp [59] V hok aHb aId) ?_;rintro t12 s12 ⟨x12,k12,u12,e12,rfl,aK7,aIv,aK8,rfl⟩;refine go 9 ?_;exact ⟨.inr J,_,(ba A B rw P l (k12) (u12) (e12) (0) (dp)),(bK J (bu [_] J J uz gq (cH J J))),ai cq (.refl _),⟨⟨x1,false,l[k1+1].num⟩,k12,u12,e12,J,hr1.bind (.yes (λ_=>⟨J,ha2⟩) (bi.bind (bi.bind (.ok _ _ _ ro) (.no (λ_=>hsz) (.ok _ _ _ J))) (aHh.bind (aK7.map (f:=λ_=>cn.mk x1 false l[k1+1].num))))),aIv,aK8,J⟩⟩
  refine go 7 ?_;refine bF J jk J (jx (_::_::A) _ _ _ l (k1+1) u1 0 0 dp 4) ?_;rintro t14 s14 ⟨u14,e14,aSp,rfl,rfl⟩;obtain ⟨rfl,rfl⟩:=aSp.1 rfl;refine go 11 ?_;exact ⟨.inr J,_,(ba A B rw P l (k1+1) (k1+1) (4) (0) (dp)),(bK J (bu [_] J J uz gq (cH J J))),ai cq (.refl _),⟨⟨x1,false,0⟩,k1+1,k1+1,4,J,hr1.bind (.yes (λ_=>⟨J,ha2⟩) (bi.bind (x:=0) (k:=0) (bi.bind (x:=0) (k:=0) (.err _ _ _ _ _ (by unfold m4;rw [if_neg (DH rfl)]) V) (.skip V _ _ _)) (.skip V _ _ _))),hm2,V,J⟩⟩
 refine go 9 ?_;refine bF J iN J (iM (_::_::A) _ _ _ l k1 u1 aj 0 dp [59] V hok hk1 he1) ?_;rintro t16 s16 ⟨x16,k16,u16,e16,rfl,RT,aK9,aLa,rfl⟩;refine go 9 ?_;exact ⟨.inr J,_,(ba A B rw P l (k16) (u16) (e16) (0) (dp)),(bK J (bu [_] J J uz gq (cH J J))),ai cq (.refl _),⟨⟨x1,false,0⟩,k16,u16,e16,J,hr1.bind (.no (λh=>by rintro ⟨-,h9⟩;rw [ha2 h] at h9;cases h9) (RT.map (f:=λ_=>cn.mk x1 false 0))),aK9,aLa,J⟩⟩
def gi.of{s:List UInt8}{l:List Tok}(h:ge s=.ok l):gi l:=⟨(Fp h).ends,(Fp h).reg,by have:=(Fp h).few;omega⟩
def qp(s:List UInt8):aY×Nat×Nat:=
 match ge s with
 |.err p e=>(⟨[],[],[]⟩,p,e)
 |.ok l=>match li l with
  |.ok x _=>(x,s.length,0)
  |.err k e=>(⟨[],[],[]⟩,(dm l k).pos,e)
def RE{s:List UInt8}{p e:Nat}(h:ge s=.err p e):qp s=(⟨[],[],[]⟩,p,e):=by unfold qp;rw [h]
def VB{s:List UInt8}{l:List Tok}{k e:Nat}(h:ge s=.ok l)(h2:li l=.err k e)(hk:k<l.length):qp s=(⟨[],[],[]⟩,l[k].pos,e):=by unfold qp;rw [h];dsimp only;rw [h2];dsimp only;rw [nX hk]
def YR{s:List UInt8}{l:List Tok}{x:aY}{k:Nat}(h:ge s=.ok l)(h2:li l=.ok x k):qp s=(x,s.length,0):=by unfold qp;rw [h];dsimp only;rw [h2]
def pz{l:List Tok}{k:Nat}{a b:List UInt8}(ha:gL l k a=true)(hb:gL l k b=true):bytes a=bytes b:=by
 rw [←(IB ha).2,←(IB hb).2]
def UH(bs:List UInt8)(s:aJ):aU prog 30 [.c (.sl bs.length (ca bs))] [] s λt s'=>t=.fd [.agg (dl (qp bs).1),an ((qp bs).2.1:Int),an ((qp bs).2.2:Int)] /\ s'=s:=by
 obtain ⟨bx,rw⟩:=s;refine bR 146 func30 ?_;refine go 10 λb1=>?_;refine aX J (bm [] J J V call58 J (J5 bs _) dJ dJ (λ_=>dJ) ?_);rintro t1 s1 ⟨⟨l,hlx,rfl,hfew⟩|⟨p0,er,hlx,rfl,her⟩,rfl⟩
 ·have hok:=gi.of hlx;have hlen:=hok.len;have hk:0<l.length:=hok.last.1;have he:(0:Nat)<16:=V;refine go 13 ?_;refine aG J jo (go 18 λP b3=>?_);refine f_ 67 3 ?_;refine f_ 60 3 ?_;refine f_ 63 2 ?_;refine f9 (λg:aY×aN×aN×aN×Nat×Nat×Nat=>(⟨146,aR g.2.1++(aR g.2.2.1++(aR g.2.2.2.1++[b3,P,b1])),⟨⟨b3,27,[.val g.2.1,.val g.2.2.1,.val g.2.2.2.1]⟩::⟨P,144,[aB dY l,aA (((g.2.2.2.2.1):Nat):Int),aA (((g.2.2.2.2.2.1):Nat):Int),aA (((g.2.2.2.2.2.2):Nat):Int),ap 0,ap 0]⟩::⟨b1,27,[aK,aK,aK]⟩::bx,⟨g.2.1,63,2,(g.1).globals.length,(g.1).globals.flatMap am⟩::⟨g.2.2.1,60,3,(g.1).mutexes.length,(g.1).mutexes.flatMap aT⟩::⟨g.2.2.2.1,67,3,(g.1).funcs.length,(g.1).funcs.flatMap aZ⟩::rw⟩,[(9,aF P),(8,aF b3),(6,an (bs.length:Int)),(5,.c (aB dY l)),(2,aF b1)]⟩:AS)) (λg=>g.2.2.2.2.1<l.length /\ g.2.2.2.2.2.2<16 /\ (g.2.2.2.2.2.2=0 -> g.1.globals.length <= 16 /\ g.1.mutexes.length <= 12 /\ g.1.funcs.length <= 16) /\ (g.2.2.2.2.2.2≠0 -> bi 0 0 (li l) g.1 g.2.2.2.2.1 g.2.2.2.2.2.1 g.2.2.2.2.2.2) /\ (g.2.2.2.2.2.2=0 -> g.2.2.2.2.2.1=0 /\ ∃n,l.length <= n+g.2.2.2.2.1 /\ ∀z k' b' e',bi 0 0 (lj l n g.1 g.2.2.2.2.1) z k' b' e' -> bi 0 0 (li l) z k' b' e')) (λg=>if g.2.2.2.2.2.2=0 then l.length-g.2.2.2.2.1+1 else 0) (⟨[],[],[]⟩,.slice none 0 0,.slice none 0 0,.slice none 0 0,0,0,0) (bD ue) ⟨hk,he,λ_=>⟨eT _,eT _,eT _⟩,λh=>absurd J h,λ_=>⟨J,l.length,y8 _ _,λz k' b' e' h2=>h2⟩⟩ ?_;rintro ⟨x0,vg,vm,vf,k0,b0,be⟩ ⟨hk0,he0,ha0,hn0,hc0⟩;dsimp only at hk0 he0 ha0 hn0 hc0;show br prog _ (⟨146,aR vg++(aR vm++(aR vf++[b3,P,b1])),⟨⟨b3,27,[.val vg,.val vm,.val vf]⟩::⟨P,144,[aB dY l,aA (((k0):Nat):Int),aA (((b0):Nat):Int),aA (((be):Nat):Int),ap 0,ap 0]⟩::⟨b1,27,[aK,aK,aK]⟩::bx,⟨vg,63,2,(x0).globals.length,(x0).globals.flatMap am⟩::⟨vm,60,3,(x0).mutexes.length,(x0).mutexes.flatMap aT⟩::⟨vf,67,3,(x0).funcs.length,(x0).funcs.flatMap aZ⟩::rw⟩,[(9,aF P),(8,aF b3),(6,an (bs.length:Int)),(5,.c (aB dY l)),(2,aF b1)]⟩:AS) _;by_cases h0:be=0
  ·subst h0;obtain ⟨hl1,hl2,hl3⟩:=ha0 rfl;obtain ⟨rfl,n0,hn1,hcont⟩:=hc0 rfl;refine go 7 ?_;refine aI J jo (go 2 ?_);refine bF J qS J (q8 [_] _ _ _ l k0 0 0 0 0 5 hk0) ?_;rintro t3 s3 (⟨-,ha3,rfl,rfl⟩|⟨ha3,rfl,rfl⟩)
   ·refine go 13 ?_;obtain ⟨m,rfl⟩:∃m,n0=m+1:=⟨n0-1,Y⟩;have hfin:=hcont x0 k0 0 0 (by rw [lj,if_pos ha3];exact .ok _ _ _ rfl);have hgood:li l=.ok x0 k0:=(hfin.good J).2.1;refine go 4 ?_;refine aG J jo (go 7 ?_);refine eD [] 0 J J ?_;refine eD [] 1 J J ?_;refine eD [] 2 J J ?_;refine go 8 ?_;exact ⟨.inr J,_,⟨bx,rw⟩,(ru J (bu [_,_] J J oK oA (cH J J)) (bN J) (bN J)),ai eZ (.refl _),by rw [YR hlx hgood];rfl,J⟩
   refine go 10 ?_;have hk5:¬(dm l k0).kind=5:=ha3 J;refine go 1 ?_;refine bF J iz J (qj [_] _ _ _ l k0 0 0 0 0 [118,97,114] V hok hk0) ?_;rintro t7 s7 (⟨-,ha7,rfl,rfl⟩|⟨ha7,rfl,rfl⟩)
   ·refine go 1 ?_;refine bF J iz J (qj [_] _ _ _ l k0 0 0 0 0 [109,117,116,101,120] V hok hk0) ?_;rintro t8 s8 (⟨-,JT,rfl,rfl⟩|⟨JT,rfl,rfl⟩)
    ·exact absurd (pz JT ha7) V
    refine go 2 ?_;refine bF J iz J (qj [_] _ _ _ l k0 0 0 0 0 [114,109,117,116,101,120] V hok hk0) ?_;rintro t9 s9 (⟨-,ha9,rfl,rfl⟩|⟨ha9,rfl,rfl⟩)
    ·exact absurd (pz ha9 ha7) V
    refine go 2 ?_;refine bF J iz J (qj [_] _ _ _ l k0 0 0 0 0 [102,117,110,99] V hok hk0) ?_;rintro t10 s10 (⟨-,CA,rfl,rfl⟩|⟨CA,rfl,rfl⟩)
    ·exact absurd (pz CA ha7) V
    refine go 8 ?_;by_cases St:x0.globals.length=16
    ·refine go 4 ?_;refine aD J (rA [] J J J mt) ?_;refine aI J (by rw [St];rfl) (go 24 ?_);refine bF J jk J (jx [_] _ _ _ l k0 0 0 0 0 3) ?_;rintro t12 s12 ⟨u12,e12,aLt,rfl,rfl⟩;obtain ⟨rfl,rfl⟩:=aLt.1 rfl;refine go 6 ?_;refine bF J dt J (ef [_] _ _ _ l k0 k0 3 0 0 [118,97,114] V hok hk0) ?_;rintro t13 s13 (⟨aSr,-⟩|⟨ha13,rfl,rfl⟩)
     ·exact absurd aSr V
     refine go 7 ?_;refine bF J dt J (ef [_] _ _ _ l k0 k0 3 0 0 [109,117,116,101,120] V hok hk0) ?_;rintro t15 s15 (⟨aSs,-⟩|⟨aHn,rfl,rfl⟩)
     ·exact absurd aSs V
     refine go 7 ?_;refine bF J dt J (ef [_] _ _ _ l k0 k0 3 0 0 [114,109,117,116,101,120] V hok hk0) ?_;rintro t17 s17 (⟨aSt,-⟩|⟨Th,rfl,rfl⟩)
     ·exact absurd aSt V
     refine go 7 ?_;refine bF J dt J (ef [_] _ _ _ l k0 k0 3 0 0 [102,117,110,99] V hok hk0) ?_;rintro t19 s19 (⟨aLn,-⟩|⟨Rg,rfl,rfl⟩)
     ·exact absurd aLn V
     refine go 6 ?_;refine bF J jk J (jx [_] _ _ _ l k0 k0 3 0 0 4) ?_;rintro t21 s21 ⟨u21,e21,aSu,rfl,rfl⟩;obtain ⟨rfl,rfl⟩:=aSu.2 V;refine go 3 ?_;obtain ⟨m,rfl⟩:∃m,n0=m+1:=⟨n0-1,Y⟩;have hel:bi 0 0 (kE l x0 k0) x0 k0 k0 3:=.err _ _ _ _ _ (by unfold kE;rw [if_pos ha7,if_pos Y]) V;have hst:∀z k' b' e',bi 3 k0 (lj l m x0 k0) z k' b' e' -> bi 0 0 (li l) z k' b' e':=λz k' b' e' h=>hcont z k' b' e' qy;have hgo:3=0 -> k0<k0 /\ k0=0:=λh=>rk;refine ⟨(x0,vg,vm,vf,k0,k0,3),⟨hk0,(show (3:Nat)<16 by decide),λh=>?_,λh=>hst _ _ _ _ (.skip h _ _ _),λh=>⟨(hgo h).2,m,?_,λz k' b' e' h2=>hst _ _ _ _ ?_⟩⟩,?_,bD fD⟩
     ·exact absurd h (show ¬(3:Nat)=0 by decide)
     ·have:=hgo h;show l.length <= m+k0;omega
     ·exact absurd h (show ¬(3:Nat)=0 by decide)
     show (if 3=0 then _ else _)<(if (0:Nat)=0 then _ else _);by_cases h:3=0
     ·have:=hgo h;rw [if_pos h,if_pos rfl];show l.length-k0+1<l.length-k0+1;omega
     rw [if_neg h,if_pos rfl];show 0<l.length-k0+1;omega
    refine go 4 ?_;refine aD J (rA [] J J J mt) ?_;refine aG J (by rw [show ed .eql (x0.globals.length:Int) 16=some (decide (x0.globals.length=16)) from ry (n:=16),decide_eq_false St]) (go 28 ?_);refine bF J dt J (ef [_] _ _ _ l k0 0 0 0 0 [118,97,114] V hok hk0) ?_;rintro t23 s23 (⟨-,aG1,aNq,rfl,rfl⟩|⟨aG1,rfl,rfl⟩)
    ·refine go 4 ?_;refine cB [] (aa [0,2] 6 (go 3 ?_));refine cA 1 3 J ?_ ?_;focus
      refine dO J V (cV [] oe oX) ?_;refine aW 3 J J (bm [P] J J V call63 J (JM [_] _ _ _ l (k0+1) 0 0 0 hok aNq V) dd db wW ?_);rintro t25 s25 ⟨x27,k27,u27,e27,rfl,IT,aG0,aHi,rfl⟩;refine aW 4 J J (bV (hf:=dc am am x27 J J J) pL ?_)
     rotate_left;focus
      refine (bm [P] J J V call63 J (JM [_] _ _ _ l (k0+1) 0 0 0 hok aNq V) dd db wW ?_);rintro t27 s27 ⟨x27,k27,u27,e27,rfl,IT,aG0,aHi,rfl⟩;refine cA 1 4 J ?_ ?_;focus
       refine dO J V (cV [] oe oX) ?_;refine aW 4 J J (bV (hf:=dc am am x27 J J J) pL ?_)
      rotate_left;refine (bV (hf:=dc am am x27 J J J) pL ?_);refine aW 1 J J (dO J V (cV [] oe oX) ?_)
     all_goals
      refine aW 5 J J (dQ [] rC J J V sW sI (@length_append _ x0.globals [x27]).symm Em cm (dj (f:=am)).symm λv29=>?_);refine cY [(6,true),(7,false)] 0 (go 3 ?_);refine bH (go 2 ?_);obtain ⟨m,rfl⟩:∃m,n0=m+1:=⟨n0-1,Y⟩;have hel:bi 0 0 (kE l x0 k0) {x0 with globals:=x0.globals++[x27]} k27 u27 e27:=(IT.map (f:=λg=>{x0 with globals:=x0.globals++[g]})).eq λ_=>by unfold kE;rw [if_pos ha7,if_neg Y]
      have hst:∀z k' b' e',bi e27 u27 (lj l m {x0 with globals:=x0.globals++[x27]} k27) z k' b' e' -> bi 0 0 (li l) z k' b' e':=λz k' b' e' h=>hcont z k' b' e' qy;have hgo:e27=0 -> k0<k27 /\ u27=0:=λh=>rk;refine ⟨({x0 with globals:=x0.globals++[x27]},v29,vm,vf,k27,u27,e27),⟨aG0,aHi,λh=>?_,λh=>hst _ _ _ _ (.skip h _ _ _),λh=>⟨(hgo h).2,m,?_,λz k' b' e' h2=>hst _ _ _ _ ?_⟩⟩,?_,bD fD⟩
      ·simp;omega
      ·have:=hgo h;show l.length <= m+k27;omega
      ·rw [show e27=0 from h,show u27=0 from (hgo h).2];exact h2
      show (if e27=0 then _ else _)<(if (0:Nat)=0 then _ else _);by_cases h:e27=0
      ·have:=hgo h;rw [if_pos h,if_pos rfl];show l.length-k27+1<l.length-k0+1;omega
      rw [if_neg h,if_pos rfl];show 0<l.length-k0+1;omega
    exact absurd (aG1 J) (by rw [ha7];decide)
   refine go 1 ?_;refine bF J iz J (qj [_] _ _ _ l k0 0 0 0 0 [109,117,116,101,120] V hok hk0) ?_;rintro t30 s30 (⟨-,ST,rfl,rfl⟩|⟨ST,rfl,rfl⟩)
   ·refine go 5 ?_;refine bF J iz J (qj [_] _ _ _ l k0 0 0 0 0 [102,117,110,99] V hok hk0) ?_;rintro t31 s31 (⟨-,aNr,rfl,rfl⟩|⟨aNr,rfl,rfl⟩)
    ·exact absurd (pz aNr ST) V
    refine go 9 ?_;by_cases BY:x0.mutexes.length=12
    ·refine go 11 ?_;refine aD J (rA [_] J J J mS) ?_;refine aI J (by rw [BY];rfl) (go 16 ?_);refine bF J jk J (jx [_] _ _ _ l k0 0 0 0 0 3) ?_;rintro t33 s33 ⟨u33,e33,aSv,rfl,rfl⟩;obtain ⟨rfl,rfl⟩:=aSv.1 rfl;refine go 6 ?_;refine bF J dt J (ef [_] _ _ _ l k0 k0 3 0 0 [118,97,114] V hok hk0) ?_;rintro t34 s34 (⟨aSw,-⟩|⟨ha34,rfl,rfl⟩)
     ·exact absurd aSw V
     refine go 7 ?_;refine bF J dt J (ef [_] _ _ _ l k0 k0 3 0 0 [109,117,116,101,120] V hok hk0) ?_;rintro t36 s36 (⟨aSx,-⟩|⟨ha36,rfl,rfl⟩)
     ·exact absurd aSx V
     refine go 7 ?_;refine bF J dt J (ef [_] _ _ _ l k0 k0 3 0 0 [114,109,117,116,101,120] V hok hk0) ?_;rintro t38 s38 (⟨aSy,-⟩|⟨SM,rfl,rfl⟩)
     ·exact absurd aSy V
     refine go 7 ?_;refine bF J dt J (ef [_] _ _ _ l k0 k0 3 0 0 [102,117,110,99] V hok hk0) ?_;rintro t40 s40 (⟨aSz,-⟩|⟨ha40,rfl,rfl⟩)
     ·exact absurd aSz V
     refine go 6 ?_;refine bF J jk J (jx [_] _ _ _ l k0 k0 3 0 0 4) ?_;rintro t42 s42 ⟨u42,e42,aS0,rfl,rfl⟩;obtain ⟨rfl,rfl⟩:=aS0.2 V;refine go 3 ?_;obtain ⟨m,rfl⟩:∃m,n0=m+1:=⟨n0-1,Y⟩;have hel:bi 0 0 (kE l x0 k0) x0 k0 k0 3:=.err _ _ _ _ _ (by unfold kE;rw [if_neg tj,if_pos ST,if_pos Y]) V;have hst:∀z k' b' e',bi 3 k0 (lj l m x0 k0) z k' b' e' -> bi 0 0 (li l) z k' b' e':=λz k' b' e' h=>hcont z k' b' e' qy;have hgo:3=0 -> k0<k0 /\ k0=0:=λh=>rk;refine ⟨(x0,vg,vm,vf,k0,k0,3),⟨hk0,(show (3:Nat)<16 by decide),λh=>?_,λh=>hst _ _ _ _ (.skip h _ _ _),λh=>⟨(hgo h).2,m,?_,λz k' b' e' h2=>hst _ _ _ _ ?_⟩⟩,?_,bD fD⟩
     ·exact absurd h (show ¬(3:Nat)=0 by decide)
     ·have:=hgo h;show l.length <= m+k0;omega
     ·exact absurd h (show ¬(3:Nat)=0 by decide)
     show (if 3=0 then _ else _)<(if (0:Nat)=0 then _ else _);by_cases h:3=0
     ·have:=hgo h;rw [if_pos h,if_pos rfl];show l.length-k0+1<l.length-k0+1;omega
     rw [if_neg h,if_pos rfl];show 0<l.length-k0+1;omega
    refine go 11 ?_;refine aD J (rA [_] J J J mS) ?_;refine aG J PT (go 20 ?_);refine bF J dt J (ef [_] _ _ _ l k0 0 0 0 0 [118,97,114] V hok hk0) ?_;rintro t44 s44 (⟨-,aHm,aNp,rfl,rfl⟩|⟨aHm,rfl,rfl⟩)
    ·exact absurd (pz aHm ST) V
    refine go 7 ?_;refine bF J dt J (ef [_] _ _ _ l k0 0 0 0 0 [109,117,116,101,120] V hok hk0) ?_;rintro t46 s46 (⟨-,aNs,aNt,rfl,rfl⟩|⟨aNs,rfl,rfl⟩)
    ·refine go 4 ?_;refine cB [] (aa [0,2] 6 (go 3 ?_));refine cA 1 3 J ?_ ?_;focus
      refine dO J V (cV [] j_ j8) ?_;refine aW 3 J J (bm [P] J J V call64 J (Po [_] _ _ _ l (k0+1) 0 0 0 hok aNt V) dd db wW ?_);rintro t48 s48 ⟨x50,k50,u50,e50,rfl,BT,aJf,aJg,rfl⟩;refine aW 4 J J (bV (hf:=dc aT aT x50 J J J) ki ?_)
     rotate_left;focus
      refine (bm [P] J J V call64 J (Po [_] _ _ _ l (k0+1) 0 0 0 hok aNt V) dd db wW ?_);rintro t50 s50 ⟨x50,k50,u50,e50,rfl,BT,aJf,aJg,rfl⟩;refine cA 1 4 J ?_ ?_;focus
       refine dO J V (cV [] j_ j8) ?_;refine aW 4 J J (bV (hf:=dc aT aT x50 J J J) ki ?_)
      rotate_left;refine (bV (hf:=dc aT aT x50 J J J) ki ?_);refine aW 1 J J (dO J V (cV [] j_ j8) ?_)
     all_goals
      refine aW 5 J J (dQ [_] uo J J V sW sI (@length_append _ x0.mutexes [x50]).symm Em cm (dj (f:=aT)).symm λv52=>?_);refine cY [(6,true),(7,false)] 0 (go 3 ?_);refine bH (go 2 ?_);obtain ⟨m,rfl⟩:∃m,n0=m+1:=⟨n0-1,Y⟩;have hel:bi 0 0 (kE l x0 k0) {x0 with mutexes:=x0.mutexes++[x50]} k50 u50 e50:=(BT.map (f:=λg=>{x0 with mutexes:=x0.mutexes++[g]})).eq λ_=>by unfold kE;rw [if_neg tj,if_pos ST,if_neg Y]
      have hst:∀z k' b' e',bi e50 u50 (lj l m {x0 with mutexes:=x0.mutexes++[x50]} k50) z k' b' e' -> bi 0 0 (li l) z k' b' e':=λz k' b' e' h=>hcont z k' b' e' qy;have hgo:e50=0 -> k0<k50 /\ u50=0:=λh=>rk;refine ⟨({x0 with mutexes:=x0.mutexes++[x50]},vg,v52,vf,k50,u50,e50),⟨aJf,aJg,λh=>?_,λh=>hst _ _ _ _ (.skip h _ _ _),λh=>⟨(hgo h).2,m,?_,λz k' b' e' h2=>hst _ _ _ _ ?_⟩⟩,?_,bD fD⟩
      ·simp;omega
      ·have:=hgo h;show l.length <= m+k50;omega
      ·rw [show e50=0 from h,show u50=0 from (hgo h).2];exact h2
      show (if e50=0 then _ else _)<(if (0:Nat)=0 then _ else _);by_cases h:e50=0
      ·have:=hgo h;rw [if_pos h,if_pos rfl];show l.length-k50+1<l.length-k0+1;omega
      rw [if_neg h,if_pos rfl];show 0<l.length-k0+1;omega
    exact absurd (aNs J) (by rw [ST];decide)
   refine go 2 ?_;refine bF J iz J (qj [_] _ _ _ l k0 0 0 0 0 [114,109,117,116,101,120] V hok hk0) ?_;rintro t53 s53 (⟨-,Nd,rfl,rfl⟩|⟨Nd,rfl,rfl⟩)
   ·refine go 2 ?_;refine bF J iz J (qj [_] _ _ _ l k0 0 0 0 0 [102,117,110,99] V hok hk0) ?_;rintro t54 s54 (⟨-,aNu,rfl,rfl⟩|⟨aNu,rfl,rfl⟩)
    ·exact absurd (pz aNu Nd) V
    refine go 9 ?_;by_cases BY:x0.mutexes.length=12
    ·refine go 11 ?_;refine aD J (rA [_] J J J mS) ?_;refine aI J (by rw [BY];rfl) (go 16 ?_);refine bF J jk J (jx [_] _ _ _ l k0 0 0 0 0 3) ?_;rintro t56 s56 ⟨u56,e56,aS1,rfl,rfl⟩;obtain ⟨rfl,rfl⟩:=aS1.1 rfl;refine go 6 ?_;refine bF J dt J (ef [_] _ _ _ l k0 k0 3 0 0 [118,97,114] V hok hk0) ?_;rintro t57 s57 (⟨aS2,-⟩|⟨ha57,rfl,rfl⟩)
     ·exact absurd aS2 V
     refine go 7 ?_;refine bF J dt J (ef [_] _ _ _ l k0 k0 3 0 0 [109,117,116,101,120] V hok hk0) ?_;rintro t59 s59 (⟨aS3,-⟩|⟨ha59,rfl,rfl⟩)
     ·exact absurd aS3 V
     refine go 7 ?_;refine bF J dt J (ef [_] _ _ _ l k0 k0 3 0 0 [114,109,117,116,101,120] V hok hk0) ?_;rintro t61 s61 (⟨aS4,-⟩|⟨ha61,rfl,rfl⟩)
     ·exact absurd aS4 V
     refine go 7 ?_;refine bF J dt J (ef [_] _ _ _ l k0 k0 3 0 0 [102,117,110,99] V hok hk0) ?_;rintro t63 s63 (⟨aS5,-⟩|⟨ha63,rfl,rfl⟩)
     ·exact absurd aS5 V
     refine go 6 ?_;refine bF J jk J (jx [_] _ _ _ l k0 k0 3 0 0 4) ?_;rintro t65 s65 ⟨u65,e65,aS6,rfl,rfl⟩;obtain ⟨rfl,rfl⟩:=aS6.2 V;refine go 3 ?_;obtain ⟨m,rfl⟩:∃m,n0=m+1:=⟨n0-1,Y⟩;have hel:bi 0 0 (kE l x0 k0) x0 k0 k0 3:=.err _ _ _ _ _ (by unfold kE;rw [if_neg tj,if_neg AC,if_pos Nd,if_pos Y]) V;have hst:∀z k' b' e',bi 3 k0 (lj l m x0 k0) z k' b' e' -> bi 0 0 (li l) z k' b' e':=λz k' b' e' h=>hcont z k' b' e' qy;have hgo:3=0 -> k0<k0 /\ k0=0:=λh=>rk;refine ⟨(x0,vg,vm,vf,k0,k0,3),⟨hk0,(show (3:Nat)<16 by decide),λh=>?_,λh=>hst _ _ _ _ (.skip h _ _ _),λh=>⟨(hgo h).2,m,?_,λz k' b' e' h2=>hst _ _ _ _ ?_⟩⟩,?_,bD fD⟩
     ·exact absurd h (show ¬(3:Nat)=0 by decide)
     ·have:=hgo h;show l.length <= m+k0;omega
     ·exact absurd h (show ¬(3:Nat)=0 by decide)
     show (if 3=0 then _ else _)<(if (0:Nat)=0 then _ else _);by_cases h:3=0
     ·have:=hgo h;rw [if_pos h,if_pos rfl];show l.length-k0+1<l.length-k0+1;omega
     rw [if_neg h,if_pos rfl];show 0<l.length-k0+1;omega
    refine go 11 ?_;refine aD J (rA [_] J J J mS) ?_;refine aG J PT (go 20 ?_);refine bF J dt J (ef [_] _ _ _ l k0 0 0 0 0 [118,97,114] V hok hk0) ?_;rintro t67 s67 (⟨-,aNv,hm67,rfl,rfl⟩|⟨aNv,rfl,rfl⟩)
    ·exact absurd (pz aNv Nd) V
    refine go 7 ?_;refine bF J dt J (ef [_] _ _ _ l k0 0 0 0 0 [109,117,116,101,120] V hok hk0) ?_;rintro t69 s69 (⟨-,aNw,hm69,rfl,rfl⟩|⟨aNw,rfl,rfl⟩)
    ·exact absurd (pz aNw Nd) V
    refine go 7 ?_;refine bF J dt J (ef [_] _ _ _ l k0 0 0 0 0 [114,109,117,116,101,120] V hok hk0) ?_;rintro t71 s71 (⟨-,aNx,aNy,rfl,rfl⟩|⟨aNx,rfl,rfl⟩)
    ·refine go 4 ?_;refine cB [] (aa [0,2] 6 (go 3 ?_));refine cA 1 3 J ?_ ?_;focus
      refine dO J V (cV [] j_ j8) ?_;refine aW 3 J J (bm [P] J J V call64 J (PH [_] _ _ _ l (k0+1) 0 0 0 hok aNy V) dd db wW ?_);rintro t73 s73 ⟨x75,k75,u75,e75,rfl,aNz,aN0,aN1,rfl⟩;refine aW 4 J J (bV (hf:=dc aT aT x75 J J J) ki ?_)
     rotate_left;focus
      refine (bm [P] J J V call64 J (PH [_] _ _ _ l (k0+1) 0 0 0 hok aNy V) dd db wW ?_);rintro t75 s75 ⟨x75,k75,u75,e75,rfl,aNz,aN0,aN1,rfl⟩;refine cA 1 4 J ?_ ?_;focus
       refine dO J V (cV [] j_ j8) ?_;refine aW 4 J J (bV (hf:=dc aT aT x75 J J J) ki ?_)
      rotate_left;refine (bV (hf:=dc aT aT x75 J J J) ki ?_);refine aW 1 J J (dO J V (cV [] j_ j8) ?_)
     all_goals
      refine aW 5 J J (dQ [_] uo J J V sW sI (@length_append _ x0.mutexes [x75]).symm Em cm (dj (f:=aT)).symm λv77=>?_);refine cY [(6,true),(7,false)] 0 (go 3 ?_);refine bH (go 2 ?_);obtain ⟨m,rfl⟩:∃m,n0=m+1:=⟨n0-1,Y⟩;have hel:bi 0 0 (kE l x0 k0) {x0 with mutexes:=x0.mutexes++[x75]} k75 u75 e75:=(aNz.map (f:=λg=>{x0 with mutexes:=x0.mutexes++[g]})).eq λ_=>by unfold kE;rw [if_neg tj,if_neg AC,if_pos Nd,if_neg Y]
      have hst:∀z k' b' e',bi e75 u75 (lj l m {x0 with mutexes:=x0.mutexes++[x75]} k75) z k' b' e' -> bi 0 0 (li l) z k' b' e':=λz k' b' e' h=>hcont z k' b' e' qy;have hgo:e75=0 -> k0<k75 /\ u75=0:=λh=>rk;refine ⟨({x0 with mutexes:=x0.mutexes++[x75]},vg,v77,vf,k75,u75,e75),⟨aN0,aN1,λh=>?_,λh=>hst _ _ _ _ (.skip h _ _ _),λh=>⟨(hgo h).2,m,?_,λz k' b' e' h2=>hst _ _ _ _ ?_⟩⟩,?_,bD fD⟩
      ·simp;omega
      ·have:=hgo h;show l.length <= m+k75;omega
      ·rw [show e75=0 from h,show u75=0 from (hgo h).2];exact h2
      show (if e75=0 then _ else _)<(if (0:Nat)=0 then _ else _);by_cases h:e75=0
      ·have:=hgo h;rw [if_pos h,if_pos rfl];show l.length-k75+1<l.length-k0+1;omega
      rw [if_neg h,if_pos rfl];show 0<l.length-k0+1;omega
    exact absurd (aNx J) (by rw [Nd];decide)
   refine go 2 ?_;refine bF J iz J (qj [_] _ _ _ l k0 0 0 0 0 [102,117,110,99] V hok hk0) ?_;rintro t78 s78 (⟨-,PB,rfl,rfl⟩|⟨PB,rfl,rfl⟩)
   ·refine go 10 ?_;by_cases aIg:x0.funcs.length=16
    ·refine go 19 ?_;refine aD J (rA [_,_] J J J fU) ?_;refine aI J (by rw [aIg];rfl) (go 7 ?_);refine bF J jk J (jx [_] _ _ _ l k0 0 0 0 0 3) ?_;rintro t80 s80 ⟨u80,e80,aS7,rfl,rfl⟩;obtain ⟨rfl,rfl⟩:=aS7.1 rfl;refine go 6 ?_;refine bF J dt J (ef [_] _ _ _ l k0 k0 3 0 0 [118,97,114] V hok hk0) ?_;rintro t81 s81 (⟨aS8,-⟩|⟨ha81,rfl,rfl⟩)
     ·exact absurd aS8 V
     refine go 7 ?_;refine bF J dt J (ef [_] _ _ _ l k0 k0 3 0 0 [109,117,116,101,120] V hok hk0) ?_;rintro t83 s83 (⟨aS9,-⟩|⟨ha83,rfl,rfl⟩)
     ·exact absurd aS9 V
     refine go 7 ?_;refine bF J dt J (ef [_] _ _ _ l k0 k0 3 0 0 [114,109,117,116,101,120] V hok hk0) ?_;rintro t85 s85 (⟨aTa,-⟩|⟨ha85,rfl,rfl⟩)
     ·exact absurd aTa V
     refine go 7 ?_;refine bF J dt J (ef [_] _ _ _ l k0 k0 3 0 0 [102,117,110,99] V hok hk0) ?_;rintro t87 s87 (⟨aTb,-⟩|⟨ha87,rfl,rfl⟩)
     ·exact absurd aTb V
     refine go 6 ?_;refine bF J jk J (jx [_] _ _ _ l k0 k0 3 0 0 4) ?_;rintro t89 s89 ⟨u89,e89,aTc,rfl,rfl⟩;obtain ⟨rfl,rfl⟩:=aTc.2 V;refine go 3 ?_;obtain ⟨m,rfl⟩:∃m,n0=m+1:=⟨n0-1,Y⟩;have hel:bi 0 0 (kE l x0 k0) x0 k0 k0 3:=.err _ _ _ _ _ (by unfold kE;rw [if_neg tj,if_neg AC,if_neg En,if_pos PB,if_pos Y]) V;have hst:∀z k' b' e',bi 3 k0 (lj l m x0 k0) z k' b' e' -> bi 0 0 (li l) z k' b' e':=λz k' b' e' h=>hcont z k' b' e' qy;have hgo:3=0 -> k0<k0 /\ k0=0:=λh=>rk;refine ⟨(x0,vg,vm,vf,k0,k0,3),⟨hk0,(show (3:Nat)<16 by decide),λh=>?_,λh=>hst _ _ _ _ (.skip h _ _ _),λh=>⟨(hgo h).2,m,?_,λz k' b' e' h2=>hst _ _ _ _ ?_⟩⟩,?_,bD fD⟩
     ·exact absurd h (show ¬(3:Nat)=0 by decide)
     ·have:=hgo h;show l.length <= m+k0;omega
     ·exact absurd h (show ¬(3:Nat)=0 by decide)
     show (if 3=0 then _ else _)<(if (0:Nat)=0 then _ else _);by_cases h:3=0
     ·have:=hgo h;rw [if_pos h,if_pos rfl];show l.length-k0+1<l.length-k0+1;omega
     rw [if_neg h,if_pos rfl];show 0<l.length-k0+1;omega
    refine go 19 ?_;refine aD J (rA [_,_] J J J fU) ?_;refine aG J (by rw [show ed .eql (x0.funcs.length:Int) 16=some (decide (x0.funcs.length=16)) from ry (n:=16),decide_eq_false aIg]) (go 11 ?_);refine bF J dt J (ef [_] _ _ _ l k0 0 0 0 0 [118,97,114] V hok hk0) ?_;rintro t91 s91 (⟨-,aN2,hm91,rfl,rfl⟩|⟨aN2,rfl,rfl⟩)
    ·exact absurd (pz aN2 PB) V
    refine go 7 ?_;refine bF J dt J (ef [_] _ _ _ l k0 0 0 0 0 [109,117,116,101,120] V hok hk0) ?_;rintro t93 s93 (⟨-,aN3,hm93,rfl,rfl⟩|⟨aN3,rfl,rfl⟩)
    ·exact absurd (pz aN3 PB) V
    refine go 7 ?_;refine bF J dt J (ef [_] _ _ _ l k0 0 0 0 0 [114,109,117,116,101,120] V hok hk0) ?_;rintro t95 s95 (⟨-,aN4,hm95,rfl,rfl⟩|⟨aN4,rfl,rfl⟩)
    ·exact absurd (pz aN4 PB) V
    refine go 7 ?_;refine bF J dt J (ef [_] _ _ _ l k0 0 0 0 0 [102,117,110,99] V hok hk0) ?_;rintro t97 s97 (⟨-,aN5,aTd,rfl,rfl⟩|⟨aN5,rfl,rfl⟩)
    ·refine go 7 ?_;refine bF J mh J (mn [_] _ _ _ l (k0+1) 0 0 0 0 hok aTd V) ?_;rintro t99 s99 ⟨x99,k99,u99,e99,rfl,aTe,aTf,aTg,rfl⟩;refine go 8 λb4=>?_;refine bF J call66 J (X_ [_,_] _ _ _ l k99 u99 e99 0 hok aTf aTg) ?_;rintro t100 s100 ⟨x100,aTh,aTi,aTj,rfl,aN6,aN7,aN8,rfl⟩;refine go 7 ?_;refine bF J call67 J (Nr l hok 24 (bX _) [_,_] _ _ _ aTh aTi aTj aN7 aN8) ?_;rintro t101 s101 ⟨x101,aHo,aIh,e101,rfl,aN9,aOa,aOb,rfl⟩;refine go 8 ?_;refine aX J (bV (hf:=dc aZ aZ ⟨x99,x100,x101⟩ J J J) uK ?_);refine aX J (dQ [_,_] IW J J V sW sI (@length_append _ x0.funcs [⟨x99,x100,x101⟩]).symm fu cm (dj (f:=aZ)).symm λaTk=>?_);refine go 5 ?_;obtain ⟨m,rfl⟩:∃m,n0=m+1:=⟨n0-1,Y⟩;have hel:bi 0 0 (kE l x0 k0) {x0 with funcs:=x0.funcs++[bB.mk x99 x100 x101]} aHo aIh e101:=((aTe.bind (f:=λn k=>(rU l (kB l) k).bind λp k=>(lL l 24 k).bind λb k=>.ok (bB.mk n p b) k) (aN6.bind (f:=λp k=>(lL l 24 k).bind λb k=>.ok (bB.mk x99 p b) k) (aN9.map (f:=λb=>bB.mk x99 x100 b))):bi _ _ (GG l (k0+1)) _ _ _ _).map (f:=λg=>{x0 with funcs:=x0.funcs++[g]})).eq λ_=>by unfold kE;rw [if_neg tj,if_neg AC,if_neg En,if_pos PB,if_neg Y];rfl
     have hst:∀z k' b' e',bi e101 aIh (lj l m {x0 with funcs:=x0.funcs++[bB.mk x99 x100 x101]} aHo) z k' b' e' -> bi 0 0 (li l) z k' b' e':=λz k' b' e' h=>hcont z k' b' e' qy;have hgo:e101=0 -> k0<aHo /\ aIh=0:=λh=>rk;refine ⟨({x0 with funcs:=x0.funcs++[bB.mk x99 x100 x101]},vg,vm,aTk,aHo,aIh,e101),⟨aOa,aOb,λh=>?_,λh=>hst _ _ _ _ (.skip h _ _ _),λh=>⟨(hgo h).2,m,?_,λz k' b' e' h2=>hst _ _ _ _ ?_⟩⟩,?_,bD (h1:=bI) fD⟩
     ·simp;omega
     ·have:=hgo h;show l.length <= m+aHo;omega
     ·rw [show e101=0 from h,show aIh=0 from (hgo h).2];exact h2
     show (if e101=0 then _ else _)<(if (0:Nat)=0 then _ else _);by_cases h:e101=0
     ·have:=hgo h;rw [if_pos h,if_pos rfl];show l.length-aHo+1<l.length-k0+1;omega
     rw [if_neg h,if_pos rfl];show 0<l.length-k0+1;omega
    exact absurd (aN5 J) (by rw [PB];decide)
   refine go 42 ?_;refine bF J dt J (ef [_] _ _ _ l k0 0 0 0 0 [118,97,114] V hok hk0) ?_;rintro t104 s104 (⟨-,aKi,hm104,rfl,rfl⟩|⟨aKi,rfl,rfl⟩)
   ·exact absurd aKi (by rw [(ha7 rfl)];decide)
   refine go 7 ?_;refine bF J dt J (ef [_] _ _ _ l k0 0 0 0 0 [109,117,116,101,120] V hok hk0) ?_;rintro t106 s106 (⟨-,aKj,hm106,rfl,rfl⟩|⟨aKj,rfl,rfl⟩)
   ·exact absurd aKj (by rw [(ST rfl)];decide)
   refine go 7 ?_;refine bF J dt J (ef [_] _ _ _ l k0 0 0 0 0 [114,109,117,116,101,120] V hok hk0) ?_;rintro t108 s108 (⟨-,aKk,hm108,rfl,rfl⟩|⟨aKk,rfl,rfl⟩)
   ·exact absurd aKk (by rw [(Nd rfl)];decide)
   refine go 7 ?_;refine bF J dt J (ef [_] _ _ _ l k0 0 0 0 0 [102,117,110,99] V hok hk0) ?_;rintro t110 s110 (⟨-,aKl,hm110,rfl,rfl⟩|⟨aKl,rfl,rfl⟩)
   ·exact absurd aKl (by rw [(PB rfl)];decide)
   refine go 6 ?_;refine bF J jk J (jx [_] _ _ _ l k0 0 0 0 0 4) ?_;rintro t112 s112 ⟨u112,e112,aOc,rfl,rfl⟩;obtain ⟨rfl,rfl⟩:=aOc.1 rfl;refine go 3 ?_;obtain ⟨m,rfl⟩:∃m,n0=m+1:=⟨n0-1,Y⟩;have hel:bi 0 0 (kE l x0 k0) x0 k0 k0 4:=.err _ _ _ _ _ (by unfold kE;rw [if_neg tj,if_neg AC,if_neg En,if_neg (by rw [PB rfl];decide)]) V;have hst:∀z k' b' e',bi 4 k0 (lj l m x0 k0) z k' b' e' -> bi 0 0 (li l) z k' b' e':=λz k' b' e' h=>hcont z k' b' e' qy;have hgo:4=0 -> k0<k0 /\ k0=0:=λh=>rk;refine ⟨(x0,vg,vm,vf,k0,k0,4),⟨hk0,(show (4:Nat)<16 by decide),λh=>?_,λh=>hst _ _ _ _ (.skip h _ _ _),λh=>⟨(hgo h).2,m,?_,λz k' b' e' h2=>hst _ _ _ _ ?_⟩⟩,?_,bD fD⟩
   ·exact absurd h (show ¬(4:Nat)=0 by decide)
   ·have:=hgo h;show l.length <= m+k0;omega
   ·exact absurd h (show ¬(4:Nat)=0 by decide)
   show (if 4=0 then _ else _)<(if (0:Nat)=0 then _ else _);by_cases h:4=0
   ·have:=hgo h;rw [if_pos h,if_pos rfl];show l.length-k0+1<l.length-k0+1;omega
   rw [if_neg h,if_pos rfl];show 0<l.length-k0+1;omega
  refine go 7 ?_;refine aG J (sd h0) (go 16 ?_);have aOd:li l=.err b0 be:=by
   rcases hn0 h0 with ⟨h,_⟩|⟨_,⟨_,h,_⟩|⟨h,_⟩⟩
   ·exact absurd J h
   ·exact absurd h h0
   exact h
  have hb0:b0<l.length:=by have h9:(li l).At l 0:=KB hok.last _ _ _ hk;rw [aOd] at h9;exact h9.2.1
  refine go 4 ?_;refine aI J (by simp [ed,h0]) (go 4 ?_);refine cB [b3,P] (aa [0,1,2,3,4,5] 10 (go 7 ?_));refine ac 6 J (bf dY dY l lN (λ_=>J) b0 J J J J hb0 V km kr) (cY [(7,true),(8,true),(9,true),(10,true),(11,true),(12,true),(13,false),(14,true),(15,true)] 0 (go 10 ?_));refine bH (go 3 ?_);exact ⟨.inr J,_,⟨bx,rw⟩,(ru J (gP (bL.agg (.n (.n (.n .nil)))) (bu [_,_] J J oK oA (cH J J))) (bN J) (bN J)),ai eZ eZ,by rw [VB hlx aOd hb0];rfl,J⟩
 refine go 13 ?_;refine aI J (by simp [ed,her]) (go 15 ?_);exact ⟨.inr J,_,⟨bx,rw⟩,(ru J (gP (bL.agg (.n (.n (.n .nil)))) (bu [] J J oK oA (cH J J))) (bN J) (bN J)),ai bI (.refl _),by rw [RE hlx];rfl,J⟩
def Xb{P:Program}{ops:Array Oper}{o1 o2:Oper}{l:List Oper}{Q:Exit -> AS -> Prop}{n gD gt:Nat}{T:List Nat}{s:aJ}{ts:List (Nat×AT)}{t e:bA}(i:TypeInfo){z:aN}{len:Nat}{parts:Array (Nat×bb)}{ps:List (Nat×AT)}{zc r:List aO}
  (ho:o1.op=.buildSlice t len parts) (hd:o1.dst=some gD) (hg:o1.guard=none) (hn:gD<n) (hps:pp ⟨n,T,s,ts⟩ parts.toList ps)
  (hu:P.underlying t=some (.slice e)) (hi:P.info? e=some i) (hz:i.zero=some z) (hsmall:¬len*i.size>2 ^ 24) (hpos:¬len*i.size=0) (hzc:(((Array.range (len*i.size)).map (z.cells[·% z.cells.size]!)).toList.all (·.oneCell'))=true) (hzr:((Array.range (len*i.size)).map (z.cells[·% z.cells.size]!)).toList.map .val=zc)
  (hf:nK (λk=>some (k*i.size,i.size)) zc ps=some r) (ho2:o2.op=.convert t t (.tmp gD)) (hd2:o2.dst=some gt) (hg2:o2.guard=none) (hn2:gt<n) (he:P.underlying e=some (.int .u8))
  (h:∀v,cO P ops l ⟨n,T,s,(gt,.c (.sl len r))::(gD,av v)::ts⟩ Q):cO P ops (o1::o2::l) ⟨n,T,s,ts⟩ Q:=by
 intro a w hs QQ hQ;obtain ⟨h1,h2⟩:=Fh hps.map;subst hzr;obtain ⟨vs,aj,e2⟩:=Ay (w:=bj s.bl w) (a:=a) (place:=λk=>some (k*i.size,i.size)) parts.toList ps _ ((Array.range (len*i.size)).map (z.cells[·% z.cells.size]!)) r h1 (λi h h'=>hs.ev (h2 i h h')) (nc _ _ λu hu=>OT) hf
 have wt:∀{o:Oper} {a:Act},o.guard=none -> Region.wanted o (yielded ops a.tmps)=true:=λh=>by unfold Region.wanted;rw [h]
 obtain ⟨v,hv⟩:∃v,v=Value.slice (some ⟨w.heap.size,0,none⟩) len len:=⟨_,rfl⟩;refine wpList_step λK hK=>?_;rw [if_pos (wt hg)];unfold Oper.wp;have hrun:(execOp a.eval o1).run P w=.ok (.value v) (w.alloc (.cells vs e)):=by
  subst hv;simp only [execOp,ho,dI];rw [run_buildSlice w t e len _ vs i z hu hi hz hsmall hpos (by rw [yS];exact aj)];rfl
 rw [hrun,Oper.upon_value,hd];refine hK _ _ (wpList_step λK2 hK2=>?_);rw [if_pos (wt hg2)];have hoc:v.oneCell'=true:=by subst hv;rfl
 have hev:(a.put (some gD) v).eval (.tmp gD)=v:=(hs.put (v:=v) hn (t:=av v) (.c _ _ (.val _ hoc))).val (x:=.tmp gD) (by simp [aw,look];rfl);generalize hw1:w.alloc (.cells vs e (vs.size,vs.size+1))=w1;have Fr:(execOp (a.put (some gD) v).eval o2).run P (w.alloc (.cells vs e))=.ok (.value v) w1:=by
  subst hw1;simp only [execOp,ho2,dI,hev];subst hv;rw [Lib.run_convert_bytes_const w t e vs len len hu he];rfl
 unfold Oper.wp;rw [Fr,Oper.upon_value,hd2];have hk:cQ [] w w1:=by rw [←hw1];exact (cQ.refl _ _).alloc _
 have hub:f7 (bj s.bl w) (bj s.bl w1):=lb hk jM (λb h=>.inl h);obtain ⟨m1,m2⟩:=hs.mem.up hub EM;have hm:Mem s w1:=⟨hs.mem.nodup,λb hb=>mK (hs.mem.lt b hb) hk.size,m1,m2⟩;have s1:=hs.step (w1:=w1) T (hk.mono aL) hm (λb hb=>.inl hb);have Ok:len <= 16777216:=by
  have h1:0<i.size:=Nat.pos_of_ne_zero λh0=>hpos Bz;have h2:=Nat.le_mul_of_pos_right len h1;omega
 have hne:w.heap.size∉s.bl:=λhm=>Ne;have hrow:cU (bj s.bl w1) (.c (.sl len r)) v:=by
  subst hv;refine .c _ _ (.sl _ _ vs.toList _ ⟨_,_,J,bX _,.inr ⟨_,_,J,λj u hj=>?_⟩⟩ e2.len (λi h h'=>(e2.at_ i h h').mono hub) (λ_ _ _ h=>by cases h;have:=Ok;omega));rw [pH _ _ _ hne,←hw1];unfold World.cell?;have h9:(w.alloc (.cells vs e (vs.size,vs.size+1))).heap[w.heap.size]?=some (.cells vs e (vs.size,vs.size+1)):=Lr;simp only [h9];simpa using hj
 refine hK2 _ _ (h v _ _ ((s1.put (v:=v) hn (.c _ _ (.val _ hoc))).put hn2 hrow) QQ λe a2 w2 st2 q s' k=>hQ e a2 w2 st2 q s' (iP.trans (s1:=⟨n,T,s,(gt,.c (.sl len r))::(gD,av v)::ts⟩) (w1:=w1) ⟨hk.mono aL,hk.mono aL,λb hb=>.inl hb,λb hb=>.inl hb⟩ k))
def BA(a b:List Int)(h:a=b)(hl:a.length <= 1000000000)(s:aJ):aU prog 19 [.c (.sl a.length (a.map λx=>aA x)),.c (.sl b.length (b.map λx=>aA x))] [] s λt s'=>t=bC true /\ s'=s:=by
 subst h;obtain ⟨bx,rw⟩:=s;refine bR 26 func19 ?_;refine go 12 ?_;refine aG J (fF Y) (go 12 ?_);refine qk (a.length) 5 (λk=>[(0,.c (.sl a.length (a.map λx=>aA x))),(1,.c (.sl a.length (a.map λx=>aA x)))]) (ax J) λk hk=>?_;show br prog _ ⟨26,_,_,(5,ae k)::[(0,.c (.sl a.length (a.map λx=>aA x))),(1,.c (.sl a.length (a.map λx=>aA x)))]⟩ _;refine go 6 ?_;by_cases h2:(k:Int)<(a.length:Int)
 ·refine aI J (c_ h2) (go 8 ?_);have hkl:k<a.length:=Y;refine cB [] (aa [0,1] 7 (go 3 ?_));refine ac 2 J (mj (λx=>aA x) a k J J J J Y wq kx) (aa [3,4,5] 3 (go 4 ?_));refine ac 6 J (mj (λx=>aA x) a k J J J J Y wq kx) (aa [7] 1 (go 2 ?_));refine ac 8 J (fC false J J J (fF Y)) ?_;refine bH (go 7 ?_);refine bP J (go 2 ?_);exact ⟨Y,(ay J (cD Y) (ax J))⟩
 refine aG J (cv h2) (go 14 ?_);exact az (s':=⟨bx,rw⟩) J d4 ⟨bZ J,J⟩
def yy:List UInt8:=[118,97,114,32,120,59,32,109,117,116,101,120,32,97,59,32,102,117,110,99,32,109,97,105,110,40,41,32,123,32,119,104,105,108,101,32,120,32,123,32,108,111,99,107,32,97,59,32,125,32,125]
def pP:aY:=⟨[⟨⟨#[120]⟩,0⟩],[⟨⟨#[97]⟩,false,0⟩],[⟨⟨#[109,97,105,110]⟩,[],[.mk 8 a_ (.mk 2 0 ⟨#[120]⟩ []) ⟨a_,[]⟩ [] [.mk 5 a_ .zero ⟨⟨#[97]⟩,[]⟩ [] [] []] []]⟩]⟩
def Jv:pP.bt:=by
 refine ⟨λg hg=>?_,λm hm=>?_,λf hf=>?_⟩
 ·obtain rfl:g=_:=jK.1 hg;exact ⟨sa,V⟩
 ·obtain rfl:m=_:=jK.1 hm;exact ⟨sa,V⟩
 obtain rfl:f=_:=jK.1 hf;refine ⟨V,λx hx=>(by cases hx),?_⟩;have e:a_.size <= 4611686018427387904:=V;have aj:(⟨#[120]⟩:aH).size <= 4611686018427387904:=V;have e2:(⟨#[97]⟩:aH).size <= 4611686018427387904:=V;have f0:fit 0:=sa;have f1:fit 8:=sa;have f2:fit 5:=sa;have f3:fit 2:=sa;simp only [aS.zero,eO,aE.bt,aS.bt,cL.bt,jD,e,aj,e2,f0,f1,f2,f3,not_mem_nil,and_true,true_and,false_implies,implies_true,forall_const]
def T6:qp yy=(pP,51,0):=aQ
def Q_:gY pP=(0,0,0):=aQ
def NT:pP.wt <= 9000000:=of_decide_eq_true aQ
def jB:zO:=tp pP
def RN:jB.procs.length=1:=aQ
def L2(h:0<jB.procs.length):jB.procs[0].code.length=4 /\ ∀(h0:0<jB.procs[0].code.length)(h1:1<jB.procs[0].code.length)(h2:2<jB.procs[0].code.length)(h3:3<jB.procs[0].code.length),
  jB.procs[0].code[0].op=6 /\ jB.procs[0].code[0].target=3 /\ jB.procs[0].code[0].expr.op=19 /\ jB.procs[0].code[1].op=4 /\ jB.procs[0].code[2].op=7 /\ jB.procs[0].code[2].target=0 /\ jB.procs[0].code[3].op=8:=
 ⟨aQ,λ_ _ _ _=>⟨aQ,aQ,aQ,aQ,aQ,aQ,aQ⟩⟩
def YA:kW pP 0=[0,1,0,2]:=aQ
def SR(s:aJ):aU prog 9 [cM (.agg (dl pP))] [] s λt s'=>t=.fd [.agg (uY jB),an 0,an 0,an 0] /\ s'=s:=by
 have h:=Qc pP Jv NT s;rw [Q_] at h;exact h
def Sx(s:aJ):aU prog 20 [cM (.agg (dl pP)),an 0] [] s λt s'=>t=.c (.sl ([0,1,0,2]:List Int).length (([0,1,0,2]:List Int).map λx=>aA x)) /\ s'=s:=by
 have h:=CU pP 0 Jv NT s;rw [YA] at h;exact h
def VJ(s:aJ):aU prog 30 [.c (.sl yy.length (ca yy))] [] s λt s'=>t=.fd [.agg (dl pP),an 51,an 0] /\ s'=s:=by
 have h:=UH yy s;rw [T6] at h;exact h
def Ux(w:ab)(he:oZ w):Calls prog 13 #[] w λe w'=>e=.returned (.bool true) /\ Below w.heap.size w w':=by
 have hn1:=RN;have hn2:=(L2 Y).1;obtain ⟨k1,k2,k3,k4,k5,k6,k7⟩:=(L2 Y).2 Y Y Y Y;refine Qa func13 J 98 (fS J) he ?_;show br prog _ ⟨99,[],⟨[],[]⟩,[(98,cM (.raw undef))]⟩ _;refine go 7 ?_;refine Xb Tryz.t5 J J J V (.cons J (.cons J (.cons J (.cons J (.cons J (.cons J (.cons J (.cons J (.cons J (.cons J (.cons J (.cons J (.cons J (.cons J (.cons J (.cons J (.cons J (.cons J (.cons J (.cons J (.cons J (.cons J (.cons J (.cons J (.cons J (.cons J (.cons J (.cons J (.cons J (.cons J (.cons J (.cons J (.cons J (.cons J (.cons J (.cons J (.cons J (.cons J (.cons J (.cons J (.cons J (.cons J (.cons J (.cons J (.cons J (.cons J (.cons J (.cons J (.cons J (.cons J (.cons J .nil))))))))))))))))))))))))))))))))))))))))))))))))))) kj aQ J V V aQ (zc:=List.replicate 51 (.val (.int .u8 0))) aQ (r:=ca yy) aQ J J J V pi λvc=>?_;refine AD J call30 J (VJ _) (go 13 λb1=>?_);refine j6 98 J call9 J (SR _) (go 16 λb2=>?_);refine aG J jz (go 4 ?_);refine aG J (fF Y) (go 4 ?_);refine aD J (bf gV gV jB.procs B3 (λ_=>J) 0 J J J J Y V GP uT) (go 3 ?_);refine aG J (fF Y) (go 10 ?_);refine aD J (bf gV gV jB.procs B3 (λ_=>J) 0 J J J J Y V GP uT) (go 8 ?_);refine aD J (bf encI encI jB.procs[0].code mc (λ_=>J) 0 J J J J Y V kh j7) (go 2 ?_);refine aI J (bU Y) (go 2 ?_);refine aD J (bf encI encI jB.procs[0].code mc (λ_=>J) 0 J J J J Y V kh j7) (go 2 ?_);refine aI J (bU Y) (go 3 ?_);refine aD J (bf encI encI jB.procs[0].code mc (λ_=>J) 0 J J J J Y V kh j7) (go 3 ?_);refine aI J (bU Y) (go 3 ?_);refine aD J (bf encI encI jB.procs[0].code mc (λ_=>J) 1 J J J J Y V kh j7) (go 2 ?_);refine aI J (bU Y) (go 3 ?_);refine aD J (bf encI encI jB.procs[0].code mc (λ_=>J) 2 J J J J Y V kh j7) (go 2 ?_);refine aI J (bU Y) (go 3 ?_);refine aD J (bf encI encI jB.procs[0].code mc (λ_=>J) 2 J J J J Y V kh j7) (go 2 ?_);refine aI J (bU Y) (go 3 ?_);refine aD J (bf encI encI jB.procs[0].code mc (λ_=>J) 3 J J J J Y V kh j7) (go 2 ?_);refine aI J (bU Y) (go 3 ?_);refine j6 98 J call20 J (Sx _) ?_;refine aX J (tD Tryz.t3 [aA 0,aA 0,aA 0,aA 0] J J V (.cons J (.cons J (.cons J (.cons J .nil)))) ta aQ J V V aQ aQ (r:=([0,1,0,2]:List Int).map λx=>aA x) J ?_)
 refine AD J call19 J (BA [0,1,0,2] [0,1,0,2] J V _) (go 5 ?_);exact ⟨.inr J,_,⟨[],[]⟩,bK J (bN J),ai (CE _) (CE _),J,J⟩
abbrev eM(A B:List aV)(rw:List aP)(S:Nat)(l:List Int)(i:Nat):aJ:=⟨A++⟨S,54,[.sl l.length (l.map λi=>aA i),ap i]⟩::B,rw⟩
def VH(l:List Int)(n:Nat)(s:aJ):aU prog 22 [.c (.sl l.length (l.map λi=>aA i)),ae n] [] s λr s'=>r=.c (.sl (l.take n).length ((l.take n).map λi=>aA i)) /\ s'=s:=by
 obtain ⟨bx,rw⟩:=s;refine bR 13 func22 ?_;refine go 11 ?_;by_cases hlt:n<l.length
 ·refine aI J fN (go 7 ?_);refine aD J (QU (h:=(l.take n).length) (z:=1) J J J Am Am aQ aQ kx (by rw [ke,ss Y,rZ,←List.map_take])) (go 5 ?_);exact az (s':=⟨bx,rw⟩) J d4 ⟨J,J⟩
 rw [take_of_length_le (l:=l) (i:=n) Y];refine aG J eR (go 12 ?_);exact az (s':=⟨bx,rw⟩) J d4 ⟨J,J⟩
def CO(A B:List aV)(rw:List aP)(S:Nat)(l:List Int)(i0:Nat)(n:Int)(hi0:i0 <= l.length)(hl:l.length <= 1000000)(hn0:0<n)(hn1:n <= 4611686018427387904):aU prog 23 [aF S,an n] [S] (eM A B rw S l i0) λr s=>∃(z:Int) (i:Nat),r=an z /\ 0 <= z /\ z<n /\ i <= l.length /\ s=eM A B rw S l i:=by
 refine bR 35 func23 ?_;refine go 7 ?_;refine cB [S] (aa [0,1,2,3,4,5,6,7,8] 1 (go 10 ?_));refine ac 9 J (fC _ J J J J) ?_;refine bH (go 1 ?_);refine im J (λhc1=>?_) (λhc1=>?_)
 ·have hge:l.length <= i0:=by simpa using hc1
  refine go 7 ?_;exact az (s':=eM A B rw S l i0) J d4 ⟨0,i0,J,Y,hn0,hi0,J⟩
 have hlt:i0<l.length:=by simpa using hc1
 refine go 8 ?_;refine bP J (go 6 ?_);refine cB [S] (aa [0,1,2,3,4,5,6,7] 6 (go 9 ?_));refine ac 8 J (jq (i0:Int)) ?_;refine ac 9 J (mj (λi=>aA i) l i0 J J J J hlt wq kx) (aa [10,11] 2 (go 3 ?_));refine aW 12 J J (bm [] J J V lx J (O7 _ _ hn0 hn1 _) dJ dJ (λ_=>dJ) ?_);rintro rj sj ⟨rfl,rfl⟩;refine aa [13] 0 (go 2 ?_);refine bH (go 2 ?_);exact az (s':=eM A B rw S l (i0+1)) J d4 ⟨l[i0]%n,i0+1,J,AQ _ Y,FV _ hn0,hlt,J⟩
def BO(A B:List aV)(rw:List aP)(S:Nat)(l:List Int)(i0:Nat)(hi0:i0 <= l.length)(hl:l.length <= 1000000):aU prog 107 [aF S] [S] (eM A B rw S l i0) λr s=>∃(z:Int) (i:Nat),r=an z /\ 0 <= z /\ z<4611686018427387904 /\ i <= l.length /\ s=eM A B rw S l i:=by
 refine bR 10 func107 ?_;refine go 9 ?_;refine aX J (bm [S] J J V fG J (CO A _ _ _ l i0 _ hi0 hl V V) (bY) (bY (h:=by simp [aJ.bl])) (λ_=>bY) ?_);rintro r1 s1 ⟨z1,i1,rfl,hz1,hy1,hi1,rfl⟩;refine aD J (fC _ J J J J) (go 2 ?_);refine im J (λhc1=>?_) (λhc1=>?_)
 ·refine go 3 ?_;refine aX J (bm [S] J J V fG J (CO A _ _ _ l i1 _ hi1 hl V V) (bY) (bY (h:=by simp [aJ.bl])) (λ_=>bY) ?_);rintro r2 s2 ⟨z2,i2,rfl,hz2,hy2,hi2,rfl⟩;refine go 5 ?_;exact az (s':=eM A B rw S l i2) J d4 ⟨z2,i2,J,hz2,Y,hi2,J⟩
 refine go 5 ?_;refine aX J (bm [S] J J V fG J (CO A _ _ _ l i1 _ hi1 hl V V) (bY) (bY (h:=by simp [aJ.bl])) (λ_=>bY) ?_);rintro r2 s2 ⟨z2,i2,rfl,hz2,hy2,hi2,rfl⟩;refine go 4 ?_;exact az (s':=eM A B rw S l i2) J d4 ⟨z2,i2,J,hz2,Y,hi2,J⟩
end
section
inductive fH (names:List ByteArray):Nat -> aS -> Prop
 |name {d:Nat} {x:ByteArray} (h:x∈names):fH names d (.mk 2 0 x [])
 |num {d:Nat} {n:Int} (h0:0 <= n) (h1:n<4611686018427387904):fH names d (.mk 1 n a_ [])
 |un {d:Nat} {op:Int} {e:aS} (ho:op=3∨op=4) (he:fH names d e):fH names (d+1) (.mk op 0 a_ [e])
 |bin {d:Nat} {op:Int} {a b:aS} (h0:5 <= op) (h1:op <= 17) (ha:fH names d a) (hb:fH names d b):fH names (d+1) (.mk op 0 a_ [a,b])
def fH.mono{names:List aH}{d d':Nat}{e:aS}(h:fH names d e)(hd:d <= d'):fH names d' e:=by
 induction h generalizing d' with
 |name h=>exact .name h
 |num h0 h1=>exact .num h0 h1
 |@un d op e ho he ih=>
  obtain ⟨k,rfl⟩:∃k,d'=k+1:=⟨d'-1,Y⟩;exact .un ho (ih Y)
 |@bin d op a b h0 h1 ha hb iha ihb=>
  obtain ⟨k,rfl⟩:∃k,d'=k+1:=⟨d'-1,Y⟩;exact .bin h0 h1 (iha Y) (ihb Y)
inductive ma (ms:List cn) (ps:List bg) (vars:List ByteArray):cL -> Prop
 |arr {m:cn} {e:aS} (hm:m∈ms) (hs:0<m.size) (he:fH vars 1 e):ma ms ps vars ⟨m.name,[e]⟩
 |scalar {m:cn} (hm:m∈ms) (hs:m.size <= 0):ma ms ps vars ⟨m.name,[]⟩
 |param {x:bg} (hx:x∈ps) (hm:x.mutex=true):ma ms ps vars ⟨x.name,[]⟩
inductive mr (ms:List cn) (ps:List bg) (vars:List ByteArray):List bg -> List cI -> Prop
 |nil:mr ms ps vars [] []
 |mutex {x:bg} {l:List bg} {asl:List cI} {r:cL} (hx:x.mutex=true) (hr:ma ms ps vars r) (h:mr ms ps vars l asl):mr ms ps vars (x::l) (⟨true,r,.zero⟩::asl)
 |expr {x:bg} {l:List bg} {asl:List cI} {e:aS} (hx:x.mutex=false) (he:fH vars 2 e) (h:mr ms ps vars l asl):mr ms ps vars (x::l) (⟨false,.zero,e⟩::asl)
def kQ(left:Nat):ByteArray:=bytes [118,UInt8.ofNat (97+left%26),UInt8.ofNat (97+left/26%26)]
abbrev iR:=ByteArray×List bg
inductive fB (ms:List cn) (fs:List iR) (ps:List bg):List ByteArray -> Nat -> Nat -> List aE -> Nat -> Prop
 |nil {vars:List ByteArray} {deep left:Nat}:fB ms fs ps vars deep left [] left
 |lock {vars:List ByteArray} {deep left left':Nat} {r:cL} {rest:List aE} (hr:ma ms ps vars r) (h:fB ms fs ps vars deep left rest left'):
   fB ms fs ps vars deep (left+1) (.mk 5 a_ .zero r [] [] []::rest) left'
 |unlock {vars:List ByteArray} {deep left left':Nat} {r:cL} {rest:List aE} (hr:ma ms ps vars r) (h:fB ms fs ps vars deep left rest left'):
   fB ms fs ps vars deep (left+1) (.mk 6 a_ .zero r [] [] []::rest) left'
 |var {vars:List ByteArray} {deep left left':Nat} {e:aS} {rest:List aE} (he:fH vars 2 e) (h:fB ms fs ps (vars++[kQ left]) deep left rest left'):
   fB ms fs ps vars deep (left+1) (.mk 1 (kQ left) e .zero [] [] []::rest) left'
 |assign {vars:List ByteArray} {deep left left':Nat} {x:ByteArray} {e:aS} {rest:List aE} (hx:x∈vars) (he:fH vars 2 e) (h:fB ms fs ps vars deep left rest left'):
   fB ms fs ps vars deep (left+1) (.mk 2 x e .zero [] [] []::rest) left'
 |call {vars:List ByteArray} {deep left left':Nat} {k:Int} {g:iR} {asl:List cI} {rest:List aE} (hk:k=3∨k=4) (hg:g∈fs) (ha:mr ms ps vars g.2 asl) (h:fB ms fs ps vars deep left rest left'):
   fB ms fs ps vars deep (left+1) (.mk k g.1 .zero .zero asl [] []::rest) left'
 |cond {vars:List ByteArray} {deep left l1 l2 left':Nat} {e:aS} {thn els rest:List aE} (he:fH vars 2 e) (ht:fB ms fs ps vars deep left thn l1) (hel:fB ms fs ps vars deep l1 els l2) (h:fB ms fs ps vars (deep+1) l2 rest left'):
   fB ms fs ps vars (deep+1) (left+1) (.mk 7 a_ e .zero [] thn els::rest) left'
 |loop {vars:List ByteArray} {deep left l1 left':Nat} {e:aS} {thn rest:List aE} (he:fH vars 2 e) (ht:fB ms fs ps vars deep left thn l1) (h:fB ms fs ps vars (deep+1) l1 rest left'):
   fB ms fs ps vars (deep+1) (left+1) (.mk 8 a_ e .zero [] thn []::rest) left'
 |ret {vars:List ByteArray} {deep left left':Nat} {rest:List aE} (h:fB ms fs ps vars deep left rest left'):
   fB ms fs ps vars deep (left+1) (.mk 9 a_ .zero .zero [] [] []::rest) left'
 |pair {vars:List ByteArray} {deep left l1 left':Nat} {r:cL} {mid rest:List aE} (hr:ma ms ps vars r) (hm:fB ms fs ps vars 0 left mid l1) (h:fB ms fs ps vars deep l1 rest left'):
   fB ms fs ps vars deep (left+1) (.mk 5 a_ .zero r [] [] []::(mid++.mk 6 a_ .zero r [] [] []::rest)) left'
def fB.le{ms:List cn}{fs:List iR}{ps:List bg}{vars:List aH}{deep left left':Nat}{l:List aE}(h:fB ms fs ps vars deep left l left'):left' <= left:=by
 induction h<;>omega
def C8(i:Nat)(m:cn):Prop:=m.name=bytes [UInt8.ofNat (97+i)] /\ ((m.ex=false /\ 0 <= m.size /\ m.size <= 3)∨(m.ex=true /\ m.size=0))
def ID(i:Nat)(g:b_):Prop:=g.name=bytes [103,UInt8.ofNat (48+i)] /\ -2 <= g.init /\ g.init <= 2
def wN(l:List bg):Prop:=l.length <= 2 /\ ∀k (h:k<l.length),l[k].name=bytes [112,UInt8.ofNat (48+(l.length-k))]
def Gw(i:Nat)(f:bB):Prop:=(i=0 -> f.name=bytes [109,97,105,110] /\ f.params=[]) /\ (0<i -> f.name=bytes [102,UInt8.ofNat (48+i)]) /\ wN f.params
def bB.sig(f:bB):iR:=(f.name,f.params)
def yE(gs:List b_)(ps:List bg):List ByteArray:=gs.map b_.name++(ps.filter λx=>!x.mutex).map bg.name
inductive py (ms:List cn) (fs:List iR) (gs:List b_):Nat -> List bB -> Prop
 |nil {left:Nat}:py ms fs gs left []
 |cons {left left':Nat} {f:bB} {l:List bB} (h:fB ms fs f.params (yE gs f.params) 2 left f.body left') (hl:py ms fs gs left' l):py ms fs gs left (f::l)
structure BI (p:aY):Prop where
 mutexes:1 <= p.mutexes.length /\ p.mutexes.length <= 4 /\ ∀k (h:k<p.mutexes.length),C8 k p.mutexes[k]
 globals:p.globals.length <= 2 /\ ∀k (h:k<p.globals.length),ID k p.globals[k]
 funcs:1 <= p.funcs.length /\ p.funcs.length <= 4 /\ ∀k (h:k<p.funcs.length),Gw k p.funcs[k]
 bodies:py p.mutexes (p.funcs.map bB.sig) p.globals 24 p.funcs
end
section
open Go.RowKit
def fW(A B:List aV)(rw:List aP)(S:Nat)(l:List Int)(i0:Nat)(n:Int)(hi0:i0 <= l.length)(hl:l.length <= 1000000)(hn0:0<n)(hn1:n <= 4611686018427387904):aU prog 23 [aF S,an n] [S] (eM A B rw S l i0) λr s=>∃(z:Nat) (i:Nat),r=ae z /\ (z:Int)<n /\ i <= l.length /\ s=eM A B rw S l i:=
 (CO A B rw S l i0 n hi0 hl hn0 hn1).mono λr s ⟨z,i,h1,h2,h3,h4,h5⟩=>⟨z.toNat,i,h1.trans (congrArg (λx=>AT.c (aA x)) (Int.toNat_of_nonneg h2).symm),by rw [Int.toNat_of_nonneg h2];exact h3,h4,h5⟩
abbrev ee(RA:List aP)(nv:Value)(names:List ByteArray)(rw:List aP):List aP:=RA++⟨nv,9,1,names.length,cj names⟩::rw
def YG{P:Program}{U:List Nat}{o:Oper}{st:AS}{E yt:bA}{x y:bb}{m:Nat}(r:Nat)(ho:o.op=.binOp .rem E x y yt)(hx:aw st x=some (ae m))(hy:aw st y=some (an 2))(hr:m%2=r):co P U o st (ae r):=by
 subst hr;exact FD ho hx hy V J
def O8(A B:List aV)(RA rw:List aP)(nv:aN)(S:Nat)(l:List Int)(i0:Nat)(names:List aH)(d:Nat)(hi0:i0 <= l.length)(hl:l.length <= 1000000)(hnl:names.length <= 1000000)(hd:d <= 100)(ih:d≠0 -> ∀(A:List aV)(i:Nat),i <= l.length -> aU prog 78 [aF S,av nv,an ((d-1:Nat):Int)] [S] (eM A B (ee RA nv names rw) S l i) (λr s=>∃(e:aS) (i:Nat),r=.agg (bo e) /\ fH names (d-1) e /\ i <= l.length /\ s=eM A B (ee RA nv names rw) S l i)):aU prog 78 [aF S,av nv,ae d] [S] (eM A B (ee RA nv names rw) S l i0) (λr s=>∃(e:aS) (i:Nat),r=.agg (bo e) /\ fH names (d) e /\ i <= l.length /\ s=eM A B (ee RA nv names rw) S l i):=by
 refine bR 64 func78 ?_;refine go 8 λb1=>?_;refine aX J (bm [S] J J V fG J (fW (_::A) _ _ _ l i0 _ hi0 hl V V) (bY) (bY (h:=by simp [aJ.bl])) (λ_=>bY) ?_);rintro r1 s1 ⟨z1,i1,rfl,hy1,hi1,rfl⟩;refine go 8 ?_;by_cases hd0:d=0
 ·refine aI J fN (go 12 ?_);refine aD J (lT RA J J J kP) ?_;by_cases hn0:0<names.length;focus
   refine aI J fN (go 2 ?_);refine aX J (bm [S] J J V fG J (fW (_::A) _ _ _ l i1 _ hi1 hl V V) (bY) (bY (h:=by simp [aJ.bl])) (λ_=>bY) ?_);rintro r7 s29 ⟨z7,i7,rfl,hy8,hi7,rfl⟩;by_cases aTl:z7=1
   ·refine aI J fN (go 9 ?_);refine aD J (lT RA J J J kP) ?_;refine aX J (bm [S] J J V fG J (fW (_::A) _ _ _ l i7 _ hi7 hl Y Y) (bY) (bY (h:=by simp [aJ.bl])) (λ_=>bY) ?_);rintro r2 s2 ⟨z2,i2,rfl,hy2,hi2,rfl⟩;have hj2:z2<names.length:=Y;refine zC RA Y λg cap hg=>?_;subst hg;refine aD J (ey z2 J J J J hj2 kP iK) ?_;refine aD J (kc RA rH iK (yC names _ hj2)) (go 8 ?_);exact ⟨.inr J,_,eM A B (ee RA _ names rw) S l i2,(gK (bL.agg (.r (.r (.r (.n .nil))))) (bK J (bu [] J J f8 dw (cH J J)))),ai bI (.refl _),⟨(.mk 2 0 names[z2] []),i2,J,(.name (getElem_mem hj2)),hi2,J⟩⟩
   refine aG J eR (go 9 ?_);refine aX J (bm [S] J J V call107 J (BO (_::A) _ _ _ l i7 hi7 hl) (bY) (bY (h:=by simp [aJ.bl])) (λ_=>bY) ?_)
  rotate_left;refine aG J eR (go 13 ?_);refine aX J (bm [S] J J V call107 J (BO (_::A) _ _ _ l i1 hi1 hl) (bY) (bY (h:=by simp [aJ.bl])) (λ_=>bY) ?_);all_goals
   rintro r2 s2 ⟨z2,i2,rfl,hz2,hy2,hi2,rfl⟩;refine go 7 ?_;exact ⟨.inr J,_,eM A B (ee RA _ names rw) S l i2,(gK (bL.agg (.r (.r (.r (.n .nil))))) (bK J (bu [] J J f8 dw (cH J J)))),ai bI (.refl _),⟨(.mk 1 z2 a_ []),i2,J,(.num hz2 hy2),hi2,J⟩⟩
 refine aG J eR (go 2 ?_);by_cases hz2:z1<2
 ·refine aI J fN (go 9 ?_);refine aD J (lT RA J J J kP) ?_;by_cases hn0:0<names.length;focus
   refine aI J fN (go 2 ?_);refine aX J (bm [S] J J V fG J (fW (_::A) _ _ _ l i1 _ hi1 hl V V) (bY) (bY (h:=by simp [aJ.bl])) (λ_=>bY) ?_);rintro r7 s29 ⟨z7,i7,rfl,hy8,hi7,rfl⟩;by_cases aTl:z7=1
   ·refine aI J fN (go 9 ?_);refine aD J (lT RA J J J kP) ?_;refine aX J (bm [S] J J V fG J (fW (_::A) _ _ _ l i7 _ hi7 hl Y Y) (bY) (bY (h:=by simp [aJ.bl])) (λ_=>bY) ?_);rintro r2 s2 ⟨z2,i2,rfl,hy2,hi2,rfl⟩;have hj2:z2<names.length:=Y;refine zC RA Y λg cap hg=>?_;subst hg;refine aD J (ey z2 J J J J hj2 kP iK) ?_;refine aD J (kc RA rH iK (yC names _ hj2)) (go 8 ?_);exact ⟨.inr J,_,eM A B (ee RA _ names rw) S l i2,(gK (bL.agg (.r (.r (.r (.n .nil))))) (bK J (bu [] J J f8 dw (cH J J)))),ai bI (.refl _),⟨(.mk 2 0 names[z2] []),i2,J,(.name (getElem_mem hj2)),hi2,J⟩⟩
   refine aG J eR (go 9 ?_);refine aX J (bm [S] J J V call107 J (BO (_::A) _ _ _ l i7 hi7 hl) (bY) (bY (h:=by simp [aJ.bl])) (λ_=>bY) ?_)
  rotate_left;refine aG J eR (go 13 ?_);refine aX J (bm [S] J J V call107 J (BO (_::A) _ _ _ l i1 hi1 hl) (bY) (bY (h:=by simp [aJ.bl])) (λ_=>bY) ?_);all_goals
   rintro r2 s2 ⟨z2,i2,rfl,hz2,hy2,hi2,rfl⟩;refine go 7 ?_;exact ⟨.inr J,_,eM A B (ee RA _ names rw) S l i2,(gK (bL.agg (.r (.r (.r (.n .nil))))) (bK J (bu [] J J f8 dw (cH J J)))),ai bI (.refl _),⟨(.mk 1 z2 a_ []),i2,J,(.num hz2 hy2),hi2,J⟩⟩
 refine aG J eR (go 8 ?_);by_cases hz4:z1<4
 ·refine aI J fN (go 7 ?_);refine aD J (YG (z1%2) J J J J) ?_;refine bP J (go 3 ?_);refine aD J (jq ((d-1:Nat):Int)) ?_;refine aX J (bm [S] J J V call78 J (ih hd0 (_::A) i1 hi1) (bY) (bY (h:=by simp [aJ.bl])) (λ_=>bY) ?_);rintro r2 s2 ⟨x2,i2,rfl,hm2,hi2,rfl⟩;refine aX J (bV (hf:=dc bc bo x2 (fv _) J J) o7 ?_);refine go 7 ?_;exact ⟨.inr J,_,eM A B (ee RA _ names rw) S l i2,(gK (bL.agg (.r (.r (.r (.r .nil))))) (bK J (bu [] J J f8 dw (cH J J)))),ai bI (.refl _),⟨(.mk (3+((z1%2:Nat):Int)) 0 a_ [x2]),i2,J,(by obtain ⟨d',rfl⟩:∃d',d=d'+1:=⟨d-1,Y⟩;exact .un Y hm2),hi2,J⟩⟩
 refine aG J eR (go 10 ?_);refine aX J (bm [S] J J V fG J (fW (_::A) _ _ _ l i1 _ hi1 hl V V) (bY) (bY (h:=by simp [aJ.bl])) (λ_=>bY) ?_);rintro r2 s2 ⟨z2,i2,rfl,hy2,hi2,rfl⟩;refine bP J (go 3 ?_);refine aD J (jq ((d-1:Nat):Int)) ?_;refine aX J (bm [S] J J V call78 J (ih hd0 (_::A) i2 hi2) (bY) (bY (h:=by simp [aJ.bl])) (λ_=>bY) ?_);rintro r3 s3 ⟨x3,i3,rfl,hm3,hi3,rfl⟩;refine go 3 ?_;refine aD J (jq ((d-1:Nat):Int)) ?_;refine aX J (bm [S] J J V call78 J (ih hd0 (_::A) i3 hi3) (bY) (bY (h:=by simp [aJ.bl])) (λ_=>bY) ?_);rintro r4 s4 ⟨x4,i4,rfl,CD,hi4,rfl⟩;refine aX J (bV (hps:=(.cons J (.cons J .nil))) (hf:=Jj bc bo x3 x4 fv J (λ_=>J)) Jc ?_);refine go 5 ?_;exact ⟨.inr J,_,eM A B (ee RA _ names rw) S l i4,(gK (bL.agg (.r (.r (.r (.r .nil))))) (bK J (bu [] J J f8 dw (cH J J)))),ai bI (.refl _),⟨(.mk (5+(z2:Int)) 0 a_ [x3,x4]),i4,J,(by obtain ⟨d',rfl⟩:∃d',d=d'+1:=⟨d-1,Y⟩;exact .bin Y Y hm3 CD),hi4,J⟩⟩
def Cx(B:List aV)(RA rw:List aP)(nv:aN)(S:Nat)(l:List Int)(names:List aH)(hl:l.length <= 1000000)(hnl:names.length <= 1000000):∀(d:Nat),d <= 100 -> ∀(A:List aV)(i:Nat),i <= l.length -> aU prog 78 [aF S,av nv,ae d] [S] (eM A B (ee RA nv names rw) S l i) (λr s=>∃(e:aS) (i:Nat),r=.agg (bo e) /\ fH names (d) e /\ i <= l.length /\ s=eM A B (ee RA nv names rw) S l i)
 |0,hd,A,i,hi=>O8 A B RA rw nv S l i names 0 hi hl hnl hd (λh=>absurd rfl h)
 |d+1,hd,A,i,hi=>O8 A B RA rw nv S l i names (d+1) hi hl hnl hd (λ_ A i hi=>Cx B RA rw nv S l names hl hnl d Y A i hi)
def Xi(A B:List aV)(RA rw:List aP)(nv:aN)(S W:Nat)(l:List Int)(i0:Nat)(names:List aH)(G M F:aO)(left:Int)(ar:Bool)(size:Int)(hs0:0<size)(hs1:size <= 4611686018427387904)(hi0:i0 <= l.length)(hl:l.length <= 1000000)(hnl:names.length <= 1000000):aU prog 77 [aF W,av nv,an size] [S] (eM A (⟨W,56,[.val (.pointer (some ⟨S,0,none⟩)),G,M,F,aA left,bG ar]⟩::B) (ee RA nv names rw) S l i0) (λr s=>∃(e:aS) (i:Nat),r=.agg (bo e) /\ fH names 1 e /\ i <= l.length /\ s=eM A (⟨W,56,[.val (.pointer (some ⟨S,0,none⟩)),G,M,F,aA left,bG ar]⟩::B) (ee RA nv names rw) S l i):=by
 cases ar
 ·refine bR 32 func77 ?_;refine go 32 λb1=>?_;refine aX J (bm [S] J J V fG J (fW (_::A) _ _ _ l i0 _ hi0 hl hs0 hs1) (bY) (bY (h:=by simp [aJ.bl])) (λ_=>bY) ?_);rintro r1 s1 ⟨z1,i1,rfl,hy1,hi1,rfl⟩;refine go 5 ?_;exact ⟨.inr J,_,eM A (⟨W,56,[.val (.pointer (some ⟨S,0,none⟩)),G,M,F,aA left,bG false]⟩::B) (ee RA nv names rw) S l i1,(gK (bL.agg (.r (.r (.r (.n .nil))))) (bK J (bu [] J J f8 dw (cH J J)))),ai bI (.refl _),⟨.mk 1 z1 a_ [],i1,J,.num Y Y,hi1,J⟩⟩
 refine bR 32 func77 ?_;refine go 17 λb1=>?_;refine aX J (bm [S] J J V fG J (fW (_::A) _ _ _ l i0 _ hi0 hl V V) (bY) (bY (h:=by simp [aJ.bl])) (λ_=>bY) ?_);rintro r1 s1 ⟨z1,i1,rfl,hy1,hi1,rfl⟩;by_cases hz1:z1=1
 ·refine aI J fN (go 11 ?_);refine aX J (bm [S] J J V call78 J (Cx _ RA _ _ S l names hl hnl 1 Im (_::A) i1 hi1) (bY) (bY (h:=by simp [aJ.bl])) (λ_=>bY) ?_);rintro r2 s2 ⟨x2,i2,rfl,hm2,hi2,rfl⟩;refine go 5 ?_;exact ⟨.inr J,_,eM A (⟨W,56,[.val (.pointer (some ⟨S,0,none⟩)),G,M,F,aA left,bG true]⟩::B) (ee RA nv names rw) S l i2,(bK J (bu [] J J f8 dw (cH J J))),ai bI (.refl _),⟨x2,i2,J,hm2,hi2,J⟩⟩
 refine aG J eR (go 13 ?_);refine aX J (bm [S] J J V fG J (fW (_::A) _ _ _ l i1 _ hi1 hl hs0 hs1) (bY) (bY (h:=by simp [aJ.bl])) (λ_=>bY) ?_);rintro r2 s2 ⟨z2,i2,rfl,hy2,hi2,rfl⟩;refine go 5 ?_;exact ⟨.inr J,_,eM A (⟨W,56,[.val (.pointer (some ⟨S,0,none⟩)),G,M,F,aA left,bG true]⟩::B) (ee RA nv names rw) S l i2,(gK (bL.agg (.r (.r (.r (.n .nil))))) (bK J (bu [] J J f8 dw (cH J J)))),ai bI (.refl _),⟨.mk 1 z2 a_ [],i2,J,.num Y Y,hi2,J⟩⟩
def uW(A B:List aV)(RA rw:List aP)(nv:aN)(S W:Nat)(l:List Int)(i0:Nat)(names:List aH)(G M F:aO)(left:Int)(ar:Bool)(hi0:i0 <= l.length)(hl:l.length <= 1000000)(hnl:names.length <= 1000000):aU prog 43 [aF W,av nv] [S] (eM A (⟨W,56,[.val (.pointer (some ⟨S,0,none⟩)),G,M,F,aA left,bG ar]⟩::B) (ee RA nv names rw) S l i0) (λr s=>∃(e:aS) (i:Nat),r=.agg (bo e) /\ fH names 2 e /\ i <= l.length /\ s=eM A (⟨W,56,[.val (.pointer (some ⟨S,0,none⟩)),G,M,F,aA left,bG ar]⟩::B) (ee RA nv names rw) S l i):=by
 cases ar
 ·refine bR 28 func43 ?_;refine go 23 λb1=>?_;refine aX J (bm [S] J J V call78 J (Cx _ RA _ _ S l names hl hnl 0 Im (_::A) i0 hi0) (bY) (bY (h:=by simp [aJ.bl])) (λ_=>bY) ?_);rintro r1 s1 ⟨x1,i1,rfl,hm1,hi1,rfl⟩;refine go 5 ?_;exact ⟨.inr J,_,eM A (⟨W,56,[.val (.pointer (some ⟨S,0,none⟩)),G,M,F,aA left,bG false]⟩::B) (ee RA nv names rw) S l i1,(bK J (bu [] J J f8 dw (cH J J))),ai bI (.refl _),⟨x1,i1,J,(hm1.mono Y),hi1,J⟩⟩
 refine bR 28 func43 ?_;refine go 19 λb1=>?_;refine cB [W] (aa [0,1,2,3,4,5,6,7,8] 4 (go 10 ?_));refine aW 9 J J (bm [S] J J V fG J (fW (_::A) _ _ _ l i0 _ hi0 hl V V) dd db ij ?_);rintro r1 s1 ⟨z1,i1,rfl,hy1,hi1,rfl⟩;refine ac 10 J (uk J J J Y Y) ?_;refine aW 11 J J (bm [S] J J V call78 J (Cx _ RA _ _ S l names hl hnl (1+z1) Im (_::A) i1 hi1) dd db ij ?_);rintro r2 s2 ⟨x2,i2,rfl,hm2,hi2,rfl⟩;refine cY [(12,false)] 0 (go 2 ?_);refine bH (go 2 ?_);exact ⟨.inr J,_,eM A (⟨W,56,[.val (.pointer (some ⟨S,0,none⟩)),G,M,F,aA left,bG true]⟩::B) (ee RA nv names rw) S l i2,(bK J (bu [] J J f8 dw (cH J J))),ai bI (.refl _),⟨x2,i2,J,(hm2.mono Y),hi2,J⟩⟩
end
section
def nM(ms:List cn):List ByteArray:=ms.map cn.name
def m8(ps:List bg):List ByteArray:=(ps.map λx=>if x.mutex then [x.name,x.name] else []).flatten
def U1(ms:List cn)(k:Nat)(h:k<ms.length):nM (ms.take (k+1))=nM (ms.take k)++[ms[k].name]:=by
 rw [gz h,nM,fL];rfl
def JH(ps:List bg)(k:Nat)(h:k<ps.length):m8 (ps.take (k+1))=m8 (ps.take k)++(if ps[k].mutex then [ps[k].name,ps[k].name] else []):=by
 rw [gz h,m8,fL,Gj];simp [m8]
def OL:∀(ps:List bg),(m8 ps).length <= 2*ps.length
 |[]=>by simp [m8]
 |x::r=>by
  have:=OL r;simp only [m8,dE,jZ,length_append,length_cons] at this⊢;split<;>(simp only [length_cons,length_nil];omega)
def Qr(ps:List bg)(n:aH)(h:n∈m8 ps):∃x,x∈ps /\ x.mutex=true /\ x.name=n:=by
 simp only [m8,List.mem_flatten,lP] at h;obtain ⟨l,⟨x,hx,rfl⟩,hn⟩:=h;cases hm:x.mutex with
 |true=>rw [hm] at hn;simp at hn;exact ⟨x,hx,hm,hn.symm⟩
 |false=>rw [hm] at hn;simp at hn
end
section
open Go.RowKit
def RJ{ms:List cn}{ps:List bg}{vars:List aH}{n:aH}(h:n∈m8 ps):ma ms ps vars ⟨n,[]⟩:=by
 obtain ⟨x,hx,hxm,rfl⟩:=Qr ps _ h;exact .param hx hxm
def sy(A B:List aV)(RA rw:List aP)(vv:aN)(S W:Nat)(l:List Int)(i0:Nat)(ms:List cn)(ps:List bg)(vars:List aH)(fn:aH)(G F FB:aO)(left:Int)(ar:Bool)(hi0:i0 <= l.length)(hl:l.length <= 1000000)(hm1:1 <= ms.length)(hm2:ms.length <= 1000)(hmz:∀m,m∈ms -> m.size <= 1000)(hp2:ps.length <= 1000)(hvl:vars.length <= 1000000):aU prog 42 [aF W,.agg [ah fn,aB cC ps,FB],av vv] [S] (eM A (⟨W,56,[.val (.pointer (some ⟨S,0,none⟩)),G,(aB aT ms),F,aA left,bG ar]⟩::B) (ee RA vv vars rw) S l i0) (λr s=>∃(f:cL) (i:Nat),r=.agg (encR f) /\ ma ms ps vars f /\ i <= l.length /\ s=eM A (⟨W,56,[.val (.pointer (some ⟨S,0,none⟩)),G,(aB aT ms),F,aA left,bG ar]⟩::B) (ee RA vv vars rw) S l i):=by
 refine bR 107 func42 ?_;refine go 18 λb1 b2=>?_;refine f_ 9 1 ?_;refine f9 (λg:Nat×aN×List aH=>(⟨107,aR g.2.1++[b2,b1,S],⟨⟨b2,117,[ah ⟨#[]⟩,aK]⟩::⟨b1,67,[ah fn,aB cC ps,FB]⟩::(A++⟨S,54,[.sl l.length (l.map λi=>aA i),ap i0]⟩::⟨W,56,[.val (.pointer (some ⟨S,0,none⟩)),G,(aB aT ms),F,aA left,bG ar]⟩::B),⟨g.2.1,9,1,g.2.2.length,cj g.2.2⟩::(ee RA vv vars rw)⟩,[(8,ae g.1),(7,av g.2.1),(0,aF W),(2,av vv),(4,aF b1),(6,aF b2)]⟩:AS)) (λg=>g.1 <= ms.length /\ g.2.2=nM (ms.take g.1)) (λg=>ms.length-g.1) (0,.slice none 0 0,[]) (bD ue) ⟨eT _,J⟩ ?_;rintro ⟨k,v,acc⟩ ⟨hk,hacc⟩;dsimp only at hk hacc;show br prog _ (⟨107,aR v++[b2,b1,S],⟨⟨b2,117,[ah ⟨#[]⟩,aK]⟩::⟨b1,67,[ah fn,aB cC ps,FB]⟩::(A++⟨S,54,[.sl l.length (l.map λi=>aA i),ap i0]⟩::⟨W,56,[.val (.pointer (some ⟨S,0,none⟩)),G,(aB aT ms),F,aA left,bG ar]⟩::B),⟨v,9,1,acc.length,cj acc⟩::(ee RA vv vars rw)⟩,[(8,ae k),(7,av v),(0,aF W),(2,av vv),(4,aF b1),(6,aF b2)]⟩:AS) _;have hal:acc.length=k:=by rw [hacc,nM,gI,ke];omega
 refine go 10 ?_;by_cases hlt:k<ms.length
 ·refine aI J fN (go 15 ?_);refine aD J (bf aT aT ms pD (λ_=>J) k J J J J Y V mS gq) (go 2 ?_);refine aX J (bV (r:=cj [ms[k].name]) io ?_);refine aX J (dQ [] pC J J V cN Y (@length_append _ acc [ms[k].name]).symm fu cm (fL (f:=λx=>aO.val (.string x))).symm λv1=>?_);refine go 6 ?_;refine bP J (go 2 ?_);refine ⟨(k+1,v1,acc++[ms[k].name]),⟨Y,by rw [U1 ms k hlt,hacc]⟩,by show ms.length-(k+1)<ms.length-k;omega,bD fD⟩
 refine aG J eR (go 11 ?_);refine aD J (lT [] J J J kP) ?_;have hke:acc.length=ms.length:=Y;rw [hke];refine go 10 ?_
 skip
 refine f9 (λg:Nat×aN×List aH×Nat=>(⟨107,aR g.2.1++[b2,b1,S],⟨⟨b2,117,[ah ⟨#[]⟩,aK]⟩::⟨b1,67,[ah fn,aB cC ps,FB]⟩::(A++⟨S,54,[.sl l.length (l.map λi=>aA i),ap i0]⟩::⟨W,56,[.val (.pointer (some ⟨S,0,none⟩)),G,(aB aT ms),F,aA left,bG ar]⟩::B),⟨g.2.1,9,1,g.2.2.2,cj g.2.2.1⟩::(ee RA vv vars rw)⟩,[(10,ae g.1),(7,av g.2.1),(0,aF W),(2,av vv),(4,aF b1),(6,aF b2),(9,ae ms.length)]⟩:AS)) (λg=>g.1 <= ps.length /\ g.2.2.1=nM ms++m8 (ps.take g.1) /\ g.2.2.2=g.2.2.1.length) (λg=>ps.length-g.1) (0,v,acc,ms.length) (ax J) ⟨eT _,by show acc=_;rw [hacc,take_of_length_le Y];simp [m8],hke.symm⟩ ?_;clear hal hacc hk hke;rintro ⟨j,v,acc,c⟩ ⟨hj,hacc,hc⟩;dsimp only at hj hacc hc;show br prog _ (⟨107,aR v++[b2,b1,S],⟨⟨b2,117,[ah ⟨#[]⟩,aK]⟩::⟨b1,67,[ah fn,aB cC ps,FB]⟩::(A++⟨S,54,[.sl l.length (l.map λi=>aA i),ap i0]⟩::⟨W,56,[.val (.pointer (some ⟨S,0,none⟩)),G,(aB aT ms),F,aA left,bG ar]⟩::B),⟨v,9,1,c,cj acc⟩::(ee RA vv vars rw)⟩,[(10,ae j),(7,av v),(0,aF W),(2,av vv),(4,aF b1),(6,aF b2),(9,ae ms.length)]⟩:AS) _;have hal:acc.length <= ms.length+2*ps.length:=by have h1:=OL (ps.take j);rw [hacc,length_append,nM,gI];rw [ke] at h1;omega
 refine go 7 ?_;by_cases hlj:j<ps.length
 ·refine aI J fN (go 12 ?_);refine aD J (bf cC cC ps iU (λ_=>J) j J J J J Y V iO gj) (go 4 ?_);refine im J (λhc4=>?_) (λhc4=>?_)
  ·have hmx:=hc4;refine cB [b2,b1,S,W] (aa [0,1,2,3] 12 (go 5 ?_));refine ac 4 J (bf cC cC ps iU (λ_=>J) j J J J J Y V iO gj) (aa [5,6,7,8,9] 6 (go 6 ?_));refine ac 10 J (bf cC cC ps iU (λ_=>J) j J J J J Y V iO gj) (aa [11,12] 3 (go 3 ?_));refine aW 13 J J (bV (r:=cj [ps[j].name,ps[j].name]) (hps:=(.cons J (.cons J .nil))) D4 ?_);refine aW 14 J J (dQ [] pC J J V cN Y (N:=c+2) J (λhn b hb=>gZ hn hb) cm (fL (f:=λx=>aO.val (.string x))).symm λv1=>?_);refine aa [15] 0 (go 2 ?_);refine bH (go 4 ?_);refine bP J (go 2 ?_);refine ⟨(j+1,v1,acc++[ps[j].name,ps[j].name],c+2),⟨Y,by show acc++[ps[j].name,ps[j].name]=_;rw [JH ps j hlj,hacc,if_pos hmx,append_assoc],by simp [hc]⟩,by show ps.length-(j+1)<ps.length-j;omega,bD fD⟩
  have hmx:=hc4;refine go 5 ?_;refine bP J (go 2 ?_);refine ⟨(j+1,v,acc,c),⟨Y,by show acc=_;rw [JH ps j hlj,hacc,if_neg (by rw [hmx];decide),eV],hc⟩,by show ps.length-(j+1)<ps.length-j;omega,bD fD⟩
 refine aG J eR (go 10 ?_);have hfin:acc=nM ms++m8 ps:=by rw [hacc,take_of_length_le Y]
 have hlen:ms.length <= acc.length:=by rw [hfin,length_append,nM,gI];omega
 subst hc;refine iX 7 J ?_;refine go 6 ?_;refine aX J (bm [S] J J V fG J (fW (_::_::A) _ _ _ l i0 _ hi0 hl Y Y) (bY) (bY (h:=by simp [aJ.bl])) (λ_=>bY) ?_);rintro r1 s1 ⟨z1,i1,rfl,hy1,hi1,rfl⟩;refine go 7 ?_;refine aD J (mj (λx=>ah x) acc z1 J J J J Y kP iK) (go 11 λb3=>?_);by_cases hzm:z1<ms.length
 ·refine aI J fN (go 7 ?_);refine aD J (bf aT aT ms pD (λ_=>J) z1 J J J J Y V mS gq) (go 2 ?_);by_cases hsz:0<ms[z1].size
  ·refine aI J fN (go 13 ?_);refine aD J (bf aT aT ms pD (λ_=>J) z1 J J J J Y V mS gq) (go 2 ?_);refine aX J (bm [S] J J V call77 J (Xi (_::_::_::A) _ RA _ _ S W l i1 vars G (aB aT ms) F left ar ms[z1].size hsz (by have:=hmz _ (getElem_mem hzm);omega) hi1 hl hvl) (bY) (bY (h:=by simp [aJ.bl])) (λ_=>bY) ?_);rintro r2 s2 ⟨x2,i2,rfl,hm2,hi2,rfl⟩;refine aX J (bV (hf:=dc bc bo x2 (fv _) J J) o7 ?_);refine go 11 ?_;exact ⟨.inr J,_,eM A (⟨W,56,[.val (.pointer (some ⟨S,0,none⟩)),G,(aB aT ms),F,aA left,bG ar]⟩::B) (ee RA vv vars rw) S l i2,(gK (bL.agg (.r (.r .nil))) (bK J (bu [_] J J wF xM (cH J J)))),ai eZ (.refl _),⟨⟨acc[z1],[x2]⟩,i2,J,(by rw [(show acc[z1]=ms[z1].name by simp only [hfin];rw [rD (by rw [nM,gI];exact hzm)];simp [nM])];exact .arr (getElem_mem hzm) hsz hm2),hi2,J⟩⟩
  refine aG J eR (go 13 ?_);exact ⟨.inr J,_,eM A (⟨W,56,[.val (.pointer (some ⟨S,0,none⟩)),G,(aB aT ms),F,aA left,bG ar]⟩::B) (ee RA vv vars rw) S l i1,(gK (bL.agg (.r (.n .nil))) (bK J (bu [_] J J wF xM (cH J J)))),ai eZ (.refl _),⟨⟨acc[z1],[]⟩,i1,J,(by rw [(show acc[z1]=ms[z1].name by simp only [hfin];rw [rD (by rw [nM,gI];exact hzm)];simp [nM])];exact .scalar (getElem_mem hzm) Y),hi1,J⟩⟩
 refine aG J eR (go 24 ?_);exact ⟨.inr J,_,eM A (⟨W,56,[.val (.pointer (some ⟨S,0,none⟩)),G,(aB aT ms),F,aA left,bG ar]⟩::B) (ee RA vv vars rw) S l i1,(gK (bL.agg (.r (.n .nil))) (bK J (bu [_] J J wF xM (cH J J)))),ai eZ (.refl _),⟨⟨acc[z1],[]⟩,i1,J,(RJ (show acc[z1]∈m8 ps by simp only [hfin];rw [qz (by rw [nM,gI];omega)];exact getElem_mem _)),hi1,J⟩⟩
def mr.snoc{ms:List cn}{ps:List bg}{vars:List aH}{l:List bg}{al:List cI}(h:mr ms ps vars l al){x:bg}{a:cI}(ha:(x.mutex=true /\ a=⟨true,a.ref,.zero⟩ /\ ma ms ps vars a.ref)∨(x.mutex=false /\ a=⟨false,.zero,a.expr⟩ /\ fH vars 2 a.expr)):mr ms ps vars (l++[x]) (al++[a]):=by
 induction h with
 |nil=>
  rcases ha with ⟨h1,h2,h3⟩|⟨h1,h2,h3⟩
  ·rw [h2];exact .mutex h1 h3 .nil
  ·rw [h2];exact .expr h1 h3 .nil
 |mutex hx hr _ ih=>exact .mutex hx hr ih
 |expr hx he _ ih=>exact .expr hx he ih
def J3(A B:List aV)(RA rw:List aP)(vv:aN)(S W:Nat)(l:List Int)(i0:Nat)(ms:List cn)(ps:List bg)(vars:List aH)(fn:aH)(G F FB:aO)(left:Int)(ar:Bool)(gn:aH)(qs:List bg)(GB:aO)(hi0:i0 <= l.length)(hl:l.length <= 1000000)(hm1:1 <= ms.length)(hm2:ms.length <= 1000)(hmz:∀m,m∈ms -> m.size <= 1000)(hp2:ps.length <= 1000)(hvl:vars.length <= 1000000)(hq2:qs.length <= 1000):aU prog 44 [aF W,.agg [ah fn,aB cC ps,FB],.agg [ah gn,aB cC qs,GB],av vv] [S] (eM A (⟨W,56,[.val (.pointer (some ⟨S,0,none⟩)),G,(aB aT ms),F,aA left,bG ar]⟩::B) (ee RA vv vars rw) S l i0) (λr s=>∃(al:List cI) (i:Nat),r=.c (aB cd al) /\ mr ms ps vars qs al /\ i <= l.length /\ s=eM A (⟨W,56,[.val (.pointer (some ⟨S,0,none⟩)),G,(aB aT ms),F,aA left,bG ar]⟩::B) (ee RA vv vars rw) S l i):=by
 refine bR 40 func44 ?_;refine go 19 λb1 b2=>?_;refine f_ 135 7 ?_;refine f9 (λg:Nat×aN×List cI×Nat=>(⟨40,aR g.2.1++[b2,b1,S],⟨⟨b2,67,[ah gn,aB cC qs,GB]⟩::⟨b1,67,[ah fn,aB cC ps,FB]⟩::(A++⟨S,54,[.sl l.length (l.map λi=>aA i),ap g.2.2.2]⟩::⟨W,56,[.val (.pointer (some ⟨S,0,none⟩)),G,(aB aT ms),F,aA left,bG ar]⟩::B),⟨g.2.1,135,7,g.2.2.1.length,g.2.2.1.flatMap cd⟩::(ee RA vv vars rw)⟩,[(10,ae g.1),(9,av g.2.1),(0,aF W),(3,av vv),(5,aF b1),(6,aF b2)]⟩:AS)) (λg=>g.1 <= qs.length /\ g.2.2.1.length=g.1 /\ mr ms ps vars (qs.take g.1) g.2.2.1 /\ g.2.2.2 <= l.length) (λg=>qs.length-g.1) (0,.slice none 0 0,[],i0) (bD ue) ⟨eT _,J,.nil,hi0⟩ ?_;rintro ⟨k,v,acc,ik⟩ ⟨hk,hal,hacc,hik⟩;dsimp only at hk hal hacc hik;show br prog _ (⟨40,aR v++[b2,b1,S],⟨⟨b2,67,[ah gn,aB cC qs,GB]⟩::⟨b1,67,[ah fn,aB cC ps,FB]⟩::(A++⟨S,54,[.sl l.length (l.map λi=>aA i),ap ik]⟩::⟨W,56,[.val (.pointer (some ⟨S,0,none⟩)),G,(aB aT ms),F,aA left,bG ar]⟩::B),⟨v,135,7,acc.length,acc.flatMap cd⟩::(ee RA vv vars rw)⟩,[(10,ae k),(9,av v),(0,aF W),(3,av vv),(5,aF b1),(6,aF b2)]⟩:AS) _;refine go 7 ?_;by_cases hlt:k<qs.length
 ·refine aI J fN (go 12 ?_);refine aD J (bf cC cC qs iU (λ_=>J) k J J J J Y V iO gj) (go 4 ?_);refine im J (λhc2=>?_) (λhc2=>?_)
  ·have hmx:=hc2;refine go 5 ?_;refine aX J (bm [S] J J V call42 J (sy (_::_::A) _ (_::RA) _ _ S W l ik ms ps vars fn G F FB left ar hik hl hm1 hm2 hmz hp2 hvl) (bY) (bY (h:=by simp [aJ.bl])) (λ_=>bY) ?_);rintro r1 s1 ⟨f1,i1,rfl,hm1,hi1,rfl⟩;refine go 1 ?_;refine ct 29 J (bL.agg (.r (.r (.r (.r (.r (.r (.n .nil)))))))) ?_;refine aX J (bV (hf:=dc cd cd ⟨true,f1,.zero⟩ J J J) ye ?_);refine aX J (dQ [] EE J J V cN Y (@length_append _ acc [⟨true,f1,.zero⟩]).symm fu cm (dj (f:=cd)).symm λv2=>?_);refine go 6 ?_;refine bP J (go 2 ?_);refine ⟨(k+1,v2,acc++[⟨true,f1,.zero⟩],i1),⟨Y,by simp [hal],by rw [gz hlt];exact hacc.snoc (.inl ⟨hmx,rfl,hm1⟩),hi1⟩,by show qs.length-(k+1)<qs.length-k;omega,bD fD⟩
  have hmx:=hc2;refine go 4 ?_;refine aX J (bm [S] J J V call43 J (uW (_::_::A) _ (_::RA) _ _ S W l ik vars G (aB aT ms) F left ar hik hl hvl) (bY) (bY (h:=by simp [aJ.bl])) (λ_=>bY) ?_);rintro r1 s1 ⟨x1,i1,rfl,hm1,hi1,rfl⟩;refine go 1 ?_;refine ct 36 J (bL.agg (.r (.r (.n (.r (.r (.r (.r .nil)))))))) ?_;refine aX J (bV (hf:=dc cd cd ⟨false,.zero,x1⟩ J J J) ye ?_);refine aX J (dQ [] EE J J V cN Y (@length_append _ acc [⟨false,.zero,x1⟩]).symm fu cm (dj (f:=cd)).symm λv2=>?_);refine go 6 ?_;refine bP J (go 2 ?_);refine ⟨(k+1,v2,acc++[⟨false,.zero,x1⟩],i1),⟨Y,by simp [hal],by rw [gz hlt];exact hacc.snoc (.inr ⟨hmx,rfl,hm1⟩),hi1⟩,by show qs.length-(k+1)<qs.length-k;omega,bD fD⟩
 refine aG J eR (go 10 ?_);refine iX 9 J ?_;refine go 5 ?_;exact ⟨.inr J,_,eM A (⟨W,56,[.val (.pointer (some ⟨S,0,none⟩)),G,(aB aT ms),F,aA left,bG ar]⟩::B) (ee RA vv vars rw) S l ik,bK J (bN J),ai cq (.refl _),⟨acc,ik,J,by rw [take_of_length_le Y] at hacc;exact hacc,hik,J⟩⟩
end
end Go.Proofs.YtjgeihmhppadaaaGreatDoor
