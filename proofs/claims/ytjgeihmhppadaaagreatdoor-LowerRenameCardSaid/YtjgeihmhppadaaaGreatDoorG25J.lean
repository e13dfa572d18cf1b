import Derived.Test.YtjgeihmhppadaaaGreatDoorG24J
set_option linter.all false
set_option synthInstance.maxHeartbeats 1000000
set_option synthInstance.maxSize 1000000
set_option maxHeartbeats 1600000
set_option maxRecDepth 100000
namespace Go.Proofs.YtjgeihmhppadaaaGreatDoor
open Go.Proofs.Tryz
open List (length_append length_cons length_nil mem_append mem_cons not_mem_nil append_assoc getElem_mem take_of_length_le)
section
open Go.RowKit
theorem bEy{l:List Tok}{n:ByteArray}{k:Nat}(h:cS l k [40]=false):iB l n k=(fD l [61] k).bind λ_ k=>(lJ l k).bind λe k=>oO l (.mk 2 n e .zero [] [] []) k:=by
 unfold iB
 by_cases h2:cS l k [61]=true
 ·rw [if_pos h2];unfold fD;rw [if_pos h2];rfl
 rw [if_neg h2]
 unfold rA jC fD
 rw [if_neg B5,if_neg h2];rfl
theorem bEt{l:List Tok}{n:ByteArray}{k:Nat}(h:cS l k [40]=true):iB l n k=(rA l k).bind λa k=>oO l (.mk 3 n .zero .zero a [] []) k:=by
 unfold iB
 rw [if_neg]
 intro h2
 have h3:=(mD h).2
 rw [(mD h2).2] at h3
 revert h3;decide
theorem bFl(A B:List Box)(rw:List bA)(P:Nat)(l:List Tok)(k b e dp:Nat)(blk:Nat -> bN (List aJ))(hok:TOk l)(hk:k<l.length)(he:e<16)(hblk:∀(A B:List Box)(rw:List bA)(P k b e:Nat),k<l.length -> e<16 -> aL prog 67 [pP P] [P] (RSt A B rw P l k b e 0 dp) (RAn A B rw P l 0 dp (λx=>.c (Sq encS x)) e b (blk k))):aL prog 87 [pP P] [P] (RSt A B rw P l k b e 0 dp) (RAn A B rw P l 0 dp (λx=>.agg (dG x)) e b (fB l blk k)):=by
 have hlen:=hok.len
 refine acX 98 func87 ?_
 refine go 17 λb1 b2=>?_
 refine wcQ Y call62 Y (bD2 (_::_::A) _ _ _ l k b e 0 dp [118,97,114] V hok hk) ?_
 rintro t1 s1 (⟨rfl,ha1,hm1,rfl,rfl⟩|⟨ha1,rfl,rfl⟩)
 ·refine go 7 ?_
  refine wcQ Y call65 Y (bEb (_::_::A) _ _ _ l (k+1) b 0 0 dp hok hm1 V) ?_
  rintro t3 s3 ⟨x3,k3,u3,e3,rfl,hr3,hk3,he3,rfl⟩
  refine go 9 ?_
  refine wcQ Y call86 Y (bZx (_::_::A) _ _ _ l k3 u3 e3 0 dp [61] V hok hk3 he3) ?_
  rintro t4 s4 ⟨x4,k4,u4,e4,rfl,hr4,hk4,he4,rfl⟩
  refine go 5 ?_
  refine wcQ Y call114 Y (bD9 (_::_::A) _ _ _ l k4 u4 e4 dp hok hk4 he4) ?_
  rintro t5 s5 ⟨x5,k5,u5,e5,rfl,hr5,hk5,he5,rfl⟩
  refine go 6 ?_
  refine wcQ Y call86 Y (bZx (_::_::A) _ _ _ l k5 u5 e5 0 dp [59] V hok hk5 he5) ?_
  rintro t6 s6 ⟨x6,k6,u6,e6,rfl,hr6,hk6,he6,rfl⟩
  refine go 10 ?_
  have hs:kX 0 b (qI l (k+1)) (.mk 1 x3 x5 .zero [] [] []) k6 u6 e6:=by
   unfold qI oO
   exact hr3.bind (hr4.bind (hr5.bind (hr6.bind (kX.pure _ _ _ _))))
  exact ⟨.inr Y,_,(RSt A B rw P l (k6) (u6) (e6) (0) (dp)),(eK (Wk.agg (.r (.r (.r (.r (.r (.r (.r (.n (.n (.n (.n .nil)))))))))))) (aR Y (aO [_] Y Y isAgg120 sizeOf120 (bK Y Y)))),aA (.cons _ (.cons _ (.refl _))) (.refl _),⟨(.mk 1 x3 x5 .zero [] [] []),k6,u6,e6,Y,hs.eq (λ_=>by unfold fB;rw [if_pos ha1]),hk6,he6,Y⟩⟩
 refine go 7 ?_
 refine wcQ Y call62 Y (bD2 (_::_::A) _ _ _ l k b e 0 dp [103,111] V hok hk) ?_
 rintro t8 s8 (⟨rfl,ha8,hm8,rfl,rfl⟩|⟨ha8,rfl,rfl⟩)
 ·refine go 7 ?_
  refine wcQ Y call65 Y (bEb (_::_::A) _ _ _ l (k+1) b 0 0 dp hok hm8 V) ?_
  rintro t10 s10 ⟨x10,k10,u10,e10,rfl,hr10,hk10,he10,rfl⟩
  refine go 9 ?_
  refine wcQ Y call115 Y (bE5 (_::_::A) _ _ _ l k10 u10 e10 dp hok hk10 he10) ?_
  rintro t11 s11 ⟨x11,k11,u11,e11,rfl,hr11,hk11,he11,rfl⟩
  refine go 6 ?_
  refine wcQ Y call86 Y (bZx (_::_::A) _ _ _ l k11 u11 e11 0 dp [59] V hok hk11 he11) ?_
  rintro t12 s12 ⟨x12,k12,u12,e12,rfl,hr12,hk12,he12,rfl⟩
  refine go 10 ?_
  have hs:kX 0 b (goP l (k+1)) (.mk 4 x10 .zero .zero x11 [] []) k12 u12 e12:=by
   unfold goP oO
   exact hr10.bind (hr11.bind (hr12.bind (kX.pure _ _ _ _)))
  exact ⟨.inr Y,_,(RSt A B rw P l (k12) (u12) (e12) (0) (dp)),(eK (Wk.agg (.r (.r (.r (.r (.r (.n (.r (.n (.r (.n (.n .nil)))))))))))) (aR Y (aO [_] Y Y isAgg120 sizeOf120 (bK Y Y)))),aA (.cons _ (.cons _ (.refl _))) (.refl _),⟨(.mk 4 x10 .zero .zero x11 [] []),k12,u12,e12,Y,hs.eq (λ_=>by unfold fB;rw [if_neg Dk,if_pos ha8]),hk12,he12,Y⟩⟩
 refine go 7 ?_
 refine wcQ Y call62 Y (bD2 (_::_::A) _ _ _ l k b e 0 dp [108,111,99,107] V hok hk) ?_
 rintro t14 s14 (⟨rfl,ha14,hm14,rfl,rfl⟩|⟨ha14,rfl,rfl⟩)
 ·refine go 7 ?_
  refine wcQ Y call116 Y (bFc (_::_::A) _ _ _ l (k+1) b 0 dp hok hm14 V) ?_
  rintro t16 s16 ⟨x16,k16,u16,e16,rfl,hr16,hk16,he16,rfl⟩
  refine go 8 ?_
  refine wcQ Y call86 Y (bZx (_::_::A) _ _ _ l k16 u16 e16 0 dp [59] V hok hk16 he16) ?_
  rintro t17 s17 ⟨x17,k17,u17,e17,rfl,hr17,hk17,he17,rfl⟩
  refine go 10 ?_
  have hs:kX 0 b (nH l 5 (k+1)) (.mk 5 aK .zero x16 [] [] []) k17 u17 e17:=by
   unfold nH oO
   exact hr16.bind (hr17.bind (kX.pure _ _ _ _))
  exact ⟨.inr Y,_,(RSt A B rw P l (k17) (u17) (e17) (0) (dp)),(eK (Wk.agg (.r (.r (.r (.r (.r (.n (.r (.r (.n (.n (.n .nil)))))))))))) (aR Y (aO [_] Y Y isAgg120 sizeOf120 (bK Y Y)))),aA (.cons _ (.cons _ (.refl _))) (.refl _),⟨(.mk 5 aK .zero x16 [] [] []),k17,u17,e17,Y,hs.eq (λ_=>by unfold fB;rw [if_neg Dk,if_neg Di,if_pos ha14]),hk17,he17,Y⟩⟩
 refine go 7 ?_
 refine wcQ Y call62 Y (bD2 (_::_::A) _ _ _ l k b e 0 dp [117,110,108,111,99,107] V hok hk) ?_
 rintro t19 s19 (⟨rfl,ha19,hm19,rfl,rfl⟩|⟨ha19,rfl,rfl⟩)
 ·refine go 7 ?_
  refine wcQ Y call116 Y (bFc (_::_::A) _ _ _ l (k+1) b 0 dp hok hm19 V) ?_
  rintro t21 s21 ⟨x21,k21,u21,e21,rfl,hr21,hk21,he21,rfl⟩
  refine go 8 ?_
  refine wcQ Y call86 Y (bZx (_::_::A) _ _ _ l k21 u21 e21 0 dp [59] V hok hk21 he21) ?_
  rintro t22 s22 ⟨x22,k22,u22,e22,rfl,hr22,hk22,he22,rfl⟩
  refine go 10 ?_
  have hs:kX 0 b (nH l 6 (k+1)) (.mk 6 aK .zero x21 [] [] []) k22 u22 e22:=by
   unfold nH oO
   exact hr21.bind (hr22.bind (kX.pure _ _ _ _))
  exact ⟨.inr Y,_,(RSt A B rw P l (k22) (u22) (e22) (0) (dp)),(eK (Wk.agg (.r (.r (.r (.r (.r (.n (.r (.r (.n (.n (.n .nil)))))))))))) (aR Y (aO [_] Y Y isAgg120 sizeOf120 (bK Y Y)))),aA (.cons _ (.cons _ (.refl _))) (.refl _),⟨(.mk 6 aK .zero x21 [] [] []),k22,u22,e22,Y,hs.eq (λ_=>by unfold fB;rw [if_neg Dk,if_neg Di,if_neg E6,if_pos ha19]),hk22,he22,Y⟩⟩
 refine go 7 ?_
 refine wcQ Y call62 Y (bD2 (_::_::A) _ _ _ l k b e 0 dp [105,102] V hok hk) ?_
 rintro t24 s24 (⟨rfl,ha24,hm24,rfl,rfl⟩|⟨ha24,rfl,rfl⟩)
 ·refine go 7 ?_
  refine wcQ Y call114 Y (bD9 (_::_::A) _ _ _ l (k+1) b 0 dp hok hm24 V) ?_
  rintro t26 s26 ⟨x26,k26,u26,e26,rfl,hr26,hk26,he26,rfl⟩
  refine go 9 ?_
  refine wcQ Y call67 Y (hblk (_::_::A) _ _ _ k26 u26 e26 hk26 he26) ?_
  rintro t27 s27 ⟨x27,k27,u27,e27,rfl,hr27,hk27,he27,rfl⟩
  refine go 7 ?_
  refine wcQ Y call62 Y (bD2 (_::_::A) _ _ _ l k27 u27 e27 0 dp [101,108,115,101] V hok hk27) ?_
  rintro t28 s28 (⟨rfl,ha28,hm28,rfl,rfl⟩|⟨ha28,rfl,rfl⟩)
  ·refine go 5 ?_
   refine wcQ Y call67 Y (hblk (_::_::A) _ _ _ (k27+1) u27 0 hm28 V) ?_
   rintro t30 s30 ⟨x30,k30,u30,e30,rfl,hr30,hk30,he30,rfl⟩
   refine go 12 ?_
   have hs:kX 0 b (ifP l blk (k+1)) (.mk 7 aK x26 .zero [] x27 x30) k30 u30 e30:=by
    unfold ifP
    exact hr26.bind (hr27.bind (by unfold tA;rw [if_pos ha28];exact hr30.map (f:=λf=>aJ.mk 7 aK x26 .zero [] x27 f)))
   exact ⟨.inr Y,_,(RSt A B rw P l (k30) (u30) (e30) (0) (dp)),(eK (Wk.agg (.r (.r (.r (.r (.r (.r (.r (.n (.n (.r (.r .nil)))))))))))) (aR Y (aO [_] Y Y isAgg120 sizeOf120 (bK Y Y)))),aA (.cons _ (.cons _ (.refl _))) (.refl _),⟨(.mk 7 aK x26 .zero [] x27 x30),k30,u30,e30,Y,hs.eq B9,hk30,he30,Y⟩⟩
  refine go 13 ?_
  have hs:kX 0 b (ifP l blk (k+1)) (.mk 7 aK x26 .zero [] x27 []) k27 u27 e27:=by
   unfold ifP
   exact hr26.bind (hr27.bind ((kX.pure _ _ _ _).eq λh=>by unfold tA;rw [if_neg (by rw [ha28 h];decide)]))
  exact ⟨.inr Y,_,(RSt A B rw P l (k27) (u27) (e27) (0) (dp)),(eK (Wk.agg (.r (.r (.r (.r (.r (.r (.r (.n (.n (.r (.n .nil)))))))))))) (aR Y (aO [_] Y Y isAgg120 sizeOf120 (bK Y Y)))),aA (.cons _ (.cons _ (.refl _))) (.refl _),⟨(.mk 7 aK x26 .zero [] x27 []),k27,u27,e27,Y,hs.eq B9,hk27,he27,Y⟩⟩
 refine go 7 ?_
 refine wcQ Y call62 Y (bD2 (_::_::A) _ _ _ l k b e 0 dp [119,104,105,108,101] V hok hk) ?_
 rintro t33 s33 (⟨rfl,ha33,hm33,rfl,rfl⟩|⟨ha33,rfl,rfl⟩)
 ·refine go 7 ?_
  refine wcQ Y call114 Y (bD9 (_::_::A) _ _ _ l (k+1) b 0 dp hok hm33 V) ?_
  rintro t35 s35 ⟨x35,k35,u35,e35,rfl,hr35,hk35,he35,rfl⟩
  refine go 8 ?_
  refine wcQ Y call67 Y (hblk (_::_::A) _ _ _ k35 u35 e35 hk35 he35) ?_
  rintro t36 s36 ⟨x36,k36,u36,e36,rfl,hr36,hk36,he36,rfl⟩
  refine go 12 ?_
  have hs:kX 0 b (pJ l blk (k+1)) (.mk 8 aK x35 .zero [] x36 []) k36 u36 e36:=by
   unfold pJ
   exact hr35.bind (hr36.bind (kX.pure _ _ _ _))
  exact ⟨.inr Y,_,(RSt A B rw P l (k36) (u36) (e36) (0) (dp)),(eK (Wk.agg (.r (.r (.r (.r (.r (.r (.r (.n (.n (.r (.n .nil)))))))))))) (aR Y (aO [_] Y Y isAgg120 sizeOf120 (bK Y Y)))),aA (.cons _ (.cons _ (.refl _))) (.refl _),⟨(.mk 8 aK x35 .zero [] x36 []),k36,u36,e36,Y,hs.eq (λ_=>by unfold fB;rw [if_neg Dk,if_neg Di,if_neg E6,if_neg (by rw [ha19 rfl];decide),if_neg (by rw [ha24 rfl];decide),if_pos ha33]),hk36,he36,Y⟩⟩
 refine go 7 ?_
 refine wcQ Y call62 Y (bD2 (_::_::A) _ _ _ l k b e 0 dp [114,101,116,117,114,110] V hok hk) ?_
 rintro t38 s38 (⟨rfl,ha38,hm38,rfl,rfl⟩|⟨ha38,rfl,rfl⟩)
 ·refine go 12 ?_
  refine wcQ Y call86 Y (bZx (_::_::A) _ _ _ l (k+1) b 0 0 dp [59] V hok hm38 V) ?_
  rintro t40 s40 ⟨x40,k40,u40,e40,rfl,hr40,hk40,he40,rfl⟩
  refine go 10 ?_
  have hs:kX 0 b (aD8 l (k+1)) (.mk 9 aK .zero .zero [] [] []) k40 u40 e40:=by
   unfold aD8 oO
   exact hr40.bind (kX.pure _ _ _ _)
  exact ⟨.inr Y,_,(RSt A B rw P l (k40) (u40) (e40) (0) (dp)),(eK (Wk.agg (.r (.r (.r (.r (.r (.n (.r (.n (.n (.n (.n .nil)))))))))))) (aR Y (aO [_] Y Y isAgg120 sizeOf120 (bK Y Y)))),aA (.cons _ (.cons _ (.refl _))) (.refl _),⟨(.mk 9 aK .zero .zero [] [] []),k40,u40,e40,Y,hs.eq (λ_=>by unfold fB;rw [if_neg Dk,if_neg Di,if_neg E6,if_neg (by rw [ha19 rfl];decide),if_neg (by rw [ha24 rfl];decide),if_neg (by rw [ha33 rfl];decide),if_pos ha38]),hk40,he40,Y⟩⟩
 refine go 7 ?_
 refine wcQ Y call65 Y (bEb (_::_::A) _ _ _ l k b e 0 dp hok hk he) ?_
 rintro t42 s42 ⟨x42,k42,u42,e42,rfl,hr42,hk42,he42,rfl⟩
 refine go 10 ?_
 refine wcQ Y call60 Y (bD0 (_::_::A) _ _ _ l k42 u42 e42 0 dp [40] V hok hk42) ?_
 rintro t43 s43 (⟨rfl,ha43,rfl,rfl⟩|⟨ha43,rfl,rfl⟩)
 ·refine go 5 ?_
  refine wcQ Y call115 Y (bE5 (_::_::A) _ _ _ l k42 u42 0 dp hok hk42 V) ?_
  rintro t45 s45 ⟨x45,k45,u45,e45,rfl,hr45,hk45,he45,rfl⟩
  refine go 8 ?_
  refine wcQ Y call86 Y (bZx (_::_::A) _ _ _ l k45 u45 e45 0 dp [59] V hok hk45 he45) ?_
  rintro t46 s46 ⟨x46,k46,u46,e46,rfl,hr46,hk46,he46,rfl⟩
  refine go 10 ?_
  have hs:kX e b (dAv l k) (.mk 3 x42 .zero .zero x45 [] []) k46 u46 e46:=by
   unfold dAv
   exact hr42.bind (by rw [bEt ha43];unfold oO;exact hr45.bind (hr46.bind (kX.pure _ _ _ _)))
  exact ⟨.inr Y,_,(RSt A B rw P l (k46) (u46) (e46) (0) (dp)),(eK (Wk.agg (.r (.r (.r (.r (.r (.n (.r (.n (.r (.n (.n .nil)))))))))))) (aR Y (aO [_] Y Y isAgg120 sizeOf120 (bK Y Y)))),aA (.cons _ (.cons _ (.refl _))) (.refl _),⟨(.mk 3 x42 .zero .zero x45 [] []),k46,u46,e46,Y,hs.eq Aj,hk46,he46,Y⟩⟩
 refine go 6 ?_
 refine wcQ Y call86 Y (bZx (_::_::A) _ _ _ l k42 u42 e42 0 dp [61] V hok hk42 he42) ?_
 rintro t48 s48 ⟨x48,k48,u48,e48,rfl,hr48,hk48,he48,rfl⟩
 refine go 4 ?_
 refine wcQ Y call114 Y (bD9 (_::_::A) _ _ _ l k48 u48 e48 dp hok hk48 he48) ?_
 rintro t49 s49 ⟨x49,k49,u49,e49,rfl,hr49,hk49,he49,rfl⟩
 refine go 6 ?_
 refine wcQ Y call86 Y (bZx (_::_::A) _ _ _ l k49 u49 e49 0 dp [59] V hok hk49 he49) ?_
 rintro t50 s50 ⟨x50,k50,u50,e50,rfl,hr50,hk50,he50,rfl⟩
 refine go 10 ?_
 have hs:kX e b (dAv l k) (.mk 2 x42 x49 .zero [] [] []) k50 u50 e50:=by
  unfold dAv
  exact hr42.bind (kX.eq (r:=(fD l [61] _).bind λ_ k=>(lJ l k).bind λe k=>oO l (.mk 2 x42 e .zero [] [] []) k) (by unfold oO;exact hr48.bind (hr49.bind (hr50.bind (kX.pure _ _ _ _)))) λh=>(bEy (ha43 h)).symm)
 exact ⟨.inr Y,_,(RSt A B rw P l (k50) (u50) (e50) (0) (dp)),(eK (Wk.agg (.r (.r (.r (.r (.r (.r (.r (.n (.n (.n (.n .nil)))))))))))) (aR Y (aO [_] Y Y isAgg120 sizeOf120 (bK Y Y)))),aA (.cons _ (.cons _ (.refl _))) (.refl _),⟨(.mk 2 x42 x49 .zero [] [] []),k50,u50,e50,Y,hs.eq Aj,hk50,he50,Y⟩⟩
theorem bFj(A B:List Box)(rw:List bA)(P:Nat)(l:List Tok)(k b e:Nat)(hok:TOk l)(hk:k<l.length)(he:e<16):aL prog 67 [pP P] [P] (RSt A B rw P l k b e 0 24) (RAn A B rw P l 0 24 (λx=>.c (Sq encS x)) e b (eX l 0 k)):=by
 have hlen:=hok.len
 refine acX 47 func67 ?_
 refine go 9 ?_
 refine wcQ Y call60 Y (bD0 (A) _ _ _ l k b e 0 24 [123] V hok hk) ?_
 rintro t1 s1 (⟨rfl,ha1,rfl,rfl⟩|⟨ha1,rfl,rfl⟩)
 focus
  refine go 5 ?_
  refine wcp true Y Fs (go 6 ?_)
  refine wcQ Y call61 Y (bEa (A) _ _ _ l k b 0 0 24 3) ?_
  rintro t3 s3 ⟨u3,e3,hf3,rfl,rfl⟩
  obtain ⟨rfl,rfl⟩:=hf3.1 rfl
  refine go 5 ?_
  refine wcQ Y call86 Y (bZx (A) _ _ _ l k k 3 0 24 [123] V hok hk V) ?_
  rintro t4 s4 ⟨x4,k4,u4,e4,rfl,hr4,hk4,he4,rfl⟩
  refine go 8 ?_
  refine wad Y (go 12 ?_)
  have hbad:e4≠0 /\ kX 0 b (eX l 0 k) [] k4 u4 e4:=by
   rcases hr4 with ⟨_,rfl,rfl⟩|⟨h,_⟩
   ·exact ⟨V,.err _ _ _ _ _ (by unfold eX;rw [if_pos ha1]) V⟩
   exact absurd h V
  refine qR 120 11 ?_
  refine fM (λg:List aJ×Value×Nat×Nat×Nat=>(⟨47,aY g.2.1++[P],⟨A++⟨P,144,[Sq aW l,Vi (((g.2.2.1):Nat):Int),Vi (((g.2.2.2.1):Nat):Int),Vi (((g.2.2.2.2):Nat):Int),nC 0,Vi (((25):Nat):Int)]⟩::B,⟨g.2.1,120,11,(g.1).length,(g.1).flatMap encS⟩::rw⟩,[(3,Cv g.2.1),(0,pP P)]⟩:AS)) (λg=>g.2.2.1<l.length /\ g.2.2.2.2<16 /\ g.2.2.2.2≠0 /\ kX 0 b (eX l 0 k) g.1 g.2.2.1 g.2.2.2.1 g.2.2.2.2) (λg=>if g.2.2.2.2=0 then l.length-g.2.2.1+1 else 0) ([],.slice none 0 0,k4,u4,e4) (cQf (λ_ h=>h)) ⟨hk4,he4,hbad.1,hbad.2⟩ ?_
 rotate_left
 refine go 15 ?_
 refine wcQ Y call86 Y (bZx (A) _ _ _ l k b e 0 24 [123] V hok hk he) ?_
 rintro t7 s7 ⟨x7,k7,u7,e7,rfl,hr7,hk7,he7,rfl⟩
 refine go 8 ?_
 refine wad Y (go 12 ?_)
 have hbad:e7≠0 /\ kX e b (eX l 0 k) [] k7 u7 e7:=by
  rcases hr7 with ⟨h,rfl,rfl⟩|⟨h,h2⟩
  ·exact ⟨h,.skip h _ _ _⟩
  subst h
  have hq:=ha1 Y
  have h9:fD l [123] k=.err k 4:=by unfold fD;rw [if_neg (by rw [hq];decide)]
  rw [h9] at h2
  rcases h2 with ⟨h2,_,_⟩|⟨h2,h3⟩
  ·cases h2
  cases h2;exact ⟨h3,.err _ _ _ _ _ (by unfold eX;rw [if_neg (by rw [hq];decide)]) h3⟩
 refine qR 120 11 ?_
 refine fM (λg:List aJ×Value×Nat×Nat×Nat=>(⟨47,aY g.2.1++[P],⟨A++⟨P,144,[Sq aW l,Vi (((g.2.2.1):Nat):Int),Vi (((g.2.2.2.1):Nat):Int),Vi (((g.2.2.2.2):Nat):Int),nC 0,Vi (((25):Nat):Int)]⟩::B,⟨g.2.1,120,11,(g.1).length,(g.1).flatMap encS⟩::rw⟩,[(3,Cv g.2.1),(0,pP P)]⟩:AS)) (λg=>g.2.2.1<l.length /\ g.2.2.2.2<16 /\ g.2.2.2.2≠0 /\ kX e b (eX l 0 k) g.1 g.2.2.1 g.2.2.2.1 g.2.2.2.2) (λg=>if g.2.2.2.2=0 then l.length-g.2.2.1+1 else 0) ([],.slice none 0 0,k7,u7,e7) (cQf (λ_ h=>h)) ⟨hk7,he7,hbad.1,hbad.2⟩ ?_
 all_goals
  rintro ⟨acc,v0,k0,b0,e0⟩ ⟨hk0,he0,hz0,hn0⟩
  dsimp only at hk0 he0 hz0 hn0
  show AWp prog _ (⟨47,aY v0++[P],⟨A++⟨P,144,[Sq aW l,Vi (((k0):Nat):Int),Vi (((b0):Nat):Int),Vi (((e0):Nat):Int),nC 0,Vi (((25):Nat):Int)]⟩::B,⟨v0,120,11,(acc).length,(acc).flatMap encS⟩::rw⟩,[(3,Cv v0),(0,pP P)]⟩:AS) _
  have h0:=hz0
  refine go 7 ?_
  refine wcp false Y (lA h0) (go 19 ?_)
  refine wyz Y (cI (hr:=Y) ((24:Nat):Int)) (go 11 ?_)
  refine aH0 2 Y ?_
  refine go 1 ?_
  exact ⟨.inr Y,_,(RSt A B rw P l (k0) (b0) (e0) (0) (24)),(aR Y (aF Y)),aA (.refl _) (.refl _),⟨acc,k0,b0,e0,Y,hn0,hk0,he0,Y⟩⟩
theorem bFh(A B:List Box)(rw:List bA)(P:Nat)(l:List Tok)(k b e dp:Nat)(st:Nat -> bN aJ)(hdp:dp<24)(hin:∀k,k<l.length -> (st k).In l k)(hstm:∀(A B:List Box)(rw:List bA)(P k b e:Nat),k<l.length -> e<16 -> aL prog 87 [pP P] [P] (RSt A B rw P l k b e 0 (dp+1)) (RAn A B rw P l 0 (dp+1) (λx=>.agg (dG x)) e b (st k)))(hok:TOk l)(hk:k<l.length)(he:e<16):aL prog 67 [pP P] [P] (RSt A B rw P l k b e 0 dp) (RAn A B rw P l 0 dp (λx=>.c (Sq encS x)) e b ((fD l [123] k).bind λ_ k=>eS l st l.length [] k)):=by
 have hlen:=hok.len
 refine acX 47 func67 ?_
 refine go 9 ?_
 refine wcQ Y call60 Y (bD0 (A) _ _ _ l k b e 0 dp [123] V hok hk) ?_
 rintro t1 s1 (⟨rfl,ha1,rfl,rfl⟩|⟨ha1,rfl,rfl⟩)
 focus
  refine go 5 ?_
  refine wcp false Y (by rw [show bC .eql ((dp:Nat):Int) 24=some (decide (dp=24)) from jS (n:=24),decide_eq_false J]) (go 9 ?_)
  refine wcQ Y call86 Y (bZx (A) _ _ _ l k b 0 0 dp [123] V hok hk V) ?_
  rintro t3 s3 ⟨x3,k3,u3,e3,rfl,hr3,hk3,he3,rfl⟩
  refine go 8 ?_
  refine wad Y (go 12 ?_)
  refine qR 120 11 ?_
  refine fM (λg:List aJ×Value×Nat×Nat×Nat=>(⟨47,aY g.2.1++[P],⟨A++⟨P,144,[Sq aW l,Vi (((g.2.2.1):Nat):Int),Vi (((g.2.2.2.1):Nat):Int),Vi (((g.2.2.2.2):Nat):Int),nC 0,Vi (((dp+1):Nat):Int)]⟩::B,⟨g.2.1,120,11,(g.1).length,(g.1).flatMap encS⟩::rw⟩,[(3,Cv g.2.1),(0,pP P)]⟩:AS)) (λg=>g.2.2.1<l.length /\ g.2.2.2.2<16 /\ (g.2.2.2.2=0 -> g.1.length <= g.2.2.1) /\ (g.2.2.2.2≠0 -> kX 0 b ((fD l [123] k).bind λ_ k=>eS l st l.length [] k) g.1 g.2.2.1 g.2.2.2.1 g.2.2.2.2) /\ (g.2.2.2.2=0 -> ∃n,l.length <= n+g.2.2.1 /\ ∀z k' b' e',kX 0 g.2.2.2.1 (eS l st n g.1 g.2.2.1) z k' b' e' -> kX 0 b ((fD l [123] k).bind λ_ k=>eS l st l.length [] k) z k' b' e')) (λg=>if g.2.2.2.2=0 then l.length-g.2.2.1+1 else 0) ([],.slice none 0 0,k3,u3,e3) (cQf (λ_ h=>h)) ⟨hk3,he3,λ_=>Nat.zero_le _,λh=>hr3.bind (kX.skip h _ _ _),λh=>⟨l.length,Nat.le_add_right _ _,λz k' b' e' h2=>hr3.bind (by rw [show e3=0 from h];exact h2)⟩⟩ ?_
  rintro ⟨acc,v0,k0,b0,e0⟩ ⟨hk0,he0,ha0,hn0,hc0⟩
  dsimp only at hk0 he0 ha0 hn0 hc0
  show AWp prog _ (⟨47,aY v0++[P],⟨A++⟨P,144,[Sq aW l,Vi (((k0):Nat):Int),Vi (((b0):Nat):Int),Vi (((e0):Nat):Int),nC 0,Vi (((dp+1):Nat):Int)]⟩::B,⟨v0,120,11,(acc).length,(acc).flatMap encS⟩::rw⟩,[(3,Cv v0),(0,pP P)]⟩:AS) _
  by_cases h0:e0=0
  ·subst h0
   have ha1:=ha0 Y
   obtain ⟨n0,hn1,hcont⟩:=hc0 rfl
   refine go 7 ?_
   refine wcp true Y Fs (go 2 ?_)
   refine wcQ Y call62 Y (bD5 (A) _ _ _ l k0 b0 0 0 (dp+1) [125] V hok hk0) ?_
   rintro t4 s4 (⟨-,ha4,hm4,rfl,rfl⟩|⟨ha4,rfl,rfl⟩)
   ·refine go 16 ?_
    refine wyz Y (cI ((dp:Nat):Int)) (go 11 ?_)
    refine aH0 2 Y ?_
    refine go 1 ?_
    obtain ⟨m,rfl⟩:∃m,n0=m+1:=⟨n0-1,J⟩
    exact ⟨.inr Y,_,(RSt A B rw P l (k0+1) (b0) (0) (0) (dp)),(aR Y (aF Y)),aA (.refl _) (.refl _),⟨acc,k0+1,b0,0,Y,hcont _ _ _ _ (by rw [eS,if_pos ha4];exact .ok _ _ _ rfl),hm4,V,Y⟩⟩
   refine go 11 ?_
   refine wcQ Y call87 Y (hstm (A) _ _ _ k0 b0 0 hk0 he0) ?_
   rintro t7 s7 ⟨x7,k7,u7,e7,rfl,hr7,hk7,he7,rfl⟩
   refine wo Y (bDk (hf:=aV encS dG x7 (cJ _) Y Y) zb0 ?_)
   refine wo Y (bFe Tryz.t120 192 Y Y V Y Y underlying65 B6 Y Y Y Y V GO V Bv C6 (@length_append _ acc [x7]).symm Bo Bq (List.flatMap_append (f:=encS)).symm λv8=>?_)
   refine go 3 ?_
   obtain ⟨m,rfl⟩:∃m,n0=m+1:=⟨n0-1,J⟩
   have hst:∀z k' b' e',kX e7 u7 (eS l st m (acc++[x7]) k7) z k' b' e' -> kX 0 b ((fD l [123] k).bind λ_ k=>eS l st l.length [] k) z k' b' e':=λz k' b' e' h=>hcont z k' b' e' (by rw [eS,if_neg Ff];exact hr7.bind h)
   have hgo:e7=0 -> k0<k7:=λh=>by have h9:=hin k0 hk0;rw [(hr7.good h).2.1] at h9;exact h9.1
   refine ⟨(acc++[x7],v8,k7,u7,e7),⟨hk7,he7,λh=>?_,λh=>hst _ _ _ _ (.skip h _ _ _),λh=>⟨m,?_,λz k' b' e' h2=>hst _ _ _ _ ?_⟩⟩,?_,cQf Dr⟩
   ·have:=hgo h;show (acc++[_]).length <= k7;simp;omega
   ·have:=hgo h;show l.length <= m+k7;omega
   ·rw [show e7=0 from h];exact h2
   show (if e7=0 then _ else _)<(if (0:Nat)=0 then _ else _)
   by_cases h:e7=0
   ·have:=hgo h;rw [if_pos h,if_pos rfl];show l.length-k7+1<l.length-k0+1;omega
   rw [if_neg h,if_pos rfl];show 0<l.length-k0+1;omega
 rotate_left
 refine go 15 ?_
 refine wcQ Y call86 Y (bZx (A) _ _ _ l k b e 0 dp [123] V hok hk he) ?_
 rintro t11 s11 ⟨x11,k11,u11,e11,rfl,hr11,hk11,he11,rfl⟩
 refine go 8 ?_
 refine wad Y (go 12 ?_)
 refine qR 120 11 ?_
 refine fM (λg:List aJ×Value×Nat×Nat×Nat=>(⟨47,aY g.2.1++[P],⟨A++⟨P,144,[Sq aW l,Vi (((g.2.2.1):Nat):Int),Vi (((g.2.2.2.1):Nat):Int),Vi (((g.2.2.2.2):Nat):Int),nC 0,Vi (((dp+1):Nat):Int)]⟩::B,⟨g.2.1,120,11,(g.1).length,(g.1).flatMap encS⟩::rw⟩,[(3,Cv g.2.1),(0,pP P)]⟩:AS)) (λg=>g.2.2.1<l.length /\ g.2.2.2.2<16 /\ (g.2.2.2.2=0 -> g.1.length <= g.2.2.1) /\ (g.2.2.2.2≠0 -> kX e b ((fD l [123] k).bind λ_ k=>eS l st l.length [] k) g.1 g.2.2.1 g.2.2.2.1 g.2.2.2.2) /\ (g.2.2.2.2=0 -> ∃n,l.length <= n+g.2.2.1 /\ ∀z k' b' e',kX 0 g.2.2.2.1 (eS l st n g.1 g.2.2.1) z k' b' e' -> kX e b ((fD l [123] k).bind λ_ k=>eS l st l.length [] k) z k' b' e')) (λg=>if g.2.2.2.2=0 then l.length-g.2.2.1+1 else 0) ([],.slice none 0 0,k11,u11,e11) (cQf (λ_ h=>h)) ⟨hk11,he11,λ_=>Nat.zero_le _,λh=>hr11.bind (kX.skip h _ _ _),λh=>⟨l.length,Nat.le_add_right _ _,λz k' b' e' h2=>hr11.bind (by rw [show e11=0 from h];exact h2)⟩⟩ ?_
 rintro ⟨acc,v0,k0,b0,e0⟩ ⟨hk0,he0,ha0,hn0,hc0⟩
 dsimp only at hk0 he0 ha0 hn0 hc0
 show AWp prog _ (⟨47,aY v0++[P],⟨A++⟨P,144,[Sq aW l,Vi (((k0):Nat):Int),Vi (((b0):Nat):Int),Vi (((e0):Nat):Int),nC 0,Vi (((dp+1):Nat):Int)]⟩::B,⟨v0,120,11,(acc).length,(acc).flatMap encS⟩::rw⟩,[(3,Cv v0),(0,pP P)]⟩:AS) _
 by_cases h0:e0=0
 ·subst h0
  have ha1:=ha0 Y
  obtain ⟨n0,hn1,hcont⟩:=hc0 rfl
  refine go 7 ?_
  refine wcp true Y Fs (go 2 ?_)
  refine wcQ Y call62 Y (bD5 (A) _ _ _ l k0 b0 0 0 (dp+1) [125] V hok hk0) ?_
  rintro t12 s12 (⟨-,ha12,hm12,rfl,rfl⟩|⟨ha12,rfl,rfl⟩)
  ·refine go 16 ?_
   refine wyz Y (cI ((dp:Nat):Int)) (go 11 ?_)
   refine aH0 2 Y ?_
   refine go 1 ?_
   obtain ⟨m,rfl⟩:∃m,n0=m+1:=⟨n0-1,J⟩
   exact ⟨.inr Y,_,(RSt A B rw P l (k0+1) (b0) (0) (0) (dp)),(aR Y (aF Y)),aA (.refl _) (.refl _),⟨acc,k0+1,b0,0,Y,hcont _ _ _ _ (by rw [eS,if_pos ha12];exact .ok _ _ _ rfl),hm12,V,Y⟩⟩
  refine go 11 ?_
  refine wcQ Y call87 Y (hstm (A) _ _ _ k0 b0 0 hk0 he0) ?_
  rintro t15 s15 ⟨x15,k15,u15,e15,rfl,hr15,hk15,he15,rfl⟩
  refine wo Y (bDk (hf:=aV encS dG x15 (cJ _) Y Y) zb0 ?_)
  refine wo Y (bFe Tryz.t120 192 Y Y V Y Y underlying65 B6 Y Y Y Y V GO V Bv C6 (@length_append _ acc [x15]).symm Bo Bq (List.flatMap_append (f:=encS)).symm λv16=>?_)
  refine go 3 ?_
  obtain ⟨m,rfl⟩:∃m,n0=m+1:=⟨n0-1,J⟩
  have hst:∀z k' b' e',kX e15 u15 (eS l st m (acc++[x15]) k15) z k' b' e' -> kX e b ((fD l [123] k).bind λ_ k=>eS l st l.length [] k) z k' b' e':=λz k' b' e' h=>hcont z k' b' e' (by rw [eS,if_neg (by rw [ha12 rfl];decide)];exact hr15.bind h)
  have hgo:e15=0 -> k0<k15:=λh=>by have h9:=hin k0 hk0;rw [(hr15.good h).2.1] at h9;exact h9.1
  refine ⟨(acc++[x15],v16,k15,u15,e15),⟨hk15,he15,λh=>?_,λh=>hst _ _ _ _ (.skip h _ _ _),λh=>⟨m,?_,λz k' b' e' h2=>hst _ _ _ _ ?_⟩⟩,?_,cQf Dr⟩
  ·have:=hgo h;show (acc++[_]).length <= k15;simp;omega
  ·have:=hgo h;show l.length <= m+k15;omega
  ·rw [show e15=0 from h];exact h2
  show (if e15=0 then _ else _)<(if (0:Nat)=0 then _ else _)
  by_cases h:e15=0
  ·have:=hgo h;rw [if_pos h,if_pos rfl];show l.length-k15+1<l.length-k0+1;omega
  rw [if_neg h,if_pos rfl];show 0<l.length-k0+1;omega
 all_goals
  refine go 7 ?_
  refine wcp false Y (lA h0) (go 19 ?_)
  refine wyz Y (cI ((dp:Nat):Int)) (go 11 ?_)
  refine aH0 2 Y ?_
  refine go 1 ?_
  exact ⟨.inr Y,_,(RSt A B rw P l (k0) (b0) (e0) (0) (dp)),(aR Y (aF Y)),aA (.refl _) (.refl _),⟨acc,k0,b0,e0,Y,hn0 h0,hk0,he0,Y⟩⟩
theorem bEh(l:List Tok)(hok:TOk l):∀(d:Nat),d <= 24 -> ∀(A B:List Box)(rw:List bA)(P:Nat)(k b e:Nat),k<l.length -> e<16 -> aL prog 67 [pP P] [P] (RSt A B rw P l k b e 0 (24-d)) (RAn A B rw P l 0 (24-d) (λx=>.c (Sq encS x)) e b (eX l d k))
 |0,_,A,B,rw,P,k,b,e,hk,he=>bFj A B rw P l k b e hok hk he
 |d+1,hd,A,B,rw,P,k,b,e,hk,he=>by
  have hb:∀k,k<l.length -> (eX l d k).In l k:=λk hk=>pB hok.last d k hk
  have h:=bFh A B rw P l k b e (24-(d+1)) (fB l (eX l d)) J (λk hk=>dB3 hok.last hb hk) (λA B rw P k b e hk he=>by
   have h9:=bFl A B rw P l k b e (24-(d+1)+1) (eX l d) hok hk he (λA B rw P k b e hk he=>by
    have h8:=bEh l hok d J A B rw P k b e hk he
    have e1:24-(d+1)+1=24-d:=J
    rw [e1];exact h8)
   exact h9) hok hk he
  exact h
theorem bG7{P:Program}{U:List Nat}{o:Oper}{st:AS}(r:Int){t:TypeId}{x:Operand}{m:Int}(ho:o.op=.unOp .neg t x)(hx:evA st x=some (Ci m))(hr:0-m=r)(h1:-9223372036854775808 <= r)(h2:r <= 9223372036854775807):AY P U o st (Ci r):=by
 have h:=bG9 (P:=P) (U:=U) ho hx
 rw [hr,wrap64 h1 h2] at h;exact h
theorem bF9{P:Program}{U:List Nat}{o:Oper}{st:AS}{x:Operand}{t e E:TypeId}{v:Value}{z n:Nat}{cs:List AC}(A:List bA){B:List bA}(ho:o.op=.call {callee:=.builtin .len,args:=#[x],argTypes:=#[t]})(hx:evA st x=some (Cv v))(hrow:st.s.rows=A++⟨v,E,z,n,cs⟩::B)(hu:∀w,(underlying t).run P w=.ok (.slice e) w)(hz:0<z:=by decide):AY P U o st (Ci n):=
 fW rfl λa w hs w'=>by
  obtain ⟨us,hownR,-⟩:=hs.mem.row ⟨v,E,z,n,cs⟩ C1
  have hown:=hownR.row hz
  have hv:∃p c,v=.slice p n c:=by
   rcases hown.2 with ⟨h1,h2⟩|⟨g,cap,cur,h1,-⟩
   ·dsimp only at h1 h2;subst h2;exact ⟨_,_,h1⟩
   exact ⟨_,_,h1⟩
  obtain ⟨p,c,rfl⟩:=hv
  simp only [execOp,ho,resolve,List.map_toArray,List.map_cons,List.map_nil,hs.val hx]
  simp [go_sem,invoke,builtin,Builtin.len_,hu,goInt]
theorem kX.bad{α β:Type}{e1 b1 b0 k k2 b e:Nat}{r:bN α}{r':bN β}{y:β}{x:α}(h:kX e1 b1 r' y k b e)(h1:e1≠0)(hr:r=.err b1 e1):kX 0 b0 r x k2 b e:=by
 rcases h with ⟨_,rfl,rfl⟩|⟨h,_⟩
 ·exact .err _ _ _ _ _ hr h1
 exact absurd h h1
theorem bG4{l:List Tok}{k:Nat}(h:(bU l k).kind≠1):jW l k=.err k 4:=by unfold jW;rw [if_neg h]
theorem bG3(A B:List Box)(rw:List bA)(P:Nat)(l:List Tok)(k b e dp:Nat)(hok:TOk l)(hk:k<l.length)(he:e<16):aL prog 66 [pP P] [P] (RSt A B rw P l k b e 0 dp) (RAn A B rw P l 0 dp (λx=>.c (Sq cP x)) e b (jC l (fQ l) k)):=by
 have hlen:=hok.len
 refine acX 44 func66 ?_
 refine go 13 ?_
 refine wcQ Y call86 Y (bZx (A) _ _ _ l k b e 0 dp [40] V hok hk he) ?_
 rintro t1 s1 ⟨x1,k1,u1,e1,rfl,hr1,hk1,he1,rfl⟩
 refine go 6 ?_
 refine wcQ Y call62 Y (bD5 (A) _ _ _ l k1 u1 e1 0 dp [41] V hok hk1) ?_
 rintro t2 s2 (⟨rfl,ha2,hm2,rfl,rfl⟩|⟨ha2,rfl,rfl⟩)
 ·refine go 10 ?_
  exact ⟨.inr Y,_,(RSt A B rw P l (k1+1) (u1) (0) (0) (dp)),(eK (Wk.c aQl) (aR Y (aF Y))),aA (.refl _) (.refl _),⟨[],k1+1,u1,0,Y,hr1.bind EY,hm2,V,Y⟩⟩
 refine go 7 ?_
 refine qR 69 2 ?_
 refine fM (λg:List aS×Value×Nat×Nat×Nat=>(⟨44,aY g.2.1++[P],⟨A++⟨P,144,[Sq aW l,Vi (((g.2.2.1):Nat):Int),Vi (((g.2.2.2.1):Nat):Int),Vi (((g.2.2.2.2):Nat):Int),nC 0,Vi (((dp):Nat):Int)]⟩::B,⟨g.2.1,69,2,(g.1).length,(g.1).flatMap cP⟩::rw⟩,[(3,Cv g.2.1),(0,pP P)]⟩:AS)) (λg=>g.2.2.1<l.length /\ g.2.2.2.2<16 /\ (g.2.2.2.2=0 -> g.1.length <= 6) /\ (g.2.2.2.2≠0 -> kX e b (jC l (fQ l) k) g.1 g.2.2.1 g.2.2.2.1 g.2.2.2.2) /\ (g.2.2.2.2=0 -> ∃n,l.length <= n+g.2.2.1 /\ ∀z k' b' e',kX 0 g.2.2.2.1 (lI l (fQ l) n g.1 g.2.2.1) z k' b' e' -> kX e b (jC l (fQ l) k) z k' b' e')) (λg=>if g.2.2.2.2=0 then l.length-g.2.2.1+1 else 0) ([],.slice none 0 0,k1,u1,e1) (cQf (λ_ h=>h)) ⟨hk1,he1,λ_=>Nat.zero_le _,λh=>hr1.bind (kX.skip h _ _ _),λh=>⟨l.length,Nat.le_add_right _ _,λz k' b' e' h2=>?_⟩⟩ ?_
 ·have h:e1=0:=h
  refine hr1.bind ?_
  rw [h,if_neg Ep]
  exact h2
 rintro ⟨acc,v0,k0,b0,e0⟩ ⟨hk0,he0,ha0,hn0,hc0⟩
 dsimp only at hk0 he0 ha0 hn0 hc0
 show AWp prog _ (⟨44,aY v0++[P],⟨A++⟨P,144,[Sq aW l,Vi (((k0):Nat):Int),Vi (((b0):Nat):Int),Vi (((e0):Nat):Int),nC 0,Vi (((dp):Nat):Int)]⟩::B,⟨v0,69,2,(acc).length,(acc).flatMap cP⟩::rw⟩,[(3,Cv v0),(0,pP P)]⟩:AS) _
 by_cases h0:e0=0
 ·subst h0
  have ha1:=ha0 Y
  obtain ⟨n0,hn1,hcont⟩:=hc0 rfl
  refine go 7 ?_
  refine wcp true Y Fs (go 10 ?_)
  refine wyz Y (bF9 [] Y Y Y runUnderlying64) ?_
  by_cases hfull:acc.length=6
  focus
   refine wcp true Y (by rw [hfull];rfl) (go 2 ?_)
   refine wcQ Y call60 Y (bGf (A) _ _ _ l k0 b0 0 0 dp [109,117,116,101,120] V hok hk0) ?_
   rintro t6 s6 (⟨-,ha6,rfl,rfl⟩|⟨ha6,rfl,rfl⟩)
   focus
    refine go 10 ?_
    refine wcQ Y call61 Y (bEa (A) _ _ _ l k0 b0 0 0 dp 3) ?_
    rintro t8 s8 ⟨u8,e8,hf8,rfl,rfl⟩
    obtain ⟨rfl,rfl⟩:=hf8.1 rfl
    refine go 5 ?_
    refine wcQ Y call62 Y (bD2 (A) _ _ _ l k0 k0 3 0 dp [109,117,116,101,120] V hok hk0) ?_
    rintro t9 s9 (⟨hz9,-⟩|⟨ha9,rfl,rfl⟩)
    ·exact absurd hz9 V
    refine go 8 λb1=>?_
    refine wcQ Y call65 Y (bEb (_::A) _ _ _ l k0 k0 3 0 dp hok hk0 V) ?_
    rintro t10 s10 ⟨x42,k42,u42,e42,rfl,hr10,hk42,he42,rfl⟩
    refine go 6 ?_
    have hel:kX 0 b0 (fQ l acc.length k0) ⟨x42,false⟩ k42 u42 e42:=hr10.bad V (by unfold fQ;rw [if_pos ⟨J,.inr ha6⟩])
    have hsix:e42=0 -> acc.length<6:=λh=>by
     have h9:=(hel.good h).2.1
     unfold fQ at h9
     rw [if_pos ⟨J,.inr ha6⟩] at h9;cases h9
   rotate_left
   focus
    refine go 2 ?_
    refine wcQ Y call59 Y (bEv (A) _ _ _ l k0 b0 0 0 dp 1 hk0) ?_
    rintro t16 s16 (⟨-,ha16,rfl,rfl⟩|⟨ha16,rfl,rfl⟩)
    focus
     refine go 7 ?_
     refine wcQ Y call61 Y (bEa (A) _ _ _ l k0 b0 0 0 dp 3) ?_
     rintro t18 s18 ⟨u18,e18,hf18,rfl,rfl⟩
     obtain ⟨rfl,rfl⟩:=hf18.1 rfl
     refine go 5 ?_
     refine wcQ Y call62 Y (bD2 (A) _ _ _ l k0 k0 3 0 dp [109,117,116,101,120] V hok hk0) ?_
     rintro t19 s19 (⟨hz19,-⟩|⟨ha19,rfl,rfl⟩)
     ·exact absurd hz19 V
     refine go 8 λb2=>?_
     refine wcQ Y call65 Y (bEb (_::A) _ _ _ l k0 k0 3 0 dp hok hk0 V) ?_
     rintro t20 s20 ⟨x42,k42,u42,e42,rfl,hr20,hk42,he42,rfl⟩
     refine go 6 ?_
     have hel:kX 0 b0 (fQ l acc.length k0) ⟨x42,false⟩ k42 u42 e42:=hr20.bad V (by unfold fQ;rw [if_pos ⟨J,.inl ha16⟩])
     have hsix:e42=0 -> acc.length<6:=λh=>by
      have h9:=(hel.good h).2.1
      unfold fQ at h9
      rw [if_pos ⟨J,.inl ha16⟩] at h9;cases h9
    rotate_left
    refine go 10 ?_
    refine wcQ Y call62 Y (bD2 (A) _ _ _ l k0 b0 0 0 dp [109,117,116,101,120] V hok hk0) ?_
    rintro t27 s27 (⟨-,ha27,hm27,rfl,rfl⟩|⟨ha27,rfl,rfl⟩)
    ·exact absurd ha27 (by rw [(ha6 rfl)];decide)
    refine go 8 λb3=>?_
    refine wcQ Y call65 Y (bEb (_::A) _ _ _ l k0 b0 0 0 dp hok hk0 he0) ?_
    rintro t28 s28 ⟨x42,k42,u42,e42,rfl,hr28,hk42,he42,rfl⟩
    refine go 6 ?_
    have hel:kX 0 b0 (fQ l acc.length k0) ⟨x42,false⟩ k42 u42 e42:=(hr28.map (f:=λs=>aS.mk s false)).eq λ_=>by unfold fQ;rw [if_neg Dt,if_neg (by rw [ha27 rfl];decide)]
    have hsix:e42=0 -> acc.length<6:=λh=>by
     have h9:=(hel.good h).2.1
     unfold fQ at h9
     rw [if_neg Dt,if_neg (by rw [ha27 rfl];decide),bG4 (ha16 rfl)] at h9;cases h9
  rotate_left 3
  refine wcp false Y (by rw [show bC .eql ((acc.length:Nat):Int) 6=some (decide (acc.length=6)) from jS (n:=6),decide_eq_false hfull]) (go 16 ?_)
  refine wcQ Y call62 Y (bD2 (A) _ _ _ l k0 b0 0 0 dp [109,117,116,101,120] V hok hk0) ?_
  rintro t35 s35 (⟨-,ha35,hm35,rfl,rfl⟩|⟨ha35,rfl,rfl⟩)
  ·refine go 8 λb4=>?_
   refine wcQ Y call65 Y (bEb (_::A) _ _ _ l (k0+1) b0 0 0 dp hok hm35 V) ?_
   rintro t36 s36 ⟨x36,k36,u36,e36,rfl,hr36,hk36,he36,rfl⟩
   refine go 6 ?_
   have hel:kX 0 b0 (fQ l acc.length k0) ⟨x36,true⟩ k36 u36 e36:=(hr36.map (f:=λs=>aS.mk s true)).eq λ_=>by unfold fQ;rw [if_neg (by rintro ⟨h,-⟩;omega),if_pos ha35]
   have hsix:e36=0 -> acc.length<6:=λh=>by
    omega
   refine go 2 ?_
   refine wo Y (bDk (hf:=aV cP cP ⟨x36,true⟩ Y Y Y) bHf ?_)
   refine wo Y (bFe Tryz.t69 24 Y Y V Y Y underlying64 B6 Y Y Y Y V Y V (by unfold maxLen;have:=ha1;omega) (by have:=ha1;omega) (@length_append _ acc [⟨x36,true⟩]).symm Bo Bq (List.flatMap_append (f:=cP)).symm λv37=>?_)
   refine go 6 ?_
   refine wcQ Y call62 Y (bD5 (_::A) _ _ _ l k36 u36 e36 0 dp [44] V hok hk36) ?_
   rintro t38 s38 (⟨rfl,ha38,hm38,rfl,rfl⟩|⟨ha38,rfl,rfl⟩)
   ·refine go 6 ?_
    obtain ⟨m,rfl⟩:∃m,n0=m+1:=⟨n0-1,J⟩
    have hin:=sJ (n:=acc.length) hok.last hk0
    rw [(hel.good rfl).2.1] at hin
    have hin1:=hin.1
    refine ⟨(acc++[⟨x36,true⟩],v37,k36+1,u36,0),⟨hm38,Cr,λ_=>AZ,λh=>absurd Y h,λ_=>⟨m,by show l.length <= m+(k36+1);omega,λz k' b' e' h=>hcont z k' b' e' ?_⟩⟩,by show (if (0:Nat)=0 then _ else _)<(if (0:Nat)=0 then _ else _);rw [if_pos rfl,if_pos rfl];show l.length-(k36+1)+1<l.length-k0+1;omega,cQf (h1:=(.cons _ (.refl _))) Dr⟩
    rw [lI]
    refine hel.bind ?_
    rw [if_pos ha38]
    exact h
   refine go 7 ?_
   refine wcQ Y call86 Y (bZx (_::A) _ _ _ l k36 u36 e36 0 dp [41] V hok hk36 he36) ?_
   rintro t41 s41 ⟨x41,k41,u41,e41,rfl,hr41,hk41,he41,rfl⟩
   refine go 8 ?_
   refine aH0 2 Y ?_
   refine go 5 ?_
   obtain ⟨m,rfl⟩:∃m,n0=m+1:=⟨n0-1,J⟩
   exact ⟨.inr Y,_,(RSt A B rw P l (k41) (u41) (e41) (0) (dp)),(aR Y (aF Y)),aA (.cons _ (.refl _)) (.refl _),⟨acc++[⟨x36,true⟩],k41,u41,e41,Y,hcont _ _ _ _ (by rw [lI];exact hel.bind ((hr41.map (f:=λ_=>acc++[⟨x36,true⟩])).eq λh=>by rw [if_neg (by rw [ha38 h];decide)])),hk41,he41,Y⟩⟩
  refine go 8 λb5=>?_
  refine wcQ Y call65 Y (bEb (_::A) _ _ _ l k0 b0 0 0 dp hok hk0 he0) ?_
  rintro t42 s42 ⟨x42,k42,u42,e42,rfl,hr42,hk42,he42,rfl⟩
  refine go 6 ?_
  have hel:kX 0 b0 (fQ l acc.length k0) ⟨x42,false⟩ k42 u42 e42:=(hr42.map (f:=λs=>aS.mk s false)).eq λ_=>by unfold fQ;rw [if_neg (by rintro ⟨h,-⟩;omega),if_neg (by rw [ha35 rfl];decide)]
  have hsix:e42=0 -> acc.length<6:=λh=>by
   omega
  all_goals
   refine go 2 ?_
   refine wo Y (bDk (hf:=aV cP cP ⟨x42,false⟩ Y Y Y) bHf ?_)
   refine wo Y (bFe Tryz.t69 24 Y Y V Y Y underlying64 B6 Y Y Y Y V Y V (by unfold maxLen;have:=ha1;omega) (by have:=ha1;omega) (@length_append _ acc [⟨x42,false⟩]).symm Bo Bq (List.flatMap_append (f:=cP)).symm λv43=>?_)
   refine go 6 ?_
   refine wcQ Y call62 Y (bD5 (_::A) _ _ _ l k42 u42 e42 0 dp [44] V hok hk42) ?_
   rintro t44 s44 (⟨rfl,ha44,hm44,rfl,rfl⟩|⟨ha44,rfl,rfl⟩)
   ·refine go 6 ?_
    obtain ⟨m,rfl⟩:∃m,n0=m+1:=⟨n0-1,J⟩
    have hin:=sJ (n:=acc.length) hok.last hk0
    rw [(hel.good rfl).2.1] at hin
    have hin1:=hin.1
    refine ⟨(acc++[⟨x42,false⟩],v43,k42+1,u42,0),⟨hm44,Cr,λ_=>AZ,λh=>absurd Y h,λ_=>⟨m,by show l.length <= m+(k42+1);omega,λz k' b' e' h=>hcont z k' b' e' ?_⟩⟩,by show (if (0:Nat)=0 then _ else _)<(if (0:Nat)=0 then _ else _);rw [if_pos rfl,if_pos rfl];show l.length-(k42+1)+1<l.length-k0+1;omega,cQf (h1:=(.cons _ (.refl _))) Dr⟩
    rw [lI]
    refine hel.bind ?_
    rw [if_pos ha44]
    exact h
   refine go 7 ?_
   refine wcQ Y call86 Y (bZx (_::A) _ _ _ l k42 u42 e42 0 dp [41] V hok hk42 he42) ?_
   rintro t47 s47 ⟨x47,k47,u47,e47,rfl,hr47,hk47,he47,rfl⟩
   refine go 8 ?_
   refine aH0 2 Y ?_
   refine go 5 ?_
   obtain ⟨m,rfl⟩:∃m,n0=m+1:=⟨n0-1,J⟩
   exact ⟨.inr Y,_,(RSt A B rw P l (k47) (u47) (e47) (0) (dp)),(aR Y (aF Y)),aA (.cons _ (.refl _)) (.refl _),⟨acc++[⟨x42,false⟩],k47,u47,e47,Y,hcont _ _ _ _ (by rw [lI];exact hel.bind ((hr47.map (f:=λ_=>acc++[⟨x42,false⟩])).eq λh=>by rw [if_neg (by rw [ha44 h];decide)])),hk47,he47,Y⟩⟩
 refine go 7 ?_
 refine wcp false Y (lA h0) (go 14 ?_)
 refine aH0 2 Y ?_
 refine go 1 ?_
 exact ⟨.inr Y,_,(RSt A B rw P l (k0) (b0) (e0) (0) (dp)),(aR Y (aF Y)),aA (.refl _) (.refl _),⟨acc,k0,b0,e0,Y,hn0 h0,hk0,he0,Y⟩⟩
theorem bGs(A B:List Box)(rw:List bA)(P:Nat)(l:List Tok)(k b e dp:Nat)(hok:TOk l)(hk:k<l.length)(he:e<16):aL prog 63 [pP P] [P] (RSt A B rw P l k b e 0 dp) (RAn A B rw P l 0 dp (λx=>.agg (dB x)) e b (dA3 l k)):=by
 have hlen:=hok.len
 refine acX 45 func63 ?_
 refine go 8 λb1=>?_
 refine wcQ Y call65 Y (bEb (_::A) _ _ _ l k b e 0 dp hok hk he) ?_
 rintro t1 s1 ⟨x1,k1,u1,e1,rfl,hr1,hk1,he1,rfl⟩
 refine go 9 λb2=>?_
 refine wcQ Y call62 Y (bD5 (_::_::A) _ _ _ l k1 u1 e1 0 dp [61] V hok hk1) ?_
 rintro t2 s2 (⟨rfl,ha2,hm2,rfl,rfl⟩|⟨ha2,rfl,rfl⟩)
 ·refine go 6 ?_
  refine wcQ Y call62 Y (bD5 (_::_::A) _ _ _ l (k1+1) u1 0 0 dp [45] V hok hm2) ?_
  rintro t4 s4 (⟨-,ha4,hm4,rfl,rfl⟩|⟨ha4,rfl,rfl⟩)
  ·refine go 7 ?_
   refine wcQ Y call59 Y (bEv (_::_::A) _ _ _ l ((k1+1)+1) u1 0 0 dp 2 hm4) ?_
   rintro t5 s5 (⟨-,ha5,rfl,rfl⟩|⟨ha5,rfl,rfl⟩)
   ·refine go 7 ?_
    have hreg:=(hok.reg _ (getElem_mem hm4)).2.2
    have hnum:dAh l ((k1+1)+1)=.ok l[(k1+1)+1].num ((k1+1)+1+1):=by unfold dAh;rw [if_pos ha5,bG hm4]
    refine dx [b1,P] (tz [(0,true),(1,true),(2,true),(3,true),(4,true),(5,true),(6,true),(7,true)] 5 (go 9 ?_))
    refine tx 8 Y (bH aW aW l bJ (λ_=>Y) ((k1+1)+1) Y Y Y Y hm4 V runUnderlying139 sizeOf154) (tz [(9,true),(10,true),(11,true),(12,false)] 0 (go 5 ?_))
    refine ax (go 11 ?_)
    refine wyz Y (bG7 (-((l[(k1+1)+1].num:Nat):Int)) Y Y J J J) (go 9 ?_)
    refine wad Y (go 7 ?_)
    have hm:=hok.last.more hm4 (by rw [ha5];decide)
    refine go 1 ?_
    refine wcQ Y call86 Y (bZx (_::_::A) _ _ _ l (((k1+1)+1)+1) u1 0 0 dp [59] V hok hm V) ?_
    rintro t8 s8 ⟨x8,k8,u8,e8,rfl,hr8,hk8,he8,rfl⟩
    refine go 9 ?_
    exact ⟨.inr Y,_,(RSt A B rw P l (k8) (u8) (e8) (0) (dp)),(aR Y (aO [_] Y Y isAgg63 sizeOf63 (bK Y Y))),aA (.cons _ (.cons _ (.refl _))) (.refl _),⟨⟨x1,(-((l[(k1+1)+1].num:Nat):Int))⟩,k8,u8,e8,Y,hr1.bind (.yes (λ_=>ha2) (.yes (λ_=>ha4) (kX.bind (.ok _ _ _ hnum) (hr8.map (f:=λ_=>aI.mk x1 (-((l[(k1+1)+1].num:Nat):Int))))))),hk8,he8,Y⟩⟩
   refine go 7 ?_
   refine wcQ Y call61 Y (bEa (_::_::A) _ _ _ l ((k1+1)+1) u1 0 0 dp 4) ?_
   rintro t10 s10 ⟨u10,e10,hf10,rfl,rfl⟩
   obtain ⟨rfl,rfl⟩:=hf10.1 rfl
   refine go 11 ?_
   exact ⟨.inr Y,_,(RSt A B rw P l ((k1+1)+1) ((k1+1)+1) (4) (0) (dp)),(aR Y (aO [_] Y Y isAgg63 sizeOf63 (bK Y Y))),aA (.cons _ (.cons _ (.refl _))) (.refl _),⟨⟨x1,0⟩,(k1+1)+1,(k1+1)+1,4,Y,hr1.bind (.yes (λ_=>ha2) (.yes (λ_=>ha4) (kX.bind (x:=0) (k:=0) (.err _ _ _ _ _ (by unfold dAh;rw [if_neg (ha5 rfl)]) V) (.skip V _ _ _)))),hm4,V,Y⟩⟩
  refine go 7 ?_
  refine wcQ Y call59 Y (bEv (_::_::A) _ _ _ l (k1+1) u1 0 0 dp 2 hm2) ?_
  rintro t11 s11 (⟨-,ha11,rfl,rfl⟩|⟨ha11,rfl,rfl⟩)
  ·refine go 7 ?_
   have hreg:=(hok.reg _ (getElem_mem hm2)).2.2
   have hnum:dAh l (k1+1)=.ok l[k1+1].num (k1+1+1):=by unfold dAh;rw [if_pos ha11,bG hm2]
   refine dx [b1,P] (tz [(0,true),(1,true),(2,true),(3,true),(4,true),(5,true),(6,true),(7,true)] 5 (go 9 ?_))
   refine tx 8 Y (bH aW aW l bJ (λ_=>Y) (k1+1) Y Y Y Y hm2 V runUnderlying139 sizeOf154) (tz [(9,true),(10,true),(11,true),(12,false)] 0 (go 5 ?_))
   refine ax (go 15 ?_)
   refine wad Y (go 7 ?_)
   have hm:=hok.last.more hm2 (by rw [ha11];decide)
   refine go 1 ?_
   refine wcQ Y call86 Y (bZx (_::_::A) _ _ _ l ((k1+1)+1) u1 0 0 dp [59] V hok hm V) ?_
   rintro t14 s14 ⟨x14,k14,u14,e14,rfl,hr14,hk14,he14,rfl⟩
   refine go 9 ?_
   exact ⟨.inr Y,_,(RSt A B rw P l (k14) (u14) (e14) (0) (dp)),(aR Y (aO [_] Y Y isAgg63 sizeOf63 (bK Y Y))),aA (.cons _ (.cons _ (.refl _))) (.refl _),⟨⟨x1,((l[k1+1].num:Nat):Int)⟩,k14,u14,e14,Y,hr1.bind (.yes (λ_=>ha2) (.no (λ_=>Ff) (kX.bind (.ok _ _ _ hnum) (hr14.map (f:=λ_=>aI.mk x1 ((l[k1+1].num:Nat):Int)))))),hk14,he14,Y⟩⟩
  refine go 7 ?_
  refine wcQ Y call61 Y (bEa (_::_::A) _ _ _ l (k1+1) u1 0 0 dp 4) ?_
  rintro t16 s16 ⟨u16,e16,hf16,rfl,rfl⟩
  obtain ⟨rfl,rfl⟩:=hf16.1 rfl
  refine go 11 ?_
  exact ⟨.inr Y,_,(RSt A B rw P l (k1+1) (k1+1) (4) (0) (dp)),(aR Y (aO [_] Y Y isAgg63 sizeOf63 (bK Y Y))),aA (.cons _ (.cons _ (.refl _))) (.refl _),⟨⟨x1,0⟩,k1+1,k1+1,4,Y,hr1.bind (.yes (λ_=>ha2) (.no (λ_=>Ff) (kX.bind (x:=0) (k:=0) (.err _ _ _ _ _ (by unfold dAh;rw [if_neg (ha11 rfl)]) V) (.skip V _ _ _)))),hm2,V,Y⟩⟩
 refine go 8 ?_
 refine wcQ Y call86 Y (bZx (_::_::A) _ _ _ l k1 u1 e1 0 dp [59] V hok hk1 he1) ?_
 rintro t18 s18 ⟨x18,k18,u18,e18,rfl,hr18,hk18,he18,rfl⟩
 refine go 9 ?_
 exact ⟨.inr Y,_,(RSt A B rw P l (k18) (u18) (e18) (0) (dp)),(aR Y (aO [_] Y Y isAgg63 sizeOf63 (bK Y Y))),aA (.cons _ (.cons _ (.refl _))) (.refl _),⟨⟨x1,0⟩,k18,u18,e18,Y,hr1.bind (.no (λh=>Ep) (hr18.map (f:=λ_=>aI.mk x1 0))),hk18,he18,Y⟩⟩
theorem bGn(A B:List Box)(rw:List bA)(P:Nat)(l:List Tok)(k b e dp:Nat)(hok:TOk l)(hk:k<l.length)(he:e<16):aL prog 64 [pP P,Cb true] [P] (RSt A B rw P l k b e 0 dp) (RAn A B rw P l 0 dp (λx=>.agg (bT x)) e b (nE l true k)):=by
 have hlen:=hok.len
 refine acX 57 func64 ?_
 refine go 8 λb1=>?_
 refine wcQ Y call65 Y (bEb (_::A) _ _ _ l k b e 0 dp hok hk he) ?_
 rintro t1 s1 ⟨x1,k1,u1,e1,rfl,hr1,hk1,he1,rfl⟩
 refine go 23 λb2=>?_
 refine wcQ Y call86 Y (bZx (_::_::A) _ _ _ l k1 u1 e1 0 dp [59] V hok hk1 he1) ?_
 rintro t3 s3 ⟨x3,k3,u3,e3,rfl,hr3,hk3,he3,rfl⟩
 refine go 9 ?_
 exact ⟨.inr Y,_,(RSt A B rw P l (k3) (u3) (e3) (0) (dp)),(aR Y (aO [_] Y Y isAgg60 sizeOf60 (bK Y Y))),aA (.cons _ (.cons _ (.refl _))) (.refl _),⟨⟨x1,true,0⟩,k3,u3,e3,Y,hr1.bind (.no (λh=>by rintro ⟨h,-⟩;cases h) (hr3.map (f:=λ_=>cL.mk x1 true 0))),hk3,he3,Y⟩⟩
theorem bGj(A B:List Box)(rw:List bA)(P:Nat)(l:List Tok)(k b e dp:Nat)(hok:TOk l)(hk:k<l.length)(he:e<16):aL prog 64 [pP P,Cb false] [P] (RSt A B rw P l k b e 0 dp) (RAn A B rw P l 0 dp (λx=>.agg (bT x)) e b (nE l false k)):=by
 have hlen:=hok.len
 refine acX 57 func64 ?_
 refine go 8 λb1=>?_
 refine wcQ Y call65 Y (bEb (_::A) _ _ _ l k b e 0 dp hok hk he) ?_
 rintro t1 s1 ⟨x1,k1,u1,e1,rfl,hr1,hk1,he1,rfl⟩
 refine go 13 λb2=>?_
 refine wcQ Y call62 Y (bD5 (_::_::A) _ _ _ l k1 u1 e1 0 dp [91] V hok hk1) ?_
 rintro t2 s2 (⟨rfl,ha2,hm2,rfl,rfl⟩|⟨ha2,rfl,rfl⟩)
 ·refine go 8 ?_
  refine wcQ Y call59 Y (bEv (_::_::A) _ _ _ l (k1+1) u1 0 0 dp 2 hm2) ?_
  rintro t4 s4 (⟨-,ha4,rfl,rfl⟩|⟨ha4,rfl,rfl⟩)
  ·refine go 7 ?_
   have hreg:=(hok.reg _ (getElem_mem hm2)).2.2
   have hnum:dAh l (k1+1)=.ok l[k1+1].num (k1+1+1):=by unfold dAh;rw [if_pos ha4,bG hm2]
   refine dx [b1,P] (tz [(0,true),(1,true),(2,true),(3,true),(4,true),(5,true),(6,true),(7,true)] 5 (go 9 ?_))
   refine tx 8 Y (bH aW aW l bJ (λ_=>Y) (k1+1) Y Y Y Y hm2 V runUnderlying139 sizeOf154) (tz [(9,true),(10,true),(11,true),(12,false)] 0 (go 5 ?_))
   refine ax (go 4 ?_)
   rcases (show l[k1+1].num<1∨(¬l[k1+1].num<1 /\ 64<l[k1+1].num)∨(¬l[k1+1].num<1 /\ ¬64<l[k1+1].num) by omega) with hs1|⟨hs1,hs2⟩|⟨hs1,hs2⟩
   ·have hsz:(l[k1+1].num<1∨64<l[k1+1].num):=J
    refine go 2 ?_
    refine wcp true Y Dl (go 11 ?_)
    refine wcQ Y call61 Y (bEa (_::_::A) _ _ _ l (k1+1) u1 0 0 dp 3) ?_
    rintro t7 s7 ⟨u7,e7,hf7,rfl,rfl⟩
    obtain ⟨rfl,rfl⟩:=hf7.1 rfl
    refine go 11 ?_
    exact ⟨.inr Y,_,(RSt A B rw P l (k1+1) (k1+1) (3) (0) (dp)),(aR Y (aO [_] Y Y isAgg60 sizeOf60 (bK Y Y))),aA (.cons _ (.cons _ (.refl _))) (.refl _),⟨⟨x1,false,l[k1+1].num⟩,k1+1,k1+1,3,Y,hr1.bind (.yes (λ_=>⟨Y,ha2⟩) (kX.bind (x:=0) (k:=0) (kX.bind (.ok _ _ _ hnum) (.yes (λ_=>hsz) (.err _ _ _ _ _ Y V))) (.skip V _ _ _))),hm2,V,Y⟩⟩
   ·have hsz:(l[k1+1].num<1∨64<l[k1+1].num):=J
    refine go 2 ?_
    refine wcp false Y Dl (go 3 ?_)
    refine wcp true Y Dl (go 7 ?_)
    refine wcQ Y call61 Y (bEa (_::_::A) _ _ _ l (k1+1) u1 0 0 dp 3) ?_
    rintro t9 s9 ⟨u9,e9,hf9,rfl,rfl⟩
    obtain ⟨rfl,rfl⟩:=hf9.1 rfl
    refine go 11 ?_
    exact ⟨.inr Y,_,(RSt A B rw P l (k1+1) (k1+1) (3) (0) (dp)),(aR Y (aO [_] Y Y isAgg60 sizeOf60 (bK Y Y))),aA (.cons _ (.cons _ (.refl _))) (.refl _),⟨⟨x1,false,l[k1+1].num⟩,k1+1,k1+1,3,Y,hr1.bind (.yes (λ_=>⟨Y,ha2⟩) (kX.bind (x:=0) (k:=0) (kX.bind (.ok _ _ _ hnum) (.yes (λ_=>hsz) (.err _ _ _ _ _ Y V))) (.skip V _ _ _))),hm2,V,Y⟩⟩
   have hsz:¬(l[k1+1].num<1∨64<l[k1+1].num):=J
   refine go 2 ?_
   refine wcp false Y Dl (go 3 ?_)
   refine wcp false Y Dl (go 12 ?_)
   refine wad Y (go 6 ?_)
   have hm:=hok.last.more hm2 (by rw [ha4];decide)
   refine go 1 ?_
   refine wcQ Y call86 Y (bZx (_::_::A) _ _ _ l ((k1+1)+1) u1 0 0 dp [93] V hok hm V) ?_
   rintro t11 s11 ⟨x11,k11,u11,e11,rfl,hr11,hk11,he11,rfl⟩
   refine go 5 ?_
   refine wcQ Y call86 Y (bZx (_::_::A) _ _ _ l k11 u11 e11 0 dp [59] V hok hk11 he11) ?_
   rintro t12 s12 ⟨x12,k12,u12,e12,rfl,hr12,hk12,he12,rfl⟩
   refine go 9 ?_
   exact ⟨.inr Y,_,(RSt A B rw P l (k12) (u12) (e12) (0) (dp)),(aR Y (aO [_] Y Y isAgg60 sizeOf60 (bK Y Y))),aA (.cons _ (.cons _ (.refl _))) (.refl _),⟨⟨x1,false,l[k1+1].num⟩,k12,u12,e12,Y,hr1.bind (.yes (λ_=>⟨Y,ha2⟩) (kX.bind (kX.bind (.ok _ _ _ hnum) (.no (λ_=>hsz) (.ok _ _ _ Y))) (hr11.bind (hr12.map (f:=λ_=>cL.mk x1 false l[k1+1].num))))),hk12,he12,Y⟩⟩
  refine go 7 ?_
  refine wcQ Y call61 Y (bEa (_::_::A) _ _ _ l (k1+1) u1 0 0 dp 4) ?_
  rintro t14 s14 ⟨u14,e14,hf14,rfl,rfl⟩
  obtain ⟨rfl,rfl⟩:=hf14.1 rfl
  refine go 11 ?_
  exact ⟨.inr Y,_,(RSt A B rw P l (k1+1) (k1+1) (4) (0) (dp)),(aR Y (aO [_] Y Y isAgg60 sizeOf60 (bK Y Y))),aA (.cons _ (.cons _ (.refl _))) (.refl _),⟨⟨x1,false,0⟩,k1+1,k1+1,4,Y,hr1.bind (.yes (λ_=>⟨Y,ha2⟩) (kX.bind (x:=0) (k:=0) (kX.bind (x:=0) (k:=0) (.err _ _ _ _ _ (by unfold dAh;rw [if_neg (ha4 rfl)]) V) (.skip V _ _ _)) (.skip V _ _ _))),hm2,V,Y⟩⟩
 refine go 9 ?_
 refine wcQ Y call86 Y (bZx (_::_::A) _ _ _ l k1 u1 e1 0 dp [59] V hok hk1 he1) ?_
 rintro t16 s16 ⟨x16,k16,u16,e16,rfl,hr16,hk16,he16,rfl⟩
 refine go 9 ?_
 exact ⟨.inr Y,_,(RSt A B rw P l (k16) (u16) (e16) (0) (dp)),(aR Y (aO [_] Y Y isAgg60 sizeOf60 (bK Y Y))),aA (.cons _ (.cons _ (.refl _))) (.refl _),⟨⟨x1,false,0⟩,k16,u16,e16,Y,hr1.bind (.no (λh=>by rintro ⟨-,h9⟩;rw [ha2 h] at h9;cases h9) (hr16.map (f:=λ_=>cL.mk x1 false 0))),hk16,he16,Y⟩⟩
theorem TOk.of{s:List UInt8}{l:List Tok}(h:iH s=.ok l):TOk l:=⟨(wD h).ends,(wD h).reg,by have:=(wD h).few;omega⟩
def jM(s:List UInt8):cK×Nat×Nat:=
 match iH s with
 |.err p e=>(⟨[],[],[]⟩,p,e)
 |.ok l=>match fH l with
  |.ok x _=>(x,s.length,0)
  |.err k e=>(⟨[],[],[]⟩,(bU l k).pos,e)
theorem aA9{s:List UInt8}{p e:Nat}(h:iH s=.err p e):jM s=(⟨[],[],[]⟩,p,e):=by unfold jM;rw [h]
theorem aBe{s:List UInt8}{l:List Tok}{k e:Nat}(h:iH s=.ok l)(h2:fH l=.err k e)(hk:k<l.length):jM s=(⟨[],[],[]⟩,l[k].pos,e):=by unfold jM;rw [h];dsimp only;rw [h2];dsimp only;rw [bG hk]
theorem pT{s:List UInt8}{l:List Tok}{x:cK}{k:Nat}(h:iH s=.ok l)(h2:fH l=.ok x k):jM s=(x,s.length,0):=by unfold jM;rw [h];dsimp only;rw [h2]
theorem bGa{l:List Tok}{k:Nat}{a b:List UInt8}(ha:dN l k a=true)(hb:dN l k b=true):bytes a=bytes b:=by
 rw [←(kP ha).2,←(kP hb).2]
end
end Go.Proofs.YtjgeihmhppadaaaGreatDoor
