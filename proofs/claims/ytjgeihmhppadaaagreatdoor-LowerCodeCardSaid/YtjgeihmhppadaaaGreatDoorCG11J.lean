import Derived.Test.YtjgeihmhppadaaaGreatDoorCG10J
set_option linter.all false
set_option synthInstance.maxHeartbeats 1000000
set_option synthInstance.maxSize 1000000
set_option maxHeartbeats 3200000
set_option maxRecDepth 100000
namespace Go.Proofs.YtjgeihmhppadaaaGreatDoor
open Go.Proofs.Tryz
open List (length_append length_cons length_nil mem_append mem_cons not_mem_nil append_assoc getElem_mem take_of_length_le)
section
open Go.RowKit
def P0{P:Program}{U:List Nat}{o:Oper}{st:AS}(r:Int){t:bA}{x:bc}{m:Int}(ho:o.op=.unOp .neg t x)(hx:ay st x=some (bB m))(hr:0-m=r)(h1:-9223372036854775808 <= r)(h2:r <= 9223372036854775807):cf P U o st (bB r):=by
 have h:=VJ (P:=P) (U:=U) ho hx;rw [hr,wrap64 h1 h2] at h;exact h
def pO{P:Program}{U:List Nat}{o:Oper}{st:AS}{x:bc}{t e E:bA}{v:aM}{z n:Nat}{cs:List aN}(A:List aS){B:List aS}(ho:o.op=.call {callee:=.builtin .len,args:=#[x],argTypes:=#[t]})(hx:ay st x=some (au v))(hrow:st.s.rows=A++⟨v,E,z,n,cs⟩::B)(hu:∀w,(underlying t).run P w=.ok (.slice e) w)(hz:0<z:=by decide):cf P U o st (bB n):=
 iF rfl λa w hs w'=>by
  obtain ⟨us,hownR,-⟩:=hs.mem.row ⟨v,E,z,n,cs⟩ p7;have hown:=hownR.row hz;have hv:∃p c,v=.slice p n c:=by
   rcases hown.2 with ⟨h1,h2⟩|⟨g,cap,cur,h1,-⟩
   ·dsimp only at h1 h2;subst h2;exact ⟨_,_,h1⟩
   exact ⟨_,_,h1⟩
  obtain ⟨p,c,rfl⟩:=hv;simp only [execOp,ho,resolve,km,cd,fg,hs.val hx];simp [go_sem,invoke,builtin,Builtin.len_,hu,goInt]
def bh.bad{α β:Type}{aa b1 b0 k k2 b e:Nat}{r:cA α}{r':cA β}{y:β}{x:α}(h:bh aa b1 r' y k b e)(h1:aa≠0)(hr:r=.err b1 aa):bh 0 b0 r x k2 b e:=by
 rcases h with ⟨_,rfl,rfl⟩|⟨h,_⟩
 ·exact .err _ _ _ _ _ hr h1
 exact absurd h h1
def Sq{l:List Tok}{k:Nat}(h:(dM l k).kind≠1):kX l k=.err k 4:=by unfold kX;rw [if_neg h]
def Q9(A B:List aT)(rw:List aS)(P:Nat)(l:List Tok)(k b e dp:Nat)(hok:gI l)(hk:k<l.length)(he:e<16):aR prog 66 [aE P] [P] (bY A B rw P l k b e 0 dp) (gy A B rw P l 0 dp (λx=>.c (aB cG x)) e b (o4 l (ja l) k)):=by
 have hlen:=hok.len;refine bN 44 func66 ?_;refine go 13 ?_;refine bC J call86 J (gZ (A) _ _ _ l k b e 0 dp [40] V hok hk he) ?_;rintro t1 s1 ⟨x1,k1,u1,aa,rfl,hr1,hk1,he1,rfl⟩;refine go 6 ?_;refine bC J call62 J (mV (A) _ _ _ l k1 u1 aa 0 dp [41] V hok hk1) ?_;rintro cx s2 (⟨rfl,ha2,hm2,rfl,rfl⟩|⟨ha2,rfl,rfl⟩)
 ·refine go 10 ?_;exact ⟨.inr J,_,(bY A B rw P l (k1+1) (u1) (0) (0) (dp)),(fq (bu.c py) (bT J (bM J))),aj (.refl _) (.refl _),⟨[],k1+1,u1,0,J,hr1.bind Gu,hm2,V,J⟩⟩
 refine go 7 ?_;refine fZ 69 2 ?_;refine ff (λg:List bp×aM×Nat×Nat×Nat=>(⟨44,aO g.2.1++[P],⟨A++⟨P,144,[aB dO l,aA (((g.2.2.1):Nat):Int),aA (((g.2.2.2.1):Nat):Int),aA (((g.2.2.2.2):Nat):Int),am 0,aA (((dp):Nat):Int)]⟩::B,⟨g.2.1,69,2,(g.1).length,(g.1).flatMap cG⟩::rw⟩,[(3,au g.2.1),(0,aE P)]⟩:AS)) (λg=>g.2.2.1<l.length /\ g.2.2.2.2<16 /\ (g.2.2.2.2=0 -> g.1.length <= 6) /\ (g.2.2.2.2≠0 -> bh e b (o4 l (ja l) k) g.1 g.2.2.1 g.2.2.2.1 g.2.2.2.2) /\ (g.2.2.2.2=0 -> ∃n,l.length <= n+g.2.2.1 /\ ∀z k' b' e',bh 0 g.2.2.2.1 (lQ l (ja l) n g.1 g.2.2.1) z k' b' e' -> bh e b (o4 l (ja l) k) z k' b' e')) (λg=>if g.2.2.2.2=0 then l.length-g.2.2.1+1 else 0) ([],.slice none 0 0,k1,u1,aa) (az (λ_ h=>h)) ⟨hk1,he1,λ_=>d2 _,λh=>hr1.bind (bh.skip h _ _ _),λh=>⟨l.length,xN _ _,λz k' b' e' h2=>?_⟩⟩ ?_
 ·have h:aa=0:=h;refine hr1.bind ?_;rw [h,if_neg zI];exact h2
 rintro ⟨acc,v0,k0,b0,bm⟩ ⟨hk0,he0,ha0,hn0,hc0⟩;dsimp only at hk0 he0 ha0 hn0 hc0;show bo prog _ (⟨44,aO v0++[P],⟨A++⟨P,144,[aB dO l,aA (((k0):Nat):Int),aA (((b0):Nat):Int),aA (((bm):Nat):Int),am 0,aA (((dp):Nat):Int)]⟩::B,⟨v0,69,2,(acc).length,(acc).flatMap cG⟩::rw⟩,[(3,au v0),(0,aE P)]⟩:AS) _;by_cases h0:bm=0
 ·subst h0;have ha1:=ha0 J;obtain ⟨n0,hn1,hcont⟩:=hc0 rfl;refine go 7 ?_;refine aC true J jp (go 10 ?_);refine aF J (pO [] J J J runUnderlying64) ?_;by_cases hfull:acc.length=6;focus
   refine aC true J (by rw [hfull];rfl) (go 2 ?_);refine bC J call60 J (ov (A) _ _ _ l k0 b0 0 0 dp [109,117,116,101,120] V hok hk0) ?_;rintro t6 s6 (⟨-,ha6,rfl,rfl⟩|⟨ha6,rfl,rfl⟩);focus
    refine go 10 ?_;refine bC J call61 J (jG (A) _ _ _ l k0 b0 0 0 dp 3) ?_;rintro t8 s8 ⟨u8,e8,hf8,rfl,rfl⟩;obtain ⟨rfl,rfl⟩:=hf8.1 rfl;refine go 5 ?_;refine bC J call62 J (eN (A) _ _ _ l k0 k0 3 0 dp [109,117,116,101,120] V hok hk0) ?_;rintro t9 s9 (⟨hz9,-⟩|⟨ha9,rfl,rfl⟩)
    ·exact absurd hz9 V
    refine go 8 λb1=>?_;refine bC J call65 J (lJ (_::A) _ _ _ l k0 k0 3 0 dp hok hk0 V) ?_;rintro t10 s10 ⟨x42,k42,u42,e42,rfl,hr10,hk42,he42,rfl⟩;refine go 6 ?_;have hel:bh 0 b0 (ja l acc.length k0) ⟨x42,false⟩ k42 u42 e42:=hr10.bad V (by unfold ja;rw [if_pos ⟨Y,.inr ha6⟩]);have hsix:e42=0 -> acc.length<6:=λh=>by
     have h9:=(hel.good h).2.1;unfold ja at h9;rw [if_pos ⟨Y,.inr ha6⟩] at h9;cases h9
   rotate_left;focus
    refine go 2 ?_;refine bC J call59 J (pD (A) _ _ _ l k0 b0 0 0 dp 1 hk0) ?_;rintro t16 s16 (⟨-,ha16,rfl,rfl⟩|⟨ha16,rfl,rfl⟩);focus
     refine go 7 ?_;refine bC J call61 J (jG (A) _ _ _ l k0 b0 0 0 dp 3) ?_;rintro t18 s18 ⟨u18,e18,hf18,rfl,rfl⟩;obtain ⟨rfl,rfl⟩:=hf18.1 rfl;refine go 5 ?_;refine bC J call62 J (eN (A) _ _ _ l k0 k0 3 0 dp [109,117,116,101,120] V hok hk0) ?_;rintro t19 s19 (⟨hz19,-⟩|⟨ha19,rfl,rfl⟩)
     ·exact absurd hz19 V
     refine go 8 λb2=>?_;refine bC J call65 J (lJ (_::A) _ _ _ l k0 k0 3 0 dp hok hk0 V) ?_;rintro t20 s20 ⟨x42,k42,u42,e42,rfl,hr20,hk42,he42,rfl⟩;refine go 6 ?_;have hel:bh 0 b0 (ja l acc.length k0) ⟨x42,false⟩ k42 u42 e42:=hr20.bad V (by unfold ja;rw [if_pos ⟨Y,.inl ha16⟩]);have hsix:e42=0 -> acc.length<6:=λh=>by
      have h9:=(hel.good h).2.1;unfold ja at h9;rw [if_pos ⟨Y,.inl ha16⟩] at h9;cases h9
    rotate_left;refine go 10 ?_;refine bC J call62 J (eN (A) _ _ _ l k0 b0 0 0 dp [109,117,116,101,120] V hok hk0) ?_;rintro t27 s27 (⟨-,ha27,hm27,rfl,rfl⟩|⟨ha27,rfl,rfl⟩)
    ·exact absurd ha27 (by rw [(ha6 rfl)];decide)
    refine go 8 λb3=>?_;refine bC J call65 J (lJ (_::A) _ _ _ l k0 b0 0 0 dp hok hk0 he0) ?_;rintro t28 s28 ⟨x42,k42,u42,e42,rfl,hr28,hk42,he42,rfl⟩;refine go 6 ?_;have hel:bh 0 b0 (ja l acc.length k0) ⟨x42,false⟩ k42 u42 e42:=(hr28.map (f:=λs=>bp.mk s false)).eq λ_=>by unfold ja;rw [if_neg Hc,if_neg (by rw [ha27 rfl];decide)]
    have hsix:e42=0 -> acc.length<6:=λh=>by
     have h9:=(hel.good h).2.1;unfold ja at h9;rw [if_neg Hc,if_neg (by rw [ha27 rfl];decide),Sq (ha16 rfl)] at h9;cases h9
  rotate_left 3;refine aC false J (by rw [show eU .eql ((acc.length:Nat):Int) 6=some (decide (acc.length=6)) from pm (n:=6),decide_eq_false hfull]) (go 16 ?_);refine bC J call62 J (eN (A) _ _ _ l k0 b0 0 0 dp [109,117,116,101,120] V hok hk0) ?_;rintro t35 s35 (⟨-,ha35,hm35,rfl,rfl⟩|⟨ha35,rfl,rfl⟩)
  ·refine go 8 λb4=>?_;refine bC J call65 J (lJ (_::A) _ _ _ l (k0+1) b0 0 0 dp hok hm35 V) ?_;rintro t36 s36 ⟨x36,k36,u36,e36,rfl,hr36,hk36,he36,rfl⟩;refine go 6 ?_;have hel:bh 0 b0 (ja l acc.length k0) ⟨x36,true⟩ k36 u36 e36:=(hr36.map (f:=λs=>bp.mk s true)).eq λ_=>by unfold ja;rw [if_neg (by rintro ⟨h,-⟩;omega),if_pos ha35]
   have hsix:e36=0 -> acc.length<6:=λh=>by
    omega
   refine go 2 ?_;refine aW J (be (hf:=dU cG cG ⟨x36,true⟩ J J J) EE ?_);refine aW J (uZ Tryz.t69 24 J J V J J underlying64 aQ J J J J V J V (by unfold maxLen;have:=ha1;omega) (by have:=ha1;omega) (@length_append _ acc [⟨x36,true⟩]).symm fi cb (d4 (f:=cG)).symm λv37=>?_);refine go 6 ?_;refine bC J call62 J (mV (_::A) _ _ _ l k36 u36 e36 0 dp [44] V hok hk36) ?_;rintro t38 s38 (⟨rfl,ha38,hm38,rfl,rfl⟩|⟨ha38,rfl,rfl⟩)
   ·refine go 6 ?_;obtain ⟨m,rfl⟩:∃m,n0=m+1:=⟨n0-1,Y⟩;have hin:=BB (n:=acc.length) hok.last hk0;rw [(hel.good rfl).2.1] at hin;have hin1:=hin.1;refine ⟨(acc++[⟨x36,true⟩],v37,k36+1,u36,0),⟨hm38,x9,λ_=>Iw,λh=>absurd J h,λ_=>⟨m,by show l.length <= m+(k36+1);omega,λz k' b' e' h=>hcont z k' b' e' ?_⟩⟩,by show (if (0:Nat)=0 then _ else _)<(if (0:Nat)=0 then _ else _);rw [if_pos rfl,if_pos rfl];show l.length-(k36+1)+1<l.length-k0+1;omega,az (h1:=(.cons _ (.refl _))) eZ⟩;rw [lQ];refine hel.bind ?_;rw [if_pos ha38];exact h
   refine go 7 ?_;refine bC J call86 J (gZ (_::A) _ _ _ l k36 u36 e36 0 dp [41] V hok hk36 he36) ?_;rintro t41 s41 ⟨x41,k41,u41,e41,rfl,hr41,hk41,he41,rfl⟩;refine go 8 ?_;refine mS 2 J ?_;refine go 5 ?_;obtain ⟨m,rfl⟩:∃m,n0=m+1:=⟨n0-1,Y⟩;exact ⟨.inr J,_,(bY A B rw P l (k41) (u41) (e41) (0) (dp)),(bT J (bM J)),aj (.cons _ (.refl _)) (.refl _),⟨acc++[⟨x36,true⟩],k41,u41,e41,J,hcont _ _ _ _ (by rw [lQ];exact hel.bind ((hr41.map (f:=λ_=>acc++[⟨x36,true⟩])).eq λh=>by rw [if_neg (by rw [ha38 h];decide)])),hk41,he41,J⟩⟩
  refine go 8 λb5=>?_;refine bC J call65 J (lJ (_::A) _ _ _ l k0 b0 0 0 dp hok hk0 he0) ?_;rintro t42 s42 ⟨x42,k42,u42,e42,rfl,hr42,hk42,he42,rfl⟩;refine go 6 ?_;have hel:bh 0 b0 (ja l acc.length k0) ⟨x42,false⟩ k42 u42 e42:=(hr42.map (f:=λs=>bp.mk s false)).eq λ_=>by unfold ja;rw [if_neg (by rintro ⟨h,-⟩;omega),if_neg (by rw [ha35 rfl];decide)]
  have hsix:e42=0 -> acc.length<6:=λh=>by
   omega
  all_goals
   refine go 2 ?_;refine aW J (be (hf:=dU cG cG ⟨x42,false⟩ J J J) EE ?_);refine aW J (uZ Tryz.t69 24 J J V J J underlying64 aQ J J J J V J V (by unfold maxLen;have:=ha1;omega) (by have:=ha1;omega) (@length_append _ acc [⟨x42,false⟩]).symm fi cb (d4 (f:=cG)).symm λv43=>?_);refine go 6 ?_;refine bC J call62 J (mV (_::A) _ _ _ l k42 u42 e42 0 dp [44] V hok hk42) ?_;rintro t44 s44 (⟨rfl,ha44,hm44,rfl,rfl⟩|⟨ha44,rfl,rfl⟩)
   ·refine go 6 ?_;obtain ⟨m,rfl⟩:∃m,n0=m+1:=⟨n0-1,Y⟩;have hin:=BB (n:=acc.length) hok.last hk0;rw [(hel.good rfl).2.1] at hin;have hin1:=hin.1;refine ⟨(acc++[⟨x42,false⟩],v43,k42+1,u42,0),⟨hm44,x9,λ_=>Iw,λh=>absurd J h,λ_=>⟨m,by show l.length <= m+(k42+1);omega,λz k' b' e' h=>hcont z k' b' e' ?_⟩⟩,by show (if (0:Nat)=0 then _ else _)<(if (0:Nat)=0 then _ else _);rw [if_pos rfl,if_pos rfl];show l.length-(k42+1)+1<l.length-k0+1;omega,az (h1:=(.cons _ (.refl _))) eZ⟩;rw [lQ];refine hel.bind ?_;rw [if_pos ha44];exact h
   refine go 7 ?_;refine bC J call86 J (gZ (_::A) _ _ _ l k42 u42 e42 0 dp [41] V hok hk42 he42) ?_;rintro t47 s47 ⟨x47,k47,u47,e47,rfl,hr47,hk47,he47,rfl⟩;refine go 8 ?_;refine mS 2 J ?_;refine go 5 ?_;obtain ⟨m,rfl⟩:∃m,n0=m+1:=⟨n0-1,Y⟩;exact ⟨.inr J,_,(bY A B rw P l (k47) (u47) (e47) (0) (dp)),(bT J (bM J)),aj (.cons _ (.refl _)) (.refl _),⟨acc++[⟨x42,false⟩],k47,u47,e47,J,hcont _ _ _ _ (by rw [lQ];exact hel.bind ((hr47.map (f:=λ_=>acc++[⟨x42,false⟩])).eq λh=>by rw [if_neg (by rw [ha44 h];decide)])),hk47,he47,J⟩⟩
 refine go 7 ?_;refine aC false J (qp h0) (go 14 ?_);refine mS 2 J ?_;refine go 1 ?_;exact ⟨.inr J,_,(bY A B rw P l (k0) (b0) (bm) (0) (dp)),(bT J (bM J)),aj (.refl _) (.refl _),⟨acc,k0,b0,bm,J,hn0 h0,hk0,he0,J⟩⟩
def MI(A B:List aT)(rw:List aS)(P:Nat)(l:List Tok)(k b e dp:Nat)(hok:gI l)(hk:k<l.length)(he:e<16):aR prog 63 [aE P] [P] (bY A B rw P l k b e 0 dp) (gy A B rw P l 0 dp (λx=>.agg (ak x)) e b (xY l k)):=by
 have hlen:=hok.len;refine bN 45 func63 ?_;refine go 8 λb1=>?_;refine bC J call65 J (lJ (_::A) _ _ _ l k b e 0 dp hok hk he) ?_;rintro t1 s1 ⟨x1,k1,u1,aa,rfl,hr1,hk1,he1,rfl⟩;refine go 9 λb2=>?_;refine bC J call62 J (mV (_::_::A) _ _ _ l k1 u1 aa 0 dp [61] V hok hk1) ?_;rintro cx s2 (⟨rfl,ha2,hm2,rfl,rfl⟩|⟨ha2,rfl,rfl⟩)
 ·refine go 6 ?_;refine bC J call62 J (mV (_::_::A) _ _ _ l (k1+1) u1 0 0 dp [45] V hok hm2) ?_;rintro t4 s4 (⟨-,ha4,hm4,rfl,rfl⟩|⟨ha4,rfl,rfl⟩)
  ·refine go 7 ?_;refine bC J call59 J (pD (_::_::A) _ _ _ l ((k1+1)+1) u1 0 0 dp 2 hm4) ?_;rintro t5 s5 (⟨-,ha5,rfl,rfl⟩|⟨ha5,rfl,rfl⟩)
   ·refine go 7 ?_;have hreg:=(hok.reg _ (getElem_mem hm4)).2.2;have hnum:lI l ((k1+1)+1)=.ok l[(k1+1)+1].num ((k1+1)+1+1):=by unfold lI;rw [if_pos ha5,lS hm4]
    refine b_ [b1,P] (aY [0,1,2,3,4,5,6,7] 5 (go 9 ?_));refine ab 8 J (bS dO dO l kB (λ_=>J) ((k1+1)+1) J J J J hm4 V runUnderlying139 sizeOf154) (cU [(9,true),(10,true),(11,true),(12,false)] 0 (go 5 ?_));refine bG (go 11 ?_);refine aF J (P0 (-((l[(k1+1)+1].num:Nat):Int)) J J Y Y Y) (go 9 ?_);refine bJ J (go 7 ?_);have hm:=hok.last.more hm4 (by rw [ha5];decide);refine go 1 ?_;refine bC J call86 J (gZ (_::_::A) _ _ _ l (((k1+1)+1)+1) u1 0 0 dp [59] V hok hm V) ?_;rintro t8 s8 ⟨x8,k8,u8,e8,rfl,hr8,hk8,he8,rfl⟩;refine go 9 ?_;exact ⟨.inr J,_,(bY A B rw P l (k8) (u8) (e8) (0) (dp)),(bT J (cS [_] J J isAgg63 sizeOf63 (cY J J))),aj (.cons _ (.cons _ (.refl _))) (.refl _),⟨⟨x1,(-((l[(k1+1)+1].num:Nat):Int))⟩,k8,u8,e8,J,hr1.bind (.yes (λ_=>ha2) (.yes (λ_=>ha4) (bh.bind (.ok _ _ _ hnum) (hr8.map (f:=λ_=>bw.mk x1 (-((l[(k1+1)+1].num:Nat):Int))))))),hk8,he8,J⟩⟩
   refine go 7 ?_;refine bC J call61 J (jG (_::_::A) _ _ _ l ((k1+1)+1) u1 0 0 dp 4) ?_;rintro t10 s10 ⟨u10,e10,hf10,rfl,rfl⟩;obtain ⟨rfl,rfl⟩:=hf10.1 rfl;refine go 11 ?_;exact ⟨.inr J,_,(bY A B rw P l ((k1+1)+1) ((k1+1)+1) (4) (0) (dp)),(bT J (cS [_] J J isAgg63 sizeOf63 (cY J J))),aj (.cons _ (.cons _ (.refl _))) (.refl _),⟨⟨x1,0⟩,(k1+1)+1,(k1+1)+1,4,J,hr1.bind (.yes (λ_=>ha2) (.yes (λ_=>ha4) (bh.bind (x:=0) (k:=0) (.err _ _ _ _ _ (by unfold lI;rw [if_neg (ha5 rfl)]) V) (.skip V _ _ _)))),hm4,V,J⟩⟩
  refine go 7 ?_;refine bC J call59 J (pD (_::_::A) _ _ _ l (k1+1) u1 0 0 dp 2 hm2) ?_;rintro t11 s11 (⟨-,ha11,rfl,rfl⟩|⟨ha11,rfl,rfl⟩)
  ·refine go 7 ?_;have hreg:=(hok.reg _ (getElem_mem hm2)).2.2;have hnum:lI l (k1+1)=.ok l[k1+1].num (k1+1+1):=by unfold lI;rw [if_pos ha11,lS hm2]
   refine b_ [b1,P] (aY [0,1,2,3,4,5,6,7] 5 (go 9 ?_));refine ab 8 J (bS dO dO l kB (λ_=>J) (k1+1) J J J J hm2 V runUnderlying139 sizeOf154) (cU [(9,true),(10,true),(11,true),(12,false)] 0 (go 5 ?_));refine bG (go 15 ?_);refine bJ J (go 7 ?_);have hm:=hok.last.more hm2 (by rw [ha11];decide);refine go 1 ?_;refine bC J call86 J (gZ (_::_::A) _ _ _ l ((k1+1)+1) u1 0 0 dp [59] V hok hm V) ?_;rintro t14 s14 ⟨x14,k14,u14,e14,rfl,hr14,hk14,he14,rfl⟩;refine go 9 ?_;exact ⟨.inr J,_,(bY A B rw P l (k14) (u14) (e14) (0) (dp)),(bT J (cS [_] J J isAgg63 sizeOf63 (cY J J))),aj (.cons _ (.cons _ (.refl _))) (.refl _),⟨⟨x1,((l[k1+1].num:Nat):Int)⟩,k14,u14,e14,J,hr1.bind (.yes (λ_=>ha2) (.no (λ_=>EZ) (bh.bind (.ok _ _ _ hnum) (hr14.map (f:=λ_=>bw.mk x1 ((l[k1+1].num:Nat):Int)))))),hk14,he14,J⟩⟩
  refine go 7 ?_;refine bC J call61 J (jG (_::_::A) _ _ _ l (k1+1) u1 0 0 dp 4) ?_;rintro t16 s16 ⟨u16,e16,hf16,rfl,rfl⟩;obtain ⟨rfl,rfl⟩:=hf16.1 rfl;refine go 11 ?_;exact ⟨.inr J,_,(bY A B rw P l (k1+1) (k1+1) (4) (0) (dp)),(bT J (cS [_] J J isAgg63 sizeOf63 (cY J J))),aj (.cons _ (.cons _ (.refl _))) (.refl _),⟨⟨x1,0⟩,k1+1,k1+1,4,J,hr1.bind (.yes (λ_=>ha2) (.no (λ_=>EZ) (bh.bind (x:=0) (k:=0) (.err _ _ _ _ _ (by unfold lI;rw [if_neg (ha11 rfl)]) V) (.skip V _ _ _)))),hm2,V,J⟩⟩
 refine go 8 ?_;refine bC J call86 J (gZ (_::_::A) _ _ _ l k1 u1 aa 0 dp [59] V hok hk1 he1) ?_;rintro t18 s18 ⟨x18,k18,u18,e18,rfl,hr18,hk18,he18,rfl⟩;refine go 9 ?_;exact ⟨.inr J,_,(bY A B rw P l (k18) (u18) (e18) (0) (dp)),(bT J (cS [_] J J isAgg63 sizeOf63 (cY J J))),aj (.cons _ (.cons _ (.refl _))) (.refl _),⟨⟨x1,0⟩,k18,u18,e18,J,hr1.bind (.no (λh=>zI) (hr18.map (f:=λ_=>bw.mk x1 0))),hk18,he18,J⟩⟩
def ML(A B:List aT)(rw:List aS)(P:Nat)(l:List Tok)(k b e dp:Nat)(hok:gI l)(hk:k<l.length)(he:e<16):aR prog 64 [aE P,ap true] [P] (bY A B rw P l k b e 0 dp) (gy A B rw P l 0 dp (λx=>.agg (aU x)) e b (ut l true k)):=by
 have hlen:=hok.len;refine bN 57 func64 ?_;refine go 8 λb1=>?_;refine bC J call65 J (lJ (_::A) _ _ _ l k b e 0 dp hok hk he) ?_;rintro t1 s1 ⟨x1,k1,u1,aa,rfl,hr1,hk1,he1,rfl⟩;refine go 23 λb2=>?_;refine bC J call86 J (gZ (_::_::A) _ _ _ l k1 u1 aa 0 dp [59] V hok hk1 he1) ?_;rintro t3 s3 ⟨x3,k3,u3,e3,rfl,hr3,hk3,he3,rfl⟩;refine go 9 ?_;exact ⟨.inr J,_,(bY A B rw P l (k3) (u3) (e3) (0) (dp)),(bT J (cS [_] J J isAgg60 sizeOf60 (cY J J))),aj (.cons _ (.cons _ (.refl _))) (.refl _),⟨⟨x1,true,0⟩,k3,u3,e3,J,hr1.bind (.no (λh=>by rintro ⟨h,-⟩;cases h) (hr3.map (f:=λ_=>cq.mk x1 true 0))),hk3,he3,J⟩⟩
def Lj(A B:List aT)(rw:List aS)(P:Nat)(l:List Tok)(k b e dp:Nat)(hok:gI l)(hk:k<l.length)(he:e<16):aR prog 64 [aE P,ap false] [P] (bY A B rw P l k b e 0 dp) (gy A B rw P l 0 dp (λx=>.agg (aU x)) e b (ut l false k)):=by
 have hlen:=hok.len;refine bN 57 func64 ?_;refine go 8 λb1=>?_;refine bC J call65 J (lJ (_::A) _ _ _ l k b e 0 dp hok hk he) ?_;rintro t1 s1 ⟨x1,k1,u1,aa,rfl,hr1,hk1,he1,rfl⟩;refine go 13 λb2=>?_;refine bC J call62 J (mV (_::_::A) _ _ _ l k1 u1 aa 0 dp [91] V hok hk1) ?_;rintro cx s2 (⟨rfl,ha2,hm2,rfl,rfl⟩|⟨ha2,rfl,rfl⟩)
 ·refine go 8 ?_;refine bC J call59 J (pD (_::_::A) _ _ _ l (k1+1) u1 0 0 dp 2 hm2) ?_;rintro t4 s4 (⟨-,ha4,rfl,rfl⟩|⟨ha4,rfl,rfl⟩)
  ·refine go 7 ?_;have hreg:=(hok.reg _ (getElem_mem hm2)).2.2;have hnum:lI l (k1+1)=.ok l[k1+1].num (k1+1+1):=by unfold lI;rw [if_pos ha4,lS hm2]
   refine b_ [b1,P] (aY [0,1,2,3,4,5,6,7] 5 (go 9 ?_));refine ab 8 J (bS dO dO l kB (λ_=>J) (k1+1) J J J J hm2 V runUnderlying139 sizeOf154) (cU [(9,true),(10,true),(11,true),(12,false)] 0 (go 5 ?_));refine bG (go 4 ?_);rcases (show l[k1+1].num<1∨(¬l[k1+1].num<1 /\ 64<l[k1+1].num)∨(¬l[k1+1].num<1 /\ ¬64<l[k1+1].num) by omega) with hs1|⟨hs1,hs2⟩|⟨hs1,hs2⟩
   ·have hsz:(l[k1+1].num<1∨64<l[k1+1].num):=Y;refine go 2 ?_;refine aC true J tG (go 11 ?_);refine bC J call61 J (jG (_::_::A) _ _ _ l (k1+1) u1 0 0 dp 3) ?_;rintro t7 s7 ⟨u7,e7,hf7,rfl,rfl⟩;obtain ⟨rfl,rfl⟩:=hf7.1 rfl;refine go 11 ?_;exact ⟨.inr J,_,(bY A B rw P l (k1+1) (k1+1) (3) (0) (dp)),(bT J (cS [_] J J isAgg60 sizeOf60 (cY J J))),aj (.cons _ (.cons _ (.refl _))) (.refl _),⟨⟨x1,false,l[k1+1].num⟩,k1+1,k1+1,3,J,hr1.bind (.yes (λ_=>⟨J,ha2⟩) (bh.bind (x:=0) (k:=0) (bh.bind (.ok _ _ _ hnum) (.yes (λ_=>hsz) (.err _ _ _ _ _ J V))) (.skip V _ _ _))),hm2,V,J⟩⟩
   ·have hsz:(l[k1+1].num<1∨64<l[k1+1].num):=Y;refine go 2 ?_;refine aC false J tG (go 3 ?_);refine aC true J tG (go 7 ?_);refine bC J call61 J (jG (_::_::A) _ _ _ l (k1+1) u1 0 0 dp 3) ?_;rintro t9 s9 ⟨u9,e9,hf9,rfl,rfl⟩;obtain ⟨rfl,rfl⟩:=hf9.1 rfl;refine go 11 ?_;exact ⟨.inr J,_,(bY A B rw P l (k1+1) (k1+1) (3) (0) (dp)),(bT J (cS [_] J J isAgg60 sizeOf60 (cY J J))),aj (.cons _ (.cons _ (.refl _))) (.refl _),⟨⟨x1,false,l[k1+1].num⟩,k1+1,k1+1,3,J,hr1.bind (.yes (λ_=>⟨J,ha2⟩) (bh.bind (x:=0) (k:=0) (bh.bind (.ok _ _ _ hnum) (.yes (λ_=>hsz) (.err _ _ _ _ _ J V))) (.skip V _ _ _))),hm2,V,J⟩⟩
   have hsz:¬(l[k1+1].num<1∨64<l[k1+1].num):=Y;refine go 2 ?_;refine aC false J tG (go 3 ?_);refine aC false J tG (go 12 ?_);refine bJ J (go 6 ?_);have hm:=hok.last.more hm2 (by rw [ha4];decide);refine go 1 ?_;refine bC J call86 J (gZ (_::_::A) _ _ _ l ((k1+1)+1) u1 0 0 dp [93] V hok hm V) ?_;rintro t11 s11 ⟨x11,k11,u11,e11,rfl,hr11,hk11,he11,rfl⟩;refine go 5 ?_;refine bC J call86 J (gZ (_::_::A) _ _ _ l k11 u11 e11 0 dp [59] V hok hk11 he11) ?_;rintro t12 s12 ⟨x12,k12,u12,e12,rfl,hr12,hk12,he12,rfl⟩;refine go 9 ?_;exact ⟨.inr J,_,(bY A B rw P l (k12) (u12) (e12) (0) (dp)),(bT J (cS [_] J J isAgg60 sizeOf60 (cY J J))),aj (.cons _ (.cons _ (.refl _))) (.refl _),⟨⟨x1,false,l[k1+1].num⟩,k12,u12,e12,J,hr1.bind (.yes (λ_=>⟨J,ha2⟩) (bh.bind (bh.bind (.ok _ _ _ hnum) (.no (λ_=>hsz) (.ok _ _ _ J))) (hr11.bind (hr12.map (f:=λ_=>cq.mk x1 false l[k1+1].num))))),hk12,he12,J⟩⟩
  refine go 7 ?_;refine bC J call61 J (jG (_::_::A) _ _ _ l (k1+1) u1 0 0 dp 4) ?_;rintro t14 s14 ⟨u14,e14,hf14,rfl,rfl⟩;obtain ⟨rfl,rfl⟩:=hf14.1 rfl;refine go 11 ?_;exact ⟨.inr J,_,(bY A B rw P l (k1+1) (k1+1) (4) (0) (dp)),(bT J (cS [_] J J isAgg60 sizeOf60 (cY J J))),aj (.cons _ (.cons _ (.refl _))) (.refl _),⟨⟨x1,false,0⟩,k1+1,k1+1,4,J,hr1.bind (.yes (λ_=>⟨J,ha2⟩) (bh.bind (x:=0) (k:=0) (bh.bind (x:=0) (k:=0) (.err _ _ _ _ _ (by unfold lI;rw [if_neg (ha4 rfl)]) V) (.skip V _ _ _)) (.skip V _ _ _))),hm2,V,J⟩⟩
 refine go 9 ?_;refine bC J call86 J (gZ (_::_::A) _ _ _ l k1 u1 aa 0 dp [59] V hok hk1 he1) ?_;rintro t16 s16 ⟨x16,k16,u16,e16,rfl,hr16,hk16,he16,rfl⟩;refine go 9 ?_;exact ⟨.inr J,_,(bY A B rw P l (k16) (u16) (e16) (0) (dp)),(bT J (cS [_] J J isAgg60 sizeOf60 (cY J J))),aj (.cons _ (.cons _ (.refl _))) (.refl _),⟨⟨x1,false,0⟩,k16,u16,e16,J,hr1.bind (.no (λh=>by rintro ⟨-,h9⟩;rw [ha2 h] at h9;cases h9) (hr16.map (f:=λ_=>cq.mk x1 false 0))),hk16,he16,J⟩⟩
def gI.of{s:List UInt8}{l:List Tok}(h:fo s=.ok l):gI l:=⟨(Ds h).ends,(Ds h).reg,by have:=(Ds h).few;omega⟩
def oR(s:List UInt8):aZ×Nat×Nat:=
 match fo s with
 |.err p e=>(⟨[],[],[]⟩,p,e)
 |.ok l=>match kW l with
  |.ok x _=>(x,s.length,0)
  |.err k e=>(⟨[],[],[]⟩,(dM l k).pos,e)
def Us{s:List UInt8}{p e:Nat}(h:fo s=.err p e):oR s=(⟨[],[],[]⟩,p,e):=by unfold oR;rw [h]
def Ru{s:List UInt8}{l:List Tok}{k e:Nat}(h:fo s=.ok l)(h2:kW l=.err k e)(hk:k<l.length):oR s=(⟨[],[],[]⟩,l[k].pos,e):=by unfold oR;rw [h];dsimp only;rw [h2];dsimp only;rw [lS hk]
def UT{s:List UInt8}{l:List Tok}{x:aZ}{k:Nat}(h:fo s=.ok l)(h2:kW l=.ok x k):oR s=(x,s.length,0):=by unfold oR;rw [h];dsimp only;rw [h2]
def ny{l:List Tok}{k:Nat}{a b:List UInt8}(ha:fu l k a=true)(hb:fu l k b=true):bytes a=bytes b:=by
 rw [←(Bn ha).2,←(Bn hb).2]
def NY(bs:List UInt8)(s:aH):aR prog 30 [.c (.sl bs.length (cT bs))] [] s λt s'=>t=.tup [.agg (eA (oR bs).1),bB ((oR bs).2.1:Int),bB ((oR bs).2.2:Int)] /\ s'=s:=by
 obtain ⟨bx,rw⟩:=s;refine bN 146 func30 ?_;refine go 10 λb1=>?_;refine aW J (bj [] J J V call58 J (J1 bs _) dL dL (λ_=>dL) ?_);rintro t1 s1 ⟨⟨l,hlx,rfl,hfew⟩|⟨p0,er,hlx,rfl,her⟩,rfl⟩
 ·have hok:=gI.of hlx;have hlen:=hok.len;have hk:0<l.length:=hok.last.1;have he:(0:Nat)<16:=V;refine go 13 ?_;refine aC false J jp (go 18 λP b3=>?_);refine fZ 67 3 ?_;refine fZ 60 3 ?_;refine fZ 63 2 ?_;refine ff (λg:aZ×aM×aM×aM×Nat×Nat×Nat=>(⟨146,aO g.2.1++(aO g.2.2.1++(aO g.2.2.2.1++[b3,P,b1])),⟨⟨b3,27,[.val g.2.1,.val g.2.2.1,.val g.2.2.2.1]⟩::⟨P,144,[aB dO l,aA (((g.2.2.2.2.1):Nat):Int),aA (((g.2.2.2.2.2.1):Nat):Int),aA (((g.2.2.2.2.2.2):Nat):Int),am 0,am 0]⟩::⟨b1,27,[aI,aI,aI]⟩::bx,⟨g.2.1,63,2,(g.1).globals.length,(g.1).globals.flatMap ak⟩::⟨g.2.2.1,60,3,(g.1).mutexes.length,(g.1).mutexes.flatMap aU⟩::⟨g.2.2.2.1,67,3,(g.1).funcs.length,(g.1).funcs.flatMap ac⟩::rw⟩,[(9,aE P),(8,aE b3),(6,bB (bs.length:Int)),(5,.c (aB dO l)),(2,aE b1)]⟩:AS)) (λg=>g.2.2.2.2.1<l.length /\ g.2.2.2.2.2.2<16 /\ (g.2.2.2.2.2.2=0 -> g.1.globals.length <= 16 /\ g.1.mutexes.length <= 12 /\ g.1.funcs.length <= 16) /\ (g.2.2.2.2.2.2≠0 -> bh 0 0 (kW l) g.1 g.2.2.2.2.1 g.2.2.2.2.2.1 g.2.2.2.2.2.2) /\ (g.2.2.2.2.2.2=0 -> g.2.2.2.2.2.1=0 /\ ∃n,l.length <= n+g.2.2.2.2.1 /\ ∀z k' b' e',bh 0 0 (kc l n g.1 g.2.2.2.2.1) z k' b' e' -> bh 0 0 (kW l) z k' b' e')) (λg=>if g.2.2.2.2.2.2=0 then l.length-g.2.2.2.2.1+1 else 0) (⟨[],[],[]⟩,.slice none 0 0,.slice none 0 0,.slice none 0 0,0,0,0) (az sH) ⟨hk,he,λ_=>⟨d2 _,d2 _,d2 _⟩,λh=>absurd J h,λ_=>⟨J,l.length,xN _ _,λz k' b' e' h2=>h2⟩⟩ ?_;rintro ⟨x0,vg,vm,vf,k0,b0,bm⟩ ⟨hk0,he0,ha0,hn0,hc0⟩;dsimp only at hk0 he0 ha0 hn0 hc0;show bo prog _ (⟨146,aO vg++(aO vm++(aO vf++[b3,P,b1])),⟨⟨b3,27,[.val vg,.val vm,.val vf]⟩::⟨P,144,[aB dO l,aA (((k0):Nat):Int),aA (((b0):Nat):Int),aA (((bm):Nat):Int),am 0,am 0]⟩::⟨b1,27,[aI,aI,aI]⟩::bx,⟨vg,63,2,(x0).globals.length,(x0).globals.flatMap ak⟩::⟨vm,60,3,(x0).mutexes.length,(x0).mutexes.flatMap aU⟩::⟨vf,67,3,(x0).funcs.length,(x0).funcs.flatMap ac⟩::rw⟩,[(9,aE P),(8,aE b3),(6,bB (bs.length:Int)),(5,.c (aB dO l)),(2,aE b1)]⟩:AS) _;by_cases h0:bm=0
  ·subst h0;obtain ⟨hl1,hl2,hl3⟩:=ha0 rfl;obtain ⟨rfl,n0,hn1,hcont⟩:=hc0 rfl;refine go 7 ?_;refine aC true J jp (go 2 ?_);refine bC J call59 J (pD [_] _ _ _ l k0 0 0 0 0 5 hk0) ?_;rintro t3 s3 (⟨-,ha3,rfl,rfl⟩|⟨ha3,rfl,rfl⟩)
   ·refine go 13 ?_;obtain ⟨m,rfl⟩:∃m,n0=m+1:=⟨n0-1,Y⟩;have hfin:=hcont x0 k0 0 0 (by rw [kc,if_pos ha3];exact .ok _ _ _ rfl);have hgood:kW l=.ok x0 k0:=(hfin.good J).2.1;refine go 4 ?_;refine aC false J jp (go 7 ?_);refine iE [] 0 J J ?_;refine iE [] 1 J J ?_;refine iE [] 2 J J ?_;refine go 8 ?_;exact ⟨.inr J,_,⟨bx,rw⟩,(pN J (cS [_,_] J J isAgg27 sizeOf27 (cY J J)) (bM J) (bM J)),aj (.cons _ (.cons _ (.cons _ (.refl _)))) (.refl _),by rw [UT hlx hgood];rfl,J⟩
   refine go 10 ?_;have hk5:¬(dM l k0).kind=5:=ha3 J;refine go 1 ?_;refine bC J call60 J (ov [_] _ _ _ l k0 0 0 0 0 [118,97,114] V hok hk0) ?_;rintro t7 s7 (⟨-,ha7,rfl,rfl⟩|⟨ha7,rfl,rfl⟩)
   ·refine go 1 ?_;refine bC J call60 J (ov [_] _ _ _ l k0 0 0 0 0 [109,117,116,101,120] V hok hk0) ?_;rintro t8 s8 (⟨-,ha8,rfl,rfl⟩|⟨ha8,rfl,rfl⟩)
    ·exact absurd (ny ha8 ha7) V
    refine go 2 ?_;refine bC J call60 J (ov [_] _ _ _ l k0 0 0 0 0 [114,109,117,116,101,120] V hok hk0) ?_;rintro t9 s9 (⟨-,ha9,rfl,rfl⟩|⟨ha9,rfl,rfl⟩)
    ·exact absurd (ny ha9 ha7) V
    refine go 2 ?_;refine bC J call60 J (ov [_] _ _ _ l k0 0 0 0 0 [102,117,110,99] V hok hk0) ?_;rintro t10 s10 (⟨-,ha10,rfl,rfl⟩|⟨ha10,rfl,rfl⟩)
    ·exact absurd (ny ha10 ha7) V
    refine go 8 ?_;by_cases hglobals:x0.globals.length=16
    ·refine go 4 ?_;refine aF J (pO [] J J J runUnderlying23) ?_;refine aC true J (by rw [hglobals];rfl) (go 24 ?_);refine bC J call61 J (jG [_] _ _ _ l k0 0 0 0 0 3) ?_;rintro t12 s12 ⟨u12,e12,hf12,rfl,rfl⟩;obtain ⟨rfl,rfl⟩:=hf12.1 rfl;refine go 6 ?_;refine bC J call62 J (eN [_] _ _ _ l k0 k0 3 0 0 [118,97,114] V hok hk0) ?_;rintro t13 s13 (⟨hz13,-⟩|⟨ha13,rfl,rfl⟩)
     ·exact absurd hz13 V
     refine go 7 ?_;refine bC J call62 J (eN [_] _ _ _ l k0 k0 3 0 0 [109,117,116,101,120] V hok hk0) ?_;rintro t15 s15 (⟨hz15,-⟩|⟨ha15,rfl,rfl⟩)
     ·exact absurd hz15 V
     refine go 7 ?_;refine bC J call62 J (eN [_] _ _ _ l k0 k0 3 0 0 [114,109,117,116,101,120] V hok hk0) ?_;rintro t17 s17 (⟨hz17,-⟩|⟨ha17,rfl,rfl⟩)
     ·exact absurd hz17 V
     refine go 7 ?_;refine bC J call62 J (eN [_] _ _ _ l k0 k0 3 0 0 [102,117,110,99] V hok hk0) ?_;rintro t19 s19 (⟨hz19,-⟩|⟨ha19,rfl,rfl⟩)
     ·exact absurd hz19 V
     refine go 6 ?_;refine bC J call61 J (jG [_] _ _ _ l k0 k0 3 0 0 4) ?_;rintro t21 s21 ⟨u21,e21,hf21,rfl,rfl⟩;obtain ⟨rfl,rfl⟩:=hf21.2 V;refine go 3 ?_;obtain ⟨m,rfl⟩:∃m,n0=m+1:=⟨n0-1,Y⟩;have hel:bh 0 0 (jX l x0 k0) x0 k0 k0 3:=.err _ _ _ _ _ (by unfold jX;rw [if_pos ha7,if_pos Y]) V;have hst:∀z k' b' e',bh 3 k0 (kc l m x0 k0) z k' b' e' -> bh 0 0 (kW l) z k' b' e':=λz k' b' e' h=>hcont z k' b' e' pg;have hgo:3=0 -> k0<k0 /\ k0=0:=λh=>pi;refine ⟨(x0,vg,vm,vf,k0,k0,3),⟨hk0,(show (3:Nat)<16 by decide),λh=>?_,λh=>hst _ _ _ _ (.skip h _ _ _),λh=>⟨(hgo h).2,m,?_,λz k' b' e' h2=>hst _ _ _ _ ?_⟩⟩,?_,az eZ⟩
     ·exact absurd h (show ¬(3:Nat)=0 by decide)
     ·have:=hgo h;show l.length <= m+k0;omega
     ·exact absurd h (show ¬(3:Nat)=0 by decide)
     show (if 3=0 then _ else _)<(if (0:Nat)=0 then _ else _);by_cases h:3=0
     ·have:=hgo h;rw [if_pos h,if_pos rfl];show l.length-k0+1<l.length-k0+1;omega
     rw [if_neg h,if_pos rfl];show 0<l.length-k0+1;omega
    refine go 4 ?_;refine aF J (pO [] J J J runUnderlying23) ?_;refine aC false J (by rw [show eU .eql ((x0.globals.length:Nat):Int) 16=some (decide (x0.globals.length=16)) from pm (n:=16),decide_eq_false hglobals]) (go 28 ?_);refine bC J call62 J (eN [_] _ _ _ l k0 0 0 0 0 [118,97,114] V hok hk0) ?_;rintro t23 s23 (⟨-,ha23,hm23,rfl,rfl⟩|⟨ha23,rfl,rfl⟩)
    ·refine go 4 ?_;refine b_ [] (aY [0,2] 6 (go 3 ?_));refine cx 1 3 J ?_ ?_;focus
      refine eP J V (ca [] isAgg23 sizeOf23) ?_;refine an 3 J J (bj [P] J J V call63 J (MI [_] _ _ _ l (k0+1) 0 0 0 hok hm23 V) dV dS tA ?_);rintro t25 s25 ⟨x27,k27,u27,e27,rfl,hr27,hk27,he27,rfl⟩;refine an 4 J J (be (hf:=dU ak ak x27 J J J) qI ?_)
     rotate_left;focus
      refine (bj [P] J J V call63 J (MI [_] _ _ _ l (k0+1) 0 0 0 hok hm23 V) dV dS tA ?_);rintro t27 s27 ⟨x27,k27,u27,e27,rfl,hr27,hk27,he27,rfl⟩;refine cx 1 4 J ?_ ?_;focus
       refine eP J V (ca [] isAgg23 sizeOf23) ?_;refine an 4 J J (be (hf:=dU ak ak x27 J J J) qI ?_)
      rotate_left;refine (be (hf:=dU ak ak x27 J J J) qI ?_);refine an 1 J J (eP J V (ca [] isAgg23 sizeOf23) ?_)
     all_goals
      refine an 5 J J (dR [] qy J J V q5 q7 (@length_append _ x0.globals [x27]).symm Eh cb (d4 (f:=ak)).symm λv29=>?_);refine cU [(6,true),(7,false)] 0 (go 3 ?_);refine bG (go 2 ?_);obtain ⟨m,rfl⟩:∃m,n0=m+1:=⟨n0-1,Y⟩;have hel:bh 0 0 (jX l x0 k0) {x0 with globals:=x0.globals++[x27]} k27 u27 e27:=(hr27.map (f:=λg=>{x0 with globals:=x0.globals++[g]})).eq λ_=>by unfold jX;rw [if_pos ha7,if_neg Y]
      have hst:∀z k' b' e',bh e27 u27 (kc l m {x0 with globals:=x0.globals++[x27]} k27) z k' b' e' -> bh 0 0 (kW l) z k' b' e':=λz k' b' e' h=>hcont z k' b' e' pg;have hgo:e27=0 -> k0<k27 /\ u27=0:=λh=>pi;refine ⟨({x0 with globals:=x0.globals++[x27]},v29,vm,vf,k27,u27,e27),⟨hk27,he27,λh=>?_,λh=>hst _ _ _ _ (.skip h _ _ _),λh=>⟨(hgo h).2,m,?_,λz k' b' e' h2=>hst _ _ _ _ ?_⟩⟩,?_,az eZ⟩
      ·simp;omega
      ·have:=hgo h;show l.length <= m+k27;omega
      ·rw [show e27=0 from h,show u27=0 from (hgo h).2];exact h2
      show (if e27=0 then _ else _)<(if (0:Nat)=0 then _ else _);by_cases h:e27=0
      ·have:=hgo h;rw [if_pos h,if_pos rfl];show l.length-k27+1<l.length-k0+1;omega
      rw [if_neg h,if_pos rfl];show 0<l.length-k0+1;omega
    exact absurd (ha23 J) (by rw [ha7];decide)
   refine go 1 ?_;refine bC J call60 J (ov [_] _ _ _ l k0 0 0 0 0 [109,117,116,101,120] V hok hk0) ?_;rintro t30 s30 (⟨-,ha30,rfl,rfl⟩|⟨ha30,rfl,rfl⟩)
   ·refine go 5 ?_;refine bC J call60 J (ov [_] _ _ _ l k0 0 0 0 0 [102,117,110,99] V hok hk0) ?_;rintro t31 s31 (⟨-,ha31,rfl,rfl⟩|⟨ha31,rfl,rfl⟩)
    ·exact absurd (ny ha31 ha30) V
    refine go 9 ?_;by_cases hmutexes:x0.mutexes.length=12
    ·refine go 11 ?_;refine aF J (pO [_] J J J runUnderlying24) ?_;refine aC true J (by rw [hmutexes];rfl) (go 16 ?_);refine bC J call61 J (jG [_] _ _ _ l k0 0 0 0 0 3) ?_;rintro t33 s33 ⟨u33,e33,hf33,rfl,rfl⟩;obtain ⟨rfl,rfl⟩:=hf33.1 rfl;refine go 6 ?_;refine bC J call62 J (eN [_] _ _ _ l k0 k0 3 0 0 [118,97,114] V hok hk0) ?_;rintro t34 s34 (⟨hz34,-⟩|⟨ha34,rfl,rfl⟩)
     ·exact absurd hz34 V
     refine go 7 ?_;refine bC J call62 J (eN [_] _ _ _ l k0 k0 3 0 0 [109,117,116,101,120] V hok hk0) ?_;rintro t36 s36 (⟨hz36,-⟩|⟨ha36,rfl,rfl⟩)
     ·exact absurd hz36 V
     refine go 7 ?_;refine bC J call62 J (eN [_] _ _ _ l k0 k0 3 0 0 [114,109,117,116,101,120] V hok hk0) ?_;rintro t38 s38 (⟨hz38,-⟩|⟨ha38,rfl,rfl⟩)
     ·exact absurd hz38 V
     refine go 7 ?_;refine bC J call62 J (eN [_] _ _ _ l k0 k0 3 0 0 [102,117,110,99] V hok hk0) ?_;rintro t40 s40 (⟨hz40,-⟩|⟨ha40,rfl,rfl⟩)
     ·exact absurd hz40 V
     refine go 6 ?_;refine bC J call61 J (jG [_] _ _ _ l k0 k0 3 0 0 4) ?_;rintro t42 s42 ⟨u42,e42,hf42,rfl,rfl⟩;obtain ⟨rfl,rfl⟩:=hf42.2 V;refine go 3 ?_;obtain ⟨m,rfl⟩:∃m,n0=m+1:=⟨n0-1,Y⟩;have hel:bh 0 0 (jX l x0 k0) x0 k0 k0 3:=.err _ _ _ _ _ (by unfold jX;rw [if_neg sV,if_pos ha30,if_pos Y]) V;have hst:∀z k' b' e',bh 3 k0 (kc l m x0 k0) z k' b' e' -> bh 0 0 (kW l) z k' b' e':=λz k' b' e' h=>hcont z k' b' e' pg;have hgo:3=0 -> k0<k0 /\ k0=0:=λh=>pi;refine ⟨(x0,vg,vm,vf,k0,k0,3),⟨hk0,(show (3:Nat)<16 by decide),λh=>?_,λh=>hst _ _ _ _ (.skip h _ _ _),λh=>⟨(hgo h).2,m,?_,λz k' b' e' h2=>hst _ _ _ _ ?_⟩⟩,?_,az eZ⟩
     ·exact absurd h (show ¬(3:Nat)=0 by decide)
     ·have:=hgo h;show l.length <= m+k0;omega
     ·exact absurd h (show ¬(3:Nat)=0 by decide)
     show (if 3=0 then _ else _)<(if (0:Nat)=0 then _ else _);by_cases h:3=0
     ·have:=hgo h;rw [if_pos h,if_pos rfl];show l.length-k0+1<l.length-k0+1;omega
     rw [if_neg h,if_pos rfl];show 0<l.length-k0+1;omega
    refine go 11 ?_;refine aF J (pO [_] J J J runUnderlying24) ?_;refine aC false J Fb (go 20 ?_);refine bC J call62 J (eN [_] _ _ _ l k0 0 0 0 0 [118,97,114] V hok hk0) ?_;rintro t44 s44 (⟨-,ha44,hm44,rfl,rfl⟩|⟨ha44,rfl,rfl⟩)
    ·exact absurd (ny ha44 ha30) V
    refine go 7 ?_;refine bC J call62 J (eN [_] _ _ _ l k0 0 0 0 0 [109,117,116,101,120] V hok hk0) ?_;rintro t46 s46 (⟨-,ha46,hm46,rfl,rfl⟩|⟨ha46,rfl,rfl⟩)
    ·refine go 4 ?_;refine b_ [] (aY [0,2] 6 (go 3 ?_));refine cx 1 3 J ?_ ?_;focus
      refine eP J V (ca [] isAgg24 sizeOf24) ?_;refine an 3 J J (bj [P] J J V call64 J (Lj [_] _ _ _ l (k0+1) 0 0 0 hok hm46 V) dV dS tA ?_);rintro t48 s48 ⟨x50,k50,u50,e50,rfl,hr50,hk50,he50,rfl⟩;refine an 4 J J (be (hf:=dU aU aU x50 J J J) mh ?_)
     rotate_left;focus
      refine (bj [P] J J V call64 J (Lj [_] _ _ _ l (k0+1) 0 0 0 hok hm46 V) dV dS tA ?_);rintro t50 s50 ⟨x50,k50,u50,e50,rfl,hr50,hk50,he50,rfl⟩;refine cx 1 4 J ?_ ?_;focus
       refine eP J V (ca [] isAgg24 sizeOf24) ?_;refine an 4 J J (be (hf:=dU aU aU x50 J J J) mh ?_)
      rotate_left;refine (be (hf:=dU aU aU x50 J J J) mh ?_);refine an 1 J J (eP J V (ca [] isAgg24 sizeOf24) ?_)
     all_goals
      refine an 5 J J (dR [_] vq J J V q5 q7 (@length_append _ x0.mutexes [x50]).symm Eh cb (d4 (f:=aU)).symm λv52=>?_);refine cU [(6,true),(7,false)] 0 (go 3 ?_);refine bG (go 2 ?_);obtain ⟨m,rfl⟩:∃m,n0=m+1:=⟨n0-1,Y⟩;have hel:bh 0 0 (jX l x0 k0) {x0 with mutexes:=x0.mutexes++[x50]} k50 u50 e50:=(hr50.map (f:=λg=>{x0 with mutexes:=x0.mutexes++[g]})).eq λ_=>by unfold jX;rw [if_neg sV,if_pos ha30,if_neg Y]
      have hst:∀z k' b' e',bh e50 u50 (kc l m {x0 with mutexes:=x0.mutexes++[x50]} k50) z k' b' e' -> bh 0 0 (kW l) z k' b' e':=λz k' b' e' h=>hcont z k' b' e' pg;have hgo:e50=0 -> k0<k50 /\ u50=0:=λh=>pi;refine ⟨({x0 with mutexes:=x0.mutexes++[x50]},vg,v52,vf,k50,u50,e50),⟨hk50,he50,λh=>?_,λh=>hst _ _ _ _ (.skip h _ _ _),λh=>⟨(hgo h).2,m,?_,λz k' b' e' h2=>hst _ _ _ _ ?_⟩⟩,?_,az eZ⟩
      ·simp;omega
      ·have:=hgo h;show l.length <= m+k50;omega
      ·rw [show e50=0 from h,show u50=0 from (hgo h).2];exact h2
      show (if e50=0 then _ else _)<(if (0:Nat)=0 then _ else _);by_cases h:e50=0
      ·have:=hgo h;rw [if_pos h,if_pos rfl];show l.length-k50+1<l.length-k0+1;omega
      rw [if_neg h,if_pos rfl];show 0<l.length-k0+1;omega
    exact absurd (ha46 J) (by rw [ha30];decide)
   refine go 2 ?_;refine bC J call60 J (ov [_] _ _ _ l k0 0 0 0 0 [114,109,117,116,101,120] V hok hk0) ?_;rintro t53 s53 (⟨-,ha53,rfl,rfl⟩|⟨ha53,rfl,rfl⟩)
   ·refine go 2 ?_;refine bC J call60 J (ov [_] _ _ _ l k0 0 0 0 0 [102,117,110,99] V hok hk0) ?_;rintro t54 s54 (⟨-,ha54,rfl,rfl⟩|⟨ha54,rfl,rfl⟩)
    ·exact absurd (ny ha54 ha53) V
    refine go 9 ?_;by_cases hmutexes:x0.mutexes.length=12
    ·refine go 11 ?_;refine aF J (pO [_] J J J runUnderlying24) ?_;refine aC true J (by rw [hmutexes];rfl) (go 16 ?_);refine bC J call61 J (jG [_] _ _ _ l k0 0 0 0 0 3) ?_;rintro t56 s56 ⟨u56,e56,hf56,rfl,rfl⟩;obtain ⟨rfl,rfl⟩:=hf56.1 rfl;refine go 6 ?_;refine bC J call62 J (eN [_] _ _ _ l k0 k0 3 0 0 [118,97,114] V hok hk0) ?_;rintro t57 s57 (⟨hz57,-⟩|⟨ha57,rfl,rfl⟩)
     ·exact absurd hz57 V
     refine go 7 ?_;refine bC J call62 J (eN [_] _ _ _ l k0 k0 3 0 0 [109,117,116,101,120] V hok hk0) ?_;rintro t59 s59 (⟨hz59,-⟩|⟨ha59,rfl,rfl⟩)
     ·exact absurd hz59 V
     refine go 7 ?_;refine bC J call62 J (eN [_] _ _ _ l k0 k0 3 0 0 [114,109,117,116,101,120] V hok hk0) ?_;rintro t61 s61 (⟨hz61,-⟩|⟨ha61,rfl,rfl⟩)
     ·exact absurd hz61 V
     refine go 7 ?_;refine bC J call62 J (eN [_] _ _ _ l k0 k0 3 0 0 [102,117,110,99] V hok hk0) ?_;rintro t63 s63 (⟨hz63,-⟩|⟨ha63,rfl,rfl⟩)
     ·exact absurd hz63 V
     refine go 6 ?_;refine bC J call61 J (jG [_] _ _ _ l k0 k0 3 0 0 4) ?_;rintro t65 s65 ⟨u65,e65,hf65,rfl,rfl⟩;obtain ⟨rfl,rfl⟩:=hf65.2 V;refine go 3 ?_;obtain ⟨m,rfl⟩:∃m,n0=m+1:=⟨n0-1,Y⟩;have hel:bh 0 0 (jX l x0 k0) x0 k0 k0 3:=.err _ _ _ _ _ (by unfold jX;rw [if_neg sV,if_neg ux,if_pos ha53,if_pos Y]) V;have hst:∀z k' b' e',bh 3 k0 (kc l m x0 k0) z k' b' e' -> bh 0 0 (kW l) z k' b' e':=λz k' b' e' h=>hcont z k' b' e' pg;have hgo:3=0 -> k0<k0 /\ k0=0:=λh=>pi;refine ⟨(x0,vg,vm,vf,k0,k0,3),⟨hk0,(show (3:Nat)<16 by decide),λh=>?_,λh=>hst _ _ _ _ (.skip h _ _ _),λh=>⟨(hgo h).2,m,?_,λz k' b' e' h2=>hst _ _ _ _ ?_⟩⟩,?_,az eZ⟩
     ·exact absurd h (show ¬(3:Nat)=0 by decide)
     ·have:=hgo h;show l.length <= m+k0;omega
     ·exact absurd h (show ¬(3:Nat)=0 by decide)
     show (if 3=0 then _ else _)<(if (0:Nat)=0 then _ else _);by_cases h:3=0
     ·have:=hgo h;rw [if_pos h,if_pos rfl];show l.length-k0+1<l.length-k0+1;omega
     rw [if_neg h,if_pos rfl];show 0<l.length-k0+1;omega
    refine go 11 ?_;refine aF J (pO [_] J J J runUnderlying24) ?_;refine aC false J Fb (go 20 ?_);refine bC J call62 J (eN [_] _ _ _ l k0 0 0 0 0 [118,97,114] V hok hk0) ?_;rintro t67 s67 (⟨-,ha67,hm67,rfl,rfl⟩|⟨ha67,rfl,rfl⟩)
    ·exact absurd (ny ha67 ha53) V
    refine go 7 ?_;refine bC J call62 J (eN [_] _ _ _ l k0 0 0 0 0 [109,117,116,101,120] V hok hk0) ?_;rintro t69 s69 (⟨-,ha69,hm69,rfl,rfl⟩|⟨ha69,rfl,rfl⟩)
    ·exact absurd (ny ha69 ha53) V
    refine go 7 ?_;refine bC J call62 J (eN [_] _ _ _ l k0 0 0 0 0 [114,109,117,116,101,120] V hok hk0) ?_;rintro t71 s71 (⟨-,ha71,hm71,rfl,rfl⟩|⟨ha71,rfl,rfl⟩)
    ·refine go 4 ?_;refine b_ [] (aY [0,2] 6 (go 3 ?_));refine cx 1 3 J ?_ ?_;focus
      refine eP J V (ca [] isAgg24 sizeOf24) ?_;refine an 3 J J (bj [P] J J V call64 J (ML [_] _ _ _ l (k0+1) 0 0 0 hok hm71 V) dV dS tA ?_);rintro t73 s73 ⟨x75,k75,u75,e75,rfl,hr75,hk75,he75,rfl⟩;refine an 4 J J (be (hf:=dU aU aU x75 J J J) mh ?_)
     rotate_left;focus
      refine (bj [P] J J V call64 J (ML [_] _ _ _ l (k0+1) 0 0 0 hok hm71 V) dV dS tA ?_);rintro t75 s75 ⟨x75,k75,u75,e75,rfl,hr75,hk75,he75,rfl⟩;refine cx 1 4 J ?_ ?_;focus
       refine eP J V (ca [] isAgg24 sizeOf24) ?_;refine an 4 J J (be (hf:=dU aU aU x75 J J J) mh ?_)
      rotate_left;refine (be (hf:=dU aU aU x75 J J J) mh ?_);refine an 1 J J (eP J V (ca [] isAgg24 sizeOf24) ?_)
     all_goals
      refine an 5 J J (dR [_] vq J J V q5 q7 (@length_append _ x0.mutexes [x75]).symm Eh cb (d4 (f:=aU)).symm λv77=>?_);refine cU [(6,true),(7,false)] 0 (go 3 ?_);refine bG (go 2 ?_);obtain ⟨m,rfl⟩:∃m,n0=m+1:=⟨n0-1,Y⟩;have hel:bh 0 0 (jX l x0 k0) {x0 with mutexes:=x0.mutexes++[x75]} k75 u75 e75:=(hr75.map (f:=λg=>{x0 with mutexes:=x0.mutexes++[g]})).eq λ_=>by unfold jX;rw [if_neg sV,if_neg ux,if_pos ha53,if_neg Y]
      have hst:∀z k' b' e',bh e75 u75 (kc l m {x0 with mutexes:=x0.mutexes++[x75]} k75) z k' b' e' -> bh 0 0 (kW l) z k' b' e':=λz k' b' e' h=>hcont z k' b' e' pg;have hgo:e75=0 -> k0<k75 /\ u75=0:=λh=>pi;refine ⟨({x0 with mutexes:=x0.mutexes++[x75]},vg,v77,vf,k75,u75,e75),⟨hk75,he75,λh=>?_,λh=>hst _ _ _ _ (.skip h _ _ _),λh=>⟨(hgo h).2,m,?_,λz k' b' e' h2=>hst _ _ _ _ ?_⟩⟩,?_,az eZ⟩
      ·simp;omega
      ·have:=hgo h;show l.length <= m+k75;omega
      ·rw [show e75=0 from h,show u75=0 from (hgo h).2];exact h2
      show (if e75=0 then _ else _)<(if (0:Nat)=0 then _ else _);by_cases h:e75=0
      ·have:=hgo h;rw [if_pos h,if_pos rfl];show l.length-k75+1<l.length-k0+1;omega
      rw [if_neg h,if_pos rfl];show 0<l.length-k0+1;omega
    exact absurd (ha71 J) (by rw [ha53];decide)
   refine go 2 ?_;refine bC J call60 J (ov [_] _ _ _ l k0 0 0 0 0 [102,117,110,99] V hok hk0) ?_;rintro t78 s78 (⟨-,ha78,rfl,rfl⟩|⟨ha78,rfl,rfl⟩)
   ·refine go 10 ?_;by_cases hfuncs:x0.funcs.length=16
    ·refine go 19 ?_;refine aF J (pO [_,_] J J J runUnderlying25) ?_;refine aC true J (by rw [hfuncs];rfl) (go 7 ?_);refine bC J call61 J (jG [_] _ _ _ l k0 0 0 0 0 3) ?_;rintro t80 s80 ⟨u80,e80,hf80,rfl,rfl⟩;obtain ⟨rfl,rfl⟩:=hf80.1 rfl;refine go 6 ?_;refine bC J call62 J (eN [_] _ _ _ l k0 k0 3 0 0 [118,97,114] V hok hk0) ?_;rintro t81 s81 (⟨hz81,-⟩|⟨ha81,rfl,rfl⟩)
     ·exact absurd hz81 V
     refine go 7 ?_;refine bC J call62 J (eN [_] _ _ _ l k0 k0 3 0 0 [109,117,116,101,120] V hok hk0) ?_;rintro t83 s83 (⟨hz83,-⟩|⟨ha83,rfl,rfl⟩)
     ·exact absurd hz83 V
     refine go 7 ?_;refine bC J call62 J (eN [_] _ _ _ l k0 k0 3 0 0 [114,109,117,116,101,120] V hok hk0) ?_;rintro t85 s85 (⟨hz85,-⟩|⟨ha85,rfl,rfl⟩)
     ·exact absurd hz85 V
     refine go 7 ?_;refine bC J call62 J (eN [_] _ _ _ l k0 k0 3 0 0 [102,117,110,99] V hok hk0) ?_;rintro t87 s87 (⟨hz87,-⟩|⟨ha87,rfl,rfl⟩)
     ·exact absurd hz87 V
     refine go 6 ?_;refine bC J call61 J (jG [_] _ _ _ l k0 k0 3 0 0 4) ?_;rintro t89 s89 ⟨u89,e89,hf89,rfl,rfl⟩;obtain ⟨rfl,rfl⟩:=hf89.2 V;refine go 3 ?_;obtain ⟨m,rfl⟩:∃m,n0=m+1:=⟨n0-1,Y⟩;have hel:bh 0 0 (jX l x0 k0) x0 k0 k0 3:=.err _ _ _ _ _ (by unfold jX;rw [if_neg sV,if_neg ux,if_neg E4,if_pos ha78,if_pos Y]) V;have hst:∀z k' b' e',bh 3 k0 (kc l m x0 k0) z k' b' e' -> bh 0 0 (kW l) z k' b' e':=λz k' b' e' h=>hcont z k' b' e' pg;have hgo:3=0 -> k0<k0 /\ k0=0:=λh=>pi;refine ⟨(x0,vg,vm,vf,k0,k0,3),⟨hk0,(show (3:Nat)<16 by decide),λh=>?_,λh=>hst _ _ _ _ (.skip h _ _ _),λh=>⟨(hgo h).2,m,?_,λz k' b' e' h2=>hst _ _ _ _ ?_⟩⟩,?_,az eZ⟩
     ·exact absurd h (show ¬(3:Nat)=0 by decide)
     ·have:=hgo h;show l.length <= m+k0;omega
     ·exact absurd h (show ¬(3:Nat)=0 by decide)
     show (if 3=0 then _ else _)<(if (0:Nat)=0 then _ else _);by_cases h:3=0
     ·have:=hgo h;rw [if_pos h,if_pos rfl];show l.length-k0+1<l.length-k0+1;omega
     rw [if_neg h,if_pos rfl];show 0<l.length-k0+1;omega
    refine go 19 ?_;refine aF J (pO [_,_] J J J runUnderlying25) ?_;refine aC false J (by rw [show eU .eql ((x0.funcs.length:Nat):Int) 16=some (decide (x0.funcs.length=16)) from pm (n:=16),decide_eq_false hfuncs]) (go 11 ?_);refine bC J call62 J (eN [_] _ _ _ l k0 0 0 0 0 [118,97,114] V hok hk0) ?_;rintro t91 s91 (⟨-,ha91,hm91,rfl,rfl⟩|⟨ha91,rfl,rfl⟩)
    ·exact absurd (ny ha91 ha78) V
    refine go 7 ?_;refine bC J call62 J (eN [_] _ _ _ l k0 0 0 0 0 [109,117,116,101,120] V hok hk0) ?_;rintro t93 s93 (⟨-,ha93,hm93,rfl,rfl⟩|⟨ha93,rfl,rfl⟩)
    ·exact absurd (ny ha93 ha78) V
    refine go 7 ?_;refine bC J call62 J (eN [_] _ _ _ l k0 0 0 0 0 [114,109,117,116,101,120] V hok hk0) ?_;rintro t95 s95 (⟨-,ha95,hm95,rfl,rfl⟩|⟨ha95,rfl,rfl⟩)
    ·exact absurd (ny ha95 ha78) V
    refine go 7 ?_;refine bC J call62 J (eN [_] _ _ _ l k0 0 0 0 0 [102,117,110,99] V hok hk0) ?_;rintro t97 s97 (⟨-,ha97,hm97,rfl,rfl⟩|⟨ha97,rfl,rfl⟩)
    ·refine go 7 ?_;refine bC J call65 J (lJ [_] _ _ _ l (k0+1) 0 0 0 0 hok hm97 V) ?_;rintro t99 s99 ⟨x99,k99,u99,e99,rfl,hr99,hk99,he99,rfl⟩;refine go 8 λb4=>?_;refine bC J call66 J (Q9 [_,_] _ _ _ l k99 u99 e99 0 hok hk99 he99) ?_;rintro t100 s100 ⟨x100,k100,u100,e100,rfl,hr100,hk100,he100,rfl⟩;refine go 7 ?_;refine bC J call67 J (Gb l hok 24 (bW _) [_,_] _ _ _ k100 u100 e100 hk100 he100) ?_;rintro t101 s101 ⟨x101,k101,u101,e101,rfl,hr101,hk101,he101,rfl⟩;refine go 8 ?_;refine aW J (be (hf:=dU ac ac ⟨x99,x100,x101⟩ J J J) E_ ?_);refine aW J (dR [_,_] MS J J V q5 q7 (@length_append _ x0.funcs [⟨x99,x100,x101⟩]).symm fi cb (d4 (f:=ac)).symm λv102=>?_);refine go 5 ?_;obtain ⟨m,rfl⟩:∃m,n0=m+1:=⟨n0-1,Y⟩;have hel:bh 0 0 (jX l x0 k0) {x0 with funcs:=x0.funcs++[bE.mk x99 x100 x101]} k101 u101 e101:=((hr99.bind (f:=λn k=>(o4 l (ja l) k).bind λp k=>(j' l 24 k).bind λb k=>.ok (bE.mk n p b) k) (hr100.bind (f:=λp k=>(j' l 24 k).bind λb k=>.ok (bE.mk x99 p b) k) (hr101.map (f:=λb=>bE.mk x99 x100 b))):bh _ _ (Ek l (k0+1)) _ _ _ _).map (f:=λg=>{x0 with funcs:=x0.funcs++[g]})).eq λ_=>by unfold jX;rw [if_neg sV,if_neg ux,if_neg E4,if_pos ha78,if_neg Y];rfl
     have hst:∀z k' b' e',bh e101 u101 (kc l m {x0 with funcs:=x0.funcs++[bE.mk x99 x100 x101]} k101) z k' b' e' -> bh 0 0 (kW l) z k' b' e':=λz k' b' e' h=>hcont z k' b' e' pg;have hgo:e101=0 -> k0<k101 /\ u101=0:=λh=>pi;refine ⟨({x0 with funcs:=x0.funcs++[bE.mk x99 x100 x101]},vg,vm,v102,k101,u101,e101),⟨hk101,he101,λh=>?_,λh=>hst _ _ _ _ (.skip h _ _ _),λh=>⟨(hgo h).2,m,?_,λz k' b' e' h2=>hst _ _ _ _ ?_⟩⟩,?_,az (h1:=(.cons _ (.refl _))) eZ⟩
     ·simp;omega
     ·have:=hgo h;show l.length <= m+k101;omega
     ·rw [show e101=0 from h,show u101=0 from (hgo h).2];exact h2
     show (if e101=0 then _ else _)<(if (0:Nat)=0 then _ else _);by_cases h:e101=0
     ·have:=hgo h;rw [if_pos h,if_pos rfl];show l.length-k101+1<l.length-k0+1;omega
     rw [if_neg h,if_pos rfl];show 0<l.length-k0+1;omega
    exact absurd (ha97 J) (by rw [ha78];decide)
   refine go 42 ?_;refine bC J call62 J (eN [_] _ _ _ l k0 0 0 0 0 [118,97,114] V hok hk0) ?_;rintro t104 s104 (⟨-,ha104,hm104,rfl,rfl⟩|⟨ha104,rfl,rfl⟩)
   ·exact absurd ha104 (by rw [(ha7 rfl)];decide)
   refine go 7 ?_;refine bC J call62 J (eN [_] _ _ _ l k0 0 0 0 0 [109,117,116,101,120] V hok hk0) ?_;rintro t106 s106 (⟨-,ha106,hm106,rfl,rfl⟩|⟨ha106,rfl,rfl⟩)
   ·exact absurd ha106 (by rw [(ha30 rfl)];decide)
   refine go 7 ?_;refine bC J call62 J (eN [_] _ _ _ l k0 0 0 0 0 [114,109,117,116,101,120] V hok hk0) ?_;rintro t108 s108 (⟨-,ha108,hm108,rfl,rfl⟩|⟨ha108,rfl,rfl⟩)
   ·exact absurd ha108 (by rw [(ha53 rfl)];decide)
   refine go 7 ?_;refine bC J call62 J (eN [_] _ _ _ l k0 0 0 0 0 [102,117,110,99] V hok hk0) ?_;rintro t110 s110 (⟨-,ha110,hm110,rfl,rfl⟩|⟨ha110,rfl,rfl⟩)
   ·exact absurd ha110 (by rw [(ha78 rfl)];decide)
   refine go 6 ?_;refine bC J call61 J (jG [_] _ _ _ l k0 0 0 0 0 4) ?_;rintro t112 s112 ⟨u112,e112,hf112,rfl,rfl⟩;obtain ⟨rfl,rfl⟩:=hf112.1 rfl;refine go 3 ?_;obtain ⟨m,rfl⟩:∃m,n0=m+1:=⟨n0-1,Y⟩;have hel:bh 0 0 (jX l x0 k0) x0 k0 k0 4:=.err _ _ _ _ _ (by unfold jX;rw [if_neg sV,if_neg ux,if_neg E4,if_neg (by rw [ha78 rfl];decide)]) V;have hst:∀z k' b' e',bh 4 k0 (kc l m x0 k0) z k' b' e' -> bh 0 0 (kW l) z k' b' e':=λz k' b' e' h=>hcont z k' b' e' pg;have hgo:4=0 -> k0<k0 /\ k0=0:=λh=>pi;refine ⟨(x0,vg,vm,vf,k0,k0,4),⟨hk0,(show (4:Nat)<16 by decide),λh=>?_,λh=>hst _ _ _ _ (.skip h _ _ _),λh=>⟨(hgo h).2,m,?_,λz k' b' e' h2=>hst _ _ _ _ ?_⟩⟩,?_,az eZ⟩
   ·exact absurd h (show ¬(4:Nat)=0 by decide)
   ·have:=hgo h;show l.length <= m+k0;omega
   ·exact absurd h (show ¬(4:Nat)=0 by decide)
   show (if 4=0 then _ else _)<(if (0:Nat)=0 then _ else _);by_cases h:4=0
   ·have:=hgo h;rw [if_pos h,if_pos rfl];show l.length-k0+1<l.length-k0+1;omega
   rw [if_neg h,if_pos rfl];show 0<l.length-k0+1;omega
  refine go 7 ?_;refine aC false J (qp h0) (go 16 ?_);have herr:kW l=.err b0 bm:=by
   rcases hn0 h0 with ⟨h,_⟩|⟨_,⟨_,h,_⟩|⟨h,_⟩⟩
   ·exact absurd J h
   ·exact absurd h h0
   exact h
  have hb0:b0<l.length:=by have h9:(kW l).At l 0:=F' hok.last _ _ _ hk;rw [herr] at h9;exact h9.2.1
  refine go 4 ?_;refine aC true J (by simp [eU,h0]) (go 4 ?_);refine b_ [b3,P] (aY [0,1,2,3,4,5] 10 (go 7 ?_));refine ab 6 J (bS dO dO l kB (λ_=>J) b0 J J J J hb0 V runUnderlying139 sizeOf154) (cU [(7,true),(8,true),(9,true),(10,true),(11,true),(12,true),(13,false),(14,true),(15,true)] 0 (go 10 ?_));refine bG (go 3 ?_);exact ⟨.inr J,_,⟨bx,rw⟩,(pN J (gP (bu.agg (.n (.n (.n .nil)))) (cS [_,_] J J isAgg27 sizeOf27 (cY J J))) (bM J) (bM J)),aj (.cons _ (.cons _ (.cons _ (.refl _)))) (.cons _ (.cons _ (.cons _ (.refl _)))),by rw [Ru hlx herr hb0];rfl,J⟩
 refine go 13 ?_;refine aC true J (by simp [eU,her]) (go 15 ?_);exact ⟨.inr J,_,⟨bx,rw⟩,(pN J (gP (bu.agg (.n (.n (.n .nil)))) (cS [] J J isAgg27 sizeOf27 (cY J J))) (bM J) (bM J)),aj (.cons _ (.refl _)) (.refl _),by rw [Us hlx];rfl,J⟩
def QB{P:Program}{ops:Array Oper}{o1 o2:Oper}{l:List Oper}{Q:Exit -> AS -> Prop}{n ep fS:Nat}{T:List Nat}{s:aH}{ts:List (Nat×AT)}{t e:bA}(i:TypeInfo){z:aM}{len:Nat}{parts:Array (Nat×bc)}{ps:List (Nat×AT)}{zc r:List aN}
  (ho:o1.op=.buildSlice t len parts) (hd:o1.dst=some ep) (hg:o1.guard=none) (hn:ep<n) (hps:nq ⟨n,T,s,ts⟩ parts.toList ps)
  (hu:P.underlying t=some (.slice e)) (hi:P.info? e=some i) (hz:i.zero=some z) (hsmall:¬len*i.size>2 ^ 24) (hpos:¬len*i.size=0) (hzc:(((Array.range (len*i.size)).map (z.cells[·% z.cells.size]!)).toList.all (·.oneCell'))=true) (hzr:((Array.range (len*i.size)).map (z.cells[·% z.cells.size]!)).toList.map .val=zc)
  (hf:lX (λk=>some (k*i.size,i.size)) zc ps=some r) (ho2:o2.op=.convert t t (.tmp ep)) (hd2:o2.dst=some fS) (hg2:o2.guard=none) (hn2:fS<n) (he:P.underlying e=some (.int .u8))
  (h:∀v,cL P ops l ⟨n,T,s,(fS,.c (.sl len r))::(ep,au v)::ts⟩ Q):cL P ops (o1::o2::l) ⟨n,T,s,ts⟩ Q:=by
 intro a w hs QQ hQ;obtain ⟨h1,h2⟩:=Ct hps.map;subst hzr;obtain ⟨vs,aa,e2⟩:=yF (w:=bi s.bl w) (a:=a) (place:=λk=>some (k*i.size,i.size)) parts.toList ps _ ((Array.range (len*i.size)).map (z.cells[·% z.cells.size]!)) r h1 (λi h h'=>hs.ev (h2 i h h')) (mW _ _ λu hu=>F2) hf
 have wt:∀{o:Oper} {a:Act},o.guard=none -> Region.wanted o (yielded ops a.tmps)=true:=λh=>by unfold Region.wanted;rw [h]
 obtain ⟨v,hv⟩:∃v,v=Value.slice (some ⟨w.heap.size,0,none⟩) len len:=⟨_,rfl⟩;refine wpList_step λK hK=>?_;rw [if_pos (wt hg)];unfold Oper.wp;have hrun:(execOp a.eval o1).run P w=.ok (.value v) (w.alloc (.cells vs e)):=by
  subst hv;simp only [execOp,ho,Sem.run_bind];rw [run_buildSlice w t e len _ vs i z hu hi hz hsmall hpos (by rw [vW];exact aa)];rfl
 rw [hrun,Oper.upon_value,hd];refine hK _ _ (wpList_step λK2 hK2=>?_);rw [if_pos (wt hg2)];have hoc:v.oneCell'=true:=by subst hv;rfl
 have hev:(a.put (some ep) v).eval (.tmp ep)=v:=(hs.put (v:=v) hn (t:=au v) (.c _ _ (.val _ hoc))).val (x:=.tmp ep) (by simp [ay,look];rfl);generalize hw1:w.alloc (.cells vs e (vs.size,vs.size+1))=w1;have hrun2:(execOp (a.put (some ep) v).eval o2).run P (w.alloc (.cells vs e))=.ok (.value v) w1:=by
  subst hw1;simp only [execOp,ho2,Sem.run_bind,hev];subst hv;rw [Lib.run_convert_bytes_const w t e vs len len hu he];rfl
 unfold Oper.wp;rw [hrun2,Oper.upon_value,hd2];have hk:cH [] w w1:=by rw [←hw1];exact (cH.refl _ _).alloc _
 have hub:fl (bi s.bl w) (bi s.bl w1):=kR hk gr (λb h=>.inl h);obtain ⟨m1,m2⟩:=hs.mem.up hub Ev;have hm:Mem s w1:=⟨hs.mem.nodup,λb hb=>k_ (hs.mem.lt b hb) hk.size,m1,m2⟩;have s1:=hs.step (w1:=w1) T (hk.mono aK) hm (λb hb=>.inl hb);have hmaxcap:len <= 16777216:=by
  have h1:0<i.size:=Nat.pos_of_ne_zero λh0=>hpos yQ;have h2:=Nat.le_mul_of_pos_right len h1;omega
 have hne:w.heap.size∉s.bl:=λhm=>Lr;have hrow:cN (bi s.bl w1) (.c (.sl len r)) v:=by
  subst hv;refine .c _ _ (.sl _ _ vs.toList _ ⟨_,_,J,bW _,.inr ⟨_,_,J,λj u hj=>?_⟩⟩ e2.len (λi h h'=>(e2.at_ i h h').mono hub) (λ_ _ _ h=>by cases h;have:=hmaxcap;omega));rw [np _ _ _ hne,←hw1];unfold World.cell?;have h9:(w.alloc (.cells vs e (vs.size,vs.size+1))).heap[w.heap.size]?=some (.cells vs e (vs.size,vs.size+1)):=Fg;simp only [h9];simpa using hj
 refine hK2 _ _ (h v _ _ ((s1.put (v:=v) hn (.c _ _ (.val _ hoc))).put hn2 hrow) QQ λe a2 w2 st2 q s' k=>hQ e a2 w2 st2 q s' (gj.trans (s1:=⟨n,T,s,(fS,.c (.sl len r))::(ep,au v)::ts⟩) (w1:=w1) ⟨hk.mono aK,hk.mono aK,λb hb=>.inl hb,λb hb=>.inl hb⟩ k))
def KY(a b:List Int)(h:a=b)(hl:a.length <= 1000000000)(s:aH):aR prog 19 [.c (.sl a.length (a.map λx=>aA x)),.c (.sl b.length (b.map λx=>aA x))] [] s λt s'=>t=ap true /\ s'=s:=by
 subst h;obtain ⟨bx,rw⟩:=s;refine bN 26 func19 ?_;refine go 12 ?_;refine aC false J (dv Y) (go 12 ?_);refine lc (a.length) 5 (λk=>[(0,.c (.sl a.length (a.map λx=>aA x))),(1,.c (.sl a.length (a.map λx=>aA x)))]) (ao J) λk hk=>?_;show bo prog _ ⟨26,_,_,(5,aX k)::[(0,.c (.sl a.length (a.map λx=>aA x))),(1,.c (.sl a.length (a.map λx=>aA x)))]⟩ _;refine go 6 ?_;by_cases h2:((k:Nat):Int)<((a.length:Nat):Int)
 ·refine aC true J (ck h2) (go 8 ?_);have hkl:k<a.length:=Y;refine b_ [] (aY [0,1] 7 (go 3 ?_));refine ab 2 J (l9 (λx=>aA x) a k J J J J Y runUnderlying22 sizeOf3) (aY [3,4,5] 3 (go 4 ?_));refine ab 6 J (l9 (λx=>aA x) a k J J J J Y runUnderlying22 sizeOf3) (aY [7] 1 (go 2 ?_));refine ab 8 J (ej false J J J (dv Y)) ?_;refine bG (go 7 ?_);refine bJ J (go 2 ?_);exact ⟨Y,(av J (bv Y) (ao J))⟩
 refine aC false J (cg h2) (go 14 ?_);exact aw (s':=⟨bx,rw⟩) J dm ⟨bU J,J⟩
def wx:List UInt8:=[118,97,114,32,120,59,32,109,117,116,101,120,32,97,59,32,102,117,110,99,32,109,97,105,110,40,41,32,123,32,119,104,105,108,101,32,120,32,123,32,108,111,99,107,32,97,59,32,125,32,125]
def oA:aZ:=⟨[⟨⟨#[120]⟩,0⟩],[⟨⟨#[97]⟩,false,0⟩],[⟨⟨#[109,97,105,110]⟩,[],[.mk 8 ax (.mk 2 0 ⟨#[120]⟩ []) ⟨ax,[]⟩ [] [.mk 5 ax .zero ⟨⟨#[97]⟩,[]⟩ [] [] []] []]⟩]⟩
def J_:oA.sane:=by
 refine ⟨λg hg=>?_,λm hm=>?_,λf hf=>?_⟩
 ·obtain rfl:g=_:=jw.1 hg;exact ⟨uQ,V⟩
 ·obtain rfl:m=_:=jw.1 hm;exact ⟨uQ,V⟩
 obtain rfl:f=_:=jw.1 hf;refine ⟨V,λx hx=>vu,?_⟩;have e:ax.size <= 4611686018427387904:=V;have aa:(⟨#[120]⟩:aG).size <= 4611686018427387904:=V;have e2:(⟨#[97]⟩:aG).size <= 4611686018427387904:=V;have f0:fit 0:=uQ;have f1:fit 8:=uQ;have f2:fit 5:=uQ;have f3:fit 2:=uQ;simp only [aP.zero,fA,aL.sane,aP.sane,cD.sane,iX,e,aa,e2,f0,f1,f2,f3,not_mem_nil,and_true,true_and,false_implies,implies_true,forall_const]
def Uu:oR wx=(oA,51,0):=aQ
def OB:gJ oA=(0,0,0):=aQ
def Kr:oA.wt <= 9000000:=of_decide_eq_true aQ
def iZ:tj:=kV oA
def Ob:iZ.procs.length=1:=aQ
def Kv(h:0<iZ.procs.length):iZ.procs[0].code.length=4 /\ ∀(h0:0<iZ.procs[0].code.length)(h1:1<iZ.procs[0].code.length)(h2:2<iZ.procs[0].code.length)(h3:3<iZ.procs[0].code.length),
  iZ.procs[0].code[0].op=6 /\ iZ.procs[0].code[0].target=3 /\ iZ.procs[0].code[0].expr.op=19 /\ iZ.procs[0].code[1].op=4 /\ iZ.procs[0].code[2].op=7 /\ iZ.procs[0].code[2].target=0 /\ iZ.procs[0].code[3].op=8:=
 ⟨aQ,λ_ _ _ _=>⟨aQ,aQ,aQ,aQ,aQ,aQ,aQ⟩⟩
def Pp:n_ oA 0=[0,1,0,2]:=aQ
def NH(s:aH):aR prog 9 [cC (.agg (eA oA))] [] s λt s'=>t=.tup [.agg (o5 iZ),bB 0,bB 0,bB 0] /\ s'=s:=by
 have h:=M5 oA J_ Kr s;rw [OB] at h;exact h
def Ph(s:aH):aR prog 20 [cC (.agg (eA oA)),bB 0] [] s λt s'=>t=.c (.sl ([0,1,0,2]:List Int).length (([0,1,0,2]:List Int).map λx=>aA x)) /\ s'=s:=by
 have h:=VZ oA 0 J_ Kr s;rw [Pp] at h;exact h
def QD(s:aH):aR prog 30 [.c (.sl wx.length (cT wx))] [] s λt s'=>t=.tup [.agg (eA oA),bB 51,bB 0] /\ s'=s:=by
 have h:=NY wx s;rw [Uu] at h;exact h
def UQ(w:aV)(he:nH w):Calls prog 13 #[] w λe w'=>e=.returned (.bool true) /\ Below w.heap.size w w':=by
 have hn1:=Ob;have hn2:=(Kv Y).1;obtain ⟨k1,k2,k3,k4,k5,k6,k7⟩:=(Kv Y).2 Y Y Y Y;refine OQ func13 J 98 (ez J) he ?_;show bo prog _ ⟨99,[],⟨[],[]⟩,[(98,cC (.raw undef))]⟩ _;refine go 7 ?_;refine QB Tryz.t5 J J J V (.cons J (.cons J (.cons J (.cons J (.cons J (.cons J (.cons J (.cons J (.cons J (.cons J (.cons J (.cons J (.cons J (.cons J (.cons J (.cons J (.cons J (.cons J (.cons J (.cons J (.cons J (.cons J (.cons J (.cons J (.cons J (.cons J (.cons J (.cons J (.cons J (.cons J (.cons J (.cons J (.cons J (.cons J (.cons J (.cons J (.cons J (.cons J (.cons J (.cons J (.cons J (.cons J (.cons J (.cons J (.cons J (.cons J (.cons J (.cons J (.cons J (.cons J (.cons J .nil))))))))))))))))))))))))))))))))))))))))))))))))))) underlying58 aQ J V V aQ (zc:=List.replicate 51 (.val (.int .u8 0))) aQ (r:=cT wx) aQ J J J V underlying5 λvc=>?_;refine m4 J call30 J (QD _) (go 13 λb1=>?_);refine jR 98 J call9 J (NH _) (go 16 λb2=>?_);refine aC false J ge (go 4 ?_);refine aC false J (dv Y) (go 4 ?_);refine aF J (bS fL fL iZ.procs tT (λ_=>J) 0 J J J J Y V runUnderlying29 sizeOf79) (go 3 ?_);refine aC false J (dv Y) (go 10 ?_);refine aF J (bS fL fL iZ.procs tT (λ_=>J) 0 J J J J Y V runUnderlying29 sizeOf79) (go 8 ?_);refine aF J (bS encI encI iZ.procs[0].code kN (λ_=>J) 0 J J J J Y V runUnderlying75 sizeOf92) (go 2 ?_);refine aC true J (bg Y) (go 2 ?_);refine aF J (bS encI encI iZ.procs[0].code kN (λ_=>J) 0 J J J J Y V runUnderlying75 sizeOf92) (go 2 ?_);refine aC true J (bg Y) (go 3 ?_);refine aF J (bS encI encI iZ.procs[0].code kN (λ_=>J) 0 J J J J Y V runUnderlying75 sizeOf92) (go 3 ?_);refine aC true J (bg Y) (go 3 ?_);refine aF J (bS encI encI iZ.procs[0].code kN (λ_=>J) 1 J J J J Y V runUnderlying75 sizeOf92) (go 2 ?_);refine aC true J (bg Y) (go 3 ?_);refine aF J (bS encI encI iZ.procs[0].code kN (λ_=>J) 2 J J J J Y V runUnderlying75 sizeOf92) (go 2 ?_);refine aC true J (bg Y) (go 3 ?_);refine aF J (bS encI encI iZ.procs[0].code kN (λ_=>J) 2 J J J J Y V runUnderlying75 sizeOf92) (go 2 ?_)
 refine aC true J (bg Y) (go 3 ?_);refine aF J (bS encI encI iZ.procs[0].code kN (λ_=>J) 3 J J J J Y V runUnderlying75 sizeOf92) (go 2 ?_);refine aC true J (bg Y) (go 3 ?_);refine jR 98 J call20 J (Ph _) ?_;refine aW J (rY Tryz.t3 [aA 0,aA 0,aA 0,aA 0] J J V (.cons J (.cons J (.cons J (.cons J .nil)))) underlying22 aQ J V V aQ aQ (r:=([0,1,0,2]:List Int).map λx=>aA x) J ?_);refine m4 J call19 J (KY [0,1,0,2] [0,1,0,2] J V _) (go 5 ?_);exact ⟨.inr J,_,⟨[],[]⟩,bT J (bM J),aj (zg _) (zg _),J,J⟩
abbrev d8(A B:List aT)(rw:List aS)(S:Nat)(l:List Int)(i:Nat):aH:=⟨A++⟨S,54,[.sl l.length (l.map λi=>aA i),am i]⟩::B,rw⟩
def Rh(l:List Int)(n:Nat)(s:aH):aR prog 22 [.c (.sl l.length (l.map λi=>aA i)),aX n] [] s λr s'=>r=.c (.sl (l.take n).length ((l.take n).map λi=>aA i)) /\ s'=s:=by
 obtain ⟨bx,rw⟩:=s;refine bN 13 func22 ?_;refine go 11 ?_;by_cases hlt:n<l.length
 ·refine aC true J eg (go 7 ?_);refine aF J (UM (h:=(l.take n).length) (z:=1) J J J zH zH aQ aQ sizeOf3 (by rw [j8,rT Y,nz,←List.map_take])) (go 5 ?_);exact aw (s':=⟨bx,rw⟩) J dm ⟨J,J⟩
 rw [take_of_length_le (l:=l) (i:=n) Y];refine aC false J eB (go 12 ?_);exact aw (s':=⟨bx,rw⟩) J dm ⟨J,J⟩
def yS(A B:List aT)(rw:List aS)(S:Nat)(l:List Int)(i0:Nat)(n:Int)(hi0:i0 <= l.length)(hl:l.length <= 1000000)(hn0:0<n)(hn1:n <= 4611686018427387904):aR prog 23 [aE S,bB n] [S] (d8 A B rw S l i0) λr s=>∃(z:Int) (i:Nat),r=bB z /\ 0 <= z /\ z<n /\ i <= l.length /\ s=d8 A B rw S l i:=by
 refine bN 35 func23 ?_;refine go 7 ?_;refine b_ [S] (aY [0,1,2,3,4,5,6,7,8] 1 (go 10 ?_));refine ab 9 J (ej _ J J J J) ?_;refine bG (go 1 ?_);refine iB J (λhc1=>?_) (λhc1=>?_)
 ·have hge:l.length <= i0:=by simpa using hc1
  refine go 7 ?_;exact aw (s':=d8 A B rw S l i0) J dm ⟨0,i0,J,Y,hn0,hi0,J⟩
 have hlt:i0<l.length:=by simpa using hc1
 refine go 8 ?_;refine bJ J (go 6 ?_);refine b_ [S] (aY [0,1,2,3,4,5,6,7] 6 (go 9 ?_));refine ab 8 J (jE ((i0:Nat):Int)) ?_;refine ab 9 J (l9 (λi=>aA i) l i0 J J J J hlt runUnderlying22 sizeOf3) (aY [10,11] 2 (go 3 ?_));refine an 12 J J (bj [] J J V call16 J (OE _ _ hn0 hn1 _) dL dL (λ_=>dL) ?_);rintro rj sj ⟨rfl,rfl⟩;refine aY [13] 0 (go 2 ?_);refine bG (go 2 ?_);exact aw (s':=d8 A B rw S l (i0+1)) J dm ⟨l[i0]%n,i0+1,J,Int.emod_nonneg _ Y,Int.emod_lt_of_pos _ hn0,hlt,J⟩
def Ac(A B:List aT)(rw:List aS)(S:Nat)(l:List Int)(i0:Nat)(hi0:i0 <= l.length)(hl:l.length <= 1000000):aR prog 107 [aE S] [S] (d8 A B rw S l i0) λr s=>∃(z:Int) (i:Nat),r=bB z /\ 0 <= z /\ z<4611686018427387904 /\ i <= l.length /\ s=d8 A B rw S l i:=by
 refine bN 10 func107 ?_;refine go 9 ?_;refine aW J (bj [S] J J V call23 J (yS A _ _ _ l i0 _ hi0 hl V V) (bV) (bV (h:=by simp [aH.bl])) (λ_=>bV) ?_);rintro r1 s1 ⟨z1,i1,rfl,hz1,hy1,hi1,rfl⟩;refine aF J (ej _ J J J J) (go 2 ?_);refine iB J (λhc1=>?_) (λhc1=>?_)
 ·refine go 3 ?_;refine aW J (bj [S] J J V call23 J (yS A _ _ _ l i1 _ hi1 hl V V) (bV) (bV (h:=by simp [aH.bl])) (λ_=>bV) ?_);rintro r2 s2 ⟨z2,i2,rfl,hz2,hy2,hi2,rfl⟩;refine go 5 ?_;exact aw (s':=d8 A B rw S l i2) J dm ⟨z2,i2,J,hz2,Y,hi2,J⟩
 refine go 5 ?_;refine aW J (bj [S] J J V call23 J (yS A _ _ _ l i1 _ hi1 hl V V) (bV) (bV (h:=by simp [aH.bl])) (λ_=>bV) ?_);rintro r2 s2 ⟨z2,i2,rfl,hz2,hy2,hi2,rfl⟩;refine go 4 ?_;exact aw (s':=d8 A B rw S l i2) J dm ⟨z2,i2,J,hz2,Y,hi2,J⟩
end
section
inductive eT (names:List ByteArray):Nat -> aP -> Prop
 |name {d:Nat} {x:ByteArray} (h:x∈names):eT names d (.mk 2 0 x [])
 |num {d:Nat} {n:Int} (h0:0 <= n) (h1:n<4611686018427387904):eT names d (.mk 1 n ax [])
 |un {d:Nat} {op:Int} {e:aP} (ho:op=3∨op=4) (he:eT names d e):eT names (d+1) (.mk op 0 ax [e])
 |bin {d:Nat} {op:Int} {a b:aP} (h0:5 <= op) (h1:op <= 17) (ha:eT names d a) (hb:eT names d b):eT names (d+1) (.mk op 0 ax [a,b])
def eT.mono{names:List aG}{d d':Nat}{e:aP}(h:eT names d e)(hd:d <= d'):eT names d' e:=by
 induction h generalizing d' with
 |name h=>exact .name h
 |num h0 h1=>exact .num h0 h1
 |@un d op e ho he ih=>
  obtain ⟨k,rfl⟩:∃k,d'=k+1:=⟨d'-1,Y⟩;exact .un ho (ih Y)
 |@bin d op a b h0 h1 ha hb iha ihb=>
  obtain ⟨k,rfl⟩:∃k,d'=k+1:=⟨d'-1,Y⟩;exact .bin h0 h1 (iha Y) (ihb Y)
inductive kM (ms:List cq) (ps:List bp) (vars:List ByteArray):cD -> Prop
 |arr {m:cq} {e:aP} (hm:m∈ms) (hs:0<m.size) (he:eT vars 1 e):kM ms ps vars ⟨m.name,[e]⟩
 |scalar {m:cq} (hm:m∈ms) (hs:m.size <= 0):kM ms ps vars ⟨m.name,[]⟩
 |param {x:bp} (hx:x∈ps) (hm:x.mutex=true):kM ms ps vars ⟨x.name,[]⟩
inductive kU (ms:List cq) (ps:List bp) (vars:List ByteArray):List bp -> List cK -> Prop
 |nil:kU ms ps vars [] []
 |mutex {x:bp} {l:List bp} {asl:List cK} {r:cD} (hx:x.mutex=true) (hr:kM ms ps vars r) (h:kU ms ps vars l asl):kU ms ps vars (x::l) (⟨true,r,.zero⟩::asl)
 |expr {x:bp} {l:List bp} {asl:List cK} {e:aP} (hx:x.mutex=false) (he:eT vars 2 e) (h:kU ms ps vars l asl):kU ms ps vars (x::l) (⟨false,.zero,e⟩::asl)
def fE(left:Nat):ByteArray:=bytes [118,UInt8.ofNat (97+left%26),UInt8.ofNat (97+left/26%26)]
abbrev gt:=ByteArray×List bp
inductive eJ (ms:List cq) (fs:List gt) (ps:List bp):List ByteArray -> Nat -> Nat -> List aL -> Nat -> Prop
 |nil {vars:List ByteArray} {deep left:Nat}:eJ ms fs ps vars deep left [] left
 |lock {vars:List ByteArray} {deep left left':Nat} {r:cD} {rest:List aL} (hr:kM ms ps vars r) (h:eJ ms fs ps vars deep left rest left'):
   eJ ms fs ps vars deep (left+1) (.mk 5 ax .zero r [] [] []::rest) left'
 |unlock {vars:List ByteArray} {deep left left':Nat} {r:cD} {rest:List aL} (hr:kM ms ps vars r) (h:eJ ms fs ps vars deep left rest left'):
   eJ ms fs ps vars deep (left+1) (.mk 6 ax .zero r [] [] []::rest) left'
 |var {vars:List ByteArray} {deep left left':Nat} {e:aP} {rest:List aL} (he:eT vars 2 e) (h:eJ ms fs ps (vars++[fE left]) deep left rest left'):
   eJ ms fs ps vars deep (left+1) (.mk 1 (fE left) e .zero [] [] []::rest) left'
 |assign {vars:List ByteArray} {deep left left':Nat} {x:ByteArray} {e:aP} {rest:List aL} (hx:x∈vars) (he:eT vars 2 e) (h:eJ ms fs ps vars deep left rest left'):
   eJ ms fs ps vars deep (left+1) (.mk 2 x e .zero [] [] []::rest) left'
 |call {vars:List ByteArray} {deep left left':Nat} {k:Int} {g:gt} {asl:List cK} {rest:List aL} (hk:k=3∨k=4) (hg:g∈fs) (ha:kU ms ps vars g.2 asl) (h:eJ ms fs ps vars deep left rest left'):
   eJ ms fs ps vars deep (left+1) (.mk k g.1 .zero .zero asl [] []::rest) left'
 |cond {vars:List ByteArray} {deep left l1 l2 left':Nat} {e:aP} {thn els rest:List aL} (he:eT vars 2 e) (ht:eJ ms fs ps vars deep left thn l1) (hel:eJ ms fs ps vars deep l1 els l2) (h:eJ ms fs ps vars (deep+1) l2 rest left'):
   eJ ms fs ps vars (deep+1) (left+1) (.mk 7 ax e .zero [] thn els::rest) left'
 |loop {vars:List ByteArray} {deep left l1 left':Nat} {e:aP} {thn rest:List aL} (he:eT vars 2 e) (ht:eJ ms fs ps vars deep left thn l1) (h:eJ ms fs ps vars (deep+1) l1 rest left'):
   eJ ms fs ps vars (deep+1) (left+1) (.mk 8 ax e .zero [] thn []::rest) left'
 |ret {vars:List ByteArray} {deep left left':Nat} {rest:List aL} (h:eJ ms fs ps vars deep left rest left'):
   eJ ms fs ps vars deep (left+1) (.mk 9 ax .zero .zero [] [] []::rest) left'
 |pair {vars:List ByteArray} {deep left l1 left':Nat} {r:cD} {mid rest:List aL} (hr:kM ms ps vars r) (hm:eJ ms fs ps vars 0 left mid l1) (h:eJ ms fs ps vars deep l1 rest left'):
   eJ ms fs ps vars deep (left+1) (.mk 5 ax .zero r [] [] []::(mid++.mk 6 ax .zero r [] [] []::rest)) left'
def eJ.le{ms:List cq}{fs:List gt}{ps:List bp}{vars:List aG}{deep left left':Nat}{l:List aL}(h:eJ ms fs ps vars deep left l left'):left' <= left:=by
 induction h<;>omega
def xk(i:Nat)(m:cq):Prop:=m.name=bytes [UInt8.ofNat (97+i)] /\ ((m.reentrant=false /\ 0 <= m.size /\ m.size <= 3)∨(m.reentrant=true /\ m.size=0))
def ET(i:Nat)(g:bw):Prop:=g.name=bytes [103,UInt8.ofNat (48+i)] /\ -2 <= g.init /\ g.init <= 2
def sG(l:List bp):Prop:=l.length <= 2 /\ ∀k (h:k<l.length),l[k].name=bytes [112,UInt8.ofNat (48+(l.length-k))]
def Cb(i:Nat)(f:bE):Prop:=(i=0 -> f.name=bytes [109,97,105,110] /\ f.params=[]) /\ (0<i -> f.name=bytes [102,UInt8.ofNat (48+i)]) /\ sG f.params
def bE.sig(f:bE):gt:=(f.name,f.params)
def qm(gs:List bw)(ps:List bp):List ByteArray:=gs.map bw.name++(ps.filter λx=>!x.mutex).map bp.name
inductive mq (ms:List cq) (fs:List gt) (gs:List bw):Nat -> List bE -> Prop
 |nil {left:Nat}:mq ms fs gs left []
 |cons {left left':Nat} {f:bE} {l:List bE} (h:eJ ms fs f.params (qm gs f.params) 2 left f.body left') (hl:mq ms fs gs left' l):mq ms fs gs left (f::l)
structure pL (p:aZ):Prop where
 mutexes:1 <= p.mutexes.length /\ p.mutexes.length <= 4 /\ ∀k (h:k<p.mutexes.length),xk k p.mutexes[k]
 globals:p.globals.length <= 2 /\ ∀k (h:k<p.globals.length),ET k p.globals[k]
 funcs:1 <= p.funcs.length /\ p.funcs.length <= 4 /\ ∀k (h:k<p.funcs.length),Cb k p.funcs[k]
 bodies:mq p.mutexes (p.funcs.map bE.sig) p.globals 24 p.funcs
end
section
open Go.RowKit
def fB(A B:List aT)(rw:List aS)(S:Nat)(l:List Int)(i0:Nat)(n:Int)(hi0:i0 <= l.length)(hl:l.length <= 1000000)(hn0:0<n)(hn1:n <= 4611686018427387904):aR prog 23 [aE S,bB n] [S] (d8 A B rw S l i0) λr s=>∃(z:Nat) (i:Nat),r=aX z /\ (z:Int)<n /\ i <= l.length /\ s=d8 A B rw S l i:=
 (yS A B rw S l i0 n hi0 hl hn0 hn1).mono λr s ⟨z,i,h1,h2,h3,h4,h5⟩=>⟨z.toNat,i,h1.trans (congrArg (λx=>AT.c (aA x)) (Int.toNat_of_nonneg h2).symm),by rw [Int.toNat_of_nonneg h2];exact h3,h4,h5⟩
abbrev eL(RA:List aS)(nv:Value)(names:List ByteArray)(rw:List aS):List aS:=RA++⟨nv,9,1,names.length,cZ names⟩::rw
def S2{P:Program}{U:List Nat}{o:Oper}{st:AS}{E yt:bA}{x y:bc}{m:Nat}(r:Nat)(ho:o.op=.binOp .rem E x y yt)(hx:ay st x=some (aX m))(hy:ay st y=some (bB 2))(hr:m%2=r):cf P U o st (aX r):=by
 subst hr;exact A7 ho hx hy V J
def Hq(A B:List aT)(RA rw:List aS)(nv:aM)(S:Nat)(l:List Int)(i0:Nat)(names:List aG)(d:Nat)(hi0:i0 <= l.length)(hl:l.length <= 1000000)(hnl:names.length <= 1000000)(hd:d <= 100)(ih:d≠0 -> ∀(A:List aT)(i:Nat),i <= l.length -> aR prog 78 [aE S,au nv,bB ((d-1:Nat):Int)] [S] (d8 A B (eL RA nv names rw) S l i) (λr s=>∃(e:aP) (i:Nat),r=.agg (bb e) /\ eT names (d-1) e /\ i <= l.length /\ s=d8 A B (eL RA nv names rw) S l i)):aR prog 78 [aE S,au nv,aX d] [S] (d8 A B (eL RA nv names rw) S l i0) (λr s=>∃(e:aP) (i:Nat),r=.agg (bb e) /\ eT names (d) e /\ i <= l.length /\ s=d8 A B (eL RA nv names rw) S l i):=by
 refine bN 64 func78 ?_;refine go 8 λb1=>?_;refine aW J (bj [S] J J V call23 J (fB (_::A) _ _ _ l i0 _ hi0 hl V V) (bV) (bV (h:=by simp [aH.bl])) (λ_=>bV) ?_);rintro r1 s1 ⟨z1,i1,rfl,hy1,hi1,rfl⟩;refine go 8 ?_;by_cases hd0:d=0
 ·refine aC true J eg (go 12 ?_);refine aF J (lp RA J J J runUnderlying61) ?_;by_cases hn0:0<names.length;focus
   refine aC true J eg (go 2 ?_);refine aW J (bj [S] J J V call23 J (fB (_::A) _ _ _ l i1 _ hi1 hl V V) (bV) (bV (h:=by simp [aH.bl])) (λ_=>bV) ?_);rintro r7 s29 ⟨z7,i7,rfl,hy7,hi7,rfl⟩;by_cases hz21:z7=1
   ·refine aC true J eg (go 9 ?_);refine aF J (lp RA J J J runUnderlying61) ?_;refine aW J (bj [S] J J V call23 J (fB (_::A) _ _ _ l i7 _ hi7 hl Y Y) (bV) (bV (h:=by simp [aH.bl])) (λ_=>bV) ?_);rintro r2 s2 ⟨z2,i2,rfl,hy2,hi2,rfl⟩;have hj2:z2<names.length:=Y;refine JD RA Y λg cap hg=>?_;subst hg;refine aF J (jb z2 J J J J hj2 runUnderlying61 sizeOf9) ?_;refine aF J (wb RA J J J isAgg9 sizeOf9 (vS names _ hj2) gr) (go 8 ?_);exact ⟨.inr J,_,d8 A B (eL RA _ names rw) S l i2,(fq (bu.agg (.r (.r (.r (.n .nil))))) (bT J (cS [] J J isAgg87 sizeOf87 (cY J J)))),aj (.cons _ (.refl _)) (.refl _),⟨(.mk 2 0 names[z2] []),i2,J,(.name (getElem_mem hj2)),hi2,J⟩⟩
   refine aC false J eB (go 9 ?_);refine aW J (bj [S] J J V call107 J (Ac (_::A) _ _ _ l i7 hi7 hl) (bV) (bV (h:=by simp [aH.bl])) (λ_=>bV) ?_)
  rotate_left;refine aC false J eB (go 13 ?_);refine aW J (bj [S] J J V call107 J (Ac (_::A) _ _ _ l i1 hi1 hl) (bV) (bV (h:=by simp [aH.bl])) (λ_=>bV) ?_);all_goals
   rintro r2 s2 ⟨z2,i2,rfl,hz2,hy2,hi2,rfl⟩;refine go 7 ?_;exact ⟨.inr J,_,d8 A B (eL RA _ names rw) S l i2,(fq (bu.agg (.r (.r (.r (.n .nil))))) (bT J (cS [] J J isAgg87 sizeOf87 (cY J J)))),aj (.cons _ (.refl _)) (.refl _),⟨(.mk 1 z2 ax []),i2,J,(.num hz2 hy2),hi2,J⟩⟩
 refine aC false J eB (go 2 ?_);by_cases hz2:z1<2
 ·refine aC true J eg (go 9 ?_);refine aF J (lp RA J J J runUnderlying61) ?_;by_cases hn0:0<names.length;focus
   refine aC true J eg (go 2 ?_);refine aW J (bj [S] J J V call23 J (fB (_::A) _ _ _ l i1 _ hi1 hl V V) (bV) (bV (h:=by simp [aH.bl])) (λ_=>bV) ?_);rintro r7 s29 ⟨z7,i7,rfl,hy7,hi7,rfl⟩;by_cases hz21:z7=1
   ·refine aC true J eg (go 9 ?_);refine aF J (lp RA J J J runUnderlying61) ?_;refine aW J (bj [S] J J V call23 J (fB (_::A) _ _ _ l i7 _ hi7 hl Y Y) (bV) (bV (h:=by simp [aH.bl])) (λ_=>bV) ?_);rintro r2 s2 ⟨z2,i2,rfl,hy2,hi2,rfl⟩;have hj2:z2<names.length:=Y;refine JD RA Y λg cap hg=>?_;subst hg;refine aF J (jb z2 J J J J hj2 runUnderlying61 sizeOf9) ?_;refine aF J (wb RA J J J isAgg9 sizeOf9 (vS names _ hj2) gr) (go 8 ?_);exact ⟨.inr J,_,d8 A B (eL RA _ names rw) S l i2,(fq (bu.agg (.r (.r (.r (.n .nil))))) (bT J (cS [] J J isAgg87 sizeOf87 (cY J J)))),aj (.cons _ (.refl _)) (.refl _),⟨(.mk 2 0 names[z2] []),i2,J,(.name (getElem_mem hj2)),hi2,J⟩⟩
   refine aC false J eB (go 9 ?_);refine aW J (bj [S] J J V call107 J (Ac (_::A) _ _ _ l i7 hi7 hl) (bV) (bV (h:=by simp [aH.bl])) (λ_=>bV) ?_)
  rotate_left;refine aC false J eB (go 13 ?_);refine aW J (bj [S] J J V call107 J (Ac (_::A) _ _ _ l i1 hi1 hl) (bV) (bV (h:=by simp [aH.bl])) (λ_=>bV) ?_);all_goals
   rintro r2 s2 ⟨z2,i2,rfl,hz2,hy2,hi2,rfl⟩;refine go 7 ?_;exact ⟨.inr J,_,d8 A B (eL RA _ names rw) S l i2,(fq (bu.agg (.r (.r (.r (.n .nil))))) (bT J (cS [] J J isAgg87 sizeOf87 (cY J J)))),aj (.cons _ (.refl _)) (.refl _),⟨(.mk 1 z2 ax []),i2,J,(.num hz2 hy2),hi2,J⟩⟩
 refine aC false J eB (go 8 ?_);by_cases hz4:z1<4
 ·refine aC true J eg (go 7 ?_);refine aF J (S2 (z1%2) J J J J) ?_;refine bJ J (go 3 ?_);refine aF J (jE ((d-1:Nat):Int)) ?_;refine aW J (bj [S] J J V call78 J (ih hd0 (_::A) i1 hi1) (bV) (bV (h:=by simp [aH.bl])) (λ_=>bV) ?_);rintro r2 s2 ⟨x2,i2,rfl,hm2,hi2,rfl⟩;refine aW J (be (hf:=dU bR bb x2 (ei _) J J) ni ?_);refine go 7 ?_;exact ⟨.inr J,_,d8 A B (eL RA _ names rw) S l i2,(fq (bu.agg (.r (.r (.r (.r .nil))))) (bT J (cS [] J J isAgg87 sizeOf87 (cY J J)))),aj (.cons _ (.refl _)) (.refl _),⟨(.mk (3+((z1%2:Nat):Int)) 0 ax [x2]),i2,J,(by obtain ⟨d',rfl⟩:∃d',d=d'+1:=⟨d-1,Y⟩;exact .un Y hm2),hi2,J⟩⟩
 refine aC false J eB (go 10 ?_);refine aW J (bj [S] J J V call23 J (fB (_::A) _ _ _ l i1 _ hi1 hl V V) (bV) (bV (h:=by simp [aH.bl])) (λ_=>bV) ?_);rintro r2 s2 ⟨z2,i2,rfl,hy2,hi2,rfl⟩;refine bJ J (go 3 ?_);refine aF J (jE ((d-1:Nat):Int)) ?_;refine aW J (bj [S] J J V call78 J (ih hd0 (_::A) i2 hi2) (bV) (bV (h:=by simp [aH.bl])) (λ_=>bV) ?_);rintro r3 s3 ⟨x3,i3,rfl,hm3,hi3,rfl⟩;refine go 3 ?_;refine aF J (jE ((d-1:Nat):Int)) ?_;refine aW J (bj [S] J J V call78 J (ih hd0 (_::A) i3 hi3) (bV) (bV (h:=by simp [aH.bl])) (λ_=>bV) ?_);rintro r4 s4 ⟨x4,i4,rfl,hm4,hi4,rfl⟩;refine aW J (be (hps:=(.cons J (.cons J .nil))) (hf:=Gp bR bb x3 x4 ei J (λ_=>J)) Il ?_);refine go 5 ?_;exact ⟨.inr J,_,d8 A B (eL RA _ names rw) S l i4,(fq (bu.agg (.r (.r (.r (.r .nil))))) (bT J (cS [] J J isAgg87 sizeOf87 (cY J J)))),aj (.cons _ (.refl _)) (.refl _),⟨(.mk (5+((z2:Nat):Int)) 0 ax [x3,x4]),i4,J,(by obtain ⟨d',rfl⟩:∃d',d=d'+1:=⟨d-1,Y⟩;exact .bin Y Y hm3 hm4),hi4,J⟩⟩
def zW(B:List aT)(RA rw:List aS)(nv:aM)(S:Nat)(l:List Int)(names:List aG)(hl:l.length <= 1000000)(hnl:names.length <= 1000000):∀(d:Nat),d <= 100 -> ∀(A:List aT)(i:Nat),i <= l.length -> aR prog 78 [aE S,au nv,aX d] [S] (d8 A B (eL RA nv names rw) S l i) (λr s=>∃(e:aP) (i:Nat),r=.agg (bb e) /\ eT names (d) e /\ i <= l.length /\ s=d8 A B (eL RA nv names rw) S l i)
 |0,hd,A,i,hi=>Hq A B RA rw nv S l i names 0 hi hl hnl hd (λh=>absurd rfl h)
 |d+1,hd,A,i,hi=>Hq A B RA rw nv S l i names (d+1) hi hl hnl hd (λ_ A i hi=>zW B RA rw nv S l names hl hnl d Y A i hi)
def Uc(A B:List aT)(RA rw:List aS)(nv:aM)(S W:Nat)(l:List Int)(i0:Nat)(names:List aG)(G M F:aN)(left:Int)(ar:Bool)(size:Int)(hs0:0<size)(hs1:size <= 4611686018427387904)(hi0:i0 <= l.length)(hl:l.length <= 1000000)(hnl:names.length <= 1000000):aR prog 77 [aE W,au nv,bB size] [S] (d8 A (⟨W,56,[.val (.pointer (some ⟨S,0,none⟩)),G,M,F,aA left,bD ar]⟩::B) (eL RA nv names rw) S l i0) (λr s=>∃(e:aP) (i:Nat),r=.agg (bb e) /\ eT names 1 e /\ i <= l.length /\ s=d8 A (⟨W,56,[.val (.pointer (some ⟨S,0,none⟩)),G,M,F,aA left,bD ar]⟩::B) (eL RA nv names rw) S l i):=by
 cases ar
 ·refine bN 32 func77 ?_;refine go 32 λb1=>?_;refine aW J (bj [S] J J V call23 J (fB (_::A) _ _ _ l i0 _ hi0 hl hs0 hs1) (bV) (bV (h:=by simp [aH.bl])) (λ_=>bV) ?_);rintro r1 s1 ⟨z1,i1,rfl,hy1,hi1,rfl⟩;refine go 5 ?_;exact ⟨.inr J,_,d8 A (⟨W,56,[.val (.pointer (some ⟨S,0,none⟩)),G,M,F,aA left,bD false]⟩::B) (eL RA nv names rw) S l i1,(fq (bu.agg (.r (.r (.r (.n .nil))))) (bT J (cS [] J J isAgg87 sizeOf87 (cY J J)))),aj (.cons _ (.refl _)) (.refl _),⟨.mk 1 z1 ax [],i1,J,.num Y Y,hi1,J⟩⟩
 refine bN 32 func77 ?_;refine go 17 λb1=>?_;refine aW J (bj [S] J J V call23 J (fB (_::A) _ _ _ l i0 _ hi0 hl V V) (bV) (bV (h:=by simp [aH.bl])) (λ_=>bV) ?_);rintro r1 s1 ⟨z1,i1,rfl,hy1,hi1,rfl⟩;by_cases hz1:z1=1
 ·refine aC true J eg (go 11 ?_);refine aW J (bj [S] J J V call78 J (zW _ RA _ _ S l names hl hnl 1 Bc (_::A) i1 hi1) (bV) (bV (h:=by simp [aH.bl])) (λ_=>bV) ?_);rintro r2 s2 ⟨x2,i2,rfl,hm2,hi2,rfl⟩;refine go 5 ?_;exact ⟨.inr J,_,d8 A (⟨W,56,[.val (.pointer (some ⟨S,0,none⟩)),G,M,F,aA left,bD true]⟩::B) (eL RA nv names rw) S l i2,(bT J (cS [] J J isAgg87 sizeOf87 (cY J J))),aj (.cons _ (.refl _)) (.refl _),⟨x2,i2,J,hm2,hi2,J⟩⟩
 refine aC false J eB (go 13 ?_);refine aW J (bj [S] J J V call23 J (fB (_::A) _ _ _ l i1 _ hi1 hl hs0 hs1) (bV) (bV (h:=by simp [aH.bl])) (λ_=>bV) ?_);rintro r2 s2 ⟨z2,i2,rfl,hy2,hi2,rfl⟩;refine go 5 ?_;exact ⟨.inr J,_,d8 A (⟨W,56,[.val (.pointer (some ⟨S,0,none⟩)),G,M,F,aA left,bD true]⟩::B) (eL RA nv names rw) S l i2,(fq (bu.agg (.r (.r (.r (.n .nil))))) (bT J (cS [] J J isAgg87 sizeOf87 (cY J J)))),aj (.cons _ (.refl _)) (.refl _),⟨.mk 1 z2 ax [],i2,J,.num Y Y,hi2,J⟩⟩
def se(A B:List aT)(RA rw:List aS)(nv:aM)(S W:Nat)(l:List Int)(i0:Nat)(names:List aG)(G M F:aN)(left:Int)(ar:Bool)(hi0:i0 <= l.length)(hl:l.length <= 1000000)(hnl:names.length <= 1000000):aR prog 43 [aE W,au nv] [S] (d8 A (⟨W,56,[.val (.pointer (some ⟨S,0,none⟩)),G,M,F,aA left,bD ar]⟩::B) (eL RA nv names rw) S l i0) (λr s=>∃(e:aP) (i:Nat),r=.agg (bb e) /\ eT names 2 e /\ i <= l.length /\ s=d8 A (⟨W,56,[.val (.pointer (some ⟨S,0,none⟩)),G,M,F,aA left,bD ar]⟩::B) (eL RA nv names rw) S l i):=by
 cases ar
 ·refine bN 28 func43 ?_;refine go 23 λb1=>?_;refine aW J (bj [S] J J V call78 J (zW _ RA _ _ S l names hl hnl 0 Bc (_::A) i0 hi0) (bV) (bV (h:=by simp [aH.bl])) (λ_=>bV) ?_);rintro r1 s1 ⟨x1,i1,rfl,hm1,hi1,rfl⟩;refine go 5 ?_;exact ⟨.inr J,_,d8 A (⟨W,56,[.val (.pointer (some ⟨S,0,none⟩)),G,M,F,aA left,bD false]⟩::B) (eL RA nv names rw) S l i1,(bT J (cS [] J J isAgg87 sizeOf87 (cY J J))),aj (.cons _ (.refl _)) (.refl _),⟨x1,i1,J,(hm1.mono Y),hi1,J⟩⟩
 refine bN 28 func43 ?_;refine go 19 λb1=>?_;refine b_ [W] (aY [0,1,2,3,4,5,6,7,8] 4 (go 10 ?_));refine an 9 J J (bj [S] J J V call23 J (fB (_::A) _ _ _ l i0 _ hi0 hl V V) dV dS iD ?_);rintro r1 s1 ⟨z1,i1,rfl,hy1,hi1,rfl⟩;refine ab 10 J (w_ J J J Y Y) ?_;refine an 11 J J (bj [S] J J V call78 J (zW _ RA _ _ S l names hl hnl (1+z1) Bc (_::A) i1 hi1) dV dS iD ?_);rintro r2 s2 ⟨x2,i2,rfl,hm2,hi2,rfl⟩;refine cU [(12,false)] 0 (go 2 ?_);refine bG (go 2 ?_);exact ⟨.inr J,_,d8 A (⟨W,56,[.val (.pointer (some ⟨S,0,none⟩)),G,M,F,aA left,bD true]⟩::B) (eL RA nv names rw) S l i2,(bT J (cS [] J J isAgg87 sizeOf87 (cY J J))),aj (.cons _ (.refl _)) (.refl _),⟨x2,i2,J,(hm2.mono Y),hi2,J⟩⟩
end
section
def lu(ms:List cq):List ByteArray:=ms.map cq.name
def l7(ps:List bp):List ByteArray:=(ps.map λx=>if x.mutex then [x.name,x.name] else []).flatten
def O1(ms:List cq)(k:Nat)(h:k<ms.length):lu (ms.take (k+1))=lu (ms.take k)++[ms[k].name]:=by
 rw [ga h,lu,ed];rfl
def F5(ps:List bp)(k:Nat)(h:k<ps.length):l7 (ps.take (k+1))=l7 (ps.take k)++(if ps[k].mutex then [ps[k].name,ps[k].name] else []):=by
 rw [ga h,l7,ed,wQ];simp [l7]
def Fp:∀(ps:List bp),(l7 ps).length <= 2*ps.length
 |[]=>by simp [l7]
 |x::r=>by
  have:=Fp r;simp only [l7,cd,iL,length_append,length_cons] at this⊢;split<;>(simp only [length_cons,length_nil];omega)
def Qv(ps:List bp)(n:aG)(h:n∈l7 ps):∃x,x∈ps /\ x.mutex=true /\ x.name=n:=by
 simp only [l7,List.mem_flatten,gH] at h;obtain ⟨l,⟨x,hx,rfl⟩,hn⟩:=h;cases hm:x.mutex with
 |true=>rw [hm] at hn;simp at hn;exact ⟨x,hx,hm,hn.symm⟩
 |false=>rw [hm] at hn;simp at hn
end
section
open Go.RowKit
def VI{ms:List cq}{ps:List bp}{vars:List aG}{n:aG}(h:n∈l7 ps):kM ms ps vars ⟨n,[]⟩:=by
 obtain ⟨x,hx,hxm,rfl⟩:=Qv ps _ h;exact .param hx hxm
def qi(A B:List aT)(RA rw:List aS)(vv:aM)(S W:Nat)(l:List Int)(i0:Nat)(ms:List cq)(ps:List bp)(vars:List aG)(fn:aG)(G F FB:aN)(left:Int)(ar:Bool)(hi0:i0 <= l.length)(hl:l.length <= 1000000)(hm1:1 <= ms.length)(hm2:ms.length <= 1000)(hmz:∀m,m∈ms -> m.size <= 1000)(hp2:ps.length <= 1000)(hvl:vars.length <= 1000000):aR prog 42 [aE W,.agg [ae fn,aB cG ps,FB],au vv] [S] (d8 A (⟨W,56,[.val (.pointer (some ⟨S,0,none⟩)),G,(aB aU ms),F,aA left,bD ar]⟩::B) (eL RA vv vars rw) S l i0) (λr s=>∃(f:cD) (i:Nat),r=.agg (encR f) /\ kM ms ps vars f /\ i <= l.length /\ s=d8 A (⟨W,56,[.val (.pointer (some ⟨S,0,none⟩)),G,(aB aU ms),F,aA left,bD ar]⟩::B) (eL RA vv vars rw) S l i):=by
 refine bN 107 func42 ?_;refine go 18 λb1 b2=>?_;refine fZ 9 1 ?_;refine ff (λg:Nat×aM×List aG=>(⟨107,aO g.2.1++[b2,b1,S],⟨⟨b2,117,[ae ⟨#[]⟩,aI]⟩::⟨b1,67,[ae fn,aB cG ps,FB]⟩::(A++⟨S,54,[.sl l.length (l.map λi=>aA i),am i0]⟩::⟨W,56,[.val (.pointer (some ⟨S,0,none⟩)),G,(aB aU ms),F,aA left,bD ar]⟩::B),⟨g.2.1,9,1,g.2.2.length,cZ g.2.2⟩::(eL RA vv vars rw)⟩,[(8,aX g.1),(7,au g.2.1),(0,aE W),(2,au vv),(4,aE b1),(6,aE b2)]⟩:AS)) (λg=>g.1 <= ms.length /\ g.2.2=lu (ms.take g.1)) (λg=>ms.length-g.1) (0,.slice none 0 0,[]) (az sH) ⟨d2 _,J⟩ ?_;rintro ⟨k,v,acc⟩ ⟨hk,hacc⟩;dsimp only at hk hacc;show bo prog _ (⟨107,aO v++[b2,b1,S],⟨⟨b2,117,[ae ⟨#[]⟩,aI]⟩::⟨b1,67,[ae fn,aB cG ps,FB]⟩::(A++⟨S,54,[.sl l.length (l.map λi=>aA i),am i0]⟩::⟨W,56,[.val (.pointer (some ⟨S,0,none⟩)),G,(aB aU ms),F,aA left,bD ar]⟩::B),⟨v,9,1,acc.length,cZ acc⟩::(eL RA vv vars rw)⟩,[(8,aX k),(7,au v),(0,aE W),(2,au vv),(4,aE b1),(6,aE b2)]⟩:AS) _;have hal:acc.length=k:=by rw [hacc,lu,fW,j8];omega
 refine go 10 ?_;by_cases hlt:k<ms.length
 ·refine aC true J eg (go 15 ?_);refine aF J (bS aU aU ms kI (λ_=>J) k J J J J Y V runUnderlying24 sizeOf60) (go 2 ?_);refine aW J (be (r:=cZ [ms[k].name]) iM ?_);refine aW J (dR [] nG J J V c_ Y (@length_append _ acc [ms[k].name]).symm fi cb (ed (f:=λx=>aN.val (.string x))).symm λv1=>?_);refine go 6 ?_;refine bJ J (go 2 ?_);refine ⟨(k+1,v1,acc++[ms[k].name]),⟨Y,by rw [O1 ms k hlt,hacc]⟩,by show ms.length-(k+1)<ms.length-k;omega,az eZ⟩
 refine aC false J eB (go 11 ?_);refine aF J (lp [] J J J runUnderlying61) ?_;have hke:acc.length=ms.length:=Y;rw [hke];refine go 10 ?_
 skip
 refine ff (λg:Nat×aM×List aG×Nat=>(⟨107,aO g.2.1++[b2,b1,S],⟨⟨b2,117,[ae ⟨#[]⟩,aI]⟩::⟨b1,67,[ae fn,aB cG ps,FB]⟩::(A++⟨S,54,[.sl l.length (l.map λi=>aA i),am i0]⟩::⟨W,56,[.val (.pointer (some ⟨S,0,none⟩)),G,(aB aU ms),F,aA left,bD ar]⟩::B),⟨g.2.1,9,1,g.2.2.2,cZ g.2.2.1⟩::(eL RA vv vars rw)⟩,[(10,aX g.1),(7,au g.2.1),(0,aE W),(2,au vv),(4,aE b1),(6,aE b2),(9,aX ms.length)]⟩:AS)) (λg=>g.1 <= ps.length /\ g.2.2.1=lu ms++l7 (ps.take g.1) /\ g.2.2.2=g.2.2.1.length) (λg=>ps.length-g.1) (0,v,acc,ms.length) (ao J) ⟨d2 _,by show acc=_;rw [hacc,take_of_length_le Y];simp [l7],hke.symm⟩ ?_;clear hal hacc hk hke;rintro ⟨j,v,acc,c⟩ ⟨hj,hacc,hc⟩;dsimp only at hj hacc hc;show bo prog _ (⟨107,aO v++[b2,b1,S],⟨⟨b2,117,[ae ⟨#[]⟩,aI]⟩::⟨b1,67,[ae fn,aB cG ps,FB]⟩::(A++⟨S,54,[.sl l.length (l.map λi=>aA i),am i0]⟩::⟨W,56,[.val (.pointer (some ⟨S,0,none⟩)),G,(aB aU ms),F,aA left,bD ar]⟩::B),⟨v,9,1,c,cZ acc⟩::(eL RA vv vars rw)⟩,[(10,aX j),(7,au v),(0,aE W),(2,au vv),(4,aE b1),(6,aE b2),(9,aX ms.length)]⟩:AS) _;have hal:acc.length <= ms.length+2*ps.length:=by have h1:=Fp (ps.take j);rw [hacc,length_append,lu,fW];rw [j8] at h1;omega
 refine go 7 ?_;by_cases hlj:j<ps.length
 ·refine aC true J eg (go 12 ?_);refine aF J (bS cG cG ps gx (λ_=>J) j J J J J Y V runUnderlying64 sizeOf69) (go 4 ?_);refine iB J (λhc4=>?_) (λhc4=>?_)
  ·have hmx:=hc4;refine b_ [b2,b1,S,W] (aY [0,1,2,3] 12 (go 5 ?_));refine ab 4 J (bS cG cG ps gx (λ_=>J) j J J J J Y V runUnderlying64 sizeOf69) (aY [5,6,7,8,9] 6 (go 6 ?_));refine ab 10 J (bS cG cG ps gx (λ_=>J) j J J J J Y V runUnderlying64 sizeOf69) (aY [11,12] 3 (go 3 ?_));refine an 13 J J (be (r:=cZ [ps[j].name,ps[j].name]) (hps:=(.cons J (.cons J .nil))) B7 ?_);refine an 14 J J (dR [] nG J J V c_ Y (N:=c+2) J (λhn b hb=>gL hn hb) cb (ed (f:=λx=>aN.val (.string x))).symm λv1=>?_);refine aY [15] 0 (go 2 ?_);refine bG (go 4 ?_);refine bJ J (go 2 ?_);refine ⟨(j+1,v1,acc++[ps[j].name,ps[j].name],c+2),⟨Y,by show acc++[ps[j].name,ps[j].name]=_;rw [F5 ps j hlj,hacc,if_pos hmx,append_assoc],by simp [hc]⟩,by show ps.length-(j+1)<ps.length-j;omega,az eZ⟩
  have hmx:=hc4;refine go 5 ?_;refine bJ J (go 2 ?_);refine ⟨(j+1,v,acc,c),⟨Y,by show acc=_;rw [F5 ps j hlj,hacc,if_neg (by rw [hmx];decide),eC],hc⟩,by show ps.length-(j+1)<ps.length-j;omega,az eZ⟩
 refine aC false J eB (go 10 ?_);have hfin:acc=lu ms++l7 ps:=by rw [hacc,take_of_length_le Y]
 have hlen:ms.length <= acc.length:=by rw [hfin,length_append,lu,fW];omega
 subst hc;refine sQ 7 J ?_;refine go 6 ?_;refine aW J (bj [S] J J V call23 J (fB (_::_::A) _ _ _ l i0 _ hi0 hl Y Y) (bV) (bV (h:=by simp [aH.bl])) (λ_=>bV) ?_);rintro r1 s1 ⟨z1,i1,rfl,hy1,hi1,rfl⟩;refine go 7 ?_;refine aF J (l9 (λx=>ae x) acc z1 J J J J Y runUnderlying61 sizeOf9) (go 11 λb3=>?_);by_cases hzm:z1<ms.length
 ·refine aC true J eg (go 7 ?_);refine aF J (bS aU aU ms kI (λ_=>J) z1 J J J J Y V runUnderlying24 sizeOf60) (go 2 ?_);by_cases hsz:0<ms[z1].size
  ·refine aC true J eg (go 13 ?_);refine aF J (bS aU aU ms kI (λ_=>J) z1 J J J J Y V runUnderlying24 sizeOf60) (go 2 ?_);refine aW J (bj [S] J J V call77 J (Uc (_::_::_::A) _ RA _ _ S W l i1 vars G (aB aU ms) F left ar ms[z1].size hsz (by have:=hmz _ (getElem_mem hzm);omega) hi1 hl hvl) (bV) (bV (h:=by simp [aH.bl])) (λ_=>bV) ?_);rintro r2 s2 ⟨x2,i2,rfl,hm2,hi2,rfl⟩;refine aW J (be (hf:=dU bR bb x2 (ei _) J J) ni ?_);refine go 11 ?_;exact ⟨.inr J,_,d8 A (⟨W,56,[.val (.pointer (some ⟨S,0,none⟩)),G,(aB aU ms),F,aA left,bD ar]⟩::B) (eL RA vv vars rw) S l i2,(fq (bu.agg (.r (.r .nil))) (bT J (cS [_] J J isAgg117 sizeOf117 (cY J J)))),aj (.cons _ (.cons _ (.cons _ (.refl _)))) (.refl _),⟨⟨acc[z1],[x2]⟩,i2,J,(by rw [(show acc[z1]=ms[z1].name by simp only [hfin];rw [pj (by rw [lu,fW];exact hzm)];simp [lu])];exact .arr (getElem_mem hzm) hsz hm2),hi2,J⟩⟩
  refine aC false J eB (go 13 ?_);exact ⟨.inr J,_,d8 A (⟨W,56,[.val (.pointer (some ⟨S,0,none⟩)),G,(aB aU ms),F,aA left,bD ar]⟩::B) (eL RA vv vars rw) S l i1,(fq (bu.agg (.r (.n .nil))) (bT J (cS [_] J J isAgg117 sizeOf117 (cY J J)))),aj (.cons _ (.cons _ (.cons _ (.refl _)))) (.refl _),⟨⟨acc[z1],[]⟩,i1,J,(by rw [(show acc[z1]=ms[z1].name by simp only [hfin];rw [pj (by rw [lu,fW];exact hzm)];simp [lu])];exact .scalar (getElem_mem hzm) Y),hi1,J⟩⟩
 refine aC false J eB (go 24 ?_);exact ⟨.inr J,_,d8 A (⟨W,56,[.val (.pointer (some ⟨S,0,none⟩)),G,(aB aU ms),F,aA left,bD ar]⟩::B) (eL RA vv vars rw) S l i1,(fq (bu.agg (.r (.n .nil))) (bT J (cS [_] J J isAgg117 sizeOf117 (cY J J)))),aj (.cons _ (.cons _ (.cons _ (.refl _)))) (.refl _),⟨⟨acc[z1],[]⟩,i1,J,(VI (show acc[z1]∈l7 ps by simp only [hfin];rw [pC (by rw [lu,fW];omega)];exact getElem_mem _)),hi1,J⟩⟩
def kU.snoc{ms:List cq}{ps:List bp}{vars:List aG}{l:List bp}{al:List cK}(h:kU ms ps vars l al){x:bp}{a:cK}(ha:(x.mutex=true /\ a=⟨true,a.ref,.zero⟩ /\ kM ms ps vars a.ref)∨(x.mutex=false /\ a=⟨false,.zero,a.expr⟩ /\ eT vars 2 a.expr)):kU ms ps vars (l++[x]) (al++[a]):=by
 induction h with
 |nil=>
  rcases ha with ⟨h1,h2,h3⟩|⟨h1,h2,h3⟩
  ·rw [h2];exact .mutex h1 h3 .nil
  ·rw [h2];exact .expr h1 h3 .nil
 |mutex hx hr _ ih=>exact .mutex hx hr ih
 |expr hx he _ ih=>exact .expr hx he ih
def Fx(A B:List aT)(RA rw:List aS)(vv:aM)(S W:Nat)(l:List Int)(i0:Nat)(ms:List cq)(ps:List bp)(vars:List aG)(fn:aG)(G F FB:aN)(left:Int)(ar:Bool)(gn:aG)(qs:List bp)(GB:aN)(hi0:i0 <= l.length)(hl:l.length <= 1000000)(hm1:1 <= ms.length)(hm2:ms.length <= 1000)(hmz:∀m,m∈ms -> m.size <= 1000)(hp2:ps.length <= 1000)(hvl:vars.length <= 1000000)(hq2:qs.length <= 1000):aR prog 44 [aE W,.agg [ae fn,aB cG ps,FB],.agg [ae gn,aB cG qs,GB],au vv] [S] (d8 A (⟨W,56,[.val (.pointer (some ⟨S,0,none⟩)),G,(aB aU ms),F,aA left,bD ar]⟩::B) (eL RA vv vars rw) S l i0) (λr s=>∃(al:List cK) (i:Nat),r=.c (aB dA al) /\ kU ms ps vars qs al /\ i <= l.length /\ s=d8 A (⟨W,56,[.val (.pointer (some ⟨S,0,none⟩)),G,(aB aU ms),F,aA left,bD ar]⟩::B) (eL RA vv vars rw) S l i):=by
 refine bN 40 func44 ?_;refine go 19 λb1 b2=>?_;refine fZ 135 7 ?_;refine ff (λg:Nat×aM×List cK×Nat=>(⟨40,aO g.2.1++[b2,b1,S],⟨⟨b2,67,[ae gn,aB cG qs,GB]⟩::⟨b1,67,[ae fn,aB cG ps,FB]⟩::(A++⟨S,54,[.sl l.length (l.map λi=>aA i),am g.2.2.2]⟩::⟨W,56,[.val (.pointer (some ⟨S,0,none⟩)),G,(aB aU ms),F,aA left,bD ar]⟩::B),⟨g.2.1,135,7,g.2.2.1.length,g.2.2.1.flatMap dA⟩::(eL RA vv vars rw)⟩,[(10,aX g.1),(9,au g.2.1),(0,aE W),(3,au vv),(5,aE b1),(6,aE b2)]⟩:AS)) (λg=>g.1 <= qs.length /\ g.2.2.1.length=g.1 /\ kU ms ps vars (qs.take g.1) g.2.2.1 /\ g.2.2.2 <= l.length) (λg=>qs.length-g.1) (0,.slice none 0 0,[],i0) (az sH) ⟨d2 _,J,.nil,hi0⟩ ?_;rintro ⟨k,v,acc,ik⟩ ⟨hk,hal,hacc,hik⟩;dsimp only at hk hal hacc hik;show bo prog _ (⟨40,aO v++[b2,b1,S],⟨⟨b2,67,[ae gn,aB cG qs,GB]⟩::⟨b1,67,[ae fn,aB cG ps,FB]⟩::(A++⟨S,54,[.sl l.length (l.map λi=>aA i),am ik]⟩::⟨W,56,[.val (.pointer (some ⟨S,0,none⟩)),G,(aB aU ms),F,aA left,bD ar]⟩::B),⟨v,135,7,acc.length,acc.flatMap dA⟩::(eL RA vv vars rw)⟩,[(10,aX k),(9,au v),(0,aE W),(3,au vv),(5,aE b1),(6,aE b2)]⟩:AS) _;refine go 7 ?_;by_cases hlt:k<qs.length
 ·refine aC true J eg (go 12 ?_);refine aF J (bS cG cG qs gx (λ_=>J) k J J J J Y V runUnderlying64 sizeOf69) (go 4 ?_);refine iB J (λhc2=>?_) (λhc2=>?_)
  ·have hmx:=hc2;refine go 5 ?_;refine aW J (bj [S] J J V call42 J (qi (_::_::A) _ (_::RA) _ _ S W l ik ms ps vars fn G F FB left ar hik hl hm1 hm2 hmz hp2 hvl) (bV) (bV (h:=by simp [aH.bl])) (λ_=>bV) ?_);rintro r1 s1 ⟨f1,i1,rfl,hm1,hi1,rfl⟩;refine go 1 ?_;refine d9 29 J (bu.agg (.r (.r (.r (.r (.r (.r (.n .nil)))))))) ?_;refine aW J (be (hf:=dU dA dA ⟨true,f1,.zero⟩ J J J) xi ?_);refine aW J (dR [] H5 J J V c_ Y (@length_append _ acc [⟨true,f1,.zero⟩]).symm fi cb (d4 (f:=dA)).symm λv2=>?_);refine go 6 ?_;refine bJ J (go 2 ?_);refine ⟨(k+1,v2,acc++[⟨true,f1,.zero⟩],i1),⟨Y,by simp [hal],by rw [ga hlt];exact hacc.snoc (.inl ⟨hmx,rfl,hm1⟩),hi1⟩,by show qs.length-(k+1)<qs.length-k;omega,az eZ⟩
  have hmx:=hc2;refine go 4 ?_;refine aW J (bj [S] J J V call43 J (se (_::_::A) _ (_::RA) _ _ S W l ik vars G (aB aU ms) F left ar hik hl hvl) (bV) (bV (h:=by simp [aH.bl])) (λ_=>bV) ?_);rintro r1 s1 ⟨x1,i1,rfl,hm1,hi1,rfl⟩;refine go 1 ?_;refine d9 36 J (bu.agg (.r (.r (.n (.r (.r (.r (.r .nil)))))))) ?_;refine aW J (be (hf:=dU dA dA ⟨false,.zero,x1⟩ J J J) xi ?_);refine aW J (dR [] H5 J J V c_ Y (@length_append _ acc [⟨false,.zero,x1⟩]).symm fi cb (d4 (f:=dA)).symm λv2=>?_);refine go 6 ?_;refine bJ J (go 2 ?_);refine ⟨(k+1,v2,acc++[⟨false,.zero,x1⟩],i1),⟨Y,by simp [hal],by rw [ga hlt];exact hacc.snoc (.inr ⟨hmx,rfl,hm1⟩),hi1⟩,by show qs.length-(k+1)<qs.length-k;omega,az eZ⟩
 refine aC false J eB (go 10 ?_);refine sQ 9 J ?_;refine go 5 ?_;exact ⟨.inr J,_,d8 A (⟨W,56,[.val (.pointer (some ⟨S,0,none⟩)),G,(aB aU ms),F,aA left,bD ar]⟩::B) (eL RA vv vars rw) S l ik,bT J (bM J),aj (.cons _ (.cons _ (.refl _))) (.refl _),⟨acc,ik,J,by rw [take_of_length_le Y] at hacc;exact hacc,hik,J⟩⟩
end
end Go.Proofs.YtjgeihmhppadaaaGreatDoor
