import Derived.Test.YtjgeihmhppadaaaGreatDoorCG7J
set_option linter.all false
set_option synthInstance.maxHeartbeats 1000000
set_option synthInstance.maxSize 1000000
set_option maxHeartbeats 1600000
set_option maxRecDepth 100000
namespace Go.Proofs.YtjgeihmhppadaaaGreatDoor
open Go.Proofs.Tryz
open List (length_append length_cons length_nil mem_append mem_cons not_mem_nil append_assoc getElem_mem take_of_length_le)
section
open Go.RowKit
def R7(u:Nat)(bs:List UInt8)(v:aM)(bx:List aT)(rw:List aS)(hu:u<18446744073709551616)(hb:bs.length <= 100000000000000):aR prog 218 [cC (au v),au (.int .u64 ((u:Nat):Int)),bB 10] (aO v) ⟨bx,⟨v,5,1,bs.length,cT bs⟩::rw⟩ λt s'=>∃v',t=au v' /\ s'=⟨bx,⟨v',5,1,(bs++cp u).length,cT (bs++cp u)⟩::rw⟩:=by
 refine bN 36 func218 ?_;refine go 9 ?_;refine aC true J ge (go 7 ?_);by_cases h2:((u:Nat):Int)<100;focus
  refine aC true J (ck h2) (go 7 ?_);refine aF J (Mg J J J J J (wrap64 Y Y)) ?_;refine m4 J call189 J (Ud u Y _) ?_;refine aW J (wu [] Tryz.t5 (z:=bytes (cp u)) J J V J J underlying58 underlying9 aQ J J J (by have:=xW u;have:=Ar hu;unfold maxLen;show bs.length+(cp u).length <= _;omega) (by have:=xW u;have:=Ar hu;show bs.length+(cp u).length <= _;omega) (@length_append _ bs (cp u)).symm J fi cb (oE bs (cp u)) λw3=>?_);refine go 6 ?_
 rotate_left;refine aC false J (cg h2) (go 13 λb2=>?_);refine jR 0 J call190 J (Vw u Y hu _) (go 6 ?_);have hnd:=Ar hu;refine aF J (Ho J J J J Y V runUnderlying250 sizeOf5) (go 1 ?_);have hnd:=Ar hu;refine aW J (bj [b2] J J V call191 J (S4 b2 _ (List.replicate 24 0) u 24 bx _ hu di V) (bV) (bV (h:=by simp [aH.bl])) (λ_=>bV) ?_);rintro _ _ ⟨rfl,rfl⟩;refine go 6 ?_;refine aF J (Ho J J J J Y V runUnderlying250 sizeOf5) ?_;refine P6 26 J Y V ?_;refine aW J (dR [] uA J (by unfold cT;rw [fW,xW,nz]) Y c_ Y (show bs.length+Lib.nDigits u=(bs++cp u).length by rw [length_append,xW]) fi cb (oE bs (cp u)) λw3=>?_);refine go 5 ?_;all_goals
  exact ⟨.inr J,_,⟨bx,⟨w3,_,_,_,_⟩::rw⟩,bT J (bM J),aj (.refl _) (.refl _),⟨w3,J,J⟩⟩
def PE(n:Nat)(bs:List UInt8)(v:aM)(bx:List aT)(rw:List aS)(hn:n <= 9223372036854775807)(hb:bs.length <= 100000000000000):aR prog 214 [cC (au v),aX n,bB 10] (aO v) ⟨bx,⟨v,5,1,bs.length,cT bs⟩::rw⟩ λt s'=>∃v',t=au v' /\ s'=⟨bx,⟨v',5,1,(bs++cp n).length,cT (bs++cp n)⟩::rw⟩:=by
 refine bN 21 func214 ?_;refine go 8 ?_;refine aF J (Mg J J J J J (Nr Y Y)) (go 7 ?_);refine aC false J (cg Y) (go 10 ?_);refine aW J (o9 0 J call218 J (R7 n bs v _ _ Y hb) cb fi λw1=>?_);refine go 4 ?_;exact ⟨.inr J,_,⟨bx,⟨w1,_,_,_,_⟩::rw⟩,bT J (bM J),aj (.refl _) (.refl _),⟨w1,J,J⟩⟩
def OY(n:Nat)(bs:List UInt8)(v:aM)(bx:List aT)(rw:List aS)(hn:n <= 9223372036854775807)(hb:bs.length <= 100000000000000):aR prog 208 [cC (au v),aX n,bB 10] (aO v) ⟨bx,⟨v,5,1,bs.length,cT bs⟩::rw⟩ λt s'=>∃v',t=au v' /\ s'=⟨bx,⟨v',5,1,(bs++cp n).length,cT (bs++cp n)⟩::rw⟩:=by
 refine bN 11 func208 ?_;refine go 10 ?_;refine aW J (o9 0 J call214 J (PE n bs v _ _ hn hb) cb fi λw1=>?_);refine go 4 ?_;exact ⟨.inr J,_,⟨bx,⟨w1,_,_,_,_⟩::rw⟩,bT J (bM J),aj (.refl _) (.refl _),⟨w1,J,J⟩⟩
def jx(op:Int):List UInt8:=if op=3 then [45] else if op=4 then [33] else kl op
def O0:∀j (h:j<kQ.length),kQ[j]=bytes (jx j):=V
def kH(e:aP)(k:Nat):List UInt8:=(gY e.op 0 e.args).getD k []
def yB(e:aP)(k:Nat)(h:k<e.args.length):kH e k=if gX e.op k e.args[k].op then [40]++bX e.args[k]++[41] else bX e.args[k]:=by
 unfold kH;have:=y6 e.op e.args 0 k h;rw [e0] at this;rw [Cc,this];rfl
def Eo{e:aP}(h:dc e=true):(e.args.length=0 /\ (e.op=1∨e.op=2))∨(e.args.length=1 /\ (e.op=3∨e.op=4))∨(e.args.length=2 /\ 5 <= e.op /\ e.op <= 17):=by
 rw [kG] at h;unfold jd at h;by_cases h0:fQ e.op=0
 ·rw [if_pos h0] at h;cases h
 have ho:=Cv h0;rw [if_neg h0] at h;by_cases h7:fQ e.op=7
 ·rw [if_pos h7] at h;simp only [cz,decide_eq_true_eq] at h;have:=CU h7;omega
 rw [if_neg h7] at h;simp only [cz,decide_eq_true_eq] at h;by_cases h6:fQ e.op=6
 ·rw [if_pos h6] at h;have:=NV h6;omega
 rw [if_neg h6] at h;have h1:¬(e.op=1∨e.op=2):=λhh=>h7 Kp;have h2:¬(e.op=3∨e.op=4):=λhh=>h6 Kp;omega
def IE{e:aP}(h:dc e=true)(h2:e.args.length=2):bX e=kH e 0++([32]++jx e.op++[32])++kH e 1:=by
 have hk:=Eo h;rw [ot];unfold jN kH jx;have hs:cw e.op<5:=Bj;rw [if_neg Y,if_neg Y,if_neg Y,if_neg Y,if_pos hs,if_neg Y,if_neg Y];simp only [append_assoc]
def Gn{e:aP}(h:dc e=true)(h1:e.args.length=1):bX e=jx e.op++kH e 0:=by
 have hk:=Eo h;rw [ot];unfold jN kH jx;rw [if_neg Y,if_neg Y];by_cases h3:e.op=3
 ·rw [if_pos h3,if_pos h3];rfl
 rw [if_neg h3,if_neg h3,if_pos Y,if_pos Y];rfl
def H7{e:aP}(h2:e.op=2):bX e=e.name.data.toList:=by
 rw [ot];unfold jN;rw [if_neg Y,if_pos h2]
def QE{e:aP}(h1:e.op=1)(h:dc e=true):bX e=cp e.num.toNat /\ 0 <= e.num:=by
 rw [pF] at h;have hs:cw e.op=6:=Bj;rw [if_pos hs] at h;simp only [cz,kP,lT,decide_eq_true_eq] at h;have hn:0 <= e.num:=Y;rw [ot];unfold jN eM;rw [if_pos h1,if_neg Y,show e.num.natAbs=e.num.toNat by omega];exact ⟨J,hn⟩
def DY(e:aP)(k:Nat)(bs:List UInt8)(v:aM)(x:Nat)(bx:List aT)(rw:List aS)(hk:k<e.args.length)(hsh:dc e=true)(hb:bs.length+(kH e k).length <= 100000000000000)(ih:∀(bs:List UInt8)(v:aM)(bx:List aT)(rw:List aS),bs.length+(bX e.args[k]).length <= 100000000000000 -> aR prog 194 [cC (au v),.agg (bb e.args[k])] (aO v) ⟨bx,⟨v,5,1,bs.length,cT bs⟩::rw⟩ λt s'=>∃v',t=au v' /\ s'=⟨bx,⟨v',5,1,(bs++bX e.args[k]).length,cT (bs++bX e.args[k])⟩::rw⟩):aR prog 207 [cC (au v),aX k,aE x] (aO v) ⟨⟨x,87,bb e⟩::bx,⟨v,5,1,bs.length,cT bs⟩::rw⟩ λt s'=>∃v',t=au v' /\ s'=⟨⟨x,87,bb e⟩::bx,⟨v',5,1,(bs++kH e k).length,cT (bs++kH e k)⟩::rw⟩:=by
 refine bN 28 func207 ?_;refine go 10 ?_;rcases bq (gX e.op k e.args[k].op) with h1|h1
 ·refine dl 0 J call200 J (AM e k Y (kj hsh).1 (kj ((kj hsh).2 k Y)).1 _) h1 (go 7 ?_);refine b_ [x] ?_;have hlk:=yB e k hk;rw [h1] at hlk;have hl2:=congrArg List.length hlk;simp only [if_true,lK,if_false,length_append,length_cons,length_nil] at hl2;refine aY [0,3,4,5] 8 (go 5 ?_);refine ab 6 J (bS bR bb e.args fw ei k J J J J Y V runUnderlying85 sizeOf87) (aY [7] 6 (go 2 ?_));refine cx 1 9 J ?_ ?_;focus
   refine (be (r:=cT [40]) jy ?_);refine cx 2 9 J ?_ ?_;focus
    refine (dR [] uA J J V yW nE (show bs.length+1=(bs++[40]).length by simp only [length_append,length_cons,length_nil]) (λhn b hb=>gL hn hb) cb (oE bs [40]) λw1=>?_);refine cx 8 9 J ?_ ?_;focus
     refine (o9 0 J call194 J (ih (bs++[40]) w1 _ _ nE) cb (λhn b hb=>gL hn hb) λw2=>?_);refine an 9 J J (be (r:=cT [41]) jy ?_)
    rotate_left;refine (be (r:=cT [41]) jy ?_);refine an 8 J J (o9 0 J call194 J (ih (bs++[40]) w1 _ _ nE) cb (λhn b hb=>gL hn hb) λw4=>?_)
   rotate_left 2;refine (be (r:=cT [41]) jy ?_);refine an 2 J J (dR [] uA J J V yW nE (show bs.length+1=(bs++[40]).length by simp only [length_append,length_cons,length_nil]) (λhn b hb=>gL hn hb) cb (oE bs [40]) λw6=>?_);refine an 8 J J (o9 0 J call194 J (ih (bs++[40]) w6 _ _ nE) cb (λhn b hb=>gL hn hb) λw7=>?_)
  rotate_left 3;refine (be (r:=cT [41]) jy ?_);refine an 1 J J (be (r:=cT [40]) jy ?_);refine an 2 J J (dR [] uA J J V yW nE (show bs.length+1=(bs++[40]).length by simp only [length_append,length_cons,length_nil]) (λhn b hb=>gL hn hb) cb (oE bs [40]) λw9=>?_);refine an 8 J J (o9 0 J call194 J (ih (bs++[40]) w9 _ _ nE) cb (λhn b hb=>gL hn hb) λw10=>?_);all_goals
   refine an 10 J J (dR [] uA J J V yW nE (show ((bs++[40])++bX e.args[k]).length+1=(((bs++[40])++bX e.args[k])++[41]).length by simp only [length_append,length_cons,length_nil]) (λhn b hb=>gL hn hb) cb (oE ((bs++[40])++bX e.args[k]) [41]) λw11=>?_);refine aY [11] 0 (go 2 ?_);refine bG (go 2 ?_);exact ⟨.inr J,_,⟨_,⟨w11,_,_,_,_⟩::rw⟩,bT J (bM J),aj (.refl _) (.refl _),⟨w11,J,(by rw [show (((bs++[40])++bX e.args[k])++[41])=bs++kH e k by rw [yB e k hk,h1];simp only [if_true,lK,if_false,append_assoc]])⟩⟩
 refine dl 0 J call200 J (AM e k Y (kj hsh).1 (kj ((kj hsh).2 k Y)).1 _) h1 (go 6 ?_);have hlk:=yB e k hk;rw [h1] at hlk;have hl2:=congrArg List.length hlk;simp only [if_true,lK,if_false,length_append,length_cons,length_nil] at hl2;refine go 4 ?_;refine aF J (bS bR bb e.args fw ei k J J J J Y V runUnderlying85 sizeOf87) (go 1 ?_);refine aW J (o9 0 J call194 J (ih bs v _ _ nE) cb fi λw12=>?_);refine go 5 ?_;exact ⟨.inr J,_,⟨_,⟨w12,_,_,_,_⟩::rw⟩,bT J (bM J),aj (.refl _) (.refl _),⟨w12,J,(by rw [show (bs++bX e.args[k])=bs++kH e k by rw [yB e k hk,h1];simp only [if_true,lK,if_false,append_assoc]])⟩⟩
def Oq:∀j,j<18 -> (jx ((j:Nat):Int)).length <= 2:=V
def NN(e:aP)(bs:List UInt8)(v:aM)(bx:List aT)(rw:List aS)(hsh:dc e=true)(hN:e.nodes <= 1000000000)(hs:fit e.num)(hb:bs.length+(bX e).length <= 100000000000000)(ih:∀k (h:k<e.args.length) (bs:List UInt8) (v:aM) (bx:List aT) (rw:List aS),bs.length+(bX e.args[k]).length <= 100000000000000 -> aR prog 194 [cC (au v),.agg (bb e.args[k])] (aO v) ⟨bx,⟨v,5,1,bs.length,cT bs⟩::rw⟩ λt s'=>∃v',t=au v' /\ s'=⟨bx,⟨v',5,1,(bs++bX e.args[k]).length,cT (bs++bX e.args[k])⟩::rw⟩):aR prog 194 [cC (au v),.agg (bb e)] (aO v) ⟨bx,⟨v,5,1,bs.length,cT bs⟩::rw⟩ λt s'=>∃v',t=au v' /\ s'=⟨bx,⟨v',5,1,(bs++bX e).length,cT (bs++bX e)⟩::rw⟩:=by
 obtain ⟨hf1,hf2⟩:=hs;have hlen:=qc e;refine bN 45 func194 ?_;refine O6 0 1 J J ?_;refine go 8 λb1=>?_;refine aF J (Ij (vs:=[.pointer (some ⟨b1,0,none⟩)]) J J) (go 7 ?_);have hin:=(kj hsh).1;have hkd:=Eo hsh;obtain ⟨j,hj⟩:∃j:Nat,e.op=j:=⟨e.op.toNat,Y⟩;have hj18:j<kQ.length:=by show j<18;omega
 have hsg:kQ[j]=bytes (jx e.op):=by rw [hj];exact O0 j hj18
 have hpl:=Oq j hj18;rw [←hj] at hpl;refine aF J (Vj 1 j J J J hj hj18 J runUnderlying266 sizeOf9) ?_;refine aF J (cI (fH hsg) (jh J J isAgg9 sizeOf9 J)) (go 20 ?_);by_cases h1:((e.args.length:Nat):Int)=2
 ·refine aC true J (bg h1) (go 11 ?_);have htx:=congrArg List.length (IE hsh Y);simp only [length_append,length_cons,length_nil] at htx;refine go 2 ?_;refine aW J (Ax (us:=[aX 0]) (cap:=#[.pointer (some ⟨b1,0,none⟩)]) 1 J call207 J (DY e 0 bs v _ _ _ Y hsh nE (ih 0 Y)) cb fi λw2=>?_);refine go 5 ?_;refine aF J (cF [32] (jx e.op) J J J J J) ?_;refine aF J (cF ([32]++(jx e.op)) [32] J J J J J) (go 6 ?_);refine b_ [b1] (aY [0,1,2,4,5,6] 4 (go 7 ?_));refine ab 7 J (jE ((1:Nat):Int)) ?_;refine an 3 J J (wu [] Tryz.t5 (z:=bytes (([32]++(jx e.op))++[32])) J J V J J underlying58 underlying9 aQ J J J FW Ll (@length_append _ (bs++kH e 0) (([32]++(jx e.op))++[32])).symm J (λhn b hb=>gL hn hb) cb (oE (bs++kH e 0) (([32]++(jx e.op))++[32])) λw3=>?_);refine an 8 J J (Ax (us:=[aX 1]) (cap:=#[.pointer (some ⟨b1,0,none⟩)]) 1 J call207 J (DY e 1 ((bs++kH e 0)++(([32]++(jx e.op))++[32])) w3 _ _ _ Y hsh nE (ih 1 Y)) cb (λhn b hb=>gL hn hb) λw4=>?_);refine aY [9] 0 (go 2 ?_);refine bG (go 5 ?_);exact ⟨.inr J,_,⟨bx,⟨w4,_,_,_,_⟩::rw⟩,bT J (bM J),aj (.cons _ (.refl _)) (.refl _),⟨w4,J,(by rw [show (((bs++kH e 0)++(([32]++(jx e.op))++[32]))++kH e 1)=bs++bX e by rw [IE hsh Y];simp only [append_assoc]])⟩⟩
 refine aC false J (bZ h1) (go 8 ?_);by_cases h4:((e.args.length:Nat):Int)=1
 ·refine aC true J (bg h4) (go 12 ?_);refine b_ [b1] ?_;have htx:=congrArg List.length (Gn hsh Y);simp only [length_append,length_cons,length_nil] at htx;refine aY [0,1,2,4,5,6] 4 (go 7 ?_);refine ab 7 J (jE ((0:Nat):Int)) ?_;refine an 3 J J (wu [] Tryz.t5 (z:=bytes (jx e.op)) J J V J J underlying58 underlying9 aQ J J J FW Ll (@length_append _ bs (jx e.op)).symm J (λhn b hb=>gL hn hb) cb (oE bs (jx e.op)) λw5=>?_);refine an 8 J J (Ax (us:=[aX 0]) (cap:=#[.pointer (some ⟨b1,0,none⟩)]) 1 J call207 J (DY e 0 (bs++(jx e.op)) w5 _ _ _ Y hsh nE (ih 0 Y)) cb (λhn b hb=>gL hn hb) λw6=>?_);refine aY [9] 0 (go 2 ?_);refine bG (go 5 ?_);exact ⟨.inr J,_,⟨bx,⟨w6,_,_,_,_⟩::rw⟩,bT J (bM J),aj (.cons _ (.refl _)) (.refl _),⟨w6,J,(by rw [show ((bs++(jx e.op))++kH e 0)=bs++bX e by rw [Gn hsh Y];simp only [append_assoc]])⟩⟩
 refine aC false J (bZ h4) (go 18 ?_);by_cases h7:e.op=2
 ·refine aC true J (bg h7) (go 5 ?_);have htx:=congrArg List.length (H7 (e:=e) Y);refine go 3 ?_;refine aW J (wu [] Tryz.t5 (z:=e.name) J J V J J underlying58 underlying9 aQ J J J (by unfold maxLen;show bs.length+e.name.data.toList.length <= _;omega) (by show bs.length+e.name.data.toList.length <= _;omega) (@length_append _ bs e.name.data.toList).symm J fi cb (oE bs e.name.data.toList) λw7=>?_);refine go 5 ?_;exact ⟨.inr J,_,⟨bx,⟨w7,_,_,_,_⟩::rw⟩,bT J (bM J),aj (.cons _ (.refl _)) (.refl _),⟨w7,J,(by rw [show (bs++e.name.data.toList)=bs++bX e by rw [H7 Y]])⟩⟩
 refine aC false J (bZ h7) (go 7 ?_);obtain ⟨htn,hn0⟩:=QE (e:=e) Y hsh;have htx:=congrArg List.length htn;have hnum:e.num=((e.num.toNat:Nat):Int):=Y;refine go 2 ?_;refine aF J (cI (bv hnum) (ca [] isAgg3 sizeOf3)) ?_;refine aW J (o9 1 J call208 J (OY e.num.toNat bs v _ _ Y Y) cb fi λw8=>?_);refine go 4 ?_;exact ⟨.inr J,_,⟨bx,⟨w8,_,_,_,_⟩::rw⟩,bT J (bM J),aj (.cons _ (.refl _)) (.refl _),⟨w8,J,(by rw [show (bs++cp e.num.toNat)=bs++bX e by rw [htn]])⟩⟩
def Ut{e:aP}(h:e.sane):fit e.num:=by cases e;rw [aP.sane] at h;exact h.1
def Hw:∀(N:Nat)(e:aP),e.nodes <= N -> N <= 1000000000 -> dc e=true -> e.sane -> ∀(bs:List UInt8)(v:aM)(bx:List aT)(rw:List aS),bs.length+(bX e).length <= 100000000000000 -> aR prog 194 [cC (au v),.agg (bb e)] (aO v) ⟨bx,⟨v,5,1,bs.length,cT bs⟩::rw⟩ λt s'=>∃v',t=au v' /\ s'=⟨bx,⟨v',5,1,(bs++bX e).length,cT (bs++bX e)⟩::rw⟩
 |0,e,h,_,_,_,_,_,_,_,_=>pd
 |N+1,e,h,hN,hsh,hs,bs,v,bx,rw,hb=>NN e bs v bx rw hsh Y (Ut hs) hb (λk hk bs v bx rw hb=>Hw N e.args[k] pH Y ((kj hsh).2 k hk) (oB _ (Dv hs).2 _ (getElem_mem _)) bs v bx rw hb)
def zm(e:aP):List UInt8:=if eV e then bX e else []
def UU{e:aP}(h:eV e=true):dc e=true:=by unfold eV at h;rw [cz] at h;exact h.1
def Rt(e:aP)(hN:e.nodes <= 1000000000)(hs:e.sane)(hL:eV e=true -> (bX e).length <= 100000000000000)(s:aH):aR prog 173 [cC (.agg (bb e))] [] s λt s'=>t=cB (bytes (zm e)) /\ s'=s:=by
 obtain ⟨bx,rw⟩:=s;refine bN 9 func173 ?_;refine go 10 λb1=>?_;rcases bq (eV e) with h1|h1
 ·refine dl 0 J call163 J (vh e hN hs _) h1 (go 8 ?_);have hv:eV e=true:=h1;have hsh:=UU hv;have htl:=hL hv;refine sy 5 1 ?_;refine go 1 ?_;refine aW J (o9 0 J call194 J (Hw _ e (bW _) Y hsh hs [] _ _ _ (by simp only [length_nil];omega)) oU (λ_ b hb=>B') λw2=>?_);refine sQ 7 J ?_;refine aF J (cI (fH (by rw [dw])) (kS J J J)) (go 4 ?_);exact aw (s':=⟨bx,rw⟩) J cM ⟨lH (by unfold zm;rw [if_pos hv]),J⟩
 refine dl 0 J call163 J (vh e hN hs _) h1 (go 11 ?_);exact aw (s':=⟨bx,rw⟩) J cM ⟨lH (by unfold zm;rw [if_neg (by rw [h1];decide)];rfl),J⟩
def ij{α:Type}(f:α -> Bool):List α -> Int
 |[]=>-1
 |x::l=>if f x then 0 else if ij f l<0 then -1 else ij f l+1
def uB{α:Type}(f:α -> Bool):∀(l:List α)(k:Nat)(h:k<l.length),(∀i (h:i<l.length),i<k -> f l[i]=false) -> f l[k]=true -> ij f l=k
 |x::l,0,_,_,h1=>by simp only [EB] at h1;rw [ij,if_pos h1];rfl
 |x::l,k+1,h,h0,h1=>by
  have hx:f x=false:=h0 0 aK Y;have ih:=uB f l k iW (λi hi hik=>h0 (i+1) oJ Y) q';rw [ij,hx,if_neg V,ih,if_neg Y];omega
def tl{α:Type}(f:α -> Bool):∀(l:List α),(∀i (h:i<l.length),f l[i]=false) -> ij f l=-1
 |[],_=>rfl
 |x::l,h0=>by
  have hx:f x=false:=h0 0 aK;have ih:=tl f l (λi hi=>h0 (i+1) oJ);rw [ij,hx,if_neg V,ih,if_pos V]
def ra{α:Type}(f:α -> Bool):∀(l:List α),(0 <= ij f l↔l.any f=true) /\ -1 <= ij f l
 |[]=>⟨by simp [ij],by rw [ij];omega⟩
 |x::l=>by
  have ih:=ra f l;rw [ij,List.any_cons];cases hx:f x with
  |true=>simp
  |false=>
   rw [if_neg V,Bool.false_or];split
   ·rename_i hl;refine ⟨⟨λh=>absurd h V,λh=>?_⟩,V⟩;have:=ih.1.2 h;omega
   exact ⟨⟨λh=>ih.1.1 Y,λh=>by have:=ih.1.2 h;omega⟩,Y⟩
def wC{α:Type}{f:α -> Bool}{l:List α}(h:¬0 <= ij f l):l.any f=false:=jg.2 λhh=>h ((ra f l).1.2 hh)
def JO{α:Type}(f:α -> Bool)(l:List α):(l.any λx=>!f x)=!l.all f:=by
 induction l with
 |nil=>rfl
 |cons x l ih=>rw [List.any_cons,uz,ih,Bool.not_and]
def CK(r:cD):okRefB r=(br r.name && decide (r.index.length <= 1) && !r.index.any λe=>!eV e):=by
 obtain ⟨n,ix⟩:=r
 match ix with
 |[]=>unfold okRefB;simp
 |[e]=>unfold okRefB;simp
 |_::_::_=>unfold okRefB;simp
def ep(s:aL):Bool:=fJ s && !br s.name
def fS(s:aL):Bool:=!fJ s && !decide (s.name=ax)
def oo(s:aL):Bool:=fV s && !eV s.expr
def uc(s:aL):Bool:=!fV s && !jT s.expr
def uG(s:aL):Bool:=fh s && !okRefB s.ref
def uW(s:aL):Bool:=!fh s && !j6 s.ref
def sZ(s:aL):Bool:=!f_ s && !decide (s.args.length=0)
def qQ(s:aL):Bool:=!fU s && !decide (s.thn.length=0)
def il(s:aL):Bool:=decide (s.kind=7)
def jD(s:aL):Bool:=!il s && !decide (s.els.length=0)
def aa(D:Nat)(s:aL):Bool:=!fU s||(cn (D+1) s.thn && (decide (s.els.length=0)||cn (D+1) s.els))
def jc(D:Nat)(s:aL):fC D s=(!f9 s && !ep s && !fS s && !oo s && !uc s && !uG s && !uW s && !sZ s && !qQ s && !jD s && s.args.all eh && aa D s):=by
 rw [p_];have h1:qn s=(f9 s||ep s||fS s||oo s||uc s||uG s||uW s||sZ s):=J;have h2:il s=true -> fU s=true:=λh=>by unfold il at h;unfold fU;simp only [decide_eq_true_eq] at h⊢;omega
 have h3:tp D s=(!qQ s && !jD s && aa D s):=by
  unfold tp qQ jD aa;rw [show decide (s.kind=7)=il s from rfl];cases hB:fU s with
  |false=>
   have hI:il s=false:=by cases h:il s with|false=>rfl|true=>rw [h2 h] at hB;cases hB
   rw [hI];cases decide (s.thn.length=0)<;>cases decide (s.els.length=0)<;>rfl
  |true=>cases il s<;>cases decide (s.thn.length=0)<;>cases decide (s.els.length=0)<;>cases cn (D+1) s.thn<;>cases cn (D+1) s.els<;>rfl
 rw [h1,h3];generalize aa D s=x;generalize s.args.all eh=y;cases f9 s<;>cases ep s<;>cases fS s<;>cases oo s<;>cases uc s<;>(try rfl)<;>cases uG s<;>cases uW s<;>cases sZ s<;>(try rfl)<;>cases qQ s<;>cases jD s<;>cases y<;>cases x<;>rfl
def sE(D:Nat):∀l:List aL,cn D l=(decide (D<24) && l.all (fC D))
 |[]=>by rw [cn,List.all_nil,Bool.and_true]
 |s::l=>by
  rw [cn,sE D l,uz];cases fC D s<;>cases decide (D<24)<;>rfl
def Sr(g:bE -> Bool)(l:List bE)(F:FuncId)(cap:Array aM)(s:aH)(hl:l.length <= 1000000000)(hcf:∀args w,(callFunc F args).run prog w=.ok (.enter F args) w)(hc:∀k (h:k<l.length),aR prog F (cC (.agg (ac l[k]))::cap.toList.map fy) [] s λt s'=>t=ap (g l[k]) /\ s'=s):aR prog 118 [cC (.c (aB ac l)),au (.func (.func F) #[] cap)] [] s λt s'=>t=bB (ij g l) /\ s'=s:=by
 obtain ⟨bx,rw⟩:=s;refine bN 19 func118 ?_;refine go 14 ?_;refine jO (λk=>∀i (h:i<l.length),i<k -> g l[i]=false) (l.length) 8 (λk=>[(0,cC (.c (aB ac l))),(1,au (.func (.func F) #[] cap)),(7,aX l.length)]) lY (ao J) λk hk hvk=>?_;replace hvk:∀i (h:i<l.length),i<k -> g l[i]=false:=hvk
 try dsimp only
 refine go 2 ?_;by_cases h1:((k:Nat):Int)<((l.length:Nat):Int)
 ·refine aC true J (ck h1) (go 19 ?_);refine aF J (bS ac ac l mI (λ_=>J) k J J J J Y V runUnderlying25 sizeOf67) (go 1 ?_);rcases bq (g l[k]) with h3|h3
  ·refine oO 0 J hcf J (hc k Y) h3 ?_;refine go 15 ?_;exact aw (s':=⟨bx,rw⟩) J dm ⟨fI (uB g l k Y (λi hi hik=>hvk i hi hik) h3),J⟩
  refine oO 0 J hcf J (hc k Y) h3 ?_;refine go 7 ?_;refine bJ J (go 2 ?_);exact ⟨Y,ww,(av J (bv Y) (ao J))⟩
 refine aC false J (cg h1) (go 15 ?_);exact aw (s':=⟨bx,rw⟩) J dm ⟨fI (tl g l uI),J⟩
def KR(g:bE -> Bool)(l:List bE)(F:FuncId)(cap:Array aM)(s:aH)(hl:l.length <= 1000000000)(hcf:∀args w,(callFunc F args).run prog w=.ok (.enter F args) w)(hc:∀k (h:k<l.length),aR prog F (cC (.agg (ac l[k]))::cap.toList.map fy) [] s λt s'=>t=ap (g l[k]) /\ s'=s):aR prog 89 [cC (.c (aB ac l)),au (.func (.func F) #[] cap)] [] s λt s'=>t=ap (l.any g) /\ s'=s:=by
 obtain ⟨bx,rw⟩:=s;refine bN 9 func89 ?_;refine go 9 ?_;refine jR 0 J call118 J (Sr g l F cap _ hl hcf hc) ?_;by_cases h1:(0:Int) <= ij g l
 ·refine aC true J (mH h1) (go 4 ?_);exact aw (s':=⟨bx,rw⟩) J dm ⟨bU ((ra g l).1.1 h1),J⟩
 refine aC false J (nP h1) (go 4 ?_);exact aw (s':=⟨bx,rw⟩) J dm ⟨bU (wC h1),J⟩
def Sz(g:bp -> Bool)(l:List bp)(F:FuncId)(cap:Array aM)(s:aH)(hl:l.length <= 1000000000)(hcf:∀args w,(callFunc F args).run prog w=.ok (.enter F args) w)(hc:∀k (h:k<l.length),aR prog F (cC (.agg (cG l[k]))::cap.toList.map fy) [] s λt s'=>t=ap (g l[k]) /\ s'=s):aR prog 141 [cC (.c (aB cG l)),au (.func (.func F) #[] cap)] [] s λt s'=>t=bB (ij g l) /\ s'=s:=by
 obtain ⟨bx,rw⟩:=s;refine bN 19 func141 ?_;refine go 14 ?_;refine jO (λk=>∀i (h:i<l.length),i<k -> g l[i]=false) (l.length) 8 (λk=>[(0,cC (.c (aB cG l))),(1,au (.func (.func F) #[] cap)),(7,aX l.length)]) lY (ao J) λk hk hvk=>?_;replace hvk:∀i (h:i<l.length),i<k -> g l[i]=false:=hvk
 try dsimp only
 refine go 2 ?_;by_cases h1:((k:Nat):Int)<((l.length:Nat):Int)
 ·refine aC true J (ck h1) (go 19 ?_);refine aF J (bS cG cG l gx (λ_=>J) k J J J J Y V runUnderlying64 sizeOf69) (go 1 ?_);rcases bq (g l[k]) with h3|h3
  ·refine oO 0 J hcf J (hc k Y) h3 ?_;refine go 15 ?_;exact aw (s':=⟨bx,rw⟩) J dm ⟨fI (uB g l k Y (λi hi hik=>hvk i hi hik) h3),J⟩
  refine oO 0 J hcf J (hc k Y) h3 ?_;refine go 7 ?_;refine bJ J (go 2 ?_);exact ⟨Y,ww,(av J (bv Y) (ao J))⟩
 refine aC false J (cg h1) (go 15 ?_);exact aw (s':=⟨bx,rw⟩) J dm ⟨fI (tl g l uI),J⟩
def JK(g:bp -> Bool)(l:List bp)(F:FuncId)(cap:Array aM)(s:aH)(hl:l.length <= 1000000000)(hcf:∀args w,(callFunc F args).run prog w=.ok (.enter F args) w)(hc:∀k (h:k<l.length),aR prog F (cC (.agg (cG l[k]))::cap.toList.map fy) [] s λt s'=>t=ap (g l[k]) /\ s'=s):aR prog 119 [cC (.c (aB cG l)),au (.func (.func F) #[] cap)] [] s λt s'=>t=ap (l.any g) /\ s'=s:=by
 obtain ⟨bx,rw⟩:=s;refine bN 9 func119 ?_;refine go 9 ?_;refine jR 0 J call141 J (Sz g l F cap _ hl hcf hc) ?_;by_cases h1:(0:Int) <= ij g l
 ·refine aC true J (mH h1) (go 4 ?_);exact aw (s':=⟨bx,rw⟩) J dm ⟨bU ((ra g l).1.1 h1),J⟩
 refine aC false J (nP h1) (go 4 ?_);exact aw (s':=⟨bx,rw⟩) J dm ⟨bU (wC h1),J⟩
def Rk(g:aL -> Bool)(l:List aL)(F:FuncId)(cap:Array aM)(s:aH)(hl:l.length <= 1000000000)(hcf:∀args w,(callFunc F args).run prog w=.ok (.enter F args) w)(hc:∀k (h:k<l.length),aR prog F (cC (.agg (dW l[k]))::cap.toList.map fy) [] s λt s'=>t=ap (g l[k]) /\ s'=s):aR prog 161 [cC (.c (aB encS l)),au (.func (.func F) #[] cap)] [] s λt s'=>t=bB (ij g l) /\ s'=s:=by
 obtain ⟨bx,rw⟩:=s;refine bN 19 func161 ?_;refine go 14 ?_;refine jO (λk=>∀i (h:i<l.length),i<k -> g l[i]=false) (l.length) 8 (λk=>[(0,cC (.c (aB encS l))),(1,au (.func (.func F) #[] cap)),(7,aX l.length)]) lY (ao J) λk hk hvk=>?_;replace hvk:∀i (h:i<l.length),i<k -> g l[i]=false:=hvk
 try dsimp only
 refine go 2 ?_;by_cases h1:((k:Nat):Int)<((l.length:Nat):Int)
 ·refine aC true J (ck h1) (go 19 ?_);refine aF J (bS encS dW l nj mg k J J J J Y V runUnderlying65 sizeOf120) (go 1 ?_);rcases bq (g l[k]) with h3|h3
  ·refine oO 0 J hcf J (hc k Y) h3 ?_;refine go 15 ?_;exact aw (s':=⟨bx,rw⟩) J dm ⟨fI (uB g l k Y (λi hi hik=>hvk i hi hik) h3),J⟩
  refine oO 0 J hcf J (hc k Y) h3 ?_;refine go 7 ?_;refine bJ J (go 2 ?_);exact ⟨Y,ww,(av J (bv Y) (ao J))⟩
 refine aC false J (cg h1) (go 15 ?_);exact aw (s':=⟨bx,rw⟩) J dm ⟨fI (tl g l uI),J⟩
def Jc(g:aL -> Bool)(l:List aL)(F:FuncId)(cap:Array aM)(s:aH)(hl:l.length <= 1000000000)(hcf:∀args w,(callFunc F args).run prog w=.ok (.enter F args) w)(hc:∀k (h:k<l.length),aR prog F (cC (.agg (dW l[k]))::cap.toList.map fy) [] s λt s'=>t=ap (g l[k]) /\ s'=s):aR prog 142 [cC (.c (aB encS l)),au (.func (.func F) #[] cap)] [] s λt s'=>t=ap (l.any g) /\ s'=s:=by
 obtain ⟨bx,rw⟩:=s;refine bN 9 func142 ?_;refine go 9 ?_;refine jR 0 J call161 J (Rk g l F cap _ hl hcf hc) ?_;by_cases h1:(0:Int) <= ij g l
 ·refine aC true J (mH h1) (go 4 ?_);exact aw (s':=⟨bx,rw⟩) J dm ⟨bU ((ra g l).1.1 h1),J⟩
 refine aC false J (nP h1) (go 4 ?_);exact aw (s':=⟨bx,rw⟩) J dm ⟨bU (wC h1),J⟩
def Ug(g:cK -> Bool)(l:List cK)(F:FuncId)(cap:Array aM)(s:aH)(hl:l.length <= 1000000000)(hcf:∀args w,(callFunc F args).run prog w=.ok (.enter F args) w)(hc:∀k (h:k<l.length),aR prog F (cC (.agg (dA l[k]))::cap.toList.map fy) [] s λt s'=>t=ap (g l[k]) /\ s'=s):aR prog 187 [cC (.c (aB dA l)),au (.func (.func F) #[] cap)] [] s λt s'=>t=bB (ij g l) /\ s'=s:=by
 obtain ⟨bx,rw⟩:=s;refine bN 19 func187 ?_;refine go 14 ?_;refine jO (λk=>∀i (h:i<l.length),i<k -> g l[i]=false) (l.length) 8 (λk=>[(0,cC (.c (aB dA l))),(1,au (.func (.func F) #[] cap)),(7,aX l.length)]) lY (ao J) λk hk hvk=>?_;replace hvk:∀i (h:i<l.length),i<k -> g l[i]=false:=hvk
 try dsimp only
 refine go 2 ?_;by_cases h1:((k:Nat):Int)<((l.length:Nat):Int)
 ·refine aC true J (ck h1) (go 19 ?_);refine aF J (bS dA dA l mj (λ_=>J) k J J J J Y V runUnderlying118 sizeOf135) (go 1 ?_);rcases bq (g l[k]) with h3|h3
  ·refine oO 0 J hcf J (hc k Y) h3 ?_;refine go 15 ?_;exact aw (s':=⟨bx,rw⟩) J dm ⟨fI (uB g l k Y (λi hi hik=>hvk i hi hik) h3),J⟩
  refine oO 0 J hcf J (hc k Y) h3 ?_;refine go 7 ?_;refine bJ J (go 2 ?_);exact ⟨Y,ww,(av J (bv Y) (ao J))⟩
 refine aC false J (cg h1) (go 15 ?_);exact aw (s':=⟨bx,rw⟩) J dm ⟨fI (tl g l uI),J⟩
def Aj(g:cK -> Bool)(l:List cK)(F:FuncId)(cap:Array aM)(s:aH)(hl:l.length <= 1000000000)(hcf:∀args w,(callFunc F args).run prog w=.ok (.enter F args) w)(hc:∀k (h:k<l.length),aR prog F (cC (.agg (dA l[k]))::cap.toList.map fy) [] s λt s'=>t=ap (g l[k]) /\ s'=s):aR prog 167 [cC (.c (aB dA l)),au (.func (.func F) #[] cap)] [] s λt s'=>t=ap (l.any g) /\ s'=s:=by
 obtain ⟨bx,rw⟩:=s;refine bN 9 func167 ?_;refine go 9 ?_;refine jR 0 J call187 J (Ug g l F cap _ hl hcf hc) ?_;by_cases h1:(0:Int) <= ij g l
 ·refine aC true J (mH h1) (go 4 ?_);exact aw (s':=⟨bx,rw⟩) J dm ⟨bU ((ra g l).1.1 h1),J⟩
 refine aC false J (nP h1) (go 4 ?_);exact aw (s':=⟨bx,rw⟩) J dm ⟨bU (wC h1),J⟩
def Ty(g:aP -> Bool)(l:List aP)(F:FuncId)(cap:Array aM)(s:aH)(hl:l.length <= 1000000000)(hcf:∀args w,(callFunc F args).run prog w=.ok (.enter F args) w)(hc:∀k (h:k<l.length),aR prog F (cC (.agg (bb l[k]))::cap.toList.map fy) [] s λt s'=>t=ap (g l[k]) /\ s'=s):aR prog 201 [cC (.c (aB bR l)),au (.func (.func F) #[] cap)] [] s λt s'=>t=bB (ij g l) /\ s'=s:=by
 obtain ⟨bx,rw⟩:=s;refine bN 19 func201 ?_;refine go 14 ?_;refine jO (λk=>∀i (h:i<l.length),i<k -> g l[i]=false) (l.length) 8 (λk=>[(0,cC (.c (aB bR l))),(1,au (.func (.func F) #[] cap)),(7,aX l.length)]) lY (ao J) λk hk hvk=>?_;replace hvk:∀i (h:i<l.length),i<k -> g l[i]=false:=hvk
 try dsimp only
 refine go 2 ?_;by_cases h1:((k:Nat):Int)<((l.length:Nat):Int)
 ·refine aC true J (ck h1) (go 19 ?_);refine aF J (bS bR bb l fw ei k J J J J Y V runUnderlying85 sizeOf87) (go 1 ?_);rcases bq (g l[k]) with h3|h3
  ·refine oO 0 J hcf J (hc k Y) h3 ?_;refine go 15 ?_;exact aw (s':=⟨bx,rw⟩) J dm ⟨fI (uB g l k Y (λi hi hik=>hvk i hi hik) h3),J⟩
  refine oO 0 J hcf J (hc k Y) h3 ?_;refine go 7 ?_;refine bJ J (go 2 ?_);exact ⟨Y,ww,(av J (bv Y) (ao J))⟩
 refine aC false J (cg h1) (go 15 ?_);exact aw (s':=⟨bx,rw⟩) J dm ⟨fI (tl g l uI),J⟩
def S8(g:aP -> Bool)(l:List aP)(F:FuncId)(cap:Array aM)(s:aH)(hl:l.length <= 1000000000)(hcf:∀args w,(callFunc F args).run prog w=.ok (.enter F args) w)(hc:∀k (h:k<l.length),aR prog F (cC (.agg (bb l[k]))::cap.toList.map fy) [] s λt s'=>t=ap (g l[k]) /\ s'=s):aR prog 185 [cC (.c (aB bR l)),au (.func (.func F) #[] cap)] [] s λt s'=>t=ap (l.any g) /\ s'=s:=by
 obtain ⟨bx,rw⟩:=s;refine bN 9 func185 ?_;refine go 9 ?_;refine jR 0 J call201 J (Ty g l F cap _ hl hcf hc) ?_;by_cases h1:(0:Int) <= ij g l
 ·refine aC true J (mH h1) (go 4 ?_);exact aw (s':=⟨bx,rw⟩) J dm ⟨bU ((ra g l).1.1 h1),J⟩
 refine aC false J (nP h1) (go 4 ?_);exact aw (s':=⟨bx,rw⟩) J dm ⟨bU (wC h1),J⟩
def oy(x:aG)(hx:x.size <= 4611686018427387904)(s:aH):aR prog 117 [cC (cB x)] [] s λt s'=>t=ap (br x) /\ s'=s:=by
 obtain ⟨bx,rw⟩:=s;refine bN 35 func117 ?_;refine go 8 ?_;refine aW J (za J J V J underlying9 underlying58 underlying5 JZ (N:=x.data.toList.length) J (cs:=cT x.data.toList) J ?_);refine aW J (Cy 0 [] J J V call94 J J (λm=>B3 x.data.toList m _) dL dL (λ_=>dL) ?_);rintro _ _ ⟨(⟨tl1,hlx1,rfl,htl1⟩|⟨p1,aa,hlx1,rfl,he1⟩),rfl⟩
 ·refine go 12 ?_;refine aC true J ge (go 3 ?_);by_cases h2:((tl1.length:Nat):Int)=2
  ·refine aC true J (bg h2) (go 3 ?_);refine aF J (bS dO dO tl1 kB (λ_=>J) 0 J J J J Y V runUnderlying139 sizeOf154) (go 2 ?_);by_cases h3:((tl1[0].kind:Nat):Int)=1
   ·refine aC true J (bg h3) (go 3 ?_);refine aF J (bS dO dO tl1 kB (λ_=>J) 0 J J J J Y V runUnderlying139 sizeOf154) (go 3 ?_);by_cases h4:tl1[0].text=x
    ·refine aF J (eo true J J J (nA h4)) (go 5 ?_);exact aw (s':=⟨bx,rw⟩) J dm ⟨bU ((xC hlx1).1 ⟨Y,Y,Y,h4⟩),J⟩
    refine aF J (eo false J J J (m9 h4)) (go 5 ?_);exact aw (s':=⟨bx,rw⟩) J dm ⟨bU (jg.2 λhh=>LW),J⟩
   refine aC false J (bZ h3) (go 13 ?_);exact aw (s':=⟨bx,rw⟩) J dm ⟨bU (jg.2 λhh=>Jt),J⟩
  refine aC false J (bZ h2) (go 20 ?_);exact aw (s':=⟨bx,rw⟩) J dm ⟨bU (jg.2 λhh=>IJ),J⟩
 refine go 12 ?_;refine aC false J (bZ Y) (go 24 ?_);exact aw (s':=⟨bx,rw⟩) J dm ⟨bU (JM hlx1),J⟩
def C7(e:aP)(s:aH):aR prog 164 [.agg (bb e)] [] s λt s'=>t=ap (jT e) /\ s'=s:=by
 obtain ⟨bx,rw⟩:=s;refine bN 22 func164 ?_;refine go 10 λb1=>?_;by_cases h1:e.op=0
 ·refine aC true J (bg h1) (go 3 ?_);by_cases h2:e.num=0
  ·refine aC true J (bg h2) (go 4 ?_);by_cases h3:e.name=ax
   ·refine aF J (eo true J J J (nA h3)) (go 5 ?_);by_cases h4:((e.args.length:Nat):Int)=0
    ·refine aC true J (bg h4) (go 5 ?_);exact aw (s':=⟨bx,rw⟩) J cM ⟨bU Hx,J⟩
    refine aC false J (bZ h4) (go 5 ?_);exact aw (s':=⟨bx,rw⟩) J cM ⟨bU (jg.2 λhh=>I6),J⟩
   refine aF J (eo false J J J (m9 h3)) (go 11 ?_);exact aw (s':=⟨bx,rw⟩) J cM ⟨bU (jg.2 λhh=>Lv),J⟩
  refine aC false J (bZ h2) (go 16 ?_);exact aw (s':=⟨bx,rw⟩) J cM ⟨bU (jg.2 λhh=>Le),J⟩
 refine aC false J (bZ h1) (go 20 ?_);exact aw (s':=⟨bx,rw⟩) J cM ⟨bU (jg.2 λhh=>Jo),J⟩
def BA(r:cD)(s:aH):aR prog 166 [.agg (encR r)] [] s λt s'=>t=ap (j6 r) /\ s'=s:=by
 obtain ⟨bx,rw⟩:=s;refine bN 12 func166 ?_;refine go 10 λb1=>?_;by_cases h1:r.name=ax
 ·refine aF J (eo true J J J (nA h1)) (go 4 ?_);by_cases h2:((r.index.length:Nat):Int)=0
  ·refine aC true J (bg h2) (go 5 ?_);exact aw (s':=⟨bx,rw⟩) J cM ⟨bU GC,J⟩
  refine aC false J (bZ h2) (go 5 ?_);exact aw (s':=⟨bx,rw⟩) J cM ⟨bU (jg.2 λhh=>KF),J⟩
 refine aF J (eo false J J J (m9 h1)) (go 10 ?_);exact aw (s':=⟨bx,rw⟩) J cM ⟨bU (jg.2 λhh=>I8),J⟩
def Pg(e:aP)(hN:e.nodes <= 1000000000)(hs:e.sane)(s:aH):aR prog 186 [cC (.agg (bb e))] [] s λt s'=>t=ap (!eV e) /\ s'=s:=by
 obtain ⟨bx,rw⟩:=s;refine bN 6 func186 ?_;refine go 9 λb1=>?_;rcases bq (eV e) with h1|h1;rotate_left;all_goals
  refine dl 0 J call163 J (vh e hN hs _) h1 (go 5 ?_);exact aw (s':=⟨bx,rw⟩) J cM ⟨bU uM,J⟩
def LM(r:cD)(hs:r.sane)(hN:dD r.index <= 900000000)(s:aH):aR prog 165 [cC (.agg (encR r))] [] s λt s'=>t=ap (okRefB r) /\ s'=s:=by
 obtain ⟨bx,rw⟩:=s;refine bN 18 func165 ?_;refine go 10 λb1=>?_;rcases bq (br r.name) with h1|h1
 ·refine dl 0 J call117 J (oy r.name hs.1 _) h1 (go 4 ?_);by_cases h2:((r.index.length:Nat):Int) <= 1
  ·refine aC true J (vV h2) (go 4 ?_);rcases bq (r.index.any λe=>!eV e) with h3|h3;rotate_left;all_goals
    refine dl 0 J call185 J (S8 (λe=>!eV e) r.index 186 #[] _ Y call186 (λk hk=>Pg _ (by have:=oG r.index k hk;omega) (oB _ hs.2 _ (getElem_mem _)) _)) h3 (go 6 ?_);exact aw (s':=⟨bx,rw⟩) J cM ⟨bU (by rw [CK,h1,decide_eq_true (show r.index.length <= 1 by omega),h3];rfl),J⟩
  refine aC false J (xJ h2) (go 11 ?_);exact aw (s':=⟨bx,rw⟩) J cM ⟨bU (by rw [CK,h1,decide_eq_false (show ¬r.index.length <= 1 by omega)];rfl),J⟩
 refine dl 0 J call117 J (oy r.name hs.1 _) h1 (go 16 ?_);exact aw (s':=⟨bx,rw⟩) J cM ⟨bU (by rw [CK,h1];rfl),J⟩
def R6(a:cK)(hs:a.sane)(hw:a.wt <= 900000000)(s:aH):aR prog 169 [cC (.agg (dA a))] [] s λt s'=>t=ap (eh a) /\ s'=s:=by
 obtain ⟨bx,rw⟩:=s;unfold cK.wt cD.wt at hw;refine bN 21 func169 ?_;refine go 10 λb1=>?_;rcases bq (a.mutex) with h1|h1
 ·refine aF J (cI (bF h1) (ca [] isAgg4 sizeOf4)) (go 7 ?_);rcases bq (jT a.expr) with h3|h3
  ·refine qE J call164 J (C7 a.expr _) h3 (go 3 ?_);rcases bq (okRefB a.ref) with h4|h4;rotate_left;all_goals
    refine dl 0 J call165 J (LM a.ref hs.1 Y _) h4 (go 6 ?_);exact aw (s':=⟨bx,rw⟩) J cM ⟨bU (by rw [wj h1,h4,h3];first|rfl|(cases okRefB a.ref<;>rfl)),rfl⟩
  refine qE J call164 J (C7 a.expr _) h3 (go 10 ?_);exact aw (s':=⟨bx,rw⟩) J cM ⟨bU (by rw [wj h1,h3];first|rfl|(cases okRefB a.ref<;>rfl)),rfl⟩
 refine aF J (cI (bF h1) (ca [] isAgg4 sizeOf4)) (go 9 ?_);rcases bq (j6 a.ref) with h6|h6
 ·refine qE J call166 J (BA a.ref _) h6 (go 3 ?_);rcases bq (eV a.expr) with h7|h7;rotate_left;all_goals
   refine dl 0 J call163 J (vh a.expr Y hs.2 _) h7 (go 5 ?_);exact aw (s':=⟨bx,rw⟩) J cM ⟨bU (by rw [wk h1,h6,h7];first|rfl|(cases okRefB a.ref<;>rfl)),rfl⟩
 refine qE J call166 J (BA a.ref _) h6 (go 9 ?_);exact aw (s':=⟨bx,rw⟩) J cM ⟨bU (by rw [wk h1,h6];first|rfl|(cases okRefB a.ref<;>rfl)),rfl⟩
def QC(a:cK)(hs:a.sane)(hw:a.wt <= 900000000)(s:aH):aR prog 168 [cC (.agg (dA a))] [] s λt s'=>t=ap (!eh a) /\ s'=s:=by
 obtain ⟨bx,rw⟩:=s;refine bN 6 func168 ?_;refine go 9 λb1=>?_;rcases bq (eh a) with h1|h1;rotate_left;all_goals
  refine dl 0 J call169 J (R6 a hs hw _) h1 (go 5 ?_);exact aw (s':=⟨bx,rw⟩) J cM ⟨bU uM,J⟩
def UW(x:aL)(s:aH):aR prog 162 [bB x.kind] [] s λt s'=>t=.tup [.agg [bD (fJ x),bD (fV x),bD (fh x),bD (f_ x),bD (fU x),bD (il x)],ap (!f9 x)] /\ s'=s:=by
 obtain ⟨bx,rw⟩:=s;refine bN 27 func162 ?_;refine go 16 λb1=>?_;by_cases h1:x.kind=1
 ·refine aC true J (bg h1) (go 17 ?_);exact ⟨.inr J,_,⟨bx,rw⟩,iP J (cS [] J J isAgg238 sizeOf238 J) (bM J),aj (.cons _ (.refl _)) (.refl _),IV,J⟩
 refine aC false J (bZ h1) (go 5 ?_);by_cases h5:x.kind=2
 ·refine aC true J (bg h5) (go 14 ?_);exact ⟨.inr J,_,⟨bx,rw⟩,iP J (cS [] J J isAgg238 sizeOf238 J) (bM J),aj (.cons _ (.refl _)) (.refl _),IV,J⟩
 refine aC false J (bZ h5) (go 7 ?_);by_cases h8:x.kind=3
 ·refine aC true J (bg h8) (go 17 ?_);exact ⟨.inr J,_,⟨bx,rw⟩,iP J (cS [] J J isAgg238 sizeOf238 J) (bM J),aj (.cons _ (.refl _)) (.refl _),JF,J⟩
 refine aC false J (bZ h8) (go 5 ?_);by_cases h12:x.kind=4
 ·refine aC true J (bg h12) (go 14 ?_);exact ⟨.inr J,_,⟨bx,rw⟩,iP J (cS [] J J isAgg238 sizeOf238 J) (bM J),aj (.cons _ (.refl _)) (.refl _),JF,J⟩
 refine aC false J (bZ h12) (go 7 ?_);by_cases h15:x.kind=5
 ·refine aC true J (bg h15) (go 17 ?_);exact ⟨.inr J,_,⟨bx,rw⟩,iP J (cS [] J J isAgg238 sizeOf238 J) (bM J),aj (.cons _ (.refl _)) (.refl _),H9,J⟩
 refine aC false J (bZ h15) (go 5 ?_);by_cases h19:x.kind=6
 ·refine aC true J (bg h19) (go 14 ?_);exact ⟨.inr J,_,⟨bx,rw⟩,iP J (cS [] J J isAgg238 sizeOf238 J) (bM J),aj (.cons _ (.refl _)) (.refl _),H9,J⟩
 refine aC false J (bZ h19) (go 6 ?_);by_cases h22:x.kind=7
 ·refine aC true J (bg h22) (go 14 ?_);exact ⟨.inr J,_,⟨bx,rw⟩,iP J (cS [] J J isAgg238 sizeOf238 J) (bM J),aj (.cons _ (.refl _)) (.refl _),(by rw [show fJ x=false by unfold fJ;first|exact decide_eq_true Y|exact decide_eq_false Y,show fV x=true by unfold fV;first|exact decide_eq_true Y|exact decide_eq_false Y,show fh x=false by unfold fh;first|exact decide_eq_true Y|exact decide_eq_false Y,show f_ x=false by unfold f_;first|exact decide_eq_true Y|exact decide_eq_false Y,show fU x=true by unfold fU;first|exact decide_eq_true Y|exact decide_eq_false Y,show il x=true by unfold il;first|exact decide_eq_true Y|exact decide_eq_false Y,show f9 x=false by unfold f9;first|exact decide_eq_true Y|exact decide_eq_false Y];rfl),J⟩
 refine aC false J (bZ h22) (go 6 ?_);by_cases h25:x.kind=8
 ·refine aC true J (bg h25) (go 14 ?_);exact ⟨.inr J,_,⟨bx,rw⟩,iP J (cS [] J J isAgg238 sizeOf238 J) (bM J),aj (.cons _ (.refl _)) (.refl _),(by rw [show fJ x=false by unfold fJ;first|exact decide_eq_true Y|exact decide_eq_false Y,show fV x=true by unfold fV;first|exact decide_eq_true Y|exact decide_eq_false Y,show fh x=false by unfold fh;first|exact decide_eq_true Y|exact decide_eq_false Y,show f_ x=false by unfold f_;first|exact decide_eq_true Y|exact decide_eq_false Y,show fU x=true by unfold fU;first|exact decide_eq_true Y|exact decide_eq_false Y,show il x=false by unfold il;first|exact decide_eq_true Y|exact decide_eq_false Y,show f9 x=false by unfold f9;first|exact decide_eq_true Y|exact decide_eq_false Y];rfl),J⟩
 refine aC false J (bZ h25) (go 6 ?_);by_cases h28:x.kind=9
 ·refine aC true J (bg h28) (go 14 ?_);exact ⟨.inr J,_,⟨bx,rw⟩,iP J (cS [] J J isAgg238 sizeOf238 J) (bM J),aj (.cons _ (.refl _)) (.refl _),(by rw [show fJ x=false by unfold fJ;first|exact decide_eq_true Y|exact decide_eq_false Y,show fV x=false by unfold fV;first|exact decide_eq_true Y|exact decide_eq_false Y,show fh x=false by unfold fh;first|exact decide_eq_true Y|exact decide_eq_false Y,show f_ x=false by unfold f_;first|exact decide_eq_true Y|exact decide_eq_false Y,show fU x=false by unfold fU;first|exact decide_eq_true Y|exact decide_eq_false Y,show il x=false by unfold il;first|exact decide_eq_true Y|exact decide_eq_false Y,show f9 x=false by unfold f9;first|exact decide_eq_true Y|exact decide_eq_false Y];rfl),J⟩
 refine aC false J (bZ h28) (go 15 ?_);exact ⟨.inr J,_,⟨bx,rw⟩,iP J (cS [] J J isAgg238 sizeOf238 J) (bM J),aj (.cons _ (.refl _)) (.refl _),(by rw [show fJ x=false by unfold fJ;first|exact decide_eq_true Y|exact decide_eq_false Y,show fV x=false by unfold fV;first|exact decide_eq_true Y|exact decide_eq_false Y,show fh x=false by unfold fh;first|exact decide_eq_true Y|exact decide_eq_false Y,show f_ x=false by unfold f_;first|exact decide_eq_true Y|exact decide_eq_false Y,show fU x=false by unfold fU;first|exact decide_eq_true Y|exact decide_eq_false Y,show il x=false by unfold il;first|exact decide_eq_true Y|exact decide_eq_false Y,show f9 x=true by unfold f9;first|exact decide_eq_true Y|exact decide_eq_false Y];rfl),J⟩
def xG{α:Type}{f:α -> Bool}{l:List α}(h:(l.any λx=>!f x)=true):l.all f=false:=by rw [JO] at h;simpa using h
def nc{α:Type}{f:α -> Bool}{l:List α}(h:(l.any λx=>!f x)=false):l.all f=true:=by rw [JO] at h;simpa using h
def TF(D:Nat)(x:aL)(hs:x.sane)(hw:x.wt <= 900000000)(hD:D <= 1000)(ih1:∀(s:aH),aR prog 121 [cC (.c (aB encS x.thn)),bB (((D:Nat):Int)+1)] [] s λt s'=>t=ap (cn (D+1) x.thn) /\ s'=s)(ih2:∀(s:aH),aR prog 121 [cC (.c (aB encS x.els)),bB (((D:Nat):Int)+1)] [] s λt s'=>t=ap (cn (D+1) x.els) /\ s'=s)(s:aH):aR prog 144 [cC (.agg (dW x)),aX D] [] s λt s'=>t=ap (fC D x) /\ s'=s:=by
 obtain ⟨bx,rw⟩:=s;obtain ⟨hsn,hse,hsr,hsa,hst,hsf⟩:=pz hs;rw [f6] at hw;unfold cD.wt at hw;have hwa:=oj x.args;refine bN 119 func144 ?_;refine go 10 λb1=>?_;refine m4 J call162 J (UW x _) (go 14 λb2=>?_);rcases bq (!f9 x) with h1|h1
 ·refine aF J (cI (bF (oX h1)) (iY J J)) (go 4 ?_);refine m_ [(13,ap (ep x)),(0,cC (.agg (dW x))),(1,aX D),(2,aE b1),(5,aE b2),(6,ap (!f9 x))] ?_ ?_
  ·refine go 2 ?_;rcases bq (fJ x) with h3|h3
   ·refine aF J (cI (bF h3) (ca [] isAgg4 sizeOf4)) (go 3 ?_);rcases bq (br x.name) with h4|h4;rotate_left;all_goals
     refine dl 0 J call117 J (oy x.name hsn _) h4 (go 4 ?_);exact ⟨J,(av J (bF (by unfold ep;rw [h3,h4];rfl)) (ao J))⟩
   refine aF J (cI (bF h3) (ca [] isAgg4 sizeOf4)) (go 8 ?_);exact ⟨J,(av J (bF (by unfold ep;rw [h3];rfl)) (ao J))⟩
  refine iB J (λh5=>?_) (λh5=>?_)
  ·refine go 2 ?_;refine o_ J h5 ?_;refine go 8 ?_;exact aw (s':=⟨bx,rw⟩) J eX ⟨bU (by rw [jc,h5];simp),J⟩
  refine m_ [(13,ap (fS x)),(0,cC (.agg (dW x))),(1,aX D),(2,aE b1),(5,aE b2),(6,ap (!f9 x))] ?_ ?_
  ·refine go 2 ?_;rcases bq (fJ x) with h6|h6
   ·refine aF J (cI (bF h6) (ca [] isAgg4 sizeOf4)) (go 8 ?_);exact ⟨J,(av J (bF (by unfold fS;rw [h6];rfl)) (ao J))⟩
   refine aF J (cI (bF h6) (ca [] isAgg4 sizeOf4)) (go 4 ?_);by_cases h7:x.name=ax
   ·refine aF J (eo false J J J (yy h7)) (go 3 ?_);exact ⟨J,(av J (bF (by unfold fS;rw [h6,decide_eq_true h7];rfl)) (ao J))⟩
   refine aF J (eo true J J J (yl h7)) (go 3 ?_);exact ⟨J,(av J (bF (by unfold fS;rw [h6,decide_eq_false h7];rfl)) (ao J))⟩
  refine iB J (λh8=>?_) (λh8=>?_)
  ·refine go 2 ?_;refine o_ J h8 ?_;refine go 8 ?_;exact aw (s':=⟨bx,rw⟩) J eX ⟨bU (by rw [jc,h8];simp),J⟩
  refine m_ [(13,ap (oo x)),(0,cC (.agg (dW x))),(1,aX D),(2,aE b1),(5,aE b2),(6,ap (!f9 x))] ?_ ?_
  ·refine go 2 ?_;rcases bq (fV x) with h9|h9
   ·refine aF J (cI (bF h9) (ca [] isAgg4 sizeOf4)) (go 3 ?_);rcases bq (eV x.expr) with h10|h10;rotate_left;all_goals
     refine dl 0 J call163 J (vh x.expr Y hse _) h10 (go 4 ?_);exact ⟨J,(av J (bF (by unfold oo;rw [h9,h10];rfl)) (ao J))⟩
   refine aF J (cI (bF h9) (ca [] isAgg4 sizeOf4)) (go 8 ?_);exact ⟨J,(av J (bF (by unfold oo;rw [h9];rfl)) (ao J))⟩
  refine iB J (λh11=>?_) (λh11=>?_)
  ·refine go 2 ?_;refine o_ J h11 ?_;refine go 8 ?_;exact aw (s':=⟨bx,rw⟩) J eX ⟨bU (by rw [jc,h11];simp),J⟩
  refine m_ [(13,ap (uc x)),(0,cC (.agg (dW x))),(1,aX D),(2,aE b1),(5,aE b2),(6,ap (!f9 x))] ?_ ?_
  ·refine go 2 ?_;rcases bq (fV x) with h12|h12
   ·refine aF J (cI (bF h12) (ca [] isAgg4 sizeOf4)) (go 9 ?_);exact ⟨J,(av J (bF (by unfold uc;rw [h12];rfl)) (ao J))⟩
   refine aF J (cI (bF h12) (ca [] isAgg4 sizeOf4)) (go 4 ?_);rcases bq (jT x.expr) with h13|h13;rotate_left;all_goals
    refine qE J call164 J (C7 x.expr _) h13 (go 4 ?_);exact ⟨J,(av J (bF (by unfold uc;rw [h12,h13];rfl)) (ao J))⟩
  refine iB J (λh14=>?_) (λh14=>?_)
  ·refine go 2 ?_;refine o_ J h14 ?_;refine go 8 ?_;exact aw (s':=⟨bx,rw⟩) J eX ⟨bU (by rw [jc,h14];simp),J⟩
  refine m_ [(13,ap (uG x)),(0,cC (.agg (dW x))),(1,aX D),(2,aE b1),(5,aE b2),(6,ap (!f9 x))] ?_ ?_
  ·refine go 2 ?_;rcases bq (fh x) with h15|h15
   ·refine aF J (cI (bF h15) (ca [] isAgg4 sizeOf4)) (go 3 ?_);rcases bq (okRefB x.ref) with h16|h16;rotate_left;all_goals
     refine dl 0 J call165 J (LM x.ref hsr Y _) h16 (go 4 ?_);exact ⟨J,(av J (bF (by unfold uG;rw [h15,h16];rfl)) (ao J))⟩
   refine aF J (cI (bF h15) (ca [] isAgg4 sizeOf4)) (go 8 ?_);exact ⟨J,(av J (bF (by unfold uG;rw [h15];rfl)) (ao J))⟩
  refine iB J (λh17=>?_) (λh17=>?_)
  ·refine go 2 ?_;refine o_ J h17 ?_;refine go 8 ?_;exact aw (s':=⟨bx,rw⟩) J eX ⟨bU (by rw [jc,h17];simp),J⟩
  refine m_ [(13,ap (uW x)),(0,cC (.agg (dW x))),(1,aX D),(2,aE b1),(5,aE b2),(6,ap (!f9 x))] ?_ ?_
  ·refine go 2 ?_;rcases bq (fh x) with h18|h18
   ·refine aF J (cI (bF h18) (ca [] isAgg4 sizeOf4)) (go 9 ?_);exact ⟨J,(av J (bF (by unfold uW;rw [h18];rfl)) (ao J))⟩
   refine aF J (cI (bF h18) (ca [] isAgg4 sizeOf4)) (go 4 ?_);rcases bq (j6 x.ref) with h19|h19;rotate_left;all_goals
    refine qE J call166 J (BA x.ref _) h19 (go 4 ?_);exact ⟨J,(av J (bF (by unfold uW;rw [h18,h19];rfl)) (ao J))⟩
  refine iB J (λh20=>?_) (λh20=>?_)
  ·refine go 2 ?_;refine o_ J h20 ?_;refine go 8 ?_;exact aw (s':=⟨bx,rw⟩) J eX ⟨bU (by rw [jc,h20];simp),J⟩
  refine m_ [(13,ap (sZ x)),(0,cC (.agg (dW x))),(1,aX D),(2,aE b1),(5,aE b2),(6,ap (!f9 x))] ?_ ?_
  ·refine go 2 ?_;rcases bq (f_ x) with h21|h21
   ·refine aF J (cI (bF h21) (ca [] isAgg4 sizeOf4)) (go 9 ?_);exact ⟨J,(av J (bF (by unfold sZ;rw [h21];rfl)) (ao J))⟩
   refine aF J (cI (bF h21) (ca [] isAgg4 sizeOf4)) (go 5 ?_);by_cases h22:(0:Int)<((x.args.length:Nat):Int)
   ·refine aC true J (ek h22) (go 3 ?_);exact ⟨J,(av J (bF (by unfold sZ;rw [h21,decide_eq_false (show ¬x.args.length=0 by omega)];rfl)) (ao J))⟩
   refine aC false J (em h22) (go 3 ?_);exact ⟨J,(av J (bF (by unfold sZ;rw [h21,decide_eq_true (show x.args.length=0 by omega)];rfl)) (ao J))⟩
  refine iB J (λh23=>?_) (λh23=>?_)
  ·refine go 2 ?_;refine o_ J h23 ?_;refine go 8 ?_;exact aw (s':=⟨bx,rw⟩) J eX ⟨bU (by rw [jc,h23];simp),J⟩
  refine m_ [(13,ap (qQ x)),(0,cC (.agg (dW x))),(1,aX D),(2,aE b1),(5,aE b2),(6,ap (!f9 x))] ?_ ?_
  ·refine go 2 ?_;rcases bq (fU x) with h24|h24
   ·refine aF J (cI (bF h24) (ca [] isAgg4 sizeOf4)) (go 9 ?_);exact ⟨J,(av J (bF (by unfold qQ;rw [h24];rfl)) (ao J))⟩
   refine aF J (cI (bF h24) (ca [] isAgg4 sizeOf4)) (go 5 ?_);by_cases h25:(0:Int)<((x.thn.length:Nat):Int)
   ·refine aC true J (ek h25) (go 3 ?_);exact ⟨J,(av J (bF (by unfold qQ;rw [h24,decide_eq_false (show ¬x.thn.length=0 by omega)];rfl)) (ao J))⟩
   refine aC false J (em h25) (go 3 ?_);exact ⟨J,(av J (bF (by unfold qQ;rw [h24,decide_eq_true (show x.thn.length=0 by omega)];rfl)) (ao J))⟩
  refine iB J (λh26=>?_) (λh26=>?_)
  ·refine go 2 ?_;refine o_ J h26 ?_;refine go 8 ?_;exact aw (s':=⟨bx,rw⟩) J eX ⟨bU (by rw [jc,h26];simp),J⟩
  refine go 2 ?_;rcases bq (il x) with h27|h27
  ·refine aF J (cI (bF h27) (ca [] isAgg4 sizeOf4)) (go 19 ?_);rcases bq (x.args.any λa=>!eh a) with h29|h29
   ·refine dl 0 J call167 J (Aj (λa=>!eh a) x.args 168 #[] _ Y call168 zj) h29 (go 10 ?_);exact aw (s':=⟨bx,rw⟩) J eX ⟨bU (by rw [jc,xG h29];simp),J⟩
   refine dl 0 J call167 J (Aj (λa=>!eh a) x.args 168 #[] _ Y call168 zj) h29 (go 8 ?_);rcases bq (fU x) with h32|h32
   ·refine aF J (cI (bF h32) (ca [] isAgg4 sizeOf4)) (go 5 ?_);refine bJ J ?_;rcases bq (cn (D+1) x.thn) with h33|h33
    ·refine dl 0 J call121 J (ih1 _) h33 (go 4 ?_);by_cases h34:((x.els.length:Nat):Int)=0
     ·refine aC true J (bg h34) (go 13 ?_);exact aw (s':=⟨bx,rw⟩) J eX ⟨bU (by rw [jc,h1,h5,h8,h11,h14,h17,h20,h23,h26,show jD x=false by unfold jD;rw [h27];rfl,nc h29,show aa D x=true by unfold aa;rw [h32,h33,decide_eq_true (show x.els.length=0 by omega)];rfl];rfl),J⟩
     refine aC false J (bZ h34) (go 4 ?_);refine bJ J ?_;rcases bq (cn (D+1) x.els) with h35|h35
     ·refine dl 0 J call121 J (ih2 _) h35 (go 7 ?_);exact aw (s':=⟨bx,rw⟩) J eX ⟨bU (by rw [jc,h1,h5,h8,h11,h14,h17,h20,h23,h26,show jD x=false by unfold jD;rw [h27];rfl,nc h29,show aa D x=true by unfold aa;rw [h32,h33,decide_eq_false (show ¬x.els.length=0 by omega),h35];rfl];rfl),J⟩
     refine dl 0 J call121 J (ih2 _) h35 (go 7 ?_);exact aw (s':=⟨bx,rw⟩) J eX ⟨bU (by rw [jc,h1,h5,h8,h11,h14,h17,h20,h23,h26,show jD x=false by unfold jD;rw [h27];rfl,nc h29,show aa D x=false by unfold aa;rw [h32,h33,decide_eq_false (show ¬x.els.length=0 by omega),h35];rfl];rfl),J⟩
    refine dl 0 J call121 J (ih1 _) h33 (go 18 ?_);exact aw (s':=⟨bx,rw⟩) J eX ⟨bU (by rw [jc,h1,h5,h8,h11,h14,h17,h20,h23,h26,show jD x=false by unfold jD;rw [h27];rfl,nc h29,show aa D x=false by unfold aa;rw [h32,h33];rfl];rfl),J⟩
   refine aF J (cI (bF h32) (ca [] isAgg4 sizeOf4)) (go 25 ?_);exact aw (s':=⟨bx,rw⟩) J eX ⟨bU (by rw [jc,h1,h5,h8,h11,h14,h17,h20,h23,h26,show jD x=false by unfold jD;rw [h27];rfl,nc h29,show aa D x=true by unfold aa;rw [h32];rfl];rfl),J⟩
  refine aF J (cI (bF h27) (ca [] isAgg4 sizeOf4)) (go 5 ?_);by_cases h36:(0:Int)<((x.els.length:Nat):Int)
  ·refine aC true J (ek h36) (go 13 ?_);exact aw (s':=⟨bx,rw⟩) J eX ⟨bU (by rw [jc,show jD x=true by unfold jD;rw [h27,decide_eq_false (show ¬x.els.length=0 by omega)];rfl];simp),J⟩
  refine aC false J (em h36) (go 13 ?_);rcases bq (x.args.any λa=>!eh a) with h39|h39
  ·refine dl 0 J call167 J (Aj (λa=>!eh a) x.args 168 #[] _ Y call168 zj) h39 (go 10 ?_);exact aw (s':=⟨bx,rw⟩) J eX ⟨bU (by rw [jc,xG h39];simp),J⟩
  refine dl 0 J call167 J (Aj (λa=>!eh a) x.args 168 #[] _ Y call168 zj) h39 (go 8 ?_);rcases bq (fU x) with h42|h42
  ·refine aF J (cI (bF h42) (ca [] isAgg4 sizeOf4)) (go 5 ?_);refine bJ J ?_;rcases bq (cn (D+1) x.thn) with h43|h43
   ·refine dl 0 J call121 J (ih1 _) h43 (go 4 ?_);refine aC true J (bg Y) (go 13 ?_);exact aw (s':=⟨bx,rw⟩) J eX ⟨bU (by rw [jc,h1,h5,h8,h11,h14,h17,h20,h23,h26,show jD x=false by unfold jD;rw [h27,decide_eq_true (show x.els.length=0 by omega)];rfl,nc h39,show aa D x=true by unfold aa;rw [h42,h43,decide_eq_true (show x.els.length=0 by omega)];rfl];rfl),J⟩
   refine dl 0 J call121 J (ih1 _) h43 (go 18 ?_);exact aw (s':=⟨bx,rw⟩) J eX ⟨bU (by rw [jc,h1,h5,h8,h11,h14,h17,h20,h23,h26,show jD x=false by unfold jD;rw [h27,decide_eq_true (show x.els.length=0 by omega)];rfl,nc h39,show aa D x=false by unfold aa;rw [h42,h43];rfl];rfl),J⟩
  refine aF J (cI (bF h42) (ca [] isAgg4 sizeOf4)) (go 25 ?_);exact aw (s':=⟨bx,rw⟩) J eX ⟨bU (by rw [jc,h1,h5,h8,h11,h14,h17,h20,h23,h26,show jD x=false by unfold jD;rw [h27,decide_eq_true (show x.els.length=0 by omega)];rfl,nc h39,show aa D x=true by unfold aa;rw [h42];rfl];rfl),J⟩
 refine aF J (cI (bF (ol h1)) (iY J J)) (go 15 ?_);exact aw (s':=⟨bx,rw⟩) J eX ⟨bU (by rw [jc,h1];simp),J⟩
def Nz(D:Nat)(x:aL)(d:Nat)(bx:List aT)(rw:List aS)(hst:∀s:aH,aR prog 144 [cC (.agg (dW x)),aX D] [] s λt s'=>t=ap (fC D x) /\ s'=s):aR prog 143 [cC (.agg (dW x)),aE d] [] ⟨⟨d,3,[am D]⟩::bx,rw⟩ λt s'=>t=ap (!fC D x) /\ s'=⟨⟨d,3,[am D]⟩::bx,rw⟩:=by
 refine bN 8 func143 ?_;refine go 10 λb1=>?_;rcases bq (fC D x) with h1|h1;rotate_left;all_goals
  refine dl 0 J call144 J (hst _) h1 (go 5 ?_);exact ⟨.inr J,_,⟨⟨d,3,[am D]⟩::bx,rw⟩,bT J (bM J),aj (.cons _ (.refl _)) (.refl _),bU uM,J⟩
def MV(D:Nat)(l:List aL)(hl:l.length <= 1000000000)(hst:D<24 -> ∀k (h:k<l.length) (s:aH),aR prog 144 [cC (.agg (dW l[k])),aX D] [] s λt s'=>t=ap (fC D l[k]) /\ s'=s)(s:aH):aR prog 121 [cC (.c (aB encS l)),aX D] [] s λt s'=>t=ap (cn D l) /\ s'=s:=by
 obtain ⟨bx,rw⟩:=s;refine bN 11 func121 ?_;refine go 10 λb1=>?_;by_cases h1:(24:Int) <= ((D:Nat):Int)
 ·refine aC true J (mH h1) (go 10 ?_);exact aw (s':=⟨bx,rw⟩) J cM ⟨bU (by rw [sE,decide_eq_false Y];rfl),J⟩
 refine aC false J (nP h1) (go 8 ?_);refine aF J (Ij (vs:=[.pointer (some ⟨b1,0,none⟩)]) J J) ?_;rcases bq (l.any λx=>!fC D x) with h4|h4
 ·refine dl 0 J call142 J (Jc (λx=>!fC D x) l 143 #[.pointer (some ⟨b1,0,none⟩)] _ hl call143 Mo) h4 (go 5 ?_);exact aw (s':=⟨bx,rw⟩) J cM ⟨bU (by rw [sE,decide_eq_true Y,xG h4];rfl),J⟩
 refine dl 0 J call142 J (Jc (λx=>!fC D x) l 143 #[.pointer (some ⟨b1,0,none⟩)] _ hl call143 Mo) h4 (go 5 ?_);exact aw (s':=⟨bx,rw⟩) J cM ⟨bU (by rw [sE,decide_eq_true Y,nc h4];rfl),J⟩
def DI:∀(N D:Nat)(l:List aL),bQ l <= N -> N <= 900000000 -> D <= 24 -> fA l -> ∀s:aH,aR prog 121 [cC (.c (aB encS l)),aX D] [] s λt s'=>t=ap (cn D l) /\ s'=s
 |0,D,l,h,_,_,_,s=>MV D l pP (λ_ k hk=>absurd (nY l) Y) s
 |N+1,D,l,h,hN,hD,hs,s=>MV D l pP (λhd k hk s=>by
   have hw:=pE l k hk;have h1:=hw;rw [f6] at h1;have hsk:=sA _ hs _ (getElem_mem hk);obtain ⟨-,-,-,-,hst,hsf⟩:=pz hsk;exact TF D l[k] hsk Y Y (λs=>DI N (D+1) _ Y Y Y hst s) (λs=>DI N (D+1) _ Y Y Y hsf s) s) s
def Ln(x:bp)(hx:x.name.size <= 4611686018427387904)(s:aH):aR prog 120 [cC (.agg (cG x))] [] s λt s'=>t=ap (!br x.name) /\ s'=s:=by
 obtain ⟨bx,rw⟩:=s;refine bN 7 func120 ?_;refine go 10 λb1=>?_;rcases bq (br x.name) with h1|h1;rotate_left;all_goals
  refine dl 0 J call117 J (oy x.name hx _) h1 (go 5 ?_);exact aw (s':=⟨bx,rw⟩) J cM ⟨bU uM,J⟩
def Qh(f:bE)(hs:f.sane)(hw:f.wt <= 900000000)(s:aH):aR prog 91 [cC (.agg (ac f))] [] s λt s'=>t=ap (gB f) /\ s'=s:=by
 obtain ⟨bx,rw⟩:=s;unfold bE.wt at hw;refine bN 23 func91 ?_;refine go 10 λb1=>?_;rcases bq (br f.name) with h1|h1
 ·refine dl 0 J call117 J (oy f.name hs.1 _) h1 (go 4 ?_);by_cases h2:((f.params.length:Nat):Int) <= 6
  ·refine aC true J (vV h2) (go 4 ?_);rcases bq (f.params.any λx=>!br x.name) with h3|h3
   ·refine dl 0 J call119 J (JK (λx=>!br x.name) f.params 120 #[] _ Y call120 (λk hk=>Ln _ (hs.2.1 _ (getElem_mem _)) _)) h3 (go 11 ?_);exact aw (s':=⟨bx,rw⟩) J cM ⟨bU (by unfold gB;rw [xG (f:=λx:bp=>br x.name) h3,pQ]),J⟩
   refine dl 0 J call119 J (JK (λx=>!br x.name) f.params 120 #[] _ Y call120 (λk hk=>Ln _ (hs.2.1 _ (getElem_mem _)) _)) h3 (go 5 ?_);rcases bq (cn 0 f.body) with h4|h4;rotate_left;all_goals
    refine dl 0 J call121 J (DI _ 0 f.body (bW _) Y Y hs.2.2 _) h4 (go 5 ?_);exact aw (s':=⟨bx,rw⟩) J cM ⟨bU (by unfold gB;rw [h1,decide_eq_true (show f.params.length <= 6 by omega),nc (f:=λx:bp=>br x.name) h3,h4];rfl),J⟩
  refine aC false J (xJ h2) (go 16 ?_);exact aw (s':=⟨bx,rw⟩) J cM ⟨bU (by unfold gB;rw [h1,decide_eq_false (show ¬f.params.length <= 6 by omega)];rfl),J⟩
 refine dl 0 J call117 J (oy f.name hs.1 _) h1 (go 21 ?_);exact aw (s':=⟨bx,rw⟩) J cM ⟨bU (by unfold gB;rw [h1];rfl),J⟩
def OG(f:bE)(hs:f.sane)(hw:f.wt <= 900000000)(s:aH):aR prog 90 [cC (.agg (ac f))] [] s λt s'=>t=ap (!gB f) /\ s'=s:=by
 obtain ⟨bx,rw⟩:=s;refine bN 6 func90 ?_;refine go 9 λb1=>?_;rcases bq (gB f) with h1|h1;rotate_left;all_goals
  refine dl 0 J call91 J (Qh f hs hw _) h1 (go 5 ?_);exact aw (s':=⟨bx,rw⟩) J cM ⟨bU uM,J⟩
def lW(p:aZ):Bool:=decide (p.globals.length <= 16 /\ p.mutexes.length <= 12 /\ p.funcs.length <= 16) && p.globals.all j7 && p.mutexes.all g_
def A2{p:aZ}(h:¬(p.globals.length <= 16 /\ p.mutexes.length <= 12 /\ p.funcs.length <= 16)):lW p=false:=by unfold lW;rw [decide_eq_false h];rfl
def LQ{p:aZ}(k:Nat)(h:k<p.globals.length)(hb:j7 p.globals[k]=false):lW p=false:=by unfold lW;rw [oz _ _ k h hb];simp
def AE{p:aZ}(k:Nat)(h:k<p.mutexes.length)(hb:g_ p.mutexes[k]=false):lW p=false:=by unfold lW;rw [oz _ _ k h hb];simp
def G9(p:aZ)(hs:p.sane)(hw:p.wt <= 100000000)(s:aH):aR prog 88 [cC (.agg (eA p))] [] s λt s'=>t=ap (lW p) /\ s'=s:=by
 obtain ⟨bx,rw⟩:=s;have hw1:=hw;unfold aZ.wt at hw1;have hfn:=oe bE.wt (λx=>pV) p.funcs;refine bN 71 func88 ?_;refine go 12 λb1=>?_;by_cases h1:(16:Int)<((p.globals.length:Nat):Int)
 ·refine aC true J (ek h1) (go 22 ?_);exact aw (s':=⟨bx,rw⟩) J cM ⟨bU (A2 Y),J⟩
 refine aC false J (em h1) (go 4 ?_);by_cases h3:(12:Int)<((p.mutexes.length:Nat):Int)
 ·refine aC true J (ek h3) (go 17 ?_);exact aw (s':=⟨bx,rw⟩) J cM ⟨bU (A2 Y),J⟩
 refine aC false J (em h3) (go 5 ?_);by_cases h5:(16:Int)<((p.funcs.length:Nat):Int)
 ·refine aC true J (ek h5) (go 11 ?_);exact aw (s':=⟨bx,rw⟩) J cM ⟨bU (A2 Y),J⟩
 refine aC false J (em h5) (go 16 ?_);refine jO (λk=>∀q (h:q<p.globals.length),q<k -> j7 p.globals[q]=true) (p.globals.length) 26 (λk=>[(0,cC (.agg (eA p))),(1,aE b1),(24,.c (aB ak p.globals)),(25,aX p.globals.length)]) lY (ao J) λk hk hvk=>?_;replace hvk:∀q (h:q<p.globals.length),q<k -> j7 p.globals[q]=true:=hvk
 try dsimp only
 refine go 2 ?_;by_cases h8:((k:Nat):Int)<((p.globals.length:Nat):Int)
 ·refine aC true J (ck h8) (go 10 ?_);refine aF J (bS ak ak p.globals nD (λ_=>J) k J J J J Y V runUnderlying23 sizeOf63) (go 7 λb2=>?_);have hgs:=hs.globals p.globals[k] (getElem_mem _);refine go 2 ?_;rcases bq (br p.globals[k].name) with h10|h10
  ·refine dl 0 J call117 J (oy p.globals[k].name hgs.2 _) h10 (go 4 ?_);by_cases h11:p.globals[k].init=-9223372036854775808
   ·refine aC true J (bg h11) (go 15 ?_);exact aw (s':=⟨bx,rw⟩) J eX ⟨bU (LQ k Y (by unfold j7;rw [h10,decide_eq_false Y];rfl)),J⟩
   refine aC false J (bZ h11) (go 8 ?_);refine bJ J (go 2 ?_);exact ⟨Y,(λq hq hlt2=>(iQ q k).elim (λh9=>hvk q hq h9) (λh9=>by have h8:k=q:=Y;subst h8;exact (by unfold j7;rw [h10,decide_eq_true Y];rfl))),az (h1:=(.cons _ (.refl _))) (h:=av J (bv Y) (ao J)) (λb hb=>dT _ (hb))⟩
  refine dl 0 J call117 J (oy p.globals[k].name hgs.2 _) h10 (go 20 ?_);exact aw (s':=⟨bx,rw⟩) J eX ⟨bU (LQ k Y (by unfold j7;rw [h10];rfl)),J⟩
 refine aC false J (cg h8) (go 19 ?_);refine jO (λi=>∀q (h:q<p.mutexes.length),q<i -> g_ p.mutexes[q]=true) (p.mutexes.length) 43 (λi=>[(0,cC (.agg (eA p))),(1,aE b1),(41,.c (aB aU p.mutexes)),(42,aX p.mutexes.length)]) lY (ao J) λi hi hvi=>?_;replace hvi:∀q (h:q<p.mutexes.length),q<i -> g_ p.mutexes[q]=true:=hvi
 try dsimp only
 refine go 2 ?_;by_cases h16:((i:Nat):Int)<((p.mutexes.length:Nat):Int)
 ·refine aC true J (ck h16) (go 10 ?_);refine aF J (bS aU aU p.mutexes kI (λ_=>J) i J J J J Y V runUnderlying24 sizeOf60) (go 7 λb3=>?_);have hms:=hs.mutexes p.mutexes[i] (getElem_mem _);refine go 2 ?_;rcases bq (br p.mutexes[i].name) with h18|h18
  ·refine dl 0 J call117 J (oy p.mutexes[i].name hms.2 _) h18 (go 4 ?_);by_cases h19:p.mutexes[i].size<0
   ·refine aC true J (ck h19) (go 29 ?_);exact aw (s':=⟨bx,rw⟩) J eX ⟨bU (AE i Y AO),J⟩
   refine aC false J (cg h19) (go 4 ?_);by_cases h21:(64:Int)<p.mutexes[i].size
   ·refine aC true J (ek h21) (go 24 ?_);exact aw (s':=⟨bx,rw⟩) J eX ⟨bU (AE i Y AO),J⟩
   refine aC false J (em h21) (go 3 ?_);rcases bq (p.mutexes[i].reentrant) with h23|h23
   ·refine aF J (cI (bF h23) (ca [] isAgg4 sizeOf4)) (go 3 ?_);by_cases h24:(0:Int)<p.mutexes[i].size
    ·refine aC true J (ek h24) (go 16 ?_);exact aw (s':=⟨bx,rw⟩) J eX ⟨bU (AE i Y (by unfold g_;rw [h18,decide_eq_true (show 0 <= p.mutexes[i].size /\ p.mutexes[i].size <= 64 by omega),h23,decide_eq_true (show 0<p.mutexes[i].size by omega)];rfl)),J⟩
    refine aC false J (em h24) (go 9 ?_);refine bJ J (go 2 ?_);exact ⟨Y,(λq hq hlt2=>(iQ q i).elim (λh9=>hvi q hq h9) (λh9=>by have h8:i=q:=Y;subst h8;exact (by unfold g_;rw [h18,decide_eq_true (show 0 <= p.mutexes[i].size /\ p.mutexes[i].size <= 64 by omega),h23,decide_eq_false (show ¬0<p.mutexes[i].size by omega)];rfl))),az (h1:=(.cons _ (.refl _))) (h:=av J (bv Y) (ao J)) (λb hb=>dT _ (hb))⟩
   refine aF J (cI (bF h23) (ca [] isAgg4 sizeOf4)) (go 13 ?_);refine bJ J (go 2 ?_);exact ⟨Y,(λq hq hlt2=>(iQ q i).elim (λh9=>hvi q hq h9) (λh9=>by have h8:i=q:=Y;subst h8;exact (by unfold g_;rw [h18,decide_eq_true (show 0 <= p.mutexes[i].size /\ p.mutexes[i].size <= 64 by omega),h23];rfl))),az (h1:=(.cons _ (.refl _))) (h:=av J (bv Y) (ao J)) (λb hb=>dT _ (hb))⟩
  refine dl 0 J call117 J (oy p.mutexes[i].name hms.2 _) h18 (go 34 ?_);exact aw (s':=⟨bx,rw⟩) J eX ⟨bU (AE i Y (by unfold g_;rw [h18];rfl)),J⟩
 refine aC false J (cg h16) (go 15 ?_);exact aw (s':=⟨bx,rw⟩) J cM ⟨bU (by unfold lW;rw [decide_eq_true Y,uK _ _ (λq hq=>hvk q hq Y),uK _ _ (λq hq=>hvi q hq Y)];rfl),J⟩
def N5(A B:List aT)(W m:Nat)(v:aM)(bs:List UInt8)(rw:List aS):aR prog 170 [aE W] [W] (cm A W m none v bs B rw) λt s'=>t=.tup [] /\ s'=cm A W m (some ⟨W,0,none⟩) v bs B rw:=by
 refine bN 20 func170 ?_;refine go 6 ?_;refine aF J (cI (bF (show (none:Option Addr).isNone=true from J)) (I_ (j:=Tryz.t179) J J J underlying177 aQ)) (go 6 ?_);refine aF J (P1 (j:=Tryz.t179) A J J J underlying177 underlying248 aQ V (Nat.succ_pos _) aK) ?_;refine aF J (PT J J func188 aQ aQ aQ aQ) ?_;refine aF J (SA (j:=Tryz.t179) A J J J underlying248 underlying177 aQ aQ aK) (go 4 ?_);exact ⟨.inl J,_,cm A W m (some ⟨W,0,none⟩) v bs B rw,e_ J,aj (.refl _) (.refl _),J,J⟩
def Si(A B:List aT)(W m:Nat)(v:aM)(bs:List UInt8)(rw:List aS):aR prog 170 [aE W] [W] (cm A W m (some ⟨W,0,none⟩) v bs B rw) λt s'=>t=.tup [] /\ s'=cm A W m (some ⟨W,0,none⟩) v bs B rw:=by
 refine bN 20 func170 ?_;refine go 6 ?_;refine aF J (cI (bF (show (some ⟨W,0,none⟩:Option Addr).isNone=false from J)) (I_ (j:=Tryz.t179) J J J underlying177 aQ)) (go 10 ?_);refine aF J (Nt (j:=Tryz.t179) J J J underlying177 aQ) (go 4 ?_);exact ⟨.inl J,_,cm A W m (some ⟨W,0,none⟩) v bs B rw,e_ J,aj (.refl _) (.refl _),J,J⟩
def LJ(A B:List aT)(W m:Nat)(a:Option Addr)(v:aM)(bs:List UInt8)(rw:List aS)(ha:fc W a):aR prog 170 [aE W] [W] (cm A W m a v bs B rw) λt s'=>t=.tup [] /\ s'=cm A W m (some ⟨W,0,none⟩) v bs B rw:=by
 rcases ha with rfl|rfl
 ·exact N5 A B W m v bs rw
 exact Si A B W m v bs rw
def KS(c:UInt8)(A B:List aT)(W m:Nat)(a:Option Addr)(v:aM)(bs:List UInt8)(rw:List aS)(ha:fc W a)(hb:bs.length <= 100000000000000):aR prog 145 [aE W,au (.int .u8 ((c.toNat:Nat):Int))] (W::aO v) (cm A W m a v bs B rw) λt s'=>t=au .nilIface /\ ∃a' v',fc W a' /\ s'=cm A W m a' v' (bs++[c]) B rw:=by
 refine bN 17 func145 ?_;refine go 8 ?_;refine aW J (bj [W] J J V call170 J (LJ A B W m a v bs rw ha) (bV) (bV (h:=by simp [aH.bl])) (λ_=>bV) ?_);rintro _ _ ⟨rfl,rfl⟩;refine go 10 ?_;refine aW J (be (r:=cT [c]) jy ?_);refine aW J (dR [] uA J J V c_ Y (show bs.length+1=(bs++[c]).length by simp only [length_append,length_cons,length_nil]) fi cb (oE bs [c]) λw1=>?_);refine go 11 ?_;exact ⟨.inr J,_,cm A W m (some ⟨W,0,none⟩) w1 _ B rw,bT J (bM J),aj (.refl _) (.refl _),J,(some ⟨W,0,none⟩),w1,.inr J,J⟩
def Tg(x:aG)(A B:List aT)(W m:Nat)(a:Option Addr)(v:aM)(bs:List UInt8)(rw:List aS)(ha:fc W a)(hb:bs.length+x.data.toList.length <= 100000000000000):aR prog 146 [aE W,cB x] (W::aO v) (cm A W m a v bs B rw) λt s'=>t=.tup [aX x.size,au .nilIface] /\ ∃a' v',fc W a' /\ s'=cm A W m a' v' (bs++x.data.toList) B rw:=by
 refine bN 19 func146 ?_;refine go 9 ?_;refine aW J (bj [W] J J V call170 J (LJ A B W m a v bs rw ha) (bV) (bV (h:=by simp [aH.bl])) (λ_=>bV) ?_);rintro _ _ ⟨rfl,rfl⟩;refine go 10 ?_;refine aW J (wu [] Tryz.t5 (z:=x) J J V J J underlying58 underlying9 aQ J J J (by unfold maxLen;show bs.length+x.data.toList.length <= _;omega) (by show bs.length+x.data.toList.length <= _;omega) (@length_append _ bs x.data.toList).symm J fi cb (oE bs x.data.toList) λw1=>?_);refine go 14 ?_;exact ⟨.inr J,_,cm A W m (some ⟨W,0,none⟩) w1 _ B rw,iP J (bM J) (bM J),aj (.refl _) (.refl _),J,(some ⟨W,0,none⟩),w1,.inr J,J⟩
def dF(m:Nat)(ps:List ByteArray):List UInt8:=List.replicate m 9++(ps.map λx=>x.data.toList).flatten++[10]
def kC(ps:List ByteArray):List UInt8:=(ps.map λx=>x.data.toList).flatten
def IL(ps:List aG)(k:Nat)(h:k<ps.length):kC (ps.take (k+1))=kC (ps.take k)++ps[k].data.toList:=by
 unfold kC;rw [ga h,ed,wQ];simp only [cd,fg,iL,kO,eC]
def Mw:∀(ps:List aG)(k:Nat),(kC (ps.take k)).length <= (kC ps).length
 |[],k=>aK
 |x::ps,0=>by simp [kC]
 |x::ps,k+1=>by
  have:=Mw ps k;simp only [kC,jI,cd,iL,length_append] at this⊢;omega
def T_(ps:List aG)(k:Nat)(h:k<ps.length):(kC (ps.take k)).length+ps[k].data.toList.length <= (kC ps).length:=by
 have h1:=Mw ps (k+1);rw [IL ps k h,length_append] at h1;exact h1
def On(m:Nat)(ps:List aG):(dF m ps).length=m+(kC ps).length+1:=by unfold dF kC;simp [qw]
def Uh(bs:List UInt8)(m:Nat)(ps:List aG):bs++dF m ps≠[]:=by unfold dF;simp
def kA(ps:List aG)(A B:List aT)(W m:Nat)(a:Option Addr)(v:aM)(bs:List UInt8)(rw:List aS)(ha:fc W a)(hps:ps.length <= 1000000)(hb:bs.length+(dF m ps).length <= 100000000000000):aR prog 122 [aE W,.c (.sl ps.length (ps.map λx=>ae x))] (W::aO v) (cm A W m a v bs B rw) λt s'=>t=.tup [] /\ ∃a' v',fc W a' /\ s'=cm A W m a' v' (bs++dF m ps) B rw:=by
 have hll:=On m ps;refine bN 33 func122 ?_;refine go 11 ?_;refine ir (α:=Option Addr×aM) (λj g=>fc W g.1) (m) 10 (λg=>aO g.2++[W]) (λj g=>cm A W m g.1 g.2 (bs++List.replicate j 9) B rw) (λj=>[(0,aE W),(1,.c (.sl ps.length (ps.map λx=>ae x))),(9,aX m)]) (a,v) ha (lV (h:=ao J) (.refl _) (iC (A:=A) (aK:bs=(bs++List.replicate 0 9)))) ?_;rintro j ⟨a1,v1⟩ hj hC1;dsimp only at hC1
 try dsimp only
 refine go 2 ?_;by_cases h2:((j:Nat):Int)<((m:Nat):Int)
 ·refine aC true J (ck h2) (go 12 ?_);refine aW J (jS J call145 J (KS 9 A B W m a1 v1 (bs++List.replicate j 9) rw hC1 ig) aK cb jV λa4 v4 hC4=>?_);refine go 4 ?_;refine bJ J (go 2 ?_);exact ⟨Y,(a4,v4),hC4,lV (.refl _) (iC (A:=A) (by rw [List.replicate_succ',append_assoc]:((bs++List.replicate j 9)++[9])=(bs++List.replicate (j+1) 9)))⟩
 refine aC false J (cg h2) (go 12 ?_);obtain rfl:m=j:=Y;refine go 6 ?_;refine ir (α:=Option Addr×aM) (λk g=>fc W g.1) (ps.length) 19 (λg=>aO g.2++[W]) (λk g=>cm A W m g.1 g.2 ((bs++List.replicate m 9)++kC (ps.take k)) B rw) (λk=>[(0,aE W),(17,.c (.sl ps.length (ps.map λx=>ae x))),(18,aX ps.length)]) (a1,v1) hC1 (lV (h:=ao J) (.refl _) (iC (A:=A) (by rw [lM];exact (eC _).symm:(bs++List.replicate m 9)=((bs++List.replicate m 9)++kC (ps.take 0))))) ?_;rintro k ⟨a6,v6⟩ hk hC6;dsimp only at hC6
 try dsimp only
 refine go 2 ?_;by_cases h7:((k:Nat):Int)<((ps.length:Nat):Int)
 ·refine aC true J (ck h7) (go 10 ?_);refine aF J (l9 (λx=>ae x) ps k J J J J Y runUnderlying61 sizeOf9) (go 9 ?_);refine aW J (jS J call146 J (Tg ps[k] A B W m a6 v6 ((bs++List.replicate m 9)++kC (ps.take k)) rw hC6 (by have:=T_ ps k Y;(try simp only [length_append,length_cons,length_nil,List.length_replicate]);omega)) aK cb jV λa9 v9 hC9=>?_);refine go 4 ?_;refine bJ J (go 2 ?_);exact ⟨Y,(a9,v9),hC9,lV (.refl _) (iC (A:=A) (by rw [IL ps k Y,append_assoc]:(((bs++List.replicate m 9)++kC (ps.take k))++ps[k].data.toList)=((bs++List.replicate m 9)++kC (ps.take (k+1)))))⟩
 refine aC false J (cg h7) (go 10 ?_);obtain rfl:k=ps.length:=Y;rw [gq];refine go 3 ?_;refine aW J (jS J call145 J (KS 10 A B W m a6 v6 ((bs++List.replicate m 9)++kC ps) rw hC6 ig) aK cb jV λa11 v11 hC11=>?_);refine go 1 ?_;exact ⟨.inl J,_,cm A W m a11 v11 _ B rw,e_ J,aj (.refl _) (.refl _),J,a11,v11,hC11,iC (by unfold dF kC;simp only [append_assoc])⟩
def wH(e:aP)(hN:e.nodes <= 10000000)(hs:e.sane)(hv:eV e=true)(s:aH):aR prog 173 [cC (.agg (bb e))] [] s λt s'=>t=cB (bytes (bX e)) /\ s'=s:=by
 have h:=Rt e Y hs (λhv=>by have:=xF hs (qK hv);omega) s;unfold zm at h;rw [if_pos hv] at h;exact h
def yw{α:Type}(f:α -> List UInt8)(l:List α):Lib.join (l.map f) [44,32]=ct f l:=by
 cases l with
 |nil=>rfl
 |cons x r=>rw [cd,Lib.join_cons,ct];unfold Lib.joinTail;rw [lE];rfl
def Mx(xs:List ByteArray)(sep:ByteArray)(hN:xs.length <= 10000000)(hlen:(Lib.join (xs.map (·.data.toList)) sep.data.toList).length <= 100000000000000)(s:aH):aR prog 124 [.c (.sl xs.length (xs.map λx=>ae x)),cB sep] [] s λt s'=>t=cB (bytes (Lib.join (xs.map (·.data.toList)) sep.data.toList)) /\ s'=s:=by
 intro vs w hm _ hl hr;obtain ⟨v1,v2,rfl⟩:∃v1 v2,vs=[v1,v2]:=by
  match vs,hl with
  |[x,y],_=>exact ⟨x,y,rfl⟩
 obtain rfl:v2=_:=(show cN _ (.c (.val (.string sep))) v2 from hr 1 aK aK).val;have h1:cN (bi s.bl w) (.c (.sl xs.length (xs.map λx=>ae x))) v1:=hr 0 aK aK;cases h1 with
 |c _ _ h1=>cases h1 with
  |sl _ _ us _ hra hul hu hcap=>
   have hR:dH (bi s.bl w) ((xs.map Value.string).map .val) us:=by rw [lE];exact ⟨hul,hu⟩
   obtain rfl:=wD hR;obtain ⟨a,cap,rfl,hc,hra⟩:=hra;have key:Calls prog 124 #[.slice a xs.length cap,.string sep] w λe w'=>e=.returned (.string ⟨(Lib.join (xs.map (·.data.toList)) sep.data.toList).toArray⟩) /\ Below w.heap.size w w':=by
    rcases hra with h0|⟨b,off,rfl,hcell⟩
    ·obtain rfl:xs=[]:=by simpa using h0
     exact (Tryz.strings_Join_none a cap sep w).mono λe w' ⟨h1,h2⟩=>by subst h2;exact ⟨h1,Below.refl _ _⟩
    cases xs with
    |nil=>exact (Tryz.strings_Join_none _ cap sep w).mono λe w' ⟨h1,h2⟩=>by subst h2;exact ⟨h1,Below.refl _ _⟩
    |cons x0 xs=>
     have hcell':∀(j:Nat) x,(x0::xs)[j]?=some x -> w.cell? ⟨b,off+j,none⟩=some (.string x):=λj x hj=>(nW (hcell j (.string x) (by rw [mD,hj];rfl))).1;exact Tryz.strings_Join b off cap (x0::xs) sep w hcell' (lL (hcell' 0 x0 J)) Y hc Y
   refine key.mono λe w' ⟨he,hb⟩=>?_;obtain ⟨hk,hm'⟩:=y2 hm hb;exact ⟨_,_,s,he,⟨J,J⟩,cN.c _ _ (.val _ J),hm',hk,λb hb=>.inl hb⟩
def jq(a:cK):ByteArray:=bytes (eK a)
def FD(l:List cK):(l.map jq).map (·.data.toList)=l.map eK:=E6
def BD(r:cD)(hs:r.sane)(hN:dD r.index <= 10000000)(hok0:okRefB r=true)(s:aH):aR prog 175 [cC (.agg (encR r))] [] s λt s'=>t=cB (bytes (ew r)) /\ s'=s:=by
 obtain ⟨bx,rw⟩:=s;have hok:=ye hok0;refine bN 19 func175 ?_;refine go 12 λb1=>?_;by_cases h1:((r.index.length:Nat):Int)=0
 ·refine aC true J (bg h1) (go 12 ?_);exact aw (s':=⟨bx,rw⟩) J cM ⟨lH Gj,J⟩
 refine aC false J (bZ h1) (go 6 ?_);refine b_ [b1] ?_;have h0:0<r.index.length:=Y;have hnl:r.name.data.toList.length <= 4611686018427387904:=hs.1;have htl:=xF (oB _ hs.2 _ (getElem_mem h0)) (qK (hok.2.2 _ (getElem_mem h0)));have hnn:=oG r.index 0 h0;refine aY [0,1] 9 (go 3 ?_);refine ab 2 J (cF r.name.data.toList ([91]:List UInt8) J J J (back _) J) (aY [3,4] 6 (go 3 ?_));refine ab 5 J (bS bR bb r.index fw ei 0 J J J J Y V runUnderlying85 sizeOf87) (aY [6] 4 (go 2 ?_));refine an 7 J J (nd 0 [] J J V call173 J J (wH r.index[0] M8 (oB _ hs.2 _ (getElem_mem _)) (hok.2.2 _ (getElem_mem _)) _) dL dL (λ_=>dL) ?_);rintro _ _ ⟨rfl,rfl⟩;refine ab 8 J (cF (r.name.data.toList++([91]:List UInt8)) (bX r.index[0]) J J J J J) ?_;refine ab 9 J (cF ((r.name.data.toList++([91]:List UInt8))++(bX r.index[0])) [93] J J J J J) (aY [10] 0 (go 2 ?_));refine bG (go 2 ?_);exact aw (s':=⟨bx,rw⟩) J cM ⟨lH (by rw [zY Y]),J⟩
def Re(a:cK)(hm:a.mutex=false)(hs:a.sane)(hw:a.wt <= 9000000)(hp:(a.mutex=true -> okRefB a.ref=true) /\ (a.mutex=false -> eV a.expr=true))(s:aH):aR prog 173 [cC (.agg (bb a.expr))] [] s λt s'=>t=cB (jq a) /\ s'=s:=by
 unfold jq;rw [ua hm];exact wH a.expr (by unfold cK.wt at hw;omega) hs.2 (hp.2 hm) s
def QV(l:List cK)(hN:l.length <= 10000000)(hlen:(ct eK l).length <= 100000000000000)(s:aH):aR prog 124 [.c (.sl (l.map jq).length ((l.map jq).map λx=>ae x)),cB ⟨#[44,32]⟩] [] s λt s'=>t=cB (bytes (ct eK l)) /\ s'=s:=by
 have h:=Mx (l.map jq) ⟨#[44,32]⟩ (by rw [fW];exact hN) (by rw [FD];rw [show (⟨#[44,32]⟩:aG).data.toList=[44,32] from rfl,yw];exact hlen) s;rw [FD,show (⟨#[44,32]⟩:aG).data.toList=[44,32] from rfl,yw] at h;exact h
def Mc(x:aL)(hs:x.sane)(hw:x.wt <= 9000000)(hok:x.args.all eh=true)(hL:(ct eK x.args).length <= 100000000000000)(hln:x.args.length <= 10000000)(s:aH):aR prog 174 [cC (.agg (dW x))] [] s λt s'=>t=cB (bytes (x.name.data.toList++f8 x.args++[59])) /\ s'=s:=by
 obtain ⟨bx,rw⟩:=s;obtain ⟨hsn,hse,hsr,hsa,hst,hsf⟩:=pz hs;rw [f6] at hw;have hal:=oj x.args;have hnl:x.name.data.toList.length <= 4611686018427387904:=hsn;refine bN 36 func174 ?_;refine go 21 λb1=>?_;refine fZ 9 1 ?_;refine D2 (λk=>True) (x.args.length) 9 3 9 1 (λk=>((x.args.take k).map jq).length) (λk=>cZ ((x.args.take k).map jq)) [b1] (λk=>[(0,cC (.agg (dW x))),(1,aE b1),(7,.c (aB dA x.args)),(8,aX x.args.length)]) trivial (az sH) λk v hk hvk=>?_;replace hvk:True:=hvk
 try dsimp only
 refine go 2 ?_;by_cases h1:((k:Nat):Int)<((x.args.length:Nat):Int)
 ·refine aC true J (ck h1) (go 10 ?_);refine aF J (bS dA dA x.args mj (λ_=>J) k J J J J Y V runUnderlying118 sizeOf135) (go 8 λb2=>?_);have hlt:k<x.args.length:=Y;have hka:=hsa _ (getElem_mem hlt);have hkp:=En (d3.1 hok _ (getElem_mem hlt));have hkw:=rN x.args k hlt;have hkw2:=hkw;unfold cK.wt cD.wt at hkw2;have hit:=Lo eK x.args k hlt;have hcl:((x.args.take k).map jq).length <= k:=M';refine go 1 ?_;rcases bq (x.args[k].mutex) with h3|h3;focus
   refine aF J (cI (bF h3) (ca [] isAgg4 sizeOf4)) (go 5 ?_);have hq:=congrArg List.length (tU h3);simp only [length_append] at hq;refine go 3 ?_;refine jR 0 J call175 J (BD x.args[k].ref hka.1 Y (hkp.1 h3) _) ?_;refine aF J (cI (fH (show (bytes ([109,117,116,101,120,32]++(ew x.args[k].ref)))=(jq x.args[k]) by unfold jq;rw [tU h3])) (cF [109,117,116,101,120,32] (ew x.args[k].ref) J J J J J)) ?_;refine aW J (be (r:=cZ [(jq x.args[k])]) iM ?_);refine aW J (dR [] nG J J V c_ Y (@length_append _ ((x.args.take k).map jq) [(jq x.args[k])]).symm fi cb (ed (f:=λx=>aN.val (.string x))).symm λw3=>?_);refine go 8 ?_
  rotate_left;refine aF J (cI (bF h3) (ca [] isAgg4 sizeOf4)) (go 9 ?_);refine jR 0 J call173 J (Re x.args[k] h3 hka Y hkp _) ?_;refine aW J (be (r:=cZ [(jq x.args[k])]) iM ?_);refine aW J (dR [] nG J J V c_ Y (@length_append _ ((x.args.take k).map jq) [(jq x.args[k])]).symm fi cb (ed (f:=λx=>aN.val (.string x))).symm λw4=>?_);refine go 5 ?_;all_goals
   refine bJ J (go 2 ?_);rw [show (x.args.take k).map jq++[jq x.args[k]]=(x.args.take (k+1)).map jq by rw [ga Y,ed];rfl];exact ⟨Y,trivial,_,az (h1:=(.cons _ (.refl _))) (h:=av J (bv Y) (ao J)) eZ⟩
 refine aC false J (cg h1) (go 10 ?_);obtain rfl:k=x.args.length:=Y;rw [gq];refine mS 3 J ?_;refine b_ [b1] (aY [0,1] 6 (go 3 ?_));refine ab 2 J (cF x.name.data.toList ([40]:List UInt8) J J J (back _) J) (aY [3] 4 (go 2 ?_));refine an 4 J J (fX J J V call124 J (QV x.args Y Y _) ?_);rintro _ _ ⟨rfl,rfl⟩;refine ab 5 J (cF (x.name.data.toList++([40]:List UInt8)) (ct eK x.args) J J J J J) ?_;refine ab 6 J (cF ((x.name.data.toList++([40]:List UInt8))++(ct eK x.args)) [41,59] J J J J J) (aY [7] 0 (go 2 ?_));refine bG (go 2 ?_);exact aw (s':=⟨bx,rw⟩) J cM ⟨lH (by unfold f8;simp only [append_assoc];rfl),J⟩
def Gl{D:Nat}{x:aL}(h:fC D x=true):(x.kind=1∨x.kind=2∨x.kind=7∨x.kind=8 -> eV x.expr=true) /\ (1 <= x.kind /\ x.kind <= 9) /\ x.args.all eh=true /\ (x.els.length=0∨x.kind=7):=by
 obtain ⟨k,n,e,r,args,t,el⟩:=x;rw [fC] at h;simp only [cz,lT,decide_eq_true_eq] at h;obtain ⟨⟨⟨⟨⟨⟨⟨h1,h2⟩,h3⟩,h4⟩,h5⟩,h6⟩,h7⟩,h8⟩:=h;exact ⟨λhp=>by
  have hp:k=1∨k=2∨k=7∨k=8:=hp
  rwa [if_pos hp] at h3,h1,h6,h8.imp id (λh=>h.1)⟩
abbrev tabs(m:Nat):List UInt8:=List.replicate m 9
def Av(m:Nat):tabs m++[9]=tabs (m+1):=by unfold tabs;rw [List.replicate_succ']
def mT(l:List UInt8):(bytes l).data.toList=l:=qN
section
variable {m:Nat}{x:aL}
theorem Kw(h:x.kind=1):dF m [⟨#[118,97,114,32]⟩,x.name,⟨#[32,61,32]⟩,bytes (bX x.expr),⟨#[59]⟩]=dQ (tabs m) x:=by
 rw [yk h];unfold dF;simp only [cd,fg,iL,kO,mT,append_assoc];rfl
theorem FY(h:x.kind=2):dF m [x.name,⟨#[32,61,32]⟩,bytes (bX x.expr),⟨#[59]⟩]=dQ (tabs m) x:=by
 rw [yU h];unfold dF;simp only [cd,fg,iL,kO,mT,append_assoc];rfl
theorem Jk(h:x.kind=3):dF m [bytes (x.name.data.toList++f8 x.args++[59])]=dQ (tabs m) x:=by
 rw [vX h];unfold dF;simp only [cd,fg,iL,kO,mT,append_assoc];rfl
theorem GJ(h:x.kind=4):dF m [⟨#[103,111,32]⟩,bytes (x.name.data.toList++f8 x.args++[59])]=dQ (tabs m) x:=by
 rw [wy h];unfold dF;simp only [cd,fg,iL,kO,mT,append_assoc];rfl
theorem M0(h:x.kind=5):dF m [⟨#[108,111,99,107,32]⟩,bytes (ew x.ref),⟨#[59]⟩]=dQ (tabs m) x:=by
 rw [xf h];unfold dF;simp only [cd,fg,iL,kO,mT,append_assoc];rfl
theorem Iy(h:x.kind=6):dF m [⟨#[117,110,108,111,99,107,32]⟩,bytes (ew x.ref),⟨#[59]⟩]=dQ (tabs m) x:=by
 rw [yf h];unfold dF;simp only [cd,fg,iL,kO,mT,append_assoc];rfl
theorem LC(h:x.kind=9):dF m [⟨#[114,101,116,117,114,110,59]⟩]=dQ (tabs m) x:=by
 rw [x_ Y];unfold dF;rfl
def kr(x:aL):ByteArray:=if x.kind=8 then ⟨#[119,104,105,108,101,32]⟩ else ⟨#[105,102,32]⟩
theorem Ga(h:x.kind=7∨x.kind=8)(he:x.els.length=0):dF m [kr x,bytes (bX x.expr),⟨#[32,123]⟩]++bH (tabs (m+1)) x.thn++dF m [⟨#[125]⟩]=dQ (tabs m) x:=by
 unfold kr;rcases h with h|h
 ·rw [ue h,if_neg Y,if_pos he,Av];unfold dF;simp only [cd,fg,iL,kO,mT,append_assoc];rfl
 rw [uu h,if_pos h,if_pos he,Av];unfold dF;simp only [cd,fg,iL,kO,mT,append_assoc];rfl
theorem K8(h:x.kind=7∨x.kind=8)(he:¬x.els.length=0):dF m [kr x,bytes (bX x.expr),⟨#[32,123]⟩]++bH (tabs (m+1)) x.thn++dF m [⟨#[125,32,101,108,115,101,32,123]⟩]++bH (tabs (m+1)) x.els++dF m [⟨#[125]⟩]=dQ (tabs m) x:=by
 unfold kr;rcases h with h|h
 ·rw [ue h,if_neg Y,if_neg he,Av];unfold dF;simp only [cd,fg,iL,kO,mT,append_assoc];rfl
 rw [uu h,if_pos h,if_neg he,Av];unfold dF;simp only [cd,fg,iL,kO,mT,append_assoc];rfl
end
def Tb{x:aL}(m:Nat)(h:x.kind=3∨x.kind=4):(ct eK x.args).length <= (dQ (tabs m) x).length:=by
 rcases h with h|h
 ·rw [vX h];unfold f8;simp only [length_append];omega
 rw [wy h];unfold f8;simp only [length_append];omega
def Ub(x:aL)(A B:List aT)(W m:Nat)(a:Option Addr)(v:aM)(bs:List UInt8)(rw:List aS)(ha:fc W a)(D:Nat)(hok:fC D x=true)(hs:x.sane)(hw:x.wt <= 9000000)(hm:m <= 1000)(hb:bs.length+(dQ (tabs m) x).length <= 100000000000000)(hco:(x.kind=7∨x.kind=8) -> ∀(A B:List aT) (W:Nat) (a:Option Addr) (v:aM) (bs:List UInt8) (rw:List aS) (ha:fc W a) (hb:bs.length+(dQ (tabs m) x).length <= 100000000000000),aR prog 176 [cC (aE W),.agg (dW x)] (W::aO v) (cm A W m a v bs B rw) λt s'=>t=.tup [] /\ ∃a' v',fc W a' /\ s'=cm A W m a' v' (bs++dQ (tabs m) x) B rw):aR prog 149 [cC (aE W),.agg (dW x)] (W::aO v) (cm A W m a v bs B rw) λt s'=>t=.tup [] /\ ∃a' v',fc W a' /\ s'=cm A W m a' v' (bs++dQ (tabs m) x) B rw:=by
 obtain ⟨hsn,hse,hsr,hsa,hst,hsf⟩:=pz hs;have hw2:=hw;rw [f6] at hw2;unfold cD.wt at hw2;have hal:=oj x.args;have ok1:=wN hs hok;have ok2:=Gl hok;refine bN 64 func149 ?_;refine go 14 λb1=>?_;by_cases h1:x.kind=1
 ·refine aC true J (bg h1) (go 4 ?_);refine b_ [b1] ?_;have hle:=congrArg List.length (Kw (m:=m) (x:=x) Y);refine aY [0,1,2,3,4] 3 (go 6 ?_);refine an 5 J J (nd 0 [] J J V call173 J J (wH x.expr Y hse (ok2.1 Y) _) dL dL (λ_=>dL) ?_);rintro _ _ ⟨rfl,rfl⟩;refine an 6 J J (be (r:=cZ [(⟨#[118,97,114,32]⟩:aG),x.name,(⟨#[32,61,32]⟩:aG),(bytes (bX x.expr)),(⟨#[59]⟩:aG)]) (hps:=(.cons J (.cons J (.cons J (.cons J (.cons J .nil)))))) zu ?_);refine an 7 J J (jS J call122 J (kA [(⟨#[118,97,114,32]⟩:aG),x.name,(⟨#[32,61,32]⟩:aG),(bytes (bX x.expr)),(⟨#[59]⟩:aG)] (_::A) B W m a v bs rw ha (ez J) ig) aK cb (λhn=>⟨rL hn,λb hb=>gL hn hb⟩) λa4 v4 hC4=>?_);refine bG (go 1 ?_);exact ⟨.inl J,_,cm A W m a4 v4 _ B rw,e_ J,aj (.cons _ (.refl _)) (.refl _),J,a4,v4,hC4,iC (by rw [Kw Y])⟩
 refine aC false J (bZ h1) (go 6 ?_);by_cases h6:x.kind=2
 ·refine aC true J (bg h6) (go 4 ?_);refine b_ [b1] ?_;have hle:=congrArg List.length (FY (m:=m) (x:=x) Y);refine aY [0,1,2,3,4] 3 (go 6 ?_);refine an 5 J J (nd 0 [] J J V call173 J J (wH x.expr Y hse (ok2.1 Y) _) dL dL (λ_=>dL) ?_);rintro _ _ ⟨rfl,rfl⟩;refine an 6 J J (rY Tryz.t9 [ae ⟨#[]⟩,ae ⟨#[]⟩,ae ⟨#[]⟩,ae ⟨#[]⟩] J J V (.cons J (.cons J (.cons J (.cons J .nil)))) underlying61 aQ J V V aQ aQ (r:=cZ [x.name,(⟨#[32,61,32]⟩:aG),(bytes (bX x.expr)),(⟨#[59]⟩:aG)]) J ?_);refine an 7 J J (jS J call122 J (kA [x.name,(⟨#[32,61,32]⟩:aG),(bytes (bX x.expr)),(⟨#[59]⟩:aG)] (_::A) B W m a v bs rw ha (ez J) ig) aK cb (λhn=>⟨rL hn,λb hb=>gL hn hb⟩) λa9 v9 hC9=>?_);refine bG (go 1 ?_);exact ⟨.inl J,_,cm A W m a9 v9 _ B rw,e_ J,aj (.cons _ (.refl _)) (.refl _),J,a9,v9,hC9,iC (by rw [FY Y])⟩
 refine aC false J (bZ h6) (go 6 ?_);by_cases h11:x.kind=3
 ·refine aC true J (bg h11) (go 5 ?_);have hle:=congrArg List.length (Jk (m:=m) (x:=x) Y);refine go 2 ?_;refine jR 0 J call174 J (Mc x hs Y ok2.2.2.1 JX Y _) ?_;refine aW J (be (r:=cZ [(bytes (x.name.data.toList++f8 x.args++[59]))]) iM ?_);refine aW J (jS J call122 J (kA [(bytes (x.name.data.toList++f8 x.args++[59]))] (_::A) B W m a v bs rw ha (ez J) ig) aK cb jV λa13 v13 hC13=>?_);refine go 2 ?_;exact ⟨.inl J,_,cm A W m a13 v13 _ B rw,e_ J,aj (.cons _ (.refl _)) (.refl _),J,a13,v13,hC13,iC (by rw [Jk Y])⟩
 refine aC false J (bZ h11) (go 6 ?_);by_cases h15:x.kind=4
 ·refine aC true J (bg h15) (go 5 ?_);have hle:=congrArg List.length (GJ (m:=m) (x:=x) Y);refine go 2 ?_;refine jR 0 J call174 J (Mc x hs Y ok2.2.2.1 JX Y _) ?_;refine aW J (be (r:=cZ [(⟨#[103,111,32]⟩:aG),(bytes (x.name.data.toList++f8 x.args++[59]))]) (hps:=(.cons J (.cons J .nil))) B7 ?_);refine aW J (jS J call122 J (kA [(⟨#[103,111,32]⟩:aG),(bytes (x.name.data.toList++f8 x.args++[59]))] (_::A) B W m a v bs rw ha (ez J) ig) aK cb jV λa17 v17 hC17=>?_);refine go 2 ?_;exact ⟨.inl J,_,cm A W m a17 v17 _ B rw,e_ J,aj (.cons _ (.refl _)) (.refl _),J,a17,v17,hC17,iC (by rw [GJ Y])⟩
 refine aC false J (bZ h15) (go 6 ?_);by_cases h19:x.kind=5
 ·refine aC true J (bg h19) (go 5 ?_);have hle:=congrArg List.length (M0 (m:=m) (x:=x) Y);refine go 3 ?_;refine jR 0 J call175 J (BD x.ref hsr Y (ok1.ref Y) _) ?_;refine aW J (be (r:=cZ [(⟨#[108,111,99,107,32]⟩:aG),(bytes (ew x.ref)),(⟨#[59]⟩:aG)]) (hps:=(.cons J (.cons J (.cons J .nil)))) sO ?_);refine aW J (jS J call122 J (kA [(⟨#[108,111,99,107,32]⟩:aG),(bytes (ew x.ref)),(⟨#[59]⟩:aG)] (_::A) B W m a v bs rw ha (ez J) ig) aK cb jV λa21 v21 hC21=>?_);refine go 2 ?_;exact ⟨.inl J,_,cm A W m a21 v21 _ B rw,e_ J,aj (.cons _ (.refl _)) (.refl _),J,a21,v21,hC21,iC (by rw [M0 Y])⟩
 refine aC false J (bZ h19) (go 6 ?_);by_cases h23:x.kind=6
 ·refine aC true J (bg h23) (go 5 ?_);have hle:=congrArg List.length (Iy (m:=m) (x:=x) Y);refine go 3 ?_;refine jR 0 J call175 J (BD x.ref hsr Y (ok1.ref Y) _) ?_;refine aW J (be (r:=cZ [(⟨#[117,110,108,111,99,107,32]⟩:aG),(bytes (ew x.ref)),(⟨#[59]⟩:aG)]) (hps:=(.cons J (.cons J (.cons J .nil)))) sO ?_);refine aW J (jS J call122 J (kA [(⟨#[117,110,108,111,99,107,32]⟩:aG),(bytes (ew x.ref)),(⟨#[59]⟩:aG)] (_::A) B W m a v bs rw ha (ez J) ig) aK cb jV λa25 v25 hC25=>?_);refine go 2 ?_;exact ⟨.inl J,_,cm A W m a25 v25 _ B rw,e_ J,aj (.cons _ (.refl _)) (.refl _),J,a25,v25,hC25,iC (by rw [Iy Y])⟩
 refine aC false J (bZ h23) (go 6 ?_);by_cases h27:x.kind=9
 ·refine aC true J (bg h27) (go 5 ?_);have hle:=congrArg List.length (LC (m:=m) (x:=x) Y);refine go 1 ?_;refine aW J (be (r:=cZ [(⟨#[114,101,116,117,114,110,59]⟩:aG)]) iM ?_);refine aW J (jS J call122 J (kA [(⟨#[114,101,116,117,114,110,59]⟩:aG)] (_::A) B W m a v bs rw ha (ez J) ig) aK cb jV λa29 v29 hC29=>?_);refine go 2 ?_;exact ⟨.inl J,_,cm A W m a29 v29 _ B rw,e_ J,aj (.cons _ (.refl _)) (.refl _),J,a29,v29,hC29,iC (by rw [LC Y])⟩
 refine aC false J (bZ h27) (go 7 ?_);refine aW J (uY 0 J call176 J (hco Y (_::A) B W a v bs rw ha hb) aK cb jV λa31 v31 hC31=>?_);refine go 2 ?_;exact ⟨.inl J,_,cm A W m a31 v31 _ B rw,e_ J,aj (.cons _ (.refl _)) (.refl _),J,a31,v31,hC31,J⟩
def Oo(x:aL)(A B:List aT)(W m:Nat)(a:Option Addr)(v:aM)(bs:List UInt8)(rw:List aS)(ha:fc W a)(D:Nat)(hok:fC D x=true)(hs:x.sane)(hw:x.wt <= 9000000)(hm:m <= 1000)(hb:bs.length+(dQ (tabs m) x).length <= 100000000000000)(hk:x.kind=7∨x.kind=8)(ih1:∀(A B:List aT) (W:Nat) (a:Option Addr) (v:aM) (bs:List UInt8) (rw:List aS) (ha:fc W a) (hb:bs.length+(bH (tabs (m+1)) x.thn).length <= 100000000000000),aR prog 125 [cC (aE W),.c (aB encS x.thn)] (W::aO v) (cm A W m a v bs B rw) λt s'=>t=.tup [] /\ ∃a' v',fc W a' /\ s'=cm A W m a' v' (bs++bH (tabs (m+1)) x.thn) B rw)(ih2:∀(A B:List aT) (W:Nat) (a:Option Addr) (v:aM) (bs:List UInt8) (rw:List aS) (ha:fc W a) (hb:bs.length+(bH (tabs (m+1)) x.els).length <= 100000000000000),aR prog 125 [cC (aE W),.c (aB encS x.els)] (W::aO v) (cm A W m a v bs B rw) λt s'=>t=.tup [] /\ ∃a' v',fc W a' /\ s'=cm A W m a' v' (bs++bH (tabs (m+1)) x.els) B rw):aR prog 176 [cC (aE W),.agg (dW x)] (W::aO v) (cm A W m a v bs B rw) λt s'=>t=.tup [] /\ ∃a' v',fc W a' /\ s'=cm A W m a' v' (bs++dQ (tabs m) x) B rw:=by
 obtain ⟨hsn,hse,hsr,hsa,hst,hsf⟩:=pz hs;have hw2:=hw;rw [f6] at hw2;unfold cD.wt at hw2;have hal:=oj x.args;have ok1:=wN hs hok;have ok2:=Gl hok;have hle:(dF m [kr x,bytes (bX x.expr),⟨#[32,123]⟩]).length+(bH (tabs (m+1)) x.thn).length+(dF m [⟨#[125]⟩]).length+(if x.els.length=0 then 0 else (dF m [⟨#[125,32,101,108,115,101,32,123]⟩]).length+(bH (tabs (m+1)) x.els).length)=(dQ (tabs m) x).length:=by
  by_cases he:x.els.length=0
  ·rw [if_pos he,←Ga hk he];(simp only [length_append];try omega)
  rw [if_neg he,←K8 hk he];(simp only [length_append];try omega)
 refine bN 33 func176 ?_;refine go 15 λb1=>?_;by_cases h1:x.kind=8;focus
  refine aC true J (bg h1) (go 9 ?_);refine d9 4 J (fH (show _=kr x by unfold kr;rw [if_pos Y])) (go 4 ?_)
 rotate_left;refine aC false J (bZ h1) (go 7 ?_);refine d9 4 J (fH (show _=kr x by unfold kr;rw [if_neg Y])) (go 4 ?_);all_goals
  refine jR 0 J call173 J (wH x.expr Y hse (ok2.1 Y) _) ?_;refine aW J (be (r:=cZ [(kr x),(bytes (bX x.expr)),(⟨#[32,123]⟩:aG)]) (hps:=(.cons J (.cons J (.cons J .nil)))) sO ?_);refine aW J (jS J call122 J (kA [(kr x),(bytes (bX x.expr)),(⟨#[32,123]⟩:aG)] (_::A) B W m a v bs rw ha (ez J) ig) aK cb jV λa13 v13 hC13=>?_);refine go 7 ?_;refine aW J (uY 0 J call125 J (ih1 (_::A) B W a13 v13 (bs++dF m [(kr x),(bytes (bX x.expr)),(⟨#[32,123]⟩:aG)]) rw hC13 ig) aK cb jV λa14 v14 hC14=>?_);refine go 8 ?_;by_cases h15:(0:Int)<((x.els.length:Nat):Int)
  ·refine aC true J (ek h15) (go 5 ?_);rw [if_neg Y] at hle;refine go 1 ?_;refine aW J (be (r:=cZ [(⟨#[125,32,101,108,115,101,32,123]⟩:aG)]) iM ?_);refine aW J (jS J call122 J (kA [(⟨#[125,32,101,108,115,101,32,123]⟩:aG)] (_::A) B W m a14 v14 ((bs++dF m [(kr x),(bytes (bX x.expr)),(⟨#[32,123]⟩:aG)])++bH (tabs (m+1)) x.thn) rw hC14 (ez J) ig) aK cb jV λa17 v17 hC17=>?_);refine go 6 ?_;refine aW J (uY 0 J call125 J (ih2 (_::A) B W a17 v17 (((bs++dF m [(kr x),(bytes (bX x.expr)),(⟨#[32,123]⟩:aG)])++bH (tabs (m+1)) x.thn)++dF m [(⟨#[125,32,101,108,115,101,32,123]⟩:aG)]) rw hC17 ig) aK cb jV λa18 v18 hC18=>?_);refine go 4 ?_;refine aW J (be (r:=cZ [(⟨#[125]⟩:aG)]) iM ?_);refine aW J (jS J call122 J (kA [(⟨#[125]⟩:aG)] (_::A) B W m a18 v18 ((((bs++dF m [(kr x),(bytes (bX x.expr)),(⟨#[32,123]⟩:aG)])++bH (tabs (m+1)) x.thn)++dF m [(⟨#[125,32,101,108,115,101,32,123]⟩:aG)])++bH (tabs (m+1)) x.els) rw hC18 (ez J) ig) aK cb jV λa19 v19 hC19=>?_);refine go 1 ?_;exact ⟨.inl J,_,cm A W m a19 v19 _ B rw,e_ J,aj (.cons _ (.refl _)) (.refl _),J,a19,v19,hC19,iC (by rw [←K8 hk Y];try simp only [append_assoc])⟩
  refine aC false J (em h15) (go 7 ?_);refine aW J (be (r:=cZ [(⟨#[125]⟩:aG)]) iM ?_);refine aW J (jS J call122 J (kA [(⟨#[125]⟩:aG)] (_::A) B W m a14 v14 ((bs++dF m [(kr x),(bytes (bX x.expr)),(⟨#[32,123]⟩:aG)])++bH (tabs (m+1)) x.thn) rw hC14 (ez J) ig) aK cb jV λa21 v21 hC21=>?_);refine go 1 ?_;exact ⟨.inl J,_,cm A W m a21 v21 _ B rw,e_ J,aj (.cons _ (.refl _)) (.refl _),J,a21,v21,hC21,iC (by rw [←Ga hk Y];try simp only [append_assoc])⟩
def Rl(tb:List UInt8)(l:List aL)(k:Nat)(hk:k<l.length):(bH tb (l.take k)).length+(dQ tb l[k]).length <= (bH tb l).length:=by
 have h1:=Ag tb l (k+1);rw [lZ tb l k hk,length_append] at h1;exact h1
def FH(l:List aL)(A B:List aT)(W m:Nat)(a:Option Addr)(v:aM)(bs:List UInt8)(rw:List aS)(ha:fc W a)(hm:m <= 900)(hl:l.length <= 1000000000)(hb:bs.length+(bH (tabs (m+1)) l).length <= 100000000000000)(ih:∀k (h:k<l.length),∀(A B:List aT) (W:Nat) (a:Option Addr) (v:aM) (bs:List UInt8) (rw:List aS) (ha:fc W a) (hb:bs.length+(dQ (tabs (m+1)) l[k]).length <= 100000000000000),aR prog 149 [cC (aE W),.agg (dW l[k])] (W::aO v) (cm A W (m+1) a v bs B rw) λt s'=>t=.tup [] /\ ∃a' v',fc W a' /\ s'=cm A W (m+1) a' v' (bs++dQ (tabs (m+1)) l[k]) B rw):aR prog 125 [cC (aE W),.c (aB encS l)] (W::aO v) (cm A W m a v bs B rw) λt s'=>t=.tup [] /\ ∃a' v',fc W a' /\ s'=cm A W m a' v' (bs++bH (tabs (m+1)) l) B rw:=by
 refine bN 30 func125 ?_;refine go 6 ?_;refine aF J (cI (bv (show ((m:Nat):Int)+1=((m+1:Nat):Int) by omega)) (w_ J J J Y Y)) (go 14 ?_);refine ir (α:=Option Addr×aM) (λk g=>fc W g.1) (l.length) 15 (λg=>aO g.2++[W]) (λk g=>cm A W (m+1) g.1 g.2 (bs++bH (tabs (m+1)) (l.take k)) B rw) (λk=>[(0,cC (aE W)),(13,.c (aB encS l)),(14,aX l.length)]) (a,v) ha (lV (h:=ao J) (.refl _) (iC (A:=A) (by rw [lM,bH];exact (eC _).symm:bs=(bs++bH (tabs (m+1)) (l.take 0))))) ?_;rintro k ⟨a1,v1⟩ hk hC1;dsimp only at hC1
 try dsimp only
 refine go 2 ?_;by_cases h2:((k:Nat):Int)<((l.length:Nat):Int)
 ·refine aC true J (ck h2) (go 10 ?_);refine aF J (bS encS dW l nj mg k J J J J Y V runUnderlying65 sizeOf120) (go 8 λb1=>?_);refine aW J (uY 0 J call149 J (ih k Y (_::A) B W a1 v1 (bs++bH (tabs (m+1)) (l.take k)) rw hC1 (by have:=Rl (tabs (m+1)) l k Y;(try simp only [length_append]);omega)) aK cb jV λa4 v4 hC4=>?_);refine go 4 ?_;refine bJ J (go 2 ?_);exact ⟨Y,(a4,v4),hC4,lV (.cons _ (.refl _)) (iC (A:=A) (by rw [lZ _ _ _ Y,append_assoc]:((bs++bH (tabs (m+1)) (l.take k))++dQ (tabs (m+1)) l[k])=(bs++bH (tabs (m+1)) (l.take (k+1)))))⟩
 refine aC false J (cg h2) (go 10 ?_);obtain rfl:k=l.length:=Y;rw [gq];refine go 4 ?_;refine aF J (cI (bv (show ((m+1:Nat):Int)-1=((m:Nat):Int) by omega)) (mC)) (go 4 ?_);exact ⟨.inl J,_,cm A W m a1 v1 _ B rw,e_ J,aj (.refl _) (.refl _),J,a1,v1,hC1,J⟩
end
end Go.Proofs.YtjgeihmhppadaaaGreatDoor
