/-
  Proved: for all arguments lockorderlaw04.PrintLong returns true and leaves its arguments as they were. No condition beyond the row's own. (Printed by genlaw_plong.py.)
-/
import Derived.Test.YtojinfngbbajgaaGreatDoorK5J
import Derived.Test.YtojinfngbbajgaaGreatDoorK23J
import Derived.Test.YtojinfngbbajgaaGreatDoorK25J
import Derived.Test.YtojinfngbbajgaaGreatDoorK31J
import Derived.Test.YtojinfngbbajgaaGreatDoorK13J
import Derived.Test.YtojinfngbbajgaaGreatDoorK9J
set_option linter.all false
set_option synthInstance.maxHeartbeats 1000000
set_option synthInstance.maxSize 1000000
set_option maxHeartbeats 8000000
set_option maxRecDepth 100000
namespace Go.Proofs.YtojinfngbbajgaaGreatDoor
open Go.Proofs.Tryz
open List (length_append length_cons length_nil mem_append mem_cons not_mem_nil append_assoc getElem_mem take_of_length_le)
section
open Go.ChangeShapes Go.WideShapes Go.ChangeAt Go.RowKit
theorem bE2{n:Int}(h:(Lit.int .i64 n).wf=true):-9223372036854775808 <= n /\ n <= 9223372036854775807:=by
 simp only [Lit.wf,Bool.and_eq_true,decide_eq_true_eq] at h
 exact h
theorem bVc(b:Bool)(i:Nat):vG b (i+1)=((vG b i++[105,102,32])++(nmX b).data.toList)++[123]:=by
 unfold vG;rw [List.replicate_succ',List.flatten_append];simp [ifX]
theorem bVq(b:Bool):(nmX b).data.toList.length <= 16:=by cases b<;>decide
theorem bVg(b:Bool)(i:Nat):(vG b i).length <= 12+i*20:=by
 have h:=bVq b
 induction i with
 |zero=>simp [vG]
 |succ i ih=>rw [bVc];simp only [length_append,length_cons,length_nil];omega
theorem bVn(b:Bool)(k:Nat):bU3 b (k+1)=bU3 b k++vF b:=by
 unfold bU3;rw [List.replicate_succ',List.flatten_append];simp
theorem bVj(b:Bool):(vF b).length <= 34:=by
 have h:=bVq b
 unfold vF;simp only [length_append,length_cons,length_nil];omega
theorem bVz(b:Bool)(k:Nat):(bU3 b k).length <= k*34:=by
 have h:=bVj b
 induction k with
 |zero=>simp [bU3]
 |succ k ih=>rw [bVn,length_append];omega
abbrev gF(b:Bool)(d k:Nat):List UInt8:=vG b d++bU3 b k
theorem bU4(b:Bool)(d k:Nat):gF b d k++(bytes (vF b)).data.toList=gF b d (k+1):=by
 show vG b d++bU3 b k++vF b=vG b d++bU3 b (k+1)
 rw [bVn,append_assoc]
theorem vP(b:Bool)(d k:Nat):(gF b d k).length <= 12+d*20+k*34:=by
 have h1:=bVg b d
 have h2:=bVz b k
 unfold gF;rw [length_append];omega
theorem bVd(a b:List UInt8):iF a++iF b=iF (a++b):=by simp [iF]
theorem bVw(b:Bool)(K:Nat):∀d,wtS (bU5 b K d) <= 3*K+3*d
 |0=>by
  show wtS (List.replicate K (asX b)) <= _
  induction K with
  |zero=>simp [wtS]
  |succ K ih=>rw [List.replicate_succ,wtS];have:(asX b).wt=3:=rfl;omega
 |d+1=>by
  have ih:=bVw b K d
  show wtS [aJ.mk 7 aK (eX b) .zero [] (bU5 b K d) []] <= _
  rw [wtS,wtS,aJ.wt,wtS]
  have h1:(eX b).nodes=1:=rfl
  have h2:cY.zero.wt=1:=rfl
  have h3:wtA []=0:=rfl
  omega
theorem bU9(b:Bool)(K d:Nat):(cF b K d).wt <= 3*K+3*d+1:=by
 have h:=bVw b K d
 have:(cF b K d).wt=0+0+((1+0+wtS (bU5 b K d))+0):=rfl
 omega
theorem bVv(n0:Int)(n1:Int)(m2:Bool)(hn0:-9223372036854775808 <= n0 /\ n0 <= 9223372036854775807)(hn1:-9223372036854775808 <= n1 /\ n1 <= 9223372036854775807):aL prog 4 [bK5 (.c (.val (.int .i64 n0))),.c (.val (.int .i64 n1)),.c (.val (.bool m2))] [] ⟨[],[]⟩ fun r s'=>r=.c (.val (.bool true)) /\ s'=⟨[],[]⟩:=by
 refine acB func4 rfl ?_
 show AWp prog _ ⟨101,[],⟨[],[]⟩,[(0,bK5 (.c (.val (.int .i64 n0)))),(1,.c (.val (.int .i64 n1))),(2,.c (.val (.bool m2)))]⟩ _
 refine go 8 ?_
 obtain ⟨d,hd,hld⟩:=bEj n1 24 (by omega)
 obtain ⟨jn,hjn,hljn⟩:=bEj n0 100 (by omega)
 refine wc0 rfl call12 rfl (bEl (n1) (24) d (by omega) (by omega) hd _) ?_
 rintro _ _ ⟨rfl,rfl⟩
 refine go 14 ?_
 refine gY rfl (fun h1=>?_) (fun h1=>?_)
 ·refine go 6 ?_
  refine eA 7 rfl (jX (show _=nmX true from rfl)) ?_
  have hnl:=bVq true
  have hil:=bVj true
  refine go 11 ?_
  refine oC (d) 10 (fun i=>[(8,.c (.val (.string (bytes (vG true (i)))))),(9,.c (.val (.string (bytes (List.replicate (i+1) 125))))),(0,bK5 (.c (.val (.int .i64 n0)))),(1,nI d),(7,.c (.val (.string (nmX true))))]) (aG rfl (.refl _) (aG rfl (jX (show _=bytes (vG true 0) from rfl)) (aG rfl (jX (show _=bytes (List.replicate (0+1) 125) from rfl)) (sA rfl)))) fun i hi=>?_
  show AWp prog _ ⟨101,_,_,(10,nI i)::[(8,.c (.val (.string (bytes (vG true (i)))))),(9,.c (.val (.string (bytes (List.replicate (i+1) 125))))),(0,bK5 (.c (.val (.int .i64 n0)))),(1,nI d),(7,.c (.val (.string (nmX true))))]⟩ _
  have hfl:=bVg true i
  refine go 5 ?_
  by_cases h2:((i:Nat):Int)<((d:Nat):Int)
  ·refine wcp true rfl (jZ h2) ?_
   refine go 9 ?_
   refine wyz rfl (aN (vG true (i)) [105,102,32] rfl rfl rfl rfl rfl (by (try simp only [length_append,length_cons,length_nil,List.length_replicate]);omega)) ?_
   refine go 1 ?_
   refine wyz rfl (aN ((vG true (i))++[105,102,32]) ((nmX true).data.toList) rfl rfl rfl rfl (back _) (by (try simp only [length_append,length_cons,length_nil,List.length_replicate]);omega)) ?_
   refine wyz rfl (aN (((vG true (i))++[105,102,32])++(nmX true).data.toList) [123] rfl rfl rfl rfl rfl (by (try simp only [length_append,length_cons,length_nil,List.length_replicate]);omega)) ?_
   refine go 1 ?_
   refine wyz rfl (aN [125] (List.replicate (i+1) 125) rfl rfl rfl rfl rfl (by (try simp only [length_append,length_cons,length_nil,List.length_replicate]);omega)) ?_
   refine go 7 ?_
   refine wad rfl ?_
   refine go 2 ?_
   exact ⟨by omega,(aG rfl (gQ (by omega)) (aG rfl (jX (by rw [bVc true])) (aG rfl (jX rfl) (sA rfl))))⟩
  refine wcp false rfl (jQ h2) ?_
  refine go 10 ?_
  obtain rfl:d=i:=by omega
  refine go 1 ?_
  refine wo rfl (bV5 rfl rfl (by decide) rfl underlying9 underlying23 underlying5 (by rw [kT];omega) (N:=(vG true d).length) (by rw [kT]) (cs:=iF (vG true d)) rfl fun g C pad0 hC hC2 hC3=>?_)
  refine go 10 ?_
  rw [show vG true d=gF true d 0 by unfold gF bU3;simp] at hC3⊢
  refine fM (fun q:Nat×(List AC ⊕ Value)=>(match q.2 with|.inl pad=>⟨101,[g],⟨[⟨g,5,iF (gF true d q.1)++pad⟩],[]⟩,[(12,nI q.1),(11,.c (.val (.slice (some ⟨g,0,none⟩) (gF true d q.1).length C))),(0,bK5 (.c (.val (.int .i64 n0)))),(7,.c (.val (.string (nmX true)))),(9,.c (.val (.string (bytes (List.replicate (d+1) 125)))))]⟩|.inr v=>⟨101,aY v,⟨[],[⟨v,5,1,(gF true d q.1).length,iF (gF true d q.1)⟩]⟩,[(12,nI q.1),(11,.c (.val v)),(0,bK5 (.c (.val (.int .i64 n0)))),(7,.c (.val (.string (nmX true)))),(9,.c (.val (.string (bytes (List.replicate (d+1) 125)))))]⟩:AS)) (fun q=>q.1 <= (900+jn) /\ match q.2 with|.inl pad=>(gF true d q.1).length+pad.length=C|.inr _=>True) (fun q=>(900+jn)-q.1) (0,.inl pad0) (sA rfl) ⟨Nat.zero_le _,hC3⟩ ?_
  rintro ⟨k,pad|v⟩ ⟨hk,hp⟩
  ·dsimp only at hk hp
   show AWp prog _ ⟨101,[g],⟨[⟨g,5,iF (gF true d k)++pad⟩],[]⟩,[(12,nI k),(11,.c (.val (.slice (some ⟨g,0,none⟩) (gF true d k).length C))),(0,bK5 (.c (.val (.int .i64 n0)))),(7,.c (.val (.string (nmX true)))),(9,.c (.val (.string (bytes (List.replicate (d+1) 125)))))]⟩ _
   refine go 5 ?_
   refine wc0 rfl call12 rfl (bEl (n0) (100) jn (by omega) (by omega) hjn _) ?_
   rintro _ _ ⟨rfl,rfl⟩
   refine wad rfl ?_
   by_cases h5:((k:Nat):Int)<(900+((jn:Nat):Int))
   ·refine wcp true rfl (jZ h5) ?_
    refine go 10 ?_
    refine wyz rfl (aN ((nmX true).data.toList) ([61]:List UInt8) rfl rfl rfl (back _) rfl (by (try simp only [length_append,length_cons,length_nil,List.length_replicate]);omega)) ?_
    refine go 1 ?_
    refine wyz rfl (aN ((nmX true).data.toList++([61]:List UInt8)) ((nmX true).data.toList) rfl rfl rfl rfl (back _) (by (try simp only [length_append,length_cons,length_nil,List.length_replicate]);omega)) ?_
    refine wyz rfl (aN (((nmX true).data.toList++([61]:List UInt8))++(nmX true).data.toList) [59] rfl rfl rfl rfl rfl (by (try simp only [length_append,length_cons,length_nil,List.length_replicate]);omega)) ?_
    refine eA 52 rfl (jX (show _=bytes (vF true) from rfl)) ?_
    by_cases hroom:(gF true d k).length+(bytes (vF true)).size <= C
    ·refine wo rfl (bVb (pad:=pad) (bs:=(gF true d k)) (z:=(bytes (vF true))) Tryz.t5 rfl rfl (by decide) rfl rfl underlying23 underlying9 (by kernel_rfl) rfl hp hroom (by simp) (fun _=>by simp) ?_)
     rw [bU4]
     refine go 6 ?_
     refine wad rfl ?_
     refine go 2 ?_
     refine ⟨(k+1,.inl (pad.drop (bytes (vF true)).size)),⟨by dsimp only;omega,by show (gF true d (k+1)).length+(pad.drop _).length=C;rw [←bU4,length_append,List.length_drop];have hz9:(bytes (vF true)).data.toList.length=(bytes (vF true)).size:=Array.length_toList;omega⟩,by show (900+jn)-(k+1)<(900+jn)-k;omega,(sA rfl)⟩
    refine wo rfl (bVa (pad:=pad) (bs:=(gF true d k)) (z:=(bytes (vF true))) Tryz.t5 rfl rfl (by decide) rfl rfl underlying23 underlying9 (by kernel_rfl) rfl rfl rfl (Nat.lt_of_not_le hroom) (by have hz8:(bytes (vF true)).size=(vF true).length:=kT _;have:=vP true d k;omega) fun w1=>?_)
    rw [bU4]
    refine go 6 ?_
    refine wad rfl ?_
    refine go 2 ?_
    refine ⟨(k+1,.inr w1),⟨by dsimp only;omega,trivial⟩,by show (900+jn)-(k+1)<(900+jn)-k;omega,cA (.refl _) (.refl _) (fun b hb=>List.mem_append_left _ hb) (sA rfl)⟩
   refine wcp false rfl (jQ h5) ?_
   refine go 10 ?_
   obtain rfl:k=(900+jn):=by omega
   have hrl:(List.replicate (d+1) (125:UInt8)).length=d+1:=List.length_replicate
   refine go 2 ?_
   by_cases hroom:(gF true d (900+jn)).length+(bytes (List.replicate (d+1) (125:UInt8))).size <= C
   ·refine wo rfl (bVb (pad:=pad) (bs:=(gF true d (900+jn))) (z:=(bytes (List.replicate (d+1) (125:UInt8)))) Tryz.t5 rfl rfl (by decide) rfl rfl underlying23 underlying9 (by kernel_rfl) rfl hp hroom (by simp) (fun _=>by simp) ?_)
    rw [show gF true d (900+jn)++(bytes (List.replicate (d+1) 125)).data.toList=(eB true (900+jn) d) from rfl]
    refine go 5 ?_
    have hTl:(eB true (900+jn) d).length=(gF true d (900+jn)).length+(d+1):=by show (gF true d (900+jn)++List.replicate (d+1) 125).length=_;rw [length_append,List.length_replicate]
    have hz7:(bytes (List.replicate (d+1) (125:UInt8))).size=d+1:=(kT _).trans List.length_replicate
    refine bHa 11 rfl (by omega) hC2 ?_
    refine go 1 ?_
    rcases hlx:iH (eB true (900+jn) d) with L|⟨p0,e0⟩
    ·refine wo rfl (bN9 0 [] rfl rfl (by decide) call13 rfl rfl (fun m=>tQ (eB true (900+jn) d) m _) bDl bDl (fun _=>bDl) ?_)
     rintro _ _ ⟨hr,rfl⟩
     obtain ⟨hpx,hvl,M,hM,hMp⟩:=bVe true (900+jn) d (by omega) (by omega) hlx
     rw [hpx] at hr
     dsimp only at hr
     subst hr
     have hfp:vI (cF true (900+jn) d)=cR (cF true (900+jn) d):=by unfold vI;rw [if_pos hvl]
     have hpl:=bU6 true (900+jn) d (by omega) (by omega)
     refine go 13 fun b2=>?_
     refine wc0 rfl call16 rfl (aLb (eB true (900+jn) d) _) ?_
     rintro _ _ ⟨(⟨tl,hl2,rfl,htl⟩|⟨p2,e2,hl2,rfl,he2⟩),rfl⟩
     ·obtain rfl:L=tl:=fX.ok.inj (hlx.symm.trans hl2)
      refine go 14 ?_
      refine wcp false rfl (by simp [bC]) ?_
      refine go 2 ?_
      refine wcp false rfl (by simp [bC]) ?_
      refine go 9 ?_
      refine wcR 0 rfl call15 rfl (bNl (cF true (900+jn) d) (bU7 _ _ _) (by have:=bU9 true (900+jn) d;omega) _) ?_
      refine go 6 ?_
      refine wo rfl (aDc rfl rfl (by decide) rfl underlying9 underlying23 underlying5 (by rw [kT,hfp];omega) (N:=(vI (cF true (900+jn) d)).length) rfl (cs:=iF (vI (cF true (900+jn) d))) rfl ?_)
      refine wc0 rfl call16 rfl (aLb (vI (cF true (900+jn) d)) _) ?_
      rintro _ _ ⟨(⟨tl,hl2,rfl,htl⟩|⟨p2,e2,hl2,rfl,he2⟩),rfl⟩
      ·rw [hfp] at hl2
       obtain rfl:M=tl:=fX.ok.inj (hM.symm.trans hl2)
       refine go 12 ?_
       refine wcp true rfl (by simp [bC]) ?_
       refine go 3 ?_
       refine wc1 rfl call18 rfl (bU8 L M (by omega) hMp _) ?_
       refine go 2 ?_
       refine wo rfl (bRj 0 rfl rfl (by decide) call14 rfl bPi ?_)
       refine go 5 ?_
       exact ⟨.inr rfl,_,⟨[],[]⟩,aR rfl (aF rfl),aA (List.nil_sublist _) (List.nil_sublist _),rfl,rfl⟩
      rw [hfp,hM] at hl2
      cases hl2
     rw [hlx] at hl2
     cases hl2
    refine wo rfl (bN9 0 [] rfl rfl (by decide) call13 rfl rfl (fun m=>tQ (eB true (900+jn) d) m _) bDl bDl (fun _=>bDl) ?_)
    rintro _ _ ⟨hr,rfl⟩
    rw [aA9 hlx] at hr
    dsimp only at hr
    subst hr
    refine go 13 fun b3=>?_
    refine wc0 rfl call16 rfl (aLb (eB true (900+jn) d) _) ?_
    rintro _ _ ⟨(⟨tl,hl2,rfl,htl⟩|⟨p2,e2,hl2,rfl,he2⟩),rfl⟩
    ·rw [hlx] at hl2
     cases hl2
    obtain ⟨rfl,rfl⟩:p0=p2 /\ e0=e2:=by rw [hlx] at hl2;cases hl2;exact ⟨rfl,rfl⟩
    refine go 14 ?_
    refine wcp false rfl (xG (by omega)) ?_
    refine go 2 ?_
    refine wcp true rfl (xL (by omega)) ?_
    refine go 8 ?_
    refine wcp true rfl (eR (by omega)) ?_
    refine go 1 ?_
    refine wo rfl (bRj 0 rfl rfl (by decide) call14 rfl bPi ?_)
    refine go 6 ?_
    exact ⟨.inr rfl,_,⟨[],[]⟩,aR rfl (aF rfl),aA (List.nil_sublist _) (List.nil_sublist _),rfl,rfl⟩
   refine wo rfl (bVa (pad:=pad) (bs:=(gF true d (900+jn))) (z:=(bytes (List.replicate (d+1) (125:UInt8)))) Tryz.t5 rfl rfl (by decide) rfl rfl underlying23 underlying9 (by kernel_rfl) rfl rfl rfl (Nat.lt_of_not_le hroom) (by have hz8:(bytes (List.replicate (d+1) (125:UInt8))).size=(List.replicate (d+1) (125:UInt8)).length:=kT _;have:=vP true d (900+jn);omega) fun w4=>?_)
   rw [show gF true d (900+jn)++(bytes (List.replicate (d+1) 125)).data.toList=(eB true (900+jn) d) from rfl]
   refine go 5 ?_
   have hTl:(eB true (900+jn) d).length=(gF true d (900+jn)).length+(d+1):=by show (gF true d (900+jn)++List.replicate (d+1) 125).length=_;rw [length_append,List.length_replicate]
   have hz7:(bytes (List.replicate (d+1) (125:UInt8))).size=d+1:=(kT _).trans List.length_replicate
   refine aE1 11 rfl ?_
   refine go 1 ?_
   rcases hlx:iH (eB true (900+jn) d) with L|⟨p0,e0⟩
   ·refine wo rfl (bN9 0 [] rfl rfl (by decide) call13 rfl rfl (fun m=>tQ (eB true (900+jn) d) m _) bDl bDl (fun _=>bDl) ?_)
    rintro _ _ ⟨hr,rfl⟩
    obtain ⟨hpx,hvl,M,hM,hMp⟩:=bVe true (900+jn) d (by omega) (by omega) hlx
    rw [hpx] at hr
    dsimp only at hr
    subst hr
    have hfp:vI (cF true (900+jn) d)=cR (cF true (900+jn) d):=by unfold vI;rw [if_pos hvl]
    have hpl:=bU6 true (900+jn) d (by omega) (by omega)
    refine go 13 fun b5=>?_
    refine wc0 rfl call16 rfl (aLb (eB true (900+jn) d) _) ?_
    rintro _ _ ⟨(⟨tl,hl2,rfl,htl⟩|⟨p2,e2,hl2,rfl,he2⟩),rfl⟩
    ·obtain rfl:L=tl:=fX.ok.inj (hlx.symm.trans hl2)
     refine go 14 ?_
     refine wcp false rfl (by simp [bC]) ?_
     refine go 2 ?_
     refine wcp false rfl (by simp [bC]) ?_
     refine go 9 ?_
     refine wcR 0 rfl call15 rfl (bNl (cF true (900+jn) d) (bU7 _ _ _) (by have:=bU9 true (900+jn) d;omega) _) ?_
     refine go 6 ?_
     refine wo rfl (aDc rfl rfl (by decide) rfl underlying9 underlying23 underlying5 (by rw [kT,hfp];omega) (N:=(vI (cF true (900+jn) d)).length) rfl (cs:=iF (vI (cF true (900+jn) d))) rfl ?_)
     refine wc0 rfl call16 rfl (aLb (vI (cF true (900+jn) d)) _) ?_
     rintro _ _ ⟨(⟨tl,hl2,rfl,htl⟩|⟨p2,e2,hl2,rfl,he2⟩),rfl⟩
     ·rw [hfp] at hl2
      obtain rfl:M=tl:=fX.ok.inj (hM.symm.trans hl2)
      refine go 12 ?_
      refine wcp true rfl (by simp [bC]) ?_
      refine go 3 ?_
      refine wc1 rfl call18 rfl (bU8 L M (by omega) hMp _) ?_
      refine go 2 ?_
      refine wo rfl (bRj 0 rfl rfl (by decide) call14 rfl bPi ?_)
      refine go 5 ?_
      exact ⟨.inr rfl,_,⟨[],[]⟩,aR rfl (aF rfl),aA (List.nil_sublist _) (List.nil_sublist _),rfl,rfl⟩
     rw [hfp,hM] at hl2
     cases hl2
    rw [hlx] at hl2
    cases hl2
   refine wo rfl (bN9 0 [] rfl rfl (by decide) call13 rfl rfl (fun m=>tQ (eB true (900+jn) d) m _) bDl bDl (fun _=>bDl) ?_)
   rintro _ _ ⟨hr,rfl⟩
   rw [aA9 hlx] at hr
   dsimp only at hr
   subst hr
   refine go 13 fun b6=>?_
   refine wc0 rfl call16 rfl (aLb (eB true (900+jn) d) _) ?_
   rintro _ _ ⟨(⟨tl,hl2,rfl,htl⟩|⟨p2,e2,hl2,rfl,he2⟩),rfl⟩
   ·rw [hlx] at hl2
    cases hl2
   obtain ⟨rfl,rfl⟩:p0=p2 /\ e0=e2:=by rw [hlx] at hl2;cases hl2;exact ⟨rfl,rfl⟩
   refine go 14 ?_
   refine wcp false rfl (xG (by omega)) ?_
   refine go 2 ?_
   refine wcp true rfl (xL (by omega)) ?_
   refine go 8 ?_
   refine wcp true rfl (eR (by omega)) ?_
   refine go 1 ?_
   refine wo rfl (bRj 0 rfl rfl (by decide) call14 rfl bPi ?_)
   refine go 6 ?_
   exact ⟨.inr rfl,_,⟨[],[]⟩,aR rfl (aF rfl),aA (List.nil_sublist _) (List.nil_sublist _),rfl,rfl⟩
  dsimp only at hk hp
  show AWp prog _ ⟨101,aY v,⟨[],[⟨v,5,1,(gF true d k).length,iF (gF true d k)⟩]⟩,[(12,nI k),(11,.c (.val v)),(0,bK5 (.c (.val (.int .i64 n0)))),(7,.c (.val (.string (nmX true)))),(9,.c (.val (.string (bytes (List.replicate (d+1) 125)))))]⟩ _
  refine go 5 ?_
  refine wc0 rfl call12 rfl (bEl (n0) (100) jn (by omega) (by omega) hjn _) ?_
  rintro _ _ ⟨rfl,rfl⟩
  refine wad rfl ?_
  by_cases h12:((k:Nat):Int)<(900+((jn:Nat):Int))
  ·refine wcp true rfl (jZ h12) ?_
   refine go 10 ?_
   refine wyz rfl (aN ((nmX true).data.toList) ([61]:List UInt8) rfl rfl rfl (back _) rfl (by (try simp only [length_append,length_cons,length_nil,List.length_replicate]);omega)) ?_
   refine go 1 ?_
   refine wyz rfl (aN ((nmX true).data.toList++([61]:List UInt8)) ((nmX true).data.toList) rfl rfl rfl rfl (back _) (by (try simp only [length_append,length_cons,length_nil,List.length_replicate]);omega)) ?_
   refine wyz rfl (aN (((nmX true).data.toList++([61]:List UInt8))++(nmX true).data.toList) [59] rfl rfl rfl rfl rfl (by (try simp only [length_append,length_cons,length_nil,List.length_replicate]);omega)) ?_
   refine eA 52 rfl (jX (show _=bytes (vF true) from rfl)) ?_
   refine wo rfl (bHb [] Tryz.t5 (z:=(bytes (vF true))) rfl rfl (by decide) rfl rfl underlying23 underlying9 (by kernel_rfl) rfl rfl rfl (by unfold maxLen;have hz8:(bytes (vF true)).size=(vF true).length:=kT _;have:=vP true d k;omega) (by have hz8:(bytes (vF true)).size=(vF true).length:=kT _;have:=vP true d k;omega) (N:=((gF true d k)++(bytes (vF true)).data.toList).length) (@length_append _ (gF true d k) (bytes (vF true)).data.toList).symm rfl (fun _ b hb=>by simp [hb]) (fun b hb=>by simp [hb]) (bVd (gF true d k) (bytes (vF true)).data.toList) fun w7=>?_)
   rw [bU4]
   refine go 6 ?_
   refine wad rfl ?_
   refine go 2 ?_
   refine ⟨(k+1,.inr w7),⟨by dsimp only;omega,trivial⟩,by show (900+jn)-(k+1)<(900+jn)-k;omega,cA (.refl _) (.refl _) (fun b hb=>List.mem_append_left _ hb) (sA rfl)⟩
  refine wcp false rfl (jQ h12) ?_
  refine go 10 ?_
  obtain rfl:k=(900+jn):=by omega
  have hrl:(List.replicate (d+1) (125:UInt8)).length=d+1:=List.length_replicate
  refine go 2 ?_
  refine wo rfl (bHb [] Tryz.t5 (z:=(bytes (List.replicate (d+1) (125:UInt8)))) rfl rfl (by decide) rfl rfl underlying23 underlying9 (by kernel_rfl) rfl rfl rfl (by unfold maxLen;have hz8:(bytes (List.replicate (d+1) (125:UInt8))).size=(List.replicate (d+1) (125:UInt8)).length:=kT _;have:=vP true d (900+jn);omega) (by have hz8:(bytes (List.replicate (d+1) (125:UInt8))).size=(List.replicate (d+1) (125:UInt8)).length:=kT _;have:=vP true d (900+jn);omega) (N:=((gF true d (900+jn))++(bytes (List.replicate (d+1) (125:UInt8))).data.toList).length) (@length_append _ (gF true d (900+jn)) (bytes (List.replicate (d+1) (125:UInt8))).data.toList).symm rfl (fun _ b hb=>by simp [hb]) (fun b hb=>by simp [hb]) (bVd (gF true d (900+jn)) (bytes (List.replicate (d+1) (125:UInt8))).data.toList) fun w8=>?_)
  rw [show gF true d (900+jn)++(bytes (List.replicate (d+1) 125)).data.toList=(eB true (900+jn) d) from rfl]
  refine go 5 ?_
  have hTl:(eB true (900+jn) d).length=(gF true d (900+jn)).length+(d+1):=by show (gF true d (900+jn)++List.replicate (d+1) 125).length=_;rw [length_append,List.length_replicate]
  have hz7:(bytes (List.replicate (d+1) (125:UInt8))).size=d+1:=(kT _).trans List.length_replicate
  refine aE1 11 rfl ?_
  refine go 1 ?_
  rcases hlx:iH (eB true (900+jn) d) with L|⟨p0,e0⟩
  ·refine wo rfl (bN9 0 [] rfl rfl (by decide) call13 rfl rfl (fun m=>tQ (eB true (900+jn) d) m _) bDl bDl (fun _=>bDl) ?_)
   rintro _ _ ⟨hr,rfl⟩
   obtain ⟨hpx,hvl,M,hM,hMp⟩:=bVe true (900+jn) d (by omega) (by omega) hlx
   rw [hpx] at hr
   dsimp only at hr
   subst hr
   have hfp:vI (cF true (900+jn) d)=cR (cF true (900+jn) d):=by unfold vI;rw [if_pos hvl]
   have hpl:=bU6 true (900+jn) d (by omega) (by omega)
   refine go 13 fun b9=>?_
   refine wc0 rfl call16 rfl (aLb (eB true (900+jn) d) _) ?_
   rintro _ _ ⟨(⟨tl,hl2,rfl,htl⟩|⟨p2,e2,hl2,rfl,he2⟩),rfl⟩
   ·obtain rfl:L=tl:=fX.ok.inj (hlx.symm.trans hl2)
    refine go 14 ?_
    refine wcp false rfl (by simp [bC]) ?_
    refine go 2 ?_
    refine wcp false rfl (by simp [bC]) ?_
    refine go 9 ?_
    refine wcR 0 rfl call15 rfl (bNl (cF true (900+jn) d) (bU7 _ _ _) (by have:=bU9 true (900+jn) d;omega) _) ?_
    refine go 6 ?_
    refine wo rfl (aDc rfl rfl (by decide) rfl underlying9 underlying23 underlying5 (by rw [kT,hfp];omega) (N:=(vI (cF true (900+jn) d)).length) rfl (cs:=iF (vI (cF true (900+jn) d))) rfl ?_)
    refine wc0 rfl call16 rfl (aLb (vI (cF true (900+jn) d)) _) ?_
    rintro _ _ ⟨(⟨tl,hl2,rfl,htl⟩|⟨p2,e2,hl2,rfl,he2⟩),rfl⟩
    ·rw [hfp] at hl2
     obtain rfl:M=tl:=fX.ok.inj (hM.symm.trans hl2)
     refine go 12 ?_
     refine wcp true rfl (by simp [bC]) ?_
     refine go 3 ?_
     refine wc1 rfl call18 rfl (bU8 L M (by omega) hMp _) ?_
     refine go 2 ?_
     refine wo rfl (bRj 0 rfl rfl (by decide) call14 rfl bPi ?_)
     refine go 5 ?_
     exact ⟨.inr rfl,_,⟨[],[]⟩,aR rfl (aF rfl),aA (List.nil_sublist _) (List.nil_sublist _),rfl,rfl⟩
    rw [hfp,hM] at hl2
    cases hl2
   rw [hlx] at hl2
   cases hl2
  refine wo rfl (bN9 0 [] rfl rfl (by decide) call13 rfl rfl (fun m=>tQ (eB true (900+jn) d) m _) bDl bDl (fun _=>bDl) ?_)
  rintro _ _ ⟨hr,rfl⟩
  rw [aA9 hlx] at hr
  dsimp only at hr
  subst hr
  refine go 13 fun b10=>?_
  refine wc0 rfl call16 rfl (aLb (eB true (900+jn) d) _) ?_
  rintro _ _ ⟨(⟨tl,hl2,rfl,htl⟩|⟨p2,e2,hl2,rfl,he2⟩),rfl⟩
  ·rw [hlx] at hl2
   cases hl2
  obtain ⟨rfl,rfl⟩:p0=p2 /\ e0=e2:=by rw [hlx] at hl2;cases hl2;exact ⟨rfl,rfl⟩
  refine go 14 ?_
  refine wcp false rfl (xG (by omega)) ?_
  refine go 2 ?_
  refine wcp true rfl (xL (by omega)) ?_
  refine go 8 ?_
  refine wcp true rfl (eR (by omega)) ?_
  refine go 1 ?_
  refine wo rfl (bRj 0 rfl rfl (by decide) call14 rfl bPi ?_)
  refine go 6 ?_
  exact ⟨.inr rfl,_,⟨[],[]⟩,aR rfl (aF rfl),aA (List.nil_sublist _) (List.nil_sublist _),rfl,rfl⟩
 refine go 4 ?_
 refine eA 7 rfl (jX (show _=nmX false from rfl)) ?_
 have hnl:=bVq false
 have hil:=bVj false
 refine go 11 ?_
 refine oC (d) 10 (fun i=>[(8,.c (.val (.string (bytes (vG false (i)))))),(9,.c (.val (.string (bytes (List.replicate (i+1) 125))))),(0,bK5 (.c (.val (.int .i64 n0)))),(1,nI d),(7,.c (.val (.string (nmX false))))]) (aG rfl (.refl _) (aG rfl (jX (show _=bytes (vG false 0) from rfl)) (aG rfl (jX (show _=bytes (List.replicate (0+1) 125) from rfl)) (sA rfl)))) fun i hi=>?_
 show AWp prog _ ⟨101,_,_,(10,nI i)::[(8,.c (.val (.string (bytes (vG false (i)))))),(9,.c (.val (.string (bytes (List.replicate (i+1) 125))))),(0,bK5 (.c (.val (.int .i64 n0)))),(1,nI d),(7,.c (.val (.string (nmX false))))]⟩ _
 have hfl:=bVg false i
 refine go 5 ?_
 by_cases h17:((i:Nat):Int)<((d:Nat):Int)
 ·refine wcp true rfl (jZ h17) ?_
  refine go 9 ?_
  refine wyz rfl (aN (vG false (i)) [105,102,32] rfl rfl rfl rfl rfl (by (try simp only [length_append,length_cons,length_nil,List.length_replicate]);omega)) ?_
  refine go 1 ?_
  refine wyz rfl (aN ((vG false (i))++[105,102,32]) ((nmX false).data.toList) rfl rfl rfl rfl (back _) (by (try simp only [length_append,length_cons,length_nil,List.length_replicate]);omega)) ?_
  refine wyz rfl (aN (((vG false (i))++[105,102,32])++(nmX false).data.toList) [123] rfl rfl rfl rfl rfl (by (try simp only [length_append,length_cons,length_nil,List.length_replicate]);omega)) ?_
  refine go 1 ?_
  refine wyz rfl (aN [125] (List.replicate (i+1) 125) rfl rfl rfl rfl rfl (by (try simp only [length_append,length_cons,length_nil,List.length_replicate]);omega)) ?_
  refine go 7 ?_
  refine wad rfl ?_
  refine go 2 ?_
  exact ⟨by omega,(aG rfl (gQ (by omega)) (aG rfl (jX (by rw [bVc false])) (aG rfl (jX rfl) (sA rfl))))⟩
 refine wcp false rfl (jQ h17) ?_
 refine go 10 ?_
 obtain rfl:d=i:=by omega
 refine go 1 ?_
 refine wo rfl (bV5 rfl rfl (by decide) rfl underlying9 underlying23 underlying5 (by rw [kT];omega) (N:=(vG false d).length) (by rw [kT]) (cs:=iF (vG false d)) rfl fun g C pad0 hC hC2 hC3=>?_)
 refine go 10 ?_
 rw [show vG false d=gF false d 0 by unfold gF bU3;simp] at hC3⊢
 refine fM (fun q:Nat×(List AC ⊕ Value)=>(match q.2 with|.inl pad=>⟨101,[g],⟨[⟨g,5,iF (gF false d q.1)++pad⟩],[]⟩,[(12,nI q.1),(11,.c (.val (.slice (some ⟨g,0,none⟩) (gF false d q.1).length C))),(0,bK5 (.c (.val (.int .i64 n0)))),(7,.c (.val (.string (nmX false)))),(9,.c (.val (.string (bytes (List.replicate (d+1) 125)))))]⟩|.inr v=>⟨101,aY v,⟨[],[⟨v,5,1,(gF false d q.1).length,iF (gF false d q.1)⟩]⟩,[(12,nI q.1),(11,.c (.val v)),(0,bK5 (.c (.val (.int .i64 n0)))),(7,.c (.val (.string (nmX false)))),(9,.c (.val (.string (bytes (List.replicate (d+1) 125)))))]⟩:AS)) (fun q=>q.1 <= (900+jn) /\ match q.2 with|.inl pad=>(gF false d q.1).length+pad.length=C|.inr _=>True) (fun q=>(900+jn)-q.1) (0,.inl pad0) (sA rfl) ⟨Nat.zero_le _,hC3⟩ ?_
 rintro ⟨k,pad|v⟩ ⟨hk,hp⟩
 ·dsimp only at hk hp
  show AWp prog _ ⟨101,[g],⟨[⟨g,5,iF (gF false d k)++pad⟩],[]⟩,[(12,nI k),(11,.c (.val (.slice (some ⟨g,0,none⟩) (gF false d k).length C))),(0,bK5 (.c (.val (.int .i64 n0)))),(7,.c (.val (.string (nmX false)))),(9,.c (.val (.string (bytes (List.replicate (d+1) 125)))))]⟩ _
  refine go 5 ?_
  refine wc0 rfl call12 rfl (bEl (n0) (100) jn (by omega) (by omega) hjn _) ?_
  rintro _ _ ⟨rfl,rfl⟩
  refine wad rfl ?_
  by_cases h20:((k:Nat):Int)<(900+((jn:Nat):Int))
  ·refine wcp true rfl (jZ h20) ?_
   refine go 10 ?_
   refine wyz rfl (aN ((nmX false).data.toList) ([61]:List UInt8) rfl rfl rfl (back _) rfl (by (try simp only [length_append,length_cons,length_nil,List.length_replicate]);omega)) ?_
   refine go 1 ?_
   refine wyz rfl (aN ((nmX false).data.toList++([61]:List UInt8)) ((nmX false).data.toList) rfl rfl rfl rfl (back _) (by (try simp only [length_append,length_cons,length_nil,List.length_replicate]);omega)) ?_
   refine wyz rfl (aN (((nmX false).data.toList++([61]:List UInt8))++(nmX false).data.toList) [59] rfl rfl rfl rfl rfl (by (try simp only [length_append,length_cons,length_nil,List.length_replicate]);omega)) ?_
   refine eA 52 rfl (jX (show _=bytes (vF false) from rfl)) ?_
   by_cases hroom:(gF false d k).length+(bytes (vF false)).size <= C
   ·refine wo rfl (bVb (pad:=pad) (bs:=(gF false d k)) (z:=(bytes (vF false))) Tryz.t5 rfl rfl (by decide) rfl rfl underlying23 underlying9 (by kernel_rfl) rfl hp hroom (by simp) (fun _=>by simp) ?_)
    rw [bU4]
    refine go 6 ?_
    refine wad rfl ?_
    refine go 2 ?_
    refine ⟨(k+1,.inl (pad.drop (bytes (vF false)).size)),⟨by dsimp only;omega,by show (gF false d (k+1)).length+(pad.drop _).length=C;rw [←bU4,length_append,List.length_drop];have hz9:(bytes (vF false)).data.toList.length=(bytes (vF false)).size:=Array.length_toList;omega⟩,by show (900+jn)-(k+1)<(900+jn)-k;omega,(sA rfl)⟩
   refine wo rfl (bVa (pad:=pad) (bs:=(gF false d k)) (z:=(bytes (vF false))) Tryz.t5 rfl rfl (by decide) rfl rfl underlying23 underlying9 (by kernel_rfl) rfl rfl rfl (Nat.lt_of_not_le hroom) (by have hz8:(bytes (vF false)).size=(vF false).length:=kT _;have:=vP false d k;omega) fun w11=>?_)
   rw [bU4]
   refine go 6 ?_
   refine wad rfl ?_
   refine go 2 ?_
   refine ⟨(k+1,.inr w11),⟨by dsimp only;omega,trivial⟩,by show (900+jn)-(k+1)<(900+jn)-k;omega,cA (.refl _) (.refl _) (fun b hb=>List.mem_append_left _ hb) (sA rfl)⟩
  refine wcp false rfl (jQ h20) ?_
  refine go 10 ?_
  obtain rfl:k=(900+jn):=by omega
  have hrl:(List.replicate (d+1) (125:UInt8)).length=d+1:=List.length_replicate
  refine go 2 ?_
  by_cases hroom:(gF false d (900+jn)).length+(bytes (List.replicate (d+1) (125:UInt8))).size <= C
  ·refine wo rfl (bVb (pad:=pad) (bs:=(gF false d (900+jn))) (z:=(bytes (List.replicate (d+1) (125:UInt8)))) Tryz.t5 rfl rfl (by decide) rfl rfl underlying23 underlying9 (by kernel_rfl) rfl hp hroom (by simp) (fun _=>by simp) ?_)
   rw [show gF false d (900+jn)++(bytes (List.replicate (d+1) 125)).data.toList=(eB false (900+jn) d) from rfl]
   refine go 5 ?_
   have hTl:(eB false (900+jn) d).length=(gF false d (900+jn)).length+(d+1):=by show (gF false d (900+jn)++List.replicate (d+1) 125).length=_;rw [length_append,List.length_replicate]
   have hz7:(bytes (List.replicate (d+1) (125:UInt8))).size=d+1:=(kT _).trans List.length_replicate
   refine bHa 11 rfl (by omega) hC2 ?_
   refine go 1 ?_
   rcases hlx:iH (eB false (900+jn) d) with L|⟨p0,e0⟩
   ·refine wo rfl (bN9 0 [] rfl rfl (by decide) call13 rfl rfl (fun m=>tQ (eB false (900+jn) d) m _) bDl bDl (fun _=>bDl) ?_)
    rintro _ _ ⟨hr,rfl⟩
    obtain ⟨hpx,hvl,M,hM,hMp⟩:=bVe false (900+jn) d (by omega) (by omega) hlx
    rw [hpx] at hr
    dsimp only at hr
    subst hr
    have hfp:vI (cF false (900+jn) d)=cR (cF false (900+jn) d):=by unfold vI;rw [if_pos hvl]
    have hpl:=bU6 false (900+jn) d (by omega) (by omega)
    refine go 13 fun b12=>?_
    refine wc0 rfl call16 rfl (aLb (eB false (900+jn) d) _) ?_
    rintro _ _ ⟨(⟨tl,hl2,rfl,htl⟩|⟨p2,e2,hl2,rfl,he2⟩),rfl⟩
    ·obtain rfl:L=tl:=fX.ok.inj (hlx.symm.trans hl2)
     refine go 14 ?_
     refine wcp false rfl (by simp [bC]) ?_
     refine go 2 ?_
     refine wcp false rfl (by simp [bC]) ?_
     refine go 9 ?_
     refine wcR 0 rfl call15 rfl (bNl (cF false (900+jn) d) (bU7 _ _ _) (by have:=bU9 false (900+jn) d;omega) _) ?_
     refine go 6 ?_
     refine wo rfl (aDc rfl rfl (by decide) rfl underlying9 underlying23 underlying5 (by rw [kT,hfp];omega) (N:=(vI (cF false (900+jn) d)).length) rfl (cs:=iF (vI (cF false (900+jn) d))) rfl ?_)
     refine wc0 rfl call16 rfl (aLb (vI (cF false (900+jn) d)) _) ?_
     rintro _ _ ⟨(⟨tl,hl2,rfl,htl⟩|⟨p2,e2,hl2,rfl,he2⟩),rfl⟩
     ·rw [hfp] at hl2
      obtain rfl:M=tl:=fX.ok.inj (hM.symm.trans hl2)
      refine go 12 ?_
      refine wcp true rfl (by simp [bC]) ?_
      refine go 3 ?_
      refine wc1 rfl call18 rfl (bU8 L M (by omega) hMp _) ?_
      refine go 2 ?_
      refine wo rfl (bRj 0 rfl rfl (by decide) call14 rfl bPi ?_)
      refine go 5 ?_
      exact ⟨.inr rfl,_,⟨[],[]⟩,aR rfl (aF rfl),aA (List.nil_sublist _) (List.nil_sublist _),rfl,rfl⟩
     rw [hfp,hM] at hl2
     cases hl2
    rw [hlx] at hl2
    cases hl2
   refine wo rfl (bN9 0 [] rfl rfl (by decide) call13 rfl rfl (fun m=>tQ (eB false (900+jn) d) m _) bDl bDl (fun _=>bDl) ?_)
   rintro _ _ ⟨hr,rfl⟩
   rw [aA9 hlx] at hr
   dsimp only at hr
   subst hr
   refine go 13 fun b13=>?_
   refine wc0 rfl call16 rfl (aLb (eB false (900+jn) d) _) ?_
   rintro _ _ ⟨(⟨tl,hl2,rfl,htl⟩|⟨p2,e2,hl2,rfl,he2⟩),rfl⟩
   ·rw [hlx] at hl2
    cases hl2
   obtain ⟨rfl,rfl⟩:p0=p2 /\ e0=e2:=by rw [hlx] at hl2;cases hl2;exact ⟨rfl,rfl⟩
   refine go 14 ?_
   refine wcp false rfl (xG (by omega)) ?_
   refine go 2 ?_
   refine wcp true rfl (xL (by omega)) ?_
   refine go 8 ?_
   refine wcp true rfl (eR (by omega)) ?_
   refine go 1 ?_
   refine wo rfl (bRj 0 rfl rfl (by decide) call14 rfl bPi ?_)
   refine go 6 ?_
   exact ⟨.inr rfl,_,⟨[],[]⟩,aR rfl (aF rfl),aA (List.nil_sublist _) (List.nil_sublist _),rfl,rfl⟩
  refine wo rfl (bVa (pad:=pad) (bs:=(gF false d (900+jn))) (z:=(bytes (List.replicate (d+1) (125:UInt8)))) Tryz.t5 rfl rfl (by decide) rfl rfl underlying23 underlying9 (by kernel_rfl) rfl rfl rfl (Nat.lt_of_not_le hroom) (by have hz8:(bytes (List.replicate (d+1) (125:UInt8))).size=(List.replicate (d+1) (125:UInt8)).length:=kT _;have:=vP false d (900+jn);omega) fun w14=>?_)
  rw [show gF false d (900+jn)++(bytes (List.replicate (d+1) 125)).data.toList=(eB false (900+jn) d) from rfl]
  refine go 5 ?_
  have hTl:(eB false (900+jn) d).length=(gF false d (900+jn)).length+(d+1):=by show (gF false d (900+jn)++List.replicate (d+1) 125).length=_;rw [length_append,List.length_replicate]
  have hz7:(bytes (List.replicate (d+1) (125:UInt8))).size=d+1:=(kT _).trans List.length_replicate
  refine aE1 11 rfl ?_
  refine go 1 ?_
  rcases hlx:iH (eB false (900+jn) d) with L|⟨p0,e0⟩
  ·refine wo rfl (bN9 0 [] rfl rfl (by decide) call13 rfl rfl (fun m=>tQ (eB false (900+jn) d) m _) bDl bDl (fun _=>bDl) ?_)
   rintro _ _ ⟨hr,rfl⟩
   obtain ⟨hpx,hvl,M,hM,hMp⟩:=bVe false (900+jn) d (by omega) (by omega) hlx
   rw [hpx] at hr
   dsimp only at hr
   subst hr
   have hfp:vI (cF false (900+jn) d)=cR (cF false (900+jn) d):=by unfold vI;rw [if_pos hvl]
   have hpl:=bU6 false (900+jn) d (by omega) (by omega)
   refine go 13 fun b15=>?_
   refine wc0 rfl call16 rfl (aLb (eB false (900+jn) d) _) ?_
   rintro _ _ ⟨(⟨tl,hl2,rfl,htl⟩|⟨p2,e2,hl2,rfl,he2⟩),rfl⟩
   ·obtain rfl:L=tl:=fX.ok.inj (hlx.symm.trans hl2)
    refine go 14 ?_
    refine wcp false rfl (by simp [bC]) ?_
    refine go 2 ?_
    refine wcp false rfl (by simp [bC]) ?_
    refine go 9 ?_
    refine wcR 0 rfl call15 rfl (bNl (cF false (900+jn) d) (bU7 _ _ _) (by have:=bU9 false (900+jn) d;omega) _) ?_
    refine go 6 ?_
    refine wo rfl (aDc rfl rfl (by decide) rfl underlying9 underlying23 underlying5 (by rw [kT,hfp];omega) (N:=(vI (cF false (900+jn) d)).length) rfl (cs:=iF (vI (cF false (900+jn) d))) rfl ?_)
    refine wc0 rfl call16 rfl (aLb (vI (cF false (900+jn) d)) _) ?_
    rintro _ _ ⟨(⟨tl,hl2,rfl,htl⟩|⟨p2,e2,hl2,rfl,he2⟩),rfl⟩
    ·rw [hfp] at hl2
     obtain rfl:M=tl:=fX.ok.inj (hM.symm.trans hl2)
     refine go 12 ?_
     refine wcp true rfl (by simp [bC]) ?_
     refine go 3 ?_
     refine wc1 rfl call18 rfl (bU8 L M (by omega) hMp _) ?_
     refine go 2 ?_
     refine wo rfl (bRj 0 rfl rfl (by decide) call14 rfl bPi ?_)
     refine go 5 ?_
     exact ⟨.inr rfl,_,⟨[],[]⟩,aR rfl (aF rfl),aA (List.nil_sublist _) (List.nil_sublist _),rfl,rfl⟩
    rw [hfp,hM] at hl2
    cases hl2
   rw [hlx] at hl2
   cases hl2
  refine wo rfl (bN9 0 [] rfl rfl (by decide) call13 rfl rfl (fun m=>tQ (eB false (900+jn) d) m _) bDl bDl (fun _=>bDl) ?_)
  rintro _ _ ⟨hr,rfl⟩
  rw [aA9 hlx] at hr
  dsimp only at hr
  subst hr
  refine go 13 fun b16=>?_
  refine wc0 rfl call16 rfl (aLb (eB false (900+jn) d) _) ?_
  rintro _ _ ⟨(⟨tl,hl2,rfl,htl⟩|⟨p2,e2,hl2,rfl,he2⟩),rfl⟩
  ·rw [hlx] at hl2
   cases hl2
  obtain ⟨rfl,rfl⟩:p0=p2 /\ e0=e2:=by rw [hlx] at hl2;cases hl2;exact ⟨rfl,rfl⟩
  refine go 14 ?_
  refine wcp false rfl (xG (by omega)) ?_
  refine go 2 ?_
  refine wcp true rfl (xL (by omega)) ?_
  refine go 8 ?_
  refine wcp true rfl (eR (by omega)) ?_
  refine go 1 ?_
  refine wo rfl (bRj 0 rfl rfl (by decide) call14 rfl bPi ?_)
  refine go 6 ?_
  exact ⟨.inr rfl,_,⟨[],[]⟩,aR rfl (aF rfl),aA (List.nil_sublist _) (List.nil_sublist _),rfl,rfl⟩
 dsimp only at hk hp
 show AWp prog _ ⟨101,aY v,⟨[],[⟨v,5,1,(gF false d k).length,iF (gF false d k)⟩]⟩,[(12,nI k),(11,.c (.val v)),(0,bK5 (.c (.val (.int .i64 n0)))),(7,.c (.val (.string (nmX false)))),(9,.c (.val (.string (bytes (List.replicate (d+1) 125)))))]⟩ _
 refine go 5 ?_
 refine wc0 rfl call12 rfl (bEl (n0) (100) jn (by omega) (by omega) hjn _) ?_
 rintro _ _ ⟨rfl,rfl⟩
 refine wad rfl ?_
 by_cases h27:((k:Nat):Int)<(900+((jn:Nat):Int))
 ·refine wcp true rfl (jZ h27) ?_
  refine go 10 ?_
  refine wyz rfl (aN ((nmX false).data.toList) ([61]:List UInt8) rfl rfl rfl (back _) rfl (by (try simp only [length_append,length_cons,length_nil,List.length_replicate]);omega)) ?_
  refine go 1 ?_
  refine wyz rfl (aN ((nmX false).data.toList++([61]:List UInt8)) ((nmX false).data.toList) rfl rfl rfl rfl (back _) (by (try simp only [length_append,length_cons,length_nil,List.length_replicate]);omega)) ?_
  refine wyz rfl (aN (((nmX false).data.toList++([61]:List UInt8))++(nmX false).data.toList) [59] rfl rfl rfl rfl rfl (by (try simp only [length_append,length_cons,length_nil,List.length_replicate]);omega)) ?_
  refine eA 52 rfl (jX (show _=bytes (vF false) from rfl)) ?_
  refine wo rfl (bHb [] Tryz.t5 (z:=(bytes (vF false))) rfl rfl (by decide) rfl rfl underlying23 underlying9 (by kernel_rfl) rfl rfl rfl (by unfold maxLen;have hz8:(bytes (vF false)).size=(vF false).length:=kT _;have:=vP false d k;omega) (by have hz8:(bytes (vF false)).size=(vF false).length:=kT _;have:=vP false d k;omega) (N:=((gF false d k)++(bytes (vF false)).data.toList).length) (@length_append _ (gF false d k) (bytes (vF false)).data.toList).symm rfl (fun _ b hb=>by simp [hb]) (fun b hb=>by simp [hb]) (bVd (gF false d k) (bytes (vF false)).data.toList) fun w17=>?_)
  rw [bU4]
  refine go 6 ?_
  refine wad rfl ?_
  refine go 2 ?_
  refine ⟨(k+1,.inr w17),⟨by dsimp only;omega,trivial⟩,by show (900+jn)-(k+1)<(900+jn)-k;omega,cA (.refl _) (.refl _) (fun b hb=>List.mem_append_left _ hb) (sA rfl)⟩
 refine wcp false rfl (jQ h27) ?_
 refine go 10 ?_
 obtain rfl:k=(900+jn):=by omega
 have hrl:(List.replicate (d+1) (125:UInt8)).length=d+1:=List.length_replicate
 refine go 2 ?_
 refine wo rfl (bHb [] Tryz.t5 (z:=(bytes (List.replicate (d+1) (125:UInt8)))) rfl rfl (by decide) rfl rfl underlying23 underlying9 (by kernel_rfl) rfl rfl rfl (by unfold maxLen;have hz8:(bytes (List.replicate (d+1) (125:UInt8))).size=(List.replicate (d+1) (125:UInt8)).length:=kT _;have:=vP false d (900+jn);omega) (by have hz8:(bytes (List.replicate (d+1) (125:UInt8))).size=(List.replicate (d+1) (125:UInt8)).length:=kT _;have:=vP false d (900+jn);omega) (N:=((gF false d (900+jn))++(bytes (List.replicate (d+1) (125:UInt8))).data.toList).length) (@length_append _ (gF false d (900+jn)) (bytes (List.replicate (d+1) (125:UInt8))).data.toList).symm rfl (fun _ b hb=>by simp [hb]) (fun b hb=>by simp [hb]) (bVd (gF false d (900+jn)) (bytes (List.replicate (d+1) (125:UInt8))).data.toList) fun w18=>?_)
 rw [show gF false d (900+jn)++(bytes (List.replicate (d+1) 125)).data.toList=(eB false (900+jn) d) from rfl]
 refine go 5 ?_
 have hTl:(eB false (900+jn) d).length=(gF false d (900+jn)).length+(d+1):=by show (gF false d (900+jn)++List.replicate (d+1) 125).length=_;rw [length_append,List.length_replicate]
 have hz7:(bytes (List.replicate (d+1) (125:UInt8))).size=d+1:=(kT _).trans List.length_replicate
 refine aE1 11 rfl ?_
 refine go 1 ?_
 rcases hlx:iH (eB false (900+jn) d) with L|⟨p0,e0⟩
 ·refine wo rfl (bN9 0 [] rfl rfl (by decide) call13 rfl rfl (fun m=>tQ (eB false (900+jn) d) m _) bDl bDl (fun _=>bDl) ?_)
  rintro _ _ ⟨hr,rfl⟩
  obtain ⟨hpx,hvl,M,hM,hMp⟩:=bVe false (900+jn) d (by omega) (by omega) hlx
  rw [hpx] at hr
  dsimp only at hr
  subst hr
  have hfp:vI (cF false (900+jn) d)=cR (cF false (900+jn) d):=by unfold vI;rw [if_pos hvl]
  have hpl:=bU6 false (900+jn) d (by omega) (by omega)
  refine go 13 fun b19=>?_
  refine wc0 rfl call16 rfl (aLb (eB false (900+jn) d) _) ?_
  rintro _ _ ⟨(⟨tl,hl2,rfl,htl⟩|⟨p2,e2,hl2,rfl,he2⟩),rfl⟩
  ·obtain rfl:L=tl:=fX.ok.inj (hlx.symm.trans hl2)
   refine go 14 ?_
   refine wcp false rfl (by simp [bC]) ?_
   refine go 2 ?_
   refine wcp false rfl (by simp [bC]) ?_
   refine go 9 ?_
   refine wcR 0 rfl call15 rfl (bNl (cF false (900+jn) d) (bU7 _ _ _) (by have:=bU9 false (900+jn) d;omega) _) ?_
   refine go 6 ?_
   refine wo rfl (aDc rfl rfl (by decide) rfl underlying9 underlying23 underlying5 (by rw [kT,hfp];omega) (N:=(vI (cF false (900+jn) d)).length) rfl (cs:=iF (vI (cF false (900+jn) d))) rfl ?_)
   refine wc0 rfl call16 rfl (aLb (vI (cF false (900+jn) d)) _) ?_
   rintro _ _ ⟨(⟨tl,hl2,rfl,htl⟩|⟨p2,e2,hl2,rfl,he2⟩),rfl⟩
   ·rw [hfp] at hl2
    obtain rfl:M=tl:=fX.ok.inj (hM.symm.trans hl2)
    refine go 12 ?_
    refine wcp true rfl (by simp [bC]) ?_
    refine go 3 ?_
    refine wc1 rfl call18 rfl (bU8 L M (by omega) hMp _) ?_
    refine go 2 ?_
    refine wo rfl (bRj 0 rfl rfl (by decide) call14 rfl bPi ?_)
    refine go 5 ?_
    exact ⟨.inr rfl,_,⟨[],[]⟩,aR rfl (aF rfl),aA (List.nil_sublist _) (List.nil_sublist _),rfl,rfl⟩
   rw [hfp,hM] at hl2
   cases hl2
  rw [hlx] at hl2
  cases hl2
 refine wo rfl (bN9 0 [] rfl rfl (by decide) call13 rfl rfl (fun m=>tQ (eB false (900+jn) d) m _) bDl bDl (fun _=>bDl) ?_)
 rintro _ _ ⟨hr,rfl⟩
 rw [aA9 hlx] at hr
 dsimp only at hr
 subst hr
 refine go 13 fun b20=>?_
 refine wc0 rfl call16 rfl (aLb (eB false (900+jn) d) _) ?_
 rintro _ _ ⟨(⟨tl,hl2,rfl,htl⟩|⟨p2,e2,hl2,rfl,he2⟩),rfl⟩
 ·rw [hlx] at hl2
  cases hl2
 obtain ⟨rfl,rfl⟩:p0=p2 /\ e0=e2:=by rw [hlx] at hl2;cases hl2;exact ⟨rfl,rfl⟩
 refine go 14 ?_
 refine wcp false rfl (xG (by omega)) ?_
 refine go 2 ?_
 refine wcp true rfl (xL (by omega)) ?_
 refine go 8 ?_
 refine wcp true rfl (eR (by omega)) ?_
 refine go 1 ?_
 refine wo rfl (bRj 0 rfl rfl (by decide) call14 rfl bPi ?_)
 refine go 6 ?_
 exact ⟨.inr rfl,_,⟨[],[]⟩,aR rfl (aF rfl),aA (List.nil_sublist _) (List.nil_sublist _),rfl,rfl⟩
theorem bVf(H:Type)(enc:TypeId×Value -> H)(W:World)(base:Nat)(args:Array Value)(ds gs:List (DataW H))(before:List MemPlace)
  (hval:∀(j:Nat) t v,Tryz.f4.params[j]?=some t -> args[j]?=some v -> Value.okWide prog W .any base t v)
  (hW:DataW.Whole enc prog Tryz.f4.params.toList Rows.printLongSpec.vars false W args.toList ds gs before) (he:bM9 W):
  Calls prog 4 args W fun e W'=>∃v,e=.returned v /\ Rows.printLongSpec.post enc prog Tryz.f4 false true false false W args v W':=by
 have hW':=hW
 obtain ⟨p,q,hA0,hV,rfl,hfz,hnd⟩:=hW
 have hA:DataW.TrodAll enc prog W 0 (fun _=>true) true Tryz.f4.params.toList args.toList ds p:=hA0
 rw [Tryz.params4] at hA hval
 obtain ⟨v0,vs0,d0,ds0,p0,q0,hargs,rfl,rfl,h0,r0⟩:=trodAll_cons hA
 obtain ⟨v1,vs1,d1,ds1,p1,q1,rfl,rfl,rfl,h1,r1⟩:=trodAll_cons r0
 obtain ⟨v2,vs2,d2,ds2,p2,q2,rfl,rfl,rfl,h2,r2⟩:=trodAll_cons r1
 obtain ⟨rfl,rfl,rfl⟩:=trodAll_nil r2
 obtain rfl:args=#[v0,v1,v2]:=by cases args;simp_all
 have walk:Calls prog 4 #[v0,v1,v2] W fun e w'=>e=.returned (.bool true) /\ Below W.heap.size W w':=by
  obtain ⟨n0,rfl,rfl,rfl,hn0⟩:=open_int underlying3 (hval 0 3 v0 rfl rfl) h0
  obtain ⟨n1,rfl,rfl,rfl,hn1⟩:=open_int underlying3 (hval 1 3 v1 rfl rfl) h1
  obtain ⟨m2,rfl,rfl,rfl⟩:=open_bool underlying4 (hval 2 4 v2 rfl rfl) h2
  have hm0:=bOi (t:=.c (.val (.int .i64 n0))) (v:=.int .i64 n0) he (.c _ _ (.val _ rfl))
  exact aJe (vs:=[.int .i64 n0,.int .i64 n1,.bool m2]) (bVv n0 n1 m2 (bE2 hn0) (bE2 hn1)) rfl fun i h h'=>by
   match i,h,h' with
   |0,_,_=>exact hm0
   |1,_,_=>exact .c _ _ (.val _ rfl)
   |2,_,_=>exact .c _ _ (.val _ rfl)
 refine walk.mono fun e W' ⟨he,hb⟩=>?_
 subst he
 exact aMc hW' rfl rfl (by rw [Tryz.params4];intro t ht;simp at ht;rcases ht with rfl|rfl|rfl<;>exact ⟨by kernel_rfl,of_decide_eq_true (by kernel_rfl)⟩) rfl hb
theorem bVo(os:Os){H:Type}(enc:TypeId×Value -> H):∃places,DataW.whole enc prog ((World.doorLaid prog 60 os).forCall (fun _ _=>0) ⟨#[],#[.int .i64 0,.int .i64 0,.bool false],[]⟩).memory Tryz.f4.params.toList Rows.printLongSpec.vars false (#[.int .i64 0,.int .i64 0,.bool false]:Array Value).toList 8=some ([.lit (.int .i64 0),.lit (.int .i64 0),.lit (.bool false)],[],places):=
 ⟨[],by kernel_rfl⟩
theorem bVl(os:Os)(started:os.Started)(H:Type)(enc:TypeId×Value -> H)(F:Stop.Interp):
  ReturnsInHanded {} Tryz.checked os 4 .any ((OpenSpec.ofChange Rows.printLongSpec).preRow enc prog Tryz.f4 Rows.printLongRow.domain false Rows.printLongRow.laid) (((OpenSpec.ofChange Rows.printLongSpec).at F).post enc prog Tryz.f4 false true false false):=by
 obtain ⟨places,hx⟩:=bVo os enc
 refine returnsInHanded_of_row (C:=Tryz.checked) (s:=OpenSpec.ofChange Rows.printLongSpec) own started (by kernel_rfl) func4
  (witness_row_at (enc:=enc) (C:=Tryz.checked) false (World.doorLaid prog 60 os) #[.int .i64 0,.int .i64 0,.bool false] rfl (by kernel_rfl) (by kernel_rfl) (by kernel_rfl)
   (OpenSpec.preRow_of_cond 8 hx (by kernel_rfl) (fun k hk=>by cases hk) (by kernel_rfl) (bQj os _))) ?_
 intro W base args ds gs before hval hW _ _ _ hL hSh _
 exact bVf H enc W base args ds gs before hval hW (bRl hL hSh)
theorem bVi:joinedFacts prog 4 Tryz.f4 (OpenSpec.ofChange Rows.printLongSpec).bare Rows.printLongRow=true:=by
 unfold joinedFacts
 repeat (rw [Bool.and_eq_true];refine And.intro ?_ (by as_aux_lemma=>kernel_rfl))
 as_aux_lemma=>kernel_rfl
theorem bVr:Rows.PrintLongSaid:=
 OpenClaim.holds_of_cond 4 Tryz.f4 rfl rfl rfl rfl rfl rfl rfl ⟨rfl,rfl,rfl,rfl,rfl⟩ rfl rfl rfl rfl rfl (by kernel_rfl) func4 bVi
  (of_decide_eq_true (by kernel_rfl)) (by unfold Func.isWrapper;first|(rw [if_pos (by decide+kernel)];kernel_rfl)|(rw [if_neg (by decide+kernel)];exact ⟨rfl,rfl⟩))
  (fun os started H enc _ F=>by rw [OpenClaim.pre_eq_preRow];exact bVl os started H enc F)
theorem bVp (f : FuncId) (fn : Func) (hf : Tryz.pinned.checked.prog.funcNamed "lockorder/lockorderlaw04.PrintLong" = some f) (hfn : Tryz.pinned.checked.prog.funcs[f]? = some fn) :
  false=Tryz.pinned.checked.prog.looks [] /\ ∀(j:Nat) t,fn.params[j]?=some t -> Tryz.pinned.checked.prog.wantsStandIn t=false:=by
 obtain rfl : f = 4 := Option.some.inj ((show prog.funcNamed "lockorder/lockorderlaw04.PrintLong" = some 4 by kernel_rfl).symm.trans hf) |>.symm
 obtain rfl:fn=Tryz.f4:=(Option.some.inj (func4.symm.trans hfn)).symm
 refine ⟨by kernel_rfl,fun j t ht=>?_⟩
 rw [Tryz.params4] at ht
 have hm:t∈[3,3,4]:=by simpa using Array.mem_of_getElem? ht
 have hall:([3,3,4].all fun u=>!prog.wantsStandIn u)=true:=by kernel_rfl
 exact (show prog.wantsStandIn t=false by simpa using List.all_eq_true.1 hall t hm)
theorem printLong_card:Rows.PrintLongCardSaid:=
 Claim7.holds_tied_plain_at .later [] _ _ _ _ bVr (fun _ h=>by cases h) (by kernel_rfl) (fun _ h=>by cases h) printLong_row_tie rfl ⟨rfl,rfl⟩ (by kernel_rfl) rfl bVp (by kernel_rfl)
#print axioms printLong_card
end
end Go.Proofs.YtojinfngbbajgaaGreatDoor
