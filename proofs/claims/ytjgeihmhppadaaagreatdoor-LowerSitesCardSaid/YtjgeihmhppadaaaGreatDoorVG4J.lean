import Derived.Test.YtjgeihmhppadaaaGreatDoorVG3J
import Derived.StillTailTactics
set_option linter.all false
set_option synthInstance.maxHeartbeats 1000000
set_option synthInstance.maxSize 1000000
set_option maxHeartbeats 1600000
set_option maxRecDepth 100000
namespace Go.Proofs.YtjgeihmhppadaaaGreatDoor
open Go.Proofs.Tryz
open List (length_append length_cons length_nil mem_append mem_cons not_mem_nil append_assoc getElem_mem take_of_length_le)
section
open Go.RowKit
def my{α:Type}(f:α -> List UInt8)(l:List α)(k:Nat)(hk:k<l.length):((l.take (k+1)).map f).flatten=((l.take k).map f).flatten++f l[k]:=by
 rw [gz hk,fL,Gj];simp
def xp{α:Type}(f:α -> List UInt8):∀(l:List α)(k:Nat),(((l.take k).map f).flatten).length <= ((l.map f).flatten).length
 |[],k=>aL
 |x::l,0=>aL
 |x::l,k+1=>by have:=xp f l k;simp only [jW,dE,jZ,length_append];omega
def R_{α:Type}(f:α -> List UInt8)(l:List α)(k:Nat)(h:k<l.length):(f l[k]).length <= ((l.map f).flatten).length:=by
 have h1:=xp f l (k+1);rw [my f l k h,length_append] at h1;omega
def bB.wt(f:bB):Nat:=1+f.params.length+au f.body
def aY.wt(p:aY):Nat:=p.globals.length+p.mutexes.length+(p.funcs.map bB.wt).sum
def qU{α:Type}(f:α -> Nat):∀(l:List α)(k:Nat)(h:k<l.length),f l[k] <= (l.map f).sum
 |x::l,0,_=>aL
 |x::l,k+1,h=>by have:=qU f l k i_;simp only [dE,p_,List.getElem_cons_succ];omega
def oE{α:Type}(f:α -> Nat)(hf:∀x,1 <= f x):∀(l:List α),l.length <= (l.map f).sum
 |[]=>aL
 |x::l=>by have:=oE f hf l;have:=hf x;simp only [dE,p_,length_cons];omega
def j0(p:aY):Bool:=decide (p.globals.length <= 16 /\ p.mutexes.length <= 12 /\ p.funcs.length <= 16) && p.globals.all lK && p.mutexes.all iv && p.funcs.all ga
def ua(p:aY):gw p=(j0 p && (ge (iG p)).isOk):=rfl
def Dc{p:aY}(h:j0 p=true):∀f,f∈p.funcs -> dC 0 f.body=true /\ f.params.length <= 6:=by
 intro f hf;unfold j0 at h;simp only [di] at h;have h2:=e0.1 h.2 f hf;unfold ga at h2;simp only [di,decide_eq_true_eq] at h2;exact ⟨h2.1.2,h2.1.1.2⟩
def FF(f:bB):funcText f=[102,117,110,99,32]++f.name.data.toList++[40]++dL eY f.params++[41,32,123,10]++bT [9] f.body++[125,10]:=rfl
def El{x:bg}(h:x.mutex=true):eY x=[109,117,116,101,120,32]++x.name.data.toList:=by unfold eY;rw [if_pos h]
def Hp{x:bg}(h:x.mutex=false):eY x=x.name.data.toList:=by unfold eY;rw [if_neg oD];rfl
def DJ{z:Int}(h:fit z):(fT z).length <= 21:=by
 unfold fT;have:=zt z.natAbs (by unfold fit at h;omega);split<;>simp<;>omega
def Qy(p:aY)(hv:j0 p=true)(hs:p.bt)(hw:p.wt <= 900000000)(hL:(iG p).length <= 1000000000000000)(s:aJ):aU prog 74 [.agg (dl p)] [] s λt s'=>t=cK (bytes (iG p)) /\ s'=s:=by
 obtain ⟨bx,rw⟩:=s;have hL1:=hL;unfold iG at hL1;simp only [length_append] at hL1;unfold aY.wt at hw;have hfn:=oE bB.wt wa p.funcs;refine bR 131 func74 ?_;refine go 18 λb1=>?_;refine qk (p.globals.length) 4 (λk=>[(3,cK (bytes (((p.globals.take (k)).map cS).flatten))),(1,aF b1)]) (ax J) λk hk=>?_;show br prog _ ⟨131,_,_,(4,ae k)::[(3,cK (bytes (((p.globals.take (k)).map cS).flatten))),(1,aF b1)]⟩ _;have hcm:=xp cS p.globals k;refine go 7 ?_;by_cases h1:(k:Int)<(p.globals.length:Int)
 ·refine aI J (c_ h1) (go 9 ?_);have hkl:k<p.globals.length:=Y;have hgs:=hs.globals _ (getElem_mem hkl);have hnm:p.globals[k].name.data.toList.length <= 4611686018427387904:=hgs.2;have hnl:=DJ hgs.1;refine go 1 ?_;refine aD J (eb (((p.globals.take (k)).map cS).flatten) [118,97,114,32] J J J J J) (go 3 ?_);refine aD J (bf am am p.globals oU (λ_=>J) k J J J J Y V mt jX) (go 2 ?_);refine aD J (eb ((((p.globals.take (k)).map cS).flatten)++[118,97,114,32]) p.globals[k].name.data.toList J J J J (back _)) (go 9 ?_);refine aD J (bf am am p.globals oU (λ_=>J) k J J J J Y V mt jX) (go 2 ?_);by_cases h3:p.globals[k].init=0
  ·refine aG J (fF h3) (go 7 ?_);refine aD J (eb (((((p.globals.take (k)).map cS).flatten)++[118,97,114,32])++p.globals[k].name.data.toList) [59,10] J J J J J) (go 6 ?_);refine bP J (go 2 ?_);exact ⟨Y,(ay J (cD Y) (ay J (fh (by rw [my cS _ k Y];unfold cS;rw [if_pos h3];simp only [append_assoc,eV,cg,eA])) (ax J)))⟩
  refine aI J (fl h3) (go 5 ?_);refine aD J (eb (((((p.globals.take (k)).map cS).flatten)++[118,97,114,32])++p.globals[k].name.data.toList) [32,61,32] J J J J J) (go 3 ?_);refine aD J (bf am am p.globals oU (λ_=>J) k J J J J Y V mt jX) (go 2 ?_);refine cc J call100 J (A' p.globals[k].init hgs.1 _) ?_;rintro _ _ ⟨rfl,rfl⟩;refine aD J (eb ((((((p.globals.take (k)).map cS).flatten)++[118,97,114,32])++p.globals[k].name.data.toList)++[32,61,32]) (fT p.globals[k].init) J J J J J) (go 5 ?_);refine aD J (eb (((((((p.globals.take (k)).map cS).flatten)++[118,97,114,32])++p.globals[k].name.data.toList)++[32,61,32])++(fT p.globals[k].init)) [59,10] J J J J J) (go 6 ?_);refine bP J (go 2 ?_);exact ⟨Y,(ay J (cD Y) (ay J (fh (by rw [my cS _ k Y];unfold cS;rw [if_neg h3];simp only [append_assoc,eV,cg,eA])) (ax J)))⟩
 refine aG J (cv h1) (go 11 ?_);obtain rfl:k=p.globals.length:=Y;rw [take_of_length_le (bX _)];refine go 4 ?_;refine qk (p.mutexes.length) 5 (λi=>[(3,cK (bytes (((p.globals.map cS).flatten)++((p.mutexes.take (i)).map cf).flatten))),(1,aF b1)]) (ay J (.refl _) (ay J (fh aL) (ax J))) λi hi=>?_;show br prog _ ⟨131,_,_,(5,ae i)::[(3,cK (bytes (((p.globals.map cS).flatten)++((p.mutexes.take (i)).map cf).flatten))),(1,aF b1)]⟩ _;have hcm:=xp cf p.mutexes i;refine go 7 ?_;by_cases h8:(i:Int)<(p.mutexes.length:Int)
 ·refine aI J (c_ h8) (go 9 ?_);have hil:i<p.mutexes.length:=Y;have hms:=hs.mutexes _ (getElem_mem hil);have hnm:p.mutexes[i].name.data.toList.length <= 4611686018427387904:=hms.2;have hnl:=DJ hms.1;refine go 3 ?_;refine aD J (bf aT aT p.mutexes pD (λ_=>J) i J J J J Y V mS gq) (go 9 λb2=>?_);rcases bw (p.mutexes[i].ex) with h10|h10
  ·refine aD J (cP (bJ h10) (cV [] dH dG)) (go 5 ?_);refine aD J (eb (((p.globals.map cS).flatten)++((p.mutexes.take (i)).map cf).flatten) [114] J J J J J) (go 6 ?_);refine aD J (eb ((((p.globals.map cS).flatten)++((p.mutexes.take (i)).map cf).flatten)++[114]) [109,117,116,101,120,32] J J J J J) (go 2 ?_);refine aD J (eb (((((p.globals.map cS).flatten)++((p.mutexes.take (i)).map cf).flatten)++[114])++[109,117,116,101,120,32]) p.mutexes[i].name.data.toList J J J J (back _)) (go 8 ?_);by_cases h12:(0:Int)<p.mutexes[i].size
   ·refine aI J (e1 h12) (go 5 ?_);refine aD J (eb ((((((p.globals.map cS).flatten)++((p.mutexes.take (i)).map cf).flatten)++[114])++[109,117,116,101,120,32])++p.mutexes[i].name.data.toList) [91] J J J J J) (go 2 ?_);refine cc J call100 J (A' p.mutexes[i].size hms.1 _) ?_;rintro _ _ ⟨rfl,rfl⟩;refine aD J (eb (((((((p.globals.map cS).flatten)++((p.mutexes.take (i)).map cf).flatten)++[114])++[109,117,116,101,120,32])++p.mutexes[i].name.data.toList)++[91]) (fT p.mutexes[i].size) J J J J J) ?_;refine aD J (eb ((((((((p.globals.map cS).flatten)++((p.mutexes.take (i)).map cf).flatten)++[114])++[109,117,116,101,120,32])++p.mutexes[i].name.data.toList)++[91])++(fT p.mutexes[i].size)) [93] J J J J J) (go 5 ?_);refine aD J (eb (((((((((p.globals.map cS).flatten)++((p.mutexes.take (i)).map cf).flatten)++[114])++[109,117,116,101,120,32])++p.mutexes[i].name.data.toList)++[91])++(fT p.mutexes[i].size))++[93]) [59,10] J J J J J) (go 6 ?_);refine bP J (go 2 ?_);exact ⟨Y,bD (h1:=bI) (h:=ay J (cD Y) (ay J (fh (by rw [my cf _ i Y];unfold cf;rw [if_pos h10,if_pos h12];simp only [append_assoc,eV,cg,eA])) (ax J))) (λb hb=>eG _ (hb))⟩
   refine aG J (fA h12) (go 7 ?_);refine aD J (eb ((((((p.globals.map cS).flatten)++((p.mutexes.take (i)).map cf).flatten)++[114])++[109,117,116,101,120,32])++p.mutexes[i].name.data.toList) [59,10] J J J J J) (go 6 ?_);refine bP J (go 2 ?_);exact ⟨Y,bD (h1:=bI) (h:=ay J (cD Y) (ay J (fh (by rw [my cf _ i Y];unfold cf;rw [if_pos h10,if_neg h12];simp only [append_assoc,eV,cg,eA])) (ax J))) (λb hb=>eG _ (hb))⟩
  refine aD J (cP (bJ h10) (cV [] dH dG)) (go 8 ?_);refine aD J (eb (((p.globals.map cS).flatten)++((p.mutexes.take (i)).map cf).flatten) [109,117,116,101,120,32] J J J J J) (go 2 ?_);refine aD J (eb ((((p.globals.map cS).flatten)++((p.mutexes.take (i)).map cf).flatten)++[109,117,116,101,120,32]) p.mutexes[i].name.data.toList J J J J (back _)) (go 8 ?_);by_cases rx:(0:Int)<p.mutexes[i].size
  ·refine aI J (e1 rx) (go 5 ?_);refine aD J (eb (((((p.globals.map cS).flatten)++((p.mutexes.take (i)).map cf).flatten)++[109,117,116,101,120,32])++p.mutexes[i].name.data.toList) [91] J J J J J) (go 2 ?_);refine cc J call100 J (A' p.mutexes[i].size hms.1 _) ?_;rintro _ _ ⟨rfl,rfl⟩;refine aD J (eb ((((((p.globals.map cS).flatten)++((p.mutexes.take (i)).map cf).flatten)++[109,117,116,101,120,32])++p.mutexes[i].name.data.toList)++[91]) (fT p.mutexes[i].size) J J J J J) ?_;refine aD J (eb (((((((p.globals.map cS).flatten)++((p.mutexes.take (i)).map cf).flatten)++[109,117,116,101,120,32])++p.mutexes[i].name.data.toList)++[91])++(fT p.mutexes[i].size)) [93] J J J J J) (go 5 ?_);refine aD J (eb ((((((((p.globals.map cS).flatten)++((p.mutexes.take (i)).map cf).flatten)++[109,117,116,101,120,32])++p.mutexes[i].name.data.toList)++[91])++(fT p.mutexes[i].size))++[93]) [59,10] J J J J J) (go 6 ?_);refine bP J (go 2 ?_);exact ⟨Y,bD (h1:=bI) (h:=ay J (cD Y) (ay J (fh (by rw [my cf _ i Y];unfold cf;rw [if_neg (by rw [h10];decide),if_pos rx];simp only [append_assoc,eV,cg,eA])) (ax J))) (λb hb=>eG _ (hb))⟩
  refine aG J (fA rx) (go 7 ?_);refine aD J (eb (((((p.globals.map cS).flatten)++((p.mutexes.take (i)).map cf).flatten)++[109,117,116,101,120,32])++p.mutexes[i].name.data.toList) [59,10] J J J J J) (go 6 ?_);refine bP J (go 2 ?_);exact ⟨Y,bD (h1:=bI) (h:=ay J (cD Y) (ay J (fh (by rw [my cf _ i Y];unfold cf;rw [if_neg (by rw [h10];decide),if_neg rx];simp only [append_assoc,eV,cg,eA])) (ax J))) (λb hb=>eG _ (hb))⟩
 refine aG J (cv h8) (go 11 ?_);obtain rfl:i=p.mutexes.length:=Y;rw [take_of_length_le (bX _)];refine go 4 ?_;refine qk (p.funcs.length) 7 (λf=>[(3,cK (bytes (((p.globals.map cS).flatten)++((p.mutexes.map cf).flatten)++((p.funcs.take (f)).map funcText).flatten))),(1,aF b1)]) (ay J (.refl _) (ay J (fh aL) (ax J))) λf hf=>?_;show br prog _ ⟨131,_,_,(7,ae f)::[(3,cK (bytes (((p.globals.map cS).flatten)++((p.mutexes.map cf).flatten)++((p.funcs.take (f)).map funcText).flatten))),(1,aF b1)]⟩ _;have hcm:=xp funcText p.funcs f;refine go 7 ?_;by_cases h22:(f:Int)<(p.funcs.length:Int)
 ·refine aI J (c_ h22) (go 9 ?_);have hfl:f<p.funcs.length:=Y;have hfs:=hs.funcs _ (getElem_mem hfl);have hnm:p.funcs[f].name.data.toList.length <= 4611686018427387904:=hfs.1;have hfi:=R_ funcText p.funcs f hfl;have hfi2:=hfi;rw [FF p.funcs[f]] at hfi2;simp only [length_append] at hfi2;have hfw:=qU bB.wt p.funcs f hfl;rw [show bB.wt p.funcs[f]=1+p.funcs[f].params.length+au p.funcs[f].body from rfl] at hfw;have hfb:=Dc hv _ (getElem_mem hfl);refine go 3 ?_;refine aD J (bf aZ aZ p.funcs mH (λ_=>J) f J J J J Y V fU dn) (go 8 λb3=>?_);refine aD J (eb (((p.globals.map cS).flatten)++((p.mutexes.map cf).flatten)++((p.funcs.take (f)).map funcText).flatten) [102,117,110,99,32] J J J J J) (go 2 ?_);refine aD J (eb ((((p.globals.map cS).flatten)++((p.mutexes.map cf).flatten)++((p.funcs.take (f)).map funcText).flatten)++[102,117,110,99,32]) p.funcs[f].name.data.toList J J J J (back _)) ?_;refine aD J (eb (((((p.globals.map cS).flatten)++((p.mutexes.map cf).flatten)++((p.funcs.take (f)).map funcText).flatten)++[102,117,110,99,32])++p.funcs[f].name.data.toList) [40] J J J J J) (go 10 ?_);refine qk (p.funcs[f].params.length) 9 (λj=>[(3,cK (bytes ((((p.globals.map cS).flatten)++((p.mutexes.map cf).flatten)++((p.funcs.take (f)).map funcText).flatten)++[102,117,110,99,32]++p.funcs[f].name.data.toList++[40]++dL eY (p.funcs[f].params.take (j))))),(1,aF b1),(7,ae f),(8,aF b3)]) (ay J (.refl _) (ay J (fh xk) (ax J))) λj hj=>?_;show br prog _ ⟨131,_,_,(9,ae j)::[(3,cK (bytes ((((p.globals.map cS).flatten)++((p.mutexes.map cf).flatten)++((p.funcs.take (f)).map funcText).flatten)++[102,117,110,99,32]++p.funcs[f].name.data.toList++[40]++dL eY (p.funcs[f].params.take (j))))),(1,aF b1),(7,ae f),(8,aF b3)]⟩ _;have hcj:=G0 eY p.funcs[f].params j;refine go 7 ?_;by_cases DP:(j:Int)<((p.funcs[f].params.length:Nat):Int)
  ·refine aI J (c_ DP) (go 10 ?_);have hjl:j<p.funcs[f].params.length:=Y;have hpn:p.funcs[f].params[j].name.data.toList.length <= 4611686018427387904:=hfs.2.1 _ (getElem_mem hjl);refine go 1 ?_;by_cases ur:(0:Int)<(j:Int)
   ·refine aI J (e1 ur) (go 5 ?_);refine aD J (eb ((((p.globals.map cS).flatten)++((p.mutexes.map cf).flatten)++((p.funcs.take (f)).map funcText).flatten)++[102,117,110,99,32]++p.funcs[f].name.data.toList++[40]++dL eY (p.funcs[f].params.take (j))) [44,32] J J J J J) (go 9 ?_);refine aD J (bf cC cC p.funcs[f].params iU (λ_=>J) j J J J J Y V iO gj) (go 1 ?_);rcases bw (p.funcs[f].params[j].mutex) with Pc|Pc
    ·refine aD J (cP (bJ Pc) (ka J J dH dG J)) (go 5 ?_);refine aD J (eb (((((p.globals.map cS).flatten)++((p.mutexes.map cf).flatten)++((p.funcs.take (f)).map funcText).flatten)++[102,117,110,99,32]++p.funcs[f].name.data.toList++[40]++dL eY (p.funcs[f].params.take (j)))++[44,32]) [109,117,116,101,120,32] J J J J J) (go 8 ?_);refine aD J (bf cC cC p.funcs[f].params iU (λ_=>J) j J J J J Y V iO gj) (go 2 ?_);refine aD J (eb ((((((p.globals.map cS).flatten)++((p.mutexes.map cf).flatten)++((p.funcs.take (f)).map funcText).flatten)++[102,117,110,99,32]++p.funcs[f].name.data.toList++[40]++dL eY (p.funcs[f].params.take (j)))++[44,32])++[109,117,116,101,120,32]) p.funcs[f].params[j].name.data.toList J J J J (back _)) (go 6 ?_);refine bP J (go 2 ?_);exact ⟨Y,(ay J (cD Y) (ay J (fh (by rw [rT eY _ j Y,if_neg Y,El Pc];simp only [append_assoc,eV,cg,eA])) (ax J)))⟩
    refine aD J (cP (bJ Pc) (ka J J dH dG J)) (go 10 ?_);refine aD J (bf cC cC p.funcs[f].params iU (λ_=>J) j J J J J Y V iO gj) (go 2 ?_);refine aD J (eb (((((p.globals.map cS).flatten)++((p.mutexes.map cf).flatten)++((p.funcs.take (f)).map funcText).flatten)++[102,117,110,99,32]++p.funcs[f].name.data.toList++[40]++dL eY (p.funcs[f].params.take (j)))++[44,32]) p.funcs[f].params[j].name.data.toList J J J J (back _)) (go 6 ?_);refine bP J (go 2 ?_);exact ⟨Y,(ay J (cD Y) (ay J (fh (by rw [rT eY _ j Y,if_neg Y,Hp Pc];simp only [append_assoc,eV,cg,eA])) (ax J)))⟩
   refine aG J (fA ur) (go 11 ?_);refine aD J (bf cC cC p.funcs[f].params iU (λ_=>J) j J J J J Y V iO gj) (go 1 ?_);rcases bw (p.funcs[f].params[j].mutex) with h32|h32
   ·refine aD J (cP (bJ h32) (ka J J dH dG J)) (go 5 ?_);refine aD J (eb ((((p.globals.map cS).flatten)++((p.mutexes.map cf).flatten)++((p.funcs.take (f)).map funcText).flatten)++[102,117,110,99,32]++p.funcs[f].name.data.toList++[40]++dL eY (p.funcs[f].params.take (j))) [109,117,116,101,120,32] J J J J J) (go 8 ?_);refine aD J (bf cC cC p.funcs[f].params iU (λ_=>J) j J J J J Y V iO gj) (go 2 ?_);refine aD J (eb (((((p.globals.map cS).flatten)++((p.mutexes.map cf).flatten)++((p.funcs.take (f)).map funcText).flatten)++[102,117,110,99,32]++p.funcs[f].name.data.toList++[40]++dL eY (p.funcs[f].params.take (j)))++[109,117,116,101,120,32]) p.funcs[f].params[j].name.data.toList J J J J (back _)) (go 6 ?_);refine bP J (go 2 ?_);exact ⟨Y,(ay J (cD Y) (ay J (fh (by rw [rT eY _ j Y,if_pos Y,El h32];simp only [append_assoc,eV,cg,eA])) (ax J)))⟩
   refine aD J (cP (bJ h32) (ka J J dH dG J)) (go 10 ?_);refine aD J (bf cC cC p.funcs[f].params iU (λ_=>J) j J J J J Y V iO gj) (go 2 ?_);refine aD J (eb ((((p.globals.map cS).flatten)++((p.mutexes.map cf).flatten)++((p.funcs.take (f)).map funcText).flatten)++[102,117,110,99,32]++p.funcs[f].name.data.toList++[40]++dL eY (p.funcs[f].params.take (j))) p.funcs[f].params[j].name.data.toList J J J J (back _)) (go 6 ?_);refine bP J (go 2 ?_);exact ⟨Y,(ay J (cD Y) (ay J (fh (by rw [rT eY _ j Y,if_pos Y,Hp h32];simp only [append_assoc,eV,cg,eA])) (ax J)))⟩
  refine aG J (cv DP) (go 9 ?_);obtain rfl:j=p.funcs[f].params.length:=Y;rw [take_of_length_le (bX _)];refine go 1 ?_;refine aD J (eb ((((p.globals.map cS).flatten)++((p.mutexes.map cf).flatten)++((p.funcs.take (f)).map funcText).flatten)++[102,117,110,99,32]++p.funcs[f].name.data.toList++[40]++dL eY p.funcs[f].params) [41,32,123,10] J J J J J) (go 2 ?_);refine cc J call101 J (G1 _ 0 p.funcs[f].body [9] (bX _) Y hfb.1 hfs.2.2 V Y _) ?_;rintro _ _ ⟨rfl,rfl⟩;refine aD J (eb (((((p.globals.map cS).flatten)++((p.mutexes.map cf).flatten)++((p.funcs.take (f)).map funcText).flatten)++[102,117,110,99,32]++p.funcs[f].name.data.toList++[40]++dL eY p.funcs[f].params)++[41,32,123,10]) (bT [9] p.funcs[f].body) J J J J J) ?_;refine aD J (eb ((((((p.globals.map cS).flatten)++((p.mutexes.map cf).flatten)++((p.funcs.take (f)).map funcText).flatten)++[102,117,110,99,32]++p.funcs[f].name.data.toList++[40]++dL eY p.funcs[f].params)++[41,32,123,10])++(bT [9] p.funcs[f].body)) [125,10] J J J J J) (go 6 ?_);refine bP J (go 2 ?_);exact ⟨Y,bD (h1:=bI) (h:=ay J (cD Y) (ay J (fh (by rw [my funcText _ f Y];unfold funcText;simp only [append_assoc,eV,cg,eA])) (ax J))) (λb hb=>eG _ (hb))⟩
 refine aG J (cv h22) (go 10 ?_);obtain rfl:f=p.funcs.length:=Y;rw [take_of_length_le (bX _)];refine go 5 ?_;exact az (s':=⟨bx,rw⟩) J cT ⟨mb J,J⟩
end
section
def mu(l:List bS)(x:bS)(s:aH):bM (l++[x]) s=match bM l s with|some v=>some v|none=>if x.name=s then some x else none:=by
 induction l with
 |nil=>rfl
 |cons y l ih=>
  rw [eA,bM,bM];by_cases h:y.name=s
  ·rw [if_pos h,if_pos h]
  rw [if_neg h,if_neg h,ih]
def pX.app{p:aY}{l:List bS}(h:pX p l){x:bS}(h2:x.kind≠2)(h3:x.kind≠3):pX p (l++[x]):=by
 refine ⟨λs v hv hk=>?_,λs v hv hk=>?_⟩
 ·rw [mu] at hv;split at hv
  ·rename_i hf;cases hv;exact h.ms s _ hf hk
  split at hv
  ·cases hv;exact absurd hk h2
  cases hv
 rw [mu] at hv;split at hv
 ·rename_i hf;cases hv;exact h.fs s _ hf hk
 split at hv
 ·cases hv;exact absurd hk h3
 cases hv
structure du (p:aY) (x:ak) (w:Nat):Prop where
 aq:pX p x.aq
 code:x.code.length+3*w <= 100000000
 sites:x.sites.length=x.code.length
 n:x.n+w <= 100000000
 loc:x.locals+w <= 100000000
 el:x.aq.length+w <= 100000000
section
variable {p:aY}{x:ak}{w:Nat}
theorem du.mono{w':Nat}(h:du p x w)(hw:w' <= w):du p x w':=⟨h.aq,by have:=h.code;omega,h.sites,by have:=h.n;omega,by have:=h.loc;omega,by have:=h.el;omega⟩
theorem du.dg(h:du p x (w+1))(e:Nat):du p (x.dg e) w /\ (x.dg e).code.length+3+3*w <= 100000000:=by
 have h1:=h.code;exact ⟨⟨h.aq,by show x.code.length+3*w <= _;omega,h.sites,by have:=h.n;show x.n+1+w <= _;omega,by have:=h.loc;show x.locals+w <= _;omega,by have:=h.el;show x.aq.length+w <= _;omega⟩,by show x.code.length+3+3*w <= _;omega⟩
theorem du.put(h:du p x w)(hc:x.code.length+1+3*w <= 100000000)(i:kR)(s:Nat):du p (x.put i s) w:=
 ⟨h.aq,by show (x.code++[i]).length+_ <= _;rw [length_append];simp only [length_cons,length_nil];omega,by show (x.sites++[(s:Int)]).length=(x.code++[i]).length;rw [length_append,length_append,h.sites];rfl,h.n,h.loc,h.el⟩
theorem mE(i:kR)(s:Nat):(x.put i s).code.length=x.code.length+1:=by show (x.code++[i]).length=_;rw [length_append];rfl
theorem kZ(b:Nat):(x.patch b).code.length=x.code.length:=by show (x.code.modify b _).length=_;rw [List.length_modify]
theorem du.patch(h:du p x w)(b:Nat):du p (x.patch b) w:=⟨h.aq,by rw [kZ];exact h.code,by rw [kZ];exact h.sites,h.n,h.loc,h.el⟩
theorem du.back{y:ak}(h:du p x w)(hy:du p y w):du p (x.back y) w:=⟨h.aq,hy.code,hy.sites,hy.n,hy.loc,h.el⟩
theorem du.branch(h:du p x (w+1))(e:aS):du p (x.branch e) w /\ (x.branch e).code.length+2+3*w <= 100000000:=by
 obtain ⟨h1,h2⟩:=h.dg (cW x.aq e);refine ⟨h1.put Y _ _,?_⟩;unfold ak.branch;rw [mE];omega
theorem Tl(s:aE)(h:du p x (w+1)):du p (ii p s x) w:=by
 have hb:∀e i n,du p ((x.dg e).put i n) w:=λe i n=>(h.dg e).1.put (by have:=(h.dg e).2;omega) i n;unfold ii;split
 ·have h1:=hb (dP (fV x.aq s.name) (cW x.aq s.expr)) ⟨1,x.locals,false,ck x.aq s.expr,dK,[],[]⟩ x.n;have h2:=h.loc;have h3:=h.el;exact ⟨h1.aq.app GW ze,h1.code,h1.sites,h1.n,by show x.locals+1+w <= _;omega,by show (x.aq++[_]).length+w <= _;rw [length_append];simp only [length_cons,length_nil];omega⟩
 split
 ·exact hb _ _ _
 split
 ·exact hb _ _ _
 split
 ·exact hb _ _ _
 split<;>exact hb _ _ _
end
mutual
def Tf(p:aY):∀(s:aE)(x:ak)(w:Nat),du p x (s.wt+w) -> du p (cw p s x) w
 |.mk k name e r args t f,x,w,h=>by
  rw [aE.wt] at h;have hs:du p x (w+1):=h.mono Y;rw [cw];split
  ·obtain ⟨b1,b2⟩:=(h.mono Y:du p x ((au t+(au f+w))+1)).branch e;have t1:=sD p t (x.branch e) (au f+w) b1;have cA:du p ((x.branch e).back (cR p t (x.branch e))) (au f+w):=(b1.mono Y).back t1;have t3:=tn p t (x.branch e);split
   ·exact (cA.mono Y).patch _
   have t4:du p (((x.branch e).back (cR p t (x.branch e))).put (bh 7 .zero) x.n) (au f+w):=cA.put OC _ _;have t5:=sD p f _ w (t4.patch x.code.length);exact (hs.mono Y|>.back t5).patch _
  split
  ·obtain ⟨b1,b2⟩:=(h.mono Y:du p x ((au t+w)+1)).branch e;have t1:=sD p t (x.branch e) w b1;have cA:du p ((x.branch e).back (cR p t (x.branch e))) w:=(b1.mono Y).back t1;have t3:=tn p t (x.branch e);exact (cA.put OC _ _).patch _
  exact Tl _ hs
def sD(p:aY):∀(l:List aE)(x:ak)(w:Nat),du p x (au l+w) -> du p (cR p l x) w
 |[],x,w,h=>by rw [cR];rw [au] at h;exact h.mono Y
 |s::l,x,w,h=>by
  rw [au] at h;rw [cR];exact sD p l _ w (Tf p s x (au l+w) (h.mono Y))
def Sm(p:aY):∀(s:aE)(x:ak),(cw p s x).code.length <= x.code.length+3*s.wt
 |.mk k name e r args t f,x=>by
  have t1:=tn p t (x.branch e);have aj:(x.branch e).code.length=x.code.length+1:=mE _ _;rw [cw,aE.wt];split
  ·split
   ·rw [kZ];show (cR p t (x.branch e)).code.length <= _;omega
   rw [kZ];have cA:=tn p f ((((x.branch e).back (cR p t (x.branch e))).put (bh 7 .zero) x.n).patch x.code.length);rw [kZ,mE] at cA;have t3:((x.branch e).back (cR p t (x.branch e))).code.length=(cR p t (x.branch e)).code.length:=J;show (cR p f _).code.length <= _;omega
  split
  ·rw [kZ,mE];show (cR p t (x.branch e)).code.length+1 <= _;omega
  have hb:∀(y:ak) i n,y.code=x.code -> (y.put i n).code.length <= x.code.length+3*(1+e.nodes+r.wt+dz args+au t+au f):=λy i n hy=>by rw [mE,hy];omega
  unfold ii;split
  ·exact hb (x.dg (dP (fV x.aq name) (cW x.aq e))) ⟨1,x.locals,false,ck x.aq e,dK,[],[]⟩ x.n J
  split
  ·exact hb _ _ _ J
  split
  ·exact hb _ _ _ J
  split
  ·exact hb _ _ _ J
  split<;>exact hb _ _ _ rfl
def tn(p:aY):∀(l:List aE)(x:ak),(cR p l x).code.length <= x.code.length+3*au l
 |[],x=>by rw [cR];omega
 |s::l,x=>by
  have h1:=Sm p s x;have h2:=tn p l (cw p s x);rw [cR,au];omega
end
mutual
def WQ(p:aY):∀(s:aE)(x:ak),x.code.length <= (cw p s x).code.length
 |.mk k name e r args t f,x=>by
  have t1:=vN p t (x.branch e);have aj:(x.branch e).code.length=x.code.length+1:=mE _ _;rw [cw];split
  ·split
   ·rw [kZ];show _ <= (cR p t (x.branch e)).code.length;omega
   rw [kZ];have cA:=vN p f ((((x.branch e).back (cR p t (x.branch e))).put (bh 7 .zero) x.n).patch x.code.length);rw [kZ,mE] at cA;have t3:((x.branch e).back (cR p t (x.branch e))).code.length=(cR p t (x.branch e)).code.length:=J;show _ <= (cR p f _).code.length;omega
  split
  ·rw [kZ,mE];show _ <= (cR p t (x.branch e)).code.length+1;omega
  have hb:∀(y:ak) i n,y.code=x.code -> x.code.length <= (y.put i n).code.length:=λy i n hy=>by rw [mE,hy];omega
  unfold ii;split
  ·exact hb (x.dg (dP (fV x.aq name) (cW x.aq e))) ⟨1,x.locals,false,ck x.aq e,dK,[],[]⟩ x.n J
  split
  ·exact hb _ _ _ J
  split
  ·exact hb _ _ _ J
  split
  ·exact hb _ _ _ J
  split<;>exact hb _ _ _ rfl
def vN(p:aY):∀(l:List aE)(x:ak),x.code.length <= (cR p l x).code.length
 |[],x=>by rw [cR];omega
 |s::l,x=>by
  have h1:=WQ p s x;have h2:=vN p l (cw p s x);rw [cR];omega
end
def zK{c:List kR}{b t:Nat}(hb:b<c.length):splice (c.flatMap encI) (0+b*12+1) [ap t]=(c.modify b (λi=>i.to t)).flatMap encI:=by
 have h0:c.flatMap encI=(c.take b).flatMap encI++(encI c[b]++(c.drop (b+1)).flatMap encI):=by
  conv=>lhs;rw [←pT b c,ic hb]
  rw [dj,ec]
 have h2:((c.take b).flatMap encI).length=b*12:=by rw [dD encI 12 mc,ke,ss Y]
 have h3:(c.modify b (λi=>i.to t)).flatMap encI=(c.take b).flatMap encI++(encI (c[b].to t)++(c.drop (b+1)).flatMap encI):=by
  rw [List.modify_eq_take_cons_drop hb,dj,ec]
 rw [h3,h0,cp];have hd:List.drop (((c.take b).flatMap encI).length+2) ((c.take b).flatMap encI)=[]:=uF Y;unfold splice;rw [←h2,BW,take_of_length_le Y,vI,yB];rw [show ((c.take b).flatMap encI).length+1+[aO.val (.int .i64 (t:Int))].length=((c.take b).flatMap encI).length+2 from rfl,hd,vI,cg,append_assoc,append_assoc]
 rfl
def x9(p:aY)(l:List aE)(x:ak)(w:Nat)(h:du p x (au l+w)):du p (aM p l x) w:=(h.mono Y:du p x w).back (sD p l x w h)
end
section
open Go.RowKit
open Go.ChangeMaps (setBlock)
def wid(m:Nat):Nat:=if m=0 then 1 else m
def uj{α:Type}(ev:α -> List aO)(l:List (ByteArray×α)):List aO:=l.flatMap λp=>ah p.1::ev p.2
abbrev ao{α:Type}(g m:Nat)(ev:α -> List aO)(l:List (ByteArray×α)):aP:=⟨zN g,m,0,l.length,uj ev l⟩
def dX{α:Type}:List (ByteArray×α) -> ByteArray -> Option α
 |[],_=>none
 |p::l,k=>if p.1=k then some p.2 else dX l k
def dB{α:Type}:List (ByteArray×α) -> ByteArray -> α -> List (ByteArray×α)
 |[],k,a=>[(k,a)]
 |p::l,k,a=>if p.1=k then (k,a)::l else p::dB l k a
def eW{α:Type}:List (ByteArray×α) -> ByteArray -> List (ByteArray×α)
 |[],_=>[]
 |p::l,k=>if p.1=k then l else p::eW l k
inductive il {α:Type} (w:World) (m:Nat) (ev:α -> List aO):List MapEntry -> List (ByteArray×α) -> Prop
 |nil:il w m ev [] []
 |cons {e:MapEntry} {k:ByteArray} {a:α} {L:List MapEntry} {l:List (ByteArray×α)} (hk:e.key=.string k) (hv:dV w (ev a) e.val.cells.toList) (hm:qW m e) (t:il w m ev L l):il w m ev (e::L) ((k,a)::l)
section
variable {α:Type}{w:World}{m:Nat}{ev:α -> List aO}
theorem qW.wid{e:MapEntry}(h:qW m e):e.val.cells.toList.length=wid m:=by
 obtain ⟨-,h⟩:=h;unfold Go.Proofs.YtjgeihmhppadaaaGreatDoor.wid;split at h
 ·rename_i h0;rw [if_pos h0];cases hv:e.val<;>rw [hv] at h<;>first|rfl|cases h
 rename_i h0;rw [if_neg h0];obtain ⟨us,aj,e2⟩:=h;rw [aj];simpa [Value.cells] using e2
theorem il.len{L:List MapEntry}{l:List (aH×α)}(h:il w m ev L l):L.length=l.length:=by
 induction h with
 |nil=>rfl
 |cons _ _ _ _ ih=>simp [ih]
theorem il.ok{L:List MapEntry}{l:List (aH×α)}(h:il w m ev L l):∀e,e∈L -> qW m e:=by
 induction h with
 |nil=>intro e h;cases h
 |cons _ _ hm _ ih=>intro e h;rcases mem_cons.1 h with rfl|h;exact hm;exact ih e h
theorem il.rep{L:List MapEntry}{l:List (aH×α)}(h:il w m ev L l):dV w (uj ev l) (L.flatMap om):=by
 induction h with
 |nil=>exact .nil _
 |cons hk hv hm t ih=>
  unfold uj at ih⊢;rw [ec,ec];refine dV.app ?_ ih;unfold om;rw [hk];exact .cons (.val _ J) hv
theorem il.mono{w':ab}(hm:f7 w w'){L:List MapEntry}{l:List (aH×α)}(h:il w m ev L l):il w' m ev L l:=by
 induction h with
 |nil=>exact .nil
 |cons hk hv h t ih=>exact .cons hk (hv.mono hm) h ih
theorem Hi{v u:aN}(h:jn w (.val v) u):u=v:=by cases h;rfl
theorem MQ(hev:∀a,(ev a).length=wid m):∀{L:List MapEntry} {l:List (aH×α)},L.length=l.length -> (∀e,e∈L -> qW m e) -> dV w (uj ev l) (L.flatMap om) -> il w m ev L l
 |[],[],_,_,_=>.nil
 |e::L,[],h,_,_=>rh
 |[],p::l,h,_,_=>rh
 |e::L,(k,a)::l,h,hm,hr=>by
  have hme:=hm e aL;have aj:uj ev ((k,a)::l)=(ah k::ev a)++uj ev l:=by unfold uj;rw [ec]
  have e2:(e::L).flatMap om=om e++L.flatMap om:=ec;have l1:(aO.val (.string k)::ev a).length=wid m+1:=by rw [length_cons,hev]
  have l2:(om e).length=wid m+1:=by unfold om;rw [length_cons,hme.wid]
  have hA:=hr.take (wid m+1);have hB:=hr.drop (wid m+1);rw [aj,e2,rY l1,rY l2] at hA;rw [aj,e2,tX l1,tX l2] at hB;have h0:=hA.at_ 0 aL (by unfold om;simp);have hk:e.key=.string k:=Hi h0;have hv:dV w (ev a) e.val.cells.toList:=by
   have h9:=hA.drop 1;unfold om at h9;simpa using h9
  exact .cons hk hv hme (MQ hev i_ (λx hx=>hm x (eG _ hx)) hB)
theorem il.find{L:List MapEntry}{l:List (aH×α)}(h:il w m ev L l)(k:aH):∀i:Nat,
  (dX l k=none /\ Instr.findNow .string (.string k) L i=some none /\ (∀a,dB l k a=l++[(k,a)]) /\ eW l k=l)∨
  ∃j e a,dX l k=some a /\ Instr.findNow .string (.string k) L i=some (some (i+j,e.val)) /\ L[j]?=some e /\ e.key=.string k /\ dV w (ev a) e.val.cells.toList /\ qW m e /\ j<L.length /\ il w m ev (L.eraseIdx j) (eW l k) /\ (dB l k a).length=l.length /\ ∀a' e',e'.key=.string k -> dV w (ev a') e'.val.cells.toList -> qW m e' -> il w m ev (L.set j e') (dB l k a'):=by
 induction h with
 |nil=>intro i;exact .inl ⟨rfl,rfl,λ_=>rfl,rfl⟩
 |@cons e k' a L l hk hv hm t ih=>
  intro i;by_cases hkk:k'=k
  ·subst hkk;refine .inr ⟨0,e,a,by unfold dX;rw [if_pos rfl],?_,J,hk,hv,hm,aL,by unfold eW;rw [if_pos rfl];exact t,by unfold dB;rw [if_pos rfl];try rfl,λa' e' h1 h2 h3=>by unfold dB;rw [if_pos rfl];exact .cons h1 h2 h3 t⟩;unfold Instr.findNow;rw [hk];simp [Instr.sameNow,(MapKept.bytes_beq k' k').2 rfl]
  have hb:(k == k')=false:=by
   cases hc:k == k' with
   |false=>rfl
   |true=>exact absurd ((MapKept.bytes_beq k k').1 hc).symm hkk
  have hf:Instr.findNow .string (.string k) (e::L) i=Instr.findNow .string (.string k) L (i+1):=by
   conv=>lhs;unfold Instr.findNow
   rw [hk];simp [Instr.sameNow,hb]
  rcases ih (i+1) with ⟨h1,h2,h3,h4⟩|⟨j,be,a0,h1,h2,h3,h4,h5,h6,h7,h8,h9,h10⟩
  ·exact .inl ⟨by unfold dX;rw [if_neg hkk];exact h1,by rw [hf,h2],λa'=>by unfold dB;rw [if_neg hkk,h3];rfl,by unfold eW;rw [if_neg hkk,h4]⟩
  refine .inr ⟨j+1,be,a0,by unfold dX;rw [if_neg hkk];exact h1,by rw [hf,h2];congr 3;omega,wg,h4,h5,h6,dh,by unfold eW;rw [if_neg hkk,List.eraseIdx_cons_succ];exact .cons hk hv hm h8,by unfold dB;rw [if_neg hkk,length_cons,length_cons,h9],λa' e' g1 g2 g3=>by unfold dB;rw [if_neg hkk,yH];exact .cons hk hv hm (h10 a' e' g1 g2 g3)⟩
theorem il.snoc{L:List MapEntry}{l:List (aH×α)}(h:il w m ev L l){e:MapEntry}{k:aH}{a:α}(hk:e.key=.string k)(hv:dV w (ev a) e.val.cells.toList)(hm:qW m e):il w m ev (L++[e]) (l++[(k,a)]):=by
 induction h with
 |nil=>exact .cons hk hv hm .nil
 |cons hk' hv' hm' t ih=>exact .cons hk' hv' hm' ih
theorem Mem.DB{s:aJ}{w:ab}(h:Mem s w){g:Nat}{l:List (aH×α)}(hr:ao g m ev l∈s.rows)(hev:∀a,(ev a).length=wid m):∃(es:Array MapEntry) (clock:Nat),w.heap[g]?=some (.map es clock) /\ il (bj s.bl w) m ev es.toList l:=by
 obtain ⟨us,h1,h2⟩:=h.row _ hr;rcases h1 with ⟨-,h1⟩|⟨-,g',es,cl,aj,e2,e3,e4,e5⟩
 ·rcases h1 with ⟨h1,-⟩|⟨g',cap,cur,h1,-⟩
  ·cases h1
  cases h1
 cases aj;refine ⟨es,cl,e2,MQ hev (by simpa using e3) e5 ?_⟩;rw [←e4];exact h2
end
def sB(g:Nat):aR (zN g)=[g]:=rfl
section
variable {P:Program}{U T:List Nat}{o:Oper}{n d:Nat}{bx:List aV}{rw:List aP}{ts:List (Nat×AT)}{K:AS -> Prop}{st:AS}{α:Type}{m:Nat}{ev:α -> List aO}
theorem sU{w:ab}{kt:bA}(hk:P.underlying kt=some .string){k:aH}{L:List MapEntry}{r:Option (Nat×aN)}(h:Instr.findNow .string (.string k) L 0=some r):(Instr.findKey kt (.string k) L).run P w=.ok r w:=MapKept.run_findKey hk h
theorem si{w:ab}{kt:bA}(hk:P.underlying kt=some .string)(k:aH)(e:Bool):(Instr.checkKey e 10000 kt (.string k)).run P w=.ok () w:=MapKept.run_checkKey hk (d:=.string) (k:=.string k) trivial e 9999
theorem Dg{w:ab}{t kt et:bA}{g:Nat}{es:Array MapEntry}{clock:Nat}{k:aH}{w0:ab}{l:List (aH×α)}(ht:P.underlying t=some (.map kt et))(hk:P.underlying kt=some .string){z:aN}(hz:(zeroValue et).run P w=.ok z w)(hb:w.heap[g]?=some (.map es clock))(he:il w0 m ev es.toList l)(c:Bool):
  (dX l k=none /\ (Instr.lookup t (.map (some g)) (.string k) c).run P w=.ok (if c then .tuple #[z,.bool false] else z) w)∨
  ∃a v,dX l k=some a /\ dV w0 (ev a) v.cells.toList /\ (if m=0 then v.oneCell'=true else ∃us:List aN,v=.agg us.toArray /\ us.length=m) /\ (Instr.lookup t (.map (some g)) (.string k) c).run P w=.ok (if c then .tuple #[v,.bool true] else v) w:=by
 rcases he.find k 0 with ⟨h1,h2,-⟩|⟨j,e,a,h1,h2,h3,h4,h5,h6,-⟩
 ·refine .inl ⟨h1,?_⟩;simp only [Instr.lookup,dI,run_underlying ht,ei,MapKept.run_getObj_map hb,si hk,sU hk h2,fj,hz]
 refine .inr ⟨a,e.val,h1,h5,h6.2,?_⟩;simp only [Instr.lookup,dI,run_underlying ht,ei,MapKept.run_getObj_map hb,si hk,sU hk h2,fj]
theorem NH{w:ab}{c:aO}{v:aN}(h1:v.oneCell'=true)(h:dV w [c] v.cells.toList):jn w c v:=by
 have e:v.cells.toList=[v]:=by cases v<;>first|rfl|cases h1
 rw [e] at h;exact h.at_ 0 aL aL
theorem vu{w w':ab}(hk:cQ U w w'){g:Nat}{o:Obj}(hb:w.heap[g]?=some o)(hU:g∉U):w'.heap[g]?=some o:=(hk.block g (vn.1 hb).1 hU).trans hb
abbrev bE(i:Int):List aO:=[aA i]
theorem xB(i:Int):(bE i).length=wid 0:=rfl
def bz(l:List (ByteArray×Int))(k:ByteArray):Int:=(dX l k).getD 0
theorem oV{t kt et:bA}{x y:bb}{g:Nat}{k:aH}(l:List (aH×Int))(ho:o.op=.lookup t x y false)(hx:aw st x=some (.c (aC g)))(hy:aw st y=some (cK k))(hrow:ao g 0 bE l∈st.s.rows)
  (ht:P.underlying t=some (.map kt et)) (hk:P.underlying kt=some .string) (hz:∀w,(zeroValue et).run P w=.ok (.int .i64 0) w) (hU:st.s.bl.Nodup -> g∉U):co P U o st (an (bz l k)):=by
 intro a w hs hU2;obtain ⟨es,cl,hb,he⟩:=hs.mem.DB (m:=0) (ev:=bE) (g:=g) (l:=l) hrow xB;refine ⟨_,.c _ _ (.val _ J),λw' hkp=>?_⟩;have hb2:=vu hkp hb (hU hs.mem.nodup);have hop:execOp a.eval o=(do pure (.value (←Instr.lookup t (.map (some g)) (.string k) false))):=yK;rw [hop];rcases Dg (P:=P) (k:=k) ht hk (hz w') hb2 he false with ⟨h1,h2⟩|⟨b,v,h1,h2,h3,h4⟩
 ·have e:bz l k=0:=BX;rw [e,dI,h2];rfl
 have e:bz l k=b:=BX;have hv:=Hi (NH wg h2);rw [e,dI,h4,hv];rfl
theorem IA{t kt et:bA}{x y:bb}{g:Nat}{k:aH}(l:List (aH×Int))(ho:o.op=.lookup t x y true)(hx:aw st x=some (.c (aC g)))(hy:aw st y=some (cK k))(hrow:ao g 0 bE l∈st.s.rows)
  (ht:P.underlying t=some (.map kt et)) (hk:P.underlying kt=some .string) (hz:∀w,(zeroValue et).run P w=.ok (.int .i64 0) w) (hU:st.s.bl.Nodup -> g∉U):co P U o st (.fd [an (bz l k),bC ((dX l k).isSome)]):=by
 intro a w hs hU2;obtain ⟨es,cl,hb,he⟩:=hs.mem.DB (m:=0) (ev:=bE) (g:=g) (l:=l) hrow xB;refine ⟨_,.fd _ [.int .i64 (bz l k),.bool (dX l k).isSome] J (λi h h'=>by
  match i,h,h' with
  |0,_,_=>exact .c _ _ (.val _ rfl)
  |1,_,_=>exact .c _ _ (.val _ rfl)),λw' hkp=>?_⟩
 have hb2:=vu hkp hb (hU hs.mem.nodup);have hop:execOp a.eval o=(do pure (.value (←Instr.lookup t (.map (some g)) (.string k) true))):=yK;rw [hop];rcases Dg (P:=P) (k:=k) ht hk (hz w') hb2 he true with ⟨h1,h2⟩|⟨b,v,h1,h2,h3,h4⟩
 ·have e:bz l k=0:=BX;rw [e,h1,dI,h2];rfl
 have e:bz l k=b:=BX;have hv:=Hi (NH wg h2);rw [e,h1,dI,h4,hv];rfl
theorem Qe{t kt et:bA}{x y:bb}{g:Nat}{k:aH}(l:List (aH×α)){b:α}(ho:o.op=.lookup t x y false)(hx:aw st x=some (.c (aC g)))(hy:aw st y=some (cK k))(hrow:ao g m ev l∈st.s.rows)(hm:m≠0)(hev:∀a,(ev a).length=m)
  (ht:P.underlying t=some (.map kt et)) (hk:P.underlying kt=some .string) {z:aN} (hz:∀w,(zeroValue et).run P w=.ok z w) (hU:st.s.bl.Nodup -> g∉U) (hl:dX l k=some b):co P U o st (.agg (ev b)):=by
 intro a w hs hU2;obtain ⟨es,cl,hb,he⟩:=hs.mem.DB (m:=m) (ev:=ev) (g:=g) (l:=l) hrow AU;rcases Dg (P:=P) (k:=k) ht hk (hz w) hb he false with ⟨h1,h2⟩|⟨b',v,h1,h2,h3,h4⟩
 ·rw [h1] at hl;cases hl
 rw [h1] at hl;cases hl;rw [if_neg hm] at h3;obtain ⟨us,rfl,-⟩:=h3;refine ⟨_,.agg _ us (by simpa [Value.cells] using h2),λw' hkp=>?_⟩;have hb2:=vu hkp hb (hU hs.mem.nodup);have hop:execOp a.eval o=(do pure (.value (←Instr.lookup t (.map (some g)) (.string k) false))):=yK;rw [hop];have hrun:(Instr.lookup t (.map (some g)) (.string k) false).run P w'=.ok (.agg us.toArray) w':=by
  rcases he.find k 0 with ⟨g1,-⟩|⟨j,e,a,g1,g2,-⟩
  ·rw [g1] at h1;cases h1
  have f1:(Instr.lookup t (.map (some g)) (.string k) false).run P w=.ok e.val w:=by simp only [Instr.lookup,dI,run_underlying ht,ei,MapKept.run_getObj_map hb,si hk,sU hk g2,fj];rfl
  have f2:(Instr.lookup t (.map (some g)) (.string k) false).run P w'=.ok e.val w':=Nv;rw [f1] at h4;have e9:e.val=.agg us.toArray:=by simpa using h4
  rw [f2,e9]
 rw [dI,hrun];rfl
theorem Rq{t kt et:bA}{x y:bb}{g:Nat}{k:aH}(l:List (aH×α)){b:α}(ho:o.op=.lookup t x y true)(hx:aw st x=some (.c (aC g)))(hy:aw st y=some (cK k))(hrow:ao g m ev l∈st.s.rows)(hm:m≠0)(hev:∀a,(ev a).length=m)
  (ht:P.underlying t=some (.map kt et)) (hk:P.underlying kt=some .string) {z:aN} (hz:∀w,(zeroValue et).run P w=.ok z w) (hU:st.s.bl.Nodup -> g∉U) (hl:dX l k=some b):co P U o st (.fd [.agg (ev b),bC true]):=by
 intro a w hs hU2;obtain ⟨es,cl,hb,he⟩:=hs.mem.DB (m:=m) (ev:=ev) (g:=g) (l:=l) hrow AU;rcases he.find k 0 with ⟨g1,-⟩|⟨j,e,a2,g1,g2,g3,g4,g5,g6,-⟩
 ·rw [g1] at hl;cases hl
 rw [g1] at hl;cases hl;have h3:=g6.2;rw [if_neg hm] at h3;obtain ⟨us,e9,-⟩:=h3;rw [e9] at g5;refine ⟨_,.fd _ [.agg us.toArray,.bool true] J (λi h h'=>by
  match i,h,h' with
  |0,_,_=>exact .agg _ us (by simpa [Value.cells] using g5)
  |1,_,_=>exact .c _ _ (.val _ rfl)),λw' hkp=>?_⟩
 have hb2:=vu hkp hb (hU hs.mem.nodup);have hop:execOp a.eval o=(do pure (.value (←Instr.lookup t (.map (some g)) (.string k) true))):=yK;rw [hop];have f2:(Instr.lookup t (.map (some g)) (.string k) true).run P w'=.ok (.tuple #[e.val,.bool true]) w':=Nv;rw [dI,f2,e9];rfl
theorem W6{t kt et:bA}{x y:bb}{g:Nat}{k:aH}(l:List (aH×α))(ho:o.op=.lookup t x y true)(hx:aw st x=some (.c (aC g)))(hy:aw st y=some (cK k))(hrow:ao g m ev l∈st.s.rows)(hm:m≠0)(hev:∀a,(ev a).length=m)
  (ht:P.underlying t=some (.map kt et)) (hk:P.underlying kt=some .string) {z:aN} (hz:∀w,(zeroValue et).run P w=.ok z w) (hU:st.s.bl.Nodup -> g∉U) (hl:dX l k=none) (cY:AT) (hct:gb z=cY):co P U o st (.fd [cY,bC false]):=by
 subst hct;intro a w hs hU2;obtain ⟨es,cl,hb,he⟩:=hs.mem.DB (m:=m) (ev:=ev) (g:=g) (l:=l) hrow AU;refine ⟨_,.fd _ [z,.bool false] J (λi h h'=>by
  match i,h,h' with
  |0,_,_=>exact zS _ z
  |1,_,_=>exact .c _ _ (.val _ rfl)),λw' hkp=>?_⟩
 have hb2:=vu hkp hb (hU hs.mem.nodup);have hop:execOp a.eval o=(do pure (.value (←Instr.lookup t (.map (some g)) (.string k) true))):=yK;rw [hop];rcases Dg (P:=P) (k:=k) ht hk (hz w') hb2 he true with ⟨h1,h2⟩|⟨b,v,h1,-⟩
 ·rw [dI,h2];rfl
 rw [h1] at hl;cases hl
theorem Hm(w:ab)(g:Nat)(x:Obj):cQ [g] w (setBlock w g x):=
 ⟨rfl,rfl,rfl,by simp [setBlock],λk hk hn=>by
  show (w.heap.setIfInBounds g x)[k]?=_;rw [KS];intro h;exact hn sf⟩
theorem Mem.aH2{s:aJ}{w:ab}{A B:List aP}{g:Nat}{l l':List (aH×α)}{es es':Array MapEntry}{clock clock':Nat}(h:Mem s w)(hb:s.rows=A++ao g m ev l::B)(h1:w.heap[g]?=some (.map es clock))(hr:il (bj s.bl w) m ev es'.toList l'):
  Mem ⟨s.boxes,A++ao g m ev l'::B⟩ (setBlock w g (.map es' clock')):=by
 have hbl:(⟨s.boxes,A++ao g m ev l'::B⟩:aJ).bl=s.bl:=vV;have hmem:g∈s.bl:=by unfold aJ.bl;rw [hb];simp [sB]
 have hk:=Hm w g (.map es' clock');have hu:f7 (bj s.bl w) (bj s.bl (setBlock w g (.map es' clock'))):=lb hk Hd (λx hx=>.inl hx);have hlt:g<w.heap.size:=h.lt g hmem;have hnd:=h.nodup;have hnd2:((s.boxes.map aV.b++A.flatMap λr=>aR r.v)++([g]++B.flatMap λr=>aR r.v)).Nodup:=by
  have h9:=hnd;unfold aJ.bl at h9;rw [hb] at h9;simpa [sB] using h9
 have aM0:∀x,x∈s.boxes -> x.b≠g:=λx hx he=>(eN.1 hnd2).2.2 x.b (gR _ (lP.2 ⟨x,hx,J⟩)) g aL he;have hrow:∀r,r∈A∨r∈B -> g∉aR r.v:=by
  intro r hr2 hm2;rcases hr2 with hr2|hr2
  ·exact (eN.1 hnd2).2.2 g (gx _ (ky.2 ⟨r,hr2,hm2⟩)) g aL J
  exact (eN.1 (eN.1 hnd2).2.1).2.2 g aL g (ky.2 ⟨r,hr2,hm2⟩) J
 refine ⟨by rw [hbl];exact hnd,λx hx=>ED,λx hx=>?_,λr hr2=>?_⟩
 ·rw [hbl];obtain ⟨us,aj,e2⟩:=h.box x hx;exact ⟨us,Mk,e2.mono hu⟩
 rw [hbl];have old:r∈A∨r∈B -> ∃us,pG (setBlock w g (.map es' clock')) r us /\ dV (bj s.bl (setBlock w g (.map es' clock'))) r.cs us:=λhr=>by
  have hr3:r∈s.rows:=PP;obtain ⟨us,aj,e2⟩:=h.row r hr3;exact ⟨us,aj.keep λq hq=>hk.block q (h.lt q (gx _ (ky.2 ⟨r,hr3,hq⟩))) Ly,e2.mono hu⟩
 simp only [mem_append,mem_cons] at hr2;rcases hr2 with hr2|rfl|hr2
 ·exact old (.inl hr2)
 ·refine ⟨es'.toList.flatMap om,.inr ⟨J,g,es',clock',J,?_,by simpa using hr.len,J,hr.ok⟩,(hr.mono hu).rep⟩;show (w.heap.setIfInBounds g _)[g]?=_;simp [hlt]
 exact old (.inr hr2)
theorem Tt{w:ab}{t:AT}{b:α}{v:aN}(hc:lV t=some (ev b))(hr:cU w t v)(hm:if m=0 then (∃c,t=.c c) else (∃cs,t=.agg cs /\ cs.length=m)):if m=0 then v.oneCell'=true else ∃us:List aN,v=.agg us.toArray /\ us.length=m:=by
 split at hm
 ·rename_i h0;rw [if_pos h0];obtain ⟨c,rfl⟩:=hm;cases hr with|c _ _ hr=>exact hr.one
 rename_i h0;rw [if_neg h0];obtain ⟨cs,rfl,hl⟩:=hm;cases hr with|agg _ us hr=>exact ⟨us,rfl,hr.len.trans hl⟩
theorem Iy{t kt et:bA}{x y z:bb}{g:Nat}{k:aH}{b:α}{u:AT}(l:List (aH×α))(A:List aP){B:List aP}(ho:o.op=.mapUpdate t x y z)(hd:o.dst=none)(hx:aw st x=some (.c (aC g)))(hy:aw st y=some (cK k))(hz:aw st z=some u)(hc:lV u=some (ev b))(hrow:st.s.rows=A++ao g m ev l::B)(hev:∀a,(ev a).length=wid m)
  (hm:if m=0 then (∃c,u=.c c) else (∃cs,u=.agg cs /\ cs.length=m)) (ht:P.underlying t=some (.map kt et)) (hk:P.underlying kt=some .string) (hT:g∈st.T) (hU:st.s.bl.Nodup -> g∈U)
  (h:K {st with s:=⟨st.s.boxes,A++ao g m ev (dB l k b)::B⟩}):dZ P U o st K:=by
 intro a w hs KK QQ hK;obtain ⟨es,cl,hb,he⟩:=hs.mem.DB (m:=m) (ev:=ev) (g:=g) (l:=l) tF hev;have hv:=hs.ev hz;generalize hvv:a.eval z=v at hv;have hval:=uq hc hv;have hok:qW m ⟨.string k,v,cl⟩:=⟨⟨k,J⟩,Tt hc hv hm⟩;have hbl:(⟨st.s.boxes,A++ao g m ev (dB l k b)::B⟩:aJ).bl=st.s.bl:=FA;have hbm:g∈st.s.bl:=by unfold aJ.bl;rw [hrow];simp [sB]
 have key:∃es' cl',(Instr.mapUpdate t (.map (some g)) (.string k) v).run P w=.ok () (setBlock w g (.map es' cl')) /\ il (bj st.s.bl w) m ev es'.toList (dB l k b):=by
  rcases he.find k 0 with ⟨h1,h2,h3,-⟩|⟨j,e,a2,h1,h2,h3,h4,h5,h6,h7,h8,-,h10⟩
  ·refine ⟨es.push ⟨.string k,v,cl⟩,cl+1,?_,?_⟩
   ·simp only [Instr.mapUpdate,dI,run_underlying ht,ei,MapKept.run_getObj_map hb,si hk,sU hk h2,MapKept.run_setObj_map _ hb];rfl
   rw [h3,Array.toList_push];exact he.snoc rfl hval hok
  have he3:es[j]?=some e:=wg;refine ⟨es.modify j λx=>{x with key:=.string k,val:=v},cl,?_,?_⟩
  ·simp only [Instr.mapUpdate,dI,run_underlying ht,ei,MapKept.run_getObj_map hb,si hk,sU hk h2,cp,he3,oi,we,h4,MapKept.run_keyThatStays (d:=.string) (k:=.string k) trivial,MapKept.run_setObj_map _ hb];rfl
  have hj:j<es.size:=by simpa using h7
  have aj:(es.modify j λx=>{x with key:=.string k,val:=v}).toList=es.toList.set j ⟨.string k,v,e.born⟩:=by
   refine CC λi=>?_;rw [nT,Dy,List.getElem?_set];by_cases hij:j=i
   ·subst hij;rw [if_pos rfl,if_pos rfl,he3,if_pos h7];rfl
   rw [if_neg hij,if_neg hij,nT]
  rw [aj];exact h10 b ⟨.string k,v,e.born⟩ J hval ⟨⟨k,J⟩,hok.2⟩
 obtain ⟨es',cl',hrun,aH3⟩:=key;have hkp:=Hm w g (.map es' cl');unfold Oper.wp;have Fr:(execOp a.eval o).run P w=.ok .skip (setBlock w g (.map es' cl')):=by
  simp only [execOp,ho,hs.val hx,hs.val hy,hvv,dI,hrun];rfl
 rw [Fr,Oper.upon_skip,hd];have hmm:=hs.mem.aH2 (clock':=cl') hrow hb aH3;refine hK _ _ _ h (hs.step st.T (hkp.mono so) hmm (λx hx=>.inl sE)) ⟨hkp.mono so,hkp.mono AE,λx hx=>.inl sE,λx hx=>.inl hx⟩ (hkp.mono yd)
theorem Sl{t kt et kt2:bA}{x y:bb}{g:Nat}{k:aH}(l:List (aH×α))(A:List aP){B:List aP}(ho:o.op=.call {callee:=.builtin .delete,args:=#[x,y],argTypes:=#[t,kt2]})(hd:o.dst=none)(hx:aw st x=some (.c (aC g)))(hy:aw st y=some (cK k))(hrow:st.s.rows=A++ao g m ev l::B)(hev:∀a,(ev a).length=wid m)
  (ht:P.underlying t=some (.map kt et)) (hk:P.underlying kt=some .string) (hT:g∈st.T) (hU:st.s.bl.Nodup -> g∈U)
  (h:K {st with s:=⟨st.s.boxes,A++ao g m ev (eW l k)::B⟩}):dZ P U o st K:=by
 intro a w hs KK QQ hK;obtain ⟨es,cl,hb,he⟩:=hs.mem.DB (m:=m) (ev:=ev) (g:=g) (l:=l) tF hev;have hbl:(⟨st.s.boxes,A++ao g m ev (eW l k)::B⟩:aJ).bl=st.s.bl:=FA;have hbm:g∈st.s.bl:=by unfold aJ.bl;rw [hrow];simp [sB]
 have key:∃es',(Builtin.delete_ #[t,kt2] o.type #[.map (some g),.string k]).run P w=.ok (.tuple #[]) (setBlock w g (.map es' cl)) /\ il (bj st.s.bl w) m ev es'.toList (eW l k):=by
  rcases he.find k 0 with ⟨h1,h2,-,h3⟩|⟨j,e,a2,h1,h2,h3,h4,h5,h6,h7,h8,-⟩
  ·refine ⟨es,?_,by rw [h3];exact he⟩;simp [Builtin.delete_,run_underlying ht,MapKept.run_getObj_map hb,si hk,sU hk h2,MapKept.run_setObj_map _ hb,Result.andThen,setBlock]
  have hj:j<es.size:=by simpa using h7
  refine ⟨es.eraseIdxIfInBounds j,?_,?_⟩
  ·simp [Builtin.delete_,run_underlying ht,MapKept.run_getObj_map hb,si hk,sU hk h2,MapKept.run_setObj_map _ hb,Result.andThen,setBlock]
  have aj:(es.eraseIdxIfInBounds j).toList=es.toList.eraseIdx j:=by
   unfold Array.eraseIdxIfInBounds;rw [dif_pos hj,Array.toList_eraseIdx]
  rw [aj];exact h8
 obtain ⟨es',hrun,aH3⟩:=key;have hkp:=Hm w g (.map es' cl);unfold Oper.wp;have Fr:(execOp a.eval o).run P w=.ok (.value (.tuple #[])) (setBlock w g (.map es' cl)):=by
  unfold execOp;simp only [ho,resolve,invoke,builtin,dI,fj,ei,mI,dE,gH,hs.val hx,hs.val hy,hrun]
 rw [Fr,Oper.upon_value,hd];have hmm:=hs.mem.aH2 (clock':=cl) hrow hb aH3;have s1:=hs.step st.T (hkp.mono so) hmm (λx hx=>.inl sE);refine hK _ _ _ h (by simpa [Act.put] using s1) ⟨hkp.mono so,hkp.mono AE,λx hx=>.inl sE,λx hx=>.inl hx⟩ (hkp.mono yd)
theorem vW{t:bA}(m:Nat)(ev:α -> List aO)(ho:o.op=.makeMap t none)(hd:o.dst=some d)(hn:d<n)
  (h:∀g,K ⟨n,g::T,⟨bx,ao g m ev []::rw⟩,(d,.c (aC g))::ts⟩):dZ P U o ⟨n,T,⟨bx,rw⟩,ts⟩ K:=by
 intro a w hs KK QQ hK;have hrun:(execOp a.eval o).run P w=.ok (.value (.map (some w.heap.size))) (w.alloc (.map #[] 0)):=by
  simp only [execOp,ho];rfl
 have hk:cQ [] w (w.alloc (.map #[] 0)):=(cQ.refl _ _).alloc _;have hne:w.heap.size∉(⟨bx,rw⟩:aJ).bl:=λhm=>Nat.lt_irrefl _ (hs.mem.lt _ hm);have hbl:(⟨bx,ao w.heap.size m ev []::rw⟩:aJ).bl=bx.map aV.b++w.heap.size::rw.flatMap λr=>aR r.v:=by unfold aJ.bl;simp [sB]
 have hsub:∀b,b∈(⟨bx,ao w.heap.size m ev []::rw⟩:aJ).bl -> b∈(⟨bx,rw⟩:aJ).bl∨w.heap.size <= b:=λb hb=>by
  rw [hbl] at hb;simp only [mem_append,mem_cons] at hb;rcases hb with h|rfl|h
  ·exact .inl (gR _ h)
  ·exact .inr (bX _)
  exact .inl (gx _ h)
 have hup:f7 (bj (⟨bx,rw⟩:aJ).bl w) (bj (⟨bx,ao w.heap.size m ev []::rw⟩:aJ).bl (w.alloc (.map #[] 0))):=lb hk jM hsub;have hsz:(w.alloc (.map #[] 0)).heap.size=w.heap.size+1:=aL;have hm:Mem ⟨bx,ao w.heap.size m ev []::rw⟩ (w.alloc (.map #[] 0)):=by
  refine ⟨?_,λb hb=>?_,λx hx=>?_,λr hr=>?_⟩
  ·rw [hbl];have hnd:(bx.map aV.b++rw.flatMap λr=>aR r.v).Nodup:=hs.mem.nodup;rw [eN] at hnd⊢;refine ⟨hnd.1,m5.2 ⟨λh=>hne (gx _ h),hnd.2.1⟩,λa ha b hb=>?_⟩;rcases mem_cons.1 hb with rfl|hb
   ·intro he;subst he;exact hne (gR _ ha)
   exact hnd.2.2 a ha b hb
  ·rw [hbl] at hb;simp only [mem_append,mem_cons] at hb;rw [hsz];rcases hb with h|rfl|h
   ·exact DF (hs.mem.lt b (gR _ h))
   ·exact EJ _
   exact DF (hs.mem.lt b (gx _ h))
  ·obtain ⟨us,aj,e2⟩:=hs.mem.box x hx;exact ⟨us,Ki,e2.mono hup⟩
  rcases mem_cons.1 hr with rfl|hr
  ·refine ⟨[],.inr ⟨J,w.heap.size,#[],0,J,?_,J,J,λe h=>rh⟩,.nil _⟩;show (w.heap.push _)[w.heap.size]?=_;simp
  obtain ⟨us,aj,e2⟩:=hs.mem.row r hr;exact ⟨us,aj.keep λg hg=>hk.block g (hs.mem.lt g (gx _ (ky.2 ⟨r,hr,hg⟩))) aL,e2.mono hup⟩
 unfold Oper.wp;rw [hrun,Oper.upon_value,hd];have s1:=hs.step (st:=⟨n,T,⟨bx,rw⟩,ts⟩) (w.heap.size::T) (hk.mono aL) hm hsub;refine hK _ _ _ (h _) (s1.put (v:=.map (some w.heap.size)) hn (.c _ _ (.val _ J))) ⟨hk.mono aL,hk.mono aL,hsub,λb hb=>?_⟩ (hk.mono aL);rcases mem_cons.1 hb with rfl|hb
 ·exact .inr (bX _)
 exact .inl hb
theorem OX{t kt et:bA}{x:bb}{g:Nat}(l:List (aH×α))(ho:o.op=.call {callee:=.builtin .len,args:=#[x],argTypes:=#[t]})(hx:aw st x=some (.c (aC g)))(hrow:ao g m ev l∈st.s.rows)(hev:∀a,(ev a).length=wid m)(ht:P.underlying t=some (.map kt et))(hU:st.s.bl.Nodup -> g∉U):co P U o st (an l.length):=by
 intro a w hs hU2;obtain ⟨es,cl,hb,he⟩:=hs.mem.DB (m:=m) (ev:=ev) (g:=g) (l:=l) hrow hev;refine ⟨_,.c _ _ (.val _ J),λw' hkp=>?_⟩;have hb2:=vu hkp hb (hU hs.mem.nodup);have hl:es.size=l.length:=by simpa using he.len
 unfold execOp;simp only [ho,resolve,invoke,builtin,dI,fj,ei,mI,dE,gH,hs.val hx];simp [Builtin.len_,Builtin.lenOf,run_underlying ht,MapKept.run_getObj_map hb2,Result.andThen,hl,goInt]
theorem qn{t kt et:bA}{x y z:bb}{g:Nat}{k:aH}{b:Int}(l:List (aH×Int))(A:List aP){B:List aP}(ho:o.op=.mapUpdate t x y z)(hd:o.dst=none)(hx:aw ⟨n,T,⟨bx,A++ao g 0 bE l::B⟩,ts⟩ x=some (.c (aC g)))(hy:aw ⟨n,T,⟨bx,A++ao g 0 bE l::B⟩,ts⟩ y=some (cK k))(hz:aw ⟨n,T,⟨bx,A++ao g 0 bE l::B⟩,ts⟩ z=some (an b))
  (ht:P.underlying t=some (.map kt et)) (hk:P.underlying kt=some .string) (hT:g∈T) (hU:(⟨bx,A++ao g 0 bE l::B⟩:aJ).bl.Nodup -> g∈U) (h:K ⟨n,T,⟨bx,A++ao g 0 bE (dB l k b)::B⟩,ts⟩):dZ P U o ⟨n,T,⟨bx,A++ao g 0 bE l::B⟩,ts⟩ K:=
 Iy (m:=0) (ev:=bE) l A ho hd hx hy hz rfl rfl xB (by rw [if_pos rfl];exact ⟨_,rfl⟩) ht hk hT hU h
theorem Wd{t kt et:bA}{x y z:bb}{g:Nat}{k:aH}{b:α}(l:List (aH×α))(A:List aP){B:List aP}(ho:o.op=.mapUpdate t x y z)(hd:o.dst=none)(hx:aw ⟨n,T,⟨bx,A++ao g m ev l::B⟩,ts⟩ x=some (.c (aC g)))(hy:aw ⟨n,T,⟨bx,A++ao g m ev l::B⟩,ts⟩ y=some (cK k))(hz:aw ⟨n,T,⟨bx,A++ao g m ev l::B⟩,ts⟩ z=some (.agg (ev b)))(hm:m≠0)(hev:∀a,(ev a).length=m)
  (ht:P.underlying t=some (.map kt et)) (hk:P.underlying kt=some .string) (hT:g∈T) (hU:(⟨bx,A++ao g m ev l::B⟩:aJ).bl.Nodup -> g∈U) (h:K ⟨n,T,⟨bx,A++ao g m ev (dB l k b)::B⟩,ts⟩):dZ P U o ⟨n,T,⟨bx,A++ao g m ev l::B⟩,ts⟩ K:=
 Iy (m:=m) (ev:=ev) l A ho hd hx hy hz rfl rfl AU (by rw [if_neg hm];exact ⟨_,rfl,hev b⟩) ht hk hT hU h
theorem EV{t kt et kt2:bA}{x y:bb}{g:Nat}{k:aH}(l:List (aH×Int))(A:List aP){B:List aP}(ho:o.op=.call {callee:=.builtin .delete,args:=#[x,y],argTypes:=#[t,kt2]})(hd:o.dst=none)(hx:aw ⟨n,T,⟨bx,A++ao g 0 bE l::B⟩,ts⟩ x=some (.c (aC g)))(hy:aw ⟨n,T,⟨bx,A++ao g 0 bE l::B⟩,ts⟩ y=some (cK k))
  (ht:P.underlying t=some (.map kt et)) (hk:P.underlying kt=some .string) (hT:g∈T) (hU:(⟨bx,A++ao g 0 bE l::B⟩:aJ).bl.Nodup -> g∈U) (h:K ⟨n,T,⟨bx,A++ao g 0 bE (eW l k)::B⟩,ts⟩):dZ P U o ⟨n,T,⟨bx,A++ao g 0 bE l::B⟩,ts⟩ K:=
 Sl (m:=0) (ev:=bE) l A ho hd hx hy rfl xB ht hk hT hU h
theorem V3{Z:List Nat}{A B:List aP}{g:Nat}{l:List (aH×α)}(hZ:∀z,z∈Z -> z∈bx.map aV.b)(hn:(⟨bx,A++ao g m ev l::B⟩:aJ).bl.Nodup):g∈fe ⟨bx,A++ao g m ev l::B⟩ Z:=by
 have h3:g∈(A++ao g m ev l::B).flatMap λr=>aR r.v:=by simp [sB]
 refine gh.2 ⟨gx _ h3,λhz=>?_⟩;exact (eN.1 hn).2.2 g (hZ g hz) g h3 J
end
end
section
abbrev bq:=List (ByteArray×Int)
structure eF where
 ch:bq
 n:Nat
 at_:Int
def qB(v:bq)(s:ByteArray):Nat:=if bz v s=0 then 6 else if bz v s=1 then 0 else 8
mutual
def jN(v:bq):aS -> Nat
 |.mk op _ name args=>if op=2 then qB v name else lE v args
def lE(v:bq):List aS -> Nat
 |[]=>0
 |e::r=>if jN v e=0 then lE v r else jN v e
end
def BD(v:bq):List aS -> Nat
 |[]=>0
 |e::_=>jN v e
def wX(v:bq)(r:cL):Bool:=(decide (bz v r.name≠2) && decide (bz v r.name≠3) && decide (bz v r.name≠4))||(decide (bz v r.name=3) != decide (0<r.index.length))
def pJ(v:bq)(r:cL):Nat:=if bz v r.name=0 then 6 else if wX v r then 8 else if bz v r.name=3 then BD v r.index else 0
def nL(v:bq)(a:cI)(x:bg):Nat:=if a.mutex=x.mutex then (if a.mutex then pJ v a.ref else jN v a.expr) else 8
def jF(v:bq):List cI -> List bg -> Nat
 |a::l,x::xs=>if nL v a x=0 then jF v l xs else nL v a x
 |_,_=>0
abbrev dT:=List (ByteArray×bB)
def MH(v:bq)(args:List cI):Option bB -> Nat
 |none=>0
 |some f=>if args.length=f.params.length then jF v args f.params else 7
def r8(v:bq)(fs:dT)(name:ByteArray)(args:List cI):Nat:=if bz v name=0 then 6 else if bz v name=5 then MH v args (dX fs name) else 8
def kq(v:bq)(fs:dT)(s:aE):Nat:=
 if s.kind=1 then (if bz v s.name=0 then jN v s.expr else 5)
 else if s.kind=2 then (if qB v s.name=0 then jN v s.expr else qB v s.name)
 else if s.kind=5∨s.kind=6 then pJ v s.ref
 else if s.kind=3∨s.kind=4 then r8 v fs s.name s.args
 else if s.kind=7∨s.kind=8 then jN v s.expr else 0
def ia(x:Nat×List ByteArray×eF):Nat×eF:=if x.1=0 then (0,⟨x.2.1.foldl eW x.2.2.ch,x.2.2.n,x.2.2.at_⟩) else (x.1,x.2.2)
def iy(s:aE)(x:eF):eF:=⟨if s.kind=1 then dB x.ch s.name 1 else x.ch,x.n+1,x.n⟩
def qZ(s:aE)(own:List ByteArray):List ByteArray:=if s.kind=1 then own++[s.name] else own
mutual
def gW(fs:dT):aE -> eF -> Nat×eF
 |.mk k name e r args t f,x=>
  if kq x.ch fs (.mk k name e r args t f)=0 then
   (if (ia (eI fs t [] (iy (.mk k name e r args t f) x))).1=0 then ia (eI fs f [] (ia (eI fs t [] (iy (.mk k name e r args t f) x))).2) else ia (eI fs t [] (iy (.mk k name e r args t f) x)))
  else (kq x.ch fs (.mk k name e r args t f),⟨x.ch,x.n+1,x.n⟩)
def eI(fs:dT):List aE -> List ByteArray -> eF -> Nat×List ByteArray×eF
 |[],own,x=>(0,own,x)
 |s::l,own,x=>if (gW fs s x).1=0 then eI fs l (qZ s own) (gW fs s x).2 else ((gW fs s x).1,own,(gW fs s x).2)
end
def jI(fs:dT)(l:List aE)(x:eF):Nat×eF:=ia (eI fs l [] x)
def C4(fs:dT)(s:aE)(x:eF):gW fs s x=if kq x.ch fs s=0 then (if (jI fs s.thn (iy s x)).1=0 then jI fs s.els (jI fs s.thn (iy s x)).2 else jI fs s.thn (iy s x)) else (kq x.ch fs s,⟨x.ch,x.n+1,x.n⟩):=by
 obtain ⟨k,name,e,r,args,t,f⟩:=s;rw [gW];rfl
def qJ(x:bg):Int:=if x.mutex then 4 else 1
def gU:List bg -> bq -> Bool×bq
 |[],v=>(true,v)
 |x::r,v=>if bz v x.name=0 then gU r (dB v x.name (qJ x)) else (false,v)
def nZ(l:List bg)(v:bq):bq:=l.foldl (λv x=>eW v x.name) v
def j9(fs:dT)(f:bB)(v:bq):Nat×eF:=
 if (gU f.params v).1 then ((jI fs f.body ⟨(gU f.params v).2,0,-1⟩).1,⟨nZ f.params (jI fs f.body ⟨(gU f.params v).2,0,-1⟩).2.ch,(jI fs f.body ⟨(gU f.params v).2,0,-1⟩).2.n,(jI fs f.body ⟨(gU f.params v).2,0,-1⟩).2.at_⟩)
 else (5,⟨(gU f.params v).2,0,-1⟩)
def nz(fs:dT):List bB -> Nat -> bq -> Int×Int×Nat
 |[],_,_=>(0,0,0)
 |f::r,i,v=>if (j9 fs f v).1=0 then nz fs r (i+1) (j9 fs f v).2.ch else (i,(j9 fs f v).2.at_,(j9 fs f v).1)
def hJ:List (ByteArray×Int) -> bq -> Nat -> Option Nat×bq
 |[],v,_=>(none,v)
 |p::r,v,n=>if bz v p.1=0 then hJ r (dB v p.1 p.2) (n+1) else (some n,v)
def qQ(m:cn):Int:=if 0<m.size then 3 else 2
def iE(p:aY):List (ByteArray×Int):=p.globals.map (λg=>(g.name,1))++(p.mutexes.map (λm=>(m.name,qQ m))++p.funcs.map (λf=>(f.name,5)))
def iQ(l:List bB):dT:=l.foldl (λm f=>dB m f.name f) []
def yY:ByteArray:=⟨#[109,97,105,110]⟩
def qu(p:aY):Bool:=match dX (iQ p.funcs) yY with
 |none=>false
 |some f=>decide (f.params.length=0)
def pM(p:aY):Int×Int×Nat:=
 if gw p=false then (-1,-1,10) else
 match (hJ (iE p) [] 0).1 with
 |some i=>(-1,i,5)
 |none=>if qu p then nz (iQ p.funcs) p.funcs 0 (hJ (iE p) [] 0).2 else (-1,-1,9)
def p'{α:Type}(l:List (aH×α))(k:aH)(a:α)(s:aH):dX (dB l k a) s=if k=s then some a else dX l s:=by
 induction l with
 |nil=>
  unfold dB dX;by_cases h:k=s
  ·rw [if_pos h,if_pos h]
  ·rw [if_neg h,if_neg h];rfl
 |cons p l ih=>
  unfold dB;by_cases h:p.1=k
  ·rw [if_pos h];unfold dX;by_cases hs:k=s
   ·rw [if_pos hs,if_pos hs]
   rw [if_neg hs,if_neg hs,if_neg (λh2=>hs (h▸h2))]
  rw [if_neg h];unfold dX;by_cases hs:p.1=s
  ·rw [if_pos hs,if_neg (λh2=>h (hs.trans h2.symm)),if_pos hs]
  rw [if_neg hs,ih,if_neg hs]
def put_eq{α:Type}(p:aH×α)(l:List (aH×α))(k:aH)(a:α):dB (p::l) k a=if p.1=k then (k,a)::l else p::dB l k a:=rfl
def Re{α:Type}(l:List (aH×α))(k:aH)(a b:α):dB (dB l k a) k b=dB l k b:=by
 induction l with
 |nil=>show dB [(k,a)] k b=[(k,b)];rw [put_eq,if_pos rfl]
 |cons p l ih=>
  rw [put_eq,put_eq];by_cases h:p.1=k
  ·rw [if_pos h,if_pos h,put_eq,if_pos rfl]
  rw [if_neg h,if_neg h,put_eq,if_neg h,ih]
def dW{α:Type}(l:List (ByteArray×α)):Prop:=(l.map (·.1)).Nodup
def Rr{α:Type}(l:List (aH×α))(k:aH)(a:α):∀s,s∈(dB l k a).map (·.1) -> s=k∨s∈l.map (·.1):=by
 induction l with
 |nil=>intro s h;unfold dB at h;simp at h;exact .inl h
 |cons p l ih=>
  intro s h;unfold dB at h;split at h
  ·rename_i h2;simp only [dE,mem_cons] at h⊢;rcases h with h|h
   ·exact .inl h
   exact .inr (.inr h)
  simp only [dE,mem_cons] at h⊢;rcases h with h|h
  ·exact .inr (.inl h)
  exact (ih s h).imp id .inr
def dW.put{α:Type}{l:List (aH×α)}(h:dW l)(k:aH)(a:α):dW (dB l k a):=by
 induction l with
 |nil=>unfold dB dW;simp
 |cons p l ih=>
  unfold dW at h;simp only [dE,m5] at h;unfold dB;split
  ·rename_i h2;unfold dW;simp only [dE,m5];exact ⟨by rw [←h2];exact h.1,h.2⟩
  rename_i h2;have h3:=ih h.2;unfold dW at h3⊢;simp only [dE,m5];exact ⟨λhm=>(Rr l k a p.1 hm).elim h2 h.1,h3⟩
def Sd{α:Type}(l:List (aH×α))(k:aH):((eW l k).map (·.1)).Sublist (l.map (·.1)):=by
 induction l with
 |nil=>exact .refl _
 |cons p l ih=>
  unfold eW;split
  ·exact zR _ _
  exact ih.cons_cons _
def dW.del{α:Type}{l:List (aH×α)}(h:dW l)(k:aH):dW (eW l k):=(Sd l k).nodup h
def Uq{α:Type}{l:List (aH×α)}{s:aH}(h:s∉l.map (·.1)):dX l s=none:=by
 induction l with
 |nil=>rfl
 |cons p l ih=>
  simp only [dE,mem_cons,not_or] at h;unfold dX;rw [if_neg (λh2=>h.1 h2.symm)];exact ih h.2
def IU{α:Type}{l:List (aH×α)}(h:dW l)(k s:aH):dX (eW l k) s=if k=s then none else dX l s:=by
 induction l with
 |nil=>unfold eW dX;split<;>rfl
 |cons p l ih=>
  unfold dW at h;simp only [dE,m5] at h;unfold eW;by_cases hp:p.1=k
  ·rw [if_pos hp];by_cases hs:k=s
   ·rw [if_pos hs];exact Uq (by rw [←hs,←hp];exact h.1)
   rw [if_neg hs];conv=>rhs;unfold dX
   rw [if_neg (λh2=>hs (hp▸h2))]
  rw [if_neg hp];unfold dX;by_cases hs:p.1=s
  ·rw [if_pos hs,if_neg (λh2=>hp (hs.trans h2.symm)),if_pos hs]
  rw [if_neg hs,ih h.2,if_neg hs]
def tz(v:bq)(k:aH)(a:Int)(s:aH):bz (dB v k a) s=if k=s then a else bz v s:=by
 unfold bz;rw [p'];split<;>rfl
def xE{v:bq}(h:dW v)(k s:aH):bz (eW v k) s=if k=s then 0 else bz v s:=by
 unfold bz;rw [IU h];split<;>rfl
def eH(v:bq)(fs:dT):Prop:=dW v /\ ∀s,bz v s=5 -> ∃f,dX fs s=some f
def eH.put{v:bq}{fs:dT}(h:eH v fs)(k:aH){a:Int}(ha:a≠5):eH (dB v k a) fs:=
 ⟨h.1.put k a,λs hs=>by
  rw [tz] at hs;split at hs
  ·exact absurd hs ha
  exact h.2 s hs⟩
def eH.del{v:bq}{fs:dT}(h:eH v fs)(k:aH):eH (eW v k) fs:=
 ⟨h.1.del k,λs hs=>by
  rw [xE h.1] at hs;split at hs
  ·cases hs
  exact h.2 s hs⟩
def eH.aM1{fs:dT}:∀(l:List aH) {v:bq},eH v fs -> eH (l.foldl eW v) fs
 |[],_,h=>h
 |k::l,_,h=>eH.aM1 l (h.del k)
def Ik{fs:dT}{x:Nat×List aH×eF}(h:eH x.2.2.ch fs):eH (ia x).2.ch fs:=by
 unfold ia;split
 ·exact h.aM1 _
 exact h
def Wz{fs:dT}{s:aE}{x:eF}(h:eH x.ch fs):eH (iy s x).ch fs:=by
 unfold iy;dsimp only;split
 ·exact h.put _ V
 exact h
mutual
def V1(fs:dT):∀(s:aE)(x:eF),eH x.ch fs -> eH (gW fs s x).2.ch fs
 |.mk k name e r args t f,x,h=>by
  have h1:eH (ia (eI fs t [] (iy (.mk k name e r args t f) x))).2.ch fs:=Ik (Bf fs t [] _ (Wz h));rw [gW];split
  ·split
   ·exact Ik (Bf fs f [] _ h1)
   exact h1
  exact h
def Bf(fs:dT):∀(l:List aE)(own:List aH)(x:eF),eH x.ch fs -> eH (eI fs l own x).2.2.ch fs
 |[],_,_,h=>h
 |s::l,own,x,h=>by
  have h1:=V1 fs s x h;rw [eI];split
  ·exact Bf fs l _ _ h1
  exact h1
end
def xq{fs:dT}{l:List aE}{x:eF}(h:eH x.ch fs):eH (jI fs l x).2.ch fs:=Ik (Bf fs l [] x h)
def zQ(x:Nat×List aH×eF):(ia x).2.n=x.2.2.n:=by unfold ia;split<;>rfl
def Yc(s:aE)(x:eF):(iy s x).n=x.n+1:=rfl
mutual
def QS(fs:dT):∀(s:aE)(x:eF),(gW fs s x).2.n <= x.n+s.wt
 |.mk k name e r args t f,x=>by
  have h1:=BZ fs t [] (iy (.mk k name e r args t f) x);have h2:=BZ fs f [] (ia (eI fs t [] (iy (.mk k name e r args t f) x))).2;rw [zQ] at h2;rw [Yc] at h1;rw [gW,aE.wt];split
  ·split
   ·rw [zQ];omega
   rw [zQ];omega
  dsimp only;omega
def BZ(fs:dT):∀(l:List aE)(own:List aH)(x:eF),(eI fs l own x).2.2.n <= x.n+au l
 |[],_,_=>by rw [eI,au];dsimp only;omega
 |s::l,own,x=>by
  have h1:=QS fs s x;have h2:=BZ fs l (qZ s own) (gW fs s x).2;rw [eI,au];split
  ·omega
  dsimp only;omega
end
def Dq(fs:dT)(l:List aE)(x:eF):(jI fs l x).2.n <= x.n+au l:=by unfold jI;rw [zQ];exact BZ fs l [] x
end
section
structure dx (gs ms fs lk lo:bq) (l:List bS):Prop where
 lo:∀s,dX lo s=(match bM l s with|some v=>if v.kind=4 then some (v.n:Int) else none|none=>none)
 lk:∀s,dX lk s=(match bM l s with|some v=>if v.kind=5 then some (v.n:Int) else none|none=>none)
 gs:∀s v,bM l s=some v -> v.kind=1 -> dX gs s=some (v.n:Int)
 ms:∀s v,bM l s=some v -> v.kind=2 -> dX ms s=some (v.n:Int)
 fs:∀s v,bM l s=some v -> v.kind=3 -> dX fs s=some (v.n:Int)
section
variable {gs ms fs lk lo:bq}{l:List bS}
theorem dx.aJv(m:dx gs ms fs lk lo l){s:aH}(h:(dX lo s).isSome=true):∃n:Nat,bz lo s=n /\ bQ l s=⟨(bQ l s).name,4,n⟩:=by
 have h1:=m.lo s;unfold bz bQ;rcases h2:bM l s with _|v
 ·rw [h2] at h1;rw [h1] at h;cases h
 rw [h2] at h1;dsimp only at h1;by_cases h3:v.kind=4
 ·rw [if_pos h3] at h1;rw [h1];exact ⟨v.n,rfl,by obtain ⟨a,b,c⟩:=v;cases h3;rfl⟩
 rw [if_neg h3] at h1;rw [h1] at h;cases h
theorem dx.aJw(m:dx gs ms fs lk lo l){s:aH}(h:(dX lo s).isSome=false)(hv:fI l s=0):∃n:Nat,bz gs s=n /\ bQ l s=⟨(bQ l s).name,1,n⟩:=by
 have h1:=m.lo s;unfold fI at hv;unfold bz bQ;rcases h2:bM l s with _|v
 ·rw [h2] at hv;cases hv
 rw [h2] at h1 hv;dsimp only at h1;unfold Ol at hv;dsimp only at hv;by_cases h3:v.kind=4
 ·rw [if_pos h3] at h1;rw [h1] at h;cases h
 by_cases h4:v.kind=1
 ·rw [m.gs s v h2 h4];exact ⟨v.n,rfl,by obtain ⟨a,b,c⟩:=v;cases h4;rfl⟩
 rw [if_neg Y] at hv;cases hv
theorem dx.aI4(m:dx gs ms fs lk lo l){s:aH}(h:(dX lo s).isSome=true):tK l s=.mk 18 (bz lo s) a_ []:=by
 obtain ⟨n,h1,h2⟩:=m.aJv h;unfold tK;rw [h2,h1];rfl
theorem dx.aI5(m:dx gs ms fs lk lo l){s:aH}(h:(dX lo s).isSome=false)(hv:fI l s=0):tK l s=.mk 19 (bz gs s) a_ []:=by
 obtain ⟨n,h1,h2⟩:=m.aJw h hv;unfold tK;rw [h2,h1];rfl
theorem dx.aKs(m:dx gs ms fs lk lo l){p:aY}{r:cL}(h:(dX lk r.name).isSome=true)(hE:d9 p l r=0):∃n:Nat,bz lk r.name=n /\ eg l r=⟨true,n,[]⟩:=by
 have h1:=m.lk r.name;unfold d9 at hE;unfold bz eg bQ;rcases h2:bM l r.name with _|v
 ·rw [h2] at h1;rw [h1] at h;cases h
 rw [h2] at h1 hE;dsimp only at h1;by_cases h3:v.kind=5
 ·rw [if_pos h3] at h1;have h4:kT p r.index.length (some v)=0:=by unfold dP at hE;split at hE<;>assumption
  unfold kT at h4;dsimp only at h4;rw [if_pos (.inr h3),decide_eq_false (show ¬v.kind=2 by omega),BF] at h4;have h5:r.index=[]:=by
   cases hi:r.index with
   |nil=>rfl
   |cons a b=>rw [hi] at h4;simp at h4
  rw [h1,h5];exact ⟨v.n,J,by show (⟨decide (v.kind=5),v.n,_⟩:pq)=_;rw [decide_eq_true h3];rfl⟩
 rw [if_neg h3] at h1;rw [h1] at h;cases h
theorem uG{a b:Nat}(h:dP a b=0):a=0 /\ b=0:=by
 unfold dP at h;split at h
 ·exact ⟨mB,h⟩
 omega
theorem dx.aKt(m:dx gs ms fs lk lo l){p:aY}{r:cL}(h:(dX lk r.name).isSome=false)(hE:d9 p l r=0):∃n:Nat,bz ms r.name=n /\ eg l r=⟨false,n,r.index.map (ck l)⟩:=by
 have h1:=m.lk r.name;have h0:=(uG hE).1;unfold bz eg bQ;rcases h2:bM l r.name with _|v
 ·rw [h2] at h0;cases h0
 rw [h2] at h1 h0;dsimp only at h1;by_cases h3:v.kind=5
 ·rw [if_pos h3] at h1;rw [h1] at h;cases h
 unfold kT at h0;dsimp only at h0;by_cases h4:v.kind=2
 ·rw [m.ms _ v h2 h4];exact ⟨v.n,J,by show (⟨decide (v.kind=5),v.n,_⟩:pq)=_;rw [decide_eq_false h3]⟩
 rw [if_neg Y] at h0;cases h0
theorem IH(l:List bS):∀(r:List aS),hP l r=0 -> ∀k (h:k<r.length),cW l r[k]=0
 |e::r,h,0,_=>by rw [hP] at h;exact (uG h).1
 |e::r,h,k+1,hk=>by rw [hP] at h;exact IH l r (uG h).2 k qm
theorem SF{p:aY}{r:cL}(hE:d9 p l r=0):∀k (h:k<r.index.length),cW l r.index[k]=0:=IH l r.index (uG hE).2
theorem P1(p:aY)(l:List bS):∀(r:List cI)(x:List bg),x.length=r.length -> jG p l r x=0 -> ju r x=r /\ ∀k (h:k<r.length),vU p l r[k]=0
 |[],[],_,_=>⟨rfl,λk h=>absurd h aL⟩
 |a::r,x::xs,hl,h=>by
  rw [jG] at h;rw [ju];by_cases hm:a.mutex=x.mutex
  ·rw [if_pos hm] at h⊢;obtain ⟨h1,h2⟩:=uG h;obtain ⟨h3,h4⟩:=P1 p l r xs tr h2;refine ⟨by rw [h3],λk hk=>?_⟩;cases k with
   |zero=>exact h1
   |succ k=>exact h4 k qm
  rw [if_neg hm] at h;cases h
theorem dx.aIy(m:dx gs ms fs lk lo l){p:aY}{s:aE}(hE:eB p l s=0):∃n:Nat,bz fs s.name=n /\ gJ p l s=⟨if s.kind=4 then 3 else 2,n,false,.zero,dK,d3 l s.args,eX l s.args⟩ /\ ∀k (h:k<s.args.length),vU p l s.args[k]=0:=by
 unfold eB at hE;unfold bz gJ;rcases h2:bM l s.name with _|v
 ·rw [h2] at hE;cases hE
 rw [h2] at hE;unfold ob at hE;dsimp only at hE;by_cases h3:v.kind=3
 ·rw [if_pos h3] at hE;by_cases h4:(kM p v.n).length=s.args.length
  ·rw [if_pos h4] at hE;obtain ⟨h5,h6⟩:=P1 p l s.args _ h4 hE;rw [m.fs _ v h2 h3];refine ⟨v.n,J,?_,h6⟩;unfold nx;dsimp only;rw [if_pos h3,if_pos h4,h5]
  rw [if_neg h4] at hE;cases hE
 rw [if_neg h3] at hE;cases hE
end
end
section
open Go.RowKit
def YB{P:Program}{ops:Array Oper}{Z:List Nat}{fuel:Nat}{listed:Array Bool}{n:Nat}{T:List Nat}{s:aJ}{ts:List (Nat×AT)}{K:AS -> Prop}(i:Nat){u t:AT}(hl:look ts i=some u)(hw:bL u t)(h:dr P ops Z fuel listed ⟨n,T,s,(i,t)::ts⟩ K):dr P ops Z fuel listed ⟨n,T,s,ts⟩ K:=Gc (FR (st:=⟨n,T,s,ts⟩) i hl hw) h
def wm(x y:Int):Int:=IntKind.i64.wrap ((BitVec.ofInt IntKind.i64.bits x &&& BitVec.ofInt IntKind.i64.bits y).toNat)
section
variable {P:Program}{U:List Nat}{o:Oper}{st:AS}
theorem xr{t yt:bA}{x y:bb}{m n:Int}(ho:o.op=.binOp .and t x y yt)(hx:aw st x=some (an m))(hy:aw st y=some (an n)):co P U o st (an (wm m n)):=
 iF rfl λa w hs w'=>by
  simp only [execOp,ho,hs.val hx,hs.val hy];simp [go_sem,eqGuard,binOp,Op.intBits,wm]
theorem MV{t yt:bA}{x y:bb}{m:Int}(ho:o.op=.binOp .shr t x y yt)(hx:aw st x=some (an m))(hy:aw st y=some (av (.int .u64 1))):co P U o st (an (m.fdiv 2)):=
 iF rfl λa w hs w'=>by
  simp only [execOp,ho,hs.val hx,hs.val hy];simp [go_sem,eqGuard,binOp,Op.shift,show min (Int.toNat 1) IntKind.i64.bits=1 from rfl]
end
def mG(x n:Int)(hn:0<n):∃k:Nat,x%n=k /\ (k:Int)<n:=
 ⟨(x%n).toNat,by have:=AQ x (b:=n) Y;omega,by have:=AQ x (b:=n) Y;have:=FV x (b:=n) hn;omega⟩
def mL(x n:Int)(k:Nat)(hn:0<n)(hn2:n <= 4611686018427387904)(hk:x%n=k)(s:aJ):aU prog 16 [an x,an n] [] s λr s'=>r=ae k /\ s'=s:=by
 have h:=O7 x n hn hn2 s;rw [hk] at h;exact h
end
section
open Go.RowKit
def jP(ops:Array Oper)(m:Nat):Array Oper:=(ops.toList.take m).toArray
def qa(ops:Array Oper)(j:Nat):List Nat:=match ops.toList[j]? with
 |none=>[]
 |some o=>o.after.toList.filterMap λe=>if Region.binds .any e then some e.on else none
def vw(ops:Array Oper):Nat -> List Nat -> List Nat
 |0,c=>c
 |n+1,c=>vw ops n (c++c.flatMap (qa ops))
def GK{ops:Array Oper}{L:Nat -> Prop}(h:∀i o,ops[i]?=some o -> L i -> ∀e∈o.after,Region.binds .any e=true -> L e.on):∀(n:Nat)(c:List Nat),(∀x,x∈c -> L x) -> ∀x,x∈vw ops n c -> L x
 |0,_,hc=>hc
 |n+1,c,hc=>GK h n _ λx hx=>by
  rcases mem_append.1 hx with hx|hx
  ·exact hc x hx
  obtain ⟨y,hy,hxy⟩:=ky.1 hx;unfold qa at hxy;rw [nT] at hxy;cases ho:ops[y]? with
  |none=>rw [ho] at hxy;cases hxy
  |some o=>
   rw [ho] at hxy;obtain ⟨e,he,h2⟩:=Ax.1 hxy;split at h2
   ·rename_i hb;cases h2;exact h y o ho (hc y hy) e vH hb
   cases h2
def EU(ops:Array Oper)(m:Nat):Bool:=(List.range ops.size).all λi=>match ops.toList[i]? with
 |none=>true
 |some o=>if i<m then o.guard.isNone && o.after.toList.all (λe=>!Region.binds .any e||decide (e.on<i)) else (List.range m).all λj=>(vw ops 2 (qa ops i)).contains j
def M4{P:Program}{md:Region.Mode}{ops:Array Oper}{Q:Exit -> Act -> ab -> Prop}:∀(f:Nat)(l:Array Bool)(a:Act)(w:ab),wpAny P md ops Q f l a w -> wpAny P md ops Q (f+1) l a w
 |0,_,_,_,h=>⟨λ_=>h.2,λi hi=>by rw [h.1] at hi;cases hi⟩
 |f+1,_,_,_,h=>⟨h.1,λi hi=>wpOp_mono (λa' w' h'=>M4 f _ a' w' h') (h.2 i hi)⟩
def J8{P:Program}{md:Region.Mode}{ops:Array Oper}{Q:Exit -> Act -> ab -> Prop}(f:Nat)(l:Array Bool)(a:Act)(w:ab)(h:wpAny P md ops Q f l a w):∀n,wpAny P md ops Q (n+f) l a w
 |0=>by rw [cp];exact h
 |n+1=>by rw [show n+1+f=(n+f)+1 by omega];exact M4 _ _ _ _ (J8 f l a w h n)
def uS{ops:Array Oper}{m i:Nat}:(jP ops m)[i]?=if i<m then ops[i]? else none:=by
 unfold jP;rw [Gs,oy,nT]
def XC{P:Program}{ops:Array Oper}{Q Q1:Exit -> Act -> ab -> Prop}{m f2:Nat}{D:Array Bool}(hc:EU ops m=true)(hm:m <= ops.size)(hDt:∀j,j<m -> D[j]?=some true)
  (hn:∀a w,Q1 .normal a w -> wpAny P .any ops Q f2 D a w) (hq:∀e a w,e≠.normal -> Q1 e a w -> Q e a w):∀(f:Nat)(l1 l:Array Bool)(a:Act)(w:ab),l1.size=m -> l.size=D.size -> m <= D.size -> (∀j,j<m -> l[j]?=l1[j]?) -> (∀j,m <= j -> l[j]?=D[j]?) -> (∀i o,ops[i]?=some o -> l.getD i false=true -> ∀e∈o.after,Region.binds .any e=true -> l.getD e.on false=true) ->
   wpAny P .any (jP ops m) Q1 f l1 a w -> wpAny P .any ops Q (f+f2) l a w:=by
 have hcs:∀i o,ops[i]?=some o -> if i<m then o.guard=none /\ (∀e∈o.after,Region.binds .any e=true -> e.on<i) else ∀j,j<m -> j∈vw ops 2 (qa ops i):=by
  intro i o ho;have hi:i<ops.size:=(vn.1 ho).1;have h9:=e0.1 hc i (oS.2 hi);rw [nT,ho] at h9;dsimp only at h9;by_cases him:i<m
  ·rw [if_pos him] at h9⊢;simp only [di,e0,nN,yo,decide_eq_true_eq,Option.isNone_iff_eq_none] at h9;exact ⟨h9.1,λe he hb=>(h9.2 e vH).resolve_left (by rw [hb];decide)⟩
  rw [if_neg him] at h9⊢;intro j hj;have h8:=e0.1 h9 j (oS.2 hj);simpa using h8
 have over:∀(l1 l:Array Bool),l1.size=m -> m <= ops.size -> (∀j,j<m -> l[j]?=l1[j]?) -> Region.ready .any (jP ops m) l1=[] -> ∀j,j<m -> l1[j]?=some true:=by
  intro l1 l hs hm hl hr j;induction j using Nat.strongRecOn with
  |_ j ih=>
   intro hj;by_cases h:l1.getD j true=false
   ·exfalso;have hop:(jP ops m)[j]?=some (ops[j]'(by omega)):=KZ;have hin:j∈Region.ready .any (jP ops m) l1:=by
     refine mem_ready.2 ⟨h,_,hop,λe he hb=>?_⟩;have h2:=hcs j _ (oH (Y:j<ops.size));rw [if_pos hj] at h2;have h3:=h2.2 e he hb;have h4:=ih e.on h3 Y;simp [jQ,h4]
    rw [hr] at hin;cases hin
   have hj2:j<l1.size:=Y;rw [oH hj2];simp only [jQ,oH hj2,we] at h;simpa using h
 have same:∀(l1 l:Array Bool),l1.size=m -> l.size=D.size -> (∀j,j<m -> l[j]?=l1[j]?) -> (∀j,m <= j -> l[j]?=D[j]?) -> Region.ready .any (jP ops m) l1=[] -> l=D:=by
  intro l1 l hs1 hs2 he1 he2 hr;refine Dk λj=>?_;by_cases hj:j<m
  ·rw [he1 j hj,over l1 l hs1 hm he1 hr j hj,hDt j hj]
  exact he2 j Y
 have getD_eq:∀(l1 l:Array Bool)(j:Nat)(d:Bool),l[j]?=l1[j]? -> l.getD j d=l1.getD j d:=λl1 l j d h=>by
  rw [jQ,jQ,h]
 intro f;induction f with
 |zero=>
  intro l1 l a w hs1 hs2 hmD he1 he2 hcl H;rw [cp,same l1 l hs1 hs2 he1 he2 H.1];exact hn a w H.2
 |succ f ih=>
  intro l1 l a w hs1 hs2 hmD he1 he2 hcl H;by_cases hr:Region.ready .any (jP ops m) l1=[]
  ·rw [same l1 l hs1 hs2 he1 he2 hr];exact J8 f2 _ _ _ (hn a w (H.1 hr)) (f+1)
  obtain ⟨k,hk⟩:=List.exists_mem_of_ne_nil _ hr;obtain ⟨hku,ok,hok,aHy⟩:=mem_ready.1 hk;have hkm:k<m:=by
   by_cases h:k<m
   ·exact h
   rw [uS,if_neg h] at hok;cases hok
  rw [uS,if_pos hkm] at hok;have hk1:l1[k]?=some false:=by
   have hks:k<l1.size:=Y;rw [jQ,oH hks] at hku;rw [oH hks];simpa using hku
  rw [show f+1+f2=(f+f2)+1 by omega];refine ⟨λh0=>?_,λi hi=>?_⟩
  ·exfalso;have hin:k∈Region.ready .any ops l:=by
    refine mem_ready.2 ⟨MM,ok,hok,λe he hb=>?_⟩;have h2:=hcs k ok hok;rw [if_pos hkm] at h2;have h3:=h2.2 e he hb;rw [getD_eq l1 l e.on false (he1 _ Y)];exact aHy e he hb
   rw [h0] at hin;cases hin
  obtain ⟨hiu,o,ho,hall⟩:=mem_ready.1 hi;have h2:=hcs i o ho;by_cases him:i<m
  ·rw [if_pos him] at h2;have ho1:(jP ops m)[i]?=some o:=by rw [uS,if_pos him];exact ho
   have hi1:i∈Region.ready .any (jP ops m) l1:=by
    refine mem_ready.2 ⟨P9,o,ho1,λe he hb=>?_⟩;have h3:=h2.2 e he hb;rw [←getD_eq l1 l e.on false (he1 _ Y)];exact hall e he hb
   have h4:=H.2 i hi1;have hw:∀y,Region.wanted o y=true:=λy=>by unfold Region.wanted;rw [h2.1]
   unfold wpOp at h4⊢;rw [ho1] at h4;rw [ho];dsimp only at h4⊢;rw [if_pos (hw _)] at h4⊢;have hL:LetsOut Q1 -> LetsOut Q:=λ⟨a,w,h⟩=>⟨a,w,hq _ a w aL h⟩;rcases h4 with h4|⟨h5,h6⟩
   ·refine .inl (Oper.Fm (λa' w' h'=>ih (l1.setIfInBounds i true) (l.setIfInBounds i true) a' w' (by simpa using hs1) (by simpa using hs2) hmD (λj hj=>?_) (λj hj=>?_) (λq oq hoq hlq e he hb=>?_) h') hq hL h4)
    ·rw [pS,pS];by_cases hij:i=j
     ·rw [if_pos hij,if_pos hij,if_pos Y,if_pos Y]
     rw [if_neg hij,if_neg hij];exact he1 j hj
    ·rw [pS,if_neg Y];exact he2 j hj
    have hup:∀z,l.getD z false=true -> (l.setIfInBounds i true).getD z false=true:=λz hz=>by
     rw [jQ] at hz⊢;rw [pS];split
     ·split
      ·rfl
      rw [qC Y] at hz;cases hz
     exact hz
    by_cases hqi:i=q
    ·subst hqi;obtain rfl:=mT (ho.symm.trans hoq);exact hup _ (hall e he hb)
    refine hup _ (hcl q oq hoq ?_ e he hb);rw [jQ,pS,if_neg hqi] at hlq;rw [jQ];exact hlq
   exact .inr ⟨h5,hL h6⟩
  exfalso;rw [if_neg him] at h2;have h3:l.getD k false=true:=GK (L:=λz=>l.getD z false=true) hcl 2 _ (λx hx=>by
   unfold qa at hx;rw [nT,ho] at hx;obtain ⟨e,he,h2⟩:=Ax.1 hx;split at h2
   ·rename_i hb;cases h2;exact hall e vH hb
   cases h2) k (h2 k hkm)
  rw [getD_eq l1 l k false (he1 k hkm),jQ,hk1] at h3;cases h3
def WW{P:Program}{id:Nat}{ops:Array Oper}{st:AS}{Q:Exit -> AS -> Prop}(m:Nat)(Z1 Z2:List Nat)(D:Array Bool)(hm:P.follows .mixedOrders=true)(hc:(EU ops m,decide (m <= ops.size),decide (D.size=ops.size),(List.range m).all (λj=>D[j]? == some true),(List.range ops.size).all (λj=>decide (j<m)||D[j]? == some false))=(true,true,true,true,true))
  (h:dr P (jP ops m) Z1 m (Array.replicate m false) st (λst'=>dr P ops Z2 (ops.size-m) D st' (Q .normal))):br P (.region id ops true) st Q:=by
 simp only [jC,decide_eq_true_eq,e0,oS,beq_iff_eq,nN] at hc;obtain ⟨hc1,hc2,hc3,hc4,hc5⟩:=hc;intro a w hs QQ hQ;refine Code.wp_mono (Q:=λe a' w'=>match e with|.normal=>QQ .normal a' w'|_=>False) La ?_;refine wp_region_any hm ?_;show wpAny P .any ops _ ops.size (Array.replicate ops.size false) a w.drew;rw [show ops.size=m+(ops.size-m) by omega];refine XC (Q1:=λe a' w'=>match e with|.normal=>∃st',dr P ops Z2 (ops.size-m) D st' (Q .normal) /\ ep st' a' w' /\ iP st w.drew st' w'|_=>False) (D:=D) hc1 hc2 hc4 ?_ ?_ m (Array.replicate m false) _ a w.drew aL dh Y (λj hj=>?_) (λj hj=>?_) (λi o _ h=>?_) ?_
 ·rintro a' w' ⟨st',h1,h2,h3⟩;exact wpAny_of_held _ _ _ _ (h1 a' w' h2 _ (λ_ _ _ q=>q) λa2 w2 st2 q2 s2 k2=>hQ _ a2 w2 st2 q2 s2 (by
   have k:=h3.trans k2;exact ⟨⟨k.keep.os,k.keep.tape,k.keep.output,k.keep.size,k.keep.block⟩,⟨k.ls.os,k.ls.tape,k.ls.output,k.ls.size,k.ls.block⟩,k.bl,k.T⟩))
 ·intro e a' w' he q;cases e with
  |normal=>exact absurd rfl he
  |_=>exact q.elim
 ·rw [Ds,Ds,if_pos Y,if_pos hj]
 ·rw [Ds];by_cases hjn:j<ops.size
  ·rw [if_pos Y,(hc5 j hjn).resolve_left Y]
  rw [if_neg Y,qC Y]
 ·exfalso;rw [jQ,Ds] at h;split at h<;>cases h
 exact wpAny_of_held _ _ _ _ (h a w.drew hs.drew _ (λ_ _ _ q=>q) λa' w' st' q s' k=>⟨st',q,s',k⟩)
def lR{P:Program}{id:Nat}{l l1 l2:List Oper}{st:AS}{Q:Exit -> AS -> Prop}(m:Nat)(Z1 Z2:List Nat)(D:Array Bool)[hs:pk m l l1 l2](hm:P.follows .mixedOrders=true)(hc:(EU l.toArray m,decide (m <= l.toArray.size),decide (D.size=l.toArray.size),(List.range m).all (λj=>D[j]? == some true),(List.range l.toArray.size).all (λj=>decide (j<m)||D[j]? == some false))=(true,true,true,true,true))(h1:l1.length=m)
  (h:dr P l1.toArray Z1 m (Array.replicate m false) st (λst'=>dr P l.toArray Z2 (l.toArray.size-m) D st' (Q .normal))):br P (.region id l.toArray true) st Q:=by
 refine WW m Z1 Z2 D hm hc ?_;rw [show jP l.toArray m=l1.toArray by unfold jP;rw [hs.h];simp only;rw [rY h1]];exact h
def nq{s:aH}{l:List UInt8}(h:s=bytes l):(s.toList == l)=true:=by subst h;rw [ByteArray.toList_eq];simp [bytes]
def nt{s:aH}{l:List UInt8}(h:s≠bytes l):(s.toList == l)=false:=by
 rw [beq_eq_false_iff_ne,ByteArray.toList_eq];intro e;apply h;apply DI;rw [e];simp [bytes]
def Uj(s:aH)(w:ab):Calls prog 211 #[.string s] w λe w'=>e=.returned (.tuple #[.int .i64 (binOp s).1,.int .i64 (binOp s).2]) /\ w=w':=by
 go_enter func211,Tryz.ntmps211
 by_cases h0:s=bytes [124,124]
 ·have g0:(s.toList == [124,124])=true:=nq h0;have hb:binOp s=(17,1):=by rw [binOp,if_pos h0]
  rw [hb];clear hb h0
  go_wp2_with fail
  refine bodyPost_ret (v:=.tuple #[.int .i64 17,.int .i64 1]) na J ?_;exact ⟨J,J⟩
 have g0:(s.toList == [124,124])=false:=nt h0;by_cases h1:s=bytes [38,38]
 ·have g1:(s.toList == [38,38])=true:=nq h1;have hb:binOp s=(16,2):=by rw [binOp,if_neg h0,if_pos h1]
  rw [hb];clear hb h0 h1
  go_wp2_with fail
  refine bodyPost_ret (v:=.tuple #[.int .i64 16,.int .i64 2]) na J ?_;exact ⟨J,J⟩
 have g1:(s.toList == [38,38])=false:=nt h1;by_cases h2:s=bytes [61,61]
 ·have g2:(s.toList == [61,61])=true:=nq h2;have hb:binOp s=(14,3):=by rw [binOp,if_neg h0,if_neg h1,if_pos h2]
  rw [hb];clear hb h0 h1 h2
  go_wp2_with fail
  refine bodyPost_ret (v:=.tuple #[.int .i64 14,.int .i64 3]) na J ?_;exact ⟨J,J⟩
 have g2:(s.toList == [61,61])=false:=nt h2;by_cases h3:s=bytes [33,61]
 ·have g3:(s.toList == [33,61])=true:=nq h3;have hb:binOp s=(15,3):=by rw [binOp,if_neg h0,if_neg h1,if_neg h2,if_pos h3]
  rw [hb];clear hb h0 h1 h2 h3
  go_wp2_with fail
  refine bodyPost_ret (v:=.tuple #[.int .i64 15,.int .i64 3]) na J ?_;exact ⟨J,J⟩
 have g3:(s.toList == [33,61])=false:=nt h3;by_cases h4:s=bytes [60]
 ·have g4:(s.toList == [60])=true:=nq h4;have hb:binOp s=(10,3):=by rw [binOp,if_neg h0,if_neg h1,if_neg h2,if_neg h3,if_pos h4]
  rw [hb];clear hb h0 h1 h2 h3 h4
  go_wp2_with fail
  refine bodyPost_ret (v:=.tuple #[.int .i64 10,.int .i64 3]) na J ?_;exact ⟨J,J⟩
 have g4:(s.toList == [60])=false:=nt h4;by_cases h5:s=bytes [60,61]
 ·have g5:(s.toList == [60,61])=true:=nq h5;have hb:binOp s=(11,3):=by rw [binOp,if_neg h0,if_neg h1,if_neg h2,if_neg h3,if_neg h4,if_pos h5]
  rw [hb];clear hb h0 h1 h2 h3 h4 h5
  go_wp2_with fail
  refine bodyPost_ret (v:=.tuple #[.int .i64 11,.int .i64 3]) na J ?_;exact ⟨J,J⟩
 have g5:(s.toList == [60,61])=false:=nt h5;by_cases h6:s=bytes [62]
 ·have g6:(s.toList == [62])=true:=nq h6;have hb:binOp s=(12,3):=by rw [binOp,if_neg h0,if_neg h1,if_neg h2,if_neg h3,if_neg h4,if_neg h5,if_pos h6]
  rw [hb];clear hb h0 h1 h2 h3 h4 h5 h6
  go_wp2_with fail
  refine bodyPost_ret (v:=.tuple #[.int .i64 12,.int .i64 3]) na J ?_;exact ⟨J,J⟩
 have g6:(s.toList == [62])=false:=nt h6;by_cases h7:s=bytes [62,61]
 ·have g7:(s.toList == [62,61])=true:=nq h7;have hb:binOp s=(13,3):=by rw [binOp,if_neg h0,if_neg h1,if_neg h2,if_neg h3,if_neg h4,if_neg h5,if_neg h6,if_pos h7]
  rw [hb];clear hb h0 h1 h2 h3 h4 h5 h6 h7
  go_wp2_with fail
  refine bodyPost_ret (v:=.tuple #[.int .i64 13,.int .i64 3]) na J ?_;exact ⟨J,J⟩
 have g7:(s.toList == [62,61])=false:=nt h7;by_cases h8:s=bytes [43]
 ·have g8:(s.toList == [43])=true:=nq h8;have hb:binOp s=(8,4):=by rw [binOp,if_neg h0,if_neg h1,if_neg h2,if_neg h3,if_neg h4,if_neg h5,if_neg h6,if_neg h7,if_pos h8]
  rw [hb];clear hb h0 h1 h2 h3 h4 h5 h6 h7 h8
  go_wp2_with fail
  refine bodyPost_ret (v:=.tuple #[.int .i64 8,.int .i64 4]) na J ?_;exact ⟨J,J⟩
 have g8:(s.toList == [43])=false:=nt h8;by_cases h9:s=bytes [45]
 ·have g9:(s.toList == [45])=true:=nq h9;have hb:binOp s=(9,4):=by rw [binOp,if_neg h0,if_neg h1,if_neg h2,if_neg h3,if_neg h4,if_neg h5,if_neg h6,if_neg h7,if_neg h8,if_pos h9]
  rw [hb];clear hb h0 h1 h2 h3 h4 h5 h6 h7 h8 h9
  go_wp2_with fail
  refine bodyPost_ret (v:=.tuple #[.int .i64 9,.int .i64 4]) na J ?_;exact ⟨J,J⟩
 have g9:(s.toList == [45])=false:=nt h9;by_cases h10:s=bytes [42]
 ·have g10:(s.toList == [42])=true:=nq h10;have hb:binOp s=(5,5):=by rw [binOp,if_neg h0,if_neg h1,if_neg h2,if_neg h3,if_neg h4,if_neg h5,if_neg h6,if_neg h7,if_neg h8,if_neg h9,if_pos h10]
  rw [hb];clear hb h0 h1 h2 h3 h4 h5 h6 h7 h8 h9 h10
  go_wp2_with fail
  refine bodyPost_ret (v:=.tuple #[.int .i64 5,.int .i64 5]) na J ?_;exact ⟨J,J⟩
 have g10:(s.toList == [42])=false:=nt h10;by_cases h11:s=bytes [47]
 ·have g11:(s.toList == [47])=true:=nq h11;have hb:binOp s=(6,5):=by rw [binOp,if_neg h0,if_neg h1,if_neg h2,if_neg h3,if_neg h4,if_neg h5,if_neg h6,if_neg h7,if_neg h8,if_neg h9,if_neg h10,if_pos h11]
  rw [hb];clear hb h0 h1 h2 h3 h4 h5 h6 h7 h8 h9 h10 h11
  go_wp2_with fail
  refine bodyPost_ret (v:=.tuple #[.int .i64 6,.int .i64 5]) na J ?_;exact ⟨J,J⟩
 have g11:(s.toList == [47])=false:=nt h11;by_cases h12:s=bytes [37]
 ·have g12:(s.toList == [37])=true:=nq h12;have hb:binOp s=(7,5):=by rw [binOp,if_neg h0,if_neg h1,if_neg h2,if_neg h3,if_neg h4,if_neg h5,if_neg h6,if_neg h7,if_neg h8,if_neg h9,if_neg h10,if_neg h11,if_pos h12]
  rw [hb];clear hb h0 h1 h2 h3 h4 h5 h6 h7 h8 h9 h10 h11 h12
  go_wp2_with fail
  refine bodyPost_ret (v:=.tuple #[.int .i64 7,.int .i64 5]) na J ?_;exact ⟨J,J⟩
 have g12:(s.toList == [37])=false:=nt h12;have hb:binOp s=(0,0):=by rw [binOp,if_neg h0,if_neg h1,if_neg h2,if_neg h3,if_neg h4,if_neg h5,if_neg h6,if_neg h7,if_neg h8,if_neg h9,if_neg h10,if_neg h11,if_neg h12]
 rw [hb];clear hb h0 h1 h2 h3 h4 h5 h6 h7 h8 h9 h10 h11 h12
 go_wp2_with fail
 refine bodyPost_ret (v:=.tuple #[.int .i64 0,.int .i64 0]) na J ?_;exact ⟨J,J⟩
def lq:List ByteArray:=[⟨#[]⟩,⟨#[]⟩,⟨#[]⟩,⟨#[45]⟩,⟨#[33]⟩,⟨#[42]⟩,⟨#[47]⟩,⟨#[37]⟩,⟨#[43]⟩,⟨#[45]⟩,⟨#[60]⟩,⟨#[60,61]⟩,⟨#[62]⟩,⟨#[62,61]⟩,⟨#[61,61]⟩,⟨#[33,61]⟩,⟨#[38,38]⟩,⟨#[124,124]⟩]
structure tM (w:World):Prop where
 signs:∀j (h:j<lq.length),w.cell? ⟨3,j,none⟩=some (.string lq[j])
def tM.keep{L:List Nat}{w w':ab}(h:tM w)(hk:cQ L w w')(hn:3∉L):tM w':=
 ⟨λj hj=>by rw [hk.cell (mq (h.signs j hj)) hn];exact h.signs j hj⟩
def tM.below{w w':ab}(h:tM w)(hb:Below w.heap.size w w'):tM w':=h.keep (L:=[]) (cQ.of_below hb) aL
def fo(op:Int):Nat:=if op=17 then 1 else if op=16 then 2 else if 10 <= op /\ op <= 15 then 3 else if op=8∨op=9 then 4 else if 5 <= op /\ op <= 7 then 5 else if op=3∨op=4 then 6 else if op=1∨op=2 then 7 else 0
def Rm:∀j (h:j<lq.length),j≠1 -> j≠2 -> j≠3 -> j≠4 -> (binOp lq[j]).2=fo j:=V
def Nx(op:Int)(h:op<0∨18 <= op):fo op=0:=by
 unfold fo
 repeat rw [if_neg Y]
def C5(op:Int)(h:1 <= op /\ op <= 17):fo op=dN op+1:=by
 unfold fo dN;split
 ·rfl
 split
 ·rfl
 split
 ·rfl
 split
 ·rfl
 split
 ·rfl
 split
 ·rfl
 rw [if_pos Y]
def TM(op:Int)(w:ab)(he:tM w):Calls prog 198 #[.int .i64 op] w λe w'=>e=.returned (.int .i64 (fo op)) /\ w=w':=by
 have HE:=Lib.hid he;clear he;by_cases h1:op=1
 ·subst h1
  go_enter tk,Tryz.ntmps198
  go_wp2_with fail
  go_ret
  exact ⟨J,J⟩
 by_cases h2:op=2
 ·subst h2
  go_enter tk,Tryz.ntmps198
  go_wp2_with fail
  go_ret
  exact ⟨J,J⟩
 by_cases h3:op=3
 ·subst h3
  go_enter tk,Tryz.ntmps198
  go_wp2_with fail
  go_ret
  exact ⟨J,J⟩
 by_cases h4:op=4
 ·subst h4
  go_enter tk,Tryz.ntmps198
  go_wp2_with fail
  go_ret
  exact ⟨J,J⟩
 have b1:(op == 1)=false:=sn;have b2:(op == 2)=false:=pf;have b3:(op == 3)=false:=wg;have b4:(op == 4)=false:=by simpa using h4
 by_cases hneg:op<0
 ·have hd:decide (op<0)=true:=by simpa using hneg
  have hs:=Nx op (.inl hneg);rw [hs];clear hs h1 h2 h3 h4
  go_enter tk,Tryz.ntmps198
  go_wp2_with fail
  go_ret
  exact ⟨J,J⟩
 have hd:decide (op<0)=false:=by simpa using hneg
 by_cases hbig:18 <= op
 ·have hd2:decide (18 <= op)=true:=by simpa using hbig
  have hs:=Nx op (.inr hbig);rw [hs];clear hs h1 h2 h3 h4
  go_enter tk,Tryz.ntmps198
  go_wp2_with fail
  go_ret
  exact ⟨J,J⟩
 obtain ⟨j,rfl⟩:∃j:Nat,op=j:=⟨op.toNat,Y⟩;have hj:j<lq.length:=by simp [lq];omega
 have hs:=Rm j hj Y Y Y Y;have hc:=HE.out.signs j hj;have hd2:decide ((18:Int) <= j)=false:=by simpa using hbig
 have hlt:(j:Int)<18:=Y;obtain ⟨s,hs2⟩:∃s,s=lq[j]:=⟨_,rfl⟩;rw [←hs2] at hs hc;rw [←hs];clear hs h1 h2 h3 h4 hs2
 go_enter tk,Tryz.ntmps198
 go_wp2_with fail
 refine (Uj s w).mono ?_;rintro e w' ⟨rfl,rfl⟩
 go_wp2_with fail
 go_ret
 exact ⟨J,J⟩
structure oZ (w:World):Prop where
 words:∀j (h:j<words.length),w.cell? ⟨0,j,none⟩=some (.string words[j])
 maxLen:∃m:Int,w.cell? ⟨2,0,none⟩=some (.int .i64 m)
 signs:tM w
 tab : Lib.TabIs prog w "internal/strconv.uint64pow10" .u64 Lib.pow10Tab
def oZ.up{w w':ab}(h:oZ w)(hu:f7 w w'):oZ w':=by
 refine ⟨λj hj=>hu.1 _ _ (h.words j hj),h.maxLen.imp λm hm=>hu.1 _ _ hm,⟨λj hj=>hu.1 _ _ (h.signs.signs j hj)⟩,?_⟩;have h1:=h.tab;unfold Lib.TabIs World.var? at h1⊢;cases hg : prog.globalNamed "internal/strconv.uint64pow10" with
 |none=>rw [hg] at h1;exact absurd h1 aL
 |some g=>
  rw [hg,Option.bind_some] at h1;rw [Option.bind_some];cases hb:w.heap[g]? with
  |none=>rw [hb] at h1;exact absurd h1 aL
  |some o=>
   rw [hb] at h1;cases o with
   |cells cs t fz=>
    simp only [yV] at h1;subst h1;rw [hu.2 g _ t fz hb (by rw [wH,gI];decide)]
   |_=>exact absurd h1 aL
abbrev cM(t:AT):AT:=.ride t oZ
def ww{w:ab}{t u:AT}{p:ab -> Prop}{v0 v:aN}(h0:cU w (.ride t p) v0)(h:cU w u v):cU w (.ride u p) v:=by
 cases h0 with|ride _ _ _ _ hp=>exact .ride _ _ _ h hp
def Ga{bl:List Nat}{w:ab}{t:AT}{p:ab -> Prop}{v:aN}(h:cU (bj bl w) (.ride t p) v):p w:=by
 cases h with|ride _ _ _ _ hp=>exact hp w (Xg bl w)
def K9{w:ab}{t:AT}{p:ab -> Prop}{v:aN}(h:cU w (.ride t p) v):p w:=by
 cases h with|ride _ _ _ _ hp=>exact hp w ⟨λ_ _ h=>h,λ_ _ _ _ h _=>h⟩
def Nm{w:ab}{t:AT}{v:aN}(h:cU w t v)(he:oZ w):cU w (cM t) v:=.ride _ _ _ h λ_ hu=>he.up hu
def Pv{t:AT}{p:ab -> Prop}:bL (.ride t p) t:=λw v h=>by cases h with|ride _ _ _ h _=>exact h
def YN{w:ab}{t u:AT}{v0 v:aN}(h0:cU w (cM t) v0)(h:cU w u v):∃m,cU w (IJ u m) v:=by
 have he:=K9 h0;obtain ⟨m,hm⟩:=he.maxLen;refine ⟨m,.fact _ _ _ _ [.int .i64 m] _ (.fact _ _ _ _ (words.map .string) _ h ?_ ?_) ?_ ?_⟩
 ·have h9:=nc w (words.map .string) zp;rw [oh] at h9;exact h9
 ·intro j u hj;have hjl:j<words.length:=by have:=(m6.1 hj).1;simpa using this
  rw [cp,he.words j hjl];rw [nb,k_ hjl] at hj;exact hj
 ·exact nc _ [.int .i64 m] (λu hu=>by simp at hu;subst hu;rfl)
 intro j u hj
 match j,hj with
 |0,hj=>simp at hj;subst hj;exact hm
 |j+1,hj=>simp at hj
section
variable {P:Program}{U T:List Nat}{o:Oper}{n d:Nat}{ts:List (Nat×AT)}{s:aJ}{K:AS -> Prop}{p:World -> Prop}{t0 u:AT}{us:List AT}{ops:Array Oper}{l:List Oper}{Q:Exit -> AS -> Prop}
theorem oM{F:FuncId}{ks:Array bb}{ph:Array bA}(i0:Nat)(T':List Nat){QQ:AT -> aJ -> Prop}(ho:o.op=.call {callee:=.value (.func F),args:=ks,argTypes:=ph})(hd:o.dst=some d)(hn:d<n)
  (hcf:∀args w,(callFunc F args).run P w=.ok (.enter F args) w) (hl:look ts i0=some (.ride t0 p)) (has:ks.toList.map (aw ⟨n,T,s,ts⟩)=(u::us).map some) (hc:aU P F (.ride u p::us) T' s QQ) (hT:∀b,b∈T' -> b∈T) (rg:∀b,b∈T' -> b∈s.bl) (hU:s.bl.Nodup -> ∀b,b∈T' -> b∈U)
  (h:∀r s',QQ r s' -> K ⟨n,T,s',(d,r)::ts⟩):dZ P U o ⟨n,T,s,ts⟩ K:=by
 intro a w hs KK QQ' hK;obtain ⟨h1,h2⟩:=pV hs has;obtain ⟨v0,-,hv0⟩:=hs.tm i0 _ hl;refine BE (st:=⟨n,T,s,ts⟩) (ts:=.ride u p::us) hs hd hn h1 (λi hi hi'=>?_) ?_ hc hT rg hU h KK QQ' hK
 ·match i,hi with
  |0,hi=>exact ww hv0 (h2 0 aL hi')
  |i+1,hi=>exact h2 (i+1) pW hi'
 ·simp only [execOp,ho,resolve,Deferred.ofValue,Act.eval,dI,fj,ei,invoke];rw [hcf]
  congr 2
  rw [←oj];simp
theorem Hk{F:FuncId}{ks:Array bb}{ph:Array bA}(i0:Nat)(T':List Nat){QQ:AT -> aJ -> Prop}(ho:o.op=.call {callee:=.value (.func F),args:=ks,argTypes:=ph})(hd:o.dst=some d)(hn:d<n)
  (hcf:∀args w,(callFunc F args).run P w=.ok (.enter F args) w) (hl:look ts i0=some (cM t0)) (has:ks.toList.map (aw ⟨n,T,s,ts⟩)=(u::us).map some) (hc:∀m,aU P F (IJ u m::us) T' s QQ) (hT:∀b,b∈T' -> b∈T) (rg:∀b,b∈T' -> b∈s.bl) (hU:s.bl.Nodup -> ∀b,b∈T' -> b∈U)
  (h:∀r s',QQ r s' -> K ⟨n,T,s',(d,r)::ts⟩):dZ P U o ⟨n,T,s,ts⟩ K:=by
 intro a w hs KK QQ' hK;obtain ⟨h1,h2⟩:=pV hs has;obtain ⟨v0,-,hv0⟩:=hs.tm i0 _ hl;obtain ⟨m,hm⟩:=YN hv0 (h2 0 aL (by rw [h1];simp));refine BE (st:=⟨n,T,s,ts⟩) (ts:=IJ u m::us) hs hd hn h1 (λi hi hi'=>?_) ?_ (hc m) hT rg hU h KK QQ' hK
 ·match i,hi with
  |0,hi=>exact hm
  |i+1,hi=>exact h2 (i+1) pW hi'
 ·simp only [execOp,ho,resolve,Deferred.ofValue,Act.eval,dI,fj,ei,invoke];rw [hcf]
  congr 2
  rw [←oj];simp
theorem Ri{F:FuncId}{x:bb}{cap:Array aN}{ks:Array bb}{ph:Array bA}(i0:Nat)(T':List Nat){QQ:AT -> aJ -> Prop}(ho:o.op=.call {callee:=.value x,args:=ks,argTypes:=ph})(hx:aw ⟨n,T,s,ts⟩ x=some (av (.func (.func F) #[] cap)))(hd:o.dst=some d)(hn:d<n)
  (hcf:∀args w,(callFunc F args).run P w=.ok (.enter F args) w) (hl:look ts i0=some (.ride t0 p)) (has:ks.toList.map (aw ⟨n,T,s,ts⟩)=(u::us).map some) (hc:aU P F (.ride u p::(us++cap.toList.map gb)) T' s QQ) (hT:∀b,b∈T' -> b∈T) (rg:∀b,b∈T' -> b∈s.bl) (hU:s.bl.Nodup -> ∀b,b∈T' -> b∈U)
  (h:∀r s',QQ r s' -> K ⟨n,T,s',(d,r)::ts⟩):dZ P U o ⟨n,T,s,ts⟩ K:=by
 intro a w hs KK QQ' hK;obtain ⟨h1,h2⟩:=pV hs has;obtain ⟨v0,-,hv0⟩:=hs.tm i0 _ hl;obtain ⟨gD,gt⟩:=Ck (bj s.bl w) cap.toList;have h3:(ks.toList.map a.eval).length=(AT.ride u p::us).length /\ ∀i (h:i<(AT.ride u p::us).length) (h':i<(ks.toList.map a.eval).length),cU (bj s.bl w) (AT.ride u p::us)[i] (ks.toList.map a.eval)[i]:=by
  refine ⟨h1,λi hi hi'=>?_⟩
  match i,hi with
  |0,hi=>exact ww hv0 (h2 0 aL hi')
  |i+1,hi=>exact h2 (i+1) pW hi'
 obtain ⟨g3,g4⟩:=BR h3.1 h3.2 gD gt;refine BE (st:=⟨n,T,s,ts⟩) (ts:=.ride u p::(us++cap.toList.map gb)) hs hd hn g3 g4 ?_ hc hT rg hU h KK QQ' hK;simp only [execOp,ho,resolve,hs.val hx,Deferred.ofValue,dI,fj,ei,invoke];rw [hcf]
 congr 2
 rw [←oj];simp
theorem rl{X:List Nat}:∀b,b∈([]:List Nat) -> b∈X:=λ_ h=>iH
theorem j6{F:FuncId}{ks:Array bb}{ph:Array bA}{r:AT}(i0:Nat)(h0:(eJ ops o ⟨n,T,s,ts⟩,o.op,o.dst,Nat.blt d n,look ts i0)=(some true,.call {callee:=.value (.func F),args:=ks,argTypes:=ph},some d,true,some (.ride t0 p)))
  (hcf:∀args w,(callFunc F args).run P w=.ok (.enter F args) w) (has:ks.toList.map (aw ⟨n,T,s,ts⟩)=(u::us).map some) (hc:aU P F (.ride u p::us) [] s λt s'=>t=r /\ s'=s) (h:cO P ops l ⟨n,T,s,(d,r)::ts⟩ Q):cO P ops (o::l) ⟨n,T,s,ts⟩ Q:=by
 simp only [jC] at h0;exact aX h0.1 (oM i0 [] h0.2.1 h0.2.2.1 (fS h0.2.2.2.1) hcf h0.2.2.2.2 has hc rl rl (λ_=>rl) λr s' ⟨h1,h2⟩=>D_)
theorem d8{F:FuncId}{ks:Array bb}{ph:Array bA}{b c:Bool}(i0:Nat)(h0:(eJ ops o ⟨n,T,s,ts⟩,o.op,o.dst,Nat.blt d n,look ts i0)=(some true,.call {callee:=.value (.func F),args:=ks,argTypes:=ph},some d,true,some (.ride t0 p)))
  (hcf:∀args w,(callFunc F args).run P w=.ok (.enter F args) w) (has:ks.toList.map (aw ⟨n,T,s,ts⟩)=(u::us).map some) (hc:aU P F (.ride u p::us) [] s λt s'=>t=bC b /\ s'=s) (hb:b=c) (h:cO P ops l ⟨n,T,s,(d,bC c)::ts⟩ Q):cO P ops (o::l) ⟨n,T,s,ts⟩ Q:=by
 subst hb;exact j6 i0 h0 hcf has hc h
theorem AD{F:FuncId}{ks:Array bb}{ph:Array bA}{r:AT}(h0:(eJ ops o ⟨n,T,s,ts⟩,o.op,o.dst,Nat.blt d n)=(some true,.call {callee:=.value (.func F),args:=ks,argTypes:=ph},some d,true))
  (hcf:∀args w,(callFunc F args).run P w=.ok (.enter F args) w) (has:ks.toList.map (aw ⟨n,T,s,ts⟩)=us.map some) (hc:aU P F us [] s λt s'=>t=r /\ s'=s) (h:cO P ops l ⟨n,T,s,(d,r)::ts⟩ Q):cO P ops (o::l) ⟨n,T,s,ts⟩ Q:=by
 simp only [jC] at h0;exact aX h0.1 (bm [] h0.2.1 h0.2.2.1 (fS h0.2.2.2) hcf has hc rl rl (λ_=>rl) λr s' ⟨h1,h2⟩=>D_)
theorem tP{F:FuncId}{ks:Array bb}{ph:Array bA}{b c:Bool}(h0:(eJ ops o ⟨n,T,s,ts⟩,o.op,o.dst,Nat.blt d n)=(some true,.call {callee:=.value (.func F),args:=ks,argTypes:=ph},some d,true))
  (hcf:∀args w,(callFunc F args).run P w=.ok (.enter F args) w) (has:ks.toList.map (aw ⟨n,T,s,ts⟩)=us.map some) (hc:aU P F us [] s λt s'=>t=bC b /\ s'=s) (hb:b=c) (h:cO P ops l ⟨n,T,s,(d,bC c)::ts⟩ Q):cO P ops (o::l) ⟨n,T,s,ts⟩ Q:=by
 subst hb;exact AD h0 hcf has hc h
theorem WP{t e:bA}{y:bb}{k:IntKind}{i:Int}{N:Nat}(i0 j:Nat)(ho:o.op=.indexAddr t (.global 3) y)(hl:look ts i0=some (cM t0))(hy:aw ⟨n,T,s,ts⟩ y=some (av (.int k i)))(hi:i=j)(hj:j<lq.length)(hN:lq.length=N)
  (hu:∀w,(underlying t).run P w=.ok (.array N e) w) (hS:∀w,(sizeOf e).run P w=.ok 1 w):co P U o ⟨n,T,s,ts⟩ (.el [ah (lq[j])]):=by
 intro a w hs _;subst hi;subst hN;obtain ⟨v0,-,hv0⟩:=hs.tm i0 _ hl;have he:=(K9 hv0).signs.signs j hj;refine ⟨.pointer (some ⟨3,j,none⟩),.el _ _ _ [.string lq[j]] (nc _ [.string lq[j]] (λu hu=>by simp at hu;subst hu;rfl)) (λi u hu=>?_) (mq he),λw' _=>?_⟩
 ·match i,hu with
  |0,hu=>simp at hu;subst hu;exact he
  |i+1,hu=>simp at hu
 ·simp only [execOp,ho,hs.val hy,show a.eval (.global 3)=.pointer (some ⟨3,0,none⟩) from rfl,Instr.indexAt,asIntOf,dI,fj,ei,hu];simp [go_sem,hS,hj,tO]
end
end
section
def Bi(t:Tok):Prop:=(t.kind=3 -> fP t.text=true) /\ (t.kind=4 -> fP t.text=false) /\ t.num <= 9223372036854775807
def O2:∀(r:List UInt8)(n m:Nat),n <= 9223372036854775807 -> fQ n r=some m -> m <= 9223372036854775807
 |[],n,m,h,he=>by unfold fQ at he;cases he;exact h
 |c::r,n,m,h,he=>by
  unfold fQ at he;split at he
  ·cases he
  exact O2 r _ m (by have:=c.toNat_lt;omega) he
def WN:∀x,x∈words -> gC (x.data.toList.headD 0)=true:=V
def Wp{c:UInt8}{r:List UInt8}(h:gC c=false){n:Nat}(hn:n≠0):fP (bytes ((c::r).take n))=false:=by
 cases hr:fP (bytes ((c::r).take n)) with
 |false=>rfl
 |true=>
  have h1:=WN _ ((IK _).1 hr);obtain ⟨m,rfl⟩:∃m,n=m+1:=⟨n-1,Y⟩;simp [bytes] at h1;rw [h] at h1;cases h1
def Q6{c:UInt8}{r:List UInt8}{kind len num:Nat}(p:Nat)(h:eC (c::r)=.tok kind len num):Bi ⟨kind,bytes ((c::r).take len),num,p⟩ /\ kind≠5:=by
 cases hc:gC c with
 |true=>
  rw [vO hc] at h;split at h
  ·cases h
  ·injection h with h1 h2 h3
   subst h2;subst h3;subst h1;have ht:(c::r).take ((c::r).takeWhile dU).length=(c::r).takeWhile dU:=by
    have:=Ex (l:=c::r) dU;exact (IV.1 this).symm
   rw [ht];refine ⟨⟨λh3=>?_,λh4=>?_,by show 0 <= _;omega⟩,?_⟩
   ·change (if fP (bytes ((c::r).takeWhile dU))=true then 3 else 1)=3 at h3;split at h3
    ·assumption
    omega
   ·change (if fP (bytes ((c::r).takeWhile dU))=true then 3 else 1)=4 at h4;split at h4<;>omega
   ·split<;>omega
 |false=>
  cases hd:dR c with
  |true=>
   cases hn:fQ 0 ((c::r).takeWhile dR) with
   |none=>rw [yJ hc hd hn] at h;cases h
   |some n=>
    rw [xA hc hd hn] at h;injection h with h1 h2 h3
    subst h1;subst h2;subst h3;exact ⟨⟨λh=>absurd h (show ¬(2=3) by decide),λh=>absurd h (show ¬(2=4) by decide),O2 _ _ _ Y hn⟩,Y⟩
  |false=>
   rw [uh hc hd] at h;split at h
   ·cases h
   rename_i h0;injection h with h1 h2 h3
   subst h1;subst h2;subst h3;exact ⟨⟨λh=>absurd h (show ¬(4=3) by decide),λ_=>Wp hc h0,eT _⟩,Y⟩
structure UF (l:List Tok):Prop where
 ends:qM l
 reg:∀t,t∈l -> Bi t
 few:l.length <= 4001
def Ju:∀(m:Nat)(s:List UInt8)(k n:Nat),s.length-k <= m -> k <= s.length -> n <= 4000 -> ∀L,iD s k n=.ok L -> (∃h:0<L.length,(L[L.length-1]'(by omega)).kind=5) /\ (∀t,t∈L -> Bi t) /\ L.length+n <= 4001
 |m,s,k,n,hm,hk,hn,L,h=>by
  by_cases he:s.length <= cb s k
  ·rw [Df he] at h;cases h;refine ⟨⟨aL,J⟩,λt ht=>?_,dh⟩;simp at ht;subst ht;exact ⟨λh=>iH,λh=>iH,by show 0 <= _;omega⟩
  have hlt:cb s k<s.length:=Y;cases hx:eC (s.drop (cb s k)) with
  |err e=>rw [DX hlt hx] at h;cases h
  |tok kind len num=>
   by_cases h4:n=4000
   ·subst h4;rw [DD hlt hx] at h;cases h
   rw [Ce hk hlt hx h4] at h;have hg:=sY s k hk;have hd:s.drop (cb s k)≠[]:=Oc;have hl:=Cv hd hx;rw [kL] at hl;obtain ⟨c,r,hcr⟩:=C2 hd;rw [hcr] at hx h;have hreg:=Q6 (cb s k) hx;cases m with
   |zero=>omega
   |succ m=>
    cases ht:iD s (cb s k+len) (n+1) with
    |err p e=>rw [ht] at h;cases h
    |ok L'=>
     rw [ht] at h;cases h;obtain ⟨⟨h0,h5⟩,h2,h3⟩:=Ju m s (cb s k+len) (n+1) Y Y Y L' ht;refine ⟨⟨aL,?_⟩,λt ht=>?_,dh⟩
     ·simp only [length_cons];rw [List.getElem_cons];rw [dif_neg Y];simpa using h5
     rcases mem_cons.1 ht with rfl|ht
     ·exact hreg.1
     exact h2 t ht
def Fp{s:List UInt8}{L:List Tok}(h:ge s=.ok L):UF L:=by
 unfold ge at h;split at h
 ·cases h
 obtain ⟨h1,h2,h3⟩:=Ju s.length s 0 0 Y Y Y L h;exact ⟨h1,h2,Y⟩
end
section
def SA{c:UInt8}{r:List UInt8}{len num:Nat}(h:eC (c::r)=.tok 1 len num):cG (bytes ((c::r).take len))=true:=by
 cases hc:gC c with
 |true=>
  rw [vO hc] at h;split at h
  ·cases h
  ·rename_i h16;injection h with h1 h2 h3
   subst h2;have ht:(c::r).take ((c::r).takeWhile dU).length=(c::r).takeWhile dU:=
    (IV.1 (Ex (l:=c::r) dU)).symm
   rw [ht];have hn:dU c=true:=by simp [dU,hc]
   have hd:(bytes ((c::r).takeWhile dU)).data.toList=c::r.takeWhile dU:=by rw [su hn];simp [bytes]
   unfold cG;rw [hd];have hsz:(bytes ((c::r).takeWhile dU)).size=((c::r).takeWhile dU).length:=xi;have hres:fP (bytes ((c::r).takeWhile dU))=false:=by
    cases hr:fP (bytes ((c::r).takeWhile dU)) with
    |false=>rfl
    |true=>rw [if_pos hr] at h1;omega
   have hall:(r.takeWhile dU).all dU=true:=e0.2 λx hx=>by
    have:=FN (p:=dU) (l:=r);exact e0.1 this x hx
   simp only [hc,hall,hres,hsz,decide_eq_true (show ((c::r).takeWhile dU).length <= 16 by omega),Bool.and_self,Bool.not_false]
 |false=>
  cases hd:dR c with
  |true=>
   cases hn:fQ 0 ((c::r).takeWhile dR) with
   |none=>rw [yJ hc hd hn] at h;cases h
   |some n=>rw [xA hc hd hn] at h;injection h with h1;omega
  |false=>
   rw [uh hc hd] at h;split at h
   ·cases h
   injection h with h1;omega
def P3:∀(m:Nat)(s:List UInt8)(k n:Nat),s.length-k <= m -> k <= s.length -> ∀L,iD s k n=.ok L -> ∀t,t∈L -> t.kind=1 -> cG t.text=true
 |m,s,k,n,hm,hk,L,h,t,ht,h1=>by
  by_cases he:s.length <= cb s k
  ·rw [Df he] at h;cases h;simp at ht;subst ht;cases h1
  have hlt:cb s k<s.length:=Y;cases hx:eC (s.drop (cb s k)) with
  |err e=>rw [DX hlt hx] at h;cases h
  |tok kind len num=>
   by_cases h4:n=4000
   ·subst h4;rw [DD hlt hx] at h;cases h
   rw [Ce hk hlt hx h4] at h;have hg:=sY s k hk;have hd:s.drop (cb s k)≠[]:=Oc;have hl:=Cv hd hx;rw [kL] at hl;obtain ⟨c,r,hcr⟩:=C2 hd;rw [hcr] at hx h;cases m with
   |zero=>omega
   |succ m=>
    cases hq:iD s (cb s k+len) (n+1) with
    |err p e=>rw [hq] at h;cases h
    |ok L'=>
     rw [hq] at h;cases h;rcases mem_cons.1 ht with rfl|ht
     ·dsimp only at h1;subst h1;exact SA hx
     exact P3 m s (cb s k+len) (n+1) Y Y L' hq t ht h1
def Qs{s:List UInt8}{L:List Tok}(h:ge s=.ok L):∀t,t∈L -> t.kind=1 -> cG t.text=true:=by
 unfold ge at h;split at h
 ·cases h
 exact P3 s.length s 0 0 Y Y L h
def Ob{p:UInt8 -> Bool}:∀{l:List UInt8},(∀x,x∈l -> p x=true) -> l.takeWhile p=l
 |[],_=>rfl
 |x::l,h=>by rw [su (h x aL),Ob λy hy=>h y (by simp [hy])]
def N5{c:UInt8}(h:gC c=true):isSp c=false /\ c≠47:=by
 unfold gC at h;rw [decide_eq_true_eq] at h;refine ⟨by unfold isSp;rw [decide_eq_false_iff_not];omega,?_⟩;rintro rfl
 revert h;decide
def Ke{s:aH}(h:cG s=true):ge s.data.toList=.ok [⟨1,s,0,0⟩,⟨5,⟨#[]⟩,0,s.size⟩]:=by
 unfold cG at h;have hsz:s.size=s.data.toList.length:=J;have hb:bytes s.data.toList=s:=uU;rw [hsz] at h⊢;cases hd:s.data.toList with
 |nil=>rw [hd] at h;simp at h
 |cons c r=>
  rw [hd] at h hb;simp only [di,decide_eq_true_eq,yo] at h;obtain ⟨⟨⟨h1,h2⟩,h3⟩,h4⟩:=h;have hall:(c::r).takeWhile dU=c::r:=Ob (by
   intro x hx;rcases mem_cons.1 hx with rfl|hx
   ·simp [dU,h1]
   exact e0.1 h2 x hx)
  have hk:cb (c::r) 0=0:=GZ _ 0 aL (N5 h1).1 (λh=>(N5 h1).2 h.1);unfold ge;rw [if_neg Y,iD,hk,if_neg aL,tc,vO h1,hall,if_neg Y];dsimp only;rw [if_neg Y,dif_pos ⟨aL,aL⟩,iD,II _ _ aL,if_pos (bX _),hG,hb,h4]
  rfl
def zM{s:aH}{L:List Tok}(h:ge s.data.toList=.ok L):(L.length=2 /\ ∃h0:0<L.length,L[0].kind=1 /\ L[0].text=s)↔cG s=true:=by
 constructor
 ·rintro ⟨_,h0,h1,h2⟩;rw [←h2];exact Qs h _ (getElem_mem _) h1
 intro hn;rw [Ke hn] at h;cases h;exact ⟨J,aL,J,J⟩
def Pi{s:aH}{p e:Nat}(h:ge s.data.toList=.err p e):cG s=false:=by
 cases hn:cG s with
 |false=>rfl
 |true=>rw [Ke hn] at h;cases h
end
section
open Go.RowKit
def Lx{F:FuncId}{u0:aN}{us:List aN}{u:aN}(h1:u.oneCell'=true)(h:∀w,oZ w -> Calls prog F (u0::us).toArray w λe w'=>e=.returned u /\ w=w')(s:aJ):aU prog F (cM (av u0)::us.map λu=>av u) [] s λr s'=>r=av u /\ s'=s:=by
 intro vs w hm _ hl hr;cases vs with
 |nil=>cases hl
 |cons v vs=>
  have h0:cU (bj s.bl w) (cM (av u0)) v:=hr 0 aL aL;obtain rfl:=(Pv _ _ h0).val;obtain rfl:vs=us:=by
   refine oR tr λi h1 h2=>?_;have h3:=hr (i+1) pf sn;simp only [List.getElem_cons_succ,rE] at h3;exact h3.val
  exact (h w (Ga h0)).mono λe w' ⟨h2,h3⟩=>L6
def Ao(op:Int)(s:aJ):aU prog 198 [cM (an op)] [] s λr s'=>r=an (fo op:Int) /\ s'=s:=
 Lx (us:=[]) rfl (λw he=>TM op w he.signs) s
def FM{op:Int}(h:fo op=7):op=1∨op=2:=by
 unfold fo at h;(repeat' split at h)<;>omega
def Qz{op:Int}(h:fo op=6):op=3∨op=4:=by
 unfold fo at h;(repeat' split at h)<;>omega
def Cn(op:Int):fo op <= 7:=by unfold fo;(repeat' split)<;>omega
def VX{op:Int}(h:fo op=0):¬(1 <= op /\ op <= 17):=by
 unfold fo at h;(repeat' split at h)<;>omega
def Eg{op:Int}(h:¬fo op=0):1 <= op /\ op <= 17:=by
 unfold fo at h;(repeat' split at h)<;>omega
def kg(e:aS):Bool:=
 if fo e.op=0 then false else if fo e.op=7 then decide (e.args.length=0) && lh e.op e.num e.name
 else decide (e.args.length=if fo e.op=6 then 1 else 2) && decide (e.num=0) && decide (e.name=a_) && fO e.args
def lG(e:aS):dv e=kg e:=by
 rw [rL];unfold kg;by_cases h0:fo e.op=0
 ·have h1:=VX h0;have hs:dN e.op=6:=IE;have hl:lh e.op e.num e.name=false:=by
   unfold lh;rw [decide_eq_false (show ¬(e.op=1 /\ 0 <= e.num) by omega),decide_eq_false (show ¬(e.op=2 /\ e.num=0) by omega)];rfl
  rw [if_pos h0,if_pos hs,hl];rfl
 have hop:=Eg h0;have h2:=C5 e.op hop;rw [if_neg h0];by_cases h7:fo e.op=7
 ·rw [if_pos h7,if_pos Y];unfold arity;rw [if_pos Y];cases ha:e.args with
  |nil=>simp [fO]
  |cons x l=>simp
 rw [if_neg h7,if_neg (by have:=Cn e.op;omega)];unfold arity;rw [if_neg (by have:=Cn e.op;omega)];by_cases h6:fo e.op=6
 ·rw [if_pos h6,if_pos Y];cases decide (e.num=0)<;>cases decide (e.name=a_)<;>cases fO e.args<;>simp
 rw [if_neg h6,if_neg Y];cases decide (e.num=0)<;>cases decide (e.name=a_)<;>cases fO e.args<;>simp
def RO:∀{l:List aS} (h:l.length=1),fO l=dv (l[0]'(by omega))
 |[x],_=>by simp [fO]
def Oz:∀{l:List aS} (h:l.length=2),fO l=(dv (l[0]'(by omega)) && dv (l[1]'(by omega)))
 |[x,y],_=>by simp [fO]
def mW{e:aS}(h:dv e=true):(1 <= e.op /\ e.op <= 17) /\ ∀k (hk:k<e.args.length),dv e.args[k]=true:=by
 refine ⟨Eg λh0=>?_,λk hk=>?_⟩
 ·rw [lG] at h;unfold kg at h;rw [if_pos h0] at h;cases h
 cases hs:dv e.args[k] with
 |true=>rfl
 |false=>
  rw [rL,zr _ _ _ hs,rR] at h;cases h
def CS(e:aS)(k:Nat)(hk:k<e.args.length)(ho:1 <= e.op /\ e.op <= 17)(hok:1 <= e.args[k].op /\ e.args[k].op <= 17)(s:aJ):aU prog 200 [cM (.agg (bo e)),ae k] [] s λt s'=>t=bC (kA e.op k e.args[k].op) /\ s'=s:=by
 obtain ⟨bx,rw⟩:=s;refine bR 29 func200 ?_;refine go 7 λb1=>?_;refine cB [b1] (aa [0,1,2] 9 (go 4 ?_));refine ac 3 J (bf bc bo e.args g_ fv k J J J J Y V jY dw) (aa [4,5,7,8] 4 (go 5 ?_));refine aW 6 J J (oM 0 [] J J V call198 J J (Ao e.args[k].op _) dJ dJ (λ_=>dJ) ?_);rintro _ _ ⟨rfl,rfl⟩;refine aW 9 J J (oM 0 [] J J V call198 J J (Ao e.op _) dJ dJ (λ_=>dJ) ?_);rintro _ _ ⟨rfl,rfl⟩;refine aa [10,11] 0 (go 3 ?_);refine bH (go 3 ?_);have hs1:=C5 e.op ho;have hs2:=C5 e.args[k].op hok;refine go 2 ?_;by_cases h3:((fo e.args[k].op:Nat):Int)<(fo e.op:Int);focus
  refine aI J (c_ h3) (go 13 ?_)
 rotate_left;focus
  refine aG J (cv h3) (go 3 ?_);by_cases h4:((fo e.args[k].op:Nat):Int)=(fo e.op:Int);focus
   refine aI J (bU h4) (go 2 ?_);by_cases h5:(k:Int)=1;focus
    refine aI J (bU h5) (go 6 ?_)
   rotate_left;refine aG J (bO h5) (go 6 ?_)
  rotate_left 2;refine aG J (bO h4) (go 9 ?_)
 all_goals
  exact az (s':=⟨bx,rw⟩) J cT ⟨bZ M5,J⟩
def YS(x:aH)(hx:x.size <= 4611686018427387904)(s:aJ):aU prog 199 [cM (cK x)] [] s λt s'=>t=bC (cG x) /\ s'=s:=by
 obtain ⟨bx,rw⟩:=s;refine bR 35 func199 ?_;refine go 8 ?_;refine aX J (BB J J V J eE kj pi Mr (N:=x.data.toList.length) J (cs:=ca x.data.toList) J ?_);refine aX J (Hk 0 [] J J V call94 J J (λm=>FE x.data.toList m _) dJ dJ (λ_=>dJ) ?_);rintro _ _ ⟨(⟨tl1,IS,rfl,aQj⟩|⟨p1,aj,IS,rfl,he1⟩),rfl⟩
 ·refine go 12 ?_;refine aI J jz (go 3 ?_);by_cases h2:(tl1.length:Int)=2
  ·refine aI J (bU h2) (go 3 ?_);refine aD J (bf dY dY tl1 lN (λ_=>J) 0 J J J J Y V km kr) (go 2 ?_);by_cases h3:((tl1[0].kind:Nat):Int)=1
   ·refine aI J (bU h3) (go 3 ?_);refine aD J (bf dY dY tl1 lN (λ_=>J) 0 J J J J Y V km kr) (go 3 ?_);by_cases h4:tl1[0].text=x
    ·refine aD J (fc true J J J (pF h4)) (go 5 ?_);exact az (s':=⟨bx,rw⟩) J d4 ⟨bZ ((zM IS).1 ⟨Y,Y,Y,h4⟩),J⟩
    refine aD J (fc false J J J (od h4)) (go 5 ?_);exact az (s':=⟨bx,rw⟩) J d4 ⟨bZ (kX.2 λhh=>O9),J⟩
   refine aG J (bO h3) (go 13 ?_);exact az (s':=⟨bx,rw⟩) J d4 ⟨bZ (kX.2 λhh=>P_),J⟩
  refine aG J (bO h2) (go 20 ?_);exact az (s':=⟨bx,rw⟩) J d4 ⟨bZ (kX.2 λhh=>Kw),J⟩
 refine go 12 ?_;refine aG J (bO Y) (go 24 ?_);exact az (s':=⟨bx,rw⟩) J d4 ⟨bZ (Pi IS),J⟩
def Rh(e:aS)(hx:e.name.size <= 4611686018427387904)(ih:∀k (h:k<e.args.length) (s:aJ),aU prog 183 [cM (.agg (bo e.args[k]))] [] s λr s'=>r=bC (dv e.args[k]) /\ s'=s)(s:aJ):aU prog 183 [cM (.agg (bo e))] [] s λt s'=>t=bC (dv e) /\ s'=s:=by
 obtain ⟨bx,rw⟩:=s;refine bR 93 func183 ?_;refine go 11 λb1=>?_;refine j6 0 J call198 J (Ao e.op _) (go 5 ?_);by_cases h1:(fo e.op:Int)=0
 ·have h7:=FM (op:=e.op);have hle:=Cn e.op;refine aI J (bU h1) (go 12 ?_);exact az (s':=⟨bx,rw⟩) J cT ⟨bZ (by rw [lG];unfold kg;rw [if_pos Y]),J⟩
 have h7:=FM (op:=e.op);have hle:=Cn e.op;refine aG J (bO h1) (go 6 ?_);by_cases h4:(fo e.op:Int)=7
 ·refine aI J (bU h4) (go 10 ?_);by_cases h6:(0:Int)<(e.args.length:Int)
  ·refine aI J (e1 h6) (go 12 ?_);exact az (s':=⟨bx,rw⟩) J cT ⟨bZ (by rw [lG];unfold kg;rw [if_neg Y,if_pos Y];rw [decide_eq_false Y];rfl),J⟩
  refine aG J (fA h6) (go 9 ?_);by_cases h9:e.op=1
  ·refine aI J (bU h9) (go 3 ?_);by_cases h10:(0:Int) <= e.num
   ·refine aI J (nB h10) (go 4 ?_);by_cases h11:e.name=a_
    ·refine aD J (fc true J J J (pF h11)) (go 22 ?_);exact az (s':=⟨bx,rw⟩) J cT ⟨bZ (by rw [lG];unfold kg;rw [if_neg Y,if_pos Y];rw [decide_eq_true (show e.args.length=0 by omega)];unfold lh;rw [decide_eq_true (show e.op=1 /\ 0 <= e.num by omega),decide_eq_true h11,decide_eq_false (show ¬(e.op=2 /\ e.num=0) by omega)];rfl),J⟩
    refine aD J (fc false J J J (od h11)) (go 4 ?_);refine aG J (bO Y) (go 17 ?_);exact az (s':=⟨bx,rw⟩) J cT ⟨bZ (by rw [lG];unfold kg;rw [if_neg Y,if_pos Y];rw [decide_eq_true (show e.args.length=0 by omega)];unfold lh;rw [decide_eq_true (show e.op=1 /\ 0 <= e.num by omega),decide_eq_false h11,decide_eq_false (show ¬(e.op=2 /\ e.num=0) by omega)];rfl),J⟩
   refine aG J (oQ h10) (go 9 ?_);refine aG J (bO Y) (go 17 ?_);exact az (s':=⟨bx,rw⟩) J cT ⟨bZ (by rw [lG];unfold kg;rw [if_neg Y,if_pos Y];rw [decide_eq_true (show e.args.length=0 by omega)];unfold lh;rw [decide_eq_false (show ¬(e.op=1 /\ 0 <= e.num) by omega),decide_eq_false (show ¬(e.op=2 /\ e.num=0) by omega)];rfl),J⟩
  refine aG J (bO h9) (go 13 ?_);by_cases h12:e.op=2;focus
   refine aI J (bU h12) (go 3 ?_);by_cases Bk:e.num=0
   ·refine aI J (bU Bk) (go 4 ?_);rcases bw (cG e.name) with n6|n6;rotate_left;all_goals
     refine d8 0 J call199 J (YS e.name (by first|assumption|omega) _) n6 (go 8 ?_);exact az (s':=⟨bx,rw⟩) J cT ⟨bZ (by rw [lG];unfold kg;rw [if_neg Y,if_pos Y];rw [decide_eq_true (show e.args.length=0 by omega)];unfold lh;rw [decide_eq_false (show ¬(e.op=1 /\ 0 <= e.num) by omega)];rw [decide_eq_true (show e.op=2 /\ e.num=0 by omega),n6];rfl),J⟩
   refine aG J (bO Bk) (go 13 ?_)
  rotate_left;refine aG J (bO h12) (go 17 ?_);all_goals
   exact az (s':=⟨bx,rw⟩) J cT ⟨bZ (by rw [lG];unfold kg;rw [if_neg Y,if_pos Y];rw [decide_eq_true (show e.args.length=0 by omega)];unfold lh;rw [decide_eq_false (show ¬(e.op=1 /\ 0 <= e.num) by omega)];rw [decide_eq_false (show ¬(e.op=2 /\ e.num=0) by omega)];rfl),J⟩
 refine aG J (bO h4) (go 6 ?_);by_cases h16:(fo e.op:Int)=6
 ·refine aI J (bU h16) (go 9 ?_);by_cases h18:(e.args.length:Int)=1
  ·refine aI J (bU h18) (go 3 ?_);by_cases h19:e.num=0
   ·refine aI J (bU h19) (go 4 ?_);by_cases h20:e.name=a_
    ·refine aD J (fc true J J J (pF h20)) (go 4 ?_);refine aD J (bf bc bo e.args g_ fv 0 J J J J Y V jY dw) (go 1 ?_);rcases bw (dv e.args[0]) with h21|h21;rotate_left;all_goals
      refine d8 0 J call183 J (ih 0 Y _) h21 (go 7 ?_);exact az (s':=⟨bx,rw⟩) J cT ⟨bZ (by rw [lG];unfold kg;rw [if_neg Y,if_neg Y,if_pos Y];rw [decide_eq_true Y,decide_eq_true (show e.num=0 by omega),decide_eq_true h20,RO Y,h21];rfl),J⟩
    refine aD J (fc false J J J (od h20)) (go 14 ?_);exact az (s':=⟨bx,rw⟩) J cT ⟨bZ (by rw [lG];unfold kg;rw [if_neg Y,if_neg Y,if_pos Y];rw [decide_eq_true Y,decide_eq_true (show e.num=0 by omega),decide_eq_false h20];rfl),J⟩
   refine aG J (bO h19) (go 19 ?_);exact az (s':=⟨bx,rw⟩) J cT ⟨bZ (by rw [lG];unfold kg;rw [if_neg Y,if_neg Y,if_pos Y];rw [decide_eq_true Y,decide_eq_false (show ¬e.num=0 by omega)];rfl),J⟩
  refine aG J (bO h18) (go 23 ?_);exact az (s':=⟨bx,rw⟩) J cT ⟨bZ (by rw [lG];unfold kg;rw [if_neg Y,if_neg Y,if_pos Y];rw [decide_eq_false Y];rfl),J⟩
 refine aG J (bO h16) (go 12 ?_);by_cases h23:(e.args.length:Int)=2
 ·refine aI J (bU h23) (go 3 ?_);by_cases DP:e.num=0
  ·refine aI J (bU DP) (go 4 ?_);by_cases wd:e.name=a_
   ·refine aD J (fc true J J J (pF wd)) (go 4 ?_);refine aD J (bf bc bo e.args g_ fv 0 J J J J Y V jY dw) (go 1 ?_);rcases bw (dv e.args[0]) with ur|ur
    ·refine d8 0 J call183 J (ih 0 Y _) ur (go 4 ?_);refine aD J (bf bc bo e.args g_ fv 1 J J J J Y V jY dw) (go 1 ?_);rcases bw (dv e.args[1]) with h27|h27;rotate_left;all_goals
      refine d8 0 J call183 J (ih 1 Y _) h27 (go 5 ?_);exact az (s':=⟨bx,rw⟩) J cT ⟨bZ (by rw [lG];unfold kg;rw [if_neg Y,if_neg Y,if_neg Y];rw [decide_eq_true Y,decide_eq_true (show e.num=0 by omega),decide_eq_true wd,Oz Y,ur,h27];rfl),J⟩
    refine d8 0 J call183 J (ih 0 Y _) ur (go 12 ?_);exact az (s':=⟨bx,rw⟩) J cT ⟨bZ (by rw [lG];unfold kg;rw [if_neg Y,if_neg Y,if_neg Y];rw [decide_eq_true Y,decide_eq_true (show e.num=0 by omega),decide_eq_true wd,Oz Y,ur];rfl),J⟩
   refine aD J (fc false J J J (od wd)) (go 19 ?_);exact az (s':=⟨bx,rw⟩) J cT ⟨bZ (by rw [lG];unfold kg;rw [if_neg Y,if_neg Y,if_neg Y];rw [decide_eq_true Y,decide_eq_true (show e.num=0 by omega),decide_eq_false wd];rfl),J⟩
  refine aG J (bO DP) (go 24 ?_);exact az (s':=⟨bx,rw⟩) J cT ⟨bZ (by rw [lG];unfold kg;rw [if_neg Y,if_neg Y,if_neg Y];rw [decide_eq_true Y,decide_eq_false (show ¬e.num=0 by omega)];rfl),J⟩
 refine aG J (bO h23) (go 28 ?_);exact az (s':=⟨bx,rw⟩) J cT ⟨bZ (by rw [lG];unfold kg;rw [if_neg Y,if_neg Y,if_neg Y];rw [decide_eq_false Y];rfl),J⟩
def Ge{e:aS}(h:e.bt):e.name.size <= 4611686018427387904 /\ jD e.args:=by cases e;rw [aS.bt] at h;first|exact ⟨h.2.2.1,h.2.2.2⟩|exact ⟨h.2.1,h.2.2⟩|exact ⟨h.1,h.2⟩
def Gh:∀(N:Nat)(e:aS),e.nodes <= N -> e.bt -> ∀s:aJ,aU prog 183 [cM (.agg (bo e))] [] s λr s'=>r=bC (dv e) /\ s'=s
 |0,e,h,_,_=>rq
 |N+1,e,h,hs,s=>Rh e (Ge hs).1 (λk hk s=>Gh N e.args[k] q6 (qR _ (Ge hs).2 _ (getElem_mem _)) s) s
def Rt(e:aS)(hN:e.nodes <= 1000000000)(hsh:dv e=true)(ih:∀k (h:k<e.args.length) (s:aJ),aU prog 184 [cM (.agg (bo e.args[k]))] [] s λr s'=>r=an ((iJ e.args[k]:Nat):Int) /\ s'=s)(s:aJ):aU prog 184 [cM (.agg (bo e))] [] s λt s'=>t=an (iJ e:Int) /\ s'=s:=by
 obtain ⟨bx,rw⟩:=s;have hlen:=sJ e;refine bR 34 func184 ?_;refine go 21 λb1=>?_;refine qk (e.args.length) 9 (λk=>[(3,an ((jH e.op 0 (e.args.take (k)):Nat):Int)),(0,cM (.agg (bo e))),(1,aF b1),(8,ae e.args.length)]) (ax J) λk hk=>?_;show br prog _ ⟨34,_,_,(9,ae k)::[(3,an ((jH e.op 0 (e.args.take (k)):Nat):Int)),(0,cM (.agg (bo e))),(1,aF b1),(8,ae e.args.length)]⟩ _;refine go 2 ?_;by_cases h1:(k:Int)<(e.args.length:Int)
 ·refine aI J (c_ h1) (go 16 ?_);have hle:=Ad _ e.args[k] (bX _);have hnk:=F4 e k Y;have hmx:=BQ e.op e.args k Y;refine go 3 ?_;refine aD J (bf bc bo e.args g_ fv k J J J J Y V jY dw) (go 1 ?_);refine j6 0 J call184 J (ih k Y _) (go 8 ?_);rcases bw (kA e.op k e.args[k].op) with h3|h3;focus
   refine d8 0 J call200 J (CS e k Y (mW hsh).1 (mW ((mW hsh).2 k Y)).1 _) h3 (go 5 ?_);refine bP J (go 6 ?_)
  rotate_left;refine d8 0 J call200 J (CS e k Y (mW hsh).1 (mW ((mW hsh).2 k Y)).1 _) h3 (go 8 ?_);all_goals
   refine aD J (H8 _ J J J J) (go 5 ?_);refine bP J (go 2 ?_);exact ⟨Y,(ay J (cD Y) (ay J (cD (by rw [BQ _ _ _ Y,h3];simp only [if_true,mz,if_false];omega)) (ax J)))⟩
 refine aG J (cv h1) (go 12 ?_);have hle0:=Ad _ e (bX _);have hq:=AM e;obtain rfl:k=e.args.length:=Y;rw [take_of_length_le (bX _)];have hsE:=C5 e.op (mW hsh).1;refine go 2 ?_;refine j6 0 J call198 J (Ao e.op _) ?_;by_cases h7:(fo e.op:Int)=6
 ·refine aI J (bU h7) (go 5 ?_);refine bP J (go 10 ?_);exact az (s':=⟨bx,rw⟩) J cT ⟨fa Jp,J⟩
 refine aG J (bO h7) (go 12 ?_);exact az (s':=⟨bx,rw⟩) J cT ⟨fa PQ,J⟩
def Kq:∀(N:Nat)(e:aS),e.nodes <= N -> N <= 1000000000 -> dv e=true -> ∀s:aJ,aU prog 184 [cM (.agg (bo e))] [] s λr s'=>r=an (iJ e:Int) /\ s'=s
 |0,e,h,_,_,_=>rq
 |N+1,e,h,hN,hs,s=>Rt e Y hs (λk hk s=>Kq N e.args[k] q6 Y ((mW hs).2 k hk) s) s
def zH(e:aS)(hN:e.nodes <= 1000000000)(hs:e.bt)(s:aJ):aU prog 163 [cM (.agg (bo e))] [] s λt s'=>t=bC (fJ e) /\ s'=s:=by
 obtain ⟨bx,rw⟩:=s;refine bR 10 func163 ?_;refine go 9 λb1=>?_;rcases bw (dv e) with h1|h1
 ·refine d8 0 J call183 J (Gh _ e (bX _) hs _) h1 (go 2 ?_);refine j6 0 J call184 J (Kq _ e (bX _) hN h1 _) ?_;by_cases h2:(iJ e:Int) <= 24
  ·refine aI J (zg h2) (go 5 ?_);exact az (s':=⟨bx,rw⟩) J cT ⟨bZ (by unfold fJ;rw [h1,decide_eq_true Y];rfl),J⟩
  refine aG J (yQ h2) (go 5 ?_);exact az (s':=⟨bx,rw⟩) J cT ⟨bZ (by unfold fJ;rw [h1,decide_eq_false Y];rfl),J⟩
 refine d8 0 J call183 J (Gh _ e (bX _) hs _) h1 (go 9 ?_);exact az (s':=⟨bx,rw⟩) J cT ⟨bZ (by unfold fJ;rw [h1];rfl),J⟩
section
variable {P:Program}{U T:List Nat}{o:Oper}{n d:Nat}{bx:List aV}{rw:List aP}{ts:List (Nat×AT)}{K:AS -> Prop}{st:AS}{t:AT}
theorem VA{g:Nat}{E:bA}{cs ds:List aO}{N C:Nat}{B:List aV}(i:Nat)(hi:look st.ts i=some (av (.slice (some ⟨g,0,none⟩) N C)))(hrow:st.s.boxes=⟨g,E,cs++ds⟩::B)(hC:N <= C)(hC2:C <= 9223372036854775807):Sub st {st with s:=⟨B,st.s.rows⟩,ts:=(i,.c (.sl N cs))::st.ts}:=λa w hs=>by
 have hsub:jj st.s ⟨B,st.s.rows⟩:=ai (by rw [hrow];exact zR _ _) (xI _);obtain ⟨h1,h2,h3⟩:=qx hsub a w hs;refine ⟨⟨h1.df,h1.sz,λj x hx=>?_,h1.mem⟩,h2,h3⟩;simp only [look] at hx;split at hx
 ·rename_i he;subst he;cases hx;obtain ⟨u,aj,e2⟩:=hs.tm i _ hi;have:=e2.val;subst this;obtain ⟨us,⟨fz,-,hh⟩,hrep⟩:=hs.mem.box ⟨g,E,cs++ds⟩ tF;have hlen:us.length=cs.length+ds.length:=by have:=hrep.len;simpa using this
  have hr2:=hrep.take cs.length;rw [List.take_left] at hr2;have hnm:g∉(⟨B,st.s.rows⟩:aJ).bl:=by
   have hnd:=hs.mem.nodup;have hbl:st.s.bl=g::(⟨B,st.s.rows⟩:aJ).bl:=FA;rw [hbl] at hnd;exact (m5.1 hnd).1
  refine ⟨_,aj,.c _ _ (.sl _ _ (us.take cs.length) _ ⟨_,_,J,hC,.inr ⟨g,0,J,λj x hj=>?_⟩⟩ hr2.len (λk h h'=>(hr2.at_ k h h').mono (up_sub h2)) (λ_ _ _ h=>by cases h;exact hC2))⟩;rw [pH _ _ _ hnm];unfold World.cell?;simp only [hh];rw [oy] at hj;split at hj
  ·simpa using hj
  cases hj
 exact h1.tm j x hx
theorem Xc{ops:Array Oper}{l:List Oper}{Q:Exit -> AS -> Prop}{g:Nat}{E:bA}{cs ds:List aO}{N C:Nat}(i:Nat)(hi:look ts i=some (av (.slice (some ⟨g,0,none⟩) N C)))(hC:N <= C)(hC2:C <= 9223372036854775807)(h:cO P ops l ⟨n,T,⟨bx,rw⟩,(i,.c (.sl N cs))::ts⟩ Q):cO P ops l ⟨n,T,⟨⟨g,E,cs++ds⟩::bx,rw⟩,ts⟩ Q:=
 uZ (VA (st:=⟨n,T,⟨⟨g,E,cs++ds⟩::bx,rw⟩,ts⟩) i hi rfl hC hC2) h
theorem XD(w:ab){a:Act}{K:Act -> ab -> Prop}{Q:Exit -> Act -> ab -> Prop}(s x:bb)(t u:bA)
  (ho:o.op=.call {callee:=.builtin .append,args:=#[s,x],argTypes:=#[t,u]})
  (e:bA) (i:TypeInfo) (ht:P.underlying t=some (.slice e)) (hu:P.underlying u=some .string) (hi:P.info? e=some i) (hz:i.zero=some (.int .u8 0)) (hsize:i.size=1) (hby:i.bytes=1)
  (v:aN) (n:Nat) (xs:List aN) (hs:a.eval s=v) (hown:w.ownsRow 0 e 1 v n xs) (z:aH) (hx:a.eval x=.string z) (h63:n+z.size <= maxLen) (hbytes:n+z.size <= 140737488355328)
  (h:∀v' w',w'.ownsRow 0 e 1 v' (n+z.size) (xs++Lib.strCells z) -> w.grownBy w' v.ownBlock -> (∀g,v'.ownBlock=some g -> v.ownBlock=some g∨w.heap.size <= g) -> K (a.put o.dst v') w'):o.wp P a w K Q:=by
 obtain ⟨v',w',hr,h2,h3,h4⟩:=Lib.run_append_own_string (P:=P) w 0 t u o.type e i ht hu hi hz hsize hby v n xs hown z h63 hbytes (eT _);have hfr:∀g,v'.ownBlock=some g -> v.ownBlock=some g∨w.heap.size <= g:=by
  rcases hown.2 with ⟨hv0,hn0⟩|⟨g,cap,cur,hv0,hbg,hg,hnc,hcm,hcs,htake⟩
  ·obtain ⟨v2,w2,hr2,h5,_,_⟩:=Lib.run_append_own_string (P:=P) w w.heap.size t u o.type e i ht hu hi hz hsize hby v n xs ⟨hown.1,.inl ⟨hv0,hn0⟩⟩ z h63 hbytes (bX _);rw [hr] at hr2;injection hr2 with aj e2
   subst aj;intro k hk;exact Or.inr (h5.lt k hk).1
  subst hv0;by_cases hroom:n+z.size <= cap
  ·have hr2:=Lib.run_append_room_string (P:=P) w t u o.type e i ht hu hi hsize g n cap cur hg z hroom Y;rw [hr] at hr2;injection hr2 with aj e2
   subst aj;intro k hk;exact .inl hk
  have holds:∀j u,xs[j]?=some u -> w.cell? ((⟨g,0,none⟩:Addr).add j)=some u:=hown.cells (g:=g) J;have hr2:=Lib.run_append_grow_string (P:=P) w t u o.type e i (.int .u8 0) ht hu hi hz ⟨g,0,none⟩ n cap xs (by rw [hsize];exact hown.1) holds z Y (by simp only [maxLen] at h63;omega) (by rw [hby];exact growslice_fits Y Y);rw [hr] at hr2;injection hr2 with aj e2
  subst aj;intro k hk;simp [Value.ownBlock] at hk;exact .inr Y
 unfold Oper.wp execOp;simp only [ho,resolve,invoke,builtin,dI,fj,ei,mI,dE,gH,hs,hx,hr];exact h v' w' h2 h3 hfr
theorem ya{E E2 e:bA}{x y:bb}{k:Nat}{v:aN}{cs ds r:List aO}(A:List aP)(i:TypeInfo){B:List aP}{z:aH}(ho:o.op=.call {callee:=.builtin .append,args:=#[x,y],argTypes:=#[E,E2]})(hd:o.dst=some d)(hn:d<n)
  (hx:aw ⟨n,T,⟨bx,A++⟨v,e,1,k,cs⟩::B⟩,ts⟩ x=some (av v)) (hy:aw ⟨n,T,⟨bx,A++⟨v,e,1,k,cs⟩::B⟩,ts⟩ y=some (cK z)) (hu:P.underlying E=some (.slice e)) (hu2:P.underlying E2=some .string) (hi:P.info? e=some i) (hz:i.zero=some (.int .u8 0)) (hsz:i.size=1) (hby:i.bytes=1)
  (hlen:k+z.size <= maxLen) (hbytes:k+z.size <= 140737488355328) {N:Nat} (hN:k+z.size=N) (hds:ca z.data.toList=ds) (hU:(⟨bx,A++⟨v,e,1,k,cs⟩::B⟩:aJ).bl.Nodup -> ∀b,b∈aR v -> b∈U) (hT:∀b,b∈aR v -> b∈T) (hr:cs++ds=r)
  (h:∀v',K ⟨n,aR v'++T,⟨bx,A++⟨v',e,1,N,r⟩::B⟩,(d,av v')::ts⟩):dZ P U o ⟨n,T,⟨bx,A++⟨v,e,1,k,cs⟩::B⟩,ts⟩ K:=by
 subst hr;subst hN;subst hds;refine GC A hd hn J V (λa w hs us hown=>⟨Lib.strCells z,?_,λKK QQ hK=>XD w x y E E2 ho e i hu hu2 hi hz hsz hby v k us (hs.val hx) hown z (hs.val hy) hlen hbytes hK⟩) hU hT h;have hR:=nc (bj (⟨bx,A++⟨v,e,1,k,cs⟩::B⟩:aJ).bl w) (Lib.strCells z) zp;have aj:(Lib.strCells z).map aO.val=ca z.data.toList:=by simp [Lib.strCells,ca]
 rw [aj] at hR;exact hR
end
end
section
open Go.RowKit Go.Sort
def zL:∀u:Nat,Lib.decDigits u=dF u:=λu=>by
 induction u using Nat.strongRecOn with
 |_ u ih=>
  rw [Lib.decDigits,dF];by_cases h:u<10
  ·rw [dif_pos h,if_pos h]
  rw [dif_neg h,if_neg h,ih (u/10) Y]
def TA(n:Int):Lib.itoa n=fT n:=by
 unfold Lib.itoa fT;rw [zL,zL];by_cases h:n<0
 ·rw [if_pos h,if_pos h]
 rw [if_neg h,if_neg h,show n.toNat=n.natAbs by omega]
def U5(w:ab)(k:Nat)(os:Array Obj):Below w.heap.size w (grow (w.drewN k) os):=
 ⟨rfl,rfl,rfl,by show w.heap.size <= (w.heap++os).size;rw [Array.size_append];omega,λi hi=>by show (w.heap++os)[i]?=_;rw [He hi]⟩
section
variable {P:Program}{U T:List Nat}{o:Oper}{n d:Nat}{ts:List (Nat×AT)}{s:aJ}{K:AS -> Prop}{st:AS}{p:World -> Prop}{t0 u:AT}{us:List AT}{bx:List aV}{rw:List aP}{ops:Array Oper}{l:List Oper}{Q:Exit -> AS -> Prop}
theorem QG{E E':bA}{x:bb}{k k':IntKind}{m r:Int}(ho:o.op=.convert E E' x)(hx:aw st x=some (av (.int k m)))(hE:(P.underlying E).isSome=true)(hE':P.underlying E'=some (.int (P.intKind E')))(hk8:P.intKind E'=k')(hr:k'.wrap m=r):co P U o st (av (.int k' r)):=by
 intro a w hs _;refine ⟨_,.c _ _ (.val _ J),λw' _=>?_⟩;have h1:=run_convert_int (P:=P) (w:=w') E E' k m hE hE';simp only [execOp,ho,dI,hs.val hx];rw [h1,hk8,hr];rfl
theorem Ut{m:Int}(h1:0 <= m)(h2:m <= 18446744073709551615):IntKind.u64.wrap m=m:=by
 have:IntKind.u64.wrap m=m%18446744073709551616:=by unfold IntKind.wrap;simp [IntKind.signed,IntKind.bits]
 rw [this];omega
theorem Jf{t e:bA}{x y':bb}{b h N:Nat}{k2:IntKind}{j:Int}(ho:o.op=.slice t x none (some y') none)(hx:aw st x=some (aF b))(hy':aw st y'=some (av (.int k2 j)))(hj:j=h)(h2:h <= N)(h0:0<N)
  (ht:∀w,(underlying t).run P w=.ok (.array N e) w) (hz:∀w,(sizeOf e).run P w=.ok 1 w):co P U o st (av (.slice (some ⟨b,0,none⟩) h N)):=
 iF rfl λa w hs w'=>by
  subst hj;simp only [execOp,ho,hs.val hx,hs.val hy',Instr.sliceAt,oi,EA,dI,fj,ei,ht,Instr.sureAddr,hz];simp [go_sem,Instr.sliceBounds,asIntOf];omega
theorem QK{st:AS}{F:FuncId}{cap:Array bb}{vs:List aN}(ho:o.op=.makeFunc (.func F) #[] cap)(hc:cap.toList.map (aw st)=vs.map λv=>some (av v)):co P U o st (av (.func (.func F) #[] vs.toArray)):=
 iF rfl λa w hs w'=>by
  have e:cap.map a.eval=vs.toArray:=by
   rw [←oj,yS];have:∀(l:List bb)(vs:List aN),l.map (aw st)=vs.map (λv=>some (av v)) -> l.map a.eval=vs:=by
    intro l;induction l with
    |nil=>intro vs h;cases vs with|nil=>rfl|cons=>cases h
    |cons x l ih=>
     intro vs h;cases vs with
     |nil=>cases h
     |cons v vs=>
      simp only [dE,sV] at h⊢;exact ⟨hs.val h.1,ih vs h.2⟩
   exact this _ _ hc
  simp only [execOp,ho,Instr.makeFunc,e];simp [go_sem]
theorem qE{F:FuncId}{x:bb}{cap:Array aN}{ks:Array bb}{ph:Array bA}{b c:Bool}(i0:Nat)(h0:(eJ ops o ⟨n,T,s,ts⟩,o.op,aw ⟨n,T,s,ts⟩ x,o.dst,Nat.blt d n,look ts i0)=(some true,.call {callee:=.value x,args:=ks,argTypes:=ph},some (av (.func (.func F) #[] cap)),some d,true,some (.ride t0 p)))
  (hcf:∀args w,(callFunc F args).run P w=.ok (.enter F args) w) (has:ks.toList.map (aw ⟨n,T,s,ts⟩)=[u].map some) (hc:aU P F (.ride u p::cap.toList.map gb) [] s λt s'=>t=bC b /\ s'=s) (hb:b=c) (h:cO P ops l ⟨n,T,s,(d,bC c)::ts⟩ Q):cO P ops (o::l) ⟨n,T,s,ts⟩ Q:=by
 simp only [jC] at h0;subst hb;exact aX h0.1 (Ri (us:=[]) i0 [] h0.2.1 h0.2.2.1 h0.2.2.2.1 (fS h0.2.2.2.2.1) hcf h0.2.2.2.2.2 has hc rl rl (λ_=>rl) λr s' ⟨h1,h2⟩=>D_)
theorem Wr(i j:Nat){c:Code}{t1:AT}(hi:look ts i=some (.ride t0 p))(hj:look ts j=some t1)(h:br P c ⟨n,T,s,(j,.ride t1 p)::ts⟩ Q):br P c ⟨n,T,s,ts⟩ Q:=by
 refine rp (st':=⟨n,T,s,(j,.ride t1 p)::ts⟩) (λa w hs=>?_) h;refine ⟨⟨hs.df,hs.sz,λk x hx=>?_,hs.mem⟩,λ_ h=>h,λ_ h=>h⟩;simp only [look] at hx;split at hx
 ·rename_i he;subst he;cases hx;obtain ⟨v,aj,e2⟩:=hs.tm j t1 hj;obtain ⟨v0,-,e3⟩:=hs.tm i _ hi;exact ⟨v,aj,ww e3 e2⟩
 exact hs.tm k x hx
theorem vk(E:bA)(z:Nat)(h:cO P ops l ⟨n,T,⟨bx,⟨.slice none 0 0,E,z,0,[]⟩::rw⟩,ts⟩ Q):cO P ops l ⟨n,T,⟨bx,rw⟩,ts⟩ Q:=uZ (MU (st:=⟨n,T,⟨bx,rw⟩,ts⟩) E z) h
theorem rN{F:FuncId}{ks:Array bb}{ph:Array bA}{v:aN}{E:bA}{z k k':Nat}{cs cs':List aO}(i0:Nat)(h0:(o.op,o.dst,Nat.blt d n,look ts i0)=(.call {callee:=.value (.func F),args:=ks,argTypes:=ph},some d,true,some (.ride t0 p)))
  (hcf:∀args w,(callFunc F args).run P w=.ok (.enter F args) w) (has:ks.toList.map (aw ⟨n,T,⟨bx,⟨v,E,z,k,cs⟩::rw⟩,ts⟩)=(u::us).map some)
  (hc:aU P F (.ride u p::us) (aR v) ⟨bx,⟨v,E,z,k,cs⟩::rw⟩ λt s'=>∃v',t=av v' /\ s'=⟨bx,⟨v',E,z,k',cs'⟩::rw⟩) (hT:∀b,b∈aR v -> b∈T) (hU:(⟨bx,⟨v,E,z,k,cs⟩::rw⟩:aJ).bl.Nodup -> ∀b,b∈aR v -> b∈U)
  (h:∀v',K ⟨n,aR v'++T,⟨bx,⟨v',E,z,k',cs'⟩::rw⟩,(d,av v')::ts⟩):dZ P U o ⟨n,T,⟨bx,⟨v,E,z,k,cs⟩::rw⟩,ts⟩ K:=by
 simp only [jC] at h0;obtain ⟨ho,hd,hn,hl⟩:=h0;intro a w hs KK QQ' hK;obtain ⟨h1,h2⟩:=pV hs has;obtain ⟨v0,-,hv0⟩:=hs.tm i0 _ hl;have rg:∀b,b∈aR v -> b∈(⟨bx,⟨v,E,z,k,cs⟩::rw⟩:aJ).bl:=λb hb=>Cf;unfold Oper.wp;rw [show (execOp a.eval o).run P w=.ok (.enter F (ks.toList.map a.eval).toArray) w from by
  simp only [execOp,ho,resolve,Deferred.ofValue,Act.eval,dI,fj,ei,invoke];rw [hcf]
  congr 2
  rw [←oj];simp,Oper.upon_enter]
 refine (hc _ w hs.mem rg h1 (λi hi hi'=>?_)).mono ?_
 ·match i,hi with
  |0,hi=>exact ww hv0 (h2 0 aL hi')
  |i+1,hi=>exact h2 (i+1) pW hi'
 ·rintro en w' ⟨r,vr,s',rfl,⟨v',rfl,rfl⟩,hr,hm,hk,hb⟩;dsimp only;rw [hd];have s1:=hs.step (aR v'++T) (hk.mono rg) hm hb;refine hK _ _ _ (h v') (s1.put (fS hn) hr) ⟨hk.mono rg,hk.mono hT,hb,λb hb2=>?_⟩ (hk.mono (hU hs.mem.nodup));rcases mem_append.1 hb2 with hb2|hb2
  ·have aj:b∈(⟨bx,⟨v',E,z,k',cs'⟩::rw⟩:aJ).bl:=B0;exact (hb b aj).imp (λh9=>hT b (Hx (bx:=bx) (bx':=bx) J hm.nodup hb2 h9)) id
  exact .inl hb2
theorem Et{F:FuncId}{x:bb}{cap:Array aN}{ks:Array bb}{ph:Array bA}{v:aN}{E:bA}{z k k':Nat}{cs cs':List aO}(i0:Nat)(h0:(o.op,aw ⟨n,T,⟨bx,⟨v,E,z,k,cs⟩::rw⟩,ts⟩ x,o.dst,Nat.blt d n,look ts i0)=(.call {callee:=.value x,args:=ks,argTypes:=ph},some (av (.func (.func F) #[] cap)),some d,true,some (.ride t0 p)))
  (hcf:∀args w,(callFunc F args).run P w=.ok (.enter F args) w) (has:ks.toList.map (aw ⟨n,T,⟨bx,⟨v,E,z,k,cs⟩::rw⟩,ts⟩)=(u::us).map some)
  (hc:aU P F (.ride u p::(us++cap.toList.map gb)) (aR v) ⟨bx,⟨v,E,z,k,cs⟩::rw⟩ λt s'=>∃v',t=av v' /\ s'=⟨bx,⟨v',E,z,k',cs'⟩::rw⟩) (hT:∀b,b∈aR v -> b∈T) (hU:(⟨bx,⟨v,E,z,k,cs⟩::rw⟩:aJ).bl.Nodup -> ∀b,b∈aR v -> b∈U)
  (h:∀v',K ⟨n,aR v'++T,⟨bx,⟨v',E,z,k',cs'⟩::rw⟩,(d,av v')::ts⟩):dZ P U o ⟨n,T,⟨bx,⟨v,E,z,k,cs⟩::rw⟩,ts⟩ K:=by
 simp only [jC] at h0;obtain ⟨ho,hx,hd,hn,hl⟩:=h0;intro a w hs KK QQ' hK;obtain ⟨h1,h2⟩:=pV hs has;obtain ⟨v0,-,hv0⟩:=hs.tm i0 _ hl;obtain ⟨gD,gt⟩:=Ck (bj (⟨bx,⟨v,E,z,k,cs⟩::rw⟩:aJ).bl w) cap.toList;have rg:∀b,b∈aR v -> b∈(⟨bx,⟨v,E,z,k,cs⟩::rw⟩:aJ).bl:=λb hb=>Cf;have h3:(ks.toList.map a.eval).length=(AT.ride u p::us).length /\ ∀i (h:i<(AT.ride u p::us).length) (h':i<(ks.toList.map a.eval).length),cU (bj (⟨bx,⟨v,E,z,k,cs⟩::rw⟩:aJ).bl w) (AT.ride u p::us)[i] (ks.toList.map a.eval)[i]:=by
  refine ⟨h1,λi hi hi'=>?_⟩
  match i,hi with
  |0,hi=>exact ww hv0 (h2 0 aL hi')
  |i+1,hi=>exact h2 (i+1) pW hi'
 obtain ⟨g3,g4⟩:=BR h3.1 h3.2 gD gt;unfold Oper.wp;rw [show (execOp a.eval o).run P w=.ok (.enter F (ks.toList.map a.eval++cap.toList).toArray) w from by
  simp only [execOp,ho,resolve,hs.val hx,Deferred.ofValue,dI,fj,ei,invoke];rw [hcf]
  congr 2
  rw [←oj];simp,Oper.upon_enter]
 refine (hc _ w hs.mem rg g3 g4).mono ?_;rintro en w' ⟨r,vr,s',rfl,⟨v',rfl,rfl⟩,hr,hm,hk,hb⟩;dsimp only;rw [hd];have s1:=hs.step (aR v'++T) (hk.mono rg) hm hb;refine hK _ _ _ (h v') (s1.put (fS hn) hr) ⟨hk.mono rg,hk.mono hT,hb,λb hb2=>?_⟩ (hk.mono (hU hs.mem.nodup));rcases mem_append.1 hb2 with hb2|hb2
 ·have aj:b∈(⟨bx,⟨v',E,z,k',cs'⟩::rw⟩:aJ).bl:=B0;exact (hb b aj).imp (λh9=>hT b (Hx (bx:=bx) (bx':=bx) J hm.nodup hb2 h9)) id
 exact .inl hb2
end
def US(w:ab)(b:Nat)(cur:Array aN)(T:bA)(fz:Nat×Nat)(f:Array aN -> Array aN)(h:w.heap[b]?=some (.cells cur T fz)):mapBlock w b f=w.setRow b (f cur):=by
 unfold mapBlock World.setRow
 congr 1
 apply Dk
 intro k;simp only [Dy];by_cases hk:b=k
 ·subst hk;rw [if_pos rfl,if_pos rfl,h];rfl
 rw [if_neg hk,if_neg hk]
def Mem.drewN{s:aJ}{w:ab}(h:Mem s w):∀k,Mem s (w.drewN k)
 |0=>h
 |k+1=>(Mem.drewN h k).drew
def X9(b:Nat)(T:bA)(cs:List UInt8)(u N:Nat)(bx:List aV)(rw:List aP)(hu:u<18446744073709551616)(hn:Lib.nDigits u <= cs.length)(hc:cs.length <= 100):aU prog 191 [av (.slice (some ⟨b,0,none⟩) (Lib.nDigits u) N),av (.int .u64 (u:Int))] [b] ⟨⟨b,T,ca cs⟩::bx,rw⟩ λt s'=>t=.fd [] /\ s'=⟨⟨b,T,ca (dF u)++ca (cs.drop (Lib.nDigits u))⟩::bx,rw⟩:=by
 rw [show ca (dF u)++ca (cs.drop (Lib.nDigits u))=ca (dF u++cs.drop (Lib.nDigits u)) by unfold ca;rw [fL]];intro vs w hm _ hl hr;obtain ⟨v1,v2,rfl⟩:∃v1 v2,vs=[v1,v2]:=by
  match vs,hl with
  |[x,y],_=>exact ⟨x,y,rfl⟩
 obtain rfl:v1=_:=(show cU _ (.c (.val (.slice (some ⟨b,0,none⟩) (Lib.nDigits u) N))) v1 from hr 0 aL aL).val;obtain rfl:v2=_:=(show cU _ (.c (.val (.int .u64 (u:Int)))) v2 from hr 1 aL aL).val;obtain ⟨us,⟨fz,hfz,h1⟩,h2⟩:=hm.box ⟨b,T,ca cs⟩ aL;obtain rfl:us=dS cs:=zw (vs:=dS cs) (by rw [show (dS cs).map aO.val=ca cs by simp [dS,ca]];exact h2);have hlen:(dS cs).length=cs.length:=by simp [dS]
 have hbr:=setRow_heap;have hH:Holds (λ(b:UInt8)=>Value.int .u8 (b.toNat:Int)) w b 0 (cs.take (Lib.nDigits u)).toArray:=by
  intro j hj;have hj1:j<Lib.nDigits u:=by simpa [ss hn] using hj
  have hj2:j<cs.length:=Y;refine ⟨?_,?_⟩
  ·rw [getElem!_pos _ j hj];unfold World.cell?;simp only [h1];simp [dS,hj2]
  obtain ⟨lo,up⟩:=fz;simp only [World.frozen?,h1,Bool.and_eq_false_iff,decide_eq_false_iff_not];rcases hfz with h|h
  ·cases h;exact .inr Y
  dsimp only at h;rw [hlen] at h;exact .inl Y
 have hsz:(cs.take (Lib.nDigits u)).toArray.size=Lib.nDigits u:=by simp [ss hn]
 have hcall:=Tryz.internal_strconv_formatBase10 b 0 N u (cs.take (Lib.nDigits u)).toArray w hH (by rw [hsz];exact Lib.lt_pow_nDigits u) hu (by rw [hsz];omega);rw [hsz] at hcall;refine hcall.mono ?_;rintro e w' ⟨rfl,k,v',dk,rfl,hinv⟩;have hdk:dk.toList=dF u:=by
  rw [←zL];have hs1:dk.size=Lib.nDigits u:=hinv.size;refine oR (by rw [Lib.decDigits_length,rG,hs1]) λj h3 h4=>?_;rw [Lib.row_is_numeral hinv j h4,getElem!_pos dk j wg];simp
 have hs1:dk.size=Lib.nDigits u:=hinv.size;have hput:putCells (λ(b:UInt8)=>Value.int .u8 (b.toNat:Int)) 0 dk (dS cs).toArray=(dS (dF u++cs.drop (Lib.nDigits u))).toArray:=by
  apply Dk
  intro i;simp only [putCells,Array.getElem?_mapIdx,Gs];unfold dS;rw [nb,nb];have hdl:(dF u).length=Lib.nDigits u:=by rw [←hdk];simpa using hs1
  by_cases hi:i<Lib.nDigits u
  ·rw [rJ (by rw [hdl];exact hi),k_ (show i<cs.length by omega),k_ (by rw [hdl];exact hi)];simp only [oi,eT,true_and,cp,yr];rw [if_pos D8,getElem!_pos dk i D8];have:dk[i]'(by rw [hs1];exact hi)=(dF u)[i]'(by rw [hdl];exact hi):=by simp only [←hdk];simp
   rw [this]
  rw [pZ (by rw [hdl];omega),qX,hdl,show Lib.nDigits u+(i-Lib.nDigits u)=i by omega];cases hci:cs[i]? with
  |none=>rfl
  |some c=>
   simp only [oi,eT,true_and,cp];rw [if_neg D8]
 have hw1:putRow (λ(b:UInt8)=>Value.int .u8 (b.toNat:Int)) w b 0 dk=w.setRow b (dS (dF u++cs.drop (Lib.nDigits u))).toArray:=by
  unfold putRow;rw [US w b _ T fz _ h1,hput]
 rw [hw1];have ld:(dS (dF u++cs.drop (Lib.nDigits u))).length=(dS cs).length:=by
  have hdl:(dF u).length=Lib.nDigits u:=by rw [←hdk];simpa using hs1
  simp [dS,hdl];omega
 have hR:dV (bj (⟨⟨b,T,ca cs⟩::bx,rw⟩:aJ).bl w) (ca (dF u++cs.drop (Lib.nDigits u))) (dS (dF u++cs.drop (Lib.nDigits u))):=by
  have h9:=nc (bj (⟨⟨b,T,ca cs⟩::bx,rw⟩:aJ).bl w) (dS (dF u++cs.drop (Lib.nDigits u))) zp;rw [show (dS (dF u++cs.drop (Lib.nDigits u))).map aO.val=ca (dF u++cs.drop (Lib.nDigits u)) by unfold dS ca;rw [oh];rfl] at h9;exact h9
 have hm1:=hm.setRow (A:=[]) (B:=bx) J hfz ld h1 hR;have hk1:=zI w b (dS (dF u++cs.drop (Lib.nDigits u))).toArray;refine ⟨_,_,_,J,⟨J,J⟩,.fd [] [] J GD,hm1.drewN k,hk1.drewN k,λb' hb'=>.inl ?_⟩;unfold aJ.bl at hb'⊢;exact hb'
def CL{u:Nat}(h:u<18446744073709551616):1 <= Lib.nDigits u /\ Lib.nDigits u <= 20:=by
 refine ⟨Lib.nDigits_pos u,?_⟩;by_cases h1:1 <= u
 ·have h2:=Lib.numDigits_eq u h1 h;have h3:(if 10 ^ Lib.l10 (Lib.bitLen u) <= u then 1 else 0) <= 1:=by split<;>omega
  omega
 rw [Lib.nDigits_small Y];omega
def Bg(u:Nat):(dF u).length=Lib.nDigits u:=by rw [←zL];exact Lib.decDigits_length u
def Wl(i:Nat)(h:i<100)(s:aJ):aU prog 189 [ae i] [] s λt s'=>t=cK (bytes (dF i)) /\ s'=s:=
 I3 (us:=[.int .i64 (i:Int)]) rfl rfl (λw=>(Tryz.internal_strconv_small i h w).mono λe w' ⟨h1,h2⟩=>⟨by rw [h1,zL];rfl,h2.symm⟩) s
def Wk(u:Nat)(h1:1 <= u)(h2:u<18446744073709551616)(s:aJ):aU prog 190 [cM (av (.int .u64 (u:Int)))] [] s λt s'=>t=an (Lib.nDigits u:Int) /\ s'=s:=
 Lx (us:=[]) rfl (λw he=>(Tryz.internal_strconv_numDigits u h1 h2 w he.tab).mono λe w' ⟨h1,h2⟩=>⟨h1,h2.symm⟩) s
def pd(a b:List UInt8):ca a++ca b=ca (a++b):=by unfold ca;rw [fL]
instance aC2:dy prog 250 (ca (List.replicate 24 0)):=⟨_,zeroValue250,rfl⟩
end
section
open Go.RowKit
def fy(W:Nat)(a:Option Addr):Prop:=a=none∨a=some ⟨W,0,none⟩
def qN(bs:List UInt8)(v:Value):Prop:=bs=[] -> v=.slice none 0 0
abbrev dA(A:List aV)(W m:Nat)(a:Option Addr)(v:Value)(bs:List UInt8)(B:List aV)(rw:List aP):aJ:=⟨A++⟨W,181,[.val (.pointer a),.val v,ap m]⟩::B,⟨v,5,1,bs.length,ca bs⟩::rw⟩
instance aFz:rX .nilIface (av .nilIface):=⟨rfl⟩
section
variable {P:Program}{U T:List Nat}{o:Oper}{n d:Nat}{ts:List (Nat×AT)}{s:aJ}{K:AS -> Prop}{st:AS}{bx:List aV}{rw:List aP}{ops:Array Oper}{l:List Oper}{Q:Exit -> AS -> Prop}
theorem Jo{t yt te:bA}{j:TypeInfo}{x y:bb}{q:Option Addr}(ho:o.op=.binOp .eql t x y yt)(hx:aw st x=some (av (.pointer q)))(hy:aw st y=some (av (.pointer none)))(hp:P.underlying t=some (.pointer te))(hte:P.info? te=some j):co P U o st (bC q.isNone):=
 iF rfl λa w hs w'=>by
  have h:∀d:Nat,(Op.equalIn (d+1) t (.pointer q) (.pointer none)).run P w'=.ok q.isNone w':=λd=>by
   cases q<;>simp [Op.equalIn,run_underlying hp,sizeOf,typeInfo,hte,samePointer]
  have h2:(Op.equal t (.pointer q) (.pointer none)).run P w'=.ok q.isNone w':=h 9999;generalize hg:Op.equal t (.pointer q) (.pointer none)=E at h2;simp only [execOp,ho,hs.val hx,hs.val hy];simp_all [go_sem,eqGuard,binOp]
theorem Xe{t yt te:bA}{j:TypeInfo}{x y:bb}{q:Addr}(ho:o.op=.binOp .neq t x y yt)(hx:aw st x=some (av (.pointer (some q))))(hy:aw st y=some (av (.pointer (some q))))(hp:P.underlying t=some (.pointer te))(hte:P.info? te=some j):co P U o st (bC false):=
 iF rfl λa w hs w'=>by
  have h2:=Lib.run_neq_ptr_same w' q hp hte;simp only [execOp,ho,hs.val hx,hs.val hy];simp [go_sem,eqGuard,h2]
theorem RP {F : FuncId} {fn : Func} {x : bb} {ph : Array bA} {t : AT} (ho : o.op = .call { callee := .value (.func F), args := #[x], argTypes := ph }) (hx : aw st x = some t) (hf : P.funcs[F]? = some fn) (hname : (fn.name == "runtime.NumGoroutine") = false) (hb : fn.body.isNone = true) (hn : Extern.findNext fn = none) (he : Extern.find fn = some Extern.AbiNoEscape.same) : co P U o st t := by
 intro a w hs _;refine ⟨a.eval x,hs.ev hx,λw' _=>?_⟩;simp only [execOp,ho,resolve,Deferred.ofValue,Act.eval,dI,fj,ei,invoke,mI,dE,gH];have h1:=run_callFunc_extern hf hname hb hn he #[a.eval x] w';rw [Lib.run_noEscape] at h1;simp only [ei] at h1;simpa [Act.eval] using h1
theorem LM{w w':ab}{U:List Nat}{b:Nat}{T:bA}{cs:List aO}(hm:Mem s w)(hb:(⟨b,T,cs⟩:aV)∈s.boxes)(hk:cQ U w w')(hU:b∉U):w'.shape? b=some (T,cs.length):=by
 obtain ⟨us,⟨fz,-,h1⟩,h2⟩:=hm.box _ hb;have h3:w'.heap[b]?=_:=(hk.block b (hm.lt b (gR _ (lP.2 ⟨_,hb,J⟩))) hU).trans h1;unfold World.shape?;rw [h3];simp [h2.len]
theorem Qo{E E' te:bA}{j:TypeInfo}{x:bb}{b:Nat}{T0:bA}{cs:List aO}(A:List aV){B:List aV}(ho:o.op=.convert E E' x)(hx:aw st x=some (aF b))(hb:st.s.boxes=A++⟨b,T0,cs⟩::B)(hE:P.underlying E=some (.pointer te))(hE':P.underlying E'=some .unsafePointer)(ht:P.info? te=some j)(hj:j.size≠0)(hl:0<cs.length)(hU:b∉U):co P U o st (aF b):=by
 intro a w hs _;refine ⟨_,.c _ _ (.val _ J),λw' hk=>?_⟩;have hsh:=LM hs.mem (b:=b) (T:=T0) (cs:=cs) uX hk hU;simp only [execOp,ho,dI,hs.val hx];rw [Lib.run_to_unsafe w' ⟨b,0,none⟩ hE hE' ht hj hsh hl];rfl
theorem R1{E E' u:bA}{j:TypeInfo}{x:bb}{b:Nat}{T0:bA}{cs:List aO}(A:List aV){B:List aV}(ho:o.op=.convert E E' x)(hx:aw st x=some (aF b))(hb:st.s.boxes=A++⟨b,T0,cs⟩::B)(hE:P.underlying E=some .unsafePointer)(hE':P.underlying E'=some (.pointer u))(ht:P.info? u=some j)(hlies:liesAt P P.depth T0 (cs.length/P.cellsOf T0) 0 u 1=true)(hU:b∉U):co P U o st (aF b):=by
 intro a w hs _;refine ⟨_,.c _ _ (.val _ J),λw' hk=>?_⟩;have hsh:=LM hs.mem (b:=b) (T:=T0) (cs:=cs) uX hk hU;simp only [execOp,ho,dI,hs.val hx];rw [Lib.run_from_unsafe w' ⟨b,0,none⟩ hE hE' ht hsh hlies];rfl
theorem jS{α:Type}{c:Code}{T':List Nat}{s':aJ}(p:Nat -> α -> Prop)(N i:Nat)(T:α -> List Nat)(S:Nat -> α -> aJ)(fx:Nat -> List (Nat×AT))(g0:α)(hp:p 0 g0)(hs:Sub ⟨n,T',s',ts⟩ ⟨n,T g0,S 0 g0,(i,ae 0)::fx 0⟩)
  (round:∀k g,k <= N -> p k g -> br P c ⟨n,T g,S k g,(i,ae k)::fx k⟩ (lX (λs'=>k<N /\ ∃g',p (k+1) g' /\ Sub s' ⟨n,T g',S (k+1) g',(i,ae (k+1))::fx (k+1)⟩) Q)):br P (.loop c) ⟨n,T',s',ts⟩ Q:=by
 refine f9 (λg:Nat×α=>⟨n,T g.2,S g.1 g.2,(i,ae g.1)::fx g.1⟩) (λg=>g.1 <= N /\ p g.1 g.2) (λg=>N-g.1) (0,g0) hs ⟨eT _,hp⟩ λg hg=>sN (round g.1 g.2 hg.1 hg.2) λe s' h=>?_;cases e with
 |normal=>
  obtain ⟨h1,g',h2,h3⟩:=h;exact ⟨(g.1+1,g'),⟨h1,h2⟩,by show N-(g.1+1)<N-g.1;omega,h3⟩
 |_=>exact h
theorem mZ{bx bx':List aV}{rw rw':List aP}{s':aJ}{T':List Nat}{ts':List (Nat×AT)}(h1:bx'.Sublist bx)(he:(⟨bx',rw'⟩:aJ)=s')(h2:rw'.Sublist rw:=by exact (.refl _))(h3:∀b,b∈T' -> b∈T:=by intro x hx;simp only [mem_append,mem_cons,not_mem_nil,or_false] at hx⊢;rcases hx with hx|hx<;>simp [hx])(h:Sub ⟨n,T',s',ts⟩ ⟨n,T',s',ts'⟩:=by exact (ay rfl (cD Y) (ax rfl))):Sub ⟨n,T,⟨bx,rw⟩,ts⟩ ⟨n,T',s',ts'⟩:=by
 subst he;exact bD (h1:=h1) (h2:=h2) (h:=h) h3
theorem ie{A:List aV}{W m:Nat}{a:Option Addr}{v:aN}{x y:List UInt8}{B:List aV}{rw:List aP}(h:x=y):dA A W m a v x B rw=dA A W m a v y B rw:=by rw [h]
theorem kI{F:FuncId}{ks:Array bb}{ph:Array bA}{us:List AT}{W m m':Nat}{a:Option Addr}{v:aN}{bs bs':List UInt8}{r:AT}{A B:List aV}{C:Option Addr -> aN -> Prop}(h0:(o.op,o.dst,Nat.blt d n)=(.call {callee:=.value (.func F),args:=ks,argTypes:=ph},some d,true))
  (hcf:∀args w,(callFunc F args).run P w=.ok (.enter F args) w) (has:ks.toList.map (aw ⟨n,T,dA A W m a v bs B rw,ts⟩)=us.map some)
  (hc:aU P F us (W::aR v) (dA A W m a v bs B rw) λt s'=>t=r /\ ∃a' v',C a' v' /\ s'=dA A W m' a' v' bs' B rw) (hT:W∈T) (hTv:∀b,b∈aR v -> b∈T) (hU:(dA A W m a v bs B rw).bl.Nodup -> W∈U /\ ∀b,b∈aR v -> b∈U)
  (h:∀a' v',C a' v' -> K ⟨n,aR v'++T,dA A W m' a' v' bs' B rw,(d,r)::ts⟩):dZ P U o ⟨n,T,dA A W m a v bs B rw,ts⟩ K:=by
 simp only [jC] at h0;obtain ⟨ho,hd,hn⟩:=h0;intro act w hs KK QQ' hK;obtain ⟨h1,h2⟩:=pV hs has;have rg:∀b,b∈W::aR v -> b∈(dA A W m a v bs B rw).bl:=λb hb=>by
  unfold aJ.bl;rcases mem_cons.1 hb with rfl|hb
  ·simp
  simp [hb]
 have hTT:∀b,b∈W::aR v -> b∈T:=λb hb=>by
  rcases mem_cons.1 hb with rfl|hb
  ·exact hT
  exact hTv b hb
 unfold Oper.wp;rw [show (execOp act.eval o).run P w=.ok (.enter F (ks.toList.map act.eval).toArray) w from by
  simp only [execOp,ho,resolve,Deferred.ofValue,Act.eval,dI,fj,ei,invoke];rw [hcf]
  congr 2
  rw [←oj];simp,Oper.upon_enter]
 refine (hc _ w hs.mem rg h1 h2).mono ?_;rintro en w' ⟨r',vr,s',rfl,⟨rfl,a',v',hC,rfl⟩,hr,hm,hk,hb⟩;dsimp only;rw [hd];have s1:=hs.step (aR v'++T) (hk.mono rg) hm hb;refine hK _ _ _ (h a' v' hC) (s1.put (fS hn) hr) ⟨hk.mono rg,hk.mono hTT,hb,λb hb2=>?_⟩ (hk.mono (λb hb=>by
  obtain ⟨u1,u2⟩:=hU hs.mem.nodup;rcases mem_cons.1 hb with rfl|hb
  ·exact u1
  exact u2 b hb))
 rcases mem_append.1 hb2 with hb2|hb2
 ·have aj:b∈(dA A W m' a' v' bs' B rw).bl:=B0;exact (hb b aj).imp Kf id
 exact .inl hb2
theorem wy{F:FuncId}{ks:Array bb}{ph:Array bA}{p:ab -> Prop}{t0 u:AT}{us:List AT}{W m m':Nat}{a:Option Addr}{v:aN}{bs bs':List UInt8}{r:AT}{A B:List aV}{C:Option Addr -> aN -> Prop}(i0:Nat)(h0:(o.op,o.dst,Nat.blt d n,look ts i0)=(.call {callee:=.value (.func F),args:=ks,argTypes:=ph},some d,true,some (.ride t0 p)))
  (hcf:∀args w,(callFunc F args).run P w=.ok (.enter F args) w) (has:ks.toList.map (aw ⟨n,T,dA A W m a v bs B rw,ts⟩)=(u::us).map some)
  (hc:aU P F (.ride u p::us) (W::aR v) (dA A W m a v bs B rw) λt s'=>t=r /\ ∃a' v',C a' v' /\ s'=dA A W m' a' v' bs' B rw) (hT:W∈T) (hTv:∀b,b∈aR v -> b∈T) (hU:(dA A W m a v bs B rw).bl.Nodup -> W∈U /\ ∀b,b∈aR v -> b∈U)
  (h:∀a' v',C a' v' -> K ⟨n,aR v'++T,dA A W m' a' v' bs' B rw,(d,r)::ts⟩):dZ P U o ⟨n,T,dA A W m a v bs B rw,ts⟩ K:=by
 simp only [jC] at h0;obtain ⟨ho,hd,hn,hl⟩:=h0;intro act w hs KK QQ' hK;obtain ⟨h1,h2⟩:=pV hs has;obtain ⟨v0,-,hv0⟩:=hs.tm i0 _ hl;have rg:∀b,b∈W::aR v -> b∈(dA A W m a v bs B rw).bl:=λb hb=>by
  unfold aJ.bl;rcases mem_cons.1 hb with rfl|hb
  ·simp
  simp [hb]
 have hTT:∀b,b∈W::aR v -> b∈T:=λb hb=>by
  rcases mem_cons.1 hb with rfl|hb
  ·exact hT
  exact hTv b hb
 unfold Oper.wp;rw [show (execOp act.eval o).run P w=.ok (.enter F (ks.toList.map act.eval).toArray) w from by
  simp only [execOp,ho,resolve,Deferred.ofValue,Act.eval,dI,fj,ei,invoke];rw [hcf]
  congr 2
  rw [←oj];simp,Oper.upon_enter]
 refine (hc _ w hs.mem rg h1 (λi hi hi'=>?_)).mono ?_
 ·match i,hi with
  |0,hi=>exact ww hv0 (h2 0 aL hi')
  |i+1,hi=>exact h2 (i+1) pW hi'
 rintro en w' ⟨r',vr,s',rfl,⟨rfl,a',v',hC,rfl⟩,hr,hm,hk,hb⟩;dsimp only;rw [hd];have s1:=hs.step (aR v'++T) (hk.mono rg) hm hb;refine hK _ _ _ (h a' v' hC) (s1.put (fS hn) hr) ⟨hk.mono rg,hk.mono hTT,hb,λb hb2=>?_⟩ (hk.mono (λb hb=>by
  obtain ⟨u1,u2⟩:=hU hs.mem.nodup;rcases mem_cons.1 hb with rfl|hb
  ·exact u1
  exact u2 b hb))
 rcases mem_append.1 hb2 with hb2|hb2
 ·have aj:b∈(dA A W m' a' v' bs' B rw).bl:=B0;exact (hb b aj).imp Kf id
 exact .inl hb2
end
end
section
open Go.RowKit
class cE (v:Value) (T:List Nat):Prop where h:∀b,b∈aR v -> b∈T
instance (priority:=1200) rbIn_hit{v:Value}{T:List Nat}:cE v (aR v++T):=⟨λ_ hb=>gR _ hb⟩
instance (priority:=1200) rbIn_self{v:Value}:cE v (aR v):=⟨λ_ hb=>hb⟩
instance (priority:=1300) rbIn_none{T:List Nat}:cE (.slice none 0 0) T:=⟨λb hb=>D6⟩
instance (priority:=1300) rbIn_lit{g n c:Nat}{T:List Nat}[h:po g T]:cE (.slice (some ⟨g,0,none⟩) n c) T:=⟨λb hb=>by
 simp only [aR,Value.ownBlock,Option.toList,mem_cons,not_mem_nil,or_false] at hb;rw [hb];exact h.h⟩
instance Z9{v:Value}{X T:List Nat}[h:cE v T]:cE v (X++T):=⟨λb hb=>gx _ (h.h b hb)⟩
instance aAJ{v:Value}{X T:List Nat}[h:cE v X]:cE v (X++T):=⟨λb hb=>gR _ (h.h b hb)⟩
instance aCK{v:Value}{x:Nat}{T:List Nat}[h:cE v T]:cE v (x::T):=⟨λb hb=>eG _ (h.h b hb)⟩
instance ZO{x:bS}:hY (bW x) 3:=⟨rfl⟩
instance aCy{x:pq}:hY (gG x) 3:=⟨rfl⟩
instance aCD{x:kR}:hY (encI x) 12:=⟨rfl⟩
instance aB6{x:bS}:iC (bW x) [ah x.name,aA x.kind,ap x.n]:=⟨rfl⟩
instance aCb{x:pq}:iC (gG x) [bG x.param,ap x.index,aB bc x.at_]:=⟨rfl⟩
instance aFL{x:kR}:iC (encI x) [aA x.op,ap x.target,bG x.global,aA x.expr.op,aA x.expr.num,ah x.expr.name,aB bc x.expr.args,bG x.place.param,ap x.place.index,aB bc x.place.at_,aB bc x.ints,aB gG x.places]:=⟨rfl⟩
def tT{P:Program}{α:Type}{x y:Code}{st:AS}{Q:Exit -> AS -> Prop}(F:α -> AS)(h1:br P x st (lX (λs=>∃a,Sub s (F a)) Q))(h2:∀a,br P y (F a) Q):br P (.seq x y) st Q:=
 zy (sN h1 λe s h=>by
  cases e with
  |normal=>obtain ⟨a,ha⟩:=h;exact rp ha (h2 a)
  |_=>exact h)
def JL{m n:Int}:ed .eql m n=some (decide (m=n)):=by unfold ed;by_cases h:m=n<;>simp [h]
def UB{q:ir}{e:Nat}{s:Int}(h:(q.1:Int)=0)(he:e≠0):cX q e s=(e,s):=by unfold cX;rw [if_pos ⟨Y,he⟩]
def To{q:ir}{e:Nat}{s:Int}(h:¬(q.1:Int)=0):cX q e s=q:=by unfold cX;rw [if_neg (λh2=>h Y)]
def K7{l:List bS}{s:aH}{k:Nat}(h:k<l.length)(hn:¬l[k].name=s)(hv:bM (l.drop k) s=bM l s):bM (l.drop (k+1)) s=bM l s:=by
 rw [ic h,bM,if_neg hn] at hv;exact hv
def Km{l:List bS}{s:aH}{k:Nat}(h:k<l.length)(hn:l[k].name=s)(hv:bM (l.drop k) s=bM l s):bM l s=some l[k]:=by
 rw [ic h,bM,if_pos hn] at hv;exact hv.symm
def oO(A B:List aV)(X:Nat)(p:aY)(l:List bS)(loc n:Int)(q:ir)(c8 c9:aO)(rw:List aP)(e:Nat)(s:Int)(he:e≠0):aU prog 102 [aF X,ae e,an s] [X] ⟨A++⟨X,165,[aB am p.globals,aB aT p.mutexes,aB aZ p.funcs,aB bW l,aA loc,aA n,aA q.2,ap q.1,c8,c9]⟩::B,rw⟩ λt s'=>t=.fd [] /\ s'=⟨A++⟨X,165,[aB am p.globals,aB aT p.mutexes,aB aZ p.funcs,aB bW l,aA loc,aA n,aA ((cX q e s).2),aA (((cX q e s).1:Nat):Int),c8,c9]⟩::B,rw⟩:=by
 refine bR 19 func102 ?_;refine go 6 ?_;by_cases h1:(q.1:Int)=0
 ·refine aI J (bU h1) (go 15 ?_);exact ⟨.inl J,_,⟨A++⟨X,165,[aB am p.globals,aB aT p.mutexes,aB aZ p.funcs,aB bW l,aA loc,aA n,aA (((e,s):ir).2),aA ((((e,s):ir).1:Nat):Int),c8,c9]⟩::B,rw⟩,fY J,ai (.refl _) (.refl _),J,by rw [UB h1 he]⟩
 refine aG J (bO h1) (go 4 ?_);exact ⟨.inl J,_,⟨A++⟨X,165,[aB am p.globals,aB aT p.mutexes,aB aZ p.funcs,aB bW l,aA loc,aA n,aA q.2,ap q.1,c8,c9]⟩::B,rw⟩,fY J,ai (.refl _) (.refl _),J,by rw [To h1]⟩
def tW(l:List bS)(s:aH)(hN:l.length <= 1000000000)(st:aJ):aU prog 40 [.c (aB bW l),cK s] [] st λt s'=>t=.fd [.agg (bW (bQ l s)),bC ((bM l s).isSome)] /\ s'=st:=by
 obtain ⟨bx,rw⟩:=st;unfold bQ;refine bR 25 func40 ?_;refine go 13 λb1=>?_;refine jr (λk=>bM (l.drop k) s=bM l s) (l.length) 6 (λk=>[(0,.c (aB bW l)),(1,cK s),(4,aF b1)]) J (ax J) λk hk hvk=>?_;replace hvk:bM (l.drop k) s=bM l s:=hvk
 try dsimp only
 refine go 6 ?_;by_cases h1:(k:Int)<(l.length:Int)
 ·refine aI J (c_ h1) (go 11 ?_);refine aD J (bf bW bW l nY (λ_=>J) k J J J J Y V wu lw) (go 3 ?_);by_cases h3:l[k].name=s
  ·refine aD J (fc true J J J (pF h3)) (go 7 ?_);refine aD J (bf bW bW l nY (λ_=>J) k J J J J Y V wu lw) (go 11 ?_);exact ⟨.inr J,_,⟨bx,rw⟩,iu J (bu [] J J qd lw (cH J J)) (bN J),ai bI (.refl _),by rw [Km Y h3 hvk];rfl,J⟩
  refine aD J (fc false J J J (od h3)) (go 8 ?_);refine bP J (go 2 ?_);exact ⟨Y,(K7 Y h3 hvk),(ay J (cD Y) (ax J))⟩
 refine aG J (cv h1) (go 16 ?_);exact ⟨.inr J,_,⟨bx,rw⟩,iu J (bu [] J J qd lw (cH J J)) (bN J),ai bI (.refl _),Kz,J⟩
def R9{l:List bS}{x:aH}(h:(bM l x).isSome=false):fI l x=6:=by
 unfold fI;rcases h2:bM l x with _|v
 ·rfl
 rw [h2] at h;cases h
def IQ{l:List bS}{x:aH}(h:(bM l x).isSome=true):fI l x=if (bQ l x).kind=1∨(bQ l x).kind=4 then 0 else 8:=by
 unfold fI bQ;rcases h2:bM l x with _|v
 ·rw [h2] at h;cases h
 rfl
def Pu(A B:List aV)(X:Nat)(p:aY)(l:List bS)(loc n:Int)(q:ir)(c8 c9:aO)(rw:List aP)(x:aH)(s:Int)(hl:l.length <= 1000000000):aU prog 104 [aF X,cK x,an s] [X] ⟨A++⟨X,165,[aB am p.globals,aB aT p.mutexes,aB aZ p.funcs,aB bW l,aA loc,aA n,aA q.2,ap q.1,c8,c9]⟩::B,rw⟩ λt s'=>t=.agg (bW (bQ l x)) /\ s'=⟨A++⟨X,165,[aB am p.globals,aB aT p.mutexes,aB aZ p.funcs,aB bW l,aA loc,aA n,aA ((cX q (fI l x) s).2),aA (((cX q (fI l x) s).1:Nat):Int),c8,c9]⟩::B,rw⟩:=by
 refine bR 37 func104 ?_;refine go 12 λb1=>?_;refine cc J pv J (tW l x Y _) ?_;rintro _ _ ⟨rfl,rfl⟩;refine go 13 λb2=>?_;rcases bw ((bM l x).isSome) with h1|h1
 ·refine aD J (cP (bJ (qc h1)) (jE J J)) (go 8 ?_);by_cases h3:(bQ l x).kind=1
  ·refine aG J (fF h3) (go 19 ?_);exact ⟨.inr J,_,⟨A++⟨X,165,[aB am p.globals,aB aT p.mutexes,aB aZ p.funcs,aB bW l,aA loc,aA n,aA q.2,ap q.1,c8,c9]⟩::B,rw⟩,bK J (bu [_] J J qd lw (cH J J)),ai cq (.refl _),J,by rw [IQ h1,if_pos Y,o8]⟩
  refine aI J (fl h3) (go 3 ?_);by_cases h5:(bQ l x).kind=4
  ·refine aG J (fF h5) (go 15 ?_);exact ⟨.inr J,_,⟨A++⟨X,165,[aB am p.globals,aB aT p.mutexes,aB aZ p.funcs,aB bW l,aA loc,aA n,aA q.2,ap q.1,c8,c9]⟩::B,rw⟩,bK J (bu [_] J J qd lw (cH J J)),ai cq (.refl _),J,by rw [IQ h1,if_pos Y,o8]⟩
  refine aI J (fl h5) (go 8 ?_);refine aX J (bm [X] J J V oN J (oO (_::_::A) B X p l loc n q _ _ rw 8 s V) dd db jp ?_);rintro _ _ ⟨rfl,rfl⟩;refine go 10 ?_;exact ⟨.inr J,_,⟨A++⟨X,165,[aB am p.globals,aB aT p.mutexes,aB aZ p.funcs,aB bW l,aA loc,aA n,aA ((cX q 8 s).2),aA (((cX q 8 s).1:Nat):Int),c8,c9]⟩::B,rw⟩,bK J (bu [_] J J qd lw (cH J J)),ai cq (.refl _),J,by rw [IQ h1,if_neg Y]⟩
 refine aD J (cP (bJ (qP h1)) (jE J J)) (go 7 ?_);refine aX J (bm [X] J J V oN J (oO (_::_::A) B X p l loc n q _ _ rw 6 s V) dd db jp ?_);rintro _ _ ⟨rfl,rfl⟩;refine go 10 ?_;exact ⟨.inr J,_,⟨A++⟨X,165,[aB am p.globals,aB aT p.mutexes,aB aZ p.funcs,aB bW l,aA loc,aA n,aA ((cX q 6 s).2),aA (((cX q 6 s).1:Nat):Int),c8,c9]⟩::B,rw⟩,bK J (bu [_] J J qd lw (cH J J)),ai cq (.refl _),J,by rw [R9 h1]⟩
def mV{l:List bS}{x:aH}(h:(bM l x).isSome=true):bM l x=some (bQ l x):=by
 unfold bQ;rcases h2:bM l x with _|v
 ·rw [h2] at h;cases h
 rfl
def Rf{p:aY}{l:List bS}{x:aH}{n:Nat}(h:(bM l x).isSome=false):kT p n (bM l x)=6:=by
 rcases h2:bM l x with _|v
 ·rfl
 rw [h2] at h;cases h
def tg{p:aY}{l:List bS}{x:aH}{n:Nat}(h:(bM l x).isSome=true):kT p n (bM l x)=if (bQ l x).kind=2∨(bQ l x).kind=5 then (if (decide ((bQ l x).kind=2) && decide (0<rm p (bQ l x).n))=decide (0<n) then 0 else 8) else 8:=by
 rw [mV h];rfl
def wD{α β:Type}(f:α -> β)(enc:β -> List aO)(l:List α)(k:Nat)(h:k<l.length):((l.take k).map f).flatMap enc++[f l[k]].flatMap enc=((l.take (k+1)).map f).flatMap enc:=by
 rw [gz h,fL,dj];rfl
def Ue(A B:List aV)(X:Nat)(p:aY)(l:List bS)(loc n:Int)(q:ir)(c8 c9:aO)(rw:List aP)(e:aS)(s:Int)(hl:l.length <= 1000000000)(hN:e.nodes <= 1000000000)(ih:∀k (h:k<e.args.length) (A:List aV) (q:ir) (rw:List aP),aU prog 103 [aF X,.agg (bo e.args[k]),an s] [X] ⟨A++⟨X,165,[aB am p.globals,aB aT p.mutexes,aB aZ p.funcs,aB bW l,aA loc,aA n,aA q.2,ap q.1,c8,c9]⟩::B,rw⟩ λt s'=>t=.agg (bo (ck l e.args[k])) /\ s'=⟨A++⟨X,165,[aB am p.globals,aB aT p.mutexes,aB aZ p.funcs,aB bW l,aA loc,aA n,aA ((cX q (cW l e.args[k]) s).2),aA (((cX q (cW l e.args[k]) s).1:Nat):Int),c8,c9]⟩::B,rw⟩):aU prog 103 [aF X,.agg (bo e),an s] [X] ⟨A++⟨X,165,[aB am p.globals,aB aT p.mutexes,aB aZ p.funcs,aB bW l,aA loc,aA n,aA q.2,ap q.1,c8,c9]⟩::B,rw⟩ λt s'=>t=.agg (bo (ck l e)) /\ s'=⟨A++⟨X,165,[aB am p.globals,aB aT p.mutexes,aB aZ p.funcs,aB bW l,aA loc,aA n,aA ((cX q (cW l e) s).2),aA (((cX q (cW l e) s).1:Nat):Int),c8,c9]⟩::B,rw⟩:=by
 have hlen:=sJ e;refine bR 53 func103 ?_;refine go 11 λb1 b2=>?_;by_cases h1:e.op=2
 ·refine aI J (bU h1) (go 9 ?_);refine aX J (bm [X] J J V call104 J (Pu (_::_::A) B X p l loc n q _ _ rw e.name s hl) dd db jp ?_);rintro _ _ ⟨rfl,rfl⟩;refine go 9 λb3=>?_;by_cases h3:(bQ l e.name).kind=1
  ·refine aI J (bU h3) (go 14 ?_);exact ⟨.inr J,_,⟨A++⟨X,165,[aB am p.globals,aB aT p.mutexes,aB aZ p.funcs,aB bW l,aA loc,aA n,aA ((cX q (fI l e.name) s).2),aA (((cX q (fI l e.name) s).1:Nat):Int),c8,c9]⟩::B,rw⟩,bK J (gP (bL.agg (.r (.r (.r (.n .nil))))) (bu [_] J J f8 dw (cH J J))),ai eZ (.refl _),by rw [yA,if_pos Y];unfold tK;rw [if_pos Y];rfl,by rw [zA,if_pos Y]⟩
  refine aG J (bO h3) (go 15 ?_);exact ⟨.inr J,_,⟨A++⟨X,165,[aB am p.globals,aB aT p.mutexes,aB aZ p.funcs,aB bW l,aA loc,aA n,aA ((cX q (fI l e.name) s).2),aA (((cX q (fI l e.name) s).1:Nat):Int),c8,c9]⟩::B,rw⟩,bK J (gP (bL.agg (.r (.r (.r (.n .nil))))) (bu [_] J J f8 dw (cH J J))),ai eZ (.refl _),by rw [yA,if_pos Y];unfold tK;rw [if_neg Y];rfl,by rw [zA,if_pos Y]⟩
 refine aG J (bO h1) (go 23 λb4=>?_);refine f_ 87 4 ?_;refine jS (α:=aN×ir) (λk g=>g.2=cX q (hP l (e.args.take k)) s) (e.args.length) 9 (λg=>aR g.1++[b4,b2,b1,X]) (λk g=>⟨⟨b4,87,[aA e.op,aA e.num,ah a_,.val g.1]⟩::⟨b2,87,[aA 0,aA 0,ah a_,aK]⟩::⟨b1,87,bo e⟩::A++⟨X,165,[aB am p.globals,aB aT p.mutexes,aB aZ p.funcs,aB bW l,aA loc,aA n,aA g.2.2,ap g.2.1,c8,c9]⟩::B,⟨g.1,87,4,k,((e.args.take k).map (ck l)).flatMap bc⟩::rw⟩) (λ_=>[(0,aF X),(2,an s),(4,aF b1),(6,aF b2),(8,aF b4)]) (.slice none 0 0,q) (by rw [mJ,hP,o8]) (bD uE) ?_;rintro k ⟨v,qq⟩ hk hvk;replace hvk:qq=cX q (hP l (e.args.take k)) s:=hvk
 try dsimp only
 refine go 7 ?_;by_cases h7:(k:Int)<(e.args.length:Int)
 ·refine aI J (c_ h7) (go 7 ?_);refine lR 12 [b4,b2,b1] [] #[true,true,true,true,true,true,true,true,true,true,true,true,false,false] aQ aQ aQ ?_;refine aa [0,1,2,3,4,5] 6 (go 7 ?_);refine ac 6 J (bf bc bo e.args g_ fv k J J J J Y V jY dw) (aa [7,8] 3 (go 3 ?_));refine aW 9 J J (bm [X] J J V tv J (ih k Y (_::_::_::A) qq (_::rw)) dd db (by intro h b hb;simp at hb;subst hb;exact gh.2 ⟨wE,λhh=>by simp only [mem_cons,not_mem_nil,or_false] at hh;rcases hh with rfl|rfl|rfl<;>simp [aJ.bl] at h⟩) ?_);rintro _ _ ⟨rfl,rfl⟩;refine aW 10 J J (bV (hf:=dc bc bo (ck l e.args[k]) (fv _) J J) o7 ?_);refine aW 11 J J (dQ [] xY J (dD bc 4 g_ _) V cN Y (N:=k+1) J (λhn b hb=>cx (r:=(⟨v,87,4,k,((e.args.take k).map (ck l)).flatMap bc⟩:aP)) hn hb) cE.h (r:=((e.args.take (k+1)).map (ck l)).flatMap bc) (wD (ck l) bc e.args k Y) λw5=>?_);refine bH ?_;refine id ?_;refine cY [(12,true),(13,false)] 0 (go 3 ?_);refine bH (go 4 ?_);refine bP J (go 2 ?_);exact ⟨Y,(w5,(cX qq (cW l e.args[k]) s)),(by rw [hvk];exact Ji l e.args k Y q s),bD (h:=ay J (cD Y) (ax J)) lB⟩
 refine aG J (cv h7) (go 10 ?_);obtain rfl:k=e.args.length:=Y;rw [hG];refine eD (cs':=[aA e.op,aA e.num,ah a_,.sl e.args.length ((e.args.map (ck l)).flatMap bc)]) [] 3 J J ?_;show cO prog _ _ ⟨_,_,⟨⟨b4,87,[aA e.op,aA e.num,ah a_,.sl e.args.length ((e.args.map (ck l)).flatMap bc)]⟩::⟨b2,87,[aA 0,aA 0,ah a_,aK]⟩::⟨b1,87,bo e⟩::A++⟨X,165,[aB am p.globals,aB aT p.mutexes,aB aZ p.funcs,aB bW l,aA loc,aA n,aA qq.2,ap qq.1,c8,c9]⟩::B,rw⟩,_⟩ _;refine go 5 ?_;exact ⟨.inr J,_,⟨A++⟨X,165,[aB am p.globals,aB aT p.mutexes,aB aZ p.funcs,aB bW l,aA loc,aA n,aA qq.2,ap qq.1,c8,c9]⟩::B,rw⟩,bK J (bu [_] J J f8 dw (cH J J)),ai eZ (.refl _),LZ,by rw [zA,if_neg Y,hvk,hG]⟩
def KU:∀(N:Nat)(e:aS),e.nodes <= N -> N <= 1000000000 -> ∀(A B:List aV)(X:Nat)(p:aY)(l:List bS)(loc n:Int)(q:ir)(c8 c9:aO)(rw:List aP)(s:Int)(hl:l.length <= 1000000000),aU prog 103 [aF X,.agg (bo e),an s] [X] ⟨A++⟨X,165,[aB am p.globals,aB aT p.mutexes,aB aZ p.funcs,aB bW l,aA loc,aA n,aA q.2,ap q.1,c8,c9]⟩::B,rw⟩ λt s'=>t=.agg (bo (ck l e)) /\ s'=⟨A++⟨X,165,[aB am p.globals,aB aT p.mutexes,aB aZ p.funcs,aB bW l,aA loc,aA n,aA ((cX q (cW l e) s).2),aA (((cX q (cW l e) s).1:Nat):Int),c8,c9]⟩::B,rw⟩
 |0,e,h,_=>rq
 |N+1,e,h,hN=>λA B X p l loc n q c8 c9 rw s hl=>Ue A B X p l loc n q c8 c9 rw e s hl Y λk hk A q rw=>KU N e.args[k] q6 Y A B X p l loc n q c8 c9 rw s hl
def xb(A B:List aV)(X:Nat)(p:aY)(l:List bS)(loc n:Int)(q:ir)(c8 c9:aO)(rw:List aP)(e:aS)(s:Int)(hl:l.length <= 1000000000)(h:e.nodes <= 1000000000):aU prog 103 [aF X,.agg (bo e),an s] [X] ⟨A++⟨X,165,[aB am p.globals,aB aT p.mutexes,aB aZ p.funcs,aB bW l,aA loc,aA n,aA q.2,ap q.1,c8,c9]⟩::B,rw⟩ λt s'=>t=.agg (bo (ck l e)) /\ s'=⟨A++⟨X,165,[aB am p.globals,aB aT p.mutexes,aB aZ p.funcs,aB bW l,aA loc,aA n,aA ((cX q (cW l e) s).2),aA (((cX q (cW l e) s).1:Nat):Int),c8,c9]⟩::B,rw⟩:=KU _ e h (bX _) A B X p l loc n q c8 c9 rw s hl
structure ox (gg gm gf gk gl:Nat) (gs ms fs lk lo:bq) (rw:List aP):Prop where
 gg:ao gg 0 bE gs∈rw
 gm:ao gm 0 bE ms∈rw
 gf:ao gf 0 bE fs∈rw
 gk:ao gk 0 bE lk∈rw
 gl:ao gl 0 bE lo∈rw
def ox.cons{gg gm gf gk gl:Nat}{gs ms fs lk lo:bq}{rw:List aP}{r:aP}(h:ox gg gm gf gk gl gs ms fs lk lo rw):ox gg gm gf gk gl gs ms fs lk lo (r::rw):=⟨by simp [h.gg],by simp [h.gm],by simp [h.gf],by simp [h.gk],by simp [h.gl]⟩
def Ta(A B:List aV)(D gg gm gf gk gl:Nat)(p:aY)(l:List bS)(gs ms fs lk lo:bq)(c5 c6 c7 c8:aO)(rw:List aP)(hM:dx gs ms fs lk lo l)(hW:ox gg gm gf gk gl gs ms fs lk lo rw)(e:aS)(hN:e.nodes <= 1000000000)(hE:cW l e=0)(ih:¬e.op=2 -> ∀k (h:k<e.args.length) (A:List aV) (rw:List aP),ox gg gm gf gk gl gs ms fs lk lo rw -> aU prog 108 [aF D,.agg (bo e.args[k])] [] ⟨A++⟨D,77,[aC gg,aC gm,aC gf,aC gl,aC gk,c5,c6,c7,c8]⟩::B,rw⟩ λt s'=>t=.agg (bo (ck l e.args[k])) /\ s'=⟨A++⟨D,77,[aC gg,aC gm,aC gf,aC gl,aC gk,c5,c6,c7,c8]⟩::B,rw⟩):aU prog 108 [aF D,.agg (bo e)] [] ⟨A++⟨D,77,[aC gg,aC gm,aC gf,aC gl,aC gk,c5,c6,c7,c8]⟩::B,rw⟩ λt s'=>t=.agg (bo (ck l e)) /\ s'=⟨A++⟨D,77,[aC gg,aC gm,aC gf,aC gl,aC gk,c5,c6,c7,c8]⟩::B,rw⟩:=by
 have hlen:=sJ e;refine bR 56 func108 ?_;refine go 11 λb1 b2=>?_;by_cases h1:e.op=2
 ·refine aI J (bU h1) (go 5 ?_);refine cB [b2,b1,D,gg,gm,gf,gk,gl] (aa [0,1,2,3,4,5] 6 (go 7 ?_));refine ac 6 J (IA lo J J J (by simp [hW.gl]) mD eE qw nC) (aa [7,8,9,10,11] 0 (go 6 ?_));refine bH (go 6 ?_);refine im J (λh3=>?_) (λh3=>?_)
  ·refine go 10 ?_;exact ⟨.inr J,_,⟨A++⟨D,77,[aC gg,aC gm,aC gf,aC gl,aC gk,c5,c6,c7,c8]⟩::B,rw⟩,bK J (gP (bL.agg (.r (.r (.r (.n .nil))))) (bu [] J J f8 dw (cH J J))),ai cq (.refl _),by rw [yA,if_pos Y,hM.aI4 h3];rfl,J⟩
  refine go 3 ?_;refine lR 8 [b2,b1,D,gg,gm,gf,gk,gl] [] #[true,true,true,true,true,true,true,true,false] aQ aQ aQ ?_;refine aa [0,1,2,3,4,5] 2 (go 7 ?_);refine ac 6 J (oV gs J J J (by simp [hW.gg]) mD eE qw nC) (aa [7] 0 (go 2 ?_));refine bH ?_;refine id ?_;refine cY [(8,false)] 0 (go 2 ?_);refine bH (go 3 ?_);exact ⟨.inr J,_,⟨A++⟨D,77,[aC gg,aC gm,aC gf,aC gl,aC gk,c5,c6,c7,c8]⟩::B,rw⟩,bK J (gP (bL.agg (.r (.r (.r (.n .nil))))) (bu [] J J f8 dw (cH J J))),ai cq (.refl _),by rw [yA,if_pos Y,hM.aI5 h3 (by rw [zA,if_pos Y] at hE;exact hE)];rfl,J⟩
 refine aG J (bO h1) (go 26 λb3=>?_);refine f_ 87 4 ?_;refine jS (α:=aN) (λ_ _=>True) (e.args.length) 42 (λg=>aR g++[b3,b2,b1]) (λk g=>⟨⟨b3,87,[aA e.op,aA e.num,ah a_,.val g]⟩::⟨b2,87,[aA 0,aA 0,ah a_,aK]⟩::⟨b1,87,bo e⟩::A++⟨D,77,[aC gg,aC gm,aC gf,aC gl,aC gk,c5,c6,c7,c8]⟩::B,⟨g,87,4,k,((e.args.take k).map (ck l)).flatMap bc⟩::rw⟩) (λ_=>[(0,aF D),(4,aF b2),(7,aF b3),(40,.c (aB bc e.args)),(41,ae e.args.length)]) (.slice none 0 0) trivial (bD uE) ?_;rintro k v hk -
 try dsimp only
 refine go 2 ?_;by_cases h5:(k:Int)<(e.args.length:Int)
 ·refine aI J (c_ h5) (go 10 ?_);refine aD J (bf bc bo e.args g_ fv k J J J J Y V jY dw) (go 5 λb4=>?_);refine lR 7 [b4,b3,b2,b1,D] [] #[true,true,true,true,true,true,true,false,false] aQ aQ aQ ?_;refine aa [0,1,2,3] 3 (go 5 ?_);refine aW 4 J J (da J J V call108 J (ih Y k Y (_::_::_::_::A) (_::rw) hW.cons) ?_);rintro _ _ ⟨rfl,rfl⟩;refine aW 5 J J (bV (hf:=dc bc bo (ck l e.args[k]) (fv _) J J) o7 ?_);refine aW 6 J J (dQ [] xY J (dD bc 4 g_ _) V cN Y (N:=k+1) J (λhn b hb=>cx (r:=(⟨v,87,4,k,((e.args.take k).map (ck l)).flatMap bc⟩:aP)) hn hb) cE.h (r:=((e.args.take (k+1)).map (ck l)).flatMap bc) (wD (ck l) bc e.args k Y) λw5=>?_);refine bH ?_;refine id ?_;refine cY [(7,true),(8,false)] 0 (go 3 ?_);refine bH (go 3 ?_);refine bP J (go 2 ?_);exact ⟨Y,w5,trivial,bD (h1:=bI) (h:=ay J (cD Y) (ax J)) lB⟩
 refine aG J (cv h5) (go 11 ?_);obtain rfl:k=e.args.length:=Y;rw [hG];refine eD (cs':=[aA e.op,aA e.num,ah a_,.sl e.args.length ((e.args.map (ck l)).flatMap bc)]) [] 3 J J ?_;show cO prog _ _ ⟨_,_,⟨⟨b3,87,[aA e.op,aA e.num,ah a_,.sl e.args.length ((e.args.map (ck l)).flatMap bc)]⟩::⟨b2,87,[aA 0,aA 0,ah a_,aK]⟩::⟨b1,87,bo e⟩::A++⟨D,77,[aC gg,aC gm,aC gf,aC gl,aC gk,c5,c6,c7,c8]⟩::B,rw⟩,_⟩ _;refine go 5 ?_;exact ⟨.inr J,_,⟨A++⟨D,77,[aC gg,aC gm,aC gf,aC gl,aC gk,c5,c6,c7,c8]⟩::B,rw⟩,bK J (bu [_] J J f8 dw (cH J J)),ai eZ (.refl _),LZ,J⟩
def wo:∀(N:Nat)(e:aS),e.nodes <= N -> N <= 1000000000 -> ∀(A B:List aV)(D gg gm gf gk gl:Nat)(p:aY)(l:List bS)(gs ms fs lk lo:bq)(c5 c6 c7 c8:aO)(rw:List aP)(hM:dx gs ms fs lk lo l)(hW:ox gg gm gf gk gl gs ms fs lk lo rw)(hE:cW l e=0),aU prog 108 [aF D,.agg (bo e)] [] ⟨A++⟨D,77,[aC gg,aC gm,aC gf,aC gl,aC gk,c5,c6,c7,c8]⟩::B,rw⟩ λt s'=>t=.agg (bo (ck l e)) /\ s'=⟨A++⟨D,77,[aC gg,aC gm,aC gf,aC gl,aC gk,c5,c6,c7,c8]⟩::B,rw⟩
 |0,e,h,_=>rq
 |N+1,e,h,hN=>λA B D gg gm gf gk gl p l gs ms fs lk lo c5 c6 c7 c8 rw hM hW hE=>by
  exact Ta A B D gg gm gf gk gl p l gs ms fs lk lo c5 c6 c7 c8 rw hM hW e Y hE λh2 k hk A rw hW=>wo N e.args[k] q6 Y A B D gg gm gf gk gl p l gs ms fs lk lo c5 c6 c7 c8 rw hM hW (IH l e.args (by rw [zA,if_neg h2] at hE;exact hE) k hk)
end
end Go.Proofs.YtjgeihmhppadaaaGreatDoor
