import Derived.Test.YtckelpefchdenaaGreatDoorG3J
import Derived.StillTailTactics
set_option linter.all false
set_option synthInstance.maxHeartbeats 1000000
set_option synthInstance.maxSize 1000000
set_option maxHeartbeats 1600000
set_option maxRecDepth 100000
namespace Go.Proofs.YtckelpefchdenaaGreatDoor
open Go.Proofs.Tryz
open List (length_append length_cons length_nil mem_append mem_cons not_mem_nil append_assoc getElem_mem take_of_length_le)
abbrev be(p:aX)(r:List aO):List aO:=aG cR p.globals::aG bB p.mutexes::aG bT p.funcs::r
section
open Go.RowKit
def m3{α:Type}(f:α -> List UInt8)(l:List α)(k:Nat)(hk:k<l.length):((l.take (k+1)).map f).flatten=((l.take k).map f).flatten++f l[k]:=by
 rw [gX hk,e1,GU];simp
def x9{α:Type}(f:α -> List UInt8):∀(l:List α)(k:Nat),(((l.take k).map f).flatten).length <= ((l.map f).flatten).length
 |[],k=>aM
 |x::l,0=>aM
 |x::l,k+1=>by have:=x9 f l k;simp only [jb,ca,jd,length_append];omega
def Xy{α:Type}(f:α -> List UInt8)(l:List α)(k:Nat)(h:k<l.length):(f l[k]).length <= ((l.map f).flatten).length:=by
 have h1:=x9 f l (k+1);rw [m3 f l k h,length_append] at h1;omega
def a_.wt(f:a_):Nat:=1+f.params.length+an f.body
def aX.wt(p:aX):Nat:=p.globals.length+p.mutexes.length+(p.funcs.map a_.wt).sum
def qX{α:Type}(f:α -> Nat):∀(l:List α)(k:Nat)(h:k<l.length),f l[k] <= (l.map f).sum
 |x::l,0,_=>aM
 |x::l,k+1,h=>by have:=qX f l k iX;simp only [ca,mh,JF];omega
def po{α:Type}(f:α -> Nat)(hf:∀x,1 <= f x):∀(l:List α),l.length <= (l.map f).sum
 |[]=>aM
 |x::l=>by have:=po f hf l;have:=hf x;simp only [ca,mh,length_cons];omega
def kO(p:aX):Bool:=decide (p.globals.length <= 16 /\ p.mutexes.length <= 12 /\ p.funcs.length <= 16) && p.globals.all lL && p.mutexes.all iu && p.funcs.all gh
def xQ(p:aX):gw p=(kO p && (gj (iJ p)).isOk):=rfl
def Eu{p:aX}(h:kO p=true):∀f,f∈p.funcs -> dG 0 f.body=true /\ f.params.length <= 6:=by
 intro f hf;unfold kO at h;simp only [dm] at h;have h2:=fC.1 h.2 f hf;unfold gh at h2;simp only [dm,decide_eq_true_eq] at h2;exact ⟨h2.1.2,h2.1.1.2⟩
def Ib(f:a_):funcText f=[102,117,110,99,32]++f.name.data.toList++[40]++dM ed f.params++[41,32,123,10]++bS [9] f.body++[125,10]:=rfl
def JM{x:bg}(h:x.mutex=true):ed x=[109,117,116,101,120,32]++x.name.data.toList:=by unfold ed;rw [if_pos h]
def E5{x:bg}(h:x.mutex=false):ed x=x.name.data.toList:=by unfold ed;rw [if_neg nx];rfl
def Dn{z:Int}(h:fit z):(fW z).length <= 21:=by
 unfold fW;have:=z8 z.natAbs (by unfold fit at h;omega);split<;>simp<;>omega
def ZE(p:aX)(hv:kO p=true)(hs:p.bt)(hw:p.wt <= 900000000)(hL:(iJ p).length <= 1000000000000000)(s:aH):aT prog 47 [.agg (di p)] [] s λt s'=>t=cK (bytes (iJ p)) /\ s'=s:=by
 obtain ⟨bx,rw⟩:=s;have hL1:=hL;unfold iJ at hL1;simp only [length_append] at hL1;unfold aX.wt at hw;have hfn:=po a_.wt (λx=>q_) p.funcs;refine bM 131 func47 ?_;refine go 18 λb1=>?_;refine m9 (p.globals.length) 4 (λk=>[(3,cK (bytes (((p.globals.take (k)).map cT).flatten))),(1,aE b1)]) (ao J) λk hk=>?_;show bi prog _ ⟨131,_,_,(4,ab k)::[(3,cK (bytes (((p.globals.take (k)).map cT).flatten))),(1,aE b1)]⟩ _;have hcm:=x9 cT p.globals k;refine go 7 ?_;by_cases h1:(k:Int)<(p.globals.length:Int)
 ·refine aJ J (cw h1) (go 9 ?_);have hkl:k<p.globals.length:=Y;have hgs:=hs.globals _ (getElem_mem hkl);have hnm:p.globals[k].name.data.toList.length <= 4611686018427387904:=hgs.2;have hnl:=Dn hgs.1;refine go 1 ?_;refine aC J (ee (((p.globals.take (k)).map cT).flatten) [118,97,114,32] J J J J J) (go 3 ?_);refine aC J (bX cR cR p.globals nt (λ_=>J) k J J J J Y V mp jU) (go 2 ?_);refine aC J (ee ((((p.globals.take (k)).map cT).flatten)++[118,97,114,32]) p.globals[k].name.data.toList J J J J (back _)) (go 9 ?_);refine aC J (bX cR cR p.globals nt (λ_=>J) k J J J J Y V mp jU) (go 2 ?_);by_cases h3:p.globals[k].init=0
  ·refine aF J (eG h3) (go 7 ?_);refine aC J (ee (((((p.globals.take (k)).map cT).flatten)++[118,97,114,32])++p.globals[k].name.data.toList) [59,10] J J J J J) (go 6 ?_);refine bK J (go 2 ?_);exact ⟨Y,(av J (b_ Y) (av J (fj (by rw [m3 cT _ k Y];unfold cT;rw [if_pos h3];simp only [append_assoc,eY,ck,eE])) (ao J)))⟩
  refine aJ J (gG h3) (go 5 ?_);refine aC J (ee (((((p.globals.take (k)).map cT).flatten)++[118,97,114,32])++p.globals[k].name.data.toList) [32,61,32] J J J J J) (go 3 ?_);refine aC J (bX cR cR p.globals nt (λ_=>J) k J J J J Y V mp jU) (go 2 ?_);refine cf J call78 J (B5 p.globals[k].init hgs.1 _) ?_;rintro _ _ ⟨rfl,rfl⟩;refine aC J (ee ((((((p.globals.take (k)).map cT).flatten)++[118,97,114,32])++p.globals[k].name.data.toList)++[32,61,32]) (fW p.globals[k].init) J J J J J) (go 5 ?_);refine aC J (ee (((((((p.globals.take (k)).map cT).flatten)++[118,97,114,32])++p.globals[k].name.data.toList)++[32,61,32])++(fW p.globals[k].init)) [59,10] J J J J J) (go 6 ?_);refine bK J (go 2 ?_);exact ⟨Y,(av J (b_ Y) (av J (fj (by rw [m3 cT _ k Y];unfold cT;rw [if_neg h3];simp only [append_assoc,eY,ck,eE])) (ao J)))⟩
 refine aF J (ct h1) (go 11 ?_);obtain rfl:k=p.globals.length:=Y;rw [take_of_length_le (bY _)];refine go 4 ?_;refine m9 (p.mutexes.length) 5 (λi=>[(3,cK (bytes (((p.globals.map cT).flatten)++((p.mutexes.take (i)).map ci).flatten))),(1,aE b1)]) (av J (.refl _) (av J (fj aM) (ao J))) λi hi=>?_;show bi prog _ ⟨131,_,_,(5,ab i)::[(3,cK (bytes (((p.globals.map cT).flatten)++((p.mutexes.take (i)).map ci).flatten))),(1,aE b1)]⟩ _;have hcm:=x9 ci p.mutexes i;refine go 7 ?_;by_cases h8:(i:Int)<(p.mutexes.length:Int)
 ·refine aJ J (cw h8) (go 9 ?_);have hil:i<p.mutexes.length:=Y;have hms:=hs.mutexes _ (getElem_mem hil);have hnm:p.mutexes[i].name.data.toList.length <= 4611686018427387904:=hms.2;have hnl:=Dn hms.1;refine go 3 ?_;refine aC J (bX bB bB p.mutexes lC (λ_=>J) i J J J J Y V j6 fp) (go 9 λb2=>?_);rcases bz (p.mutexes[i].ex) with h10|h10
  ·refine aC J (cP (bH h10) (cW [] dJ dI)) (go 5 ?_);refine aC J (ee (((p.globals.map cT).flatten)++((p.mutexes.take (i)).map ci).flatten) [114] J J J J J) (go 6 ?_);refine aC J (ee ((((p.globals.map cT).flatten)++((p.mutexes.take (i)).map ci).flatten)++[114]) [109,117,116,101,120,32] J J J J J) (go 2 ?_);refine aC J (ee (((((p.globals.map cT).flatten)++((p.mutexes.take (i)).map ci).flatten)++[114])++[109,117,116,101,120,32]) p.mutexes[i].name.data.toList J J J J (back _)) (go 8 ?_);by_cases h12:(0:Int)<p.mutexes[i].size
   ·refine aJ J (fF h12) (go 5 ?_);refine aC J (ee ((((((p.globals.map cT).flatten)++((p.mutexes.take (i)).map ci).flatten)++[114])++[109,117,116,101,120,32])++p.mutexes[i].name.data.toList) [91] J J J J J) (go 2 ?_);refine cf J call78 J (B5 p.mutexes[i].size hms.1 _) ?_;rintro _ _ ⟨rfl,rfl⟩;refine aC J (ee (((((((p.globals.map cT).flatten)++((p.mutexes.take (i)).map ci).flatten)++[114])++[109,117,116,101,120,32])++p.mutexes[i].name.data.toList)++[91]) (fW p.mutexes[i].size) J J J J J) ?_;refine aC J (ee ((((((((p.globals.map cT).flatten)++((p.mutexes.take (i)).map ci).flatten)++[114])++[109,117,116,101,120,32])++p.mutexes[i].name.data.toList)++[91])++(fW p.mutexes[i].size)) [93] J J J J J) (go 5 ?_);refine aC J (ee (((((((((p.globals.map cT).flatten)++((p.mutexes.take (i)).map ci).flatten)++[114])++[109,117,116,101,120,32])++p.mutexes[i].name.data.toList)++[91])++(fW p.mutexes[i].size))++[93]) [59,10] J J J J J) (go 6 ?_);refine bK J (go 2 ?_);exact ⟨Y,az (h1:=bG) (h:=av J (b_ Y) (av J (fj (by rw [m3 ci _ i Y];unfold ci;rw [if_pos h10,if_pos h12];simp only [append_assoc,eY,ck,eE])) (ao J))) (λb hb=>d_ _ (hb))⟩
   refine aF J (fE h12) (go 7 ?_);refine aC J (ee ((((((p.globals.map cT).flatten)++((p.mutexes.take (i)).map ci).flatten)++[114])++[109,117,116,101,120,32])++p.mutexes[i].name.data.toList) [59,10] J J J J J) (go 6 ?_);refine bK J (go 2 ?_);exact ⟨Y,az (h1:=bG) (h:=av J (b_ Y) (av J (fj (by rw [m3 ci _ i Y];unfold ci;rw [if_pos h10,if_neg h12];simp only [append_assoc,eY,ck,eE])) (ao J))) (λb hb=>d_ _ (hb))⟩
  refine aC J (cP (bH h10) (cW [] dJ dI)) (go 8 ?_);refine aC J (ee (((p.globals.map cT).flatten)++((p.mutexes.take (i)).map ci).flatten) [109,117,116,101,120,32] J J J J J) (go 2 ?_);refine aC J (ee ((((p.globals.map cT).flatten)++((p.mutexes.take (i)).map ci).flatten)++[109,117,116,101,120,32]) p.mutexes[i].name.data.toList J J J J (back _)) (go 8 ?_);by_cases wd:(0:Int)<p.mutexes[i].size
  ·refine aJ J (fF wd) (go 5 ?_);refine aC J (ee (((((p.globals.map cT).flatten)++((p.mutexes.take (i)).map ci).flatten)++[109,117,116,101,120,32])++p.mutexes[i].name.data.toList) [91] J J J J J) (go 2 ?_);refine cf J call78 J (B5 p.mutexes[i].size hms.1 _) ?_;rintro _ _ ⟨rfl,rfl⟩;refine aC J (ee ((((((p.globals.map cT).flatten)++((p.mutexes.take (i)).map ci).flatten)++[109,117,116,101,120,32])++p.mutexes[i].name.data.toList)++[91]) (fW p.mutexes[i].size) J J J J J) ?_;refine aC J (ee (((((((p.globals.map cT).flatten)++((p.mutexes.take (i)).map ci).flatten)++[109,117,116,101,120,32])++p.mutexes[i].name.data.toList)++[91])++(fW p.mutexes[i].size)) [93] J J J J J) (go 5 ?_);refine aC J (ee ((((((((p.globals.map cT).flatten)++((p.mutexes.take (i)).map ci).flatten)++[109,117,116,101,120,32])++p.mutexes[i].name.data.toList)++[91])++(fW p.mutexes[i].size))++[93]) [59,10] J J J J J) (go 6 ?_);refine bK J (go 2 ?_);exact ⟨Y,az (h1:=bG) (h:=av J (b_ Y) (av J (fj (by rw [m3 ci _ i Y];unfold ci;rw [if_neg (by rw [h10];decide),if_pos wd];simp only [append_assoc,eY,ck,eE])) (ao J))) (λb hb=>d_ _ (hb))⟩
  refine aF J (fE wd) (go 7 ?_);refine aC J (ee (((((p.globals.map cT).flatten)++((p.mutexes.take (i)).map ci).flatten)++[109,117,116,101,120,32])++p.mutexes[i].name.data.toList) [59,10] J J J J J) (go 6 ?_);refine bK J (go 2 ?_);exact ⟨Y,az (h1:=bG) (h:=av J (b_ Y) (av J (fj (by rw [m3 ci _ i Y];unfold ci;rw [if_neg (by rw [h10];decide),if_neg wd];simp only [append_assoc,eY,ck,eE])) (ao J))) (λb hb=>d_ _ (hb))⟩
 refine aF J (ct h8) (go 11 ?_);obtain rfl:i=p.mutexes.length:=Y;rw [take_of_length_le (bY _)];refine go 4 ?_;refine m9 (p.funcs.length) 7 (λf=>[(3,cK (bytes (((p.globals.map cT).flatten)++((p.mutexes.map ci).flatten)++((p.funcs.take (f)).map funcText).flatten))),(1,aE b1)]) (av J (.refl _) (av J (fj aM) (ao J))) λf hf=>?_;show bi prog _ ⟨131,_,_,(7,ab f)::[(3,cK (bytes (((p.globals.map cT).flatten)++((p.mutexes.map ci).flatten)++((p.funcs.take (f)).map funcText).flatten))),(1,aE b1)]⟩ _;have hcm:=x9 funcText p.funcs f;refine go 7 ?_;by_cases h22:(f:Int)<(p.funcs.length:Int)
 ·refine aJ J (cw h22) (go 9 ?_);have hfl:f<p.funcs.length:=Y;have hfs:=hs.funcs _ (getElem_mem hfl);have hnm:p.funcs[f].name.data.toList.length <= 4611686018427387904:=hfs.1;have hfi:=Xy funcText p.funcs f hfl;have hfi2:=hfi;rw [Ib p.funcs[f]] at hfi2;simp only [length_append] at hfi2;have hfw:=qX a_.wt p.funcs f hfl;rw [show a_.wt p.funcs[f]=1+p.funcs[f].params.length+an p.funcs[f].body from rfl] at hfw;have hfb:=Eu hv _ (getElem_mem hfl);refine go 3 ?_;refine aC J (bX bT bT p.funcs mY (λ_=>J) f J J J J Y V fu du) (go 8 λb3=>?_);refine aC J (ee (((p.globals.map cT).flatten)++((p.mutexes.map ci).flatten)++((p.funcs.take (f)).map funcText).flatten) [102,117,110,99,32] J J J J J) (go 2 ?_);refine aC J (ee ((((p.globals.map cT).flatten)++((p.mutexes.map ci).flatten)++((p.funcs.take (f)).map funcText).flatten)++[102,117,110,99,32]) p.funcs[f].name.data.toList J J J J (back _)) ?_;refine aC J (ee (((((p.globals.map cT).flatten)++((p.mutexes.map ci).flatten)++((p.funcs.take (f)).map funcText).flatten)++[102,117,110,99,32])++p.funcs[f].name.data.toList) [40] J J J J J) (go 10 ?_);refine m9 (p.funcs[f].params.length) 9 (λj=>[(3,cK (bytes ((((p.globals.map cT).flatten)++((p.mutexes.map ci).flatten)++((p.funcs.take (f)).map funcText).flatten)++[102,117,110,99,32]++p.funcs[f].name.data.toList++[40]++dM ed (p.funcs[f].params.take (j))))),(1,aE b1),(7,ab f),(8,aE b3)]) (av J (.refl _) (av J (fj wu) (ao J))) λj hj=>?_;show bi prog _ ⟨131,_,_,(9,ab j)::[(3,cK (bytes ((((p.globals.map cT).flatten)++((p.mutexes.map ci).flatten)++((p.funcs.take (f)).map funcText).flatten)++[102,117,110,99,32]++p.funcs[f].name.data.toList++[40]++dM ed (p.funcs[f].params.take (j))))),(1,aE b1),(7,ab f),(8,aE b3)]⟩ _;have hcj:=F1 ed p.funcs[f].params j;refine go 7 ?_;by_cases D0:(j:Int)<((p.funcs[f].params.length:Nat):Int)
  ·refine aJ J (cw D0) (go 10 ?_);have hjl:j<p.funcs[f].params.length:=Y;have hpn:p.funcs[f].params[j].name.data.toList.length <= 4611686018427387904:=hfs.2.1 _ (getElem_mem hjl);refine go 1 ?_;by_cases ws:(0:Int)<(j:Int)
   ·refine aJ J (fF ws) (go 5 ?_);refine aC J (ee ((((p.globals.map cT).flatten)++((p.mutexes.map ci).flatten)++((p.funcs.take (f)).map funcText).flatten)++[102,117,110,99,32]++p.funcs[f].name.data.toList++[40]++dM ed (p.funcs[f].params.take (j))) [44,32] J J J J J) (go 9 ?_);refine aC J (bX cE cE p.funcs[f].params iQ (λ_=>J) j J J J J Y V iK ga) (go 1 ?_);rcases bz (p.funcs[f].params[j].mutex) with RT|RT
    ·refine aC J (cP (bH RT) (kh J J dJ dI J)) (go 5 ?_);refine aC J (ee (((((p.globals.map cT).flatten)++((p.mutexes.map ci).flatten)++((p.funcs.take (f)).map funcText).flatten)++[102,117,110,99,32]++p.funcs[f].name.data.toList++[40]++dM ed (p.funcs[f].params.take (j)))++[44,32]) [109,117,116,101,120,32] J J J J J) (go 8 ?_);refine aC J (bX cE cE p.funcs[f].params iQ (λ_=>J) j J J J J Y V iK ga) (go 2 ?_);refine aC J (ee ((((((p.globals.map cT).flatten)++((p.mutexes.map ci).flatten)++((p.funcs.take (f)).map funcText).flatten)++[102,117,110,99,32]++p.funcs[f].name.data.toList++[40]++dM ed (p.funcs[f].params.take (j)))++[44,32])++[109,117,116,101,120,32]) p.funcs[f].params[j].name.data.toList J J J J (back _)) (go 6 ?_);refine bK J (go 2 ?_);exact ⟨Y,(av J (b_ Y) (av J (fj (by rw [sE ed _ j Y,if_neg Y,JM RT];simp only [append_assoc,eY,ck,eE])) (ao J)))⟩
    refine aC J (cP (bH RT) (kh J J dJ dI J)) (go 10 ?_);refine aC J (bX cE cE p.funcs[f].params iQ (λ_=>J) j J J J J Y V iK ga) (go 2 ?_);refine aC J (ee (((((p.globals.map cT).flatten)++((p.mutexes.map ci).flatten)++((p.funcs.take (f)).map funcText).flatten)++[102,117,110,99,32]++p.funcs[f].name.data.toList++[40]++dM ed (p.funcs[f].params.take (j)))++[44,32]) p.funcs[f].params[j].name.data.toList J J J J (back _)) (go 6 ?_);refine bK J (go 2 ?_);exact ⟨Y,(av J (b_ Y) (av J (fj (by rw [sE ed _ j Y,if_neg Y,E5 RT];simp only [append_assoc,eY,ck,eE])) (ao J)))⟩
   refine aF J (fE ws) (go 11 ?_);refine aC J (bX cE cE p.funcs[f].params iQ (λ_=>J) j J J J J Y V iK ga) (go 1 ?_);rcases bz (p.funcs[f].params[j].mutex) with h32|h32
   ·refine aC J (cP (bH h32) (kh J J dJ dI J)) (go 5 ?_);refine aC J (ee ((((p.globals.map cT).flatten)++((p.mutexes.map ci).flatten)++((p.funcs.take (f)).map funcText).flatten)++[102,117,110,99,32]++p.funcs[f].name.data.toList++[40]++dM ed (p.funcs[f].params.take (j))) [109,117,116,101,120,32] J J J J J) (go 8 ?_);refine aC J (bX cE cE p.funcs[f].params iQ (λ_=>J) j J J J J Y V iK ga) (go 2 ?_);refine aC J (ee (((((p.globals.map cT).flatten)++((p.mutexes.map ci).flatten)++((p.funcs.take (f)).map funcText).flatten)++[102,117,110,99,32]++p.funcs[f].name.data.toList++[40]++dM ed (p.funcs[f].params.take (j)))++[109,117,116,101,120,32]) p.funcs[f].params[j].name.data.toList J J J J (back _)) (go 6 ?_);refine bK J (go 2 ?_);exact ⟨Y,(av J (b_ Y) (av J (fj (by rw [sE ed _ j Y,if_pos Y,JM h32];simp only [append_assoc,eY,ck,eE])) (ao J)))⟩
   refine aC J (cP (bH h32) (kh J J dJ dI J)) (go 10 ?_);refine aC J (bX cE cE p.funcs[f].params iQ (λ_=>J) j J J J J Y V iK ga) (go 2 ?_);refine aC J (ee ((((p.globals.map cT).flatten)++((p.mutexes.map ci).flatten)++((p.funcs.take (f)).map funcText).flatten)++[102,117,110,99,32]++p.funcs[f].name.data.toList++[40]++dM ed (p.funcs[f].params.take (j))) p.funcs[f].params[j].name.data.toList J J J J (back _)) (go 6 ?_);refine bK J (go 2 ?_);exact ⟨Y,(av J (b_ Y) (av J (fj (by rw [sE ed _ j Y,if_pos Y,E5 h32];simp only [append_assoc,eY,ck,eE])) (ao J)))⟩
  refine aF J (ct D0) (go 9 ?_);obtain rfl:j=p.funcs[f].params.length:=Y;rw [take_of_length_le (bY _)];refine go 1 ?_;refine aC J (ee ((((p.globals.map cT).flatten)++((p.mutexes.map ci).flatten)++((p.funcs.take (f)).map funcText).flatten)++[102,117,110,99,32]++p.funcs[f].name.data.toList++[40]++dM ed p.funcs[f].params) [41,32,123,10] J J J J J) (go 2 ?_);refine cf J call79 J (IL _ 0 p.funcs[f].body [9] (bY _) Y hfb.1 hfs.2.2 V Y _) ?_;rintro _ _ ⟨rfl,rfl⟩;refine aC J (ee (((((p.globals.map cT).flatten)++((p.mutexes.map ci).flatten)++((p.funcs.take (f)).map funcText).flatten)++[102,117,110,99,32]++p.funcs[f].name.data.toList++[40]++dM ed p.funcs[f].params)++[41,32,123,10]) (bS [9] p.funcs[f].body) J J J J J) ?_;refine aC J (ee ((((((p.globals.map cT).flatten)++((p.mutexes.map ci).flatten)++((p.funcs.take (f)).map funcText).flatten)++[102,117,110,99,32]++p.funcs[f].name.data.toList++[40]++dM ed p.funcs[f].params)++[41,32,123,10])++(bS [9] p.funcs[f].body)) [125,10] J J J J J) (go 6 ?_);refine bK J (go 2 ?_);exact ⟨Y,az (h1:=bG) (h:=av J (b_ Y) (av J (fj (by rw [m3 funcText _ f Y];unfold funcText;simp only [append_assoc,eY,ck,eE])) (ao J))) (λb hb=>d_ _ (hb))⟩
 refine aF J (ct h22) (go 10 ?_);obtain rfl:f=p.funcs.length:=Y;rw [take_of_length_le (bY _)];refine go 5 ?_;exact bF bx rw J cU ⟨mc J,J⟩
end
section
def mr(l:List bP)(x:bP)(s:aI):bL (l++[x]) s=match bL l s with|some v=>some v|none=>if x.name=s then some x else none:=by
 induction l with
 |nil=>rfl
 |cons y l ih=>
  rw [eE,bL,bL];by_cases h:y.name=s
  ·rw [if_pos h,if_pos h]
  rw [if_neg h,if_neg h,ih]
def qE.app{p:aX}{l:List bP}(h:qE p l){x:bP}(h2:x.kind≠2)(h3:x.kind≠3):qE p (l++[x]):=by
 refine ⟨λs v hv hk=>?_,λs v hv hk=>?_⟩
 ·rw [mr] at hv;split at hv
  ·rename_i hf;cases hv;exact h.ms s _ hf hk
  split at hv
  ·cases hv;exact absurd hk h2
  cases hv
 rw [mr] at hv;split at hv
 ·rename_i hf;cases hv;exact h.fs s _ hf hk
 split at hv
 ·cases hv;exact absurd hk h3
 cases hv
structure dx (p:aX) (x:ai) (w:Nat):Prop where
 aq:qE p x.aq
 code:x.code.length+3*w <= 100000000
 sites:x.sites.length=x.code.length
 n:x.n+w <= 100000000
 loc:x.locals+w <= 100000000
 el:x.aq.length+w <= 100000000
section
variable {p:aX}{x:ai}{w:Nat}
def dx.mono{w':Nat}(h:dx p x w)(hw:w' <= w):dx p x w':=⟨h.aq,by have:=h.code;omega,h.sites,by have:=h.n;omega,by have:=h.loc;omega,by have:=h.el;omega⟩
def dx.dg(h:dx p x (w+1))(e:Nat):dx p (x.dg e) w /\ (x.dg e).code.length+3+3*w <= 100000000:=by
 have h1:=h.code;exact ⟨⟨h.aq,by show x.code.length+3*w <= _;omega,h.sites,by have:=h.n;show x.n+1+w <= _;omega,by have:=h.loc;show x.locals+w <= _;omega,by have:=h.el;show x.aq.length+w <= _;omega⟩,by show x.code.length+3+3*w <= _;omega⟩
def dx.put(h:dx p x w)(hc:x.code.length+1+3*w <= 100000000)(i:jD)(s:Nat):dx p (x.put i s) w:=
 ⟨h.aq,by show (x.code++[i]).length+_ <= _;rw [length_append];simp only [length_cons,length_nil];omega,by show (x.sites++[(s:Int)]).length=(x.code++[i]).length;rw [length_append,length_append,h.sites];rfl,h.n,h.loc,h.el⟩
def mJ(i:jD)(s:Nat):(x.put i s).code.length=x.code.length+1:=by show (x.code++[i]).length=_;rw [length_append];rfl
def kg(b:Nat):(x.patch b).code.length=x.code.length:=by show (x.code.modify b _).length=_;rw [List.length_modify]
def dx.patch(h:dx p x w)(b:Nat):dx p (x.patch b) w:=⟨h.aq,by rw [kg];exact h.code,by rw [kg];exact h.sites,h.n,h.loc,h.el⟩
def dx.back{y:ai}(h:dx p x w)(hy:dx p y w):dx p (x.back y) w:=⟨h.aq,hy.code,hy.sites,hy.n,hy.loc,h.el⟩
def dx.branch(h:dx p x (w+1))(e:aS):dx p (x.branch e) w /\ (x.branch e).code.length+2+3*w <= 100000000:=by
 obtain ⟨h1,h2⟩:=h.dg (cV x.aq e);refine ⟨h1.put Y _ _,?_⟩;unfold ai.branch;rw [mJ];omega
def Ud(s:aD)(h:dx p x (w+1)):dx p (im p s x) w:=by
 have hb:∀e i n,dx p ((x.dg e).put i n) w:=λe i n=>(h.dg e).1.put (by have:=(h.dg e).2;omega) i n;unfold im;split
 ·have h1:=hb (dP (fU x.aq s.name) (cV x.aq s.expr)) ⟨1,x.locals,false,cd x.aq s.expr,dL,[],[]⟩ x.n;have h2:=h.loc;have h3:=h.el;exact ⟨h1.aq.app Ep yd,h1.code,h1.sites,h1.n,by show x.locals+1+w <= _;omega,by show (x.aq++[_]).length+w <= _;rw [length_append];simp only [length_cons,length_nil];omega⟩
 split
 ·exact hb _ _ _
 split
 ·exact hb _ _ _
 split
 ·exact hb _ _ _
 split<;>exact hb _ _ _
end
mutual
def SC(p:aX):∀(s:aD)(x:ai)(w:Nat),dx p x (s.wt+w) -> dx p (cy p s x) w
 |.mk k name e r args t f,x,w,h=>by
  rw [aD.wt] at h;have hs:dx p x (w+1):=h.mono Y;rw [cy];split
  ·obtain ⟨b1,b2⟩:=(h.mono Y:dx p x ((an t+(an f+w))+1)).branch e;have t1:=sa p t (x.branch e) (an f+w) b1;have cC:dx p ((x.branch e).back (cM p t (x.branch e))) (an f+w):=(b1.mono Y).back t1;have t3:=tR p t (x.branch e);split
   ·exact (cC.mono Y).patch _
   have t4:dx p (((x.branch e).back (cM p t (x.branch e))).put (bm 7 .zero) x.n) (an f+w):=cC.put Jm _ _;have t5:=sa p f _ w (t4.patch x.code.length);exact (hs.mono Y|>.back t5).patch _
  split
  ·obtain ⟨b1,b2⟩:=(h.mono Y:dx p x ((an t+w)+1)).branch e;have t1:=sa p t (x.branch e) w b1;have cC:dx p ((x.branch e).back (cM p t (x.branch e))) w:=(b1.mono Y).back t1;have t3:=tR p t (x.branch e);exact (cC.put Jm _ _).patch _
  exact Ud _ hs
def sa(p:aX):∀(l:List aD)(x:ai)(w:Nat),dx p x (an l+w) -> dx p (cM p l x) w
 |[],x,w,h=>by rw [cM];rw [an] at h;exact h.mono Y
 |s::l,x,w,h=>by
  rw [an] at h;rw [cM];exact sa p l _ w (SC p s x (an l+w) (h.mono Y))
def Ws(p:aX):∀(s:aD)(x:ai),(cy p s x).code.length <= x.code.length+3*s.wt
 |.mk k name e r args t f,x=>by
  have t1:=tR p t (x.branch e);have ae:(x.branch e).code.length=x.code.length+1:=mJ _ _;rw [cy,aD.wt];split
  ·split
   ·rw [kg];show (cM p t (x.branch e)).code.length <= _;omega
   rw [kg];have cC:=tR p f ((((x.branch e).back (cM p t (x.branch e))).put (bm 7 .zero) x.n).patch x.code.length);rw [kg,mJ] at cC;have t3:((x.branch e).back (cM p t (x.branch e))).code.length=(cM p t (x.branch e)).code.length:=J;show (cM p f _).code.length <= _;omega
  split
  ·rw [kg,mJ];show (cM p t (x.branch e)).code.length+1 <= _;omega
  have hb:∀(y:ai) i n,y.code=x.code -> (y.put i n).code.length <= x.code.length+3*(1+e.nodes+r.wt+dQ args+an t+an f):=λy i n hy=>by rw [mJ,hy];omega
  unfold im;split
  ·exact hb (x.dg (dP (fU x.aq name) (cV x.aq e))) ⟨1,x.locals,false,cd x.aq e,dL,[],[]⟩ x.n J
  split
  ·exact hb _ _ _ J
  split
  ·exact hb _ _ _ J
  split
  ·exact hb _ _ _ J
  split<;>exact hb _ _ _ rfl
def tR(p:aX):∀(l:List aD)(x:ai),(cM p l x).code.length <= x.code.length+3*an l
 |[],x=>by rw [cM];omega
 |s::l,x=>by
  have h1:=Ws p s x;have h2:=tR p l (cy p s x);rw [cM,an];omega
end
mutual
def T3(p:aX):∀(s:aD)(x:ai),x.code.length <= (cy p s x).code.length
 |.mk k name e r args t f,x=>by
  have t1:=uN p t (x.branch e);have ae:(x.branch e).code.length=x.code.length+1:=mJ _ _;rw [cy];split
  ·split
   ·rw [kg];show _ <= (cM p t (x.branch e)).code.length;omega
   rw [kg];have cC:=uN p f ((((x.branch e).back (cM p t (x.branch e))).put (bm 7 .zero) x.n).patch x.code.length);rw [kg,mJ] at cC;have t3:((x.branch e).back (cM p t (x.branch e))).code.length=(cM p t (x.branch e)).code.length:=J;show _ <= (cM p f _).code.length;omega
  split
  ·rw [kg,mJ];show _ <= (cM p t (x.branch e)).code.length+1;omega
  have hb:∀(y:ai) i n,y.code=x.code -> x.code.length <= (y.put i n).code.length:=λy i n hy=>by rw [mJ,hy];omega
  unfold im;split
  ·exact hb (x.dg (dP (fU x.aq name) (cV x.aq e))) ⟨1,x.locals,false,cd x.aq e,dL,[],[]⟩ x.n J
  split
  ·exact hb _ _ _ J
  split
  ·exact hb _ _ _ J
  split
  ·exact hb _ _ _ J
  split<;>exact hb _ _ _ rfl
def uN(p:aX):∀(l:List aD)(x:ai),x.code.length <= (cM p l x).code.length
 |[],x=>by rw [cM];omega
 |s::l,x=>by
  have h1:=T3 p s x;have h2:=uN p l (cy p s x);rw [cM];omega
end
def zD{c:List jD}{b t:Nat}(hb:b<c.length):splice (c.flatMap encI) (0+b*12+1) [am t]=(c.modify b (λi=>i.to t)).flatMap encI:=by
 have h0:c.flatMap encI=(c.take b).flatMap encI++(encI c[b]++(c.drop (b+1)).flatMap encI):=by
  conv=>lhs;rw [←ov b c,ii hb]
  rw [dh,eZ]
 have h2:((c.take b).flatMap encI).length=b*12:=by rw [dF encI 12 lh,kU,tJ Y]
 have h3:(c.modify b (λi=>i.to t)).flatMap encI=(c.take b).flatMap encI++(encI (c[b].to t)++(c.drop (b+1)).flatMap encI):=by
  rw [List.modify_eq_take_cons_drop hb,dh,eZ]
 rw [h3,h0,cq];have hd:List.drop (((c.take b).flatMap encI).length+2) ((c.take b).flatMap encI)=[]:=sY Y;unfold splice;rw [←h2,DJ,take_of_length_le Y,uQ,yg];rw [show ((c.take b).flatMap encI).length+1+[aO.val (.int .i64 (t:Int))].length=((c.take b).flatMap encI).length+2 from rfl,hd,uQ,ck,append_assoc,append_assoc]
 rfl
def yU(p:aX)(l:List aD)(x:ai)(w:Nat)(h:dx p x (an l+w)):dx p (aP p l x) w:=(h.mono Y:dx p x w).back (sa p l x w h)
end
section
open Go.RowKit
open Go.ChangeMaps (setBlock)
def wid(m:Nat):Nat:=if m=0 then 1 else m
def uh{α:Type}(ev:α -> List aO)(l:List (ByteArray×α)):List aO:=l.flatMap λp=>ac p.1::ev p.2
abbrev ak{α:Type}(g m:Nat)(ev:α -> List aO)(l:List (ByteArray×α)):aQ:=⟨zG g,m,0,l.length,uh ev l⟩
def dY{α:Type}:List (ByteArray×α) -> ByteArray -> Option α
 |[],_=>none
 |p::l,k=>if p.1=k then some p.2 else dY l k
def dE{α:Type}:List (ByteArray×α) -> ByteArray -> α -> List (ByteArray×α)
 |[],k,a=>[(k,a)]
 |p::l,k,a=>if p.1=k then (k,a)::l else p::dE l k a
def eb{α:Type}:List (ByteArray×α) -> ByteArray -> List (ByteArray×α)
 |[],_=>[]
 |p::l,k=>if p.1=k then l else p::eb l k
inductive ir {α:Type} (w:World) (m:Nat) (ev:α -> List aO):List MapEntry -> List (ByteArray×α) -> Prop
 |nil:ir w m ev [] []
 |cons {e:MapEntry} {k:ByteArray} {a:α} {L:List MapEntry} {l:List (ByteArray×α)} (hk:e.key=.string k) (hv:dA w (ev a) e.val.cells.toList) (hm:qU m e) (t:ir w m ev L l):ir w m ev (e::L) ((k,a)::l)
section
variable {α:Type}{w:World}{m:Nat}{ev:α -> List aO}
theorem qU.wid{e:MapEntry}(h:qU m e):e.val.cells.toList.length=wid m:=by
 obtain ⟨-,h⟩:=h;unfold Go.Proofs.YtckelpefchdenaaGreatDoor.wid;split at h
 ·rename_i h0;rw [if_pos h0];cases hv:e.val<;>rw [hv] at h<;>first|rfl|cases h
 rename_i h0;rw [if_neg h0];obtain ⟨us,ae,e2⟩:=h;rw [ae];simpa [Value.cells] using e2
theorem ir.len{L:List MapEntry}{l:List (aI×α)}(h:ir w m ev L l):L.length=l.length:=by
 induction h with
 |nil=>rfl
 |cons _ _ _ _ ih=>simp [ih]
theorem ir.ok{L:List MapEntry}{l:List (aI×α)}(h:ir w m ev L l):∀e,e∈L -> qU m e:=by
 induction h with
 |nil=>intro e h;cases h
 |cons _ _ hm _ ih=>intro e h;rcases mem_cons.1 h with rfl|h;exact hm;exact ih e h
theorem ir.rep{L:List MapEntry}{l:List (aI×α)}(h:ir w m ev L l):dA w (uh ev l) (L.flatMap or):=by
 induction h with
 |nil=>exact .nil _
 |cons hk hv hm t ih=>
  unfold uh at ih⊢;rw [eZ,eZ];refine dA.app ?_ ih;unfold or;rw [hk];exact .cons (.val _ J) hv
theorem ir.mono{w':aa}(hm:f7 w w'){L:List MapEntry}{l:List (aI×α)}(h:ir w m ev L l):ir w' m ev L l:=by
 induction h with
 |nil=>exact .nil
 |cons hk hv h t ih=>exact .cons hk (hv.mono hm) h ih
theorem Gf{v u:aN}(h:j7 w (.val v) u):u=v:=by cases h;rfl
theorem Na(hev:∀a,(ev a).length=wid m):∀{L:List MapEntry} {l:List (aI×α)},L.length=l.length -> (∀e,e∈L -> qU m e) -> dA w (uh ev l) (L.flatMap or) -> ir w m ev L l
 |[],[],_,_,_=>.nil
 |e::L,[],h,_,_=>qj
 |[],p::l,h,_,_=>qj
 |e::L,(k,a)::l,h,hm,hr=>by
  have hme:=hm e aM;have ae:uh ev ((k,a)::l)=(ac k::ev a)++uh ev l:=by unfold uh;rw [eZ]
  have e2:(e::L).flatMap or=or e++L.flatMap or:=eZ;have l1:(aO.val (.string k)::ev a).length=wid m+1:=by rw [length_cons,hev]
  have l2:(or e).length=wid m+1:=by unfold or;rw [length_cons,hme.wid]
  have hA:=hr.take (wid m+1);have hB:=hr.drop (wid m+1);rw [ae,e2,sN l1,sN l2] at hA;rw [ae,e2,tj l1,tj l2] at hB;have h0:=hA.at_ 0 aM (by unfold or;simp);have hk:e.key=.string k:=Gf h0;have hv:dA w (ev a) e.val.cells.toList:=by
   have h9:=hA.drop 1;unfold or at h9;simpa using h9
  exact .cons hk hv hme (Na hev iX (λx hx=>hm x (d_ _ hx)) hB)
theorem ir.find{L:List MapEntry}{l:List (aI×α)}(h:ir w m ev L l)(k:aI):∀i:Nat,
  (dY l k=none /\ Instr.findNow .string (.string k) L i=some none /\ (∀a,dE l k a=l++[(k,a)]) /\ eb l k=l)∨
  ∃j e a,dY l k=some a /\ Instr.findNow .string (.string k) L i=some (some (i+j,e.val)) /\ L[j]?=some e /\ e.key=.string k /\ dA w (ev a) e.val.cells.toList /\ qU m e /\ j<L.length /\ ir w m ev (L.eraseIdx j) (eb l k) /\ (dE l k a).length=l.length /\ ∀a' e',e'.key=.string k -> dA w (ev a') e'.val.cells.toList -> qU m e' -> ir w m ev (L.set j e') (dE l k a'):=by
 induction h with
 |nil=>intro i;exact .inl ⟨rfl,rfl,λ_=>rfl,rfl⟩
 |@cons e k' a L l hk hv hm t ih=>
  intro i;by_cases hkk:k'=k
  ·subst hkk;refine .inr ⟨0,e,a,by unfold dY;rw [if_pos rfl],?_,J,hk,hv,hm,aM,by unfold eb;rw [if_pos rfl];exact t,by unfold dE;rw [if_pos rfl];try rfl,λa' e' h1 h2 h3=>by unfold dE;rw [if_pos rfl];exact .cons h1 h2 h3 t⟩;unfold Instr.findNow;rw [hk];simp [Instr.sameNow,(MapKept.bytes_beq k' k').2 rfl]
  have hb:(k == k')=false:=by
   cases hc:k == k' with
   |false=>rfl
   |true=>exact absurd ((MapKept.bytes_beq k k').1 hc).symm hkk
  have hf:Instr.findNow .string (.string k) (e::L) i=Instr.findNow .string (.string k) L (i+1):=by
   conv=>lhs;unfold Instr.findNow
   rw [hk];simp [Instr.sameNow,hb]
  rcases ih (i+1) with ⟨h1,h2,h3,h4⟩|⟨j,bp,a0,h1,h2,h3,h4,h5,h6,h7,h8,h9,h10⟩
  ·exact .inl ⟨by unfold dY;rw [if_neg hkk];exact h1,by rw [hf,h2],λa'=>by unfold dE;rw [if_neg hkk,h3];rfl,by unfold eb;rw [if_neg hkk,h4]⟩
  refine .inr ⟨j+1,bp,a0,by unfold dY;rw [if_neg hkk];exact h1,by rw [hf,h2];congr 3;omega,wX,h4,h5,h6,dr,by unfold eb;rw [if_neg hkk,List.eraseIdx_cons_succ];exact .cons hk hv hm h8,by unfold dE;rw [if_neg hkk,length_cons,length_cons,h9],λa' e' g1 g2 g3=>by unfold dE;rw [if_neg hkk,ym];exact .cons hk hv hm (h10 a' e' g1 g2 g3)⟩
theorem ir.snoc{L:List MapEntry}{l:List (aI×α)}(h:ir w m ev L l){e:MapEntry}{k:aI}{a:α}(hk:e.key=.string k)(hv:dA w (ev a) e.val.cells.toList)(hm:qU m e):ir w m ev (L++[e]) (l++[(k,a)]):=by
 induction h with
 |nil=>exact .cons hk hv hm .nil
 |cons hk' hv' hm' t ih=>exact .cons hk' hv' hm' ih
theorem Mem.DS{s:aH}{w:aa}(h:Mem s w){g:Nat}{l:List (aI×α)}(hr:ak g m ev l∈s.rows)(hev:∀a,(ev a).length=wid m):∃(es:Array MapEntry) (clock:Nat),w.heap[g]?=some (.map es clock) /\ ir (bh s.bl w) m ev es.toList l:=by
 obtain ⟨us,h1,h2⟩:=h.row _ hr;rcases h1 with ⟨-,h1⟩|⟨-,g',es,cl,ae,e2,e3,e4,e5⟩
 ·rcases h1 with ⟨h1,-⟩|⟨g',cap,cur,h1,-⟩
  ·cases h1
  cases h1
 cases ae;refine ⟨es,cl,e2,Na hev (by simpa using e3) e5 ?_⟩;rw [←e4];exact h2
end
def tf(g:Nat):aR (zG g)=[g]:=rfl
section
variable {P:Program}{U T:List Nat}{o:Oper}{n d:Nat}{bx:List aV}{rw:List aQ}{ts:List (Nat×AT)}{K:AS -> Prop}{st:AS}{α:Type}{m:Nat}{ev:α -> List aO}
theorem tC{w:aa}{kt:ax}(hk:P.underlying kt=some .string){k:aI}{L:List MapEntry}{r:Option (Nat×aN)}(h:Instr.findNow .string (.string k) L 0=some r):(Instr.findKey kt (.string k) L).run P w=.ok r w:=MapKept.run_findKey hk h
theorem sy{w:aa}{kt:ax}(hk:P.underlying kt=some .string)(k:aI)(e:Bool):(Instr.checkKey e 10000 kt (.string k)).run P w=.ok () w:=MapKept.run_checkKey hk (d:=.string) (k:=.string k) trivial e 9999
theorem B2{w:aa}{t kt et:ax}{g:Nat}{es:Array MapEntry}{clock:Nat}{k:aI}{w0:aa}{l:List (aI×α)}(ht:P.underlying t=some (.map kt et))(hk:P.underlying kt=some .string){z:aN}(hz:(zeroValue et).run P w=.ok z w)(hb:w.heap[g]?=some (.map es clock))(he:ir w0 m ev es.toList l)(c:Bool):
  (dY l k=none /\ (Instr.lookup t (.map (some g)) (.string k) c).run P w=.ok (if c then .tuple #[z,.bool false] else z) w)∨
  ∃a v,dY l k=some a /\ dA w0 (ev a) v.cells.toList /\ (if m=0 then v.oneCell'=true else ∃us:List aN,v=.agg us.toArray /\ us.length=m) /\ (Instr.lookup t (.map (some g)) (.string k) c).run P w=.ok (if c then .tuple #[v,.bool true] else v) w:=by
 rcases he.find k 0 with ⟨h1,h2,-⟩|⟨j,e,a,h1,h2,h3,h4,h5,h6,-⟩
 ·refine .inl ⟨h1,?_⟩;simp only [Instr.lookup,dK,run_underlying ht,eu,MapKept.run_getObj_map hb,sy hk,tC hk h2,fo,hz]
 refine .inr ⟨a,e.val,h1,h5,h6.2,?_⟩;simp only [Instr.lookup,dK,run_underlying ht,eu,MapKept.run_getObj_map hb,sy hk,tC hk h2,fo]
theorem OL{w:aa}{c:aO}{v:aN}(h1:v.oneCell'=true)(h:dA w [c] v.cells.toList):j7 w c v:=by
 have e:v.cells.toList=[v]:=by cases v<;>first|rfl|cases h1
 rw [e] at h;exact h.at_ 0 aM aM
theorem wo{w w':aa}(hk:cQ U w w'){g:Nat}{o:Obj}(hb:w.heap[g]?=some o)(hU:g∉U):w'.heap[g]?=some o:=(hk.block g (yK.1 hb).1 hU).trans hb
abbrev bA(i:Int):List aO:=[aA i]
theorem wT(i:Int):(bA i).length=wid 0:=rfl
def cB(l:List (ByteArray×Int))(k:ByteArray):Int:=(dY l k).getD 0
theorem o0{t kt et:ax}{x y:bb}{g:Nat}{k:aI}(l:List (aI×Int))(ho:o.op=.lookup t x y false)(hx:aw st x=some (.c (aB g)))(hy:aw st y=some (cK k))(hrow:ak g 0 bA l∈st.s.rows)
  (ht:P.underlying t=some (.map kt et)) (hk:P.underlying kt=some .string) (hz:∀w,(zeroValue et).run P w=.ok (.int .i64 0) w) (hU:st.s.bl.Nodup -> g∉U):cp P U o st (aj (cB l k)):=by
 intro a w hs hU2;obtain ⟨es,cl,hb,he⟩:=hs.mem.DS (m:=0) (ev:=bA) (g:=g) (l:=l) hrow wT;refine ⟨_,.c _ _ (.val _ J),λw' hkp=>?_⟩;have hb2:=wo hkp hb (hU hs.mem.nodup);have hop:execOp a.eval o=(do pure (.value (←Instr.lookup t (.map (some g)) (.string k) false))):=yX;rw [hop];rcases B2 (P:=P) (k:=k) ht hk (hz w') hb2 he false with ⟨h1,h2⟩|⟨b,v,h1,h2,h3,h4⟩
 ·have e:cB l k=0:=DW;rw [e,dK,h2];rfl
 have e:cB l k=b:=DW;have hv:=Gf (OL wX h2);rw [e,dK,h4,hv];rfl
theorem FM{t kt et:ax}{x y:bb}{g:Nat}{k:aI}(l:List (aI×Int))(ho:o.op=.lookup t x y true)(hx:aw st x=some (.c (aB g)))(hy:aw st y=some (cK k))(hrow:ak g 0 bA l∈st.s.rows)
  (ht:P.underlying t=some (.map kt et)) (hk:P.underlying kt=some .string) (hz:∀w,(zeroValue et).run P w=.ok (.int .i64 0) w) (hU:st.s.bl.Nodup -> g∉U):cp P U o st (.fd [aj (cB l k),au ((dY l k).isSome)]):=by
 intro a w hs hU2;obtain ⟨es,cl,hb,he⟩:=hs.mem.DS (m:=0) (ev:=bA) (g:=g) (l:=l) hrow wT;refine ⟨_,.fd _ [.int .i64 (cB l k),.bool (dY l k).isSome] J (λi h h'=>by
  match i,h,h' with
  |0,_,_=>exact .c _ _ (.val _ rfl)
  |1,_,_=>exact .c _ _ (.val _ rfl)),λw' hkp=>?_⟩
 have hb2:=wo hkp hb (hU hs.mem.nodup);have hop:execOp a.eval o=(do pure (.value (←Instr.lookup t (.map (some g)) (.string k) true))):=yX;rw [hop];rcases B2 (P:=P) (k:=k) ht hk (hz w') hb2 he true with ⟨h1,h2⟩|⟨b,v,h1,h2,h3,h4⟩
 ·have e:cB l k=0:=DW;rw [e,h1,dK,h2];rfl
 have e:cB l k=b:=DW;have hv:=Gf (OL wX h2);rw [e,h1,dK,h4,hv];rfl
theorem Zl{t kt et:ax}{x y:bb}{g:Nat}{k:aI}(l:List (aI×α)){b:α}(ho:o.op=.lookup t x y false)(hx:aw st x=some (.c (aB g)))(hy:aw st y=some (cK k))(hrow:ak g m ev l∈st.s.rows)(hm:m≠0)(hev:∀a,(ev a).length=m)
  (ht:P.underlying t=some (.map kt et)) (hk:P.underlying kt=some .string) {z:aN} (hz:∀w,(zeroValue et).run P w=.ok z w) (hU:st.s.bl.Nodup -> g∉U) (hl:dY l k=some b):cp P U o st (.agg (ev b)):=by
 intro a w hs hU2;obtain ⟨es,cl,hb,he⟩:=hs.mem.DS (m:=m) (ev:=ev) (g:=g) (l:=l) hrow C4;rcases B2 (P:=P) (k:=k) ht hk (hz w) hb he false with ⟨h1,h2⟩|⟨b',v,h1,h2,h3,h4⟩
 ·rw [h1] at hl;cases hl
 rw [h1] at hl;cases hl;rw [if_neg hm] at h3;obtain ⟨us,rfl,-⟩:=h3;refine ⟨_,.agg _ us (by simpa [Value.cells] using h2),λw' hkp=>?_⟩;have hb2:=wo hkp hb (hU hs.mem.nodup);have hop:execOp a.eval o=(do pure (.value (←Instr.lookup t (.map (some g)) (.string k) false))):=yX;rw [hop];have hrun:(Instr.lookup t (.map (some g)) (.string k) false).run P w'=.ok (.agg us.toArray) w':=by
  rcases he.find k 0 with ⟨g1,-⟩|⟨j,e,a,g1,g2,-⟩
  ·rw [g1] at h1;cases h1
  have f1:(Instr.lookup t (.map (some g)) (.string k) false).run P w=.ok e.val w:=by simp only [Instr.lookup,dK,run_underlying ht,eu,MapKept.run_getObj_map hb,sy hk,tC hk g2,fo];rfl
  have f2:(Instr.lookup t (.map (some g)) (.string k) false).run P w'=.ok e.val w':=M9;rw [f1] at h4;have e9:e.val=.agg us.toArray:=by simpa using h4
  rw [f2,e9]
 rw [dK,hrun];rfl
theorem VN{t kt et:ax}{x y:bb}{g:Nat}{k:aI}(l:List (aI×α)){b:α}(ho:o.op=.lookup t x y true)(hx:aw st x=some (.c (aB g)))(hy:aw st y=some (cK k))(hrow:ak g m ev l∈st.s.rows)(hm:m≠0)(hev:∀a,(ev a).length=m)
  (ht:P.underlying t=some (.map kt et)) (hk:P.underlying kt=some .string) {z:aN} (hz:∀w,(zeroValue et).run P w=.ok z w) (hU:st.s.bl.Nodup -> g∉U) (hl:dY l k=some b):cp P U o st (.fd [.agg (ev b),au true]):=by
 intro a w hs hU2;obtain ⟨es,cl,hb,he⟩:=hs.mem.DS (m:=m) (ev:=ev) (g:=g) (l:=l) hrow C4;rcases he.find k 0 with ⟨g1,-⟩|⟨j,e,a2,g1,g2,g3,g4,g5,g6,-⟩
 ·rw [g1] at hl;cases hl
 rw [g1] at hl;cases hl;have h3:=g6.2;rw [if_neg hm] at h3;obtain ⟨us,e9,-⟩:=h3;rw [e9] at g5;refine ⟨_,.fd _ [.agg us.toArray,.bool true] J (λi h h'=>by
  match i,h,h' with
  |0,_,_=>exact .agg _ us (by simpa [Value.cells] using g5)
  |1,_,_=>exact .c _ _ (.val _ rfl)),λw' hkp=>?_⟩
 have hb2:=wo hkp hb (hU hs.mem.nodup);have hop:execOp a.eval o=(do pure (.value (←Instr.lookup t (.map (some g)) (.string k) true))):=yX;rw [hop];have f2:(Instr.lookup t (.map (some g)) (.string k) true).run P w'=.ok (.tuple #[e.val,.bool true]) w':=M9;rw [dK,f2,e9];rfl
theorem Wd{t kt et:ax}{x y:bb}{g:Nat}{k:aI}(l:List (aI×α))(ho:o.op=.lookup t x y true)(hx:aw st x=some (.c (aB g)))(hy:aw st y=some (cK k))(hrow:ak g m ev l∈st.s.rows)(hm:m≠0)(hev:∀a,(ev a).length=m)
  (ht:P.underlying t=some (.map kt et)) (hk:P.underlying kt=some .string) {z:aN} (hz:∀w,(zeroValue et).run P w=.ok z w) (hU:st.s.bl.Nodup -> g∉U) (hl:dY l k=none) (cY:AT) (hct:gO z=cY):cp P U o st (.fd [cY,au false]):=by
 subst hct;intro a w hs hU2;obtain ⟨es,cl,hb,he⟩:=hs.mem.DS (m:=m) (ev:=ev) (g:=g) (l:=l) hrow C4;refine ⟨_,.fd _ [z,.bool false] J (λi h h'=>by
  match i,h,h' with
  |0,_,_=>exact AX _ z
  |1,_,_=>exact .c _ _ (.val _ rfl)),λw' hkp=>?_⟩
 have hb2:=wo hkp hb (hU hs.mem.nodup);have hop:execOp a.eval o=(do pure (.value (←Instr.lookup t (.map (some g)) (.string k) true))):=yX;rw [hop];rcases B2 (P:=P) (k:=k) ht hk (hz w') hb2 he true with ⟨h1,h2⟩|⟨b,v,h1,-⟩
 ·rw [dK,h2];rfl
 rw [h1] at hl;cases hl
theorem Gm(w:aa)(g:Nat)(x:Obj):cQ [g] w (setBlock w g x):=
 ⟨rfl,rfl,rfl,by simp [setBlock],λk hk hn=>by
  show (w.heap.setIfInBounds g x)[k]?=_;rw [Lp];intro h;exact hn sq⟩
theorem Mem.aJj{s:aH}{w:aa}{A B:List aQ}{g:Nat}{l l':List (aI×α)}{es es':Array MapEntry}{clock clock':Nat}(h:Mem s w)(hb:s.rows=A++ak g m ev l::B)(h1:w.heap[g]?=some (.map es clock))(hr:ir (bh s.bl w) m ev es'.toList l'):
  Mem ⟨s.boxes,A++ak g m ev l'::B⟩ (setBlock w g (.map es' clock')):=by
 have hbl:(⟨s.boxes,A++ak g m ev l'::B⟩:aH).bl=s.bl:=vE;have hmem:g∈s.bl:=by unfold aH.bl;rw [hb];simp [tf]
 have hk:=Gm w g (.map es' clock');have hu:f7 (bh s.bl w) (bh s.bl (setBlock w g (.map es' clock'))):=l_ hk IF (λx hx=>.inl hx);have hlt:g<w.heap.size:=h.lt g hmem;have hnd:=h.nodup;have hnd2:((s.boxes.map aV.b++A.flatMap λr=>aR r.v)++([g]++B.flatMap λr=>aR r.v)).Nodup:=by
  have h9:=hnd;unfold aH.bl at h9;rw [hb] at h9;simpa [tf] using h9
 have aNn:∀x,x∈s.boxes -> x.b≠g:=λx hx he=>(eF.1 hnd2).2.2 x.b (gW _ (k_.2 ⟨x,hx,J⟩)) g aM he;have hrow:∀r,r∈A∨r∈B -> g∉aR r.v:=by
  intro r hr2 hm2;rcases hr2 with hr2|hr2
  ·exact (eF.1 hnd2).2.2 g (gz _ (kr.2 ⟨r,hr2,hm2⟩)) g aM J
  exact (eF.1 (eF.1 hnd2).2.1).2.2 g aM g (kr.2 ⟨r,hr2,hm2⟩) J
 refine ⟨by rw [hbl];exact hnd,λx hx=>Gr,λx hx=>?_,λr hr2=>?_⟩
 ·rw [hbl];obtain ⟨us,ae,e2⟩:=h.box x hx;exact ⟨us,Pj,e2.mono hu⟩
 rw [hbl];have old:r∈A∨r∈B -> ∃us,pB (setBlock w g (.map es' clock')) r us /\ dA (bh s.bl (setBlock w g (.map es' clock'))) r.cs us:=λhr=>by
  have hr3:r∈s.rows:=Jw;obtain ⟨us,ae,e2⟩:=h.row r hr3;exact ⟨us,ae.keep λq hq=>hk.block q (h.lt q (gz _ (kr.2 ⟨r,hr3,hq⟩))) M8,e2.mono hu⟩
 simp only [mem_append,mem_cons] at hr2;rcases hr2 with hr2|rfl|hr2
 ·exact old (.inl hr2)
 ·refine ⟨es'.toList.flatMap or,.inr ⟨J,g,es',clock',J,?_,by simpa using hr.len,J,hr.ok⟩,(hr.mono hu).rep⟩;show (w.heap.setIfInBounds g _)[g]?=_;simp [hlt]
 exact old (.inr hr2)
theorem X5{w:aa}{t:AT}{b:α}{v:aN}(hc:kc t=some (ev b))(hr:cS w t v)(hm:if m=0 then (∃c,t=.c c) else (∃cs,t=.agg cs /\ cs.length=m)):if m=0 then v.oneCell'=true else ∃us:List aN,v=.agg us.toArray /\ us.length=m:=by
 split at hm
 ·rename_i h0;rw [if_pos h0];obtain ⟨c,rfl⟩:=hm;cases hr with|c _ _ hr=>exact hr.one
 rename_i h0;rw [if_neg h0];obtain ⟨cs,rfl,hl⟩:=hm;cases hr with|agg _ us hr=>exact ⟨us,rfl,hr.len.trans hl⟩
theorem LR{t kt et:ax}{x y z:bb}{g:Nat}{k:aI}{b:α}{u:AT}(l:List (aI×α))(A:List aQ){B:List aQ}(ho:o.op=.mapUpdate t x y z)(hd:o.dst=none)(hx:aw st x=some (.c (aB g)))(hy:aw st y=some (cK k))(hz:aw st z=some u)(hc:kc u=some (ev b))(hrow:st.s.rows=A++ak g m ev l::B)(hev:∀a,(ev a).length=wid m)
  (hm:if m=0 then (∃c,u=.c c) else (∃cs,u=.agg cs /\ cs.length=m)) (ht:P.underlying t=some (.map kt et)) (hk:P.underlying kt=some .string) (hT:g∈st.T) (hU:st.s.bl.Nodup -> g∈U)
  (h:K {st with s:=⟨st.s.boxes,A++ak g m ev (dE l k b)::B⟩}):db P U o st K:=by
 intro a w hs KK QQ hK;obtain ⟨es,cl,hb,he⟩:=hs.mem.DS (m:=m) (ev:=ev) (g:=g) (l:=l) ti hev;have hv:=hs.ev hz;generalize hvv:a.eval z=v at hv;have hval:=uw hc hv;have hok:qU m ⟨.string k,v,cl⟩:=⟨⟨k,J⟩,X5 hc hv hm⟩;have hbl:(⟨st.s.boxes,A++ak g m ev (dE l k b)::B⟩:aH).bl=st.s.bl:=GN;have hbm:g∈st.s.bl:=by unfold aH.bl;rw [hrow];simp [tf]
 have key:∃es' cl',(Instr.mapUpdate t (.map (some g)) (.string k) v).run P w=.ok () (setBlock w g (.map es' cl')) /\ ir (bh st.s.bl w) m ev es'.toList (dE l k b):=by
  rcases he.find k 0 with ⟨h1,h2,h3,-⟩|⟨j,e,a2,h1,h2,h3,h4,h5,h6,h7,h8,-,h10⟩
  ·refine ⟨es.push ⟨.string k,v,cl⟩,cl+1,?_,?_⟩
   ·simp only [Instr.mapUpdate,dK,run_underlying ht,eu,MapKept.run_getObj_map hb,sy hk,tC hk h2,MapKept.run_setObj_map _ hb];rfl
   rw [h3,Array.toList_push];exact he.snoc rfl hval hok
  have he3:es[j]?=some e:=wX;refine ⟨es.modify j λx=>{x with key:=.string k,val:=v},cl,?_,?_⟩
  ·simp only [Instr.mapUpdate,dK,run_underlying ht,eu,MapKept.run_getObj_map hb,sy hk,tC hk h2,cq,he3,o4,xy,h4,MapKept.run_keyThatStays (d:=.string) (k:=.string k) trivial,MapKept.run_setObj_map _ hb];rfl
  have hj:j<es.size:=by simpa using h7
  have ae:(es.modify j λx=>{x with key:=.string k,val:=v}).toList=es.toList.set j ⟨.string k,v,e.born⟩:=by
   refine Bw λi=>?_;rw [nd,Dd,List.getElem?_set];by_cases hij:j=i
   ·subst hij;rw [if_pos rfl,if_pos rfl,he3,if_pos h7];rfl
   rw [if_neg hij,if_neg hij,nd]
  rw [ae];exact h10 b ⟨.string k,v,e.born⟩ J hval ⟨⟨k,J⟩,hok.2⟩
 obtain ⟨es',cl',hrun,aJk⟩:=key;have hkp:=Gm w g (.map es' cl');unfold Oper.wp;have IT:(execOp a.eval o).run P w=.ok .skip (setBlock w g (.map es' cl')):=by
  simp only [execOp,ho,hs.val hx,hs.val hy,hvv,dK,hrun];rfl
 rw [IT,Oper.upon_skip,hd];have hmm:=hs.mem.aJj (clock':=cl') hrow hb aJk;refine hK _ _ _ h (hs.step st.T (hkp.mono t_) hmm (λx hx=>.inl tO)) ⟨hkp.mono t_,hkp.mono AA,λx hx=>.inl tO,λx hx=>.inl hx⟩ (hkp.mono zN)
theorem S2{t kt et kt2:ax}{x y:bb}{g:Nat}{k:aI}(l:List (aI×α))(A:List aQ){B:List aQ}(ho:o.op=.call {callee:=.builtin .delete,args:=#[x,y],argTypes:=#[t,kt2]})(hd:o.dst=none)(hx:aw st x=some (.c (aB g)))(hy:aw st y=some (cK k))(hrow:st.s.rows=A++ak g m ev l::B)(hev:∀a,(ev a).length=wid m)
  (ht:P.underlying t=some (.map kt et)) (hk:P.underlying kt=some .string) (hT:g∈st.T) (hU:st.s.bl.Nodup -> g∈U)
  (h:K {st with s:=⟨st.s.boxes,A++ak g m ev (eb l k)::B⟩}):db P U o st K:=by
 intro a w hs KK QQ hK;obtain ⟨es,cl,hb,he⟩:=hs.mem.DS (m:=m) (ev:=ev) (g:=g) (l:=l) ti hev;have hbl:(⟨st.s.boxes,A++ak g m ev (eb l k)::B⟩:aH).bl=st.s.bl:=GN;have hbm:g∈st.s.bl:=by unfold aH.bl;rw [hrow];simp [tf]
 have key:∃es',(Builtin.delete_ #[t,kt2] o.type #[.map (some g),.string k]).run P w=.ok (.tuple #[]) (setBlock w g (.map es' cl)) /\ ir (bh st.s.bl w) m ev es'.toList (eb l k):=by
  rcases he.find k 0 with ⟨h1,h2,-,h3⟩|⟨j,e,a2,h1,h2,h3,h4,h5,h6,h7,h8,-⟩
  ·refine ⟨es,?_,by rw [h3];exact he⟩;simp [Builtin.delete_,run_underlying ht,MapKept.run_getObj_map hb,sy hk,tC hk h2,MapKept.run_setObj_map _ hb,Result.andThen,setBlock]
  have hj:j<es.size:=by simpa using h7
  refine ⟨es.eraseIdxIfInBounds j,?_,?_⟩
  ·simp [Builtin.delete_,run_underlying ht,MapKept.run_getObj_map hb,sy hk,tC hk h2,MapKept.run_setObj_map _ hb,Result.andThen,setBlock]
  have ae:(es.eraseIdxIfInBounds j).toList=es.toList.eraseIdx j:=by
   unfold Array.eraseIdxIfInBounds;rw [dif_pos hj,Array.toList_eraseIdx]
  rw [ae];exact h8
 obtain ⟨es',hrun,aJk⟩:=key;have hkp:=Gm w g (.map es' cl);unfold Oper.wp;have IT:(execOp a.eval o).run P w=.ok (.value (.tuple #[])) (setBlock w g (.map es' cl)):=by
  unfold execOp;simp only [ho,resolve,invoke,builtin,dK,fo,eu,mH,ca,d7,hs.val hx,hs.val hy,hrun]
 rw [IT,Oper.upon_value,hd];have hmm:=hs.mem.aJj (clock':=cl) hrow hb aJk;have s1:=hs.step st.T (hkp.mono t_) hmm (λx hx=>.inl tO);refine hK _ _ _ h (by simpa [Act.put] using s1) ⟨hkp.mono t_,hkp.mono AA,λx hx=>.inl tO,λx hx=>.inl hx⟩ (hkp.mono zN)
theorem wK{t:ax}(m:Nat)(ev:α -> List aO)(ho:o.op=.makeMap t none)(hd:o.dst=some d)(hn:d<n)
  (h:∀g,K ⟨n,g::T,⟨bx,ak g m ev []::rw⟩,(d,.c (aB g))::ts⟩):db P U o ⟨n,T,⟨bx,rw⟩,ts⟩ K:=by
 intro a w hs KK QQ hK;have hrun:(execOp a.eval o).run P w=.ok (.value (.map (some w.heap.size))) (w.alloc (.map #[] 0)):=by
  simp only [execOp,ho];rfl
 have hk:cQ [] w (w.alloc (.map #[] 0)):=(cQ.refl _ _).alloc _;have hne:w.heap.size∉(⟨bx,rw⟩:aH).bl:=λhm=>Nat.lt_irrefl _ (hs.mem.lt _ hm);have hbl:(⟨bx,ak w.heap.size m ev []::rw⟩:aH).bl=bx.map aV.b++w.heap.size::rw.flatMap λr=>aR r.v:=by unfold aH.bl;simp [tf]
 have hsub:∀b,b∈(⟨bx,ak w.heap.size m ev []::rw⟩:aH).bl -> b∈(⟨bx,rw⟩:aH).bl∨w.heap.size <= b:=λb hb=>by
  rw [hbl] at hb;simp only [mem_append,mem_cons] at hb;rcases hb with h|rfl|h
  ·exact .inl (gW _ h)
  ·exact .inr (bY _)
  exact .inl (gz _ h)
 have hup:f7 (bh (⟨bx,rw⟩:aH).bl w) (bh (⟨bx,ak w.heap.size m ev []::rw⟩:aH).bl (w.alloc (.map #[] 0))):=l_ hk jf hsub;have hsz:(w.alloc (.map #[] 0)).heap.size=w.heap.size+1:=aM;have hm:Mem ⟨bx,ak w.heap.size m ev []::rw⟩ (w.alloc (.map #[] 0)):=by
  refine ⟨?_,λb hb=>?_,λx hx=>?_,λr hr=>?_⟩
  ·rw [hbl];have hnd:(bx.map aV.b++rw.flatMap λr=>aR r.v).Nodup:=hs.mem.nodup;rw [eF] at hnd⊢;refine ⟨hnd.1,mu.2 ⟨λh=>hne (gz _ h),hnd.2.1⟩,λa ha b hb=>?_⟩;rcases mem_cons.1 hb with rfl|hb
   ·intro he;subst he;exact hne (gW _ ha)
   exact hnd.2.2 a ha b hb
  ·rw [hbl] at hb;simp only [mem_append,mem_cons] at hb;rw [hsz];rcases hb with h|rfl|h
   ·exact EC (hs.mem.lt b (gW _ h))
   ·exact H8 _
   exact EC (hs.mem.lt b (gz _ h))
  ·obtain ⟨us,ae,e2⟩:=hs.mem.box x hx;exact ⟨us,Qs,e2.mono hup⟩
  rcases mem_cons.1 hr with rfl|hr
  ·refine ⟨[],.inr ⟨J,w.heap.size,#[],0,J,?_,J,J,λe h=>qj⟩,.nil _⟩;show (w.heap.push _)[w.heap.size]?=_;simp
  obtain ⟨us,ae,e2⟩:=hs.mem.row r hr;exact ⟨us,ae.keep λg hg=>hk.block g (hs.mem.lt g (gz _ (kr.2 ⟨r,hr,hg⟩))) aM,e2.mono hup⟩
 unfold Oper.wp;rw [hrun,Oper.upon_value,hd];have s1:=hs.step (st:=⟨n,T,⟨bx,rw⟩,ts⟩) (w.heap.size::T) (hk.mono aM) hm hsub;refine hK _ _ _ (h _) (s1.put (v:=.map (some w.heap.size)) hn (.c _ _ (.val _ J))) ⟨hk.mono aM,hk.mono aM,hsub,λb hb=>?_⟩ (hk.mono aM);rcases mem_cons.1 hb with rfl|hb
 ·exact .inr (bY _)
 exact .inl hb
theorem O0{t kt et:ax}{x:bb}{g:Nat}(l:List (aI×α))(ho:o.op=.call {callee:=.builtin .len,args:=#[x],argTypes:=#[t]})(hx:aw st x=some (.c (aB g)))(hrow:ak g m ev l∈st.s.rows)(hev:∀a,(ev a).length=wid m)(ht:P.underlying t=some (.map kt et))(hU:st.s.bl.Nodup -> g∉U):cp P U o st (aj l.length):=by
 intro a w hs hU2;obtain ⟨es,cl,hb,he⟩:=hs.mem.DS (m:=m) (ev:=ev) (g:=g) (l:=l) hrow hev;refine ⟨_,.c _ _ (.val _ J),λw' hkp=>?_⟩;have hb2:=wo hkp hb (hU hs.mem.nodup);have hl:es.size=l.length:=by simpa using he.len
 unfold execOp;simp only [ho,resolve,invoke,builtin,dK,fo,eu,mH,ca,d7,hs.val hx];simp [Builtin.len_,Builtin.lenOf,run_underlying ht,MapKept.run_getObj_map hb2,Result.andThen,hl,goInt]
theorem qc{t kt et:ax}{x y z:bb}{g:Nat}{k:aI}{b:Int}(l:List (aI×Int))(A:List aQ){B:List aQ}(ho:o.op=.mapUpdate t x y z)(hd:o.dst=none)(hx:aw ⟨n,T,⟨bx,A++ak g 0 bA l::B⟩,ts⟩ x=some (.c (aB g)))(hy:aw ⟨n,T,⟨bx,A++ak g 0 bA l::B⟩,ts⟩ y=some (cK k))(hz:aw ⟨n,T,⟨bx,A++ak g 0 bA l::B⟩,ts⟩ z=some (aj b))
  (ht:P.underlying t=some (.map kt et)) (hk:P.underlying kt=some .string) (hT:g∈T) (hU:(⟨bx,A++ak g 0 bA l::B⟩:aH).bl.Nodup -> g∈U) (h:K ⟨n,T,⟨bx,A++ak g 0 bA (dE l k b)::B⟩,ts⟩):db P U o ⟨n,T,⟨bx,A++ak g 0 bA l::B⟩,ts⟩ K:=
 LR (m:=0) (ev:=bA) l A ho hd hx hy hz rfl rfl wT (by rw [if_pos rfl];exact ⟨_,rfl⟩) ht hk hT hU h
theorem YI{t kt et:ax}{x y z:bb}{g:Nat}{k:aI}{b:α}(l:List (aI×α))(A:List aQ){B:List aQ}(ho:o.op=.mapUpdate t x y z)(hd:o.dst=none)(hx:aw ⟨n,T,⟨bx,A++ak g m ev l::B⟩,ts⟩ x=some (.c (aB g)))(hy:aw ⟨n,T,⟨bx,A++ak g m ev l::B⟩,ts⟩ y=some (cK k))(hz:aw ⟨n,T,⟨bx,A++ak g m ev l::B⟩,ts⟩ z=some (.agg (ev b)))(hm:m≠0)(hev:∀a,(ev a).length=m)
  (ht:P.underlying t=some (.map kt et)) (hk:P.underlying kt=some .string) (hT:g∈T) (hU:(⟨bx,A++ak g m ev l::B⟩:aH).bl.Nodup -> g∈U) (h:K ⟨n,T,⟨bx,A++ak g m ev (dE l k b)::B⟩,ts⟩):db P U o ⟨n,T,⟨bx,A++ak g m ev l::B⟩,ts⟩ K:=
 LR (m:=m) (ev:=ev) l A ho hd hx hy hz rfl rfl C4 (by rw [if_neg hm];exact ⟨_,rfl,hev b⟩) ht hk hT hU h
theorem Gy{t kt et kt2:ax}{x y:bb}{g:Nat}{k:aI}(l:List (aI×Int))(A:List aQ){B:List aQ}(ho:o.op=.call {callee:=.builtin .delete,args:=#[x,y],argTypes:=#[t,kt2]})(hd:o.dst=none)(hx:aw ⟨n,T,⟨bx,A++ak g 0 bA l::B⟩,ts⟩ x=some (.c (aB g)))(hy:aw ⟨n,T,⟨bx,A++ak g 0 bA l::B⟩,ts⟩ y=some (cK k))
  (ht:P.underlying t=some (.map kt et)) (hk:P.underlying kt=some .string) (hT:g∈T) (hU:(⟨bx,A++ak g 0 bA l::B⟩:aH).bl.Nodup -> g∈U) (h:K ⟨n,T,⟨bx,A++ak g 0 bA (eb l k)::B⟩,ts⟩):db P U o ⟨n,T,⟨bx,A++ak g 0 bA l::B⟩,ts⟩ K:=
 S2 (m:=0) (ev:=bA) l A ho hd hx hy rfl wT ht hk hT hU h
theorem SN{Z:List Nat}{A B:List aQ}{g:Nat}{l:List (aI×α)}(hZ:∀z,z∈Z -> z∈bx.map aV.b)(hn:(⟨bx,A++ak g m ev l::B⟩:aH).bl.Nodup):g∈fq ⟨bx,A++ak g m ev l::B⟩ Z:=by
 have h3:g∈(A++ak g m ev l::B).flatMap λr=>aR r.v:=by simp [tf]
 refine gZ.2 ⟨gz _ h3,λhz=>?_⟩;exact (eF.1 hn).2.2 g (hZ g hz) g h3 J
end
end
section
abbrev br:=List (ByteArray×Int)
structure eJ where
 ch:br
 n:Nat
 at_:Int
def rB(v:br)(s:ByteArray):Nat:=if cB v s=0 then 6 else if cB v s=1 then 0 else 8
mutual
def jj(v:br):aS -> Nat
 |.mk op _ name args=>if op=2 then rB v name else ko v args
def ko(v:br):List aS -> Nat
 |[]=>0
 |e::r=>if jj v e=0 then ko v r else jj v e
end
def Db(v:br):List aS -> Nat
 |[]=>0
 |e::_=>jj v e
def xc(v:br)(r:cD):Bool:=(decide (cB v r.name≠2) && decide (cB v r.name≠3) && decide (cB v r.name≠4))||(decide (cB v r.name=3) != decide (0<r.index.length))
def qI(v:br)(r:cD):Nat:=if cB v r.name=0 then 6 else if xc v r then 8 else if cB v r.name=3 then Db v r.index else 0
def nL(v:br)(a:bq)(x:bg):Nat:=if a.mutex=x.mutex then (if a.mutex then qI v a.ref else jj v a.expr) else 8
def jE(v:br):List bq -> List bg -> Nat
 |a::l,x::xs=>if nL v a x=0 then jE v l xs else nL v a x
 |_,_=>0
abbrev dW:=List (ByteArray×a_)
def Ja(v:br)(args:List bq):Option a_ -> Nat
 |none=>0
 |some f=>if args.length=f.params.length then jE v args f.params else 7
def sI(v:br)(fs:dW)(name:ByteArray)(args:List bq):Nat:=if cB v name=0 then 6 else if cB v name=5 then Ja v args (dY fs name) else 8
def kv(v:br)(fs:dW)(s:aD):Nat:=
 if s.kind=1 then (if cB v s.name=0 then jj v s.expr else 5)
 else if s.kind=2 then (if rB v s.name=0 then jj v s.expr else rB v s.name)
 else if s.kind=5∨s.kind=6 then qI v s.ref
 else if s.kind=3∨s.kind=4 then sI v fs s.name s.args
 else if s.kind=7∨s.kind=8 then jj v s.expr else 0
def ia(x:Nat×List ByteArray×eJ):Nat×eJ:=if x.1=0 then (0,⟨x.2.1.foldl eb x.2.2.ch,x.2.2.n,x.2.2.at_⟩) else (x.1,x.2.2)
def jO(s:aD)(x:eJ):eJ:=⟨if s.kind=1 then dE x.ch s.name 1 else x.ch,x.n+1,x.n⟩
def qi(s:aD)(own:List ByteArray):List ByteArray:=if s.kind=1 then own++[s.name] else own
mutual
def gY(fs:dW):aD -> eJ -> Nat×eJ
 |.mk k name e r args t f,x=>
  if kv x.ch fs (.mk k name e r args t f)=0 then
   (if (ia (eQ fs t [] (jO (.mk k name e r args t f) x))).1=0 then ia (eQ fs f [] (ia (eQ fs t [] (jO (.mk k name e r args t f) x))).2) else ia (eQ fs t [] (jO (.mk k name e r args t f) x)))
  else (kv x.ch fs (.mk k name e r args t f),⟨x.ch,x.n+1,x.n⟩)
def eQ(fs:dW):List aD -> List ByteArray -> eJ -> Nat×List ByteArray×eJ
 |[],own,x=>(0,own,x)
 |s::l,own,x=>if (gY fs s x).1=0 then eQ fs l (qi s own) (gY fs s x).2 else ((gY fs s x).1,own,(gY fs s x).2)
end
def jQ(fs:dW)(l:List aD)(x:eJ):Nat×eJ:=ia (eQ fs l [] x)
def Bs(fs:dW)(s:aD)(x:eJ):gY fs s x=if kv x.ch fs s=0 then (if (jQ fs s.thn (jO s x)).1=0 then jQ fs s.els (jQ fs s.thn (jO s x)).2 else jQ fs s.thn (jO s x)) else (kv x.ch fs s,⟨x.ch,x.n+1,x.n⟩):=by
 obtain ⟨k,name,e,r,args,t,f⟩:=s;rw [gY];rfl
def rE(x:bg):Int:=if x.mutex then 4 else 1
def gV:List bg -> br -> Bool×br
 |[],v=>(true,v)
 |x::r,v=>if cB v x.name=0 then gV r (dE v x.name (rE x)) else (false,v)
def nJ(l:List bg)(v:br):br:=l.foldl (λv x=>eb v x.name) v
def kD(fs:dW)(f:a_)(v:br):Nat×eJ:=
 if (gV f.params v).1 then ((jQ fs f.body ⟨(gV f.params v).2,0,-1⟩).1,⟨nJ f.params (jQ fs f.body ⟨(gV f.params v).2,0,-1⟩).2.ch,(jQ fs f.body ⟨(gV f.params v).2,0,-1⟩).2.n,(jQ fs f.body ⟨(gV f.params v).2,0,-1⟩).2.at_⟩)
 else (5,⟨(gV f.params v).2,0,-1⟩)
def oQ(fs:dW):List a_ -> Nat -> br -> Int×Int×Nat
 |[],_,_=>(0,0,0)
 |f::r,i,v=>if (kD fs f v).1=0 then oQ fs r (i+1) (kD fs f v).2.ch else (i,(kD fs f v).2.at_,(kD fs f v).1)
def hY:List (ByteArray×Int) -> br -> Nat -> Option Nat×br
 |[],v,_=>(none,v)
 |p::r,v,n=>if cB v p.1=0 then hY r (dE v p.1 p.2) (n+1) else (some n,v)
def qu(m:cn):Int:=if 0<m.size then 3 else 2
def iC(p:aX):List (ByteArray×Int):=p.globals.map (λg=>(g.name,1))++(p.mutexes.map (λm=>(m.name,qu m))++p.funcs.map (λf=>(f.name,5)))
def iP(l:List a_):dW:=l.foldl (λm f=>dE m f.name f) []
def yp:ByteArray:=⟨#[109,97,105,110]⟩
def qw(p:aX):Bool:=match dY (iP p.funcs) yp with
 |none=>false
 |some f=>decide (f.params.length=0)
def qH(p:aX):Int×Int×Nat:=
 if gw p=false then (-1,-1,10) else
 match (hY (iC p) [] 0).1 with
 |some i=>(-1,i,5)
 |none=>if qw p then oQ (iP p.funcs) p.funcs 0 (hY (iC p) [] 0).2 else (-1,-1,9)
def pa{α:Type}(l:List (aI×α))(k:aI)(a:α)(s:aI):dY (dE l k a) s=if k=s then some a else dY l s:=by
 induction l with
 |nil=>
  unfold dE dY;by_cases h:k=s
  ·rw [if_pos h,if_pos h]
  ·rw [if_neg h,if_neg h];rfl
 |cons p l ih=>
  unfold dE;by_cases h:p.1=k
  ·rw [if_pos h];unfold dY;by_cases hs:k=s
   ·rw [if_pos hs,if_pos hs]
   rw [if_neg hs,if_neg hs,if_neg (λh2=>hs (h▸h2))]
  rw [if_neg h];unfold dY;by_cases hs:p.1=s
  ·rw [if_pos hs,if_neg (λh2=>h (hs.trans h2.symm)),if_pos hs]
  rw [if_neg hs,ih,if_neg hs]
def put_eq{α:Type}(p:aI×α)(l:List (aI×α))(k:aI)(a:α):dE (p::l) k a=if p.1=k then (k,a)::l else p::dE l k a:=rfl
def UI{α:Type}(l:List (aI×α))(k:aI)(a b:α):dE (dE l k a) k b=dE l k b:=by
 induction l with
 |nil=>show dE [(k,a)] k b=[(k,b)];rw [put_eq,if_pos rfl]
 |cons p l ih=>
  rw [put_eq,put_eq];by_cases h:p.1=k
  ·rw [if_pos h,if_pos h,put_eq,if_pos rfl]
  rw [if_neg h,if_neg h,put_eq,if_neg h,ih]
def dZ{α:Type}(l:List (ByteArray×α)):Prop:=(l.map (·.1)).Nodup
def VA{α:Type}(l:List (aI×α))(k:aI)(a:α):∀s,s∈(dE l k a).map (·.1) -> s=k∨s∈l.map (·.1):=by
 induction l with
 |nil=>intro s h;unfold dE at h;simp at h;exact .inl h
 |cons p l ih=>
  intro s h;unfold dE at h;split at h
  ·rename_i h2;simp only [ca,mem_cons] at h⊢;rcases h with h|h
   ·exact .inl h
   exact .inr (.inr h)
  simp only [ca,mem_cons] at h⊢;rcases h with h|h
  ·exact .inr (.inl h)
  exact (ih s h).imp id .inr
def dZ.put{α:Type}{l:List (aI×α)}(h:dZ l)(k:aI)(a:α):dZ (dE l k a):=by
 induction l with
 |nil=>unfold dE dZ;simp
 |cons p l ih=>
  unfold dZ at h;simp only [ca,mu] at h;unfold dE;split
  ·rename_i h2;unfold dZ;simp only [ca,mu];exact ⟨by rw [←h2];exact h.1,h.2⟩
  rename_i h2;have h3:=ih h.2;unfold dZ at h3⊢;simp only [ca,mu];exact ⟨λhm=>(VA l k a p.1 hm).elim h2 h.1,h3⟩
def Zo{α:Type}(l:List (aI×α))(k:aI):((eb l k).map (·.1)).Sublist (l.map (·.1)):=by
 induction l with
 |nil=>exact .refl _
 |cons p l ih=>
  unfold eb;split
  ·exact AJ _ _
  exact ih.cons_cons _
def dZ.del{α:Type}{l:List (aI×α)}(h:dZ l)(k:aI):dZ (eb l k):=(Zo l k).nodup h
def Rq{α:Type}{l:List (aI×α)}{s:aI}(h:s∉l.map (·.1)):dY l s=none:=by
 induction l with
 |nil=>rfl
 |cons p l ih=>
  simp only [ca,mem_cons,not_or] at h;unfold dY;rw [if_neg (λh2=>h.1 h2.symm)];exact ih h.2
def FE{α:Type}{l:List (aI×α)}(h:dZ l)(k s:aI):dY (eb l k) s=if k=s then none else dY l s:=by
 induction l with
 |nil=>unfold eb dY;split<;>rfl
 |cons p l ih=>
  unfold dZ at h;simp only [ca,mu] at h;unfold eb;by_cases hp:p.1=k
  ·rw [if_pos hp];by_cases hs:k=s
   ·rw [if_pos hs];exact Rq (by rw [←hs,←hp];exact h.1)
   rw [if_neg hs];conv=>rhs;unfold dY
   rw [if_neg (λh2=>hs (hp▸h2))]
  rw [if_neg hp];unfold dY;by_cases hs:p.1=s
  ·rw [if_pos hs,if_neg (λh2=>hp (hs.trans h2.symm)),if_pos hs]
  rw [if_neg hs,ih h.2,if_neg hs]
def vY(v:br)(k:aI)(a:Int)(s:aI):cB (dE v k a) s=if k=s then a else cB v s:=by
 unfold cB;rw [pa];split<;>rfl
def xI{v:br}(h:dZ v)(k s:aI):cB (eb v k) s=if k=s then 0 else cB v s:=by
 unfold cB;rw [FE h];split<;>rfl
def eN(v:br)(fs:dW):Prop:=dZ v /\ ∀s,cB v s=5 -> ∃f,dY fs s=some f
def eN.put{v:br}{fs:dW}(h:eN v fs)(k:aI){a:Int}(ha:a≠5):eN (dE v k a) fs:=
 ⟨h.1.put k a,λs hs=>by
  rw [vY] at hs;split at hs
  ·exact absurd hs ha
  exact h.2 s hs⟩
def eN.del{v:br}{fs:dW}(h:eN v fs)(k:aI):eN (eb v k) fs:=
 ⟨h.1.del k,λs hs=>by
  rw [xI h.1] at hs;split at hs
  ·cases hs
  exact h.2 s hs⟩
def eN.aO4{fs:dW}:∀(l:List aI) {v:br},eN v fs -> eN (l.foldl eb v) fs
 |[],_,h=>h
 |k::l,_,h=>eN.aO4 l (h.del k)
def Gp{fs:dW}{x:Nat×List aI×eJ}(h:eN x.2.2.ch fs):eN (ia x).2.ch fs:=by
 unfold ia;split
 ·exact h.aO4 _
 exact h
def Xm{fs:dW}{s:aD}{x:eJ}(h:eN x.ch fs):eN (jO s x).ch fs:=by
 unfold jO;dsimp only;split
 ·exact h.put _ V
 exact h
mutual
def Se(fs:dW):∀(s:aD)(x:eJ),eN x.ch fs -> eN (gY fs s x).2.ch fs
 |.mk k name e r args t f,x,h=>by
  have h1:eN (ia (eQ fs t [] (jO (.mk k name e r args t f) x))).2.ch fs:=Gp (Bl fs t [] _ (Xm h));rw [gY];split
  ·split
   ·exact Gp (Bl fs f [] _ h1)
   exact h1
  exact h
def Bl(fs:dW):∀(l:List aD)(own:List aI)(x:eJ),eN x.ch fs -> eN (eQ fs l own x).2.2.ch fs
 |[],_,_,h=>h
 |s::l,own,x,h=>by
  have h1:=Se fs s x h;rw [eQ];split
  ·exact Bl fs l _ _ h1
  exact h1
end
def zy{fs:dW}{l:List aD}{x:eJ}(h:eN x.ch fs):eN (jQ fs l x).2.ch fs:=Gp (Bl fs l [] x h)
def yx(x:Nat×List aI×eJ):(ia x).2.n=x.2.2.n:=by unfold ia;split<;>rfl
def V3(s:aD)(x:eJ):(jO s x).n=x.n+1:=rfl
mutual
def Rl(fs:dW):∀(s:aD)(x:eJ),(gY fs s x).2.n <= x.n+s.wt
 |.mk k name e r args t f,x=>by
  have h1:=Ci fs t [] (jO (.mk k name e r args t f) x);have h2:=Ci fs f [] (ia (eQ fs t [] (jO (.mk k name e r args t f) x))).2;rw [yx] at h2;rw [V3] at h1;rw [gY,aD.wt];split
  ·split
   ·rw [yx];omega
   rw [yx];omega
  dsimp only;omega
def Ci(fs:dW):∀(l:List aD)(own:List aI)(x:eJ),(eQ fs l own x).2.2.n <= x.n+an l
 |[],_,_=>by rw [eQ,an];dsimp only;omega
 |s::l,own,x=>by
  have h1:=Rl fs s x;have h2:=Ci fs l (qi s own) (gY fs s x).2;rw [eQ,an];split
  ·omega
  dsimp only;omega
end
def D2(fs:dW)(l:List aD)(x:eJ):(jQ fs l x).2.n <= x.n+an l:=by unfold jQ;rw [yx];exact Ci fs l [] x
end
section
structure d2 (gs ms fs lk lo:br) (l:List bP):Prop where
 lo:∀s,dY lo s=(match bL l s with|some v=>if v.kind=4 then some (v.n:Int) else none|none=>none)
 lk:∀s,dY lk s=(match bL l s with|some v=>if v.kind=5 then some (v.n:Int) else none|none=>none)
 gs:∀s v,bL l s=some v -> v.kind=1 -> dY gs s=some (v.n:Int)
 ms:∀s v,bL l s=some v -> v.kind=2 -> dY ms s=some (v.n:Int)
 fs:∀s v,bL l s=some v -> v.kind=3 -> dY fs s=some (v.n:Int)
section
variable {gs ms fs lk lo:br}{l:List bP}
def d2.aKz(m:d2 gs ms fs lk lo l){s:aI}(h:(dY lo s).isSome=true):∃n:Nat,cB lo s=n /\ bQ l s=⟨(bQ l s).name,4,n⟩:=by
 have h1:=m.lo s;unfold cB bQ;rcases h2:bL l s with _|v
 ·rw [h2] at h1;rw [h1] at h;cases h
 rw [h2] at h1;dsimp only at h1;by_cases h3:v.kind=4
 ·rw [if_pos h3] at h1;rw [h1];exact ⟨v.n,rfl,by obtain ⟨a,b,c⟩:=v;cases h3;rfl⟩
 rw [if_neg h3] at h1;rw [h1] at h;cases h
def d2.aK0(m:d2 gs ms fs lk lo l){s:aI}(h:(dY lo s).isSome=false)(hv:fO l s=0):∃n:Nat,cB gs s=n /\ bQ l s=⟨(bQ l s).name,1,n⟩:=by
 have h1:=m.lo s;unfold fO at hv;unfold cB bQ;rcases h2:bL l s with _|v
 ·rw [h2] at hv;cases hv
 rw [h2] at h1 hv;dsimp only at h1;unfold KW at hv;dsimp only at hv;by_cases h3:v.kind=4
 ·rw [if_pos h3] at h1;rw [h1] at h;cases h
 by_cases h4:v.kind=1
 ·rw [m.gs s v h2 h4];exact ⟨v.n,rfl,by obtain ⟨a,b,c⟩:=v;cases h4;rfl⟩
 rw [if_neg Y] at hv;cases hv
def d2.aKp(m:d2 gs ms fs lk lo l){s:aI}(h:(dY lo s).isSome=true):rp l s=.mk 18 (cB lo s) ay []:=by
 obtain ⟨n,h1,h2⟩:=m.aKz h;unfold rp;rw [h2,h1];rfl
def d2.aKq(m:d2 gs ms fs lk lo l){s:aI}(h:(dY lo s).isSome=false)(hv:fO l s=0):rp l s=.mk 19 (cB gs s) ay []:=by
 obtain ⟨n,h1,h2⟩:=m.aK0 h hv;unfold rp;rw [h2,h1];rfl
def d2.aLx(m:d2 gs ms fs lk lo l){p:aX}{r:cD}(h:(dY lk r.name).isSome=true)(hE:eC p l r=0):∃n:Nat,cB lk r.name=n /\ ec l r=⟨true,n,[]⟩:=by
 have h1:=m.lk r.name;unfold eC at hE;unfold cB ec bQ;rcases h2:bL l r.name with _|v
 ·rw [h2] at h1;rw [h1] at h;cases h
 rw [h2] at h1 hE;dsimp only at h1;by_cases h3:v.kind=5
 ·rw [if_pos h3] at h1;have h4:km p r.index.length (some v)=0:=by unfold dP at hE;split at hE<;>assumption
  unfold km at h4;dsimp only at h4;rw [if_pos (.inr h3),decide_eq_false (show ¬v.kind=2 by omega),Av] at h4;have h5:r.index=[]:=by
   cases hi:r.index with
   |nil=>rfl
   |cons a b=>rw [hi] at h4;simp at h4
  rw [h1,h5];exact ⟨v.n,J,by show (⟨decide (v.kind=5),v.n,_⟩:ox)=_;rw [decide_eq_true h3];rfl⟩
 rw [if_neg h3] at h1;rw [h1] at h;cases h
def vO{a b:Nat}(h:dP a b=0):a=0 /\ b=0:=by
 unfold dP at h;split at h
 ·exact ⟨l7,h⟩
 omega
def d2.aLy(m:d2 gs ms fs lk lo l){p:aX}{r:cD}(h:(dY lk r.name).isSome=false)(hE:eC p l r=0):∃n:Nat,cB ms r.name=n /\ ec l r=⟨false,n,r.index.map (cd l)⟩:=by
 have h1:=m.lk r.name;have h0:=(vO hE).1;unfold cB ec bQ;rcases h2:bL l r.name with _|v
 ·rw [h2] at h0;cases h0
 rw [h2] at h1 h0;dsimp only at h1;by_cases h3:v.kind=5
 ·rw [if_pos h3] at h1;rw [h1] at h;cases h
 unfold km at h0;dsimp only at h0;by_cases h4:v.kind=2
 ·rw [m.ms _ v h2 h4];exact ⟨v.n,J,by show (⟨decide (v.kind=5),v.n,_⟩:ox)=_;rw [decide_eq_false h3]⟩
 rw [if_neg Y] at h0;cases h0
def FV(l:List bP):∀(r:List aS),hJ l r=0 -> ∀k (h:k<r.length),cV l r[k]=0
 |e::r,h,0,_=>by rw [hJ] at h;exact (vO h).1
 |e::r,h,k+1,hk=>by rw [hJ] at h;exact FV l r (vO h).2 k ql
def V0{p:aX}{r:cD}(hE:eC p l r=0):∀k (h:k<r.index.length),cV l r.index[k]=0:=FV l r.index (vO hE).2
def Qw(p:aX)(l:List bP):∀(r:List bq)(x:List bg),x.length=r.length -> jC p l r x=0 -> iS r x=r /\ ∀k (h:k<r.length),ul p l r[k]=0
 |[],[],_,_=>⟨rfl,λk h=>absurd h aM⟩
 |a::r,x::xs,hl,h=>by
  rw [jC] at h;rw [iS];by_cases hm:a.mutex=x.mutex
  ·rw [if_pos hm] at h⊢;obtain ⟨h1,h2⟩:=vO h;obtain ⟨h3,h4⟩:=Qw p l r xs uk h2;refine ⟨by rw [h3],λk hk=>?_⟩;cases k with
   |zero=>exact h1
   |succ k=>exact h4 k ql
  rw [if_neg hm] at h;cases h
def d2.aJ3(m:d2 gs ms fs lk lo l){p:aX}{s:aD}(hE:eH p l s=0):∃n:Nat,cB fs s.name=n /\ gL p l s=⟨if s.kind=4 then 3 else 2,n,false,.zero,dL,d1 l s.args,eM l s.args⟩ /\ ∀k (h:k<s.args.length),ul p l s.args[k]=0:=by
 unfold eH at hE;unfold cB gL;rcases h2:bL l s.name with _|v
 ·rw [h2] at hE;cases hE
 rw [h2] at hE;unfold o6 at hE;dsimp only at hE;by_cases h3:v.kind=3
 ·rw [if_pos h3] at hE;by_cases h4:(jV p v.n).length=s.args.length
  ·rw [if_pos h4] at hE;obtain ⟨h5,h6⟩:=Qw p l s.args _ h4 hE;rw [m.fs _ v h2 h3];refine ⟨v.n,J,?_,h6⟩;unfold ni;dsimp only;rw [if_pos h3,if_pos h4,h5]
  rw [if_neg h4] at hE;cases hE
 rw [if_neg h3] at hE;cases hE
end
end
section
open Go.RowKit
def SQ{P:Program}{ops:Array Oper}{Z:List Nat}{fuel:Nat}{listed:Array Bool}{n:Nat}{T:List Nat}{s:aH}{ts:List (Nat×AT)}{K:AS -> Prop}(i:Nat){u t:AT}(hl:look ts i=some u)(hw:bI u t)(h:dq P ops Z fuel listed ⟨n,T,s,(i,t)::ts⟩ K):dq P ops Z fuel listed ⟨n,T,s,ts⟩ K:=A9 (Ec (st:=⟨n,T,s,ts⟩) i hl hw) h
def vn(x y:Int):Int:=IntKind.i64.wrap ((BitVec.ofInt IntKind.i64.bits x &&& BitVec.ofInt IntKind.i64.bits y).toNat)
section
variable {P:Program}{U:List Nat}{o:Oper}{st:AS}
def yP{t yt:ax}{x y:bb}{m n:Int}(ho:o.op=.binOp .and t x y yt)(hx:aw st x=some (aj m))(hy:aw st y=some (aj n)):cp P U o st (aj (vn m n)):=
 iM rfl λa w hs w'=>by
  simp only [execOp,ho,hs.val hx,hs.val hy];simp [go_sem,eqGuard,binOp,Op.intBits,vn]
def Em{t yt:ax}{x y:bb}{m:Int}(ho:o.op=.binOp .shr t x y yt)(hx:aw st x=some (aj m))(hy:aw st y=some (ap (.int .u64 1))):cp P U o st (aj (m.fdiv 2)):=
 iM rfl λa w hs w'=>by
  simp only [execOp,ho,hs.val hx,hs.val hy];simp [go_sem,eqGuard,binOp,Op.shift,show min (Int.toNat 1) IntKind.i64.bits=1 from rfl]
end
def my(x n:Int)(hn:0<n):∃k:Nat,x%n=k /\ (k:Int)<n:=
 ⟨(x%n).toNat,by have:=As x (b:=n) Y;omega,by have:=As x (b:=n) Y;have:=FG x (b:=n) hn;omega⟩
def mg(x n:Int)(k:Nat)(hn:0<n)(hn2:n <= 4611686018427387904)(hk:x%n=k)(s:aH):aT prog 10 [aj x,aj n] [] s λr s'=>r=ab k /\ s'=s:=by
 have h:=LS x n hn hn2 s;rw [hk] at h;exact h
end
section
open Go.RowKit
def jT(ops:Array Oper)(m:Nat):Array Oper:=(ops.toList.take m).toArray
def qt(ops:Array Oper)(j:Nat):List Nat:=match ops.toList[j]? with
 |none=>[]
 |some o=>o.after.toList.filterMap λe=>if Region.binds .any e then some e.on else none
def wj(ops:Array Oper):Nat -> List Nat -> List Nat
 |0,c=>c
 |n+1,c=>wj ops n (c++c.flatMap (qt ops))
def F2{ops:Array Oper}{L:Nat -> Prop}(h:∀i o,ops[i]?=some o -> L i -> ∀e∈o.after,Region.binds .any e=true -> L e.on):∀(n:Nat)(c:List Nat),(∀x,x∈c -> L x) -> ∀x,x∈wj ops n c -> L x
 |0,_,hc=>hc
 |n+1,c,hc=>F2 h n _ λx hx=>by
  rcases mem_append.1 hx with hx|hx
  ·exact hc x hx
  obtain ⟨y,hy,hxy⟩:=kr.1 hx;unfold qt at hxy;rw [nd] at hxy;cases ho:ops[y]? with
  |none=>rw [ho] at hxy;cases hxy
  |some o=>
   rw [ho] at hxy;obtain ⟨e,he,h2⟩:=CL.1 hxy;split at h2
   ·rename_i hb;cases h2;exact h y o ho (hc y hy) e uv hb
   cases h2
def Gg(ops:Array Oper)(m:Nat):Bool:=(List.range ops.size).all λi=>match ops.toList[i]? with
 |none=>true
 |some o=>if i<m then o.guard.isNone && o.after.toList.all (λe=>!Region.binds .any e||decide (e.on<i)) else (List.range m).all λj=>(wj ops 2 (qt ops i)).contains j
def Pm{P:Program}{md:Region.Mode}{ops:Array Oper}{Q:Exit -> Act -> aa -> Prop}:∀(f:Nat)(l:Array Bool)(a:Act)(w:aa),wpAny P md ops Q f l a w -> wpAny P md ops Q (f+1) l a w
 |0,_,_,_,h=>⟨λ_=>h.2,λi hi=>by rw [h.1] at hi;cases hi⟩
 |f+1,_,_,_,h=>⟨h.1,λi hi=>wpOp_mono (λa' w' h'=>Pm f _ a' w' h') (h.2 i hi)⟩
def OO{P:Program}{md:Region.Mode}{ops:Array Oper}{Q:Exit -> Act -> aa -> Prop}(f:Nat)(l:Array Bool)(a:Act)(w:aa)(h:wpAny P md ops Q f l a w):∀n,wpAny P md ops Q (n+f) l a w
 |0=>by rw [cq];exact h
 |n+1=>by rw [show n+1+f=(n+f)+1 by omega];exact Pm _ _ _ _ (OO f l a w h n)
def vL{ops:Array Oper}{m i:Nat}:(jT ops m)[i]?=if i<m then ops[i]? else none:=by
 unfold jT;rw [Fs,pD,nd]
def XA{P:Program}{ops:Array Oper}{Q Q1:Exit -> Act -> aa -> Prop}{m f2:Nat}{D:Array Bool}(hc:Gg ops m=true)(hm:m <= ops.size)(hDt:∀j,j<m -> D[j]?=some true)
  (hn:∀a w,Q1 .normal a w -> wpAny P .any ops Q f2 D a w) (hq:∀e a w,e≠.normal -> Q1 e a w -> Q e a w):∀(f:Nat)(l1 l:Array Bool)(a:Act)(w:aa),l1.size=m -> l.size=D.size -> m <= D.size -> (∀j,j<m -> l[j]?=l1[j]?) -> (∀j,m <= j -> l[j]?=D[j]?) -> (∀i o,ops[i]?=some o -> l.getD i false=true -> ∀e∈o.after,Region.binds .any e=true -> l.getD e.on false=true) ->
   wpAny P .any (jT ops m) Q1 f l1 a w -> wpAny P .any ops Q (f+f2) l a w:=by
 have hcs:∀i o,ops[i]?=some o -> if i<m then o.guard=none /\ (∀e∈o.after,Region.binds .any e=true -> e.on<i) else ∀j,j<m -> j∈wj ops 2 (qt ops i):=by
  intro i o ho;have hi:i<ops.size:=(yK.1 ho).1;have h9:=fC.1 hc i (pI.2 hi);rw [nd,ho] at h9;dsimp only at h9;by_cases him:i<m
  ·rw [if_pos him] at h9⊢;simp only [dm,fC,nP,zq,decide_eq_true_eq,Option.isNone_iff_eq_none] at h9;exact ⟨h9.1,λe he hb=>(h9.2 e uv).resolve_left (by rw [hb];decide)⟩
  rw [if_neg him] at h9⊢;intro j hj;have h8:=fC.1 h9 j (pI.2 hj);simpa using h8
 have over:∀(l1 l:Array Bool),l1.size=m -> m <= ops.size -> (∀j,j<m -> l[j]?=l1[j]?) -> Region.ready .any (jT ops m) l1=[] -> ∀j,j<m -> l1[j]?=some true:=by
  intro l1 l hs hm hl hr j;induction j using Nat.strongRecOn with
  |_ j ih=>
   intro hj;by_cases h:l1.getD j true=false
   ·exfalso;have hop:(jT ops m)[j]?=some (ops[j]'(by omega)):=Ow;have hin:j∈Region.ready .any (jT ops m) l1:=by
     refine mem_ready.2 ⟨h,_,hop,λe he hb=>?_⟩;have h2:=hcs j _ (oD (Y:j<ops.size));rw [if_pos hj] at h2;have h3:=h2.2 e he hb;have h4:=ih e.on h3 Y;simp [jW,h4]
    rw [hr] at hin;cases hin
   have hj2:j<l1.size:=Y;rw [oD hj2];simp only [jW,oD hj2,xy] at h;simpa using h
 have same:∀(l1 l:Array Bool),l1.size=m -> l.size=D.size -> (∀j,j<m -> l[j]?=l1[j]?) -> (∀j,m <= j -> l[j]?=D[j]?) -> Region.ready .any (jT ops m) l1=[] -> l=D:=by
  intro l1 l hs1 hs2 he1 he2 hr;refine EE λj=>?_;by_cases hj:j<m
  ·rw [he1 j hj,over l1 l hs1 hm he1 hr j hj,hDt j hj]
  exact he2 j Y
 have getD_eq:∀(l1 l:Array Bool)(j:Nat)(d:Bool),l[j]?=l1[j]? -> l.getD j d=l1.getD j d:=λl1 l j d h=>by
  rw [jW,jW,h]
 intro f;induction f with
 |zero=>
  intro l1 l a w hs1 hs2 hmD he1 he2 hcl H;rw [cq,same l1 l hs1 hs2 he1 he2 H.1];exact hn a w H.2
 |succ f ih=>
  intro l1 l a w hs1 hs2 hmD he1 he2 hcl H;by_cases hr:Region.ready .any (jT ops m) l1=[]
  ·rw [same l1 l hs1 hs2 he1 he2 hr];exact OO f2 _ _ _ (hn a w (H.1 hr)) (f+1)
  obtain ⟨k,hk⟩:=List.exists_mem_of_ne_nil _ hr;obtain ⟨hku,ok,hok,aI3⟩:=mem_ready.1 hk;have hkm:k<m:=by
   by_cases h:k<m
   ·exact h
   rw [vL,if_neg h] at hok;cases hok
  rw [vL,if_pos hkm] at hok;have hk1:l1[k]?=some false:=by
   have hks:k<l1.size:=Y;rw [jW,oD hks] at hku;rw [oD hks];simpa using hku
  rw [show f+1+f2=(f+f2)+1 by omega];refine ⟨λh0=>?_,λi hi=>?_⟩
  ·exfalso;have hin:k∈Region.ready .any ops l:=by
    refine mem_ready.2 ⟨Mp,ok,hok,λe he hb=>?_⟩;have h2:=hcs k ok hok;rw [if_pos hkm] at h2;have h3:=h2.2 e he hb;rw [getD_eq l1 l e.on false (he1 _ Y)];exact aI3 e he hb
   rw [h0] at hin;cases hin
  obtain ⟨hiu,o,ho,hall⟩:=mem_ready.1 hi;have h2:=hcs i o ho;by_cases him:i<m
  ·rw [if_pos him] at h2;have ho1:(jT ops m)[i]?=some o:=by rw [vL,if_pos him];exact ho
   have hi1:i∈Region.ready .any (jT ops m) l1:=by
    refine mem_ready.2 ⟨MY,o,ho1,λe he hb=>?_⟩;have h3:=h2.2 e he hb;rw [←getD_eq l1 l e.on false (he1 _ Y)];exact hall e he hb
   have h4:=H.2 i hi1;have hw:∀y,Region.wanted o y=true:=λy=>by unfold Region.wanted;rw [h2.1]
   unfold wpOp at h4⊢;rw [ho1] at h4;rw [ho];dsimp only at h4⊢;rw [if_pos (hw _)] at h4⊢;have hL:LetsOut Q1 -> LetsOut Q:=λ⟨a,w,h⟩=>⟨a,w,hq _ a w aM h⟩;rcases h4 with h4|⟨h5,h6⟩
   ·refine .inl (Oper.Fm (λa' w' h'=>ih (l1.setIfInBounds i true) (l.setIfInBounds i true) a' w' (by simpa using hs1) (by simpa using hs2) hmD (λj hj=>?_) (λj hj=>?_) (λq oq hoq hlq e he hb=>?_) h') hq hL h4)
    ·rw [pe,pe];by_cases hij:i=j
     ·rw [if_pos hij,if_pos hij,if_pos Y,if_pos Y]
     rw [if_neg hij,if_neg hij];exact he1 j hj
    ·rw [pe,if_neg Y];exact he2 j hj
    have hup:∀z,l.getD z false=true -> (l.setIfInBounds i true).getD z false=true:=λz hz=>by
     rw [jW] at hz⊢;rw [pe];split
     ·split
      ·rfl
      rw [qO Y] at hz;cases hz
     exact hz
    by_cases hqi:i=q
    ·subst hqi;obtain rfl:=mU (ho.symm.trans hoq);exact hup _ (hall e he hb)
    refine hup _ (hcl q oq hoq ?_ e he hb);rw [jW,pe,if_neg hqi] at hlq;rw [jW];exact hlq
   exact .inr ⟨h5,hL h6⟩
  exfalso;rw [if_neg him] at h2;have h3:l.getD k false=true:=F2 (L:=λz=>l.getD z false=true) hcl 2 _ (λx hx=>by
   unfold qt at hx;rw [nd,ho] at hx;obtain ⟨e,he,h2⟩:=CL.1 hx;split at h2
   ·rename_i hb;cases h2;exact hall e uv hb
   cases h2) k (h2 k hkm)
  rw [getD_eq l1 l k false (he1 k hkm),jW,hk1] at h3;cases h3
def Xh{P:Program}{id:Nat}{ops:Array Oper}{st:AS}{Q:Exit -> AS -> Prop}(m:Nat)(Z1 Z2:List Nat)(D:Array Bool)(hm:P.follows .mixedOrders=true)(hc:(Gg ops m,decide (m <= ops.size),decide (D.size=ops.size),(List.range m).all (λj=>D[j]? == some true),(List.range ops.size).all (λj=>decide (j<m)||D[j]? == some false))=(true,true,true,true,true))
  (h:dq P (jT ops m) Z1 m (Array.replicate m false) st (λst'=>dq P ops Z2 (ops.size-m) D st' (Q .normal))):bi P (.region id ops true) st Q:=by
 simp only [jB,decide_eq_true_eq,fC,pI,beq_iff_eq,nP] at hc;obtain ⟨hc1,hc2,hc3,hc4,hc5⟩:=hc;intro a w hs QQ hQ;refine Code.wp_mono (Q:=λe a' w'=>match e with|.normal=>QQ .normal a' w'|_=>False) Ji ?_;refine wp_region_any hm ?_;show wpAny P .any ops _ ops.size (Array.replicate ops.size false) a w.drew;rw [show ops.size=m+(ops.size-m) by omega];refine XA (Q1:=λe a' w'=>match e with|.normal=>∃st',dq P ops Z2 (ops.size-m) D st' (Q .normal) /\ e0 st' a' w' /\ iT st w.drew st' w'|_=>False) (D:=D) hc1 hc2 hc4 ?_ ?_ m (Array.replicate m false) _ a w.drew aM dr Y (λj hj=>?_) (λj hj=>?_) (λi o _ h=>?_) ?_
 ·rintro a' w' ⟨st',h1,h2,h3⟩;exact wpAny_of_held _ _ _ _ (h1 a' w' h2 _ (λ_ _ _ q=>q) λa2 w2 st2 q2 s2 k2=>hQ _ a2 w2 st2 q2 s2 (by
   have k:=h3.trans k2;exact ⟨⟨k.keep.os,k.keep.tape,k.keep.output,k.keep.size,k.keep.block⟩,⟨k.ls.os,k.ls.tape,k.ls.output,k.ls.size,k.ls.block⟩,k.bl,k.T⟩))
 ·intro e a' w' he q;cases e with
  |normal=>exact absurd rfl he
  |_=>exact q.elim
 ·rw [DD,DD,if_pos Y,if_pos hj]
 ·rw [DD];by_cases hjn:j<ops.size
  ·rw [if_pos Y,(hc5 j hjn).resolve_left Y]
  rw [if_neg Y,qO Y]
 ·exfalso;rw [jW,DD] at h;split at h<;>cases h
 exact wpAny_of_held _ _ _ _ (h a w.drew hs.drew _ (λ_ _ _ q=>q) λa' w' st' q s' k=>⟨st',q,s',k⟩)
def lQ{P:Program}{id:Nat}{l l1 l2:List Oper}{st:AS}{Q:Exit -> AS -> Prop}(m:Nat)(Z1 Z2:List Nat)(D:Array Bool)[hs:pY m l l1 l2](hm:P.follows .mixedOrders=true)(hc:(Gg l.toArray m,decide (m <= l.toArray.size),decide (D.size=l.toArray.size),(List.range m).all (λj=>D[j]? == some true),(List.range l.toArray.size).all (λj=>decide (j<m)||D[j]? == some false))=(true,true,true,true,true))(h1:l1.length=m)
  (h:dq P l1.toArray Z1 m (Array.replicate m false) st (λst'=>dq P l.toArray Z2 (l.toArray.size-m) D st' (Q .normal))):bi P (.region id l.toArray true) st Q:=by
 refine Xh m Z1 Z2 D hm hc ?_;rw [show jT l.toArray m=l1.toArray by unfold jT;rw [hs.h];simp only;rw [sN h1]];exact h
def nn{s:aI}{l:List UInt8}(h:s=bytes l):(s.toList == l)=true:=by subst h;rw [ByteArray.toList_eq];simp [bytes]
def oG{s:aI}{l:List UInt8}(h:s≠bytes l):(s.toList == l)=false:=by
 rw [beq_eq_false_iff_ne,ByteArray.toList_eq];intro e;apply h;apply CP;rw [e];simp [bytes]
def Vy(s:aI)(w:aa):Calls prog 199 #[.string s] w λe w'=>e=.returned (.tuple #[.int .i64 (binOp s).1,.int .i64 (binOp s).2]) /\ w=w':=by
 go_enter func199,Tryz.ntmps199
 by_cases h0:s=bytes [124,124]
 ·have g0:(s.toList == [124,124])=true:=nn h0;have hb:binOp s=(17,1):=by rw [binOp,if_pos h0]
  rw [hb];clear hb h0
  go_wp2_with fail
  refine bodyPost_ret (v:=.tuple #[.int .i64 17,.int .i64 1]) nK J ?_;exact ⟨J,J⟩
 have g0:(s.toList == [124,124])=false:=oG h0;by_cases h1:s=bytes [38,38]
 ·have g1:(s.toList == [38,38])=true:=nn h1;have hb:binOp s=(16,2):=by rw [binOp,if_neg h0,if_pos h1]
  rw [hb];clear hb h0 h1
  go_wp2_with fail
  refine bodyPost_ret (v:=.tuple #[.int .i64 16,.int .i64 2]) nK J ?_;exact ⟨J,J⟩
 have g1:(s.toList == [38,38])=false:=oG h1;by_cases h2:s=bytes [61,61]
 ·have g2:(s.toList == [61,61])=true:=nn h2;have hb:binOp s=(14,3):=by rw [binOp,if_neg h0,if_neg h1,if_pos h2]
  rw [hb];clear hb h0 h1 h2
  go_wp2_with fail
  refine bodyPost_ret (v:=.tuple #[.int .i64 14,.int .i64 3]) nK J ?_;exact ⟨J,J⟩
 have g2:(s.toList == [61,61])=false:=oG h2;by_cases h3:s=bytes [33,61]
 ·have g3:(s.toList == [33,61])=true:=nn h3;have hb:binOp s=(15,3):=by rw [binOp,if_neg h0,if_neg h1,if_neg h2,if_pos h3]
  rw [hb];clear hb h0 h1 h2 h3
  go_wp2_with fail
  refine bodyPost_ret (v:=.tuple #[.int .i64 15,.int .i64 3]) nK J ?_;exact ⟨J,J⟩
 have g3:(s.toList == [33,61])=false:=oG h3;by_cases h4:s=bytes [60]
 ·have g4:(s.toList == [60])=true:=nn h4;have hb:binOp s=(10,3):=by rw [binOp,if_neg h0,if_neg h1,if_neg h2,if_neg h3,if_pos h4]
  rw [hb];clear hb h0 h1 h2 h3 h4
  go_wp2_with fail
  refine bodyPost_ret (v:=.tuple #[.int .i64 10,.int .i64 3]) nK J ?_;exact ⟨J,J⟩
 have g4:(s.toList == [60])=false:=oG h4;by_cases h5:s=bytes [60,61]
 ·have g5:(s.toList == [60,61])=true:=nn h5;have hb:binOp s=(11,3):=by rw [binOp,if_neg h0,if_neg h1,if_neg h2,if_neg h3,if_neg h4,if_pos h5]
  rw [hb];clear hb h0 h1 h2 h3 h4 h5
  go_wp2_with fail
  refine bodyPost_ret (v:=.tuple #[.int .i64 11,.int .i64 3]) nK J ?_;exact ⟨J,J⟩
 have g5:(s.toList == [60,61])=false:=oG h5;by_cases h6:s=bytes [62]
 ·have g6:(s.toList == [62])=true:=nn h6;have hb:binOp s=(12,3):=by rw [binOp,if_neg h0,if_neg h1,if_neg h2,if_neg h3,if_neg h4,if_neg h5,if_pos h6]
  rw [hb];clear hb h0 h1 h2 h3 h4 h5 h6
  go_wp2_with fail
  refine bodyPost_ret (v:=.tuple #[.int .i64 12,.int .i64 3]) nK J ?_;exact ⟨J,J⟩
 have g6:(s.toList == [62])=false:=oG h6;by_cases h7:s=bytes [62,61]
 ·have g7:(s.toList == [62,61])=true:=nn h7;have hb:binOp s=(13,3):=by rw [binOp,if_neg h0,if_neg h1,if_neg h2,if_neg h3,if_neg h4,if_neg h5,if_neg h6,if_pos h7]
  rw [hb];clear hb h0 h1 h2 h3 h4 h5 h6 h7
  go_wp2_with fail
  refine bodyPost_ret (v:=.tuple #[.int .i64 13,.int .i64 3]) nK J ?_;exact ⟨J,J⟩
 have g7:(s.toList == [62,61])=false:=oG h7;by_cases h8:s=bytes [43]
 ·have g8:(s.toList == [43])=true:=nn h8;have hb:binOp s=(8,4):=by rw [binOp,if_neg h0,if_neg h1,if_neg h2,if_neg h3,if_neg h4,if_neg h5,if_neg h6,if_neg h7,if_pos h8]
  rw [hb];clear hb h0 h1 h2 h3 h4 h5 h6 h7 h8
  go_wp2_with fail
  refine bodyPost_ret (v:=.tuple #[.int .i64 8,.int .i64 4]) nK J ?_;exact ⟨J,J⟩
 have g8:(s.toList == [43])=false:=oG h8;by_cases h9:s=bytes [45]
 ·have g9:(s.toList == [45])=true:=nn h9;have hb:binOp s=(9,4):=by rw [binOp,if_neg h0,if_neg h1,if_neg h2,if_neg h3,if_neg h4,if_neg h5,if_neg h6,if_neg h7,if_neg h8,if_pos h9]
  rw [hb];clear hb h0 h1 h2 h3 h4 h5 h6 h7 h8 h9
  go_wp2_with fail
  refine bodyPost_ret (v:=.tuple #[.int .i64 9,.int .i64 4]) nK J ?_;exact ⟨J,J⟩
 have g9:(s.toList == [45])=false:=oG h9;by_cases h10:s=bytes [42]
 ·have g10:(s.toList == [42])=true:=nn h10;have hb:binOp s=(5,5):=by rw [binOp,if_neg h0,if_neg h1,if_neg h2,if_neg h3,if_neg h4,if_neg h5,if_neg h6,if_neg h7,if_neg h8,if_neg h9,if_pos h10]
  rw [hb];clear hb h0 h1 h2 h3 h4 h5 h6 h7 h8 h9 h10
  go_wp2_with fail
  refine bodyPost_ret (v:=.tuple #[.int .i64 5,.int .i64 5]) nK J ?_;exact ⟨J,J⟩
 have g10:(s.toList == [42])=false:=oG h10;by_cases h11:s=bytes [47]
 ·have g11:(s.toList == [47])=true:=nn h11;have hb:binOp s=(6,5):=by rw [binOp,if_neg h0,if_neg h1,if_neg h2,if_neg h3,if_neg h4,if_neg h5,if_neg h6,if_neg h7,if_neg h8,if_neg h9,if_neg h10,if_pos h11]
  rw [hb];clear hb h0 h1 h2 h3 h4 h5 h6 h7 h8 h9 h10 h11
  go_wp2_with fail
  refine bodyPost_ret (v:=.tuple #[.int .i64 6,.int .i64 5]) nK J ?_;exact ⟨J,J⟩
 have g11:(s.toList == [47])=false:=oG h11;by_cases h12:s=bytes [37]
 ·have g12:(s.toList == [37])=true:=nn h12;have hb:binOp s=(7,5):=by rw [binOp,if_neg h0,if_neg h1,if_neg h2,if_neg h3,if_neg h4,if_neg h5,if_neg h6,if_neg h7,if_neg h8,if_neg h9,if_neg h10,if_neg h11,if_pos h12]
  rw [hb];clear hb h0 h1 h2 h3 h4 h5 h6 h7 h8 h9 h10 h11 h12
  go_wp2_with fail
  refine bodyPost_ret (v:=.tuple #[.int .i64 7,.int .i64 5]) nK J ?_;exact ⟨J,J⟩
 have g12:(s.toList == [37])=false:=oG h12;have hb:binOp s=(0,0):=by rw [binOp,if_neg h0,if_neg h1,if_neg h2,if_neg h3,if_neg h4,if_neg h5,if_neg h6,if_neg h7,if_neg h8,if_neg h9,if_neg h10,if_neg h11,if_neg h12]
 rw [hb];clear hb h0 h1 h2 h3 h4 h5 h6 h7 h8 h9 h10 h11 h12
 go_wp2_with fail
 refine bodyPost_ret (v:=.tuple #[.int .i64 0,.int .i64 0]) nK J ?_;exact ⟨J,J⟩
def mB:List ByteArray:=[⟨#[]⟩,⟨#[]⟩,⟨#[]⟩,⟨#[45]⟩,⟨#[33]⟩,⟨#[42]⟩,⟨#[47]⟩,⟨#[37]⟩,⟨#[43]⟩,⟨#[45]⟩,⟨#[60]⟩,⟨#[60,61]⟩,⟨#[62]⟩,⟨#[62,61]⟩,⟨#[61,61]⟩,⟨#[33,61]⟩,⟨#[38,38]⟩,⟨#[124,124]⟩]
structure tV (w:World):Prop where
 signs:∀j (h:j<mB.length),w.cell? ⟨3,j,none⟩=some (.string mB[j])
def tV.keep{L:List Nat}{w w':aa}(h:tV w)(hk:cQ L w w')(hn:3∉L):tV w':=
 ⟨λj hj=>by rw [hk.cell (mj (h.signs j hj)) hn];exact h.signs j hj⟩
def tV.below{w w':aa}(h:tV w)(hb:Below w.heap.size w w'):tV w':=h.keep (L:=[]) (cQ.of_below hb) aM
def f8(op:Int):Nat:=if op=17 then 1 else if op=16 then 2 else if 10 <= op /\ op <= 15 then 3 else if op=8∨op=9 then 4 else if 5 <= op /\ op <= 7 then 5 else if op=3∨op=4 then 6 else if op=1∨op=2 then 7 else 0
def To:∀j (h:j<mB.length),j≠1 -> j≠2 -> j≠3 -> j≠4 -> (binOp mB[j]).2=f8 j:=V
def J4(op:Int)(h:op<0∨18 <= op):f8 op=0:=by
 unfold f8
 repeat rw [if_neg Y]
def ED(op:Int)(h:1 <= op /\ op <= 17):f8 op=dN op+1:=by
 unfold f8 dN;split
 ·rfl
 split
 ·rfl
 split
 ·rfl
 split
 ·rfl
 split
 ·rfl
 split
 ·rfl
 rw [if_pos Y]
def UF(op:Int)(w:aa)(he:tV w):Calls prog 186 #[.int .i64 op] w λe w'=>e=.returned (.int .i64 (f8 op)) /\ w=w':=by
 have HE:=Lib.hid he;clear he;by_cases h1:op=1
 ·subst h1
  go_enter vX,Tryz.ntmps186
  go_wp2_with fail
  go_ret
  exact ⟨J,J⟩
 by_cases h2:op=2
 ·subst h2
  go_enter vX,Tryz.ntmps186
  go_wp2_with fail
  go_ret
  exact ⟨J,J⟩
 by_cases h3:op=3
 ·subst h3
  go_enter vX,Tryz.ntmps186
  go_wp2_with fail
  go_ret
  exact ⟨J,J⟩
 by_cases h4:op=4
 ·subst h4
  go_enter vX,Tryz.ntmps186
  go_wp2_with fail
  go_ret
  exact ⟨J,J⟩
 have b1:(op == 1)=false:=ta;have b2:(op == 2)=false:=qD;have b3:(op == 3)=false:=wX;have b4:(op == 4)=false:=by simpa using h4
 by_cases hneg:op<0
 ·have hd:decide (op<0)=true:=by simpa using hneg
  have hs:=J4 op (.inl hneg);rw [hs];clear hs h1 h2 h3 h4
  go_enter vX,Tryz.ntmps186
  go_wp2_with fail
  go_ret
  exact ⟨J,J⟩
 have hd:decide (op<0)=false:=by simpa using hneg
 by_cases hbig:18 <= op
 ·have hd2:decide (18 <= op)=true:=by simpa using hbig
  have hs:=J4 op (.inr hbig);rw [hs];clear hs h1 h2 h3 h4
  go_enter vX,Tryz.ntmps186
  go_wp2_with fail
  go_ret
  exact ⟨J,J⟩
 obtain ⟨j,rfl⟩:∃j:Nat,op=j:=⟨op.toNat,Y⟩;have hj:j<mB.length:=by simp [mB];omega
 have hs:=To j hj Y Y Y Y;have hc:=HE.out.signs j hj;have hd2:decide ((18:Int) <= j)=false:=by simpa using hbig
 have hlt:(j:Int)<18:=Y;obtain ⟨s,hs2⟩:∃s,s=mB[j]:=⟨_,rfl⟩;rw [←hs2] at hs hc;rw [←hs];clear hs h1 h2 h3 h4 hs2
 go_enter vX,Tryz.ntmps186
 go_wp2_with fail
 refine (Vy s w).mono ?_;rintro e w' ⟨rfl,rfl⟩
 go_wp2_with fail
 go_ret
 exact ⟨J,J⟩
structure pJ (w:World):Prop where
 words:∀j (h:j<words.length),w.cell? ⟨0,j,none⟩=some (.string words[j])
 maxLen:∃m:Int,w.cell? ⟨2,0,none⟩=some (.int .i64 m)
 signs:tV w
 tab : Lib.TabIs prog w "internal/strconv.uint64pow10" .u64 Lib.pow10Tab
def pJ.up{w w':aa}(h:pJ w)(hu:f7 w w'):pJ w':=by
 refine ⟨λj hj=>hu.1 _ _ (h.words j hj),h.maxLen.imp λm hm=>hu.1 _ _ hm,⟨λj hj=>hu.1 _ _ (h.signs.signs j hj)⟩,?_⟩;have h1:=h.tab;unfold Lib.TabIs World.var? at h1⊢;cases hg : prog.globalNamed "internal/strconv.uint64pow10" with
 |none=>rw [hg] at h1;exact absurd h1 aM
 |some g=>
  rw [hg,Option.bind_some] at h1;rw [Option.bind_some];cases hb:w.heap[g]? with
  |none=>rw [hb] at h1;exact absurd h1 aM
  |some o=>
   rw [hb] at h1;cases o with
   |cells cs t fz=>
    simp only [zJ] at h1;subst h1;rw [hu.2 g _ t fz hb (by rw [xm,gS];decide)]
   |_=>exact absurd h1 aM
abbrev cL(t:AT):AT:=.ride t pJ
def xd{w:aa}{t u:AT}{p:aa -> Prop}{v0 v:aN}(h0:cS w (.ride t p) v0)(h:cS w u v):cS w (.ride u p) v:=by
 cases h0 with|ride _ _ _ _ hp=>exact .ride _ _ _ h hp
def F4{bl:List Nat}{w:aa}{t:AT}{p:aa -> Prop}{v:aN}(h:cS (bh bl w) (.ride t p) v):p w:=by
 cases h with|ride _ _ _ _ hp=>exact hp w (R7 bl w)
def M7{w:aa}{t:AT}{p:aa -> Prop}{v:aN}(h:cS w (.ride t p) v):p w:=by
 cases h with|ride _ _ _ _ hp=>exact hp w ⟨λ_ _ h=>h,λ_ _ _ _ h _=>h⟩
def N5{w:aa}{t:AT}{v:aN}(h:cS w t v)(he:pJ w):cS w (cL t) v:=.ride _ _ _ h λ_ hu=>he.up hu
def Ml{t:AT}{p:aa -> Prop}:bI (.ride t p) t:=λw v h=>by cases h with|ride _ _ _ h _=>exact h
def YC{w:aa}{t u:AT}{v0 v:aN}(h0:cS w (cL t) v0)(h:cS w u v):∃m,cS w (IJ u m) v:=by
 have he:=M7 h0;obtain ⟨m,hm⟩:=he.maxLen;refine ⟨m,.fact _ _ _ _ [.int .i64 m] _ (.fact _ _ _ _ (words.map .string) _ h ?_ ?_) ?_ ?_⟩
 ·have h9:=oK w (words.map .string) zu;rw [o8] at h9;exact h9
 ·intro j u hj;have hjl:j<words.length:=by have:=(mN.1 hj).1;simpa using this
  rw [cq,he.words j hjl];rw [nz,kl hjl] at hj;exact hj
 ·exact oK _ [.int .i64 m] (λu hu=>by simp at hu;subst hu;rfl)
 intro j u hj
 match j,hj with
 |0,hj=>simp at hj;subst hj;exact hm
 |j+1,hj=>simp at hj
section
variable {P:Program}{U T:List Nat}{o:Oper}{n d:Nat}{ts:List (Nat×AT)}{s:aH}{K:AS -> Prop}{p:World -> Prop}{t0 u:AT}{us:List AT}{ops:Array Oper}{l:List Oper}{Q:Exit -> AS -> Prop}
theorem pV{F:FuncId}{ks:Array bb}{rg:Array ax}(i0:Nat)(T':List Nat){QQ:AT -> aH -> Prop}(ho:o.op=.call {callee:=.value (.func F),args:=ks,argTypes:=rg})(hd:o.dst=some d)(hn:d<n)
  (hcf:∀args w,(callFunc F args).run P w=.ok (.enter F args) w) (hl:look ts i0=some (.ride t0 p)) (has:ks.toList.map (aw ⟨n,T,s,ts⟩)=(u::us).map some) (hc:aT P F (.ride u p::us) T' s QQ) (hT:∀b,b∈T' -> b∈T) (ur:∀b,b∈T' -> b∈s.bl) (hU:s.bl.Nodup -> ∀b,b∈T' -> b∈U)
  (h:∀r s',QQ r s' -> K ⟨n,T,s',(d,r)::ts⟩):db P U o ⟨n,T,s,ts⟩ K:=by
 intro a w hs KK QQ' hK;obtain ⟨h1,h2⟩:=pZ hs has;obtain ⟨v0,-,hv0⟩:=hs.tm i0 _ hl;refine EW (st:=⟨n,T,s,ts⟩) (ts:=.ride u p::us) hs hd hn h1 (λi hi hi'=>?_) ?_ hc hT ur hU h KK QQ' hK
 ·match i,hi with
  |0,hi=>exact xd hv0 (h2 0 aM hi')
  |i+1,hi=>exact h2 (i+1) pz hi'
 ·simp only [execOp,ho,resolve,Deferred.ofValue,Act.eval,dK,fo,eu,invoke];rw [hcf]
  congr 2
  rw [←oZ];simp
theorem Gb{F:FuncId}{ks:Array bb}{rg:Array ax}(i0:Nat)(T':List Nat){QQ:AT -> aH -> Prop}(ho:o.op=.call {callee:=.value (.func F),args:=ks,argTypes:=rg})(hd:o.dst=some d)(hn:d<n)
  (hcf:∀args w,(callFunc F args).run P w=.ok (.enter F args) w) (hl:look ts i0=some (cL t0)) (has:ks.toList.map (aw ⟨n,T,s,ts⟩)=(u::us).map some) (hc:∀m,aT P F (IJ u m::us) T' s QQ) (hT:∀b,b∈T' -> b∈T) (ur:∀b,b∈T' -> b∈s.bl) (hU:s.bl.Nodup -> ∀b,b∈T' -> b∈U)
  (h:∀r s',QQ r s' -> K ⟨n,T,s',(d,r)::ts⟩):db P U o ⟨n,T,s,ts⟩ K:=by
 intro a w hs KK QQ' hK;obtain ⟨h1,h2⟩:=pZ hs has;obtain ⟨v0,-,hv0⟩:=hs.tm i0 _ hl;obtain ⟨m,hm⟩:=YC hv0 (h2 0 aM (by rw [h1];simp));refine EW (st:=⟨n,T,s,ts⟩) (ts:=IJ u m::us) hs hd hn h1 (λi hi hi'=>?_) ?_ (hc m) hT ur hU h KK QQ' hK
 ·match i,hi with
  |0,hi=>exact hm
  |i+1,hi=>exact h2 (i+1) pz hi'
 ·simp only [execOp,ho,resolve,Deferred.ofValue,Act.eval,dK,fo,eu,invoke];rw [hcf]
  congr 2
  rw [←oZ];simp
theorem S9{F:FuncId}{x:bb}{cap:Array aN}{ks:Array bb}{rg:Array ax}(i0:Nat)(T':List Nat){QQ:AT -> aH -> Prop}(ho:o.op=.call {callee:=.value x,args:=ks,argTypes:=rg})(hx:aw ⟨n,T,s,ts⟩ x=some (ap (.func (.func F) #[] cap)))(hd:o.dst=some d)(hn:d<n)
  (hcf:∀args w,(callFunc F args).run P w=.ok (.enter F args) w) (hl:look ts i0=some (.ride t0 p)) (has:ks.toList.map (aw ⟨n,T,s,ts⟩)=(u::us).map some) (hc:aT P F (.ride u p::(us++cap.toList.map gO)) T' s QQ) (hT:∀b,b∈T' -> b∈T) (ur:∀b,b∈T' -> b∈s.bl) (hU:s.bl.Nodup -> ∀b,b∈T' -> b∈U)
  (h:∀r s',QQ r s' -> K ⟨n,T,s',(d,r)::ts⟩):db P U o ⟨n,T,s,ts⟩ K:=by
 intro a w hs KK QQ' hK;obtain ⟨h1,h2⟩:=pZ hs has;obtain ⟨v0,-,hv0⟩:=hs.tm i0 _ hl;obtain ⟨fK,fe⟩:=Bd (bh s.bl w) cap.toList;have h3:(ks.toList.map a.eval).length=(AT.ride u p::us).length /\ ∀i (h:i<(AT.ride u p::us).length) (h':i<(ks.toList.map a.eval).length),cS (bh s.bl w) (AT.ride u p::us)[i] (ks.toList.map a.eval)[i]:=by
  refine ⟨h1,λi hi hi'=>?_⟩
  match i,hi with
  |0,hi=>exact xd hv0 (h2 0 aM hi')
  |i+1,hi=>exact h2 (i+1) pz hi'
 obtain ⟨g3,g4⟩:=EG h3.1 h3.2 fK fe;refine EW (st:=⟨n,T,s,ts⟩) (ts:=.ride u p::(us++cap.toList.map gO)) hs hd hn g3 g4 ?_ hc hT ur hU h KK QQ' hK;simp only [execOp,ho,resolve,hs.val hx,Deferred.ofValue,dK,fo,eu,invoke];rw [hcf]
 congr 2
 rw [←oZ];simp
theorem rq{X:List Nat}:∀b,b∈([]:List Nat) -> b∈X:=λ_ h=>gQ
theorem kP{F:FuncId}{ks:Array bb}{rg:Array ax}{r:AT}(i0:Nat)(h0:(d6 ops o ⟨n,T,s,ts⟩,o.op,o.dst,Nat.blt d n,look ts i0)=(some true,.call {callee:=.value (.func F),args:=ks,argTypes:=rg},some d,true,some (.ride t0 p)))
  (hcf:∀args w,(callFunc F args).run P w=.ok (.enter F args) w) (has:ks.toList.map (aw ⟨n,T,s,ts⟩)=(u::us).map some) (hc:aT P F (.ride u p::us) [] s λt s'=>t=r /\ s'=s) (h:cN P ops l ⟨n,T,s,(d,r)::ts⟩ Q):cN P ops (o::l) ⟨n,T,s,ts⟩ Q:=by
 simp only [jB] at h0;exact aW h0.1 (pV i0 [] h0.2.1 h0.2.2.1 (fV h0.2.2.2.1) hcf h0.2.2.2.2 has hc rq rq (λ_=>rq) λr s' ⟨h1,h2⟩=>Hi)
theorem d9{F:FuncId}{ks:Array bb}{rg:Array ax}{b c:Bool}(i0:Nat)(h0:(d6 ops o ⟨n,T,s,ts⟩,o.op,o.dst,Nat.blt d n,look ts i0)=(some true,.call {callee:=.value (.func F),args:=ks,argTypes:=rg},some d,true,some (.ride t0 p)))
  (hcf:∀args w,(callFunc F args).run P w=.ok (.enter F args) w) (has:ks.toList.map (aw ⟨n,T,s,ts⟩)=(u::us).map some) (hc:aT P F (.ride u p::us) [] s λt s'=>t=au b /\ s'=s) (hb:b=c) (h:cN P ops l ⟨n,T,s,(d,au c)::ts⟩ Q):cN P ops (o::l) ⟨n,T,s,ts⟩ Q:=by
 subst hb;exact kP i0 h0 hcf has hc h
theorem pM{F:FuncId}{ks:Array bb}{rg:Array ax}{r:AT}(h0:(d6 ops o ⟨n,T,s,ts⟩,o.op,o.dst,Nat.blt d n)=(some true,.call {callee:=.value (.func F),args:=ks,argTypes:=rg},some d,true))
  (hcf:∀args w,(callFunc F args).run P w=.ok (.enter F args) w) (has:ks.toList.map (aw ⟨n,T,s,ts⟩)=us.map some) (hc:aT P F us [] s λt s'=>t=r /\ s'=s) (h:cN P ops l ⟨n,T,s,(d,r)::ts⟩ Q):cN P ops (o::l) ⟨n,T,s,ts⟩ Q:=by
 simp only [jB] at h0;exact aW h0.1 (bo [] h0.2.1 h0.2.2.1 (fV h0.2.2.2) hcf has hc rq rq (λ_=>rq) λr s' ⟨h1,h2⟩=>Hi)
theorem tS{F:FuncId}{ks:Array bb}{rg:Array ax}{b c:Bool}(h0:(d6 ops o ⟨n,T,s,ts⟩,o.op,o.dst,Nat.blt d n)=(some true,.call {callee:=.value (.func F),args:=ks,argTypes:=rg},some d,true))
  (hcf:∀args w,(callFunc F args).run P w=.ok (.enter F args) w) (has:ks.toList.map (aw ⟨n,T,s,ts⟩)=us.map some) (hc:aT P F us [] s λt s'=>t=au b /\ s'=s) (hb:b=c) (h:cN P ops l ⟨n,T,s,(d,au c)::ts⟩ Q):cN P ops (o::l) ⟨n,T,s,ts⟩ Q:=by
 subst hb;exact pM h0 hcf has hc h
theorem Tr{t e:ax}{y:bb}{k:IntKind}{i:Int}{N:Nat}(i0 j:Nat)(ho:o.op=.indexAddr t (.global 3) y)(hl:look ts i0=some (cL t0))(hy:aw ⟨n,T,s,ts⟩ y=some (ap (.int k i)))(hi:i=j)(hj:j<mB.length)(hN:mB.length=N)
  (hu:∀w,(underlying t).run P w=.ok (.array N e) w) (hS:∀w,(sizeOf e).run P w=.ok 1 w):cp P U o ⟨n,T,s,ts⟩ (.el [ac (mB[j])]):=by
 intro a w hs _;subst hi;subst hN;obtain ⟨v0,-,hv0⟩:=hs.tm i0 _ hl;have he:=(M7 hv0).signs.signs j hj;refine ⟨.pointer (some ⟨3,j,none⟩),.el _ _ _ [.string mB[j]] (oK _ [.string mB[j]] (λu hu=>by simp at hu;subst hu;rfl)) (λi u hu=>?_) (mj he),λw' _=>?_⟩
 ·match i,hu with
  |0,hu=>simp at hu;subst hu;exact he
  |i+1,hu=>simp at hu
 ·simp only [execOp,ho,hs.val hy,show a.eval (.global 3)=.pointer (some ⟨3,0,none⟩) from rfl,Instr.indexAt,asIntOf,dK,fo,eu,hu];simp [go_sem,hS,hj,tZ]
end
end
section
def B7(t:Tok):Prop:=(t.kind=3 -> fT t.text=true) /\ (t.kind=4 -> fT t.text=false) /\ t.num <= 9223372036854775807
def LH:∀(r:List UInt8)(n m:Nat),n <= 9223372036854775807 -> fY n r=some m -> m <= 9223372036854775807
 |[],n,m,h,he=>by unfold fY at he;cases he;exact h
 |c::r,n,m,h,he=>by
  unfold fY at he;split at he
  ·cases he
  exact LH r _ m (by have:=c.toNat_lt;omega) he
def XN:∀x,x∈words -> gH (x.data.toList.headD 0)=true:=V
def XI{c:UInt8}{r:List UInt8}(h:gH c=false){n:Nat}(hn:n≠0):fT (bytes ((c::r).take n))=false:=by
 cases hr:fT (bytes ((c::r).take n)) with
 |false=>rfl
 |true=>
  have h1:=XN _ ((F8 _).1 hr);obtain ⟨m,rfl⟩:∃m,n=m+1:=⟨n-1,Y⟩;simp [bytes] at h1;rw [h] at h1;cases h1
def Ya{c:UInt8}{r:List UInt8}{kind len num:Nat}(p:Nat)(h:eK (c::r)=.tok kind len num):B7 ⟨kind,bytes ((c::r).take len),num,p⟩ /\ kind≠5:=by
 cases hc:gH c with
 |true=>
  rw [ut hc] at h;split at h
  ·cases h
  ·injection h with h1 h2 h3
   subst h2;subst h3;subst h1;have ht:(c::r).take ((c::r).takeWhile dV).length=(c::r).takeWhile dV:=by
    have:=IB (l:=c::r) dV;exact (Il.1 this).symm
   rw [ht];refine ⟨⟨λh3=>?_,λh4=>?_,by show 0 <= _;omega⟩,?_⟩
   ·change (if fT (bytes ((c::r).takeWhile dV))=true then 3 else 1)=3 at h3;split at h3
    ·assumption
    omega
   ·change (if fT (bytes ((c::r).takeWhile dV))=true then 3 else 1)=4 at h4;split at h4<;>omega
   ·split<;>omega
 |false=>
  cases hd:dT c with
  |true=>
   cases hn:fY 0 ((c::r).takeWhile dT) with
   |none=>rw [yS hc hd hn] at h;cases h
   |some n=>
    rw [xO hc hd hn] at h;injection h with h1 h2 h3
    subst h1;subst h2;subst h3;exact ⟨⟨λh=>absurd h (show ¬(2=3) by decide),λh=>absurd h (show ¬(2=4) by decide),LH _ _ _ Y hn⟩,Y⟩
  |false=>
   rw [wB hc hd] at h;split at h
   ·cases h
   rename_i h0;injection h with h1 h2 h3
   subst h1;subst h2;subst h3;exact ⟨⟨λh=>absurd h (show ¬(4=3) by decide),λ_=>XI hc h0,eL _⟩,Y⟩
structure UY (l:List Tok):Prop where
 ends:rC l
 reg:∀t,t∈l -> B7 t
 few:l.length <= 4001
def Lv:∀(m:Nat)(s:List UInt8)(k n:Nat),s.length-k <= m -> k <= s.length -> n <= 4000 -> ∀L,gx s k n=.ok L -> (∃h:0<L.length,(L[L.length-1]'(by omega)).kind=5) /\ (∀t,t∈L -> B7 t) /\ L.length+n <= 4001
 |m,s,k,n,hm,hk,hn,L,h=>by
  by_cases he:s.length <= cc s k
  ·rw [Az he] at h;cases h;refine ⟨⟨aM,J⟩,λt ht=>?_,dr⟩;simp at ht;subst ht;exact ⟨λh=>gQ,λh=>gQ,by show 0 <= _;omega⟩
  have hlt:cc s k<s.length:=Y;cases hx:eK (s.drop (cc s k)) with
  |err e=>rw [ER hlt hx] at h;cases h
  |tok kind len num=>
   by_cases h4:n=4000
   ·subst h4;rw [C2 hlt hx] at h;cases h
   rw [Ds hk hlt hx h4] at h;have hg:=tT s k hk;have hd:s.drop (cc s k)≠[]:=Qv;have hl:=BF hd hx;rw [kA] at hl;obtain ⟨c,r,hcr⟩:=EO hd;rw [hcr] at hx h;have hreg:=Ya (cc s k) hx;cases m with
   |zero=>omega
   |succ m=>
    cases ht:gx s (cc s k+len) (n+1) with
    |err p e=>rw [ht] at h;cases h
    |ok L'=>
     rw [ht] at h;cases h;obtain ⟨⟨h0,h5⟩,h2,h3⟩:=Lv m s (cc s k+len) (n+1) Y Y Y L' ht;refine ⟨⟨aM,?_⟩,λt ht=>?_,dr⟩
     ·simp only [length_cons];rw [List.getElem_cons];rw [dif_neg Y];simpa using h5
     rcases mem_cons.1 ht with rfl|ht
     ·exact hreg.1
     exact h2 t ht
def Ga{s:List UInt8}{L:List Tok}(h:gj s=.ok L):UY L:=by
 unfold gj at h;split at h
 ·cases h
 obtain ⟨h1,h2,h3⟩:=Lv s.length s 0 0 Y Y Y L h;exact ⟨h1,h2,Y⟩
end
section
def SA{c:UInt8}{r:List UInt8}{len num:Nat}(h:eK (c::r)=.tok 1 len num):cH (bytes ((c::r).take len))=true:=by
 cases hc:gH c with
 |true=>
  rw [ut hc] at h;split at h
  ·cases h
  ·rename_i h16;injection h with h1 h2 h3
   subst h2;have ht:(c::r).take ((c::r).takeWhile dV).length=(c::r).takeWhile dV:=
    (Il.1 (IB (l:=c::r) dV)).symm
   rw [ht];have hn:dV c=true:=by simp [dV,hc]
   have hd:(bytes ((c::r).takeWhile dV)).data.toList=c::r.takeWhile dV:=by rw [uJ hn];simp [bytes]
   unfold cH;rw [hd];have hsz:(bytes ((c::r).takeWhile dV)).size=((c::r).takeWhile dV).length:=wm;have hres:fT (bytes ((c::r).takeWhile dV))=false:=by
    cases hr:fT (bytes ((c::r).takeWhile dV)) with
    |false=>rfl
    |true=>rw [if_pos hr] at h1;omega
   have hall:(r.takeWhile dV).all dV=true:=fC.2 λx hx=>by
    have:=FZ (p:=dV) (l:=r);exact fC.1 this x hx
   simp only [hc,hall,hres,hsz,decide_eq_true (show ((c::r).takeWhile dV).length <= 16 by omega),Bool.and_self,Bool.not_false]
 |false=>
  cases hd:dT c with
  |true=>
   cases hn:fY 0 ((c::r).takeWhile dT) with
   |none=>rw [yS hc hd hn] at h;cases h
   |some n=>rw [xO hc hd hn] at h;injection h with h1;omega
  |false=>
   rw [wB hc hd] at h;split at h
   ·cases h
   injection h with h1;omega
def P4:∀(m:Nat)(s:List UInt8)(k n:Nat),s.length-k <= m -> k <= s.length -> ∀L,gx s k n=.ok L -> ∀t,t∈L -> t.kind=1 -> cH t.text=true
 |m,s,k,n,hm,hk,L,h,t,ht,h1=>by
  by_cases he:s.length <= cc s k
  ·rw [Az he] at h;cases h;simp at ht;subst ht;cases h1
  have hlt:cc s k<s.length:=Y;cases hx:eK (s.drop (cc s k)) with
  |err e=>rw [ER hlt hx] at h;cases h
  |tok kind len num=>
   by_cases h4:n=4000
   ·subst h4;rw [C2 hlt hx] at h;cases h
   rw [Ds hk hlt hx h4] at h;have hg:=tT s k hk;have hd:s.drop (cc s k)≠[]:=Qv;have hl:=BF hd hx;rw [kA] at hl;obtain ⟨c,r,hcr⟩:=EO hd;rw [hcr] at hx h;cases m with
   |zero=>omega
   |succ m=>
    cases hq:gx s (cc s k+len) (n+1) with
    |err p e=>rw [hq] at h;cases h
    |ok L'=>
     rw [hq] at h;cases h;rcases mem_cons.1 ht with rfl|ht
     ·dsimp only at h1;subst h1;exact SA hx
     exact P4 m s (cc s k+len) (n+1) Y Y L' hq t ht h1
def UQ{s:List UInt8}{L:List Tok}(h:gj s=.ok L):∀t,t∈L -> t.kind=1 -> cH t.text=true:=by
 unfold gj at h;split at h
 ·cases h
 exact P4 s.length s 0 0 Y Y L h
def LJ{p:UInt8 -> Bool}:∀{l:List UInt8},(∀x,x∈l -> p x=true) -> l.takeWhile p=l
 |[],_=>rfl
 |x::l,h=>by rw [uJ (h x aM),LJ λy hy=>h y vd]
def Jf{c:UInt8}(h:gH c=true):isSp c=false /\ c≠47:=by
 unfold gH at h;rw [decide_eq_true_eq] at h;refine ⟨by unfold isSp;rw [decide_eq_false_iff_not];omega,?_⟩;rintro rfl
 revert h;decide
def MB{s:aI}(h:cH s=true):gj s.data.toList=.ok [⟨1,s,0,0⟩,⟨5,⟨#[]⟩,0,s.size⟩]:=by
 unfold cH at h;have hsz:s.size=s.data.toList.length:=J;have hb:bytes s.data.toList=s:=wL;rw [hsz] at h⊢;cases hd:s.data.toList with
 |nil=>rw [hd] at h;simp at h
 |cons c r=>
  rw [hd] at h hb;simp only [dm,decide_eq_true_eq,zq] at h;obtain ⟨⟨⟨h1,h2⟩,h3⟩,h4⟩:=h;have hall:(c::r).takeWhile dV=c::r:=LJ (by
   intro x hx;rcases mem_cons.1 hx with rfl|hx
   ·simp [dV,h1]
   exact fC.1 h2 x hx)
  have hk:cc (c::r) 0=0:=G0 _ 0 aM (Jf h1).1 (λh=>(Jf h1).2 h.1);unfold gj;rw [if_neg Y,gx,hk,if_neg aM,tH,ut h1,hall,if_neg Y];dsimp only;rw [if_neg Y,dif_pos ⟨aM,aM⟩,gx,GT _ _ aM,if_pos (bY _),hP,hb,h4]
  rfl
def zL{s:aI}{L:List Tok}(h:gj s.data.toList=.ok L):(L.length=2 /\ ∃h0:0<L.length,L[0].kind=1 /\ L[0].text=s)↔cH s=true:=by
 constructor
 ·rintro ⟨_,h0,h1,h2⟩;rw [←h2];exact UQ h _ (getElem_mem _) h1
 intro hn;rw [MB hn] at h;cases h;exact ⟨J,aM,J,J⟩
def OI{s:aI}{p e:Nat}(h:gj s.data.toList=.err p e):cH s=false:=by
 cases hn:cH s with
 |false=>rfl
 |true=>rw [MB hn] at h;cases h
end
section
open Go.RowKit
def OX{F:FuncId}{u0:aN}{us:List aN}{u:aN}(h1:u.oneCell'=true)(h:∀w,pJ w -> Calls prog F (u0::us).toArray w λe w'=>e=.returned u /\ w=w')(s:aH):aT prog F (cL (ap u0)::us.map λu=>ap u) [] s λr s'=>r=ap u /\ s'=s:=by
 intro vs w hm _ hl hr;cases vs with
 |nil=>cases hl
 |cons v vs=>
  have h0:cS (bh s.bl w) (cL (ap u0)) v:=hr 0 aM aM;obtain rfl:=(Ml _ _ h0).val;obtain rfl:vs=us:=by
   refine np uk λi h1 h2=>?_;have h3:=hr (i+1) qD ta;simp only [JF,qe] at h3;exact h3.val
  exact (h w (F4 h0)).mono λe w' ⟨h2,h3⟩=>ND
def Ck(op:Int)(s:aH):aT prog 186 [cL (aj op)] [] s λr s'=>r=aj (f8 op:Int) /\ s'=s:=
 OX (us:=[]) rfl (λw he=>UF op w he.signs) s
def Fh{op:Int}(h:f8 op=7):op=1∨op=2:=by
 unfold f8 at h;(repeat' split at h)<;>omega
def Wh{op:Int}(h:f8 op=6):op=3∨op=4:=by
 unfold f8 at h;(repeat' split at h)<;>omega
def Cy(op:Int):f8 op <= 7:=by unfold f8;(repeat' split)<;>omega
def VI{op:Int}(h:f8 op=0):¬(1 <= op /\ op <= 17):=by
 unfold f8 at h;(repeat' split at h)<;>omega
def EY{op:Int}(h:¬f8 op=0):1 <= op /\ op <= 17:=by
 unfold f8 at h;(repeat' split at h)<;>omega
def kZ(e:aS):Bool:=
 if f8 e.op=0 then false else if f8 e.op=7 then decide (e.args.length=0) && ll e.op e.num e.name
 else decide (e.args.length=if f8 e.op=6 then 1 else 2) && decide (e.num=0) && decide (e.name=ay) && fX e.args
def lO(e:aS):dy e=kZ e:=by
 rw [rU];unfold kZ;by_cases h0:f8 e.op=0
 ·have h1:=VI h0;have hs:dN e.op=6:=GW;have hl:ll e.op e.num e.name=false:=by
   unfold ll;rw [decide_eq_false (show ¬(e.op=1 /\ 0 <= e.num) by omega),decide_eq_false (show ¬(e.op=2 /\ e.num=0) by omega)];rfl
  rw [if_pos h0,if_pos hs,hl];rfl
 have hop:=EY h0;have h2:=ED e.op hop;rw [if_neg h0];by_cases h7:f8 e.op=7
 ·rw [if_pos h7,if_pos Y];unfold arity;rw [if_pos Y];cases ha:e.args with
  |nil=>simp [fX]
  |cons x l=>simp
 rw [if_neg h7,if_neg (by have:=Cy e.op;omega)];unfold arity;rw [if_neg (by have:=Cy e.op;omega)];by_cases h6:f8 e.op=6
 ·rw [if_pos h6,if_pos Y];cases decide (e.num=0)<;>cases decide (e.name=ay)<;>cases fX e.args<;>simp
 rw [if_neg h6,if_neg Y];cases decide (e.num=0)<;>cases decide (e.name=ay)<;>cases fX e.args<;>simp
def RZ:∀{l:List aS} (h:l.length=1),fX l=dy (l[0]'(by omega))
 |[x],_=>by simp [fX]
def Kx:∀{l:List aS} (h:l.length=2),fX l=(dy (l[0]'(by omega)) && dy (l[1]'(by omega)))
 |[x,y],_=>by simp [fX]
def mK{e:aS}(h:dy e=true):(1 <= e.op /\ e.op <= 17) /\ ∀k (hk:k<e.args.length),dy e.args[k]=true:=by
 refine ⟨EY λh0=>?_,λk hk=>?_⟩
 ·rw [lO] at h;unfold kZ at h;rw [if_pos h0] at h;cases h
 cases hs:dy e.args[k] with
 |true=>rfl
 |false=>
  rw [rU,Ak _ _ _ hs,ra] at h;cases h
def DO(e:aS)(k:Nat)(hk:k<e.args.length)(ho:1 <= e.op /\ e.op <= 17)(hok:1 <= e.args[k].op /\ e.args[k].op <= 17)(s:aH):aT prog 188 [cL (.agg (bf e)),ab k] [] s λt s'=>t=au (kE e.op k e.args[k].op) /\ s'=s:=by
 obtain ⟨bx,rw⟩:=s;refine bM 29 func188 ?_;refine go 7 λb1=>?_;refine bu [b1] (aU [0,1,2] 9 (go 4 ?_));refine aZ 3 J (bX bV bf e.args fw fR k J J J J Y V iR dl) (aU [4,5,7,8] 4 (go 5 ?_));refine aY 6 J J (pV 0 [] J J V call186 J J (Ck e.args[k].op _) dX dX (λ_=>dX) ?_);rintro _ _ ⟨rfl,rfl⟩;refine aY 9 J J (pV 0 [] J J V call186 J J (Ck e.op _) dX dX (λ_=>dX) ?_);rintro _ _ ⟨rfl,rfl⟩;refine aU [10,11] 0 (go 3 ?_);refine bC (go 3 ?_);have hs1:=ED e.op ho;have hs2:=ED e.args[k].op hok;refine go 2 ?_;by_cases h3:((f8 e.args[k].op:Nat):Int)<(f8 e.op:Int);focus
  refine aJ J (cw h3) (go 13 ?_)
 rotate_left;focus
  refine aF J (ct h3) (go 3 ?_);by_cases h4:((f8 e.args[k].op:Nat):Int)=(f8 e.op:Int);focus
   refine aJ J (bR h4) (go 2 ?_);by_cases h5:(k:Int)=1;focus
    refine aJ J (bR h5) (go 6 ?_)
   rotate_left;refine aF J (bN h5) (go 6 ?_)
  rotate_left 2;refine aF J (bN h4) (go 9 ?_)
 all_goals
  exact bF bx rw J cU ⟨bZ P7,J⟩
def T9(x:aI)(hx:x.size <= 4611686018427387904)(s:aH):aT prog 187 [cL (cK x)] [] s λt s'=>t=au (cH x) /\ s'=s:=by
 obtain ⟨bx,rw⟩:=s;refine bM 35 func187 ?_;refine go 8 ?_;refine aW J (B0 J J V J dz ky pR QU (N:=x.data.toList.length) J (cs:=cb x.data.toList) J ?_);refine aW J (Gb 0 [] J J V call94 J J (λm=>GY x.data.toList m _) dX dX (λ_=>dX) ?_);rintro _ _ ⟨(⟨tl1,JT,rfl,aSl⟩|⟨p1,ae,JT,rfl,he1⟩),rfl⟩
 ·refine go 12 ?_;refine aJ J jL (go 3 ?_);by_cases h2:(tl1.length:Int)=2
  ·refine aJ J (bR h2) (go 3 ?_);refine aC J (bX da da tl1 lN (λ_=>J) 0 J J J J Y V lA lE) (go 2 ?_);by_cases h3:((tl1[0].kind:Nat):Int)=1
   ·refine aJ J (bR h3) (go 3 ?_);refine aC J (bX da da tl1 lN (λ_=>J) 0 J J J J Y V lA lE) (go 3 ?_);by_cases h4:tl1[0].text=x
    ·refine aC J (fS true J J J (ob h4)) (go 5 ?_);exact bF bx rw J d3 ⟨bZ ((zL JT).1 ⟨Y,Y,Y,h4⟩),J⟩
    refine aC J (fS false J J J (o_ h4)) (go 5 ?_);exact bF bx rw J d3 ⟨bZ (kf.2 λhh=>Qi),J⟩
   refine aF J (bN h3) (go 13 ?_);exact bF bx rw J d3 ⟨bZ (kf.2 λhh=>KS),J⟩
  refine aF J (bN h2) (go 20 ?_);exact bF bx rw J d3 ⟨bZ (kf.2 λhh=>Km),J⟩
 refine go 12 ?_;refine aF J (bN Y) (go 24 ?_);exact bF bx rw J d3 ⟨bZ (OI JT),J⟩
def YU(e:aS)(hx:e.name.size <= 4611686018427387904)(ih:∀k (h:k<e.args.length) (s:aH),aT prog 171 [cL (.agg (bf e.args[k]))] [] s λr s'=>r=au (dy e.args[k]) /\ s'=s)(s:aH):aT prog 171 [cL (.agg (bf e))] [] s λt s'=>t=au (dy e) /\ s'=s:=by
 obtain ⟨bx,rw⟩:=s;refine bM 93 func171 ?_;refine go 11 λb1=>?_;refine kP 0 J call186 J (Ck e.op _) (go 5 ?_);by_cases h1:(f8 e.op:Int)=0
 ·have h7:=Fh (op:=e.op);have hle:=Cy e.op;refine aJ J (bR h1) (go 12 ?_);exact bF bx rw J cU ⟨bZ (by rw [lO];unfold kZ;rw [if_pos Y]),J⟩
 have h7:=Fh (op:=e.op);have hle:=Cy e.op;refine aF J (bN h1) (go 6 ?_);by_cases h4:(f8 e.op:Int)=7
 ·refine aJ J (bR h4) (go 10 ?_);by_cases h6:(0:Int)<(e.args.length:Int)
  ·refine aJ J (fF h6) (go 12 ?_);exact bF bx rw J cU ⟨bZ (by rw [lO];unfold kZ;rw [if_neg Y,if_pos Y];rw [decide_eq_false Y];rfl),J⟩
  refine aF J (fE h6) (go 9 ?_);by_cases h9:e.op=1
  ·refine aJ J (bR h9) (go 3 ?_);by_cases h10:(0:Int) <= e.num
   ·refine aJ J (oJ h10) (go 4 ?_);by_cases h11:e.name=ay
    ·refine aC J (fS true J J J (ob h11)) (go 22 ?_);exact bF bx rw J cU ⟨bZ (by rw [lO];unfold kZ;rw [if_neg Y,if_pos Y];rw [decide_eq_true (show e.args.length=0 by omega)];unfold ll;rw [decide_eq_true (show e.op=1 /\ 0 <= e.num by omega),decide_eq_true h11,decide_eq_false (show ¬(e.op=2 /\ e.num=0) by omega)];rfl),J⟩
    refine aC J (fS false J J J (o_ h11)) (go 4 ?_);refine aF J (bN Y) (go 17 ?_);exact bF bx rw J cU ⟨bZ (by rw [lO];unfold kZ;rw [if_neg Y,if_pos Y];rw [decide_eq_true (show e.args.length=0 by omega)];unfold ll;rw [decide_eq_true (show e.op=1 /\ 0 <= e.num by omega),decide_eq_false h11,decide_eq_false (show ¬(e.op=2 /\ e.num=0) by omega)];rfl),J⟩
   refine aF J (pF h10) (go 9 ?_);refine aF J (bN Y) (go 17 ?_);exact bF bx rw J cU ⟨bZ (by rw [lO];unfold kZ;rw [if_neg Y,if_pos Y];rw [decide_eq_true (show e.args.length=0 by omega)];unfold ll;rw [decide_eq_false (show ¬(e.op=1 /\ 0 <= e.num) by omega),decide_eq_false (show ¬(e.op=2 /\ e.num=0) by omega)];rfl),J⟩
  refine aF J (bN h9) (go 13 ?_);by_cases h12:e.op=2;focus
   refine aJ J (bR h12) (go 3 ?_);by_cases CD:e.num=0
   ·refine aJ J (bR CD) (go 4 ?_);rcases bz (cH e.name) with n9|n9;rotate_left;all_goals
     refine d9 0 J call187 J (T9 e.name (by first|assumption|omega) _) n9 (go 8 ?_);exact bF bx rw J cU ⟨bZ (by rw [lO];unfold kZ;rw [if_neg Y,if_pos Y];rw [decide_eq_true (show e.args.length=0 by omega)];unfold ll;rw [decide_eq_false (show ¬(e.op=1 /\ 0 <= e.num) by omega)];rw [decide_eq_true (show e.op=2 /\ e.num=0 by omega),n9];rfl),J⟩
   refine aF J (bN CD) (go 13 ?_)
  rotate_left;refine aF J (bN h12) (go 17 ?_);all_goals
   exact bF bx rw J cU ⟨bZ (by rw [lO];unfold kZ;rw [if_neg Y,if_pos Y];rw [decide_eq_true (show e.args.length=0 by omega)];unfold ll;rw [decide_eq_false (show ¬(e.op=1 /\ 0 <= e.num) by omega)];rw [decide_eq_false (show ¬(e.op=2 /\ e.num=0) by omega)];rfl),J⟩
 refine aF J (bN h4) (go 6 ?_);by_cases h16:(f8 e.op:Int)=6
 ·refine aJ J (bR h16) (go 9 ?_);by_cases h18:(e.args.length:Int)=1
  ·refine aJ J (bR h18) (go 3 ?_);by_cases h19:e.num=0
   ·refine aJ J (bR h19) (go 4 ?_);by_cases h20:e.name=ay
    ·refine aC J (fS true J J J (ob h20)) (go 4 ?_);refine aC J (bX bV bf e.args fw fR 0 J J J J Y V iR dl) (go 1 ?_);rcases bz (dy e.args[0]) with h21|h21;rotate_left;all_goals
      refine d9 0 J call171 J (ih 0 Y _) h21 (go 7 ?_);exact bF bx rw J cU ⟨bZ (by rw [lO];unfold kZ;rw [if_neg Y,if_neg Y,if_pos Y];rw [decide_eq_true Y,decide_eq_true (show e.num=0 by omega),decide_eq_true h20,RZ Y,h21];rfl),J⟩
    refine aC J (fS false J J J (o_ h20)) (go 14 ?_);exact bF bx rw J cU ⟨bZ (by rw [lO];unfold kZ;rw [if_neg Y,if_neg Y,if_pos Y];rw [decide_eq_true Y,decide_eq_true (show e.num=0 by omega),decide_eq_false h20];rfl),J⟩
   refine aF J (bN h19) (go 19 ?_);exact bF bx rw J cU ⟨bZ (by rw [lO];unfold kZ;rw [if_neg Y,if_neg Y,if_pos Y];rw [decide_eq_true Y,decide_eq_false (show ¬e.num=0 by omega)];rfl),J⟩
  refine aF J (bN h18) (go 23 ?_);exact bF bx rw J cU ⟨bZ (by rw [lO];unfold kZ;rw [if_neg Y,if_neg Y,if_pos Y];rw [decide_eq_false Y];rfl),J⟩
 refine aF J (bN h16) (go 12 ?_);by_cases h23:(e.args.length:Int)=2
 ·refine aJ J (bR h23) (go 3 ?_);by_cases D0:e.num=0
  ·refine aJ J (bR D0) (go 4 ?_);by_cases BT:e.name=ay
   ·refine aC J (fS true J J J (ob BT)) (go 4 ?_);refine aC J (bX bV bf e.args fw fR 0 J J J J Y V iR dl) (go 1 ?_);rcases bz (dy e.args[0]) with ws|ws
    ·refine d9 0 J call171 J (ih 0 Y _) ws (go 4 ?_);refine aC J (bX bV bf e.args fw fR 1 J J J J Y V iR dl) (go 1 ?_);rcases bz (dy e.args[1]) with h27|h27;rotate_left;all_goals
      refine d9 0 J call171 J (ih 1 Y _) h27 (go 5 ?_);exact bF bx rw J cU ⟨bZ (by rw [lO];unfold kZ;rw [if_neg Y,if_neg Y,if_neg Y];rw [decide_eq_true Y,decide_eq_true (show e.num=0 by omega),decide_eq_true BT,Kx Y,ws,h27];rfl),J⟩
    refine d9 0 J call171 J (ih 0 Y _) ws (go 12 ?_);exact bF bx rw J cU ⟨bZ (by rw [lO];unfold kZ;rw [if_neg Y,if_neg Y,if_neg Y];rw [decide_eq_true Y,decide_eq_true (show e.num=0 by omega),decide_eq_true BT,Kx Y,ws];rfl),J⟩
   refine aC J (fS false J J J (o_ BT)) (go 19 ?_);exact bF bx rw J cU ⟨bZ (by rw [lO];unfold kZ;rw [if_neg Y,if_neg Y,if_neg Y];rw [decide_eq_true Y,decide_eq_true (show e.num=0 by omega),decide_eq_false BT];rfl),J⟩
  refine aF J (bN D0) (go 24 ?_);exact bF bx rw J cU ⟨bZ (by rw [lO];unfold kZ;rw [if_neg Y,if_neg Y,if_neg Y];rw [decide_eq_true Y,decide_eq_false (show ¬e.num=0 by omega)];rfl),J⟩
 refine aF J (bN h23) (go 28 ?_);exact bF bx rw J cU ⟨bZ (by rw [lO];unfold kZ;rw [if_neg Y,if_neg Y,if_neg Y];rw [decide_eq_false Y];rfl),J⟩
def Gz{e:aS}(h:e.bt):e.name.size <= 4611686018427387904 /\ jM e.args:=by cases e;rw [aS.bt] at h;first|exact ⟨h.2.2.1,h.2.2.2⟩|exact ⟨h.2.1,h.2.2⟩|exact ⟨h.1,h.2⟩
def Ie:∀(N:Nat)(e:aS),e.nodes <= N -> e.bt -> ∀s:aH,aT prog 171 [cL (.agg (bf e))] [] s λr s'=>r=au (dy e) /\ s'=s
 |0,e,h,_,_=>rW
 |N+1,e,h,hs,s=>YU e (Gz hs).1 (λk hk s=>Ie N e.args[k] rP (qN _ (Gz hs).2 _ (getElem_mem _)) s) s
def Ro(e:aS)(hN:e.nodes <= 1000000000)(hsh:dy e=true)(ih:∀k (h:k<e.args.length) (s:aH),aT prog 172 [cL (.agg (bf e.args[k]))] [] s λr s'=>r=aj ((iE e.args[k]:Nat):Int) /\ s'=s)(s:aH):aT prog 172 [cL (.agg (bf e))] [] s λt s'=>t=aj (iE e:Int) /\ s'=s:=by
 obtain ⟨bx,rw⟩:=s;have hlen:=si e;refine bM 34 func172 ?_;refine go 21 λb1=>?_;refine m9 (e.args.length) 9 (λk=>[(3,aj ((jH e.op 0 (e.args.take (k)):Nat):Int)),(0,cL (.agg (bf e))),(1,aE b1),(8,ab e.args.length)]) (ao J) λk hk=>?_;show bi prog _ ⟨34,_,_,(9,ab k)::[(3,aj ((jH e.op 0 (e.args.take (k)):Nat):Int)),(0,cL (.agg (bf e))),(1,aE b1),(8,ab e.args.length)]⟩ _;refine go 2 ?_;by_cases h1:(k:Int)<(e.args.length:Int)
 ·refine aJ J (cw h1) (go 16 ?_);have hle:=BZ _ e.args[k] (bY _);have hnk:=FY e k Y;have hmx:=An e.op e.args k Y;refine go 3 ?_;refine aC J (bX bV bf e.args fw fR k J J J J Y V iR dl) (go 1 ?_);refine kP 0 J call172 J (ih k Y _) (go 8 ?_);rcases bz (kE e.op k e.args[k].op) with h3|h3;focus
   refine d9 0 J call188 J (DO e k Y (mK hsh).1 (mK ((mK hsh).2 k Y)).1 _) h3 (go 5 ?_);refine bK J (go 6 ?_)
  rotate_left;refine d9 0 J call188 J (DO e k Y (mK hsh).1 (mK ((mK hsh).2 k Y)).1 _) h3 (go 8 ?_);all_goals
   refine aC J (Hm _ J J J J) (go 5 ?_);refine bK J (go 2 ?_);exact ⟨Y,(av J (b_ Y) (av J (b_ (by rw [An _ _ _ Y,h3];simp only [if_true,m4,if_false];omega)) (ao J)))⟩
 refine aF J (ct h1) (go 12 ?_);have hle0:=BZ _ e (bY _);have hq:=B6 e;obtain rfl:k=e.args.length:=Y;rw [take_of_length_le (bY _)];have hsE:=ED e.op (mK hsh).1;refine go 2 ?_;refine kP 0 J call186 J (Ck e.op _) ?_;by_cases h7:(f8 e.op:Int)=6
 ·refine aJ J (bR h7) (go 5 ?_);refine bK J (go 10 ?_);exact bF bx rw J cU ⟨ff Mv,J⟩
 refine aF J (bN h7) (go 12 ?_);exact bF bx rw J cU ⟨ff K3,J⟩
def KR:∀(N:Nat)(e:aS),e.nodes <= N -> N <= 1000000000 -> dy e=true -> ∀s:aH,aT prog 172 [cL (.agg (bf e))] [] s λr s'=>r=aj (iE e:Int) /\ s'=s
 |0,e,h,_,_,_=>rW
 |N+1,e,h,hN,hs,s=>Ro e Y hs (λk hk s=>KR N e.args[k] rP Y ((mK hs).2 k hk) s) s
def zU(e:aS)(hN:e.nodes <= 1000000000)(hs:e.bt)(s:aH):aT prog 151 [cL (.agg (bf e))] [] s λt s'=>t=au (fI e) /\ s'=s:=by
 obtain ⟨bx,rw⟩:=s;refine bM 10 func151 ?_;refine go 9 λb1=>?_;rcases bz (dy e) with h1|h1
 ·refine d9 0 J call171 J (Ie _ e (bY _) hs _) h1 (go 2 ?_);refine kP 0 J call172 J (KR _ e (bY _) hN h1 _) ?_;by_cases h2:(iE e:Int) <= 24
  ·refine aJ J (zw h2) (go 5 ?_);exact bF bx rw J cU ⟨bZ (by unfold fI;rw [h1,decide_eq_true Y];rfl),J⟩
  refine aF J (AP h2) (go 5 ?_);exact bF bx rw J cU ⟨bZ (by unfold fI;rw [h1,decide_eq_false Y];rfl),J⟩
 refine d9 0 J call171 J (Ie _ e (bY _) hs _) h1 (go 9 ?_);exact bF bx rw J cU ⟨bZ (by unfold fI;rw [h1];rfl),J⟩
section
variable {P:Program}{U T:List Nat}{o:Oper}{n d:Nat}{bx:List aV}{rw:List aQ}{ts:List (Nat×AT)}{K:AS -> Prop}{st:AS}{t:AT}
theorem ZA{g:Nat}{E:ax}{cs ds:List aO}{N C:Nat}{B:List aV}(i:Nat)(hi:look st.ts i=some (ap (.slice (some ⟨g,0,none⟩) N C)))(hrow:st.s.boxes=⟨g,E,cs++ds⟩::B)(hC:N <= C)(hC2:C <= 9223372036854775807):Sub st {st with s:=⟨B,st.s.rows⟩,ts:=(i,.c (.sl N cs))::st.ts}:=λa w hs=>by
 have hsub:jJ st.s ⟨B,st.s.rows⟩:=ah (by rw [hrow];exact AJ _ _) (wR _);obtain ⟨h1,h2,h3⟩:=rS hsub a w hs;refine ⟨⟨h1.df,h1.sz,λj x hx=>?_,h1.mem⟩,h2,h3⟩;simp only [look] at hx;split at hx
 ·rename_i he;subst he;cases hx;obtain ⟨u,ae,e2⟩:=hs.tm i _ hi;have:=e2.val;subst this;obtain ⟨us,⟨fz,-,hh⟩,hrep⟩:=hs.mem.box ⟨g,E,cs++ds⟩ ti;have hlen:us.length=cs.length+ds.length:=by have:=hrep.len;simpa using this
  have hr2:=hrep.take cs.length;rw [List.take_left] at hr2;have hnm:g∉(⟨B,st.s.rows⟩:aH).bl:=by
   have hnd:=hs.mem.nodup;have hbl:st.s.bl=g::(⟨B,st.s.rows⟩:aH).bl:=GN;rw [hbl] at hnd;exact (mu.1 hnd).1
  refine ⟨_,ae,.c _ _ (.sl _ _ (us.take cs.length) _ ⟨_,_,J,hC,.inr ⟨g,0,J,λj x hj=>?_⟩⟩ hr2.len (λk h h'=>(hr2.at_ k h h').mono (up_sub h2)) (λ_ _ _ h=>by cases h;exact hC2))⟩;rw [pw _ _ _ hnm];unfold World.cell?;simp only [hh];rw [pD] at hj;split at hj
  ·simpa using hj
  cases hj
 exact h1.tm j x hx
theorem Yy{ops:Array Oper}{l:List Oper}{Q:Exit -> AS -> Prop}{g:Nat}{E:ax}{cs ds:List aO}{N C:Nat}(i:Nat)(hi:look ts i=some (ap (.slice (some ⟨g,0,none⟩) N C)))(hC:N <= C)(hC2:C <= 9223372036854775807)(h:cN P ops l ⟨n,T,⟨bx,rw⟩,(i,.c (.sl N cs))::ts⟩ Q):cN P ops l ⟨n,T,⟨⟨g,E,cs++ds⟩::bx,rw⟩,ts⟩ Q:=
 u' (ZA (st:=⟨n,T,⟨⟨g,E,cs++ds⟩::bx,rw⟩,ts⟩) i hi rfl hC hC2) h
theorem VC(w:aa){a:Act}{K:Act -> aa -> Prop}{Q:Exit -> Act -> aa -> Prop}(s x:bb)(t u:ax)
  (ho:o.op=.call {callee:=.builtin .append,args:=#[s,x],argTypes:=#[t,u]})
  (e:ax) (i:TypeInfo) (ht:P.underlying t=some (.slice e)) (hu:P.underlying u=some .string) (hi:P.info? e=some i) (hz:i.zero=some (.int .u8 0)) (hsize:i.size=1) (hby:i.bytes=1)
  (v:aN) (n:Nat) (xs:List aN) (hs:a.eval s=v) (hown:w.ownsRow 0 e 1 v n xs) (z:aI) (hx:a.eval x=.string z) (h63:n+z.size <= maxLen) (hbytes:n+z.size <= 140737488355328)
  (h:∀v' w',w'.ownsRow 0 e 1 v' (n+z.size) (xs++Lib.strCells z) -> w.grownBy w' v.ownBlock -> (∀g,v'.ownBlock=some g -> v.ownBlock=some g∨w.heap.size <= g) -> K (a.put o.dst v') w'):o.wp P a w K Q:=by
 obtain ⟨v',w',hr,h2,h3,h4⟩:=Lib.run_append_own_string (P:=P) w 0 t u o.type e i ht hu hi hz hsize hby v n xs hown z h63 hbytes (eL _);have hfr:∀g,v'.ownBlock=some g -> v.ownBlock=some g∨w.heap.size <= g:=by
  rcases hown.2 with ⟨hv0,hn0⟩|⟨g,cap,cur,hv0,hbg,hg,hnc,hcm,hcs,htake⟩
  ·obtain ⟨v2,w2,hr2,h5,_,_⟩:=Lib.run_append_own_string (P:=P) w w.heap.size t u o.type e i ht hu hi hz hsize hby v n xs ⟨hown.1,.inl ⟨hv0,hn0⟩⟩ z h63 hbytes (bY _);rw [hr] at hr2;injection hr2 with ae e2
   subst ae;intro k hk;exact Or.inr (h5.lt k hk).1
  subst hv0;by_cases hroom:n+z.size <= cap
  ·have hr2:=Lib.run_append_room_string (P:=P) w t u o.type e i ht hu hi hsize g n cap cur hg z hroom Y;rw [hr] at hr2;injection hr2 with ae e2
   subst ae;intro k hk;exact .inl hk
  have holds:∀j u,xs[j]?=some u -> w.cell? ((⟨g,0,none⟩:Addr).add j)=some u:=hown.cells (g:=g) J;have hr2:=Lib.run_append_grow_string (P:=P) w t u o.type e i (.int .u8 0) ht hu hi hz ⟨g,0,none⟩ n cap xs (by rw [hsize];exact hown.1) holds z Y (by simp only [maxLen] at h63;omega) (by rw [hby];exact growslice_fits Y Y);rw [hr] at hr2;injection hr2 with ae e2
  subst ae;intro k hk;simp [Value.ownBlock] at hk;exact .inr Y
 unfold Oper.wp execOp;simp only [ho,resolve,invoke,builtin,dK,fo,eu,mH,ca,d7,hs,hx,hr];exact h v' w' h2 h3 hfr
theorem AL{E E2 e:ax}{x y:bb}{k:Nat}{v:aN}{cs ds r:List aO}(A:List aQ)(i:TypeInfo){B:List aQ}{z:aI}(ho:o.op=.call {callee:=.builtin .append,args:=#[x,y],argTypes:=#[E,E2]})(hd:o.dst=some d)(hn:d<n)
  (hx:aw ⟨n,T,⟨bx,A++⟨v,e,1,k,cs⟩::B⟩,ts⟩ x=some (ap v)) (hy:aw ⟨n,T,⟨bx,A++⟨v,e,1,k,cs⟩::B⟩,ts⟩ y=some (cK z)) (hu:P.underlying E=some (.slice e)) (hu2:P.underlying E2=some .string) (hi:P.info? e=some i) (hz:i.zero=some (.int .u8 0)) (hsz:i.size=1) (hby:i.bytes=1)
  (hlen:k+z.size <= maxLen) (hbytes:k+z.size <= 140737488355328) {N:Nat} (hN:k+z.size=N) (hds:cb z.data.toList=ds) (hU:(⟨bx,A++⟨v,e,1,k,cs⟩::B⟩:aH).bl.Nodup -> ∀b,b∈aR v -> b∈U) (hT:∀b,b∈aR v -> b∈T) (hr:cs++ds=r)
  (h:∀v',K ⟨n,aR v'++T,⟨bx,A++⟨v',e,1,N,r⟩::B⟩,(d,ap v')::ts⟩):db P U o ⟨n,T,⟨bx,A++⟨v,e,1,k,cs⟩::B⟩,ts⟩ K:=by
 subst hr;subst hN;subst hds;refine I_ A hd hn J V (λa w hs us hown=>⟨Lib.strCells z,?_,λKK QQ hK=>VC w x y E E2 ho e i hu hu2 hi hz hsz hby v k us (hs.val hx) hown z (hs.val hy) hlen hbytes hK⟩) hU hT h;have hR:=oK (bh (⟨bx,A++⟨v,e,1,k,cs⟩::B⟩:aH).bl w) (Lib.strCells z) zu;have ae:(Lib.strCells z).map aO.val=cb z.data.toList:=by simp [Lib.strCells,cb]
 rw [ae] at hR;exact hR
end
end
section
open Go.RowKit Go.Sort
def Am:∀u:Nat,Lib.decDigits u=dH u:=λu=>by
 induction u using Nat.strongRecOn with
 |_ u ih=>
  rw [Lib.decDigits,dH];by_cases h:u<10
  ·rw [dif_pos h,if_pos h]
  rw [dif_neg h,if_neg h,ih (u/10) Y]
def S8(n:Int):Lib.itoa n=fW n:=by
 unfold Lib.itoa fW;rw [Am,Am];by_cases h:n<0
 ·rw [if_pos h,if_pos h]
 rw [if_neg h,if_neg h,show n.toNat=n.natAbs by omega]
def SL(w:aa)(k:Nat)(os:Array Obj):Below w.heap.size w (grow (w.drewN k) os):=
 ⟨rfl,rfl,rfl,by show w.heap.size <= (w.heap++os).size;rw [Array.size_append];omega,λi hi=>by show (w.heap++os)[i]?=_;rw [E3 hi]⟩
section
variable {P:Program}{U T:List Nat}{o:Oper}{n d:Nat}{ts:List (Nat×AT)}{s:aH}{K:AS -> Prop}{st:AS}{p:World -> Prop}{t0 u:AT}{us:List AT}{bx:List aV}{rw:List aQ}{ops:Array Oper}{l:List Oper}{Q:Exit -> AS -> Prop}
theorem Qz{E E':ax}{x:bb}{k k':IntKind}{m r:Int}(ho:o.op=.convert E E' x)(hx:aw st x=some (ap (.int k m)))(hE:(P.underlying E).isSome=true)(hE':P.underlying E'=some (.int (P.intKind E')))(hk8:P.intKind E'=k')(hr:k'.wrap m=r):cp P U o st (ap (.int k' r)):=by
 intro a w hs _;refine ⟨_,.c _ _ (.val _ J),λw' _=>?_⟩;have h1:=run_convert_int (P:=P) (w:=w') E E' k m hE hE';simp only [execOp,ho,dK,hs.val hx];rw [h1,hk8,hr];rfl
theorem VG{m:Int}(h1:0 <= m)(h2:m <= 18446744073709551615):IntKind.u64.wrap m=m:=by
 have:IntKind.u64.wrap m=m%18446744073709551616:=by unfold IntKind.wrap;simp [IntKind.signed,IntKind.bits]
 rw [this];omega
theorem NG{t e:ax}{x y':bb}{b h N:Nat}{k2:IntKind}{j:Int}(ho:o.op=.slice t x none (some y') none)(hx:aw st x=some (aE b))(hy':aw st y'=some (ap (.int k2 j)))(hj:j=h)(h2:h <= N)(h0:0<N)
  (ht:∀w,(underlying t).run P w=.ok (.array N e) w) (hz:∀w,(sizeOf e).run P w=.ok 1 w):cp P U o st (ap (.slice (some ⟨b,0,none⟩) h N)):=
 iM rfl λa w hs w'=>by
  subst hj;simp only [execOp,ho,hs.val hx,hs.val hy',Instr.sliceAt,o4,E8,dK,fo,eu,ht,Instr.sureAddr,hz];simp [go_sem,Instr.sliceBounds,asIntOf];omega
theorem O9{st:AS}{F:FuncId}{cap:Array bb}{vs:List aN}(ho:o.op=.makeFunc (.func F) #[] cap)(hc:cap.toList.map (aw st)=vs.map λv=>some (ap v)):cp P U o st (ap (.func (.func F) #[] vs.toArray)):=
 iM rfl λa w hs w'=>by
  have e:cap.map a.eval=vs.toArray:=by
   rw [←oZ,zx];have:∀(l:List bb)(vs:List aN),l.map (aw st)=vs.map (λv=>some (ap v)) -> l.map a.eval=vs:=by
    intro l;induction l with
    |nil=>intro vs h;cases vs with|nil=>rfl|cons=>cases h
    |cons x l ih=>
     intro vs h;cases vs with
     |nil=>cases h
     |cons v vs=>
      simp only [ca,tN] at h⊢;exact ⟨hs.val h.1,ih vs h.2⟩
   exact this _ _ hc
  simp only [execOp,ho,Instr.makeFunc,e];simp [go_sem]
theorem qY{F:FuncId}{x:bb}{cap:Array aN}{ks:Array bb}{rg:Array ax}{b c:Bool}(i0:Nat)(h0:(d6 ops o ⟨n,T,s,ts⟩,o.op,aw ⟨n,T,s,ts⟩ x,o.dst,Nat.blt d n,look ts i0)=(some true,.call {callee:=.value x,args:=ks,argTypes:=rg},some (ap (.func (.func F) #[] cap)),some d,true,some (.ride t0 p)))
  (hcf:∀args w,(callFunc F args).run P w=.ok (.enter F args) w) (has:ks.toList.map (aw ⟨n,T,s,ts⟩)=[u].map some) (hc:aT P F (.ride u p::cap.toList.map gO) [] s λt s'=>t=au b /\ s'=s) (hb:b=c) (h:cN P ops l ⟨n,T,s,(d,au c)::ts⟩ Q):cN P ops (o::l) ⟨n,T,s,ts⟩ Q:=by
 simp only [jB] at h0;subst hb;exact aW h0.1 (S9 (us:=[]) i0 [] h0.2.1 h0.2.2.1 h0.2.2.2.1 (fV h0.2.2.2.2.1) hcf h0.2.2.2.2.2 has hc rq rq (λ_=>rq) λr s' ⟨h1,h2⟩=>Hi)
theorem Wr(i j:Nat){c:Code}{t1:AT}(hi:look ts i=some (.ride t0 p))(hj:look ts j=some t1)(h:bi P c ⟨n,T,s,(j,.ride t1 p)::ts⟩ Q):bi P c ⟨n,T,s,ts⟩ Q:=by
 refine rY (st':=⟨n,T,s,(j,.ride t1 p)::ts⟩) (λa w hs=>?_) h;refine ⟨⟨hs.df,hs.sz,λk x hx=>?_,hs.mem⟩,λ_ h=>h,λ_ h=>h⟩;simp only [look] at hx;split at hx
 ·rename_i he;subst he;cases hx;obtain ⟨v,ae,e2⟩:=hs.tm j t1 hj;obtain ⟨v0,-,e3⟩:=hs.tm i _ hi;exact ⟨v,ae,xd e3 e2⟩
 exact hs.tm k x hx
theorem wP(E:ax)(z:Nat)(h:cN P ops l ⟨n,T,⟨bx,⟨.slice none 0 0,E,z,0,[]⟩::rw⟩,ts⟩ Q):cN P ops l ⟨n,T,⟨bx,rw⟩,ts⟩ Q:=u' (P8 (st:=⟨n,T,⟨bx,rw⟩,ts⟩) E z) h
theorem sB{F:FuncId}{ks:Array bb}{rg:Array ax}{v:aN}{E:ax}{z k k':Nat}{cs cs':List aO}(i0:Nat)(h0:(o.op,o.dst,Nat.blt d n,look ts i0)=(.call {callee:=.value (.func F),args:=ks,argTypes:=rg},some d,true,some (.ride t0 p)))
  (hcf:∀args w,(callFunc F args).run P w=.ok (.enter F args) w) (has:ks.toList.map (aw ⟨n,T,⟨bx,⟨v,E,z,k,cs⟩::rw⟩,ts⟩)=(u::us).map some)
  (hc:aT P F (.ride u p::us) (aR v) ⟨bx,⟨v,E,z,k,cs⟩::rw⟩ λt s'=>∃v',t=ap v' /\ s'=⟨bx,⟨v',E,z,k',cs'⟩::rw⟩) (hT:∀b,b∈aR v -> b∈T) (hU:(⟨bx,⟨v,E,z,k,cs⟩::rw⟩:aH).bl.Nodup -> ∀b,b∈aR v -> b∈U)
  (h:∀v',K ⟨n,aR v'++T,⟨bx,⟨v',E,z,k',cs'⟩::rw⟩,(d,ap v')::ts⟩):db P U o ⟨n,T,⟨bx,⟨v,E,z,k,cs⟩::rw⟩,ts⟩ K:=by
 simp only [jB] at h0;obtain ⟨ho,hd,hn,hl⟩:=h0;intro a w hs KK QQ' hK;obtain ⟨h1,h2⟩:=pZ hs has;obtain ⟨v0,-,hv0⟩:=hs.tm i0 _ hl;have ur:∀b,b∈aR v -> b∈(⟨bx,⟨v,E,z,k,cs⟩::rw⟩:aH).bl:=λb hb=>G4;unfold Oper.wp;rw [show (execOp a.eval o).run P w=.ok (.enter F (ks.toList.map a.eval).toArray) w from by
  simp only [execOp,ho,resolve,Deferred.ofValue,Act.eval,dK,fo,eu,invoke];rw [hcf]
  congr 2
  rw [←oZ];simp,Oper.upon_enter]
 refine (hc _ w hs.mem ur h1 (λi hi hi'=>?_)).mono ?_
 ·match i,hi with
  |0,hi=>exact xd hv0 (h2 0 aM hi')
  |i+1,hi=>exact h2 (i+1) pz hi'
 ·rintro en w' ⟨r,vr,s',rfl,⟨v',rfl,rfl⟩,hr,hm,hk,hb⟩;dsimp only;rw [hd];have s1:=hs.step (aR v'++T) (hk.mono ur) hm hb;refine hK _ _ _ (h v') (s1.put (fV hn) hr) ⟨hk.mono ur,hk.mono hT,hb,λb hb2=>?_⟩ (hk.mono (hU hs.mem.nodup));rcases mem_append.1 hb2 with hb2|hb2
  ·have ae:b∈(⟨bx,⟨v',E,z,k',cs'⟩::rw⟩:aH).bl:=CE;exact (hb b ae).imp (λh9=>hT b (IP (bx:=bx) (bx':=bx) J hm.nodup hb2 h9)) id
  exact .inl hb2
theorem G_{F:FuncId}{x:bb}{cap:Array aN}{ks:Array bb}{rg:Array ax}{v:aN}{E:ax}{z k k':Nat}{cs cs':List aO}(i0:Nat)(h0:(o.op,aw ⟨n,T,⟨bx,⟨v,E,z,k,cs⟩::rw⟩,ts⟩ x,o.dst,Nat.blt d n,look ts i0)=(.call {callee:=.value x,args:=ks,argTypes:=rg},some (ap (.func (.func F) #[] cap)),some d,true,some (.ride t0 p)))
  (hcf:∀args w,(callFunc F args).run P w=.ok (.enter F args) w) (has:ks.toList.map (aw ⟨n,T,⟨bx,⟨v,E,z,k,cs⟩::rw⟩,ts⟩)=(u::us).map some)
  (hc:aT P F (.ride u p::(us++cap.toList.map gO)) (aR v) ⟨bx,⟨v,E,z,k,cs⟩::rw⟩ λt s'=>∃v',t=ap v' /\ s'=⟨bx,⟨v',E,z,k',cs'⟩::rw⟩) (hT:∀b,b∈aR v -> b∈T) (hU:(⟨bx,⟨v,E,z,k,cs⟩::rw⟩:aH).bl.Nodup -> ∀b,b∈aR v -> b∈U)
  (h:∀v',K ⟨n,aR v'++T,⟨bx,⟨v',E,z,k',cs'⟩::rw⟩,(d,ap v')::ts⟩):db P U o ⟨n,T,⟨bx,⟨v,E,z,k,cs⟩::rw⟩,ts⟩ K:=by
 simp only [jB] at h0;obtain ⟨ho,hx,hd,hn,hl⟩:=h0;intro a w hs KK QQ' hK;obtain ⟨h1,h2⟩:=pZ hs has;obtain ⟨v0,-,hv0⟩:=hs.tm i0 _ hl;obtain ⟨fK,fe⟩:=Bd (bh (⟨bx,⟨v,E,z,k,cs⟩::rw⟩:aH).bl w) cap.toList;have ur:∀b,b∈aR v -> b∈(⟨bx,⟨v,E,z,k,cs⟩::rw⟩:aH).bl:=λb hb=>G4;have h3:(ks.toList.map a.eval).length=(AT.ride u p::us).length /\ ∀i (h:i<(AT.ride u p::us).length) (h':i<(ks.toList.map a.eval).length),cS (bh (⟨bx,⟨v,E,z,k,cs⟩::rw⟩:aH).bl w) (AT.ride u p::us)[i] (ks.toList.map a.eval)[i]:=by
  refine ⟨h1,λi hi hi'=>?_⟩
  match i,hi with
  |0,hi=>exact xd hv0 (h2 0 aM hi')
  |i+1,hi=>exact h2 (i+1) pz hi'
 obtain ⟨g3,g4⟩:=EG h3.1 h3.2 fK fe;unfold Oper.wp;rw [show (execOp a.eval o).run P w=.ok (.enter F (ks.toList.map a.eval++cap.toList).toArray) w from by
  simp only [execOp,ho,resolve,hs.val hx,Deferred.ofValue,dK,fo,eu,invoke];rw [hcf]
  congr 2
  rw [←oZ];simp,Oper.upon_enter]
 refine (hc _ w hs.mem ur g3 g4).mono ?_;rintro en w' ⟨r,vr,s',rfl,⟨v',rfl,rfl⟩,hr,hm,hk,hb⟩;dsimp only;rw [hd];have s1:=hs.step (aR v'++T) (hk.mono ur) hm hb;refine hK _ _ _ (h v') (s1.put (fV hn) hr) ⟨hk.mono ur,hk.mono hT,hb,λb hb2=>?_⟩ (hk.mono (hU hs.mem.nodup));rcases mem_append.1 hb2 with hb2|hb2
 ·have ae:b∈(⟨bx,⟨v',E,z,k',cs'⟩::rw⟩:aH).bl:=CE;exact (hb b ae).imp (λh9=>hT b (IP (bx:=bx) (bx':=bx) J hm.nodup hb2 h9)) id
 exact .inl hb2
end
def UP(w:aa)(b:Nat)(cur:Array aN)(T:ax)(fz:Nat×Nat)(f:Array aN -> Array aN)(h:w.heap[b]?=some (.cells cur T fz)):mapBlock w b f=w.setRow b (f cur):=by
 unfold mapBlock World.setRow
 congr 1
 apply EE
 intro k;simp only [Dd];by_cases hk:b=k
 ·subst hk;rw [if_pos rfl,if_pos rfl,h];rfl
 rw [if_neg hk,if_neg hk]
def Mem.drewN{s:aH}{w:aa}(h:Mem s w):∀k,Mem s (w.drewN k)
 |0=>h
 |k+1=>(Mem.drewN h k).drew
def SZ(b:Nat)(T:ax)(cs:List UInt8)(u N:Nat)(bx:List aV)(rw:List aQ)(hu:u<18446744073709551616)(hn:Lib.nDigits u <= cs.length)(hc:cs.length <= 100):aT prog 179 [ap (.slice (some ⟨b,0,none⟩) (Lib.nDigits u) N),ap (.int .u64 (u:Int))] [b] ⟨⟨b,T,cb cs⟩::bx,rw⟩ λt s'=>t=.fd [] /\ s'=⟨⟨b,T,cb (dH u)++cb (cs.drop (Lib.nDigits u))⟩::bx,rw⟩:=by
 rw [show cb (dH u)++cb (cs.drop (Lib.nDigits u))=cb (dH u++cs.drop (Lib.nDigits u)) by unfold cb;rw [e1]];intro vs w hm _ hl hr;obtain ⟨v1,v2,rfl⟩:∃v1 v2,vs=[v1,v2]:=by
  match vs,hl with
  |[x,y],_=>exact ⟨x,y,rfl⟩
 obtain rfl:v1=_:=(show cS _ (.c (.val (.slice (some ⟨b,0,none⟩) (Lib.nDigits u) N))) v1 from hr 0 aM aM).val;obtain rfl:v2=_:=(show cS _ (.c (.val (.int .u64 (u:Int)))) v2 from hr 1 aM aM).val;obtain ⟨us,⟨fz,hfz,h1⟩,h2⟩:=hm.box ⟨b,T,cb cs⟩ aM;obtain rfl:us=dU cs:=AE (vs:=dU cs) (by rw [show (dU cs).map aO.val=cb cs by simp [dU,cb]];exact h2);have hlen:(dU cs).length=cs.length:=by simp [dU]
 have hbr:=setRow_heap;have hH:Holds (λ(b:UInt8)=>Value.int .u8 (b.toNat:Int)) w b 0 (cs.take (Lib.nDigits u)).toArray:=by
  intro j hj;have hj1:j<Lib.nDigits u:=by simpa [tJ hn] using hj
  have hj2:j<cs.length:=Y;refine ⟨?_,?_⟩
  ·rw [getElem!_pos _ j hj];unfold World.cell?;simp only [h1];simp [dU,hj2]
  obtain ⟨lo,up⟩:=fz;simp only [World.frozen?,h1,Bool.and_eq_false_iff,decide_eq_false_iff_not];rcases hfz with h|h
  ·cases h;exact .inr Y
  dsimp only at h;rw [hlen] at h;exact .inl Y
 have hsz:(cs.take (Lib.nDigits u)).toArray.size=Lib.nDigits u:=by simp [tJ hn]
 have hcall:=Tryz.internal_strconv_formatBase10 b 0 N u (cs.take (Lib.nDigits u)).toArray w hH (by rw [hsz];exact Lib.lt_pow_nDigits u) hu (by rw [hsz];omega);rw [hsz] at hcall;refine hcall.mono ?_;rintro e w' ⟨rfl,k,v',dk,rfl,hinv⟩;have hdk:dk.toList=dH u:=by
  rw [←Am];have hs1:dk.size=Lib.nDigits u:=hinv.size;refine np (by rw [Lib.decDigits_length,sP,hs1]) λj h3 h4=>?_;rw [Lib.row_is_numeral hinv j h4,getElem!_pos dk j wX];simp
 have hs1:dk.size=Lib.nDigits u:=hinv.size;have hput:putCells (λ(b:UInt8)=>Value.int .u8 (b.toNat:Int)) 0 dk (dU cs).toArray=(dU (dH u++cs.drop (Lib.nDigits u))).toArray:=by
  apply EE
  intro i;simp only [putCells,Array.getElem?_mapIdx,Fs];unfold dU;rw [nz,nz];have hdl:(dH u).length=Lib.nDigits u:=by rw [←hdk];simpa using hs1
  by_cases hi:i<Lib.nDigits u
  ·rw [qS (by rw [hdl];exact hi),kl (show i<cs.length by omega),kl (by rw [hdl];exact hi)];simp only [o4,eL,true_and,cq,yi];rw [if_pos He,getElem!_pos dk i He];have:dk[i]'(by rw [hs1];exact hi)=(dH u)[i]'(by rw [hdl];exact hi):=by simp only [←hdk];simp
   rw [this]
  rw [oV (by rw [hdl];omega),rK,hdl,show Lib.nDigits u+(i-Lib.nDigits u)=i by omega];cases hci:cs[i]? with
  |none=>rfl
  |some c=>
   simp only [o4,eL,true_and,cq];rw [if_neg He]
 have hw1:putRow (λ(b:UInt8)=>Value.int .u8 (b.toNat:Int)) w b 0 dk=w.setRow b (dU (dH u++cs.drop (Lib.nDigits u))).toArray:=by
  unfold putRow;rw [UP w b _ T fz _ h1,hput]
 rw [hw1];have ld:(dU (dH u++cs.drop (Lib.nDigits u))).length=(dU cs).length:=by
  have hdl:(dH u).length=Lib.nDigits u:=by rw [←hdk];simpa using hs1
  simp [dU,hdl];omega
 have hR:dA (bh (⟨⟨b,T,cb cs⟩::bx,rw⟩:aH).bl w) (cb (dH u++cs.drop (Lib.nDigits u))) (dU (dH u++cs.drop (Lib.nDigits u))):=by
  have h9:=oK (bh (⟨⟨b,T,cb cs⟩::bx,rw⟩:aH).bl w) (dU (dH u++cs.drop (Lib.nDigits u))) zu;rw [show (dU (dH u++cs.drop (Lib.nDigits u))).map aO.val=cb (dH u++cs.drop (Lib.nDigits u)) by unfold dU cb;rw [o8];rfl] at h9;exact h9
 have hm1:=hm.setRow (A:=[]) (B:=bx) J hfz ld h1 hR;have hk1:=zZ w b (dU (dH u++cs.drop (Lib.nDigits u))).toArray;refine ⟨_,_,_,J,⟨J,J⟩,.fd [] [] J B3,hm1.drewN k,hk1.drewN k,λb' hb'=>.inl ?_⟩;unfold aH.bl at hb'⊢;exact hb'
def CB{u:Nat}(h:u<18446744073709551616):1 <= Lib.nDigits u /\ Lib.nDigits u <= 20:=by
 refine ⟨Lib.nDigits_pos u,?_⟩;by_cases h1:1 <= u
 ·have h2:=Lib.numDigits_eq u h1 h;have h3:(if 10 ^ Lib.l10 (Lib.bitLen u) <= u then 1 else 0) <= 1:=by split<;>omega
  omega
 rw [Lib.nDigits_small Y];omega
def DK(u:Nat):(dH u).length=Lib.nDigits u:=by rw [←Am];exact Lib.decDigits_length u
def Yl(i:Nat)(h:i<100)(s:aH):aT prog 177 [ab i] [] s λt s'=>t=cK (bytes (dH i)) /\ s'=s:=
 PR (us:=[.int .i64 (i:Int)]) rfl rfl (λw=>(Tryz.internal_strconv_small i h w).mono λe w' ⟨h1,h2⟩=>⟨by rw [h1,Am];rfl,h2.symm⟩) s
def TW(u:Nat)(h1:1 <= u)(h2:u<18446744073709551616)(s:aH):aT prog 178 [cL (ap (.int .u64 (u:Int)))] [] s λt s'=>t=aj (Lib.nDigits u:Int) /\ s'=s:=
 OX (us:=[]) rfl (λw he=>(Tryz.internal_strconv_numDigits u h1 h2 w he.tab).mono λe w' ⟨h1,h2⟩=>⟨h1,h2.symm⟩) s
def pn(a b:List UInt8):cb a++cb b=cb (a++b):=by unfold cb;rw [e1]
instance aEL:d4 prog 241 (cb (List.replicate 24 0)):=⟨_,zeroValue241,rfl⟩
end
section
open Go.RowKit
def gD(W:Nat)(a:Option Addr):Prop:=a=none∨a=some ⟨W,0,none⟩
def qP(bs:List UInt8)(v:Value):Prop:=bs=[] -> v=.slice none 0 0
abbrev dD(A:List aV)(W m:Nat)(a:Option Addr)(v:Value)(bs:List UInt8)(B:List aV)(rw:List aQ):aH:=⟨A++⟨W,180,[.val (.pointer a),.val v,am m]⟩::B,⟨v,5,1,bs.length,cb bs⟩::rw⟩
instance aE7:ry .nilIface (ap .nilIface):=⟨rfl⟩
section
variable {P:Program}{U T:List Nat}{o:Oper}{n d:Nat}{ts:List (Nat×AT)}{s:aH}{K:AS -> Prop}{st:AS}{bx:List aV}{rw:List aQ}{ops:Array Oper}{l:List Oper}{Q:Exit -> AS -> Prop}
theorem L3{t yt te:ax}{j:TypeInfo}{x y:bb}{q:Option Addr}(ho:o.op=.binOp .eql t x y yt)(hx:aw st x=some (ap (.pointer q)))(hy:aw st y=some (ap (.pointer none)))(hp:P.underlying t=some (.pointer te))(hte:P.info? te=some j):cp P U o st (au q.isNone):=
 iM rfl λa w hs w'=>by
  have h:∀d:Nat,(Op.equalIn (d+1) t (.pointer q) (.pointer none)).run P w'=.ok q.isNone w':=λd=>by
   cases q<;>simp [Op.equalIn,run_underlying hp,sizeOf,typeInfo,hte,samePointer]
  have h2:(Op.equal t (.pointer q) (.pointer none)).run P w'=.ok q.isNone w':=h 9999;generalize hg:Op.equal t (.pointer q) (.pointer none)=E at h2;simp only [execOp,ho,hs.val hx,hs.val hy];simp_all [go_sem,eqGuard,binOp]
theorem Y_{t yt te:ax}{j:TypeInfo}{x y:bb}{q:Addr}(ho:o.op=.binOp .neq t x y yt)(hx:aw st x=some (ap (.pointer (some q))))(hy:aw st y=some (ap (.pointer (some q))))(hp:P.underlying t=some (.pointer te))(hte:P.info? te=some j):cp P U o st (au false):=
 iM rfl λa w hs w'=>by
  have h2:=Lib.run_neq_ptr_same w' q hp hte;simp only [execOp,ho,hs.val hx,hs.val hy];simp [go_sem,eqGuard,h2]
theorem XB {F : FuncId} {fn : Func} {x : bb} {rg : Array ax} {t : AT} (ho : o.op = .call { callee := .value (.func F), args := #[x], argTypes := rg }) (hx : aw st x = some t) (hf : P.funcs[F]? = some fn) (hname : (fn.name == "runtime.NumGoroutine") = false) (hb : fn.body.isNone = true) (hn : Extern.findNext fn = none) (he : Extern.find fn = some Extern.AbiNoEscape.same) : cp P U o st t := by
 intro a w hs _;refine ⟨a.eval x,hs.ev hx,λw' _=>?_⟩;simp only [execOp,ho,resolve,Deferred.ofValue,Act.eval,dK,fo,eu,invoke,mH,ca,d7];have h1:=run_callFunc_extern hf hname hb hn he #[a.eval x] w';rw [Lib.run_noEscape] at h1;simp only [eu] at h1;simpa [Act.eval] using h1
theorem Ot{w w':aa}{U:List Nat}{b:Nat}{T:ax}{cs:List aO}(hm:Mem s w)(hb:(⟨b,T,cs⟩:aV)∈s.boxes)(hk:cQ U w w')(hU:b∉U):w'.shape? b=some (T,cs.length):=by
 obtain ⟨us,⟨fz,-,h1⟩,h2⟩:=hm.box _ hb;have h3:w'.heap[b]?=_:=(hk.block b (hm.lt b (gW _ (k_.2 ⟨_,hb,J⟩))) hU).trans h1;unfold World.shape?;rw [h3];simp [h2.len]
theorem RV{E E' te:ax}{j:TypeInfo}{x:bb}{b:Nat}{T0:ax}{cs:List aO}(A:List aV){B:List aV}(ho:o.op=.convert E E' x)(hx:aw st x=some (aE b))(hb:st.s.boxes=A++⟨b,T0,cs⟩::B)(hE:P.underlying E=some (.pointer te))(hE':P.underlying E'=some .unsafePointer)(ht:P.info? te=some j)(hj:j.size≠0)(hl:0<cs.length)(hU:b∉U):cp P U o st (aE b):=by
 intro a w hs _;refine ⟨_,.c _ _ (.val _ J),λw' hk=>?_⟩;have hsh:=Ot hs.mem (b:=b) (T:=T0) (cs:=cs) ub hk hU;simp only [execOp,ho,dK,hs.val hx];rw [Lib.run_to_unsafe w' ⟨b,0,none⟩ hE hE' ht hj hsh hl];rfl
theorem RS{E E' u:ax}{j:TypeInfo}{x:bb}{b:Nat}{T0:ax}{cs:List aO}(A:List aV){B:List aV}(ho:o.op=.convert E E' x)(hx:aw st x=some (aE b))(hb:st.s.boxes=A++⟨b,T0,cs⟩::B)(hE:P.underlying E=some .unsafePointer)(hE':P.underlying E'=some (.pointer u))(ht:P.info? u=some j)(hlies:liesAt P P.depth T0 (cs.length/P.cellsOf T0) 0 u 1=true)(hU:b∉U):cp P U o st (aE b):=by
 intro a w hs _;refine ⟨_,.c _ _ (.val _ J),λw' hk=>?_⟩;have hsh:=Ot hs.mem (b:=b) (T:=T0) (cs:=cs) ub hk hU;simp only [execOp,ho,dK,hs.val hx];rw [Lib.run_from_unsafe w' ⟨b,0,none⟩ hE hE' ht hsh hlies];rfl
theorem ji{α:Type}{c:Code}{T':List Nat}{s':aH}(p:Nat -> α -> Prop)(N i:Nat)(T:α -> List Nat)(S:Nat -> α -> aH)(fx:Nat -> List (Nat×AT))(g0:α)(hp:p 0 g0)(hs:Sub ⟨n,T',s',ts⟩ ⟨n,T g0,S 0 g0,(i,ab 0)::fx 0⟩)
  (round:∀k g,k <= N -> p k g -> bi P c ⟨n,T g,S k g,(i,ab k)::fx k⟩ (lH (λs'=>k<N /\ ∃g',p (k+1) g' /\ Sub s' ⟨n,T g',S (k+1) g',(i,ab (k+1))::fx (k+1)⟩) Q)):bi P (.loop c) ⟨n,T',s',ts⟩ Q:=by
 refine fv (λg:Nat×α=>⟨n,T g.2,S g.1 g.2,(i,ab g.1)::fx g.1⟩) (λg=>g.1 <= N /\ p g.1 g.2) (λg=>N-g.1) (0,g0) hs ⟨eL _,hp⟩ λg hg=>sK (round g.1 g.2 hg.1 hg.2) λe s' h=>?_;cases e with
 |normal=>
  obtain ⟨h1,g',h2,h3⟩:=h;exact ⟨(g.1+1,g'),⟨h1,h2⟩,by show N-(g.1+1)<N-g.1;omega,h3⟩
 |_=>exact h
theorem mn{bx bx':List aV}{rw rw':List aQ}{s':aH}{T':List Nat}{ts':List (Nat×AT)}(h1:bx'.Sublist bx)(he:(⟨bx',rw'⟩:aH)=s')(h2:rw'.Sublist rw:=by exact (.refl _))(h3:∀b,b∈T' -> b∈T:=by intro x hx;simp only [mem_append,mem_cons,not_mem_nil,or_false] at hx⊢;rcases hx with hx|hx<;>simp [hx])(h:Sub ⟨n,T',s',ts⟩ ⟨n,T',s',ts'⟩:=by exact (av rfl (b_ Y) (ao rfl))):Sub ⟨n,T,⟨bx,rw⟩,ts⟩ ⟨n,T',s',ts'⟩:=by
 subst he;exact az (h1:=h1) (h2:=h2) (h:=h) h3
theorem ij{A:List aV}{W m:Nat}{a:Option Addr}{v:aN}{x y:List UInt8}{B:List aV}{rw:List aQ}(h:x=y):dD A W m a v x B rw=dD A W m a v y B rw:=by rw [h]
theorem kF{F:FuncId}{ks:Array bb}{rg:Array ax}{us:List AT}{W m m':Nat}{a:Option Addr}{v:aN}{bs bs':List UInt8}{r:AT}{A B:List aV}{C:Option Addr -> aN -> Prop}(h0:(o.op,o.dst,Nat.blt d n)=(.call {callee:=.value (.func F),args:=ks,argTypes:=rg},some d,true))
  (hcf:∀args w,(callFunc F args).run P w=.ok (.enter F args) w) (has:ks.toList.map (aw ⟨n,T,dD A W m a v bs B rw,ts⟩)=us.map some)
  (hc:aT P F us (W::aR v) (dD A W m a v bs B rw) λt s'=>t=r /\ ∃a' v',C a' v' /\ s'=dD A W m' a' v' bs' B rw) (hT:W∈T) (hTv:∀b,b∈aR v -> b∈T) (hU:(dD A W m a v bs B rw).bl.Nodup -> W∈U /\ ∀b,b∈aR v -> b∈U)
  (h:∀a' v',C a' v' -> K ⟨n,aR v'++T,dD A W m' a' v' bs' B rw,(d,r)::ts⟩):db P U o ⟨n,T,dD A W m a v bs B rw,ts⟩ K:=by
 simp only [jB] at h0;obtain ⟨ho,hd,hn⟩:=h0;intro act w hs KK QQ' hK;obtain ⟨h1,h2⟩:=pZ hs has;have ur:∀b,b∈W::aR v -> b∈(dD A W m a v bs B rw).bl:=λb hb=>by
  unfold aH.bl;rcases mem_cons.1 hb with rfl|hb
  ·simp
  simp [hb]
 have hTT:∀b,b∈W::aR v -> b∈T:=λb hb=>by
  rcases mem_cons.1 hb with rfl|hb
  ·exact hT
  exact hTv b hb
 unfold Oper.wp;rw [show (execOp act.eval o).run P w=.ok (.enter F (ks.toList.map act.eval).toArray) w from by
  simp only [execOp,ho,resolve,Deferred.ofValue,Act.eval,dK,fo,eu,invoke];rw [hcf]
  congr 2
  rw [←oZ];simp,Oper.upon_enter]
 refine (hc _ w hs.mem ur h1 h2).mono ?_;rintro en w' ⟨r',vr,s',rfl,⟨rfl,a',v',hC,rfl⟩,hr,hm,hk,hb⟩;dsimp only;rw [hd];have s1:=hs.step (aR v'++T) (hk.mono ur) hm hb;refine hK _ _ _ (h a' v' hC) (s1.put (fV hn) hr) ⟨hk.mono ur,hk.mono hTT,hb,λb hb2=>?_⟩ (hk.mono (λb hb=>by
  obtain ⟨u1,u2⟩:=hU hs.mem.nodup;rcases mem_cons.1 hb with rfl|hb
  ·exact u1
  exact u2 b hb))
 rcases mem_append.1 hb2 with hb2|hb2
 ·have ae:b∈(dD A W m' a' v' bs' B rw).bl:=CE;exact (hb b ae).imp LZ id
 exact .inl hb2
theorem ww{F:FuncId}{ks:Array bb}{rg:Array ax}{p:aa -> Prop}{t0 u:AT}{us:List AT}{W m m':Nat}{a:Option Addr}{v:aN}{bs bs':List UInt8}{r:AT}{A B:List aV}{C:Option Addr -> aN -> Prop}(i0:Nat)(h0:(o.op,o.dst,Nat.blt d n,look ts i0)=(.call {callee:=.value (.func F),args:=ks,argTypes:=rg},some d,true,some (.ride t0 p)))
  (hcf:∀args w,(callFunc F args).run P w=.ok (.enter F args) w) (has:ks.toList.map (aw ⟨n,T,dD A W m a v bs B rw,ts⟩)=(u::us).map some)
  (hc:aT P F (.ride u p::us) (W::aR v) (dD A W m a v bs B rw) λt s'=>t=r /\ ∃a' v',C a' v' /\ s'=dD A W m' a' v' bs' B rw) (hT:W∈T) (hTv:∀b,b∈aR v -> b∈T) (hU:(dD A W m a v bs B rw).bl.Nodup -> W∈U /\ ∀b,b∈aR v -> b∈U)
  (h:∀a' v',C a' v' -> K ⟨n,aR v'++T,dD A W m' a' v' bs' B rw,(d,r)::ts⟩):db P U o ⟨n,T,dD A W m a v bs B rw,ts⟩ K:=by
 simp only [jB] at h0;obtain ⟨ho,hd,hn,hl⟩:=h0;intro act w hs KK QQ' hK;obtain ⟨h1,h2⟩:=pZ hs has;obtain ⟨v0,-,hv0⟩:=hs.tm i0 _ hl;have ur:∀b,b∈W::aR v -> b∈(dD A W m a v bs B rw).bl:=λb hb=>by
  unfold aH.bl;rcases mem_cons.1 hb with rfl|hb
  ·simp
  simp [hb]
 have hTT:∀b,b∈W::aR v -> b∈T:=λb hb=>by
  rcases mem_cons.1 hb with rfl|hb
  ·exact hT
  exact hTv b hb
 unfold Oper.wp;rw [show (execOp act.eval o).run P w=.ok (.enter F (ks.toList.map act.eval).toArray) w from by
  simp only [execOp,ho,resolve,Deferred.ofValue,Act.eval,dK,fo,eu,invoke];rw [hcf]
  congr 2
  rw [←oZ];simp,Oper.upon_enter]
 refine (hc _ w hs.mem ur h1 (λi hi hi'=>?_)).mono ?_
 ·match i,hi with
  |0,hi=>exact xd hv0 (h2 0 aM hi')
  |i+1,hi=>exact h2 (i+1) pz hi'
 rintro en w' ⟨r',vr,s',rfl,⟨rfl,a',v',hC,rfl⟩,hr,hm,hk,hb⟩;dsimp only;rw [hd];have s1:=hs.step (aR v'++T) (hk.mono ur) hm hb;refine hK _ _ _ (h a' v' hC) (s1.put (fV hn) hr) ⟨hk.mono ur,hk.mono hTT,hb,λb hb2=>?_⟩ (hk.mono (λb hb=>by
  obtain ⟨u1,u2⟩:=hU hs.mem.nodup;rcases mem_cons.1 hb with rfl|hb
  ·exact u1
  exact u2 b hb))
 rcases mem_append.1 hb2 with hb2|hb2
 ·have ae:b∈(dD A W m' a' v' bs' B rw).bl:=CE;exact (hb b ae).imp LZ id
 exact .inl hb2
end
end
section
open Go.RowKit
class cI (v:Value) (T:List Nat):Prop where h:∀b,b∈aR v -> b∈T
instance (priority:=1200) rbIn_hit{v:Value}{T:List Nat}:cI v (aR v++T):=⟨λ_ hb=>gW _ hb⟩
instance (priority:=1200) rbIn_self{v:Value}:cI v (aR v):=⟨λ_ hb=>hb⟩
instance (priority:=1300) rbIn_none{T:List Nat}:cI (.slice none 0 0) T:=⟨λb hb=>I8⟩
instance (priority:=1300) rbIn_lit{g n c:Nat}{T:List Nat}[h:pS g T]:cI (.slice (some ⟨g,0,none⟩) n c) T:=⟨λb hb=>by
 simp only [aR,Value.ownBlock,Option.toList,mem_cons,not_mem_nil,or_false] at hb;rw [hb];exact h.h⟩
instance aG9{v:Value}{X T:List Nat}[h:cI v T]:cI v (X++T):=⟨λb hb=>gz _ (h.h b hb)⟩
instance aBA{v:Value}{X T:List Nat}[h:cI v X]:cI v (X++T):=⟨λb hb=>gW _ (h.h b hb)⟩
instance aAo{v:Value}{x:Nat}{T:List Nat}[h:cI v T]:cI v (x::T):=⟨λb hb=>d_ _ (h.h b hb)⟩
instance aEY{x:bP}:iA (bW x) 3:=⟨rfl⟩
instance aB2{x:ox}:iA (fL x) 3:=⟨rfl⟩
instance aE1{x:jD}:iA (encI x) 12:=⟨rfl⟩
instance aFJ{x:bP}:h_ (bW x) [ac x.name,aA x.kind,am x.n]:=⟨rfl⟩
instance aGg{x:ox}:h_ (fL x) [bD x.param,am x.index,aG bV x.at_]:=⟨rfl⟩
instance aDQ{x:jD}:h_ (encI x) [aA x.op,am x.target,bD x.global,aA x.expr.op,aA x.expr.num,ac x.expr.name,aG bV x.expr.args,bD x.place.param,am x.place.index,aG bV x.place.at_,aG bV x.ints,aG fL x.places]:=⟨rfl⟩
def sx{P:Program}{α:Type}{x y:Code}{st:AS}{Q:Exit -> AS -> Prop}(F:α -> AS)(h1:bi P x st (lH (λs=>∃a,Sub s (F a)) Q))(h2:∀a,bi P y (F a) Q):bi P (.seq x y) st Q:=
 yy (sK h1 λe s h=>by
  cases e with
  |normal=>obtain ⟨a,ha⟩:=h;exact rY ha (h2 a)
  |_=>exact h)
def Kf{m n:Int}:ef .eql m n=some (decide (m=n)):=by unfold ef;by_cases h:m=n<;>simp [h]
def TT{q:iv}{e:Nat}{s:Int}(h:(q.1:Int)=0)(he:e≠0):cX q e s=(e,s):=by unfold cX;rw [if_pos ⟨Y,he⟩]
def We{q:iv}{e:Nat}{s:Int}(h:¬(q.1:Int)=0):cX q e s=q:=by unfold cX;rw [if_neg (λh2=>h Y)]
def Jj{l:List bP}{s:aI}{k:Nat}(h:k<l.length)(hn:¬l[k].name=s)(hv:bL (l.drop k) s=bL l s):bL (l.drop (k+1)) s=bL l s:=by
 rw [ii h,bL,if_neg hn] at hv;exact hv
def OB{l:List bP}{s:aI}{k:Nat}(h:k<l.length)(hn:l[k].name=s)(hv:bL (l.drop k) s=bL l s):bL l s=some l[k]:=by
 rw [ii h,bL,if_pos hn] at hv;exact hv.symm
def nj(A B:List aV)(X:Nat)(p:aX)(l:List bP)(loc n:Int)(q:iv)(c8 c9:aO)(rw:List aQ)(e:Nat)(s:Int)(he:e≠0):aT prog 80 [aE X,ab e,aj s] [X] ⟨A++⟨X,134,be p [aG bW l,aA loc,aA n,aA q.2,am q.1,c8,c9]⟩::B,rw⟩ λt s'=>t=.fd [] /\ s'=⟨A++⟨X,134,be p [aG bW l,aA loc,aA n,aA ((cX q e s).2),aA (((cX q e s).1:Nat):Int),c8,c9]⟩::B,rw⟩:=by
 refine bM 19 func80 ?_;refine go 6 ?_;by_cases h1:(q.1:Int)=0
 ·refine aJ J (bR h1) (go 15 ?_);exact ⟨.inl J,_,⟨A++⟨X,134,be p [aG bW l,aA loc,aA n,aA (((e,s):iv).2),aA ((((e,s):iv).1:Nat):Int),c8,c9]⟩::B,rw⟩,fg J,ah (.refl _) (.refl _),J,by rw [TT h1 he]⟩
 refine aF J (bN h1) (go 4 ?_);exact ⟨.inl J,_,⟨A++⟨X,134,be p [aG bW l,aA loc,aA n,aA q.2,am q.1,c8,c9]⟩::B,rw⟩,fg J,ah (.refl _) (.refl _),J,by rw [We h1]⟩
def uB(l:List bP)(s:aI)(hN:l.length <= 1000000000)(st:aH):aT prog 23 [.c (aG bW l),cK s] [] st λt s'=>t=.fd [.agg (bW (bQ l s)),au ((bL l s).isSome)] /\ s'=st:=by
 obtain ⟨bx,rw⟩:=st;unfold bQ;refine bM 25 func23 ?_;refine go 13 λb1=>?_;refine jr (λk=>bL (l.drop k) s=bL l s) (l.length) 6 (λk=>[(0,.c (aG bW l)),(1,cK s),(4,aE b1)]) J (ao J) λk hk hvk=>?_;replace hvk:bL (l.drop k) s=bL l s:=hvk
 try dsimp only
 refine go 6 ?_;by_cases h1:(k:Int)<(l.length:Int)
 ·refine aJ J (cw h1) (go 11 ?_);refine aC J (bX bW bW l nQ (λ_=>J) k J J J J Y V xB mA) (go 3 ?_);by_cases h3:l[k].name=s
  ·refine aC J (fS true J J J (ob h3)) (go 7 ?_);refine aC J (bX bW bW l nQ (λ_=>J) k J J J J Y V xB mA) (go 11 ?_);exact ⟨.inr J,_,⟨bx,rw⟩,jA J (bv [] J J qz mA (cG J J)) (bO J),ah bG (.refl _),by rw [OB Y h3 hvk];rfl,J⟩
  refine aC J (fS false J J J (o_ h3)) (go 8 ?_);refine bK J (go 2 ?_);exact ⟨Y,(Jj Y h3 hvk),(av J (b_ Y) (ao J))⟩
 refine aF J (ct h1) (go 16 ?_);exact ⟨.inr J,_,⟨bx,rw⟩,jA J (bv [] J J qz mA (cG J J)) (bO J),ah bG (.refl _),Mw,J⟩
def XH{l:List bP}{x:aI}(h:(bL l x).isSome=false):fO l x=6:=by
 unfold fO;rcases h2:bL l x with _|v
 ·rfl
 rw [h2] at h;cases h
def Hz{l:List bP}{x:aI}(h:(bL l x).isSome=true):fO l x=if (bQ l x).kind=1∨(bQ l x).kind=4 then 0 else 8:=by
 unfold fO bQ;rcases h2:bL l x with _|v
 ·rw [h2] at h;cases h
 rfl
def QE(A B:List aV)(X:Nat)(p:aX)(l:List bP)(loc n:Int)(q:iv)(c8 c9:aO)(rw:List aQ)(x:aI)(s:Int)(hl:l.length <= 1000000000):aT prog 82 [aE X,cK x,aj s] [X] ⟨A++⟨X,134,be p [aG bW l,aA loc,aA n,aA q.2,am q.1,c8,c9]⟩::B,rw⟩ λt s'=>t=.agg (bW (bQ l x)) /\ s'=⟨A++⟨X,134,be p [aG bW l,aA loc,aA n,aA ((cX q (fO l x) s).2),aA (((cX q (fO l x) s).1:Nat):Int),c8,c9]⟩::B,rw⟩:=by
 refine bM 37 func82 ?_;refine go 12 λb1=>?_;refine cf J qG J (uB l x Y _) ?_;rintro _ _ ⟨rfl,rfl⟩;refine go 13 λb2=>?_;rcases bz ((bL l x).isSome) with h1|h1
 ·refine aC J (cP (bH (qk h1)) (jK J J)) (go 8 ?_);by_cases h3:(bQ l x).kind=1
  ·refine aF J (eG h3) (go 19 ?_);exact ⟨.inr J,_,⟨A++⟨X,134,be p [aG bW l,aA loc,aA n,aA q.2,am q.1,c8,c9]⟩::B,rw⟩,bJ J (bv [_] J J qz mA (cG J J)),ah c_ (.refl _),J,by rw [Hz h1,if_pos Y,om]⟩
  refine aJ J (gG h3) (go 3 ?_);by_cases h5:(bQ l x).kind=4
  ·refine aF J (eG h5) (go 15 ?_);exact ⟨.inr J,_,⟨A++⟨X,134,be p [aG bW l,aA loc,aA n,aA q.2,am q.1,c8,c9]⟩::B,rw⟩,bJ J (bv [_] J J qz mA (cG J J)),ah c_ (.refl _),J,by rw [Hz h1,if_pos Y,om]⟩
  refine aJ J (gG h5) (go 8 ?_);refine aW J (bo [X] J J V n_ J (nj (_::_::A) B X p l loc n q _ _ rw 8 s V) de dc j8 ?_);rintro _ _ ⟨rfl,rfl⟩;refine go 10 ?_;exact ⟨.inr J,_,⟨A++⟨X,134,be p [aG bW l,aA loc,aA n,aA ((cX q 8 s).2),aA (((cX q 8 s).1:Nat):Int),c8,c9]⟩::B,rw⟩,bJ J (bv [_] J J qz mA (cG J J)),ah c_ (.refl _),J,by rw [Hz h1,if_neg Y]⟩
 refine aC J (cP (bH (qh h1)) (jK J J)) (go 7 ?_);refine aW J (bo [X] J J V n_ J (nj (_::_::A) B X p l loc n q _ _ rw 6 s V) de dc j8 ?_);rintro _ _ ⟨rfl,rfl⟩;refine go 10 ?_;exact ⟨.inr J,_,⟨A++⟨X,134,be p [aG bW l,aA loc,aA n,aA ((cX q 6 s).2),aA (((cX q 6 s).1:Nat):Int),c8,c9]⟩::B,rw⟩,bJ J (bv [_] J J qz mA (cG J J)),ah c_ (.refl _),J,by rw [XH h1]⟩
def mP{l:List bP}{x:aI}(h:(bL l x).isSome=true):bL l x=some (bQ l x):=by
 unfold bQ;rcases h2:bL l x with _|v
 ·rw [h2] at h;cases h
 rfl
def WJ{p:aX}{l:List bP}{x:aI}{n:Nat}(h:(bL l x).isSome=false):km p n (bL l x)=6:=by
 rcases h2:bL l x with _|v
 ·rfl
 rw [h2] at h;cases h
def uj{p:aX}{l:List bP}{x:aI}{n:Nat}(h:(bL l x).isSome=true):km p n (bL l x)=if (bQ l x).kind=2∨(bQ l x).kind=5 then (if (decide ((bQ l x).kind=2) && decide (0<rT p (bQ l x).n))=decide (0<n) then 0 else 8) else 8:=by
 rw [mP h];rfl
def xq{α β:Type}(f:α -> β)(enc:β -> List aO)(l:List α)(k:Nat)(h:k<l.length):((l.take k).map f).flatMap enc++[f l[k]].flatMap enc=((l.take (k+1)).map f).flatMap enc:=by
 rw [gX h,e1,dh];rfl
def Sz(A B:List aV)(X:Nat)(p:aX)(l:List bP)(loc n:Int)(q:iv)(c8 c9:aO)(rw:List aQ)(e:aS)(s:Int)(hl:l.length <= 1000000000)(hN:e.nodes <= 1000000000)(ih:∀k (h:k<e.args.length) (A:List aV) (q:iv) (rw:List aQ),aT prog 81 [aE X,.agg (bf e.args[k]),aj s] [X] ⟨A++⟨X,134,be p [aG bW l,aA loc,aA n,aA q.2,am q.1,c8,c9]⟩::B,rw⟩ λt s'=>t=.agg (bf (cd l e.args[k])) /\ s'=⟨A++⟨X,134,be p [aG bW l,aA loc,aA n,aA ((cX q (cV l e.args[k]) s).2),aA (((cX q (cV l e.args[k]) s).1:Nat):Int),c8,c9]⟩::B,rw⟩):aT prog 81 [aE X,.agg (bf e),aj s] [X] ⟨A++⟨X,134,be p [aG bW l,aA loc,aA n,aA q.2,am q.1,c8,c9]⟩::B,rw⟩ λt s'=>t=.agg (bf (cd l e)) /\ s'=⟨A++⟨X,134,be p [aG bW l,aA loc,aA n,aA ((cX q (cV l e) s).2),aA (((cX q (cV l e) s).1:Nat):Int),c8,c9]⟩::B,rw⟩:=by
 have hlen:=si e;refine bM 53 func81 ?_;refine go 11 λb1 b2=>?_;by_cases h1:e.op=2
 ·refine aJ J (bR h1) (go 9 ?_);refine aW J (bo [X] J J V call82 J (QE (_::_::A) B X p l loc n q _ _ rw e.name s hl) de dc j8 ?_);rintro _ _ ⟨rfl,rfl⟩;refine go 9 λb3=>?_;by_cases h3:(bQ l e.name).kind=1
  ·refine aJ J (bR h3) (go 14 ?_);exact ⟨.inr J,_,⟨A++⟨X,134,be p [aG bW l,aA loc,aA n,aA ((cX q (fO l e.name) s).2),aA (((cX q (fO l e.name) s).1:Nat):Int),c8,c9]⟩::B,rw⟩,bJ J (iB (bI.agg (.r (.r (.r (.n .nil))))) (bv [_] J J gE dl (cG J J))),ah ek (.refl _),by rw [yW,if_pos Y];unfold rp;rw [if_pos Y];rfl,by rw [zQ,if_pos Y]⟩
  refine aF J (bN h3) (go 15 ?_);exact ⟨.inr J,_,⟨A++⟨X,134,be p [aG bW l,aA loc,aA n,aA ((cX q (fO l e.name) s).2),aA (((cX q (fO l e.name) s).1:Nat):Int),c8,c9]⟩::B,rw⟩,bJ J (iB (bI.agg (.r (.r (.r (.n .nil))))) (bv [_] J J gE dl (cG J J))),ah ek (.refl _),by rw [yW,if_pos Y];unfold rp;rw [if_neg Y];rfl,by rw [zQ,if_pos Y]⟩
 refine aF J (bN h1) (go 23 λb4=>?_);refine gA 94 4 ?_;refine ji (α:=aN×iv) (λk g=>g.2=cX q (hJ l (e.args.take k)) s) (e.args.length) 9 (λg=>aR g.1++[b4,b2,b1,X]) (λk g=>⟨⟨b4,94,[aA e.op,aA e.num,ac ay,.val g.1]⟩::⟨b2,94,[aA 0,aA 0,ac ay,aK]⟩::⟨b1,94,bf e⟩::A++⟨X,134,be p [aG bW l,aA loc,aA n,aA g.2.2,am g.2.1,c8,c9]⟩::B,⟨g.1,94,4,k,((e.args.take k).map (cd l)).flatMap bV⟩::rw⟩) (λ_=>[(0,aE X),(2,aj s),(4,aE b1),(6,aE b2),(8,aE b4)]) (.slice none 0 0,q) (by rw [mZ,hJ,om]) (az vQ) ?_;rintro k ⟨v,qq⟩ hk hvk;replace hvk:qq=cX q (hJ l (e.args.take k)) s:=hvk
 try dsimp only
 refine go 7 ?_;by_cases h7:(k:Int)<(e.args.length:Int)
 ·refine aJ J (cw h7) (go 7 ?_);refine lQ 12 [b4,b2,b1] [] #[true,true,true,true,true,true,true,true,true,true,true,true,false,false] aL aL aL ?_;refine aU [0,1,2,3,4,5] 6 (go 7 ?_);refine aZ 6 J (bX bV bf e.args fw fR k J J J J Y V iR dl) (aU [7,8] 3 (go 3 ?_));refine aY 9 J J (bo [X] J J V call81 J (ih k Y (_::_::_::A) qq (_::rw)) de dc (by intro h b hb;simp at hb;subst hb;exact gZ.2 ⟨xx,λhh=>by simp only [mem_cons,not_mem_nil,or_false] at hh;rcases hh with rfl|rfl|rfl<;>simp [aH.bl] at h⟩) ?_);rintro _ _ ⟨rfl,rfl⟩;refine aY 10 J J (bU (hf:=dd bV bf (cd l e.args[k]) (fR _) J J) o' ?_);refine aY 11 J J (dS [] wZ J (dF bV 4 fw _) V cO Y (N:=k+1) J (λhn b hb=>cz (r:=(⟨v,94,4,k,((e.args.take k).map (cd l)).flatMap bV⟩:aQ)) hn hb) cI.h (r:=((e.args.take (k+1)).map (cd l)).flatMap bV) (xq (cd l) bV e.args k Y) λw5=>?_);refine bC ?_;refine id ?_;refine cY [(12,true),(13,false)] 0 (go 3 ?_);refine bC (go 4 ?_);refine bK J (go 2 ?_);exact ⟨Y,(w5,(cX qq (cV l e.args[k]) s)),(by rw [hvk];exact PZ l e.args k Y q s),az (h:=av J (b_ Y) (ao J)) lD⟩
 refine aF J (ct h7) (go 10 ?_);obtain rfl:k=e.args.length:=Y;rw [hP];refine eO (cs':=[aA e.op,aA e.num,ac ay,.sl e.args.length ((e.args.map (cd l)).flatMap bV)]) [] 3 J J ?_;show cN prog _ _ ⟨_,_,⟨⟨b4,94,[aA e.op,aA e.num,ac ay,.sl e.args.length ((e.args.map (cd l)).flatMap bV)]⟩::⟨b2,94,[aA 0,aA 0,ac ay,aK]⟩::⟨b1,94,bf e⟩::A++⟨X,134,be p [aG bW l,aA loc,aA n,aA qq.2,am qq.1,c8,c9]⟩::B,rw⟩,_⟩ _;refine go 5 ?_;exact ⟨.inr J,_,⟨A++⟨X,134,be p [aG bW l,aA loc,aA n,aA qq.2,am qq.1,c8,c9]⟩::B,rw⟩,bJ J (bv [_] J J gE dl (cG J J)),ah ek (.refl _),Ll,by rw [zQ,if_neg Y,hvk,hP]⟩
def NJ:∀(N:Nat)(e:aS),e.nodes <= N -> N <= 1000000000 -> ∀(A B:List aV)(X:Nat)(p:aX)(l:List bP)(loc n:Int)(q:iv)(c8 c9:aO)(rw:List aQ)(s:Int)(hl:l.length <= 1000000000),aT prog 81 [aE X,.agg (bf e),aj s] [X] ⟨A++⟨X,134,be p [aG bW l,aA loc,aA n,aA q.2,am q.1,c8,c9]⟩::B,rw⟩ λt s'=>t=.agg (bf (cd l e)) /\ s'=⟨A++⟨X,134,be p [aG bW l,aA loc,aA n,aA ((cX q (cV l e) s).2),aA (((cX q (cV l e) s).1:Nat):Int),c8,c9]⟩::B,rw⟩
 |0,e,h,_=>rW
 |N+1,e,h,hN=>λA B X p l loc n q c8 c9 rw s hl=>Sz A B X p l loc n q c8 c9 rw e s hl Y λk hk A q rw=>NJ N e.args[k] rP Y A B X p l loc n q c8 c9 rw s hl
def xa(A B:List aV)(X:Nat)(p:aX)(l:List bP)(loc n:Int)(q:iv)(c8 c9:aO)(rw:List aQ)(e:aS)(s:Int)(hl:l.length <= 1000000000)(h:e.nodes <= 1000000000):aT prog 81 [aE X,.agg (bf e),aj s] [X] ⟨A++⟨X,134,be p [aG bW l,aA loc,aA n,aA q.2,am q.1,c8,c9]⟩::B,rw⟩ λt s'=>t=.agg (bf (cd l e)) /\ s'=⟨A++⟨X,134,be p [aG bW l,aA loc,aA n,aA ((cX q (cV l e) s).2),aA (((cX q (cV l e) s).1:Nat):Int),c8,c9]⟩::B,rw⟩:=NJ _ e h (bY _) A B X p l loc n q c8 c9 rw s hl
structure oo (gg gm gf gk gl:Nat) (gs ms fs lk lo:br) (rw:List aQ):Prop where
 gg:ak gg 0 bA gs∈rw
 gm:ak gm 0 bA ms∈rw
 gf:ak gf 0 bA fs∈rw
 gk:ak gk 0 bA lk∈rw
 gl:ak gl 0 bA lo∈rw
def oo.cons{gg gm gf gk gl:Nat}{gs ms fs lk lo:br}{rw:List aQ}{r:aQ}(h:oo gg gm gf gk gl gs ms fs lk lo rw):oo gg gm gf gk gl gs ms fs lk lo (r::rw):=⟨by simp [h.gg],by simp [h.gm],by simp [h.gf],by simp [h.gk],by simp [h.gl]⟩
def S_(A B:List aV)(D gg gm gf gk gl:Nat)(p:aX)(l:List bP)(gs ms fs lk lo:br)(c5 c6 c7 c8:aO)(rw:List aQ)(hM:d2 gs ms fs lk lo l)(hW:oo gg gm gf gk gl gs ms fs lk lo rw)(e:aS)(hN:e.nodes <= 1000000000)(hE:cV l e=0)(ih:¬e.op=2 -> ∀k (h:k<e.args.length) (A:List aV) (rw:List aQ),oo gg gm gf gk gl gs ms fs lk lo rw -> aT prog 96 [aE D,.agg (bf e.args[k])] [] ⟨A++⟨D,74,[aB gg,aB gm,aB gf,aB gl,aB gk,c5,c6,c7,c8]⟩::B,rw⟩ λt s'=>t=.agg (bf (cd l e.args[k])) /\ s'=⟨A++⟨D,74,[aB gg,aB gm,aB gf,aB gl,aB gk,c5,c6,c7,c8]⟩::B,rw⟩):aT prog 96 [aE D,.agg (bf e)] [] ⟨A++⟨D,74,[aB gg,aB gm,aB gf,aB gl,aB gk,c5,c6,c7,c8]⟩::B,rw⟩ λt s'=>t=.agg (bf (cd l e)) /\ s'=⟨A++⟨D,74,[aB gg,aB gm,aB gf,aB gl,aB gk,c5,c6,c7,c8]⟩::B,rw⟩:=by
 have hlen:=si e;refine bM 56 func96 ?_;refine go 11 λb1 b2=>?_;by_cases h1:e.op=2
 ·refine aJ J (bR h1) (go 5 ?_);refine bu [b2,b1,D,gg,gm,gf,gk,gl] (aU [0,1,2,3,4,5] 6 (go 7 ?_));refine aZ 6 J (FM lo J J J (by simp [hW.gl]) lj dz rV na) (aU [7,8,9,10,11] 0 (go 6 ?_));refine bC (go 6 ?_);refine iD J (λh3=>?_) (λh3=>?_)
  ·refine go 10 ?_;exact ⟨.inr J,_,⟨A++⟨D,74,[aB gg,aB gm,aB gf,aB gl,aB gk,c5,c6,c7,c8]⟩::B,rw⟩,bJ J (iB (bI.agg (.r (.r (.r (.n .nil))))) (bv [] J J gE dl (cG J J))),ah c_ (.refl _),by rw [yW,if_pos Y,hM.aKp h3];rfl,J⟩
  refine go 3 ?_;refine lQ 8 [b2,b1,D,gg,gm,gf,gk,gl] [] #[true,true,true,true,true,true,true,true,false] aL aL aL ?_;refine aU [0,1,2,3,4,5] 2 (go 7 ?_);refine aZ 6 J (o0 gs J J J (by simp [hW.gg]) lj dz rV na) (aU [7] 0 (go 2 ?_));refine bC ?_;refine id ?_;refine cY [(8,false)] 0 (go 2 ?_);refine bC (go 3 ?_);exact ⟨.inr J,_,⟨A++⟨D,74,[aB gg,aB gm,aB gf,aB gl,aB gk,c5,c6,c7,c8]⟩::B,rw⟩,bJ J (iB (bI.agg (.r (.r (.r (.n .nil))))) (bv [] J J gE dl (cG J J))),ah c_ (.refl _),by rw [yW,if_pos Y,hM.aKq h3 (by rw [zQ,if_pos Y] at hE;exact hE)];rfl,J⟩
 refine aF J (bN h1) (go 26 λb3=>?_);refine gA 94 4 ?_;refine ji (α:=aN) (λ_ _=>True) (e.args.length) 42 (λg=>aR g++[b3,b2,b1]) (λk g=>⟨⟨b3,94,[aA e.op,aA e.num,ac ay,.val g]⟩::⟨b2,94,[aA 0,aA 0,ac ay,aK]⟩::⟨b1,94,bf e⟩::A++⟨D,74,[aB gg,aB gm,aB gf,aB gl,aB gk,c5,c6,c7,c8]⟩::B,⟨g,94,4,k,((e.args.take k).map (cd l)).flatMap bV⟩::rw⟩) (λ_=>[(0,aE D),(4,aE b2),(7,aE b3),(40,.c (aG bV e.args)),(41,ab e.args.length)]) (.slice none 0 0) trivial (az vQ) ?_;rintro k v hk -
 try dsimp only
 refine go 2 ?_;by_cases h5:(k:Int)<(e.args.length:Int)
 ·refine aJ J (cw h5) (go 10 ?_);refine aC J (bX bV bf e.args fw fR k J J J J Y V iR dl) (go 5 λb4=>?_);refine lQ 7 [b4,b3,b2,b1,D] [] #[true,true,true,true,true,true,true,false,false] aL aL aL ?_;refine aU [0,1,2,3] 3 (go 5 ?_);refine aY 4 J J (dv J J V call96 J (ih Y k Y (_::_::_::_::A) (_::rw) hW.cons) ?_);rintro _ _ ⟨rfl,rfl⟩;refine aY 5 J J (bU (hf:=dd bV bf (cd l e.args[k]) (fR _) J J) o' ?_);refine aY 6 J J (dS [] wZ J (dF bV 4 fw _) V cO Y (N:=k+1) J (λhn b hb=>cz (r:=(⟨v,94,4,k,((e.args.take k).map (cd l)).flatMap bV⟩:aQ)) hn hb) cI.h (r:=((e.args.take (k+1)).map (cd l)).flatMap bV) (xq (cd l) bV e.args k Y) λw5=>?_);refine bC ?_;refine id ?_;refine cY [(7,true),(8,false)] 0 (go 3 ?_);refine bC (go 3 ?_);refine bK J (go 2 ?_);exact ⟨Y,w5,trivial,az (h1:=bG) (h:=av J (b_ Y) (ao J)) lD⟩
 refine aF J (ct h5) (go 11 ?_);obtain rfl:k=e.args.length:=Y;rw [hP];refine eO (cs':=[aA e.op,aA e.num,ac ay,.sl e.args.length ((e.args.map (cd l)).flatMap bV)]) [] 3 J J ?_;show cN prog _ _ ⟨_,_,⟨⟨b3,94,[aA e.op,aA e.num,ac ay,.sl e.args.length ((e.args.map (cd l)).flatMap bV)]⟩::⟨b2,94,[aA 0,aA 0,ac ay,aK]⟩::⟨b1,94,bf e⟩::A++⟨D,74,[aB gg,aB gm,aB gf,aB gl,aB gk,c5,c6,c7,c8]⟩::B,rw⟩,_⟩ _;refine go 5 ?_;exact ⟨.inr J,_,⟨A++⟨D,74,[aB gg,aB gm,aB gf,aB gl,aB gk,c5,c6,c7,c8]⟩::B,rw⟩,bJ J (bv [_] J J gE dl (cG J J)),ah ek (.refl _),Ll,J⟩
def yN:∀(N:Nat)(e:aS),e.nodes <= N -> N <= 1000000000 -> ∀(A B:List aV)(D gg gm gf gk gl:Nat)(p:aX)(l:List bP)(gs ms fs lk lo:br)(c5 c6 c7 c8:aO)(rw:List aQ)(hM:d2 gs ms fs lk lo l)(hW:oo gg gm gf gk gl gs ms fs lk lo rw)(hE:cV l e=0),aT prog 96 [aE D,.agg (bf e)] [] ⟨A++⟨D,74,[aB gg,aB gm,aB gf,aB gl,aB gk,c5,c6,c7,c8]⟩::B,rw⟩ λt s'=>t=.agg (bf (cd l e)) /\ s'=⟨A++⟨D,74,[aB gg,aB gm,aB gf,aB gl,aB gk,c5,c6,c7,c8]⟩::B,rw⟩
 |0,e,h,_=>rW
 |N+1,e,h,hN=>λA B D gg gm gf gk gl p l gs ms fs lk lo c5 c6 c7 c8 rw hM hW hE=>by
  exact S_ A B D gg gm gf gk gl p l gs ms fs lk lo c5 c6 c7 c8 rw hM hW e Y hE λh2 k hk A rw hW=>yN N e.args[k] rP Y A B D gg gm gf gk gl p l gs ms fs lk lo c5 c6 c7 c8 rw hM hW (FV l e.args (by rw [zQ,if_neg h2] at hE;exact hE) k hk)
end
end Go.Proofs.YtckelpefchdenaaGreatDoor
