import Derived.Test.YtjgeihmhppadaaaGreatDoorVG6J
set_option linter.all false
set_option synthInstance.maxHeartbeats 1000000
set_option synthInstance.maxSize 1000000
set_option maxHeartbeats 1600000
set_option maxRecDepth 100000
namespace Go.Proofs.YtjgeihmhppadaaaGreatDoor
open Go.Proofs.Tryz
open List (length_append length_cons length_nil mem_append mem_cons not_mem_nil append_assoc getElem_mem take_of_length_le)
section
open Go.RowKit
def jd{α:Type}(f:α -> Bool):List α -> Int
 |[]=>-1
 |x::l=>if f x then 0 else if jd f l<0 then -1 else jd f l+1
def wR{α:Type}(f:α -> Bool):∀(l:List α)(k:Nat)(h:k<l.length),(∀i (h:i<l.length),i<k -> f l[i]=false) -> f l[k]=true -> jd f l=k
 |x::l,0,_,_,h1=>by simp only [FW] at h1;rw [jd,if_pos h1];rfl
 |x::l,k+1,h,h0,h1=>by
  have hx:f x=false:=h0 0 aL Y;have ih:=wR f l k i_ (λi hi hik=>h0 (i+1) pW Y) sn;rw [jd,hx,if_neg V,ih,if_neg Y];omega
def wh{α:Type}(f:α -> Bool):∀(l:List α),(∀i (h:i<l.length),f l[i]=false) -> jd f l=-1
 |[],_=>rfl
 |x::l,h0=>by
  have hx:f x=false:=h0 0 aL;have ih:=wh f l (λi hi=>h0 (i+1) pW);rw [jd,hx,if_neg V,ih,if_pos V]
def ub{α:Type}(f:α -> Bool):∀(l:List α),(0 <= jd f l↔l.any f=true) /\ -1 <= jd f l
 |[]=>⟨by simp [jd],by rw [jd];omega⟩
 |x::l=>by
  have ih:=ub f l;rw [jd,List.any_cons];cases hx:f x with
  |true=>simp
  |false=>
   rw [if_neg V,Bool.false_or];split
   ·rename_i hl;refine ⟨⟨λh=>absurd h V,λh=>?_⟩,V⟩;have:=ih.1.2 h;omega
   exact ⟨⟨λh=>ih.1.1 Y,λh=>by have:=ih.1.2 h;omega⟩,Y⟩
def AH{α:Type}{f:α -> Bool}{l:List α}(h:¬0 <= jd f l):l.any f=false:=kX.2 λhh=>h ((ub f l).1.2 hh)
def Lw{α:Type}(f:α -> Bool)(l:List α):(l.any λx=>!f x)=!l.all f:=by
 induction l with
 |nil=>rfl
 |cons x l ih=>rw [List.any_cons,zB,ih,Bool.not_and]
def Gt(r:cL):okRefB r=(cG r.name && decide (r.index.length <= 1) && !r.index.any λe=>!fJ e):=by
 obtain ⟨n,ix⟩:=r
 match ix with
 |[]=>unfold okRefB;simp
 |[e]=>unfold okRefB;simp
 |_::_::_=>unfold okRefB;simp
def gD(s:aE):Bool:=fk s && !cG s.name
def gt(s:aE):Bool:=!fk s && !decide (s.name=a_)
def pw(s:aE):Bool:=fq s && !fJ s.expr
def vK(s:aE):Bool:=!fq s && !kz s.expr
def uw(s:aE):Bool:=gA s && !okRefB s.ref
def xO(s:aE):Bool:=!gA s && !lu s.ref
def vC(s:aE):Bool:=!gT s && !decide (s.args.length=0)
def sk(s:aE):Bool:=!fp s && !decide (s.thn.length=0)
def jR(s:aE):Bool:=decide (s.kind=7)
def jl(s:aE):Bool:=!jR s && !decide (s.els.length=0)
def aj(D:Nat)(s:aE):Bool:=!fp s||(dC (D+1) s.thn && (decide (s.els.length=0)||dC (D+1) s.els))
def kV(D:Nat)(s:aE):fw D s=(!gO s && !gD s && !gt s && !pw s && !vK s && !uw s && !xO s && !vC s && !sk s && !jl s && s.args.all fX && aj D s):=by
 rw [sC];have h1:tG s=(gO s||gD s||gt s||pw s||vK s||uw s||xO s||vC s):=J;have h2:jR s=true -> fp s=true:=λh=>by unfold jR at h;unfold fp;simp only [decide_eq_true_eq] at h⊢;omega
 have h3:xC D s=(!sk s && !jl s && aj D s):=by
  unfold xC sk jl aj;rw [show decide (s.kind=7)=jR s from rfl];cases hB:fp s with
  |false=>
   have hI:jR s=false:=by cases h:jR s with|false=>rfl|true=>rw [h2 h] at hB;cases hB
   rw [hI];cases decide (s.thn.length=0)<;>cases decide (s.els.length=0)<;>rfl
  |true=>cases jR s<;>cases decide (s.thn.length=0)<;>cases decide (s.els.length=0)<;>cases dC (D+1) s.thn<;>cases dC (D+1) s.els<;>rfl
 rw [h1,h3];generalize aj D s=x;generalize s.args.all fX=y;cases gO s<;>cases gD s<;>cases gt s<;>cases pw s<;>cases vK s<;>(try rfl)<;>cases uw s<;>cases xO s<;>cases vC s<;>(try rfl)<;>cases sk s<;>cases jl s<;>cases y<;>cases x<;>rfl
def uH(D:Nat):∀l:List aE,dC D l=(decide (D<24) && l.all (fw D))
 |[]=>by rw [dC,List.all_nil,Bool.and_true]
 |s::l=>by
  rw [dC,uH D l,zB];cases fw D s<;>cases decide (D<24)<;>rfl
def YE(g:bB -> Bool)(l:List bB)(F:FuncId)(cap:Array aN)(s:aJ)(hl:l.length <= 1000000000)(hcf:∀args w,(callFunc F args).run prog w=.ok (.enter F args) w)(hc:∀k (h:k<l.length),aU prog F (cM (.agg (aZ l[k]))::cap.toList.map gb) [] s λt s'=>t=bC (g l[k]) /\ s'=s):aU prog 118 [cM (.c (aB aZ l)),av (.func (.func F) #[] cap)] [] s λt s'=>t=an (jd g l) /\ s'=s:=by
 obtain ⟨bx,rw⟩:=s;refine bR 19 func118 ?_;refine go 14 ?_;refine jr (λk=>∀i (h:i<l.length),i<k -> g l[i]=false) (l.length) 8 (λk=>[(0,cM (.c (aB aZ l))),(1,av (.func (.func F) #[] cap)),(7,ae l.length)]) nF (ax J) λk hk hvk=>?_;replace hvk:∀i (h:i<l.length),i<k -> g l[i]=false:=hvk
 try dsimp only
 refine go 2 ?_;by_cases h1:(k:Int)<(l.length:Int)
 ·refine aI J (c_ h1) (go 19 ?_);refine aD J (bf aZ aZ l mH (λ_=>J) k J J J J Y V fU dn) (go 1 ?_);rcases bw (g l[k]) with h3|h3
  ·refine qE 0 J hcf J (hc k Y) h3 ?_;refine go 15 ?_;exact az (s':=⟨bx,rw⟩) J d4 ⟨fa (wR g l k Y (λi hi hik=>hvk i hi hik) h3),J⟩
  refine qE 0 J hcf J (hc k Y) h3 ?_;refine go 7 ?_;refine bP J (go 2 ?_);exact ⟨Y,yz,(ay J (cD Y) (ax J))⟩
 refine aG J (cv h1) (go 15 ?_);exact az (s':=⟨bx,rw⟩) J d4 ⟨fa (wh g l v_),J⟩
def Jb(g:bB -> Bool)(l:List bB)(F:FuncId)(cap:Array aN)(s:aJ)(hl:l.length <= 1000000000)(hcf:∀args w,(callFunc F args).run prog w=.ok (.enter F args) w)(hc:∀k (h:k<l.length),aU prog F (cM (.agg (aZ l[k]))::cap.toList.map gb) [] s λt s'=>t=bC (g l[k]) /\ s'=s):aU prog 89 [cM (.c (aB aZ l)),av (.func (.func F) #[] cap)] [] s λt s'=>t=bC (l.any g) /\ s'=s:=by
 obtain ⟨bx,rw⟩:=s;refine bR 9 func89 ?_;refine go 9 ?_;refine j6 0 J call118 J (YE g l F cap _ hl hcf hc) ?_;by_cases h1:(0:Int) <= jd g l
 ·refine aI J (nB h1) (go 4 ?_);exact az (s':=⟨bx,rw⟩) J d4 ⟨bZ ((ub g l).1.1 h1),J⟩
 refine aG J (oQ h1) (go 4 ?_);exact az (s':=⟨bx,rw⟩) J d4 ⟨bZ (AH h1),J⟩
def RF(g:bg -> Bool)(l:List bg)(F:FuncId)(cap:Array aN)(s:aJ)(hl:l.length <= 1000000000)(hcf:∀args w,(callFunc F args).run prog w=.ok (.enter F args) w)(hc:∀k (h:k<l.length),aU prog F (cM (.agg (cC l[k]))::cap.toList.map gb) [] s λt s'=>t=bC (g l[k]) /\ s'=s):aU prog 141 [cM (.c (aB cC l)),av (.func (.func F) #[] cap)] [] s λt s'=>t=an (jd g l) /\ s'=s:=by
 obtain ⟨bx,rw⟩:=s;refine bR 19 func141 ?_;refine go 14 ?_;refine jr (λk=>∀i (h:i<l.length),i<k -> g l[i]=false) (l.length) 8 (λk=>[(0,cM (.c (aB cC l))),(1,av (.func (.func F) #[] cap)),(7,ae l.length)]) nF (ax J) λk hk hvk=>?_;replace hvk:∀i (h:i<l.length),i<k -> g l[i]=false:=hvk
 try dsimp only
 refine go 2 ?_;by_cases h1:(k:Int)<(l.length:Int)
 ·refine aI J (c_ h1) (go 19 ?_);refine aD J (bf cC cC l iU (λ_=>J) k J J J J Y V iO gj) (go 1 ?_);rcases bw (g l[k]) with h3|h3
  ·refine qE 0 J hcf J (hc k Y) h3 ?_;refine go 15 ?_;exact az (s':=⟨bx,rw⟩) J d4 ⟨fa (wR g l k Y (λi hi hik=>hvk i hi hik) h3),J⟩
  refine qE 0 J hcf J (hc k Y) h3 ?_;refine go 7 ?_;refine bP J (go 2 ?_);exact ⟨Y,yz,(ay J (cD Y) (ax J))⟩
 refine aG J (cv h1) (go 15 ?_);exact az (s':=⟨bx,rw⟩) J d4 ⟨fa (wh g l v_),J⟩
def QN(g:bg -> Bool)(l:List bg)(F:FuncId)(cap:Array aN)(s:aJ)(hl:l.length <= 1000000000)(hcf:∀args w,(callFunc F args).run prog w=.ok (.enter F args) w)(hc:∀k (h:k<l.length),aU prog F (cM (.agg (cC l[k]))::cap.toList.map gb) [] s λt s'=>t=bC (g l[k]) /\ s'=s):aU prog 119 [cM (.c (aB cC l)),av (.func (.func F) #[] cap)] [] s λt s'=>t=bC (l.any g) /\ s'=s:=by
 obtain ⟨bx,rw⟩:=s;refine bR 9 func119 ?_;refine go 9 ?_;refine j6 0 J call141 J (RF g l F cap _ hl hcf hc) ?_;by_cases h1:(0:Int) <= jd g l
 ·refine aI J (nB h1) (go 4 ?_);exact az (s':=⟨bx,rw⟩) J d4 ⟨bZ ((ub g l).1.1 h1),J⟩
 refine aG J (oQ h1) (go 4 ?_);exact az (s':=⟨bx,rw⟩) J d4 ⟨bZ (AH h1),J⟩
def SY(g:aE -> Bool)(l:List aE)(F:FuncId)(cap:Array aN)(s:aJ)(hl:l.length <= 1000000000)(hcf:∀args w,(callFunc F args).run prog w=.ok (.enter F args) w)(hc:∀k (h:k<l.length),aU prog F (cM (.agg (ci l[k]))::cap.toList.map gb) [] s λt s'=>t=bC (g l[k]) /\ s'=s):aU prog 161 [cM (.c (aB encS l)),av (.func (.func F) #[] cap)] [] s λt s'=>t=an (jd g l) /\ s'=s:=by
 obtain ⟨bx,rw⟩:=s;refine bR 19 func161 ?_;refine go 14 ?_;refine jr (λk=>∀i (h:i<l.length),i<k -> g l[i]=false) (l.length) 8 (λk=>[(0,cM (.c (aB encS l))),(1,av (.func (.func F) #[] cap)),(7,ae l.length)]) nF (ax J) λk hk hvk=>?_;replace hvk:∀i (h:i<l.length),i<k -> g l[i]=false:=hvk
 try dsimp only
 refine go 2 ?_;by_cases h1:(k:Int)<(l.length:Int)
 ·refine aI J (c_ h1) (go 19 ?_);refine aD J (bf encS ci l l8 mQ k J J J J Y V jw d7) (go 1 ?_);rcases bw (g l[k]) with h3|h3
  ·refine qE 0 J hcf J (hc k Y) h3 ?_;refine go 15 ?_;exact az (s':=⟨bx,rw⟩) J d4 ⟨fa (wR g l k Y (λi hi hik=>hvk i hi hik) h3),J⟩
  refine qE 0 J hcf J (hc k Y) h3 ?_;refine go 7 ?_;refine bP J (go 2 ?_);exact ⟨Y,yz,(ay J (cD Y) (ax J))⟩
 refine aG J (cv h1) (go 15 ?_);exact az (s':=⟨bx,rw⟩) J d4 ⟨fa (wh g l v_),J⟩
def OV(g:aE -> Bool)(l:List aE)(F:FuncId)(cap:Array aN)(s:aJ)(hl:l.length <= 1000000000)(hcf:∀args w,(callFunc F args).run prog w=.ok (.enter F args) w)(hc:∀k (h:k<l.length),aU prog F (cM (.agg (ci l[k]))::cap.toList.map gb) [] s λt s'=>t=bC (g l[k]) /\ s'=s):aU prog 142 [cM (.c (aB encS l)),av (.func (.func F) #[] cap)] [] s λt s'=>t=bC (l.any g) /\ s'=s:=by
 obtain ⟨bx,rw⟩:=s;refine bR 9 func142 ?_;refine go 9 ?_;refine j6 0 J call161 J (SY g l F cap _ hl hcf hc) ?_;by_cases h1:(0:Int) <= jd g l
 ·refine aI J (nB h1) (go 4 ?_);exact az (s':=⟨bx,rw⟩) J d4 ⟨bZ ((ub g l).1.1 h1),J⟩
 refine aG J (oQ h1) (go 4 ?_);exact az (s':=⟨bx,rw⟩) J d4 ⟨bZ (AH h1),J⟩
def UC(g:cI -> Bool)(l:List cI)(F:FuncId)(cap:Array aN)(s:aJ)(hl:l.length <= 1000000000)(hcf:∀args w,(callFunc F args).run prog w=.ok (.enter F args) w)(hc:∀k (h:k<l.length),aU prog F (cM (.agg (cd l[k]))::cap.toList.map gb) [] s λt s'=>t=bC (g l[k]) /\ s'=s):aU prog 187 [cM (.c (aB cd l)),av (.func (.func F) #[] cap)] [] s λt s'=>t=an (jd g l) /\ s'=s:=by
 obtain ⟨bx,rw⟩:=s;refine bR 19 func187 ?_;refine go 14 ?_;refine jr (λk=>∀i (h:i<l.length),i<k -> g l[i]=false) (l.length) 8 (λk=>[(0,cM (.c (aB cd l))),(1,av (.func (.func F) #[] cap)),(7,ae l.length)]) nF (ax J) λk hk hvk=>?_;replace hvk:∀i (h:i<l.length),i<k -> g l[i]=false:=hvk
 try dsimp only
 refine go 2 ?_;by_cases h1:(k:Int)<(l.length:Int)
 ·refine aI J (c_ h1) (go 19 ?_);refine aD J (bf cd cd l o' (λ_=>J) k J J J J Y V lH jy) (go 1 ?_);rcases bw (g l[k]) with h3|h3
  ·refine qE 0 J hcf J (hc k Y) h3 ?_;refine go 15 ?_;exact az (s':=⟨bx,rw⟩) J d4 ⟨fa (wR g l k Y (λi hi hik=>hvk i hi hik) h3),J⟩
  refine qE 0 J hcf J (hc k Y) h3 ?_;refine go 7 ?_;refine bP J (go 2 ?_);exact ⟨Y,yz,(ay J (cD Y) (ax J))⟩
 refine aG J (cv h1) (go 15 ?_);exact az (s':=⟨bx,rw⟩) J d4 ⟨fa (wh g l v_),J⟩
def Bq(g:cI -> Bool)(l:List cI)(F:FuncId)(cap:Array aN)(s:aJ)(hl:l.length <= 1000000000)(hcf:∀args w,(callFunc F args).run prog w=.ok (.enter F args) w)(hc:∀k (h:k<l.length),aU prog F (cM (.agg (cd l[k]))::cap.toList.map gb) [] s λt s'=>t=bC (g l[k]) /\ s'=s):aU prog 167 [cM (.c (aB cd l)),av (.func (.func F) #[] cap)] [] s λt s'=>t=bC (l.any g) /\ s'=s:=by
 obtain ⟨bx,rw⟩:=s;refine bR 9 func167 ?_;refine go 9 ?_;refine j6 0 J call187 J (UC g l F cap _ hl hcf hc) ?_;by_cases h1:(0:Int) <= jd g l
 ·refine aI J (nB h1) (go 4 ?_);exact az (s':=⟨bx,rw⟩) J d4 ⟨bZ ((ub g l).1.1 h1),J⟩
 refine aG J (oQ h1) (go 4 ?_);exact az (s':=⟨bx,rw⟩) J d4 ⟨bZ (AH h1),J⟩
def VM(g:aS -> Bool)(l:List aS)(F:FuncId)(cap:Array aN)(s:aJ)(hl:l.length <= 1000000000)(hcf:∀args w,(callFunc F args).run prog w=.ok (.enter F args) w)(hc:∀k (h:k<l.length),aU prog F (cM (.agg (bo l[k]))::cap.toList.map gb) [] s λt s'=>t=bC (g l[k]) /\ s'=s):aU prog 201 [cM (.c (aB bc l)),av (.func (.func F) #[] cap)] [] s λt s'=>t=an (jd g l) /\ s'=s:=by
 obtain ⟨bx,rw⟩:=s;refine bR 19 func201 ?_;refine go 14 ?_;refine jr (λk=>∀i (h:i<l.length),i<k -> g l[i]=false) (l.length) 8 (λk=>[(0,cM (.c (aB bc l))),(1,av (.func (.func F) #[] cap)),(7,ae l.length)]) nF (ax J) λk hk hvk=>?_;replace hvk:∀i (h:i<l.length),i<k -> g l[i]=false:=hvk
 try dsimp only
 refine go 2 ?_;by_cases h1:(k:Int)<(l.length:Int)
 ·refine aI J (c_ h1) (go 19 ?_);refine aD J (bf bc bo l g_ fv k J J J J Y V jY dw) (go 1 ?_);rcases bw (g l[k]) with h3|h3
  ·refine qE 0 J hcf J (hc k Y) h3 ?_;refine go 15 ?_;exact az (s':=⟨bx,rw⟩) J d4 ⟨fa (wR g l k Y (λi hi hik=>hvk i hi hik) h3),J⟩
  refine qE 0 J hcf J (hc k Y) h3 ?_;refine go 7 ?_;refine bP J (go 2 ?_);exact ⟨Y,yz,(ay J (cD Y) (ax J))⟩
 refine aG J (cv h1) (go 15 ?_);exact az (s':=⟨bx,rw⟩) J d4 ⟨fa (wh g l v_),J⟩
def SS(g:aS -> Bool)(l:List aS)(F:FuncId)(cap:Array aN)(s:aJ)(hl:l.length <= 1000000000)(hcf:∀args w,(callFunc F args).run prog w=.ok (.enter F args) w)(hc:∀k (h:k<l.length),aU prog F (cM (.agg (bo l[k]))::cap.toList.map gb) [] s λt s'=>t=bC (g l[k]) /\ s'=s):aU prog 185 [cM (.c (aB bc l)),av (.func (.func F) #[] cap)] [] s λt s'=>t=bC (l.any g) /\ s'=s:=by
 obtain ⟨bx,rw⟩:=s;refine bR 9 func185 ?_;refine go 9 ?_;refine j6 0 J call201 J (VM g l F cap _ hl hcf hc) ?_;by_cases h1:(0:Int) <= jd g l
 ·refine aI J (nB h1) (go 4 ?_);exact az (s':=⟨bx,rw⟩) J d4 ⟨bZ ((ub g l).1.1 h1),J⟩
 refine aG J (oQ h1) (go 4 ?_);exact az (s':=⟨bx,rw⟩) J d4 ⟨bZ (AH h1),J⟩
def qi(x:aH)(hx:x.size <= 4611686018427387904)(s:aJ):aU prog 117 [cM (cK x)] [] s λt s'=>t=bC (cG x) /\ s'=s:=by
 obtain ⟨bx,rw⟩:=s;refine bR 35 func117 ?_;refine go 8 ?_;refine aX J (BB J J V J eE kj pi Mr (N:=x.data.toList.length) J (cs:=ca x.data.toList) J ?_);refine aX J (Hk 0 [] J J V call94 J J (λm=>FE x.data.toList m _) dJ dJ (λ_=>dJ) ?_);rintro _ _ ⟨(⟨tl1,IS,rfl,aQj⟩|⟨p1,aj,IS,rfl,he1⟩),rfl⟩
 ·refine go 12 ?_;refine aI J jz (go 3 ?_);by_cases h2:(tl1.length:Int)=2
  ·refine aI J (bU h2) (go 3 ?_);refine aD J (bf dY dY tl1 lN (λ_=>J) 0 J J J J Y V km kr) (go 2 ?_);by_cases h3:((tl1[0].kind:Nat):Int)=1
   ·refine aI J (bU h3) (go 3 ?_);refine aD J (bf dY dY tl1 lN (λ_=>J) 0 J J J J Y V km kr) (go 3 ?_);by_cases h4:tl1[0].text=x
    ·refine aD J (fc true J J J (pF h4)) (go 5 ?_);exact az (s':=⟨bx,rw⟩) J d4 ⟨bZ ((zM IS).1 ⟨Y,Y,Y,h4⟩),J⟩
    refine aD J (fc false J J J (od h4)) (go 5 ?_);exact az (s':=⟨bx,rw⟩) J d4 ⟨bZ (kX.2 λhh=>O9),J⟩
   refine aG J (bO h3) (go 13 ?_);exact az (s':=⟨bx,rw⟩) J d4 ⟨bZ (kX.2 λhh=>P_),J⟩
  refine aG J (bO h2) (go 20 ?_);exact az (s':=⟨bx,rw⟩) J d4 ⟨bZ (kX.2 λhh=>Kw),J⟩
 refine go 12 ?_;refine aG J (bO Y) (go 24 ?_);exact az (s':=⟨bx,rw⟩) J d4 ⟨bZ (Pi IS),J⟩
def Gx(e:aS)(s:aJ):aU prog 164 [.agg (bo e)] [] s λt s'=>t=bC (kz e) /\ s'=s:=by
 obtain ⟨bx,rw⟩:=s;refine bR 22 func164 ?_;refine go 10 λb1=>?_;by_cases h1:e.op=0
 ·refine aI J (bU h1) (go 3 ?_);by_cases h2:e.num=0
  ·refine aI J (bU h2) (go 4 ?_);by_cases h3:e.name=a_
   ·refine aD J (fc true J J J (pF h3)) (go 5 ?_);by_cases h4:(e.args.length:Int)=0
    ·refine aI J (bU h4) (go 5 ?_);exact az (s':=⟨bx,rw⟩) J cT ⟨bZ Mq,J⟩
    refine aG J (bO h4) (go 5 ?_);exact az (s':=⟨bx,rw⟩) J cT ⟨bZ (kX.2 λhh=>NB),J⟩
   refine aD J (fc false J J J (od h3)) (go 11 ?_);exact az (s':=⟨bx,rw⟩) J cT ⟨bZ (kX.2 λhh=>Oo),J⟩
  refine aG J (bO h2) (go 16 ?_);exact az (s':=⟨bx,rw⟩) J cT ⟨bZ (kX.2 λhh=>JY),J⟩
 refine aG J (bO h1) (go 20 ?_);exact az (s':=⟨bx,rw⟩) J cT ⟨bZ (kX.2 λhh=>Pe),J⟩
def FZ(r:cL)(s:aJ):aU prog 166 [.agg (encR r)] [] s λt s'=>t=bC (lu r) /\ s'=s:=by
 obtain ⟨bx,rw⟩:=s;refine bR 12 func166 ?_;refine go 10 λb1=>?_;by_cases h1:r.name=a_
 ·refine aD J (fc true J J J (pF h1)) (go 4 ?_);by_cases h2:(r.index.length:Int)=0
  ·refine aI J (bU h2) (go 5 ?_);exact az (s':=⟨bx,rw⟩) J cT ⟨bZ LI,J⟩
  refine aG J (bO h2) (go 5 ?_);exact az (s':=⟨bx,rw⟩) J cT ⟨bZ (kX.2 λhh=>O0),J⟩
 refine aD J (fc false J J J (od h1)) (go 10 ?_);exact az (s':=⟨bx,rw⟩) J cT ⟨bZ (kX.2 λhh=>KF),J⟩
def Yi(e:aS)(hN:e.nodes <= 1000000000)(hs:e.bt)(s:aJ):aU prog 186 [cM (.agg (bo e))] [] s λt s'=>t=bC (!fJ e) /\ s'=s:=by
 obtain ⟨bx,rw⟩:=s;refine bR 6 func186 ?_;refine go 9 λb1=>?_;rcases bw (fJ e) with h1|h1;rotate_left;all_goals
  refine d8 0 J call163 J (zH e hN hs _) h1 (go 5 ?_);exact az (s':=⟨bx,rw⟩) J cT ⟨bZ xR,J⟩
def OM(r:cL)(hs:r.bt)(hN:d2 r.index <= 900000000)(s:aJ):aU prog 165 [cM (.agg (encR r))] [] s λt s'=>t=bC (okRefB r) /\ s'=s:=by
 obtain ⟨bx,rw⟩:=s;refine bR 18 func165 ?_;refine go 10 λb1=>?_;rcases bw (cG r.name) with h1|h1
 ·refine d8 0 J qt J (qi r.name hs.1 _) h1 (go 4 ?_);by_cases h2:(r.index.length:Int) <= 1
  ·refine aI J (zg h2) (go 4 ?_);rcases bw (r.index.any λe=>!fJ e) with h3|h3;rotate_left;all_goals
    refine d8 0 J call185 J (SS (λe=>!fJ e) r.index 186 #[] _ Y call186 (λk hk=>Yi _ (by have:=qV r.index k hk;omega) (qR _ hs.2 _ (getElem_mem _)) _)) h3 (go 6 ?_);exact az (s':=⟨bx,rw⟩) J cT ⟨bZ (by rw [Gt,h1,decide_eq_true (show r.index.length <= 1 by omega),h3];rfl),J⟩
  refine aG J (yQ h2) (go 11 ?_);exact az (s':=⟨bx,rw⟩) J cT ⟨bZ (by rw [Gt,h1,decide_eq_false (show ¬r.index.length <= 1 by omega)];rfl),J⟩
 refine d8 0 J qt J (qi r.name hs.1 _) h1 (go 16 ?_);exact az (s':=⟨bx,rw⟩) J cT ⟨bZ (by rw [Gt,h1];rfl),J⟩
def T8(a:cI)(hs:a.bt)(hw:a.wt <= 900000000)(s:aJ):aU prog 169 [cM (.agg (cd a))] [] s λt s'=>t=bC (fX a) /\ s'=s:=by
 obtain ⟨bx,rw⟩:=s;unfold cI.wt cL.wt at hw;refine bR 21 func169 ?_;refine go 10 λb1=>?_;rcases bw (a.mutex) with h1|h1
 ·refine aD J (cP (bJ h1) (cV [] dH dG)) (go 7 ?_);rcases bw (kz a.expr) with h3|h3
  ·refine tP J call164 J (Gx a.expr _) h3 (go 3 ?_);rcases bw (okRefB a.ref) with h4|h4;rotate_left;all_goals
    refine d8 0 J call165 J (OM a.ref hs.1 Y _) h4 (go 6 ?_);exact az (s':=⟨bx,rw⟩) J cT ⟨bZ (by rw [yP h1,h4,h3];first|rfl|(cases okRefB a.ref<;>rfl)),rfl⟩
  refine tP J call164 J (Gx a.expr _) h3 (go 10 ?_);exact az (s':=⟨bx,rw⟩) J cT ⟨bZ (by rw [yP h1,h3];first|rfl|(cases okRefB a.ref<;>rfl)),rfl⟩
 refine aD J (cP (bJ h1) (cV [] dH dG)) (go 9 ?_);rcases bw (lu a.ref) with h6|h6
 ·refine tP J call166 J (FZ a.ref _) h6 (go 3 ?_);rcases bw (fJ a.expr) with h7|h7;rotate_left;all_goals
   refine d8 0 J call163 J (zH a.expr Y hs.2 _) h7 (go 5 ?_);exact az (s':=⟨bx,rw⟩) J cT ⟨bZ (by rw [zG h1,h6,h7];first|rfl|(cases okRefB a.ref<;>rfl)),rfl⟩
 refine tP J call166 J (FZ a.ref _) h6 (go 9 ?_);exact az (s':=⟨bx,rw⟩) J cT ⟨bZ (by rw [zG h1,h6];first|rfl|(cases okRefB a.ref<;>rfl)),rfl⟩
def Ve(a:cI)(hs:a.bt)(hw:a.wt <= 900000000)(s:aJ):aU prog 168 [cM (.agg (cd a))] [] s λt s'=>t=bC (!fX a) /\ s'=s:=by
 obtain ⟨bx,rw⟩:=s;refine bR 6 func168 ?_;refine go 9 λb1=>?_;rcases bw (fX a) with h1|h1;rotate_left;all_goals
  refine d8 0 J call169 J (T8 a hs hw _) h1 (go 5 ?_);exact az (s':=⟨bx,rw⟩) J cT ⟨bZ xR,J⟩
def Xh(x:aE)(s:aJ):aU prog 162 [an x.kind] [] s λt s'=>t=.fd [.agg [bG (fk x),bG (fq x),bG (gA x),bG (gT x),bG (fp x),bG (jR x)],bC (!gO x)] /\ s'=s:=by
 obtain ⟨bx,rw⟩:=s;refine bR 27 func162 ?_;refine go 16 λb1=>?_;by_cases h1:x.kind=1
 ·refine aI J (bU h1) (go 17 ?_);exact ⟨.inr J,_,⟨bx,rw⟩,iu J (bu [] J J pa pe J) (bN J),ai bI (.refl _),NK,J⟩
 refine aG J (bO h1) (go 5 ?_);by_cases h5:x.kind=2
 ·refine aI J (bU h5) (go 14 ?_);exact ⟨.inr J,_,⟨bx,rw⟩,iu J (bu [] J J pa pe J) (bN J),ai bI (.refl _),NK,J⟩
 refine aG J (bO h5) (go 7 ?_);by_cases h8:x.kind=3
 ·refine aI J (bU h8) (go 17 ?_);exact ⟨.inr J,_,⟨bx,rw⟩,iu J (bu [] J J pa pe J) (bN J),ai bI (.refl _),Ot,J⟩
 refine aG J (bO h8) (go 5 ?_);by_cases h12:x.kind=4
 ·refine aI J (bU h12) (go 14 ?_);exact ⟨.inr J,_,⟨bx,rw⟩,iu J (bu [] J J pa pe J) (bN J),ai bI (.refl _),Ot,J⟩
 refine aG J (bO h12) (go 7 ?_);by_cases rd:x.kind=5
 ·refine aI J (bU rd) (go 17 ?_);exact ⟨.inr J,_,⟨bx,rw⟩,iu J (bu [] J J pa pe J) (bN J),ai bI (.refl _),Pg,J⟩
 refine aG J (bO rd) (go 5 ?_);by_cases h19:x.kind=6
 ·refine aI J (bU h19) (go 14 ?_);exact ⟨.inr J,_,⟨bx,rw⟩,iu J (bu [] J J pa pe J) (bN J),ai bI (.refl _),Pg,J⟩
 refine aG J (bO h19) (go 6 ?_);by_cases h22:x.kind=7
 ·refine aI J (bU h22) (go 14 ?_);exact ⟨.inr J,_,⟨bx,rw⟩,iu J (bu [] J J pa pe J) (bN J),ai bI (.refl _),(by rw [show fk x=false by unfold fk;first|exact decide_eq_true Y|exact decide_eq_false Y,show fq x=true by unfold fq;first|exact decide_eq_true Y|exact decide_eq_false Y,show gA x=false by unfold gA;first|exact decide_eq_true Y|exact decide_eq_false Y,show gT x=false by unfold gT;first|exact decide_eq_true Y|exact decide_eq_false Y,show fp x=true by unfold fp;first|exact decide_eq_true Y|exact decide_eq_false Y,show jR x=true by unfold jR;first|exact decide_eq_true Y|exact decide_eq_false Y,show gO x=false by unfold gO;first|exact decide_eq_true Y|exact decide_eq_false Y];rfl),J⟩
 refine aG J (bO h22) (go 6 ?_);by_cases wd:x.kind=8
 ·refine aI J (bU wd) (go 14 ?_);exact ⟨.inr J,_,⟨bx,rw⟩,iu J (bu [] J J pa pe J) (bN J),ai bI (.refl _),(by rw [show fk x=false by unfold fk;first|exact decide_eq_true Y|exact decide_eq_false Y,show fq x=true by unfold fq;first|exact decide_eq_true Y|exact decide_eq_false Y,show gA x=false by unfold gA;first|exact decide_eq_true Y|exact decide_eq_false Y,show gT x=false by unfold gT;first|exact decide_eq_true Y|exact decide_eq_false Y,show fp x=true by unfold fp;first|exact decide_eq_true Y|exact decide_eq_false Y,show jR x=false by unfold jR;first|exact decide_eq_true Y|exact decide_eq_false Y,show gO x=false by unfold gO;first|exact decide_eq_true Y|exact decide_eq_false Y];rfl),J⟩
 refine aG J (bO wd) (go 6 ?_);by_cases Pc:x.kind=9
 ·refine aI J (bU Pc) (go 14 ?_);exact ⟨.inr J,_,⟨bx,rw⟩,iu J (bu [] J J pa pe J) (bN J),ai bI (.refl _),(by rw [show fk x=false by unfold fk;first|exact decide_eq_true Y|exact decide_eq_false Y,show fq x=false by unfold fq;first|exact decide_eq_true Y|exact decide_eq_false Y,show gA x=false by unfold gA;first|exact decide_eq_true Y|exact decide_eq_false Y,show gT x=false by unfold gT;first|exact decide_eq_true Y|exact decide_eq_false Y,show fp x=false by unfold fp;first|exact decide_eq_true Y|exact decide_eq_false Y,show jR x=false by unfold jR;first|exact decide_eq_true Y|exact decide_eq_false Y,show gO x=false by unfold gO;first|exact decide_eq_true Y|exact decide_eq_false Y];rfl),J⟩
 refine aG J (bO Pc) (go 15 ?_);exact ⟨.inr J,_,⟨bx,rw⟩,iu J (bu [] J J pa pe J) (bN J),ai bI (.refl _),(by rw [show fk x=false by unfold fk;first|exact decide_eq_true Y|exact decide_eq_false Y,show fq x=false by unfold fq;first|exact decide_eq_true Y|exact decide_eq_false Y,show gA x=false by unfold gA;first|exact decide_eq_true Y|exact decide_eq_false Y,show gT x=false by unfold gT;first|exact decide_eq_true Y|exact decide_eq_false Y,show fp x=false by unfold fp;first|exact decide_eq_true Y|exact decide_eq_false Y,show jR x=false by unfold jR;first|exact decide_eq_true Y|exact decide_eq_false Y,show gO x=true by unfold gO;first|exact decide_eq_true Y|exact decide_eq_false Y];rfl),J⟩
def zZ{α:Type}{f:α -> Bool}{l:List α}(h:(l.any λx=>!f x)=true):l.all f=false:=by rw [Lw] at h;simpa using h
def p7{α:Type}{f:α -> Bool}{l:List α}(h:(l.any λx=>!f x)=false):l.all f=true:=by rw [Lw] at h;simpa using h
def X4(D:Nat)(x:aE)(hs:x.bt)(hw:x.wt <= 900000000)(hD:D <= 1000)(ih1:∀(s:aJ),aU prog 121 [cM (.c (aB encS x.thn)),an ((D:Int)+1)] [] s λt s'=>t=bC (dC (D+1) x.thn) /\ s'=s)(ih2:∀(s:aJ),aU prog 121 [cM (.c (aB encS x.els)),an ((D:Int)+1)] [] s λt s'=>t=bC (dC (D+1) x.els) /\ s'=s)(s:aJ):aU prog 144 [cM (.agg (ci x)),ae D] [] s λt s'=>t=bC (fw D x) /\ s'=s:=by
 obtain ⟨bx,rw⟩:=s;obtain ⟨hsn,hse,AI,hsa,hst,DQ⟩:=nR hs;rw [gM] at hw;unfold cL.wt at hw;have hwa:=p9 x.args;refine bR 119 func144 ?_;refine go 10 λb1=>?_;refine AD J call162 J (Xh x _) (go 14 λb2=>?_);rcases bw (!gO x) with h1|h1
 ·refine aD J (cP (bJ (qc h1)) (jE J J)) (go 4 ?_);refine pA [(13,bC (gD x)),(0,cM (.agg (ci x))),(1,ae D),(2,aF b1),(5,aF b2),(6,bC (!gO x))] ?_ ?_
  ·refine go 2 ?_;rcases bw (fk x) with h3|h3
   ·refine aD J (cP (bJ h3) (cV [] dH dG)) (go 3 ?_);rcases bw (cG x.name) with h4|h4;rotate_left;all_goals
     refine d8 0 J qt J (qi x.name hsn _) h4 (go 4 ?_);exact ⟨J,(ay J (bJ (by unfold gD;rw [h3,h4];rfl)) (ax J))⟩
   refine aD J (cP (bJ h3) (cV [] dH dG)) (go 8 ?_);exact ⟨J,(ay J (bJ (by unfold gD;rw [h3];rfl)) (ax J))⟩
  refine im J (λh5=>?_) (λh5=>?_)
  ·refine go 2 ?_;refine rf J h5 ?_;refine go 8 ?_;exact az (s':=⟨bx,rw⟩) J fR ⟨bZ (by rw [kV,h5];simp),J⟩
  refine pA [(13,bC (gt x)),(0,cM (.agg (ci x))),(1,ae D),(2,aF b1),(5,aF b2),(6,bC (!gO x))] ?_ ?_
  ·refine go 2 ?_;rcases bw (fk x) with h6|h6
   ·refine aD J (cP (bJ h6) (cV [] dH dG)) (go 8 ?_);exact ⟨J,(ay J (bJ (by unfold gt;rw [h6];rfl)) (ax J))⟩
   refine aD J (cP (bJ h6) (cV [] dH dG)) (go 4 ?_);by_cases h7:x.name=a_
   ·refine aD J (fc false J J J (CJ h7)) (go 3 ?_);exact ⟨J,(ay J (bJ (by unfold gt;rw [h6,decide_eq_true h7];rfl)) (ax J))⟩
   refine aD J (fc true J J J (C7 h7)) (go 3 ?_);exact ⟨J,(ay J (bJ (by unfold gt;rw [h6,decide_eq_false h7];rfl)) (ax J))⟩
  refine im J (λh8=>?_) (λh8=>?_)
  ·refine go 2 ?_;refine rf J h8 ?_;refine go 8 ?_;exact az (s':=⟨bx,rw⟩) J fR ⟨bZ (by rw [kV,h8];simp),J⟩
  refine pA [(13,bC (pw x)),(0,cM (.agg (ci x))),(1,ae D),(2,aF b1),(5,aF b2),(6,bC (!gO x))] ?_ ?_
  ·refine go 2 ?_;rcases bw (fq x) with h9|h9
   ·refine aD J (cP (bJ h9) (cV [] dH dG)) (go 3 ?_);rcases bw (fJ x.expr) with h10|h10;rotate_left;all_goals
     refine d8 0 J call163 J (zH x.expr Y hse _) h10 (go 4 ?_);exact ⟨J,(ay J (bJ (by unfold pw;rw [h9,h10];rfl)) (ax J))⟩
   refine aD J (cP (bJ h9) (cV [] dH dG)) (go 8 ?_);exact ⟨J,(ay J (bJ (by unfold pw;rw [h9];rfl)) (ax J))⟩
  refine im J (λh11=>?_) (λh11=>?_)
  ·refine go 2 ?_;refine rf J h11 ?_;refine go 8 ?_;exact az (s':=⟨bx,rw⟩) J fR ⟨bZ (by rw [kV,h11];simp),J⟩
  refine pA [(13,bC (vK x)),(0,cM (.agg (ci x))),(1,ae D),(2,aF b1),(5,aF b2),(6,bC (!gO x))] ?_ ?_
  ·refine go 2 ?_;rcases bw (fq x) with h12|h12
   ·refine aD J (cP (bJ h12) (cV [] dH dG)) (go 9 ?_);exact ⟨J,(ay J (bJ (by unfold vK;rw [h12];rfl)) (ax J))⟩
   refine aD J (cP (bJ h12) (cV [] dH dG)) (go 4 ?_);rcases bw (kz x.expr) with Bk|Bk;rotate_left;all_goals
    refine tP J call164 J (Gx x.expr _) Bk (go 4 ?_);exact ⟨J,(ay J (bJ (by unfold vK;rw [h12,Bk];rfl)) (ax J))⟩
  refine im J (λn6=>?_) (λn6=>?_)
  ·refine go 2 ?_;refine rf J n6 ?_;refine go 8 ?_;exact az (s':=⟨bx,rw⟩) J fR ⟨bZ (by rw [kV,n6];simp),J⟩
  refine pA [(13,bC (uw x)),(0,cM (.agg (ci x))),(1,ae D),(2,aF b1),(5,aF b2),(6,bC (!gO x))] ?_ ?_
  ·refine go 2 ?_;rcases bw (gA x) with rd|rd
   ·refine aD J (cP (bJ rd) (cV [] dH dG)) (go 3 ?_);rcases bw (okRefB x.ref) with h16|h16;rotate_left;all_goals
     refine d8 0 J call165 J (OM x.ref AI Y _) h16 (go 4 ?_);exact ⟨J,(ay J (bJ (by unfold uw;rw [rd,h16];rfl)) (ax J))⟩
   refine aD J (cP (bJ rd) (cV [] dH dG)) (go 8 ?_);exact ⟨J,(ay J (bJ (by unfold uw;rw [rd];rfl)) (ax J))⟩
  refine im J (λrx=>?_) (λrx=>?_)
  ·refine go 2 ?_;refine rf J rx ?_;refine go 8 ?_;exact az (s':=⟨bx,rw⟩) J fR ⟨bZ (by rw [kV,rx];simp),J⟩
  refine pA [(13,bC (xO x)),(0,cM (.agg (ci x))),(1,ae D),(2,aF b1),(5,aF b2),(6,bC (!gO x))] ?_ ?_
  ·refine go 2 ?_;rcases bw (gA x) with h18|h18
   ·refine aD J (cP (bJ h18) (cV [] dH dG)) (go 9 ?_);exact ⟨J,(ay J (bJ (by unfold xO;rw [h18];rfl)) (ax J))⟩
   refine aD J (cP (bJ h18) (cV [] dH dG)) (go 4 ?_);rcases bw (lu x.ref) with h19|h19;rotate_left;all_goals
    refine tP J call166 J (FZ x.ref _) h19 (go 4 ?_);exact ⟨J,(ay J (bJ (by unfold xO;rw [h18,h19];rfl)) (ax J))⟩
  refine im J (λh20=>?_) (λh20=>?_)
  ·refine go 2 ?_;refine rf J h20 ?_;refine go 8 ?_;exact az (s':=⟨bx,rw⟩) J fR ⟨bZ (by rw [kV,h20];simp),J⟩
  refine pA [(13,bC (vC x)),(0,cM (.agg (ci x))),(1,ae D),(2,aF b1),(5,aF b2),(6,bC (!gO x))] ?_ ?_
  ·refine go 2 ?_;rcases bw (gT x) with h21|h21
   ·refine aD J (cP (bJ h21) (cV [] dH dG)) (go 9 ?_);exact ⟨J,(ay J (bJ (by unfold vC;rw [h21];rfl)) (ax J))⟩
   refine aD J (cP (bJ h21) (cV [] dH dG)) (go 5 ?_);by_cases h22:(0:Int)<(x.args.length:Int)
   ·refine aI J (e1 h22) (go 3 ?_);exact ⟨J,(ay J (bJ (by unfold vC;rw [h21,decide_eq_false (show ¬x.args.length=0 by omega)];rfl)) (ax J))⟩
   refine aG J (fA h22) (go 3 ?_);exact ⟨J,(ay J (bJ (by unfold vC;rw [h21,decide_eq_true (show x.args.length=0 by omega)];rfl)) (ax J))⟩
  refine im J (λh23=>?_) (λh23=>?_)
  ·refine go 2 ?_;refine rf J h23 ?_;refine go 8 ?_;exact az (s':=⟨bx,rw⟩) J fR ⟨bZ (by rw [kV,h23];simp),J⟩
  refine pA [(13,bC (sk x)),(0,cM (.agg (ci x))),(1,ae D),(2,aF b1),(5,aF b2),(6,bC (!gO x))] ?_ ?_
  ·refine go 2 ?_;rcases bw (fp x) with DP|DP
   ·refine aD J (cP (bJ DP) (cV [] dH dG)) (go 9 ?_);exact ⟨J,(ay J (bJ (by unfold sk;rw [DP];rfl)) (ax J))⟩
   refine aD J (cP (bJ DP) (cV [] dH dG)) (go 5 ?_);by_cases wd:(0:Int)<(x.thn.length:Int)
   ·refine aI J (e1 wd) (go 3 ?_);exact ⟨J,(ay J (bJ (by unfold sk;rw [DP,decide_eq_false (show ¬x.thn.length=0 by omega)];rfl)) (ax J))⟩
   refine aG J (fA wd) (go 3 ?_);exact ⟨J,(ay J (bJ (by unfold sk;rw [DP,decide_eq_true (show x.thn.length=0 by omega)];rfl)) (ax J))⟩
  refine im J (λur=>?_) (λur=>?_)
  ·refine go 2 ?_;refine rf J ur ?_;refine go 8 ?_;exact az (s':=⟨bx,rw⟩) J fR ⟨bZ (by rw [kV,ur];simp),J⟩
  refine go 2 ?_;rcases bw (jR x) with h27|h27
  ·refine aD J (cP (bJ h27) (cV [] dH dG)) (go 19 ?_);rcases bw (x.args.any λa=>!fX a) with LT|LT
   ·refine d8 0 J call167 J (Bq (λa=>!fX a) x.args 168 #[] _ Y call168 Bv) LT (go 10 ?_);exact az (s':=⟨bx,rw⟩) J fR ⟨bZ (by rw [kV,zZ LT];simp),J⟩
   refine d8 0 J call167 J (Bq (λa=>!fX a) x.args 168 #[] _ Y call168 Bv) LT (go 8 ?_);rcases bw (fp x) with h32|h32
   ·refine aD J (cP (bJ h32) (cV [] dH dG)) (go 5 ?_);refine bP J ?_;rcases bw (dC (D+1) x.thn) with If|If
    ·refine d8 0 J uy J (ih1 _) If (go 4 ?_);by_cases Wf:(x.els.length:Int)=0
     ·refine aI J (bU Wf) (go 13 ?_);exact az (s':=⟨bx,rw⟩) J fR ⟨bZ (by rw [kV,h1,h5,h8,h11,n6,rx,h20,h23,ur,show jl x=false by unfold jl;rw [h27];rfl,p7 LT,show aj D x=true by unfold aj;rw [h32,If,decide_eq_true (show x.els.length=0 by omega)];rfl];rfl),J⟩
     refine aG J (bO Wf) (go 4 ?_);refine bP J ?_;rcases bw (dC (D+1) x.els) with h35|h35
     ·refine d8 0 J uy J (ih2 _) h35 (go 7 ?_);exact az (s':=⟨bx,rw⟩) J fR ⟨bZ (by rw [kV,h1,h5,h8,h11,n6,rx,h20,h23,ur,show jl x=false by unfold jl;rw [h27];rfl,p7 LT,show aj D x=true by unfold aj;rw [h32,If,decide_eq_false (show ¬x.els.length=0 by omega),h35];rfl];rfl),J⟩
     refine d8 0 J uy J (ih2 _) h35 (go 7 ?_);exact az (s':=⟨bx,rw⟩) J fR ⟨bZ (by rw [kV,h1,h5,h8,h11,n6,rx,h20,h23,ur,show jl x=false by unfold jl;rw [h27];rfl,p7 LT,show aj D x=false by unfold aj;rw [h32,If,decide_eq_false (show ¬x.els.length=0 by omega),h35];rfl];rfl),J⟩
    refine d8 0 J uy J (ih1 _) If (go 18 ?_);exact az (s':=⟨bx,rw⟩) J fR ⟨bZ (by rw [kV,h1,h5,h8,h11,n6,rx,h20,h23,ur,show jl x=false by unfold jl;rw [h27];rfl,p7 LT,show aj D x=false by unfold aj;rw [h32,If];rfl];rfl),J⟩
   refine aD J (cP (bJ h32) (cV [] dH dG)) (go 25 ?_);exact az (s':=⟨bx,rw⟩) J fR ⟨bZ (by rw [kV,h1,h5,h8,h11,n6,rx,h20,h23,ur,show jl x=false by unfold jl;rw [h27];rfl,p7 LT,show aj D x=true by unfold aj;rw [h32];rfl];rfl),J⟩
  refine aD J (cP (bJ h27) (cV [] dH dG)) (go 5 ?_);by_cases h36:(0:Int)<(x.els.length:Int)
  ·refine aI J (e1 h36) (go 13 ?_);exact az (s':=⟨bx,rw⟩) J fR ⟨bZ (by rw [kV,show jl x=true by unfold jl;rw [h27,decide_eq_false (show ¬x.els.length=0 by omega)];rfl];simp),J⟩
  refine aG J (fA h36) (go 13 ?_);rcases bw (x.args.any λa=>!fX a) with SW|SW
  ·refine d8 0 J call167 J (Bq (λa=>!fX a) x.args 168 #[] _ Y call168 Bv) SW (go 10 ?_);exact az (s':=⟨bx,rw⟩) J fR ⟨bZ (by rw [kV,zZ SW];simp),J⟩
  refine d8 0 J call167 J (Bq (λa=>!fX a) x.args 168 #[] _ Y call168 Bv) SW (go 8 ?_);rcases bw (fp x) with h42|h42
  ·refine aD J (cP (bJ h42) (cV [] dH dG)) (go 5 ?_);refine bP J ?_;rcases bw (dC (D+1) x.thn) with h43|h43
   ·refine d8 0 J uy J (ih1 _) h43 (go 4 ?_);refine aI J (bU Y) (go 13 ?_);exact az (s':=⟨bx,rw⟩) J fR ⟨bZ (by rw [kV,h1,h5,h8,h11,n6,rx,h20,h23,ur,show jl x=false by unfold jl;rw [h27,decide_eq_true (show x.els.length=0 by omega)];rfl,p7 SW,show aj D x=true by unfold aj;rw [h42,h43,decide_eq_true (show x.els.length=0 by omega)];rfl];rfl),J⟩
   refine d8 0 J uy J (ih1 _) h43 (go 18 ?_);exact az (s':=⟨bx,rw⟩) J fR ⟨bZ (by rw [kV,h1,h5,h8,h11,n6,rx,h20,h23,ur,show jl x=false by unfold jl;rw [h27,decide_eq_true (show x.els.length=0 by omega)];rfl,p7 SW,show aj D x=false by unfold aj;rw [h42,h43];rfl];rfl),J⟩
  refine aD J (cP (bJ h42) (cV [] dH dG)) (go 25 ?_);exact az (s':=⟨bx,rw⟩) J fR ⟨bZ (by rw [kV,h1,h5,h8,h11,n6,rx,h20,h23,ur,show jl x=false by unfold jl;rw [h27,decide_eq_true (show x.els.length=0 by omega)];rfl,p7 SW,show aj D x=true by unfold aj;rw [h42];rfl];rfl),J⟩
 refine aD J (cP (bJ (qP h1)) (jE J J)) (go 15 ?_);exact az (s':=⟨bx,rw⟩) J fR ⟨bZ (by rw [kV,h1];simp),J⟩
def S5(D:Nat)(x:aE)(d:Nat)(bx:List aV)(rw:List aP)(hst:∀s:aJ,aU prog 144 [cM (.agg (ci x)),ae D] [] s λt s'=>t=bC (fw D x) /\ s'=s):aU prog 143 [cM (.agg (ci x)),aF d] [] ⟨⟨d,3,[ap D]⟩::bx,rw⟩ λt s'=>t=bC (!fw D x) /\ s'=⟨⟨d,3,[ap D]⟩::bx,rw⟩:=by
 refine bR 8 func143 ?_;refine go 10 λb1=>?_;rcases bw (fw D x) with h1|h1;rotate_left;all_goals
  refine d8 0 J call144 J (hst _) h1 (go 5 ?_);exact ⟨.inr J,_,⟨⟨d,3,[ap D]⟩::bx,rw⟩,bK J (bN J),ai bI (.refl _),bZ xR,J⟩
def MN(D:Nat)(l:List aE)(hl:l.length <= 1000000000)(hst:D<24 -> ∀k (h:k<l.length) (s:aJ),aU prog 144 [cM (.agg (ci l[k])),ae D] [] s λt s'=>t=bC (fw D l[k]) /\ s'=s)(s:aJ):aU prog 121 [cM (.c (aB encS l)),ae D] [] s λt s'=>t=bC (dC D l) /\ s'=s:=by
 obtain ⟨bx,rw⟩:=s;refine bR 11 func121 ?_;refine go 10 λb1=>?_;by_cases h1:(24:Int) <= (D:Int)
 ·refine aI J (nB h1) (go 10 ?_);exact az (s':=⟨bx,rw⟩) J cT ⟨bZ (by rw [uH,decide_eq_false Y];rfl),J⟩
 refine aG J (oQ h1) (go 8 ?_);refine aD J (QK (vs:=[.pointer (some ⟨b1,0,none⟩)]) J J) ?_;rcases bw (l.any λx=>!fw D x) with h4|h4
 ·refine d8 0 J call142 J (OV (λx=>!fw D x) l 143 #[.pointer (some ⟨b1,0,none⟩)] _ hl call143 Pw) h4 (go 5 ?_);exact az (s':=⟨bx,rw⟩) J cT ⟨bZ (by rw [uH,decide_eq_true Y,zZ h4];rfl),J⟩
 refine d8 0 J call142 J (OV (λx=>!fw D x) l 143 #[.pointer (some ⟨b1,0,none⟩)] _ hl call143 Pw) h4 (go 5 ?_);exact az (s':=⟨bx,rw⟩) J cT ⟨bZ (by rw [uH,decide_eq_true Y,p7 h4];rfl),J⟩
def IZ:∀(N D:Nat)(l:List aE),au l <= N -> N <= 900000000 -> D <= 24 -> eO l -> ∀s:aJ,aU prog 121 [cM (.c (aB encS l)),ae D] [] s λt s'=>t=bC (dC D l) /\ s'=s
 |0,D,l,h,_,_,_,s=>MN D l pI (λ_ k hk=>absurd (o5 l) Y) s
 |N+1,D,l,h,hN,hD,hs,s=>MN D l pI (λhd k hk s=>by
   have hw:=qH l k hk;have h1:=hw;rw [gM] at h1;have hsk:=tA _ hs _ (getElem_mem hk);obtain ⟨-,-,-,-,hst,DQ⟩:=nR hsk;exact X4 D l[k] hsk Y Y (λs=>IZ N (D+1) _ Y Y Y hst s) (λs=>IZ N (D+1) _ Y Y Y DQ s) s) s
def Mu(x:bg)(hx:x.name.size <= 4611686018427387904)(s:aJ):aU prog 120 [cM (.agg (cC x))] [] s λt s'=>t=bC (!cG x.name) /\ s'=s:=by
 obtain ⟨bx,rw⟩:=s;refine bR 7 func120 ?_;refine go 10 λb1=>?_;rcases bw (cG x.name) with h1|h1;rotate_left;all_goals
  refine d8 0 J qt J (qi x.name hx _) h1 (go 5 ?_);exact az (s':=⟨bx,rw⟩) J cT ⟨bZ xR,J⟩
def VQ(f:bB)(hs:f.bt)(hw:f.wt <= 900000000)(s:aJ):aU prog 91 [cM (.agg (aZ f))] [] s λt s'=>t=bC (ga f) /\ s'=s:=by
 obtain ⟨bx,rw⟩:=s;unfold bB.wt at hw;refine bR 23 func91 ?_;refine go 10 λb1=>?_;rcases bw (cG f.name) with h1|h1
 ·refine d8 0 J qt J (qi f.name hs.1 _) h1 (go 4 ?_);by_cases h2:(f.params.length:Int) <= 6
  ·refine aI J (zg h2) (go 4 ?_);rcases bw (f.params.any λx=>!cG x.name) with h3|h3
   ·refine d8 0 J call119 J (QN (λx=>!cG x.name) f.params 120 #[] _ Y call120 (λk hk=>Mu _ (hs.2.1 _ (getElem_mem _)) _)) h3 (go 11 ?_);exact az (s':=⟨bx,rw⟩) J cT ⟨bZ (by unfold ga;rw [zZ (f:=λx:bg=>cG x.name) h3,rR]),J⟩
   refine d8 0 J call119 J (QN (λx=>!cG x.name) f.params 120 #[] _ Y call120 (λk hk=>Mu _ (hs.2.1 _ (getElem_mem _)) _)) h3 (go 5 ?_);rcases bw (dC 0 f.body) with h4|h4;rotate_left;all_goals
    refine d8 0 J uy J (IZ _ 0 f.body (bX _) Y Y hs.2.2 _) h4 (go 5 ?_);exact az (s':=⟨bx,rw⟩) J cT ⟨bZ (by unfold ga;rw [h1,decide_eq_true (show f.params.length <= 6 by omega),p7 (f:=λx:bg=>cG x.name) h3,h4];rfl),J⟩
  refine aG J (yQ h2) (go 16 ?_);exact az (s':=⟨bx,rw⟩) J cT ⟨bZ (by unfold ga;rw [h1,decide_eq_false (show ¬f.params.length <= 6 by omega)];rfl),J⟩
 refine d8 0 J qt J (qi f.name hs.1 _) h1 (go 21 ?_);exact az (s':=⟨bx,rw⟩) J cT ⟨bZ (by unfold ga;rw [h1];rfl),J⟩
def WH(f:bB)(hs:f.bt)(hw:f.wt <= 900000000)(s:aJ):aU prog 90 [cM (.agg (aZ f))] [] s λt s'=>t=bC (!ga f) /\ s'=s:=by
 obtain ⟨bx,rw⟩:=s;refine bR 6 func90 ?_;refine go 9 λb1=>?_;rcases bw (ga f) with h1|h1;rotate_left;all_goals
  refine d8 0 J call91 J (VQ f hs hw _) h1 (go 5 ?_);exact az (s':=⟨bx,rw⟩) J cT ⟨bZ xR,J⟩
def nG(p:aY):Bool:=decide (p.globals.length <= 16 /\ p.mutexes.length <= 12 /\ p.funcs.length <= 16) && p.globals.all lK && p.mutexes.all iv
def Io{p:aY}(h:¬(p.globals.length <= 16 /\ p.mutexes.length <= 12 /\ p.funcs.length <= 16)):nG p=false:=by unfold nG;rw [decide_eq_false h];rfl
def ME{p:aY}(k:Nat)(h:k<p.globals.length)(hb:lK p.globals[k]=false):nG p=false:=by unfold nG;rw [qG _ _ k h hb];simp
def DN{p:aY}(k:Nat)(h:k<p.mutexes.length)(hb:iv p.mutexes[k]=false):nG p=false:=by unfold nG;rw [qG _ _ k h hb];simp
def N4(p:aY)(hs:p.bt)(hw:p.wt <= 100000000)(s:aJ):aU prog 88 [cM (.agg (dl p))] [] s λt s'=>t=bC (nG p) /\ s'=s:=by
 obtain ⟨bx,rw⟩:=s;have hw1:=hw;unfold aY.wt at hw1;have hfn:=oE bB.wt wa p.funcs;refine bR 71 func88 ?_;refine go 12 λb1=>?_;by_cases h1:(16:Int)<(p.globals.length:Int)
 ·refine aI J (e1 h1) (go 22 ?_);exact az (s':=⟨bx,rw⟩) J cT ⟨bZ (Io Y),J⟩
 refine aG J (fA h1) (go 4 ?_);by_cases h3:(12:Int)<(p.mutexes.length:Int)
 ·refine aI J (e1 h3) (go 17 ?_);exact az (s':=⟨bx,rw⟩) J cT ⟨bZ (Io Y),J⟩
 refine aG J (fA h3) (go 5 ?_);by_cases h5:(16:Int)<(p.funcs.length:Int)
 ·refine aI J (e1 h5) (go 11 ?_);exact az (s':=⟨bx,rw⟩) J cT ⟨bZ (Io Y),J⟩
 refine aG J (fA h5) (go 16 ?_);refine jr (λk=>∀q (h:q<p.globals.length),q<k -> lK p.globals[q]=true) (p.globals.length) 26 (λk=>[(0,cM (.agg (dl p))),(1,aF b1),(24,.c (aB am p.globals)),(25,ae p.globals.length)]) nF (ax J) λk hk hvk=>?_;replace hvk:∀q (h:q<p.globals.length),q<k -> lK p.globals[q]=true:=hvk
 try dsimp only
 refine go 2 ?_;by_cases h8:(k:Int)<(p.globals.length:Int)
 ·refine aI J (c_ h8) (go 10 ?_);refine aD J (bf am am p.globals oU (λ_=>J) k J J J J Y V mt jX) (go 7 λb2=>?_);have hgs:=hs.globals p.globals[k] (getElem_mem _);refine go 2 ?_;rcases bw (cG p.globals[k].name) with h10|h10
  ·refine d8 0 J qt J (qi p.globals[k].name hgs.2 _) h10 (go 4 ?_);by_cases h11:p.globals[k].init=-9223372036854775808
   ·refine aI J (bU h11) (go 15 ?_);exact az (s':=⟨bx,rw⟩) J fR ⟨bZ (ME k Y (by unfold lK;rw [h10,decide_eq_false Y];rfl)),J⟩
   refine aG J (bO h11) (go 8 ?_);refine bP J (go 2 ?_);exact ⟨Y,(λq hq hlt2=>(jv q k).elim (λh9=>hvk q hq h9) (λh9=>by have h8:k=q:=Y;subst h8;exact (by unfold lK;rw [h10,decide_eq_true Y];rfl))),bD (h1:=bI) (h:=ay J (cD Y) (ax J)) (λb hb=>eG _ (hb))⟩
  refine d8 0 J qt J (qi p.globals[k].name hgs.2 _) h10 (go 20 ?_);exact az (s':=⟨bx,rw⟩) J fR ⟨bZ (ME k Y (by unfold lK;rw [h10];rfl)),J⟩
 refine aG J (cv h8) (go 19 ?_);refine jr (λi=>∀q (h:q<p.mutexes.length),q<i -> iv p.mutexes[q]=true) (p.mutexes.length) 43 (λi=>[(0,cM (.agg (dl p))),(1,aF b1),(41,.c (aB aT p.mutexes)),(42,ae p.mutexes.length)]) nF (ax J) λi hi bp=>?_;replace bp:∀q (h:q<p.mutexes.length),q<i -> iv p.mutexes[q]=true:=bp
 try dsimp only
 refine go 2 ?_;by_cases h16:(i:Int)<(p.mutexes.length:Int)
 ·refine aI J (c_ h16) (go 10 ?_);refine aD J (bf aT aT p.mutexes pD (λ_=>J) i J J J J Y V mS gq) (go 7 λb3=>?_);have hms:=hs.mutexes p.mutexes[i] (getElem_mem _);refine go 2 ?_;rcases bw (cG p.mutexes[i].name) with h18|h18
  ·refine d8 0 J qt J (qi p.mutexes[i].name hms.2 _) h18 (go 4 ?_);by_cases h19:p.mutexes[i].size<0
   ·refine aI J (c_ h19) (go 29 ?_);exact az (s':=⟨bx,rw⟩) J fR ⟨bZ (DN i Y Cd),J⟩
   refine aG J (cv h19) (go 4 ?_);by_cases h21:(64:Int)<p.mutexes[i].size
   ·refine aI J (e1 h21) (go 24 ?_);exact az (s':=⟨bx,rw⟩) J fR ⟨bZ (DN i Y Cd),J⟩
   refine aG J (fA h21) (go 3 ?_);rcases bw (p.mutexes[i].ex) with h23|h23
   ·refine aD J (cP (bJ h23) (cV [] dH dG)) (go 3 ?_);by_cases DP:(0:Int)<p.mutexes[i].size
    ·refine aI J (e1 DP) (go 16 ?_);exact az (s':=⟨bx,rw⟩) J fR ⟨bZ (DN i Y (by unfold iv;rw [h18,decide_eq_true (show 0 <= p.mutexes[i].size /\ p.mutexes[i].size <= 64 by omega),h23,decide_eq_true (show 0<p.mutexes[i].size by omega)];rfl)),J⟩
    refine aG J (fA DP) (go 9 ?_);refine bP J (go 2 ?_);exact ⟨Y,(λq hq hlt2=>(jv q i).elim (λh9=>bp q hq h9) (λh9=>by have h8:i=q:=Y;subst h8;exact (by unfold iv;rw [h18,decide_eq_true (show 0 <= p.mutexes[i].size /\ p.mutexes[i].size <= 64 by omega),h23,decide_eq_false (show ¬0<p.mutexes[i].size by omega)];rfl))),bD (h1:=bI) (h:=ay J (cD Y) (ax J)) (λb hb=>eG _ (hb))⟩
   refine aD J (cP (bJ h23) (cV [] dH dG)) (go 13 ?_);refine bP J (go 2 ?_);exact ⟨Y,(λq hq hlt2=>(jv q i).elim (λh9=>bp q hq h9) (λh9=>by have h8:i=q:=Y;subst h8;exact (by unfold iv;rw [h18,decide_eq_true (show 0 <= p.mutexes[i].size /\ p.mutexes[i].size <= 64 by omega),h23];rfl))),bD (h1:=bI) (h:=ay J (cD Y) (ax J)) (λb hb=>eG _ (hb))⟩
  refine d8 0 J qt J (qi p.mutexes[i].name hms.2 _) h18 (go 34 ?_);exact az (s':=⟨bx,rw⟩) J fR ⟨bZ (DN i Y (by unfold iv;rw [h18];rfl)),J⟩
 refine aG J (cv h16) (go 15 ?_);exact az (s':=⟨bx,rw⟩) J cT ⟨bZ (by unfold nG;rw [decide_eq_true Y,xd _ _ (λq hq=>hvk q hq Y),xd _ _ (λq hq=>bp q hq Y)];rfl),J⟩
def Rc(A B:List aV)(W m:Nat)(v:aN)(bs:List UInt8)(rw:List aP):aU prog 170 [aF W] [W] (dA A W m none v bs B rw) λt s'=>t=.fd [] /\ s'=dA A W m (some ⟨W,0,none⟩) v bs B rw:=by
 refine bR 20 func170 ?_;refine go 6 ?_;refine aD J (cP (bJ (show (none:Option Addr).isNone=true from J)) (Jo (j:=Tryz.t179) J J J yZ aQ)) (go 6 ?_);refine aD J (Qo (j:=Tryz.t179) A J J J yZ underlying248 aQ V (Nat.succ_pos _) aL) ?_;refine aD J (RP J J func188 aQ aQ aQ aQ) ?_;refine aD J (R1 (j:=Tryz.t179) A J J J underlying248 yZ aQ aQ aL) (go 4 ?_);exact ⟨.inl J,_,dA A W m (some ⟨W,0,none⟩) v bs B rw,fY J,ai (.refl _) (.refl _),J,J⟩
def Qb(A B:List aV)(W m:Nat)(v:aN)(bs:List UInt8)(rw:List aP):aU prog 170 [aF W] [W] (dA A W m (some ⟨W,0,none⟩) v bs B rw) λt s'=>t=.fd [] /\ s'=dA A W m (some ⟨W,0,none⟩) v bs B rw:=by
 refine bR 20 func170 ?_;refine go 6 ?_;refine aD J (cP (bJ (show (some ⟨W,0,none⟩:Option Addr).isNone=false from J)) (Jo (j:=Tryz.t179) J J J yZ aQ)) (go 10 ?_);refine aD J (Xe (j:=Tryz.t179) J J J yZ aQ) (go 4 ?_);exact ⟨.inl J,_,dA A W m (some ⟨W,0,none⟩) v bs B rw,fY J,ai (.refl _) (.refl _),J,J⟩
def Lj(A B:List aV)(W m:Nat)(a:Option Addr)(v:aN)(bs:List UInt8)(rw:List aP)(ha:fy W a):aU prog 170 [aF W] [W] (dA A W m a v bs B rw) λt s'=>t=.fd [] /\ s'=dA A W m (some ⟨W,0,none⟩) v bs B rw:=by
 rcases ha with rfl|rfl
 ·exact Rc A B W m v bs rw
 exact Qb A B W m v bs rw
def MY(c:UInt8)(A B:List aV)(W m:Nat)(a:Option Addr)(v:aN)(bs:List UInt8)(rw:List aP)(ha:fy W a)(hb:bs.length <= 100000000000000):aU prog 145 [aF W,av (.int .u8 (c.toNat:Int))] (W::aR v) (dA A W m a v bs B rw) λt s'=>t=av .nilIface /\ ∃a' v',fy W a' /\ s'=dA A W m a' v' (bs++[c]) B rw:=by
 refine bR 17 func145 ?_;refine go 8 ?_;refine aX J (bm [W] J J V call170 J (Lj A B W m a v bs rw ha) (bY) (bY (h:=by simp [aJ.bl])) (λ_=>bY) ?_);rintro _ _ ⟨rfl,rfl⟩;refine go 10 ?_;refine aX J (bV (r:=ca [c]) ko ?_);refine aX J (dQ [] wA J J V cN Y (show bs.length+1=(bs++[c]).length by simp only [length_append,length_cons,length_nil]) fu cm (pd bs [c]) λw1=>?_);refine go 11 ?_;exact ⟨.inr J,_,dA A W m (some ⟨W,0,none⟩) w1 _ B rw,bK J (bN J),ai (.refl _) (.refl _),J,(some ⟨W,0,none⟩),w1,.inr J,J⟩
def Us(x:aH)(A B:List aV)(W m:Nat)(a:Option Addr)(v:aN)(bs:List UInt8)(rw:List aP)(ha:fy W a)(hb:bs.length+x.data.toList.length <= 100000000000000):aU prog 146 [aF W,cK x] (W::aR v) (dA A W m a v bs B rw) λt s'=>t=.fd [ae x.size,av .nilIface] /\ ∃a' v',fy W a' /\ s'=dA A W m a' v' (bs++x.data.toList) B rw:=by
 refine bR 19 func146 ?_;refine go 9 ?_;refine aX J (bm [W] J J V call170 J (Lj A B W m a v bs rw ha) (bY) (bY (h:=by simp [aJ.bl])) (λ_=>bY) ?_);rintro _ _ ⟨rfl,rfl⟩;refine go 10 ?_;refine aX J (ya [] Tryz.t5 (z:=x) J J V J J kj eE aQ J J J (by unfold maxLen;show bs.length+x.data.toList.length <= _;omega) (by show bs.length+x.data.toList.length <= _;omega) (@length_append _ bs x.data.toList).symm J fu cm (pd bs x.data.toList) λw1=>?_);refine go 14 ?_;exact ⟨.inr J,_,dA A W m (some ⟨W,0,none⟩) w1 _ B rw,iu J (bN J) (bN J),ai (.refl _) (.refl _),J,(some ⟨W,0,none⟩),w1,.inr J,J⟩
def dM(m:Nat)(ps:List ByteArray):List UInt8:=List.replicate m 9++(ps.map λx=>x.data.toList).flatten++[10]
def lJ(ps:List ByteArray):List UInt8:=(ps.map λx=>x.data.toList).flatten
def OH(ps:List aH)(k:Nat)(h:k<ps.length):lJ (ps.take (k+1))=lJ (ps.take k)++ps[k].data.toList:=by
 unfold lJ;rw [gz h,fL,Gj];simp only [dE,gH,jZ,lc,eV]
def ON:∀(ps:List aH)(k:Nat),(lJ (ps.take k)).length <= (lJ ps).length
 |[],k=>aL
 |x::ps,0=>by simp [lJ]
 |x::ps,k+1=>by
  have:=ON ps k;simp only [lJ,jW,dE,jZ,length_append] at this⊢;omega
def R7(ps:List aH)(k:Nat)(h:k<ps.length):(lJ (ps.take k)).length+ps[k].data.toList.length <= (lJ ps).length:=by
 have h1:=ON ps (k+1);rw [OH ps k h,length_append] at h1;exact h1
def R8(m:Nat)(ps:List aH):(dM m ps).length=m+(lJ ps).length+1:=by unfold dM lJ;simp [ra]
def R5(bs:List UInt8)(m:Nat)(ps:List aH):bs++dM m ps≠[]:=by unfold dM;simp
def lF(ps:List aH)(A B:List aV)(W m:Nat)(a:Option Addr)(v:aN)(bs:List UInt8)(rw:List aP)(ha:fy W a)(hps:ps.length <= 1000000)(hb:bs.length+(dM m ps).length <= 100000000000000):aU prog 122 [aF W,.c (.sl ps.length (ps.map λx=>ah x))] (W::aR v) (dA A W m a v bs B rw) λt s'=>t=.fd [] /\ ∃a' v',fy W a' /\ s'=dA A W m a' v' (bs++dM m ps) B rw:=by
 have hll:=R8 m ps;refine bR 33 func122 ?_;refine go 11 ?_;refine jS (α:=Option Addr×aN) (λj g=>fy W g.1) (m) 10 (λg=>aR g.2++[W]) (λj g=>dA A W m g.1 g.2 (bs++List.replicate j 9) B rw) (λj=>[(0,aF W),(1,.c (.sl ps.length (ps.map λx=>ah x))),(9,ae m)]) (a,v) ha (mZ (h:=ax J) (.refl _) (ie (A:=A) (aL:bs=(bs++List.replicate 0 9)))) ?_;rintro j ⟨a1,v1⟩ hj hC1;dsimp only at hC1
 try dsimp only
 refine go 2 ?_;by_cases h2:(j:Int)<(m:Int)
 ·refine aI J (c_ h2) (go 12 ?_);refine aX J (kI J call145 J (MY 9 A B W m a1 v1 (bs++List.replicate j 9) rw hC1 jc) aL cm kG λa4 v4 hC4=>?_);refine go 4 ?_;refine bP J (go 2 ?_);exact ⟨Y,(a4,v4),hC4,mZ (.refl _) (ie (A:=A) (by rw [List.replicate_succ',append_assoc]:((bs++List.replicate j 9)++[9])=(bs++List.replicate (j+1) 9)))⟩
 refine aG J (cv h2) (go 12 ?_);obtain rfl:m=j:=Y;refine go 6 ?_;refine jS (α:=Option Addr×aN) (λk g=>fy W g.1) (ps.length) 19 (λg=>aR g.2++[W]) (λk g=>dA A W m g.1 g.2 ((bs++List.replicate m 9)++lJ (ps.take k)) B rw) (λk=>[(0,aF W),(17,.c (.sl ps.length (ps.map λx=>ah x))),(18,ae ps.length)]) (a1,v1) hC1 (mZ (h:=ax J) (.refl _) (ie (A:=A) (by rw [mJ];exact (eV _).symm:(bs++List.replicate m 9)=((bs++List.replicate m 9)++lJ (ps.take 0))))) ?_;rintro k ⟨a6,v6⟩ hk hC6;dsimp only at hC6
 try dsimp only
 refine go 2 ?_;by_cases h7:(k:Int)<(ps.length:Int)
 ·refine aI J (c_ h7) (go 10 ?_);refine aD J (mj (λx=>ah x) ps k J J J J Y kP iK) (go 9 ?_);refine aX J (kI J call146 J (Us ps[k] A B W m a6 v6 ((bs++List.replicate m 9)++lJ (ps.take k)) rw hC6 (by have:=R7 ps k Y;(try simp only [length_append,length_cons,length_nil,List.length_replicate]);omega)) aL cm kG λa9 v9 hC9=>?_);refine go 4 ?_;refine bP J (go 2 ?_);exact ⟨Y,(a9,v9),hC9,mZ (.refl _) (ie (A:=A) (by rw [OH ps k Y,append_assoc]:(((bs++List.replicate m 9)++lJ (ps.take k))++ps[k].data.toList)=((bs++List.replicate m 9)++lJ (ps.take (k+1)))))⟩
 refine aG J (cv h7) (go 10 ?_);obtain rfl:k=ps.length:=Y;rw [hG];refine go 3 ?_;refine aX J (kI J call145 J (MY 10 A B W m a6 v6 ((bs++List.replicate m 9)++lJ ps) rw hC6 jc) aL cm kG λa11 v11 OF=>?_);refine go 1 ?_;exact ⟨.inl J,_,dA A W m a11 v11 _ B rw,fY J,ai (.refl _) (.refl _),J,a11,v11,OF,ie (by unfold dM lJ;simp only [append_assoc])⟩
def yI(e:aS)(hN:e.nodes <= 10000000)(hs:e.bt)(hv:fJ e=true)(s:aJ):aU prog 173 [cM (.agg (bo e))] [] s λt s'=>t=cK (bytes (bv e)) /\ s'=s:=by
 have h:=T7 e Y hs (λhv=>by have:=za hs (sL hv);omega) s;unfold CZ at h;rw [if_pos hv] at h;exact h
def CH{α:Type}(f:α -> List UInt8)(l:List α):Lib.join (l.map f) [44,32]=dL f l:=by
 cases l with
 |nil=>rfl
 |cons x r=>rw [dE,Lib.join_cons,dL];unfold Lib.joinTail;rw [oh];rfl
def KO(xs:List ByteArray)(sep:ByteArray)(hN:xs.length <= 10000000)(hlen:(Lib.join (xs.map (·.data.toList)) sep.data.toList).length <= 100000000000000)(s:aJ):aU prog 124 [.c (.sl xs.length (xs.map λx=>ah x)),cK sep] [] s λt s'=>t=cK (bytes (Lib.join (xs.map (·.data.toList)) sep.data.toList)) /\ s'=s:=by
 intro vs w hm _ hl hr;obtain ⟨v1,v2,rfl⟩:∃v1 v2,vs=[v1,v2]:=by
  match vs,hl with
  |[x,y],_=>exact ⟨x,y,rfl⟩
 obtain rfl:v2=_:=(show cU _ (.c (.val (.string sep))) v2 from hr 1 aL aL).val;have h1:cU (bj s.bl w) (.c (.sl xs.length (xs.map λx=>ah x))) v1:=hr 0 aL aL;cases h1 with
 |c _ _ h1=>cases h1 with
  |sl _ _ us _ hra hul hu hcap=>
   have hR:dV (bj s.bl w) ((xs.map Value.string).map .val) us:=by rw [oh];exact ⟨hul,hu⟩
   obtain rfl:=zw hR;obtain ⟨a,cap,rfl,hc,hra⟩:=hra;have key:Calls prog 124 #[.slice a xs.length cap,.string sep] w λe w'=>e=.returned (.string ⟨(Lib.join (xs.map (·.data.toList)) sep.data.toList).toArray⟩) /\ Below w.heap.size w w':=by
    rcases hra with h0|⟨b,off,rfl,hcell⟩
    ·obtain rfl:xs=[]:=by simpa using h0
     exact (Tryz.strings_Join_none a cap sep w).mono λe w' ⟨h1,h2⟩=>by subst h2;exact ⟨h1,Below.refl _ _⟩
    cases xs with
    |nil=>exact (Tryz.strings_Join_none _ cap sep w).mono λe w' ⟨h1,h2⟩=>by subst h2;exact ⟨h1,Below.refl _ _⟩
    |cons x0 xs=>
     have hcell':∀(j:Nat) x,(x0::xs)[j]?=some x -> w.cell? ⟨b,off+j,none⟩=some (.string x):=λj x hj=>(pY (hcell j (.string x) (by rw [nb,hj];rfl))).1;exact Tryz.strings_Join b off cap (x0::xs) sep w hcell' (mq (hcell' 0 x0 J)) Y hc Y
   refine key.mono λe w' ⟨he,hb⟩=>?_;obtain ⟨hk,hm'⟩:=Ag hm hb;exact ⟨_,_,s,he,⟨J,J⟩,cU.c _ _ (.val _ J),hm',hk,λb hb=>.inl hb⟩
def kN(a:cI):ByteArray:=bytes (eu a)
def Ll(l:List cI):(l.map kN).map (·.data.toList)=l.map eu:=F_
def Fi(r:cL)(hs:r.bt)(hN:d2 r.index <= 10000000)(hok0:okRefB r=true)(s:aJ):aU prog 175 [cM (.agg (encR r))] [] s λt s'=>t=cK (bytes (fi r)) /\ s'=s:=by
 obtain ⟨bx,rw⟩:=s;have hok:=BJ hok0;refine bR 19 func175 ?_;refine go 12 λb1=>?_;by_cases h1:(r.index.length:Int)=0
 ·refine aI J (bU h1) (go 12 ?_);exact az (s':=⟨bx,rw⟩) J cT ⟨mb Od,J⟩
 refine aG J (bO h1) (go 6 ?_);refine cB [b1] ?_;have h0:0<r.index.length:=Y;have hnl:r.name.data.toList.length <= 4611686018427387904:=hs.1;have htl:=za (qR _ hs.2 _ (getElem_mem h0)) (sL (hok.2.2 _ (getElem_mem h0)));have hnn:=qV r.index 0 h0;refine aa [0,1] 9 (go 3 ?_);refine ac 2 J (eb r.name.data.toList ([91]:List UInt8) J J J (back _) J) (aa [3,4] 6 (go 3 ?_));refine ac 5 J (bf bc bo r.index g_ fv 0 J J J J Y V jY dw) (aa [6] 4 (go 2 ?_));refine aW 7 J J (oM 0 [] J J V call173 J J (yI r.index[0] NS (qR _ hs.2 _ (getElem_mem _)) (hok.2.2 _ (getElem_mem _)) _) dJ dJ (λ_=>dJ) ?_);rintro _ _ ⟨rfl,rfl⟩;refine ac 8 J (eb (r.name.data.toList++([91]:List UInt8)) (bv r.index[0]) J J J J J) ?_;refine ac 9 J (eb ((r.name.data.toList++([91]:List UInt8))++(bv r.index[0])) [93] J J J J J) (aa [10] 0 (go 2 ?_));refine bH (go 2 ?_);exact az (s':=⟨bx,rw⟩) J cT ⟨mb (by rw [CV Y]),J⟩
def Rb(a:cI)(hm:a.mutex=false)(hs:a.bt)(hw:a.wt <= 9000000)(hp:(a.mutex=true -> okRefB a.ref=true) /\ (a.mutex=false -> fJ a.expr=true))(s:aJ):aU prog 173 [cM (.agg (bo a.expr))] [] s λt s'=>t=cK (kN a) /\ s'=s:=by
 unfold kN;rw [xJ hm];exact yI a.expr (by unfold cI.wt at hw;omega) hs.2 (hp.2 hm) s
def UW(l:List cI)(hN:l.length <= 10000000)(hlen:(dL eu l).length <= 100000000000000)(s:aJ):aU prog 124 [.c (.sl (l.map kN).length ((l.map kN).map λx=>ah x)),cK ⟨#[44,32]⟩] [] s λt s'=>t=cK (bytes (dL eu l)) /\ s'=s:=by
 have h:=KO (l.map kN) ⟨#[44,32]⟩ (by rw [gI];exact hN) (by rw [Ll];rw [show (⟨#[44,32]⟩:aH).data.toList=[44,32] from rfl,CH];exact hlen) s;rw [Ll,show (⟨#[44,32]⟩:aH).data.toList=[44,32] from rfl,CH] at h;exact h
def JN(x:aE)(hs:x.bt)(hw:x.wt <= 9000000)(hok:x.args.all fX=true)(hL:(dL eu x.args).length <= 100000000000000)(hln:x.args.length <= 10000000)(s:aJ):aU prog 174 [cM (.agg (ci x))] [] s λt s'=>t=cK (bytes (x.name.data.toList++iI x.args++[59])) /\ s'=s:=by
 obtain ⟨bx,rw⟩:=s;obtain ⟨hsn,hse,AI,hsa,hst,DQ⟩:=nR hs;rw [gM] at hw;have hal:=p9 x.args;have hnl:x.name.data.toList.length <= 4611686018427387904:=hsn;refine bR 36 func174 ?_;refine go 21 λb1=>?_;refine f_ 9 1 ?_;refine Gk (λk=>True) (x.args.length) 9 3 9 1 (λk=>((x.args.take k).map kN).length) (λk=>cj ((x.args.take k).map kN)) [b1] (λk=>[(0,cM (.agg (ci x))),(1,aF b1),(7,.c (aB cd x.args)),(8,ae x.args.length)]) trivial (bD ue) λk v hk hvk=>?_;replace hvk:True:=hvk
 try dsimp only
 refine go 2 ?_;by_cases h1:(k:Int)<(x.args.length:Int)
 ·refine aI J (c_ h1) (go 10 ?_);refine aD J (bf cd cd x.args o' (λ_=>J) k J J J J Y V lH jy) (go 8 λb2=>?_);have hlt:k<x.args.length:=Y;have hka:=hsa _ (getElem_mem hlt);have hkp:=ER (e0.1 hok _ (getElem_mem hlt));have hkw:=uC x.args k hlt;have hkw2:=hkw;unfold cI.wt cL.wt at hkw2;have hit:=M6 eu x.args k hlt;have hcl:((x.args.take k).map kN).length <= k:=Kj;refine go 1 ?_;rcases bw (x.args[k].mutex) with h3|h3;focus
   refine aD J (cP (bJ h3) (cV [] dH dG)) (go 5 ?_);have hq:=congrArg List.length (xW h3);simp only [length_append] at hq;refine go 3 ?_;refine j6 0 J call175 J (Fi x.args[k].ref hka.1 Y (hkp.1 h3) _) ?_;refine aD J (cP (fh (show (bytes ([109,117,116,101,120,32]++(fi x.args[k].ref)))=(kN x.args[k]) by unfold kN;rw [xW h3])) (eb [109,117,116,101,120,32] (fi x.args[k].ref) J J J J J)) ?_;refine aX J (bV (r:=cj [(kN x.args[k])]) io ?_);refine aX J (dQ [] pC J J V cN Y (@length_append _ ((x.args.take k).map kN) [(kN x.args[k])]).symm fu cm (fL (f:=λx=>aO.val (.string x))).symm λw3=>?_);refine go 8 ?_
  rotate_left;refine aD J (cP (bJ h3) (cV [] dH dG)) (go 9 ?_);refine j6 0 J call173 J (Rb x.args[k] h3 hka Y hkp _) ?_;refine aX J (bV (r:=cj [(kN x.args[k])]) io ?_);refine aX J (dQ [] pC J J V cN Y (@length_append _ ((x.args.take k).map kN) [(kN x.args[k])]).symm fu cm (fL (f:=λx=>aO.val (.string x))).symm λw4=>?_);refine go 5 ?_;all_goals
   refine bP J (go 2 ?_);rw [show (x.args.take k).map kN++[kN x.args[k]]=(x.args.take (k+1)).map kN by rw [gz Y,fL];rfl];exact ⟨Y,trivial,_,bD (h1:=bI) (h:=ay J (cD Y) (ax J)) fD⟩
 refine aG J (cv h1) (go 10 ?_);obtain rfl:k=x.args.length:=Y;rw [hG];refine oJ 3 J ?_;refine cB [b1] (aa [0,1] 6 (go 3 ?_));refine ac 2 J (eb x.name.data.toList ([40]:List UInt8) J J J (back _) J) (aa [3] 4 (go 2 ?_));refine aW 4 J J (da J J V call124 J (UW x.args Y Y _) ?_);rintro _ _ ⟨rfl,rfl⟩;refine ac 5 J (eb (x.name.data.toList++([40]:List UInt8)) (dL eu x.args) J J J J J) ?_;refine ac 6 J (eb ((x.name.data.toList++([40]:List UInt8))++(dL eu x.args)) [41,59] J J J J J) (aa [7] 0 (go 2 ?_));refine bH (go 2 ?_);exact az (s':=⟨bx,rw⟩) J cT ⟨mb (by unfold iI;simp only [append_assoc];rfl),J⟩
def MD{D:Nat}{x:aE}(h:fw D x=true):(x.kind=1∨x.kind=2∨x.kind=7∨x.kind=8 -> fJ x.expr=true) /\ (1 <= x.kind /\ x.kind <= 9) /\ x.args.all fX=true /\ (x.els.length=0∨x.kind=7):=by
 obtain ⟨k,n,e,r,args,t,el⟩:=x;rw [fw] at h;simp only [di,nN,decide_eq_true_eq] at h;obtain ⟨⟨⟨⟨⟨⟨⟨h1,h2⟩,h3⟩,h4⟩,h5⟩,h6⟩,h7⟩,h8⟩:=h;exact ⟨λhp=>by
  have hp:k=1∨k=2∨k=7∨k=8:=hp
  rwa [if_pos hp] at h3,h1,h6,h8.imp id (λh=>h.1)⟩
abbrev tabs(m:Nat):List UInt8:=List.replicate m 9
def De(m:Nat):tabs m++[9]=tabs (m+1):=by unfold tabs;rw [List.replicate_succ']
def nj(l:List UInt8):(bytes l).data.toList=l:=uU
section
variable {m:Nat}{x:aE}
theorem NN(h:x.kind=1):dM m [⟨#[118,97,114,32]⟩,x.name,⟨#[32,61,32]⟩,bytes (bv x.expr),⟨#[59]⟩]=d1 (tabs m) x:=by
 rw [As h];unfold dM;simp only [dE,gH,jZ,lc,nj,append_assoc];rfl
theorem Oi(h:x.kind=2):dM m [x.name,⟨#[32,61,32]⟩,bytes (bv x.expr),⟨#[59]⟩]=d1 (tabs m) x:=by
 rw [Dp h];unfold dM;simp only [dE,gH,jZ,lc,nj,append_assoc];rfl
theorem KN(h:x.kind=3):dM m [bytes (x.name.data.toList++iI x.args++[59])]=d1 (tabs m) x:=by
 rw [yT h];unfold dM;simp only [dE,gH,jZ,lc,nj,append_assoc];rfl
theorem N7(h:x.kind=4):dM m [⟨#[103,111,32]⟩,bytes (x.name.data.toList++iI x.args++[59])]=d1 (tabs m) x:=by
 rw [yM h];unfold dM;simp only [dE,gH,jZ,lc,nj,append_assoc];rfl
theorem I'(h:x.kind=5):dM m [⟨#[108,111,99,107,32]⟩,bytes (fi x.ref),⟨#[59]⟩]=d1 (tabs m) x:=by
 rw [BG h];unfold dM;simp only [dE,gH,jZ,lc,nj,append_assoc];rfl
theorem Oq(h:x.kind=6):dM m [⟨#[117,110,108,111,99,107,32]⟩,bytes (fi x.ref),⟨#[59]⟩]=d1 (tabs m) x:=by
 rw [Ca h];unfold dM;simp only [dE,gH,jZ,lc,nj,append_assoc];rfl
theorem Nh(h:x.kind=9):dM m [⟨#[114,101,116,117,114,110,59]⟩]=d1 (tabs m) x:=by
 rw [AK Y];unfold dM;rfl
def mR(x:aE):ByteArray:=if x.kind=8 then ⟨#[119,104,105,108,101,32]⟩ else ⟨#[105,102,32]⟩
theorem Iw(h:x.kind=7∨x.kind=8)(he:x.els.length=0):dM m [mR x,bytes (bv x.expr),⟨#[32,123]⟩]++bT (tabs (m+1)) x.thn++dM m [⟨#[125]⟩]=d1 (tabs m) x:=by
 unfold mR;rcases h with h|h
 ·rw [wU h,if_neg Y,if_pos he,De];unfold dM;simp only [dE,gH,jZ,lc,nj,append_assoc];rfl
 rw [xn h,if_pos h,if_pos he,De];unfold dM;simp only [dE,gH,jZ,lc,nj,append_assoc];rfl
theorem Je(h:x.kind=7∨x.kind=8)(he:¬x.els.length=0):dM m [mR x,bytes (bv x.expr),⟨#[32,123]⟩]++bT (tabs (m+1)) x.thn++dM m [⟨#[125,32,101,108,115,101,32,123]⟩]++bT (tabs (m+1)) x.els++dM m [⟨#[125]⟩]=d1 (tabs m) x:=by
 unfold mR;rcases h with h|h
 ·rw [wU h,if_neg Y,if_neg he,De];unfold dM;simp only [dE,gH,jZ,lc,nj,append_assoc];rfl
 rw [xn h,if_pos h,if_neg he,De];unfold dM;simp only [dE,gH,jZ,lc,nj,append_assoc];rfl
end
def QZ{x:aE}(m:Nat)(h:x.kind=3∨x.kind=4):(dL eu x.args).length <= (d1 (tabs m) x).length:=by
 rcases h with h|h
 ·rw [yT h];unfold iI;simp only [length_append];omega
 rw [yM h];unfold iI;simp only [length_append];omega
def Vg(x:aE)(A B:List aV)(W m:Nat)(a:Option Addr)(v:aN)(bs:List UInt8)(rw:List aP)(ha:fy W a)(D:Nat)(hok:fw D x=true)(hs:x.bt)(hw:x.wt <= 9000000)(hm:m <= 1000)(hb:bs.length+(d1 (tabs m) x).length <= 100000000000000)(hco:(x.kind=7∨x.kind=8) -> ∀(A B:List aV) (W:Nat) (a:Option Addr) (v:aN) (bs:List UInt8) (rw:List aP) (ha:fy W a) (hb:bs.length+(d1 (tabs m) x).length <= 100000000000000),aU prog 176 [cM (aF W),.agg (ci x)] (W::aR v) (dA A W m a v bs B rw) λt s'=>t=.fd [] /\ ∃a' v',fy W a' /\ s'=dA A W m a' v' (bs++d1 (tabs m) x) B rw):aU prog 149 [cM (aF W),.agg (ci x)] (W::aR v) (dA A W m a v bs B rw) λt s'=>t=.fd [] /\ ∃a' v',fy W a' /\ s'=dA A W m a' v' (bs++d1 (tabs m) x) B rw:=by
 obtain ⟨hsn,hse,AI,hsa,hst,DQ⟩:=nR hs;have hw2:=hw;rw [gM] at hw2;unfold cL.wt at hw2;have hal:=p9 x.args;have ok1:=zV hs hok;have ok2:=MD hok;refine bR 64 func149 ?_;refine go 14 λb1=>?_;by_cases h1:x.kind=1
 ·refine aI J (bU h1) (go 4 ?_);refine cB [b1] ?_;have hle:=congrArg List.length (NN (m:=m) (x:=x) Y);refine aa [0,1,2,3,4] 3 (go 6 ?_);refine aW 5 J J (oM 0 [] J J V call173 J J (yI x.expr Y hse (ok2.1 Y) _) dJ dJ (λ_=>dJ) ?_);rintro _ _ ⟨rfl,rfl⟩;refine aW 6 J J (bV (r:=cj [(⟨#[118,97,114,32]⟩:aH),x.name,(⟨#[32,61,32]⟩:aH),(bytes (bv x.expr)),(⟨#[59]⟩:aH)]) (hps:=(.cons J (.cons J (.cons J (.cons J (.cons J .nil)))))) Ac ?_);refine aW 7 J J (kI J lI J (lF [(⟨#[118,97,114,32]⟩:aH),x.name,(⟨#[32,61,32]⟩:aH),(bytes (bv x.expr)),(⟨#[59]⟩:aH)] (_::A) B W m a v bs rw ha (fS J) jc) aL cm (λhn=>⟨t_ hn,λb hb=>gZ hn hb⟩) λa4 v4 hC4=>?_);refine bH (go 1 ?_);exact ⟨.inl J,_,dA A W m a4 v4 _ B rw,fY J,ai bI (.refl _),J,a4,v4,hC4,ie (by rw [NN Y])⟩
 refine aG J (bO h1) (go 6 ?_);by_cases h6:x.kind=2
 ·refine aI J (bU h6) (go 4 ?_);refine cB [b1] ?_;have hle:=congrArg List.length (Oi (m:=m) (x:=x) Y);refine aa [0,1,2,3,4] 3 (go 6 ?_);refine aW 5 J J (oM 0 [] J J V call173 J J (yI x.expr Y hse (ok2.1 Y) _) dJ dJ (λ_=>dJ) ?_);rintro _ _ ⟨rfl,rfl⟩;refine aW 6 J J (tD Tryz.t9 [ah ⟨#[]⟩,ah ⟨#[]⟩,ah ⟨#[]⟩,ah ⟨#[]⟩] J J V (.cons J (.cons J (.cons J (.cons J .nil)))) o0 aQ J V V aQ aQ (r:=cj [x.name,(⟨#[32,61,32]⟩:aH),(bytes (bv x.expr)),(⟨#[59]⟩:aH)]) J ?_);refine aW 7 J J (kI J lI J (lF [x.name,(⟨#[32,61,32]⟩:aH),(bytes (bv x.expr)),(⟨#[59]⟩:aH)] (_::A) B W m a v bs rw ha (fS J) jc) aL cm (λhn=>⟨t_ hn,λb hb=>gZ hn hb⟩) λa9 v9 hC9=>?_);refine bH (go 1 ?_);exact ⟨.inl J,_,dA A W m a9 v9 _ B rw,fY J,ai bI (.refl _),J,a9,v9,hC9,ie (by rw [Oi Y])⟩
 refine aG J (bO h6) (go 6 ?_);by_cases h11:x.kind=3
 ·refine aI J (bU h11) (go 5 ?_);have hle:=congrArg List.length (KN (m:=m) (x:=x) Y);refine go 2 ?_;refine j6 0 J call174 J (JN x hs Y ok2.2.2.1 JS Y _) ?_;refine aX J (bV (r:=cj [(bytes (x.name.data.toList++iI x.args++[59]))]) io ?_);refine aX J (kI J lI J (lF [(bytes (x.name.data.toList++iI x.args++[59]))] (_::A) B W m a v bs rw ha (fS J) jc) aL cm kG λa13 v13 aK5=>?_);refine go 2 ?_;exact ⟨.inl J,_,dA A W m a13 v13 _ B rw,fY J,ai bI (.refl _),J,a13,v13,aK5,ie (by rw [KN Y])⟩
 refine aG J (bO h11) (go 6 ?_);by_cases rd:x.kind=4
 ·refine aI J (bU rd) (go 5 ?_);have hle:=congrArg List.length (N7 (m:=m) (x:=x) Y);refine go 2 ?_;refine j6 0 J call174 J (JN x hs Y ok2.2.2.1 JS Y _) ?_;refine aX J (bV (r:=cj [(⟨#[103,111,32]⟩:aH),(bytes (x.name.data.toList++iI x.args++[59]))]) (hps:=(.cons J (.cons J .nil))) D4 ?_);refine aX J (kI J lI J (lF [(⟨#[103,111,32]⟩:aH),(bytes (x.name.data.toList++iI x.args++[59]))] (_::A) B W m a v bs rw ha (fS J) jc) aL cm kG λa17 v17 aK6=>?_);refine go 2 ?_;exact ⟨.inl J,_,dA A W m a17 v17 _ B rw,fY J,ai bI (.refl _),J,a17,v17,aK6,ie (by rw [N7 Y])⟩
 refine aG J (bO rd) (go 6 ?_);by_cases h19:x.kind=5
 ·refine aI J (bU h19) (go 5 ?_);have hle:=congrArg List.length (I' (m:=m) (x:=x) Y);refine go 3 ?_;refine j6 0 J call175 J (Fi x.ref AI Y (ok1.ref Y) _) ?_;refine aX J (bV (r:=cj [(⟨#[108,111,99,107,32]⟩:aH),(bytes (fi x.ref)),(⟨#[59]⟩:aH)]) (hps:=(.cons J (.cons J (.cons J .nil)))) tl ?_);refine aX J (kI J lI J (lF [(⟨#[108,111,99,107,32]⟩:aH),(bytes (fi x.ref)),(⟨#[59]⟩:aH)] (_::A) B W m a v bs rw ha (fS J) jc) aL cm kG λa21 v21 aH9=>?_);refine go 2 ?_;exact ⟨.inl J,_,dA A W m a21 v21 _ B rw,fY J,ai bI (.refl _),J,a21,v21,aH9,ie (by rw [I' Y])⟩
 refine aG J (bO h19) (go 6 ?_);by_cases h23:x.kind=6
 ·refine aI J (bU h23) (go 5 ?_);have hle:=congrArg List.length (Oq (m:=m) (x:=x) Y);refine go 3 ?_;refine j6 0 J call175 J (Fi x.ref AI Y (ok1.ref Y) _) ?_;refine aX J (bV (r:=cj [(⟨#[117,110,108,111,99,107,32]⟩:aH),(bytes (fi x.ref)),(⟨#[59]⟩:aH)]) (hps:=(.cons J (.cons J (.cons J .nil)))) tl ?_);refine aX J (kI J lI J (lF [(⟨#[117,110,108,111,99,107,32]⟩:aH),(bytes (fi x.ref)),(⟨#[59]⟩:aH)] (_::A) B W m a v bs rw ha (fS J) jc) aL cm kG λa25 v25 aGy=>?_);refine go 2 ?_;exact ⟨.inl J,_,dA A W m a25 v25 _ B rw,fY J,ai bI (.refl _),J,a25,v25,aGy,ie (by rw [Oq Y])⟩
 refine aG J (bO h23) (go 6 ?_);by_cases h27:x.kind=9
 ·refine aI J (bU h27) (go 5 ?_);have hle:=congrArg List.length (Nh (m:=m) (x:=x) Y);refine go 1 ?_;refine aX J (bV (r:=cj [(⟨#[114,101,116,117,114,110,59]⟩:aH)]) io ?_);refine aX J (kI J lI J (lF [(⟨#[114,101,116,117,114,110,59]⟩:aH)] (_::A) B W m a v bs rw ha (fS J) jc) aL cm kG λa29 v29 aQo=>?_);refine go 2 ?_;exact ⟨.inl J,_,dA A W m a29 v29 _ B rw,fY J,ai bI (.refl _),J,a29,v29,aQo,ie (by rw [Nh Y])⟩
 refine aG J (bO h27) (go 7 ?_);refine aX J (wy 0 J call176 J (hco Y (_::A) B W a v bs rw ha hb) aL cm kG λa31 v31 aQp=>?_);refine go 2 ?_;exact ⟨.inl J,_,dA A W m a31 v31 _ B rw,fY J,ai bI (.refl _),J,a31,v31,aQp,J⟩
def Wy(x:aE)(A B:List aV)(W m:Nat)(a:Option Addr)(v:aN)(bs:List UInt8)(rw:List aP)(ha:fy W a)(D:Nat)(hok:fw D x=true)(hs:x.bt)(hw:x.wt <= 9000000)(hm:m <= 1000)(hb:bs.length+(d1 (tabs m) x).length <= 100000000000000)(hk:x.kind=7∨x.kind=8)(ih1:∀(A B:List aV) (W:Nat) (a:Option Addr) (v:aN) (bs:List UInt8) (rw:List aP) (ha:fy W a) (hb:bs.length+(bT (tabs (m+1)) x.thn).length <= 100000000000000),aU prog 125 [cM (aF W),.c (aB encS x.thn)] (W::aR v) (dA A W m a v bs B rw) λt s'=>t=.fd [] /\ ∃a' v',fy W a' /\ s'=dA A W m a' v' (bs++bT (tabs (m+1)) x.thn) B rw)(ih2:∀(A B:List aV) (W:Nat) (a:Option Addr) (v:aN) (bs:List UInt8) (rw:List aP) (ha:fy W a) (hb:bs.length+(bT (tabs (m+1)) x.els).length <= 100000000000000),aU prog 125 [cM (aF W),.c (aB encS x.els)] (W::aR v) (dA A W m a v bs B rw) λt s'=>t=.fd [] /\ ∃a' v',fy W a' /\ s'=dA A W m a' v' (bs++bT (tabs (m+1)) x.els) B rw):aU prog 176 [cM (aF W),.agg (ci x)] (W::aR v) (dA A W m a v bs B rw) λt s'=>t=.fd [] /\ ∃a' v',fy W a' /\ s'=dA A W m a' v' (bs++d1 (tabs m) x) B rw:=by
 obtain ⟨hsn,hse,AI,hsa,hst,DQ⟩:=nR hs;have hw2:=hw;rw [gM] at hw2;unfold cL.wt at hw2;have hal:=p9 x.args;have ok1:=zV hs hok;have ok2:=MD hok;have hle:(dM m [mR x,bytes (bv x.expr),⟨#[32,123]⟩]).length+(bT (tabs (m+1)) x.thn).length+(dM m [⟨#[125]⟩]).length+(if x.els.length=0 then 0 else (dM m [⟨#[125,32,101,108,115,101,32,123]⟩]).length+(bT (tabs (m+1)) x.els).length)=(d1 (tabs m) x).length:=by
  by_cases he:x.els.length=0
  ·rw [if_pos he,←Iw hk he];(simp only [length_append];try omega)
  rw [if_neg he,←Je hk he];(simp only [length_append];try omega)
 refine bR 33 func176 ?_;refine go 15 λb1=>?_;by_cases h1:x.kind=8;focus
  refine aI J (bU h1) (go 9 ?_);refine ct 4 J (fh (show _=mR x by unfold mR;rw [if_pos Y])) (go 4 ?_)
 rotate_left;refine aG J (bO h1) (go 7 ?_);refine ct 4 J (fh (show _=mR x by unfold mR;rw [if_neg Y])) (go 4 ?_);all_goals
  refine j6 0 J call173 J (yI x.expr Y hse (ok2.1 Y) _) ?_;refine aX J (bV (r:=cj [(mR x),(bytes (bv x.expr)),(⟨#[32,123]⟩:aH)]) (hps:=(.cons J (.cons J (.cons J .nil)))) tl ?_);refine aX J (kI J lI J (lF [(mR x),(bytes (bv x.expr)),(⟨#[32,123]⟩:aH)] (_::A) B W m a v bs rw ha (fS J) jc) aL cm kG λa13 v13 aK5=>?_);refine go 7 ?_;refine aX J (wy 0 J call125 J (ih1 (_::A) B W a13 v13 (bs++dM m [(mR x),(bytes (bv x.expr)),(⟨#[32,123]⟩:aH)]) rw aK5 jc) aL cm kG λa14 v14 aM8=>?_);refine go 8 ?_;by_cases rd:(0:Int)<(x.els.length:Int)
  ·refine aI J (e1 rd) (go 5 ?_);rw [if_neg Y] at hle;refine go 1 ?_;refine aX J (bV (r:=cj [(⟨#[125,32,101,108,115,101,32,123]⟩:aH)]) io ?_);refine aX J (kI J lI J (lF [(⟨#[125,32,101,108,115,101,32,123]⟩:aH)] (_::A) B W m a14 v14 ((bs++dM m [(mR x),(bytes (bv x.expr)),(⟨#[32,123]⟩:aH)])++bT (tabs (m+1)) x.thn) rw aM8 (fS J) jc) aL cm kG λa17 v17 aK6=>?_);refine go 6 ?_;refine aX J (wy 0 J call125 J (ih2 (_::A) B W a17 v17 (((bs++dM m [(mR x),(bytes (bv x.expr)),(⟨#[32,123]⟩:aH)])++bT (tabs (m+1)) x.thn)++dM m [(⟨#[125,32,101,108,115,101,32,123]⟩:aH)]) rw aK6 jc) aL cm kG λa18 v18 aQq=>?_);refine go 4 ?_;refine aX J (bV (r:=cj [(⟨#[125]⟩:aH)]) io ?_);refine aX J (kI J lI J (lF [(⟨#[125]⟩:aH)] (_::A) B W m a18 v18 ((((bs++dM m [(mR x),(bytes (bv x.expr)),(⟨#[32,123]⟩:aH)])++bT (tabs (m+1)) x.thn)++dM m [(⟨#[125,32,101,108,115,101,32,123]⟩:aH)])++bT (tabs (m+1)) x.els) rw aQq (fS J) jc) aL cm kG λa19 v19 aQr=>?_);refine go 1 ?_;exact ⟨.inl J,_,dA A W m a19 v19 _ B rw,fY J,ai bI (.refl _),J,a19,v19,aQr,ie (by rw [←Je hk Y];try simp only [append_assoc])⟩
  refine aG J (fA rd) (go 7 ?_);refine aX J (bV (r:=cj [(⟨#[125]⟩:aH)]) io ?_);refine aX J (kI J lI J (lF [(⟨#[125]⟩:aH)] (_::A) B W m a14 v14 ((bs++dM m [(mR x),(bytes (bv x.expr)),(⟨#[32,123]⟩:aH)])++bT (tabs (m+1)) x.thn) rw aM8 (fS J) jc) aL cm kG λa21 v21 aH9=>?_);refine go 1 ?_;exact ⟨.inl J,_,dA A W m a21 v21 _ B rw,fY J,ai bI (.refl _),J,a21,v21,aH9,ie (by rw [←Iw hk Y];try simp only [append_assoc])⟩
def TW(tb:List UInt8)(l:List aE)(k:Nat)(hk:k<l.length):(bT tb (l.take k)).length+(d1 tb l[k]).length <= (bT tb l).length:=by
 have h1:=Ba tb l (k+1);rw [nP tb l k hk,length_append] at h1;exact h1
def Jm(l:List aE)(A B:List aV)(W m:Nat)(a:Option Addr)(v:aN)(bs:List UInt8)(rw:List aP)(ha:fy W a)(hm:m <= 900)(hl:l.length <= 1000000000)(hb:bs.length+(bT (tabs (m+1)) l).length <= 100000000000000)(ih:∀k (h:k<l.length),∀(A B:List aV) (W:Nat) (a:Option Addr) (v:aN) (bs:List UInt8) (rw:List aP) (ha:fy W a) (hb:bs.length+(d1 (tabs (m+1)) l[k]).length <= 100000000000000),aU prog 149 [cM (aF W),.agg (ci l[k])] (W::aR v) (dA A W (m+1) a v bs B rw) λt s'=>t=.fd [] /\ ∃a' v',fy W a' /\ s'=dA A W (m+1) a' v' (bs++d1 (tabs (m+1)) l[k]) B rw):aU prog 125 [cM (aF W),.c (aB encS l)] (W::aR v) (dA A W m a v bs B rw) λt s'=>t=.fd [] /\ ∃a' v',fy W a' /\ s'=dA A W m a' v' (bs++bT (tabs (m+1)) l) B rw:=by
 refine bR 30 func125 ?_;refine go 6 ?_;refine aD J (cP (cD (show (m:Int)+1=((m+1:Nat):Int) by omega)) (uk J J J Y Y)) (go 14 ?_);refine jS (α:=Option Addr×aN) (λk g=>fy W g.1) (l.length) 15 (λg=>aR g.2++[W]) (λk g=>dA A W (m+1) g.1 g.2 (bs++bT (tabs (m+1)) (l.take k)) B rw) (λk=>[(0,cM (aF W)),(13,.c (aB encS l)),(14,ae l.length)]) (a,v) ha (mZ (h:=ax J) (.refl _) (ie (A:=A) (by rw [mJ,bT];exact (eV _).symm:bs=(bs++bT (tabs (m+1)) (l.take 0))))) ?_;rintro k ⟨a1,v1⟩ hk hC1;dsimp only at hC1
 try dsimp only
 refine go 2 ?_;by_cases h2:(k:Int)<(l.length:Int)
 ·refine aI J (c_ h2) (go 10 ?_);refine aD J (bf encS ci l l8 mQ k J J J J Y V jw d7) (go 8 λb1=>?_);refine aX J (wy 0 J call149 J (ih k Y (_::A) B W a1 v1 (bs++bT (tabs (m+1)) (l.take k)) rw hC1 (by have:=TW (tabs (m+1)) l k Y;(try simp only [length_append]);omega)) aL cm kG λa4 v4 hC4=>?_);refine go 4 ?_;refine bP J (go 2 ?_);exact ⟨Y,(a4,v4),hC4,mZ bI (ie (A:=A) (by rw [nP _ _ _ Y,append_assoc]:((bs++bT (tabs (m+1)) (l.take k))++d1 (tabs (m+1)) l[k])=(bs++bT (tabs (m+1)) (l.take (k+1)))))⟩
 refine aG J (cv h2) (go 10 ?_);obtain rfl:k=l.length:=Y;rw [hG];refine go 4 ?_;refine aD J (cP (cD (show ((m+1:Nat):Int)-1=(m:Int) by omega)) (jh)) (go 4 ?_);exact ⟨.inl J,_,dA A W m a1 v1 _ B rw,fY J,ai (.refl _) (.refl _),J,a1,v1,hC1,J⟩
end
section
open Go.RowKit
def UY{D:Nat}{x:aE}(h:fw D x=true)(hk:x.kind=7∨x.kind=8):dC (D+1) x.thn=true /\ dC (D+1) x.els=true:=by
 obtain ⟨k,n,e,r,args,t,el⟩:=x;rw [fw] at h;simp only [di,nN,decide_eq_true_eq] at h;obtain ⟨⟨-,h7⟩,h8⟩:=h;have hk:k=7∨k=8:=hk;rw [if_pos hk] at h7;refine ⟨h7,?_⟩;rcases h8 with h|h
 ·obtain rfl:el=[]:=kJ.1 h;show dC (D+1) []=true;rw [uH] at h7⊢;simp only [di,List.all_nil,and_true] at h7⊢;exact h7.1
 exact h.2
def G':∀(N:Nat)(l:List aE)(D:Nat),N <= 9000000 -> au l <= N -> dC D l=true -> eO l -> ∀(A B:List aV)(W:Nat)(a:Option Addr)(v:aN)(bs:List UInt8)(rw:List aP),fy W a -> bs.length+(bT (tabs (D+1)) l).length <= 100000000000000 -> aU prog 125 [cM (aF W),.c (aB encS l)] (W::aR v) (dA A W D a v bs B rw) λt s'=>t=.fd [] /\ ∃a' v',fy W a' /\ s'=dA A W D a' v' (bs++bT (tabs (D+1)) l) B rw
 |0,l,D,hN,hw,hok,hs,A,B,W,a,v,bs,rw,ha,hb=>Jm l A B W D a v bs rw ha (by rw [uH] at hok;simp only [di,decide_eq_true_eq] at hok;omega) pI hb λk hk=>absurd (o5 l) Y
 |N+1,l,D,hN,hw,hok,hs,A,B,W,a,v,bs,rw,ha,hb=>by
  have hok1:=hok;rw [uH] at hok1;simp only [di,decide_eq_true_eq] at hok1;obtain ⟨hD,hall⟩:=hok1;refine Jm l A B W D a v bs rw ha Y pI hb λk hk A B W a v bs rw ha hb=>?_;have hst:=e0.1 hall _ (getElem_mem hk);have hwk:=qH l k hk;have hwp:=hwk;rw [gM] at hwp;have hsk:=tA _ hs _ (getElem_mem hk);obtain ⟨-,-,-,-,aQs,DQ⟩:=nR hsk;refine Vg l[k] A B W (D+1) a v bs rw ha D hst hsk Y Y hb λhkind A B W a v bs rw ha hb=>?_;obtain ⟨o1,o2⟩:=UY hst hkind;exact Wy l[k] A B W (D+1) a v bs rw ha D hst hsk Y Y hb hkind (λA B W a v bs rw ha hb=>G' N _ (D+1) Y Y o1 aQs A B W a v bs rw ha hb) (λA B W a v bs rw ha hb=>G' N _ (D+1) Y Y o2 DQ A B W a v bs rw ha hb)
def Um(l:List aE)(A B:List aV)(W m:Nat)(a:Option Addr)(v:aN)(bs:List UInt8)(rw:List aP)(ha:fy W a)(hm:m=0)(hok:dC 0 l=true)(hs:eO l)(hw:au l <= 9000000)(hb:bs.length+(bT [9] l).length <= 100000000000000):aU prog 125 [cM (aF W),.c (aB encS l)] (W::aR v) (dA A W m a v bs B rw) λt s'=>t=.fd [] /\ ∃a' v',fy W a' /\ s'=dA A W m a' v' (bs++bT [9] l) B rw:=by
 subst hm;exact G' _ l 0 hw (bX _) hok hs A B W a v bs rw ha hb
section
variable {m:Nat}
theorem MO{g:b_}(hm:m=0)(h:g.init=0):dM m [⟨#[118,97,114,32]⟩,g.name,⟨#[59]⟩]=cS g:=by
 subst hm;unfold cS dM;rw [if_pos h];simp only [dE,gH,jZ,lc,append_assoc];rfl
theorem Pq{g:b_}(hm:m=0)(h:¬g.init=0):dM m [⟨#[118,97,114,32]⟩,g.name,⟨#[32,61,32]⟩,bytes (fT g.init),⟨#[59]⟩]=cS g:=by
 subst hm;unfold cS dM;rw [if_neg h];simp only [dE,gH,jZ,lc,nj,append_assoc];rfl
theorem Kc{x:cn}(hm:m=0)(h:x.ex=true)(h0:¬0<x.size):dM m [⟨#[114,109,117,116,101,120,32]⟩,x.name,⟨#[59]⟩]=cf x:=by
 subst hm;unfold cf dM;rw [if_pos h,if_neg h0];simp only [dE,gH,jZ,lc,append_assoc];rfl
theorem OQ{x:cn}(hm:m=0)(h:x.ex=false)(h0:¬0<x.size):dM m [⟨#[109,117,116,101,120,32]⟩,x.name,⟨#[59]⟩]=cf x:=by
 subst hm;unfold cf dM;rw [if_neg oD,if_neg h0];simp only [dE,gH,jZ,lc,append_assoc];rfl
theorem JQ{x:cn}(hm:m=0)(h:x.ex=false)(h0:0<x.size):dM m [⟨#[109,117,116,101,120,32]⟩,x.name,⟨#[91]⟩,bytes (fT x.size),⟨#[93,59]⟩]=cf x:=by
 subst hm;unfold cf dM;rw [if_neg oD,if_pos h0];simp only [dE,gH,jZ,lc,nj,append_assoc];rfl
theorem I7{f:bB}(hm:m=0):dM m [⟨#[102,117,110,99,32]⟩,f.name,⟨#[40]⟩,bytes (dL eY f.params),⟨#[41,32,123]⟩]++bT [9] f.body++dM m [⟨#[125]⟩]=funcText f:=by
 subst hm;unfold funcText dM;simp only [dE,gH,jZ,lc,nj,append_assoc];rfl
end
def M'{x:cn}(h:iv x=true)(hr:x.ex=true):¬0<x.size:=λh0=>by
 unfold iv at h;rw [hr,decide_eq_true h0] at h;simp at h
def wk{bs:List UInt8}{m:Nat}{ps:List aH}{v:aN}:qN (bs++dM m ps) v:=λh=>absurd h (R5 bs m ps)
def qo{x y:List UInt8}{v:aN}(h:x=y)(hz:qN x v):qN y v:=h▸hz
def D1{α:Type}(f:α -> List UInt8)(l:List α)(k:Nat)(h:k<l.length):(((l.take k).map f).flatten).length+(f l[k]).length <= ((l.map f).flatten).length:=by
 have h1:=xp f l (k+1);rw [my f l k h,length_append] at h1;exact h1
def jA(x:bg):ByteArray:=bytes (eY x)
def UJ{x:bg}(h:x.mutex=true):bytes ([109,117,116,101,120,32]++x.name.data.toList)=jA x:=by unfold jA;rw [El h]
def RB{x:bg}(h:x.mutex=false):x.name=jA x:=by unfold jA;rw [Hp h];exact back _
def TT(l:List bg)(hN:l.length <= 10000000)(hlen:(dL eY l).length <= 100000000000000)(s:aJ):aU prog 124 [.c (.sl (l.map jA).length ((l.map jA).map λx=>ah x)),cK ⟨#[44,32]⟩] [] s λt s'=>t=cK (bytes (dL eY l)) /\ s'=s:=by
 have hmap:(l.map jA).map (·.data.toList)=l.map eY:=F_
 have h:=KO (l.map jA) ⟨#[44,32]⟩ (by rw [gI];exact hN) (by rw [hmap];rw [show (⟨#[44,32]⟩:aH).data.toList=[44,32] from rfl,CH];exact hlen) s;rw [hmap,show (⟨#[44,32]⟩:aH).data.toList=[44,32] from rfl,CH] at h;exact h
def XS(p:aY)(A B:List aV)(W m:Nat)(a:Option Addr)(v:aN)(bs:List UInt8)(rw:List aP)(ha:fy W a)(hz:qN bs v)(hm:m=0)(hv:j0 p=true)(hs:p.bt)(hw:p.wt <= 9000000)(hb:bs.length+(iG p).length <= 100000000000000):aU prog 92 [cM (aF W),.agg (dl p)] (W::aR v) (dA A W m a v bs B rw) λt s'=>t=.fd [] /\ ∃a' v',(fy W a' /\ qN (bs++iG p) v') /\ s'=dA A W m a' v' (bs++iG p) B rw:=by
 have hb1:=hb;unfold iG at hb1;simp only [length_append] at hb1;have hv0:=hv;unfold j0 at hv;simp only [di,e0,decide_eq_true_eq] at hv;obtain ⟨⟨⟨hcnt,hvg⟩,hvm⟩,hvf⟩:=hv;have hv:True /\ (∀x∈p.mutexes,iv x=true) /\ True:=⟨trivial,hvm,trivial⟩;unfold aY.wt at hw;refine bR 113 func92 ?_;refine go 15 λb1=>?_;refine jS (α:=Option Addr×aN) (λk g=>fy W g.1 /\ qN (bs++((p.globals.take k).map cS).flatten) g.2) (p.globals.length) 16 (λg=>aR g.2++[W]) (λk g=>dA (⟨b1,27,(dl p)⟩::A) W m g.1 g.2 (bs++((p.globals.take k).map cS).flatten) B rw) (λk=>[(0,cM (aF W)),(3,aF b1),(14,.c (aB am p.globals)),(15,ae p.globals.length)]) (a,v) ⟨ha,qo (aL:bs=(bs++((p.globals.take 0).map cS).flatten)) hz⟩ (mZ (h:=ax J) (.refl _) (ie (A:=(_::A)) (aL:bs=(bs++((p.globals.take 0).map cS).flatten)))) ?_;rintro k ⟨a1,v1⟩ hk hC1;dsimp only at hC1
 try dsimp only
 obtain ⟨hC1,hZ⟩:=hC1;refine go 2 ?_;by_cases h2:(k:Int)<(p.globals.length:Int)
 ·refine aI J (c_ h2) (go 10 ?_);have hkl:k<p.globals.length:=Y;have hgs:=hs.globals _ (getElem_mem hkl);have hcn:=D1 cS p.globals k hkl;refine aD J (bf am am p.globals oU (λ_=>J) k J J J J Y V mt jX) (go 10 λb2=>?_);by_cases h4:p.globals[k].init=0
  ·refine aI J (bU h4) (go 5 ?_);have hle:=congrArg List.length (MO (g:=p.globals[k]) hm Y);refine go 3 ?_;refine aX J (bV (r:=cj [(⟨#[118,97,114,32]⟩:aH),p.globals[k].name,(⟨#[59]⟩:aH)]) (hps:=(.cons J (.cons J (.cons J .nil)))) tl ?_);refine aX J (kI J lI J (lF [(⟨#[118,97,114,32]⟩:aH),p.globals[k].name,(⟨#[59]⟩:aH)] (_::_::A) B W m a1 v1 (bs++((p.globals.take k).map cS).flatten) rw hC1 (fS J) jc) aL cm kG λa6 v6 hC6=>?_);refine go 7 ?_;refine bP J (go 2 ?_);exact ⟨Y,(a6,v6),⟨hC6,qo (Jn:((bs++((p.globals.take k).map cS).flatten)++dM m [(⟨#[118,97,114,32]⟩:aH),p.globals[k].name,(⟨#[59]⟩:aH)])=(bs++((p.globals.take (k+1)).map cS).flatten)) wk⟩,mZ bI (ie (A:=(_::A)) (Jn:((bs++((p.globals.take k).map cS).flatten)++dM m [(⟨#[118,97,114,32]⟩:aH),p.globals[k].name,(⟨#[59]⟩:aH)])=(bs++((p.globals.take (k+1)).map cS).flatten)))⟩
  refine aG J (bO h4) (go 5 ?_);refine cB [b2,b1] ?_;have hle:=congrArg List.length (Pq (g:=p.globals[k]) hm Y);refine aa [0,1,2,3,4] 3 (go 6 ?_);refine aW 5 J J (oM 0 [] J J V call123 J J (M0 p.globals[k].init hgs.1 _) dJ dJ (λ_=>dJ) ?_);rintro _ _ ⟨rfl,rfl⟩;refine aW 6 J J (bV (r:=cj [(⟨#[118,97,114,32]⟩:aH),p.globals[k].name,(⟨#[32,61,32]⟩:aH),(bytes (fT p.globals[k].init)),(⟨#[59]⟩:aH)]) (hps:=(.cons J (.cons J (.cons J (.cons J (.cons J .nil)))))) Ac ?_);refine aW 7 J J (kI J lI J (lF [(⟨#[118,97,114,32]⟩:aH),p.globals[k].name,(⟨#[32,61,32]⟩:aH),(bytes (fT p.globals[k].init)),(⟨#[59]⟩:aH)] (_::_::A) B W m a1 v1 (bs++((p.globals.take k).map cS).flatten) rw hC1 (fS J) jc) aL cm (λhn=>⟨t_ hn,λb hb=>gZ hn hb⟩) λa9 v9 hC9=>?_);refine bH (go 3 ?_);refine bP J (go 2 ?_);exact ⟨Y,(a9,v9),⟨hC9,qo (QB:((bs++((p.globals.take k).map cS).flatten)++dM m [(⟨#[118,97,114,32]⟩:aH),p.globals[k].name,(⟨#[32,61,32]⟩:aH),(bytes (fT p.globals[k].init)),(⟨#[59]⟩:aH)])=(bs++((p.globals.take (k+1)).map cS).flatten)) wk⟩,mZ bI (ie (A:=(_::A)) (QB:((bs++((p.globals.take k).map cS).flatten)++dM m [(⟨#[118,97,114,32]⟩:aH),p.globals[k].name,(⟨#[32,61,32]⟩:aH),(bytes (fT p.globals[k].init)),(⟨#[59]⟩:aH)])=(bs++((p.globals.take (k+1)).map cS).flatten)))⟩
 refine aG J (cv h2) (go 12 ?_);obtain rfl:k=p.globals.length:=Y;rw [hG] at hZ⊢;refine go 7 ?_;refine jS (α:=Option Addr×aN) (λi g=>fy W g.1 /\ qN ((bs++((p.globals.map cS).flatten))++((p.mutexes.take i).map cf).flatten) g.2) (p.mutexes.length) 40 (λg=>aR g.2++[W]) (λi g=>dA (⟨b1,27,(dl p)⟩::A) W m g.1 g.2 ((bs++((p.globals.map cS).flatten))++((p.mutexes.take i).map cf).flatten) B rw) (λi=>[(0,cM (aF W)),(3,aF b1),(38,.c (aB aT p.mutexes)),(39,ae p.mutexes.length)]) (a1,v1) ⟨hC1,qo (aL:(bs++((p.globals.map cS).flatten))=((bs++((p.globals.map cS).flatten))++((p.mutexes.take 0).map cf).flatten)) hZ⟩ (mZ (h:=ax J) (.refl _) (ie (A:=(_::A)) (aL:(bs++((p.globals.map cS).flatten))=((bs++((p.globals.map cS).flatten))++((p.mutexes.take 0).map cf).flatten)))) ?_;rintro i ⟨a11,v11⟩ hi OF;dsimp only at OF
 try dsimp only
 obtain ⟨OF,hZ⟩:=OF;refine go 2 ?_;by_cases h12:(i:Int)<(p.mutexes.length:Int)
 ·refine aI J (c_ h12) (go 10 ?_);have hil:i<p.mutexes.length:=Y;have hms:=hs.mutexes _ (getElem_mem hil);have hmok:=hv.2.1 _ (getElem_mem hil);have hcn:=D1 cf p.mutexes i hil;refine aD J (bf aT aT p.mutexes pD (λ_=>J) i J J J J Y V mS gq) (go 9 λb3=>?_);rcases bw (p.mutexes[i].ex) with n6|n6
  ·refine aD J (cP (bJ n6) (cV [] dH dG)) (go 5 ?_);have hle:=congrArg List.length (Kc (x:=p.mutexes[i]) hm n6 (M' hmok n6));refine go 3 ?_;refine aX J (bV (r:=cj [(⟨#[114,109,117,116,101,120,32]⟩:aH),p.mutexes[i].name,(⟨#[59]⟩:aH)]) (hps:=(.cons J (.cons J (.cons J .nil)))) tl ?_);refine aX J (kI J lI J (lF [(⟨#[114,109,117,116,101,120,32]⟩:aH),p.mutexes[i].name,(⟨#[59]⟩:aH)] (_::_::A) B W m a11 v11 ((bs++((p.globals.map cS).flatten))++((p.mutexes.take i).map cf).flatten) rw OF (fS J) jc) aL cm kG λa16 v16 aQt=>?_);refine go 5 ?_;refine bP J (go 2 ?_);exact ⟨Y,(a16,v16),⟨aQt,qo (OR:(((bs++((p.globals.map cS).flatten))++((p.mutexes.take i).map cf).flatten)++dM m [(⟨#[114,109,117,116,101,120,32]⟩:aH),p.mutexes[i].name,(⟨#[59]⟩:aH)])=((bs++((p.globals.map cS).flatten))++((p.mutexes.take (i+1)).map cf).flatten)) wk⟩,mZ bI (ie (A:=(_::A)) (OR:(((bs++((p.globals.map cS).flatten))++((p.mutexes.take i).map cf).flatten)++dM m [(⟨#[114,109,117,116,101,120,32]⟩:aH),p.mutexes[i].name,(⟨#[59]⟩:aH)])=((bs++((p.globals.map cS).flatten))++((p.mutexes.take (i+1)).map cf).flatten)))⟩
  refine aD J (cP (bJ n6) (cV [] dH dG)) (go 8 ?_);by_cases h18:(0:Int)<p.mutexes[i].size
  ·refine aI J (e1 h18) (go 4 ?_);refine cB [b3,b1] ?_;have hle:=congrArg List.length (JQ (x:=p.mutexes[i]) hm n6 Y);refine aa [0,1,2,3,4] 3 (go 6 ?_);refine aW 5 J J (oM 0 [] J J V call123 J J (M0 p.mutexes[i].size hms.1 _) dJ dJ (λ_=>dJ) ?_);rintro _ _ ⟨rfl,rfl⟩;refine aW 6 J J (bV (r:=cj [(⟨#[109,117,116,101,120,32]⟩:aH),p.mutexes[i].name,(⟨#[91]⟩:aH),(bytes (fT p.mutexes[i].size)),(⟨#[93,59]⟩:aH)]) (hps:=(.cons J (.cons J (.cons J (.cons J (.cons J .nil)))))) Ac ?_);refine aW 7 J J (kI J lI J (lF [(⟨#[109,117,116,101,120,32]⟩:aH),p.mutexes[i].name,(⟨#[91]⟩:aH),(bytes (fT p.mutexes[i].size)),(⟨#[93,59]⟩:aH)] (_::_::A) B W m a11 v11 ((bs++((p.globals.map cS).flatten))++((p.mutexes.take i).map cf).flatten) rw OF (fS J) jc) aL cm (λhn=>⟨t_ hn,λb hb=>gZ hn hb⟩) λa21 v21 aH9=>?_);refine bH (go 4 ?_);refine bP J (go 2 ?_);exact ⟨Y,(a21,v21),⟨aH9,qo (Nl:(((bs++((p.globals.map cS).flatten))++((p.mutexes.take i).map cf).flatten)++dM m [(⟨#[109,117,116,101,120,32]⟩:aH),p.mutexes[i].name,(⟨#[91]⟩:aH),(bytes (fT p.mutexes[i].size)),(⟨#[93,59]⟩:aH)])=((bs++((p.globals.map cS).flatten))++((p.mutexes.take (i+1)).map cf).flatten)) wk⟩,mZ bI (ie (A:=(_::A)) (Nl:(((bs++((p.globals.map cS).flatten))++((p.mutexes.take i).map cf).flatten)++dM m [(⟨#[109,117,116,101,120,32]⟩:aH),p.mutexes[i].name,(⟨#[91]⟩:aH),(bytes (fT p.mutexes[i].size)),(⟨#[93,59]⟩:aH)])=((bs++((p.globals.map cS).flatten))++((p.mutexes.take (i+1)).map cf).flatten)))⟩
  refine aG J (fA h18) (go 5 ?_);have hle:=congrArg List.length (OQ (x:=p.mutexes[i]) hm n6 Y);refine go 3 ?_;refine aX J (bV (r:=cj [(⟨#[109,117,116,101,120,32]⟩:aH),p.mutexes[i].name,(⟨#[59]⟩:aH)]) (hps:=(.cons J (.cons J (.cons J .nil)))) tl ?_);refine aX J (kI J lI J (lF [(⟨#[109,117,116,101,120,32]⟩:aH),p.mutexes[i].name,(⟨#[59]⟩:aH)] (_::_::A) B W m a11 v11 ((bs++((p.globals.map cS).flatten))++((p.mutexes.take i).map cf).flatten) rw OF (fS J) jc) aL cm kG λa23 v23 aQu=>?_);refine go 5 ?_;refine bP J (go 2 ?_);exact ⟨Y,(a23,v23),⟨aQu,qo (NL:(((bs++((p.globals.map cS).flatten))++((p.mutexes.take i).map cf).flatten)++dM m [(⟨#[109,117,116,101,120,32]⟩:aH),p.mutexes[i].name,(⟨#[59]⟩:aH)])=((bs++((p.globals.map cS).flatten))++((p.mutexes.take (i+1)).map cf).flatten)) wk⟩,mZ bI (ie (A:=(_::A)) (NL:(((bs++((p.globals.map cS).flatten))++((p.mutexes.take i).map cf).flatten)++dM m [(⟨#[109,117,116,101,120,32]⟩:aH),p.mutexes[i].name,(⟨#[59]⟩:aH)])=((bs++((p.globals.map cS).flatten))++((p.mutexes.take (i+1)).map cf).flatten)))⟩
 refine aG J (cv h12) (go 11 ?_);obtain rfl:i=p.mutexes.length:=Y;rw [hG] at hZ⊢;refine go 7 ?_;refine jS (α:=Option Addr×aN) (λf g=>fy W g.1 /\ qN (((bs++((p.globals.map cS).flatten))++((p.mutexes.map cf).flatten))++((p.funcs.take f).map funcText).flatten) g.2) (p.funcs.length) 73 (λg=>aR g.2++[W]) (λf g=>dA (⟨b1,27,(dl p)⟩::A) W m g.1 g.2 (((bs++((p.globals.map cS).flatten))++((p.mutexes.map cf).flatten))++((p.funcs.take f).map funcText).flatten) B rw) (λf=>[(0,cM (aF W)),(3,aF b1),(71,.c (aB aZ p.funcs)),(72,ae p.funcs.length)]) (a11,v11) ⟨OF,qo (aL:((bs++((p.globals.map cS).flatten))++((p.mutexes.map cf).flatten))=(((bs++((p.globals.map cS).flatten))++((p.mutexes.map cf).flatten))++((p.funcs.take 0).map funcText).flatten)) hZ⟩ (mZ (h:=ax J) (.refl _) (ie (A:=(_::A)) (aL:((bs++((p.globals.map cS).flatten))++((p.mutexes.map cf).flatten))=(((bs++((p.globals.map cS).flatten))++((p.mutexes.map cf).flatten))++((p.funcs.take 0).map funcText).flatten)))) ?_;rintro f ⟨a25,v25⟩ hf aGy;dsimp only at aGy
 try dsimp only
 obtain ⟨aGy,hZ⟩:=aGy;refine go 2 ?_;by_cases ur:(f:Int)<(p.funcs.length:Int)
 ·refine aI J (c_ ur) (go 10 ?_);have hfl:f<p.funcs.length:=Y;have hfs:=hs.funcs _ (getElem_mem hfl);have hcn:=D1 funcText p.funcs f hfl;have hle:=congrArg List.length (I7 (f:=p.funcs[f]) hm);simp only [length_append] at hle;have hft:=congrArg List.length (FF p.funcs[f]);simp only [length_append] at hft;have hfw:=qU bB.wt p.funcs f hfl;rw [show bB.wt p.funcs[f]=1+p.funcs[f].params.length+au p.funcs[f].body from rfl] at hfw;have hfb:=Dc hv0 _ (getElem_mem hfl);refine aD J (bf aZ aZ p.funcs mH (λ_=>J) f J J J J Y V fU dn) (go 20 λb4=>?_);refine f_ 9 1 ?_;refine Gk (λj=>True) (p.funcs[f].params.length) 80 10 9 1 (λj=>((p.funcs[f].params.take j).map jA).length) (λj=>cj ((p.funcs[f].params.take j).map jA)) (b4::(aR v25++[W])) (λj=>[(0,cM (aF W)),(3,aF b1),(9,aF b4),(71,.c (aB aZ p.funcs)),(72,ae p.funcs.length),(73,ae f),(78,.c (aB cC p.funcs[f].params)),(79,an ((p.funcs[f].params.length:Nat):Int))]) trivial (bD (by intro x hx;simp only [aR,Value.ownBlock,Option.toList,cg] at hx;exact hx)) λj vp hj _=>?_;show br prog _ ⟨113,_,⟨_,⟨_,_,_,((p.funcs[f].params.take j).map jA).length,cj ((p.funcs[f].params.take j).map jA)⟩::_⟩,(80,ae j)::(10,av vp)::[(0,cM (aF W)),(3,aF b1),(9,aF b4),(71,.c (aB aZ p.funcs)),(72,ae p.funcs.length),(73,ae f),(78,.c (aB cC p.funcs[f].params)),(79,an ((p.funcs[f].params.length:Nat):Int))]⟩ _;refine go 2 ?_;by_cases Pc:(j:Int)<((p.funcs[f].params.length:Nat):Int)
  ·refine aI J (c_ Pc) (go 10 ?_);have hjl:j<p.funcs[f].params.length:=Y;have hcl:((p.funcs[f].params.take j).map jA).length <= j:=Kj;have hpn:p.funcs[f].params[j].name.data.toList.length <= 4611686018427387904:=hfs.2.1 _ (getElem_mem hjl);refine aD J (bf cC cC p.funcs[f].params iU (λ_=>J) j J J J J Y V iO gj) (go 9 λb5=>?_);rcases bw (p.funcs[f].params[j].mutex) with DA|DA;focus
    refine aD J (cP (bJ DA) (cV [] dH dG)) (go 8 ?_);refine aD J (cP (fh (show (bytes (([109,117,116,101,120,32]:List UInt8)++p.funcs[f].params[j].name.data.toList))=(jA p.funcs[f].params[j]) by exact UJ DA)) (eb ([109,117,116,101,120,32]:List UInt8) p.funcs[f].params[j].name.data.toList J J J J (back _))) ?_;refine aX J (bV (r:=cj [(jA p.funcs[f].params[j])]) io ?_);refine aX J (dQ [] pC J J V cN Y (@length_append _ ((p.funcs[f].params.take j).map jA) [(jA p.funcs[f].params[j])]).symm fu cm (fL (f:=λx=>aO.val (.string x))).symm λw6=>?_);refine go 8 ?_
   rotate_left;refine aD J (cP (bJ DA) (cV [] dH dG)) (go 8 ?_);refine aD J (cP (fh (show p.funcs[f].params[j].name=(jA p.funcs[f].params[j]) by exact RB DA)) (cV [] rH iK)) ?_;refine aX J (bV (r:=cj [(jA p.funcs[f].params[j])]) io ?_);refine aX J (dQ [] pC J J V cN Y (@length_append _ ((p.funcs[f].params.take j).map jA) [(jA p.funcs[f].params[j])]).symm fu cm (fL (f:=λx=>aO.val (.string x))).symm λw7=>?_);refine go 5 ?_;all_goals
    refine bP J (go 2 ?_);rw [show ((p.funcs[f].params.take j).map jA)++[jA p.funcs[f].params[j]]=(p.funcs[f].params.take (j+1)).map jA by rw [gz Y,fL];rfl];exact ⟨Y,trivial,_,bD (h1:=bI) (h:=ay J (cD Y) (ax J)) fD⟩
  refine aG J (cv Pc) (go 10 ?_);obtain rfl:j=p.funcs[f].params.length:=Y;rw [hG];refine oJ 10 J ?_;refine cB [b4,b1] (aa [0,1,2,3] 3 (go 5 ?_));refine aW 4 J J (da J J V call124 J (TT p.funcs[f].params Y Y _) ?_);rintro _ _ ⟨rfl,rfl⟩;refine aW 5 J J (bV (r:=cj [(⟨#[102,117,110,99,32]⟩:aH),p.funcs[f].name,(⟨#[40]⟩:aH),(bytes (dL eY p.funcs[f].params)),(⟨#[41,32,123]⟩:aH)]) (hps:=(.cons J (.cons J (.cons J (.cons J (.cons J .nil)))))) Ac ?_);refine aW 6 J J (kI J lI J (lF [(⟨#[102,117,110,99,32]⟩:aH),p.funcs[f].name,(⟨#[40]⟩:aH),(bytes (dL eY p.funcs[f].params)),(⟨#[41,32,123]⟩:aH)] (_::_::A) B W m a25 v25 (((bs++((p.globals.map cS).flatten))++((p.mutexes.map cf).flatten))++((p.funcs.take f).map funcText).flatten) rw aGy (fS J) jc) aL cm (λhn=>⟨t_ hn,λb hb=>gZ hn hb⟩) λa35 v35 aQv=>?_);refine bH (go 6 ?_);refine aX J (wy 0 J call125 J (Um p.funcs[f].body (_::_::A) B W m a35 v35 ((((bs++((p.globals.map cS).flatten))++((p.mutexes.map cf).flatten))++((p.funcs.take f).map funcText).flatten)++dM m [(⟨#[102,117,110,99,32]⟩:aH),p.funcs[f].name,(⟨#[40]⟩:aH),(bytes (dL eY p.funcs[f].params)),(⟨#[41,32,123]⟩:aH)]) rw aQv hm hfb.1 hfs.2.2 Y jc) aL cm kG λa36 v36 aQw=>?_);refine go 4 ?_;refine aX J (bV (r:=cj [(⟨#[125]⟩:aH)]) io ?_);refine aX J (kI J lI J (lF [(⟨#[125]⟩:aH)] (_::_::A) B W m a36 v36 (((((bs++((p.globals.map cS).flatten))++((p.mutexes.map cf).flatten))++((p.funcs.take f).map funcText).flatten)++dM m [(⟨#[102,117,110,99,32]⟩:aH),p.funcs[f].name,(⟨#[40]⟩:aH),(bytes (dL eY p.funcs[f].params)),(⟨#[41,32,123]⟩:aH)])++bT [9] p.funcs[f].body) rw aQw (fS J) jc) aL cm kG λa37 v37 aQx=>?_);refine go 4 ?_;refine bP J (go 2 ?_);exact ⟨Y,(a37,v37),⟨aQx,qo (I0:((((((bs++((p.globals.map cS).flatten))++((p.mutexes.map cf).flatten))++((p.funcs.take f).map funcText).flatten)++dM m [(⟨#[102,117,110,99,32]⟩:aH),p.funcs[f].name,(⟨#[40]⟩:aH),(bytes (dL eY p.funcs[f].params)),(⟨#[41,32,123]⟩:aH)])++bT [9] p.funcs[f].body)++dM m [(⟨#[125]⟩:aH)])=(((bs++((p.globals.map cS).flatten))++((p.mutexes.map cf).flatten))++((p.funcs.take (f+1)).map funcText).flatten)) wk⟩,mZ bI (ie (A:=(_::A)) (I0:((((((bs++((p.globals.map cS).flatten))++((p.mutexes.map cf).flatten))++((p.funcs.take f).map funcText).flatten)++dM m [(⟨#[102,117,110,99,32]⟩:aH),p.funcs[f].name,(⟨#[40]⟩:aH),(bytes (dL eY p.funcs[f].params)),(⟨#[41,32,123]⟩:aH)])++bT [9] p.funcs[f].body)++dM m [(⟨#[125]⟩:aH)])=(((bs++((p.globals.map cS).flatten))++((p.mutexes.map cf).flatten))++((p.funcs.take (f+1)).map funcText).flatten)))⟩
 refine aG J (cv ur) (go 8 ?_);obtain rfl:f=p.funcs.length:=Y;rw [hG] at hZ⊢;exact ⟨.inl J,_,dA A W m a25 v25 _ B rw,fY J,ai bI (.refl _),J,a25,v25,⟨aGy,qo (by unfold iG;simp only [append_assoc]) hZ⟩,ie (by unfold iG;simp only [append_assoc])⟩
end
section
open Go.RowKit
def UA(w:ab)(g n:Nat):cQ [g] w (w.freeze ⟨g,0,none⟩ n):=by
 unfold World.freeze;split
 ·exact cQ.refl _ _
 exact ⟨J,J,J,aL,λi hi hn=>by
  simp only [Dy];rw [if_neg (by intro h;subst h;exact hn aL)]⟩
section
variable {P:Program}{U T:List Nat}{o:Oper}{n d:Nat}{ts:List (Nat×AT)}{K:AS -> Prop}{st:AS}{bx:List aV}{rw:List aP}
theorem Ry{x:bb}{t:bA}{k c:Nat}(ho:o.op=.call {callee:=.builtin .unsafeSliceData,args:=#[x],argTypes:=#[t]})(hx:aw st x=some (av (.slice none k c))):co P U o st (av (.pointer none)):=
 iF rfl λa w hs w'=>by
  simp only [execOp,ho,resolve,mI,dE,gH,hs.val hx];simp [go_sem,invoke,builtin,Lib.run_unsafeSliceData_nil]
theorem Sa{x:bb}{t:bA}{q:Addr}{k c:Nat}(ho:o.op=.call {callee:=.builtin .unsafeSliceData,args:=#[x],argTypes:=#[t]})(hx:aw st x=some (av (.slice (some q) k c)))(hc:c≠0):co P U o st (av (.pointer (some q))):=
 iF rfl λa w hs w'=>by
  simp only [execOp,ho,resolve,mI,dE,gH,hs.val hx];simp [go_sem,invoke,builtin,Lib.run_unsafeSliceData_row _ _ _ _ _ _ hc]
theorem Yk{x y:bb}{pt it:bA}{q:Option Addr}(ho:o.op=.call {callee:=.builtin .unsafeString,args:=#[x,y],argTypes:=#[pt,it]})(hx:aw st x=some (av (.pointer q)))(hy:aw st y=some (an 0)):co P U o st (cK .empty):=
 iF rfl λa w hs w'=>by
  simp only [execOp,ho,resolve,mI,dE,gH,hs.val hx,hs.val hy];simp [go_sem,invoke,builtin,Lib.run_unsafeString_none]
theorem Qk{x y:bb}{pt it E:bA}{g cap:Nat}{l:List UInt8}(ho:o.op=.call {callee:=.builtin .unsafeString,args:=#[x,y],argTypes:=#[pt,it]})(hd:o.dst=some d)(hn:d<n)
  (hx:aw ⟨n,T,⟨bx,⟨.slice (some ⟨g,0,none⟩) l.length cap,E,1,l.length,ca l⟩::rw⟩,ts⟩ x=some (aF g)) (hy:aw ⟨n,T,⟨bx,⟨.slice (some ⟨g,0,none⟩) l.length cap,E,1,l.length,ca l⟩::rw⟩,ts⟩ y=some (ae l.length))
  (hp:P.underlying pt=some (.pointer E)) (hc:P.cellsOf E=1) (h0:l≠[]) (h63:l.length <= 9223372036854775807) (hT:g∈T) (hU:(⟨bx,⟨.slice (some ⟨g,0,none⟩) l.length cap,E,1,l.length,ca l⟩::rw⟩:aJ).bl.Nodup -> g∈U)
  (h:K ⟨n,T,⟨bx,rw⟩,(d,cK (bytes l))::ts⟩):dZ P U o ⟨n,T,⟨bx,⟨.slice (some ⟨g,0,none⟩) l.length cap,E,1,l.length,ca l⟩::rw⟩,ts⟩ K:=by
 intro a w hs KK QQ hK;obtain ⟨us,la,hrep⟩:=hs.mem.row ⟨.slice (some ⟨g,0,none⟩) l.length cap,E,1,l.length,ca l⟩ aL;obtain ⟨-,hown⟩:=la.row0 rfl;rcases hown with ⟨h1,-⟩|⟨g',cap',cur,hv,-,hh,hkc,hcm,hcs,htk⟩
 ·cases h1
 cases hv;dsimp only at hh hkc hcs htk hrep;obtain rfl:us=dS l:=zw (vs:=dS l) (by rw [show (dS l).map aO.val=ca l by simp [dS,ca]];exact hrep);simp only [rZ] at hcs htk;have hsh:w.shape? g=some (E,cap):=by unfold World.shape?;rw [hh];simp [hcs]
 have hcell:∀j x,l[j]?=some x -> w.cell? ((⟨g,0,none⟩:Addr).add j)=some (.int .u8 x.toNat):=λj x hj=>by
  have hjl:j<l.length:=(m6.1 hj).1;have aj:(⟨g,0,none⟩:Addr).add j=⟨g,j,none⟩:=Af;rw [aj];have e2:cur[j]?=some (.int .u8 x.toNat):=by
   have h9:=congrArg (λq:List aN=>q[j]?) htk;simp only [oy,if_pos hjl,dS,nb,hj,oi,nT] at h9;exact h9
  unfold World.cell?;simp only [hh,cp];exact e2
 have hkF:=UA w g l.length;have hnd:=hs.mem.nodup;have hg:g∉(⟨bx,rw⟩:aJ).bl:=λhm=>by
  unfold aJ.bl at hnd hm;simp only [ec] at hnd;have hnd2:=eN.1 hnd;rcases mem_append.1 hm with hm|hm
  ·exact hnd2.2.2 g hm g iB J
  exact (eN.1 hnd2.2.1).2.2 g iB g hm J
 have hsub:∀b,b∈(⟨bx,rw⟩:aJ).bl -> b∈(⟨bx,⟨.slice (some ⟨g,0,none⟩) l.length cap,E,1,l.length,ca l⟩::rw⟩:aJ).bl:=λb hb=>by
  unfold aJ.bl at hb⊢;rcases mem_append.1 hb with hb|hb
  ·exact gR _ hb
  exact gx _ (by simp only [ec];exact gx _ hb)
 have hgf:g∈(⟨bx,⟨.slice (some ⟨g,0,none⟩) l.length cap,E,1,l.length,ca l⟩::rw⟩:aJ).bl:=Hr;have hu:f7 (bj (⟨bx,⟨.slice (some ⟨g,0,none⟩) l.length cap,E,1,l.length,ca l⟩::rw⟩:aJ).bl w) (bj (⟨bx,rw⟩:aJ).bl (w.freeze ⟨g,0,none⟩ l.length)):=lb hkF (λx hx=>by simp at hx;subst hx;exact hgf) (λb hb=>.inl (hsub b hb));have hne:∀b,b∈(⟨bx,rw⟩:aJ).bl -> (w.freeze ⟨g,0,none⟩ l.length).heap[b]?=w.heap[b]?:=λb hb=>hkF.block b (hs.mem.lt b (hsub b hb)) (by simp;intro he;subst he;exact hg hb);have hsl:(⟨bx,rw⟩:aJ).bl.Sublist (⟨bx,⟨.slice (some ⟨g,0,none⟩) l.length cap,E,1,l.length,ca l⟩::rw⟩:aJ).bl:=Dw (xI _) (OY _ (List.Sublist.cons _ (xI _)));have hm1:Mem ⟨bx,rw⟩ (w.freeze ⟨g,0,none⟩ l.length):=by
  refine ⟨hsl.nodup hs.mem.nodup,λb hb=>mK (hs.mem.lt b (hsub b hb)) hkF.size,λx hx=>?_,λr hr=>?_⟩
  ·obtain ⟨us,aj,e2⟩:=hs.mem.box x hx;exact ⟨us,by rw [hne _ (gR _ (lP.2 ⟨x,hx,rfl⟩))];exact aj,e2.mono hu⟩
  obtain ⟨us,aj,e2⟩:=hs.mem.row r (eG _ hr);exact ⟨us,aj.keep λq hq=>hne q (gx _ (ky.2 ⟨r,hr,hq⟩)),e2.mono hu⟩
 unfold Oper.wp;have Fr:(execOp a.eval o).run P w=.ok (.value (.string (bytes l))) (w.freeze ⟨g,0,none⟩ l.length):=by
  simp only [execOp,ho,resolve,mI,dE,gH,hs.val hx,hs.val hy];simp [go_sem,invoke,builtin,Lib.run_unsafeString_row w pt it _ E hp hc g cap hsh l h0 hkc h63 hcell]
  rfl
 rw [Fr,Oper.upon_value,hd];exact hK _ _ _ h ((hs.step T (hkF.mono (by simp;exact hgf)) hm1 (λb hb=>.inl (hsub b hb))).put hn (cU.c _ _ (.val _ J))) ⟨hkF.mono (by simp;exact hgf),hkF.mono AE,λb hb=>.inl (hsub b hb),λb hb=>.inl hb⟩ (hkF.mono yd)
end
def Vx(p:aY)(B:List aV)(W:Nat)(rw:List aP)(hv:j0 p=true)(hs:p.bt)(hw:p.wt <= 9000000)(hb:(iG p).length <= 100000000000000):aU prog 92 [cM (aF W),.agg (dl p)] (W::aR (.slice none 0 0)) (dA [] W 0 none (.slice none 0 0) [] B rw) (λt s'=>t=.fd [] /\ ∃a' v',(fy W a' /\ qN (iG p) v') /\ s'=dA [] W 0 a' v' (iG p) B rw):=
 XS p [] B W 0 none (.slice none 0 0) [] rw (.inl rfl) (λ_=>rfl) rfl hv hs hw xh
def YJ(A B:List aV)(W m:Nat)(a:Option Addr)(rw:List aP):aU prog 93 [aF W] [] (dA A W m a (.slice none 0 0) [] B rw) λt s'=>t=cK (bytes []) /\ s'=⟨A++⟨W,181,[.val (.pointer a),aK,ap m]⟩::B,rw⟩:=by
 refine bR 14 func93 ?_;refine go 6 ?_;refine cB [W] (aa [0,1,2,3] 8 (go 5 ?_));refine ac 4 J (Ry J J) (aa [5,6,7,8,9] 2 (go 6 ?_));refine ac 10 J (Yk J J J) (aa [11] 0 (go 2 ?_));refine bH (go 2 ?_);exact ⟨.inr J,_,⟨A++⟨W,181,[.val (.pointer a),aK,ap m]⟩::B,rw⟩,bK J (bN J),ai (.refl _) bI,J,J⟩
def Q5(A B:List aV)(W m:Nat)(a:Option Addr)(bs:List UInt8)(rw:List aP)(g cap:Nat)(hc:cap≠0)(h0:bs≠[])(h63:bs.length <= 9223372036854775807):aU prog 93 [aF W] [g] (dA A W m a (.slice (some ⟨g,0,none⟩) bs.length cap) bs B rw) λt s'=>t=cK (bytes bs) /\ s'=⟨A++⟨W,181,[.val (.pointer a),.val (.slice (some ⟨g,0,none⟩) bs.length cap),ap m]⟩::B,rw⟩:=by
 refine bR 14 func93 ?_;refine go 6 ?_;refine cB [W] (aa [0,1,2,3] 8 (go 5 ?_));refine ac 4 J (Sa J J hc) (aa [5,6,7,8,9] 2 (go 6 ?_));refine aW 10 J J (Qk J J V J J underlying206 aQ h0 h63 iB (λhn=>gZ hn iB) ?_);refine aa [11] 0 (go 2 ?_);refine bH (go 2 ?_);exact ⟨.inr J,_,⟨A++⟨W,181,[.val (.pointer a),.val (.slice (some ⟨g,0,none⟩) bs.length cap),ap m]⟩::B,rw⟩,bK J (bN J),ai (.refl _) (.refl _),J,J⟩
def Vb(A B:List aV)(W m:Nat)(a:Option Addr)(v:aN)(bs:List UInt8)(rw:List aP)(hz:qN bs v)(hb:bs.length <= 9223372036854775807):aU prog 93 [aF W] (aR v) (dA A W m a v bs B rw) λt s'=>t=cK (bytes bs) /\ s'=⟨A++⟨W,181,[.val (.pointer a),.val v,ap m]⟩::B,rw⟩:=by
 intro vs w hm hT hl hr;obtain ⟨us,la,hrep⟩:=hm.row ⟨v,5,1,bs.length,ca bs⟩ aL;obtain ⟨hlen,hown⟩:=la.row Nat.zero_lt_one;dsimp only at hlen hown hrep;rcases hown with ⟨rfl,h0⟩|⟨g,cap,cur,rfl,-,hh,hkc,hcm,hcs,htk⟩
 ·obtain rfl:bs=[]:=kJ.1 h0;exact YJ A B W m a rw vs w hm hT hl hr
 by_cases h0:bs=[]
 ·have:=hz h0;cases this
 exact Q5 A B W m a bs rw g cap (by have:bs.length≠0:=(by simpa using h0);omega) h0 hb vs w hm hT hl hr
def Ro{p:aY}(h1:nG p=true)(h2:(p.funcs.any λf=>!ga f)=false):j0 p=true:=by
 rw [show j0 p=(nG p && p.funcs.all ga) from rfl,h1,p7 h2];rfl
def PC{p:aY}(h1:nG p=false):j0 p=false:=by rw [show j0 p=(nG p && p.funcs.all ga) from rfl,h1];rfl
def Oa{p:aY}(h2:(p.funcs.any λf=>!ga f)=true):j0 p=false:=by rw [show j0 p=(nG p && p.funcs.all ga) from rfl,zZ h2,rR]
abbrev yk(p:aY):List UInt8:=if j0 p=true then iG p else []
abbrev Gp(p:aY):AT:=.fd [cK (bytes (yk p)),bC (gw p)]
def Fz{p:aY}{x:aH}{b:Bool}(h1:bytes (yk p)=x)(h2:gw p=b):(AT.fd [cK x,bC b])=Gp p:=by unfold Gp;rw [h1,h2]
def SN(p:aY)(hs:p.bt)(hw:p.wt <= 9000000)(s:aJ):aU prog 68 [cM (.agg (dl p))] [] s λt s'=>t=Gp p /\ s'=s:=by
 obtain ⟨bx,rw⟩:=s;refine bR 36 func68 ?_;refine go 11 λb1=>?_;rcases bw (nG p) with h1|h1
 ·refine d8 0 J call88 J (N4 p hs Y _) h1 (go 4 ?_);rcases bw (p.funcs.any λf=>!ga f) with h2|h2
  ·refine d8 0 J call89 J (Jb (λf=>!ga f) p.funcs 90 #[] _ OA call90 OP) h2 (go 12 ?_);exact ⟨.inr J,_,⟨bx,rw⟩,iu J (bN J) (bN J),ai bI (.refl _),Fz (by unfold yk;rw [if_neg (by rw [Oa h2];decide)];rfl) (by rw [ua,Oa h2];rfl),J⟩
  refine d8 0 J call89 J (Jb (λf=>!ga f) p.funcs 90 #[] _ OA call90 OP) h2 (go 8 ?_);have hv:j0 p=true:=Ro h1 h2;refine go 7 λb2=>?_;refine vk 5 1 ?_;refine go 2 ?_;refine aX J (wy 0 J call92 J (Vx p _ b2 rw hv hs hw (by have:=DO hs hv;omega)) aL qe (λ_=>⟨aL,λb hb=>D6⟩) λa2 v2 hC2=>?_);refine go 7 ?_;refine aX J (bm (aR v2) J J V call93 J (Vb [] _ b2 0 a2 v2 (iG p) rw hC2.2 (by have:=DO hs hv;omega)) cm (λb hb=>by simp [aJ.bl,hb]) fu ?_);rintro _ _ ⟨rfl,rfl⟩;refine go 6 ?_;refine aX J (BB J J V J eE kj pi (by rw [zq];have:=DO hs hv;omega) (N:=(iG p).length) J (cs:=ca (iG p)) J ?_);refine aX J (Hk 0 [] J J V call94 J J (λm=>FE (iG p) m _) dJ dJ (λ_=>dJ) ?_);rintro _ _ ⟨(⟨tl5,aNa,rfl,htl5⟩|⟨p5,e5,aNa,rfl,he5⟩),rfl⟩;focus
   refine go 13 ?_;refine aI J jz (go 5 ?_)
  rotate_left;refine go 13 ?_;refine aG J (bO Y) (go 5 ?_);all_goals
   exact ⟨.inr J,_,⟨bx,rw⟩,iu J (bN J) (bN J),ai cq (.refl _),Fz (by unfold yk;rw [if_pos hv]) (by rw [ua,hv,aNa];rfl),J⟩
 refine d8 0 J call88 J (N4 p hs Y _) h1 (go 17 ?_);exact ⟨.inr J,_,⟨bx,rw⟩,iu J (bN J) (bN J),ai bI (.refl _),Fz (by unfold yk;rw [if_neg (by rw [PC h1];decide)];rfl) (by rw [ua,PC h1];rfl),J⟩
def LH(p:aY)(hs:p.bt)(hw:p.wt <= 9000000)(s:aJ):aU prog 31 [cM (.agg (dl p))] [] s λt s'=>t=bC (gw p) /\ s'=s:=by
 obtain ⟨bx,rw⟩:=s;refine bR 11 func31 ?_;refine go 9 λb1=>?_;refine j6 0 J call68 J (SN p hs hw _) (go 14 ?_);exact az (s':=⟨bx,rw⟩) J cT ⟨bZ J,J⟩
end
section
open Go.RowKit
mutual
def aE.cnt:aE -> Nat|.mk _ _ _ _ _ t e=>1+ej t+ej e
def ej:List aE -> Nat
 |[]=>0
 |s::r=>s.cnt+ej r
end
def og(l:List aE):Nat:=(l.map λs=>ej s.thn+ej s.els).sum
def WG(s:aE):s.cnt=1+ej s.thn+ej s.els:=by cases s;rw [aE.cnt];rfl
def xy:∀l:List aE,ej l=l.length+og l
 |[]=>by rw [ej];rfl
 |s::l=>by have:=xy l;rw [ej,WG];unfold og at this⊢;simp only [dE,p_,length_cons];omega
def Kn(l:List aE)(k:Nat)(h:k<l.length):og (l.take (k+1))=og (l.take k)+(ej l[k].thn+ej l[k].els):=by
 unfold og;rw [gz h,fL,List.sum_append];simp
def iOo:∀(l:List aE)(k:Nat),og (l.take k) <= og l
 |[],k=>aL
 |x::l,0=>by simp [og]
 |x::l,k+1=>by have:=iOo l k;unfold og at this⊢;simp only [jW,dE,p_];omega
mutual
def TG:∀s:aE,s.cnt <= s.wt
 |.mk k n e r a t el=>by
  have h1:=Bj t;have h2:=Bj el;rw [aE.cnt,aE.wt];omega
def Bj:∀l:List aE,ej l <= au l
 |[]=>by rw [ej];omega
 |s::l=>by
  have h1:=TG s;have h2:=Bj l;rw [ej,au];omega
end
def KL(l:List aE)(hl:ej l <= 1000000000)(hst:∀k (h:k<l.length) (s:aJ),aU prog 35 [.c (aB encS l[k].thn)] [] s (λt s'=>t=an ((ej l[k].thn:Nat):Int) /\ s'=s) /\ aU prog 35 [.c (aB encS l[k].els)] [] s (λt s'=>t=an ((ej l[k].els:Nat):Int) /\ s'=s))(s:aJ):aU prog 35 [.c (aB encS l)] [] s λt s'=>t=an (ej l:Int) /\ s'=s:=by
 obtain ⟨bx,rw⟩:=s;have hkid:=xy l;refine bR 29 func35 ?_;refine go 19 ?_;refine qk (l.length) 4 (λk=>[(3,an ((l.length+og (l.take k):Nat):Int)),(0,.c (aB encS l))]) (ay J (.refl _) (ay J (cD (by simp [og])) (ax J))) λk hk=>?_;show br prog _ ⟨29,_,_,(4,ae k)::[(3,an ((l.length+og (l.take k):Nat):Int)),(0,.c (aB encS l))]⟩ _;refine go 6 ?_;by_cases h1:(k:Int)<(l.length:Int)
 ·refine aI J (c_ h1) (go 7 ?_);refine cB [] ?_;have hkt:=Kn l k Y;have hkm:=iOo l (k+1);refine aa [0,1,2] 13 (go 4 ?_);refine ac 3 J (bf encS ci l l8 mQ k J J J J Y V jw d7) (aa [4,5,8,9] 8 (go 5 ?_));refine ac 10 J (bf encS ci l l8 mQ k J J J J Y V jw d7) (aa [11,12] 5 (go 3 ?_));refine aW 6 J J (da J J V call35 J ((hst k Y _).1) ?_);rintro _ _ ⟨rfl,rfl⟩;refine ac 7 J (uk J J J Y Y) ?_;refine aW 13 J J (da J J V call35 J ((hst k Y _).2) ?_);rintro _ _ ⟨rfl,rfl⟩;refine ac 14 J (uk J J J Y Y) (aa [15] 0 (go 2 ?_));refine bH (go 4 ?_);refine bP J (go 2 ?_);exact ⟨Y,(ay J (cD Y) (ay J (cD Y) (ax J)))⟩
 refine aG J (cv h1) (go 15 ?_);exact az (s':=⟨bx,rw⟩) J d4 ⟨fa (by rw [xy];have hkl:k=l.length:=Y;subst hkl;rw [hG]),J⟩
def GO:∀(N:Nat)(l:List aE),ej l <= N -> N <= 1000000000 -> ∀s:aJ,aU prog 35 [.c (aB encS l)] [] s λt s'=>t=an (ej l:Int) /\ s'=s
 |0,l,h,hN,s=>KL l Y (λk hk=>absurd (xy l) Y) s
 |N+1,l,h,hN,s=>KL l Y (λk hk s=>by
   have h1:=xy l;have h2:=Kn l k hk;have h3:=iOo l (k+1);exact ⟨GO N _ Y Y s,GO N _ Y Y s⟩) s
end
section
mutual
def yq:aE -> Nat
 |.mk k _ _ _ _ t f=>1+(if k=8∨0<f.length then 1 else 0)+(kb t+kb f)
def kb:List aE -> Nat
 |[]=>0
 |s::l=>yq s+kb l
end
structure jt (x y:ak) (m c:Nat):Prop where
 code:y.code.length=x.code.length+c
 n:y.n=x.n+m
 loc:x.locals <= y.locals
 sites:∃t:List Int,y.sites=x.sites++t /\ (∀a,a∈t -> (x.n:Int) <= a /\ a<(y.n:Int)) /\ ∀k:Nat,x.n <= k -> k<y.n -> (k:Int)∈t
 sl:x.sites.length=x.code.length -> y.sites.length=y.code.length
 jmp:(∀i,i∈x.code -> (i.op=6∨i.op=7) -> i.target <= x.code.length) -> ∀i,i∈y.code -> (i.op=6∨i.op=7) -> i.target <= y.code.length
def jt.refl(x:ak):jt x x 0 0:=⟨rfl,rfl,bX _,⟨[],(eV _).symm,(λa h=>iH),(λk h1 h2=>Y)⟩,λh=>h,λh=>h⟩
def jt.trans{x y z:ak}{m c m' c':Nat}(h:jt x y m c)(h':jt y z m' c'):jt x z (m+m') (c+c'):=by
 obtain ⟨t,e,b,v⟩:=h.sites;obtain ⟨t',e',b',v'⟩:=h'.sites;have h1:=h.n;have h2:=h'.n;refine ⟨by rw [h'.code,h.code];omega,Y,iS h.loc h'.loc,⟨t++t',by rw [e',e,append_assoc],λa ha=>?_,λk hk hk'=>?_⟩,λhl=>h'.sl (h.sl hl),λhj=>h'.jmp (h.jmp hj)⟩
 ·rcases mem_append.1 ha with ha|ha
  ·have:=b a ha;omega
  have:=b' a ha;omega
 by_cases hy:k<y.n
 ·exact gR _ (v k hk hy)
 exact gx _ (v' k Y hk')
def jt.put{x y:ak}{m c:Nat}(h:jt x y m c)(i:kR)(s:Nat)(h1:x.n <= s)(h2:s<y.n)(hi:(i.op=6∨i.op=7) -> i.target <= y.code.length+1):jt x (y.put i s) m (c+1):=by
 obtain ⟨t,e,b,v⟩:=h.sites;have hc:=h.code;refine ⟨yU,h.n,h.loc,⟨t++[(s:Int)],by show y.sites++[(s:Int)]=_;rw [e,append_assoc],λa ha=>?_,λk hk hk'=>gR _ (v k hk hk')⟩,λhl=>(by show (y.sites++[(s:Int)]).length=(y.code++[i]).length;rw [length_append,length_append,h.sl hl];rfl),λhj j hm ho=>?_⟩
 ·rcases mem_append.1 ha with ha|ha
  ·exact b a ha
  obtain rfl:=jK.1 ha;exact ⟨Y,by show (s:Int)<(y.n:Int);omega⟩
 rw [mE];rcases mem_append.1 (show j∈y.code++[i] from hm) with hm|hm
 ·have:=h.jmp hj j hm ho;omega
 obtain rfl:=jK.1 hm;exact hi ho
def Ng{α:Type}{f:α -> α}:∀{l:List α} {b:Nat} {i:α},i∈l.modify b f -> i∈l∨∃j,j∈l /\ i=f j
 |[],_,_,h=>by rw [List.modify_nil] at h;cases h
 |a::l,0,i,h=>by
  rw [List.modify_zero_cons] at h;rcases mem_cons.1 h with rfl|h
  ·exact .inr ⟨a,me,J⟩
  ·exact .inl (eG _ h)
 |a::l,b+1,i,h=>by
  rw [List.modify_succ_cons] at h;rcases mem_cons.1 h with rfl|h
  ·exact .inl me
  rcases Ng h with h|⟨j,h,e⟩
  ·exact .inl (eG _ h)
  exact .inr ⟨j,eG _ h,e⟩
def jt.patch{x y:ak}{m c:Nat}(h:jt x y m c)(b:Nat):jt x (y.patch b) m c:=by
 refine ⟨by rw [kZ];exact h.code,h.n,h.loc,h.sites,λhl=>(by rw [kZ];exact h.sl hl),λhj i hm ho=>?_⟩;rw [kZ];rcases Ng (show i∈y.code.modify b (λi=>i.to y.code.length) from hm) with hm|⟨j,hm,rfl⟩
 ·exact h.jmp hj i hm ho
 exact bX _
def jt.back{x y:ak}{m c:Nat}(h:jt x y m c)(w:ak):jt x (w.back y) m c:=⟨h.code,h.n,h.loc,h.sites,h.sl,h.jmp⟩
def jt.one{x:ak}(y:ak){i:kR}(hc:y.code=x.code++[i])(hn:y.n=x.n+1)(hl:x.locals <= y.locals)(hs:y.sites=x.sites++[(x.n:Int)])(hi:(i.op=6∨i.op=7) -> i.target=0):jt x y 1 1:=by
 refine ⟨by rw [hc,length_append];rfl,hn,hl,⟨[(x.n:Int)],hs,λa ha=>?_,λk h1 h2=>?_⟩,λhl=>(by rw [hs,hc,length_append,length_append,hl];rfl),λhj j hm ho=>?_⟩
 ·obtain rfl:=jK.1 ha;rw [hn];omega
 ·obtain rfl:k=x.n:=Y;exact jK.2 J
 rw [hc] at hm⊢;rw [length_append];rcases mem_append.1 hm with hm|hm
 ·have:=hj j hm ho;omega
 obtain rfl:=jK.1 hm;rw [hi ho];omega
def Tj(p:aY)(l:List bS)(s:aE):(gJ p l s).op=if s.kind=4 then 3 else 2:=by
 unfold gJ nx;split
 ·rfl
 split
 ·split<;>rfl
 rfl
def XM(p:aY)(s:aE)(x:ak):jt x (ii p s x) 1 1:=by
 have no:∀{k:Int} {t:Nat},¬(k=6∨k=7) -> (k=6∨k=7) -> t=0:=λh h'=>absurd h' h;unfold ii;split
 ·exact .one _ J J (Nat.le_succ _) J (no QA)
 split
 ·exact .one _ J J (bX _) J (no QA)
 split
 ·exact .one _ J J (bX _) J (no (by rw [Tj];split<;>decide))
 split
 ·exact .one _ J J (bX _) J (no (by show ¬((4:Int)=6∨(4:Int)=7);decide))
 split
 ·exact .one _ J J (bX _) J (no (by show ¬((5:Int)=6∨(5:Int)=7);decide))
 exact .one _ J J (bX _) J (no (by show ¬((8:Int)=6∨(8:Int)=7);decide))
def Vv(x:ak)(e:aS):jt x (x.branch e) 1 1:=.one _ rfl rfl (bX _) rfl (λ_=>rfl)
mutual
def WJ(p:aY):∀(s:aE)(x:ak),ux s -> jt x (cw p s x) s.cnt (yq s)
 |.mk k name e r args t f,x,h=>by
  rw [ux] at h;obtain ⟨-,-,h7,h8,ht,hf⟩:=h;have b:=Vv x e;have g1:=b.trans (DY p t (x.branch e) ht);have hn:=g1.n;rw [cw,yq,aE.cnt];split
  ·rename_i hk;split
   ·rename_i hl;obtain rfl:f=[]:=kJ.1 hl;rw [if_neg dh,kb,ej];exact (g1.back x).patch _
   rename_i hl;rw [if_pos (.inr Y)];have g2:=((g1.back (x.branch e)).put (bh 7 .zero) x.n (bX _) Ni (λ_=>eT _)).patch x.code.length;have g3:=(g2.trans (DY p f _ hf)).back x|>.patch (cR p t (x.branch e)).code.length
   have aj:1+ej t+ej f=(1+ej t)+ej f:=Y;have e2:1+1+(kb t+kb f)=1+kb t+1+kb f:=Y;rw [e2];exact g3
  rename_i hk;obtain rfl:f=[]:=h8 hk;split
  ·rename_i hk8;rw [if_pos (.inl hk8),kb,ej];have hc:=g1.code;have g2:=((g1.back (x.branch e)).put ⟨7,x.code.length,false,.zero,dK,[],[]⟩ x.n (bX _) Ni (λ_=>by show x.code.length <= (cR p t (x.branch e)).code.length+1;omega)).patch x.code.length;have e2:1+1+(kb t+0)=1+kb t+1:=Y;rw [e2];exact g2
  rename_i hk8;obtain rfl:t=[]:=h7 hk hk8;rw [if_neg dh,kb,ej];exact XM p _ x
def DY(p:aY):∀(l:List aE)(x:ak),mf l -> jt x (cR p l x) (ej l) (kb l)
 |[],x,_=>by rw [cR,ej,kb];exact jt.refl x
 |s::l,x,h=>by
  rw [mf] at h;rw [cR,ej,kb];exact (WJ p s x h.1).trans (DY p l _ h.2)
end
def H6:∀(l:List bg) (a:List bS) (i m:Nat) {r:List bS×Nat×Nat},iA l a i m=some r -> r.2.1+r.2.2=i+m+l.length
 |[],a,i,m,r,h=>by rw [iA] at h;cases h;rfl
 |x::l,a,i,m,r,h=>by
  rw [iA] at h;split at h
  ·cases h
  split at h
  ·have:=H6 l _ _ _ h;rw [length_cons];omega
  have:=H6 l _ _ _ h;rw [length_cons];omega
structure SQ (p:aY) (f:bB):Prop where
 name:(ff p f).name=f.name
 pars:(ff p f).ints+(ff p f).aH5=f.params.length
 loc:(ff p f).ints <= (ff p f).locals
 code:(ff p f).code.length=kb f.body+1
 sites:(l_ p f).length=(ff p f).code.length
 last:∃c s,(ff p f).code=c++[bh 8 .zero] /\ l_ p f=s++[(ej f.body:Int)]
 jmp:∀i,i∈(ff p f).code -> (i.op=6∨i.op=7) -> i.target<(ff p f).code.length
 low:∀a,a∈l_ p f -> 0 <= a /\ a <= (ej f.body:Int)
 all:∀k:Nat,k <= ej f.body -> (k:Int)∈l_ p f
def U'{p:aY}{f:bB}(hs:mf f.body){r:List bS×Nat×Nat}(h:iA f.params (bd p) 0 0=some r):SQ p f:=by
 obtain ⟨l,i,m⟩:=r;have g:=(DY p f.body (ak.init l i) hs).back (ak.init l i);have hT:ff p f=⟨f.name,i,m,(oL p f l i).locals,(oL p f l i).code⟩:=by unfold ff;rw [h]
 have hS:l_ p f=(oL p f l i).sites:=by unfold l_;rw [h]
 have hn:(aM p f.body (ak.init l i)).n=ej f.body:=by have:=g.n;rw [show (ak.init l i).n=0 from rfl,cp] at this;exact this
 have hc:(oL p f l i).code=(aM p f.body (ak.init l i)).code++[bh 8 .zero]:=J;have hc2:(oL p f l i).sites=(aM p f.body (ak.init l i)).sites++[(ej f.body:Int)]:=by rw [←hn];rfl
 have hl:(aM p f.body (ak.init l i)).code.length=kb f.body:=by have:=g.code;rw [show (ak.init l i).code.length=0 from rfl,cp] at this;exact this
 obtain ⟨t,e,b,v⟩:=g.sites;rw [show (ak.init l i).sites=[] from rfl,cg] at e;change (aM p f.body (ak.init l i)).sites=t at e;have hn':((ak.init l i).back (cR p f.body (ak.init l i))).n=ej f.body:=hn;have h0:(ak.init l i).n=0:=J;rw [hn',h0] at b v;have hw:(aM p f.body (ak.init l i)).sites.length=(aM p f.body (ak.init l i)).code.length:=g.sl J;refine ⟨by rw [hT],by rw [hT];have:=H6 _ _ _ _ h;dsimp only at this⊢;omega,by rw [hT];exact g.loc,by rw [hT];show (oL p f l i).code.length=_;rw [hc,length_append,hl];rfl,
  by rw [hT,hS];show _=(oL p f l i).code.length;rw [hc,hc2,length_append,length_append,hw];rfl,⟨_,_,by rw [hT];exact hc,by rw [hS];exact hc2⟩,λj hj ho=>?_,λa ha=>?_,λk hk=>?_⟩
 ·rw [hT] at hj⊢;show j.target<(oL p f l i).code.length;rw [hc,length_append];rcases mem_append.1 (show j∈(aM p f.body (ak.init l i)).code++[bh 8 .zero] from hj) with hj|hj
  ·have:=g.jmp (λi hi=>by cases hi) j hj ho;exact Nat.lt_succ_of_le this
  obtain rfl:=jK.1 hj;rcases ho with ho|ho<;>exact absurd ho (by show ¬((8:Int)=_);decide)
 ·rw [hS,hc2,e] at ha;rcases mem_append.1 ha with ha|ha
  ·have:=b a ha;omega
  obtain rfl:=jK.1 ha;omega
 rw [hS,hc2,e];by_cases hk':k=ej f.body
 ·subst hk';exact gx _ (jK.2 rfl)
 exact gR _ (v k (eT _) Y)
def JF{p:aY}:∀(l:List bB)(k:Nat),lS p l k=(0,0,0) -> ∀f,f∈l -> (kC p f).1=0
 |[],_,_,f,hf=>by cases hf
 |a::l,k,h,f,hf=>by
  rw [lS] at h;split at h
  ·rename_i h0;rcases mem_cons.1 hf with rfl|hf
   ·exact h0
   exact JF l (k+1) h f hf
  rename_i h0;exact absurd (congrArg (λx=>x.2.2) h) h0
def NA{p:aY}(h:gY p=(0,0,0)):gw p=true /\ jg [] (bd p)=none /\ np p=true /\ ∀f,f∈p.funcs -> (kC p f).1=0:=by
 unfold gY at h;split at h
 ·exact absurd (congrArg (λx=>x.2.2) h) (by show ¬(10:Nat)=0;decide)
 rename_i hv;split at h
 ·exact absurd (congrArg (λx=>x.2.2) h) (by show ¬(5:Nat)=0;decide)
 rename_i hb;split at h
 ·rename_i hm;exact ⟨by simpa using hv,hb,hm,JF _ _ h⟩
 exact absurd (congrArg (λx=>x.2.2) h) (by show ¬(9:Nat)=0;decide)
end
section
def PG:∀(ow:List aH)(v:bq),dW v -> dW (ow.foldl eW v) /\ (∀s,s∈ow -> bz (ow.foldl eW v) s=0) /\ ∀s,s∉ow -> bz (ow.foldl eW v) s=bz v s
 |[],v,h=>⟨h,λs hs=>absurd hs not_mem_nil,λs _=>rfl⟩
 |k::ow,v,h=>by
  obtain ⟨h1,h2,h3⟩:=PG ow (eW v k) (h.del k);refine ⟨h1,λs hs=>?_,λs hs=>?_⟩
  ·rw [t2];by_cases hm:s∈ow
   ·exact h2 s hm
   rw [h3 s hm,xE h];rcases mem_cons.1 hs with rfl|hs
   ·rw [if_pos rfl]
   exact absurd hs hm
  simp only [mem_cons,not_or] at hs;rw [t2,h3 s hs.2,xE h,if_neg (λe=>hs.1 e.symm)]
def AR{fs:dT}{r:Nat×List aH×eF}{v:bq}(h0:r.1=0)(hk:dW r.2.2.ch)(h1:∀q,q∈r.2.1 -> bz v q=0)(h2:∀q,q∉r.2.1 -> bz r.2.2.ch q=bz v q):dW (ia r).2.ch /\ ∀q,bz (ia r).2.ch q=bz v q:=by
 obtain ⟨gD,gt,pw⟩:=PG r.2.1 r.2.2.ch hk;unfold ia;rw [if_pos h0];refine ⟨gD,λq=>?_⟩;by_cases hm:q∈r.2.1
 ·rw [h1 q hm];exact gt q hm
 rw [←h2 q hm];exact pw q hm
def ud(r:Nat×List aH×eF):(ia r).1=r.1:=by unfold ia;split<;>simp_all
def QR(r:Nat×List aH×eF):(ia r).2.at_=r.2.2.at_:=by unfold ia;split<;>rfl
mutual
def Xj(fs:dT):∀(s:aE)(x:eF),dW x.ch -> (gW fs s x).1=0 -> dW (gW fs s x).2.ch /\ (∀q,(s.kind=1 -> s.name≠q) -> bz (gW fs s x).2.ch q=bz x.ch q) /\ (s.kind=1 -> bz x.ch s.name=0)
 |.mk k name e r args t f,x,hk,h=>by
  have hb:dW (iy (.mk k name e r args t f) x).ch /\ ∀q,(k=1 -> name≠q) -> bz (iy (.mk k name e r args t f) x).ch q=bz x.ch q:=by
   show dW (if k=1 then dB x.ch name 1 else x.ch) /\ ∀q,_ -> bz (if k=1 then dB x.ch name 1 else x.ch) q=_;by_cases h1:k=1
   ·rw [if_pos h1];exact ⟨hk.put _ _,λq hq=>by rw [tz,if_neg (hq h1)]⟩
   rw [if_neg h1];exact ⟨hk,λq _=>rfl⟩
  rw [gW] at h⊢;by_cases hp:kq x.ch fs (.mk k name e r args t f)=0
  ·rw [if_pos hp] at h⊢;by_cases ht:(ia (eI fs t [] (iy (.mk k name e r args t f) x))).1=0
   ·rw [if_pos ht] at h⊢;obtain ⟨a1,a2,a3⟩:=zx fs t [] _ hb.1 (by rw [←ud];exact ht);obtain ⟨b1,b2⟩:=AR (fs:=fs) (by rw [←ud];exact ht) a1 (λq hq=>(a2 q hq).resolve_left not_mem_nil) a3;obtain ⟨c1,c2,c3⟩:=zx fs f [] _ b1 (by rw [←ud];exact h);obtain ⟨gD,gt⟩:=AR (fs:=fs) (by rw [←ud];exact h) c1 (λq hq=>(c2 q hq).resolve_left not_mem_nil) c3;refine ⟨gD,λq hq=>by rw [gt,b2];exact hb.2 q hq,λh1=>?_⟩;have h1:k=1:=h1;have hp:(if k=1 then (if bz x.ch name=0 then _ else 5) else _)=0:=hp;rw [if_pos h1] at hp;split at hp
    ·rename_i h9;exact h9
    cases hp
   rw [if_neg ht] at h;exact absurd h ht
  rw [if_neg hp] at h;exact absurd h hp
def zx(fs:dT):∀(l:List aE)(own:List aH)(x:eF),dW x.ch -> (eI fs l own x).1=0 -> dW (eI fs l own x).2.2.ch /\ (∀q,q∈(eI fs l own x).2.1 -> q∈own∨bz x.ch q=0) /\ (∀q,q∉(eI fs l own x).2.1 -> bz (eI fs l own x).2.2.ch q=bz x.ch q)
 |[],own,x,hk,_=>by rw [eI];exact ⟨hk,λq hq=>.inl hq,λq _=>rfl⟩
 |s::l,own,x,hk,h=>by
  rw [eI] at h⊢;by_cases h0:(gW fs s x).1=0
  ·rw [if_pos h0] at h⊢;obtain ⟨a1,a2,a3⟩:=Xj fs s x hk h0;obtain ⟨b1,b2,b3⟩:=zx fs l (qZ s own) _ a1 h;have hsub:=OD fs l (qZ s own) (gW fs s x).2;refine ⟨b1,λq hq=>?_,λq hq=>?_⟩
   ·by_cases hn:s.kind=1 /\ s.name=q
    ·obtain ⟨hn1,rfl⟩:=hn;exact .inr (a3 hn1)
    have hn':s.kind=1 -> s.name≠q:=λh1 h2=>hn ⟨h1,h2⟩;rcases b2 q hq with h9|h9
    ·unfold qZ at h9;split at h9
     ·rename_i h1;rcases mem_append.1 h9 with h9|h9
      ·exact .inl h9
      exact absurd (jK.1 h9).symm (hn' h1)
     exact .inl h9
    rw [a2 q hn'] at h9;exact .inr h9
   rw [b3 q hq];refine a2 q λh1 h2=>hq (hsub q ?_);unfold qZ;rw [if_pos h1,←h2];simp
  rw [if_neg h0] at h;exact absurd h h0
def OD(fs:dT):∀(l:List aE)(own:List aH)(x:eF),∀q,q∈own -> q∈(eI fs l own x).2.1
 |[],own,x,q,hq=>by rw [eI];exact hq
 |s::l,own,x,q,hq=>by
  rw [eI];split
  ·exact OD fs l _ _ q (by unfold qZ;split<;>simp [hq])
  exact hq
end
def lU.same{p:aY}{fs:dT}{v v':bq}{l:List bS}(h:lU p fs v l)(hk:dW v')(hv:∀q,bz v' q=bz v q):lU p fs v' l:=⟨hk,λs=>by rw [hv];exact h.get s,h.fn⟩
def lU.put{p:aY}{fs:dT}{v:bq}{l:List bS}(h:lU p fs v l){s:aH}(h0:bz v s=0){x:bS}(hx:x.name=s){a:Int}(ha:gB p x=a)(h3:x.kind≠3):lU p fs (dB v s a) (l++[x]):=by
 have hn:bM l s=none:=by
  have h1:=h.get s;rw [h0] at h1;rcases hf:bM l s with _|y
  ·rfl
  rw [hf] at h1;exact absurd h1.symm (uN p y)
 refine ⟨h.kn.put _ _,λq=>?_,λq y hf hy=>?_⟩
 ·rw [tz,mu];by_cases hq:s=q
  ·subst hq;rw [if_pos rfl,hn];dsimp only;rw [if_pos hx];exact ha.symm
  rw [if_neg hq,h.get q];rcases bM l q with _|y
  ·dsimp only;rw [if_neg (by rw [hx];exact hq)]
  rfl
 rw [mu] at hf;split at hf
 ·rename_i hf2;cases hf;exact h.fn q _ hf2 hy
 split at hf
 ·cases hf;exact absurd hy h3
 cases hf
structure pB (p:aY) (fs:dT) (x:eF) (y:ak):Prop where
 rel:lU p fs x.ch y.aq
 n:x.n=y.n
 q:y.q.1=0
def Step(p:aY)(fs:dT)(e:Nat)(x':eF)(y':ak):Prop:=(e=0 -> pB p fs x' y') /\ (e≠0 -> y'.q=(e,x'.at_))
end
section
section
variable {p:aY}{fs:dT}
theorem pB.mod{x:eF}{y y':ak}(h:pB p fs x y)(h1:y'.aq=y.aq)(h2:y'.n=y.n)(h3:y'.q=y.q):pB p fs x y':=⟨by rw [h1];exact h.rel,by rw [h2];exact h.n,by rw [h3];exact h.q⟩
theorem Step.mod{e:Nat}{x:eF}{y y':ak}(h:Step p fs e x y)(h1:y'.aq=y.aq)(h2:y'.n=y.n)(h3:y'.q=y.q):Step p fs e x y':=⟨λh0=>(h.1 h0).mod h1 h2 h3,λh0=>by rw [h3];exact h.2 h0⟩
theorem FX{l:List aE}{x:eF}{y:ak}(hS:Step p fs (eI fs l [] x).1 (eI fs l [] x).2.2 (cR p l y))(he:pB p fs x y):Step p fs (ia (eI fs l [] x)).1 (ia (eI fs l [] x)).2 (aM p l y):=by
 refine ⟨λh0=>?_,λh0=>?_⟩
 ·rw [ud] at h0;have h1:=hS.1 h0;obtain ⟨a1,a2,a3⟩:=zx fs l [] x he.rel.kn h0;obtain ⟨b1,b2⟩:=AR (fs:=fs) h0 a1 (λq hq=>(a2 q hq).resolve_left not_mem_nil) a3;exact ⟨he.rel.same b1 b2,by rw [zQ];exact h1.n,h1.q⟩
 rw [ud] at h0⊢;rw [QR];exact hS.2 h0
theorem C3(x:eF):ia (eI fs [] [] x)=(0,x):=by rw [eI];rfl
theorem Xp{s:aE}{x:eF}{y:ak}(he:pB p fs x y)(h1:s.kind≠1)(e:aS)(hq:cW y.aq e=0):pB p fs (iy s x) (y.branch e):=by
 have hv:(iy s x).ch=x.ch:=by show (if s.kind=1 then _ else x.ch)=_;rw [if_neg h1]
 refine ⟨by rw [hv];exact he.rel,by show x.n+1=y.n+1;rw [he.n],?_⟩;show (cX y.q (cW y.aq e) y.n).1=0;rw [hq,o8];exact he.q
mutual
theorem Qw:∀(s:aE)(x:eF)(y:ak),ux s -> pB p fs x y -> Step p fs (gW fs s x).1 (gW fs s x).2 (cw p s y)
 |.mk k name e r args t f,x,y,hsh,he=>by
  rw [ux] at hsh;obtain ⟨h5,ha,ht,hf,hst,DQ⟩:=hsh;have hp:kq x.ch fs (.mk k name e r args t f)=ug p y.aq (.mk k name e r args t f):=SU he.rel _ h5 ha;have hbq:∀be,cW y.aq e=be -> (y.branch e).q=cX y.q be y.n:=λe0 h=>by show cX y.q (cW y.aq e) y.n=_;rw [h]
  rw [gW];by_cases h0:kq x.ch fs (.mk k name e r args t f)=0
  ·rw [if_pos h0];rw [hp] at h0;by_cases h78:k=7∨k=8
   ·have hex:cW y.aq e=0:=by
     have h9:(if k=1 then _ else if k=2 then _ else if k=5∨k=6 then _ else if k=3∨k=4 then _ else if k=7∨k=8 then cW y.aq e else 0)=0:=h0;rw [if_neg Y,if_neg Y,if_neg Y,if_neg Y,if_pos h78] at h9;exact h9
    have hbe:pB p fs (iy (.mk k name e r args t f) x) (y.branch e):=Xp he (by show k≠1;omega) e hex;have HT:=FX (A2 t [] _ _ hst hbe) hbe;rw [cw];by_cases hT:(ia (eI fs t [] (iy (.mk k name e r args t f) x))).1=0
    ·rw [if_pos hT];have hE1:=HT.1 hT;by_cases h7:k=7
     ·rw [if_pos h7];by_cases hfl:f.length=0
      ·obtain rfl:=kJ.1 hfl;rw [if_pos hfl,C3];exact ⟨λ_=>hE1.mod J J J,λh=>absurd J h⟩
      rw [if_neg hfl];have hE2:pB p fs (ia (eI fs t [] (iy (.mk k name e r args t f) x))).2 ((((y.branch e).back (cR p t (y.branch e))).put (bh 7 .zero) y.n).patch y.code.length):=hE1.mod J J J;have HF:=FX (A2 f [] _ _ DQ hE2) hE2;exact HF.mod J J J
     rw [if_neg h7,if_pos (Y:k=8)];obtain rfl:=hf h7;rw [C3];exact ⟨λ_=>hE1.mod J J J,λh=>absurd J h⟩
    rw [if_neg hT];have hq:=HT.2 hT;refine ⟨λh=>absurd h hT,λ_=>?_⟩;have hne:(aM p t (y.branch e)).q.1≠0:=by rw [hq];exact hT
    by_cases h7:k=7
    ·rw [if_pos h7];by_cases hfl:f.length=0
     ·rw [if_pos hfl];exact hq
     rw [if_neg hfl];show (cR p f _).q=_;rw [vJ p f _ (by show (cR p t (y.branch e)).q.1≠0;exact hne)];exact hq
    rw [if_neg h7,if_pos (Y:k=8)];exact hq
   ·have h7:k≠7:=λh=>h78 (.inl h);have h8:k≠8:=λh=>h78 (.inr h);obtain rfl:=ht h7 h8;obtain rfl:=hf h7;rw [C3];dsimp only;rw [if_pos rfl,C3,cw,if_neg h7,if_neg h8];obtain ⟨s1,s2,s3⟩:=E5 p (.mk k name e r args [] []) y h7 h8;refine ⟨λ_=>⟨?_,by rw [s2];show x.n+1=_;rw [he.n],by rw [s1,h0,o8];exact he.q⟩,λh=>absurd J h⟩;rw [s3];show lU p fs (if k=1 then dB x.ch name 1 else x.ch) (if k=1 then y.aq++[⟨name,4,y.locals⟩] else y.aq);by_cases h1:k=1
    ·rw [if_pos h1,if_pos h1];have h9:(if k=1 then dP (fV y.aq name) (cW y.aq e) else _)=0:=h0;rw [if_pos h1] at h9;have hd:fV y.aq name=0:=by unfold dP at h9;split at h9<;>assumption
     have hn:bM y.aq name=none:=by
      unfold fV at hd;rcases hfd:bM y.aq name with _|z
      ·rfl
      rw [hfd] at hd;cases hd
     exact he.rel.put (s:=name) (x:=⟨name,4,y.locals⟩) (a:=1) (by rw [he.rel.get,hn];rfl) J (by unfold gB;rw [if_pos (.inr rfl)]) ze
    rw [if_neg h1,if_neg h1];exact he.rel
  rw [if_neg h0];refine ⟨λh=>absurd h h0,λ_=>?_⟩;rw [hp] at h0⊢;show (cw p _ y).q=(ug p y.aq _,(x.n:Int));rw [he.n];by_cases h78:k=7∨k=8
  ·have hpe:ug p y.aq (.mk k name e r args t f)=cW y.aq e:=by
    show (if k=1 then _ else if k=2 then _ else if k=5∨k=6 then _ else if k=3∨k=4 then _ else if k=7∨k=8 then cW y.aq e else 0)=_;rw [if_neg Y,if_neg Y,if_neg Y,if_neg Y,if_pos h78]
   rw [hpe] at h0⊢;have hb:(y.branch e).q=(cW y.aq e,(y.n:Int)):=PX he.q h0 _;have hne:(y.branch e).q.1≠0:=by rw [hb];exact h0
   have hq:(cR p t (y.branch e)).q=(cW y.aq e,(y.n:Int)):=by rw [vJ p t _ hne,hb]
   rw [cw];by_cases h7:k=7
   ·rw [if_pos h7];by_cases hfl:f.length=0
    ·rw [if_pos hfl];exact hq
    rw [if_neg hfl];show (cR p f _).q=_;rw [vJ p f _ (by show (cR p t (y.branch e)).q.1≠0;rw [hq];exact h0)];exact hq
   rw [if_neg h7,if_pos (Y:k=8)];exact hq
  ·have h7:k≠7:=λh=>h78 (.inl h);have h8:k≠8:=λh=>h78 (.inr h);rw [cw,if_neg h7,if_neg h8,(E5 p (.mk k name e r args t f) y h7 h8).1];exact PX he.q h0 _
theorem A2:∀(l:List aE)(own:List aH)(x:eF)(y:ak),mf l -> pB p fs x y -> Step p fs (eI fs l own x).1 (eI fs l own x).2.2 (cR p l y)
 |[],own,x,y,_,he=>by rw [eI,cR];exact ⟨λ_=>he,λh=>absurd rfl h⟩
 |s::l,own,x,y,hsh,he=>by
  rw [mf] at hsh;have h1:=Qw s x y hsh.1 he;rw [eI,cR];by_cases h0:(gW fs s x).1=0
  ·rw [if_pos h0];exact A2 l _ _ _ hsh.2 (h1.1 h0)
  rw [if_neg h0];refine ⟨λh=>absurd h h0,λ_=>?_⟩;have hq:=h1.2 h0;rw [vJ p l _ (by rw [hq];exact h0)];exact hq
end
end
end
section
section
variable {p:aY}{fs:dT}
theorem GJ:∀(ps:List bg)(v:bq)(l:List bS)(i m:Nat),lU p fs v l -> (iA ps l i m=none -> (gU ps v).1=false) /\ ∀l' i' m',iA ps l i m=some (l',i',m') -> (gU ps v).1=true /\ lU p fs (gU ps v).2 l'
 |[],v,l,i,m,h=>by
  rw [iA,gU];exact ⟨λh=>iH,λl' i' m' e=>by cases e;exact ⟨rfl,h⟩⟩
 |x::r,v,l,i,m,h=>by
  rw [iA,gU,h.get x.name];rcases hf:bM l x.name with _|y
  ·have hz:bz v x.name=0:=by rw [h.get,hf];rfl
   rw [if_neg V,if_pos (show tE p none=0 from rfl)];by_cases hm:x.mutex=true
   ·rw [if_pos hm];have hs:qJ x=4:=if_pos hm;rw [hs];exact GJ r _ _ i (m+1) (h.put (s:=x.name) (x:=⟨x.name,5,m⟩) (a:=4) hz J (by unfold gB;rfl) Gu)
   rw [if_neg hm];have hs:qJ x=1:=if_neg hm;rw [hs];exact GJ r _ _ (i+1) m (h.put (s:=x.name) (x:=⟨x.name,4,i⟩) (a:=1) hz J (by unfold gB;rfl) ze)
  rw [if_pos jo,if_neg (show ¬tE p (some y)=0 from uN p y)];exact ⟨λ_=>J,λl' i' m' e=>by cases e⟩
theorem P4:∀(ps:List bg)(v:bq),dW v -> (gU ps v).1=true -> dW (gU ps v).2 /\ (∀x,x∈ps -> bz v x.name=0) /\ ∀q,(∀x,x∈ps -> x.name≠q) -> bz (gU ps v).2 q=bz v q
 |[],v,hk,_=>⟨hk,λx hx=>absurd hx not_mem_nil,λq _=>rfl⟩
 |x::r,v,hk,h=>by
  rw [gU] at h⊢;by_cases h0:bz v x.name=0
  ·rw [if_pos h0] at h⊢;obtain ⟨a1,a2,a3⟩:=P4 r _ (hk.put _ _) h;refine ⟨a1,λy hy=>?_,λq hq=>?_⟩
   ·rcases mem_cons.1 hy with rfl|hy
    ·exact h0
    have h9:=a2 y hy;rw [tz] at h9;split at h9
    ·unfold qJ at h9;split at h9<;>cases h9
    exact h9
   rw [a3 q λy hy=>hq y (eG _ hy),tz,if_neg (hq x me)]
  rw [if_neg h0] at h;cases h
theorem MX:∀(ps:List bg)(v:bq),dW v -> dW (nZ ps v) /\ (∀x,x∈ps -> bz (nZ ps v) x.name=0) /\ ∀q,(∀x,x∈ps -> x.name≠q) -> bz (nZ ps v) q=bz v q
 |[],v,h=>⟨h,λx hx=>absurd hx not_mem_nil,λs _=>rfl⟩
 |y::ps,v,h=>by
  obtain ⟨h1,h2,h3⟩:=MX ps (eW v y.name) (h.del y.name);have e:nZ (y::ps) v=nZ ps (eW v y.name):=J;refine ⟨h1,λx hx=>?_,λq hq=>?_⟩
  ·rw [e];by_cases hm:∃z,z∈ps /\ z.name=x.name
   ·obtain ⟨z,hz,hn⟩:=hm;rw [←hn];exact h2 z hz
   rw [h3 _ (λz hz hn=>hm ⟨z,hz,hn⟩),xE h];rcases mem_cons.1 hx with rfl|hx
   ·rw [if_pos rfl]
   exact absurd ⟨x,hx,J⟩ hm
  rw [e,h3 q λz hz=>hq z (eG _ hz),xE h,if_neg (hq y me)]
theorem W3{f:bB}{v:bq}(h:lU p fs v (bd p))(hsh:mf f.body):(j9 fs f v).1=(kC p f).1 /\ ((j9 fs f v).1≠0 -> (j9 fs f v).2.at_=(kC p f).2) /\ ((j9 fs f v).1=0 -> lU p fs (j9 fs f v).2.ch (bd p)):=by
 obtain ⟨p1,p2⟩:=GJ f.params v (bd p) 0 0 h;unfold j9 kC;rcases hq:iA f.params (bd p) 0 0 with _|⟨l,i,m⟩
 ·rw [p1 hq,if_neg V];exact ⟨J,λ_=>J,λh=>iH⟩
 obtain ⟨q1,q2⟩:=p2 l i m hq;rw [q1,if_pos rfl];have he:pB p fs ⟨(gU f.params v).2,0,-1⟩ (ak.init l i):=⟨q2,J,J⟩;have hb:Step p fs (jI fs f.body ⟨(gU f.params v).2,0,-1⟩).1 (jI fs f.body ⟨(gU f.params v).2,0,-1⟩).2 (aM p f.body (ak.init l i)):=FX (A2 f.body [] _ _ hsh he) he;have hbq:(oL p f l i).q=(aM p f.body (ak.init l i)).q:=J;dsimp only;rw [hbq];by_cases h0:(jI fs f.body ⟨(gU f.params v).2,0,-1⟩).1=0
 ·have hE:=hb.1 h0;refine ⟨by rw [h0];exact hE.q.symm,λh=>absurd h0 h,λ_=>?_⟩;obtain ⟨a1,a2,a3⟩:=P4 f.params v h.kn q1;have h0':=h0;unfold jI at h0';rw [ud] at h0';obtain ⟨b1,b2,b3⟩:=zx fs f.body [] _ q2.kn h0';obtain ⟨c1,c2⟩:=AR (fs:=fs) h0' b1 (λq hq=>(b2 q hq).resolve_left not_mem_nil) b3;obtain ⟨gD,gt,pw⟩:=MX f.params _ c1;refine h.same gD λq=>?_;by_cases hm:∃x,x∈f.params /\ x.name=q
  ·obtain ⟨x,hx,rfl⟩:=hm;rw [a2 x hx];exact gt x hx
  have hm':∀x,x∈f.params -> x.name≠q:=λx hx hn=>hm ⟨x,hx,hn⟩;rw [←a3 q hm',←c2 q];exact pw q hm'
 have hq2:=hb.2 h0;rw [hq2];exact ⟨J,λ_=>J,λh=>absurd h h0⟩
theorem M_:∀(l:List bB)(i:Nat)(v:bq),lU p fs v (bd p) -> (∀f,f∈l -> mf f.body) -> nz fs l i v=lS p l i
 |[],i,v,_,_=>rfl
 |f::r,i,v,h,hs=>by
  obtain ⟨b1,b2,b3⟩:=W3 h (hs f me);rw [nz,lS,←b1];by_cases h0:(j9 fs f v).1=0
  ·rw [if_pos h0,if_pos h0];exact M_ r (i+1) _ (b3 h0) λg hg=>hs g (eG _ hg)
  rw [if_neg h0,if_neg h0,b2 h0]
end
def LC{p:aY}:∀(es:List bS)(v:bq)(l:List bS),dW v -> (∀s,bz v s=tE p (bM l s)) -> (∀i,jg l es=some i -> (hJ (es.map λx=>(x.name,gB p x)) v l.length).1=some i) /\ (jg l es=none -> (hJ (es.map λx=>(x.name,gB p x)) v l.length).1=none /\ dW (hJ (es.map λx=>(x.name,gB p x)) v l.length).2 /\ ∀s,bz (hJ (es.map λx=>(x.name,gB p x)) v l.length).2 s=tE p (bM (l++es) s))
 |[],v,l,hk,hg=>by
  rw [jg];exact ⟨λi h=>iH,λ_=>⟨J,hk,λs=>by rw [eV];exact hg s⟩⟩
 |x::es,v,l,hk,hg=>by
  rw [jg,dE,hJ,hg x.name];rcases hf:bM l x.name with _|y
  ·rw [if_neg V,if_pos (show tE p none=0 from rfl)];have hr:∀s,bz (dB v x.name (gB p x)) s=tE p (bM (l++[x]) s):=λs=>by
    rw [tz,mu];by_cases hq:x.name=s
    ·subst hq;rw [if_pos rfl,hf];dsimp only;rw [if_pos rfl];rfl
    rw [if_neg hq,hg s];rcases bM l s with _|z
    ·dsimp only;rw [if_neg hq]
    rfl
   have h9:=LC es _ (l++[x]) (hk.put _ _) hr;rw [length_append,append_assoc] at h9;exact h9
  rw [if_pos jo,if_neg (show ¬tE p (some y)=0 from uN p y)];exact ⟨λi h=>h,λh=>iH⟩
def UG(p:aY):iE p=(bd p).map λx=>(x.name,gB p x):=by
 unfold iE bd;rw [fL,fL]
 congr 1
 ·apply oR
  ·simp
  intro i h1 h2;simp [gB]
 congr 1
 ·apply oR
  ·simp
  intro i h1 h2;simp only [gI] at h1;simp only [rE,List.getElem_mapIdx];unfold gB qQ;rw [zf h1];rfl
 apply oR
 ·simp
 intro i h1 h2;simp [gB]
end
section
def Ez:∀{l:List bS} {s:aH} {v:bS},bM l s=some v -> v∈l /\ v.name=s
 |[],_,_,h=>iH
 |x::l,s,v,h=>by
  rw [bM] at h;split at h
  ·rename_i hx;cases h;exact ⟨me,hx⟩
  exact ⟨eG _ (Ez h).1,(Ez h).2⟩
def LW:∀{l:List bS} {x:bS},(l.map bS.name).Nodup -> x∈l -> bM l x.name=some x
 |[],_,_,h=>absurd h not_mem_nil
 |y::l,x,hd,h=>by
  simp only [dE,m5] at hd;rw [bM];rcases mem_cons.1 h with rfl|h
  ·rw [if_pos rfl]
  rw [if_neg (λe=>hd.1 (by rw [e];exact List.mem_map_of_mem h))];exact LW hd.2 h
def E3:∀(es l:List bS),jg l es=none -> (es.map bS.name).Nodup /\ ∀x,x∈es -> bM l x.name=none
 |[],l,_=>⟨aL,λx hx=>absurd hx not_mem_nil⟩
 |x::es,l,h=>by
  rw [jg] at h;rcases hf:bM l x.name with _|y
  ·rw [hf,if_neg V] at h;obtain ⟨h1,h2⟩:=E3 es _ h;have h3:∀y,y∈es -> bM l y.name=none /\ x.name≠y.name:=λy hy=>by
    have h9:=h2 y hy;rw [mu] at h9;split at h9
    ·cases h9
    rename_i h8;exact ⟨h8,λe=>by rw [if_pos e] at h9;cases h9⟩
   refine ⟨?_,λy hy=>?_⟩
   ·simp only [dE,m5];refine ⟨λhm=>?_,h1⟩;obtain ⟨y,hy,e⟩:=lP.1 hm;exact (h3 y hy).2 e.symm
   rcases mem_cons.1 hy with rfl|hy
   ·exact hf
   exact (h3 y hy).1
  rw [hf,if_pos jo] at h;cases h
def Mw:∀(l:List bB)(m:dT)(s:aH),s∉l.map bB.name -> dX (l.foldl (λm f=>dB m f.name f) m) s=dX m s
 |[],m,s,_=>rfl
 |f::l,m,s,h=>by
  simp only [dE,mem_cons,not_or] at h;rw [t2,Mw l _ s h.2,p',if_neg (λe=>h.1 e.symm)]
def NV:∀(l:List bB)(m:dT),(l.map bB.name).Nodup -> ∀f,f∈l -> dX (l.foldl (λm f=>dB m f.name f) m) f.name=some f
 |[],_,_,f,h=>absurd h not_mem_nil
 |g::l,m,hd,f,h=>by
  simp only [dE,m5] at hd;rw [t2];rcases mem_cons.1 h with rfl|h
  ·rw [Mw l _ _ hd.1,p',if_pos rfl]
  exact NV l _ hd.2 f h
def LB:∀(l:List bB)(m:dT)(s:aH)(f:bB),dX (l.foldl (λm f=>dB m f.name f) m) s=some f -> (f∈l /\ f.name=s)∨dX m s=some f
 |[],m,s,f,h=>.inr h
 |g::l,m,s,f,h=>by
  rw [t2] at h;rcases LB l _ s f h with h|h
  ·exact .inl ⟨eG _ h.1,h.2⟩
  rw [p'] at h;split at h
  ·rename_i hg;cases h;exact .inl ⟨me,hg⟩
  exact .inr h
def Tx{p:aY}{x:bS}(h:x∈bd p)(h3:x.kind=3):∃(i:Nat) (hi:i<p.funcs.length),x=⟨p.funcs[i].name,3,i⟩:=by
 unfold bd at h;rcases mem_append.1 h with h|h
 ·obtain ⟨i,hi,rfl⟩:=qI.1 h;exact absurd h3 GN
 rcases mem_append.1 h with h|h
 ·obtain ⟨i,hi,rfl⟩:=qI.1 h;exact absurd h3 Gy
 obtain ⟨i,hi,rfl⟩:=qI.1 h;exact ⟨i,hi,J⟩
def U0{p:aY}{f:bB}(h:f∈p.funcs):∃i:Nat,(⟨f.name,3,i⟩:bS)∈bd p:=by
 obtain ⟨i,hi,rfl⟩:=mp h;refine ⟨i,?_⟩;unfold bd;exact gx _ (gx _ (qI.2 ⟨i,hi,J⟩))
def X2{p:aY}(h:((bd p).map bS.name).Nodup):(p.funcs.map bB.name).Nodup:=by
 unfold bd at h;rw [fL,fL] at h;have h1:=(eN.1 (eN.1 h).2.1).2.1;have e:(p.funcs.mapIdx λi f=>(⟨f.name,3,i⟩:bS)).map bS.name=p.funcs.map bB.name:=by
  apply oR
  ·simp
  intro i h1 h2;simp
 rw [e] at h1;exact h1
section
variable {p:aY}(hn:((bd p).map bS.name).Nodup)
include hn
theorem Mb(s:aH)(x:bS)(hf:bM (bd p) s=some x)(h3:x.kind=3):∃f,dX (iQ p.funcs) s=some f /\ kM p x.n=f.params:=by
 obtain ⟨h1,h2⟩:=Ez hf;obtain ⟨i,hi,rfl⟩:=Tx h1 h3;refine ⟨p.funcs[i],?_,BP hi⟩;rw [←h2];exact NV p.funcs [] (X2 hn) _ (getElem_mem hi)
theorem Jq(s:aH)(h:∀x,bM (bd p) s=some x -> x.kind≠3):dX (iQ p.funcs) s=none:=by
 rcases hl:dX (iQ p.funcs) s with _|f
 ·rfl
 exfalso;rcases LB p.funcs [] s f hl with ⟨h1,h2⟩|h1
 ·obtain ⟨i,hi⟩:=U0 h1;have h9:=LW hn hi;exact h _ (by rw [←h2];exact h9) J
 cases h1
theorem YQ:qu p=np p:=by
 unfold qu np;rw [show yY=eK from rfl];rcases hf:bM (bd p) eK with _|x
 ·rw [Jq hn eK (λx h=>by rw [hf] at h;cases h)]
 by_cases h3:x.kind=3
 ·obtain ⟨f,h1,h2⟩:=Mb hn eK x hf h3;rw [h1];dsimp only;rw [h2,decide_eq_true h3,yw]
 rw [Jq hn eK (λy h=>by rw [hf] at h;cases h;exact h3)];dsimp only;rw [decide_eq_false h3,BF]
end
def LO(p:aY):pM p=gY p:=by
 unfold pM gY;by_cases hv:gw p=false
 ·rw [if_pos hv,if_pos hv]
 rw [if_neg hv,if_neg hv,UG];obtain ⟨gD,gt⟩:=LC (p:=p) (bd p) [] [] (by unfold dW;simp) (λs=>rfl);rw [length_nil] at gD gt;rcases hb:jg [] (bd p) with _|i
 ·obtain ⟨aj,e2,e3⟩:=gt hb;rw [aj];dsimp only;obtain ⟨hn,-⟩:=E3 _ _ hb;rw [YQ hn];by_cases hm:np p=true
  ·rw [if_pos hm,if_pos hm];refine M_ p.funcs 0 _ ⟨e2,λs=>by rw [e3];rfl,Mb hn⟩ λf hf=>?_;have hvt:gw p=true:=by simpa using hv
   rw [ua,di] at hvt;exact y0 0 f.body (Dc hvt.1 f hf).1
  rw [if_neg hm,if_neg hm]
 rw [gD i hb]
end
section
def CX{α:Type}(nm:α -> aH)(l:List α)(hd:(l.map nm).Nodup):∀k,k <= l.length -> ∀i (h:i<l.length),i<k -> dX (eL nm l k) (nm l[i])=some (i:Int)
 |0,_,i,_,hi=>absurd hi (Fo i)
 |k+1,hk,i,h,hi=>by
  rw [←Bc nm l k Y,p'];by_cases e:i=k
  ·subst e;rw [if_pos rfl]
  rw [if_neg,CX nm l hd k Y i h Y];have:=List.pairwise_iff_getElem.1 hd i k (by rw [gI];omega) (by rw [gI];omega) Y;rw [rE,rE] at this;exact λh=>this h.symm
def JB:∀{l:List bS} {s:aH} {v:bS},bM l s=some v -> v.name=s
 |[],_,_,h=>iH
 |x::l,s,v,h=>by
  rw [bM] at h;split at h
  ·rename_i h1;cases h;exact h1
  exact JB h
def YD(p:aY):(bd p).map bS.name=p.globals.map b_.name++(p.mutexes.map cn.name++p.funcs.map bB.name):=by
 have e:∀{α:Type} (f:Nat -> α -> bS) (nm:α -> aH) (h:∀i a,(f i a).name=nm a) (l:List α),(l.mapIdx f).map bS.name=l.map nm:=λf nm h l=>by
  apply oR aL
  intro i h1 h2;simp [h]
 unfold bd;rw [fL,fL,e _ b_.name (λ_ _=>rfl),e _ cn.name (λ_ _=>rfl),e _ bB.name (λ_ _=>rfl)]
def KQ{p:aY}{v:bS}(h:v∈bd p):(∃i,∃(h:i<p.globals.length),v=⟨p.globals[i].name,1,i⟩)∨(∃i,∃(h:i<p.mutexes.length),v=⟨p.mutexes[i].name,2,i⟩)∨∃i,∃(h:i<p.funcs.length),v=⟨p.funcs[i].name,3,i⟩:=by
 unfold bd at h;rcases mem_append.1 h with h|h
 ·obtain ⟨i,hi,rfl⟩:=qI.1 h;exact .inl ⟨i,hi,rfl⟩
 rcases mem_append.1 h with h|h
 ·obtain ⟨i,hi,rfl⟩:=qI.1 h;exact .inr (.inl ⟨i,hi,rfl⟩)
 obtain ⟨i,hi,rfl⟩:=qI.1 h;exact .inr (.inr ⟨i,hi,rfl⟩)
def SI{p:aY}(hb:jg [] (bd p)=none):dx (eL b_.name p.globals p.globals.length) (eL cn.name p.mutexes p.mutexes.length) (eL bB.name p.funcs p.funcs.length) [] [] (bd p):=by
 have hn:=(E3 _ _ hb).1;rw [YD] at hn;obtain ⟨h1,h23,-⟩:=eN.1 hn;obtain ⟨h2,h3,-⟩:=eN.1 h23;have no:∀(k:Int)(hk:k=4∨k=5)(s:aH),(none:Option Int)=(match bM (bd p) s with|some v=>if v.kind=k then some (v.n:Int) else none|none=>none):=λk hk s=>by
  rcases hf:bM (bd p) s with _|v
  ·rfl
  dsimp only;rw [if_neg];rcases KQ (yR hf) with ⟨i,hi,rfl⟩|⟨i,hi,rfl⟩|⟨i,hi,rfl⟩
  ·show ¬(1:Int)=k;omega
  ·show ¬(2:Int)=k;omega
  show ¬(3:Int)=k;omega
 refine ⟨no 4 (.inl J),no 5 (.inr J),λs v hv hk=>?_,λs v hv hk=>?_,λs v hv hk=>?_⟩;all_goals
  have hs:=JB hv;rcases KQ (yR hv) with ⟨i,hi,rfl⟩|⟨i,hi,rfl⟩|⟨i,hi,rfl⟩
 ·subst hs;exact CX b_.name p.globals h1 _ (bX _) i hi hi
 ·exact absurd hk (by show ¬(2:Int)=1;decide)
 ·exact absurd hk (by show ¬(3:Int)=1;decide)
 ·exact absurd hk (by show ¬(1:Int)=2;decide)
 ·subst hs;exact CX cn.name p.mutexes h2 _ (bX _) i hi hi
 ·exact absurd hk (by show ¬(3:Int)=2;decide)
 ·exact absurd hk GN
 ·exact absurd hk Gy
 subst hs;exact CX bB.name p.funcs h3 _ (bX _) i hi hi
def N'{p:aY}(h:gY p=(0,0,0)):gw p=true /\ dx (eL b_.name p.globals p.globals.length) (eL cn.name p.mutexes p.mutexes.length) (eL bB.name p.funcs p.funcs.length) [] [] (bd p) /\ (∀f,f∈p.funcs -> (kC p f).1=0 /\ l9 f.body) /\ bz (eL bB.name p.funcs p.funcs.length) eK=(((bQ (bd p) eK).n:Nat):Int):=by
 obtain ⟨h1,h2,h3,h4⟩:=NA h;have hm:=SI h2;refine ⟨h1,hm,λf hf=>⟨h4 f hf,?_⟩,?_⟩
 ·have hv:=h1;unfold gw at hv;simp only [di] at hv;have h5:=e0.1 hv.1.2 f hf;unfold ga at h5;simp only [di] at h5;exact Bo 0 f.body h5.1.2
 unfold np at h3;unfold bz bQ;rcases hf:bM (bd p) eK with _|v
 ·rw [hf] at h3;cases h3
 rw [hf] at h3;simp only [di,decide_eq_true_eq] at h3;rw [hm.fs _ v hf h3.1];rfl
end
end Go.Proofs.YtjgeihmhppadaaaGreatDoor
