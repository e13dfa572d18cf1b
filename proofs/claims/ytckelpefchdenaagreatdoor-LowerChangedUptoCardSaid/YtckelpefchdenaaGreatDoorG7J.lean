import Derived.Test.YtckelpefchdenaaGreatDoorG6J
set_option linter.all false
set_option synthInstance.maxHeartbeats 1000000
set_option synthInstance.maxSize 1000000
set_option maxHeartbeats 1600000
set_option maxRecDepth 100000
namespace Go.Proofs.YtckelpefchdenaaGreatDoor
open Go.Proofs.Tryz
open List (length_append length_cons length_nil mem_append mem_cons not_mem_nil append_assoc getElem_mem take_of_length_le)
section
open Go.RowKit
def jk{α:Type}(f:α -> Bool):List α -> Int
 |[]=>-1
 |x::l=>if f x then 0 else if jk f l<0 then -1 else jk f l+1
def xt{α:Type}(f:α -> Bool):∀(l:List α)(k:Nat)(h:k<l.length),(∀i (h:i<l.length),i<k -> f l[i]=false) -> f l[k]=true -> jk f l=k
 |x::l,0,_,_,h1=>by simp only [Hk] at h1;rw [jk,if_pos h1];rfl
 |x::l,k+1,h,h0,h1=>by
  have hx:f x=false:=h0 0 aM Y;have ih:=xt f l k iX (λi hi hik=>h0 (i+1) pz Y) ta;rw [jk,hx,if_neg V,ih,if_neg Y];omega
def xY{α:Type}(f:α -> Bool):∀(l:List α),(∀i (h:i<l.length),f l[i]=false) -> jk f l=-1
 |[],_=>rfl
 |x::l,h0=>by
  have hx:f x=false:=h0 0 aM;have ih:=xY f l (λi hi=>h0 (i+1) pz);rw [jk,hx,if_neg V,ih,if_pos V]
def vB{α:Type}(f:α -> Bool):∀(l:List α),(0 <= jk f l↔l.any f=true) /\ -1 <= jk f l
 |[]=>⟨by simp [jk],by rw [jk];omega⟩
 |x::l=>by
  have ih:=vB f l;rw [jk,List.any_cons];cases hx:f x with
  |true=>simp
  |false=>
   rw [if_neg V,Bool.false_or];split
   ·rename_i hl;refine ⟨⟨λh=>absurd h V,λh=>?_⟩,V⟩;have:=ih.1.2 h;omega
   exact ⟨⟨λh=>ih.1.1 Y,λh=>by have:=ih.1.2 h;omega⟩,Y⟩
def zW{α:Type}{f:α -> Bool}{l:List α}(h:¬0 <= jk f l):l.any f=false:=kf.2 λhh=>h ((vB f l).1.2 hh)
def Lf{α:Type}(f:α -> Bool)(l:List α):(l.any λx=>!f x)=!l.all f:=by
 induction l with
 |nil=>rfl
 |cons x l ih=>rw [List.any_cons,Ah,ih,Bool.not_and]
def Hq(r:cD):okRefB r=(cH r.name && decide (r.index.length <= 1) && !r.index.any λe=>!fI e):=by
 obtain ⟨n,ix⟩:=r
 match ix with
 |[]=>unfold okRefB;simp
 |[e]=>unfold okRefB;simp
 |_::_::_=>unfold okRefB;simp
def fK(s:aD):Bool:=fl s && !cH s.name
def fe(s:aD):Bool:=!fl s && !decide (s.name=ay)
def ou(s:aD):Bool:=f5 s && !fI s.expr
def tk(s:aD):Bool:=!f5 s && !kp s.expr
def tX(s:aD):Bool:=gB s && !okRefB s.ref
def sk(s:aD):Bool:=!gB s && !mE s.ref
def ru(s:aD):Bool:=!gP s && !decide (s.args.length=0)
def rA(s:aD):Bool:=!f_ s && !decide (s.thn.length=0)
def jZ(s:aD):Bool:=decide (s.kind=7)
def jG(s:aD):Bool:=!jZ s && !decide (s.els.length=0)
def ae(D:Nat)(s:aD):Bool:=!f_ s||(dG (D+1) s.thn && (decide (s.els.length=0)||dG (D+1) s.els))
def ki(D:Nat)(s:aD):f6 D s=(!gT s && !fK s && !fe s && !ou s && !tk s && !tX s && !sk s && !ru s && !rA s && !jG s && s.args.all fc && ae D s):=by
 rw [tl];have h1:td s=(gT s||fK s||fe s||ou s||tk s||tX s||sk s||ru s):=J;have h2:jZ s=true -> f_ s=true:=λh=>by unfold jZ at h;unfold f_;simp only [decide_eq_true_eq] at h⊢;omega
 have h3:xz D s=(!rA s && !jG s && ae D s):=by
  unfold xz rA jG ae;rw [show decide (s.kind=7)=jZ s from rfl];cases hB:f_ s with
  |false=>
   have hI:jZ s=false:=by cases h:jZ s with|false=>rfl|true=>rw [h2 h] at hB;cases hB
   rw [hI];cases decide (s.thn.length=0)<;>cases decide (s.els.length=0)<;>rfl
  |true=>cases jZ s<;>cases decide (s.thn.length=0)<;>cases decide (s.els.length=0)<;>cases dG (D+1) s.thn<;>cases dG (D+1) s.els<;>rfl
 rw [h1,h3];generalize ae D s=x;generalize s.args.all fc=y;cases gT s<;>cases fK s<;>cases fe s<;>cases ou s<;>cases tk s<;>(try rfl)<;>cases tX s<;>cases sk s<;>cases ru s<;>(try rfl)<;>cases rA s<;>cases jG s<;>cases y<;>cases x<;>rfl
def uY(D:Nat):∀l:List aD,dG D l=(decide (D<24) && l.all (f6 D))
 |[]=>by rw [dG,List.all_nil,Bool.and_true]
 |s::l=>by
  rw [dG,uY D l,Ah];cases f6 D s<;>cases decide (D<24)<;>rfl
def TZ(g:a_ -> Bool)(l:List a_)(F:FuncId)(cap:Array aN)(s:aH)(hl:l.length <= 1000000000)(hcf:∀args w,(callFunc F args).run prog w=.ok (.enter F args) w)(hc:∀k (h:k<l.length),aT prog F (cL (.agg (bT l[k]))::cap.toList.map gO) [] s λt s'=>t=au (g l[k]) /\ s'=s):aT prog 112 [cL (.c (aG bT l)),ap (.func (.func F) #[] cap)] [] s λt s'=>t=aj (jk g l) /\ s'=s:=by
 obtain ⟨bx,rw⟩:=s;refine bM 19 func112 ?_;refine go 14 ?_;refine jr (λk=>∀i (h:i<l.length),i<k -> g l[i]=false) (l.length) 8 (λk=>[(0,cL (.c (aG bT l))),(1,ap (.func (.func F) #[] cap)),(7,ab l.length)]) nR (ao J) λk hk hvk=>?_;replace hvk:∀i (h:i<l.length),i<k -> g l[i]=false:=hvk
 try dsimp only
 refine go 2 ?_;by_cases h1:(k:Int)<(l.length:Int)
 ·refine aJ J (cw h1) (go 19 ?_);refine aC J (bX bT bT l mY (λ_=>J) k J J J J Y V fu du) (go 1 ?_);rcases bz (g l[k]) with h3|h3
  ·refine qY 0 J hcf J (hc k Y) h3 ?_;refine go 15 ?_;exact bF bx rw J d3 ⟨ff (xt g l k Y (λi hi hik=>hvk i hi hik) h3),J⟩
  refine qY 0 J hcf J (hc k Y) h3 ?_;refine go 7 ?_;refine bK J (go 2 ?_);exact ⟨Y,zK,(av J (b_ Y) (ao J))⟩
 refine aF J (ct h1) (go 15 ?_);exact bF bx rw J d3 ⟨ff (xY g l wa),J⟩
def Jk(g:a_ -> Bool)(l:List a_)(F:FuncId)(cap:Array aN)(s:aH)(hl:l.length <= 1000000000)(hcf:∀args w,(callFunc F args).run prog w=.ok (.enter F args) w)(hc:∀k (h:k<l.length),aT prog F (cL (.agg (bT l[k]))::cap.toList.map gO) [] s λt s'=>t=au (g l[k]) /\ s'=s):aT prog 89 [cL (.c (aG bT l)),ap (.func (.func F) #[] cap)] [] s λt s'=>t=au (l.any g) /\ s'=s:=by
 obtain ⟨bx,rw⟩:=s;refine bM 9 func89 ?_;refine go 9 ?_;refine kP 0 J call112 J (TZ g l F cap _ hl hcf hc) ?_;by_cases h1:(0:Int) <= jk g l
 ·refine aJ J (oJ h1) (go 4 ?_);exact bF bx rw J d3 ⟨bZ ((vB g l).1.1 h1),J⟩
 refine aF J (pF h1) (go 4 ?_);exact bF bx rw J d3 ⟨bZ (zW h1),J⟩
def SP(g:bg -> Bool)(l:List bg)(F:FuncId)(cap:Array aN)(s:aH)(hl:l.length <= 1000000000)(hcf:∀args w,(callFunc F args).run prog w=.ok (.enter F args) w)(hc:∀k (h:k<l.length),aT prog F (cL (.agg (cE l[k]))::cap.toList.map gO) [] s λt s'=>t=au (g l[k]) /\ s'=s):aT prog 131 [cL (.c (aG cE l)),ap (.func (.func F) #[] cap)] [] s λt s'=>t=aj (jk g l) /\ s'=s:=by
 obtain ⟨bx,rw⟩:=s;refine bM 19 func131 ?_;refine go 14 ?_;refine jr (λk=>∀i (h:i<l.length),i<k -> g l[i]=false) (l.length) 8 (λk=>[(0,cL (.c (aG cE l))),(1,ap (.func (.func F) #[] cap)),(7,ab l.length)]) nR (ao J) λk hk hvk=>?_;replace hvk:∀i (h:i<l.length),i<k -> g l[i]=false:=hvk
 try dsimp only
 refine go 2 ?_;by_cases h1:(k:Int)<(l.length:Int)
 ·refine aJ J (cw h1) (go 19 ?_);refine aC J (bX cE cE l iQ (λ_=>J) k J J J J Y V iK ga) (go 1 ?_);rcases bz (g l[k]) with h3|h3
  ·refine qY 0 J hcf J (hc k Y) h3 ?_;refine go 15 ?_;exact bF bx rw J d3 ⟨ff (xt g l k Y (λi hi hik=>hvk i hi hik) h3),J⟩
  refine qY 0 J hcf J (hc k Y) h3 ?_;refine go 7 ?_;refine bK J (go 2 ?_);exact ⟨Y,zK,(av J (b_ Y) (ao J))⟩
 refine aF J (ct h1) (go 15 ?_);exact bF bx rw J d3 ⟨ff (xY g l wa),J⟩
def KY(g:bg -> Bool)(l:List bg)(F:FuncId)(cap:Array aN)(s:aH)(hl:l.length <= 1000000000)(hcf:∀args w,(callFunc F args).run prog w=.ok (.enter F args) w)(hc:∀k (h:k<l.length),aT prog F (cL (.agg (cE l[k]))::cap.toList.map gO) [] s λt s'=>t=au (g l[k]) /\ s'=s):aT prog 113 [cL (.c (aG cE l)),ap (.func (.func F) #[] cap)] [] s λt s'=>t=au (l.any g) /\ s'=s:=by
 obtain ⟨bx,rw⟩:=s;refine bM 9 func113 ?_;refine go 9 ?_;refine kP 0 J call131 J (SP g l F cap _ hl hcf hc) ?_;by_cases h1:(0:Int) <= jk g l
 ·refine aJ J (oJ h1) (go 4 ?_);exact bF bx rw J d3 ⟨bZ ((vB g l).1.1 h1),J⟩
 refine aF J (pF h1) (go 4 ?_);exact bF bx rw J d3 ⟨bZ (zW h1),J⟩
def Uw(g:aD -> Bool)(l:List aD)(F:FuncId)(cap:Array aN)(s:aH)(hl:l.length <= 1000000000)(hcf:∀args w,(callFunc F args).run prog w=.ok (.enter F args) w)(hc:∀k (h:k<l.length),aT prog F (cL (.agg (cm l[k]))::cap.toList.map gO) [] s λt s'=>t=au (g l[k]) /\ s'=s):aT prog 149 [cL (.c (aG encS l)),ap (.func (.func F) #[] cap)] [] s λt s'=>t=aj (jk g l) /\ s'=s:=by
 obtain ⟨bx,rw⟩:=s;refine bM 19 func149 ?_;refine go 14 ?_;refine jr (λk=>∀i (h:i<l.length),i<k -> g l[i]=false) (l.length) 8 (λk=>[(0,cL (.c (aG encS l))),(1,ap (.func (.func F) #[] cap)),(7,ab l.length)]) nR (ao J) λk hk hvk=>?_;replace hvk:∀i (h:i<l.length),i<k -> g l[i]=false:=hvk
 try dsimp only
 refine go 2 ?_;by_cases h1:(k:Int)<(l.length:Int)
 ·refine aJ J (cw h1) (go 19 ?_);refine aC J (bX encS cm l kS mQ k J J J J Y V j0 eB) (go 1 ?_);rcases bz (g l[k]) with h3|h3
  ·refine qY 0 J hcf J (hc k Y) h3 ?_;refine go 15 ?_;exact bF bx rw J d3 ⟨ff (xt g l k Y (λi hi hik=>hvk i hi hik) h3),J⟩
  refine qY 0 J hcf J (hc k Y) h3 ?_;refine go 7 ?_;refine bK J (go 2 ?_);exact ⟨Y,zK,(av J (b_ Y) (ao J))⟩
 refine aF J (ct h1) (go 15 ?_);exact bF bx rw J d3 ⟨ff (xY g l wa),J⟩
def KT(g:aD -> Bool)(l:List aD)(F:FuncId)(cap:Array aN)(s:aH)(hl:l.length <= 1000000000)(hcf:∀args w,(callFunc F args).run prog w=.ok (.enter F args) w)(hc:∀k (h:k<l.length),aT prog F (cL (.agg (cm l[k]))::cap.toList.map gO) [] s λt s'=>t=au (g l[k]) /\ s'=s):aT prog 132 [cL (.c (aG encS l)),ap (.func (.func F) #[] cap)] [] s λt s'=>t=au (l.any g) /\ s'=s:=by
 obtain ⟨bx,rw⟩:=s;refine bM 9 func132 ?_;refine go 9 ?_;refine kP 0 J call149 J (Uw g l F cap _ hl hcf hc) ?_;by_cases h1:(0:Int) <= jk g l
 ·refine aJ J (oJ h1) (go 4 ?_);exact bF bx rw J d3 ⟨bZ ((vB g l).1.1 h1),J⟩
 refine aF J (pF h1) (go 4 ?_);exact bF bx rw J d3 ⟨bZ (zW h1),J⟩
def UL(g:bq -> Bool)(l:List bq)(F:FuncId)(cap:Array aN)(s:aH)(hl:l.length <= 1000000000)(hcf:∀args w,(callFunc F args).run prog w=.ok (.enter F args) w)(hc:∀k (h:k<l.length),aT prog F (cL (.agg (cg l[k]))::cap.toList.map gO) [] s λt s'=>t=au (g l[k]) /\ s'=s):aT prog 175 [cL (.c (aG cg l)),ap (.func (.func F) #[] cap)] [] s λt s'=>t=aj (jk g l) /\ s'=s:=by
 obtain ⟨bx,rw⟩:=s;refine bM 19 func175 ?_;refine go 14 ?_;refine jr (λk=>∀i (h:i<l.length),i<k -> g l[i]=false) (l.length) 8 (λk=>[(0,cL (.c (aG cg l))),(1,ap (.func (.func F) #[] cap)),(7,ab l.length)]) nR (ao J) λk hk hvk=>?_;replace hvk:∀i (h:i<l.length),i<k -> g l[i]=false:=hvk
 try dsimp only
 refine go 2 ?_;by_cases h1:(k:Int)<(l.length:Int)
 ·refine aJ J (cw h1) (go 19 ?_);refine aC J (bX cg cg l oO (λ_=>J) k J J J J Y V lV j') (go 1 ?_);rcases bz (g l[k]) with h3|h3
  ·refine qY 0 J hcf J (hc k Y) h3 ?_;refine go 15 ?_;exact bF bx rw J d3 ⟨ff (xt g l k Y (λi hi hik=>hvk i hi hik) h3),J⟩
  refine qY 0 J hcf J (hc k Y) h3 ?_;refine go 7 ?_;refine bK J (go 2 ?_);exact ⟨Y,zK,(av J (b_ Y) (ao J))⟩
 refine aF J (ct h1) (go 15 ?_);exact bF bx rw J d3 ⟨ff (xY g l wa),J⟩
def BK(g:bq -> Bool)(l:List bq)(F:FuncId)(cap:Array aN)(s:aH)(hl:l.length <= 1000000000)(hcf:∀args w,(callFunc F args).run prog w=.ok (.enter F args) w)(hc:∀k (h:k<l.length),aT prog F (cL (.agg (cg l[k]))::cap.toList.map gO) [] s λt s'=>t=au (g l[k]) /\ s'=s):aT prog 155 [cL (.c (aG cg l)),ap (.func (.func F) #[] cap)] [] s λt s'=>t=au (l.any g) /\ s'=s:=by
 obtain ⟨bx,rw⟩:=s;refine bM 9 func155 ?_;refine go 9 ?_;refine kP 0 J call175 J (UL g l F cap _ hl hcf hc) ?_;by_cases h1:(0:Int) <= jk g l
 ·refine aJ J (oJ h1) (go 4 ?_);exact bF bx rw J d3 ⟨bZ ((vB g l).1.1 h1),J⟩
 refine aF J (pF h1) (go 4 ?_);exact bF bx rw J d3 ⟨bZ (zW h1),J⟩
def XQ(g:aS -> Bool)(l:List aS)(F:FuncId)(cap:Array aN)(s:aH)(hl:l.length <= 1000000000)(hcf:∀args w,(callFunc F args).run prog w=.ok (.enter F args) w)(hc:∀k (h:k<l.length),aT prog F (cL (.agg (bf l[k]))::cap.toList.map gO) [] s λt s'=>t=au (g l[k]) /\ s'=s):aT prog 189 [cL (.c (aG bV l)),ap (.func (.func F) #[] cap)] [] s λt s'=>t=aj (jk g l) /\ s'=s:=by
 obtain ⟨bx,rw⟩:=s;refine bM 19 func189 ?_;refine go 14 ?_;refine jr (λk=>∀i (h:i<l.length),i<k -> g l[i]=false) (l.length) 8 (λk=>[(0,cL (.c (aG bV l))),(1,ap (.func (.func F) #[] cap)),(7,ab l.length)]) nR (ao J) λk hk hvk=>?_;replace hvk:∀i (h:i<l.length),i<k -> g l[i]=false:=hvk
 try dsimp only
 refine go 2 ?_;by_cases h1:(k:Int)<(l.length:Int)
 ·refine aJ J (cw h1) (go 19 ?_);refine aC J (bX bV bf l fw fR k J J J J Y V iR dl) (go 1 ?_);rcases bz (g l[k]) with h3|h3
  ·refine qY 0 J hcf J (hc k Y) h3 ?_;refine go 15 ?_;exact bF bx rw J d3 ⟨ff (xt g l k Y (λi hi hik=>hvk i hi hik) h3),J⟩
  refine qY 0 J hcf J (hc k Y) h3 ?_;refine go 7 ?_;refine bK J (go 2 ?_);exact ⟨Y,zK,(av J (b_ Y) (ao J))⟩
 refine aF J (ct h1) (go 15 ?_);exact bF bx rw J d3 ⟨ff (xY g l wa),J⟩
def V1(g:aS -> Bool)(l:List aS)(F:FuncId)(cap:Array aN)(s:aH)(hl:l.length <= 1000000000)(hcf:∀args w,(callFunc F args).run prog w=.ok (.enter F args) w)(hc:∀k (h:k<l.length),aT prog F (cL (.agg (bf l[k]))::cap.toList.map gO) [] s λt s'=>t=au (g l[k]) /\ s'=s):aT prog 173 [cL (.c (aG bV l)),ap (.func (.func F) #[] cap)] [] s λt s'=>t=au (l.any g) /\ s'=s:=by
 obtain ⟨bx,rw⟩:=s;refine bM 9 func173 ?_;refine go 9 ?_;refine kP 0 J call189 J (XQ g l F cap _ hl hcf hc) ?_;by_cases h1:(0:Int) <= jk g l
 ·refine aJ J (oJ h1) (go 4 ?_);exact bF bx rw J d3 ⟨bZ ((vB g l).1.1 h1),J⟩
 refine aF J (pF h1) (go 4 ?_);exact bF bx rw J d3 ⟨bZ (zW h1),J⟩
def qg(x:aI)(hx:x.size <= 4611686018427387904)(s:aH):aT prog 111 [cL (cK x)] [] s λt s'=>t=au (cH x) /\ s'=s:=by
 obtain ⟨bx,rw⟩:=s;refine bM 35 func111 ?_;refine go 8 ?_;refine aW J (B0 J J V J dz ky pR QU (N:=x.data.toList.length) J (cs:=cb x.data.toList) J ?_);refine aW J (Gb 0 [] J J V call94 J J (λm=>GY x.data.toList m _) dX dX (λ_=>dX) ?_);rintro _ _ ⟨(⟨tl1,JT,rfl,aSl⟩|⟨p1,ae,JT,rfl,he1⟩),rfl⟩
 ·refine go 12 ?_;refine aJ J jL (go 3 ?_);by_cases h2:(tl1.length:Int)=2
  ·refine aJ J (bR h2) (go 3 ?_);refine aC J (bX da da tl1 lN (λ_=>J) 0 J J J J Y V lA lE) (go 2 ?_);by_cases h3:((tl1[0].kind:Nat):Int)=1
   ·refine aJ J (bR h3) (go 3 ?_);refine aC J (bX da da tl1 lN (λ_=>J) 0 J J J J Y V lA lE) (go 3 ?_);by_cases h4:tl1[0].text=x
    ·refine aC J (fS true J J J (ob h4)) (go 5 ?_);exact bF bx rw J d3 ⟨bZ ((zL JT).1 ⟨Y,Y,Y,h4⟩),J⟩
    refine aC J (fS false J J J (o_ h4)) (go 5 ?_);exact bF bx rw J d3 ⟨bZ (kf.2 λhh=>Qi),J⟩
   refine aF J (bN h3) (go 13 ?_);exact bF bx rw J d3 ⟨bZ (kf.2 λhh=>KS),J⟩
  refine aF J (bN h2) (go 20 ?_);exact bF bx rw J d3 ⟨bZ (kf.2 λhh=>Km),J⟩
 refine go 12 ?_;refine aF J (bN Y) (go 24 ?_);exact bF bx rw J d3 ⟨bZ (OI JT),J⟩
def FU(e:aS)(s:aH):aT prog 152 [.agg (bf e)] [] s λt s'=>t=au (kp e) /\ s'=s:=by
 obtain ⟨bx,rw⟩:=s;refine bM 22 func152 ?_;refine go 10 λb1=>?_;by_cases h1:e.op=0
 ·refine aJ J (bR h1) (go 3 ?_);by_cases h2:e.num=0
  ·refine aJ J (bR h2) (go 4 ?_);by_cases h3:e.name=ay
   ·refine aC J (fS true J J J (ob h3)) (go 5 ?_);by_cases h4:(e.args.length:Int)=0
    ·refine aJ J (bR h4) (go 5 ?_);exact bF bx rw J cU ⟨bZ N6,J⟩
    refine aF J (bN h4) (go 5 ?_);exact bF bx rw J cU ⟨bZ (kf.2 λhh=>MG),J⟩
   refine aC J (fS false J J J (o_ h3)) (go 11 ?_);exact bF bx rw J cU ⟨bZ (kf.2 λhh=>LU),J⟩
  refine aF J (bN h2) (go 16 ?_);exact bF bx rw J cU ⟨bZ (kf.2 λhh=>P1),J⟩
 refine aF J (bN h1) (go 20 ?_);exact bF bx rw J cU ⟨bZ (kf.2 λhh=>Pu),J⟩
def GX(r:cD)(s:aH):aT prog 154 [.agg (encR r)] [] s λt s'=>t=au (mE r) /\ s'=s:=by
 obtain ⟨bx,rw⟩:=s;refine bM 12 func154 ?_;refine go 10 λb1=>?_;by_cases h1:r.name=ay
 ·refine aC J (fS true J J J (ob h1)) (go 4 ?_);by_cases h2:(r.index.length:Int)=0
  ·refine aJ J (bR h2) (go 5 ?_);exact bF bx rw J cU ⟨bZ LB,J⟩
  refine aF J (bN h2) (go 5 ?_);exact bF bx rw J cU ⟨bZ (kf.2 λhh=>Mb),J⟩
 refine aC J (fS false J J J (o_ h1)) (go 10 ?_);exact bF bx rw J cU ⟨bZ (kf.2 λhh=>Pi),J⟩
def Xt(e:aS)(hN:e.nodes <= 1000000000)(hs:e.bt)(s:aH):aT prog 174 [cL (.agg (bf e))] [] s λt s'=>t=au (!fI e) /\ s'=s:=by
 obtain ⟨bx,rw⟩:=s;refine bM 6 func174 ?_;refine go 9 λb1=>?_;rcases bz (fI e) with h1|h1;rotate_left;all_goals
  refine d9 0 J call151 J (zU e hN hs _) h1 (go 5 ?_);exact bF bx rw J cU ⟨bZ xn,J⟩
def N2(r:cD)(hs:r.bt)(hN:cv r.index <= 900000000)(s:aH):aT prog 153 [cL (.agg (encR r))] [] s λt s'=>t=au (okRefB r) /\ s'=s:=by
 obtain ⟨bx,rw⟩:=s;refine bM 18 func153 ?_;refine go 10 λb1=>?_;rcases bz (cH r.name) with h1|h1
 ·refine d9 0 J qv J (qg r.name hs.1 _) h1 (go 4 ?_);by_cases h2:(r.index.length:Int) <= 1
  ·refine aJ J (zw h2) (go 4 ?_);rcases bz (r.index.any λe=>!fI e) with h3|h3;rotate_left;all_goals
    refine d9 0 J call173 J (V1 (λe=>!fI e) r.index 174 #[] _ Y call174 (λk hk=>Xt _ (by have:=pc r.index k hk;omega) (qN _ hs.2 _ (getElem_mem _)) _)) h3 (go 6 ?_);exact bF bx rw J cU ⟨bZ (by rw [Hq,h1,decide_eq_true (show r.index.length <= 1 by omega),h3];rfl),J⟩
  refine aF J (AP h2) (go 11 ?_);exact bF bx rw J cU ⟨bZ (by rw [Hq,h1,decide_eq_false (show ¬r.index.length <= 1 by omega)];rfl),J⟩
 refine d9 0 J qv J (qg r.name hs.1 _) h1 (go 16 ?_);exact bF bx rw J cU ⟨bZ (by rw [Hq,h1];rfl),J⟩
def SY(a:bq)(hs:a.bt)(hw:a.wt <= 900000000)(s:aH):aT prog 157 [cL (.agg (cg a))] [] s λt s'=>t=au (fc a) /\ s'=s:=by
 obtain ⟨bx,rw⟩:=s;unfold bq.wt cD.wt at hw;refine bM 21 func157 ?_;refine go 10 λb1=>?_;rcases bz (a.mutex) with h1|h1
 ·refine aC J (cP (bH h1) (cW [] dJ dI)) (go 7 ?_);rcases bz (kp a.expr) with h3|h3
  ·refine tS J call152 J (FU a.expr _) h3 (go 3 ?_);rcases bz (okRefB a.ref) with h4|h4;rotate_left;all_goals
    refine d9 0 J call153 J (N2 a.ref hs.1 Y _) h4 (go 6 ?_);exact bF bx rw J cU ⟨bZ (by rw [yQ h1,h4,h3];first|rfl|(cases okRefB a.ref<;>rfl)),rfl⟩
  refine tS J call152 J (FU a.expr _) h3 (go 10 ?_);exact bF bx rw J cU ⟨bZ (by rw [yQ h1,h3];first|rfl|(cases okRefB a.ref<;>rfl)),rfl⟩
 refine aC J (cP (bH h1) (cW [] dJ dI)) (go 9 ?_);rcases bz (mE a.ref) with h6|h6
 ·refine tS J call154 J (GX a.ref _) h6 (go 3 ?_);rcases bz (fI a.expr) with h7|h7;rotate_left;all_goals
   refine d9 0 J call151 J (zU a.expr Y hs.2 _) h7 (go 5 ?_);exact bF bx rw J cU ⟨bZ (by rw [zm h1,h6,h7];first|rfl|(cases okRefB a.ref<;>rfl)),rfl⟩
 refine tS J call154 J (GX a.ref _) h6 (go 9 ?_);exact bF bx rw J cU ⟨bZ (by rw [zm h1,h6];first|rfl|(cases okRefB a.ref<;>rfl)),rfl⟩
def VS(a:bq)(hs:a.bt)(hw:a.wt <= 900000000)(s:aH):aT prog 156 [cL (.agg (cg a))] [] s λt s'=>t=au (!fc a) /\ s'=s:=by
 obtain ⟨bx,rw⟩:=s;refine bM 6 func156 ?_;refine go 9 λb1=>?_;rcases bz (fc a) with h1|h1;rotate_left;all_goals
  refine d9 0 J call157 J (SY a hs hw _) h1 (go 5 ?_);exact bF bx rw J cU ⟨bZ xn,J⟩
def UG(x:aD)(s:aH):aT prog 150 [aj x.kind] [] s λt s'=>t=.fd [.agg [bD (fl x),bD (f5 x),bD (gB x),bD (gP x),bD (f_ x),bD (jZ x)],au (!gT x)] /\ s'=s:=by
 obtain ⟨bx,rw⟩:=s;refine bM 27 func150 ?_;refine go 16 λb1=>?_;by_cases h1:x.kind=1
 ·refine aJ J (bR h1) (go 17 ?_);exact ⟨.inr J,_,⟨bx,rw⟩,jA J (bv [] J J pk py J) (bO J),ah bG (.refl _),MC,J⟩
 refine aF J (bN h1) (go 5 ?_);by_cases h5:x.kind=2
 ·refine aJ J (bR h5) (go 14 ?_);exact ⟨.inr J,_,⟨bx,rw⟩,jA J (bv [] J J pk py J) (bO J),ah bG (.refl _),MC,J⟩
 refine aF J (bN h5) (go 7 ?_);by_cases h8:x.kind=3
 ·refine aJ J (bR h8) (go 17 ?_);exact ⟨.inr J,_,⟨bx,rw⟩,jA J (bv [] J J pk py J) (bO J),ah bG (.refl _),NC,J⟩
 refine aF J (bN h8) (go 5 ?_);by_cases h12:x.kind=4
 ·refine aJ J (bR h12) (go 14 ?_);exact ⟨.inr J,_,⟨bx,rw⟩,jA J (bv [] J J pk py J) (bO J),ah bG (.refl _),NC,J⟩
 refine aF J (bN h12) (go 7 ?_);by_cases sh:x.kind=5
 ·refine aJ J (bR sh) (go 17 ?_);exact ⟨.inr J,_,⟨bx,rw⟩,jA J (bv [] J J pk py J) (bO J),ah bG (.refl _),KG,J⟩
 refine aF J (bN sh) (go 5 ?_);by_cases h19:x.kind=6
 ·refine aJ J (bR h19) (go 14 ?_);exact ⟨.inr J,_,⟨bx,rw⟩,jA J (bv [] J J pk py J) (bO J),ah bG (.refl _),KG,J⟩
 refine aF J (bN h19) (go 6 ?_);by_cases h22:x.kind=7
 ·refine aJ J (bR h22) (go 14 ?_);exact ⟨.inr J,_,⟨bx,rw⟩,jA J (bv [] J J pk py J) (bO J),ah bG (.refl _),(by rw [show fl x=false by unfold fl;first|exact decide_eq_true Y|exact decide_eq_false Y,show f5 x=true by unfold f5;first|exact decide_eq_true Y|exact decide_eq_false Y,show gB x=false by unfold gB;first|exact decide_eq_true Y|exact decide_eq_false Y,show gP x=false by unfold gP;first|exact decide_eq_true Y|exact decide_eq_false Y,show f_ x=true by unfold f_;first|exact decide_eq_true Y|exact decide_eq_false Y,show jZ x=true by unfold jZ;first|exact decide_eq_true Y|exact decide_eq_false Y,show gT x=false by unfold gT;first|exact decide_eq_true Y|exact decide_eq_false Y];rfl),J⟩
 refine aF J (bN h22) (go 6 ?_);by_cases BT:x.kind=8
 ·refine aJ J (bR BT) (go 14 ?_);exact ⟨.inr J,_,⟨bx,rw⟩,jA J (bv [] J J pk py J) (bO J),ah bG (.refl _),(by rw [show fl x=false by unfold fl;first|exact decide_eq_true Y|exact decide_eq_false Y,show f5 x=true by unfold f5;first|exact decide_eq_true Y|exact decide_eq_false Y,show gB x=false by unfold gB;first|exact decide_eq_true Y|exact decide_eq_false Y,show gP x=false by unfold gP;first|exact decide_eq_true Y|exact decide_eq_false Y,show f_ x=true by unfold f_;first|exact decide_eq_true Y|exact decide_eq_false Y,show jZ x=false by unfold jZ;first|exact decide_eq_true Y|exact decide_eq_false Y,show gT x=false by unfold gT;first|exact decide_eq_true Y|exact decide_eq_false Y];rfl),J⟩
 refine aF J (bN BT) (go 6 ?_);by_cases RT:x.kind=9
 ·refine aJ J (bR RT) (go 14 ?_);exact ⟨.inr J,_,⟨bx,rw⟩,jA J (bv [] J J pk py J) (bO J),ah bG (.refl _),(by rw [show fl x=false by unfold fl;first|exact decide_eq_true Y|exact decide_eq_false Y,show f5 x=false by unfold f5;first|exact decide_eq_true Y|exact decide_eq_false Y,show gB x=false by unfold gB;first|exact decide_eq_true Y|exact decide_eq_false Y,show gP x=false by unfold gP;first|exact decide_eq_true Y|exact decide_eq_false Y,show f_ x=false by unfold f_;first|exact decide_eq_true Y|exact decide_eq_false Y,show jZ x=false by unfold jZ;first|exact decide_eq_true Y|exact decide_eq_false Y,show gT x=false by unfold gT;first|exact decide_eq_true Y|exact decide_eq_false Y];rfl),J⟩
 refine aF J (bN RT) (go 15 ?_);exact ⟨.inr J,_,⟨bx,rw⟩,jA J (bv [] J J pk py J) (bO J),ah bG (.refl _),(by rw [show fl x=false by unfold fl;first|exact decide_eq_true Y|exact decide_eq_false Y,show f5 x=false by unfold f5;first|exact decide_eq_true Y|exact decide_eq_false Y,show gB x=false by unfold gB;first|exact decide_eq_true Y|exact decide_eq_false Y,show gP x=false by unfold gP;first|exact decide_eq_true Y|exact decide_eq_false Y,show f_ x=false by unfold f_;first|exact decide_eq_true Y|exact decide_eq_false Y,show jZ x=false by unfold jZ;first|exact decide_eq_true Y|exact decide_eq_false Y,show gT x=true by unfold gT;first|exact decide_eq_true Y|exact decide_eq_false Y];rfl),J⟩
def AW{α:Type}{f:α -> Bool}{l:List α}(h:(l.any λx=>!f x)=true):l.all f=false:=by rw [Lf] at h;simpa using h
def pm{α:Type}{f:α -> Bool}{l:List α}(h:(l.any λx=>!f x)=false):l.all f=true:=by rw [Lf] at h;simpa using h
def Tq(D:Nat)(x:aD)(hs:x.bt)(hw:x.wt <= 900000000)(hD:D <= 1000)(ih1:∀(s:aH),aT prog 115 [cL (.c (aG encS x.thn)),aj ((D:Int)+1)] [] s λt s'=>t=au (dG (D+1) x.thn) /\ s'=s)(ih2:∀(s:aH),aT prog 115 [cL (.c (aG encS x.els)),aj ((D:Int)+1)] [] s λt s'=>t=au (dG (D+1) x.els) /\ s'=s)(s:aH):aT prog 134 [cL (.agg (cm x)),ab D] [] s λt s'=>t=au (f6 D x) /\ s'=s:=by
 obtain ⟨bx,rw⟩:=s;obtain ⟨hsn,hse,Bk,hsa,hst,Fd⟩:=nE hs;rw [f9] at hw;unfold cD.wt at hw;have hwa:=px x.args;refine bM 119 func134 ?_;refine go 10 λb1=>?_;refine pM J call150 J (UG x _) (go 14 λb2=>?_);rcases bz (!gT x) with h1|h1
 ·refine aC J (cP (bH (qk h1)) (jK J J)) (go 4 ?_);refine pK [(13,au (fK x)),(0,cL (.agg (cm x))),(1,ab D),(2,aE b1),(5,aE b2),(6,au (!gT x))] ?_ ?_
  ·refine go 2 ?_;rcases bz (fl x) with h3|h3
   ·refine aC J (cP (bH h3) (cW [] dJ dI)) (go 3 ?_);rcases bz (cH x.name) with h4|h4;rotate_left;all_goals
     refine d9 0 J qv J (qg x.name hsn _) h4 (go 4 ?_);exact ⟨J,(av J (bH (by unfold fK;rw [h3,h4];rfl)) (ao J))⟩
   refine aC J (cP (bH h3) (cW [] dJ dI)) (go 8 ?_);exact ⟨J,(av J (bH (by unfold fK;rw [h3];rfl)) (ao J))⟩
  refine iD J (λh5=>?_) (λh5=>?_)
  ·refine go 2 ?_;refine rR J h5 ?_;refine go 8 ?_;exact bF bx rw J fB ⟨bZ (by rw [ki,h5];simp),J⟩
  refine pK [(13,au (fe x)),(0,cL (.agg (cm x))),(1,ab D),(2,aE b1),(5,aE b2),(6,au (!gT x))] ?_ ?_
  ·refine go 2 ?_;rcases bz (fl x) with h6|h6
   ·refine aC J (cP (bH h6) (cW [] dJ dI)) (go 8 ?_);exact ⟨J,(av J (bH (by unfold fe;rw [h6];rfl)) (ao J))⟩
   refine aC J (cP (bH h6) (cW [] dJ dI)) (go 4 ?_);by_cases h7:x.name=ay
   ·refine aC J (fS false J J J (A_ h7)) (go 3 ?_);exact ⟨J,(av J (bH (by unfold fe;rw [h6,decide_eq_true h7];rfl)) (ao J))⟩
   refine aC J (fS true J J J (Dt h7)) (go 3 ?_);exact ⟨J,(av J (bH (by unfold fe;rw [h6,decide_eq_false h7];rfl)) (ao J))⟩
  refine iD J (λh8=>?_) (λh8=>?_)
  ·refine go 2 ?_;refine rR J h8 ?_;refine go 8 ?_;exact bF bx rw J fB ⟨bZ (by rw [ki,h8];simp),J⟩
  refine pK [(13,au (ou x)),(0,cL (.agg (cm x))),(1,ab D),(2,aE b1),(5,aE b2),(6,au (!gT x))] ?_ ?_
  ·refine go 2 ?_;rcases bz (f5 x) with h9|h9
   ·refine aC J (cP (bH h9) (cW [] dJ dI)) (go 3 ?_);rcases bz (fI x.expr) with h10|h10;rotate_left;all_goals
     refine d9 0 J call151 J (zU x.expr Y hse _) h10 (go 4 ?_);exact ⟨J,(av J (bH (by unfold ou;rw [h9,h10];rfl)) (ao J))⟩
   refine aC J (cP (bH h9) (cW [] dJ dI)) (go 8 ?_);exact ⟨J,(av J (bH (by unfold ou;rw [h9];rfl)) (ao J))⟩
  refine iD J (λh11=>?_) (λh11=>?_)
  ·refine go 2 ?_;refine rR J h11 ?_;refine go 8 ?_;exact bF bx rw J fB ⟨bZ (by rw [ki,h11];simp),J⟩
  refine pK [(13,au (tk x)),(0,cL (.agg (cm x))),(1,ab D),(2,aE b1),(5,aE b2),(6,au (!gT x))] ?_ ?_
  ·refine go 2 ?_;rcases bz (f5 x) with h12|h12
   ·refine aC J (cP (bH h12) (cW [] dJ dI)) (go 9 ?_);exact ⟨J,(av J (bH (by unfold tk;rw [h12];rfl)) (ao J))⟩
   refine aC J (cP (bH h12) (cW [] dJ dI)) (go 4 ?_);rcases bz (kp x.expr) with CD|CD;rotate_left;all_goals
    refine tS J call152 J (FU x.expr _) CD (go 4 ?_);exact ⟨J,(av J (bH (by unfold tk;rw [h12,CD];rfl)) (ao J))⟩
  refine iD J (λn9=>?_) (λn9=>?_)
  ·refine go 2 ?_;refine rR J n9 ?_;refine go 8 ?_;exact bF bx rw J fB ⟨bZ (by rw [ki,n9];simp),J⟩
  refine pK [(13,au (tX x)),(0,cL (.agg (cm x))),(1,ab D),(2,aE b1),(5,aE b2),(6,au (!gT x))] ?_ ?_
  ·refine go 2 ?_;rcases bz (gB x) with sh|sh
   ·refine aC J (cP (bH sh) (cW [] dJ dI)) (go 3 ?_);rcases bz (okRefB x.ref) with h16|h16;rotate_left;all_goals
     refine d9 0 J call153 J (N2 x.ref Bk Y _) h16 (go 4 ?_);exact ⟨J,(av J (bH (by unfold tX;rw [sh,h16];rfl)) (ao J))⟩
   refine aC J (cP (bH sh) (cW [] dJ dI)) (go 8 ?_);exact ⟨J,(av J (bH (by unfold tX;rw [sh];rfl)) (ao J))⟩
  refine iD J (λwd=>?_) (λwd=>?_)
  ·refine go 2 ?_;refine rR J wd ?_;refine go 8 ?_;exact bF bx rw J fB ⟨bZ (by rw [ki,wd];simp),J⟩
  refine pK [(13,au (sk x)),(0,cL (.agg (cm x))),(1,ab D),(2,aE b1),(5,aE b2),(6,au (!gT x))] ?_ ?_
  ·refine go 2 ?_;rcases bz (gB x) with h18|h18
   ·refine aC J (cP (bH h18) (cW [] dJ dI)) (go 9 ?_);exact ⟨J,(av J (bH (by unfold sk;rw [h18];rfl)) (ao J))⟩
   refine aC J (cP (bH h18) (cW [] dJ dI)) (go 4 ?_);rcases bz (mE x.ref) with h19|h19;rotate_left;all_goals
    refine tS J call154 J (GX x.ref _) h19 (go 4 ?_);exact ⟨J,(av J (bH (by unfold sk;rw [h18,h19];rfl)) (ao J))⟩
  refine iD J (λh20=>?_) (λh20=>?_)
  ·refine go 2 ?_;refine rR J h20 ?_;refine go 8 ?_;exact bF bx rw J fB ⟨bZ (by rw [ki,h20];simp),J⟩
  refine pK [(13,au (ru x)),(0,cL (.agg (cm x))),(1,ab D),(2,aE b1),(5,aE b2),(6,au (!gT x))] ?_ ?_
  ·refine go 2 ?_;rcases bz (gP x) with h21|h21
   ·refine aC J (cP (bH h21) (cW [] dJ dI)) (go 9 ?_);exact ⟨J,(av J (bH (by unfold ru;rw [h21];rfl)) (ao J))⟩
   refine aC J (cP (bH h21) (cW [] dJ dI)) (go 5 ?_);by_cases h22:(0:Int)<(x.args.length:Int)
   ·refine aJ J (fF h22) (go 3 ?_);exact ⟨J,(av J (bH (by unfold ru;rw [h21,decide_eq_false (show ¬x.args.length=0 by omega)];rfl)) (ao J))⟩
   refine aF J (fE h22) (go 3 ?_);exact ⟨J,(av J (bH (by unfold ru;rw [h21,decide_eq_true (show x.args.length=0 by omega)];rfl)) (ao J))⟩
  refine iD J (λh23=>?_) (λh23=>?_)
  ·refine go 2 ?_;refine rR J h23 ?_;refine go 8 ?_;exact bF bx rw J fB ⟨bZ (by rw [ki,h23];simp),J⟩
  refine pK [(13,au (rA x)),(0,cL (.agg (cm x))),(1,ab D),(2,aE b1),(5,aE b2),(6,au (!gT x))] ?_ ?_
  ·refine go 2 ?_;rcases bz (f_ x) with D0|D0
   ·refine aC J (cP (bH D0) (cW [] dJ dI)) (go 9 ?_);exact ⟨J,(av J (bH (by unfold rA;rw [D0];rfl)) (ao J))⟩
   refine aC J (cP (bH D0) (cW [] dJ dI)) (go 5 ?_);by_cases BT:(0:Int)<(x.thn.length:Int)
   ·refine aJ J (fF BT) (go 3 ?_);exact ⟨J,(av J (bH (by unfold rA;rw [D0,decide_eq_false (show ¬x.thn.length=0 by omega)];rfl)) (ao J))⟩
   refine aF J (fE BT) (go 3 ?_);exact ⟨J,(av J (bH (by unfold rA;rw [D0,decide_eq_true (show x.thn.length=0 by omega)];rfl)) (ao J))⟩
  refine iD J (λws=>?_) (λws=>?_)
  ·refine go 2 ?_;refine rR J ws ?_;refine go 8 ?_;exact bF bx rw J fB ⟨bZ (by rw [ki,ws];simp),J⟩
  refine go 2 ?_;rcases bz (jZ x) with h27|h27
  ·refine aC J (cP (bH h27) (cW [] dJ dI)) (go 19 ?_);rcases bz (x.args.any λa=>!fc a) with PA|PA
   ·refine d9 0 J call155 J (BK (λa=>!fc a) x.args 156 #[] _ Y call156 BR) PA (go 10 ?_);exact bF bx rw J fB ⟨bZ (by rw [ki,AW PA];simp),J⟩
   refine d9 0 J call155 J (BK (λa=>!fc a) x.args 156 #[] _ Y call156 BR) PA (go 8 ?_);rcases bz (f_ x) with h32|h32
   ·refine aC J (cP (bH h32) (cW [] dJ dI)) (go 5 ?_);refine bK J ?_;rcases bz (dG (D+1) x.thn) with MT|MT
    ·refine d9 0 J ud J (ih1 _) MT (go 4 ?_);by_cases h34:(x.els.length:Int)=0
     ·refine aJ J (bR h34) (go 13 ?_);exact bF bx rw J fB ⟨bZ (by rw [ki,h1,h5,h8,h11,n9,wd,h20,h23,ws,show jG x=false by unfold jG;rw [h27];rfl,pm PA,show ae D x=true by unfold ae;rw [h32,MT,decide_eq_true (show x.els.length=0 by omega)];rfl];rfl),J⟩
     refine aF J (bN h34) (go 4 ?_);refine bK J ?_;rcases bz (dG (D+1) x.els) with h35|h35
     ·refine d9 0 J ud J (ih2 _) h35 (go 7 ?_);exact bF bx rw J fB ⟨bZ (by rw [ki,h1,h5,h8,h11,n9,wd,h20,h23,ws,show jG x=false by unfold jG;rw [h27];rfl,pm PA,show ae D x=true by unfold ae;rw [h32,MT,decide_eq_false (show ¬x.els.length=0 by omega),h35];rfl];rfl),J⟩
     refine d9 0 J ud J (ih2 _) h35 (go 7 ?_);exact bF bx rw J fB ⟨bZ (by rw [ki,h1,h5,h8,h11,n9,wd,h20,h23,ws,show jG x=false by unfold jG;rw [h27];rfl,pm PA,show ae D x=false by unfold ae;rw [h32,MT,decide_eq_false (show ¬x.els.length=0 by omega),h35];rfl];rfl),J⟩
    refine d9 0 J ud J (ih1 _) MT (go 18 ?_);exact bF bx rw J fB ⟨bZ (by rw [ki,h1,h5,h8,h11,n9,wd,h20,h23,ws,show jG x=false by unfold jG;rw [h27];rfl,pm PA,show ae D x=false by unfold ae;rw [h32,MT];rfl];rfl),J⟩
   refine aC J (cP (bH h32) (cW [] dJ dI)) (go 25 ?_);exact bF bx rw J fB ⟨bZ (by rw [ki,h1,h5,h8,h11,n9,wd,h20,h23,ws,show jG x=false by unfold jG;rw [h27];rfl,pm PA,show ae D x=true by unfold ae;rw [h32];rfl];rfl),J⟩
  refine aC J (cP (bH h27) (cW [] dJ dI)) (go 5 ?_);by_cases h36:(0:Int)<(x.els.length:Int)
  ·refine aJ J (fF h36) (go 13 ?_);exact bF bx rw J fB ⟨bZ (by rw [ki,show jG x=true by unfold jG;rw [h27,decide_eq_false (show ¬x.els.length=0 by omega)];rfl];simp),J⟩
  refine aF J (fE h36) (go 13 ?_);rcases bz (x.args.any λa=>!fc a) with Vc|Vc
  ·refine d9 0 J call155 J (BK (λa=>!fc a) x.args 156 #[] _ Y call156 BR) Vc (go 10 ?_);exact bF bx rw J fB ⟨bZ (by rw [ki,AW Vc];simp),J⟩
  refine d9 0 J call155 J (BK (λa=>!fc a) x.args 156 #[] _ Y call156 BR) Vc (go 8 ?_);rcases bz (f_ x) with h42|h42
  ·refine aC J (cP (bH h42) (cW [] dJ dI)) (go 5 ?_);refine bK J ?_;rcases bz (dG (D+1) x.thn) with h43|h43
   ·refine d9 0 J ud J (ih1 _) h43 (go 4 ?_);refine aJ J (bR Y) (go 13 ?_);exact bF bx rw J fB ⟨bZ (by rw [ki,h1,h5,h8,h11,n9,wd,h20,h23,ws,show jG x=false by unfold jG;rw [h27,decide_eq_true (show x.els.length=0 by omega)];rfl,pm Vc,show ae D x=true by unfold ae;rw [h42,h43,decide_eq_true (show x.els.length=0 by omega)];rfl];rfl),J⟩
   refine d9 0 J ud J (ih1 _) h43 (go 18 ?_);exact bF bx rw J fB ⟨bZ (by rw [ki,h1,h5,h8,h11,n9,wd,h20,h23,ws,show jG x=false by unfold jG;rw [h27,decide_eq_true (show x.els.length=0 by omega)];rfl,pm Vc,show ae D x=false by unfold ae;rw [h42,h43];rfl];rfl),J⟩
  refine aC J (cP (bH h42) (cW [] dJ dI)) (go 25 ?_);exact bF bx rw J fB ⟨bZ (by rw [ki,h1,h5,h8,h11,n9,wd,h20,h23,ws,show jG x=false by unfold jG;rw [h27,decide_eq_true (show x.els.length=0 by omega)];rfl,pm Vc,show ae D x=true by unfold ae;rw [h42];rfl];rfl),J⟩
 refine aC J (cP (bH (qh h1)) (jK J J)) (go 15 ?_);exact bF bx rw J fB ⟨bZ (by rw [ki,h1];simp),J⟩
def VP(D:Nat)(x:aD)(d:Nat)(bx:List aV)(rw:List aQ)(hst:∀s:aH,aT prog 134 [cL (.agg (cm x)),ab D] [] s λt s'=>t=au (f6 D x) /\ s'=s):aT prog 133 [cL (.agg (cm x)),aE d] [] ⟨⟨d,3,[am D]⟩::bx,rw⟩ λt s'=>t=au (!f6 D x) /\ s'=⟨⟨d,3,[am D]⟩::bx,rw⟩:=by
 refine bM 8 func133 ?_;refine go 10 λb1=>?_;rcases bz (f6 D x) with h1|h1;rotate_left;all_goals
  refine d9 0 J call134 J (hst _) h1 (go 5 ?_);exact ⟨.inr J,_,⟨⟨d,3,[am D]⟩::bx,rw⟩,bJ J (bO J),ah bG (.refl _),bZ xn,J⟩
def PP(D:Nat)(l:List aD)(hl:l.length <= 1000000000)(hst:D<24 -> ∀k (h:k<l.length) (s:aH),aT prog 134 [cL (.agg (cm l[k])),ab D] [] s λt s'=>t=au (f6 D l[k]) /\ s'=s)(s:aH):aT prog 115 [cL (.c (aG encS l)),ab D] [] s λt s'=>t=au (dG D l) /\ s'=s:=by
 obtain ⟨bx,rw⟩:=s;refine bM 11 func115 ?_;refine go 10 λb1=>?_;by_cases h1:(24:Int) <= (D:Int)
 ·refine aJ J (oJ h1) (go 10 ?_);exact bF bx rw J cU ⟨bZ (by rw [uY,decide_eq_false Y];rfl),J⟩
 refine aF J (pF h1) (go 8 ?_);refine aC J (O9 (vs:=[.pointer (some ⟨b1,0,none⟩)]) J J) ?_;rcases bz (l.any λx=>!f6 D x) with h4|h4
 ·refine d9 0 J call132 J (KT (λx=>!f6 D x) l 133 #[.pointer (some ⟨b1,0,none⟩)] _ hl call133 Ki) h4 (go 5 ?_);exact bF bx rw J cU ⟨bZ (by rw [uY,decide_eq_true Y,AW h4];rfl),J⟩
 refine d9 0 J call132 J (KT (λx=>!f6 D x) l 133 #[.pointer (some ⟨b1,0,none⟩)] _ hl call133 Ki) h4 (go 5 ?_);exact bF bx rw J cU ⟨bZ (by rw [uY,decide_eq_true Y,pm h4];rfl),J⟩
def JP:∀(N D:Nat)(l:List aD),an l <= N -> N <= 900000000 -> D <= 24 -> eI l -> ∀s:aH,aT prog 115 [cL (.c (aG encS l)),ab D] [] s λt s'=>t=au (dG D l) /\ s'=s
 |0,D,l,h,_,_,_,s=>PP D l pP (λ_ k hk=>absurd (ol l) Y) s
 |N+1,D,l,h,hN,hD,hs,s=>PP D l pP (λhd k hk s=>by
   have hw:=rH l k hk;have h1:=hw;rw [f9] at h1;have hsk:=tg _ hs _ (getElem_mem hk);obtain ⟨-,-,-,-,hst,Fd⟩:=nE hsk;exact Tq D l[k] hsk Y Y (λs=>JP N (D+1) _ Y Y Y hst s) (λs=>JP N (D+1) _ Y Y Y Fd s) s) s
def Nq(x:bg)(hx:x.name.size <= 4611686018427387904)(s:aH):aT prog 114 [cL (.agg (cE x))] [] s λt s'=>t=au (!cH x.name) /\ s'=s:=by
 obtain ⟨bx,rw⟩:=s;refine bM 7 func114 ?_;refine go 10 λb1=>?_;rcases bz (cH x.name) with h1|h1;rotate_left;all_goals
  refine d9 0 J qv J (qg x.name hx _) h1 (go 5 ?_);exact bF bx rw J cU ⟨bZ xn,J⟩
def Sm(f:a_)(hs:f.bt)(hw:f.wt <= 900000000)(s:aH):aT prog 91 [cL (.agg (bT f))] [] s λt s'=>t=au (gh f) /\ s'=s:=by
 obtain ⟨bx,rw⟩:=s;unfold a_.wt at hw;refine bM 23 func91 ?_;refine go 10 λb1=>?_;rcases bz (cH f.name) with h1|h1
 ·refine d9 0 J qv J (qg f.name hs.1 _) h1 (go 4 ?_);by_cases h2:(f.params.length:Int) <= 6
  ·refine aJ J (zw h2) (go 4 ?_);rcases bz (f.params.any λx=>!cH x.name) with h3|h3
   ·refine d9 0 J call113 J (KY (λx=>!cH x.name) f.params 114 #[] _ Y call114 (λk hk=>Nq _ (hs.2.1 _ (getElem_mem _)) _)) h3 (go 11 ?_);exact bF bx rw J cU ⟨bZ (by unfold gh;rw [AW (f:=λx:bg=>cH x.name) h3,ra]),J⟩
   refine d9 0 J call113 J (KY (λx=>!cH x.name) f.params 114 #[] _ Y call114 (λk hk=>Nq _ (hs.2.1 _ (getElem_mem _)) _)) h3 (go 5 ?_);rcases bz (dG 0 f.body) with h4|h4;rotate_left;all_goals
    refine d9 0 J ud J (JP _ 0 f.body (bY _) Y Y hs.2.2 _) h4 (go 5 ?_);exact bF bx rw J cU ⟨bZ (by unfold gh;rw [h1,decide_eq_true (show f.params.length <= 6 by omega),pm (f:=λx:bg=>cH x.name) h3,h4];rfl),J⟩
  refine aF J (AP h2) (go 16 ?_);exact bF bx rw J cU ⟨bZ (by unfold gh;rw [h1,decide_eq_false (show ¬f.params.length <= 6 by omega)];rfl),J⟩
 refine d9 0 J qv J (qg f.name hs.1 _) h1 (go 21 ?_);exact bF bx rw J cU ⟨bZ (by unfold gh;rw [h1];rfl),J⟩
def S7(f:a_)(hs:f.bt)(hw:f.wt <= 900000000)(s:aH):aT prog 90 [cL (.agg (bT f))] [] s λt s'=>t=au (!gh f) /\ s'=s:=by
 obtain ⟨bx,rw⟩:=s;refine bM 6 func90 ?_;refine go 9 λb1=>?_;rcases bz (gh f) with h1|h1;rotate_left;all_goals
  refine d9 0 J call91 J (Sm f hs hw _) h1 (go 5 ?_);exact bF bx rw J cU ⟨bZ xn,J⟩
def nD(p:aX):Bool:=decide (p.globals.length <= 16 /\ p.mutexes.length <= 12 /\ p.funcs.length <= 16) && p.globals.all lL && p.mutexes.all iu
def Fp{p:aX}(h:¬(p.globals.length <= 16 /\ p.mutexes.length <= 12 /\ p.funcs.length <= 16)):nD p=false:=by unfold nD;rw [decide_eq_false h];rfl
def QA{p:aX}(k:Nat)(h:k<p.globals.length)(hb:lL p.globals[k]=false):nD p=false:=by unfold nD;rw [qb _ _ k h hb];simp
def Dz{p:aX}(k:Nat)(h:k<p.mutexes.length)(hb:iu p.mutexes[k]=false):nD p=false:=by unfold nD;rw [qb _ _ k h hb];simp
def Qg(p:aX)(hs:p.bt)(hw:p.wt <= 100000000)(s:aH):aT prog 88 [cL (.agg (di p))] [] s λt s'=>t=au (nD p) /\ s'=s:=by
 obtain ⟨bx,rw⟩:=s;have hw1:=hw;unfold aX.wt at hw1;have hfn:=po a_.wt (λx=>q_) p.funcs;refine bM 71 func88 ?_;refine go 12 λb1=>?_;by_cases h1:(16:Int)<(p.globals.length:Int)
 ·refine aJ J (fF h1) (go 22 ?_);exact bF bx rw J cU ⟨bZ (Fp Y),J⟩
 refine aF J (fE h1) (go 4 ?_);by_cases h3:(12:Int)<(p.mutexes.length:Int)
 ·refine aJ J (fF h3) (go 17 ?_);exact bF bx rw J cU ⟨bZ (Fp Y),J⟩
 refine aF J (fE h3) (go 5 ?_);by_cases h5:(16:Int)<(p.funcs.length:Int)
 ·refine aJ J (fF h5) (go 11 ?_);exact bF bx rw J cU ⟨bZ (Fp Y),J⟩
 refine aF J (fE h5) (go 16 ?_);refine jr (λk=>∀q (h:q<p.globals.length),q<k -> lL p.globals[q]=true) (p.globals.length) 26 (λk=>[(0,cL (.agg (di p))),(1,aE b1),(24,.c (aG cR p.globals)),(25,ab p.globals.length)]) nR (ao J) λk hk hvk=>?_;replace hvk:∀q (h:q<p.globals.length),q<k -> lL p.globals[q]=true:=hvk
 try dsimp only
 refine go 2 ?_;by_cases h8:(k:Int)<(p.globals.length:Int)
 ·refine aJ J (cw h8) (go 10 ?_);refine aC J (bX cR cR p.globals nt (λ_=>J) k J J J J Y V mp jU) (go 7 λb2=>?_);have hgs:=hs.globals p.globals[k] (getElem_mem _);refine go 2 ?_;rcases bz (cH p.globals[k].name) with h10|h10
  ·refine d9 0 J qv J (qg p.globals[k].name hgs.2 _) h10 (go 4 ?_);by_cases h11:p.globals[k].init=-9223372036854775808
   ·refine aJ J (bR h11) (go 15 ?_);exact bF bx rw J fB ⟨bZ (QA k Y (by unfold lL;rw [h10,decide_eq_false Y];rfl)),J⟩
   refine aF J (bN h11) (go 8 ?_);refine bK J (go 2 ?_);exact ⟨Y,(λq hq hlt2=>(jn q k).elim (λh9=>hvk q hq h9) (λh9=>by have h8:k=q:=Y;subst h8;exact (by unfold lL;rw [h10,decide_eq_true Y];rfl))),az (h1:=bG) (h:=av J (b_ Y) (ao J)) (λb hb=>d_ _ (hb))⟩
  refine d9 0 J qv J (qg p.globals[k].name hgs.2 _) h10 (go 20 ?_);exact bF bx rw J fB ⟨bZ (QA k Y (by unfold lL;rw [h10];rfl)),J⟩
 refine aF J (ct h8) (go 19 ?_);refine jr (λi=>∀q (h:q<p.mutexes.length),q<i -> iu p.mutexes[q]=true) (p.mutexes.length) 43 (λi=>[(0,cL (.agg (di p))),(1,aE b1),(41,.c (aG bB p.mutexes)),(42,ab p.mutexes.length)]) nR (ao J) λi hi hvi=>?_;replace hvi:∀q (h:q<p.mutexes.length),q<i -> iu p.mutexes[q]=true:=hvi
 try dsimp only
 refine go 2 ?_;by_cases h16:(i:Int)<(p.mutexes.length:Int)
 ·refine aJ J (cw h16) (go 10 ?_);refine aC J (bX bB bB p.mutexes lC (λ_=>J) i J J J J Y V j6 fp) (go 7 λb3=>?_);have hms:=hs.mutexes p.mutexes[i] (getElem_mem _);refine go 2 ?_;rcases bz (cH p.mutexes[i].name) with h18|h18
  ·refine d9 0 J qv J (qg p.mutexes[i].name hms.2 _) h18 (go 4 ?_);by_cases h19:p.mutexes[i].size<0
   ·refine aJ J (cw h19) (go 29 ?_);exact bF bx rw J fB ⟨bZ (Dz i Y EV),J⟩
   refine aF J (ct h19) (go 4 ?_);by_cases h21:(64:Int)<p.mutexes[i].size
   ·refine aJ J (fF h21) (go 24 ?_);exact bF bx rw J fB ⟨bZ (Dz i Y EV),J⟩
   refine aF J (fE h21) (go 3 ?_);rcases bz (p.mutexes[i].ex) with h23|h23
   ·refine aC J (cP (bH h23) (cW [] dJ dI)) (go 3 ?_);by_cases D0:(0:Int)<p.mutexes[i].size
    ·refine aJ J (fF D0) (go 16 ?_);exact bF bx rw J fB ⟨bZ (Dz i Y (by unfold iu;rw [h18,decide_eq_true (show 0 <= p.mutexes[i].size /\ p.mutexes[i].size <= 64 by omega),h23,decide_eq_true (show 0<p.mutexes[i].size by omega)];rfl)),J⟩
    refine aF J (fE D0) (go 9 ?_);refine bK J (go 2 ?_);exact ⟨Y,(λq hq hlt2=>(jn q i).elim (λh9=>hvi q hq h9) (λh9=>by have h8:i=q:=Y;subst h8;exact (by unfold iu;rw [h18,decide_eq_true (show 0 <= p.mutexes[i].size /\ p.mutexes[i].size <= 64 by omega),h23,decide_eq_false (show ¬0<p.mutexes[i].size by omega)];rfl))),az (h1:=bG) (h:=av J (b_ Y) (ao J)) (λb hb=>d_ _ (hb))⟩
   refine aC J (cP (bH h23) (cW [] dJ dI)) (go 13 ?_);refine bK J (go 2 ?_);exact ⟨Y,(λq hq hlt2=>(jn q i).elim (λh9=>hvi q hq h9) (λh9=>by have h8:i=q:=Y;subst h8;exact (by unfold iu;rw [h18,decide_eq_true (show 0 <= p.mutexes[i].size /\ p.mutexes[i].size <= 64 by omega),h23];rfl))),az (h1:=bG) (h:=av J (b_ Y) (ao J)) (λb hb=>d_ _ (hb))⟩
  refine d9 0 J qv J (qg p.mutexes[i].name hms.2 _) h18 (go 34 ?_);exact bF bx rw J fB ⟨bZ (Dz i Y (by unfold iu;rw [h18];rfl)),J⟩
 refine aF J (ct h16) (go 15 ?_);exact bF bx rw J cU ⟨bZ (by unfold nD;rw [decide_eq_true Y,yE _ _ (λq hq=>hvk q hq Y),yE _ _ (λq hq=>hvi q hq Y)];rfl),J⟩
def Yj(A B:List aV)(W m:Nat)(v:aN)(bs:List UInt8)(rw:List aQ):aT prog 158 [aE W] [W] (dD A W m none v bs B rw) λt s'=>t=.fd [] /\ s'=dD A W m (some ⟨W,0,none⟩) v bs B rw:=by
 refine bM 20 func158 ?_;refine go 6 ?_;refine aC J (cP (bH (show (none:Option Addr).isNone=true from J)) (L3 (j:=Tryz.t178) J J J AH aL)) (go 6 ?_);refine aC J (RV (j:=Tryz.t178) A J J J AH underlying239 aL V (Nat.succ_pos _) aM) ?_;refine aC J (XB J J func176 aL aL aL aL) ?_;refine aC J (RS (j:=Tryz.t178) A J J J underlying239 AH aL aL aM) (go 4 ?_);exact ⟨.inl J,_,dD A W m (some ⟨W,0,none⟩) v bs B rw,fg J,ah (.refl _) (.refl _),J,J⟩
def Td(A B:List aV)(W m:Nat)(v:aN)(bs:List UInt8)(rw:List aQ):aT prog 158 [aE W] [W] (dD A W m (some ⟨W,0,none⟩) v bs B rw) λt s'=>t=.fd [] /\ s'=dD A W m (some ⟨W,0,none⟩) v bs B rw:=by
 refine bM 20 func158 ?_;refine go 6 ?_;refine aC J (cP (bH (show (some ⟨W,0,none⟩:Option Addr).isNone=false from J)) (L3 (j:=Tryz.t178) J J J AH aL)) (go 10 ?_);refine aC J (Y_ (j:=Tryz.t178) J J J AH aL) (go 4 ?_);exact ⟨.inl J,_,dD A W m (some ⟨W,0,none⟩) v bs B rw,fg J,ah (.refl _) (.refl _),J,J⟩
def Oy(A B:List aV)(W m:Nat)(a:Option Addr)(v:aN)(bs:List UInt8)(rw:List aQ)(ha:gD W a):aT prog 158 [aE W] [W] (dD A W m a v bs B rw) λt s'=>t=.fd [] /\ s'=dD A W m (some ⟨W,0,none⟩) v bs B rw:=by
 rcases ha with rfl|rfl
 ·exact Yj A B W m v bs rw
 exact Td A B W m v bs rw
def Om(c:UInt8)(A B:List aV)(W m:Nat)(a:Option Addr)(v:aN)(bs:List UInt8)(rw:List aQ)(ha:gD W a)(hb:bs.length <= 100000000000000):aT prog 135 [aE W,ap (.int .u8 (c.toNat:Int))] (W::aR v) (dD A W m a v bs B rw) λt s'=>t=ap .nilIface /\ ∃a' v',gD W a' /\ s'=dD A W m a' v' (bs++[c]) B rw:=by
 refine bM 17 func135 ?_;refine go 8 ?_;refine aW J (bo [W] J J V call158 J (Oy A B W m a v bs rw ha) (ba) (ba (h:=by simp [aH.bl])) (λ_=>ba) ?_);rintro _ _ ⟨rfl,rfl⟩;refine go 10 ?_;refine aW J (bU (r:=cb [c]) ku ?_);refine aW J (dS [] w_ J J V cO Y (show bs.length+1=(bs++[c]).length by simp only [length_append,length_cons,length_nil]) fy co (pn bs [c]) λw1=>?_);refine go 11 ?_;exact ⟨.inr J,_,dD A W m (some ⟨W,0,none⟩) w1 _ B rw,bJ J (bO J),ah (.refl _) (.refl _),J,(some ⟨W,0,none⟩),w1,.inr J,J⟩
def T5(x:aI)(A B:List aV)(W m:Nat)(a:Option Addr)(v:aN)(bs:List UInt8)(rw:List aQ)(ha:gD W a)(hb:bs.length+x.data.toList.length <= 100000000000000):aT prog 136 [aE W,cK x] (W::aR v) (dD A W m a v bs B rw) λt s'=>t=.fd [ab x.size,ap .nilIface] /\ ∃a' v',gD W a' /\ s'=dD A W m a' v' (bs++x.data.toList) B rw:=by
 refine bM 19 func136 ?_;refine go 9 ?_;refine aW J (bo [W] J J V call158 J (Oy A B W m a v bs rw ha) (ba) (ba (h:=by simp [aH.bl])) (λ_=>ba) ?_);rintro _ _ ⟨rfl,rfl⟩;refine go 10 ?_;refine aW J (AL [] Tryz.t5 (z:=x) J J V J J ky dz aL J J J (by unfold maxLen;show bs.length+x.data.toList.length <= _;omega) (by show bs.length+x.data.toList.length <= _;omega) (@length_append _ bs x.data.toList).symm J fy co (pn bs x.data.toList) λw1=>?_);refine go 14 ?_;exact ⟨.inr J,_,dD A W m (some ⟨W,0,none⟩) w1 _ B rw,jA J (bO J) (bO J),ah (.refl _) (.refl _),J,(some ⟨W,0,none⟩),w1,.inr J,J⟩
def dO(m:Nat)(ps:List ByteArray):List UInt8:=List.replicate m 9++(ps.map λx=>x.data.toList).flatten++[10]
def lZ(ps:List ByteArray):List UInt8:=(ps.map λx=>x.data.toList).flatten
def Ld(ps:List aI)(k:Nat)(h:k<ps.length):lZ (ps.take (k+1))=lZ (ps.take k)++ps[k].data.toList:=by
 unfold lZ;rw [gX h,e1,GU];simp only [ca,d7,jd,ly,eY]
def Jd:∀(ps:List aI)(k:Nat),(lZ (ps.take k)).length <= (lZ ps).length
 |[],k=>aM
 |x::ps,0=>by simp [lZ]
 |x::ps,k+1=>by
  have:=Jd ps k;simp only [lZ,jb,ca,jd,length_append] at this⊢;omega
def YX(ps:List aI)(k:Nat)(h:k<ps.length):(lZ (ps.take k)).length+ps[k].data.toList.length <= (lZ ps).length:=by
 have h1:=Jd ps (k+1);rw [Ld ps k h,length_append] at h1;exact h1
def WX(m:Nat)(ps:List aI):(dO m ps).length=m+(lZ ps).length+1:=by unfold dO lZ;simp [qQ]
def SV(bs:List UInt8)(m:Nat)(ps:List aI):bs++dO m ps≠[]:=by unfold dO;simp
def lU(ps:List aI)(A B:List aV)(W m:Nat)(a:Option Addr)(v:aN)(bs:List UInt8)(rw:List aQ)(ha:gD W a)(hps:ps.length <= 1000000)(hb:bs.length+(dO m ps).length <= 100000000000000):aT prog 116 [aE W,.c (.sl ps.length (ps.map λx=>ac x))] (W::aR v) (dD A W m a v bs B rw) λt s'=>t=.fd [] /\ ∃a' v',gD W a' /\ s'=dD A W m a' v' (bs++dO m ps) B rw:=by
 have hll:=WX m ps;refine bM 33 func116 ?_;refine go 11 ?_;refine ji (α:=Option Addr×aN) (λj g=>gD W g.1) (m) 10 (λg=>aR g.2++[W]) (λj g=>dD A W m g.1 g.2 (bs++List.replicate j 9) B rw) (λj=>[(0,aE W),(1,.c (.sl ps.length (ps.map λx=>ac x))),(9,ab m)]) (a,v) ha (mn (h:=ao J) (.refl _) (ij (A:=A) (aM:bs=(bs++List.replicate 0 9)))) ?_;rintro j ⟨a1,v1⟩ hj hC1;dsimp only at hC1
 try dsimp only
 refine go 2 ?_;by_cases h2:(j:Int)<(m:Int)
 ·refine aJ J (cw h2) (go 12 ?_);refine aW J (kF J call135 J (Om 9 A B W m a1 v1 (bs++List.replicate j 9) rw hC1 jl) aM co kG λa4 v4 hC4=>?_);refine go 4 ?_;refine bK J (go 2 ?_);exact ⟨Y,(a4,v4),hC4,mn (.refl _) (ij (A:=A) (by rw [List.replicate_succ',append_assoc]:((bs++List.replicate j 9)++[9])=(bs++List.replicate (j+1) 9)))⟩
 refine aF J (ct h2) (go 12 ?_);obtain rfl:m=j:=Y;refine go 6 ?_;refine ji (α:=Option Addr×aN) (λk g=>gD W g.1) (ps.length) 19 (λg=>aR g.2++[W]) (λk g=>dD A W m g.1 g.2 ((bs++List.replicate m 9)++lZ (ps.take k)) B rw) (λk=>[(0,aE W),(17,.c (.sl ps.length (ps.map λx=>ac x))),(18,ab ps.length)]) (a1,v1) hC1 (mn (h:=ao J) (.refl _) (ij (A:=A) (by rw [mZ];exact (eY _).symm:(bs++List.replicate m 9)=((bs++List.replicate m 9)++lZ (ps.take 0))))) ?_;rintro k ⟨a6,v6⟩ hk hC6;dsimp only at hC6
 try dsimp only
 refine go 2 ?_;by_cases h7:(k:Int)<(ps.length:Int)
 ·refine aJ J (cw h7) (go 10 ?_);refine aC J (m0 (λx=>ac x) ps k J J J J Y kj iG) (go 9 ?_);refine aW J (kF J call136 J (T5 ps[k] A B W m a6 v6 ((bs++List.replicate m 9)++lZ (ps.take k)) rw hC6 (by have:=YX ps k Y;(try simp only [length_append,length_cons,length_nil,List.length_replicate]);omega)) aM co kG λa9 v9 hC9=>?_);refine go 4 ?_;refine bK J (go 2 ?_);exact ⟨Y,(a9,v9),hC9,mn (.refl _) (ij (A:=A) (by rw [Ld ps k Y,append_assoc]:(((bs++List.replicate m 9)++lZ (ps.take k))++ps[k].data.toList)=((bs++List.replicate m 9)++lZ (ps.take (k+1)))))⟩
 refine aF J (ct h7) (go 10 ?_);obtain rfl:k=ps.length:=Y;rw [hP];refine go 3 ?_;refine aW J (kF J call135 J (Om 10 A B W m a6 v6 ((bs++List.replicate m 9)++lZ ps) rw hC6 jl) aM co kG λa11 v11 RC=>?_);refine go 1 ?_;exact ⟨.inl J,_,dD A W m a11 v11 _ B rw,fg J,ah (.refl _) (.refl _),J,a11,v11,RC,ij (by unfold dO lZ;simp only [append_assoc])⟩
def AV(e:aS)(hN:e.nodes <= 10000000)(hs:e.bt)(hv:fI e=true)(s:aH):aT prog 161 [cL (.agg (bf e))] [] s λt s'=>t=cK (bytes (cA e)) /\ s'=s:=by
 have h:=Xl e Y hs (λhv=>by have:=yb hs (tP hv);omega) s;unfold Di at h;rw [if_pos hv] at h;exact h
def Dr{α:Type}(f:α -> List UInt8)(l:List α):Lib.join (l.map f) [44,32]=dM f l:=by
 cases l with
 |nil=>rfl
 |cons x r=>rw [ca,Lib.join_cons,dM];unfold Lib.joinTail;rw [o8];rfl
def NU(xs:List ByteArray)(sep:ByteArray)(hN:xs.length <= 10000000)(hlen:(Lib.join (xs.map (·.data.toList)) sep.data.toList).length <= 100000000000000)(s:aH):aT prog 118 [.c (.sl xs.length (xs.map λx=>ac x)),cK sep] [] s λt s'=>t=cK (bytes (Lib.join (xs.map (·.data.toList)) sep.data.toList)) /\ s'=s:=by
 intro vs w hm _ hl hr;obtain ⟨v1,v2,rfl⟩:∃v1 v2,vs=[v1,v2]:=by
  match vs,hl with
  |[x,y],_=>exact ⟨x,y,rfl⟩
 obtain rfl:v2=_:=(show cS _ (.c (.val (.string sep))) v2 from hr 1 aM aM).val;have h1:cS (bh s.bl w) (.c (.sl xs.length (xs.map λx=>ac x))) v1:=hr 0 aM aM;cases h1 with
 |c _ _ h1=>cases h1 with
  |sl _ _ us _ hra hul hu hcap=>
   have hR:dA (bh s.bl w) ((xs.map Value.string).map .val) us:=by rw [o8];exact ⟨hul,hu⟩
   obtain rfl:=AE hR;obtain ⟨a,cap,rfl,hc,hra⟩:=hra;have key:Calls prog 118 #[.slice a xs.length cap,.string sep] w λe w'=>e=.returned (.string ⟨(Lib.join (xs.map (·.data.toList)) sep.data.toList).toArray⟩) /\ Below w.heap.size w w':=by
    rcases hra with h0|⟨b,off,rfl,hcell⟩
    ·obtain rfl:xs=[]:=by simpa using h0
     exact (Tryz.strings_Join_none a cap sep w).mono λe w' ⟨h1,h2⟩=>by subst h2;exact ⟨h1,Below.refl _ _⟩
    cases xs with
    |nil=>exact (Tryz.strings_Join_none _ cap sep w).mono λe w' ⟨h1,h2⟩=>by subst h2;exact ⟨h1,Below.refl _ _⟩
    |cons x0 xs=>
     have hcell':∀(j:Nat) x,(x0::xs)[j]?=some x -> w.cell? ⟨b,off+j,none⟩=some (.string x):=λj x hj=>(qL (hcell j (.string x) (by rw [nz,hj];rfl))).1;exact Tryz.strings_Join b off cap (x0::xs) sep w hcell' (mj (hcell' 0 x0 J)) Y hc Y
   refine key.mono λe w' ⟨he,hb⟩=>?_;obtain ⟨hk,hm'⟩:=Bf hm hb;exact ⟨_,_,s,he,⟨J,J⟩,cS.c _ _ (.val _ J),hm',hk,λb hb=>.inl hb⟩
def kX(a:bq):ByteArray:=bytes (ew a)
def Q2(l:List bq):(l.map kX).map (·.data.toList)=l.map ew:=Ef
def It(r:cD)(hs:r.bt)(hN:cv r.index <= 10000000)(hok0:okRefB r=true)(s:aH):aT prog 163 [cL (.agg (encR r))] [] s λt s'=>t=cK (bytes (fh r)) /\ s'=s:=by
 obtain ⟨bx,rw⟩:=s;have hok:=B_ hok0;refine bM 19 func163 ?_;refine go 12 λb1=>?_;by_cases h1:(r.index.length:Int)=0
 ·refine aJ J (bR h1) (go 12 ?_);exact bF bx rw J cU ⟨mc Nf,J⟩
 refine aF J (bN h1) (go 6 ?_);refine bu [b1] ?_;have h0:0<r.index.length:=Y;have hnl:r.name.data.toList.length <= 4611686018427387904:=hs.1;have htl:=yb (qN _ hs.2 _ (getElem_mem h0)) (tP (hok.2.2 _ (getElem_mem h0)));have hnn:=pc r.index 0 h0;refine aU [0,1] 9 (go 3 ?_);refine aZ 2 J (ee r.name.data.toList ([91]:List UInt8) J J J (back _) J) (aU [3,4] 6 (go 3 ?_));refine aZ 5 J (bX bV bf r.index fw fR 0 J J J J Y V iR dl) (aU [6] 4 (go 2 ?_));refine aY 7 J J (pV 0 [] J J V call161 J J (AV r.index[0] OC (qN _ hs.2 _ (getElem_mem _)) (hok.2.2 _ (getElem_mem _)) _) dX dX (λ_=>dX) ?_);rintro _ _ ⟨rfl,rfl⟩;refine aZ 8 J (ee (r.name.data.toList++([91]:List UInt8)) (cA r.index[0]) J J J J J) ?_;refine aZ 9 J (ee ((r.name.data.toList++([91]:List UInt8))++(cA r.index[0])) [93] J J J J J) (aU [10] 0 (go 2 ?_));refine bC (go 2 ?_);exact bF bx rw J cU ⟨mc (by rw [BA Y]),J⟩
def R1(a:bq)(hm:a.mutex=false)(hs:a.bt)(hw:a.wt <= 9000000)(hp:(a.mutex=true -> okRefB a.ref=true) /\ (a.mutex=false -> fI a.expr=true))(s:aH):aT prog 161 [cL (.agg (bf a.expr))] [] s λt s'=>t=cK (kX a) /\ s'=s:=by
 unfold kX;rw [wl hm];exact AV a.expr (by unfold bq.wt at hw;omega) hs.2 (hp.2 hm) s
def UN(l:List bq)(hN:l.length <= 10000000)(hlen:(dM ew l).length <= 100000000000000)(s:aH):aT prog 118 [.c (.sl (l.map kX).length ((l.map kX).map λx=>ac x)),cK ⟨#[44,32]⟩] [] s λt s'=>t=cK (bytes (dM ew l)) /\ s'=s:=by
 have h:=NU (l.map kX) ⟨#[44,32]⟩ (by rw [gS];exact hN) (by rw [Q2];rw [show (⟨#[44,32]⟩:aI).data.toList=[44,32] from rfl,Dr];exact hlen) s;rw [Q2,show (⟨#[44,32]⟩:aI).data.toList=[44,32] from rfl,Dr] at h;exact h
def M5(x:aD)(hs:x.bt)(hw:x.wt <= 9000000)(hok:x.args.all fc=true)(hL:(dM ew x.args).length <= 100000000000000)(hln:x.args.length <= 10000000)(s:aH):aT prog 162 [cL (.agg (cm x))] [] s λt s'=>t=cK (bytes (x.name.data.toList++iH x.args++[59])) /\ s'=s:=by
 obtain ⟨bx,rw⟩:=s;obtain ⟨hsn,hse,Bk,hsa,hst,Fd⟩:=nE hs;rw [f9] at hw;have hal:=px x.args;have hnl:x.name.data.toList.length <= 4611686018427387904:=hsn;refine bM 36 func162 ?_;refine go 21 λb1=>?_;refine gA 9 1 ?_;refine Gs (λk=>True) (x.args.length) 9 3 9 1 (λk=>((x.args.take k).map kX).length) (λk=>cj ((x.args.take k).map kX)) [b1] (λk=>[(0,cL (.agg (cm x))),(1,aE b1),(7,.c (aG cg x.args)),(8,ab x.args.length)]) trivial (az vJ) λk v hk hvk=>?_;replace hvk:True:=hvk
 try dsimp only
 refine go 2 ?_;by_cases h1:(k:Int)<(x.args.length:Int)
 ·refine aJ J (cw h1) (go 10 ?_);refine aC J (bX cg cg x.args oO (λ_=>J) k J J J J Y V lV j') (go 8 λb2=>?_);have hlt:k<x.args.length:=Y;have hka:=hsa _ (getElem_mem hlt);have hkp:=GC (fC.1 hok _ (getElem_mem hlt));have hkw:=vT x.args k hlt;have hkw2:=hkw;unfold bq.wt cD.wt at hkw2;have hit:=P2 ew x.args k hlt;have hcl:((x.args.take k).map kX).length <= k:=K5;refine go 1 ?_;rcases bz (x.args[k].mutex) with h3|h3;focus
   refine aC J (cP (bH h3) (cW [] dJ dI)) (go 5 ?_);have hq:=congrArg List.length (xw h3);simp only [length_append] at hq;refine go 3 ?_;refine kP 0 J call163 J (It x.args[k].ref hka.1 Y (hkp.1 h3) _) ?_;refine aC J (cP (fj (show (bytes ([109,117,116,101,120,32]++(fh x.args[k].ref)))=(kX x.args[k]) by unfold kX;rw [xw h3])) (ee [109,117,116,101,120,32] (fh x.args[k].ref) J J J J J)) ?_;refine aW J (bU (r:=cj [(kX x.args[k])]) iy ?_);refine aW J (dS [] pE J J V cO Y (@length_append _ ((x.args.take k).map kX) [(kX x.args[k])]).symm fy co (e1 (f:=λx=>aO.val (.string x))).symm λw3=>?_);refine go 8 ?_
  rotate_left;refine aC J (cP (bH h3) (cW [] dJ dI)) (go 9 ?_);refine kP 0 J call161 J (R1 x.args[k] h3 hka Y hkp _) ?_;refine aW J (bU (r:=cj [(kX x.args[k])]) iy ?_);refine aW J (dS [] pE J J V cO Y (@length_append _ ((x.args.take k).map kX) [(kX x.args[k])]).symm fy co (e1 (f:=λx=>aO.val (.string x))).symm λw4=>?_);refine go 5 ?_;all_goals
   refine bK J (go 2 ?_);rw [show (x.args.take k).map kX++[kX x.args[k]]=(x.args.take (k+1)).map kX by rw [gX Y,e1];rfl];exact ⟨Y,trivial,_,az (h1:=bG) (h:=av J (b_ Y) (ao J)) fG⟩
 refine aF J (ct h1) (go 10 ?_);obtain rfl:k=x.args.length:=Y;rw [hP];refine oB 3 J ?_;refine bu [b1] (aU [0,1] 6 (go 3 ?_));refine aZ 2 J (ee x.name.data.toList ([40]:List UInt8) J J J (back _) J) (aU [3] 4 (go 2 ?_));refine aY 4 J J (dv J J V call118 J (UN x.args Y Y _) ?_);rintro _ _ ⟨rfl,rfl⟩;refine aZ 5 J (ee (x.name.data.toList++([40]:List UInt8)) (dM ew x.args) J J J J J) ?_;refine aZ 6 J (ee ((x.name.data.toList++([40]:List UInt8))++(dM ew x.args)) [41,59] J J J J J) (aU [7] 0 (go 2 ?_));refine bC (go 2 ?_);exact bF bx rw J cU ⟨mc (by unfold iH;simp only [append_assoc];rfl),J⟩
def Q3{D:Nat}{x:aD}(h:f6 D x=true):(x.kind=1∨x.kind=2∨x.kind=7∨x.kind=8 -> fI x.expr=true) /\ (1 <= x.kind /\ x.kind <= 9) /\ x.args.all fc=true /\ (x.els.length=0∨x.kind=7):=by
 obtain ⟨k,n,e,r,args,t,el⟩:=x;rw [f6] at h;simp only [dm,nP,decide_eq_true_eq] at h;obtain ⟨⟨⟨⟨⟨⟨⟨h1,h2⟩,h3⟩,h4⟩,h5⟩,h6⟩,h7⟩,h8⟩:=h;exact ⟨λhp=>by
  have hp:k=1∨k=2∨k=7∨k=8:=hp
  rwa [if_pos hp] at h3,h1,h6,h8.imp id (λh=>h.1)⟩
abbrev tabs(m:Nat):List UInt8:=List.replicate m 9
def EN(m:Nat):tabs m++[9]=tabs (m+1):=by unfold tabs;rw [List.replicate_succ']
def oF(l:List UInt8):(bytes l).data.toList=l:=wL
section
variable {m:Nat}{x:aD}
def PN(h:x.kind=1):dO m [⟨#[118,97,114,32]⟩,x.name,⟨#[32,61,32]⟩,bytes (cA x.expr),⟨#[59]⟩]=d5 (tabs m) x:=by
 rw [Dh h];unfold dO;simp only [ca,d7,jd,ly,oF,append_assoc];rfl
def Jn(h:x.kind=2):dO m [x.name,⟨#[32,61,32]⟩,bytes (cA x.expr),⟨#[59]⟩]=d5 (tabs m) x:=by
 rw [Cm h];unfold dO;simp only [ca,d7,jd,ly,oF,append_assoc];rfl
def LN(h:x.kind=3):dO m [bytes (x.name.data.toList++iH x.args++[59])]=d5 (tabs m) x:=by
 rw [ye h];unfold dO;simp only [ca,d7,jd,ly,oF,append_assoc];rfl
def M6(h:x.kind=4):dO m [⟨#[103,111,32]⟩,bytes (x.name.data.toList++iH x.args++[59])]=d5 (tabs m) x:=by
 rw [zC h];unfold dO;simp only [ca,d7,jd,ly,oF,append_assoc];rfl
def N1(h:x.kind=5):dO m [⟨#[108,111,99,107,32]⟩,bytes (fh x.ref),⟨#[59]⟩]=d5 (tabs m) x:=by
 rw [Cp h];unfold dO;simp only [ca,d7,jd,ly,oF,append_assoc];rfl
def Mn(h:x.kind=6):dO m [⟨#[117,110,108,111,99,107,32]⟩,bytes (fh x.ref),⟨#[59]⟩]=d5 (tabs m) x:=by
 rw [DI h];unfold dO;simp only [ca,d7,jd,ly,oF,append_assoc];rfl
def LP(h:x.kind=9):dO m [⟨#[114,101,116,117,114,110,59]⟩]=d5 (tabs m) x:=by
 rw [C7 Y];unfold dO;rfl
def mL(x:aD):ByteArray:=if x.kind=8 then ⟨#[119,104,105,108,101,32]⟩ else ⟨#[105,102,32]⟩
def Pk(h:x.kind=7∨x.kind=8)(he:x.els.length=0):dO m [mL x,bytes (cA x.expr),⟨#[32,123]⟩]++bS (tabs (m+1)) x.thn++dO m [⟨#[125]⟩]=d5 (tabs m) x:=by
 unfold mL;rcases h with h|h
 ·rw [wS h,if_neg Y,if_pos he,EN];unfold dO;simp only [ca,d7,jd,ly,oF,append_assoc];rfl
 rw [xS h,if_pos h,if_pos he,EN];unfold dO;simp only [ca,d7,jd,ly,oF,append_assoc];rfl
def Nm(h:x.kind=7∨x.kind=8)(he:¬x.els.length=0):dO m [mL x,bytes (cA x.expr),⟨#[32,123]⟩]++bS (tabs (m+1)) x.thn++dO m [⟨#[125,32,101,108,115,101,32,123]⟩]++bS (tabs (m+1)) x.els++dO m [⟨#[125]⟩]=d5 (tabs m) x:=by
 unfold mL;rcases h with h|h
 ·rw [wS h,if_neg Y,if_neg he,EN];unfold dO;simp only [ca,d7,jd,ly,oF,append_assoc];rfl
 rw [xS h,if_pos h,if_neg he,EN];unfold dO;simp only [ca,d7,jd,ly,oF,append_assoc];rfl
end
def Vv{x:aD}(m:Nat)(h:x.kind=3∨x.kind=4):(dM ew x.args).length <= (d5 (tabs m) x).length:=by
 rcases h with h|h
 ·rw [ye h];unfold iH;simp only [length_append];omega
 rw [zC h];unfold iH;simp only [length_append];omega
def T7(x:aD)(A B:List aV)(W m:Nat)(a:Option Addr)(v:aN)(bs:List UInt8)(rw:List aQ)(ha:gD W a)(D:Nat)(hok:f6 D x=true)(hs:x.bt)(hw:x.wt <= 9000000)(hm:m <= 1000)(hb:bs.length+(d5 (tabs m) x).length <= 100000000000000)(hco:(x.kind=7∨x.kind=8) -> ∀(A B:List aV) (W:Nat) (a:Option Addr) (v:aN) (bs:List UInt8) (rw:List aQ) (ha:gD W a) (hb:bs.length+(d5 (tabs m) x).length <= 100000000000000),aT prog 164 [cL (aE W),.agg (cm x)] (W::aR v) (dD A W m a v bs B rw) λt s'=>t=.fd [] /\ ∃a' v',gD W a' /\ s'=dD A W m a' v' (bs++d5 (tabs m) x) B rw):aT prog 139 [cL (aE W),.agg (cm x)] (W::aR v) (dD A W m a v bs B rw) λt s'=>t=.fd [] /\ ∃a' v',gD W a' /\ s'=dD A W m a' v' (bs++d5 (tabs m) x) B rw:=by
 obtain ⟨hsn,hse,Bk,hsa,hst,Fd⟩:=nE hs;have hw2:=hw;rw [f9] at hw2;unfold cD.wt at hw2;have hal:=px x.args;have ok1:=zf hs hok;have ok2:=Q3 hok;refine bM 64 func139 ?_;refine go 14 λb1=>?_;by_cases h1:x.kind=1
 ·refine aJ J (bR h1) (go 4 ?_);refine bu [b1] ?_;have hle:=congrArg List.length (PN (m:=m) (x:=x) Y);refine aU [0,1,2,3,4] 3 (go 6 ?_);refine aY 5 J J (pV 0 [] J J V call161 J J (AV x.expr Y hse (ok2.1 Y) _) dX dX (λ_=>dX) ?_);rintro _ _ ⟨rfl,rfl⟩;refine aY 6 J J (bU (r:=cj [(⟨#[118,97,114,32]⟩:aI),x.name,(⟨#[32,61,32]⟩:aI),(bytes (cA x.expr)),(⟨#[59]⟩:aI)]) (hps:=(.cons J (.cons J (.cons J (.cons J (.cons J .nil)))))) Dp ?_);refine aY 7 J J (kF J lb J (lU [(⟨#[118,97,114,32]⟩:aI),x.name,(⟨#[32,61,32]⟩:aI),(bytes (cA x.expr)),(⟨#[59]⟩:aI)] (_::A) B W m a v bs rw ha (fV J) jl) aM co (λhn=>⟨vq hn,λb hb=>gi hn hb⟩) λa4 v4 hC4=>?_);refine bC (go 1 ?_);exact ⟨.inl J,_,dD A W m a4 v4 _ B rw,fg J,ah bG (.refl _),J,a4,v4,hC4,ij (by rw [PN Y])⟩
 refine aF J (bN h1) (go 6 ?_);by_cases h6:x.kind=2
 ·refine aJ J (bR h6) (go 4 ?_);refine bu [b1] ?_;have hle:=congrArg List.length (Jn (m:=m) (x:=x) Y);refine aU [0,1,2,3,4] 3 (go 6 ?_);refine aY 5 J J (pV 0 [] J J V call161 J J (AV x.expr Y hse (ok2.1 Y) _) dX dX (λ_=>dX) ?_);rintro _ _ ⟨rfl,rfl⟩;refine aY 6 J J (uM Tryz.t9 [ac ⟨#[]⟩,ac ⟨#[]⟩,ac ⟨#[]⟩,ac ⟨#[]⟩] J J V (.cons J (.cons J (.cons J (.cons J .nil)))) oY aL J V V aL aL (r:=cj [x.name,(⟨#[32,61,32]⟩:aI),(bytes (cA x.expr)),(⟨#[59]⟩:aI)]) J ?_);refine aY 7 J J (kF J lb J (lU [x.name,(⟨#[32,61,32]⟩:aI),(bytes (cA x.expr)),(⟨#[59]⟩:aI)] (_::A) B W m a v bs rw ha (fV J) jl) aM co (λhn=>⟨vq hn,λb hb=>gi hn hb⟩) λa9 v9 hC9=>?_);refine bC (go 1 ?_);exact ⟨.inl J,_,dD A W m a9 v9 _ B rw,fg J,ah bG (.refl _),J,a9,v9,hC9,ij (by rw [Jn Y])⟩
 refine aF J (bN h6) (go 6 ?_);by_cases h11:x.kind=3
 ·refine aJ J (bR h11) (go 5 ?_);have hle:=congrArg List.length (LN (m:=m) (x:=x) Y);refine go 2 ?_;refine kP 0 J call162 J (M5 x hs Y ok2.2.2.1 Lt Y _) ?_;refine aW J (bU (r:=cj [(bytes (x.name.data.toList++iH x.args++[59]))]) iy ?_);refine aW J (kF J lb J (lU [(bytes (x.name.data.toList++iH x.args++[59]))] (_::A) B W m a v bs rw ha (fV J) jl) aM co kG λa13 v13 aMt=>?_);refine go 2 ?_;exact ⟨.inl J,_,dD A W m a13 v13 _ B rw,fg J,ah bG (.refl _),J,a13,v13,aMt,ij (by rw [LN Y])⟩
 refine aF J (bN h11) (go 6 ?_);by_cases sh:x.kind=4
 ·refine aJ J (bR sh) (go 5 ?_);have hle:=congrArg List.length (M6 (m:=m) (x:=x) Y);refine go 2 ?_;refine kP 0 J call162 J (M5 x hs Y ok2.2.2.1 Lt Y _) ?_;refine aW J (bU (r:=cj [(⟨#[103,111,32]⟩:aI),(bytes (x.name.data.toList++iH x.args++[59]))]) (hps:=(.cons J (.cons J .nil))) Fc ?_);refine aW J (kF J lb J (lU [(⟨#[103,111,32]⟩:aI),(bytes (x.name.data.toList++iH x.args++[59]))] (_::A) B W m a v bs rw ha (fV J) jl) aM co kG λa17 v17 aMu=>?_);refine go 2 ?_;exact ⟨.inl J,_,dD A W m a17 v17 _ B rw,fg J,ah bG (.refl _),J,a17,v17,aMu,ij (by rw [M6 Y])⟩
 refine aF J (bN sh) (go 6 ?_);by_cases h19:x.kind=5
 ·refine aJ J (bR h19) (go 5 ?_);have hle:=congrArg List.length (N1 (m:=m) (x:=x) Y);refine go 3 ?_;refine kP 0 J call163 J (It x.ref Bk Y (ok1.ref Y) _) ?_;refine aW J (bU (r:=cj [(⟨#[108,111,99,107,32]⟩:aI),(bytes (fh x.ref)),(⟨#[59]⟩:aI)]) (hps:=(.cons J (.cons J (.cons J .nil)))) wC ?_);refine aW J (kF J lb J (lU [(⟨#[108,111,99,107,32]⟩:aI),(bytes (fh x.ref)),(⟨#[59]⟩:aI)] (_::A) B W m a v bs rw ha (fV J) jl) aM co kG λa21 v21 aJi=>?_);refine go 2 ?_;exact ⟨.inl J,_,dD A W m a21 v21 _ B rw,fg J,ah bG (.refl _),J,a21,v21,aJi,ij (by rw [N1 Y])⟩
 refine aF J (bN h19) (go 6 ?_);by_cases h23:x.kind=6
 ·refine aJ J (bR h23) (go 5 ?_);have hle:=congrArg List.length (Mn (m:=m) (x:=x) Y);refine go 3 ?_;refine kP 0 J call163 J (It x.ref Bk Y (ok1.ref Y) _) ?_;refine aW J (bU (r:=cj [(⟨#[117,110,108,111,99,107,32]⟩:aI),(bytes (fh x.ref)),(⟨#[59]⟩:aI)]) (hps:=(.cons J (.cons J (.cons J .nil)))) wC ?_);refine aW J (kF J lb J (lU [(⟨#[117,110,108,111,99,107,32]⟩:aI),(bytes (fh x.ref)),(⟨#[59]⟩:aI)] (_::A) B W m a v bs rw ha (fV J) jl) aM co kG λa25 v25 aH9=>?_);refine go 2 ?_;exact ⟨.inl J,_,dD A W m a25 v25 _ B rw,fg J,ah bG (.refl _),J,a25,v25,aH9,ij (by rw [Mn Y])⟩
 refine aF J (bN h23) (go 6 ?_);by_cases h27:x.kind=9
 ·refine aJ J (bR h27) (go 5 ?_);have hle:=congrArg List.length (LP (m:=m) (x:=x) Y);refine go 1 ?_;refine aW J (bU (r:=cj [(⟨#[114,101,116,117,114,110,59]⟩:aI)]) iy ?_);refine aW J (kF J lb J (lU [(⟨#[114,101,116,117,114,110,59]⟩:aI)] (_::A) B W m a v bs rw ha (fV J) jl) aM co kG λa29 v29 aSm=>?_);refine go 2 ?_;exact ⟨.inl J,_,dD A W m a29 v29 _ B rw,fg J,ah bG (.refl _),J,a29,v29,aSm,ij (by rw [LP Y])⟩
 refine aF J (bN h27) (go 7 ?_);refine aW J (ww 0 J call164 J (hco Y (_::A) B W a v bs rw ha hb) aM co kG λa31 v31 aSn=>?_);refine go 2 ?_;exact ⟨.inl J,_,dD A W m a31 v31 _ B rw,fg J,ah bG (.refl _),J,a31,v31,aSn,J⟩
def UW(x:aD)(A B:List aV)(W m:Nat)(a:Option Addr)(v:aN)(bs:List UInt8)(rw:List aQ)(ha:gD W a)(D:Nat)(hok:f6 D x=true)(hs:x.bt)(hw:x.wt <= 9000000)(hm:m <= 1000)(hb:bs.length+(d5 (tabs m) x).length <= 100000000000000)(hk:x.kind=7∨x.kind=8)(ih1:∀(A B:List aV) (W:Nat) (a:Option Addr) (v:aN) (bs:List UInt8) (rw:List aQ) (ha:gD W a) (hb:bs.length+(bS (tabs (m+1)) x.thn).length <= 100000000000000),aT prog 119 [cL (aE W),.c (aG encS x.thn)] (W::aR v) (dD A W m a v bs B rw) λt s'=>t=.fd [] /\ ∃a' v',gD W a' /\ s'=dD A W m a' v' (bs++bS (tabs (m+1)) x.thn) B rw)(ih2:∀(A B:List aV) (W:Nat) (a:Option Addr) (v:aN) (bs:List UInt8) (rw:List aQ) (ha:gD W a) (hb:bs.length+(bS (tabs (m+1)) x.els).length <= 100000000000000),aT prog 119 [cL (aE W),.c (aG encS x.els)] (W::aR v) (dD A W m a v bs B rw) λt s'=>t=.fd [] /\ ∃a' v',gD W a' /\ s'=dD A W m a' v' (bs++bS (tabs (m+1)) x.els) B rw):aT prog 164 [cL (aE W),.agg (cm x)] (W::aR v) (dD A W m a v bs B rw) λt s'=>t=.fd [] /\ ∃a' v',gD W a' /\ s'=dD A W m a' v' (bs++d5 (tabs m) x) B rw:=by
 obtain ⟨hsn,hse,Bk,hsa,hst,Fd⟩:=nE hs;have hw2:=hw;rw [f9] at hw2;unfold cD.wt at hw2;have hal:=px x.args;have ok1:=zf hs hok;have ok2:=Q3 hok;have hle:(dO m [mL x,bytes (cA x.expr),⟨#[32,123]⟩]).length+(bS (tabs (m+1)) x.thn).length+(dO m [⟨#[125]⟩]).length+(if x.els.length=0 then 0 else (dO m [⟨#[125,32,101,108,115,101,32,123]⟩]).length+(bS (tabs (m+1)) x.els).length)=(d5 (tabs m) x).length:=by
  by_cases he:x.els.length=0
  ·rw [if_pos he,←Pk hk he];(simp only [length_append];try omega)
  rw [if_neg he,←Nm hk he];(simp only [length_append];try omega)
 refine bM 33 func164 ?_;refine go 15 λb1=>?_;by_cases h1:x.kind=8;focus
  refine aJ J (bR h1) (go 9 ?_);refine cx 4 J (fj (show _=mL x by unfold mL;rw [if_pos Y])) (go 4 ?_)
 rotate_left;refine aF J (bN h1) (go 7 ?_);refine cx 4 J (fj (show _=mL x by unfold mL;rw [if_neg Y])) (go 4 ?_);all_goals
  refine kP 0 J call161 J (AV x.expr Y hse (ok2.1 Y) _) ?_;refine aW J (bU (r:=cj [(mL x),(bytes (cA x.expr)),(⟨#[32,123]⟩:aI)]) (hps:=(.cons J (.cons J (.cons J .nil)))) wC ?_);refine aW J (kF J lb J (lU [(mL x),(bytes (cA x.expr)),(⟨#[32,123]⟩:aI)] (_::A) B W m a v bs rw ha (fV J) jl) aM co kG λa13 v13 aMt=>?_);refine go 7 ?_;refine aW J (ww 0 J call119 J (ih1 (_::A) B W a13 v13 (bs++dO m [(mL x),(bytes (cA x.expr)),(⟨#[32,123]⟩:aI)]) rw aMt jl) aM co kG λa14 v14 aO2=>?_);refine go 8 ?_;by_cases sh:(0:Int)<(x.els.length:Int)
  ·refine aJ J (fF sh) (go 5 ?_);rw [if_neg Y] at hle;refine go 1 ?_;refine aW J (bU (r:=cj [(⟨#[125,32,101,108,115,101,32,123]⟩:aI)]) iy ?_);refine aW J (kF J lb J (lU [(⟨#[125,32,101,108,115,101,32,123]⟩:aI)] (_::A) B W m a14 v14 ((bs++dO m [(mL x),(bytes (cA x.expr)),(⟨#[32,123]⟩:aI)])++bS (tabs (m+1)) x.thn) rw aO2 (fV J) jl) aM co kG λa17 v17 aMu=>?_);refine go 6 ?_;refine aW J (ww 0 J call119 J (ih2 (_::A) B W a17 v17 (((bs++dO m [(mL x),(bytes (cA x.expr)),(⟨#[32,123]⟩:aI)])++bS (tabs (m+1)) x.thn)++dO m [(⟨#[125,32,101,108,115,101,32,123]⟩:aI)]) rw aMu jl) aM co kG λa18 v18 aSo=>?_);refine go 4 ?_;refine aW J (bU (r:=cj [(⟨#[125]⟩:aI)]) iy ?_);refine aW J (kF J lb J (lU [(⟨#[125]⟩:aI)] (_::A) B W m a18 v18 ((((bs++dO m [(mL x),(bytes (cA x.expr)),(⟨#[32,123]⟩:aI)])++bS (tabs (m+1)) x.thn)++dO m [(⟨#[125,32,101,108,115,101,32,123]⟩:aI)])++bS (tabs (m+1)) x.els) rw aSo (fV J) jl) aM co kG λa19 v19 aSp=>?_);refine go 1 ?_;exact ⟨.inl J,_,dD A W m a19 v19 _ B rw,fg J,ah bG (.refl _),J,a19,v19,aSp,ij (by rw [←Nm hk Y];try simp only [append_assoc])⟩
  refine aF J (fE sh) (go 7 ?_);refine aW J (bU (r:=cj [(⟨#[125]⟩:aI)]) iy ?_);refine aW J (kF J lb J (lU [(⟨#[125]⟩:aI)] (_::A) B W m a14 v14 ((bs++dO m [(mL x),(bytes (cA x.expr)),(⟨#[32,123]⟩:aI)])++bS (tabs (m+1)) x.thn) rw aO2 (fV J) jl) aM co kG λa21 v21 aJi=>?_);refine go 1 ?_;exact ⟨.inl J,_,dD A W m a21 v21 _ B rw,fg J,ah bG (.refl _),J,a21,v21,aJi,ij (by rw [←Pk hk Y];try simp only [append_assoc])⟩
def UA(tb:List UInt8)(l:List aD)(k:Nat)(hk:k<l.length):(bS tb (l.take k)).length+(d5 tb l[k]).length <= (bS tb l).length:=by
 have h1:=CF tb l (k+1);rw [nC tb l k hk,length_append] at h1;exact h1
def M2(l:List aD)(A B:List aV)(W m:Nat)(a:Option Addr)(v:aN)(bs:List UInt8)(rw:List aQ)(ha:gD W a)(hm:m <= 900)(hl:l.length <= 1000000000)(hb:bs.length+(bS (tabs (m+1)) l).length <= 100000000000000)(ih:∀k (h:k<l.length),∀(A B:List aV) (W:Nat) (a:Option Addr) (v:aN) (bs:List UInt8) (rw:List aQ) (ha:gD W a) (hb:bs.length+(d5 (tabs (m+1)) l[k]).length <= 100000000000000),aT prog 139 [cL (aE W),.agg (cm l[k])] (W::aR v) (dD A W (m+1) a v bs B rw) λt s'=>t=.fd [] /\ ∃a' v',gD W a' /\ s'=dD A W (m+1) a' v' (bs++d5 (tabs (m+1)) l[k]) B rw):aT prog 119 [cL (aE W),.c (aG encS l)] (W::aR v) (dD A W m a v bs B rw) λt s'=>t=.fd [] /\ ∃a' v',gD W a' /\ s'=dD A W m a' v' (bs++bS (tabs (m+1)) l) B rw:=by
 refine bM 30 func119 ?_;refine go 6 ?_;refine aC J (cP (b_ (show (m:Int)+1=((m+1:Nat):Int) by omega)) (ua J J J Y Y)) (go 14 ?_);refine ji (α:=Option Addr×aN) (λk g=>gD W g.1) (l.length) 15 (λg=>aR g.2++[W]) (λk g=>dD A W (m+1) g.1 g.2 (bs++bS (tabs (m+1)) (l.take k)) B rw) (λk=>[(0,cL (aE W)),(13,.c (aG encS l)),(14,ab l.length)]) (a,v) ha (mn (h:=ao J) (.refl _) (ij (A:=A) (by rw [mZ,bS];exact (eY _).symm:bs=(bs++bS (tabs (m+1)) (l.take 0))))) ?_;rintro k ⟨a1,v1⟩ hk hC1;dsimp only at hC1
 try dsimp only
 refine go 2 ?_;by_cases h2:(k:Int)<(l.length:Int)
 ·refine aJ J (cw h2) (go 10 ?_);refine aC J (bX encS cm l kS mQ k J J J J Y V j0 eB) (go 8 λb1=>?_);refine aW J (ww 0 J call139 J (ih k Y (_::A) B W a1 v1 (bs++bS (tabs (m+1)) (l.take k)) rw hC1 (by have:=UA (tabs (m+1)) l k Y;(try simp only [length_append]);omega)) aM co kG λa4 v4 hC4=>?_);refine go 4 ?_;refine bK J (go 2 ?_);exact ⟨Y,(a4,v4),hC4,mn bG (ij (A:=A) (by rw [nC _ _ _ Y,append_assoc]:((bs++bS (tabs (m+1)) (l.take k))++d5 (tabs (m+1)) l[k])=(bs++bS (tabs (m+1)) (l.take (k+1)))))⟩
 refine aF J (ct h2) (go 10 ?_);obtain rfl:k=l.length:=Y;rw [hP];refine go 4 ?_;refine aC J (cP (b_ (show ((m+1:Nat):Int)-1=(m:Int) by omega)) (kM)) (go 4 ?_);exact ⟨.inl J,_,dD A W m a1 v1 _ B rw,fg J,ah (.refl _) (.refl _),J,a1,v1,hC1,J⟩
end
section
open Go.RowKit
def SI{D:Nat}{x:aD}(h:f6 D x=true)(hk:x.kind=7∨x.kind=8):dG (D+1) x.thn=true /\ dG (D+1) x.els=true:=by
 obtain ⟨k,n,e,r,args,t,el⟩:=x;rw [f6] at h;simp only [dm,nP,decide_eq_true_eq] at h;obtain ⟨⟨-,h7⟩,h8⟩:=h;have hk:k=7∨k=8:=hk;rw [if_pos hk] at h7;refine ⟨h7,?_⟩;rcases h8 with h|h
 ·obtain rfl:el=[]:=ke.1 h;show dG (D+1) []=true;rw [uY] at h7⊢;simp only [dm,List.all_nil,and_true] at h7⊢;exact h7.1
 exact h.2
def FF:∀(N:Nat)(l:List aD)(D:Nat),N <= 9000000 -> an l <= N -> dG D l=true -> eI l -> ∀(A B:List aV)(W:Nat)(a:Option Addr)(v:aN)(bs:List UInt8)(rw:List aQ),gD W a -> bs.length+(bS (tabs (D+1)) l).length <= 100000000000000 -> aT prog 119 [cL (aE W),.c (aG encS l)] (W::aR v) (dD A W D a v bs B rw) λt s'=>t=.fd [] /\ ∃a' v',gD W a' /\ s'=dD A W D a' v' (bs++bS (tabs (D+1)) l) B rw
 |0,l,D,hN,hw,hok,hs,A,B,W,a,v,bs,rw,ha,hb=>M2 l A B W D a v bs rw ha (by rw [uY] at hok;simp only [dm,decide_eq_true_eq] at hok;omega) pP hb λk hk=>absurd (ol l) Y
 |N+1,l,D,hN,hw,hok,hs,A,B,W,a,v,bs,rw,ha,hb=>by
  have hok1:=hok;rw [uY] at hok1;simp only [dm,decide_eq_true_eq] at hok1;obtain ⟨hD,hall⟩:=hok1;refine M2 l A B W D a v bs rw ha Y pP hb λk hk A B W a v bs rw ha hb=>?_;have hst:=fC.1 hall _ (getElem_mem hk);have hwk:=rH l k hk;have hwp:=hwk;rw [f9] at hwp;have hsk:=tg _ hs _ (getElem_mem hk);obtain ⟨-,-,-,-,aSq,Fd⟩:=nE hsk;refine T7 l[k] A B W (D+1) a v bs rw ha D hst hsk Y Y hb λhkind A B W a v bs rw ha hb=>?_;obtain ⟨o1,o2⟩:=SI hst hkind;exact UW l[k] A B W (D+1) a v bs rw ha D hst hsk Y Y hb hkind (λA B W a v bs rw ha hb=>FF N _ (D+1) Y Y o1 aSq A B W a v bs rw ha hb) (λA B W a v bs rw ha hb=>FF N _ (D+1) Y Y o2 Fd A B W a v bs rw ha hb)
def Ug(l:List aD)(A B:List aV)(W m:Nat)(a:Option Addr)(v:aN)(bs:List UInt8)(rw:List aQ)(ha:gD W a)(hm:m=0)(hok:dG 0 l=true)(hs:eI l)(hw:an l <= 9000000)(hb:bs.length+(bS [9] l).length <= 100000000000000):aT prog 119 [cL (aE W),.c (aG encS l)] (W::aR v) (dD A W m a v bs B rw) λt s'=>t=.fd [] /\ ∃a' v',gD W a' /\ s'=dD A W m a' v' (bs++bS [9] l) B rw:=by
 subst hm;exact FF _ l 0 hw (bY _) hok hs A B W a v bs rw ha hb
section
variable {m:Nat}
def Mf{g:bw}(hm:m=0)(h:g.init=0):dO m [⟨#[118,97,114,32]⟩,g.name,⟨#[59]⟩]=cT g:=by
 subst hm;unfold cT dO;rw [if_pos h];simp only [ca,d7,jd,ly,append_assoc];rfl
def QF{g:bw}(hm:m=0)(h:¬g.init=0):dO m [⟨#[118,97,114,32]⟩,g.name,⟨#[32,61,32]⟩,bytes (fW g.init),⟨#[59]⟩]=cT g:=by
 subst hm;unfold cT dO;rw [if_neg h];simp only [ca,d7,jd,ly,oF,append_assoc];rfl
def Jq{x:cn}(hm:m=0)(h:x.ex=true)(h0:¬0<x.size):dO m [⟨#[114,109,117,116,101,120,32]⟩,x.name,⟨#[59]⟩]=ci x:=by
 subst hm;unfold ci dO;rw [if_pos h,if_neg h0];simp only [ca,d7,jd,ly,append_assoc];rfl
def L9{x:cn}(hm:m=0)(h:x.ex=false)(h0:¬0<x.size):dO m [⟨#[109,117,116,101,120,32]⟩,x.name,⟨#[59]⟩]=ci x:=by
 subst hm;unfold ci dO;rw [if_neg nx,if_neg h0];simp only [ca,d7,jd,ly,append_assoc];rfl
def MZ{x:cn}(hm:m=0)(h:x.ex=false)(h0:0<x.size):dO m [⟨#[109,117,116,101,120,32]⟩,x.name,⟨#[91]⟩,bytes (fW x.size),⟨#[93,59]⟩]=ci x:=by
 subst hm;unfold ci dO;rw [if_neg nx,if_pos h0];simp only [ca,d7,jd,ly,oF,append_assoc];rfl
def OS{f:a_}(hm:m=0):dO m [⟨#[102,117,110,99,32]⟩,f.name,⟨#[40]⟩,bytes (dM ed f.params),⟨#[41,32,123]⟩]++bS [9] f.body++dO m [⟨#[125]⟩]=funcText f:=by
 subst hm;unfold funcText dO;simp only [ca,d7,jd,ly,oF,append_assoc];rfl
end
def Mj{x:cn}(h:iu x=true)(hr:x.ex=true):¬0<x.size:=λh0=>by
 unfold iu at h;rw [hr,decide_eq_true h0] at h;simp at h
def wk{bs:List UInt8}{m:Nat}{ps:List aI}{v:aN}:qP (bs++dO m ps) v:=λh=>absurd h (SV bs m ps)
def qf{x y:List UInt8}{v:aN}(h:x=y)(hz:qP x v):qP y v:=h▸hz
def JK{α:Type}(f:α -> List UInt8)(l:List α)(k:Nat)(h:k<l.length):(((l.take k).map f).flatten).length+(f l[k]).length <= ((l.map f).flatten).length:=by
 have h1:=x9 f l (k+1);rw [m3 f l k h,length_append] at h1;exact h1
def jP(x:bg):ByteArray:=bytes (ed x)
def TD{x:bg}(h:x.mutex=true):bytes ([109,117,116,101,120,32]++x.name.data.toList)=jP x:=by unfold jP;rw [JM h]
def UZ{x:bg}(h:x.mutex=false):x.name=jP x:=by unfold jP;rw [E5 h];exact back _
def TL(l:List bg)(hN:l.length <= 10000000)(hlen:(dM ed l).length <= 100000000000000)(s:aH):aT prog 118 [.c (.sl (l.map jP).length ((l.map jP).map λx=>ac x)),cK ⟨#[44,32]⟩] [] s λt s'=>t=cK (bytes (dM ed l)) /\ s'=s:=by
 have hmap:(l.map jP).map (·.data.toList)=l.map ed:=Ef
 have h:=NU (l.map jP) ⟨#[44,32]⟩ (by rw [gS];exact hN) (by rw [hmap];rw [show (⟨#[44,32]⟩:aI).data.toList=[44,32] from rfl,Dr];exact hlen) s;rw [hmap,show (⟨#[44,32]⟩:aI).data.toList=[44,32] from rfl,Dr] at h;exact h
def Vd(p:aX)(A B:List aV)(W m:Nat)(a:Option Addr)(v:aN)(bs:List UInt8)(rw:List aQ)(ha:gD W a)(hz:qP bs v)(hm:m=0)(hv:kO p=true)(hs:p.bt)(hw:p.wt <= 9000000)(hb:bs.length+(iJ p).length <= 100000000000000):aT prog 92 [cL (aE W),.agg (di p)] (W::aR v) (dD A W m a v bs B rw) λt s'=>t=.fd [] /\ ∃a' v',(gD W a' /\ qP (bs++iJ p) v') /\ s'=dD A W m a' v' (bs++iJ p) B rw:=by
 have hb1:=hb;unfold iJ at hb1;simp only [length_append] at hb1;have hv0:=hv;unfold kO at hv;simp only [dm,fC,decide_eq_true_eq] at hv;obtain ⟨⟨⟨hcnt,hvg⟩,hvm⟩,hvf⟩:=hv;have hv:True /\ (∀x∈p.mutexes,iu x=true) /\ True:=⟨trivial,hvm,trivial⟩;unfold aX.wt at hw;refine bM 113 func92 ?_;refine go 15 λb1=>?_;refine ji (α:=Option Addr×aN) (λk g=>gD W g.1 /\ qP (bs++((p.globals.take k).map cT).flatten) g.2) (p.globals.length) 16 (λg=>aR g.2++[W]) (λk g=>dD (⟨b1,27,(di p)⟩::A) W m g.1 g.2 (bs++((p.globals.take k).map cT).flatten) B rw) (λk=>[(0,cL (aE W)),(3,aE b1),(14,.c (aG cR p.globals)),(15,ab p.globals.length)]) (a,v) ⟨ha,qf (aM:bs=(bs++((p.globals.take 0).map cT).flatten)) hz⟩ (mn (h:=ao J) (.refl _) (ij (A:=(_::A)) (aM:bs=(bs++((p.globals.take 0).map cT).flatten)))) ?_;rintro k ⟨a1,v1⟩ hk hC1;dsimp only at hC1
 try dsimp only
 obtain ⟨hC1,hZ⟩:=hC1;refine go 2 ?_;by_cases h2:(k:Int)<(p.globals.length:Int)
 ·refine aJ J (cw h2) (go 10 ?_);have hkl:k<p.globals.length:=Y;have hgs:=hs.globals _ (getElem_mem hkl);have hcn:=JK cT p.globals k hkl;refine aC J (bX cR cR p.globals nt (λ_=>J) k J J J J Y V mp jU) (go 10 λb2=>?_);by_cases h4:p.globals[k].init=0
  ·refine aJ J (bR h4) (go 5 ?_);have hle:=congrArg List.length (Mf (g:=p.globals[k]) hm Y);refine go 3 ?_;refine aW J (bU (r:=cj [(⟨#[118,97,114,32]⟩:aI),p.globals[k].name,(⟨#[59]⟩:aI)]) (hps:=(.cons J (.cons J (.cons J .nil)))) wC ?_);refine aW J (kF J lb J (lU [(⟨#[118,97,114,32]⟩:aI),p.globals[k].name,(⟨#[59]⟩:aI)] (_::_::A) B W m a1 v1 (bs++((p.globals.take k).map cT).flatten) rw hC1 (fV J) jl) aM co kG λa6 v6 hC6=>?_);refine go 7 ?_;refine bK J (go 2 ?_);exact ⟨Y,(a6,v6),⟨hC6,qf (Jz:((bs++((p.globals.take k).map cT).flatten)++dO m [(⟨#[118,97,114,32]⟩:aI),p.globals[k].name,(⟨#[59]⟩:aI)])=(bs++((p.globals.take (k+1)).map cT).flatten)) wk⟩,mn bG (ij (A:=(_::A)) (Jz:((bs++((p.globals.take k).map cT).flatten)++dO m [(⟨#[118,97,114,32]⟩:aI),p.globals[k].name,(⟨#[59]⟩:aI)])=(bs++((p.globals.take (k+1)).map cT).flatten)))⟩
  refine aF J (bN h4) (go 5 ?_);refine bu [b2,b1] ?_;have hle:=congrArg List.length (QF (g:=p.globals[k]) hm Y);refine aU [0,1,2,3,4] 3 (go 6 ?_);refine aY 5 J J (pV 0 [] J J V call117 J J (Q8 p.globals[k].init hgs.1 _) dX dX (λ_=>dX) ?_);rintro _ _ ⟨rfl,rfl⟩;refine aY 6 J J (bU (r:=cj [(⟨#[118,97,114,32]⟩:aI),p.globals[k].name,(⟨#[32,61,32]⟩:aI),(bytes (fW p.globals[k].init)),(⟨#[59]⟩:aI)]) (hps:=(.cons J (.cons J (.cons J (.cons J (.cons J .nil)))))) Dp ?_);refine aY 7 J J (kF J lb J (lU [(⟨#[118,97,114,32]⟩:aI),p.globals[k].name,(⟨#[32,61,32]⟩:aI),(bytes (fW p.globals[k].init)),(⟨#[59]⟩:aI)] (_::_::A) B W m a1 v1 (bs++((p.globals.take k).map cT).flatten) rw hC1 (fV J) jl) aM co (λhn=>⟨vq hn,λb hb=>gi hn hb⟩) λa9 v9 hC9=>?_);refine bC (go 3 ?_);refine bK J (go 2 ?_);exact ⟨Y,(a9,v9),⟨hC9,qf (O8:((bs++((p.globals.take k).map cT).flatten)++dO m [(⟨#[118,97,114,32]⟩:aI),p.globals[k].name,(⟨#[32,61,32]⟩:aI),(bytes (fW p.globals[k].init)),(⟨#[59]⟩:aI)])=(bs++((p.globals.take (k+1)).map cT).flatten)) wk⟩,mn bG (ij (A:=(_::A)) (O8:((bs++((p.globals.take k).map cT).flatten)++dO m [(⟨#[118,97,114,32]⟩:aI),p.globals[k].name,(⟨#[32,61,32]⟩:aI),(bytes (fW p.globals[k].init)),(⟨#[59]⟩:aI)])=(bs++((p.globals.take (k+1)).map cT).flatten)))⟩
 refine aF J (ct h2) (go 12 ?_);obtain rfl:k=p.globals.length:=Y;rw [hP] at hZ⊢;refine go 7 ?_;refine ji (α:=Option Addr×aN) (λi g=>gD W g.1 /\ qP ((bs++((p.globals.map cT).flatten))++((p.mutexes.take i).map ci).flatten) g.2) (p.mutexes.length) 40 (λg=>aR g.2++[W]) (λi g=>dD (⟨b1,27,(di p)⟩::A) W m g.1 g.2 ((bs++((p.globals.map cT).flatten))++((p.mutexes.take i).map ci).flatten) B rw) (λi=>[(0,cL (aE W)),(3,aE b1),(38,.c (aG bB p.mutexes)),(39,ab p.mutexes.length)]) (a1,v1) ⟨hC1,qf (aM:(bs++((p.globals.map cT).flatten))=((bs++((p.globals.map cT).flatten))++((p.mutexes.take 0).map ci).flatten)) hZ⟩ (mn (h:=ao J) (.refl _) (ij (A:=(_::A)) (aM:(bs++((p.globals.map cT).flatten))=((bs++((p.globals.map cT).flatten))++((p.mutexes.take 0).map ci).flatten)))) ?_;rintro i ⟨a11,v11⟩ hi RC;dsimp only at RC
 try dsimp only
 obtain ⟨RC,hZ⟩:=RC;refine go 2 ?_;by_cases h12:(i:Int)<(p.mutexes.length:Int)
 ·refine aJ J (cw h12) (go 10 ?_);have hil:i<p.mutexes.length:=Y;have hms:=hs.mutexes _ (getElem_mem hil);have hmok:=hv.2.1 _ (getElem_mem hil);have hcn:=JK ci p.mutexes i hil;refine aC J (bX bB bB p.mutexes lC (λ_=>J) i J J J J Y V j6 fp) (go 9 λb3=>?_);rcases bz (p.mutexes[i].ex) with n9|n9
  ·refine aC J (cP (bH n9) (cW [] dJ dI)) (go 5 ?_);have hle:=congrArg List.length (Jq (x:=p.mutexes[i]) hm n9 (Mj hmok n9));refine go 3 ?_;refine aW J (bU (r:=cj [(⟨#[114,109,117,116,101,120,32]⟩:aI),p.mutexes[i].name,(⟨#[59]⟩:aI)]) (hps:=(.cons J (.cons J (.cons J .nil)))) wC ?_);refine aW J (kF J lb J (lU [(⟨#[114,109,117,116,101,120,32]⟩:aI),p.mutexes[i].name,(⟨#[59]⟩:aI)] (_::_::A) B W m a11 v11 ((bs++((p.globals.map cT).flatten))++((p.mutexes.take i).map ci).flatten) rw RC (fV J) jl) aM co kG λa16 v16 aSr=>?_);refine go 5 ?_;refine bK J (go 2 ?_);exact ⟨Y,(a16,v16),⟨aSr,qf (Lo:(((bs++((p.globals.map cT).flatten))++((p.mutexes.take i).map ci).flatten)++dO m [(⟨#[114,109,117,116,101,120,32]⟩:aI),p.mutexes[i].name,(⟨#[59]⟩:aI)])=((bs++((p.globals.map cT).flatten))++((p.mutexes.take (i+1)).map ci).flatten)) wk⟩,mn bG (ij (A:=(_::A)) (Lo:(((bs++((p.globals.map cT).flatten))++((p.mutexes.take i).map ci).flatten)++dO m [(⟨#[114,109,117,116,101,120,32]⟩:aI),p.mutexes[i].name,(⟨#[59]⟩:aI)])=((bs++((p.globals.map cT).flatten))++((p.mutexes.take (i+1)).map ci).flatten)))⟩
  refine aC J (cP (bH n9) (cW [] dJ dI)) (go 8 ?_);by_cases h18:(0:Int)<p.mutexes[i].size
  ·refine aJ J (fF h18) (go 4 ?_);refine bu [b3,b1] ?_;have hle:=congrArg List.length (MZ (x:=p.mutexes[i]) hm n9 Y);refine aU [0,1,2,3,4] 3 (go 6 ?_);refine aY 5 J J (pV 0 [] J J V call117 J J (Q8 p.mutexes[i].size hms.1 _) dX dX (λ_=>dX) ?_);rintro _ _ ⟨rfl,rfl⟩;refine aY 6 J J (bU (r:=cj [(⟨#[109,117,116,101,120,32]⟩:aI),p.mutexes[i].name,(⟨#[91]⟩:aI),(bytes (fW p.mutexes[i].size)),(⟨#[93,59]⟩:aI)]) (hps:=(.cons J (.cons J (.cons J (.cons J (.cons J .nil)))))) Dp ?_);refine aY 7 J J (kF J lb J (lU [(⟨#[109,117,116,101,120,32]⟩:aI),p.mutexes[i].name,(⟨#[91]⟩:aI),(bytes (fW p.mutexes[i].size)),(⟨#[93,59]⟩:aI)] (_::_::A) B W m a11 v11 ((bs++((p.globals.map cT).flatten))++((p.mutexes.take i).map ci).flatten) rw RC (fV J) jl) aM co (λhn=>⟨vq hn,λb hb=>gi hn hb⟩) λa21 v21 aJi=>?_);refine bC (go 4 ?_);refine bK J (go 2 ?_);exact ⟨Y,(a21,v21),⟨aJi,qf (NQ:(((bs++((p.globals.map cT).flatten))++((p.mutexes.take i).map ci).flatten)++dO m [(⟨#[109,117,116,101,120,32]⟩:aI),p.mutexes[i].name,(⟨#[91]⟩:aI),(bytes (fW p.mutexes[i].size)),(⟨#[93,59]⟩:aI)])=((bs++((p.globals.map cT).flatten))++((p.mutexes.take (i+1)).map ci).flatten)) wk⟩,mn bG (ij (A:=(_::A)) (NQ:(((bs++((p.globals.map cT).flatten))++((p.mutexes.take i).map ci).flatten)++dO m [(⟨#[109,117,116,101,120,32]⟩:aI),p.mutexes[i].name,(⟨#[91]⟩:aI),(bytes (fW p.mutexes[i].size)),(⟨#[93,59]⟩:aI)])=((bs++((p.globals.map cT).flatten))++((p.mutexes.take (i+1)).map ci).flatten)))⟩
  refine aF J (fE h18) (go 5 ?_);have hle:=congrArg List.length (L9 (x:=p.mutexes[i]) hm n9 Y);refine go 3 ?_;refine aW J (bU (r:=cj [(⟨#[109,117,116,101,120,32]⟩:aI),p.mutexes[i].name,(⟨#[59]⟩:aI)]) (hps:=(.cons J (.cons J (.cons J .nil)))) wC ?_);refine aW J (kF J lb J (lU [(⟨#[109,117,116,101,120,32]⟩:aI),p.mutexes[i].name,(⟨#[59]⟩:aI)] (_::_::A) B W m a11 v11 ((bs++((p.globals.map cT).flatten))++((p.mutexes.take i).map ci).flatten) rw RC (fV J) jl) aM co kG λa23 v23 aSs=>?_);refine go 5 ?_;refine bK J (go 2 ?_);exact ⟨Y,(a23,v23),⟨aSs,qf (MM:(((bs++((p.globals.map cT).flatten))++((p.mutexes.take i).map ci).flatten)++dO m [(⟨#[109,117,116,101,120,32]⟩:aI),p.mutexes[i].name,(⟨#[59]⟩:aI)])=((bs++((p.globals.map cT).flatten))++((p.mutexes.take (i+1)).map ci).flatten)) wk⟩,mn bG (ij (A:=(_::A)) (MM:(((bs++((p.globals.map cT).flatten))++((p.mutexes.take i).map ci).flatten)++dO m [(⟨#[109,117,116,101,120,32]⟩:aI),p.mutexes[i].name,(⟨#[59]⟩:aI)])=((bs++((p.globals.map cT).flatten))++((p.mutexes.take (i+1)).map ci).flatten)))⟩
 refine aF J (ct h12) (go 11 ?_);obtain rfl:i=p.mutexes.length:=Y;rw [hP] at hZ⊢;refine go 7 ?_;refine ji (α:=Option Addr×aN) (λf g=>gD W g.1 /\ qP (((bs++((p.globals.map cT).flatten))++((p.mutexes.map ci).flatten))++((p.funcs.take f).map funcText).flatten) g.2) (p.funcs.length) 73 (λg=>aR g.2++[W]) (λf g=>dD (⟨b1,27,(di p)⟩::A) W m g.1 g.2 (((bs++((p.globals.map cT).flatten))++((p.mutexes.map ci).flatten))++((p.funcs.take f).map funcText).flatten) B rw) (λf=>[(0,cL (aE W)),(3,aE b1),(71,.c (aG bT p.funcs)),(72,ab p.funcs.length)]) (a11,v11) ⟨RC,qf (aM:((bs++((p.globals.map cT).flatten))++((p.mutexes.map ci).flatten))=(((bs++((p.globals.map cT).flatten))++((p.mutexes.map ci).flatten))++((p.funcs.take 0).map funcText).flatten)) hZ⟩ (mn (h:=ao J) (.refl _) (ij (A:=(_::A)) (aM:((bs++((p.globals.map cT).flatten))++((p.mutexes.map ci).flatten))=(((bs++((p.globals.map cT).flatten))++((p.mutexes.map ci).flatten))++((p.funcs.take 0).map funcText).flatten)))) ?_;rintro f ⟨a25,v25⟩ hf aH9;dsimp only at aH9
 try dsimp only
 obtain ⟨aH9,hZ⟩:=aH9;refine go 2 ?_;by_cases ws:(f:Int)<(p.funcs.length:Int)
 ·refine aJ J (cw ws) (go 10 ?_);have hfl:f<p.funcs.length:=Y;have hfs:=hs.funcs _ (getElem_mem hfl);have hcn:=JK funcText p.funcs f hfl;have hle:=congrArg List.length (OS (f:=p.funcs[f]) hm);simp only [length_append] at hle;have hft:=congrArg List.length (Ib p.funcs[f]);simp only [length_append] at hft;have hfw:=qX a_.wt p.funcs f hfl;rw [show a_.wt p.funcs[f]=1+p.funcs[f].params.length+an p.funcs[f].body from rfl] at hfw;have hfb:=Eu hv0 _ (getElem_mem hfl);refine aC J (bX bT bT p.funcs mY (λ_=>J) f J J J J Y V fu du) (go 20 λb4=>?_);refine gA 9 1 ?_;refine Gs (λj=>True) (p.funcs[f].params.length) 80 10 9 1 (λj=>((p.funcs[f].params.take j).map jP).length) (λj=>cj ((p.funcs[f].params.take j).map jP)) (b4::(aR v25++[W])) (λj=>[(0,cL (aE W)),(3,aE b1),(9,aE b4),(71,.c (aG bT p.funcs)),(72,ab p.funcs.length),(73,ab f),(78,.c (aG cE p.funcs[f].params)),(79,aj ((p.funcs[f].params.length:Nat):Int))]) trivial (az (by intro x hx;simp only [aR,Value.ownBlock,Option.toList,ck] at hx;exact hx)) λj vp hj _=>?_;show bi prog _ ⟨113,_,⟨_,⟨_,_,_,((p.funcs[f].params.take j).map jP).length,cj ((p.funcs[f].params.take j).map jP)⟩::_⟩,(80,ab j)::(10,ap vp)::[(0,cL (aE W)),(3,aE b1),(9,aE b4),(71,.c (aG bT p.funcs)),(72,ab p.funcs.length),(73,ab f),(78,.c (aG cE p.funcs[f].params)),(79,aj ((p.funcs[f].params.length:Nat):Int))]⟩ _;refine go 2 ?_;by_cases RT:(j:Int)<((p.funcs[f].params.length:Nat):Int)
  ·refine aJ J (cw RT) (go 10 ?_);have hjl:j<p.funcs[f].params.length:=Y;have hcl:((p.funcs[f].params.take j).map jP).length <= j:=K5;have hpn:p.funcs[f].params[j].name.data.toList.length <= 4611686018427387904:=hfs.2.1 _ (getElem_mem hjl);refine aC J (bX cE cE p.funcs[f].params iQ (λ_=>J) j J J J J Y V iK ga) (go 9 λb5=>?_);rcases bz (p.funcs[f].params[j].mutex) with DH|DH;focus
    refine aC J (cP (bH DH) (cW [] dJ dI)) (go 8 ?_);refine aC J (cP (fj (show (bytes (([109,117,116,101,120,32]:List UInt8)++p.funcs[f].params[j].name.data.toList))=(jP p.funcs[f].params[j]) by exact TD DH)) (ee ([109,117,116,101,120,32]:List UInt8) p.funcs[f].params[j].name.data.toList J J J J (back _))) ?_;refine aW J (bU (r:=cj [(jP p.funcs[f].params[j])]) iy ?_);refine aW J (dS [] pE J J V cO Y (@length_append _ ((p.funcs[f].params.take j).map jP) [(jP p.funcs[f].params[j])]).symm fy co (e1 (f:=λx=>aO.val (.string x))).symm λw6=>?_);refine go 8 ?_
   rotate_left;refine aC J (cP (bH DH) (cW [] dJ dI)) (go 8 ?_);refine aC J (cP (fj (show p.funcs[f].params[j].name=(jP p.funcs[f].params[j]) by exact UZ DH)) (cW [] rl iG)) ?_;refine aW J (bU (r:=cj [(jP p.funcs[f].params[j])]) iy ?_);refine aW J (dS [] pE J J V cO Y (@length_append _ ((p.funcs[f].params.take j).map jP) [(jP p.funcs[f].params[j])]).symm fy co (e1 (f:=λx=>aO.val (.string x))).symm λw7=>?_);refine go 5 ?_;all_goals
    refine bK J (go 2 ?_);rw [show ((p.funcs[f].params.take j).map jP)++[jP p.funcs[f].params[j]]=(p.funcs[f].params.take (j+1)).map jP by rw [gX Y,e1];rfl];exact ⟨Y,trivial,_,az (h1:=bG) (h:=av J (b_ Y) (ao J)) fG⟩
  refine aF J (ct RT) (go 10 ?_);obtain rfl:j=p.funcs[f].params.length:=Y;rw [hP];refine oB 10 J ?_;refine bu [b4,b1] (aU [0,1,2,3] 3 (go 5 ?_));refine aY 4 J J (dv J J V call118 J (TL p.funcs[f].params Y Y _) ?_);rintro _ _ ⟨rfl,rfl⟩;refine aY 5 J J (bU (r:=cj [(⟨#[102,117,110,99,32]⟩:aI),p.funcs[f].name,(⟨#[40]⟩:aI),(bytes (dM ed p.funcs[f].params)),(⟨#[41,32,123]⟩:aI)]) (hps:=(.cons J (.cons J (.cons J (.cons J (.cons J .nil)))))) Dp ?_);refine aY 6 J J (kF J lb J (lU [(⟨#[102,117,110,99,32]⟩:aI),p.funcs[f].name,(⟨#[40]⟩:aI),(bytes (dM ed p.funcs[f].params)),(⟨#[41,32,123]⟩:aI)] (_::_::A) B W m a25 v25 (((bs++((p.globals.map cT).flatten))++((p.mutexes.map ci).flatten))++((p.funcs.take f).map funcText).flatten) rw aH9 (fV J) jl) aM co (λhn=>⟨vq hn,λb hb=>gi hn hb⟩) λa35 v35 aSt=>?_);refine bC (go 6 ?_);refine aW J (ww 0 J call119 J (Ug p.funcs[f].body (_::_::A) B W m a35 v35 ((((bs++((p.globals.map cT).flatten))++((p.mutexes.map ci).flatten))++((p.funcs.take f).map funcText).flatten)++dO m [(⟨#[102,117,110,99,32]⟩:aI),p.funcs[f].name,(⟨#[40]⟩:aI),(bytes (dM ed p.funcs[f].params)),(⟨#[41,32,123]⟩:aI)]) rw aSt hm hfb.1 hfs.2.2 Y jl) aM co kG λa36 v36 aSu=>?_);refine go 4 ?_;refine aW J (bU (r:=cj [(⟨#[125]⟩:aI)]) iy ?_);refine aW J (kF J lb J (lU [(⟨#[125]⟩:aI)] (_::_::A) B W m a36 v36 (((((bs++((p.globals.map cT).flatten))++((p.mutexes.map ci).flatten))++((p.funcs.take f).map funcText).flatten)++dO m [(⟨#[102,117,110,99,32]⟩:aI),p.funcs[f].name,(⟨#[40]⟩:aI),(bytes (dM ed p.funcs[f].params)),(⟨#[41,32,123]⟩:aI)])++bS [9] p.funcs[f].body) rw aSu (fV J) jl) aM co kG λa37 v37 aSv=>?_);refine go 4 ?_;refine bK J (go 2 ?_);exact ⟨Y,(a37,v37),⟨aSv,qf (O3:((((((bs++((p.globals.map cT).flatten))++((p.mutexes.map ci).flatten))++((p.funcs.take f).map funcText).flatten)++dO m [(⟨#[102,117,110,99,32]⟩:aI),p.funcs[f].name,(⟨#[40]⟩:aI),(bytes (dM ed p.funcs[f].params)),(⟨#[41,32,123]⟩:aI)])++bS [9] p.funcs[f].body)++dO m [(⟨#[125]⟩:aI)])=(((bs++((p.globals.map cT).flatten))++((p.mutexes.map ci).flatten))++((p.funcs.take (f+1)).map funcText).flatten)) wk⟩,mn bG (ij (A:=(_::A)) (O3:((((((bs++((p.globals.map cT).flatten))++((p.mutexes.map ci).flatten))++((p.funcs.take f).map funcText).flatten)++dO m [(⟨#[102,117,110,99,32]⟩:aI),p.funcs[f].name,(⟨#[40]⟩:aI),(bytes (dM ed p.funcs[f].params)),(⟨#[41,32,123]⟩:aI)])++bS [9] p.funcs[f].body)++dO m [(⟨#[125]⟩:aI)])=(((bs++((p.globals.map cT).flatten))++((p.mutexes.map ci).flatten))++((p.funcs.take (f+1)).map funcText).flatten)))⟩
 refine aF J (ct ws) (go 8 ?_);obtain rfl:f=p.funcs.length:=Y;rw [hP] at hZ⊢;exact ⟨.inl J,_,dD A W m a25 v25 _ B rw,fg J,ah bG (.refl _),J,a25,v25,⟨aH9,qf (by unfold iJ;simp only [append_assoc]) hZ⟩,ij (by unfold iJ;simp only [append_assoc])⟩
end
section
open Go.RowKit
def X6(w:aa)(g n:Nat):cQ [g] w (w.freeze ⟨g,0,none⟩ n):=by
 unfold World.freeze;split
 ·exact cQ.refl _ _
 exact ⟨J,J,J,aM,λi hi hn=>by
  simp only [Dd];rw [if_neg (by intro h;subst h;exact hn aM)]⟩
section
variable {P:Program}{U T:List Nat}{o:Oper}{n d:Nat}{ts:List (Nat×AT)}{K:AS -> Prop}{st:AS}{bx:List aV}{rw:List aQ}
theorem Y3{x:bb}{t:ax}{k c:Nat}(ho:o.op=.call {callee:=.builtin .unsafeSliceData,args:=#[x],argTypes:=#[t]})(hx:aw st x=some (ap (.slice none k c))):cp P U o st (ap (.pointer none)):=
 iM rfl λa w hs w'=>by
  simp only [execOp,ho,resolve,mH,ca,d7,hs.val hx];simp [go_sem,invoke,builtin,Lib.run_unsafeSliceData_nil]
theorem Sw{x:bb}{t:ax}{q:Addr}{k c:Nat}(ho:o.op=.call {callee:=.builtin .unsafeSliceData,args:=#[x],argTypes:=#[t]})(hx:aw st x=some (ap (.slice (some q) k c)))(hc:c≠0):cp P U o st (ap (.pointer (some q))):=
 iM rfl λa w hs w'=>by
  simp only [execOp,ho,resolve,mH,ca,d7,hs.val hx];simp [go_sem,invoke,builtin,Lib.run_unsafeSliceData_row _ _ _ _ _ _ hc]
theorem TU{x y:bb}{pt it:ax}{q:Option Addr}(ho:o.op=.call {callee:=.builtin .unsafeString,args:=#[x,y],argTypes:=#[pt,it]})(hx:aw st x=some (ap (.pointer q)))(hy:aw st y=some (aj 0)):cp P U o st (cK .empty):=
 iM rfl λa w hs w'=>by
  simp only [execOp,ho,resolve,mH,ca,d7,hs.val hx,hs.val hy];simp [go_sem,invoke,builtin,Lib.run_unsafeString_none]
theorem UO{x y:bb}{pt it E:ax}{g cap:Nat}{l:List UInt8}(ho:o.op=.call {callee:=.builtin .unsafeString,args:=#[x,y],argTypes:=#[pt,it]})(hd:o.dst=some d)(hn:d<n)
  (hx:aw ⟨n,T,⟨bx,⟨.slice (some ⟨g,0,none⟩) l.length cap,E,1,l.length,cb l⟩::rw⟩,ts⟩ x=some (aE g)) (hy:aw ⟨n,T,⟨bx,⟨.slice (some ⟨g,0,none⟩) l.length cap,E,1,l.length,cb l⟩::rw⟩,ts⟩ y=some (ab l.length))
  (hp:P.underlying pt=some (.pointer E)) (hc:P.cellsOf E=1) (h0:l≠[]) (h63:l.length <= 9223372036854775807) (hT:g∈T) (hU:(⟨bx,⟨.slice (some ⟨g,0,none⟩) l.length cap,E,1,l.length,cb l⟩::rw⟩:aH).bl.Nodup -> g∈U)
  (h:K ⟨n,T,⟨bx,rw⟩,(d,cK (bytes l))::ts⟩):db P U o ⟨n,T,⟨bx,⟨.slice (some ⟨g,0,none⟩) l.length cap,E,1,l.length,cb l⟩::rw⟩,ts⟩ K:=by
 intro a w hs KK QQ hK;obtain ⟨us,la,hrep⟩:=hs.mem.row ⟨.slice (some ⟨g,0,none⟩) l.length cap,E,1,l.length,cb l⟩ aM;obtain ⟨-,hown⟩:=la.row0 rfl;rcases hown with ⟨h1,-⟩|⟨g',cap',cur,hv,-,hh,hkc,hcm,hcs,htk⟩
 ·cases h1
 cases hv;dsimp only at hh hkc hcs htk hrep;obtain rfl:us=dU l:=AE (vs:=dU l) (by rw [show (dU l).map aO.val=cb l by simp [dU,cb]];exact hrep);simp only [sM] at hcs htk;have hsh:w.shape? g=some (E,cap):=by unfold World.shape?;rw [hh];simp [hcs]
 have hcell:∀j x,l[j]?=some x -> w.cell? ((⟨g,0,none⟩:Addr).add j)=some (.int .u8 x.toNat):=λj x hj=>by
  have hjl:j<l.length:=(mN.1 hj).1;have ae:(⟨g,0,none⟩:Addr).add j=⟨g,j,none⟩:=Aq;rw [ae];have e2:cur[j]?=some (.int .u8 x.toNat):=by
   have h9:=congrArg (λq:List aN=>q[j]?) htk;simp only [pD,if_pos hjl,dU,nz,hj,o4,nd] at h9;exact h9
  unfold World.cell?;simp only [hh,cq];exact e2
 have hkF:=X6 w g l.length;have hnd:=hs.mem.nodup;have hg:g∉(⟨bx,rw⟩:aH).bl:=λhm=>by
  unfold aH.bl at hnd hm;simp only [eZ] at hnd;have hnd2:=eF.1 hnd;rcases mem_append.1 hm with hm|hm
  ·exact hnd2.2.2 g hm g gy J
  exact (eF.1 hnd2.2.1).2.2 g gy g hm J
 have hsub:∀b,b∈(⟨bx,rw⟩:aH).bl -> b∈(⟨bx,⟨.slice (some ⟨g,0,none⟩) l.length cap,E,1,l.length,cb l⟩::rw⟩:aH).bl:=λb hb=>by
  unfold aH.bl at hb⊢;rcases mem_append.1 hb with hb|hb
  ·exact gW _ hb
  exact gz _ (by simp only [eZ];exact gz _ hb)
 have hgf:g∈(⟨bx,⟨.slice (some ⟨g,0,none⟩) l.length cap,E,1,l.length,cb l⟩::rw⟩:aH).bl:=Im;have hu:f7 (bh (⟨bx,⟨.slice (some ⟨g,0,none⟩) l.length cap,E,1,l.length,cb l⟩::rw⟩:aH).bl w) (bh (⟨bx,rw⟩:aH).bl (w.freeze ⟨g,0,none⟩ l.length)):=l_ hkF (λx hx=>by simp at hx;subst hx;exact hgf) (λb hb=>.inl (hsub b hb));have hne:∀b,b∈(⟨bx,rw⟩:aH).bl -> (w.freeze ⟨g,0,none⟩ l.length).heap[b]?=w.heap[b]?:=λb hb=>hkF.block b (hs.mem.lt b (hsub b hb)) (by simp;intro he;subst he;exact hg hb);have hsl:(⟨bx,rw⟩:aH).bl.Sublist (⟨bx,⟨.slice (some ⟨g,0,none⟩) l.length cap,E,1,l.length,cb l⟩::rw⟩:aH).bl:=CU (wR _) (J_ _ (List.Sublist.cons _ (wR _)));have hm1:Mem ⟨bx,rw⟩ (w.freeze ⟨g,0,none⟩ l.length):=by
  refine ⟨hsl.nodup hs.mem.nodup,λb hb=>mM (hs.mem.lt b (hsub b hb)) hkF.size,λx hx=>?_,λr hr=>?_⟩
  ·obtain ⟨us,ae,e2⟩:=hs.mem.box x hx;exact ⟨us,by rw [hne _ (gW _ (k_.2 ⟨x,hx,rfl⟩))];exact ae,e2.mono hu⟩
  obtain ⟨us,ae,e2⟩:=hs.mem.row r (d_ _ hr);exact ⟨us,ae.keep λq hq=>hne q (gz _ (kr.2 ⟨r,hr,hq⟩)),e2.mono hu⟩
 unfold Oper.wp;have IT:(execOp a.eval o).run P w=.ok (.value (.string (bytes l))) (w.freeze ⟨g,0,none⟩ l.length):=by
  simp only [execOp,ho,resolve,mH,ca,d7,hs.val hx,hs.val hy];simp [go_sem,invoke,builtin,Lib.run_unsafeString_row w pt it _ E hp hc g cap hsh l h0 hkc h63 hcell]
  rfl
 rw [IT,Oper.upon_value,hd];exact hK _ _ _ h ((hs.step T (hkF.mono (by simp;exact hgf)) hm1 (λb hb=>.inl (hsub b hb))).put hn (cS.c _ _ (.val _ J))) ⟨hkF.mono (by simp;exact hgf),hkF.mono AA,λb hb=>.inl (hsub b hb),λb hb=>.inl hb⟩ (hkF.mono zN)
end
def Vb(p:aX)(B:List aV)(W:Nat)(rw:List aQ)(hv:kO p=true)(hs:p.bt)(hw:p.wt <= 9000000)(hb:(iJ p).length <= 100000000000000):aT prog 92 [cL (aE W),.agg (di p)] (W::aR (.slice none 0 0)) (dD [] W 0 none (.slice none 0 0) [] B rw) (λt s'=>t=.fd [] /\ ∃a' v',(gD W a' /\ qP (iJ p) v') /\ s'=dD [] W 0 a' v' (iJ p) B rw):=
 Vd p [] B W 0 none (.slice none 0 0) [] rw (.inl rfl) (λ_=>rfl) rfl hv hs hw xU
def V8(A B:List aV)(W m:Nat)(a:Option Addr)(rw:List aQ):aT prog 93 [aE W] [] (dD A W m a (.slice none 0 0) [] B rw) λt s'=>t=cK (bytes []) /\ s'=⟨A++⟨W,180,[.val (.pointer a),aK,am m]⟩::B,rw⟩:=by
 refine bM 14 func93 ?_;refine go 6 ?_;refine bu [W] (aU [0,1,2,3] 8 (go 5 ?_));refine aZ 4 J (Y3 J J) (aU [5,6,7,8,9] 2 (go 6 ?_));refine aZ 10 J (TU J J J) (aU [11] 0 (go 2 ?_));refine bC (go 2 ?_);exact ⟨.inr J,_,⟨A++⟨W,180,[.val (.pointer a),aK,am m]⟩::B,rw⟩,bJ J (bO J),ah (.refl _) bG,J,J⟩
def Sr(A B:List aV)(W m:Nat)(a:Option Addr)(bs:List UInt8)(rw:List aQ)(g cap:Nat)(hc:cap≠0)(h0:bs≠[])(h63:bs.length <= 9223372036854775807):aT prog 93 [aE W] [g] (dD A W m a (.slice (some ⟨g,0,none⟩) bs.length cap) bs B rw) λt s'=>t=cK (bytes bs) /\ s'=⟨A++⟨W,180,[.val (.pointer a),.val (.slice (some ⟨g,0,none⟩) bs.length cap),am m]⟩::B,rw⟩:=by
 refine bM 14 func93 ?_;refine go 6 ?_;refine bu [W] (aU [0,1,2,3] 8 (go 5 ?_));refine aZ 4 J (Sw J J hc) (aU [5,6,7,8,9] 2 (go 6 ?_));refine aY 10 J J (UO J J V J J underlying203 aL h0 h63 gy (λhn=>gi hn gy) ?_);refine aU [11] 0 (go 2 ?_);refine bC (go 2 ?_);exact ⟨.inr J,_,⟨A++⟨W,180,[.val (.pointer a),.val (.slice (some ⟨g,0,none⟩) bs.length cap),am m]⟩::B,rw⟩,bJ J (bO J),ah (.refl _) (.refl _),J,J⟩
def S4(A B:List aV)(W m:Nat)(a:Option Addr)(v:aN)(bs:List UInt8)(rw:List aQ)(hz:qP bs v)(hb:bs.length <= 9223372036854775807):aT prog 93 [aE W] (aR v) (dD A W m a v bs B rw) λt s'=>t=cK (bytes bs) /\ s'=⟨A++⟨W,180,[.val (.pointer a),.val v,am m]⟩::B,rw⟩:=by
 intro vs w hm hT hl hr;obtain ⟨us,la,hrep⟩:=hm.row ⟨v,5,1,bs.length,cb bs⟩ aM;obtain ⟨hlen,hown⟩:=la.row Nat.zero_lt_one;dsimp only at hlen hown hrep;rcases hown with ⟨rfl,h0⟩|⟨g,cap,cur,rfl,-,hh,hkc,hcm,hcs,htk⟩
 ·obtain rfl:bs=[]:=ke.1 h0;exact V8 A B W m a rw vs w hm hT hl hr
 by_cases h0:bs=[]
 ·have:=hz h0;cases this
 exact Sr A B W m a bs rw g cap (by have:bs.length≠0:=(by simpa using h0);omega) h0 hb vs w hm hT hl hr
def WW{p:aX}(h1:nD p=true)(h2:(p.funcs.any λf=>!gh f)=false):kO p=true:=by
 rw [show kO p=(nD p && p.funcs.all gh) from rfl,h1,pm h2];rfl
def Jh{p:aX}(h1:nD p=false):kO p=false:=by rw [show kO p=(nD p && p.funcs.all gh) from rfl,h1];rfl
def PE{p:aX}(h2:(p.funcs.any λf=>!gh f)=true):kO p=false:=by rw [show kO p=(nD p && p.funcs.all gh) from rfl,AW h2,ra]
abbrev zh(p:aX):List UInt8:=if kO p=true then iJ p else []
abbrev Hp(p:aX):AT:=.fd [cK (bytes (zh p)),au (gw p)]
def Ej{p:aX}{x:aI}{b:Bool}(h1:bytes (zh p)=x)(h2:gw p=b):(AT.fd [cK x,au b])=Hp p:=by unfold Hp;rw [h1,h2]
def Tv(p:aX)(hs:p.bt)(hw:p.wt <= 9000000)(s:aH):aT prog 64 [cL (.agg (di p))] [] s λt s'=>t=Hp p /\ s'=s:=by
 obtain ⟨bx,rw⟩:=s;refine bM 36 func64 ?_;refine go 11 λb1=>?_;rcases bz (nD p) with h1|h1
 ·refine d9 0 J call88 J (Qg p hs Y _) h1 (go 4 ?_);rcases bz (p.funcs.any λf=>!gh f) with h2|h2
  ·refine d9 0 J call89 J (Jk (λf=>!gh f) p.funcs 90 #[] _ Pe call90 Ko) h2 (go 12 ?_);exact ⟨.inr J,_,⟨bx,rw⟩,jA J (bO J) (bO J),ah bG (.refl _),Ej (by unfold zh;rw [if_neg (by rw [PE h2];decide)];rfl) (by rw [xQ,PE h2];rfl),J⟩
  refine d9 0 J call89 J (Jk (λf=>!gh f) p.funcs 90 #[] _ Pe call90 Ko) h2 (go 8 ?_);have hv:kO p=true:=WW h1 h2;refine go 7 λb2=>?_;refine wP 5 1 ?_;refine go 2 ?_;refine aW J (ww 0 J call92 J (Vb p _ b2 rw hv hs hw (by have:=Bc hs hv;omega)) aM qd (λ_=>⟨aM,λb hb=>I8⟩) λa2 v2 hC2=>?_);refine go 7 ?_;refine aW J (bo (aR v2) J J V call93 J (S4 [] _ b2 0 a2 v2 (iJ p) rw hC2.2 (by have:=Bc hs hv;omega)) co (λb hb=>by simp [aH.bl,hb]) fy ?_);rintro _ _ ⟨rfl,rfl⟩;refine go 6 ?_;refine aW J (B0 J J V J dz ky pR (by rw [AY];have:=Bc hs hv;omega) (N:=(iJ p).length) J (cs:=cb (iJ p)) J ?_);refine aW J (Gb 0 [] J J V call94 J J (λm=>GY (iJ p) m _) dX dX (λ_=>dX) ?_);rintro _ _ ⟨(⟨tl5,aO3,rfl,htl5⟩|⟨p5,e5,aO3,rfl,he5⟩),rfl⟩;focus
   refine go 13 ?_;refine aJ J jL (go 5 ?_)
  rotate_left;refine go 13 ?_;refine aF J (bN Y) (go 5 ?_);all_goals
   exact ⟨.inr J,_,⟨bx,rw⟩,jA J (bO J) (bO J),ah c_ (.refl _),Ej (by unfold zh;rw [if_pos hv]) (by rw [xQ,hv,aO3];rfl),J⟩
 refine d9 0 J call88 J (Qg p hs Y _) h1 (go 17 ?_);exact ⟨.inr J,_,⟨bx,rw⟩,jA J (bO J) (bO J),ah bG (.refl _),Ej (by unfold zh;rw [if_neg (by rw [Jh h1];decide)];rfl) (by rw [xQ,Jh h1];rfl),J⟩
def PU(p:aX)(hs:p.bt)(hw:p.wt <= 9000000)(s:aH):aT prog 33 [cL (.agg (di p))] [] s λt s'=>t=au (gw p) /\ s'=s:=by
 obtain ⟨bx,rw⟩:=s;refine bM 11 func33 ?_;refine go 9 λb1=>?_;refine kP 0 J call64 J (Tv p hs hw _) (go 14 ?_);exact bF bx rw J cU ⟨bZ J,J⟩
end
section
open Go.RowKit
mutual
def aD.cnt:aD -> Nat|.mk _ _ _ _ _ t e=>1+iY t+iY e
def iY:List aD -> Nat
 |[]=>0
 |s::r=>s.cnt+iY r
end
def oj(l:List aD):Nat:=(l.map λs=>iY s.thn+iY s.els).sum
def VY(s:aD):s.cnt=1+iY s.thn+iY s.els:=by cases s;rw [aD.cnt];rfl
def Ad:∀l:List aD,iY l=l.length+oj l
 |[]=>by rw [iY];rfl
 |s::l=>by have:=Ad l;rw [iY,VY];unfold oj at this⊢;simp only [ca,mh,length_cons];omega
def KU(l:List aD)(k:Nat)(h:k<l.length):oj (l.take (k+1))=oj (l.take k)+(iY l[k].thn+iY l[k].els):=by
 unfold oj;rw [gX h,e1,List.sum_append];simp
def GZ:∀(l:List aD)(k:Nat),oj (l.take k) <= oj l
 |[],k=>aM
 |x::l,0=>by simp [oj]
 |x::l,k+1=>by have:=GZ l k;unfold oj at this⊢;simp only [jb,ca,mh];omega
mutual
def WV:∀s:aD,s.cnt <= s.wt
 |.mk k n e r a t el=>by
  have h1:=B8 t;have h2:=B8 el;rw [aD.cnt,aD.wt];omega
def B8:∀l:List aD,iY l <= an l
 |[]=>by rw [iY];omega
 |s::l=>by
  have h1:=WV s;have h2:=B8 l;rw [iY,an];omega
end
def OA(l:List aD)(hl:iY l <= 1000000000)(hst:∀k (h:k<l.length) (s:aH),aT prog 12 [.c (aG encS l[k].thn)] [] s (λt s'=>t=aj ((iY l[k].thn:Nat):Int) /\ s'=s) /\ aT prog 12 [.c (aG encS l[k].els)] [] s (λt s'=>t=aj ((iY l[k].els:Nat):Int) /\ s'=s))(s:aH):aT prog 12 [.c (aG encS l)] [] s λt s'=>t=aj (iY l:Int) /\ s'=s:=by
 obtain ⟨bx,rw⟩:=s;have hkid:=Ad l;refine bM 29 func12 ?_;refine go 19 ?_;refine m9 (l.length) 4 (λk=>[(3,aj ((l.length+oj (l.take k):Nat):Int)),(0,.c (aG encS l))]) (av J (.refl _) (av J (b_ (by simp [oj])) (ao J))) λk hk=>?_;show bi prog _ ⟨29,_,_,(4,ab k)::[(3,aj ((l.length+oj (l.take k):Nat):Int)),(0,.c (aG encS l))]⟩ _;refine go 6 ?_;by_cases h1:(k:Int)<(l.length:Int)
 ·refine aJ J (cw h1) (go 7 ?_);refine bu [] ?_;have hkt:=KU l k Y;have hkm:=GZ l (k+1);refine aU [0,1,2] 13 (go 4 ?_);refine aZ 3 J (bX encS cm l kS mQ k J J J J Y V j0 eB) (aU [4,5,8,9] 8 (go 5 ?_));refine aZ 10 J (bX encS cm l kS mQ k J J J J Y V j0 eB) (aU [11,12] 5 (go 3 ?_));refine aY 6 J J (dv J J V call12 J ((hst k Y _).1) ?_);rintro _ _ ⟨rfl,rfl⟩;refine aZ 7 J (ua J J J Y Y) ?_;refine aY 13 J J (dv J J V call12 J ((hst k Y _).2) ?_);rintro _ _ ⟨rfl,rfl⟩;refine aZ 14 J (ua J J J Y Y) (aU [15] 0 (go 2 ?_));refine bC (go 4 ?_);refine bK J (go 2 ?_);exact ⟨Y,(av J (b_ Y) (av J (b_ Y) (ao J)))⟩
 refine aF J (ct h1) (go 15 ?_);exact bF bx rw J d3 ⟨ff (by rw [Ad];have hkl:k=l.length:=Y;subst hkl;rw [hP]),J⟩
def HY:∀(N:Nat)(l:List aD),iY l <= N -> N <= 1000000000 -> ∀s:aH,aT prog 12 [.c (aG encS l)] [] s λt s'=>t=aj (iY l:Int) /\ s'=s
 |0,l,h,hN,s=>OA l Y (λk hk=>absurd (Ad l) Y) s
 |N+1,l,h,hN,s=>OA l Y (λk hk s=>by
   have h1:=Ad l;have h2:=KU l k hk;have h3:=GZ l (k+1);exact ⟨HY N _ Y Y s,HY N _ Y Y s⟩) s
end
section
structure lu (x y:ai) (m c:Nat):Prop where
 code:y.code.length=x.code.length+c
 n:y.n=x.n+m
 loc:x.locals <= y.locals
 sites:∃t:List Int,y.sites=x.sites++t /\ (∀a,a∈t -> (x.n:Int) <= a /\ a<(y.n:Int)) /\ ∀k:Nat,x.n <= k -> k<y.n -> (k:Int)∈t
 sl:x.sites.length=x.code.length -> y.sites.length=y.code.length
 jmp:(∀i,i∈x.code -> (i.op=6∨i.op=7) -> i.target <= x.code.length) -> ∀i,i∈y.code -> (i.op=6∨i.op=7) -> i.target <= y.code.length
def lu.refl(x:ai):lu x x 0 0:=⟨rfl,rfl,bY _,⟨[],(eY _).symm,(λa h=>gQ),(λk h1 h2=>Y)⟩,λh=>h,λh=>h⟩
def lu.trans{x y z:ai}{m c m' c':Nat}(h:lu x y m c)(h':lu y z m' c'):lu x z (m+m') (c+c'):=by
 obtain ⟨t,e,b,v⟩:=h.sites;obtain ⟨t',e',b',v'⟩:=h'.sites;have h1:=h.n;have h2:=h'.n;refine ⟨by rw [h'.code,h.code];omega,Y,iN h.loc h'.loc,⟨t++t',by rw [e',e,append_assoc],λa ha=>?_,λk hk hk'=>?_⟩,λhl=>h'.sl (h.sl hl),λhj=>h'.jmp (h.jmp hj)⟩
 ·rcases mem_append.1 ha with ha|ha
  ·have:=b a ha;omega
  have:=b' a ha;omega
 by_cases hy:k<y.n
 ·exact gW _ (v k hk hy)
 exact gz _ (v' k Y hk')
def lu.put{x y:ai}{m c:Nat}(h:lu x y m c)(i:jD)(s:Nat)(h1:x.n <= s)(h2:s<y.n)(hi:(i.op=6∨i.op=7) -> i.target <= y.code.length+1):lu x (y.put i s) m (c+1):=by
 obtain ⟨t,e,b,v⟩:=h.sites;have hc:=h.code;refine ⟨yl,h.n,h.loc,⟨t++[(s:Int)],by show y.sites++[(s:Int)]=_;rw [e,append_assoc],λa ha=>?_,λk hk hk'=>gW _ (v k hk hk')⟩,λhl=>(by show (y.sites++[(s:Int)]).length=(y.code++[i]).length;rw [length_append,length_append,h.sl hl];rfl),λhj j hm ho=>?_⟩
 ·rcases mem_append.1 ha with ha|ha
  ·exact b a ha
  obtain rfl:=jq.1 ha;exact ⟨Y,by show (s:Int)<(y.n:Int);omega⟩
 rw [mJ];rcases mem_append.1 (show j∈y.code++[i] from hm) with hm|hm
 ·have:=h.jmp hj j hm ho;omega
 obtain rfl:=jq.1 hm;exact hi ho
def Iq{α:Type}{f:α -> α}:∀{l:List α} {b:Nat} {i:α},i∈l.modify b f -> i∈l∨∃j,j∈l /\ i=f j
 |[],_,_,h=>by rw [List.modify_nil] at h;cases h
 |a::l,0,i,h=>by
  rw [List.modify_zero_cons] at h;rcases mem_cons.1 h with rfl|h
  ·exact .inr ⟨a,mq,J⟩
  ·exact .inl (d_ _ h)
 |a::l,b+1,i,h=>by
  rw [List.modify_succ_cons] at h;rcases mem_cons.1 h with rfl|h
  ·exact .inl mq
  rcases Iq h with h|⟨j,h,e⟩
  ·exact .inl (d_ _ h)
  exact .inr ⟨j,d_ _ h,e⟩
def lu.patch{x y:ai}{m c:Nat}(h:lu x y m c)(b:Nat):lu x (y.patch b) m c:=by
 refine ⟨by rw [kg];exact h.code,h.n,h.loc,h.sites,λhl=>(by rw [kg];exact h.sl hl),λhj i hm ho=>?_⟩;rw [kg];rcases Iq (show i∈y.code.modify b (λi=>i.to y.code.length) from hm) with hm|⟨j,hm,rfl⟩
 ·exact h.jmp hj i hm ho
 exact bY _
def lu.back{x y:ai}{m c:Nat}(h:lu x y m c)(w:ai):lu x (w.back y) m c:=⟨h.code,h.n,h.loc,h.sites,h.sl,h.jmp⟩
def lu.one{x:ai}(y:ai){i:jD}(hc:y.code=x.code++[i])(hn:y.n=x.n+1)(hl:x.locals <= y.locals)(hs:y.sites=x.sites++[(x.n:Int)])(hi:(i.op=6∨i.op=7) -> i.target=0):lu x y 1 1:=by
 refine ⟨by rw [hc,length_append];rfl,hn,hl,⟨[(x.n:Int)],hs,λa ha=>?_,λk h1 h2=>?_⟩,λhl=>(by rw [hs,hc,length_append,length_append,hl];rfl),λhj j hm ho=>?_⟩
 ·obtain rfl:=jq.1 ha;rw [hn];omega
 ·obtain rfl:k=x.n:=Y;exact jq.2 J
 rw [hc] at hm⊢;rw [length_append];rcases mem_append.1 hm with hm|hm
 ·have:=hj j hm ho;omega
 obtain rfl:=jq.1 hm;rw [hi ho];omega
def LV{p:aX}:∀(l:List a_)(k:Nat),lW p l k=(0,0,0) -> ∀f,f∈l -> (kJ p f).1=0
 |[],_,_,f,hf=>by cases hf
 |a::l,k,h,f,hf=>by
  rw [lW] at h;split at h
  ·rename_i h0;rcases mem_cons.1 hf with rfl|hf
   ·exact h0
   exact LV l (k+1) h f hf
  rename_i h0;exact absurd (congrArg (λx=>x.2.2) h) h0
def Ty{p:aX}(h:gp p=(0,0,0)):gw p=true /\ jp [] (bd p)=none /\ oE p=true /\ ∀f,f∈p.funcs -> (kJ p f).1=0:=by
 unfold gp at h;split at h
 ·exact absurd (congrArg (λx=>x.2.2) h) (by show ¬(10:Nat)=0;decide)
 rename_i hv;split at h
 ·exact absurd (congrArg (λx=>x.2.2) h) (by show ¬(5:Nat)=0;decide)
 rename_i hb;split at h
 ·rename_i hm;exact ⟨by simpa using hv,hb,hm,LV _ _ h⟩
 exact absurd (congrArg (λx=>x.2.2) h) (by show ¬(9:Nat)=0;decide)
end
section
def QV:∀(ow:List aI)(v:br),dZ v -> dZ (ow.foldl eb v) /\ (∀s,s∈ow -> cB (ow.foldl eb v) s=0) /\ ∀s,s∉ow -> cB (ow.foldl eb v) s=cB v s
 |[],v,h=>⟨h,λs hs=>absurd hs not_mem_nil,λs _=>rfl⟩
 |k::ow,v,h=>by
  obtain ⟨h1,h2,h3⟩:=QV ow (eb v k) (h.del k);refine ⟨h1,λs hs=>?_,λs hs=>?_⟩
  ·rw [wH];by_cases hm:s∈ow
   ·exact h2 s hm
   rw [h3 s hm,xI h];rcases mem_cons.1 hs with rfl|hs
   ·rw [if_pos rfl]
   exact absurd hs hm
  simp only [mem_cons,not_or] at hs;rw [wH,h3 s hs.2,xI h,if_neg (λe=>hs.1 e.symm)]
def Df{fs:dW}{r:Nat×List aI×eJ}{v:br}(h0:r.1=0)(hk:dZ r.2.2.ch)(h1:∀q,q∈r.2.1 -> cB v q=0)(h2:∀q,q∉r.2.1 -> cB r.2.2.ch q=cB v q):dZ (ia r).2.ch /\ ∀q,cB (ia r).2.ch q=cB v q:=by
 obtain ⟨fK,fe,ou⟩:=QV r.2.1 r.2.2.ch hk;unfold ia;rw [if_pos h0];refine ⟨fK,λq=>?_⟩;by_cases hm:q∈r.2.1
 ·rw [h1 q hm];exact fe q hm
 rw [←h2 q hm];exact ou q hm
def vV(r:Nat×List aI×eJ):(ia r).1=r.1:=by unfold ia;split<;>simp_all
def TN(r:Nat×List aI×eJ):(ia r).2.at_=r.2.2.at_:=by unfold ia;split<;>rfl
mutual
def SJ(fs:dW):∀(s:aD)(x:eJ),dZ x.ch -> (gY fs s x).1=0 -> dZ (gY fs s x).2.ch /\ (∀q,(s.kind=1 -> s.name≠q) -> cB (gY fs s x).2.ch q=cB x.ch q) /\ (s.kind=1 -> cB x.ch s.name=0)
 |.mk k name e r args t f,x,hk,h=>by
  have hb:dZ (jO (.mk k name e r args t f) x).ch /\ ∀q,(k=1 -> name≠q) -> cB (jO (.mk k name e r args t f) x).ch q=cB x.ch q:=by
   show dZ (if k=1 then dE x.ch name 1 else x.ch) /\ ∀q,_ -> cB (if k=1 then dE x.ch name 1 else x.ch) q=_;by_cases h1:k=1
   ·rw [if_pos h1];exact ⟨hk.put _ _,λq hq=>by rw [vY,if_neg (hq h1)]⟩
   rw [if_neg h1];exact ⟨hk,λq _=>rfl⟩
  rw [gY] at h⊢;by_cases hp:kv x.ch fs (.mk k name e r args t f)=0
  ·rw [if_pos hp] at h⊢;by_cases ht:(ia (eQ fs t [] (jO (.mk k name e r args t f) x))).1=0
   ·rw [if_pos ht] at h⊢;obtain ⟨a1,a2,a3⟩:=yo fs t [] _ hb.1 (by rw [←vV];exact ht);obtain ⟨b1,b2⟩:=Df (fs:=fs) (by rw [←vV];exact ht) a1 (λq hq=>(a2 q hq).resolve_left not_mem_nil) a3;obtain ⟨c1,c2,c3⟩:=yo fs f [] _ b1 (by rw [←vV];exact h);obtain ⟨fK,fe⟩:=Df (fs:=fs) (by rw [←vV];exact h) c1 (λq hq=>(c2 q hq).resolve_left not_mem_nil) c3;refine ⟨fK,λq hq=>by rw [fe,b2];exact hb.2 q hq,λh1=>?_⟩;have h1:k=1:=h1;have hp:(if k=1 then (if cB x.ch name=0 then _ else 5) else _)=0:=hp;rw [if_pos h1] at hp;split at hp
    ·rename_i h9;exact h9
    cases hp
   rw [if_neg ht] at h;exact absurd h ht
  rw [if_neg hp] at h;exact absurd h hp
def yo(fs:dW):∀(l:List aD)(own:List aI)(x:eJ),dZ x.ch -> (eQ fs l own x).1=0 -> dZ (eQ fs l own x).2.2.ch /\ (∀q,q∈(eQ fs l own x).2.1 -> q∈own∨cB x.ch q=0) /\ (∀q,q∉(eQ fs l own x).2.1 -> cB (eQ fs l own x).2.2.ch q=cB x.ch q)
 |[],own,x,hk,_=>by rw [eQ];exact ⟨hk,λq hq=>.inl hq,λq _=>rfl⟩
 |s::l,own,x,hk,h=>by
  rw [eQ] at h⊢;by_cases h0:(gY fs s x).1=0
  ·rw [if_pos h0] at h⊢;obtain ⟨a1,a2,a3⟩:=SJ fs s x hk h0;obtain ⟨b1,b2,b3⟩:=yo fs l (qi s own) _ a1 h;have hsub:=K0 fs l (qi s own) (gY fs s x).2;refine ⟨b1,λq hq=>?_,λq hq=>?_⟩
   ·by_cases hn:s.kind=1 /\ s.name=q
    ·obtain ⟨hn1,rfl⟩:=hn;exact .inr (a3 hn1)
    have hn':s.kind=1 -> s.name≠q:=λh1 h2=>hn ⟨h1,h2⟩;rcases b2 q hq with h9|h9
    ·unfold qi at h9;split at h9
     ·rename_i h1;rcases mem_append.1 h9 with h9|h9
      ·exact .inl h9
      exact absurd (jq.1 h9).symm (hn' h1)
     exact .inl h9
    rw [a2 q hn'] at h9;exact .inr h9
   rw [b3 q hq];refine a2 q λh1 h2=>hq (hsub q ?_);unfold qi;rw [if_pos h1,←h2];simp
  rw [if_neg h0] at h;exact absurd h h0
def K0(fs:dW):∀(l:List aD)(own:List aI)(x:eJ),∀q,q∈own -> q∈(eQ fs l own x).2.1
 |[],own,x,q,hq=>by rw [eQ];exact hq
 |s::l,own,x,q,hq=>by
  rw [eQ];split
  ·exact K0 fs l _ _ q (by unfold qi;split<;>simp [hq])
  exact hq
end
def lM.same{p:aX}{fs:dW}{v v':br}{l:List bP}(h:lM p fs v l)(hk:dZ v')(hv:∀q,cB v' q=cB v q):lM p fs v' l:=⟨hk,λs=>by rw [hv];exact h.get s,h.fn⟩
def lM.put{p:aX}{fs:dW}{v:br}{l:List bP}(h:lM p fs v l){s:aI}(h0:cB v s=0){x:bP}(hx:x.name=s){a:Int}(ha:gI p x=a)(h3:x.kind≠3):lM p fs (dE v s a) (l++[x]):=by
 have hn:bL l s=none:=by
  have h1:=h.get s;rw [h0] at h1;rcases hf:bL l s with _|y
  ·rfl
  rw [hf] at h1;exact absurd h1.symm (uy p y)
 refine ⟨h.kn.put _ _,λq=>?_,λq y hf hy=>?_⟩
 ·rw [vY,mr];by_cases hq:s=q
  ·subst hq;rw [if_pos rfl,hn];dsimp only;rw [if_pos hx];exact ha.symm
  rw [if_neg hq,h.get q];rcases bL l q with _|y
  ·dsimp only;rw [if_neg (by rw [hx];exact hq)]
  rfl
 rw [mr] at hf;split at hf
 ·rename_i hf2;cases hf;exact h.fn q _ hf2 hy
 split at hf
 ·cases hf;exact absurd hy h3
 cases hf
structure pC (p:aX) (fs:dW) (x:eJ) (y:ai):Prop where
 rel:lM p fs x.ch y.aq
 n:x.n=y.n
 q:y.q.1=0
def Step(p:aX)(fs:dW)(e:Nat)(x':eJ)(y':ai):Prop:=(e=0 -> pC p fs x' y') /\ (e≠0 -> y'.q=(e,x'.at_))
end
section
section
variable {p:aX}{fs:dW}
def pC.mod{x:eJ}{y y':ai}(h:pC p fs x y)(h1:y'.aq=y.aq)(h2:y'.n=y.n)(h3:y'.q=y.q):pC p fs x y':=⟨by rw [h1];exact h.rel,by rw [h2];exact h.n,by rw [h3];exact h.q⟩
def Step.mod{e:Nat}{x:eJ}{y y':ai}(h:Step p fs e x y)(h1:y'.aq=y.aq)(h2:y'.n=y.n)(h3:y'.q=y.q):Step p fs e x y':=⟨λh0=>(h.1 h0).mod h1 h2 h3,λh0=>by rw [h3];exact h.2 h0⟩
def Ic{l:List aD}{x:eJ}{y:ai}(hS:Step p fs (eQ fs l [] x).1 (eQ fs l [] x).2.2 (cM p l y))(he:pC p fs x y):Step p fs (ia (eQ fs l [] x)).1 (ia (eQ fs l [] x)).2 (aP p l y):=by
 refine ⟨λh0=>?_,λh0=>?_⟩
 ·rw [vV] at h0;have h1:=hS.1 h0;obtain ⟨a1,a2,a3⟩:=yo fs l [] x he.rel.kn h0;obtain ⟨b1,b2⟩:=Df (fs:=fs) h0 a1 (λq hq=>(a2 q hq).resolve_left not_mem_nil) a3;exact ⟨he.rel.same b1 b2,by rw [yx];exact h1.n,h1.q⟩
 rw [vV] at h0⊢;rw [TN];exact hS.2 h0
def DU(x:eJ):ia (eQ fs [] [] x)=(0,x):=by rw [eQ];rfl
def R8{s:aD}{x:eJ}{y:ai}(he:pC p fs x y)(h1:s.kind≠1)(e:aS)(hq:cV y.aq e=0):pC p fs (jO s x) (y.branch e):=by
 have hv:(jO s x).ch=x.ch:=by show (if s.kind=1 then _ else x.ch)=_;rw [if_neg h1]
 refine ⟨by rw [hv];exact he.rel,by show x.n+1=y.n+1;rw [he.n],?_⟩;show (cX y.q (cV y.aq e) y.n).1=0;rw [hq,om];exact he.q
mutual
def VQ:∀(s:aD)(x:eJ)(y:ai),zg s -> pC p fs x y -> Step p fs (gY fs s x).1 (gY fs s x).2 (cy p s y)
 |.mk k name e r args t f,x,y,hsh,he=>by
  rw [zg] at hsh;obtain ⟨h5,ha,ht,hf,hst,Fd⟩:=hsh;have hp:kv x.ch fs (.mk k name e r args t f)=vD p y.aq (.mk k name e r args t f):=Xn he.rel _ h5 ha;have hbq:∀bp,cV y.aq e=bp -> (y.branch e).q=cX y.q bp y.n:=λe0 h=>by show cX y.q (cV y.aq e) y.n=_;rw [h]
  rw [gY];by_cases h0:kv x.ch fs (.mk k name e r args t f)=0
  ·rw [if_pos h0];rw [hp] at h0;by_cases h78:k=7∨k=8
   ·have hex:cV y.aq e=0:=by
     have h9:(if k=1 then _ else if k=2 then _ else if k=5∨k=6 then _ else if k=3∨k=4 then _ else if k=7∨k=8 then cV y.aq e else 0)=0:=h0;rw [if_neg Y,if_neg Y,if_neg Y,if_neg Y,if_pos h78] at h9;exact h9
    have hbe:pC p fs (jO (.mk k name e r args t f) x) (y.branch e):=R8 he (by show k≠1;omega) e hex;have HT:=Ic (Dj t [] _ _ hst hbe) hbe;rw [cy];by_cases hT:(ia (eQ fs t [] (jO (.mk k name e r args t f) x))).1=0
    ·rw [if_pos hT];have hE1:=HT.1 hT;by_cases h7:k=7
     ·rw [if_pos h7];by_cases hfl:f.length=0
      ·obtain rfl:=ke.1 hfl;rw [if_pos hfl,DU];exact ⟨λ_=>hE1.mod J J J,λh=>absurd J h⟩
      rw [if_neg hfl];have hE2:pC p fs (ia (eQ fs t [] (jO (.mk k name e r args t f) x))).2 ((((y.branch e).back (cM p t (y.branch e))).put (bm 7 .zero) y.n).patch y.code.length):=hE1.mod J J J;have HF:=Ic (Dj f [] _ _ Fd hE2) hE2;exact HF.mod J J J
     rw [if_neg h7,if_pos (Y:k=8)];obtain rfl:=hf h7;rw [DU];exact ⟨λ_=>hE1.mod J J J,λh=>absurd J h⟩
    rw [if_neg hT];have hq:=HT.2 hT;refine ⟨λh=>absurd h hT,λ_=>?_⟩;have hne:(aP p t (y.branch e)).q.1≠0:=by rw [hq];exact hT
    by_cases h7:k=7
    ·rw [if_pos h7];by_cases hfl:f.length=0
     ·rw [if_pos hfl];exact hq
     rw [if_neg hfl];show (cM p f _).q=_;rw [vA p f _ (by show (cM p t (y.branch e)).q.1≠0;exact hne)];exact hq
    rw [if_neg h7,if_pos (Y:k=8)];exact hq
   ·have h7:k≠7:=λh=>h78 (.inl h);have h8:k≠8:=λh=>h78 (.inr h);obtain rfl:=ht h7 h8;obtain rfl:=hf h7;rw [DU];dsimp only;rw [if_pos rfl,DU,cy,if_neg h7,if_neg h8];obtain ⟨s1,s2,s3⟩:=GI p (.mk k name e r args [] []) y h7 h8;refine ⟨λ_=>⟨?_,by rw [s2];show x.n+1=_;rw [he.n],by rw [s1,h0,om];exact he.q⟩,λh=>absurd J h⟩;rw [s3];show lM p fs (if k=1 then dE x.ch name 1 else x.ch) (if k=1 then y.aq++[⟨name,4,y.locals⟩] else y.aq);by_cases h1:k=1
    ·rw [if_pos h1,if_pos h1];have h9:(if k=1 then dP (fU y.aq name) (cV y.aq e) else _)=0:=h0;rw [if_pos h1] at h9;have hd:fU y.aq name=0:=by unfold dP at h9;split at h9<;>assumption
     have hn:bL y.aq name=none:=by
      unfold fU at hd;rcases hfd:bL y.aq name with _|z
      ·rfl
      rw [hfd] at hd;cases hd
     exact he.rel.put (s:=name) (x:=⟨name,4,y.locals⟩) (a:=1) (by rw [he.rel.get,hn];rfl) J (by unfold gI;rw [if_pos (.inr rfl)]) yd
    rw [if_neg h1,if_neg h1];exact he.rel
  rw [if_neg h0];refine ⟨λh=>absurd h h0,λ_=>?_⟩;rw [hp] at h0⊢;show (cy p _ y).q=(vD p y.aq _,(x.n:Int));rw [he.n];by_cases h78:k=7∨k=8
  ·have hpe:vD p y.aq (.mk k name e r args t f)=cV y.aq e:=by
    show (if k=1 then _ else if k=2 then _ else if k=5∨k=6 then _ else if k=3∨k=4 then _ else if k=7∨k=8 then cV y.aq e else 0)=_;rw [if_neg Y,if_neg Y,if_neg Y,if_neg Y,if_pos h78]
   rw [hpe] at h0⊢;have hb:(y.branch e).q=(cV y.aq e,(y.n:Int)):=Kp he.q h0 _;have hne:(y.branch e).q.1≠0:=by rw [hb];exact h0
   have hq:(cM p t (y.branch e)).q=(cV y.aq e,(y.n:Int)):=by rw [vA p t _ hne,hb]
   rw [cy];by_cases h7:k=7
   ·rw [if_pos h7];by_cases hfl:f.length=0
    ·rw [if_pos hfl];exact hq
    rw [if_neg hfl];show (cM p f _).q=_;rw [vA p f _ (by show (cM p t (y.branch e)).q.1≠0;rw [hq];exact h0)];exact hq
   rw [if_neg h7,if_pos (Y:k=8)];exact hq
  ·have h7:k≠7:=λh=>h78 (.inl h);have h8:k≠8:=λh=>h78 (.inr h);rw [cy,if_neg h7,if_neg h8,(GI p (.mk k name e r args t f) y h7 h8).1];exact Kp he.q h0 _
def Dj:∀(l:List aD)(own:List aI)(x:eJ)(y:ai),oW l -> pC p fs x y -> Step p fs (eQ fs l own x).1 (eQ fs l own x).2.2 (cM p l y)
 |[],own,x,y,_,he=>by rw [eQ,cM];exact ⟨λ_=>he,λh=>absurd rfl h⟩
 |s::l,own,x,y,hsh,he=>by
  rw [oW] at hsh;have h1:=VQ s x y hsh.1 he;rw [eQ,cM];by_cases h0:(gY fs s x).1=0
  ·rw [if_pos h0];exact Dj l _ _ _ hsh.2 (h1.1 h0)
  rw [if_neg h0];refine ⟨λh=>absurd h h0,λ_=>?_⟩;have hq:=h1.2 h0;rw [vA p l _ (by rw [hq];exact h0)];exact hq
end
end
end
section
section
variable {p:aX}{fs:dW}
def Fg:∀(ps:List bg)(v:br)(l:List bP)(i m:Nat),lM p fs v l -> (ie ps l i m=none -> (gV ps v).1=false) /\ ∀l' i' m',ie ps l i m=some (l',i',m') -> (gV ps v).1=true /\ lM p fs (gV ps v).2 l'
 |[],v,l,i,m,h=>by
  rw [ie,gV];exact ⟨λh=>gQ,λl' i' m' e=>by cases e;exact ⟨rfl,h⟩⟩
 |x::r,v,l,i,m,h=>by
  rw [ie,gV,h.get x.name];rcases hf:bL l x.name with _|y
  ·have hz:cB v x.name=0:=by rw [h.get,hf];rfl
   rw [if_neg V,if_pos (show tU p none=0 from rfl)];by_cases hm:x.mutex=true
   ·rw [if_pos hm];have hs:rE x=4:=if_pos hm;rw [hs];exact Fg r _ _ i (m+1) (h.put (s:=x.name) (x:=⟨x.name,5,m⟩) (a:=4) hz J (by unfold gI;rfl) IM)
   rw [if_neg hm];have hs:rE x=1:=if_neg hm;rw [hs];exact Fg r _ _ (i+1) m (h.put (s:=x.name) (x:=⟨x.name,4,i⟩) (a:=1) hz J (by unfold gI;rfl) yd)
  rw [if_pos j9,if_neg (show ¬tU p (some y)=0 from uy p y)];exact ⟨λ_=>J,λl' i' m' e=>by cases e⟩
def LA:∀(ps:List bg)(v:br),dZ v -> (gV ps v).1=true -> dZ (gV ps v).2 /\ (∀x,x∈ps -> cB v x.name=0) /\ ∀q,(∀x,x∈ps -> x.name≠q) -> cB (gV ps v).2 q=cB v q
 |[],v,hk,_=>⟨hk,λx hx=>absurd hx not_mem_nil,λq _=>rfl⟩
 |x::r,v,hk,h=>by
  rw [gV] at h⊢;by_cases h0:cB v x.name=0
  ·rw [if_pos h0] at h⊢;obtain ⟨a1,a2,a3⟩:=LA r _ (hk.put _ _) h;refine ⟨a1,λy hy=>?_,λq hq=>?_⟩
   ·rcases mem_cons.1 hy with rfl|hy
    ·exact h0
    have h9:=a2 y hy;rw [vY] at h9;split at h9
    ·unfold rE at h9;split at h9<;>cases h9
    exact h9
   rw [a3 q λy hy=>hq y (d_ _ hy),vY,if_neg (hq x mq)]
  rw [if_neg h0] at h;cases h
def PX:∀(ps:List bg)(v:br),dZ v -> dZ (nJ ps v) /\ (∀x,x∈ps -> cB (nJ ps v) x.name=0) /\ ∀q,(∀x,x∈ps -> x.name≠q) -> cB (nJ ps v) q=cB v q
 |[],v,h=>⟨h,λx hx=>absurd hx not_mem_nil,λs _=>rfl⟩
 |y::ps,v,h=>by
  obtain ⟨h1,h2,h3⟩:=PX ps (eb v y.name) (h.del y.name);have e:nJ (y::ps) v=nJ ps (eb v y.name):=J;refine ⟨h1,λx hx=>?_,λq hq=>?_⟩
  ·rw [e];by_cases hm:∃z,z∈ps /\ z.name=x.name
   ·obtain ⟨z,hz,hn⟩:=hm;rw [←hn];exact h2 z hz
   rw [h3 _ (λz hz hn=>hm ⟨z,hz,hn⟩),xI h];rcases mem_cons.1 hx with rfl|hx
   ·rw [if_pos rfl]
   exact absurd ⟨x,hx,J⟩ hm
  rw [e,h3 q λz hz=>hq z (d_ _ hz),xI h,if_neg (hq y mq)]
def TO{f:a_}{v:br}(h:lM p fs v (bd p))(hsh:oW f.body):(kD fs f v).1=(kJ p f).1 /\ ((kD fs f v).1≠0 -> (kD fs f v).2.at_=(kJ p f).2) /\ ((kD fs f v).1=0 -> lM p fs (kD fs f v).2.ch (bd p)):=by
 obtain ⟨p1,p2⟩:=Fg f.params v (bd p) 0 0 h;unfold kD kJ;rcases hq:ie f.params (bd p) 0 0 with _|⟨l,i,m⟩
 ·rw [p1 hq,if_neg V];exact ⟨J,λ_=>J,λh=>gQ⟩
 obtain ⟨q1,q2⟩:=p2 l i m hq;rw [q1,if_pos rfl];have he:pC p fs ⟨(gV f.params v).2,0,-1⟩ (ai.init l i):=⟨q2,J,J⟩;have hb:Step p fs (jQ fs f.body ⟨(gV f.params v).2,0,-1⟩).1 (jQ fs f.body ⟨(gV f.params v).2,0,-1⟩).2 (aP p f.body (ai.init l i)):=Ic (Dj f.body [] _ _ hsh he) he;have hbq:(xG p f l i).q=(aP p f.body (ai.init l i)).q:=J;dsimp only;rw [hbq];by_cases h0:(jQ fs f.body ⟨(gV f.params v).2,0,-1⟩).1=0
 ·have hE:=hb.1 h0;refine ⟨by rw [h0];exact hE.q.symm,λh=>absurd h0 h,λ_=>?_⟩;obtain ⟨a1,a2,a3⟩:=LA f.params v h.kn q1;have h0':=h0;unfold jQ at h0';rw [vV] at h0';obtain ⟨b1,b2,b3⟩:=yo fs f.body [] _ q2.kn h0';obtain ⟨c1,c2⟩:=Df (fs:=fs) h0' b1 (λq hq=>(b2 q hq).resolve_left not_mem_nil) b3;obtain ⟨fK,fe,ou⟩:=PX f.params _ c1;refine h.same fK λq=>?_;by_cases hm:∃x,x∈f.params /\ x.name=q
  ·obtain ⟨x,hx,rfl⟩:=hm;rw [a2 x hx];exact fe x hx
  have hm':∀x,x∈f.params -> x.name≠q:=λx hx hn=>hm ⟨x,hx,hn⟩;rw [←a3 q hm',←c2 q];exact ou q hm'
 have hq2:=hb.2 h0;rw [hq2];exact ⟨J,λ_=>J,λh=>absurd h h0⟩
def NA:∀(l:List a_)(i:Nat)(v:br),lM p fs v (bd p) -> (∀f,f∈l -> oW f.body) -> oQ fs l i v=lW p l i
 |[],i,v,_,_=>rfl
 |f::r,i,v,h,hs=>by
  obtain ⟨b1,b2,b3⟩:=TO h (hs f mq);rw [oQ,lW,←b1];by_cases h0:(kD fs f v).1=0
  ·rw [if_pos h0,if_pos h0];exact NA r (i+1) _ (b3 h0) λg hg=>hs g (d_ _ hg)
  rw [if_neg h0,if_neg h0,b2 h0]
end
def QP{p:aX}:∀(es:List bP)(v:br)(l:List bP),dZ v -> (∀s,cB v s=tU p (bL l s)) -> (∀i,jp l es=some i -> (hY (es.map λx=>(x.name,gI p x)) v l.length).1=some i) /\ (jp l es=none -> (hY (es.map λx=>(x.name,gI p x)) v l.length).1=none /\ dZ (hY (es.map λx=>(x.name,gI p x)) v l.length).2 /\ ∀s,cB (hY (es.map λx=>(x.name,gI p x)) v l.length).2 s=tU p (bL (l++es) s))
 |[],v,l,hk,hg=>by
  rw [jp];exact ⟨λi h=>gQ,λ_=>⟨J,hk,λs=>by rw [eY];exact hg s⟩⟩
 |x::es,v,l,hk,hg=>by
  rw [jp,ca,hY,hg x.name];rcases hf:bL l x.name with _|y
  ·rw [if_neg V,if_pos (show tU p none=0 from rfl)];have hr:∀s,cB (dE v x.name (gI p x)) s=tU p (bL (l++[x]) s):=λs=>by
    rw [vY,mr];by_cases hq:x.name=s
    ·subst hq;rw [if_pos rfl,hf];dsimp only;rw [if_pos rfl];rfl
    rw [if_neg hq,hg s];rcases bL l s with _|z
    ·dsimp only;rw [if_neg hq]
    rfl
   have h9:=QP es _ (l++[x]) (hk.put _ _) hr;rw [length_append,append_assoc] at h9;exact h9
  rw [if_pos j9,if_neg (show ¬tU p (some y)=0 from uy p y)];exact ⟨λi h=>h,λh=>gQ⟩
def Vw(p:aX):iC p=(bd p).map λx=>(x.name,gI p x):=by
 unfold iC bd;rw [e1,e1]
 congr 1
 ·apply np
  ·simp
  intro i h1 h2;simp [gI]
 congr 1
 ·apply np
  ·simp
  intro i h1 h2;simp only [gS] at h1;simp only [qe,List.getElem_mapIdx];unfold gI qu;rw [Aa h1];rfl
 apply np
 ·simp
 intro i h1 h2;simp [gI]
end
section
def Ff:∀{l:List bP} {s:aI} {v:bP},bL l s=some v -> v∈l /\ v.name=s
 |[],_,_,h=>gQ
 |x::l,s,v,h=>by
  rw [bL] at h;split at h
  ·rename_i hx;cases h;exact ⟨mq,hx⟩
  exact ⟨d_ _ (Ff h).1,(Ff h).2⟩
def PW:∀{l:List bP} {x:bP},(l.map bP.name).Nodup -> x∈l -> bL l x.name=some x
 |[],_,_,h=>absurd h not_mem_nil
 |y::l,x,hd,h=>by
  simp only [ca,mu] at hd;rw [bL];rcases mem_cons.1 h with rfl|h
  ·rw [if_pos rfl]
  rw [if_neg (λe=>hd.1 (by rw [e];exact List.mem_map_of_mem h))];exact PW hd.2 h
def JC:∀(es l:List bP),jp l es=none -> (es.map bP.name).Nodup /\ ∀x,x∈es -> bL l x.name=none
 |[],l,_=>⟨aM,λx hx=>absurd hx not_mem_nil⟩
 |x::es,l,h=>by
  rw [jp] at h;rcases hf:bL l x.name with _|y
  ·rw [hf,if_neg V] at h;obtain ⟨h1,h2⟩:=JC es _ h;have h3:∀y,y∈es -> bL l y.name=none /\ x.name≠y.name:=λy hy=>by
    have h9:=h2 y hy;rw [mr] at h9;split at h9
    ·cases h9
    rename_i h8;exact ⟨h8,λe=>by rw [if_pos e] at h9;cases h9⟩
   refine ⟨?_,λy hy=>?_⟩
   ·simp only [ca,mu];refine ⟨λhm=>?_,h1⟩;obtain ⟨y,hy,e⟩:=k_.1 hm;exact (h3 y hy).2 e.symm
   rcases mem_cons.1 hy with rfl|hy
   ·exact hf
   exact (h3 y hy).1
  rw [hf,if_pos j9] at h;cases h
def Mu:∀(l:List a_)(m:dW)(s:aI),s∉l.map a_.name -> dY (l.foldl (λm f=>dE m f.name f) m) s=dY m s
 |[],m,s,_=>rfl
 |f::l,m,s,h=>by
  simp only [ca,mem_cons,not_or] at h;rw [wH,Mu l _ s h.2,pa,if_neg (λe=>h.1 e.symm)]
def OM:∀(l:List a_)(m:dW),(l.map a_.name).Nodup -> ∀f,f∈l -> dY (l.foldl (λm f=>dE m f.name f) m) f.name=some f
 |[],_,_,f,h=>absurd h not_mem_nil
 |g::l,m,hd,f,h=>by
  simp only [ca,mu] at hd;rw [wH];rcases mem_cons.1 h with rfl|h
  ·rw [Mu l _ _ hd.1,pa,if_pos rfl]
  exact OM l _ hd.2 f h
def PH:∀(l:List a_)(m:dW)(s:aI)(f:a_),dY (l.foldl (λm f=>dE m f.name f) m) s=some f -> (f∈l /\ f.name=s)∨dY m s=some f
 |[],m,s,f,h=>.inr h
 |g::l,m,s,f,h=>by
  rw [wH] at h;rcases PH l _ s f h with h|h
  ·exact .inl ⟨d_ _ h.1,h.2⟩
  rw [pa] at h;split at h
  ·rename_i hg;cases h;exact .inl ⟨mq,hg⟩
  exact .inr h
def UJ{p:aX}{x:bP}(h:x∈bd p)(h3:x.kind=3):∃(i:Nat) (hi:i<p.funcs.length),x=⟨p.funcs[i].name,3,i⟩:=by
 unfold bd at h;rcases mem_append.1 h with h|h
 ·obtain ⟨i,hi,rfl⟩:=qm.1 h;exact absurd h3 E6
 rcases mem_append.1 h with h|h
 ·obtain ⟨i,hi,rfl⟩:=qm.1 h;exact absurd h3 Fi
 obtain ⟨i,hi,rfl⟩:=qm.1 h;exact ⟨i,hi,J⟩
def Rr{p:aX}{f:a_}(h:f∈p.funcs):∃i:Nat,(⟨f.name,3,i⟩:bP)∈bd p:=by
 obtain ⟨i,hi,rfl⟩:=mT h;refine ⟨i,?_⟩;unfold bd;exact gz _ (gz _ (qm.2 ⟨i,hi,J⟩))
def VV{p:aX}(h:((bd p).map bP.name).Nodup):(p.funcs.map a_.name).Nodup:=by
 unfold bd at h;rw [e1,e1] at h;have h1:=(eF.1 (eF.1 h).2.1).2.1;have e:(p.funcs.mapIdx λi f=>(⟨f.name,3,i⟩:bP)).map bP.name=p.funcs.map a_.name:=by
  apply np
  ·simp
  intro i h1 h2;simp
 rw [e] at h1;exact h1
section
variable {p:aX}(hn:((bd p).map bP.name).Nodup)
include hn
theorem Qo(s:aI)(x:bP)(hf:bL (bd p) s=some x)(h3:x.kind=3):∃f,dY (iP p.funcs) s=some f /\ jV p x.n=f.params:=by
 obtain ⟨h1,h2⟩:=Ff hf;obtain ⟨i,hi,rfl⟩:=UJ h1 h3;refine ⟨p.funcs[i],?_,Cg hi⟩;rw [←h2];exact OM p.funcs [] (VV hn) _ (getElem_mem hi)
theorem PO(s:aI)(h:∀x,bL (bd p) s=some x -> x.kind≠3):dY (iP p.funcs) s=none:=by
 rcases hl:dY (iP p.funcs) s with _|f
 ·rfl
 exfalso;rcases PH p.funcs [] s f hl with ⟨h1,h2⟩|h1
 ·obtain ⟨i,hi⟩:=Rr h1;have h9:=PW hn hi;exact h _ (by rw [←h2];exact h9) J
 cases h1
theorem Xx:qw p=oE p:=by
 unfold qw oE;rw [show yp=eR from rfl];rcases hf:bL (bd p) eR with _|x
 ·rw [PO hn eR (λx h=>by rw [hf] at h;cases h)]
 by_cases h3:x.kind=3
 ·obtain ⟨f,h1,h2⟩:=Qo hn eR x hf h3;rw [h1];dsimp only;rw [h2,decide_eq_true h3,zl]
 rw [PO hn eR (λy h=>by rw [hf] at h;cases h;exact h3)];dsimp only;rw [decide_eq_false h3,Av]
end
def MA(p:aX):qH p=gp p:=by
 unfold qH gp;by_cases hv:gw p=false
 ·rw [if_pos hv,if_pos hv]
 rw [if_neg hv,if_neg hv,Vw];obtain ⟨fK,fe⟩:=QP (p:=p) (bd p) [] [] (by unfold dZ;simp) (λs=>rfl);rw [length_nil] at fK fe;rcases hb:jp [] (bd p) with _|i
 ·obtain ⟨ae,e2,e3⟩:=fe hb;rw [ae];dsimp only;obtain ⟨hn,-⟩:=JC _ _ hb;rw [Xx hn];by_cases hm:oE p=true
  ·rw [if_pos hm,if_pos hm];refine NA p.funcs 0 _ ⟨e2,λs=>by rw [e3];rfl,Qo hn⟩ λf hf=>?_;have hvt:gw p=true:=by simpa using hv
   rw [xQ,dm] at hvt;exact A6 0 f.body (Eu hvt.1 f hf).1
  rw [if_neg hm,if_neg hm]
 rw [fK i hb]
end
section
def Cb{α:Type}(nm:α -> aI)(l:List α)(hd:(l.map nm).Nodup):∀k,k <= l.length -> ∀i (h:i<l.length),i<k -> dY (eP nm l k) (nm l[i])=some (i:Int)
 |0,_,i,_,hi=>absurd hi (HU i)
 |k+1,hk,i,h,hi=>by
  rw [←Ca nm l k Y,pa];by_cases e:i=k
  ·subst e;rw [if_pos rfl]
  rw [if_neg,Cb nm l hd k Y i h Y];have:=List.pairwise_iff_getElem.1 hd i k D4 D4 Y;rw [qe,qe] at this;exact λh=>this h.symm
def QM:∀{l:List bP} {s:aI} {v:bP},bL l s=some v -> v.name=s
 |[],_,_,h=>gQ
 |x::l,s,v,h=>by
  rw [bL] at h;split at h
  ·rename_i h1;cases h;exact h1
  exact QM h
def Ua(p:aX):(bd p).map bP.name=p.globals.map bw.name++(p.mutexes.map cn.name++p.funcs.map a_.name):=by
 have e:∀{α:Type} (f:Nat -> α -> bP) (nm:α -> aI) (h:∀i a,(f i a).name=nm a) (l:List α),(l.mapIdx f).map bP.name=l.map nm:=λf nm h l=>by
  apply np aM
  intro i h1 h2;simp [h]
 unfold bd;rw [e1,e1,e _ bw.name (λ_ _=>rfl),e _ cn.name (λ_ _=>rfl),e _ a_.name (λ_ _=>rfl)]
def QS{p:aX}{v:bP}(h:v∈bd p):(∃i,∃(h:i<p.globals.length),v=⟨p.globals[i].name,1,i⟩)∨(∃i,∃(h:i<p.mutexes.length),v=⟨p.mutexes[i].name,2,i⟩)∨∃i,∃(h:i<p.funcs.length),v=⟨p.funcs[i].name,3,i⟩:=by
 unfold bd at h;rcases mem_append.1 h with h|h
 ·obtain ⟨i,hi,rfl⟩:=qm.1 h;exact .inl ⟨i,hi,rfl⟩
 rcases mem_append.1 h with h|h
 ·obtain ⟨i,hi,rfl⟩:=qm.1 h;exact .inr (.inl ⟨i,hi,rfl⟩)
 obtain ⟨i,hi,rfl⟩:=qm.1 h;exact .inr (.inr ⟨i,hi,rfl⟩)
def Sv{p:aX}(hb:jp [] (bd p)=none):d2 (eP bw.name p.globals p.globals.length) (eP cn.name p.mutexes p.mutexes.length) (eP a_.name p.funcs p.funcs.length) [] [] (bd p):=by
 have hn:=(JC _ _ hb).1;rw [Ua] at hn;obtain ⟨h1,h23,-⟩:=eF.1 hn;obtain ⟨h2,h3,-⟩:=eF.1 h23;have no:∀(k:Int)(hk:k=4∨k=5)(s:aI),(none:Option Int)=(match bL (bd p) s with|some v=>if v.kind=k then some (v.n:Int) else none|none=>none):=λk hk s=>by
  rcases hf:bL (bd p) s with _|v
  ·rfl
  dsimp only;rw [if_neg];rcases QS (zF hf) with ⟨i,hi,rfl⟩|⟨i,hi,rfl⟩|⟨i,hi,rfl⟩
  ·show ¬(1:Int)=k;omega
  ·show ¬(2:Int)=k;omega
  show ¬(3:Int)=k;omega
 refine ⟨no 4 (.inl J),no 5 (.inr J),λs v hv hk=>?_,λs v hv hk=>?_,λs v hv hk=>?_⟩;all_goals
  have hs:=QM hv;rcases QS (zF hv) with ⟨i,hi,rfl⟩|⟨i,hi,rfl⟩|⟨i,hi,rfl⟩
 ·subst hs;exact Cb bw.name p.globals h1 _ (bY _) i hi hi
 ·exact absurd hk (by show ¬(2:Int)=1;decide)
 ·exact absurd hk (by show ¬(3:Int)=1;decide)
 ·exact absurd hk (by show ¬(1:Int)=2;decide)
 ·subst hs;exact Cb cn.name p.mutexes h2 _ (bY _) i hi hi
 ·exact absurd hk (by show ¬(3:Int)=2;decide)
 ·exact absurd hk E6
 ·exact absurd hk Fi
 subst hs;exact Cb a_.name p.funcs h3 _ (bY _) i hi hi
def PD{p:aX}(h:gp p=(0,0,0)):gw p=true /\ d2 (eP bw.name p.globals p.globals.length) (eP cn.name p.mutexes p.mutexes.length) (eP a_.name p.funcs p.funcs.length) [] [] (bd p) /\ (∀f,f∈p.funcs -> (kJ p f).1=0 /\ lp f.body) /\ cB (eP a_.name p.funcs p.funcs.length) eR=(((bQ (bd p) eR).n:Nat):Int):=by
 obtain ⟨h1,h2,h3,h4⟩:=Ty h;have hm:=Sv h2;refine ⟨h1,hm,λf hf=>⟨h4 f hf,?_⟩,?_⟩
 ·have hv:=h1;unfold gw at hv;simp only [dm] at hv;have h5:=fC.1 hv.1.2 f hf;unfold gh at h5;simp only [dm] at h5;exact Cv 0 f.body h5.1.2
 unfold oE at h3;unfold cB bQ;rcases hf:bL (bd p) eR with _|v
 ·rw [hf] at h3;cases h3
 rw [hf] at h3;simp only [dm,decide_eq_true_eq] at h3;rw [hm.fs _ v hf h3.1];rfl
end
end Go.Proofs.YtckelpefchdenaaGreatDoor
