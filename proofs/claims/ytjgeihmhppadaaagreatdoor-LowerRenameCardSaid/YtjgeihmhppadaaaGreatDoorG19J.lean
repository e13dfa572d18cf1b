import Derived.Test.YtjgeihmhppadaaaGreatDoorG18J
import Derived.Test.YtjgeihmhppadaaaGreatDoorG17J
set_option linter.all false
set_option synthInstance.maxHeartbeats 1000000
set_option synthInstance.maxSize 1000000
set_option maxHeartbeats 1600000
set_option maxRecDepth 100000
namespace Go.Proofs.YtjgeihmhppadaaaGreatDoor
open Go.Proofs.Tryz
open List (length_append length_cons length_nil mem_append mem_cons not_mem_nil append_assoc getElem_mem take_of_length_le)
section
open Go.RowKit
def bLm{α:Type}(f:α -> Bool):List α -> Int
 |[]=>-1
 |x::l=>if f x then 0 else if bLm f l<0 then -1 else bLm f l+1
theorem bL4{α:Type}(f:α -> Bool):∀(l:List α)(k:Nat)(h:k<l.length),(∀i (h:i<l.length),i<k -> f l[i]=false) -> f l[k]=true -> bLm f l=k
 |x::l,0,_,_,h1=>by simp only [List.getElem_cons_zero] at h1;rw [bLm,if_pos h1];rfl
 |x::l,k+1,h,h0,h1=>by
  have hx:f x=false:=h0 0 G0 J
  have ih:=bL4 f l k Er (λi hi hik=>h0 (i+1) B3 J) C2
  rw [bLm,hx,if_neg V,ih,if_neg J];omega
theorem bL5{α:Type}(f:α -> Bool):∀(l:List α),(∀i (h:i<l.length),f l[i]=false) -> bLm f l=-1
 |[],_=>rfl
 |x::l,h0=>by
  have hx:f x=false:=h0 0 G0
  have ih:=bL5 f l (λi hi=>h0 (i+1) B3)
  rw [bLm,hx,if_neg V,ih,if_pos V]
theorem bLt{α:Type}(f:α -> Bool):∀(l:List α),(0 <= bLm f l↔l.any f=true) /\ -1 <= bLm f l
 |[]=>⟨by simp [bLm],by rw [bLm];omega⟩
 |x::l=>by
  have ih:=bLt f l
  rw [bLm,List.any_cons]
  cases hx:f x with
  |true=>simp
  |false=>
   rw [if_neg V,Bool.false_or]
   split
   ·rename_i hl
    refine ⟨⟨λh=>absurd h V,λh=>?_⟩,V⟩
    have:=ih.1.2 h;omega
   exact ⟨⟨λh=>ih.1.1 J,λh=>by have:=ih.1.2 h;omega⟩,J⟩
theorem bNi{α:Type}{f:α -> Bool}{l:List α}(h:¬0 <= bLm f l):l.any f=false:=Bool.eq_false_iff.2 λhh=>h ((bLt f l).1.2 hh)
theorem bPq{α:Type}(f:α -> Bool)(l:List α):(l.any λx=>!f x)=!l.all f:=by
 induction l with
 |nil=>rfl
 |cons x l ih=>rw [List.any_cons,List.all_cons,ih,Bool.not_and]
theorem bMp(r:cY):okRefB r=(bQ r.name && decide (r.index.length <= 1) && !r.index.any λe=>!dM e):=by
 obtain ⟨n,ix⟩:=r
 match ix with
 |[]=>unfold okRefB;simp
 |[e]=>unfold okRefB;simp
 |_::_::_=>unfold okRefB;simp
def d1(s:aJ):Bool:=isN s && !bQ s.name
def d2(s:aJ):Bool:=!isN s && !decide (s.name=aK)
def d3(s:aJ):Bool:=isE s && !dM s.expr
def d4(s:aJ):Bool:=!isE s && !bLg s.expr
def d5(s:aJ):Bool:=isR s && !okRefB s.ref
def d6(s:aJ):Bool:=!isR s && !kM s.ref
def d7(s:aJ):Bool:=!isC s && !decide (s.args.length=0)
def d8(s:aJ):Bool:=!isB s && !decide (s.thn.length=0)
def isI(s:aJ):Bool:=decide (s.kind=7)
def d9(s:aJ):Bool:=!isI s && !decide (s.els.length=0)
def e1(D:Nat)(s:aJ):Bool:=!isB s||(bM (D+1) s.thn && (decide (s.els.length=0)||bM (D+1) s.els))
theorem bLr(D:Nat)(s:aJ):bK9 D s=(!aG7 s && !d1 s && !d2 s && !d3 s && !d4 s && !d5 s && !d6 s && !d7 s && !d8 s && !d9 s && s.args.all fY && e1 D s):=by
 rw [kN]
 have h1:aHl s=(aG7 s||d1 s||d2 s||d3 s||d4 s||d5 s||d6 s||d7 s):=Y
 have h2:isI s=true -> isB s=true:=λh=>by unfold isI at h;unfold isB;simp only [decide_eq_true_eq] at h⊢;omega
 have h3:aOc D s=(!d8 s && !d9 s && e1 D s):=by
  unfold aOc d8 d9 e1
  rw [show decide (s.kind=7)=isI s from rfl]
  cases hB:isB s with
  |false=>
   have hI:isI s=false:=by cases h:isI s with|false=>rfl|true=>rw [h2 h] at hB;cases hB
   rw [hI];cases decide (s.thn.length=0)<;>cases decide (s.els.length=0)<;>rfl
  |true=>cases isI s<;>cases decide (s.thn.length=0)<;>cases decide (s.els.length=0)<;>cases bM (D+1) s.thn<;>cases bM (D+1) s.els<;>rfl
 rw [h1,h3]
 generalize e1 D s=x
 generalize s.args.all fY=y
 cases aG7 s<;>cases d1 s<;>cases d2 s<;>cases d3 s<;>cases d4 s<;>(try rfl)<;>cases d5 s<;>cases d6 s<;>cases d7 s<;>(try rfl)<;>cases d8 s<;>cases d9 s<;>cases y<;>cases x<;>rfl
theorem bLq(D:Nat):∀l:List aJ,bM D l=(decide (D<24) && l.all (bK9 D))
 |[]=>by rw [bM,List.all_nil,Bool.and_true]
 |s::l=>by
  rw [bM,bLq D l,List.all_cons]
  cases bK9 D s<;>cases decide (D<24)<;>rfl
theorem bQl(g:bS -> Bool)(l:List bS)(F:FuncId)(cap:Array Value)(s:Sto)(hl:l.length <= 1000000000)(hcf:∀args w,(callFunc F args).run prog w=.ok (.enter F args) w)(hc:∀k (h:k<l.length),aL prog F (bK5 (.agg (fV l[k]))::cap.toList.map cst) [] s λt s'=>t=Cb (g l[k]) /\ s'=s):aL prog 118 [bK5 (.c (Sq fV l)),Cv (.func (.func F) #[] cap)] [] s λt s'=>t=Ci (bLm g l) /\ s'=s:=by
 obtain ⟨bx,rw⟩:=s
 refine acX 19 func118 ?_
 refine go 14 ?_
 refine lE (λk=>∀i (h:i<l.length),i<k -> g l[i]=false) (l.length) 8 (λk=>[(0,bK5 (.c (Sq fV l))),(1,Cv (.func (.func F) #[] cap)),(7,nI l.length)]) Bh (sA Y) λk hk hvk=>?_
 replace hvk:∀i (h:i<l.length),i<k -> g l[i]=false:=hvk
 try dsimp only
 refine go 2 ?_
 by_cases h1:((k:Nat):Int)<((l.length:Nat):Int)
 ·refine wcp true Y (jZ h1) (go 19 ?_)
  refine wyz Y (bH fV fV l vC (λ_=>Y) k Y Y Y Y J V runUnderlying25 sizeOf67) (go 1 ?_)
  rcases Bool.eq_false_or_eq_true (g l[k]) with h3|h3
  ·refine bNo 0 Y hcf Y (hc k J) h3 ?_
   refine go 15 ?_
   exact bHe (s':=⟨bx,rw⟩) Y sb0 ⟨aPy (bL4 g l k J (λi hi hik=>hvk i hi hik) h3),Y⟩
  refine bNo 0 Y hcf Y (hc k J) h3 ?_
  refine go 7 ?_
  refine wad Y (go 2 ?_)
  exact ⟨J,Ax,(aG Y (gQ J) (sA Y))⟩
 refine wcp false Y (jQ h1) (go 15 ?_)
 exact bHe (s':=⟨bx,rw⟩) Y sb0 ⟨aPy (bL5 g l Ce),Y⟩
theorem bNy(g:bS -> Bool)(l:List bS)(F:FuncId)(cap:Array Value)(s:Sto)(hl:l.length <= 1000000000)(hcf:∀args w,(callFunc F args).run prog w=.ok (.enter F args) w)(hc:∀k (h:k<l.length),aL prog F (bK5 (.agg (fV l[k]))::cap.toList.map cst) [] s λt s'=>t=Cb (g l[k]) /\ s'=s):aL prog 89 [bK5 (.c (Sq fV l)),Cv (.func (.func F) #[] cap)] [] s λt s'=>t=Cb (l.any g) /\ s'=s:=by
 obtain ⟨bx,rw⟩:=s
 refine acX 9 func89 ?_
 refine go 9 ?_
 refine wcR 0 Y call118 Y (bQl g l F cap _ hl hcf hc) ?_
 by_cases h1:(0:Int) <= bLm g l
 ·refine wcp true Y (aMq h1) (go 4 ?_)
  exact bHe (s':=⟨bx,rw⟩) Y sb0 ⟨cX ((bLt g l).1.1 h1),Y⟩
 refine wcp false Y (aMx h1) (go 4 ?_)
 exact bHe (s':=⟨bx,rw⟩) Y sb0 ⟨cX (bNi h1),Y⟩
theorem bQe(g:aS -> Bool)(l:List aS)(F:FuncId)(cap:Array Value)(s:Sto)(hl:l.length <= 1000000000)(hcf:∀args w,(callFunc F args).run prog w=.ok (.enter F args) w)(hc:∀k (h:k<l.length),aL prog F (bK5 (.agg (cP l[k]))::cap.toList.map cst) [] s λt s'=>t=Cb (g l[k]) /\ s'=s):aL prog 141 [bK5 (.c (Sq cP l)),Cv (.func (.func F) #[] cap)] [] s λt s'=>t=Ci (bLm g l) /\ s'=s:=by
 obtain ⟨bx,rw⟩:=s
 refine acX 19 func141 ?_
 refine go 14 ?_
 refine lE (λk=>∀i (h:i<l.length),i<k -> g l[i]=false) (l.length) 8 (λk=>[(0,bK5 (.c (Sq cP l))),(1,Cv (.func (.func F) #[] cap)),(7,nI l.length)]) Bh (sA Y) λk hk hvk=>?_
 replace hvk:∀i (h:i<l.length),i<k -> g l[i]=false:=hvk
 try dsimp only
 refine go 2 ?_
 by_cases h1:((k:Nat):Int)<((l.length:Nat):Int)
 ·refine wcp true Y (jZ h1) (go 19 ?_)
  refine wyz Y (bH cP cP l gL (λ_=>Y) k Y Y Y Y J V runUnderlying64 sizeOf69) (go 1 ?_)
  rcases Bool.eq_false_or_eq_true (g l[k]) with h3|h3
  ·refine bNo 0 Y hcf Y (hc k J) h3 ?_
   refine go 15 ?_
   exact bHe (s':=⟨bx,rw⟩) Y sb0 ⟨aPy (bL4 g l k J (λi hi hik=>hvk i hi hik) h3),Y⟩
  refine bNo 0 Y hcf Y (hc k J) h3 ?_
  refine go 7 ?_
  refine wad Y (go 2 ?_)
  exact ⟨J,Ax,(aG Y (gQ J) (sA Y))⟩
 refine wcp false Y (jQ h1) (go 15 ?_)
 exact bHe (s':=⟨bx,rw⟩) Y sb0 ⟨aPy (bL5 g l Ce),Y⟩
theorem bNh(g:aS -> Bool)(l:List aS)(F:FuncId)(cap:Array Value)(s:Sto)(hl:l.length <= 1000000000)(hcf:∀args w,(callFunc F args).run prog w=.ok (.enter F args) w)(hc:∀k (h:k<l.length),aL prog F (bK5 (.agg (cP l[k]))::cap.toList.map cst) [] s λt s'=>t=Cb (g l[k]) /\ s'=s):aL prog 119 [bK5 (.c (Sq cP l)),Cv (.func (.func F) #[] cap)] [] s λt s'=>t=Cb (l.any g) /\ s'=s:=by
 obtain ⟨bx,rw⟩:=s
 refine acX 9 func119 ?_
 refine go 9 ?_
 refine wcR 0 Y call141 Y (bQe g l F cap _ hl hcf hc) ?_
 by_cases h1:(0:Int) <= bLm g l
 ·refine wcp true Y (aMq h1) (go 4 ?_)
  exact bHe (s':=⟨bx,rw⟩) Y sb0 ⟨cX ((bLt g l).1.1 h1),Y⟩
 refine wcp false Y (aMx h1) (go 4 ?_)
 exact bHe (s':=⟨bx,rw⟩) Y sb0 ⟨cX (bNi h1),Y⟩
theorem bRb(g:aJ -> Bool)(l:List aJ)(F:FuncId)(cap:Array Value)(s:Sto)(hl:l.length <= 1000000000)(hcf:∀args w,(callFunc F args).run prog w=.ok (.enter F args) w)(hc:∀k (h:k<l.length),aL prog F (bK5 (.agg (dG l[k]))::cap.toList.map cst) [] s λt s'=>t=Cb (g l[k]) /\ s'=s):aL prog 161 [bK5 (.c (Sq encS l)),Cv (.func (.func F) #[] cap)] [] s λt s'=>t=Ci (bLm g l) /\ s'=s:=by
 obtain ⟨bx,rw⟩:=s
 refine acX 19 func161 ?_
 refine go 14 ?_
 refine lE (λk=>∀i (h:i<l.length),i<k -> g l[i]=false) (l.length) 8 (λk=>[(0,bK5 (.c (Sq encS l))),(1,Cv (.func (.func F) #[] cap)),(7,nI l.length)]) Bh (sA Y) λk hk hvk=>?_
 replace hvk:∀i (h:i<l.length),i<k -> g l[i]=false:=hvk
 try dsimp only
 refine go 2 ?_
 by_cases h1:((k:Nat):Int)<((l.length:Nat):Int)
 ·refine wcp true Y (jZ h1) (go 19 ?_)
  refine wyz Y (bH encS dG l cZo cJ k Y Y Y Y J V runUnderlying65 sizeOf120) (go 1 ?_)
  rcases Bool.eq_false_or_eq_true (g l[k]) with h3|h3
  ·refine bNo 0 Y hcf Y (hc k J) h3 ?_
   refine go 15 ?_
   exact bHe (s':=⟨bx,rw⟩) Y sb0 ⟨aPy (bL4 g l k J (λi hi hik=>hvk i hi hik) h3),Y⟩
  refine bNo 0 Y hcf Y (hc k J) h3 ?_
  refine go 7 ?_
  refine wad Y (go 2 ?_)
  exact ⟨J,Ax,(aG Y (gQ J) (sA Y))⟩
 refine wcp false Y (jQ h1) (go 15 ?_)
 exact bHe (s':=⟨bx,rw⟩) Y sb0 ⟨aPy (bL5 g l Ce),Y⟩
theorem bN0(g:aJ -> Bool)(l:List aJ)(F:FuncId)(cap:Array Value)(s:Sto)(hl:l.length <= 1000000000)(hcf:∀args w,(callFunc F args).run prog w=.ok (.enter F args) w)(hc:∀k (h:k<l.length),aL prog F (bK5 (.agg (dG l[k]))::cap.toList.map cst) [] s λt s'=>t=Cb (g l[k]) /\ s'=s):aL prog 142 [bK5 (.c (Sq encS l)),Cv (.func (.func F) #[] cap)] [] s λt s'=>t=Cb (l.any g) /\ s'=s:=by
 obtain ⟨bx,rw⟩:=s
 refine acX 9 func142 ?_
 refine go 9 ?_
 refine wcR 0 Y call161 Y (bRb g l F cap _ hl hcf hc) ?_
 by_cases h1:(0:Int) <= bLm g l
 ·refine wcp true Y (aMq h1) (go 4 ?_)
  exact bHe (s':=⟨bx,rw⟩) Y sb0 ⟨cX ((bLt g l).1.1 h1),Y⟩
 refine wcp false Y (aMx h1) (go 4 ?_)
 exact bHe (s':=⟨bx,rw⟩) Y sb0 ⟨cX (bNi h1),Y⟩
theorem bRs(g:eN -> Bool)(l:List eN)(F:FuncId)(cap:Array Value)(s:Sto)(hl:l.length <= 1000000000)(hcf:∀args w,(callFunc F args).run prog w=.ok (.enter F args) w)(hc:∀k (h:k<l.length),aL prog F (bK5 (.agg (eJ l[k]))::cap.toList.map cst) [] s λt s'=>t=Cb (g l[k]) /\ s'=s):aL prog 187 [bK5 (.c (Sq eJ l)),Cv (.func (.func F) #[] cap)] [] s λt s'=>t=Ci (bLm g l) /\ s'=s:=by
 obtain ⟨bx,rw⟩:=s
 refine acX 19 func187 ?_
 refine go 14 ?_
 refine lE (λk=>∀i (h:i<l.length),i<k -> g l[i]=false) (l.length) 8 (λk=>[(0,bK5 (.c (Sq eJ l))),(1,Cv (.func (.func F) #[] cap)),(7,nI l.length)]) Bh (sA Y) λk hk hvk=>?_
 replace hvk:∀i (h:i<l.length),i<k -> g l[i]=false:=hvk
 try dsimp only
 refine go 2 ?_
 by_cases h1:((k:Nat):Int)<((l.length:Nat):Int)
 ·refine wcp true Y (jZ h1) (go 19 ?_)
  refine wyz Y (bH eJ eJ l iD (λ_=>Y) k Y Y Y Y J V runUnderlying118 sizeOf135) (go 1 ?_)
  rcases Bool.eq_false_or_eq_true (g l[k]) with h3|h3
  ·refine bNo 0 Y hcf Y (hc k J) h3 ?_
   refine go 15 ?_
   exact bHe (s':=⟨bx,rw⟩) Y sb0 ⟨aPy (bL4 g l k J (λi hi hik=>hvk i hi hik) h3),Y⟩
  refine bNo 0 Y hcf Y (hc k J) h3 ?_
  refine go 7 ?_
  refine wad Y (go 2 ?_)
  exact ⟨J,Ax,(aG Y (gQ J) (sA Y))⟩
 refine wcp false Y (jQ h1) (go 15 ?_)
 exact bHe (s':=⟨bx,rw⟩) Y sb0 ⟨aPy (bL5 g l Ce),Y⟩
theorem bMq(g:eN -> Bool)(l:List eN)(F:FuncId)(cap:Array Value)(s:Sto)(hl:l.length <= 1000000000)(hcf:∀args w,(callFunc F args).run prog w=.ok (.enter F args) w)(hc:∀k (h:k<l.length),aL prog F (bK5 (.agg (eJ l[k]))::cap.toList.map cst) [] s λt s'=>t=Cb (g l[k]) /\ s'=s):aL prog 167 [bK5 (.c (Sq eJ l)),Cv (.func (.func F) #[] cap)] [] s λt s'=>t=Cb (l.any g) /\ s'=s:=by
 obtain ⟨bx,rw⟩:=s
 refine acX 9 func167 ?_
 refine go 9 ?_
 refine wcR 0 Y call187 Y (bRs g l F cap _ hl hcf hc) ?_
 by_cases h1:(0:Int) <= bLm g l
 ·refine wcp true Y (aMq h1) (go 4 ?_)
  exact bHe (s':=⟨bx,rw⟩) Y sb0 ⟨cX ((bLt g l).1.1 h1),Y⟩
 refine wcp false Y (aMx h1) (go 4 ?_)
 exact bHe (s':=⟨bx,rw⟩) Y sb0 ⟨cX (bNi h1),Y⟩
theorem bQ2(g:aH -> Bool)(l:List aH)(F:FuncId)(cap:Array Value)(s:Sto)(hl:l.length <= 1000000000)(hcf:∀args w,(callFunc F args).run prog w=.ok (.enter F args) w)(hc:∀k (h:k<l.length),aL prog F (bK5 (.agg (cU l[k]))::cap.toList.map cst) [] s λt s'=>t=Cb (g l[k]) /\ s'=s):aL prog 201 [bK5 (.c (Sq fO l)),Cv (.func (.func F) #[] cap)] [] s λt s'=>t=Ci (bLm g l) /\ s'=s:=by
 obtain ⟨bx,rw⟩:=s
 refine acX 19 func201 ?_
 refine go 14 ?_
 refine lE (λk=>∀i (h:i<l.length),i<k -> g l[i]=false) (l.length) 8 (λk=>[(0,bK5 (.c (Sq fO l))),(1,Cv (.func (.func F) #[] cap)),(7,nI l.length)]) Bh (sA Y) λk hk hvk=>?_
 replace hvk:∀i (h:i<l.length),i<k -> g l[i]=false:=hvk
 try dsimp only
 refine go 2 ?_
 by_cases h1:((k:Nat):Int)<((l.length:Nat):Int)
 ·refine wcp true Y (jZ h1) (go 19 ?_)
  refine wyz Y (bH fO cU l iU fP k Y Y Y Y J V runUnderlying85 sizeOf87) (go 1 ?_)
  rcases Bool.eq_false_or_eq_true (g l[k]) with h3|h3
  ·refine bNo 0 Y hcf Y (hc k J) h3 ?_
   refine go 15 ?_
   exact bHe (s':=⟨bx,rw⟩) Y sb0 ⟨aPy (bL4 g l k J (λi hi hik=>hvk i hi hik) h3),Y⟩
  refine bNo 0 Y hcf Y (hc k J) h3 ?_
  refine go 7 ?_
  refine wad Y (go 2 ?_)
  exact ⟨J,Ax,(aG Y (gQ J) (sA Y))⟩
 refine wcp false Y (jQ h1) (go 15 ?_)
 exact bHe (s':=⟨bx,rw⟩) Y sb0 ⟨aPy (bL5 g l Ce),Y⟩
theorem bNu(g:aH -> Bool)(l:List aH)(F:FuncId)(cap:Array Value)(s:Sto)(hl:l.length <= 1000000000)(hcf:∀args w,(callFunc F args).run prog w=.ok (.enter F args) w)(hc:∀k (h:k<l.length),aL prog F (bK5 (.agg (cU l[k]))::cap.toList.map cst) [] s λt s'=>t=Cb (g l[k]) /\ s'=s):aL prog 185 [bK5 (.c (Sq fO l)),Cv (.func (.func F) #[] cap)] [] s λt s'=>t=Cb (l.any g) /\ s'=s:=by
 obtain ⟨bx,rw⟩:=s
 refine acX 9 func185 ?_
 refine go 9 ?_
 refine wcR 0 Y call201 Y (bQ2 g l F cap _ hl hcf hc) ?_
 by_cases h1:(0:Int) <= bLm g l
 ·refine wcp true Y (aMq h1) (go 4 ?_)
  exact bHe (s':=⟨bx,rw⟩) Y sb0 ⟨cX ((bLt g l).1.1 h1),Y⟩
 refine wcp false Y (aMx h1) (go 4 ?_)
 exact bHe (s':=⟨bx,rw⟩) Y sb0 ⟨cX (bNi h1),Y⟩
theorem bLp(x:ByteArray)(hx:x.size <= 4611686018427387904)(s:Sto):aL prog 117 [bK5 (Cs x)] [] s λt s'=>t=Cb (bQ x) /\ s'=s:=by
 obtain ⟨bx,rw⟩:=s
 refine acX 35 func117 ?_
 refine go 8 ?_
 refine wo Y (aDc Y Y V Y underlying9 underlying58 underlying5 D5 (N:=x.data.toList.length) Y (cs:=iF x.data.toList) Y ?_)
 refine wo Y (bN9 0 [] Y Y V call94 Y Y (λm=>aP8 x.data.toList m _) bDl bDl (λ_=>bDl) ?_)
 rintro _ _ ⟨(⟨tl1,hlx1,rfl,htl1⟩|⟨p1,e1,hlx1,rfl,he1⟩),rfl⟩
 ·refine go 12 ?_
  refine wcp true Y B7 (go 3 ?_)
  by_cases h2:((tl1.length:Nat):Int)=2
  ·refine wcp true Y (eR h2) (go 3 ?_)
   refine wyz Y (bH aW aW tl1 bJ (λ_=>Y) 0 Y Y Y Y J V runUnderlying139 sizeOf154) (go 2 ?_)
   by_cases h3:((tl1[0].kind:Nat):Int)=1
   ·refine wcp true Y (eR h3) (go 3 ?_)
    refine wyz Y (bH aW aW tl1 bJ (λ_=>Y) 0 Y Y Y Y J V runUnderlying139 sizeOf154) (go 3 ?_)
    by_cases h4:tl1[0].text=x
    ·refine wyz Y (aZ true Y Y Y (aL8 h4)) (go 5 ?_)
     exact bHe (s':=⟨bx,rw⟩) Y sb0 ⟨cX ((bL0 hlx1).1 ⟨J,J,J,h4⟩),Y⟩
    refine wyz Y (aZ false Y Y Y (aLs h4)) (go 5 ?_)
    exact bHe (s':=⟨bx,rw⟩) Y sb0 ⟨cX (Bool.eq_false_iff.2 λhh=>D2),Y⟩
   refine wcp false Y (eD h3) (go 13 ?_)
   exact bHe (s':=⟨bx,rw⟩) Y sb0 ⟨cX (Bool.eq_false_iff.2 λhh=>D3),Y⟩
  refine wcp false Y (eD h2) (go 20 ?_)
  exact bHe (s':=⟨bx,rw⟩) Y sb0 ⟨cX (Bool.eq_false_iff.2 λhh=>D4),Y⟩
 refine go 12 ?_
 refine wcp false Y (eD J) (go 24 ?_)
 exact bHe (s':=⟨bx,rw⟩) Y sb0 ⟨cX (bOs hlx1),Y⟩
theorem bN8(e:aH)(s:Sto):aL prog 164 [.agg (cU e)] [] s λt s'=>t=Cb (bLg e) /\ s'=s:=by
 obtain ⟨bx,rw⟩:=s
 refine acX 22 func164 ?_
 refine go 10 λb1=>?_
 by_cases h1:e.op=0
 ·refine wcp true Y (eR h1) (go 3 ?_)
  by_cases h2:e.num=0
  ·refine wcp true Y (eR h2) (go 4 ?_)
   by_cases h3:e.name=aK
   ·refine wyz Y (aZ true Y Y Y (aL8 h3)) (go 5 ?_)
    by_cases h4:((e.args.length:Nat):Int)=0
    ·refine wcp true Y (eR h4) (go 5 ?_)
     exact bHe (s':=⟨bx,rw⟩) Y sb1 ⟨cX (by unfold bLg;rw [decide_eq_true (show e.op=0 /\ e.num=0 by omega),decide_eq_true (show e.name=aK by assumption),decide_eq_true (show e.args.length=0 by omega)];rfl),Y⟩
    refine wcp false Y (eD h4) (go 5 ?_)
    exact bHe (s':=⟨bx,rw⟩) Y sb1 ⟨cX (Bool.eq_false_iff.2 λhh=>by simp only [bLg,Bool.and_eq_true,decide_eq_true_eq] at hh;first|omega|exact h4 hh.1.2),Y⟩
   refine wyz Y (aZ false Y Y Y (aLs h3)) (go 11 ?_)
   exact bHe (s':=⟨bx,rw⟩) Y sb1 ⟨cX (Bool.eq_false_iff.2 λhh=>by simp only [bLg,Bool.and_eq_true,decide_eq_true_eq] at hh;first|omega|exact h3 hh.1.2),Y⟩
  refine wcp false Y (eD h2) (go 16 ?_)
  exact bHe (s':=⟨bx,rw⟩) Y sb1 ⟨cX (Bool.eq_false_iff.2 λhh=>by simp only [bLg,Bool.and_eq_true,decide_eq_true_eq] at hh;first|omega|exact h2 hh.1.2),Y⟩
 refine wcp false Y (eD h1) (go 20 ?_)
 exact bHe (s':=⟨bx,rw⟩) Y sb1 ⟨cX (Bool.eq_false_iff.2 λhh=>by simp only [bLg,Bool.and_eq_true,decide_eq_true_eq] at hh;first|omega|exact h1 hh.1.2),Y⟩
theorem bMo(r:cY)(s:Sto):aL prog 166 [.agg (encR r)] [] s λt s'=>t=Cb (kM r) /\ s'=s:=by
 obtain ⟨bx,rw⟩:=s
 refine acX 12 func166 ?_
 refine go 10 λb1=>?_
 by_cases h1:r.name=aK
 ·refine wyz Y (aZ true Y Y Y (aL8 h1)) (go 4 ?_)
  by_cases h2:((r.index.length:Nat):Int)=0
  ·refine wcp true Y (eR h2) (go 5 ?_)
   exact bHe (s':=⟨bx,rw⟩) Y sb1 ⟨cX (by unfold kM;rw [decide_eq_true (show r.name=aK by assumption),decide_eq_true (show r.index.length=0 by omega)];rfl),Y⟩
  refine wcp false Y (eD h2) (go 5 ?_)
  exact bHe (s':=⟨bx,rw⟩) Y sb1 ⟨cX (Bool.eq_false_iff.2 λhh=>by simp only [kM,Bool.and_eq_true,decide_eq_true_eq] at hh;first|omega|exact h2 hh.1),Y⟩
 refine wyz Y (aZ false Y Y Y (aLs h1)) (go 10 ?_)
 exact bHe (s':=⟨bx,rw⟩) Y sb1 ⟨cX (Bool.eq_false_iff.2 λhh=>by simp only [kM,Bool.and_eq_true,decide_eq_true_eq] at hh;first|omega|exact h1 hh.1),Y⟩
theorem bQ6(e:aH)(hN:e.nodes <= 1000000000)(hs:e.sane)(s:Sto):aL prog 186 [bK5 (.agg (cU e))] [] s λt s'=>t=Cb (!dM e) /\ s'=s:=by
 obtain ⟨bx,rw⟩:=s
 refine acX 6 func186 ?_
 refine go 9 λb1=>?_
 rcases Bool.eq_false_or_eq_true (dM e) with h1|h1
 rotate_left
 all_goals
  refine bK8 0 Y call163 Y (bLw e hN hs _) h1 (go 5 ?_)
  exact bHe (s':=⟨bx,rw⟩) Y sb1 ⟨cX C5,Y⟩
theorem bOn(r:cY)(hs:r.sane)(hN:cZ r.index <= 900000000)(s:Sto):aL prog 165 [bK5 (.agg (encR r))] [] s λt s'=>t=Cb (okRefB r) /\ s'=s:=by
 obtain ⟨bx,rw⟩:=s
 refine acX 18 func165 ?_
 refine go 10 λb1=>?_
 rcases Bool.eq_false_or_eq_true (bQ r.name) with h1|h1
 ·refine bK8 0 Y call117 Y (bLp r.name hs.1 _) h1 (go 4 ?_)
  by_cases h2:((r.index.length:Nat):Int) <= 1
  ·refine wcp true Y (aPz h2) (go 4 ?_)
   rcases Bool.eq_false_or_eq_true (r.index.any λe=>!dM e) with h3|h3
   rotate_left
   all_goals
    refine bK8 0 Y call185 Y (bNu (λe=>!dM e) r.index 186 #[] _ J call186 (λk hk=>bQ6 _ (by have:=nM r.index k hk;omega) (mV _ hs.2 _ (getElem_mem _)) _)) h3 (go 6 ?_)
    exact bHe (s':=⟨bx,rw⟩) Y sb1 ⟨cX (by rw [bMp,h1,decide_eq_true (show r.index.length <= 1 by omega),h3];rfl),Y⟩
  refine wcp false Y (aPx h2) (go 11 ?_)
  exact bHe (s':=⟨bx,rw⟩) Y sb1 ⟨cX (by rw [bMp,h1,decide_eq_false (show ¬r.index.length <= 1 by omega)];rfl),Y⟩
 refine bK8 0 Y call117 Y (bLp r.name hs.1 _) h1 (go 16 ?_)
 exact bHe (s':=⟨bx,rw⟩) Y sb1 ⟨cX (by rw [bMp,h1];rfl),Y⟩
theorem bQ0(a:eN)(hs:a.sane)(hw:a.wt <= 900000000)(s:Sto):aL prog 169 [bK5 (.agg (eJ a))] [] s λt s'=>t=Cb (fY a) /\ s'=s:=by
 obtain ⟨bx,rw⟩:=s
 unfold eN.wt cY.wt at hw
 refine acX 21 func169 ?_
 refine go 10 λb1=>?_
 rcases Bool.eq_false_or_eq_true (a.mutex) with h1|h1
 ·refine wyz Y (fL (bZ h1)) (go 7 ?_)
  rcases Bool.eq_false_or_eq_true (bLg a.expr) with h3|h3
  ·refine bOu Y call164 Y (bN8 a.expr _) h3 (go 3 ?_)
   rcases Bool.eq_false_or_eq_true (okRefB a.ref) with h4|h4
   rotate_left
   all_goals
    refine bK8 0 Y call165 Y (bOn a.ref hs.1 J _) h4 (go 6 ?_)
    exact bHe (s':=⟨bx,rw⟩) Y sb1 ⟨cX (by rw [aCi h1,h4,h3];first|rfl|(cases okRefB a.ref<;>rfl)),rfl⟩
  refine bOu Y call164 Y (bN8 a.expr _) h3 (go 10 ?_)
  exact bHe (s':=⟨bx,rw⟩) Y sb1 ⟨cX (by rw [aCi h1,h3];first|rfl|(cases okRefB a.ref<;>rfl)),rfl⟩
 refine wyz Y (fL (bZ h1)) (go 9 ?_)
 rcases Bool.eq_false_or_eq_true (kM a.ref) with h6|h6
 ·refine bOu Y call166 Y (bMo a.ref _) h6 (go 3 ?_)
  rcases Bool.eq_false_or_eq_true (dM a.expr) with h7|h7
  rotate_left
  all_goals
   refine bK8 0 Y call163 Y (bLw a.expr J hs.2 _) h7 (go 5 ?_)
   exact bHe (s':=⟨bx,rw⟩) Y sb1 ⟨cX (by rw [aCv h1,h6,h7];first|rfl|(cases okRefB a.ref<;>rfl)),rfl⟩
 refine bOu Y call166 Y (bMo a.ref _) h6 (go 9 ?_)
 exact bHe (s':=⟨bx,rw⟩) Y sb1 ⟨cX (by rw [aCv h1,h6];first|rfl|(cases okRefB a.ref<;>rfl)),rfl⟩
theorem bNb(a:eN)(hs:a.sane)(hw:a.wt <= 900000000)(s:Sto):aL prog 168 [bK5 (.agg (eJ a))] [] s λt s'=>t=Cb (!fY a) /\ s'=s:=by
 obtain ⟨bx,rw⟩:=s
 refine acX 6 func168 ?_
 refine go 9 λb1=>?_
 rcases Bool.eq_false_or_eq_true (fY a) with h1|h1
 rotate_left
 all_goals
  refine bK8 0 Y call169 Y (bQ0 a hs hw _) h1 (go 5 ?_)
  exact bHe (s':=⟨bx,rw⟩) Y sb1 ⟨cX C5,Y⟩
theorem bP9(x:aJ)(s:Sto):aL prog 162 [Ci x.kind] [] s λt s'=>t=.tup [.agg [Vb (isN x),Vb (isE x),Vb (isR x),Vb (isC x),Vb (isB x),Vb (isI x)],Cb (!aG7 x)] /\ s'=s:=by
 obtain ⟨bx,rw⟩:=s
 refine acX 27 func162 ?_
 refine go 16 λb1=>?_
 by_cases h1:x.kind=1
 ·refine wcp true Y (eR h1) (go 17 ?_)
  exact ⟨.inr Y,_,⟨bx,rw⟩,uM Y (aO [] Y Y isAgg238 sizeOf238 Y) (aF Y),aA (.cons _ (.refl _)) (.refl _),Ab,Y⟩
 refine wcp false Y (eD h1) (go 5 ?_)
 by_cases h5:x.kind=2
 ·refine wcp true Y (eR h5) (go 14 ?_)
  exact ⟨.inr Y,_,⟨bx,rw⟩,uM Y (aO [] Y Y isAgg238 sizeOf238 Y) (aF Y),aA (.cons _ (.refl _)) (.refl _),Ab,Y⟩
 refine wcp false Y (eD h5) (go 7 ?_)
 by_cases h8:x.kind=3
 ·refine wcp true Y (eR h8) (go 17 ?_)
  exact ⟨.inr Y,_,⟨bx,rw⟩,uM Y (aO [] Y Y isAgg238 sizeOf238 Y) (aF Y),aA (.cons _ (.refl _)) (.refl _),Ac,Y⟩
 refine wcp false Y (eD h8) (go 5 ?_)
 by_cases h12:x.kind=4
 ·refine wcp true Y (eR h12) (go 14 ?_)
  exact ⟨.inr Y,_,⟨bx,rw⟩,uM Y (aO [] Y Y isAgg238 sizeOf238 Y) (aF Y),aA (.cons _ (.refl _)) (.refl _),Ac,Y⟩
 refine wcp false Y (eD h12) (go 7 ?_)
 by_cases h15:x.kind=5
 ·refine wcp true Y (eR h15) (go 17 ?_)
  exact ⟨.inr Y,_,⟨bx,rw⟩,uM Y (aO [] Y Y isAgg238 sizeOf238 Y) (aF Y),aA (.cons _ (.refl _)) (.refl _),Aa,Y⟩
 refine wcp false Y (eD h15) (go 5 ?_)
 by_cases h19:x.kind=6
 ·refine wcp true Y (eR h19) (go 14 ?_)
  exact ⟨.inr Y,_,⟨bx,rw⟩,uM Y (aO [] Y Y isAgg238 sizeOf238 Y) (aF Y),aA (.cons _ (.refl _)) (.refl _),Aa,Y⟩
 refine wcp false Y (eD h19) (go 6 ?_)
 by_cases h22:x.kind=7
 ·refine wcp true Y (eR h22) (go 14 ?_)
  exact ⟨.inr Y,_,⟨bx,rw⟩,uM Y (aO [] Y Y isAgg238 sizeOf238 Y) (aF Y),aA (.cons _ (.refl _)) (.refl _),(by rw [show isN x=false by unfold isN;first|exact decide_eq_true J|exact decide_eq_false J,show isE x=true by unfold isE;first|exact decide_eq_true J|exact decide_eq_false J,show isR x=false by unfold isR;first|exact decide_eq_true J|exact decide_eq_false J,show isC x=false by unfold isC;first|exact decide_eq_true J|exact decide_eq_false J,show isB x=true by unfold isB;first|exact decide_eq_true J|exact decide_eq_false J,show isI x=true by unfold isI;first|exact decide_eq_true J|exact decide_eq_false J,show aG7 x=false by unfold aG7;first|exact decide_eq_true J|exact decide_eq_false J];rfl),Y⟩
 refine wcp false Y (eD h22) (go 6 ?_)
 by_cases h25:x.kind=8
 ·refine wcp true Y (eR h25) (go 14 ?_)
  exact ⟨.inr Y,_,⟨bx,rw⟩,uM Y (aO [] Y Y isAgg238 sizeOf238 Y) (aF Y),aA (.cons _ (.refl _)) (.refl _),(by rw [show isN x=false by unfold isN;first|exact decide_eq_true J|exact decide_eq_false J,show isE x=true by unfold isE;first|exact decide_eq_true J|exact decide_eq_false J,show isR x=false by unfold isR;first|exact decide_eq_true J|exact decide_eq_false J,show isC x=false by unfold isC;first|exact decide_eq_true J|exact decide_eq_false J,show isB x=true by unfold isB;first|exact decide_eq_true J|exact decide_eq_false J,show isI x=false by unfold isI;first|exact decide_eq_true J|exact decide_eq_false J,show aG7 x=false by unfold aG7;first|exact decide_eq_true J|exact decide_eq_false J];rfl),Y⟩
 refine wcp false Y (eD h25) (go 6 ?_)
 by_cases h28:x.kind=9
 ·refine wcp true Y (eR h28) (go 14 ?_)
  exact ⟨.inr Y,_,⟨bx,rw⟩,uM Y (aO [] Y Y isAgg238 sizeOf238 Y) (aF Y),aA (.cons _ (.refl _)) (.refl _),(by rw [show isN x=false by unfold isN;first|exact decide_eq_true J|exact decide_eq_false J,show isE x=false by unfold isE;first|exact decide_eq_true J|exact decide_eq_false J,show isR x=false by unfold isR;first|exact decide_eq_true J|exact decide_eq_false J,show isC x=false by unfold isC;first|exact decide_eq_true J|exact decide_eq_false J,show isB x=false by unfold isB;first|exact decide_eq_true J|exact decide_eq_false J,show isI x=false by unfold isI;first|exact decide_eq_true J|exact decide_eq_false J,show aG7 x=false by unfold aG7;first|exact decide_eq_true J|exact decide_eq_false J];rfl),Y⟩
 refine wcp false Y (eD h28) (go 15 ?_)
 exact ⟨.inr Y,_,⟨bx,rw⟩,uM Y (aO [] Y Y isAgg238 sizeOf238 Y) (aF Y),aA (.cons _ (.refl _)) (.refl _),(by rw [show isN x=false by unfold isN;first|exact decide_eq_true J|exact decide_eq_false J,show isE x=false by unfold isE;first|exact decide_eq_true J|exact decide_eq_false J,show isR x=false by unfold isR;first|exact decide_eq_true J|exact decide_eq_false J,show isC x=false by unfold isC;first|exact decide_eq_true J|exact decide_eq_false J,show isB x=false by unfold isB;first|exact decide_eq_true J|exact decide_eq_false J,show isI x=false by unfold isI;first|exact decide_eq_true J|exact decide_eq_false J,show aG7 x=true by unfold aG7;first|exact decide_eq_true J|exact decide_eq_false J];rfl),Y⟩
theorem bO1{α:Type}{f:α -> Bool}{l:List α}(h:(l.any λx=>!f x)=true):l.all f=false:=by rw [bPq] at h;simpa using h
theorem bMb{α:Type}{f:α -> Bool}{l:List α}(h:(l.any λx=>!f x)=false):l.all f=true:=by rw [bPq] at h;simpa using h
theorem bPf(D:Nat)(x:aJ)(hs:x.sane)(hw:x.wt <= 900000000)(hD:D <= 1000)(ih1:∀(s:Sto),aL prog 121 [bK5 (.c (Sq encS x.thn)),Ci (((D:Nat):Int)+1)] [] s λt s'=>t=Cb (bM (D+1) x.thn) /\ s'=s)(ih2:∀(s:Sto),aL prog 121 [bK5 (.c (Sq encS x.els)),Ci (((D:Nat):Int)+1)] [] s λt s'=>t=Cb (bM (D+1) x.els) /\ s'=s)(s:Sto):aL prog 144 [bK5 (.agg (dG x)),nI D] [] s λt s'=>t=Cb (bK9 D x) /\ s'=s:=by
 obtain ⟨bx,rw⟩:=s
 obtain ⟨hsn,hse,hsr,hsa,hst,hsf⟩:=yW hs
 rw [gD] at hw
 unfold cY.wt at hw
 have hwa:=aCj x.args
 refine acX 119 func144 ?_
 refine go 10 λb1=>?_
 refine wc1 Y call162 Y (bP9 x _) (go 14 λb2=>?_)
 rcases Bool.eq_false_or_eq_true (!aG7 x) with h1|h1
 ·refine wyz Y (fL (hy:=lF Y Y) (bZ (aKs h1))) (go 4 ?_)
  refine xX [(13,Cb (d1 x)),(0,bK5 (.agg (dG x))),(1,nI D),(2,pP b1),(5,pP b2),(6,Cb (!aG7 x))] ?_ ?_
  ·refine go 2 ?_
   rcases Bool.eq_false_or_eq_true (isN x) with h3|h3
   ·refine wyz Y (fL (bZ h3)) (go 3 ?_)
    rcases Bool.eq_false_or_eq_true (bQ x.name) with h4|h4
    rotate_left
    all_goals
     refine bK8 0 Y call117 Y (bLp x.name hsn _) h4 (go 4 ?_)
     exact ⟨Y,(aG Y (bZ (by unfold d1;rw [h3,h4];rfl)) (sA Y))⟩
   refine wyz Y (fL (bZ h3)) (go 8 ?_)
   exact ⟨Y,(aG Y (bZ (by unfold d1;rw [h3];rfl)) (sA Y))⟩
  refine gY Y (λh5=>?_) (λh5=>?_)
  ·refine go 2 ?_
   refine aM9 Y h5 ?_
   refine go 8 ?_
   exact bHe (s':=⟨bx,rw⟩) Y sb2 ⟨cX (by rw [bLr,h5];simp),Y⟩
  refine xX [(13,Cb (d2 x)),(0,bK5 (.agg (dG x))),(1,nI D),(2,pP b1),(5,pP b2),(6,Cb (!aG7 x))] ?_ ?_
  ·refine go 2 ?_
   rcases Bool.eq_false_or_eq_true (isN x) with h6|h6
   ·refine wyz Y (fL (bZ h6)) (go 8 ?_)
    exact ⟨Y,(aG Y (bZ (by unfold d2;rw [h6];rfl)) (sA Y))⟩
   refine wyz Y (fL (bZ h6)) (go 4 ?_)
   by_cases h7:x.name=aK
   ·refine wyz Y (aZ false Y Y Y (aMz h7)) (go 3 ?_)
    exact ⟨Y,(aG Y (bZ (by unfold d2;rw [h6,decide_eq_true h7];rfl)) (sA Y))⟩
   refine wyz Y (aZ true Y Y Y (aLc h7)) (go 3 ?_)
   exact ⟨Y,(aG Y (bZ (by unfold d2;rw [h6,decide_eq_false h7];rfl)) (sA Y))⟩
  refine gY Y (λh8=>?_) (λh8=>?_)
  ·refine go 2 ?_
   refine aM9 Y h8 ?_
   refine go 8 ?_
   exact bHe (s':=⟨bx,rw⟩) Y sb2 ⟨cX (by rw [bLr,h8];simp),Y⟩
  refine xX [(13,Cb (d3 x)),(0,bK5 (.agg (dG x))),(1,nI D),(2,pP b1),(5,pP b2),(6,Cb (!aG7 x))] ?_ ?_
  ·refine go 2 ?_
   rcases Bool.eq_false_or_eq_true (isE x) with h9|h9
   ·refine wyz Y (fL (bZ h9)) (go 3 ?_)
    rcases Bool.eq_false_or_eq_true (dM x.expr) with h10|h10
    rotate_left
    all_goals
     refine bK8 0 Y call163 Y (bLw x.expr J hse _) h10 (go 4 ?_)
     exact ⟨Y,(aG Y (bZ (by unfold d3;rw [h9,h10];rfl)) (sA Y))⟩
   refine wyz Y (fL (bZ h9)) (go 8 ?_)
   exact ⟨Y,(aG Y (bZ (by unfold d3;rw [h9];rfl)) (sA Y))⟩
  refine gY Y (λh11=>?_) (λh11=>?_)
  ·refine go 2 ?_
   refine aM9 Y h11 ?_
   refine go 8 ?_
   exact bHe (s':=⟨bx,rw⟩) Y sb2 ⟨cX (by rw [bLr,h11];simp),Y⟩
  refine xX [(13,Cb (d4 x)),(0,bK5 (.agg (dG x))),(1,nI D),(2,pP b1),(5,pP b2),(6,Cb (!aG7 x))] ?_ ?_
  ·refine go 2 ?_
   rcases Bool.eq_false_or_eq_true (isE x) with h12|h12
   ·refine wyz Y (fL (bZ h12)) (go 9 ?_)
    exact ⟨Y,(aG Y (bZ (by unfold d4;rw [h12];rfl)) (sA Y))⟩
   refine wyz Y (fL (bZ h12)) (go 4 ?_)
   rcases Bool.eq_false_or_eq_true (bLg x.expr) with h13|h13
   rotate_left
   all_goals
    refine bOu Y call164 Y (bN8 x.expr _) h13 (go 4 ?_)
    exact ⟨Y,(aG Y (bZ (by unfold d4;rw [h12,h13];rfl)) (sA Y))⟩
  refine gY Y (λh14=>?_) (λh14=>?_)
  ·refine go 2 ?_
   refine aM9 Y h14 ?_
   refine go 8 ?_
   exact bHe (s':=⟨bx,rw⟩) Y sb2 ⟨cX (by rw [bLr,h14];simp),Y⟩
  refine xX [(13,Cb (d5 x)),(0,bK5 (.agg (dG x))),(1,nI D),(2,pP b1),(5,pP b2),(6,Cb (!aG7 x))] ?_ ?_
  ·refine go 2 ?_
   rcases Bool.eq_false_or_eq_true (isR x) with h15|h15
   ·refine wyz Y (fL (bZ h15)) (go 3 ?_)
    rcases Bool.eq_false_or_eq_true (okRefB x.ref) with h16|h16
    rotate_left
    all_goals
     refine bK8 0 Y call165 Y (bOn x.ref hsr J _) h16 (go 4 ?_)
     exact ⟨Y,(aG Y (bZ (by unfold d5;rw [h15,h16];rfl)) (sA Y))⟩
   refine wyz Y (fL (bZ h15)) (go 8 ?_)
   exact ⟨Y,(aG Y (bZ (by unfold d5;rw [h15];rfl)) (sA Y))⟩
  refine gY Y (λh17=>?_) (λh17=>?_)
  ·refine go 2 ?_
   refine aM9 Y h17 ?_
   refine go 8 ?_
   exact bHe (s':=⟨bx,rw⟩) Y sb2 ⟨cX (by rw [bLr,h17];simp),Y⟩
  refine xX [(13,Cb (d6 x)),(0,bK5 (.agg (dG x))),(1,nI D),(2,pP b1),(5,pP b2),(6,Cb (!aG7 x))] ?_ ?_
  ·refine go 2 ?_
   rcases Bool.eq_false_or_eq_true (isR x) with h18|h18
   ·refine wyz Y (fL (bZ h18)) (go 9 ?_)
    exact ⟨Y,(aG Y (bZ (by unfold d6;rw [h18];rfl)) (sA Y))⟩
   refine wyz Y (fL (bZ h18)) (go 4 ?_)
   rcases Bool.eq_false_or_eq_true (kM x.ref) with h19|h19
   rotate_left
   all_goals
    refine bOu Y call166 Y (bMo x.ref _) h19 (go 4 ?_)
    exact ⟨Y,(aG Y (bZ (by unfold d6;rw [h18,h19];rfl)) (sA Y))⟩
  refine gY Y (λh20=>?_) (λh20=>?_)
  ·refine go 2 ?_
   refine aM9 Y h20 ?_
   refine go 8 ?_
   exact bHe (s':=⟨bx,rw⟩) Y sb2 ⟨cX (by rw [bLr,h20];simp),Y⟩
  refine xX [(13,Cb (d7 x)),(0,bK5 (.agg (dG x))),(1,nI D),(2,pP b1),(5,pP b2),(6,Cb (!aG7 x))] ?_ ?_
  ·refine go 2 ?_
   rcases Bool.eq_false_or_eq_true (isC x) with h21|h21
   ·refine wyz Y (fL (bZ h21)) (go 9 ?_)
    exact ⟨Y,(aG Y (bZ (by unfold d7;rw [h21];rfl)) (sA Y))⟩
   refine wyz Y (fL (bZ h21)) (go 5 ?_)
   by_cases h22:(0:Int)<((x.args.length:Nat):Int)
   ·refine wcp true Y (mH h22) (go 3 ?_)
    exact ⟨Y,(aG Y (bZ (by unfold d7;rw [h21,decide_eq_false (show ¬x.args.length=0 by omega)];rfl)) (sA Y))⟩
   refine wcp false Y (mI h22) (go 3 ?_)
   exact ⟨Y,(aG Y (bZ (by unfold d7;rw [h21,decide_eq_true (show x.args.length=0 by omega)];rfl)) (sA Y))⟩
  refine gY Y (λh23=>?_) (λh23=>?_)
  ·refine go 2 ?_
   refine aM9 Y h23 ?_
   refine go 8 ?_
   exact bHe (s':=⟨bx,rw⟩) Y sb2 ⟨cX (by rw [bLr,h23];simp),Y⟩
  refine xX [(13,Cb (d8 x)),(0,bK5 (.agg (dG x))),(1,nI D),(2,pP b1),(5,pP b2),(6,Cb (!aG7 x))] ?_ ?_
  ·refine go 2 ?_
   rcases Bool.eq_false_or_eq_true (isB x) with h24|h24
   ·refine wyz Y (fL (bZ h24)) (go 9 ?_)
    exact ⟨Y,(aG Y (bZ (by unfold d8;rw [h24];rfl)) (sA Y))⟩
   refine wyz Y (fL (bZ h24)) (go 5 ?_)
   by_cases h25:(0:Int)<((x.thn.length:Nat):Int)
   ·refine wcp true Y (mH h25) (go 3 ?_)
    exact ⟨Y,(aG Y (bZ (by unfold d8;rw [h24,decide_eq_false (show ¬x.thn.length=0 by omega)];rfl)) (sA Y))⟩
   refine wcp false Y (mI h25) (go 3 ?_)
   exact ⟨Y,(aG Y (bZ (by unfold d8;rw [h24,decide_eq_true (show x.thn.length=0 by omega)];rfl)) (sA Y))⟩
  refine gY Y (λh26=>?_) (λh26=>?_)
  ·refine go 2 ?_
   refine aM9 Y h26 ?_
   refine go 8 ?_
   exact bHe (s':=⟨bx,rw⟩) Y sb2 ⟨cX (by rw [bLr,h26];simp),Y⟩
  refine go 2 ?_
  rcases Bool.eq_false_or_eq_true (isI x) with h27|h27
  ·refine wyz Y (fL (bZ h27)) (go 19 ?_)
   rcases Bool.eq_false_or_eq_true (x.args.any λa=>!fY a) with h29|h29
   ·refine bK8 0 Y call167 Y (bMq (λa=>!fY a) x.args 168 #[] _ J call168 AJ) h29 (go 10 ?_)
    exact bHe (s':=⟨bx,rw⟩) Y sb2 ⟨cX (by rw [bLr,bO1 h29];simp),Y⟩
   refine bK8 0 Y call167 Y (bMq (λa=>!fY a) x.args 168 #[] _ J call168 AJ) h29 (go 8 ?_)
   rcases Bool.eq_false_or_eq_true (isB x) with h32|h32
   ·refine wyz Y (fL (bZ h32)) (go 5 ?_)
    refine wad Y ?_
    rcases Bool.eq_false_or_eq_true (bM (D+1) x.thn) with h33|h33
    ·refine bK8 0 Y call121 Y (ih1 _) h33 (go 4 ?_)
     by_cases h34:((x.els.length:Nat):Int)=0
     ·refine wcp true Y (eR h34) (go 13 ?_)
      exact bHe (s':=⟨bx,rw⟩) Y sb2 ⟨cX (by rw [bLr,h1,h5,h8,h11,h14,h17,h20,h23,h26,show d9 x=false by unfold d9;rw [h27];rfl,bMb h29,show e1 D x=true by unfold e1;rw [h32,h33,decide_eq_true (show x.els.length=0 by omega)];rfl];rfl),Y⟩
     refine wcp false Y (eD h34) (go 4 ?_)
     refine wad Y ?_
     rcases Bool.eq_false_or_eq_true (bM (D+1) x.els) with h35|h35
     ·refine bK8 0 Y call121 Y (ih2 _) h35 (go 7 ?_)
      exact bHe (s':=⟨bx,rw⟩) Y sb2 ⟨cX (by rw [bLr,h1,h5,h8,h11,h14,h17,h20,h23,h26,show d9 x=false by unfold d9;rw [h27];rfl,bMb h29,show e1 D x=true by unfold e1;rw [h32,h33,decide_eq_false (show ¬x.els.length=0 by omega),h35];rfl];rfl),Y⟩
     refine bK8 0 Y call121 Y (ih2 _) h35 (go 7 ?_)
     exact bHe (s':=⟨bx,rw⟩) Y sb2 ⟨cX (by rw [bLr,h1,h5,h8,h11,h14,h17,h20,h23,h26,show d9 x=false by unfold d9;rw [h27];rfl,bMb h29,show e1 D x=false by unfold e1;rw [h32,h33,decide_eq_false (show ¬x.els.length=0 by omega),h35];rfl];rfl),Y⟩
    refine bK8 0 Y call121 Y (ih1 _) h33 (go 18 ?_)
    exact bHe (s':=⟨bx,rw⟩) Y sb2 ⟨cX (by rw [bLr,h1,h5,h8,h11,h14,h17,h20,h23,h26,show d9 x=false by unfold d9;rw [h27];rfl,bMb h29,show e1 D x=false by unfold e1;rw [h32,h33];rfl];rfl),Y⟩
   refine wyz Y (fL (bZ h32)) (go 25 ?_)
   exact bHe (s':=⟨bx,rw⟩) Y sb2 ⟨cX (by rw [bLr,h1,h5,h8,h11,h14,h17,h20,h23,h26,show d9 x=false by unfold d9;rw [h27];rfl,bMb h29,show e1 D x=true by unfold e1;rw [h32];rfl];rfl),Y⟩
  refine wyz Y (fL (bZ h27)) (go 5 ?_)
  by_cases h36:(0:Int)<((x.els.length:Nat):Int)
  ·refine wcp true Y (mH h36) (go 13 ?_)
   exact bHe (s':=⟨bx,rw⟩) Y sb2 ⟨cX (by rw [bLr,show d9 x=true by unfold d9;rw [h27,decide_eq_false (show ¬x.els.length=0 by omega)];rfl];simp),Y⟩
  refine wcp false Y (mI h36) (go 13 ?_)
  rcases Bool.eq_false_or_eq_true (x.args.any λa=>!fY a) with h39|h39
  ·refine bK8 0 Y call167 Y (bMq (λa=>!fY a) x.args 168 #[] _ J call168 AJ) h39 (go 10 ?_)
   exact bHe (s':=⟨bx,rw⟩) Y sb2 ⟨cX (by rw [bLr,bO1 h39];simp),Y⟩
  refine bK8 0 Y call167 Y (bMq (λa=>!fY a) x.args 168 #[] _ J call168 AJ) h39 (go 8 ?_)
  rcases Bool.eq_false_or_eq_true (isB x) with h42|h42
  ·refine wyz Y (fL (bZ h42)) (go 5 ?_)
   refine wad Y ?_
   rcases Bool.eq_false_or_eq_true (bM (D+1) x.thn) with h43|h43
   ·refine bK8 0 Y call121 Y (ih1 _) h43 (go 4 ?_)
    refine wcp true Y (eR J) (go 13 ?_)
    exact bHe (s':=⟨bx,rw⟩) Y sb2 ⟨cX (by rw [bLr,h1,h5,h8,h11,h14,h17,h20,h23,h26,show d9 x=false by unfold d9;rw [h27,decide_eq_true (show x.els.length=0 by omega)];rfl,bMb h39,show e1 D x=true by unfold e1;rw [h42,h43,decide_eq_true (show x.els.length=0 by omega)];rfl];rfl),Y⟩
   refine bK8 0 Y call121 Y (ih1 _) h43 (go 18 ?_)
   exact bHe (s':=⟨bx,rw⟩) Y sb2 ⟨cX (by rw [bLr,h1,h5,h8,h11,h14,h17,h20,h23,h26,show d9 x=false by unfold d9;rw [h27,decide_eq_true (show x.els.length=0 by omega)];rfl,bMb h39,show e1 D x=false by unfold e1;rw [h42,h43];rfl];rfl),Y⟩
  refine wyz Y (fL (bZ h42)) (go 25 ?_)
  exact bHe (s':=⟨bx,rw⟩) Y sb2 ⟨cX (by rw [bLr,h1,h5,h8,h11,h14,h17,h20,h23,h26,show d9 x=false by unfold d9;rw [h27,decide_eq_true (show x.els.length=0 by omega)];rfl,bMb h39,show e1 D x=true by unfold e1;rw [h42];rfl];rfl),Y⟩
 refine wyz Y (fL (hy:=lF Y Y) (bZ (aKt h1))) (go 15 ?_)
 exact bHe (s':=⟨bx,rw⟩) Y sb2 ⟨cX (by rw [bLr,h1];simp),Y⟩
theorem bOq(D:Nat)(x:aJ)(d:Nat)(bx:List Box)(rw:List bA)(hst:∀s:Sto,aL prog 144 [bK5 (.agg (dG x)),nI D] [] s λt s'=>t=Cb (bK9 D x) /\ s'=s):aL prog 143 [bK5 (.agg (dG x)),pP d] [] ⟨⟨d,3,[nC D]⟩::bx,rw⟩ λt s'=>t=Cb (!bK9 D x) /\ s'=⟨⟨d,3,[nC D]⟩::bx,rw⟩:=by
 refine acX 8 func143 ?_
 refine go 10 λb1=>?_
 rcases Bool.eq_false_or_eq_true (bK9 D x) with h1|h1
 rotate_left
 all_goals
  refine bK8 0 Y call144 Y (hst _) h1 (go 5 ?_)
  exact ⟨.inr Y,_,⟨⟨d,3,[nC D]⟩::bx,rw⟩,aR Y (aF Y),aA (.cons _ (.refl _)) (.refl _),cX C5,Y⟩
theorem bM5(D:Nat)(l:List aJ)(hl:l.length <= 1000000000)(hst:D<24 -> ∀k (h:k<l.length) (s:Sto),aL prog 144 [bK5 (.agg (dG l[k])),nI D] [] s λt s'=>t=Cb (bK9 D l[k]) /\ s'=s)(s:Sto):aL prog 121 [bK5 (.c (Sq encS l)),nI D] [] s λt s'=>t=Cb (bM D l) /\ s'=s:=by
 obtain ⟨bx,rw⟩:=s
 refine acX 11 func121 ?_
 refine go 10 λb1=>?_
 by_cases h1:(24:Int) <= ((D:Nat):Int)
 ·refine wcp true Y (aMq h1) (go 10 ?_)
  exact bHe (s':=⟨bx,rw⟩) Y sb1 ⟨cX (by rw [bLq,decide_eq_false J];rfl),Y⟩
 refine wcp false Y (aMx h1) (go 8 ?_)
 refine wyz Y (bMs (vs:=[.pointer (some ⟨b1,0,none⟩)]) Y Y) ?_
 rcases Bool.eq_false_or_eq_true (l.any λx=>!bK9 D x) with h4|h4
 ·refine bK8 0 Y call142 Y (bN0 (λx=>!bK9 D x) l 143 #[.pointer (some ⟨b1,0,none⟩)] _ hl call143 ET) h4 (go 5 ?_)
  exact bHe (s':=⟨bx,rw⟩) Y sb1 ⟨cX (by rw [bLq,decide_eq_true J,bO1 h4];rfl),Y⟩
 refine bK8 0 Y call142 Y (bN0 (λx=>!bK9 D x) l 143 #[.pointer (some ⟨b1,0,none⟩)] _ hl call143 ET) h4 (go 5 ?_)
 exact bHe (s':=⟨bx,rw⟩) Y sb1 ⟨cX (by rw [bLq,decide_eq_true J,bMb h4];rfl),Y⟩
theorem bMw:∀(N D:Nat)(l:List aJ),wtS l <= N -> N <= 900000000 -> D <= 24 -> gC l -> ∀s:Sto,aL prog 121 [bK5 (.c (Sq encS l)),nI D] [] s λt s'=>t=Cb (bM D l) /\ s'=s
 |0,D,l,h,_,_,_,s=>bM5 D l Cy (λ_ k hk=>absurd (uZ l) J) s
 |N+1,D,l,h,hN,hD,hs,s=>bM5 D l Cy (λhd k hk s=>by
   have hw:=uF l k hk
   have h1:=hw
   rw [gD] at h1
   have hsk:=oS _ hs _ (getElem_mem hk)
   obtain ⟨-,-,-,-,hst,hsf⟩:=yW hsk
   exact bPf D l[k] hsk J J (λs=>bMw N (D+1) _ J J J hst s) (λs=>bMw N (D+1) _ J J J hsf s) s) s
theorem bPr(x:aS)(hx:x.name.size <= 4611686018427387904)(s:Sto):aL prog 120 [bK5 (.agg (cP x))] [] s λt s'=>t=Cb (!bQ x.name) /\ s'=s:=by
 obtain ⟨bx,rw⟩:=s
 refine acX 7 func120 ?_
 refine go 10 λb1=>?_
 rcases Bool.eq_false_or_eq_true (bQ x.name) with h1|h1
 rotate_left
 all_goals
  refine bK8 0 Y call117 Y (bLp x.name hx _) h1 (go 5 ?_)
  exact bHe (s':=⟨bx,rw⟩) Y sb1 ⟨cX C5,Y⟩
theorem bPw(f:bS)(hs:f.sane)(hw:f.wt <= 900000000)(s:Sto):aL prog 91 [bK5 (.agg (fV f))] [] s λt s'=>t=Cb (gW f) /\ s'=s:=by
 obtain ⟨bx,rw⟩:=s
 unfold bS.wt at hw
 refine acX 23 func91 ?_
 refine go 10 λb1=>?_
 rcases Bool.eq_false_or_eq_true (bQ f.name) with h1|h1
 ·refine bK8 0 Y call117 Y (bLp f.name hs.1 _) h1 (go 4 ?_)
  by_cases h2:((f.params.length:Nat):Int) <= 6
  ·refine wcp true Y (aPz h2) (go 4 ?_)
   rcases Bool.eq_false_or_eq_true (f.params.any λx=>!bQ x.name) with h3|h3
   ·refine bK8 0 Y call119 Y (bNh (λx=>!bQ x.name) f.params 120 #[] _ J call120 (λk hk=>bPr _ (hs.2.1 _ (getElem_mem _)) _)) h3 (go 11 ?_)
    exact bHe (s':=⟨bx,rw⟩) Y sb1 ⟨cX (by unfold gW;rw [bO1 (f:=λx:aS=>bQ x.name) h3,Bool.and_false]),Y⟩
   refine bK8 0 Y call119 Y (bNh (λx=>!bQ x.name) f.params 120 #[] _ J call120 (λk hk=>bPr _ (hs.2.1 _ (getElem_mem _)) _)) h3 (go 5 ?_)
   rcases Bool.eq_false_or_eq_true (bM 0 f.body) with h4|h4
   rotate_left
   all_goals
    refine bK8 0 Y call121 Y (bMw _ 0 f.body (Nat.le_refl _) J J hs.2.2 _) h4 (go 5 ?_)
    exact bHe (s':=⟨bx,rw⟩) Y sb1 ⟨cX (by unfold gW;rw [h1,decide_eq_true (show f.params.length <= 6 by omega),bMb (f:=λx:aS=>bQ x.name) h3,h4];rfl),Y⟩
  refine wcp false Y (aPx h2) (go 16 ?_)
  exact bHe (s':=⟨bx,rw⟩) Y sb1 ⟨cX (by unfold gW;rw [h1,decide_eq_false (show ¬f.params.length <= 6 by omega)];rfl),Y⟩
 refine bK8 0 Y call117 Y (bLp f.name hs.1 _) h1 (go 21 ?_)
 exact bHe (s':=⟨bx,rw⟩) Y sb1 ⟨cX (by unfold gW;rw [h1];rfl),Y⟩
theorem bPy(f:bS)(hs:f.sane)(hw:f.wt <= 900000000)(s:Sto):aL prog 90 [bK5 (.agg (fV f))] [] s λt s'=>t=Cb (!gW f) /\ s'=s:=by
 obtain ⟨bx,rw⟩:=s
 refine acX 6 func90 ?_
 refine go 9 λb1=>?_
 rcases Bool.eq_false_or_eq_true (gW f) with h1|h1
 rotate_left
 all_goals
  refine bK8 0 Y call91 Y (bPw f hs hw _) h1 (go 5 ?_)
  exact bHe (s':=⟨bx,rw⟩) Y sb1 ⟨cX C5,Y⟩
def bL1(p:cK):Bool:=decide (p.globals.length <= 16 /\ p.mutexes.length <= 12 /\ p.funcs.length <= 16) && p.globals.all gH && p.mutexes.all fS
theorem bN6{p:cK}(h:¬(p.globals.length <= 16 /\ p.mutexes.length <= 12 /\ p.funcs.length <= 16)):bL1 p=false:=by unfold bL1;rw [decide_eq_false h];rfl
theorem bR2{p:cK}(k:Nat)(h:k<p.globals.length)(hb:gH p.globals[k]=false):bL1 p=false:=by unfold bL1;rw [oA _ _ k h hb];simp
theorem bPu{p:cK}(k:Nat)(h:k<p.mutexes.length)(hb:fS p.mutexes[k]=false):bL1 p=false:=by unfold bL1;rw [oA _ _ k h hb];simp
theorem bP0(p:cK)(hs:p.sane)(hw:p.wt <= 100000000)(s:Sto):aL prog 88 [bK5 (.agg (jV p))] [] s λt s'=>t=Cb (bL1 p) /\ s'=s:=by
 obtain ⟨bx,rw⟩:=s
 have hw1:=hw
 unfold cK.wt at hw1
 have hfn:=aDr bS.wt (λx=>G6) p.funcs
 refine acX 71 func88 ?_
 refine go 12 λb1=>?_
 by_cases h1:(16:Int)<((p.globals.length:Nat):Int)
 ·refine wcp true Y (mH h1) (go 22 ?_)
  exact bHe (s':=⟨bx,rw⟩) Y sb1 ⟨cX (bN6 J),Y⟩
 refine wcp false Y (mI h1) (go 4 ?_)
 by_cases h3:(12:Int)<((p.mutexes.length:Nat):Int)
 ·refine wcp true Y (mH h3) (go 17 ?_)
  exact bHe (s':=⟨bx,rw⟩) Y sb1 ⟨cX (bN6 J),Y⟩
 refine wcp false Y (mI h3) (go 5 ?_)
 by_cases h5:(16:Int)<((p.funcs.length:Nat):Int)
 ·refine wcp true Y (mH h5) (go 11 ?_)
  exact bHe (s':=⟨bx,rw⟩) Y sb1 ⟨cX (bN6 J),Y⟩
 refine wcp false Y (mI h5) (go 16 ?_)
 refine lE (λk=>∀q (h:q<p.globals.length),q<k -> gH p.globals[q]=true) (p.globals.length) 26 (λk=>[(0,bK5 (.agg (jV p))),(1,pP b1),(24,.c (Sq dB p.globals)),(25,nI p.globals.length)]) Bh (sA Y) λk hk hvk=>?_
 replace hvk:∀q (h:q<p.globals.length),q<k -> gH p.globals[q]=true:=hvk
 try dsimp only
 refine go 2 ?_
 by_cases h8:((k:Nat):Int)<((p.globals.length:Nat):Int)
 ·refine wcp true Y (jZ h8) (go 10 ?_)
  refine wyz Y (bH dB dB p.globals nS (λ_=>Y) k Y Y Y Y J V runUnderlying23 sizeOf63) (go 7 λb2=>?_)
  have hgs:=hs.globals p.globals[k] (getElem_mem _)
  refine go 2 ?_
  rcases Bool.eq_false_or_eq_true (bQ p.globals[k].name) with h10|h10
  ·refine bK8 0 Y call117 Y (bLp p.globals[k].name hgs.2 _) h10 (go 4 ?_)
   by_cases h11:p.globals[k].init=-9223372036854775808
   ·refine wcp true Y (eR h11) (go 15 ?_)
    exact bHe (s':=⟨bx,rw⟩) Y sb2 ⟨cX (bR2 k J (by unfold gH;rw [h10,decide_eq_false J];rfl)),Y⟩
   refine wcp false Y (eD h11) (go 8 ?_)
   refine wad Y (go 2 ?_)
   exact ⟨J,(λq hq hlt2=>(Nat.lt_or_ge q k).elim (λh9=>hvk q hq h9) (λh9=>by have h8:k=q:=J;subst h8;exact (by unfold gH;rw [h10,decide_eq_true J];rfl))),cQf (h1:=(.cons _ (.refl _))) (h:=aG Y (gQ J) (sA Y)) (λb hb=>List.mem_cons_of_mem _ (hb))⟩
  refine bK8 0 Y call117 Y (bLp p.globals[k].name hgs.2 _) h10 (go 20 ?_)
  exact bHe (s':=⟨bx,rw⟩) Y sb2 ⟨cX (bR2 k J (by unfold gH;rw [h10];rfl)),Y⟩
 refine wcp false Y (jQ h8) (go 19 ?_)
 refine lE (λi=>∀q (h:q<p.mutexes.length),q<i -> fS p.mutexes[q]=true) (p.mutexes.length) 43 (λi=>[(0,bK5 (.agg (jV p))),(1,pP b1),(41,.c (Sq bT p.mutexes)),(42,nI p.mutexes.length)]) Bh (sA Y) λi hi hvi=>?_
 replace hvi:∀q (h:q<p.mutexes.length),q<i -> fS p.mutexes[q]=true:=hvi
 try dsimp only
 refine go 2 ?_
 by_cases h16:((i:Nat):Int)<((p.mutexes.length:Nat):Int)
 ·refine wcp true Y (jZ h16) (go 10 ?_)
  refine wyz Y (bH bT bT p.mutexes mZ (λ_=>Y) i Y Y Y Y J V runUnderlying24 sizeOf60) (go 7 λb3=>?_)
  have hms:=hs.mutexes p.mutexes[i] (getElem_mem _)
  refine go 2 ?_
  rcases Bool.eq_false_or_eq_true (bQ p.mutexes[i].name) with h18|h18
  ·refine bK8 0 Y call117 Y (bLp p.mutexes[i].name hms.2 _) h18 (go 4 ?_)
   by_cases h19:p.mutexes[i].size<0
   ·refine wcp true Y (jZ h19) (go 29 ?_)
    exact bHe (s':=⟨bx,rw⟩) Y sb2 ⟨cX (bPu i J A3),Y⟩
   refine wcp false Y (jQ h19) (go 4 ?_)
   by_cases h21:(64:Int)<p.mutexes[i].size
   ·refine wcp true Y (mH h21) (go 24 ?_)
    exact bHe (s':=⟨bx,rw⟩) Y sb2 ⟨cX (bPu i J A3),Y⟩
   refine wcp false Y (mI h21) (go 3 ?_)
   rcases Bool.eq_false_or_eq_true (p.mutexes[i].reentrant) with h23|h23
   ·refine wyz Y (fL (bZ h23)) (go 3 ?_)
    by_cases h24:(0:Int)<p.mutexes[i].size
    ·refine wcp true Y (mH h24) (go 16 ?_)
     exact bHe (s':=⟨bx,rw⟩) Y sb2 ⟨cX (bPu i J (by unfold fS;rw [h18,decide_eq_true (show 0 <= p.mutexes[i].size /\ p.mutexes[i].size <= 64 by omega),h23,decide_eq_true (show 0<p.mutexes[i].size by omega)];rfl)),Y⟩
    refine wcp false Y (mI h24) (go 9 ?_)
    refine wad Y (go 2 ?_)
    exact ⟨J,(λq hq hlt2=>(Nat.lt_or_ge q i).elim (λh9=>hvi q hq h9) (λh9=>by have h8:i=q:=J;subst h8;exact (by unfold fS;rw [h18,decide_eq_true (show 0 <= p.mutexes[i].size /\ p.mutexes[i].size <= 64 by omega),h23,decide_eq_false (show ¬0<p.mutexes[i].size by omega)];rfl))),cQf (h1:=(.cons _ (.refl _))) (h:=aG Y (gQ J) (sA Y)) (λb hb=>List.mem_cons_of_mem _ (hb))⟩
   refine wyz Y (fL (bZ h23)) (go 13 ?_)
   refine wad Y (go 2 ?_)
   exact ⟨J,(λq hq hlt2=>(Nat.lt_or_ge q i).elim (λh9=>hvi q hq h9) (λh9=>by have h8:i=q:=J;subst h8;exact (by unfold fS;rw [h18,decide_eq_true (show 0 <= p.mutexes[i].size /\ p.mutexes[i].size <= 64 by omega),h23];rfl))),cQf (h1:=(.cons _ (.refl _))) (h:=aG Y (gQ J) (sA Y)) (λb hb=>List.mem_cons_of_mem _ (hb))⟩
  refine bK8 0 Y call117 Y (bLp p.mutexes[i].name hms.2 _) h18 (go 34 ?_)
  exact bHe (s':=⟨bx,rw⟩) Y sb2 ⟨cX (bPu i J (by unfold fS;rw [h18];rfl)),Y⟩
 refine wcp false Y (jQ h16) (go 15 ?_)
 exact bHe (s':=⟨bx,rw⟩) Y sb1 ⟨cX (by unfold bL1;rw [decide_eq_true J,yD _ _ (λq hq=>hvk q hq J),yD _ _ (λq hq=>hvi q hq J)];rfl),Y⟩
end
end Go.Proofs.YtjgeihmhppadaaaGreatDoor
