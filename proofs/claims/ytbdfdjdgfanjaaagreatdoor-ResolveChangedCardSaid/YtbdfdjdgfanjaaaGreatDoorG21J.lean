import Derived.Test.YtbdfdjdgfanjaaaGreatDoorG20J
set_option linter.all false
set_option synthInstance.maxHeartbeats 1000000
set_option synthInstance.maxSize 1000000
set_option maxHeartbeats 1600000
set_option maxRecDepth 100000
namespace Go.Proofs.YtbdfdjdgfanjaaaGreatDoor
open Go.Proofs.Tryz
open List (length_append length_cons length_nil mem_append mem_cons not_mem_nil append_assoc getElem_mem take_of_length_le)
section
open Go.RowKit
theorem cJr(A B:List Box)(X:Nat)(p:cK)(l:List cFc)(loc n:Int)(q:ES)(c8 c9:AC)(rw:List bA)(r:cY)(s:Int)(hl:l.length <= 1000000000)(hok:cHo p l)(hN:cZ r.index <= 1000000000):aL prog 118 [pP X,.agg (encR r),Ci s] [X] ⟨A++⟨X,169,[Sq dB p.globals,Sq bT p.mutexes,Sq fV p.funcs,Sq cE9 l,Vi loc,Vi n,Vi q.2,nC q.1,c8,c9]⟩::B,rw⟩ λt s'=>t=.agg (cF7 (cG6 l r)) /\ s'=⟨A++⟨X,169,[Sq dB p.globals,Sq bT p.mutexes,Sq fV p.funcs,Sq cE9 l,Vi loc,Vi n,Vi ((cFg q (cGo p l r) s).2),Vi (((cFg q (cGo p l r) s).1:Nat):Int),c8,c9]⟩::B,rw⟩:=by
 have hix:∀k (h:k<r.index.length),r.index[k].nodes <= 1000000000:=λk h=>by have:=nM r.index k h;omega
 have hlen:=tN r.index
 refine acX 92 func118 ?_
 refine go 6 λb1 b2=>?_
 refine cG2 (λg:Nat=>(⟨92,[g,b2,b1,X],⟨⟨g,128,cE9 (cFb l r.name)⟩::⟨b2,67,[Vb false,Vi 0,Nl]⟩::⟨b1,135,encR r⟩::A++⟨X,169,[Sq dB p.globals,Sq bT p.mutexes,Sq fV p.funcs,Sq cE9 l,Vi loc,Vi n,Vi q.2,nC q.1,c8,c9]⟩::B,rw⟩,[(7,pP g),(8,Cb ((cFa l r.name).isSome)),(0,pP X),(2,Ci s),(4,pP b1),(6,pP b2)]⟩:AS)) ?_ ?_
 ·refine dx [b2,b1,X] (tz [(0,true),(1,true),(2,true),(3,true),(4,true),(5,true)] 7 (go 7 ?_))
  refine t2 6 10 Y ?_ ?_
  ·refine (bV call57 (cGx l r.name J _) ?_)
   rintro _ _ ⟨rfl,rfl⟩
   refine tz [(7,true),(8,true),(9,true),(10,false),(11,false),(12,true)] 0 (go 7 λb3=>?_)
   refine ax ?_
   exact ⟨b3,Gn⟩
  refine (jK Y Y V zeroValue128 Y λb4=>?_)
  refine ox 6 Y Y (bV call57 (cGx l r.name J _) ?_)
  rintro _ _ ⟨rfl,rfl⟩
  refine tz [(7,true),(8,true),(9,true),(11,false),(12,true)] 0 (go 6 ?_)
  refine ax ?_
  exact ⟨b4,Gn⟩
 intro b5
 try dsimp only
 refine go 4 ?_
 refine wyz Y (bO (decide ((cFb l r.name).kind=5)) Y Y Y cLh) (go 7 λb6=>?_)
 refine cG2 (λg:Unit=>(⟨92,[b6,b5,b2,b1,X],⟨⟨b6,67,[Vb (decide ((cFb l r.name).kind=5)),Vi (((cFb l r.name).n:Nat):Int),Nl]⟩::⟨b5,128,cE9 (cFb l r.name)⟩::⟨b2,67,[Vb false,Vi 0,Nl]⟩::⟨b1,135,encR r⟩::A++⟨X,169,[Sq dB p.globals,Sq bT p.mutexes,Sq fV p.funcs,Sq cE9 l,Vi loc,Vi n,Vi ((cFg q (cG3 p r.index.length (cFa l r.name)) s).2),Vi (((cFg q (cG3 p r.index.length (cFa l r.name)) s).1:Nat):Int),c8,c9]⟩::B,rw⟩,[(0,pP X),(2,Ci s),(4,pP b1),(6,pP b2),(7,pP b5),(9,pP b6)]⟩:AS)) ?_ ?_
 ·refine go 4 ?_
  rcases Bool.eq_false_or_eq_true ((cFa l r.name).isSome) with h1|h1
  ·refine wyz Y (fL (bZ (aKs h1)) (lF Y Y)) (go 8 ?_)
   by_cases h3:(cFb l r.name).kind=2
   ·refine wcp false Y (xG h3) (go 10 ?_)
    refine dx [b6,b5,b2,b1,X] (tz [(0,true),(1,true)] 15 (go 3 ?_))
    refine tx 2 Y (bO true Y Y Y (eR h3)) (tz [(3,true),(4,true),(5,true),(6,true),(7,true),(8,true),(9,true),(10,true)] 6 (go 9 ?_))
    have hms:(cFb l r.name).n<p.mutexes.length:=hok.ms _ _ (cFt h1) J
    refine tx 11 Y (bH bT bT p.mutexes mZ (λ_=>Y) ((cFb l r.name).n) Y Y Y Y hms V runUnderlying24 sizeOf77) (tz [(12,true),(13,true)] 3 (go 3 ?_))
    by_cases h5:(0:Int)<p.mutexes[(cFb l r.name).n].size
    ·refine tx 14 Y (bO true Y Y Y (mH h5)) (tz [(15,true),(16,true)] 0 (go 3 ?_))
     refine ax (go 7 ?_)
     by_cases h6:(0:Int)<((r.index.length:Nat):Int)
     ·refine wcp true Y (mH h6) ?_
      refine wyz Y (aJ8 false Y Y Y runUnderlying4 Y) (go 5 ?_)
      have h8:(cFg q (cG3 p r.index.length (cFa l r.name)) s)=q:=by rw [cGf h1,if_pos J,cGz (hok.ms _ _ (cFt h1) J),decide_eq_true (show (cFb l r.name).kind=2 by omega),decide_eq_true (show 0<(p.mutexes[(cFb l r.name).n]'(hok.ms _ _ (cFt h1) J)).size by omega),decide_eq_true (show 0<r.index.length by omega)];exact cGg _ _
      exact ⟨(),by rw [h8];exact cQf (λb hb=>hb)⟩
     refine wcp false Y (mI h6) ?_
     refine wyz Y (aJ8 true Y Y Y runUnderlying4 Y) (go 6 ?_)
     refine wo Y (bD [X] call114 (cF3 (_::_::_::_::A) B X p l loc n q _ _ rw 8 s V) Gg FU Bd ?_)
     rintro _ _ ⟨rfl,rfl⟩
     refine go 2 ?_
     have h10:(cFg q (cG3 p r.index.length (cFa l r.name)) s)=(cFg q 8 s):=by rw [cGf h1,if_pos J,cGz (hok.ms _ _ (cFt h1) J),decide_eq_true (show (cFb l r.name).kind=2 by omega),decide_eq_true (show 0<(p.mutexes[(cFb l r.name).n]'(hok.ms _ _ (cFt h1) J)).size by omega),decide_eq_false (show ¬0<r.index.length by omega)];exact rfl
     exact ⟨(),by rw [h10];exact cQf (λb hb=>hb)⟩
    refine tx 14 Y (bO false Y Y Y (mI h5)) (tz [(15,true),(16,true)] 0 (go 3 ?_))
    refine ax (go 7 ?_)
    by_cases h11:(0:Int)<((r.index.length:Nat):Int)
    ·refine wcp true Y (mH h11) ?_
     refine wyz Y (aJ8 true Y Y Y runUnderlying4 Y) (go 6 ?_)
     refine wo Y (bD [X] call114 (cF3 (_::_::_::_::A) B X p l loc n q _ _ rw 8 s V) Gg FU Bd ?_)
     rintro _ _ ⟨rfl,rfl⟩
     refine go 2 ?_
     have h13:(cFg q (cG3 p r.index.length (cFa l r.name)) s)=(cFg q 8 s):=by rw [cGf h1,if_pos J,cGz (hok.ms _ _ (cFt h1) J),decide_eq_true (show (cFb l r.name).kind=2 by omega),decide_eq_false (show ¬0<(p.mutexes[(cFb l r.name).n]'(hok.ms _ _ (cFt h1) J)).size by omega),decide_eq_true (show 0<r.index.length by omega)];exact rfl
     exact ⟨(),by rw [h13];exact cQf (λb hb=>hb)⟩
    refine wcp false Y (mI h11) ?_
    refine wyz Y (aJ8 false Y Y Y runUnderlying4 Y) (go 5 ?_)
    have h15:(cFg q (cG3 p r.index.length (cFa l r.name)) s)=q:=by rw [cGf h1,if_pos J,cGz (hok.ms _ _ (cFt h1) J),decide_eq_true (show (cFb l r.name).kind=2 by omega),decide_eq_false (show ¬0<(p.mutexes[(cFb l r.name).n]'(hok.ms _ _ (cFt h1) J)).size by omega),decide_eq_false (show ¬0<r.index.length by omega)];exact cGg _ _
    exact ⟨(),by rw [h15];exact cQf (λb hb=>hb)⟩
   refine wcp true Y (xL h3) (go 3 ?_)
   by_cases h16:(cFb l r.name).kind=5
   ·refine wcp false Y (xG h16) (go 6 ?_)
    refine dx [b6,b5,b2,b1,X] (tz [(0,true),(1,true)] 15 (go 3 ?_))
    refine tx 2 Y (bO false Y Y Y (eD h3)) (tz [(3,true),(4,true),(5,true),(6,true),(7,true),(8,true),(9,true),(10,true),(11,true),(12,true),(13,true),(14,true),(15,true),(16,true)] 0 (go 15 ?_))
    refine ax (go 7 ?_)
    by_cases h18:(0:Int)<((r.index.length:Nat):Int)
    ·refine wcp true Y (mH h18) ?_
     refine wyz Y (aJ8 true Y Y Y runUnderlying4 Y) (go 6 ?_)
     refine wo Y (bD [X] call114 (cF3 (_::_::_::_::A) B X p l loc n q _ _ rw 8 s V) Gg FU Bd ?_)
     rintro _ _ ⟨rfl,rfl⟩
     refine go 2 ?_
     have h20:(cFg q (cG3 p r.index.length (cFa l r.name)) s)=(cFg q 8 s):=by rw [cGf h1,if_pos J,decide_eq_false (show ¬(cFb l r.name).kind=2 by omega),Bool.false_and,decide_eq_true (show 0<r.index.length by omega)];exact rfl
     exact ⟨(),by rw [h20];exact cQf (λb hb=>hb)⟩
    refine wcp false Y (mI h18) ?_
    refine wyz Y (aJ8 false Y Y Y runUnderlying4 Y) (go 5 ?_)
    have h22:(cFg q (cG3 p r.index.length (cFa l r.name)) s)=q:=by rw [cGf h1,if_pos J,decide_eq_false (show ¬(cFb l r.name).kind=2 by omega),Bool.false_and,decide_eq_false (show ¬0<r.index.length by omega)];exact cGg _ _
    exact ⟨(),by rw [h22];exact cQf (λb hb=>hb)⟩
   refine wcp true Y (xL h16) (go 8 ?_)
   refine wo Y (bD [X] call114 (cF3 (_::_::_::_::A) B X p l loc n q _ _ rw 8 s V) Gg FU Bd ?_)
   rintro _ _ ⟨rfl,rfl⟩
   refine go 2 ?_
   have h24:(cFg q (cG3 p r.index.length (cFa l r.name)) s)=(cFg q 8 s):=by rw [cGf h1,if_neg J]
   exact ⟨(),by rw [h24];exact cQf (λb hb=>hb)⟩
  refine wyz Y (fL (bZ (aKt h1)) (lF Y Y)) (go 7 ?_)
  refine wo Y (bD [X] call114 (cF3 (_::_::_::_::A) B X p l loc n q _ _ rw 6 s V) Gg FU Bd ?_)
  rintro _ _ ⟨rfl,rfl⟩
  refine go 2 ?_
  have h26:(cFg q (cG3 p r.index.length (cFa l r.name)) s)=(cFg q 6 s):=by rw [cJ8 h1]
  exact ⟨(),by rw [h26];exact cQf (λb hb=>hb)⟩
 rintro ⟨⟩
 try dsimp only
 refine go 7 ?_
 refine qR 65 4 ?_
 refine bMj (α:=Value×ES) (λk g=>g.2=cFg (cFg q (cG3 p r.index.length (cFa l r.name)) s) (cFq l (r.index.take k)) s) (r.index.length) 11 (λg=>aY g.1++[b6,b5,b2,b1,X]) (λk g=>⟨⟨b6,67,[Vb (decide ((cFb l r.name).kind=5)),Vi (((cFb l r.name).n:Nat):Int),.val g.1]⟩::⟨b5,128,cE9 (cFb l r.name)⟩::⟨b2,67,[Vb false,Vi 0,Nl]⟩::⟨b1,135,encR r⟩::A++⟨X,169,[Sq dB p.globals,Sq bT p.mutexes,Sq fV p.funcs,Sq cE9 l,Vi loc,Vi n,Vi g.2.2,nC g.2.1,c8,c9]⟩::B,⟨g.1,65,4,k,((r.index.take k).map (cFk l)).flatMap fO⟩::rw⟩) (λ_=>[(0,pP X),(2,Ci s),(4,pP b1),(6,pP b2),(9,pP b6)]) (.slice none 0 0,(cFg q (cG3 p r.index.length (cFa l r.name)) s)) (by rw [List.take_zero,cFq,cGg]) (cQf BU) ?_
 rintro k ⟨v,qq⟩ hk hvk
 replace hvk:qq=cFg (cFg q (cG3 p r.index.length (cFa l r.name)) s) (cFq l (r.index.take k)) s:=hvk
 try dsimp only
 refine go 7 ?_
 by_cases h27:((k:Nat):Int)<((r.index.length:Nat):Int)
 ·refine wcp true Y (jZ h27) (go 7 ?_)
  refine bTy 12 [b6,b5,b2,b1] [] #[true,true,true,true,true,true,true,true,true,true,true,true,false,false] B6 B6 B6 ?_
  refine tz [(0,true),(1,true),(2,true),(3,true),(4,true),(5,true)] 6 (go 7 ?_)
  refine tx 6 Y (bH fO cU r.index iU fP k Y Y Y Y J V runUnderlying63 sizeOf65) (tz [(7,true),(8,true)] 3 (go 3 ?_))
  refine ox 9 Y Y (bD [X] call115 (cI5 (_::_::_::_::A) B X p l loc n qq _ _ (_::rw) r.index[k] s hl (hix k J)) Gg FU (by intro h b hb;simp at hb;subst hb;exact kH.2 ⟨C4,λhh=>by simp only [mem_cons,not_mem_nil,or_false] at hh;rcases hh with rfl|rfl|rfl|rfl<;>simp [Sto.bl] at h⟩) ?_)
  rintro _ _ ⟨rfl,rfl⟩
  refine ox 10 Y Y (bDk (hf:=aV fO cU (cFk l r.index[k]) (fP _) Y Y) bHf ?_)
  refine ox 11 Y Y (bDm [] cLu Y (aFz fO 4 iU _) V B1 J (N:=k+1) Y (λhn b hb=>qM (r:=(⟨v,65,4,k,((r.index.take k).map (cFk l)).flatMap fO⟩:bA)) hn hb) cFh.h (r:=((r.index.take (k+1)).map (cFk l)).flatMap fO) (cHm (cFk l) fO r.index k J) λw7=>?_)
  refine ax ?_
  refine id ?_
  refine tz [(12,true),(13,false)] 0 (go 3 ?_)
  refine ax (go 4 ?_)
  refine wad Y (go 2 ?_)
  exact ⟨J,(w7,(cFg qq (cFf l r.index[k]) s)),(by rw [hvk];exact cH5 l r.index k J (cFg q (cG3 p r.index.length (cFa l r.name)) s) s),cQf (h:=aG Y (gQ J) (sA Y)) BP⟩
 refine wcp false Y (jQ h27) (go 10 ?_)
 obtain rfl:k=r.index.length:=J
 rw [List.take_length]
 refine aAg (cs':=[Vb (decide ((cFb l r.name).kind=5)),Vi (((cFb l r.name).n:Nat):Int),.sl r.index.length ((r.index.map (cFk l)).flatMap fO)]) [] 2 Y Y ?_
 show eQ prog _ _ ⟨_,_,⟨⟨b6,67,[Vb (decide ((cFb l r.name).kind=5)),Vi (((cFb l r.name).n:Nat):Int),.sl r.index.length ((r.index.map (cFk l)).flatMap fO)]⟩::⟨b5,128,cE9 (cFb l r.name)⟩::⟨b2,67,[Vb false,Vi 0,Nl]⟩::⟨b1,135,encR r⟩::A++⟨X,169,[Sq dB p.globals,Sq bT p.mutexes,Sq fV p.funcs,Sq cE9 l,Vi loc,Vi n,Vi qq.2,nC qq.1,c8,c9]⟩::B,rw⟩,_⟩ _
 refine go 5 ?_
 exact ⟨.inr Y,_,⟨A++⟨X,169,[Sq dB p.globals,Sq bT p.mutexes,Sq fV p.funcs,Sq cE9 l,Vi loc,Vi n,Vi qq.2,nC qq.1,c8,c9]⟩::B,rw⟩,aR Y (aO [_,_] Y Y isAgg67 sizeOf67 (bK Y Y)),aA (.cons _ (.cons _ (.cons _ (.cons _ (.refl _))))) (.refl _),by unfold cG6 cF7;dsimp only;first|rw [List.length_map]|(unfold Sq;rw [List.length_map]),by unfold cGo;rw [←cGi,hvk,List.take_length]⟩
theorem cK2(a:Nat):cFj a 0=a:=by unfold cFj;split<;>simp_all
theorem cHv(p:cK)(l:List cFc)(x:List aS):cF8 p l [] x=0:=by cases x<;>simp [cF8]
theorem cI3(x:List aS):cGb [] x=[]:=by cases x<;>simp [cGb]
theorem cHw:∀(a:List eN)(x:List aS)(a':List eN)(x':List aS),a.length=x.length -> cGb a x=a -> cGb (a++a') (x++x')=a++cGb a' x'
 |[],[],_,_,_,_=>rfl
 |[],_::_,_,_,h,_=>DU
 |_::_,[],_,_,h,_=>DU
 |a::r,x::xs,a',x',h,hn=>by
  rw [cGb] at hn
  rw [List.cons_append,List.cons_append,cGb]
  by_cases hm:a.mutex=x.mutex
  ·rw [if_pos hm] at hn⊢
   rw [cHw r xs a' x' Er (List.cons.inj hn).2];rfl
  rw [if_neg hm] at hn;cases hn
theorem cHx(p:cK)(l:List cFc):∀(a:List eN)(x:List aS)(a':List eN)(x':List aS),a.length=x.length -> cGb a x=a -> cF8 p l (a++a') (x++x')=cFj (cF8 p l a x) (cF8 p l a' x')
 |[],[],a',x',_,_=>by rw [List.nil_append,List.nil_append,cHv,cJ1]
 |[],_::_,_,_,h,_=>DU
 |_::_,[],_,_,h,_=>DU
 |a::r,x::xs,a',x',h,hn=>by
  rw [cGb] at hn
  rw [List.cons_append,List.cons_append,cF8,cF8]
  by_cases hm:a.mutex=x.mutex
  ·rw [if_pos hm] at hn⊢
   rw [if_pos hm,cHx p l r xs a' x' Er (List.cons.inj hn).2,cH6]
  rw [if_neg hm] at hn;cases hn
section
variable {p:cK}{l:List cFc}{al:List eN}{xs:List aS}{k:Nat}(hl:xs.length=al.length)(hk:k<xs.length)(hn:cGb (al.take k) (xs.take k)=al.take k)
include hl hk hn
theorem cJk(hm:al[k].mutex=xs[k].mutex):cGb (al.take (k+1)) (xs.take (k+1))=al.take (k+1) /\ cF8 p l (al.take (k+1)) (xs.take (k+1))=cFj (cF8 p l (al.take k) (xs.take k)) (cJh p l al[k]):=by
 have h1:(al.take k).length=(xs.take k).length:=EV
 rw [List.take_succ_eq_append_getElem (J:k<al.length),List.take_succ_eq_append_getElem hk,cHw _ _ _ _ h1 hn,cHx p l _ _ _ _ h1 hn]
 refine ⟨by rw [cGb,if_pos hm,cI3],?_⟩
 rw [cF8,if_pos hm,cHv,cK2]
theorem cJz(hm:¬al[k].mutex=xs[k].mutex):cGb al xs=al.take k /\ cF8 p l al xs=cFj (cF8 p l (al.take k) (xs.take k)) 8:=by
 have h1:(al.take k).length=(xs.take k).length:=EV
 have e1:al=al.take k++al[k]::al.drop (k+1):=by rw [←List.drop_eq_getElem_cons J];exact (List.take_append_drop k al).symm
 have e2:xs=xs.take k++xs[k]::xs.drop (k+1):=by rw [←List.drop_eq_getElem_cons hk];exact (List.take_append_drop k xs).symm
 have a1:=cHw (al.take k) (xs.take k) (al[k]::al.drop (k+1)) (xs[k]::xs.drop (k+1)) h1 hn
 have a2:=cHx p l (al.take k) (xs.take k) (al[k]::al.drop (k+1)) (xs[k]::xs.drop (k+1)) h1 hn
 rw [←e1,←e2] at a1 a2
 rw [a1,a2,cGb,if_neg hm,cF8,if_neg hm,List.append_nil]
 exact ⟨Y,Y⟩
end
theorem cLq{l:List cFc}{al:List eN}{k:Nat}(h:k<al.length)(hm:al[k].mutex=true):cFn l (al.take (k+1))=cFn l (al.take k) /\ cF4 l (al.take (k+1))=cF4 l (al.take k)++[cG6 l al[k].ref]:=by
 unfold cFn cF4
 rw [List.take_succ_eq_append_getElem h]
 simp only [List.filter_append,List.map_append,List.filter_cons,List.filter_nil,hm];simp
theorem cLr{l:List cFc}{al:List eN}{k:Nat}(h:k<al.length)(hm:al[k].mutex=false):cF4 l (al.take (k+1))=cF4 l (al.take k) /\ cFn l (al.take (k+1))=cFn l (al.take k)++[cFk l al[k].expr]:=by
 unfold cFn cF4
 rw [List.take_succ_eq_append_getElem h]
 simp only [List.filter_append,List.map_append,List.filter_cons,List.filter_nil,hm];simp
theorem cK5(l:List cFc)(al:List eN):(cFn l al).length <= al.length /\ (cF4 l al).length <= al.length:=by
 unfold cFn cF4;rw [List.length_map,List.length_map];exact ⟨List.length_filter_le _ _,List.length_filter_le _ _⟩
theorem cJn{p:cK}{l:List cFc}{al:List eN}{x:ByteArray}{op:Int}(h:(cFa l x).isSome=false):cHb p l al (cFa l x)=6 /\ cG9 p l al op (cFa l x)=⟨op,0,false,.zero,plZ,[],[]⟩:=by
 rcases h2:cFa l x with _|v
 ·exact ⟨Y,Y⟩
 rw [h2] at h;cases h
theorem cJs{p:cK}{l:List cFc}{al:List eN}{x:ByteArray}{op:Int}(h:(cFa l x).isSome=true)(hk:¬(cFb l x).kind=3):cHb p l al (cFa l x)=8 /\ cG9 p l al op (cFa l x)=⟨op,0,false,.zero,plZ,[],[]⟩:=by
 rw [cFt h];exact ⟨if_neg hk,if_neg hk⟩
theorem cJ6{p:cK}{l:List cFc}{al:List eN}{x:ByteArray}{op:Int}(h:(cFa l x).isSome=true)(hk:(cFb l x).kind=3)(hl:¬(cGc p (cFb l x).n).length=al.length):cHb p l al (cFa l x)=7 /\ cG9 p l al op (cFa l x)=⟨op,(cFb l x).n,false,.zero,plZ,[],[]⟩:=by
 rw [cFt h];exact ⟨(if_pos hk).trans (if_neg hl),(if_pos hk).trans (if_neg hl)⟩
theorem cIv{p:cK}{l:List cFc}{al:List eN}{x:ByteArray}{op:Int}(h:(cFa l x).isSome=true)(hk:(cFb l x).kind=3)(hl:(cGc p (cFb l x).n).length=al.length):cHb p l al (cFa l x)=cF8 p l al (cGc p (cFb l x).n) /\ cG9 p l al op (cFa l x)=⟨op,(cFb l x).n,false,.zero,plZ,cFn l (cGb al (cGc p (cFb l x).n)),cF4 l (cGb al (cGc p (cFb l x).n))⟩:=by
 rw [cFt h];exact ⟨(if_pos hk).trans (if_pos hl),(if_pos hk).trans (if_pos hl)⟩
theorem cJ5(A B:List Box)(X:Nat)(p:cK)(l:List cFc)(loc n:Int)(q:ES)(c8 c9:AC)(rw:List bA)(y:aJ)(s:Int)(hl:l.length <= 1000000000)(hok:cHo p l)(hw:y.wt <= 900000000):aL prog 117 [pP X,.agg (dG y),Ci s] [X] ⟨A++⟨X,169,[Sq dB p.globals,Sq bT p.mutexes,Sq fV p.funcs,Sq cE9 l,Vi loc,Vi n,Vi q.2,nC q.1,c8,c9]⟩::B,rw⟩ λt s'=>t=.agg (encI (cGn p l y)) /\ s'=⟨A++⟨X,169,[Sq dB p.globals,Sq bT p.mutexes,Sq fV p.funcs,Sq cE9 l,Vi loc,Vi n,Vi ((cFg q (cFy p l y) s).2),Vi (((cFg q (cFy p l y) s).1:Nat):Int),c8,c9]⟩::B,rw⟩:=by
 have hwp:=gD y
 have hal:=aCj y.args
 have hak:∀k (h:k<y.args.length),y.args[k].expr.nodes <= 900000000 /\ cZ y.args[k].ref.index <= 900000000:=λk h=>by have h1:=aDf y.args k h;unfold eN.wt cY.wt at h1;omega
 refine acX 112 func117 ?_
 refine go 13 λb1 b2 b3=>?_
 refine cG2 (λg:Unit=>(⟨112,[b3,b2,b1,X],⟨⟨b3,70,[Vi (if y.kind=4 then 3 else 2),Vi 0,Vb false,Vi 0,Vi 0,Vs aK,Nl,Vb false,Vi 0,Nl,Nl,Nl]⟩::⟨b2,70,[Vi 0,Vi 0,Vb false,Vi 0,Vi 0,Vs aK,Nl,Vb false,Vi 0,Nl,Nl,Nl]⟩::⟨b1,138,dG y⟩::A++⟨X,169,[Sq dB p.globals,Sq bT p.mutexes,Sq fV p.funcs,Sq cE9 l,Vi loc,Vi n,Vi q.2,nC q.1,c8,c9]⟩::B,rw⟩,[(0,pP X),(2,Ci s),(4,pP b1),(6,pP b2),(7,pP b3)]⟩:AS)) ?_ ?_
 ·refine go 4 ?_
  by_cases h1:y.kind=4
  ·refine wcp true Y (eR h1) (go 7 ?_)
   have h3:(if y.kind=4 then (3:Int) else 2)=3:=if_pos J
   exact ⟨(),by rw [h3];exact cQf (λb hb=>hb)⟩
  refine wcp false Y (eD h1) (go 4 ?_)
  have h5:(if y.kind=4 then (3:Int) else 2)=2:=if_neg J
  exact ⟨(),by rw [h5];exact cQf (λb hb=>hb)⟩
 rintro ⟨⟩
 try dsimp only
 refine cG2 (λg:Nat=>(⟨112,[g,b3,b2,b1,X],⟨⟨g,128,cE9 (cFb l y.name)⟩::⟨b3,70,[Vi (if y.kind=4 then 3 else 2),Vi 0,Vb false,Vi 0,Vi 0,Vs aK,Nl,Vb false,Vi 0,Nl,Nl,Nl]⟩::⟨b2,70,[Vi 0,Vi 0,Vb false,Vi 0,Vi 0,Vs aK,Nl,Vb false,Vi 0,Nl,Nl,Nl]⟩::⟨b1,138,dG y⟩::A++⟨X,169,[Sq dB p.globals,Sq bT p.mutexes,Sq fV p.funcs,Sq cE9 l,Vi loc,Vi n,Vi q.2,nC q.1,c8,c9]⟩::B,rw⟩,[(8,pP g),(9,Cb ((cFa l y.name).isSome)),(0,pP X),(2,Ci s),(4,pP b1),(6,pP b2),(7,pP b3)]⟩:AS)) ?_ ?_
 ·refine dx [b3,b2,b1,X] (tz [(0,true),(1,true),(2,true),(3,true),(4,true),(5,true)] 7 (go 7 ?_))
  refine t2 6 10 Y ?_ ?_
  ·refine (bV call57 (cGx l y.name J _) ?_)
   rintro _ _ ⟨rfl,rfl⟩
   refine tz [(7,true),(8,true),(9,true),(10,false),(11,false),(12,true)] 0 (go 7 λb4=>?_)
   refine ax ?_
   exact ⟨b4,Gn⟩
  refine (jK Y Y V zeroValue128 Y λb5=>?_)
  refine ox 6 Y Y (bV call57 (cGx l y.name J _) ?_)
  rintro _ _ ⟨rfl,rfl⟩
  refine tz [(7,true),(8,true),(9,true),(11,false),(12,true)] 0 (go 6 ?_)
  refine ax ?_
  exact ⟨b5,Gn⟩
 intro b6
 try dsimp only
 refine go 5 ?_
 rcases Bool.eq_false_or_eq_true ((cFa l y.name).isSome) with h6|h6
 ·refine wyz Y (fL (bZ (aKs h6)) (lF Y Y)) (go 8 ?_)
  by_cases h8:(cFb l y.name).kind=3
  ·refine wcp false Y (xG h8) (go 16 ?_)
   refine dx [b6,b3,b2,b1,X] ?_
   have hms:(cFb l y.name).n<p.funcs.length:=hok.fs _ _ (cFt Dp) J
   refine tz [(0,true),(1,true),(2,true),(3,true),(4,true),(5,true),(6,true)] 4 (go 8 ?_)
   refine tx 7 Y (bH fV fV p.funcs vC (λ_=>Y) ((cFb l y.name).n) Y Y Y Y hms V runUnderlying25 sizeOf62) (tz [(8,true),(9,true),(10,true)] 0 (go 4 ?_))
   refine ax (go 4 ?_)
   have hpa:cGc p (cFb l y.name).n=p.funcs[(cFb l y.name).n].params:=cHc hms
   generalize p.funcs[(cFb l y.name).n].params=ps at hpa⊢
   refine go 5 ?_
   by_cases h10:((ps.length:Nat):Int)=((y.args.length:Nat):Int)
   ·refine wcp false Y (xG h10) (go 8 ?_)
    have hlen:ps.length=y.args.length:=J
    refine go 4 ?_
    refine qR 67 3 ?_
    refine qR 65 4 ?_
    refine bMj (α:=Value×Value×ES) (λk g=>g.2.2=cFg q (cF8 p l (y.args.take k) (ps.take k)) s /\ cGb (y.args.take k) (ps.take k)=y.args.take k) (ps.length) 11 (λg=>aY g.1++(aY g.2.1++[b6,b3,b2,b1,X])) (λk g=>⟨⟨b6,128,cE9 (cFb l y.name)⟩::⟨b3,70,[Vi (if y.kind=4 then 3 else 2),Vi (((cFb l y.name).n:Nat):Int),Vb false,Vi 0,Vi 0,Vs aK,Nl,Vb false,Vi 0,Nl,.val g.1,.val g.2.1]⟩::⟨b2,70,[Vi 0,Vi 0,Vb false,Vi 0,Vi 0,Vs aK,Nl,Vb false,Vi 0,Nl,Nl,Nl]⟩::⟨b1,138,dG y⟩::A++⟨X,169,[Sq dB p.globals,Sq bT p.mutexes,Sq fV p.funcs,Sq cE9 l,Vi loc,Vi n,Vi g.2.2.2,nC g.2.2.1,c8,c9]⟩::B,⟨g.1,65,4,(cFn l (y.args.take k)).length,(cFn l (y.args.take k)).flatMap fO⟩::⟨g.2.1,67,3,(cF4 l (y.args.take k)).length,(cF4 l (y.args.take k)).flatMap cF7⟩::rw⟩) (λ_=>[(0,pP X),(2,Ci s),(4,pP b1),(6,pP b2),(7,pP b3),(10,.c (Sq cP ps))]) (.slice none 0 0,.slice none 0 0,q) ⟨by rw [List.take_zero,List.take_zero,cHv,cGg],by rw [List.take_zero,List.take_zero,cI3]⟩ (cQf BU) ?_
    rintro k ⟨vi,vp,qq⟩ hk ⟨hvk,hnk⟩
    dsimp only at hvk hnk
    have hik:=cK5 l (y.args.take k)
    rw [List.length_take] at hik
    have hik2:min k y.args.length <= k:=Nat.min_le_left _ _
    try dsimp only
    refine go 6 ?_
    by_cases h12:((k:Nat):Int)<((ps.length:Nat):Int)
    ·refine wcp true Y (jZ h12) (go 12 ?_)
     refine wyz Y (bH eJ eJ y.args iD (λ_=>Y) k Y Y Y Y J V runUnderlying136 sizeOf151) (go 7 λb7=>?_)
     refine dx [b7,b6,b3,b2,b1,X] (tz [(0,true)] 7 (go 2 ?_))
     rcases Bool.eq_false_or_eq_true (y.args[k].mutex) with h14|h14
     ·refine tx 1 Y (fL (bZ h14) (aX (hU:=λ_ h=>(kH.1 h).2 G0) [] isAgg4 sizeOf4)) (tz [(2,true),(3,true)] 4 (go 3 ?_))
      refine tx 4 Y (bH cP cP ps gL (λ_=>Y) k Y Y Y Y J V runUnderlying59 sizeOf79) (tz [(5,true)] 2 (go 2 ?_))
      rcases Bool.eq_false_or_eq_true (ps[k].mutex) with h15|h15
      ·refine tx 6 Y (fL (bZ h15) (iP Y Y isAgg4 sizeOf4 Y)) ?_
       refine tx 7 Y (aJ8 false Y Y Y runUnderlying4 Y) ?_
       refine ax (go 7 ?_)
       refine wyz Y (fL (bZ h14) (aX [] isAgg4 sizeOf4)) (go 3 ?_)
       refine bTy 9 [b7,b6,b3,b2,b1] [] #[true,true,true,true,true,true,true,true,true,false,false] B6 B6 B6 ?_
       refine tz [(0,true),(1,true),(2,true),(3,true),(4,true),(5,true)] 3 (go 7 ?_)
       refine ox 6 Y Y (bD [X] call118 (cJr (_::_::_::_::_::A) B X p l loc n qq _ _ (_::_::rw) y.args[k].ref s hl hok De) Gg FU Am ?_)
       rintro _ _ ⟨rfl,rfl⟩
       refine ox 7 Y Y (wbs Tryz.t67 [Vb false,Vi 0,Nl] Y Y V (.cons Y .nil) underlying68 B6 Y V V B6 B6 (aV cF7 cF7 (cG6 l y.args[k].ref) Y Y Y) ?_)
       refine ox 8 Y Y (bDm [_] cN0 Y (aFz cF7 3 cJ7 _) V Ez J (@length_append _ (cF4 l (y.args.take k)) [(cG6 l y.args[k].ref)]).symm (λhn b hb=>qM (r:=(⟨vp,67,3,(cF4 l (y.args.take k)).length,(cF4 l (y.args.take k)).flatMap cF7⟩:bA)) hn hb) cFh.h (List.flatMap_append (f:=cF7)).symm λw8=>?_)
       refine ax ?_
       refine id ?_
       refine tz [(9,true),(10,false)] 0 (go 3 ?_)
       refine ax (go 4 ?_)
       refine wad Y (go 2 ?_)
       obtain ⟨hy1,hy2⟩:=cJk (p:=p) (l:=l) (k:=k) hlen J hnk (h14.trans h15.symm)
       obtain ⟨he1,he2⟩:=cLq (l:=l) (k:=k) (al:=y.args) J h14
       exact ⟨J,(vi,w8,(cFg qq (cGo p l y.args[k].ref) s)),⟨EW,hy1⟩,FF⟩
      refine tx 6 Y (fL (bZ h15) (iP Y Y isAgg4 sizeOf4 Y)) ?_
      refine tx 7 Y (aJ8 true Y Y Y runUnderlying4 Y) ?_
      refine ax (go 6 ?_)
      refine wo Y (bD [X] call114 (cF3 (_::_::_::_::_::A) B X p l loc n qq _ _ (_::_::rw) 8 s V) Gg FU Bd ?_)
      rintro _ _ ⟨rfl,rfl⟩
      refine go 4 ?_
      refine aAg (cs':=[Vi (if y.kind=4 then 3 else 2),Vi (((cFb l y.name).n:Nat):Int),Vb false,Vi 0,Vi 0,Vs aK,Nl,Vb false,Vi 0,Nl,.sl (cFn l (y.args.take k)).length ((cFn l (y.args.take k)).flatMap fO),.val vp]) [_,_] 10 Y Y ?_
      show eQ prog _ _ ⟨_,_,⟨⟨b7,151,eJ y.args[k]⟩::⟨b6,128,cE9 (cFb l y.name)⟩::⟨b3,70,[Vi (if y.kind=4 then 3 else 2),Vi (((cFb l y.name).n:Nat):Int),Vb false,Vi 0,Vi 0,Vs aK,Nl,Vb false,Vi 0,Nl,.sl (cFn l (y.args.take k)).length ((cFn l (y.args.take k)).flatMap fO),.val vp]⟩::⟨b2,70,[Vi 0,Vi 0,Vb false,Vi 0,Vi 0,Vs aK,Nl,Vb false,Vi 0,Nl,Nl,Nl]⟩::⟨b1,138,dG y⟩::A++⟨X,169,[Sq dB p.globals,Sq bT p.mutexes,Sq fV p.funcs,Sq cE9 l,Vi loc,Vi n,Vi ((cFg qq 8 s).2),Vi (((cFg qq 8 s).1:Nat):Int),c8,c9]⟩::B,⟨vp,67,3,(cF4 l (y.args.take k)).length,(cF4 l (y.args.take k)).flatMap cF7⟩::rw⟩,_⟩ _
      refine aAg (cs':=[Vi (if y.kind=4 then 3 else 2),Vi (((cFb l y.name).n:Nat):Int),Vb false,Vi 0,Vi 0,Vs aK,Nl,Vb false,Vi 0,Nl,.sl (cFn l (y.args.take k)).length ((cFn l (y.args.take k)).flatMap fO),.sl (cF4 l (y.args.take k)).length ((cF4 l (y.args.take k)).flatMap cF7)]) [_,_] 11 Y Y ?_
      show eQ prog _ _ ⟨_,_,⟨⟨b7,151,eJ y.args[k]⟩::⟨b6,128,cE9 (cFb l y.name)⟩::⟨b3,70,[Vi (if y.kind=4 then 3 else 2),Vi (((cFb l y.name).n:Nat):Int),Vb false,Vi 0,Vi 0,Vs aK,Nl,Vb false,Vi 0,Nl,.sl (cFn l (y.args.take k)).length ((cFn l (y.args.take k)).flatMap fO),.sl (cF4 l (y.args.take k)).length ((cF4 l (y.args.take k)).flatMap cF7)]⟩::⟨b2,70,[Vi 0,Vi 0,Vb false,Vi 0,Vi 0,Vs aK,Nl,Vb false,Vi 0,Nl,Nl,Nl]⟩::⟨b1,138,dG y⟩::A++⟨X,169,[Sq dB p.globals,Sq bT p.mutexes,Sq fV p.funcs,Sq cE9 l,Vi loc,Vi n,Vi ((cFg qq 8 s).2),Vi (((cFg qq 8 s).1:Nat):Int),c8,c9]⟩::B,rw⟩,_⟩ _
      obtain ⟨hno1,hno2⟩:=cJz (p:=p) (l:=l) (k:=k) hlen J hnk (by rw [h14,h15];decide)
      refine go 11 ?_
      obtain ⟨hz1,hz2⟩:=((cIv h6 J EJ):cHb p l y.args (cFa l y.name)=_ /\ cG9 p l y.args (if y.kind=4 then 3 else 2) (cFa l y.name)=_)
      rw [hpa] at hz1 hz2
      rw [hno1] at hz2
      rw [hno2] at hz1
      exact ⟨.inr Y,_,⟨A++⟨X,169,[Sq dB p.globals,Sq bT p.mutexes,Sq fV p.funcs,Sq cE9 l,Vi loc,Vi n,Vi ((cFg qq 8 s).2),Vi (((cFg qq 8 s).1:Nat):Int),c8,c9]⟩::B,rw⟩,aR Y (aCn (Wk.agg (.r (.r (.r (.r (.r (.r (.n (.r (.r (.n (.r (.r .nil))))))))))))) (aO [_,_,_] Y Y isAgg70 sizeOf70 (bK Y Y))),aA (.cons _ (.cons _ (.cons _ (.cons _ (.cons _ (.refl _)))))) (.refl _),Dh,by unfold cFy;rw [hz1,hvk,cGi]⟩
     refine tx 1 Y (fL (bZ h14) (aX (hU:=λ_ h=>(kH.1 h).2 G0) [] isAgg4 sizeOf4)) (tz [(2,true),(3,true)] 4 (go 3 ?_))
     refine tx 4 Y (bH cP cP ps gL (λ_=>Y) k Y Y Y Y J V runUnderlying59 sizeOf79) (tz [(5,true)] 2 (go 2 ?_))
     rcases Bool.eq_false_or_eq_true (ps[k].mutex) with h19|h19
     ·refine tx 6 Y (fL (bZ h19) (iP Y Y isAgg4 sizeOf4 Y)) ?_
      refine tx 7 Y (aJ8 true Y Y Y runUnderlying4 Y) ?_
      refine ax (go 6 ?_)
      refine wo Y (bD [X] call114 (cF3 (_::_::_::_::_::A) B X p l loc n qq _ _ (_::_::rw) 8 s V) Gg FU Bd ?_)
      rintro _ _ ⟨rfl,rfl⟩
      refine go 4 ?_
      refine aAg (cs':=[Vi (if y.kind=4 then 3 else 2),Vi (((cFb l y.name).n:Nat):Int),Vb false,Vi 0,Vi 0,Vs aK,Nl,Vb false,Vi 0,Nl,.sl (cFn l (y.args.take k)).length ((cFn l (y.args.take k)).flatMap fO),.val vp]) [_,_] 10 Y Y ?_
      show eQ prog _ _ ⟨_,_,⟨⟨b7,151,eJ y.args[k]⟩::⟨b6,128,cE9 (cFb l y.name)⟩::⟨b3,70,[Vi (if y.kind=4 then 3 else 2),Vi (((cFb l y.name).n:Nat):Int),Vb false,Vi 0,Vi 0,Vs aK,Nl,Vb false,Vi 0,Nl,.sl (cFn l (y.args.take k)).length ((cFn l (y.args.take k)).flatMap fO),.val vp]⟩::⟨b2,70,[Vi 0,Vi 0,Vb false,Vi 0,Vi 0,Vs aK,Nl,Vb false,Vi 0,Nl,Nl,Nl]⟩::⟨b1,138,dG y⟩::A++⟨X,169,[Sq dB p.globals,Sq bT p.mutexes,Sq fV p.funcs,Sq cE9 l,Vi loc,Vi n,Vi ((cFg qq 8 s).2),Vi (((cFg qq 8 s).1:Nat):Int),c8,c9]⟩::B,⟨vp,67,3,(cF4 l (y.args.take k)).length,(cF4 l (y.args.take k)).flatMap cF7⟩::rw⟩,_⟩ _
      refine aAg (cs':=[Vi (if y.kind=4 then 3 else 2),Vi (((cFb l y.name).n:Nat):Int),Vb false,Vi 0,Vi 0,Vs aK,Nl,Vb false,Vi 0,Nl,.sl (cFn l (y.args.take k)).length ((cFn l (y.args.take k)).flatMap fO),.sl (cF4 l (y.args.take k)).length ((cF4 l (y.args.take k)).flatMap cF7)]) [_,_] 11 Y Y ?_
      show eQ prog _ _ ⟨_,_,⟨⟨b7,151,eJ y.args[k]⟩::⟨b6,128,cE9 (cFb l y.name)⟩::⟨b3,70,[Vi (if y.kind=4 then 3 else 2),Vi (((cFb l y.name).n:Nat):Int),Vb false,Vi 0,Vi 0,Vs aK,Nl,Vb false,Vi 0,Nl,.sl (cFn l (y.args.take k)).length ((cFn l (y.args.take k)).flatMap fO),.sl (cF4 l (y.args.take k)).length ((cF4 l (y.args.take k)).flatMap cF7)]⟩::⟨b2,70,[Vi 0,Vi 0,Vb false,Vi 0,Vi 0,Vs aK,Nl,Vb false,Vi 0,Nl,Nl,Nl]⟩::⟨b1,138,dG y⟩::A++⟨X,169,[Sq dB p.globals,Sq bT p.mutexes,Sq fV p.funcs,Sq cE9 l,Vi loc,Vi n,Vi ((cFg qq 8 s).2),Vi (((cFg qq 8 s).1:Nat):Int),c8,c9]⟩::B,rw⟩,_⟩ _
      obtain ⟨hno1,hno2⟩:=cJz (p:=p) (l:=l) (k:=k) hlen J hnk (by rw [h14,h19];decide)
      refine go 11 ?_
      obtain ⟨hz1,hz2⟩:=((cIv h6 J EJ):cHb p l y.args (cFa l y.name)=_ /\ cG9 p l y.args (if y.kind=4 then 3 else 2) (cFa l y.name)=_)
      rw [hpa] at hz1 hz2
      rw [hno1] at hz2
      rw [hno2] at hz1
      exact ⟨.inr Y,_,⟨A++⟨X,169,[Sq dB p.globals,Sq bT p.mutexes,Sq fV p.funcs,Sq cE9 l,Vi loc,Vi n,Vi ((cFg qq 8 s).2),Vi (((cFg qq 8 s).1:Nat):Int),c8,c9]⟩::B,rw⟩,aR Y (aCn (Wk.agg (.r (.r (.r (.r (.r (.r (.n (.r (.r (.n (.r (.r .nil))))))))))))) (aO [_,_,_] Y Y isAgg70 sizeOf70 (bK Y Y))),aA (.cons _ (.cons _ (.cons _ (.cons _ (.cons _ (.refl _)))))) (.refl _),Dh,by unfold cFy;rw [hz1,hvk,cGi]⟩
     refine tx 6 Y (fL (bZ h19) (iP Y Y isAgg4 sizeOf4 Y)) ?_
     refine tx 7 Y (aJ8 false Y Y Y runUnderlying4 Y) ?_
     refine ax (go 7 ?_)
     refine wyz Y (fL (bZ h14) (aX [] isAgg4 sizeOf4)) (go 3 ?_)
     refine bTy 9 [b7,b6,b3,b2,b1] [] #[true,true,true,true,true,true,true,true,true,false,false] B6 B6 B6 ?_
     refine tz [(0,true),(1,true),(2,true),(3,true),(4,true),(5,true)] 3 (go 7 ?_)
     refine ox 6 Y Y (bD [X] call115 (cI5 (_::_::_::_::_::A) B X p l loc n qq _ _ (_::_::rw) y.args[k].expr s hl De) Gg FU Am ?_)
     rintro _ _ ⟨rfl,rfl⟩
     refine ox 7 Y Y (bDk (hf:=aV fO cU (cFk l y.args[k].expr) (fP _) Y Y) bHf ?_)
     refine ox 8 Y Y (bDm [] cLu Y (aFz fO 4 iU _) V Ez J (@length_append _ (cFn l (y.args.take k)) [(cFk l y.args[k].expr)]).symm (λhn b hb=>qM (r:=(⟨vi,65,4,(cFn l (y.args.take k)).length,(cFn l (y.args.take k)).flatMap fO⟩:bA)) hn hb) cFh.h (List.flatMap_append (f:=fO)).symm λw9=>?_)
     refine ax ?_
     refine id ?_
     refine tz [(9,true),(10,false)] 0 (go 3 ?_)
     refine ax (go 4 ?_)
     refine wad Y (go 2 ?_)
     obtain ⟨hy1,hy2⟩:=cJk (p:=p) (l:=l) (k:=k) hlen J hnk (h14.trans h19.symm)
     obtain ⟨he1,he2⟩:=cLr (l:=l) (k:=k) (al:=y.args) J h14
     exact ⟨J,(w9,vp,(cFg qq (cFf l y.args[k].expr) s)),⟨EW,hy1⟩,FF⟩
    refine wcp false Y (jQ h12) (go 10 ?_)
    obtain rfl:k=ps.length:=J
    refine aAg (cs':=[Vi (if y.kind=4 then 3 else 2),Vi (((cFb l y.name).n:Nat):Int),Vb false,Vi 0,Vi 0,Vs aK,Nl,Vb false,Vi 0,Nl,.sl (cFn l (y.args.take ps.length)).length ((cFn l (y.args.take ps.length)).flatMap fO),.val vp]) [_] 10 Y Y ?_
    show eQ prog _ _ ⟨_,_,⟨⟨b6,128,cE9 (cFb l y.name)⟩::⟨b3,70,[Vi (if y.kind=4 then 3 else 2),Vi (((cFb l y.name).n:Nat):Int),Vb false,Vi 0,Vi 0,Vs aK,Nl,Vb false,Vi 0,Nl,.sl (cFn l (y.args.take ps.length)).length ((cFn l (y.args.take ps.length)).flatMap fO),.val vp]⟩::⟨b2,70,[Vi 0,Vi 0,Vb false,Vi 0,Vi 0,Vs aK,Nl,Vb false,Vi 0,Nl,Nl,Nl]⟩::⟨b1,138,dG y⟩::A++⟨X,169,[Sq dB p.globals,Sq bT p.mutexes,Sq fV p.funcs,Sq cE9 l,Vi loc,Vi n,Vi qq.2,nC qq.1,c8,c9]⟩::B,⟨vp,67,3,(cF4 l (y.args.take ps.length)).length,(cF4 l (y.args.take ps.length)).flatMap cF7⟩::rw⟩,_⟩ _
    refine aAg (cs':=[Vi (if y.kind=4 then 3 else 2),Vi (((cFb l y.name).n:Nat):Int),Vb false,Vi 0,Vi 0,Vs aK,Nl,Vb false,Vi 0,Nl,.sl (cFn l (y.args.take ps.length)).length ((cFn l (y.args.take ps.length)).flatMap fO),.sl (cF4 l (y.args.take ps.length)).length ((cF4 l (y.args.take ps.length)).flatMap cF7)]) [_] 11 Y Y ?_
    show eQ prog _ _ ⟨_,_,⟨⟨b6,128,cE9 (cFb l y.name)⟩::⟨b3,70,[Vi (if y.kind=4 then 3 else 2),Vi (((cFb l y.name).n:Nat):Int),Vb false,Vi 0,Vi 0,Vs aK,Nl,Vb false,Vi 0,Nl,.sl (cFn l (y.args.take ps.length)).length ((cFn l (y.args.take ps.length)).flatMap fO),.sl (cF4 l (y.args.take ps.length)).length ((cF4 l (y.args.take ps.length)).flatMap cF7)]⟩::⟨b2,70,[Vi 0,Vi 0,Vb false,Vi 0,Vi 0,Vs aK,Nl,Vb false,Vi 0,Nl,Nl,Nl]⟩::⟨b1,138,dG y⟩::A++⟨X,169,[Sq dB p.globals,Sq bT p.mutexes,Sq fV p.funcs,Sq cE9 l,Vi loc,Vi n,Vi qq.2,nC qq.1,c8,c9]⟩::B,rw⟩,_⟩ _
    refine go 5 ?_
    obtain ⟨hz1,hz2⟩:=((cIv h6 J EJ):cHb p l y.args (cFa l y.name)=_ /\ cG9 p l y.args (if y.kind=4 then 3 else 2) (cFa l y.name)=_)
    rw [hpa] at hz1 hz2
    rw [List.take_length,show y.args.take ps.length=y.args by rw [hlen,List.take_length]] at hvk hnk
    rw [hnk] at hz2
    exact ⟨.inr Y,_,⟨A++⟨X,169,[Sq dB p.globals,Sq bT p.mutexes,Sq fV p.funcs,Sq cE9 l,Vi loc,Vi n,Vi qq.2,nC qq.1,c8,c9]⟩::B,rw⟩,aR Y (aCn (Wk.agg (.r (.r (.r (.r (.r (.r (.n (.r (.r (.n (.r (.r .nil))))))))))))) (aO [_,_] Y Y isAgg70 sizeOf70 (bK Y Y))),aA (.cons _ (.cons _ (.cons _ (.cons _ (.refl _))))) (.refl _),by unfold cGn;rw [hz2];rw [show y.args.take ps.length=y.args by rw [hlen,List.take_length]];rfl,by unfold cFy;rw [hz1,hvk]⟩
   refine wcp true Y (xL h10) (go 7 ?_)
   refine wo Y (bD [X] call114 (cF3 (_::_::_::_::A) B X p l loc n q _ _ rw 7 s V) Gg FU Bd ?_)
   rintro _ _ ⟨rfl,rfl⟩
   refine go 10 ?_
   obtain ⟨hz1,hz2⟩:=((cJ6 h6 J (by rw [hpa];omega)):cHb p l y.args (cFa l y.name)=_ /\ cG9 p l y.args (if y.kind=4 then 3 else 2) (cFa l y.name)=_)
   exact ⟨.inr Y,_,⟨A++⟨X,169,[Sq dB p.globals,Sq bT p.mutexes,Sq fV p.funcs,Sq cE9 l,Vi loc,Vi n,Vi ((cFg q 7 s).2),Vi (((cFg q 7 s).1:Nat):Int),c8,c9]⟩::B,rw⟩,aR Y (aCn (Wk.agg (.r (.r (.r (.r (.r (.r (.n (.r (.r (.n (.n (.n .nil))))))))))))) (aO [_,_] Y Y isAgg70 sizeOf70 (bK Y Y))),aA (.cons _ (.cons _ (.cons _ (.cons _ (.refl _))))) (.refl _),Dh,Fg⟩
  refine wcp true Y (xL h8) (go 8 ?_)
  refine wo Y (bD [X] call114 (cF3 (_::_::_::_::A) B X p l loc n q _ _ rw 8 s V) Gg FU Bd ?_)
  rintro _ _ ⟨rfl,rfl⟩
  refine go 11 ?_
  obtain ⟨hz1,hz2⟩:=((cJs h6 J):cHb p l y.args (cFa l y.name)=_ /\ cG9 p l y.args (if y.kind=4 then 3 else 2) (cFa l y.name)=_)
  exact ⟨.inr Y,_,⟨A++⟨X,169,[Sq dB p.globals,Sq bT p.mutexes,Sq fV p.funcs,Sq cE9 l,Vi loc,Vi n,Vi ((cFg q 8 s).2),Vi (((cFg q 8 s).1:Nat):Int),c8,c9]⟩::B,rw⟩,aR Y (aCn (Wk.agg (.r (.r (.r (.r (.r (.r (.n (.r (.r (.n (.n (.n .nil))))))))))))) (aO [_,_] Y Y isAgg70 sizeOf70 (bK Y Y))),aA (.cons _ (.cons _ (.cons _ (.cons _ (.refl _))))) (.refl _),Dh,Fg⟩
 refine wyz Y (fL (bZ (aKt h6)) (lF Y Y)) (go 8 ?_)
 refine wo Y (bD [X] call114 (cF3 (_::_::_::_::A) B X p l loc n q _ _ rw 6 s V) Gg FU Bd ?_)
 rintro _ _ ⟨rfl,rfl⟩
 refine go 11 ?_
 obtain ⟨hz1,hz2⟩:=((cJn h6):cHb p l y.args (cFa l y.name)=_ /\ cG9 p l y.args (if y.kind=4 then 3 else 2) (cFa l y.name)=_)
 exact ⟨.inr Y,_,⟨A++⟨X,169,[Sq dB p.globals,Sq bT p.mutexes,Sq fV p.funcs,Sq cE9 l,Vi loc,Vi n,Vi ((cFg q 6 s).2),Vi (((cFg q 6 s).1:Nat):Int),c8,c9]⟩::B,rw⟩,aR Y (aCn (Wk.agg (.r (.r (.r (.r (.r (.r (.n (.r (.r (.n (.n (.n .nil))))))))))))) (aO [_,_] Y Y isAgg70 sizeOf70 (bK Y Y))),aA (.cons _ (.cons _ (.cons _ (.cons _ (.refl _))))) (.refl _),Dh,Fg⟩
end
section
theorem cGu(l:List cFc)(x:cFc)(s:ByteArray):cFa (l++[x]) s=match cFa l s with|some v=>some v|none=>if x.name=s then some x else none:=by
 induction l with
 |nil=>rfl
 |cons y l ih=>
  rw [List.cons_append,cFa,cFa]
  by_cases h:y.name=s
  ·rw [if_pos h,if_pos h]
  rw [if_neg h,if_neg h,ih]
theorem cHo.app{p:cK}{l:List cFc}(h:cHo p l){x:cFc}(h2:x.kind≠2)(h3:x.kind≠3):cHo p (l++[x]):=by
 refine ⟨λs v hv hk=>?_,λs v hv hk=>?_⟩
 ·rw [cGu] at hv
  split at hv
  ·rename_i hf;cases hv;exact h.ms s _ hf hk
  split at hv
  ·cases hv;exact absurd hk h2
  cases hv
 rw [cGu] at hv
 split at hv
 ·rename_i hf;cases hv;exact h.fs s _ hf hk
 split at hv
 ·cases hv;exact absurd hk h3
 cases hv
structure RmL (p:cK) (x:LS) (w:Nat):Prop where
 ents:cHo p x.ents
 code:x.code.length+3*w <= 100000000
 sites:x.sites.length=x.code.length
 n:x.n+w <= 100000000
 loc:x.locals+w <= 100000000
 el:x.ents.length+w <= 100000000
section
variable {p:cK}{x:LS}{w:Nat}
theorem RmL.mono{w':Nat}(h:RmL p x w)(hw:w' <= w):RmL p x w':=⟨h.ents,by have:=h.code;omega,h.sites,by have:=h.n;omega,by have:=h.loc;omega,by have:=h.el;omega⟩
theorem RmL.beg(h:RmL p x (w+1))(e:Nat):RmL p (x.beg e) w /\ (x.beg e).code.length+3+3*w <= 100000000:=by
 have h1:=h.code
 exact ⟨⟨h.ents,by show x.code.length+3*w <= _;omega,h.sites,by have:=h.n;show x.n+1+w <= _;omega,by have:=h.loc;show x.locals+w <= _;omega,by have:=h.el;show x.ents.length+w <= _;omega⟩,by show x.code.length+3+3*w <= _;omega⟩
theorem RmL.put(h:RmL p x w)(hc:x.code.length+1+3*w <= 100000000)(i:cFw)(s:Nat):RmL p (x.put i s) w:=
 ⟨h.ents,by show (x.code++[i]).length+_ <= _;rw [length_append];simp only [length_cons,length_nil];omega,by show (x.sites++[(s:Int)]).length=(x.code++[i]).length;rw [length_append,length_append,h.sites];rfl,h.n,h.loc,h.el⟩
theorem cF1(i:cFw)(s:Nat):(x.put i s).code.length=x.code.length+1:=by show (x.code++[i]).length=_;rw [length_append];rfl
theorem cFp(b:Nat):(x.patch b).code.length=x.code.length:=by show (x.code.modify b _).length=_;rw [List.length_modify]
theorem RmL.patch(h:RmL p x w)(b:Nat):RmL p (x.patch b) w:=⟨h.ents,by rw [cFp];exact h.code,by rw [cFp];exact h.sites,h.n,h.loc,h.el⟩
theorem RmL.back{y:LS}(h:RmL p x w)(hy:RmL p y w):RmL p (x.back y) w:=⟨h.ents,hy.code,hy.sites,hy.n,hy.loc,h.el⟩
theorem RmL.branch(h:RmL p x (w+1))(e:aH):RmL p (x.branch e) w /\ (x.branch e).code.length+2+3*w <= 100000000:=by
 obtain ⟨h1,h2⟩:=h.beg (cFf x.ents e)
 refine ⟨h1.put J _ _,?_⟩
 unfold LS.branch;rw [cF1];omega
theorem cJq(s:aJ)(h:RmL p x (w+1)):RmL p (cFu p s x) w:=by
 have hb:∀e i n,RmL p ((x.beg e).put i n) w:=λe i n=>(h.beg e).1.put (by have:=(h.beg e).2;omega) i n
 unfold cFu
 split
 ·have h1:=hb (cFj (cFv x.ents s.name) (cFf x.ents s.expr)) ⟨1,x.locals,false,cFk x.ents s.expr,plZ,[],[]⟩ x.n
  have h2:=h.loc;have h3:=h.el
  exact ⟨h1.ents.app (by show (4:Int)≠2;decide) Cu,h1.code,h1.sites,h1.n,by show x.locals+1+w <= _;omega,by show (x.ents++[_]).length+w <= _;rw [length_append];simp only [length_cons,length_nil];omega⟩
 split
 ·exact hb _ _ _
 split
 ·exact hb _ _ _
 split
 ·exact hb _ _ _
 split<;>exact hb _ _ _
end
mutual
theorem cKf(p:cK):∀(s:aJ)(x:LS)(w:Nat),RmL p x (s.wt+w) -> RmL p (cFs p s x) w
 |.mk k name e r args t f,x,w,h=>by
  rw [aJ.wt] at h
  have hs:RmL p x (w+1):=h.mono J
  rw [cFs]
  split
  ·obtain ⟨b1,b2⟩:=(h.mono J:RmL p x ((wtS t+(wtS f+w))+1)).branch e
   have t1:=cGr p t (x.branch e) (wtS f+w) b1
   have t2:RmL p ((x.branch e).back (cFe p t (x.branch e))) (wtS f+w):=(b1.mono J).back t1
   have t3:=cGa p t (x.branch e)
   split
   ·exact (t2.mono J).patch _
   have t4:RmL p (((x.branch e).back (cFe p t (x.branch e))).put (opI 7 .zero) x.n) (wtS f+w):=t2.put Eb _ _
   have t5:=cGr p f _ w (t4.patch x.code.length)
   exact (hs.mono J|>.back t5).patch _
  split
  ·obtain ⟨b1,b2⟩:=(h.mono J:RmL p x ((wtS t+w)+1)).branch e
   have t1:=cGr p t (x.branch e) w b1
   have t2:RmL p ((x.branch e).back (cFe p t (x.branch e))) w:=(b1.mono J).back t1
   have t3:=cGa p t (x.branch e)
   exact (t2.put Eb _ _).patch _
  exact cJq _ hs
theorem cGr(p:cK):∀(l:List aJ)(x:LS)(w:Nat),RmL p x (wtS l+w) -> RmL p (cFe p l x) w
 |[],x,w,h=>by rw [cFe];rw [wtS] at h;exact h.mono J
 |s::l,x,w,h=>by
  rw [wtS] at h
  rw [cFe];exact cGr p l _ w (cKf p s x (wtS l+w) (h.mono J))
theorem cKe(p:cK):∀(s:aJ)(x:LS),(cFs p s x).code.length <= x.code.length+3*s.wt
 |.mk k name e r args t f,x=>by
  have t1:=cGa p t (x.branch e)
  have e1:(x.branch e).code.length=x.code.length+1:=cF1 _ _
  rw [cFs,aJ.wt]
  split
  ·split
   ·rw [cFp];show (cFe p t (x.branch e)).code.length <= _;omega
   rw [cFp]
   have t2:=cGa p f ((((x.branch e).back (cFe p t (x.branch e))).put (opI 7 .zero) x.n).patch x.code.length)
   rw [cFp,cF1] at t2
   have t3:((x.branch e).back (cFe p t (x.branch e))).code.length=(cFe p t (x.branch e)).code.length:=Y
   show (cFe p f _).code.length <= _;omega
  split
  ·rw [cFp,cF1];show (cFe p t (x.branch e)).code.length+1 <= _;omega
  have hb:∀(y:LS) i n,y.code=x.code -> (y.put i n).code.length <= x.code.length+3*(1+e.nodes+r.wt+wtA args+wtS t+wtS f):=λy i n hy=>by rw [cF1,hy];omega
  unfold cFu
  split
  ·exact hb (x.beg (cFj (cFv x.ents name) (cFf x.ents e))) ⟨1,x.locals,false,cFk x.ents e,plZ,[],[]⟩ x.n Y
  split
  ·exact hb _ _ _ Y
  split
  ·exact hb _ _ _ Y
  split
  ·exact hb _ _ _ Y
  split<;>exact hb _ _ _ rfl
theorem cGa(p:cK):∀(l:List aJ)(x:LS),(cFe p l x).code.length <= x.code.length+3*wtS l
 |[],x=>by rw [cFe];omega
 |s::l,x=>by
  have h1:=cKe p s x
  have h2:=cGa p l (cFs p s x)
  rw [cFe,wtS];omega
end
mutual
theorem cKt(p:cK):∀(s:aJ)(x:LS),x.code.length <= (cFs p s x).code.length
 |.mk k name e r args t f,x=>by
  have t1:=cGs p t (x.branch e)
  have e1:(x.branch e).code.length=x.code.length+1:=cF1 _ _
  rw [cFs]
  split
  ·split
   ·rw [cFp];show _ <= (cFe p t (x.branch e)).code.length;omega
   rw [cFp]
   have t2:=cGs p f ((((x.branch e).back (cFe p t (x.branch e))).put (opI 7 .zero) x.n).patch x.code.length)
   rw [cFp,cF1] at t2
   have t3:((x.branch e).back (cFe p t (x.branch e))).code.length=(cFe p t (x.branch e)).code.length:=Y
   show _ <= (cFe p f _).code.length;omega
  split
  ·rw [cFp,cF1];show _ <= (cFe p t (x.branch e)).code.length+1;omega
  have hb:∀(y:LS) i n,y.code=x.code -> x.code.length <= (y.put i n).code.length:=λy i n hy=>by rw [cF1,hy];omega
  unfold cFu
  split
  ·exact hb (x.beg (cFj (cFv x.ents name) (cFf x.ents e))) ⟨1,x.locals,false,cFk x.ents e,plZ,[],[]⟩ x.n Y
  split
  ·exact hb _ _ _ Y
  split
  ·exact hb _ _ _ Y
  split
  ·exact hb _ _ _ Y
  split<;>exact hb _ _ _ rfl
theorem cGs(p:cK):∀(l:List aJ)(x:LS),x.code.length <= (cFe p l x).code.length
 |[],x=>by rw [cFe];omega
 |s::l,x=>by
  have h1:=cKt p s x
  have h2:=cGs p l (cFs p s x)
  rw [cFe];omega
end
theorem cHl{c:List cFw}{b t:Nat}(hb:b<c.length):splice (c.flatMap encI) (0+b*12+1) [nC t]=(c.modify b (λi=>i.to t)).flatMap encI:=by
 have h0:c.flatMap encI=(c.take b).flatMap encI++(encI c[b]++(c.drop (b+1)).flatMap encI):=by
  conv=>lhs;rw [←List.take_append_drop b c,List.drop_eq_getElem_cons hb]
  rw [List.flatMap_append,List.flatMap_cons]
 have h2:((c.take b).flatMap encI).length=b*12:=by rw [aFz encI 12 cGj,List.length_take,Nat.min_eq_left J]
 have h3:(c.modify b (λi=>i.to t)).flatMap encI=(c.take b).flatMap encI++(encI (c[b].to t)++(c.drop (b+1)).flatMap encI):=by
  rw [List.modify_eq_take_cons_drop hb,List.flatMap_append,List.flatMap_cons]
 rw [h3,h0,Nat.zero_add]
 have hd:List.drop (((c.take b).flatMap encI).length+2) ((c.take b).flatMap encI)=[]:=List.drop_of_length_le J
 unfold splice
 rw [←h2,List.take_append,take_of_length_le J,Nat.add_sub_cancel_left,List.drop_append]
 rw [show ((c.take b).flatMap encI).length+1+[AC.val (.int .i64 ((t:Nat):Int))].length=((c.take b).flatMap encI).length+2 from rfl,hd,Nat.add_sub_cancel_left,List.nil_append,append_assoc,append_assoc]
 rfl
theorem cH2(p:cK)(l:List aJ)(x:LS)(w:Nat)(h:RmL p x (wtS l+w)):RmL p (cRs p l x) w:=(h.mono J:RmL p x w).back (cGr p l x w h)
end
section
open Go.RowKit
def cLf(ops:Array Oper)(m:Nat)(l0:Array Bool):Bool:=(List.range ops.size).all λi=>match ops.toList[i]? with
 |none=>true
 |some o=>if i<m then o.guard.isNone && o.after.toList.all (λe=>!Region.binds .any e||decide (e.on<i)) else (List.range m).all λj=>l0.getD j false||(bUu ops 6 (bT0 ops i)).contains j
theorem cH9{P:Program}{md:Region.Mode}{ops:Array Oper}{Q:Exit -> Act -> World -> Prop}{S:World -> Prop}:∀(f:Nat)(l:Array Bool)(a:Act)(w:World),wpAnyH P md ops Q S f l a w -> wpAnyH P md ops Q S (f+1) l a w
 |0,_,_,_,h=>⟨λ_=>h.2,λi hi=>by rw [h.1] at hi;cases hi⟩
 |f+1,_,_,_,h=>⟨h.1,λi hi=>wpOp_mono (λa' w' h'=>⟨h'.1,cH9 f _ a' w' h'.2⟩) (h.2 i hi)⟩
theorem cHn{P:Program}{md:Region.Mode}{ops:Array Oper}{Q:Exit -> Act -> World -> Prop}{S:World -> Prop}(f:Nat)(l:Array Bool)(a:Act)(w:World)(h:wpAnyH P md ops Q S f l a w):∀n,wpAnyH P md ops Q S (n+f) l a w
 |0=>by rw [Nat.zero_add];exact h
 |n+1=>by rw [show n+1+f=(n+f)+1 by omega];exact cH9 _ _ _ _ (cHn f l a w h n)
theorem cJm{P:Program}{ops:Array Oper}{Q Q1:Exit -> Act -> World -> Prop}{S S1:World -> Prop}(hS:∀w,S1 w -> S w){m f2:Nat}{l0 D:Array Bool}(hc:cLf ops m l0=true)(hm:m <= ops.size)(hDt:∀j,j<m -> D[j]?=some true)
  (hn:∀a w,Q1 .normal a w -> wpAnyH P .any ops Q S f2 D a w) (hq:∀e a w,e≠.normal -> Q1 e a w -> Q e a w):∀(f:Nat)(l1 l:Array Bool)(a:Act)(w:World),l1.size=m -> l.size=D.size -> m <= D.size -> (∀j,j<m -> l[j]?=l1[j]?) -> (∀j,m <= j -> l[j]?=D[j]?) -> (∀j,j<m -> l0.getD j false=true -> l1[j]?=some true) -> (∀i o,ops[i]?=some o -> l.getD i false=true -> ∀e∈o.after,Region.binds .any e=true -> l.getD e.on false=true) ->
   wpAnyH P .any (bSy ops m) Q1 S1 f l1 a w -> wpAnyH P .any ops Q S (f+f2) l a w:=by
 have hcs:∀i o,ops[i]?=some o -> if i<m then o.guard=none /\ (∀e∈o.after,Region.binds .any e=true -> e.on<i) else ∀j,j<m -> l0.getD j false=true∨j∈bUu ops 6 (bT0 ops i):=by
  intro i o ho
  have hi:i<ops.size:=(Array.getElem?_eq_some_iff.1 ho).1
  have h9:=List.all_eq_true.1 hc i (List.mem_range.2 hi)
  rw [Array.getElem?_toList,ho] at h9
  dsimp only at h9
  by_cases him:i<m
  ·rw [if_pos him] at h9⊢
   simp only [Bool.and_eq_true,List.all_eq_true,Bool.or_eq_true,Bool.not_eq_true',decide_eq_true_eq,Option.isNone_iff_eq_none] at h9
   exact ⟨h9.1,λe he hb=>(h9.2 e C3).resolve_left (by rw [hb];decide)⟩
  rw [if_neg him] at h9⊢
  intro j hj
  have h8:=List.all_eq_true.1 h9 j (List.mem_range.2 hj)
  simpa using h8
 have over:∀(l1 l:Array Bool),l1.size=m -> m <= ops.size -> (∀j,j<m -> l[j]?=l1[j]?) -> Region.ready .any (bSy ops m) l1=[] -> ∀j,j<m -> l1[j]?=some true:=by
  intro l1 l hs hm hl hr j
  induction j using Nat.strongRecOn with
  |_ j ih=>
   intro hj
   by_cases h:l1.getD j true=false
   ·exfalso
    have hop:(bSy ops m)[j]?=some (ops[j]'(by omega)):=EL
    have hin:j∈Region.ready .any (bSy ops m) l1:=by
     refine mem_ready.2 ⟨h,_,hop,λe he hb=>?_⟩
     have h2:=hcs j _ (Array.getElem?_eq_getElem (J:j<ops.size))
     rw [if_pos hj] at h2
     have h3:=h2.2 e he hb
     have h4:=ih e.on h3 J
     simp [Array.getD_eq_getD_getElem?,h4]
    rw [hr] at hin;cases hin
   have hj2:j<l1.size:=J
   rw [Array.getElem?_eq_getElem hj2]
   simp only [Array.getD_eq_getD_getElem?,Array.getElem?_eq_getElem hj2,Option.getD_some] at h
   simpa using h
 have same:∀(l1 l:Array Bool),l1.size=m -> l.size=D.size -> (∀j,j<m -> l[j]?=l1[j]?) -> (∀j,m <= j -> l[j]?=D[j]?) -> Region.ready .any (bSy ops m) l1=[] -> l=D:=by
  intro l1 l hs1 hs2 he1 he2 hr
  refine Array.ext_getElem? λj=>?_
  by_cases hj:j<m
  ·rw [he1 j hj,over l1 l hs1 hm he1 hr j hj,hDt j hj]
  exact he2 j J
 have getD_eq:∀(l1 l:Array Bool)(j:Nat)(d:Bool),l[j]?=l1[j]? -> l.getD j d=l1.getD j d:=λl1 l j d h=>by
  rw [Array.getD_eq_getD_getElem?,Array.getD_eq_getD_getElem?,h]
 intro f
 induction f with
 |zero=>
  intro l1 l a w hs1 hs2 hmD he1 he2 h00 hcl H
  rw [Nat.zero_add,same l1 l hs1 hs2 he1 he2 H.1]
  exact hn a w H.2
 |succ f ih=>
  intro l1 l a w hs1 hs2 hmD he1 he2 h00 hcl H
  by_cases hr:Region.ready .any (bSy ops m) l1=[]
  ·rw [same l1 l hs1 hs2 he1 he2 hr]
   exact cHn f2 _ _ _ (hn a w (H.1 hr)) (f+1)
  obtain ⟨k,hk⟩:=List.exists_mem_of_ne_nil _ hr
  obtain ⟨hku,ok,hok,hkall⟩:=mem_ready.1 hk
  have hkm:k<m:=by
   by_cases h:k<m
   ·exact h
   rw [bS4,if_neg h] at hok;cases hok
  rw [bS4,if_pos hkm] at hok
  have hk1:l1[k]?=some false:=by
   have hks:k<l1.size:=J
   rw [Array.getD_eq_getD_getElem?,Array.getElem?_eq_getElem hks] at hku
   rw [Array.getElem?_eq_getElem hks];simpa using hku
  rw [show f+1+f2=(f+f2)+1 by omega]
  refine ⟨λh0=>?_,λi hi=>?_⟩
  ·exfalso
   have hin:k∈Region.ready .any ops l:=by
    refine mem_ready.2 ⟨Ex,ok,hok,λe he hb=>?_⟩
    have h2:=hcs k ok hok
    rw [if_pos hkm] at h2
    have h3:=h2.2 e he hb
    rw [getD_eq l1 l e.on false (he1 _ J)]
    exact hkall e he hb
   rw [h0] at hin;cases hin
  obtain ⟨hiu,o,ho,hall⟩:=mem_ready.1 hi
  have h2:=hcs i o ho
  by_cases him:i<m
  ·rw [if_pos him] at h2
   have ho1:(bSy ops m)[i]?=some o:=by rw [bS4,if_pos him];exact ho
   have hi1:i∈Region.ready .any (bSy ops m) l1:=by
    refine mem_ready.2 ⟨Eu,o,ho1,λe he hb=>?_⟩
    have h3:=h2.2 e he hb
    rw [←getD_eq l1 l e.on false (he1 _ J)]
    exact hall e he hb
   have h4:=H.2 i hi1
   have hw:∀y,Region.wanted o y=true:=λy=>by unfold Region.wanted;rw [h2.1]
   unfold wpOp at h4⊢
   rw [ho1] at h4
   rw [ho]
   dsimp only at h4⊢
   rw [if_pos (hw _)] at h4⊢
   have hL:LetsOut Q1 -> LetsOut Q:=λ⟨a,w,h⟩=>⟨a,w,hq _ a w G0 h⟩
   rcases h4 with h4|⟨h5,h6⟩
   ·refine .inl (Oper.wp_mono2 (λa' w' h'=>⟨hS _ h'.1,ih (l1.setIfInBounds i true) (l.setIfInBounds i true) a' w' (by simpa using hs1) (by simpa using hs2) hmD (λj hj=>?_) (λj hj=>?_) (λj hj h0=>?_) (λq oq hoq hlq e he hb=>?_) h'.2⟩) hq hL h4)
    ·rw [Array.getElem?_setIfInBounds,Array.getElem?_setIfInBounds]
     by_cases hij:i=j
     ·rw [if_pos hij,if_pos hij,if_pos J,if_pos J]
     rw [if_neg hij,if_neg hij];exact he1 j hj
    ·rw [Array.getElem?_setIfInBounds,if_neg J];exact he2 j hj
    ·rw [Array.getElem?_setIfInBounds]
     by_cases hij:i=j
     ·rw [if_pos hij,if_pos J]
     rw [if_neg hij];exact h00 j hj h0
    have hup:∀z,l.getD z false=true -> (l.setIfInBounds i true).getD z false=true:=λz hz=>by
     rw [Array.getD_eq_getD_getElem?] at hz⊢
     rw [Array.getElem?_setIfInBounds]
     split
     ·split
      ·rfl
      rw [Array.getElem?_eq_none J] at hz;cases hz
     exact hz
    by_cases hqi:i=q
    ·subst hqi
     obtain rfl:=Option.some.inj (ho.symm.trans hoq)
     exact hup _ (hall e he hb)
    refine hup _ (hcl q oq hoq ?_ e he hb)
    rw [Array.getD_eq_getD_getElem?,Array.getElem?_setIfInBounds,if_neg hqi] at hlq
    rw [Array.getD_eq_getD_getElem?];exact hlq
   exact .inr ⟨h5,hL h6⟩
  exfalso
  rw [if_neg him] at h2
  rcases h2 k hkm with h2|h2
  ·rw [h00 k hkm h2] at hk1;cases hk1
  have h3:l.getD k false=true:=bUe (L:=λz=>l.getD z false=true) hcl 6 _ (λx hx=>by
   unfold bT0 at hx
   rw [Array.getElem?_toList,ho] at hx
   obtain ⟨e,he,h7⟩:=List.mem_filterMap.1 hx
   split at h7
   ·rename_i hb
    cases h7
    exact hall e C3 hb
   cases h7) k h2
  rw [getD_eq l1 l k false (he1 k hkm),Array.getD_eq_getD_getElem?,hk1] at h3
  cases h3
theorem cKh{st st':AS}{w w' w2:World}{Z:List Nat}(k:Ext st w st' w')(h:cW (lM st'.s Z) w' w2):cW (lM st.s []) w w2:=by
 refine ⟨h.os.trans k.keep.os,h.tape.trans k.keep.tape,h.output.trans k.keep.output,Nat.le_trans k.keep.size h.size,λi hi hn=>?_⟩
 have hb:i∉st.s.bl:=λhb=>hn (kH.2 ⟨hb,G0⟩)
 rw [h.block i (Nat.lt_of_lt_of_le hi k.keep.size) (λh2=>(k.bl i (kH.1 h2).1).elim hb (λh3=>J)),k.keep.block i hi hb]
theorem cHd{P:Program}{l l1 l2:List Oper}{st:AS}{K:AS -> Prop}(m f1 f2:Nat)(Z1 Z2:List Nat)(L0 L1 D:Array Bool)[hs:vT m l l1 l2]{fuel:Nat}(hf:f1+f2=fuel)
  (hc:(cLf l.toArray m L0,decide (m <= l.toArray.size),decide (D.size=l.toArray.size),decide (L0.size=l.toArray.size),decide (L1.size=m),(List.range m).all (λj=>D[j]? == some true && L0[j]? == L1[j]?),(List.range l.toArray.size).all (λj=>decide (j<m)||(D[j]? == some false && L0[j]? == some false)),(List.range l.toArray.size).all (λi=>!L0.getD i false||(bT0 l.toArray i).all (λj=>L0.getD j false)))=(true,true,true,true,true,true,true,true)) (h1:l1.length=m)
  (h:lD P l1.toArray Z1 f1 L1 st (λst'=>lD P l.toArray Z2 f2 D st' K)):lD P l.toArray [] fuel L0 st K:=by
 simp only [Prod.mk.injEq,decide_eq_true_eq,List.all_eq_true,List.mem_range,beq_iff_eq,Bool.or_eq_true,Bool.and_eq_true,Bool.not_eq_true'] at hc
 obtain ⟨hc1,hc2,hc3,hc4,hc5,hc6,hc7,hc8⟩:=hc
 have e1:bSy l.toArray m=l1.toArray:=by unfold bSy;rw [hs.h];simp only;rw [List.take_left' h1]
 intro a w hS QQ hp hQ
 rw [←hf]
 refine cJm (S1:=λw'=>cW (lM st.s Z1) w w') (λw' k=>k.mono λb hb=>kH.2 ⟨(kH.1 hb).1,G0⟩) (Q1:=λe a' w'=>match e with|.normal=>∃st',lD P l.toArray Z2 f2 D st' K /\ Sim st' a' w' /\ Ext st w st' w'|_=>QQ e a' w') (l0:=L0) (D:=D) hc1 hc2 (λj hj=>(hc6 j hj).1) ?_ ?_ f1 L1 L0 a w hc5 (by rw [hc4,hc3]) (by rw [hc3];exact hc2) (λj hj=>(hc6 j hj).2) (λj hj=>?_) (λj hj h0=>?_) (λi o ho h0 e he hb=>?_) ?_
 ·rintro a' w' ⟨st',q1,q2,q3⟩
  exact aO8 (λw2 k2=>cKh q3 k2) (q1 a' w' q2 QQ hp λa2 w2 st2 p2 s2 k2=>hQ a2 w2 st2 p2 s2 (q3.trans k2))
 ·intro e a' w' he q
  cases e with
  |normal=>exact absurd rfl he
  |_=>exact q
 ·by_cases hjn:j<l.toArray.size
  ·rcases hc7 j hjn with h9|h9
   ·omega
   rw [h9.1,h9.2]
  rw [Array.getElem?_eq_none J,Array.getElem?_eq_none J]
 ·rw [←(hc6 j hj).2]
  have hjs:j<L0.size:=J
  rw [Array.getD_eq_getD_getElem?,Array.getElem?_eq_getElem hjs] at h0
  rw [Array.getElem?_eq_getElem hjs];simpa using h0
 ·have hi:i<l.toArray.size:=(Array.getElem?_eq_some_iff.1 ho).1
  rcases hc8 i hi with h9|h9
  ·rw [h0] at h9;cases h9
  refine h9 e.on ?_
  unfold bT0
  rw [Array.getElem?_toList,ho]
  exact List.mem_filterMap.2 ⟨e,C3,by rw [if_pos hb]⟩
 rw [e1]
 exact h a w hS _ (λc a2 w2 q=>hp c a2 w2 q) λa' w' st' q s' k=>⟨st',q,s',k⟩
end
end Go.Proofs.YtbdfdjdgfanjaaaGreatDoor
