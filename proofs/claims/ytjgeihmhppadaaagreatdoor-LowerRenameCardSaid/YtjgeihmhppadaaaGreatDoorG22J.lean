import Derived.Test.YtjgeihmhppadaaaGreatDoorG9J
set_option linter.all false
set_option synthInstance.maxHeartbeats 1000000
set_option synthInstance.maxSize 1000000
set_option maxHeartbeats 1600000
set_option maxRecDepth 100000
namespace Go.Proofs.YtjgeihmhppadaaaGreatDoor
open Go.Proofs.Tryz
open List (length_append length_cons length_nil mem_append mem_cons not_mem_nil append_assoc getElem_mem take_of_length_le)
section
open Go.RowKit
theorem cDu(A B:List Box)(C gv gf:Nat)(p:cK)(vis:Vis)(fs:Fns)(n at_:Int)(R rw:List bA)(hgf:cR3 gf 3 fV fs∈R)(x:ByteArray):aL prog 129 [pP C,Cs x] [] ⟨A++⟨C,98,[Sq dB p.globals,Sq bT p.mutexes,Sq fV p.funcs,Vm gv,Vm gf,Vi n,Vi at_]⟩::B,R++cR3 gv 0 evI vis::rw⟩ λt s'=>t=Ci ((cBh vis x:Nat):Int) /\ s'=⟨A++⟨C,98,[Sq dB p.globals,Sq bT p.mutexes,Sq fV p.funcs,Vm gv,Vm gf,Vi n,Vi at_]⟩::B,R++cR3 gv 0 evI vis::rw⟩:=by
 refine acX 15 func129 ?_
 refine go 13 ?_
 refine wyz Y (cAm vis Y Y Y G0 underlying95 underlying9 zeroValue157 Bu) (go 5 ?_)
 by_cases h1:(bZp vis x)=0
 ·refine wcp true Y (eR h1) (go 12 ?_)
  exact ⟨.inr Y,_,⟨A++⟨C,98,[Sq dB p.globals,Sq bT p.mutexes,Sq fV p.funcs,Vm gv,Vm gf,Vi n,Vi at_]⟩::B,R++cR3 gv 0 evI vis::rw⟩,aR Y (aF Y),aA (.refl _) (.refl _),aPy (by simp [cBh,h1]),Y⟩
 refine wcp false Y (eD h1) (go 6 ?_)
 by_cases h4:(bZp vis x)=1
 focus
  refine wcp true Y (eR h4) (go 12 ?_)
 rotate_left
 refine wcp false Y (eD h4) (go 13 ?_)
 all_goals
  exact ⟨.inr Y,_,⟨A++⟨C,98,[Sq dB p.globals,Sq bT p.mutexes,Sq fV p.funcs,Vm gv,Vm gf,Vi n,Vi at_]⟩::B,R++cR3 gv 0 evI vis::rw⟩,aR Y (aF Y),aA (.refl _) (.refl _),aPy (by simp [cBh,h1,h4]),Y⟩
theorem cBm(v:Vis):∀(l:List aH)(k:Nat)(h:k<l.length),bZ0 v (l.take k)=0 -> bZ1 v l[k]=0 -> bZ0 v (l.take (k+1))=0
 |e::l,0,_,_,h=>by rw [List.take_succ_cons,bZ0,if_pos Er,List.take_zero,bZ0]
 |e::l,k+1,hk,h1,h2=>by
  rw [List.take_succ_cons,bZ0] at h1
  rw [List.take_succ_cons,bZ0]
  split at h1
  ·rename_i h3
   rw [if_pos h3];exact cBm v l k Cz h1 B4
  rename_i h3;exact absurd h1 h3
theorem cBs(v:Vis):∀(l:List aH)(k:Nat)(h:k<l.length),bZ0 v (l.take k)=0 -> bZ1 v l[k]≠0 -> bZ0 v l=bZ1 v l[k]
 |e::l,0,_,_,h=>by rw [bZ0,if_neg Er];rfl
 |e::l,k+1,hk,h1,h2=>by
  rw [List.take_succ_cons,bZ0] at h1
  rw [bZ0]
  split at h1
  ·rename_i h3
   rw [if_pos h3];exact cBs v l k Cz h1 B4
  rename_i h3;exact absurd h1 h3
theorem cBx(v:Vis)(e:aH):bZ1 v e=if e.op=2 then cBh v e.name else bZ0 v e.args:=by cases e;rw [bZ1];rfl
theorem cCt(A B:List Box)(C gv gf:Nat)(p:cK)(vis:Vis)(fs:Fns)(n at_:Int)(R rw:List bA)(hgf:cR3 gf 3 fV fs∈R)(e:aH)(hN:e.nodes <= 1000000000)(ih:∀k (h:k<e.args.length) (A:List Box),aL prog 128 [pP C,.agg (cU e.args[k])] [] ⟨A++⟨C,98,[Sq dB p.globals,Sq bT p.mutexes,Sq fV p.funcs,Vm gv,Vm gf,Vi n,Vi at_]⟩::B,R++cR3 gv 0 evI vis::rw⟩ λt s'=>t=Ci ((bZ1 vis e.args[k]:Nat):Int) /\ s'=⟨A++⟨C,98,[Sq dB p.globals,Sq bT p.mutexes,Sq fV p.funcs,Vm gv,Vm gf,Vi n,Vi at_]⟩::B,R++cR3 gv 0 evI vis::rw⟩):aL prog 128 [pP C,.agg (cU e)] [] ⟨A++⟨C,98,[Sq dB p.globals,Sq bT p.mutexes,Sq fV p.funcs,Vm gv,Vm gf,Vi n,Vi at_]⟩::B,R++cR3 gv 0 evI vis::rw⟩ λt s'=>t=Ci ((bZ1 vis e:Nat):Int) /\ s'=⟨A++⟨C,98,[Sq dB p.globals,Sq bT p.mutexes,Sq fV p.funcs,Vm gv,Vm gf,Vi n,Vi at_]⟩::B,R++cR3 gv 0 evI vis::rw⟩:=by
 have hlen:=uC e
 refine acX 29 func128 ?_
 refine go 11 λb1=>?_
 by_cases h1:e.op=2
 ·refine wcp true Y (eR h1) (go 8 ?_)
  refine wc0 Y call129 Y (cDu (_::A) B C gv gf p vis fs _ _ R rw hgf e.name) ?_
  rintro _ _ ⟨rfl,rfl⟩
  refine go 5 ?_
  exact ⟨.inr Y,_,⟨A++⟨C,98,[Sq dB p.globals,Sq bT p.mutexes,Sq fV p.funcs,Vm gv,Vm gf,Vi n,Vi at_]⟩::B,R++cR3 gv 0 evI vis::rw⟩,aR Y (aF Y),aA (.cons _ (.refl _)) (.refl _),aPy (by rw [cBx,if_pos J]),Y⟩
 refine wcp false Y (eD h1) (go 15 ?_)
 refine lE (λk=>bZ0 vis (e.args.take k)=0) (e.args.length) 18 (λk=>[(0,pP C),(3,pP b1),(4,Ci 0),(16,.c (Sq fO e.args)),(17,nI e.args.length)]) Y (sA Y) λk hk hvk=>?_
 replace hvk:bZ0 vis (e.args.take k)=0:=hvk
 try dsimp only
 refine go 2 ?_
 by_cases h5:((k:Nat):Int)<((e.args.length:Nat):Int)
 ·refine wcp true Y (jZ h5) (go 10 ?_)
  refine wyz Y (bH fO cU e.args iU fP k Y Y Y Y J V runUnderlying85 sizeOf87) (go 9 λb2=>?_)
  refine wc0 Y call128 Y (ih k J (_::_::A)) ?_
  rintro _ _ ⟨rfl,rfl⟩
  refine go 6 ?_
  by_cases h8:((bZ1 vis e.args[k]:Nat):Int)=0
  ·refine wcp false Y (xG h8) (go 7 ?_)
   refine wad Y (go 2 ?_)
   exact ⟨J,(cBm vis _ k J hvk J),cQf (h1:=(.cons _ (.refl _))) (h:=aG Y (gQ J) (sA Y)) (λb hb=>List.mem_cons_of_mem _ (hb))⟩
  refine wcp true Y (xL h8) (go 15 ?_)
  exact ⟨.inr Y,_,⟨A++⟨C,98,[Sq dB p.globals,Sq bT p.mutexes,Sq fV p.funcs,Vm gv,Vm gf,Vi n,Vi at_]⟩::B,R++cR3 gv 0 evI vis::rw⟩,aR Y (aF Y),aA (.cons _ (.cons _ (.refl _))) (.refl _),aPy (by rw [cBx,if_neg J,cBs vis _ k J hvk J]),Y⟩
 refine wcp false Y (jQ h5) (go 15 ?_)
 exact ⟨.inr Y,_,⟨A++⟨C,98,[Sq dB p.globals,Sq bT p.mutexes,Sq fV p.funcs,Vm gv,Vm gf,Vi n,Vi at_]⟩::B,R++cR3 gv 0 evI vis::rw⟩,aR Y (aF Y),aA (.cons _ (.refl _)) (.refl _),aPy (by rw [take_of_length_le J] at hvk;rw [cBx,if_neg J,hvk];rfl),Y⟩
theorem cCz:∀(N:Nat)(e:aH),e.nodes <= N -> N <= 1000000000 -> ∀(A B:List Box)(C gv gf:Nat)(p:cK)(vis:Vis)(fs:Fns)(n at_:Int)(R rw:List bA)(hgf:cR3 gf 3 fV fs∈R),aL prog 128 [pP C,.agg (cU e)] [] ⟨A++⟨C,98,[Sq dB p.globals,Sq bT p.mutexes,Sq fV p.funcs,Vm gv,Vm gf,Vi n,Vi at_]⟩::B,R++cR3 gv 0 evI vis::rw⟩ λt s'=>t=Ci ((bZ1 vis e:Nat):Int) /\ s'=⟨A++⟨C,98,[Sq dB p.globals,Sq bT p.mutexes,Sq fV p.funcs,Vm gv,Vm gf,Vi n,Vi at_]⟩::B,R++cR3 gv 0 evI vis::rw⟩
 |0,e,h,_=>Bm
 |N+1,e,h,hN=>λA B C gv gf p vis fs n at_ R rw hgf=>cCt A B C gv gf p vis fs n at_ R rw hgf e J λk hk A=>cCz N e.args[k] B0 J A B C gv gf p vis fs n at_ R rw hgf
theorem cB4(e:aH)(h:e.nodes <= 1000000000)(A B:List Box)(C gv gf:Nat)(p:cK)(vis:Vis)(fs:Fns)(n at_:Int)(R rw:List bA)(hgf:cR3 gf 3 fV fs∈R):aL prog 128 [pP C,.agg (cU e)] [] ⟨A++⟨C,98,[Sq dB p.globals,Sq bT p.mutexes,Sq fV p.funcs,Vm gv,Vm gf,Vi n,Vi at_]⟩::B,R++cR3 gv 0 evI vis::rw⟩ λt s'=>t=Ci ((bZ1 vis e:Nat):Int) /\ s'=⟨A++⟨C,98,[Sq dB p.globals,Sq bT p.mutexes,Sq fV p.funcs,Vm gv,Vm gf,Vi n,Vi at_]⟩::B,R++cR3 gv 0 evI vis::rw⟩:=cCz _ e h (Nat.le_refl _) A B C gv gf p vis fs n at_ R rw hgf
theorem cAh(v:Vis)(l:List aH)(h:0<l.length):cDo v l=bZ1 v l[0]:=by
 cases l with
 |nil=>simp at h
 |cons e l=>rfl
theorem cCr(A B:List Box)(C gv gf:Nat)(p:cK)(vis:Vis)(fs:Fns)(n at_:Int)(R rw:List bA)(hgf:cR3 gf 3 fV fs∈R)(r:cY)(hN:cZ r.index <= 1000000000):aL prog 130 [pP C,.agg (encR r)] [] ⟨A++⟨C,98,[Sq dB p.globals,Sq bT p.mutexes,Sq fV p.funcs,Vm gv,Vm gf,Vi n,Vi at_]⟩::B,R++cR3 gv 0 evI vis::rw⟩ λt s'=>t=Ci ((cA3 vis r:Nat):Int) /\ s'=⟨A++⟨C,98,[Sq dB p.globals,Sq bT p.mutexes,Sq fV p.funcs,Vm gv,Vm gf,Vi n,Vi at_]⟩::B,R++cR3 gv 0 evI vis::rw⟩:=by
 have hix:∀h:0<r.index.length,r.index[0].nodes <= 1000000000:=λh=>by have:=nM r.index 0 h;omega
 refine acX 43 func130 ?_
 refine go 7 λb1=>?_
 refine dx [b1,C,gv,gf] (tz [(0,true),(1,true),(2,true),(3,true),(4,true),(5,true)] 2 (go 7 ?_))
 refine tx 6 Y (cAm vis Y Y Y G0 underlying95 underlying9 zeroValue157 Cf) (tz [(7,true)] 0 (go 2 ?_))
 refine ax (go 6 ?_)
 by_cases h1:(bZp vis r.name)=0
 ·refine wcp true Y (eR h1) (go 12 ?_)
  exact ⟨.inr Y,_,⟨A++⟨C,98,[.sl p.globals.length (p.globals.flatMap dB),.sl p.mutexes.length (p.mutexes.flatMap bT),.sl p.funcs.length (p.funcs.flatMap fV),.val (.map (some gv)),.val (.map (some gf)),.val (.int .i64 n),.val (.int .i64 at_)]⟩::B,R++cR3 gv 0 evI vis::rw⟩,aR Y (aF Y),aA (.cons _ (.refl _)) (.refl _),aPy (by unfold cA3 cAj;simp [h1]<;>first|(split<;>omega)|exact List.length_eq_zero_iff.1 J|(rw [if_neg AG,cAh _ _ J])|(rw [if_pos (List.length_eq_zero_iff.1 J)];rfl)),rfl⟩
 refine wcp false Y (eD h1) (go 8 ?_)
 by_cases h4:(bZp vis r.name)=2
 ·refine wcp false Y (xG h4) (go 14 ?_)
  refine wcp false Y (eD J) (go 3 ?_)
  by_cases h6:(0:Int)<((r.index.length:Nat):Int)
  focus
   refine wcp true Y (mH h6) ?_
   refine wyz Y (aJ8 true Y Y Y runUnderlying4 Y) (go 12 ?_)
  rotate_left
  refine wcp false Y (mI h6) ?_
  refine wyz Y (aJ8 false Y Y Y runUnderlying4 Y) (go 7 ?_)
  refine wcp false Y (eD J) (go 13 ?_)
  all_goals
   exact ⟨.inr Y,_,⟨A++⟨C,98,[.sl p.globals.length (p.globals.flatMap dB),.sl p.mutexes.length (p.mutexes.flatMap bT),.sl p.funcs.length (p.funcs.flatMap fV),.val (.map (some gv)),.val (.map (some gf)),.val (.int .i64 n),.val (.int .i64 at_)]⟩::B,R++cR3 gv 0 evI vis::rw⟩,aR Y (aF Y),aA (.cons _ (.refl _)) (.refl _),aPy (by unfold cA3 cAj;simp [h1,h4,h6]<;>first|(split<;>omega)|exact List.length_eq_zero_iff.1 J|(rw [if_neg AG,cAh _ _ J])|(rw [if_pos (List.length_eq_zero_iff.1 J)];rfl)),rfl⟩
 refine wcp true Y (xL h4) (go 2 ?_)
 by_cases h10:(bZp vis r.name)=3
 focus
  refine wcp false Y (xG h10) (go 11 ?_)
  refine wcp true Y (eR h10) (go 3 ?_)
  by_cases h17:(0:Int)<((r.index.length:Nat):Int)
  focus
   refine wcp true Y (mH h17) ?_
   refine wyz Y (aJ8 false Y Y Y runUnderlying4 Y) (go 7 ?_)
   refine wcp true Y (eR h10) (go 9 ?_)
   refine wyz Y (bH fO cU r.index iU fP 0 Y Y Y Y J V runUnderlying85 sizeOf87) (go 1 ?_)
   refine wc0 Y call128 Y (cB4 r.index[0] (hix J) (_::A) B C gv gf p vis fs _ _ R rw hgf) ?_
   rintro _ _ ⟨rfl,rfl⟩
   refine go 6 ?_
  rotate_left
  refine wcp false Y (mI h17) ?_
  refine wyz Y (aJ8 true Y Y Y runUnderlying4 Y) (go 12 ?_)
 rotate_left 2
 refine wcp true Y (xL h10) (go 3 ?_)
 by_cases h17:(bZp vis r.name)=4
 ·refine wcp false Y (xG h17) (go 7 ?_)
  refine wcp false Y (eD h10) (go 3 ?_)
  by_cases h19:(0:Int)<((r.index.length:Nat):Int)
  focus
   refine wcp true Y (mH h19) ?_
   refine wyz Y (aJ8 true Y Y Y runUnderlying4 Y) (go 12 ?_)
  rotate_left
  refine wcp false Y (mI h19) ?_
  refine wyz Y (aJ8 false Y Y Y runUnderlying4 Y) (go 7 ?_)
  refine wcp false Y (eD h10) (go 13 ?_)
  all_goals
   exact ⟨.inr Y,_,⟨A++⟨C,98,[.sl p.globals.length (p.globals.flatMap dB),.sl p.mutexes.length (p.mutexes.flatMap bT),.sl p.funcs.length (p.funcs.flatMap fV),.val (.map (some gv)),.val (.map (some gf)),.val (.int .i64 n),.val (.int .i64 at_)]⟩::B,R++cR3 gv 0 evI vis::rw⟩,aR Y (aF Y),aA (.cons _ (.refl _)) (.refl _),aPy (by unfold cA3 cAj;simp [h1,h4,h10,h17,h19]<;>first|(split<;>omega)|exact List.length_eq_zero_iff.1 J|(rw [if_neg AG,cAh _ _ J])|(rw [if_pos (List.length_eq_zero_iff.1 J)];rfl)),rfl⟩
 refine wcp true Y (xL h17) (go 16 ?_)
 all_goals
  exact ⟨.inr Y,_,⟨A++⟨C,98,[.sl p.globals.length (p.globals.flatMap dB),.sl p.mutexes.length (p.mutexes.flatMap bT),.sl p.funcs.length (p.funcs.flatMap fV),.val (.map (some gv)),.val (.map (some gf)),.val (.int .i64 n),.val (.int .i64 at_)]⟩::B,R++cR3 gv 0 evI vis::rw⟩,aR Y (aF Y),aA (.cons _ (.refl _)) (.refl _),aPy (by unfold cA3 cAj;simp [h1,h4,h10,h17]<;>first|(split<;>omega)|exact List.length_eq_zero_iff.1 J|(rw [if_neg AG,cAh _ _ J])|(rw [if_pos (List.length_eq_zero_iff.1 J)];rfl)),rfl⟩
theorem cBd(v:Vis):∀(l:List eN)(xs:List aS)(k:Nat)(h:k<l.length)(h2:k<xs.length),bZ3 v (l.take k) (xs.take k)=0 -> cBb v l[k] xs[k]=0 -> bZ3 v (l.take (k+1)) (xs.take (k+1))=0
 |a::l,x::xs,0,_,_,_,h=>by rw [List.take_succ_cons,List.take_succ_cons,bZ3,if_pos Er,List.take_zero,List.take_zero,bZ3];intros;simp_all
 |a::l,x::xs,k+1,hk,hk2,h1,h2=>by
  rw [List.take_succ_cons,List.take_succ_cons,bZ3] at h1
  rw [List.take_succ_cons,List.take_succ_cons,bZ3]
  split at h1
  ·rename_i h3
   rw [if_pos h3];exact cBd v l xs k Cz (by simpa using hk2) h1 B4
  rename_i h3;exact absurd h1 h3
theorem cAq(v:Vis):∀(l:List eN)(xs:List aS)(k:Nat)(h:k<l.length)(h2:k<xs.length),bZ3 v (l.take k) (xs.take k)=0 -> cBb v l[k] xs[k]≠0 -> bZ3 v l xs=cBb v l[k] xs[k]
 |a::l,x::xs,0,_,_,_,h=>by rw [bZ3,if_neg Er];rfl
 |a::l,x::xs,k+1,hk,hk2,h1,h2=>by
  rw [List.take_succ_cons,List.take_succ_cons,bZ3] at h1
  rw [bZ3]
  split at h1
  ·rename_i h3
   rw [if_pos h3];exact cAq v l xs k Cz (by simpa using hk2) h1 B4
  rename_i h3;exact absurd h1 h3
theorem cC1(A B:List Box)(C gv gf:Nat)(p:cK)(vis:Vis)(fs:Fns)(n at_:Int)(R rw:List bA)(hgf:cR3 gf 3 fV fs∈R)(s:aJ)(hw:s.wt <= 900000000)(hfo:bZt vis fs):aL prog 131 [pP C,.agg (dG s)] [] ⟨A++⟨C,98,[Sq dB p.globals,Sq bT p.mutexes,Sq fV p.funcs,Vm gv,Vm gf,Vi n,Vi at_]⟩::B,R++cR3 gv 0 evI vis::rw⟩ λt s'=>t=Ci ((cAx vis fs s.name s.args:Nat):Int) /\ s'=⟨A++⟨C,98,[Sq dB p.globals,Sq bT p.mutexes,Sq fV p.funcs,Vm gv,Vm gf,Vi n,Vi at_]⟩::B,R++cR3 gv 0 evI vis::rw⟩:=by
 have hwp:=gD s
 have hal:=aCj s.args
 have hak:∀k (h:k<s.args.length),s.args[k].expr.nodes <= 900000000 /\ cZ s.args[k].ref.index <= 900000000:=λk h=>by have h1:=aDf s.args k h;unfold eN.wt cY.wt at h1;omega
 refine acX 66 func131 ?_
 refine go 8 λb1=>?_
 refine dx [b1,C,gv,gf] (tz [(0,true),(1,true),(2,true),(3,true),(4,true),(5,true)] 1 (go 7 ?_))
 refine tx 6 Y (cAm vis Y Y Y G0 underlying95 underlying9 zeroValue157 Cf) ?_
 refine ax (go 4 ?_)
 by_cases h1:(bZp vis s.name)=0
 ·refine wcp true Y (eR h1) (go 12 ?_)
  exact ⟨.inr Y,_,⟨A++⟨C,98,[Sq dB p.globals,Sq bT p.mutexes,Sq fV p.funcs,Vm gv,Vm gf,Vi n,Vi at_]⟩::B,R++cR3 gv 0 evI vis::rw⟩,aR Y (aF Y),aA (.cons _ (.refl _)) (.refl _),aPy (by unfold cAx;simp [h1]),Y⟩
 refine wcp false Y (eD h1) (go 6 ?_)
 by_cases h4:(bZp vis s.name)=5
 ·refine wcp true Y (eR h4) (go 8 ?_)
  refine dx [b1,C,gv,gf] ?_
  obtain ⟨f,hf⟩:=hfo.2 s.name J
  refine tz [(0,true),(1,true),(2,true),(3,true),(4,true),(5,true)] 3 (go 7 ?_)
  refine tx 6 Y (cDl (m:=3) (ev:=fV) fs Y Y Y DT V (λ_=>Y) underlying96 underlying9 zeroValue67 Cf hf) (tz [(7,true),(8,true)] 0 (go 3 ?_))
  refine ax (go 9 ?_)
  by_cases h6:((s.args.length:Nat):Int)=((f.params.length:Nat):Int)
  ·refine wcp false Y (xG h6) (go 15 ?_)
   refine lE (λk=>bZ3 vis (s.args.take k) (f.params.take k)=0) (s.args.length) 37 (λk=>[(0,pP C),(3,pP b1),(4,Ci 0),(5,.c (Sq cP f.params)),(35,.c (Sq eJ s.args)),(36,nI s.args.length)]) (by simp [bZ3]) (sA Y) λk hk hvk=>?_
   replace hvk:bZ3 vis (s.args.take k) (f.params.take k)=0:=hvk
   try dsimp only
   refine go 2 ?_
   by_cases h8:((k:Nat):Int)<((s.args.length:Nat):Int)
   ·refine wcp true Y (jZ h8) (go 11 ?_)
    refine wyz Y (bH eJ eJ s.args iD (λ_=>Y) k Y Y Y Y J V runUnderlying118 sizeOf135) (go 14 λb2=>?_)
    refine dx [b2,b1,C] (tz [(0,true)] 8 (go 2 ?_))
    rcases Bool.eq_false_or_eq_true (s.args[k].mutex) with h10|h10
    focus
     refine tx 1 Y (fL (hy:=aX (hU:=λ_ h=>(kH.1 h).2 G0) [] isAgg4 sizeOf4) (bZ h10)) (tz [(2,true),(3,true)] 5 (go 3 ?_))
     refine tx 4 Y (bH cP cP f.params gL (λ_=>Y) k Y Y Y Y J V runUnderlying64 sizeOf69) (tz [(5,true)] 3 (go 2 ?_))
     rcases Bool.eq_false_or_eq_true (f.params[k].mutex) with h11|h11
     focus
      refine tx 6 Y (fL (hy:=iP Y Y isAgg4 sizeOf4 Y) (bZ h11)) ?_
      refine tx 7 Y (aJ8 false Y Y Y runUnderlying4 Y) (tz [(8,true)] 0 (go 2 ?_))
      refine ax (go 5 ?_)
      refine wyz Y (fL (bZ h10)) (go 8 ?_)
      refine wc0 Y call130 Y (cCr (_::_::A) B C gv gf p vis fs _ _ R rw hgf s.args[k].ref De) ?_
      rintro _ _ ⟨rfl,rfl⟩
      refine go 6 ?_
      have ha29:cBb vis s.args[k] f.params[k]=cA3 vis s.args[k].ref:=by unfold cBb;rw [h10,h11];rfl
      refine go 1 ?_
      by_cases h16:((cA3 vis s.args[k].ref:Nat):Int)=0
      ·refine wcp false Y (xG h16) (go 7 ?_)
       refine wad Y (go 2 ?_)
       exact ⟨J,(cBd vis _ _ k J J hvk (by rw [ha29];omega)),cQf (h1:=(.cons _ (.refl _))) (h:=aG Y (gQ J) (sA Y)) (λb hb=>List.mem_cons_of_mem _ (hb))⟩
      refine wcp true Y (xL h16) (go 15 ?_)
     rotate_left
     refine tx 6 Y (fL (hy:=iP Y Y isAgg4 sizeOf4 Y) (bZ h11)) ?_
     refine tx 7 Y (aJ8 true Y Y Y runUnderlying4 Y) (tz [(8,true)] 0 (go 2 ?_))
     refine ax (go 7 ?_)
     have ha29:cBb vis s.args[k] f.params[k]=8:=by unfold cBb;rw [h10,h11];rfl
     refine go 1 ?_
     refine wcp true Y Y (go 15 ?_)
    rotate_left 2
    focus
     refine tx 1 Y (fL (hy:=aX (hU:=λ_ h=>(kH.1 h).2 G0) [] isAgg4 sizeOf4) (bZ h10)) (tz [(2,true),(3,true)] 5 (go 3 ?_))
     refine tx 4 Y (bH cP cP f.params gL (λ_=>Y) k Y Y Y Y J V runUnderlying64 sizeOf69) (tz [(5,true)] 3 (go 2 ?_))
     rcases Bool.eq_false_or_eq_true (f.params[k].mutex) with h22|h22
     focus
      refine tx 6 Y (fL (hy:=iP Y Y isAgg4 sizeOf4 Y) (bZ h22)) ?_
      refine tx 7 Y (aJ8 true Y Y Y runUnderlying4 Y) (tz [(8,true)] 0 (go 2 ?_))
      refine ax (go 7 ?_)
      have ha29:cBb vis s.args[k] f.params[k]=8:=by unfold cBb;rw [h10,h22];rfl
      refine go 1 ?_
      refine wcp true Y Y (go 15 ?_)
     rotate_left
     refine tx 6 Y (fL (hy:=iP Y Y isAgg4 sizeOf4 Y) (bZ h22)) ?_
     refine tx 7 Y (aJ8 false Y Y Y runUnderlying4 Y) (tz [(8,true)] 0 (go 2 ?_))
     refine ax (go 5 ?_)
     refine wyz Y (fL (bZ h10)) (go 8 ?_)
     refine wc0 Y call128 Y (cB4 s.args[k].expr De (_::_::A) B C gv gf p vis fs _ _ R rw hgf) ?_
     rintro _ _ ⟨rfl,rfl⟩
     refine go 6 ?_
     have ha29:cBb vis s.args[k] f.params[k]=bZ1 vis s.args[k].expr:=by unfold cBb;rw [h10,h22];rfl
     refine go 1 ?_
     by_cases h30:((bZ1 vis s.args[k].expr:Nat):Int)=0
     ·refine wcp false Y (xG h30) (go 7 ?_)
      refine wad Y (go 2 ?_)
      exact ⟨J,(cBd vis _ _ k J J hvk (by rw [ha29];omega)),cQf (h1:=(.cons _ (.refl _))) (h:=aG Y (gQ J) (sA Y)) (λb hb=>List.mem_cons_of_mem _ (hb))⟩
     refine wcp true Y (xL h30) (go 15 ?_)
    all_goals
     exact ⟨.inr Y,_,⟨A++⟨C,98,[Sq dB p.globals,Sq bT p.mutexes,Sq fV p.funcs,Vm gv,Vm gf,Vi n,Vi at_]⟩::B,R++cR3 gv 0 evI vis::rw⟩,aR Y (aF Y),aA (.cons _ (.cons _ (.refl _))) (.refl _),aPy (by unfold cAx;rw [if_neg J,if_pos J,hf];show (((if s.args.length=f.params.length then bZ3 vis s.args f.params else 7:Nat):Int))=_;rw [if_pos J,cAq vis s.args f.params k J J hvk (by rw [ha29];omega),ha29]<;>rfl),rfl⟩
   refine wcp false Y (jQ h8) (go 15 ?_)
   exact ⟨.inr Y,_,⟨A++⟨C,98,[Sq dB p.globals,Sq bT p.mutexes,Sq fV p.funcs,Vm gv,Vm gf,Vi n,Vi at_]⟩::B,R++cR3 gv 0 evI vis::rw⟩,aR Y (aF Y),aA (.cons _ (.refl _)) (.refl _),aPy (by unfold cAx;rw [if_neg J,if_pos J,hf];show (((if s.args.length=f.params.length then bZ3 vis s.args f.params else 7:Nat):Int))=_;rw [take_of_length_le J,take_of_length_le J] at hvk;rw [if_pos J,hvk];rfl),Y⟩
  refine wcp true Y (xL h6) (go 10 ?_)
  exact ⟨.inr Y,_,⟨A++⟨C,98,[Sq dB p.globals,Sq bT p.mutexes,Sq fV p.funcs,Vm gv,Vm gf,Vi n,Vi at_]⟩::B,R++cR3 gv 0 evI vis::rw⟩,aR Y (aF Y),aA (.cons _ (.refl _)) (.refl _),aPy (by unfold cAx;rw [if_neg J,if_pos J,hf];show (((if s.args.length=f.params.length then bZ3 vis s.args f.params else 7:Nat):Int))=_;rw [if_neg J];rfl),Y⟩
 refine wcp false Y (eD h4) (go 12 ?_)
 exact ⟨.inr Y,_,⟨A++⟨C,98,[Sq dB p.globals,Sq bT p.mutexes,Sq fV p.funcs,Vm gv,Vm gf,Vi n,Vi at_]⟩::B,R++cR3 gv 0 evI vis::rw⟩,aR Y (aF Y),aA (.cons _ (.refl _)) (.refl _),aPy (by unfold cAx;simp [h1,h4]),Y⟩
theorem cDp(A B:List Box)(C gv gf:Nat)(p:cK)(vis:Vis)(fs:Fns)(n at_:Int)(R rw:List bA)(hgf:cR3 gf 3 fV fs∈R)(s:aJ)(hw:s.wt <= 900000000)(hfo:bZt vis fs):aL prog 95 [pP C,.agg (dG s)] [] ⟨A++⟨C,98,[Sq dB p.globals,Sq bT p.mutexes,Sq fV p.funcs,Vm gv,Vm gf,Vi n,Vi at_]⟩::B,R++cR3 gv 0 evI vis::rw⟩ λt s'=>t=Ci ((bZ5 vis fs s:Nat):Int) /\ s'=⟨A++⟨C,98,[Sq dB p.globals,Sq bT p.mutexes,Sq fV p.funcs,Vm gv,Vm gf,Vi n,Vi at_]⟩::B,R++cR3 gv 0 evI vis::rw⟩:=by
 have hwp:=gD s
 unfold cY.wt at hwp
 refine acX 55 func95 ?_
 refine go 16 λb1=>?_
 by_cases h1:s.kind=1
 ·refine wcp true Y (eR h1) (go 6 ?_)
  refine dx [b1,C,gv,gf] (tz [(0,true),(1,true),(2,true),(3,true),(4,true),(5,true)] 2 (go 7 ?_))
  refine tx 6 Y (cAm vis Y Y Y G0 underlying95 underlying9 zeroValue157 Cf) ?_
  by_cases h3:(bZp vis s.name)=0
  focus
   refine tx 7 Y (bO false Y Y Y (xG h3)) ?_
   refine ax (go 9 ?_)
   refine wc0 Y call128 Y (cB4 s.expr J (_::A) B C gv gf p vis fs _ _ R rw hgf) ?_
   rintro _ _ ⟨rfl,rfl⟩
   refine go 6 ?_
  rotate_left
  refine tx 7 Y (bO true Y Y Y (xL h3)) ?_
  refine ax (go 11 ?_)
  all_goals
   exact ⟨.inr Y,_,⟨A++⟨C,98,[Sq dB p.globals,Sq bT p.mutexes,Sq fV p.funcs,Vm gv,Vm gf,Vi n,Vi at_]⟩::B,R++cR3 gv 0 evI vis::rw⟩,aR Y (aF Y),aA (.cons _ (.refl _)) (.refl _),aPy (by unfold bZ5;simp [h1,h3]<;>(split<;>omega)),rfl⟩
 refine wcp false Y (eD h1) (go 6 ?_)
 by_cases h8:s.kind=2
 ·refine wcp true Y (eR h8) (go 10 ?_)
  refine wc0 Y call129 Y (cDu (_::A) B C gv gf p vis fs _ _ R rw hgf s.name) ?_
  rintro _ _ ⟨rfl,rfl⟩
  refine go 6 ?_
  by_cases h11:((cBh vis s.name:Nat):Int)=0
  focus
   refine wcp false Y (xG h11) (go 10 ?_)
   refine wc0 Y call128 Y (cB4 s.expr J (_::A) B C gv gf p vis fs _ _ R rw hgf) ?_
   rintro _ _ ⟨rfl,rfl⟩
   refine go 6 ?_
  rotate_left
  refine wcp true Y (xL h11) (go 13 ?_)
  all_goals
   exact ⟨.inr Y,_,⟨A++⟨C,98,[Sq dB p.globals,Sq bT p.mutexes,Sq fV p.funcs,Vm gv,Vm gf,Vi n,Vi at_]⟩::B,R++cR3 gv 0 evI vis::rw⟩,aR Y (aF Y),aA (.cons _ (.refl _)) (.refl _),aPy (by unfold bZ5;simp [h1,h8,h11]<;>(split<;>omega)),rfl⟩
 refine wcp false Y (eD h8) (go 7 ?_)
 by_cases h16:s.kind=5
 ·refine wcp true Y (eR h16) (go 12 ?_)
  refine wc0 Y call130 Y (cCr (_::A) B C gv gf p vis fs _ _ R rw hgf s.ref J) ?_
  rintro _ _ ⟨rfl,rfl⟩
  refine go 6 ?_
  exact ⟨.inr Y,_,⟨A++⟨C,98,[Sq dB p.globals,Sq bT p.mutexes,Sq fV p.funcs,Vm gv,Vm gf,Vi n,Vi at_]⟩::B,R++cR3 gv 0 evI vis::rw⟩,aR Y (aF Y),aA (.cons _ (.refl _)) (.refl _),aPy (by unfold bZ5;simp [h1,h8,h16]<;>(split<;>omega)),rfl⟩
 refine wcp false Y (eD h16) (go 5 ?_)
 by_cases h21:s.kind=6
 ·refine wcp true Y (eR h21) (go 9 ?_)
  refine wc0 Y call130 Y (cCr (_::A) B C gv gf p vis fs _ _ R rw hgf s.ref J) ?_
  rintro _ _ ⟨rfl,rfl⟩
  refine go 6 ?_
  exact ⟨.inr Y,_,⟨A++⟨C,98,[Sq dB p.globals,Sq bT p.mutexes,Sq fV p.funcs,Vm gv,Vm gf,Vi n,Vi at_]⟩::B,R++cR3 gv 0 evI vis::rw⟩,aR Y (aF Y),aA (.cons _ (.refl _)) (.refl _),aPy (by unfold bZ5;simp [h1,h8,h16,h21]<;>(split<;>omega)),rfl⟩
 refine wcp false Y (eD h21) (go 7 ?_)
 by_cases h25:s.kind=3
 ·refine wcp true Y (eR h25) (go 11 ?_)
  refine wc0 Y call131 Y (cC1 (_::A) B C gv gf p vis fs _ _ R rw hgf s hw hfo) ?_
  rintro _ _ ⟨rfl,rfl⟩
  refine go 6 ?_
  exact ⟨.inr Y,_,⟨A++⟨C,98,[Sq dB p.globals,Sq bT p.mutexes,Sq fV p.funcs,Vm gv,Vm gf,Vi n,Vi at_]⟩::B,R++cR3 gv 0 evI vis::rw⟩,aR Y (aF Y),aA (.cons _ (.refl _)) (.refl _),aPy (by unfold bZ5;simp [h1,h8,h16,h21,h25]<;>(split<;>omega)),rfl⟩
 refine wcp false Y (eD h25) (go 5 ?_)
 by_cases h30:s.kind=4
 ·refine wcp true Y (eR h30) (go 8 ?_)
  refine wc0 Y call131 Y (cC1 (_::A) B C gv gf p vis fs _ _ R rw hgf s hw hfo) ?_
  rintro _ _ ⟨rfl,rfl⟩
  refine go 6 ?_
  exact ⟨.inr Y,_,⟨A++⟨C,98,[Sq dB p.globals,Sq bT p.mutexes,Sq fV p.funcs,Vm gv,Vm gf,Vi n,Vi at_]⟩::B,R++cR3 gv 0 evI vis::rw⟩,aR Y (aF Y),aA (.cons _ (.refl _)) (.refl _),aPy (by unfold bZ5;simp [h1,h8,h16,h21,h25,h30]<;>(split<;>omega)),rfl⟩
 refine wcp false Y (eD h30) (go 7 ?_)
 by_cases h34:s.kind=7
 ·refine wcp true Y (eR h34) (go 12 ?_)
  refine wc0 Y call128 Y (cB4 s.expr J (_::A) B C gv gf p vis fs _ _ R rw hgf) ?_
  rintro _ _ ⟨rfl,rfl⟩
  refine go 6 ?_
  exact ⟨.inr Y,_,⟨A++⟨C,98,[Sq dB p.globals,Sq bT p.mutexes,Sq fV p.funcs,Vm gv,Vm gf,Vi n,Vi at_]⟩::B,R++cR3 gv 0 evI vis::rw⟩,aR Y (aF Y),aA (.cons _ (.refl _)) (.refl _),aPy (by unfold bZ5;simp [h1,h8,h16,h21,h25,h30,h34]<;>(split<;>omega)),rfl⟩
 refine wcp false Y (eD h34) (go 5 ?_)
 by_cases h39:s.kind=8
 focus
  refine wcp true Y (eR h39) (go 9 ?_)
  refine wc0 Y call128 Y (cB4 s.expr J (_::A) B C gv gf p vis fs _ _ R rw hgf) ?_
  rintro _ _ ⟨rfl,rfl⟩
  refine go 6 ?_
 rotate_left
 refine wcp false Y (eD h39) (go 13 ?_)
 all_goals
  exact ⟨.inr Y,_,⟨A++⟨C,98,[Sq dB p.globals,Sq bT p.mutexes,Sq fV p.funcs,Vm gv,Vm gf,Vi n,Vi at_]⟩::B,R++cR3 gv 0 evI vis::rw⟩,aR Y (aF Y),aA (.cons _ (.refl _)) (.refl _),aPy (by unfold bZ5;simp [h1,h8,h16,h21,h25,h30,h34,h39]<;>(split<;>omega)),rfl⟩
theorem cAn{fs:Fns}{l:List aJ}{own:List ByteArray}{st x:RS}{k:Nat}(hk:k<l.length)(h:bZr fs (l.drop k) own st=bZr fs l [] x):
  ((bZ4 fs l[k] st).1≠0 -> bZ2 fs l x=bZ4 fs l[k] st) /\ ((bZ4 fs l[k] st).1=0 -> bZr fs (l.drop (k+1)) (cCp l[k] own) (bZ4 fs l[k] st).2=bZr fs l [] x):=by
 rw [List.drop_eq_getElem_cons hk,bZr] at h
 refine ⟨λh0=>?_,λh0=>?_⟩
 ·rw [if_neg h0] at h
  unfold bZ2;rw [←h];unfold cA7;rw [if_neg h0]
 rw [if_pos h0] at h;exact h
theorem cDn{fs:Fns}{l:List aJ}{own:List ByteArray}{st x:RS}{k:Nat}(hk:k=l.length)(h:bZr fs (l.drop k) own st=bZr fs l [] x):bZ2 fs l x=(0,⟨own.foldl bZy st.vis,st.n,st.at_⟩):=by
 rw [List.drop_eq_nil_of_le J,bZr] at h
 unfold bZ2;rw [←h];rfl
theorem cDy(l:List aJ)(k:Nat)(h:k<l.length):wtS (l.drop k)=l[k].wt+wtS (l.drop (k+1)):=by rw [List.drop_eq_getElem_cons h,wtS]
theorem cD7(own:List ByteArray)(v:Vis)(j:Nat)(h:j<own.length):bZy ((own.take j).foldl bZy v) own[j]=(own.take (j+1)).foldl bZy v:=by
 rw [List.take_succ_eq_append_getElem h,List.foldl_append];rfl
theorem cBl(l:List aJ)(ih1:∀k (h:k<l.length) (A B:List Box) (C gv gf:Nat) (p:cK) (fs:Fns) (R rw:List bA) (hgf:cR3 gf 3 fV fs∈R) (z:Int) (x:RS) (hz:z=((x.n:Nat):Int)) (hfo:bZt x.vis fs) (hn:x.n+wtS l[k].thn <= 900000000),aL prog 70 [pP C,.c (Sq encS l[k].thn)] [C,gv] ⟨A++⟨C,98,[Sq dB p.globals,Sq bT p.mutexes,Sq fV p.funcs,Vm gv,Vm gf,Vi z,Vi x.at_]⟩::B,R++cR3 gv 0 evI x.vis::rw⟩ λt s'=>∃(e:Nat) (y:RS),bZ2 fs l[k].thn x=(e,y) /\ t=nI e /\ s'=⟨A++⟨C,98,[Sq dB p.globals,Sq bT p.mutexes,Sq fV p.funcs,Vm gv,Vm gf,nC y.n,Vi y.at_]⟩::B,R++cR3 gv 0 evI y.vis::rw⟩)(ih2:∀k (h:k<l.length) (A B:List Box) (C gv gf:Nat) (p:cK) (fs:Fns) (R rw:List bA) (hgf:cR3 gf 3 fV fs∈R) (z:Int) (x:RS) (hz:z=((x.n:Nat):Int)) (hfo:bZt x.vis fs) (hn:x.n+wtS l[k].els <= 900000000),aL prog 70 [pP C,.c (Sq encS l[k].els)] [C,gv] ⟨A++⟨C,98,[Sq dB p.globals,Sq bT p.mutexes,Sq fV p.funcs,Vm gv,Vm gf,Vi z,Vi x.at_]⟩::B,R++cR3 gv 0 evI x.vis::rw⟩ λt s'=>∃(e:Nat) (y:RS),bZ2 fs l[k].els x=(e,y) /\ t=nI e /\ s'=⟨A++⟨C,98,[Sq dB p.globals,Sq bT p.mutexes,Sq fV p.funcs,Vm gv,Vm gf,nC y.n,Vi y.at_]⟩::B,R++cR3 gv 0 evI y.vis::rw⟩)(A B:List Box)(C gv gf:Nat)(p:cK)(fs:Fns)(R rw:List bA)(hgf:cR3 gf 3 fV fs∈R)(z:Int)(x:RS)(hz:z=((x.n:Nat):Int))(hfo:bZt x.vis fs)(hn:x.n+wtS l <= 900000000):aL prog 70 [pP C,.c (Sq encS l)] [C,gv] ⟨A++⟨C,98,[Sq dB p.globals,Sq bT p.mutexes,Sq fV p.funcs,Vm gv,Vm gf,Vi z,Vi x.at_]⟩::B,R++cR3 gv 0 evI x.vis::rw⟩ λt s'=>∃(e:Nat) (y:RS),bZ2 fs l x=(e,y) /\ t=nI e /\ s'=⟨A++⟨C,98,[Sq dB p.globals,Sq bT p.mutexes,Sq fV p.funcs,Vm gv,Vm gf,nC y.n,Vi y.at_]⟩::B,R++cR3 gv 0 evI y.vis::rw⟩:=by
 subst hz
 obtain ⟨x0,rfl⟩:∃y,y=x:=⟨_,rfl⟩
 have hln:=uZ l
 refine acX 80 func70 ?_
 refine go 19 ?_
 refine qR 9 1 ?_
 refine fM (λg:Nat×Value×List ByteArray×RS=>(⟨80,aY g.2.1++[C,gv],⟨A++⟨C,98,[Sq dB p.globals,Sq bT p.mutexes,Sq fV p.funcs,Vm gv,Vm gf,nC g.2.2.2.n,Vi g.2.2.2.at_]⟩::B,⟨g.2.1,9,1,g.2.2.1.length,bP g.2.2.1⟩::R++cR3 gv 0 evI g.2.2.2.vis::rw⟩,[(15,nI g.1),(5,Cv g.2.1),(0,pP C),(4,Ci 0),(13,.c (Sq encS l)),(14,nI l.length)]⟩:AS)) (λg=>g.1 <= l.length /\ bZr fs (l.drop g.1) g.2.2.1 g.2.2.2=bZr fs l [] x0 /\ bZt g.2.2.2.vis fs /\ g.2.2.2.n+wtS (l.drop g.1) <= 900000000 /\ g.2.2.1.length <= g.1) (λg=>l.length-g.1) (0,.slice none 0 0,[],x0) (cQf (by intro b hb;simpa [aY,Value.ownBlock] using hb)) ⟨Nat.zero_le _,Y,hfo,hn,Nat.le_refl _⟩ ?_
 rintro ⟨k,v,own,⟨vis,n,at_⟩⟩ ⟨hk,hst,hfk,hnk,hol⟩
 dsimp only at hk hst hfk hnk hol
 try dsimp only
 refine go 2 ?_
 by_cases h1:((k:Nat):Int)<((l.length:Nat):Int)
 ·refine wcp true Y (jZ h1) (go 10 ?_)
  refine wyz Y (bH encS dG l cZo cJ k Y Y Y Y J V runUnderlying65 sizeOf120) (go 23 λb1=>?_)
  refine wad Y (go 10 ?_)
  have hwk:=uF l k J
  have hwd:=cDy l k J
  have hwq:=gD l[k]
  obtain ⟨e0,hpa⟩:∃e,bZ5 vis fs l[k]=e:=⟨_,rfl⟩
  refine wc0 Y call95 Y (cDp (_::A) B C gv gf p vis fs _ _ (_::R) rw DT l[k] J hfk) ?_
  rintro _ _ ⟨rfl,rfl⟩
  rw [hpa]
  refine go 6 ?_
  by_cases h3:((e0:Nat):Int)=0
  ·refine wcp false Y (xG h3) (go 10 ?_)
   by_cases h5:l[k].kind=1
   focus
    refine wcp true Y (eR h5) (go 4 ?_)
    refine dx [b1,C] (tz [(0,true),(1,true),(2,true),(3,true),(4,true),(5,true)] 1 (go 7 ?_))
    refine ox 6 Y Y (cAt vis (_::R) Y Y Y Y Y underlying95 underlying9 G0 Dc ?_)
    refine ax (go 5 ?_)
    refine wo Y (bDk (r:=bP [l[k].name]) cG8 ?_)
    refine wo Y (bDm [] dFs Y Y V B1 J (@length_append _ own [l[k].name]).symm Bo Bq (r:=bP (own++[l[k].name])) (by simp [bP]) λw2=>?_)
    refine go 9 ?_
    obtain rfl:e0=0:=J
    have hbg:cAy l[k] ⟨vis,n,at_⟩=⟨(bZq vis l[k].name 1),n+1,n⟩:=by unfold cAy;dsimp only;rw [if_pos h5]
    have hf0:bZt (bZq vis l[k].name 1) fs:=hfk.put _ V
    refine wo Y (bD [C,gv] Y Y V call70 Y (ih1 k J (_::A) B C gv gf p fs (_::R) rw DT _ ⟨(bZq vis l[k].name 1),n+1,n⟩ EN hf0 EF) Ba AQ AX ?_)
    rintro _ _ ⟨e1,⟨vis1,n1,at1⟩,hy1,rfl,rfl⟩
    have hb1:=cBf fs l[k].thn ⟨(bZq vis l[k].name 1),n+1,n⟩
    rw [hy1] at hb1
    have hf1:=cAs (l:=l[k].thn) (x:=⟨(bZq vis l[k].name 1),n+1,n⟩) hf0
    rw [hy1] at hf1
    dsimp only at hb1 hf1
    refine go 6 ?_
    by_cases h14:((e1:Nat):Int)=0
    ·refine wcp false Y (xG h14) (go 10 ?_)
     refine wo Y (bD [C,gv] Y Y V call70 Y (ih2 k J (_::A) B C gv gf p fs (_::R) rw DT _ ⟨vis1,n1,at1⟩ EX hf1 EO) Ba AQ AX ?_)
     rintro _ _ ⟨e2,⟨vis2,n2,at2⟩,hy2,rfl,rfl⟩
     have hb2:=cBf fs l[k].els ⟨vis1,n1,at1⟩
     rw [hy2] at hb2
     have hf2:=cAs (l:=l[k].els) (x:=⟨vis1,n1,at1⟩) hf1
     rw [hy2] at hf2
     dsimp only at hb2 hf2
     refine go 6 ?_
     by_cases h9:((e2:Nat):Int)=0
     ·refine wcp false Y (xG h9) (go 7 ?_)
      refine wad Y (go 2 ?_)
      have hs9:bZ4 fs l[k] ⟨vis,n,at_⟩=(0,⟨vis2,n2,at2⟩):=BG
      have hnx:=(cAn J hst).2 (by rw [hs9])
      rw [hs9] at hnx
      rw [show cCp l[k] own=(own++[l[k].name]) from if_pos h5] at hnx
      exact ⟨(k+1,w2,(own++[l[k].name]),⟨vis2,n2,at2⟩),⟨by show k+1 <= l.length;omega,hnx,hf2,EC,by show (own++[l[k].name]).length <= k+1;rw [length_append];simp only [List.length_singleton];omega⟩,by show l.length-(k+1)<l.length-k;omega,cQf (h1:=(.cons _ (.refl _))) (h:=aG Y (gQ J) (sA Y)) BP⟩
     refine wcp true Y (xL h9) (go 15 ?_)
     have hs9:bZ4 fs l[k] ⟨vis,n,at_⟩=(e2,⟨vis2,n2,at2⟩):=CC
     have hbk:=(cAn J hst).1 (by rw [hs9];show e2≠0;omega)
     rw [hs9] at hbk
     exact ⟨.inr Y,_,⟨A++⟨C,98,[Sq dB p.globals,Sq bT p.mutexes,Sq fV p.funcs,Vm gv,Vm gf,nC n2,Vi at2]⟩::B,R++cR3 gv 0 evI vis2::rw⟩,aR Y (aF Y),aA (.cons _ (.refl _)) (.cons _ (.refl _)),e2,⟨vis2,n2,at2⟩,hbk,Y,Y⟩
   rotate_left
   refine wcp false Y (eD h5) (go 11 ?_)
   obtain rfl:e0=0:=J
   have hbg:cAy l[k] ⟨vis,n,at_⟩=⟨vis,n+1,n⟩:=by unfold cAy;dsimp only;rw [if_neg h5]
   have hf0:bZt vis fs:=hfk
   refine wo Y (bD [C,gv] Y Y V call70 Y (ih1 k J (_::A) B C gv gf p fs (_::R) rw DT _ ⟨vis,n+1,n⟩ EN hf0 EF) Ba AQ AX ?_)
   rintro _ _ ⟨e1,⟨vis1,n1,at1⟩,hy1,rfl,rfl⟩
   have hb1:=cBf fs l[k].thn ⟨vis,n+1,n⟩
   rw [hy1] at hb1
   have hf1:=cAs (l:=l[k].thn) (x:=⟨vis,n+1,n⟩) hf0
   rw [hy1] at hf1
   dsimp only at hb1 hf1
   refine go 6 ?_
   by_cases h14:((e1:Nat):Int)=0
   ·refine wcp false Y (xG h14) (go 10 ?_)
    refine wo Y (bD [C,gv] Y Y V call70 Y (ih2 k J (_::A) B C gv gf p fs (_::R) rw DT _ ⟨vis1,n1,at1⟩ EX hf1 EO) Ba AQ AX ?_)
    rintro _ _ ⟨e2,⟨vis2,n2,at2⟩,hy2,rfl,rfl⟩
    have hb2:=cBf fs l[k].els ⟨vis1,n1,at1⟩
    rw [hy2] at hb2
    have hf2:=cAs (l:=l[k].els) (x:=⟨vis1,n1,at1⟩) hf1
    rw [hy2] at hf2
    dsimp only at hb2 hf2
    refine go 6 ?_
    by_cases h16:((e2:Nat):Int)=0
    ·refine wcp false Y (xG h16) (go 7 ?_)
     refine wad Y (go 2 ?_)
     have hs9:bZ4 fs l[k] ⟨vis,n,at_⟩=(0,⟨vis2,n2,at2⟩):=BG
     have hnx:=(cAn J hst).2 (by rw [hs9])
     rw [hs9] at hnx
     rw [show cCp l[k] own=own from if_neg h5] at hnx
     exact ⟨(k+1,v,own,⟨vis2,n2,at2⟩),⟨by show k+1 <= l.length;omega,hnx,hf2,EC,by show own.length <= k+1;omega⟩,by show l.length-(k+1)<l.length-k;omega,cQf (h1:=(.cons _ (.refl _))) (h:=aG Y (gQ J) (sA Y)) BP⟩
    refine wcp true Y (xL h16) (go 15 ?_)
    have hs9:bZ4 fs l[k] ⟨vis,n,at_⟩=(e2,⟨vis2,n2,at2⟩):=CC
    have hbk:=(cAn J hst).1 (by rw [hs9];show e2≠0;omega)
    rw [hs9] at hbk
    exact ⟨.inr Y,_,⟨A++⟨C,98,[Sq dB p.globals,Sq bT p.mutexes,Sq fV p.funcs,Vm gv,Vm gf,nC n2,Vi at2]⟩::B,R++cR3 gv 0 evI vis2::rw⟩,aR Y (aF Y),aA (.cons _ (.refl _)) (.cons _ (.refl _)),e2,⟨vis2,n2,at2⟩,hbk,Y,Y⟩
   all_goals
    refine wcp true Y (xL h14) (go 16 ?_)
    have hs9:bZ4 fs l[k] ⟨vis,n,at_⟩=(e1,⟨vis1,n1,at1⟩):=by rw [bZ9,if_pos hpa,hbg,hy1];show (if e1=0 then _ else _)=_;rw [if_neg J]
    have hbk:=(cAn J hst).1 (by rw [hs9];show e1≠0;omega)
    rw [hs9] at hbk
    exact ⟨.inr Y,_,⟨A++⟨C,98,[Sq dB p.globals,Sq bT p.mutexes,Sq fV p.funcs,Vm gv,Vm gf,nC n1,Vi at1]⟩::B,R++cR3 gv 0 evI vis1::rw⟩,aR Y (aF Y),aA (.cons _ (.refl _)) (.cons _ (.refl _)),e1,⟨vis1,n1,at1⟩,hbk,Y,Y⟩
  refine wcp true Y (xL h3) (go 16 ?_)
  have hs9:bZ4 fs l[k] ⟨vis,n,at_⟩=(e0,⟨vis,n+1,n⟩):=by rw [bZ9,if_neg (by rw [hpa];omega),hpa]
  have hbk:=(cAn J hst).1 (by rw [hs9];show e0≠0;omega)
  rw [hs9] at hbk
  exact ⟨.inr Y,_,⟨A++⟨C,98,[Sq dB p.globals,Sq bT p.mutexes,Sq fV p.funcs,Vm gv,Vm gf,Vi ((n+1:Nat):Int),nC n]⟩::B,R++cR3 gv 0 evI vis::rw⟩,aR Y (aF Y),aA (.cons _ (.refl _)) (.cons _ (.refl _)),e0,⟨vis,n+1,n⟩,hbk,Y,Y⟩
 refine wcp false Y (jQ h1) (go 11 ?_)
 obtain rfl:k=l.length:=J
 have hb9:=cDn Y hst
 refine aH0 5 Y ?_
 refine go 7 ?_
 refine fM (λj:Nat=>(⟨80,[C,gv],⟨A++⟨C,98,[Sq dB p.globals,Sq bT p.mutexes,Sq fV p.funcs,Vm gv,Vm gf,nC n,Vi at_]⟩::B,R++cR3 gv 0 evI ((own.take j).foldl bZy vis)::rw⟩,[(70,nI j),(0,pP C),(4,Ci 0),(68,.c (.sl own.length (bP own))),(69,nI own.length)]⟩:AS)) (λj=>j <= own.length) (λj=>own.length-j) 0 (cQf Ba) (Nat.zero_le _) ?_
 intro j hj
 try dsimp only
 refine go 2 ?_
 by_cases h22:((j:Nat):Int)<((own.length:Nat):Int)
 ·refine wcp true Y (jZ h22) (go 10 ?_)
  refine wyz Y (rT (λx=>Vs x) own j Y Y Y Y J runUnderlying61 sizeOf9) (go 10 ?_)
  refine wo Y (cBu ((own.take j).foldl bZy vis) R Y Y Y Y underlying95 underlying9 G0 He ?_)
  refine go 4 ?_
  refine wad Y (go 2 ?_)
  rw [cD7 own vis j J]
  exact ⟨j+1,J,by show own.length-(j+1)<own.length-j;omega,cQf (h:=aG Y (gQ J) (sA Y)) (λb hb=>hb)⟩
 refine wcp false Y (jQ h22) (go 15 ?_)
 obtain rfl:j=own.length:=J
 rw [take_of_length_le (Nat.le_refl _)]
 exact ⟨.inr Y,_,⟨A++⟨C,98,[Sq dB p.globals,Sq bT p.mutexes,Sq fV p.funcs,Vm gv,Vm gf,nC n,Vi at_]⟩::B,R++cR3 gv 0 evI (own.foldl bZy vis)::rw⟩,aR Y (aF Y),aA (.refl _) (.refl _),0,⟨own.foldl bZy vis,n,at_⟩,hb9,Y,Y⟩
theorem cBr:∀(N:Nat)(l:List aJ),wtS l <= N -> ∀(A B:List Box) (C gv gf:Nat) (p:cK) (fs:Fns) (R rw:List bA) (hgf:cR3 gf 3 fV fs∈R) (z:Int) (x:RS) (hz:z=((x.n:Nat):Int)) (hfo:bZt x.vis fs) (hn:x.n+wtS l <= 900000000),aL prog 70 [pP C,.c (Sq encS l)] [C,gv] ⟨A++⟨C,98,[Sq dB p.globals,Sq bT p.mutexes,Sq fV p.funcs,Vm gv,Vm gf,Vi z,Vi x.at_]⟩::B,R++cR3 gv 0 evI x.vis::rw⟩ λt s'=>∃(e:Nat) (y:RS),bZ2 fs l x=(e,y) /\ t=nI e /\ s'=⟨A++⟨C,98,[Sq dB p.globals,Sq bT p.mutexes,Sq fV p.funcs,Vm gv,Vm gf,nC y.n,Vi y.at_]⟩::B,R++cR3 gv 0 evI y.vis::rw⟩
 |0,l,h=>λA B C gv gf p fs R rw hgf z x hz hfo hn=>cBl l (λk hk=>Cy) (λk hk=>Cy) A B C gv gf p fs R rw hgf z x hz hfo hn
 |N+1,l,h=>λA B C gv gf p fs R rw hgf z x hz hfo hn=>cBl l
   (λk hk=>cBr N l[k].thn Cd)
   (λk hk=>cBr N l[k].els Cd) A B C gv gf p fs R rw hgf z x hz hfo hn
theorem cBc{fs:Fns}:∀(l:List aS) {v:Vis},bZt v fs -> bZt (bZv l v).2 fs
 |[],_,h=>h
 |x::l,v,h=>by
  rw [bZv];split
  ·exact cBc l (h.put _ (by unfold cAw;split<;>decide))
  exact h
theorem cCl{fs:Fns}:∀(l:List aS) {v:Vis},bZt v fs -> bZt (cAk l v) fs
 |[],_,h=>h
 |x::l,v,h=>cCl l (h.del x.name)
theorem cDt{fs:Fns}(f:bS){v:Vis}(h:bZt v fs):bZt (cAe fs f v).2.vis fs:=by
 unfold cAe;split
 ·exact cCl _ (cAs (cBc _ h))
 exact cBc _ h
theorem cBv{l:List aS}{v v0:Vis}{k:Nat}(hk:k<l.length)(h:bZv (l.drop k) v=bZv l v0):
  (bZp v l[k].name=0 -> bZv (l.drop (k+1)) (bZq v l[k].name (cAw l[k]))=bZv l v0) /\ (bZp v l[k].name≠0 -> bZv l v0=(false,v)):=by
 rw [List.drop_eq_getElem_cons hk,bZv] at h
 refine ⟨λh0=>?_,λh0=>?_⟩
 ·rw [if_pos h0] at h;exact h
 rw [if_neg h0] at h;exact h.symm
theorem cDe(l:List aS)(v:Vis)(j:Nat)(h:j<l.length):bZy (cAk (l.take j) v) l[j].name=cAk (l.take (j+1)) v:=by
 unfold cAk;rw [List.take_succ_eq_append_getElem h,List.foldl_append];rfl
theorem cD6(A B:List Box)(C gv gf:Nat)(p:cK)(fs:Fns)(R rw:List bA)(hgf:cR3 gf 3 fV fs∈R)(n0 a0:Int)(v0:Vis)(f:bS)(hfo:bZt v0 fs)(hw:f.wt <= 900000000):aL prog 33 [pP C,.agg (fV f)] [C,gv] ⟨A++⟨C,98,[Sq dB p.globals,Sq bT p.mutexes,Sq fV p.funcs,Vm gv,Vm gf,Vi n0,Vi a0]⟩::B,R++cR3 gv 0 evI v0::rw⟩ λt s'=>∃(e:Nat) (y:RS),cAe fs f v0=(e,y) /\ t=nI e /\ s'=⟨A++⟨C,98,[Sq dB p.globals,Sq bT p.mutexes,Sq fV p.funcs,Vm gv,Vm gf,nC y.n,Vi y.at_]⟩::B,R++cR3 gv 0 evI y.vis::rw⟩:=by
 unfold bS.wt at hw
 refine acX 65 func33 ?_
 refine go 28 λb1=>?_
 refine fM (λg:Nat×Vis=>(⟨65,[b1,C,gv],⟨⟨b1,67,fV f⟩::A++⟨C,98,[Sq dB p.globals,Sq bT p.mutexes,Sq fV p.funcs,Vm gv,Vm gf,nC 0,Vi (-1)]⟩::B,R++cR3 gv 0 evI g.2::rw⟩,[(19,nI g.1),(0,pP C),(3,pP b1),(4,Ci 0),(17,.c (Sq cP f.params)),(18,nI f.params.length)]⟩:AS)) (λg=>g.1 <= f.params.length /\ bZv (f.params.drop g.1) g.2=bZv f.params v0 /\ bZt g.2 fs) (λg=>f.params.length-g.1) (0,v0) (cQf (λb hb=>hb)) ⟨Nat.zero_le _,Y,hfo⟩ ?_
 rintro ⟨k,vis⟩ ⟨hk,hst,hfk⟩
 dsimp only at hk hst hfk
 try dsimp only
 refine go 2 ?_
 by_cases h1:((k:Nat):Int)<((f.params.length:Nat):Int)
 ·refine wcp true Y (jZ h1) (go 10 ?_)
  refine wyz Y (bH cP cP f.params gL (λ_=>Y) k Y Y Y Y J V runUnderlying64 sizeOf69) (go 7 λb2=>?_)
  refine dx [b2,b1,C,gv,gf] (tz [(0,true),(1,true),(2,true),(3,true),(4,true),(5,true)] 2 (go 7 ?_))
  refine tx 6 Y (cAm vis Y Y Y G0 underlying95 underlying9 zeroValue157 Cf) ?_
  by_cases h3:(bZp vis f.params[k].name)=0
  ·refine tx 7 Y (bO false Y Y Y (xG h3)) ?_
   refine ax (go 5 ?_)
   refine dx [b2,b1,C] (tz [(0,true),(1,true),(2,true),(3,true),(4,true),(5,true)] 1 (go 7 ?_))
   refine ox 6 Y Y (cAt vis R Y Y Y Y Y underlying95 underlying9 G0 Dc ?_)
   refine ax (go 4 ?_)
   rcases Bool.eq_false_or_eq_true (f.params[k].mutex) with h5|h5
   ·refine wyz Y (fL (bZ h5)) (go 3 ?_)
    refine dx [b2,b1,C] (tz [(0,true),(1,true),(2,true),(3,true),(4,true),(5,true)] 1 (go 7 ?_))
    refine ox 6 Y Y (cAt (bZq vis f.params[k].name 1) R Y Y Y Y Y underlying95 underlying9 G0 Dc ?_)
    refine ax (go 3 ?_)
    refine wad Y (go 2 ?_)
    have hnx:=(cBv J hst).1 J
    have hsp:cAw f.params[k]=4:=by unfold cAw;rw [h5];rfl
    rw [cEg]
    rw [hsp] at hnx
    exact ⟨(k+1,bZq vis f.params[k].name 4),⟨by show k+1 <= f.params.length;omega,hnx,hfk.put _ V⟩,Bb,cQf (h1:=(.cons _ (.refl _))) (h:=aG Y (gQ J) (sA Y)) AP⟩
   refine wyz Y (fL (bZ h5)) (go 7 ?_)
   refine wad Y (go 2 ?_)
   have hnx:=(cBv J hst).1 J
   have hsp:cAw f.params[k]=1:=by unfold cAw;rw [h5];rfl
   rw [hsp] at hnx
   exact ⟨(k+1,bZq vis f.params[k].name 1),⟨by show k+1 <= f.params.length;omega,hnx,hfk.put _ V⟩,Bb,cQf (h1:=(.cons _ (.refl _))) (h:=aG Y (gQ J) (sA Y)) AP⟩
  refine tx 7 Y (bO true Y Y Y (xL h3)) ?_
  refine ax (go 14 ?_)
  exact ⟨.inr Y,_,⟨A++⟨C,98,[Sq dB p.globals,Sq bT p.mutexes,Sq fV p.funcs,Vm gv,Vm gf,nC 0,Vi (-1)]⟩::B,R++cR3 gv 0 evI vis::rw⟩,aR Y (aF Y),aA (.cons _ (.cons _ (.refl _))) (.refl _),5,⟨vis,0,-1⟩,by unfold cAe;rw [(cBv J hst).2 J];rfl,Y,Y⟩
 refine wcp false Y (jQ h1) (go 14 ?_)
 obtain rfl:k=f.params.length:=J
 have hpr:bZv f.params v0=(true,vis):=by rw [←hst,List.drop_eq_nil_of_le (Nat.le_refl _),bZv]
 refine wo Y (bD [C,gv] Y Y V call70 Y (cBr _ f.body (Nat.le_refl _) (_::A) B C gv gf p fs R rw hgf _ ⟨vis,0,-1⟩ Fs hfk (by show 0+wtS f.body <= 900000000;omega)) Ba AQ AX ?_)
 rintro _ _ ⟨e1,⟨vis1,n1,at1⟩,hy1,rfl,rfl⟩
 refine go 13 ?_
 refine fM (λj:Nat=>(⟨65,[b1,C,gv],⟨⟨b1,67,fV f⟩::A++⟨C,98,[Sq dB p.globals,Sq bT p.mutexes,Sq fV p.funcs,Vm gv,Vm gf,nC n1,Vi at1]⟩::B,R++cR3 gv 0 evI (cAk (f.params.take j) vis1)::rw⟩,[(53,nI j),(0,pP C),(4,Ci 0),(7,nI e1),(51,.c (Sq cP f.params)),(52,nI f.params.length)]⟩:AS)) (λj=>j <= f.params.length) (λj=>f.params.length-j) 0 (cQf (λb hb=>hb)) (Nat.zero_le _) ?_
 intro j hj
 try dsimp only
 refine go 2 ?_
 by_cases h10:((j:Nat):Int)<((f.params.length:Nat):Int)
 ·refine wcp true Y (jZ h10) (go 10 ?_)
  refine wyz Y (bH cP cP f.params gL (λ_=>Y) j Y Y Y Y J V runUnderlying64 sizeOf69) (go 5 λb3=>?_)
  refine dx [b3,b1,C] (tz [(0,true),(1,true),(2,true),(3,true),(4,true),(5,true)] 1 (go 7 ?_))
  refine ox 6 Y Y (cBu (cAk (f.params.take j) vis1) R Y Y Y Y underlying95 underlying9 G0 Dc ?_)
  refine ax (go 3 ?_)
  refine wad Y (go 2 ?_)
  rw [cDe f.params vis1 j J]
  exact ⟨j+1,J,by show f.params.length-(j+1)<f.params.length-j;omega,cQf (h1:=(.cons _ (.refl _))) (h:=aG Y (gQ J) (sA Y)) AP⟩
 refine wcp false Y (jQ h10) (go 16 ?_)
 obtain rfl:j=f.params.length:=J
 rw [take_of_length_le (Nat.le_refl _)]
 exact ⟨.inr Y,_,⟨A++⟨C,98,[Sq dB p.globals,Sq bT p.mutexes,Sq fV p.funcs,Vm gv,Vm gf,nC n1,Vi at1]⟩::B,R++cR3 gv 0 evI (cAk f.params vis1)::rw⟩,aR Y (aF Y),aA (.cons _ (.refl _)) (.refl _),e1,⟨cAk f.params vis1,n1,at1⟩,by unfold cAe;rw [hpr,if_pos rfl,hy1],Y,Y⟩
end
end Go.Proofs.YtjgeihmhppadaaaGreatDoor
