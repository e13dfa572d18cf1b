import Derived.Test.YtojinfngbbajgaaGreatDoorF5J
import Derived.Test.YtojinfngbbajgaaGreatDoorF15J
import Derived.Test.YtojinfngbbajgaaGreatDoorF10J
set_option linter.all false
set_option synthInstance.maxHeartbeats 1000000
set_option synthInstance.maxSize 1000000
set_option maxHeartbeats 1600000
set_option maxRecDepth 100000
namespace Go.Proofs.YtojinfngbbajgaaGreatDoor
open Go.Proofs.Tryz
open List (length_append length_cons length_nil mem_append mem_cons not_mem_nil append_assoc getElem_mem take_of_length_le)
section
open Go.RowKit
theorem cDu(A B:List Box)(C gv gf:Nat)(p:cK)(vis:Vis)(fs:Fns)(n at_:Int)(R rw:List bA)(hgf:hM gf 3 fV fs∈R)(x:ByteArray):aL prog 153 [pP C,.c (.val (.string x))] [] ⟨A++⟨C,94,[.sl p.globals.length (p.globals.flatMap dB),.sl p.mutexes.length (p.mutexes.flatMap bT),.sl p.funcs.length (p.funcs.flatMap fV),.val (.map (some gv)),.val (.map (some gf)),.val (.int .i64 n),.val (.int .i64 at_)]⟩::B,R++hM gv 0 evI vis::rw⟩ fun t s'=>t=.c (.val (.int .i64 ((cBh vis x:Nat):Int))) /\ s'=⟨A++⟨C,94,[.sl p.globals.length (p.globals.flatMap dB),.sl p.mutexes.length (p.mutexes.flatMap bT),.sl p.funcs.length (p.funcs.flatMap fV),.val (.map (some gv)),.val (.map (some gf)),.val (.int .i64 n),.val (.int .i64 at_)]⟩::B,R++hM gv 0 evI vis::rw⟩:=by
 refine acB func153 rfl ?_
 show AWp prog _ ⟨15,_,⟨A++⟨C,94,[.sl p.globals.length (p.globals.flatMap dB),.sl p.mutexes.length (p.mutexes.flatMap bT),.sl p.funcs.length (p.funcs.flatMap fV),.val (.map (some gv)),.val (.map (some gf)),.val (.int .i64 n),.val (.int .i64 at_)]⟩::B,R++hM gv 0 evI vis::rw⟩,[(0,pP C),(1,.c (.val (.string x)))]⟩ _
 refine go 13 ?_
 refine wyz rfl (cAm vis rfl rfl rfl (by simp) underlying91 underlying9 zeroValue142 (fun _ h=>by cases h)) (go 5 ?_)
 by_cases h1:(bZp vis x)=0
 ·refine wcp true rfl (eR h1) (go 12 ?_)
  exact ⟨.inr rfl,_,⟨A++⟨C,94,[.sl p.globals.length (p.globals.flatMap dB),.sl p.mutexes.length (p.mutexes.flatMap bT),.sl p.funcs.length (p.funcs.flatMap fV),.val (.map (some gv)),.val (.map (some gf)),.val (.int .i64 n),.val (.int .i64 at_)]⟩::B,R++hM gv 0 evI vis::rw⟩,aR rfl (aF rfl),aA (.refl _) (.refl _),aPy (by simp [cBh,h1]),rfl⟩
 refine wcp false rfl (eD h1) (go 6 ?_)
 by_cases h4:(bZp vis x)=1
 ·refine wcp true rfl (eR h4) (go 12 ?_)
  exact ⟨.inr rfl,_,⟨A++⟨C,94,[.sl p.globals.length (p.globals.flatMap dB),.sl p.mutexes.length (p.mutexes.flatMap bT),.sl p.funcs.length (p.funcs.flatMap fV),.val (.map (some gv)),.val (.map (some gf)),.val (.int .i64 n),.val (.int .i64 at_)]⟩::B,R++hM gv 0 evI vis::rw⟩,aR rfl (aF rfl),aA (.refl _) (.refl _),aPy (by simp [cBh,h1,h4]),rfl⟩
 refine wcp false rfl (eD h4) (go 13 ?_)
 exact ⟨.inr rfl,_,⟨A++⟨C,94,[.sl p.globals.length (p.globals.flatMap dB),.sl p.mutexes.length (p.mutexes.flatMap bT),.sl p.funcs.length (p.funcs.flatMap fV),.val (.map (some gv)),.val (.map (some gf)),.val (.int .i64 n),.val (.int .i64 at_)]⟩::B,R++hM gv 0 evI vis::rw⟩,aR rfl (aF rfl),aA (.refl _) (.refl _),aPy (by simp [cBh,h1,h4]),rfl⟩
theorem cBm(v:Vis):∀(l:List aH)(k:Nat)(h:k<l.length),bZ0 v (l.take k)=0 -> bZ1 v l[k]=0 -> bZ0 v (l.take (k+1))=0
 |e::l,0,_,_,h=>by rw [List.take_succ_cons,bZ0,if_pos (by simpa using h),List.take_zero,bZ0]
 |e::l,k+1,hk,h1,h2=>by
  rw [List.take_succ_cons,bZ0] at h1
  rw [List.take_succ_cons,bZ0]
  split at h1
  ·rename_i h3
   rw [if_pos h3];exact cBm v l k (by simpa using hk) h1 (by simpa using h2)
  rename_i h3;exact absurd h1 h3
theorem cBs(v:Vis):∀(l:List aH)(k:Nat)(h:k<l.length),bZ0 v (l.take k)=0 -> bZ1 v l[k]≠0 -> bZ0 v l=bZ1 v l[k]
 |e::l,0,_,_,h=>by rw [bZ0,if_neg (by simpa using h)];rfl
 |e::l,k+1,hk,h1,h2=>by
  rw [List.take_succ_cons,bZ0] at h1
  rw [bZ0]
  split at h1
  ·rename_i h3
   rw [if_pos h3];exact cBs v l k (by simpa using hk) h1 (by simpa using h2)
  rename_i h3;exact absurd h1 h3
theorem cBx(v:Vis)(e:aH):bZ1 v e=if e.op=2 then cBh v e.name else bZ0 v e.args:=by cases e;rw [bZ1];rfl
theorem cCt(A B:List Box)(C gv gf:Nat)(p:cK)(vis:Vis)(fs:Fns)(n at_:Int)(R rw:List bA)(hgf:hM gf 3 fV fs∈R)(e:aH)(hN:e.nodes <= 1000000000)(ih:∀k (h:k<e.args.length) (A:List Box),aL prog 152 [pP C,.agg (cU e.args[k])] [] ⟨A++⟨C,94,[.sl p.globals.length (p.globals.flatMap dB),.sl p.mutexes.length (p.mutexes.flatMap bT),.sl p.funcs.length (p.funcs.flatMap fV),.val (.map (some gv)),.val (.map (some gf)),.val (.int .i64 n),.val (.int .i64 at_)]⟩::B,R++hM gv 0 evI vis::rw⟩ fun t s'=>t=.c (.val (.int .i64 ((bZ1 vis e.args[k]:Nat):Int))) /\ s'=⟨A++⟨C,94,[.sl p.globals.length (p.globals.flatMap dB),.sl p.mutexes.length (p.mutexes.flatMap bT),.sl p.funcs.length (p.funcs.flatMap fV),.val (.map (some gv)),.val (.map (some gf)),.val (.int .i64 n),.val (.int .i64 at_)]⟩::B,R++hM gv 0 evI vis::rw⟩):aL prog 152 [pP C,.agg (cU e)] [] ⟨A++⟨C,94,[.sl p.globals.length (p.globals.flatMap dB),.sl p.mutexes.length (p.mutexes.flatMap bT),.sl p.funcs.length (p.funcs.flatMap fV),.val (.map (some gv)),.val (.map (some gf)),.val (.int .i64 n),.val (.int .i64 at_)]⟩::B,R++hM gv 0 evI vis::rw⟩ fun t s'=>t=.c (.val (.int .i64 ((bZ1 vis e:Nat):Int))) /\ s'=⟨A++⟨C,94,[.sl p.globals.length (p.globals.flatMap dB),.sl p.mutexes.length (p.mutexes.flatMap bT),.sl p.funcs.length (p.funcs.flatMap fV),.val (.map (some gv)),.val (.map (some gf)),.val (.int .i64 n),.val (.int .i64 at_)]⟩::B,R++hM gv 0 evI vis::rw⟩:=by
 have hlen:=uC e
 refine acB func152 rfl ?_
 show AWp prog _ ⟨29,_,⟨A++⟨C,94,[.sl p.globals.length (p.globals.flatMap dB),.sl p.mutexes.length (p.mutexes.flatMap bT),.sl p.funcs.length (p.funcs.flatMap fV),.val (.map (some gv)),.val (.map (some gf)),.val (.int .i64 n),.val (.int .i64 at_)]⟩::B,R++hM gv 0 evI vis::rw⟩,[(0,pP C),(1,.agg (cU e))]⟩ _
 refine go 11 fun b1=>?_
 by_cases h1:e.op=2
 ·refine wcp true rfl (eR h1) (go 8 ?_)
  refine wc0 rfl call153 rfl (cDu (_::A) B C gv gf p vis fs _ _ R rw hgf e.name) ?_
  rintro _ _ ⟨rfl,rfl⟩
  refine go 5 ?_
  exact ⟨.inr rfl,_,⟨A++⟨C,94,[.sl p.globals.length (p.globals.flatMap dB),.sl p.mutexes.length (p.mutexes.flatMap bT),.sl p.funcs.length (p.funcs.flatMap fV),.val (.map (some gv)),.val (.map (some gf)),.val (.int .i64 n),.val (.int .i64 at_)]⟩::B,R++hM gv 0 evI vis::rw⟩,aR rfl (aF rfl),aA (.cons _ (.refl _)) (.refl _),aPy (by rw [cBx,if_pos (by omega)]),rfl⟩
 refine wcp false rfl (eD h1) (go 15 ?_)
 refine lE (fun k=>bZ0 vis (e.args.take k)=0) (e.args.length) 18 (fun k=>[(0,pP C),(3,pP b1),(4,.c (.val (.int .i64 0))),(16,.c (.sl e.args.length (e.args.flatMap fO))),(17,nI e.args.length)]) rfl (sA rfl) fun k hk hvk=>?_
 replace hvk:bZ0 vis (e.args.take k)=0:=hvk
 show AWp prog _ ⟨29,_,_,(18,nI k)::[(0,pP C),(3,pP b1),(4,.c (.val (.int .i64 0))),(16,.c (.sl e.args.length (e.args.flatMap fO))),(17,nI e.args.length)]⟩ _
 refine go 2 ?_
 by_cases h5:((k:Nat):Int)<((e.args.length:Nat):Int)
 ·refine wcp true rfl (jZ h5) (go 10 ?_)
  refine wyz rfl (bH fO cU e.args iU fP k rfl rfl rfl rfl (by omega) (by decide) runUnderlying71 sizeOf73) (go 9 fun b2=>?_)
  refine wc0 rfl call152 rfl (ih k (by omega) (_::_::A)) ?_
  rintro _ _ ⟨rfl,rfl⟩
  refine go 6 ?_
  by_cases h8:((bZ1 vis e.args[k]:Nat):Int)=0
  ·refine wcp false rfl (xG h8) (go 7 ?_)
   refine wad rfl (go 2 ?_)
   exact ⟨by omega,(cBm vis _ k (by omega) hvk (by omega)),cA (.cons _ (.refl _)) (.refl _) (fun b hb=>List.mem_cons_of_mem _ (hb)) (aG rfl (gQ (by omega)) (sA rfl))⟩
  refine wcp true rfl (xL h8) (go 15 ?_)
  exact ⟨.inr rfl,_,⟨A++⟨C,94,[.sl p.globals.length (p.globals.flatMap dB),.sl p.mutexes.length (p.mutexes.flatMap bT),.sl p.funcs.length (p.funcs.flatMap fV),.val (.map (some gv)),.val (.map (some gf)),.val (.int .i64 n),.val (.int .i64 at_)]⟩::B,R++hM gv 0 evI vis::rw⟩,aR rfl (aF rfl),aA (.cons _ (.cons _ (.refl _))) (.refl _),aPy (by rw [cBx,if_neg (by omega),cBs vis _ k (by omega) hvk (by omega)]),rfl⟩
 refine wcp false rfl (jQ h5) (go 15 ?_)
 exact ⟨.inr rfl,_,⟨A++⟨C,94,[.sl p.globals.length (p.globals.flatMap dB),.sl p.mutexes.length (p.mutexes.flatMap bT),.sl p.funcs.length (p.funcs.flatMap fV),.val (.map (some gv)),.val (.map (some gf)),.val (.int .i64 n),.val (.int .i64 at_)]⟩::B,R++hM gv 0 evI vis::rw⟩,aR rfl (aF rfl),aA (.cons _ (.refl _)) (.refl _),aPy (by rw [take_of_length_le (by omega)] at hvk;rw [cBx,if_neg (by omega),hvk];rfl),rfl⟩
theorem cCz:∀(N:Nat)(e:aH),e.nodes <= N -> N <= 1000000000 -> ∀(A B:List Box)(C gv gf:Nat)(p:cK)(vis:Vis)(fs:Fns)(n at_:Int)(R rw:List bA)(hgf:hM gf 3 fV fs∈R),aL prog 152 [pP C,.agg (cU e)] [] ⟨A++⟨C,94,[.sl p.globals.length (p.globals.flatMap dB),.sl p.mutexes.length (p.mutexes.flatMap bT),.sl p.funcs.length (p.funcs.flatMap fV),.val (.map (some gv)),.val (.map (some gf)),.val (.int .i64 n),.val (.int .i64 at_)]⟩::B,R++hM gv 0 evI vis::rw⟩ fun t s'=>t=.c (.val (.int .i64 ((bZ1 vis e:Nat):Int))) /\ s'=⟨A++⟨C,94,[.sl p.globals.length (p.globals.flatMap dB),.sl p.mutexes.length (p.mutexes.flatMap bT),.sl p.funcs.length (p.funcs.flatMap fV),.val (.map (some gv)),.val (.map (some gf)),.val (.int .i64 n),.val (.int .i64 at_)]⟩::B,R++hM gv 0 evI vis::rw⟩
 |0,e,h,_=>by cases e;rw [aH.nodes] at h;omega
 |N+1,e,h,hN=>fun A B C gv gf p vis fs n at_ R rw hgf=>cCt A B C gv gf p vis fs n at_ R rw hgf e (by omega) fun k hk A=>cCz N e.args[k] (by have:=sF e k hk;omega) (by omega) A B C gv gf p vis fs n at_ R rw hgf
theorem cB4(e:aH)(h:e.nodes <= 1000000000)(A B:List Box)(C gv gf:Nat)(p:cK)(vis:Vis)(fs:Fns)(n at_:Int)(R rw:List bA)(hgf:hM gf 3 fV fs∈R):aL prog 152 [pP C,.agg (cU e)] [] ⟨A++⟨C,94,[.sl p.globals.length (p.globals.flatMap dB),.sl p.mutexes.length (p.mutexes.flatMap bT),.sl p.funcs.length (p.funcs.flatMap fV),.val (.map (some gv)),.val (.map (some gf)),.val (.int .i64 n),.val (.int .i64 at_)]⟩::B,R++hM gv 0 evI vis::rw⟩ fun t s'=>t=.c (.val (.int .i64 ((bZ1 vis e:Nat):Int))) /\ s'=⟨A++⟨C,94,[.sl p.globals.length (p.globals.flatMap dB),.sl p.mutexes.length (p.mutexes.flatMap bT),.sl p.funcs.length (p.funcs.flatMap fV),.val (.map (some gv)),.val (.map (some gf)),.val (.int .i64 n),.val (.int .i64 at_)]⟩::B,R++hM gv 0 evI vis::rw⟩:=cCz _ e h (Nat.le_refl _) A B C gv gf p vis fs n at_ R rw hgf
theorem cAh(v:Vis)(l:List aH)(h:0<l.length):cDo v l=bZ1 v l[0]:=by
 cases l with
 |nil=>simp at h
 |cons e l=>rfl
theorem cCr(A B:List Box)(C gv gf:Nat)(p:cK)(vis:Vis)(fs:Fns)(n at_:Int)(R rw:List bA)(hgf:hM gf 3 fV fs∈R)(r:cY)(hN:cZ r.index <= 1000000000):aL prog 154 [pP C,.agg (encR r)] [] ⟨A++⟨C,94,[.sl p.globals.length (p.globals.flatMap dB),.sl p.mutexes.length (p.mutexes.flatMap bT),.sl p.funcs.length (p.funcs.flatMap fV),.val (.map (some gv)),.val (.map (some gf)),.val (.int .i64 n),.val (.int .i64 at_)]⟩::B,R++hM gv 0 evI vis::rw⟩ fun t s'=>t=.c (.val (.int .i64 ((cA3 vis r:Nat):Int))) /\ s'=⟨A++⟨C,94,[.sl p.globals.length (p.globals.flatMap dB),.sl p.mutexes.length (p.mutexes.flatMap bT),.sl p.funcs.length (p.funcs.flatMap fV),.val (.map (some gv)),.val (.map (some gf)),.val (.int .i64 n),.val (.int .i64 at_)]⟩::B,R++hM gv 0 evI vis::rw⟩:=by
 have hix:∀h:0<r.index.length,r.index[0].nodes <= 1000000000:=fun h=>by have:=nM r.index 0 h;omega
 refine acB func154 rfl ?_
 show AWp prog _ ⟨43,_,⟨A++⟨C,94,[.sl p.globals.length (p.globals.flatMap dB),.sl p.mutexes.length (p.mutexes.flatMap bT),.sl p.funcs.length (p.funcs.flatMap fV),.val (.map (some gv)),.val (.map (some gf)),.val (.int .i64 n),.val (.int .i64 at_)]⟩::B,R++hM gv 0 evI vis::rw⟩,[(0,pP C),(1,.agg (encR r))]⟩ _
 refine go 7 fun b1=>?_
 refine dx [b1,C,gv,gf] (tz [(0,true),(1,true),(2,true),(3,true),(4,true),(5,true)] 2 (go 7 ?_))
 refine tx 6 rfl (cAm vis rfl rfl rfl (by simp) underlying91 underlying9 zeroValue142 (fun _ h=>(kH.1 h).2 (by simp))) (tz [(7,true)] 0 (go 2 ?_))
 refine ax (go 6 ?_)
 by_cases h1:(bZp vis r.name)=0
 ·refine wcp true rfl (eR h1) (go 12 ?_)
  exact ⟨.inr rfl,_,⟨A++⟨C,94,[.sl p.globals.length (p.globals.flatMap dB),.sl p.mutexes.length (p.mutexes.flatMap bT),.sl p.funcs.length (p.funcs.flatMap fV),.val (.map (some gv)),.val (.map (some gf)),.val (.int .i64 n),.val (.int .i64 at_)]⟩::B,R++hM gv 0 evI vis::rw⟩,aR rfl (aF rfl),aA (.cons _ (.refl _)) (.refl _),aPy (by unfold cA3 cAj;simp [h1]<;>first|(split<;>omega)|exact List.length_eq_zero_iff.1 (by omega)|(rw [if_neg (fun h=>by have:=congrArg List.length h;simp only [length_nil] at this;omega),cAh _ _ (by omega)])|(rw [if_pos (List.length_eq_zero_iff.1 (by omega))];rfl)),rfl⟩
 refine wcp false rfl (eD h1) (go 8 ?_)
 by_cases h4:(bZp vis r.name)=2
 ·refine wcp false rfl (xG h4) (go 14 ?_)
  refine wcp false rfl (eD (by omega)) (go 3 ?_)
  by_cases h6:(0:Int)<((r.index.length:Nat):Int)
  ·refine wcp true rfl (mH h6) ?_
   refine wyz rfl (aJ8 true rfl rfl rfl runUnderlying4 rfl) (go 12 ?_)
   exact ⟨.inr rfl,_,⟨A++⟨C,94,[.sl p.globals.length (p.globals.flatMap dB),.sl p.mutexes.length (p.mutexes.flatMap bT),.sl p.funcs.length (p.funcs.flatMap fV),.val (.map (some gv)),.val (.map (some gf)),.val (.int .i64 n),.val (.int .i64 at_)]⟩::B,R++hM gv 0 evI vis::rw⟩,aR rfl (aF rfl),aA (.cons _ (.refl _)) (.refl _),aPy (by unfold cA3 cAj;simp [h1,h4,h6]<;>first|(split<;>omega)|exact List.length_eq_zero_iff.1 (by omega)|(rw [if_neg (fun h=>by have:=congrArg List.length h;simp only [length_nil] at this;omega),cAh _ _ (by omega)])|(rw [if_pos (List.length_eq_zero_iff.1 (by omega))];rfl)),rfl⟩
  refine wcp false rfl (mI h6) ?_
  refine wyz rfl (aJ8 false rfl rfl rfl runUnderlying4 rfl) (go 7 ?_)
  refine wcp false rfl (eD (by omega)) (go 13 ?_)
  exact ⟨.inr rfl,_,⟨A++⟨C,94,[.sl p.globals.length (p.globals.flatMap dB),.sl p.mutexes.length (p.mutexes.flatMap bT),.sl p.funcs.length (p.funcs.flatMap fV),.val (.map (some gv)),.val (.map (some gf)),.val (.int .i64 n),.val (.int .i64 at_)]⟩::B,R++hM gv 0 evI vis::rw⟩,aR rfl (aF rfl),aA (.cons _ (.refl _)) (.refl _),aPy (by unfold cA3 cAj;simp [h1,h4,h6]<;>first|(split<;>omega)|exact List.length_eq_zero_iff.1 (by omega)|(rw [if_neg (fun h=>by have:=congrArg List.length h;simp only [length_nil] at this;omega),cAh _ _ (by omega)])|(rw [if_pos (List.length_eq_zero_iff.1 (by omega))];rfl)),rfl⟩
 refine wcp true rfl (xL h4) (go 2 ?_)
 by_cases h10:(bZp vis r.name)=3
 ·refine wcp false rfl (xG h10) (go 11 ?_)
  refine wcp true rfl (eR h10) (go 3 ?_)
  by_cases h12:(0:Int)<((r.index.length:Nat):Int)
  ·refine wcp true rfl (mH h12) ?_
   refine wyz rfl (aJ8 false rfl rfl rfl runUnderlying4 rfl) (go 7 ?_)
   refine wcp true rfl (eR h10) (go 9 ?_)
   refine wyz rfl (bH fO cU r.index iU fP 0 rfl rfl rfl rfl (by omega) (by decide) runUnderlying71 sizeOf73) (go 1 ?_)
   refine wc0 rfl call152 rfl (cB4 r.index[0] (hix (by omega)) (_::A) B C gv gf p vis fs _ _ R rw hgf) ?_
   rintro _ _ ⟨rfl,rfl⟩
   refine go 6 ?_
   exact ⟨.inr rfl,_,⟨A++⟨C,94,[.sl p.globals.length (p.globals.flatMap dB),.sl p.mutexes.length (p.mutexes.flatMap bT),.sl p.funcs.length (p.funcs.flatMap fV),.val (.map (some gv)),.val (.map (some gf)),.val (.int .i64 n),.val (.int .i64 at_)]⟩::B,R++hM gv 0 evI vis::rw⟩,aR rfl (aF rfl),aA (.cons _ (.refl _)) (.refl _),aPy (by unfold cA3 cAj;simp [h1,h4,h10,h12]<;>first|(split<;>omega)|exact List.length_eq_zero_iff.1 (by omega)|(rw [if_neg (fun h=>by have:=congrArg List.length h;simp only [length_nil] at this;omega),cAh _ _ (by omega)])|(rw [if_pos (List.length_eq_zero_iff.1 (by omega))];rfl)),rfl⟩
  refine wcp false rfl (mI h12) ?_
  refine wyz rfl (aJ8 true rfl rfl rfl runUnderlying4 rfl) (go 12 ?_)
  exact ⟨.inr rfl,_,⟨A++⟨C,94,[.sl p.globals.length (p.globals.flatMap dB),.sl p.mutexes.length (p.mutexes.flatMap bT),.sl p.funcs.length (p.funcs.flatMap fV),.val (.map (some gv)),.val (.map (some gf)),.val (.int .i64 n),.val (.int .i64 at_)]⟩::B,R++hM gv 0 evI vis::rw⟩,aR rfl (aF rfl),aA (.cons _ (.refl _)) (.refl _),aPy (by unfold cA3 cAj;simp [h1,h4,h10,h12]<;>first|(split<;>omega)|exact List.length_eq_zero_iff.1 (by omega)|(rw [if_neg (fun h=>by have:=congrArg List.length h;simp only [length_nil] at this;omega),cAh _ _ (by omega)])|(rw [if_pos (List.length_eq_zero_iff.1 (by omega))];rfl)),rfl⟩
 refine wcp true rfl (xL h10) (go 3 ?_)
 by_cases h17:(bZp vis r.name)=4
 ·refine wcp false rfl (xG h17) (go 7 ?_)
  refine wcp false rfl (eD h10) (go 3 ?_)
  by_cases h19:(0:Int)<((r.index.length:Nat):Int)
  ·refine wcp true rfl (mH h19) ?_
   refine wyz rfl (aJ8 true rfl rfl rfl runUnderlying4 rfl) (go 12 ?_)
   exact ⟨.inr rfl,_,⟨A++⟨C,94,[.sl p.globals.length (p.globals.flatMap dB),.sl p.mutexes.length (p.mutexes.flatMap bT),.sl p.funcs.length (p.funcs.flatMap fV),.val (.map (some gv)),.val (.map (some gf)),.val (.int .i64 n),.val (.int .i64 at_)]⟩::B,R++hM gv 0 evI vis::rw⟩,aR rfl (aF rfl),aA (.cons _ (.refl _)) (.refl _),aPy (by unfold cA3 cAj;simp [h1,h4,h10,h17,h19]<;>first|(split<;>omega)|exact List.length_eq_zero_iff.1 (by omega)|(rw [if_neg (fun h=>by have:=congrArg List.length h;simp only [length_nil] at this;omega),cAh _ _ (by omega)])|(rw [if_pos (List.length_eq_zero_iff.1 (by omega))];rfl)),rfl⟩
  refine wcp false rfl (mI h19) ?_
  refine wyz rfl (aJ8 false rfl rfl rfl runUnderlying4 rfl) (go 7 ?_)
  refine wcp false rfl (eD h10) (go 13 ?_)
  exact ⟨.inr rfl,_,⟨A++⟨C,94,[.sl p.globals.length (p.globals.flatMap dB),.sl p.mutexes.length (p.mutexes.flatMap bT),.sl p.funcs.length (p.funcs.flatMap fV),.val (.map (some gv)),.val (.map (some gf)),.val (.int .i64 n),.val (.int .i64 at_)]⟩::B,R++hM gv 0 evI vis::rw⟩,aR rfl (aF rfl),aA (.cons _ (.refl _)) (.refl _),aPy (by unfold cA3 cAj;simp [h1,h4,h10,h17,h19]<;>first|(split<;>omega)|exact List.length_eq_zero_iff.1 (by omega)|(rw [if_neg (fun h=>by have:=congrArg List.length h;simp only [length_nil] at this;omega),cAh _ _ (by omega)])|(rw [if_pos (List.length_eq_zero_iff.1 (by omega))];rfl)),rfl⟩
 refine wcp true rfl (xL h17) (go 16 ?_)
 exact ⟨.inr rfl,_,⟨A++⟨C,94,[.sl p.globals.length (p.globals.flatMap dB),.sl p.mutexes.length (p.mutexes.flatMap bT),.sl p.funcs.length (p.funcs.flatMap fV),.val (.map (some gv)),.val (.map (some gf)),.val (.int .i64 n),.val (.int .i64 at_)]⟩::B,R++hM gv 0 evI vis::rw⟩,aR rfl (aF rfl),aA (.cons _ (.refl _)) (.refl _),aPy (by unfold cA3 cAj;simp [h1,h4,h10,h17]<;>first|(split<;>omega)|exact List.length_eq_zero_iff.1 (by omega)|(rw [if_neg (fun h=>by have:=congrArg List.length h;simp only [length_nil] at this;omega),cAh _ _ (by omega)])|(rw [if_pos (List.length_eq_zero_iff.1 (by omega))];rfl)),rfl⟩
theorem cBd(v:Vis):∀(l:List eN)(xs:List aS)(k:Nat)(h:k<l.length)(h2:k<xs.length),bZ3 v (l.take k) (xs.take k)=0 -> cBb v l[k] xs[k]=0 -> bZ3 v (l.take (k+1)) (xs.take (k+1))=0
 |a::l,x::xs,0,_,_,_,h=>by rw [List.take_succ_cons,List.take_succ_cons,bZ3,if_pos (by simpa using h),List.take_zero,List.take_zero,bZ3];intros;simp_all
 |a::l,x::xs,k+1,hk,hk2,h1,h2=>by
  rw [List.take_succ_cons,List.take_succ_cons,bZ3] at h1
  rw [List.take_succ_cons,List.take_succ_cons,bZ3]
  split at h1
  ·rename_i h3
   rw [if_pos h3];exact cBd v l xs k (by simpa using hk) (by simpa using hk2) h1 (by simpa using h2)
  rename_i h3;exact absurd h1 h3
theorem cAq(v:Vis):∀(l:List eN)(xs:List aS)(k:Nat)(h:k<l.length)(h2:k<xs.length),bZ3 v (l.take k) (xs.take k)=0 -> cBb v l[k] xs[k]≠0 -> bZ3 v l xs=cBb v l[k] xs[k]
 |a::l,x::xs,0,_,_,_,h=>by rw [bZ3,if_neg (by simpa using h)];rfl
 |a::l,x::xs,k+1,hk,hk2,h1,h2=>by
  rw [List.take_succ_cons,List.take_succ_cons,bZ3] at h1
  rw [bZ3]
  split at h1
  ·rename_i h3
   rw [if_pos h3];exact cAq v l xs k (by simpa using hk) (by simpa using hk2) h1 (by simpa using h2)
  rename_i h3;exact absurd h1 h3
theorem cC1(A B:List Box)(C gv gf:Nat)(p:cK)(vis:Vis)(fs:Fns)(n at_:Int)(R rw:List bA)(hgf:hM gf 3 fV fs∈R)(s:aJ)(hw:s.wt <= 900000000)(hfo:bZt vis fs):aL prog 155 [pP C,.agg (dG s)] [] ⟨A++⟨C,94,[.sl p.globals.length (p.globals.flatMap dB),.sl p.mutexes.length (p.mutexes.flatMap bT),.sl p.funcs.length (p.funcs.flatMap fV),.val (.map (some gv)),.val (.map (some gf)),.val (.int .i64 n),.val (.int .i64 at_)]⟩::B,R++hM gv 0 evI vis::rw⟩ fun t s'=>t=.c (.val (.int .i64 ((cAx vis fs s.name s.args:Nat):Int))) /\ s'=⟨A++⟨C,94,[.sl p.globals.length (p.globals.flatMap dB),.sl p.mutexes.length (p.mutexes.flatMap bT),.sl p.funcs.length (p.funcs.flatMap fV),.val (.map (some gv)),.val (.map (some gf)),.val (.int .i64 n),.val (.int .i64 at_)]⟩::B,R++hM gv 0 evI vis::rw⟩:=by
 have hwp:=gD s
 have hal:=aCj s.args
 have hak:∀k (h:k<s.args.length),s.args[k].expr.nodes <= 900000000 /\ cZ s.args[k].ref.index <= 900000000:=fun k h=>by have h1:=aDf s.args k h;unfold eN.wt cY.wt at h1;omega
 refine acB func155 rfl ?_
 show AWp prog _ ⟨66,_,⟨A++⟨C,94,[.sl p.globals.length (p.globals.flatMap dB),.sl p.mutexes.length (p.mutexes.flatMap bT),.sl p.funcs.length (p.funcs.flatMap fV),.val (.map (some gv)),.val (.map (some gf)),.val (.int .i64 n),.val (.int .i64 at_)]⟩::B,R++hM gv 0 evI vis::rw⟩,[(0,pP C),(1,.agg (dG s))]⟩ _
 refine go 8 fun b1=>?_
 refine dx [b1,C,gv,gf] (tz [(0,true),(1,true),(2,true),(3,true),(4,true),(5,true)] 1 (go 7 ?_))
 refine tx 6 rfl (cAm vis rfl rfl rfl (by simp) underlying91 underlying9 zeroValue142 (fun _ h=>(kH.1 h).2 (by simp))) ?_
 refine ax (go 4 ?_)
 by_cases h1:(bZp vis s.name)=0
 ·refine wcp true rfl (eR h1) (go 12 ?_)
  exact ⟨.inr rfl,_,⟨A++⟨C,94,[.sl p.globals.length (p.globals.flatMap dB),.sl p.mutexes.length (p.mutexes.flatMap bT),.sl p.funcs.length (p.funcs.flatMap fV),.val (.map (some gv)),.val (.map (some gf)),.val (.int .i64 n),.val (.int .i64 at_)]⟩::B,R++hM gv 0 evI vis::rw⟩,aR rfl (aF rfl),aA (.cons _ (.refl _)) (.refl _),aPy (by unfold cAx;simp [h1]),rfl⟩
 refine wcp false rfl (eD h1) (go 6 ?_)
 by_cases h4:(bZp vis s.name)=5
 ·refine wcp true rfl (eR h4) (go 8 ?_)
  refine dx [b1,C,gv,gf] ?_
  obtain ⟨f,hf⟩:=hfo.2 s.name (by omega)
  refine tz [(0,true),(1,true),(2,true),(3,true),(4,true),(5,true)] 3 (go 7 ?_)
  refine tx 6 rfl (cDl (m:=3) (ev:=fV) fs rfl rfl rfl (by simp [hgf]) (by decide) (fun _=>rfl) underlying92 underlying9 zeroValue58 (fun _ h=>(kH.1 h).2 (by simp)) hf) (tz [(7,true),(8,true)] 0 (go 3 ?_))
  refine ax (go 9 ?_)
  by_cases h6:((s.args.length:Nat):Int)=((f.params.length:Nat):Int)
  ·refine wcp false rfl (xG h6) (go 15 ?_)
   refine lE (fun k=>bZ3 vis (s.args.take k) (f.params.take k)=0) (s.args.length) 37 (fun k=>[(0,pP C),(3,pP b1),(4,.c (.val (.int .i64 0))),(5,.c (.sl f.params.length (f.params.flatMap cP))),(35,.c (.sl s.args.length (s.args.flatMap eJ))),(36,nI s.args.length)]) (by simp [bZ3]) (sA rfl) fun k hk hvk=>?_
   replace hvk:bZ3 vis (s.args.take k) (f.params.take k)=0:=hvk
   show AWp prog _ ⟨66,_,_,(37,nI k)::[(0,pP C),(3,pP b1),(4,.c (.val (.int .i64 0))),(5,.c (.sl f.params.length (f.params.flatMap cP))),(35,.c (.sl s.args.length (s.args.flatMap eJ))),(36,nI s.args.length)]⟩ _
   refine go 2 ?_
   by_cases h8:((k:Nat):Int)<((s.args.length:Nat):Int)
   ·refine wcp true rfl (jZ h8) (go 11 ?_)
    refine wyz rfl (bH eJ eJ s.args iD (fun _=>rfl) k rfl rfl rfl rfl (by omega) (by decide) runUnderlying76 sizeOf141) (go 14 fun b2=>?_)
    refine dx [b2,b1,C] (tz [(0,true)] 8 (go 2 ?_))
    rcases Bool.eq_false_or_eq_true (s.args[k].mutex) with h10|h10
    ·refine tx 1 rfl (fL (bZ h10) (aX [] rfl rfl rfl isAgg4 sizeOf4 rfl (fun _ h=>(kH.1 h).2 (by simp)))) (tz [(2,true),(3,true)] 5 (go 3 ?_))
     refine tx 4 rfl (bH cP cP f.params gL (fun _=>rfl) k rfl rfl rfl rfl (by omega) (by decide) runUnderlying55 sizeOf89) (tz [(5,true)] 3 (go 2 ?_))
     rcases Bool.eq_false_or_eq_true (f.params[k].mutex) with h11|h11
     ·refine tx 6 rfl (fL (bZ h11) (iP rfl rfl isAgg4 sizeOf4 rfl)) ?_
      refine tx 7 rfl (aJ8 false rfl rfl rfl runUnderlying4 rfl) (tz [(8,true)] 0 (go 2 ?_))
      refine ax (go 5 ?_)
      refine wyz rfl (fL (bZ h10) (aX [] rfl rfl rfl isAgg4 sizeOf4 rfl (fun _ h=>by cases h))) (go 8 ?_)
      refine wc0 rfl call154 rfl (cCr (_::_::A) B C gv gf p vis fs _ _ R rw hgf s.args[k].ref (by have:=hak k (by omega);omega)) ?_
      rintro _ _ ⟨rfl,rfl⟩
      refine go 6 ?_
      have ha15:cBb vis s.args[k] f.params[k]=cA3 vis s.args[k].ref:=by unfold cBb;rw [h10,h11];rfl
      refine go 1 ?_
      by_cases h16:((cA3 vis s.args[k].ref:Nat):Int)=0
      ·refine wcp false rfl (xG h16) (go 7 ?_)
       refine wad rfl (go 2 ?_)
       exact ⟨by omega,(cBd vis _ _ k (by omega) (by omega) hvk (by rw [ha15];omega)),cA (.cons _ (.refl _)) (.refl _) (fun b hb=>List.mem_cons_of_mem _ (hb)) (aG rfl (gQ (by omega)) (sA rfl))⟩
      refine wcp true rfl (xL h16) (go 15 ?_)
      exact ⟨.inr rfl,_,⟨A++⟨C,94,[.sl p.globals.length (p.globals.flatMap dB),.sl p.mutexes.length (p.mutexes.flatMap bT),.sl p.funcs.length (p.funcs.flatMap fV),.val (.map (some gv)),.val (.map (some gf)),.val (.int .i64 n),.val (.int .i64 at_)]⟩::B,R++hM gv 0 evI vis::rw⟩,aR rfl (aF rfl),aA (.cons _ (.cons _ (.refl _))) (.refl _),aPy (by unfold cAx;rw [if_neg (by omega),if_pos (by omega),hf];show (((if s.args.length=f.params.length then bZ3 vis s.args f.params else 7:Nat):Int))=_;rw [if_pos (by omega),cAq vis s.args f.params k (by omega) (by omega) hvk (by rw [ha15];omega),ha15]<;>rfl),rfl⟩
     refine tx 6 rfl (fL (bZ h11) (iP rfl rfl isAgg4 sizeOf4 rfl)) ?_
     refine tx 7 rfl (aJ8 true rfl rfl rfl runUnderlying4 rfl) (tz [(8,true)] 0 (go 2 ?_))
     refine ax (go 7 ?_)
     have ha20:cBb vis s.args[k] f.params[k]=8:=by unfold cBb;rw [h10,h11];rfl
     refine go 1 ?_
     refine wcp true rfl rfl (go 15 ?_)
     exact ⟨.inr rfl,_,⟨A++⟨C,94,[.sl p.globals.length (p.globals.flatMap dB),.sl p.mutexes.length (p.mutexes.flatMap bT),.sl p.funcs.length (p.funcs.flatMap fV),.val (.map (some gv)),.val (.map (some gf)),.val (.int .i64 n),.val (.int .i64 at_)]⟩::B,R++hM gv 0 evI vis::rw⟩,aR rfl (aF rfl),aA (.cons _ (.cons _ (.refl _))) (.refl _),aPy (by unfold cAx;rw [if_neg (by omega),if_pos (by omega),hf];show (((if s.args.length=f.params.length then bZ3 vis s.args f.params else 7:Nat):Int))=_;rw [if_pos (by omega),cAq vis s.args f.params k (by omega) (by omega) hvk (by rw [ha20];omega),ha20]<;>rfl),rfl⟩
    refine tx 1 rfl (fL (bZ h10) (aX [] rfl rfl rfl isAgg4 sizeOf4 rfl (fun _ h=>(kH.1 h).2 (by simp)))) (tz [(2,true),(3,true)] 5 (go 3 ?_))
    refine tx 4 rfl (bH cP cP f.params gL (fun _=>rfl) k rfl rfl rfl rfl (by omega) (by decide) runUnderlying55 sizeOf89) (tz [(5,true)] 3 (go 2 ?_))
    rcases Bool.eq_false_or_eq_true (f.params[k].mutex) with h22|h22
    ·refine tx 6 rfl (fL (bZ h22) (iP rfl rfl isAgg4 sizeOf4 rfl)) ?_
     refine tx 7 rfl (aJ8 true rfl rfl rfl runUnderlying4 rfl) (tz [(8,true)] 0 (go 2 ?_))
     refine ax (go 7 ?_)
     have ha24:cBb vis s.args[k] f.params[k]=8:=by unfold cBb;rw [h10,h22];rfl
     refine go 1 ?_
     refine wcp true rfl rfl (go 15 ?_)
     exact ⟨.inr rfl,_,⟨A++⟨C,94,[.sl p.globals.length (p.globals.flatMap dB),.sl p.mutexes.length (p.mutexes.flatMap bT),.sl p.funcs.length (p.funcs.flatMap fV),.val (.map (some gv)),.val (.map (some gf)),.val (.int .i64 n),.val (.int .i64 at_)]⟩::B,R++hM gv 0 evI vis::rw⟩,aR rfl (aF rfl),aA (.cons _ (.cons _ (.refl _))) (.refl _),aPy (by unfold cAx;rw [if_neg (by omega),if_pos (by omega),hf];show (((if s.args.length=f.params.length then bZ3 vis s.args f.params else 7:Nat):Int))=_;rw [if_pos (by omega),cAq vis s.args f.params k (by omega) (by omega) hvk (by rw [ha24];omega),ha24]<;>rfl),rfl⟩
    refine tx 6 rfl (fL (bZ h22) (iP rfl rfl isAgg4 sizeOf4 rfl)) ?_
    refine tx 7 rfl (aJ8 false rfl rfl rfl runUnderlying4 rfl) (tz [(8,true)] 0 (go 2 ?_))
    refine ax (go 5 ?_)
    refine wyz rfl (fL (bZ h10) (aX [] rfl rfl rfl isAgg4 sizeOf4 rfl (fun _ h=>by cases h))) (go 8 ?_)
    refine wc0 rfl call152 rfl (cB4 s.args[k].expr (by have:=hak k (by omega);omega) (_::_::A) B C gv gf p vis fs _ _ R rw hgf) ?_
    rintro _ _ ⟨rfl,rfl⟩
    refine go 6 ?_
    have ha29:cBb vis s.args[k] f.params[k]=bZ1 vis s.args[k].expr:=by unfold cBb;rw [h10,h22];rfl
    refine go 1 ?_
    by_cases h30:((bZ1 vis s.args[k].expr:Nat):Int)=0
    ·refine wcp false rfl (xG h30) (go 7 ?_)
     refine wad rfl (go 2 ?_)
     exact ⟨by omega,(cBd vis _ _ k (by omega) (by omega) hvk (by rw [ha29];omega)),cA (.cons _ (.refl _)) (.refl _) (fun b hb=>List.mem_cons_of_mem _ (hb)) (aG rfl (gQ (by omega)) (sA rfl))⟩
    refine wcp true rfl (xL h30) (go 15 ?_)
    exact ⟨.inr rfl,_,⟨A++⟨C,94,[.sl p.globals.length (p.globals.flatMap dB),.sl p.mutexes.length (p.mutexes.flatMap bT),.sl p.funcs.length (p.funcs.flatMap fV),.val (.map (some gv)),.val (.map (some gf)),.val (.int .i64 n),.val (.int .i64 at_)]⟩::B,R++hM gv 0 evI vis::rw⟩,aR rfl (aF rfl),aA (.cons _ (.cons _ (.refl _))) (.refl _),aPy (by unfold cAx;rw [if_neg (by omega),if_pos (by omega),hf];show (((if s.args.length=f.params.length then bZ3 vis s.args f.params else 7:Nat):Int))=_;rw [if_pos (by omega),cAq vis s.args f.params k (by omega) (by omega) hvk (by rw [ha29];omega),ha29]<;>rfl),rfl⟩
   refine wcp false rfl (jQ h8) (go 15 ?_)
   exact ⟨.inr rfl,_,⟨A++⟨C,94,[.sl p.globals.length (p.globals.flatMap dB),.sl p.mutexes.length (p.mutexes.flatMap bT),.sl p.funcs.length (p.funcs.flatMap fV),.val (.map (some gv)),.val (.map (some gf)),.val (.int .i64 n),.val (.int .i64 at_)]⟩::B,R++hM gv 0 evI vis::rw⟩,aR rfl (aF rfl),aA (.cons _ (.refl _)) (.refl _),aPy (by unfold cAx;rw [if_neg (by omega),if_pos (by omega),hf];show (((if s.args.length=f.params.length then bZ3 vis s.args f.params else 7:Nat):Int))=_;rw [take_of_length_le (by omega),take_of_length_le (by omega)] at hvk;rw [if_pos (by omega),hvk];rfl),rfl⟩
  refine wcp true rfl (xL h6) (go 10 ?_)
  exact ⟨.inr rfl,_,⟨A++⟨C,94,[.sl p.globals.length (p.globals.flatMap dB),.sl p.mutexes.length (p.mutexes.flatMap bT),.sl p.funcs.length (p.funcs.flatMap fV),.val (.map (some gv)),.val (.map (some gf)),.val (.int .i64 n),.val (.int .i64 at_)]⟩::B,R++hM gv 0 evI vis::rw⟩,aR rfl (aF rfl),aA (.cons _ (.refl _)) (.refl _),aPy (by unfold cAx;rw [if_neg (by omega),if_pos (by omega),hf];show (((if s.args.length=f.params.length then bZ3 vis s.args f.params else 7:Nat):Int))=_;rw [if_neg (by omega)];rfl),rfl⟩
 refine wcp false rfl (eD h4) (go 12 ?_)
 exact ⟨.inr rfl,_,⟨A++⟨C,94,[.sl p.globals.length (p.globals.flatMap dB),.sl p.mutexes.length (p.mutexes.flatMap bT),.sl p.funcs.length (p.funcs.flatMap fV),.val (.map (some gv)),.val (.map (some gf)),.val (.int .i64 n),.val (.int .i64 at_)]⟩::B,R++hM gv 0 evI vis::rw⟩,aR rfl (aF rfl),aA (.cons _ (.refl _)) (.refl _),aPy (by unfold cAx;simp [h1,h4]),rfl⟩
theorem cDp(A B:List Box)(C gv gf:Nat)(p:cK)(vis:Vis)(fs:Fns)(n at_:Int)(R rw:List bA)(hgf:hM gf 3 fV fs∈R)(s:aJ)(hw:s.wt <= 900000000)(hfo:bZt vis fs):aL prog 119 [pP C,.agg (dG s)] [] ⟨A++⟨C,94,[.sl p.globals.length (p.globals.flatMap dB),.sl p.mutexes.length (p.mutexes.flatMap bT),.sl p.funcs.length (p.funcs.flatMap fV),.val (.map (some gv)),.val (.map (some gf)),.val (.int .i64 n),.val (.int .i64 at_)]⟩::B,R++hM gv 0 evI vis::rw⟩ fun t s'=>t=.c (.val (.int .i64 ((bZ5 vis fs s:Nat):Int))) /\ s'=⟨A++⟨C,94,[.sl p.globals.length (p.globals.flatMap dB),.sl p.mutexes.length (p.mutexes.flatMap bT),.sl p.funcs.length (p.funcs.flatMap fV),.val (.map (some gv)),.val (.map (some gf)),.val (.int .i64 n),.val (.int .i64 at_)]⟩::B,R++hM gv 0 evI vis::rw⟩:=by
 have hwp:=gD s
 unfold cY.wt at hwp
 refine acB func119 rfl ?_
 show AWp prog _ ⟨55,_,⟨A++⟨C,94,[.sl p.globals.length (p.globals.flatMap dB),.sl p.mutexes.length (p.mutexes.flatMap bT),.sl p.funcs.length (p.funcs.flatMap fV),.val (.map (some gv)),.val (.map (some gf)),.val (.int .i64 n),.val (.int .i64 at_)]⟩::B,R++hM gv 0 evI vis::rw⟩,[(0,pP C),(1,.agg (dG s))]⟩ _
 refine go 16 fun b1=>?_
 by_cases h1:s.kind=1
 ·refine wcp true rfl (eR h1) (go 6 ?_)
  refine dx [b1,C,gv,gf] (tz [(0,true),(1,true),(2,true),(3,true),(4,true),(5,true)] 2 (go 7 ?_))
  refine tx 6 rfl (cAm vis rfl rfl rfl (by simp) underlying91 underlying9 zeroValue142 (fun _ h=>(kH.1 h).2 (by simp))) ?_
  by_cases h3:(bZp vis s.name)=0
  ·refine tx 7 rfl (bO false rfl rfl rfl (xG h3)) ?_
   refine ax (go 9 ?_)
   refine wc0 rfl call152 rfl (cB4 s.expr (by omega) (_::A) B C gv gf p vis fs _ _ R rw hgf) ?_
   rintro _ _ ⟨rfl,rfl⟩
   refine go 6 ?_
   exact ⟨.inr rfl,_,⟨A++⟨C,94,[.sl p.globals.length (p.globals.flatMap dB),.sl p.mutexes.length (p.mutexes.flatMap bT),.sl p.funcs.length (p.funcs.flatMap fV),.val (.map (some gv)),.val (.map (some gf)),.val (.int .i64 n),.val (.int .i64 at_)]⟩::B,R++hM gv 0 evI vis::rw⟩,aR rfl (aF rfl),aA (.cons _ (.refl _)) (.refl _),aPy (by unfold bZ5;simp [h1,h3]<;>(split<;>omega)),rfl⟩
  refine tx 7 rfl (bO true rfl rfl rfl (xL h3)) ?_
  refine ax (go 11 ?_)
  exact ⟨.inr rfl,_,⟨A++⟨C,94,[.sl p.globals.length (p.globals.flatMap dB),.sl p.mutexes.length (p.mutexes.flatMap bT),.sl p.funcs.length (p.funcs.flatMap fV),.val (.map (some gv)),.val (.map (some gf)),.val (.int .i64 n),.val (.int .i64 at_)]⟩::B,R++hM gv 0 evI vis::rw⟩,aR rfl (aF rfl),aA (.cons _ (.refl _)) (.refl _),aPy (by unfold bZ5;simp [h1,h3]<;>(split<;>omega)),rfl⟩
 refine wcp false rfl (eD h1) (go 6 ?_)
 by_cases h8:s.kind=2
 ·refine wcp true rfl (eR h8) (go 10 ?_)
  refine wc0 rfl call153 rfl (cDu (_::A) B C gv gf p vis fs _ _ R rw hgf s.name) ?_
  rintro _ _ ⟨rfl,rfl⟩
  refine go 6 ?_
  by_cases h11:((cBh vis s.name:Nat):Int)=0
  ·refine wcp false rfl (xG h11) (go 10 ?_)
   refine wc0 rfl call152 rfl (cB4 s.expr (by omega) (_::A) B C gv gf p vis fs _ _ R rw hgf) ?_
   rintro _ _ ⟨rfl,rfl⟩
   refine go 6 ?_
   exact ⟨.inr rfl,_,⟨A++⟨C,94,[.sl p.globals.length (p.globals.flatMap dB),.sl p.mutexes.length (p.mutexes.flatMap bT),.sl p.funcs.length (p.funcs.flatMap fV),.val (.map (some gv)),.val (.map (some gf)),.val (.int .i64 n),.val (.int .i64 at_)]⟩::B,R++hM gv 0 evI vis::rw⟩,aR rfl (aF rfl),aA (.cons _ (.refl _)) (.refl _),aPy (by unfold bZ5;simp [h1,h8,h11]<;>(split<;>omega)),rfl⟩
  refine wcp true rfl (xL h11) (go 13 ?_)
  exact ⟨.inr rfl,_,⟨A++⟨C,94,[.sl p.globals.length (p.globals.flatMap dB),.sl p.mutexes.length (p.mutexes.flatMap bT),.sl p.funcs.length (p.funcs.flatMap fV),.val (.map (some gv)),.val (.map (some gf)),.val (.int .i64 n),.val (.int .i64 at_)]⟩::B,R++hM gv 0 evI vis::rw⟩,aR rfl (aF rfl),aA (.cons _ (.refl _)) (.refl _),aPy (by unfold bZ5;simp [h1,h8,h11]<;>(split<;>omega)),rfl⟩
 refine wcp false rfl (eD h8) (go 7 ?_)
 by_cases h16:s.kind=5
 ·refine wcp true rfl (eR h16) (go 12 ?_)
  refine wc0 rfl call154 rfl (cCr (_::A) B C gv gf p vis fs _ _ R rw hgf s.ref (by omega)) ?_
  rintro _ _ ⟨rfl,rfl⟩
  refine go 6 ?_
  exact ⟨.inr rfl,_,⟨A++⟨C,94,[.sl p.globals.length (p.globals.flatMap dB),.sl p.mutexes.length (p.mutexes.flatMap bT),.sl p.funcs.length (p.funcs.flatMap fV),.val (.map (some gv)),.val (.map (some gf)),.val (.int .i64 n),.val (.int .i64 at_)]⟩::B,R++hM gv 0 evI vis::rw⟩,aR rfl (aF rfl),aA (.cons _ (.refl _)) (.refl _),aPy (by unfold bZ5;simp [h1,h8,h16]<;>(split<;>omega)),rfl⟩
 refine wcp false rfl (eD h16) (go 5 ?_)
 by_cases h21:s.kind=6
 ·refine wcp true rfl (eR h21) (go 9 ?_)
  refine wc0 rfl call154 rfl (cCr (_::A) B C gv gf p vis fs _ _ R rw hgf s.ref (by omega)) ?_
  rintro _ _ ⟨rfl,rfl⟩
  refine go 6 ?_
  exact ⟨.inr rfl,_,⟨A++⟨C,94,[.sl p.globals.length (p.globals.flatMap dB),.sl p.mutexes.length (p.mutexes.flatMap bT),.sl p.funcs.length (p.funcs.flatMap fV),.val (.map (some gv)),.val (.map (some gf)),.val (.int .i64 n),.val (.int .i64 at_)]⟩::B,R++hM gv 0 evI vis::rw⟩,aR rfl (aF rfl),aA (.cons _ (.refl _)) (.refl _),aPy (by unfold bZ5;simp [h1,h8,h16,h21]<;>(split<;>omega)),rfl⟩
 refine wcp false rfl (eD h21) (go 7 ?_)
 by_cases h25:s.kind=3
 ·refine wcp true rfl (eR h25) (go 11 ?_)
  refine wc0 rfl call155 rfl (cC1 (_::A) B C gv gf p vis fs _ _ R rw hgf s hw hfo) ?_
  rintro _ _ ⟨rfl,rfl⟩
  refine go 6 ?_
  exact ⟨.inr rfl,_,⟨A++⟨C,94,[.sl p.globals.length (p.globals.flatMap dB),.sl p.mutexes.length (p.mutexes.flatMap bT),.sl p.funcs.length (p.funcs.flatMap fV),.val (.map (some gv)),.val (.map (some gf)),.val (.int .i64 n),.val (.int .i64 at_)]⟩::B,R++hM gv 0 evI vis::rw⟩,aR rfl (aF rfl),aA (.cons _ (.refl _)) (.refl _),aPy (by unfold bZ5;simp [h1,h8,h16,h21,h25]<;>(split<;>omega)),rfl⟩
 refine wcp false rfl (eD h25) (go 5 ?_)
 by_cases h30:s.kind=4
 ·refine wcp true rfl (eR h30) (go 8 ?_)
  refine wc0 rfl call155 rfl (cC1 (_::A) B C gv gf p vis fs _ _ R rw hgf s hw hfo) ?_
  rintro _ _ ⟨rfl,rfl⟩
  refine go 6 ?_
  exact ⟨.inr rfl,_,⟨A++⟨C,94,[.sl p.globals.length (p.globals.flatMap dB),.sl p.mutexes.length (p.mutexes.flatMap bT),.sl p.funcs.length (p.funcs.flatMap fV),.val (.map (some gv)),.val (.map (some gf)),.val (.int .i64 n),.val (.int .i64 at_)]⟩::B,R++hM gv 0 evI vis::rw⟩,aR rfl (aF rfl),aA (.cons _ (.refl _)) (.refl _),aPy (by unfold bZ5;simp [h1,h8,h16,h21,h25,h30]<;>(split<;>omega)),rfl⟩
 refine wcp false rfl (eD h30) (go 7 ?_)
 by_cases h34:s.kind=7
 ·refine wcp true rfl (eR h34) (go 12 ?_)
  refine wc0 rfl call152 rfl (cB4 s.expr (by omega) (_::A) B C gv gf p vis fs _ _ R rw hgf) ?_
  rintro _ _ ⟨rfl,rfl⟩
  refine go 6 ?_
  exact ⟨.inr rfl,_,⟨A++⟨C,94,[.sl p.globals.length (p.globals.flatMap dB),.sl p.mutexes.length (p.mutexes.flatMap bT),.sl p.funcs.length (p.funcs.flatMap fV),.val (.map (some gv)),.val (.map (some gf)),.val (.int .i64 n),.val (.int .i64 at_)]⟩::B,R++hM gv 0 evI vis::rw⟩,aR rfl (aF rfl),aA (.cons _ (.refl _)) (.refl _),aPy (by unfold bZ5;simp [h1,h8,h16,h21,h25,h30,h34]<;>(split<;>omega)),rfl⟩
 refine wcp false rfl (eD h34) (go 5 ?_)
 by_cases h39:s.kind=8
 ·refine wcp true rfl (eR h39) (go 9 ?_)
  refine wc0 rfl call152 rfl (cB4 s.expr (by omega) (_::A) B C gv gf p vis fs _ _ R rw hgf) ?_
  rintro _ _ ⟨rfl,rfl⟩
  refine go 6 ?_
  exact ⟨.inr rfl,_,⟨A++⟨C,94,[.sl p.globals.length (p.globals.flatMap dB),.sl p.mutexes.length (p.mutexes.flatMap bT),.sl p.funcs.length (p.funcs.flatMap fV),.val (.map (some gv)),.val (.map (some gf)),.val (.int .i64 n),.val (.int .i64 at_)]⟩::B,R++hM gv 0 evI vis::rw⟩,aR rfl (aF rfl),aA (.cons _ (.refl _)) (.refl _),aPy (by unfold bZ5;simp [h1,h8,h16,h21,h25,h30,h34,h39]<;>(split<;>omega)),rfl⟩
 refine wcp false rfl (eD h39) (go 13 ?_)
 exact ⟨.inr rfl,_,⟨A++⟨C,94,[.sl p.globals.length (p.globals.flatMap dB),.sl p.mutexes.length (p.mutexes.flatMap bT),.sl p.funcs.length (p.funcs.flatMap fV),.val (.map (some gv)),.val (.map (some gf)),.val (.int .i64 n),.val (.int .i64 at_)]⟩::B,R++hM gv 0 evI vis::rw⟩,aR rfl (aF rfl),aA (.cons _ (.refl _)) (.refl _),aPy (by unfold bZ5;simp [h1,h8,h16,h21,h25,h30,h34,h39]<;>(split<;>omega)),rfl⟩
end
end Go.Proofs.YtojinfngbbajgaaGreatDoor
