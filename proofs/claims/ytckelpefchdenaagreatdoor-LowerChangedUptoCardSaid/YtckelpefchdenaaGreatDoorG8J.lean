import Derived.Test.YtckelpefchdenaaGreatDoorG7J
import Derived.Test.YtckelpefchdenaaGreatDoorCards
import Derived.Test.YtckelpefchdenaaGreatDoorTie
import Derived.Deep.DeepHandedRow
import Derived.LaidMore
set_option linter.all false
set_option synthInstance.maxHeartbeats 1000000
set_option synthInstance.maxSize 1000000
set_option maxHeartbeats 6400000
set_option maxRecDepth 100000
namespace Go.Proofs.YtckelpefchdenaaGreatDoor
open Go.Proofs.Tryz
open List (length_append length_cons length_nil mem_append mem_cons not_mem_nil append_assoc getElem_mem take_of_length_le)
section
open Go.RowKit
def Q4(A B:List aV)(C gv gf:Nat)(p:aX)(ch:br)(fs:dW)(n at_:Int)(R rw:List aQ)(hgf:ak gf 3 bT fs∈R)(x:aI):aT prog 123 [aE C,cK x] [] ⟨A++⟨C,114,be p [aB gv,aB gf,aA n,aA at_]⟩::B,R++ak gv 0 bA ch::rw⟩ λt s'=>t=aj (rB ch x:Int) /\ s'=⟨A++⟨C,114,be p [aB gv,aB gf,aA n,aA at_]⟩::B,R++ak gv 0 bA ch::rw⟩:=by
 refine bM 15 func123 ?_;refine go 13 ?_;refine aC J (o0 ch J J J aM oR dz uA jf) (go 5 ?_);by_cases h1:(cB ch x)=0
 ·refine aJ J (bR h1) (go 12 ?_);exact ⟨.inr J,_,⟨A++⟨C,114,be p [aB gv,aB gf,aA n,aA at_]⟩::B,R++ak gv 0 bA ch::rw⟩,bJ J (bO J),ah (.refl _) (.refl _),ff (by simp [rB,h1]),J⟩
 refine aF J (bN h1) (go 6 ?_);by_cases h4:(cB ch x)=1;focus
  refine aJ J (bR h4) (go 12 ?_)
 rotate_left;refine aF J (bN h4) (go 13 ?_);all_goals
  exact ⟨.inr J,_,⟨A++⟨C,114,be p [aB gv,aB gf,aA n,aA at_]⟩::B,R++ak gv 0 bA ch::rw⟩,bJ J (bO J),ah (.refl _) (.refl _),ff (by simp [rB,h1,h4]),J⟩
def P0(v:br):∀(l:List aS)(k:Nat)(h:k<l.length),ko v (l.take k)=0 -> jj v l[k]=0 -> ko v (l.take (k+1))=0
 |e::l,0,_,_,h=>by rw [jb,ko,if_pos iX,mZ,ko]
 |e::l,k+1,hk,h1,h2=>by
  rw [jb,ko] at h1;rw [jb,ko];split at h1
  ·rename_i h3;rw [if_pos h3];exact P0 v l k ql h1 qD
  rename_i h3;exact absurd h1 h3
def LL(v:br):∀(l:List aS)(k:Nat)(h:k<l.length),ko v (l.take k)=0 -> jj v l[k]≠0 -> ko v l=jj v l[k]
 |e::l,0,_,_,h=>by rw [ko,if_neg iX];rfl
 |e::l,k+1,hk,h1,h2=>by
  rw [jb,ko] at h1;rw [ko];split at h1
  ·rename_i h3;rw [if_pos h3];exact LL v l k ql h1 qD
  rename_i h3;exact absurd h1 h3
def GH(v:br)(e:aS):jj v e=if e.op=2 then rB v e.name else ko v e.args:=by cases e;rw [jj];rfl
def Rb(A B:List aV)(C gv gf:Nat)(p:aX)(ch:br)(fs:dW)(n at_:Int)(R rw:List aQ)(hgf:ak gf 3 bT fs∈R)(e:aS)(hN:e.nodes <= 1000000000)(ih:∀k (h:k<e.args.length) (A:List aV),aT prog 122 [aE C,.agg (bf e.args[k])] [] ⟨A++⟨C,114,be p [aB gv,aB gf,aA n,aA at_]⟩::B,R++ak gv 0 bA ch::rw⟩ λt s'=>t=aj ((jj ch e.args[k]:Nat):Int) /\ s'=⟨A++⟨C,114,be p [aB gv,aB gf,aA n,aA at_]⟩::B,R++ak gv 0 bA ch::rw⟩):aT prog 122 [aE C,.agg (bf e)] [] ⟨A++⟨C,114,be p [aB gv,aB gf,aA n,aA at_]⟩::B,R++ak gv 0 bA ch::rw⟩ λt s'=>t=aj (jj ch e:Int) /\ s'=⟨A++⟨C,114,be p [aB gv,aB gf,aA n,aA at_]⟩::B,R++ak gv 0 bA ch::rw⟩:=by
 have hlen:=si e;refine bM 29 func122 ?_;refine go 11 λb1=>?_;by_cases h1:e.op=2
 ·refine aJ J (bR h1) (go 8 ?_);refine cf J call123 J (Q4 (_::A) B C gv gf p ch fs _ _ R rw hgf e.name) ?_;rintro _ _ ⟨rfl,rfl⟩;refine go 5 ?_;exact ⟨.inr J,_,⟨A++⟨C,114,be p [aB gv,aB gf,aA n,aA at_]⟩::B,R++ak gv 0 bA ch::rw⟩,bJ J (bO J),ah bG (.refl _),ff (by rw [GH,if_pos Y]),J⟩
 refine aF J (bN h1) (go 15 ?_);refine jr (λk=>ko ch (e.args.take k)=0) (e.args.length) 18 (λk=>[(0,aE C),(3,aE b1),(4,aj 0),(16,.c (aG bV e.args)),(17,ab e.args.length)]) J (ao J) λk hk hvk=>?_;replace hvk:ko ch (e.args.take k)=0:=hvk
 try dsimp only
 refine go 2 ?_;by_cases h5:(k:Int)<(e.args.length:Int)
 ·refine aJ J (cw h5) (go 10 ?_);refine aC J (bX bV bf e.args fw fR k J J J J Y V iR dl) (go 9 λb2=>?_);refine cf J wJ J (ih k Y (_::_::A)) ?_;rintro _ _ ⟨rfl,rfl⟩;refine go 6 ?_;by_cases h8:((jj ch e.args[k]:Nat):Int)=0
  ·refine aF J (eG h8) (go 7 ?_);refine bK J (go 2 ?_);exact ⟨Y,(P0 ch _ k Y hvk Y),az (h1:=bG) (h:=av J (b_ Y) (ao J)) (λb hb=>d_ _ (hb))⟩
  refine aJ J (gG h8) (go 15 ?_);exact ⟨.inr J,_,⟨A++⟨C,114,be p [aB gv,aB gf,aA n,aA at_]⟩::B,R++ak gv 0 bA ch::rw⟩,bJ J (bO J),ah c_ (.refl _),ff (by rw [GH,if_neg Y,LL ch _ k Y hvk Y]),J⟩
 refine aF J (ct h5) (go 15 ?_);exact ⟨.inr J,_,⟨A++⟨C,114,be p [aB gv,aB gf,aA n,aA at_]⟩::B,R++ak gv 0 bA ch::rw⟩,bJ J (bO J),ah bG (.refl _),ff (by rw [take_of_length_le Y] at hvk;rw [GH,if_neg Y,hvk];rfl),J⟩
def LD:∀(N:Nat)(e:aS),e.nodes <= N -> N <= 1000000000 -> ∀(A B:List aV)(C gv gf:Nat)(p:aX)(ch:br)(fs:dW)(n at_:Int)(R rw:List aQ)(hgf:ak gf 3 bT fs∈R),aT prog 122 [aE C,.agg (bf e)] [] ⟨A++⟨C,114,be p [aB gv,aB gf,aA n,aA at_]⟩::B,R++ak gv 0 bA ch::rw⟩ λt s'=>t=aj (jj ch e:Int) /\ s'=⟨A++⟨C,114,be p [aB gv,aB gf,aA n,aA at_]⟩::B,R++ak gv 0 bA ch::rw⟩
 |0,e,h,_=>rW
 |N+1,e,h,hN=>λA B C gv gf p ch fs n at_ R rw hgf=>Rb A B C gv gf p ch fs n at_ R rw hgf e Y λk hk A=>LD N e.args[k] rP Y A B C gv gf p ch fs n at_ R rw hgf
def xr(e:aS)(h:e.nodes <= 1000000000)(A B:List aV)(C gv gf:Nat)(p:aX)(ch:br)(fs:dW)(n at_:Int)(R rw:List aQ)(hgf:ak gf 3 bT fs∈R):aT prog 122 [aE C,.agg (bf e)] [] ⟨A++⟨C,114,be p [aB gv,aB gf,aA n,aA at_]⟩::B,R++ak gv 0 bA ch::rw⟩ λt s'=>t=aj (jj ch e:Int) /\ s'=⟨A++⟨C,114,be p [aB gv,aB gf,aA n,aA at_]⟩::B,R++ak gv 0 bA ch::rw⟩:=LD _ e h (bY _) A B C gv gf p ch fs n at_ R rw hgf
def C6(v:br)(l:List aS)(h:0<l.length):Db v l=jj v l[0]:=by
 cases l with
 |nil=>simp at h
 |cons e l=>rfl
def Hg(A B:List aV)(C gv gf:Nat)(p:aX)(ch:br)(fs:dW)(n at_:Int)(R rw:List aQ)(hgf:ak gf 3 bT fs∈R)(r:cD)(hN:cv r.index <= 1000000000):aT prog 124 [aE C,.agg (encR r)] [] ⟨A++⟨C,114,be p [aB gv,aB gf,aA n,aA at_]⟩::B,R++ak gv 0 bA ch::rw⟩ λt s'=>t=aj (qI ch r:Int) /\ s'=⟨A++⟨C,114,be p [aB gv,aB gf,aA n,aA at_]⟩::B,R++ak gv 0 bA ch::rw⟩:=by
 have hix:∀h:0<r.index.length,r.index[0].nodes <= 1000000000:=λh=>by have:=pc r.index 0 h;omega
 refine bM 43 func124 ?_;refine go 7 λb1=>?_;refine bu [b1,C,gv,gf] (aU [0,1,2,3,4,5] 2 (go 7 ?_));refine aZ 6 J (o0 ch J J J aM oR dz uA na) (aU [7] 0 (go 2 ?_));refine bC (go 6 ?_);by_cases h1:(cB ch r.name)=0
 ·refine aJ J (bR h1) (go 12 ?_);exact ⟨.inr J,_,⟨A++⟨C,114,[.sl p.globals.length (p.globals.flatMap cR),.sl p.mutexes.length (p.mutexes.flatMap bB),.sl p.funcs.length (p.funcs.flatMap bT),.val (.map (some gv)),.val (.map (some gf)),.val (.int .i64 n),.val (.int .i64 at_)]⟩::B,R++ak gv 0 bA ch::rw⟩,bJ J (bO J),ah bG (.refl _),ff (by unfold qI xc;simp [h1]<;>first|(split<;>omega)|exact ke.1 Y|(rw [if_neg Bq,C6 _ _ Y])|(rw [if_pos (ke.1 Y)];rfl)),rfl⟩
 refine aF J (bN h1) (go 8 ?_);by_cases h4:(cB ch r.name)=2
 ·refine aF J (eG h4) (go 14 ?_);refine aF J (bN Y) (go 3 ?_);by_cases h6:(0:Int)<(r.index.length:Int);focus
   refine aJ J (fF h6) ?_;refine aC J (jY true J J J jh J) (go 12 ?_)
  rotate_left;refine aF J (fE h6) ?_;refine aC J (jY false J J J jh J) (go 7 ?_);refine aF J (bN Y) (go 13 ?_);all_goals
   exact ⟨.inr J,_,⟨A++⟨C,114,[.sl p.globals.length (p.globals.flatMap cR),.sl p.mutexes.length (p.mutexes.flatMap bB),.sl p.funcs.length (p.funcs.flatMap bT),.val (.map (some gv)),.val (.map (some gf)),.val (.int .i64 n),.val (.int .i64 at_)]⟩::B,R++ak gv 0 bA ch::rw⟩,bJ J (bO J),ah bG (.refl _),ff (by unfold qI xc;simp [h1,h4,h6]<;>first|(split<;>omega)|exact ke.1 Y|(rw [if_neg Bq,C6 _ _ Y])|(rw [if_pos (ke.1 Y)];rfl)),rfl⟩
 refine aJ J (gG h4) (go 2 ?_);by_cases h10:(cB ch r.name)=3;focus
  refine aF J (eG h10) (go 11 ?_);refine aJ J (bR h10) (go 3 ?_);by_cases wd:(0:Int)<(r.index.length:Int);focus
   refine aJ J (fF wd) ?_;refine aC J (jY false J J J jh J) (go 7 ?_);refine aJ J (bR h10) (go 9 ?_);refine aC J (bX bV bf r.index fw fR 0 J J J J Y V iR dl) (go 1 ?_);refine cf J wJ J (xr r.index[0] (hix Y) (_::A) B C gv gf p ch fs _ _ R rw hgf) ?_;rintro _ _ ⟨rfl,rfl⟩;refine go 6 ?_
  rotate_left;refine aF J (fE wd) ?_;refine aC J (jY true J J J jh J) (go 12 ?_)
 rotate_left 2;refine aJ J (gG h10) (go 3 ?_);by_cases wd:(cB ch r.name)=4
 ·refine aF J (eG wd) (go 7 ?_);refine aF J (bN h10) (go 3 ?_);by_cases h19:(0:Int)<(r.index.length:Int);focus
   refine aJ J (fF h19) ?_;refine aC J (jY true J J J jh J) (go 12 ?_)
  rotate_left;refine aF J (fE h19) ?_;refine aC J (jY false J J J jh J) (go 7 ?_);refine aF J (bN h10) (go 13 ?_);all_goals
   exact ⟨.inr J,_,⟨A++⟨C,114,[.sl p.globals.length (p.globals.flatMap cR),.sl p.mutexes.length (p.mutexes.flatMap bB),.sl p.funcs.length (p.funcs.flatMap bT),.val (.map (some gv)),.val (.map (some gf)),.val (.int .i64 n),.val (.int .i64 at_)]⟩::B,R++ak gv 0 bA ch::rw⟩,bJ J (bO J),ah bG (.refl _),ff (by unfold qI xc;simp [h1,h4,h10,wd,h19]<;>first|(split<;>omega)|exact ke.1 Y|(rw [if_neg Bq,C6 _ _ Y])|(rw [if_pos (ke.1 Y)];rfl)),rfl⟩
 refine aJ J (gG wd) (go 16 ?_);all_goals
  exact ⟨.inr J,_,⟨A++⟨C,114,[.sl p.globals.length (p.globals.flatMap cR),.sl p.mutexes.length (p.mutexes.flatMap bB),.sl p.funcs.length (p.funcs.flatMap bT),.val (.map (some gv)),.val (.map (some gf)),.val (.int .i64 n),.val (.int .i64 at_)]⟩::B,R++ak gv 0 bA ch::rw⟩,bJ J (bO J),ah bG (.refl _),ff (by unfold qI xc;simp [h1,h4,h10,wd]<;>first|(split<;>omega)|exact ke.1 Y|(rw [if_neg Bq,C6 _ _ Y])|(rw [if_pos (ke.1 Y)];rfl)),rfl⟩
def Es(v:br):∀(l:List bq)(xs:List bg)(k:Nat)(h:k<l.length)(h2:k<xs.length),jE v (l.take k) (xs.take k)=0 -> nL v l[k] xs[k]=0 -> jE v (l.take (k+1)) (xs.take (k+1))=0
 |a::l,x::xs,0,_,_,_,h=>by rw [jb,jb,jE,if_pos iX,mZ,mZ,jE];intros;simp_all
 |a::l,x::xs,k+1,hk,hk2,h1,h2=>by
  rw [jb,jb,jE] at h1;rw [jb,jb,jE];split at h1
  ·rename_i h3;rw [if_pos h3];exact Es v l xs k ql (by simpa using hk2) h1 qD
  rename_i h3;exact absurd h1 h3
def MN(v:br):∀(l:List bq)(xs:List bg)(k:Nat)(h:k<l.length)(h2:k<xs.length),jE v (l.take k) (xs.take k)=0 -> nL v l[k] xs[k]≠0 -> jE v l xs=nL v l[k] xs[k]
 |a::l,x::xs,0,_,_,_,h=>by rw [jE,if_neg iX];rfl
 |a::l,x::xs,k+1,hk,hk2,h1,h2=>by
  rw [jb,jb,jE] at h1;rw [jE];split at h1
  ·rename_i h3;rw [if_pos h3];exact MN v l xs k ql (by simpa using hk2) h1 qD
  rename_i h3;exact absurd h1 h3
def Ni(A B:List aV)(C gv gf:Nat)(p:aX)(ch:br)(fs:dW)(n at_:Int)(R rw:List aQ)(hgf:ak gf 3 bT fs∈R)(s:aD)(hw:s.wt <= 900000000)(hfo:eN ch fs):aT prog 125 [aE C,.agg (cm s)] [] ⟨A++⟨C,114,be p [aB gv,aB gf,aA n,aA at_]⟩::B,R++ak gv 0 bA ch::rw⟩ λt s'=>t=aj (sI ch fs s.name s.args:Int) /\ s'=⟨A++⟨C,114,be p [aB gv,aB gf,aA n,aA at_]⟩::B,R++ak gv 0 bA ch::rw⟩:=by
 have hwp:=f9 s;have hal:=px s.args;have hak:∀k (h:k<s.args.length),s.args[k].expr.nodes <= 900000000 /\ cv s.args[k].ref.index <= 900000000:=λk h=>by have h1:=vT s.args k h;unfold bq.wt cD.wt at h1;omega
 refine bM 66 func125 ?_;refine go 8 λb1=>?_;refine bu [b1,C,gv,gf] (aU [0,1,2,3,4,5] 1 (go 7 ?_));refine aZ 6 J (o0 ch J J J aM oR dz uA na) ?_;refine bC (go 4 ?_);by_cases h1:(cB ch s.name)=0
 ·refine aJ J (bR h1) (go 12 ?_);exact ⟨.inr J,_,⟨A++⟨C,114,be p [aB gv,aB gf,aA n,aA at_]⟩::B,R++ak gv 0 bA ch::rw⟩,bJ J (bO J),ah bG (.refl _),ff (by unfold sI;simp [h1]),J⟩
 refine aF J (bN h1) (go 6 ?_);by_cases h4:(cB ch s.name)=5
 ·refine aJ J (bR h4) (go 8 ?_);refine bu [b1,C,gv,gf] ?_;obtain ⟨f,hf⟩:=hfo.2 s.name Y;refine aU [0,1,2,3,4,5] 3 (go 7 ?_);refine aZ 6 J (Zl (m:=3) (ev:=bT) fs J J J vx V (λ_=>J) Bj dz sv na hf) (aU [7,8] 0 (go 3 ?_));refine bC (go 9 ?_);by_cases h6:(s.args.length:Int)=(f.params.length:Int)
  ·refine aF J (eG h6) (go 15 ?_);refine jr (λk=>jE ch (s.args.take k) (f.params.take k)=0) (s.args.length) 37 (λk=>[(0,aE C),(3,aE b1),(4,aj 0),(5,.c (aG cE f.params)),(35,.c (aG cg s.args)),(36,ab s.args.length)]) (by simp [jE]) (ao J) λk hk hvk=>?_;replace hvk:jE ch (s.args.take k) (f.params.take k)=0:=hvk
   try dsimp only
   refine go 2 ?_;by_cases h8:(k:Int)<(s.args.length:Int)
   ·refine aJ J (cw h8) (go 11 ?_);refine aC J (bX cg cg s.args oO (λ_=>J) k J J J J Y V lV j') (go 14 λb2=>?_);refine bu [b2,b1,C] (aU [0] 8 (go 2 ?_));rcases bz (s.args[k].mutex) with h10|h10;focus
     refine aZ 1 J (cP (bH h10) (cW (hU:=λ_ h=>(gZ.1 h).2 aM) [] dJ dI)) (aU [2,3] 5 (go 3 ?_));refine aZ 4 J (bX cE cE f.params iQ (λ_=>J) k J J J J Y V iK ga) (aU [5] 3 (go 2 ?_));rcases bz (f.params[k].mutex) with h11|h11;focus
      refine aZ 6 J (cP (bH h11) (kh J J dJ dI J)) ?_;refine aZ 7 J (jY false J J J jh J) (aU [8] 0 (go 2 ?_));refine bC (go 5 ?_);refine aC J (cP (bH h10) (cW [] dJ dI)) (go 8 ?_);refine cf J call124 J (Hg (_::_::A) B C gv gf p ch fs _ _ R rw hgf s.args[k].ref yB) ?_;rintro _ _ ⟨rfl,rfl⟩;refine go 6 ?_;have aH3:nL ch s.args[k] f.params[k]=qI ch s.args[k].ref:=by unfold nL;rw [h10,h11];rfl
      refine go 1 ?_;by_cases h16:((qI ch s.args[k].ref:Nat):Int)=0
      ·refine aF J (eG h16) (go 7 ?_);refine bK J (go 2 ?_);exact ⟨Y,(Es ch _ _ k Y Y hvk (by rw [aH3];omega)),az (h1:=bG) (h:=av J (b_ Y) (ao J)) (λb hb=>d_ _ (hb))⟩
      refine aJ J (gG h16) (go 15 ?_)
     rotate_left;refine aZ 6 J (cP (bH h11) (kh J J dJ dI J)) ?_;refine aZ 7 J (jY true J J J jh J) (aU [8] 0 (go 2 ?_));refine bC (go 7 ?_);have aH3:nL ch s.args[k] f.params[k]=8:=by unfold nL;rw [h10,h11];rfl
     refine go 1 ?_;refine aJ J J (go 15 ?_)
    rotate_left 2;focus
     refine aZ 1 J (cP (bH h10) (cW (hU:=λ_ h=>(gZ.1 h).2 aM) [] dJ dI)) (aU [2,3] 5 (go 3 ?_));refine aZ 4 J (bX cE cE f.params iQ (λ_=>J) k J J J J Y V iK ga) (aU [5] 3 (go 2 ?_));rcases bz (f.params[k].mutex) with h22|h22;focus
      refine aZ 6 J (cP (bH h22) (kh J J dJ dI J)) ?_;refine aZ 7 J (jY true J J J jh J) (aU [8] 0 (go 2 ?_));refine bC (go 7 ?_);have aH3:nL ch s.args[k] f.params[k]=8:=by unfold nL;rw [h10,h22];rfl
      refine go 1 ?_;refine aJ J J (go 15 ?_)
     rotate_left;refine aZ 6 J (cP (bH h22) (kh J J dJ dI J)) ?_;refine aZ 7 J (jY false J J J jh J) (aU [8] 0 (go 2 ?_));refine bC (go 5 ?_);refine aC J (cP (bH h10) (cW [] dJ dI)) (go 8 ?_);refine cf J wJ J (xr s.args[k].expr yB (_::_::A) B C gv gf p ch fs _ _ R rw hgf) ?_;rintro _ _ ⟨rfl,rfl⟩;refine go 6 ?_;have aH3:nL ch s.args[k] f.params[k]=jj ch s.args[k].expr:=by unfold nL;rw [h10,h22];rfl
     refine go 1 ?_;by_cases DH:((jj ch s.args[k].expr:Nat):Int)=0
     ·refine aF J (eG DH) (go 7 ?_);refine bK J (go 2 ?_);exact ⟨Y,(Es ch _ _ k Y Y hvk (by rw [aH3];omega)),az (h1:=bG) (h:=av J (b_ Y) (ao J)) (λb hb=>d_ _ (hb))⟩
     refine aJ J (gG DH) (go 15 ?_)
    all_goals
     exact ⟨.inr J,_,⟨A++⟨C,114,be p [aB gv,aB gf,aA n,aA at_]⟩::B,R++ak gv 0 bA ch::rw⟩,bJ J (bO J),ah c_ (.refl _),ff (by unfold sI;rw [if_neg Y,if_pos Y,hf];show (((if s.args.length=f.params.length then jE ch s.args f.params else 7:Nat):Int))=_;rw [if_pos Y,MN ch s.args f.params k Y Y hvk (by rw [aH3];omega),aH3]<;>rfl),rfl⟩
   refine aF J (ct h8) (go 15 ?_);exact ⟨.inr J,_,⟨A++⟨C,114,be p [aB gv,aB gf,aA n,aA at_]⟩::B,R++ak gv 0 bA ch::rw⟩,bJ J (bO J),ah bG (.refl _),ff (by unfold sI;rw [if_neg Y,if_pos Y,hf];show (((if s.args.length=f.params.length then jE ch s.args f.params else 7:Nat):Int))=_;rw [take_of_length_le Y,take_of_length_le Y] at hvk;rw [if_pos Y,hvk];rfl),J⟩
  refine aJ J (gG h6) (go 10 ?_);exact ⟨.inr J,_,⟨A++⟨C,114,be p [aB gv,aB gf,aA n,aA at_]⟩::B,R++ak gv 0 bA ch::rw⟩,bJ J (bO J),ah bG (.refl _),ff (by unfold sI;rw [if_neg Y,if_pos Y,hf];show (((if s.args.length=f.params.length then jE ch s.args f.params else 7:Nat):Int))=_;rw [if_neg Y];rfl),J⟩
 refine aF J (bN h4) (go 12 ?_);exact ⟨.inr J,_,⟨A++⟨C,114,be p [aB gv,aB gf,aA n,aA at_]⟩::B,R++ak gv 0 bA ch::rw⟩,bJ J (bO J),ah bG (.refl _),ff (by unfold sI;simp [h1,h4]),J⟩
def Wm(A B:List aV)(C gv gf:Nat)(p:aX)(ch:br)(fs:dW)(n at_:Int)(R rw:List aQ)(hgf:ak gf 3 bT fs∈R)(s:aD)(hw:s.wt <= 900000000)(hfo:eN ch fs):aT prog 95 [aE C,.agg (cm s)] [] ⟨A++⟨C,114,be p [aB gv,aB gf,aA n,aA at_]⟩::B,R++ak gv 0 bA ch::rw⟩ λt s'=>t=aj (kv ch fs s:Int) /\ s'=⟨A++⟨C,114,be p [aB gv,aB gf,aA n,aA at_]⟩::B,R++ak gv 0 bA ch::rw⟩:=by
 have hwp:=f9 s;unfold cD.wt at hwp;refine bM 55 func95 ?_;refine go 16 λb1=>?_;by_cases h1:s.kind=1
 ·refine aJ J (bR h1) (go 6 ?_);refine bu [b1,C,gv,gf] (aU [0,1,2,3,4,5] 2 (go 7 ?_));refine aZ 6 J (o0 ch J J J aM oR dz uA na) ?_;by_cases h3:(cB ch s.name)=0;focus
   refine aZ 7 J (ei false J J J (eG h3)) ?_;refine bC (go 9 ?_);refine cf J wJ J (xr s.expr Y (_::A) B C gv gf p ch fs _ _ R rw hgf) ?_;rintro _ _ ⟨rfl,rfl⟩;refine go 6 ?_
  rotate_left;refine aZ 7 J (ei true J J J (gG h3)) ?_;refine bC (go 11 ?_);all_goals
   exact ⟨.inr J,_,⟨A++⟨C,114,be p [aB gv,aB gf,aA n,aA at_]⟩::B,R++ak gv 0 bA ch::rw⟩,bJ J (bO J),ah bG (.refl _),ff (by unfold kv;simp [h1,h3]<;>(split<;>omega)),rfl⟩
 refine aF J (bN h1) (go 6 ?_);by_cases h8:s.kind=2
 ·refine aJ J (bR h8) (go 10 ?_);refine cf J call123 J (Q4 (_::A) B C gv gf p ch fs _ _ R rw hgf s.name) ?_;rintro _ _ ⟨rfl,rfl⟩;refine go 6 ?_;by_cases h11:(rB ch s.name:Int)=0;focus
   refine aF J (eG h11) (go 10 ?_);refine cf J wJ J (xr s.expr Y (_::A) B C gv gf p ch fs _ _ R rw hgf) ?_;rintro _ _ ⟨rfl,rfl⟩;refine go 6 ?_
  rotate_left;refine aJ J (gG h11) (go 13 ?_);all_goals
   exact ⟨.inr J,_,⟨A++⟨C,114,be p [aB gv,aB gf,aA n,aA at_]⟩::B,R++ak gv 0 bA ch::rw⟩,bJ J (bO J),ah bG (.refl _),ff (by unfold kv;simp [h1,h8,h11]<;>(split<;>omega)),rfl⟩
 refine aF J (bN h8) (go 7 ?_);by_cases h16:s.kind=5
 ·refine aJ J (bR h16) (go 12 ?_);refine cf J call124 J (Hg (_::A) B C gv gf p ch fs _ _ R rw hgf s.ref Y) ?_;rintro _ _ ⟨rfl,rfl⟩;refine go 6 ?_;exact ⟨.inr J,_,⟨A++⟨C,114,be p [aB gv,aB gf,aA n,aA at_]⟩::B,R++ak gv 0 bA ch::rw⟩,bJ J (bO J),ah bG (.refl _),ff (by unfold kv;simp [h1,h8,h16]<;>(split<;>omega)),rfl⟩
 refine aF J (bN h16) (go 5 ?_);by_cases h21:s.kind=6
 ·refine aJ J (bR h21) (go 9 ?_);refine cf J call124 J (Hg (_::A) B C gv gf p ch fs _ _ R rw hgf s.ref Y) ?_;rintro _ _ ⟨rfl,rfl⟩;refine go 6 ?_;exact ⟨.inr J,_,⟨A++⟨C,114,be p [aB gv,aB gf,aA n,aA at_]⟩::B,R++ak gv 0 bA ch::rw⟩,bJ J (bO J),ah bG (.refl _),ff (by unfold kv;simp [h1,h8,h16,h21]<;>(split<;>omega)),rfl⟩
 refine aF J (bN h21) (go 7 ?_);by_cases BT:s.kind=3
 ·refine aJ J (bR BT) (go 11 ?_);refine cf J call125 J (Ni (_::A) B C gv gf p ch fs _ _ R rw hgf s hw hfo) ?_;rintro _ _ ⟨rfl,rfl⟩;refine go 6 ?_;exact ⟨.inr J,_,⟨A++⟨C,114,be p [aB gv,aB gf,aA n,aA at_]⟩::B,R++ak gv 0 bA ch::rw⟩,bJ J (bO J),ah bG (.refl _),ff (by unfold kv;simp [h1,h8,h16,h21,BT]<;>(split<;>omega)),rfl⟩
 refine aF J (bN BT) (go 5 ?_);by_cases DH:s.kind=4
 ·refine aJ J (bR DH) (go 8 ?_);refine cf J call125 J (Ni (_::A) B C gv gf p ch fs _ _ R rw hgf s hw hfo) ?_;rintro _ _ ⟨rfl,rfl⟩;refine go 6 ?_;exact ⟨.inr J,_,⟨A++⟨C,114,be p [aB gv,aB gf,aA n,aA at_]⟩::B,R++ak gv 0 bA ch::rw⟩,bJ J (bO J),ah bG (.refl _),ff (by unfold kv;simp [h1,h8,h16,h21,BT,DH]<;>(split<;>omega)),rfl⟩
 refine aF J (bN DH) (go 7 ?_);by_cases h34:s.kind=7
 ·refine aJ J (bR h34) (go 12 ?_);refine cf J wJ J (xr s.expr Y (_::A) B C gv gf p ch fs _ _ R rw hgf) ?_;rintro _ _ ⟨rfl,rfl⟩;refine go 6 ?_;exact ⟨.inr J,_,⟨A++⟨C,114,be p [aB gv,aB gf,aA n,aA at_]⟩::B,R++ak gv 0 bA ch::rw⟩,bJ J (bO J),ah bG (.refl _),ff (by unfold kv;simp [h1,h8,h16,h21,BT,DH,h34]<;>(split<;>omega)),rfl⟩
 refine aF J (bN h34) (go 5 ?_);by_cases Vc:s.kind=8;focus
  refine aJ J (bR Vc) (go 9 ?_);refine cf J wJ J (xr s.expr Y (_::A) B C gv gf p ch fs _ _ R rw hgf) ?_;rintro _ _ ⟨rfl,rfl⟩;refine go 6 ?_
 rotate_left;refine aF J (bN Vc) (go 13 ?_);all_goals
  exact ⟨.inr J,_,⟨A++⟨C,114,be p [aB gv,aB gf,aA n,aA at_]⟩::B,R++ak gv 0 bA ch::rw⟩,bJ J (bO J),ah bG (.refl _),ff (by unfold kv;simp [h1,h8,h16,h21,BT,DH,h34,Vc]<;>(split<;>omega)),rfl⟩
def xg{fs:dW}{l:List aD}{own:List aI}{st x:eJ}{k:Nat}(hk:k<l.length)(h:eQ fs (l.drop k) own st=eQ fs l [] x):
  ((gY fs l[k] st).1≠0 -> jQ fs l x=gY fs l[k] st) /\ ((gY fs l[k] st).1=0 -> eQ fs (l.drop (k+1)) (qi l[k] own) (gY fs l[k] st).2=eQ fs l [] x):=by
 rw [ii hk,eQ] at h;refine ⟨λh0=>?_,λh0=>?_⟩
 ·rw [if_neg h0] at h;unfold jQ;rw [←h];unfold ia;rw [if_neg h0]
 rw [if_pos h0] at h;exact h
def W_{fs:dW}{l:List aD}{own:List aI}{st x:eJ}{k:Nat}(hk:k=l.length)(h:eQ fs (l.drop k) own st=eQ fs l [] x):jQ fs l x=(0,⟨own.foldl eb st.ch,st.n,st.at_⟩):=by
 rw [m6 Y,eQ] at h;unfold jQ;rw [←h];rfl
def Xg(l:List aD)(k:Nat)(h:k<l.length):an (l.drop k)=l[k].wt+an (l.drop (k+1)):=by rw [ii h,an]
def Wy(own:List aI)(v:br)(j:Nat)(h:j<own.length):eb ((own.take j).foldl eb v) own[j]=(own.take (j+1)).foldl eb v:=by
 rw [gX h,DF];rfl
def Qp(l:List aD)(ih1:∀k (h:k<l.length) (A B:List aV) (C gv gf:Nat) (p:aX) (fs:dW) (R rw:List aQ) (hgf:ak gf 3 bT fs∈R) (z:Int) (x:eJ) (hz:z=(x.n:Int)) (hfo:eN x.ch fs) (hn:x.n+an l[k].thn <= 900000000),aT prog 66 [aE C,.c (aG encS l[k].thn)] [C,gv] ⟨A++⟨C,114,be p [aB gv,aB gf,aA z,aA x.at_]⟩::B,R++ak gv 0 bA x.ch::rw⟩ λt s'=>∃(e:Nat) (y:eJ),jQ fs l[k].thn x=(e,y) /\ t=ab e /\ s'=⟨A++⟨C,114,be p [aB gv,aB gf,am y.n,aA y.at_]⟩::B,R++ak gv 0 bA y.ch::rw⟩)(ih2:∀k (h:k<l.length) (A B:List aV) (C gv gf:Nat) (p:aX) (fs:dW) (R rw:List aQ) (hgf:ak gf 3 bT fs∈R) (z:Int) (x:eJ) (hz:z=(x.n:Int)) (hfo:eN x.ch fs) (hn:x.n+an l[k].els <= 900000000),aT prog 66 [aE C,.c (aG encS l[k].els)] [C,gv] ⟨A++⟨C,114,be p [aB gv,aB gf,aA z,aA x.at_]⟩::B,R++ak gv 0 bA x.ch::rw⟩ λt s'=>∃(e:Nat) (y:eJ),jQ fs l[k].els x=(e,y) /\ t=ab e /\ s'=⟨A++⟨C,114,be p [aB gv,aB gf,am y.n,aA y.at_]⟩::B,R++ak gv 0 bA y.ch::rw⟩)(A B:List aV)(C gv gf:Nat)(p:aX)(fs:dW)(R rw:List aQ)(hgf:ak gf 3 bT fs∈R)(z:Int)(x:eJ)(hz:z=(x.n:Int))(hfo:eN x.ch fs)(hn:x.n+an l <= 900000000):aT prog 66 [aE C,.c (aG encS l)] [C,gv] ⟨A++⟨C,114,be p [aB gv,aB gf,aA z,aA x.at_]⟩::B,R++ak gv 0 bA x.ch::rw⟩ λt s'=>∃(e:Nat) (y:eJ),jQ fs l x=(e,y) /\ t=ab e /\ s'=⟨A++⟨C,114,be p [aB gv,aB gf,am y.n,aA y.at_]⟩::B,R++ak gv 0 bA y.ch::rw⟩:=by
 subst hz;obtain ⟨x0,rfl⟩:∃y,y=x:=⟨_,rfl⟩;have hln:=ol l;refine bM 80 func66 ?_;refine go 19 ?_;refine gA 9 1 ?_;refine fv (λg:Nat×aN×List aI×eJ=>(⟨80,aR g.2.1++[C,gv],⟨A++⟨C,114,be p [aB gv,aB gf,am g.2.2.2.n,aA g.2.2.2.at_]⟩::B,⟨g.2.1,9,1,g.2.2.1.length,cj g.2.2.1⟩::R++ak gv 0 bA g.2.2.2.ch::rw⟩,[(15,ab g.1),(5,ap g.2.1),(0,aE C),(4,aj 0),(13,.c (aG encS l)),(14,ab l.length)]⟩:AS)) (λg=>g.1 <= l.length /\ eQ fs (l.drop g.1) g.2.2.1 g.2.2.2=eQ fs l [] x0 /\ eN g.2.2.2.ch fs /\ g.2.2.2.n+an (l.drop g.1) <= 900000000 /\ g.2.2.1.length <= g.1) (λg=>l.length-g.1) (0,.slice none 0 0,[],x0) (az (by intro b hb;simpa [aR,Value.ownBlock] using hb)) ⟨eL _,J,hfo,hn,bY _⟩ ?_;rintro ⟨k,v,own,⟨ch,n,at_⟩⟩ ⟨hk,hst,hfk,hnk,hol⟩;dsimp only at hk hst hfk hnk hol
 try dsimp only
 refine go 2 ?_;by_cases h1:(k:Int)<(l.length:Int)
 ·refine aJ J (cw h1) (go 10 ?_);refine aC J (bX encS cm l kS mQ k J J J J Y V j0 eB) (go 23 λb1=>?_);refine bK J (go 10 ?_);have hwk:=rH l k Y;have hwd:=Xg l k Y;have hwq:=f9 l[k];obtain ⟨bp,hpa⟩:∃e,kv ch fs l[k]=e:=⟨_,rfl⟩;refine cf J call95 J (Wm (_::A) B C gv gf p ch fs _ _ (_::R) rw vx l[k] Y hfk) ?_;rintro _ _ ⟨rfl,rfl⟩;rw [hpa];refine go 6 ?_;by_cases h3:(bp:Int)=0
  ·refine aF J (eG h3) (go 10 ?_);by_cases h5:l[k].kind=1;focus
    refine aJ J (bR h5) (go 4 ?_);refine bu [b1,C] (aU [0,1,2,3,4,5] 1 (go 7 ?_));refine aY 6 J J (qc ch (_::R) J J J J J oR dz aM sT ?_);refine bC (go 5 ?_);refine aW J (bU (r:=cj [l[k].name]) iy ?_);refine aW J (dS [] pE J J V cO Y (@length_append _ own [l[k].name]).symm fy co (r:=cj (own++[l[k].name])) (by simp [cj]) λw2=>?_);refine go 9 ?_;obtain rfl:bp=0:=Y;have hbg:jO l[k] ⟨ch,n,at_⟩=⟨(dE ch l[k].name 1),n+1,n⟩:=by unfold jO;dsimp only;rw [if_pos h5]
    have hf0:eN (dE ch l[k].name 1) fs:=hfk.put _ V;refine aW J (bo [C,gv] J J V call66 J (ih1 k Y (_::A) B C gv gf p fs (_::R) rw vx _ ⟨(dE ch l[k].name 1),n+1,n⟩ MP hf0 N') jR nZ mI ?_);rintro _ _ ⟨ae,⟨qr,n1,at1⟩,hy1,rfl,rfl⟩;have hb1:=D2 fs l[k].thn ⟨(dE ch l[k].name 1),n+1,n⟩;rw [hy1] at hb1;have hf1:=zy (l:=l[k].thn) (x:=⟨(dE ch l[k].name 1),n+1,n⟩) hf0;rw [hy1] at hf1;dsimp only at hb1 hf1;refine go 6 ?_;by_cases n9:(ae:Int)=0
    ·refine aF J (eG n9) (go 10 ?_);refine aW J (bo [C,gv] J J V call66 J (ih2 k Y (_::A) B C gv gf p fs (_::R) rw vx _ ⟨qr,n1,at1⟩ Qb hf1 Kv) jR nZ mI ?_);rintro _ _ ⟨e2,⟨rd,n2,at2⟩,hy2,rfl,rfl⟩;have hb2:=D2 fs l[k].els ⟨qr,n1,at1⟩;rw [hy2] at hb2;have hf2:=zy (l:=l[k].els) (x:=⟨qr,n1,at1⟩) hf1;rw [hy2] at hf2;dsimp only at hb2 hf2;refine go 6 ?_;by_cases h9:(e2:Int)=0
     ·refine aF J (eG h9) (go 7 ?_);refine bK J (go 2 ?_);have Id:gY fs l[k] ⟨ch,n,at_⟩=(0,⟨rd,n2,at2⟩):=L5;have hnx:=(xg Y hst).2 (by rw [Id]);rw [Id] at hnx;rw [show qi l[k] own=(own++[l[k].name]) from if_pos h5] at hnx;exact ⟨(k+1,w2,(own++[l[k].name]),⟨rd,n2,at2⟩),⟨by show k+1 <= l.length;omega,hnx,hf2,L_,by show (own++[l[k].name]).length <= k+1;rw [length_append];simp only [List.length_singleton];omega⟩,Da,az (h1:=bG) (h:=av J (b_ Y) (ao J)) lD⟩
     refine aJ J (gG h9) (go 15 ?_);have Id:gY fs l[k] ⟨ch,n,at_⟩=(e2,⟨rd,n2,at2⟩):=Ls;have hbk:=(xg Y hst).1 (by rw [Id];show e2≠0;omega);rw [Id] at hbk;exact ⟨.inr J,_,⟨A++⟨C,114,be p [aB gv,aB gf,am n2,aA at2]⟩::B,R++ak gv 0 bA rd::rw⟩,bJ J (bO J),ah bG bG,e2,⟨rd,n2,at2⟩,hbk,J,J⟩
   rotate_left;refine aF J (bN h5) (go 11 ?_);obtain rfl:bp=0:=Y;have hbg:jO l[k] ⟨ch,n,at_⟩=⟨ch,n+1,n⟩:=by unfold jO;dsimp only;rw [if_neg h5]
   have hf0:eN ch fs:=hfk;refine aW J (bo [C,gv] J J V call66 J (ih1 k Y (_::A) B C gv gf p fs (_::R) rw vx _ ⟨ch,n+1,n⟩ MP hf0 N') jR nZ mI ?_);rintro _ _ ⟨ae,⟨qr,n1,at1⟩,hy1,rfl,rfl⟩;have hb1:=D2 fs l[k].thn ⟨ch,n+1,n⟩;rw [hy1] at hb1;have hf1:=zy (l:=l[k].thn) (x:=⟨ch,n+1,n⟩) hf0;rw [hy1] at hf1;dsimp only at hb1 hf1;refine go 6 ?_;by_cases n9:(ae:Int)=0
   ·refine aF J (eG n9) (go 10 ?_);refine aW J (bo [C,gv] J J V call66 J (ih2 k Y (_::A) B C gv gf p fs (_::R) rw vx _ ⟨qr,n1,at1⟩ Qb hf1 Kv) jR nZ mI ?_);rintro _ _ ⟨e2,⟨rd,n2,at2⟩,hy2,rfl,rfl⟩;have hb2:=D2 fs l[k].els ⟨qr,n1,at1⟩;rw [hy2] at hb2;have hf2:=zy (l:=l[k].els) (x:=⟨qr,n1,at1⟩) hf1;rw [hy2] at hf2;dsimp only at hb2 hf2;refine go 6 ?_;by_cases h16:(e2:Int)=0
    ·refine aF J (eG h16) (go 7 ?_);refine bK J (go 2 ?_);have Id:gY fs l[k] ⟨ch,n,at_⟩=(0,⟨rd,n2,at2⟩):=L5;have hnx:=(xg Y hst).2 (by rw [Id]);rw [Id] at hnx;rw [show qi l[k] own=own from if_neg h5] at hnx;exact ⟨(k+1,v,own,⟨rd,n2,at2⟩),⟨by show k+1 <= l.length;omega,hnx,hf2,L_,by show own.length <= k+1;omega⟩,Da,az (h1:=bG) (h:=av J (b_ Y) (ao J)) lD⟩
    refine aJ J (gG h16) (go 15 ?_);have Id:gY fs l[k] ⟨ch,n,at_⟩=(e2,⟨rd,n2,at2⟩):=Ls;have hbk:=(xg Y hst).1 (by rw [Id];show e2≠0;omega);rw [Id] at hbk;exact ⟨.inr J,_,⟨A++⟨C,114,be p [aB gv,aB gf,am n2,aA at2]⟩::B,R++ak gv 0 bA rd::rw⟩,bJ J (bO J),ah bG bG,e2,⟨rd,n2,at2⟩,hbk,J,J⟩
   all_goals
    refine aJ J (gG n9) (go 16 ?_);have Id:gY fs l[k] ⟨ch,n,at_⟩=(ae,⟨qr,n1,at1⟩):=by rw [Bs,if_pos hpa,hbg,hy1];show (if ae=0 then _ else _)=_;rw [if_neg Y]
    have hbk:=(xg Y hst).1 (by rw [Id];show ae≠0;omega);rw [Id] at hbk;exact ⟨.inr J,_,⟨A++⟨C,114,be p [aB gv,aB gf,am n1,aA at1]⟩::B,R++ak gv 0 bA qr::rw⟩,bJ J (bO J),ah bG bG,ae,⟨qr,n1,at1⟩,hbk,J,J⟩
  refine aJ J (gG h3) (go 16 ?_);have Id:gY fs l[k] ⟨ch,n,at_⟩=(bp,⟨ch,n+1,n⟩):=by rw [Bs,if_neg (by rw [hpa];omega),hpa]
  have hbk:=(xg Y hst).1 (by rw [Id];show bp≠0;omega);rw [Id] at hbk;exact ⟨.inr J,_,⟨A++⟨C,114,be p [aB gv,aB gf,aA ((n+1:Nat):Int),am n]⟩::B,R++ak gv 0 bA ch::rw⟩,bJ J (bO J),ah bG bG,bp,⟨ch,n+1,n⟩,hbk,J,J⟩
 refine aF J (ct h1) (go 11 ?_);obtain rfl:k=l.length:=Y;have hb9:=W_ J hst;refine oB 5 J ?_;refine go 7 ?_;refine fv (λj:Nat=>(⟨80,[C,gv],⟨A++⟨C,114,be p [aB gv,aB gf,am n,aA at_]⟩::B,R++ak gv 0 bA ((own.take j).foldl eb ch)::rw⟩,[(70,ab j),(0,aE C),(4,aj 0),(68,.c (.sl own.length (cj own))),(69,ab own.length)]⟩:AS)) (λj=>j <= own.length) (λj=>own.length-j) 0 (az jR) (eL _) ?_;intro j hj
 try dsimp only
 refine go 2 ?_;by_cases h22:(j:Int)<(own.length:Int)
 ·refine aJ J (cw h22) (go 10 ?_);refine aC J (m0 (λx=>ac x) own j J J J J Y kj iG) (go 10 ?_);refine aW J (Gy ((own.take j).foldl eb ch) R J J J J oR dz aM zR ?_);refine go 4 ?_;refine bK J (go 2 ?_);rw [Wy own ch j Y];exact ⟨j+1,Y,by show own.length-(j+1)<own.length-j;omega,az (h:=av J (b_ Y) (ao J)) (λb hb=>hb)⟩
 refine aF J (ct h22) (go 15 ?_);obtain rfl:j=own.length:=Y;rw [take_of_length_le (bY _)];exact ⟨.inr J,_,⟨A++⟨C,114,be p [aB gv,aB gf,am n,aA at_]⟩::B,R++ak gv 0 bA (own.foldl eb ch)::rw⟩,bJ J (bO J),ah (.refl _) (.refl _),0,⟨own.foldl eb ch,n,at_⟩,hb9,J,J⟩
def FC:∀(N:Nat)(l:List aD),an l <= N -> ∀(A B:List aV) (C gv gf:Nat) (p:aX) (fs:dW) (R rw:List aQ) (hgf:ak gf 3 bT fs∈R) (z:Int) (x:eJ) (hz:z=(x.n:Int)) (hfo:eN x.ch fs) (hn:x.n+an l <= 900000000),aT prog 66 [aE C,.c (aG encS l)] [C,gv] ⟨A++⟨C,114,be p [aB gv,aB gf,aA z,aA x.at_]⟩::B,R++ak gv 0 bA x.ch::rw⟩ λt s'=>∃(e:Nat) (y:eJ),jQ fs l x=(e,y) /\ t=ab e /\ s'=⟨A++⟨C,114,be p [aB gv,aB gf,am y.n,aA y.at_]⟩::B,R++ak gv 0 bA y.ch::rw⟩
 |0,l,h=>λA B C gv gf p fs R rw hgf z x hz hfo hn=>Qp l (λk hk=>pP) (λk hk=>pP) A B C gv gf p fs R rw hgf z x hz hfo hn
 |N+1,l,h=>λA B C gv gf p fs R rw hgf z x hz hfo hn=>Qp l
   (λk hk=>FC N l[k].thn xA)
   (λk hk=>FC N l[k].els xA) A B C gv gf p fs R rw hgf z x hz hfo hn
def Hn{fs:dW}:∀(l:List bg) {v:br},eN v fs -> eN (gV l v).2 fs
 |[],_,h=>h
 |x::l,v,h=>by
  rw [gV];split
  ·exact Hn l (h.put _ (by unfold rE;split<;>decide))
  exact h
def Ng{fs:dW}:∀(l:List bg) {v:br},eN v fs -> eN (nJ l v) fs
 |[],_,h=>h
 |x::l,v,h=>Ng l (h.del x.name)
def R9{fs:dW}(f:a_){v:br}(h:eN v fs):eN (kD fs f v).2.ch fs:=by
 unfold kD;split
 ·exact Ng _ (zy (Hn _ h))
 exact Hn _ h
def H6{l:List bg}{v v0:br}{k:Nat}(hk:k<l.length)(h:gV (l.drop k) v=gV l v0):
  (cB v l[k].name=0 -> gV (l.drop (k+1)) (dE v l[k].name (rE l[k]))=gV l v0) /\ (cB v l[k].name≠0 -> gV l v0=(false,v)):=by
 rw [ii hk,gV] at h;refine ⟨λh0=>?_,λh0=>?_⟩
 ·rw [if_pos h0] at h;exact h
 rw [if_neg h0] at h;exact h.symm
def XU(l:List bg)(v:br)(j:Nat)(h:j<l.length):eb (nJ (l.take j) v) l[j].name=nJ (l.take (j+1)) v:=by
 unfold nJ;rw [gX h,DF];rfl
def XE(A B:List aV)(C gv gf:Nat)(p:aX)(fs:dW)(R rw:List aQ)(hgf:ak gf 3 bT fs∈R)(n0 a0:Int)(v0:br)(f:a_)(hfo:eN v0 fs)(hw:f.wt <= 900000000):aT prog 35 [aE C,.agg (bT f)] [C,gv] ⟨A++⟨C,114,be p [aB gv,aB gf,aA n0,aA a0]⟩::B,R++ak gv 0 bA v0::rw⟩ λt s'=>∃(e:Nat) (y:eJ),kD fs f v0=(e,y) /\ t=ab e /\ s'=⟨A++⟨C,114,be p [aB gv,aB gf,am y.n,aA y.at_]⟩::B,R++ak gv 0 bA y.ch::rw⟩:=by
 unfold a_.wt at hw;refine bM 65 func35 ?_;refine go 28 λb1=>?_;refine fv (λg:Nat×br=>(⟨65,[b1,C,gv],⟨⟨b1,49,bT f⟩::A++⟨C,114,be p [aB gv,aB gf,am 0,aA (-1)]⟩::B,R++ak gv 0 bA g.2::rw⟩,[(19,ab g.1),(0,aE C),(3,aE b1),(4,aj 0),(17,.c (aG cE f.params)),(18,ab f.params.length)]⟩:AS)) (λg=>g.1 <= f.params.length /\ gV (f.params.drop g.1) g.2=gV f.params v0 /\ eN g.2 fs) (λg=>f.params.length-g.1) (0,v0) (az (λb hb=>hb)) ⟨eL _,J,hfo⟩ ?_;rintro ⟨k,ch⟩ ⟨hk,hst,hfk⟩;dsimp only at hk hst hfk
 try dsimp only
 refine go 2 ?_;by_cases h1:(k:Int)<(f.params.length:Int)
 ·refine aJ J (cw h1) (go 10 ?_);refine aC J (bX cE cE f.params iQ (λ_=>J) k J J J J Y V iK ga) (go 7 λb2=>?_);refine bu [b2,b1,C,gv,gf] (aU [0,1,2,3,4,5] 2 (go 7 ?_));refine aZ 6 J (o0 ch J J J aM oR dz uA na) ?_;by_cases h3:(cB ch f.params[k].name)=0
  ·refine aZ 7 J (ei false J J J (eG h3)) ?_;refine bC (go 5 ?_);refine bu [b2,b1,C] (aU [0,1,2,3,4,5] 1 (go 7 ?_));refine aY 6 J J (qc ch R J J J J J oR dz aM sT ?_);refine bC (go 4 ?_);rcases bz (f.params[k].mutex) with h5|h5
   ·refine aC J (cP (bH h5) (cW [] dJ dI)) (go 3 ?_);refine bu [b2,b1,C] (aU [0,1,2,3,4,5] 1 (go 7 ?_));refine aY 6 J J (qc (dE ch f.params[k].name 1) R J J J J J oR dz aM sT ?_);refine bC (go 3 ?_);refine bK J (go 2 ?_);have hnx:=(H6 Y hst).1 Y;have hsp:rE f.params[k]=4:=by unfold rE;rw [h5];rfl
    rw [UI];rw [hsp] at hnx;exact ⟨(k+1,dE ch f.params[k].name 4),⟨by show k+1 <= f.params.length;omega,hnx,hfk.put _ V⟩,BP,az (h1:=bG) (h:=av J (b_ Y) (ao J)) oy⟩
   refine aC J (cP (bH h5) (cW [] dJ dI)) (go 7 ?_);refine bK J (go 2 ?_);have hnx:=(H6 Y hst).1 Y;have hsp:rE f.params[k]=1:=by unfold rE;rw [h5];rfl
   rw [hsp] at hnx;exact ⟨(k+1,dE ch f.params[k].name 1),⟨by show k+1 <= f.params.length;omega,hnx,hfk.put _ V⟩,BP,az (h1:=bG) (h:=av J (b_ Y) (ao J)) oy⟩
  refine aZ 7 J (ei true J J J (gG h3)) ?_;refine bC (go 14 ?_);exact ⟨.inr J,_,⟨A++⟨C,114,be p [aB gv,aB gf,am 0,aA (-1)]⟩::B,R++ak gv 0 bA ch::rw⟩,bJ J (bO J),ah c_ (.refl _),5,⟨ch,0,-1⟩,by unfold kD;rw [(H6 Y hst).2 Y];rfl,J,J⟩
 refine aF J (ct h1) (go 14 ?_);obtain rfl:k=f.params.length:=Y;have hpr:gV f.params v0=(true,ch):=by rw [←hst,m6 (bY _),gV]
 refine aW J (bo [C,gv] J J V call66 J (FC _ f.body (bY _) (_::A) B C gv gf p fs R rw hgf _ ⟨ch,0,-1⟩ j9 hfk (by show 0+an f.body <= 900000000;omega)) jR nZ mI ?_);rintro _ _ ⟨ae,⟨qr,n1,at1⟩,hy1,rfl,rfl⟩;refine go 13 ?_;refine fv (λj:Nat=>(⟨65,[b1,C,gv],⟨⟨b1,49,bT f⟩::A++⟨C,114,be p [aB gv,aB gf,am n1,aA at1]⟩::B,R++ak gv 0 bA (nJ (f.params.take j) qr)::rw⟩,[(53,ab j),(0,aE C),(4,aj 0),(7,ab ae),(51,.c (aG cE f.params)),(52,ab f.params.length)]⟩:AS)) (λj=>j <= f.params.length) (λj=>f.params.length-j) 0 (az (λb hb=>hb)) (eL _) ?_;intro j hj
 try dsimp only
 refine go 2 ?_;by_cases h10:(j:Int)<(f.params.length:Int)
 ·refine aJ J (cw h10) (go 10 ?_);refine aC J (bX cE cE f.params iQ (λ_=>J) j J J J J Y V iK ga) (go 5 λb3=>?_);refine bu [b3,b1,C] (aU [0,1,2,3,4,5] 1 (go 7 ?_));refine aY 6 J J (Gy (nJ (f.params.take j) qr) R J J J J oR dz aM sT ?_);refine bC (go 3 ?_);refine bK J (go 2 ?_);rw [XU f.params qr j Y];exact ⟨j+1,Y,by show f.params.length-(j+1)<f.params.length-j;omega,az (h1:=bG) (h:=av J (b_ Y) (ao J)) oy⟩
 refine aF J (ct h10) (go 16 ?_);obtain rfl:j=f.params.length:=Y;rw [take_of_length_le (bY _)];exact ⟨.inr J,_,⟨A++⟨C,114,be p [aB gv,aB gf,am n1,aA at1]⟩::B,R++ak gv 0 bA (nJ f.params qr)::rw⟩,bJ J (bO J),ah bG (.refl _),ae,⟨nJ f.params qr,n1,at1⟩,by unfold kD;rw [hpr,if_pos rfl,hy1],J,J⟩
def Bt(A B:List aV)(C gv gf Nb Pb:Nat)(X:aV)(p:aX)(ch:br)(fs:dW)(n at_:Int)(rw:List aQ)(m:Nat)(nm:aI)(sr:Int)(hg:cB ch nm=0)(hm:m <= 90000000):aT prog 65 [cK nm,aj sr,aE Pb,aE Nb] [Nb,gv] ⟨X::⟨Nb,3,[am m]⟩::⟨Pb,110,[.val (.pointer (some ⟨C,0,none⟩))]⟩::A++⟨C,114,be p [aB gv,aB gf,aA n,aA at_]⟩::B,ak gf 3 bT fs::ak gv 0 bA ch::rw⟩ λt s'=>t=au true /\ s'=⟨X::⟨Nb,3,[aA ((m+1:Nat):Int)]⟩::⟨Pb,110,[.val (.pointer (some ⟨C,0,none⟩))]⟩::A++⟨C,114,be p [aB gv,aB gf,aA n,aA at_]⟩::B,ak gf 3 bT fs::ak gv 0 bA (dE ch nm sr)::rw⟩:=by
 refine bM 22 func65 ?_;refine go 13 ?_;refine aC J (o0 ch J J J aM oR dz uA jf) ?_;refine aF J (eG hg) (go 13 ?_);refine aW J (qc ch [_] J J J J J oR dz aM zR ?_);refine go 5 ?_;refine bK J (go 9 ?_);exact ⟨.inr J,_,⟨X::⟨Nb,3,[aA ((m+1:Nat):Int)]⟩::⟨Pb,110,[.val (.pointer (some ⟨C,0,none⟩))]⟩::A++⟨C,114,be p [aB gv,aB gf,aA n,aA at_]⟩::B,ak gf 3 bT fs::ak gv 0 bA (dE ch nm sr)::rw⟩,bJ J (bO J),ah (.refl _) (.refl _),J,J⟩
def EM(A B:List aV)(C gv gf Nb Pb:Nat)(X:aV)(p:aX)(ch:br)(fs:dW)(n at_:Int)(rw:List aQ)(m:Nat)(nm:aI)(sr:Int)(hg:¬cB ch nm=0):aT prog 65 [cK nm,aj sr,aE Pb,aE Nb] [Nb,gv] ⟨X::⟨Nb,3,[am m]⟩::⟨Pb,110,[.val (.pointer (some ⟨C,0,none⟩))]⟩::A++⟨C,114,be p [aB gv,aB gf,aA n,aA at_]⟩::B,ak gf 3 bT fs::ak gv 0 bA ch::rw⟩ λt s'=>t=au false /\ s'=⟨X::⟨Nb,3,[am m]⟩::⟨Pb,110,[.val (.pointer (some ⟨C,0,none⟩))]⟩::A++⟨C,114,be p [aB gv,aB gf,aA n,aA at_]⟩::B,ak gf 3 bT fs::ak gv 0 bA ch::rw⟩:=by
 refine bM 22 func65 ?_;refine go 13 ?_;refine aC J (o0 ch J J J aM oR dz uA jf) ?_;refine aJ J (gG hg) (go 10 ?_);exact ⟨.inr J,_,⟨X::⟨Nb,3,[am m]⟩::⟨Pb,110,[.val (.pointer (some ⟨C,0,none⟩))]⟩::A++⟨C,114,be p [aB gv,aB gf,aA n,aA at_]⟩::B,ak gf 3 bT fs::ak gv 0 bA ch::rw⟩,bJ J (bO J),ah (.refl _) (.refl _),J,J⟩
def vh{S:List (aI×Int)}{v v0:br}{j n0:Nat}{q:aI×Int}(hq:S.drop j=q::S.drop (j+1))(h:hY (S.drop j) v j=hY S v0 n0):
  (cB v q.1=0 -> hY (S.drop (j+1)) (dE v q.1 q.2) (j+1)=hY S v0 n0) /\ (¬cB v q.1=0 -> hY S v0 n0=(some j,v)):=by
 rw [hq,hY] at h;refine ⟨λh0=>?_,λh0=>?_⟩
 ·rw [if_pos h0] at h;exact h
 rw [if_neg h0] at h;exact h.symm
def X_(p:aX):(iC p).length=p.globals.length+(p.mutexes.length+p.funcs.length):=by unfold iC;simp
def QO(p:aX)(k:Nat)(h:k<p.globals.length):(iC p).drop k=(p.globals[k].name,1)::(iC p).drop (k+1):=by
 rw [ii Eq];congr 1;unfold iC;rw [sG iX];simp
def Fw(p:aX)(k:Nat)(h:k<p.mutexes.length):(iC p).drop (p.globals.length+k)=(p.mutexes[k].name,qu p.mutexes[k])::(iC p).drop (p.globals.length+k+1):=by
 rw [ii Eq];congr 1;unfold iC;rw [rX aM,sG dr];simp
def Lu(p:aX)(k:Nat)(h:k<p.funcs.length):(iC p).drop (p.globals.length+p.mutexes.length+k)=(p.funcs[k].name,5)::(iC p).drop (p.globals.length+p.mutexes.length+k+1):=by
 rw [ii Eq];congr 1;unfold iC;rw [rX dr,rX dr];simp;congr 2;omega
def PG(l:List a_)(k:Nat)(h:k<l.length):dE (iP (l.take k)) l[k].name l[k]=iP (l.take (k+1)):=by
 unfold iP;rw [gX h,DF];rfl
def eN.fun{v:br}{fs:dW}(h:eN v fs)(s:aI)(f:a_):eN (dE v s 5) (dE fs s f):=
 ⟨h.1.put s 5,λq hq=>by
  rw [pa];rw [vY] at hq;split at hq
  ·rename_i e;rw [if_pos e];exact ⟨f,rfl⟩
  rename_i e;rw [if_neg e];exact h.2 q hq⟩
def eN.nil:eN [] []:=⟨by unfold dZ;simp,λs h=>by unfold cB dY at h;cases h⟩
def Yq:Option Nat -> Int
 |none=>-1
 |some i=>(i:Int)
def YL(A B:List aV)(C gv gf:Nat)(p:aX)(rw:List aQ)(hg:p.globals.length <= 9000000)(hm:p.mutexes.length <= 9000000)(hf:p.funcs.length <= 9000000):aT prog 34 [aE C] [C,gv,gf] ⟨A++⟨C,114,be p [aB gv,aB gf,aA 0,aA 0]⟩::B,ak gf 3 bT ([]:dW)::ak gv 0 bA ([]:br)::rw⟩ λt s'=>∃(r:Option Nat) (v:br) (fsx:dW),hY (iC p) [] 0=(r,v) /\ t=aj (Yq r) /\ s'=⟨A++⟨C,114,be p [aB gv,aB gf,aA 0,aA 0]⟩::B,ak gf 3 bT fsx::ak gv 0 bA v::rw⟩ /\ (r=none -> fsx=iP p.funcs /\ eN v fsx):=by
 refine bM 75 func34 ?_;refine go 14 λPb Nb=>?_;refine aC J (J3 J (vs:=[.pointer (some ⟨Pb,0,none⟩),.pointer (some ⟨Nb,0,none⟩)]) J) (go 16 ?_);refine fv (λg:Nat×br=>(⟨75,[Nb,Pb,C,gv,gf],⟨⟨Nb,3,[am g.1]⟩::⟨Pb,110,[.val (.pointer (some ⟨C,0,none⟩))]⟩::A++⟨C,114,be p [aB gv,aB gf,aA 0,aA 0]⟩::B,ak gf 3 bT []::ak gv 0 bA g.2::rw⟩,[(19,ab g.1),(1,aE Pb),(2,aj 0),(3,aE Nb),(4,ap (.func (.func 65) #[] #[.pointer (some ⟨Pb,0,none⟩),.pointer (some ⟨Nb,0,none⟩)])),(17,.c (aG cR p.globals)),(18,ab p.globals.length)]⟩:AS)) (λg=>g.1 <= p.globals.length /\ hY ((iC p).drop (g.1)) g.2 (g.1)=hY (iC p) [] 0 /\ eN g.2 []) (λg=>p.globals.length-g.1) (0,[]) (az oy) ⟨eL _,J,eN.nil⟩ ?_;rintro ⟨k,qr⟩ ⟨hk,aIn,aMb⟩;dsimp only at hk aIn aMb
 try dsimp only
 refine go 2 ?_;by_cases h1:(k:Int)<(p.globals.length:Int)
 ·refine aJ J (cw h1) (go 10 ?_);refine aC J (bX cR cR p.globals nt (λ_=>J) k J J J J Y V mp jU) (go 10 λb1=>?_);by_cases If:cB qr p.globals[k].name=0
  ·refine aW J (oe [Nb,gv] J J J V call65 (us:=[cK (p.globals[k].name),aj 1]) J (Bt A B C gv gf Nb Pb _ p qr _ _ _ rw (k) p.globals[k].name 1 If Y) jR nZ mI ?_);rintro _ _ ⟨rfl,rfl⟩;refine ⟨[],(λ_ b hb=>nomatch hb),?_⟩;refine go 8 ?_;refine bK J (go 2 ?_);have hnx:=(vh (QO p k Y) aIn).1 If;exact ⟨(k+1,dE qr p.globals[k].name 1),⟨by show k+1 <= p.globals.length;omega,hnx,aMb.put _ V⟩,by show p.globals.length-(k+1)<p.globals.length-k;omega,az (h1:=bG) (h:=av J (b_ Y) (ao J)) oy⟩
  refine aW J (oe [Nb,gv] J J J V call65 (us:=[cK (p.globals[k].name),aj 1]) J (EM A B C gv gf Nb Pb _ p qr _ _ _ rw (k) p.globals[k].name 1 If) jR nZ mI ?_);rintro _ _ ⟨rfl,rfl⟩;refine ⟨[],(λ_ b hb=>nomatch hb),?_⟩;refine go 16 ?_;have hbd:=(vh (QO p k Y) aIn).2 If;exact ⟨.inr J,_,⟨A++⟨C,114,be p [aB gv,aB gf,aA 0,aA 0]⟩::B,ak gf 3 bT []::ak gv 0 bA qr::rw⟩,bJ J (bO J),ah ek (.refl _),some (k),qr,[],hbd,J,J,λh=>gQ⟩
 refine aF J (ct h1) (go 11 ?_);obtain rfl:k=p.globals.length:=Y;replace aIn:hY ((iC p).drop (p.globals.length+0)) qr (p.globals.length+0)=hY (iC p) [] 0:=aIn;refine go 11 ?_;refine fv (λg:Nat×br=>(⟨75,[Nb,Pb,C,gv,gf],⟨⟨Nb,3,[aA ((p.globals.length+g.1:Nat):Int)]⟩::⟨Pb,110,[.val (.pointer (some ⟨C,0,none⟩))]⟩::A++⟨C,114,be p [aB gv,aB gf,aA 0,aA 0]⟩::B,ak gf 3 bT []::ak gv 0 bA g.2::rw⟩,[(36,ab g.1),(1,aE Pb),(2,aj 0),(3,aE Nb),(4,ap (.func (.func 65) #[] #[.pointer (some ⟨Pb,0,none⟩),.pointer (some ⟨Nb,0,none⟩)])),(34,.c (aG bB p.mutexes)),(35,ab p.mutexes.length)]⟩:AS)) (λg=>g.1 <= p.mutexes.length /\ hY ((iC p).drop (p.globals.length+g.1)) g.2 (p.globals.length+g.1)=hY (iC p) [] 0 /\ eN g.2 []) (λg=>p.mutexes.length-g.1) (0,qr) (az oy) ⟨eL _,aIn,aMb⟩ ?_;rintro ⟨k,rd⟩ ⟨hk,aH4,aKj⟩;dsimp only at hk aH4 aKj
 try dsimp only
 refine go 2 ?_;by_cases h6:(k:Int)<(p.mutexes.length:Int)
 ·refine aJ J (cw h6) (go 10 ?_);refine aC J (bX bB bB p.mutexes lC (λ_=>J) k J J J J Y V j6 fp) (go 15 λb2=>?_);by_cases h8:(0:Int)<p.mutexes[k].size;focus
   refine aJ J (fF h8) (go 13 ?_);have hsm:qu p.mutexes[k]=3:=Mx;by_cases If:cB rd p.mutexes[k].name=0
   ·refine aW J (oe [Nb,gv] J J J V call65 (us:=[cK (p.mutexes[k].name),aj 3]) J (Bt A B C gv gf Nb Pb _ p rd _ _ _ rw (p.globals.length+k) p.mutexes[k].name 3 If Y) jR nZ mI ?_);rintro _ _ ⟨rfl,rfl⟩;refine ⟨[],(λ_ b hb=>nomatch hb),?_⟩;refine go 8 ?_;refine bK J (go 2 ?_);have hnx:=(vh (Fw p k Y) aH4).1 If;rw [show qu p.mutexes[k]=3 from hsm] at hnx;exact ⟨(k+1,dE rd p.mutexes[k].name 3),⟨by show k+1 <= p.mutexes.length;omega,hnx,aKj.put _ V⟩,J7,az (h1:=bG) (h:=av J (b_ Y) (ao J)) oy⟩
   refine aW J (oe [Nb,gv] J J J V call65 (us:=[cK (p.mutexes[k].name),aj 3]) J (EM A B C gv gf Nb Pb _ p rd _ _ _ rw (p.globals.length+k) p.mutexes[k].name 3 If) jR nZ mI ?_)
  rotate_left;refine aF J (fE h8) (go 11 ?_);have hsm:qu p.mutexes[k]=2:=Mx;by_cases If:cB rd p.mutexes[k].name=0
  ·refine aW J (oe [Nb,gv] J J J V call65 (us:=[cK (p.mutexes[k].name),aj 2]) J (Bt A B C gv gf Nb Pb _ p rd _ _ _ rw (p.globals.length+k) p.mutexes[k].name 2 If Y) jR nZ mI ?_);rintro _ _ ⟨rfl,rfl⟩;refine ⟨[],(λ_ b hb=>nomatch hb),?_⟩;refine go 8 ?_;refine bK J (go 2 ?_);have hnx:=(vh (Fw p k Y) aH4).1 If;rw [show qu p.mutexes[k]=2 from hsm] at hnx;exact ⟨(k+1,dE rd p.mutexes[k].name 2),⟨by show k+1 <= p.mutexes.length;omega,hnx,aKj.put _ V⟩,J7,az (h1:=bG) (h:=av J (b_ Y) (ao J)) oy⟩
  refine aW J (oe [Nb,gv] J J J V call65 (us:=[cK (p.mutexes[k].name),aj 2]) J (EM A B C gv gf Nb Pb _ p rd _ _ _ rw (p.globals.length+k) p.mutexes[k].name 2 If) jR nZ mI ?_);all_goals
   rintro _ _ ⟨rfl,rfl⟩;refine ⟨[],(λ_ b hb=>nomatch hb),?_⟩;refine go 16 ?_;have hbd:=(vh (Fw p k Y) aH4).2 If;exact ⟨.inr J,_,⟨A++⟨C,114,be p [aB gv,aB gf,aA 0,aA 0]⟩::B,ak gf 3 bT []::ak gv 0 bA rd::rw⟩,bJ J (bO J),ah ek (.refl _),some (p.globals.length+k),rd,[],hbd,J,J,λh=>gQ⟩
 refine aF J (ct h6) (go 11 ?_);obtain rfl:k=p.mutexes.length:=Y;replace aH4:hY ((iC p).drop (p.globals.length+p.mutexes.length+0)) rd (p.globals.length+p.mutexes.length+0)=hY (iC p) [] 0:=aH4;refine go 11 ?_;refine fv (λg:Nat×br=>(⟨75,[Nb,Pb,C,gv,gf],⟨⟨Nb,3,[aA ((p.globals.length+p.mutexes.length+g.1:Nat):Int)]⟩::⟨Pb,110,[.val (.pointer (some ⟨C,0,none⟩))]⟩::A++⟨C,114,be p [aB gv,aB gf,aA 0,aA 0]⟩::B,ak gf 3 bT (iP (p.funcs.take g.1))::ak gv 0 bA g.2::rw⟩,[(57,ab g.1),(1,aE Pb),(2,aj 0),(3,aE Nb),(4,ap (.func (.func 65) #[] #[.pointer (some ⟨Pb,0,none⟩),.pointer (some ⟨Nb,0,none⟩)])),(55,.c (aG bT p.funcs)),(56,ab p.funcs.length)]⟩:AS)) (λg=>g.1 <= p.funcs.length /\ hY ((iC p).drop (p.globals.length+p.mutexes.length+g.1)) g.2 (p.globals.length+p.mutexes.length+g.1)=hY (iC p) [] 0 /\ eN g.2 (iP (p.funcs.take g.1))) (λg=>p.funcs.length-g.1) (0,rd) (az oy) ⟨eL _,aH4,aKj⟩ ?_;rintro ⟨k,Wf⟩ ⟨hk,aJc,aKk⟩;dsimp only at hk aJc aKk
 try dsimp only
 refine go 2 ?_;by_cases h16:(k:Int)<(p.funcs.length:Int)
 ·refine aJ J (cw h16) (go 10 ?_);refine aC J (bX bT bT p.funcs mY (λ_=>J) k J J J J Y V fu du) (go 11 λb3=>?_);by_cases If:cB Wf p.funcs[k].name=0
  ·refine aW J (oe [Nb,gv] J J J V call65 (us:=[cK (p.funcs[k].name),aj 5]) J (Bt A B C gv gf Nb Pb _ p Wf _ _ _ rw (p.globals.length+p.mutexes.length+k) p.funcs[k].name 5 If Y) jR nZ mI ?_);rintro _ _ ⟨rfl,rfl⟩;refine ⟨[],(λ_ b hb=>nomatch hb),?_⟩;refine go 6 ?_;refine bu [b3,Nb,Pb,C] (aU [0,1,2,3,4,5,6] 1 (go 8 ?_));refine aY 7 J J (YI (m:=3) (ev:=bT) (b:=p.funcs[k]) (iP (p.funcs.take k)) [] J J J J J V (λ_=>J) Bj dz aM sT ?_);refine bC (go 3 ?_);refine bK J (go 2 ?_);have hnx:=(vh (Lu p k Y) aJc).1 If;rw [PG p.funcs k Y];exact ⟨(k+1,dE Wf p.funcs[k].name 5),⟨by show k+1 <= p.funcs.length;omega,hnx,by have h9:=aKk.fun p.funcs[k].name p.funcs[k];rw [PG p.funcs k Y] at h9;exact h9⟩,M3,az (h1:=bG) (h:=av J (b_ Y) (ao J)) oy⟩
  refine aW J (oe [Nb,gv] J J J V call65 (us:=[cK (p.funcs[k].name),aj 5]) J (EM A B C gv gf Nb Pb _ p Wf _ _ _ rw (p.globals.length+p.mutexes.length+k) p.funcs[k].name 5 If) jR nZ mI ?_);rintro _ _ ⟨rfl,rfl⟩;refine ⟨[],(λ_ b hb=>nomatch hb),?_⟩;refine go 17 ?_;have hbd:=(vh (Lu p k Y) aJc).2 If;exact ⟨.inr J,_,⟨A++⟨C,114,be p [aB gv,aB gf,aA 0,aA 0]⟩::B,ak gf 3 bT (iP (p.funcs.take k))::ak gv 0 bA Wf::rw⟩,bJ J (bO J),ah ek (.refl _),some (p.globals.length+p.mutexes.length+k),Wf,(iP (p.funcs.take k)),hbd,J,J,λh=>gQ⟩
 refine aF J (ct h16) (go 10 ?_);obtain rfl:k=p.funcs.length:=Y;rw [m6 Eq,hY] at aJc;rw [take_of_length_le (bY _)] at aKk;refine go 5 ?_;rw [take_of_length_le (bY _)];exact ⟨.inr J,_,⟨A++⟨C,114,be p [aB gv,aB gf,aA 0,aA 0]⟩::B,ak gf 3 bT (iP p.funcs)::ak gv 0 bA Wf::rw⟩,bJ J (bO J),ah c_ (.refl _),none,Wf,iP p.funcs,aJc.symm,J,J,λ_=>⟨J,aKk⟩⟩
instance aCv:d4 prog 74 [.val (.map none),.val (.map none),.val (.map none),.val (.map none),.val (.map none),aA 0,aK,aK,aA 0]:=⟨_,zeroValue74,rfl⟩
instance aF1:ic prog 74 [(0,1),(1,1),(2,1),(3,1),(4,1),(5,1),(6,1),(7,1),(8,1)] [.val (.map none),.val (.map none),.val (.map none),.val (.map none),.val (.map none),aA 0,aK,aK,aA 0]:=⟨_,Tryz.t74,_,underlying74,aL,rfl,aL,rfl⟩
instance aAV:d4 prog 114 [aK,aK,aK,.val (.map none),.val (.map none),aA 0,aA 0]:=⟨_,zeroValue114,rfl⟩
instance aFe:ic prog 114 [(0,3),(3,1),(4,1),(5,1),(6,1)] [aK,aK,aK,.val (.map none),.val (.map none),aA 0,aA 0]:=⟨_,Tryz.t114,_,underlying114,aL,rfl,aL,rfl⟩
def Uu{p:aX}(h:gw p=false):qH p=(-1,-1,10):=by unfold qH;rw [if_pos h]
def XP{p:aX}{i:Nat}{v:br}(h:gw p=true)(hd:hY (iC p) [] 0=(some i,v)):qH p=(-1,(i:Int),5):=by unfold qH;rw [if_neg nx,hd]
def Nk{p:aX}{v:br}(h:gw p=true)(hd:hY (iC p) [] 0=(none,v))(hm:qw p=false):qH p=(-1,-1,9):=by unfold qH;rw [if_neg nx,hd];dsimp only;rw [if_neg (by rw [hm];decide)]
def Ns{p:aX}{v:br}(h:gw p=true)(hd:hY (iC p) [] 0=(none,v))(hm:qw p=true):qH p=oQ (iP p.funcs) p.funcs 0 v:=by unfold qH;rw [if_neg nx,hd];dsimp only;rw [if_pos hm]
def YD{p:aX}(h:dY (iP p.funcs) yp=none):qw p=false:=by unfold qw;rw [h]
def NZ{p:aX}{f:a_}(h:dY (iP p.funcs) yp=some f):qw p=decide (f.params.length=0):=by unfold qw;rw [h]
def MJ{fs:dW}{l:List a_}{v v0:br}{k:Nat}(hk:k<l.length)(h:oQ fs (l.drop k) k v=oQ fs l 0 v0):
  ((kD fs l[k] v).1=0 -> oQ fs (l.drop (k+1)) (k+1) (kD fs l[k] v).2.ch=oQ fs l 0 v0) /\ ((kD fs l[k] v).1≠0 -> oQ fs l 0 v0=((k:Int),(kD fs l[k] v).2.at_,(kD fs l[k] v).1)):=by
 rw [ii hk,oQ] at h;refine ⟨λh0=>?_,λh0=>?_⟩
 ·rw [if_pos h0] at h;exact h
 rw [if_neg h0] at h;exact h.symm
def K9(p:aX)(hs:p.bt)(hw:p.wt <= 9000000)(s:aH):aT prog 17 [cL (.agg (di p))] [] s λt s'=>∃(f s0:Int) (e:Nat),qH p=(f,s0,e) /\ t=.fd [aj f,aj s0,ab e] /\ s'=s:=by
 obtain ⟨bx,rw⟩:=s;have hwq:=hw;unfold aX.wt at hwq;have hfl:=po a_.wt (λf=>q_) p.funcs;refine bM 61 func17 ?_;refine go 12 λb1=>?_;rcases bz (gw p) with h1|h1
 ·refine d9 0 J call33 J (PU p hs hw _) h1 (go 9 ?_);refine aW J (wK 0 (bA) J J V λgv=>?_);refine aW J (wK 3 (bT) J J V λgf=>?_);refine go 9 λC=>?_;refine aW J (bo [C,gv,gf] J J V call34 J (YL [] _ C gv gf p rw Y Y Y) (by intro b hb;simp at hb⊢;rcases hb with rfl|rfl|rfl<;>simp) (by intro b hb;simp at hb;rcases hb with rfl|rfl|rfl<;>simp [aH.bl,tf]) (by intro _ b hb;simp at hb⊢;rcases hb with rfl|rfl|rfl<;>simp) ?_);rintro _ _ ⟨r,v0,fsx,hd,rfl,rfl,hok⟩;rcases r with _|ix
  ·obtain ⟨rfl,hf0⟩:=hok rfl;clear hok;show cN prog _ _ ⟨_,_,_,(_,aj (-1))::_⟩ _;refine go 6 ?_;refine aF J J (go 12 ?_);rcases hmn:dY (iP p.funcs) yp with _|fm
   ·refine aC J (Wd (m:=3) (ev:=bT) (iP p.funcs) J J J aM V (λ_=>J) Bj dz sv jf hmn (.agg [ac ⟨#[]⟩,aK,aK]) J) (go 30 λb4=>?_);exact ⟨.inr J,_,⟨bx,rw⟩,rk J (bO J) (bO J) (bO J),ah ek c_,-1,-1,9,Nk h1 hd (YD hmn),J,J⟩
   refine aC J (VN (m:=3) (ev:=bT) (iP p.funcs) J J J aM V (λ_=>J) Bj dz sv jf hmn) (go 16 λb5=>?_);by_cases h5:(0:Int)<(fm.params.length:Int)
   ·refine aJ J (fF h5) (go 13 ?_);exact ⟨.inr J,_,⟨bx,rw⟩,rk J (bO J) (bO J) (bO J),ah ek c_,-1,-1,9,Nk h1 hd (by rw [NZ hmn];exact decide_eq_false Y),J,J⟩
   refine aF J (fE h5) (go 16 ?_);have hmz:qw p=true:=by rw [NZ hmn];exact decide_eq_true Y
   refine fv (λg:Nat×br×Int×Int=>(⟨61,[b5,C,gf,gv,b1],⟨⟨b5,49,bT fm⟩::⟨C,114,be p [aB gv,aB gf,aA g.2.2.1,aA g.2.2.2]⟩::⟨b1,27,di p⟩::bx,ak gf 3 bT (iP p.funcs)::ak gv 0 bA g.2.1::rw⟩,[(44,ab g.1),(1,aE b1),(2,aj 0),(3,aj 0),(4,aj 0),(5,aE C),(7,aE b5),(42,.c (aG bT p.funcs)),(43,ab p.funcs.length)]⟩:AS)) (λg=>g.1 <= p.funcs.length /\ oQ (iP p.funcs) (p.funcs.drop g.1) g.1 g.2.1=oQ (iP p.funcs) p.funcs 0 v0 /\ eN g.2.1 (iP p.funcs)) (λg=>p.funcs.length-g.1) (0,v0,0,0) (az oy) ⟨eL _,J,hf0⟩ ?_;rintro ⟨k,ch,n0,a0⟩ ⟨hk,hst,hfk⟩;dsimp only at hk hst hfk
   try dsimp only
   refine go 2 ?_;by_cases h8:(k:Int)<(p.funcs.length:Int)
   ·refine aJ J (cw h8) (go 11 ?_);refine aC J (bX bT bT p.funcs mY (λ_=>J) k J J J J Y V fu du) (go 10 λb6=>?_);refine aW J (bo [C,gv] J J V call35 J (XE [_,_] _ C gv gf p (iP p.funcs) [_] rw aM _ _ ch p.funcs[k] hfk IX) jR nZ mI ?_);rintro _ _ ⟨e,y,hy,rfl,rfl⟩;refine go 6 ?_;by_cases h10:(e:Int)=0
    ·refine aF J (eG h10) (go 7 ?_);refine bK J (go 2 ?_);have hnx:=(MJ Y hst).1 (by rw [hy];show e=0;omega);rw [hy] at hnx;have hf1:=R9 p.funcs[k] hfk;rw [hy] at hf1;exact ⟨(k+1,y.ch,(y.n:Int),y.at_),⟨by show k+1 <= p.funcs.length;omega,hnx,hf1⟩,M3,az (h1:=bG) (h:=av J (b_ Y) (ao J)) oy⟩
    refine aJ J (gG h10) (go 4 ?_);refine bu [b6,b5,C,b1] (aU [0,1,2,3,4,5,6,7,8] 0 (go 10 ?_));refine bC (go 7 ?_);exact ⟨.inr J,_,⟨bx,rw⟩,rk J (bO J) (bO J) (bO J),ah tu c_,(k:Int),y.at_,e,(by rw [Ns h1 hd hmz,(MJ Y hst).2 (by rw [hy];show e≠0;omega),hy]),J,J⟩
   refine aF J (ct h8) (go 17 ?_);exact ⟨.inr J,_,⟨bx,rw⟩,rk J (bO J) (bO J) (bO J),ah ek c_,0,0,0,(by rw [Ns h1 hd hmz,←hst,m6 Y];rfl),J,J⟩
  show cN prog _ _ ⟨_,_,_,(_,ab ix)::_⟩ _;refine go 6 ?_;refine aJ J (oJ Y) (go 13 ?_);exact ⟨.inr J,_,⟨bx,rw⟩,rk J (bO J) (bO J) (bO J),ah c_ c_,-1,(ix:Int),5,XP h1 hd,J,J⟩
 refine d9 0 J call33 J (PU p hs hw _) h1 (go 13 ?_);exact ⟨.inr J,_,⟨bx,rw⟩,rk J (bO J) (bO J) (bO J),ah bG (.refl _),-1,-1,10,Uu h1,J,J⟩
section
variable {P:Program}{U T:List Nat}{o:Oper}{n d:Nat}{ts:List (Nat×AT)}{s:aH}{K:AS -> Prop}
theorem WT{t yt e:ax}{x y:bb}{k:Nat}{cs:List aO}(ho:o.op=.binOp .eql t x y yt)(hd:o.dst=some d)(hn:d<n)(hx:aw ⟨n,T,s,ts⟩ x=some (.c (.sl k cs)))(hy:aw ⟨n,T,s,ts⟩ y=some (.c (aK)))(ht:P.underlying t=some (.slice e))
  (h:∀b:Bool,(b=true -> cs=[]) -> K ⟨n,T,s,(d,au b)::ts⟩):db P U o ⟨n,T,s,ts⟩ K:=by
 intro a w hs KK QQ hK;have hxe:=hs.ev hx;generalize hxv:a.eval x=xv at hxe;cases hxe with
 |c _ _ hr=>
  cases hr with
  |sl _ _ us _ hrow hl hr hcap=>
   obtain ⟨p,cap,he,hc,hrr⟩:=hrow;subst he;have hb:p.isNone=true -> cs=[]:=λhp=>by
    rcases hrr with h0|⟨b,off,h1,-⟩
    ·subst h0;exact yz (by rw [←hl];rfl)
    subst h1;cases hp
   have goal:KK (a.put o.dst (.bool p.isNone)) w:=by
    rw [hd];refine hK _ _ _ (h p.isNone hb) ((hs.step (w1:=w) T (cQ.refl _ _) hs.mem (λb hb=>.inl hb)).put (v:=.bool p.isNone) hn (.c _ _ (.val _ J))) ⟨cQ.refl _ _,cQ.refl _ _,λb hb=>.inl hb,λg hg=>.inl hg⟩ (cQ.refl _ _)
   have hr2:=Lib.run_eql_slice_nil w t e p k cap 0 0 ht;unfold Oper.wp;rw [show (execOp a.eval o).run P w=.ok (.value (.bool p.isNone)) w from by simp only [execOp,ho,hxv,hs.val hy];simp [go_sem,eqGuard,hr2]];exact goal
end
def QC{p:aX}{f s:Int}{e:Nat}(h:gp p=(f,s,e))(he:e=0):f=0 /\ s=0:=by
 subst he;unfold gp at h;split at h
 ·cases h
 split at h
 ·cases h
 split at h
 ·have g:∀(l:List a_)(k:Nat)(f s:Int),lW p l k=(f,s,0) -> f=0 /\ s=0:=λl=>by
   induction l with
   |nil=>intro k f s h;rw [lW] at h;cases h;exact ⟨rfl,rfl⟩
   |cons a l ih=>
    intro k f s h;rw [lW] at h;split at h
    ·exact ih _ _ _ h
    rename_i h0;exact absurd (congrArg (λx=>x.2.2) h) h0
  exact g _ _ _ _ h
 ·cases h
def Oa{T:List Nat}{bx:List aV}{rw:List aQ}{D gg gm gf:Nat}{E:ax}{cs:List aO}{l1 l2 l3:br}(hn:(⟨⟨D,E,cs⟩::bx,ak gf 0 bA l3::ak gm 0 bA l2::ak gg 0 bA l1::rw⟩:aH).bl.Nodup):∀b,b∈[D,gg,gm,gf] -> b∈(⟨⟨D,E,cs⟩::bx,ak gf 0 bA l3::ak gm 0 bA l2::ak gg 0 bA l1::rw⟩:aH).bl /\ (b∈(⟨bx,rw⟩:aH).bl -> b∈T):=by
 intro b hb;refine ⟨by simp only [mem_cons,not_mem_nil,or_false] at hb;unfold aH.bl;simp only [ca,eZ,vZ,mem_append,mem_cons,not_mem_nil,or_false];grind,λh9=>absurd h9 λh9=>?_⟩;unfold aH.bl at hn h9;simp only [ca,eZ,vZ,eE,ck] at hn;simp only [mem_cons,not_mem_nil,or_false] at hb;rcases mem_append.1 h9 with h9|h9
 ·rcases hb with rfl|rfl|rfl|rfl<;>simp [mu,eF] at hn<;>grind
 rcases hb with rfl|rfl|rfl|rfl<;>simp [mu,eF] at hn<;>grind
def L6(l:List cn)(hl:l.length <= 9000000)(s:aH):aT prog 19 [.c (aG bB l)] [] s λt s'=>t=.c (aG bB l) /\ s'=s:=by
 obtain ⟨bx,rw⟩:=s;refine bM 8 func19 ?_;refine go 9 ?_;refine aW J (WT J J V J J gN λbn hbn=>?_);rcases bz bn with rfl|rfl
 ·obtain rfl:l=[]:=by cases l with|nil=>rfl|cons m r=>exact absurd (congrArg List.length (hbn rfl)) (by simp [lC])
  refine go 10 ?_;exact ⟨.inr J,_,⟨bx,rw⟩,bJ J (iB (bI.c tz) (bO J)),ah (.refl _) (.refl _),J,J⟩
 refine go 7 ?_;refine aW J (fH gN fp λg1=>?_);refine go 1 ?_;refine aW J (eW [] Tryz.t45 32 J J V J J gN aL J J J J V (dF bB 3 (λ_=>J) l) cO Y (cq l.length) (λ_=>cI.h) cI.h (ck _) λw2=>?_);refine io 7 J ?_;refine go 4 ?_;exact bF bx rw J d3 ⟨J,J⟩
def KO(p:aX)(hs:p.bt)(hw:p.wt <= 9000000)(s:aH):aT prog 6 [cL (.agg (di p))] [] s λt s'=>t=.fd [.agg (sO (oN p)),aj ((gp p).1),aj ((gp p).2.1),aj (((gp p).2.2:Nat):Int)] /\ s'=s:=by
 obtain ⟨bx,rw⟩:=s;have hall:=CR p;have hwq:=hw;unfold aX.wt at hwq;have hfl:=po a_.wt (λf=>q_) p.funcs;refine bM 70 func6 ?_;refine go 13 λb1 b2=>?_;refine aW J (pV 0 [] J J V call17 J J (K9 p hs hw _) dX dX (λ_=>dX) ?_);rintro _ _ ⟨f0,s0,bp,hc,rfl,rfl⟩;rw [MA] at hc;refine go 12 ?_;by_cases h1:(bp:Int)=0
 ·refine aF J (eG h1) (go 8 ?_);obtain ⟨rfl,rfl⟩:=QC hc Y;obtain rfl:bp=0:=Y;obtain ⟨hv0,hM,hfe,hmn⟩:=PD hc;refine aW J (se [] J J V call18 J (Np p Y Y Y _) dX dX (λ_=>dX) ?_);rintro _ _ ⟨D,gg,gm,gf,rfl,rfl⟩;refine ⟨[D,gg,gm,gf],Oa,?_⟩;refine go 3 ?_;refine sx (λg:Nat=>(⟨70,[g,D,b2,b1,gg,gm,gf],⟨⟨g,33,[aK,aG bB p.mutexes,aK,aA (((bQ (bd p) eR).n:Nat):Int)]⟩::⟨D,74,[aB gg,aB gm,aB gf,.val (.map none),.val (.map none),aA 0,aK,aK,aA 0]⟩::⟨b2,33,[aK,aK,aK,aA 0]⟩::⟨b1,27,di p⟩::bx,ak gf 0 bA (eP a_.name p.funcs p.funcs.length)::ak gm 0 bA (eP cn.name p.mutexes p.mutexes.length)::ak gg 0 bA (eP bw.name p.globals p.globals.length)::rw⟩,[(10,aE g),(1,aE b1),(2,aE b2),(9,aE D)]⟩:AS)) ?_ ?_
  ·refine bu [D,b2,b1,gf] (aU [0,1,3,4,5,6] 5 (go 7 ?_));refine aZ 7 J (o0 (eP a_.name p.funcs p.funcs.length) J J J aM lj dz rV na) ?_;refine cC 2 9 J ?_ ?_;focus
    refine (dv J J V call19 J (L6 p.mutexes Y _) ?_);rintro _ _ ⟨rfl,rfl⟩;refine aZ 8 J (id <|yf Tryz.t33 [(0,1),(1,1),(2,1),(3,1)] J (.cons J (.cons J .nil)) underlying33 aL J aL J J) (cY [(9,false)] 1 (go 2 λb4=>?_))
   rotate_left;refine (iz J J V CG J λb4=>?_);refine aY 2 J J (dv J J V call19 J (L6 p.mutexes Y _) ?_);rintro _ _ ⟨rfl,rfl⟩;refine aZ 8 J (id <|yf Tryz.t33 [(0,1),(1,1),(2,1),(3,1)] J (.cons J (.cons J .nil)) underlying33 aL J aL J J) ?_;all_goals
    refine aY 10 J J (id <|M0 J J J J J qW J (fV J) (Bh J) aM Ju ?_);refine bC ?_;rw [show cB (eP a_.name p.funcs p.funcs.length) (⟨#[109,97,105,110]⟩:aI)=_ from hmn];exact ⟨b4,az lD⟩
  rintro b5
  try dsimp only
  refine go 10 ?_;refine gA 3 1 ?_;refine ji (α:=aN) (λ_ _=>True) (p.globals.length) 41 (λg=>aR g++([b5,D,b2,b1,gg,gm,gf])) (λk g=>⟨⟨b5,33,[.val g,aG bB p.mutexes,aK,aA (((bQ (bd p) eR).n:Nat):Int)]⟩::⟨D,74,[aB gg,aB gm,aB gf,.val (.map none),.val (.map none),aA 0,aK,aK,aA 0]⟩::⟨b2,33,[aK,aK,aK,aA 0]⟩::⟨b1,27,di p⟩::bx,⟨g,3,1,k,((p.globals.take k).map bw.init).map λx=>aA x⟩::ak gf 0 bA (eP a_.name p.funcs p.funcs.length)::ak gm 0 bA (eP cn.name p.mutexes p.mutexes.length)::ak gg 0 bA (eP bw.name p.globals p.globals.length)::rw⟩) (λ_=>[(1,aE b1),(2,aE b2),(9,aE D),(10,aE b5),(39,.c (aG cR p.globals)),(40,ab p.globals.length)]) (.slice none 0 0) trivial (az Aw) ?_;rintro k v0 hk -
  try dsimp only
  refine go 2 ?_;by_cases h3:(k:Int)<(p.globals.length:Int)
  ·refine aJ J (cw h3) (go 9 ?_);have hkl:k<p.globals.length:=Y;refine go 1 ?_;refine aC J (bX cR cR p.globals nt (λ_=>J) k J J J J Y V mp jU) (go 10 λb6=>?_);refine aW J (bU (r:=[aA (p.globals[k].init)]) qV ?_);refine aW J (dS [] Cc J J V cO Y (N:=k+1) J (λ_=>cI.h) cI.h (QH bw.init p.globals k Y) λw7=>?_);refine go 6 ?_;refine bK J (go 2 ?_);exact ⟨Y,w7,trivial,az (h1:=bG) (h:=av J (b_ Y) (ao J)) lD⟩
  refine aF J (ct h3) (go 12 ?_);obtain rfl:k=p.globals.length:=Y;rw [hP];refine go 7 ?_;refine gA 76 5 ?_;refine ji (α:=aN×(Nat -> aO)) (λ_ _=>True) (p.funcs.length) 56 (λg=>aR g.1++(aR v0++[b5,D,b2,b1,gg,gm,gf])) (λk g=>⟨⟨b5,33,[.val v0,aG bB p.mutexes,.val g.1,aA (((bQ (bd p) eR).n:Nat):Int)]⟩::⟨D,74,[aB gg,aB gm,aB gf,(g.2 0),(g.2 1),(g.2 2),(g.2 3),(g.2 4),(g.2 5)]⟩::⟨b2,33,[aK,aK,aK,aA 0]⟩::⟨b1,27,di p⟩::bx,⟨g.1,76,5,k,((p.funcs.take k).map (iU p)).flatMap fk⟩::⟨v0,3,1,p.globals.length,((p.globals).map bw.init).map λx=>aA x⟩::ak gf 0 bA (eP a_.name p.funcs p.funcs.length)::ak gm 0 bA (eP cn.name p.mutexes p.mutexes.length)::ak gg 0 bA (eP bw.name p.globals p.globals.length)::rw⟩) (λ_=>[(1,aE b1),(2,aE b2),(9,aE D),(10,aE b5),(54,.c (aG bT p.funcs)),(55,ab p.funcs.length)]) (.slice none 0 0,λj=>(if j=0 then .val (.map none) else if j=1 then .val (.map none) else if j=2 then aA 0 else if j=3 then aK else if j=4 then aK else aA 0)) trivial (az Aw) ?_;rintro k ⟨v2,y⟩ hk -
  try dsimp only
  refine go 2 ?_;by_cases h6:(k:Int)<(p.funcs.length:Int)
  ·refine aJ J (cw h6) (go 9 ?_);have hkl:k<p.funcs.length:=Y;refine go 1 ?_;refine aC J (bX bT bT p.funcs mY (λ_=>J) k J J J J Y V fu du) (go 5 λb8=>?_);refine lQ 8 [b8,b5,b2,b1] [] #[true,true,true,true,true,true,true,true,false] aL aL aL ?_;refine aU [0,1,2,3] 4 (go 5 ?_);have hfk:=hfe p.funcs[k] (getElem_mem hkl);have hfw:a_.wt p.funcs[k] <= 20000000:=by have:=qX a_.wt p.funcs k hkl;unfold aX.wt at hw;omega
   refine aY 4 J J (bo [D] J J V call20 J (MH [_,_] _ D gg gm gf p (eP bw.name p.globals p.globals.length) (eP cn.name p.mutexes p.mutexes.length) (eP a_.name p.funcs p.funcs.length) _ _ _ _ _ _ _ p.funcs[k] hM aM aM aM (zA p) Y hfw hfk.2 hfk.1) de dc Nu ?_);rintro _ _ ⟨rfl,x3,x4,x5,x6,x8,rfl⟩;refine aY 5 J J (bU (hf:=dd fk fk (iU p p.funcs[k]) J J J) Qm ?_);refine aY 6 J J (dS [] Mc J (dF fk 5 wg _) V cO Y (N:=k+1) J (λhn b hb=>cz (r:=(⟨v2,76,5,k,((p.funcs.take k).map (iU p)).flatMap fk⟩:aQ)) hn hb) cI.h (xq (iU p) fk p.funcs k Y) λw10=>?_);refine aU [7] 0 (go 2 ?_);refine bC ?_;refine id ?_;refine cY [(8,false)] 0 (go 2 ?_);refine bC (go 3 ?_);refine bK J (go 2 ?_);exact ⟨Y,(w10,λj=>(if j=0 then x3 else if j=1 then x4 else if j=2 then x5 else if j=3 then x6 else if j=4 then .sl (qJ p p.funcs[k]).length ((qJ p p.funcs[k]).map λx=>aA x) else x8)),trivial,az (h1:=bG) (h:=av J (b_ Y) (ao J)) lD⟩
  refine aF J (ct h6) (go 11 ?_);obtain rfl:k=p.funcs.length:=Y;rw [hP];refine eO (cs':=[.val v0,aG bB p.mutexes,.sl p.funcs.length ((p.funcs.map (iU p)).flatMap fk),aA (((bQ (bd p) eR).n:Nat):Int)]) [] 2 J J ?_;show cN prog _ _ ⟨_,_,⟨⟨b5,33,[.val v0,aG bB p.mutexes,.sl p.funcs.length ((p.funcs.map (iU p)).flatMap fk),aA (((bQ (bd p) eR).n:Nat):Int)]⟩::⟨D,74,[aB gg,aB gm,aB gf,(y 0),(y 1),(y 2),(y 3),(y 4),(y 5)]⟩::⟨b2,33,[aK,aK,aK,aA 0]⟩::⟨b1,27,di p⟩::bx,_⟩,_⟩ _;refine eO (cs':=[.sl p.globals.length ((p.globals.map bw.init).map λx=>aA x),aG bB p.mutexes,.sl p.funcs.length ((p.funcs.map (iU p)).flatMap fk),aA (((bQ (bd p) eR).n:Nat):Int)]) [] 0 J J ?_;show cN prog _ _ ⟨_,_,⟨⟨b5,33,[.sl p.globals.length ((p.globals.map bw.init).map λx=>aA x),aG bB p.mutexes,.sl p.funcs.length ((p.funcs.map (iU p)).flatMap fk),aA (((bQ (bd p) eR).n:Nat):Int)]⟩::⟨D,74,[aB gg,aB gm,aB gf,(y 0),(y 1),(y 2),(y 3),(y 4),(y 5)]⟩::⟨b2,33,[aK,aK,aK,aA 0]⟩::⟨b1,27,di p⟩::bx,_⟩,_⟩ _;refine go 8 ?_;exact ⟨.inr J,_,⟨bx,rw⟩,rF J (bv [_,_] J J sF qW (cG J J)) (bO J) (bO J) (bO J),ah tu ek,by rw [Pw hc,hc];unfold sO;dsimp only;first|(rw [gS,gS];rfl)|(unfold aG;rw [gS,gS];rfl),J⟩
 refine aJ J (gG h1) (go 17 ?_);exact ⟨.inr J,_,⟨bx,rw⟩,rF J (iB (bI.agg (.n (.n (.n (.r .nil))))) (bv [] J J sF qW (cG J J))) (bO J) (bO J) (bO J),ah c_ (.refl _),by rw [Ig hc Y,hc];rfl,J⟩
def qK(p:aX)(f:Int):List Int:=if (gp p).2.2=0 then (if 0 <= f then (match p.funcs[f.toNat]? with|some g=>qJ p g|none=>[]) else []) else []
def ZQ{p:aX}{f a b:Int}{e:Nat}(h:gp p=(a,b,e))(he:e≠0):qK p f=[]:=by unfold qK;rw [h,if_neg he]
def Rv{p:aX}{f:Int}(hf:f<0):qK p f=[]:=by unfold qK;split;rw [if_neg Y];rfl
def TG{p:aX}{f:Int}(hf:(p.funcs.length:Int) <= f):qK p f=[]:=by
 unfold qK;split
 ·rw [if_pos Y,AB Y]
 rfl
def W0{p:aX}{k:Nat}(h:gp p=(0,0,0))(hk:k<p.funcs.length):qK p (k:Int)=qJ p p.funcs[k]:=by
 unfold qK;rw [h,if_pos rfl,if_pos Y,show (k:Int).toNat=k by omega,kl hk]
def UM(p:aX)(f:Int)(hs:p.bt)(hw:p.wt <= 9000000)(s:aH):aT prog 28 [cL (.agg (di p)),aj f] [] s λt s'=>t=.c (.sl (qK p f).length ((qK p f).map λx=>aA x)) /\ s'=s:=by
 obtain ⟨bx,rw⟩:=s;have hall:=CR p;have hwq:=hw;unfold aX.wt at hwq;have hfl:=po a_.wt (λf=>q_) p.funcs;refine bM 41 func28 ?_;refine go 10 λb1=>?_;refine aW J (pV 0 [] J J V call17 J J (K9 p hs hw _) dX dX (λ_=>dX) ?_);rintro _ _ ⟨f0,s0,bp,hc,rfl,rfl⟩;rw [MA] at hc;refine go 12 ?_;by_cases h1:(bp:Int)=0
 ·refine aF J (eG h1) (go 2 ?_);by_cases h2:f<0
  ·refine aJ J (cw h2) (go 18 ?_);exact ⟨.inr J,_,⟨bx,rw⟩,bJ J (iB (bI.c tz) (bO J)),ah bG (.refl _),by rw [Rv Y];rfl,J⟩
  refine aF J (ct h2) (go 6 ?_);by_cases h4:(p.funcs.length:Int) <= f
  ·refine aJ J (oJ h4) (go 11 ?_);exact ⟨.inr J,_,⟨bx,rw⟩,bJ J (iB (bI.c tz) (bO J)),ah bG (.refl _),by rw [TG Y];rfl,J⟩
  refine aF J (pF h4) (go 9 ?_);obtain ⟨rfl,rfl⟩:=QC hc Y;obtain rfl:bp=0:=Y;obtain ⟨hv0,hM,hfe,hmn⟩:=PD hc;refine aW J (se [] J J V call18 J (Np p Y Y Y _) dX dX (λ_=>dX) ?_);rintro _ _ ⟨D,gg,gm,gf,rfl,rfl⟩;refine ⟨[D,gg,gm,gf],Oa,?_⟩;refine go 5 ?_;obtain ⟨kk,rfl⟩:∃kk:Nat,f=(kk:Int):=⟨f.toNat,Y⟩;have hkk:kk<p.funcs.length:=Y;refine go 4 ?_;refine aC J (bX bT bT p.funcs mY (λ_=>J) kk J J J J Y V fu du) (go 1 ?_);have hfk:=hfe p.funcs[kk] (getElem_mem hkk);have hfw:a_.wt p.funcs[kk] <= 20000000:=by have:=qX a_.wt p.funcs kk hkk;unfold aX.wt at hw;omega
  refine aW J (bo [D] J J V call20 J (MH [] _ D gg gm gf p (eP bw.name p.globals p.globals.length) (eP cn.name p.mutexes p.mutexes.length) (eP a_.name p.funcs p.funcs.length) _ _ _ _ _ _ _ p.funcs[kk] hM aM aM aM (zA p) Y hfw hfk.2 hfk.1) (ba) (ba (h:=by simp [aH.bl])) (λ_=>ba) ?_);rintro _ _ ⟨rfl,x3,x4,x5,x6,x8,rfl⟩;refine go 12 ?_;exact ⟨.inr J,_,⟨bx,rw⟩,bJ J (bO J),ah c_ ek,by rw [W0 hc hkk],J⟩
 refine aJ J (gG h1) (go 21 ?_);exact ⟨.inr J,_,⟨bx,rw⟩,bJ J (iB (bI.c tz) (bO J)),ah bG (.refl _),by rw [ZQ hc Y];rfl,J⟩
end
section
open Go.ChangeShapes Go.WideShapes Go.ChangeAt Go.RowKit
def own:ownKnob prog.godebug=none:=aL
def laidOut:laidOutB prog=true:=aL
def WY : prog.globalNamed "lockorder/token.words" = some 0 := by kernel_rfl
def P_{H:Type}{enc:ax×aN -> H}{P:Program}{w:aa}{base:Nat}{sp:Nat -> Bool}{held:Bool}{fuel:Nat}{t e:ax}{n:Nat}{cs:List aN}{zs:List (List UInt8)}{p:List MemPlace}
  (ht:P.underlying t=some (.array n e)) (he:P.underlying e=some .string) (hce:P.cellsOf e=1) (hct:P.cellsOf t=n)
  (h:DataW.trod enc P w base sp held fuel t cs=some (.agg (zs.map λz=>.lit (.string z)),p)):cs=zs.map λz=>Value.string (bytes z):=by
 cases fuel with
 |zero=>simp [DataW.trod] at h
 |succ fuel=>
  simp only [DataW.trod,ht,hce,hct,sM] at h;split at h
  ·rename_i hl;obtain ⟨xs,hm,hx⟩:=zn.1 h;have hxs:xs.map (·.1)=zs.map λz=>(DataW.lit (.string z):DataW H):=by
    have:=congrArg Prod.fst hx;simpa using this
   have hxl:xs.length=n:=by simpa using Lib.mapM_length hm
   have hzl:zs.length=n:=by
    have:=congrArg List.length hxs;simp at this;omega
   apply Bw
   intro i;by_cases hi:i<n
   ·obtain ⟨b,hb,hf⟩:=Lib.mapM_at hm i i (by simp [hi]);obtain ⟨z,hc,rfl,_⟩:=DataW.trod_string he hf;have h1:cs[i]?=some (.string z):=by
     have:=congrArg (·[0]?) hc
     simpa [pD,rK] using this
    have h2:(xs.map (·.1))[i]?=some (DataW.lit (.string z.data.toList):DataW H):=by simp [hb]
    rw [hxs] at h2;simp only [nz,zn,DataW.lit.injEq,Lit.string.injEq] at h2;obtain ⟨z',hz',he'⟩:=h2;simp [h1,hz',bytes,he']
   rw [AB Y,AB dr]
  cases h
def Nx:List (List UInt8):=words.map λb=>b.data.toList
def MS{H:Type}{enc:ax×aN -> H}{W W':aa}(hb:Below W.heap.size W W'):
  ∀{ts:List ax} {vs:List aN} {ds:List (DataW H)} {ps:List MemPlace},(∀t∈ts,prog.readableRec t=true /\ t<prog.types.size) -> DataW.TrodAll enc prog W 0 (λ_=>true) true ts vs ds ps -> (∀x∈ps,x.block<W.heap.size) ->
   DataW.TrodAll enc prog W' 0 (λb=>decide (b<W.heap.size)) true ts vs ds ps
 |[],_,_,_,_,h,_=>by
  obtain ⟨rfl,rfl,rfl⟩:=trodAll_nil h;exact trodAll_mk0
 |t::ts,_,_,_,hr,h,hlt=>by
  obtain ⟨v,vs1,d,ds1,a,b,rfl,rfl,rfl,h1,h2⟩:=trodAll_cons h;have ht:=hr t (mq ..);exact ⟨a,b,Below.trod laidOut ht.1 ht.2 h1 hb (λx hx=>hlt x (gW _ hx)),
   MS hb (λu hu=>hr u (d_ _ hu)) h2 (λx hx=>hlt x (gz _ hx)),rfl⟩
def YR{H:Type}{enc:ax×aN -> H}{F:Func}{s:ChangeSpec}{W W':aa}{args:Array aN}{ds gs:List (DataW H)}{before:List MemPlace}
  (hW:DataW.Whole enc prog F.params.toList s.vars false W args.toList ds gs before) (hv:s.vars=[]) (hfn:s.fn H ds={results:=[.lit (.bool true)],args:=ds})
  (hread:∀t∈F.params.toList,prog.readableRec t=true /\ t<prog.types.size) (hres:F.resultTypes=#[4]) (hb:Below W.heap.size W W'):
  ∃v,Ending.returned (.bool true)=.returned v /\ s.post enc prog F false true false false W args v W':=by
 refine ⟨_,J,?_⟩;have hlt:∀p∈before,p.block<W.heap.size:=λp hp=>by simpa using hW.lt p hp
 have hW':=hW;obtain ⟨p,q,hA,hV,rfl,hfz,hnd⟩:=hW;rw [hv] at hV;obtain ⟨rfl,rfl⟩:=trodVars_none hV;simp only [eY] at hlt hW';refine ⟨ds,[],p,[],p,[],hW',?_,?_,?_,?_,λh=>gQ⟩
 ·rw [hres,eY,hfn];exact trodAll_cons_mk (shut_bool yT true) trodAll_mk0
 ·rw [eY,hfn];exact MS hb hread hA hlt
 ·rw [eY,hfn,hv];rfl
 exact hb.frame _
def Uh{W:aa}{a:Addr}{u:aN}(h:W.cell? (a.add 0)=some u):∃b off,a=⟨b,off,none⟩:=by
 obtain ⟨b,off,sp⟩:=a;cases sp with
 |none=>exact ⟨b,off,rfl⟩
 |some k=>
  exfalso;simp only [Addr.add,if_true] at h;unfold World.cell? at h;split at h
  ·simp at h
  cases h
end
section
open Go.ChangeShapes Go.WideShapes Go.ChangeAt Go.RowKit
def Wp{H:Type}{enc:ax×aN -> H}{W:aa}{base:Nat}{v:aN}{d:DataW H}{p:List MemPlace}(hval:Value.okWide prog W .any base 22 v)(hd:DataW.Trod enc prog W 0 (λ_=>true) true 22 v d p):
  ∃(s:List Int) (a:Option Addr) (cap:Nat),v=.slice a s.length cap /\ s.length <= cap /\ cap <= maxLen /\ eD W v s.length (s.map (.int .i64)):=by
 obtain ⟨a,len,cap,rfl⟩:=okWide_slice tn hval;obtain ⟨fuel,hf⟩:=hd;rcases open_ints tn mt aL hf with ⟨hcs,hx⟩|⟨a',len',cap',zs,hcs,_,hl,hm,hz,hx,hcell,hwz⟩
 ·simp [Value.cells] at hcs;obtain ⟨rfl,rfl,rfl⟩:=hcs;exact ⟨[],none,0,J,bY _,cO,eD.nil _⟩
 simp [Value.cells] at hcs;obtain ⟨rfl,rfl,rfl⟩:=hcs;simp only [if_true] at hz;have hlen:(zs.take len).length=len:=ES;refine ⟨zs.take len,some a',cap,by rw [hlen],by rw [hlen];exact hl,hm,some a',cap,by rw [hlen],by rw [hlen];exact hl,?_⟩;by_cases h0:len=0
 ·left;subst h0;rfl
 right;obtain ⟨b,off,rfl⟩:=Uh (hcell 0 Y);refine ⟨b,off,J,λj u hu=>?_⟩;have hj:j<len:=by
  rcases jn j len with h|h
  ·exact h
  rw [AB (by rw [gS,hlen];exact h)] at hu;cases hu
 have hc:=hcell j Y;rw [add_plain] at hc;rw [hc];simp only [nz,pD,if_pos hj,kl (show j<zs.length by omega),o4] at hu;rw [←hu];simp [List.getD,show j<zs.length by omega]
end
section
open Go.ChangeShapes Go.WideShapes Go.ChangeAt Go.RowKit
def Wl : prog.globalNamed "lockorder/expr.signs" = some 3 := by kernel_rfl
def VB : prog.globalNamed "internal/strconv.uint64pow10" = some 1 := by kernel_rfl
def LW:List (List UInt8):=mB.map λb=>b.data.toList
abbrev Fe : List (String × DataW Unit) := [("math/bits.deBruijn32tab", Rows.laid_math_bits_deBruijn32tab), ("math/bits.deBruijn64tab", Rows.laid_math_bits_deBruijn64tab), ("internal/strconv.uint64pow10", Rows.laid_internal_strconv_uint64pow10), ("lockorder/token.words", Rows.laid_lockorder_token_words), ("lockorder/expr.signs", Rows.laid_lockorder_expr_signs)]
def UH{W:aa}(h:laidMetH prog Fe W)(hs:W.ShapedOpen prog):pJ W:=by
 obtain ⟨ps,hL,_⟩:=(show laidMet prog Fe W from h);obtain ⟨_,_,_,_,_,_,_,_,_,_,hL,_⟩:=hL;obtain ⟨_,_,_,_,_,_,_,_,_,_,hL,_⟩:=hL;obtain ⟨g3,t3,cs3,fuel3,p3,q3,hg3,ht3,aOg,hd3,hL,_⟩:=hL;obtain ⟨g',t',cs,fuel,p,q,hg',ht',hvar,hd,hL,_⟩:=hL;obtain ⟨g2,cC,cs2,fuel2,p2,q2,hg2,ht2,aOh,hd2,_,_⟩:=hL;refine ⟨λj hj=>?_,?_,⟨λj hj=>?_⟩,?_⟩
 ·obtain rfl:=mU (WY.symm.trans hg');obtain rfl:t'=248:=mU (ht'.symm.trans (show (prog.globals[0]?).map (·.type)=some 248 by kernel_rfl))
  have hc:=P_ (zs:=Nx) (n:=11) (e:=9) underlying248 dz aL aL hd;have:=World.var?_cell hg' hvar j;rw [←nd,hc] at this;rw [this];simp only [Nx,o8];rw [nz,kl hj];simp [bytes]
 ·exact cell_of_shapedOpen_int (zero:=#[.int .i64 0]) (t:=3) hs (of_decide_eq_true aL) aL J aL aL mt
 ·obtain rfl:=mU (Wl.symm.trans hg2);obtain rfl:cC=257:=mU (ht2.symm.trans (show (prog.globals[3]?).map (·.type)=some 257 by kernel_rfl))
  have hc:=P_ (zs:=LW) (n:=18) (e:=9) underlying257 dz aL aL hd2;have:=World.var?_cell hg2 aOh j;rw [←nd,hc] at this;rw [this];simp only [LW,o8];rw [nz,kl hj];simp [bytes]
 obtain rfl:=mU (VB.symm.trans hg3);obtain rfl:t3=252:=mU (ht3.symm.trans (show (prog.globals[1]?).map (·.type)=some 252 by kernel_rfl))
 unfold Lib.TabIs;rw [aOg,←Lib.cells_of_tab (zs:=Lib.pow10Tab) (k:=.u64) underlying252 underlying191 aL aL hd3]
def WF(os:Os)(args:Array aN):laidMet prog Fe ((World.doorLaid prog 60 os).forCall (λ_ _=>0) ⟨#[],args,[]⟩).memory:=
 laidMet_of_run' 8 aL aL
def FD(w:aa):f7 w (bh [] w):=
 ⟨λa u h=>by rw [pw _ _ _ aM];exact h,λg cs t fz h _=>by rw [Cs _ _ _ aM];exact h⟩
def U'{w:aa}{t:AT}{v:aN}(he:pJ w)(h:cS (bh [] w) t v):cS (bh [] w) (cL t) v:=N5 h (he.up (FD w))
def Uc{P:Program}{U:List Nat}{o:Oper}{n d:Nat}{T:List Nat}{s:aH}{ts:List (Nat×AT)}{K:AS -> Prop}{F:FuncId}{t0:AT}(i0:Nat)(ho:o.op=.call {callee:=.value (.func F),args:=#[],argTypes:=#[]})(hd:o.dst=some d)(hn:d<n)
  (hcf:∀args w,(callFunc F args).run P w=.ok (.enter F args) w) (hl:look ts i0=some (cL t0)) (hc:∀w,pJ w -> Calls P F #[] w λe w'=>e=.returned (.bool true) /\ Below w.heap.size w w')
  (h:K ⟨n,T,s,(d,au true)::ts⟩):db P U o ⟨n,T,s,ts⟩ K:=by
 intro a w hs KK QQ' hK;obtain ⟨v0,-,hv0⟩:=hs.tm i0 _ hl;unfold Oper.wp;rw [show (execOp a.eval o).run P w=.ok (.enter F #[]) w from by
  simp only [execOp,ho,resolve,Deferred.ofValue,Act.eval,dK,fo,eu,invoke];rw [hcf];simp,Oper.upon_enter]
 refine (hc w (F4 hv0)).mono ?_;rintro en w' ⟨rfl,hb⟩;dsimp only;rw [hd];obtain ⟨hk,hm⟩:=Bf hs.mem hb;have s1:=hs.step (st:=⟨n,T,s,ts⟩) T (hk.mono aM) hm (λb hb=>.inl hb);exact hK _ _ _ h (s1.put hn (cS.c _ _ (.val _ J))) ⟨hk.mono aM,hk.mono aM,λb hb=>.inl hb,λb hb=>.inl hb⟩ (hk.mono aM)
def Vr{P:Program}{F:FuncId}{fn:Func}{c:Code}(hf:P.funcs[F]?=some fn)(hb:fn.body=some c)(i:Nat)(hi:i<fn.ntmps){w:aa}(he:pJ w)
  (h:bi P c ⟨fn.ntmps,[],⟨[],[]⟩,[(i,cL (.raw undef))]⟩ λe st=>(e=.normal∨e=.ret) /\ ∃r s',nb P fn st r /\ jJ st.s s' /\ r=au true /\ s'=⟨[],[]⟩):Calls P F #[] w λe w'=>e=.returned (.bool true) /\ Below w.heap.size w w':=by
 have hm:Mem ⟨[],[]⟩ w:=⟨List.nodup_nil,(λb hb=>absurd hb xx),Dx,Dx⟩;refine calls_of_wp hf hb ?_;refine h _ w ⟨J,?_,λj t ht=>?_,hm⟩ _ ?_
 ·simp
 ·simp only [look] at ht;split at ht
  ·rename_i hj;subst hj;cases ht;exact ⟨undef,by simp [hi],N5 (.raw _) (he.up (FD w))⟩
  cases ht
 intro e a' w' st' q s' k;obtain ⟨he,r,s2,hres,hsub,rfl,rfl⟩:=q;obtain ⟨v,h1,h2⟩:=hres a' w' s';have hv:v=.bool true:=by cases h1 with|c _ _ h4=>cases h4;rfl
 subst hv;have hk:=k.ls;rcases he with rfl|rfl;rotate_left;all_goals
  exact ⟨s'.df,_,h2,J,⟨hk.os,hk.tape,hk.output,hk.size,λj hj=>hk.block j hj aM⟩⟩
end
section
open Go.RowKit
structure gb (l:List Tok):Prop where
 last:rC l
 reg:∀t,t∈l -> B7 t
 len:l.length <= 1000000
def lS(l:List Tok)(k:Nat)(s:ByteArray):Bool:=(decide ((dn l k).kind=4)||decide ((dn l k).kind=3)) && decide ((dn l k).text=s)
def sf{e:Nat}(h:e≠0):ef .eql (e:Int) 0=some false:=sA
def r_{m n:Nat}:ef .eql (m:Int) (n:Int)=some (decide (m=n)):=by
 by_cases h:m=n
 ·subst h;simp [ef]
 have h2:¬(m:Int)=(n:Int):=Y;simp [ef,h,h2]
def ON{l:List Tok}(h:gb l){k:Nat}(hk:k<l.length){s:List UInt8}(hr:fT (bytes s)=false):lS l k (bytes s)=fZ l k s:=by
 unfold lS fZ;rw [nS hk];have h1:=h.reg _ (getElem_mem hk);by_cases ht:l[k].text=bytes s
 ·by_cases h3:l[k].kind=3
  ·have:=h1.1 h3;rw [ht,hr] at this;cases this
  simp [ht,h3]
 simp [ht]
def Qr{l:List Tok}(h:gb l){k:Nat}(hk:k<l.length){s:List UInt8}(hr:fT (bytes s)=true):lS l k (bytes s)=gM l k s:=by
 unfold lS gM;rw [nS hk];have h1:=h.reg _ (getElem_mem hk);by_cases ht:l[k].text=bytes s
 ·by_cases h4:l[k].kind=4
  ·have:=h1.2.1 h4;rw [ht,hr] at this;cases this
  simp [ht,h4]
 simp [ht]
def Uj{l:List Tok}(h:gb l){k:Nat}(hk:k<l.length){s:aI}(ha:lS l k s=true):k+1<l.length:=by
 refine h.last.more hk λh5=>?_;unfold lS at ha;rw [h5] at ha;simp at ha
def wO(e b k x b1 ae:Nat):Prop:=(e=0 -> k=b1 /\ x=ae) /\ (e≠0 -> b=b1 /\ e=ae)
def wO.run{α:Type}{e b k x b1 ae:Nat}{r:cJ α}(h:wO e b k x b1 ae)(hx:x≠0)(hr:e=0 -> r=.err k x)(y:α)(k1:Nat):bj e b r y k1 b1 ae:=by
 by_cases he:e=0
 ·obtain ⟨rfl,rfl⟩:=h.1 he;subst he;exact .err _ _ _ _ _ (hr J) hx
 obtain ⟨rfl,rfl⟩:=h.2 he;exact .skip he _ _ _
def wO.small{e b k x b1 ae:Nat}(h:wO e b k x b1 ae)(he:e<16)(hx:x<16):ae<16:=by
 by_cases h0:e=0
 ·rw [←(h.1 h0).2];exact hx
 rw [←(h.2 h0).2];exact he
abbrev bc(A B:List aV)(rw:List aQ)(P:Nat)(l:List Tok)(k b e ns dp:Nat):aH:=⟨A++⟨P,141,[aG da l,aA (k:Int),aA (b:Int),aA (e:Int),aA (ns:Int),aA (dp:Int)]⟩::B,rw⟩
def ig{α:Type}(A B:List aV)(rw:List aQ)(P:Nat)(l:List Tok)(ns dp:Nat)(enc:α -> AT)(e b:Nat)(r:cJ α)(t:AT)(s:aH):Prop:=
 ∃x k1 b1 ae,t=enc x /\ bj e b r x k1 b1 ae /\ k1<l.length /\ ae<16 /\ s=bc A B rw P l k1 b1 ae ns dp
def RE(A B:List aV)(rw:List aQ)(P:Nat)(l:List Tok)(k b ns dp x:Nat):aT prog 55 [aE P,aj (x:Int)] [P] (bc A B rw P l k b 0 ns dp) λt s=>t=.fd [] /\ s=bc A B rw P l k k x ns dp:=by
 refine bM 20 func55 ?_;refine go 6 ?_;refine aJ J j9 (go 18 ?_);exact ⟨.inl J,_,(bc A B rw P l (k) (k) (x) (ns) (dp)),fg J,ah (.refl _) (.refl _),J,J⟩
def Zc(A B:List aV)(rw:List aQ)(P:Nat)(l:List Tok)(k b ns dp x e:Nat)(he0:e≠0):aT prog 55 [aE P,aj (x:Int)] [P] (bc A B rw P l k b e ns dp) λt s=>t=.fd [] /\ s=bc A B rw P l k b e ns dp:=by
 refine bM 20 func55 ?_;refine go 6 ?_;refine aF J (sf he0) (go 4 ?_);exact ⟨.inl J,_,(bc A B rw P l (k) (b) (e) (ns) (dp)),fg J,ah (.refl _) (.refl _),J,J⟩
def WO(A B:List aV)(rw:List aQ)(P:Nat)(l:List Tok)(k b ns dp e:Nat)(sg:aI)(hk:k<l.length)(he0:e≠0):aT prog 54 [aE P,cK sg] [P] (bc A B rw P l k b e ns dp) λt s=>t=au false /\ s=bc A B rw P l k b e ns dp:=by
 refine bM 37 func54 ?_;refine go 6 ?_;refine bu [P] (aU [0,1,2,3,4,5,6,7] 4 (go 9 ?_));refine aZ 8 J (bX da da l lN (λ_=>J) (k) J J J J hk V lA lE) (cY [(9,true),(10,false),(11,false)] 0 (go 4 λb1=>?_));refine bC (go 7 ?_);refine aF J (sf he0) (go 20 ?_);exact kR (s':=(bc A B rw P l (k) (b) (e) (ns) (dp))) J cU ⟨J,J⟩
def TX(A B:List aV)(rw:List aQ)(P:Nat)(l:List Tok)(k b ns dp:Nat)(sg:aI)(hk:k<l.length)(h4:l[k].kind=4)(ht:l[k].text=sg):aT prog 54 [aE P,cK sg] [P] (bc A B rw P l k b 0 ns dp) λt s=>t=au true /\ s=bc A B rw P l k b 0 ns dp:=by
 refine bM 37 func54 ?_;refine go 6 ?_;refine bu [P] (aU [0,1,2,3,4,5,6,7] 4 (go 9 ?_));refine aZ 8 J (bX da da l lN (λ_=>J) (k) J J J J hk V lA lE) (cY [(9,true),(10,false),(11,false)] 0 (go 4 λb1=>?_));refine bC (go 7 ?_);refine aJ J j9 (go 3 ?_);refine aJ J (by rw [h4];rfl) (go 10 ?_);refine aC J (fS true J J J (by rw [ht];simp [l8])) (go 5 ?_);exact kR (s':=(bc A B rw P l (k) (b) (0) (ns) (dp))) J cU ⟨J,J⟩
def YA(A B:List aV)(rw:List aQ)(P:Nat)(l:List Tok)(k b ns dp:Nat)(sg:aI)(hk:k<l.length)(h4:l[k].kind=4)(ht:¬l[k].text=sg):aT prog 54 [aE P,cK sg] [P] (bc A B rw P l k b 0 ns dp) λt s=>t=au false /\ s=bc A B rw P l k b 0 ns dp:=by
 refine bM 37 func54 ?_;refine go 6 ?_;refine bu [P] (aU [0,1,2,3,4,5,6,7] 4 (go 9 ?_));refine aZ 8 J (bX da da l lN (λ_=>J) (k) J J J J hk V lA lE) (cY [(9,true),(10,false),(11,false)] 0 (go 4 λb1=>?_));refine bC (go 7 ?_);refine aJ J j9 (go 3 ?_);refine aJ J (by rw [h4];rfl) (go 10 ?_);refine aC J (fS false J J J (by simp [l8,ht])) (go 5 ?_);exact kR (s':=(bc A B rw P l (k) (b) (0) (ns) (dp))) J cU ⟨J,J⟩
def Y7(A B:List aV)(rw:List aQ)(P:Nat)(l:List Tok)(k b ns dp:Nat)(sg:aI)(hk:k<l.length)(h4:¬l[k].kind=4)(h3:l[k].kind=3)(ht:l[k].text=sg):aT prog 54 [aE P,cK sg] [P] (bc A B rw P l k b 0 ns dp) λt s=>t=au true /\ s=bc A B rw P l k b 0 ns dp:=by
 refine bM 37 func54 ?_;refine go 6 ?_;refine bu [P] (aU [0,1,2,3,4,5,6,7] 4 (go 9 ?_));refine aZ 8 J (bX da da l lN (λ_=>J) (k) J J J J hk V lA lE) (cY [(9,true),(10,false),(11,false)] 0 (go 4 λb1=>?_));refine bC (go 7 ?_);refine aJ J j9 (go 3 ?_);refine aF J GQ (go 3 ?_);refine aJ J (by rw [h3];rfl) (go 6 ?_);refine aC J (fS true J J J (by rw [ht];simp [l8])) (go 5 ?_);exact kR (s':=(bc A B rw P l (k) (b) (0) (ns) (dp))) J cU ⟨J,J⟩
def VK(A B:List aV)(rw:List aQ)(P:Nat)(l:List Tok)(k b ns dp:Nat)(sg:aI)(hk:k<l.length)(h4:¬l[k].kind=4)(h3:l[k].kind=3)(ht:¬l[k].text=sg):aT prog 54 [aE P,cK sg] [P] (bc A B rw P l k b 0 ns dp) λt s=>t=au false /\ s=bc A B rw P l k b 0 ns dp:=by
 refine bM 37 func54 ?_;refine go 6 ?_;refine bu [P] (aU [0,1,2,3,4,5,6,7] 4 (go 9 ?_));refine aZ 8 J (bX da da l lN (λ_=>J) (k) J J J J hk V lA lE) (cY [(9,true),(10,false),(11,false)] 0 (go 4 λb1=>?_));refine bC (go 7 ?_);refine aJ J j9 (go 3 ?_);refine aF J GQ (go 3 ?_);refine aJ J (by rw [h3];rfl) (go 6 ?_);refine aC J (fS false J J J (by simp [l8,ht])) (go 5 ?_);exact kR (s':=(bc A B rw P l (k) (b) (0) (ns) (dp))) J cU ⟨J,J⟩
def R4(A B:List aV)(rw:List aQ)(P:Nat)(l:List Tok)(k b ns dp:Nat)(sg:aI)(hk:k<l.length)(h4:¬l[k].kind=4)(h3:¬l[k].kind=3):aT prog 54 [aE P,cK sg] [P] (bc A B rw P l k b 0 ns dp) λt s=>t=au false /\ s=bc A B rw P l k b 0 ns dp:=by
 refine bM 37 func54 ?_;refine go 6 ?_;refine bu [P] (aU [0,1,2,3,4,5,6,7] 4 (go 9 ?_));refine aZ 8 J (bX da da l lN (λ_=>J) (k) J J J J hk V lA lE) (cY [(9,true),(10,false),(11,false)] 0 (go 4 λb1=>?_));refine bC (go 7 ?_);refine aJ J j9 (go 3 ?_);refine aF J GQ (go 3 ?_);refine aF J (by rw [show ef .eql ((l[k].kind:Nat):Int) 3=some (decide (l[k].kind=3)) from r_ (n:=3),decide_eq_false h3]) (go 12 ?_);exact kR (s':=(bc A B rw P l (k) (b) (0) (ns) (dp))) J cU ⟨J,J⟩
def H9(A B:List aV)(rw:List aQ)(P:Nat)(l:List Tok)(k b e ns dp:Nat)(sg:aI)(hk:k<l.length):aT prog 54 [aE P,cK sg] [P] (bc A B rw P l k b e ns dp) λt s=>t=au (decide (e=0) && lS l k sg) /\ s=bc A B rw P l k b e ns dp:=by
 unfold lS;rw [nS hk];by_cases he:e=0
 ·subst he;by_cases h4:l[k].kind=4
  ·by_cases ht:l[k].text=sg
   ·simpa [h4,ht] using TX A B rw P l k b ns dp sg hk h4 ht
   simpa [h4,ht] using YA A B rw P l k b ns dp sg hk h4 ht
  by_cases h3:l[k].kind=3
  ·by_cases ht:l[k].text=sg
   ·simpa [h3,ht] using Y7 A B rw P l k b ns dp sg hk h4 h3 ht
   simpa [h3,ht] using VK A B rw P l k b ns dp sg hk h4 h3 ht
  simpa [h4,h3] using R4 A B rw P l k b ns dp sg hk h4 h3
 simpa [he] using WO A B rw P l k b ns dp e sg hk he
def Ir(A B:List aV)(rw:List aQ)(P:Nat)(l:List Tok)(k b e ns dp:Nat)(sg:aI)(hok:gb l)(hk:k<l.length):aT prog 56 [aE P,cK sg] [P] (bc A B rw P l k b e ns dp) λt s=>(e=0 /\ lS l k sg=true /\ k+1<l.length /\ t=au true /\ s=bc A B rw P l (k+1) b 0 ns dp)∨(¬(e=0 /\ lS l k sg=true) /\ t=au false /\ s=bc A B rw P l k b e ns dp):=by
 have hlen:=hok.len;refine bM 16 func56 ?_;refine go 10 ?_;refine bE J jN J (H9 (A) _ _ _ l k b e ns dp _ hk) ?_;rintro t1 s1 ⟨rfl,rfl⟩;refine aC J (jK  J J) (go 2 ?_);refine iD J (λhc2=>?_) (λhc2=>?_)
 ·refine go 7 ?_;exact kR (s':=(bc A B rw P l (k) (b) (e) (ns) (dp))) J d3 (.inr ⟨λh=>by simp [h.1,h.2] at hc2,J,J⟩)
 obtain ⟨rfl,ha⟩:e=0 /\ lS l k sg=true:=by simpa using hc2
 have hm:=Uj hok hk ha;refine go 8 ?_;refine bK J (go 11 ?_);exact kR (s':=(bc A B rw P l (k+1) (b) (0) (ns) (dp))) J d3 (.inl ⟨J,ha,hm,J,J⟩)
def nq(A B:List aV)(rw:List aQ)(P:Nat)(l:List Tok)(k b e ns dp:Nat)(sg:List UInt8)(hr:fT (bytes sg)=false)(hok:gb l)(hk:k<l.length):aT prog 56 [aE P,cK (bytes sg)] [P] (bc A B rw P l k b e ns dp) λt s=>(e=0 /\ fZ l k sg=true /\ k+1<l.length /\ t=au true /\ s=bc A B rw P l (k+1) b 0 ns dp)∨((e=0 -> fZ l k sg=false) /\ t=au false /\ s=bc A B rw P l k b e ns dp):=by
 refine (Ir A B rw P l k b e ns dp (bytes sg) hok hk).mono λt s h=>?_;rw [ON hok hk hr] at h;refine h.imp id λ⟨h1,h2⟩=>⟨λh0=>?_,h2⟩;cases hs:fZ l k sg with
 |false=>rfl
 |true=>exact absurd ⟨h0,hs⟩ h1
def eh(A B:List aV)(rw:List aQ)(P:Nat)(l:List Tok)(k b e ns dp:Nat)(sg:List UInt8)(hr:fT (bytes sg)=true)(hok:gb l)(hk:k<l.length):aT prog 56 [aE P,cK (bytes sg)] [P] (bc A B rw P l k b e ns dp) λt s=>(e=0 /\ gM l k sg=true /\ k+1<l.length /\ t=au true /\ s=bc A B rw P l (k+1) b 0 ns dp)∨((e=0 -> gM l k sg=false) /\ t=au false /\ s=bc A B rw P l k b e ns dp):=by
 refine (Ir A B rw P l k b e ns dp (bytes sg) hok hk).mono λt s h=>?_;rw [Qr hok hk hr] at h;refine h.imp id λ⟨h1,h2⟩=>⟨λh0=>?_,h2⟩;cases hs:gM l k sg with
 |false=>rfl
 |true=>exact absurd ⟨h0,hs⟩ h1
def j5(A B:List aV)(rw:List aQ)(P:Nat)(l:List Tok)(k b e ns dp:Nat)(x:Nat):aT prog 55 [aE P,aj (x:Int)] [P] (bc A B rw P l k b e ns dp) λt s=>∃b1 ae,wO e b k x b1 ae /\ t=.fd [] /\ s=bc A B rw P l k b1 ae ns dp:=by
 by_cases he:e=0
 ·subst he;exact (RE A B rw P l k b ns dp x).mono λt s h=>⟨k,x,⟨λ_=>⟨J,J⟩,λh=>absurd J h⟩,h⟩
 exact (Zc A B rw P l k b ns dp x e he).mono λt s h=>⟨b,e,⟨λh=>absurd h he,λ_=>⟨J,J⟩⟩,h⟩
def iF(A B:List aV)(rw:List aQ)(P:Nat)(l:List Tok)(k b e ns dp:Nat)(sg:List UInt8)(hr:fT (bytes sg)=false)(hok:gb l)(hk:k<l.length)(he:e<16):aT prog 85 [aE P,cK (bytes sg)] [P] (bc A B rw P l k b e ns dp) λt s=>ig A B rw P l ns dp (λ_=>.fd []) e b (gJ l sg k) t s:=by
 refine bM 10 func85 ?_;refine go 4 ?_;refine bE J dw J (nq (A) _ _ _ l k b e ns dp sg hr hok hk) ?_;rintro t1 s1 (⟨rfl,ha1,hm1,rfl,rfl⟩|⟨ha1,rfl,rfl⟩)
 ·refine go 5 ?_;exact ⟨.inl J,_,(bc A B rw P l (k+1) (b) (0) (ns) (dp)),fg J,ah (.refl _) (.refl _),⟨(),k+1,b,0,J,.ok _ _ _ (by unfold gJ;rw [if_pos ha1]),hm1,V,J⟩⟩
 refine go 6 ?_;refine bE J jx J (j5 (A) _ _ _ l k b e ns dp 4) ?_;rintro t4 s4 ⟨b4x,e4x,hf4,rfl,rfl⟩;refine go 1 ?_;exact ⟨.inl J,_,(bc A B rw P l (k) (b4x) (e4x) (ns) (dp)),fg J,ah (.refl _) (.refl _),⟨(),k,b4x,e4x,J,hf4.run V (λh=>by unfold gJ;rw [if_neg (by rw [ha1 h];decide)]) _ _,hk,(hf4.small he V),J⟩⟩
def Zb(A B:List aV)(rw:List aQ)(P:Nat)(l:List Tok)(k b ns dp kk e:Nat)(hk:k<l.length)(he0:e≠0):aT prog 53 [aE P,aj (kk:Int)] [P] (bc A B rw P l k b e ns dp) λt s=>t=au false /\ s=bc A B rw P l k b e ns dp:=by
 refine bM 25 func53 ?_;refine go 6 ?_;refine bu [P] (aU [0,1,2,3] 17 (go 5 ?_));refine aZ 4 J (ei false J J J (sf he0)) (aU [5,6,7,8,9,10,11,12,13,14,15,16,17,18,19,20] 0 (go 17 ?_));refine bC (go 2 ?_);exact kR (s':=(bc A B rw P l (k) (b) (e) (ns) (dp))) J d3 ⟨J,J⟩
def Re(A B:List aV)(rw:List aQ)(P:Nat)(l:List Tok)(k b ns dp kk:Nat)(hk:k<l.length):aT prog 53 [aE P,aj (kk:Int)] [P] (bc A B rw P l k b 0 ns dp) λt s=>t=au (decide (l[k].kind=kk)) /\ s=bc A B rw P l k b 0 ns dp:=by
 refine bM 25 func53 ?_;refine go 6 ?_;refine bu [P] (aU [0,1,2,3] 17 (go 5 ?_));refine aZ 4 J (ei true J J J j9) (aU [5,6,7,8,9,10,11,12,13] 7 (go 10 ?_));refine aZ 14 J (bX da da l lN (λ_=>J) (k) J J J J hk V lA lE) (aU [15,16,17] 3 (go 4 ?_));refine aZ 18 J (ei (decide (l[k].kind=kk)) J J J r_) (aU [19,20] 0 (go 3 ?_));refine bC (go 2 ?_);exact kR (s':=(bc A B rw P l (k) (b) (0) (ns) (dp))) J d3 ⟨J,J⟩
def Ou(A B:List aV)(rw:List aQ)(P:Nat)(l:List Tok)(k b e ns dp:Nat)(kk:Nat)(hk:k<l.length):aT prog 53 [aE P,aj (kk:Int)] [P] (bc A B rw P l k b e ns dp) λt s=>t=au (decide (e=0) && decide ((dn l k).kind=kk)) /\ s=bc A B rw P l k b e ns dp:=by
 rw [nS hk];by_cases he:e=0
 ·subst he;simpa using Re A B rw P l k b ns dp kk hk
 simpa [he] using Zb A B rw P l k b ns dp kk e hk he
def mi(A B:List aV)(rw:List aQ)(P:Nat)(l:List Tok)(k b e ns dp:Nat)(hok:gb l)(hk:k<l.length)(he:e<16):aT prog 59 [aE P] [P] (bc A B rw P l k b e ns dp) λt s=>ig A B rw P l ns dp (λx=>cK x) e b (lq l k) t s:=by
 have hlen:=hok.len;refine bM 27 func59 ?_;refine go 9 ?_;refine bE J qZ J (Ou (A) _ _ _ l k b e ns dp 1 hk) ?_;rintro t1 s1 ⟨rfl,rfl⟩;refine aC J (jK  J J) (go 2 ?_);refine iD J (λhc2=>?_) (λhc2=>?_)
 ·refine go 3 ?_;refine bE J jx J (j5 (A) _ _ _ l k b e ns dp 4) ?_;rintro t3 s3 ⟨b3x,e3x,hf3,rfl,rfl⟩;refine go 9 ?_;exact kR (s':=(bc A B rw P l (k) (b3x) (e3x) (ns) (dp))) J d3 ⟨ay,k,b3x,e3x,J,hf3.run V (λh=>by unfold lq;rw [if_neg (λh2=>by simp [h,h2] at hc2)]) _ _,hk,(hf3.small he V),J⟩
 obtain ⟨rfl,ha⟩:e=0 /\ (dn l k).kind=1:=by simpa using hc2
 have hm:=hok.last.more hk Y;refine go 8 ?_;refine bK J (go 6 ?_);refine bu [P] (aU [0,1,2,3,4,5,6,7] 5 (go 9 ?_));refine aZ 8 J (kM) ?_;refine aZ 9 J (bX da da l lN (λ_=>J) k J J J Y hk V lA lE) (aU [10,11,12] 0 (go 4 ?_));refine bC (go 2 ?_);exact kR (s':=(bc A B rw P l (k+1) (b) (0) (ns) (dp))) J d3 ⟨_,k+1,b,0,J,.ok _ _ _ (by unfold lq;rw [if_pos ha,nS hk]),hm,V,J⟩
def oS(A B:List aV)(rw:List aQ)(P:Nat)(l:List Tok)(k b e ns dp:Nat)(sg:List UInt8)(hr:fT (bytes sg)=false)(hok:gb l)(hk:k<l.length):aT prog 54 [aE P,cK (bytes sg)] [P] (bc A B rw P l k b e ns dp) λt s=>(e=0 /\ fZ l k sg=true /\ t=au true /\ s=bc A B rw P l k b e ns dp)∨((e=0 -> fZ l k sg=false) /\ t=au false /\ s=bc A B rw P l k b e ns dp):=by
 refine (H9 A B rw P l k b e ns dp (bytes sg) hk).mono λt s h=>?_;rw [ON hok hk hr] at h;by_cases he:e=0
 ·cases hs:fZ l k sg with
  |true=>exact .inl ⟨he,rfl,DG,h.2⟩
  |false=>exact .inr ⟨λ_=>rfl,DG,h.2⟩
 ·exact .inr ⟨λh0=>absurd h0 he,IG,h.2⟩
def qo(A B:List aV)(rw:List aQ)(P:Nat)(l:List Tok)(k b e ns dp:Nat)(sg:List UInt8)(hr:fT (bytes sg)=true)(hok:gb l)(hk:k<l.length):aT prog 54 [aE P,cK (bytes sg)] [P] (bc A B rw P l k b e ns dp) λt s=>(e=0 /\ gM l k sg=true /\ t=au true /\ s=bc A B rw P l k b e ns dp)∨((e=0 -> gM l k sg=false) /\ t=au false /\ s=bc A B rw P l k b e ns dp):=by
 refine (H9 A B rw P l k b e ns dp (bytes sg) hk).mono λt s h=>?_;rw [Qr hok hk hr] at h;by_cases he:e=0
 ·cases hs:gM l k sg with
  |true=>exact .inl ⟨he,rfl,DG,h.2⟩
  |false=>exact .inr ⟨λ_=>rfl,DG,h.2⟩
 ·exact .inr ⟨λh0=>absurd h0 he,IG,h.2⟩
def sJ(A B:List aV)(rw:List aQ)(P:Nat)(l:List Tok)(k b e ns dp:Nat)(kk:Nat)(hk:k<l.length):aT prog 53 [aE P,aj (kk:Int)] [P] (bc A B rw P l k b e ns dp) λt s=>(e=0 /\ (dn l k).kind=kk /\ t=au true /\ s=bc A B rw P l k b e ns dp)∨((e=0 -> (dn l k).kind≠kk) /\ t=au false /\ s=bc A B rw P l k b e ns dp):=by
 refine (Ou A B rw P l k b e ns dp kk hk).mono λt s h=>?_;by_cases he:e=0
 ·by_cases hq:(dn l k).kind=kk
  ·exact .inl ⟨he,hq,by rw [h.1,decide_eq_true hq,he];rfl,h.2⟩
  exact .inr ⟨λ_=>hq,by rw [h.1,decide_eq_false hq,he];rfl,h.2⟩
 exact .inr ⟨λh0=>absurd h0 he,IG,h.2⟩
def MI(op:Int)(r:cJ aS):DX op r=r.bind λx k=>.ok (.mk op 0 ay [x]) k:=by cases r<;>rfl
def ZB(l:List Tok)(r:cJ aS):Eh l r=r.bind λx k=>(gJ l [41] k).bind λ_ k=>.ok x k:=by
 cases r with
 |ok x k=>show (if fZ l k [41]=true then _ else _)=_;unfold cJ.bind gJ;dsimp only;split<;>rfl
 |err a e=>rfl
def Fa(A B:List aV)(rw:List aQ)(P:Nat)(l:List Tok)(k b e ns dp:Nat)(hns:¬ns=24)(hn2:ns <= 24):aT prog 148 [aE P] [P] (bc A B rw P l k b e ns dp) λt s=>t=.fd [] /\ s=bc A B rw P l k b e (ns+1) dp:=by
 refine bM 16 func148 ?_;refine go 7 ?_;refine aF J (by rw [show ef .eql (ns:Int) 24=some (decide (ns=24)) from r_ (n:=24),decide_eq_false hns]) (go 10 ?_);refine bK J (go 4 ?_);exact ⟨.inl J,_,(bc A B rw P l (k) (b) (e) (ns+1) (dp)),fg J,ah (.refl _) (.refl _),J,J⟩
def Ii(A B:List aV)(rw:List aQ)(P:Nat)(l:List Tok)(k b e dp:Nat):aT prog 148 [aE P] [P] (bc A B rw P l k b e 24 dp) λt s=>∃b1 ae,wO e b k 3 b1 ae /\ t=.fd [] /\ s=bc A B rw P l k b1 ae 25 dp:=by
 refine bM 16 func148 ?_;refine go 7 ?_;refine aJ J j9 (go 5 ?_);refine bE J jx J (j5 (A) _ _ _ l k b e 24 dp 3) ?_;rintro cC s2 ⟨u2,e2,hf2,rfl,rfl⟩;refine go 7 ?_;refine bK J (go 4 ?_);exact ⟨.inl J,_,(bc A B rw P l (k) (u2) (e2) (25) (dp)),fg J,ah (.refl _) (.refl _),⟨u2,e2,hf2,J,J⟩⟩
def Rm(A B:List aV)(rw:List aQ)(P:Nat)(l:List Tok)(k b e dp:Nat)(hok:gb l)(hk:k<l.length)(he:e<16):aT prog 130 [aE P] [P] (bc A B rw P l k b e 24 dp) λt s=>ig A B rw P l 24 dp (λx=>.agg (bf x)) e b (fA l 0 k) t s:=by
 have hlen:=hok.len;refine bM 100 func130 ?_;refine go 17 λb1 b2=>?_;refine bE J qZ J (sJ (_::_::A) _ _ _ l k b e 24 dp 2 hk) ?_;rintro t1 s1 (⟨rfl,ha1,rfl,rfl⟩|⟨ha1,rfl,rfl⟩)
 ·refine go 5 ?_;refine bu [b1,P] (aU [0,1,2,3,4,5,6,7] 5 (go 9 ?_));refine aZ 8 J (bX da da l lN (λ_=>J) (k) J J J J hk V lA lE) (cY [(9,true),(10,true),(11,true),(12,false)] 0 (go 5 ?_));refine bC (go 6 ?_);refine bK J (go 13 ?_);have hm:=hok.last.more hk (by rw [ha1];decide);exact ⟨.inr J,_,(bc A B rw P l (k+1) (b) (0) (24) (dp)),(gK (bI.agg (.r (.r (.r (.n .nil))))) (bJ J (bv [_] J J gE dl (cG J J)))),ah c_ (.refl _),⟨(.mk 1 (l[k].num:Int) ay []),k+1,b,0,J,.ok _ _ _ (by unfold fA;rw [if_pos ha1,nS hk]),hm,V,J⟩⟩
 refine go 7 ?_;refine bE J qZ J (sJ (_::_::A) _ _ _ l k b e 24 dp 1 hk) ?_;rintro t4 s4 (⟨rfl,DE,rfl,rfl⟩|⟨DE,rfl,rfl⟩)
 ·refine go 6 ?_;refine bE J mb J (mi (_::_::A) _ _ _ l k b 0 24 dp hok hk V) ?_;rintro t6 s6 ⟨x6,k6,u6,e6,rfl,hr6,hk6,he6,rfl⟩;refine go 12 ?_;exact ⟨.inr J,_,(bc A B rw P l (k6) (u6) (e6) (24) (dp)),(gK (bI.agg (.r (.r (.r (.n .nil))))) (bJ J (bv [_] J J gE dl (cG J J)))),ah c_ (.refl _),⟨(.mk 2 0 x6 []),k6,u6,e6,J,(hr6.map (f:=λn=>aS.mk 2 0 n [])).eq LM,hk6,he6,J⟩⟩
 refine go 7 ?_;refine bE J jN J (oS (_::_::A) _ _ _ l k b e 24 dp [45] V hok hk) ?_;rintro t8 s8 (⟨rfl,L7,rfl,rfl⟩|⟨L7,rfl,rfl⟩)
 ·refine go 18 ?_;refine bE J jN J (oS (_::_::A) _ _ _ l k b 0 24 dp [45] V hok hk) ?_;rintro t10 s10 (⟨-,DA,rfl,rfl⟩|⟨DA,rfl,rfl⟩)
  ·refine go 11 ?_;refine bE J call148 J (Ii (_::_::A) _ _ _ l k b 0 dp) ?_;rintro t12 s12 ⟨u12,e12,aMc,rfl,rfl⟩;obtain ⟨rfl,rfl⟩:=aMc.1 rfl;refine go 9 ?_;refine aF J J (go 10 ?_);refine aC J (jz (hr:=J) ((24:Nat):Int)) (go 13 ?_);exact ⟨.inr J,_,(bc A B rw P l (k) (k) (3) (24) (dp)),(gK (bI.agg (.r (.r (.r (.n .nil))))) (bJ J (bv [_] J J gE dl (cG J J)))),ah c_ (.refl _),⟨(.mk 3 0 ay []),k,k,3,J,.err _ _ _ _ _ (by unfold fA;rw [if_neg (ha1 rfl),if_neg (DE rfl),if_pos (by simp [L7])]) V,hk,V,J⟩⟩
  exact absurd (DA J) (by rw [L7];decide)
 refine go 2 ?_;refine bE J jN J (oS (_::_::A) _ _ _ l k b e 24 dp [33] V hok hk) ?_;rintro t14 s14 (⟨rfl,OF,rfl,rfl⟩|⟨OF,rfl,rfl⟩)
 ·refine go 15 ?_;refine bE J jN J (oS (_::_::A) _ _ _ l k b 0 24 dp [45] V hok hk) ?_;rintro t16 s16 (⟨-,ha16,rfl,rfl⟩|⟨ha16,rfl,rfl⟩)
  ·exact absurd ha16 (by rw [(L7 rfl)];decide)
  refine go 8 ?_;refine bE J call148 J (Ii (_::_::A) _ _ _ l k b 0 dp) ?_;rintro t18 s18 ⟨u18,e18,aMd,rfl,rfl⟩;obtain ⟨rfl,rfl⟩:=aMd.1 rfl;refine go 9 ?_;refine aF J J (go 10 ?_);refine aC J (jz (hr:=J) ((24:Nat):Int)) (go 13 ?_);exact ⟨.inr J,_,(bc A B rw P l (k) (k) (3) (24) (dp)),(gK (bI.agg (.r (.r (.r (.n .nil))))) (bJ J (bv [_] J J gE dl (cG J J)))),ah c_ (.refl _),⟨(.mk 4 0 ay []),k,k,3,J,.err _ _ _ _ _ (by unfold fA;rw [if_neg (ha1 rfl),if_neg (DE rfl),if_pos (by simp [OF])]) V,hk,V,J⟩⟩
 refine go 8 ?_;refine bE J jN J (oS (_::_::A) _ _ _ l k b e 24 dp [40] V hok hk) ?_;rintro t21 s21 (⟨rfl,aMe,rfl,rfl⟩|⟨aMe,rfl,rfl⟩)
 ·refine go 7 ?_;refine bE J call148 J (Ii (_::_::A) _ _ _ l k b 0 dp) ?_;rintro t23 s23 ⟨u23,e23,aRs,rfl,rfl⟩;obtain ⟨rfl,rfl⟩:=aRs.1 rfl;refine go 9 ?_;refine aF J J (go 10 ?_);refine aC J (jz (hr:=J) ((24:Nat):Int)) (go 13 ?_);exact ⟨.inr J,_,(bc A B rw P l (k) (k) (3) (24) (dp)),(gK (bI.agg (.r (.r (.r (.n .nil))))) (bJ J (bv [_] J J gE dl (cG J J)))),ah c_ (.refl _),⟨aS.zero,k,k,3,J,.err _ _ _ _ _ (by unfold fA;rw [if_neg (ha1 rfl),if_neg (DE rfl),if_pos (by simp [aMe])]) V,hk,V,J⟩⟩
 refine go 6 ?_;refine bE J jx J (j5 (_::_::A) _ _ _ l k b e 24 dp 4) ?_;rintro t26 s26 ⟨u26,e26,aOl,rfl,rfl⟩;refine go 10 ?_;exact ⟨.inr J,_,(bc A B rw P l (k) (u26) (e26) (24) (dp)),(gK (bI.agg (.r (.r (.r (.n .nil))))) (bJ J (bv [_] J J gE dl (cG J J)))),ah c_ (.refl _),⟨aS.zero,k,u26,e26,J,aOl.run V (λh=>by unfold fA;rw [if_neg (ha1 h),if_neg (DE h),if_neg (by rw [L7 h,OF h,aMe h];decide)]) _ _,hk,(aOl.small he V),J⟩⟩
def RH(A B:List aV)(rw:List aQ)(P:Nat)(l:List Tok)(k b e ns dp:Nat)(d:Nat)(hns:ns+(d+1)=24)(hok:gb l)(hk:k<l.length)(he:e<16)(iho:∀(A B:List aV)(rw:List aQ)(P k b e ns dp:Nat),ns+d=24 -> k<l.length -> e<16 -> aT prog 130 [aE P] [P] (bc A B rw P l k b e ns dp) (ig A B rw P l ns dp (λx=>.agg (bf x)) e b (fA l d k)))(ihb:∀(A B:List aV)(rw:List aQ)(P k b e ns dp:Nat),ns+d=24 -> k<l.length -> e<16 -> aT prog 108 [aE P,aj 0] [P] (bc A B rw P l k b e ns dp) (ig A B rw P l ns dp (λx=>.agg (bf x)) e b (iW l (fA l d) 5 k))):aT prog 130 [aE P] [P] (bc A B rw P l k b e ns dp) λt s=>ig A B rw P l ns dp (λx=>.agg (bf x)) e b (fA l (d+1) k) t s:=by
 have hlen:=hok.len;refine bM 100 func130 ?_;refine go 17 λb1 b2=>?_;refine bE J qZ J (sJ (_::_::A) _ _ _ l k b e ns dp 2 hk) ?_;rintro t1 s1 (⟨rfl,ha1,rfl,rfl⟩|⟨ha1,rfl,rfl⟩)
 ·refine go 5 ?_;refine bu [b1,P] (aU [0,1,2,3,4,5,6,7] 5 (go 9 ?_));refine aZ 8 J (bX da da l lN (λ_=>J) (k) J J J J hk V lA lE) (cY [(9,true),(10,true),(11,true),(12,false)] 0 (go 5 ?_));refine bC (go 6 ?_);refine bK J (go 13 ?_);have hm:=hok.last.more hk (by rw [ha1];decide);exact ⟨.inr J,_,(bc A B rw P l (k+1) (b) (0) (ns) (dp)),(gK (bI.agg (.r (.r (.r (.n .nil))))) (bJ J (bv [_] J J gE dl (cG J J)))),ah c_ (.refl _),⟨(.mk 1 (l[k].num:Int) ay []),k+1,b,0,J,.ok _ _ _ (by unfold fA;rw [if_pos ha1,nS hk]),hm,V,J⟩⟩
 refine go 7 ?_;refine bE J qZ J (sJ (_::_::A) _ _ _ l k b e ns dp 1 hk) ?_;rintro t4 s4 (⟨rfl,DE,rfl,rfl⟩|⟨DE,rfl,rfl⟩)
 ·refine go 6 ?_;refine bE J mb J (mi (_::_::A) _ _ _ l k b 0 ns dp hok hk V) ?_;rintro t6 s6 ⟨x6,k6,u6,e6,rfl,hr6,hk6,he6,rfl⟩;refine go 12 ?_;exact ⟨.inr J,_,(bc A B rw P l (k6) (u6) (e6) (ns) (dp)),(gK (bI.agg (.r (.r (.r (.n .nil))))) (bJ J (bv [_] J J gE dl (cG J J)))),ah c_ (.refl _),⟨(.mk 2 0 x6 []),k6,u6,e6,J,(hr6.map (f:=λn=>aS.mk 2 0 n [])).eq LM,hk6,he6,J⟩⟩
 refine go 7 ?_;refine bE J jN J (oS (_::_::A) _ _ _ l k b e ns dp [45] V hok hk) ?_;rintro t8 s8 (⟨rfl,L7,rfl,rfl⟩|⟨L7,rfl,rfl⟩)
 ·refine go 18 ?_;refine bE J jN J (oS (_::_::A) _ _ _ l k b 0 ns dp [45] V hok hk) ?_;rintro t10 s10 (⟨-,DA,rfl,rfl⟩|⟨DA,rfl,rfl⟩)
  ·refine go 11 ?_;refine bE J call148 J (Fa (_::_::A) _ _ _ l k b 0 ns dp Y Y) ?_;rintro t12 s12 ⟨rfl,rfl⟩;refine go 9 ?_;refine aJ J jL (go 5 ?_);have hm:=pL hok.last hk DA;refine go 4 ?_;refine bK J (go 7 ?_);refine bE J call130 J (iho (_::_::A) _ _ _ (k+1) b 0 (ns+1) dp Y hm V) ?_;rintro t14 s14 ⟨x14,k14,u14,e14,rfl,aMg,aMh,aMi,rfl⟩;refine aW J (bU (hf:=dd bV bf x14 (fR _) J J) o' ?_);refine go 9 ?_;refine aC J (jz (ns:Int)) (go 13 ?_);exact ⟨.inr J,_,(bc A B rw P l (k14) (u14) (e14) (ns) (dp)),(bJ J (bv [_] J J gE dl (cG J J))),ah c_ (.refl _),⟨(.mk 3 0 ay [x14]),k14,u14,e14,J,(aMg.map (f:=λx=>aS.mk 3 0 ay [x])).eq (λ_=>by rw [fA.eq_2,if_neg (ha1 rfl),if_neg (DE rfl),if_pos L7,MI]),aMh,aMi,J⟩⟩
  exact absurd (DA J) (by rw [L7];decide)
 refine go 2 ?_;refine bE J jN J (oS (_::_::A) _ _ _ l k b e ns dp [33] V hok hk) ?_;rintro t15 s15 (⟨rfl,aIo,rfl,rfl⟩|⟨aIo,rfl,rfl⟩)
 ·refine go 15 ?_;refine bE J jN J (oS (_::_::A) _ _ _ l k b 0 ns dp [45] V hok hk) ?_;rintro t17 s17 (⟨-,aHs,rfl,rfl⟩|⟨aHs,rfl,rfl⟩)
  ·exact absurd aHs (by rw [(L7 rfl)];decide)
  refine go 8 ?_;refine bE J call148 J (Fa (_::_::A) _ _ _ l k b 0 ns dp Y Y) ?_;rintro t19 s19 ⟨rfl,rfl⟩;refine go 9 ?_;refine aJ J jL (go 5 ?_);have hm:=pL hok.last hk aIo;refine go 4 ?_;refine bK J (go 7 ?_);refine bE J call130 J (iho (_::_::A) _ _ _ (k+1) b 0 (ns+1) dp Y hm V) ?_;rintro t21 s21 ⟨x21,k21,u21,e21,rfl,aMj,aMk,aMl,rfl⟩;refine aW J (bU (hf:=dd bV bf x21 (fR _) J J) o' ?_);refine go 9 ?_;refine aC J (jz (ns:Int)) (go 13 ?_);exact ⟨.inr J,_,(bc A B rw P l (k21) (u21) (e21) (ns) (dp)),(bJ J (bv [_] J J gE dl (cG J J))),ah c_ (.refl _),⟨(.mk 4 0 ay [x21]),k21,u21,e21,J,(aMj.map (f:=λx=>aS.mk 4 0 ay [x])).eq (λ_=>by rw [fA.eq_2,if_neg (ha1 rfl),if_neg (DE rfl),if_neg (by rw [aHs rfl];decide),if_pos aIo,MI]),aMk,aMl,J⟩⟩
 refine go 8 ?_;refine bE J jN J (oS (_::_::A) _ _ _ l k b e ns dp [40] V hok hk) ?_;rintro t23 s23 (⟨rfl,aH5,rfl,rfl⟩|⟨aH5,rfl,rfl⟩)
 ·refine go 7 ?_;refine bE J call148 J (Fa (_::_::A) _ _ _ l k b 0 ns dp Y Y) ?_;rintro t25 s25 ⟨rfl,rfl⟩;refine go 9 ?_;refine aJ J jL (go 5 ?_);have hm:=pL hok.last hk aH5;refine go 4 ?_;refine bK J (go 8 ?_);refine bE J qR J (ihb (_::_::A) _ _ _ (k+1) b 0 (ns+1) dp Y hm V) ?_;rintro t27 s27 ⟨x27,k27,u27,e27,rfl,LT,aH6,aIp,rfl⟩;refine go 5 ?_;refine bE J iL J (iF (_::_::A) _ _ _ l k27 u27 e27 (ns+1) dp [41] V hok aH6 aIp) ?_;rintro t28 s28 ⟨x28,k28,u28,e28,rfl,aMm,aRx,aRy,rfl⟩;refine go 7 ?_;refine aC J (jz (ns:Int)) (go 13 ?_);exact ⟨.inr J,_,(bc A B rw P l (k28) (u28) (e28) (ns) (dp)),(bJ J (bv [_] J J gE dl (cG J J))),ah c_ (.refl _),⟨x27,k28,u28,e28,J,(LT.bind (f:=λx k=>(gJ l [41] k).bind λ_ k=>.ok x k) (aMm.map (f:=λ_=>x27))).eq (λ_=>by rw [fA.eq_2,if_neg (ha1 rfl),if_neg (DE rfl),if_neg yh,if_neg (by rw [aIo rfl];decide),if_pos aH5,ZB]),aRx,aRy,J⟩⟩
 refine go 6 ?_;refine bE J jx J (j5 (_::_::A) _ _ _ l k b e ns dp 4) ?_;rintro t30 s30 ⟨u30,e30,aOn,rfl,rfl⟩;refine go 10 ?_;exact ⟨.inr J,_,(bc A B rw P l (k) (u30) (e30) (ns) (dp)),(gK (bI.agg (.r (.r (.r (.n .nil))))) (bJ J (bv [_] J J gE dl (cG J J)))),ah c_ (.refl _),⟨aS.zero,k,u30,e30,J,aOn.run V (λh=>by unfold fA;rw [if_neg (ha1 h),if_neg (DE h),if_neg (by rw [L7 h];decide),if_neg (by rw [aIo h];decide),if_neg (by rw [aH5 h];decide)]) _ _,hk,(aOn.small he V),J⟩⟩
def Xd{l:List Tok}(h:gb l){k lv j:Nat}(hk:k<l.length)(hlv:lv<5)(hj:j<(eT lv).length)(ha:lS l k (eT lv)[j]=true):(dn l k).kind=4 /\ (binOp (dn l k).text).2=lv+1 /\ ∀h':j<(d8 lv).length,((binOp (dn l k).text).1:Int)=(d8 lv)[j]:=by
 unfold lS at ha;simp only [dm,nP,decide_eq_true_eq] at ha;obtain ⟨h1,h2⟩:=ha;have h4:(dn l k).kind=4:=by
  rcases h1 with h1|h1
  ·exact h1
  have:=(h.reg _ (getElem_mem hk)).1 (by rw [←nS hk];exact h1);rw [←nS hk,h2,TY lv hlv j hj] at this;cases this
 rw [h2];have hO:j<(d8 lv).length:=by rw [(Gl lv).1];exact hj
 exact ⟨h4,(Qn lv hlv j hj hO).2,λh'=>(Qn lv hlv j hj h').1⟩
def RD{l:List Tok}{k lv:Nat}(hlv:lv<5)(h:∀j (hj:j<(eT lv).length),lS l k (eT lv)[j]=false):¬((dn l k).kind=4 /\ (binOp (dn l k).text).2=lv+1):=by
 rintro ⟨h1,h2⟩;obtain ⟨j,hj,he⟩:=mT (ZC lv hlv _ h2);have:=h j hj;unfold lS at this;rw [he] at this;simp [h1] at this
def K4(l:List Tok)(sub:Nat -> cJ aS)(lv bp b0 k0:Nat)(x:aS)(k b e n:Nat):Prop:=
 (e=0 -> l.length<n+k) /\ ∀z k' b' e',bj e b (jt l sub (lv+1) n x k) z k' b' e' -> bj bp b0 ((sub k0).bind λx k=>jt l sub (lv+1) (l.length+1) x k) z k' b' e'
def YZ(A B:List aV)(rw:List aQ)(P:Nat)(l:List Tok)(k b e ns dp:Nat)(sub:Nat -> cJ aS)(hok:gb l)(hk:k<l.length)(he:e<16)(iho:∀(A B:List aV)(rw:List aQ)(P k b e:Nat),k<l.length -> e<16 -> aT prog 130 [aE P] [P] (bc A B rw P l k b e ns dp) (ig A B rw P l ns dp (λx=>.agg (bf x)) e b (sub k))):aT prog 108 [aE P,aj 5] [P] (bc A B rw P l k b e ns dp) λt s=>ig A B rw P l ns dp (λx=>.agg (bf x)) e b (sub k) t s:=by
 have hlen:=hok.len;refine bM 52 func108 ?_;refine go 9 λb1=>?_;refine aJ J J (go 6 ?_);refine bE J call130 J (iho (_::A) _ _ _ k b e hk he) ?_;rintro cC s2 ⟨x2,k2,u2,e2,rfl,hr2,hk2,he2,rfl⟩;refine go 5 ?_;exact ⟨.inr J,_,(bc A B rw P l (k2) (u2) (e2) (ns) (dp)),(bJ J (bv [] J J gE dl (cG J J))),ah bG (.refl _),⟨x2,k2,u2,e2,J,hr2,hk2,he2,J⟩⟩
def ZW(A B:List aV)(rw:List aQ)(P:Nat)(l:List Tok)(k b e ns dp:Nat)(lv:Nat)(sub:Nat -> cJ aS)(hlv:lv<5)(hin:∀k,k<l.length -> (sub k).In l k)(hok:gb l)(hk:k<l.length)(he:e<16)(ihb:∀(A B:List aV)(rw:List aQ)(P k b e:Nat),k<l.length -> e<16 -> aT prog 108 [aE P,aj ((lv:Nat)+1:Int)] [P] (bc A B rw P l k b e ns dp) (ig A B rw P l ns dp (λx=>.agg (bf x)) e b (sub k))):aT prog 108 [aE P,aj (lv:Int)] [P] (bc A B rw P l k b e ns dp) λt s=>ig A B rw P l ns dp (λx=>.agg (bf x)) e b ((sub k).bind λx k=>jt l sub (lv+1) (l.length+1) x k) t s:=by
 have hlen:=hok.len;refine bM 52 func108 ?_;refine go 9 λb1=>?_;refine aF J yC (go 9 ?_);refine bK J ?_;refine bE J qR J (ihb (_::A) _ _ _ k b e hk he) ?_;rintro cC s2 ⟨x2,k2,u2,e2,rfl,hr2,hk2,he2,rfl⟩;refine go 7 λb2=>?_;refine aW J (bo [] J J V call129 J (MD lv hlv _) dX dX (λ_=>dX) ?_);rintro t3 s3 ⟨rfl,rfl⟩;refine go 14 ?_;refine fv (λg:Bool×aS×Nat×Nat×Nat=>(⟨52,[b2,b1,P],⟨⟨b2,94,bf (g.2.1)⟩::⟨b1,94,[.val (.int .i64 0),.val (.int .i64 0),.val (.string ⟨#[]⟩),.val (.slice none 0 0)]⟩::(A++⟨P,141,[.sl l.length (l.flatMap da),.val (.int .i64 (((g.2.2.1):Nat):Int)),.val (.int .i64 (((g.2.2.2.1):Nat):Int)),.val (.int .i64 (((g.2.2.2.2):Nat):Int)),am ns,am dp]⟩::B),rw⟩,[(8,.c (.val (.bool g.1))),(0,aE P),(1,ab lv),(4,aE b1),(5,aE b2),(6,.c (nA (eT lv))),(7,.c (nO (d8 lv)))]⟩:AS)) (λg=>g.2.2.1<l.length /\ g.2.2.2.2<16 /\ (g.1=true -> ∃n,K4 l sub lv e b k g.2.1 g.2.2.1 g.2.2.2.1 g.2.2.2.2 n) /\ (g.1=false -> bj e b ((sub k).bind λx k=>jt l sub (lv+1) (l.length+1) x k) g.2.1 g.2.2.1 g.2.2.2.1 g.2.2.2.2)) (λg=>if g.1 then (if g.2.2.2.2=0 then l.length-g.2.2.1+2 else 1) else 0) (true,x2,k2,u2,e2) (az (λ_ h=>h)) ⟨hk2,he2,λ_=>⟨l.length+1,λ_=>Y,λz k' b' e' h=>hr2.bind h⟩,(λh=>nomatch h)⟩ ?_;rintro ⟨ag0,x0,k0,b0,bp⟩ ⟨hk0,he0,hc0,hd0⟩;dsimp only at hk0 he0 hc0 hd0;show bi prog _ (⟨52,[b2,b1,P],⟨⟨b2,94,bf (x0)⟩::⟨b1,94,[aA 0,aA 0,ac ⟨#[]⟩,aK]⟩::(A++⟨P,141,[aG da l,aA (((k0):Nat):Int),aA (((b0):Nat):Int),aA (((bp):Nat):Int),am ns,am dp]⟩::B),rw⟩,[(8,au ag0),(0,aE P),(1,ab lv),(4,aE b1),(5,aE b2),(6,.c (nA (eT lv))),(7,.c (nO (d8 lv)))]⟩:AS) _;cases ag0
 ·refine go 19 ?_;exact ⟨.inr J,_,(bc A B rw P l (k0) (b0) (bp) (ns) (dp)),(bJ J (bv [_] J J gE dl (cG J J))),ah c_ (.refl _),⟨x0,k0,b0,bp,J,hd0 J,hk0,he0,J⟩⟩
 refine go 21 ?_;obtain ⟨n0,hn0,hcont⟩:=hc0 rfl;refine fv (λg:Nat×Bool×aS×Nat×Nat×Nat=>(⟨52,[b2,b1,P],⟨⟨b2,94,bf (g.2.2.1)⟩::⟨b1,94,[.val (.int .i64 0),.val (.int .i64 0),.val (.string ⟨#[]⟩),.val (.slice none 0 0)]⟩::(A++⟨P,141,[.sl l.length (l.flatMap da),.val (.int .i64 (((g.2.2.2.1):Nat):Int)),.val (.int .i64 (((g.2.2.2.2.1):Nat):Int)),.val (.int .i64 (((g.2.2.2.2.2):Nat):Int)),am ns,am dp]⟩::B),rw⟩,[(9,ab (g.1)),(8,.c (.val (.bool g.2.1))),(0,aE P),(1,ab lv),(4,aE b1),(5,aE b2),(6,.c (nA (eT lv))),(7,.c (nO (d8 lv)))]⟩:AS)) (λg=>g.1 <= (eT lv).length /\ (g.2.1=false -> g.2.2=(x0,k0,b0,bp) /\ (bp=0 -> ∀j (hj:j<(eT lv).length),j<g.1 -> lS l k0 (eT lv)[j]=false)) /\ (g.2.1=true -> bp=0 /\ g.2.2.2.1<l.length /\ g.2.2.2.2.2<16 /\ (g.2.2.2.2.2=0 -> k0<g.2.2.2.1) /\ ∃n,K4 l sub lv e b k g.2.2.1 g.2.2.2.1 g.2.2.2.2.1 g.2.2.2.2.2 n)) (λg=>(eT lv).length-g.1) (0,false,x0,k0,b0,bp) (az (λ_ h=>h)) ⟨eL _,λ_=>⟨J,λ_ j _ h=>Y⟩,(λh=>nomatch h)⟩ ?_;rintro ⟨i,ag,x1,k1,b1',ae⟩ ⟨hi0,hf0,ht0⟩;dsimp only at hi0 hf0 ht0;have hsl:=Gl lv;cases ag
 ·by_cases hlt:i<(eT lv).length
  ·obtain ⟨hq,hno⟩:=hf0 rfl;obtain ⟨rfl,rfl,rfl,rfl⟩:x1=x0 /\ k1=k0 /\ b1'=b0 /\ ae=bp:=by simpa using hq
   clear hq hf0 ht0;show bi prog _ (⟨52,[b2,b1,P],⟨⟨b2,94,bf (x1)⟩::⟨b1,94,[aA 0,aA 0,ac ⟨#[]⟩,aK]⟩::(A++⟨P,141,[aG da l,aA (((k1):Nat):Int),aA (((b1'):Nat):Int),aA (((ae):Nat):Int),am ns,am dp]⟩::B),rw⟩,[(9,ab (i)),(8,au false),(0,aE P),(1,ab lv),(4,aE b1),(5,aE b2),(6,.c (nA (eT lv))),(7,.c (nO (d8 lv)))]⟩:AS) _;refine go 6 ?_;refine aJ J (by simp [ef,hlt]) (go 16 ?_);refine aC J (m0 (λs=>ac s) (eT lv) i J J J J hlt kj iG) (go 1 ?_);refine bE J dw J (Ir (_::_::A) _ _ _ l k1 b1' ae ns dp (eT lv)[i] hok hk0) ?_;rintro t7 s7 (⟨rfl,ha,hm,rfl,rfl⟩|⟨aRz,rfl,rfl⟩)
   ·refine go 3 ?_;refine bu [b1] (aU [0,1] 11 (go 3 ?_));refine aZ 2 J (m0 (λn=>aA n) (d8 lv) i J J J J Y yJ lK) (aU [3,5,6] 7 (go 4 ?_));refine aZ 7 J (ua J J J Y Y) ?_;refine cC 4 8 J ?_ ?_;focus
     refine dR J V (cW [] gE dl) ?_;refine aY 8 J J (bo [P] J J V qR J (ihb (_::_::A) _ _ _ ((k1+1)) b1' 0 hm V) de dc Oz ?_);rintro t9 s9 ⟨x10,k10,u10,e10,rfl,CT,hk10,aKl,rfl⟩
    rotate_left;refine (bo [P] J J V qR J (ihb (_::_::A) _ _ _ ((k1+1)) b1' 0 hm V) de dc Oz ?_);rintro t10 s10 ⟨x10,k10,u10,e10,rfl,CT,hk10,aKl,rfl⟩;refine aY 4 J J (dR J V (cW [] gE dl) ?_);all_goals
     refine aY 9 J J (bU (hps:=(.cons J (.cons J .nil))) (hf:=Q5 bV bf x1 x10 fR J (λ_=>J)) Jp ?_);refine cY [(10,true),(11,false),(12,true)] 0 (go 4 ?_);refine bC (go 4 ?_);refine bK J (go 2 ?_);obtain ⟨h4,hlv2,hop⟩:=Xd hok hk0 hlv hlt ha;have hin2:=hin (k1+1) hm;refine ⟨(i+1,true,.mk (d8 lv)[i] 0 ay [x1,x10],k10,u10,e10),⟨by show i+1 <= _;omega,(λh=>nomatch h),λ_=>⟨J,hk10,aKl,λh0=>?_,n0-1,λh0=>?_,λz k' b' e' h=>hcont z k' b' e' ?_⟩⟩,J5,az (λ_ h=>h)⟩
     ·have hg:=CT.good h0;rw [hg.2.1] at hin2;show k1<k10;have:=hin2.1;omega
     ·have hg:=CT.good h0;rw [hg.2.1] at hin2;have h1:=hin2.1;have h2:=hn0 J;show l.length<n0-1+k10;omega
     obtain ⟨m,rfl⟩:∃m,n0=m+1:=⟨n0-1,by have:=hn0 rfl;omega⟩;rw [jt,if_pos ⟨h4,hlv2⟩];refine (CT.bind (f:=λy k=>jt l sub (lv+1) m (.mk (d8 lv)[i] 0 ay [x1,y]) k) h).eq λ_=>?_;rw [hop Y];cases sub (k1+1)<;>rfl
   have ST:ae=0 -> lS l k1 (eT lv)[i]=false:=λh0=>by cases hh:lS l k1 (eT lv)[i] with|false=>rfl|true=>exact absurd ⟨h0,hh⟩ aRz
   refine go 8 ?_;refine bK J (go 2 ?_);refine ⟨(i+1,false,x1,k1,b1',ae),⟨by show i+1 <= _;omega,λ_=>⟨J,λh0 j hj hji=>?_⟩,(λh=>nomatch h)⟩,J5,az (λ_ h=>h)⟩;have hji2:j<i+1:=hji;rcases jn j i with h|h
   ·exact hno h0 j hj h
   obtain rfl:j=i:=Y;exact ST h0
  obtain ⟨hq,hno⟩:=hf0 rfl;obtain ⟨rfl,rfl,rfl,rfl⟩:x1=x0 /\ k1=k0 /\ b1'=b0 /\ ae=bp:=by simpa using hq
  clear hq hf0 ht0;show bi prog _ (⟨52,[b2,b1,P],⟨⟨b2,94,bf (x1)⟩::⟨b1,94,[aA 0,aA 0,ac ⟨#[]⟩,aK]⟩::(A++⟨P,141,[aG da l,aA (((k1):Nat):Int),aA (((b1'):Nat):Int),aA (((ae):Nat):Int),am ns,am dp]⟩::B),rw⟩,[(9,ab (i)),(8,au false),(0,aE P),(1,ab lv),(4,aE b1),(5,aE b2),(6,.c (nA (eT lv))),(7,.c (nO (d8 lv)))]⟩:AS) _;obtain rfl:i=(eT lv).length:=Y;refine go 6 ?_;refine aF J jL (go 8 ?_);have hfin:bj e b ((sub k).bind λx k=>jt l sub (lv+1) (l.length+1) x k) x1 k1 b1' ae:=by
   refine hcont x1 k1 b1' ae ?_;by_cases h0:ae=0
   ·subst h0;obtain ⟨m,rfl⟩:∃m,n0=m+1:=⟨n0-1,by have:=hn0 rfl;omega⟩;rw [jt,if_neg (RD hlv λj hj=>hno rfl j hj hj)];exact bj.pure _ _ _ _
   exact .skip h0 _ _ _
  refine go 4 ?_;exact ⟨(false,x1,k1,b1',ae),⟨hk0,he0,(λh=>nomatch h),λ_=>hfin⟩,by simp only [if_true,m4,if_false];split<;>omega,az (λ_ h=>h)⟩
 by_cases hlt:i<(eT lv).length;focus
  obtain ⟨rfl,hk1,he1,hgt,n1,hb1⟩:=ht0 rfl;clear hf0 ht0;show bi prog _ (⟨52,[b2,b1,P],⟨⟨b2,94,bf (x1)⟩::⟨b1,94,[aA 0,aA 0,ac ⟨#[]⟩,aK]⟩::(A++⟨P,141,[aG da l,aA (((k1):Nat):Int),aA (((b1'):Nat):Int),aA (((ae):Nat):Int),am ns,am dp]⟩::B),rw⟩,[(9,ab (i)),(8,au true),(0,aE P),(1,ab lv),(4,aE b1),(5,aE b2),(6,.c (nA (eT lv))),(7,.c (nO (d8 lv)))]⟩:AS) _;refine go 6 ?_;refine aJ J (by simp [ef,hlt]) (go 8 ?_)
 rotate_left;obtain ⟨rfl,hk1,he1,hgt,n1,hb1⟩:=ht0 rfl;clear hf0 ht0;show bi prog _ (⟨52,[b2,b1,P],⟨⟨b2,94,bf (x1)⟩::⟨b1,94,[aA 0,aA 0,ac ⟨#[]⟩,aK]⟩::(A++⟨P,141,[aG da l,aA (((k1):Nat):Int),aA (((b1'):Nat):Int),aA (((ae):Nat):Int),am ns,am dp]⟩::B),rw⟩,[(9,ab (i)),(8,au true),(0,aE P),(1,ab lv),(4,aE b1),(5,aE b2),(6,.c (nA (eT lv))),(7,.c (nO (d8 lv)))]⟩:AS) _;refine go 6 ?_;refine aF J (by simp [ef,hlt]) (go 8 ?_);all_goals
  have hmu:(if true=true then (if ae=0 then l.length-k1+2 else 1) else 0)<(if true=true then (if (0:Nat)=0 then l.length-k0+2 else 1) else 0):=by
   simp only [if_true];by_cases h0:ae=0
   ·have:=hgt h0;rw [if_pos h0];omega
   rw [if_neg h0];omega
  refine go 4 ?_;exact ⟨(true,x1,k1,b1',ae),⟨hk1,he1,λ_=>⟨_,hb1⟩,(λh=>nomatch h)⟩,hmu,az (λ_ h=>h)⟩
def Ea(l:List Tok)(hok:gb l)(d:Nat)(iho:∀(A B:List aV)(rw:List aQ)(P:Nat)(k b e dp:Nat),k<l.length -> e<16 -> aT prog 130 [aE P] [P] (bc A B rw P l k b e (24-d) dp) (ig A B rw P l (24-d) dp (λx=>.agg (bf x)) e b (fA l d k))):∀(j:Nat),j <= 5 -> ∀(A B:List aV)(rw:List aQ)(P:Nat)(k b e dp:Nat),k<l.length -> e<16 -> aT prog 108 [aE P,aj ((5-j:Nat):Int)] [P] (bc A B rw P l k b e (24-d) dp) (ig A B rw P l (24-d) dp (λx=>.agg (bf x)) e b (iW l (fA l d) j k))
 |0,_,A,B,rw,P,k,b,e,dp,hk,he=>(YZ A B rw P l k b e (24-d) dp (fA l d) hok hk he λA B rw P k b e hk he=>iho A B rw P k b e dp hk he)
 |j+1,hj,A,B,rw,P,k,b,e,dp,hk,he=>by
  have h:=ZW A B rw P l k b e (24-d) dp (5-(j+1)) (iW l (fA l d) j) Y (λk hk=>zt hok.last (λk hk=>y_ hok.last d k hk) j k hk) hok hk he (λA B rw P k b e hk he=>by
   have h9:=Ea l hok d iho j Y A B rw P k b e dp hk he;have ae:(((5-(j+1):Nat):Int)+1)=((5-j:Nat):Int):=Y;rw [ae];exact h9)
  have e2:iW l (fA l d) (j+1) k=(iW l (fA l d) j k).bind λx k=>jt l (iW l (fA l d) j) (5-(j+1)+1) (l.length+1) x k:=by
   rw [iW,show 5-(j+1)+1=5-j by omega];cases iW l (fA l d) j k<;>rfl
  rw [e2];exact h
def Hu(l:List Tok)(hok:gb l):∀(d:Nat),d <= 24 -> ∀(A B:List aV)(rw:List aQ)(P:Nat)(k b e dp:Nat),k<l.length -> e<16 -> aT prog 130 [aE P] [P] (bc A B rw P l k b e (24-d) dp) (ig A B rw P l (24-d) dp (λx=>.agg (bf x)) e b (fA l d k))
 |0,_,A,B,rw,P,k,b,e,dp,hk,he=>Rm A B rw P l k b e dp hok hk he
 |d+1,hd,A,B,rw,P,k,b,e,dp,hk,he=>RH A B rw P l k b e (24-(d+1)) dp d Y hok hk he
   (λA B rw P k b e ns dp hns hk he=>by
    obtain rfl:ns=24-d:=Y;exact Hu l hok d Y A B rw P k b e dp hk he)
   (λA B rw P k b e ns dp hns hk he=>by
    obtain rfl:ns=24-d:=Y;exact Ea l hok d (Hu l hok d Y) 5 (bY _) A B rw P k b e dp hk he)
def xl(A B:List aV)(rw:List aQ)(P:Nat)(l:List Tok)(k b e dp:Nat)(hok:gb l)(hk:k<l.length)(he:e<16):aT prog 108 [aE P,aj 0] [P] (bc A B rw P l k b e 0 dp) (ig A B rw P l 0 dp (λx=>.agg (bf x)) e b (rI l k)):=
 Ea l hok 24 (Hu l hok 24 (bY _)) 5 (bY _) A B rw P k b e dp hk he
def GD(A B:List aV)(rw:List aQ)(P:Nat)(l:List Tok)(k b e dp:Nat)(hok:gb l)(hk:k<l.length)(he:e<16):aT prog 110 [aE P] [P] (bc A B rw P l k b e 0 dp) (ig A B rw P l 0 dp (λx=>.agg (encR x)) e b (Cf l k)):=by
 have hlen:=hok.len;refine bM 16 func110 ?_;refine go 8 λb1=>?_;refine bE J mb J (mi (_::A) _ _ _ l k b e 0 dp hok hk he) ?_;rintro t1 s1 ⟨x1,k1,u1,ae,rfl,hr1,hk1,he1,rfl⟩;refine go 9 λb2=>?_;refine bE J dw J (nq (_::_::A) _ _ _ l k1 u1 ae 0 dp [91] V hok hk1) ?_;rintro cC s2 (⟨rfl,ha2,hm2,rfl,rfl⟩|⟨ha2,rfl,rfl⟩)
 ·refine go 6 ?_;refine bE J qR J (xl (_::_::A) _ _ _ l (k1+1) u1 0 dp hok hm2 V) ?_;rintro t4 s4 ⟨x4,k4,u4,e4,rfl,hr4,hk4,he4,rfl⟩;refine aW J (bU (hf:=dd bV bf x4 (fR _) J J) o' ?_);refine go 6 ?_;refine bE J iL J (iF (_::_::A) _ _ _ l k4 u4 e4 0 dp [93] V hok hk4 he4) ?_;rintro t5 s5 ⟨x5,k5,u5,e5,rfl,hr5,hk5,he5,rfl⟩;refine go 9 ?_;exact ⟨.inr J,_,(bc A B rw P l (k5) (u5) (e5) (0) (dp)),(bJ J (bv [_] J J xV xD (cG J J))),ah c_ (.refl _),⟨⟨x1,[x4]⟩,k5,u5,e5,J,hr1.bind (f:=uf l) ((hr4.bind (f:=λe k=>(gJ l [93] k).bind λ_ k=>.ok ⟨x1,[e]⟩ k) (hr5.map (f:=λ_=>cD.mk x1 [x4]))).eq λ_=>by unfold uf;rw [if_pos ha2]),hk5,he5,J⟩⟩
 refine go 12 ?_;exact ⟨.inr J,_,(bc A B rw P l (k1) (u1) (ae) (0) (dp)),(gK (bI.agg (.r (.n .nil))) (bJ J (bv [_] J J xV xD (cG J J)))),ah c_ (.refl _),⟨⟨x1,[]⟩,k1,u1,ae,J,hr1.bind (f:=uf l) ((bj.pure _ _ _ _).eq λh=>by unfold uf;rw [if_neg Cu]),hk1,he1,J⟩⟩
def Kk(A B:List aV)(rw:List aQ)(P:Nat)(l:List Tok)(k b e dp:Nat)(hok:gb l)(hk:k<l.length)(he:e<16):aT prog 109 [aE P] [P] (bc A B rw P l k b e 0 dp) (ig A B rw P l 0 dp (λx=>.c (aG cg x)) e b (ss l k)):=by
 have hlen:=hok.len;refine bM 34 func109 ?_;refine go 13 ?_;refine bE J iL J (iF (A) _ _ _ l k b e 0 dp [40] V hok hk he) ?_;rintro t1 s1 ⟨x1,k1,u1,ae,rfl,hr1,hk1,he1,rfl⟩;refine go 6 ?_;refine bE J dw J (nq (A) _ _ _ l k1 u1 ae 0 dp [41] V hok hk1) ?_;rintro cC s2 (⟨rfl,ha2,hm2,rfl,rfl⟩|⟨ha2,rfl,rfl⟩)
 ·refine go 10 ?_;exact ⟨.inr J,_,(bc A B rw P l (k1+1) (u1) (0) (0) (dp)),(gK (bI.c tz) (bJ J (bO J))),ah (.refl _) (.refl _),⟨[],k1+1,u1,0,J,hr1.bind On,hm2,V,J⟩⟩
 refine go 7 ?_;refine gA 152 7 ?_;refine fv (λg:List bq×aN×Nat×Nat×Nat=>(⟨34,aR g.2.1++[P],⟨A++⟨P,141,[aG da l,aA (((g.2.2.1):Nat):Int),aA (((g.2.2.2.1):Nat):Int),aA (((g.2.2.2.2):Nat):Int),am 0,am dp]⟩::B,⟨g.2.1,152,7,(g.1).length,(g.1).flatMap cg⟩::rw⟩,[(3,ap g.2.1),(0,aE P)]⟩:AS)) (λg=>g.2.2.1<l.length /\ g.2.2.2.2<16 /\ g.1.length <= g.2.2.1 /\ (g.2.2.2.2≠0 -> bj e b (ss l k) g.1 g.2.2.1 g.2.2.2.1 g.2.2.2.2) /\ (g.2.2.2.2=0 -> ∃n,l.length <= n+g.2.2.1 /\ ∀z k' b' e',bj 0 g.2.2.2.1 (mm l (λ_=>tv l) n g.1 g.2.2.1) z k' b' e' -> bj e b (ss l k) z k' b' e')) (λg=>if g.2.2.2.2=0 then l.length-g.2.2.1+1 else 0) ([],.slice none 0 0,k1,u1,ae) (az (λ_ h=>h)) ⟨hk1,he1,eL _,λh=>hr1.bind (bj.skip h _ _ _),λh=>⟨l.length,yj _ _,λz k' b' e' h2=>?_⟩⟩ ?_
 ·have h:ae=0:=h;refine hr1.bind ?_;rw [h,if_neg Cu];exact h2
 rintro ⟨acc,v0,k0,b0,bp⟩ ⟨hk0,he0,ha0,hn0,hc0⟩;dsimp only at hk0 he0 ha0 hn0 hc0;show bi prog _ (⟨34,aR v0++[P],⟨A++⟨P,141,[aG da l,aA (((k0):Nat):Int),aA (((b0):Nat):Int),aA (((bp):Nat):Int),am 0,am dp]⟩::B,⟨v0,152,7,(acc).length,(acc).flatMap cg⟩::rw⟩,[(3,ap v0),(0,aE P)]⟩:AS) _;by_cases h0:bp=0
 ·subst h0;obtain ⟨n0,hn1,hcont⟩:=hc0 rfl;refine go 7 ?_;refine aJ J j9 (go 17 λb1=>?_);refine bE J dw J (eh (_::A) _ _ _ l k0 b0 0 0 dp [109,117,116,101,120] V hok hk0) ?_;rintro t6 s6 (⟨-,ha6,hm6,rfl,rfl⟩|⟨ha6,rfl,rfl⟩)
  ·refine go 5 ?_;refine bE J call110 J (GD (_::A) _ _ _ l (k0+1) b0 0 dp hok hm6 V) ?_;rintro t8 s8 ⟨x8,k8,u8,e8,rfl,hr8,hk8,he8,rfl⟩;refine go 6 ?_;have hel:bj 0 b0 (tv l k0) ⟨true,x8,.zero⟩ k8 u8 e8:=(hr8.map (f:=λr=>bq.mk true r .zero)).eq λ_=>by unfold tv;rw [if_pos ha6]
   refine go 2 ?_;refine cx 24 J (bI.agg (.r (.r (.r (.r (.r (.r (.n .nil)))))))) ?_;refine aW J (bU (hf:=dd cg cg ⟨true,x8,.zero⟩ J J J) y5 ?_);refine aW J (yO Tryz.t152 104 J J V J J uR aL J J J J V J V uG tY (@length_append _ acc [⟨true,x8,.zero⟩]).symm fy co (dh (f:=cg)).symm λv9=>?_);refine go 6 ?_;refine bE J dw J (nq (_::A) _ _ _ l k8 u8 e8 0 dp [44] V hok hk8) ?_;rintro t10 s10 (⟨rfl,DA,aR1,rfl,rfl⟩|⟨DA,rfl,rfl⟩)
   ·refine go 6 ?_;obtain ⟨m,rfl⟩:∃m,n0=m+1:=⟨n0-1,Y⟩;have hin:=IA hok.last hk0;rw [(hel.good rfl).2.1] at hin;have hin1:=hin.1;refine ⟨(acc++[⟨true,x8,.zero⟩],v9,k8+1,u8,0),⟨aR1,Bp,by show (acc++[_]).length <= k8+1;simp;omega,λh=>absurd J h,λ_=>⟨m,by show l.length <= m+(k8+1);omega,λz k' b' e' h=>hcont z k' b' e' ?_⟩⟩,by show (if (0:Nat)=0 then _ else _)<(if (0:Nat)=0 then _ else _);rw [if_pos rfl,if_pos rfl];show l.length-(k8+1)+1<l.length-k0+1;omega,az (h1:=bG) fG⟩;rw [mm];refine hel.bind ?_;rw [if_pos DA];exact h
   refine go 7 ?_;refine bE J iL J (iF (_::A) _ _ _ l k8 u8 e8 0 dp [41] V hok hk8 he8) ?_;rintro t13 s13 ⟨x13,k13,u13,e13,rfl,aR2,aOb,aR3,rfl⟩;refine go 8 ?_;refine oB 2 J ?_;refine go 5 ?_;obtain ⟨m,rfl⟩:∃m,n0=m+1:=⟨n0-1,Y⟩;exact ⟨.inr J,_,(bc A B rw P l (k13) (u13) (e13) (0) (dp)),(bJ J (bO J)),ah bG (.refl _),⟨acc++[⟨true,x8,.zero⟩],k13,u13,e13,J,hcont _ _ _ _ (by rw [mm];exact hel.bind ((aR2.map (f:=λ_=>acc++[⟨true,x8,.zero⟩])).eq λh=>by rw [if_neg (by rw [DA h];decide)])),aOb,aR3,J⟩⟩
  refine go 5 ?_;refine bE J qR J (xl (_::A) _ _ _ l k0 b0 0 dp hok hk0 he0) ?_;rintro t15 s15 ⟨x15,k15,u15,e15,rfl,aKm,aKn,aMo,rfl⟩;refine go 6 ?_;have hel:bj 0 b0 (tv l k0) ⟨false,.zero,x15⟩ k15 u15 e15:=(aKm.map (f:=λe=>bq.mk false .zero e)).eq λ_=>by unfold tv;rw [if_neg (by rw [ha6 rfl];decide)]
  refine go 2 ?_;refine cx 24 J (bI.agg (.r (.r (.n (.r (.r (.r (.r .nil)))))))) ?_;refine aW J (bU (hf:=dd cg cg ⟨false,.zero,x15⟩ J J J) y5 ?_);refine aW J (yO Tryz.t152 104 J J V J J uR aL J J J J V J V uG tY (@length_append _ acc [⟨false,.zero,x15⟩]).symm fy co (dh (f:=cg)).symm λv16=>?_);refine go 6 ?_;refine bE J dw J (nq (_::A) _ _ _ l k15 u15 e15 0 dp [44] V hok aKn) ?_;rintro t17 s17 (⟨rfl,aHs,aR4,rfl,rfl⟩|⟨aHs,rfl,rfl⟩)
  ·refine go 6 ?_;obtain ⟨m,rfl⟩:∃m,n0=m+1:=⟨n0-1,Y⟩;have hin:=IA hok.last hk0;rw [(hel.good rfl).2.1] at hin;have hin1:=hin.1;refine ⟨(acc++[⟨false,.zero,x15⟩],v16,k15+1,u15,0),⟨aR4,Bp,by show (acc++[_]).length <= k15+1;simp;omega,λh=>absurd J h,λ_=>⟨m,by show l.length <= m+(k15+1);omega,λz k' b' e' h=>hcont z k' b' e' ?_⟩⟩,by show (if (0:Nat)=0 then _ else _)<(if (0:Nat)=0 then _ else _);rw [if_pos rfl,if_pos rfl];show l.length-(k15+1)+1<l.length-k0+1;omega,az (h1:=bG) fG⟩;rw [mm];refine hel.bind ?_;rw [if_pos aHs];exact h
  refine go 7 ?_;refine bE J iL J (iF (_::A) _ _ _ l k15 u15 e15 0 dp [41] V hok aKn aMo) ?_;rintro t20 s20 ⟨x20,k20,u20,e20,rfl,aIi,aR5,aR6,rfl⟩;refine go 8 ?_;refine oB 2 J ?_;refine go 5 ?_;obtain ⟨m,rfl⟩:∃m,n0=m+1:=⟨n0-1,Y⟩;exact ⟨.inr J,_,(bc A B rw P l (k20) (u20) (e20) (0) (dp)),(bJ J (bO J)),ah bG (.refl _),⟨acc++[⟨false,.zero,x15⟩],k20,u20,e20,J,hcont _ _ _ _ (by rw [mm];exact hel.bind ((aIi.map (f:=λ_=>acc++[⟨false,.zero,x15⟩])).eq λh=>by rw [if_neg (by rw [aHs h];decide)])),aR5,aR6,J⟩⟩
 refine go 7 ?_;refine aF J (sf h0) (go 14 ?_);refine oB 2 J ?_;refine go 1 ?_;exact ⟨.inr J,_,(bc A B rw P l (k0) (b0) (bp) (0) (dp)),(bJ J (bO J)),ah (.refl _) (.refl _),⟨acc,k0,b0,bp,J,hn0 h0,hk0,he0,J⟩⟩
end
end Go.Proofs.YtckelpefchdenaaGreatDoor
