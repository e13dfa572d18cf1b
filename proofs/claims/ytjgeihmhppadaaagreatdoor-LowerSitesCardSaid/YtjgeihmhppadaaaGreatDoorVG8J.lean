import Derived.Test.YtjgeihmhppadaaaGreatDoorVG7J
import Derived.Test.YtjgeihmhppadaaaGreatDoorCards
import Derived.Test.YtjgeihmhppadaaaGreatDoorTie
import Derived.Deep.DeepHandedRow
import Derived.LaidMore
set_option linter.all false
set_option synthInstance.maxHeartbeats 1000000
set_option synthInstance.maxSize 1000000
set_option maxHeartbeats 6400000
set_option maxRecDepth 100000
namespace Go.Proofs.YtjgeihmhppadaaaGreatDoor
open Go.Proofs.Tryz
open List (length_append length_cons length_nil mem_append mem_cons not_mem_nil append_assoc getElem_mem take_of_length_le)
section
open Go.RowKit
def P'(A B:List aV)(C gv gf:Nat)(p:aY)(ch:bq)(fs:dT)(n at_:Int)(R rw:List aP)(hgf:ao gf 3 aZ fs∈R)(x:aH):aU prog 129 [aF C,cK x] [] ⟨A++⟨C,98,[aB am p.globals,aB aT p.mutexes,aB aZ p.funcs,aC gv,aC gf,aA n,aA at_]⟩::B,R++ao gv 0 bE ch::rw⟩ λt s'=>t=an (qB ch x:Int) /\ s'=⟨A++⟨C,98,[aB am p.globals,aB aT p.mutexes,aB aZ p.funcs,aC gv,aC gf,aA n,aA at_]⟩::B,R++ao gv 0 bE ch::rw⟩:=by
 refine bR 15 func129 ?_;refine go 13 ?_;refine aD J (oV ch J J J aL nw eE sO jM) (go 5 ?_);by_cases h1:(bz ch x)=0
 ·refine aI J (bU h1) (go 12 ?_);exact ⟨.inr J,_,⟨A++⟨C,98,[aB am p.globals,aB aT p.mutexes,aB aZ p.funcs,aC gv,aC gf,aA n,aA at_]⟩::B,R++ao gv 0 bE ch::rw⟩,bK J (bN J),ai (.refl _) (.refl _),fa (by simp [qB,h1]),J⟩
 refine aG J (bO h1) (go 6 ?_);by_cases h4:(bz ch x)=1;focus
  refine aI J (bU h4) (go 12 ?_)
 rotate_left;refine aG J (bO h4) (go 13 ?_);all_goals
  exact ⟨.inr J,_,⟨A++⟨C,98,[aB am p.globals,aB aT p.mutexes,aB aZ p.funcs,aC gv,aC gf,aA n,aA at_]⟩::B,R++ao gv 0 bE ch::rw⟩,bK J (bN J),ai (.refl _) (.refl _),fa (by simp [qB,h1,h4]),J⟩
def NC(v:bq):∀(l:List aS)(k:Nat)(h:k<l.length),lE v (l.take k)=0 -> jN v l[k]=0 -> lE v (l.take (k+1))=0
 |e::l,0,_,_,h=>by rw [jW,lE,if_pos i_,mJ,lE]
 |e::l,k+1,hk,h1,h2=>by
  rw [jW,lE] at h1;rw [jW,lE];split at h1
  ·rename_i h3;rw [if_pos h3];exact NC v l k qm h1 pf
  rename_i h3;exact absurd h1 h3
def Mn(v:bq):∀(l:List aS)(k:Nat)(h:k<l.length),lE v (l.take k)=0 -> jN v l[k]≠0 -> lE v l=jN v l[k]
 |e::l,0,_,_,h=>by rw [lE,if_neg i_];rfl
 |e::l,k+1,hk,h1,h2=>by
  rw [jW,lE] at h1;rw [lE];split at h1
  ·rename_i h3;rw [if_pos h3];exact Mn v l k qm h1 pf
  rename_i h3;exact absurd h1 h3
def Iq(v:bq)(e:aS):jN v e=if e.op=2 then qB v e.name else lE v e.args:=by cases e;rw [jN];rfl
def Xx(A B:List aV)(C gv gf:Nat)(p:aY)(ch:bq)(fs:dT)(n at_:Int)(R rw:List aP)(hgf:ao gf 3 aZ fs∈R)(e:aS)(hN:e.nodes <= 1000000000)(ih:∀k (h:k<e.args.length) (A:List aV),aU prog 128 [aF C,.agg (bo e.args[k])] [] ⟨A++⟨C,98,[aB am p.globals,aB aT p.mutexes,aB aZ p.funcs,aC gv,aC gf,aA n,aA at_]⟩::B,R++ao gv 0 bE ch::rw⟩ λt s'=>t=an ((jN ch e.args[k]:Nat):Int) /\ s'=⟨A++⟨C,98,[aB am p.globals,aB aT p.mutexes,aB aZ p.funcs,aC gv,aC gf,aA n,aA at_]⟩::B,R++ao gv 0 bE ch::rw⟩):aU prog 128 [aF C,.agg (bo e)] [] ⟨A++⟨C,98,[aB am p.globals,aB aT p.mutexes,aB aZ p.funcs,aC gv,aC gf,aA n,aA at_]⟩::B,R++ao gv 0 bE ch::rw⟩ λt s'=>t=an (jN ch e:Int) /\ s'=⟨A++⟨C,98,[aB am p.globals,aB aT p.mutexes,aB aZ p.funcs,aC gv,aC gf,aA n,aA at_]⟩::B,R++ao gv 0 bE ch::rw⟩:=by
 have hlen:=sJ e;refine bR 29 func128 ?_;refine go 11 λb1=>?_;by_cases h1:e.op=2
 ·refine aI J (bU h1) (go 8 ?_);refine cc J call129 J (P' (_::A) B C gv gf p ch fs _ _ R rw hgf e.name) ?_;rintro _ _ ⟨rfl,rfl⟩;refine go 5 ?_;exact ⟨.inr J,_,⟨A++⟨C,98,[aB am p.globals,aB aT p.mutexes,aB aZ p.funcs,aC gv,aC gf,aA n,aA at_]⟩::B,R++ao gv 0 bE ch::rw⟩,bK J (bN J),ai bI (.refl _),fa (by rw [Iq,if_pos Y]),J⟩
 refine aG J (bO h1) (go 15 ?_);refine jr (λk=>lE ch (e.args.take k)=0) (e.args.length) 18 (λk=>[(0,aF C),(3,aF b1),(4,an 0),(16,.c (aB bc e.args)),(17,ae e.args.length)]) J (ax J) λk hk hvk=>?_;replace hvk:lE ch (e.args.take k)=0:=hvk
 try dsimp only
 refine go 2 ?_;by_cases h5:(k:Int)<(e.args.length:Int)
 ·refine aI J (c_ h5) (go 10 ?_);refine aD J (bf bc bo e.args g_ fv k J J J J Y V jY dw) (go 9 λb2=>?_);refine cc J uB J (ih k Y (_::_::A)) ?_;rintro _ _ ⟨rfl,rfl⟩;refine go 6 ?_;by_cases h8:((jN ch e.args[k]:Nat):Int)=0
  ·refine aG J (fF h8) (go 7 ?_);refine bP J (go 2 ?_);exact ⟨Y,(NC ch _ k Y hvk Y),bD (h1:=bI) (h:=ay J (cD Y) (ax J)) (λb hb=>eG _ (hb))⟩
  refine aI J (fl h8) (go 15 ?_);exact ⟨.inr J,_,⟨A++⟨C,98,[aB am p.globals,aB aT p.mutexes,aB aZ p.funcs,aC gv,aC gf,aA n,aA at_]⟩::B,R++ao gv 0 bE ch::rw⟩,bK J (bN J),ai cq (.refl _),fa (by rw [Iq,if_neg Y,Mn ch _ k Y hvk Y]),J⟩
 refine aG J (cv h5) (go 15 ?_);exact ⟨.inr J,_,⟨A++⟨C,98,[aB am p.globals,aB aT p.mutexes,aB aZ p.funcs,aC gv,aC gf,aA n,aA at_]⟩::B,R++ao gv 0 bE ch::rw⟩,bK J (bN J),ai bI (.refl _),fa (by rw [take_of_length_le Y] at hvk;rw [Iq,if_neg Y,hvk];rfl),J⟩
def NQ:∀(N:Nat)(e:aS),e.nodes <= N -> N <= 1000000000 -> ∀(A B:List aV)(C gv gf:Nat)(p:aY)(ch:bq)(fs:dT)(n at_:Int)(R rw:List aP)(hgf:ao gf 3 aZ fs∈R),aU prog 128 [aF C,.agg (bo e)] [] ⟨A++⟨C,98,[aB am p.globals,aB aT p.mutexes,aB aZ p.funcs,aC gv,aC gf,aA n,aA at_]⟩::B,R++ao gv 0 bE ch::rw⟩ λt s'=>t=an (jN ch e:Int) /\ s'=⟨A++⟨C,98,[aB am p.globals,aB aT p.mutexes,aB aZ p.funcs,aC gv,aC gf,aA n,aA at_]⟩::B,R++ao gv 0 bE ch::rw⟩
 |0,e,h,_=>rq
 |N+1,e,h,hN=>λA B C gv gf p ch fs n at_ R rw hgf=>Xx A B C gv gf p ch fs n at_ R rw hgf e Y λk hk A=>NQ N e.args[k] q6 Y A B C gv gf p ch fs n at_ R rw hgf
def xG(e:aS)(h:e.nodes <= 1000000000)(A B:List aV)(C gv gf:Nat)(p:aY)(ch:bq)(fs:dT)(n at_:Int)(R rw:List aP)(hgf:ao gf 3 aZ fs∈R):aU prog 128 [aF C,.agg (bo e)] [] ⟨A++⟨C,98,[aB am p.globals,aB aT p.mutexes,aB aZ p.funcs,aC gv,aC gf,aA n,aA at_]⟩::B,R++ao gv 0 bE ch::rw⟩ λt s'=>t=an (jN ch e:Int) /\ s'=⟨A++⟨C,98,[aB am p.globals,aB aT p.mutexes,aB aZ p.funcs,aC gv,aC gf,aA n,aA at_]⟩::B,R++ao gv 0 bE ch::rw⟩:=NQ _ e h (bX _) A B C gv gf p ch fs n at_ R rw hgf
def B5(v:bq)(l:List aS)(h:0<l.length):BD v l=jN v l[0]:=by
 cases l with
 |nil=>simp at h
 |cons e l=>rfl
def HY(A B:List aV)(C gv gf:Nat)(p:aY)(ch:bq)(fs:dT)(n at_:Int)(R rw:List aP)(hgf:ao gf 3 aZ fs∈R)(r:cL)(hN:d2 r.index <= 1000000000):aU prog 130 [aF C,.agg (encR r)] [] ⟨A++⟨C,98,[aB am p.globals,aB aT p.mutexes,aB aZ p.funcs,aC gv,aC gf,aA n,aA at_]⟩::B,R++ao gv 0 bE ch::rw⟩ λt s'=>t=an (pJ ch r:Int) /\ s'=⟨A++⟨C,98,[aB am p.globals,aB aT p.mutexes,aB aZ p.funcs,aC gv,aC gf,aA n,aA at_]⟩::B,R++ao gv 0 bE ch::rw⟩:=by
 have hix:∀h:0<r.index.length,r.index[0].nodes <= 1000000000:=λh=>by have:=qV r.index 0 h;omega
 refine bR 43 func130 ?_;refine go 7 λb1=>?_;refine cB [b1,C,gv,gf] (aa [0,1,2,3,4,5] 2 (go 7 ?_));refine ac 6 J (oV ch J J J aL nw eE sO nC) (aa [7] 0 (go 2 ?_));refine bH (go 6 ?_);by_cases h1:(bz ch r.name)=0
 ·refine aI J (bU h1) (go 12 ?_);exact ⟨.inr J,_,⟨A++⟨C,98,[.sl p.globals.length (p.globals.flatMap am),.sl p.mutexes.length (p.mutexes.flatMap aT),.sl p.funcs.length (p.funcs.flatMap aZ),.val (.map (some gv)),.val (.map (some gf)),.val (.int .i64 n),.val (.int .i64 at_)]⟩::B,R++ao gv 0 bE ch::rw⟩,bK J (bN J),ai bI (.refl _),fa (by unfold pJ wX;simp [h1]<;>first|(split<;>omega)|exact kJ.1 Y|(rw [if_neg Aj,B5 _ _ Y])|(rw [if_pos (kJ.1 Y)];rfl)),rfl⟩
 refine aG J (bO h1) (go 8 ?_);by_cases h4:(bz ch r.name)=2
 ·refine aG J (fF h4) (go 14 ?_);refine aG J (bO Y) (go 3 ?_);by_cases h6:(0:Int)<(r.index.length:Int);focus
   refine aI J (e1 h6) ?_;refine aD J (kY true J J J kS J) (go 12 ?_)
  rotate_left;refine aG J (fA h6) ?_;refine aD J (kY false J J J kS J) (go 7 ?_);refine aG J (bO Y) (go 13 ?_);all_goals
   exact ⟨.inr J,_,⟨A++⟨C,98,[.sl p.globals.length (p.globals.flatMap am),.sl p.mutexes.length (p.mutexes.flatMap aT),.sl p.funcs.length (p.funcs.flatMap aZ),.val (.map (some gv)),.val (.map (some gf)),.val (.int .i64 n),.val (.int .i64 at_)]⟩::B,R++ao gv 0 bE ch::rw⟩,bK J (bN J),ai bI (.refl _),fa (by unfold pJ wX;simp [h1,h4,h6]<;>first|(split<;>omega)|exact kJ.1 Y|(rw [if_neg Aj,B5 _ _ Y])|(rw [if_pos (kJ.1 Y)];rfl)),rfl⟩
 refine aI J (fl h4) (go 2 ?_);by_cases h10:(bz ch r.name)=3;focus
  refine aG J (fF h10) (go 11 ?_);refine aI J (bU h10) (go 3 ?_);by_cases rx:(0:Int)<(r.index.length:Int);focus
   refine aI J (e1 rx) ?_;refine aD J (kY false J J J kS J) (go 7 ?_);refine aI J (bU h10) (go 9 ?_);refine aD J (bf bc bo r.index g_ fv 0 J J J J Y V jY dw) (go 1 ?_);refine cc J uB J (xG r.index[0] (hix Y) (_::A) B C gv gf p ch fs _ _ R rw hgf) ?_;rintro _ _ ⟨rfl,rfl⟩;refine go 6 ?_
  rotate_left;refine aG J (fA rx) ?_;refine aD J (kY true J J J kS J) (go 12 ?_)
 rotate_left 2;refine aI J (fl h10) (go 3 ?_);by_cases rx:(bz ch r.name)=4
 ·refine aG J (fF rx) (go 7 ?_);refine aG J (bO h10) (go 3 ?_);by_cases h19:(0:Int)<(r.index.length:Int);focus
   refine aI J (e1 h19) ?_;refine aD J (kY true J J J kS J) (go 12 ?_)
  rotate_left;refine aG J (fA h19) ?_;refine aD J (kY false J J J kS J) (go 7 ?_);refine aG J (bO h10) (go 13 ?_);all_goals
   exact ⟨.inr J,_,⟨A++⟨C,98,[.sl p.globals.length (p.globals.flatMap am),.sl p.mutexes.length (p.mutexes.flatMap aT),.sl p.funcs.length (p.funcs.flatMap aZ),.val (.map (some gv)),.val (.map (some gf)),.val (.int .i64 n),.val (.int .i64 at_)]⟩::B,R++ao gv 0 bE ch::rw⟩,bK J (bN J),ai bI (.refl _),fa (by unfold pJ wX;simp [h1,h4,h10,rx,h19]<;>first|(split<;>omega)|exact kJ.1 Y|(rw [if_neg Aj,B5 _ _ Y])|(rw [if_pos (kJ.1 Y)];rfl)),rfl⟩
 refine aI J (fl rx) (go 16 ?_);all_goals
  exact ⟨.inr J,_,⟨A++⟨C,98,[.sl p.globals.length (p.globals.flatMap am),.sl p.mutexes.length (p.mutexes.flatMap aT),.sl p.funcs.length (p.funcs.flatMap aZ),.val (.map (some gv)),.val (.map (some gf)),.val (.int .i64 n),.val (.int .i64 at_)]⟩::B,R++ao gv 0 bE ch::rw⟩,bK J (bN J),ai bI (.refl _),fa (by unfold pJ wX;simp [h1,h4,h10,rx]<;>first|(split<;>omega)|exact kJ.1 Y|(rw [if_neg Aj,B5 _ _ Y])|(rw [if_pos (kJ.1 Y)];rfl)),rfl⟩
def Ey(v:bq):∀(l:List cI)(xs:List bg)(k:Nat)(h:k<l.length)(h2:k<xs.length),jF v (l.take k) (xs.take k)=0 -> nL v l[k] xs[k]=0 -> jF v (l.take (k+1)) (xs.take (k+1))=0
 |a::l,x::xs,0,_,_,_,h=>by rw [jW,jW,jF,if_pos i_,mJ,mJ,jF];intros;simp_all
 |a::l,x::xs,k+1,hk,hk2,h1,h2=>by
  rw [jW,jW,jF] at h1;rw [jW,jW,jF];split at h1
  ·rename_i h3;rw [if_pos h3];exact Ey v l xs k qm (by simpa using hk2) h1 pf
  rename_i h3;exact absurd h1 h3
def MZ(v:bq):∀(l:List cI)(xs:List bg)(k:Nat)(h:k<l.length)(h2:k<xs.length),jF v (l.take k) (xs.take k)=0 -> nL v l[k] xs[k]≠0 -> jF v l xs=nL v l[k] xs[k]
 |a::l,x::xs,0,_,_,_,h=>by rw [jF,if_neg i_];rfl
 |a::l,x::xs,k+1,hk,hk2,h1,h2=>by
  rw [jW,jW,jF] at h1;rw [jF];split at h1
  ·rename_i h3;rw [if_pos h3];exact MZ v l xs k qm (by simpa using hk2) h1 pf
  rename_i h3;exact absurd h1 h3
def KA(A B:List aV)(C gv gf:Nat)(p:aY)(ch:bq)(fs:dT)(n at_:Int)(R rw:List aP)(hgf:ao gf 3 aZ fs∈R)(s:aE)(hw:s.wt <= 900000000)(hfo:eH ch fs):aU prog 131 [aF C,.agg (ci s)] [] ⟨A++⟨C,98,[aB am p.globals,aB aT p.mutexes,aB aZ p.funcs,aC gv,aC gf,aA n,aA at_]⟩::B,R++ao gv 0 bE ch::rw⟩ λt s'=>t=an (r8 ch fs s.name s.args:Int) /\ s'=⟨A++⟨C,98,[aB am p.globals,aB aT p.mutexes,aB aZ p.funcs,aC gv,aC gf,aA n,aA at_]⟩::B,R++ao gv 0 bE ch::rw⟩:=by
 have hwp:=gM s;have hal:=p9 s.args;have hak:∀k (h:k<s.args.length),s.args[k].expr.nodes <= 900000000 /\ d2 s.args[k].ref.index <= 900000000:=λk h=>by have h1:=uC s.args k h;unfold cI.wt cL.wt at h1;omega
 refine bR 66 func131 ?_;refine go 8 λb1=>?_;refine cB [b1,C,gv,gf] (aa [0,1,2,3,4,5] 1 (go 7 ?_));refine ac 6 J (oV ch J J J aL nw eE sO nC) ?_;refine bH (go 4 ?_);by_cases h1:(bz ch s.name)=0
 ·refine aI J (bU h1) (go 12 ?_);exact ⟨.inr J,_,⟨A++⟨C,98,[aB am p.globals,aB aT p.mutexes,aB aZ p.funcs,aC gv,aC gf,aA n,aA at_]⟩::B,R++ao gv 0 bE ch::rw⟩,bK J (bN J),ai bI (.refl _),fa (by unfold r8;simp [h1]),J⟩
 refine aG J (bO h1) (go 6 ?_);by_cases h4:(bz ch s.name)=5
 ·refine aI J (bU h4) (go 8 ?_);refine cB [b1,C,gv,gf] ?_;obtain ⟨f,hf⟩:=hfo.2 s.name Y;refine aa [0,1,2,3,4,5] 3 (go 7 ?_);refine ac 6 J (Qe (m:=3) (ev:=aZ) fs J J J u' V (λ_=>J) Bw eE sQ nC hf) (aa [7,8] 0 (go 3 ?_));refine bH (go 9 ?_);by_cases h6:(s.args.length:Int)=(f.params.length:Int)
  ·refine aG J (fF h6) (go 15 ?_);refine jr (λk=>jF ch (s.args.take k) (f.params.take k)=0) (s.args.length) 37 (λk=>[(0,aF C),(3,aF b1),(4,an 0),(5,.c (aB cC f.params)),(35,.c (aB cd s.args)),(36,ae s.args.length)]) (by simp [jF]) (ax J) λk hk hvk=>?_;replace hvk:jF ch (s.args.take k) (f.params.take k)=0:=hvk
   try dsimp only
   refine go 2 ?_;by_cases h8:(k:Int)<(s.args.length:Int)
   ·refine aI J (c_ h8) (go 11 ?_);refine aD J (bf cd cd s.args o' (λ_=>J) k J J J J Y V lH jy) (go 14 λb2=>?_);refine cB [b2,b1,C] (aa [0] 8 (go 2 ?_));rcases bw (s.args[k].mutex) with h10|h10;focus
     refine ac 1 J (cP (bJ h10) (cV (hU:=λ_ h=>(gh.1 h).2 aL) [] dH dG)) (aa [2,3] 5 (go 3 ?_));refine ac 4 J (bf cC cC f.params iU (λ_=>J) k J J J J Y V iO gj) (aa [5] 3 (go 2 ?_));rcases bw (f.params[k].mutex) with h11|h11;focus
      refine ac 6 J (cP (bJ h11) (ka J J dH dG J)) ?_;refine ac 7 J (kY false J J J kS J) (aa [8] 0 (go 2 ?_));refine bH (go 5 ?_);refine aD J (cP (bJ h10) (cV [] dH dG)) (go 8 ?_);refine cc J call130 J (HY (_::_::A) B C gv gf p ch fs _ _ R rw hgf s.args[k].ref xX) ?_;rintro _ _ ⟨rfl,rfl⟩;refine go 6 ?_;have aG2:nL ch s.args[k] f.params[k]=pJ ch s.args[k].ref:=by unfold nL;rw [h10,h11];rfl
      refine go 1 ?_;by_cases h16:((pJ ch s.args[k].ref:Nat):Int)=0
      ·refine aG J (fF h16) (go 7 ?_);refine bP J (go 2 ?_);exact ⟨Y,(Ey ch _ _ k Y Y hvk (by rw [aG2];omega)),bD (h1:=bI) (h:=ay J (cD Y) (ax J)) (λb hb=>eG _ (hb))⟩
      refine aI J (fl h16) (go 15 ?_)
     rotate_left;refine ac 6 J (cP (bJ h11) (ka J J dH dG J)) ?_;refine ac 7 J (kY true J J J kS J) (aa [8] 0 (go 2 ?_));refine bH (go 7 ?_);have aG2:nL ch s.args[k] f.params[k]=8:=by unfold nL;rw [h10,h11];rfl
     refine go 1 ?_;refine aI J J (go 15 ?_)
    rotate_left 2;focus
     refine ac 1 J (cP (bJ h10) (cV (hU:=λ_ h=>(gh.1 h).2 aL) [] dH dG)) (aa [2,3] 5 (go 3 ?_));refine ac 4 J (bf cC cC f.params iU (λ_=>J) k J J J J Y V iO gj) (aa [5] 3 (go 2 ?_));rcases bw (f.params[k].mutex) with h22|h22;focus
      refine ac 6 J (cP (bJ h22) (ka J J dH dG J)) ?_;refine ac 7 J (kY true J J J kS J) (aa [8] 0 (go 2 ?_));refine bH (go 7 ?_);have aG2:nL ch s.args[k] f.params[k]=8:=by unfold nL;rw [h10,h22];rfl
      refine go 1 ?_;refine aI J J (go 15 ?_)
     rotate_left;refine ac 6 J (cP (bJ h22) (ka J J dH dG J)) ?_;refine ac 7 J (kY false J J J kS J) (aa [8] 0 (go 2 ?_));refine bH (go 5 ?_);refine aD J (cP (bJ h10) (cV [] dH dG)) (go 8 ?_);refine cc J uB J (xG s.args[k].expr xX (_::_::A) B C gv gf p ch fs _ _ R rw hgf) ?_;rintro _ _ ⟨rfl,rfl⟩;refine go 6 ?_;have aG2:nL ch s.args[k] f.params[k]=jN ch s.args[k].expr:=by unfold nL;rw [h10,h22];rfl
     refine go 1 ?_;by_cases DA:((jN ch s.args[k].expr:Nat):Int)=0
     ·refine aG J (fF DA) (go 7 ?_);refine bP J (go 2 ?_);exact ⟨Y,(Ey ch _ _ k Y Y hvk (by rw [aG2];omega)),bD (h1:=bI) (h:=ay J (cD Y) (ax J)) (λb hb=>eG _ (hb))⟩
     refine aI J (fl DA) (go 15 ?_)
    all_goals
     exact ⟨.inr J,_,⟨A++⟨C,98,[aB am p.globals,aB aT p.mutexes,aB aZ p.funcs,aC gv,aC gf,aA n,aA at_]⟩::B,R++ao gv 0 bE ch::rw⟩,bK J (bN J),ai cq (.refl _),fa (by unfold r8;rw [if_neg Y,if_pos Y,hf];show (((if s.args.length=f.params.length then jF ch s.args f.params else 7:Nat):Int))=_;rw [if_pos Y,MZ ch s.args f.params k Y Y hvk (by rw [aG2];omega),aG2]<;>rfl),rfl⟩
   refine aG J (cv h8) (go 15 ?_);exact ⟨.inr J,_,⟨A++⟨C,98,[aB am p.globals,aB aT p.mutexes,aB aZ p.funcs,aC gv,aC gf,aA n,aA at_]⟩::B,R++ao gv 0 bE ch::rw⟩,bK J (bN J),ai bI (.refl _),fa (by unfold r8;rw [if_neg Y,if_pos Y,hf];show (((if s.args.length=f.params.length then jF ch s.args f.params else 7:Nat):Int))=_;rw [take_of_length_le Y,take_of_length_le Y] at hvk;rw [if_pos Y,hvk];rfl),J⟩
  refine aI J (fl h6) (go 10 ?_);exact ⟨.inr J,_,⟨A++⟨C,98,[aB am p.globals,aB aT p.mutexes,aB aZ p.funcs,aC gv,aC gf,aA n,aA at_]⟩::B,R++ao gv 0 bE ch::rw⟩,bK J (bN J),ai bI (.refl _),fa (by unfold r8;rw [if_neg Y,if_pos Y,hf];show (((if s.args.length=f.params.length then jF ch s.args f.params else 7:Nat):Int))=_;rw [if_neg Y];rfl),J⟩
 refine aG J (bO h4) (go 12 ?_);exact ⟨.inr J,_,⟨A++⟨C,98,[aB am p.globals,aB aT p.mutexes,aB aZ p.funcs,aC gv,aC gf,aA n,aA at_]⟩::B,R++ao gv 0 bE ch::rw⟩,bK J (bN J),ai bI (.refl _),fa (by unfold r8;simp [h1,h4]),J⟩
def XQ(A B:List aV)(C gv gf:Nat)(p:aY)(ch:bq)(fs:dT)(n at_:Int)(R rw:List aP)(hgf:ao gf 3 aZ fs∈R)(s:aE)(hw:s.wt <= 900000000)(hfo:eH ch fs):aU prog 95 [aF C,.agg (ci s)] [] ⟨A++⟨C,98,[aB am p.globals,aB aT p.mutexes,aB aZ p.funcs,aC gv,aC gf,aA n,aA at_]⟩::B,R++ao gv 0 bE ch::rw⟩ λt s'=>t=an (kq ch fs s:Int) /\ s'=⟨A++⟨C,98,[aB am p.globals,aB aT p.mutexes,aB aZ p.funcs,aC gv,aC gf,aA n,aA at_]⟩::B,R++ao gv 0 bE ch::rw⟩:=by
 have hwp:=gM s;unfold cL.wt at hwp;refine bR 55 func95 ?_;refine go 16 λb1=>?_;by_cases h1:s.kind=1
 ·refine aI J (bU h1) (go 6 ?_);refine cB [b1,C,gv,gf] (aa [0,1,2,3,4,5] 2 (go 7 ?_));refine ac 6 J (oV ch J J J aL nw eE sO nC) ?_;by_cases h3:(bz ch s.name)=0;focus
   refine ac 7 J (fC false J J J (fF h3)) ?_;refine bH (go 9 ?_);refine cc J uB J (xG s.expr Y (_::A) B C gv gf p ch fs _ _ R rw hgf) ?_;rintro _ _ ⟨rfl,rfl⟩;refine go 6 ?_
  rotate_left;refine ac 7 J (fC true J J J (fl h3)) ?_;refine bH (go 11 ?_);all_goals
   exact ⟨.inr J,_,⟨A++⟨C,98,[aB am p.globals,aB aT p.mutexes,aB aZ p.funcs,aC gv,aC gf,aA n,aA at_]⟩::B,R++ao gv 0 bE ch::rw⟩,bK J (bN J),ai bI (.refl _),fa (by unfold kq;simp [h1,h3]<;>(split<;>omega)),rfl⟩
 refine aG J (bO h1) (go 6 ?_);by_cases h8:s.kind=2
 ·refine aI J (bU h8) (go 10 ?_);refine cc J call129 J (P' (_::A) B C gv gf p ch fs _ _ R rw hgf s.name) ?_;rintro _ _ ⟨rfl,rfl⟩;refine go 6 ?_;by_cases h11:(qB ch s.name:Int)=0;focus
   refine aG J (fF h11) (go 10 ?_);refine cc J uB J (xG s.expr Y (_::A) B C gv gf p ch fs _ _ R rw hgf) ?_;rintro _ _ ⟨rfl,rfl⟩;refine go 6 ?_
  rotate_left;refine aI J (fl h11) (go 13 ?_);all_goals
   exact ⟨.inr J,_,⟨A++⟨C,98,[aB am p.globals,aB aT p.mutexes,aB aZ p.funcs,aC gv,aC gf,aA n,aA at_]⟩::B,R++ao gv 0 bE ch::rw⟩,bK J (bN J),ai bI (.refl _),fa (by unfold kq;simp [h1,h8,h11]<;>(split<;>omega)),rfl⟩
 refine aG J (bO h8) (go 7 ?_);by_cases h16:s.kind=5
 ·refine aI J (bU h16) (go 12 ?_);refine cc J call130 J (HY (_::A) B C gv gf p ch fs _ _ R rw hgf s.ref Y) ?_;rintro _ _ ⟨rfl,rfl⟩;refine go 6 ?_;exact ⟨.inr J,_,⟨A++⟨C,98,[aB am p.globals,aB aT p.mutexes,aB aZ p.funcs,aC gv,aC gf,aA n,aA at_]⟩::B,R++ao gv 0 bE ch::rw⟩,bK J (bN J),ai bI (.refl _),fa (by unfold kq;simp [h1,h8,h16]<;>(split<;>omega)),rfl⟩
 refine aG J (bO h16) (go 5 ?_);by_cases h21:s.kind=6
 ·refine aI J (bU h21) (go 9 ?_);refine cc J call130 J (HY (_::A) B C gv gf p ch fs _ _ R rw hgf s.ref Y) ?_;rintro _ _ ⟨rfl,rfl⟩;refine go 6 ?_;exact ⟨.inr J,_,⟨A++⟨C,98,[aB am p.globals,aB aT p.mutexes,aB aZ p.funcs,aC gv,aC gf,aA n,aA at_]⟩::B,R++ao gv 0 bE ch::rw⟩,bK J (bN J),ai bI (.refl _),fa (by unfold kq;simp [h1,h8,h16,h21]<;>(split<;>omega)),rfl⟩
 refine aG J (bO h21) (go 7 ?_);by_cases wd:s.kind=3
 ·refine aI J (bU wd) (go 11 ?_);refine cc J call131 J (KA (_::A) B C gv gf p ch fs _ _ R rw hgf s hw hfo) ?_;rintro _ _ ⟨rfl,rfl⟩;refine go 6 ?_;exact ⟨.inr J,_,⟨A++⟨C,98,[aB am p.globals,aB aT p.mutexes,aB aZ p.funcs,aC gv,aC gf,aA n,aA at_]⟩::B,R++ao gv 0 bE ch::rw⟩,bK J (bN J),ai bI (.refl _),fa (by unfold kq;simp [h1,h8,h16,h21,wd]<;>(split<;>omega)),rfl⟩
 refine aG J (bO wd) (go 5 ?_);by_cases DA:s.kind=4
 ·refine aI J (bU DA) (go 8 ?_);refine cc J call131 J (KA (_::A) B C gv gf p ch fs _ _ R rw hgf s hw hfo) ?_;rintro _ _ ⟨rfl,rfl⟩;refine go 6 ?_;exact ⟨.inr J,_,⟨A++⟨C,98,[aB am p.globals,aB aT p.mutexes,aB aZ p.funcs,aC gv,aC gf,aA n,aA at_]⟩::B,R++ao gv 0 bE ch::rw⟩,bK J (bN J),ai bI (.refl _),fa (by unfold kq;simp [h1,h8,h16,h21,wd,DA]<;>(split<;>omega)),rfl⟩
 refine aG J (bO DA) (go 7 ?_);by_cases Wf:s.kind=7
 ·refine aI J (bU Wf) (go 12 ?_);refine cc J uB J (xG s.expr Y (_::A) B C gv gf p ch fs _ _ R rw hgf) ?_;rintro _ _ ⟨rfl,rfl⟩;refine go 6 ?_;exact ⟨.inr J,_,⟨A++⟨C,98,[aB am p.globals,aB aT p.mutexes,aB aZ p.funcs,aC gv,aC gf,aA n,aA at_]⟩::B,R++ao gv 0 bE ch::rw⟩,bK J (bN J),ai bI (.refl _),fa (by unfold kq;simp [h1,h8,h16,h21,wd,DA,Wf]<;>(split<;>omega)),rfl⟩
 refine aG J (bO Wf) (go 5 ?_);by_cases SW:s.kind=8;focus
  refine aI J (bU SW) (go 9 ?_);refine cc J uB J (xG s.expr Y (_::A) B C gv gf p ch fs _ _ R rw hgf) ?_;rintro _ _ ⟨rfl,rfl⟩;refine go 6 ?_
 rotate_left;refine aG J (bO SW) (go 13 ?_);all_goals
  exact ⟨.inr J,_,⟨A++⟨C,98,[aB am p.globals,aB aT p.mutexes,aB aZ p.funcs,aC gv,aC gf,aA n,aA at_]⟩::B,R++ao gv 0 bE ch::rw⟩,bK J (bN J),ai bI (.refl _),fa (by unfold kq;simp [h1,h8,h16,h21,wd,DA,Wf,SW]<;>(split<;>omega)),rfl⟩
def wJ{fs:dT}{l:List aE}{own:List aH}{st x:eF}{k:Nat}(hk:k<l.length)(h:eI fs (l.drop k) own st=eI fs l [] x):
  ((gW fs l[k] st).1≠0 -> jI fs l x=gW fs l[k] st) /\ ((gW fs l[k] st).1=0 -> eI fs (l.drop (k+1)) (qZ l[k] own) (gW fs l[k] st).2=eI fs l [] x):=by
 rw [ic hk,eI] at h;refine ⟨λh0=>?_,λh0=>?_⟩
 ·rw [if_neg h0] at h;unfold jI;rw [←h];unfold ia;rw [if_neg h0]
 rw [if_pos h0] at h;exact h
def XW{fs:dT}{l:List aE}{own:List aH}{st x:eF}{k:Nat}(hk:k=l.length)(h:eI fs (l.drop k) own st=eI fs l [] x):jI fs l x=(0,⟨own.foldl eW st.ch,st.n,st.at_⟩):=by
 rw [mi Y,eI] at h;unfold jI;rw [←h];rfl
def S8(l:List aE)(k:Nat)(h:k<l.length):au (l.drop k)=l[k].wt+au (l.drop (k+1)):=by rw [ic h,au]
def Qg(own:List aH)(v:bq)(j:Nat)(h:j<own.length):eW ((own.take j).foldl eW v) own[j]=(own.take (j+1)).foldl eW v:=by
 rw [gz h,B1];rfl
def Lu(l:List aE)(ih1:∀k (h:k<l.length) (A B:List aV) (C gv gf:Nat) (p:aY) (fs:dT) (R rw:List aP) (hgf:ao gf 3 aZ fs∈R) (z:Int) (x:eF) (hz:z=(x.n:Int)) (hfo:eH x.ch fs) (hn:x.n+au l[k].thn <= 900000000),aU prog 70 [aF C,.c (aB encS l[k].thn)] [C,gv] ⟨A++⟨C,98,[aB am p.globals,aB aT p.mutexes,aB aZ p.funcs,aC gv,aC gf,aA z,aA x.at_]⟩::B,R++ao gv 0 bE x.ch::rw⟩ λt s'=>∃(e:Nat) (y:eF),jI fs l[k].thn x=(e,y) /\ t=ae e /\ s'=⟨A++⟨C,98,[aB am p.globals,aB aT p.mutexes,aB aZ p.funcs,aC gv,aC gf,ap y.n,aA y.at_]⟩::B,R++ao gv 0 bE y.ch::rw⟩)(ih2:∀k (h:k<l.length) (A B:List aV) (C gv gf:Nat) (p:aY) (fs:dT) (R rw:List aP) (hgf:ao gf 3 aZ fs∈R) (z:Int) (x:eF) (hz:z=(x.n:Int)) (hfo:eH x.ch fs) (hn:x.n+au l[k].els <= 900000000),aU prog 70 [aF C,.c (aB encS l[k].els)] [C,gv] ⟨A++⟨C,98,[aB am p.globals,aB aT p.mutexes,aB aZ p.funcs,aC gv,aC gf,aA z,aA x.at_]⟩::B,R++ao gv 0 bE x.ch::rw⟩ λt s'=>∃(e:Nat) (y:eF),jI fs l[k].els x=(e,y) /\ t=ae e /\ s'=⟨A++⟨C,98,[aB am p.globals,aB aT p.mutexes,aB aZ p.funcs,aC gv,aC gf,ap y.n,aA y.at_]⟩::B,R++ao gv 0 bE y.ch::rw⟩)(A B:List aV)(C gv gf:Nat)(p:aY)(fs:dT)(R rw:List aP)(hgf:ao gf 3 aZ fs∈R)(z:Int)(x:eF)(hz:z=(x.n:Int))(hfo:eH x.ch fs)(hn:x.n+au l <= 900000000):aU prog 70 [aF C,.c (aB encS l)] [C,gv] ⟨A++⟨C,98,[aB am p.globals,aB aT p.mutexes,aB aZ p.funcs,aC gv,aC gf,aA z,aA x.at_]⟩::B,R++ao gv 0 bE x.ch::rw⟩ λt s'=>∃(e:Nat) (y:eF),jI fs l x=(e,y) /\ t=ae e /\ s'=⟨A++⟨C,98,[aB am p.globals,aB aT p.mutexes,aB aZ p.funcs,aC gv,aC gf,ap y.n,aA y.at_]⟩::B,R++ao gv 0 bE y.ch::rw⟩:=by
 subst hz;obtain ⟨x0,rfl⟩:∃y,y=x:=⟨_,rfl⟩;have hln:=o5 l;refine bR 80 func70 ?_;refine go 19 ?_;refine f_ 9 1 ?_;refine f9 (λg:Nat×aN×List aH×eF=>(⟨80,aR g.2.1++[C,gv],⟨A++⟨C,98,[aB am p.globals,aB aT p.mutexes,aB aZ p.funcs,aC gv,aC gf,ap g.2.2.2.n,aA g.2.2.2.at_]⟩::B,⟨g.2.1,9,1,g.2.2.1.length,cj g.2.2.1⟩::R++ao gv 0 bE g.2.2.2.ch::rw⟩,[(15,ae g.1),(5,av g.2.1),(0,aF C),(4,an 0),(13,.c (aB encS l)),(14,ae l.length)]⟩:AS)) (λg=>g.1 <= l.length /\ eI fs (l.drop g.1) g.2.2.1 g.2.2.2=eI fs l [] x0 /\ eH g.2.2.2.ch fs /\ g.2.2.2.n+au (l.drop g.1) <= 900000000 /\ g.2.2.1.length <= g.1) (λg=>l.length-g.1) (0,.slice none 0 0,[],x0) (bD (by intro b hb;simpa [aR,Value.ownBlock] using hb)) ⟨eT _,J,hfo,hn,bX _⟩ ?_;rintro ⟨k,v,own,⟨ch,n,at_⟩⟩ ⟨hk,hst,hfk,hnk,hol⟩;dsimp only at hk hst hfk hnk hol
 try dsimp only
 refine go 2 ?_;by_cases h1:(k:Int)<(l.length:Int)
 ·refine aI J (c_ h1) (go 10 ?_);refine aD J (bf encS ci l l8 mQ k J J J J Y V jw d7) (go 23 λb1=>?_);refine bP J (go 10 ?_);have hwk:=qH l k Y;have hwd:=S8 l k Y;have hwq:=gM l[k];obtain ⟨be,hpa⟩:∃e,kq ch fs l[k]=e:=⟨_,rfl⟩;refine cc J call95 J (XQ (_::A) B C gv gf p ch fs _ _ (_::R) rw u' l[k] Y hfk) ?_;rintro _ _ ⟨rfl,rfl⟩;rw [hpa];refine go 6 ?_;by_cases h3:(be:Int)=0
  ·refine aG J (fF h3) (go 10 ?_);by_cases h5:l[k].kind=1;focus
    refine aI J (bU h5) (go 4 ?_);refine cB [b1,C] (aa [0,1,2,3,4,5] 1 (go 7 ?_));refine aW 6 J J (qn ch (_::R) J J J J J nw eE aL rV ?_);refine bH (go 5 ?_);refine aX J (bV (r:=cj [l[k].name]) io ?_);refine aX J (dQ [] pC J J V cN Y (@length_append _ own [l[k].name]).symm fu cm (r:=cj (own++[l[k].name])) (by simp [cj]) λw2=>?_);refine go 9 ?_;obtain rfl:be=0:=Y;have hbg:iy l[k] ⟨ch,n,at_⟩=⟨(dB ch l[k].name 1),n+1,n⟩:=by unfold iy;dsimp only;rw [if_pos h5]
    have hf0:eH (dB ch l[k].name 1) fs:=hfk.put _ V;refine aX J (bm [C,gv] J J V call70 J (ih1 k Y (_::A) B C gv gf p fs (_::R) rw u' _ ⟨(dB ch l[k].name 1),n+1,n⟩ Kr hf0 Np) jT nV mO ?_);rintro _ _ ⟨aj,⟨n8,n1,at1⟩,hy1,rfl,rfl⟩;have hb1:=Dq fs l[k].thn ⟨(dB ch l[k].name 1),n+1,n⟩;rw [hy1] at hb1;have hf1:=xq (l:=l[k].thn) (x:=⟨(dB ch l[k].name 1),n+1,n⟩) hf0;rw [hy1] at hf1;dsimp only at hb1 hf1;refine go 6 ?_;by_cases n6:(aj:Int)=0
    ·refine aG J (fF n6) (go 10 ?_);refine aX J (bm [C,gv] J J V call70 J (ih2 k Y (_::A) B C gv gf p fs (_::R) rw u' _ ⟨n8,n1,at1⟩ LN hf1 Mz) jT nV mO ?_);rintro _ _ ⟨e2,⟨n9,n2,at2⟩,hy2,rfl,rfl⟩;have hb2:=Dq fs l[k].els ⟨n8,n1,at1⟩;rw [hy2] at hb2;have hf2:=xq (l:=l[k].els) (x:=⟨n8,n1,at1⟩) hf1;rw [hy2] at hf2;dsimp only at hb2 hf2;refine go 6 ?_;by_cases h9:(e2:Int)=0
     ·refine aG J (fF h9) (go 7 ?_);refine bP J (go 2 ?_);have Vc:gW fs l[k] ⟨ch,n,at_⟩=(0,⟨n9,n2,at2⟩):=QH;have hnx:=(wJ Y hst).2 (by rw [Vc]);rw [Vc] at hnx;rw [show qZ l[k] own=(own++[l[k].name]) from if_pos h5] at hnx;exact ⟨(k+1,w2,(own++[l[k].name]),⟨n9,n2,at2⟩),⟨by show k+1 <= l.length;omega,hnx,hf2,K6,by show (own++[l[k].name]).length <= k+1;rw [length_append];simp only [List.length_singleton];omega⟩,CY,bD (h1:=bI) (h:=ay J (cD Y) (ax J)) lB⟩
     refine aI J (fl h9) (go 15 ?_);have Vc:gW fs l[k] ⟨ch,n,at_⟩=(e2,⟨n9,n2,at2⟩):=Jl;have hbk:=(wJ Y hst).1 (by rw [Vc];show e2≠0;omega);rw [Vc] at hbk;exact ⟨.inr J,_,⟨A++⟨C,98,[aB am p.globals,aB aT p.mutexes,aB aZ p.funcs,aC gv,aC gf,ap n2,aA at2]⟩::B,R++ao gv 0 bE n9::rw⟩,bK J (bN J),ai bI bI,e2,⟨n9,n2,at2⟩,hbk,J,J⟩
   rotate_left;refine aG J (bO h5) (go 11 ?_);obtain rfl:be=0:=Y;have hbg:iy l[k] ⟨ch,n,at_⟩=⟨ch,n+1,n⟩:=by unfold iy;dsimp only;rw [if_neg h5]
   have hf0:eH ch fs:=hfk;refine aX J (bm [C,gv] J J V call70 J (ih1 k Y (_::A) B C gv gf p fs (_::R) rw u' _ ⟨ch,n+1,n⟩ Kr hf0 Np) jT nV mO ?_);rintro _ _ ⟨aj,⟨n8,n1,at1⟩,hy1,rfl,rfl⟩;have hb1:=Dq fs l[k].thn ⟨ch,n+1,n⟩;rw [hy1] at hb1;have hf1:=xq (l:=l[k].thn) (x:=⟨ch,n+1,n⟩) hf0;rw [hy1] at hf1;dsimp only at hb1 hf1;refine go 6 ?_;by_cases n6:(aj:Int)=0
   ·refine aG J (fF n6) (go 10 ?_);refine aX J (bm [C,gv] J J V call70 J (ih2 k Y (_::A) B C gv gf p fs (_::R) rw u' _ ⟨n8,n1,at1⟩ LN hf1 Mz) jT nV mO ?_);rintro _ _ ⟨e2,⟨n9,n2,at2⟩,hy2,rfl,rfl⟩;have hb2:=Dq fs l[k].els ⟨n8,n1,at1⟩;rw [hy2] at hb2;have hf2:=xq (l:=l[k].els) (x:=⟨n8,n1,at1⟩) hf1;rw [hy2] at hf2;dsimp only at hb2 hf2;refine go 6 ?_;by_cases h16:(e2:Int)=0
    ·refine aG J (fF h16) (go 7 ?_);refine bP J (go 2 ?_);have Vc:gW fs l[k] ⟨ch,n,at_⟩=(0,⟨n9,n2,at2⟩):=QH;have hnx:=(wJ Y hst).2 (by rw [Vc]);rw [Vc] at hnx;rw [show qZ l[k] own=own from if_neg h5] at hnx;exact ⟨(k+1,v,own,⟨n9,n2,at2⟩),⟨by show k+1 <= l.length;omega,hnx,hf2,K6,by show own.length <= k+1;omega⟩,CY,bD (h1:=bI) (h:=ay J (cD Y) (ax J)) lB⟩
    refine aI J (fl h16) (go 15 ?_);have Vc:gW fs l[k] ⟨ch,n,at_⟩=(e2,⟨n9,n2,at2⟩):=Jl;have hbk:=(wJ Y hst).1 (by rw [Vc];show e2≠0;omega);rw [Vc] at hbk;exact ⟨.inr J,_,⟨A++⟨C,98,[aB am p.globals,aB aT p.mutexes,aB aZ p.funcs,aC gv,aC gf,ap n2,aA at2]⟩::B,R++ao gv 0 bE n9::rw⟩,bK J (bN J),ai bI bI,e2,⟨n9,n2,at2⟩,hbk,J,J⟩
   all_goals
    refine aI J (fl n6) (go 16 ?_);have Vc:gW fs l[k] ⟨ch,n,at_⟩=(aj,⟨n8,n1,at1⟩):=by rw [C4,if_pos hpa,hbg,hy1];show (if aj=0 then _ else _)=_;rw [if_neg Y]
    have hbk:=(wJ Y hst).1 (by rw [Vc];show aj≠0;omega);rw [Vc] at hbk;exact ⟨.inr J,_,⟨A++⟨C,98,[aB am p.globals,aB aT p.mutexes,aB aZ p.funcs,aC gv,aC gf,ap n1,aA at1]⟩::B,R++ao gv 0 bE n8::rw⟩,bK J (bN J),ai bI bI,aj,⟨n8,n1,at1⟩,hbk,J,J⟩
  refine aI J (fl h3) (go 16 ?_);have Vc:gW fs l[k] ⟨ch,n,at_⟩=(be,⟨ch,n+1,n⟩):=by rw [C4,if_neg (by rw [hpa];omega),hpa]
  have hbk:=(wJ Y hst).1 (by rw [Vc];show be≠0;omega);rw [Vc] at hbk;exact ⟨.inr J,_,⟨A++⟨C,98,[aB am p.globals,aB aT p.mutexes,aB aZ p.funcs,aC gv,aC gf,aA ((n+1:Nat):Int),ap n]⟩::B,R++ao gv 0 bE ch::rw⟩,bK J (bN J),ai bI bI,be,⟨ch,n+1,n⟩,hbk,J,J⟩
 refine aG J (cv h1) (go 11 ?_);obtain rfl:k=l.length:=Y;have hb9:=XW J hst;refine oJ 5 J ?_;refine go 7 ?_;refine f9 (λj:Nat=>(⟨80,[C,gv],⟨A++⟨C,98,[aB am p.globals,aB aT p.mutexes,aB aZ p.funcs,aC gv,aC gf,ap n,aA at_]⟩::B,R++ao gv 0 bE ((own.take j).foldl eW ch)::rw⟩,[(70,ae j),(0,aF C),(4,an 0),(68,.c (.sl own.length (cj own))),(69,ae own.length)]⟩:AS)) (λj=>j <= own.length) (λj=>own.length-j) 0 (bD jT) (eT _) ?_;intro j hj
 try dsimp only
 refine go 2 ?_;by_cases h22:(j:Int)<(own.length:Int)
 ·refine aI J (c_ h22) (go 10 ?_);refine aD J (mj (λx=>ah x) own j J J J J Y kP iK) (go 10 ?_);refine aX J (EV ((own.take j).foldl eW ch) R J J J J nw eE aL yn ?_);refine go 4 ?_;refine bP J (go 2 ?_);rw [Qg own ch j Y];exact ⟨j+1,Y,by show own.length-(j+1)<own.length-j;omega,bD (h:=ay J (cD Y) (ax J)) (λb hb=>hb)⟩
 refine aG J (cv h22) (go 15 ?_);obtain rfl:j=own.length:=Y;rw [take_of_length_le (bX _)];exact ⟨.inr J,_,⟨A++⟨C,98,[aB am p.globals,aB aT p.mutexes,aB aZ p.funcs,aC gv,aC gf,ap n,aA at_]⟩::B,R++ao gv 0 bE (own.foldl eW ch)::rw⟩,bK J (bN J),ai (.refl _) (.refl _),0,⟨own.foldl eW ch,n,at_⟩,hb9,J,J⟩
def It:∀(N:Nat)(l:List aE),au l <= N -> ∀(A B:List aV) (C gv gf:Nat) (p:aY) (fs:dT) (R rw:List aP) (hgf:ao gf 3 aZ fs∈R) (z:Int) (x:eF) (hz:z=(x.n:Int)) (hfo:eH x.ch fs) (hn:x.n+au l <= 900000000),aU prog 70 [aF C,.c (aB encS l)] [C,gv] ⟨A++⟨C,98,[aB am p.globals,aB aT p.mutexes,aB aZ p.funcs,aC gv,aC gf,aA z,aA x.at_]⟩::B,R++ao gv 0 bE x.ch::rw⟩ λt s'=>∃(e:Nat) (y:eF),jI fs l x=(e,y) /\ t=ae e /\ s'=⟨A++⟨C,98,[aB am p.globals,aB aT p.mutexes,aB aZ p.funcs,aC gv,aC gf,ap y.n,aA y.at_]⟩::B,R++ao gv 0 bE y.ch::rw⟩
 |0,l,h=>λA B C gv gf p fs R rw hgf z x hz hfo hn=>Lu l (λk hk=>pI) (λk hk=>pI) A B C gv gf p fs R rw hgf z x hz hfo hn
 |N+1,l,h=>λA B C gv gf p fs R rw hgf z x hz hfo hn=>Lu l
   (λk hk=>It N l[k].thn wY)
   (λk hk=>It N l[k].els wY) A B C gv gf p fs R rw hgf z x hz hfo hn
def D9{fs:dT}:∀(l:List bg) {v:bq},eH v fs -> eH (gU l v).2 fs
 |[],_,h=>h
 |x::l,v,h=>by
  rw [gU];split
  ·exact D9 l (h.put _ (by unfold qJ;split<;>decide))
  exact h
def J9{fs:dT}:∀(l:List bg) {v:bq},eH v fs -> eH (nZ l v) fs
 |[],_,h=>h
 |x::l,v,h=>J9 l (h.del x.name)
def SX{fs:dT}(f:bB){v:bq}(h:eH v fs):eH (j9 fs f v).2.ch fs:=by
 unfold j9;split
 ·exact J9 _ (xq (D9 _ h))
 exact D9 _ h
def Ig{l:List bg}{v v0:bq}{k:Nat}(hk:k<l.length)(h:gU (l.drop k) v=gU l v0):
  (bz v l[k].name=0 -> gU (l.drop (k+1)) (dB v l[k].name (qJ l[k]))=gU l v0) /\ (bz v l[k].name≠0 -> gU l v0=(false,v)):=by
 rw [ic hk,gU] at h;refine ⟨λh0=>?_,λh0=>?_⟩
 ·rw [if_pos h0] at h;exact h
 rw [if_neg h0] at h;exact h.symm
def VP(l:List bg)(v:bq)(j:Nat)(h:j<l.length):eW (nZ (l.take j) v) l[j].name=nZ (l.take (j+1)) v:=by
 unfold nZ;rw [gz h,B1];rfl
def XF(A B:List aV)(C gv gf:Nat)(p:aY)(fs:dT)(R rw:List aP)(hgf:ao gf 3 aZ fs∈R)(n0 a0:Int)(v0:bq)(f:bB)(hfo:eH v0 fs)(hw:f.wt <= 900000000):aU prog 33 [aF C,.agg (aZ f)] [C,gv] ⟨A++⟨C,98,[aB am p.globals,aB aT p.mutexes,aB aZ p.funcs,aC gv,aC gf,aA n0,aA a0]⟩::B,R++ao gv 0 bE v0::rw⟩ λt s'=>∃(e:Nat) (y:eF),j9 fs f v0=(e,y) /\ t=ae e /\ s'=⟨A++⟨C,98,[aB am p.globals,aB aT p.mutexes,aB aZ p.funcs,aC gv,aC gf,ap y.n,aA y.at_]⟩::B,R++ao gv 0 bE y.ch::rw⟩:=by
 unfold bB.wt at hw;refine bR 65 func33 ?_;refine go 28 λb1=>?_;refine f9 (λg:Nat×bq=>(⟨65,[b1,C,gv],⟨⟨b1,67,aZ f⟩::A++⟨C,98,[aB am p.globals,aB aT p.mutexes,aB aZ p.funcs,aC gv,aC gf,ap 0,aA (-1)]⟩::B,R++ao gv 0 bE g.2::rw⟩,[(19,ae g.1),(0,aF C),(3,aF b1),(4,an 0),(17,.c (aB cC f.params)),(18,ae f.params.length)]⟩:AS)) (λg=>g.1 <= f.params.length /\ gU (f.params.drop g.1) g.2=gU f.params v0 /\ eH g.2 fs) (λg=>f.params.length-g.1) (0,v0) (bD (λb hb=>hb)) ⟨eT _,J,hfo⟩ ?_;rintro ⟨k,ch⟩ ⟨hk,hst,hfk⟩;dsimp only at hk hst hfk
 try dsimp only
 refine go 2 ?_;by_cases h1:(k:Int)<(f.params.length:Int)
 ·refine aI J (c_ h1) (go 10 ?_);refine aD J (bf cC cC f.params iU (λ_=>J) k J J J J Y V iO gj) (go 7 λb2=>?_);refine cB [b2,b1,C,gv,gf] (aa [0,1,2,3,4,5] 2 (go 7 ?_));refine ac 6 J (oV ch J J J aL nw eE sO nC) ?_;by_cases h3:(bz ch f.params[k].name)=0
  ·refine ac 7 J (fC false J J J (fF h3)) ?_;refine bH (go 5 ?_);refine cB [b2,b1,C] (aa [0,1,2,3,4,5] 1 (go 7 ?_));refine aW 6 J J (qn ch R J J J J J nw eE aL rV ?_);refine bH (go 4 ?_);rcases bw (f.params[k].mutex) with h5|h5
   ·refine aD J (cP (bJ h5) (cV [] dH dG)) (go 3 ?_);refine cB [b2,b1,C] (aa [0,1,2,3,4,5] 1 (go 7 ?_));refine aW 6 J J (qn (dB ch f.params[k].name 1) R J J J J J nw eE aL rV ?_);refine bH (go 3 ?_);refine bP J (go 2 ?_);have hnx:=(Ig Y hst).1 Y;have hsp:qJ f.params[k]=4:=by unfold qJ;rw [h5];rfl
    rw [Re];rw [hsp] at hnx;exact ⟨(k+1,dB ch f.params[k].name 4),⟨by show k+1 <= f.params.length;omega,hnx,hfk.put _ V⟩,C',bD (h1:=bI) (h:=ay J (cD Y) (ax J)) oW⟩
   refine aD J (cP (bJ h5) (cV [] dH dG)) (go 7 ?_);refine bP J (go 2 ?_);have hnx:=(Ig Y hst).1 Y;have hsp:qJ f.params[k]=1:=by unfold qJ;rw [h5];rfl
   rw [hsp] at hnx;exact ⟨(k+1,dB ch f.params[k].name 1),⟨by show k+1 <= f.params.length;omega,hnx,hfk.put _ V⟩,C',bD (h1:=bI) (h:=ay J (cD Y) (ax J)) oW⟩
  refine ac 7 J (fC true J J J (fl h3)) ?_;refine bH (go 14 ?_);exact ⟨.inr J,_,⟨A++⟨C,98,[aB am p.globals,aB aT p.mutexes,aB aZ p.funcs,aC gv,aC gf,ap 0,aA (-1)]⟩::B,R++ao gv 0 bE ch::rw⟩,bK J (bN J),ai cq (.refl _),5,⟨ch,0,-1⟩,by unfold j9;rw [(Ig Y hst).2 Y];rfl,J,J⟩
 refine aG J (cv h1) (go 14 ?_);obtain rfl:k=f.params.length:=Y;have hpr:gU f.params v0=(true,ch):=by rw [←hst,mi (bX _),gU]
 refine aX J (bm [C,gv] J J V call70 J (It _ f.body (bX _) (_::A) B C gv gf p fs R rw hgf _ ⟨ch,0,-1⟩ jo hfk (by show 0+au f.body <= 900000000;omega)) jT nV mO ?_);rintro _ _ ⟨aj,⟨n8,n1,at1⟩,hy1,rfl,rfl⟩;refine go 13 ?_;refine f9 (λj:Nat=>(⟨65,[b1,C,gv],⟨⟨b1,67,aZ f⟩::A++⟨C,98,[aB am p.globals,aB aT p.mutexes,aB aZ p.funcs,aC gv,aC gf,ap n1,aA at1]⟩::B,R++ao gv 0 bE (nZ (f.params.take j) n8)::rw⟩,[(53,ae j),(0,aF C),(4,an 0),(7,ae aj),(51,.c (aB cC f.params)),(52,ae f.params.length)]⟩:AS)) (λj=>j <= f.params.length) (λj=>f.params.length-j) 0 (bD (λb hb=>hb)) (eT _) ?_;intro j hj
 try dsimp only
 refine go 2 ?_;by_cases h10:(j:Int)<(f.params.length:Int)
 ·refine aI J (c_ h10) (go 10 ?_);refine aD J (bf cC cC f.params iU (λ_=>J) j J J J J Y V iO gj) (go 5 λb3=>?_);refine cB [b3,b1,C] (aa [0,1,2,3,4,5] 1 (go 7 ?_));refine aW 6 J J (EV (nZ (f.params.take j) n8) R J J J J nw eE aL rV ?_);refine bH (go 3 ?_);refine bP J (go 2 ?_);rw [VP f.params n8 j Y];exact ⟨j+1,Y,by show f.params.length-(j+1)<f.params.length-j;omega,bD (h1:=bI) (h:=ay J (cD Y) (ax J)) oW⟩
 refine aG J (cv h10) (go 16 ?_);obtain rfl:j=f.params.length:=Y;rw [take_of_length_le (bX _)];exact ⟨.inr J,_,⟨A++⟨C,98,[aB am p.globals,aB aT p.mutexes,aB aZ p.funcs,aC gv,aC gf,ap n1,aA at1]⟩::B,R++ao gv 0 bE (nZ f.params n8)::rw⟩,bK J (bN J),ai bI (.refl _),aj,⟨nZ f.params n8,n1,at1⟩,by unfold j9;rw [hpr,if_pos rfl,hy1],J,J⟩
def Dl(A B:List aV)(C gv gf Nb Pb:Nat)(X:aV)(p:aY)(ch:bq)(fs:dT)(n at_:Int)(rw:List aP)(m:Nat)(nm:aH)(sr:Int)(hg:bz ch nm=0)(hm:m <= 90000000):aU prog 69 [cK nm,an sr,aF Pb,aF Nb] [Nb,gv] ⟨X::⟨Nb,3,[ap m]⟩::⟨Pb,94,[.val (.pointer (some ⟨C,0,none⟩))]⟩::A++⟨C,98,[aB am p.globals,aB aT p.mutexes,aB aZ p.funcs,aC gv,aC gf,aA n,aA at_]⟩::B,ao gf 3 aZ fs::ao gv 0 bE ch::rw⟩ λt s'=>t=bC true /\ s'=⟨X::⟨Nb,3,[aA ((m+1:Nat):Int)]⟩::⟨Pb,94,[.val (.pointer (some ⟨C,0,none⟩))]⟩::A++⟨C,98,[aB am p.globals,aB aT p.mutexes,aB aZ p.funcs,aC gv,aC gf,aA n,aA at_]⟩::B,ao gf 3 aZ fs::ao gv 0 bE (dB ch nm sr)::rw⟩:=by
 refine bR 22 func69 ?_;refine go 13 ?_;refine aD J (oV ch J J J aL nw eE sO jM) ?_;refine aG J (fF hg) (go 13 ?_);refine aX J (qn ch [_] J J J J J nw eE aL yn ?_);refine go 5 ?_;refine bP J (go 9 ?_);exact ⟨.inr J,_,⟨X::⟨Nb,3,[aA ((m+1:Nat):Int)]⟩::⟨Pb,94,[.val (.pointer (some ⟨C,0,none⟩))]⟩::A++⟨C,98,[aB am p.globals,aB aT p.mutexes,aB aZ p.funcs,aC gv,aC gf,aA n,aA at_]⟩::B,ao gf 3 aZ fs::ao gv 0 bE (dB ch nm sr)::rw⟩,bK J (bN J),ai (.refl _) (.refl _),J,J⟩
def Aw(A B:List aV)(C gv gf Nb Pb:Nat)(X:aV)(p:aY)(ch:bq)(fs:dT)(n at_:Int)(rw:List aP)(m:Nat)(nm:aH)(sr:Int)(hg:¬bz ch nm=0):aU prog 69 [cK nm,an sr,aF Pb,aF Nb] [Nb,gv] ⟨X::⟨Nb,3,[ap m]⟩::⟨Pb,94,[.val (.pointer (some ⟨C,0,none⟩))]⟩::A++⟨C,98,[aB am p.globals,aB aT p.mutexes,aB aZ p.funcs,aC gv,aC gf,aA n,aA at_]⟩::B,ao gf 3 aZ fs::ao gv 0 bE ch::rw⟩ λt s'=>t=bC false /\ s'=⟨X::⟨Nb,3,[ap m]⟩::⟨Pb,94,[.val (.pointer (some ⟨C,0,none⟩))]⟩::A++⟨C,98,[aB am p.globals,aB aT p.mutexes,aB aZ p.funcs,aC gv,aC gf,aA n,aA at_]⟩::B,ao gf 3 aZ fs::ao gv 0 bE ch::rw⟩:=by
 refine bR 22 func69 ?_;refine go 13 ?_;refine aD J (oV ch J J J aL nw eE sO jM) ?_;refine aI J (fl hg) (go 10 ?_);exact ⟨.inr J,_,⟨X::⟨Nb,3,[ap m]⟩::⟨Pb,94,[.val (.pointer (some ⟨C,0,none⟩))]⟩::A++⟨C,98,[aB am p.globals,aB aT p.mutexes,aB aZ p.funcs,aC gv,aC gf,aA n,aA at_]⟩::B,ao gf 3 aZ fs::ao gv 0 bE ch::rw⟩,bK J (bN J),ai (.refl _) (.refl _),J,J⟩
def u_{S:List (aH×Int)}{v v0:bq}{j n0:Nat}{q:aH×Int}(hq:S.drop j=q::S.drop (j+1))(h:hJ (S.drop j) v j=hJ S v0 n0):
  (bz v q.1=0 -> hJ (S.drop (j+1)) (dB v q.1 q.2) (j+1)=hJ S v0 n0) /\ (¬bz v q.1=0 -> hJ S v0 n0=(some j,v)):=by
 rw [hq,hJ] at h;refine ⟨λh0=>?_,λh0=>?_⟩
 ·rw [if_pos h0] at h;exact h
 rw [if_neg h0] at h;exact h.symm
def TR(p:aY):(iE p).length=p.globals.length+(p.mutexes.length+p.funcs.length):=by unfold iE;simp
def Li(p:aY)(k:Nat)(h:k<p.globals.length):(iE p).drop k=(p.globals[k].name,1)::(iE p).drop (k+1):=by
 rw [ic Eq];congr 1;unfold iE;rw [rD i_];simp
def Iu(p:aY)(k:Nat)(h:k<p.mutexes.length):(iE p).drop (p.globals.length+k)=(p.mutexes[k].name,qQ p.mutexes[k])::(iE p).drop (p.globals.length+k+1):=by
 rw [ic Eq];congr 1;unfold iE;rw [qz aL,rD dh];simp
def Mf(p:aY)(k:Nat)(h:k<p.funcs.length):(iE p).drop (p.globals.length+p.mutexes.length+k)=(p.funcs[k].name,5)::(iE p).drop (p.globals.length+p.mutexes.length+k+1):=by
 rw [ic Eq];congr 1;unfold iE;rw [qz dh,qz dh];simp;congr 2;omega
def JZ(l:List bB)(k:Nat)(h:k<l.length):dB (iQ (l.take k)) l[k].name l[k]=iQ (l.take (k+1)):=by
 unfold iQ;rw [gz h,B1];rfl
def eH.fun{v:bq}{fs:dT}(h:eH v fs)(s:aH)(f:bB):eH (dB v s 5) (dB fs s f):=
 ⟨h.1.put s 5,λq hq=>by
  rw [p'];rw [tz] at hq;split at hq
  ·rename_i e;rw [if_pos e];exact ⟨f,rfl⟩
  rename_i e;rw [if_neg e];exact h.2 q hq⟩
def eH.nil:eH [] []:=⟨by unfold dW;simp,λs h=>by unfold bz dX at h;cases h⟩
def VD:Option Nat -> Int
 |none=>-1
 |some i=>(i:Int)
def Qi(A B:List aV)(C gv gf:Nat)(p:aY)(rw:List aP)(hg:p.globals.length <= 9000000)(hm:p.mutexes.length <= 9000000)(hf:p.funcs.length <= 9000000):aU prog 32 [aF C] [C,gv,gf] ⟨A++⟨C,98,[aB am p.globals,aB aT p.mutexes,aB aZ p.funcs,aC gv,aC gf,aA 0,aA 0]⟩::B,ao gf 3 aZ ([]:dT)::ao gv 0 bE ([]:bq)::rw⟩ λt s'=>∃(r:Option Nat) (v:bq) (fsx:dT),hJ (iE p) [] 0=(r,v) /\ t=an (VD r) /\ s'=⟨A++⟨C,98,[aB am p.globals,aB aT p.mutexes,aB aZ p.funcs,aC gv,aC gf,aA 0,aA 0]⟩::B,ao gf 3 aZ fsx::ao gv 0 bE v::rw⟩ /\ (r=none -> fsx=iQ p.funcs /\ eH v fsx):=by
 refine bR 75 func32 ?_;refine go 14 λPb Nb=>?_;refine aD J (Oy J (vs:=[.pointer (some ⟨Pb,0,none⟩),.pointer (some ⟨Nb,0,none⟩)]) J) (go 16 ?_);refine f9 (λg:Nat×bq=>(⟨75,[Nb,Pb,C,gv,gf],⟨⟨Nb,3,[ap g.1]⟩::⟨Pb,94,[.val (.pointer (some ⟨C,0,none⟩))]⟩::A++⟨C,98,[aB am p.globals,aB aT p.mutexes,aB aZ p.funcs,aC gv,aC gf,aA 0,aA 0]⟩::B,ao gf 3 aZ []::ao gv 0 bE g.2::rw⟩,[(19,ae g.1),(1,aF Pb),(2,an 0),(3,aF Nb),(4,av (.func (.func 69) #[] #[.pointer (some ⟨Pb,0,none⟩),.pointer (some ⟨Nb,0,none⟩)])),(17,.c (aB am p.globals)),(18,ae p.globals.length)]⟩:AS)) (λg=>g.1 <= p.globals.length /\ hJ ((iE p).drop (g.1)) g.2 (g.1)=hJ (iE p) [] 0 /\ eH g.2 []) (λg=>p.globals.length-g.1) (0,[]) (bD oW) ⟨eT _,J,eH.nil⟩ ?_;rintro ⟨k,n8⟩ ⟨hk,aHp,aLv⟩;dsimp only at hk aHp aLv
 try dsimp only
 refine go 2 ?_;by_cases h1:(k:Int)<(p.globals.length:Int)
 ·refine aI J (c_ h1) (go 10 ?_);refine aD J (bf am am p.globals oU (λ_=>J) k J J J J Y V mt jX) (go 10 λb1=>?_);by_cases IN:bz n8 p.globals[k].name=0
  ·refine aX J (o_ [Nb,gv] J J J V call69 (us:=[cK (p.globals[k].name),an 1]) J (Dl A B C gv gf Nb Pb _ p n8 _ _ _ rw (k) p.globals[k].name 1 IN Y) jT nV mO ?_);rintro _ _ ⟨rfl,rfl⟩;refine ⟨[],(λ_ b hb=>nomatch hb),?_⟩;refine go 8 ?_;refine bP J (go 2 ?_);have hnx:=(u_ (Li p k Y) aHp).1 IN;exact ⟨(k+1,dB n8 p.globals[k].name 1),⟨by show k+1 <= p.globals.length;omega,hnx,aLv.put _ V⟩,by show p.globals.length-(k+1)<p.globals.length-k;omega,bD (h1:=bI) (h:=ay J (cD Y) (ax J)) oW⟩
  refine aX J (o_ [Nb,gv] J J J V call69 (us:=[cK (p.globals[k].name),an 1]) J (Aw A B C gv gf Nb Pb _ p n8 _ _ _ rw (k) p.globals[k].name 1 IN) jT nV mO ?_);rintro _ _ ⟨rfl,rfl⟩;refine ⟨[],(λ_ b hb=>nomatch hb),?_⟩;refine go 16 ?_;have hbd:=(u_ (Li p k Y) aHp).2 IN;exact ⟨.inr J,_,⟨A++⟨C,98,[aB am p.globals,aB aT p.mutexes,aB aZ p.funcs,aC gv,aC gf,aA 0,aA 0]⟩::B,ao gf 3 aZ []::ao gv 0 bE n8::rw⟩,bK J (bN J),ai eZ (.refl _),some (k),n8,[],hbd,J,J,λh=>iH⟩
 refine aG J (cv h1) (go 11 ?_);obtain rfl:k=p.globals.length:=Y;replace aHp:hJ ((iE p).drop (p.globals.length+0)) n8 (p.globals.length+0)=hJ (iE p) [] 0:=aHp;refine go 11 ?_;refine f9 (λg:Nat×bq=>(⟨75,[Nb,Pb,C,gv,gf],⟨⟨Nb,3,[aA ((p.globals.length+g.1:Nat):Int)]⟩::⟨Pb,94,[.val (.pointer (some ⟨C,0,none⟩))]⟩::A++⟨C,98,[aB am p.globals,aB aT p.mutexes,aB aZ p.funcs,aC gv,aC gf,aA 0,aA 0]⟩::B,ao gf 3 aZ []::ao gv 0 bE g.2::rw⟩,[(36,ae g.1),(1,aF Pb),(2,an 0),(3,aF Nb),(4,av (.func (.func 69) #[] #[.pointer (some ⟨Pb,0,none⟩),.pointer (some ⟨Nb,0,none⟩)])),(34,.c (aB aT p.mutexes)),(35,ae p.mutexes.length)]⟩:AS)) (λg=>g.1 <= p.mutexes.length /\ hJ ((iE p).drop (p.globals.length+g.1)) g.2 (p.globals.length+g.1)=hJ (iE p) [] 0 /\ eH g.2 []) (λg=>p.mutexes.length-g.1) (0,n8) (bD oW) ⟨eT _,aHp,aLv⟩ ?_;rintro ⟨k,n9⟩ ⟨hk,aG3,aJl⟩;dsimp only at hk aG3 aJl
 try dsimp only
 refine go 2 ?_;by_cases h6:(k:Int)<(p.mutexes.length:Int)
 ·refine aI J (c_ h6) (go 10 ?_);refine aD J (bf aT aT p.mutexes pD (λ_=>J) k J J J J Y V mS gq) (go 15 λb2=>?_);by_cases h8:(0:Int)<p.mutexes[k].size;focus
   refine aI J (e1 h8) (go 13 ?_);have hsm:qQ p.mutexes[k]=3:=O_;by_cases IN:bz n9 p.mutexes[k].name=0
   ·refine aX J (o_ [Nb,gv] J J J V call69 (us:=[cK (p.mutexes[k].name),an 3]) J (Dl A B C gv gf Nb Pb _ p n9 _ _ _ rw (p.globals.length+k) p.mutexes[k].name 3 IN Y) jT nV mO ?_);rintro _ _ ⟨rfl,rfl⟩;refine ⟨[],(λ_ b hb=>nomatch hb),?_⟩;refine go 8 ?_;refine bP J (go 2 ?_);have hnx:=(u_ (Iu p k Y) aG3).1 IN;rw [show qQ p.mutexes[k]=3 from hsm] at hnx;exact ⟨(k+1,dB n9 p.mutexes[k].name 3),⟨by show k+1 <= p.mutexes.length;omega,hnx,aJl.put _ V⟩,NE,bD (h1:=bI) (h:=ay J (cD Y) (ax J)) oW⟩
   refine aX J (o_ [Nb,gv] J J J V call69 (us:=[cK (p.mutexes[k].name),an 3]) J (Aw A B C gv gf Nb Pb _ p n9 _ _ _ rw (p.globals.length+k) p.mutexes[k].name 3 IN) jT nV mO ?_)
  rotate_left;refine aG J (fA h8) (go 11 ?_);have hsm:qQ p.mutexes[k]=2:=O_;by_cases IN:bz n9 p.mutexes[k].name=0
  ·refine aX J (o_ [Nb,gv] J J J V call69 (us:=[cK (p.mutexes[k].name),an 2]) J (Dl A B C gv gf Nb Pb _ p n9 _ _ _ rw (p.globals.length+k) p.mutexes[k].name 2 IN Y) jT nV mO ?_);rintro _ _ ⟨rfl,rfl⟩;refine ⟨[],(λ_ b hb=>nomatch hb),?_⟩;refine go 8 ?_;refine bP J (go 2 ?_);have hnx:=(u_ (Iu p k Y) aG3).1 IN;rw [show qQ p.mutexes[k]=2 from hsm] at hnx;exact ⟨(k+1,dB n9 p.mutexes[k].name 2),⟨by show k+1 <= p.mutexes.length;omega,hnx,aJl.put _ V⟩,NE,bD (h1:=bI) (h:=ay J (cD Y) (ax J)) oW⟩
  refine aX J (o_ [Nb,gv] J J J V call69 (us:=[cK (p.mutexes[k].name),an 2]) J (Aw A B C gv gf Nb Pb _ p n9 _ _ _ rw (p.globals.length+k) p.mutexes[k].name 2 IN) jT nV mO ?_);all_goals
   rintro _ _ ⟨rfl,rfl⟩;refine ⟨[],(λ_ b hb=>nomatch hb),?_⟩;refine go 16 ?_;have hbd:=(u_ (Iu p k Y) aG3).2 IN;exact ⟨.inr J,_,⟨A++⟨C,98,[aB am p.globals,aB aT p.mutexes,aB aZ p.funcs,aC gv,aC gf,aA 0,aA 0]⟩::B,ao gf 3 aZ []::ao gv 0 bE n9::rw⟩,bK J (bN J),ai eZ (.refl _),some (p.globals.length+k),n9,[],hbd,J,J,λh=>iH⟩
 refine aG J (cv h6) (go 11 ?_);obtain rfl:k=p.mutexes.length:=Y;replace aG3:hJ ((iE p).drop (p.globals.length+p.mutexes.length+0)) n9 (p.globals.length+p.mutexes.length+0)=hJ (iE p) [] 0:=aG3;refine go 11 ?_;refine f9 (λg:Nat×bq=>(⟨75,[Nb,Pb,C,gv,gf],⟨⟨Nb,3,[aA ((p.globals.length+p.mutexes.length+g.1:Nat):Int)]⟩::⟨Pb,94,[.val (.pointer (some ⟨C,0,none⟩))]⟩::A++⟨C,98,[aB am p.globals,aB aT p.mutexes,aB aZ p.funcs,aC gv,aC gf,aA 0,aA 0]⟩::B,ao gf 3 aZ (iQ (p.funcs.take g.1))::ao gv 0 bE g.2::rw⟩,[(57,ae g.1),(1,aF Pb),(2,an 0),(3,aF Nb),(4,av (.func (.func 69) #[] #[.pointer (some ⟨Pb,0,none⟩),.pointer (some ⟨Nb,0,none⟩)])),(55,.c (aB aZ p.funcs)),(56,ae p.funcs.length)]⟩:AS)) (λg=>g.1 <= p.funcs.length /\ hJ ((iE p).drop (p.globals.length+p.mutexes.length+g.1)) g.2 (p.globals.length+p.mutexes.length+g.1)=hJ (iE p) [] 0 /\ eH g.2 (iQ (p.funcs.take g.1))) (λg=>p.funcs.length-g.1) (0,n9) (bD oW) ⟨eT _,aG3,aJl⟩ ?_;rintro ⟨k,WD⟩ ⟨hk,aIi,aJm⟩;dsimp only at hk aIi aJm
 try dsimp only
 refine go 2 ?_;by_cases h16:(k:Int)<(p.funcs.length:Int)
 ·refine aI J (c_ h16) (go 10 ?_);refine aD J (bf aZ aZ p.funcs mH (λ_=>J) k J J J J Y V fU dn) (go 11 λb3=>?_);by_cases IN:bz WD p.funcs[k].name=0
  ·refine aX J (o_ [Nb,gv] J J J V call69 (us:=[cK (p.funcs[k].name),an 5]) J (Dl A B C gv gf Nb Pb _ p WD _ _ _ rw (p.globals.length+p.mutexes.length+k) p.funcs[k].name 5 IN Y) jT nV mO ?_);rintro _ _ ⟨rfl,rfl⟩;refine ⟨[],(λ_ b hb=>nomatch hb),?_⟩;refine go 6 ?_;refine cB [b3,Nb,Pb,C] (aa [0,1,2,3,4,5,6] 1 (go 8 ?_));refine aW 7 J J (Wd (m:=3) (ev:=aZ) (b:=p.funcs[k]) (iQ (p.funcs.take k)) [] J J J J J V (λ_=>J) Bw eE aL rV ?_);refine bH (go 3 ?_);refine bP J (go 2 ?_);have hnx:=(u_ (Mf p k Y) aIi).1 IN;rw [JZ p.funcs k Y];exact ⟨(k+1,dB WD p.funcs[k].name 5),⟨by show k+1 <= p.funcs.length;omega,hnx,by have h9:=aJm.fun p.funcs[k].name p.funcs[k];rw [JZ p.funcs k Y] at h9;exact h9⟩,Pj,bD (h1:=bI) (h:=ay J (cD Y) (ax J)) oW⟩
  refine aX J (o_ [Nb,gv] J J J V call69 (us:=[cK (p.funcs[k].name),an 5]) J (Aw A B C gv gf Nb Pb _ p WD _ _ _ rw (p.globals.length+p.mutexes.length+k) p.funcs[k].name 5 IN) jT nV mO ?_);rintro _ _ ⟨rfl,rfl⟩;refine ⟨[],(λ_ b hb=>nomatch hb),?_⟩;refine go 17 ?_;have hbd:=(u_ (Mf p k Y) aIi).2 IN;exact ⟨.inr J,_,⟨A++⟨C,98,[aB am p.globals,aB aT p.mutexes,aB aZ p.funcs,aC gv,aC gf,aA 0,aA 0]⟩::B,ao gf 3 aZ (iQ (p.funcs.take k))::ao gv 0 bE WD::rw⟩,bK J (bN J),ai eZ (.refl _),some (p.globals.length+p.mutexes.length+k),WD,(iQ (p.funcs.take k)),hbd,J,J,λh=>iH⟩
 refine aG J (cv h16) (go 10 ?_);obtain rfl:k=p.funcs.length:=Y;rw [mi Eq,hJ] at aIi;rw [take_of_length_le (bX _)] at aJm;refine go 5 ?_;rw [take_of_length_le (bX _)];exact ⟨.inr J,_,⟨A++⟨C,98,[aB am p.globals,aB aT p.mutexes,aB aZ p.funcs,aC gv,aC gf,aA 0,aA 0]⟩::B,ao gf 3 aZ (iQ p.funcs)::ao gv 0 bE WD::rw⟩,bK J (bN J),ai cq (.refl _),none,WD,iQ p.funcs,aIi.symm,J,J,λ_=>⟨J,aJm⟩⟩
instance aDv:dy prog 77 [.val (.map none),.val (.map none),.val (.map none),.val (.map none),.val (.map none),aA 0,aK,aK,aA 0]:=⟨_,zeroValue77,rfl⟩
instance aBQ:iZ prog 77 [(0,1),(1,1),(2,1),(3,1),(4,1),(5,1),(6,1),(7,1),(8,1)] [.val (.map none),.val (.map none),.val (.map none),.val (.map none),.val (.map none),aA 0,aK,aK,aA 0]:=⟨_,Tryz.t77,_,underlying77,aQ,rfl,aQ,rfl⟩
instance aAG:dy prog 98 [aK,aK,aK,.val (.map none),.val (.map none),aA 0,aA 0]:=⟨_,zeroValue98,rfl⟩
instance aEd:iZ prog 98 [(0,3),(3,1),(4,1),(5,1),(6,1)] [aK,aK,aK,.val (.map none),.val (.map none),aA 0,aA 0]:=⟨_,Tryz.t98,_,underlying98,aQ,rfl,aQ,rfl⟩
def X7{p:aY}(h:gw p=false):pM p=(-1,-1,10):=by unfold pM;rw [if_pos h]
def RD{p:aY}{i:Nat}{v:bq}(h:gw p=true)(hd:hJ (iE p) [] 0=(some i,v)):pM p=(-1,(i:Int),5):=by unfold pM;rw [if_neg oD,hd]
def Mi{p:aY}{v:bq}(h:gw p=true)(hd:hJ (iE p) [] 0=(none,v))(hm:qu p=false):pM p=(-1,-1,9):=by unfold pM;rw [if_neg oD,hd];dsimp only;rw [if_neg (by rw [hm];decide)]
def KT{p:aY}{v:bq}(h:gw p=true)(hd:hJ (iE p) [] 0=(none,v))(hm:qu p=true):pM p=nz (iQ p.funcs) p.funcs 0 v:=by unfold pM;rw [if_neg oD,hd];dsimp only;rw [if_pos hm]
def V0{p:aY}(h:dX (iQ p.funcs) yY=none):qu p=false:=by unfold qu;rw [h]
def LP{p:aY}{f:bB}(h:dX (iQ p.funcs) yY=some f):qu p=decide (f.params.length=0):=by unfold qu;rw [h]
def Ix{fs:dT}{l:List bB}{v v0:bq}{k:Nat}(hk:k<l.length)(h:nz fs (l.drop k) k v=nz fs l 0 v0):
  ((j9 fs l[k] v).1=0 -> nz fs (l.drop (k+1)) (k+1) (j9 fs l[k] v).2.ch=nz fs l 0 v0) /\ ((j9 fs l[k] v).1≠0 -> nz fs l 0 v0=((k:Int),(j9 fs l[k] v).2.at_,(j9 fs l[k] v).1)):=by
 rw [ic hk,nz] at h;refine ⟨λh0=>?_,λh0=>?_⟩
 ·rw [if_pos h0] at h;exact h
 rw [if_neg h0] at h;exact h.symm
def ML(p:aY)(hs:p.bt)(hw:p.wt <= 9000000)(s:aJ):aU prog 14 [cM (.agg (dl p))] [] s λt s'=>∃(f s0:Int) (e:Nat),pM p=(f,s0,e) /\ t=.fd [an f,an s0,ae e] /\ s'=s:=by
 obtain ⟨bx,rw⟩:=s;have hwq:=hw;unfold aY.wt at hwq;have hfl:=oE bB.wt wL p.funcs;refine bR 61 func14 ?_;refine go 12 λb1=>?_;rcases bw (gw p) with h1|h1
 ·refine d8 0 J call31 J (LH p hs hw _) h1 (go 9 ?_);refine aX J (vW 0 (bE) J J V λgv=>?_);refine aX J (vW 3 (aZ) J J V λgf=>?_);refine go 9 λC=>?_;refine aX J (bm [C,gv,gf] J J V call32 J (Qi [] _ C gv gf p rw Y Y Y) (by intro b hb;simp at hb⊢;rcases hb with rfl|rfl|rfl<;>simp) (by intro b hb;simp at hb;rcases hb with rfl|rfl|rfl<;>simp [aJ.bl,sB]) (by intro _ b hb;simp at hb⊢;rcases hb with rfl|rfl|rfl<;>simp) ?_);rintro _ _ ⟨r,v0,fsx,hd,rfl,rfl,hok⟩;rcases r with _|ix
  ·obtain ⟨rfl,hf0⟩:=hok rfl;clear hok;show cO prog _ _ ⟨_,_,_,(_,an (-1))::_⟩ _;refine go 6 ?_;refine aG J J (go 12 ?_);rcases hmn:dX (iQ p.funcs) yY with _|fm
   ·refine aD J (W6 (m:=3) (ev:=aZ) (iQ p.funcs) J J J aL V (λ_=>J) Bw eE sQ jM hmn (.agg [ah ⟨#[]⟩,aK,aK]) J) (go 30 λb4=>?_);exact ⟨.inr J,_,⟨bx,rw⟩,ru J (bN J) (bN J) (bN J),ai eZ cq,-1,-1,9,Mi h1 hd (V0 hmn),J,J⟩
   refine aD J (Rq (m:=3) (ev:=aZ) (iQ p.funcs) J J J aL V (λ_=>J) Bw eE sQ jM hmn) (go 16 λb5=>?_);by_cases h5:(0:Int)<(fm.params.length:Int)
   ·refine aI J (e1 h5) (go 13 ?_);exact ⟨.inr J,_,⟨bx,rw⟩,ru J (bN J) (bN J) (bN J),ai eZ cq,-1,-1,9,Mi h1 hd (by rw [LP hmn];exact decide_eq_false Y),J,J⟩
   refine aG J (fA h5) (go 16 ?_);have hmz:qu p=true:=by rw [LP hmn];exact decide_eq_true Y
   refine f9 (λg:Nat×bq×Int×Int=>(⟨61,[b5,C,gf,gv,b1],⟨⟨b5,67,aZ fm⟩::⟨C,98,[aB am p.globals,aB aT p.mutexes,aB aZ p.funcs,aC gv,aC gf,aA g.2.2.1,aA g.2.2.2]⟩::⟨b1,27,dl p⟩::bx,ao gf 3 aZ (iQ p.funcs)::ao gv 0 bE g.2.1::rw⟩,[(44,ae g.1),(1,aF b1),(2,an 0),(3,an 0),(4,an 0),(5,aF C),(7,aF b5),(42,.c (aB aZ p.funcs)),(43,ae p.funcs.length)]⟩:AS)) (λg=>g.1 <= p.funcs.length /\ nz (iQ p.funcs) (p.funcs.drop g.1) g.1 g.2.1=nz (iQ p.funcs) p.funcs 0 v0 /\ eH g.2.1 (iQ p.funcs)) (λg=>p.funcs.length-g.1) (0,v0,0,0) (bD oW) ⟨eT _,J,hf0⟩ ?_;rintro ⟨k,ch,n0,a0⟩ ⟨hk,hst,hfk⟩;dsimp only at hk hst hfk
   try dsimp only
   refine go 2 ?_;by_cases h8:(k:Int)<(p.funcs.length:Int)
   ·refine aI J (c_ h8) (go 11 ?_);refine aD J (bf aZ aZ p.funcs mH (λ_=>J) k J J J J Y V fU dn) (go 10 λb6=>?_);refine aX J (bm [C,gv] J J V call33 J (XF [_,_] _ C gv gf p (iQ p.funcs) [_] rw aL _ _ ch p.funcs[k] hfk Eo) jT nV mO ?_);rintro _ _ ⟨e,y,hy,rfl,rfl⟩;refine go 6 ?_;by_cases h10:(e:Int)=0
    ·refine aG J (fF h10) (go 7 ?_);refine bP J (go 2 ?_);have hnx:=(Ix Y hst).1 (by rw [hy];show e=0;omega);rw [hy] at hnx;have hf1:=SX p.funcs[k] hfk;rw [hy] at hf1;exact ⟨(k+1,y.ch,(y.n:Int),y.at_),⟨by show k+1 <= p.funcs.length;omega,hnx,hf1⟩,Pj,bD (h1:=bI) (h:=ay J (cD Y) (ax J)) oW⟩
    refine aI J (fl h10) (go 4 ?_);refine cB [b6,b5,C,b1] (aa [0,1,2,3,4,5,6,7,8] 0 (go 10 ?_));refine bH (go 7 ?_);exact ⟨.inr J,_,⟨bx,rw⟩,ru J (bN J) (bN J) (bN J),ai tH cq,(k:Int),y.at_,e,(by rw [KT h1 hd hmz,(Ix Y hst).2 (by rw [hy];show e≠0;omega),hy]),J,J⟩
   refine aG J (cv h8) (go 17 ?_);exact ⟨.inr J,_,⟨bx,rw⟩,ru J (bN J) (bN J) (bN J),ai eZ cq,0,0,0,(by rw [KT h1 hd hmz,←hst,mi Y];rfl),J,J⟩
  show cO prog _ _ ⟨_,_,_,(_,ae ix)::_⟩ _;refine go 6 ?_;refine aI J (nB Y) (go 13 ?_);exact ⟨.inr J,_,⟨bx,rw⟩,ru J (bN J) (bN J) (bN J),ai cq cq,-1,(ix:Int),5,RD h1 hd,J,J⟩
 refine d8 0 J call31 J (LH p hs hw _) h1 (go 13 ?_);exact ⟨.inr J,_,⟨bx,rw⟩,ru J (bN J) (bN J) (bN J),ai bI (.refl _),-1,-1,10,X7 h1,J,J⟩
section
variable {P:Program}{U T:List Nat}{o:Oper}{n d:Nat}{ts:List (Nat×AT)}{s:aJ}{K:AS -> Prop}
theorem YT{t yt e:bA}{x y:bb}{k:Nat}{cs:List aO}(ho:o.op=.binOp .eql t x y yt)(hd:o.dst=some d)(hn:d<n)(hx:aw ⟨n,T,s,ts⟩ x=some (.c (.sl k cs)))(hy:aw ⟨n,T,s,ts⟩ y=some (.c (aK)))(ht:P.underlying t=some (.slice e))
  (h:∀b:Bool,(b=true -> cs=[]) -> K ⟨n,T,s,(d,bC b)::ts⟩):dZ P U o ⟨n,T,s,ts⟩ K:=by
 intro a w hs KK QQ hK;have hxe:=hs.ev hx;generalize hxv:a.eval x=xv at hxe;cases hxe with
 |c _ _ hr=>
  cases hr with
  |sl _ _ us _ hrow hl hr hcap=>
   obtain ⟨p,cap,he,hc,hrr⟩:=hrow;subst he;have hb:p.isNone=true -> cs=[]:=λhp=>by
    rcases hrr with h0|⟨b,off,h1,-⟩
    ·subst h0;exact ym (by rw [←hl];rfl)
    subst h1;cases hp
   have goal:KK (a.put o.dst (.bool p.isNone)) w:=by
    rw [hd];refine hK _ _ _ (h p.isNone hb) ((hs.step (w1:=w) T (cQ.refl _ _) hs.mem (λb hb=>.inl hb)).put (v:=.bool p.isNone) hn (.c _ _ (.val _ J))) ⟨cQ.refl _ _,cQ.refl _ _,λb hb=>.inl hb,λg hg=>.inl hg⟩ (cQ.refl _ _)
   have hr2:=Lib.run_eql_slice_nil w t e p k cap 0 0 ht;unfold Oper.wp;rw [show (execOp a.eval o).run P w=.ok (.value (.bool p.isNone)) w from by simp only [execOp,ho,hxv,hs.val hy];simp [go_sem,eqGuard,hr2]];exact goal
end
def Cy{p:aY}{f s:Int}{e:Nat}(h:gY p=(f,s,e))(he:e=0):f=0 /\ s=0:=by
 subst he;unfold gY at h;split at h
 ·cases h
 split at h
 ·cases h
 split at h
 ·have g:∀(l:List bB)(k:Nat)(f s:Int),lS p l k=(f,s,0) -> f=0 /\ s=0:=λl=>by
   induction l with
   |nil=>intro k f s h;rw [lS] at h;cases h;exact ⟨rfl,rfl⟩
   |cons a l ih=>
    intro k f s h;rw [lS] at h;split at h
    ·exact ih _ _ _ h
    rename_i h0;exact absurd (congrArg (λx=>x.2.2) h) h0
  exact g _ _ _ _ h
 ·cases h
def MI{T:List Nat}{bx:List aV}{rw:List aP}{D gg gm gf:Nat}{E:bA}{cs:List aO}{l1 l2 l3:bq}(hn:(⟨⟨D,E,cs⟩::bx,ao gf 0 bE l3::ao gm 0 bE l2::ao gg 0 bE l1::rw⟩:aJ).bl.Nodup):∀b,b∈[D,gg,gm,gf] -> b∈(⟨⟨D,E,cs⟩::bx,ao gf 0 bE l3::ao gm 0 bE l2::ao gg 0 bE l1::rw⟩:aJ).bl /\ (b∈(⟨bx,rw⟩:aJ).bl -> b∈T):=by
 intro b hb;refine ⟨by simp only [mem_cons,not_mem_nil,or_false] at hb;unfold aJ.bl;simp only [dE,ec,tu,mem_append,mem_cons,not_mem_nil,or_false];grind,λh9=>absurd h9 λh9=>?_⟩;unfold aJ.bl at hn h9;simp only [dE,ec,tu,eA,cg] at hn;simp only [mem_cons,not_mem_nil,or_false] at hb;rcases mem_append.1 h9 with h9|h9
 ·rcases hb with rfl|rfl|rfl|rfl<;>simp [m5,eN] at hn<;>grind
 rcases hb with rfl|rfl|rfl|rfl<;>simp [m5,eN] at hn<;>grind
def M2(l:List cn)(hl:l.length <= 9000000)(s:aJ):aU prog 26 [.c (aB aT l)] [] s λt s'=>t=.c (aB aT l) /\ s'=s:=by
 obtain ⟨bx,rw⟩:=s;refine bR 8 func26 ?_;refine go 9 ?_;refine aX J (YT J J V J J gN λbn hbn=>?_);rcases bw bn with rfl|rfl
 ·obtain rfl:l=[]:=by cases l with|nil=>rfl|cons m r=>exact absurd (congrArg List.length (hbn rfl)) (by simp [pD])
  refine go 10 ?_;exact ⟨.inr J,_,⟨bx,rw⟩,bK J (gP (bL.c pu) (bN J)),ai (.refl _) (.refl _),J,J⟩
 refine go 7 ?_;refine aX J (fE gN gq λg1=>?_);refine go 1 ?_;refine aX J (eU [] Tryz.t60 32 J J V J J gN aQ J J J J V (dD aT 3 (λ_=>J) l) cN Y (cp l.length) (λ_=>cE.h) cE.h (cg _) λw2=>?_);refine iX 7 J ?_;refine go 4 ?_;exact az (s':=⟨bx,rw⟩) J d4 ⟨J,J⟩
def Qc(p:aY)(hs:p.bt)(hw:p.wt <= 9000000)(s:aJ):aU prog 9 [cM (.agg (dl p))] [] s λt s'=>t=.fd [.agg (uY (tp p)),an ((gY p).1),an ((gY p).2.1),an (((gY p).2.2:Nat):Int)] /\ s'=s:=by
 obtain ⟨bx,rw⟩:=s;have hall:=zJ p;have hwq:=hw;unfold aY.wt at hwq;have hfl:=oE bB.wt wL p.funcs;refine bR 70 func9 ?_;refine go 13 λb1 b2=>?_;refine aX J (oM 0 [] J J V call14 J J (ML p hs hw _) dJ dJ (λ_=>dJ) ?_);rintro _ _ ⟨f0,s0,be,hc,rfl,rfl⟩;rw [LO] at hc;refine go 12 ?_;by_cases h1:(be:Int)=0
 ·refine aG J (fF h1) (go 8 ?_);obtain ⟨rfl,rfl⟩:=Cy hc Y;obtain rfl:be=0:=Y;obtain ⟨hv0,hM,hfe,hmn⟩:=N' hc;refine aX J (rr [] J J V call25 J (OW p Y Y Y _) dJ dJ (λ_=>dJ) ?_);rintro _ _ ⟨D,gg,gm,gf,rfl,rfl⟩;refine ⟨[D,gg,gm,gf],MI,?_⟩;refine go 3 ?_;refine tT (λg:Nat=>(⟨70,[g,D,b2,b1,gg,gm,gf],⟨⟨g,31,[aK,aB aT p.mutexes,aK,aA (((bQ (bd p) eK).n:Nat):Int)]⟩::⟨D,77,[aC gg,aC gm,aC gf,.val (.map none),.val (.map none),aA 0,aK,aK,aA 0]⟩::⟨b2,31,[aK,aK,aK,aA 0]⟩::⟨b1,27,dl p⟩::bx,ao gf 0 bE (eL bB.name p.funcs p.funcs.length)::ao gm 0 bE (eL cn.name p.mutexes p.mutexes.length)::ao gg 0 bE (eL b_.name p.globals p.globals.length)::rw⟩,[(10,aF g),(1,aF b1),(2,aF b2),(9,aF D)]⟩:AS)) ?_ ?_
  ·refine cB [D,b2,b1,gf] (aa [0,1,3,4,5,6] 5 (go 7 ?_));refine ac 7 J (oV (eL bB.name p.funcs p.funcs.length) J J J aL mD eE qw nC) ?_;refine cA 2 9 J ?_ ?_;focus
    refine (da J J V call26 J (M2 p.mutexes Y _) ?_);rintro _ _ ⟨rfl,rfl⟩;refine ac 8 J (id <|y_ Tryz.t31 [(0,1),(1,1),(2,1),(3,1)] J (.cons J (.cons J .nil)) underlying31 aQ J aQ J J) (cY [(9,false)] 1 (go 2 λb4=>?_))
   rotate_left;refine (jm J J V Bs J λb4=>?_);refine aW 2 J J (da J J V call26 J (M2 p.mutexes Y _) ?_);rintro _ _ ⟨rfl,rfl⟩;refine ac 8 J (id <|y_ Tryz.t31 [(0,1),(1,1),(2,1),(3,1)] J (.cons J (.cons J .nil)) underlying31 aQ J aQ J J) ?_;all_goals
    refine aW 10 J J (id <|Ov J J J J J qD J (fS J) (Cs J) aL Ks ?_);refine bH ?_;rw [show bz (eL bB.name p.funcs p.funcs.length) (⟨#[109,97,105,110]⟩:aH)=_ from hmn];exact ⟨b4,bD lB⟩
  rintro b5
  try dsimp only
  refine go 10 ?_;refine f_ 3 1 ?_;refine jS (α:=aN) (λ_ _=>True) (p.globals.length) 41 (λg=>aR g++([b5,D,b2,b1,gg,gm,gf])) (λk g=>⟨⟨b5,31,[.val g,aB aT p.mutexes,aK,aA (((bQ (bd p) eK).n:Nat):Int)]⟩::⟨D,77,[aC gg,aC gm,aC gf,.val (.map none),.val (.map none),aA 0,aK,aK,aA 0]⟩::⟨b2,31,[aK,aK,aK,aA 0]⟩::⟨b1,27,dl p⟩::bx,⟨g,3,1,k,((p.globals.take k).map b_.init).map λx=>aA x⟩::ao gf 0 bE (eL bB.name p.funcs p.funcs.length)::ao gm 0 bE (eL cn.name p.mutexes p.mutexes.length)::ao gg 0 bE (eL b_.name p.globals p.globals.length)::rw⟩) (λ_=>[(1,aF b1),(2,aF b2),(9,aF D),(10,aF b5),(39,.c (aB am p.globals)),(40,ae p.globals.length)]) (.slice none 0 0) trivial (bD DR) ?_;rintro k v0 hk -
  try dsimp only
  refine go 2 ?_;by_cases h3:(k:Int)<(p.globals.length:Int)
  ·refine aI J (c_ h3) (go 9 ?_);have hkl:k<p.globals.length:=Y;refine go 1 ?_;refine aD J (bf am am p.globals oU (λ_=>J) k J J J J Y V mt jX) (go 10 λb6=>?_);refine aX J (bV (r:=[aA (p.globals[k].init)]) qA ?_);refine aX J (dQ [] DU J J V cN Y (N:=k+1) J (λ_=>cE.h) cE.h (Jk b_.init p.globals k Y) λw7=>?_);refine go 6 ?_;refine bP J (go 2 ?_);exact ⟨Y,w7,trivial,bD (h1:=bI) (h:=ay J (cD Y) (ax J)) lB⟩
  refine aG J (cv h3) (go 12 ?_);obtain rfl:k=p.globals.length:=Y;rw [hG];refine go 7 ?_;refine f_ 79 5 ?_;refine jS (α:=aN×(Nat -> aO)) (λ_ _=>True) (p.funcs.length) 56 (λg=>aR g.1++(aR v0++[b5,D,b2,b1,gg,gm,gf])) (λk g=>⟨⟨b5,31,[.val v0,aB aT p.mutexes,.val g.1,aA (((bQ (bd p) eK).n:Nat):Int)]⟩::⟨D,77,[aC gg,aC gm,aC gf,(g.2 0),(g.2 1),(g.2 2),(g.2 3),(g.2 4),(g.2 5)]⟩::⟨b2,31,[aK,aK,aK,aA 0]⟩::⟨b1,27,dl p⟩::bx,⟨g.1,79,5,k,((p.funcs.take k).map (ff p)).flatMap gV⟩::⟨v0,3,1,p.globals.length,((p.globals).map b_.init).map λx=>aA x⟩::ao gf 0 bE (eL bB.name p.funcs p.funcs.length)::ao gm 0 bE (eL cn.name p.mutexes p.mutexes.length)::ao gg 0 bE (eL b_.name p.globals p.globals.length)::rw⟩) (λ_=>[(1,aF b1),(2,aF b2),(9,aF D),(10,aF b5),(54,.c (aB aZ p.funcs)),(55,ae p.funcs.length)]) (.slice none 0 0,λj=>(if j=0 then .val (.map none) else if j=1 then .val (.map none) else if j=2 then aA 0 else if j=3 then aK else if j=4 then aK else aA 0)) trivial (bD DR) ?_;rintro k ⟨v2,y⟩ hk -
  try dsimp only
  refine go 2 ?_;by_cases h6:(k:Int)<(p.funcs.length:Int)
  ·refine aI J (c_ h6) (go 9 ?_);have hkl:k<p.funcs.length:=Y;refine go 1 ?_;refine aD J (bf aZ aZ p.funcs mH (λ_=>J) k J J J J Y V fU dn) (go 5 λb8=>?_);refine lR 8 [b8,b5,b2,b1] [] #[true,true,true,true,true,true,true,true,false] aQ aQ aQ ?_;refine aa [0,1,2,3] 4 (go 5 ?_);have hfk:=hfe p.funcs[k] (getElem_mem hkl);have hfw:bB.wt p.funcs[k] <= 20000000:=by have:=qU bB.wt p.funcs k hkl;unfold aY.wt at hw;omega
   refine aW 4 J J (bm [D] J J V call27 J (PL [_,_] _ D gg gm gf p (eL b_.name p.globals p.globals.length) (eL cn.name p.mutexes p.mutexes.length) (eL bB.name p.funcs p.funcs.length) _ _ _ _ _ _ _ p.funcs[k] hM aL aL aL (uA p) Y hfw hfk.2 hfk.1) dd db PO ?_);rintro _ _ ⟨rfl,x3,x4,x5,x6,x8,rfl⟩;refine aW 5 J J (bV (hf:=dc gV gV (ff p p.funcs[k]) J J J) P0 ?_);refine aW 6 J J (dQ [] KP J (dD gV 5 B3 _) V cN Y (N:=k+1) J (λhn b hb=>cx (r:=(⟨v2,79,5,k,((p.funcs.take k).map (ff p)).flatMap gV⟩:aP)) hn hb) cE.h (wD (ff p) gV p.funcs k Y) λw10=>?_);refine aa [7] 0 (go 2 ?_);refine bH ?_;refine id ?_;refine cY [(8,false)] 0 (go 2 ?_);refine bH (go 3 ?_);refine bP J (go 2 ?_);exact ⟨Y,(w10,λj=>(if j=0 then x3 else if j=1 then x4 else if j=2 then x5 else if j=3 then x6 else if j=4 then .sl (l_ p p.funcs[k]).length ((l_ p p.funcs[k]).map λx=>aA x) else x8)),trivial,bD (h1:=bI) (h:=ay J (cD Y) (ax J)) lB⟩
  refine aG J (cv h6) (go 11 ?_);obtain rfl:k=p.funcs.length:=Y;rw [hG];refine eD (cs':=[.val v0,aB aT p.mutexes,.sl p.funcs.length ((p.funcs.map (ff p)).flatMap gV),aA (((bQ (bd p) eK).n:Nat):Int)]) [] 2 J J ?_;show cO prog _ _ ⟨_,_,⟨⟨b5,31,[.val v0,aB aT p.mutexes,.sl p.funcs.length ((p.funcs.map (ff p)).flatMap gV),aA (((bQ (bd p) eK).n:Nat):Int)]⟩::⟨D,77,[aC gg,aC gm,aC gf,(y 0),(y 1),(y 2),(y 3),(y 4),(y 5)]⟩::⟨b2,31,[aK,aK,aK,aA 0]⟩::⟨b1,27,dl p⟩::bx,_⟩,_⟩ _;refine eD (cs':=[.sl p.globals.length ((p.globals.map b_.init).map λx=>aA x),aB aT p.mutexes,.sl p.funcs.length ((p.funcs.map (ff p)).flatMap gV),aA (((bQ (bd p) eK).n:Nat):Int)]) [] 0 J J ?_;show cO prog _ _ ⟨_,_,⟨⟨b5,31,[.sl p.globals.length ((p.globals.map b_.init).map λx=>aA x),aB aT p.mutexes,.sl p.funcs.length ((p.funcs.map (ff p)).flatMap gV),aA (((bQ (bd p) eK).n:Nat):Int)]⟩::⟨D,77,[aC gg,aC gm,aC gf,(y 0),(y 1),(y 2),(y 3),(y 4),(y 5)]⟩::⟨b2,31,[aK,aK,aK,aA 0]⟩::⟨b1,27,dl p⟩::bx,_⟩,_⟩ _;refine go 8 ?_;exact ⟨.inr J,_,⟨bx,rw⟩,qf J (bu [_,_] J J q_ qD (cH J J)) (bN J) (bN J) (bN J),ai tH eZ,by rw [MG hc,hc];unfold uY;dsimp only;first|(rw [gI,gI];rfl)|(unfold aB;rw [gI,gI];rfl),J⟩
 refine aI J (fl h1) (go 17 ?_);exact ⟨.inr J,_,⟨bx,rw⟩,qf J (gP (bL.agg (.n (.n (.n (.r .nil))))) (bu [] J J q_ qD (cH J J))) (bN J) (bN J) (bN J),ai cq (.refl _),by rw [D2 hc Y,hc];rfl,J⟩
def kW(p:aY)(f:Int):List Int:=if (gY p).2.2=0 then (if 0 <= f then (match p.funcs[f.toNat]? with|some g=>l_ p g|none=>[]) else []) else []
def IG{p:aY}{f a b:Int}{e:Nat}(h:gY p=(a,b,e))(he:e≠0):kW p f=[]:=by unfold kW;rw [h,if_neg he]
def E7{p:aY}{f:Int}(hf:f<0):kW p f=[]:=by unfold kW;split;rw [if_neg Y];rfl
def GR{p:aY}{f:Int}(hf:(p.funcs.length:Int) <= f):kW p f=[]:=by
 unfold kW;split
 ·rw [if_pos Y,xt Y]
 rfl
def HJ{p:aY}{k:Nat}(h:gY p=(0,0,0))(hk:k<p.funcs.length):kW p (k:Int)=l_ p p.funcs[k]:=by
 unfold kW;rw [h,if_pos rfl,if_pos Y,show (k:Int).toNat=k by omega,k_ hk]
def CU(p:aY)(f:Int)(hs:p.bt)(hw:p.wt <= 9000000)(s:aJ):aU prog 20 [cM (.agg (dl p)),an f] [] s λt s'=>t=.c (.sl (kW p f).length ((kW p f).map λx=>aA x)) /\ s'=s:=by
 obtain ⟨bx,rw⟩:=s;have hall:=zJ p;have hwq:=hw;unfold aY.wt at hwq;have hfl:=oE bB.wt wL p.funcs;refine bR 41 func20 ?_;refine go 10 λb1=>?_;refine aX J (oM 0 [] J J V call14 J J (ML p hs hw _) dJ dJ (λ_=>dJ) ?_);rintro _ _ ⟨f0,s0,be,hc,rfl,rfl⟩;rw [LO] at hc;refine go 12 ?_;by_cases h1:(be:Int)=0
 ·refine aG J (fF h1) (go 2 ?_);by_cases h2:f<0
  ·refine aI J (c_ h2) (go 18 ?_);exact ⟨.inr J,_,⟨bx,rw⟩,bK J (gP (bL.c pu) (bN J)),ai bI (.refl _),by rw [E7 Y];rfl,J⟩
  refine aG J (cv h2) (go 6 ?_);by_cases h4:(p.funcs.length:Int) <= f
  ·refine aI J (nB h4) (go 11 ?_);exact ⟨.inr J,_,⟨bx,rw⟩,bK J (gP (bL.c pu) (bN J)),ai bI (.refl _),by rw [GR Y];rfl,J⟩
  refine aG J (oQ h4) (go 9 ?_);obtain ⟨rfl,rfl⟩:=Cy hc Y;obtain rfl:be=0:=Y;obtain ⟨hv0,hM,hfe,hmn⟩:=N' hc;refine aX J (rr [] J J V call25 J (OW p Y Y Y _) dJ dJ (λ_=>dJ) ?_);rintro _ _ ⟨D,gg,gm,gf,rfl,rfl⟩;refine ⟨[D,gg,gm,gf],MI,?_⟩;refine go 5 ?_;obtain ⟨kk,rfl⟩:∃kk:Nat,f=(kk:Int):=⟨f.toNat,Y⟩;have hkk:kk<p.funcs.length:=Y;refine go 4 ?_;refine aD J (bf aZ aZ p.funcs mH (λ_=>J) kk J J J J Y V fU dn) (go 1 ?_);have hfk:=hfe p.funcs[kk] (getElem_mem hkk);have hfw:bB.wt p.funcs[kk] <= 20000000:=QF;refine aX J (bm [D] J J V call27 J (PL [] _ D gg gm gf p (eL b_.name p.globals p.globals.length) (eL cn.name p.mutexes p.mutexes.length) (eL bB.name p.funcs p.funcs.length) _ _ _ _ _ _ _ p.funcs[kk] hM aL aL aL (uA p) Y hfw hfk.2 hfk.1) (bY) (bY (h:=by simp [aJ.bl])) (λ_=>bY) ?_);rintro _ _ ⟨rfl,x3,x4,x5,x6,x8,rfl⟩;refine go 12 ?_;exact ⟨.inr J,_,⟨bx,rw⟩,bK J (bN J),ai cq eZ,by rw [HJ hc hkk],J⟩
 refine aI J (fl h1) (go 21 ?_);exact ⟨.inr J,_,⟨bx,rw⟩,bK J (gP (bL.c pu) (bN J)),ai bI (.refl _),by rw [IG hc Y];rfl,J⟩
end
section
open Go.ChangeShapes Go.WideShapes Go.ChangeAt Go.RowKit
def own:ownKnob prog.godebug=none:=aQ
def laidOut:laidOutB prog=true:=aQ
def Yj : prog.globalNamed "lockorder/token.words" = some 0 := by kernel_rfl
def PI{H:Type}{enc:bA×aN -> H}{P:Program}{w:ab}{base:Nat}{sp:Nat -> Bool}{held:Bool}{fuel:Nat}{t e:bA}{n:Nat}{cs:List aN}{zs:List (List UInt8)}{p:List MemPlace}
  (ht:P.underlying t=some (.array n e)) (he:P.underlying e=some .string) (hce:P.cellsOf e=1) (hct:P.cellsOf t=n)
  (h:DataW.trod enc P w base sp held fuel t cs=some (.agg (zs.map λz=>.lit (.string z)),p)):cs=zs.map λz=>Value.string (bytes z):=by
 cases fuel with
 |zero=>simp [DataW.trod] at h
 |succ fuel=>
  simp only [DataW.trod,ht,hce,hct,rZ] at h;split at h
  ·rename_i hl;obtain ⟨xs,hm,hx⟩:=zb.1 h;have hxs:xs.map (·.1)=zs.map λz=>(DataW.lit (.string z):DataW H):=by
    have:=congrArg Prod.fst hx;simpa using this
   have hxl:xs.length=n:=by simpa using Lib.mapM_length hm
   have hzl:zs.length=n:=by
    have:=congrArg List.length hxs;simp at this;omega
   apply CC
   intro i;by_cases hi:i<n
   ·obtain ⟨b,hb,hf⟩:=Lib.mapM_at hm i i (by simp [hi]);obtain ⟨z,hc,rfl,_⟩:=DataW.trod_string he hf;have h1:cs[i]?=some (.string z):=by
     have:=congrArg (·[0]?) hc
     simpa [oy,qX] using this
    have h2:(xs.map (·.1))[i]?=some (DataW.lit (.string z.data.toList):DataW H):=by simp [hb]
    rw [hxs] at h2;simp only [nb,zb,DataW.lit.injEq,Lit.string.injEq] at h2;obtain ⟨z',hz',he'⟩:=h2;simp [h1,hz',bytes,he']
   rw [xt Y,xt dh]
  cases h
def LQ:List (List UInt8):=words.map λb=>b.data.toList
def Lc{H:Type}{enc:bA×aN -> H}{W W':ab}(hb:Below W.heap.size W W'):
  ∀{ts:List bA} {vs:List aN} {ds:List (DataW H)} {ps:List MemPlace},(∀t∈ts,prog.readableRec t=true /\ t<prog.types.size) -> DataW.TrodAll enc prog W 0 (λ_=>true) true ts vs ds ps -> (∀x∈ps,x.block<W.heap.size) ->
   DataW.TrodAll enc prog W' 0 (λb=>decide (b<W.heap.size)) true ts vs ds ps
 |[],_,_,_,_,h,_=>by
  obtain ⟨rfl,rfl,rfl⟩:=trodAll_nil h;exact trodAll_mk0
 |t::ts,_,_,_,hr,h,hlt=>by
  obtain ⟨v,vs1,d,ds1,a,b,rfl,rfl,rfl,h1,h2⟩:=trodAll_cons h;have ht:=hr t (me ..);exact ⟨a,b,Below.trod laidOut ht.1 ht.2 h1 hb (λx hx=>hlt x (gR _ hx)),
   Lc hb (λu hu=>hr u (eG _ hu)) h2 (λx hx=>hlt x (gx _ hx)),rfl⟩
def WY{H:Type}{enc:bA×aN -> H}{F:Func}{s:ChangeSpec}{W W':ab}{args:Array aN}{ds gs:List (DataW H)}{before:List MemPlace}
  (hW:DataW.Whole enc prog F.params.toList s.vars false W args.toList ds gs before) (hv:s.vars=[]) (hfn:s.fn H ds={results:=[.lit (.bool true)],args:=ds})
  (hread:∀t∈F.params.toList,prog.readableRec t=true /\ t<prog.types.size) (hres:F.resultTypes=#[4]) (hb:Below W.heap.size W W'):
  ∃v,Ending.returned (.bool true)=.returned v /\ s.post enc prog F false true false false W args v W':=by
 refine ⟨_,J,?_⟩;have hlt:∀p∈before,p.block<W.heap.size:=λp hp=>by simpa using hW.lt p hp
 have hW':=hW;obtain ⟨p,q,hA,hV,rfl,hfz,hnd⟩:=hW;rw [hv] at hV;obtain ⟨rfl,rfl⟩:=trodVars_none hV;simp only [eV] at hlt hW';refine ⟨ds,[],p,[],p,[],hW',?_,?_,?_,?_,λh=>iH⟩
 ·rw [hres,eV,hfn];exact trodAll_cons_mk (shut_bool underlying4 true) trodAll_mk0
 ·rw [eV,hfn];exact Lc hb hread hA hlt
 ·rw [eV,hfn,hv];rfl
 exact hb.frame _
def Wo{W:ab}{a:Addr}{u:aN}(h:W.cell? (a.add 0)=some u):∃b off,a=⟨b,off,none⟩:=by
 obtain ⟨b,off,sp⟩:=a;cases sp with
 |none=>exact ⟨b,off,rfl⟩
 |some k=>
  exfalso;simp only [Addr.add,if_true] at h;unfold World.cell? at h;split at h
  ·simp at h
  cases h
end
section
open Go.ChangeShapes Go.WideShapes Go.ChangeAt Go.RowKit
def YV{H:Type}{enc:bA×aN -> H}{W:ab}{base:Nat}{v:aN}{d:DataW H}{p:List MemPlace}(hval:Value.okWide prog W .any base 22 v)(hd:DataW.Trod enc prog W 0 (λ_=>true) true 22 v d p):
  ∃(s:List Int) (a:Option Addr) (cap:Nat),v=.slice a s.length cap /\ s.length <= cap /\ cap <= maxLen /\ d_ W v s.length (s.map (.int .i64)):=by
 obtain ⟨a,len,cap,rfl⟩:=okWide_slice ta hval;obtain ⟨fuel,hf⟩:=hd;rcases open_ints ta uP aQ hf with ⟨hcs,hx⟩|⟨a',len',cap',zs,hcs,_,hl,hm,hz,hx,hcell,hwz⟩
 ·simp [Value.cells] at hcs;obtain ⟨rfl,rfl,rfl⟩:=hcs;exact ⟨[],none,0,J,bX _,cN,d_.nil _⟩
 simp [Value.cells] at hcs;obtain ⟨rfl,rfl,rfl⟩:=hcs;simp only [if_true] at hz;have hlen:(zs.take len).length=len:=Am;refine ⟨zs.take len,some a',cap,by rw [hlen],by rw [hlen];exact hl,hm,some a',cap,by rw [hlen],by rw [hlen];exact hl,?_⟩;by_cases h0:len=0
 ·left;subst h0;rfl
 right;obtain ⟨b,off,rfl⟩:=Wo (hcell 0 Y);refine ⟨b,off,J,λj u hu=>?_⟩;have hj:j<len:=by
  rcases jv j len with h|h
  ·exact h
  rw [xt (by rw [gI,hlen];exact h)] at hu;cases hu
 have hc:=hcell j Y;rw [add_plain] at hc;rw [hc];simp only [nb,oy,if_pos hj,k_ (show j<zs.length by omega),oi] at hu;rw [←hu];simp [List.getD,show j<zs.length by omega]
end
section
open Go.ChangeShapes Go.WideShapes Go.ChangeAt Go.RowKit
def RY : prog.globalNamed "lockorder/expr.signs" = some 3 := by kernel_rfl
def Rj : prog.globalNamed "internal/strconv.uint64pow10" = some 1 := by kernel_rfl
def Pn:List (List UInt8):=lq.map λb=>b.data.toList
abbrev ES : List (String × DataW Unit) := [("math/bits.deBruijn32tab", Rows.laid_math_bits_deBruijn32tab), ("math/bits.deBruijn64tab", Rows.laid_math_bits_deBruijn64tab), ("internal/strconv.uint64pow10", Rows.laid_internal_strconv_uint64pow10), ("lockorder/token.words", Rows.laid_lockorder_token_words), ("lockorder/expr.signs", Rows.laid_lockorder_expr_signs)]
def Wi{W:ab}(h:laidMetH prog ES W)(hs:W.ShapedOpen prog):oZ W:=by
 obtain ⟨ps,hL,_⟩:=(show laidMet prog ES W from h);obtain ⟨_,_,_,_,_,_,_,_,_,_,hL,_⟩:=hL;obtain ⟨_,_,_,_,_,_,_,_,_,_,hL,_⟩:=hL;obtain ⟨g3,t3,cs3,fuel3,p3,q3,hg3,ht3,aOf,hd3,hL,_⟩:=hL;obtain ⟨g',t',cs,fuel,p,q,hg',ht',hvar,hd,hL,_⟩:=hL;obtain ⟨g2,cA,cs2,fuel2,p2,q2,hg2,ht2,aOg,hd2,_,_⟩:=hL;refine ⟨λj hj=>?_,?_,⟨λj hj=>?_⟩,?_⟩
 ·obtain rfl:=mT (Yj.symm.trans hg');obtain rfl:t'=257:=mT (ht'.symm.trans (show (prog.globals[0]?).map (·.type)=some 257 by kernel_rfl))
  have hc:=PI (zs:=LQ) (n:=11) (e:=9) underlying257 eE aQ aQ hd;have:=World.var?_cell hg' hvar j;rw [←nT,hc] at this;rw [this];simp only [LQ,oh];rw [nb,k_ hj];simp [bytes]
 ·exact cell_of_shapedOpen_int (zero:=#[.int .i64 0]) (t:=3) hs (of_decide_eq_true aQ) aQ J aQ aQ uP
 ·obtain rfl:=mT (RY.symm.trans hg2);obtain rfl:cA=266:=mT (ht2.symm.trans (show (prog.globals[3]?).map (·.type)=some 266 by kernel_rfl))
  have hc:=PI (zs:=Pn) (n:=18) (e:=9) underlying266 eE aQ aQ hd2;have:=World.var?_cell hg2 aOg j;rw [←nT,hc] at this;rw [this];simp only [Pn,oh];rw [nb,k_ hj];simp [bytes]
 obtain rfl:=mT (Rj.symm.trans hg3);obtain rfl:t3=261:=mT (ht3.symm.trans (show (prog.globals[1]?).map (·.type)=some 261 by kernel_rfl))
 unfold Lib.TabIs;rw [aOf,←Lib.cells_of_tab (zs:=Lib.pow10Tab) (k:=.u64) underlying261 underlying215 aQ aQ hd3]
def W9(os:Os)(args:Array aN):laidMet prog ES ((World.doorLaid prog 60 os).forCall (λ_ _=>0) ⟨#[],args,[]⟩).memory:=
 laidMet_of_run' 8 aQ aQ
def NI(w:ab):f7 w (bj [] w):=
 ⟨λa u h=>by rw [pH _ _ _ aL];exact h,λg cs t fz h _=>by rw [AP _ _ _ aL];exact h⟩
def Ur{w:ab}{t:AT}{v:aN}(he:oZ w)(h:cU (bj [] w) t v):cU (bj [] w) (cM t) v:=Nm h (he.up (NI w))
def Uw{P:Program}{U:List Nat}{o:Oper}{n d:Nat}{T:List Nat}{s:aJ}{ts:List (Nat×AT)}{K:AS -> Prop}{F:FuncId}{t0:AT}(i0:Nat)(ho:o.op=.call {callee:=.value (.func F),args:=#[],argTypes:=#[]})(hd:o.dst=some d)(hn:d<n)
  (hcf:∀args w,(callFunc F args).run P w=.ok (.enter F args) w) (hl:look ts i0=some (cM t0)) (hc:∀w,oZ w -> Calls P F #[] w λe w'=>e=.returned (.bool true) /\ Below w.heap.size w w')
  (h:K ⟨n,T,s,(d,bC true)::ts⟩):dZ P U o ⟨n,T,s,ts⟩ K:=by
 intro a w hs KK QQ' hK;obtain ⟨v0,-,hv0⟩:=hs.tm i0 _ hl;unfold Oper.wp;rw [show (execOp a.eval o).run P w=.ok (.enter F #[]) w from by
  simp only [execOp,ho,resolve,Deferred.ofValue,Act.eval,dI,fj,ei,invoke];rw [hcf];simp,Oper.upon_enter]
 refine (hc w (Ga hv0)).mono ?_;rintro en w' ⟨rfl,hb⟩;dsimp only;rw [hd];obtain ⟨hk,hm⟩:=Ag hs.mem hb;have s1:=hs.step (st:=⟨n,T,s,ts⟩) T (hk.mono aL) hm (λb hb=>.inl hb);exact hK _ _ _ h (s1.put hn (cU.c _ _ (.val _ J))) ⟨hk.mono aL,hk.mono aL,λb hb=>.inl hb,λb hb=>.inl hb⟩ (hk.mono aL)
def Qa{P:Program}{F:FuncId}{fn:Func}{c:Code}(hf:P.funcs[F]?=some fn)(hb:fn.body=some c)(i:Nat)(hi:i<fn.ntmps){w:ab}(he:oZ w)
  (h:br P c ⟨fn.ntmps,[],⟨[],[]⟩,[(i,cM (.raw undef))]⟩ λe st=>(e=.normal∨e=.ret) /\ ∃r s',oB P fn st r /\ jj st.s s' /\ r=bC true /\ s'=⟨[],[]⟩):Calls P F #[] w λe w'=>e=.returned (.bool true) /\ Below w.heap.size w w':=by
 have hm:Mem ⟨[],[]⟩ w:=⟨List.nodup_nil,(λb hb=>absurd hb wE),Bl,Bl⟩;refine calls_of_wp hf hb ?_;refine h _ w ⟨J,?_,λj t ht=>?_,hm⟩ _ ?_
 ·simp
 ·simp only [look] at ht;split at ht
  ·rename_i hj;subst hj;cases ht;exact ⟨undef,by simp [hi],Nm (.raw _) (he.up (NI w))⟩
  cases ht
 intro e a' w' st' q s' k;obtain ⟨he,r,s2,hres,hsub,rfl,rfl⟩:=q;obtain ⟨v,h1,h2⟩:=hres a' w' s';have hv:v=.bool true:=by cases h1 with|c _ _ h4=>cases h4;rfl
 subst hv;have hk:=k.ls;rcases he with rfl|rfl;rotate_left;all_goals
  exact ⟨s'.df,_,h2,J,⟨hk.os,hk.tape,hk.output,hk.size,λj hj=>hk.block j hj aL⟩⟩
end
section
open Go.RowKit
structure gi (l:List Tok):Prop where
 last:qM l
 reg:∀t,t∈l -> Bi t
 len:l.length <= 1000000
def lQ(l:List Tok)(k:Nat)(s:ByteArray):Bool:=(decide ((dm l k).kind=4)||decide ((dm l k).kind=3)) && decide ((dm l k).text=s)
def sd{e:Nat}(h:e≠0):ed .eql (e:Int) 0=some false:=rB
def ry{m n:Nat}:ed .eql (m:Int) (n:Int)=some (decide (m=n)):=by
 by_cases h:m=n
 ·subst h;simp [ed]
 have h2:¬(m:Int)=(n:Int):=Y;simp [ed,h,h2]
def Lf{l:List Tok}(h:gi l){k:Nat}(hk:k<l.length){s:List UInt8}(hr:fP (bytes s)=false):lQ l k (bytes s)=fZ l k s:=by
 unfold lQ fZ;rw [nX hk];have h1:=h.reg _ (getElem_mem hk);by_cases ht:l[k].text=bytes s
 ·by_cases h3:l[k].kind=3
  ·have:=h1.1 h3;rw [ht,hr] at this;cases this
  simp [ht,h3]
 simp [ht]
def Lh{l:List Tok}(h:gi l){k:Nat}(hk:k<l.length){s:List UInt8}(hr:fP (bytes s)=true):lQ l k (bytes s)=gL l k s:=by
 unfold lQ gL;rw [nX hk];have h1:=h.reg _ (getElem_mem hk);by_cases ht:l[k].text=bytes s
 ·by_cases h4:l[k].kind=4
  ·have:=h1.2.1 h4;rw [ht,hr] at this;cases this
  simp [ht,h4]
 simp [ht]
def Ub{l:List Tok}(h:gi l){k:Nat}(hk:k<l.length){s:aH}(ha:lQ l k s=true):k+1<l.length:=by
 refine h.last.more hk λh5=>?_;unfold lQ at ha;rw [h5] at ha;simp at ha
def wv(e b k x b1 aj:Nat):Prop:=(e=0 -> k=b1 /\ x=aj) /\ (e≠0 -> b=b1 /\ e=aj)
def wv.run{α:Type}{e b k x b1 aj:Nat}{r:cJ α}(h:wv e b k x b1 aj)(hx:x≠0)(hr:e=0 -> r=.err k x)(y:α)(k1:Nat):bi e b r y k1 b1 aj:=by
 by_cases he:e=0
 ·obtain ⟨rfl,rfl⟩:=h.1 he;subst he;exact .err _ _ _ _ _ (hr J) hx
 obtain ⟨rfl,rfl⟩:=h.2 he;exact .skip he _ _ _
def wv.small{e b k x b1 aj:Nat}(h:wv e b k x b1 aj)(he:e<16)(hx:x<16):aj<16:=by
 by_cases h0:e=0
 ·rw [←(h.1 h0).2];exact hx
 rw [←(h.2 h0).2];exact he
abbrev ba(A B:List aV)(rw:List aP)(P:Nat)(l:List Tok)(k b e ns dp:Nat):aJ:=⟨A++⟨P,144,[aB dY l,aA (k:Int),aA (b:Int),aA (e:Int),aA (ns:Int),aA (dp:Int)]⟩::B,rw⟩
def iW{α:Type}(A B:List aV)(rw:List aP)(P:Nat)(l:List Tok)(ns dp:Nat)(enc:α -> AT)(e b:Nat)(r:cJ α)(t:AT)(s:aJ):Prop:=
 ∃x k1 b1 aj,t=enc x /\ bi e b r x k1 b1 aj /\ k1<l.length /\ aj<16 /\ s=ba A B rw P l k1 b1 aj ns dp
def Vs(A B:List aV)(rw:List aP)(P:Nat)(l:List Tok)(k b ns dp x:Nat):aU prog 61 [aF P,an (x:Int)] [P] (ba A B rw P l k b 0 ns dp) λt s=>t=.fd [] /\ s=ba A B rw P l k k x ns dp:=by
 refine bR 20 func61 ?_;refine go 6 ?_;refine aI J jo (go 18 ?_);exact ⟨.inl J,_,(ba A B rw P l (k) (k) (x) (ns) (dp)),fY J,ai (.refl _) (.refl _),J,J⟩
def X6(A B:List aV)(rw:List aP)(P:Nat)(l:List Tok)(k b ns dp x e:Nat)(he0:e≠0):aU prog 61 [aF P,an (x:Int)] [P] (ba A B rw P l k b e ns dp) λt s=>t=.fd [] /\ s=ba A B rw P l k b e ns dp:=by
 refine bR 20 func61 ?_;refine go 6 ?_;refine aG J (sd he0) (go 4 ?_);exact ⟨.inl J,_,(ba A B rw P l (k) (b) (e) (ns) (dp)),fY J,ai (.refl _) (.refl _),J,J⟩
def Xk(A B:List aV)(rw:List aP)(P:Nat)(l:List Tok)(k b ns dp e:Nat)(sg:aH)(hk:k<l.length)(he0:e≠0):aU prog 60 [aF P,cK sg] [P] (ba A B rw P l k b e ns dp) λt s=>t=bC false /\ s=ba A B rw P l k b e ns dp:=by
 refine bR 37 func60 ?_;refine go 6 ?_;refine cB [P] (aa [0,1,2,3,4,5,6,7] 4 (go 9 ?_));refine ac 8 J (bf dY dY l lN (λ_=>J) (k) J J J J hk V km kr) (cY [(9,true),(10,false),(11,false)] 0 (go 4 λb1=>?_));refine bH (go 7 ?_);refine aG J (sd he0) (go 20 ?_);exact az (s':=(ba A B rw P l (k) (b) (e) (ns) (dp))) J cT ⟨J,J⟩
def U8(A B:List aV)(rw:List aP)(P:Nat)(l:List Tok)(k b ns dp:Nat)(sg:aH)(hk:k<l.length)(h4:l[k].kind=4)(ht:l[k].text=sg):aU prog 60 [aF P,cK sg] [P] (ba A B rw P l k b 0 ns dp) λt s=>t=bC true /\ s=ba A B rw P l k b 0 ns dp:=by
 refine bR 37 func60 ?_;refine go 6 ?_;refine cB [P] (aa [0,1,2,3,4,5,6,7] 4 (go 9 ?_));refine ac 8 J (bf dY dY l lN (λ_=>J) (k) J J J J hk V km kr) (cY [(9,true),(10,false),(11,false)] 0 (go 4 λb1=>?_));refine bH (go 7 ?_);refine aI J jo (go 3 ?_);refine aI J (by rw [h4];rfl) (go 10 ?_);refine aD J (fc true J J J (by rw [ht];simp [m_])) (go 5 ?_);exact az (s':=(ba A B rw P l (k) (b) (0) (ns) (dp))) J cT ⟨J,J⟩
def TH(A B:List aV)(rw:List aP)(P:Nat)(l:List Tok)(k b ns dp:Nat)(sg:aH)(hk:k<l.length)(h4:l[k].kind=4)(ht:¬l[k].text=sg):aU prog 60 [aF P,cK sg] [P] (ba A B rw P l k b 0 ns dp) λt s=>t=bC false /\ s=ba A B rw P l k b 0 ns dp:=by
 refine bR 37 func60 ?_;refine go 6 ?_;refine cB [P] (aa [0,1,2,3,4,5,6,7] 4 (go 9 ?_));refine ac 8 J (bf dY dY l lN (λ_=>J) (k) J J J J hk V km kr) (cY [(9,true),(10,false),(11,false)] 0 (go 4 λb1=>?_));refine bH (go 7 ?_);refine aI J jo (go 3 ?_);refine aI J (by rw [h4];rfl) (go 10 ?_);refine aD J (fc false J J J (by simp [m_,ht])) (go 5 ?_);exact az (s':=(ba A B rw P l (k) (b) (0) (ns) (dp))) J cT ⟨J,J⟩
def YX(A B:List aV)(rw:List aP)(P:Nat)(l:List Tok)(k b ns dp:Nat)(sg:aH)(hk:k<l.length)(h4:¬l[k].kind=4)(h3:l[k].kind=3)(ht:l[k].text=sg):aU prog 60 [aF P,cK sg] [P] (ba A B rw P l k b 0 ns dp) λt s=>t=bC true /\ s=ba A B rw P l k b 0 ns dp:=by
 refine bR 37 func60 ?_;refine go 6 ?_;refine cB [P] (aa [0,1,2,3,4,5,6,7] 4 (go 9 ?_));refine ac 8 J (bf dY dY l lN (λ_=>J) (k) J J J J hk V km kr) (cY [(9,true),(10,false),(11,false)] 0 (go 4 λb1=>?_));refine bH (go 7 ?_);refine aI J jo (go 3 ?_);refine aG J Gb (go 3 ?_);refine aI J (by rw [h3];rfl) (go 6 ?_);refine aD J (fc true J J J (by rw [ht];simp [m_])) (go 5 ?_);exact az (s':=(ba A B rw P l (k) (b) (0) (ns) (dp))) J cT ⟨J,J⟩
def Up(A B:List aV)(rw:List aP)(P:Nat)(l:List Tok)(k b ns dp:Nat)(sg:aH)(hk:k<l.length)(h4:¬l[k].kind=4)(h3:l[k].kind=3)(ht:¬l[k].text=sg):aU prog 60 [aF P,cK sg] [P] (ba A B rw P l k b 0 ns dp) λt s=>t=bC false /\ s=ba A B rw P l k b 0 ns dp:=by
 refine bR 37 func60 ?_;refine go 6 ?_;refine cB [P] (aa [0,1,2,3,4,5,6,7] 4 (go 9 ?_));refine ac 8 J (bf dY dY l lN (λ_=>J) (k) J J J J hk V km kr) (cY [(9,true),(10,false),(11,false)] 0 (go 4 λb1=>?_));refine bH (go 7 ?_);refine aI J jo (go 3 ?_);refine aG J Gb (go 3 ?_);refine aI J (by rw [h3];rfl) (go 6 ?_);refine aD J (fc false J J J (by simp [m_,ht])) (go 5 ?_);exact az (s':=(ba A B rw P l (k) (b) (0) (ns) (dp))) J cT ⟨J,J⟩
def U_(A B:List aV)(rw:List aP)(P:Nat)(l:List Tok)(k b ns dp:Nat)(sg:aH)(hk:k<l.length)(h4:¬l[k].kind=4)(h3:¬l[k].kind=3):aU prog 60 [aF P,cK sg] [P] (ba A B rw P l k b 0 ns dp) λt s=>t=bC false /\ s=ba A B rw P l k b 0 ns dp:=by
 refine bR 37 func60 ?_;refine go 6 ?_;refine cB [P] (aa [0,1,2,3,4,5,6,7] 4 (go 9 ?_));refine ac 8 J (bf dY dY l lN (λ_=>J) (k) J J J J hk V km kr) (cY [(9,true),(10,false),(11,false)] 0 (go 4 λb1=>?_));refine bH (go 7 ?_);refine aI J jo (go 3 ?_);refine aG J Gb (go 3 ?_);refine aG J (by rw [show ed .eql ((l[k].kind:Nat):Int) 3=some (decide (l[k].kind=3)) from ry (n:=3),decide_eq_false h3]) (go 12 ?_);exact az (s':=(ba A B rw P l (k) (b) (0) (ns) (dp))) J cT ⟨J,J⟩
def E4(A B:List aV)(rw:List aP)(P:Nat)(l:List Tok)(k b e ns dp:Nat)(sg:aH)(hk:k<l.length):aU prog 60 [aF P,cK sg] [P] (ba A B rw P l k b e ns dp) λt s=>t=bC (decide (e=0) && lQ l k sg) /\ s=ba A B rw P l k b e ns dp:=by
 unfold lQ;rw [nX hk];by_cases he:e=0
 ·subst he;by_cases h4:l[k].kind=4
  ·by_cases ht:l[k].text=sg
   ·simpa [h4,ht] using U8 A B rw P l k b ns dp sg hk h4 ht
   simpa [h4,ht] using TH A B rw P l k b ns dp sg hk h4 ht
  by_cases h3:l[k].kind=3
  ·by_cases ht:l[k].text=sg
   ·simpa [h3,ht] using YX A B rw P l k b ns dp sg hk h4 h3 ht
   simpa [h3,ht] using Up A B rw P l k b ns dp sg hk h4 h3 ht
  simpa [h4,h3] using U_ A B rw P l k b ns dp sg hk h4 h3
 simpa [he] using Xk A B rw P l k b ns dp e sg hk he
def FQ(A B:List aV)(rw:List aP)(P:Nat)(l:List Tok)(k b e ns dp:Nat)(sg:aH)(hok:gi l)(hk:k<l.length):aU prog 62 [aF P,cK sg] [P] (ba A B rw P l k b e ns dp) λt s=>(e=0 /\ lQ l k sg=true /\ k+1<l.length /\ t=bC true /\ s=ba A B rw P l (k+1) b 0 ns dp)∨(¬(e=0 /\ lQ l k sg=true) /\ t=bC false /\ s=ba A B rw P l k b e ns dp):=by
 have hlen:=hok.len;refine bR 16 func62 ?_;refine go 10 ?_;refine bF J iz J (E4 (A) _ _ _ l k b e ns dp _ hk) ?_;rintro t1 s1 ⟨rfl,rfl⟩;refine aD J (jE  J J) (go 2 ?_);refine im J (λhc2=>?_) (λhc2=>?_)
 ·refine go 7 ?_;exact az (s':=(ba A B rw P l (k) (b) (e) (ns) (dp))) J d4 (.inr ⟨λh=>by simp [h.1,h.2] at hc2,J,J⟩)
 obtain ⟨rfl,ha⟩:e=0 /\ lQ l k sg=true:=by simpa using hc2
 have hm:=Ub hok hk ha;refine go 8 ?_;refine bP J (go 11 ?_);exact az (s':=(ba A B rw P l (k+1) (b) (0) (ns) (dp))) J d4 (.inl ⟨J,ha,hm,J,J⟩)
def oC(A B:List aV)(rw:List aP)(P:Nat)(l:List Tok)(k b e ns dp:Nat)(sg:List UInt8)(hr:fP (bytes sg)=false)(hok:gi l)(hk:k<l.length):aU prog 62 [aF P,cK (bytes sg)] [P] (ba A B rw P l k b e ns dp) λt s=>(e=0 /\ fZ l k sg=true /\ k+1<l.length /\ t=bC true /\ s=ba A B rw P l (k+1) b 0 ns dp)∨((e=0 -> fZ l k sg=false) /\ t=bC false /\ s=ba A B rw P l k b e ns dp):=by
 refine (FQ A B rw P l k b e ns dp (bytes sg) hok hk).mono λt s h=>?_;rw [Lf hok hk hr] at h;refine h.imp id λ⟨h1,h2⟩=>⟨λh0=>?_,h2⟩;cases hs:fZ l k sg with
 |false=>rfl
 |true=>exact absurd ⟨h0,hs⟩ h1
def ef(A B:List aV)(rw:List aP)(P:Nat)(l:List Tok)(k b e ns dp:Nat)(sg:List UInt8)(hr:fP (bytes sg)=true)(hok:gi l)(hk:k<l.length):aU prog 62 [aF P,cK (bytes sg)] [P] (ba A B rw P l k b e ns dp) λt s=>(e=0 /\ gL l k sg=true /\ k+1<l.length /\ t=bC true /\ s=ba A B rw P l (k+1) b 0 ns dp)∨((e=0 -> gL l k sg=false) /\ t=bC false /\ s=ba A B rw P l k b e ns dp):=by
 refine (FQ A B rw P l k b e ns dp (bytes sg) hok hk).mono λt s h=>?_;rw [Lh hok hk hr] at h;refine h.imp id λ⟨h1,h2⟩=>⟨λh0=>?_,h2⟩;cases hs:gL l k sg with
 |false=>rfl
 |true=>exact absurd ⟨h0,hs⟩ h1
def jx(A B:List aV)(rw:List aP)(P:Nat)(l:List Tok)(k b e ns dp:Nat)(x:Nat):aU prog 61 [aF P,an (x:Int)] [P] (ba A B rw P l k b e ns dp) λt s=>∃b1 aj,wv e b k x b1 aj /\ t=.fd [] /\ s=ba A B rw P l k b1 aj ns dp:=by
 by_cases he:e=0
 ·subst he;exact (Vs A B rw P l k b ns dp x).mono λt s h=>⟨k,x,⟨λ_=>⟨J,J⟩,λh=>absurd J h⟩,h⟩
 exact (X6 A B rw P l k b ns dp x e he).mono λt s h=>⟨b,e,⟨λh=>absurd h he,λ_=>⟨J,J⟩⟩,h⟩
def iM(A B:List aV)(rw:List aP)(P:Nat)(l:List Tok)(k b e ns dp:Nat)(sg:List UInt8)(hr:fP (bytes sg)=false)(hok:gi l)(hk:k<l.length)(he:e<16):aU prog 86 [aF P,cK (bytes sg)] [P] (ba A B rw P l k b e ns dp) λt s=>iW A B rw P l ns dp (λ_=>.fd []) e b (gE l sg k) t s:=by
 refine bR 10 func86 ?_;refine go 4 ?_;refine bF J dt J (oC (A) _ _ _ l k b e ns dp sg hr hok hk) ?_;rintro t1 s1 (⟨rfl,ha1,hm1,rfl,rfl⟩|⟨ha1,rfl,rfl⟩)
 ·refine go 5 ?_;exact ⟨.inl J,_,(ba A B rw P l (k+1) (b) (0) (ns) (dp)),fY J,ai (.refl _) (.refl _),⟨(),k+1,b,0,J,.ok _ _ _ (by unfold gE;rw [if_pos ha1]),hm1,V,J⟩⟩
 refine go 6 ?_;refine bF J jk J (jx (A) _ _ _ l k b e ns dp 4) ?_;rintro t4 s4 ⟨b4x,e4x,hf4,rfl,rfl⟩;refine go 1 ?_;exact ⟨.inl J,_,(ba A B rw P l (k) (b4x) (e4x) (ns) (dp)),fY J,ai (.refl _) (.refl _),⟨(),k,b4x,e4x,J,hf4.run V (λh=>by unfold gE;rw [if_neg (by rw [ha1 h];decide)]) _ _,hk,(hf4.small he V),J⟩⟩
def RZ(A B:List aV)(rw:List aP)(P:Nat)(l:List Tok)(k b ns dp kk e:Nat)(hk:k<l.length)(he0:e≠0):aU prog 59 [aF P,an (kk:Int)] [P] (ba A B rw P l k b e ns dp) λt s=>t=bC false /\ s=ba A B rw P l k b e ns dp:=by
 refine bR 25 func59 ?_;refine go 6 ?_;refine cB [P] (aa [0,1,2,3] 17 (go 5 ?_));refine ac 4 J (fC false J J J (sd he0)) (aa [5,6,7,8,9,10,11,12,13,14,15,16,17,18,19,20] 0 (go 17 ?_));refine bH (go 2 ?_);exact az (s':=(ba A B rw P l (k) (b) (e) (ns) (dp))) J d4 ⟨J,J⟩
def W4(A B:List aV)(rw:List aP)(P:Nat)(l:List Tok)(k b ns dp kk:Nat)(hk:k<l.length):aU prog 59 [aF P,an (kk:Int)] [P] (ba A B rw P l k b 0 ns dp) λt s=>t=bC (decide (l[k].kind=kk)) /\ s=ba A B rw P l k b 0 ns dp:=by
 refine bR 25 func59 ?_;refine go 6 ?_;refine cB [P] (aa [0,1,2,3] 17 (go 5 ?_));refine ac 4 J (fC true J J J jo) (aa [5,6,7,8,9,10,11,12,13] 7 (go 10 ?_));refine ac 14 J (bf dY dY l lN (λ_=>J) (k) J J J J hk V km kr) (aa [15,16,17] 3 (go 4 ?_));refine ac 18 J (fC (decide (l[k].kind=kk)) J J J ry) (aa [19,20] 0 (go 3 ?_));refine bH (go 2 ?_);exact az (s':=(ba A B rw P l (k) (b) (0) (ns) (dp))) J d4 ⟨J,J⟩
def Pf(A B:List aV)(rw:List aP)(P:Nat)(l:List Tok)(k b e ns dp:Nat)(kk:Nat)(hk:k<l.length):aU prog 59 [aF P,an (kk:Int)] [P] (ba A B rw P l k b e ns dp) λt s=>t=bC (decide (e=0) && decide ((dm l k).kind=kk)) /\ s=ba A B rw P l k b e ns dp:=by
 rw [nX hk];by_cases he:e=0
 ·subst he;simpa using W4 A B rw P l k b ns dp kk hk
 simpa [he] using RZ A B rw P l k b ns dp kk e hk he
def mn(A B:List aV)(rw:List aP)(P:Nat)(l:List Tok)(k b e ns dp:Nat)(hok:gi l)(hk:k<l.length)(he:e<16):aU prog 65 [aF P] [P] (ba A B rw P l k b e ns dp) λt s=>iW A B rw P l ns dp (λx=>cK x) e b (mA l k) t s:=by
 have hlen:=hok.len;refine bR 27 func65 ?_;refine go 9 ?_;refine bF J qS J (Pf (A) _ _ _ l k b e ns dp 1 hk) ?_;rintro t1 s1 ⟨rfl,rfl⟩;refine aD J (jE  J J) (go 2 ?_);refine im J (λhc2=>?_) (λhc2=>?_)
 ·refine go 3 ?_;refine bF J jk J (jx (A) _ _ _ l k b e ns dp 4) ?_;rintro t3 s3 ⟨b3x,e3x,hf3,rfl,rfl⟩;refine go 9 ?_;exact az (s':=(ba A B rw P l (k) (b3x) (e3x) (ns) (dp))) J d4 ⟨a_,k,b3x,e3x,J,hf3.run V (λh=>by unfold mA;rw [if_neg (λh2=>by simp [h,h2] at hc2)]) _ _,hk,(hf3.small he V),J⟩
 obtain ⟨rfl,ha⟩:e=0 /\ (dm l k).kind=1:=by simpa using hc2
 have hm:=hok.last.more hk Y;refine go 8 ?_;refine bP J (go 6 ?_);refine cB [P] (aa [0,1,2,3,4,5,6,7] 5 (go 9 ?_));refine ac 8 J (jh) ?_;refine ac 9 J (bf dY dY l lN (λ_=>J) k J J J Y hk V km kr) (aa [10,11,12] 0 (go 4 ?_));refine bH (go 2 ?_);exact az (s':=(ba A B rw P l (k+1) (b) (0) (ns) (dp))) J d4 ⟨_,k+1,b,0,J,.ok _ _ _ (by unfold mA;rw [if_pos ha,nX hk]),hm,V,J⟩
def ni(A B:List aV)(rw:List aP)(P:Nat)(l:List Tok)(k b e ns dp:Nat)(sg:List UInt8)(hr:fP (bytes sg)=false)(hok:gi l)(hk:k<l.length):aU prog 60 [aF P,cK (bytes sg)] [P] (ba A B rw P l k b e ns dp) λt s=>(e=0 /\ fZ l k sg=true /\ t=bC true /\ s=ba A B rw P l k b e ns dp)∨((e=0 -> fZ l k sg=false) /\ t=bC false /\ s=ba A B rw P l k b e ns dp):=by
 refine (E4 A B rw P l k b e ns dp (bytes sg) hk).mono λt s h=>?_;rw [Lf hok hk hr] at h;by_cases he:e=0
 ·cases hs:fZ l k sg with
  |true=>exact .inl ⟨he,rfl,Dr,h.2⟩
  |false=>exact .inr ⟨λ_=>rfl,Dr,h.2⟩
 ·exact .inr ⟨λh0=>absurd h0 he,F2,h.2⟩
def qj(A B:List aV)(rw:List aP)(P:Nat)(l:List Tok)(k b e ns dp:Nat)(sg:List UInt8)(hr:fP (bytes sg)=true)(hok:gi l)(hk:k<l.length):aU prog 60 [aF P,cK (bytes sg)] [P] (ba A B rw P l k b e ns dp) λt s=>(e=0 /\ gL l k sg=true /\ t=bC true /\ s=ba A B rw P l k b e ns dp)∨((e=0 -> gL l k sg=false) /\ t=bC false /\ s=ba A B rw P l k b e ns dp):=by
 refine (E4 A B rw P l k b e ns dp (bytes sg) hk).mono λt s h=>?_;rw [Lh hok hk hr] at h;by_cases he:e=0
 ·cases hs:gL l k sg with
  |true=>exact .inl ⟨he,rfl,Dr,h.2⟩
  |false=>exact .inr ⟨λ_=>rfl,Dr,h.2⟩
 ·exact .inr ⟨λh0=>absurd h0 he,F2,h.2⟩
def q8(A B:List aV)(rw:List aP)(P:Nat)(l:List Tok)(k b e ns dp:Nat)(kk:Nat)(hk:k<l.length):aU prog 59 [aF P,an (kk:Int)] [P] (ba A B rw P l k b e ns dp) λt s=>(e=0 /\ (dm l k).kind=kk /\ t=bC true /\ s=ba A B rw P l k b e ns dp)∨((e=0 -> (dm l k).kind≠kk) /\ t=bC false /\ s=ba A B rw P l k b e ns dp):=by
 refine (Pf A B rw P l k b e ns dp kk hk).mono λt s h=>?_;by_cases he:e=0
 ·by_cases hq:(dm l k).kind=kk
  ·exact .inl ⟨he,hq,by rw [h.1,decide_eq_true hq,he];rfl,h.2⟩
  exact .inr ⟨λ_=>hq,by rw [h.1,decide_eq_false hq,he];rfl,h.2⟩
 exact .inr ⟨λh0=>absurd h0 he,F2,h.2⟩
def Ky(op:Int)(r:cJ aS):AL op r=r.bind λx k=>.ok (.mk op 0 a_ [x]) k:=by cases r<;>rfl
def WR(l:List Tok)(r:cJ aS):GT l r=r.bind λx k=>(gE l [41] k).bind λ_ k=>.ok x k:=by
 cases r with
 |ok x k=>show (if fZ l k [41]=true then _ else _)=_;unfold cJ.bind gE;dsimp only;split<;>rfl
 |err a e=>rfl
def Fy(A B:List aV)(rw:List aP)(P:Nat)(l:List Tok)(k b e ns dp:Nat)(hns:¬ns=24)(hn2:ns <= 24):aU prog 160 [aF P] [P] (ba A B rw P l k b e ns dp) λt s=>t=.fd [] /\ s=ba A B rw P l k b e (ns+1) dp:=by
 refine bR 16 func160 ?_;refine go 7 ?_;refine aG J (by rw [show ed .eql (ns:Int) 24=some (decide (ns=24)) from ry (n:=24),decide_eq_false hns]) (go 10 ?_);refine bP J (go 4 ?_);exact ⟨.inl J,_,(ba A B rw P l (k) (b) (e) (ns+1) (dp)),fY J,ai (.refl _) (.refl _),J,J⟩
def F8(A B:List aV)(rw:List aP)(P:Nat)(l:List Tok)(k b e dp:Nat):aU prog 160 [aF P] [P] (ba A B rw P l k b e 24 dp) λt s=>∃b1 aj,wv e b k 3 b1 aj /\ t=.fd [] /\ s=ba A B rw P l k b1 aj 25 dp:=by
 refine bR 16 func160 ?_;refine go 7 ?_;refine aI J jo (go 5 ?_);refine bF J jk J (jx (A) _ _ _ l k b e 24 dp 3) ?_;rintro cA s2 ⟨u2,e2,hf2,rfl,rfl⟩;refine go 7 ?_;refine bP J (go 4 ?_);exact ⟨.inl J,_,(ba A B rw P l (k) (u2) (e2) (25) (dp)),fY J,ai (.refl _) (.refl _),⟨u2,e2,hf2,J,J⟩⟩
def Tw(A B:List aV)(rw:List aP)(P:Nat)(l:List Tok)(k b e dp:Nat)(hok:gi l)(hk:k<l.length)(he:e<16):aU prog 139 [aF P] [P] (ba A B rw P l k b e 24 dp) λt s=>iW A B rw P l 24 dp (λx=>.agg (bo x)) e b (e_ l 0 k) t s:=by
 have hlen:=hok.len;refine bR 100 func139 ?_;refine go 17 λb1 b2=>?_;refine bF J qS J (q8 (_::_::A) _ _ _ l k b e 24 dp 2 hk) ?_;rintro t1 s1 (⟨rfl,ha1,rfl,rfl⟩|⟨ha1,rfl,rfl⟩)
 ·refine go 5 ?_;refine cB [b1,P] (aa [0,1,2,3,4,5,6,7] 5 (go 9 ?_));refine ac 8 J (bf dY dY l lN (λ_=>J) (k) J J J J hk V km kr) (cY [(9,true),(10,true),(11,true),(12,false)] 0 (go 5 ?_));refine bH (go 6 ?_);refine bP J (go 13 ?_);have hm:=hok.last.more hk (by rw [ha1];decide);exact ⟨.inr J,_,(ba A B rw P l (k+1) (b) (0) (24) (dp)),(gK (bL.agg (.r (.r (.r (.n .nil))))) (bK J (bu [_] J J f8 dw (cH J J)))),ai cq (.refl _),⟨(.mk 1 (l[k].num:Int) a_ []),k+1,b,0,J,.ok _ _ _ (by unfold e_;rw [if_pos ha1,nX hk]),hm,V,J⟩⟩
 refine go 7 ?_;refine bF J qS J (q8 (_::_::A) _ _ _ l k b e 24 dp 1 hk) ?_;rintro t4 s4 (⟨rfl,DH,rfl,rfl⟩|⟨DH,rfl,rfl⟩)
 ·refine go 6 ?_;refine bF J mh J (mn (_::_::A) _ _ _ l k b 0 24 dp hok hk V) ?_;rintro t6 s6 ⟨x6,k6,u6,e6,rfl,hr6,hk6,he6,rfl⟩;refine go 12 ?_;exact ⟨.inr J,_,(ba A B rw P l (k6) (u6) (e6) (24) (dp)),(gK (bL.agg (.r (.r (.r (.n .nil))))) (bK J (bu [_] J J f8 dw (cH J J)))),ai cq (.refl _),⟨(.mk 2 0 x6 []),k6,u6,e6,J,(hr6.map (f:=λn=>aS.mk 2 0 n [])).eq KW,hk6,he6,J⟩⟩
 refine go 7 ?_;refine bF J iz J (ni (_::_::A) _ _ _ l k b e 24 dp [45] V hok hk) ?_;rintro t8 s8 (⟨rfl,JT,rfl,rfl⟩|⟨JT,rfl,rfl⟩)
 ·refine go 18 ?_;refine bF J iz J (ni (_::_::A) _ _ _ l k b 0 24 dp [45] V hok hk) ?_;rintro t10 s10 (⟨-,CA,rfl,rfl⟩|⟨CA,rfl,rfl⟩)
  ·refine go 11 ?_;refine bF J call160 J (F8 (_::_::A) _ _ _ l k b 0 dp) ?_;rintro t12 s12 ⟨u12,e12,aLt,rfl,rfl⟩;obtain ⟨rfl,rfl⟩:=aLt.1 rfl;refine go 9 ?_;refine aG J J (go 10 ?_);refine aD J (jq (hr:=J) ((24:Nat):Int)) (go 13 ?_);exact ⟨.inr J,_,(ba A B rw P l (k) (k) (3) (24) (dp)),(gK (bL.agg (.r (.r (.r (.n .nil))))) (bK J (bu [_] J J f8 dw (cH J J)))),ai cq (.refl _),⟨(.mk 3 0 a_ []),k,k,3,J,.err _ _ _ _ _ (by unfold e_;rw [if_neg (ha1 rfl),if_neg (DH rfl),if_pos (by simp [JT])]) V,hk,V,J⟩⟩
  exact absurd (CA J) (by rw [JT];decide)
 refine go 2 ?_;refine bF J iz J (ni (_::_::A) _ _ _ l k b e 24 dp [33] V hok hk) ?_;rintro t14 s14 (⟨rfl,MT,rfl,rfl⟩|⟨MT,rfl,rfl⟩)
 ·refine go 15 ?_;refine bF J iz J (ni (_::_::A) _ _ _ l k b 0 24 dp [45] V hok hk) ?_;rintro t16 s16 (⟨-,ha16,rfl,rfl⟩|⟨ha16,rfl,rfl⟩)
  ·exact absurd ha16 (by rw [(JT rfl)];decide)
  refine go 8 ?_;refine bF J call160 J (F8 (_::_::A) _ _ _ l k b 0 dp) ?_;rintro t18 s18 ⟨u18,e18,aLm,rfl,rfl⟩;obtain ⟨rfl,rfl⟩:=aLm.1 rfl;refine go 9 ?_;refine aG J J (go 10 ?_);refine aD J (jq (hr:=J) ((24:Nat):Int)) (go 13 ?_);exact ⟨.inr J,_,(ba A B rw P l (k) (k) (3) (24) (dp)),(gK (bL.agg (.r (.r (.r (.n .nil))))) (bK J (bu [_] J J f8 dw (cH J J)))),ai cq (.refl _),⟨(.mk 4 0 a_ []),k,k,3,J,.err _ _ _ _ _ (by unfold e_;rw [if_neg (ha1 rfl),if_neg (DH rfl),if_pos (by simp [MT])]) V,hk,V,J⟩⟩
 refine go 8 ?_;refine bF J iz J (ni (_::_::A) _ _ _ l k b e 24 dp [40] V hok hk) ?_;rintro t21 s21 (⟨rfl,aLw,rfl,rfl⟩|⟨aLw,rfl,rfl⟩)
 ·refine go 7 ?_;refine bF J call160 J (F8 (_::_::A) _ _ _ l k b 0 dp) ?_;rintro t23 s23 ⟨u23,e23,aTm,rfl,rfl⟩;obtain ⟨rfl,rfl⟩:=aTm.1 rfl;refine go 9 ?_;refine aG J J (go 10 ?_);refine aD J (jq (hr:=J) ((24:Nat):Int)) (go 13 ?_);exact ⟨.inr J,_,(ba A B rw P l (k) (k) (3) (24) (dp)),(gK (bL.agg (.r (.r (.r (.n .nil))))) (bK J (bu [_] J J f8 dw (cH J J)))),ai cq (.refl _),⟨aS.zero,k,k,3,J,.err _ _ _ _ _ (by unfold e_;rw [if_neg (ha1 rfl),if_neg (DH rfl),if_pos (by simp [aLw])]) V,hk,V,J⟩⟩
 refine go 6 ?_;refine bF J jk J (jx (_::_::A) _ _ _ l k b e 24 dp 4) ?_;rintro t26 s26 ⟨u26,e26,aOh,rfl,rfl⟩;refine go 10 ?_;exact ⟨.inr J,_,(ba A B rw P l (k) (u26) (e26) (24) (dp)),(gK (bL.agg (.r (.r (.r (.n .nil))))) (bK J (bu [_] J J f8 dw (cH J J)))),ai cq (.refl _),⟨aS.zero,k,u26,e26,J,aOh.run V (λh=>by unfold e_;rw [if_neg (ha1 h),if_neg (DH h),if_neg (by rw [JT h,MT h,aLw h];decide)]) _ _,hk,(aOh.small he V),J⟩⟩
def RR(A B:List aV)(rw:List aP)(P:Nat)(l:List Tok)(k b e ns dp:Nat)(d:Nat)(hns:ns+(d+1)=24)(hok:gi l)(hk:k<l.length)(he:e<16)(iho:∀(A B:List aV)(rw:List aP)(P k b e ns dp:Nat),ns+d=24 -> k<l.length -> e<16 -> aU prog 139 [aF P] [P] (ba A B rw P l k b e ns dp) (iW A B rw P l ns dp (λx=>.agg (bo x)) e b (e_ l d k)))(ihb:∀(A B:List aV)(rw:List aP)(P k b e ns dp:Nat),ns+d=24 -> k<l.length -> e<16 -> aU prog 114 [aF P,an 0] [P] (ba A B rw P l k b e ns dp) (iW A B rw P l ns dp (λx=>.agg (bo x)) e b (ig l (e_ l d) 5 k))):aU prog 139 [aF P] [P] (ba A B rw P l k b e ns dp) λt s=>iW A B rw P l ns dp (λx=>.agg (bo x)) e b (e_ l (d+1) k) t s:=by
 have hlen:=hok.len;refine bR 100 func139 ?_;refine go 17 λb1 b2=>?_;refine bF J qS J (q8 (_::_::A) _ _ _ l k b e ns dp 2 hk) ?_;rintro t1 s1 (⟨rfl,ha1,rfl,rfl⟩|⟨ha1,rfl,rfl⟩)
 ·refine go 5 ?_;refine cB [b1,P] (aa [0,1,2,3,4,5,6,7] 5 (go 9 ?_));refine ac 8 J (bf dY dY l lN (λ_=>J) (k) J J J J hk V km kr) (cY [(9,true),(10,true),(11,true),(12,false)] 0 (go 5 ?_));refine bH (go 6 ?_);refine bP J (go 13 ?_);have hm:=hok.last.more hk (by rw [ha1];decide);exact ⟨.inr J,_,(ba A B rw P l (k+1) (b) (0) (ns) (dp)),(gK (bL.agg (.r (.r (.r (.n .nil))))) (bK J (bu [_] J J f8 dw (cH J J)))),ai cq (.refl _),⟨(.mk 1 (l[k].num:Int) a_ []),k+1,b,0,J,.ok _ _ _ (by unfold e_;rw [if_pos ha1,nX hk]),hm,V,J⟩⟩
 refine go 7 ?_;refine bF J qS J (q8 (_::_::A) _ _ _ l k b e ns dp 1 hk) ?_;rintro t4 s4 (⟨rfl,DH,rfl,rfl⟩|⟨DH,rfl,rfl⟩)
 ·refine go 6 ?_;refine bF J mh J (mn (_::_::A) _ _ _ l k b 0 ns dp hok hk V) ?_;rintro t6 s6 ⟨x6,k6,u6,e6,rfl,hr6,hk6,he6,rfl⟩;refine go 12 ?_;exact ⟨.inr J,_,(ba A B rw P l (k6) (u6) (e6) (ns) (dp)),(gK (bL.agg (.r (.r (.r (.n .nil))))) (bK J (bu [_] J J f8 dw (cH J J)))),ai cq (.refl _),⟨(.mk 2 0 x6 []),k6,u6,e6,J,(hr6.map (f:=λn=>aS.mk 2 0 n [])).eq KW,hk6,he6,J⟩⟩
 refine go 7 ?_;refine bF J iz J (ni (_::_::A) _ _ _ l k b e ns dp [45] V hok hk) ?_;rintro t8 s8 (⟨rfl,JT,rfl,rfl⟩|⟨JT,rfl,rfl⟩)
 ·refine go 18 ?_;refine bF J iz J (ni (_::_::A) _ _ _ l k b 0 ns dp [45] V hok hk) ?_;rintro t10 s10 (⟨-,CA,rfl,rfl⟩|⟨CA,rfl,rfl⟩)
  ·refine go 11 ?_;refine bF J call160 J (Fy (_::_::A) _ _ _ l k b 0 ns dp Y Y) ?_;rintro t12 s12 ⟨rfl,rfl⟩;refine go 9 ?_;refine aI J jz (go 5 ?_);have hm:=o6 hok.last hk CA;refine go 4 ?_;refine bP J (go 7 ?_);refine bF J call139 J (iho (_::_::A) _ _ _ (k+1) b 0 (ns+1) dp Y hm V) ?_;rintro t14 s14 ⟨x14,k14,u14,e14,rfl,aLq,aLr,aLs,rfl⟩;refine aX J (bV (hf:=dc bc bo x14 (fv _) J J) o7 ?_);refine go 9 ?_;refine aD J (jq (ns:Int)) (go 13 ?_);exact ⟨.inr J,_,(ba A B rw P l (k14) (u14) (e14) (ns) (dp)),(bK J (bu [_] J J f8 dw (cH J J))),ai cq (.refl _),⟨(.mk 3 0 a_ [x14]),k14,u14,e14,J,(aLq.map (f:=λx=>aS.mk 3 0 a_ [x])).eq (λ_=>by rw [e_.eq_2,if_neg (ha1 rfl),if_neg (DH rfl),if_pos JT,Ky]),aLr,aLs,J⟩⟩
  exact absurd (CA J) (by rw [JT];decide)
 refine go 2 ?_;refine bF J iz J (ni (_::_::A) _ _ _ l k b e ns dp [33] V hok hk) ?_;rintro t15 s15 (⟨rfl,aHn,rfl,rfl⟩|⟨aHn,rfl,rfl⟩)
 ·refine go 15 ?_;refine bF J iz J (ni (_::_::A) _ _ _ l k b 0 ns dp [45] V hok hk) ?_;rintro t17 s17 (⟨-,Th,rfl,rfl⟩|⟨Th,rfl,rfl⟩)
  ·exact absurd Th (by rw [(JT rfl)];decide)
  refine go 8 ?_;refine bF J call160 J (Fy (_::_::A) _ _ _ l k b 0 ns dp Y Y) ?_;rintro t19 s19 ⟨rfl,rfl⟩;refine go 9 ?_;refine aI J jz (go 5 ?_);have hm:=o6 hok.last hk aHn;refine go 4 ?_;refine bP J (go 7 ?_);refine bF J call139 J (iho (_::_::A) _ _ _ (k+1) b 0 (ns+1) dp Y hm V) ?_;rintro t21 s21 ⟨x21,k21,u21,e21,rfl,aLb,aLc,aLd,rfl⟩;refine aX J (bV (hf:=dc bc bo x21 (fv _) J J) o7 ?_);refine go 9 ?_;refine aD J (jq (ns:Int)) (go 13 ?_);exact ⟨.inr J,_,(ba A B rw P l (k21) (u21) (e21) (ns) (dp)),(bK J (bu [_] J J f8 dw (cH J J))),ai cq (.refl _),⟨(.mk 4 0 a_ [x21]),k21,u21,e21,J,(aLb.map (f:=λx=>aS.mk 4 0 a_ [x])).eq (λ_=>by rw [e_.eq_2,if_neg (ha1 rfl),if_neg (DH rfl),if_neg (by rw [Th rfl];decide),if_pos aHn,Ky]),aLc,aLd,J⟩⟩
 refine go 8 ?_;refine bF J iz J (ni (_::_::A) _ _ _ l k b e ns dp [40] V hok hk) ?_;rintro t23 s23 (⟨rfl,aG1,rfl,rfl⟩|⟨aG1,rfl,rfl⟩)
 ·refine go 7 ?_;refine bF J call160 J (Fy (_::_::A) _ _ _ l k b 0 ns dp Y Y) ?_;rintro t25 s25 ⟨rfl,rfl⟩;refine go 9 ?_;refine aI J jz (go 5 ?_);have hm:=o6 hok.last hk aG1;refine go 4 ?_;refine bP J (go 8 ?_);refine bF J qY J (ihb (_::_::A) _ _ _ (k+1) b 0 (ns+1) dp Y hm V) ?_;rintro t27 s27 ⟨x27,k27,u27,e27,rfl,IT,aG0,aHi,rfl⟩;refine go 5 ?_;refine bF J iN J (iM (_::_::A) _ _ _ l k27 u27 e27 (ns+1) dp [41] V hok aG0 aHi) ?_;rintro t28 s28 ⟨x28,k28,u28,e28,rfl,aLo,aTn,aTo,rfl⟩;refine go 7 ?_;refine aD J (jq (ns:Int)) (go 13 ?_);exact ⟨.inr J,_,(ba A B rw P l (k28) (u28) (e28) (ns) (dp)),(bK J (bu [_] J J f8 dw (cH J J))),ai cq (.refl _),⟨x27,k28,u28,e28,J,(IT.bind (f:=λx k=>(gE l [41] k).bind λ_ k=>.ok x k) (aLo.map (f:=λ_=>x27))).eq (λ_=>by rw [e_.eq_2,if_neg (ha1 rfl),if_neg (DH rfl),if_neg x_,if_neg (by rw [aHn rfl];decide),if_pos aG1,WR]),aTn,aTo,J⟩⟩
 refine go 6 ?_;refine bF J jk J (jx (_::_::A) _ _ _ l k b e ns dp 4) ?_;rintro t30 s30 ⟨u30,e30,aOi,rfl,rfl⟩;refine go 10 ?_;exact ⟨.inr J,_,(ba A B rw P l (k) (u30) (e30) (ns) (dp)),(gK (bL.agg (.r (.r (.r (.n .nil))))) (bK J (bu [_] J J f8 dw (cH J J)))),ai cq (.refl _),⟨aS.zero,k,u30,e30,J,aOi.run V (λh=>by unfold e_;rw [if_neg (ha1 h),if_neg (DH h),if_neg (by rw [JT h];decide),if_neg (by rw [aHn h];decide),if_neg (by rw [aG1 h];decide)]) _ _,hk,(aOi.small he V),J⟩⟩
def YF{l:List Tok}(h:gi l){k lv j:Nat}(hk:k<l.length)(hlv:lv<5)(hj:j<(eQ lv).length)(ha:lQ l k (eQ lv)[j]=true):(dm l k).kind=4 /\ (binOp (dm l k).text).2=lv+1 /\ ∀h':j<(d5 lv).length,((binOp (dm l k).text).1:Int)=(d5 lv)[j]:=by
 unfold lQ at ha;simp only [di,nN,decide_eq_true_eq] at ha;obtain ⟨h1,h2⟩:=ha;have h4:(dm l k).kind=4:=by
  rcases h1 with h1|h1
  ·exact h1
  have:=(h.reg _ (getElem_mem hk)).1 (by rw [←nX hk];exact h1);rw [←nX hk,h2,Sr lv hlv j hj] at this;cases this
 rw [h2];have hO:j<(d5 lv).length:=by rw [(Ff lv).1];exact hj
 exact ⟨h4,(Mo lv hlv j hj hO).2,λh'=>(Mo lv hlv j hj h').1⟩
def XX{l:List Tok}{k lv:Nat}(hlv:lv<5)(h:∀j (hj:j<(eQ lv).length),lQ l k (eQ lv)[j]=false):¬((dm l k).kind=4 /\ (binOp (dm l k).text).2=lv+1):=by
 rintro ⟨h1,h2⟩;obtain ⟨j,hj,he⟩:=mp (Xa lv hlv _ h2);have:=h j hj;unfold lQ at this;rw [he] at this;simp [h1] at this
def MF(l:List Tok)(sub:Nat -> cJ aS)(lv be b0 k0:Nat)(x:aS)(k b e n:Nat):Prop:=
 (e=0 -> l.length<n+k) /\ ∀z k' b' e',bi e b (jf l sub (lv+1) n x k) z k' b' e' -> bi be b0 ((sub k0).bind λx k=>jf l sub (lv+1) (l.length+1) x k) z k' b' e'
def Sf(A B:List aV)(rw:List aP)(P:Nat)(l:List Tok)(k b e ns dp:Nat)(sub:Nat -> cJ aS)(hok:gi l)(hk:k<l.length)(he:e<16)(iho:∀(A B:List aV)(rw:List aP)(P k b e:Nat),k<l.length -> e<16 -> aU prog 139 [aF P] [P] (ba A B rw P l k b e ns dp) (iW A B rw P l ns dp (λx=>.agg (bo x)) e b (sub k))):aU prog 114 [aF P,an 5] [P] (ba A B rw P l k b e ns dp) λt s=>iW A B rw P l ns dp (λx=>.agg (bo x)) e b (sub k) t s:=by
 have hlen:=hok.len;refine bR 52 func114 ?_;refine go 9 λb1=>?_;refine aI J J (go 6 ?_);refine bF J call139 J (iho (_::A) _ _ _ k b e hk he) ?_;rintro cA s2 ⟨x2,k2,u2,e2,rfl,hr2,hk2,he2,rfl⟩;refine go 5 ?_;exact ⟨.inr J,_,(ba A B rw P l (k2) (u2) (e2) (ns) (dp)),(bK J (bu [] J J f8 dw (cH J J))),ai bI (.refl _),⟨x2,k2,u2,e2,J,hr2,hk2,he2,J⟩⟩
def SG(A B:List aV)(rw:List aP)(P:Nat)(l:List Tok)(k b e ns dp:Nat)(lv:Nat)(sub:Nat -> cJ aS)(hlv:lv<5)(hin:∀k,k<l.length -> (sub k).In l k)(hok:gi l)(hk:k<l.length)(he:e<16)(ihb:∀(A B:List aV)(rw:List aP)(P k b e:Nat),k<l.length -> e<16 -> aU prog 114 [aF P,an ((lv:Nat)+1:Int)] [P] (ba A B rw P l k b e ns dp) (iW A B rw P l ns dp (λx=>.agg (bo x)) e b (sub k))):aU prog 114 [aF P,an (lv:Int)] [P] (ba A B rw P l k b e ns dp) λt s=>iW A B rw P l ns dp (λx=>.agg (bo x)) e b ((sub k).bind λx k=>jf l sub (lv+1) (l.length+1) x k) t s:=by
 have hlen:=hok.len;refine bR 52 func114 ?_;refine go 9 λb1=>?_;refine aG J wB (go 9 ?_);refine bP J ?_;refine bF J qY J (ihb (_::A) _ _ _ k b e hk he) ?_;rintro cA s2 ⟨x2,k2,u2,e2,rfl,hr2,hk2,he2,rfl⟩;refine go 7 λb2=>?_;refine aX J (bm [] J J V call140 J (I_ lv hlv _) dJ dJ (λ_=>dJ) ?_);rintro t3 s3 ⟨rfl,rfl⟩;refine go 14 ?_;refine f9 (λg:Bool×aS×Nat×Nat×Nat=>(⟨52,[b2,b1,P],⟨⟨b2,87,bo (g.2.1)⟩::⟨b1,87,[.val (.int .i64 0),.val (.int .i64 0),.val (.string ⟨#[]⟩),.val (.slice none 0 0)]⟩::(A++⟨P,144,[.sl l.length (l.flatMap dY),.val (.int .i64 (((g.2.2.1):Nat):Int)),.val (.int .i64 (((g.2.2.2.1):Nat):Int)),.val (.int .i64 (((g.2.2.2.2):Nat):Int)),ap ns,ap dp]⟩::B),rw⟩,[(8,.c (.val (.bool g.1))),(0,aF P),(1,ae lv),(4,aF b1),(5,aF b2),(6,.c (nU (eQ lv))),(7,.c (nQ (d5 lv)))]⟩:AS)) (λg=>g.2.2.1<l.length /\ g.2.2.2.2<16 /\ (g.1=true -> ∃n,MF l sub lv e b k g.2.1 g.2.2.1 g.2.2.2.1 g.2.2.2.2 n) /\ (g.1=false -> bi e b ((sub k).bind λx k=>jf l sub (lv+1) (l.length+1) x k) g.2.1 g.2.2.1 g.2.2.2.1 g.2.2.2.2)) (λg=>if g.1 then (if g.2.2.2.2=0 then l.length-g.2.2.1+2 else 1) else 0) (true,x2,k2,u2,e2) (bD (λ_ h=>h)) ⟨hk2,he2,λ_=>⟨l.length+1,λ_=>Y,λz k' b' e' h=>hr2.bind h⟩,(λh=>nomatch h)⟩ ?_;rintro ⟨ag0,x0,k0,b0,be⟩ ⟨hk0,he0,hc0,hd0⟩;dsimp only at hk0 he0 hc0 hd0;show br prog _ (⟨52,[b2,b1,P],⟨⟨b2,87,bo (x0)⟩::⟨b1,87,[aA 0,aA 0,ah ⟨#[]⟩,aK]⟩::(A++⟨P,144,[aB dY l,aA (((k0):Nat):Int),aA (((b0):Nat):Int),aA (((be):Nat):Int),ap ns,ap dp]⟩::B),rw⟩,[(8,bC ag0),(0,aF P),(1,ae lv),(4,aF b1),(5,aF b2),(6,.c (nU (eQ lv))),(7,.c (nQ (d5 lv)))]⟩:AS) _;cases ag0
 ·refine go 19 ?_;exact ⟨.inr J,_,(ba A B rw P l (k0) (b0) (be) (ns) (dp)),(bK J (bu [_] J J f8 dw (cH J J))),ai cq (.refl _),⟨x0,k0,b0,be,J,hd0 J,hk0,he0,J⟩⟩
 refine go 21 ?_;obtain ⟨n0,hn0,hcont⟩:=hc0 rfl;refine f9 (λg:Nat×Bool×aS×Nat×Nat×Nat=>(⟨52,[b2,b1,P],⟨⟨b2,87,bo (g.2.2.1)⟩::⟨b1,87,[.val (.int .i64 0),.val (.int .i64 0),.val (.string ⟨#[]⟩),.val (.slice none 0 0)]⟩::(A++⟨P,144,[.sl l.length (l.flatMap dY),.val (.int .i64 (((g.2.2.2.1):Nat):Int)),.val (.int .i64 (((g.2.2.2.2.1):Nat):Int)),.val (.int .i64 (((g.2.2.2.2.2):Nat):Int)),ap ns,ap dp]⟩::B),rw⟩,[(9,ae (g.1)),(8,.c (.val (.bool g.2.1))),(0,aF P),(1,ae lv),(4,aF b1),(5,aF b2),(6,.c (nU (eQ lv))),(7,.c (nQ (d5 lv)))]⟩:AS)) (λg=>g.1 <= (eQ lv).length /\ (g.2.1=false -> g.2.2=(x0,k0,b0,be) /\ (be=0 -> ∀j (hj:j<(eQ lv).length),j<g.1 -> lQ l k0 (eQ lv)[j]=false)) /\ (g.2.1=true -> be=0 /\ g.2.2.2.1<l.length /\ g.2.2.2.2.2<16 /\ (g.2.2.2.2.2=0 -> k0<g.2.2.2.1) /\ ∃n,MF l sub lv e b k g.2.2.1 g.2.2.2.1 g.2.2.2.2.1 g.2.2.2.2.2 n)) (λg=>(eQ lv).length-g.1) (0,false,x0,k0,b0,be) (bD (λ_ h=>h)) ⟨eT _,λ_=>⟨J,λ_ j _ h=>Y⟩,(λh=>nomatch h)⟩ ?_;rintro ⟨i,ag,x1,k1,b1',aj⟩ ⟨hi0,hf0,ht0⟩;dsimp only at hi0 hf0 ht0;have hsl:=Ff lv;cases ag
 ·by_cases hlt:i<(eQ lv).length
  ·obtain ⟨hq,hno⟩:=hf0 rfl;obtain ⟨rfl,rfl,rfl,rfl⟩:x1=x0 /\ k1=k0 /\ b1'=b0 /\ aj=be:=by simpa using hq
   clear hq hf0 ht0;show br prog _ (⟨52,[b2,b1,P],⟨⟨b2,87,bo (x1)⟩::⟨b1,87,[aA 0,aA 0,ah ⟨#[]⟩,aK]⟩::(A++⟨P,144,[aB dY l,aA (((k1):Nat):Int),aA (((b1'):Nat):Int),aA (((aj):Nat):Int),ap ns,ap dp]⟩::B),rw⟩,[(9,ae (i)),(8,bC false),(0,aF P),(1,ae lv),(4,aF b1),(5,aF b2),(6,.c (nU (eQ lv))),(7,.c (nQ (d5 lv)))]⟩:AS) _;refine go 6 ?_;refine aI J (by simp [ed,hlt]) (go 16 ?_);refine aD J (mj (λs=>ah s) (eQ lv) i J J J J hlt kP iK) (go 1 ?_);refine bF J dt J (FQ (_::_::A) _ _ _ l k1 b1' aj ns dp (eQ lv)[i] hok hk0) ?_;rintro t7 s7 (⟨rfl,ha,hm,rfl,rfl⟩|⟨aTp,rfl,rfl⟩)
   ·refine go 3 ?_;refine cB [b1] (aa [0,1] 11 (go 3 ?_));refine ac 2 J (mj (λn=>aA n) (d5 lv) i J J J J Y wq kx) (aa [3,5,6] 7 (go 4 ?_));refine ac 7 J (uk J J J Y Y) ?_;refine cA 4 8 J ?_ ?_;focus
     refine dO J V (cV [] f8 dw) ?_;refine aW 8 J J (bm [P] J J V qY J (ihb (_::_::A) _ _ _ ((k1+1)) b1' 0 hm V) dd db LS ?_);rintro t9 s9 ⟨x10,k10,u10,e10,rfl,By,hk10,aJa,rfl⟩
    rotate_left;refine (bm [P] J J V qY J (ihb (_::_::A) _ _ _ ((k1+1)) b1' 0 hm V) dd db LS ?_);rintro t10 s10 ⟨x10,k10,u10,e10,rfl,By,hk10,aJa,rfl⟩;refine aW 4 J J (dO J V (cV [] f8 dw) ?_);all_goals
     refine aW 9 J J (bV (hps:=(.cons J (.cons J .nil))) (hf:=Jj bc bo x1 x10 fv J (λ_=>J)) Jc ?_);refine cY [(10,true),(11,false),(12,true)] 0 (go 4 ?_);refine bH (go 4 ?_);refine bP J (go 2 ?_);obtain ⟨h4,hlv2,hop⟩:=YF hok hk0 hlv hlt ha;have hin2:=hin (k1+1) hm;refine ⟨(i+1,true,.mk (d5 lv)[i] 0 a_ [x1,x10],k10,u10,e10),⟨by show i+1 <= _;omega,(λh=>nomatch h),λ_=>⟨J,hk10,aJa,λh0=>?_,n0-1,λh0=>?_,λz k' b' e' h=>hcont z k' b' e' ?_⟩⟩,JD,bD (λ_ h=>h)⟩
     ·have hg:=By.good h0;rw [hg.2.1] at hin2;show k1<k10;have:=hin2.1;omega
     ·have hg:=By.good h0;rw [hg.2.1] at hin2;have h1:=hin2.1;have h2:=hn0 J;show l.length<n0-1+k10;omega
     obtain ⟨m,rfl⟩:∃m,n0=m+1:=⟨n0-1,by have:=hn0 rfl;omega⟩;rw [jf,if_pos ⟨h4,hlv2⟩];refine (By.bind (f:=λy k=>jf l sub (lv+1) m (.mk (d5 lv)[i] 0 a_ [x1,y]) k) h).eq λ_=>?_;rw [hop Y];cases sub (k1+1)<;>rfl
   have RK:aj=0 -> lQ l k1 (eQ lv)[i]=false:=λh0=>by cases hh:lQ l k1 (eQ lv)[i] with|false=>rfl|true=>exact absurd ⟨h0,hh⟩ aTp
   refine go 8 ?_;refine bP J (go 2 ?_);refine ⟨(i+1,false,x1,k1,b1',aj),⟨by show i+1 <= _;omega,λ_=>⟨J,λh0 j hj hji=>?_⟩,(λh=>nomatch h)⟩,JD,bD (λ_ h=>h)⟩;have hji2:j<i+1:=hji;rcases jv j i with h|h
   ·exact hno h0 j hj h
   obtain rfl:j=i:=Y;exact RK h0
  obtain ⟨hq,hno⟩:=hf0 rfl;obtain ⟨rfl,rfl,rfl,rfl⟩:x1=x0 /\ k1=k0 /\ b1'=b0 /\ aj=be:=by simpa using hq
  clear hq hf0 ht0;show br prog _ (⟨52,[b2,b1,P],⟨⟨b2,87,bo (x1)⟩::⟨b1,87,[aA 0,aA 0,ah ⟨#[]⟩,aK]⟩::(A++⟨P,144,[aB dY l,aA (((k1):Nat):Int),aA (((b1'):Nat):Int),aA (((aj):Nat):Int),ap ns,ap dp]⟩::B),rw⟩,[(9,ae (i)),(8,bC false),(0,aF P),(1,ae lv),(4,aF b1),(5,aF b2),(6,.c (nU (eQ lv))),(7,.c (nQ (d5 lv)))]⟩:AS) _;obtain rfl:i=(eQ lv).length:=Y;refine go 6 ?_;refine aG J jz (go 8 ?_);have hfin:bi e b ((sub k).bind λx k=>jf l sub (lv+1) (l.length+1) x k) x1 k1 b1' aj:=by
   refine hcont x1 k1 b1' aj ?_;by_cases h0:aj=0
   ·subst h0;obtain ⟨m,rfl⟩:∃m,n0=m+1:=⟨n0-1,by have:=hn0 rfl;omega⟩;rw [jf,if_neg (XX hlv λj hj=>hno rfl j hj hj)];exact bi.pure _ _ _ _
   exact .skip h0 _ _ _
  refine go 4 ?_;exact ⟨(false,x1,k1,b1',aj),⟨hk0,he0,(λh=>nomatch h),λ_=>hfin⟩,by simp only [if_true,mz,if_false];split<;>omega,bD (λ_ h=>h)⟩
 by_cases hlt:i<(eQ lv).length;focus
  obtain ⟨rfl,hk1,he1,hgt,n1,hb1⟩:=ht0 rfl;clear hf0 ht0;show br prog _ (⟨52,[b2,b1,P],⟨⟨b2,87,bo (x1)⟩::⟨b1,87,[aA 0,aA 0,ah ⟨#[]⟩,aK]⟩::(A++⟨P,144,[aB dY l,aA (((k1):Nat):Int),aA (((b1'):Nat):Int),aA (((aj):Nat):Int),ap ns,ap dp]⟩::B),rw⟩,[(9,ae (i)),(8,bC true),(0,aF P),(1,ae lv),(4,aF b1),(5,aF b2),(6,.c (nU (eQ lv))),(7,.c (nQ (d5 lv)))]⟩:AS) _;refine go 6 ?_;refine aI J (by simp [ed,hlt]) (go 8 ?_)
 rotate_left;obtain ⟨rfl,hk1,he1,hgt,n1,hb1⟩:=ht0 rfl;clear hf0 ht0;show br prog _ (⟨52,[b2,b1,P],⟨⟨b2,87,bo (x1)⟩::⟨b1,87,[aA 0,aA 0,ah ⟨#[]⟩,aK]⟩::(A++⟨P,144,[aB dY l,aA (((k1):Nat):Int),aA (((b1'):Nat):Int),aA (((aj):Nat):Int),ap ns,ap dp]⟩::B),rw⟩,[(9,ae (i)),(8,bC true),(0,aF P),(1,ae lv),(4,aF b1),(5,aF b2),(6,.c (nU (eQ lv))),(7,.c (nQ (d5 lv)))]⟩:AS) _;refine go 6 ?_;refine aG J (by simp [ed,hlt]) (go 8 ?_);all_goals
  have hmu:(if true=true then (if aj=0 then l.length-k1+2 else 1) else 0)<(if true=true then (if (0:Nat)=0 then l.length-k0+2 else 1) else 0):=by
   simp only [if_true];by_cases h0:aj=0
   ·have:=hgt h0;rw [if_pos h0];omega
   rw [if_neg h0];omega
  refine go 4 ?_;exact ⟨(true,x1,k1,b1',aj),⟨hk1,he1,λ_=>⟨_,hb1⟩,(λh=>nomatch h)⟩,hmu,bD (λ_ h=>h)⟩
def Ib(l:List Tok)(hok:gi l)(d:Nat)(iho:∀(A B:List aV)(rw:List aP)(P:Nat)(k b e dp:Nat),k<l.length -> e<16 -> aU prog 139 [aF P] [P] (ba A B rw P l k b e (24-d) dp) (iW A B rw P l (24-d) dp (λx=>.agg (bo x)) e b (e_ l d k))):∀(j:Nat),j <= 5 -> ∀(A B:List aV)(rw:List aP)(P:Nat)(k b e dp:Nat),k<l.length -> e<16 -> aU prog 114 [aF P,an ((5-j:Nat):Int)] [P] (ba A B rw P l k b e (24-d) dp) (iW A B rw P l (24-d) dp (λx=>.agg (bo x)) e b (ig l (e_ l d) j k))
 |0,_,A,B,rw,P,k,b,e,dp,hk,he=>(Sf A B rw P l k b e (24-d) dp (e_ l d) hok hk he λA B rw P k b e hk he=>iho A B rw P k b e dp hk he)
 |j+1,hj,A,B,rw,P,k,b,e,dp,hk,he=>by
  have h:=SG A B rw P l k b e (24-d) dp (5-(j+1)) (ig l (e_ l d) j) Y (λk hk=>zY hok.last (λk hk=>yl hok.last d k hk) j k hk) hok hk he (λA B rw P k b e hk he=>by
   have h9:=Ib l hok d iho j Y A B rw P k b e dp hk he;have aj:(((5-(j+1):Nat):Int)+1)=((5-j:Nat):Int):=Y;rw [aj];exact h9)
  have e2:ig l (e_ l d) (j+1) k=(ig l (e_ l d) j k).bind λx k=>jf l (ig l (e_ l d) j) (5-(j+1)+1) (l.length+1) x k:=by
   rw [ig,show 5-(j+1)+1=5-j by omega];cases ig l (e_ l d) j k<;>rfl
  rw [e2];exact h
def E6(l:List Tok)(hok:gi l):∀(d:Nat),d <= 24 -> ∀(A B:List aV)(rw:List aP)(P:Nat)(k b e dp:Nat),k<l.length -> e<16 -> aU prog 139 [aF P] [P] (ba A B rw P l k b e (24-d) dp) (iW A B rw P l (24-d) dp (λx=>.agg (bo x)) e b (e_ l d k))
 |0,_,A,B,rw,P,k,b,e,dp,hk,he=>Tw A B rw P l k b e dp hok hk he
 |d+1,hd,A,B,rw,P,k,b,e,dp,hk,he=>RR A B rw P l k b e (24-(d+1)) dp d Y hok hk he
   (λA B rw P k b e ns dp hns hk he=>by
    obtain rfl:ns=24-d:=Y;exact E6 l hok d Y A B rw P k b e dp hk he)
   (λA B rw P k b e ns dp hns hk he=>by
    obtain rfl:ns=24-d:=Y;exact Ib l hok d (E6 l hok d Y) 5 (bX _) A B rw P k b e dp hk he)
def xU(A B:List aV)(rw:List aP)(P:Nat)(l:List Tok)(k b e dp:Nat)(hok:gi l)(hk:k<l.length)(he:e<16):aU prog 114 [aF P,an 0] [P] (ba A B rw P l k b e 0 dp) (iW A B rw P l 0 dp (λx=>.agg (bo x)) e b (qT l k)):=
 Ib l hok 24 (E6 l hok 24 (bX _)) 5 (bX _) A B rw P k b e dp hk he
def FY(A B:List aV)(rw:List aP)(P:Nat)(l:List Tok)(k b e dp:Nat)(hok:gi l)(hk:k<l.length)(he:e<16):aU prog 116 [aF P] [P] (ba A B rw P l k b e 0 dp) (iW A B rw P l 0 dp (λx=>.agg (encR x)) e b (DZ l k)):=by
 have hlen:=hok.len;refine bR 16 func116 ?_;refine go 8 λb1=>?_;refine bF J mh J (mn (_::A) _ _ _ l k b e 0 dp hok hk he) ?_;rintro t1 s1 ⟨x1,k1,u1,aj,rfl,hr1,hk1,he1,rfl⟩;refine go 9 λb2=>?_;refine bF J dt J (oC (_::_::A) _ _ _ l k1 u1 aj 0 dp [91] V hok hk1) ?_;rintro cA s2 (⟨rfl,ha2,hm2,rfl,rfl⟩|⟨ha2,rfl,rfl⟩)
 ·refine go 6 ?_;refine bF J qY J (xU (_::_::A) _ _ _ l (k1+1) u1 0 dp hok hm2 V) ?_;rintro t4 s4 ⟨x4,k4,u4,e4,rfl,hr4,hk4,he4,rfl⟩;refine aX J (bV (hf:=dc bc bo x4 (fv _) J J) o7 ?_);refine go 6 ?_;refine bF J iN J (iM (_::_::A) _ _ _ l k4 u4 e4 0 dp [93] V hok hk4 he4) ?_;rintro t5 s5 ⟨x5,k5,u5,e5,rfl,hr5,hk5,he5,rfl⟩;refine go 9 ?_;exact ⟨.inr J,_,(ba A B rw P l (k5) (u5) (e5) (0) (dp)),(bK J (bu [_] J J wF xM (cH J J))),ai cq (.refl _),⟨⟨x1,[x4]⟩,k5,u5,e5,J,hr1.bind (f:=uD l) ((hr4.bind (f:=λe k=>(gE l [93] k).bind λ_ k=>.ok ⟨x1,[e]⟩ k) (hr5.map (f:=λ_=>cL.mk x1 [x4]))).eq λ_=>by unfold uD;rw [if_pos ha2]),hk5,he5,J⟩⟩
 refine go 12 ?_;exact ⟨.inr J,_,(ba A B rw P l (k1) (u1) (aj) (0) (dp)),(gK (bL.agg (.r (.n .nil))) (bK J (bu [_] J J wF xM (cH J J)))),ai cq (.refl _),⟨⟨x1,[]⟩,k1,u1,aj,J,hr1.bind (f:=uD l) ((bi.pure _ _ _ _).eq λh=>by unfold uD;rw [if_neg C9]),hk1,he1,J⟩⟩
def PS(A B:List aV)(rw:List aP)(P:Nat)(l:List Tok)(k b e dp:Nat)(hok:gi l)(hk:k<l.length)(he:e<16):aU prog 115 [aF P] [P] (ba A B rw P l k b e 0 dp) (iW A B rw P l 0 dp (λx=>.c (aB cd x)) e b (tU l k)):=by
 have hlen:=hok.len;refine bR 34 func115 ?_;refine go 13 ?_;refine bF J iN J (iM (A) _ _ _ l k b e 0 dp [40] V hok hk he) ?_;rintro t1 s1 ⟨x1,k1,u1,aj,rfl,hr1,hk1,he1,rfl⟩;refine go 6 ?_;refine bF J dt J (oC (A) _ _ _ l k1 u1 aj 0 dp [41] V hok hk1) ?_;rintro cA s2 (⟨rfl,ha2,hm2,rfl,rfl⟩|⟨ha2,rfl,rfl⟩)
 ·refine go 10 ?_;exact ⟨.inr J,_,(ba A B rw P l (k1+1) (u1) (0) (0) (dp)),(gK (bL.c pu) (bK J (bN J))),ai (.refl _) (.refl _),⟨[],k1+1,u1,0,J,hr1.bind Kv,hm2,V,J⟩⟩
 refine go 7 ?_;refine f_ 135 7 ?_;refine f9 (λg:List cI×aN×Nat×Nat×Nat=>(⟨34,aR g.2.1++[P],⟨A++⟨P,144,[aB dY l,aA (((g.2.2.1):Nat):Int),aA (((g.2.2.2.1):Nat):Int),aA (((g.2.2.2.2):Nat):Int),ap 0,ap dp]⟩::B,⟨g.2.1,135,7,(g.1).length,(g.1).flatMap cd⟩::rw⟩,[(3,av g.2.1),(0,aF P)]⟩:AS)) (λg=>g.2.2.1<l.length /\ g.2.2.2.2<16 /\ g.1.length <= g.2.2.1 /\ (g.2.2.2.2≠0 -> bi e b (tU l k) g.1 g.2.2.1 g.2.2.2.1 g.2.2.2.2) /\ (g.2.2.2.2=0 -> ∃n,l.length <= n+g.2.2.1 /\ ∀z k' b' e',bi 0 g.2.2.2.1 (mg l (λ_=>r9 l) n g.1 g.2.2.1) z k' b' e' -> bi e b (tU l k) z k' b' e')) (λg=>if g.2.2.2.2=0 then l.length-g.2.2.1+1 else 0) ([],.slice none 0 0,k1,u1,aj) (bD (λ_ h=>h)) ⟨hk1,he1,eT _,λh=>hr1.bind (bi.skip h _ _ _),λh=>⟨l.length,y8 _ _,λz k' b' e' h2=>?_⟩⟩ ?_
 ·have h:aj=0:=h;refine hr1.bind ?_;rw [h,if_neg C9];exact h2
 rintro ⟨acc,v0,k0,b0,be⟩ ⟨hk0,he0,ha0,hn0,hc0⟩;dsimp only at hk0 he0 ha0 hn0 hc0;show br prog _ (⟨34,aR v0++[P],⟨A++⟨P,144,[aB dY l,aA (((k0):Nat):Int),aA (((b0):Nat):Int),aA (((be):Nat):Int),ap 0,ap dp]⟩::B,⟨v0,135,7,(acc).length,(acc).flatMap cd⟩::rw⟩,[(3,av v0),(0,aF P)]⟩:AS) _;by_cases h0:be=0
 ·subst h0;obtain ⟨n0,hn1,hcont⟩:=hc0 rfl;refine go 7 ?_;refine aI J jo (go 17 λb1=>?_);refine bF J dt J (ef (_::A) _ _ _ l k0 b0 0 0 dp [109,117,116,101,120] V hok hk0) ?_;rintro t6 s6 (⟨-,ha6,hm6,rfl,rfl⟩|⟨ha6,rfl,rfl⟩)
  ·refine go 5 ?_;refine bF J call116 J (FY (_::A) _ _ _ l (k0+1) b0 0 dp hok hm6 V) ?_;rintro t8 s8 ⟨x8,k8,u8,e8,rfl,hr8,hk8,he8,rfl⟩;refine go 6 ?_;have hel:bi 0 b0 (r9 l k0) ⟨true,x8,.zero⟩ k8 u8 e8:=(hr8.map (f:=λr=>cI.mk true r .zero)).eq λ_=>by unfold r9;rw [if_pos ha6]
   refine go 2 ?_;refine ct 24 J (bL.agg (.r (.r (.r (.r (.r (.r (.n .nil)))))))) ?_;refine aX J (bV (hf:=dc cd cd ⟨true,x8,.zero⟩ J J J) ye ?_);refine aX J (xe Tryz.t135 104 J J V J J xV aQ J J J J V J V sW sI (@length_append _ acc [⟨true,x8,.zero⟩]).symm fu cm (dj (f:=cd)).symm λv9=>?_);refine go 6 ?_;refine bF J dt J (oC (_::A) _ _ _ l k8 u8 e8 0 dp [44] V hok hk8) ?_;rintro t10 s10 (⟨rfl,CA,aTq,rfl,rfl⟩|⟨CA,rfl,rfl⟩)
   ·refine go 6 ?_;obtain ⟨m,rfl⟩:∃m,n0=m+1:=⟨n0-1,Y⟩;have hin:=Es hok.last hk0;rw [(hel.good rfl).2.1] at hin;have hin1:=hin.1;refine ⟨(acc++[⟨true,x8,.zero⟩],v9,k8+1,u8,0),⟨aTq,Br,by show (acc++[_]).length <= k8+1;simp;omega,λh=>absurd J h,λ_=>⟨m,by show l.length <= m+(k8+1);omega,λz k' b' e' h=>hcont z k' b' e' ?_⟩⟩,by show (if (0:Nat)=0 then _ else _)<(if (0:Nat)=0 then _ else _);rw [if_pos rfl,if_pos rfl];show l.length-(k8+1)+1<l.length-k0+1;omega,bD (h1:=bI) fD⟩;rw [mg];refine hel.bind ?_;rw [if_pos CA];exact h
   refine go 7 ?_;refine bF J iN J (iM (_::A) _ _ _ l k8 u8 e8 0 dp [41] V hok hk8 he8) ?_;rintro t13 s13 ⟨x13,k13,u13,e13,rfl,aTr,aMf,aTs,rfl⟩;refine go 8 ?_;refine oJ 2 J ?_;refine go 5 ?_;obtain ⟨m,rfl⟩:∃m,n0=m+1:=⟨n0-1,Y⟩;exact ⟨.inr J,_,(ba A B rw P l (k13) (u13) (e13) (0) (dp)),(bK J (bN J)),ai bI (.refl _),⟨acc++[⟨true,x8,.zero⟩],k13,u13,e13,J,hcont _ _ _ _ (by rw [mg];exact hel.bind ((aTr.map (f:=λ_=>acc++[⟨true,x8,.zero⟩])).eq λh=>by rw [if_neg (by rw [CA h];decide)])),aMf,aTs,J⟩⟩
  refine go 5 ?_;refine bF J qY J (xU (_::A) _ _ _ l k0 b0 0 dp hok hk0 he0) ?_;rintro t15 s15 ⟨x15,k15,u15,e15,rfl,aJh,aJi,aLl,rfl⟩;refine go 6 ?_;have hel:bi 0 b0 (r9 l k0) ⟨false,.zero,x15⟩ k15 u15 e15:=(aJh.map (f:=λe=>cI.mk false .zero e)).eq λ_=>by unfold r9;rw [if_neg (by rw [ha6 rfl];decide)]
  refine go 2 ?_;refine ct 24 J (bL.agg (.r (.r (.n (.r (.r (.r (.r .nil)))))))) ?_;refine aX J (bV (hf:=dc cd cd ⟨false,.zero,x15⟩ J J J) ye ?_);refine aX J (xe Tryz.t135 104 J J V J J xV aQ J J J J V J V sW sI (@length_append _ acc [⟨false,.zero,x15⟩]).symm fu cm (dj (f:=cd)).symm λv16=>?_);refine go 6 ?_;refine bF J dt J (oC (_::A) _ _ _ l k15 u15 e15 0 dp [44] V hok aJi) ?_;rintro t17 s17 (⟨rfl,Th,aTt,rfl,rfl⟩|⟨Th,rfl,rfl⟩)
  ·refine go 6 ?_;obtain ⟨m,rfl⟩:∃m,n0=m+1:=⟨n0-1,Y⟩;have hin:=Es hok.last hk0;rw [(hel.good rfl).2.1] at hin;have hin1:=hin.1;refine ⟨(acc++[⟨false,.zero,x15⟩],v16,k15+1,u15,0),⟨aTt,Br,by show (acc++[_]).length <= k15+1;simp;omega,λh=>absurd J h,λ_=>⟨m,by show l.length <= m+(k15+1);omega,λz k' b' e' h=>hcont z k' b' e' ?_⟩⟩,by show (if (0:Nat)=0 then _ else _)<(if (0:Nat)=0 then _ else _);rw [if_pos rfl,if_pos rfl];show l.length-(k15+1)+1<l.length-k0+1;omega,bD (h1:=bI) fD⟩;rw [mg];refine hel.bind ?_;rw [if_pos Th];exact h
  refine go 7 ?_;refine bF J iN J (iM (_::A) _ _ _ l k15 u15 e15 0 dp [41] V hok aJi aLl) ?_;rintro t20 s20 ⟨x20,k20,u20,e20,rfl,aHl,aTu,aTv,rfl⟩;refine go 8 ?_;refine oJ 2 J ?_;refine go 5 ?_;obtain ⟨m,rfl⟩:∃m,n0=m+1:=⟨n0-1,Y⟩;exact ⟨.inr J,_,(ba A B rw P l (k20) (u20) (e20) (0) (dp)),(bK J (bN J)),ai bI (.refl _),⟨acc++[⟨false,.zero,x15⟩],k20,u20,e20,J,hcont _ _ _ _ (by rw [mg];exact hel.bind ((aHl.map (f:=λ_=>acc++[⟨false,.zero,x15⟩])).eq λh=>by rw [if_neg (by rw [Th h];decide)])),aTu,aTv,J⟩⟩
 refine go 7 ?_;refine aG J (sd h0) (go 14 ?_);refine oJ 2 J ?_;refine go 1 ?_;exact ⟨.inr J,_,(ba A B rw P l (k0) (b0) (be) (0) (dp)),(bK J (bN J)),ai (.refl _) (.refl _),⟨acc,k0,b0,be,J,hn0 h0,hk0,he0,J⟩⟩
end
end Go.Proofs.YtjgeihmhppadaaaGreatDoor
