import Derived.Test.YtjgeihmhppadaaaGreatDoorG13J
set_option linter.all false
set_option synthInstance.maxHeartbeats 1000000
set_option synthInstance.maxSize 1000000
set_option maxHeartbeats 3200000
set_option maxRecDepth 100000
namespace Go.Proofs.YtjgeihmhppadaaaGreatDoor
open Go.Proofs.Tryz
open List (length_append length_cons length_nil mem_append mem_cons not_mem_nil append_assoc getElem_mem take_of_length_le)
section
open Go.RowKit
theorem cU8{l:List cFc}{s:ByteArray}(h:cFa l s=none)(n:Nat):cFb (l++[⟨s,4,n⟩]) s=⟨s,4,n⟩:=by
 unfold cFb;rw [cGu,h];dsimp only;rw [if_pos rfl];rfl
theorem cVw(A B:List Box)(D gg gm gf gk gl:Nat)(p:cK)(l:List cFc)(gs ms fs lk lo:Vis)(c5 c6 c7 c8:AC)(rw:List bA)(hM:MR gs ms fs lk lo l)(s:ByteArray)(n:Nat)(hf:cFa l s=none)(hW:MW gg gm gf gk gl gs ms fs lk (bZq lo s ((n:Nat):Int)) rw)(e:aH):aL prog 109 [pP D,Cs s,.agg (cU e)] [] ⟨A++⟨D,77,[Vm gg,Vm gm,Vm gf,Vm gl,Vm gk,c5,c6,c7,c8]⟩::B,rw⟩ λt s'=>t=.agg (encI ⟨1,n,false,e,plZ,[],[]⟩) /\ s'=⟨A++⟨D,77,[Vm gg,Vm gm,Vm gf,Vm gl,Vm gk,c5,c6,c7,c8]⟩::B,rw⟩:=by
 have h:=cUw A B D gg gm gf gk gl p (l++[⟨s,4,n⟩]) gs ms fs lk (bZq lo s ((n:Nat):Int)) c5 c6 c7 c8 rw (hM.var hf n) hW s e (λh=>by rw [cBo,if_pos rfl] at h;cases h)
 rw [cU8 hf n] at h;exact h
theorem cUk(A B:List Box)(D gg gm gf gk gl:Nat)(p:cK)(l:List cFc)(gs ms fs lk lo:Vis)(c5 c6 c7 c8:AC)(rw:List bA)(hM:MR gs ms fs lk lo l)(hW:MW gg gm gf gk gl gs ms fs lk lo rw)(y:aJ)(hw:y.wt <= 900000000)(hE:cFy p l y=0)(o:Int)(ho:(if y.kind=4 then 3 else 2)=o):aL prog 110 [pP D,Ci o,.agg (dG y)] [] ⟨A++⟨D,77,[Vm gg,Vm gm,Vm gf,Vm gl,Vm gk,c5,c6,c7,c8]⟩::B,rw⟩ λt s'=>t=.agg (encI (cGn p l y)) /\ s'=⟨A++⟨D,77,[Vm gg,Vm gm,Vm gf,Vm gl,Vm gk,c5,c6,c7,c8]⟩::B,rw⟩:=by
 subst ho;exact cVf A B D gg gm gf gk gl p l gs ms fs lk lo c5 c6 c7 c8 rw hM hW y hw hE
theorem cVg(s:aJ)(ihT:∀(A B:List Box)(D gg gm gf gk gl:Nat)(p:cK)(x:LS)(gs ms fs lk lo:Vis)(vc vs:Value)(rw:List bA)(hM:MR gs ms fs lk lo x.ents)(hW:MW4 gg gm gf gk gs ms fs lk rw)(hK:KN lo),RmL p x (wtS s.thn) -> (cFe p s.thn x).q.1=0 -> aL prog 51 [pP D,.c (Sq encS s.thn)] (D::gl::(aY vc++aY vs)) ⟨A++⟨D,77,[Vm gg,Vm gm,Vm gf,Vm gl,Vm gk,nC x.locals,.val vc,.val vs,nC x.n]⟩::B,⟨vc,92,12,x.code.length,x.code.flatMap encI⟩::⟨vs,3,1,x.sites.length,x.sites.map λx=>Vi x⟩::cR3 gl 0 evI lo::rw⟩ λt s'=>t=.tup [] /\ ∃vc' vs' lo',(MR gs ms fs lk lo' x.ents /\ KN lo') /\ s'=⟨A++⟨D,77,[Vm gg,Vm gm,Vm gf,Vm gl,Vm gk,Vi (((cRs p s.thn x).locals:Nat):Int),.val vc',.val vs',Vi (((cRs p s.thn x).n:Nat):Int)]⟩::B,⟨vc',92,12,(cRs p s.thn x).code.length,(cRs p s.thn x).code.flatMap encI⟩::⟨vs',3,1,(cRs p s.thn x).sites.length,(cRs p s.thn x).sites.map λx=>Vi x⟩::cR3 gl 0 evI lo'::rw⟩)(ihE:∀(A B:List Box)(D gg gm gf gk gl:Nat)(p:cK)(x:LS)(gs ms fs lk lo:Vis)(vc vs:Value)(rw:List bA)(hM:MR gs ms fs lk lo x.ents)(hW:MW4 gg gm gf gk gs ms fs lk rw)(hK:KN lo),RmL p x (wtS s.els) -> (cFe p s.els x).q.1=0 -> aL prog 51 [pP D,.c (Sq encS s.els)] (D::gl::(aY vc++aY vs)) ⟨A++⟨D,77,[Vm gg,Vm gm,Vm gf,Vm gl,Vm gk,nC x.locals,.val vc,.val vs,nC x.n]⟩::B,⟨vc,92,12,x.code.length,x.code.flatMap encI⟩::⟨vs,3,1,x.sites.length,x.sites.map λx=>Vi x⟩::cR3 gl 0 evI lo::rw⟩ λt s'=>t=.tup [] /\ ∃vc' vs' lo',(MR gs ms fs lk lo' x.ents /\ KN lo') /\ s'=⟨A++⟨D,77,[Vm gg,Vm gm,Vm gf,Vm gl,Vm gk,Vi (((cRs p s.els x).locals:Nat):Int),.val vc',.val vs',Vi (((cRs p s.els x).n:Nat):Int)]⟩::B,⟨vc',92,12,(cRs p s.els x).code.length,(cRs p s.els x).code.flatMap encI⟩::⟨vs',3,1,(cRs p s.els x).sites.length,(cRs p s.els x).sites.map λx=>Vi x⟩::cR3 gl 0 evI lo'::rw⟩)(A B:List Box)(D gg gm gf gk gl:Nat)(p:cK)(x:LS)(gs ms fs lk lo:Vis)(vc vs:Value)(rw:List bA)(hM:MR gs ms fs lk lo x.ents)(hW:MW4 gg gm gf gk gs ms fs lk rw)(hK:KN lo)(hok:RmL p x s.wt)(hkn:knS s)(hq:(cFs p s x).q.1=0):aL prog 79 [pP D,.agg (dG s)] (D::gl::(aY vc++aY vs)) ⟨A++⟨D,77,[Vm gg,Vm gm,Vm gf,Vm gl,Vm gk,nC x.locals,.val vc,.val vs,nC x.n]⟩::B,⟨vc,92,12,x.code.length,x.code.flatMap encI⟩::⟨vs,3,1,x.sites.length,x.sites.map λx=>Vi x⟩::cR3 gl 0 evI lo::rw⟩ λt s'=>t=.tup [] /\ ∃vc' vs' lo',(MR gs ms fs lk lo' (cFs p s x).ents /\ KN lo') /\ s'=⟨A++⟨D,77,[Vm gg,Vm gm,Vm gf,Vm gl,Vm gk,Vi (((cFs p s x).locals:Nat):Int),.val vc',.val vs',Vi (((cFs p s x).n:Nat):Int)]⟩::B,⟨vc',92,12,(cFs p s x).code.length,(cFs p s x).code.flatMap encI⟩::⟨vs',3,1,(cFs p s x).sites.length,(cFs p s x).sites.map λx=>Vi x⟩::cR3 gl 0 evI lo'::rw⟩:=by
 have hne:=cUh hq
 have hwp:=gD s
 have hxc:=hok.code
 have hxn:=hok.n
 have hxl:=hok.loc
 have hkk:=(cS1 hkn).1
 refine acX 109 func79 ?_
 refine go 20 λb1=>?_
 refine wad Y (go 2 ?_)
 refine eA 14 Y (t:=nI (x.n+1)) (gQ J) (go 12 ?_)
 by_cases h1:s.kind=1
 ·refine wcp true Y (eR h1) (go 9 ?_)
  refine wc0 Y call108 Y (cSj _ s.expr (Nat.le_refl _) J (_::A) B D gg gm gf gk gl p x.ents gs ms fs lk lo _ _ _ _ _ hM hW.mw.cons.cons (hne.var J).2) ?_
  rintro _ _ ⟨rfl,rfl⟩
  refine go 5 λb2=>?_
  have hdn:=cUc (hne.var J).1
  refine bTy 10 [b2,b1,D,gl] [] #[true,true,true,true,true,true,true,true,true,true,false] B6 B6 B6 ?_
  refine tz [(0,true),(1,true),(2,true),(3,true),(4,true),(5,true),(6,true),(7,true),(8,true),(9,true)] 0 (go 11 ?_)
  refine ax ?_
  refine id ?_
  refine ox 10 Y Y (cAt lo [_,_] Y Y Y Y Y underlying74 underlying9 G0 Dc ?_)
  refine ax (go 7 ?_)
  refine wad Y (go 2 ?_)
  refine eA 43 Y (t:=nI (x.locals+1)) (gQ J) (go 10 ?_)
  refine wc0 Y call109 Y (cVw (_::_::A) B D gg gm gf gk gl p x.ents gs ms fs lk lo _ _ _ _ _ hM s.name x.locals hdn hW.mw.cons.cons (cFk x.ents s.expr)) ?_
  rintro _ _ ⟨rfl,rfl⟩
  have hz3:(⟨x.ents,x.locals+1,x.n+1,x.q,x.code,x.sites⟩:LS).code.length <= 100000000 /\ (⟨x.ents,x.locals+1,x.n+1,x.q,x.code,x.sites⟩:LS).sites.length=(⟨x.ents,x.locals+1,x.n+1,x.q,x.code,x.sites⟩:LS).code.length:=⟨G5,hok.sites⟩
  refine wo Y (wcL Y Y V call52 Y (cSa (_::_::A) B D gg gm gf gk gl (⟨x.ents,x.locals+1,x.n+1,x.q,x.code,x.sites⟩:LS) vc vs _ (⟨1,x.locals,false,cFk x.ents s.expr,plZ,[],[]⟩) x.n hz3.1 hz3.2) G0 cFh.h cFh.h Bj λvc3 vs3=>?_)
  refine go 2 ?_
  have hst:cFs p s x=(((x.beg (cFj (cFv x.ents s.name) (cFf x.ents s.expr))).put ⟨1,x.locals,false,cFk x.ents s.expr,plZ,[],[]⟩ x.n).var s.name):=by rw [cFz,if_neg J,if_neg J];unfold cFu;rw [if_pos J]<;>rfl
  rw [hst]
  exact ⟨.inl Y,_,⟨A++⟨D,77,[Vm gg,Vm gm,Vm gf,Vm gl,Vm gk,Vi (((((x.beg (cFj (cFv x.ents s.name) (cFf x.ents s.expr))).put ⟨1,x.locals,false,cFk x.ents s.expr,plZ,[],[]⟩ x.n).var s.name).locals:Nat):Int),.val vc3,.val vs3,Vi (((((x.beg (cFj (cFv x.ents s.name) (cFf x.ents s.expr))).put ⟨1,x.locals,false,cFk x.ents s.expr,plZ,[],[]⟩ x.n).var s.name).n:Nat):Int)]⟩::B,⟨vc3,92,12,(((x.beg (cFj (cFv x.ents s.name) (cFf x.ents s.expr))).put ⟨1,x.locals,false,cFk x.ents s.expr,plZ,[],[]⟩ x.n).var s.name).code.length,(((x.beg (cFj (cFv x.ents s.name) (cFf x.ents s.expr))).put ⟨1,x.locals,false,cFk x.ents s.expr,plZ,[],[]⟩ x.n).var s.name).code.flatMap encI⟩::⟨vs3,3,1,(((x.beg (cFj (cFv x.ents s.name) (cFf x.ents s.expr))).put ⟨1,x.locals,false,cFk x.ents s.expr,plZ,[],[]⟩ x.n).var s.name).sites.length,(((x.beg (cFj (cFv x.ents s.name) (cFf x.ents s.expr))).put ⟨1,x.locals,false,cFk x.ents s.expr,plZ,[],[]⟩ x.n).var s.name).sites.map λx=>Vi x⟩::cR3 gl 0 evI (bZq lo s.name ((x.locals:Nat):Int))::rw⟩,cH Y,aA (.cons _ (.cons _ (.refl _))) (.refl _),Y,vc3,vs3,(bZq lo s.name ((x.locals:Nat):Int)),⟨hM.var hdn x.locals,hK.put _ _⟩,Y⟩
 refine wcp false Y (eD h1) (go 6 ?_)
 by_cases h4:s.kind=2
 ·refine wcp true Y (eR h4) (go 4 ?_)
  refine dx [b1] (tz [(0,true),(1,true),(2,true),(3,true),(4,true),(5,true),(6,true),(7,true)] 3 (go 9 ?_))
  refine ox 8 Y Y (bV Y Y V call108 Y (cSj _ s.expr (Nat.le_refl _) J (_::A) B D gg gm gf gk gl p x.ents gs ms fs lk lo _ _ _ _ _ hM hW.mw.cons.cons (hne.set J).2) ?_)
  rintro _ _ ⟨rfl,rfl⟩
  refine ox 9 Y Y (bV Y Y V call109 Y (cUw (_::A) B D gg gm gf gk gl p x.ents gs ms fs lk lo _ _ _ _ _ hM hW.mw.cons.cons s.name (cFk x.ents s.expr) (λ_=>(hne.set J).1)) ?_)
  rintro _ _ ⟨rfl,rfl⟩
  have hz4:(x.beg (cFj (cGq x.ents s.name) (cFf x.ents s.expr))).code.length <= 100000000 /\ (x.beg (cFj (cGq x.ents s.name) (cFf x.ents s.expr))).sites.length=(x.beg (cFj (cGq x.ents s.name) (cFf x.ents s.expr))).code.length:=⟨G5,hok.sites⟩
  refine ox 10 Y Y (wcL Y Y V call52 Y (cSa (_::A) B D gg gm gf gk gl (x.beg (cFj (cGq x.ents s.name) (cFf x.ents s.expr))) vc vs _ (⟨1,(cFb x.ents s.name).n,decide ((cFb x.ents s.name).kind=1),cFk x.ents s.expr,plZ,[],[]⟩) x.n hz4.1 hz4.2) G0 cFh.h cFh.h (λh=>⟨kH.2 ⟨C4,λhh=>by simp only [mem_cons,not_mem_nil,or_false] at hh;rcases hh with rfl<;>simp [Sto.bl] at h⟩,λb hb=>cZl (r:=(⟨vc,92,12,x.code.length,x.code.flatMap encI⟩:bA)) h hb,λb hb=>cZl (r:=(⟨vs,3,1,x.sites.length,x.sites.map λx=>Vi x⟩:bA)) h hb⟩) λvc4 vs4=>?_)
  refine ax (go 1 ?_)
  have hst:cFs p s x=((x.beg (cFj (cGq x.ents s.name) (cFf x.ents s.expr))).put (⟨1,(cFb x.ents s.name).n,decide ((cFb x.ents s.name).kind=1),cFk x.ents s.expr,plZ,[],[]⟩) x.n):=by rw [cFz,if_neg J,if_neg J];unfold cFu;rw [if_neg J,if_pos J]<;>rfl
  rw [hst]
  exact ⟨.inl Y,_,⟨A++⟨D,77,[Vm gg,Vm gm,Vm gf,Vm gl,Vm gk,Vi ((((x.beg (cFj (cGq x.ents s.name) (cFf x.ents s.expr))).put (⟨1,(cFb x.ents s.name).n,decide ((cFb x.ents s.name).kind=1),cFk x.ents s.expr,plZ,[],[]⟩) x.n).locals:Nat):Int),.val vc4,.val vs4,Vi ((((x.beg (cFj (cGq x.ents s.name) (cFf x.ents s.expr))).put (⟨1,(cFb x.ents s.name).n,decide ((cFb x.ents s.name).kind=1),cFk x.ents s.expr,plZ,[],[]⟩) x.n).n:Nat):Int)]⟩::B,⟨vc4,92,12,((x.beg (cFj (cGq x.ents s.name) (cFf x.ents s.expr))).put (⟨1,(cFb x.ents s.name).n,decide ((cFb x.ents s.name).kind=1),cFk x.ents s.expr,plZ,[],[]⟩) x.n).code.length,((x.beg (cFj (cGq x.ents s.name) (cFf x.ents s.expr))).put (⟨1,(cFb x.ents s.name).n,decide ((cFb x.ents s.name).kind=1),cFk x.ents s.expr,plZ,[],[]⟩) x.n).code.flatMap encI⟩::⟨vs4,3,1,((x.beg (cFj (cGq x.ents s.name) (cFf x.ents s.expr))).put (⟨1,(cFb x.ents s.name).n,decide ((cFb x.ents s.name).kind=1),cFk x.ents s.expr,plZ,[],[]⟩) x.n).sites.length,((x.beg (cFj (cGq x.ents s.name) (cFf x.ents s.expr))).put (⟨1,(cFb x.ents s.name).n,decide ((cFb x.ents s.name).kind=1),cFk x.ents s.expr,plZ,[],[]⟩) x.n).sites.map λx=>Vi x⟩::cR3 gl 0 evI lo::rw⟩,cH Y,aA (.cons _ (.refl _)) (.refl _),Y,vc4,vs4,lo,⟨hM,hK⟩,Y⟩
 refine wcp false Y (eD h4) (go 6 ?_)
 by_cases h7:s.kind=3
 ·refine wcp true Y (eR h7) (go 9 ?_)
  refine wc0 Y call110 Y (cUk (_::A) B D gg gm gf gk gl p x.ents gs ms fs lk lo _ _ _ _ _ hM hW.mw.cons.cons s J (hne.call J) 2 (by rw [if_neg J])) ?_
  rintro _ _ ⟨rfl,rfl⟩
  have hz5:(x.beg (cFy p x.ents s)).code.length <= 100000000 /\ (x.beg (cFy p x.ents s)).sites.length=(x.beg (cFy p x.ents s)).code.length:=⟨G5,hok.sites⟩
  refine wo Y (wcL Y Y V call52 Y (cSa (_::A) B D gg gm gf gk gl (x.beg (cFy p x.ents s)) vc vs _ (cGn p x.ents s) x.n hz5.1 hz5.2) G0 cFh.h cFh.h Bj λvc5 vs5=>?_)
  refine go 2 ?_
  have hst:cFs p s x=((x.beg (cFy p x.ents s)).put (cGn p x.ents s) x.n):=BE
  rw [hst]
  exact ⟨.inl Y,_,⟨A++⟨D,77,[Vm gg,Vm gm,Vm gf,Vm gl,Vm gk,Vi ((((x.beg (cFy p x.ents s)).put (cGn p x.ents s) x.n).locals:Nat):Int),.val vc5,.val vs5,Vi ((((x.beg (cFy p x.ents s)).put (cGn p x.ents s) x.n).n:Nat):Int)]⟩::B,⟨vc5,92,12,((x.beg (cFy p x.ents s)).put (cGn p x.ents s) x.n).code.length,((x.beg (cFy p x.ents s)).put (cGn p x.ents s) x.n).code.flatMap encI⟩::⟨vs5,3,1,((x.beg (cFy p x.ents s)).put (cGn p x.ents s) x.n).sites.length,((x.beg (cFy p x.ents s)).put (cGn p x.ents s) x.n).sites.map λx=>Vi x⟩::cR3 gl 0 evI lo::rw⟩,cH Y,aA (.cons _ (.refl _)) (.refl _),Y,vc5,vs5,lo,⟨hM,hK⟩,Y⟩
 refine wcp false Y (eD h7) (go 6 ?_)
 by_cases h10:s.kind=4
 ·refine wcp true Y (eR h10) (go 9 ?_)
  refine wc0 Y call110 Y (cUk (_::A) B D gg gm gf gk gl p x.ents gs ms fs lk lo _ _ _ _ _ hM hW.mw.cons.cons s J (hne.call J) 3 (by rw [if_pos J])) ?_
  rintro _ _ ⟨rfl,rfl⟩
  have hz6:(x.beg (cFy p x.ents s)).code.length <= 100000000 /\ (x.beg (cFy p x.ents s)).sites.length=(x.beg (cFy p x.ents s)).code.length:=⟨G5,hok.sites⟩
  refine wo Y (wcL Y Y V call52 Y (cSa (_::A) B D gg gm gf gk gl (x.beg (cFy p x.ents s)) vc vs _ (cGn p x.ents s) x.n hz6.1 hz6.2) G0 cFh.h cFh.h Bj λvc6 vs6=>?_)
  refine go 2 ?_
  have hst:cFs p s x=((x.beg (cFy p x.ents s)).put (cGn p x.ents s) x.n):=BE
  rw [hst]
  exact ⟨.inl Y,_,⟨A++⟨D,77,[Vm gg,Vm gm,Vm gf,Vm gl,Vm gk,Vi ((((x.beg (cFy p x.ents s)).put (cGn p x.ents s) x.n).locals:Nat):Int),.val vc6,.val vs6,Vi ((((x.beg (cFy p x.ents s)).put (cGn p x.ents s) x.n).n:Nat):Int)]⟩::B,⟨vc6,92,12,((x.beg (cFy p x.ents s)).put (cGn p x.ents s) x.n).code.length,((x.beg (cFy p x.ents s)).put (cGn p x.ents s) x.n).code.flatMap encI⟩::⟨vs6,3,1,((x.beg (cFy p x.ents s)).put (cGn p x.ents s) x.n).sites.length,((x.beg (cFy p x.ents s)).put (cGn p x.ents s) x.n).sites.map λx=>Vi x⟩::cR3 gl 0 evI lo::rw⟩,cH Y,aA (.cons _ (.refl _)) (.refl _),Y,vc6,vs6,lo,⟨hM,hK⟩,Y⟩
 refine wcp false Y (eD h10) (go 6 ?_)
 by_cases h13:s.kind=5
 ·refine wcp true Y (eR h13) (go 10 ?_)
  refine wc0 Y call111 Y (cTh (_::A) B D gg gm gf gk gl p x.ents gs ms fs lk lo _ _ _ _ _ hM hW.mw.cons.cons s.ref GU (hne.lock J)) ?_
  rintro _ _ ⟨rfl,rfl⟩
  refine go 1 ?_
  refine eA 91 Y ((Wk.agg (.r (.r (.r (.r (.r (.r (.n (.r (.r (.r (.n (.n .nil))))))))))))):Wk _ (.agg (encI (⟨4,0,false,.zero,cG6 x.ents s.ref,[],[]⟩)))) ?_
  have hz7:(x.beg (cGo p x.ents s.ref)).code.length <= 100000000 /\ (x.beg (cGo p x.ents s.ref)).sites.length=(x.beg (cGo p x.ents s.ref)).code.length:=⟨G5,hok.sites⟩
  refine wo Y (wcL Y Y V call52 Y (cSa (_::A) B D gg gm gf gk gl (x.beg (cGo p x.ents s.ref)) vc vs _ (⟨4,0,false,.zero,cG6 x.ents s.ref,[],[]⟩) x.n hz7.1 hz7.2) G0 cFh.h cFh.h Bj λvc7 vs7=>?_)
  refine go 2 ?_
  have hst:cFs p s x=((x.beg (cGo p x.ents s.ref)).put (⟨4,0,false,.zero,cG6 x.ents s.ref,[],[]⟩) x.n):=by rw [cFz,if_neg J,if_neg J];unfold cFu;rw [if_neg J,if_neg J,if_neg J,if_pos J]<;>rfl
  rw [hst]
  exact ⟨.inl Y,_,⟨A++⟨D,77,[Vm gg,Vm gm,Vm gf,Vm gl,Vm gk,Vi ((((x.beg (cGo p x.ents s.ref)).put (⟨4,0,false,.zero,cG6 x.ents s.ref,[],[]⟩) x.n).locals:Nat):Int),.val vc7,.val vs7,Vi ((((x.beg (cGo p x.ents s.ref)).put (⟨4,0,false,.zero,cG6 x.ents s.ref,[],[]⟩) x.n).n:Nat):Int)]⟩::B,⟨vc7,92,12,((x.beg (cGo p x.ents s.ref)).put (⟨4,0,false,.zero,cG6 x.ents s.ref,[],[]⟩) x.n).code.length,((x.beg (cGo p x.ents s.ref)).put (⟨4,0,false,.zero,cG6 x.ents s.ref,[],[]⟩) x.n).code.flatMap encI⟩::⟨vs7,3,1,((x.beg (cGo p x.ents s.ref)).put (⟨4,0,false,.zero,cG6 x.ents s.ref,[],[]⟩) x.n).sites.length,((x.beg (cGo p x.ents s.ref)).put (⟨4,0,false,.zero,cG6 x.ents s.ref,[],[]⟩) x.n).sites.map λx=>Vi x⟩::cR3 gl 0 evI lo::rw⟩,cH Y,aA (.cons _ (.refl _)) (.refl _),Y,vc7,vs7,lo,⟨hM,hK⟩,Y⟩
 refine wcp false Y (eD h13) (go 6 ?_)
 by_cases h16:s.kind=6
 ·refine wcp true Y (eR h16) (go 10 ?_)
  refine wc0 Y call111 Y (cTh (_::A) B D gg gm gf gk gl p x.ents gs ms fs lk lo _ _ _ _ _ hM hW.mw.cons.cons s.ref GU (hne.lock J)) ?_
  rintro _ _ ⟨rfl,rfl⟩
  refine go 1 ?_
  refine eA 101 Y ((Wk.agg (.r (.r (.r (.r (.r (.r (.n (.r (.r (.r (.n (.n .nil))))))))))))):Wk _ (.agg (encI (⟨5,0,false,.zero,cG6 x.ents s.ref,[],[]⟩)))) ?_
  have hz8:(x.beg (cGo p x.ents s.ref)).code.length <= 100000000 /\ (x.beg (cGo p x.ents s.ref)).sites.length=(x.beg (cGo p x.ents s.ref)).code.length:=⟨G5,hok.sites⟩
  refine wo Y (wcL Y Y V call52 Y (cSa (_::A) B D gg gm gf gk gl (x.beg (cGo p x.ents s.ref)) vc vs _ (⟨5,0,false,.zero,cG6 x.ents s.ref,[],[]⟩) x.n hz8.1 hz8.2) G0 cFh.h cFh.h Bj λvc8 vs8=>?_)
  refine go 2 ?_
  have hst:cFs p s x=((x.beg (cGo p x.ents s.ref)).put (⟨5,0,false,.zero,cG6 x.ents s.ref,[],[]⟩) x.n):=by rw [cFz,if_neg J,if_neg J];unfold cFu;rw [if_neg J,if_neg J,if_neg J,if_neg J,if_pos J]<;>rfl
  rw [hst]
  exact ⟨.inl Y,_,⟨A++⟨D,77,[Vm gg,Vm gm,Vm gf,Vm gl,Vm gk,Vi ((((x.beg (cGo p x.ents s.ref)).put (⟨5,0,false,.zero,cG6 x.ents s.ref,[],[]⟩) x.n).locals:Nat):Int),.val vc8,.val vs8,Vi ((((x.beg (cGo p x.ents s.ref)).put (⟨5,0,false,.zero,cG6 x.ents s.ref,[],[]⟩) x.n).n:Nat):Int)]⟩::B,⟨vc8,92,12,((x.beg (cGo p x.ents s.ref)).put (⟨5,0,false,.zero,cG6 x.ents s.ref,[],[]⟩) x.n).code.length,((x.beg (cGo p x.ents s.ref)).put (⟨5,0,false,.zero,cG6 x.ents s.ref,[],[]⟩) x.n).code.flatMap encI⟩::⟨vs8,3,1,((x.beg (cGo p x.ents s.ref)).put (⟨5,0,false,.zero,cG6 x.ents s.ref,[],[]⟩) x.n).sites.length,((x.beg (cGo p x.ents s.ref)).put (⟨5,0,false,.zero,cG6 x.ents s.ref,[],[]⟩) x.n).sites.map λx=>Vi x⟩::cR3 gl 0 evI lo::rw⟩,cH Y,aA (.cons _ (.refl _)) (.refl _),Y,vc8,vs8,lo,⟨hM,hK⟩,Y⟩
 refine wcp false Y (eD h16) (go 6 ?_)
 by_cases h19:s.kind=9
 ·refine wcp true Y (eR h19) (go 8 ?_)
  refine eA 107 Y ((Wk.agg (.r (.r (.r (.r (.r (.r (.n (.r (.r (.n (.n (.n .nil))))))))))))):Wk _ (.agg (encI (opI 8 .zero)))) ?_
  have hz9:(x.beg (0)).code.length <= 100000000 /\ (x.beg (0)).sites.length=(x.beg (0)).code.length:=⟨G5,hok.sites⟩
  refine wo Y (wcL Y Y V call52 Y (cSa (_::A) B D gg gm gf gk gl (x.beg (0)) vc vs _ (opI 8 .zero) x.n hz9.1 hz9.2) G0 cFh.h cFh.h Bj λvc9 vs9=>?_)
  refine go 2 ?_
  have hst:cFs p s x=((x.beg (0)).put (opI 8 .zero) x.n):=by rw [cFz,if_neg J,if_neg J];unfold cFu;rw [if_neg J,if_neg J,if_neg J,if_neg J,if_neg J]<;>rfl
  rw [hst]
  exact ⟨.inl Y,_,⟨A++⟨D,77,[Vm gg,Vm gm,Vm gf,Vm gl,Vm gk,Vi ((((x.beg (0)).put (opI 8 .zero) x.n).locals:Nat):Int),.val vc9,.val vs9,Vi ((((x.beg (0)).put (opI 8 .zero) x.n).n:Nat):Int)]⟩::B,⟨vc9,92,12,((x.beg (0)).put (opI 8 .zero) x.n).code.length,((x.beg (0)).put (opI 8 .zero) x.n).code.flatMap encI⟩::⟨vs9,3,1,((x.beg (0)).put (opI 8 .zero) x.n).sites.length,((x.beg (0)).put (opI 8 .zero) x.n).sites.map λx=>Vi x⟩::cR3 gl 0 evI lo::rw⟩,cH Y,aA (.cons _ (.refl _)) (.refl _),Y,vc9,vs9,lo,⟨hM,hK⟩,Y⟩
 refine wcp false Y (eD h19) (go 8 ?_)
 have h78:s.kind=7∨s.kind=8:=J
 refine wo Y (cU1 Y Y V call112 Y (cVj s ihT ihE (_::A) B D gg gm gf gk gl p x gs ms fs lk lo vc vs _ hM hW hK h78 hok hq) G0 G0 cFh.h cFh.h G8 λvc10 vs10 lo10 hp10=>?_)
 refine go 2 ?_
 have hen:(cFs p s x).ents=x.ents:=by rw [cTq,if_neg J]
 exact ⟨.inl Y,_,⟨A++⟨D,77,[Vm gg,Vm gm,Vm gf,Vm gl,Vm gk,Vi (((cFs p s x).locals:Nat):Int),.val vc10,.val vs10,Vi (((cFs p s x).n:Nat):Int)]⟩::B,⟨vc10,92,12,(cFs p s x).code.length,(cFs p s x).code.flatMap encI⟩::⟨vs10,3,1,(cFs p s x).sites.length,(cFs p s x).sites.map λx=>Vi x⟩::cR3 gl 0 evI lo10::rw⟩,cH Y,aA (.cons _ (.refl _)) (.refl _),Y,vc10,vs10,lo10,⟨by rw [hen];exact hp10.1,hp10.2⟩,Y⟩
theorem cS4(l:List aJ)(ih:∀k (h:k<l.length),∀(A B:List Box)(D gg gm gf gk gl:Nat)(p:cK)(x:LS)(gs ms fs lk lo:Vis)(vc vs:Value)(rw:List bA)(hM:MR gs ms fs lk lo x.ents)(hW:MW4 gg gm gf gk gs ms fs lk rw)(hK:KN lo),RmL p x l[k].wt -> knS l[k] -> (cFs p l[k] x).q.1=0 -> aL prog 79 [pP D,.agg (dG l[k])] (D::gl::(aY vc++aY vs)) ⟨A++⟨D,77,[Vm gg,Vm gm,Vm gf,Vm gl,Vm gk,nC x.locals,.val vc,.val vs,nC x.n]⟩::B,⟨vc,92,12,x.code.length,x.code.flatMap encI⟩::⟨vs,3,1,x.sites.length,x.sites.map λx=>Vi x⟩::cR3 gl 0 evI lo::rw⟩ λt s'=>t=.tup [] /\ ∃vc' vs' lo',(MR gs ms fs lk lo' (cFs p l[k] x).ents /\ KN lo') /\ s'=⟨A++⟨D,77,[Vm gg,Vm gm,Vm gf,Vm gl,Vm gk,Vi (((cFs p l[k] x).locals:Nat):Int),.val vc',.val vs',Vi (((cFs p l[k] x).n:Nat):Int)]⟩::B,⟨vc',92,12,(cFs p l[k] x).code.length,(cFs p l[k] x).code.flatMap encI⟩::⟨vs',3,1,(cFs p l[k] x).sites.length,(cFs p l[k] x).sites.map λx=>Vi x⟩::cR3 gl 0 evI lo'::rw⟩)(A B:List Box)(D gg gm gf gk gl:Nat)(p:cK)(x:LS)(gs ms fs lk lo:Vis)(vc vs:Value)(rw:List bA)(hM:MR gs ms fs lk lo x.ents)(hW:MW4 gg gm gf gk gs ms fs lk rw)(hK:KN lo)(hok:RmL p x (wtS l))(hkn:cSh l)(hq:(cFe p l x).q.1=0):aL prog 51 [pP D,.c (Sq encS l)] (D::gl::(aY vc++aY vs)) ⟨A++⟨D,77,[Vm gg,Vm gm,Vm gf,Vm gl,Vm gk,nC x.locals,.val vc,.val vs,nC x.n]⟩::B,⟨vc,92,12,x.code.length,x.code.flatMap encI⟩::⟨vs,3,1,x.sites.length,x.sites.map λx=>Vi x⟩::cR3 gl 0 evI lo::rw⟩ λt s'=>t=.tup [] /\ ∃vc' vs' lo',(MR gs ms fs lk lo' x.ents /\ KN lo') /\ s'=⟨A++⟨D,77,[Vm gg,Vm gm,Vm gf,Vm gl,Vm gk,Vi (((cRs p l x).locals:Nat):Int),.val vc',.val vs',Vi (((cRs p l x).n:Nat):Int)]⟩::B,⟨vc',92,12,(cRs p l x).code.length,(cRs p l x).code.flatMap encI⟩::⟨vs',3,1,(cRs p l x).sites.length,(cRs p l x).sites.map λx=>Vi x⟩::cR3 gl 0 evI lo'::rw⟩:=by
 have hlw:=uZ l
 have hM0:=hM
 have hon:=hok.n
 refine acX 34 func51 ?_
 refine go 9 ?_
 refine bMj (α:=LS×Value×Value×Vis) (λk g=>g.1=cFe p (l.take k) x /\ MR gs ms fs lk g.2.2.2 g.1.ents /\ KN g.2.2.2) (l.length) 10 (λg=>(aY g.2.1++aY g.2.2.1)++[D,gl]) (λ_ g=>⟨A++⟨D,77,[Vm gg,Vm gm,Vm gf,Vm gl,Vm gk,nC g.1.locals,.val g.2.1,.val g.2.2.1,nC g.1.n]⟩::B,⟨g.2.1,92,12,g.1.code.length,g.1.code.flatMap encI⟩::⟨g.2.2.1,3,1,g.1.sites.length,g.1.sites.map λx=>Vi x⟩::cR3 gl 0 evI g.2.2.2::rw⟩) (λ_=>[(0,pP D),(1,.c (Sq encS l)),(8,.c (Sq encS l)),(9,nI l.length)]) (x,vc,vs,lo) ⟨by rw [List.take_zero,cFe],hM,hK⟩ (cQf AK) ?_
 rintro k ⟨y,vc,vs,lo⟩ hk ⟨hvk,hM,hK⟩
 dsimp only at hvk hM hK
 try dsimp only
 refine go 2 ?_
 by_cases h1:((k:Nat):Int)<((l.length:Nat):Int)
 ·refine wcp true Y (jZ h1) (go 9 ?_)
  have hkl:k<l.length:=J
  have hyk:RmL p y l[k].wt:=by rw [hvk];exact cGr p (l.take k) x l[k].wt (hok.mono (by have:=cVb l k hkl;omega))
  have hyq:(cFs p l[k] y).q.1=0:=by rw [hvk,cFo p l k hkl x];exact cUv p l x (k+1) hq
  refine go 1 ?_
  refine wyz Y (bH encS dG l cZo cJ k Y Y Y Y J V runUnderlying65 sizeOf120) (go 8 λb1=>?_)
  refine wo Y (cU1 Y Y V call79 Y (ih k hkl (_::A) B D gg gm gf gk gl p y gs ms fs lk lo vc vs _ hM hW hK hyk (cT9 l hkn k hkl) hyq) G0 G0 cFh.h cFh.h G8 λvc2 vs2 lo2 hp2=>?_)
  refine go 4 ?_
  refine wad Y (go 2 ?_)
  exact ⟨J,(cFs p l[k] y,vc2,vs2,lo2),⟨by show cFs p l[k] y=_;rw [←cFo p l k hkl x,←hvk],hp2.1,hp2.2⟩,cQf (h1:=(.cons _ (.refl _))) (h:=aG Y (gQ J) (sA Y)) AK⟩
 refine wcp false Y (jQ h1) (go 17 ?_)
 obtain rfl:k=l.length:=J
 rw [List.take_length] at hvk
 subst hvk
 refine bMj (α:=Vis) (λk g=>g=cSe (l.take k) lo) (l.length) 20 (λ_=>(aY vc++aY vs)++[D,gl]) (λ_ g=>⟨A++⟨D,77,[Vm gg,Vm gm,Vm gf,Vm gl,Vm gk,Vi (((cFe p l x).locals:Nat):Int),.val vc,.val vs,Vi (((cFe p l x).n:Nat):Int)]⟩::B,⟨vc,92,12,(cFe p l x).code.length,(cFe p l x).code.flatMap encI⟩::⟨vs,3,1,(cFe p l x).sites.length,(cFe p l x).sites.map λx=>Vi x⟩::cR3 gl 0 evI g::rw⟩) (λ_=>[(0,pP D),(18,.c (Sq encS l)),(19,nI l.length)]) lo Y (cQf AK) ?_
 rintro k v hk hv
 replace hv:v=cSe (l.take k) lo:=hv
 try dsimp only
 refine go 2 ?_
 by_cases h4:((k:Nat):Int)<((l.length:Nat):Int)
 ·refine wcp true Y (jZ h4) (go 9 ?_)
  have hkl:k<l.length:=J
  refine go 1 ?_
  refine wyz Y (bH encS dG l cZo cJ k Y Y Y Y J V runUnderlying65 sizeOf120) (go 9 λb3=>?_)
  by_cases h6:l[k].kind=1
  ·refine wcp true Y (eR h6) (go 3 ?_)
   refine dx [b3,D] (tz [(0,true),(1,true),(2,true),(3,true),(4,true),(5,true)] 1 (go 7 ?_))
   refine ox 6 Y Y (cBu v [_,_] Y Y Y Y underlying74 underlying9 G0 Dc ?_)
   refine ax (go 3 ?_)
   refine wad Y (go 2 ?_)
   exact ⟨J,(bZy v l[k].name),by show _=cSe (l.take (k+1)) lo;rw [cTw l k hkl,if_pos J,hv],cQf (h1:=(.cons _ (.refl _))) (h:=aG Y (gQ J) (sA Y)) AK⟩
  refine wcp false Y (eD h6) (go 7 ?_)
  refine wad Y (go 2 ?_)
  exact ⟨J,v,by show _=cSe (l.take (k+1)) lo;rw [cTw l k hkl,if_neg J,hv],cQf (h1:=(.cons _ (.refl _))) (h:=aG Y (gQ J) (sA Y)) AK⟩
 refine wcp false Y (jQ h4) (go 8 ?_)
 obtain rfl:k=l.length:=J
 rw [List.take_length] at hv
 subst hv
 exact ⟨.inl Y,_,⟨A++⟨D,77,[Vm gg,Vm gm,Vm gf,Vm gl,Vm gk,Vi (((cRs p l x).locals:Nat):Int),.val vc,.val vs,Vi (((cRs p l x).n:Nat):Int)]⟩::B,⟨vc,92,12,(cRs p l x).code.length,(cRs p l x).code.flatMap encI⟩::⟨vs,3,1,(cRs p l x).sites.length,(cRs p l x).sites.map λx=>Vi x⟩::cR3 gl 0 evI (cSe l lo)::rw⟩,cH Y,aA (.refl _) (.refl _),Y,vc,vs,cSe l lo,⟨hM0.block hM hK hq,cUo l lo hK⟩,Y⟩
theorem cTe:∀(N:Nat)(l:List aJ),wtS l <= N -> cSh l -> ∀(A B:List Box)(D gg gm gf gk gl:Nat)(p:cK)(x:LS)(gs ms fs lk lo:Vis)(vc vs:Value)(rw:List bA)(hM:MR gs ms fs lk lo x.ents)(hW:MW4 gg gm gf gk gs ms fs lk rw)(hK:KN lo),RmL p x (wtS l) -> (cFe p l x).q.1=0 -> aL prog 51 [pP D,.c (Sq encS l)] (D::gl::(aY vc++aY vs)) ⟨A++⟨D,77,[Vm gg,Vm gm,Vm gf,Vm gl,Vm gk,nC x.locals,.val vc,.val vs,nC x.n]⟩::B,⟨vc,92,12,x.code.length,x.code.flatMap encI⟩::⟨vs,3,1,x.sites.length,x.sites.map λx=>Vi x⟩::cR3 gl 0 evI lo::rw⟩ λt s'=>t=.tup [] /\ ∃vc' vs' lo',(MR gs ms fs lk lo' x.ents /\ KN lo') /\ s'=⟨A++⟨D,77,[Vm gg,Vm gm,Vm gf,Vm gl,Vm gk,Vi (((cRs p l x).locals:Nat):Int),.val vc',.val vs',Vi (((cRs p l x).n:Nat):Int)]⟩::B,⟨vc',92,12,(cRs p l x).code.length,(cRs p l x).code.flatMap encI⟩::⟨vs',3,1,(cRs p l x).sites.length,(cRs p l x).sites.map λx=>Vi x⟩::cR3 gl 0 evI lo'::rw⟩
 |0,l,h,hkn=>λA B D gg gm gf gk gl p x gs ms fs lk lo vc vs rw hM hW hK hok hq=>cS4 l (λk hk=>Cy) A B D gg gm gf gk gl p x gs ms fs lk lo vc vs rw hM hW hK hok hkn hq
 |N+1,l,h,hkn=>λA B D gg gm gf gk gl p x gs ms fs lk lo vc vs rw hM hW hK hok hq=>cS4 l (λk hk A B D gg gm gf gk gl p x gs ms fs lk lo vc vs rw hM hW hK hok hkn' hq=>cVg l[k]
   (cTe N l[k].thn Cd (cS1 hkn').2.1)
   (cTe N l[k].els Cd (cS1 hkn').2.2) A B D gg gm gf gk gl p x gs ms fs lk lo vc vs rw hM hW hK hok hkn' hq) A B D gg gm gf gk gl p x gs ms fs lk lo vc vs rw hM hW hK hok hkn hq
def cR5{α:Type}(nm:α -> ByteArray)(l:List α):Nat -> Vis
 |0=>[]
 |k+1=>match l[k]? with
  |some x=>bZq (cR5 nm l k) (nm x) ((k:Nat):Int)
  |none=>cR5 nm l k
theorem cSk{α:Type}(nm:α -> ByteArray)(l:List α)(k:Nat)(h:k<l.length):bZq (cR5 nm l k) (nm l[k]) ((k:Nat):Int)=cR5 nm l (k+1):=by
 rw [cR5,List.getElem?_eq_getElem h]
theorem cV1(x:aI)(s:Sto):aL prog 46 [.agg (dB x)] [] s λt s'=>t=Cs x.name /\ s'=s:=by
 obtain ⟨bx,rw⟩:=s
 refine acX 5 func46 ?_
 refine go 14 λb1=>?_
 exact bHe (s':=⟨bx,rw⟩) Y sb1 ⟨Y,Y⟩
theorem cVu(l:List aI)(hl:l.length <= 9000000)(s:Sto):aL prog 45 [.c (Sq dB l),Cv (.func (.func 46) #[] #[])] [] s λt s'=>∃g,t=.c (Vm g) /\ s'=⟨s.boxes,cR3 g 0 evI (cR5 aI.name l l.length)::s.rows⟩:=by
 obtain ⟨bx,rw⟩:=s
 refine acX 23 func45 ?_
 refine go 2 ?_
 refine wyz Y (id <|aCd Y Y) (go 4 ?_)
 refine wo Y (cB3 0 (evI) Y Y V λg1=>?_)
 refine go 12 ?_
 refine bMj (α:=Unit) (λ_ _=>True) (l.length) 11 (λ_=>[g1]) (λk _=>⟨bx,cR3 g1 0 evI (cR5 aI.name l k)::rw⟩) (λ_=>[(5,.c (Vm g1)),(1,Cv (.func (.func 46) #[] #[])),(9,.c (Sq dB l)),(10,nI l.length)]) () trivial (cQf (λb hb=>GM)) ?_
 rintro k ⟨⟩ hk -
 try dsimp only
 refine go 2 ?_
 by_cases h1:((k:Nat):Int)<((l.length:Nat):Int)
 ·refine wcp true Y (jZ h1) (go 9 ?_)
  have hkl:k<l.length:=J
  refine go 2 ?_
  refine wyz Y (bH dB dB l nS (λ_=>Y) k Y Y Y Y J V runUnderlying23 sizeOf63) (go 10 λb2=>?_)
  refine wo Y (rL [] Y Y Y V call46 (us:=[.agg (dB l[k])]) Y (cV1 l[k] _) (λb hb=>nomatch hb) (λb hb=>nomatch hb) (λ_ b hb=>nomatch hb) ?_)
  rintro _ _ ⟨rfl,rfl⟩
  refine ⟨[],(λ_ b hb=>nomatch hb),?_⟩
  refine go 1 ?_
  refine wo Y (cAt (cR5 aI.name l k) [] Y Y Y Y Y underlying74 underlying9 G0 He ?_)
  refine go 4 ?_
  refine wad Y (go 2 ?_)
  exact ⟨J,(),trivial,by rw [←cSk aI.name l k hkl];exact cQf (h1:=(.cons _ (.refl _))) (h:=aG rfl (gQ J) (sA rfl)) AK⟩
 refine wcp false Y (jQ h1) (go 16 ?_)
 obtain rfl:k=l.length:=J
 exact bHe (s':=⟨bx,cR3 g1 0 evI (cR5 aI.name l l.length)::rw⟩) Y sb0 ⟨g1,Y,Y⟩
theorem cVx(x:cL)(s:Sto):aL prog 48 [.agg (bT x)] [] s λt s'=>t=Cs x.name /\ s'=s:=by
 obtain ⟨bx,rw⟩:=s
 refine acX 5 func48 ?_
 refine go 14 λb1=>?_
 exact bHe (s':=⟨bx,rw⟩) Y sb1 ⟨Y,Y⟩
theorem cVq(l:List cL)(hl:l.length <= 9000000)(s:Sto):aL prog 47 [.c (Sq bT l),Cv (.func (.func 48) #[] #[])] [] s λt s'=>∃g,t=.c (Vm g) /\ s'=⟨s.boxes,cR3 g 0 evI (cR5 cL.name l l.length)::s.rows⟩:=by
 obtain ⟨bx,rw⟩:=s
 refine acX 23 func47 ?_
 refine go 2 ?_
 refine wyz Y (id <|aCd Y Y) (go 4 ?_)
 refine wo Y (cB3 0 (evI) Y Y V λg1=>?_)
 refine go 12 ?_
 refine bMj (α:=Unit) (λ_ _=>True) (l.length) 11 (λ_=>[g1]) (λk _=>⟨bx,cR3 g1 0 evI (cR5 cL.name l k)::rw⟩) (λ_=>[(5,.c (Vm g1)),(1,Cv (.func (.func 48) #[] #[])),(9,.c (Sq bT l)),(10,nI l.length)]) () trivial (cQf (λb hb=>GM)) ?_
 rintro k ⟨⟩ hk -
 try dsimp only
 refine go 2 ?_
 by_cases h1:((k:Nat):Int)<((l.length:Nat):Int)
 ·refine wcp true Y (jZ h1) (go 9 ?_)
  have hkl:k<l.length:=J
  refine go 2 ?_
  refine wyz Y (bH bT bT l mZ (λ_=>Y) k Y Y Y Y J V runUnderlying24 sizeOf60) (go 10 λb2=>?_)
  refine wo Y (rL [] Y Y Y V call48 (us:=[.agg (bT l[k])]) Y (cVx l[k] _) (λb hb=>nomatch hb) (λb hb=>nomatch hb) (λ_ b hb=>nomatch hb) ?_)
  rintro _ _ ⟨rfl,rfl⟩
  refine ⟨[],(λ_ b hb=>nomatch hb),?_⟩
  refine go 1 ?_
  refine wo Y (cAt (cR5 cL.name l k) [] Y Y Y Y Y underlying74 underlying9 G0 He ?_)
  refine go 4 ?_
  refine wad Y (go 2 ?_)
  exact ⟨J,(),trivial,by rw [←cSk cL.name l k hkl];exact cQf (h1:=(.cons _ (.refl _))) (h:=aG rfl (gQ J) (sA rfl)) AK⟩
 refine wcp false Y (jQ h1) (go 16 ?_)
 obtain rfl:k=l.length:=J
 exact bHe (s':=⟨bx,cR3 g1 0 evI (cR5 cL.name l l.length)::rw⟩) Y sb0 ⟨g1,Y,Y⟩
theorem cVp(x:bS)(s:Sto):aL prog 50 [.agg (fV x)] [] s λt s'=>t=Cs x.name /\ s'=s:=by
 obtain ⟨bx,rw⟩:=s
 refine acX 5 func50 ?_
 refine go 14 λb1=>?_
 exact bHe (s':=⟨bx,rw⟩) Y sb1 ⟨Y,Y⟩
theorem cVo(l:List bS)(hl:l.length <= 9000000)(s:Sto):aL prog 49 [.c (Sq fV l),Cv (.func (.func 50) #[] #[])] [] s λt s'=>∃g,t=.c (Vm g) /\ s'=⟨s.boxes,cR3 g 0 evI (cR5 bS.name l l.length)::s.rows⟩:=by
 obtain ⟨bx,rw⟩:=s
 refine acX 23 func49 ?_
 refine go 2 ?_
 refine wyz Y (id <|aCd Y Y) (go 4 ?_)
 refine wo Y (cB3 0 (evI) Y Y V λg1=>?_)
 refine go 12 ?_
 refine bMj (α:=Unit) (λ_ _=>True) (l.length) 11 (λ_=>[g1]) (λk _=>⟨bx,cR3 g1 0 evI (cR5 bS.name l k)::rw⟩) (λ_=>[(5,.c (Vm g1)),(1,Cv (.func (.func 50) #[] #[])),(9,.c (Sq fV l)),(10,nI l.length)]) () trivial (cQf (λb hb=>GM)) ?_
 rintro k ⟨⟩ hk -
 try dsimp only
 refine go 2 ?_
 by_cases h1:((k:Nat):Int)<((l.length:Nat):Int)
 ·refine wcp true Y (jZ h1) (go 9 ?_)
  have hkl:k<l.length:=J
  refine go 2 ?_
  refine wyz Y (bH fV fV l vC (λ_=>Y) k Y Y Y Y J V runUnderlying25 sizeOf67) (go 10 λb2=>?_)
  refine wo Y (rL [] Y Y Y V call50 (us:=[.agg (fV l[k])]) Y (cVp l[k] _) (λb hb=>nomatch hb) (λb hb=>nomatch hb) (λ_ b hb=>nomatch hb) ?_)
  rintro _ _ ⟨rfl,rfl⟩
  refine ⟨[],(λ_ b hb=>nomatch hb),?_⟩
  refine go 1 ?_
  refine wo Y (cAt (cR5 bS.name l k) [] Y Y Y Y Y underlying74 underlying9 G0 He ?_)
  refine go 4 ?_
  refine wad Y (go 2 ?_)
  exact ⟨J,(),trivial,by rw [←cSk bS.name l k hkl];exact cQf (h1:=(.cons _ (.refl _))) (h:=aG rfl (gQ J) (sA rfl)) AK⟩
 refine wcp false Y (jQ h1) (go 16 ?_)
 obtain rfl:k=l.length:=J
 exact bHe (s':=⟨bx,cR3 g1 0 evI (cR5 bS.name l l.length)::rw⟩) Y sb0 ⟨g1,Y,Y⟩
theorem cTo{T:List Nat}{bx:List Box}{rw:List bA}{g:Nat}{l:Vis}(h:(⟨bx,cR3 g 0 evI l::rw⟩:Sto).bl.Nodup):∀b,b∈[g] -> b∈(⟨bx,cR3 g 0 evI l::rw⟩:Sto).bl /\ (b∈(⟨bx,rw⟩:Sto).bl -> b∈T):=by
 intro b hb
 obtain rfl:=List.mem_singleton.1 hb
 refine ⟨by unfold Sto.bl;simp [cR9],λh9=>?_⟩
 unfold Sto.bl at h h9
 simp only [List.flatMap_cons,cR9] at h
 rcases mem_append.1 h9 with h9|h9
 ·exact absurd Y ((List.nodup_append.1 h).2.2 b h9 b G0)
 exact absurd Y ((List.nodup_append.1 (List.nodup_append.1 h).2.1).2.2 b G0 b h9)
theorem cU0(p:cK)(hg:p.globals.length <= 9000000)(hm:p.mutexes.length <= 9000000)(hf:p.funcs.length <= 9000000)(s:Sto):aL prog 25 [.agg (jV p)] [] s λt s'=>∃D gg gm gf,t=pP D /\ s'=⟨⟨D,77,[Vm gg,Vm gm,Vm gf,.val (.map none),.val (.map none),Vi 0,Nl,Nl,Vi 0]⟩::s.boxes,cR3 gf 0 evI (cR5 bS.name p.funcs p.funcs.length)::cR3 gm 0 evI (cR5 cL.name p.mutexes p.mutexes.length)::cR3 gg 0 evI (cR5 aI.name p.globals p.globals.length)::s.rows⟩:=by
 obtain ⟨bx,rw⟩:=s
 refine acX 14 func25 ?_
 refine go 7 λb1=>?_
 refine dx [b1] (tz [(0,true),(1,true),(3,true),(4,true),(6,true),(7,true)] 6 (go 7 ?_))
 refine ox 2 Y Y (aQk [] Y Y V call45 Y (cVu p.globals hg _) (λb hb=>nomatch hb) (λb hb=>nomatch hb) (λ_ b hb=>nomatch hb) ?_)
 rintro _ _ ⟨gg,rfl,rfl⟩
 refine ⟨[gg],cTo,?_⟩
 refine ox 5 Y Y (aQk [] Y Y V call47 Y (cVq p.mutexes hm _) (λb hb=>nomatch hb) (λb hb=>nomatch hb) (λ_ b hb=>nomatch hb) ?_)
 rintro _ _ ⟨gm,rfl,rfl⟩
 refine ⟨[gm],cTo,?_⟩
 refine ox 8 Y Y (aQk [] Y Y V call49 Y (cVo p.funcs hf _) (λb hb=>nomatch hb) (λb hb=>nomatch hb) (λ_ b hb=>nomatch hb) ?_)
 rintro _ _ ⟨gf,rfl,rfl⟩
 refine ⟨[gf],cTo,?_⟩
 refine tx 9 Y (id <|aNs Tryz.t77 [(0,1),(1,1),(2,1),(3,1),(4,1),(5,1),(6,1),(7,1),(8,1)] Y (.cons Y (.cons Y (.cons Y .nil))) underlying77 B6 Y B6 Y Y) (tz [(10,false),(11,true)] 0 (go 3 λb2=>?_))
 refine ax (go 2 ?_)
 exact ⟨.inr Y,_,⟨⟨b2,77,[Vm gg,Vm gm,Vm gf,.val (.map none),.val (.map none),Vi 0,Nl,Nl,Vi 0]⟩::bx,cR3 gf 0 evI (cR5 bS.name p.funcs p.funcs.length)::cR3 gm 0 evI (cR5 cL.name p.mutexes p.mutexes.length)::cR3 gg 0 evI (cR5 aI.name p.globals p.globals.length)::rw⟩,aR Y (aF Y),aA (.cons₂ _ (.cons _ (.refl _))) (.refl _),b2,gg,gm,gf,Y,Y⟩
end
end Go.Proofs.YtjgeihmhppadaaaGreatDoor
