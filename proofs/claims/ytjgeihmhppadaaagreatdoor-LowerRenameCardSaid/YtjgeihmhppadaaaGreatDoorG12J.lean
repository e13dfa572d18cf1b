import Derived.Test.YtjgeihmhppadaaaGreatDoorG11J
set_option linter.all false
set_option synthInstance.maxHeartbeats 1000000
set_option synthInstance.maxSize 1000000
set_option maxHeartbeats 1600000
set_option maxRecDepth 100000
namespace Go.Proofs.YtjgeihmhppadaaaGreatDoor
open Go.Proofs.Tryz
open List (length_append length_cons length_nil mem_append mem_cons not_mem_nil append_assoc getElem_mem take_of_length_le)
section
open Go.RowKit
section
variable {p:cK}{l:List cFc}{al:List eN}{xs:List aS}{k:Nat}(hl:xs.length=al.length)(hk:k<xs.length)(hn:cGb (al.take k) (xs.take k)=al.take k)
include hl hk hn
end
theorem cLq{l:List cFc}{al:List eN}{k:Nat}(h:k<al.length)(hm:al[k].mutex=true):cFn l (al.take (k+1))=cFn l (al.take k) /\ cF4 l (al.take (k+1))=cF4 l (al.take k)++[cG6 l al[k].ref]:=by
 unfold cFn cF4
 rw [List.take_succ_eq_append_getElem h]
 simp only [List.filter_append,List.map_append,List.filter_cons,List.filter_nil,hm];simp
theorem cLr{l:List cFc}{al:List eN}{k:Nat}(h:k<al.length)(hm:al[k].mutex=false):cF4 l (al.take (k+1))=cF4 l (al.take k) /\ cFn l (al.take (k+1))=cFn l (al.take k)++[cFk l al[k].expr]:=by
 unfold cFn cF4
 rw [List.take_succ_eq_append_getElem h]
 simp only [List.filter_append,List.map_append,List.filter_cons,List.filter_nil,hm];simp
theorem cK5(l:List cFc)(al:List eN):(cFn l al).length <= al.length /\ (cF4 l al).length <= al.length:=by
 unfold cFn cF4;rw [List.length_map,List.length_map];exact ⟨List.length_filter_le _ _,List.length_filter_le _ _⟩
end
section
open Go.RowKit
theorem cTh(A B:List Box)(D gg gm gf gk gl:Nat)(p:cK)(l:List cFc)(gs ms fs lk lo:Vis)(c5 c6 c7 c8:AC)(rw:List bA)(hM:MR gs ms fs lk lo l)(hW:MW gg gm gf gk gl gs ms fs lk lo rw)(r:cY)(hN:cZ r.index <= 1000000000)(hE:cGo p l r=0):aL prog 111 [pP D,.agg (encR r)] [] ⟨A++⟨D,77,[Vm gg,Vm gm,Vm gf,Vm gl,Vm gk,c5,c6,c7,c8]⟩::B,rw⟩ λt s'=>t=.agg (cF7 (cG6 l r)) /\ s'=⟨A++⟨D,77,[Vm gg,Vm gm,Vm gf,Vm gl,Vm gk,c5,c6,c7,c8]⟩::B,rw⟩:=by
 have hix:∀k (h:k<r.index.length),r.index[k].nodes <= 1000000000:=λk h=>by have:=nM r.index k h;omega
 have hlen:=tN r.index
 refine acX 48 func111 ?_
 refine go 8 λb1 b2=>?_
 refine dx [b2,b1,D,gg,gm,gf,gk,gl] (tz [(0,true),(1,true),(2,true),(3,true),(4,true),(5,true)] 6 (go 7 ?_))
 refine tx 6 Y (cS2 lk Y Y Y (by simp [hW.gk]) underlying74 underlying9 zeroValue3 Cf) (tz [(7,true),(8,true),(9,true),(10,true),(11,true)] 0 (go 6 ?_))
 refine ax (go 6 ?_)
 refine gY Y (λh1=>?_) (λh1=>?_)
 ·refine go 9 ?_
  obtain ⟨nr,hr1,hr2⟩:=hM.lk_ref h1 hE
  exact ⟨.inr Y,_,⟨A++⟨D,77,[Vm gg,Vm gm,Vm gf,Vm gl,Vm gk,c5,c6,c7,c8]⟩::B,rw⟩,aR Y (aCn (Wk.agg (.r (.r (.n .nil)))) (aO [] Y Y isAgg89 sizeOf89 (bK Y Y))),aA (.cons _ (.cons _ (.refl _))) (.refl _),by rw [hr2];unfold cF7;dsimp only;rw [hr1];rfl,Y⟩
 refine go 3 ?_
 refine bTy 9 [b2,b1,D,gg,gm,gf,gk,gl] [] #[true,true,true,true,true,true,true,true,true,false] B6 B6 B6 ?_
 refine tz [(0,true),(1,true),(2,true),(3,true),(4,true),(5,true)] 3 (go 7 ?_)
 refine tx 6 Y (cAm ms Y Y Y (by simp [hW.gm]) underlying74 underlying9 zeroValue3 Cf) (tz [(7,true),(8,false)] 0 (go 3 λb3=>?_))
 refine ax ?_
 refine id ?_
 refine tz [(9,false)] 0 (go 2 ?_)
 refine ax (go 11 ?_)
 refine qR 87 4 ?_
 refine bMj (α:=Value) (λ_ _=>True) (r.index.length) 34 (λg=>aY g++[b3,b2,b1]) (λk g=>⟨⟨b3,89,[Vb false,Vi (bZp ms r.name),.val g]⟩::⟨b2,89,[Vb false,Vi 0,Nl]⟩::⟨b1,117,encR r⟩::A++⟨D,77,[Vm gg,Vm gm,Vm gf,Vm gl,Vm gk,c5,c6,c7,c8]⟩::B,⟨g,87,4,k,((r.index.take k).map (cFk l)).flatMap fO⟩::rw⟩) (λ_=>[(0,pP D),(4,pP b2),(7,pP b3),(32,.c (Sq fO r.index)),(33,nI r.index.length)]) (.slice none 0 0) trivial (cQf BU) ?_
 rintro k v hk -
 try dsimp only
 refine go 2 ?_
 by_cases h2:((k:Nat):Int)<((r.index.length:Nat):Int)
 ·refine wcp true Y (jZ h2) (go 10 ?_)
  refine wyz Y (bH fO cU r.index iU fP k Y Y Y Y J V runUnderlying85 sizeOf87) (go 5 λb4=>?_)
  refine bTy 7 [b4,b3,b2,b1,D] [] #[true,true,true,true,true,true,true,false,false] B6 B6 B6 ?_
  refine tz [(0,true),(1,true),(2,true),(3,true)] 3 (go 5 ?_)
  refine ox 4 Y Y (bV Y Y V call108 Y (cSj _ r.index[k] (Nat.le_refl _) (hix k J) (_::_::_::_::A) B D gg gm gf gk gl p l gs ms fs lk lo _ _ _ _ (_::rw) hM hW.cons (cVh hE k J)) ?_)
  rintro _ _ ⟨rfl,rfl⟩
  refine ox 5 Y Y (bDk (hf:=aV fO cU (cFk l r.index[k]) (fP _) Y Y) bDo ?_)
  refine ox 6 Y Y (bDm [] dFw Y (aFz fO 4 iU _) V B1 J (N:=k+1) Y (λhn b hb=>cZl (r:=(⟨v,87,4,k,((r.index.take k).map (cFk l)).flatMap fO⟩:bA)) hn hb) cFh.h (r:=((r.index.take (k+1)).map (cFk l)).flatMap fO) (cHm (cFk l) fO r.index k J) λw5=>?_)
  refine ax ?_
  refine id ?_
  refine tz [(7,true),(8,false)] 0 (go 3 ?_)
  refine ax (go 3 ?_)
  refine wad Y (go 2 ?_)
  exact ⟨J,w5,trivial,cQf (h1:=(.cons _ (.refl _))) (h:=aG Y (gQ J) (sA Y)) BP⟩
 refine wcp false Y (jQ h2) (go 11 ?_)
 obtain rfl:k=r.index.length:=J
 rw [List.take_length]
 refine aAg (cs':=[Vb false,Vi (bZp ms r.name),.sl r.index.length ((r.index.map (cFk l)).flatMap fO)]) [] 2 Y Y ?_
 show eQ prog _ _ ⟨_,_,⟨⟨b3,89,[Vb false,Vi (bZp ms r.name),.sl r.index.length ((r.index.map (cFk l)).flatMap fO)]⟩::⟨b2,89,[Vb false,Vi 0,Nl]⟩::⟨b1,117,encR r⟩::A++⟨D,77,[Vm gg,Vm gm,Vm gf,Vm gl,Vm gk,c5,c6,c7,c8]⟩::B,rw⟩,_⟩ _
 refine go 5 ?_
 obtain ⟨nr,hr1,hr2⟩:=hM.ms_ref h1 hE
 exact ⟨.inr Y,_,⟨A++⟨D,77,[Vm gg,Vm gm,Vm gf,Vm gl,Vm gk,c5,c6,c7,c8]⟩::B,rw⟩,aR Y (aO [_] Y Y isAgg89 sizeOf89 (bK Y Y)),aA (.cons _ (.cons _ (.cons _ (.refl _)))) (.refl _),by rw [hr2];unfold cF7;dsimp only;rw [hr1];first|rw [List.length_map]|(unfold Sq;rw [List.length_map]),Y⟩
theorem cUw(A B:List Box)(D gg gm gf gk gl:Nat)(p:cK)(l:List cFc)(gs ms fs lk lo:Vis)(c5 c6 c7 c8:AC)(rw:List bA)(hM:MR gs ms fs lk lo l)(hW:MW gg gm gf gk gl gs ms fs lk lo rw)(x:ByteArray)(e:aH)(hv:(bZu lo x).isSome=false -> cGq l x=0):aL prog 109 [pP D,Cs x,.agg (cU e)] [] ⟨A++⟨D,77,[Vm gg,Vm gm,Vm gf,Vm gl,Vm gk,c5,c6,c7,c8]⟩::B,rw⟩ λt s'=>t=.agg (encI ⟨1,(cFb l x).n,decide ((cFb l x).kind=1),e,plZ,[],[]⟩) /\ s'=⟨A++⟨D,77,[Vm gg,Vm gm,Vm gf,Vm gl,Vm gk,c5,c6,c7,c8]⟩::B,rw⟩:=by
 refine acX 30 func109 ?_
 refine go 14 λb1 b2=>?_
 refine wyz Y (cS2 lo Y Y Y (by simp [hW.gl]) underlying74 underlying9 zeroValue3 Bu) (go 12 ?_)
 refine gY Y (λh1=>?_) (λh1=>?_)
 focus
  refine go 10 ?_
  obtain ⟨nx,hx1,hx2⟩:=hM.lo_in h1
 rotate_left
 refine go 3 ?_
 refine bTy 8 [b2,b1,D,gg,gm,gf,gk,gl] [] #[true,true,true,true,true,true,true,true,false] B6 B6 B6 ?_
 refine tz [(0,true),(1,true),(2,true),(3,true),(4,true)] 3 (go 6 ?_)
 refine tx 5 Y (cAm gs Y Y Y (by simp [hW.gg]) underlying74 underlying9 zeroValue3 Cf) (tz [(6,true),(7,true)] 0 (go 3 ?_))
 refine ax ?_
 refine id ?_
 refine tz [(8,false)] 0 (go 2 ?_)
 refine ax (go 2 ?_)
 obtain ⟨nx,hx1,hx2⟩:=hM.gs_in h1 (hv h1)
 all_goals
  exact ⟨.inr Y,_,⟨A++⟨D,77,[Vm gg,Vm gm,Vm gf,Vm gl,Vm gk,c5,c6,c7,c8]⟩::B,rw⟩,aR Y (aCn (Wk.agg (.r (.r (.r (.r (.r (.r (.r (.r (.r (.n (.n (.n .nil))))))))))))) (aO [] Y Y isAgg92 sizeOf92 (bK Y Y))),aA (.cons _ (.cons _ (.refl _))) (.refl _),by rw [hx2];unfold encI;dsimp only;rw [hx1];rfl,Y⟩
theorem cVf(A B:List Box)(D gg gm gf gk gl:Nat)(p:cK)(l:List cFc)(gs ms fs lk lo:Vis)(c5 c6 c7 c8:AC)(rw:List bA)(hM:MR gs ms fs lk lo l)(hW:MW gg gm gf gk gl gs ms fs lk lo rw)(y:aJ)(hw:y.wt <= 900000000)(hE:cFy p l y=0):aL prog 110 [pP D,Ci (if y.kind=4 then 3 else 2),.agg (dG y)] [] ⟨A++⟨D,77,[Vm gg,Vm gm,Vm gf,Vm gl,Vm gk,c5,c6,c7,c8]⟩::B,rw⟩ λt s'=>t=.agg (encI (cGn p l y)) /\ s'=⟨A++⟨D,77,[Vm gg,Vm gm,Vm gf,Vm gl,Vm gk,c5,c6,c7,c8]⟩::B,rw⟩:=by
 have hwp:=gD y
 have hal:=aCj y.args
 have hak:∀k (h:k<y.args.length),y.args[k].expr.nodes <= 900000000 /\ cZ y.args[k].ref.index <= 900000000:=λk h=>by have h1:=aDf y.args k h;unfold eN.wt cY.wt at h1;omega
 obtain ⟨nf,hf1,hf2,hall⟩:=hM.fs_call hE
 refine acX 48 func110 ?_
 refine go 7 λb1 b2=>?_
 refine bTy 10 [b2,b1,D,gg,gm,gf,gk,gl] [] #[true,true,true,true,true,true,true,true,true,true,false] B6 B6 B6 ?_
 refine tz [(0,true),(1,true),(2,true),(3,true),(4,true),(5,true),(6,true)] 3 (go 8 ?_)
 refine tx 7 Y (cAm fs Y Y Y (by simp [hW.gf]) underlying74 underlying9 zeroValue3 Cf) (tz [(8,true),(9,false)] 0 (go 3 λb3=>?_))
 refine ax ?_
 refine id ?_
 refine tz [(10,false)] 0 (go 2 ?_)
 refine ax (go 11 ?_)
 refine qR 89 3 ?_
 refine qR 87 4 ?_
 refine bMj (α:=Value×Value) (λ_ _=>True) (y.args.length) 22 (λg=>aY g.1++(aY g.2++[b3,b2,b1])) (λk g=>⟨⟨b3,92,[Vi (if y.kind=4 then 3 else 2),Vi (bZp fs y.name),Vb false,Vi 0,Vi 0,Vs aK,Nl,Vb false,Vi 0,Nl,.val g.1,.val g.2]⟩::⟨b2,92,[Vi 0,Vi 0,Vb false,Vi 0,Vi 0,Vs aK,Nl,Vb false,Vi 0,Nl,Nl,Nl]⟩::⟨b1,120,dG y⟩::A++⟨D,77,[Vm gg,Vm gm,Vm gf,Vm gl,Vm gk,c5,c6,c7,c8]⟩::B,⟨g.1,87,4,(cFn l (y.args.take k)).length,(cFn l (y.args.take k)).flatMap fO⟩::⟨g.2,89,3,(cF4 l (y.args.take k)).length,(cF4 l (y.args.take k)).flatMap cF7⟩::rw⟩) (λ_=>[(0,pP D),(6,pP b2),(7,pP b3),(20,.c (Sq eJ y.args)),(21,nI y.args.length)]) (.slice none 0 0,.slice none 0 0) trivial (cQf BU) ?_
 rintro k ⟨vi,vp⟩ hk -
 have hik:=cK5 l (y.args.take k)
 rw [List.length_take] at hik
 have hik2:min k y.args.length <= k:=Nat.min_le_left _ _
 try dsimp only
 refine go 2 ?_
 by_cases h1:((k:Nat):Int)<((y.args.length:Nat):Int)
 ·refine wcp true Y (jZ h1) (go 10 ?_)
  refine wyz Y (bH eJ eJ y.args iD (λ_=>Y) k Y Y Y Y J V runUnderlying118 sizeOf135) (go 8 λb4=>?_)
  rcases Bool.eq_false_or_eq_true (y.args[k].mutex) with h3|h3
  ·refine wyz Y (fL (bZ h3)) (go 3 ?_)
   refine bTy 8 [b4,b3,b2,b1,D] [] #[true,true,true,true,true,true,true,true,false,false] B6 B6 B6 ?_
   refine tz [(0,true),(1,true),(2,true),(3,true),(4,true)] 3 (go 6 ?_)
   refine ox 5 Y Y (bV Y Y V call111 Y (cTh (_::_::_::_::A) B D gg gm gf gk gl p l gs ms fs lk lo _ _ _ _ (_::_::rw) hM ((hW.cons).cons) y.args[k].ref De GD) ?_)
   rintro _ _ ⟨rfl,rfl⟩
   refine ox 6 Y Y (wbs Tryz.t89 [Vb false,Vi 0,Nl] Y Y V (.cons Y .nil) underlying90 B6 Y V V B6 B6 (aV cF7 cF7 (cG6 l y.args[k].ref) Y Y Y) ?_)
   refine ox 7 Y Y (bDm [_] dF4 Y (aFz cF7 3 cJ7 _) V Ez J (@length_append _ (cF4 l (y.args.take k)) [(cG6 l y.args[k].ref)]).symm (λhn b hb=>cZl (r:=(⟨vp,89,3,(cF4 l (y.args.take k)).length,(cF4 l (y.args.take k)).flatMap cF7⟩:bA)) hn hb) cFh.h (List.flatMap_append (f:=cF7)).symm λw5=>?_)
   refine ax ?_
   refine id ?_
   refine tz [(8,true),(9,false)] 0 (go 3 ?_)
   refine ax (go 3 ?_)
   refine wad Y (go 2 ?_)
   obtain ⟨he1,he2⟩:=cLq (l:=l) (k:=k) (al:=y.args) J h3
   exact ⟨J,(vi,w5),trivial,FF⟩
  refine wyz Y (fL (bZ h3)) (go 3 ?_)
  refine bTy 8 [b4,b3,b2,b1,D] [] #[true,true,true,true,true,true,true,true,false,false] B6 B6 B6 ?_
  refine tz [(0,true),(1,true),(2,true),(3,true),(4,true)] 3 (go 6 ?_)
  refine ox 5 Y Y (bV Y Y V call108 Y (cSj _ y.args[k].expr (Nat.le_refl _) De (_::_::_::_::A) B D gg gm gf gk gl p l gs ms fs lk lo _ _ _ _ (_::_::rw) hM ((hW.cons).cons) GD) ?_)
  rintro _ _ ⟨rfl,rfl⟩
  refine ox 6 Y Y (bDk (hf:=aV fO cU (cFk l y.args[k].expr) (fP _) Y Y) bDo ?_)
  refine ox 7 Y Y (bDm [] dFw Y (aFz fO 4 iU _) V Ez J (@length_append _ (cFn l (y.args.take k)) [(cFk l y.args[k].expr)]).symm (λhn b hb=>cZl (r:=(⟨vi,87,4,(cFn l (y.args.take k)).length,(cFn l (y.args.take k)).flatMap fO⟩:bA)) hn hb) cFh.h (List.flatMap_append (f:=fO)).symm λw6=>?_)
  refine ax ?_
  refine id ?_
  refine tz [(8,true),(9,false)] 0 (go 3 ?_)
  refine ax (go 3 ?_)
  refine wad Y (go 2 ?_)
  obtain ⟨he1,he2⟩:=cLr (l:=l) (k:=k) (al:=y.args) J h3
  exact ⟨J,(w6,vp),trivial,FF⟩
 refine wcp false Y (jQ h1) (go 11 ?_)
 obtain rfl:k=y.args.length:=J
 rw [List.take_length]
 refine aAg (cs':=[Vi (if y.kind=4 then 3 else 2),Vi (bZp fs y.name),Vb false,Vi 0,Vi 0,Vs aK,Nl,Vb false,Vi 0,Nl,.sl (cFn l y.args).length ((cFn l y.args).flatMap fO),.val vp]) [] 10 Y Y ?_
 show eQ prog _ _ ⟨_,_,⟨⟨b3,92,[Vi (if y.kind=4 then 3 else 2),Vi (bZp fs y.name),Vb false,Vi 0,Vi 0,Vs aK,Nl,Vb false,Vi 0,Nl,.sl (cFn l y.args).length ((cFn l y.args).flatMap fO),.val vp]⟩::⟨b2,92,[Vi 0,Vi 0,Vb false,Vi 0,Vi 0,Vs aK,Nl,Vb false,Vi 0,Nl,Nl,Nl]⟩::⟨b1,120,dG y⟩::A++⟨D,77,[Vm gg,Vm gm,Vm gf,Vm gl,Vm gk,c5,c6,c7,c8]⟩::B,⟨vp,89,3,(cF4 l y.args).length,(cF4 l y.args).flatMap cF7⟩::rw⟩,_⟩ _
 refine aAg (cs':=[Vi (if y.kind=4 then 3 else 2),Vi (bZp fs y.name),Vb false,Vi 0,Vi 0,Vs aK,Nl,Vb false,Vi 0,Nl,.sl (cFn l y.args).length ((cFn l y.args).flatMap fO),.sl (cF4 l y.args).length ((cF4 l y.args).flatMap cF7)]) [] 11 Y Y ?_
 show eQ prog _ _ ⟨_,_,⟨⟨b3,92,[Vi (if y.kind=4 then 3 else 2),Vi (bZp fs y.name),Vb false,Vi 0,Vi 0,Vs aK,Nl,Vb false,Vi 0,Nl,.sl (cFn l y.args).length ((cFn l y.args).flatMap fO),.sl (cF4 l y.args).length ((cF4 l y.args).flatMap cF7)]⟩::⟨b2,92,[Vi 0,Vi 0,Vb false,Vi 0,Vi 0,Vs aK,Nl,Vb false,Vi 0,Nl,Nl,Nl]⟩::⟨b1,120,dG y⟩::A++⟨D,77,[Vm gg,Vm gm,Vm gf,Vm gl,Vm gk,c5,c6,c7,c8]⟩::B,rw⟩,_⟩ _
 refine go 5 ?_
 exact ⟨.inr Y,_,⟨A++⟨D,77,[Vm gg,Vm gm,Vm gf,Vm gl,Vm gk,c5,c6,c7,c8]⟩::B,rw⟩,aR Y (aCn (Wk.agg (.r (.r (.r (.r (.r (.r (.n (.r (.r (.n (.r (.r .nil))))))))))))) (aO [_] Y Y isAgg92 sizeOf92 (bK Y Y))),aA (.cons _ (.cons _ (.cons _ (.refl _)))) (.refl _),by rw [hf2];unfold encI;dsimp only;rw [hf1];rfl,Y⟩
end
end Go.Proofs.YtjgeihmhppadaaaGreatDoor
