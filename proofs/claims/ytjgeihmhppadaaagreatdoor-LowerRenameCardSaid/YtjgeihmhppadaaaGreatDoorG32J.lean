import Derived.Test.YtjgeihmhppadaaaGreatDoorG31J
set_option linter.all false
set_option synthInstance.maxHeartbeats 1000000
set_option synthInstance.maxSize 1000000
set_option maxHeartbeats 6400000
set_option maxRecDepth 100000
namespace Go.Proofs.YtjgeihmhppadaaaGreatDoor
open Go.Proofs.Tryz
open List (length_append length_cons length_nil mem_append mem_cons not_mem_nil append_assoc getElem_mem take_of_length_le)
section
open Go.RowKit
def rn(a b s:ByteArray):ByteArray:=if s=a then b else s
def pm{α:Type}(g:α -> α)(k:Nat)(l:List α):List α:=(l.take k).map g++l.drop k
section
variable {α:Type}{g:α -> α}{l:List α}{k:Nat}
theorem cZ6(g:α -> α)(k:Nat)(l:List α):(pm g k l).length=l.length:=by unfold pm;simp;omega
theorem dBk(h:k<l.length)(h':k<(pm g k l).length):(pm g k l)[k]=l[k]:=by
 have h1:(pm g k l)[k]?=some l[k]:=by
  unfold pm
  have h2:((l.take k).map g).length=k:=DR
  rw [List.getElem?_append_right J,h2,Nat.sub_self,List.getElem?_drop,Nat.add_zero,List.getElem?_eq_getElem h]
 exact (List.getElem?_eq_some_iff.1 h1).2
theorem dBn(h:k<l.length):(pm g k l).set k (g l[k])=pm g (k+1) l:=by
 unfold pm
 rw [List.set_append_right _ _ DR,List.take_succ_eq_append_getElem h,List.map_append,append_assoc,List.drop_eq_getElem_cons h]
 congr 1
 have:k-((l.take k).map g).length=0:=DR
 rw [this];rfl
theorem dAf(g:α -> α)(l:List α):pm g l.length l=l.map g:=by unfold pm;simp
variable {enc:α -> List AC}{z:Nat}{fs:List α}
theorem dA6(hz:∀x,(enc x).length=z)(hk:k<fs.length):fs.flatMap enc=(fs.take k).flatMap enc++(enc fs[k]++(fs.drop (k+1)).flatMap enc) /\ ((fs.take k).flatMap enc).length=k*z:=by
 refine ⟨?_,by rw [aFz enc z hz,List.length_take,Nat.min_eq_left J]⟩
 conv=>lhs;rw [←List.take_append_drop k fs,List.drop_eq_getElem_cons hk]
 rw [List.flatMap_append,List.flatMap_cons]
theorem dDx(hz:∀x,(enc x).length=z)(hk:k<fs.length)(i z':Nat)(h:i+z' <= z):pk true z' (fs.flatMap enc) (0+k*z+i)=some (.agg (((enc fs[k]).drop i).take z')):=by
 obtain ⟨h1,h2⟩:=dA6 hz hk
 have h3:=hz fs[k]
 obtain ⟨R,hR⟩:∃R,R=(fs.drop (k+1)).flatMap enc:=⟨_,rfl⟩
 obtain ⟨L,hL⟩:∃L,L=(fs.take k).flatMap enc:=⟨_,rfl⟩
 rw [←hR,←hL] at h1
 rw [←hL] at h2
 have e:((fs.flatMap enc).drop (k*z+i)).take z'=((enc fs[k]).drop i).take z':=by
  rw [h1,List.drop_append,List.drop_of_length_le J,h2,Nat.add_sub_cancel_left,List.nil_append,List.drop_append_of_le_length J,List.take_append_of_le_length DI]
 have hl:k*z+i+z' <= (fs.flatMap enc).length:=by rw [h1,length_append,length_append,h2];omega
 unfold pk
 rw [if_pos rfl,Nat.zero_add,if_pos hl,e]
theorem dEf(hz:∀x,(enc x).length=z)(hk:k<fs.length)(i:Nat)(x:AC)(hx:(enc fs[k])[i]?=some x):pk false 1 (fs.flatMap enc) (0+k*z+i)=some (.c x):=by
 obtain ⟨h1,h2⟩:=dA6 hz hk
 have hi:i<(enc fs[k]).length:=(List.getElem?_eq_some_iff.1 hx).1
 unfold pk
 rw [if_neg V,h1,Nat.zero_add,List.getElem?_append_right J,h2,Nat.add_sub_cancel_left,List.getElem?_append_left hi,hx];rfl
theorem dDf(hz:∀x,(enc x).length=z)(hk:k<fs.length)(i z':Nat)(h:i+z' <= z):0+k*z+i+z' <= (fs.flatMap enc).length:=by
 rw [aFz enc z hz]
 have:(k+1)*z <= fs.length*z:=Nat.mul_le_mul_right _ hk
 rw [Nat.add_mul] at this;omega
theorem dCd(hz:∀x,(enc x).length=z)(hk:k<fs.length)(i:Nat)(ds:List AC)(f':α)(hi:i+ds.length <= z)(hx:(enc fs[k]).take i++(ds++(enc fs[k]).drop (i+ds.length))=enc f'):splice (fs.flatMap enc) (0+k*z+i) ds=(fs.set k f').flatMap enc:=by
 obtain ⟨h1,h2⟩:=dA6 hz hk
 have h3:=hz fs[k]
 have h4:(fs.set k f').flatMap enc=(fs.take k).flatMap enc++(enc f'++(fs.drop (k+1)).flatMap enc):=by
  rw [List.set_eq_take_append_cons_drop,if_pos hk,List.flatMap_append,List.flatMap_cons]
 obtain ⟨R,hR⟩:∃R,R=(fs.drop (k+1)).flatMap enc:=⟨_,rfl⟩
 obtain ⟨L,hL⟩:∃L,L=(fs.take k).flatMap enc:=⟨_,rfl⟩
 rw [←hR,←hL] at h1 h4
 rw [←hL] at h2
 rw [h4,h1,←hx]
 unfold splice
 rw [Nat.zero_add,List.take_append,take_of_length_le J,h2,Nat.add_sub_cancel_left,List.take_append_of_le_length J,List.drop_append,List.drop_of_length_le J,List.nil_append,h2,show k*z+i+ds.length-k*z=i+ds.length by omega,List.drop_append_of_le_length J]
 simp only [append_assoc]
theorem dAk(hz:∀x,(enc x).length=z)(hk:k<l.length)(i z':Nat)(h:i+z' <= z):pk true z' ((pm g k l).flatMap enc) (0+k*z+i)=some (.agg (((enc l[k]).drop i).take z')):=by
 rw [dDx hz GC i z' h,dBk hk]
theorem dCs(hz:∀x,(enc x).length=z)(hk:k<l.length)(i:Nat)(x:AC)(hx:(enc l[k])[i]?=some x):pk false 1 ((pm g k l).flatMap enc) (0+k*z+i)=some (.c x):=
 dEf hz GC i x (by rw [dBk hk];exact hx)
theorem dBq(hz:∀x,(enc x).length=z)(hk:k<l.length):splice ((pm g k l).flatMap enc) (0+k*z) (enc (g l[k]))=(pm g (k+1) l).flatMap enc:=by
 have h:=dCd hz (fs:=pm g k l) GC 0 (enc (g l[k])) (g l[k]) (by rw [hz];omega) (by rw [hz,List.take_zero,List.nil_append,Nat.zero_add,List.drop_of_length_le (by rw [hz];omega),List.append_nil])
 rw [dBn hk] at h;exact h
theorem cZ4(hz:∀x,(enc x).length=z)(hk:k<l.length)(i z':Nat)(h:i+z' <= z):0+k*z+i+z' <= ((pm g k l).flatMap enc).length:=dDf hz GC i z' h
end
theorem dDc(g:ByteArray -> ByteArray)(e:aH):(mE g e).op=e.op /\ (mE g e).num=e.num /\ (mE g e).args=e.args.map (mE g):=by
 cases e;rw [mE];exact ⟨rfl,rfl,cZv g _⟩
theorem dDd{a b:ByteArray}{e:aH}(h:¬e.op=2):(mE (rn a b) e).name=e.name:=by
 cases e;rw [mE];exact if_neg h
theorem dEr{a b:ByteArray}{e:aH}(h:e.op=2)(ha:e.name=a):(mE (rn a b) e).name=b:=by
 obtain ⟨op,num,name,args⟩:=e
 rw [mE];show (if op=2 then rn a b name else name)=b
 rw [if_pos (show op=2 from h)];unfold rn;exact if_pos ha
theorem dDt{a b:ByteArray}{e:aH}(h:e.op=2)(ha:¬e.name=a):(mE (rn a b) e).name=e.name:=by
 obtain ⟨op,num,name,args⟩:=e
 rw [mE];show (if op=2 then rn a b name else name)=name
 rw [if_pos (show op=2 from h)];unfold rn;exact if_neg ha
theorem dGd{n m:Nat}{c:List AC}(h:n=m):AC.sl n c=AC.sl m c:=by rw [h]
theorem dGe{a b c a' b' c':AC}(h:a=a')(h1:b=b')(h2:c=c'):AT.agg [a,b,c]=AT.agg [a',b',c']:=by rw [h,h1,h2]
theorem dDz(g:ByteArray -> ByteArray)(e:aH):cU (mE g e)=[Vi e.op,Vi e.num,Vs ((mE g e).name),.sl e.args.length ((e.args.map (mE g)).flatMap fO)]:=by
 obtain ⟨h1,h2,h3⟩:=dDc g e
 unfold cU;rw [h1,h2,h3];exact congrArg (λc=>[_,_,_,c]) (dGd (List.length_map _))
theorem dCy(e:aH)(a b:ByteArray)(hn:e.args.length <= 1000000000)(ih:∀k (h:k<e.args.length) (s:Sto),aL prog 53 [.agg (cU e.args[k]),Cs a,Cs b] [] s λt s'=>t=.agg (cU (mE (rn a b) e.args[k])) /\ s'=s)(s:Sto):aL prog 53 [.agg (cU e),Cs a,Cs b] [] s λt s'=>t=.agg (cU (mE (rn a b) e)) /\ s'=s:=by
 obtain ⟨bx,rw⟩:=s
 refine acX 43 func53 ?_
 refine go 6 λb1 b2=>?_
 refine cG2 (λ_:Unit=>(⟨43,[b2,b1],⟨⟨b2,87,[Vi 0,Vi 0,Vs aK,Nl]⟩::⟨b1,87,[Vi e.op,Vi e.num,Vs ((mE (rn a b) e).name),Sq fO e.args]⟩::bx,rw⟩,[(1,Cs a),(2,Cs b),(3,pP b1),(6,pP b2)]⟩:AS)) ?_ ?_
 ·refine go 4 ?_
  by_cases h1:e.op=2
  focus
   refine wcp true Y (eR h1) (go 4 ?_)
   by_cases h2:e.name=a
   focus
    refine wyz Y (aZ true Y Y Y (aL8 h2)) (go 9 ?_)
    rw [dEr J h2]
   rotate_left
   refine wyz Y (aZ false Y Y Y (aLs h2)) (go 5 ?_)
   rw [dDt J h2]
  rotate_left 2
  refine wcp false Y (eD h1) (go 10 ?_)
  rw [dDd J]
  all_goals
   exact ⟨(),cQf BP⟩
 rintro ⟨⟩
 try dsimp only
 refine go 2 ?_
 refine wo Y (aTr underlying85 sizeOf87 λg1=>?_)
 refine go 2 ?_
 refine wo Y (jU [] Tryz.t87 56 Y Y V Y Y underlying85 B6 Y Y Y Y V (aFz fO 4 iU e.args) B1 J (Nat.zero_add e.args.length) (λ_=>cFh.h) cFh.h (List.nil_append _) λw3=>?_)
 refine go 10 ?_
 refine bMj (α:=Unit) (λ_ _=>True) (e.args.length) 8 (λ_=>aY w3++[b2,b1]) (λk _=>⟨⟨b2,87,[Vi 0,Vi 0,Vs aK,Nl]⟩::⟨b1,87,[Vi e.op,Vi e.num,Vs ((mE (rn a b) e).name),Sq fO e.args]⟩::bx,⟨w3,87,4,e.args.length,(pm (mE (rn a b)) k e.args).flatMap fO⟩::rw⟩) (λ_=>[(7,Cv w3),(1,Cs a),(2,Cs b),(3,pP b1),(6,pP b2)]) () trivial (cQf BP) ?_
 rintro k ⟨⟩ hk -
 try dsimp only
 refine go 5 ?_
 refine wyz Y (kV [] Y Y Y runUnderlying85) ?_
 by_cases h6:((k:Nat):Int)<((e.args.length:Nat):Int)
 ·refine wcp true Y (jZ h6) (go 7 ?_)
  have hkl:k<e.args.length:=J
  refine aEw [] J λgr cr hgr=>?_
  subst hgr
  refine go 5 ?_
  refine wyz Y (dH (z:=4) k Y Y Y Y hkl runUnderlying85 sizeOf87) ?_
  refine wyz Y (rM [] isAgg87 sizeOf87 ((dAk iU hkl 0 4 V).trans (by rw [fP]))) (go 2 ?_)
  refine wc1 Y call53 Y (ih k hkl _) ?_
  refine wyz Y (dH (z:=4) k Y Y Y Y hkl runUnderlying85 sizeOf87) ?_
  refine wo Y (aO0 (r:=(pm (mE (rn a b)) (k+1) e.args).flatMap fO) [] Y Y Y Y Y sizeOf87 Y (cZ4 iU hkl 0 4 V) ((congrArg _ (fP _).symm).trans (dBq iU hkl)) Cq FW ?_)
  refine go 5 ?_
  refine wad Y (go 2 ?_)
  exact ⟨J,(),trivial,cQf (h:=aG Y (gQ J) (sA Y)) BP⟩
 refine wcp false Y (jQ h6) (go 10 ?_)
 obtain rfl:k=e.args.length:=J
 rw [dAf]
 refine go 7 ?_
 refine aAg (cs':=[Vi e.op,Vi e.num,Vs ((mE (rn a b) e).name),.sl e.args.length ((e.args.map (mE (rn a b))).flatMap fO)]) [_] 3 Y Y ?_
 show eQ prog _ _ ⟨_,_,⟨⟨b2,87,[Vi 0,Vi 0,Vs aK,Nl]⟩::⟨b1,87,[Vi e.op,Vi e.num,Vs ((mE (rn a b) e).name),.sl e.args.length ((e.args.map (mE (rn a b))).flatMap fO)]⟩::bx,rw⟩,_⟩ _
 refine go 5 ?_
 exact ⟨.inr Y,_,⟨bx,rw⟩,aR Y (aO [] Y Y isAgg87 sizeOf87 (bK Y Y)),aA (.cons _ (.cons _ (.refl _))) (.refl _),by rw [dDz],Y⟩
theorem dBp:∀(N:Nat)(e:aH)(a b:ByteArray),e.nodes <= N -> N <= 1000000000 -> ∀s:Sto,aL prog 53 [.agg (cU e),Cs a,Cs b] [] s λt s'=>t=.agg (cU (mE (rn a b) e)) /\ s'=s
 |0,e,_,_,h,_=>Bm
 |N+1,e,a,b,h,hN=>dCy e a b (by have:=uC e;omega) λk hk s=>dBp N e.args[k] a b B0 J s
theorem dA8{a b s:ByteArray}(h:s=a):rn a b s=b:=if_pos h
theorem dAm{a b s:ByteArray}(h:¬s=a):rn a b s=s:=if_neg h
theorem dEt(g:ByteArray -> ByteArray)(r:cY):encR (mR g r)=[Vs (g r.name),.sl r.index.length ((r.index.map (mE g)).flatMap fO)]:=by unfold encR mR;exact congrArg (λc=>[_,c]) (dGd (List.length_map _))
theorem dC4(r:cY)(a b:ByteArray)(hn:cZ r.index <= 1000000000)(s:Sto):aL prog 54 [.agg (encR r),Cs a,Cs b] [] s λt s'=>t=.agg (encR (mR (rn a b) r)) /\ s'=s:=by
 have hlen:=tN r.index
 obtain ⟨bx,rw⟩:=s
 refine acX 38 func54 ?_
 refine go 6 λb1 b2=>?_
 refine cG2 (λ_:Unit=>(⟨38,[b2,b1],⟨⟨b2,117,[Vs aK,Nl]⟩::⟨b1,117,[Vs (rn a b r.name),Sq fO r.index]⟩::bx,rw⟩,[(1,Cs a),(2,Cs b),(3,pP b1),(6,pP b2)]⟩:AS)) ?_ ?_
 ·refine go 5 ?_
  by_cases h1:r.name=a
  focus
   refine wyz Y (aZ true Y Y Y (aL8 h1)) (go 8 ?_)
   rw [dA8 h1]
  rotate_left
  refine wyz Y (aZ false Y Y Y (aLs h1)) (go 4 ?_)
  rw [dAm h1]
  all_goals
   exact ⟨(),cQf BP⟩
 rintro ⟨⟩
 try dsimp only
 refine go 2 ?_
 refine wo Y (aTr underlying85 sizeOf87 λg1=>?_)
 refine go 2 ?_
 refine wo Y (jU [] Tryz.t87 56 Y Y V Y Y underlying85 B6 Y Y Y Y V (aFz fO 4 iU r.index) B1 J (Nat.zero_add r.index.length) (λ_=>cFh.h) cFh.h (List.nil_append _) λw3=>?_)
 refine go 10 ?_
 refine bMj (α:=Unit) (λ_ _=>True) (r.index.length) 8 (λ_=>aY w3++[b2,b1]) (λk _=>⟨⟨b2,117,[Vs aK,Nl]⟩::⟨b1,117,[Vs (rn a b r.name),Sq fO r.index]⟩::bx,⟨w3,87,4,r.index.length,(pm (mE (rn a b)) k r.index).flatMap fO⟩::rw⟩) (λ_=>[(7,Cv w3),(1,Cs a),(2,Cs b),(3,pP b1),(6,pP b2)]) () trivial (cQf BP) ?_
 rintro k ⟨⟩ hk -
 try dsimp only
 refine go 5 ?_
 refine wyz Y (kV [] Y Y Y runUnderlying85) ?_
 by_cases h4:((k:Nat):Int)<((r.index.length:Nat):Int)
 ·refine wcp true Y (jZ h4) (go 7 ?_)
  have hkl:k<r.index.length:=J
  refine aEw [] J λgr cr hgr=>?_
  subst hgr
  refine go 5 ?_
  refine wyz Y (dH (z:=4) k Y Y Y Y hkl runUnderlying85 sizeOf87) ?_
  refine wyz Y (rM [] isAgg87 sizeOf87 ((dAk iU hkl 0 4 V).trans (by rw [fP]))) (go 2 ?_)
  refine wc1 Y call53 Y (dBp r.index[k].nodes r.index[k] a b (Nat.le_refl _) (by have:=nM r.index k hkl;omega) _) ?_
  refine wyz Y (dH (z:=4) k Y Y Y Y hkl runUnderlying85 sizeOf87) ?_
  refine wo Y (aO0 (r:=(pm (mE (rn a b)) (k+1) r.index).flatMap fO) [] Y Y Y Y Y sizeOf87 Y (cZ4 iU hkl 0 4 V) ((congrArg _ (fP _).symm).trans (dBq iU hkl)) Cq FW ?_)
  refine go 5 ?_
  refine wad Y (go 2 ?_)
  exact ⟨J,(),trivial,cQf (h:=aG Y (gQ J) (sA Y)) BP⟩
 refine wcp false Y (jQ h4) (go 10 ?_)
 obtain rfl:k=r.index.length:=J
 rw [dAf]
 refine go 7 ?_
 refine aAg (cs':=[Vs (rn a b r.name),.sl r.index.length ((r.index.map (mE (rn a b))).flatMap fO)]) [_] 1 Y Y ?_
 show eQ prog _ _ ⟨_,_,⟨⟨b2,117,[Vs aK,Nl]⟩::⟨b1,117,[Vs (rn a b r.name),.sl r.index.length ((r.index.map (mE (rn a b))).flatMap fO)]⟩::bx,rw⟩,_⟩ _
 refine go 5 ?_
 exact ⟨.inr Y,_,⟨bx,rw⟩,aR Y (aO [] Y Y isAgg117 sizeOf117 (bK Y Y)),aA (.cons _ (.cons _ (.refl _))) (.refl _),by rw [dEt],Y⟩
end
section
open Go.RowKit
def ST(l:List ByteArray):List AC:=l.map λx=>Vs x
theorem dBu{α:Type}(nm:α -> ByteArray)(B:List ByteArray)(l:List α)(k:Nat)(h:k<l.length):ST (B++(l.take k).map nm)++[Vs (nm l[k])]=ST (B++(l.take (k+1)).map nm):=by
 rw [List.take_succ_eq_append_getElem h];unfold ST;simp only [List.map_append,List.map_cons,List.map_nil,append_assoc]
theorem dE2{l:List ByteArray}{j:Nat}(h:j<l.length):pk false 1 (ST l) (0+j*1)=some (Cs (l[j])):=by
 rw [Nat.zero_add,Nat.mul_one]
 have e:(ST l)[j]?=some (Vs (l[j])):=by unfold ST;rw [List.getElem?_map,List.getElem?_eq_getElem h];rfl
 unfold pk;rw [if_neg V,e];rfl
def cZ1(p:cK):List ByteArray:=p.globals.map aI.name++p.mutexes.map cL.name++(p.funcs.drop 1).map bS.name
theorem dDg(p:cK)(x:Int)(hg:p.globals.length <= 1000000)(hm1:1 <= p.mutexes.length)(hm:p.mutexes.length <= 1000000)(hf1:1 <= p.funcs.length)(hf:p.funcs.length <= 1000000)(s:Sto):aL prog 11 [.agg (jV p),Ci x] [] s λt s'=>(∃(j:Nat) (h:j<(cZ1 p).length),t=Cs ((cZ1 p)[j])) /\ s'=s:=by
 obtain ⟨bx,rw⟩:=s
 refine acX 64 func11 ?_
 refine go 18 λb1=>?_
 refine qR 9 1 ?_
 refine fM (λg:Nat×Value=>(⟨64,aY g.2++[b1],⟨⟨b1,27,jV p⟩::bx,⟨g.2,9,1,0+g.1,ST (([]:List ByteArray)++(p.globals.take g.1).map aI.name)⟩::rw⟩,[(6,nI g.1),(5,Cv g.2),(1,Ci x),(2,pP b1)]⟩:AS)) (λg=>g.1 <= p.globals.length) (λg=>p.globals.length-g.1) (0,(.slice none 0 0)) (cQf G3) (Nat.zero_le _) ?_
 rintro ⟨k,v⟩ hk
 replace hk:k <= p.globals.length:=hk
 try dsimp only
 refine go 7 ?_
 by_cases h1:((k:Nat):Int)<((p.globals.length:Nat):Int)
 ·refine wcp true Y (jZ h1) (go 7 ?_)
  have hkl:k<p.globals.length:=J
  refine go 5 ?_
  refine wyz Y (bH dB dB p.globals nS (λ_=>Y) k Y Y Y Y J V runUnderlying23 sizeOf63) (go 2 ?_)
  refine wo Y (bDk (r:=[Vs (p.globals[k].name)]) cG8 ?_)
  refine wo Y (bDm [] dFs Y Y V B1 J (N:=0+(k+1)) Y (λ_=>cFh.h) cFh.h (dBu aI.name ([]:List ByteArray) p.globals k hkl) λw2=>?_)
  refine go 6 ?_
  refine wad Y (go 2 ?_)
  exact ⟨(k+1,w2),(by show k+1 <= p.globals.length;omega),GW,cQf (h:=aG Y (gQ J) (sA Y)) BP⟩
 refine wcp false Y (jQ h1) (go 15 ?_)
 obtain rfl:k=p.globals.length:=J
 have e1:ST (([]:List ByteArray)++(p.globals.take p.globals.length).map aI.name)=ST ((p.globals.map aI.name)++(p.mutexes.take 0).map cL.name):=G0
 have e2:0+p.globals.length=p.globals.length+0:=J
 rw [e1,e2]
 clear e1 e2
 refine fM (λg:Nat×Value=>(⟨64,aY g.2++[b1],⟨⟨b1,27,jV p⟩::bx,⟨g.2,9,1,p.globals.length+g.1,ST ((p.globals.map aI.name)++(p.mutexes.take g.1).map cL.name)⟩::rw⟩,[(7,nI g.1),(5,Cv g.2),(1,Ci x),(2,pP b1)]⟩:AS)) (λg=>g.1 <= p.mutexes.length) (λg=>p.mutexes.length-g.1) (0,v) (cQf G3) (Nat.zero_le _) ?_
 rintro ⟨k,v⟩ hk
 replace hk:k <= p.mutexes.length:=hk
 try dsimp only
 refine go 7 ?_
 by_cases h4:((k:Nat):Int)<((p.mutexes.length:Nat):Int)
 ·refine wcp true Y (jZ h4) (go 7 ?_)
  have hkl:k<p.mutexes.length:=J
  refine go 5 ?_
  refine wyz Y (bH bT bT p.mutexes mZ (λ_=>Y) k Y Y Y Y J V runUnderlying24 sizeOf60) (go 2 ?_)
  refine wo Y (bDk (r:=[Vs (p.mutexes[k].name)]) cG8 ?_)
  refine wo Y (bDm [] dFs Y Y V B1 J (N:=p.globals.length+(k+1)) Y (λ_=>cFh.h) cFh.h (dBu cL.name (p.globals.map aI.name) p.mutexes k hkl) λw3=>?_)
  refine go 6 ?_
  refine wad Y (go 2 ?_)
  exact ⟨(k+1,w3),GH,Eg,cQf (h:=aG Y (gQ J) (sA Y)) BP⟩
 refine wcp false Y (jQ h4) (go 15 ?_)
 obtain rfl:k=p.mutexes.length:=J
 have e1:ST ((p.globals.map aI.name)++(p.mutexes.take p.mutexes.length).map cL.name)=ST ((p.globals.map aI.name++p.mutexes.map cL.name)++((p.funcs.drop 1).take 0).map bS.name):=G0
 have e2:p.globals.length+p.mutexes.length=p.globals.length+p.mutexes.length+0:=J
 rw [e1,e2]
 clear e1 e2
 refine fM (λg:Nat×Value=>(⟨64,aY g.2++[b1],⟨⟨b1,27,jV p⟩::bx,⟨g.2,9,1,p.globals.length+p.mutexes.length+g.1,ST ((p.globals.map aI.name++p.mutexes.map cL.name)++((p.funcs.drop 1).take g.1).map bS.name)⟩::rw⟩,[(8,Ci ((g.1+1:Nat):Int)),(5,Cv g.2),(1,Ci x),(2,pP b1)]⟩:AS)) (λg=>g.1 <= (p.funcs.drop 1).length) (λg=>(p.funcs.drop 1).length-g.1) (0,v) (cQf G3) (Nat.zero_le _) ?_
 rintro ⟨k,v⟩ hk
 replace hk:k <= (p.funcs.drop 1).length:=hk
 try dsimp only
 refine go 7 ?_
 by_cases h7:((k+1:Nat):Int)<((p.funcs.length:Nat):Int)
 ·refine wcp true Y (jZ h7) (go 7 ?_)
  have hkl:k<(p.funcs.drop 1).length:=DI
  refine go 5 ?_
  refine wyz Y (bH fV fV p.funcs vC (λ_=>Y) (k+1) Y Y Y Y J V runUnderlying25 sizeOf67) (go 2 ?_)
  have hdk:(p.funcs.drop 1)[k]=p.funcs[k+1]:=by rw [List.getElem_drop];congr 1;omega
  rw [←hdk]
  refine wo Y (bDk (r:=[Vs ((p.funcs.drop 1)[k].name)]) cG8 ?_)
  refine wo Y (bDm [] dFs Y Y V B1 J (N:=p.globals.length+p.mutexes.length+(k+1)) Y (λ_=>cFh.h) cFh.h (dBu bS.name (p.globals.map aI.name++p.mutexes.map cL.name) (p.funcs.drop 1) k hkl) λw4=>?_)
  refine go 6 ?_
  refine wad Y (go 2 ?_)
  exact ⟨(k+1,w4),(by show k+1 <= (p.funcs.drop 1).length;omega),(by show (p.funcs.drop 1).length-(k+1)<(p.funcs.drop 1).length-k;omega),cQf (h:=aG Y (gQ J) (sA Y)) BP⟩
 refine wcp false Y (jQ h7) (go 9 ?_)
 have hk1:k=(p.funcs.drop 1).length:=by rw [List.length_drop] at hk⊢;omega
 subst hk1
 have hdl:(p.funcs.drop 1).length <= p.funcs.length:=DI
 rw [List.take_length]
 have hdn:(cZ1 p).length=p.globals.length+p.mutexes.length+(p.funcs.drop 1).length:=by unfold cZ1;simp only [length_append,List.length_map]
 rw [show p.globals.map aI.name++p.mutexes.map cL.name++(p.funcs.drop 1).map bS.name=cZ1 p from rfl,←hdn]
 refine aEw [] J λgr cr hgr=>?_
 subst hgr
 refine go 4 ?_
 refine wyz Y (kV [] Y Y Y runUnderlying61) ?_
 obtain ⟨j,hj,hlj⟩:=bEj x (((cZ1 p).length:Nat):Int) J
 refine wc0 Y call16 Y (bEl x (((cZ1 p).length:Nat):Int) j J J hj _) ?_
 rintro _ _ ⟨rfl,rfl⟩
 refine wyz Y (dH (z:=1) j Y Y Y Y J runUnderlying61 sizeOf9) ?_
 refine wyz Y (rM [] isAgg9 sizeOf9 (dE2 (l:=cZ1 p) (j:=j) J)) (go 4 ?_)
 exact ⟨.inr Y,_,⟨bx,rw⟩,aR Y (aF Y),aA (.cons _ (.refl _)) (.cons _ (.refl _)),⟨j,J,Y⟩,Y⟩
end
section
section
variable {Q:ByteArray -> Prop}{g h:ByteArray -> ByteArray}(hq:∀s,Q s -> g s=h s)
include hq
mutual
theorem dC9:∀e:aH,gdE Q e -> mE g e=mE h e
 |.mk op num name args,he=>by
  rw [gdE] at he
  rw [mE,mE,dCe args he.2]
  by_cases h2:op=2
  ·rw [if_pos h2,if_pos h2,hq _ (he.1 h2)]
  rw [if_neg h2,if_neg h2]
theorem dCe:∀l:List aH,cZ0 Q l -> mEs g l=mEs h l
 |[],_=>by rw [mEs,mEs]
 |e::l,he=>by rw [cZ0] at he;rw [mEs,mEs,dC9 e he.1,dCe l he.2]
end
theorem dEg(r:cY)(hr:gdR Q r):mR g r=mR h r:=by unfold mR;rw [hq _ hr.1,←cZv,←cZv,dCe hq _ hr.2]
theorem dE5(a:eN)(ha:gdA Q a):mA g a=mA h a:=by unfold mA;rw [dEg hq _ ha.1,dC9 hq _ ha.2]
mutual
theorem dE7:∀s:aJ,gdS Q s -> mS g s=mS h s
 |.mk k n e r a t f,hs=>by
  rw [gdS] at hs
  obtain ⟨h1,h2,h3,h4,h5,h6⟩:=hs
  rw [mS,mS,hq _ h1,dC9 hq e h2,dEg hq r h3,dBm t h5,dBm f h6,List.map_congr_left λx hx=>dE5 hq x (h4 x hx)]
theorem dBm:∀l:List aJ,cZs Q l -> mSs g l=mSs h l
 |[],_=>by rw [mSs,mSs]
 |s::l,hs=>by rw [cZs] at hs;rw [mSs,mSs,dE7 s hs.1,dBm l hs.2]
end
theorem dE3{R:ByteArray -> Prop}{g' h':ByteArray -> ByteArray}(hr:∀s,R s -> g' s=h' s){p:cK}(hp:gdP Q R p):mP g g' p=mP h h' p:=by
 unfold mP
 rw [List.map_congr_left λx hx=>(show mG g x=mG h x by unfold mG;rw [hq _ (hp.globals x hx)]),List.map_congr_left λx hx=>(show mM g x=mM h x by unfold mM;rw [hq _ (hp.mutexes x hx)]),
  List.map_congr_left λx hx=>(show mF g g' x=mF h h' x by
   obtain ⟨h1,h2,h3⟩:=hp.funcs x hx
   unfold mF;rw [hq _ h1,dBm hq _ h3,List.map_congr_left λy hy=>(show mQ g' y=mQ h' y by unfold mQ;rw [hr _ (h2 y hy)])])]
end
def sw(a b s:ByteArray):ByteArray:=if s=a then b else if s=b then a else s
theorem dEi{a b:ByteArray}(ha:bQ a=true)(hb:bQ b=true)(ha':a≠cFl)(hb':b≠cFl):Sg (sw a b):=by
 have ne:∀{s},bQ s=true -> s≠aK:=λh e=>by rw [e] at h;exact absurd h V
 have big:∀{s:ByteArray},bQ s=true -> s.size <= 4611686018427387904:=λh=>Nat.le_trans (dV h) V
 refine ⟨λ {s t} h=>?_,λs=>?_,?_,?_,λs hs=>?_⟩
 ·unfold sw at h
  by_cases h1:s=a<;>by_cases h2:t=a<;>by_cases h3:s=b<;>by_cases h4:t=b<;>simp_all
 ·unfold sw
  split
  ·rename_i e;rw [hb,e,ha]
  split
  ·rename_i e;rw [ha,e,hb]
  rfl
 ·unfold sw;rw [if_neg (ne ha).symm,if_neg (ne hb).symm]
 ·unfold sw;rw [if_neg (Ne.symm ha'),if_neg (Ne.symm hb')]
 unfold sw
 split
 ·exact big hb
 split
 ·exact big ha
 exact hs
theorem dE6{a b s:ByteArray}(h:s≠b):rn a b s=sw a b s:=by unfold rn sw;by_cases e:s=a;rw [if_pos e,if_pos e];rw [if_neg e,if_neg e,if_neg h]
theorem dE4{a b s:ByteArray}(h:s≠a /\ s≠b):id s=sw a b s:=by unfold sw;rw [if_neg h.1,if_neg h.2];rfl
section
variable {Q:ByteArray -> Prop}(he:Q aK)
include he
omit he in
theorem eT.gd{vars:List ByteArray}(hv:∀x,x∈vars -> Q x){d:Nat}{e:aH}(h:eT vars d e):gdE Q e:=by
 induction h with
 |name hx=>rw [gdE,cZ0];exact ⟨λ_=>hv _ hx,trivial⟩
 |num h0 h1=>rw [gdE,cZ0];exact ⟨λh=>absurd h V,trivial⟩
 |un ho he ih=>rw [gdE,cZ0,cZ0];exact ⟨λh=>J,ih,trivial⟩
 |bin h0 h1 ha hb iha ihb=>rw [gdE,cZ0,cZ0,cZ0];exact ⟨λh=>J,iha,ihb,trivial⟩
theorem dB2:gdE Q .zero:=by unfold aH.zero;rw [gdE,cZ0];exact ⟨λ_=>he,trivial⟩
theorem dB4:gdR Q .zero:=⟨he,GP⟩
variable {ms:List cL}{fs:List Sig}{ps:List aS}(hm:∀m,m∈ms -> Q m.name)(hp:∀x,x∈ps -> Q x.name)(hf:∀g,g∈fs -> Q g.1)(hn:∀i,i<24 -> Q (cZk i))
include hm hp
omit he in
theorem uA.gd{vars:List ByteArray}(hv:∀x,x∈vars -> Q x){r:cY}(h:uA ms ps vars r):gdR Q r:=by
 cases h with
 |arr h1 h2 h3=>exact ⟨hm _ h1,by show cZ0 Q [_];rw [cZ0,cZ0];exact ⟨h3.gd hv,trivial⟩⟩
 |scalar h1 h2=>exact ⟨hm _ h1,GP⟩
 |param h1 h2=>exact ⟨hp _ h1,GP⟩
theorem nB.gd{vars:List ByteArray}(hv:∀x,x∈vars -> Q x){l:List aS}{al:List eN}(h:nB ms ps vars l al):∀x,x∈al -> gdA Q x:=by
 induction h with
 |nil=>intro x hx;cases hx
 |mutex h1 hr h ih=>
  intro x hx
  rcases mem_cons.1 hx with rfl|hx
  ·exact ⟨hr.gd hm hp hv,dB2 he⟩
  ·exact ih x hx
 |expr h1 hr h ih=>
  intro x hx
  rcases mem_cons.1 hx with rfl|hx
  ·exact ⟨dB4 he,hr.gd hv⟩
  exact ih x hx
include hf hn
theorem dJ.gd{vars:List ByteArray}{deep left left':Nat}{l:List aJ}(h:dJ ms fs ps vars deep left l left'):left <= 24 -> (∀x,x∈vars -> Q x) -> cZs Q l:=by
 have zE:=dB2 he
 have zR:=dB4 he
 have no:∀x,x∈([]:List eN) -> gdA Q x:=λx hx=>Hb
 have nl:cZs Q []:=by rw [cZs];trivial
 induction h with
 |nil=>intro _ _;exact nl
 |lock hr h ih=>intro hl hv;rw [cZs,gdS];have:=h.le;exact ⟨⟨he,zE,hr.gd hm hp hv,no,nl,nl⟩,ih J hv⟩
 |unlock hr h ih=>intro hl hv;rw [cZs,gdS];exact ⟨⟨he,zE,hr.gd hm hp hv,no,nl,nl⟩,ih J hv⟩
 |@var vars deep left left' e rest hx h ih=>
  intro hl hv
  rw [cZs,gdS]
  refine ⟨⟨hn _ J,hx.gd hv,zR,no,nl,nl⟩,ih J λx hm=>?_⟩
  rcases mem_append.1 hm with hm|hm
  ·exact hv x hm
  ·rw [List.mem_singleton.1 hm];exact hn _ J
 |assign hx hxe h ih=>intro hl hv;rw [cZs,gdS];exact ⟨⟨hv _ hx,hxe.gd hv,zR,no,nl,nl⟩,ih J hv⟩
 |call hk hg ha h ih=>intro hl hv;rw [cZs,gdS];exact ⟨⟨hf _ hg,zE,zR,ha.gd he hm hp hv,nl,nl⟩,ih J hv⟩
 |cond hx ht hel h iht ihe ih=>intro hl hv;rw [cZs,gdS];have:=ht.le;have:=hel.le;exact ⟨⟨he,hx.gd hv,zR,no,iht J hv,ihe J hv⟩,ih J hv⟩
 |loop hx ht h iht ih=>intro hl hv;rw [cZs,gdS];have:=ht.le;exact ⟨⟨he,hx.gd hv,zR,no,iht J hv,nl⟩,ih J hv⟩
 |ret h ih=>intro hl hv;rw [cZs,gdS];exact ⟨⟨he,zE,zR,no,nl,nl⟩,ih J hv⟩
 |pair hr hmid h ihm ih=>
  intro hl hv
  have:=hmid.le
  rw [cZs,gdS]
  refine ⟨⟨he,zE,hr.gd hm hp hv,no,nl,nl⟩,dB5 (ihm J hv) ?_⟩
  rw [cZs,gdS]
  exact ⟨⟨he,zE,hr.gd hm hp hv,no,nl,nl⟩,ih J hv⟩
end
def dDq:List ByteArray:=(List.range 2).map cEb++(List.range 4).map cEa++(List.range 3).map (λi=>dA9 (i+1))
theorem dCz:dDq.all (λa=>bQ a && decide (a≠cFl) && decide (a≠zzz) && (List.range 3).all (λi=>decide (cB7 i≠a)))=true:=B6
theorem dDh:((List.range 2).map cEb++(List.range 4).map cEa++(List.range 4).map dA9++(List.range 3).map cB7++(List.range 24).map cZk++[aK]).all (λa=>decide (a≠zzz))=true:=B6
theorem dBx:bQ zzz=true:=B6
theorem dB7:zzz≠cFl:=V
section
variable {p:cK}(hp:sY p)
include hp
theorem dCj:(∀k (h:k<p.globals.length),p.globals[k].name=cEb k) /\ (∀k (h:k<p.mutexes.length),p.mutexes[k].name=cEa k) /\ ∀k (h:k<p.funcs.length),p.funcs[k].name=dA9 k:=by
 refine ⟨λk h=>(hp.globals.2 k h).1,λk h=>(hp.mutexes.2.2 k h).1,λk h=>?_⟩
 have h1:=hp.funcs.2.2 k h
 unfold dA9
 by_cases h0:k=0
 ·rw [if_pos h0];exact (h1.1 h0).1
 rw [if_neg h0];exact h1.2.1 J
theorem dD5{a:ByteArray}(h:a∈cZ1 p):a∈dDq:=by
 obtain ⟨h1,h2,h3⟩:=dCj hp
 have g1:=hp.globals.1;have g2:=hp.mutexes.2.1;have g3:=hp.funcs.2.1
 unfold cZ1 at h
 unfold dDq
 rcases mem_append.1 h with h|h
 ·refine List.mem_append_left _ ?_
  rcases mem_append.1 h with h|h
  ·obtain ⟨x,hx,rfl⟩:=List.mem_map.1 h
   obtain ⟨k,hk,rfl⟩:=List.getElem_of_mem hx
   exact List.mem_append_left _ (List.mem_map.2 ⟨k,List.mem_range.2 J,(h1 k hk).symm⟩)
  obtain ⟨x,hx,rfl⟩:=List.mem_map.1 h
  obtain ⟨k,hk,rfl⟩:=List.getElem_of_mem hx
  exact List.mem_append_right _ (List.mem_map.2 ⟨k,List.mem_range.2 J,(h2 k hk).symm⟩)
 obtain ⟨x,hx,rfl⟩:=List.mem_map.1 h
 obtain ⟨k,hk,rfl⟩:=List.getElem_of_mem hx
 rw [List.length_drop] at hk
 refine List.mem_append_right _ (List.mem_map.2 ⟨k,List.mem_range.2 J,?_⟩)
 rw [List.getElem_drop]
 have h4:=h3 (1+k) J
 rw [h4];congr 1;omega
theorem dBl{a:ByteArray}(h:a∈cZ1 p):bQ a=true /\ a≠cFl /\ a≠zzz /\ ∀i,i<3 -> cB7 i≠a:=by
 have h1:=List.all_eq_true.1 dCz a (dD5 hp h)
 simp only [Bool.and_eq_true,decide_eq_true_eq] at h1
 exact ⟨h1.1.1.1,h1.1.1.2,h1.1.2,λi hi=>of_decide_eq_true (List.all_eq_true.1 h1.2 i (List.mem_range.2 hi))⟩
theorem dCg{a:ByteArray}(h:a∈cZ1 p):gdP (λs=>s≠zzz) (λs=>s≠a /\ s≠zzz) p:=by
 obtain ⟨h1,h2,h3⟩:=dCj hp
 have g1:=hp.globals.1;have g2:=hp.mutexes.2.1;have g3:=hp.funcs.2.1
 have all:=λx=>List.all_eq_true.1 dDh x
 have qG:∀k,k<2 -> cEb k≠zzz:=λk hk=>of_decide_eq_true (all _ (by simp only [mem_append];exact .inl (.inl (.inl (.inl (.inl (List.mem_map.2 ⟨k,List.mem_range.2 hk,rfl⟩)))))))
 have qM:∀k,k<4 -> cEa k≠zzz:=λk hk=>of_decide_eq_true (all _ (by simp only [mem_append];exact .inl (.inl (.inl (.inl (.inr (List.mem_map.2 ⟨k,List.mem_range.2 hk,rfl⟩)))))))
 have qF:∀k,k<4 -> dA9 k≠zzz:=λk hk=>of_decide_eq_true (all _ (by simp only [mem_append];exact .inl (.inl (.inl (.inr (List.mem_map.2 ⟨k,List.mem_range.2 hk,rfl⟩))))))
 have qP:∀k,k<3 -> cB7 k≠zzz:=λk hk=>of_decide_eq_true (all _ (by simp only [mem_append];exact .inl (.inl (.inr (List.mem_map.2 ⟨k,List.mem_range.2 hk,rfl⟩)))))
 have qV:∀k,k<24 -> cZk k≠zzz:=λk hk=>of_decide_eq_true (all _ (by simp only [mem_append];exact .inl (.inr (List.mem_map.2 ⟨k,List.mem_range.2 hk,rfl⟩))))
 have qE:aK≠zzz:=V
 have gl:∀x,x∈p.globals -> x.name≠zzz:=λx hx=>by obtain ⟨k,hk,rfl⟩:=List.getElem_of_mem hx;rw [h1 k hk];exact qG k J
 have mu:∀x,x∈p.mutexes -> x.name≠zzz:=λx hx=>by obtain ⟨k,hk,rfl⟩:=List.getElem_of_mem hx;rw [h2 k hk];exact qM k J
 have fu:∀x,x∈p.funcs -> x.name≠zzz:=λx hx=>by obtain ⟨k,hk,rfl⟩:=List.getElem_of_mem hx;rw [h3 k hk];exact qF k J
 have pa:∀f,f∈p.funcs -> ∀y,y∈f.params -> ∃i,i<3 /\ y.name=cB7 i:=λf hf y hy=>by
  obtain ⟨k,hk,rfl⟩:=List.getElem_of_mem hf
  obtain ⟨j,hj,rfl⟩:=List.getElem_of_mem hy
  have h5:=(hp.funcs.2.2 k hk).2.2
  exact ⟨p.funcs[k].params.length-j,by have:=h5.1;omega,h5.2 j hj⟩
 have bodies:∀(left:Nat)(l:List bS),kZ p.mutexes (p.funcs.map bS.sig) p.globals left l -> left <= 24 -> (∀f,f∈l -> f∈p.funcs) -> ∀f,f∈l -> cZs (λs=>s≠zzz) f.body:=by
  intro left l hb
  induction hb with
  |nil=>intro _ _ f hf;cases hf
  |@cons left left' f l hbk hbl ih=>
   intro hl hin g hg
   rcases mem_cons.1 hg with rfl|hg
   ·have hpar:∀x,x∈g.params -> x.name≠zzz:=λx hx=>by
     obtain ⟨i,hi,e⟩:=pa g (hin g List.mem_cons_self) x hx
     rw [e];exact qP i hi
    refine hbk.gd qE mu hpar (λs hs=>?_) qV hl λx hx=>?_
    ·obtain ⟨f',hf',rfl⟩:=List.mem_map.1 hs;exact fu f' hf'
    unfold uS at hx
    rcases mem_append.1 hx with hx|hx
    ·obtain ⟨y,hy,rfl⟩:=List.mem_map.1 hx;exact gl y hy
    obtain ⟨y,hy,rfl⟩:=List.mem_map.1 hx;exact hpar y (List.mem_filter.1 hy).1
   ·exact ih (by have:=hbk.le;omega) (λf hf=>hin f (List.mem_cons_of_mem _ hf)) g hg
 refine ⟨gl,mu,λf hf=>⟨fu f hf,λy hy=>?_,bodies 24 p.funcs hp.bodies (Nat.le_refl _) (λf hf=>hf) f hf⟩⟩
 obtain ⟨i,hi,e⟩:=pa f hf y hy
 rw [e];exact ⟨(dBl hp h).2.2.2 i hi,qP i hi⟩
end
theorem dCf{p:cK}{a:ByteArray}(h:gdP (λs=>s≠zzz) (λs=>s≠a /\ s≠zzz) p):mP (rn a zzz) id p=mP (sw a zzz) (sw a zzz) p:=dE3 (λ_ hs=>dE6 hs) (λ_ hs=>dE4 hs) h
section
variable (g h:ByteArray -> ByteArray)
mutual
theorem dBg:∀e:aH,(mE g e).nodes=e.nodes
 |.mk op num name args=>by rw [mE,aH.nodes,aH.nodes,dAt args]
theorem dAt:∀l:List aH,cZ (mEs g l)=cZ l
 |[]=>by rw [mEs]
 |e::l=>by rw [mEs,cZ,cZ,dBg e,dAt l]
end
theorem dEj(r:cY):(mR g r).wt=r.wt:=by unfold cY.wt mR;dsimp only;rw [←cZv,dAt]
theorem dEd:∀l:List eN,wtA (l.map (mA g))=wtA l
 |[]=>rfl
 |a::l=>by rw [List.map_cons,wtA,wtA,dEd l];unfold eN.wt mA;dsimp only;rw [dEj,dBg]
mutual
theorem dE0:∀s:aJ,(mS g s).wt=s.wt
 |.mk k n e r a t f=>by rw [mS,aJ.wt,aJ.wt,dBg,dEj,dEd,dBw t,dBw f]
theorem dBw:∀l:List aJ,wtS (mSs g l)=wtS l
 |[]=>by rw [mSs]
 |s::l=>by rw [mSs,wtS,wtS,dE0 s,dBw l]
end
theorem dC3(p:cK):(mP g h p).wt=p.wt:=by
 have e:∀f:bS,(mF g h f).wt=f.wt:=λf=>by unfold bS.wt mF;dsimp only;rw [List.length_map,dBw]
 unfold cK.wt mP
 dsimp only
 rw [List.length_map,List.length_map,List.map_map,show bS.wt ∘ mF g h=bS.wt from funext e]
end
end
section
open Go.RowKit
structure ISm (i:cFw):Prop where
 e:i.expr.nodes <= 1000000000
 p:cZ i.place.at_ <= 1000000000
 n:cZ i.ints <= 1000000000
 q:∀x,x∈i.places -> cZ x.at_ <= 1000000000
 l:i.places.length <= 1000000000
theorem dB0(l:List aH)(hn:cZ l <= 1000000000)(s:Sto):aL prog 57 [.c (Sq fO l),.c (Sq fO l)] [] s λt s'=>t=Cb true /\ s'=s:=by
 have hlen:=tN l
 obtain ⟨bx,rw⟩:=s
 refine acX 27 func57 ?_
 refine go 12 ?_
 refine wcp false Y (xG J) (go 12 ?_)
 refine oC (l.length) 5 (λk=>[(0,.c (Sq fO l)),(1,.c (Sq fO l))]) (sA Y) λk hk=>?_
 show AWp prog _ ⟨27,_,_,(5,nI k)::[(0,.c (Sq fO l)),(1,.c (Sq fO l))]⟩ _
 refine go 6 ?_
 by_cases h2:((k:Nat):Int)<((l.length:Nat):Int)
 ·refine wcp true Y (jZ h2) (go 8 ?_)
  have hkl:k<l.length:=J
  refine dx [] (tz [(0,true),(1,true)] 8 (go 3 ?_))
  refine tx 2 Y (bH fO cU l iU fP k Y Y Y Y J V runUnderlying85 sizeOf87) (tz [(3,true),(4,true),(5,true)] 4 (go 4 ?_))
  refine tx 6 Y (bH fO cU l iU fP k Y Y Y Y J V runUnderlying85 sizeOf87) (tz [(7,true)] 2 (go 2 ?_))
  refine ox 8 Y Y (bV Y Y V call55 Y (cZ5 l[k] (by have:=nM l k hkl;omega) _) ?_)
  rintro _ _ ⟨rfl,rfl⟩
  refine tz [(9,true)] 0 (go 2 ?_)
  refine ax (go 7 ?_)
  refine wad Y (go 2 ?_)
  exact ⟨J,(aG Y (gQ J) (sA Y))⟩
 refine wcp false Y (jQ h2) (go 14 ?_)
 exact bHe (s':=⟨bx,rw⟩) Y sb0 ⟨cX Y,Y⟩
theorem dB8(x:cG5)(hn:cZ x.at_ <= 1000000000)(s:Sto):aL prog 56 [.agg (cF7 x),.agg (cF7 x)] [] s λt s'=>t=Cb true /\ s'=s:=by
 obtain ⟨bx,rw⟩:=s
 refine acX 24 func56 ?_
 refine go 13 λb1 b2=>?_
 refine wyz Y (aJ8 true Y Y Y runUnderlying4 (by simp [aEb])) (go 5 ?_)
 refine wcp true Y (eR J) (go 6 ?_)
 refine wc1 Y call57 Y (dB0 x.at_ J _) (go 5 ?_)
 exact bHe (s':=⟨bx,rw⟩) Y sb2 ⟨cX Y,Y⟩
theorem dDj(c:List cFw)(hl:c.length <= 1000000000)(hs:∀i,i∈c -> ISm i)(s:Sto):aL prog 29 [.c (Sq encI c),.c (Sq encI c)] [] s λt s'=>t=Cb true /\ s'=s:=by
 obtain ⟨bx,rw⟩:=s
 refine acX 99 func29 ?_
 refine go 12 ?_
 refine wcp false Y (xG J) (go 12 ?_)
 refine oC (c.length) 5 (λk=>[(0,.c (Sq encI c)),(1,.c (Sq encI c))]) (sA Y) λk hk=>?_
 show AWp prog _ ⟨99,_,_,(5,nI k)::[(0,.c (Sq encI c)),(1,.c (Sq encI c))]⟩ _
 refine go 6 ?_
 by_cases h2:((k:Nat):Int)<((c.length:Nat):Int)
 ·refine wcp true Y (jZ h2) (go 8 ?_)
  have hkl:k<c.length:=J
  have hm:=hs c[k] (getElem_mem hkl)
  have hml:=hm.l
  refine dx [] (tz [(0,true),(1,true)] 10 (go 3 ?_))
  refine tx 2 Y (bH encI encI c cGj (λ_=>Y) k Y Y Y Y J V runUnderlying75 sizeOf92) (tz [(3,true),(4,true),(5,true)] 6 (go 4 ?_))
  refine tx 6 Y (bH encI encI c cGj (λ_=>Y) k Y Y Y Y J V runUnderlying75 sizeOf92) (tz [(7,true)] 4 (go 2 ?_))
  refine aI1 8 9 B6 B6 B6 Y Y Y Y Y Y Y Y V Y Y V V V zeroValue92 Y zeroValue92 Y λb1 b2=>?_
  refine tz [(10,false),(11,false)] 0 (go 3 ?_)
  refine ax (go 8 ?_)
  refine wcp false Y (xG J) (go 5 ?_)
  refine wcp false Y (xG J) (go 6 ?_)
  refine wyz Y (aJ8 false Y Y Y runUnderlying4 (by simp [aEb])) (go 6 ?_)
  refine wc1 Y call55 Y (cZ5 c[k].expr hm.e _) (go 7 ?_)
  refine wc1 Y call56 Y (dB8 c[k].place hm.p _) (go 7 ?_)
  refine wc1 Y call57 Y (dB0 c[k].ints hm.n _) (go 9 ?_)
  refine wcp false Y (xG J) (go 12 ?_)
  refine oC (c[k].places.length) 8 (λj=>[(0,.c (Sq encI c)),(1,.c (Sq encI c)),(5,nI k),(6,pP b1),(7,pP b2)]) (sA Y) λj hj=>?_
  show AWp prog _ ⟨99,_,_,(8,nI j)::[(0,.c (Sq encI c)),(1,.c (Sq encI c)),(5,nI k),(6,pP b1),(7,pP b2)]⟩ _
  refine go 7 ?_
  by_cases h5:((j:Nat):Int)<((c[k].places.length:Nat):Int)
  ·refine wcp true Y (jZ h5) (go 8 ?_)
   refine dx [b2,b1] (tz [(0,true),(1,true),(2,true)] 9 (go 4 ?_))
   refine tx 3 Y (bH cF7 cF7 c[k].places cJ7 (λ_=>Y) j Y Y Y Y J V runUnderlying90 sizeOf89) (tz [(4,true),(5,true),(6,true),(7,true)] 4 (go 5 ?_))
   refine tx 8 Y (bH cF7 cF7 c[k].places cJ7 (λ_=>Y) j Y Y Y Y J V runUnderlying90 sizeOf89) (tz [(9,true)] 2 (go 2 ?_))
   refine ox 10 Y Y (bV Y Y V call56 Y (dB8 c[k].places[j] (hm.q _ (getElem_mem J)) _) ?_)
   rintro _ _ ⟨rfl,rfl⟩
   refine tz [(11,true)] 0 (go 2 ?_)
   refine ax (go 7 ?_)
   refine wad Y (go 2 ?_)
   exact ⟨J,(aG Y (gQ J) (sA Y))⟩
  refine wcp false Y (jQ h5) (go 11 ?_)
  refine wad Y (go 2 ?_)
  exact ⟨J,cQf (h1:=(.cons _ (.cons _ (.refl _)))) (h:=aG Y (gQ J) (sA Y)) (λb hb=>List.mem_cons_of_mem _ (List.mem_cons_of_mem _ (hb)))⟩
 refine wcp false Y (jQ h2) (go 14 ?_)
 exact bHe (s':=⟨bx,rw⟩) Y sb0 ⟨cX Y,Y⟩
def mPc(g:ByteArray -> ByteArray)(x:cI1):cI1:=⟨g x.name,x.ints,x.locks,x.locals,x.code⟩
theorem dA1(u:cJ0)(g:ByteArray -> ByteArray)(hg:u.globals.length <= 1000000000)(hml:u.mutexes.length <= 1000000000)(hpl:u.procs.length <= 1000000000)(hs:∀x,x∈u.procs -> x.code.length <= 1000000000 /\ ∀i,i∈x.code -> ISm i)(s:Sto):aL prog 12 [.agg (cK1 u),.agg [.sl u.globals.length (u.globals.map λx=>Vi x),.sl u.mutexes.length (u.mutexes.flatMap λx=>bT (mM g x)),.sl u.procs.length (u.procs.flatMap λx=>cF9 (mPc g x)),nC u.main],Cb false] [] s λt s'=>t=Cb true /\ s'=s:=by
 obtain ⟨bx,rw⟩:=s
 refine acX 149 func12 ?_
 refine go 14 λb1 b2=>?_
 refine wcp false Y (xG J) (go 5 ?_)
 refine wc1 Y call19 Y (cVd u.globals u.globals Y J _) (go 9 ?_)
 refine wcp false Y (xG J) (go 8 ?_)
 refine wcp false Y (xG J) (go 13 ?_)
 refine oC (u.mutexes.length) 7 (λk=>[(2,Cb false),(3,pP b1),(4,pP b2)]) (sA Y) λk hk=>?_
 show AWp prog _ ⟨149,_,_,(7,nI k)::[(2,Cb false),(3,pP b1),(4,pP b2)]⟩ _
 refine go 7 ?_
 by_cases h2:((k:Nat):Int)<((u.mutexes.length:Nat):Int)
 ·refine wcp true Y (jZ h2) (go 8 ?_)
  have hkl:k<u.mutexes.length:=J
  refine dx [b2,b1] (tz [(0,true),(1,true),(2,true)] 43 (go 4 ?_))
  refine tx 3 Y (bH bT bT u.mutexes mZ (λ_=>Y) k Y Y Y Y J V runUnderlying24 sizeOf60) (tz [(4,true),(5,true),(6,true),(7,true),(8,true)] 37 (go 6 ?_))
  refine tx 9 Y (bH (λx=>bT (mM g x)) (λx=>[Vs (g x.name),Vb x.reentrant,Vi x.size]) u.mutexes (λ_=>Y) (λ_=>Y) k Y Y Y Y hkl V runUnderlying24 sizeOf60) (tz [(10,true),(11,true)] 34 (go 3 ?_))
  refine tx 12 Y (aJ8 false Y Y Y runUnderlying4 (by simp [aEb])) (tz [(13,true),(14,true),(15,true),(16,true)] 29 (go 5 ?_))
  refine tx 17 Y (bH bT bT u.mutexes mZ (λ_=>Y) k Y Y Y Y J V runUnderlying24 sizeOf60) (tz [(18,true),(19,true),(20,true),(21,true),(22,true)] 23 (go 6 ?_))
  refine tx 23 Y (bH (λx=>bT (mM g x)) (λx=>[Vs (g x.name),Vb x.reentrant,Vi x.size]) u.mutexes (λ_=>Y) (λ_=>Y) k Y Y Y Y hkl V runUnderlying24 sizeOf60) (tz [(24,true),(25,true)] 20 (go 3 ?_))
  refine tx 26 Y (bO false Y Y Y (xG J)) (tz [(27,true),(28,true),(29,true),(30,true),(31,true),(32,true),(33,true),(34,true),(35,true),(36,true),(37,true),(38,true),(39,true),(40,true),(41,true),(42,true),(43,true),(44,true),(45,true)] 0 (go 20 ?_))
  refine ax (go 7 ?_)
  refine wad Y (go 2 ?_)
  exact ⟨J,(aG Y (gQ J) (sA Y))⟩
 refine wcp false Y (jQ h2) (go 15 ?_)
 refine oC (u.procs.length) 8 (λj=>[(2,Cb false),(3,pP b1),(4,pP b2)]) (sA Y) λj hj=>?_
 show AWp prog _ ⟨149,_,_,(8,nI j)::[(2,Cb false),(3,pP b1),(4,pP b2)]⟩ _
 refine go 7 ?_
 by_cases h6:((j:Nat):Int)<((u.procs.length:Nat):Int)
 ·refine wcp true Y (jZ h6) (go 8 ?_)
  have hjl:j<u.procs.length:=J
  obtain ⟨hm1,hm2⟩:=hs u.procs[j] (getElem_mem hjl)
  refine dx [b2,b1] (tz [(0,true),(1,true),(2,true)] 11 (go 4 ?_))
  refine tx 3 Y (bH cF9 cF9 u.procs cI0 (λ_=>Y) j Y Y Y Y J V runUnderlying29 sizeOf79) (tz [(4,true),(5,true),(6,true),(7,true)] 6 (go 5 ?_))
  refine tx 8 Y (bH (λx=>cF9 (mPc g x)) (λx=>[Vs (g x.name),nC x.ints,nC x.locks,nC x.locals,Sq encI x.code]) u.procs (λ_=>Y) (λ_=>Y) j Y Y Y Y hjl V runUnderlying29 sizeOf79) (tz [(9,true)] 4 (go 2 ?_))
  refine aI1 10 11 B6 B6 B6 Y Y Y Y Y Y Y Y V Y Y V V V zeroValue79 Y zeroValue79 Y λb3 b4=>?_
  refine tz [(12,false),(13,false)] 0 (go 3 ?_)
  refine ax (go 7 ?_)
  refine wcp false Y (xG J) (go 5 ?_)
  refine wcp false Y (xG J) (go 6 ?_)
  refine wcp false Y (xG J) (go 6 ?_)
  refine wc1 Y call29 Y (dDj u.procs[j].code hm1 hm2 _) (go 20 ?_)
  refine wad Y (go 2 ?_)
  exact ⟨J,cQf (h1:=(.cons _ (.cons _ (.refl _)))) (h:=aG Y (gQ J) (sA Y)) (λb hb=>List.mem_cons_of_mem _ (List.mem_cons_of_mem _ (hb)))⟩
 refine wcp false Y (jQ h6) (go 14 ?_)
 exact bHe (s':=⟨bx,rw⟩) Y sb2 ⟨cX Y,Y⟩
end
section
theorem dDa{g:ByteArray -> ByteArray}(hg:Sg g){p:cK}(hs:p.sane)(hc:cFx p=(0,0,0)):cKk (mP g g p)=⟨(cKk p).globals,(cKk p).mutexes.map (mM g),(cKk p).procs.map (mPc g),(cKk p).main⟩:=by
 have hc2:=(dAz hg hs).trans hc
 obtain ⟨-,-,-,hE⟩:=cTy hc
 have pr:∀f,f∈p.funcs -> cGe (mP g g p) (mF g g f)=mPc g (cGe p f):=λf hf=>by
  obtain ⟨l,i,m,h1,-⟩:=cUj (hE f hf)
  obtain ⟨-,h3,h4,h5,h6⟩:=dDk hg p f
  have n1:(cGe p f).name=f.name:=by unfold cGe;rw [h1]
  have n2:(cGe (mP g g p) (mF g g f)).name=g f.name:=by unfold cGe;rw [dA7,show (mF g g f).params=f.params.map (mQ g) from rfl,dA4 hg,h1];rfl
  have eta:∀x:cI1,x=⟨x.name,x.ints,x.locks,x.locals,x.code⟩:=λ_=>Y
  rw [eta (cGe (mP g g p) (mF g g f)),n2,h3,h4,h5,h6];unfold mPc;rw [n1]
 have ep:((mP g g p).funcs.map (cGe (mP g g p)))=(p.funcs.map (cGe p)).map (mPc g):=by
  show (p.funcs.map (mF g g)).map (cGe (mP g g p))=_
  rw [List.map_map,List.map_map]
  exact List.map_congr_left λx hx=>pr x hx
 have eg:(mP g g p).globals.map aI.init=p.globals.map aI.init:=by
  show (p.globals.map (mG g)).map aI.init=_
  rw [List.map_map];rfl
 rw [cLm hc2,cLm hc,dEn hg,ep,eg];rfl
end
section
mutual
theorem cZ3(l:List cFc):∀e:aH,(cFk l e).nodes <= e.nodes
 |.mk op num name args=>by
  rw [cFk]
  split
  ·unfold cJw;rw [aH.nodes,aH.nodes,cZ];omega
  have:=cZ9 l args;rw [aH.nodes,aH.nodes];omega
theorem cZ9(l:List cFc):∀r:List aH,cZ (cIl l r) <= cZ r
 |[]=>by rw [cIl];omega
 |e::r=>by have h1:=cZ3 l e;have h2:=cZ9 l r;rw [cIl,cZ,cZ];omega
end
theorem dBb(l:List cFc)(r:cY):cZ (cG6 l r).at_ <= cZ r.index:=by
 show cZ (r.index.map (cFk l)) <= _
 rw [←cIn];exact cZ9 l r.index
theorem ISm.to{i:cFw}(h:ISm i)(t:Nat):ISm (i.to t):=⟨h.e,h.p,h.n,h.q,h.l⟩
def cZu(x:LS):Prop:=∀i,i∈x.code -> ISm i
theorem cZu.put{x:LS}(h:cZu x){i:cFw}(hi:ISm i)(n:Nat):cZu (x.put i n):=λj hj=>(mem_append.1 (show j∈x.code++[i] from hj)).elim (h j) (λhj=>by obtain rfl:=List.mem_singleton.1 hj;exact hi)
theorem cZu.patch{x:LS}(h:cZu x)(b:Nat):cZu (x.patch b):=λj hj=>by
 rcases cTa (show j∈x.code.modify b (λi=>i.to x.code.length) from hj) with hj|⟨k,hk,rfl⟩
 ·exact h j hj
 exact (h k hk).to _
theorem cZq:aH.zero.nodes <= 1000000000:=by unfold aH.zero;rw [aH.nodes,cZ];omega
theorem dAy{k:Int}{t:Nat}{b:Bool}{e:aH}(h:e.nodes <= 1000000000):ISm ⟨k,t,b,e,plZ,[],[]⟩:=⟨h,GQ,by rw [cZ];omega,λx hx=>Hb,Nat.zero_le _⟩
theorem dAx(l:List cFc):∀al:List eN,cZ (cFn l al) <= wtA al
 |[]=>by unfold cFn;show cZ [] <= _;rw [cZ];omega
 |a::al=>by
  have ih:=dAx l al
  have h1:=cZ3 l a.expr
  unfold cFn at ih⊢
  rw [List.filter_cons,wtA]
  unfold eN.wt
  split
  ·rw [List.map_cons,cZ];omega
  omega
theorem dBe(l:List cFc):∀al:List eN,(∀x,x∈cF4 l al -> cZ x.at_ <= wtA al) /\ (cF4 l al).length <= wtA al
 |[]=>⟨λx hx=>(by unfold cF4 at hx;cases hx),Nat.zero_le _⟩
 |a::al=>by
  obtain ⟨i1,i2⟩:=dBe l al
  have h1:=dBb l a.ref
  unfold cF4 at i1 i2⊢
  rw [List.filter_cons,wtA]
  unfold eN.wt cY.wt
  split
  ·rw [List.map_cons,length_cons]
   refine ⟨λx hx=>?_,J⟩
   rcases mem_cons.1 hx with rfl|hx
   ·omega
   have:=i1 x hx;omega
  exact ⟨λx hx=>by have:=i1 x hx;omega,J⟩
theorem dBz:∀(al:List eN)(xs:List aS),wtA (cGb al xs) <= wtA al
 |[],xs=>by cases xs<;>exact Nat.le_refl _
 |_::_,[]=>by simp [cGb,wtA]
 |a::al,x::xs=>by
  have:=dBz al xs
  rw [cGb]
  split
  ·rw [wtA,wtA];omega
  rw [wtA];omega
theorem dCx(p:cK)(l:List cFc)(s:aJ)(hw:s.wt <= 1000000000):ISm (cGn p l s):=by
 have hp:=gD s
 have z:=λ {k:Int} {t:Nat}=>dAy (k:=k) (t:=t) (b:=false) cZq
 unfold cGn cG9
 split
 ·exact z
 split
 ·split
  ·rename_i v _ _ _
   have h1:=dAx l (cGb s.args (cGc p v.n))
   obtain ⟨h2,h3⟩:=dBe l (cGb s.args (cGc p v.n))
   have h4:=dBz s.args (cGc p v.n)
   exact ⟨cZq,GQ,E7,λx hx=>by have:=h2 x hx;omega,E7⟩
  exact z
 exact z
theorem dCb(p:cK)(s:aJ)(x:LS)(hw:s.wt <= 1000000000)(h:cZu x):cZu (cFu p s x):=by
 have hp:=gD s
 have h0:∀e,cZu (x.beg e):=λ_=>h
 have he:(cFk x.ents s.expr).nodes <= 1000000000:=by have:=cZ3 x.ents s.expr;omega
 have hr:∀k:Int,ISm ⟨k,0,false,.zero,cG6 x.ents s.ref,[],[]⟩:=λk=>⟨cZq,by have:=dBb x.ents s.ref;unfold cY.wt at hp;dsimp only;omega,GQ,λx hx=>Hb,Nat.zero_le _⟩
 unfold cFu
 split
 ·exact (h0 (cFj (cFv x.ents s.name) (cFf x.ents s.expr))).put (dAy he) x.n
 split
 ·exact (h0 _).put (dAy he) _
 split
 ·exact (h0 _).put (dCx p _ s hw) _
 split
 ·exact (h0 _).put (hr 4) _
 split
 ·exact (h0 _).put (hr 5) _
 exact (h0 _).put (dAy cZq) _
mutual
theorem dC0(p:cK):∀(s:aJ)(x:LS),s.wt <= 1000000000 -> cZu x -> cZu (cFs p s x)
 |.mk k name e r args t f,x,hw,h=>by
  have hb:cZu (x.branch e):=by
   refine cZu.put (x:=x.beg _) h (dAy ?_) x.n
   have:=cZ3 x.ents e
   rw [aJ.wt] at hw;omega
  have ht:cZu (cFe p t (x.branch e)):=cZ8 p t _ (by rw [aJ.wt] at hw;omega) hb
  rw [cFs]
  split
  ·split
   ·exact cZu.patch (x:=(x.branch e).back (cFe p t (x.branch e))) ht _
   have h1:cZu ((((x.branch e).back (cFe p t (x.branch e))).put (opI 7 .zero) x.n).patch x.code.length):=((cZu.put (x:=(x.branch e).back (cFe p t (x.branch e))) ht (dAy cZq) x.n)).patch _
   have h2:=cZ8 p f _ (by rw [aJ.wt] at hw;omega) h1
   exact cZu.patch (x:=LS.back x (cFe p f ((((x.branch e).back (cFe p t (x.branch e))).put (opI 7 .zero) x.n).patch x.code.length))) h2 _
  split
  ·exact (cZu.put (x:=(x.branch e).back (cFe p t (x.branch e))) ht (dAy cZq) x.n).patch _
  exact dCb p _ x hw h
theorem cZ8(p:cK):∀(l:List aJ)(x:LS),wtS l <= 1000000000 -> cZu x -> cZu (cFe p l x)
 |[],x,_,h=>by rw [cFe];exact h
 |s::l,x,hw,h=>by
  rw [wtS] at hw
  rw [cFe];exact cZ8 p l _ J (dC0 p s x J h)
end
theorem dC2(p:cK)(f:bS)(hw:f.wt <= 20000000):(cGe p f).code.length <= 1000000000 /\ ∀i,i∈(cGe p f).code -> ISm i:=by
 have hf:f.wt=1+f.params.length+wtS f.body:=Y
 unfold cGe
 rcases cGd f.params (cFd p) 0 0 with _|⟨l,i,m⟩
 ·exact ⟨Nat.zero_le _,λi h=>DV⟩
 have h1:cZu (cFe p f.body (LS.init l i)):=cZ8 p f.body _ J (λi h=>DV)
 have h2:=cGa p f.body (LS.init l i)
 have h3:(LS.init l i).code.length=0:=Y
 refine ⟨?_,(cZu.put (x:=LS.back (LS.init l i) (cFe p f.body (LS.init l i))) h1 (dAy cZq) _:cZu (cJg p f l i))⟩
 show ((cFe p f.body (LS.init l i)).code++[opI 8 .zero]).length <= _
 rw [length_append]
 show _+1 <= _
 omega
theorem dA2{p:cK}(hw:p.wt <= 9000000):(cKk p).globals.length <= 1000000000 /\ (cKk p).mutexes.length <= 1000000000 /\ (cKk p).procs.length <= 1000000000 /\ ∀x,x∈(cKk p).procs -> x.code.length <= 1000000000 /\ ∀i,i∈x.code -> ISm i:=by
 unfold cK.wt at hw
 have hfl:=aDr bS.wt (λf=>G6) p.funcs
 unfold cKk
 split
 ·refine ⟨GA,E7,GA,λx hx=>?_⟩
  obtain ⟨f,hf,rfl⟩:=List.mem_map.1 hx
  obtain ⟨k,hk,rfl⟩:=List.getElem_of_mem hf
  exact dC2 p _ (by have:=aDi bS.wt p.funcs k hk;omega)
 exact ⟨Nat.zero_le _,Nat.zero_le _,Nat.zero_le _,λx hx=>Hb⟩
end
section
open Go.RowKit
theorem dEo(g:ByteArray -> ByteArray)(x:aJ):encS (mS g x)=[Vi x.kind,Vs (g x.name),Vi ((mE g x.expr).op),Vi ((mE g x.expr).num),Vs ((mE g x.expr).name),.sl (mE g x.expr).args.length ((mE g x.expr).args.flatMap fO),Vs ((mR g x.ref).name),.sl (mR g x.ref).index.length ((mR g x.ref).index.flatMap fO),.sl x.args.length ((x.args.map (mA g)).flatMap eJ),.sl (mSs g x.thn).length ((mSs g x.thn).flatMap encS),.sl (mSs g x.els).length ((mSs g x.els).flatMap encS)]:=by
 obtain ⟨k,n,e,r,a,t,f⟩:=x
 rw [mS,aDb];simp only [aJ.kind,aJ.name,aJ.expr,aJ.ref,aJ.args,aJ.thn,aJ.els];exact congrArg (λc=>[_,_,_,_,_,_,_,_,c,_,_]) (dGd (List.length_map _))
theorem dDv(g:ByteArray -> ByteArray)(l:List aJ):(mSs g l).length=l.length:=by rw [cZ2,List.length_map]
theorem dBi(N:Nat)(l:List aJ)(a b:ByteArray)(hN:N <= 9000000)(hl:wtS l <= N+1)(ih:0<l.length -> ∀(l:List aJ),wtS l <= N -> ∀s:Sto,aL prog 28 [.c (Sq encS l),Cs a,Cs b] [] s λt s'=>t=.c (.sl (mSs (rn a b) l).length ((mSs (rn a b) l).flatMap encS)) /\ s'=s)(s:Sto):aL prog 28 [.c (Sq encS l),Cs a,Cs b] [] s λt s'=>t=.c (.sl (mSs (rn a b) l).length ((mSs (rn a b) l).flatMap encS)) /\ s'=s:=by
 have hlen:=uZ l
 obtain ⟨bx,rw⟩:=s
 refine acX 100 func28 ?_
 refine go 7 ?_
 refine wo Y (aTr underlying65 sizeOf120 λg1=>?_)
 refine go 1 ?_
 refine wo Y (jU [] Tryz.t120 192 Y Y V Y Y underlying65 B6 Y Y Y Y V (aFz encS 11 cZo l) B1 J (Nat.zero_add l.length) (λ_=>cFh.h) cFh.h (List.nil_append _) λw1=>?_)
 refine go 10 ?_
 refine bMj (α:=Unit) (λ_ _=>True) (l.length) 8 (λ_=>aY w1++[]) (λk _=>⟨bx,⟨w1,120,11,l.length,(pm (mS (rn a b)) k l).flatMap encS⟩::rw⟩) (λ_=>[(7,Cv w1),(1,Cs a),(2,Cs b)]) () trivial (cQf BP) ?_
 rintro k ⟨⟩ hk -
 try dsimp only
 refine go 5 ?_
 refine wyz Y (kV [] Y Y Y runUnderlying65) ?_
 by_cases h1:((k:Nat):Int)<((l.length:Nat):Int)
 ·refine wcp true Y (jZ h1) (go 8 ?_)
  have hkl:k<l.length:=J
  have hwk:=uF l k hkl
  have hwp:=gD l[k]
  have hal:=aCj l[k].args
  refine aEw [] J λgr cr hgr=>?_
  subst hgr
  refine go 3 ?_
  refine wyz Y (dH (z:=11) k Y Y Y Y hkl runUnderlying65 sizeOf120) ?_
  refine wyz Y (rM [] isAgg120 sizeOf120 (show _=some (.agg (dG l[k])) from (dAk cZo hkl 0 11 V).trans (by rw [cJ]<;>rfl))) (go 4 λb2=>?_)
  refine cG2 (λ_:Unit=>(⟨100,aY (.slice (some ⟨gr,0,none⟩) l.length cr)++[b2],⟨⟨b2,120,[Vi (l[k].kind),Vs (rn a b l[k].name),Vi (l[k].expr.op),Vi (l[k].expr.num),Vs (l[k].expr.name),Sq fO l[k].expr.args,Vs (l[k].ref.name),Sq fO l[k].ref.index,Sq eJ l[k].args,Sq encS l[k].thn,Sq encS l[k].els]⟩::bx,⟨(.slice (some ⟨gr,0,none⟩) l.length cr),120,11,l.length,(pm (mS (rn a b)) k l).flatMap encS⟩::rw⟩,[(1,Cs a),(2,Cs b),(7,Cv (.slice (some ⟨gr,0,none⟩) l.length cr)),(8,nI k),(9,pP b2)]⟩:AS)) ?_ ?_
  ·refine go 5 ?_
   by_cases h3:l[k].name=a
   focus
    refine wyz Y (aZ true Y Y Y (aL8 h3)) (go 8 ?_)
    rw [dA8 h3]
   rotate_left
   refine wyz Y (aZ false Y Y Y (aLs h3)) (go 4 ?_)
   rw [dAm h3]
   all_goals
    exact ⟨(),cQf BP⟩
  rintro ⟨⟩
  try dsimp only
  refine go 1 ?_
  refine bTy 11 [b2] [] #[true,true,true,true,true,true,true,true,true,true,true,false,false,false] B6 B6 B6 ?_
  refine tz [(0,true),(1,true),(2,true),(3,true),(5,true),(6,true),(7,true),(8,true)] 3 (go 9 ?_)
  refine ox 4 Y Y (bV Y Y V call53 Y (dBp l[k].expr.nodes l[k].expr a b (Nat.le_refl _) J _) ?_)
  rintro _ _ ⟨rfl,rfl⟩
  refine tz [(10,true)] 1 (go 2 ?_)
  refine ox 9 Y Y (bV Y Y V call54 Y (dC4 l[k].ref a b GU _) ?_)
  rintro _ _ ⟨rfl,rfl⟩
  refine ax ?_
  refine id ?_
  refine tz [(11,false),(12,true),(13,false)] 0 (go 4 ?_)
  refine ax (go 3 ?_)
  refine wo Y (aTr underlying118 sizeOf135 λg2=>?_)
  refine go 2 ?_
  refine wo Y (jU [] Tryz.t135 104 Y Y V Y Y underlying118 B6 Y Y Y Y V (aFz eJ 7 iD l[k].args) B1 J (Nat.zero_add l[k].args.length) (λ_=>cFh.h) cFh.h (List.nil_append _) λw3=>?_)
  refine go 11 ?_
  refine bMj (α:=Unit) (λ_ _=>True) (l[k].args.length) 10 (λ_=>aY w3++(aY (.slice (some ⟨gr,0,none⟩) l.length cr)++[b2])) (λj _=>⟨⟨b2,120,[Vi (l[k].kind),Vs (rn a b l[k].name),Vi ((mE (rn a b) l[k].expr).op),Vi ((mE (rn a b) l[k].expr).num),Vs ((mE (rn a b) l[k].expr).name),.sl (mE (rn a b) l[k].expr).args.length ((mE (rn a b) l[k].expr).args.flatMap fO),Vs ((mR (rn a b) l[k].ref).name),.sl (mR (rn a b) l[k].ref).index.length ((mR (rn a b) l[k].ref).index.flatMap fO),.val w3,Sq encS l[k].thn,Sq encS l[k].els]⟩::bx,⟨w3,135,7,l[k].args.length,(pm (mA (rn a b)) j l[k].args).flatMap eJ⟩::⟨(.slice (some ⟨gr,0,none⟩) l.length cr),120,11,l.length,(pm (mS (rn a b)) k l).flatMap encS⟩::rw⟩) (λ_=>[(1,Cs a),(2,Cs b),(7,Cv (.slice (some ⟨gr,0,none⟩) l.length cr)),(8,nI k),(9,pP b2)]) () trivial (cQf BP) ?_
  rintro j ⟨⟩ hj -
  try dsimp only
  refine go 6 ?_
  refine wyz Y (kV [] Y Y Y runUnderlying118) ?_
  by_cases h8:((j:Nat):Int)<((l[k].args.length:Nat):Int)
  ·refine wcp true Y (jZ h8) (go 7 ?_)
   have hjl:j<l[k].args.length:=J
   refine aEw [] J λga ca hga=>?_
   subst hga
   refine bTy 29 [b2,ga] [] #[true,true,true,true,true,true,true,true,true,true,true,true,true,true,true,true,true,true,true,true,true,true,true,true,true,true,true,true,true,false] B6 B6 B6 ?_
   refine tz [(0,true),(1,true),(2,true),(3,true),(4,true),(5,true)] 23 (go 7 ?_)
   refine tx 6 Y (dH (z:=7) j Y Y Y Y hjl runUnderlying118 sizeOf135) ?_
   refine tx 7 Y (id <|uX 0 (0+j*7+0) runUnderlying135 sizeOf4) ?_
   refine tx 8 Y (rM (hU:=λ_ h=>(kH.1 h).2 G0) [] isAgg4 sizeOf4 (dCs iD hjl 0 _ Y)) (tz [(9,true),(10,true),(11,true)] 17 (go 4 ?_))
   refine tx 12 Y (dH (z:=7) j Y Y Y Y hjl runUnderlying118 sizeOf135) ?_
   refine tx 13 Y (id <|uX 1 (0+j*7+1) runUnderlying135 sizeOf117) ?_
   refine tx 14 Y (rM (hU:=λ_ h=>(kH.1 h).2 G0) [] isAgg117 sizeOf117 (show _=some (.agg (encR l[k].args[j].ref)) from (dAk iD hjl 1 2 V))) (tz [(15,true),(16,true),(18,true),(19,true),(20,true)] 9 (go 6 ?_))
   refine tx 21 Y (dH (z:=7) j Y Y Y Y hjl runUnderlying118 sizeOf135) ?_
   refine tx 22 Y (id <|uX 3 (0+j*7+3) runUnderlying135 sizeOf87) ?_
   refine tx 23 Y (rM (hU:=λ_ h=>(kH.1 h).2 G0) [] isAgg87 sizeOf87 (show _=some (.agg (cU l[k].args[j].expr)) from (dAk iD hjl 3 4 V))) (tz [(24,true),(25,true)] 4 (go 3 ?_))
   refine ox 17 Y Y (bV Y Y V call54 Y (dC4 l[k].args[j].ref a b (by have h1:=aDf l[k].args j hjl;unfold eN.wt cY.wt at h1;omega) _) ?_)
   rintro _ _ ⟨rfl,rfl⟩
   refine ox 26 Y Y (bV Y Y V call53 Y (dBp l[k].args[j].expr.nodes l[k].args[j].expr a b (Nat.le_refl _) (by have h1:=aDf l[k].args j hjl;unfold eN.wt at h1;omega) _) ?_)
   rintro _ _ ⟨rfl,rfl⟩
   refine tx 27 Y (id <|aNs Tryz.t135 [(0,1),(1,2),(3,4)] Y (.cons Y (.cons Y (.cons Y .nil))) underlying135 B6 Y B6 Y Y) ?_
   refine tx 28 Y (dH (z:=7) j Y Y Y Y hjl runUnderlying118 sizeOf135) ?_
   refine ax ?_
   refine id ?_
   refine ox 29 Y Y (id <|aO0 (r:=(pm (mA (rn a b)) (j+1) l[k].args).flatMap eJ) [] Y Y Y Y Y sizeOf135 Y (cZ4 iD hjl 0 7 V) (dBq iD hjl) Cq (λhn=>cZl (r:=(⟨(.slice (some ⟨ga,0,none⟩) l[k].args.length ca),135,7,l[k].args.length,(pm (mA (rn a b)) j l[k].args).flatMap eJ⟩:bA)) hn Cq) ?_)
   refine ax (go 4 ?_)
   refine wad Y (go 2 ?_)
   exact ⟨J,(),trivial,cQf (h:=aG Y (gQ J) (sA Y)) BP⟩
  refine wcp false Y (jQ h8) (go 9 ?_)
  obtain rfl:j=l[k].args.length:=J
  rw [dAf]
  refine cKs (cs':=[Vi (l[k].kind),Vs (rn a b l[k].name),Vi ((mE (rn a b) l[k].expr).op),Vi ((mE (rn a b) l[k].expr).num),Vs ((mE (rn a b) l[k].expr).name),.sl (mE (rn a b) l[k].expr).args.length ((mE (rn a b) l[k].expr).args.flatMap fO),Vs ((mR (rn a b) l[k].ref).name),.sl (mR (rn a b) l[k].ref).index.length ((mR (rn a b) l[k].ref).index.flatMap fO),.sl l[k].args.length ((l[k].args.map (mA (rn a b))).flatMap eJ),Sq encS l[k].thn,Sq encS l[k].els]) [] 8 Y Y ?_
  show AWp prog _ ⟨_,_,⟨⟨b2,120,[Vi (l[k].kind),Vs (rn a b l[k].name),Vi ((mE (rn a b) l[k].expr).op),Vi ((mE (rn a b) l[k].expr).num),Vs ((mE (rn a b) l[k].expr).name),.sl (mE (rn a b) l[k].expr).args.length ((mE (rn a b) l[k].expr).args.flatMap fO),Vs ((mR (rn a b) l[k].ref).name),.sl (mR (rn a b) l[k].ref).index.length ((mR (rn a b) l[k].ref).index.flatMap fO),.sl l[k].args.length ((l[k].args.map (mA (rn a b))).flatMap eJ),Sq encS l[k].thn,Sq encS l[k].els]⟩::bx,⟨(.slice (some ⟨gr,0,none⟩) l.length cr),120,11,l.length,(pm (mS (rn a b)) k l).flatMap encS⟩::rw⟩,_⟩ _
  refine bTy 11 [b2] [] #[true,true,true,true,true,true,true,true,true,true,true,false,false,false] B6 B6 B6 ?_
  refine tz [(0,true),(1,true),(2,true),(3,true),(5,true),(6,true),(7,true),(8,true)] 3 (go 9 ?_)
  refine ox 4 Y Y (bV Y Y V call28 Y (ih J l[k].thn J _) ?_)
  rintro _ _ ⟨rfl,rfl⟩
  refine tz [(10,true)] 1 (go 2 ?_)
  refine ox 9 Y Y (bV Y Y V call28 Y (ih J l[k].els J _) ?_)
  rintro _ _ ⟨rfl,rfl⟩
  refine ax ?_
  refine id ?_
  refine tz [(11,false),(12,true),(13,false)] 0 (go 4 ?_)
  refine ax (go 5 ?_)
  refine wyz Y (dH (z:=11) k Y Y Y Y hkl runUnderlying65 sizeOf120) ?_
  refine wo Y (aO0 (r:=(pm (mS (rn a b)) (k+1) l).flatMap encS) [] Y Y Y Y Y sizeOf120 Y (cZ4 cZo hkl 0 11 V) ((congrArg _ (dEo _ _).symm).trans (dBq cZo hkl)) Cq FW ?_)
  refine go 5 ?_
  refine wad Y (go 2 ?_)
  exact ⟨J,(),trivial,cQf (h1:=(.cons _ (.refl _))) (h:=aG Y (gQ J) (sA Y)) BP⟩
 refine wcp false Y (jQ h1) (go 10 ?_)
 obtain rfl:k=l.length:=J
 rw [dAf]
 refine aE1 7 Y ?_
 refine go 5 ?_
 exact bHe (s':=⟨bx,rw⟩) Y sb0 ⟨by rw [dDv,cZ2],Y⟩
theorem dDe:∀(N:Nat)(l:List aJ)(a b:ByteArray),wtS l <= N -> N <= 9000000 -> ∀s:Sto,aL prog 28 [.c (Sq encS l),Cs a,Cs b] [] s λt s'=>t=.c (.sl (mSs (rn a b) l).length ((mSs (rn a b) l).flatMap encS)) /\ s'=s
 |0,l,a,b,h,hN,s=>dBi 0 l a b J J (λh0=>absurd (uZ l) J) s
 |N+1,l,a,b,h,hN,s=>dBi N l a b J h (λ_ l' h' s=>dDe N l' a b h' J s) s
end
end Go.Proofs.YtjgeihmhppadaaaGreatDoor
