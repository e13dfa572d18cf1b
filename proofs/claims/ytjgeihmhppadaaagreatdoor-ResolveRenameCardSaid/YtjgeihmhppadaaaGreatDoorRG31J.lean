import Derived.Test.YtjgeihmhppadaaaGreatDoorRG30J
import Derived.Test.YtjgeihmhppadaaaGreatDoorRG20J
set_option linter.all false
set_option synthInstance.maxHeartbeats 1000000
set_option synthInstance.maxSize 1000000
set_option maxHeartbeats 6400000
set_option maxRecDepth 100000
namespace Go.Proofs.YtjgeihmhppadaaaGreatDoor
open Go.Proofs.Tryz
open List (length_append length_cons length_nil mem_append mem_cons not_mem_nil append_assoc getElem_mem take_of_length_le)
section
open Go.RowKit
def rn(a b s:ByteArray):ByteArray:=if s=a then b else s
def pm{α:Type}(g:α -> α)(k:Nat)(l:List α):List α:=(l.take k).map g++l.drop k
section
variable {α:Type}{g:α -> α}{l:List α}{k:Nat}
theorem cZ6(g:α -> α)(k:Nat)(l:List α):(pm g k l).length=l.length:=by unfold pm;simp;omega
theorem dBk(h:k<l.length)(h':k<(pm g k l).length):(pm g k l)[k]=l[k]:=by
 have h1:(pm g k l)[k]?=some l[k]:=by
  unfold pm
  have h2:((l.take k).map g).length=k:=DR
  rw [List.getElem?_append_right J,h2,Nat.sub_self,List.getElem?_drop,Nat.add_zero,List.getElem?_eq_getElem h]
 exact (List.getElem?_eq_some_iff.1 h1).2
theorem dBn(h:k<l.length):(pm g k l).set k (g l[k])=pm g (k+1) l:=by
 unfold pm
 rw [List.set_append_right _ _ DR,List.take_succ_eq_append_getElem h,List.map_append,append_assoc,List.drop_eq_getElem_cons h]
 congr 1
 have:k-((l.take k).map g).length=0:=DR
 rw [this];rfl
theorem dAf(g:α -> α)(l:List α):pm g l.length l=l.map g:=by unfold pm;simp
variable {enc:α -> List AC}{z:Nat}{fs:List α}
theorem dA6(hz:∀x,(enc x).length=z)(hk:k<fs.length):fs.flatMap enc=(fs.take k).flatMap enc++(enc fs[k]++(fs.drop (k+1)).flatMap enc) /\ ((fs.take k).flatMap enc).length=k*z:=by
 refine ⟨?_,by rw [aFz enc z hz,List.length_take,Nat.min_eq_left J]⟩
 conv=>lhs;rw [←List.take_append_drop k fs,List.drop_eq_getElem_cons hk]
 rw [List.flatMap_append,List.flatMap_cons]
theorem dDx(hz:∀x,(enc x).length=z)(hk:k<fs.length)(i z':Nat)(h:i+z' <= z):pk true z' (fs.flatMap enc) (0+k*z+i)=some (.agg (((enc fs[k]).drop i).take z')):=by
 obtain ⟨h1,h2⟩:=dA6 hz hk
 have h3:=hz fs[k]
 obtain ⟨R,hR⟩:∃R,R=(fs.drop (k+1)).flatMap enc:=⟨_,rfl⟩
 obtain ⟨L,hL⟩:∃L,L=(fs.take k).flatMap enc:=⟨_,rfl⟩
 rw [←hR,←hL] at h1
 rw [←hL] at h2
 have e:((fs.flatMap enc).drop (k*z+i)).take z'=((enc fs[k]).drop i).take z':=by
  rw [h1,List.drop_append,List.drop_of_length_le J,h2,Nat.add_sub_cancel_left,List.nil_append,List.drop_append_of_le_length J,List.take_append_of_le_length DI]
 have hl:k*z+i+z' <= (fs.flatMap enc).length:=by rw [h1,length_append,length_append,h2];omega
 unfold pk
 rw [if_pos rfl,Nat.zero_add,if_pos hl,e]
theorem dEf(hz:∀x,(enc x).length=z)(hk:k<fs.length)(i:Nat)(x:AC)(hx:(enc fs[k])[i]?=some x):pk false 1 (fs.flatMap enc) (0+k*z+i)=some (.c x):=by
 obtain ⟨h1,h2⟩:=dA6 hz hk
 have hi:i<(enc fs[k]).length:=(List.getElem?_eq_some_iff.1 hx).1
 unfold pk
 rw [if_neg V,h1,Nat.zero_add,List.getElem?_append_right J,h2,Nat.add_sub_cancel_left,List.getElem?_append_left hi,hx];rfl
theorem dDf(hz:∀x,(enc x).length=z)(hk:k<fs.length)(i z':Nat)(h:i+z' <= z):0+k*z+i+z' <= (fs.flatMap enc).length:=by
 rw [aFz enc z hz]
 have:(k+1)*z <= fs.length*z:=Nat.mul_le_mul_right _ hk
 rw [Nat.add_mul] at this;omega
theorem dCd(hz:∀x,(enc x).length=z)(hk:k<fs.length)(i:Nat)(ds:List AC)(f':α)(hi:i+ds.length <= z)(hx:(enc fs[k]).take i++(ds++(enc fs[k]).drop (i+ds.length))=enc f'):splice (fs.flatMap enc) (0+k*z+i) ds=(fs.set k f').flatMap enc:=by
 obtain ⟨h1,h2⟩:=dA6 hz hk
 have h3:=hz fs[k]
 have h4:(fs.set k f').flatMap enc=(fs.take k).flatMap enc++(enc f'++(fs.drop (k+1)).flatMap enc):=by
  rw [List.set_eq_take_append_cons_drop,if_pos hk,List.flatMap_append,List.flatMap_cons]
 obtain ⟨R,hR⟩:∃R,R=(fs.drop (k+1)).flatMap enc:=⟨_,rfl⟩
 obtain ⟨L,hL⟩:∃L,L=(fs.take k).flatMap enc:=⟨_,rfl⟩
 rw [←hR,←hL] at h1 h4
 rw [←hL] at h2
 rw [h4,h1,←hx]
 unfold splice
 rw [Nat.zero_add,List.take_append,take_of_length_le J,h2,Nat.add_sub_cancel_left,List.take_append_of_le_length J,List.drop_append,List.drop_of_length_le J,List.nil_append,h2,show k*z+i+ds.length-k*z=i+ds.length by omega,List.drop_append_of_le_length J]
 simp only [append_assoc]
theorem dAk(hz:∀x,(enc x).length=z)(hk:k<l.length)(i z':Nat)(h:i+z' <= z):pk true z' ((pm g k l).flatMap enc) (0+k*z+i)=some (.agg (((enc l[k]).drop i).take z')):=by
 rw [dDx hz G6 i z' h,dBk hk]
theorem dCs(hz:∀x,(enc x).length=z)(hk:k<l.length)(i:Nat)(x:AC)(hx:(enc l[k])[i]?=some x):pk false 1 ((pm g k l).flatMap enc) (0+k*z+i)=some (.c x):=
 dEf hz G6 i x (by rw [dBk hk];exact hx)
theorem dBq(hz:∀x,(enc x).length=z)(hk:k<l.length):splice ((pm g k l).flatMap enc) (0+k*z) (enc (g l[k]))=(pm g (k+1) l).flatMap enc:=by
 have h:=dCd hz (fs:=pm g k l) G6 0 (enc (g l[k])) (g l[k]) (by rw [hz];omega) (by rw [hz,List.take_zero,List.nil_append,Nat.zero_add,List.drop_of_length_le (by rw [hz];omega),List.append_nil])
 rw [dBn hk] at h;exact h
theorem cZ4(hz:∀x,(enc x).length=z)(hk:k<l.length)(i z':Nat)(h:i+z' <= z):0+k*z+i+z' <= ((pm g k l).flatMap enc).length:=dDf hz G6 i z' h
end
theorem dDc(g:ByteArray -> ByteArray)(e:aH):(mE g e).op=e.op /\ (mE g e).num=e.num /\ (mE g e).args=e.args.map (mE g):=by
 cases e;rw [mE];exact ⟨rfl,rfl,cZv g _⟩
theorem dDd{a b:ByteArray}{e:aH}(h:¬e.op=2):(mE (rn a b) e).name=e.name:=by
 cases e;rw [mE];exact if_neg h
theorem dEr{a b:ByteArray}{e:aH}(h:e.op=2)(ha:e.name=a):(mE (rn a b) e).name=b:=by
 obtain ⟨op,num,name,args⟩:=e
 rw [mE];show (if op=2 then rn a b name else name)=b
 rw [if_pos (show op=2 from h)];unfold rn;exact if_pos ha
theorem dDt{a b:ByteArray}{e:aH}(h:e.op=2)(ha:¬e.name=a):(mE (rn a b) e).name=e.name:=by
 obtain ⟨op,num,name,args⟩:=e
 rw [mE];show (if op=2 then rn a b name else name)=name
 rw [if_pos (show op=2 from h)];unfold rn;exact if_neg ha
theorem dGd{n m:Nat}{c:List AC}(h:n=m):AC.sl n c=AC.sl m c:=by rw [h]
theorem dGe{a b c a' b' c':AC}(h:a=a')(h1:b=b')(h2:c=c'):AT.agg [a,b,c]=AT.agg [a',b',c']:=by rw [h,h1,h2]
theorem dDz(g:ByteArray -> ByteArray)(e:aH):cU (mE g e)=[Vi e.op,Vi e.num,Vs ((mE g e).name),.sl e.args.length ((e.args.map (mE g)).flatMap fO)]:=by
 obtain ⟨h1,h2,h3⟩:=dDc g e
 unfold cU;rw [h1,h2,h3];exact congrArg (λc=>[_,_,_,c]) (dGd (List.length_map _))
theorem dCy(e:aH)(a b:ByteArray)(hn:e.args.length <= 1000000000)(ih:∀k (h:k<e.args.length) (s:Sto),aL prog 53 [.agg (cU e.args[k]),Cs a,Cs b] [] s λt s'=>t=.agg (cU (mE (rn a b) e.args[k])) /\ s'=s)(s:Sto):aL prog 53 [.agg (cU e),Cs a,Cs b] [] s λt s'=>t=.agg (cU (mE (rn a b) e)) /\ s'=s:=by
 obtain ⟨bx,rw⟩:=s
 refine acX 43 func53 ?_
 refine go 6 λb1 b2=>?_
 refine cG2 (λ_:Unit=>(⟨43,[b2,b1],⟨⟨b2,87,[Vi 0,Vi 0,Vs aK,Nl]⟩::⟨b1,87,[Vi e.op,Vi e.num,Vs ((mE (rn a b) e).name),Sq fO e.args]⟩::bx,rw⟩,[(1,Cs a),(2,Cs b),(3,pP b1),(6,pP b2)]⟩:AS)) ?_ ?_
 ·refine go 4 ?_
  by_cases h1:e.op=2
  focus
   refine wcp true Y (eR h1) (go 4 ?_)
   by_cases h2:e.name=a
   focus
    refine wyz Y (aZ true Y Y Y (aL8 h2)) (go 9 ?_)
    rw [dEr J h2]
   rotate_left
   refine wyz Y (aZ false Y Y Y (aLs h2)) (go 5 ?_)
   rw [dDt J h2]
  rotate_left 2
  refine wcp false Y (eD h1) (go 10 ?_)
  rw [dDd J]
  all_goals
   exact ⟨(),cQf BP⟩
 rintro ⟨⟩
 try dsimp only
 refine go 2 ?_
 refine wo Y (aTr underlying85 sizeOf87 λg1=>?_)
 refine go 2 ?_
 refine wo Y (jU [] Tryz.t87 56 Y Y V Y Y underlying85 B6 Y Y Y Y V (aFz fO 4 iU e.args) B1 J (Nat.zero_add e.args.length) (λ_=>cFh.h) cFh.h (List.nil_append _) λw3=>?_)
 refine go 10 ?_
 refine bMj (α:=Unit) (λ_ _=>True) (e.args.length) 8 (λ_=>aY w3++[b2,b1]) (λk _=>⟨⟨b2,87,[Vi 0,Vi 0,Vs aK,Nl]⟩::⟨b1,87,[Vi e.op,Vi e.num,Vs ((mE (rn a b) e).name),Sq fO e.args]⟩::bx,⟨w3,87,4,e.args.length,(pm (mE (rn a b)) k e.args).flatMap fO⟩::rw⟩) (λ_=>[(7,Cv w3),(1,Cs a),(2,Cs b),(3,pP b1),(6,pP b2)]) () trivial (cQf BP) ?_
 rintro k ⟨⟩ hk -
 try dsimp only
 refine go 5 ?_
 refine wyz Y (kV [] Y Y Y runUnderlying85) ?_
 by_cases h6:((k:Nat):Int)<((e.args.length:Nat):Int)
 ·refine wcp true Y (jZ h6) (go 7 ?_)
  have hkl:k<e.args.length:=J
  refine aEw [] J λgr cr hgr=>?_
  subst hgr
  refine go 5 ?_
  refine wyz Y (dH (z:=4) k Y Y Y Y hkl runUnderlying85 sizeOf87) ?_
  refine wyz Y (rM [] isAgg87 sizeOf87 ((dAk iU hkl 0 4 V).trans (by rw [fP]))) (go 2 ?_)
  refine wc1 Y call53 Y (ih k hkl _) ?_
  refine wyz Y (dH (z:=4) k Y Y Y Y hkl runUnderlying85 sizeOf87) ?_
  refine wo Y (aO0 (r:=(pm (mE (rn a b)) (k+1) e.args).flatMap fO) [] Y Y Y Y Y sizeOf87 Y (cZ4 iU hkl 0 4 V) ((congrArg _ (fP _).symm).trans (dBq iU hkl)) Cq FW ?_)
  refine go 5 ?_
  refine wad Y (go 2 ?_)
  exact ⟨J,(),trivial,cQf (h:=aG Y (gQ J) (sA Y)) BP⟩
 refine wcp false Y (jQ h6) (go 10 ?_)
 obtain rfl:k=e.args.length:=J
 rw [dAf]
 refine go 7 ?_
 refine aAg (cs':=[Vi e.op,Vi e.num,Vs ((mE (rn a b) e).name),.sl e.args.length ((e.args.map (mE (rn a b))).flatMap fO)]) [_] 3 Y Y ?_
 show eQ prog _ _ ⟨_,_,⟨⟨b2,87,[Vi 0,Vi 0,Vs aK,Nl]⟩::⟨b1,87,[Vi e.op,Vi e.num,Vs ((mE (rn a b) e).name),.sl e.args.length ((e.args.map (mE (rn a b))).flatMap fO)]⟩::bx,rw⟩,_⟩ _
 refine go 5 ?_
 exact ⟨.inr Y,_,⟨bx,rw⟩,aR Y (aO [] Y Y isAgg87 sizeOf87 (bK Y Y)),aA (.cons _ (.cons _ (.refl _))) (.refl _),by rw [dDz],Y⟩
theorem dBp:∀(N:Nat)(e:aH)(a b:ByteArray),e.nodes <= N -> N <= 1000000000 -> ∀s:Sto,aL prog 53 [.agg (cU e),Cs a,Cs b] [] s λt s'=>t=.agg (cU (mE (rn a b) e)) /\ s'=s
 |0,e,_,_,h,_=>Bm
 |N+1,e,a,b,h,hN=>dCy e a b (by have:=uC e;omega) λk hk s=>dBp N e.args[k] a b B0 J s
theorem dA8{a b s:ByteArray}(h:s=a):rn a b s=b:=if_pos h
theorem dAm{a b s:ByteArray}(h:¬s=a):rn a b s=s:=if_neg h
theorem dEt(g:ByteArray -> ByteArray)(r:cY):encR (mR g r)=[Vs (g r.name),.sl r.index.length ((r.index.map (mE g)).flatMap fO)]:=by unfold encR mR;exact congrArg (λc=>[_,c]) (dGd (List.length_map _))
theorem dC4(r:cY)(a b:ByteArray)(hn:cZ r.index <= 1000000000)(s:Sto):aL prog 54 [.agg (encR r),Cs a,Cs b] [] s λt s'=>t=.agg (encR (mR (rn a b) r)) /\ s'=s:=by
 have hlen:=tN r.index
 obtain ⟨bx,rw⟩:=s
 refine acX 38 func54 ?_
 refine go 6 λb1 b2=>?_
 refine cG2 (λ_:Unit=>(⟨38,[b2,b1],⟨⟨b2,117,[Vs aK,Nl]⟩::⟨b1,117,[Vs (rn a b r.name),Sq fO r.index]⟩::bx,rw⟩,[(1,Cs a),(2,Cs b),(3,pP b1),(6,pP b2)]⟩:AS)) ?_ ?_
 ·refine go 5 ?_
  by_cases h1:r.name=a
  focus
   refine wyz Y (aZ true Y Y Y (aL8 h1)) (go 8 ?_)
   rw [dA8 h1]
  rotate_left
  refine wyz Y (aZ false Y Y Y (aLs h1)) (go 4 ?_)
  rw [dAm h1]
  all_goals
   exact ⟨(),cQf BP⟩
 rintro ⟨⟩
 try dsimp only
 refine go 2 ?_
 refine wo Y (aTr underlying85 sizeOf87 λg1=>?_)
 refine go 2 ?_
 refine wo Y (jU [] Tryz.t87 56 Y Y V Y Y underlying85 B6 Y Y Y Y V (aFz fO 4 iU r.index) B1 J (Nat.zero_add r.index.length) (λ_=>cFh.h) cFh.h (List.nil_append _) λw3=>?_)
 refine go 10 ?_
 refine bMj (α:=Unit) (λ_ _=>True) (r.index.length) 8 (λ_=>aY w3++[b2,b1]) (λk _=>⟨⟨b2,117,[Vs aK,Nl]⟩::⟨b1,117,[Vs (rn a b r.name),Sq fO r.index]⟩::bx,⟨w3,87,4,r.index.length,(pm (mE (rn a b)) k r.index).flatMap fO⟩::rw⟩) (λ_=>[(7,Cv w3),(1,Cs a),(2,Cs b),(3,pP b1),(6,pP b2)]) () trivial (cQf BP) ?_
 rintro k ⟨⟩ hk -
 try dsimp only
 refine go 5 ?_
 refine wyz Y (kV [] Y Y Y runUnderlying85) ?_
 by_cases h4:((k:Nat):Int)<((r.index.length:Nat):Int)
 ·refine wcp true Y (jZ h4) (go 7 ?_)
  have hkl:k<r.index.length:=J
  refine aEw [] J λgr cr hgr=>?_
  subst hgr
  refine go 5 ?_
  refine wyz Y (dH (z:=4) k Y Y Y Y hkl runUnderlying85 sizeOf87) ?_
  refine wyz Y (rM [] isAgg87 sizeOf87 ((dAk iU hkl 0 4 V).trans (by rw [fP]))) (go 2 ?_)
  refine wc1 Y call53 Y (dBp r.index[k].nodes r.index[k] a b (Nat.le_refl _) (by have:=nM r.index k hkl;omega) _) ?_
  refine wyz Y (dH (z:=4) k Y Y Y Y hkl runUnderlying85 sizeOf87) ?_
  refine wo Y (aO0 (r:=(pm (mE (rn a b)) (k+1) r.index).flatMap fO) [] Y Y Y Y Y sizeOf87 Y (cZ4 iU hkl 0 4 V) ((congrArg _ (fP _).symm).trans (dBq iU hkl)) Cq FW ?_)
  refine go 5 ?_
  refine wad Y (go 2 ?_)
  exact ⟨J,(),trivial,cQf (h:=aG Y (gQ J) (sA Y)) BP⟩
 refine wcp false Y (jQ h4) (go 10 ?_)
 obtain rfl:k=r.index.length:=J
 rw [dAf]
 refine go 7 ?_
 refine aAg (cs':=[Vs (rn a b r.name),.sl r.index.length ((r.index.map (mE (rn a b))).flatMap fO)]) [_] 1 Y Y ?_
 show eQ prog _ _ ⟨_,_,⟨⟨b2,117,[Vs aK,Nl]⟩::⟨b1,117,[Vs (rn a b r.name),.sl r.index.length ((r.index.map (mE (rn a b))).flatMap fO)]⟩::bx,rw⟩,_⟩ _
 refine go 5 ?_
 exact ⟨.inr Y,_,⟨bx,rw⟩,aR Y (aO [] Y Y isAgg117 sizeOf117 (bK Y Y)),aA (.cons _ (.cons _ (.refl _))) (.refl _),by rw [dEt],Y⟩
end
section
open Go.RowKit
def ST(l:List ByteArray):List AC:=l.map λx=>Vs x
theorem dBu{α:Type}(nm:α -> ByteArray)(B:List ByteArray)(l:List α)(k:Nat)(h:k<l.length):ST (B++(l.take k).map nm)++[Vs (nm l[k])]=ST (B++(l.take (k+1)).map nm):=by
 rw [List.take_succ_eq_append_getElem h];unfold ST;simp only [List.map_append,List.map_cons,List.map_nil,append_assoc]
theorem dE2{l:List ByteArray}{j:Nat}(h:j<l.length):pk false 1 (ST l) (0+j*1)=some (Cs (l[j])):=by
 rw [Nat.zero_add,Nat.mul_one]
 have e:(ST l)[j]?=some (Vs (l[j])):=by unfold ST;rw [List.getElem?_map,List.getElem?_eq_getElem h];rfl
 unfold pk;rw [if_neg V,e];rfl
def cZ1(p:cK):List ByteArray:=p.globals.map aI.name++p.mutexes.map cL.name++(p.funcs.drop 1).map bS.name
theorem dDg(p:cK)(x:Int)(hg:p.globals.length <= 1000000)(hm1:1 <= p.mutexes.length)(hm:p.mutexes.length <= 1000000)(hf1:1 <= p.funcs.length)(hf:p.funcs.length <= 1000000)(s:Sto):aL prog 11 [.agg (jV p),Ci x] [] s λt s'=>(∃(j:Nat) (h:j<(cZ1 p).length),t=Cs ((cZ1 p)[j])) /\ s'=s:=by
 obtain ⟨bx,rw⟩:=s
 refine acX 64 func11 ?_
 refine go 18 λb1=>?_
 refine qR 9 1 ?_
 refine fM (λg:Nat×Value=>(⟨64,aY g.2++[b1],⟨⟨b1,27,jV p⟩::bx,⟨g.2,9,1,0+g.1,ST (([]:List ByteArray)++(p.globals.take g.1).map aI.name)⟩::rw⟩,[(6,nI g.1),(5,Cv g.2),(1,Ci x),(2,pP b1)]⟩:AS)) (λg=>g.1 <= p.globals.length) (λg=>p.globals.length-g.1) (0,(.slice none 0 0)) (cQf G3) (Nat.zero_le _) ?_
 rintro ⟨k,v⟩ hk
 replace hk:k <= p.globals.length:=hk
 try dsimp only
 refine go 7 ?_
 by_cases h1:((k:Nat):Int)<((p.globals.length:Nat):Int)
 ·refine wcp true Y (jZ h1) (go 7 ?_)
  have hkl:k<p.globals.length:=J
  refine go 5 ?_
  refine wyz Y (bH dB dB p.globals nS (λ_=>Y) k Y Y Y Y J V runUnderlying23 sizeOf63) (go 2 ?_)
  refine wo Y (bDk (r:=[Vs (p.globals[k].name)]) bT4 ?_)
  refine wo Y (bDm [] dFs Y Y V B1 J (N:=0+(k+1)) Y (λ_=>cFh.h) cFh.h (dBu aI.name ([]:List ByteArray) p.globals k hkl) λw2=>?_)
  refine go 6 ?_
  refine wad Y (go 2 ?_)
  exact ⟨(k+1,w2),(by show k+1 <= p.globals.length;omega),GH,cQf (h:=aG Y (gQ J) (sA Y)) BP⟩
 refine wcp false Y (jQ h1) (go 15 ?_)
 obtain rfl:k=p.globals.length:=J
 have e1:ST (([]:List ByteArray)++(p.globals.take p.globals.length).map aI.name)=ST ((p.globals.map aI.name)++(p.mutexes.take 0).map cL.name):=G0
 have e2:0+p.globals.length=p.globals.length+0:=J
 rw [e1,e2]
 clear e1 e2
 refine fM (λg:Nat×Value=>(⟨64,aY g.2++[b1],⟨⟨b1,27,jV p⟩::bx,⟨g.2,9,1,p.globals.length+g.1,ST ((p.globals.map aI.name)++(p.mutexes.take g.1).map cL.name)⟩::rw⟩,[(7,nI g.1),(5,Cv g.2),(1,Ci x),(2,pP b1)]⟩:AS)) (λg=>g.1 <= p.mutexes.length) (λg=>p.mutexes.length-g.1) (0,v) (cQf G3) (Nat.zero_le _) ?_
 rintro ⟨k,v⟩ hk
 replace hk:k <= p.mutexes.length:=hk
 try dsimp only
 refine go 7 ?_
 by_cases h4:((k:Nat):Int)<((p.mutexes.length:Nat):Int)
 ·refine wcp true Y (jZ h4) (go 7 ?_)
  have hkl:k<p.mutexes.length:=J
  refine go 5 ?_
  refine wyz Y (bH bT bT p.mutexes mZ (λ_=>Y) k Y Y Y Y J V runUnderlying24 sizeOf60) (go 2 ?_)
  refine wo Y (bDk (r:=[Vs (p.mutexes[k].name)]) bT4 ?_)
  refine wo Y (bDm [] dFs Y Y V B1 J (N:=p.globals.length+(k+1)) Y (λ_=>cFh.h) cFh.h (dBu cL.name (p.globals.map aI.name) p.mutexes k hkl) λw3=>?_)
  refine go 6 ?_
  refine wad Y (go 2 ?_)
  exact ⟨(k+1,w3),G7,Eg,cQf (h:=aG Y (gQ J) (sA Y)) BP⟩
 refine wcp false Y (jQ h4) (go 15 ?_)
 obtain rfl:k=p.mutexes.length:=J
 have e1:ST ((p.globals.map aI.name)++(p.mutexes.take p.mutexes.length).map cL.name)=ST ((p.globals.map aI.name++p.mutexes.map cL.name)++((p.funcs.drop 1).take 0).map bS.name):=G0
 have e2:p.globals.length+p.mutexes.length=p.globals.length+p.mutexes.length+0:=J
 rw [e1,e2]
 clear e1 e2
 refine fM (λg:Nat×Value=>(⟨64,aY g.2++[b1],⟨⟨b1,27,jV p⟩::bx,⟨g.2,9,1,p.globals.length+p.mutexes.length+g.1,ST ((p.globals.map aI.name++p.mutexes.map cL.name)++((p.funcs.drop 1).take g.1).map bS.name)⟩::rw⟩,[(8,Ci ((g.1+1:Nat):Int)),(5,Cv g.2),(1,Ci x),(2,pP b1)]⟩:AS)) (λg=>g.1 <= (p.funcs.drop 1).length) (λg=>(p.funcs.drop 1).length-g.1) (0,v) (cQf G3) (Nat.zero_le _) ?_
 rintro ⟨k,v⟩ hk
 replace hk:k <= (p.funcs.drop 1).length:=hk
 try dsimp only
 refine go 7 ?_
 by_cases h7:((k+1:Nat):Int)<((p.funcs.length:Nat):Int)
 ·refine wcp true Y (jZ h7) (go 7 ?_)
  have hkl:k<(p.funcs.drop 1).length:=DI
  refine go 5 ?_
  refine wyz Y (bH fV fV p.funcs vC (λ_=>Y) (k+1) Y Y Y Y J V runUnderlying25 sizeOf67) (go 2 ?_)
  have hdk:(p.funcs.drop 1)[k]=p.funcs[k+1]:=by rw [List.getElem_drop];congr 1;omega
  rw [←hdk]
  refine wo Y (bDk (r:=[Vs ((p.funcs.drop 1)[k].name)]) bT4 ?_)
  refine wo Y (bDm [] dFs Y Y V B1 J (N:=p.globals.length+p.mutexes.length+(k+1)) Y (λ_=>cFh.h) cFh.h (dBu bS.name (p.globals.map aI.name++p.mutexes.map cL.name) (p.funcs.drop 1) k hkl) λw4=>?_)
  refine go 6 ?_
  refine wad Y (go 2 ?_)
  exact ⟨(k+1,w4),(by show k+1 <= (p.funcs.drop 1).length;omega),(by show (p.funcs.drop 1).length-(k+1)<(p.funcs.drop 1).length-k;omega),cQf (h:=aG Y (gQ J) (sA Y)) BP⟩
 refine wcp false Y (jQ h7) (go 9 ?_)
 have hk1:k=(p.funcs.drop 1).length:=by rw [List.length_drop] at hk⊢;omega
 subst hk1
 have hdl:(p.funcs.drop 1).length <= p.funcs.length:=DI
 rw [List.take_length]
 have hdn:(cZ1 p).length=p.globals.length+p.mutexes.length+(p.funcs.drop 1).length:=by unfold cZ1;simp only [length_append,List.length_map]
 rw [show p.globals.map aI.name++p.mutexes.map cL.name++(p.funcs.drop 1).map bS.name=cZ1 p from rfl,←hdn]
 refine aEw [] J λgr cr hgr=>?_
 subst hgr
 refine go 4 ?_
 refine wyz Y (kV [] Y Y Y runUnderlying61) ?_
 obtain ⟨j,hj,hlj⟩:=bEj x (((cZ1 p).length:Nat):Int) J
 refine wc0 Y call16 Y (bEl x (((cZ1 p).length:Nat):Int) j J J hj _) ?_
 rintro _ _ ⟨rfl,rfl⟩
 refine wyz Y (dH (z:=1) j Y Y Y Y J runUnderlying61 sizeOf9) ?_
 refine wyz Y (rM [] isAgg9 sizeOf9 (dE2 (l:=cZ1 p) (j:=j) J)) (go 4 ?_)
 exact ⟨.inr Y,_,⟨bx,rw⟩,aR Y (aF Y),aA (.cons _ (.refl _)) (.cons _ (.refl _)),⟨j,J,Y⟩,Y⟩
end
section
theorem cCc:∀i,i<25 -> ∀j,j<25 -> cZk i=cZk j -> i=j:=V
theorem cCi(i j:Nat)(hi:i<25)(hj:j<25)(h:cZk i=cZk j):i=j:=cCc i hi j hj h
def cEb(i:Nat):ByteArray:=bytes [103,UInt8.ofNat (48+i)]
def cEa(i:Nat):ByteArray:=bytes [UInt8.ofNat (97+i)]
def dA9(i:Nat):ByteArray:=if i=0 then bytes [109,97,105,110] else bytes [102,UInt8.ofNat (48+i)]
def cB7(i:Nat):ByteArray:=bytes [112,UInt8.ofNat (48+i)]
def cDi:List ByteArray:=(List.range 2).map cEb++((List.range 4).map cEa++(List.range 4).map dA9)
theorem cCx:cDi.Nodup:=V
theorem cDz:∀i,i<3 -> cDi.all (λs=>decide (s≠cB7 i))=true:=V
theorem cD8:∀i,i<25 -> cDi.all (λs=>decide (s≠cZk i))=true:=V
theorem cEc(i:Nat)(h:i<3):cB7 i∉cDi:=λhm=>of_decide_eq_true (List.all_eq_true.1 (cDz i h) _ hm) rfl
theorem cEf(i:Nat)(h:i<25):cZk i∉cDi:=λhm=>of_decide_eq_true (List.all_eq_true.1 (cD8 i h) _ hm) rfl
theorem p_v:∀k,k<3 -> ∀i,i<25 -> cZk i≠cB7 k:=V
theorem p_p:∀k,k<3 -> ∀i,i<3 -> cB7 i=cB7 k -> i=k:=V
theorem cD5:((List.range 4).map dA9).Nodup:=V
section
open Classical
structure cBn (ms:List cL) (sg:List Sig) (ps:List aS) (fs:Fns) (vars:List ByteArray) (left:Nat) (v:Vis):Prop where
 kn:KN v
 vars:∀x,x∈vars -> bZp v x=1
 ms:∀m,m∈ms -> bZp v m.name=cAr m
 ps:∀x,x∈ps -> x.mutex=true -> bZp v x.name=4
 sg:∀g,g∈sg -> bZp v g.1=5 /\ ∃f,bZu fs g.1=some f /\ f.params=g.2
 free:∀j,j<left -> bZp v (cZk j)=0
section
variable {ms:List cL}{sg:List Sig}{ps:List aS}{fs:Fns}{vars:List ByteArray}{left:Nat}{v:Vis}
theorem cBn.of{v':Vis}{left':Nat}(h:cBn ms sg ps fs vars left v)(hk:KN v')(hl:left' <= left)(ow:List ByteArray)(hv:∀s,bZp v' s=if s∈ow then 1 else bZp v s)(ho:∀s,s∈ow -> ∃j,left' <= j /\ j<left /\ s=cZk j)(h25:left <= 25):cBn ms sg ps fs vars left' v':=by
 have no:∀s,bZp v s≠0 -> bZp v' s=bZp v s:=λs hs=>by
  rw [hv];split
  ·rename_i hm
   obtain ⟨j,-,h2,rfl⟩:=ho s hm
   exact absurd (h.free j h2) hs
  rfl
 refine ⟨hk,λx hx=>?_,λm hm=>?_,λx hx hm=>?_,λg hg=>?_,λj hj=>?_⟩
 ·rw [no x (by rw [h.vars x hx];decide)];exact h.vars x hx
 ·rw [no _ (by rw [h.ms m hm];unfold cAr;split<;>decide)];exact h.ms m hm
 ·rw [no _ (by rw [h.ps x hx hm];decide)];exact h.ps x hx hm
 ·rw [no _ (by rw [(h.sg g hg).1];decide)];exact h.sg g hg
 rw [hv];split
 ·rename_i hm
  obtain ⟨i,h1,h2,h3⟩:=ho _ hm
  have:=cCi j i J J h3
  omega
 exact h.free j J
theorem eT.res{d:Nat}{e:aH}(h:eT vars d e)(hv:∀x,x∈vars -> bZp v x=1):bZ1 v e=0:=by
 induction h with
 |name hx=>rw [bZ1,if_pos rfl];unfold cBh;rw [hv _ hx];rfl
 |num h0 h1=>rw [bZ1,if_neg V,bZ0]
 |un ho he ih=>rw [bZ1,if_neg J,bZ0,if_pos ih,bZ0]
 |bin h0 h1 ha hb iha ihb=>rw [bZ1,if_neg J,bZ0,if_pos iha,bZ0,if_pos ihb,bZ0]
theorem uA.res{r:cY}(h:uA ms ps vars r)(hv:cBn ms sg ps fs vars left v):cA3 v r=0:=by
 cases h with
 |@arr m e hm hs he=>
  have h1:=hv.ms m hm
  unfold cAr at h1;rw [if_pos hs] at h1
  unfold cA3 cAj
  rw [h1]
  exact he.res hv.vars
 |@scalar m hm hs=>
  have h1:=hv.ms m hm
  unfold cAr at h1;rw [if_neg J] at h1
  unfold cA3 cAj
  rw [h1];rfl
 |@param x hx hm=>
  have h1:=hv.ps x hx hm
  unfold cA3 cAj
  rw [h1];rfl
theorem nB.res{l:List aS}{al:List eN}(h:nB ms ps vars l al)(hv:cBn ms sg ps fs vars left v):bZ3 v al l=0 /\ al.length=l.length:=by
 induction h with
 |nil=>exact ⟨rfl,rfl⟩
 |mutex hx hr h ih=>
  refine ⟨?_,by simp [ih.2]⟩
  rw [bZ3,if_pos];·exact ih.1
  unfold cBb;rw [hx];exact hr.res hv
 |expr hx he h ih=>
  refine ⟨?_,by simp [ih.2]⟩
  rw [bZ3,if_pos];·exact ih.1
  unfold cBb;rw [hx];exact he.res hv.vars
theorem cBw(fs:Fns):∀(a b:List aJ)(own own1:List ByteArray)(x x1:RS),bZr fs a own x=(0,own1,x1) -> bZr fs (a++b) own x=bZr fs b own1 x1
 |[],b,own,own1,x,x1,h=>by rw [bZr] at h;cases h;rfl
 |s::a,b,own,own1,x,x1,h=>by
  rw [bZr] at h
  rw [List.cons_append,bZr]
  split at h
  ·rename_i h0
   rw [if_pos h0];exact cBw fs a b _ _ _ _ h
  rename_i h0
  exact absurd (congrArg Prod.fst h) h0
theorem cCh:∀(ow:List ByteArray)(v:Vis),KN v -> KN (ow.foldl bZy v) /\ ∀s,bZp (ow.foldl bZy v) s=if s∈ow then 0 else bZp v s
 |[],v,h=>⟨h,λs=>G0⟩
 |k::ow,v,h=>by
  obtain ⟨h1,h2⟩:=cCh ow (bZy v k) (h.del k)
  refine ⟨h1,λs=>?_⟩
  rw [List.foldl_cons,h2,cCs h]
  by_cases hs:s∈ow
  ·rw [if_pos hs,if_pos (List.mem_cons_of_mem _ hs)]
  rw [if_neg hs]
  by_cases hk:k=s
  ·rw [if_pos hk,if_pos G9]
  rw [if_neg hk,if_neg (λhm=>(mem_cons.1 hm).elim (λe=>hk e.symm) hs)]
def cA1(fs:Fns)(l:List aJ)(left left':Nat)(v:Vis):Prop:=∀(own:List ByteArray)(n:Nat)(a:Int),∃(ow:List ByteArray) (n':Nat) (a':Int) (v':Vis),bZr fs l own ⟨v,n,a⟩=(0,own++ow,⟨v',n',a'⟩) /\ KN v' /\ (∀s,bZp v' s=if s∈ow then 1 else bZp v s) /\ ∀s,s∈ow -> ∃j,left' <= j /\ j<left /\ s=cZk j
theorem cA1.fin{l:List aJ}{left':Nat}(h:cA1 fs l left left' v)(hf:∀j,j<left -> bZp v (cZk j)=0)(n:Nat)(a:Int):∃(n':Nat) (a':Int) (v':Vis),cA7 (bZr fs l [] ⟨v,n,a⟩)=(0,⟨v',n',a'⟩) /\ KN v' /\ ∀s,bZp v' s=bZp v s:=by
 obtain ⟨ow,n',a',v',h1,h2,h3,h4⟩:=h [] n a
 obtain ⟨g1,g2⟩:=cCh ow v' h2
 refine ⟨n',a',_,C5,g1,λs=>?_⟩
 show bZp (ow.foldl bZy v') s=_
 rw [g2,h3]
 split
 ·rename_i hm
  obtain ⟨j,-,h5,rfl⟩:=h4 s hm
  exact (hf j h5).symm
 rfl
theorem cBn.same{v':Vis}{left':Nat}(h:cBn ms sg ps fs vars left v)(hk:KN v')(hl:left' <= left)(hv:∀s,bZp v' s=bZp v s):cBn ms sg ps fs vars left' v':=
 ⟨hk,λx hx=>by rw [hv];exact h.vars x hx,λm hm=>by rw [hv];exact h.ms m hm,λx hx hm=>by rw [hv];exact h.ps x hx hm,λg hg=>by rw [hv];exact h.sg g hg,λj hj=>by rw [hv];exact h.free j J⟩
theorem cA1.next{s:aJ}{l:List aJ}{l0 l1 left':Nat}{v1:Vis}(hk:s.kind≠1)(hl:l1 <= l0)(hs:∀(n:Nat)(a:Int),∃(n':Nat) (a':Int),bZ4 fs s ⟨v,n,a⟩=(0,⟨v1,n',a'⟩))(hv:∀q,bZp v1 q=bZp v q)(h:cA1 fs l l1 left' v1):cA1 fs (s::l) l0 left' v:=by
 intro own n a
 obtain ⟨n1,a1,e1⟩:=hs n a
 obtain ⟨ow,n',a',v',h1,h2,h3,h4⟩:=h own n1 a1
 refine ⟨ow,n',a',v',?_,h2,λq=>by rw [h3,hv],λq hq=>?_⟩
 ·rw [bZr,e1,if_pos rfl,show cCp s own=own from if_neg hk];exact h1
 obtain ⟨j,g1,g2,g3⟩:=h4 q hq
 exact ⟨j,g1,J,g3⟩
theorem cAa{s:aJ}(hk:s.kind≠1)(ht:s.thn=[])(he:s.els=[])(hp:bZ5 v fs s=0)(n:Nat)(a:Int):∃(n':Nat) (a':Int),bZ4 fs s ⟨v,n,a⟩=(0,⟨v,n',a'⟩):=by
 refine ⟨n+1,n,?_⟩
 rw [bZ9,if_pos hp,ht,he]
 unfold cAy;dsimp only
 rw [if_neg hk];rfl
theorem cCf{k:Int}{e:aH}{t f rest:List aJ}{l0 l1 l2 l3 left':Nat}(hk:k=7∨k=8)(hl:l1 <= l0)(hl3:l3 <= l1)(he:bZ1 v e=0)(hfr:∀j,j<l1 -> bZp v (cZk j)=0)(ht:cA1 fs t l1 l2 v)
  (hf:∀v1,KN v1 -> (∀s,bZp v1 s=bZp v s) -> (∀j,j<l2 -> bZp v1 (cZk j)=0) /\ cA1 fs f l2 l3 v1) (hr:∀v2,KN v2 -> (∀s,bZp v2 s=bZp v s) -> cA1 fs rest l3 left' v2):cA1 fs (.mk k aK e .zero [] t f::rest) l0 left' v:=by
 intro own n a
 obtain ⟨n1,a1,v1,f1,k1,q1⟩:=ht.fin hfr (n+1) n
 obtain ⟨hfr2,hf2⟩:=hf v1 k1 q1
 obtain ⟨n2,a2,v2,f2,k2,q2⟩:=hf2.fin hfr2 n1 a1
 have hst:bZ4 fs (.mk k aK e .zero [] t f) ⟨v,n,a⟩=(0,⟨v2,n2,a2⟩):=by
  have hp:bZ5 v fs (.mk k aK e .zero [] t f)=0:=by
   show (if k=1 then _ else if k=2 then _ else if k=5∨k=6 then _ else if k=3∨k=4 then _ else if k=7∨k=8 then bZ1 v e else 0)=0
   rw [if_neg J,if_neg J,if_neg J,if_neg J,if_pos hk];exact he
  rw [bZ9,if_pos hp]
  have hb:cAy (.mk k aK e .zero [] t f) ⟨v,n,a⟩=⟨v,n+1,n⟩:=by
   show RS.mk (if k=1 then _ else v) (n+1) n=_
   rw [if_neg J]
  rw [hb]
  show (if (cA7 (bZr fs t [] ⟨v,n+1,n⟩)).1=0 then cA7 (bZr fs f [] (cA7 (bZr fs t [] ⟨v,n+1,n⟩)).2) else _)=_
  rw [f1,if_pos rfl,f2]
 obtain ⟨ow,n3,a3,v3,h1,h2,h3,h4⟩:=hr v2 k2 (λs=>(q2 s).trans (q1 s)) own n2 a2
 refine ⟨ow,n3,a3,v3,?_,h2,λs=>by rw [h3,q2,q1],λs hs=>?_⟩
 ·rw [bZr,hst,if_pos rfl,show cCp (.mk k aK e .zero [] t f) own=own from if_neg (by show ¬k=1;omega)];exact h1
 obtain ⟨j,g1,g2,g3⟩:=h4 s hs;exact ⟨j,g1,J,g3⟩
theorem dJ.res{deep left':Nat}{l:List aJ}(h:dJ ms sg ps vars deep left l left'):∀v:Vis,cBn ms sg ps fs vars left v -> left <= 25 -> cA1 fs l left left' v:=by
 induction h with
 |nil=>intro v hv _ own n a;exact ⟨[],n,a,v,by simp [bZr],hv.kn,λs=>G0,λs hs=>by cases hs⟩
 |@lock vars deep left left' r rest hr h ih=>
  intro v hv hl
  exact .next (l1:=left) (of_decide_eq_true Y) J (cAa (of_decide_eq_true Y) Y Y (hr.res hv)) (λ_=>Y) (ih v (hv.same hv.kn J λ_=>Y) J)
 |@unlock vars deep left left' r rest hr h ih=>
  intro v hv hl
  exact .next (l1:=left) (of_decide_eq_true Y) J (cAa (of_decide_eq_true Y) Y Y (hr.res hv)) (λ_=>Y) (ih v (hv.same hv.kn J λ_=>Y) J)
 |@var vars deep left left' e rest he h ih=>
  intro v hv hl own n a
  have h0:=hv.free left J
  have hle:=h.le
  have hv1:cBn ms sg ps fs (vars++[cZk left]) left (bZq v (cZk left) 1):=by
   have h9:=hv.of (left':=left) (hv.kn.put (cZk left) 1) J [cZk left] (λs=>by rw [cAl];simp [eq_comm]) (λs hs=>⟨left,Nat.le_refl _,J,by simpa using hs⟩) J
   refine ⟨h9.kn,λx hx=>?_,h9.ms,h9.ps,h9.sg,h9.free⟩
   rcases mem_append.1 hx with hx|hx
   ·exact h9.vars x hx
   rw [List.mem_singleton.1 hx,cAl,if_pos rfl]
  obtain ⟨ow,n',a',v',h1,h2,h3,h4⟩:=ih _ hv1 J (own++[cZk left]) (n+1) n
  refine ⟨cZk left::ow,n',a',v',?_,h2,λs=>?_,λs hs=>?_⟩
  ·have hst:bZ4 fs (.mk 1 (cZk left) e .zero [] [] []) ⟨v,n,a⟩=(0,⟨bZq v (cZk left) 1,n+1,n⟩):=by
    rw [bZ9,if_pos]
    ·rfl
    show (if (1:Int)=1 then (if bZp v (cZk left)=0 then bZ1 v e else 5) else _)=0
    rw [if_pos rfl,if_pos h0];exact he.res hv.vars
   rw [bZr,hst,if_pos rfl]
   show bZr fs rest (own++[cZk left]) _=_
   rw [h1,append_assoc];rfl
  ·rw [h3,cAl]
   by_cases hs:s∈ow
   ·rw [if_pos hs,if_pos (List.mem_cons_of_mem _ hs)]
   rw [if_neg hs]
   by_cases hk:cZk left=s
   ·rw [if_pos hk,if_pos G9]
   rw [if_neg hk,if_neg (λhm=>(mem_cons.1 hm).elim (λe=>hk e.symm) hs)]
  ·rcases mem_cons.1 hs with rfl|hs
   ·exact ⟨left,hle,J,Y⟩
   ·obtain ⟨j,g1,g2,g3⟩:=h4 s hs
    exact ⟨j,g1,J,g3⟩
 |@assign vars deep left left' x e rest hx he h ih=>
  intro v hv hl
  refine .next (l1:=left) (of_decide_eq_true Y) J (cAa (of_decide_eq_true Y) Y Y ?_) (λ_=>Y) (ih v (hv.same hv.kn J λ_=>Y) J)
  show (if (2:Int)=1 then _ else if (2:Int)=2 then (if cBh v x=0 then bZ1 v e else cBh v x) else _)=0
  rw [if_neg V,if_pos rfl,if_pos (by unfold cBh;rw [hv.vars x hx];rfl)];exact he.res hv.vars
 |@call vars deep left left' k g asl rest hk hg ha h ih=>
  intro v hv hl
  obtain ⟨g1,f,g2,g3⟩:=hv.sg g hg
  obtain ⟨a1,a2⟩:=ha.res hv
  refine .next (l1:=left) GN J (cAa GN Y Y ?_) (λ_=>Y) (ih v (hv.same hv.kn J λ_=>Y) J)
  show (if k=1 then _ else if k=2 then _ else if k=5∨k=6 then _ else if k=3∨k=4 then cAx v fs g.1 asl else _)=0
  rw [if_neg J,if_neg J,if_neg J,if_pos hk]
  unfold cAx
  rw [g1,g2,if_neg V,if_pos rfl]
  show (if asl.length=f.params.length then bZ3 v asl f.params else 7)=0
  rw [g3,if_pos a2];exact a1
 |@cond vars deep left l1 l2 left' e thn els rest he ht hel h iht ihe ih=>
  intro v hv hl
  have e1:=ht.le;have e2:=hel.le;have e3:=h.le
  have hv0:=hv.same (left':=left) hv.kn J λ_=>Y
  refine cCf (l1:=left) (l2:=l1) (l3:=l2) V J J (he.res hv.vars) hv0.free (iht v hv0 J) (λv1 k1 q1=>?_) GJ
  have hv1:=hv.same (left':=l1) k1 J q1
  exact ⟨hv1.free,ihe v1 hv1 J⟩
 |@loop vars deep left l1 left' e thn rest he ht h iht ih=>
  intro v hv hl
  have e1:=ht.le;have e3:=h.le
  have hv0:=hv.same (left':=left) hv.kn J λ_=>Y
  refine cCf (l1:=left) (l2:=l1) (l3:=l1) V J J (he.res hv.vars) hv0.free (iht v hv0 J) (λv1 k1 q1=>?_) GJ
  have hv1:=hv.same (left':=l1) k1 J q1
  exact ⟨hv1.free,λown n a=>⟨[],n,a,v1,by simp [bZr],k1,λs=>G0,λs hs=>by cases hs⟩⟩
 |@ret vars deep left left' rest h ih=>
  intro v hv hl
  exact .next (l1:=left) (of_decide_eq_true Y) J (cAa (of_decide_eq_true Y) Y Y Y) (λ_=>Y) (ih v (hv.same hv.kn J λ_=>Y) J)
 |@pair vars deep left l1 left' r mid rest hr hm h ihm ih=>
  intro v hv hl
  have e1:=hm.le;have e2:=h.le
  refine .next (l1:=left) (of_decide_eq_true Y) J (cAa (of_decide_eq_true Y) Y Y (hr.res hv)) (λ_=>Y) ?_
  have hv0:=hv.same (left':=left) hv.kn J λ_=>Y
  intro own n a
  obtain ⟨ow,n1,a1,v1,g1,g2,g3,g4⟩:=ihm v hv0 J own n a
  have hv1:cBn ms sg ps fs vars l1 v1:=hv0.of g2 e1 ow g3 g4 J
  have hu:cA1 fs (.mk 6 aK .zero r [] [] []::rest) l1 left' v1:=.next (l1:=l1) (of_decide_eq_true Y) (Nat.le_refl _) (cAa (of_decide_eq_true Y) Y Y (hr.res hv1)) (λ_=>Y) (ih v1 hv1 J)
  obtain ⟨ow2,n2,a2,v2,h1,h2,h3,h4⟩:=hu (own++ow) n1 a1
  refine ⟨ow++ow2,n2,a2,v2,by rw [cBw fs _ _ _ _ _ _ g1,h1,append_assoc],h2,λs=>?_,λs hs=>?_⟩
  ·rw [h3,g3]
   by_cases hs:s∈ow2
   ·rw [if_pos hs,if_pos (List.mem_append_right _ hs)]
   rw [if_neg hs]
   by_cases hs1:s∈ow
   ·rw [if_pos hs1,if_pos (List.mem_append_left _ hs1)]
   rw [if_neg hs1,if_neg (λhm=>(mem_append.1 hm).elim hs1 hs)]
  rcases mem_append.1 hs with hs|hs
  ·obtain ⟨j,k1,k2,k3⟩:=g4 s hs;exact ⟨j,J,k2,k3⟩
  obtain ⟨j,k1,k2,k3⟩:=h4 s hs;exact ⟨j,k1,J,k3⟩
end
theorem cBt:∀(l:List (ByteArray×Int)) (v:Vis) (n:Nat),KN v -> (l.map (·.1)).Nodup -> (∀x,x∈l -> bZp v x.1=0) ->
  (bZz l v n).1=none /\ KN (bZz l v n).2 /\ (∀x,x∈l -> bZp (bZz l v n).2 x.1=x.2) /\ ∀s,s∉l.map (·.1) -> bZp (bZz l v n).2 s=bZp v s
 |[],v,n,hk,_,_=>⟨rfl,hk,λx hx=>absurd hx not_mem_nil,λs _=>rfl⟩
 |p::r,v,n,hk,hd,h0=>by
  simp only [List.map_cons,List.nodup_cons] at hd
  obtain ⟨a1,a2,a3,a4⟩:=cBt r (bZq v p.1 p.2) (n+1) (hk.put _ _) hd.2 (λx hx=>by
   rw [cAl,if_neg GL];exact h0 x (List.mem_cons_of_mem _ hx))
  have e:bZz (p::r) v n=bZz r (bZq v p.1 p.2) (n+1):=by rw [bZz,if_pos (h0 p List.mem_cons_self)]
  rw [e]
  refine ⟨a1,a2,λx hx=>?_,λs hs=>?_⟩
  ·rcases mem_cons.1 hx with rfl|hx
   ·rw [a4 _ hd.1,cAl,if_pos rfl]
   exact a3 x hx
  simp only [List.map_cons,mem_cons,not_or] at hs
  rw [a4 s hs.2,cAl,if_neg (λe=>hs.1 e.symm)]
theorem cB2:∀(l:List bS)(m:Fns)(s:ByteArray),s∉l.map bS.name -> bZu (l.foldl (λm f=>bZq m f.name f) m) s=bZu m s
 |[],m,s,_=>rfl
 |f::l,m,s,h=>by
  simp only [List.map_cons,mem_cons,not_or] at h
  rw [List.foldl_cons,cB2 l _ s h.2,cBo,if_neg (λe=>h.1 e.symm)]
theorem cBj:∀(l:List bS)(m:Fns),(l.map bS.name).Nodup -> ∀f,f∈l -> bZu (l.foldl (λm f=>bZq m f.name f) m) f.name=some f
 |[],_,_,f,h=>DV
 |g::l,m,hd,f,h=>by
  simp only [List.map_cons,List.nodup_cons] at hd
  rw [List.foldl_cons]
  rcases mem_cons.1 h with rfl|h
  ·rw [cB2 l _ _ hd.1,cBo,if_pos rfl]
  exact cBj l _ hd.2 f h
theorem cBg:∀(l:List aS)(v:Vis),KN v -> (l.map aS.name).Nodup -> (∀x,x∈l -> bZp v x.name=0) ->
  (bZv l v).1=true /\ KN (bZv l v).2 /\ (∀x,x∈l -> bZp (bZv l v).2 x.name=cAw x) /\ ∀s,s∉l.map aS.name -> bZp (bZv l v).2 s=bZp v s
 |[],v,hk,_,_=>⟨rfl,hk,λx hx=>absurd hx not_mem_nil,λs _=>rfl⟩
 |p::r,v,hk,hd,h0=>by
  simp only [List.map_cons,List.nodup_cons] at hd
  obtain ⟨a1,a2,a3,a4⟩:=cBg r (bZq v p.name (cAw p)) (hk.put _ _) hd.2 (λx hx=>by
   rw [cAl,if_neg GL];exact h0 x (List.mem_cons_of_mem _ hx))
  have e:bZv (p::r) v=bZv r (bZq v p.name (cAw p)):=by rw [bZv,if_pos (h0 p List.mem_cons_self)]
  rw [e]
  refine ⟨a1,a2,λx hx=>?_,λs hs=>?_⟩
  ·rcases mem_cons.1 hx with rfl|hx
   ·rw [a4 _ hd.1,cAl,if_pos rfl]
   exact a3 x hx
  simp only [List.map_cons,mem_cons,not_or] at hs
  rw [a4 s hs.2,cAl,if_neg (λe=>hs.1 e.symm)]
theorem cB0:∀(l:List aS)(v:Vis),KN v -> KN (cAk l v) /\ ∀s,bZp (cAk l v) s=if s∈l.map aS.name then 0 else bZp v s
 |[],v,h=>⟨h,λs=>by simp [cAk]⟩
 |x::l,v,h=>by
  obtain ⟨h1,h2⟩:=cB0 l (bZy v x.name) (h.del x.name)
  refine ⟨h1,λs=>?_⟩
  show bZp (cAk l (bZy v x.name)) s=_
  rw [h2,cCs h,List.map_cons]
  by_cases hs:s∈l.map aS.name
  ·rw [if_pos hs,if_pos (List.mem_cons_of_mem _ hs)]
  rw [if_neg hs]
  by_cases hk:x.name=s
  ·rw [if_pos hk,if_pos G9]
  rw [if_neg hk,if_neg (λhm=>(mem_cons.1 hm).elim (λe=>hk e.symm) hs)]
theorem cDs{α:Type}(nm:α -> ByteArray)(g:Nat -> ByteArray)(l:List α)(h:∀k (hk:k<l.length),nm l[k]=g k):l.map nm=(List.range l.length).map g:=by
 apply List.ext_getElem
 ·simp
 intro i h1 h2
 simp only [List.length_map] at h1
 simp only [List.getElem_map,List.getElem_range]
 exact h i h1
theorem cDb{a b:Nat}(h:a <= b):(List.range a).Sublist (List.range b):=by
 rw [←Nat.add_sub_cancel' h,List.range_add];exact List.sublist_append_left _ _
theorem cA5{α:Type}(nm:α -> ByteArray)(g:Nat -> ByteArray)(l:List α)(n:Nat)(hn:l.length <= n)(h:∀k (hk:k<l.length),nm l[k]=g k):(l.map nm).Sublist ((List.range n).map g):=by
 rw [cDs nm g l h];exact (cDb hn).map g
section
variable {p:cK}(hp:sY p)
include hp
omit hp in theorem sorts_names:(bZs p).map (·.1)=p.globals.map aI.name++(p.mutexes.map cL.name++p.funcs.map bS.name):=by
 unfold bZs;simp [List.map_map,Function.comp_def]
theorem cC2(k:Nat)(h:k<p.funcs.length):p.funcs[k].name=dA9 k:=by
 have h1:=hp.funcs.2.2 k h
 unfold dA9
 by_cases h0:k=0
 ·rw [if_pos h0];exact (h1.1 h0).1
 rw [if_neg h0];exact h1.2.1 J
theorem cBk:((bZs p).map (·.1)).Sublist cDi:=by
 rw [sorts_names]
 exact (cA5 aI.name cEb p.globals 2 hp.globals.1 λk h=>(hp.globals.2 k h).1).append
  ((cA5 cL.name cEa p.mutexes 4 hp.mutexes.2.1 λk h=>(hp.mutexes.2.2 k h).1).append (cA5 bS.name dA9 p.funcs 4 hp.funcs.2.1 (cC2 hp)))
theorem cCe:(p.funcs.map bS.name).Nodup:=by
 refine ((cA5 bS.name dA9 p.funcs 4 hp.funcs.2.1 (cC2 hp))).nodup cD5
theorem cDd{f:bS}(hf:f∈p.funcs):∀x,x∈f.params -> ∃i,i<3 /\ x.name=cB7 i:=by
 obtain ⟨k,hk,rfl⟩:=List.getElem_of_mem hf
 obtain ⟨h1,h2⟩:=(hp.funcs.2.2 k hk).2.2
 intro x hx
 obtain ⟨j,hj,rfl⟩:=List.getElem_of_mem hx
 exact ⟨_,J,h2 j hj⟩
theorem cC7{f:bS}(hf:f∈p.funcs):(f.params.map aS.name).Nodup:=by
 obtain ⟨k,hk,rfl⟩:=List.getElem_of_mem hf
 obtain ⟨h1,h2⟩:=(hp.funcs.2.2 k hk).2.2
 unfold List.Nodup
 rw [List.pairwise_iff_getElem]
 intro i j hi hj hij
 simp only [List.length_map] at hi hj
 simp only [List.getElem_map]
 rw [h2 i hi,h2 j hj]
 intro e
 have:=p_p _ J _ J e
 omega
theorem cC9{v:Vis}(hk:KN v)(hs:∀x,x∈bZs p -> bZp v x.1=x.2)(h0:∀s,s∉(bZs p).map (·.1) -> bZp v s=0){f:bS}(hf:f∈p.funcs){left left':Nat}(hl:left <= 24)
  (h:dJ p.mutexes (p.funcs.map bS.sig) f.params (uS p.globals f.params) 2 left f.body left'):(cAe (bZ7 p.funcs) f v).1=0 /\ KN (cAe (bZ7 p.funcs) f v).2.vis /\ ∀s,bZp (cAe (bZ7 p.funcs) f v).2.vis s=bZp v s:=by
 have hpn:=cDd hp hf
 have hno:∀x,x∈f.params -> x.name∉(bZs p).map (·.1):=λx hx hm=>by
  obtain ⟨i,hi,e⟩:=hpn x hx
  exact cEc i hi (e▸(cBk hp).subset hm)
 obtain ⟨a1,a2,a3,a4⟩:=cBg f.params v hk (cC7 hp hf) (λx hx=>h0 _ (hno x hx))
 have keep:∀x,x∈bZs p -> bZp (bZv f.params v).2 x.1=x.2:=λx hx=>by
  rw [a4 _ (λhm=>?_)];·exact hs x hx
  obtain ⟨y,hy,e⟩:=List.mem_map.1 hm
  exact hno y hy (e▸List.mem_map_of_mem hx)
 have hv:cBn p.mutexes (p.funcs.map bS.sig) f.params (bZ7 p.funcs) (uS p.globals f.params) left (bZv f.params v).2:=by
  refine ⟨a2,λx hx=>?_,λm hm=>?_,λx hx hm=>?_,λg hg=>?_,λj hj=>?_⟩
  ·unfold uS at hx
   rcases mem_append.1 hx with hx|hx
   ·obtain ⟨g,hg,rfl⟩:=List.mem_map.1 hx
    exact keep (g.name,1) (by unfold bZs;exact List.mem_append_left _ (List.mem_map.2 ⟨g,hg,rfl⟩))
   obtain ⟨y,hy,rfl⟩:=List.mem_map.1 hx
   obtain ⟨h1,h2⟩:=List.mem_filter.1 hy
   rw [a3 y h1];unfold cAw;rw [if_neg B4]
  ·exact keep (m.name,cAr m) (by unfold bZs;exact List.mem_append_right _ (List.mem_append_left _ (List.mem_map.2 ⟨m,hm,rfl⟩)))
  ·rw [a3 x hx];unfold cAw;rw [if_pos hm]
  ·obtain ⟨y,hy,rfl⟩:=List.mem_map.1 hg
   exact ⟨keep (y.name,5) (by unfold bZs;exact List.mem_append_right _ (List.mem_append_right _ (List.mem_map.2 ⟨y,hy,rfl⟩))),y,cBj _ _ (cCe hp) y hy,Y⟩
  rw [a4 _ (λhm=>?_)]
  ·exact h0 _ (λhm=>cEf j J ((cBk hp).subset hm))
  obtain ⟨y,hy,e⟩:=List.mem_map.1 hm
  obtain ⟨i,hi,e2⟩:=hpn y hy
  exact p_v i hi j J (e.symm.trans e2)
 obtain ⟨n',a',v',e1,e2,e3⟩:=(h.res (fs:=bZ7 p.funcs) _ hv J).fin hv.free 0 (-1)
 have e:cAe (bZ7 p.funcs) f v=(0,⟨cAk f.params v',n',a'⟩):=by
  unfold cAe;rw [if_pos a1];unfold bZ2;rw [e1]
 obtain ⟨g1,g2⟩:=cB0 f.params v' e2
 rw [e]
 refine ⟨Y,g1,λs=>?_⟩
 show bZp (cAk f.params v') s=_
 rw [g2,e3]
 split
 ·rename_i hm
  obtain ⟨y,hy,rfl⟩:=List.mem_map.1 hm
  exact (h0 _ (hno y hy)).symm
 rename_i hm
 exact a4 s hm
theorem cCy{left:Nat}{l:List bS}(h:kZ p.mutexes (p.funcs.map bS.sig) p.globals left l):∀(v:Vis)(i:Nat),left <= 24 -> KN v -> (∀x,x∈bZs p -> bZp v x.1=x.2) -> (∀s,s∉(bZs p).map (·.1) -> bZp v s=0) -> (∀f,f∈l -> f∈p.funcs) -> cAg (bZ7 p.funcs) l i v=(0,0,0):=by
 induction h with
 |nil=>intro v i _ _ _ _ _;rfl
 |@cons left left' f l h hl ih=>
  intro v i h24 hk hs h0 hm
  obtain ⟨b1,b2,b3⟩:=cC9 hp hk hs h0 (hm f List.mem_cons_self) h24 h
  rw [cAg,if_pos b1]
  exact ih _ _ (Nat.le_trans h.le h24) b2 (λx hx=>by rw [b3];exact hs x hx) (λs hs=>by rw [b3];exact h0 s hs) (λg hg=>hm g (List.mem_cons_of_mem _ hg))
theorem cDm:cAb p=(0,0,0):=by
 obtain ⟨a1,a2,a3,a4⟩:=cBt (bZs p) [] 0 (by unfold KN;simp) ((cBk hp).nodup cCx) (λ_ _=>rfl)
 have hm:cA9 p=true:=by
  have h1:=hp.funcs.1
  have h2:=hp.funcs.2.2 0 h1
  have h3:=cBj p.funcs [] (cCe hp) _ (getElem_mem h1)
  rw [(h2.1 rfl).1] at h3
  unfold cA9
  have e:bZu (bZ7 p.funcs) cCg=some p.funcs[0]:=h3
  rw [e];dsimp only;rw [(h2.1 rfl).2];rfl
 unfold cAb
 rw [yO hp,if_neg V,a1]
 dsimp only
 rw [if_pos hm]
 exact cCy hp hp.bodies _ _ (Nat.le_refl _) a2 a3 (λs hs=>by rw [a4 s hs];rfl) (λf hf=>hf)
end
end
end
section
section
variable {Q:ByteArray -> Prop}{g h:ByteArray -> ByteArray}(hq:∀s,Q s -> g s=h s)
include hq
mutual
theorem dC9:∀e:aH,gdE Q e -> mE g e=mE h e
 |.mk op num name args,he=>by
  rw [gdE] at he
  rw [mE,mE,dCe args he.2]
  by_cases h2:op=2
  ·rw [if_pos h2,if_pos h2,hq _ (he.1 h2)]
  rw [if_neg h2,if_neg h2]
theorem dCe:∀l:List aH,cZ0 Q l -> mEs g l=mEs h l
 |[],_=>by rw [mEs,mEs]
 |e::l,he=>by rw [cZ0] at he;rw [mEs,mEs,dC9 e he.1,dCe l he.2]
end
theorem dEg(r:cY)(hr:gdR Q r):mR g r=mR h r:=by unfold mR;rw [hq _ hr.1,←cZv,←cZv,dCe hq _ hr.2]
theorem dE5(a:eN)(ha:gdA Q a):mA g a=mA h a:=by unfold mA;rw [dEg hq _ ha.1,dC9 hq _ ha.2]
mutual
theorem dE7:∀s:aJ,gdS Q s -> mS g s=mS h s
 |.mk k n e r a t f,hs=>by
  rw [gdS] at hs
  obtain ⟨h1,h2,h3,h4,h5,h6⟩:=hs
  rw [mS,mS,hq _ h1,dC9 hq e h2,dEg hq r h3,dBm t h5,dBm f h6,List.map_congr_left λx hx=>dE5 hq x (h4 x hx)]
theorem dBm:∀l:List aJ,cZs Q l -> mSs g l=mSs h l
 |[],_=>by rw [mSs,mSs]
 |s::l,hs=>by rw [cZs] at hs;rw [mSs,mSs,dE7 s hs.1,dBm l hs.2]
end
theorem dE3{R:ByteArray -> Prop}{g' h':ByteArray -> ByteArray}(hr:∀s,R s -> g' s=h' s){p:cK}(hp:gdP Q R p):mP g g' p=mP h h' p:=by
 unfold mP
 rw [List.map_congr_left λx hx=>(show mG g x=mG h x by unfold mG;rw [hq _ (hp.globals x hx)]),List.map_congr_left λx hx=>(show mM g x=mM h x by unfold mM;rw [hq _ (hp.mutexes x hx)]),
  List.map_congr_left λx hx=>(show mF g g' x=mF h h' x by
   obtain ⟨h1,h2,h3⟩:=hp.funcs x hx
   unfold mF;rw [hq _ h1,dBm hq _ h3,List.map_congr_left λy hy=>(show mQ g' y=mQ h' y by unfold mQ;rw [hr _ (h2 y hy)])])]
end
def sw(a b s:ByteArray):ByteArray:=if s=a then b else if s=b then a else s
theorem dEi{a b:ByteArray}(ha:bQ a=true)(hb:bQ b=true)(ha':a≠cFl)(hb':b≠cFl):Sg (sw a b):=by
 have ne:∀{s},bQ s=true -> s≠aK:=λh e=>by rw [e] at h;exact absurd h V
 have big:∀{s:ByteArray},bQ s=true -> s.size <= 4611686018427387904:=λh=>Nat.le_trans (dV h) V
 refine ⟨λ {s t} h=>?_,λs=>?_,?_,?_,λs hs=>?_⟩
 ·unfold sw at h
  by_cases h1:s=a<;>by_cases h2:t=a<;>by_cases h3:s=b<;>by_cases h4:t=b<;>simp_all
 ·unfold sw
  split
  ·rename_i e;rw [hb,e,ha]
  split
  ·rename_i e;rw [ha,e,hb]
  rfl
 ·unfold sw;rw [if_neg (ne ha).symm,if_neg (ne hb).symm]
 ·unfold sw;rw [if_neg (Ne.symm ha'),if_neg (Ne.symm hb')]
 unfold sw
 split
 ·exact big hb
 split
 ·exact big ha
 exact hs
theorem dE6{a b s:ByteArray}(h:s≠b):rn a b s=sw a b s:=by unfold rn sw;by_cases e:s=a;rw [if_pos e,if_pos e];rw [if_neg e,if_neg e,if_neg h]
theorem dE4{a b s:ByteArray}(h:s≠a /\ s≠b):id s=sw a b s:=by unfold sw;rw [if_neg h.1,if_neg h.2];rfl
section
variable {Q:ByteArray -> Prop}(he:Q aK)
include he
omit he in
theorem eT.gd{vars:List ByteArray}(hv:∀x,x∈vars -> Q x){d:Nat}{e:aH}(h:eT vars d e):gdE Q e:=by
 induction h with
 |name hx=>rw [gdE,cZ0];exact ⟨λ_=>hv _ hx,trivial⟩
 |num h0 h1=>rw [gdE,cZ0];exact ⟨λh=>absurd h V,trivial⟩
 |un ho he ih=>rw [gdE,cZ0,cZ0];exact ⟨λh=>J,ih,trivial⟩
 |bin h0 h1 ha hb iha ihb=>rw [gdE,cZ0,cZ0,cZ0];exact ⟨λh=>J,iha,ihb,trivial⟩
theorem dB2:gdE Q .zero:=by unfold aH.zero;rw [gdE,cZ0];exact ⟨λ_=>he,trivial⟩
theorem dB4:gdR Q .zero:=⟨he,GF⟩
variable {ms:List cL}{fs:List Sig}{ps:List aS}(hm:∀m,m∈ms -> Q m.name)(hp:∀x,x∈ps -> Q x.name)(hf:∀g,g∈fs -> Q g.1)(hn:∀i,i<24 -> Q (cZk i))
include hm hp
omit he in
theorem uA.gd{vars:List ByteArray}(hv:∀x,x∈vars -> Q x){r:cY}(h:uA ms ps vars r):gdR Q r:=by
 cases h with
 |arr h1 h2 h3=>exact ⟨hm _ h1,by show cZ0 Q [_];rw [cZ0,cZ0];exact ⟨h3.gd hv,trivial⟩⟩
 |scalar h1 h2=>exact ⟨hm _ h1,GF⟩
 |param h1 h2=>exact ⟨hp _ h1,GF⟩
theorem nB.gd{vars:List ByteArray}(hv:∀x,x∈vars -> Q x){l:List aS}{al:List eN}(h:nB ms ps vars l al):∀x,x∈al -> gdA Q x:=by
 induction h with
 |nil=>intro x hx;cases hx
 |mutex h1 hr h ih=>
  intro x hx
  rcases mem_cons.1 hx with rfl|hx
  ·exact ⟨hr.gd hm hp hv,dB2 he⟩
  ·exact ih x hx
 |expr h1 hr h ih=>
  intro x hx
  rcases mem_cons.1 hx with rfl|hx
  ·exact ⟨dB4 he,hr.gd hv⟩
  exact ih x hx
include hf hn
theorem dJ.gd{vars:List ByteArray}{deep left left':Nat}{l:List aJ}(h:dJ ms fs ps vars deep left l left'):left <= 24 -> (∀x,x∈vars -> Q x) -> cZs Q l:=by
 have zE:=dB2 he
 have zR:=dB4 he
 have no:∀x,x∈([]:List eN) -> gdA Q x:=λx hx=>by cases hx
 have nl:cZs Q []:=by rw [cZs];trivial
 induction h with
 |nil=>intro _ _;exact nl
 |lock hr h ih=>intro hl hv;rw [cZs,gdS];have:=h.le;exact ⟨⟨he,zE,hr.gd hm hp hv,no,nl,nl⟩,ih J hv⟩
 |unlock hr h ih=>intro hl hv;rw [cZs,gdS];exact ⟨⟨he,zE,hr.gd hm hp hv,no,nl,nl⟩,ih J hv⟩
 |@var vars deep left left' e rest hx h ih=>
  intro hl hv
  rw [cZs,gdS]
  refine ⟨⟨hn _ J,hx.gd hv,zR,no,nl,nl⟩,ih J λx hm=>?_⟩
  rcases mem_append.1 hm with hm|hm
  ·exact hv x hm
  ·rw [List.mem_singleton.1 hm];exact hn _ J
 |assign hx hxe h ih=>intro hl hv;rw [cZs,gdS];exact ⟨⟨hv _ hx,hxe.gd hv,zR,no,nl,nl⟩,ih J hv⟩
 |call hk hg ha h ih=>intro hl hv;rw [cZs,gdS];exact ⟨⟨hf _ hg,zE,zR,ha.gd he hm hp hv,nl,nl⟩,ih J hv⟩
 |cond hx ht hel h iht ihe ih=>intro hl hv;rw [cZs,gdS];have:=ht.le;have:=hel.le;exact ⟨⟨he,hx.gd hv,zR,no,iht J hv,ihe J hv⟩,ih J hv⟩
 |loop hx ht h iht ih=>intro hl hv;rw [cZs,gdS];have:=ht.le;exact ⟨⟨he,hx.gd hv,zR,no,iht J hv,nl⟩,ih J hv⟩
 |ret h ih=>intro hl hv;rw [cZs,gdS];exact ⟨⟨he,zE,zR,no,nl,nl⟩,ih J hv⟩
 |pair hr hmid h ihm ih=>
  intro hl hv
  have:=hmid.le
  rw [cZs,gdS]
  refine ⟨⟨he,zE,hr.gd hm hp hv,no,nl,nl⟩,dB5 (ihm J hv) ?_⟩
  rw [cZs,gdS]
  exact ⟨⟨he,zE,hr.gd hm hp hv,no,nl,nl⟩,ih J hv⟩
end
def dDq:List ByteArray:=(List.range 2).map cEb++(List.range 4).map cEa++(List.range 3).map (λi=>dA9 (i+1))
theorem dCz:dDq.all (λa=>bQ a && decide (a≠cFl) && decide (a≠zzz) && (List.range 3).all (λi=>decide (cB7 i≠a)))=true:=B6
theorem dDh:((List.range 2).map cEb++(List.range 4).map cEa++(List.range 4).map dA9++(List.range 3).map cB7++(List.range 24).map cZk++[aK]).all (λa=>decide (a≠zzz))=true:=B6
theorem dBx:bQ zzz=true:=B6
theorem dB7:zzz≠cFl:=V
section
variable {p:cK}(hp:sY p)
include hp
theorem dCj:(∀k (h:k<p.globals.length),p.globals[k].name=cEb k) /\ (∀k (h:k<p.mutexes.length),p.mutexes[k].name=cEa k) /\ ∀k (h:k<p.funcs.length),p.funcs[k].name=dA9 k:=by
 refine ⟨λk h=>(hp.globals.2 k h).1,λk h=>(hp.mutexes.2.2 k h).1,λk h=>?_⟩
 have h1:=hp.funcs.2.2 k h
 unfold dA9
 by_cases h0:k=0
 ·rw [if_pos h0];exact (h1.1 h0).1
 rw [if_neg h0];exact h1.2.1 J
theorem dD5{a:ByteArray}(h:a∈cZ1 p):a∈dDq:=by
 obtain ⟨h1,h2,h3⟩:=dCj hp
 have g1:=hp.globals.1;have g2:=hp.mutexes.2.1;have g3:=hp.funcs.2.1
 unfold cZ1 at h
 unfold dDq
 rcases mem_append.1 h with h|h
 ·refine List.mem_append_left _ ?_
  rcases mem_append.1 h with h|h
  ·obtain ⟨x,hx,rfl⟩:=List.mem_map.1 h
   obtain ⟨k,hk,rfl⟩:=List.getElem_of_mem hx
   exact List.mem_append_left _ (List.mem_map.2 ⟨k,List.mem_range.2 J,(h1 k hk).symm⟩)
  obtain ⟨x,hx,rfl⟩:=List.mem_map.1 h
  obtain ⟨k,hk,rfl⟩:=List.getElem_of_mem hx
  exact List.mem_append_right _ (List.mem_map.2 ⟨k,List.mem_range.2 J,(h2 k hk).symm⟩)
 obtain ⟨x,hx,rfl⟩:=List.mem_map.1 h
 obtain ⟨k,hk,rfl⟩:=List.getElem_of_mem hx
 rw [List.length_drop] at hk
 refine List.mem_append_right _ (List.mem_map.2 ⟨k,List.mem_range.2 J,?_⟩)
 rw [List.getElem_drop]
 have h4:=h3 (1+k) J
 rw [h4];congr 1;omega
theorem dBl{a:ByteArray}(h:a∈cZ1 p):bQ a=true /\ a≠cFl /\ a≠zzz /\ ∀i,i<3 -> cB7 i≠a:=by
 have h1:=List.all_eq_true.1 dCz a (dD5 hp h)
 simp only [Bool.and_eq_true,decide_eq_true_eq] at h1
 exact ⟨h1.1.1.1,h1.1.1.2,h1.1.2,λi hi=>of_decide_eq_true (List.all_eq_true.1 h1.2 i (List.mem_range.2 hi))⟩
theorem dCg{a:ByteArray}(h:a∈cZ1 p):gdP (λs=>s≠zzz) (λs=>s≠a /\ s≠zzz) p:=by
 obtain ⟨h1,h2,h3⟩:=dCj hp
 have g1:=hp.globals.1;have g2:=hp.mutexes.2.1;have g3:=hp.funcs.2.1
 have all:=λx=>List.all_eq_true.1 dDh x
 have qG:∀k,k<2 -> cEb k≠zzz:=λk hk=>of_decide_eq_true (all _ (by simp only [mem_append];exact .inl (.inl (.inl (.inl (.inl (List.mem_map.2 ⟨k,List.mem_range.2 hk,rfl⟩)))))))
 have qM:∀k,k<4 -> cEa k≠zzz:=λk hk=>of_decide_eq_true (all _ (by simp only [mem_append];exact .inl (.inl (.inl (.inl (.inr (List.mem_map.2 ⟨k,List.mem_range.2 hk,rfl⟩)))))))
 have qF:∀k,k<4 -> dA9 k≠zzz:=λk hk=>of_decide_eq_true (all _ (by simp only [mem_append];exact .inl (.inl (.inl (.inr (List.mem_map.2 ⟨k,List.mem_range.2 hk,rfl⟩))))))
 have qP:∀k,k<3 -> cB7 k≠zzz:=λk hk=>of_decide_eq_true (all _ (by simp only [mem_append];exact .inl (.inl (.inr (List.mem_map.2 ⟨k,List.mem_range.2 hk,rfl⟩)))))
 have qV:∀k,k<24 -> cZk k≠zzz:=λk hk=>of_decide_eq_true (all _ (by simp only [mem_append];exact .inl (.inr (List.mem_map.2 ⟨k,List.mem_range.2 hk,rfl⟩))))
 have qE:aK≠zzz:=V
 have gl:∀x,x∈p.globals -> x.name≠zzz:=λx hx=>by obtain ⟨k,hk,rfl⟩:=List.getElem_of_mem hx;rw [h1 k hk];exact qG k J
 have mu:∀x,x∈p.mutexes -> x.name≠zzz:=λx hx=>by obtain ⟨k,hk,rfl⟩:=List.getElem_of_mem hx;rw [h2 k hk];exact qM k J
 have fu:∀x,x∈p.funcs -> x.name≠zzz:=λx hx=>by obtain ⟨k,hk,rfl⟩:=List.getElem_of_mem hx;rw [h3 k hk];exact qF k J
 have pa:∀f,f∈p.funcs -> ∀y,y∈f.params -> ∃i,i<3 /\ y.name=cB7 i:=λf hf y hy=>by
  obtain ⟨k,hk,rfl⟩:=List.getElem_of_mem hf
  obtain ⟨j,hj,rfl⟩:=List.getElem_of_mem hy
  have h5:=(hp.funcs.2.2 k hk).2.2
  exact ⟨p.funcs[k].params.length-j,by have:=h5.1;omega,h5.2 j hj⟩
 have bodies:∀(left:Nat)(l:List bS),kZ p.mutexes (p.funcs.map bS.sig) p.globals left l -> left <= 24 -> (∀f,f∈l -> f∈p.funcs) -> ∀f,f∈l -> cZs (λs=>s≠zzz) f.body:=by
  intro left l hb
  induction hb with
  |nil=>intro _ _ f hf;cases hf
  |@cons left left' f l hbk hbl ih=>
   intro hl hin g hg
   rcases mem_cons.1 hg with rfl|hg
   ·have hpar:∀x,x∈g.params -> x.name≠zzz:=λx hx=>by
     obtain ⟨i,hi,e⟩:=pa g (hin g List.mem_cons_self) x hx
     rw [e];exact qP i hi
    refine hbk.gd qE mu hpar (λs hs=>?_) qV hl λx hx=>?_
    ·obtain ⟨f',hf',rfl⟩:=List.mem_map.1 hs;exact fu f' hf'
    unfold uS at hx
    rcases mem_append.1 hx with hx|hx
    ·obtain ⟨y,hy,rfl⟩:=List.mem_map.1 hx;exact gl y hy
    obtain ⟨y,hy,rfl⟩:=List.mem_map.1 hx;exact hpar y (List.mem_filter.1 hy).1
   ·exact ih (by have:=hbk.le;omega) (λf hf=>hin f (List.mem_cons_of_mem _ hf)) g hg
 refine ⟨gl,mu,λf hf=>⟨fu f hf,λy hy=>?_,bodies 24 p.funcs hp.bodies (Nat.le_refl _) (λf hf=>hf) f hf⟩⟩
 obtain ⟨i,hi,e⟩:=pa f hf y hy
 rw [e];exact ⟨(dBl hp h).2.2.2 i hi,qP i hi⟩
end
theorem dCf{p:cK}{a:ByteArray}(h:gdP (λs=>s≠zzz) (λs=>s≠a /\ s≠zzz) p):mP (rn a zzz) id p=mP (sw a zzz) (sw a zzz) p:=dE3 (λ_ hs=>dE6 hs) (λ_ hs=>dE4 hs) h
section
variable (g h:ByteArray -> ByteArray)
mutual
theorem dBg:∀e:aH,(mE g e).nodes=e.nodes
 |.mk op num name args=>by rw [mE,aH.nodes,aH.nodes,dAt args]
theorem dAt:∀l:List aH,cZ (mEs g l)=cZ l
 |[]=>by rw [mEs]
 |e::l=>by rw [mEs,cZ,cZ,dBg e,dAt l]
end
theorem dEj(r:cY):(mR g r).wt=r.wt:=by unfold cY.wt mR;dsimp only;rw [←cZv,dAt]
theorem dEd:∀l:List eN,wtA (l.map (mA g))=wtA l
 |[]=>rfl
 |a::l=>by rw [List.map_cons,wtA,wtA,dEd l];unfold eN.wt mA;dsimp only;rw [dEj,dBg]
mutual
theorem dE0:∀s:aJ,(mS g s).wt=s.wt
 |.mk k n e r a t f=>by rw [mS,aJ.wt,aJ.wt,dBg,dEj,dEd,dBw t,dBw f]
theorem dBw:∀l:List aJ,wtS (mSs g l)=wtS l
 |[]=>by rw [mSs]
 |s::l=>by rw [mSs,wtS,wtS,dE0 s,dBw l]
end
theorem dC3(p:cK):(mP g h p).wt=p.wt:=by
 have e:∀f:bS,(mF g h f).wt=f.wt:=λf=>by unfold bS.wt mF;dsimp only;rw [List.length_map,dBw]
 unfold cK.wt mP
 dsimp only
 rw [List.length_map,List.length_map,List.map_map,show bS.wt ∘ mF g h=bS.wt from funext e]
end
end
section
open Go.RowKit
def bS3(s:aJ):Nat:=1+s.expr.nodes+s.ref.wt+wtA s.args
theorem bTm(s:aJ):s.wt=bS3 s+wtS s.thn+wtS s.els:=by rw [gD];unfold bS3;omega
structure QOk (s q:aJ):Prop where
 sane:q.sane
 base:bS3 q <= 22*bS3 s
 thn:wtS q.thn <= wtS s.thn
 els:wtS q.els <= wtS s.els
 gd:gdS Nz s -> gdS Nz q
theorem QOk.self{s:aJ}(h:s.sane):QOk s s:=⟨h,J,Nat.le_refl _,Nat.le_refl _,id⟩
theorem bUr(s:aJ)(how x:Int)(hs:s.sane)(hw:s.wt <= 9000000)(σ:Sto):aL prog 71 [.agg (dG s),Ci how,Ci x] [] σ λt s'=>(∃q:aJ,t=.agg (dG q) /\ QOk s q) /\ s'=σ:=by
 obtain ⟨k,nm,⟨eo,en,em,ea⟩,⟨rn,ri⟩,ar,th,el⟩:=s
 obtain ⟨bx,rw⟩:=σ
 have h:=bUb k nm eo en em ea rn ri ar th el how x hs (by rw [gD] at hw;simp only [aJ.args] at hw;omega) bx rw
 intro vs w hm hT hl hr
 refine (h vs w hm hT hl hr).mono ?_
 rintro en w' ⟨r,v,s',h1,⟨⟨q,rfl,q1,q2,q3,q4⟩,rfl⟩,h4⟩
 refine ⟨_,v,_,h1,⟨⟨q,Y,q1,?_,?_,?_,q4⟩,Y⟩,h4⟩
 ·unfold bS3;simp only [aJ.expr,aJ.ref,aJ.args,cY.wt,aH.nodes] at q3⊢;omega
 ·rcases q2 with ⟨e1,e2⟩|⟨e1,e2⟩
  ·rw [e1];exact Nat.le_refl _
  rw [e1,wtS];omega
 rcases q2 with ⟨e1,e2⟩|⟨e1,e2⟩
 ·rw [e2];exact Nat.le_refl _
 rw [e2,wtS];omega
structure bU1 (l:List aJ) (n:Int) (l':List aJ) (n':Int):Prop where
 sane:gC l'
 wt:wtS l' <= 22*wtS l
 lo:n-22*(wtS l:Int) <= n'
 hi:n' <= n
 gd:cZs Nz l -> cZs Nz l'
def bSr(q:aJ)(t:List aJ):aJ:=.mk q.kind q.name q.expr q.ref q.args t q.els
def bSx(q:aJ)(t:List aJ):aJ:=.mk q.kind q.name q.expr q.ref q.args q.thn t
theorem bTw(a b:List aJ):wtS (a++b)=wtS a+wtS b:=by
 induction a with
 |nil=>rw [List.nil_append,wtS];omega
 |cons x a ih=>rw [List.cons_append,wtS,wtS,ih];omega
theorem bUi(l:List aJ)(k:Nat)(h:k<l.length):wtS (l.take (k+1))=wtS (l.take k)+l[k].wt:=by
 rw [List.take_succ_eq_append_getElem h,bTw,wtS,wtS];omega
theorem bUs(l:List aJ)(k:Nat):wtS (l.take k) <= wtS l:=by
 have h:=bTw (l.take k) (l.drop k)
 rw [List.take_append_drop] at h;omega
theorem bT7{a b:List aJ}(ha:gC a)(hb:gC b):gC (a++b):=by
 induction a with
 |nil=>exact hb
 |cons x a ih=>rw [List.cons_append,gC];rw [gC] at ha;exact ⟨ha.1,ih ha.2⟩
theorem bUc{q:aJ}{t1 t2:List aJ}(h:q.sane)(h1:gC t1)(h2:gC t2):(bSx (bSr q t1) t2).sane:=by
 obtain ⟨a,b,c,d,-,-⟩:=yW h
 unfold bSx bSr;rw [aJ.sane];exact ⟨a,b,c,d,h1,h2⟩
theorem dFq{q:aJ}{t1 t2:List aJ}(h:gdS Nz q)(h1:cZs Nz q.thn -> cZs Nz t1)(h2:cZs Nz q.els -> cZs Nz t2):gdS Nz (bSx (bSr q t1) t2):=by
 cases q
 unfold bSx bSr
 rw [gdS] at h⊢
 exact ⟨h.1,h.2.1,h.2.2.1,h.2.2.2.1,h1 h.2.2.2.2.1,h2 h.2.2.2.2.2⟩
section
variable {pr r:List aJ}{q:aJ}{k:Nat}
theorem bS5(hk:pr.length=k):(pr++q::r).flatMap encS=pr.flatMap encS++(dG q++r.flatMap encS) /\ (pr.flatMap encS).length=k*11:=by
 refine ⟨by rw [List.flatMap_append,List.flatMap_cons,cJ],?_⟩
 rw [aFz encS 11 cZo,hk]
theorem bU0(hk:pr.length=k):pk true 11 ((pr++q::r).flatMap encS) (0+k*11)=some (.agg (dG q)):=by
 obtain ⟨h1,h2⟩:=bS5 (q:=q) (r:=r) hk
 unfold pk
 rw [if_pos rfl,h1,Nat.zero_add,List.drop_left' h2,List.take_left' Fs,if_pos (by rw [length_append,length_append,h2];show _ <= _+(11+_);omega)]
theorem bT9(hk:pr.length=k)(i:Nat)(x:AC)(hx:(dG q)[i]?=some x):pk false 1 ((pr++q::r).flatMap encS) (0+k*11+i)=some (.c x):=by
 obtain ⟨h1,h2⟩:=bS5 (q:=q) (r:=r) hk
 have hi:i<(dG q).length:=(List.getElem?_eq_some_iff.1 hx).1
 unfold pk
 rw [if_neg V,h1,Nat.zero_add,List.getElem?_append_right J,h2,Nat.add_sub_cancel_left,List.getElem?_append_left hi,hx];rfl
theorem bUx(hk:pr.length=k)(q':aJ):splice ((pr++q::r).flatMap encS) (0+k*11) (dG q')=(pr++q'::r).flatMap encS:=by
 rw [Nat.zero_add,←cJ,bSu encS 11 cZo _ k DR]
 congr 1
 subst hk;simp
theorem bTx(hk:pr.length=k)(i:Nat)(x:AC)(q':aJ)(hi:i<11)(hx:(dG q).set i x=dG q'):splice ((pr++q::r).flatMap encS) (0+k*11+i) [x]=(pr++q'::r).flatMap encS:=by
 obtain ⟨h1,h2⟩:=bS5 (q:=q) (r:=r) hk
 obtain ⟨h3,h4⟩:=bS5 (q:=q') (r:=r) hk
 have h11:(dG q).length=11:=Y
 rw [h1,h3,←hx]
 unfold splice
 rw [Nat.zero_add,←h2,List.take_append,take_of_length_le J,Nat.add_sub_cancel_left,List.take_append_of_le_length J]
 simp only [append_assoc]
 rw [List.drop_append,List.drop_of_length_le DR,List.nil_append,show (pr.flatMap encS).length+i+[x].length-(pr.flatMap encS).length=i+1 by simp;omega,List.drop_append_of_le_length J,List.set_eq_take_append_cons_drop,if_pos J]
 simp
theorem bTk(hk:pr.length=k)(i z:Nat)(h:i+z <= 11):0+k*11+i+z <= ((pr++q::r).flatMap encS).length:=by
 rw [aFz encS 11 cZo,length_append,length_cons,hk,Nat.add_mul,Nat.add_mul];omega
end
theorem bT6(N:Nat)(l:List aJ)(n how x:Int)(hN:N+1 <= 9000000)(hl:wtS l <= N+1)(hl2:l.length <= 9000000)(hs:gC l)(hn1:-1000000000000000+22*(wtS l:Int) <= n)(hn2:n <= 1000000000000000)(ih:0<l.length -> ∀(l:List aJ)(n:Int),wtS l <= N -> gC l -> -1000000000000000+22*(wtS l:Int) <= n -> n <= 1000000000000000 -> ∀s:Sto,aL prog 36 [.c (Sq encS l),Ci n,Ci how,Ci x] [] s λt s'=>(∃l' n',t=.tup [.c (Sq encS l'),Ci n'] /\ bU1 l n l' n') /\ s'=s)(bx:List Box)(rw:List bA):aL prog 36 [.c (Sq encS l),Ci n,Ci how,Ci x] [] ⟨bx,rw⟩ λt s'=>(∃l' n',t=.tup [.c (Sq encS l'),Ci n'] /\ bU1 l n l' n') /\ s'=⟨bx,rw⟩:=by
 refine acX 69 func36 ?_
 refine go 8 ?_
 refine wo Y (aTr underlying65 sizeOf120 λg1=>?_)
 refine go 1 ?_
 refine wo Y (jU [] Tryz.t120 192 Y Y V Y Y underlying65 B6 Y Y Y Y V (aFz encS 11 cZo l) B1 J (Nat.zero_add l.length) FP Gc (List.nil_append _) λw2=>?_)
 refine go 10 ?_
 refine fM (λg:Nat×List aJ×Int×Value=>(⟨69,aY g.2.2.2,⟨bx,⟨g.2.2.2,120,11,l.length,(g.2.1++l.drop g.1).flatMap encS⟩::rw⟩,[(11,nI g.1),(10,Cv g.2.2.2),(1,Ci g.2.2.1),(0,.c (Sq encS l)),(2,Ci how),(3,Ci x)]⟩:AS)) (λg=>g.1 <= l.length /\ g.2.1.length=g.1 /\ gC g.2.1 /\ wtS g.2.1 <= 22*wtS (l.take g.1) /\ n-22*(wtS (l.take g.1):Int) <= g.2.2.1 /\ g.2.2.1 <= n /\ (cZs Nz l -> cZs Nz g.2.1)) (λg=>l.length-g.1) (0,[],n,w2) (cQf (λb hb=>List.mem_append_left _ hb)) ⟨J,Y,trivial,by simp [wtS],by simp [wtS],Int.le_refl _,λ_=>trivial⟩ ?_
 rintro ⟨k,pr,m,v⟩ ⟨hk,hpl,hps,hpw,hm1,hm2,hpg⟩
 dsimp only at hk hpl hps hpw hm1 hm2 hpg
 try dsimp only
 refine go 5 ?_
 refine wyz Y (kV [] Y Y Y runUnderlying65) ?_
 by_cases h1:((k:Nat):Int)<((l.length:Nat):Int)
 ·refine wcp true Y (jZ h1) (go 10 ?_)
  have hkl:k<l.length:=J
  refine aF1 [] J λgr cr hgr=>?_
  subst hgr
  rw [List.drop_eq_getElem_cons hkl]
  have hlk:=oS _ hs _ (getElem_mem hkl)
  have hwt:=uF l k hkl
  have hwt2:=bTm l[k]
  have hwm:=bUi l k hkl
  have hwm2:=bUs l (k+1)
  have hb0:1 <= bS3 l[k]:=by unfold bS3;omega
  refine go 1 ?_
  by_cases h3:m=0
  ·refine wcp true Y (eR h3) (go 8 ?_)
   refine wyz Y (dH (z:=11) k Y Y Y Y hkl runUnderlying65 sizeOf120) ?_
   refine wyz Y (rM [] isAgg120 sizeOf120 (bU0 hpl)) (go 2 ?_)
   refine wc0 Y call71 Y (bUr l[k] how x hlk J _) ?_
   rintro _ _ ⟨⟨q,rfl,hQ⟩,rfl⟩
   refine wyz Y (dH (z:=11) k Y Y Y Y hkl runUnderlying65 sizeOf120) ?_
   refine wo Y (aO0 (r:=(pr++q::l.drop (k+1)).flatMap encS) [] Y Y Y Y Y sizeOf120 Y (bTk hpl 0 11 V) (bUx hpl q) Cq FW ?_)
   refine go 5 ?_
   refine wyz Y (qC) (go 9 ?_)
   refine wyz Y (dH (z:=11) k Y Y Y Y hkl runUnderlying65 sizeOf120) ?_
   refine wyz Y (id <|uX 9 (0+k*11+9) runUnderlying120 sizeOf65) ?_
   refine wyz Y (rM [] isAgg65 sizeOf65 (bT9 hpl 9 _ Y)) (go 3 ?_)
   refine wc0 Y call36 Y (ih J (aJ.thn q) (m-1) FX (yW hQ.sane).2.2.2.2.1 FX FX _) ?_
   rintro _ _ ⟨⟨t1,m1,rfl,hE1⟩,rfl⟩
   refine go 3 ?_
   refine wyz Y (dH (z:=11) k Y Y Y Y hkl runUnderlying65 sizeOf120) ?_
   refine wyz Y (id <|uX 9 (0+k*11+9) runUnderlying120 sizeOf65) ?_
   refine wo Y (aO0 (r:=(pr++(bSr q t1)::l.drop (k+1)).flatMap encS) [] Y Y Y Y Y sizeOf65 Y (bTk hpl 9 1 V) (bTx hpl 9 _ (bSr q t1) V Y) Cq FW ?_)
   refine go 8 ?_
   refine wyz Y (dH (z:=11) k Y Y Y Y hkl runUnderlying65 sizeOf120) ?_
   refine wyz Y (id <|uX 10 (0+k*11+10) runUnderlying120 sizeOf65) ?_
   refine wyz Y (rM [] isAgg65 sizeOf65 (bT9 hpl 10 _ Y)) (go 3 ?_)
   refine wc0 Y call36 Y (ih J (aJ.els (bSr q t1)) m1 (by have:=hQ.thn;have:=hQ.els;have:=hE1.lo;have:=hE1.hi;show wtS q.els <= N;omega) (yW hQ.sane).2.2.2.2.2 (by have:=hQ.thn;have:=hQ.els;have:=hE1.lo;have:=hE1.hi;show -1000000000000000+22*(wtS q.els:Int) <= _;omega) Gq _) ?_
   rintro _ _ ⟨⟨t2,m2,rfl,hE2⟩,rfl⟩
   refine go 3 ?_
   refine wyz Y (dH (z:=11) k Y Y Y Y hkl runUnderlying65 sizeOf120) ?_
   refine wyz Y (id <|uX 10 (0+k*11+10) runUnderlying120 sizeOf65) ?_
   refine wo Y (aO0 (r:=(pr++(bSx (bSr q t1) t2)::l.drop (k+1)).flatMap encS) [] Y Y Y Y Y sizeOf65 Y (bTk hpl 10 1 V) (bTx hpl 10 _ (bSx (bSr q t1) t2) V Y) Cq FW ?_)
   refine go 6 ?_
   refine wad Y (go 2 ?_)
   have hQw:=bTm (bSx (bSr q t1) t2)
   have hwk:=bUi l k hkl
   have hbl:=bTm l[k]
   rw [show pr++(bSx (bSr q t1) t2)::l.drop (k+1)=(pr++[(bSx (bSr q t1) t2)])++l.drop (k+1) by simp]
   have hb9:bS3 (bSx (bSr q t1) t2)=bS3 q:=Y
   have ht9:wtS (aJ.thn (bSx (bSr q t1) t2))=wtS t1:=Y
   have he9:wtS (aJ.els (bSx (bSr q t1) t2))=wtS t2:=Y
   have he8:wtS (aJ.els (bSr q t1))=wtS (aJ.els q):=Y
   have e1:=hE1.wt
   have e2:=hE2.wt
   have e3:=hQ.base
   have e4:=hQ.thn
   have e5:=hQ.els
   have e6:=hE1.lo
   have e7:=hE2.lo
   have e8:=hE1.hi
   have e9:=hE2.hi
   refine ⟨(k+1,pr++[(bSx (bSr q t1) t2)],m2,(.slice (some ⟨gr,0,none⟩) l.length cr)),⟨E7,by simp [hpl],bT7 hps ⟨bUc hQ.sane hE1.sane hE2.sane,trivial⟩,by dsimp only;rw [bTw,wtS,wtS];omega,E7,E7,λhl=>dB5 (hpg hl) ⟨dFq (hQ.gd (dFl hl hkl)) hE1.gd hE2.gd,trivial⟩⟩,Gf,(sA Y)⟩
  refine wcp false Y (eD h3) (go 7 ?_)
  have hQ:QOk l[k] l[k]:=QOk.self hlk
  refine go 1 ?_
  refine wyz Y (qC) (go 9 ?_)
  refine wyz Y (dH (z:=11) k Y Y Y Y hkl runUnderlying65 sizeOf120) ?_
  refine wyz Y (id <|uX 9 (0+k*11+9) runUnderlying120 sizeOf65) ?_
  refine wyz Y (rM [] isAgg65 sizeOf65 (bT9 hpl 9 _ Y)) (go 3 ?_)
  refine wc0 Y call36 Y (ih J (aJ.thn l[k]) (m-1) FX (yW hQ.sane).2.2.2.2.1 FX FX _) ?_
  rintro _ _ ⟨⟨t1,m1,rfl,hE1⟩,rfl⟩
  refine go 3 ?_
  refine wyz Y (dH (z:=11) k Y Y Y Y hkl runUnderlying65 sizeOf120) ?_
  refine wyz Y (id <|uX 9 (0+k*11+9) runUnderlying120 sizeOf65) ?_
  refine wo Y (aO0 (r:=(pr++(bSr l[k] t1)::l.drop (k+1)).flatMap encS) [] Y Y Y Y Y sizeOf65 Y (bTk hpl 9 1 V) (bTx hpl 9 _ (bSr l[k] t1) V Y) Cq FW ?_)
  refine go 8 ?_
  refine wyz Y (dH (z:=11) k Y Y Y Y hkl runUnderlying65 sizeOf120) ?_
  refine wyz Y (id <|uX 10 (0+k*11+10) runUnderlying120 sizeOf65) ?_
  refine wyz Y (rM [] isAgg65 sizeOf65 (bT9 hpl 10 _ Y)) (go 3 ?_)
  refine wc0 Y call36 Y (ih J (aJ.els (bSr l[k] t1)) m1 (by have:=hQ.thn;have:=hQ.els;have:=hE1.lo;have:=hE1.hi;show wtS l[k].els <= N;omega) (yW hQ.sane).2.2.2.2.2 (by have:=hQ.thn;have:=hQ.els;have:=hE1.lo;have:=hE1.hi;show -1000000000000000+22*(wtS l[k].els:Int) <= _;omega) Gq _) ?_
  rintro _ _ ⟨⟨t2,m2,rfl,hE2⟩,rfl⟩
  refine go 3 ?_
  refine wyz Y (dH (z:=11) k Y Y Y Y hkl runUnderlying65 sizeOf120) ?_
  refine wyz Y (id <|uX 10 (0+k*11+10) runUnderlying120 sizeOf65) ?_
  refine wo Y (aO0 (r:=(pr++(bSx (bSr l[k] t1) t2)::l.drop (k+1)).flatMap encS) [] Y Y Y Y Y sizeOf65 Y (bTk hpl 10 1 V) (bTx hpl 10 _ (bSx (bSr l[k] t1) t2) V Y) Cq FW ?_)
  refine go 6 ?_
  refine wad Y (go 2 ?_)
  have hQw:=bTm (bSx (bSr l[k] t1) t2)
  have hwk:=bUi l k hkl
  have hbl:=bTm l[k]
  rw [show pr++(bSx (bSr l[k] t1) t2)::l.drop (k+1)=(pr++[(bSx (bSr l[k] t1) t2)])++l.drop (k+1) by simp]
  have hb9:bS3 (bSx (bSr l[k] t1) t2)=bS3 l[k]:=Y
  have ht9:wtS (aJ.thn (bSx (bSr l[k] t1) t2))=wtS t1:=Y
  have he9:wtS (aJ.els (bSx (bSr l[k] t1) t2))=wtS t2:=Y
  have he8:wtS (aJ.els (bSr l[k] t1))=wtS (aJ.els l[k]):=Y
  have e1:=hE1.wt
  have e2:=hE2.wt
  have e3:=hQ.base
  have e4:=hQ.thn
  have e5:=hQ.els
  have e6:=hE1.lo
  have e7:=hE2.lo
  have e8:=hE1.hi
  have e9:=hE2.hi
  refine ⟨(k+1,pr++[(bSx (bSr l[k] t1) t2)],m2,(.slice (some ⟨gr,0,none⟩) l.length cr)),⟨E7,by simp [hpl],bT7 hps ⟨bUc hQ.sane hE1.sane hE2.sane,trivial⟩,by dsimp only;rw [bTw,wtS,wtS];omega,E7,E7,λhl=>dB5 (hpg hl) ⟨dFq (hQ.gd (dFl hl hkl)) hE1.gd hE2.gd,trivial⟩⟩,Gf,(sA Y)⟩
 refine wcp false Y (jQ h1) (go 10 ?_)
 obtain rfl:k=l.length:=J
 rw [List.drop_length,List.append_nil]
 refine aE1 10 Y ?_
 refine eA 10 Y (t:=.c (Sq encS pr)) (by rw [←hpl];exact λ_ _ h=>h) ?_
 rw [List.take_length] at hpw hm1
 refine go 7 ?_
 exact ⟨.inr Y,_,⟨bx,rw⟩,uM Y (aF Y) (aF Y),aA (.refl _) (.refl _),⟨pr,m,Y,hps,hpw,hm1,hm2,hpg⟩,Y⟩
end
end Go.Proofs.YtjgeihmhppadaaaGreatDoor
