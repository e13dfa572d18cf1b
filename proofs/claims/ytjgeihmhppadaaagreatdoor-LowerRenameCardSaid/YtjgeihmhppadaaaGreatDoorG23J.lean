import Derived.Test.YtjgeihmhppadaaaGreatDoorG22J
import Derived.Test.YtjgeihmhppadaaaGreatDoorG21J
import Derived.Test.YtjgeihmhppadaaaGreatDoorCards
import Derived.Test.YtjgeihmhppadaaaGreatDoorTie
import Derived.Deep.DeepHandedRow
import Derived.LaidMore
set_option linter.all false
set_option synthInstance.maxHeartbeats 1000000
set_option synthInstance.maxSize 1000000
set_option maxHeartbeats 6400000
set_option maxRecDepth 100000
namespace Go.Proofs.YtjgeihmhppadaaaGreatDoor
open Go.Proofs.Tryz
open List (length_append length_cons length_nil mem_append mem_cons not_mem_nil append_assoc getElem_mem take_of_length_le)
section
open Go.RowKit
theorem cCb(A B:List Box)(C gv gf Nb Pb:Nat)(X:Box)(p:cK)(vis:Vis)(fs:Fns)(n at_:Int)(rw:List bA)(m:Nat)(nm:ByteArray)(sr:Int)(hg:bZp vis nm=0)(hm:m <= 90000000):aL prog 69 [Cs nm,Ci sr,pP Pb,pP Nb] [Nb,gv] ⟨X::⟨Nb,3,[nC m]⟩::⟨Pb,94,[.val (.pointer (some ⟨C,0,none⟩))]⟩::A++⟨C,98,[Sq dB p.globals,Sq bT p.mutexes,Sq fV p.funcs,Vm gv,Vm gf,Vi n,Vi at_]⟩::B,cR3 gf 3 fV fs::cR3 gv 0 evI vis::rw⟩ λt s'=>t=Cb true /\ s'=⟨X::⟨Nb,3,[Vi ((m+1:Nat):Int)]⟩::⟨Pb,94,[.val (.pointer (some ⟨C,0,none⟩))]⟩::A++⟨C,98,[Sq dB p.globals,Sq bT p.mutexes,Sq fV p.funcs,Vm gv,Vm gf,Vi n,Vi at_]⟩::B,cR3 gf 3 fV fs::cR3 gv 0 evI (bZq vis nm sr)::rw⟩:=by
 refine acX 22 func69 ?_
 refine go 13 ?_
 refine wyz Y (cAm vis Y Y Y G0 underlying95 underlying9 zeroValue157 Bu) ?_
 refine wcp false Y (xG hg) (go 13 ?_)
 refine wo Y (cAt vis [_] Y Y Y Y Y underlying95 underlying9 G0 He ?_)
 refine go 5 ?_
 refine wad Y (go 9 ?_)
 exact ⟨.inr Y,_,⟨X::⟨Nb,3,[Vi ((m+1:Nat):Int)]⟩::⟨Pb,94,[.val (.pointer (some ⟨C,0,none⟩))]⟩::A++⟨C,98,[Sq dB p.globals,Sq bT p.mutexes,Sq fV p.funcs,Vm gv,Vm gf,Vi n,Vi at_]⟩::B,cR3 gf 3 fV fs::cR3 gv 0 evI (bZq vis nm sr)::rw⟩,aR Y (aF Y),aA (.refl _) (.refl _),Y,Y⟩
theorem cCa(A B:List Box)(C gv gf Nb Pb:Nat)(X:Box)(p:cK)(vis:Vis)(fs:Fns)(n at_:Int)(rw:List bA)(m:Nat)(nm:ByteArray)(sr:Int)(hg:¬bZp vis nm=0):aL prog 69 [Cs nm,Ci sr,pP Pb,pP Nb] [Nb,gv] ⟨X::⟨Nb,3,[nC m]⟩::⟨Pb,94,[.val (.pointer (some ⟨C,0,none⟩))]⟩::A++⟨C,98,[Sq dB p.globals,Sq bT p.mutexes,Sq fV p.funcs,Vm gv,Vm gf,Vi n,Vi at_]⟩::B,cR3 gf 3 fV fs::cR3 gv 0 evI vis::rw⟩ λt s'=>t=Cb false /\ s'=⟨X::⟨Nb,3,[nC m]⟩::⟨Pb,94,[.val (.pointer (some ⟨C,0,none⟩))]⟩::A++⟨C,98,[Sq dB p.globals,Sq bT p.mutexes,Sq fV p.funcs,Vm gv,Vm gf,Vi n,Vi at_]⟩::B,cR3 gf 3 fV fs::cR3 gv 0 evI vis::rw⟩:=by
 refine acX 22 func69 ?_
 refine go 13 ?_
 refine wyz Y (cAm vis Y Y Y G0 underlying95 underlying9 zeroValue157 Bu) ?_
 refine wcp true Y (xL hg) (go 10 ?_)
 exact ⟨.inr Y,_,⟨X::⟨Nb,3,[nC m]⟩::⟨Pb,94,[.val (.pointer (some ⟨C,0,none⟩))]⟩::A++⟨C,98,[Sq dB p.globals,Sq bT p.mutexes,Sq fV p.funcs,Vm gv,Vm gf,Vi n,Vi at_]⟩::B,cR3 gf 3 fV fs::cR3 gv 0 evI vis::rw⟩,aR Y (aF Y),aA (.refl _) (.refl _),Y,Y⟩
theorem cAc{S:List (ByteArray×Int)}{v v0:Vis}{j n0:Nat}{q:ByteArray×Int}(hq:S.drop j=q::S.drop (j+1))(h:bZz (S.drop j) v j=bZz S v0 n0):
  (bZp v q.1=0 -> bZz (S.drop (j+1)) (bZq v q.1 q.2) (j+1)=bZz S v0 n0) /\ (¬bZp v q.1=0 -> bZz S v0 n0=(some j,v)):=by
 rw [hq,bZz] at h
 refine ⟨λh0=>?_,λh0=>?_⟩
 ·rw [if_pos h0] at h;exact h
 rw [if_neg h0] at h;exact h.symm
theorem cAu(p:cK):(bZs p).length=p.globals.length+(p.mutexes.length+p.funcs.length):=by unfold bZs;simp
theorem cC5(p:cK)(k:Nat)(h:k<p.globals.length):(bZs p).drop k=(p.globals[k].name,1)::(bZs p).drop (k+1):=by
 rw [List.drop_eq_getElem_cons Eq];congr 1
 unfold bZs;rw [List.getElem_append_left Er];simp
theorem cBp(p:cK)(k:Nat)(h:k<p.mutexes.length):(bZs p).drop (p.globals.length+k)=(p.mutexes[k].name,cAr p.mutexes[k])::(bZs p).drop (p.globals.length+k+1):=by
 rw [List.drop_eq_getElem_cons Eq];congr 1
 unfold bZs;rw [List.getElem_append_right G0,List.getElem_append_left DR];simp
theorem cC3(p:cK)(k:Nat)(h:k<p.funcs.length):(bZs p).drop (p.globals.length+p.mutexes.length+k)=(p.funcs[k].name,5)::(bZs p).drop (p.globals.length+p.mutexes.length+k+1):=by
 rw [List.drop_eq_getElem_cons Eq];congr 1
 unfold bZs;rw [List.getElem_append_right DR,List.getElem_append_right DR];simp;congr 2;omega
theorem cB1(l:List bS)(k:Nat)(h:k<l.length):bZq (bZ7 (l.take k)) l[k].name l[k]=bZ7 (l.take (k+1)):=by
 unfold bZ7;rw [List.take_succ_eq_append_getElem h,List.foldl_append];rfl
theorem bZt.fun{v:Vis}{fs:Fns}(h:bZt v fs)(s:ByteArray)(f:bS):bZt (bZq v s 5) (bZq fs s f):=
 ⟨h.1.put s 5,λq hq=>by
  rw [cBo]
  rw [cAl] at hq
  split at hq
  ·rename_i e;rw [if_pos e];exact ⟨f,rfl⟩
  rename_i e;rw [if_neg e];exact h.2 q hq⟩
theorem bZt.nil:bZt [] []:=⟨by unfold KN;simp,λs h=>by unfold bZp bZu at h;cases h⟩
def cEj:Option Nat -> Int
 |none=>-1
 |some i=>(i:Int)
theorem cD4(A B:List Box)(C gv gf:Nat)(p:cK)(rw:List bA)(hg:p.globals.length <= 9000000)(hm:p.mutexes.length <= 9000000)(hf:p.funcs.length <= 9000000):aL prog 32 [pP C] [C,gv,gf] ⟨A++⟨C,98,[Sq dB p.globals,Sq bT p.mutexes,Sq fV p.funcs,Vm gv,Vm gf,Vi 0,Vi 0]⟩::B,cR3 gf 3 fV ([]:Fns)::cR3 gv 0 evI ([]:Vis)::rw⟩ λt s'=>∃(r:Option Nat) (v:Vis) (fsx:Fns),bZz (bZs p) [] 0=(r,v) /\ t=Ci (cEj r) /\ s'=⟨A++⟨C,98,[Sq dB p.globals,Sq bT p.mutexes,Sq fV p.funcs,Vm gv,Vm gf,Vi 0,Vi 0]⟩::B,cR3 gf 3 fV fsx::cR3 gv 0 evI v::rw⟩ /\ (r=none -> fsx=bZ7 p.funcs /\ bZt v fsx):=by
 refine acX 75 func32 ?_
 refine go 14 λPb Nb=>?_
 refine wyz Y (xR Y (vs:=[.pointer (some ⟨Pb,0,none⟩),.pointer (some ⟨Nb,0,none⟩)]) Y) (go 16 ?_)
 refine fM (λg:Nat×Vis=>(⟨75,[Nb,Pb,C,gv,gf],⟨⟨Nb,3,[nC g.1]⟩::⟨Pb,94,[.val (.pointer (some ⟨C,0,none⟩))]⟩::A++⟨C,98,[Sq dB p.globals,Sq bT p.mutexes,Sq fV p.funcs,Vm gv,Vm gf,Vi 0,Vi 0]⟩::B,cR3 gf 3 fV []::cR3 gv 0 evI g.2::rw⟩,[(19,nI g.1),(1,pP Pb),(2,Ci 0),(3,pP Nb),(4,Cv (.func (.func 69) #[] #[.pointer (some ⟨Pb,0,none⟩),.pointer (some ⟨Nb,0,none⟩)])),(17,.c (Sq dB p.globals)),(18,nI p.globals.length)]⟩:AS)) (λg=>g.1 <= p.globals.length /\ bZz ((bZs p).drop (g.1)) g.2 (g.1)=bZz (bZs p) [] 0 /\ bZt g.2 []) (λg=>p.globals.length-g.1) (0,[]) (cQf AP) ⟨Nat.zero_le _,Y,bZt.nil⟩ ?_
 rintro ⟨k,vis1⟩ ⟨hk,hst1,hfk1⟩
 dsimp only at hk hst1 hfk1
 try dsimp only
 refine go 2 ?_
 by_cases h1:((k:Nat):Int)<((p.globals.length:Nat):Int)
 ·refine wcp true Y (jZ h1) (go 10 ?_)
  refine wyz Y (bH dB dB p.globals nS (λ_=>Y) k Y Y Y Y J V runUnderlying23 sizeOf63) (go 10 λb1=>?_)
  by_cases hgk:bZp vis1 p.globals[k].name=0
  ·refine wo Y (rL [Nb,gv] Y Y Y V call69 (us:=[Cs (p.globals[k].name),Ci 1]) Y (cCb A B C gv gf Nb Pb _ p vis1 _ _ _ rw (k) p.globals[k].name 1 hgk J) Ba AQ AX ?_)
   rintro _ _ ⟨rfl,rfl⟩
   refine ⟨[],(λ_ b hb=>nomatch hb),?_⟩
   refine go 8 ?_
   refine wad Y (go 2 ?_)
   have hnx:=(cAc (cC5 p k J) hst1).1 hgk
   exact ⟨(k+1,bZq vis1 p.globals[k].name 1),⟨by show k+1 <= p.globals.length;omega,hnx,hfk1.put _ V⟩,GW,cQf (h1:=(.cons _ (.refl _))) (h:=aG Y (gQ J) (sA Y)) AP⟩
  refine wo Y (rL [Nb,gv] Y Y Y V call69 (us:=[Cs (p.globals[k].name),Ci 1]) Y (cCa A B C gv gf Nb Pb _ p vis1 _ _ _ rw (k) p.globals[k].name 1 hgk) Ba AQ AX ?_)
  rintro _ _ ⟨rfl,rfl⟩
  refine ⟨[],(λ_ b hb=>nomatch hb),?_⟩
  refine go 16 ?_
  have hbd:=(cAc (cC5 p k J) hst1).2 hgk
  exact ⟨.inr Y,_,⟨A++⟨C,98,[Sq dB p.globals,Sq bT p.mutexes,Sq fV p.funcs,Vm gv,Vm gf,Vi 0,Vi 0]⟩::B,cR3 gf 3 fV []::cR3 gv 0 evI vis1::rw⟩,aR Y (aF Y),aA (.cons _ (.cons _ (.cons _ (.refl _)))) (.refl _),some (k),vis1,[],hbd,Y,Y,λh=>DV⟩
 refine wcp false Y (jQ h1) (go 11 ?_)
 obtain rfl:k=p.globals.length:=J
 replace hst1:bZz ((bZs p).drop (p.globals.length+0)) vis1 (p.globals.length+0)=bZz (bZs p) [] 0:=hst1
 refine go 11 ?_
 refine fM (λg:Nat×Vis=>(⟨75,[Nb,Pb,C,gv,gf],⟨⟨Nb,3,[Vi ((p.globals.length+g.1:Nat):Int)]⟩::⟨Pb,94,[.val (.pointer (some ⟨C,0,none⟩))]⟩::A++⟨C,98,[Sq dB p.globals,Sq bT p.mutexes,Sq fV p.funcs,Vm gv,Vm gf,Vi 0,Vi 0]⟩::B,cR3 gf 3 fV []::cR3 gv 0 evI g.2::rw⟩,[(36,nI g.1),(1,pP Pb),(2,Ci 0),(3,pP Nb),(4,Cv (.func (.func 69) #[] #[.pointer (some ⟨Pb,0,none⟩),.pointer (some ⟨Nb,0,none⟩)])),(34,.c (Sq bT p.mutexes)),(35,nI p.mutexes.length)]⟩:AS)) (λg=>g.1 <= p.mutexes.length /\ bZz ((bZs p).drop (p.globals.length+g.1)) g.2 (p.globals.length+g.1)=bZz (bZs p) [] 0 /\ bZt g.2 []) (λg=>p.mutexes.length-g.1) (0,vis1) (cQf AP) ⟨Nat.zero_le _,hst1,hfk1⟩ ?_
 rintro ⟨k,vis2⟩ ⟨hk,hst2,hfk2⟩
 dsimp only at hk hst2 hfk2
 try dsimp only
 refine go 2 ?_
 by_cases h6:((k:Nat):Int)<((p.mutexes.length:Nat):Int)
 ·refine wcp true Y (jZ h6) (go 10 ?_)
  refine wyz Y (bH bT bT p.mutexes mZ (λ_=>Y) k Y Y Y Y J V runUnderlying24 sizeOf60) (go 15 λb2=>?_)
  by_cases h8:(0:Int)<p.mutexes[k].size
  focus
   refine wcp true Y (mH h8) (go 13 ?_)
   have hsm:cAr p.mutexes[k]=3:=Dw
   by_cases hgk:bZp vis2 p.mutexes[k].name=0
   ·refine wo Y (rL [Nb,gv] Y Y Y V call69 (us:=[Cs (p.mutexes[k].name),Ci 3]) Y (cCb A B C gv gf Nb Pb _ p vis2 _ _ _ rw (p.globals.length+k) p.mutexes[k].name 3 hgk J) Ba AQ AX ?_)
    rintro _ _ ⟨rfl,rfl⟩
    refine ⟨[],(λ_ b hb=>nomatch hb),?_⟩
    refine go 8 ?_
    refine wad Y (go 2 ?_)
    have hnx:=(cAc (cBp p k J) hst2).1 hgk
    rw [show cAr p.mutexes[k]=3 from hsm] at hnx
    exact ⟨(k+1,bZq vis2 p.mutexes[k].name 3),⟨GH,hnx,hfk2.put _ V⟩,Eg,cQf (h1:=(.cons _ (.refl _))) (h:=aG Y (gQ J) (sA Y)) AP⟩
   refine wo Y (rL [Nb,gv] Y Y Y V call69 (us:=[Cs (p.mutexes[k].name),Ci 3]) Y (cCa A B C gv gf Nb Pb _ p vis2 _ _ _ rw (p.globals.length+k) p.mutexes[k].name 3 hgk) Ba AQ AX ?_)
  rotate_left
  refine wcp false Y (mI h8) (go 11 ?_)
  have hsm:cAr p.mutexes[k]=2:=Dw
  by_cases hgk:bZp vis2 p.mutexes[k].name=0
  ·refine wo Y (rL [Nb,gv] Y Y Y V call69 (us:=[Cs (p.mutexes[k].name),Ci 2]) Y (cCb A B C gv gf Nb Pb _ p vis2 _ _ _ rw (p.globals.length+k) p.mutexes[k].name 2 hgk J) Ba AQ AX ?_)
   rintro _ _ ⟨rfl,rfl⟩
   refine ⟨[],(λ_ b hb=>nomatch hb),?_⟩
   refine go 8 ?_
   refine wad Y (go 2 ?_)
   have hnx:=(cAc (cBp p k J) hst2).1 hgk
   rw [show cAr p.mutexes[k]=2 from hsm] at hnx
   exact ⟨(k+1,bZq vis2 p.mutexes[k].name 2),⟨GH,hnx,hfk2.put _ V⟩,Eg,cQf (h1:=(.cons _ (.refl _))) (h:=aG Y (gQ J) (sA Y)) AP⟩
  refine wo Y (rL [Nb,gv] Y Y Y V call69 (us:=[Cs (p.mutexes[k].name),Ci 2]) Y (cCa A B C gv gf Nb Pb _ p vis2 _ _ _ rw (p.globals.length+k) p.mutexes[k].name 2 hgk) Ba AQ AX ?_)
  all_goals
   rintro _ _ ⟨rfl,rfl⟩
   refine ⟨[],(λ_ b hb=>nomatch hb),?_⟩
   refine go 16 ?_
   have hbd:=(cAc (cBp p k J) hst2).2 hgk
   exact ⟨.inr Y,_,⟨A++⟨C,98,[Sq dB p.globals,Sq bT p.mutexes,Sq fV p.funcs,Vm gv,Vm gf,Vi 0,Vi 0]⟩::B,cR3 gf 3 fV []::cR3 gv 0 evI vis2::rw⟩,aR Y (aF Y),aA (.cons _ (.cons _ (.cons _ (.refl _)))) (.refl _),some (p.globals.length+k),vis2,[],hbd,Y,Y,λh=>DV⟩
 refine wcp false Y (jQ h6) (go 11 ?_)
 obtain rfl:k=p.mutexes.length:=J
 replace hst2:bZz ((bZs p).drop (p.globals.length+p.mutexes.length+0)) vis2 (p.globals.length+p.mutexes.length+0)=bZz (bZs p) [] 0:=hst2
 refine go 11 ?_
 refine fM (λg:Nat×Vis=>(⟨75,[Nb,Pb,C,gv,gf],⟨⟨Nb,3,[Vi ((p.globals.length+p.mutexes.length+g.1:Nat):Int)]⟩::⟨Pb,94,[.val (.pointer (some ⟨C,0,none⟩))]⟩::A++⟨C,98,[Sq dB p.globals,Sq bT p.mutexes,Sq fV p.funcs,Vm gv,Vm gf,Vi 0,Vi 0]⟩::B,cR3 gf 3 fV (bZ7 (p.funcs.take g.1))::cR3 gv 0 evI g.2::rw⟩,[(57,nI g.1),(1,pP Pb),(2,Ci 0),(3,pP Nb),(4,Cv (.func (.func 69) #[] #[.pointer (some ⟨Pb,0,none⟩),.pointer (some ⟨Nb,0,none⟩)])),(55,.c (Sq fV p.funcs)),(56,nI p.funcs.length)]⟩:AS)) (λg=>g.1 <= p.funcs.length /\ bZz ((bZs p).drop (p.globals.length+p.mutexes.length+g.1)) g.2 (p.globals.length+p.mutexes.length+g.1)=bZz (bZs p) [] 0 /\ bZt g.2 (bZ7 (p.funcs.take g.1))) (λg=>p.funcs.length-g.1) (0,vis2) (cQf AP) ⟨Nat.zero_le _,hst2,hfk2⟩ ?_
 rintro ⟨k,vis3⟩ ⟨hk,hst3,hfk3⟩
 dsimp only at hk hst3 hfk3
 try dsimp only
 refine go 2 ?_
 by_cases h16:((k:Nat):Int)<((p.funcs.length:Nat):Int)
 ·refine wcp true Y (jZ h16) (go 10 ?_)
  refine wyz Y (bH fV fV p.funcs vC (λ_=>Y) k Y Y Y Y J V runUnderlying25 sizeOf67) (go 11 λb3=>?_)
  by_cases hgk:bZp vis3 p.funcs[k].name=0
  ·refine wo Y (rL [Nb,gv] Y Y Y V call69 (us:=[Cs (p.funcs[k].name),Ci 5]) Y (cCb A B C gv gf Nb Pb _ p vis3 _ _ _ rw (p.globals.length+p.mutexes.length+k) p.funcs[k].name 5 hgk J) Ba AQ AX ?_)
   rintro _ _ ⟨rfl,rfl⟩
   refine ⟨[],(λ_ b hb=>nomatch hb),?_⟩
   refine go 6 ?_
   refine dx [b3,Nb,Pb,C] (tz [(0,true),(1,true),(2,true),(3,true),(4,true),(5,true),(6,true)] 1 (go 8 ?_))
   refine ox 7 Y Y (cCw (m:=3) (ev:=fV) (b:=p.funcs[k]) (bZ7 (p.funcs.take k)) [] Y Y Y Y Y V (λ_=>Y) underlying96 underlying9 G0 Dc ?_)
   refine ax (go 3 ?_)
   refine wad Y (go 2 ?_)
   have hnx:=(cAc (cC3 p k J) hst3).1 hgk
   rw [cB1 p.funcs k J]
   exact ⟨(k+1,bZq vis3 p.funcs[k].name 5),⟨by show k+1 <= p.funcs.length;omega,hnx,by have h9:=hfk3.fun p.funcs[k].name p.funcs[k];rw [cB1 p.funcs k J] at h9;exact h9⟩,Et,cQf (h1:=(.cons _ (.refl _))) (h:=aG Y (gQ J) (sA Y)) AP⟩
  refine wo Y (rL [Nb,gv] Y Y Y V call69 (us:=[Cs (p.funcs[k].name),Ci 5]) Y (cCa A B C gv gf Nb Pb _ p vis3 _ _ _ rw (p.globals.length+p.mutexes.length+k) p.funcs[k].name 5 hgk) Ba AQ AX ?_)
  rintro _ _ ⟨rfl,rfl⟩
  refine ⟨[],(λ_ b hb=>nomatch hb),?_⟩
  refine go 17 ?_
  have hbd:=(cAc (cC3 p k J) hst3).2 hgk
  exact ⟨.inr Y,_,⟨A++⟨C,98,[Sq dB p.globals,Sq bT p.mutexes,Sq fV p.funcs,Vm gv,Vm gf,Vi 0,Vi 0]⟩::B,cR3 gf 3 fV (bZ7 (p.funcs.take k))::cR3 gv 0 evI vis3::rw⟩,aR Y (aF Y),aA (.cons _ (.cons _ (.cons _ (.refl _)))) (.refl _),some (p.globals.length+p.mutexes.length+k),vis3,(bZ7 (p.funcs.take k)),hbd,Y,Y,λh=>DV⟩
 refine wcp false Y (jQ h16) (go 10 ?_)
 obtain rfl:k=p.funcs.length:=J
 rw [List.drop_eq_nil_of_le Eq,bZz] at hst3
 rw [take_of_length_le (Nat.le_refl _)] at hfk3
 refine go 5 ?_
 rw [take_of_length_le (Nat.le_refl _)]
 exact ⟨.inr Y,_,⟨A++⟨C,98,[Sq dB p.globals,Sq bT p.mutexes,Sq fV p.funcs,Vm gv,Vm gf,Vi 0,Vi 0]⟩::B,cR3 gf 3 fV (bZ7 p.funcs)::cR3 gv 0 evI vis3::rw⟩,aR Y (aF Y),aA (.cons _ (.cons _ (.refl _))) (.refl _),none,vis3,bZ7 p.funcs,hst3.symm,Y,Y,λ_=>⟨Y,hfk3⟩⟩
instance cEl:eM prog 77 [.val (.map none),.val (.map none),.val (.map none),.val (.map none),.val (.map none),Vi 0,Nl,Nl,Vi 0]:=⟨_,zeroValue77,rfl⟩
instance cEk:Plc prog 77 [(0,1),(1,1),(2,1),(3,1),(4,1),(5,1),(6,1),(7,1),(8,1)] [.val (.map none),.val (.map none),.val (.map none),.val (.map none),.val (.map none),Vi 0,Nl,Nl,Vi 0]:=⟨_,Tryz.t77,_,underlying77,B6,rfl,B6,rfl⟩
instance cOm:eM prog 98 [Nl,Nl,Nl,.val (.map none),.val (.map none),Vi 0,Vi 0]:=⟨_,zeroValue98,rfl⟩
instance cOh:Plc prog 98 [(0,3),(3,1),(4,1),(5,1),(6,1)] [Nl,Nl,Nl,.val (.map none),.val (.map none),Vi 0,Vi 0]:=⟨_,Tryz.t98,_,underlying98,B6,rfl,B6,rfl⟩
theorem cDc{p:cK}(h:jI p=false):cAb p=(-1,-1,10):=by unfold cAb;rw [if_pos h]
theorem cDf{p:cK}{i:Nat}{v:Vis}(h:jI p=true)(hd:bZz (bZs p) [] 0=(some i,v)):cAb p=(-1,(i:Int),5):=by unfold cAb;rw [if_neg B5,hd]
theorem cCj{p:cK}{v:Vis}(h:jI p=true)(hd:bZz (bZs p) [] 0=(none,v))(hm:cA9 p=false):cAb p=(-1,-1,9):=by unfold cAb;rw [if_neg B5,hd];dsimp only;rw [if_neg (by rw [hm];decide)]
theorem cCk{p:cK}{v:Vis}(h:jI p=true)(hd:bZz (bZs p) [] 0=(none,v))(hm:cA9 p=true):cAb p=cAg (bZ7 p.funcs) p.funcs 0 v:=by unfold cAb;rw [if_neg B5,hd];dsimp only;rw [if_pos hm]
theorem cDg{p:cK}(h:bZu (bZ7 p.funcs) cCg=none):cA9 p=false:=by unfold cA9;rw [h]
theorem cB6{p:cK}{f:bS}(h:bZu (bZ7 p.funcs) cCg=some f):cA9 p=decide (f.params.length=0):=by unfold cA9;rw [h]
theorem cBq{fs:Fns}{l:List bS}{v v0:Vis}{k:Nat}(hk:k<l.length)(h:cAg fs (l.drop k) k v=cAg fs l 0 v0):
  ((cAe fs l[k] v).1=0 -> cAg fs (l.drop (k+1)) (k+1) (cAe fs l[k] v).2.vis=cAg fs l 0 v0) /\ ((cAe fs l[k] v).1≠0 -> cAg fs l 0 v0=((k:Int),(cAe fs l[k] v).2.at_,(cAe fs l[k] v).1)):=by
 rw [List.drop_eq_getElem_cons hk,cAg] at h
 refine ⟨λh0=>?_,λh0=>?_⟩
 ·rw [if_pos h0] at h;exact h
 rw [if_neg h0] at h;exact h.symm
theorem cCm(p:cK)(hs:p.sane)(hw:p.wt <= 9000000)(s:Sto):aL prog 14 [bK5 (.agg (jV p))] [] s λt s'=>∃(f s0:Int) (e:Nat),cAb p=(f,s0,e) /\ t=.tup [Ci f,Ci s0,nI e] /\ s'=s:=by
 obtain ⟨bx,rw⟩:=s
 have hwq:=hw
 unfold cK.wt at hwq
 have hfl:=aDr bS.wt (λf=>G6) p.funcs
 refine acX 61 func14 ?_
 refine go 12 λb1=>?_
 rcases Bool.eq_false_or_eq_true (jI p) with h1|h1
 ·refine bK8 0 Y call31 Y (bOk p hs hw _) h1 (go 9 ?_)
  refine wo Y (cB3 0 (evI) Y Y V λgv=>?_)
  refine wo Y (cB3 3 (fV) Y Y V λgf=>?_)
  refine go 9 λC=>?_
  refine wo Y (bD [C,gv,gf] Y Y V call32 Y (cD4 [] _ C gv gf p rw J J J) (by intro b hb;simp at hb⊢;rcases hb with rfl|rfl|rfl<;>simp) (by intro b hb;simp at hb;rcases hb with rfl|rfl|rfl<;>simp [Sto.bl,bZw]) (by intro _ b hb;simp at hb⊢;rcases hb with rfl|rfl|rfl<;>simp) ?_)
  rintro _ _ ⟨r,v0,fsx,hd,rfl,rfl,hok⟩
  rcases r with _|ix
  ·obtain ⟨rfl,hf0⟩:=hok rfl
   clear hok
   show eQ prog _ _ ⟨_,_,_,(_,Ci (-1))::_⟩ _
   refine go 6 ?_
   refine wcp false Y Y (go 12 ?_)
   rcases hmn:bZu (bZ7 p.funcs) cCg with _|fm
   ·refine wyz Y (cDh (m:=3) (ev:=fV) (bZ7 p.funcs) Y Y Y G0 V (λ_=>Y) underlying96 underlying9 zeroValue67 Bu hmn (.agg [Vs ⟨#[]⟩,Nl,Nl]) Y) (go 30 λb4=>?_)
    exact ⟨.inr Y,_,⟨bx,rw⟩,pC Y (aF Y) (aF Y) (aF Y),aA (.cons _ (.cons _ (.cons _ (.refl _)))) (.cons _ (.cons _ (.refl _))),-1,-1,9,cCj h1 hd (cDg hmn),Y,Y⟩
   refine wyz Y (cDa (m:=3) (ev:=fV) (bZ7 p.funcs) Y Y Y G0 V (λ_=>Y) underlying96 underlying9 zeroValue67 Bu hmn) (go 16 λb5=>?_)
   by_cases h5:(0:Int)<((fm.params.length:Nat):Int)
   ·refine wcp true Y (mH h5) (go 13 ?_)
    exact ⟨.inr Y,_,⟨bx,rw⟩,pC Y (aF Y) (aF Y) (aF Y),aA (.cons _ (.cons _ (.cons _ (.refl _)))) (.cons _ (.cons _ (.refl _))),-1,-1,9,cCj h1 hd (by rw [cB6 hmn];exact decide_eq_false J),Y,Y⟩
   refine wcp false Y (mI h5) (go 16 ?_)
   have hmz:cA9 p=true:=by rw [cB6 hmn];exact decide_eq_true J
   refine fM (λg:Nat×Vis×Int×Int=>(⟨61,[b5,C,gf,gv,b1],⟨⟨b5,67,fV fm⟩::⟨C,98,[Sq dB p.globals,Sq bT p.mutexes,Sq fV p.funcs,Vm gv,Vm gf,Vi g.2.2.1,Vi g.2.2.2]⟩::⟨b1,27,jV p⟩::bx,cR3 gf 3 fV (bZ7 p.funcs)::cR3 gv 0 evI g.2.1::rw⟩,[(44,nI g.1),(1,pP b1),(2,Ci 0),(3,Ci 0),(4,Ci 0),(5,pP C),(7,pP b5),(42,.c (Sq fV p.funcs)),(43,nI p.funcs.length)]⟩:AS)) (λg=>g.1 <= p.funcs.length /\ cAg (bZ7 p.funcs) (p.funcs.drop g.1) g.1 g.2.1=cAg (bZ7 p.funcs) p.funcs 0 v0 /\ bZt g.2.1 (bZ7 p.funcs)) (λg=>p.funcs.length-g.1) (0,v0,0,0) (cQf AP) ⟨Nat.zero_le _,Y,hf0⟩ ?_
   rintro ⟨k,vis,n0,a0⟩ ⟨hk,hst,hfk⟩
   dsimp only at hk hst hfk
   try dsimp only
   refine go 2 ?_
   by_cases h8:((k:Nat):Int)<((p.funcs.length:Nat):Int)
   ·refine wcp true Y (jZ h8) (go 11 ?_)
    refine wyz Y (bH fV fV p.funcs vC (λ_=>Y) k Y Y Y Y J V runUnderlying25 sizeOf67) (go 10 λb6=>?_)
    refine wo Y (bD [C,gv] Y Y V call33 Y (cD6 [_,_] _ C gv gf p (bZ7 p.funcs) [_] rw G0 _ _ vis p.funcs[k] hfk (by have:=aDi bS.wt p.funcs k J;unfold cK.wt at hw;omega)) Ba AQ AX ?_)
    rintro _ _ ⟨e,y,hy,rfl,rfl⟩
    refine go 6 ?_
    by_cases h10:((e:Nat):Int)=0
    ·refine wcp false Y (xG h10) (go 7 ?_)
     refine wad Y (go 2 ?_)
     have hnx:=(cBq J hst).1 (by rw [hy];show e=0;omega)
     rw [hy] at hnx
     have hf1:=cDt p.funcs[k] hfk
     rw [hy] at hf1
     exact ⟨(k+1,y.vis,((y.n:Nat):Int),y.at_),⟨by show k+1 <= p.funcs.length;omega,hnx,hf1⟩,Et,cQf (h1:=(.cons _ (.refl _))) (h:=aG Y (gQ J) (sA Y)) AP⟩
    refine wcp true Y (xL h10) (go 4 ?_)
    refine dx [b6,b5,C,b1] (tz [(0,true),(1,true),(2,true),(3,true),(4,true),(5,true),(6,true),(7,true),(8,true)] 0 (go 10 ?_))
    refine ax (go 7 ?_)
    exact ⟨.inr Y,_,⟨bx,rw⟩,pC Y (aF Y) (aF Y) (aF Y),aA (.cons _ (.cons _ (.cons _ (.cons _ (.refl _))))) (.cons _ (.cons _ (.refl _))),((k:Nat):Int),y.at_,e,(by rw [cCk h1 hd hmz,(cBq J hst).2 (by rw [hy];show e≠0;omega),hy]),Y,Y⟩
   refine wcp false Y (jQ h8) (go 17 ?_)
   exact ⟨.inr Y,_,⟨bx,rw⟩,pC Y (aF Y) (aF Y) (aF Y),aA (.cons _ (.cons _ (.cons _ (.refl _)))) (.cons _ (.cons _ (.refl _))),0,0,0,(by rw [cCk h1 hd hmz,←hst,List.drop_eq_nil_of_le J];rfl),Y,Y⟩
  show eQ prog _ _ ⟨_,_,_,(_,nI ix)::_⟩ _
  refine go 6 ?_
  refine wcp true Y (aMq J) (go 13 ?_)
  exact ⟨.inr Y,_,⟨bx,rw⟩,pC Y (aF Y) (aF Y) (aF Y),aA (.cons _ (.cons _ (.refl _))) (.cons _ (.cons _ (.refl _))),-1,((ix:Nat):Int),5,cDf h1 hd,Y,Y⟩
 refine bK8 0 Y call31 Y (bOk p hs hw _) h1 (go 13 ?_)
 exact ⟨.inr Y,_,⟨bx,rw⟩,pC Y (aF Y) (aF Y) (aF Y),aA (.cons _ (.refl _)) (.refl _),-1,-1,10,cDc h1,Y,Y⟩
section
variable {P:Program}{U T:List Nat}{o:Oper}{n d:Nat}{ts:List (Nat×AT)}{s:Sto}{K:AS -> Prop}
theorem cUy{t yt e:TypeId}{x y:Operand}{k:Nat}{cs:List AC}(ho:o.op=.binOp .eql t x y yt)(hd:o.dst=some d)(hn:d<n)(hx:evA ⟨n,T,s,ts⟩ x=some (.c (.sl k cs)))(hy:evA ⟨n,T,s,ts⟩ y=some (.c (Nl)))(ht:P.underlying t=some (.slice e))
  (h:∀b:Bool,(b=true -> cs=[]) -> K ⟨n,T,s,(d,Cb b)::ts⟩):AO P U o ⟨n,T,s,ts⟩ K:=by
 intro a w hs KK QQ hK
 have hxe:=hs.ev hx
 generalize hxv:a.eval x=xv at hxe
 cases hxe with
 |c _ _ hr=>
  cases hr with
  |sl _ _ us _ hrow hl hr hcap=>
   obtain ⟨p,cap,he,hc,hrr⟩:=hrow
   subst he
   have hb:p.isNone=true -> cs=[]:=λhp=>by
    rcases hrr with h0|⟨b,off,h1,-⟩
    ·subst h0;exact List.eq_nil_of_length_eq_zero (by rw [←hl];rfl)
    subst h1;cases hp
   have goal:KK (a.put o.dst (.bool p.isNone)) w:=by
    rw [hd]
    refine hK _ _ _ (h p.isNone hb) ((hs.step (w1:=w) T (cW.refl _ _) hs.mem (λb hb=>.inl hb)).put (v:=.bool p.isNone) hn (.c _ _ (.val _ Y))) ⟨cW.refl _ _,cW.refl _ _,λb hb=>.inl hb,λg hg=>.inl hg⟩ (cW.refl _ _)
   have hr2:=Lib.run_eql_slice_nil w t e p k cap 0 0 ht
   unfold Oper.wp
   rw [show (execOp a.eval o).run P w=.ok (.value (.bool p.isNone)) w from by simp only [execOp,ho,hxv,hs.val hy];simp [go_sem,eqGuard,hr2]]
   exact goal
end
theorem cTf{p:cK}{f s:Int}{e:Nat}(h:cFx p=(f,s,e))(he:e=0):f=0 /\ s=0:=by
 subst he
 unfold cFx at h
 split at h
 ·cases h
 split at h
 ·cases h
 split at h
 ·have g:∀(l:List bS)(k:Nat)(f s:Int),cGh p l k=(f,s,0) -> f=0 /\ s=0:=λl=>by
   induction l with
   |nil=>intro k f s h;rw [cGh] at h;cases h;exact ⟨rfl,rfl⟩
   |cons a l ih=>
    intro k f s h
    rw [cGh] at h
    split at h
    ·exact ih _ _ _ h
    rename_i h0;exact absurd (congrArg (λx=>x.2.2) h) h0
  exact g _ _ _ _ h
 ·cases h
theorem cT8{T:List Nat}{bx:List Box}{rw:List bA}{D gg gm gf:Nat}{E:TypeId}{cs:List AC}{l1 l2 l3:Vis}(hn:(⟨⟨D,E,cs⟩::bx,cR3 gf 0 evI l3::cR3 gm 0 evI l2::cR3 gg 0 evI l1::rw⟩:Sto).bl.Nodup):∀b,b∈[D,gg,gm,gf] -> b∈(⟨⟨D,E,cs⟩::bx,cR3 gf 0 evI l3::cR3 gm 0 evI l2::cR3 gg 0 evI l1::rw⟩:Sto).bl /\ (b∈(⟨bx,rw⟩:Sto).bl -> b∈T):=by
 intro b hb
 refine ⟨by simp only [mem_cons,not_mem_nil,or_false] at hb;unfold Sto.bl;simp only [List.map_cons,List.flatMap_cons,cR9,mem_append,mem_cons,not_mem_nil,or_false];grind,λh9=>absurd h9 λh9=>?_⟩
 unfold Sto.bl at hn h9
 simp only [List.map_cons,List.flatMap_cons,cR9,List.cons_append,List.nil_append] at hn
 simp only [mem_cons,not_mem_nil,or_false] at hb
 rcases mem_append.1 h9 with h9|h9
 ·rcases hb with rfl|rfl|rfl|rfl<;>simp [List.nodup_cons,List.nodup_append] at hn<;>grind
 rcases hb with rfl|rfl|rfl|rfl<;>simp [List.nodup_cons,List.nodup_append] at hn<;>grind
theorem cT6(l:List cL)(hl:l.length <= 9000000)(s:Sto):aL prog 26 [.c (Sq bT l)] [] s λt s'=>t=.c (Sq bT l) /\ s'=s:=by
 obtain ⟨bx,rw⟩:=s
 refine acX 8 func26 ?_
 refine go 9 ?_
 refine wo Y (cUy Y Y V Y Y underlying24 λbn hbn=>?_)
 rcases Bool.eq_false_or_eq_true bn with rfl|rfl
 ·obtain rfl:l=[]:=by cases l with|nil=>rfl|cons m r=>exact absurd (congrArg List.length (hbn rfl)) (by simp [mZ])
  refine go 10 ?_
  exact ⟨.inr Y,_,⟨bx,rw⟩,aR Y (aCn (Wk.c aQl) (aF Y)),aA (.refl _) (.refl _),Y,Y⟩
 refine go 7 ?_
 refine wo Y (aTr underlying24 sizeOf60 λg1=>?_)
 refine go 1 ?_
 refine wo Y (jU [] Tryz.t60 32 Y Y V Y Y underlying24 B6 Y Y Y Y V (aFz bT 3 (λ_=>Y) l) B1 J (Nat.zero_add l.length) (λ_=>cFh.h) cFh.h (List.nil_append _) λw2=>?_)
 refine aE1 7 Y ?_
 refine go 4 ?_
 exact bHe (s':=⟨bx,rw⟩) Y sb0 ⟨Y,Y⟩
theorem cUg(p:cK)(hs:p.sane)(hw:p.wt <= 9000000)(s:Sto):aL prog 9 [bK5 (.agg (jV p))] [] s λt s'=>t=.tup [.agg (cK1 (cKk p)),Ci ((cFx p).1),Ci ((cFx p).2.1),Ci (((cFx p).2.2:Nat):Int)] /\ s'=s:=by
 obtain ⟨bx,rw⟩:=s
 have hall:=cJe p
 have hwq:=hw
 unfold cK.wt at hwq
 have hfl:=aDr bS.wt (λf=>G6) p.funcs
 refine acX 70 func9 ?_
 refine go 13 λb1 b2=>?_
 refine wo Y (bMg 0 [] Y Y V call14 Y Y (cCm p hs hw _) bDl bDl (λ_=>bDl) ?_)
 rintro _ _ ⟨f0,s0,e0,hc,rfl,rfl⟩
 rw [cLp] at hc
 refine go 12 ?_
 by_cases h1:((e0:Nat):Int)=0
 ·refine wcp false Y (xG h1) (go 8 ?_)
  obtain ⟨rfl,rfl⟩:=cTf hc J
  obtain rfl:e0=0:=J
  obtain ⟨hv0,hM,hfe,hmn⟩:=cTr hc
  refine wo Y (aQk [] Y Y V call25 Y (cU0 p J J J _) bDl bDl (λ_=>bDl) ?_)
  rintro _ _ ⟨D,gg,gm,gf,rfl,rfl⟩
  refine ⟨[D,gg,gm,gf],cT8,?_⟩
  refine go 3 ?_
  refine cG2 (λg:Nat=>(⟨70,[g,D,b2,b1,gg,gm,gf],⟨⟨g,31,[Nl,Sq bT p.mutexes,Nl,Vi (((cFb (cFd p) cFl).n:Nat):Int)]⟩::⟨D,77,[Vm gg,Vm gm,Vm gf,.val (.map none),.val (.map none),Vi 0,Nl,Nl,Vi 0]⟩::⟨b2,31,[Nl,Nl,Nl,Vi 0]⟩::⟨b1,27,jV p⟩::bx,cR3 gf 0 evI (cR5 bS.name p.funcs p.funcs.length)::cR3 gm 0 evI (cR5 cL.name p.mutexes p.mutexes.length)::cR3 gg 0 evI (cR5 aI.name p.globals p.globals.length)::rw⟩,[(10,pP g),(1,pP b1),(2,pP b2),(9,pP D)]⟩:AS)) ?_ ?_
  ·refine dx [D,b2,b1,gf] (tz [(0,true),(1,true),(3,true),(4,true),(5,true),(6,true)] 5 (go 7 ?_))
   refine tx 7 Y (cAm (cR5 bS.name p.funcs p.funcs.length) Y Y Y G0 underlying74 underlying9 zeroValue3 Cf) ?_
   refine t2 2 9 Y ?_ ?_
   focus
    refine (bV Y Y V call26 Y (cT6 p.mutexes J _) ?_)
    rintro _ _ ⟨rfl,rfl⟩
    refine tx 8 Y (id <|aNs Tryz.t31 [(0,1),(1,1),(2,1),(3,1)] Y (.cons Y (.cons Y .nil)) underlying31 B6 Y B6 Y Y) (tz [(9,false)] 1 (go 2 λb4=>?_))
   rotate_left
   refine (jK Y Y V zeroValue31 Y λb4=>?_)
   refine ox 2 Y Y (bV Y Y V call26 Y (cT6 p.mutexes J _) ?_)
   rintro _ _ ⟨rfl,rfl⟩
   refine tx 8 Y (id <|aNs Tryz.t31 [(0,1),(1,1),(2,1),(3,1)] Y (.cons Y (.cons Y .nil)) underlying31 B6 Y B6 Y Y) ?_
   all_goals
    refine ox 10 Y Y (id <|cVt Y Y Y Y Y sizeOf31 Y (Nat.le_of_ble_eq_true Y) (zC Y) G0 G7 ?_)
    refine ax ?_
    rw [show bZp (cR5 bS.name p.funcs p.funcs.length) (⟨#[109,97,105,110]⟩:ByteArray)=_ from hmn]
    exact ⟨b4,cQf BP⟩
  rintro b5
  try dsimp only
  refine go 10 ?_
  refine qR 3 1 ?_
  refine bMj (α:=Value) (λ_ _=>True) (p.globals.length) 41 (λg=>aY g++([b5,D,b2,b1,gg,gm,gf])) (λk g=>⟨⟨b5,31,[.val g,Sq bT p.mutexes,Nl,Vi (((cFb (cFd p) cFl).n:Nat):Int)]⟩::⟨D,77,[Vm gg,Vm gm,Vm gf,.val (.map none),.val (.map none),Vi 0,Nl,Nl,Vi 0]⟩::⟨b2,31,[Nl,Nl,Nl,Vi 0]⟩::⟨b1,27,jV p⟩::bx,⟨g,3,1,k,((p.globals.take k).map aI.init).map λx=>Vi x⟩::cR3 gf 0 evI (cR5 bS.name p.funcs p.funcs.length)::cR3 gm 0 evI (cR5 cL.name p.mutexes p.mutexes.length)::cR3 gg 0 evI (cR5 aI.name p.globals p.globals.length)::rw⟩) (λ_=>[(1,pP b1),(2,pP b2),(9,pP D),(10,pP b5),(39,.c (Sq dB p.globals)),(40,nI p.globals.length)]) (.slice none 0 0) trivial (cQf BK) ?_
  rintro k v0 hk -
  try dsimp only
  refine go 2 ?_
  by_cases h3:((k:Nat):Int)<((p.globals.length:Nat):Int)
  ·refine wcp true Y (jZ h3) (go 9 ?_)
   have hkl:k<p.globals.length:=J
   refine go 1 ?_
   refine wyz Y (bH dB dB p.globals nS (λ_=>Y) k Y Y Y Y J V runUnderlying23 sizeOf63) (go 10 λb6=>?_)
   refine wo Y (bDk (r:=[Vi (p.globals[k].init)]) zb6 ?_)
   refine wo Y (bDm [] cLa Y Y V B1 J (N:=k+1) Y (λ_=>cFh.h) cFh.h (cJ9 aI.init p.globals k J) λw7=>?_)
   refine go 6 ?_
   refine wad Y (go 2 ?_)
   exact ⟨J,w7,trivial,cQf (h1:=(.cons _ (.refl _))) (h:=aG Y (gQ J) (sA Y)) BP⟩
  refine wcp false Y (jQ h3) (go 12 ?_)
  obtain rfl:k=p.globals.length:=J
  rw [List.take_length]
  refine go 7 ?_
  refine qR 79 5 ?_
  refine bMj (α:=Value×(Nat -> AC)) (λ_ _=>True) (p.funcs.length) 56 (λg=>aY g.1++(aY v0++[b5,D,b2,b1,gg,gm,gf])) (λk g=>⟨⟨b5,31,[.val v0,Sq bT p.mutexes,.val g.1,Vi (((cFb (cFd p) cFl).n:Nat):Int)]⟩::⟨D,77,[Vm gg,Vm gm,Vm gf,(g.2 0),(g.2 1),(g.2 2),(g.2 3),(g.2 4),(g.2 5)]⟩::⟨b2,31,[Nl,Nl,Nl,Vi 0]⟩::⟨b1,27,jV p⟩::bx,⟨g.1,79,5,k,((p.funcs.take k).map (cGe p)).flatMap cF9⟩::⟨v0,3,1,p.globals.length,((p.globals).map aI.init).map λx=>Vi x⟩::cR3 gf 0 evI (cR5 bS.name p.funcs p.funcs.length)::cR3 gm 0 evI (cR5 cL.name p.mutexes p.mutexes.length)::cR3 gg 0 evI (cR5 aI.name p.globals p.globals.length)::rw⟩) (λ_=>[(1,pP b1),(2,pP b2),(9,pP D),(10,pP b5),(54,.c (Sq fV p.funcs)),(55,nI p.funcs.length)]) (.slice none 0 0,λj=>(if j=0 then .val (.map none) else if j=1 then .val (.map none) else if j=2 then Vi 0 else if j=3 then Nl else if j=4 then Nl else Vi 0)) trivial (cQf BK) ?_
  rintro k ⟨v2,y⟩ hk -
  try dsimp only
  refine go 2 ?_
  by_cases h6:((k:Nat):Int)<((p.funcs.length:Nat):Int)
  ·refine wcp true Y (jZ h6) (go 9 ?_)
   have hkl:k<p.funcs.length:=J
   refine go 1 ?_
   refine wyz Y (bH fV fV p.funcs vC (λ_=>Y) k Y Y Y Y J V runUnderlying25 sizeOf67) (go 5 λb8=>?_)
   refine bTy 8 [b8,b5,b2,b1] [] #[true,true,true,true,true,true,true,true,false] B6 B6 B6 ?_
   refine tz [(0,true),(1,true),(2,true),(3,true)] 4 (go 5 ?_)
   have hfk:=hfe p.funcs[k] (getElem_mem hkl)
   have hfw:bS.wt p.funcs[k] <= 20000000:=by have:=aDi bS.wt p.funcs k hkl;unfold cK.wt at hw;omega
   refine ox 4 Y Y (bD [D] Y Y V call27 Y (cUn [_,_] _ D gg gm gf p (cR5 aI.name p.globals p.globals.length) (cR5 cL.name p.mutexes p.mutexes.length) (cR5 bS.name p.funcs p.funcs.length) _ _ _ _ _ _ _ p.funcs[k] hM G0 G0 G0 (cI9 p) J hfw hfk.2 hfk.1) Gg FU (by intro h b hb;simp at hb;subst hb;exact kH.2 ⟨C4,λhh=>by simp only [mem_cons,not_mem_nil,or_false] at hh;rcases hh with rfl|rfl|rfl|rfl<;>simp [Sto.bl] at h⟩) ?_)
   rintro _ _ ⟨rfl,x3,x4,x5,x6,x8,rfl⟩
   refine ox 5 Y Y (wbs Tryz.t79 [Vs ⟨#[]⟩,Vi 0,Vi 0,Vi 0,Nl] Y Y V (.cons Y .nil) underlying29 B6 Y V V B6 B6 (aV cF9 cF9 (cGe p p.funcs[k]) Y Y Y) ?_)
   refine ox 6 Y Y (bDm [] dF7 Y (aFz cF9 5 cI0 _) V B1 J (N:=k+1) Y (λhn b hb=>cZl (r:=(⟨v2,79,5,k,((p.funcs.take k).map (cGe p)).flatMap cF9⟩:bA)) hn hb) cFh.h (cHm (cGe p) cF9 p.funcs k J) λw10=>?_)
   refine tz [(7,true)] 0 (go 2 ?_)
   refine ax ?_
   refine id ?_
   refine tz [(8,false)] 0 (go 2 ?_)
   refine ax (go 3 ?_)
   refine wad Y (go 2 ?_)
   exact ⟨J,(w10,λj=>(if j=0 then x3 else if j=1 then x4 else if j=2 then x5 else if j=3 then x6 else if j=4 then .sl (cJl p p.funcs[k]).length ((cJl p p.funcs[k]).map λx=>Vi x) else x8)),trivial,cQf (h1:=(.cons _ (.refl _))) (h:=aG Y (gQ J) (sA Y)) BP⟩
  refine wcp false Y (jQ h6) (go 11 ?_)
  obtain rfl:k=p.funcs.length:=J
  rw [List.take_length]
  refine aAg (cs':=[.val v0,Sq bT p.mutexes,.sl p.funcs.length ((p.funcs.map (cGe p)).flatMap cF9),Vi (((cFb (cFd p) cFl).n:Nat):Int)]) [] 2 Y Y ?_
  show eQ prog _ _ ⟨_,_,⟨⟨b5,31,[.val v0,Sq bT p.mutexes,.sl p.funcs.length ((p.funcs.map (cGe p)).flatMap cF9),Vi (((cFb (cFd p) cFl).n:Nat):Int)]⟩::⟨D,77,[Vm gg,Vm gm,Vm gf,(y 0),(y 1),(y 2),(y 3),(y 4),(y 5)]⟩::⟨b2,31,[Nl,Nl,Nl,Vi 0]⟩::⟨b1,27,jV p⟩::bx,_⟩,_⟩ _
  refine aAg (cs':=[.sl p.globals.length ((p.globals.map aI.init).map λx=>Vi x),Sq bT p.mutexes,.sl p.funcs.length ((p.funcs.map (cGe p)).flatMap cF9),Vi (((cFb (cFd p) cFl).n:Nat):Int)]) [] 0 Y Y ?_
  show eQ prog _ _ ⟨_,_,⟨⟨b5,31,[.sl p.globals.length ((p.globals.map aI.init).map λx=>Vi x),Sq bT p.mutexes,.sl p.funcs.length ((p.funcs.map (cGe p)).flatMap cF9),Vi (((cFb (cFd p) cFl).n:Nat):Int)]⟩::⟨D,77,[Vm gg,Vm gm,Vm gf,(y 0),(y 1),(y 2),(y 3),(y 4),(y 5)]⟩::⟨b2,31,[Nl,Nl,Nl,Vi 0]⟩::⟨b1,27,jV p⟩::bx,_⟩,_⟩ _
  refine go 8 ?_
  exact ⟨.inr Y,_,⟨bx,rw⟩,cF6 Y (aO [_,_] Y Y isAgg31 sizeOf31 (bK Y Y)) (aF Y) (aF Y) (aF Y),aA (.cons _ (.cons _ (.cons _ (.cons _ (.refl _))))) (.cons _ (.cons _ (.cons _ (.refl _)))),by rw [cLm hc,hc];unfold cK1;dsimp only;first|(rw [List.length_map,List.length_map];rfl)|(unfold Sq;rw [List.length_map,List.length_map];rfl),Y⟩
 refine wcp true Y (xL h1) (go 17 ?_)
 exact ⟨.inr Y,_,⟨bx,rw⟩,cF6 Y (aCn (Wk.agg (.n (.n (.n (.r .nil))))) (aO [] Y Y isAgg31 sizeOf31 (bK Y Y))) (aF Y) (aF Y) (aF Y),aA (.cons _ (.cons _ (.refl _))) (.refl _),by rw [cG1 hc J,hc];rfl,Y⟩
def cSd(p:cK)(f:Int):List Int:=if (cFx p).2.2=0 then (if 0 <= f then (match p.funcs[f.toNat]? with|some g=>cJl p g|none=>[]) else []) else []
theorem cUu{p:cK}{f a b:Int}{e:Nat}(h:cFx p=(a,b,e))(he:e≠0):cSd p f=[]:=by unfold cSd;rw [h,if_neg he]
theorem cUq{p:cK}{f:Int}(hf:f<0):cSd p f=[]:=by unfold cSd;split;rw [if_neg J];rfl
theorem cUf{p:cK}{f:Int}(hf:(p.funcs.length:Int) <= f):cSd p f=[]:=by
 unfold cSd;split
 ·rw [if_pos J,List.getElem?_eq_none J]
 rfl
theorem cUd{p:cK}{k:Nat}(h:cFx p=(0,0,0))(hk:k<p.funcs.length):cSd p (k:Int)=cJl p p.funcs[k]:=by
 unfold cSd;rw [h,if_pos rfl,if_pos J,show ((k:Nat):Int).toNat=k by omega,List.getElem?_eq_getElem hk]
theorem cUb(p:cK)(f:Int)(hs:p.sane)(hw:p.wt <= 9000000)(s:Sto):aL prog 20 [bK5 (.agg (jV p)),Ci f] [] s λt s'=>t=.c (.sl (cSd p f).length ((cSd p f).map λx=>Vi x)) /\ s'=s:=by
 obtain ⟨bx,rw⟩:=s
 have hall:=cJe p
 have hwq:=hw
 unfold cK.wt at hwq
 have hfl:=aDr bS.wt (λf=>G6) p.funcs
 refine acX 41 func20 ?_
 refine go 10 λb1=>?_
 refine wo Y (bMg 0 [] Y Y V call14 Y Y (cCm p hs hw _) bDl bDl (λ_=>bDl) ?_)
 rintro _ _ ⟨f0,s0,e0,hc,rfl,rfl⟩
 rw [cLp] at hc
 refine go 12 ?_
 by_cases h1:((e0:Nat):Int)=0
 ·refine wcp false Y (xG h1) (go 2 ?_)
  by_cases h2:f<0
  ·refine wcp true Y (jZ h2) (go 18 ?_)
   exact ⟨.inr Y,_,⟨bx,rw⟩,aR Y (aCn (Wk.c aQl) (aF Y)),aA (.cons _ (.refl _)) (.refl _),by rw [cUq J];rfl,Y⟩
  refine wcp false Y (jQ h2) (go 6 ?_)
  by_cases h4:((p.funcs.length:Nat):Int) <= f
  ·refine wcp true Y (aMq h4) (go 11 ?_)
   exact ⟨.inr Y,_,⟨bx,rw⟩,aR Y (aCn (Wk.c aQl) (aF Y)),aA (.cons _ (.refl _)) (.refl _),by rw [cUf J];rfl,Y⟩
  refine wcp false Y (aMx h4) (go 9 ?_)
  obtain ⟨rfl,rfl⟩:=cTf hc J
  obtain rfl:e0=0:=J
  obtain ⟨hv0,hM,hfe,hmn⟩:=cTr hc
  refine wo Y (aQk [] Y Y V call25 Y (cU0 p J J J _) bDl bDl (λ_=>bDl) ?_)
  rintro _ _ ⟨D,gg,gm,gf,rfl,rfl⟩
  refine ⟨[D,gg,gm,gf],cT8,?_⟩
  refine go 5 ?_
  obtain ⟨kk,rfl⟩:∃kk:Nat,f=(kk:Int):=⟨f.toNat,J⟩
  have hkk:kk<p.funcs.length:=J
  refine go 4 ?_
  refine wyz Y (bH fV fV p.funcs vC (λ_=>Y) kk Y Y Y Y J V runUnderlying25 sizeOf67) (go 1 ?_)
  have hfk:=hfe p.funcs[kk] (getElem_mem hkk)
  have hfw:bS.wt p.funcs[kk] <= 20000000:=by have:=aDi bS.wt p.funcs kk hkk;unfold cK.wt at hw;omega
  refine wo Y (bD [D] Y Y V call27 Y (cUn [] _ D gg gm gf p (cR5 aI.name p.globals p.globals.length) (cR5 cL.name p.mutexes p.mutexes.length) (cR5 bS.name p.funcs p.funcs.length) _ _ _ _ _ _ _ p.funcs[kk] hM G0 G0 G0 (cI9 p) J hfw hfk.2 hfk.1) (bDj) (bDj (h:=by simp [Sto.bl])) (λ_=>bDj) ?_)
  rintro _ _ ⟨rfl,x3,x4,x5,x6,x8,rfl⟩
  refine go 12 ?_
  exact ⟨.inr Y,_,⟨bx,rw⟩,aR Y (aF Y),aA (.cons _ (.cons _ (.refl _))) (.cons _ (.cons _ (.cons _ (.refl _)))),by rw [cUd hc hkk],Y⟩
 refine wcp true Y (xL h1) (go 21 ?_)
 exact ⟨.inr Y,_,⟨bx,rw⟩,aR Y (aCn (Wk.c aQl) (aF Y)),aA (.cons _ (.refl _)) (.refl _),by rw [cUu hc J];rfl,Y⟩
end
section
open Go.ChangeShapes Go.WideShapes Go.ChangeAt Go.RowKit
theorem own:ownKnob prog.godebug=none:=B6
theorem laidOut:laidOutB prog=true:=B6
theorem aRc : prog.globalNamed "lockorder/token.words" = some 0 := by kernel_rfl
theorem aA1{H:Type}{enc:TypeId×Value -> H}{P:Program}{w:World}{base:Nat}{sp:Nat -> Bool}{held:Bool}{fuel:Nat}{t e:TypeId}{n:Nat}{cs:List Value}{zs:List (List UInt8)}{p:List MemPlace}
  (ht:P.underlying t=some (.array n e)) (he:P.underlying e=some .string) (hce:P.cellsOf e=1) (hct:P.cellsOf t=n)
  (h:DataW.trod enc P w base sp held fuel t cs=some (.agg (zs.map λz=>.lit (.string z)),p)):cs=zs.map λz=>Value.string (bytes z):=by
 cases fuel with
 |zero=>simp [DataW.trod] at h
 |succ fuel=>
  simp only [DataW.trod,ht,hce,hct,Nat.mul_one] at h
  split at h
  ·rename_i hl
   obtain ⟨xs,hm,hx⟩:=Option.map_eq_some_iff.1 h
   have hxs:xs.map (·.1)=zs.map λz=>(DataW.lit (.string z):DataW H):=by
    have:=congrArg Prod.fst hx
    simpa using this
   have hxl:xs.length=n:=by simpa using Lib.mapM_length hm
   have hzl:zs.length=n:=by
    have:=congrArg List.length hxs
    simp at this
    omega
   apply List.ext_getElem?
   intro i
   by_cases hi:i<n
   ·obtain ⟨b,hb,hf⟩:=Lib.mapM_at hm i i (by simp [hi])
    obtain ⟨z,hc,rfl,_⟩:=DataW.trod_string he hf
    have h1:cs[i]?=some (.string z):=by
     have:=congrArg (·[0]?) hc
     simpa [List.getElem?_take,List.getElem?_drop] using this
    have h2:(xs.map (·.1))[i]?=some (DataW.lit (.string z.data.toList):DataW H):=by simp [hb]
    rw [hxs] at h2
    simp only [List.getElem?_map,Option.map_eq_some_iff,DataW.lit.injEq,Lit.string.injEq] at h2
    obtain ⟨z',hz',he'⟩:=h2
    simp [h1,hz',bytes,he']
   rw [List.getElem?_eq_none J,List.getElem?_eq_none DR]
  cases h
def aGj:List (List UInt8):=words.map λb=>b.data.toList
theorem sV{H:Type}{enc:TypeId×Value -> H}{W W':World}(hb:Below W.heap.size W W'):
  ∀{ts:List TypeId} {vs:List Value} {ds:List (DataW H)} {ps:List MemPlace},(∀t∈ts,prog.readableRec t=true /\ t<prog.types.size) -> DataW.TrodAll enc prog W 0 (λ_=>true) true ts vs ds ps -> (∀x∈ps,x.block<W.heap.size) ->
   DataW.TrodAll enc prog W' 0 (λb=>decide (b<W.heap.size)) true ts vs ds ps
 |[],_,_,_,_,h,_=>by
  obtain ⟨rfl,rfl,rfl⟩:=trodAll_nil h
  exact trodAll_mk0
 |t::ts,_,_,_,hr,h,hlt=>by
  obtain ⟨v,vs1,d,ds1,a,b,rfl,rfl,rfl,h1,h2⟩:=trodAll_cons h
  have ht:=hr t (List.mem_cons_self ..)
  exact ⟨a,b,Below.trod laidOut ht.1 ht.2 h1 hb (λx hx=>hlt x (List.mem_append_left _ hx)),
   sV hb (λu hu=>hr u (List.mem_cons_of_mem _ hu)) h2 (λx hx=>hlt x (List.mem_append_right _ hx)),rfl⟩
theorem aMc{H:Type}{enc:TypeId×Value -> H}{F:Func}{s:ChangeSpec}{W W':World}{args:Array Value}{ds gs:List (DataW H)}{before:List MemPlace}
  (hW:DataW.Whole enc prog F.params.toList s.vars false W args.toList ds gs before) (hv:s.vars=[]) (hfn:s.fn H ds={results:=[.lit (.bool true)],args:=ds})
  (hread:∀t∈F.params.toList,prog.readableRec t=true /\ t<prog.types.size) (hres:F.resultTypes=#[4]) (hb:Below W.heap.size W W'):
  ∃v,Ending.returned (.bool true)=.returned v /\ s.post enc prog F false true false false W args v W':=by
 refine ⟨_,Y,?_⟩
 have hlt:∀p∈before,p.block<W.heap.size:=λp hp=>by simpa using hW.lt p hp
 have hW':=hW
 obtain ⟨p,q,hA,hV,rfl,hfz,hnd⟩:=hW
 rw [hv] at hV
 obtain ⟨rfl,rfl⟩:=trodVars_none hV
 simp only [List.append_nil] at hlt hW'
 refine ⟨ds,[],p,[],p,[],hW',?_,?_,?_,?_,λh=>DV⟩
 ·rw [hres,List.append_nil,hfn]
  exact trodAll_cons_mk (shut_bool underlying4 true) trodAll_mk0
 ·rw [List.append_nil,hfn]
  exact sV hb hread hA hlt
 ·rw [List.append_nil,hfn,hv];rfl
 exact hb.frame _
theorem aFm{W:World}{a:Addr}{u:Value}(h:W.cell? (a.add 0)=some u):∃b off,a=⟨b,off,none⟩:=by
 obtain ⟨b,off,sp⟩:=a
 cases sp with
 |none=>exact ⟨b,off,rfl⟩
 |some k=>
  exfalso
  simp only [Addr.add,if_true] at h
  unfold World.cell? at h
  split at h
  ·simp at h
  cases h
end
section
open Go.ChangeShapes Go.WideShapes Go.ChangeAt Go.RowKit
theorem aHn{H:Type}{enc:TypeId×Value -> H}{W:World}{base:Nat}{v:Value}{d:DataW H}{p:List MemPlace}(hval:Value.okWide prog W .any base 22 v)(hd:DataW.Trod enc prog W 0 (λ_=>true) true 22 v d p):
  ∃(s:List Int) (a:Option Addr) (cap:Nat),v=.slice a s.length cap /\ s.length <= cap /\ cap <= maxLen /\ dD W v s.length (s.map (.int .i64)):=by
 obtain ⟨a,len,cap,rfl⟩:=okWide_slice underlying22 hval
 obtain ⟨fuel,hf⟩:=hd
 rcases open_ints underlying22 underlying3 B6 hf with ⟨hcs,hx⟩|⟨a',len',cap',zs,hcs,_,hl,hm,hz,hx,hcell,hwz⟩
 ·simp [Value.cells] at hcs
  obtain ⟨rfl,rfl,rfl⟩:=hcs
  exact ⟨[],none,0,Y,Nat.le_refl _,B1,dD.nil _⟩
 simp [Value.cells] at hcs
 obtain ⟨rfl,rfl,rfl⟩:=hcs
 simp only [if_true] at hz
 have hlen:(zs.take len).length=len:=Gl
 refine ⟨zs.take len,some a',cap,by rw [hlen],by rw [hlen];exact hl,hm,some a',cap,by rw [hlen],by rw [hlen];exact hl,?_⟩
 by_cases h0:len=0
 ·left;subst h0;rfl
 right
 obtain ⟨b,off,rfl⟩:=aFm (hcell 0 J)
 refine ⟨b,off,Y,λj u hu=>?_⟩
 have hj:j<len:=by
  rcases Nat.lt_or_ge j len with h|h
  ·exact h
  rw [List.getElem?_eq_none (by rw [List.length_map,hlen];exact h)] at hu;cases hu
 have hc:=hcell j J
 rw [add_plain] at hc
 rw [hc]
 simp only [List.getElem?_map,List.getElem?_take,if_pos hj,List.getElem?_eq_getElem (show j<zs.length by omega),Option.map_some] at hu
 rw [←hu]
 simp [List.getD,show j<zs.length by omega]
end
section
open Go.ChangeShapes Go.WideShapes Go.ChangeAt Go.RowKit
theorem bR6 : prog.globalNamed "lockorder/expr.signs" = some 3 := by kernel_rfl
theorem bSj : prog.globalNamed "internal/strconv.uint64pow10" = some 1 := by kernel_rfl
def bRe:List (List UInt8):=bLb.map λb=>b.data.toList
abbrev bQr : List (String × DataW Unit) := [("math/bits.deBruijn32tab", Rows.laid_math_bits_deBruijn32tab), ("math/bits.deBruijn64tab", Rows.laid_math_bits_deBruijn64tab), ("internal/strconv.uint64pow10", Rows.laid_internal_strconv_uint64pow10), ("lockorder/token.words", Rows.laid_lockorder_token_words), ("lockorder/expr.signs", Rows.laid_lockorder_expr_signs)]
theorem bRl{W:World}(h:laidMetH prog bQr W)(hs:W.ShapedOpen prog):bM9 W:=by
 obtain ⟨ps,hL,_⟩:=(show laidMet prog bQr W from h)
 obtain ⟨_,_,_,_,_,_,_,_,_,_,hL,_⟩:=hL
 obtain ⟨_,_,_,_,_,_,_,_,_,_,hL,_⟩:=hL
 obtain ⟨g3,t3,cs3,fuel3,p3,q3,hg3,ht3,hvar3,hd3,hL,_⟩:=hL
 obtain ⟨g',t',cs,fuel,p,q,hg',ht',hvar,hd,hL,_⟩:=hL
 obtain ⟨g2,t2,cs2,fuel2,p2,q2,hg2,ht2,hvar2,hd2,_,_⟩:=hL
 refine ⟨λj hj=>?_,?_,⟨λj hj=>?_⟩,?_⟩
 ·obtain rfl:=Option.some.inj (aRc.symm.trans hg')
  obtain rfl:t'=257:=Option.some.inj (ht'.symm.trans (show (prog.globals[0]?).map (·.type)=some 257 by kernel_rfl))
  have hc:=aA1 (zs:=aGj) (n:=11) (e:=9) underlying257 underlying9 B6 B6 hd
  have:=World.var?_cell hg' hvar j
  rw [←Array.getElem?_toList,hc] at this
  rw [this]
  simp only [aGj,List.map_map]
  rw [List.getElem?_map,List.getElem?_eq_getElem hj]
  simp [bytes]
 ·exact cell_of_shapedOpen_int (zero:=#[.int .i64 0]) (t:=3) hs (of_decide_eq_true B6) B6 Y B6 B6 underlying3
 ·obtain rfl:=Option.some.inj (bR6.symm.trans hg2)
  obtain rfl:t2=266:=Option.some.inj (ht2.symm.trans (show (prog.globals[3]?).map (·.type)=some 266 by kernel_rfl))
  have hc:=aA1 (zs:=bRe) (n:=18) (e:=9) underlying266 underlying9 B6 B6 hd2
  have:=World.var?_cell hg2 hvar2 j
  rw [←Array.getElem?_toList,hc] at this
  rw [this]
  simp only [bRe,List.map_map]
  rw [List.getElem?_map,List.getElem?_eq_getElem hj]
  simp [bytes]
 obtain rfl:=Option.some.inj (bSj.symm.trans hg3)
 obtain rfl:t3=261:=Option.some.inj (ht3.symm.trans (show (prog.globals[1]?).map (·.type)=some 261 by kernel_rfl))
 unfold Lib.TabIs
 rw [hvar3,←Lib.cells_of_tab (zs:=Lib.pow10Tab) (k:=.u64) underlying261 underlying215 B6 B6 hd3]
theorem bQj(os:Os)(args:Array Value):laidMet prog bQr ((World.doorLaid prog 60 os).forCall (λ_ _=>0) ⟨#[],args,[]⟩).memory:=
 laidMet_of_run' 8 B6 B6
theorem bO6(w:World):Up2 w (bI [] w):=
 ⟨λa u h=>by rw [eW _ _ _ G0];exact h,λg cs t fz h _=>by rw [aFp _ _ _ G0];exact h⟩
theorem bOi{w:World}{t:AT}{v:Value}(he:bM9 w)(h:dO (bI [] w) t v):dO (bI [] w) (bK5 t) v:=bOr h (he.up (bO6 w))
theorem bRj{P:Program}{U:List Nat}{o:Oper}{n d:Nat}{T:List Nat}{s:Sto}{ts:List (Nat×AT)}{K:AS -> Prop}{F:FuncId}{t0:AT}(i0:Nat)(ho:o.op=.call {callee:=.value (.func F),args:=#[],argTypes:=#[]})(hd:o.dst=some d)(hn:d<n)
  (hcf:∀args w,(callFunc F args).run P w=.ok (.enter F args) w) (hl:look ts i0=some (bK5 t0)) (hc:∀w,bM9 w -> Calls P F #[] w λe w'=>e=.returned (.bool true) /\ Below w.heap.size w w')
  (h:K ⟨n,T,s,(d,Cb true)::ts⟩):AO P U o ⟨n,T,s,ts⟩ K:=by
 intro a w hs KK QQ' hK
 obtain ⟨v0,-,hv0⟩:=hs.tm i0 _ hl
 unfold Oper.wp
 rw [show (execOp a.eval o).run P w=.ok (.enter F #[]) w from by
  simp only [execOp,ho,resolve,Deferred.ofValue,Act.eval,Sem.run_bind,Sem.run_pure,Result.andThen_ok,invoke]
  rw [hcf];simp,Oper.upon_enter]
 refine (hc w (bMx hv0)).mono ?_
 rintro en w' ⟨rfl,hb⟩
 dsimp only
 rw [hd]
 obtain ⟨hk,hm⟩:=aBl hs.mem hb
 have s1:=hs.step (st:=⟨n,T,s,ts⟩) T (hk.mono G0) hm (λb hb=>.inl hb)
 exact hK _ _ _ h (s1.put hn (dO.c _ _ (.val _ Y))) ⟨hk.mono G0,hk.mono G0,λb hb=>.inl hb,λb hb=>.inl hb⟩ (hk.mono G0)
theorem bPa{P:Program}{F:FuncId}{fn:Func}{c:Code}(hf:P.funcs[F]?=some fn)(hb:fn.body=some c)(i:Nat)(hi:i<fn.ntmps){w:World}(he:bM9 w)
  (h:AWp P c ⟨fn.ntmps,[],⟨[],[]⟩,[(i,bK5 (.raw undef))]⟩ λe st=>(e=.normal∨e=.ret) /\ ∃r s',aEt P fn st r /\ aAz st.s s' /\ r=Cb true /\ s'=⟨[],[]⟩):Calls P F #[] w λe w'=>e=.returned (.bool true) /\ Below w.heap.size w w':=by
 have hm:Mem ⟨[],[]⟩ w:=⟨List.nodup_nil,(λb hb=>absurd hb C4),Db,Db⟩
 refine calls_of_wp hf hb ?_
 refine h _ w ⟨Y,?_,λj t ht=>?_,hm⟩ _ ?_
 ·simp
 ·simp only [look] at ht
  split at ht
  ·rename_i hj;subst hj;cases ht
   exact ⟨undef,by simp [hi],bOr (.raw _) (he.up (bO6 w))⟩
  cases ht
 intro e a' w' st' q s' k
 obtain ⟨he,r,s2,hres,hsub,rfl,rfl⟩:=q
 obtain ⟨v,h1,h2⟩:=hres a' w' s'
 have hv:v=.bool true:=by cases h1 with|c _ _ h4=>cases h4;rfl
 subst hv
 have hk:=k.keepT
 rcases he with rfl|rfl
 rotate_left
 all_goals
  exact ⟨s'.df,_,h2,Y,⟨hk.os,hk.tape,hk.output,hk.size,λj hj=>hk.block j hj G0⟩⟩
end
section
open Go.RowKit
structure TOk (l:List Tok):Prop where
 last:rP l
 reg:∀t,t∈l -> aPn t
 len:l.length <= 1000000
def cAf(l:List Tok)(k:Nat)(s:ByteArray):Bool:=(decide ((bU l k).kind=4)||decide ((bU l k).kind=3)) && decide ((bU l k).text=s)
theorem lA{e:Nat}(h:e≠0):bC .eql (e:Int) 0=some false:=Do
theorem jS{m n:Nat}:bC .eql (m:Int) (n:Int)=some (decide (m=n)):=by
 by_cases h:m=n
 ·subst h;simp [bC]
 have h2:¬(m:Int)=(n:Int):=J
 simp [bC,h,h2]
theorem bEp{l:List Tok}(h:TOk l){k:Nat}(hk:k<l.length){s:List UInt8}(hr:dA (bytes s)=false):cAf l k (bytes s)=cS l k s:=by
 unfold cAf cS
 rw [bG hk]
 have h1:=h.reg _ (getElem_mem hk)
 by_cases ht:l[k].text=bytes s
 ·by_cases h3:l[k].kind=3
  ·have:=h1.1 h3;rw [ht,hr] at this;cases this
  simp [ht,h3]
 simp [ht]
theorem bE6{l:List Tok}(h:TOk l){k:Nat}(hk:k<l.length){s:List UInt8}(hr:dA (bytes s)=true):cAf l k (bytes s)=dN l k s:=by
 unfold cAf dN
 rw [bG hk]
 have h1:=h.reg _ (getElem_mem hk)
 by_cases ht:l[k].text=bytes s
 ·by_cases h4:l[k].kind=4
  ·have:=h1.2.1 h4;rw [ht,hr] at this;cases this
  simp [ht,h4]
 simp [ht]
theorem bE8{l:List Tok}(h:TOk l){k:Nat}(hk:k<l.length){s:ByteArray}(ha:cAf l k s=true):k+1<l.length:=by
 refine h.last.more hk λh5=>?_
 unfold cAf at ha
 rw [h5] at ha;simp at ha
def aC7(e b k x b1 e1:Nat):Prop:=(e=0 -> k=b1 /\ x=e1) /\ (e≠0 -> b=b1 /\ e=e1)
theorem aC7.run{α:Type}{e b k x b1 e1:Nat}{r:bN α}(h:aC7 e b k x b1 e1)(hx:x≠0)(hr:e=0 -> r=.err k x)(y:α)(k1:Nat):kX e b r y k1 b1 e1:=by
 by_cases he:e=0
 ·obtain ⟨rfl,rfl⟩:=h.1 he
  subst he
  exact .err _ _ _ _ _ (hr Y) hx
 obtain ⟨rfl,rfl⟩:=h.2 he
 exact .skip he _ _ _
theorem aC7.small{e b k x b1 e1:Nat}(h:aC7 e b k x b1 e1)(he:e<16)(hx:x<16):e1<16:=by
 by_cases h0:e=0
 ·rw [←(h.1 h0).2];exact hx
 rw [←(h.2 h0).2];exact he
end
end Go.Proofs.YtjgeihmhppadaaaGreatDoor
