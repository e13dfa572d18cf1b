import Derived.Test.YtjgeihmhppadaaaGreatDoorRG10J
import Derived.StillTailTactics
set_option linter.all false
set_option synthInstance.maxHeartbeats 1000000
set_option synthInstance.maxSize 1000000
set_option maxHeartbeats 1600000
set_option maxRecDepth 100000
namespace Go.Proofs.YtjgeihmhppadaaaGreatDoor
open Go.Proofs.Tryz
open List (length_append length_cons length_nil mem_append mem_cons not_mem_nil append_assoc getElem_mem take_of_length_le)
section
open Go.RowKit
theorem cCb(A B:List Box)(C gv gf Nb Pb:Nat)(X:Box)(p:cK)(vis:Vis)(fs:Fns)(n at_:Int)(rw:List bA)(m:Nat)(nm:ByteArray)(sr:Int)(hg:bZp vis nm=0)(hm:m <= 90000000):aL prog 69 [Cs nm,Ci sr,pP Pb,pP Nb] [Nb,gv] ⟨X::⟨Nb,3,[nC m]⟩::⟨Pb,94,[.val (.pointer (some ⟨C,0,none⟩))]⟩::A++⟨C,98,[Sq dB p.globals,Sq bT p.mutexes,Sq fV p.funcs,Vm gv,Vm gf,Vi n,Vi at_]⟩::B,cR3 gf 3 fV fs::cR3 gv 0 evI vis::rw⟩ λt s'=>t=Cb true /\ s'=⟨X::⟨Nb,3,[Vi ((m+1:Nat):Int)]⟩::⟨Pb,94,[.val (.pointer (some ⟨C,0,none⟩))]⟩::A++⟨C,98,[Sq dB p.globals,Sq bT p.mutexes,Sq fV p.funcs,Vm gv,Vm gf,Vi n,Vi at_]⟩::B,cR3 gf 3 fV fs::cR3 gv 0 evI (bZq vis nm sr)::rw⟩:=by
 refine acX 22 func69 ?_
 refine go 13 ?_
 refine wyz Y (cAm vis Y Y Y G0 underlying95 underlying9 zeroValue157 Bu) ?_
 refine wcp false Y (xG hg) (go 13 ?_)
 refine wo Y (cAt vis [_] Y Y Y Y Y underlying95 underlying9 G0 (λ_=>G0) ?_)
 refine go 5 ?_
 refine wad Y (go 9 ?_)
 exact ⟨.inr Y,_,⟨X::⟨Nb,3,[Vi ((m+1:Nat):Int)]⟩::⟨Pb,94,[.val (.pointer (some ⟨C,0,none⟩))]⟩::A++⟨C,98,[Sq dB p.globals,Sq bT p.mutexes,Sq fV p.funcs,Vm gv,Vm gf,Vi n,Vi at_]⟩::B,cR3 gf 3 fV fs::cR3 gv 0 evI (bZq vis nm sr)::rw⟩,aR Y (aF Y),aA (.refl _) (.refl _),Y,Y⟩
theorem cCa(A B:List Box)(C gv gf Nb Pb:Nat)(X:Box)(p:cK)(vis:Vis)(fs:Fns)(n at_:Int)(rw:List bA)(m:Nat)(nm:ByteArray)(sr:Int)(hg:¬bZp vis nm=0):aL prog 69 [Cs nm,Ci sr,pP Pb,pP Nb] [Nb,gv] ⟨X::⟨Nb,3,[nC m]⟩::⟨Pb,94,[.val (.pointer (some ⟨C,0,none⟩))]⟩::A++⟨C,98,[Sq dB p.globals,Sq bT p.mutexes,Sq fV p.funcs,Vm gv,Vm gf,Vi n,Vi at_]⟩::B,cR3 gf 3 fV fs::cR3 gv 0 evI vis::rw⟩ λt s'=>t=Cb false /\ s'=⟨X::⟨Nb,3,[nC m]⟩::⟨Pb,94,[.val (.pointer (some ⟨C,0,none⟩))]⟩::A++⟨C,98,[Sq dB p.globals,Sq bT p.mutexes,Sq fV p.funcs,Vm gv,Vm gf,Vi n,Vi at_]⟩::B,cR3 gf 3 fV fs::cR3 gv 0 evI vis::rw⟩:=by
 refine acX 22 func69 ?_
 refine go 13 ?_
 refine wyz Y (cAm vis Y Y Y G0 underlying95 underlying9 zeroValue157 Bu) ?_
 refine wcp true Y (xL hg) (go 10 ?_)
 exact ⟨.inr Y,_,⟨X::⟨Nb,3,[nC m]⟩::⟨Pb,94,[.val (.pointer (some ⟨C,0,none⟩))]⟩::A++⟨C,98,[Sq dB p.globals,Sq bT p.mutexes,Sq fV p.funcs,Vm gv,Vm gf,Vi n,Vi at_]⟩::B,cR3 gf 3 fV fs::cR3 gv 0 evI vis::rw⟩,aR Y (aF Y),aA (.refl _) (.refl _),Y,Y⟩
theorem cAc{S:List (ByteArray×Int)}{v v0:Vis}{j n0:Nat}{q:ByteArray×Int}(hq:S.drop j=q::S.drop (j+1))(h:bZz (S.drop j) v j=bZz S v0 n0):
  (bZp v q.1=0 -> bZz (S.drop (j+1)) (bZq v q.1 q.2) (j+1)=bZz S v0 n0) /\ (¬bZp v q.1=0 -> bZz S v0 n0=(some j,v)):=by
 rw [hq,bZz] at h
 refine ⟨λh0=>?_,λh0=>?_⟩
 ·rw [if_pos h0] at h;exact h
 rw [if_neg h0] at h;exact h.symm
theorem cAu(p:cK):(bZs p).length=p.globals.length+(p.mutexes.length+p.funcs.length):=by unfold bZs;simp
theorem cC5(p:cK)(k:Nat)(h:k<p.globals.length):(bZs p).drop k=(p.globals[k].name,1)::(bZs p).drop (k+1):=by
 rw [List.drop_eq_getElem_cons Eq];congr 1
 unfold bZs;rw [List.getElem_append_left Er];simp
theorem cBp(p:cK)(k:Nat)(h:k<p.mutexes.length):(bZs p).drop (p.globals.length+k)=(p.mutexes[k].name,cAr p.mutexes[k])::(bZs p).drop (p.globals.length+k+1):=by
 rw [List.drop_eq_getElem_cons Eq];congr 1
 unfold bZs;rw [List.getElem_append_right G0,List.getElem_append_left DR];simp
theorem cC3(p:cK)(k:Nat)(h:k<p.funcs.length):(bZs p).drop (p.globals.length+p.mutexes.length+k)=(p.funcs[k].name,5)::(bZs p).drop (p.globals.length+p.mutexes.length+k+1):=by
 rw [List.drop_eq_getElem_cons Eq];congr 1
 unfold bZs;rw [List.getElem_append_right DR,List.getElem_append_right DR];simp;congr 2;omega
theorem cB1(l:List bS)(k:Nat)(h:k<l.length):bZq (bZ7 (l.take k)) l[k].name l[k]=bZ7 (l.take (k+1)):=by
 unfold bZ7;rw [List.take_succ_eq_append_getElem h,List.foldl_append];rfl
theorem bZt.fun{v:Vis}{fs:Fns}(h:bZt v fs)(s:ByteArray)(f:bS):bZt (bZq v s 5) (bZq fs s f):=
 ⟨h.1.put s 5,λq hq=>by
  rw [cBo]
  rw [cAl] at hq
  split at hq
  ·rename_i e;rw [if_pos e];exact ⟨f,rfl⟩
  rename_i e;rw [if_neg e];exact h.2 q hq⟩
theorem bZt.nil:bZt [] []:=⟨by unfold KN;simp,λs h=>by unfold bZp bZu at h;cases h⟩
def cEj:Option Nat -> Int
 |none=>-1
 |some i=>(i:Int)
theorem cD4(A B:List Box)(C gv gf:Nat)(p:cK)(rw:List bA)(hg:p.globals.length <= 9000000)(hm:p.mutexes.length <= 9000000)(hf:p.funcs.length <= 9000000):aL prog 32 [pP C] [C,gv,gf] ⟨A++⟨C,98,[Sq dB p.globals,Sq bT p.mutexes,Sq fV p.funcs,Vm gv,Vm gf,Vi 0,Vi 0]⟩::B,cR3 gf 3 fV ([]:Fns)::cR3 gv 0 evI ([]:Vis)::rw⟩ λt s'=>∃(r:Option Nat) (v:Vis) (fsx:Fns),bZz (bZs p) [] 0=(r,v) /\ t=Ci (cEj r) /\ s'=⟨A++⟨C,98,[Sq dB p.globals,Sq bT p.mutexes,Sq fV p.funcs,Vm gv,Vm gf,Vi 0,Vi 0]⟩::B,cR3 gf 3 fV fsx::cR3 gv 0 evI v::rw⟩ /\ (r=none -> fsx=bZ7 p.funcs /\ bZt v fsx):=by
 refine acX 75 func32 ?_
 refine go 14 λPb Nb=>?_
 refine wyz Y (xR Y (vs:=[.pointer (some ⟨Pb,0,none⟩),.pointer (some ⟨Nb,0,none⟩)]) Y) (go 16 ?_)
 refine fM (λg:Nat×Vis=>(⟨75,[Nb,Pb,C,gv,gf],⟨⟨Nb,3,[nC g.1]⟩::⟨Pb,94,[.val (.pointer (some ⟨C,0,none⟩))]⟩::A++⟨C,98,[Sq dB p.globals,Sq bT p.mutexes,Sq fV p.funcs,Vm gv,Vm gf,Vi 0,Vi 0]⟩::B,cR3 gf 3 fV []::cR3 gv 0 evI g.2::rw⟩,[(19,nI g.1),(1,pP Pb),(2,Ci 0),(3,pP Nb),(4,Cv (.func (.func 69) #[] #[.pointer (some ⟨Pb,0,none⟩),.pointer (some ⟨Nb,0,none⟩)])),(17,.c (Sq dB p.globals)),(18,nI p.globals.length)]⟩:AS)) (λg=>g.1 <= p.globals.length /\ bZz ((bZs p).drop (g.1)) g.2 (g.1)=bZz (bZs p) [] 0 /\ bZt g.2 []) (λg=>p.globals.length-g.1) (0,[]) (cQf AP) ⟨Nat.zero_le _,Y,bZt.nil⟩ ?_
 rintro ⟨k,vis1⟩ ⟨hk,hst1,hfk1⟩
 dsimp only at hk hst1 hfk1
 try dsimp only
 refine go 2 ?_
 by_cases h1:((k:Nat):Int)<((p.globals.length:Nat):Int)
 ·refine wcp true Y (jZ h1) (go 10 ?_)
  refine wyz Y (bH dB dB p.globals nS (λ_=>Y) k Y Y Y Y J V runUnderlying23 sizeOf63) (go 10 λb1=>?_)
  by_cases hgk:bZp vis1 p.globals[k].name=0
  ·refine wo Y (rL [Nb,gv] Y Y Y V call69 (us:=[Cs (p.globals[k].name),Ci 1]) Y (cCb A B C gv gf Nb Pb _ p vis1 _ _ _ rw (k) p.globals[k].name 1 hgk J) Ba AQ AX ?_)
   rintro _ _ ⟨rfl,rfl⟩
   refine ⟨[],(λ_ b hb=>nomatch hb),?_⟩
   refine go 8 ?_
   refine wad Y (go 2 ?_)
   have hnx:=(cAc (cC5 p k J) hst1).1 hgk
   exact ⟨(k+1,bZq vis1 p.globals[k].name 1),⟨by show k+1 <= p.globals.length;omega,hnx,hfk1.put _ V⟩,GH,cQf (h1:=(.cons _ (.refl _))) (h:=aG Y (gQ J) (sA Y)) AP⟩
  refine wo Y (rL [Nb,gv] Y Y Y V call69 (us:=[Cs (p.globals[k].name),Ci 1]) Y (cCa A B C gv gf Nb Pb _ p vis1 _ _ _ rw (k) p.globals[k].name 1 hgk) Ba AQ AX ?_)
  rintro _ _ ⟨rfl,rfl⟩
  refine ⟨[],(λ_ b hb=>nomatch hb),?_⟩
  refine go 16 ?_
  have hbd:=(cAc (cC5 p k J) hst1).2 hgk
  exact ⟨.inr Y,_,⟨A++⟨C,98,[Sq dB p.globals,Sq bT p.mutexes,Sq fV p.funcs,Vm gv,Vm gf,Vi 0,Vi 0]⟩::B,cR3 gf 3 fV []::cR3 gv 0 evI vis1::rw⟩,aR Y (aF Y),aA (.cons _ (.cons _ (.cons _ (.refl _)))) (.refl _),some (k),vis1,[],hbd,Y,Y,λh=>DV⟩
 refine wcp false Y (jQ h1) (go 11 ?_)
 obtain rfl:k=p.globals.length:=J
 replace hst1:bZz ((bZs p).drop (p.globals.length+0)) vis1 (p.globals.length+0)=bZz (bZs p) [] 0:=hst1
 refine go 11 ?_
 refine fM (λg:Nat×Vis=>(⟨75,[Nb,Pb,C,gv,gf],⟨⟨Nb,3,[Vi ((p.globals.length+g.1:Nat):Int)]⟩::⟨Pb,94,[.val (.pointer (some ⟨C,0,none⟩))]⟩::A++⟨C,98,[Sq dB p.globals,Sq bT p.mutexes,Sq fV p.funcs,Vm gv,Vm gf,Vi 0,Vi 0]⟩::B,cR3 gf 3 fV []::cR3 gv 0 evI g.2::rw⟩,[(36,nI g.1),(1,pP Pb),(2,Ci 0),(3,pP Nb),(4,Cv (.func (.func 69) #[] #[.pointer (some ⟨Pb,0,none⟩),.pointer (some ⟨Nb,0,none⟩)])),(34,.c (Sq bT p.mutexes)),(35,nI p.mutexes.length)]⟩:AS)) (λg=>g.1 <= p.mutexes.length /\ bZz ((bZs p).drop (p.globals.length+g.1)) g.2 (p.globals.length+g.1)=bZz (bZs p) [] 0 /\ bZt g.2 []) (λg=>p.mutexes.length-g.1) (0,vis1) (cQf AP) ⟨Nat.zero_le _,hst1,hfk1⟩ ?_
 rintro ⟨k,vis2⟩ ⟨hk,hst2,hfk2⟩
 dsimp only at hk hst2 hfk2
 try dsimp only
 refine go 2 ?_
 by_cases h6:((k:Nat):Int)<((p.mutexes.length:Nat):Int)
 ·refine wcp true Y (jZ h6) (go 10 ?_)
  refine wyz Y (bH bT bT p.mutexes mZ (λ_=>Y) k Y Y Y Y J V runUnderlying24 sizeOf60) (go 15 λb2=>?_)
  by_cases h8:(0:Int)<p.mutexes[k].size
  focus
   refine wcp true Y (mH h8) (go 13 ?_)
   have hsm:cAr p.mutexes[k]=3:=Dw
   by_cases hgk:bZp vis2 p.mutexes[k].name=0
   ·refine wo Y (rL [Nb,gv] Y Y Y V call69 (us:=[Cs (p.mutexes[k].name),Ci 3]) Y (cCb A B C gv gf Nb Pb _ p vis2 _ _ _ rw (p.globals.length+k) p.mutexes[k].name 3 hgk J) Ba AQ AX ?_)
    rintro _ _ ⟨rfl,rfl⟩
    refine ⟨[],(λ_ b hb=>nomatch hb),?_⟩
    refine go 8 ?_
    refine wad Y (go 2 ?_)
    have hnx:=(cAc (cBp p k J) hst2).1 hgk
    rw [show cAr p.mutexes[k]=3 from hsm] at hnx
    exact ⟨(k+1,bZq vis2 p.mutexes[k].name 3),⟨G7,hnx,hfk2.put _ V⟩,Eg,cQf (h1:=(.cons _ (.refl _))) (h:=aG Y (gQ J) (sA Y)) AP⟩
   refine wo Y (rL [Nb,gv] Y Y Y V call69 (us:=[Cs (p.mutexes[k].name),Ci 3]) Y (cCa A B C gv gf Nb Pb _ p vis2 _ _ _ rw (p.globals.length+k) p.mutexes[k].name 3 hgk) Ba AQ AX ?_)
  rotate_left
  refine wcp false Y (mI h8) (go 11 ?_)
  have hsm:cAr p.mutexes[k]=2:=Dw
  by_cases hgk:bZp vis2 p.mutexes[k].name=0
  ·refine wo Y (rL [Nb,gv] Y Y Y V call69 (us:=[Cs (p.mutexes[k].name),Ci 2]) Y (cCb A B C gv gf Nb Pb _ p vis2 _ _ _ rw (p.globals.length+k) p.mutexes[k].name 2 hgk J) Ba AQ AX ?_)
   rintro _ _ ⟨rfl,rfl⟩
   refine ⟨[],(λ_ b hb=>nomatch hb),?_⟩
   refine go 8 ?_
   refine wad Y (go 2 ?_)
   have hnx:=(cAc (cBp p k J) hst2).1 hgk
   rw [show cAr p.mutexes[k]=2 from hsm] at hnx
   exact ⟨(k+1,bZq vis2 p.mutexes[k].name 2),⟨G7,hnx,hfk2.put _ V⟩,Eg,cQf (h1:=(.cons _ (.refl _))) (h:=aG Y (gQ J) (sA Y)) AP⟩
  refine wo Y (rL [Nb,gv] Y Y Y V call69 (us:=[Cs (p.mutexes[k].name),Ci 2]) Y (cCa A B C gv gf Nb Pb _ p vis2 _ _ _ rw (p.globals.length+k) p.mutexes[k].name 2 hgk) Ba AQ AX ?_)
  all_goals
   rintro _ _ ⟨rfl,rfl⟩
   refine ⟨[],(λ_ b hb=>nomatch hb),?_⟩
   refine go 16 ?_
   have hbd:=(cAc (cBp p k J) hst2).2 hgk
   exact ⟨.inr Y,_,⟨A++⟨C,98,[Sq dB p.globals,Sq bT p.mutexes,Sq fV p.funcs,Vm gv,Vm gf,Vi 0,Vi 0]⟩::B,cR3 gf 3 fV []::cR3 gv 0 evI vis2::rw⟩,aR Y (aF Y),aA (.cons _ (.cons _ (.cons _ (.refl _)))) (.refl _),some (p.globals.length+k),vis2,[],hbd,Y,Y,λh=>DV⟩
 refine wcp false Y (jQ h6) (go 11 ?_)
 obtain rfl:k=p.mutexes.length:=J
 replace hst2:bZz ((bZs p).drop (p.globals.length+p.mutexes.length+0)) vis2 (p.globals.length+p.mutexes.length+0)=bZz (bZs p) [] 0:=hst2
 refine go 11 ?_
 refine fM (λg:Nat×Vis=>(⟨75,[Nb,Pb,C,gv,gf],⟨⟨Nb,3,[Vi ((p.globals.length+p.mutexes.length+g.1:Nat):Int)]⟩::⟨Pb,94,[.val (.pointer (some ⟨C,0,none⟩))]⟩::A++⟨C,98,[Sq dB p.globals,Sq bT p.mutexes,Sq fV p.funcs,Vm gv,Vm gf,Vi 0,Vi 0]⟩::B,cR3 gf 3 fV (bZ7 (p.funcs.take g.1))::cR3 gv 0 evI g.2::rw⟩,[(57,nI g.1),(1,pP Pb),(2,Ci 0),(3,pP Nb),(4,Cv (.func (.func 69) #[] #[.pointer (some ⟨Pb,0,none⟩),.pointer (some ⟨Nb,0,none⟩)])),(55,.c (Sq fV p.funcs)),(56,nI p.funcs.length)]⟩:AS)) (λg=>g.1 <= p.funcs.length /\ bZz ((bZs p).drop (p.globals.length+p.mutexes.length+g.1)) g.2 (p.globals.length+p.mutexes.length+g.1)=bZz (bZs p) [] 0 /\ bZt g.2 (bZ7 (p.funcs.take g.1))) (λg=>p.funcs.length-g.1) (0,vis2) (cQf AP) ⟨Nat.zero_le _,hst2,hfk2⟩ ?_
 rintro ⟨k,vis3⟩ ⟨hk,hst3,hfk3⟩
 dsimp only at hk hst3 hfk3
 try dsimp only
 refine go 2 ?_
 by_cases h16:((k:Nat):Int)<((p.funcs.length:Nat):Int)
 ·refine wcp true Y (jZ h16) (go 10 ?_)
  refine wyz Y (bH fV fV p.funcs vC (λ_=>Y) k Y Y Y Y J V runUnderlying25 sizeOf67) (go 11 λb3=>?_)
  by_cases hgk:bZp vis3 p.funcs[k].name=0
  ·refine wo Y (rL [Nb,gv] Y Y Y V call69 (us:=[Cs (p.funcs[k].name),Ci 5]) Y (cCb A B C gv gf Nb Pb _ p vis3 _ _ _ rw (p.globals.length+p.mutexes.length+k) p.funcs[k].name 5 hgk J) Ba AQ AX ?_)
   rintro _ _ ⟨rfl,rfl⟩
   refine ⟨[],(λ_ b hb=>nomatch hb),?_⟩
   refine go 6 ?_
   refine dx [b3,Nb,Pb,C] (tz [(0,true),(1,true),(2,true),(3,true),(4,true),(5,true),(6,true)] 1 (go 8 ?_))
   refine ox 7 Y Y (cCw (m:=3) (ev:=fV) (b:=p.funcs[k]) (bZ7 (p.funcs.take k)) [] Y Y Y Y Y V (λ_=>Y) underlying96 underlying9 G0 Dc ?_)
   refine ax (go 3 ?_)
   refine wad Y (go 2 ?_)
   have hnx:=(cAc (cC3 p k J) hst3).1 hgk
   rw [cB1 p.funcs k J]
   exact ⟨(k+1,bZq vis3 p.funcs[k].name 5),⟨by show k+1 <= p.funcs.length;omega,hnx,by have h9:=hfk3.fun p.funcs[k].name p.funcs[k];rw [cB1 p.funcs k J] at h9;exact h9⟩,Et,cQf (h1:=(.cons _ (.refl _))) (h:=aG Y (gQ J) (sA Y)) AP⟩
  refine wo Y (rL [Nb,gv] Y Y Y V call69 (us:=[Cs (p.funcs[k].name),Ci 5]) Y (cCa A B C gv gf Nb Pb _ p vis3 _ _ _ rw (p.globals.length+p.mutexes.length+k) p.funcs[k].name 5 hgk) Ba AQ AX ?_)
  rintro _ _ ⟨rfl,rfl⟩
  refine ⟨[],(λ_ b hb=>nomatch hb),?_⟩
  refine go 17 ?_
  have hbd:=(cAc (cC3 p k J) hst3).2 hgk
  exact ⟨.inr Y,_,⟨A++⟨C,98,[Sq dB p.globals,Sq bT p.mutexes,Sq fV p.funcs,Vm gv,Vm gf,Vi 0,Vi 0]⟩::B,cR3 gf 3 fV (bZ7 (p.funcs.take k))::cR3 gv 0 evI vis3::rw⟩,aR Y (aF Y),aA (.cons _ (.cons _ (.cons _ (.refl _)))) (.refl _),some (p.globals.length+p.mutexes.length+k),vis3,(bZ7 (p.funcs.take k)),hbd,Y,Y,λh=>DV⟩
 refine wcp false Y (jQ h16) (go 10 ?_)
 obtain rfl:k=p.funcs.length:=J
 rw [List.drop_eq_nil_of_le Eq,bZz] at hst3
 rw [take_of_length_le (Nat.le_refl _)] at hfk3
 refine go 5 ?_
 rw [take_of_length_le (Nat.le_refl _)]
 exact ⟨.inr Y,_,⟨A++⟨C,98,[Sq dB p.globals,Sq bT p.mutexes,Sq fV p.funcs,Vm gv,Vm gf,Vi 0,Vi 0]⟩::B,cR3 gf 3 fV (bZ7 p.funcs)::cR3 gv 0 evI vis3::rw⟩,aR Y (aF Y),aA (.cons _ (.cons _ (.refl _))) (.refl _),none,vis3,bZ7 p.funcs,hst3.symm,Y,Y,λ_=>⟨Y,hfk3⟩⟩
theorem gJ{s:ByteArray}{l:List UInt8}(h:s=bytes l):(s.toList == l)=true:=by subst h;rw [ByteArray.toList_eq];simp [bytes]
theorem fI{s:ByteArray}{l:List UInt8}(h:s≠bytes l):(s.toList == l)=false:=by
 rw [beq_eq_false_iff_ne,ByteArray.toList_eq];intro e;apply h;apply sI;rw [e];simp [bytes]
theorem aDq(s:ByteArray)(w:World):Calls prog 211 #[.string s] w λe w'=>e=.returned (.tuple #[.int .i64 (binOp s).1,.int .i64 (binOp s).2]) /\ w=w':=by
 go_enter func211,Tryz.ntmps211
 by_cases h0:s=bytes [124,124]
 ·have g0:(s.toList == [124,124])=true:=gJ h0
  have hb:binOp s=(17,1):=by rw [binOp,if_pos h0]
  rw [hb]
  clear hb h0
  go_wp2_with fail
  refine bodyPost_ret (v:=.tuple #[.int .i64 17,.int .i64 1]) G5 Y ?_
  exact ⟨Y,Y⟩
 have g0:(s.toList == [124,124])=false:=fI h0
 by_cases h1:s=bytes [38,38]
 ·have g1:(s.toList == [38,38])=true:=gJ h1
  have hb:binOp s=(16,2):=by rw [binOp,if_neg h0,if_pos h1]
  rw [hb]
  clear hb h0 h1
  go_wp2_with fail
  refine bodyPost_ret (v:=.tuple #[.int .i64 16,.int .i64 2]) G5 Y ?_
  exact ⟨Y,Y⟩
 have g1:(s.toList == [38,38])=false:=fI h1
 by_cases h2:s=bytes [61,61]
 ·have g2:(s.toList == [61,61])=true:=gJ h2
  have hb:binOp s=(14,3):=by rw [binOp,if_neg h0,if_neg h1,if_pos h2]
  rw [hb]
  clear hb h0 h1 h2
  go_wp2_with fail
  refine bodyPost_ret (v:=.tuple #[.int .i64 14,.int .i64 3]) G5 Y ?_
  exact ⟨Y,Y⟩
 have g2:(s.toList == [61,61])=false:=fI h2
 by_cases h3:s=bytes [33,61]
 ·have g3:(s.toList == [33,61])=true:=gJ h3
  have hb:binOp s=(15,3):=by rw [binOp,if_neg h0,if_neg h1,if_neg h2,if_pos h3]
  rw [hb]
  clear hb h0 h1 h2 h3
  go_wp2_with fail
  refine bodyPost_ret (v:=.tuple #[.int .i64 15,.int .i64 3]) G5 Y ?_
  exact ⟨Y,Y⟩
 have g3:(s.toList == [33,61])=false:=fI h3
 by_cases h4:s=bytes [60]
 ·have g4:(s.toList == [60])=true:=gJ h4
  have hb:binOp s=(10,3):=by rw [binOp,if_neg h0,if_neg h1,if_neg h2,if_neg h3,if_pos h4]
  rw [hb]
  clear hb h0 h1 h2 h3 h4
  go_wp2_with fail
  refine bodyPost_ret (v:=.tuple #[.int .i64 10,.int .i64 3]) G5 Y ?_
  exact ⟨Y,Y⟩
 have g4:(s.toList == [60])=false:=fI h4
 by_cases h5:s=bytes [60,61]
 ·have g5:(s.toList == [60,61])=true:=gJ h5
  have hb:binOp s=(11,3):=by rw [binOp,if_neg h0,if_neg h1,if_neg h2,if_neg h3,if_neg h4,if_pos h5]
  rw [hb]
  clear hb h0 h1 h2 h3 h4 h5
  go_wp2_with fail
  refine bodyPost_ret (v:=.tuple #[.int .i64 11,.int .i64 3]) G5 Y ?_
  exact ⟨Y,Y⟩
 have g5:(s.toList == [60,61])=false:=fI h5
 by_cases h6:s=bytes [62]
 ·have g6:(s.toList == [62])=true:=gJ h6
  have hb:binOp s=(12,3):=by rw [binOp,if_neg h0,if_neg h1,if_neg h2,if_neg h3,if_neg h4,if_neg h5,if_pos h6]
  rw [hb]
  clear hb h0 h1 h2 h3 h4 h5 h6
  go_wp2_with fail
  refine bodyPost_ret (v:=.tuple #[.int .i64 12,.int .i64 3]) G5 Y ?_
  exact ⟨Y,Y⟩
 have g6:(s.toList == [62])=false:=fI h6
 by_cases h7:s=bytes [62,61]
 ·have g7:(s.toList == [62,61])=true:=gJ h7
  have hb:binOp s=(13,3):=by rw [binOp,if_neg h0,if_neg h1,if_neg h2,if_neg h3,if_neg h4,if_neg h5,if_neg h6,if_pos h7]
  rw [hb]
  clear hb h0 h1 h2 h3 h4 h5 h6 h7
  go_wp2_with fail
  refine bodyPost_ret (v:=.tuple #[.int .i64 13,.int .i64 3]) G5 Y ?_
  exact ⟨Y,Y⟩
 have g7:(s.toList == [62,61])=false:=fI h7
 by_cases h8:s=bytes [43]
 ·have g8:(s.toList == [43])=true:=gJ h8
  have hb:binOp s=(8,4):=by rw [binOp,if_neg h0,if_neg h1,if_neg h2,if_neg h3,if_neg h4,if_neg h5,if_neg h6,if_neg h7,if_pos h8]
  rw [hb]
  clear hb h0 h1 h2 h3 h4 h5 h6 h7 h8
  go_wp2_with fail
  refine bodyPost_ret (v:=.tuple #[.int .i64 8,.int .i64 4]) G5 Y ?_
  exact ⟨Y,Y⟩
 have g8:(s.toList == [43])=false:=fI h8
 by_cases h9:s=bytes [45]
 ·have g9:(s.toList == [45])=true:=gJ h9
  have hb:binOp s=(9,4):=by rw [binOp,if_neg h0,if_neg h1,if_neg h2,if_neg h3,if_neg h4,if_neg h5,if_neg h6,if_neg h7,if_neg h8,if_pos h9]
  rw [hb]
  clear hb h0 h1 h2 h3 h4 h5 h6 h7 h8 h9
  go_wp2_with fail
  refine bodyPost_ret (v:=.tuple #[.int .i64 9,.int .i64 4]) G5 Y ?_
  exact ⟨Y,Y⟩
 have g9:(s.toList == [45])=false:=fI h9
 by_cases h10:s=bytes [42]
 ·have g10:(s.toList == [42])=true:=gJ h10
  have hb:binOp s=(5,5):=by rw [binOp,if_neg h0,if_neg h1,if_neg h2,if_neg h3,if_neg h4,if_neg h5,if_neg h6,if_neg h7,if_neg h8,if_neg h9,if_pos h10]
  rw [hb]
  clear hb h0 h1 h2 h3 h4 h5 h6 h7 h8 h9 h10
  go_wp2_with fail
  refine bodyPost_ret (v:=.tuple #[.int .i64 5,.int .i64 5]) G5 Y ?_
  exact ⟨Y,Y⟩
 have g10:(s.toList == [42])=false:=fI h10
 by_cases h11:s=bytes [47]
 ·have g11:(s.toList == [47])=true:=gJ h11
  have hb:binOp s=(6,5):=by rw [binOp,if_neg h0,if_neg h1,if_neg h2,if_neg h3,if_neg h4,if_neg h5,if_neg h6,if_neg h7,if_neg h8,if_neg h9,if_neg h10,if_pos h11]
  rw [hb]
  clear hb h0 h1 h2 h3 h4 h5 h6 h7 h8 h9 h10 h11
  go_wp2_with fail
  refine bodyPost_ret (v:=.tuple #[.int .i64 6,.int .i64 5]) G5 Y ?_
  exact ⟨Y,Y⟩
 have g11:(s.toList == [47])=false:=fI h11
 by_cases h12:s=bytes [37]
 ·have g12:(s.toList == [37])=true:=gJ h12
  have hb:binOp s=(7,5):=by rw [binOp,if_neg h0,if_neg h1,if_neg h2,if_neg h3,if_neg h4,if_neg h5,if_neg h6,if_neg h7,if_neg h8,if_neg h9,if_neg h10,if_neg h11,if_pos h12]
  rw [hb]
  clear hb h0 h1 h2 h3 h4 h5 h6 h7 h8 h9 h10 h11 h12
  go_wp2_with fail
  refine bodyPost_ret (v:=.tuple #[.int .i64 7,.int .i64 5]) G5 Y ?_
  exact ⟨Y,Y⟩
 have g12:(s.toList == [37])=false:=fI h12
 have hb:binOp s=(0,0):=by rw [binOp,if_neg h0,if_neg h1,if_neg h2,if_neg h3,if_neg h4,if_neg h5,if_neg h6,if_neg h7,if_neg h8,if_neg h9,if_neg h10,if_neg h11,if_neg h12]
 rw [hb]
 clear hb h0 h1 h2 h3 h4 h5 h6 h7 h8 h9 h10 h11 h12
 go_wp2_with fail
 refine bodyPost_ret (v:=.tuple #[.int .i64 0,.int .i64 0]) G5 Y ?_
 exact ⟨Y,Y⟩
def bLb:List ByteArray:=[⟨#[]⟩,⟨#[]⟩,⟨#[]⟩,⟨#[45]⟩,⟨#[33]⟩,⟨#[42]⟩,⟨#[47]⟩,⟨#[37]⟩,⟨#[43]⟩,⟨#[45]⟩,⟨#[60]⟩,⟨#[60,61]⟩,⟨#[62]⟩,⟨#[62,61]⟩,⟨#[61,61]⟩,⟨#[33,61]⟩,⟨#[38,38]⟩,⟨#[124,124]⟩]
structure bOp (w:World):Prop where
 signs:∀j (h:j<bLb.length),w.cell? ⟨3,j,none⟩=some (.string bLb[j])
theorem bOp.keep{L:List Nat}{w w':World}(h:bOp w)(hk:cW L w w')(hn:3∉L):bOp w':=
 ⟨λj hj=>by rw [hk.cell (gV (h.signs j hj)) hn];exact h.signs j hj⟩
theorem bOp.below{w w':World}(h:bOp w)(hb:Below w.heap.size w w'):bOp w':=h.keep (L:=[]) (cW.of_below hb) G0
def bLk(op:Int):Nat:=if op=17 then 1 else if op=16 then 2 else if 10 <= op /\ op <= 15 then 3 else if op=8∨op=9 then 4 else if 5 <= op /\ op <= 7 then 5 else if op=3∨op=4 then 6 else if op=1∨op=2 then 7 else 0
theorem bQb:∀j (h:j<bLb.length),j≠1 -> j≠2 -> j≠3 -> j≠4 -> (binOp bLb[j]).2=bLk j:=V
theorem bOt(op:Int)(h:op<0∨18 <= op):bLk op=0:=by
 unfold bLk
 repeat rw [if_neg J]
theorem bNc(op:Int)(h:1 <= op /\ op <= 17):bLk op=aM op+1:=by
 unfold bLk aM
 split
 ·rfl
 split
 ·rfl
 split
 ·rfl
 split
 ·rfl
 split
 ·rfl
 split
 ·rfl
 rw [if_pos J]
theorem bQf(op:Int)(w:World)(he:bOp w):Calls prog 198 #[.int .i64 op] w λe w'=>e=.returned (.int .i64 (bLk op)) /\ w=w':=by
 have HE:=Lib.hid he
 clear he
 by_cases h1:op=1
 ·subst h1
  go_enter func198,Tryz.ntmps198
  go_wp2_with fail
  go_ret
  exact ⟨Y,Y⟩
 by_cases h2:op=2
 ·subst h2
  go_enter func198,Tryz.ntmps198
  go_wp2_with fail
  go_ret
  exact ⟨Y,Y⟩
 by_cases h3:op=3
 ·subst h3
  go_enter func198,Tryz.ntmps198
  go_wp2_with fail
  go_ret
  exact ⟨Y,Y⟩
 by_cases h4:op=4
 ·subst h4
  go_enter func198,Tryz.ntmps198
  go_wp2_with fail
  go_ret
  exact ⟨Y,Y⟩
 have b1:(op == 1)=false:=C2
 have b2:(op == 2)=false:=B4
 have b3:(op == 3)=false:=DL
 have b4:(op == 4)=false:=by simpa using h4
 by_cases hneg:op<0
 ·have hd:decide (op<0)=true:=by simpa using hneg
  have hs:=bOt op (.inl hneg)
  rw [hs]
  clear hs h1 h2 h3 h4
  go_enter func198,Tryz.ntmps198
  go_wp2_with fail
  go_ret
  exact ⟨Y,Y⟩
 have hd:decide (op<0)=false:=by simpa using hneg
 by_cases hbig:18 <= op
 ·have hd2:decide (18 <= op)=true:=by simpa using hbig
  have hs:=bOt op (.inr hbig)
  rw [hs]
  clear hs h1 h2 h3 h4
  go_enter func198,Tryz.ntmps198
  go_wp2_with fail
  go_ret
  exact ⟨Y,Y⟩
 obtain ⟨j,rfl⟩:∃j:Nat,op=j:=⟨op.toNat,J⟩
 have hj:j<bLb.length:=by simp [bLb];omega
 have hs:=bQb j hj J J J J
 have hc:=HE.out.signs j hj
 have hd2:decide ((18:Int) <= j)=false:=by simpa using hbig
 have hlt:(j:Int)<18:=J
 obtain ⟨s,hs2⟩:∃s,s=bLb[j]:=⟨_,rfl⟩
 rw [←hs2] at hs hc
 rw [←hs]
 clear hs h1 h2 h3 h4 hs2
 go_enter func198,Tryz.ntmps198
 go_wp2_with fail
 refine (aDq s w).mono ?_
 rintro e w' ⟨rfl,rfl⟩
 go_wp2_with fail
 go_ret
 exact ⟨Y,Y⟩
structure bM9 (w:World):Prop where
 words:∀j (h:j<words.length),w.cell? ⟨0,j,none⟩=some (.string words[j])
 maxLen:∃m:Int,w.cell? ⟨2,0,none⟩=some (.int .i64 m)
 signs:bOp w
 tab : Lib.TabIs prog w "internal/strconv.uint64pow10" .u64 Lib.pow10Tab
theorem bM9.up{w w':World}(h:bM9 w)(hu:Up2 w w'):bM9 w':=by
 refine ⟨λj hj=>hu.1 _ _ (h.words j hj),h.maxLen.imp λm hm=>hu.1 _ _ hm,⟨λj hj=>hu.1 _ _ (h.signs.signs j hj)⟩,?_⟩
 have h1:=h.tab
 unfold Lib.TabIs World.var? at h1⊢
 cases hg : prog.globalNamed "internal/strconv.uint64pow10" with
 |none=>rw [hg] at h1;exact absurd h1 G0
 |some g=>
  rw [hg,Option.bind_some] at h1
  rw [Option.bind_some]
  cases hb:w.heap[g]? with
  |none=>rw [hb] at h1;exact absurd h1 G0
  |some o=>
   rw [hb] at h1
   cases o with
   |cells cs t fz=>
    simp only [Option.some.injEq] at h1
    subst h1
    rw [hu.2 g _ t fz hb (by rw [List.size_toArray,List.length_map];decide)]
   |_=>exact absurd h1 G0
abbrev bK5(t:AT):AT:=.ride t bM9
theorem bL3{w:World}{t u:AT}{p:World -> Prop}{v0 v:Value}(h0:dO w (.ride t p) v0)(h:dO w u v):dO w (.ride u p) v:=by
 cases h0 with|ride _ _ _ _ hp=>exact .ride _ _ _ h hp
theorem bMx{bl:List Nat}{w:World}{t:AT}{p:World -> Prop}{v:Value}(h:dO (bI bl w) (.ride t p) v):p w:=by
 cases h with|ride _ _ _ _ hp=>exact hp w (bRm bl w)
theorem bNx{w:World}{t:AT}{p:World -> Prop}{v:Value}(h:dO w (.ride t p) v):p w:=by
 cases h with|ride _ _ _ _ hp=>exact hp w ⟨λ_ _ h=>h,λ_ _ _ _ h _=>h⟩
theorem bOr{w:World}{t:AT}{v:Value}(h:dO w t v)(he:bM9 w):dO w (bK5 t) v:=.ride _ _ _ h λ_ hu=>he.up hu
theorem bPv{t:AT}{p:World -> Prop}:Wk (.ride t p) t:=λw v h=>by cases h with|ride _ _ _ h _=>exact h
theorem bQv{w:World}{t u:AT}{v0 v:Value}(h0:dO w (bK5 t) v0)(h:dO w u v):∃m,dO w (aA2 u m) v:=by
 have he:=bNx h0
 obtain ⟨m,hm⟩:=he.maxLen
 refine ⟨m,.fact _ _ _ _ [.int .i64 m] _ (.fact _ _ _ _ (words.map .string) _ h ?_ ?_) ?_ ?_⟩
 ·have h9:=gU w (words.map .string) AW
  rw [List.map_map] at h9;exact h9
 ·intro j u hj
  have hjl:j<words.length:=by have:=(List.getElem?_eq_some_iff.1 hj).1;simpa using this
  rw [Nat.zero_add,he.words j hjl]
  rw [List.getElem?_map,List.getElem?_eq_getElem hjl] at hj
  exact hj
 ·exact gU _ [.int .i64 m] (λu hu=>by simp at hu;subst hu;rfl)
 intro j u hj
 match j,hj with
 |0,hj=>simp at hj;subst hj;exact hm
 |j+1,hj=>simp at hj
section
variable {P:Program}{U T:List Nat}{o:Oper}{n d:Nat}{ts:List (Nat×AT)}{s:Sto}{K:AS -> Prop}{p:World -> Prop}{t0 u:AT}{us:List AT}{ops:Array Oper}{l:List Oper}{Q:Exit -> AS -> Prop}
theorem bMg{F:FuncId}{ars:Array Operand}{tys:Array TypeId}(i0:Nat)(T':List Nat){QQ:AT -> Sto -> Prop}(ho:o.op=.call {callee:=.value (.func F),args:=ars,argTypes:=tys})(hd:o.dst=some d)(hn:d<n)
  (hcf:∀args w,(callFunc F args).run P w=.ok (.enter F args) w) (hl:look ts i0=some (.ride t0 p)) (has:ars.toList.map (evA ⟨n,T,s,ts⟩)=(u::us).map some) (hc:aL P F (.ride u p::us) T' s QQ) (hT:∀b,b∈T' -> b∈T) (hTb:∀b,b∈T' -> b∈s.bl) (hU:s.bl.Nodup -> ∀b,b∈T' -> b∈U)
  (h:∀r s',QQ r s' -> K ⟨n,T,s',(d,r)::ts⟩):AO P U o ⟨n,T,s,ts⟩ K:=by
 intro a w hs KK QQ' hK
 obtain ⟨h1,h2⟩:=rU hs has
 obtain ⟨v0,-,hv0⟩:=hs.tm i0 _ hl
 refine aCf (st:=⟨n,T,s,ts⟩) (ts:=.ride u p::us) hs hd hn h1 (λi hi hi'=>?_) ?_ hc hT hTb hU h KK QQ' hK
 ·match i,hi with
  |0,hi=>exact bL3 hv0 (h2 0 G0 hi')
  |i+1,hi=>exact h2 (i+1) B3 hi'
 ·simp only [execOp,ho,resolve,Deferred.ofValue,Act.eval,Sem.run_bind,Sem.run_pure,Result.andThen_ok,invoke]
  rw [hcf]
  congr 2
  rw [←Array.toList_inj];simp
theorem bN9{F:FuncId}{ars:Array Operand}{tys:Array TypeId}(i0:Nat)(T':List Nat){QQ:AT -> Sto -> Prop}(ho:o.op=.call {callee:=.value (.func F),args:=ars,argTypes:=tys})(hd:o.dst=some d)(hn:d<n)
  (hcf:∀args w,(callFunc F args).run P w=.ok (.enter F args) w) (hl:look ts i0=some (bK5 t0)) (has:ars.toList.map (evA ⟨n,T,s,ts⟩)=(u::us).map some) (hc:∀m,aL P F (aA2 u m::us) T' s QQ) (hT:∀b,b∈T' -> b∈T) (hTb:∀b,b∈T' -> b∈s.bl) (hU:s.bl.Nodup -> ∀b,b∈T' -> b∈U)
  (h:∀r s',QQ r s' -> K ⟨n,T,s',(d,r)::ts⟩):AO P U o ⟨n,T,s,ts⟩ K:=by
 intro a w hs KK QQ' hK
 obtain ⟨h1,h2⟩:=rU hs has
 obtain ⟨v0,-,hv0⟩:=hs.tm i0 _ hl
 obtain ⟨m,hm⟩:=bQv hv0 (h2 0 G0 (by rw [h1];simp))
 refine aCf (st:=⟨n,T,s,ts⟩) (ts:=aA2 u m::us) hs hd hn h1 (λi hi hi'=>?_) ?_ (hc m) hT hTb hU h KK QQ' hK
 ·match i,hi with
  |0,hi=>exact hm
  |i+1,hi=>exact h2 (i+1) B3 hi'
 ·simp only [execOp,ho,resolve,Deferred.ofValue,Act.eval,Sem.run_bind,Sem.run_pure,Result.andThen_ok,invoke]
  rw [hcf]
  congr 2
  rw [←Array.toList_inj];simp
theorem bRz{F:FuncId}{x:Operand}{cap:Array Value}{ars:Array Operand}{tys:Array TypeId}(i0:Nat)(T':List Nat){QQ:AT -> Sto -> Prop}(ho:o.op=.call {callee:=.value x,args:=ars,argTypes:=tys})(hx:evA ⟨n,T,s,ts⟩ x=some (Cv (.func (.func F) #[] cap)))(hd:o.dst=some d)(hn:d<n)
  (hcf:∀args w,(callFunc F args).run P w=.ok (.enter F args) w) (hl:look ts i0=some (.ride t0 p)) (has:ars.toList.map (evA ⟨n,T,s,ts⟩)=(u::us).map some) (hc:aL P F (.ride u p::(us++cap.toList.map cst)) T' s QQ) (hT:∀b,b∈T' -> b∈T) (hTb:∀b,b∈T' -> b∈s.bl) (hU:s.bl.Nodup -> ∀b,b∈T' -> b∈U)
  (h:∀r s',QQ r s' -> K ⟨n,T,s',(d,r)::ts⟩):AO P U o ⟨n,T,s,ts⟩ K:=by
 intro a w hs KK QQ' hK
 obtain ⟨h1,h2⟩:=rU hs has
 obtain ⟨v0,-,hv0⟩:=hs.tm i0 _ hl
 obtain ⟨d1,d2⟩:=aA7 (bI s.bl w) cap.toList
 have h3:(ars.toList.map a.eval).length=(AT.ride u p::us).length /\ ∀i (h:i<(AT.ride u p::us).length) (h':i<(ars.toList.map a.eval).length),dO (bI s.bl w) (AT.ride u p::us)[i] (ars.toList.map a.eval)[i]:=by
  refine ⟨h1,λi hi hi'=>?_⟩
  match i,hi with
  |0,hi=>exact bL3 hv0 (h2 0 G0 hi')
  |i+1,hi=>exact h2 (i+1) B3 hi'
 obtain ⟨g3,g4⟩:=aBo h3.1 h3.2 d1 d2
 refine aCf (st:=⟨n,T,s,ts⟩) (ts:=.ride u p::(us++cap.toList.map cst)) hs hd hn g3 g4 ?_ hc hT hTb hU h KK QQ' hK
 simp only [execOp,ho,resolve,hs.val hx,Deferred.ofValue,Sem.run_bind,Sem.run_pure,Result.andThen_ok,invoke]
 rw [hcf]
 congr 2
 rw [←Array.toList_inj];simp
theorem noT{X:List Nat}:∀b,b∈([]:List Nat) -> b∈X:=λ_ h=>DV
theorem wcR{F:FuncId}{ars:Array Operand}{tys:Array TypeId}{r:AT}(i0:Nat)(h0:(fC ops o ⟨n,T,s,ts⟩,o.op,o.dst,Nat.blt d n,look ts i0)=(some true,.call {callee:=.value (.func F),args:=ars,argTypes:=tys},some d,true,some (.ride t0 p)))
  (hcf:∀args w,(callFunc F args).run P w=.ok (.enter F args) w) (has:ars.toList.map (evA ⟨n,T,s,ts⟩)=(u::us).map some) (hc:aL P F (.ride u p::us) [] s λt s'=>t=r /\ s'=s) (h:eQ P ops l ⟨n,T,s,(d,r)::ts⟩ Q):eQ P ops (o::l) ⟨n,T,s,ts⟩ Q:=by
 simp only [Prod.mk.injEq] at h0
 exact wo h0.1 (bMg i0 [] h0.2.1 h0.2.2.1 (Nat.le_of_ble_eq_true h0.2.2.2.1) hcf h0.2.2.2.2 has hc noT noT (λ_=>noT) λr s' ⟨h1,h2⟩=>Ej)
theorem bK8{F:FuncId}{ars:Array Operand}{tys:Array TypeId}{b c:Bool}(i0:Nat)(h0:(fC ops o ⟨n,T,s,ts⟩,o.op,o.dst,Nat.blt d n,look ts i0)=(some true,.call {callee:=.value (.func F),args:=ars,argTypes:=tys},some d,true,some (.ride t0 p)))
  (hcf:∀args w,(callFunc F args).run P w=.ok (.enter F args) w) (has:ars.toList.map (evA ⟨n,T,s,ts⟩)=(u::us).map some) (hc:aL P F (.ride u p::us) [] s λt s'=>t=Cb b /\ s'=s) (hb:b=c) (h:eQ P ops l ⟨n,T,s,(d,Cb c)::ts⟩ Q):eQ P ops (o::l) ⟨n,T,s,ts⟩ Q:=by
 subst hb;exact wcR i0 h0 hcf has hc h
theorem wc1{F:FuncId}{ars:Array Operand}{tys:Array TypeId}{r:AT}(h0:(fC ops o ⟨n,T,s,ts⟩,o.op,o.dst,Nat.blt d n)=(some true,.call {callee:=.value (.func F),args:=ars,argTypes:=tys},some d,true))
  (hcf:∀args w,(callFunc F args).run P w=.ok (.enter F args) w) (has:ars.toList.map (evA ⟨n,T,s,ts⟩)=us.map some) (hc:aL P F us [] s λt s'=>t=r /\ s'=s) (h:eQ P ops l ⟨n,T,s,(d,r)::ts⟩ Q):eQ P ops (o::l) ⟨n,T,s,ts⟩ Q:=by
 simp only [Prod.mk.injEq] at h0
 exact wo h0.1 (bD [] h0.2.1 h0.2.2.1 (Nat.le_of_ble_eq_true h0.2.2.2) hcf has hc noT noT (λ_=>noT) λr s' ⟨h1,h2⟩=>Ej)
theorem bOu{F:FuncId}{ars:Array Operand}{tys:Array TypeId}{b c:Bool}(h0:(fC ops o ⟨n,T,s,ts⟩,o.op,o.dst,Nat.blt d n)=(some true,.call {callee:=.value (.func F),args:=ars,argTypes:=tys},some d,true))
  (hcf:∀args w,(callFunc F args).run P w=.ok (.enter F args) w) (has:ars.toList.map (evA ⟨n,T,s,ts⟩)=us.map some) (hc:aL P F us [] s λt s'=>t=Cb b /\ s'=s) (hb:b=c) (h:eQ P ops l ⟨n,T,s,(d,Cb c)::ts⟩ Q):eQ P ops (o::l) ⟨n,T,s,ts⟩ Q:=by
 subst hb;exact wc1 h0 hcf has hc h
theorem bRr{t e:TypeId}{y:Operand}{k:IntKind}{i:Int}{N:Nat}(i0 j:Nat)(ho:o.op=.indexAddr t (.global 3) y)(hl:look ts i0=some (bK5 t0))(hy:evA ⟨n,T,s,ts⟩ y=some (Cv (.int k i)))(hi:i=j)(hj:j<bLb.length)(hN:bLb.length=N)
  (hu:∀w,(underlying t).run P w=.ok (.array N e) w) (hS:∀w,(sizeOf e).run P w=.ok 1 w):AY P U o ⟨n,T,s,ts⟩ (.el [Vs (bLb[j])]):=by
 intro a w hs _
 subst hi;subst hN
 obtain ⟨v0,-,hv0⟩:=hs.tm i0 _ hl
 have he:=(bNx hv0).signs.signs j hj
 refine ⟨.pointer (some ⟨3,j,none⟩),.el _ _ _ [.string bLb[j]] (gU _ [.string bLb[j]] (λu hu=>by simp at hu;subst hu;rfl)) (λi u hu=>?_) (gV he),λw' _=>?_⟩
 ·match i,hu with
  |0,hu=>simp at hu;subst hu;exact he
  |i+1,hu=>simp at hu
 ·simp only [execOp,ho,hs.val hy,show a.eval (.global 3)=.pointer (some ⟨3,0,none⟩) from rfl,Instr.indexAt,asIntOf,Sem.run_bind,Sem.run_pure,Result.andThen_ok,hu]
  simp [go_sem,hS,hj,oU]
end
end
section
def aPn(t:Tok):Prop:=(t.kind=3 -> dA t.text=true) /\ (t.kind=4 -> dA t.text=false) /\ t.num <= 9223372036854775807
theorem aBk:∀(r:List UInt8)(n m:Nat),n <= 9223372036854775807 -> iT n r=some m -> m <= 9223372036854775807
 |[],n,m,h,he=>by unfold iT at he;cases he;exact h
 |c::r,n,m,h,he=>by
  unfold iT at he
  split at he
  ·cases he
  exact aBk r _ m (by have:=c.toNat_lt;omega) he
theorem aKj:∀x,x∈words -> fU (x.data.toList.headD 0)=true:=V
theorem aKh{c:UInt8}{r:List UInt8}(h:fU c=false){n:Nat}(hn:n≠0):dA (bytes ((c::r).take n))=false:=by
 cases hr:dA (bytes ((c::r).take n)) with
 |false=>rfl
 |true=>
  have h1:=aKj _ ((cZx _).1 hr)
  obtain ⟨m,rfl⟩:∃m,n=m+1:=⟨n-1,J⟩
  simp [bytes] at h1
  rw [h] at h1;cases h1
theorem aKe{c:UInt8}{r:List UInt8}{kind len num:Nat}(p:Nat)(h:dQ (c::r)=.tok kind len num):aPn ⟨kind,bytes ((c::r).take len),num,p⟩ /\ kind≠5:=by
 cases hc:fU c with
 |true=>
  rw [kK hc] at h
  split at h
  ·cases h
  ·injection h with h1 h2 h3
   subst h2;subst h3;subst h1
   have ht:(c::r).take ((c::r).takeWhile cT).length=(c::r).takeWhile cT:=by
    have:=List.takeWhile_prefix (l:=c::r) cT
    exact (List.prefix_iff_eq_take.1 this).symm
   rw [ht]
   refine ⟨⟨λh3=>?_,λh4=>?_,by show 0 <= _;omega⟩,?_⟩
   ·change (if dA (bytes ((c::r).takeWhile cT))=true then 3 else 1)=3 at h3
    split at h3
    ·assumption
    omega
   ·change (if dA (bytes ((c::r).takeWhile cT))=true then 3 else 1)=4 at h4
    split at h4<;>omega
   ·split<;>omega
 |false=>
  cases hd:cD c with
  |true=>
   cases hn:iT 0 ((c::r).takeWhile cD) with
   |none=>rw [nK hc hd hn] at h;cases h
   |some n=>
    rw [lP hc hd hn] at h
    injection h with h1 h2 h3
    subst h1;subst h2;subst h3
    exact ⟨⟨λh=>absurd h (show ¬(2=3) by decide),λh=>absurd h (show ¬(2=4) by decide),aBk _ _ _ J hn⟩,J⟩
  |false=>
   rw [iN hc hd] at h
   split at h
   ·cases h
   rename_i h0
   injection h with h1 h2 h3
   subst h1;subst h2;subst h3
   exact ⟨⟨λh=>absurd h (show ¬(4=3) by decide),λ_=>aKh hc h0,Nat.zero_le _⟩,J⟩
structure aX5 (l:List Tok):Prop where
 ends:rP l
 reg:∀t,t∈l -> aPn t
 few:l.length <= 4001
theorem aFf:∀(m:Nat)(s:List UInt8)(k n:Nat),s.length-k <= m -> k <= s.length -> n <= 4000 -> ∀L,kD s k n=.ok L -> (∃h:0<L.length,(L[L.length-1]'(by omega)).kind=5) /\ (∀t,t∈L -> aPn t) /\ L.length+n <= 4001
 |m,s,k,n,hm,hk,hn,L,h=>by
  by_cases he:s.length <= bF s k
  ·rw [dAd he] at h
   cases h
   refine ⟨⟨G0,Y⟩,λt ht=>?_,DR⟩
   simp at ht;subst ht
   exact ⟨λh=>DV,λh=>DV,by show 0 <= _;omega⟩
  have hlt:bF s k<s.length:=J
  cases hx:dQ (s.drop (bF s k)) with
  |err e=>rw [uY hlt hx] at h;cases h
  |tok kind len num=>
   by_cases h4:n=4000
   ·subst h4;rw [sG hlt hx] at h;cases h
   rw [nD hk hlt hx h4] at h
   have hg:=lG s k hk
   have hd:s.drop (bF s k)≠[]:=CF
   have hl:=cZy hd hx
   rw [List.length_drop] at hl
   obtain ⟨c,r,hcr⟩:=List.exists_cons_of_ne_nil hd
   rw [hcr] at hx h
   have hreg:=aKe (bF s k) hx
   cases m with
   |zero=>omega
   |succ m=>
    cases ht:kD s (bF s k+len) (n+1) with
    |err p e=>rw [ht] at h;cases h
    |ok L'=>
     rw [ht] at h
     cases h
     obtain ⟨⟨h0,h5⟩,h2,h3⟩:=aFf m s (bF s k+len) (n+1) J J J L' ht
     refine ⟨⟨G0,?_⟩,λt ht=>?_,DR⟩
     ·simp only [length_cons]
      rw [List.getElem_cons]
      rw [dif_neg J]
      simpa using h5
     rcases mem_cons.1 ht with rfl|ht
     ·exact hreg.1
     exact h2 t ht
theorem wD{s:List UInt8}{L:List Tok}(h:iH s=.ok L):aX5 L:=by
 unfold iH at h
 split at h
 ·cases h
 obtain ⟨h1,h2,h3⟩:=aFf s.length s 0 0 J J J L h
 exact ⟨h1,h2,J⟩
end
section
theorem bOa{c:UInt8}{r:List UInt8}{len num:Nat}(h:dQ (c::r)=.tok 1 len num):bQ (bytes ((c::r).take len))=true:=by
 cases hc:fU c with
 |true=>
  rw [kK hc] at h
  split at h
  ·cases h
  ·rename_i h16
   injection h with h1 h2 h3
   subst h2
   have ht:(c::r).take ((c::r).takeWhile cT).length=(c::r).takeWhile cT:=
    (List.prefix_iff_eq_take.1 (List.takeWhile_prefix (l:=c::r) cT)).symm
   rw [ht]
   have hn:cT c=true:=by simp [cT,hc]
   have hd:(bytes ((c::r).takeWhile cT)).data.toList=c::r.takeWhile cT:=by rw [List.takeWhile_cons_of_pos hn];simp [bytes]
   unfold bQ
   rw [hd]
   have hsz:(bytes ((c::r).takeWhile cT)).size=((c::r).takeWhile cT).length:=Co
   have hres:dA (bytes ((c::r).takeWhile cT))=false:=by
    cases hr:dA (bytes ((c::r).takeWhile cT)) with
    |false=>rfl
    |true=>rw [if_pos hr] at h1;omega
   have hall:(r.takeWhile cT).all cT=true:=List.all_eq_true.2 λx hx=>by
    have:=List.all_takeWhile (p:=cT) (l:=r)
    exact List.all_eq_true.1 this x hx
   simp only [hc,hall,hres,hsz,decide_eq_true (show ((c::r).takeWhile cT).length <= 16 by omega),Bool.and_self,Bool.not_false]
 |false=>
  cases hd:cD c with
  |true=>
   cases hn:iT 0 ((c::r).takeWhile cD) with
   |none=>rw [nK hc hd hn] at h;cases h
   |some n=>rw [lP hc hd hn] at h;injection h with h1;omega
  |false=>
   rw [iN hc hd] at h
   split at h
   ·cases h
   injection h with h1;omega
theorem bNf:∀(m:Nat)(s:List UInt8)(k n:Nat),s.length-k <= m -> k <= s.length -> ∀L,kD s k n=.ok L -> ∀t,t∈L -> t.kind=1 -> bQ t.text=true
 |m,s,k,n,hm,hk,L,h,t,ht,h1=>by
  by_cases he:s.length <= bF s k
  ·rw [dAd he] at h
   cases h
   simp at ht;subst ht;cases h1
  have hlt:bF s k<s.length:=J
  cases hx:dQ (s.drop (bF s k)) with
  |err e=>rw [uY hlt hx] at h;cases h
  |tok kind len num=>
   by_cases h4:n=4000
   ·subst h4;rw [sG hlt hx] at h;cases h
   rw [nD hk hlt hx h4] at h
   have hg:=lG s k hk
   have hd:s.drop (bF s k)≠[]:=CF
   have hl:=cZy hd hx
   rw [List.length_drop] at hl
   obtain ⟨c,r,hcr⟩:=List.exists_cons_of_ne_nil hd
   rw [hcr] at hx h
   cases m with
   |zero=>omega
   |succ m=>
    cases hq:kD s (bF s k+len) (n+1) with
    |err p e=>rw [hq] at h;cases h
    |ok L'=>
     rw [hq] at h
     cases h
     rcases mem_cons.1 ht with rfl|ht
     ·dsimp only at h1
      subst h1
      exact bOa hx
     exact bNf m s (bF s k+len) (n+1) J J L' hq t ht h1
theorem bO7{s:List UInt8}{L:List Tok}(h:iH s=.ok L):∀t,t∈L -> t.kind=1 -> bQ t.text=true:=by
 unfold iH at h
 split at h
 ·cases h
 exact bNf s.length s 0 0 J J L h
theorem bMf{p:UInt8 -> Bool}:∀{l:List UInt8},(∀x,x∈l -> p x=true) -> l.takeWhile p=l
 |[],_=>rfl
 |x::l,h=>by rw [List.takeWhile_cons_of_pos (h x G0),bMf λy hy=>h y (by simp [hy])]
theorem bP2{c:UInt8}(h:fU c=true):isSp c=false /\ c≠47:=by
 unfold fU at h
 rw [decide_eq_true_eq] at h
 refine ⟨by unfold isSp;rw [decide_eq_false_iff_not];omega,?_⟩
 rintro rfl
 revert h;decide
theorem bNq{s:ByteArray}(h:bQ s=true):iH s.data.toList=.ok [⟨1,s,0,0⟩,⟨5,⟨#[]⟩,0,s.size⟩]:=by
 unfold bQ at h
 have hsz:s.size=s.data.toList.length:=Y
 have hb:bytes s.data.toList=s:=Dn
 rw [hsz] at h⊢
 cases hd:s.data.toList with
 |nil=>rw [hd] at h;simp at h
 |cons c r=>
  rw [hd] at h hb
  simp only [Bool.and_eq_true,decide_eq_true_eq,Bool.not_eq_true'] at h
  obtain ⟨⟨⟨h1,h2⟩,h3⟩,h4⟩:=h
  have hall:(c::r).takeWhile cT=c::r:=bMf (by
   intro x hx
   rcases mem_cons.1 hx with rfl|hx
   ·simp [cT,h1]
   exact List.all_eq_true.1 h2 x hx)
  have hk:bF (c::r) 0=0:=zX _ 0 G0 (bP2 h1).1 (λh=>(bP2 h1).2 h.1)
  unfold iH
  rw [if_neg J,kD,hk,if_neg G0,List.drop_zero,kK h1,hall,if_neg J]
  dsimp only
  rw [if_neg J,dif_pos ⟨G0,G0⟩,kD,aA5 _ _ G0,if_pos (Nat.le_refl _),List.take_length,hb,h4]
  rfl
theorem bL0{s:ByteArray}{L:List Tok}(h:iH s.data.toList=.ok L):(L.length=2 /\ ∃h0:0<L.length,L[0].kind=1 /\ L[0].text=s)↔bQ s=true:=by
 constructor
 ·rintro ⟨_,h0,h1,h2⟩
  rw [←h2]
  exact bO7 h _ (getElem_mem _) h1
 intro hn
 rw [bNq hn] at h
 cases h
 exact ⟨Y,G0,Y,Y⟩
theorem bOs{s:ByteArray}{p e:Nat}(h:iH s.data.toList=.err p e):bQ s=false:=by
 cases hn:bQ s with
 |false=>rfl
 |true=>rw [bNq hn] at h;cases h
end
section
open Go.RowKit
theorem bNt{F:FuncId}{u0:Value}{us:List Value}{u:Value}(h1:u.oneCell'=true)(h:∀w,bM9 w -> Calls prog F (u0::us).toArray w λe w'=>e=.returned u /\ w=w')(s:Sto):aL prog F (bK5 (Cv u0)::us.map λu=>Cv u) [] s λr s'=>r=Cv u /\ s'=s:=by
 intro vs w hm _ hl hr
 cases vs with
 |nil=>cases hl
 |cons v vs=>
  have h0:dO (bI s.bl w) (bK5 (Cv u0)) v:=hr 0 G0 G0
  obtain rfl:=(bPv _ _ h0).val
  obtain rfl:vs=us:=by
   refine List.ext_getElem Dm λi h1 h2=>?_
   have h3:=hr (i+1) B4 C2
   simp only [List.getElem_cons_succ,List.getElem_map] at h3
   exact h3.val
  exact (h w (bMx h0)).mono λe w' ⟨h2,h3⟩=>CE
theorem bOf(op:Int)(s:Sto):aL prog 198 [bK5 (Ci op)] [] s λr s'=>r=Ci ((bLk op:Nat):Int) /\ s'=s:=
 bNt (us:=[]) rfl (λw he=>bQf op w he.signs) s
theorem bPh{op:Int}(h:bLk op=7):op=1∨op=2:=by
 unfold bLk at h;(repeat' split at h)<;>omega
theorem bSc{op:Int}(h:bLk op=6):op=3∨op=4:=by
 unfold bLk at h;(repeat' split at h)<;>omega
theorem bNd(op:Int):bLk op <= 7:=by unfold bLk;(repeat' split)<;>omega
theorem bR4{op:Int}(h:bLk op=0):¬(1 <= op /\ op <= 17):=by
 unfold bLk at h;(repeat' split at h)<;>omega
theorem bN2{op:Int}(h:¬bLk op=0):1 <= op /\ op <= 17:=by
 unfold bLk at h;(repeat' split at h)<;>omega
def bLj(e:aH):Bool:=
 if bLk e.op=0 then false else if bLk e.op=7 then decide (e.args.length=0) && jG e.op e.num e.name
 else decide (e.args.length=if bLk e.op=6 then 1 else 2) && decide (e.num=0) && decide (e.name=aK) && dY e.args
theorem bK7(e:aH):eO e=bLj e:=by
 rw [dZ]
 unfold bLj
 by_cases h0:bLk e.op=0
 ·have h1:=bR4 h0
  have hs:aM e.op=6:=D9
  have hl:jG e.op e.num e.name=false:=by
   unfold jG
   rw [decide_eq_false (show ¬(e.op=1 /\ 0 <= e.num) by omega),decide_eq_false (show ¬(e.op=2 /\ e.num=0) by omega)];rfl
  rw [if_pos h0,if_pos hs,hl];rfl
 have hop:=bN2 h0
 have h2:=bNc e.op hop
 rw [if_neg h0]
 by_cases h7:bLk e.op=7
 ·rw [if_pos h7,if_pos J]
  unfold arity
  rw [if_pos J]
  cases ha:e.args with
  |nil=>simp [dY]
  |cons x l=>simp
 rw [if_neg h7,if_neg (by have:=bNd e.op;omega)]
 unfold arity
 rw [if_neg (by have:=bNd e.op;omega)]
 by_cases h6:bLk e.op=6
 ·rw [if_pos h6,if_pos J]
  cases decide (e.num=0)<;>cases decide (e.name=aK)<;>cases dY e.args<;>simp
 rw [if_neg h6,if_neg J]
 cases decide (e.num=0)<;>cases decide (e.name=aK)<;>cases dY e.args<;>simp
theorem bPx:∀{l:List aH} (h:l.length=1),dY l=eO (l[0]'(by omega))
 |[x],_=>by simp [dY]
theorem bOm:∀{l:List aH} (h:l.length=2),dY l=(eO (l[0]'(by omega)) && eO (l[1]'(by omega)))
 |[x,y],_=>by simp [dY]
theorem bLd{e:aH}(h:eO e=true):(1 <= e.op /\ e.op <= 17) /\ ∀k (hk:k<e.args.length),eO e.args[k]=true:=by
 refine ⟨bN2 λh0=>?_,λk hk=>?_⟩
 ·rw [bK7] at h;unfold bLj at h;rw [if_pos h0] at h;cases h
 cases hs:eO e.args[k] with
 |true=>rfl
 |false=>
  rw [dZ,oF _ _ _ hs,Bool.and_false] at h;cases h
theorem bOl(e:aH)(k:Nat)(hk:k<e.args.length)(ho:1 <= e.op /\ e.op <= 17)(hok:1 <= e.args[k].op /\ e.args[k].op <= 17)(s:Sto):aL prog 200 [bK5 (.agg (cU e)),nI k] [] s λt s'=>t=Cb (cV e.op k e.args[k].op) /\ s'=s:=by
 obtain ⟨bx,rw⟩:=s
 refine acX 29 func200 ?_
 refine go 7 λb1=>?_
 refine dx [b1] (tz [(0,true),(1,true),(2,true)] 9 (go 4 ?_))
 refine tx 3 Y (bH fO cU e.args iU fP k Y Y Y Y J V runUnderlying85 sizeOf87) (tz [(4,true),(5,true),(7,true),(8,true)] 4 (go 5 ?_))
 refine ox 6 Y Y (bMg 0 [] Y Y V call198 Y Y (bOf e.args[k].op _) bDl bDl (λ_=>bDl) ?_)
 rintro _ _ ⟨rfl,rfl⟩
 refine ox 9 Y Y (bMg 0 [] Y Y V call198 Y Y (bOf e.op _) bDl bDl (λ_=>bDl) ?_)
 rintro _ _ ⟨rfl,rfl⟩
 refine tz [(10,true),(11,true)] 0 (go 3 ?_)
 refine ax (go 3 ?_)
 have hs1:=bNc e.op ho
 have hs2:=bNc e.args[k].op hok
 refine go 2 ?_
 by_cases h3:((bLk e.args[k].op:Nat):Int)<((bLk e.op:Nat):Int)
 focus
  refine wcp true Y (jZ h3) (go 13 ?_)
 rotate_left
 focus
  refine wcp false Y (jQ h3) (go 3 ?_)
  by_cases h4:((bLk e.args[k].op:Nat):Int)=((bLk e.op:Nat):Int)
  focus
   refine wcp true Y (eR h4) (go 2 ?_)
   by_cases h5:((k:Nat):Int)=1
   focus
    refine wcp true Y (eR h5) (go 6 ?_)
   rotate_left
   refine wcp false Y (eD h5) (go 6 ?_)
  rotate_left 2
  refine wcp false Y (eD h4) (go 9 ?_)
 all_goals
  exact bHe (s':=⟨bx,rw⟩) Y sb1 ⟨cX (by unfold cV;first|exact decide_eq_true J|exact decide_eq_false J),Y⟩
theorem bP1(x:ByteArray)(hx:x.size <= 4611686018427387904)(s:Sto):aL prog 199 [bK5 (Cs x)] [] s λt s'=>t=Cb (bQ x) /\ s'=s:=by
 obtain ⟨bx,rw⟩:=s
 refine acX 35 func199 ?_
 refine go 8 ?_
 refine wo Y (aDc Y Y V Y underlying9 underlying58 underlying5 D5 (N:=x.data.toList.length) Y (cs:=iF x.data.toList) Y ?_)
 refine wo Y (bN9 0 [] Y Y V call94 Y Y (λm=>aP8 x.data.toList m _) bDl bDl (λ_=>bDl) ?_)
 rintro _ _ ⟨(⟨tl1,hlx1,rfl,htl1⟩|⟨p1,e1,hlx1,rfl,he1⟩),rfl⟩
 ·refine go 12 ?_
  refine wcp true Y B7 (go 3 ?_)
  by_cases h2:((tl1.length:Nat):Int)=2
  ·refine wcp true Y (eR h2) (go 3 ?_)
   refine wyz Y (bH aW aW tl1 bJ (λ_=>Y) 0 Y Y Y Y J V runUnderlying139 sizeOf154) (go 2 ?_)
   by_cases h3:((tl1[0].kind:Nat):Int)=1
   ·refine wcp true Y (eR h3) (go 3 ?_)
    refine wyz Y (bH aW aW tl1 bJ (λ_=>Y) 0 Y Y Y Y J V runUnderlying139 sizeOf154) (go 3 ?_)
    by_cases h4:tl1[0].text=x
    ·refine wyz Y (aZ true Y Y Y (aL8 h4)) (go 5 ?_)
     exact bHe (s':=⟨bx,rw⟩) Y sb0 ⟨cX ((bL0 hlx1).1 ⟨J,J,J,h4⟩),Y⟩
    refine wyz Y (aZ false Y Y Y (aLs h4)) (go 5 ?_)
    exact bHe (s':=⟨bx,rw⟩) Y sb0 ⟨cX (Bool.eq_false_iff.2 λhh=>D2),Y⟩
   refine wcp false Y (eD h3) (go 13 ?_)
   exact bHe (s':=⟨bx,rw⟩) Y sb0 ⟨cX (Bool.eq_false_iff.2 λhh=>D3),Y⟩
  refine wcp false Y (eD h2) (go 20 ?_)
  exact bHe (s':=⟨bx,rw⟩) Y sb0 ⟨cX (Bool.eq_false_iff.2 λhh=>D4),Y⟩
 refine go 12 ?_
 refine wcp false Y (eD J) (go 24 ?_)
 exact bHe (s':=⟨bx,rw⟩) Y sb0 ⟨cX (bOs hlx1),Y⟩
theorem bQi(e:aH)(hx:e.name.size <= 4611686018427387904)(ih:∀k (h:k<e.args.length) (s:Sto),aL prog 183 [bK5 (.agg (cU e.args[k]))] [] s λr s'=>r=Cb (eO e.args[k]) /\ s'=s)(s:Sto):aL prog 183 [bK5 (.agg (cU e))] [] s λt s'=>t=Cb (eO e) /\ s'=s:=by
 obtain ⟨bx,rw⟩:=s
 refine acX 93 func183 ?_
 refine go 11 λb1=>?_
 refine wcR 0 Y call198 Y (bOf e.op _) (go 5 ?_)
 by_cases h1:((bLk e.op:Nat):Int)=0
 ·have h7:=bPh (op:=e.op)
  have hle:=bNd e.op
  refine wcp true Y (eR h1) (go 12 ?_)
  exact bHe (s':=⟨bx,rw⟩) Y sb1 ⟨cX (by rw [bK7];unfold bLj;rw [if_pos J]),Y⟩
 have h7:=bPh (op:=e.op)
 have hle:=bNd e.op
 refine wcp false Y (eD h1) (go 6 ?_)
 by_cases h4:((bLk e.op:Nat):Int)=7
 ·refine wcp true Y (eR h4) (go 10 ?_)
  by_cases h6:(0:Int)<((e.args.length:Nat):Int)
  ·refine wcp true Y (mH h6) (go 12 ?_)
   exact bHe (s':=⟨bx,rw⟩) Y sb1 ⟨cX (by rw [bK7];unfold bLj;rw [if_neg J,if_pos J];rw [decide_eq_false J];rfl),Y⟩
  refine wcp false Y (mI h6) (go 9 ?_)
  by_cases h9:e.op=1
  ·refine wcp true Y (eR h9) (go 3 ?_)
   by_cases h10:(0:Int) <= e.num
   ·refine wcp true Y (aMq h10) (go 4 ?_)
    by_cases h11:e.name=aK
    ·refine wyz Y (aZ true Y Y Y (aL8 h11)) (go 22 ?_)
     exact bHe (s':=⟨bx,rw⟩) Y sb1 ⟨cX (by rw [bK7];unfold bLj;rw [if_neg J,if_pos J];rw [decide_eq_true (show e.args.length=0 by omega)];unfold jG;rw [decide_eq_true (show e.op=1 /\ 0 <= e.num by omega),decide_eq_true h11,decide_eq_false (show ¬(e.op=2 /\ e.num=0) by omega)];rfl),Y⟩
    refine wyz Y (aZ false Y Y Y (aLs h11)) (go 4 ?_)
    refine wcp false Y (eD J) (go 17 ?_)
    exact bHe (s':=⟨bx,rw⟩) Y sb1 ⟨cX (by rw [bK7];unfold bLj;rw [if_neg J,if_pos J];rw [decide_eq_true (show e.args.length=0 by omega)];unfold jG;rw [decide_eq_true (show e.op=1 /\ 0 <= e.num by omega),decide_eq_false h11,decide_eq_false (show ¬(e.op=2 /\ e.num=0) by omega)];rfl),Y⟩
   refine wcp false Y (aMx h10) (go 9 ?_)
   refine wcp false Y (eD J) (go 17 ?_)
   exact bHe (s':=⟨bx,rw⟩) Y sb1 ⟨cX (by rw [bK7];unfold bLj;rw [if_neg J,if_pos J];rw [decide_eq_true (show e.args.length=0 by omega)];unfold jG;rw [decide_eq_false (show ¬(e.op=1 /\ 0 <= e.num) by omega),decide_eq_false (show ¬(e.op=2 /\ e.num=0) by omega)];rfl),Y⟩
  refine wcp false Y (eD h9) (go 13 ?_)
  by_cases h12:e.op=2
  focus
   refine wcp true Y (eR h12) (go 3 ?_)
   by_cases h13:e.num=0
   ·refine wcp true Y (eR h13) (go 4 ?_)
    rcases Bool.eq_false_or_eq_true (bQ e.name) with h14|h14
    rotate_left
    all_goals
     refine bK8 0 Y call199 Y (bP1 e.name (by first|assumption|omega) _) h14 (go 8 ?_)
     exact bHe (s':=⟨bx,rw⟩) Y sb1 ⟨cX (by rw [bK7];unfold bLj;rw [if_neg J,if_pos J];rw [decide_eq_true (show e.args.length=0 by omega)];unfold jG;rw [decide_eq_false (show ¬(e.op=1 /\ 0 <= e.num) by omega)];rw [decide_eq_true (show e.op=2 /\ e.num=0 by omega),h14];rfl),Y⟩
   refine wcp false Y (eD h13) (go 13 ?_)
  rotate_left
  refine wcp false Y (eD h12) (go 17 ?_)
  all_goals
   exact bHe (s':=⟨bx,rw⟩) Y sb1 ⟨cX (by rw [bK7];unfold bLj;rw [if_neg J,if_pos J];rw [decide_eq_true (show e.args.length=0 by omega)];unfold jG;rw [decide_eq_false (show ¬(e.op=1 /\ 0 <= e.num) by omega)];rw [decide_eq_false (show ¬(e.op=2 /\ e.num=0) by omega)];rfl),Y⟩
 refine wcp false Y (eD h4) (go 6 ?_)
 by_cases h16:((bLk e.op:Nat):Int)=6
 ·refine wcp true Y (eR h16) (go 9 ?_)
  by_cases h18:((e.args.length:Nat):Int)=1
  ·refine wcp true Y (eR h18) (go 3 ?_)
   by_cases h19:e.num=0
   ·refine wcp true Y (eR h19) (go 4 ?_)
    by_cases h20:e.name=aK
    ·refine wyz Y (aZ true Y Y Y (aL8 h20)) (go 4 ?_)
     refine wyz Y (bH fO cU e.args iU fP 0 Y Y Y Y J V runUnderlying85 sizeOf87) (go 1 ?_)
     rcases Bool.eq_false_or_eq_true (eO e.args[0]) with h21|h21
     rotate_left
     all_goals
      refine bK8 0 Y call183 Y (ih 0 J _) h21 (go 7 ?_)
      exact bHe (s':=⟨bx,rw⟩) Y sb1 ⟨cX (by rw [bK7];unfold bLj;rw [if_neg J,if_neg J,if_pos J];rw [decide_eq_true J,decide_eq_true (show e.num=0 by omega),decide_eq_true h20,bPx J,h21];rfl),Y⟩
    refine wyz Y (aZ false Y Y Y (aLs h20)) (go 14 ?_)
    exact bHe (s':=⟨bx,rw⟩) Y sb1 ⟨cX (by rw [bK7];unfold bLj;rw [if_neg J,if_neg J,if_pos J];rw [decide_eq_true J,decide_eq_true (show e.num=0 by omega),decide_eq_false h20];rfl),Y⟩
   refine wcp false Y (eD h19) (go 19 ?_)
   exact bHe (s':=⟨bx,rw⟩) Y sb1 ⟨cX (by rw [bK7];unfold bLj;rw [if_neg J,if_neg J,if_pos J];rw [decide_eq_true J,decide_eq_false (show ¬e.num=0 by omega)];rfl),Y⟩
  refine wcp false Y (eD h18) (go 23 ?_)
  exact bHe (s':=⟨bx,rw⟩) Y sb1 ⟨cX (by rw [bK7];unfold bLj;rw [if_neg J,if_neg J,if_pos J];rw [decide_eq_false J];rfl),Y⟩
 refine wcp false Y (eD h16) (go 12 ?_)
 by_cases h23:((e.args.length:Nat):Int)=2
 ·refine wcp true Y (eR h23) (go 3 ?_)
  by_cases h24:e.num=0
  ·refine wcp true Y (eR h24) (go 4 ?_)
   by_cases h25:e.name=aK
   ·refine wyz Y (aZ true Y Y Y (aL8 h25)) (go 4 ?_)
    refine wyz Y (bH fO cU e.args iU fP 0 Y Y Y Y J V runUnderlying85 sizeOf87) (go 1 ?_)
    rcases Bool.eq_false_or_eq_true (eO e.args[0]) with h26|h26
    ·refine bK8 0 Y call183 Y (ih 0 J _) h26 (go 4 ?_)
     refine wyz Y (bH fO cU e.args iU fP 1 Y Y Y Y J V runUnderlying85 sizeOf87) (go 1 ?_)
     rcases Bool.eq_false_or_eq_true (eO e.args[1]) with h27|h27
     rotate_left
     all_goals
      refine bK8 0 Y call183 Y (ih 1 J _) h27 (go 5 ?_)
      exact bHe (s':=⟨bx,rw⟩) Y sb1 ⟨cX (by rw [bK7];unfold bLj;rw [if_neg J,if_neg J,if_neg J];rw [decide_eq_true J,decide_eq_true (show e.num=0 by omega),decide_eq_true h25,bOm J,h26,h27];rfl),Y⟩
    refine bK8 0 Y call183 Y (ih 0 J _) h26 (go 12 ?_)
    exact bHe (s':=⟨bx,rw⟩) Y sb1 ⟨cX (by rw [bK7];unfold bLj;rw [if_neg J,if_neg J,if_neg J];rw [decide_eq_true J,decide_eq_true (show e.num=0 by omega),decide_eq_true h25,bOm J,h26];rfl),Y⟩
   refine wyz Y (aZ false Y Y Y (aLs h25)) (go 19 ?_)
   exact bHe (s':=⟨bx,rw⟩) Y sb1 ⟨cX (by rw [bK7];unfold bLj;rw [if_neg J,if_neg J,if_neg J];rw [decide_eq_true J,decide_eq_true (show e.num=0 by omega),decide_eq_false h25];rfl),Y⟩
  refine wcp false Y (eD h24) (go 24 ?_)
  exact bHe (s':=⟨bx,rw⟩) Y sb1 ⟨cX (by rw [bK7];unfold bLj;rw [if_neg J,if_neg J,if_neg J];rw [decide_eq_true J,decide_eq_false (show ¬e.num=0 by omega)];rfl),Y⟩
 refine wcp false Y (eD h23) (go 28 ?_)
 exact bHe (s':=⟨bx,rw⟩) Y sb1 ⟨cX (by rw [bK7];unfold bLj;rw [if_neg J,if_neg J,if_neg J];rw [decide_eq_false J];rfl),Y⟩
theorem bM1{e:aH}(h:e.sane):e.name.size <= 4611686018427387904 /\ iI e.args:=by cases e;rw [aH.sane] at h;first|exact ⟨h.2.2.1,h.2.2.2⟩|exact ⟨h.2.1,h.2.2⟩|exact ⟨h.1,h.2⟩
theorem bO9:∀(N:Nat)(e:aH),e.nodes <= N -> e.sane -> ∀s:Sto,aL prog 183 [bK5 (.agg (cU e))] [] s λr s'=>r=Cb (eO e) /\ s'=s
 |0,e,h,_,_=>Bm
 |N+1,e,h,hs,s=>bQi e (bM1 hs).1 (λk hk s=>bO9 N e.args[k] B0 (mV _ (bM1 hs).2 _ (getElem_mem _)) s) s
theorem bN7(e:aH)(hN:e.nodes <= 1000000000)(hsh:eO e=true)(ih:∀k (h:k<e.args.length) (s:Sto),aL prog 184 [bK5 (.agg (cU e.args[k]))] [] s λr s'=>r=Ci ((dI e.args[k]:Nat):Int) /\ s'=s)(s:Sto):aL prog 184 [bK5 (.agg (cU e))] [] s λt s'=>t=Ci ((dI e:Nat):Int) /\ s'=s:=by
 obtain ⟨bx,rw⟩:=s
 have hlen:=uC e
 refine acX 34 func184 ?_
 refine go 21 λb1=>?_
 refine oC (e.args.length) 9 (λk=>[(3,Ci ((bSm e.op 0 (e.args.take (k)):Nat):Int)),(0,bK5 (.agg (cU e))),(1,pP b1),(8,nI e.args.length)]) (sA Y) λk hk=>?_
 show AWp prog _ ⟨34,_,_,(9,nI k)::[(3,Ci ((bSm e.op 0 (e.args.take (k)):Nat):Int)),(0,bK5 (.agg (cU e))),(1,pP b1),(8,nI e.args.length)]⟩ _
 refine go 2 ?_
 by_cases h1:((k:Nat):Int)<((e.args.length:Nat):Int)
 ·refine wcp true Y (jZ h1) (go 16 ?_)
  have hle:=aBa _ e.args[k] (Nat.le_refl _)
  have hnk:=sF e k J
  have hmx:=kF e.op e.args k J
  refine go 3 ?_
  refine wyz Y (bH fO cU e.args iU fP k Y Y Y Y J V runUnderlying85 sizeOf87) (go 1 ?_)
  refine wcR 0 Y call184 Y (ih k J _) (go 8 ?_)
  rcases Bool.eq_false_or_eq_true (cV e.op k e.args[k].op) with h3|h3
  focus
   refine bK8 0 Y call200 Y (bOl e k J (bLd hsh).1 (bLd ((bLd hsh).2 k J)).1 _) h3 (go 5 ?_)
   refine wad Y (go 6 ?_)
  rotate_left
  refine bK8 0 Y call200 Y (bOl e k J (bLd hsh).1 (bLd ((bLd hsh).2 k J)).1 _) h3 (go 8 ?_)
  all_goals
   refine wyz Y (aNq _ Y Y Y Y) (go 5 ?_)
   refine wad Y (go 2 ?_)
   exact ⟨J,(aG Y (gQ J) (aG Y (gQ (by rw [kF _ _ _ J,h3];simp only [if_true,Bool.false_eq_true,if_false];omega)) (sA Y)))⟩
 refine wcp false Y (jQ h1) (go 12 ?_)
 have hle0:=aBa _ e (Nat.le_refl _)
 have hq:=tX e
 obtain rfl:k=e.args.length:=J
 rw [take_of_length_le (Nat.le_refl _)]
 have hsE:=bNc e.op (bLd hsh).1
 refine go 2 ?_
 refine wcR 0 Y call198 Y (bOf e.op _) ?_
 by_cases h7:((bLk e.op:Nat):Int)=6
 ·refine wcp true Y (eR h7) (go 5 ?_)
  refine wad Y (go 10 ?_)
  exact bHe (s':=⟨bx,rw⟩) Y sb1 ⟨aPy (by rw [tX,if_pos J];first|rfl|simp),Y⟩
 refine wcp false Y (eD h7) (go 12 ?_)
 exact bHe (s':=⟨bx,rw⟩) Y sb1 ⟨aPy (by rw [tX,if_neg J];first|rfl|simp),Y⟩
theorem bNv:∀(N:Nat)(e:aH),e.nodes <= N -> N <= 1000000000 -> eO e=true -> ∀s:Sto,aL prog 184 [bK5 (.agg (cU e))] [] s λr s'=>r=Ci ((dI e:Nat):Int) /\ s'=s
 |0,e,h,_,_,_=>Bm
 |N+1,e,h,hN,hs,s=>bN7 e J hs (λk hk s=>bNv N e.args[k] B0 J ((bLd hs).2 k hk) s) s
theorem bLw(e:aH)(hN:e.nodes <= 1000000000)(hs:e.sane)(s:Sto):aL prog 163 [bK5 (.agg (cU e))] [] s λt s'=>t=Cb (dM e) /\ s'=s:=by
 obtain ⟨bx,rw⟩:=s
 refine acX 10 func163 ?_
 refine go 9 λb1=>?_
 rcases Bool.eq_false_or_eq_true (eO e) with h1|h1
 ·refine bK8 0 Y call183 Y (bO9 _ e (Nat.le_refl _) hs _) h1 (go 2 ?_)
  refine wcR 0 Y call184 Y (bNv _ e (Nat.le_refl _) hN h1 _) ?_
  by_cases h2:((dI e:Nat):Int) <= 24
  ·refine wcp true Y (aPz h2) (go 5 ?_)
   exact bHe (s':=⟨bx,rw⟩) Y sb1 ⟨cX (by unfold dM;rw [h1,decide_eq_true J];rfl),Y⟩
  refine wcp false Y (aPx h2) (go 5 ?_)
  exact bHe (s':=⟨bx,rw⟩) Y sb1 ⟨cX (by unfold dM;rw [h1,decide_eq_false J];rfl),Y⟩
 refine bK8 0 Y call183 Y (bO9 _ e (Nat.le_refl _) hs _) h1 (go 9 ?_)
 exact bHe (s':=⟨bx,rw⟩) Y sb1 ⟨cX (by unfold dM;rw [h1];rfl),Y⟩
end
end Go.Proofs.YtjgeihmhppadaaaGreatDoor
