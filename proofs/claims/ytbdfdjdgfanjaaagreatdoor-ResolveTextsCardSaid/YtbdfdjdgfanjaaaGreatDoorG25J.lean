import Derived.Test.YtbdfdjdgfanjaaaGreatDoorM0J
import Derived.Test.YtbdfdjdgfanjaaaGreatDoorG24J
import Derived.KernelRfl
set_option linter.all false
set_option synthInstance.maxHeartbeats 1000000
set_option synthInstance.maxSize 1000000
namespace Go.Proofs.YtbdfdjdgfanjaaaGreatDoor
open List (length_append length_cons length_nil mem_append mem_cons not_mem_nil append_assoc getElem_mem take_of_length_le)
section
theorem cRf{r:List UInt8}{ps:List PT}(h:Lx r ps)(hr:uL r):Lx ([48]++r) (⟨2,bytes [48],0⟩::ps):=by
 have h1:=h.num 0 V hr
 rwa [show cO 0=[48] from by kernel_rfl] at h1
theorem cQr{r:List UInt8}{ps:List PT}(h:Lx r ps)(hr:uL r):Lx ([49]++r) (⟨2,bytes [49],1⟩::ps):=by
 have h1:=h.num 1 V hr
 rwa [show cO 1=[49] from by kernel_rfl] at h1
theorem cQ4{r:List UInt8}{ps:List PT}(h:Lx r ps)(hr:uL r):Lx ([50]++r) (⟨2,bytes [50],2⟩::ps):=by
 have h1:=h.num 2 V hr
 rwa [show cO 2=[50] from by kernel_rfl] at h1
def txW:List ByteArray:=[⟨#[118,97,114,32,120,32,61,32,49,59,32]⟩,⟨#[120,32,61,32,50,59,32]⟩,⟨#[121,32,61,32,120,59,32]⟩,⟨#[105,102,32,120,32,123,32,118,97,114,32,121,32,61,32,49,59,32,121,32,61,32,50,59,32,125,32]⟩,⟨#[119,104,105,108,101,32,49,32,123,32,118,97,114,32,120,32,61,32,49,59,32,125,32]⟩,⟨#[108,111,99,107,32,97,59,32]⟩,⟨#[108,111,99,107,32,98,91,120,93,59,32]⟩,⟨#[108,111,99,107,32,98,59,32]⟩,⟨#[108,111,99,107,32,97,91,48,93,59,32]⟩,⟨#[108,111,99,107,32,109,59,32]⟩,⟨#[102,40,120,44,32,109,117,116,101,120,32,109,41,59,32]⟩,⟨#[102,40,109,117,116,101,120,32,97,44,32,49,41,59,32]⟩,⟨#[103,111,32,102,40,49,44,32,109,117,116,101,120,32,98,91,49,93,41,59,32]⟩,⟨#[102,40,49,41,59,32]⟩,⟨#[109,97,105,110,40,41,59,32]⟩,⟨#[103,32,61,32,97,59,32]⟩,⟨#[103,32,61,32,103,59,32]⟩,⟨#[118,97,114,32,103,32,61,32,49,59,32]⟩,⟨#[117,110,108,111,99,107,32,102,59,32]⟩,⟨#[120,40,41,59,32]⟩,⟨#[118,97,114,32,109,32,61,32,109,59,32]⟩,⟨#[114,101,116,117,114,110,59,32]⟩]
def txS:List aJ:=[.mk 1 (bytes [120]) (.mk 1 1 aK []) .zero [] [] [],
 .mk 2 (bytes [120]) (.mk 1 2 aK []) .zero [] [] [],
 .mk 2 (bytes [121]) (.mk 2 0 (bytes [120]) []) .zero [] [] [],
 .mk 7 aK (.mk 2 0 (bytes [120]) []) .zero [] [.mk 1 (bytes [121]) (.mk 1 1 aK []) .zero [] [] [],.mk 2 (bytes [121]) (.mk 1 2 aK []) .zero [] [] []] [],
 .mk 8 aK (.mk 1 1 aK []) .zero [] [.mk 1 (bytes [120]) (.mk 1 1 aK []) .zero [] [] []] [],
 .mk 5 aK .zero ⟨(bytes [97]),[]⟩ [] [] [],
 .mk 5 aK .zero ⟨(bytes [98]),[(.mk 2 0 (bytes [120]) [])]⟩ [] [] [],
 .mk 5 aK .zero ⟨(bytes [98]),[]⟩ [] [] [],
 .mk 5 aK .zero ⟨(bytes [97]),[(.mk 1 0 aK [])]⟩ [] [] [],
 .mk 5 aK .zero ⟨(bytes [109]),[]⟩ [] [] [],
 .mk 3 (bytes [102]) .zero .zero [⟨false,.zero,(.mk 2 0 (bytes [120]) [])⟩,⟨true,⟨(bytes [109]),[]⟩,.zero⟩] [] [],
 .mk 3 (bytes [102]) .zero .zero [⟨true,⟨(bytes [97]),[]⟩,.zero⟩,⟨false,.zero,(.mk 1 1 aK [])⟩] [] [],
 .mk 4 (bytes [102]) .zero .zero [⟨false,.zero,(.mk 1 1 aK [])⟩,⟨true,⟨(bytes [98]),[(.mk 1 1 aK [])]⟩,.zero⟩] [] [],
 .mk 3 (bytes [102]) .zero .zero [⟨false,.zero,(.mk 1 1 aK [])⟩] [] [],
 .mk 3 (bytes [109,97,105,110]) .zero .zero [] [] [],
 .mk 2 (bytes [103]) (.mk 2 0 (bytes [97]) []) .zero [] [] [],
 .mk 2 (bytes [103]) (.mk 2 0 (bytes [103]) []) .zero [] [] [],
 .mk 1 (bytes [103]) (.mk 1 1 aK []) .zero [] [] [],
 .mk 6 aK .zero ⟨(bytes [102]),[]⟩ [] [] [],
 .mk 3 (bytes [120]) .zero .zero [] [] [],
 .mk 1 (bytes [109]) (.mk 2 0 (bytes [109]) []) .zero [] [] [],
 .mk 9 aK .zero .zero [] [] []]
def txB(j:Nat):List UInt8:=(txW.getD j aK).data.toList
def txA(j:Nat):aJ:=txS.getD j (.mk 9 aK .zero .zero [] [] [])
theorem cRd(j:Nat)(h:j<txW.length):txW[j].data.toList=txB j:=by unfold txB;rw [List.getD,List.getElem?_eq_getElem h];rfl
theorem cQ3:∀j,(txB j).length <= 27:=λj=>by
 by_cases h:j<22
 ·exact (B6:(List.range 22).all (λj=>decide ((txB j).length <= 27))=true)|> λe=>of_decide_eq_true (List.all_eq_true.1 e j (List.mem_range.2 h))
 unfold txB;rw [List.getD,List.getElem?_eq_none (by show 22 <= j;omega)];decide
theorem cRp(j:Nat)(hj:j<22){r:List UInt8}{ps:List PT}(h:Lx r ps):Lx (txB j++r) (cE (txA j)++ps):=by
 match j,hj with
 |0,_=>
  have e:cE (txA 0)=[wrd [118,97,114],nmx [120],sgn [61],⟨2,bytes [49],1⟩,sgn [59]]:=B6
  rw [e];exact ((cA ((cQr (h.bl.free 59 V) (.cons V)).bl.one' 61 V (Fin.cons V)).bl [120] B6 (.cons V)).bl.word [118,97,114] V (.cons V))
 |1,_=>
  have e:cE (txA 1)=[nmx [120],sgn [61],⟨2,bytes [50],2⟩,sgn [59]]:=B6
  rw [e];exact (cA ((cQ4 (h.bl.free 59 V) (.cons V)).bl.one' 61 V (Fin.cons V)).bl [120] B6 (.cons V))
 |2,_=>
  have e:cE (txA 2)=[nmx [121],sgn [61],nmx [120],sgn [59]]:=B6
  rw [e];exact (cA ((cA (h.bl.free 59 V) [120] B6 (.cons V)).bl.one' 61 V (Fin.cons V)).bl [121] B6 (.cons V))
 |3,_=>
  have e:cE (txA 3)=[wrd [105,102],nmx [120],sgn [123],wrd [118,97,114],nmx [121],sgn [61],⟨2,bytes [49],1⟩,sgn [59],nmx [121],sgn [61],⟨2,bytes [50],2⟩,sgn [59],sgn [125]]:=B6
  rw [e];exact ((cA (((cA ((cQr ((cA ((cQ4 ((h.bl.free 125 V).bl.free 59 V) (.cons V)).bl.one' 61 V (Fin.cons V)).bl [121] B6 (.cons V)).bl.free 59 V) (.cons V)).bl.one' 61 V (Fin.cons V)).bl [121] B6 (.cons V)).bl.word [118,97,114] V (.cons V)).bl.free 123 V).bl [120] B6 (.cons V)).bl.word [105,102] V (.cons V))
 |4,_=>
  have e:cE (txA 4)=[wrd [119,104,105,108,101],⟨2,bytes [49],1⟩,sgn [123],wrd [118,97,114],nmx [120],sgn [61],⟨2,bytes [49],1⟩,sgn [59],sgn [125]]:=B6
  rw [e];exact ((cQr (((cA ((cQr ((h.bl.free 125 V).bl.free 59 V) (.cons V)).bl.one' 61 V (Fin.cons V)).bl [120] B6 (.cons V)).bl.word [118,97,114] V (.cons V)).bl.free 123 V).bl (.cons V)).bl.word [119,104,105,108,101] V (.cons V))
 |5,_=>
  have e:cE (txA 5)=[wrd [108,111,99,107],nmx [97],sgn [59]]:=B6
  rw [e];exact ((cA (h.bl.free 59 V) [97] B6 (.cons V)).bl.word [108,111,99,107] V (.cons V))
 |6,_=>
  have e:cE (txA 6)=[wrd [108,111,99,107],nmx [98],sgn [91],nmx [120],sgn [93],sgn [59]]:=B6
  rw [e];exact ((cA ((cA ((h.bl.free 59 V).free 93 V) [120] B6 (.cons V)).free 91 V) [98] B6 (.cons V)).bl.word [108,111,99,107] V (.cons V))
 |7,_=>
  have e:cE (txA 7)=[wrd [108,111,99,107],nmx [98],sgn [59]]:=B6
  rw [e];exact ((cA (h.bl.free 59 V) [98] B6 (.cons V)).bl.word [108,111,99,107] V (.cons V))
 |8,_=>
  have e:cE (txA 8)=[wrd [108,111,99,107],nmx [97],sgn [91],⟨2,bytes [48],0⟩,sgn [93],sgn [59]]:=B6
  rw [e];exact ((cA ((cRf ((h.bl.free 59 V).free 93 V) (.cons V)).free 91 V) [97] B6 (.cons V)).bl.word [108,111,99,107] V (.cons V))
 |9,_=>
  have e:cE (txA 9)=[wrd [108,111,99,107],nmx [109],sgn [59]]:=B6
  rw [e];exact ((cA (h.bl.free 59 V) [109] B6 (.cons V)).bl.word [108,111,99,107] V (.cons V))
 |10,_=>
  have e:cE (txA 10)=[nmx [102],sgn [40],nmx [120],sgn [44],wrd [109,117,116,101,120],nmx [109],sgn [41],sgn [59]]:=B6
  rw [e];exact (cA ((cA (((cA ((h.bl.free 59 V).free 41 V) [109] B6 (.cons V)).bl.word [109,117,116,101,120] V (.cons V)).bl.free 44 V) [120] B6 (.cons V)).free 40 V) [102] B6 (.cons V))
 |11,_=>
  have e:cE (txA 11)=[nmx [102],sgn [40],wrd [109,117,116,101,120],nmx [97],sgn [44],⟨2,bytes [49],1⟩,sgn [41],sgn [59]]:=B6
  rw [e];exact (cA (((cA ((cQr ((h.bl.free 59 V).free 41 V) (.cons V)).bl.free 44 V) [97] B6 (.cons V)).bl.word [109,117,116,101,120] V (.cons V)).free 40 V) [102] B6 (.cons V))
 |12,_=>
  have e:cE (txA 12)=[wrd [103,111],nmx [102],sgn [40],⟨2,bytes [49],1⟩,sgn [44],wrd [109,117,116,101,120],nmx [98],sgn [91],⟨2,bytes [49],1⟩,sgn [93],sgn [41],sgn [59]]:=B6
  rw [e];exact ((cA ((cQr (((cA ((cQr (((h.bl.free 59 V).free 41 V).free 93 V) (.cons V)).free 91 V) [98] B6 (.cons V)).bl.word [109,117,116,101,120] V (.cons V)).bl.free 44 V) (.cons V)).free 40 V) [102] B6 (.cons V)).bl.word [103,111] V (.cons V))
 |13,_=>
  have e:cE (txA 13)=[nmx [102],sgn [40],⟨2,bytes [49],1⟩,sgn [41],sgn [59]]:=B6
  rw [e];exact (cA ((cQr ((h.bl.free 59 V).free 41 V) (.cons V)).free 40 V) [102] B6 (.cons V))
 |14,_=>
  have e:cE (txA 14)=[nmx [109,97,105,110],sgn [40],sgn [41],sgn [59]]:=B6
  rw [e];exact (cA (((h.bl.free 59 V).free 41 V).free 40 V) [109,97,105,110] B6 (.cons V))
 |15,_=>
  have e:cE (txA 15)=[nmx [103],sgn [61],nmx [97],sgn [59]]:=B6
  rw [e];exact (cA ((cA (h.bl.free 59 V) [97] B6 (.cons V)).bl.one' 61 V (Fin.cons V)).bl [103] B6 (.cons V))
 |16,_=>
  have e:cE (txA 16)=[nmx [103],sgn [61],nmx [103],sgn [59]]:=B6
  rw [e];exact (cA ((cA (h.bl.free 59 V) [103] B6 (.cons V)).bl.one' 61 V (Fin.cons V)).bl [103] B6 (.cons V))
 |17,_=>
  have e:cE (txA 17)=[wrd [118,97,114],nmx [103],sgn [61],⟨2,bytes [49],1⟩,sgn [59]]:=B6
  rw [e];exact ((cA ((cQr (h.bl.free 59 V) (.cons V)).bl.one' 61 V (Fin.cons V)).bl [103] B6 (.cons V)).bl.word [118,97,114] V (.cons V))
 |18,_=>
  have e:cE (txA 18)=[wrd [117,110,108,111,99,107],nmx [102],sgn [59]]:=B6
  rw [e];exact ((cA (h.bl.free 59 V) [102] B6 (.cons V)).bl.word [117,110,108,111,99,107] V (.cons V))
 |19,_=>
  have e:cE (txA 19)=[nmx [120],sgn [40],sgn [41],sgn [59]]:=B6
  rw [e];exact (cA (((h.bl.free 59 V).free 41 V).free 40 V) [120] B6 (.cons V))
 |20,_=>
  have e:cE (txA 20)=[wrd [118,97,114],nmx [109],sgn [61],nmx [109],sgn [59]]:=B6
  rw [e];exact ((cA ((cA (h.bl.free 59 V) [109] B6 (.cons V)).bl.one' 61 V (Fin.cons V)).bl [109] B6 (.cons V)).bl.word [118,97,114] V (.cons V))
 |21,_=>
  have e:cE (txA 21)=[wrd [114,101,116,117,114,110],sgn [59]]:=B6
  rw [e];exact ((h.bl.free 59 V).word [114,101,116,117,114,110] V (.cons V))
 |_+22,h=>exact absurd h J
theorem cQ6:∀(is:List Nat),(∀j,j∈is -> j<22) -> ∀{r:List UInt8} {ps:List PT},Lx r ps -> Lx (is.flatMap txB++r) (aQ (is.map txA)++ps)
 |[],_,_,_,h=>by rw [List.map_nil,aQ];exact h
 |j::is,hj,r,ps,h=>by
  rw [List.flatMap_cons,List.map_cons,aQ,append_assoc,append_assoc]
  exact cRp j (hj j M) (cQ6 is (λi hi=>hj i FA) h)
theorem cRr:∀j,j<22 -> (txA j).wt <= 20:=λj h=>(B6:(List.range 22).all (λj=>decide ((txA j).wt <= 20))=true)|> λe=>of_decide_eq_true (List.all_eq_true.1 e j (List.mem_range.2 h))
theorem cRl:∀j,j<22 -> (cE (txA j)).length <= 20:=λj h=>(B6:(List.range 22).all (λj=>decide ((cE (txA j)).length <= 20))=true)|> λe=>of_decide_eq_true (List.all_eq_true.1 e j (List.mem_range.2 h))
theorem cRm:∀j,j<22 -> bK9 0 (txA j)=true:=λj h=>(B6:(List.range 22).all (λj=>bK9 0 (txA j))=true)|> λe=>List.all_eq_true.1 e j (List.mem_range.2 h)
theorem cRc(j:Nat)(hj:j<22):(txA j).sane:=by
 have b1:∀a:UInt8,(bytes [a]).size <= 4611686018427387904:=λa=>FD
 have b4:∀a b c d:UInt8,(bytes [a,b,c,d]).size <= 4611686018427387904:=λa b c d=>FD
 have e:aK.size <= 4611686018427387904:=V
 have f0:fit 0:=F2
 have f1:fit 1:=F2
 have f2:fit 2:=F2
 match j,hj with
 |0,_=>show aJ.sane (.mk 1 (bytes [120]) (.mk 1 1 aK []) .zero [] [] []);simp only [aJ.sane,aH.zero,cY.zero,aH.sane,cY.sane,eN.sane,iI,gC,b1,b4,e,f0,f1,f2,not_mem_nil,mem_cons,forall_eq_or_imp,forall_eq,or_false,and_true,true_and,false_implies,implies_true,forall_const,and_self]
 |1,_=>show aJ.sane (.mk 2 (bytes [120]) (.mk 1 2 aK []) .zero [] [] []);simp only [aJ.sane,aH.zero,cY.zero,aH.sane,cY.sane,eN.sane,iI,gC,b1,b4,e,f0,f1,f2,not_mem_nil,mem_cons,forall_eq_or_imp,forall_eq,or_false,and_true,true_and,false_implies,implies_true,forall_const,and_self]
 |2,_=>show aJ.sane (.mk 2 (bytes [121]) (.mk 2 0 (bytes [120]) []) .zero [] [] []);simp only [aJ.sane,aH.zero,cY.zero,aH.sane,cY.sane,eN.sane,iI,gC,b1,b4,e,f0,f1,f2,not_mem_nil,mem_cons,forall_eq_or_imp,forall_eq,or_false,and_true,true_and,false_implies,implies_true,forall_const,and_self]
 |3,_=>show aJ.sane (.mk 7 aK (.mk 2 0 (bytes [120]) []) .zero [] [.mk 1 (bytes [121]) (.mk 1 1 aK []) .zero [] [] [],.mk 2 (bytes [121]) (.mk 1 2 aK []) .zero [] [] []] []);simp only [aJ.sane,aH.zero,cY.zero,aH.sane,cY.sane,eN.sane,iI,gC,b1,b4,e,f0,f1,f2,not_mem_nil,mem_cons,forall_eq_or_imp,forall_eq,or_false,and_true,true_and,false_implies,implies_true,forall_const,and_self]
 |4,_=>show aJ.sane (.mk 8 aK (.mk 1 1 aK []) .zero [] [.mk 1 (bytes [120]) (.mk 1 1 aK []) .zero [] [] []] []);simp only [aJ.sane,aH.zero,cY.zero,aH.sane,cY.sane,eN.sane,iI,gC,b1,b4,e,f0,f1,f2,not_mem_nil,mem_cons,forall_eq_or_imp,forall_eq,or_false,and_true,true_and,false_implies,implies_true,forall_const,and_self]
 |5,_=>show aJ.sane (.mk 5 aK .zero ⟨(bytes [97]),[]⟩ [] [] []);simp only [aJ.sane,aH.zero,cY.zero,aH.sane,cY.sane,eN.sane,iI,gC,b1,b4,e,f0,f1,f2,not_mem_nil,mem_cons,forall_eq_or_imp,forall_eq,or_false,and_true,true_and,false_implies,implies_true,forall_const,and_self]
 |6,_=>show aJ.sane (.mk 5 aK .zero ⟨(bytes [98]),[(.mk 2 0 (bytes [120]) [])]⟩ [] [] []);simp only [aJ.sane,aH.zero,cY.zero,aH.sane,cY.sane,eN.sane,iI,gC,b1,b4,e,f0,f1,f2,not_mem_nil,mem_cons,forall_eq_or_imp,forall_eq,or_false,and_true,true_and,false_implies,implies_true,forall_const,and_self]
 |7,_=>show aJ.sane (.mk 5 aK .zero ⟨(bytes [98]),[]⟩ [] [] []);simp only [aJ.sane,aH.zero,cY.zero,aH.sane,cY.sane,eN.sane,iI,gC,b1,b4,e,f0,f1,f2,not_mem_nil,mem_cons,forall_eq_or_imp,forall_eq,or_false,and_true,true_and,false_implies,implies_true,forall_const,and_self]
 |8,_=>show aJ.sane (.mk 5 aK .zero ⟨(bytes [97]),[(.mk 1 0 aK [])]⟩ [] [] []);simp only [aJ.sane,aH.zero,cY.zero,aH.sane,cY.sane,eN.sane,iI,gC,b1,b4,e,f0,f1,f2,not_mem_nil,mem_cons,forall_eq_or_imp,forall_eq,or_false,and_true,true_and,false_implies,implies_true,forall_const,and_self]
 |9,_=>show aJ.sane (.mk 5 aK .zero ⟨(bytes [109]),[]⟩ [] [] []);simp only [aJ.sane,aH.zero,cY.zero,aH.sane,cY.sane,eN.sane,iI,gC,b1,b4,e,f0,f1,f2,not_mem_nil,mem_cons,forall_eq_or_imp,forall_eq,or_false,and_true,true_and,false_implies,implies_true,forall_const,and_self]
 |10,_=>show aJ.sane (.mk 3 (bytes [102]) .zero .zero [⟨false,.zero,(.mk 2 0 (bytes [120]) [])⟩,⟨true,⟨(bytes [109]),[]⟩,.zero⟩] [] []);simp only [aJ.sane,aH.zero,cY.zero,aH.sane,cY.sane,eN.sane,iI,gC,b1,b4,e,f0,f1,f2,not_mem_nil,mem_cons,forall_eq_or_imp,forall_eq,or_false,and_true,true_and,false_implies,implies_true,forall_const,and_self]
 |11,_=>show aJ.sane (.mk 3 (bytes [102]) .zero .zero [⟨true,⟨(bytes [97]),[]⟩,.zero⟩,⟨false,.zero,(.mk 1 1 aK [])⟩] [] []);simp only [aJ.sane,aH.zero,cY.zero,aH.sane,cY.sane,eN.sane,iI,gC,b1,b4,e,f0,f1,f2,not_mem_nil,mem_cons,forall_eq_or_imp,forall_eq,or_false,and_true,true_and,false_implies,implies_true,forall_const,and_self]
 |12,_=>show aJ.sane (.mk 4 (bytes [102]) .zero .zero [⟨false,.zero,(.mk 1 1 aK [])⟩,⟨true,⟨(bytes [98]),[(.mk 1 1 aK [])]⟩,.zero⟩] [] []);simp only [aJ.sane,aH.zero,cY.zero,aH.sane,cY.sane,eN.sane,iI,gC,b1,b4,e,f0,f1,f2,not_mem_nil,mem_cons,forall_eq_or_imp,forall_eq,or_false,and_true,true_and,false_implies,implies_true,forall_const,and_self]
 |13,_=>show aJ.sane (.mk 3 (bytes [102]) .zero .zero [⟨false,.zero,(.mk 1 1 aK [])⟩] [] []);simp only [aJ.sane,aH.zero,cY.zero,aH.sane,cY.sane,eN.sane,iI,gC,b1,b4,e,f0,f1,f2,not_mem_nil,mem_cons,forall_eq_or_imp,forall_eq,or_false,and_true,true_and,false_implies,implies_true,forall_const,and_self]
 |14,_=>show aJ.sane (.mk 3 (bytes [109,97,105,110]) .zero .zero [] [] []);simp only [aJ.sane,aH.zero,cY.zero,aH.sane,cY.sane,eN.sane,iI,gC,b1,b4,e,f0,f1,f2,not_mem_nil,mem_cons,forall_eq_or_imp,forall_eq,or_false,and_true,true_and,false_implies,implies_true,forall_const,and_self]
 |15,_=>show aJ.sane (.mk 2 (bytes [103]) (.mk 2 0 (bytes [97]) []) .zero [] [] []);simp only [aJ.sane,aH.zero,cY.zero,aH.sane,cY.sane,eN.sane,iI,gC,b1,b4,e,f0,f1,f2,not_mem_nil,mem_cons,forall_eq_or_imp,forall_eq,or_false,and_true,true_and,false_implies,implies_true,forall_const,and_self]
 |16,_=>show aJ.sane (.mk 2 (bytes [103]) (.mk 2 0 (bytes [103]) []) .zero [] [] []);simp only [aJ.sane,aH.zero,cY.zero,aH.sane,cY.sane,eN.sane,iI,gC,b1,b4,e,f0,f1,f2,not_mem_nil,mem_cons,forall_eq_or_imp,forall_eq,or_false,and_true,true_and,false_implies,implies_true,forall_const,and_self]
 |17,_=>show aJ.sane (.mk 1 (bytes [103]) (.mk 1 1 aK []) .zero [] [] []);simp only [aJ.sane,aH.zero,cY.zero,aH.sane,cY.sane,eN.sane,iI,gC,b1,b4,e,f0,f1,f2,not_mem_nil,mem_cons,forall_eq_or_imp,forall_eq,or_false,and_true,true_and,false_implies,implies_true,forall_const,and_self]
 |18,_=>show aJ.sane (.mk 6 aK .zero ⟨(bytes [102]),[]⟩ [] [] []);simp only [aJ.sane,aH.zero,cY.zero,aH.sane,cY.sane,eN.sane,iI,gC,b1,b4,e,f0,f1,f2,not_mem_nil,mem_cons,forall_eq_or_imp,forall_eq,or_false,and_true,true_and,false_implies,implies_true,forall_const,and_self]
 |19,_=>show aJ.sane (.mk 3 (bytes [120]) .zero .zero [] [] []);simp only [aJ.sane,aH.zero,cY.zero,aH.sane,cY.sane,eN.sane,iI,gC,b1,b4,e,f0,f1,f2,not_mem_nil,mem_cons,forall_eq_or_imp,forall_eq,or_false,and_true,true_and,false_implies,implies_true,forall_const,and_self]
 |20,_=>show aJ.sane (.mk 1 (bytes [109]) (.mk 2 0 (bytes [109]) []) .zero [] [] []);simp only [aJ.sane,aH.zero,cY.zero,aH.sane,cY.sane,eN.sane,iI,gC,b1,b4,e,f0,f1,f2,not_mem_nil,mem_cons,forall_eq_or_imp,forall_eq,or_false,and_true,true_and,false_implies,implies_true,forall_const,and_self]
 |21,_=>show aJ.sane (.mk 9 aK .zero .zero [] [] []);simp only [aJ.sane,aH.zero,cY.zero,aH.sane,cY.sane,eN.sane,iI,gC,b1,b4,e,f0,f1,f2,not_mem_nil,mem_cons,forall_eq_or_imp,forall_eq,or_false,and_true,true_and,false_implies,implies_true,forall_const,and_self]
 |_+22,h=>exact absurd h J
theorem cQ1:∀(is:List Nat),(∀j,j∈is -> j<22) -> gC (is.map txA) /\ bM 0 (is.map txA)=true /\ wtS (is.map txA) <= 20*is.length /\ (aQ (is.map txA)).length <= 20*is.length
 |[],_=>⟨by rw [List.map_nil,gC];trivial,by rw [List.map_nil,bM];rfl,by rw [List.map_nil,wtS];omega,by rw [List.map_nil,aQ];simp⟩
 |j::is,hj=>by
  obtain ⟨h1,h2,h3,h4⟩:=cQ1 is (λi hi=>hj i FA)
  have hj:=hj j M
  have h5:=cRr j hj
  have h6:=cRl j hj
  rw [List.map_cons]
  refine ⟨by rw [gC];exact ⟨cRc j hj,h1⟩,by rw [bM,cRm j hj,h2];rfl,by rw [wtS,length_cons];omega,by rw [aQ,length_append,length_cons];omega⟩
def cQ7:List UInt8:=[118,97,114,32,103,59,32,109,117,116,101,120,32,97,59,32,109,117,116,101,120,32,98,91,50,93,59,32,102,117,110,99,32,109,97,105,110,40,41,32,123,32]
def cRa:List UInt8:=[125,32,102,117,110,99,32,102,40,120,44,32,109,117,116,101,120,32,109,41,32,123,32]
def cRe:List UInt8:=[125,32,102,117,110,99,32,102,40,110,44,32,109,117,116,101,120,32,109,41,32,123,32]
def txT(is:List Nat):List UInt8:=cQ7++(is.take 4).flatMap txB++(if 4<is.length then cRa++(is.drop 4).flatMap txB else [])
def txE(is:List Nat):List UInt8:=(if is.length <= 4 then txT is++cRe else txT is)++[125]
def txP(is:List Nat):cK:=⟨[⟨(bytes [103]),0⟩],[⟨(bytes [97]),false,0⟩,⟨(bytes [98]),false,2⟩],[⟨(bytes [109,97,105,110]),[],(is.take 4).map txA⟩,⟨(bytes [102]),if is.length <= 4 then [⟨(bytes [110]),false⟩,⟨(bytes [109]),true⟩] else [⟨(bytes [120]),false⟩,⟨(bytes [109]),true⟩],(is.drop 4).map txA⟩]⟩
theorem cQ5(is:List Nat)(j:Nat):txT (is++[j])=(if is.length=4 then txT is++cRa else txT is)++txB j:=by
 unfold txT
 by_cases h:is.length<4
 ·rw [if_neg (show ¬4<(is++[j]).length by simp;omega),if_neg (show ¬4<is.length by omega),if_neg (show ¬is.length=4 by omega),take_of_length_le (show (is++[j]).length <= 4 by simp;omega),take_of_length_le (show is.length <= 4 by omega)];simp
 rw [if_pos (show 4<(is++[j]).length by simp;omega),List.take_append_of_le_length (show 4 <= is.length by omega),List.drop_append_of_le_length (show 4 <= is.length by omega)]
 by_cases h4:is.length=4
 ·rw [if_pos h4,if_neg (show ¬4<is.length by omega),List.drop_eq_nil_of_le (show is.length <= 4 by omega)];simp
 rw [if_neg h4,if_pos (show 4<is.length by omega)];simp
theorem cQx:∀(is:List Nat),(is.flatMap txB).length <= 27*is.length
 |[]=>M
 |j::is=>by have:=cQx is;have:=cQ3 j;simp only [List.flatMap_cons,length_append,length_cons];omega
theorem cQ8(is:List Nat):(txT is).length <= 100+27*is.length:=by
 have h1:=cQx (is.take 4)
 have h2:=cQx (is.drop 4)
 have e1:cQ7.length=42:=V
 have e2:cRa.length=23:=V
 unfold txT
 simp only [List.length_take,List.length_drop] at h1 h2
 split
 ·simp only [length_append,e1,e2];omega
 simp only [length_append,e1,length_nil];omega
theorem cQ9{r:List UInt8}{ps:List PT}(h:Lx r ps):Lx (cQ7++r) (bEr ⟨(bytes [103]),0⟩++(gT ⟨(bytes [97]),false,0⟩++(gT ⟨(bytes [98]),false,2⟩++([wrd [102,117,110,99],nmx [109,97,105,110],sgn [40],sgn [41],sgn [123]]++ps)))):=by
 have e1:bEr ⟨(bytes [103]),0⟩=[wrd [118,97,114],nmx [103],sgn [59]]:=B6
 have e2:gT ⟨(bytes [97]),false,0⟩=[wrd [109,117,116,101,120],nmx [97],sgn [59]]:=B6
 have e3:gT ⟨(bytes [98]),false,2⟩=[wrd [109,117,116,101,120],nmx [98],sgn [91],⟨2,bytes [50],2⟩,sgn [93],sgn [59]]:=B6
 rw [e1,e2,e3]
 exact ((cA (((cA (((cA ((cQ4 ((((cA (((h.bl.free 123 V).bl.free 41 V).free 40 V) [109,97,105,110] B6 (.cons V)).bl.word [102,117,110,99] V (.cons V)).bl.free 59 V).free 93 V) (.cons V)).free 91 V) [98] B6 (.cons V)).bl.word [109,117,116,101,120] V (.cons V)).bl.free 59 V) [97] B6 (.cons V)).bl.word [109,117,116,101,120] V (.cons V)).bl.free 59 V) [103] B6 (.cons V)).bl.word [118,97,114] V (.cons V))
theorem cRn{n:Bool}{r:List UInt8}{ps:List PT}(h:Lx r ps):Lx ((if n then cRe else cRa)++r) (sgn [125]::wrd [102,117,110,99]::nmx [102]::sgn [40]::(fZ lQ (if n then [⟨(bytes [110]),false⟩,⟨(bytes [109]),true⟩] else [⟨(bytes [120]),false⟩,⟨(bytes [109]),true⟩])++sgn [41]::sgn [123]::ps)):=by
 cases n
 ·have e:fZ lQ [⟨(bytes [120]),false⟩,⟨(bytes [109]),true⟩]=[nmx [120],sgn [44],wrd [109,117,116,101,120],nmx [109]]:=B6
  rw [if_neg V,if_neg V,e];exact (((cA ((cA (((cA ((h.bl.free 123 V).bl.free 41 V) [109] B6 (.cons V)).bl.word [109,117,116,101,120] V (.cons V)).bl.free 44 V) [120] B6 (.cons V)).free 40 V) [102] B6 (.cons V)).bl.word [102,117,110,99] V (.cons V)).bl.free 125 V)
 have e:fZ lQ [⟨(bytes [110]),false⟩,⟨(bytes [109]),true⟩]=[nmx [110],sgn [44],wrd [109,117,116,101,120],nmx [109]]:=B6
 rw [if_pos rfl,if_pos rfl,e];exact (((cA ((cA (((cA ((h.bl.free 123 V).bl.free 41 V) [109] B6 (.cons V)).bl.word [109,117,116,101,120] V (.cons V)).bl.free 44 V) [110] B6 (.cons V)).free 40 V) [102] B6 (.cons V)).bl.word [102,117,110,99] V (.cons V)).bl.free 125 V)
theorem cRj(is:List Nat):txE is=cQ7++((is.take 4).flatMap txB++((if decide (is.length <= 4) then cRe else cRa)++((is.drop 4).flatMap txB++[125]))):=by
 unfold txE txT
 by_cases h:is.length <= 4
 ·rw [if_pos h,if_neg (show ¬4<is.length by omega),if_pos (decide_eq_true h),List.drop_eq_nil_of_le h];simp
 rw [if_neg h,if_pos (show 4<is.length by omega),if_neg Er];simp
theorem cRk(is:List Nat)(h:∀j,j∈is -> j<22):Lx (txE is) ((iA (txP is)).map fF.toks).flatten:=by
 have h1:=λi (hi:i∈is.take 4)=>h i (List.mem_of_mem_take hi)
 have h2:=λi (hi:i∈is.drop 4)=>h i (List.mem_of_mem_drop hi)
 have h3:=cQ9 (cQ6 _ h1 (cRn (n:=decide (is.length <= 4)) (cQ6 _ h2 (Lx.end.free 125 V))))
 rw [←cRj] at h3
 refine (show ((iA (txP is)).map fF.toks).flatten=_ from ?_)▸h3
 have e:((iA (txP is)).map fF.toks).flatten=bEr ⟨(bytes [103]),0⟩++(gT ⟨(bytes [97]),false,0⟩++(gT ⟨(bytes [98]),false,2⟩++(kA ⟨(bytes [109,97,105,110]),[],(is.take 4).map txA⟩++(kA ⟨(bytes [102]),if is.length <= 4 then [⟨(bytes [110]),false⟩,⟨(bytes [109]),true⟩] else [⟨(bytes [120]),false⟩,⟨(bytes [109]),true⟩],(is.drop 4).map txA⟩++[])))):=Y
 have c0:fZ lQ []=[]:=Y
 rw [e]
 unfold kA
 by_cases h4:is.length <= 4
 ·simp only [h4,if_true,decide_true,c0,List.append_nil,List.nil_append,List.cons_append,append_assoc];rfl
 simp only [h4,if_false,decide_false,c0,List.append_nil,List.nil_append,List.cons_append,append_assoc];rfl
theorem cRb:bQ (bytes [103])=true /\ bQ (bytes [97])=true /\ bQ (bytes [98])=true /\ bQ (bytes [109,97,105,110])=true /\ bQ (bytes [102])=true /\ bQ (bytes [109])=true /\ bQ (bytes [110])=true /\ bQ (bytes [120])=true:=by
 refine ⟨?_,?_,?_,?_,?_,?_,?_,?_⟩<;>kernel_rfl
theorem cQ0(is:List Nat)(h:∀j,j∈is -> j<22)(hl:is.length <= 8):jM (txE is)=(txP is,(txE is).length,0) /\ (txE is).length <= 400 /\ (txP is).sane /\ (txP is).wt <= 1000:=by
 have h1:=λi (hi:i∈is.take 4)=>h i (List.mem_of_mem_take hi)
 have h2:=λi (hi:i∈is.drop 4)=>h i (List.mem_of_mem_drop hi)
 obtain ⟨a1,a2,a3,a4⟩:=cQ1 _ h1
 obtain ⟨b1,b2,b3,b4⟩:=cQ1 _ h2
 simp only [List.length_take,List.length_drop] at a3 a4 b3 b4
 obtain ⟨ng,na,nb,nmn,nf,nm,nn,nx⟩:=cRb
 have hx:=cRk is h
 have hlen:(txE is).length <= 400:=by
  have h5:=cQ8 is
  have e2:cRe.length=23:=V
  unfold txE
  split<;>simp only [length_append,length_cons,length_nil,e2]<;>omega
 have hps:=hx.len_le
 obtain ⟨T,hT,hpt⟩:=aIz hx J J
 have hok:∀d,d∈iA (txP is) -> d.ok:=by
  intro d hd
  have hd:d∈[fF.glob ⟨(bytes [103]),0⟩,.mtx ⟨(bytes [97]),false,0⟩,.mtx ⟨(bytes [98]),false,2⟩,.fn ⟨(bytes [109,97,105,110]),[],(is.take 4).map txA⟩,.fn ⟨(bytes [102]),if is.length <= 4 then [⟨(bytes [110]),false⟩,⟨(bytes [109]),true⟩] else [⟨(bytes [120]),false⟩,⟨(bytes [109]),true⟩],(is.drop 4).map txA⟩]:=hd
  simp only [mem_cons,not_mem_nil,or_false] at hd
  rcases hd with rfl|rfl|rfl|rfl|rfl
  ·exact ⟨ng,V⟩
  ·exact ⟨na,V,V,λ_=>Y⟩
  ·exact ⟨nb,V,V,λhh=>by cases hh⟩
  ·exact ⟨nmn,M,λx hx=>by simp at hx,lS _ 23 0 Y a1 a2⟩
  refine ⟨nf,?_,λx hx=>?_,lS _ 23 0 Y b1 b2⟩
  ·show (if is.length <= 4 then _ else _:List aS).length <= 6
   split<;>simp
  have hx:x∈(if is.length <= 4 then [⟨(bytes [110]),false⟩,⟨(bytes [109]),true⟩] else [⟨(bytes [120]),false⟩,⟨(bytes [109]),true⟩]:List aS):=hx
  split at hx<;>simp only [mem_cons,not_mem_nil,or_false] at hx<;>rcases hx with rfl|rfl<;>assumption
 obtain ⟨k,hk⟩:=bV1 (p:=txP is) hok (by simp [txP]) (by simp [txP]) (by simp [txP]) hpt
 have bs:∀s:List UInt8,s.length <= 9 -> (bytes s).size <= 4611686018427387904:=λs hs=>F6
 refine ⟨pT hT hk,hlen,⟨λg hg=>?_,λm hm=>?_,λf hf=>?_⟩,?_⟩
 ·obtain rfl:g=_:=List.mem_singleton.1 hg
  exact ⟨F2,bs _ V⟩
 ·have hm:m∈[⟨(bytes [97]),false,0⟩,(⟨(bytes [98]),false,2⟩:cL)]:=hm
  simp only [mem_cons,not_mem_nil,or_false] at hm
  rcases hm with rfl|rfl<;>exact ⟨F2,bs _ V⟩
 ·have hf:f∈[⟨(bytes [109,97,105,110]),[],(is.take 4).map txA⟩,(⟨(bytes [102]),if is.length <= 4 then [⟨(bytes [110]),false⟩,⟨(bytes [109]),true⟩] else [⟨(bytes [120]),false⟩,⟨(bytes [109]),true⟩],(is.drop 4).map txA⟩:bS)]:=hf
  simp only [mem_cons,not_mem_nil,or_false] at hf
  rcases hf with rfl|rfl
  ·exact ⟨bs _ V,λx hx=>by simp at hx,a1⟩
  refine ⟨bs _ V,λx hx=>?_,b1⟩
  have hx:x∈(if is.length <= 4 then [⟨(bytes [110]),false⟩,⟨(bytes [109]),true⟩] else [⟨(bytes [120]),false⟩,⟨(bytes [109]),true⟩]:List aS):=hx
  split at hx<;>simp only [mem_cons,not_mem_nil,or_false] at hx<;>rcases hx with rfl|rfl<;>exact bs _ V
 have e:(txP is).wt=1+2+((1+0+wtS ((is.take 4).map txA))+((1+(if is.length <= 4 then [⟨(bytes [110]),false⟩,⟨(bytes [109]),true⟩] else [⟨(bytes [120]),false⟩,⟨(bytes [109]),true⟩]:List aS).length+wtS ((is.drop 4).map txA))+0)):=Y
 have e2:(if is.length <= 4 then [⟨(bytes [110]),false⟩,⟨(bytes [109]),true⟩] else [⟨(bytes [120]),false⟩,⟨(bytes [109]),true⟩]:List aS).length=2:=by split<;>rfl
 rw [e,e2];omega
end
end Go.Proofs.YtbdfdjdgfanjaaaGreatDoor
