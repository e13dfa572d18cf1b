import Derived.Test.YtjgeihmhppadaaaGreatDoorG10J
set_option linter.all false
set_option synthInstance.maxHeartbeats 1000000
set_option synthInstance.maxSize 1000000
set_option maxHeartbeats 1600000
set_option maxRecDepth 100000
namespace Go.Proofs.YtjgeihmhppadaaaGreatDoor
open Go.Proofs.Tryz
open List (length_append length_cons length_nil mem_append mem_cons not_mem_nil append_assoc getElem_mem take_of_length_le)
section
open Go.RowKit
theorem bR7(u:Nat)(bs:List UInt8)(v:Value)(bx:List Box)(rw:List bA)(hu:u<18446744073709551616)(hb:bs.length <= 100000000000000):aL prog 218 [bK5 (Cv v),Cv (.int .u64 ((u:Nat):Int)),Ci 10] (aY v) ⟨bx,⟨v,5,1,bs.length,iF bs⟩::rw⟩ λt s'=>∃v',t=Cv v' /\ s'=⟨bx,⟨v',5,1,(bs++cO u).length,iF (bs++cO u)⟩::rw⟩:=by
 refine acX 36 func218 ?_
 refine go 9 ?_
 refine wcp true Y B7 (go 7 ?_)
 by_cases h2:((u:Nat):Int)<100
 focus
  refine wcp true Y (jZ h2) (go 7 ?_)
  refine wyz Y (bOy Y Y Y Y Y (wrap64 J J)) ?_
  refine wc1 Y call189 Y (bQp u J _) ?_
  refine wo Y (bHb [] Tryz.t5 (z:=bytes (cO u)) Y Y V Y Y underlying58 underlying9 B6 Y Y Y (by have:=bL6 u;have:=bMa hu;unfold maxLen;show bs.length+(cO u).length <= _;omega) (by have:=bL6 u;have:=bMa hu;show bs.length+(cO u).length <= _;omega) (@length_append _ bs (cO u)).symm Y Bo Bq (bLc bs (cO u)) λw3=>?_)
  refine go 6 ?_
 rotate_left
 refine wcp false Y (jQ h2) (go 13 λb2=>?_)
 refine wcR 0 Y call190 Y (bP7 u J hu _) (go 6 ?_)
 have hnd:=bMa hu
 refine wyz Y (bNr Y Y Y Y J V runUnderlying250 sizeOf5) (go 1 ?_)
 have hnd:=bMa hu
 refine wo Y (bD [b2] Y Y V call191 Y (bRk b2 _ (List.replicate 24 0) u 24 bx _ hu DR V) (bDj) (bDj (h:=by simp [Sto.bl])) (λ_=>bDj) ?_)
 rintro _ _ ⟨rfl,rfl⟩
 refine go 6 ?_
 refine wyz Y (bNr Y Y Y Y J V runUnderlying250 sizeOf5) ?_
 refine bHa 26 Y J V ?_
 refine wo Y (bDm [] dFt Y (by unfold iF;rw [List.length_map,bL6,Nat.mul_one]) J B1 J (show bs.length+Lib.nDigits u=(bs++cO u).length by rw [length_append,bL6]) Bo Bq (bLc bs (cO u)) λw3=>?_)
 refine go 5 ?_
 all_goals
  exact ⟨.inr Y,_,⟨bx,⟨w3,_,_,_,_⟩::rw⟩,aR Y (aF Y),aA (.refl _) (.refl _),⟨w3,Y,Y⟩⟩
theorem bR0(n:Nat)(bs:List UInt8)(v:Value)(bx:List Box)(rw:List bA)(hn:n <= 9223372036854775807)(hb:bs.length <= 100000000000000):aL prog 214 [bK5 (Cv v),nI n,Ci 10] (aY v) ⟨bx,⟨v,5,1,bs.length,iF bs⟩::rw⟩ λt s'=>∃v',t=Cv v' /\ s'=⟨bx,⟨v',5,1,(bs++cO n).length,iF (bs++cO n)⟩::rw⟩:=by
 refine acX 21 func214 ?_
 refine go 8 ?_
 refine wyz Y (bOy Y Y Y Y Y (bSh J J)) (go 7 ?_)
 refine wcp false Y (jQ J) (go 10 ?_)
 refine wo Y (bMu 0 Y call218 Y (bR7 n bs v _ _ J hb) Bq Bo λw1=>?_)
 refine go 4 ?_
 exact ⟨.inr Y,_,⟨bx,⟨w1,_,_,_,_⟩::rw⟩,aR Y (aF Y),aA (.refl _) (.refl _),⟨w1,Y,Y⟩⟩
theorem bSd(n:Nat)(bs:List UInt8)(v:Value)(bx:List Box)(rw:List bA)(hn:n <= 9223372036854775807)(hb:bs.length <= 100000000000000):aL prog 208 [bK5 (Cv v),nI n,Ci 10] (aY v) ⟨bx,⟨v,5,1,bs.length,iF bs⟩::rw⟩ λt s'=>∃v',t=Cv v' /\ s'=⟨bx,⟨v',5,1,(bs++cO n).length,iF (bs++cO n)⟩::rw⟩:=by
 refine acX 11 func208 ?_
 refine go 10 ?_
 refine wo Y (bMu 0 Y call214 Y (bR0 n bs v _ _ hn hb) Bq Bo λw1=>?_)
 refine go 4 ?_
 exact ⟨.inr Y,_,⟨bx,⟨w1,_,_,_,_⟩::rw⟩,aR Y (aF Y),aA (.refl _) (.refl _),⟨w1,Y,Y⟩⟩
def bLs(op:Int):List UInt8:=if op=3 then [45] else if op=4 then [33] else iW op
theorem bQc:∀j (h:j<bLb.length),bLb[j]=bytes (bLs j):=V
def bLn(e:aH)(k:Nat):List UInt8:=(dP e.op 0 e.args).getD k []
theorem bLz(e:aH)(k:Nat)(h:k<e.args.length):bLn e k=if cV e.op k e.args[k].op then [40]++aP e.args[k]++[41] else aP e.args[k]:=by
 unfold bLn
 have:=pL e.op e.args 0 k h
 rw [Nat.zero_add] at this
 rw [List.getD_eq_getElem?_getD,this];rfl
theorem bMn{e:aH}(h:eO e=true):(e.args.length=0 /\ (e.op=1∨e.op=2))∨(e.args.length=1 /\ (e.op=3∨e.op=4))∨(e.args.length=2 /\ 5 <= e.op /\ e.op <= 17):=by
 rw [bK7] at h
 unfold bLj at h
 by_cases h0:bLk e.op=0
 ·rw [if_pos h0] at h;cases h
 have ho:=bN2 h0
 rw [if_neg h0] at h
 by_cases h7:bLk e.op=7
 ·rw [if_pos h7] at h
  simp only [Bool.and_eq_true,decide_eq_true_eq] at h
  have:=bPh h7
  omega
 rw [if_neg h7] at h
 simp only [Bool.and_eq_true,decide_eq_true_eq] at h
 by_cases h6:bLk e.op=6
 ·rw [if_pos h6] at h
  have:=bSc h6
  omega
 rw [if_neg h6] at h
 have h1:¬(e.op=1∨e.op=2):=λhh=>h7 Eh
 have h2:¬(e.op=3∨e.op=4):=λhh=>h6 Eh
 omega
theorem bQy{e:aH}(h:eO e=true)(h2:e.args.length=2):aP e=bLn e 0++([32]++bLs e.op++[32])++bLn e 1:=by
 have hk:=bMn h
 rw [kU]
 unfold iX bLn bLs
 have hs:aM e.op<5:=D9
 rw [if_neg J,if_neg J,if_neg J,if_neg J,if_pos hs,if_neg J,if_neg J]
 simp only [append_assoc]
theorem bQ7{e:aH}(h:eO e=true)(h1:e.args.length=1):aP e=bLs e.op++bLn e 0:=by
 have hk:=bMn h
 rw [kU]
 unfold iX bLn bLs
 rw [if_neg J,if_neg J]
 by_cases h3:e.op=3
 ·rw [if_pos h3,if_pos h3];rfl
 rw [if_neg h3,if_neg h3,if_pos J,if_pos J];rfl
theorem bPt{e:aH}(h2:e.op=2):aP e=e.name.data.toList:=by
 rw [kU];unfold iX;rw [if_neg J,if_pos h2]
theorem bRq{e:aH}(h1:e.op=1)(h:eO e=true):aP e=cO e.num.toNat /\ 0 <= e.num:=by
 rw [dZ] at h
 have hs:aM e.op=6:=D9
 rw [if_pos hs] at h
 simp only [Bool.and_eq_true,jG,Bool.or_eq_true,decide_eq_true_eq] at h
 have hn:0 <= e.num:=J
 rw [kU];unfold iX eH;rw [if_pos h1,if_neg J,show e.num.natAbs=e.num.toNat by omega]
 exact ⟨Y,hn⟩
theorem bOh(e:aH)(k:Nat)(bs:List UInt8)(v:Value)(x:Nat)(bx:List Box)(rw:List bA)(hk:k<e.args.length)(hsh:eO e=true)(hb:bs.length+(bLn e k).length <= 100000000000000)(ih:∀(bs:List UInt8)(v:Value)(bx:List Box)(rw:List bA),bs.length+(aP e.args[k]).length <= 100000000000000 -> aL prog 194 [bK5 (Cv v),.agg (cU e.args[k])] (aY v) ⟨bx,⟨v,5,1,bs.length,iF bs⟩::rw⟩ λt s'=>∃v',t=Cv v' /\ s'=⟨bx,⟨v',5,1,(bs++aP e.args[k]).length,iF (bs++aP e.args[k])⟩::rw⟩):aL prog 207 [bK5 (Cv v),nI k,pP x] (aY v) ⟨⟨x,87,cU e⟩::bx,⟨v,5,1,bs.length,iF bs⟩::rw⟩ λt s'=>∃v',t=Cv v' /\ s'=⟨⟨x,87,cU e⟩::bx,⟨v',5,1,(bs++bLn e k).length,iF (bs++bLn e k)⟩::rw⟩:=by
 refine acX 28 func207 ?_
 refine go 10 ?_
 rcases Bool.eq_false_or_eq_true (cV e.op k e.args[k].op) with h1|h1
 ·refine bK8 0 Y call200 Y (bOl e k J (bLd hsh).1 (bLd ((bLd hsh).2 k J)).1 _) h1 (go 7 ?_)
  refine dx [x] ?_
  have hlk:=bLz e k hk
  rw [h1] at hlk
  have hl2:=congrArg List.length hlk
  simp only [if_true,Bool.false_eq_true,if_false,length_append,length_cons,length_nil] at hl2
  refine tz [(0,true),(3,true),(4,true),(5,true)] 8 (go 5 ?_)
  refine tx 6 Y (bH fO cU e.args iU fP k Y Y Y Y J V runUnderlying85 sizeOf87) (tz [(7,true)] 6 (go 2 ?_))
  refine t2 1 9 Y ?_ ?_
  focus
   refine (bDk (r:=iF [40]) zb8 ?_)
   refine t2 2 9 Y ?_ ?_
   focus
    refine (bDm [] dFt Y Y V AL B2 (show bs.length+1=(bs++[40]).length by simp only [length_append,length_cons,length_nil]) (λhn b hb=>qW hn hb) Bq (bLc bs [40]) λw1=>?_)
    refine t2 8 9 Y ?_ ?_
    focus
     refine (bMu 0 Y call194 Y (ih (bs++[40]) w1 _ _ B2) Bq (λhn b hb=>qW hn hb) λw2=>?_)
     refine ox 9 Y Y (bDk (r:=iF [41]) zb8 ?_)
    rotate_left
    refine (bDk (r:=iF [41]) zb8 ?_)
    refine ox 8 Y Y (bMu 0 Y call194 Y (ih (bs++[40]) w1 _ _ B2) Bq (λhn b hb=>qW hn hb) λw4=>?_)
   rotate_left 2
   refine (bDk (r:=iF [41]) zb8 ?_)
   refine ox 2 Y Y (bDm [] dFt Y Y V AL B2 (show bs.length+1=(bs++[40]).length by simp only [length_append,length_cons,length_nil]) (λhn b hb=>qW hn hb) Bq (bLc bs [40]) λw6=>?_)
   refine ox 8 Y Y (bMu 0 Y call194 Y (ih (bs++[40]) w6 _ _ B2) Bq (λhn b hb=>qW hn hb) λw7=>?_)
  rotate_left 3
  refine (bDk (r:=iF [41]) zb8 ?_)
  refine ox 1 Y Y (bDk (r:=iF [40]) zb8 ?_)
  refine ox 2 Y Y (bDm [] dFt Y Y V AL B2 (show bs.length+1=(bs++[40]).length by simp only [length_append,length_cons,length_nil]) (λhn b hb=>qW hn hb) Bq (bLc bs [40]) λw9=>?_)
  refine ox 8 Y Y (bMu 0 Y call194 Y (ih (bs++[40]) w9 _ _ B2) Bq (λhn b hb=>qW hn hb) λw10=>?_)
  all_goals
   refine ox 10 Y Y (bDm [] dFt Y Y V AL B2 (show ((bs++[40])++aP e.args[k]).length+1=(((bs++[40])++aP e.args[k])++[41]).length by simp only [length_append,length_cons,length_nil]) (λhn b hb=>qW hn hb) Bq (bLc ((bs++[40])++aP e.args[k]) [41]) λw11=>?_)
   refine tz [(11,true)] 0 (go 2 ?_)
   refine ax (go 2 ?_)
   exact ⟨.inr Y,_,⟨_,⟨w11,_,_,_,_⟩::rw⟩,aR Y (aF Y),aA (.refl _) (.refl _),⟨w11,Y,(by rw [show (((bs++[40])++aP e.args[k])++[41])=bs++bLn e k by rw [bLz e k hk,h1];simp only [if_true,Bool.false_eq_true,if_false,append_assoc]])⟩⟩
 refine bK8 0 Y call200 Y (bOl e k J (bLd hsh).1 (bLd ((bLd hsh).2 k J)).1 _) h1 (go 6 ?_)
 have hlk:=bLz e k hk
 rw [h1] at hlk
 have hl2:=congrArg List.length hlk
 simp only [if_true,Bool.false_eq_true,if_false,length_append,length_cons,length_nil] at hl2
 refine go 4 ?_
 refine wyz Y (bH fO cU e.args iU fP k Y Y Y Y J V runUnderlying85 sizeOf87) (go 1 ?_)
 refine wo Y (bMu 0 Y call194 Y (ih bs v _ _ B2) Bq Bo λw12=>?_)
 refine go 5 ?_
 exact ⟨.inr Y,_,⟨_,⟨w12,_,_,_,_⟩::rw⟩,aR Y (aF Y),aA (.refl _) (.refl _),⟨w12,Y,(by rw [show (bs++aP e.args[k])=bs++bLn e k by rw [bLz e k hk,h1];simp only [if_true,Bool.false_eq_true,if_false,append_assoc]])⟩⟩
theorem bQ8:∀j,j<18 -> (bLs ((j:Nat):Int)).length <= 2:=V
theorem bN5(e:aH)(bs:List UInt8)(v:Value)(bx:List Box)(rw:List bA)(hsh:eO e=true)(hN:e.nodes <= 1000000000)(hs:fit e.num)(hb:bs.length+(aP e).length <= 100000000000000)(ih:∀k (h:k<e.args.length) (bs:List UInt8) (v:Value) (bx:List Box) (rw:List bA),bs.length+(aP e.args[k]).length <= 100000000000000 -> aL prog 194 [bK5 (Cv v),.agg (cU e.args[k])] (aY v) ⟨bx,⟨v,5,1,bs.length,iF bs⟩::rw⟩ λt s'=>∃v',t=Cv v' /\ s'=⟨bx,⟨v',5,1,(bs++aP e.args[k]).length,iF (bs++aP e.args[k])⟩::rw⟩):aL prog 194 [bK5 (Cv v),.agg (cU e)] (aY v) ⟨bx,⟨v,5,1,bs.length,iF bs⟩::rw⟩ λt s'=>∃v',t=Cv v' /\ s'=⟨bx,⟨v',5,1,(bs++aP e).length,iF (bs++aP e)⟩::rw⟩:=by
 obtain ⟨hf1,hf2⟩:=hs
 have hlen:=uC e
 refine acX 45 func194 ?_
 refine bR5 0 1 Y Y ?_
 refine go 8 λb1=>?_
 refine wyz Y (bMs (vs:=[.pointer (some ⟨b1,0,none⟩)]) Y Y) (go 7 ?_)
 have hin:=(bLd hsh).1
 have hkd:=bMn hsh
 obtain ⟨j,hj⟩:∃j:Nat,e.op=j:=⟨e.op.toNat,J⟩
 have hj18:j<bLb.length:=by show j<18;omega
 have hsg:bLb[j]=bytes (bLs e.op):=by rw [hj];exact bQc j hj18
 have hpl:=bQ8 j hj18
 rw [←hj] at hpl
 refine wyz Y (bRr 1 j Y Y Y hj hj18 Y runUnderlying266 sizeOf9) ?_
 refine wyz Y (fL (hy:=iP Y Y isAgg9 sizeOf9 Y) (jX hsg)) (go 20 ?_)
 by_cases h1:((e.args.length:Nat):Int)=2
 ·refine wcp true Y (eR h1) (go 11 ?_)
  have htx:=congrArg List.length (bQy hsh J)
  simp only [length_append,length_cons,length_nil] at htx
  refine go 2 ?_
  refine wo Y (bPe (us:=[nI 0]) (cap:=#[.pointer (some ⟨b1,0,none⟩)]) 1 Y call207 Y (bOh e 0 bs v _ _ _ J hsh B2 (ih 0 J)) Bq Bo λw2=>?_)
  refine go 5 ?_
  refine wyz Y (cz [32] (bLs e.op) Y Y Y Y Y) ?_
  refine wyz Y (cz ([32]++(bLs e.op)) [32] Y Y Y Y Y) (go 6 ?_)
  refine dx [b1] (tz [(0,true),(1,true),(2,true),(4,true),(5,true),(6,true)] 4 (go 7 ?_))
  refine tx 7 Y (cI ((1:Nat):Int)) ?_
  refine ox 3 Y Y (bHb [] Tryz.t5 (z:=bytes (([32]++(bLs e.op))++[32])) Y Y V Y Y underlying58 underlying9 B6 Y Y Y BL C9 (@length_append _ (bs++bLn e 0) (([32]++(bLs e.op))++[32])).symm Y (λhn b hb=>qW hn hb) Bq (bLc (bs++bLn e 0) (([32]++(bLs e.op))++[32])) λw3=>?_)
  refine ox 8 Y Y (bPe (us:=[nI 1]) (cap:=#[.pointer (some ⟨b1,0,none⟩)]) 1 Y call207 Y (bOh e 1 ((bs++bLn e 0)++(([32]++(bLs e.op))++[32])) w3 _ _ _ J hsh B2 (ih 1 J)) Bq (λhn b hb=>qW hn hb) λw4=>?_)
  refine tz [(9,true)] 0 (go 2 ?_)
  refine ax (go 5 ?_)
  exact ⟨.inr Y,_,⟨bx,⟨w4,_,_,_,_⟩::rw⟩,aR Y (aF Y),aA (.cons _ (.refl _)) (.refl _),⟨w4,Y,(by rw [show (((bs++bLn e 0)++(([32]++(bLs e.op))++[32]))++bLn e 1)=bs++aP e by rw [bQy hsh J];simp only [append_assoc]])⟩⟩
 refine wcp false Y (eD h1) (go 8 ?_)
 by_cases h4:((e.args.length:Nat):Int)=1
 ·refine wcp true Y (eR h4) (go 12 ?_)
  refine dx [b1] ?_
  have htx:=congrArg List.length (bQ7 hsh J)
  simp only [length_append,length_cons,length_nil] at htx
  refine tz [(0,true),(1,true),(2,true),(4,true),(5,true),(6,true)] 4 (go 7 ?_)
  refine tx 7 Y (cI ((0:Nat):Int)) ?_
  refine ox 3 Y Y (bHb [] Tryz.t5 (z:=bytes (bLs e.op)) Y Y V Y Y underlying58 underlying9 B6 Y Y Y BL C9 (@length_append _ bs (bLs e.op)).symm Y (λhn b hb=>qW hn hb) Bq (bLc bs (bLs e.op)) λw5=>?_)
  refine ox 8 Y Y (bPe (us:=[nI 0]) (cap:=#[.pointer (some ⟨b1,0,none⟩)]) 1 Y call207 Y (bOh e 0 (bs++(bLs e.op)) w5 _ _ _ J hsh B2 (ih 0 J)) Bq (λhn b hb=>qW hn hb) λw6=>?_)
  refine tz [(9,true)] 0 (go 2 ?_)
  refine ax (go 5 ?_)
  exact ⟨.inr Y,_,⟨bx,⟨w6,_,_,_,_⟩::rw⟩,aR Y (aF Y),aA (.cons _ (.refl _)) (.refl _),⟨w6,Y,(by rw [show ((bs++(bLs e.op))++bLn e 0)=bs++aP e by rw [bQ7 hsh J];simp only [append_assoc]])⟩⟩
 refine wcp false Y (eD h4) (go 18 ?_)
 by_cases h7:e.op=2
 ·refine wcp true Y (eR h7) (go 5 ?_)
  have htx:=congrArg List.length (bPt (e:=e) J)
  refine go 3 ?_
  refine wo Y (bHb [] Tryz.t5 (z:=e.name) Y Y V Y Y underlying58 underlying9 B6 Y Y Y (by unfold maxLen;show bs.length+e.name.data.toList.length <= _;omega) (by show bs.length+e.name.data.toList.length <= _;omega) (@length_append _ bs e.name.data.toList).symm Y Bo Bq (bLc bs e.name.data.toList) λw7=>?_)
  refine go 5 ?_
  exact ⟨.inr Y,_,⟨bx,⟨w7,_,_,_,_⟩::rw⟩,aR Y (aF Y),aA (.cons _ (.refl _)) (.refl _),⟨w7,Y,(by rw [show (bs++e.name.data.toList)=bs++aP e by rw [bPt J]])⟩⟩
 refine wcp false Y (eD h7) (go 7 ?_)
 obtain ⟨htn,hn0⟩:=bRq (e:=e) J hsh
 have htx:=congrArg List.length htn
 have hnum:e.num=((e.num.toNat:Nat):Int):=J
 refine go 2 ?_
 refine wyz Y (fL (hy:=aX [] isAgg3 sizeOf3) (gQ hnum)) ?_
 refine wo Y (bMu 1 Y call208 Y (bSd e.num.toNat bs v _ _ J J) Bq Bo λw8=>?_)
 refine go 4 ?_
 exact ⟨.inr Y,_,⟨bx,⟨w8,_,_,_,_⟩::rw⟩,aR Y (aF Y),aA (.cons _ (.refl _)) (.refl _),⟨w8,Y,(by rw [show (bs++cO e.num.toNat)=bs++aP e by rw [htn]])⟩⟩
theorem bQu{e:aH}(h:e.sane):fit e.num:=by cases e;rw [aH.sane] at h;exact h.1
theorem bNz:∀(N:Nat)(e:aH),e.nodes <= N -> N <= 1000000000 -> eO e=true -> e.sane -> ∀(bs:List UInt8)(v:Value)(bx:List Box)(rw:List bA),bs.length+(aP e).length <= 100000000000000 -> aL prog 194 [bK5 (Cv v),.agg (cU e)] (aY v) ⟨bx,⟨v,5,1,bs.length,iF bs⟩::rw⟩ λt s'=>∃v',t=Cv v' /\ s'=⟨bx,⟨v',5,1,(bs++aP e).length,iF (bs++aP e)⟩::rw⟩
 |0,e,h,_,_,_,_,_,_,_,_=>Bm
 |N+1,e,h,hN,hsh,hs,bs,v,bx,rw,hb=>bN5 e bs v bx rw hsh J (bQu hs) hb (λk hk bs v bx rw hb=>bNz N e.args[k] B0 J ((bLd hsh).2 k hk) (mV _ (bM1 hs).2 _ (getElem_mem _)) bs v bx rw hb)
def bRv(e:aH):List UInt8:=if dM e then aP e else []
theorem bPb{e:aH}(h:dM e=true):eO e=true:=by unfold dM at h;rw [Bool.and_eq_true] at h;exact h.1
theorem bQg(e:aH)(hN:e.nodes <= 1000000000)(hs:e.sane)(hL:dM e=true -> (aP e).length <= 100000000000000)(s:Sto):aL prog 173 [bK5 (.agg (cU e))] [] s λt s'=>t=Cs (bytes (bRv e)) /\ s'=s:=by
 obtain ⟨bx,rw⟩:=s
 refine acX 9 func173 ?_
 refine go 10 λb1=>?_
 rcases Bool.eq_false_or_eq_true (dM e) with h1|h1
 ·refine bK8 0 Y call163 Y (bLw e hN hs _) h1 (go 8 ?_)
  have hv:dM e=true:=h1
  have hsh:=bPb hv
  have htl:=hL hv
  refine bR3 5 1 ?_
  refine go 1 ?_
  refine wo Y (bMu 0 Y call194 Y (bNz _ e (Nat.le_refl _) J hsh hs [] _ _ _ (by simp only [length_nil];omega)) Bc (λ_ b hb=>DF) λw2=>?_)
  refine aE1 7 Y ?_
  refine wyz Y (fL (hy:=cK8 Y Y Y) (jX (by rw [List.nil_append]))) (go 4 ?_)
  exact bHe (s':=⟨bx,rw⟩) Y sb1 ⟨oW (by unfold bRv;rw [if_pos hv]),Y⟩
 refine bK8 0 Y call163 Y (bLw e hN hs _) h1 (go 11 ?_)
 exact bHe (s':=⟨bx,rw⟩) Y sb1 ⟨oW (by unfold bRv;rw [if_neg (by rw [h1];decide)];rfl),Y⟩
end
end Go.Proofs.YtjgeihmhppadaaaGreatDoor
