import Derived.Test.YtojinfngbbajgaaGreatDoorF5J
import Derived.Test.YtojinfngbbajgaaGreatDoorF19J
set_option linter.all false
set_option synthInstance.maxHeartbeats 1000000
set_option synthInstance.maxSize 1000000
set_option maxHeartbeats 1600000
set_option maxRecDepth 100000
namespace Go.Proofs.YtojinfngbbajgaaGreatDoor
open Go.Proofs.Tryz
open List (length_append length_cons length_nil mem_append mem_cons not_mem_nil append_assoc getElem_mem take_of_length_le)
section
open Go.RowKit
theorem bR7(u:Nat)(bs:List UInt8)(v:Value)(bx:List Box)(rw:List bA)(hu:u<18446744073709551616)(hb:bs.length <= 100000000000000):aL prog 240 [bK5 (.c (.val v)),.c (.val (.int .u64 ((u:Nat):Int))),.c (.val (.int .i64 10))] (aY v) ⟨bx,⟨v,5,1,bs.length,iF bs⟩::rw⟩ fun t s'=>∃v',t=.c (.val v') /\ s'=⟨bx,⟨v',5,1,(bs++cO u).length,iF (bs++cO u)⟩::rw⟩:=by
 refine acB func240 rfl ?_
 show AWp prog _ ⟨36,aY v,⟨bx,⟨v,5,1,bs.length,iF bs⟩::rw⟩,[(0,bK5 (.c (.val v))),(1,.c (.val (.int .u64 ((u:Nat):Int)))),(2,.c (.val (.int .i64 10)))]⟩ _
 refine go 9 ?_
 refine wcp true rfl (by simp [bC]) (go 7 ?_)
 by_cases h2:((u:Nat):Int)<100
 ·refine wcp true rfl (jZ h2) (go 7 ?_)
  refine wyz rfl (bOy rfl rfl rfl rfl rfl (wrap64 (by omega) (by omega))) ?_
  refine wc1 rfl call209 rfl (bQp u (by omega) _) ?_
  refine wo rfl (bHb [] Tryz.t5 (z:=bytes (cO u)) rfl rfl (by decide) rfl rfl underlying23 underlying9 (by kernel_rfl) rfl rfl rfl (by have:=bL6 u;have:=bMa hu;unfold maxLen;show bs.length+(cO u).length <= _;omega) (by have:=bL6 u;have:=bMa hu;show bs.length+(cO u).length <= _;omega) (@length_append _ bs (cO u)).symm rfl (fun _ b hb=>by simp [hb]) (fun b hb=>by simp [hb]) (bLc bs (cO u)) fun w1=>?_)
  refine go 6 ?_
  exact ⟨.inr rfl,_,⟨bx,⟨w1,_,_,_,_⟩::rw⟩,aR rfl (aF rfl),aA (.refl _) (.refl _),⟨w1,rfl,rfl⟩⟩
 refine wcp false rfl (jQ h2) (go 13 fun b2=>?_)
 refine wcR 0 rfl call210 rfl (bP7 u (by omega) hu _) (go 6 ?_)
 have hnd:=bMa hu
 refine wyz rfl (bNr rfl rfl rfl rfl (by omega) (by decide) runUnderlying244 sizeOf5) (go 1 ?_)
 have hnd:=bMa hu
 refine wo rfl (bD [b2] rfl rfl (by decide) call211 rfl (bRk b2 _ (List.replicate 24 0) u 24 bx _ hu (by simp;omega) (by decide)) (bDj (by simp)) (bDj (by simp [Sto.bl])) (fun _=>bDj (by simp)) ?_)
 rintro _ _ ⟨rfl,rfl⟩
 refine go 6 ?_
 refine wyz rfl (bNr rfl rfl rfl rfl (by omega) (by decide) runUnderlying244 sizeOf5) ?_
 refine bHa 26 rfl (by omega) (by decide) ?_
 refine wo rfl (bDm [] bN3 rfl (by unfold iF;rw [List.length_map,bL6,Nat.mul_one]) (by omega) (by unfold maxLen;omega) (by omega) (show bs.length+Lib.nDigits u=(bs++cO u).length by rw [length_append,bL6]) (fun _ b hb=>by simp [hb]) (fun b hb=>by simp [hb]) (bLc bs (cO u)) fun w3=>?_)
 refine go 5 ?_
 exact ⟨.inr rfl,_,⟨bx,⟨w3,_,_,_,_⟩::rw⟩,aR rfl (aF rfl),aA (.refl _) (.refl _),⟨w3,rfl,rfl⟩⟩
theorem bR0(n:Nat)(bs:List UInt8)(v:Value)(bx:List Box)(rw:List bA)(hn:n <= 9223372036854775807)(hb:bs.length <= 100000000000000):aL prog 238 [bK5 (.c (.val v)),nI n,.c (.val (.int .i64 10))] (aY v) ⟨bx,⟨v,5,1,bs.length,iF bs⟩::rw⟩ fun t s'=>∃v',t=.c (.val v') /\ s'=⟨bx,⟨v',5,1,(bs++cO n).length,iF (bs++cO n)⟩::rw⟩:=by
 refine acB func238 rfl ?_
 show AWp prog _ ⟨21,aY v,⟨bx,⟨v,5,1,bs.length,iF bs⟩::rw⟩,[(0,bK5 (.c (.val v))),(1,nI n),(2,.c (.val (.int .i64 10)))]⟩ _
 refine go 8 ?_
 refine wyz rfl (bOy rfl rfl rfl rfl rfl (bSh (by omega) (by omega))) (go 7 ?_)
 refine wcp false rfl (jQ (by omega)) (go 10 ?_)
 refine wo rfl (bMu 0 rfl call240 rfl (bR7 n bs v _ _ (by omega) hb) (fun b hb=>by simp [hb]) (fun _ b hb=>by simp [hb]) fun w1=>?_)
 refine go 4 ?_
 exact ⟨.inr rfl,_,⟨bx,⟨w1,_,_,_,_⟩::rw⟩,aR rfl (aF rfl),aA (.refl _) (.refl _),⟨w1,rfl,rfl⟩⟩
theorem bSd(n:Nat)(bs:List UInt8)(v:Value)(bx:List Box)(rw:List bA)(hn:n <= 9223372036854775807)(hb:bs.length <= 100000000000000):aL prog 232 [bK5 (.c (.val v)),nI n,.c (.val (.int .i64 10))] (aY v) ⟨bx,⟨v,5,1,bs.length,iF bs⟩::rw⟩ fun t s'=>∃v',t=.c (.val v') /\ s'=⟨bx,⟨v',5,1,(bs++cO n).length,iF (bs++cO n)⟩::rw⟩:=by
 refine acB func232 rfl ?_
 show AWp prog _ ⟨11,aY v,⟨bx,⟨v,5,1,bs.length,iF bs⟩::rw⟩,[(0,bK5 (.c (.val v))),(1,nI n),(2,.c (.val (.int .i64 10)))]⟩ _
 refine go 10 ?_
 refine wo rfl (bMu 0 rfl call238 rfl (bR0 n bs v _ _ hn hb) (fun b hb=>by simp [hb]) (fun _ b hb=>by simp [hb]) fun w1=>?_)
 refine go 4 ?_
 exact ⟨.inr rfl,_,⟨bx,⟨w1,_,_,_,_⟩::rw⟩,aR rfl (aF rfl),aA (.refl _) (.refl _),⟨w1,rfl,rfl⟩⟩
def bLs(op:Int):List UInt8:=if op=3 then [45] else if op=4 then [33] else iW op
theorem bQc:∀j (h:j<bLb.length),bLb[j]=bytes (bLs j):=by decide
def bLn(e:aH)(k:Nat):List UInt8:=(dP e.op 0 e.args).getD k []
theorem bLz(e:aH)(k:Nat)(h:k<e.args.length):bLn e k=if cV e.op k e.args[k].op then [40]++aP e.args[k]++[41] else aP e.args[k]:=by
 unfold bLn
 have:=pL e.op e.args 0 k h
 rw [Nat.zero_add] at this
 rw [List.getD_eq_getElem?_getD,this];rfl
theorem bMn{e:aH}(h:eO e=true):(e.args.length=0 /\ (e.op=1∨e.op=2))∨(e.args.length=1 /\ (e.op=3∨e.op=4))∨(e.args.length=2 /\ 5 <= e.op /\ e.op <= 17):=by
 rw [bK7] at h
 unfold bLj at h
 by_cases h0:bLk e.op=0
 ·rw [if_pos h0] at h;cases h
 have ho:=bN2 h0
 rw [if_neg h0] at h
 by_cases h7:bLk e.op=7
 ·rw [if_pos h7] at h
  simp only [Bool.and_eq_true,decide_eq_true_eq] at h
  have:=bPh h7
  omega
 rw [if_neg h7] at h
 simp only [Bool.and_eq_true,decide_eq_true_eq] at h
 by_cases h6:bLk e.op=6
 ·rw [if_pos h6] at h
  have:=bSc h6
  omega
 rw [if_neg h6] at h
 have h1:¬(e.op=1∨e.op=2):=fun hh=>h7 (by unfold bLk;rcases hh with hh|hh<;>rw [hh]<;>rfl)
 have h2:¬(e.op=3∨e.op=4):=fun hh=>h6 (by unfold bLk;rcases hh with hh|hh<;>rw [hh]<;>rfl)
 omega
theorem bQy{e:aH}(h:eO e=true)(h2:e.args.length=2):aP e=bLn e 0++([32]++bLs e.op++[32])++bLn e 1:=by
 have hk:=bMn h
 rw [kU]
 unfold iX bLn bLs
 have hs:aM e.op<5:=by unfold aM;(repeat' split)<;>omega
 rw [if_neg (by omega),if_neg (by omega),if_neg (by omega),if_neg (by omega),if_pos hs,if_neg (by omega),if_neg (by omega)]
 simp only [append_assoc]
theorem bQ7{e:aH}(h:eO e=true)(h1:e.args.length=1):aP e=bLs e.op++bLn e 0:=by
 have hk:=bMn h
 rw [kU]
 unfold iX bLn bLs
 rw [if_neg (by omega),if_neg (by omega)]
 by_cases h3:e.op=3
 ·rw [if_pos h3,if_pos h3];rfl
 rw [if_neg h3,if_neg h3,if_pos (by omega),if_pos (by omega)];rfl
theorem bPt{e:aH}(h2:e.op=2):aP e=e.name.data.toList:=by
 rw [kU];unfold iX;rw [if_neg (by omega),if_pos h2]
theorem bRq{e:aH}(h1:e.op=1)(h:eO e=true):aP e=cO e.num.toNat /\ 0 <= e.num:=by
 rw [dZ] at h
 have hs:aM e.op=6:=by unfold aM;(repeat' split)<;>omega
 rw [if_pos hs] at h
 simp only [Bool.and_eq_true,jG,Bool.or_eq_true,decide_eq_true_eq] at h
 have hn:0 <= e.num:=by omega
 rw [kU];unfold iX eH;rw [if_pos h1,if_neg (by omega),show e.num.natAbs=e.num.toNat by omega]
 exact ⟨rfl,hn⟩
theorem bOh(e:aH)(k:Nat)(bs:List UInt8)(v:Value)(x:Nat)(bx:List Box)(rw:List bA)(hk:k<e.args.length)(hsh:eO e=true)(hb:bs.length+(bLn e k).length <= 100000000000000)(ih:∀(bs:List UInt8)(v:Value)(bx:List Box)(rw:List bA),bs.length+(aP e.args[k]).length <= 100000000000000 -> aL prog 214 [bK5 (.c (.val v)),.agg (cU e.args[k])] (aY v) ⟨bx,⟨v,5,1,bs.length,iF bs⟩::rw⟩ fun t s'=>∃v',t=.c (.val v') /\ s'=⟨bx,⟨v',5,1,(bs++aP e.args[k]).length,iF (bs++aP e.args[k])⟩::rw⟩):aL prog 231 [bK5 (.c (.val v)),nI k,pP x] (aY v) ⟨⟨x,73,cU e⟩::bx,⟨v,5,1,bs.length,iF bs⟩::rw⟩ fun t s'=>∃v',t=.c (.val v') /\ s'=⟨⟨x,73,cU e⟩::bx,⟨v',5,1,(bs++bLn e k).length,iF (bs++bLn e k)⟩::rw⟩:=by
 refine acB func231 rfl ?_
 show AWp prog _ ⟨28,aY v,⟨⟨x,73,cU e⟩::bx,⟨v,5,1,bs.length,iF bs⟩::rw⟩,[(0,bK5 (.c (.val v))),(1,nI k),(2,pP x)]⟩ _
 refine go 10 ?_
 rcases Bool.eq_false_or_eq_true (cV e.op k e.args[k].op) with h1|h1
 ·refine bK8 0 rfl call224 rfl (bOl e k (by omega) (bLd hsh).1 (bLd ((bLd hsh).2 k (by omega))).1 _) h1 (go 7 ?_)
  refine dx [x] ?_
  have hlk:=bLz e k hk
  rw [h1] at hlk
  have hl2:=congrArg List.length hlk
  simp only [if_true,Bool.false_eq_true,if_false,length_append,length_cons,length_nil] at hl2
  refine tz [(0,true),(3,true),(4,true),(5,true)] 8 (go 5 ?_)
  refine tx 6 rfl (bH fO cU e.args iU fP k rfl rfl rfl rfl (by omega) (by decide) runUnderlying71 sizeOf73) (tz [(7,true)] 6 (go 2 ?_))
  refine t2 1 9 rfl ?_ ?_
  ·refine (bDk zb6 rfl (.cons rfl .nil) (r:=iF [40]) rfl ?_)
   refine t2 2 9 rfl ?_ ?_
   ·refine (bDm [] bN3 rfl rfl (by decide) (by unfold maxLen;(try simp only [length_append,length_cons,length_nil]);omega) (by first|omega|grind) (show bs.length+1=(bs++[40]).length by simp only [length_append,length_cons,length_nil]) (fun hn b hb=>qW hn hb) (fun b hb=>by simp [hb]) (bLc bs [40]) fun w1=>?_)
    refine t2 8 9 rfl ?_ ?_
    ·refine (bMu 0 rfl call214 rfl (ih (bs++[40]) w1 _ _ (by first|omega|grind)) (fun b hb=>by simp [hb]) (fun hn b hb=>qW hn hb) fun w2=>?_)
     refine ox 9 rfl rfl (bDk zb6 rfl (.cons rfl .nil) (r:=iF [41]) rfl ?_)
     refine ox 10 rfl rfl (bDm [] bN3 rfl rfl (by decide) (by unfold maxLen;(try simp only [length_append,length_cons,length_nil]);omega) (by first|omega|grind) (show ((bs++[40])++aP e.args[k]).length+1=(((bs++[40])++aP e.args[k])++[41]).length by simp only [length_append,length_cons,length_nil]) (fun hn b hb=>qW hn hb) (fun b hb=>by simp [hb]) (bLc ((bs++[40])++aP e.args[k]) [41]) fun w3=>?_)
     refine tz [(11,true)] 0 (go 2 ?_)
     refine ax (go 2 ?_)
     exact ⟨.inr rfl,_,⟨_,⟨w3,_,_,_,_⟩::rw⟩,aR rfl (aF rfl),aA (.refl _) (.refl _),⟨w3,rfl,(by rw [show (((bs++[40])++aP e.args[k])++[41])=bs++bLn e k by rw [bLz e k hk,h1];simp only [if_true,Bool.false_eq_true,if_false,append_assoc]])⟩⟩
    refine (bDk zb6 rfl (.cons rfl .nil) (r:=iF [41]) rfl ?_)
    refine ox 8 rfl rfl (bMu 0 rfl call214 rfl (ih (bs++[40]) w1 _ _ (by first|omega|grind)) (fun b hb=>by simp [hb]) (fun hn b hb=>qW hn hb) fun w4=>?_)
    refine ox 10 rfl rfl (bDm [] bN3 rfl rfl (by decide) (by unfold maxLen;(try simp only [length_append,length_cons,length_nil]);omega) (by first|omega|grind) (show ((bs++[40])++aP e.args[k]).length+1=(((bs++[40])++aP e.args[k])++[41]).length by simp only [length_append,length_cons,length_nil]) (fun hn b hb=>qW hn hb) (fun b hb=>by simp [hb]) (bLc ((bs++[40])++aP e.args[k]) [41]) fun w5=>?_)
    refine tz [(11,true)] 0 (go 2 ?_)
    refine ax (go 2 ?_)
    exact ⟨.inr rfl,_,⟨_,⟨w5,_,_,_,_⟩::rw⟩,aR rfl (aF rfl),aA (.refl _) (.refl _),⟨w5,rfl,(by rw [show (((bs++[40])++aP e.args[k])++[41])=bs++bLn e k by rw [bLz e k hk,h1];simp only [if_true,Bool.false_eq_true,if_false,append_assoc]])⟩⟩
   refine (bDk zb6 rfl (.cons rfl .nil) (r:=iF [41]) rfl ?_)
   refine ox 2 rfl rfl (bDm [] bN3 rfl rfl (by decide) (by unfold maxLen;(try simp only [length_append,length_cons,length_nil]);omega) (by first|omega|grind) (show bs.length+1=(bs++[40]).length by simp only [length_append,length_cons,length_nil]) (fun hn b hb=>qW hn hb) (fun b hb=>by simp [hb]) (bLc bs [40]) fun w6=>?_)
   refine ox 8 rfl rfl (bMu 0 rfl call214 rfl (ih (bs++[40]) w6 _ _ (by first|omega|grind)) (fun b hb=>by simp [hb]) (fun hn b hb=>qW hn hb) fun w7=>?_)
   refine ox 10 rfl rfl (bDm [] bN3 rfl rfl (by decide) (by unfold maxLen;(try simp only [length_append,length_cons,length_nil]);omega) (by first|omega|grind) (show ((bs++[40])++aP e.args[k]).length+1=(((bs++[40])++aP e.args[k])++[41]).length by simp only [length_append,length_cons,length_nil]) (fun hn b hb=>qW hn hb) (fun b hb=>by simp [hb]) (bLc ((bs++[40])++aP e.args[k]) [41]) fun w8=>?_)
   refine tz [(11,true)] 0 (go 2 ?_)
   refine ax (go 2 ?_)
   exact ⟨.inr rfl,_,⟨_,⟨w8,_,_,_,_⟩::rw⟩,aR rfl (aF rfl),aA (.refl _) (.refl _),⟨w8,rfl,(by rw [show (((bs++[40])++aP e.args[k])++[41])=bs++bLn e k by rw [bLz e k hk,h1];simp only [if_true,Bool.false_eq_true,if_false,append_assoc]])⟩⟩
  refine (bDk zb6 rfl (.cons rfl .nil) (r:=iF [41]) rfl ?_)
  refine ox 1 rfl rfl (bDk zb6 rfl (.cons rfl .nil) (r:=iF [40]) rfl ?_)
  refine ox 2 rfl rfl (bDm [] bN3 rfl rfl (by decide) (by unfold maxLen;(try simp only [length_append,length_cons,length_nil]);omega) (by first|omega|grind) (show bs.length+1=(bs++[40]).length by simp only [length_append,length_cons,length_nil]) (fun hn b hb=>qW hn hb) (fun b hb=>by simp [hb]) (bLc bs [40]) fun w9=>?_)
  refine ox 8 rfl rfl (bMu 0 rfl call214 rfl (ih (bs++[40]) w9 _ _ (by first|omega|grind)) (fun b hb=>by simp [hb]) (fun hn b hb=>qW hn hb) fun w10=>?_)
  refine ox 10 rfl rfl (bDm [] bN3 rfl rfl (by decide) (by unfold maxLen;(try simp only [length_append,length_cons,length_nil]);omega) (by first|omega|grind) (show ((bs++[40])++aP e.args[k]).length+1=(((bs++[40])++aP e.args[k])++[41]).length by simp only [length_append,length_cons,length_nil]) (fun hn b hb=>qW hn hb) (fun b hb=>by simp [hb]) (bLc ((bs++[40])++aP e.args[k]) [41]) fun w11=>?_)
  refine tz [(11,true)] 0 (go 2 ?_)
  refine ax (go 2 ?_)
  exact ⟨.inr rfl,_,⟨_,⟨w11,_,_,_,_⟩::rw⟩,aR rfl (aF rfl),aA (.refl _) (.refl _),⟨w11,rfl,(by rw [show (((bs++[40])++aP e.args[k])++[41])=bs++bLn e k by rw [bLz e k hk,h1];simp only [if_true,Bool.false_eq_true,if_false,append_assoc]])⟩⟩
 refine bK8 0 rfl call224 rfl (bOl e k (by omega) (bLd hsh).1 (bLd ((bLd hsh).2 k (by omega))).1 _) h1 (go 6 ?_)
 have hlk:=bLz e k hk
 rw [h1] at hlk
 have hl2:=congrArg List.length hlk
 simp only [if_true,Bool.false_eq_true,if_false,length_append,length_cons,length_nil] at hl2
 refine go 4 ?_
 refine wyz rfl (bH fO cU e.args iU fP k rfl rfl rfl rfl (by omega) (by decide) runUnderlying71 sizeOf73) (go 1 ?_)
 refine wo rfl (bMu 0 rfl call214 rfl (ih bs v _ _ (by first|omega|grind)) (fun b hb=>by simp [hb]) (fun _ b hb=>by simp [hb]) fun w12=>?_)
 refine go 5 ?_
 exact ⟨.inr rfl,_,⟨_,⟨w12,_,_,_,_⟩::rw⟩,aR rfl (aF rfl),aA (.refl _) (.refl _),⟨w12,rfl,(by rw [show (bs++aP e.args[k])=bs++bLn e k by rw [bLz e k hk,h1];simp only [if_true,Bool.false_eq_true,if_false,append_assoc]])⟩⟩
theorem bQ8:∀j,j<18 -> (bLs ((j:Nat):Int)).length <= 2:=by decide
theorem bN5(e:aH)(bs:List UInt8)(v:Value)(bx:List Box)(rw:List bA)(hsh:eO e=true)(hN:e.nodes <= 1000000000)(hs:fit e.num)(hb:bs.length+(aP e).length <= 100000000000000)(ih:∀k (h:k<e.args.length) (bs:List UInt8) (v:Value) (bx:List Box) (rw:List bA),bs.length+(aP e.args[k]).length <= 100000000000000 -> aL prog 214 [bK5 (.c (.val v)),.agg (cU e.args[k])] (aY v) ⟨bx,⟨v,5,1,bs.length,iF bs⟩::rw⟩ fun t s'=>∃v',t=.c (.val v') /\ s'=⟨bx,⟨v',5,1,(bs++aP e.args[k]).length,iF (bs++aP e.args[k])⟩::rw⟩):aL prog 214 [bK5 (.c (.val v)),.agg (cU e)] (aY v) ⟨bx,⟨v,5,1,bs.length,iF bs⟩::rw⟩ fun t s'=>∃v',t=.c (.val v') /\ s'=⟨bx,⟨v',5,1,(bs++aP e).length,iF (bs++aP e)⟩::rw⟩:=by
 obtain ⟨hf1,hf2⟩:=hs
 have hlen:=uC e
 refine acB func214 rfl ?_
 show AWp prog _ ⟨45,aY v,⟨bx,⟨v,5,1,bs.length,iF bs⟩::rw⟩,[(0,bK5 (.c (.val v))),(1,.agg (cU e))]⟩ _
 refine bR5 0 1 rfl rfl ?_
 refine go 8 fun b1=>?_
 refine wyz rfl (bMs (vs:=[.pointer (some ⟨b1,0,none⟩)]) rfl rfl) (go 7 ?_)
 have hin:=(bLd hsh).1
 have hkd:=bMn hsh
 obtain ⟨j,hj⟩:∃j:Nat,e.op=j:=⟨e.op.toNat,by omega⟩
 have hj18:j<bLb.length:=by show j<18;omega
 have hsg:bLb[j]=bytes (bLs e.op):=by rw [hj];exact bQc j hj18
 have hpl:=bQ8 j hj18
 rw [←hj] at hpl
 refine wyz rfl (bRr 1 j rfl rfl rfl hj hj18 rfl runUnderlying261 sizeOf9) ?_
 refine wyz rfl (fL (jX hsg) (iP rfl rfl isAgg9 sizeOf9 rfl)) (go 20 ?_)
 by_cases h1:((e.args.length:Nat):Int)=2
 ·refine wcp true rfl (eR h1) (go 11 ?_)
  have htx:=congrArg List.length (bQy hsh (by omega))
  simp only [length_append,length_cons,length_nil] at htx
  refine go 2 ?_
  refine wo rfl (bPe (us:=[nI 0]) (cap:=#[.pointer (some ⟨b1,0,none⟩)]) 1 rfl call231 rfl (bOh e 0 bs v _ _ _ (by omega) hsh (by first|omega|grind) (ih 0 (by omega))) (fun b hb=>by simp [hb]) (fun _ b hb=>by simp [hb]) fun w2=>?_)
  refine go 5 ?_
  refine wyz rfl (cz [32] (bLs e.op) rfl rfl rfl rfl rfl) ?_
  refine wyz rfl (cz ([32]++(bLs e.op)) [32] rfl rfl rfl rfl rfl) (go 6 ?_)
  refine dx [b1] (tz [(0,true),(1,true),(2,true),(4,true),(5,true),(6,true)] 4 (go 7 ?_))
  refine tx 7 rfl (cI ((1:Nat):Int) rfl rfl rfl (by omega) (by omega) (by omega)) ?_
  refine ox 3 rfl rfl (bHb [] Tryz.t5 (z:=bytes (([32]++(bLs e.op))++[32])) rfl rfl (by decide) rfl rfl underlying23 underlying9 (by kernel_rfl) rfl rfl rfl (by unfold maxLen;show _+(_:List UInt8).length <= _;(try simp only [length_append,length_cons,length_nil]);omega) (by show _+(_:List UInt8).length <= _;(try simp only [length_append,length_cons,length_nil]);omega) (@length_append _ (bs++bLn e 0) (([32]++(bLs e.op))++[32])).symm rfl (fun hn b hb=>qW hn hb) (fun b hb=>by simp [hb]) (bLc (bs++bLn e 0) (([32]++(bLs e.op))++[32])) fun w3=>?_)
  refine ox 8 rfl rfl (bPe (us:=[nI 1]) (cap:=#[.pointer (some ⟨b1,0,none⟩)]) 1 rfl call231 rfl (bOh e 1 ((bs++bLn e 0)++(([32]++(bLs e.op))++[32])) w3 _ _ _ (by omega) hsh (by first|omega|grind) (ih 1 (by omega))) (fun b hb=>by simp [hb]) (fun hn b hb=>qW hn hb) fun w4=>?_)
  refine tz [(9,true)] 0 (go 2 ?_)
  refine ax (go 5 ?_)
  exact ⟨.inr rfl,_,⟨bx,⟨w4,_,_,_,_⟩::rw⟩,aR rfl (aF rfl),aA (.cons _ (.refl _)) (.refl _),⟨w4,rfl,(by rw [show (((bs++bLn e 0)++(([32]++(bLs e.op))++[32]))++bLn e 1)=bs++aP e by rw [bQy hsh (by omega)];simp only [append_assoc]])⟩⟩
 refine wcp false rfl (eD h1) (go 8 ?_)
 by_cases h4:((e.args.length:Nat):Int)=1
 ·refine wcp true rfl (eR h4) (go 12 ?_)
  refine dx [b1] ?_
  have htx:=congrArg List.length (bQ7 hsh (by omega))
  simp only [length_append,length_cons,length_nil] at htx
  refine tz [(0,true),(1,true),(2,true),(4,true),(5,true),(6,true)] 4 (go 7 ?_)
  refine tx 7 rfl (cI ((0:Nat):Int) rfl rfl rfl (by omega) (by omega) (by omega)) ?_
  refine ox 3 rfl rfl (bHb [] Tryz.t5 (z:=bytes (bLs e.op)) rfl rfl (by decide) rfl rfl underlying23 underlying9 (by kernel_rfl) rfl rfl rfl (by unfold maxLen;show _+(_:List UInt8).length <= _;(try simp only [length_append,length_cons,length_nil]);omega) (by show _+(_:List UInt8).length <= _;(try simp only [length_append,length_cons,length_nil]);omega) (@length_append _ bs (bLs e.op)).symm rfl (fun hn b hb=>qW hn hb) (fun b hb=>by simp [hb]) (bLc bs (bLs e.op)) fun w5=>?_)
  refine ox 8 rfl rfl (bPe (us:=[nI 0]) (cap:=#[.pointer (some ⟨b1,0,none⟩)]) 1 rfl call231 rfl (bOh e 0 (bs++(bLs e.op)) w5 _ _ _ (by omega) hsh (by first|omega|grind) (ih 0 (by omega))) (fun b hb=>by simp [hb]) (fun hn b hb=>qW hn hb) fun w6=>?_)
  refine tz [(9,true)] 0 (go 2 ?_)
  refine ax (go 5 ?_)
  exact ⟨.inr rfl,_,⟨bx,⟨w6,_,_,_,_⟩::rw⟩,aR rfl (aF rfl),aA (.cons _ (.refl _)) (.refl _),⟨w6,rfl,(by rw [show ((bs++(bLs e.op))++bLn e 0)=bs++aP e by rw [bQ7 hsh (by omega)];simp only [append_assoc]])⟩⟩
 refine wcp false rfl (eD h4) (go 18 ?_)
 by_cases h7:e.op=2
 ·refine wcp true rfl (eR h7) (go 5 ?_)
  have htx:=congrArg List.length (bPt (e:=e) (by omega))
  refine go 3 ?_
  refine wo rfl (bHb [] Tryz.t5 (z:=e.name) rfl rfl (by decide) rfl rfl underlying23 underlying9 (by kernel_rfl) rfl rfl rfl (by unfold maxLen;show bs.length+e.name.data.toList.length <= _;omega) (by show bs.length+e.name.data.toList.length <= _;omega) (@length_append _ bs e.name.data.toList).symm rfl (fun _ b hb=>by simp [hb]) (fun b hb=>by simp [hb]) (bLc bs e.name.data.toList) fun w7=>?_)
  refine go 5 ?_
  exact ⟨.inr rfl,_,⟨bx,⟨w7,_,_,_,_⟩::rw⟩,aR rfl (aF rfl),aA (.cons _ (.refl _)) (.refl _),⟨w7,rfl,(by rw [show (bs++e.name.data.toList)=bs++aP e by rw [bPt (by omega)]])⟩⟩
 refine wcp false rfl (eD h7) (go 7 ?_)
 obtain ⟨htn,hn0⟩:=bRq (e:=e) (by omega) hsh
 have htx:=congrArg List.length htn
 have hnum:e.num=((e.num.toNat:Nat):Int):=by omega
 refine go 2 ?_
 refine wyz rfl (fL (gQ hnum) (aX [] rfl rfl rfl isAgg3 sizeOf3 rfl (fun _ h=>by cases h))) ?_
 refine wo rfl (bMu 1 rfl call232 rfl (bSd e.num.toNat bs v _ _ (by omega) (by omega)) (fun b hb=>by simp [hb]) (fun _ b hb=>by simp [hb]) fun w8=>?_)
 refine go 4 ?_
 exact ⟨.inr rfl,_,⟨bx,⟨w8,_,_,_,_⟩::rw⟩,aR rfl (aF rfl),aA (.cons _ (.refl _)) (.refl _),⟨w8,rfl,(by rw [show (bs++cO e.num.toNat)=bs++aP e by rw [htn]])⟩⟩
theorem bQu{e:aH}(h:e.sane):fit e.num:=by cases e;rw [aH.sane] at h;exact h.1
theorem bNz:∀(N:Nat)(e:aH),e.nodes <= N -> N <= 1000000000 -> eO e=true -> e.sane -> ∀(bs:List UInt8)(v:Value)(bx:List Box)(rw:List bA),bs.length+(aP e).length <= 100000000000000 -> aL prog 214 [bK5 (.c (.val v)),.agg (cU e)] (aY v) ⟨bx,⟨v,5,1,bs.length,iF bs⟩::rw⟩ fun t s'=>∃v',t=.c (.val v') /\ s'=⟨bx,⟨v',5,1,(bs++aP e).length,iF (bs++aP e)⟩::rw⟩
 |0,e,h,_,_,_,_,_,_,_,_=>by cases e;rw [aH.nodes] at h;omega
 |N+1,e,h,hN,hsh,hs,bs,v,bx,rw,hb=>bN5 e bs v bx rw hsh (by omega) (bQu hs) hb (fun k hk bs v bx rw hb=>bNz N e.args[k] (by have:=sF e k hk;omega) (by omega) ((bLd hsh).2 k hk) (mV _ (bM1 hs).2 _ (getElem_mem _)) bs v bx rw hb)
def bRv(e:aH):List UInt8:=if dM e then aP e else []
theorem bPb{e:aH}(h:dM e=true):eO e=true:=by unfold dM at h;rw [Bool.and_eq_true] at h;exact h.1
theorem bQg(e:aH)(hN:e.nodes <= 1000000000)(hs:e.sane)(hL:dM e=true -> (aP e).length <= 100000000000000)(s:Sto):aL prog 182 [bK5 (.agg (cU e))] [] s fun t s'=>t=.c (.val (.string (bytes (bRv e)))) /\ s'=s:=by
 obtain ⟨bx,rw⟩:=s
 refine acB func182 rfl ?_
 show AWp prog _ ⟨9,_,⟨bx,rw⟩,[(0,bK5 (.agg (cU e)))]⟩ _
 refine go 10 fun b1=>?_
 rcases Bool.eq_false_or_eq_true (dM e) with h1|h1
 ·refine bK8 0 rfl call172 rfl (bLw e hN hs _) h1 (go 8 ?_)
  have hv:dM e=true:=h1
  have hsh:=bPb hv
  have htl:=hL hv
  refine bR3 5 1 ?_
  refine go 1 ?_
  refine wo rfl (bMu 0 rfl call214 rfl (bNz _ e (Nat.le_refl _) (by omega) hsh hs [] _ _ _ (by simp only [length_nil];omega)) (fun b hb=>by simp [aY,Value.ownBlock] at hb) (fun _ b hb=>by simp [aY,Value.ownBlock] at hb) fun w2=>?_)
  refine aE1 7 rfl ?_
  refine wyz rfl (fL (jX (by rw [List.nil_append])) (hX rfl rfl rfl)) (go 4 ?_)
  exact bHe (s':=⟨bx,rw⟩) rfl sb1 ⟨oW (by unfold bRv;rw [if_pos hv]),rfl⟩
 refine bK8 0 rfl call172 rfl (bLw e hN hs _) h1 (go 11 ?_)
 exact bHe (s':=⟨bx,rw⟩) rfl sb1 ⟨oW (by unfold bRv;rw [if_neg (by rw [h1];decide)];rfl),rfl⟩
end
end Go.Proofs.YtojinfngbbajgaaGreatDoor
