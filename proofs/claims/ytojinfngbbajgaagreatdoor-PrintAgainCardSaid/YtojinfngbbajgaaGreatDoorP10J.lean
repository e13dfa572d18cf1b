import Derived.Test.YtojinfngbbajgaaGreatDoorP1J
import Derived.Test.YtojinfngbbajgaaGreatDoorP5J
import Derived.Test.YtojinfngbbajgaaGreatDoorP9J
import Derived.Test.YtojinfngbbajgaaGreatDoorP8J
import Derived.Test.YtojinfngbbajgaaGreatDoorP4J
import Derived.Test.YtojinfngbbajgaaGreatDoorProg
set_option linter.all false
set_option synthInstance.maxHeartbeats 1000000
set_option synthInstance.maxSize 1000000
set_option maxHeartbeats 1600000
set_option maxRecDepth 100000
namespace Go.Proofs.YtojinfngbbajgaaGreatDoor
open Go.Proofs.Tryz
open List (length_append length_cons length_nil mem_append mem_cons not_mem_nil append_assoc getElem_mem take_of_length_le)
section
mutual
def aH.nodes:aH -> Nat
 |.mk _ _ _ args=>1+cZ args
def cZ:List aH -> Nat
 |[]=>0
 |e::es=>1+e.nodes+cZ es
end
theorem nM:∀(l:List aH)(k:Nat)(h:k<l.length),l[k].nodes<cZ l
 |[],k,h=>by simp at h
 |e::es,0,h=>by rw [cZ];simp;omega
 |e::es,k+1,h=>by have:=nM es k (by simpa using h);rw [cZ];simp;omega
theorem tN:∀(l:List aH),l.length <= cZ l
 |[]=>by simp
 |e::es=>by have:=tN es;rw [cZ];simp;omega
end
section
open Go.RowKit
theorem pG(x:ByteArray)(h:x.size <= 4611686018427387904)(s:Sto):aL prog 90 [.c (.val (.string x))] [] s fun r s'=>r=.c (.val (.bool (bQ x))) /\ s'=s:=
 aHq (us:=[.string x]) rfl rfl (fun w=>aKu x w h) s
theorem nA(op:Int)(s:Sto):aL prog 164 [.c (.val (.int .i64 op))] [] s fun r s'=>r=.c (.val (.int .i64 ((aM op:Nat):Int))) /\ s'=s:=
 aHq (us:=[.int .i64 op]) rfl rfl (fun w=>aDw op w) s
theorem aIh(e:aH)(k:Nat)(hk:k<e.args.length)(s:Sto):aL prog 163 [.agg (cU e),nI k] [] s fun t s'=>t=.c (.val (.bool (cV e.op k e.args[k].op))) /\ s'=s:=by
 obtain ⟨bx,rw⟩:=s
 refine acB func163 rfl ?_
 show AWp prog _ ⟨29,_,⟨bx,rw⟩,[(0,.agg (cU e)),(1,nI k)]⟩ _
 refine go 7 fun b1=>?_
 refine dx [b1] (tz [(0,true),(1,true),(2,true)] 9 (go 4 ?_))
 refine tx 3 rfl (bH fO cU e.args iU fP k rfl rfl rfl rfl (by omega) (by decide) runUnderlying71 sizeOf73) (tz [(4,true),(5,true),(7,true),(8,true)] 4 (go 5 ?_))
 refine ox 6 rfl rfl (bV rfl rfl (by decide) call164 rfl (nA (e.args[k].op) _) ?_)
 rintro _ _ ⟨rfl,rfl⟩
 refine ox 9 rfl rfl (bV rfl rfl (by decide) call164 rfl (nA e.op _) ?_)
 rintro _ _ ⟨rfl,rfl⟩
 refine tz [(10,true),(11,true)] 0 (go 3 ?_)
 refine ax (go 5 ?_)
 by_cases h3:((aM (e.args[k].op):Nat):Int)<((aM e.op:Nat):Int)
 ·refine wcp true rfl (jZ h3) (go 13 ?_)
  exact bHe (s':=⟨bx,rw⟩) rfl sb1 ⟨cX (by unfold cV;first|exact decide_eq_true (by omega)|exact decide_eq_false (by omega)),rfl⟩
 refine wcp false rfl (jQ h3) (go 3 ?_)
 by_cases h4:((aM (e.args[k].op):Nat):Int)=((aM e.op:Nat):Int)
 ·refine wcp true rfl (eR h4) (go 2 ?_)
  by_cases h5:((k:Nat):Int)=1
  ·refine wcp true rfl (eR h5) (go 6 ?_)
   exact bHe (s':=⟨bx,rw⟩) rfl sb1 ⟨cX (by unfold cV;first|exact decide_eq_true (by omega)|exact decide_eq_false (by omega)),rfl⟩
  refine wcp false rfl (eD h5) (go 6 ?_)
  exact bHe (s':=⟨bx,rw⟩) rfl sb1 ⟨cX (by unfold cV;first|exact decide_eq_true (by omega)|exact decide_eq_false (by omega)),rfl⟩
 refine wcp false rfl (eD h4) (go 9 ?_)
 exact bHe (s':=⟨bx,rw⟩) rfl sb1 ⟨cX (by unfold cV;first|exact decide_eq_true (by omega)|exact decide_eq_false (by omega)),rfl⟩
theorem qQ(b:Int):∀(l:List aH)(j:Nat)(x:aH),bSm b j (l++[x])=max (bSm b j l) (dI x+if cV b (j+l.length) x.op then 1 else 0)
 |[],j,x=>by simp [bSm]
 |y::l,j,x=>by
  rw [List.cons_append,bSm,qQ b l (j+1) x,bSm,Nat.max_assoc]
  have:j+1+l.length=j+(y::l).length:=by simp;omega
  rw [this]
theorem kF(b:Int)(l:List aH)(k:Nat)(h:k<l.length):bSm b 0 (l.take (k+1))=max (bSm b 0 (l.take k)) (dI l[k]+if cV b k l[k].op then 1 else 0):=by
 rw [List.take_succ_eq_append_getElem h,qQ,List.length_take,Nat.min_eq_left (by omega),Nat.zero_add]
theorem aBa(N:Nat):∀(e:aH),e.nodes <= N -> dI e+1 <= 2*e.nodes:=by
 induction N with
 |zero=>intro e h;cases e;rw [aH.nodes] at h;omega
 |succ N ih=>
  rintro ⟨op,num,name,args⟩ h
  rw [aH.nodes] at h
  have key:∀(l:List aH)(k:Nat),cZ l <= N -> bSm op k l <= 2*cZ l:=by
   intro l
   induction l with
   |nil=>intro k _;rw [bSm];omega
   |cons e es ih2=>
    intro k hl
    rw [cZ] at hl⊢
    rw [bSm]
    have h1:=ih e (by omega)
    have h2:=ih2 (k+1) (by omega)
    split<;>omega
  have:=key args 0 (by omega)
  rw [dI,aH.nodes]
  split<;>omega
theorem sF(e:aH)(k:Nat)(h:k<e.args.length):e.args[k].nodes<e.nodes:=by
 cases e with
 |mk op num name args=>have:=nM args k h;rw [aH.nodes];show args[k].nodes<_;omega
theorem uC(e:aH):e.args.length<e.nodes:=by
 cases e with
 |mk op num name args=>have:=tN args;rw [aH.nodes];show args.length<_;omega
theorem tX(e:aH):dI e=bSm e.op 0 e.args+if aM e.op=5 then 1 else 0:=by cases e;rw [dI];rfl
theorem aFv(e:aH)(hN:e.nodes <= 1000000000)(ih:∀k (h:k<e.args.length) (s:Sto),aL prog 162 [.agg (cU e.args[k])] [] s fun r s'=>r=.c (.val (.int .i64 ((dI e.args[k]:Nat):Int))) /\ s'=s)(s:Sto):aL prog 162 [.agg (cU e)] [] s fun t s'=>t=.c (.val (.int .i64 ((dI e:Nat):Int))) /\ s'=s:=by
 obtain ⟨bx,rw⟩:=s
 have hlen:=uC e
 refine acB func162 rfl ?_
 show AWp prog _ ⟨34,_,⟨bx,rw⟩,[(0,.agg (cU e))]⟩ _
 refine go 18 fun b1=>?_
 refine oC (e.args.length) 4 (fun k=>[(3,.c (.val (.int .i64 ((bSm e.op 0 (e.args.take (k)):Nat):Int)))),(1,pP b1)]) (sA rfl) fun k hk=>?_
 show AWp prog _ ⟨34,_,_,(4,nI k)::[(3,.c (.val (.int .i64 ((bSm e.op 0 (e.args.take (k)):Nat):Int)))),(1,pP b1)]⟩ _
 refine go 7 ?_
 by_cases h1:((k:Nat):Int)<((e.args.length:Nat):Int)
 ·refine wcp true rfl (jZ h1) (go 12 ?_)
  refine wyz rfl (bH fO cU e.args iU fP k rfl rfl rfl rfl (by omega) (by decide) runUnderlying71 sizeOf73) (go 1 ?_)
  refine wc0 rfl call162 rfl (ih k (by omega) _) ?_
  rintro _ _ ⟨rfl,rfl⟩
  refine go 6 ?_
  have hle:=aBa _ e.args[k] (Nat.le_refl _)
  have hnk:=sF e k (by omega)
  refine go 2 ?_
  refine wc0 rfl call163 rfl (aIh e k (by omega) _) ?_
  rintro _ _ ⟨hr4,rfl⟩
  rcases Bool.eq_false_or_eq_true (cV e.op k e.args[k].op) with h5|h5
  ·rw [h5] at hr4
   subst hr4
   refine go 5 ?_
   refine wad rfl (go 6 ?_)
   have hmx:=kF e.op e.args k (by omega)
   refine wyz rfl (aNq _ rfl rfl rfl rfl) (go 6 ?_)
   refine wad rfl (go 2 ?_)
   exact ⟨by omega,(aG rfl (gQ (by omega)) (aG rfl (gQ (by rw [kF _ _ _ (by omega),h5];simp only [if_true,Bool.false_eq_true,if_false];omega)) (sA rfl)))⟩
  rw [h5] at hr4
  subst hr4
  refine go 8 ?_
  have hmx:=kF e.op e.args k (by omega)
  refine wyz rfl (aNq _ rfl rfl rfl rfl) (go 6 ?_)
  refine wad rfl (go 2 ?_)
  exact ⟨by omega,(aG rfl (gQ (by omega)) (aG rfl (gQ (by rw [kF _ _ _ (by omega),h5];simp only [if_true,Bool.false_eq_true,if_false];omega)) (sA rfl)))⟩
 refine wcp false rfl (jQ h1) (go 11 ?_)
 have hle0:=aBa _ e (Nat.le_refl _)
 have hq:=tX e
 obtain rfl:k=e.args.length:=by omega
 rw [take_of_length_le (Nat.le_refl _)]
 refine go 2 ?_
 refine wc0 rfl call164 rfl (nA e.op _) ?_
 rintro _ _ ⟨rfl,rfl⟩
 by_cases h10:((aM e.op:Nat):Int)=5
 ·refine wcp true rfl (eR h10) (go 5 ?_)
  refine wad rfl (go 10 ?_)
  exact bHe (s':=⟨bx,rw⟩) rfl sb1 ⟨aPy (by rw [tX,if_pos (by omega)];first|rfl|simp),rfl⟩
 refine wcp false rfl (eD h10) (go 12 ?_)
 exact bHe (s':=⟨bx,rw⟩) rfl sb1 ⟨aPy (by rw [tX,if_neg (by omega)];first|rfl|simp),rfl⟩
theorem aGd:∀(N:Nat)(e:aH),e.nodes <= N -> N <= 1000000000 -> ∀s:Sto,aL prog 162 [.agg (cU e)] [] s fun r s'=>r=.c (.val (.int .i64 ((dI e:Nat):Int))) /\ s'=s
 |0,e,h,_=>by cases e;rw [aH.nodes] at h;omega
 |N+1,e,h,hN=>aFv e (by omega) fun k hk s=>aGd N e.args[k] (by have:=sF e k hk;omega) (by omega) s
theorem dZ(e:aH):eO e=((if aM e.op=6 then jG e.op e.num e.name else decide (e.num=0) && decide (e.name=aK)) && decide (e.args.length=arity e.op) && dY e.args):=by cases e;rw [eO];rfl
theorem pK:∀(l:List aH)(k:Nat)(h:k<l.length),dY (l.take (k+1))=(dY (l.take k) && eO l[k])
 |e::es,0,_=>by simp [dY]
 |e::es,k+1,h=>by
  rw [List.take_succ_cons,List.take_succ_cons,dY,dY,pK es k (by simpa using h),Bool.and_assoc]
  rfl
theorem oF:∀(l:List aH)(k:Nat)(h:k<l.length),eO l[k]=false -> dY l=false
 |e::es,0,_,hs=>by rw [dY];simp only [List.getElem_cons_zero] at hs;rw [hs];rfl
 |e::es,k+1,h,hs=>by rw [dY,oF es k (by simpa using h) (by simpa using hs),Bool.and_false]
theorem aHf(e:aH)(hsz:e.name.size <= 4611686018427387904)(hN:e.nodes <= 1000000000)(ih:∀k (h:k<e.args.length) (s:Sto),aL prog 161 [.agg (cU e.args[k])] [] s fun r s'=>r=.c (.val (.bool (eO e.args[k]))) /\ s'=s)(s:Sto):aL prog 161 [.agg (cU e)] [] s fun t s'=>t=.c (.val (.bool (eO e))) /\ s'=s:=by
 obtain ⟨bx,rw⟩:=s
 have hlen:=uC e
 refine acB func161 rfl ?_
 show AWp prog _ ⟨77,_,⟨bx,rw⟩,[(0,.agg (cU e))]⟩ _
 refine go 16 fun b1=>?_
 refine wc0 rfl call164 rfl (nA e.op _) ?_
 rintro _ _ ⟨rfl,rfl⟩
 refine go 5 ?_
 by_cases h2:((aM e.op:Nat):Int)=6
 ·refine wcp true rfl (eR h2) (go 10 ?_)
  refine dx [b1] (tz [(0,true),(1,true)] 26 (go 3 ?_))
  by_cases h4:e.op=1
  ·refine tx 2 rfl (bO true rfl rfl rfl (eR h4)) (tz [(3,true),(4,true),(5,true)] 22 (go 4 ?_))
   by_cases h5:(0:Int) <= e.num
   ·refine tx 6 rfl (bO true rfl rfl rfl (aMq h5)) (tz [(7,true),(8,true),(9,true),(10,true)] 17 (go 5 ?_))
    by_cases h6:e.name=aK
    ·refine tx 11 rfl (aZ true rfl rfl rfl (aL8 h6)) (tz [(12,true),(13,true),(14,true)] 13 (go 4 ?_))
     refine tx 15 rfl (bO false rfl rfl rfl (eD (by omega))) (tz [(16,true),(17,true),(18,true),(19,true),(20,true),(21,true),(22,true),(23,true),(24,true),(25,true),(26,true),(27,true)] 0 (go 13 ?_))
     refine ax (go 22 ?_)
     by_cases h8:((e.args.length:Nat):Int)=0
     ·refine wcp false rfl (xG h8) (go 2 ?_)
      refine wcp false rfl (by simp [bC]) (go 23 ?_)
      refine lE (fun k=>dY (e.args.take k)=true) (e.args.length) 6 (fun k=>[(1,pP b1),(3,.c (.val (.int .i64 0)))]) rfl (sA rfl) fun k hk hvk=>?_
      replace hvk:dY (e.args.take k)=true:=hvk
      show AWp prog _ ⟨77,_,_,(6,nI k)::[(1,pP b1),(3,.c (.val (.int .i64 0)))]⟩ _
      refine go 5 ?_
      refine wcp false rfl (jQ (by omega)) (go 14 ?_)
      exact bHe (s':=⟨bx,rw⟩) rfl sb1 ⟨cX (by rw [dZ];rw [take_of_length_le (by omega)] at hvk;rw [hvk];unfold jG arity;(repeat' split)<;>first|omega|(simp_all;done)|(simp_all;omega)),rfl⟩
     refine wcp true rfl (xL h8) (go 24 ?_)
     exact bHe (s':=⟨bx,rw⟩) rfl sb1 ⟨cX (by rw [dZ];unfold jG arity;(repeat' split)<;>first|omega|(simp_all;done)|(simp_all;omega)),rfl⟩
    refine tx 11 rfl (aZ false rfl rfl rfl (aLs h6)) (tz [(12,true),(13,true),(14,true)] 13 (go 4 ?_))
    refine tx 15 rfl (bO false rfl rfl rfl (eD (by omega))) (tz [(16,true),(17,true),(18,true),(19,true),(20,true),(21,true),(22,true),(23,true),(24,true),(25,true),(26,true),(27,true)] 0 (go 13 ?_))
    refine ax (go 20 ?_)
    exact bHe (s':=⟨bx,rw⟩) rfl sb1 ⟨cX (by rw [dZ];unfold jG arity;(repeat' split)<;>first|omega|(simp_all;done)|(simp_all;omega)),rfl⟩
   refine tx 6 rfl (bO false rfl rfl rfl (aMx h5)) (tz [(7,true),(8,true),(9,true),(10,true),(11,true),(12,true),(13,true),(14,true)] 13 (go 9 ?_))
   refine tx 15 rfl (bO false rfl rfl rfl (eD (by omega))) (tz [(16,true),(17,true),(18,true),(19,true),(20,true),(21,true),(22,true),(23,true),(24,true),(25,true),(26,true),(27,true)] 0 (go 13 ?_))
   refine ax (go 20 ?_)
   exact bHe (s':=⟨bx,rw⟩) rfl sb1 ⟨cX (by rw [dZ];unfold jG arity;(repeat' split)<;>first|omega|(simp_all;done)|(simp_all;omega)),rfl⟩
  refine tx 2 rfl (bO false rfl rfl rfl (eD h4)) (tz [(3,true),(4,true),(5,true),(6,true),(7,true),(8,true),(9,true),(10,true),(11,true),(12,true),(13,true),(14,true)] 13 (go 13 ?_))
  by_cases h14:e.op=2
  ·refine tx 15 rfl (bO true rfl rfl rfl (eR h14)) (tz [(16,true),(17,true),(18,true)] 9 (go 4 ?_))
   by_cases h15:e.num=0
   ·refine tx 19 rfl (bO true rfl rfl rfl (eR h15)) (tz [(20,true),(21,true),(22,true),(23,true)] 4 (go 5 ?_))
    refine ox 24 rfl rfl (bV rfl rfl (by decide) call90 rfl (pG e.name (by first|assumption|exact hsz) _) ?_)
    rintro _ _ ⟨hr16,rfl⟩
    rcases Bool.eq_false_or_eq_true (bQ e.name) with h17|h17
    ·rw [h17] at hr16
     subst hr16
     refine tz [(25,true),(26,true),(27,true)] 0 (go 4 ?_)
     refine ax (go 22 ?_)
     by_cases h19:((e.args.length:Nat):Int)=0
     ·refine wcp false rfl (xG h19) (go 2 ?_)
      refine wcp false rfl (by simp [bC]) (go 23 ?_)
      refine lE (fun k=>dY (e.args.take k)=true) (e.args.length) 6 (fun k=>[(1,pP b1),(3,.c (.val (.int .i64 0)))]) rfl (sA rfl) fun k hk hvk=>?_
      replace hvk:dY (e.args.take k)=true:=hvk
      show AWp prog _ ⟨77,_,_,(6,nI k)::[(1,pP b1),(3,.c (.val (.int .i64 0)))]⟩ _
      refine go 5 ?_
      refine wcp false rfl (jQ (by omega)) (go 14 ?_)
      exact bHe (s':=⟨bx,rw⟩) rfl sb1 ⟨cX (by rw [dZ];rw [take_of_length_le (by omega)] at hvk;rw [hvk];unfold jG arity;(repeat' split)<;>first|omega|(simp_all;done)|(simp_all;omega)),rfl⟩
     refine wcp true rfl (xL h19) (go 24 ?_)
     exact bHe (s':=⟨bx,rw⟩) rfl sb1 ⟨cX (by rw [dZ];unfold jG arity;(repeat' split)<;>first|omega|(simp_all;done)|(simp_all;omega)),rfl⟩
    rw [h17] at hr16
    subst hr16
    refine tz [(25,true),(26,true),(27,true)] 0 (go 4 ?_)
    refine ax (go 20 ?_)
    exact bHe (s':=⟨bx,rw⟩) rfl sb1 ⟨cX (by rw [dZ];unfold jG arity;(repeat' split)<;>first|omega|(simp_all;done)|(simp_all;omega)),rfl⟩
   refine tx 19 rfl (bO false rfl rfl rfl (eD h15)) (tz [(20,true),(21,true),(22,true),(23,true),(24,true),(25,true),(26,true),(27,true)] 0 (go 9 ?_))
   refine ax (go 20 ?_)
   exact bHe (s':=⟨bx,rw⟩) rfl sb1 ⟨cX (by rw [dZ];unfold jG arity;(repeat' split)<;>first|omega|(simp_all;done)|(simp_all;omega)),rfl⟩
  refine tx 15 rfl (bO false rfl rfl rfl (eD h14)) (tz [(16,true),(17,true),(18,true),(19,true),(20,true),(21,true),(22,true),(23,true),(24,true),(25,true),(26,true),(27,true)] 0 (go 13 ?_))
  refine ax (go 20 ?_)
  exact bHe (s':=⟨bx,rw⟩) rfl sb1 ⟨cX (by rw [dZ];unfold jG arity;(repeat' split)<;>first|omega|(simp_all;done)|(simp_all;omega)),rfl⟩
 refine wcp false rfl (eD h2) (go 6 ?_)
 by_cases h27:((aM e.op:Nat):Int)=5
 ·refine wcp true rfl (eR h27) (go 16 ?_)
  by_cases h29:((e.args.length:Nat):Int)=1
  ·refine wcp false rfl (xG h29) (go 2 ?_)
   refine wcp true rfl rfl (go 3 ?_)
   by_cases h30:e.num=0
   ·refine wcp false rfl (xG h30) (go 3 ?_)
    by_cases h31:e.name=aK
    ·refine wyz rfl (aZ false rfl rfl rfl (aMz h31)) (go 15 ?_)
     refine lE (fun k=>dY (e.args.take k)=true) (e.args.length) 6 (fun k=>[(1,pP b1),(3,.c (.val (.int .i64 1)))]) rfl (sA rfl) fun k hk hvk=>?_
     replace hvk:dY (e.args.take k)=true:=hvk
     show AWp prog _ ⟨77,_,_,(6,nI k)::[(1,pP b1),(3,.c (.val (.int .i64 1)))]⟩ _
     refine go 5 ?_
     by_cases h33:((k:Nat):Int)<1
     ·refine wcp true rfl (jZ h33) (go 12 ?_)
      refine wyz rfl (bH fO cU e.args iU fP k rfl rfl rfl rfl (by omega) (by decide) runUnderlying71 sizeOf73) (go 1 ?_)
      refine wc0 rfl call161 rfl (ih k (by omega) _) ?_
      rintro _ _ ⟨hr35,rfl⟩
      rcases Bool.eq_false_or_eq_true (eO e.args[k]) with h36|h36
      ·rw [h36] at hr35
       subst hr35
       refine go 9 ?_
       refine wad rfl (go 2 ?_)
       exact ⟨by omega,(by rw [pK _ _ (by omega),hvk,h36];rfl),(aG rfl (gQ (by omega)) (sA rfl))⟩
      rw [h36] at hr35
      subst hr35
      refine go 15 ?_
      exact bHe (s':=⟨bx,rw⟩) rfl sb1 ⟨cX (by rw [dZ,oF _ _ _ h36,Bool.and_false]),rfl⟩
     refine wcp false rfl (jQ h33) (go 14 ?_)
     exact bHe (s':=⟨bx,rw⟩) rfl sb1 ⟨cX (by rw [dZ];rw [take_of_length_le (by omega)] at hvk;rw [hvk];unfold jG arity;(repeat' split)<;>first|omega|(simp_all;done)|(simp_all;omega)),rfl⟩
    refine wyz rfl (aZ true rfl rfl rfl (aLc h31)) (go 13 ?_)
    exact bHe (s':=⟨bx,rw⟩) rfl sb1 ⟨cX (by rw [dZ];unfold jG arity;(repeat' split)<;>first|omega|(simp_all;done)|(simp_all;omega)),rfl⟩
   refine wcp true rfl (xL h30) (go 17 ?_)
   exact bHe (s':=⟨bx,rw⟩) rfl sb1 ⟨cX (by rw [dZ];unfold jG arity;(repeat' split)<;>first|omega|(simp_all;done)|(simp_all;omega)),rfl⟩
  refine wcp true rfl (xL h29) (go 24 ?_)
  exact bHe (s':=⟨bx,rw⟩) rfl sb1 ⟨cX (by rw [dZ];unfold jG arity;(repeat' split)<;>first|omega|(simp_all;done)|(simp_all;omega)),rfl⟩
 refine wcp false rfl (eD h27) (go 14 ?_)
 by_cases h44:((e.args.length:Nat):Int)=2
 ·refine wcp false rfl (xG h44) (go 2 ?_)
  refine wcp true rfl rfl (go 3 ?_)
  by_cases h45:e.num=0
  ·refine wcp false rfl (xG h45) (go 3 ?_)
   by_cases h46:e.name=aK
   ·refine wyz rfl (aZ false rfl rfl rfl (aMz h46)) (go 15 ?_)
    refine lE (fun k=>dY (e.args.take k)=true) (e.args.length) 6 (fun k=>[(1,pP b1),(3,.c (.val (.int .i64 2)))]) rfl (sA rfl) fun k hk hvk=>?_
    replace hvk:dY (e.args.take k)=true:=hvk
    show AWp prog _ ⟨77,_,_,(6,nI k)::[(1,pP b1),(3,.c (.val (.int .i64 2)))]⟩ _
    refine go 5 ?_
    by_cases h48:((k:Nat):Int)<2
    ·refine wcp true rfl (jZ h48) (go 12 ?_)
     refine wyz rfl (bH fO cU e.args iU fP k rfl rfl rfl rfl (by omega) (by decide) runUnderlying71 sizeOf73) (go 1 ?_)
     refine wc0 rfl call161 rfl (ih k (by omega) _) ?_
     rintro _ _ ⟨hr50,rfl⟩
     rcases Bool.eq_false_or_eq_true (eO e.args[k]) with h51|h51
     ·rw [h51] at hr50
      subst hr50
      refine go 9 ?_
      refine wad rfl (go 2 ?_)
      exact ⟨by omega,(by rw [pK _ _ (by omega),hvk,h51];rfl),(aG rfl (gQ (by omega)) (sA rfl))⟩
     rw [h51] at hr50
     subst hr50
     refine go 15 ?_
     exact bHe (s':=⟨bx,rw⟩) rfl sb1 ⟨cX (by rw [dZ,oF _ _ _ h51,Bool.and_false]),rfl⟩
    refine wcp false rfl (jQ h48) (go 14 ?_)
    exact bHe (s':=⟨bx,rw⟩) rfl sb1 ⟨cX (by rw [dZ];rw [take_of_length_le (by omega)] at hvk;rw [hvk];unfold jG arity;(repeat' split)<;>first|omega|(simp_all;done)|(simp_all;omega)),rfl⟩
   refine wyz rfl (aZ true rfl rfl rfl (aLc h46)) (go 13 ?_)
   exact bHe (s':=⟨bx,rw⟩) rfl sb1 ⟨cX (by rw [dZ];unfold jG arity;(repeat' split)<;>first|omega|(simp_all;done)|(simp_all;omega)),rfl⟩
  refine wcp true rfl (xL h45) (go 17 ?_)
  exact bHe (s':=⟨bx,rw⟩) rfl sb1 ⟨cX (by rw [dZ];unfold jG arity;(repeat' split)<;>first|omega|(simp_all;done)|(simp_all;omega)),rfl⟩
 refine wcp true rfl (xL h44) (go 24 ?_)
 exact bHe (s':=⟨bx,rw⟩) rfl sb1 ⟨cX (by rw [dZ];unfold jG arity;(repeat' split)<;>first|omega|(simp_all;done)|(simp_all;omega)),rfl⟩
end
section
def cY.small(N:Nat)(r:cY):Prop:=r.index.length <= 1 /\ ∀x,x∈r.index -> x.nodes <= N
def eN.small(N:Nat)(a:eN):Prop:=a.ref.small N /\ a.expr.nodes <= N
mutual
def aJ.small(N:Nat):aJ -> Prop
 |.mk _ _ e r a t f=>e.nodes <= N /\ r.small N /\ a.length <= N /\ (∀x,x∈a -> x.small N) /\ t.length <= N /\ smalls N t /\ f.length <= N /\ smalls N f
def smalls(N:Nat):List aJ -> Prop
 |[]=>True
 |s::r=>s.small N /\ smalls N r
end
theorem nR{N:Nat}:∀{l:List aJ},smalls N l↔∀s,s∈l -> s.small N
 |[]=>by rw [smalls];simp
 |s::r=>by rw [smalls,nR (l:=r)];simp
def bS.small(N:Nat)(f:bS):Prop:=f.params.length <= N /\ f.body.length <= N /\ smalls N f.body
def cK.small(N:Nat)(p:cK):Prop:=p.globals.length <= N /\ p.mutexes.length <= N /\ p.funcs.length <= N /\ ∀f,f∈p.funcs -> f.small N
theorem cN{α β:Type}{r:bN α}{f:α -> Nat -> bN β}{y:β}{k2:Nat}(h:r.bind f=.ok y k2):∃x k1,r=.ok x k1 /\ f x k1=.ok y k2:=by
 cases r with
 |ok x k=>exact ⟨x,k,rfl,h⟩
 |err a e=>cases h
section
variable {l:List Tok}{N:Nat}(hel:rP l)(h1:1 <= N)(hlN:l.length <= N)(hf:∀k x k',k<l.length -> lJ l k=.ok x k' -> x.nodes <= N)
include hel hf
include h1
omit h1 hf in
omit h1 hf in
include hlN
omit hlN h1 hf hel in
omit hlN hel hf in
omit hlN hel hf in
omit h1 hlN hf in
end
end
section
open Go.RowKit
theorem aA3(op num:Int)(name:ByteArray)(args:List aH)(hl:args.length <= 1000000000)(ih:∀k (h:k<args.length) (s:Sto),aL prog 78 [.agg (cU args[k]),.agg (cU args[k])] [] s fun r s'=>r=.c (.val (.bool true)) /\ s'=s)(s:Sto):
  aL prog 78 [.agg [.val (.int .i64 op),.val (.int .i64 num),.val (.string name),.sl args.length (args.flatMap fO)],.agg [.val (.int .i64 op),.val (.int .i64 num),.val (.string name),.sl args.length (args.flatMap fO)]] [] s fun r s'=>r=.c (.val (.bool true)) /\ s'=s:=by
 obtain ⟨bx,rw⟩:=s
 refine acB func78 rfl ?_
 show AWp prog _ ⟨53,_,⟨bx,rw⟩,[(0,.agg [.val (.int .i64 op),.val (.int .i64 num),.val (.string name),.sl args.length (args.flatMap fO)]),(1,.agg [.val (.int .i64 op),.val (.int .i64 num),.val (.string name),.sl args.length (args.flatMap fO)])]⟩ _
 refine go 14 fun b1 b2=>?_
 refine wcp false rfl (by simp [bC]) (go 5 ?_)
 refine wcp false rfl (by simp [bC]) (go 6 ?_)
 refine wyz rfl (aZ false rfl rfl rfl (by simp [oM])) (go 8 ?_)
 refine wcp false rfl (by simp [bC]) (go 13 ?_)
 refine tW (args.length) 5 [(2,_),(3,_)] (sA rfl) fun k hk=>?_
 refine go 7 ?_
 refine wyz rfl (bO _ rfl rfl rfl rfl) (go 2 ?_)
 refine gY rfl (fun hc2=>?_) (fun hc2=>?_)
 ·have hk2:k<args.length:=by simpa using hc2
  refine go 5 ?_
  refine dx [b2,b1] (tz [(0,true),(1,true),(2,true)] 9 (go 4 ?_))
  refine tx 3 rfl (bH fO cU args iU fP k rfl rfl rfl rfl hk2 (by decide) runUnderlying71 sizeOf73) (tz [(4,true),(5,true),(6,true),(7,true)] 4 (go 5 ?_))
  refine tx 8 rfl (bH fO cU args iU fP k rfl rfl rfl rfl hk2 (by decide) runUnderlying71 sizeOf73) (tz [(9,true)] 2 (go 2 ?_))
  refine ox 10 rfl rfl (bD [] rfl rfl (by decide) call78 rfl (ih k hk2 ⟨_,_⟩) bDl bDl (fun _=>bDl) ?_)
  rintro r3 s3 ⟨rfl,rfl⟩
  refine tz [(11,true)] 0 (go 2 ?_)
  refine ax (go 7 ?_)
  refine wad rfl (go 2 ?_)
  exact ⟨by omega,(sA rfl)⟩
 refine go 11 ?_
 exact bHe (s':=⟨bx,rw⟩) rfl sb2 ⟨rfl,rfl⟩
mutual
theorem mM:∀(x:aH),x.nodes <= 1000000000 -> ∀(s:Sto),aL prog 78 [.agg (cU x),.agg (cU x)] [] s fun r s'=>r=.c (.val (.bool true)) /\ s'=s
 |.mk op num name args,hn,s=>aA3 op num name args (by have:=tN args;simp only [aH.nodes] at hn;omega) (fun k h s=>tE args (by simp only [aH.nodes] at hn;omega) k h s) s
theorem tE:∀(l:List aH),cZ l <= 1000000000 -> ∀(k:Nat)(h:k<l.length)(s:Sto),aL prog 78 [.agg (cU l[k]),.agg (cU l[k])] [] s fun r s'=>r=.c (.val (.bool true)) /\ s'=s
 |[],_,_,h,_=>absurd h (by simp)
 |e::es,hn,0,_,s=>mM e (by simp only [cZ] at hn;omega) s
 |e::es,hn,k+1,h,s=>tE es (by simp only [cZ] at hn;omega) k (by simpa using h) s
end
theorem aE8(name:ByteArray)(s:Sto):aL prog 79 [.agg [.val (.string name),.sl 0 []],.agg [.val (.string name),.sl 0 []]] [] s fun r s'=>r=.c (.val (.bool true)) /\ s'=s:=by
 obtain ⟨bx,rw⟩:=s
 refine acB func79 rfl ?_
 show AWp prog _ ⟨40,_,⟨bx,rw⟩,[(0,.agg [.val (.string name),.sl 0 []]),(1,.agg [.val (.string name),.sl 0 []])]⟩ _
 refine go 14 fun b1 b2=>?_
 refine wyz rfl (aZ false rfl rfl rfl (by simp [oM])) (go 7 ?_)
 refine wcp false rfl (by simp [bC]) (go 7 ?_)
 refine dx [b2,b1] (tz [(0,true),(1,true),(2,true)] 19 (go 4 ?_))
 refine tx 3 rfl (bO true rfl rfl rfl (by simp [bC])) (tz [(4,true),(5,true),(6,true),(7,true),(8,true),(9,true),(10,true),(11,true),(12,true),(13,true),(14,true),(15,true),(16,true),(17,true),(18,true),(19,true),(20,true),(21,true)] 0 (go 19 ?_))
 refine ax (go 2 ?_)
 exact bHe (s':=⟨bx,rw⟩) rfl sb2 ⟨rfl,rfl⟩
theorem aFy(name:ByteArray)(x:aH)(hx:x.nodes <= 1000000000)(s:Sto):aL prog 79 [.agg [.val (.string name),.sl [x].length ([x].flatMap fO)],.agg [.val (.string name),.sl [x].length ([x].flatMap fO)]] [] s fun r s'=>r=.c (.val (.bool true)) /\ s'=s:=by
 obtain ⟨bx,rw⟩:=s
 refine acB func79 rfl ?_
 show AWp prog _ ⟨40,_,⟨bx,rw⟩,[(0,.agg [.val (.string name),.sl [x].length ([x].flatMap fO)]),(1,.agg [.val (.string name),.sl [x].length ([x].flatMap fO)])]⟩ _
 refine go 14 fun b1 b2=>?_
 refine wyz rfl (aZ false rfl rfl rfl (by simp [oM])) (go 7 ?_)
 refine wcp false rfl (by simp [bC]) (go 7 ?_)
 refine dx [b2,b1] (tz [(0,true),(1,true),(2,true)] 19 (go 4 ?_))
 refine tx 3 rfl (bO false rfl rfl rfl rfl) (tz [(4,true),(5,true),(6,true),(7,true)] 14 (go 5 ?_))
 refine tx 8 rfl (bO true rfl rfl rfl (by simp [bC])) (tz [(9,true),(10,true),(11,true)] 10 (go 4 ?_))
 refine tx 12 rfl (bH fO cU [x] iU fP 0 rfl rfl rfl rfl (by simp) (by decide) runUnderlying71 sizeOf73) (tz [(13,true),(14,true),(15,true)] 6 (go 4 ?_))
 refine tx 16 rfl (bH fO cU [x] iU fP 0 rfl rfl rfl rfl (by simp) (by decide) runUnderlying71 sizeOf73) (tz [(17,true)] 4 (go 2 ?_))
 refine ox 18 rfl rfl (bD [] rfl rfl (by decide) call78 rfl (mM x hx ⟨_,_⟩) bDl bDl (fun _=>bDl) ?_)
 rintro r2 s2 ⟨rfl,rfl⟩
 refine tz [(19,true),(20,true),(21,true)] 0 (go 4 ?_)
 refine ax (go 2 ?_)
 exact bHe (s':=⟨bx,rw⟩) rfl sb2 ⟨rfl,rfl⟩
theorem wT(x:cY)(hx:x.small 1000000000)(s:Sto):aL prog 79 [.agg (encR x),.agg (encR x)] [] s fun r s'=>r=.c (.val (.bool true)) /\ s'=s:=by
 obtain ⟨name,index⟩:=x
 obtain ⟨h1,h2⟩:=hx
 match index,h1,h2 with
 |[],_,_=>exact aE8 name s
 |[x],_,h2=>exact aFy name x (h2 x (by simp)) s
 |_::_::_,h1,_=>simp at h1
theorem nN(l:List aJ)(hl:l.length <= 1000000000)(hs:∀k (h:k<l.length),l[k].expr.nodes <= 1000000000 /\ l[k].ref.small 1000000000 /\ l[k].args.length <= 1000000000 /\ (∀x,x∈l[k].args -> x.small 1000000000) /\ True)
  (ih1:∀k (h:k<l.length) (s:Sto),aL prog 41 [.c (.sl l[k].thn.length (l[k].thn.flatMap encS)),.c (.sl l[k].thn.length (l[k].thn.flatMap encS))] [] s fun r s'=>r=.c (.val (.bool true)) /\ s'=s) (ih2:∀k (h:k<l.length) (s:Sto),aL prog 41 [.c (.sl l[k].els.length (l[k].els.flatMap encS)),.c (.sl l[k].els.length (l[k].els.flatMap encS))] [] s fun r s'=>r=.c (.val (.bool true)) /\ s'=s) (s:Sto):aL prog 41 [.c (.sl l.length (l.flatMap encS)),.c (.sl l.length (l.flatMap encS))] [] s fun r s'=>r=.c (.val (.bool true)) /\ s'=s:=by
 obtain ⟨bx,rw⟩:=s
 refine acB func41 rfl ?_
 show AWp prog _ ⟨133,_,⟨bx,rw⟩,[(0,.c (.sl l.length (l.flatMap encS))),(1,.c (.sl l.length (l.flatMap encS)))]⟩ _
 refine go 12 ?_
 refine wcp false rfl (by simp [bC]) (go 12 ?_)
 refine tW (l.length) 5 [(0,_),(1,_)] (sA rfl) fun k hk=>?_
 refine go 6 ?_
 refine wyz rfl (bO _ rfl rfl rfl rfl) (go 2 ?_)
 refine gY rfl (fun hc2=>?_) (fun hc2=>?_)
 ·have hk2:k<l.length:=by simpa using hc2
  have hal:l[k].args.length <= 1000000000:=(hs k hk2).2.2.1
  refine go 5 ?_
  refine dx [] (tz [(0,true),(1,true)] 10 (go 3 ?_))
  refine tx 2 rfl (bH encS dG l mE cJ k rfl rfl rfl rfl hk2 (by decide) runUnderlying56 sizeOf78) (tz [(3,true),(4,true),(5,true)] 6 (go 4 ?_))
  refine tx 6 rfl (bH encS dG l mE cJ k rfl rfl rfl rfl hk2 (by decide) runUnderlying56 sizeOf78) (tz [(7,true)] 4 (go 2 ?_))
  refine aI1 8 9 (by kernel_rfl) (by kernel_rfl) (by kernel_rfl) rfl rfl rfl rfl rfl rfl rfl rfl (by decide) rfl rfl (by decide) (by decide) (by decide) zeroValue78 rfl zeroValue78 rfl fun b1 b2=>?_
  refine tz [(10,false),(11,false)] 0 (go 3 ?_)
  refine ax (go 8 ?_)
  refine wcp false rfl (by simp [bC]) (go 5 ?_)
  refine wyz rfl (aZ false rfl rfl rfl (by simp [oM])) (go 6 ?_)
  refine wo rfl (bD [] rfl rfl (by decide) call78 rfl (mM l[k].expr (hs k hk2).1 ⟨_,_⟩) bDl bDl (fun _=>bDl) ?_)
  rintro r3 s3 ⟨rfl,rfl⟩
  refine go 7 ?_
  refine wo rfl (bD [] rfl rfl (by decide) call79 rfl (wT l[k].ref (hs k hk2).2.1 ⟨_,_⟩) bDl bDl (fun _=>bDl) ?_)
  rintro r4 s4 ⟨rfl,rfl⟩
  refine go 9 ?_
  refine wcp false rfl (by simp [bC]) (go 6 ?_)
  refine wo rfl (bD [] rfl rfl (by decide) call41 rfl (ih1 k hk2 ⟨_,_⟩) bDl bDl (fun _=>bDl) ?_)
  rintro r5 s5 ⟨rfl,rfl⟩
  refine go 7 ?_
  refine wo rfl (bD [] rfl rfl (by decide) call41 rfl (ih2 k hk2 ⟨_,_⟩) bDl bDl (fun _=>bDl) ?_)
  rintro r6 s6 ⟨rfl,rfl⟩
  refine go 13 ?_
  refine tW (l[k].args.length) 8 [(0,_),(1,_),(5,_),(6,_),(7,_)] (sA rfl) fun j hj=>?_
  refine go 7 ?_
  refine wyz rfl (bO _ rfl rfl rfl rfl) (go 2 ?_)
  refine gY rfl (fun hc8=>?_) (fun hc8=>?_)
  ·have hj2:j<l[k].args.length:=by simpa using hc8
   refine go 5 ?_
   refine dx [b2,b1] (tz [(0,true),(1,true),(2,true)] 42 (go 4 ?_))
   refine tx 3 rfl (bH eJ eJ l[k].args iD (fun _=>rfl) j rfl rfl rfl rfl hj2 (by decide) runUnderlying76 sizeOf141) (tz [(4,true),(5,true),(6,true),(7,true),(8,true)] 36 (go 6 ?_))
   refine tx 9 rfl (bH eJ eJ l[k].args iD (fun _=>rfl) j rfl rfl rfl rfl hj2 (by decide) runUnderlying76 sizeOf141) (tz [(10,true),(11,true)] 33 (go 3 ?_))
   refine tx 12 rfl (aJ8 false rfl rfl rfl runUnderlying4 (by simp [aEb])) (tz [(13,true),(14,true),(15,true),(16,true)] 28 (go 5 ?_))
   refine tx 17 rfl (bH eJ eJ l[k].args iD (fun _=>rfl) j rfl rfl rfl rfl hj2 (by decide) runUnderlying76 sizeOf141) (tz [(18,true),(19,true),(20,true),(21,true),(22,true)] 22 (go 6 ?_))
   refine tx 23 rfl (bH eJ eJ l[k].args iD (fun _=>rfl) j rfl rfl rfl rfl hj2 (by decide) runUnderlying76 sizeOf141) (tz [(24,true),(25,true)] 19 (go 3 ?_))
   refine ox 26 rfl rfl (bD [] rfl rfl (by decide) call79 rfl (wT l[k].args[j].ref ((hs k hk2).2.2.2.1 _ (getElem_mem hj2)).1 ⟨_,_⟩) bDl bDl (fun _=>bDl) ?_)
   rintro r9 s9 ⟨rfl,rfl⟩
   refine tz [(27,true),(28,true),(29,true),(30,true),(31,true),(32,true)] 12 (go 7 ?_)
   refine tx 33 rfl (bH eJ eJ l[k].args iD (fun _=>rfl) j rfl rfl rfl rfl hj2 (by decide) runUnderlying76 sizeOf141) (tz [(34,true),(35,true),(36,true),(37,true),(38,true)] 6 (go 6 ?_))
   refine tx 39 rfl (bH eJ eJ l[k].args iD (fun _=>rfl) j rfl rfl rfl rfl hj2 (by decide) runUnderlying76 sizeOf141) (tz [(40,true),(41,true)] 3 (go 3 ?_))
   refine ox 42 rfl rfl (bD [] rfl rfl (by decide) call78 rfl (mM l[k].args[j].expr ((hs k hk2).2.2.2.1 _ (getElem_mem hj2)).2 ⟨_,_⟩) bDl bDl (fun _=>bDl) ?_)
   rintro r10 s10 ⟨rfl,rfl⟩
   refine tz [(43,true),(44,true)] 0 (go 3 ?_)
   refine ax (go 7 ?_)
   refine wad rfl (go 2 ?_)
   exact ⟨by omega,(sA rfl)⟩
  refine go 8 ?_
  refine wad rfl (go 2 ?_)
  exact ⟨by omega,cA (.cons _ (.cons _ (.refl _))) (.refl _) (fun b hb=>List.mem_cons_of_mem _ (List.mem_cons_of_mem _ (hb))) (sA rfl)⟩
 refine go 11 ?_
 exact bHe (s':=⟨bx,rw⟩) rfl sb0 ⟨rfl,rfl⟩
theorem rJ{x:aJ}(h:x.small 1000000000):x.expr.nodes <= 1000000000 /\ x.ref.small 1000000000 /\ x.args.length <= 1000000000 /\ (∀a,a∈x.args -> a.small 1000000000) /\ True:=by
 cases x;rw [aJ.small] at h;exact ⟨h.1,h.2.1,h.2.2.1,h.2.2.2.1,trivial⟩
mutual
theorem aC3:∀(x:aJ),x.small 1000000000 -> (∀(s:Sto),aL prog 41 [.c (.sl x.thn.length (x.thn.flatMap encS)),.c (.sl x.thn.length (x.thn.flatMap encS))] [] s fun r s'=>r=.c (.val (.bool true)) /\ s'=s) /\ ∀(s:Sto),aL prog 41 [.c (.sl x.els.length (x.els.flatMap encS)),.c (.sl x.els.length (x.els.flatMap encS))] [] s fun r s'=>r=.c (.val (.bool true)) /\ s'=s
 |.mk k n e r a t f,h=>by
  rw [aJ.small] at h
  exact ⟨fun s=>nN t h.2.2.2.2.1 (fun k hk=>rJ (nR.1 h.2.2.2.2.2.1 _ (getElem_mem hk))) (fun k hk s=>(kJ t h.2.2.2.2.2.1 k hk).1 s) (fun k hk s=>(kJ t h.2.2.2.2.2.1 k hk).2 s) s,
   fun s=>nN f h.2.2.2.2.2.2.1 (fun k hk=>rJ (nR.1 h.2.2.2.2.2.2.2 _ (getElem_mem hk))) (fun k hk s=>(kJ f h.2.2.2.2.2.2.2 k hk).1 s) (fun k hk s=>(kJ f h.2.2.2.2.2.2.2 k hk).2 s) s⟩
theorem kJ:∀(l:List aJ),smalls 1000000000 l -> ∀k (h:k<l.length),(∀(s:Sto),aL prog 41 [.c (.sl l[k].thn.length (l[k].thn.flatMap encS)),.c (.sl l[k].thn.length (l[k].thn.flatMap encS))] [] s fun r s'=>r=.c (.val (.bool true)) /\ s'=s) /\ ∀(s:Sto),aL prog 41 [.c (.sl l[k].els.length (l[k].els.flatMap encS)),.c (.sl l[k].els.length (l[k].els.flatMap encS))] [] s fun r s'=>r=.c (.val (.bool true)) /\ s'=s
 |[],_,_,h=>absurd h (by simp)
 |x::l,hs,0,_=>by rw [smalls] at hs;exact aC3 x hs.1
 |x::l,hs,k+1,h=>by rw [smalls] at hs;exact kJ l hs.2 k (by simpa using h)
end
theorem aAy(l:List aJ)(hl:l.length <= 1000000000)(h:smalls 1000000000 l)(s:Sto):aL prog 41 [.c (.sl l.length (l.flatMap encS)),.c (.sl l.length (l.flatMap encS))] [] s fun r s'=>r=.c (.val (.bool true)) /\ s'=s:=
 nN l hl (fun k hk=>rJ (nR.1 h _ (getElem_mem hk))) (fun k hk s=>(kJ l h k hk).1 s) (fun k hk s=>(kJ l h k hk).2 s) s
theorem aYs(d:Nat)(s:ByteArray)(i:Int)(w:World):(Op.equalIn (d+1+1) 86 (.agg #[.string s,.int .i64 i]) (.agg #[.string s,.int .i64 i])).run prog w=.ok true w:=by
 simp [Op.equalIn,go_sem,aG6]
theorem eqG(s:ByteArray)(i:Int)(w:World):(Op.equal 86 (.agg #[.string s,.int .i64 i]) (.agg #[.string s,.int .i64 i])).run prog w=.ok true w:=aYs _ s i w
theorem aX7(d:Nat)(s:ByteArray)(b:Bool)(i:Int)(w:World):(Op.equalIn (d+1+1) 70 (.agg #[.string s,.bool b,.int .i64 i]) (.agg #[.string s,.bool b,.int .i64 i])).run prog w=.ok true w:=by
 simp [Op.equalIn,go_sem,aG6]
theorem eqM(s:ByteArray)(b:Bool)(i:Int)(w:World):(Op.equal 70 (.agg #[.string s,.bool b,.int .i64 i]) (.agg #[.string s,.bool b,.int .i64 i])).run prog w=.ok true w:=aX7 _ s b i w
theorem aYx(d:Nat)(s:ByteArray)(b:Bool)(w:World):(Op.equalIn (d+1+1) 89 (.agg #[.string s,.bool b]) (.agg #[.string s,.bool b])).run prog w=.ok true w:=by
 simp [Op.equalIn,go_sem,aG6]
theorem eqP(s:ByteArray)(b:Bool)(w:World):(Op.equal 89 (.agg #[.string s,.bool b]) (.agg #[.string s,.bool b])).run prog w=.ok true w:=aYx _ s b w
theorem aMe(p:cK)(hp:p.small 1000000000)(s:Sto):aL prog 17 [.agg (jV p),.agg (jV p)] [] s fun r s'=>r=.c (.val (.bool true)) /\ s'=s:=by
 obtain ⟨bx,rw⟩:=s
 have hgl:=hp.1
 have hml:=hp.2.1
 have hfl:=hp.2.2.1
 refine acB func17 rfl ?_
 show AWp prog _ ⟨129,_,⟨bx,rw⟩,[(0,.agg (jV p)),(1,.agg (jV p))]⟩ _
 refine go 16 fun b1 b2=>?_
 refine wcp false rfl (by simp [bC]) (go 7 ?_)
 refine wcp false rfl (by simp [bC]) (go 8 ?_)
 refine wcp false rfl (by simp [bC]) (go 13 ?_)
 refine tW (p.globals.length) 5 [(2,_),(3,_)] (sA rfl) fun k hk=>?_
 refine go 7 ?_
 refine wyz rfl (bO _ rfl rfl rfl rfl) (go 2 ?_)
 refine gY rfl (fun hc2=>?_) (fun hc2=>?_)
 ·have hk2:k<p.globals.length:=by simpa using hc2
  refine go 5 ?_
  refine dx [b2,b1] (tz [(0,true),(1,true),(2,true)] 8 (go 4 ?_))
  refine tx 3 rfl (bH dB dB p.globals nS (fun _=>rfl) k rfl rfl rfl rfl hk2 (by decide) runUnderlying26 sizeOf86) (tz [(4,true),(5,true),(6,true),(7,true)] 3 (go 5 ?_))
  refine tx 8 rfl (bH dB dB p.globals nS (fun _=>rfl) k rfl rfl rfl rfl hk2 (by decide) runUnderlying26 sizeOf86) (tz [(9,true)] 1 (go 2 ?_))
  refine tx 10 rfl (yI [.string p.globals[k].name,.int .i64 p.globals[k].init] false rfl rfl rfl eqGuardType86 (fun w=>eqG _ _ w) rfl) ?_
  refine ax (go 7 ?_)
  refine wad rfl (go 2 ?_)
  exact ⟨by omega,(sA rfl)⟩
 refine go 12 ?_
 refine tW (p.mutexes.length) 6 [(2,_),(3,_)] (sA rfl) fun k hk=>?_
 refine go 7 ?_
 refine wyz rfl (bO _ rfl rfl rfl rfl) (go 2 ?_)
 refine gY rfl (fun hc4=>?_) (fun hc4=>?_)
 ·have hk2:k<p.mutexes.length:=by simpa using hc4
  refine go 5 ?_
  refine dx [b2,b1] (tz [(0,true),(1,true),(2,true)] 8 (go 4 ?_))
  refine tx 3 rfl (bH bT bT p.mutexes mZ (fun _=>rfl) k rfl rfl rfl rfl hk2 (by decide) runUnderlying27 sizeOf70) (tz [(4,true),(5,true),(6,true),(7,true)] 3 (go 5 ?_))
  refine tx 8 rfl (bH bT bT p.mutexes mZ (fun _=>rfl) k rfl rfl rfl rfl hk2 (by decide) runUnderlying27 sizeOf70) (tz [(9,true)] 1 (go 2 ?_))
  refine tx 10 rfl (yI [.string p.mutexes[k].name,.bool p.mutexes[k].reentrant,.int .i64 p.mutexes[k].size] false rfl rfl rfl eqGuardType70 (fun w=>eqM _ _ _ w) rfl) ?_
  refine ax (go 7 ?_)
  refine wad rfl (go 2 ?_)
  exact ⟨by omega,(sA rfl)⟩
 refine go 12 ?_
 refine tW (p.funcs.length) 7 [(2,_),(3,_)] (sA rfl) fun k hk=>?_
 refine go 7 ?_
 refine wyz rfl (bO _ rfl rfl rfl rfl) (go 2 ?_)
 refine gY rfl (fun hc6=>?_) (fun hc6=>?_)
 ·have hk2:k<p.funcs.length:=by simpa using hc6
  obtain ⟨hpl,hbl,hbs⟩:=hp.2.2.2 _ (getElem_mem hk2)
  refine go 5 ?_
  refine dx [b2,b1] (tz [(0,true),(1,true),(2,true)] 11 (go 4 ?_))
  refine tx 3 rfl (bH fV fV p.funcs vC (fun _=>rfl) k rfl rfl rfl rfl hk2 (by decide) runUnderlying28 sizeOf58) (tz [(4,true),(5,true),(6,true),(7,true)] 6 (go 5 ?_))
  refine tx 8 rfl (bH fV fV p.funcs vC (fun _=>rfl) k rfl rfl rfl rfl hk2 (by decide) runUnderlying28 sizeOf58) (tz [(9,true)] 4 (go 2 ?_))
  refine aI1 10 11 (by kernel_rfl) (by kernel_rfl) (by kernel_rfl) rfl rfl rfl rfl rfl rfl rfl rfl (by decide) rfl rfl (by decide) (by decide) (by decide) zeroValue58 rfl zeroValue58 rfl fun b3 b4=>?_
  refine tz [(12,false),(13,false)] 0 (go 3 ?_)
  refine ax (go 8 ?_)
  refine wyz rfl (aZ false rfl rfl rfl (by simp [oM])) (go 7 ?_)
  refine wcp false rfl (by simp [bC]) (go 6 ?_)
  refine wo rfl (bD [] rfl rfl (by decide) call41 rfl (aAy p.funcs[k].body hbl hbs ⟨_,_⟩) bDl bDl (fun _=>bDl) ?_)
  rintro r7 s7 ⟨rfl,rfl⟩
  refine go 13 ?_
  refine tW (p.funcs[k].params.length) 10 [(2,_),(3,_),(7,_),(8,_),(9,_)] (sA rfl) fun j hj=>?_
  refine go 7 ?_
  refine wyz rfl (bO _ rfl rfl rfl rfl) (go 2 ?_)
  refine gY rfl (fun hc9=>?_) (fun hc9=>?_)
  ·have hj2:j<p.funcs[k].params.length:=by simpa using hc9
   refine go 5 ?_
   refine dx [b4,b3,b2,b1] (tz [(0,true),(1,true),(2,true)] 8 (go 4 ?_))
   refine tx 3 rfl (bH cP cP p.funcs[k].params gL (fun _=>rfl) j rfl rfl rfl rfl hj2 (by decide) runUnderlying55 sizeOf89) (tz [(4,true),(5,true),(6,true),(7,true)] 3 (go 5 ?_))
   refine tx 8 rfl (bH cP cP p.funcs[k].params gL (fun _=>rfl) j rfl rfl rfl rfl hj2 (by decide) runUnderlying55 sizeOf89) (tz [(9,true)] 1 (go 2 ?_))
   refine tx 10 rfl (yI [.string p.funcs[k].params[j].name,.bool p.funcs[k].params[j].mutex] false rfl rfl rfl eqGuardType89 (fun w=>eqP _ _ w) rfl) ?_
   refine ax (go 7 ?_)
   refine wad rfl (go 2 ?_)
   exact ⟨by omega,(sA rfl)⟩
  refine go 8 ?_
  refine wad rfl (go 2 ?_)
  exact ⟨by omega,cA (.cons _ (.cons _ (.refl _))) (.refl _) (fun b hb=>List.mem_cons_of_mem _ (List.mem_cons_of_mem _ (hb))) (sA rfl)⟩
 refine go 11 ?_
 exact bHe (s':=⟨bx,rw⟩) rfl sb2 ⟨rfl,rfl⟩
end
end Go.Proofs.YtojinfngbbajgaaGreatDoor
