import Derived.Test.YtojinfngbbajgaaGreatDoorK5J
import Derived.Test.YtojinfngbbajgaaGreatDoorK10J
import Derived.Test.YtojinfngbbajgaaGreatDoorK12J
import Derived.Test.YtojinfngbbajgaaGreatDoorK4J
import Derived.Test.YtojinfngbbajgaaGreatDoorProg
import Derived.Test.YtojinfngbbajgaaGreatDoorK7J
import Derived.Test.YtojinfngbbajgaaGreatDoorK9J
import Derived.Test.YtojinfngbbajgaaGreatDoorK8J
set_option linter.all false
set_option synthInstance.maxHeartbeats 1000000
set_option synthInstance.maxSize 1000000
set_option maxHeartbeats 1600000
set_option maxRecDepth 100000
namespace Go.Proofs.YtojinfngbbajgaaGreatDoor
open Go.Proofs.Tryz
open List (length_append length_cons length_nil mem_append mem_cons not_mem_nil append_assoc getElem_mem take_of_length_le)
section
open Go.RowKit
theorem kU(e:aH):aP e=iX e.op e.num e.name (dP e.op 0 e.args):=by cases e;rw [aP];rfl
theorem pL(b:Int):∀(l:List aH)(j k:Nat)(h:k<l.length),(dP b j l)[k]?=some (if cV b (j+k) l[k].op then [40]++aP l[k]++[41] else aP l[k])
 |e::es,j,0,h=>by rw [dP];rfl
 |e::es,j,k+1,h=>by
  rw [dP,List.getElem?_cons_succ,pL b es (j+1) k (by simpa using h)]
  rw [show j+1+k=j+(k+1) by omega];rfl
end
section
open Go.RowKit
theorem bNt{F:FuncId}{u0:Value}{us:List Value}{u:Value}(h1:u.oneCell'=true)(h:∀w,bM9 w -> Calls prog F (u0::us).toArray w fun e w'=>e=.returned u /\ w=w')(s:Sto):aL prog F (bK5 (.c (.val u0))::us.map fun u=>.c (.val u)) [] s fun r s'=>r=.c (.val u) /\ s'=s:=by
 intro vs w hm _ hl hr
 cases vs with
 |nil=>cases hl
 |cons v vs=>
  have h0:dO (bI s.bl w) (bK5 (.c (.val u0))) v:=hr 0 (by simp) (by simp)
  obtain rfl:=(bPv _ _ h0).val
  obtain rfl:vs=us:=by
   refine List.ext_getElem (by simpa using hl) fun i h1 h2=>?_
   have h3:=hr (i+1) (by simpa using h2) (by simpa using h1)
   simp only [List.getElem_cons_succ,List.getElem_map] at h3
   exact h3.val
  exact (h w (bMx h0)).mono fun e w' ⟨h2,h3⟩=>by subst h3;exact ⟨_,_,s,h2,⟨rfl,rfl⟩,.c _ _ (.val _ h1),hm,cW.refl _ _,fun b hb=>.inl hb⟩
theorem bOf(op:Int)(s:Sto):aL prog 222 [bK5 (.c (.val (.int .i64 op)))] [] s fun r s'=>r=.c (.val (.int .i64 ((bLk op:Nat):Int))) /\ s'=s:=
 bNt (us:=[]) rfl (fun w he=>bQf op w he.signs) s
theorem bPh{op:Int}(h:bLk op=7):op=1∨op=2:=by
 unfold bLk at h;(repeat' split at h)<;>omega
theorem bSc{op:Int}(h:bLk op=6):op=3∨op=4:=by
 unfold bLk at h;(repeat' split at h)<;>omega
theorem bNd(op:Int):bLk op <= 7:=by unfold bLk;(repeat' split)<;>omega
theorem bR4{op:Int}(h:bLk op=0):¬(1 <= op /\ op <= 17):=by
 unfold bLk at h;(repeat' split at h)<;>omega
theorem bN2{op:Int}(h:¬bLk op=0):1 <= op /\ op <= 17:=by
 unfold bLk at h;(repeat' split at h)<;>omega
def bLj(e:aH):Bool:=
 if bLk e.op=0 then false else if bLk e.op=7 then decide (e.args.length=0) && jG e.op e.num e.name
 else decide (e.args.length=if bLk e.op=6 then 1 else 2) && decide (e.num=0) && decide (e.name=aK) && dY e.args
theorem bK7(e:aH):eO e=bLj e:=by
 rw [dZ]
 unfold bLj
 by_cases h0:bLk e.op=0
 ·have h1:=bR4 h0
  have hs:aM e.op=6:=by unfold aM;(repeat' split)<;>omega
  have hl:jG e.op e.num e.name=false:=by
   unfold jG
   rw [decide_eq_false (show ¬(e.op=1 /\ 0 <= e.num) by omega),decide_eq_false (show ¬(e.op=2 /\ e.num=0) by omega)];rfl
  rw [if_pos h0,if_pos hs,hl];rfl
 have hop:=bN2 h0
 have h2:=bNc e.op hop
 rw [if_neg h0]
 by_cases h7:bLk e.op=7
 ·rw [if_pos h7,if_pos (by omega)]
  unfold arity
  rw [if_pos (by omega)]
  cases ha:e.args with
  |nil=>simp [dY]
  |cons x l=>simp
 rw [if_neg h7,if_neg (by have:=bNd e.op;omega)]
 unfold arity
 rw [if_neg (by have:=bNd e.op;omega)]
 by_cases h6:bLk e.op=6
 ·rw [if_pos h6,if_pos (by omega)]
  cases decide (e.num=0)<;>cases decide (e.name=aK)<;>cases dY e.args<;>simp
 rw [if_neg h6,if_neg (by omega)]
 cases decide (e.num=0)<;>cases decide (e.name=aK)<;>cases dY e.args<;>simp
theorem bPx:∀{l:List aH} (h:l.length=1),dY l=eO (l[0]'(by omega))
 |[x],_=>by simp [dY]
theorem bOm:∀{l:List aH} (h:l.length=2),dY l=(eO (l[0]'(by omega)) && eO (l[1]'(by omega)))
 |[x,y],_=>by simp [dY]
theorem bLd{e:aH}(h:eO e=true):(1 <= e.op /\ e.op <= 17) /\ ∀k (hk:k<e.args.length),eO e.args[k]=true:=by
 refine ⟨bN2 fun h0=>?_,fun k hk=>?_⟩
 ·rw [bK7] at h;unfold bLj at h;rw [if_pos h0] at h;cases h
 cases hs:eO e.args[k] with
 |true=>rfl
 |false=>
  rw [dZ,oF _ _ _ hs,Bool.and_false] at h;cases h
theorem bOl(e:aH)(k:Nat)(hk:k<e.args.length)(ho:1 <= e.op /\ e.op <= 17)(hok:1 <= e.args[k].op /\ e.args[k].op <= 17)(s:Sto):aL prog 224 [bK5 (.agg (cU e)),nI k] [] s fun t s'=>t=.c (.val (.bool (cV e.op k e.args[k].op))) /\ s'=s:=by
 obtain ⟨bx,rw⟩:=s
 refine acB func224 rfl ?_
 show AWp prog _ ⟨29,_,⟨bx,rw⟩,[(0,bK5 (.agg (cU e))),(1,nI k)]⟩ _
 refine go 7 fun b1=>?_
 refine aB [b1] (by kernel_rfl) ?_
 refine tks [(0,true),(1,true),(2,true)] 9 (by kernel_rfl) ?_
 refine go 4 ?_
 refine tr 3 (by kernel_rfl) rfl (bH fO cU e.args iU fP k rfl rfl rfl rfl (by omega) (by decide) runUnderlying71 sizeOf73) ?_
 refine tks [(4,true),(5,true),(7,true),(8,true)] 4 (by kernel_rfl) ?_
 refine go 5 ?_
 refine one 6 (by kernel_rfl) rfl rfl (bMg 0 [] rfl rfl (by decide) call222 rfl rfl (bOf e.args[k].op _) bDl bDl (fun _=>bDl) ?_)
 rintro _ _ ⟨rfl,rfl⟩
 refine one 9 (by kernel_rfl) rfl rfl (bMg 0 [] rfl rfl (by decide) call222 rfl rfl (bOf e.op _) bDl bDl (fun _=>bDl) ?_)
 rintro _ _ ⟨rfl,rfl⟩
 refine tks [(10,true),(11,true)] 0 (by kernel_rfl) ?_
 refine go 3 ?_
 refine aE (by kernel_rfl) ?_
 refine go 3 ?_
 have hs1:=bNc e.op ho
 have hs2:=bNc e.args[k].op hok
 refine go 2 ?_
 by_cases h3:((bLk e.args[k].op:Nat):Int)<((bLk e.op:Nat):Int)
 ·refine wcp true rfl (jZ h3) ?_
  refine go 13 ?_
  exact bHe (s':=⟨bx,rw⟩) rfl sb1 ⟨cX (by unfold cV;first|exact decide_eq_true (by omega)|exact decide_eq_false (by omega)),rfl⟩
 refine wcp false rfl (jQ h3) ?_
 refine go 3 ?_
 by_cases h4:((bLk e.args[k].op:Nat):Int)=((bLk e.op:Nat):Int)
 ·refine wcp true rfl (eR h4) ?_
  refine go 2 ?_
  by_cases h5:((k:Nat):Int)=1
  ·refine wcp true rfl (eR h5) ?_
   refine go 6 ?_
   exact bHe (s':=⟨bx,rw⟩) rfl sb1 ⟨cX (by unfold cV;first|exact decide_eq_true (by omega)|exact decide_eq_false (by omega)),rfl⟩
  refine wcp false rfl (eD h5) ?_
  refine go 6 ?_
  exact bHe (s':=⟨bx,rw⟩) rfl sb1 ⟨cX (by unfold cV;first|exact decide_eq_true (by omega)|exact decide_eq_false (by omega)),rfl⟩
 refine wcp false rfl (eD h4) ?_
 refine go 9 ?_
 exact bHe (s':=⟨bx,rw⟩) rfl sb1 ⟨cX (by unfold cV;first|exact decide_eq_true (by omega)|exact decide_eq_false (by omega)),rfl⟩
theorem bP1(x:ByteArray)(hx:x.size <= 4611686018427387904)(s:Sto):aL prog 223 [bK5 (.c (.val (.string x)))] [] s fun t s'=>t=.c (.val (.bool (bQ x))) /\ s'=s:=by
 obtain ⟨bx,rw⟩:=s
 refine acB func223 rfl ?_
 show AWp prog _ ⟨35,_,⟨bx,rw⟩,[(0,bK5 (.c (.val (.string x))))]⟩ _
 refine go 8 ?_
 refine wo rfl (aDc rfl rfl (by decide) rfl underlying9 underlying23 underlying5 (by first|(rw [kT];(try simp only [length_append]);omega)|omega) (N:=x.data.toList.length) rfl (cs:=iF x.data.toList) rfl ?_)
 refine wo rfl (bN9 0 [] rfl rfl (by decide) call30 rfl rfl (fun m=>aP8 x.data.toList m _) bDl bDl (fun _=>bDl) ?_)
 rintro _ _ ⟨(⟨tl1,hlx1,rfl,htl1⟩|⟨p1,e1,hlx1,rfl,he1⟩),rfl⟩
 ·refine go 12 ?_
  refine wcp true rfl (by simp [bC]) ?_
  refine go 3 ?_
  by_cases h2:((tl1.length:Nat):Int)=2
  ·refine wcp true rfl (eR h2) ?_
   refine go 3 ?_
   refine wyz rfl (bH aW aW tl1 bJ (fun _=>rfl) 0 rfl rfl rfl rfl (by omega) (by decide) runUnderlying36 sizeOf66) ?_
   refine go 2 ?_
   by_cases h3:((tl1[0].kind:Nat):Int)=1
   ·refine wcp true rfl (eR h3) ?_
    refine go 3 ?_
    refine wyz rfl (bH aW aW tl1 bJ (fun _=>rfl) 0 rfl rfl rfl rfl (by omega) (by decide) runUnderlying36 sizeOf66) ?_
    refine go 3 ?_
    by_cases h4:tl1[0].text=x
    ·refine wyz rfl (aZ true rfl rfl rfl (aL8 h4)) ?_
     refine go 5 ?_
     exact bHe (s':=⟨bx,rw⟩) rfl sb0 ⟨cX ((bL0 hlx1).1 ⟨by omega,by omega,by omega,h4⟩),rfl⟩
    refine wyz rfl (aZ false rfl rfl rfl (aLs h4)) ?_
    refine go 5 ?_
    exact bHe (s':=⟨bx,rw⟩) rfl sb0 ⟨cX (Bool.eq_false_iff.2 fun hh=>by obtain ⟨q1,q0,q2,q3⟩:=(bL0 hlx1).2 hh;first|omega|exact h4 q3),rfl⟩
   refine wcp false rfl (eD h3) ?_
   refine go 13 ?_
   exact bHe (s':=⟨bx,rw⟩) rfl sb0 ⟨cX (Bool.eq_false_iff.2 fun hh=>by obtain ⟨q1,q0,q2,q3⟩:=(bL0 hlx1).2 hh;first|omega|exact h3 q3),rfl⟩
  refine wcp false rfl (eD h2) ?_
  refine go 20 ?_
  exact bHe (s':=⟨bx,rw⟩) rfl sb0 ⟨cX (Bool.eq_false_iff.2 fun hh=>by obtain ⟨q1,q0,q2,q3⟩:=(bL0 hlx1).2 hh;first|omega|exact h2 q3),rfl⟩
 refine go 12 ?_
 refine wcp false rfl (eD (by omega)) ?_
 refine go 24 ?_
 exact bHe (s':=⟨bx,rw⟩) rfl sb0 ⟨cX (bOs hlx1),rfl⟩
theorem bQi(e:aH)(hx:e.name.size <= 4611686018427387904)(ih:∀k (h:k<e.args.length) (s:Sto),aL prog 203 [bK5 (.agg (cU e.args[k]))] [] s fun r s'=>r=.c (.val (.bool (eO e.args[k]))) /\ s'=s)(s:Sto):aL prog 203 [bK5 (.agg (cU e))] [] s fun t s'=>t=.c (.val (.bool (eO e))) /\ s'=s:=by
 obtain ⟨bx,rw⟩:=s
 refine acB func203 rfl ?_
 show AWp prog _ ⟨93,_,⟨bx,rw⟩,[(0,bK5 (.agg (cU e)))]⟩ _
 refine go 11 fun b1=>?_
 refine wcR 0 rfl call222 rfl (bOf e.op _) ?_
 refine go 5 ?_
 by_cases h1:((bLk e.op:Nat):Int)=0
 ·have h7:=bPh (op:=e.op)
  have hle:=bNd e.op
  refine wcp true rfl (eR h1) ?_
  refine go 12 ?_
  exact bHe (s':=⟨bx,rw⟩) rfl sb1 ⟨cX (by rw [bK7];unfold bLj;rw [if_pos (by omega)]),rfl⟩
 have h7:=bPh (op:=e.op)
 have hle:=bNd e.op
 refine wcp false rfl (eD h1) ?_
 refine go 6 ?_
 by_cases h4:((bLk e.op:Nat):Int)=7
 ·refine wcp true rfl (eR h4) ?_
  refine go 10 ?_
  by_cases h6:(0:Int)<((e.args.length:Nat):Int)
  ·refine wcp true rfl (mH h6) ?_
   refine go 12 ?_
   exact bHe (s':=⟨bx,rw⟩) rfl sb1 ⟨cX (by rw [bK7];unfold bLj;rw [if_neg (by omega),if_pos (by omega)];rw [decide_eq_false (by omega)];rfl),rfl⟩
  refine wcp false rfl (mI h6) ?_
  refine go 9 ?_
  by_cases h9:e.op=1
  ·refine wcp true rfl (eR h9) ?_
   refine go 3 ?_
   by_cases h10:(0:Int) <= e.num
   ·refine wcp true rfl (aMq h10) ?_
    refine go 4 ?_
    by_cases h11:e.name=aK
    ·refine wyz rfl (aZ true rfl rfl rfl (aL8 h11)) ?_
     refine go 22 ?_
     exact bHe (s':=⟨bx,rw⟩) rfl sb1 ⟨cX (by rw [bK7];unfold bLj;rw [if_neg (by omega),if_pos (by omega)];rw [decide_eq_true (show e.args.length=0 by omega)];unfold jG;rw [decide_eq_true (show e.op=1 /\ 0 <= e.num by omega),decide_eq_true h11,decide_eq_false (show ¬(e.op=2 /\ e.num=0) by omega)];rfl),rfl⟩
    refine wyz rfl (aZ false rfl rfl rfl (aLs h11)) ?_
    refine go 4 ?_
    refine wcp false rfl (eD (by omega)) ?_
    refine go 17 ?_
    exact bHe (s':=⟨bx,rw⟩) rfl sb1 ⟨cX (by rw [bK7];unfold bLj;rw [if_neg (by omega),if_pos (by omega)];rw [decide_eq_true (show e.args.length=0 by omega)];unfold jG;rw [decide_eq_true (show e.op=1 /\ 0 <= e.num by omega),decide_eq_false h11,decide_eq_false (show ¬(e.op=2 /\ e.num=0) by omega)];rfl),rfl⟩
   refine wcp false rfl (aMx h10) ?_
   refine go 9 ?_
   refine wcp false rfl (eD (by omega)) ?_
   refine go 17 ?_
   exact bHe (s':=⟨bx,rw⟩) rfl sb1 ⟨cX (by rw [bK7];unfold bLj;rw [if_neg (by omega),if_pos (by omega)];rw [decide_eq_true (show e.args.length=0 by omega)];unfold jG;rw [decide_eq_false (show ¬(e.op=1 /\ 0 <= e.num) by omega),decide_eq_false (show ¬(e.op=2 /\ e.num=0) by omega)];rfl),rfl⟩
  refine wcp false rfl (eD h9) ?_
  refine go 13 ?_
  by_cases h12:e.op=2
  ·refine wcp true rfl (eR h12) ?_
   refine go 3 ?_
   by_cases h13:e.num=0
   ·refine wcp true rfl (eR h13) ?_
    refine go 4 ?_
    rcases Bool.eq_false_or_eq_true (bQ e.name) with h14|h14
    ·refine bK8 0 rfl call223 rfl (bP1 e.name (by first|assumption|omega) _) h14 ?_
     refine go 8 ?_
     exact bHe (s':=⟨bx,rw⟩) rfl sb1 ⟨cX (by rw [bK7];unfold bLj;rw [if_neg (by omega),if_pos (by omega)];rw [decide_eq_true (show e.args.length=0 by omega)];unfold jG;rw [decide_eq_false (show ¬(e.op=1 /\ 0 <= e.num) by omega)];rw [decide_eq_true (show e.op=2 /\ e.num=0 by omega),h14];rfl),rfl⟩
    refine bK8 0 rfl call223 rfl (bP1 e.name (by first|assumption|omega) _) h14 ?_
    refine go 8 ?_
    exact bHe (s':=⟨bx,rw⟩) rfl sb1 ⟨cX (by rw [bK7];unfold bLj;rw [if_neg (by omega),if_pos (by omega)];rw [decide_eq_true (show e.args.length=0 by omega)];unfold jG;rw [decide_eq_false (show ¬(e.op=1 /\ 0 <= e.num) by omega)];rw [decide_eq_true (show e.op=2 /\ e.num=0 by omega),h14];rfl),rfl⟩
   refine wcp false rfl (eD h13) ?_
   refine go 13 ?_
   exact bHe (s':=⟨bx,rw⟩) rfl sb1 ⟨cX (by rw [bK7];unfold bLj;rw [if_neg (by omega),if_pos (by omega)];rw [decide_eq_true (show e.args.length=0 by omega)];unfold jG;rw [decide_eq_false (show ¬(e.op=1 /\ 0 <= e.num) by omega)];rw [decide_eq_false (show ¬(e.op=2 /\ e.num=0) by omega)];rfl),rfl⟩
  refine wcp false rfl (eD h12) ?_
  refine go 17 ?_
  exact bHe (s':=⟨bx,rw⟩) rfl sb1 ⟨cX (by rw [bK7];unfold bLj;rw [if_neg (by omega),if_pos (by omega)];rw [decide_eq_true (show e.args.length=0 by omega)];unfold jG;rw [decide_eq_false (show ¬(e.op=1 /\ 0 <= e.num) by omega)];rw [decide_eq_false (show ¬(e.op=2 /\ e.num=0) by omega)];rfl),rfl⟩
 refine wcp false rfl (eD h4) ?_
 refine go 6 ?_
 by_cases h16:((bLk e.op:Nat):Int)=6
 ·refine wcp true rfl (eR h16) ?_
  refine go 9 ?_
  by_cases h18:((e.args.length:Nat):Int)=1
  ·refine wcp true rfl (eR h18) ?_
   refine go 3 ?_
   by_cases h19:e.num=0
   ·refine wcp true rfl (eR h19) ?_
    refine go 4 ?_
    by_cases h20:e.name=aK
    ·refine wyz rfl (aZ true rfl rfl rfl (aL8 h20)) ?_
     refine go 4 ?_
     refine wyz rfl (bH fO cU e.args iU fP 0 rfl rfl rfl rfl (by omega) (by decide) runUnderlying71 sizeOf73) ?_
     refine go 1 ?_
     rcases Bool.eq_false_or_eq_true (eO e.args[0]) with h21|h21
     ·refine bK8 0 rfl call203 rfl (ih 0 (by omega) _) h21 ?_
      refine go 7 ?_
      exact bHe (s':=⟨bx,rw⟩) rfl sb1 ⟨cX (by rw [bK7];unfold bLj;rw [if_neg (by omega),if_neg (by omega),if_pos (by omega)];rw [decide_eq_true (by omega),decide_eq_true (show e.num=0 by omega),decide_eq_true h20,bPx (by omega),h21];rfl),rfl⟩
     refine bK8 0 rfl call203 rfl (ih 0 (by omega) _) h21 ?_
     refine go 7 ?_
     exact bHe (s':=⟨bx,rw⟩) rfl sb1 ⟨cX (by rw [bK7];unfold bLj;rw [if_neg (by omega),if_neg (by omega),if_pos (by omega)];rw [decide_eq_true (by omega),decide_eq_true (show e.num=0 by omega),decide_eq_true h20,bPx (by omega),h21];rfl),rfl⟩
    refine wyz rfl (aZ false rfl rfl rfl (aLs h20)) ?_
    refine go 14 ?_
    exact bHe (s':=⟨bx,rw⟩) rfl sb1 ⟨cX (by rw [bK7];unfold bLj;rw [if_neg (by omega),if_neg (by omega),if_pos (by omega)];rw [decide_eq_true (by omega),decide_eq_true (show e.num=0 by omega),decide_eq_false h20];rfl),rfl⟩
   refine wcp false rfl (eD h19) ?_
   refine go 19 ?_
   exact bHe (s':=⟨bx,rw⟩) rfl sb1 ⟨cX (by rw [bK7];unfold bLj;rw [if_neg (by omega),if_neg (by omega),if_pos (by omega)];rw [decide_eq_true (by omega),decide_eq_false (show ¬e.num=0 by omega)];rfl),rfl⟩
  refine wcp false rfl (eD h18) ?_
  refine go 23 ?_
  exact bHe (s':=⟨bx,rw⟩) rfl sb1 ⟨cX (by rw [bK7];unfold bLj;rw [if_neg (by omega),if_neg (by omega),if_pos (by omega)];rw [decide_eq_false (by omega)];rfl),rfl⟩
 refine wcp false rfl (eD h16) ?_
 refine go 12 ?_
 by_cases h23:((e.args.length:Nat):Int)=2
 ·refine wcp true rfl (eR h23) ?_
  refine go 3 ?_
  by_cases h24:e.num=0
  ·refine wcp true rfl (eR h24) ?_
   refine go 4 ?_
   by_cases h25:e.name=aK
   ·refine wyz rfl (aZ true rfl rfl rfl (aL8 h25)) ?_
    refine go 4 ?_
    refine wyz rfl (bH fO cU e.args iU fP 0 rfl rfl rfl rfl (by omega) (by decide) runUnderlying71 sizeOf73) ?_
    refine go 1 ?_
    rcases Bool.eq_false_or_eq_true (eO e.args[0]) with h26|h26
    ·refine bK8 0 rfl call203 rfl (ih 0 (by omega) _) h26 ?_
     refine go 4 ?_
     refine wyz rfl (bH fO cU e.args iU fP 1 rfl rfl rfl rfl (by omega) (by decide) runUnderlying71 sizeOf73) ?_
     refine go 1 ?_
     rcases Bool.eq_false_or_eq_true (eO e.args[1]) with h27|h27
     ·refine bK8 0 rfl call203 rfl (ih 1 (by omega) _) h27 ?_
      refine go 5 ?_
      exact bHe (s':=⟨bx,rw⟩) rfl sb1 ⟨cX (by rw [bK7];unfold bLj;rw [if_neg (by omega),if_neg (by omega),if_neg (by omega)];rw [decide_eq_true (by omega),decide_eq_true (show e.num=0 by omega),decide_eq_true h25,bOm (by omega),h26,h27];rfl),rfl⟩
     refine bK8 0 rfl call203 rfl (ih 1 (by omega) _) h27 ?_
     refine go 5 ?_
     exact bHe (s':=⟨bx,rw⟩) rfl sb1 ⟨cX (by rw [bK7];unfold bLj;rw [if_neg (by omega),if_neg (by omega),if_neg (by omega)];rw [decide_eq_true (by omega),decide_eq_true (show e.num=0 by omega),decide_eq_true h25,bOm (by omega),h26,h27];rfl),rfl⟩
    refine bK8 0 rfl call203 rfl (ih 0 (by omega) _) h26 ?_
    refine go 12 ?_
    exact bHe (s':=⟨bx,rw⟩) rfl sb1 ⟨cX (by rw [bK7];unfold bLj;rw [if_neg (by omega),if_neg (by omega),if_neg (by omega)];rw [decide_eq_true (by omega),decide_eq_true (show e.num=0 by omega),decide_eq_true h25,bOm (by omega),h26];rfl),rfl⟩
   refine wyz rfl (aZ false rfl rfl rfl (aLs h25)) ?_
   refine go 19 ?_
   exact bHe (s':=⟨bx,rw⟩) rfl sb1 ⟨cX (by rw [bK7];unfold bLj;rw [if_neg (by omega),if_neg (by omega),if_neg (by omega)];rw [decide_eq_true (by omega),decide_eq_true (show e.num=0 by omega),decide_eq_false h25];rfl),rfl⟩
  refine wcp false rfl (eD h24) ?_
  refine go 24 ?_
  exact bHe (s':=⟨bx,rw⟩) rfl sb1 ⟨cX (by rw [bK7];unfold bLj;rw [if_neg (by omega),if_neg (by omega),if_neg (by omega)];rw [decide_eq_true (by omega),decide_eq_false (show ¬e.num=0 by omega)];rfl),rfl⟩
 refine wcp false rfl (eD h23) ?_
 refine go 28 ?_
 exact bHe (s':=⟨bx,rw⟩) rfl sb1 ⟨cX (by rw [bK7];unfold bLj;rw [if_neg (by omega),if_neg (by omega),if_neg (by omega)];rw [decide_eq_false (by omega)];rfl),rfl⟩
theorem bM1{e:aH}(h:e.sane):e.name.size <= 4611686018427387904 /\ iI e.args:=by cases e;rw [aH.sane] at h;first|exact ⟨h.2.2.1,h.2.2.2⟩|exact ⟨h.2.1,h.2.2⟩|exact ⟨h.1,h.2⟩
theorem bO9:∀(N:Nat)(e:aH),e.nodes <= N -> e.sane -> ∀s:Sto,aL prog 203 [bK5 (.agg (cU e))] [] s fun r s'=>r=.c (.val (.bool (eO e))) /\ s'=s
 |0,e,h,_,_=>by cases e;rw [aH.nodes] at h;omega
 |N+1,e,h,hs,s=>bQi e (bM1 hs).1 (fun k hk s=>bO9 N e.args[k] (by have:=sF e k hk;omega) (mV _ (bM1 hs).2 _ (getElem_mem _)) s) s
theorem bN7(e:aH)(hN:e.nodes <= 1000000000)(hsh:eO e=true)(ih:∀k (h:k<e.args.length) (s:Sto),aL prog 204 [bK5 (.agg (cU e.args[k]))] [] s fun r s'=>r=.c (.val (.int .i64 ((dI e.args[k]:Nat):Int))) /\ s'=s)(s:Sto):aL prog 204 [bK5 (.agg (cU e))] [] s fun t s'=>t=.c (.val (.int .i64 ((dI e:Nat):Int))) /\ s'=s:=by
 obtain ⟨bx,rw⟩:=s
 have hlen:=uC e
 refine acB func204 rfl ?_
 show AWp prog _ ⟨34,_,⟨bx,rw⟩,[(0,bK5 (.agg (cU e)))]⟩ _
 refine go 21 fun b1=>?_
 refine oC (e.args.length) 9 (fun k=>[(3,.c (.val (.int .i64 ((bSm e.op 0 (e.args.take (k)):Nat):Int)))),(0,bK5 (.agg (cU e))),(1,pP b1),(8,nI e.args.length)]) (sA rfl) fun k hk=>?_
 show AWp prog _ ⟨34,_,_,(9,nI k)::[(3,.c (.val (.int .i64 ((bSm e.op 0 (e.args.take (k)):Nat):Int)))),(0,bK5 (.agg (cU e))),(1,pP b1),(8,nI e.args.length)]⟩ _
 refine go 2 ?_
 by_cases h1:((k:Nat):Int)<((e.args.length:Nat):Int)
 ·refine wcp true rfl (jZ h1) ?_
  refine go 16 ?_
  have hle:=aBa _ e.args[k] (Nat.le_refl _)
  have hnk:=sF e k (by omega)
  have hmx:=kF e.op e.args k (by omega)
  refine go 3 ?_
  refine wyz rfl (bH fO cU e.args iU fP k rfl rfl rfl rfl (by omega) (by decide) runUnderlying71 sizeOf73) ?_
  refine go 1 ?_
  refine wcR 0 rfl call204 rfl (ih k (by omega) _) ?_
  refine go 8 ?_
  rcases Bool.eq_false_or_eq_true (cV e.op k e.args[k].op) with h3|h3
  ·refine bK8 0 rfl call224 rfl (bOl e k (by omega) (bLd hsh).1 (bLd ((bLd hsh).2 k (by omega))).1 _) h3 ?_
   refine go 5 ?_
   refine wad rfl ?_
   refine go 6 ?_
   refine wyz rfl (aNq _ rfl rfl rfl rfl) ?_
   refine go 5 ?_
   refine wad rfl ?_
   refine go 2 ?_
   exact ⟨by omega,(aG rfl (gQ (by omega)) (aG rfl (gQ (by rw [kF _ _ _ (by omega),h3];simp only [if_true,Bool.false_eq_true,if_false];omega)) (sA rfl)))⟩
  refine bK8 0 rfl call224 rfl (bOl e k (by omega) (bLd hsh).1 (bLd ((bLd hsh).2 k (by omega))).1 _) h3 ?_
  refine go 8 ?_
  refine wyz rfl (aNq _ rfl rfl rfl rfl) ?_
  refine go 5 ?_
  refine wad rfl ?_
  refine go 2 ?_
  exact ⟨by omega,(aG rfl (gQ (by omega)) (aG rfl (gQ (by rw [kF _ _ _ (by omega),h3];simp only [if_true,Bool.false_eq_true,if_false];omega)) (sA rfl)))⟩
 refine wcp false rfl (jQ h1) ?_
 refine go 12 ?_
 have hle0:=aBa _ e (Nat.le_refl _)
 have hq:=tX e
 obtain rfl:k=e.args.length:=by omega
 rw [take_of_length_le (Nat.le_refl _)]
 have hsE:=bNc e.op (bLd hsh).1
 refine go 2 ?_
 refine wcR 0 rfl call222 rfl (bOf e.op _) ?_
 by_cases h7:((bLk e.op:Nat):Int)=6
 ·refine wcp true rfl (eR h7) ?_
  refine go 5 ?_
  refine wad rfl ?_
  refine go 10 ?_
  exact bHe (s':=⟨bx,rw⟩) rfl sb1 ⟨aPy (by rw [tX,if_pos (by omega)];first|rfl|simp),rfl⟩
 refine wcp false rfl (eD h7) ?_
 refine go 12 ?_
 exact bHe (s':=⟨bx,rw⟩) rfl sb1 ⟨aPy (by rw [tX,if_neg (by omega)];first|rfl|simp),rfl⟩
theorem bNv:∀(N:Nat)(e:aH),e.nodes <= N -> N <= 1000000000 -> eO e=true -> ∀s:Sto,aL prog 204 [bK5 (.agg (cU e))] [] s fun r s'=>r=.c (.val (.int .i64 ((dI e:Nat):Int))) /\ s'=s
 |0,e,h,_,_,_=>by cases e;rw [aH.nodes] at h;omega
 |N+1,e,h,hN,hs,s=>bN7 e (by omega) hs (fun k hk s=>bNv N e.args[k] (by have:=sF e k hk;omega) (by omega) ((bLd hs).2 k hk) s) s
theorem bLw(e:aH)(hN:e.nodes <= 1000000000)(hs:e.sane)(s:Sto):aL prog 172 [bK5 (.agg (cU e))] [] s fun t s'=>t=.c (.val (.bool (dM e))) /\ s'=s:=by
 obtain ⟨bx,rw⟩:=s
 refine acB func172 rfl ?_
 show AWp prog _ ⟨10,_,⟨bx,rw⟩,[(0,bK5 (.agg (cU e)))]⟩ _
 refine go 9 fun b1=>?_
 rcases Bool.eq_false_or_eq_true (eO e) with h1|h1
 ·refine bK8 0 rfl call203 rfl (bO9 _ e (Nat.le_refl _) hs _) h1 ?_
  refine go 2 ?_
  refine wcR 0 rfl call204 rfl (bNv _ e (Nat.le_refl _) hN h1 _) ?_
  by_cases h2:((dI e:Nat):Int) <= 24
  ·refine wcp true rfl (aPz h2) ?_
   refine go 5 ?_
   exact bHe (s':=⟨bx,rw⟩) rfl sb1 ⟨cX (by unfold dM;rw [h1,decide_eq_true (by omega)];rfl),rfl⟩
  refine wcp false rfl (aPx h2) ?_
  refine go 5 ?_
  exact bHe (s':=⟨bx,rw⟩) rfl sb1 ⟨cX (by unfold dM;rw [h1,decide_eq_false (by omega)];rfl),rfl⟩
 refine bK8 0 rfl call203 rfl (bO9 _ e (Nat.le_refl _) hs _) h1 ?_
 refine go 9 ?_
 exact bHe (s':=⟨bx,rw⟩) rfl sb1 ⟨cX (by unfold dM;rw [h1];rfl),rfl⟩
end
section
open Go.RowKit
section
variable {P:Program}{U:List Nat}{o:Oper}{st:AS}
end
theorem bEj(x n:Int)(hn:0<n):∃k:Nat,x%n=k /\ (k:Int)<n:=
 ⟨(x%n).toNat,by have:=Int.emod_nonneg x (b:=n) (by omega);omega,by have:=Int.emod_nonneg x (b:=n) (by omega);have:=Int.emod_lt_of_pos x (b:=n) hn;omega⟩
theorem bEl(x n:Int)(k:Nat)(hn:0<n)(hn2:n <= 4611686018427387904)(hk:x%n=k)(s:Sto):aL prog 12 [.c (.val (.int .i64 x)),.c (.val (.int .i64 n))] [] s fun r s'=>r=nI k /\ s'=s:=by
 have h:=aNz x n hn hn2 s
 rw [hk] at h
 exact h
end
end Go.Proofs.YtojinfngbbajgaaGreatDoor
