import Derived.Test.YtlmpchoaebhhmaaGreatDoorG1J
import Derived.Test.YtlmpchoaebhhmaaGreatDoorG5J
import Derived.Test.YtlmpchoaebhhmaaGreatDoorG9J
set_option linter.all false
set_option synthInstance.maxHeartbeats 1000000
set_option synthInstance.maxSize 1000000
set_option maxHeartbeats 1600000
set_option maxRecDepth 100000
namespace Go.Proofs.YtlmpchoaebhhmaaGreatDoor
open Go.Proofs.Tryz
open List (length_append length_cons length_nil mem_append mem_cons not_mem_nil append_assoc getElem_mem take_of_length_le)
section
mutual
def aH.nodes:aH -> Nat
 |.mk _ _ _ args=>1+cZ args
def cZ:List aH -> Nat
 |[]=>0
 |e::es=>1+e.nodes+cZ es
end
theorem nM:∀(l:List aH)(k:Nat)(h:k<l.length),l[k].nodes<cZ l
 |[],k,h=>by simp at h
 |e::es,0,h=>by rw [cZ];simp;omega
 |e::es,k+1,h=>by have:=nM es k (by simpa using h);rw [cZ];simp;omega
theorem tN:∀(l:List aH),l.length <= cZ l
 |[]=>by simp
 |e::es=>by have:=tN es;rw [cZ];simp;omega
end
section
open Go.RowKit
theorem pG(x:ByteArray)(h:x.size <= 4611686018427387904)(s:Sto):aL prog 44 [.c (.val (.string x))] [] s fun r s'=>r=.c (.val (.bool (bQ x))) /\ s'=s:=
 aHq (us:=[.string x]) rfl rfl (fun w=>aKu x w h) s
theorem nA(op:Int)(s:Sto):aL prog 154 [.c (.val (.int .i64 op))] [] s fun r s'=>r=.c (.val (.int .i64 ((aM op:Nat):Int))) /\ s'=s:=
 aHq (us:=[.int .i64 op]) rfl rfl (fun w=>aDw op w) s
theorem aIh(e:aH)(k:Nat)(hk:k<e.args.length)(s:Sto):aL prog 155 [.agg (cU e),nI k] [] s fun t s'=>t=.c (.val (.bool (cV e.op k e.args[k].op))) /\ s'=s:=by
 obtain ⟨bx,rw⟩:=s
 refine acB func155 rfl ?_
 show AWp prog _ ⟨29,_,⟨bx,rw⟩,[(0,.agg (cU e)),(1,nI k)]⟩ _
 refine go 7 fun b1=>?_
 refine aB [b1] (by kernel_rfl) ?_
 refine tks [(0,true),(1,true),(2,true)] 9 (by kernel_rfl) ?_
 refine go 4 ?_
 refine tr 3 (by kernel_rfl) rfl (bH fO cU e.args iU fP k rfl rfl rfl rfl (by omega) (by decide) runUnderlying87 sizeOf89) ?_
 refine tks [(4,true),(5,true),(7,true),(8,true)] 4 (by kernel_rfl) ?_
 refine go 5 ?_
 refine one 6 (by kernel_rfl) rfl rfl (bV rfl rfl (by decide) call154 rfl (nA (e.args[k].op) _) ?_)
 rintro _ _ ⟨rfl,rfl⟩
 refine one 9 (by kernel_rfl) rfl rfl (bV rfl rfl (by decide) call154 rfl (nA e.op _) ?_)
 rintro _ _ ⟨rfl,rfl⟩
 refine tks [(10,true),(11,true)] 0 (by kernel_rfl) ?_
 refine go 3 ?_
 refine aE (by kernel_rfl) ?_
 refine go 5 ?_
 by_cases h3:((aM (e.args[k].op):Nat):Int)<((aM e.op:Nat):Int)
 ·refine wcp true rfl (jZ h3) ?_
  refine go 13 ?_
  exact bHe (s':=⟨bx,rw⟩) rfl sb1 ⟨cX (by unfold cV;first|exact decide_eq_true (by omega)|exact decide_eq_false (by omega)),rfl⟩
 refine wcp false rfl (jQ h3) ?_
 refine go 3 ?_
 by_cases h4:((aM (e.args[k].op):Nat):Int)=((aM e.op:Nat):Int)
 ·refine wcp true rfl (eR h4) ?_
  refine go 2 ?_
  by_cases h5:((k:Nat):Int)=1
  ·refine wcp true rfl (eR h5) ?_
   refine go 6 ?_
   exact bHe (s':=⟨bx,rw⟩) rfl sb1 ⟨cX (by unfold cV;first|exact decide_eq_true (by omega)|exact decide_eq_false (by omega)),rfl⟩
  refine wcp false rfl (eD h5) ?_
  refine go 6 ?_
  exact bHe (s':=⟨bx,rw⟩) rfl sb1 ⟨cX (by unfold cV;first|exact decide_eq_true (by omega)|exact decide_eq_false (by omega)),rfl⟩
 refine wcp false rfl (eD h4) ?_
 refine go 9 ?_
 exact bHe (s':=⟨bx,rw⟩) rfl sb1 ⟨cX (by unfold cV;first|exact decide_eq_true (by omega)|exact decide_eq_false (by omega)),rfl⟩
theorem qQ(b:Int):∀(l:List aH)(j:Nat)(x:aH),bSm b j (l++[x])=max (bSm b j l) (dI x+if cV b (j+l.length) x.op then 1 else 0)
 |[],j,x=>by simp [bSm]
 |y::l,j,x=>by
  rw [List.cons_append,bSm,qQ b l (j+1) x,bSm,Nat.max_assoc]
  have:j+1+l.length=j+(y::l).length:=by simp;omega
  rw [this]
theorem kF(b:Int)(l:List aH)(k:Nat)(h:k<l.length):bSm b 0 (l.take (k+1))=max (bSm b 0 (l.take k)) (dI l[k]+if cV b k l[k].op then 1 else 0):=by
 rw [List.take_succ_eq_append_getElem h,qQ,List.length_take,Nat.min_eq_left (by omega),Nat.zero_add]
theorem aBa(N:Nat):∀(e:aH),e.nodes <= N -> dI e+1 <= 2*e.nodes:=by
 induction N with
 |zero=>intro e h;cases e;rw [aH.nodes] at h;omega
 |succ N ih=>
  rintro ⟨op,num,name,args⟩ h
  rw [aH.nodes] at h
  have key:∀(l:List aH)(k:Nat),cZ l <= N -> bSm op k l <= 2*cZ l:=by
   intro l
   induction l with
   |nil=>intro k _;rw [bSm];omega
   |cons e es ih2=>
    intro k hl
    rw [cZ] at hl⊢
    rw [bSm]
    have h1:=ih e (by omega)
    have h2:=ih2 (k+1) (by omega)
    split<;>omega
  have:=key args 0 (by omega)
  rw [dI,aH.nodes]
  split<;>omega
theorem sF(e:aH)(k:Nat)(h:k<e.args.length):e.args[k].nodes<e.nodes:=by
 cases e with
 |mk op num name args=>have:=nM args k h;rw [aH.nodes];show args[k].nodes<_;omega
theorem uC(e:aH):e.args.length<e.nodes:=by
 cases e with
 |mk op num name args=>have:=tN args;rw [aH.nodes];show args.length<_;omega
theorem tX(e:aH):dI e=bSm e.op 0 e.args+if aM e.op=5 then 1 else 0:=by cases e;rw [dI];rfl
theorem aFv(e:aH)(hN:e.nodes <= 1000000000)(ih:∀k (h:k<e.args.length) (s:Sto),aL prog 116 [.agg (cU e.args[k])] [] s fun r s'=>r=.c (.val (.int .i64 ((dI e.args[k]:Nat):Int))) /\ s'=s)(s:Sto):aL prog 116 [.agg (cU e)] [] s fun t s'=>t=.c (.val (.int .i64 ((dI e:Nat):Int))) /\ s'=s:=by
 obtain ⟨bx,rw⟩:=s
 have hlen:=uC e
 refine acB func116 rfl ?_
 show AWp prog _ ⟨34,_,⟨bx,rw⟩,[(0,.agg (cU e))]⟩ _
 refine go 18 fun b1=>?_
 refine oC (e.args.length) 4 (fun k=>[(3,.c (.val (.int .i64 ((bSm e.op 0 (e.args.take (k)):Nat):Int)))),(1,pP b1)]) (sA rfl) fun k hk=>?_
 show AWp prog _ ⟨34,_,_,(4,nI k)::[(3,.c (.val (.int .i64 ((bSm e.op 0 (e.args.take (k)):Nat):Int)))),(1,pP b1)]⟩ _
 refine go 7 ?_
 by_cases h1:((k:Nat):Int)<((e.args.length:Nat):Int)
 ·refine wcp true rfl (jZ h1) ?_
  refine go 12 ?_
  refine wyz rfl (bH fO cU e.args iU fP k rfl rfl rfl rfl (by omega) (by decide) runUnderlying87 sizeOf89) ?_
  refine go 1 ?_
  refine wc0 rfl call116 rfl (ih k (by omega) _) ?_
  rintro _ _ ⟨rfl,rfl⟩
  refine go 6 ?_
  have hle:=aBa _ e.args[k] (Nat.le_refl _)
  have hnk:=sF e k (by omega)
  refine go 2 ?_
  refine wc0 rfl call155 rfl (aIh e k (by omega) _) ?_
  rintro _ _ ⟨hr4,rfl⟩
  rcases Bool.eq_false_or_eq_true (cV e.op k e.args[k].op) with h5|h5
  ·rw [h5] at hr4
   subst hr4
   refine go 5 ?_
   refine wad rfl ?_
   refine go 6 ?_
   have hmx:=kF e.op e.args k (by omega)
   refine wyz rfl (aNq _ rfl rfl rfl rfl) ?_
   refine go 6 ?_
   refine wad rfl ?_
   refine go 2 ?_
   exact ⟨by omega,(aG rfl (gQ (by omega)) (aG rfl (gQ (by rw [kF _ _ _ (by omega),h5];simp only [if_true,Bool.false_eq_true,if_false];omega)) (sA rfl)))⟩
  rw [h5] at hr4
  subst hr4
  refine go 8 ?_
  have hmx:=kF e.op e.args k (by omega)
  refine wyz rfl (aNq _ rfl rfl rfl rfl) ?_
  refine go 6 ?_
  refine wad rfl ?_
  refine go 2 ?_
  exact ⟨by omega,(aG rfl (gQ (by omega)) (aG rfl (gQ (by rw [kF _ _ _ (by omega),h5];simp only [if_true,Bool.false_eq_true,if_false];omega)) (sA rfl)))⟩
 refine wcp false rfl (jQ h1) ?_
 refine go 11 ?_
 have hle0:=aBa _ e (Nat.le_refl _)
 have hq:=tX e
 obtain rfl:k=e.args.length:=by omega
 rw [take_of_length_le (Nat.le_refl _)]
 refine go 2 ?_
 refine wc0 rfl call154 rfl (nA e.op _) ?_
 rintro _ _ ⟨rfl,rfl⟩
 by_cases h10:((aM e.op:Nat):Int)=5
 ·refine wcp true rfl (eR h10) ?_
  refine go 5 ?_
  refine wad rfl ?_
  refine go 10 ?_
  exact bHe (s':=⟨bx,rw⟩) rfl sb1 ⟨aPy (by rw [tX,if_pos (by omega)];first|rfl|simp),rfl⟩
 refine wcp false rfl (eD h10) ?_
 refine go 12 ?_
 exact bHe (s':=⟨bx,rw⟩) rfl sb1 ⟨aPy (by rw [tX,if_neg (by omega)];first|rfl|simp),rfl⟩
theorem aGd:∀(N:Nat)(e:aH),e.nodes <= N -> N <= 1000000000 -> ∀s:Sto,aL prog 116 [.agg (cU e)] [] s fun r s'=>r=.c (.val (.int .i64 ((dI e:Nat):Int))) /\ s'=s
 |0,e,h,_=>by cases e;rw [aH.nodes] at h;omega
 |N+1,e,h,hN=>aFv e (by omega) fun k hk s=>aGd N e.args[k] (by have:=sF e k hk;omega) (by omega) s
theorem dZ(e:aH):eO e=((if aM e.op=6 then jG e.op e.num e.name else decide (e.num=0) && decide (e.name=aK)) && decide (e.args.length=arity e.op) && dY e.args):=by cases e;rw [eO];rfl
theorem pK:∀(l:List aH)(k:Nat)(h:k<l.length),dY (l.take (k+1))=(dY (l.take k) && eO l[k])
 |e::es,0,_=>by simp [dY]
 |e::es,k+1,h=>by
  rw [List.take_succ_cons,List.take_succ_cons,dY,dY,pK es k (by simpa using h),Bool.and_assoc]
  rfl
theorem oF:∀(l:List aH)(k:Nat)(h:k<l.length),eO l[k]=false -> dY l=false
 |e::es,0,_,hs=>by rw [dY];simp only [List.getElem_cons_zero] at hs;rw [hs];rfl
 |e::es,k+1,h,hs=>by rw [dY,oF es k (by simpa using h) (by simpa using hs),Bool.and_false]
theorem aHf(e:aH)(hsz:e.name.size <= 4611686018427387904)(hN:e.nodes <= 1000000000)(ih:∀k (h:k<e.args.length) (s:Sto),aL prog 115 [.agg (cU e.args[k])] [] s fun r s'=>r=.c (.val (.bool (eO e.args[k]))) /\ s'=s)(s:Sto):aL prog 115 [.agg (cU e)] [] s fun t s'=>t=.c (.val (.bool (eO e))) /\ s'=s:=by
 obtain ⟨bx,rw⟩:=s
 have hlen:=uC e
 refine acB func115 rfl ?_
 show AWp prog _ ⟨77,_,⟨bx,rw⟩,[(0,.agg (cU e))]⟩ _
 refine go 16 fun b1=>?_
 refine wc0 rfl call154 rfl (nA e.op _) ?_
 rintro _ _ ⟨rfl,rfl⟩
 refine go 5 ?_
 by_cases h2:((aM e.op:Nat):Int)=6
 ·refine wcp true rfl (eR h2) ?_
  refine go 10 ?_
  refine aB [b1] (by kernel_rfl) ?_
  refine tks [(0,true),(1,true)] 26 (by kernel_rfl) ?_
  refine go 3 ?_
  by_cases h4:e.op=1
  ·refine tr 2 (by kernel_rfl) rfl (bO true rfl rfl rfl (eR h4)) ?_
   refine tks [(3,true),(4,true),(5,true)] 22 (by kernel_rfl) ?_
   refine go 4 ?_
   by_cases h5:(0:Int) <= e.num
   ·refine tr 6 (by kernel_rfl) rfl (bO true rfl rfl rfl (aMq h5)) ?_
    refine tks [(7,true),(8,true),(9,true),(10,true)] 17 (by kernel_rfl) ?_
    refine go 5 ?_
    by_cases h6:e.name=aK
    ·refine tr 11 (by kernel_rfl) rfl (aZ true rfl rfl rfl (aL8 h6)) ?_
     refine tks [(12,true),(13,true),(14,true)] 13 (by kernel_rfl) ?_
     refine go 4 ?_
     refine tr 15 (by kernel_rfl) rfl (bO false rfl rfl rfl (eD (by omega))) ?_
     refine tks [(16,true),(17,true),(18,true),(19,true),(20,true),(21,true),(22,true),(23,true),(24,true),(25,true),(26,true),(27,true)] 0 (by kernel_rfl) ?_
     refine go 13 ?_
     refine aE (by kernel_rfl) ?_
     refine go 22 ?_
     by_cases h8:((e.args.length:Nat):Int)=0
     ·refine wcp false rfl (xG h8) ?_
      refine go 2 ?_
      refine wcp false rfl (by simp [bC]) ?_
      refine go 23 ?_
      refine lE (fun k=>dY (e.args.take k)=true) (e.args.length) 6 (fun k=>[(1,pP b1),(3,.c (.val (.int .i64 0)))]) rfl (sA rfl) fun k hk hvk=>?_
      replace hvk:dY (e.args.take k)=true:=hvk
      show AWp prog _ ⟨77,_,_,(6,nI k)::[(1,pP b1),(3,.c (.val (.int .i64 0)))]⟩ _
      refine go 5 ?_
      refine wcp false rfl (jQ (by omega)) ?_
      refine go 14 ?_
      exact bHe (s':=⟨bx,rw⟩) rfl sb1 ⟨cX (by rw [dZ];rw [take_of_length_le (by omega)] at hvk;rw [hvk];unfold jG arity;(repeat' split)<;>first|omega|(simp_all;done)|(simp_all;omega)),rfl⟩
     refine wcp true rfl (xL h8) ?_
     refine go 24 ?_
     exact bHe (s':=⟨bx,rw⟩) rfl sb1 ⟨cX (by rw [dZ];unfold jG arity;(repeat' split)<;>first|omega|(simp_all;done)|(simp_all;omega)),rfl⟩
    refine tr 11 (by kernel_rfl) rfl (aZ false rfl rfl rfl (aLs h6)) ?_
    refine tks [(12,true),(13,true),(14,true)] 13 (by kernel_rfl) ?_
    refine go 4 ?_
    refine tr 15 (by kernel_rfl) rfl (bO false rfl rfl rfl (eD (by omega))) ?_
    refine tks [(16,true),(17,true),(18,true),(19,true),(20,true),(21,true),(22,true),(23,true),(24,true),(25,true),(26,true),(27,true)] 0 (by kernel_rfl) ?_
    refine go 13 ?_
    refine aE (by kernel_rfl) ?_
    refine go 20 ?_
    exact bHe (s':=⟨bx,rw⟩) rfl sb1 ⟨cX (by rw [dZ];unfold jG arity;(repeat' split)<;>first|omega|(simp_all;done)|(simp_all;omega)),rfl⟩
   refine tr 6 (by kernel_rfl) rfl (bO false rfl rfl rfl (aMx h5)) ?_
   refine tks [(7,true),(8,true),(9,true),(10,true),(11,true),(12,true),(13,true),(14,true)] 13 (by kernel_rfl) ?_
   refine go 9 ?_
   refine tr 15 (by kernel_rfl) rfl (bO false rfl rfl rfl (eD (by omega))) ?_
   refine tks [(16,true),(17,true),(18,true),(19,true),(20,true),(21,true),(22,true),(23,true),(24,true),(25,true),(26,true),(27,true)] 0 (by kernel_rfl) ?_
   refine go 13 ?_
   refine aE (by kernel_rfl) ?_
   refine go 20 ?_
   exact bHe (s':=⟨bx,rw⟩) rfl sb1 ⟨cX (by rw [dZ];unfold jG arity;(repeat' split)<;>first|omega|(simp_all;done)|(simp_all;omega)),rfl⟩
  refine tr 2 (by kernel_rfl) rfl (bO false rfl rfl rfl (eD h4)) ?_
  refine tks [(3,true),(4,true),(5,true),(6,true),(7,true),(8,true),(9,true),(10,true),(11,true),(12,true),(13,true),(14,true)] 13 (by kernel_rfl) ?_
  refine go 13 ?_
  by_cases h14:e.op=2
  ·refine tr 15 (by kernel_rfl) rfl (bO true rfl rfl rfl (eR h14)) ?_
   refine tks [(16,true),(17,true),(18,true)] 9 (by kernel_rfl) ?_
   refine go 4 ?_
   by_cases h15:e.num=0
   ·refine tr 19 (by kernel_rfl) rfl (bO true rfl rfl rfl (eR h15)) ?_
    refine tks [(20,true),(21,true),(22,true),(23,true)] 4 (by kernel_rfl) ?_
    refine go 5 ?_
    refine one 24 (by kernel_rfl) rfl rfl (bV rfl rfl (by decide) call44 rfl (pG e.name (by first|assumption|exact hsz) _) ?_)
    rintro _ _ ⟨hr16,rfl⟩
    rcases Bool.eq_false_or_eq_true (bQ e.name) with h17|h17
    ·rw [h17] at hr16
     subst hr16
     refine tks [(25,true),(26,true),(27,true)] 0 (by kernel_rfl) ?_
     refine go 4 ?_
     refine aE (by kernel_rfl) ?_
     refine go 22 ?_
     by_cases h19:((e.args.length:Nat):Int)=0
     ·refine wcp false rfl (xG h19) ?_
      refine go 2 ?_
      refine wcp false rfl (by simp [bC]) ?_
      refine go 23 ?_
      refine lE (fun k=>dY (e.args.take k)=true) (e.args.length) 6 (fun k=>[(1,pP b1),(3,.c (.val (.int .i64 0)))]) rfl (sA rfl) fun k hk hvk=>?_
      replace hvk:dY (e.args.take k)=true:=hvk
      show AWp prog _ ⟨77,_,_,(6,nI k)::[(1,pP b1),(3,.c (.val (.int .i64 0)))]⟩ _
      refine go 5 ?_
      refine wcp false rfl (jQ (by omega)) ?_
      refine go 14 ?_
      exact bHe (s':=⟨bx,rw⟩) rfl sb1 ⟨cX (by rw [dZ];rw [take_of_length_le (by omega)] at hvk;rw [hvk];unfold jG arity;(repeat' split)<;>first|omega|(simp_all;done)|(simp_all;omega)),rfl⟩
     refine wcp true rfl (xL h19) ?_
     refine go 24 ?_
     exact bHe (s':=⟨bx,rw⟩) rfl sb1 ⟨cX (by rw [dZ];unfold jG arity;(repeat' split)<;>first|omega|(simp_all;done)|(simp_all;omega)),rfl⟩
    rw [h17] at hr16
    subst hr16
    refine tks [(25,true),(26,true),(27,true)] 0 (by kernel_rfl) ?_
    refine go 4 ?_
    refine aE (by kernel_rfl) ?_
    refine go 20 ?_
    exact bHe (s':=⟨bx,rw⟩) rfl sb1 ⟨cX (by rw [dZ];unfold jG arity;(repeat' split)<;>first|omega|(simp_all;done)|(simp_all;omega)),rfl⟩
   refine tr 19 (by kernel_rfl) rfl (bO false rfl rfl rfl (eD h15)) ?_
   refine tks [(20,true),(21,true),(22,true),(23,true),(24,true),(25,true),(26,true),(27,true)] 0 (by kernel_rfl) ?_
   refine go 9 ?_
   refine aE (by kernel_rfl) ?_
   refine go 20 ?_
   exact bHe (s':=⟨bx,rw⟩) rfl sb1 ⟨cX (by rw [dZ];unfold jG arity;(repeat' split)<;>first|omega|(simp_all;done)|(simp_all;omega)),rfl⟩
  refine tr 15 (by kernel_rfl) rfl (bO false rfl rfl rfl (eD h14)) ?_
  refine tks [(16,true),(17,true),(18,true),(19,true),(20,true),(21,true),(22,true),(23,true),(24,true),(25,true),(26,true),(27,true)] 0 (by kernel_rfl) ?_
  refine go 13 ?_
  refine aE (by kernel_rfl) ?_
  refine go 20 ?_
  exact bHe (s':=⟨bx,rw⟩) rfl sb1 ⟨cX (by rw [dZ];unfold jG arity;(repeat' split)<;>first|omega|(simp_all;done)|(simp_all;omega)),rfl⟩
 refine wcp false rfl (eD h2) ?_
 refine go 6 ?_
 by_cases h27:((aM e.op:Nat):Int)=5
 ·refine wcp true rfl (eR h27) ?_
  refine go 16 ?_
  by_cases h29:((e.args.length:Nat):Int)=1
  ·refine wcp false rfl (xG h29) ?_
   refine go 2 ?_
   refine wcp true rfl rfl ?_
   refine go 3 ?_
   by_cases h30:e.num=0
   ·refine wcp false rfl (xG h30) ?_
    refine go 3 ?_
    by_cases h31:e.name=aK
    ·refine wyz rfl (aZ false rfl rfl rfl (aMz h31)) ?_
     refine go 15 ?_
     refine lE (fun k=>dY (e.args.take k)=true) (e.args.length) 6 (fun k=>[(1,pP b1),(3,.c (.val (.int .i64 1)))]) rfl (sA rfl) fun k hk hvk=>?_
     replace hvk:dY (e.args.take k)=true:=hvk
     show AWp prog _ ⟨77,_,_,(6,nI k)::[(1,pP b1),(3,.c (.val (.int .i64 1)))]⟩ _
     refine go 5 ?_
     by_cases h33:((k:Nat):Int)<1
     ·refine wcp true rfl (jZ h33) ?_
      refine go 12 ?_
      refine wyz rfl (bH fO cU e.args iU fP k rfl rfl rfl rfl (by omega) (by decide) runUnderlying87 sizeOf89) ?_
      refine go 1 ?_
      refine wc0 rfl call115 rfl (ih k (by omega) _) ?_
      rintro _ _ ⟨hr35,rfl⟩
      rcases Bool.eq_false_or_eq_true (eO e.args[k]) with h36|h36
      ·rw [h36] at hr35
       subst hr35
       refine go 9 ?_
       refine wad rfl ?_
       refine go 2 ?_
       exact ⟨by omega,(by rw [pK _ _ (by omega),hvk,h36];rfl),(aG rfl (gQ (by omega)) (sA rfl))⟩
      rw [h36] at hr35
      subst hr35
      refine go 15 ?_
      exact bHe (s':=⟨bx,rw⟩) rfl sb1 ⟨cX (by rw [dZ,oF _ _ _ h36,Bool.and_false]),rfl⟩
     refine wcp false rfl (jQ h33) ?_
     refine go 14 ?_
     exact bHe (s':=⟨bx,rw⟩) rfl sb1 ⟨cX (by rw [dZ];rw [take_of_length_le (by omega)] at hvk;rw [hvk];unfold jG arity;(repeat' split)<;>first|omega|(simp_all;done)|(simp_all;omega)),rfl⟩
    refine wyz rfl (aZ true rfl rfl rfl (aLc h31)) ?_
    refine go 13 ?_
    exact bHe (s':=⟨bx,rw⟩) rfl sb1 ⟨cX (by rw [dZ];unfold jG arity;(repeat' split)<;>first|omega|(simp_all;done)|(simp_all;omega)),rfl⟩
   refine wcp true rfl (xL h30) ?_
   refine go 17 ?_
   exact bHe (s':=⟨bx,rw⟩) rfl sb1 ⟨cX (by rw [dZ];unfold jG arity;(repeat' split)<;>first|omega|(simp_all;done)|(simp_all;omega)),rfl⟩
  refine wcp true rfl (xL h29) ?_
  refine go 24 ?_
  exact bHe (s':=⟨bx,rw⟩) rfl sb1 ⟨cX (by rw [dZ];unfold jG arity;(repeat' split)<;>first|omega|(simp_all;done)|(simp_all;omega)),rfl⟩
 refine wcp false rfl (eD h27) ?_
 refine go 14 ?_
 by_cases h44:((e.args.length:Nat):Int)=2
 ·refine wcp false rfl (xG h44) ?_
  refine go 2 ?_
  refine wcp true rfl rfl ?_
  refine go 3 ?_
  by_cases h45:e.num=0
  ·refine wcp false rfl (xG h45) ?_
   refine go 3 ?_
   by_cases h46:e.name=aK
   ·refine wyz rfl (aZ false rfl rfl rfl (aMz h46)) ?_
    refine go 15 ?_
    refine lE (fun k=>dY (e.args.take k)=true) (e.args.length) 6 (fun k=>[(1,pP b1),(3,.c (.val (.int .i64 2)))]) rfl (sA rfl) fun k hk hvk=>?_
    replace hvk:dY (e.args.take k)=true:=hvk
    show AWp prog _ ⟨77,_,_,(6,nI k)::[(1,pP b1),(3,.c (.val (.int .i64 2)))]⟩ _
    refine go 5 ?_
    by_cases h48:((k:Nat):Int)<2
    ·refine wcp true rfl (jZ h48) ?_
     refine go 12 ?_
     refine wyz rfl (bH fO cU e.args iU fP k rfl rfl rfl rfl (by omega) (by decide) runUnderlying87 sizeOf89) ?_
     refine go 1 ?_
     refine wc0 rfl call115 rfl (ih k (by omega) _) ?_
     rintro _ _ ⟨hr50,rfl⟩
     rcases Bool.eq_false_or_eq_true (eO e.args[k]) with h51|h51
     ·rw [h51] at hr50
      subst hr50
      refine go 9 ?_
      refine wad rfl ?_
      refine go 2 ?_
      exact ⟨by omega,(by rw [pK _ _ (by omega),hvk,h51];rfl),(aG rfl (gQ (by omega)) (sA rfl))⟩
     rw [h51] at hr50
     subst hr50
     refine go 15 ?_
     exact bHe (s':=⟨bx,rw⟩) rfl sb1 ⟨cX (by rw [dZ,oF _ _ _ h51,Bool.and_false]),rfl⟩
    refine wcp false rfl (jQ h48) ?_
    refine go 14 ?_
    exact bHe (s':=⟨bx,rw⟩) rfl sb1 ⟨cX (by rw [dZ];rw [take_of_length_le (by omega)] at hvk;rw [hvk];unfold jG arity;(repeat' split)<;>first|omega|(simp_all;done)|(simp_all;omega)),rfl⟩
   refine wyz rfl (aZ true rfl rfl rfl (aLc h46)) ?_
   refine go 13 ?_
   exact bHe (s':=⟨bx,rw⟩) rfl sb1 ⟨cX (by rw [dZ];unfold jG arity;(repeat' split)<;>first|omega|(simp_all;done)|(simp_all;omega)),rfl⟩
  refine wcp true rfl (xL h45) ?_
  refine go 17 ?_
  exact bHe (s':=⟨bx,rw⟩) rfl sb1 ⟨cX (by rw [dZ];unfold jG arity;(repeat' split)<;>first|omega|(simp_all;done)|(simp_all;omega)),rfl⟩
 refine wcp true rfl (xL h44) ?_
 refine go 24 ?_
 exact bHe (s':=⟨bx,rw⟩) rfl sb1 ⟨cX (by rw [dZ];unfold jG arity;(repeat' split)<;>first|omega|(simp_all;done)|(simp_all;omega)),rfl⟩
end
end Go.Proofs.YtlmpchoaebhhmaaGreatDoor
