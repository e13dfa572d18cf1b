import Derived.Test.YtojinfngbbajgaaGreatDoorP5J
import Derived.Test.YtojinfngbbajgaaGreatDoorP10J
import Derived.Test.YtojinfngbbajgaaGreatDoorP11J
import Derived.Test.YtojinfngbbajgaaGreatDoorP12J
import Derived.Test.YtojinfngbbajgaaGreatDoorP9J
import Derived.Test.YtojinfngbbajgaaGreatDoorP8J
set_option linter.all false
set_option synthInstance.maxHeartbeats 1000000
set_option synthInstance.maxSize 1000000
set_option maxHeartbeats 1600000
set_option maxRecDepth 100000
namespace Go.Proofs.YtojinfngbbajgaaGreatDoor
open Go.Proofs.Tryz
open List (length_append length_cons length_nil mem_append mem_cons not_mem_nil append_assoc getElem_mem take_of_length_le)
section
open Go.RowKit
theorem aGf{e:aH}(h:e.sane)(k:Nat)(hk:k<e.args.length):e.args[k].sane:=by
 cases e with
 |mk op num name args=>rw [aH.sane] at h;exact mV _ h.2.2 _ (getElem_mem hk)
theorem aJn{e:aH}(h:e.sane):e.name.size <= 4611686018427387904:=by cases e;rw [aH.sane] at h;exact h.2.1
theorem aIc:∀(N:Nat)(e:aH),e.nodes <= N -> N <= 1000000000 -> e.sane -> ∀s:Sto,aL prog 161 [.agg (cU e)] [] s fun r s'=>r=.c (.val (.bool (eO e))) /\ s'=s
 |0,e,h,_,_=>by cases e;rw [aH.nodes] at h;omega
 |N+1,e,h,hN,hs=>aHf e (aJn hs) (by omega) fun k hk s=>aIc N e.args[k] (by have:=sF e k hk;omega) (by omega) (aGf hs k hk) s
theorem qT(e:aH)(hN:e.nodes <= 1000000000)(hs:e.sane)(s:Sto):aL prog 128 [.agg (cU e)] [] s fun t s'=>t=.c (.val (.bool (dM e))) /\ s'=s:=by
 obtain ⟨bx,rw⟩:=s
 refine acB func128 rfl ?_
 show AWp prog _ ⟨10,_,⟨bx,rw⟩,[(0,.agg (cU e))]⟩ _
 refine go 9 fun b1=>?_
 refine wc0 rfl call161 rfl (aIc _ e (Nat.le_refl _) hN hs _) ?_
 rintro _ _ ⟨hr1,rfl⟩
 rcases Bool.eq_false_or_eq_true (eO e) with h2|h2
 ·rw [h2] at hr1
  subst hr1
  refine go 2 ?_
  refine wc0 rfl call162 rfl (aGd _ e (Nat.le_refl _) hN _) ?_
  rintro _ _ ⟨rfl,rfl⟩
  by_cases h4:((dI e:Nat):Int) <= 24
  ·refine wcp true rfl (aPz h4) (go 5 ?_)
   exact bHe (s':=⟨bx,rw⟩) rfl sb1 ⟨cX (by unfold dM;first|(rw [h2];simp;omega)|(rw [h2];rfl)),rfl⟩
  refine wcp false rfl (aPx h4) (go 5 ?_)
  exact bHe (s':=⟨bx,rw⟩) rfl sb1 ⟨cX (by unfold dM;first|(rw [h2];simp;omega)|(rw [h2];rfl)),rfl⟩
 rw [h2] at hr1
 subst hr1
 refine go 9 ?_
 exact bHe (s':=⟨bx,rw⟩) rfl sb1 ⟨cX (by unfold dM;first|(rw [h2];simp;omega)|(rw [h2];rfl)),rfl⟩
theorem sM(z:Int)(h:fit z)(s:Sto):aL prog 92 [.c (.val (.int .i64 z))] [] s fun r s'=>r=.c (.val (.string (bytes (eH z)))) /\ s'=s:=
 aHq (us:=[.int .i64 z]) rfl rfl (fun w=>aHb z w h.1 h.2) s
theorem kU(e:aH):aP e=iX e.op e.num e.name (dP e.op 0 e.args):=by cases e;rw [aP];rfl
theorem vS(b:Int):∀(l:List aH)(j:Nat),(dP b j l).length=l.length
 |[],j=>by rw [dP];rfl
 |e::es,j=>by rw [dP,length_cons,length_cons,vS b es]
theorem pL(b:Int):∀(l:List aH)(j k:Nat)(h:k<l.length),(dP b j l)[k]?=some (if cV b (j+k) l[k].op then [40]++aP l[k]++[41] else aP l[k])
 |e::es,j,0,h=>by rw [dP];rfl
 |e::es,j,k+1,h=>by
  rw [dP,List.getElem?_cons_succ,pL b es (j+1) k (by simpa using h)]
  rw [show j+1+k=j+(k+1) by omega];rfl
theorem aCb{e:aH}(h:eO e=true):(e.op=1 /\ e.args.length=0)∨(e.op=2 /\ e.args.length=0)∨((e.op=3∨e.op=4) /\ e.args.length=1 /\ aM e.op=5)∨(aM e.op<5 /\ 5 <= e.op /\ e.op <= 17 /\ e.args.length=2):=by
 rw [dZ,Bool.and_eq_true,Bool.and_eq_true,decide_eq_true_eq] at h
 obtain ⟨⟨h1,h2⟩,-⟩:=h
 unfold arity at h2
 rcases rW e.op with ⟨k1,k2⟩|⟨k1,k2⟩|k1
 ·rw [if_neg (by omega),if_neg (by omega)] at h2;exact .inr (.inr (.inr ⟨k1,k2.1,k2.2,h2⟩))
 ·rw [if_neg (by omega),if_pos k1] at h2;exact .inr (.inr (.inl ⟨k2,h2,k1⟩))
 rw [if_pos k1] at h1 h2
 unfold jG at h1
 simp only [Bool.or_eq_true,Bool.and_eq_true,decide_eq_true_eq] at h1
 rcases h1 with h1|h1
 ·exact .inl ⟨h1.1.1,h2⟩
 exact .inr (.inl ⟨h1.1.1,h2⟩)
theorem aKx{e:aH}(h:eO e=true)(k:Nat)(hk:k<e.args.length):eO e.args[k]=true:=by
 cases hs:eO e.args[k] with
 |true=>rfl
 |false=>rw [dZ,oF _ _ hk hs,Bool.and_false] at h;cases h
theorem aIl{e:aH}(h:eO e=true)(k:Nat)(hk:k<e.args.length):((dP e.op 0 e.args).getD k []).length <= (aP e).length:=by
 rw [kU]
 rcases aCb h with h1|h1|h1|h1
 ·omega
 ·omega
 ·obtain rfl:k=0:=by omega
  unfold iX
  rcases h1.1 with h3|h3<;>simp [h3]
 unfold iX
 rw [if_neg (by omega),if_neg (by omega),if_neg (by omega),if_neg (by omega),if_pos h1.1]
 have:k=0∨k=1:=by omega
 rcases this with rfl|rfl<;>(simp only [length_append];omega)
theorem aD4{e:aH}(h:eO e=true)(k:Nat)(hk:k<e.args.length):(aP e.args[k]).length <= (aP e).length:=by
 have h1:=aIl h k hk
 have h2:=pL e.op e.args 0 k hk
 rw [List.getD_eq_getElem?_getD,h2,Option.getD_some] at h1
 split at h1<;>(try simp only [length_append] at h1)<;>omega
theorem aLd{op:Int}(h:5 <= op /\ op <= 17):op=5∨op=6∨op=7∨op=8∨op=9∨op=10∨op=11∨op=12∨op=13∨op=14∨op=15∨op=16∨op=17:=by omega
theorem aKw{op:Int}(h:5 <= op /\ op <= 17):op∈dS (aM op):=by
 rcases aLd h with rfl|rfl|rfl|rfl|rfl|rfl|rfl|rfl|rfl|rfl|rfl|rfl|rfl<;>decide
theorem aNo{op:Int}(h:5 <= op /\ op <= 17):∀i (h1:i<(dS (aM op)).length) (h2:i<(jP (aM op)).length),(dS (aM op))[i]=op -> (jP (aM op))[i]=bytes (iW op):=by
 rcases aLd h with rfl|rfl|rfl|rfl|rfl|rfl|rfl|rfl|rfl|rfl|rfl|rfl|rfl<;>decide
theorem aQc{c:Prop}[Decidable c]{l r:List UInt8}{n:Nat}(h1:l.length <= n)(h2:r.length <= n):(if c then l else r).length <= n:=by split<;>assumption
theorem kW(op:Int):(iW op).length <= 2:=by
 unfold iW
 repeat' (with_reducible apply aQc)
 all_goals decide
theorem pE(ts:List (List UInt8))(j:Nat)(h:j<(ts.map bytes).length):(ts.map bytes)[j]=bytes (ts.getD j []):=by
 have h1:j<ts.length:=by simpa using h
 simp [List.getD,h1]
theorem aJ7(e:aH)(hN:e.nodes <= 1000000000)(hs:e.sane)(hsh:eO e=true)(hL:(aP e).length <= 1000000000000000)(ih:∀k (h:k<e.args.length) (s:Sto),aL prog 133 [.agg (cU e.args[k])] [] s fun r s'=>r=.c (.val (.string (bytes (aP e.args[k])))) /\ s'=s)(s:Sto):aL prog 133 [.agg (cU e)] [] s fun t s'=>t=.c (.val (.string (bytes (aP e)))) /\ s'=s:=by
 obtain ⟨bx,rw⟩:=s
 have hlen:=uC e
 have hops:=aCb hsh
 have hfit:fit e.num:=by cases e;rw [aH.sane] at hs;exact hs.1
 have hget:=pL e.op e.args 0
 have htl:=vS e.op e.args 0
 have hal:=aIl hsh
 simp only [Nat.zero_add] at hget
 obtain ⟨ts,hts⟩:∃ts,dP e.op 0 e.args=ts:=⟨_,rfl⟩
 rw [hts] at hget htl hal
 refine acB func133 rfl ?_
 show AWp prog _ ⟨95,_,⟨bx,rw⟩,[(0,.agg (cU e))]⟩ _
 refine go 18 fun b1=>?_
 refine qR 9 1 ?_
 refine aO2 (fun k=>True) (e.args.length) 4 3 9 1 (fun k=>((ts.take k).map bytes).length) (fun k=>bP ((ts.take k).map bytes)) [b1] (fun k=>[(1,pP b1)]) trivial (cA (.refl _) (.refl _) (by intro x hx;simpa [aY,Value.ownBlock] using hx) (sA rfl)) fun k v hk hvk=>?_
 replace hvk:True:=hvk
 show AWp prog _ ⟨95,_,⟨_,⟨_,_,_,((ts.take k).map bytes).length,bP ((ts.take k).map bytes)⟩::_⟩,(4,nI k)::(3,.c (.val v))::[(1,pP b1)]⟩ _
 have hrl:((ts.take k).map bytes).length <= k:=by simp only [List.length_map,List.length_take];omega
 refine go 7 ?_
 by_cases h1:((k:Nat):Int)<((e.args.length:Nat):Int)
 ·refine wcp true rfl (jZ h1) (go 12 ?_)
  refine wyz rfl (bH fO cU e.args iU fP k rfl rfl rfl rfl (by omega) (by decide) runUnderlying71 sizeOf73) (go 1 ?_)
  refine wc0 rfl call133 rfl (ih k (by omega) _) ?_
  rintro _ _ ⟨rfl,rfl⟩
  refine go 6 ?_
  have hpl:=aD4 hsh k (by omega)
  refine go 2 ?_
  refine wc0 rfl call163 rfl (aIh e k (by omega) _) ?_
  rintro _ _ ⟨hr4,rfl⟩
  rcases Bool.eq_false_or_eq_true (cV e.op k e.args[k].op) with h5|h5
  ·rw [h5] at hr4
   subst hr4
   refine go 5 ?_
   refine wyz rfl (aN [40] (aP e.args[k]) rfl rfl rfl rfl rfl (by have h1:=kW e.op;simp only [length_append,length_cons,length_nil];omega)) ?_
   refine wyz rfl (aN ([40]++(aP e.args[k])) [41] rfl rfl rfl rfl rfl (by have h1:=kW e.op;simp only [length_append,length_cons,length_nil];omega)) (go 6 ?_)
   refine wo rfl (bDk bSq rfl (.cons rfl .nil) (r:=bP [(bytes (([40]++(aP e.args[k]))++[41]))]) rfl ?_)
   refine wo rfl (bDm [] bWi rfl rfl (by decide) (by unfold maxLen;omega) (by omega) (@length_append _ ((ts.take k).map bytes) [(bytes (([40]++(aP e.args[k]))++[41]))]).symm (fun _ b hb=>by simp [hb]) (fun b hb=>by simp [hb]) (List.map_append (f:=fun x=>AC.val (.string x))).symm fun w2=>?_)
   refine go 6 ?_
   refine wad rfl (go 2 ?_)
   rw [show (ts.take (k+1)).map bytes=(ts.take k).map bytes++[(bytes (([40]++(aP e.args[k]))++[41]))] by rw [List.take_succ,hget k (by omega),h5];simp]
   exact ⟨by omega,trivial,_,cA (.refl _) (.refl _) (by grind) (aG rfl (gQ (by omega)) (sA rfl))⟩
  rw [h5] at hr4
  subst hr4
  refine go 8 ?_
  refine wo rfl (bDk bSq rfl (.cons rfl .nil) (r:=bP [(bytes (aP e.args[k]))]) rfl ?_)
  refine wo rfl (bDm [] bWi rfl rfl (by decide) (by unfold maxLen;omega) (by omega) (@length_append _ ((ts.take k).map bytes) [(bytes (aP e.args[k]))]).symm (fun _ b hb=>by simp [hb]) (fun b hb=>by simp [hb]) (List.map_append (f:=fun x=>AC.val (.string x))).symm fun w3=>?_)
  refine go 6 ?_
  refine wad rfl (go 2 ?_)
  rw [show (ts.take (k+1)).map bytes=(ts.take k).map bytes++[(bytes (aP e.args[k]))] by rw [List.take_succ,hget k (by omega),h5];simp]
  exact ⟨by omega,trivial,_,cA (.refl _) (.refl _) (by grind) (aG rfl (gQ (by omega)) (sA rfl))⟩
 refine wcp false rfl (jQ h1) (go 12 ?_)
 obtain rfl:k=e.args.length:=by omega
 rw [take_of_length_le (by omega)]
 refine aE1 3 rfl ?_
 refine go 2 ?_
 by_cases h9:e.op=1
 ·refine wcp true rfl (eR h9) (go 8 ?_)
  refine wc0 rfl call92 rfl (sM e.num hfit _) ?_
  rintro _ _ ⟨rfl,rfl⟩
  refine go 6 ?_
  exact bHe (s':=⟨bx,rw⟩) rfl sb1 ⟨oW (by rw [kU,hts];unfold iX;simp only [if_pos h9];try rfl),rfl⟩
 refine wcp false rfl (eD h9) (go 8 ?_)
 by_cases h13:e.op=2
 ·refine wcp true rfl (eR h13) (go 14 ?_)
  exact bHe (s':=⟨bx,rw⟩) rfl sb1 ⟨oW (by rw [kU,hts];unfold iX;simp only [if_neg h9,if_pos h13];try exact (back _).symm),rfl⟩
 refine wcp false rfl (eD h13) (go 8 ?_)
 by_cases h16:e.op=3
 ·refine wcp true rfl (eR h16) (go 6 ?_)
  have hl1:e.args.length=1:=by rcases hops with h|h|h|h<;>omega
  have hg0:=hal 0 (by omega)
  refine go 1 ?_
  refine wyz rfl (rT (fun x=>.val (.string x)) (ts.map bytes) 0 rfl rfl rfl rfl (by simp only [List.length_map];omega) runUnderlying50 sizeOf9) (go 1 ?_)
  refine wyz rfl (aN [45] (ts.getD 0 []) rfl rfl rfl rfl (pE _ _ (by simp only [List.length_map];omega)) (by have h1:=kW e.op;simp only [length_append,length_cons,length_nil];omega)) (go 6 ?_)
  exact bHe (s':=⟨bx,rw⟩) rfl sb1 ⟨oW (by rw [kU,hts];unfold iX;simp only [if_neg h9,if_neg h13,if_pos h16];try rfl),rfl⟩
 refine wcp false rfl (eD h16) (go 8 ?_)
 by_cases h19:e.op=4
 ·refine wcp true rfl (eR h19) (go 6 ?_)
  have hl1:e.args.length=1:=by rcases hops with h|h|h|h<;>omega
  have hg0:=hal 0 (by omega)
  refine go 1 ?_
  refine wyz rfl (rT (fun x=>.val (.string x)) (ts.map bytes) 0 rfl rfl rfl rfl (by simp only [List.length_map];omega) runUnderlying50 sizeOf9) (go 1 ?_)
  refine wyz rfl (aN [33] (ts.getD 0 []) rfl rfl rfl rfl (pE _ _ (by simp only [List.length_map];omega)) (by have h1:=kW e.op;simp only [length_append,length_cons,length_nil];omega)) (go 6 ?_)
  exact bHe (s':=⟨bx,rw⟩) rfl sb1 ⟨oW (by rw [kU,hts];unfold iX;simp only [if_neg h9,if_neg h13,if_neg h16,if_pos h19];try rfl),rfl⟩
 refine wcp false rfl (eD h19) (go 11 ?_)
 have hlt5:aM e.op<5:=by rcases hops with h|h|h|h<;>omega
 have hop:5 <= e.op /\ e.op <= 17:=by rcases hops with h|h|h|h<;>omega
 have hl2:e.args.length=2:=by rcases hops with h|h|h|h<;>omega
 have hsl:=aKy (aM e.op)
 have hg0:=hal 0 (by omega)
 have hg1:=hal 1 (by omega)
 refine wc0 rfl call164 rfl (nA e.op _) ?_
 rintro _ _ ⟨rfl,rfl⟩
 refine wc0 rfl call160 rfl (aO6 (aM e.op) (by omega) _) ?_
 rintro _ _ ⟨rfl,rfl⟩
 refine go 14 ?_
 refine lE (fun i=>∀j (h:j<(dS (aM e.op)).length),j<i -> (dS (aM e.op))[j]≠e.op) ((dS (aM e.op)).length) 8 (fun i=>[(1,pP b1),(3,.c (.sl (ts.map bytes).length ((ts.map bytes).map fun x=>.val (.string x)))),(6,.c (aF6 (jP (aM e.op)))),(7,.c (aEm (dS (aM e.op))))]) (fun _ _ h=>absurd h (by omega)) (sA rfl) fun i hi hvi=>?_
 replace hvi:∀j (h:j<(dS (aM e.op)).length),j<i -> (dS (aM e.op))[j]≠e.op:=hvi
 show AWp prog _ ⟨95,_,_,(8,nI i)::[(1,pP b1),(3,.c (.sl (ts.map bytes).length ((ts.map bytes).map fun x=>.val (.string x)))),(6,.c (aF6 (jP (aM e.op)))),(7,.c (aEm (dS (aM e.op))))]⟩ _
 refine go 6 ?_
 by_cases h24:((i:Nat):Int)<(((dS (aM e.op)).length:Nat):Int)
 ·refine wcp true rfl (jZ h24) (go 8 ?_)
  refine dx [b1] (tz [(0,true),(1,true)] 5 (go 3 ?_))
  refine tx 2 rfl (rT (fun x=>.val (.int .i64 x)) (dS (aM e.op)) i rfl rfl rfl rfl (by omega) runUnderlying22 sizeOf3) (tz [(3,true),(4,true),(5,true)] 1 (go 4 ?_))
  by_cases h26:(dS (aM e.op))[i]=e.op
  ·refine tx 6 rfl (bO true rfl rfl rfl (eR h26)) ?_
   refine ax (go 3 ?_)
   refine dx [b1] (tz [(0,true)] 14 (go 2 ?_))
   refine tx 1 rfl (rT (fun x=>.val (.string x)) (ts.map bytes) 0 rfl rfl rfl rfl (by simp only [List.length_map];omega) runUnderlying50 sizeOf9) (tz [(2,true)] 12 (go 2 ?_))
   refine tx 3 rfl (aN (ts.getD 0 []) [32] rfl rfl rfl (pE _ _ (by simp only [List.length_map];omega)) rfl (by have h1:=kW e.op;simp only [length_append,length_cons,length_nil];omega)) (tz [(4,true),(5,true)] 9 (go 3 ?_))
   refine tx 6 rfl (rT (fun x=>.val (.string x)) (jP (aM e.op)) i rfl rfl rfl rfl (by omega) runUnderlying50 sizeOf9) (tz [(7,true)] 7 (go 2 ?_))
   refine tx 8 rfl (aN ((ts.getD 0 [])++[32]) (iW e.op) rfl rfl rfl rfl (aNo hop i (by omega) (by omega) h26) (by have h1:=kW e.op;simp only [length_append,length_cons,length_nil];omega)) ?_
   refine tx 9 rfl (aN (((ts.getD 0 [])++[32])++(iW e.op)) [32] rfl rfl rfl rfl rfl (by have h1:=kW e.op;simp only [length_append,length_cons,length_nil];omega)) (tz [(10,true)] 4 (go 2 ?_))
   refine tx 11 rfl (rT (fun x=>.val (.string x)) (ts.map bytes) 1 rfl rfl rfl rfl (by simp only [List.length_map];omega) runUnderlying50 sizeOf9) (tz [(12,true)] 2 (go 2 ?_))
   refine tx 13 rfl (aN ((((ts.getD 0 [])++[32])++(iW e.op))++[32]) (ts.getD 1 []) rfl rfl rfl rfl (pE _ _ (by simp only [List.length_map];omega)) (by have h1:=kW e.op;simp only [length_append,length_cons,length_nil];omega)) (tz [(14,true)] 0 (go 2 ?_))
   refine ax (go 7 ?_)
   exact bHe (s':=⟨bx,rw⟩) rfl sb1 ⟨oW (by rw [kU,hts];unfold iX;simp only [if_neg h9,if_neg h13,if_neg h16,if_neg h19,if_pos hlt5];try rfl),rfl⟩
  refine tx 6 rfl (bO false rfl rfl rfl (eD h26)) ?_
  refine ax (go 7 ?_)
  refine wad rfl (go 2 ?_)
  exact ⟨by omega,(fun j hj hlt hq=>(Nat.lt_or_ge j i).elim (fun h9=>hvi j hj h9 hq) (fun h9=>by have h8:j=i:=(by omega);subst h8;exact h26 hq)),(aG rfl (gQ (by omega)) (sA rfl))⟩
 refine wcp false rfl (jQ h24) (go 14 ?_)
 exact absurd (List.mem_iff_getElem.1 (aKw hop)) (fun ⟨j,hj,hq⟩=>hvi j hj (by omega) hq)
end
section
open Go.RowKit
theorem bNt{F:FuncId}{u0:Value}{us:List Value}{u:Value}(h1:u.oneCell'=true)(h:∀w,bM9 w -> Calls prog F (u0::us).toArray w fun e w'=>e=.returned u /\ w=w')(s:Sto):aL prog F (bK5 (.c (.val u0))::us.map fun u=>.c (.val u)) [] s fun r s'=>r=.c (.val u) /\ s'=s:=by
 intro vs w hm _ hl hr
 cases vs with
 |nil=>cases hl
 |cons v vs=>
  have h0:dO (bI s.bl w) (bK5 (.c (.val u0))) v:=hr 0 (by simp) (by simp)
  obtain rfl:=(bPv _ _ h0).val
  obtain rfl:vs=us:=by
   refine List.ext_getElem (by simpa using hl) fun i h1 h2=>?_
   have h3:=hr (i+1) (by simpa using h2) (by simpa using h1)
   simp only [List.getElem_cons_succ,List.getElem_map] at h3
   exact h3.val
  exact (h w (bMx h0)).mono fun e w' ⟨h2,h3⟩=>by subst h3;exact ⟨_,_,s,h2,⟨rfl,rfl⟩,.c _ _ (.val _ h1),hm,cW.refl _ _,fun b hb=>.inl hb⟩
theorem bOf(op:Int)(s:Sto):aL prog 222 [bK5 (.c (.val (.int .i64 op)))] [] s fun r s'=>r=.c (.val (.int .i64 ((bLk op:Nat):Int))) /\ s'=s:=
 bNt (us:=[]) rfl (fun w he=>bQf op w he.signs) s
theorem bPh{op:Int}(h:bLk op=7):op=1∨op=2:=by
 unfold bLk at h;(repeat' split at h)<;>omega
theorem bSc{op:Int}(h:bLk op=6):op=3∨op=4:=by
 unfold bLk at h;(repeat' split at h)<;>omega
theorem bNd(op:Int):bLk op <= 7:=by unfold bLk;(repeat' split)<;>omega
theorem bR4{op:Int}(h:bLk op=0):¬(1 <= op /\ op <= 17):=by
 unfold bLk at h;(repeat' split at h)<;>omega
theorem bN2{op:Int}(h:¬bLk op=0):1 <= op /\ op <= 17:=by
 unfold bLk at h;(repeat' split at h)<;>omega
def bLj(e:aH):Bool:=
 if bLk e.op=0 then false else if bLk e.op=7 then decide (e.args.length=0) && jG e.op e.num e.name
 else decide (e.args.length=if bLk e.op=6 then 1 else 2) && decide (e.num=0) && decide (e.name=aK) && dY e.args
theorem bK7(e:aH):eO e=bLj e:=by
 rw [dZ]
 unfold bLj
 by_cases h0:bLk e.op=0
 ·have h1:=bR4 h0
  have hs:aM e.op=6:=by unfold aM;(repeat' split)<;>omega
  have hl:jG e.op e.num e.name=false:=by
   unfold jG
   rw [decide_eq_false (show ¬(e.op=1 /\ 0 <= e.num) by omega),decide_eq_false (show ¬(e.op=2 /\ e.num=0) by omega)];rfl
  rw [if_pos h0,if_pos hs,hl];rfl
 have hop:=bN2 h0
 have h2:=bNc e.op hop
 rw [if_neg h0]
 by_cases h7:bLk e.op=7
 ·rw [if_pos h7,if_pos (by omega)]
  unfold arity
  rw [if_pos (by omega)]
  cases ha:e.args with
  |nil=>simp [dY]
  |cons x l=>simp
 rw [if_neg h7,if_neg (by have:=bNd e.op;omega)]
 unfold arity
 rw [if_neg (by have:=bNd e.op;omega)]
 by_cases h6:bLk e.op=6
 ·rw [if_pos h6,if_pos (by omega)]
  cases decide (e.num=0)<;>cases decide (e.name=aK)<;>cases dY e.args<;>simp
 rw [if_neg h6,if_neg (by omega)]
 cases decide (e.num=0)<;>cases decide (e.name=aK)<;>cases dY e.args<;>simp
theorem bPx:∀{l:List aH} (h:l.length=1),dY l=eO (l[0]'(by omega))
 |[x],_=>by simp [dY]
theorem bOm:∀{l:List aH} (h:l.length=2),dY l=(eO (l[0]'(by omega)) && eO (l[1]'(by omega)))
 |[x,y],_=>by simp [dY]
theorem bLd{e:aH}(h:eO e=true):(1 <= e.op /\ e.op <= 17) /\ ∀k (hk:k<e.args.length),eO e.args[k]=true:=by
 refine ⟨bN2 fun h0=>?_,fun k hk=>?_⟩
 ·rw [bK7] at h;unfold bLj at h;rw [if_pos h0] at h;cases h
 cases hs:eO e.args[k] with
 |true=>rfl
 |false=>
  rw [dZ,oF _ _ _ hs,Bool.and_false] at h;cases h
theorem bOl(e:aH)(k:Nat)(hk:k<e.args.length)(ho:1 <= e.op /\ e.op <= 17)(hok:1 <= e.args[k].op /\ e.args[k].op <= 17)(s:Sto):aL prog 224 [bK5 (.agg (cU e)),nI k] [] s fun t s'=>t=.c (.val (.bool (cV e.op k e.args[k].op))) /\ s'=s:=by
 obtain ⟨bx,rw⟩:=s
 refine acB func224 rfl ?_
 show AWp prog _ ⟨29,_,⟨bx,rw⟩,[(0,bK5 (.agg (cU e))),(1,nI k)]⟩ _
 refine go 7 fun b1=>?_
 refine dx [b1] (tz [(0,true),(1,true),(2,true)] 9 (go 4 ?_))
 refine tx 3 rfl (bH fO cU e.args iU fP k rfl rfl rfl rfl (by omega) (by decide) runUnderlying71 sizeOf73) (tz [(4,true),(5,true),(7,true),(8,true)] 4 (go 5 ?_))
 refine ox 6 rfl rfl (bMg 0 [] rfl rfl (by decide) call222 rfl rfl (bOf e.args[k].op _) bDl bDl (fun _=>bDl) ?_)
 rintro _ _ ⟨rfl,rfl⟩
 refine ox 9 rfl rfl (bMg 0 [] rfl rfl (by decide) call222 rfl rfl (bOf e.op _) bDl bDl (fun _=>bDl) ?_)
 rintro _ _ ⟨rfl,rfl⟩
 refine tz [(10,true),(11,true)] 0 (go 3 ?_)
 refine ax (go 3 ?_)
 have hs1:=bNc e.op ho
 have hs2:=bNc e.args[k].op hok
 refine go 2 ?_
 by_cases h3:((bLk e.args[k].op:Nat):Int)<((bLk e.op:Nat):Int)
 ·refine wcp true rfl (jZ h3) (go 13 ?_)
  exact bHe (s':=⟨bx,rw⟩) rfl sb1 ⟨cX (by unfold cV;first|exact decide_eq_true (by omega)|exact decide_eq_false (by omega)),rfl⟩
 refine wcp false rfl (jQ h3) (go 3 ?_)
 by_cases h4:((bLk e.args[k].op:Nat):Int)=((bLk e.op:Nat):Int)
 ·refine wcp true rfl (eR h4) (go 2 ?_)
  by_cases h5:((k:Nat):Int)=1
  ·refine wcp true rfl (eR h5) (go 6 ?_)
   exact bHe (s':=⟨bx,rw⟩) rfl sb1 ⟨cX (by unfold cV;first|exact decide_eq_true (by omega)|exact decide_eq_false (by omega)),rfl⟩
  refine wcp false rfl (eD h5) (go 6 ?_)
  exact bHe (s':=⟨bx,rw⟩) rfl sb1 ⟨cX (by unfold cV;first|exact decide_eq_true (by omega)|exact decide_eq_false (by omega)),rfl⟩
 refine wcp false rfl (eD h4) (go 9 ?_)
 exact bHe (s':=⟨bx,rw⟩) rfl sb1 ⟨cX (by unfold cV;first|exact decide_eq_true (by omega)|exact decide_eq_false (by omega)),rfl⟩
theorem bP1(x:ByteArray)(hx:x.size <= 4611686018427387904)(s:Sto):aL prog 223 [bK5 (.c (.val (.string x)))] [] s fun t s'=>t=.c (.val (.bool (bQ x))) /\ s'=s:=by
 obtain ⟨bx,rw⟩:=s
 refine acB func223 rfl ?_
 show AWp prog _ ⟨35,_,⟨bx,rw⟩,[(0,bK5 (.c (.val (.string x))))]⟩ _
 refine go 8 ?_
 refine wo rfl (aDc rfl rfl (by decide) rfl underlying9 underlying23 underlying5 (by first|(rw [kT];(try simp only [length_append]);omega)|omega) (N:=x.data.toList.length) rfl (cs:=iF x.data.toList) rfl ?_)
 refine wo rfl (bN9 0 [] rfl rfl (by decide) call30 rfl rfl (fun m=>aP8 x.data.toList m _) bDl bDl (fun _=>bDl) ?_)
 rintro _ _ ⟨(⟨tl1,hlx1,rfl,htl1⟩|⟨p1,e1,hlx1,rfl,he1⟩),rfl⟩
 ·refine go 12 ?_
  refine wcp true rfl (by simp [bC]) (go 3 ?_)
  by_cases h2:((tl1.length:Nat):Int)=2
  ·refine wcp true rfl (eR h2) (go 3 ?_)
   refine wyz rfl (bH aW aW tl1 bJ (fun _=>rfl) 0 rfl rfl rfl rfl (by omega) (by decide) runUnderlying36 sizeOf66) (go 2 ?_)
   by_cases h3:((tl1[0].kind:Nat):Int)=1
   ·refine wcp true rfl (eR h3) (go 3 ?_)
    refine wyz rfl (bH aW aW tl1 bJ (fun _=>rfl) 0 rfl rfl rfl rfl (by omega) (by decide) runUnderlying36 sizeOf66) (go 3 ?_)
    by_cases h4:tl1[0].text=x
    ·refine wyz rfl (aZ true rfl rfl rfl (aL8 h4)) (go 5 ?_)
     exact bHe (s':=⟨bx,rw⟩) rfl sb0 ⟨cX ((bL0 hlx1).1 ⟨by omega,by omega,by omega,h4⟩),rfl⟩
    refine wyz rfl (aZ false rfl rfl rfl (aLs h4)) (go 5 ?_)
    exact bHe (s':=⟨bx,rw⟩) rfl sb0 ⟨cX (Bool.eq_false_iff.2 fun hh=>by obtain ⟨q1,q0,q2,q3⟩:=(bL0 hlx1).2 hh;first|omega|exact h4 q3),rfl⟩
   refine wcp false rfl (eD h3) (go 13 ?_)
   exact bHe (s':=⟨bx,rw⟩) rfl sb0 ⟨cX (Bool.eq_false_iff.2 fun hh=>by obtain ⟨q1,q0,q2,q3⟩:=(bL0 hlx1).2 hh;first|omega|exact h3 q3),rfl⟩
  refine wcp false rfl (eD h2) (go 20 ?_)
  exact bHe (s':=⟨bx,rw⟩) rfl sb0 ⟨cX (Bool.eq_false_iff.2 fun hh=>by obtain ⟨q1,q0,q2,q3⟩:=(bL0 hlx1).2 hh;first|omega|exact h2 q3),rfl⟩
 refine go 12 ?_
 refine wcp false rfl (eD (by omega)) (go 24 ?_)
 exact bHe (s':=⟨bx,rw⟩) rfl sb0 ⟨cX (bOs hlx1),rfl⟩
theorem bQi(e:aH)(hx:e.name.size <= 4611686018427387904)(ih:∀k (h:k<e.args.length) (s:Sto),aL prog 203 [bK5 (.agg (cU e.args[k]))] [] s fun r s'=>r=.c (.val (.bool (eO e.args[k]))) /\ s'=s)(s:Sto):aL prog 203 [bK5 (.agg (cU e))] [] s fun t s'=>t=.c (.val (.bool (eO e))) /\ s'=s:=by
 obtain ⟨bx,rw⟩:=s
 refine acB func203 rfl ?_
 show AWp prog _ ⟨93,_,⟨bx,rw⟩,[(0,bK5 (.agg (cU e)))]⟩ _
 refine go 11 fun b1=>?_
 refine wcR 0 rfl call222 rfl (bOf e.op _) (go 5 ?_)
 by_cases h1:((bLk e.op:Nat):Int)=0
 ·have h7:=bPh (op:=e.op)
  have hle:=bNd e.op
  refine wcp true rfl (eR h1) (go 12 ?_)
  exact bHe (s':=⟨bx,rw⟩) rfl sb1 ⟨cX (by rw [bK7];unfold bLj;rw [if_pos (by omega)]),rfl⟩
 have h7:=bPh (op:=e.op)
 have hle:=bNd e.op
 refine wcp false rfl (eD h1) (go 6 ?_)
 by_cases h4:((bLk e.op:Nat):Int)=7
 ·refine wcp true rfl (eR h4) (go 10 ?_)
  by_cases h6:(0:Int)<((e.args.length:Nat):Int)
  ·refine wcp true rfl (mH h6) (go 12 ?_)
   exact bHe (s':=⟨bx,rw⟩) rfl sb1 ⟨cX (by rw [bK7];unfold bLj;rw [if_neg (by omega),if_pos (by omega)];rw [decide_eq_false (by omega)];rfl),rfl⟩
  refine wcp false rfl (mI h6) (go 9 ?_)
  by_cases h9:e.op=1
  ·refine wcp true rfl (eR h9) (go 3 ?_)
   by_cases h10:(0:Int) <= e.num
   ·refine wcp true rfl (aMq h10) (go 4 ?_)
    by_cases h11:e.name=aK
    ·refine wyz rfl (aZ true rfl rfl rfl (aL8 h11)) (go 22 ?_)
     exact bHe (s':=⟨bx,rw⟩) rfl sb1 ⟨cX (by rw [bK7];unfold bLj;rw [if_neg (by omega),if_pos (by omega)];rw [decide_eq_true (show e.args.length=0 by omega)];unfold jG;rw [decide_eq_true (show e.op=1 /\ 0 <= e.num by omega),decide_eq_true h11,decide_eq_false (show ¬(e.op=2 /\ e.num=0) by omega)];rfl),rfl⟩
    refine wyz rfl (aZ false rfl rfl rfl (aLs h11)) (go 4 ?_)
    refine wcp false rfl (eD (by omega)) (go 17 ?_)
    exact bHe (s':=⟨bx,rw⟩) rfl sb1 ⟨cX (by rw [bK7];unfold bLj;rw [if_neg (by omega),if_pos (by omega)];rw [decide_eq_true (show e.args.length=0 by omega)];unfold jG;rw [decide_eq_true (show e.op=1 /\ 0 <= e.num by omega),decide_eq_false h11,decide_eq_false (show ¬(e.op=2 /\ e.num=0) by omega)];rfl),rfl⟩
   refine wcp false rfl (aMx h10) (go 9 ?_)
   refine wcp false rfl (eD (by omega)) (go 17 ?_)
   exact bHe (s':=⟨bx,rw⟩) rfl sb1 ⟨cX (by rw [bK7];unfold bLj;rw [if_neg (by omega),if_pos (by omega)];rw [decide_eq_true (show e.args.length=0 by omega)];unfold jG;rw [decide_eq_false (show ¬(e.op=1 /\ 0 <= e.num) by omega),decide_eq_false (show ¬(e.op=2 /\ e.num=0) by omega)];rfl),rfl⟩
  refine wcp false rfl (eD h9) (go 13 ?_)
  by_cases h12:e.op=2
  ·refine wcp true rfl (eR h12) (go 3 ?_)
   by_cases h13:e.num=0
   ·refine wcp true rfl (eR h13) (go 4 ?_)
    rcases Bool.eq_false_or_eq_true (bQ e.name) with h14|h14
    ·refine bK8 0 rfl call223 rfl (bP1 e.name (by first|assumption|omega) _) h14 (go 8 ?_)
     exact bHe (s':=⟨bx,rw⟩) rfl sb1 ⟨cX (by rw [bK7];unfold bLj;rw [if_neg (by omega),if_pos (by omega)];rw [decide_eq_true (show e.args.length=0 by omega)];unfold jG;rw [decide_eq_false (show ¬(e.op=1 /\ 0 <= e.num) by omega)];rw [decide_eq_true (show e.op=2 /\ e.num=0 by omega),h14];rfl),rfl⟩
    refine bK8 0 rfl call223 rfl (bP1 e.name (by first|assumption|omega) _) h14 (go 8 ?_)
    exact bHe (s':=⟨bx,rw⟩) rfl sb1 ⟨cX (by rw [bK7];unfold bLj;rw [if_neg (by omega),if_pos (by omega)];rw [decide_eq_true (show e.args.length=0 by omega)];unfold jG;rw [decide_eq_false (show ¬(e.op=1 /\ 0 <= e.num) by omega)];rw [decide_eq_true (show e.op=2 /\ e.num=0 by omega),h14];rfl),rfl⟩
   refine wcp false rfl (eD h13) (go 13 ?_)
   exact bHe (s':=⟨bx,rw⟩) rfl sb1 ⟨cX (by rw [bK7];unfold bLj;rw [if_neg (by omega),if_pos (by omega)];rw [decide_eq_true (show e.args.length=0 by omega)];unfold jG;rw [decide_eq_false (show ¬(e.op=1 /\ 0 <= e.num) by omega)];rw [decide_eq_false (show ¬(e.op=2 /\ e.num=0) by omega)];rfl),rfl⟩
  refine wcp false rfl (eD h12) (go 17 ?_)
  exact bHe (s':=⟨bx,rw⟩) rfl sb1 ⟨cX (by rw [bK7];unfold bLj;rw [if_neg (by omega),if_pos (by omega)];rw [decide_eq_true (show e.args.length=0 by omega)];unfold jG;rw [decide_eq_false (show ¬(e.op=1 /\ 0 <= e.num) by omega)];rw [decide_eq_false (show ¬(e.op=2 /\ e.num=0) by omega)];rfl),rfl⟩
 refine wcp false rfl (eD h4) (go 6 ?_)
 by_cases h16:((bLk e.op:Nat):Int)=6
 ·refine wcp true rfl (eR h16) (go 9 ?_)
  by_cases h18:((e.args.length:Nat):Int)=1
  ·refine wcp true rfl (eR h18) (go 3 ?_)
   by_cases h19:e.num=0
   ·refine wcp true rfl (eR h19) (go 4 ?_)
    by_cases h20:e.name=aK
    ·refine wyz rfl (aZ true rfl rfl rfl (aL8 h20)) (go 4 ?_)
     refine wyz rfl (bH fO cU e.args iU fP 0 rfl rfl rfl rfl (by omega) (by decide) runUnderlying71 sizeOf73) (go 1 ?_)
     rcases Bool.eq_false_or_eq_true (eO e.args[0]) with h21|h21
     ·refine bK8 0 rfl call203 rfl (ih 0 (by omega) _) h21 (go 7 ?_)
      exact bHe (s':=⟨bx,rw⟩) rfl sb1 ⟨cX (by rw [bK7];unfold bLj;rw [if_neg (by omega),if_neg (by omega),if_pos (by omega)];rw [decide_eq_true (by omega),decide_eq_true (show e.num=0 by omega),decide_eq_true h20,bPx (by omega),h21];rfl),rfl⟩
     refine bK8 0 rfl call203 rfl (ih 0 (by omega) _) h21 (go 7 ?_)
     exact bHe (s':=⟨bx,rw⟩) rfl sb1 ⟨cX (by rw [bK7];unfold bLj;rw [if_neg (by omega),if_neg (by omega),if_pos (by omega)];rw [decide_eq_true (by omega),decide_eq_true (show e.num=0 by omega),decide_eq_true h20,bPx (by omega),h21];rfl),rfl⟩
    refine wyz rfl (aZ false rfl rfl rfl (aLs h20)) (go 14 ?_)
    exact bHe (s':=⟨bx,rw⟩) rfl sb1 ⟨cX (by rw [bK7];unfold bLj;rw [if_neg (by omega),if_neg (by omega),if_pos (by omega)];rw [decide_eq_true (by omega),decide_eq_true (show e.num=0 by omega),decide_eq_false h20];rfl),rfl⟩
   refine wcp false rfl (eD h19) (go 19 ?_)
   exact bHe (s':=⟨bx,rw⟩) rfl sb1 ⟨cX (by rw [bK7];unfold bLj;rw [if_neg (by omega),if_neg (by omega),if_pos (by omega)];rw [decide_eq_true (by omega),decide_eq_false (show ¬e.num=0 by omega)];rfl),rfl⟩
  refine wcp false rfl (eD h18) (go 23 ?_)
  exact bHe (s':=⟨bx,rw⟩) rfl sb1 ⟨cX (by rw [bK7];unfold bLj;rw [if_neg (by omega),if_neg (by omega),if_pos (by omega)];rw [decide_eq_false (by omega)];rfl),rfl⟩
 refine wcp false rfl (eD h16) (go 12 ?_)
 by_cases h23:((e.args.length:Nat):Int)=2
 ·refine wcp true rfl (eR h23) (go 3 ?_)
  by_cases h24:e.num=0
  ·refine wcp true rfl (eR h24) (go 4 ?_)
   by_cases h25:e.name=aK
   ·refine wyz rfl (aZ true rfl rfl rfl (aL8 h25)) (go 4 ?_)
    refine wyz rfl (bH fO cU e.args iU fP 0 rfl rfl rfl rfl (by omega) (by decide) runUnderlying71 sizeOf73) (go 1 ?_)
    rcases Bool.eq_false_or_eq_true (eO e.args[0]) with h26|h26
    ·refine bK8 0 rfl call203 rfl (ih 0 (by omega) _) h26 (go 4 ?_)
     refine wyz rfl (bH fO cU e.args iU fP 1 rfl rfl rfl rfl (by omega) (by decide) runUnderlying71 sizeOf73) (go 1 ?_)
     rcases Bool.eq_false_or_eq_true (eO e.args[1]) with h27|h27
     ·refine bK8 0 rfl call203 rfl (ih 1 (by omega) _) h27 (go 5 ?_)
      exact bHe (s':=⟨bx,rw⟩) rfl sb1 ⟨cX (by rw [bK7];unfold bLj;rw [if_neg (by omega),if_neg (by omega),if_neg (by omega)];rw [decide_eq_true (by omega),decide_eq_true (show e.num=0 by omega),decide_eq_true h25,bOm (by omega),h26,h27];rfl),rfl⟩
     refine bK8 0 rfl call203 rfl (ih 1 (by omega) _) h27 (go 5 ?_)
     exact bHe (s':=⟨bx,rw⟩) rfl sb1 ⟨cX (by rw [bK7];unfold bLj;rw [if_neg (by omega),if_neg (by omega),if_neg (by omega)];rw [decide_eq_true (by omega),decide_eq_true (show e.num=0 by omega),decide_eq_true h25,bOm (by omega),h26,h27];rfl),rfl⟩
    refine bK8 0 rfl call203 rfl (ih 0 (by omega) _) h26 (go 12 ?_)
    exact bHe (s':=⟨bx,rw⟩) rfl sb1 ⟨cX (by rw [bK7];unfold bLj;rw [if_neg (by omega),if_neg (by omega),if_neg (by omega)];rw [decide_eq_true (by omega),decide_eq_true (show e.num=0 by omega),decide_eq_true h25,bOm (by omega),h26];rfl),rfl⟩
   refine wyz rfl (aZ false rfl rfl rfl (aLs h25)) (go 19 ?_)
   exact bHe (s':=⟨bx,rw⟩) rfl sb1 ⟨cX (by rw [bK7];unfold bLj;rw [if_neg (by omega),if_neg (by omega),if_neg (by omega)];rw [decide_eq_true (by omega),decide_eq_true (show e.num=0 by omega),decide_eq_false h25];rfl),rfl⟩
  refine wcp false rfl (eD h24) (go 24 ?_)
  exact bHe (s':=⟨bx,rw⟩) rfl sb1 ⟨cX (by rw [bK7];unfold bLj;rw [if_neg (by omega),if_neg (by omega),if_neg (by omega)];rw [decide_eq_true (by omega),decide_eq_false (show ¬e.num=0 by omega)];rfl),rfl⟩
 refine wcp false rfl (eD h23) (go 28 ?_)
 exact bHe (s':=⟨bx,rw⟩) rfl sb1 ⟨cX (by rw [bK7];unfold bLj;rw [if_neg (by omega),if_neg (by omega),if_neg (by omega)];rw [decide_eq_false (by omega)];rfl),rfl⟩
theorem bM1{e:aH}(h:e.sane):e.name.size <= 4611686018427387904 /\ iI e.args:=by cases e;rw [aH.sane] at h;first|exact ⟨h.2.2.1,h.2.2.2⟩|exact ⟨h.2.1,h.2.2⟩|exact ⟨h.1,h.2⟩
theorem bO9:∀(N:Nat)(e:aH),e.nodes <= N -> e.sane -> ∀s:Sto,aL prog 203 [bK5 (.agg (cU e))] [] s fun r s'=>r=.c (.val (.bool (eO e))) /\ s'=s
 |0,e,h,_,_=>by cases e;rw [aH.nodes] at h;omega
 |N+1,e,h,hs,s=>bQi e (bM1 hs).1 (fun k hk s=>bO9 N e.args[k] (by have:=sF e k hk;omega) (mV _ (bM1 hs).2 _ (getElem_mem _)) s) s
theorem bN7(e:aH)(hN:e.nodes <= 1000000000)(hsh:eO e=true)(ih:∀k (h:k<e.args.length) (s:Sto),aL prog 204 [bK5 (.agg (cU e.args[k]))] [] s fun r s'=>r=.c (.val (.int .i64 ((dI e.args[k]:Nat):Int))) /\ s'=s)(s:Sto):aL prog 204 [bK5 (.agg (cU e))] [] s fun t s'=>t=.c (.val (.int .i64 ((dI e:Nat):Int))) /\ s'=s:=by
 obtain ⟨bx,rw⟩:=s
 have hlen:=uC e
 refine acB func204 rfl ?_
 show AWp prog _ ⟨34,_,⟨bx,rw⟩,[(0,bK5 (.agg (cU e)))]⟩ _
 refine go 21 fun b1=>?_
 refine oC (e.args.length) 9 (fun k=>[(3,.c (.val (.int .i64 ((bSm e.op 0 (e.args.take (k)):Nat):Int)))),(0,bK5 (.agg (cU e))),(1,pP b1),(8,nI e.args.length)]) (sA rfl) fun k hk=>?_
 show AWp prog _ ⟨34,_,_,(9,nI k)::[(3,.c (.val (.int .i64 ((bSm e.op 0 (e.args.take (k)):Nat):Int)))),(0,bK5 (.agg (cU e))),(1,pP b1),(8,nI e.args.length)]⟩ _
 refine go 2 ?_
 by_cases h1:((k:Nat):Int)<((e.args.length:Nat):Int)
 ·refine wcp true rfl (jZ h1) (go 16 ?_)
  have hle:=aBa _ e.args[k] (Nat.le_refl _)
  have hnk:=sF e k (by omega)
  have hmx:=kF e.op e.args k (by omega)
  refine go 3 ?_
  refine wyz rfl (bH fO cU e.args iU fP k rfl rfl rfl rfl (by omega) (by decide) runUnderlying71 sizeOf73) (go 1 ?_)
  refine wcR 0 rfl call204 rfl (ih k (by omega) _) (go 8 ?_)
  rcases Bool.eq_false_or_eq_true (cV e.op k e.args[k].op) with h3|h3
  ·refine bK8 0 rfl call224 rfl (bOl e k (by omega) (bLd hsh).1 (bLd ((bLd hsh).2 k (by omega))).1 _) h3 (go 5 ?_)
   refine wad rfl (go 6 ?_)
   refine wyz rfl (aNq _ rfl rfl rfl rfl) (go 5 ?_)
   refine wad rfl (go 2 ?_)
   exact ⟨by omega,(aG rfl (gQ (by omega)) (aG rfl (gQ (by rw [kF _ _ _ (by omega),h3];simp only [if_true,Bool.false_eq_true,if_false];omega)) (sA rfl)))⟩
  refine bK8 0 rfl call224 rfl (bOl e k (by omega) (bLd hsh).1 (bLd ((bLd hsh).2 k (by omega))).1 _) h3 (go 8 ?_)
  refine wyz rfl (aNq _ rfl rfl rfl rfl) (go 5 ?_)
  refine wad rfl (go 2 ?_)
  exact ⟨by omega,(aG rfl (gQ (by omega)) (aG rfl (gQ (by rw [kF _ _ _ (by omega),h3];simp only [if_true,Bool.false_eq_true,if_false];omega)) (sA rfl)))⟩
 refine wcp false rfl (jQ h1) (go 12 ?_)
 have hle0:=aBa _ e (Nat.le_refl _)
 have hq:=tX e
 obtain rfl:k=e.args.length:=by omega
 rw [take_of_length_le (Nat.le_refl _)]
 have hsE:=bNc e.op (bLd hsh).1
 refine go 2 ?_
 refine wcR 0 rfl call222 rfl (bOf e.op _) ?_
 by_cases h7:((bLk e.op:Nat):Int)=6
 ·refine wcp true rfl (eR h7) (go 5 ?_)
  refine wad rfl (go 10 ?_)
  exact bHe (s':=⟨bx,rw⟩) rfl sb1 ⟨aPy (by rw [tX,if_pos (by omega)];first|rfl|simp),rfl⟩
 refine wcp false rfl (eD h7) (go 12 ?_)
 exact bHe (s':=⟨bx,rw⟩) rfl sb1 ⟨aPy (by rw [tX,if_neg (by omega)];first|rfl|simp),rfl⟩
theorem bNv:∀(N:Nat)(e:aH),e.nodes <= N -> N <= 1000000000 -> eO e=true -> ∀s:Sto,aL prog 204 [bK5 (.agg (cU e))] [] s fun r s'=>r=.c (.val (.int .i64 ((dI e:Nat):Int))) /\ s'=s
 |0,e,h,_,_,_=>by cases e;rw [aH.nodes] at h;omega
 |N+1,e,h,hN,hs,s=>bN7 e (by omega) hs (fun k hk s=>bNv N e.args[k] (by have:=sF e k hk;omega) (by omega) ((bLd hs).2 k hk) s) s
theorem bLw(e:aH)(hN:e.nodes <= 1000000000)(hs:e.sane)(s:Sto):aL prog 172 [bK5 (.agg (cU e))] [] s fun t s'=>t=.c (.val (.bool (dM e))) /\ s'=s:=by
 obtain ⟨bx,rw⟩:=s
 refine acB func172 rfl ?_
 show AWp prog _ ⟨10,_,⟨bx,rw⟩,[(0,bK5 (.agg (cU e)))]⟩ _
 refine go 9 fun b1=>?_
 rcases Bool.eq_false_or_eq_true (eO e) with h1|h1
 ·refine bK8 0 rfl call203 rfl (bO9 _ e (Nat.le_refl _) hs _) h1 (go 2 ?_)
  refine wcR 0 rfl call204 rfl (bNv _ e (Nat.le_refl _) hN h1 _) ?_
  by_cases h2:((dI e:Nat):Int) <= 24
  ·refine wcp true rfl (aPz h2) (go 5 ?_)
   exact bHe (s':=⟨bx,rw⟩) rfl sb1 ⟨cX (by unfold dM;rw [h1,decide_eq_true (by omega)];rfl),rfl⟩
  refine wcp false rfl (aPx h2) (go 5 ?_)
  exact bHe (s':=⟨bx,rw⟩) rfl sb1 ⟨cX (by unfold dM;rw [h1,decide_eq_false (by omega)];rfl),rfl⟩
 refine bK8 0 rfl call203 rfl (bO9 _ e (Nat.le_refl _) hs _) h1 (go 9 ?_)
 exact bHe (s':=⟨bx,rw⟩) rfl sb1 ⟨cX (by unfold dM;rw [h1];rfl),rfl⟩
end
section
open Go.RowKit
section
variable {P:Program}{U:List Nat}{o:Oper}{st:AS}
end
theorem bEj(x n:Int)(hn:0<n):∃k:Nat,x%n=k /\ (k:Int)<n:=
 ⟨(x%n).toNat,by have:=Int.emod_nonneg x (b:=n) (by omega);omega,by have:=Int.emod_nonneg x (b:=n) (by omega);have:=Int.emod_lt_of_pos x (b:=n) hn;omega⟩
theorem bEl(x n:Int)(k:Nat)(hn:0<n)(hn2:n <= 4611686018427387904)(hk:x%n=k)(s:Sto):aL prog 12 [.c (.val (.int .i64 x)),.c (.val (.int .i64 n))] [] s fun r s'=>r=nI k /\ s'=s:=by
 have h:=aNz x n hn hn2 s
 rw [hk] at h
 exact h
end
end Go.Proofs.YtojinfngbbajgaaGreatDoor
