import Derived.Test.YtojinfngbbajgaaGreatDoorF5J
import Derived.Test.YtojinfngbbajgaaGreatDoorF26J
import Derived.Test.YtojinfngbbajgaaGreatDoorF11J
set_option linter.all false
set_option synthInstance.maxHeartbeats 1000000
set_option synthInstance.maxSize 1000000
set_option maxHeartbeats 1600000
set_option maxRecDepth 100000
namespace Go.Proofs.YtojinfngbbajgaaGreatDoor
open Go.Proofs.Tryz
open List (length_append length_cons length_nil mem_append mem_cons not_mem_nil append_assoc getElem_mem take_of_length_le)
section
open Go.RowKit
theorem bD0(A B:List Box)(rw:List bA)(P:Nat)(l:List Tok)(k b e ns dp:Nat)(sg:List UInt8)(hr:dA (bytes sg)=false)(hok:TOk l)(hk:k<l.length):aL prog 51 [pP P,.c (.val (.string (bytes sg)))] [P] (RSt A B rw P l k b e ns dp) fun t s=>(e=0 /\ cS l k sg=true /\ t=.c (.val (.bool true)) /\ s=RSt A B rw P l k b e ns dp)∨((e=0 -> cS l k sg=false) /\ t=.c (.val (.bool false)) /\ s=RSt A B rw P l k b e ns dp):=by
 refine (bFv A B rw P l k b e ns dp (bytes sg) hk).mono fun t s h=>?_
 rw [bEp hok hk hr] at h
 by_cases he:e=0
 ·cases hs:cS l k sg with
  |true=>exact .inl ⟨he,rfl,by rw [h.1,hs,he];rfl,h.2⟩
  |false=>exact .inr ⟨fun _=>rfl,by rw [h.1,hs,he];rfl,h.2⟩
 ·exact .inr ⟨fun h0=>absurd h0 he,by rw [h.1,decide_eq_false he];rfl,h.2⟩
theorem bGf(A B:List Box)(rw:List bA)(P:Nat)(l:List Tok)(k b e ns dp:Nat)(sg:List UInt8)(hr:dA (bytes sg)=true)(hok:TOk l)(hk:k<l.length):aL prog 51 [pP P,.c (.val (.string (bytes sg)))] [P] (RSt A B rw P l k b e ns dp) fun t s=>(e=0 /\ dN l k sg=true /\ t=.c (.val (.bool true)) /\ s=RSt A B rw P l k b e ns dp)∨((e=0 -> dN l k sg=false) /\ t=.c (.val (.bool false)) /\ s=RSt A B rw P l k b e ns dp):=by
 refine (bFv A B rw P l k b e ns dp (bytes sg) hk).mono fun t s h=>?_
 rw [bE6 hok hk hr] at h
 by_cases he:e=0
 ·cases hs:dN l k sg with
  |true=>exact .inl ⟨he,rfl,by rw [h.1,hs,he];rfl,h.2⟩
  |false=>exact .inr ⟨fun _=>rfl,by rw [h.1,hs,he];rfl,h.2⟩
 ·exact .inr ⟨fun h0=>absurd h0 he,by rw [h.1,decide_eq_false he];rfl,h.2⟩
theorem bEv(A B:List Box)(rw:List bA)(P:Nat)(l:List Tok)(k b e ns dp:Nat)(kk:Nat)(hk:k<l.length):aL prog 50 [pP P,.c (.val (.int .i64 (kk:Int)))] [P] (RSt A B rw P l k b e ns dp) fun t s=>(e=0 /\ (bU l k).kind=kk /\ t=.c (.val (.bool true)) /\ s=RSt A B rw P l k b e ns dp)∨((e=0 -> (bU l k).kind≠kk) /\ t=.c (.val (.bool false)) /\ s=RSt A B rw P l k b e ns dp):=by
 refine (bFb A B rw P l k b e ns dp kk hk).mono fun t s h=>?_
 by_cases he:e=0
 ·by_cases hq:(bU l k).kind=kk
  ·exact .inl ⟨he,hq,by rw [h.1,decide_eq_true hq,he];rfl,h.2⟩
  exact .inr ⟨fun _=>hq,by rw [h.1,decide_eq_false hq,he];rfl,h.2⟩
 exact .inr ⟨fun h0=>absurd h0 he,by rw [h.1,decide_eq_false he];rfl,h.2⟩
theorem bEg(op:Int)(r:bN aH):aKc op r=r.bind fun x k=>.ok (.mk op 0 aK [x]) k:=by cases r<;>rfl
theorem bE1(l:List Tok)(r:bN aH):aHo l r=r.bind fun x k=>(fD l [41] k).bind fun _ k=>.ok x k:=by
 cases r with
 |ok x k=>show (if cS l k [41]=true then _ else _)=_;unfold bN.bind fD;dsimp only;split<;>rfl
 |err a e=>rfl
theorem bEe(A B:List Box)(rw:List bA)(P:Nat)(l:List Tok)(k b e ns dp:Nat)(hns:¬ns=24)(hn2:ns <= 24):aL prog 191 [pP P] [P] (RSt A B rw P l k b e ns dp) fun t s=>t=.tup [] /\ s=RSt A B rw P l k b e (ns+1) dp:=by
 refine acB func191 rfl ?_
 show AWp prog _ ⟨16,[P],⟨A++⟨P,112,[.sl l.length (l.flatMap aW),nC k,nC b,nC e,nC ns,nC dp]⟩::B,rw⟩,[(0,pP P)]⟩ _
 refine go 7 ?_
 refine wcp false rfl (by rw [show bC .eql ((ns:Nat):Int) 24=some (decide (ns=24)) from jS (n:=24),decide_eq_false hns]) (go 10 ?_)
 refine wad rfl (go 4 ?_)
 exact ⟨.inl rfl,_,(RSt A B rw P l (k) (b) (e) (ns+1) (dp)),cH rfl,aA (.refl _) (.refl _),rfl,rfl⟩
theorem bEf(A B:List Box)(rw:List bA)(P:Nat)(l:List Tok)(k b e dp:Nat):aL prog 191 [pP P] [P] (RSt A B rw P l k b e 24 dp) fun t s=>∃b1 e1,aC7 e b k 3 b1 e1 /\ t=.tup [] /\ s=RSt A B rw P l k b1 e1 25 dp:=by
 refine acB func191 rfl ?_
 show AWp prog _ ⟨16,[P],⟨A++⟨P,112,[.sl l.length (l.flatMap aW),nC k,nC b,nC e,nC 24,nC dp]⟩::B,rw⟩,[(0,pP P)]⟩ _
 refine go 7 ?_
 refine wcp true rfl (by rfl) (go 5 ?_)
 refine wcQ rfl call52 rfl (bEa (A) _ _ _ l k b e 24 dp 3) ?_
 rintro t2 s2 ⟨u2,e2,hf2,rfl,rfl⟩
 refine go 7 ?_
 refine wad rfl (go 4 ?_)
 exact ⟨.inl rfl,_,(RSt A B rw P l (k) (u2) (e2) (25) (dp)),cH rfl,aA (.refl _) (.refl _),⟨u2,e2,hf2,rfl,rfl⟩⟩
theorem bEx(A B:List Box)(rw:List bA)(P:Nat)(l:List Tok)(k b e dp:Nat)(hok:TOk l)(hk:k<l.length)(he:e<16):aL prog 159 [pP P] [P] (RSt A B rw P l k b e 24 dp) fun t s=>RAn A B rw P l 24 dp (fun x=>.agg (cU x)) e b (bL l 0 k) t s:=by
 have hlen:=hok.len
 refine acB func159 rfl ?_
 show AWp prog _ ⟨100,[P],⟨A++⟨P,112,[.sl l.length (l.flatMap aW),nC k,nC b,nC e,nC 24,nC dp]⟩::B,rw⟩,[(0,pP P)]⟩ _
 refine go 17 fun b1 b2=>?_
 refine wcQ rfl call50 rfl (bEv (_::_::A) _ _ _ l k b e 24 dp 2 hk) ?_
 rintro t1 s1 (⟨rfl,ha1,rfl,rfl⟩|⟨ha1,rfl,rfl⟩)
 ·refine go 5 ?_
  refine dx [b1,P] (tz [(0,true),(1,true),(2,true),(3,true),(4,true),(5,true),(6,true),(7,true)] 5 (go 9 ?_))
  refine tx 8 rfl (bH aW aW l bJ (fun _=>rfl) (k) rfl rfl rfl rfl hk (by decide) runUnderlying36 sizeOf66) (tz [(9,true),(10,true),(11,true),(12,false)] 0 (go 5 ?_))
  refine ax (go 6 ?_)
  refine wad rfl (go 13 ?_)
  have hm:=hok.last.more hk (by rw [ha1];decide)
  exact ⟨.inr rfl,_,(RSt A B rw P l (k+1) (b) (0) (24) (dp)),(eK (Wk.agg (.r (.r (.r (.n .nil))))) (aR rfl (aO [_] rfl rfl isAgg73 sizeOf73 (bK rfl rfl)))),aA (.cons _ (.cons _ (.refl _))) (.refl _),⟨(.mk 1 (l[k].num:Int) aK []),k+1,b,0,rfl,.ok _ _ _ (by unfold bL;rw [if_pos ha1,bG hk]),hm,(by decide),rfl⟩⟩
 refine go 7 ?_
 refine wcQ rfl call50 rfl (bEv (_::_::A) _ _ _ l k b e 24 dp 1 hk) ?_
 rintro t4 s4 (⟨rfl,ha4,rfl,rfl⟩|⟨ha4,rfl,rfl⟩)
 ·refine go 6 ?_
  refine wcQ rfl call56 rfl (bEb (_::_::A) _ _ _ l k b 0 24 dp hok hk (by decide)) ?_
  rintro t6 s6 ⟨x6,k6,u6,e6,rfl,hr6,hk6,he6,rfl⟩
  refine go 12 ?_
  exact ⟨.inr rfl,_,(RSt A B rw P l (k6) (u6) (e6) (24) (dp)),(eK (Wk.agg (.r (.r (.r (.n .nil))))) (aR rfl (aO [_] rfl rfl isAgg73 sizeOf73 (bK rfl rfl)))),aA (.cons _ (.cons _ (.refl _))) (.refl _),⟨(.mk 2 0 x6 []),k6,u6,e6,rfl,(hr6.map (f:=fun n=>aH.mk 2 0 n [])).eq (fun _=>by unfold bL jW;rw [if_neg (ha1 rfl),if_pos ha4,if_pos ha4];rfl),hk6,he6,rfl⟩⟩
 refine go 7 ?_
 refine wcQ rfl call51 rfl (bD0 (_::_::A) _ _ _ l k b e 24 dp [45] (by decide) hok hk) ?_
 rintro t8 s8 (⟨rfl,ha8,rfl,rfl⟩|⟨ha8,rfl,rfl⟩)
 ·refine go 18 ?_
  refine wcQ rfl call51 rfl (bD0 (_::_::A) _ _ _ l k b 0 24 dp [45] (by decide) hok hk) ?_
  rintro t10 s10 (⟨-,ha10,rfl,rfl⟩|⟨ha10,rfl,rfl⟩)
  ·refine go 11 ?_
   refine wcQ rfl call191 rfl (bEf (_::_::A) _ _ _ l k b 0 dp) ?_
   rintro t12 s12 ⟨u12,e12,hf12,rfl,rfl⟩
   obtain ⟨rfl,rfl⟩:=hf12.1 rfl
   refine go 9 ?_
   refine wcp false rfl rfl (go 10 ?_)
   refine wyz rfl (cI ((24:Nat):Int) rfl rfl rfl rfl (by omega) (by omega)) (go 13 ?_)
   exact ⟨.inr rfl,_,(RSt A B rw P l (k) (k) (3) (24) (dp)),(eK (Wk.agg (.r (.r (.r (.n .nil))))) (aR rfl (aO [_] rfl rfl isAgg73 sizeOf73 (bK rfl rfl)))),aA (.cons _ (.cons _ (.refl _))) (.refl _),⟨(.mk 3 0 aK []),k,k,3,rfl,.err _ _ _ _ _ (by unfold bL;rw [if_neg (ha1 rfl),if_neg (ha4 rfl),if_pos (by simp [ha8])]) (by decide),hk,(by decide),rfl⟩⟩
  exact absurd (ha10 rfl) (by rw [ha8];decide)
 refine go 2 ?_
 refine wcQ rfl call51 rfl (bD0 (_::_::A) _ _ _ l k b e 24 dp [33] (by decide) hok hk) ?_
 rintro t14 s14 (⟨rfl,ha14,rfl,rfl⟩|⟨ha14,rfl,rfl⟩)
 ·refine go 15 ?_
  refine wcQ rfl call51 rfl (bD0 (_::_::A) _ _ _ l k b 0 24 dp [45] (by decide) hok hk) ?_
  rintro t16 s16 (⟨-,ha16,rfl,rfl⟩|⟨ha16,rfl,rfl⟩)
  ·exact absurd ha16 (by rw [(ha8 rfl)];decide)
  refine go 8 ?_
  refine wcQ rfl call191 rfl (bEf (_::_::A) _ _ _ l k b 0 dp) ?_
  rintro t18 s18 ⟨u18,e18,hf18,rfl,rfl⟩
  obtain ⟨rfl,rfl⟩:=hf18.1 rfl
  refine go 9 ?_
  refine wcp false rfl rfl (go 10 ?_)
  refine wyz rfl (cI ((24:Nat):Int) rfl rfl rfl rfl (by omega) (by omega)) (go 13 ?_)
  exact ⟨.inr rfl,_,(RSt A B rw P l (k) (k) (3) (24) (dp)),(eK (Wk.agg (.r (.r (.r (.n .nil))))) (aR rfl (aO [_] rfl rfl isAgg73 sizeOf73 (bK rfl rfl)))),aA (.cons _ (.cons _ (.refl _))) (.refl _),⟨(.mk 4 0 aK []),k,k,3,rfl,.err _ _ _ _ _ (by unfold bL;rw [if_neg (ha1 rfl),if_neg (ha4 rfl),if_pos (by simp [ha14])]) (by decide),hk,(by decide),rfl⟩⟩
 refine go 8 ?_
 refine wcQ rfl call51 rfl (bD0 (_::_::A) _ _ _ l k b e 24 dp [40] (by decide) hok hk) ?_
 rintro t21 s21 (⟨rfl,ha21,rfl,rfl⟩|⟨ha21,rfl,rfl⟩)
 ·refine go 7 ?_
  refine wcQ rfl call191 rfl (bEf (_::_::A) _ _ _ l k b 0 dp) ?_
  rintro t23 s23 ⟨u23,e23,hf23,rfl,rfl⟩
  obtain ⟨rfl,rfl⟩:=hf23.1 rfl
  refine go 9 ?_
  refine wcp false rfl rfl (go 10 ?_)
  refine wyz rfl (cI ((24:Nat):Int) rfl rfl rfl rfl (by omega) (by omega)) (go 13 ?_)
  exact ⟨.inr rfl,_,(RSt A B rw P l (k) (k) (3) (24) (dp)),(eK (Wk.agg (.r (.r (.r (.n .nil))))) (aR rfl (aO [_] rfl rfl isAgg73 sizeOf73 (bK rfl rfl)))),aA (.cons _ (.cons _ (.refl _))) (.refl _),⟨aH.zero,k,k,3,rfl,.err _ _ _ _ _ (by unfold bL;rw [if_neg (ha1 rfl),if_neg (ha4 rfl),if_pos (by simp [ha21])]) (by decide),hk,(by decide),rfl⟩⟩
 refine go 6 ?_
 refine wcQ rfl call52 rfl (bEa (_::_::A) _ _ _ l k b e 24 dp 4) ?_
 rintro t26 s26 ⟨u26,e26,hf26,rfl,rfl⟩
 refine go 10 ?_
 exact ⟨.inr rfl,_,(RSt A B rw P l (k) (u26) (e26) (24) (dp)),(eK (Wk.agg (.r (.r (.r (.n .nil))))) (aR rfl (aO [_] rfl rfl isAgg73 sizeOf73 (bK rfl rfl)))),aA (.cons _ (.cons _ (.refl _))) (.refl _),⟨aH.zero,k,u26,e26,rfl,hf26.run (by decide) (fun h=>by unfold bL;rw [if_neg (ha1 h),if_neg (ha4 h),if_neg (by rw [ha8 h,ha14 h,ha21 h];decide)]) _ _,hk,(hf26.small he (by decide)),rfl⟩⟩
theorem bE0(A B:List Box)(rw:List bA)(P:Nat)(l:List Tok)(k b e ns dp:Nat)(d:Nat)(hns:ns+(d+1)=24)(hok:TOk l)(hk:k<l.length)(he:e<16)(iho:∀(A B:List Box)(rw:List bA)(P k b e ns dp:Nat),ns+d=24 -> k<l.length -> e<16 -> aL prog 159 [pP P] [P] (RSt A B rw P l k b e ns dp) (RAn A B rw P l ns dp (fun x=>.agg (cU x)) e b (bL l d k)))(ihb:∀(A B:List Box)(rw:List bA)(P k b e ns dp:Nat),ns+d=24 -> k<l.length -> e<16 -> aL prog 125 [pP P,.c (.val (.int .i64 0))] [P] (RSt A B rw P l k b e ns dp) (RAn A B rw P l ns dp (fun x=>.agg (cU x)) e b (gS l (bL l d) 5 k))):aL prog 159 [pP P] [P] (RSt A B rw P l k b e ns dp) fun t s=>RAn A B rw P l ns dp (fun x=>.agg (cU x)) e b (bL l (d+1) k) t s:=by
 have hlen:=hok.len
 refine acB func159 rfl ?_
 show AWp prog _ ⟨100,[P],⟨A++⟨P,112,[.sl l.length (l.flatMap aW),nC k,nC b,nC e,nC ns,nC dp]⟩::B,rw⟩,[(0,pP P)]⟩ _
 refine go 17 fun b1 b2=>?_
 refine wcQ rfl call50 rfl (bEv (_::_::A) _ _ _ l k b e ns dp 2 hk) ?_
 rintro t1 s1 (⟨rfl,ha1,rfl,rfl⟩|⟨ha1,rfl,rfl⟩)
 ·refine go 5 ?_
  refine dx [b1,P] (tz [(0,true),(1,true),(2,true),(3,true),(4,true),(5,true),(6,true),(7,true)] 5 (go 9 ?_))
  refine tx 8 rfl (bH aW aW l bJ (fun _=>rfl) (k) rfl rfl rfl rfl hk (by decide) runUnderlying36 sizeOf66) (tz [(9,true),(10,true),(11,true),(12,false)] 0 (go 5 ?_))
  refine ax (go 6 ?_)
  refine wad rfl (go 13 ?_)
  have hm:=hok.last.more hk (by rw [ha1];decide)
  exact ⟨.inr rfl,_,(RSt A B rw P l (k+1) (b) (0) (ns) (dp)),(eK (Wk.agg (.r (.r (.r (.n .nil))))) (aR rfl (aO [_] rfl rfl isAgg73 sizeOf73 (bK rfl rfl)))),aA (.cons _ (.cons _ (.refl _))) (.refl _),⟨(.mk 1 (l[k].num:Int) aK []),k+1,b,0,rfl,.ok _ _ _ (by unfold bL;rw [if_pos ha1,bG hk]),hm,(by decide),rfl⟩⟩
 refine go 7 ?_
 refine wcQ rfl call50 rfl (bEv (_::_::A) _ _ _ l k b e ns dp 1 hk) ?_
 rintro t4 s4 (⟨rfl,ha4,rfl,rfl⟩|⟨ha4,rfl,rfl⟩)
 ·refine go 6 ?_
  refine wcQ rfl call56 rfl (bEb (_::_::A) _ _ _ l k b 0 ns dp hok hk (by decide)) ?_
  rintro t6 s6 ⟨x6,k6,u6,e6,rfl,hr6,hk6,he6,rfl⟩
  refine go 12 ?_
  exact ⟨.inr rfl,_,(RSt A B rw P l (k6) (u6) (e6) (ns) (dp)),(eK (Wk.agg (.r (.r (.r (.n .nil))))) (aR rfl (aO [_] rfl rfl isAgg73 sizeOf73 (bK rfl rfl)))),aA (.cons _ (.cons _ (.refl _))) (.refl _),⟨(.mk 2 0 x6 []),k6,u6,e6,rfl,(hr6.map (f:=fun n=>aH.mk 2 0 n [])).eq (fun _=>by unfold bL jW;rw [if_neg (ha1 rfl),if_pos ha4,if_pos ha4];rfl),hk6,he6,rfl⟩⟩
 refine go 7 ?_
 refine wcQ rfl call51 rfl (bD0 (_::_::A) _ _ _ l k b e ns dp [45] (by decide) hok hk) ?_
 rintro t8 s8 (⟨rfl,ha8,rfl,rfl⟩|⟨ha8,rfl,rfl⟩)
 ·refine go 18 ?_
  refine wcQ rfl call51 rfl (bD0 (_::_::A) _ _ _ l k b 0 ns dp [45] (by decide) hok hk) ?_
  rintro t10 s10 (⟨-,ha10,rfl,rfl⟩|⟨ha10,rfl,rfl⟩)
  ·refine go 11 ?_
   refine wcQ rfl call191 rfl (bEe (_::_::A) _ _ _ l k b 0 ns dp (by omega) (by omega)) ?_
   rintro t12 s12 ⟨rfl,rfl⟩
   refine go 9 ?_
   refine wcp true rfl (by simp [bC]) (go 5 ?_)
   have hm:=eF hok.last hk ha10
   refine go 4 ?_
   refine wad rfl (go 7 ?_)
   refine wcQ rfl call159 rfl (iho (_::_::A) _ _ _ (k+1) b 0 (ns+1) dp (by omega) hm (by decide)) ?_
   rintro t14 s14 ⟨x14,k14,u14,e14,rfl,hr14,hk14,he14,rfl⟩
   refine wo rfl (bDk bDs rfl (.cons rfl .nil) (aV fO cU x14 (fP _) rfl rfl) ?_)
   refine go 9 ?_
   refine wyz rfl (cI ((ns:Nat):Int) rfl rfl rfl (by omega) (by omega) (by omega)) (go 13 ?_)
   exact ⟨.inr rfl,_,(RSt A B rw P l (k14) (u14) (e14) (ns) (dp)),(aR rfl (aO [_] rfl rfl isAgg73 sizeOf73 (bK rfl rfl))),aA (.cons _ (.cons _ (.refl _))) (.refl _),⟨(.mk 3 0 aK [x14]),k14,u14,e14,rfl,(hr14.map (f:=fun x=>aH.mk 3 0 aK [x])).eq (fun _=>by rw [bL.eq_2,if_neg (ha1 rfl),if_neg (ha4 rfl),if_pos ha8,bEg]),hk14,he14,rfl⟩⟩
  exact absurd (ha10 rfl) (by rw [ha8];decide)
 refine go 2 ?_
 refine wcQ rfl call51 rfl (bD0 (_::_::A) _ _ _ l k b e ns dp [33] (by decide) hok hk) ?_
 rintro t15 s15 (⟨rfl,ha15,rfl,rfl⟩|⟨ha15,rfl,rfl⟩)
 ·refine go 15 ?_
  refine wcQ rfl call51 rfl (bD0 (_::_::A) _ _ _ l k b 0 ns dp [45] (by decide) hok hk) ?_
  rintro t17 s17 (⟨-,ha17,rfl,rfl⟩|⟨ha17,rfl,rfl⟩)
  ·exact absurd ha17 (by rw [(ha8 rfl)];decide)
  refine go 8 ?_
  refine wcQ rfl call191 rfl (bEe (_::_::A) _ _ _ l k b 0 ns dp (by omega) (by omega)) ?_
  rintro t19 s19 ⟨rfl,rfl⟩
  refine go 9 ?_
  refine wcp true rfl (by simp [bC]) (go 5 ?_)
  have hm:=eF hok.last hk ha15
  refine go 4 ?_
  refine wad rfl (go 7 ?_)
  refine wcQ rfl call159 rfl (iho (_::_::A) _ _ _ (k+1) b 0 (ns+1) dp (by omega) hm (by decide)) ?_
  rintro t21 s21 ⟨x21,k21,u21,e21,rfl,hr21,hk21,he21,rfl⟩
  refine wo rfl (bDk bDs rfl (.cons rfl .nil) (aV fO cU x21 (fP _) rfl rfl) ?_)
  refine go 9 ?_
  refine wyz rfl (cI ((ns:Nat):Int) rfl rfl rfl (by omega) (by omega) (by omega)) (go 13 ?_)
  exact ⟨.inr rfl,_,(RSt A B rw P l (k21) (u21) (e21) (ns) (dp)),(aR rfl (aO [_] rfl rfl isAgg73 sizeOf73 (bK rfl rfl))),aA (.cons _ (.cons _ (.refl _))) (.refl _),⟨(.mk 4 0 aK [x21]),k21,u21,e21,rfl,(hr21.map (f:=fun x=>aH.mk 4 0 aK [x])).eq (fun _=>by rw [bL.eq_2,if_neg (ha1 rfl),if_neg (ha4 rfl),if_neg (by rw [ha17 rfl];decide),if_pos ha15,bEg]),hk21,he21,rfl⟩⟩
 refine go 8 ?_
 refine wcQ rfl call51 rfl (bD0 (_::_::A) _ _ _ l k b e ns dp [40] (by decide) hok hk) ?_
 rintro t23 s23 (⟨rfl,ha23,rfl,rfl⟩|⟨ha23,rfl,rfl⟩)
 ·refine go 7 ?_
  refine wcQ rfl call191 rfl (bEe (_::_::A) _ _ _ l k b 0 ns dp (by omega) (by omega)) ?_
  rintro t25 s25 ⟨rfl,rfl⟩
  refine go 9 ?_
  refine wcp true rfl (by simp [bC]) (go 5 ?_)
  have hm:=eF hok.last hk ha23
  refine go 4 ?_
  refine wad rfl (go 8 ?_)
  refine wcQ rfl call125 rfl (ihb (_::_::A) _ _ _ (k+1) b 0 (ns+1) dp (by omega) hm (by decide)) ?_
  rintro t27 s27 ⟨x27,k27,u27,e27,rfl,hr27,hk27,he27,rfl⟩
  refine go 5 ?_
  refine wcQ rfl call86 rfl (bZx (_::_::A) _ _ _ l k27 u27 e27 (ns+1) dp [41] (by decide) hok hk27 he27) ?_
  rintro t28 s28 ⟨x28,k28,u28,e28,rfl,hr28,hk28,he28,rfl⟩
  refine go 7 ?_
  refine wyz rfl (cI ((ns:Nat):Int) rfl rfl rfl (by omega) (by omega) (by omega)) (go 13 ?_)
  exact ⟨.inr rfl,_,(RSt A B rw P l (k28) (u28) (e28) (ns) (dp)),(aR rfl (aO [_] rfl rfl isAgg73 sizeOf73 (bK rfl rfl))),aA (.cons _ (.cons _ (.refl _))) (.refl _),⟨x27,k28,u28,e28,rfl,(hr27.bind (f:=fun x k=>(fD l [41] k).bind fun _ k=>.ok x k) (hr28.map (f:=fun _=>x27))).eq (fun _=>by rw [bL.eq_2,if_neg (ha1 rfl),if_neg (ha4 rfl),if_neg (by rw [ha8 rfl];decide),if_neg (by rw [ha15 rfl];decide),if_pos ha23,bE1]),hk28,he28,rfl⟩⟩
 refine go 6 ?_
 refine wcQ rfl call52 rfl (bEa (_::_::A) _ _ _ l k b e ns dp 4) ?_
 rintro t30 s30 ⟨u30,e30,hf30,rfl,rfl⟩
 refine go 10 ?_
 exact ⟨.inr rfl,_,(RSt A B rw P l (k) (u30) (e30) (ns) (dp)),(eK (Wk.agg (.r (.r (.r (.n .nil))))) (aR rfl (aO [_] rfl rfl isAgg73 sizeOf73 (bK rfl rfl)))),aA (.cons _ (.cons _ (.refl _))) (.refl _),⟨aH.zero,k,u30,e30,rfl,hf30.run (by decide) (fun h=>by unfold bL;rw [if_neg (ha1 h),if_neg (ha4 h),if_neg (by rw [ha8 h];decide),if_neg (by rw [ha15 h];decide),if_neg (by rw [ha23 h];decide)]) _ _,hk,(hf30.small he (by decide)),rfl⟩⟩
end
section
open Go.RowKit
theorem bFa{l:List Tok}(h:TOk l){k lv j:Nat}(hk:k<l.length)(hlv:lv<5)(hj:j<(jP lv).length)(ha:cAf l k (jP lv)[j]=true):(bU l k).kind=4 /\ (binOp (bU l k).text).2=lv+1 /\ ∀h':j<(dS lv).length,((binOp (bU l k).text).1:Int)=(dS lv)[j]:=by
 unfold cAf at ha
 simp only [Bool.and_eq_true,Bool.or_eq_true,decide_eq_true_eq] at ha
 obtain ⟨h1,h2⟩:=ha
 have h4:(bU l k).kind=4:=by
  rcases h1 with h1|h1
  ·exact h1
  have:=(h.reg _ (getElem_mem hk)).1 (by rw [←bG hk];exact h1)
  rw [←bG hk,h2,bEs lv hlv j hj] at this;cases this
 rw [h2]
 have hO:j<(dS lv).length:=by rw [(aKy lv).1];exact hj
 exact ⟨h4,(bEn lv hlv j hj hO).2,fun h'=>(bEn lv hlv j hj h').1⟩
theorem bE7{l:List Tok}{k lv:Nat}(hlv:lv<5)(h:∀j (hj:j<(jP lv).length),cAf l k (jP lv)[j]=false):¬((bU l k).kind=4 /\ (binOp (bU l k).text).2=lv+1):=by
 rintro ⟨h1,h2⟩
 obtain ⟨j,hj,he⟩:=List.getElem_of_mem (bEz lv hlv _ h2)
 have:=h j hj
 unfold cAf at this
 rw [he] at this
 simp [h1] at this
def bFk(l:List Tok)(sub:Nat -> bN aH)(lv e0 b0 k0:Nat)(x:aH)(k b e n:Nat):Prop:=
 (e=0 -> l.length<n+k) /\ ∀z k' b' e',kX e b (fR l sub (lv+1) n x k) z k' b' e' -> kX e0 b0 ((sub k0).bind fun x k=>fR l sub (lv+1) (l.length+1) x k) z k' b' e'
theorem bE9(A B:List Box)(rw:List bA)(P:Nat)(l:List Tok)(k b e ns dp:Nat)(sub:Nat -> bN aH)(hok:TOk l)(hk:k<l.length)(he:e<16)(iho:∀(A B:List Box)(rw:List bA)(P k b e:Nat),k<l.length -> e<16 -> aL prog 159 [pP P] [P] (RSt A B rw P l k b e ns dp) (RAn A B rw P l ns dp (fun x=>.agg (cU x)) e b (sub k))):aL prog 125 [pP P,.c (.val (.int .i64 5))] [P] (RSt A B rw P l k b e ns dp) fun t s=>RAn A B rw P l ns dp (fun x=>.agg (cU x)) e b (sub k) t s:=by
 have hlen:=hok.len
 refine acB func125 rfl ?_
 show AWp prog _ ⟨52,[P],⟨A++⟨P,112,[.sl l.length (l.flatMap aW),nC k,nC b,nC e,nC ns,nC dp]⟩::B,rw⟩,[(0,pP P),(1,.c (.val (.int .i64 5)))]⟩ _
 refine go 9 fun b1=>?_
 refine wcp true rfl rfl (go 6 ?_)
 refine wcQ rfl call159 rfl (iho (_::A) _ _ _ k b e hk he) ?_
 rintro t2 s2 ⟨x2,k2,u2,e2,rfl,hr2,hk2,he2,rfl⟩
 refine go 5 ?_
 exact ⟨.inr rfl,_,(RSt A B rw P l (k2) (u2) (e2) (ns) (dp)),(aR rfl (aO [] rfl rfl isAgg73 sizeOf73 (bK rfl rfl))),aA (.cons _ (.refl _)) (.refl _),⟨x2,k2,u2,e2,rfl,hr2,hk2,he2,rfl⟩⟩
theorem bE4(A B:List Box)(rw:List bA)(P:Nat)(l:List Tok)(k b e ns dp:Nat)(lv:Nat)(sub:Nat -> bN aH)(hlv:lv<5)(hin:∀k,k<l.length -> (sub k).In l k)(hok:TOk l)(hk:k<l.length)(he:e<16)(ihb:∀(A B:List Box)(rw:List bA)(P k b e:Nat),k<l.length -> e<16 -> aL prog 125 [pP P,.c (.val (.int .i64 ((lv:Nat)+1:Int)))] [P] (RSt A B rw P l k b e ns dp) (RAn A B rw P l ns dp (fun x=>.agg (cU x)) e b (sub k))):aL prog 125 [pP P,.c (.val (.int .i64 (lv:Int)))] [P] (RSt A B rw P l k b e ns dp) fun t s=>RAn A B rw P l ns dp (fun x=>.agg (cU x)) e b ((sub k).bind fun x k=>fR l sub (lv+1) (l.length+1) x k) t s:=by
 have hlen:=hok.len
 refine acB func125 rfl ?_
 show AWp prog _ ⟨52,[P],⟨A++⟨P,112,[.sl l.length (l.flatMap aW),nC k,nC b,nC e,nC ns,nC dp]⟩::B,rw⟩,[(0,pP P),(1,nI lv)]⟩ _
 refine go 9 fun b1=>?_
 refine wcp false rfl (by simp [bC];omega) (go 9 ?_)
 refine wad rfl ?_
 refine wcQ rfl call125 rfl (ihb (_::A) _ _ _ k b e hk he) ?_
 rintro t2 s2 ⟨x2,k2,u2,e2,rfl,hr2,hk2,he2,rfl⟩
 refine go 7 fun b2=>?_
 refine wo rfl (bD [] rfl rfl (by decide) call160 rfl (aO6 lv hlv _) bDl bDl (fun _=>bDl) ?_)
 rintro t3 s3 ⟨rfl,rfl⟩
 refine go 14 ?_
 refine fM (fun g:Bool×aH×Nat×Nat×Nat=>(⟨52,[b2,b1,P],⟨⟨b2,73,cU (g.2.1)⟩::⟨b1,73,[.val (.int .i64 0),.val (.int .i64 0),.val (.string ⟨#[]⟩),.val (.slice none 0 0)]⟩::(A++⟨P,112,[.sl l.length (l.flatMap aW),.val (.int .i64 (((g.2.2.1):Nat):Int)),.val (.int .i64 (((g.2.2.2.1):Nat):Int)),.val (.int .i64 (((g.2.2.2.2):Nat):Int)),nC ns,nC dp]⟩::B),rw⟩,[(8,.c (.val (.bool g.1))),(0,pP P),(1,nI lv),(4,pP b1),(5,pP b2),(6,.c (aF6 (jP lv))),(7,.c (aEm (dS lv)))]⟩:AS)) (fun g=>g.2.2.1<l.length /\ g.2.2.2.2<16 /\ (g.1=true -> ∃n,bFk l sub lv e b k g.2.1 g.2.2.1 g.2.2.2.1 g.2.2.2.2 n) /\ (g.1=false -> kX e b ((sub k).bind fun x k=>fR l sub (lv+1) (l.length+1) x k) g.2.1 g.2.2.1 g.2.2.2.1 g.2.2.2.2)) (fun g=>if g.1 then (if g.2.2.2.2=0 then l.length-g.2.2.1+2 else 1) else 0) (true,x2,k2,u2,e2) (cA (.refl _) (.refl _) (fun _ h=>h) (sA rfl)) ⟨hk2,he2,fun _=>⟨l.length+1,fun _=>by omega,fun z k' b' e' h=>hr2.bind h⟩,(fun h=>nomatch h)⟩ ?_
 rintro ⟨ag0,x0,k0,b0,e0⟩ ⟨hk0,he0,hc0,hd0⟩
 dsimp only at hk0 he0 hc0 hd0
 show AWp prog _ (⟨52,[b2,b1,P],⟨⟨b2,73,cU (x0)⟩::⟨b1,73,[.val (.int .i64 0),.val (.int .i64 0),.val (.string ⟨#[]⟩),.val (.slice none 0 0)]⟩::(A++⟨P,112,[.sl l.length (l.flatMap aW),.val (.int .i64 (((k0):Nat):Int)),.val (.int .i64 (((b0):Nat):Int)),.val (.int .i64 (((e0):Nat):Int)),nC ns,nC dp]⟩::B),rw⟩,[(8,.c (.val (.bool ag0))),(0,pP P),(1,nI lv),(4,pP b1),(5,pP b2),(6,.c (aF6 (jP lv))),(7,.c (aEm (dS lv)))]⟩:AS) _
 cases ag0
 ·refine go 19 ?_
  exact ⟨.inr rfl,_,(RSt A B rw P l (k0) (b0) (e0) (ns) (dp)),(aR rfl (aO [_] rfl rfl isAgg73 sizeOf73 (bK rfl rfl))),aA (.cons _ (.cons _ (.refl _))) (.refl _),⟨x0,k0,b0,e0,rfl,hd0 rfl,hk0,he0,rfl⟩⟩
 refine go 21 ?_
 obtain ⟨n0,hn0,hcont⟩:=hc0 rfl
 refine fM (fun g:Nat×Bool×aH×Nat×Nat×Nat=>(⟨52,[b2,b1,P],⟨⟨b2,73,cU (g.2.2.1)⟩::⟨b1,73,[.val (.int .i64 0),.val (.int .i64 0),.val (.string ⟨#[]⟩),.val (.slice none 0 0)]⟩::(A++⟨P,112,[.sl l.length (l.flatMap aW),.val (.int .i64 (((g.2.2.2.1):Nat):Int)),.val (.int .i64 (((g.2.2.2.2.1):Nat):Int)),.val (.int .i64 (((g.2.2.2.2.2):Nat):Int)),nC ns,nC dp]⟩::B),rw⟩,[(9,nI (g.1)),(8,.c (.val (.bool g.2.1))),(0,pP P),(1,nI lv),(4,pP b1),(5,pP b2),(6,.c (aF6 (jP lv))),(7,.c (aEm (dS lv)))]⟩:AS)) (fun g=>g.1 <= (jP lv).length /\ (g.2.1=false -> g.2.2=(x0,k0,b0,e0) /\ (e0=0 -> ∀j (hj:j<(jP lv).length),j<g.1 -> cAf l k0 (jP lv)[j]=false)) /\ (g.2.1=true -> e0=0 /\ g.2.2.2.1<l.length /\ g.2.2.2.2.2<16 /\ (g.2.2.2.2.2=0 -> k0<g.2.2.2.1) /\ ∃n,bFk l sub lv e b k g.2.2.1 g.2.2.2.1 g.2.2.2.2.1 g.2.2.2.2.2 n)) (fun g=>(jP lv).length-g.1) (0,false,x0,k0,b0,e0) (cA (.refl _) (.refl _) (fun _ h=>h) (sA rfl)) ⟨Nat.zero_le _,fun _=>⟨rfl,fun _ j _ h=>by omega⟩,(fun h=>nomatch h)⟩ ?_
 rintro ⟨i,ag,x1,k1,b1',e1⟩ ⟨hi0,hf0,ht0⟩
 dsimp only at hi0 hf0 ht0
 have hsl:=aKy lv
 cases ag
 ·by_cases hlt:i<(jP lv).length
  ·obtain ⟨hq,hno⟩:=hf0 rfl
   obtain ⟨rfl,rfl,rfl,rfl⟩:x1=x0 /\ k1=k0 /\ b1'=b0 /\ e1=e0:=by simpa using hq
   clear hq hf0 ht0
   show AWp prog _ (⟨52,[b2,b1,P],⟨⟨b2,73,cU (x1)⟩::⟨b1,73,[.val (.int .i64 0),.val (.int .i64 0),.val (.string ⟨#[]⟩),.val (.slice none 0 0)]⟩::(A++⟨P,112,[.sl l.length (l.flatMap aW),.val (.int .i64 (((k1):Nat):Int)),.val (.int .i64 (((b1'):Nat):Int)),.val (.int .i64 (((e1):Nat):Int)),nC ns,nC dp]⟩::B),rw⟩,[(9,nI (i)),(8,.c (.val (.bool false))),(0,pP P),(1,nI lv),(4,pP b1),(5,pP b2),(6,.c (aF6 (jP lv))),(7,.c (aEm (dS lv)))]⟩:AS) _
   refine go 6 ?_
   refine wcp true rfl (by simp [bC,hlt]) (go 16 ?_)
   refine wyz rfl (rT (fun s=>.val (.string s)) (jP lv) i rfl rfl rfl rfl hlt runUnderlying50 sizeOf9) (go 1 ?_)
   refine wcQ rfl call53 rfl (bEu (_::_::A) _ _ _ l k1 b1' e1 ns dp (jP lv)[i] hok hk0) ?_
   rintro t7 s7 (⟨rfl,ha,hm,rfl,rfl⟩|⟨hna7,rfl,rfl⟩)
   ·refine go 3 ?_
    refine dx [b1] (tz [(0,true),(1,true)] 11 (go 3 ?_))
    refine tx 2 rfl (rT (fun n=>.val (.int .i64 n)) (dS lv) i rfl rfl rfl rfl (by omega) runUnderlying22 sizeOf3) (tz [(3,true),(5,true),(6,true)] 7 (go 4 ?_))
    refine tx 7 rfl (bB rfl rfl rfl (by omega) (by omega)) ?_
    refine t2 4 8 rfl ?_ ?_
    ·refine way rfl (by decide) (aX [] rfl rfl rfl isAgg73 sizeOf73 rfl (fun _ h=>by cases h)) ?_
     refine ox 8 rfl rfl (bD [P] rfl rfl (by decide) call125 rfl (ihb (_::_::A) _ _ _ ((k1+1)) b1' 0 hm (by decide)) (by intro b hb;simp at hb;subst hb;simp) (by intro b hb;simp at hb;subst hb;simp [Sto.bl]) (by intro h b hb;simp at hb;subst hb;exact kH.2 ⟨by simp [Sto.bl],fun hh=>by simp only [mem_cons,not_mem_nil,or_false] at hh;rcases hh with rfl<;>simp [Sto.bl] at h⟩) ?_)
     rintro t9 s9 ⟨x9,k9,u9,e9,rfl,hr9,hk9,he9,rfl⟩
     refine ox 9 rfl rfl (bDk zb9 rfl (.cons rfl (.cons rfl .nil)) (aEp fO cU x1 x9 fP rfl (fun _=>rfl)) ?_)
     refine tz [(10,true),(11,false),(12,true)] 0 (go 4 ?_)
     refine ax (go 4 ?_)
     refine wad rfl (go 2 ?_)
     obtain ⟨h4,hlv2,hop⟩:=bFa hok hk0 hlv hlt ha
     have hin2:=hin (k1+1) hm
     refine ⟨(i+1,true,.mk (dS lv)[i] 0 aK [x1,x9],k9,u9,e9),⟨by show i+1 <= _;omega,(fun h=>nomatch h),fun _=>⟨rfl,hk9,he9,fun h0=>?_,n0-1,fun h0=>?_,fun z k' b' e' h=>hcont z k' b' e' ?_⟩⟩,by show (jP lv).length-(i+1)<(jP lv).length-i;omega,cA (.refl _) (.refl _) (fun _ h=>h) (sA rfl)⟩
     ·have hg:=hr9.good h0
      rw [hg.2.1] at hin2
      show k1<k9
      have:=hin2.1;omega
     ·have hg:=hr9.good h0
      rw [hg.2.1] at hin2
      have h1:=hin2.1
      have h2:=hn0 rfl
      show l.length<n0-1+k9
      omega
     obtain ⟨m,rfl⟩:∃m,n0=m+1:=⟨n0-1,by have:=hn0 rfl;omega⟩
     rw [fR,if_pos ⟨h4,hlv2⟩]
     refine (hr9.bind (f:=fun y k=>fR l sub (lv+1) m (.mk (dS lv)[i] 0 aK [x1,y]) k) h).eq fun _=>?_
     rw [hop (by omega)]
     cases sub (k1+1)<;>rfl
    refine (bD [P] rfl rfl (by decide) call125 rfl (ihb (_::_::A) _ _ _ ((k1+1)) b1' 0 hm (by decide)) (by intro b hb;simp at hb;subst hb;simp) (by intro b hb;simp at hb;subst hb;simp [Sto.bl]) (by intro h b hb;simp at hb;subst hb;exact kH.2 ⟨by simp [Sto.bl],fun hh=>by simp only [mem_cons,not_mem_nil,or_false] at hh;rcases hh with rfl<;>simp [Sto.bl] at h⟩) ?_)
    rintro t10 s10 ⟨x10,k10,u10,e10,rfl,hr10,hk10,he10,rfl⟩
    refine ox 4 rfl rfl (way rfl (by decide) (aX [] rfl rfl rfl isAgg73 sizeOf73 rfl (fun _ h=>by cases h)) ?_)
    refine ox 9 rfl rfl (bDk zb9 rfl (.cons rfl (.cons rfl .nil)) (aEp fO cU x1 x10 fP rfl (fun _=>rfl)) ?_)
    refine tz [(10,true),(11,false),(12,true)] 0 (go 4 ?_)
    refine ax (go 4 ?_)
    refine wad rfl (go 2 ?_)
    obtain ⟨h4,hlv2,hop⟩:=bFa hok hk0 hlv hlt ha
    have hin2:=hin (k1+1) hm
    refine ⟨(i+1,true,.mk (dS lv)[i] 0 aK [x1,x10],k10,u10,e10),⟨by show i+1 <= _;omega,(fun h=>nomatch h),fun _=>⟨rfl,hk10,he10,fun h0=>?_,n0-1,fun h0=>?_,fun z k' b' e' h=>hcont z k' b' e' ?_⟩⟩,by show (jP lv).length-(i+1)<(jP lv).length-i;omega,cA (.refl _) (.refl _) (fun _ h=>h) (sA rfl)⟩
    ·have hg:=hr10.good h0
     rw [hg.2.1] at hin2
     show k1<k10
     have:=hin2.1;omega
    ·have hg:=hr10.good h0
     rw [hg.2.1] at hin2
     have h1:=hin2.1
     have h2:=hn0 rfl
     show l.length<n0-1+k10
     omega
    obtain ⟨m,rfl⟩:∃m,n0=m+1:=⟨n0-1,by have:=hn0 rfl;omega⟩
    rw [fR,if_pos ⟨h4,hlv2⟩]
    refine (hr10.bind (f:=fun y k=>fR l sub (lv+1) m (.mk (dS lv)[i] 0 aK [x1,y]) k) h).eq fun _=>?_
    rw [hop (by omega)]
    cases sub (k1+1)<;>rfl
   have hno2:e1=0 -> cAf l k1 (jP lv)[i]=false:=fun h0=>by cases hh:cAf l k1 (jP lv)[i] with|false=>rfl|true=>exact absurd ⟨h0,hh⟩ hna7
   refine go 8 ?_
   refine wad rfl (go 2 ?_)
   refine ⟨(i+1,false,x1,k1,b1',e1),⟨by show i+1 <= _;omega,fun _=>⟨rfl,fun h0 j hj hji=>?_⟩,(fun h=>nomatch h)⟩,by show (jP lv).length-(i+1)<(jP lv).length-i;omega,cA (.refl _) (.refl _) (fun _ h=>h) (sA rfl)⟩
   have hji2:j<i+1:=hji
   rcases Nat.lt_or_ge j i with h|h
   ·exact hno h0 j hj h
   obtain rfl:j=i:=by omega
   exact hno2 h0
  obtain ⟨hq,hno⟩:=hf0 rfl
  obtain ⟨rfl,rfl,rfl,rfl⟩:x1=x0 /\ k1=k0 /\ b1'=b0 /\ e1=e0:=by simpa using hq
  clear hq hf0 ht0
  show AWp prog _ (⟨52,[b2,b1,P],⟨⟨b2,73,cU (x1)⟩::⟨b1,73,[.val (.int .i64 0),.val (.int .i64 0),.val (.string ⟨#[]⟩),.val (.slice none 0 0)]⟩::(A++⟨P,112,[.sl l.length (l.flatMap aW),.val (.int .i64 (((k1):Nat):Int)),.val (.int .i64 (((b1'):Nat):Int)),.val (.int .i64 (((e1):Nat):Int)),nC ns,nC dp]⟩::B),rw⟩,[(9,nI (i)),(8,.c (.val (.bool false))),(0,pP P),(1,nI lv),(4,pP b1),(5,pP b2),(6,.c (aF6 (jP lv))),(7,.c (aEm (dS lv)))]⟩:AS) _
  obtain rfl:i=(jP lv).length:=by omega
  refine go 6 ?_
  refine wcp false rfl (by simp [bC]) (go 8 ?_)
  have hfin:kX e b ((sub k).bind fun x k=>fR l sub (lv+1) (l.length+1) x k) x1 k1 b1' e1:=by
   refine hcont x1 k1 b1' e1 ?_
   by_cases h0:e1=0
   ·subst h0
    obtain ⟨m,rfl⟩:∃m,n0=m+1:=⟨n0-1,by have:=hn0 rfl;omega⟩
    rw [fR,if_neg (bE7 hlv fun j hj=>hno rfl j hj hj)]
    exact kX.pure _ _ _ _
   exact .skip h0 _ _ _
  refine go 4 ?_
  exact ⟨(false,x1,k1,b1',e1),⟨hk0,he0,(fun h=>nomatch h),fun _=>hfin⟩,by simp only [if_true,Bool.false_eq_true,if_false];split<;>omega,cA (.refl _) (.refl _) (fun _ h=>h) (sA rfl)⟩
 by_cases hlt:i<(jP lv).length
 ·obtain ⟨rfl,hk1,he1,hgt,n1,hb1⟩:=ht0 rfl
  clear hf0 ht0
  show AWp prog _ (⟨52,[b2,b1,P],⟨⟨b2,73,cU (x1)⟩::⟨b1,73,[.val (.int .i64 0),.val (.int .i64 0),.val (.string ⟨#[]⟩),.val (.slice none 0 0)]⟩::(A++⟨P,112,[.sl l.length (l.flatMap aW),.val (.int .i64 (((k1):Nat):Int)),.val (.int .i64 (((b1'):Nat):Int)),.val (.int .i64 (((e1):Nat):Int)),nC ns,nC dp]⟩::B),rw⟩,[(9,nI (i)),(8,.c (.val (.bool true))),(0,pP P),(1,nI lv),(4,pP b1),(5,pP b2),(6,.c (aF6 (jP lv))),(7,.c (aEm (dS lv)))]⟩:AS) _
  refine go 6 ?_
  refine wcp true rfl (by simp [bC,hlt]) (go 8 ?_)
  have hmu:(if true=true then (if e1=0 then l.length-k1+2 else 1) else 0)<(if true=true then (if (0:Nat)=0 then l.length-k0+2 else 1) else 0):=by
   simp only [if_true]
   by_cases h0:e1=0
   ·have:=hgt h0;rw [if_pos h0];omega
   rw [if_neg h0];omega
  refine go 4 ?_
  exact ⟨(true,x1,k1,b1',e1),⟨hk1,he1,fun _=>⟨_,hb1⟩,(fun h=>nomatch h)⟩,hmu,cA (.refl _) (.refl _) (fun _ h=>h) (sA rfl)⟩
 obtain ⟨rfl,hk1,he1,hgt,n1,hb1⟩:=ht0 rfl
 clear hf0 ht0
 show AWp prog _ (⟨52,[b2,b1,P],⟨⟨b2,73,cU (x1)⟩::⟨b1,73,[.val (.int .i64 0),.val (.int .i64 0),.val (.string ⟨#[]⟩),.val (.slice none 0 0)]⟩::(A++⟨P,112,[.sl l.length (l.flatMap aW),.val (.int .i64 (((k1):Nat):Int)),.val (.int .i64 (((b1'):Nat):Int)),.val (.int .i64 (((e1):Nat):Int)),nC ns,nC dp]⟩::B),rw⟩,[(9,nI (i)),(8,.c (.val (.bool true))),(0,pP P),(1,nI lv),(4,pP b1),(5,pP b2),(6,.c (aF6 (jP lv))),(7,.c (aEm (dS lv)))]⟩:AS) _
 refine go 6 ?_
 refine wcp false rfl (by simp [bC,hlt]) (go 8 ?_)
 have hmu:(if true=true then (if e1=0 then l.length-k1+2 else 1) else 0)<(if true=true then (if (0:Nat)=0 then l.length-k0+2 else 1) else 0):=by
  simp only [if_true]
  by_cases h0:e1=0
  ·have:=hgt h0;rw [if_pos h0];omega
  rw [if_neg h0];omega
 refine go 4 ?_
 exact ⟨(true,x1,k1,b1',e1),⟨hk1,he1,fun _=>⟨_,hb1⟩,(fun h=>nomatch h)⟩,hmu,cA (.refl _) (.refl _) (fun _ h=>h) (sA rfl)⟩
theorem bEk(l:List Tok)(hok:TOk l)(d:Nat)(iho:∀(A B:List Box)(rw:List bA)(P:Nat)(k b e dp:Nat),k<l.length -> e<16 -> aL prog 159 [pP P] [P] (RSt A B rw P l k b e (24-d) dp) (RAn A B rw P l (24-d) dp (fun x=>.agg (cU x)) e b (bL l d k))):∀(j:Nat),j <= 5 -> ∀(A B:List Box)(rw:List bA)(P:Nat)(k b e dp:Nat),k<l.length -> e<16 -> aL prog 125 [pP P,.c (.val (.int .i64 ((5-j:Nat):Int)))] [P] (RSt A B rw P l k b e (24-d) dp) (RAn A B rw P l (24-d) dp (fun x=>.agg (cU x)) e b (gS l (bL l d) j k))
 |0,_,A,B,rw,P,k,b,e,dp,hk,he=>(bE9 A B rw P l k b e (24-d) dp (bL l d) hok hk he fun A B rw P k b e hk he=>iho A B rw P k b e dp hk he)
 |j+1,hj,A,B,rw,P,k,b,e,dp,hk,he=>by
  have h:=bE4 A B rw P l k b e (24-d) dp (5-(j+1)) (gS l (bL l d) j) (by omega) (fun k hk=>vV hok.last (fun k hk=>nP hok.last d k hk) j k hk) hok hk he (fun A B rw P k b e hk he=>by
   have h9:=bEk l hok d iho j (by omega) A B rw P k b e dp hk he
   have e1:(((5-(j+1):Nat):Int)+1)=((5-j:Nat):Int):=by omega
   rw [e1];exact h9)
  have e2:gS l (bL l d) (j+1) k=(gS l (bL l d) j k).bind fun x k=>fR l (gS l (bL l d) j) (5-(j+1)+1) (l.length+1) x k:=by
   rw [gS,show 5-(j+1)+1=5-j by omega]
   cases gS l (bL l d) j k<;>rfl
  rw [e2];exact h
theorem bD3(l:List Tok)(hok:TOk l):∀(d:Nat),d <= 24 -> ∀(A B:List Box)(rw:List bA)(P:Nat)(k b e dp:Nat),k<l.length -> e<16 -> aL prog 159 [pP P] [P] (RSt A B rw P l k b e (24-d) dp) (RAn A B rw P l (24-d) dp (fun x=>.agg (cU x)) e b (bL l d k))
 |0,_,A,B,rw,P,k,b,e,dp,hk,he=>bEx A B rw P l k b e dp hok hk he
 |d+1,hd,A,B,rw,P,k,b,e,dp,hk,he=>bE0 A B rw P l k b e (24-(d+1)) dp d (by omega) hok hk he
   (fun A B rw P k b e ns dp hns hk he=>by
    obtain rfl:ns=24-d:=by omega
    exact bD3 l hok d (by omega) A B rw P k b e dp hk he)
   (fun A B rw P k b e ns dp hns hk he=>by
    obtain rfl:ns=24-d:=by omega
    exact bEk l hok d (bD3 l hok d (by omega)) 5 (Nat.le_refl _) A B rw P k b e dp hk he)
theorem bD9(A B:List Box)(rw:List bA)(P:Nat)(l:List Tok)(k b e dp:Nat)(hok:TOk l)(hk:k<l.length)(he:e<16):aL prog 125 [pP P,.c (.val (.int .i64 0))] [P] (RSt A B rw P l k b e 0 dp) (RAn A B rw P l 0 dp (fun x=>.agg (cU x)) e b (lJ l k)):=
 bEk l hok 24 (bD3 l hok 24 (Nat.le_refl _)) 5 (Nat.le_refl _) A B rw P k b e dp hk he
end
end Go.Proofs.YtojinfngbbajgaaGreatDoor
