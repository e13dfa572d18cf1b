import Derived.Test.YtojinfngbbajgaaGreatDoorK5J
import Derived.Test.YtojinfngbbajgaaGreatDoorK28J
set_option linter.all false
set_option synthInstance.maxHeartbeats 1000000
set_option synthInstance.maxSize 1000000
set_option maxHeartbeats 1600000
set_option maxRecDepth 100000
namespace Go.Proofs.YtojinfngbbajgaaGreatDoor
open Go.Proofs.Tryz
open List (length_append length_cons length_nil mem_append mem_cons not_mem_nil append_assoc getElem_mem take_of_length_le)
section
open Go.RowKit
theorem aK6(A B:List Box)(rw:List bA)(P:Nat)(l:List Tok)(k e:Nat)(hok:TOk l)(hk:k<l.length)(he:e<16):aL prog 109 [pP P] [P] (PSt A B rw P l k 24 e) (PAn A B rw P l 24 (fun x=>.c (.sl x.length (x.flatMap encS))) e k (vM l 0 k)):=by
 have hlen:=hok.len
 refine acB func109 rfl ?_
 show AWp prog _ ⟨47,[P],⟨A++⟨P,64,[.sl l.length (l.flatMap aW),nC k,nC 24,nC e]⟩::B,rw⟩,[(0,pP P)]⟩ _
 refine go 9 ?_
 refine wcQ rfl call65 rfl (aCz (A) _ _ _ l k 24 e [123] hk) ?_
 rintro t1 s1 (⟨rfl,ha1,rfl,rfl⟩|⟨ha1,rfl,rfl⟩)
 ·refine go 5 ?_
  refine wcp true rfl (by rfl) ?_
  refine go 6 ?_
  refine wcQ rfl call67 rfl (lX (A) _ _ _ l k 24 0 3) ?_
  rintro t3 s3 ⟨e3,hf3,rfl,rfl⟩
  obtain rfl:=hf3.1 rfl
  refine go 5 ?_
  refine wcQ rfl call105 rfl (eI (A) _ _ _ l k 24 3 [123] hok hk (by decide)) ?_
  rintro t4 s4 ⟨x4,k4,e4,rfl,hr4,hk4,he4,rfl⟩
  refine go 13 ?_
  refine wad rfl ?_
  refine go 7 ?_
  have hbad:e4≠0 /\ Run 0 k (vM l 0 k) [] k4 e4:=by
   rcases hr4 with ⟨_,rfl,rfl⟩|⟨h,_⟩
   ·exact ⟨by decide,.err _ _ _ _ (by unfold vM;rw [if_pos ha1]) (by decide)⟩
   exact absurd h (by decide)
  refine qR 78 11 ?_
  refine fM (fun g:List aJ×Value×Nat×Nat=>(⟨47,aY g.2.1++[P],⟨A++⟨P,64,[.sl l.length (l.flatMap aW),.val (.int .i64 (((g.2.2.1):Nat):Int)),.val (.int .i64 (((25):Nat):Int)),.val (.int .i64 (((g.2.2.2):Nat):Int))]⟩::B,⟨g.2.1,78,11,(g.1).length,(g.1).flatMap encS⟩::rw⟩,[(3,.c (.val g.2.1)),(0,pP P)]⟩:AS)) (fun g=>g.2.2.1<l.length /\ g.2.2.2<16 /\ g.2.2.2≠0 /\ Run 0 k (vM l 0 k) g.1 g.2.2.1 g.2.2.2) (fun g=>if g.2.2.2=0 then l.length-g.2.2.1+1 else 0) ([],.slice none 0 0,k4,e4) (cA (.refl _) (.refl _) (fun _ h=>h) (sA rfl)) ⟨hk4,he4,hbad.1,hbad.2⟩ ?_
  rintro ⟨acc,v0,k0,e0⟩ ⟨hk0,he0,hz0,hn0⟩
  dsimp only at hk0 he0 hz0 hn0
  show AWp prog _ (⟨47,aY v0++[P],⟨A++⟨P,64,[.sl l.length (l.flatMap aW),.val (.int .i64 (((k0):Nat):Int)),.val (.int .i64 (((25):Nat):Int)),.val (.int .i64 (((e0):Nat):Int))]⟩::B,⟨v0,78,11,(acc).length,(acc).flatMap encS⟩::rw⟩,[(3,.c (.val v0)),(0,pP P)]⟩:AS) _
  have h0:=hz0
  refine go 7 ?_
  refine wcp false rfl (lA h0) ?_
  refine go 19 ?_
  refine wyz rfl (cI ((24:Nat):Int) rfl rfl rfl rfl (by omega) (by omega)) ?_
  refine go 11 ?_
  refine aH0 2 rfl ?_
  refine go 1 ?_
  exact ⟨.inr rfl,_,(PSt A B rw P l (k0) (24) (e0)),(aR rfl (aF rfl)),aA (.refl _) (.refl _),⟨acc,k0,e0,rfl,hn0,hk0,he0,rfl⟩⟩
 refine go 15 ?_
 refine wcQ rfl call105 rfl (eI (A) _ _ _ l k 24 e [123] hok hk he) ?_
 rintro t7 s7 ⟨x7,k7,e7,rfl,hr7,hk7,he7,rfl⟩
 refine go 13 ?_
 refine wad rfl ?_
 refine go 7 ?_
 have hbad:e7≠0 /\ Run e k (vM l 0 k) [] k7 e7:=by
  rcases hr7 with ⟨h,rfl,rfl⟩|⟨h,h2⟩
  ·exact ⟨h,.skip h _ _⟩
  subst h
  have hq:=ha1 rfl
  have h9:fD l [123] k=.err k 4:=by unfold fD;rw [if_neg (by rw [hq];decide)]
  rw [h9] at h2
  rcases h2 with ⟨h2,_⟩|⟨h2,h3⟩
  ·cases h2
  cases h2;exact ⟨h3,.err _ _ _ _ (by unfold vM;rw [if_neg (by rw [hq];decide)]) h3⟩
 refine qR 78 11 ?_
 refine fM (fun g:List aJ×Value×Nat×Nat=>(⟨47,aY g.2.1++[P],⟨A++⟨P,64,[.sl l.length (l.flatMap aW),.val (.int .i64 (((g.2.2.1):Nat):Int)),.val (.int .i64 (((25):Nat):Int)),.val (.int .i64 (((g.2.2.2):Nat):Int))]⟩::B,⟨g.2.1,78,11,(g.1).length,(g.1).flatMap encS⟩::rw⟩,[(3,.c (.val g.2.1)),(0,pP P)]⟩:AS)) (fun g=>g.2.2.1<l.length /\ g.2.2.2<16 /\ g.2.2.2≠0 /\ Run e k (vM l 0 k) g.1 g.2.2.1 g.2.2.2) (fun g=>if g.2.2.2=0 then l.length-g.2.2.1+1 else 0) ([],.slice none 0 0,k7,e7) (cA (.refl _) (.refl _) (fun _ h=>h) (sA rfl)) ⟨hk7,he7,hbad.1,hbad.2⟩ ?_
 rintro ⟨acc,v0,k0,e0⟩ ⟨hk0,he0,hz0,hn0⟩
 dsimp only at hk0 he0 hz0 hn0
 show AWp prog _ (⟨47,aY v0++[P],⟨A++⟨P,64,[.sl l.length (l.flatMap aW),.val (.int .i64 (((k0):Nat):Int)),.val (.int .i64 (((25):Nat):Int)),.val (.int .i64 (((e0):Nat):Int))]⟩::B,⟨v0,78,11,(acc).length,(acc).flatMap encS⟩::rw⟩,[(3,.c (.val v0)),(0,pP P)]⟩:AS) _
 have h0:=hz0
 refine go 7 ?_
 refine wcp false rfl (lA h0) ?_
 refine go 19 ?_
 refine wyz rfl (cI ((24:Nat):Int) rfl rfl rfl rfl (by omega) (by omega)) ?_
 refine go 11 ?_
 refine aH0 2 rfl ?_
 refine go 1 ?_
 exact ⟨.inr rfl,_,(PSt A B rw P l (k0) (24) (e0)),(aR rfl (aF rfl)),aA (.refl _) (.refl _),⟨acc,k0,e0,rfl,hn0,hk0,he0,rfl⟩⟩
theorem aM2(A B:List Box)(rw:List bA)(P:Nat)(l:List Tok)(k e dp:Nat)(st:Nat -> bN aJ)(hdp:dp<24)(hin:∀k,k<l.length -> (st k).In l k)(hstm:∀(A B:List Box)(rw:List bA)(P k:Nat),k<l.length -> aL prog 142 [pP P] [P] (PSt A B rw P l k (dp+1) 0) (PAn A B rw P l (dp+1) (fun x=>.agg (dG x)) 0 k (st k)))(hok:TOk l)(hk:k<l.length)(he:e<16):aL prog 109 [pP P] [P] (PSt A B rw P l k dp e) (PAn A B rw P l dp (fun x=>.c (.sl x.length (x.flatMap encS))) e k ((fD l [123] k).bind fun _ k=>eS l st l.length [] k)):=by
 have hlen:=hok.len
 refine acB func109 rfl ?_
 show AWp prog _ ⟨47,[P],⟨A++⟨P,64,[.sl l.length (l.flatMap aW),nC k,nC dp,nC e]⟩::B,rw⟩,[(0,pP P)]⟩ _
 refine go 9 ?_
 refine wcQ rfl call65 rfl (aCz (A) _ _ _ l k dp e [123] hk) ?_
 rintro t1 s1 (⟨rfl,ha1,rfl,rfl⟩|⟨ha1,rfl,rfl⟩)
 ·refine go 5 ?_
  refine wcp false rfl (by simp [bC];omega) ?_
  refine go 9 ?_
  refine wcQ rfl call105 rfl (eI (A) _ _ _ l k dp 0 [123] hok hk (by decide)) ?_
  rintro t3 s3 ⟨x3,k3,e3,rfl,hr3,hk3,he3,rfl⟩
  refine go 13 ?_
  refine wad rfl ?_
  refine go 7 ?_
  refine qR 78 11 ?_
  refine fM (fun g:List aJ×Value×Nat×Nat=>(⟨47,aY g.2.1++[P],⟨A++⟨P,64,[.sl l.length (l.flatMap aW),.val (.int .i64 (((g.2.2.1):Nat):Int)),.val (.int .i64 (((dp+1):Nat):Int)),.val (.int .i64 (((g.2.2.2):Nat):Int))]⟩::B,⟨g.2.1,78,11,(g.1).length,(g.1).flatMap encS⟩::rw⟩,[(3,.c (.val g.2.1)),(0,pP P)]⟩:AS)) (fun g=>g.2.2.1<l.length /\ g.2.2.2<16 /\ (g.2.2.2=0 -> g.1.length <= g.2.2.1) /\ (g.2.2.2≠0 -> Run 0 k ((fD l [123] k).bind fun _ k=>eS l st l.length [] k) g.1 g.2.2.1 g.2.2.2) /\ (g.2.2.2=0 -> ∃n,l.length <= n+g.2.2.1 /\ ∀z k' e',Run 0 g.2.2.1 (eS l st n g.1 g.2.2.1) z k' e' -> Run 0 k ((fD l [123] k).bind fun _ k=>eS l st l.length [] k) z k' e')) (fun g=>if g.2.2.2=0 then l.length-g.2.2.1+1 else 0) ([],.slice none 0 0,k3,e3) (cA (.refl _) (.refl _) (fun _ h=>h) (sA rfl)) ⟨hk3,he3,fun _=>Nat.zero_le _,fun h=>hr3.bind (.skip h _ _),fun h=>⟨l.length,Nat.le_add_right _ _,fun z k' e' h2=>hr3.bind (by rw [show e3=0 from h];exact h2)⟩⟩ ?_
  rintro ⟨acc,v0,k0,e0⟩ ⟨hk0,he0,ha0,hn0,hc0⟩
  dsimp only at hk0 he0 ha0 hn0 hc0
  show AWp prog _ (⟨47,aY v0++[P],⟨A++⟨P,64,[.sl l.length (l.flatMap aW),.val (.int .i64 (((k0):Nat):Int)),.val (.int .i64 (((dp+1):Nat):Int)),.val (.int .i64 (((e0):Nat):Int))]⟩::B,⟨v0,78,11,(acc).length,(acc).flatMap encS⟩::rw⟩,[(3,.c (.val v0)),(0,pP P)]⟩:AS) _
  by_cases h0:e0=0
  ·subst h0
   have ha1:=ha0 rfl
   obtain ⟨n0,hn1,hcont⟩:=hc0 rfl
   refine go 7 ?_
   refine wcp true rfl (by rfl) ?_
   refine go 2 ?_
   refine wcQ rfl call103 rfl (kE (A) _ _ _ l k0 (dp+1) 0 [125] hok hk0) ?_
   rintro t4 s4 (⟨-,ha4,hm4,rfl,rfl⟩|⟨ha4,rfl,rfl⟩)
   ·refine go 16 ?_
    refine wyz rfl (cI ((dp:Nat):Int) rfl rfl rfl (by omega) (by omega) (by omega)) ?_
    refine go 11 ?_
    refine aH0 2 rfl ?_
    refine go 1 ?_
    obtain ⟨m,rfl⟩:∃m,n0=m+1:=⟨n0-1,by omega⟩
    exact ⟨.inr rfl,_,(PSt A B rw P l (k0+1) (dp) (0)),(aR rfl (aF rfl)),aA (.refl _) (.refl _),⟨acc,k0+1,0,rfl,hcont _ _ _ (by rw [eS,if_pos ha4];exact .ok _ _ _ rfl),hm4,(by decide),rfl⟩⟩
   refine go 11 ?_
   refine wcQ rfl call142 rfl (hstm (A) _ _ _ k0 hk0) ?_
   rintro t7 s7 ⟨x7,k7,e7,rfl,hr7,hk7,he7,rfl⟩
   refine wo rfl (bDk zb6 rfl (.cons rfl .nil) (aV encS dG x7 (cJ _) rfl rfl) ?_)
   refine wo rfl (bDm [] bWo rfl (by rw [List.flatMap_cons,List.flatMap_nil,List.append_nil,mE]) (by decide) (by unfold maxLen;skip;omega) (by skip;omega) (@length_append _ acc [x7]).symm (fun _ b hb=>by simp [hb]) (fun b hb=>by simp [hb]) (List.flatMap_append (f:=encS)).symm fun v8=>?_)
   refine go 3 ?_
   obtain ⟨m,rfl⟩:∃m,n0=m+1:=⟨n0-1,by omega⟩
   have hst:∀z k' e',Run e7 k7 (eS l st m (acc++[x7]) k7) z k' e' -> Run 0 k ((fD l [123] k).bind fun _ k=>eS l st l.length [] k) z k' e':=fun z k' e' h=>hcont z k' e' (by rw [eS,if_neg (by rw [ha4 rfl];decide)];exact hr7.bind h)
   have hgo:e7=0 -> k0<k7:=fun h=>by have h9:=hin k0 hk0;rw [(hr7.good h).2] at h9;exact h9.1
   refine ⟨(acc++[x7],v8,k7,e7),⟨hk7,he7,fun h=>?_,fun h=>hst _ _ _ (.skip h _ _),fun h=>⟨m,?_,fun z k' e' h2=>hst _ _ _ ?_⟩⟩,?_,cA (.refl _) (.refl _) (by grind) (sA rfl)⟩
   ·have:=hgo h;show (acc++[_]).length <= k7;simp;omega
   ·have:=hgo h;show l.length <= m+k7;omega
   ·rw [show e7=0 from h];exact h2
   show (if e7=0 then _ else _)<(if (0:Nat)=0 then _ else _)
   by_cases h:e7=0
   ·have:=hgo h;rw [if_pos h,if_pos rfl];show l.length-k7+1<l.length-k0+1;omega
   rw [if_neg h,if_pos rfl];show 0<l.length-k0+1;omega
  refine go 7 ?_
  refine wcp false rfl (lA h0) ?_
  refine go 19 ?_
  refine wyz rfl (cI ((dp:Nat):Int) rfl rfl rfl (by omega) (by omega) (by omega)) ?_
  refine go 11 ?_
  refine aH0 2 rfl ?_
  refine go 1 ?_
  exact ⟨.inr rfl,_,(PSt A B rw P l (k0) (dp) (e0)),(aR rfl (aF rfl)),aA (.refl _) (.refl _),⟨acc,k0,e0,rfl,hn0 h0,hk0,he0,rfl⟩⟩
 refine go 15 ?_
 refine wcQ rfl call105 rfl (eI (A) _ _ _ l k dp e [123] hok hk he) ?_
 rintro t11 s11 ⟨x11,k11,e11,rfl,hr11,hk11,he11,rfl⟩
 refine go 13 ?_
 refine wad rfl ?_
 refine go 7 ?_
 refine qR 78 11 ?_
 refine fM (fun g:List aJ×Value×Nat×Nat=>(⟨47,aY g.2.1++[P],⟨A++⟨P,64,[.sl l.length (l.flatMap aW),.val (.int .i64 (((g.2.2.1):Nat):Int)),.val (.int .i64 (((dp+1):Nat):Int)),.val (.int .i64 (((g.2.2.2):Nat):Int))]⟩::B,⟨g.2.1,78,11,(g.1).length,(g.1).flatMap encS⟩::rw⟩,[(3,.c (.val g.2.1)),(0,pP P)]⟩:AS)) (fun g=>g.2.2.1<l.length /\ g.2.2.2<16 /\ (g.2.2.2=0 -> g.1.length <= g.2.2.1) /\ (g.2.2.2≠0 -> Run e k ((fD l [123] k).bind fun _ k=>eS l st l.length [] k) g.1 g.2.2.1 g.2.2.2) /\ (g.2.2.2=0 -> ∃n,l.length <= n+g.2.2.1 /\ ∀z k' e',Run 0 g.2.2.1 (eS l st n g.1 g.2.2.1) z k' e' -> Run e k ((fD l [123] k).bind fun _ k=>eS l st l.length [] k) z k' e')) (fun g=>if g.2.2.2=0 then l.length-g.2.2.1+1 else 0) ([],.slice none 0 0,k11,e11) (cA (.refl _) (.refl _) (fun _ h=>h) (sA rfl)) ⟨hk11,he11,fun _=>Nat.zero_le _,fun h=>hr11.bind (.skip h _ _),fun h=>⟨l.length,Nat.le_add_right _ _,fun z k' e' h2=>hr11.bind (by rw [show e11=0 from h];exact h2)⟩⟩ ?_
 rintro ⟨acc,v0,k0,e0⟩ ⟨hk0,he0,ha0,hn0,hc0⟩
 dsimp only at hk0 he0 ha0 hn0 hc0
 show AWp prog _ (⟨47,aY v0++[P],⟨A++⟨P,64,[.sl l.length (l.flatMap aW),.val (.int .i64 (((k0):Nat):Int)),.val (.int .i64 (((dp+1):Nat):Int)),.val (.int .i64 (((e0):Nat):Int))]⟩::B,⟨v0,78,11,(acc).length,(acc).flatMap encS⟩::rw⟩,[(3,.c (.val v0)),(0,pP P)]⟩:AS) _
 by_cases h0:e0=0
 ·subst h0
  have ha1:=ha0 rfl
  obtain ⟨n0,hn1,hcont⟩:=hc0 rfl
  refine go 7 ?_
  refine wcp true rfl (by rfl) ?_
  refine go 2 ?_
  refine wcQ rfl call103 rfl (kE (A) _ _ _ l k0 (dp+1) 0 [125] hok hk0) ?_
  rintro t12 s12 (⟨-,ha12,hm12,rfl,rfl⟩|⟨ha12,rfl,rfl⟩)
  ·refine go 16 ?_
   refine wyz rfl (cI ((dp:Nat):Int) rfl rfl rfl (by omega) (by omega) (by omega)) ?_
   refine go 11 ?_
   refine aH0 2 rfl ?_
   refine go 1 ?_
   obtain ⟨m,rfl⟩:∃m,n0=m+1:=⟨n0-1,by omega⟩
   exact ⟨.inr rfl,_,(PSt A B rw P l (k0+1) (dp) (0)),(aR rfl (aF rfl)),aA (.refl _) (.refl _),⟨acc,k0+1,0,rfl,hcont _ _ _ (by rw [eS,if_pos ha12];exact .ok _ _ _ rfl),hm12,(by decide),rfl⟩⟩
  refine go 11 ?_
  refine wcQ rfl call142 rfl (hstm (A) _ _ _ k0 hk0) ?_
  rintro t15 s15 ⟨x15,k15,e15,rfl,hr15,hk15,he15,rfl⟩
  refine wo rfl (bDk zb6 rfl (.cons rfl .nil) (aV encS dG x15 (cJ _) rfl rfl) ?_)
  refine wo rfl (bDm [] bWo rfl (by rw [List.flatMap_cons,List.flatMap_nil,List.append_nil,mE]) (by decide) (by unfold maxLen;skip;omega) (by skip;omega) (@length_append _ acc [x15]).symm (fun _ b hb=>by simp [hb]) (fun b hb=>by simp [hb]) (List.flatMap_append (f:=encS)).symm fun v16=>?_)
  refine go 3 ?_
  obtain ⟨m,rfl⟩:∃m,n0=m+1:=⟨n0-1,by omega⟩
  have hst:∀z k' e',Run e15 k15 (eS l st m (acc++[x15]) k15) z k' e' -> Run e k ((fD l [123] k).bind fun _ k=>eS l st l.length [] k) z k' e':=fun z k' e' h=>hcont z k' e' (by rw [eS,if_neg (by rw [ha12 rfl];decide)];exact hr15.bind h)
  have hgo:e15=0 -> k0<k15:=fun h=>by have h9:=hin k0 hk0;rw [(hr15.good h).2] at h9;exact h9.1
  refine ⟨(acc++[x15],v16,k15,e15),⟨hk15,he15,fun h=>?_,fun h=>hst _ _ _ (.skip h _ _),fun h=>⟨m,?_,fun z k' e' h2=>hst _ _ _ ?_⟩⟩,?_,cA (.refl _) (.refl _) (by grind) (sA rfl)⟩
  ·have:=hgo h;show (acc++[_]).length <= k15;simp;omega
  ·have:=hgo h;show l.length <= m+k15;omega
  ·rw [show e15=0 from h];exact h2
  show (if e15=0 then _ else _)<(if (0:Nat)=0 then _ else _)
  by_cases h:e15=0
  ·have:=hgo h;rw [if_pos h,if_pos rfl];show l.length-k15+1<l.length-k0+1;omega
  rw [if_neg h,if_pos rfl];show 0<l.length-k0+1;omega
 refine go 7 ?_
 refine wcp false rfl (lA h0) ?_
 refine go 19 ?_
 refine wyz rfl (cI ((dp:Nat):Int) rfl rfl rfl (by omega) (by omega) (by omega)) ?_
 refine go 11 ?_
 refine aH0 2 rfl ?_
 refine go 1 ?_
 exact ⟨.inr rfl,_,(PSt A B rw P l (k0) (dp) (e0)),(aR rfl (aF rfl)),aA (.refl _) (.refl _),⟨acc,k0,e0,rfl,hn0 h0,hk0,he0,rfl⟩⟩
theorem zW(l:List Tok)(hok:TOk l):∀(d:Nat),d <= 24 -> ∀(A B:List Box)(rw:List bA)(P k e:Nat),k<l.length -> e<16 -> aL prog 109 [pP P] [P] (PSt A B rw P l k (24-d) e) (PAn A B rw P l (24-d) (fun x=>.c (.sl x.length (x.flatMap encS))) e k (vM l d k))
 |0,_,A,B,rw,P,k,e,hk,he=>aK6 A B rw P l k e hok hk he
 |d+1,hd,A,B,rw,P,k,e,hk,he=>by
  have hb:∀k,k<l.length -> (vM l d k).In l k:=fun k hk=>pB hok.last d k hk
  exact aM2 A B rw P l k e (24-(d+1)) (fB l (vM l d)) (by omega) (fun k hk=>zE hok.last hb hk) (fun A B rw P k hk=>
   aOd A B rw P l k (24-(d+1)+1) (vM l d) (fun A B rw P k e hk he=>by
    have h8:=zW l hok d (by omega) A B rw P k e hk he
    have e1:24-(d+1)+1=24-d:=by omega
    rw [e1];exact h8) hok hk) hok hk he
end
section
open Go.RowKit
theorem Run.alt{α β:Type}{e k k2 e2:Nat}{r:bN α}{u:α}{y:β}{f:α -> β}(h:Run e k r u k2 e2)(h1:e=0 -> y=f u):Run e k (r.bind fun x k=>.ok (f x) k) y k2 e2:=by
 by_cases h0:e=0
 ·rw [h1 h0];exact h.map
 rcases h with ⟨_,rfl,rfl⟩|⟨h,_⟩
 ·exact .skip h0 _ _
 exact absurd h h0
theorem Run.badP{α β:Type}{e1 k k2 e2:Nat}{r:bN α}{r':bN β}{y:β}{x:α}(h:Run e1 k r' y k2 e2)(h1:e1≠0)(hr:r=.err k e1)(k0:Nat):Run 0 k0 r x k2 e2:=by
 rcases h with ⟨_,rfl,rfl⟩|⟨h,_⟩
 ·exact .err _ _ _ _ hr h1
 exact absurd h h1
theorem zR{l:List Tok}{k x k2:Nat}(hok:TOk l)(hk:k<l.length)(h:qE l k=.ok x k2):x <= 9223372036854775807 /\ k2=k+1:=by
 unfold qE at h
 rw [bG hk] at h
 split at h
 ·cases h;exact ⟨(hok.reg _ (getElem_mem hk)).2.2,rfl⟩
 cases h
theorem aXy{x:Nat}(h:x <= 9223372036854775807):IntKind.i64.wrap (1*(x:Int))=(x:Int):=by rw [wrap64 (by omega) (by omega)];omega
theorem aT4{x:Nat}(h:x <= 9223372036854775807):IntKind.i64.wrap (-1*(x:Int))=-(x:Int):=by rw [wrap64 (by omega) (by omega)];omega
theorem aBw(A B:List Box)(rw:List bA)(P:Nat)(l:List Tok)(k dp e:Nat)(hok:TOk l)(hk:k<l.length)(he:e<16):aL prog 68 [pP P] [P] (PSt A B rw P l k dp e) (PAn A B rw P l dp (fun x=>.agg (dB x)) e k (mP l k)):=by
 have hlen:=hok.len
 refine acB func68 rfl ?_
 show AWp prog _ ⟨20,[P],⟨A++⟨P,64,[.sl l.length (l.flatMap aW),nC k,nC dp,nC e]⟩::B,rw⟩,[(0,pP P)]⟩ _
 refine go 8 fun b1=>?_
 refine wcQ rfl call102 rfl (jD (_::A) _ _ _ l k dp e hok hk he) ?_
 rintro t1 s1 ⟨x1,k1,e1,rfl,hr1,hk1,he1,rfl⟩
 refine go 9 fun b2=>?_
 refine wcQ rfl call103 rfl (kE (_::_::A) _ _ _ l k1 dp e1 [61] hok hk1) ?_
 rintro t2 s2 (⟨rfl,ha2,hm2,rfl,rfl⟩|⟨ha2,rfl,rfl⟩)
 ·refine go 12 ?_
  refine wcQ rfl call103 rfl (kE (_::_::A) _ _ _ l (k1+1) dp 0 [45] hok hm2) ?_
  rintro t4 s4 (⟨-,ha4,hm4,rfl,rfl⟩|⟨ha4,rfl,rfl⟩)
  ·refine go 10 ?_
   refine wcQ rfl call104 rfl (aGv (_::_::A) _ _ _ l ((k1+1)+1) dp 0 hok hm4 (by decide)) ?_
   rintro t6 s6 ⟨x6,k6,e6,rfl,hr6,hk6,he6,rfl⟩
   refine wyz rfl (vK rfl rfl rfl rfl) ?_
   refine go 7 ?_
   refine wcQ rfl call105 rfl (eI (_::_::A) _ _ _ l k6 dp e6 [59] hok hk6 he6) ?_
   rintro t7 s7 ⟨x7,k7,e7,rfl,hr7,hk7,he7,rfl⟩
   refine go 9 ?_
   exact ⟨.inr rfl,_,(PSt A B rw P l (k7) (dp) (e7)),(aR rfl (aO [_] rfl rfl isAgg86 sizeOf86 (bK rfl rfl))),aA (.cons _ (.cons _ (.refl _))) (.refl _),⟨⟨x1,IntKind.i64.wrap (-1*(x6:Int))⟩,k7,e7,rfl,hr1.bind (.yes (fun _=>ha2) (Run.from (.yes (fun _=>ha4) (hr6.bind (f:=fun (i:Nat) (k:Nat)=>(fD l [59] k).bind fun _ k=>.ok (aI.mk x1 (-(i:Int))) k) (hr7.alt (y:=aI.mk x1 (IntKind.i64.wrap (-1*(x6:Int)))) (f:=fun _=>aI.mk x1 (-((x6:Nat):Int))) (fun h=>by rw [aT4 (zR hok hm4 (hr6.good h).2).1])))))),hk7,he7,rfl⟩⟩
  refine go 8 ?_
  refine wcQ rfl call104 rfl (aGv (_::_::A) _ _ _ l (k1+1) dp 0 hok hm2 (by decide)) ?_
  rintro t9 s9 ⟨x9,k9,e9,rfl,hr9,hk9,he9,rfl⟩
  refine wyz rfl (vK rfl rfl rfl rfl) ?_
  refine go 7 ?_
  refine wcQ rfl call105 rfl (eI (_::_::A) _ _ _ l k9 dp e9 [59] hok hk9 he9) ?_
  rintro t10 s10 ⟨x10,k10,e10,rfl,hr10,hk10,he10,rfl⟩
  refine go 9 ?_
  exact ⟨.inr rfl,_,(PSt A B rw P l (k10) (dp) (e10)),(aR rfl (aO [_] rfl rfl isAgg86 sizeOf86 (bK rfl rfl))),aA (.cons _ (.cons _ (.refl _))) (.refl _),⟨⟨x1,IntKind.i64.wrap (1*(x9:Int))⟩,k10,e10,rfl,hr1.bind (.yes (fun _=>ha2) (Run.from (.no (fun _=>by rw [ha4 rfl];decide) (hr9.bind (f:=fun (i:Nat) (k:Nat)=>(fD l [59] k).bind fun _ k=>.ok (aI.mk x1 (i:Int)) k) (hr10.alt (y:=aI.mk x1 (IntKind.i64.wrap (1*(x9:Int)))) (f:=fun _=>aI.mk x1 ((x9:Nat):Int)) (fun h=>by rw [aXy (zR hok hm2 (hr9.good h).2).1])))))),hk10,he10,rfl⟩⟩
 refine go 8 ?_
 refine wcQ rfl call105 rfl (eI (_::_::A) _ _ _ l k1 dp e1 [59] hok hk1 he1) ?_
 rintro t12 s12 ⟨x12,k12,e12,rfl,hr12,hk12,he12,rfl⟩
 refine go 9 ?_
 exact ⟨.inr rfl,_,(PSt A B rw P l (k12) (dp) (e12)),(aR rfl (aO [_] rfl rfl isAgg86 sizeOf86 (bK rfl rfl))),aA (.cons _ (.cons _ (.refl _))) (.refl _),⟨⟨x1,0⟩,k12,e12,rfl,hr1.bind (.no (fun h=>by rw [ha2 h];decide) (hr12.map (f:=fun _=>aI.mk x1 0))),hk12,he12,rfl⟩⟩
theorem xD(A B:List Box)(rw:List bA)(P:Nat)(l:List Tok)(k dp e:Nat)(hok:TOk l)(hk:k<l.length)(he:e<16):aL prog 70 [pP P,.c (.val (.bool true))] [P] (PSt A B rw P l k dp e) (PAn A B rw P l dp (fun x=>.agg (bT x)) e k (nE l true k)):=by
 have hlen:=hok.len
 refine acB func70 rfl ?_
 show AWp prog _ ⟨48,[P],⟨A++⟨P,64,[.sl l.length (l.flatMap aW),nC k,nC dp,nC e]⟩::B,rw⟩,[(0,pP P),(1,.c (.val (.bool true)))]⟩ _
 refine go 8 fun b1=>?_
 refine wcQ rfl call102 rfl (jD (_::A) _ _ _ l k dp e hok hk he) ?_
 rintro t1 s1 ⟨x1,k1,e1,rfl,hr1,hk1,he1,rfl⟩
 refine go 23 fun b2=>?_
 refine wcQ rfl call105 rfl (eI (_::_::A) _ _ _ l k1 dp e1 [59] hok hk1 he1) ?_
 rintro t3 s3 ⟨x3,k3,e3,rfl,hr3,hk3,he3,rfl⟩
 refine go 9 ?_
 exact ⟨.inr rfl,_,(PSt A B rw P l (k3) (dp) (e3)),(aR rfl (aO [_] rfl rfl isAgg70 sizeOf70 (bK rfl rfl))),aA (.cons _ (.cons _ (.refl _))) (.refl _),⟨⟨x1,true,0⟩,k3,e3,rfl,hr1.bind (.no (fun h=>by rintro ⟨h,-⟩;cases h) (hr3.map (f:=fun _=>cL.mk x1 true 0))),hk3,he3,rfl⟩⟩
theorem vD(A B:List Box)(rw:List bA)(P:Nat)(l:List Tok)(k dp e:Nat)(hok:TOk l)(hk:k<l.length)(he:e<16):aL prog 70 [pP P,.c (.val (.bool false))] [P] (PSt A B rw P l k dp e) (PAn A B rw P l dp (fun x=>.agg (bT x)) e k (nE l false k)):=by
 have hlen:=hok.len
 refine acB func70 rfl ?_
 show AWp prog _ ⟨48,[P],⟨A++⟨P,64,[.sl l.length (l.flatMap aW),nC k,nC dp,nC e]⟩::B,rw⟩,[(0,pP P),(1,.c (.val (.bool false)))]⟩ _
 refine go 8 fun b1=>?_
 refine wcQ rfl call102 rfl (jD (_::A) _ _ _ l k dp e hok hk he) ?_
 rintro t1 s1 ⟨x1,k1,e1,rfl,hr1,hk1,he1,rfl⟩
 refine go 13 fun b2=>?_
 refine wcQ rfl call103 rfl (kE (_::_::A) _ _ _ l k1 dp e1 [91] hok hk1) ?_
 rintro t2 s2 (⟨rfl,ha2,hm2,rfl,rfl⟩|⟨ha2,rfl,rfl⟩)
 ·refine go 7 ?_
  refine wcQ rfl call104 rfl (aGv (_::_::A) _ _ _ l (k1+1) dp 0 hok hm2 (by decide)) ?_
  rintro t4 s4 ⟨x4,k4,e4,rfl,hr4,hk4,he4,rfl⟩
  refine go 7 ?_
  rcases (show e4≠0∨(e4=0 /\ x4<1)∨(e4=0 /\ ¬x4<1 /\ 64<x4)∨(e4=0 /\ ¬x4<1 /\ ¬64<x4) by omega) with her|⟨her,hs1⟩|⟨her,hs1,hs2⟩|⟨her,hs1,hs2⟩
  ·refine go 4 ?_
   refine wcp false rfl (lA her) ?_
   refine go 17 ?_
   refine wcQ rfl call105 rfl (eI (_::_::A) _ _ _ l k4 dp e4 [93] hok hk4 he4) ?_
   rintro t6 s6 ⟨x6,k6,e6,rfl,hr6,hk6,he6,rfl⟩
   refine go 5 ?_
   refine wcQ rfl call105 rfl (eI (_::_::A) _ _ _ l k6 dp e6 [59] hok hk6 he6) ?_
   rintro t7 s7 ⟨x7,k7,e7,rfl,hr7,hk7,he7,rfl⟩
   refine go 9 ?_
   exact ⟨.inr rfl,_,(PSt A B rw P l (k7) (dp) (e7)),(aR rfl (aO [_] rfl rfl isAgg70 sizeOf70 (bK rfl rfl))),aA (.cons _ (.cons _ (.refl _))) (.refl _),⟨⟨x1,false,x4⟩,k7,e7,rfl,hr1.bind (.yes (fun _=>⟨rfl,ha2⟩) (Run.from (Run.bind (x:=x4) (hr4.bind (.skip her _ _)) (hr6.bind (hr7.map (f:=fun _=>cL.mk x1 false x4)))))),hk7,he7,rfl⟩⟩
  ·have hnum:=zR hok hm2 (hr4.good her).2
   have hsz:(x4<1∨64<x4):=by omega
   refine go 4 ?_
   refine wcp true rfl (by rw [her];rfl) ?_
   refine go 3 ?_
   refine wcp true rfl (by simp [bC];omega) ?_
   refine go 15 ?_
   refine wyz rfl (cI (((k1+1):Nat):Int) rfl rfl rfl (by rw [hnum.2];omega) (by omega) (by omega)) ?_
   refine go 7 ?_
   refine wcQ rfl call67 rfl (lX (_::_::A) _ _ _ l (k1+1) dp e4 3) ?_
   rintro t9 s9 ⟨e9,hf9,rfl,rfl⟩
   obtain rfl:=hf9.1 her
   refine go 4 ?_
   refine wcQ rfl call105 rfl (eI (_::_::A) _ _ _ l (k1+1) dp 3 [93] hok hm2 (by decide)) ?_
   rintro t10 s10 ⟨x10,k10,e10,rfl,hr10,hk10,he10,rfl⟩
   refine go 5 ?_
   refine wcQ rfl call105 rfl (eI (_::_::A) _ _ _ l k10 dp e10 [59] hok hk10 he10) ?_
   rintro t11 s11 ⟨x11,k11,e11,rfl,hr11,hk11,he11,rfl⟩
   refine go 9 ?_
   have hszr:Run 0 (k1+1) (qX l (k1+1)) x4 (k1+1) 3:=.err _ _ _ _ (by unfold qX;rw [(hr4.good her).2];show (if _ then _ else _)=_;rw [if_pos hsz]) (by decide)
   exact ⟨.inr rfl,_,(PSt A B rw P l (k11) (dp) (e11)),(aR rfl (aO [_] rfl rfl isAgg70 sizeOf70 (bK rfl rfl))),aA (.cons _ (.cons _ (.refl _))) (.refl _),⟨⟨x1,false,x4⟩,k11,e11,rfl,hr1.bind (.yes (fun _=>⟨rfl,ha2⟩) (Run.from (Run.bind (x:=x4) hszr (hr10.bind (hr11.map (f:=fun _=>cL.mk x1 false x4)))))),hk11,he11,rfl⟩⟩
  ·have hnum:=zR hok hm2 (hr4.good her).2
   have hsz:(x4<1∨64<x4):=by omega
   refine go 4 ?_
   refine wcp true rfl (by rw [her];rfl) ?_
   refine go 3 ?_
   refine wcp false rfl (by simp [bC];omega) ?_
   refine go 3 ?_
   refine wcp true rfl (by simp [bC];omega) ?_
   refine go 11 ?_
   refine wyz rfl (cI (((k1+1):Nat):Int) rfl rfl rfl (by rw [hnum.2];omega) (by omega) (by omega)) ?_
   refine go 7 ?_
   refine wcQ rfl call67 rfl (lX (_::_::A) _ _ _ l (k1+1) dp e4 3) ?_
   rintro t13 s13 ⟨e13,hf13,rfl,rfl⟩
   obtain rfl:=hf13.1 her
   refine go 4 ?_
   refine wcQ rfl call105 rfl (eI (_::_::A) _ _ _ l (k1+1) dp 3 [93] hok hm2 (by decide)) ?_
   rintro t14 s14 ⟨x14,k14,e14,rfl,hr14,hk14,he14,rfl⟩
   refine go 5 ?_
   refine wcQ rfl call105 rfl (eI (_::_::A) _ _ _ l k14 dp e14 [59] hok hk14 he14) ?_
   rintro t15 s15 ⟨x15,k15,e15,rfl,hr15,hk15,he15,rfl⟩
   refine go 9 ?_
   have hszr:Run 0 (k1+1) (qX l (k1+1)) x4 (k1+1) 3:=.err _ _ _ _ (by unfold qX;rw [(hr4.good her).2];show (if _ then _ else _)=_;rw [if_pos hsz]) (by decide)
   exact ⟨.inr rfl,_,(PSt A B rw P l (k15) (dp) (e15)),(aR rfl (aO [_] rfl rfl isAgg70 sizeOf70 (bK rfl rfl))),aA (.cons _ (.cons _ (.refl _))) (.refl _),⟨⟨x1,false,x4⟩,k15,e15,rfl,hr1.bind (.yes (fun _=>⟨rfl,ha2⟩) (Run.from (Run.bind (x:=x4) hszr (hr14.bind (hr15.map (f:=fun _=>cL.mk x1 false x4)))))),hk15,he15,rfl⟩⟩
  have hnum:=zR hok hm2 (hr4.good her).2
  have hsz:¬(x4<1∨64<x4):=by omega
  refine go 4 ?_
  refine wcp true rfl (by rw [her];rfl) ?_
  refine go 3 ?_
  refine wcp false rfl (by simp [bC];omega) ?_
  refine go 3 ?_
  refine wcp false rfl (by simp [bC];omega) ?_
  refine go 9 ?_
  refine wcQ rfl call105 rfl (eI (_::_::A) _ _ _ l k4 dp e4 [93] hok hk4 he4) ?_
  rintro t17 s17 ⟨x17,k17,e17,rfl,hr17,hk17,he17,rfl⟩
  refine go 5 ?_
  refine wcQ rfl call105 rfl (eI (_::_::A) _ _ _ l k17 dp e17 [59] hok hk17 he17) ?_
  rintro t18 s18 ⟨x18,k18,e18,rfl,hr18,hk18,he18,rfl⟩
  refine go 9 ?_
  exact ⟨.inr rfl,_,(PSt A B rw P l (k18) (dp) (e18)),(aR rfl (aO [_] rfl rfl isAgg70 sizeOf70 (bK rfl rfl))),aA (.cons _ (.cons _ (.refl _))) (.refl _),⟨⟨x1,false,x4⟩,k18,e18,rfl,hr1.bind (.yes (fun _=>⟨rfl,ha2⟩) (Run.from (Run.bind (x:=x4) (hr4.bind (.no (fun _=>hsz) (Run.pure x4 _ _))) (hr17.bind (hr18.map (f:=fun _=>cL.mk x1 false x4)))))),hk18,he18,rfl⟩⟩
 refine go 9 ?_
 refine wcQ rfl call105 rfl (eI (_::_::A) _ _ _ l k1 dp e1 [59] hok hk1 he1) ?_
 rintro t20 s20 ⟨x20,k20,e20,rfl,hr20,hk20,he20,rfl⟩
 refine go 9 ?_
 exact ⟨.inr rfl,_,(PSt A B rw P l (k20) (dp) (e20)),(aR rfl (aO [_] rfl rfl isAgg70 sizeOf70 (bK rfl rfl))),aA (.cons _ (.cons _ (.refl _))) (.refl _),⟨⟨x1,false,0⟩,k20,e20,rfl,hr1.bind (.no (fun h=>by rintro ⟨-,h9⟩;rw [ha2 h] at h9;cases h9) (hr20.map (f:=fun _=>cL.mk x1 false 0))),hk20,he20,rfl⟩⟩
theorem mT(A B:List Box)(rw:List bA)(P:Nat)(l:List Tok)(k dp e:Nat)(n m:Nat)(he:e<16)(hnm:m <= n):aL prog 66 [pP P,.c (.val (.int .i64 (n:Int))),.c (.val (.int .i64 (m:Int)))] [P] (PSt A B rw P l k dp e) fun t s=>∃e1,aBr e 3 e1 /\ t=.tup [] /\ s=PSt A B rw P l k dp e1:=by
 refine acB func66 rfl ?_
 show AWp prog _ ⟨11,[P],⟨A++⟨P,64,[.sl l.length (l.flatMap aW),nC k,nC dp,nC e]⟩::B,rw⟩,[(0,pP P),(1,.c (.val (.int .i64 (n:Int)))),(2,.c (.val (.int .i64 (m:Int))))]⟩ _
 refine go 4 ?_
 refine wcp true rfl (by simp [bC];omega) ?_
 refine go 5 ?_
 refine wcQ rfl call67 rfl (lX (A) _ _ _ l k dp e 3) ?_
 rintro t2 s2 ⟨e2,hf2,rfl,rfl⟩
 refine go 1 ?_
 exact ⟨.inl rfl,_,(PSt A B rw P l (k) (dp) (e2)),cH rfl,aA (.refl _) (.refl _),⟨_,hf2,rfl,rfl⟩⟩
theorem oQ(A B:List Box)(rw:List bA)(P:Nat)(l:List Tok)(k dp e:Nat)(n m:Nat)(he:e<16)(hnm:n<m):aL prog 66 [pP P,.c (.val (.int .i64 (n:Int))),.c (.val (.int .i64 (m:Int)))] [P] (PSt A B rw P l k dp e) fun t s=>t=.tup [] /\ s=PSt A B rw P l k dp e:=by
 refine acB func66 rfl ?_
 show AWp prog _ ⟨11,[P],⟨A++⟨P,64,[.sl l.length (l.flatMap aW),nC k,nC dp,nC e]⟩::B,rw⟩,[(0,pP P),(1,.c (.val (.int .i64 (n:Int)))),(2,.c (.val (.int .i64 (m:Int))))]⟩ _
 refine go 4 ?_
 refine wcp false rfl (by simp [bC];omega) ?_
 refine go 4 ?_
 exact ⟨.inl rfl,_,(PSt A B rw P l (k) (dp) (e)),cH rfl,aA (.refl _) (.refl _),rfl,rfl⟩
end
end Go.Proofs.YtojinfngbbajgaaGreatDoor
