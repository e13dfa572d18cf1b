import Derived.Test.YtojinfngbbajgaaGreatDoorP5J
import Derived.Test.YtojinfngbbajgaaGreatDoorP29J
import Derived.Test.YtojinfngbbajgaaGreatDoorP4J
set_option linter.all false
set_option synthInstance.maxHeartbeats 1000000
set_option synthInstance.maxSize 1000000
set_option maxHeartbeats 1600000
set_option maxRecDepth 100000
namespace Go.Proofs.YtojinfngbbajgaaGreatDoor
open Go.Proofs.Tryz
open List (length_append length_cons length_nil mem_append mem_cons not_mem_nil append_assoc getElem_mem take_of_length_le)
section
open Go.RowKit
theorem aP5(l:List Tok)(single:Nat -> bN aH)(j k:Nat):gS l single (j+1) k=(gS l single j k).bind fun x k=>fR l (gS l single j) (5-j) (l.length+1) x k:=by
 rw [gS];cases gS l single j k<;>rfl
theorem aC8(l:List Tok)(sub:Nat -> bN aH)(level n:Nat)(x:aH)(k:Nat):fR l sub level (n+1) x k=if (bU l k).kind=4 /\ (binOp (bU l k).text).2=level then (sub (k+1)).bind fun y k2=>fR l sub level n (.mk ((binOp (bU l k).text).1:Int) 0 aK [x,y]) k2 else .ok x k:=by
 rw [fR]
 split
 ·cases sub (k+1)<;>rfl
 rfl
theorem aKd(A B:List Box)(rw:List bA)(P:Nat)(l:List Tok)(k d:Nat)(sub:Nat -> bN aH)(hok:TOk l)(hk:k<l.length)(ih:∀(A B:List Box)(rw:List bA)(P:Nat)(k:Nat),k<l.length -> aL prog 239 [pP P] [P] (ESt A B rw P l k d 0) (EAn A B rw P l d k (sub k))):aL prog 234 [pP P,.c (.val (.int .i64 6))] [P] (ESt A B rw P l k d 0) (EAn A B rw P l d k (sub k)):=by
 have hlen:=hok.len
 refine acB func234 rfl ?_
 show AWp prog _ ⟨71,[P],⟨A++⟨P,267,[.sl l.length (l.flatMap aW),nC k,nC d,nC 0]⟩::B,rw⟩,[(0,pP P),(1,.c (.val (.int .i64 6)))]⟩ _
 refine go 9 fun b1=>?_
 refine wcp true rfl rfl (go 6 ?_)
 refine wcQ rfl call239 rfl (ih (_::A) _ _ _ k hk) ?_
 rintro t2 s2 ⟨x2,k2,d2,e2,rfl,hr2,hk2,he2,hd2,hl2,hu2,rfl⟩
 refine go 5 ?_
 exact ⟨.inr rfl,_,(ESt A B rw P l (k2) (d2) (e2)),(aR rfl (aO [] rfl rfl isAgg73 sizeOf73 (bK rfl rfl))),aA (.cons _ (.refl _)) (.refl _),⟨x2,k2,d2,e2,rfl,hr2,hk2,he2,hd2,hl2,hu2,rfl⟩⟩
theorem aJ0(A B:List Box)(rw:List bA)(P:Nat)(l:List Tok)(k d lv:Nat)(sub:Nat -> bN aH)(hlv:lv <= 5)(hin:∀k,k<l.length -> (sub k).In l k)(hok:TOk l)(hk:k<l.length)(ih:∀(A B:List Box)(rw:List bA)(P:Nat)(k:Nat),k<l.length -> aL prog 234 [pP P,.c (.val (.int .i64 ((lv:Nat)+1:Int)))] [P] (ESt A B rw P l k d 0) (EAn A B rw P l d k (sub k))):aL prog 234 [pP P,.c (.val (.int .i64 (lv:Int)))] [P] (ESt A B rw P l k d 0) (EAn A B rw P l d k ((sub k).bind fun x k=>fR l sub lv (l.length+1) x k)):=by
 have hlen:=hok.len
 refine acB func234 rfl ?_
 show AWp prog _ ⟨71,[P],⟨A++⟨P,267,[.sl l.length (l.flatMap aW),nC k,nC d,nC 0]⟩::B,rw⟩,[(0,pP P),(1,nI lv)]⟩ _
 refine go 9 fun b1=>?_
 refine wcp false rfl (by simp [bC];omega) (go 9 ?_)
 refine wad rfl ?_
 refine wcQ rfl call234 rfl (ih (_::A) _ _ _ k hk) ?_
 rintro t2 s2 ⟨x2,k2,d2,e2,rfl,hr2,hk2,he2,hd2,hl2,hu2,rfl⟩
 refine go 6 fun b2=>?_
 refine fM (fun g:aH×Nat×Nat×Nat=>(⟨71,[b2,b1,P],⟨⟨b2,73,cU (g.1)⟩::⟨b1,73,[.val (.int .i64 0),.val (.int .i64 0),.val (.string ⟨#[]⟩),.val (.slice none 0 0)]⟩::(A++⟨P,267,[.sl l.length (l.flatMap aW),.val (.int .i64 (((g.2.1):Nat):Int)),.val (.int .i64 (((g.2.2.1):Nat):Int)),.val (.int .i64 (((g.2.2.2):Nat):Int))]⟩::B),rw⟩,[(5,pP b2),(4,pP b1),(1,nI lv),(0,pP P)]⟩:AS)) (fun g=>g.2.1<l.length /\ g.2.2.2<16 /\ (g.2.2.2=0 -> g.2.2.1=d) /\ d <= g.2.2.1 /\ g.2.2.1 <= 24 /\ (g.2.2.2≠0 -> Run 0 k ((sub k).bind fun x k=>fR l sub lv (l.length+1) x k) g.1 g.2.1 g.2.2.2) /\ (g.2.2.2=0 -> ∃n,l.length<n+g.2.1 /\ ∀z k' e',Run 0 g.2.1 (fR l sub lv n g.1 g.2.1) z k' e' -> Run 0 k ((sub k).bind fun x k=>fR l sub lv (l.length+1) x k) z k' e')) (fun g=>if g.2.2.2=0 then l.length-g.2.1+1 else 0) (x2,k2,d2,e2) (cA (.refl _) (.refl _) (fun _ h=>h) (sA rfl)) ⟨hk2,he2,hd2,hl2,hu2,fun h=>hr2.bind (.skip h _ _),fun h=>⟨l.length+1,by show l.length<l.length+1+k2;omega,fun z k' e' h2=>hr2.bind (by rw [show e2=0 from h];exact h2)⟩⟩ ?_
 rintro ⟨x0,k0,d0,e0⟩ ⟨hk0,he0,hd0,hl0,hu0,hn0,hc0⟩
 dsimp only at hk0 he0 hd0 hl0 hu0 hn0 hc0
 show AWp prog _ (⟨71,[b2,b1,P],⟨⟨b2,73,cU (x0)⟩::⟨b1,73,[.val (.int .i64 0),.val (.int .i64 0),.val (.string ⟨#[]⟩),.val (.slice none 0 0)]⟩::(A++⟨P,267,[.sl l.length (l.flatMap aW),.val (.int .i64 (((k0):Nat):Int)),.val (.int .i64 (((d0):Nat):Int)),.val (.int .i64 (((e0):Nat):Int))]⟩::B),rw⟩,[(5,pP b2),(4,pP b1),(1,nI lv),(0,pP P)]⟩:AS) _
 by_cases h0:e0=0
 ·subst h0
  obtain rfl:d=d0:=(hd0 rfl).symm
  obtain ⟨n0,hn1,hcont⟩:=hc0 rfl
  obtain ⟨m,rfl⟩:∃m,n0=m+1:=⟨n0-1,by omega⟩
  by_cases h4:l[k0].kind=4
  ·by_cases hlv2:(binOp l[k0].text).2=lv
   ·refine go 2 ?_
    refine dx [b2,b1,P] (tz [(0,true),(1,true),(2,true),(3,true)] 15 (go 5 ?_))
    refine tx 4 rfl (bO true rfl rfl rfl (by rfl)) (tz [(5,true),(6,true),(7,true),(8,true),(9,true),(10,true),(11,true),(12,true),(13,true)] 5 (go 10 ?_))
    refine tx 14 rfl (bH aW aW l bJ (fun _=>rfl) (k0) rfl rfl rfl rfl hk0 (by decide) runUnderlying36 sizeOf66) (tz [(15,true),(16,true)] 2 (go 3 ?_))
    refine tx 17 rfl (bO true rfl rfl rfl (by rw [h4];rfl)) (tz [(18,true)] 0 (go 2 ?_))
    refine ax (go 6 ?_)
    refine dx [b2,b1,P] (tz [(0,true),(1,true),(2,true),(3,true),(4,true),(5,true),(6,true),(7,true)] 9 (go 9 ?_))
    refine tx 8 rfl (bH aW aW l bJ (fun _=>rfl) (k0) rfl rfl rfl rfl hk0 (by decide) runUnderlying36 sizeOf66) (tz [(9,true),(10,true)] 6 (go 3 ?_))
    refine ox 11 rfl rfl (bD [] rfl rfl (by decide) call235 rfl (aId l[k0].text _) bDl bDl (fun _=>bDl) ?_)
    rintro t9 s9 ⟨rfl,rfl⟩
    refine tz [(12,true),(13,true),(14,true),(15,true),(16,true)] 0 (go 6 ?_)
    refine ax (go 6 ?_)
    refine wcp false rfl (by simp [bC];omega) (go 7 ?_)
    have hm:=hok.last.more hk0 (by rw [bG hk0,h4];decide)
    refine go 4 ?_
    refine wad rfl (go 9 ?_)
    refine wad rfl ?_
    refine wcQ rfl call234 rfl (ih (_::_::A) _ _ _ (k0+1) hm) ?_
    rintro t11 s11 ⟨x11,k11,d11,e11,rfl,hr11,hk11,he11,hd11,hl11,hu11,rfl⟩
    refine go 8 fun b3=>?_
    refine wo rfl (bDk zb9 rfl (.cons rfl (.cons rfl .nil)) (aEp fO cU x0 x11 fP rfl (fun _=>rfl)) ?_)
    refine go 4 ?_
    have hst:∀z k' e',Run e11 k11 (fR l sub lv m (.mk ((binOp l[k0].text).1:Int) 0 aK [x0,x11]) k11) z k' e' -> Run 0 k ((sub k).bind fun x k=>fR l sub lv (l.length+1) x k) z k' e':=fun z k' e' h=>hcont z k' e' (by rw [aC8,bG hk0,if_pos ⟨h4,hlv2⟩];exact (Run.from hr11).bind h)
    have hgo:e11=0 -> k0<k11:=fun h=>by have h9:=hin (k0+1) hm;rw [(hr11.good h).2] at h9;have:=h9.1;omega
    refine ⟨((.mk ((binOp l[k0].text).1:Int) 0 aK [x0,x11]),k11,d11,e11),⟨hk11,he11,hd11,by omega,hu11,fun h=>hst _ _ _ (.skip h _ _),fun h=>⟨m,?_,fun z k' e' h2=>hst _ _ _ ?_⟩⟩,?_,cA (.cons _ (.refl _)) (.refl _) (by grind) (sA rfl)⟩
    ·have:=hgo h;show l.length<m+k11;omega
    ·rw [show e11=0 from h];exact h2
    show (if e11=0 then _ else _)<(if (0:Nat)=0 then _ else _)
    by_cases h:e11=0
    ·have:=hgo h;rw [if_pos h,if_pos rfl];show l.length-k11+1<l.length-k0+1;omega
    rw [if_neg h,if_pos rfl];show 0<l.length-k0+1;omega
   refine go 2 ?_
   refine dx [b2,b1,P] (tz [(0,true),(1,true),(2,true),(3,true)] 15 (go 5 ?_))
   refine tx 4 rfl (bO true rfl rfl rfl (by rfl)) (tz [(5,true),(6,true),(7,true),(8,true),(9,true),(10,true),(11,true),(12,true),(13,true)] 5 (go 10 ?_))
   refine tx 14 rfl (bH aW aW l bJ (fun _=>rfl) (k0) rfl rfl rfl rfl hk0 (by decide) runUnderlying36 sizeOf66) (tz [(15,true),(16,true)] 2 (go 3 ?_))
   refine tx 17 rfl (bO true rfl rfl rfl (by rw [h4];rfl)) (tz [(18,true)] 0 (go 2 ?_))
   refine ax (go 6 ?_)
   refine dx [b2,b1,P] (tz [(0,true),(1,true),(2,true),(3,true),(4,true),(5,true),(6,true),(7,true)] 9 (go 9 ?_))
   refine tx 8 rfl (bH aW aW l bJ (fun _=>rfl) (k0) rfl rfl rfl rfl hk0 (by decide) runUnderlying36 sizeOf66) (tz [(9,true),(10,true)] 6 (go 3 ?_))
   refine ox 11 rfl rfl (bD [] rfl rfl (by decide) call235 rfl (aId l[k0].text _) bDl bDl (fun _=>bDl) ?_)
   rintro t6 s6 ⟨rfl,rfl⟩
   refine tz [(12,true),(13,true),(14,true),(15,true),(16,true)] 0 (go 6 ?_)
   refine ax (go 6 ?_)
   refine wcp true rfl (by simp [bC];omega) (go 16 ?_)
   exact ⟨.inr rfl,_,(ESt A B rw P l (k0) (d) (0)),(aR rfl (aO [_] rfl rfl isAgg73 sizeOf73 (bK rfl rfl))),aA (.cons _ (.cons _ (.refl _))) (.refl _),⟨x0,k0,d,0,rfl,hcont _ _ _ (by rw [aC8,if_neg (fun h=>hlv2 (by rw [←bG hk0];exact h.2))];exact .ok _ _ _ rfl),hk0,by decide,fun _=>rfl,Nat.le_refl _,hu0,rfl⟩⟩
  refine go 2 ?_
  refine dx [b2,b1,P] (tz [(0,true),(1,true),(2,true),(3,true)] 15 (go 5 ?_))
  refine tx 4 rfl (bO true rfl rfl rfl (by rfl)) (tz [(5,true),(6,true),(7,true),(8,true),(9,true),(10,true),(11,true),(12,true),(13,true)] 5 (go 10 ?_))
  refine tx 14 rfl (bH aW aW l bJ (fun _=>rfl) (k0) rfl rfl rfl rfl hk0 (by decide) runUnderlying36 sizeOf66) (tz [(15,true),(16,true)] 2 (go 3 ?_))
  refine tx 17 rfl (bO false rfl rfl rfl (by rw [show bC .eql ((l[k0].kind:Nat):Int) 4=some (decide (l[k0].kind=4)) from jS (n:=4),decide_eq_false h4])) (tz [(18,true)] 0 (go 2 ?_))
  refine ax (go 14 ?_)
  exact ⟨.inr rfl,_,(ESt A B rw P l (k0) (d) (0)),(aR rfl (aO [_] rfl rfl isAgg73 sizeOf73 (bK rfl rfl))),aA (.cons _ (.cons _ (.refl _))) (.refl _),⟨x0,k0,d,0,rfl,hcont _ _ _ (by rw [aC8,if_neg (fun h=>h4 (by rw [←bG hk0];exact h.1))];exact .ok _ _ _ rfl),hk0,by decide,fun _=>rfl,Nat.le_refl _,hu0,rfl⟩⟩
 refine go 2 ?_
 refine dx [b2,b1,P] (tz [(0,true),(1,true),(2,true),(3,true)] 15 (go 5 ?_))
 refine tx 4 rfl (bO false rfl rfl rfl (lA h0)) (tz [(5,true),(6,true),(7,true),(8,true),(9,true),(10,true),(11,true),(12,true),(13,true),(14,true),(15,true),(16,true),(17,true),(18,true)] 0 (go 15 ?_))
 refine ax (go 14 ?_)
 exact ⟨.inr rfl,_,(ESt A B rw P l (k0) (d0) (e0)),(aR rfl (aO [_] rfl rfl isAgg73 sizeOf73 (bK rfl rfl))),aA (.cons _ (.cons _ (.refl _))) (.refl _),⟨x0,k0,d0,e0,rfl,hn0 h0,hk0,he0,fun h=>absurd h h0,hl0,hu0,rfl⟩⟩
theorem zY(l:List Tok)(hok:TOk l)(d D:Nat)(ih:∀(A B:List Box)(rw:List bA)(P:Nat)(k:Nat),k<l.length -> aL prog 239 [pP P] [P] (ESt A B rw P l k d 0) (EAn A B rw P l d k (bL l D k))):∀(j:Nat),j <= 5 -> ∀(A B:List Box)(rw:List bA)(P:Nat)(k:Nat),k<l.length -> aL prog 234 [pP P,.c (.val (.int .i64 ((6-j:Nat):Int)))] [P] (ESt A B rw P l k d 0) (EAn A B rw P l d k (gS l (bL l D) j k))
 |0,_,A,B,rw,P,k,hk=>aKd A B rw P l k d (bL l D) hok hk fun A B rw P k hk=>ih A B rw P k hk
 |j+1,hj,A,B,rw,P,k,hk=>by
  have h:=aJ0 A B rw P l k d (6-(j+1)) (gS l (bL l D) j) (by omega) (fun k hk=>vV hok.last (fun k hk=>nP hok.last D k hk) j k hk) hok hk (fun A B rw P k hk=>by
   have h9:=zY l hok d D ih j (by omega) A B rw P k hk
   have e1:(((6-(j+1):Nat):Int)+1)=((6-j:Nat):Int):=by omega
   rw [e1];exact h9)
  rw [aP5,show 5-j=6-(j+1) by omega]
  exact h
theorem qU(l:List Tok)(hok:TOk l):∀(D:Nat),D <= 24 -> ∀(A B:List Box)(rw:List bA)(P:Nat)(k:Nat),k<l.length -> aL prog 239 [pP P] [P] (ESt A B rw P l k (24-D) 0) (EAn A B rw P l (24-D) k (bL l D k))
 |0,_,A,B,rw,P,k,hk=>aJs A B rw P l k hok hk
 |D+1,hD,A,B,rw,P,k,hk=>by
  have e1:24-(D+1)+1=24-D:=by omega
  exact aJi A B rw P l k (24-(D+1)) D hok hk (by omega)
   (fun A B rw P k hk=>by rw [e1];exact qU l hok D (by omega) A B rw P k hk)
   (fun A B rw P k hk=>by rw [e1];exact zY l hok (24-D) D (qU l hok D (by omega)) 5 (Nat.le_refl _) A B rw P k hk)
theorem aJy(A B:List Box)(rw:List bA)(P:Nat)(l:List Tok)(k:Nat)(hok:TOk l)(hk:k<l.length):aL prog 234 [pP P,.c (.val (.int .i64 1))] [P] (ESt A B rw P l k 0 0) (EAn A B rw P l 0 k (lJ l k)):=
 zY l hok 0 24 (qU l hok 24 (Nat.le_refl _)) 5 (Nat.le_refl _) A B rw P k hk
theorem Run.other{e0 k0 k e:Nat}{r:bN aH}{x y:aH}(h:Run e0 k0 r x k e)(he:e≠0):Run e0 k0 r y k e:=by
 rcases h with ⟨h0,h1,h2⟩|⟨h0,⟨_,h2⟩|h⟩
 ·exact .inl ⟨h0,h1,h2⟩
 ·exact absurd h2 he
 exact .inr ⟨h0,.inr h⟩
theorem aFi(l:List Tok)(k:Nat)(hok:TOk l)(hk:k<l.length)(s:Sto):aL prog 219 [.c (.sl l.length (l.flatMap aW)),.c (.val (.int .i64 (k:Int)))] [] s fun t s'=>∃x k1 e1,t=.tup [.agg (cU x),nI k1,nI e1] /\ Run 0 k (lJ l k) x k1 e1 /\ k1<l.length /\ e1<16 /\ s'=s:=by
 have hlen:=hok.len
 have hend:l[l.length-1].kind=5:=hok.last.2
 obtain ⟨bx,rw⟩:=s
 refine acB func219 rfl ?_
 show AWp prog _ ⟨54,[],⟨bx,rw⟩,[(0,.c (.sl l.length (l.flatMap aW))),(1,nI k)]⟩ _
 refine go 11 fun b1=>?_
 refine wcp false rfl (by simp [bC]) (go 4 ?_)
 refine wcp false rfl (by simp [bC];omega) (go 5 ?_)
 refine wyz rfl (qC rfl rfl rfl (by omega) (by omega)) ?_
 refine wyz rfl (bH aW aW l bJ (fun _=>rfl) (l.length-1) rfl rfl rfl (by omega) (by omega) (by decide) runUnderlying36 sizeOf66) (go 2 ?_)
 refine wcp false rfl (by rw [hend];rfl) (go 18 fun P=>?_)
 refine wcQ rfl call234 rfl (aJy [] _ _ _ l k hok hk) ?_
 rintro t2 s2 ⟨x2,k2,d2,e2,rfl,hr2,hk2,he2,hd2,hl2,hu2,rfl⟩
 refine go 7 fun b2=>?_
 by_cases her:e2=0
 ·refine go 4 ?_
  refine wcp false rfl (by rw [her];rfl) (go 6 ?_)
  refine dx [b2,P] (tz [(0,true),(1,true),(2,true),(3,true),(4,true),(5,false),(6,true),(7,true)] 0 (go 9 ?_))
  refine ax (go 2 ?_)
  exact ⟨.inr rfl,_,⟨bx,rw⟩,(pC rfl (aO [_,_] rfl rfl isAgg73 sizeOf73 (bK rfl rfl)) (aF rfl) (aF rfl)),aA (.cons _ (.cons _ (.cons _ (.refl _)))) (.refl _),⟨x2,k2,e2,by rw [her];rfl,hr2,hk2,he2,rfl⟩⟩
 refine go 4 ?_
 refine wcp true rfl (by simp [bC,her]) (go 4 ?_)
 refine dx [b2,P] (tz [(0,true),(1,true),(2,true),(3,true),(4,true),(5,true),(6,true),(7,true),(8,true),(9,false),(10,true),(11,true)] 0 (go 13 ?_))
 refine ax (go 3 ?_)
 exact ⟨.inr rfl,_,⟨bx,rw⟩,(pC rfl (aCn (Wk.agg (.r (.r (.r (.n .nil))))) (aO [_,_] rfl rfl isAgg73 sizeOf73 (bK rfl rfl))) (aF rfl) (aF rfl)),aA (.cons _ (.cons _ (.cons _ (.refl _)))) (.refl _),⟨.zero,k2,e2,rfl,(hr2.other her),hk2,he2,rfl⟩⟩
end
section
open Go.RowKit
abbrev PSt(A B:List Box)(rw:List bA)(P:Nat)(l:List Tok)(k dp e:Nat):Sto:=⟨A++⟨P,64,[.sl l.length (l.flatMap aW),.val (.int .i64 (k:Int)),.val (.int .i64 (dp:Int)),.val (.int .i64 (e:Int))]⟩::B,rw⟩
def PAn{α:Type}(A B:List Box)(rw:List bA)(P:Nat)(l:List Tok)(dp:Nat)(enc:α -> AT)(e k:Nat)(r:bN α)(t:AT)(s:Sto):Prop:=
 ∃x k1 e1,t=enc x /\ Run e k r x k1 e1 /\ k1<l.length /\ e1<16 /\ s=PSt A B rw P l k1 dp e1
def aBr(e x e1:Nat):Prop:=(e=0 -> x=e1) /\ (e≠0 -> e=e1)
theorem aBr.small{e x e1:Nat}(h:aBr e x e1)(he:e<16)(hx:x<16):e1<16:=by
 by_cases h0:e=0
 ·rw [←h.1 h0];exact hx
 rw [←h.2 h0];exact he
theorem aBr.run{α:Type}{e k x e1:Nat}{r:bN α}(h:aBr e x e1)(hx:x≠0)(hr:e=0 -> r=.err k x)(y:α):Run e k r y k e1:=by
 by_cases he:e=0
 ·obtain rfl:=h.1 he
  subst he
  exact .err _ _ _ _ (hr rfl) hx
 obtain rfl:=h.2 he
 exact .skip he _ _
theorem bHd{l:List Tok}(h:TOk l){k:Nat}(hk:k<l.length){s:List UInt8}(ha:dN l k s=true):k+1<l.length:=h.last.more hk (by rw [(kP ha).1];decide)
theorem aN7(A B:List Box)(rw:List bA)(P:Nat)(l:List Tok)(k dp x:Nat):aL prog 67 [pP P,.c (.val (.int .i64 (x:Int)))] [P] (PSt A B rw P l k dp 0) fun t s=>t=.tup [] /\ s=PSt A B rw P l k dp x:=by
 refine acB func67 rfl ?_
 show AWp prog _ ⟨13,[P],⟨A++⟨P,64,[.sl l.length (l.flatMap aW),nC k,nC dp,nC 0]⟩::B,rw⟩,[(0,pP P),(1,.c (.val (.int .i64 (x:Int))))]⟩ _
 refine go 6 ?_
 refine wcp true rfl (by rfl) (go 10 ?_)
 exact ⟨.inl rfl,_,(PSt A B rw P l (k) (dp) (x)),cH rfl,aA (.refl _) (.refl _),rfl,rfl⟩
theorem aN4(A B:List Box)(rw:List bA)(P:Nat)(l:List Tok)(k dp x e:Nat)(he0:e≠0):aL prog 67 [pP P,.c (.val (.int .i64 (x:Int)))] [P] (PSt A B rw P l k dp e) fun t s=>t=.tup [] /\ s=PSt A B rw P l k dp e:=by
 refine acB func67 rfl ?_
 show AWp prog _ ⟨13,[P],⟨A++⟨P,64,[.sl l.length (l.flatMap aW),nC k,nC dp,nC e]⟩::B,rw⟩,[(0,pP P),(1,.c (.val (.int .i64 (x:Int))))]⟩ _
 refine go 6 ?_
 refine wcp false rfl (lA he0) (go 4 ?_)
 exact ⟨.inl rfl,_,(PSt A B rw P l (k) (dp) (e)),cH rfl,aA (.refl _) (.refl _),rfl,rfl⟩
theorem lX(A B:List Box)(rw:List bA)(P:Nat)(l:List Tok)(k dp e:Nat)(x:Nat):aL prog 67 [pP P,.c (.val (.int .i64 (x:Int)))] [P] (PSt A B rw P l k dp e) fun t s=>∃e1,aBr e x e1 /\ t=.tup [] /\ s=PSt A B rw P l k dp e1:=by
 by_cases he:e=0
 ·subst he
  exact (aN7 A B rw P l k dp x).mono fun t s h=>⟨x,⟨fun _=>rfl,fun h=>absurd rfl h⟩,h⟩
 exact (aN4 A B rw P l k dp x e he).mono fun t s h=>⟨e,⟨fun h=>absurd h he,fun _=>rfl⟩,h⟩
theorem aEa(A B:List Box)(rw:List bA)(P:Nat)(l:List Tok)(k dp kk e:Nat)(sg:ByteArray)(hk:k<l.length)(he0:e≠0):aL prog 65 [pP P,.c (.val (.int .i64 (kk:Int))),.c (.val (.string sg))] [P] (PSt A B rw P l k dp e) fun t s=>t=.c (.val (.bool false)) /\ s=PSt A B rw P l k dp e:=by
 refine acB func65 rfl ?_
 show AWp prog _ ⟨42,[P],⟨A++⟨P,64,[.sl l.length (l.flatMap aW),nC k,nC dp,nC e]⟩::B,rw⟩,[(0,pP P),(1,.c (.val (.int .i64 (kk:Int)))),(2,.c (.val (.string sg)))]⟩ _
 refine go 6 ?_
 refine dx [P] (tz [(0,true),(1,true),(2,true),(3,true)] 32 (go 5 ?_))
 refine tx 4 rfl (bO false rfl rfl rfl (lA he0)) (tz [(5,true),(6,true),(7,true),(8,true),(9,true),(10,true),(11,true),(12,true),(13,true),(14,true),(15,true),(16,true),(17,true),(18,true),(19,true),(20,true),(21,true),(22,true),(23,true),(24,true),(25,true),(26,true),(27,true),(28,true),(29,true),(30,true),(31,true),(32,true),(33,true),(34,true),(35,true)] 0 (go 32 ?_))
 refine ax (go 2 ?_)
 exact bHe (s':=(PSt A B rw P l (k) (dp) (e))) rfl sb0 ⟨rfl,rfl⟩
theorem aEn(A B:List Box)(rw:List bA)(P:Nat)(l:List Tok)(k dp kk:Nat)(sg:ByteArray)(hk:k<l.length)(h4:¬l[k].kind=kk):aL prog 65 [pP P,.c (.val (.int .i64 (kk:Int))),.c (.val (.string sg))] [P] (PSt A B rw P l k dp 0) fun t s=>t=.c (.val (.bool false)) /\ s=PSt A B rw P l k dp 0:=by
 refine acB func65 rfl ?_
 show AWp prog _ ⟨42,[P],⟨A++⟨P,64,[.sl l.length (l.flatMap aW),nC k,nC dp,nC 0]⟩::B,rw⟩,[(0,pP P),(1,.c (.val (.int .i64 (kk:Int)))),(2,.c (.val (.string sg)))]⟩ _
 refine go 6 ?_
 refine dx [P] (tz [(0,true),(1,true),(2,true),(3,true)] 32 (go 5 ?_))
 refine tx 4 rfl (bO true rfl rfl rfl (by rfl)) (tz [(5,true),(6,true),(7,true),(8,true),(9,true),(10,true),(11,true),(12,true),(13,true)] 22 (go 10 ?_))
 refine tx 14 rfl (bH aW aW l bJ (fun _=>rfl) (k) rfl rfl rfl rfl hk (by decide) runUnderlying36 sizeOf66) (tz [(15,true),(16,true),(17,true)] 18 (go 4 ?_))
 refine tx 18 rfl (bO false rfl rfl rfl (by rw [show bC .eql ((l[k].kind:Nat):Int) ((kk:Nat):Int)=some (decide (l[k].kind=kk)) from jS,decide_eq_false h4])) (tz [(19,true),(20,true),(21,true),(22,true),(23,true),(24,true),(25,true),(26,true),(27,true),(28,true),(29,true),(30,true),(31,true),(32,true),(33,true),(34,true),(35,true)] 0 (go 18 ?_))
 refine ax (go 2 ?_)
 exact bHe (s':=(PSt A B rw P l (k) (dp) (0))) rfl sb0 ⟨rfl,rfl⟩
theorem aEr(A B:List Box)(rw:List bA)(P:Nat)(l:List Tok)(k dp kk:Nat)(sg:ByteArray)(hk:k<l.length)(h4:l[k].kind=kk)(ht:l[k].text=sg):aL prog 65 [pP P,.c (.val (.int .i64 (kk:Int))),.c (.val (.string sg))] [P] (PSt A B rw P l k dp 0) fun t s=>t=.c (.val (.bool true)) /\ s=PSt A B rw P l k dp 0:=by
 refine acB func65 rfl ?_
 show AWp prog _ ⟨42,[P],⟨A++⟨P,64,[.sl l.length (l.flatMap aW),nC k,nC dp,nC 0]⟩::B,rw⟩,[(0,pP P),(1,.c (.val (.int .i64 (kk:Int)))),(2,.c (.val (.string sg)))]⟩ _
 refine go 6 ?_
 refine dx [P] (tz [(0,true),(1,true),(2,true),(3,true)] 32 (go 5 ?_))
 refine tx 4 rfl (bO true rfl rfl rfl (by rfl)) (tz [(5,true),(6,true),(7,true),(8,true),(9,true),(10,true),(11,true),(12,true),(13,true)] 22 (go 10 ?_))
 refine tx 14 rfl (bH aW aW l bJ (fun _=>rfl) (k) rfl rfl rfl rfl hk (by decide) runUnderlying36 sizeOf66) (tz [(15,true),(16,true),(17,true)] 18 (go 4 ?_))
 refine tx 18 rfl (bO true rfl rfl rfl (by rw [h4];simp [bC])) (tz [(19,true),(20,true),(21,true),(22,true),(23,true),(24,true),(25,true),(26,true),(27,true),(28,true)] 7 (go 11 ?_))
 refine tx 29 rfl (bH aW aW l bJ (fun _=>rfl) (k) rfl rfl rfl rfl hk (by decide) runUnderlying36 sizeOf66) (tz [(30,true),(31,true),(32,true)] 3 (go 4 ?_))
 refine tx 33 rfl (aZ true rfl rfl rfl (by rw [ht];simp [oM])) (tz [(34,true),(35,true)] 0 (go 3 ?_))
 refine ax (go 2 ?_)
 exact bHe (s':=(PSt A B rw P l (k) (dp) (0))) rfl sb0 ⟨rfl,rfl⟩
theorem aDz(A B:List Box)(rw:List bA)(P:Nat)(l:List Tok)(k dp kk:Nat)(sg:ByteArray)(hk:k<l.length)(h4:l[k].kind=kk)(ht:¬l[k].text=sg):aL prog 65 [pP P,.c (.val (.int .i64 (kk:Int))),.c (.val (.string sg))] [P] (PSt A B rw P l k dp 0) fun t s=>t=.c (.val (.bool false)) /\ s=PSt A B rw P l k dp 0:=by
 refine acB func65 rfl ?_
 show AWp prog _ ⟨42,[P],⟨A++⟨P,64,[.sl l.length (l.flatMap aW),nC k,nC dp,nC 0]⟩::B,rw⟩,[(0,pP P),(1,.c (.val (.int .i64 (kk:Int)))),(2,.c (.val (.string sg)))]⟩ _
 refine go 6 ?_
 refine dx [P] (tz [(0,true),(1,true),(2,true),(3,true)] 32 (go 5 ?_))
 refine tx 4 rfl (bO true rfl rfl rfl (by rfl)) (tz [(5,true),(6,true),(7,true),(8,true),(9,true),(10,true),(11,true),(12,true),(13,true)] 22 (go 10 ?_))
 refine tx 14 rfl (bH aW aW l bJ (fun _=>rfl) (k) rfl rfl rfl rfl hk (by decide) runUnderlying36 sizeOf66) (tz [(15,true),(16,true),(17,true)] 18 (go 4 ?_))
 refine tx 18 rfl (bO true rfl rfl rfl (by rw [h4];simp [bC])) (tz [(19,true),(20,true),(21,true),(22,true),(23,true),(24,true),(25,true),(26,true),(27,true),(28,true)] 7 (go 11 ?_))
 refine tx 29 rfl (bH aW aW l bJ (fun _=>rfl) (k) rfl rfl rfl rfl hk (by decide) runUnderlying36 sizeOf66) (tz [(30,true),(31,true),(32,true)] 3 (go 4 ?_))
 refine tx 33 rfl (aZ false rfl rfl rfl (by simp [oM,ht])) (tz [(34,true),(35,true)] 0 (go 3 ?_))
 refine ax (go 2 ?_)
 exact bHe (s':=(PSt A B rw P l (k) (dp) (0))) rfl sb0 ⟨rfl,rfl⟩
theorem aCz(A B:List Box)(rw:List bA)(P:Nat)(l:List Tok)(k dp e:Nat)(sg:List UInt8)(hk:k<l.length):aL prog 65 [pP P,.c (.val (.int .i64 4)),.c (.val (.string (bytes sg)))] [P] (PSt A B rw P l k dp e) fun t s=>(e=0 /\ cS l k sg=true /\ t=.c (.val (.bool true)) /\ s=PSt A B rw P l k dp e)∨((e=0 -> cS l k sg=false) /\ t=.c (.val (.bool false)) /\ s=PSt A B rw P l k dp e):=by
 unfold cS
 rw [bG hk]
 by_cases he:e=0
 ·subst he
  by_cases h4:l[k].kind=4
  ·by_cases ht:l[k].text=bytes sg
   ·exact (aEr A B rw P l k dp 4 _ hk h4 ht).mono fun t s h=>.inl ⟨rfl,by simp [h4,ht],h⟩
   exact (aDz A B rw P l k dp 4 _ hk h4 ht).mono fun t s h=>.inr ⟨fun _=>by simp [ht],h⟩
  exact (aEn A B rw P l k dp 4 _ hk h4).mono fun t s h=>.inr ⟨fun _=>by simp [h4],h⟩
 exact (aEa A B rw P l k dp 4 e _ hk he).mono fun t s h=>.inr ⟨fun h0=>absurd h0 he,h⟩
theorem uG(A B:List Box)(rw:List bA)(P:Nat)(l:List Tok)(k dp e:Nat)(sg:List UInt8)(hk:k<l.length):aL prog 65 [pP P,.c (.val (.int .i64 3)),.c (.val (.string (bytes sg)))] [P] (PSt A B rw P l k dp e) fun t s=>(e=0 /\ dN l k sg=true /\ t=.c (.val (.bool true)) /\ s=PSt A B rw P l k dp e)∨((e=0 -> dN l k sg=false) /\ t=.c (.val (.bool false)) /\ s=PSt A B rw P l k dp e):=by
 unfold dN
 rw [bG hk]
 by_cases he:e=0
 ·subst he
  by_cases h4:l[k].kind=3
  ·by_cases ht:l[k].text=bytes sg
   ·exact (aEr A B rw P l k dp 3 _ hk h4 ht).mono fun t s h=>.inl ⟨rfl,by simp [h4,ht],h⟩
   exact (aDz A B rw P l k dp 3 _ hk h4 ht).mono fun t s h=>.inr ⟨fun _=>by simp [ht],h⟩
  exact (aEn A B rw P l k dp 3 _ hk h4).mono fun t s h=>.inr ⟨fun _=>by simp [h4],h⟩
 exact (aEa A B rw P l k dp 3 e _ hk he).mono fun t s h=>.inr ⟨fun h0=>absurd h0 he,h⟩
theorem kE(A B:List Box)(rw:List bA)(P:Nat)(l:List Tok)(k dp e:Nat)(sg:List UInt8)(hok:TOk l)(hk:k<l.length):aL prog 103 [pP P,.c (.val (.string (bytes sg)))] [P] (PSt A B rw P l k dp e) fun t s=>(e=0 /\ cS l k sg=true /\ k+1<l.length /\ t=.c (.val (.bool true)) /\ s=PSt A B rw P l (k+1) dp 0)∨((e=0 -> cS l k sg=false) /\ t=.c (.val (.bool false)) /\ s=PSt A B rw P l k dp e):=by
 have hlen:=hok.len
 refine acB func103 rfl ?_
 show AWp prog _ ⟨16,[P],⟨A++⟨P,64,[.sl l.length (l.flatMap aW),nC k,nC dp,nC e]⟩::B,rw⟩,[(0,pP P),(1,.c (.val (.string (bytes sg))))]⟩ _
 refine go 10 ?_
 refine wcQ rfl call65 rfl (aCz (A) _ _ _ l k dp e sg hk) ?_
 rintro t1 s1 (⟨rfl,ha1,rfl,rfl⟩|⟨ha1,rfl,rfl⟩)
 ·refine go 8 ?_
  have hm:=eF hok.last hk ha1
  refine go 4 ?_
  refine wad rfl (go 11 ?_)
  exact bHe (s':=(PSt A B rw P l (k+1) (dp) (0))) rfl sb0 (.inl ⟨rfl,ha1,hm,rfl,rfl⟩)
 refine go 11 ?_
 exact bHe (s':=(PSt A B rw P l (k) (dp) (e))) rfl sb0 (.inr ⟨ha1,rfl,rfl⟩)
theorem tG(A B:List Box)(rw:List bA)(P:Nat)(l:List Tok)(k dp e:Nat)(sg:List UInt8)(hok:TOk l)(hk:k<l.length):aL prog 108 [pP P,.c (.val (.string (bytes sg)))] [P] (PSt A B rw P l k dp e) fun t s=>(e=0 /\ dN l k sg=true /\ k+1<l.length /\ t=.c (.val (.bool true)) /\ s=PSt A B rw P l (k+1) dp 0)∨((e=0 -> dN l k sg=false) /\ t=.c (.val (.bool false)) /\ s=PSt A B rw P l k dp e):=by
 have hlen:=hok.len
 refine acB func108 rfl ?_
 show AWp prog _ ⟨16,[P],⟨A++⟨P,64,[.sl l.length (l.flatMap aW),nC k,nC dp,nC e]⟩::B,rw⟩,[(0,pP P),(1,.c (.val (.string (bytes sg))))]⟩ _
 refine go 10 ?_
 refine wcQ rfl call65 rfl (uG (A) _ _ _ l k dp e sg hk) ?_
 rintro t1 s1 (⟨rfl,ha1,rfl,rfl⟩|⟨ha1,rfl,rfl⟩)
 ·refine go 8 ?_
  have hm:=bHd hok hk ha1
  refine go 4 ?_
  refine wad rfl (go 11 ?_)
  exact bHe (s':=(PSt A B rw P l (k+1) (dp) (0))) rfl sb0 (.inl ⟨rfl,ha1,hm,rfl,rfl⟩)
 refine go 11 ?_
 exact bHe (s':=(PSt A B rw P l (k) (dp) (e))) rfl sb0 (.inr ⟨ha1,rfl,rfl⟩)
theorem eI(A B:List Box)(rw:List bA)(P:Nat)(l:List Tok)(k dp e:Nat)(sg:List UInt8)(hok:TOk l)(hk:k<l.length)(he:e<16):aL prog 105 [pP P,.c (.val (.string (bytes sg)))] [P] (PSt A B rw P l k dp e) (PAn A B rw P l dp (fun _=>.tup []) e k (fD l sg k)):=by
 have hlen:=hok.len
 refine acB func105 rfl ?_
 show AWp prog _ ⟨10,[P],⟨A++⟨P,64,[.sl l.length (l.flatMap aW),nC k,nC dp,nC e]⟩::B,rw⟩,[(0,pP P),(1,.c (.val (.string (bytes sg))))]⟩ _
 refine go 4 ?_
 refine wcQ rfl call103 rfl (kE (A) _ _ _ l k dp e sg hok hk) ?_
 rintro t1 s1 (⟨rfl,ha1,hm1,rfl,rfl⟩|⟨ha1,rfl,rfl⟩)
 ·refine go 5 ?_
  exact ⟨.inl rfl,_,(PSt A B rw P l (k+1) (dp) (0)),cH rfl,aA (.refl _) (.refl _),⟨(),k+1,0,rfl,.ok _ _ _ (by unfold fD;rw [if_pos ha1]),hm1,by decide,rfl⟩⟩
 refine go 6 ?_
 refine wcQ rfl call67 rfl (lX (A) _ _ _ l k dp e 4) ?_
 rintro t4 s4 ⟨e4,hf4,rfl,rfl⟩
 refine go 1 ?_
 exact ⟨.inl rfl,_,(PSt A B rw P l (k) (dp) (e4)),cH rfl,aA (.refl _) (.refl _),⟨(),k,e4,rfl,hf4.run (by decide) (fun h=>by unfold fD;rw [if_neg (by rw [ha1 h];decide)]) _,hk,(hf4.small he (by decide)),rfl⟩⟩
theorem aO4(A B:List Box)(rw:List bA)(P:Nat)(l:List Tok)(k dp e:Nat)(hok:TOk l)(hk:k<l.length)(he:e<16)(he0:e≠0):aL prog 102 [pP P] [P] (PSt A B rw P l k dp e) (PAn A B rw P l dp (fun x=>.c (.val (.string x))) e k (jW l k)):=by
 have hlen:=hok.len
 refine acB func102 rfl ?_
 show AWp prog _ ⟨43,[P],⟨A++⟨P,64,[.sl l.length (l.flatMap aW),nC k,nC dp,nC e]⟩::B,rw⟩,[(0,pP P)]⟩ _
 refine go 7 ?_
 refine dx [P] (tz [(0,true),(1,true),(2,true),(3,true)] 15 (go 5 ?_))
 refine tx 4 rfl (bO true rfl rfl rfl (by simp [bC,he0])) (tz [(5,true),(6,true),(7,true),(8,true),(9,true),(10,true),(11,true),(12,true),(13,true),(14,true),(15,true),(16,true),(17,true),(18,true)] 0 (go 15 ?_))
 refine ax (go 5 ?_)
 refine wcQ rfl call67 rfl (lX (A) _ _ _ l k dp e 4) ?_
 rintro t2 s2 ⟨e2,hf2,rfl,rfl⟩
 refine go 9 ?_
 exact ⟨.inr rfl,_,(PSt A B rw P l (k) (dp) (e2)),(aR rfl (aF rfl)),aA (.refl _) (.refl _),⟨aK,k,e2,rfl,hf2.run (by decide) (fun h=>absurd h he0) _,hk,(hf2.small he (by decide)),rfl⟩⟩
theorem aOt(A B:List Box)(rw:List bA)(P:Nat)(l:List Tok)(k dp:Nat)(hok:TOk l)(hk:k<l.length)(h4:¬l[k].kind=1):aL prog 102 [pP P] [P] (PSt A B rw P l k dp 0) (PAn A B rw P l dp (fun x=>.c (.val (.string x))) 0 k (jW l k)):=by
 have hlen:=hok.len
 refine acB func102 rfl ?_
 show AWp prog _ ⟨43,[P],⟨A++⟨P,64,[.sl l.length (l.flatMap aW),nC k,nC dp,nC 0]⟩::B,rw⟩,[(0,pP P)]⟩ _
 refine go 7 ?_
 refine dx [P] (tz [(0,true),(1,true),(2,true),(3,true)] 15 (go 5 ?_))
 refine tx 4 rfl (bO false rfl rfl rfl (by rfl)) (tz [(5,true),(6,true),(7,true),(8,true),(9,true),(10,true),(11,true),(12,true),(13,true)] 5 (go 10 ?_))
 refine tx 14 rfl (bH aW aW l bJ (fun _=>rfl) (k) rfl rfl rfl rfl hk (by decide) runUnderlying36 sizeOf66) (tz [(15,true),(16,true)] 2 (go 3 ?_))
 refine tx 17 rfl (bO true rfl rfl rfl (by simp [bC];omega)) (tz [(18,true)] 0 (go 2 ?_))
 refine ax (go 5 ?_)
 refine wcQ rfl call67 rfl (lX (A) _ _ _ l k dp 0 4) ?_
 rintro t2 s2 ⟨e2,hf2,rfl,rfl⟩
 obtain rfl:=hf2.1 rfl
 refine go 9 ?_
 exact ⟨.inr rfl,_,(PSt A B rw P l (k) (dp) (4)),(aR rfl (aF rfl)),aA (.refl _) (.refl _),⟨aK,k,4,rfl,.err _ _ _ _ (by unfold jW;rw [bG hk,if_neg h4]) (by decide),hk,(by decide),rfl⟩⟩
theorem aOl(A B:List Box)(rw:List bA)(P:Nat)(l:List Tok)(k dp:Nat)(hok:TOk l)(hk:k<l.length)(h4:l[k].kind=1):aL prog 102 [pP P] [P] (PSt A B rw P l k dp 0) (PAn A B rw P l dp (fun x=>.c (.val (.string x))) 0 k (jW l k)):=by
 have hlen:=hok.len
 refine acB func102 rfl ?_
 show AWp prog _ ⟨43,[P],⟨A++⟨P,64,[.sl l.length (l.flatMap aW),nC k,nC dp,nC 0]⟩::B,rw⟩,[(0,pP P)]⟩ _
 refine go 7 ?_
 refine dx [P] (tz [(0,true),(1,true),(2,true),(3,true)] 15 (go 5 ?_))
 refine tx 4 rfl (bO false rfl rfl rfl (by rfl)) (tz [(5,true),(6,true),(7,true),(8,true),(9,true),(10,true),(11,true),(12,true),(13,true)] 5 (go 10 ?_))
 refine tx 14 rfl (bH aW aW l bJ (fun _=>rfl) (k) rfl rfl rfl rfl hk (by decide) runUnderlying36 sizeOf66) (tz [(15,true),(16,true)] 2 (go 3 ?_))
 refine tx 17 rfl (bO false rfl rfl rfl (by rw [h4];rfl)) (tz [(18,true)] 0 (go 2 ?_))
 refine ax (go 6 ?_)
 have hm:=hok.last.more hk (by rw [bG hk,h4];decide)
 refine go 4 ?_
 refine wad rfl (go 6 ?_)
 refine dx [P] (tz [(0,true),(1,true),(2,true),(3,true),(4,true),(5,true),(6,true),(7,true)] 5 (go 9 ?_))
 refine tx 8 rfl (qC rfl rfl rfl (by omega) (by omega)) ?_
 refine tx 9 rfl (bH aW aW l bJ (fun _=>rfl) k rfl rfl rfl (by omega) hk (by decide) runUnderlying36 sizeOf66) (tz [(10,true),(11,true),(12,true)] 0 (go 4 ?_))
 refine ax (go 2 ?_)
 exact ⟨.inr rfl,_,(PSt A B rw P l (k+1) (dp) (0)),(aR rfl (aF rfl)),aA (.refl _) (.refl _),⟨l[k].text,k+1,0,rfl,.ok _ _ _ (by unfold jW;rw [bG hk,if_pos h4]),hm,by decide,rfl⟩⟩
theorem jD(A B:List Box)(rw:List bA)(P:Nat)(l:List Tok)(k dp e:Nat)(hok:TOk l)(hk:k<l.length)(he:e<16):aL prog 102 [pP P] [P] (PSt A B rw P l k dp e) (PAn A B rw P l dp (fun x=>.c (.val (.string x))) e k (jW l k)):=by
 by_cases h0:e=0
 ·subst h0
  by_cases h4:l[k].kind=1
  ·exact aOl A B rw P l k dp hok hk h4
  exact aOt A B rw P l k dp hok hk h4
 exact aO4 A B rw P l k dp e hok hk he h0
theorem aQy(A B:List Box)(rw:List bA)(P:Nat)(l:List Tok)(k dp e:Nat)(hok:TOk l)(hk:k<l.length)(he:e<16)(he0:e≠0):aL prog 104 [pP P] [P] (PSt A B rw P l k dp e) (PAn A B rw P l dp (fun x=>nI x) e k (qE l k)):=by
 have hlen:=hok.len
 refine acB func104 rfl ?_
 show AWp prog _ ⟨43,[P],⟨A++⟨P,64,[.sl l.length (l.flatMap aW),nC k,nC dp,nC e]⟩::B,rw⟩,[(0,pP P)]⟩ _
 refine go 7 ?_
 refine dx [P] (tz [(0,true),(1,true),(2,true),(3,true)] 15 (go 5 ?_))
 refine tx 4 rfl (bO true rfl rfl rfl (by simp [bC,he0])) (tz [(5,true),(6,true),(7,true),(8,true),(9,true),(10,true),(11,true),(12,true),(13,true),(14,true),(15,true),(16,true),(17,true),(18,true)] 0 (go 15 ?_))
 refine ax (go 5 ?_)
 refine wcQ rfl call67 rfl (lX (A) _ _ _ l k dp e 4) ?_
 rintro t2 s2 ⟨e2,hf2,rfl,rfl⟩
 refine go 9 ?_
 exact ⟨.inr rfl,_,(PSt A B rw P l (k) (dp) (e2)),(aR rfl (aF rfl)),aA (.refl _) (.refl _),⟨0,k,e2,rfl,hf2.run (by decide) (fun h=>absurd h he0) _,hk,(hf2.small he (by decide)),rfl⟩⟩
theorem aP1(A B:List Box)(rw:List bA)(P:Nat)(l:List Tok)(k dp:Nat)(hok:TOk l)(hk:k<l.length)(h4:¬l[k].kind=2):aL prog 104 [pP P] [P] (PSt A B rw P l k dp 0) (PAn A B rw P l dp (fun x=>nI x) 0 k (qE l k)):=by
 have hlen:=hok.len
 refine acB func104 rfl ?_
 show AWp prog _ ⟨43,[P],⟨A++⟨P,64,[.sl l.length (l.flatMap aW),nC k,nC dp,nC 0]⟩::B,rw⟩,[(0,pP P)]⟩ _
 refine go 7 ?_
 refine dx [P] (tz [(0,true),(1,true),(2,true),(3,true)] 15 (go 5 ?_))
 refine tx 4 rfl (bO false rfl rfl rfl (by rfl)) (tz [(5,true),(6,true),(7,true),(8,true),(9,true),(10,true),(11,true),(12,true),(13,true)] 5 (go 10 ?_))
 refine tx 14 rfl (bH aW aW l bJ (fun _=>rfl) (k) rfl rfl rfl rfl hk (by decide) runUnderlying36 sizeOf66) (tz [(15,true),(16,true)] 2 (go 3 ?_))
 refine tx 17 rfl (bO true rfl rfl rfl (by simp [bC];omega)) (tz [(18,true)] 0 (go 2 ?_))
 refine ax (go 5 ?_)
 refine wcQ rfl call67 rfl (lX (A) _ _ _ l k dp 0 4) ?_
 rintro t2 s2 ⟨e2,hf2,rfl,rfl⟩
 obtain rfl:=hf2.1 rfl
 refine go 9 ?_
 exact ⟨.inr rfl,_,(PSt A B rw P l (k) (dp) (4)),(aR rfl (aF rfl)),aA (.refl _) (.refl _),⟨0,k,4,rfl,.err _ _ _ _ (by unfold qE;rw [bG hk,if_neg h4]) (by decide),hk,(by decide),rfl⟩⟩
theorem aQh(A B:List Box)(rw:List bA)(P:Nat)(l:List Tok)(k dp:Nat)(hok:TOk l)(hk:k<l.length)(h4:l[k].kind=2):aL prog 104 [pP P] [P] (PSt A B rw P l k dp 0) (PAn A B rw P l dp (fun x=>nI x) 0 k (qE l k)):=by
 have hlen:=hok.len
 refine acB func104 rfl ?_
 show AWp prog _ ⟨43,[P],⟨A++⟨P,64,[.sl l.length (l.flatMap aW),nC k,nC dp,nC 0]⟩::B,rw⟩,[(0,pP P)]⟩ _
 refine go 7 ?_
 refine dx [P] (tz [(0,true),(1,true),(2,true),(3,true)] 15 (go 5 ?_))
 refine tx 4 rfl (bO false rfl rfl rfl (by rfl)) (tz [(5,true),(6,true),(7,true),(8,true),(9,true),(10,true),(11,true),(12,true),(13,true)] 5 (go 10 ?_))
 refine tx 14 rfl (bH aW aW l bJ (fun _=>rfl) (k) rfl rfl rfl rfl hk (by decide) runUnderlying36 sizeOf66) (tz [(15,true),(16,true)] 2 (go 3 ?_))
 refine tx 17 rfl (bO false rfl rfl rfl (by rw [h4];rfl)) (tz [(18,true)] 0 (go 2 ?_))
 refine ax (go 6 ?_)
 have hm:=hok.last.more hk (by rw [bG hk,h4];decide)
 refine go 4 ?_
 refine wad rfl (go 6 ?_)
 refine dx [P] (tz [(0,true),(1,true),(2,true),(3,true),(4,true),(5,true),(6,true),(7,true)] 5 (go 9 ?_))
 refine tx 8 rfl (qC rfl rfl rfl (by omega) (by omega)) ?_
 refine tx 9 rfl (bH aW aW l bJ (fun _=>rfl) k rfl rfl rfl (by omega) hk (by decide) runUnderlying36 sizeOf66) (tz [(10,true),(11,true),(12,true)] 0 (go 4 ?_))
 refine ax (go 2 ?_)
 exact ⟨.inr rfl,_,(PSt A B rw P l (k+1) (dp) (0)),(aR rfl (aF rfl)),aA (.refl _) (.refl _),⟨l[k].num,k+1,0,rfl,.ok _ _ _ (by unfold qE;rw [bG hk,if_pos h4]),hm,by decide,rfl⟩⟩
theorem aGv(A B:List Box)(rw:List bA)(P:Nat)(l:List Tok)(k dp e:Nat)(hok:TOk l)(hk:k<l.length)(he:e<16):aL prog 104 [pP P] [P] (PSt A B rw P l k dp e) (PAn A B rw P l dp (fun x=>nI x) e k (qE l k)):=by
 by_cases h0:e=0
 ·subst h0
  by_cases h4:l[k].kind=2
  ·exact aQh A B rw P l k dp hok hk h4
  exact aP1 A B rw P l k dp hok hk h4
 exact aQy A B rw P l k dp e hok hk he h0
theorem aPi(A B:List Box)(rw:List bA)(P:Nat)(l:List Tok)(k dp:Nat)(hok:TOk l)(hk:k<l.length):aL prog 201 [pP P] [P] (PSt A B rw P l k dp 0) (PAn A B rw P l dp (fun x=>.agg (cU x)) 0 k (lJ l k)):=by
 have hlen:=hok.len
 refine acB func201 rfl ?_
 show AWp prog _ ⟨34,[P],⟨A++⟨P,64,[.sl l.length (l.flatMap aW),nC k,nC dp,nC 0]⟩::B,rw⟩,[(0,pP P)]⟩ _
 refine go 12 fun b1=>?_
 refine wcp false rfl (by rfl) (go 6 ?_)
 refine dx [b1,P] (tz [(0,true),(1,true),(2,true),(3,true),(4,true),(5,true),(6,true),(7,true)] 9 (go 9 ?_))
 refine t2 8 13 rfl ?_ ?_
 ·refine (bD [] rfl rfl (by decide) call219 rfl (aFi l k hok hk _) bDl bDl (fun _=>bDl) ?_)
  rintro t2 s2 ⟨x2,k2,e2,rfl,hr2,hk2,he2,rfl⟩
  refine tz [(9,true),(10,true),(11,true),(12,true),(13,false),(14,false),(15,true),(16,true)] 0 (go 9 fun b2=>?_)
  refine ax (go 22 ?_)
  exact ⟨.inr rfl,_,(PSt A B rw P l (k2) (dp) (e2)),(aR rfl (aO [_] rfl rfl isAgg73 sizeOf73 (bK rfl rfl))),aA (.cons _ (.cons _ (.refl _))) (.refl _),⟨x2,k2,e2,rfl,hr2,hk2,he2,rfl⟩⟩
 refine (jK rfl rfl (by decide) zeroValue73 rfl fun b3=>?_)
 refine ox 8 rfl rfl (bD [] rfl rfl (by decide) call219 rfl (aFi l k hok hk _) bDl bDl (fun _=>bDl) ?_)
 rintro t3 s3 ⟨x3,k3,e3,rfl,hr3,hk3,he3,rfl⟩
 refine tz [(9,true),(10,true),(11,true),(12,true),(14,false),(15,true),(16,true)] 0 (go 8 ?_)
 refine ax (go 22 ?_)
 exact ⟨.inr rfl,_,(PSt A B rw P l (k3) (dp) (e3)),(aR rfl (aO [_] rfl rfl isAgg73 sizeOf73 (bK rfl rfl))),aA (.cons _ (.cons _ (.refl _))) (.refl _),⟨x3,k3,e3,rfl,hr3,hk3,he3,rfl⟩⟩
theorem aOp(A B:List Box)(rw:List bA)(P:Nat)(l:List Tok)(k dp e:Nat)(hok:TOk l)(hk:k<l.length)(he:e<16)(he0:e≠0):aL prog 201 [pP P] [P] (PSt A B rw P l k dp e) (PAn A B rw P l dp (fun x=>.agg (cU x)) e k (lJ l k)):=by
 have hlen:=hok.len
 refine acB func201 rfl ?_
 show AWp prog _ ⟨34,[P],⟨A++⟨P,64,[.sl l.length (l.flatMap aW),nC k,nC dp,nC e]⟩::B,rw⟩,[(0,pP P)]⟩ _
 refine go 12 fun b1=>?_
 refine wcp true rfl (by simp [bC,he0]) (go 11 ?_)
 exact ⟨.inr rfl,_,(PSt A B rw P l (k) (dp) (e)),(eK (Wk.agg (.r (.r (.r (.n .nil))))) (aR rfl (aO [] rfl rfl isAgg73 sizeOf73 (bK rfl rfl)))),aA (.cons _ (.refl _)) (.refl _),⟨.zero,k,e,rfl,.skip he0 _ _,hk,he,rfl⟩⟩
theorem rZ(A B:List Box)(rw:List bA)(P:Nat)(l:List Tok)(k dp e:Nat)(hok:TOk l)(hk:k<l.length)(he:e<16):aL prog 201 [pP P] [P] (PSt A B rw P l k dp e) (PAn A B rw P l dp (fun x=>.agg (cU x)) e k (lJ l k)):=by
 by_cases h0:e=0
 ·subst h0;exact aPi A B rw P l k dp hok hk
 exact aOp A B rw P l k dp e hok hk he h0
theorem aNu(A B:List Box)(rw:List bA)(P:Nat)(l:List Tok)(k dp e:Nat)(hok:TOk l)(hk:k<l.length)(he:e<16):aL prog 218 [pP P] [P] (PSt A B rw P l k dp e) (PAn A B rw P l dp (fun x=>.agg (encR x)) e k (xV l k)):=by
 have hlen:=hok.len
 refine acB func218 rfl ?_
 show AWp prog _ ⟨16,[P],⟨A++⟨P,64,[.sl l.length (l.flatMap aW),nC k,nC dp,nC e]⟩::B,rw⟩,[(0,pP P)]⟩ _
 refine go 8 fun b1=>?_
 refine wcQ rfl call102 rfl (jD (_::A) _ _ _ l k dp e hok hk he) ?_
 rintro t1 s1 ⟨x1,k1,e1,rfl,hr1,hk1,he1,rfl⟩
 refine go 9 fun b2=>?_
 refine wcQ rfl call103 rfl (kE (_::_::A) _ _ _ l k1 dp e1 [91] hok hk1) ?_
 rintro t2 s2 (⟨rfl,ha2,hm2,rfl,rfl⟩|⟨ha2,rfl,rfl⟩)
 ·refine go 6 ?_
  refine wcQ rfl call201 rfl (rZ (_::_::A) _ _ _ l (k1+1) dp 0 hok hm2 (by decide)) ?_
  rintro t4 s4 ⟨x4,k4,e4,rfl,hr4,hk4,he4,rfl⟩
  refine wo rfl (bDk bDs rfl (.cons rfl .nil) (aV fO cU x4 (fP _) rfl rfl) ?_)
  refine go 6 ?_
  refine wcQ rfl call105 rfl (eI (_::_::A) _ _ _ l k4 dp e4 [93] hok hk4 he4) ?_
  rintro t5 s5 ⟨x5,k5,e5,rfl,hr5,hk5,he5,rfl⟩
  refine go 9 ?_
  exact ⟨.inr rfl,_,(PSt A B rw P l (k5) (dp) (e5)),(aR rfl (aO [_] rfl rfl isAgg75 sizeOf75 (bK rfl rfl))),aA (.cons _ (.cons _ (.refl _))) (.refl _),⟨⟨x1,[x4]⟩,k5,e5,rfl,hr1.bind (f:=jT l) (Run.eq (Run.from (hr4.bind (f:=fun e k=>(fD l [93] k).bind fun _ k=>.ok ⟨x1,[e]⟩ k) (hr5.map (f:=fun _=>cY.mk x1 [x4])))) fun _=>by unfold jT;rw [if_pos ha2]),hk5,he5,rfl⟩⟩
 refine go 12 ?_
 exact ⟨.inr rfl,_,(PSt A B rw P l (k1) (dp) (e1)),(eK (Wk.agg (.r (.n .nil))) (aR rfl (aO [_] rfl rfl isAgg75 sizeOf75 (bK rfl rfl)))),aA (.cons _ (.cons _ (.refl _))) (.refl _),⟨⟨x1,[]⟩,k1,e1,rfl,hr1.bind (f:=jT l) ((Run.pure _ _ _).eq fun h=>by unfold jT;rw [if_neg (by rw [ha2 h];decide)]),hk1,he1,rfl⟩⟩
theorem aGn(A B:List Box)(rw:List bA)(P:Nat)(l:List Tok)(k dp e:Nat)(hok:TOk l)(hk:k<l.length)(he:e<16):aL prog 221 [pP P] [P] (PSt A B rw P l k dp e) (PAn A B rw P l dp (fun x=>.agg (eJ x)) e k (rC l k)):=by
 have hlen:=hok.len
 refine acB func221 rfl ?_
 show AWp prog _ ⟨11,[P],⟨A++⟨P,64,[.sl l.length (l.flatMap aW),nC k,nC dp,nC e]⟩::B,rw⟩,[(0,pP P)]⟩ _
 refine go 9 fun b1=>?_
 refine wcQ rfl call108 rfl (tG (_::A) _ _ _ l k dp e [109,117,116,101,120] hok hk) ?_
 rintro t1 s1 (⟨rfl,ha1,hm1,rfl,rfl⟩|⟨ha1,rfl,rfl⟩)
 ·refine go 6 ?_
  refine wcQ rfl call218 rfl (aNu (_::A) _ _ _ l (k+1) dp 0 hok hm1 (by decide)) ?_
  rintro t3 s3 ⟨x3,k3,e3,rfl,hr3,hk3,he3,rfl⟩
  refine go 6 ?_
  exact ⟨.inr rfl,_,(PSt A B rw P l (k3) (dp) (e3)),(eK (Wk.agg (.r (.r (.r (.r (.r (.r (.n .nil)))))))) (aR rfl (aO [] rfl rfl isAgg141 sizeOf141 (bK rfl rfl)))),aA (.cons _ (.refl _)) (.refl _),⟨⟨true,x3,.zero⟩,k3,e3,rfl,(Run.from (hr3.map (f:=fun r=>eN.mk true r .zero))).eq fun _=>by unfold rC;rw [if_pos ha1],hk3,he3,rfl⟩⟩
 refine go 8 ?_
 refine wcQ rfl call201 rfl (rZ (_::A) _ _ _ l k dp e hok hk he) ?_
 rintro t5 s5 ⟨x5,k5,e5,rfl,hr5,hk5,he5,rfl⟩
 refine go 5 ?_
 exact ⟨.inr rfl,_,(PSt A B rw P l (k5) (dp) (e5)),(eK (Wk.agg (.r (.r (.n (.r (.r (.r (.r .nil)))))))) (aR rfl (aO [] rfl rfl isAgg141 sizeOf141 (bK rfl rfl)))),aA (.cons _ (.refl _)) (.refl _),⟨⟨false,.zero,x5⟩,k5,e5,rfl,(hr5.map (f:=fun e=>eN.mk false .zero e)).eq fun h=>by unfold rC;rw [if_neg (by rw [ha1 h];decide)],hk5,he5,rfl⟩⟩
end
end Go.Proofs.YtojinfngbbajgaaGreatDoor
