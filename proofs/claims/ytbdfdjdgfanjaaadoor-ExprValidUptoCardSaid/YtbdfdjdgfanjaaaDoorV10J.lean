import Derived.Test.YtbdfdjdgfanjaaaDoorV3J
import Derived.Test.YtbdfdjdgfanjaaaDoorV9J
import Derived.Test.YtbdfdjdgfanjaaaDoorCards
import Derived.Test.YtbdfdjdgfanjaaaDoorTie
import Derived.KernelRfl
import Derived.ProofKit
import Derived.OpenShut
import Derived.Carry
import Derived.Deep.DeepHandedRow
import Derived.LaidMore
import Derived.Lib.LaidTab
import Derived.Shelf.Vars
import Derived.Test.YtbdfdjdgfanjaaaDoorV4J
import Derived.Lib.SlBytesConst
import Derived.Test.YtbdfdjdgfanjaaaDoorV8J
import Derived.Test.YtbdfdjdgfanjaaaDoorV5J
import Derived.Test.YtbdfdjdgfanjaaaDoorV6J
import Derived.Test.YtbdfdjdgfanjaaaDoorV7J
import Derived.Test.YtbdfdjdgfanjaaaDoorV1J
import Derived.Test.YtbdfdjdgfanjaaaDoorRows
import Derived.ChangeArms
set_option linter.all false
set_option synthInstance.maxHeartbeats 1000000
set_option synthInstance.maxSize 1000000
set_option maxHeartbeats 1600000
set_option maxRecDepth 100000
namespace Go.Proofs.YtbdfdjdgfanjaaaDoor
open Go.Proofs.Tryd
open List (length_append length_cons length_nil mem_append mem_cons not_mem_nil append_assoc getElem_mem take_of_length_le)
section
open Go.RowKit
theorem aP5(l:List Tok)(single:Nat -> bN aH)(j k:Nat):gS l single (j+1) k=(gS l single j k).bind fun x k=>fR l (gS l single j) (5-j) (l.length+1) x k:=by
 rw [gS];cases gS l single j k<;>rfl
theorem aC8(l:List Tok)(sub:Nat -> bN aH)(level n:Nat)(x:aH)(k:Nat):fR l sub level (n+1) x k=if (bU l k).kind=4 /\ (binOp (bU l k).text).2=level then (sub (k+1)).bind fun y k2=>fR l sub level n (.mk ((binOp (bU l k).text).1:Int) 0 aK [x,y]) k2 else .ok x k:=by
 rw [fR]
 split
 ·cases sub (k+1)<;>rfl
 rfl
theorem aKd(A B:List Box)(rw:List bA)(P:Nat)(l:List Tok)(k d:Nat)(sub:Nat -> bN aH)(hok:TOk l)(hk:k<l.length)(ih:∀(A B:List Box)(rw:List bA)(P:Nat)(k:Nat),k<l.length -> aL prog 40 [pP P] [P] (ESt A B rw P l k d 0) (EAn A B rw P l d k (sub k))):aL prog 21 [pP P,.c (.val (.int .i64 6))] [P] (ESt A B rw P l k d 0) (EAn A B rw P l d k (sub k)):=by
 have hlen:=hok.len
 refine acX 71 func21 ?_
 refine go 9 fun b1=>?_
 refine wcp true rfl rfl (go 6 ?_)
 refine wcQ rfl call40 rfl (ih (_::A) _ _ _ k hk) ?_
 rintro t2 s2 ⟨x2,k2,d2,e2,rfl,hr2,hk2,he2,hd2,hl2,hu2,rfl⟩
 refine go 5 ?_
 exact ⟨.inr rfl,_,(ESt A B rw P l (k2) (d2) (e2)),(aR rfl (aO [] rfl rfl isAgg25 sizeOf25 (bK rfl rfl))),aA (.cons _ (.refl _)) (.refl _),⟨x2,k2,d2,e2,rfl,hr2,hk2,he2,hd2,hl2,hu2,rfl⟩⟩
theorem aJ0(A B:List Box)(rw:List bA)(P:Nat)(l:List Tok)(k d lv:Nat)(sub:Nat -> bN aH)(hlv:lv <= 5)(hin:∀k,k<l.length -> (sub k).In l k)(hok:TOk l)(hk:k<l.length)(ih:∀(A B:List Box)(rw:List bA)(P:Nat)(k:Nat),k<l.length -> aL prog 21 [pP P,.c (.val (.int .i64 ((lv:Nat)+1:Int)))] [P] (ESt A B rw P l k d 0) (EAn A B rw P l d k (sub k))):aL prog 21 [pP P,.c (.val (.int .i64 (lv:Int)))] [P] (ESt A B rw P l k d 0) (EAn A B rw P l d k ((sub k).bind fun x k=>fR l sub lv (l.length+1) x k)):=by
 have hlen:=hok.len
 refine acX 71 func21 ?_
 refine go 9 fun b1=>?_
 refine wcp false rfl (by simp [bC];omega) (go 9 ?_)
 refine wad rfl ?_
 refine wcQ rfl call21 rfl (ih (_::A) _ _ _ k hk) ?_
 rintro t2 s2 ⟨x2,k2,d2,e2,rfl,hr2,hk2,he2,hd2,hl2,hu2,rfl⟩
 refine go 6 fun b2=>?_
 refine fM (fun g:aH×Nat×Nat×Nat=>(⟨71,[b2,b1,P],⟨⟨b2,25,cU (g.1)⟩::⟨b1,25,[.val (.int .i64 0),.val (.int .i64 0),.val (.string ⟨#[]⟩),.val (.slice none 0 0)]⟩::(A++⟨P,54,[.sl l.length (l.flatMap aW),.val (.int .i64 (((g.2.1):Nat):Int)),.val (.int .i64 (((g.2.2.1):Nat):Int)),.val (.int .i64 (((g.2.2.2):Nat):Int))]⟩::B),rw⟩,[(5,pP b2),(4,pP b1),(1,nI lv),(0,pP P)]⟩:AS)) (fun g=>g.2.1<l.length /\ g.2.2.2<16 /\ (g.2.2.2=0 -> g.2.2.1=d) /\ d <= g.2.2.1 /\ g.2.2.1 <= 24 /\ (g.2.2.2≠0 -> Run 0 k ((sub k).bind fun x k=>fR l sub lv (l.length+1) x k) g.1 g.2.1 g.2.2.2) /\ (g.2.2.2=0 -> ∃n,l.length<n+g.2.1 /\ ∀z k' e',Run 0 g.2.1 (fR l sub lv n g.1 g.2.1) z k' e' -> Run 0 k ((sub k).bind fun x k=>fR l sub lv (l.length+1) x k) z k' e')) (fun g=>if g.2.2.2=0 then l.length-g.2.1+1 else 0) (x2,k2,d2,e2) (cQf (.refl _) (.refl _) (fun _ h=>h) (sA rfl)) ⟨hk2,he2,hd2,hl2,hu2,fun h=>hr2.bind (.skip h _ _),fun h=>⟨l.length+1,by show l.length<l.length+1+k2;omega,fun z k' e' h2=>hr2.bind (by rw [show e2=0 from h];exact h2)⟩⟩ ?_
 rintro ⟨x0,k0,d0,e0⟩ ⟨hk0,he0,hd0,hl0,hu0,hn0,hc0⟩
 dsimp only at hk0 he0 hd0 hl0 hu0 hn0 hc0
 show AWp prog _ (⟨71,[b2,b1,P],⟨⟨b2,25,cU (x0)⟩::⟨b1,25,[.val (.int .i64 0),.val (.int .i64 0),.val (.string ⟨#[]⟩),.val (.slice none 0 0)]⟩::(A++⟨P,54,[.sl l.length (l.flatMap aW),.val (.int .i64 (((k0):Nat):Int)),.val (.int .i64 (((d0):Nat):Int)),.val (.int .i64 (((e0):Nat):Int))]⟩::B),rw⟩,[(5,pP b2),(4,pP b1),(1,nI lv),(0,pP P)]⟩:AS) _
 by_cases h0:e0=0
 ·subst h0
  obtain rfl:d=d0:=(hd0 rfl).symm
  obtain ⟨n0,hn1,hcont⟩:=hc0 rfl
  obtain ⟨m,rfl⟩:∃m,n0=m+1:=⟨n0-1,by omega⟩
  by_cases h4:l[k0].kind=4
  ·by_cases hlv2:(binOp l[k0].text).2=lv
   ·refine go 2 ?_
    refine dx [b2,b1,P] (tz [(0,true),(1,true),(2,true),(3,true)] 15 (go 5 ?_))
    refine tx 4 rfl (bO true rfl rfl rfl (by rfl)) (tz [(5,true),(6,true),(7,true),(8,true),(9,true),(10,true),(11,true),(12,true),(13,true)] 5 (go 10 ?_))
    refine tx 14 rfl (bH aW aW l bJ (fun _=>rfl) (k0) rfl rfl rfl rfl hk0 (by decide) runUnderlying28 sizeOf51) (tz [(15,true),(16,true)] 2 (go 3 ?_))
    refine tx 17 rfl (bO true rfl rfl rfl (by rw [h4];rfl)) (tz [(18,true)] 0 (go 2 ?_))
    refine ax (go 6 ?_)
    refine dx [b2,b1,P] (tz [(0,true),(1,true),(2,true),(3,true),(4,true),(5,true),(6,true),(7,true)] 9 (go 9 ?_))
    refine tx 8 rfl (bH aW aW l bJ (fun _=>rfl) (k0) rfl rfl rfl rfl hk0 (by decide) runUnderlying28 sizeOf51) (tz [(9,true),(10,true)] 6 (go 3 ?_))
    refine ox 11 rfl rfl (bD [] rfl rfl (by decide) call41 rfl (aId l[k0].text _) bDl bDl (fun _=>bDl) ?_)
    rintro t9 s9 ⟨rfl,rfl⟩
    refine tz [(12,true),(13,true),(14,true),(15,true),(16,true)] 0 (go 6 ?_)
    refine ax (go 6 ?_)
    refine wcp false rfl (by simp [bC];omega) (go 7 ?_)
    have hm:=hok.last.more hk0 (by rw [bG hk0,h4];decide)
    refine go 4 ?_
    refine wad rfl (go 9 ?_)
    refine wad rfl ?_
    refine wcQ rfl call21 rfl (ih (_::_::A) _ _ _ (k0+1) hm) ?_
    rintro t11 s11 ⟨x11,k11,d11,e11,rfl,hr11,hk11,he11,hd11,hl11,hu11,rfl⟩
    refine go 8 fun b3=>?_
    refine wo rfl (bDk zb0 rfl (.cons rfl (.cons rfl .nil)) (aEp fO cU x0 x11 fP rfl (fun _=>rfl)) ?_)
    refine go 4 ?_
    have hst:∀z k' e',Run e11 k11 (fR l sub lv m (.mk ((binOp l[k0].text).1:Int) 0 aK [x0,x11]) k11) z k' e' -> Run 0 k ((sub k).bind fun x k=>fR l sub lv (l.length+1) x k) z k' e':=fun z k' e' h=>hcont z k' e' (by rw [aC8,bG hk0,if_pos ⟨h4,hlv2⟩];exact (Run.from hr11).bind h)
    have hgo:e11=0 -> k0<k11:=fun h=>by have h9:=hin (k0+1) hm;rw [(hr11.good h).2] at h9;have:=h9.1;omega
    refine ⟨((.mk ((binOp l[k0].text).1:Int) 0 aK [x0,x11]),k11,d11,e11),⟨hk11,he11,hd11,by omega,hu11,fun h=>hst _ _ _ (.skip h _ _),fun h=>⟨m,?_,fun z k' e' h2=>hst _ _ _ ?_⟩⟩,?_,cQf (.cons _ (.refl _)) (.refl _) (by grind) (sA rfl)⟩
    ·have:=hgo h;show l.length<m+k11;omega
    ·rw [show e11=0 from h];exact h2
    show (if e11=0 then _ else _)<(if (0:Nat)=0 then _ else _)
    by_cases h:e11=0
    ·have:=hgo h;rw [if_pos h,if_pos rfl];show l.length-k11+1<l.length-k0+1;omega
    rw [if_neg h,if_pos rfl];show 0<l.length-k0+1;omega
   refine go 2 ?_
   refine dx [b2,b1,P] (tz [(0,true),(1,true),(2,true),(3,true)] 15 (go 5 ?_))
   refine tx 4 rfl (bO true rfl rfl rfl (by rfl)) (tz [(5,true),(6,true),(7,true),(8,true),(9,true),(10,true),(11,true),(12,true),(13,true)] 5 (go 10 ?_))
   refine tx 14 rfl (bH aW aW l bJ (fun _=>rfl) (k0) rfl rfl rfl rfl hk0 (by decide) runUnderlying28 sizeOf51) (tz [(15,true),(16,true)] 2 (go 3 ?_))
   refine tx 17 rfl (bO true rfl rfl rfl (by rw [h4];rfl)) (tz [(18,true)] 0 (go 2 ?_))
   refine ax (go 6 ?_)
   refine dx [b2,b1,P] (tz [(0,true),(1,true),(2,true),(3,true),(4,true),(5,true),(6,true),(7,true)] 9 (go 9 ?_))
   refine tx 8 rfl (bH aW aW l bJ (fun _=>rfl) (k0) rfl rfl rfl rfl hk0 (by decide) runUnderlying28 sizeOf51) (tz [(9,true),(10,true)] 6 (go 3 ?_))
   refine ox 11 rfl rfl (bD [] rfl rfl (by decide) call41 rfl (aId l[k0].text _) bDl bDl (fun _=>bDl) ?_)
   rintro t6 s6 ⟨rfl,rfl⟩
   refine tz [(12,true),(13,true),(14,true),(15,true),(16,true)] 0 (go 6 ?_)
   refine ax (go 6 ?_)
   refine wcp true rfl (by simp [bC];omega) (go 16 ?_)
   exact ⟨.inr rfl,_,(ESt A B rw P l (k0) (d) (0)),(aR rfl (aO [_] rfl rfl isAgg25 sizeOf25 (bK rfl rfl))),aA (.cons _ (.cons _ (.refl _))) (.refl _),⟨x0,k0,d,0,rfl,hcont _ _ _ (by rw [aC8,if_neg (fun h=>hlv2 (by rw [←bG hk0];exact h.2))];exact .ok _ _ _ rfl),hk0,by decide,fun _=>rfl,Nat.le_refl _,hu0,rfl⟩⟩
  refine go 2 ?_
  refine dx [b2,b1,P] (tz [(0,true),(1,true),(2,true),(3,true)] 15 (go 5 ?_))
  refine tx 4 rfl (bO true rfl rfl rfl (by rfl)) (tz [(5,true),(6,true),(7,true),(8,true),(9,true),(10,true),(11,true),(12,true),(13,true)] 5 (go 10 ?_))
  refine tx 14 rfl (bH aW aW l bJ (fun _=>rfl) (k0) rfl rfl rfl rfl hk0 (by decide) runUnderlying28 sizeOf51) (tz [(15,true),(16,true)] 2 (go 3 ?_))
  refine tx 17 rfl (bO false rfl rfl rfl (by rw [show bC .eql ((l[k0].kind:Nat):Int) 4=some (decide (l[k0].kind=4)) from jS (n:=4),decide_eq_false h4])) (tz [(18,true)] 0 (go 2 ?_))
  refine ax (go 14 ?_)
  exact ⟨.inr rfl,_,(ESt A B rw P l (k0) (d) (0)),(aR rfl (aO [_] rfl rfl isAgg25 sizeOf25 (bK rfl rfl))),aA (.cons _ (.cons _ (.refl _))) (.refl _),⟨x0,k0,d,0,rfl,hcont _ _ _ (by rw [aC8,if_neg (fun h=>h4 (by rw [←bG hk0];exact h.1))];exact .ok _ _ _ rfl),hk0,by decide,fun _=>rfl,Nat.le_refl _,hu0,rfl⟩⟩
 refine go 2 ?_
 refine dx [b2,b1,P] (tz [(0,true),(1,true),(2,true),(3,true)] 15 (go 5 ?_))
 refine tx 4 rfl (bO false rfl rfl rfl (lA h0)) (tz [(5,true),(6,true),(7,true),(8,true),(9,true),(10,true),(11,true),(12,true),(13,true),(14,true),(15,true),(16,true),(17,true),(18,true)] 0 (go 15 ?_))
 refine ax (go 14 ?_)
 exact ⟨.inr rfl,_,(ESt A B rw P l (k0) (d0) (e0)),(aR rfl (aO [_] rfl rfl isAgg25 sizeOf25 (bK rfl rfl))),aA (.cons _ (.cons _ (.refl _))) (.refl _),⟨x0,k0,d0,e0,rfl,hn0 h0,hk0,he0,fun h=>absurd h h0,hl0,hu0,rfl⟩⟩
theorem zY(l:List Tok)(hok:TOk l)(d D:Nat)(ih:∀(A B:List Box)(rw:List bA)(P:Nat)(k:Nat),k<l.length -> aL prog 40 [pP P] [P] (ESt A B rw P l k d 0) (EAn A B rw P l d k (bL l D k))):∀(j:Nat),j <= 5 -> ∀(A B:List Box)(rw:List bA)(P:Nat)(k:Nat),k<l.length -> aL prog 21 [pP P,.c (.val (.int .i64 ((6-j:Nat):Int)))] [P] (ESt A B rw P l k d 0) (EAn A B rw P l d k (gS l (bL l D) j k))
 |0,_,A,B,rw,P,k,hk=>aKd A B rw P l k d (bL l D) hok hk fun A B rw P k hk=>ih A B rw P k hk
 |j+1,hj,A,B,rw,P,k,hk=>by
  have h:=aJ0 A B rw P l k d (6-(j+1)) (gS l (bL l D) j) (by omega) (fun k hk=>vV hok.last (fun k hk=>nP hok.last D k hk) j k hk) hok hk (fun A B rw P k hk=>by
   have h9:=zY l hok d D ih j (by omega) A B rw P k hk
   have e1:(((6-(j+1):Nat):Int)+1)=((6-j:Nat):Int):=by omega
   rw [e1];exact h9)
  rw [aP5,show 5-j=6-(j+1) by omega]
  exact h
theorem qU(l:List Tok)(hok:TOk l):∀(D:Nat),D <= 24 -> ∀(A B:List Box)(rw:List bA)(P:Nat)(k:Nat),k<l.length -> aL prog 40 [pP P] [P] (ESt A B rw P l k (24-D) 0) (EAn A B rw P l (24-D) k (bL l D k))
 |0,_,A,B,rw,P,k,hk=>aJs A B rw P l k hok hk
 |D+1,hD,A,B,rw,P,k,hk=>by
  have e1:24-(D+1)+1=24-D:=by omega
  exact aJi A B rw P l k (24-(D+1)) D hok hk (by omega)
   (fun A B rw P k hk=>by rw [e1];exact qU l hok D (by omega) A B rw P k hk)
   (fun A B rw P k hk=>by rw [e1];exact zY l hok (24-D) D (qU l hok D (by omega)) 5 (Nat.le_refl _) A B rw P k hk)
theorem aJy(A B:List Box)(rw:List bA)(P:Nat)(l:List Tok)(k:Nat)(hok:TOk l)(hk:k<l.length):aL prog 21 [pP P,.c (.val (.int .i64 1))] [P] (ESt A B rw P l k 0 0) (EAn A B rw P l 0 k (lJ l k)):=
 zY l hok 0 24 (qU l hok 24 (Nat.le_refl _)) 5 (Nat.le_refl _) A B rw P k hk
theorem Run.other{e0 k0 k e:Nat}{r:bN aH}{x y:aH}(h:Run e0 k0 r x k e)(he:e≠0):Run e0 k0 r y k e:=by
 rcases h with ⟨h0,h1,h2⟩|⟨h0,⟨_,h2⟩|h⟩
 ·exact .inl ⟨h0,h1,h2⟩
 ·exact absurd h2 he
 exact .inr ⟨h0,.inr h⟩
theorem aFi(l:List Tok)(k:Nat)(hok:TOk l)(hk:k<l.length)(s:Sto):aL prog 9 [.c (.sl l.length (l.flatMap aW)),.c (.val (.int .i64 (k:Int)))] [] s fun t s'=>∃x k1 e1,t=.tup [.agg (cU x),nI k1,nI e1] /\ Run 0 k (lJ l k) x k1 e1 /\ k1<l.length /\ e1<16 /\ s'=s:=by
 have hlen:=hok.len
 have hend:l[l.length-1].kind=5:=hok.last.2
 obtain ⟨bx,rw⟩:=s
 refine acX 54 func9 ?_
 refine go 11 fun b1=>?_
 refine wcp false rfl (by simp [bC]) (go 4 ?_)
 refine wcp false rfl (by simp [bC];omega) (go 5 ?_)
 refine wyz rfl (qC rfl rfl rfl (by omega) (by omega)) ?_
 refine wyz rfl (bH aW aW l bJ (fun _=>rfl) (l.length-1) rfl rfl rfl (by omega) (by omega) (by decide) runUnderlying28 sizeOf51) (go 2 ?_)
 refine wcp false rfl (by rw [hend];rfl) (go 18 fun P=>?_)
 refine wcQ rfl call21 rfl (aJy [] _ _ _ l k hok hk) ?_
 rintro t2 s2 ⟨x2,k2,d2,e2,rfl,hr2,hk2,he2,hd2,hl2,hu2,rfl⟩
 refine go 7 fun b2=>?_
 by_cases her:e2=0
 ·refine go 4 ?_
  refine wcp false rfl (by rw [her];rfl) (go 6 ?_)
  refine dx [b2,P] (tz [(0,true),(1,true),(2,true),(3,true),(4,true),(5,false),(6,true),(7,true)] 0 (go 9 ?_))
  refine ax (go 2 ?_)
  exact ⟨.inr rfl,_,⟨bx,rw⟩,(pC rfl (aO [_,_] rfl rfl isAgg25 sizeOf25 (bK rfl rfl)) (aF rfl) (aF rfl)),aA (.cons _ (.cons _ (.cons _ (.refl _)))) (.refl _),⟨x2,k2,e2,by rw [her];rfl,hr2,hk2,he2,rfl⟩⟩
 refine go 4 ?_
 refine wcp true rfl (by simp [bC,her]) (go 4 ?_)
 refine dx [b2,P] (tz [(0,true),(1,true),(2,true),(3,true),(4,true),(5,true),(6,true),(7,true),(8,true),(9,false),(10,true),(11,true)] 0 (go 13 ?_))
 refine ax (go 3 ?_)
 exact ⟨.inr rfl,_,⟨bx,rw⟩,(pC rfl (aCn (Wk.agg (.r (.r (.r (.n .nil))))) (aO [_,_] rfl rfl isAgg25 sizeOf25 (bK rfl rfl))) (aF rfl) (aF rfl)),aA (.cons _ (.cons _ (.cons _ (.refl _)))) (.refl _),⟨.zero,k2,e2,rfl,(hr2.other her),hk2,he2,rfl⟩⟩
end
section
open Go.ChangeShapes Go.WideShapes Go.ChangeAt Go.RowKit
theorem own:ownKnob prog.godebug=none:=by kernel_rfl
theorem laidOut:laidOutB prog=true:=by kernel_rfl
theorem aRc : prog.globalNamed "lockorder/token.words" = some 2 := by kernel_rfl
theorem aA1{H:Type}{enc:TypeId×Value -> H}{P:Program}{w:World}{base:Nat}{sp:Nat -> Bool}{held:Bool}{fuel:Nat}{t e:TypeId}{n:Nat}{cs:List Value}{zs:List (List UInt8)}{p:List MemPlace}
  (ht:P.underlying t=some (.array n e)) (he:P.underlying e=some .string) (hce:P.cellsOf e=1) (hct:P.cellsOf t=n)
  (h:DataW.trod enc P w base sp held fuel t cs=some (.agg (zs.map fun z=>.lit (.string z)),p)):cs=zs.map fun z=>Value.string (bytes z):=by
 cases fuel with
 |zero=>simp [DataW.trod] at h
 |succ fuel=>
  simp only [DataW.trod,ht,hce,hct,Nat.mul_one] at h
  split at h
  ·rename_i hl
   obtain ⟨xs,hm,hx⟩:=Option.map_eq_some_iff.1 h
   have hxs:xs.map (·.1)=zs.map fun z=>(DataW.lit (.string z):DataW H):=by
    have:=congrArg Prod.fst hx
    simpa using this
   have hxl:xs.length=n:=by simpa using Lib.mapM_length hm
   have hzl:zs.length=n:=by
    have:=congrArg List.length hxs
    simp at this
    omega
   apply List.ext_getElem?
   intro i
   by_cases hi:i<n
   ·obtain ⟨b,hb,hf⟩:=Lib.mapM_at hm i i (by simp [hi])
    obtain ⟨z,hc,rfl,_⟩:=DataW.trod_string he hf
    have h1:cs[i]?=some (.string z):=by
     have:=congrArg (·[0]?) hc
     simpa [List.getElem?_take,List.getElem?_drop] using this
    have h2:(xs.map (·.1))[i]?=some (DataW.lit (.string z.data.toList):DataW H):=by simp [hb]
    rw [hxs] at h2
    simp only [List.getElem?_map,Option.map_eq_some_iff,DataW.lit.injEq,Lit.string.injEq] at h2
    obtain ⟨z',hz',he'⟩:=h2
    simp [h1,hz',bytes,he']
   rw [List.getElem?_eq_none (by omega),List.getElem?_eq_none (by simp;omega)]
  cases h
def aGj:List (List UInt8):=words.map fun b=>b.data.toList
theorem sV{H:Type}{enc:TypeId×Value -> H}{W W':World}(hb:Below W.heap.size W W'):
  ∀{ts:List TypeId} {vs:List Value} {ds:List (DataW H)} {ps:List MemPlace},(∀t∈ts,prog.readableRec t=true /\ t<prog.types.size) -> DataW.TrodAll enc prog W 0 (fun _=>true) true ts vs ds ps -> (∀x∈ps,x.block<W.heap.size) ->
   DataW.TrodAll enc prog W' 0 (fun b=>decide (b<W.heap.size)) true ts vs ds ps
 |[],_,_,_,_,h,_=>by
  obtain ⟨rfl,rfl,rfl⟩:=trodAll_nil h
  exact trodAll_mk0
 |t::ts,_,_,_,hr,h,hlt=>by
  obtain ⟨v,vs1,d,ds1,a,b,rfl,rfl,rfl,h1,h2⟩:=trodAll_cons h
  have ht:=hr t (List.mem_cons_self ..)
  exact ⟨a,b,Below.trod laidOut ht.1 ht.2 h1 hb (fun x hx=>hlt x (List.mem_append_left _ hx)),
   sV hb (fun u hu=>hr u (List.mem_cons_of_mem _ hu)) h2 (fun x hx=>hlt x (List.mem_append_right _ hx)),rfl⟩
theorem aMc{H:Type}{enc:TypeId×Value -> H}{F:Func}{s:ChangeSpec}{W W':World}{args:Array Value}{ds gs:List (DataW H)}{before:List MemPlace}
  (hW:DataW.Whole enc prog F.params.toList s.vars false W args.toList ds gs before) (hv:s.vars=[]) (hfn:s.fn H ds={results:=[.lit (.bool true)],args:=ds})
  (hread:∀t∈F.params.toList,prog.readableRec t=true /\ t<prog.types.size) (hres:F.resultTypes=#[4]) (hb:Below W.heap.size W W'):
  ∃v,Ending.returned (.bool true)=.returned v /\ s.post enc prog F false true false false W args v W':=by
 refine ⟨_,rfl,?_⟩
 have hlt:∀p∈before,p.block<W.heap.size:=fun p hp=>by simpa using hW.lt p hp
 have hW':=hW
 obtain ⟨p,q,hA,hV,rfl,hfz,hnd⟩:=hW
 rw [hv] at hV
 obtain ⟨rfl,rfl⟩:=trodVars_none hV
 simp only [List.append_nil] at hlt hW'
 refine ⟨ds,[],p,[],p,[],hW',?_,?_,?_,?_,fun h=>by cases h⟩
 ·rw [hres,List.append_nil,hfn]
  exact trodAll_cons_mk (shut_bool underlying4 true) trodAll_mk0
 ·rw [List.append_nil,hfn]
  exact sV hb hread hA hlt
 ·rw [List.append_nil,hfn,hv];rfl
 exact hb.frame _
theorem aFm{W:World}{a:Addr}{u:Value}(h:W.cell? (a.add 0)=some u):∃b off,a=⟨b,off,none⟩:=by
 obtain ⟨b,off,sp⟩:=a
 cases sp with
 |none=>exact ⟨b,off,rfl⟩
 |some k=>
  exfalso
  simp only [Addr.add,if_true] at h
  unfold World.cell? at h
  split at h
  ·simp at h
  cases h
end
section
open Go.ChangeShapes Go.WideShapes Go.ChangeAt Go.RowKit
theorem aHn{H:Type}{enc:TypeId×Value -> H}{W:World}{base:Nat}{v:Value}{d:DataW H}{p:List MemPlace}(hval:Value.okWide prog W .any base 22 v)(hd:DataW.Trod enc prog W 0 (fun _=>true) true 22 v d p):
  ∃(s:List Int) (a:Option Addr) (cap:Nat),v=.slice a s.length cap /\ s.length <= cap /\ cap <= maxLen /\ dD W v s.length (s.map (.int .i64)):=by
 obtain ⟨a,len,cap,rfl⟩:=okWide_slice underlying22 hval
 obtain ⟨fuel,hf⟩:=hd
 rcases open_ints underlying22 underlying3 (by kernel_rfl) hf with ⟨hcs,hx⟩|⟨a',len',cap',zs,hcs,_,hl,hm,hz,hx,hcell,hwz⟩
 ·simp [Value.cells] at hcs
  obtain ⟨rfl,rfl,rfl⟩:=hcs
  exact ⟨[],none,0,rfl,Nat.le_refl _,(by unfold maxLen;omega),dD.nil _⟩
 simp [Value.cells] at hcs
 obtain ⟨rfl,rfl,rfl⟩:=hcs
 simp only [if_true] at hz
 have hlen:(zs.take len).length=len:=by rw [List.length_take];omega
 refine ⟨zs.take len,some a',cap,by rw [hlen],by rw [hlen];exact hl,hm,some a',cap,by rw [hlen],by rw [hlen];exact hl,?_⟩
 by_cases h0:len=0
 ·left;subst h0;rfl
 right
 obtain ⟨b,off,rfl⟩:=aFm (hcell 0 (by omega))
 refine ⟨b,off,rfl,fun j u hu=>?_⟩
 have hj:j<len:=by
  rcases Nat.lt_or_ge j len with h|h
  ·exact h
  rw [List.getElem?_eq_none (by rw [List.length_map,hlen];exact h)] at hu;cases hu
 have hc:=hcell j (by omega)
 rw [add_plain] at hc
 rw [hc]
 simp only [List.getElem?_map,List.getElem?_take,if_pos hj,List.getElem?_eq_getElem (show j<zs.length by omega),Option.map_some] at hu
 rw [←hu]
 simp [List.getD,show j<zs.length by omega]
end
section
open Go.ChangeShapes Go.WideShapes Go.ChangeAt Go.RowKit
theorem bR6 : prog.globalNamed "lockorder/expr.signs" = some 0 := by kernel_rfl
theorem bSj : prog.globalNamed "internal/strconv.uint64pow10" = some 1 := by kernel_rfl
def bRe:List (List UInt8):=bLb.map fun b=>b.data.toList
abbrev bQr : List (String × DataW Unit) := [("math/bits.deBruijn32tab", Rows.laid_math_bits_deBruijn32tab), ("math/bits.deBruijn64tab", Rows.laid_math_bits_deBruijn64tab), ("internal/strconv.uint64pow10", Rows.laid_internal_strconv_uint64pow10), ("lockorder/token.words", Rows.laid_lockorder_token_words), ("lockorder/expr.signs", Rows.laid_lockorder_expr_signs)]
theorem bRl{W:World}(h:laidMetH prog bQr W)(hs:W.ShapedOpen prog):bM9 W:=by
 obtain ⟨ps,hL,_⟩:=(show laidMet prog bQr W from h)
 obtain ⟨_,_,_,_,_,_,_,_,_,_,hL,_⟩:=hL
 obtain ⟨_,_,_,_,_,_,_,_,_,_,hL,_⟩:=hL
 obtain ⟨g3,t3,cs3,fuel3,p3,q3,hg3,ht3,hvar3,hd3,hL,_⟩:=hL
 obtain ⟨g',t',cs,fuel,p,q,hg',ht',hvar,hd,hL,_⟩:=hL
 obtain ⟨g2,t2,cs2,fuel2,p2,q2,hg2,ht2,hvar2,hd2,_,_⟩:=hL
 refine ⟨fun j hj=>?_,?_,⟨fun j hj=>?_⟩,?_⟩
 ·obtain rfl:=Option.some.inj (aRc.symm.trans hg')
  obtain rfl:t'=96:=Option.some.inj (ht'.symm.trans (show (prog.globals[2]?).map (·.type)=some 96 by kernel_rfl))
  have hc:=aA1 (zs:=aGj) (n:=11) (e:=9) underlying96 underlying9 (by kernel_rfl) (by kernel_rfl) hd
  have:=World.var?_cell hg' hvar j
  rw [←Array.getElem?_toList,hc] at this
  rw [this]
  simp only [aGj,List.map_map]
  rw [List.getElem?_map,List.getElem?_eq_getElem hj]
  simp [bytes]
 ·exact cell_of_shapedOpen_int (zero:=#[.int .i64 0]) (t:=3) hs (of_decide_eq_true (by kernel_rfl)) (by kernel_rfl) rfl (by kernel_rfl) (by kernel_rfl) underlying3
 ·obtain rfl:=Option.some.inj (bR6.symm.trans hg2)
  obtain rfl:t2=60:=Option.some.inj (ht2.symm.trans (show (prog.globals[0]?).map (·.type)=some 60 by kernel_rfl))
  have hc:=aA1 (zs:=bRe) (n:=18) (e:=9) underlying60 underlying9 (by kernel_rfl) (by kernel_rfl) hd2
  have:=World.var?_cell hg2 hvar2 j
  rw [←Array.getElem?_toList,hc] at this
  rw [this]
  simp only [bRe,List.map_map]
  rw [List.getElem?_map,List.getElem?_eq_getElem hj]
  simp [bytes]
 obtain rfl:=Option.some.inj (bSj.symm.trans hg3)
 obtain rfl:t3=88:=Option.some.inj (ht3.symm.trans (show (prog.globals[1]?).map (·.type)=some 88 by kernel_rfl))
 unfold Lib.TabIs
 rw [hvar3,←Lib.cells_of_tab (zs:=Lib.pow10Tab) (k:=.u64) underlying88 underlying73 (by kernel_rfl) (by kernel_rfl) hd3]
theorem bQj(os:Os)(args:Array Value):laidMet prog bQr ((World.doorLaid prog 60 os).forCall (fun _ _=>0) ⟨#[],args,[]⟩).memory:=
 laidMet_of_run' 8 (by kernel_rfl) (by kernel_rfl)
theorem bO6(w:World):Up2 w (bI [] w):=
 ⟨fun a u h=>by rw [eW _ _ _ (by simp)];exact h,fun g cs t fz h _=>by rw [aFp _ _ _ (by simp)];exact h⟩
theorem bOi{w:World}{t:AT}{v:Value}(he:bM9 w)(h:dO (bI [] w) t v):dO (bI [] w) (bK5 t) v:=bOr h (he.up (bO6 w))
theorem bRj{P:Program}{U:List Nat}{o:Oper}{n d:Nat}{T:List Nat}{s:Sto}{ts:List (Nat×AT)}{K:AS -> Prop}{F:FuncId}{t0:AT}(i0:Nat)(ho:o.op=.call {callee:=.value (.func F),args:=#[],argTypes:=#[]})(hd:o.dst=some d)(hn:d<n)
  (hcf:∀args w,(callFunc F args).run P w=.ok (.enter F args) w) (hl:look ts i0=some (bK5 t0)) (hc:∀w,bM9 w -> Calls P F #[] w fun e w'=>e=.returned (.bool true) /\ Below w.heap.size w w')
  (h:K ⟨n,T,s,(d,.c (.val (.bool true)))::ts⟩):AO P U o ⟨n,T,s,ts⟩ K:=by
 intro a w hs KK QQ' hK
 obtain ⟨v0,-,hv0⟩:=hs.tm i0 _ hl
 unfold Oper.wp
 rw [show (execOp a.eval o).run P w=.ok (.enter F #[]) w from by
  simp only [execOp,ho,resolve,Deferred.ofValue,Act.eval,Sem.run_bind,Sem.run_pure,Result.andThen_ok,invoke]
  rw [hcf];simp,Oper.upon_enter]
 refine (hc w (bMx hv0)).mono ?_
 rintro en w' ⟨rfl,hb⟩
 dsimp only
 rw [hd]
 obtain ⟨hk,hm⟩:=aBl hs.mem hb
 have s1:=hs.step (st:=⟨n,T,s,ts⟩) T (hk.mono (by simp)) hm (fun b hb=>.inl hb)
 exact hK _ _ _ h (s1.put hn (dO.c _ _ (.val _ rfl))) ⟨hk.mono (by simp),hk.mono (by simp),fun b hb=>.inl hb,fun b hb=>.inl hb⟩ (hk.mono (by simp))
theorem bPa{P:Program}{F:FuncId}{fn:Func}{c:Code}(hf:P.funcs[F]?=some fn)(hb:fn.body=some c)(i:Nat)(hi:i<fn.ntmps){w:World}(he:bM9 w)
  (h:AWp P c ⟨fn.ntmps,[],⟨[],[]⟩,[(i,bK5 (.raw undef))]⟩ fun e st=>(e=.normal∨e=.ret) /\ ∃r s',aEt P fn st r /\ aAz st.s s' /\ r=.c (.val (.bool true)) /\ s'=⟨[],[]⟩):Calls P F #[] w fun e w'=>e=.returned (.bool true) /\ Below w.heap.size w w':=by
 have hm:Mem ⟨[],[]⟩ w:=⟨List.nodup_nil,(fun b hb=>absurd hb (by simp [Sto.bl])),(fun x hx=>absurd hx (by simp)),(fun x hx=>absurd hx (by simp))⟩
 refine calls_of_wp hf hb ?_
 refine h _ w ⟨rfl,?_,fun j t ht=>?_,hm⟩ _ ?_
 ·simp
 ·simp only [look] at ht
  split at ht
  ·rename_i hj;subst hj;cases ht
   exact ⟨undef,by simp [hi],bOr (.raw _) (he.up (bO6 w))⟩
  cases ht
 intro e a' w' st' q s' k
 obtain ⟨he,r,s2,hres,hsub,rfl,rfl⟩:=q
 obtain ⟨v,h1,h2⟩:=hres a' w' s'
 have hv:v=.bool true:=by cases h1 with|c _ _ h4=>cases h4;rfl
 subst hv
 have hk:=k.keepT
 rcases he with rfl|rfl
 ·exact ⟨s'.df,_,h2,rfl,⟨hk.os,hk.tape,hk.output,hk.size,fun j hj=>hk.block j hj (by simp)⟩⟩
 exact ⟨s'.df,_,h2,rfl,⟨hk.os,hk.tape,hk.output,hk.size,fun j hj=>hk.block j hj (by simp)⟩⟩
end
section
open Go.RowKit
theorem TOk.of{s:List UInt8}{l:List Tok}(h:iH s=.ok l):TOk l:=⟨(wD h).ends,(wD h).reg,by have:=(wD h).few;omega⟩
end
section
theorem eT.ve{names:List ByteArray}{d:Nat}{e:aH}(hn:∀x,x∈names -> bQ x=true)(h:eT names d e):VE e:=by
 induction h with
 |@name d x h=>exact .name x (hn x h)
 |@num d n h0 h1=>
  obtain ⟨k,rfl⟩:∃k:Nat,n=k:=⟨n.toNat,by omega⟩
  exact .num k (by omega)
 |@un d op e ho he ih=>exact .un op e ho ih
 |@bin d op a b h0 h1 ha hb iha ihb=>exact .bin op a b ⟨h0,h1⟩ iha ihb
end
section
open Go.RowKit
theorem cPg{bs:List UInt8}{L:List Tok}(h:iH bs=.ok L)(s:Sto):aL prog 20 [.c (.sl bs.length (iF bs))] [] s fun t s'=>t=.tup [.c (.sl L.length (L.flatMap aW)),.c (.val (.int .i64 (bs.length:Int))),.c (.val (.int .i64 0))] /\ s'=s:=
 (aLb bs s).mono fun t s' ⟨h1,h2⟩=>by
  rcases h1 with ⟨l,hl,ht,-⟩|⟨p,e,hl,-⟩
  ·rw [h] at hl;cases hl;exact ⟨ht,h2⟩
  rw [h] at hl;cases hl
theorem cOu{L:List Tok}{e:aH}{k:Nat}(hok:TOk L)(h0:0<L.length)(h:lJ L 0=.ok e k)(s:Sto):aL prog 9 [.c (.sl L.length (L.flatMap aW)),.c (.val (.int .i64 0))] [] s fun t s'=>t=.tup [.agg (cU e),nI k,.c (.val (.int .i64 0))] /\ s'=s:=
 (aFi L 0 hok h0 s).mono fun t s' ⟨x,k1,e1,ht,hr,_,_,hs⟩=>by
  rcases hr with ⟨h1,-⟩|⟨-,⟨h1,h2⟩|⟨h1,h2⟩⟩
  ·exact absurd rfl h1
  ·rw [h] at h1;cases h1;subst h2;exact ⟨ht,hs⟩
  rw [h] at h1;cases h1
theorem cO6{L:List Tok}{k e:Nat}(hok:TOk L)(h0:0<L.length)(h:lJ L 0=.err k e)(s:Sto):aL prog 9 [.c (.sl L.length (L.flatMap aW)),.c (.val (.int .i64 0))] [] s fun t s'=>∃x,t=.tup [.agg (cU x),nI k,nI e] /\ s'=s:=
 (aFi L 0 hok h0 s).mono fun t s' ⟨x,k1,e1,ht,hr,_,_,hs⟩=>by
  rcases hr with ⟨h1,-⟩|⟨-,⟨h1,h2⟩|⟨h1,h2⟩⟩
  ·exact absurd rfl h1
  ·rw [h] at h1;cases h1
  rw [h] at h1;cases h1;exact ⟨x,ht,hs⟩
theorem cOs(bs:List UInt8)(L:List Tok)(hl:bs.length <= 1000000)(hL:iH bs=.ok L)(s:Sto):aL prog 8 [.c (.val (.string (bytes bs)))] [] s fun t s'=>t=.c (.sl L.length (L.flatMap aW)) /\ s'=s:=by
 obtain ⟨bx,rw⟩:=s
 refine acX 14 func8 ?_
 refine go 8 ?_
 refine wo rfl (aDc rfl rfl (by decide) rfl underlying9 underlying46 underlying5 (by rw [kT];omega) (N:=bs.length) rfl (cs:=iF bs) rfl ?_)
 refine wc0 rfl call20 rfl (cPg hL _) ?_
 rintro _ _ ⟨rfl,rfl⟩
 refine go 16 ?_
 exact bHe (s':=⟨bx,rw⟩) rfl sb0 ⟨rfl,rfl⟩
def cPb:List UInt8:=[97,32,43,32,98,32,42,32,45,49,32,60,32,50]
def cPm:List UInt8:=[97,32,45,32,40,98,32,45,32,99,41]
def cPe:List UInt8:=[97,32,43,32,41]
def cO1:aH:=(.mk 10 0 aK [(.mk 8 0 aK [(.mk 2 0 ⟨#[97]⟩ []),(.mk 5 0 aK [(.mk 2 0 ⟨#[98]⟩ []),(.mk 3 0 aK [(.mk 1 1 aK [])])])]),(.mk 1 2 aK [])])
def cO8:aH:=(.mk 9 0 aK [(.mk 2 0 ⟨#[97]⟩ []),(.mk 9 0 aK [(.mk 2 0 ⟨#[98]⟩ []),(.mk 2 0 ⟨#[99]⟩ [])])])
def cPa:List Tok:=match iH cPb with|.ok l=>l|_=>[]
theorem cPd:iH cPb=.ok cPa:=by kernel_rfl
def cPh:List Tok:=match iH cPm with|.ok l=>l|_=>[]
theorem cPi:iH cPm=.ok cPh:=by kernel_rfl
def cPc:List Tok:=match iH cPe with|.ok l=>l|_=>[]
theorem cPj:iH cPe=.ok cPc:=by kernel_rfl
theorem cPq:lJ cPa 0=.ok cO1 8:=by kernel_rfl
theorem cPr:lJ cPh 0=.ok cO8 7:=by kernel_rfl
theorem cPs:lJ cPc 0=.err 2 4:=by kernel_rfl
theorem cO2:cO1.sane /\ cO8.sane:=by
 have e:aK.size <= 4611686018427387904:=by decide
 have e2:∀c,(⟨#[c]⟩:ByteArray).size <= 4611686018427387904:=fun c=>by show 1 <= _;decide
 have f0:fit 0:=by unfold fit;decide
 have f1:fit 1:=by unfold fit;decide
 have f2:fit 2:=by unfold fit;decide
 simp only [cO1,cO8,aH.sane,iI,e,e2,f0,f1,f2,and_true,true_and]
theorem cPt(s:Sto):aL prog 6 [bK5 (.agg (cU cO8))] [] s fun t s'=>t=.c (.val (.string ⟨#[97,32,45,32,40,98,32,45,32,99,41]⟩)) /\ s'=s:=by
 have h:=bQg cO8 (by decide+kernel) cO2.2 (fun _=>by decide+kernel) s
 rwa [show bytes (bRv cO8)=⟨#[97,32,45,32,40,98,32,45,32,99,41]⟩ by kernel_rfl] at h
theorem cPv(s:Sto):aL prog 22 [bK5 (.agg (cU cO1))] [] s fun t s'=>t=.c (.val (.int .i64 1)) /\ s'=s:=by
 have h:=bNv _ cO1 (Nat.le_refl _) (by decide+kernel) (by kernel_rfl) s
 rwa [show ((dI cO1:Nat):Int)=1 by kernel_rfl] at h
theorem cPu(s:Sto):aL prog 12 [bK5 (.agg (cU cO1))] [] s fun t s'=>t=.c (.val (.bool true)) /\ s'=s:=by
 have h:=bLw cO1 (by decide+kernel) cO2.1 s
 rwa [show dM cO1=true by kernel_rfl] at h
theorem cO5(w:World)(he:bM9 w):Calls prog 11 #[] w fun e w'=>e=.returned (.bool true) /\ Below w.heap.size w w':=by
 refine bPa func11 rfl 64 (Nat.le_of_ble_eq_true rfl) he ?_
 show AWp prog _ ⟨65,[],⟨[],[]⟩,[(64,bK5 (.raw undef))]⟩ _
 refine go 7 ?_
 refine wc0 rfl call8 rfl (cOs cPb cPa (by decide) cPd _) ?_
 rintro _ _ ⟨rfl,rfl⟩
 refine wc0 rfl call9 rfl (cOu (TOk.of cPd) (by decide+kernel) cPq _) ?_
 rintro _ _ ⟨rfl,rfl⟩
 refine go 12 fun b1=>?_
 refine wc0 rfl call8 rfl (cOs cPm cPh (by decide) cPi _) ?_
 rintro _ _ ⟨rfl,rfl⟩
 refine wc0 rfl call9 rfl (cOu (TOk.of cPi) (by decide+kernel) cPr _) ?_
 rintro _ _ ⟨rfl,rfl⟩
 refine go 12 fun b2=>?_
 refine wc0 rfl call8 rfl (cOs cPe cPc (by decide) cPj _) ?_
 rintro _ _ ⟨rfl,rfl⟩
 refine wc0 rfl call9 rfl (cO6 (TOk.of cPj) (by decide+kernel) cPs _) ?_
 rintro _ _ ⟨x2,rfl,rfl⟩
 refine go 13 fun b3=>?_
 refine wcp true rfl (by first|rfl|kernel_rfl) (go 2 ?_)
 refine wcp true rfl (by first|rfl|kernel_rfl) (go 3 ?_)
 refine wcp true rfl (by first|rfl|kernel_rfl) (go 4 ?_)
 refine wcp true rfl (by first|rfl|kernel_rfl) (go 3 ?_)
 refine wcR 64 rfl call6 rfl (cPt _) ?_
 by_cases h1:(⟨#[97,32,45,32,40,98,32,45,32,99,41]⟩:ByteArray)=(⟨#[97,32,45,32,40,98,32,45,32,99,41]⟩:ByteArray)
 ·refine wyz rfl (aZ true rfl rfl rfl (aL8 h1)) (go 3 ?_)
  refine wcp true rfl (by first|rfl|kernel_rfl) (go 3 ?_)
  refine wcp true rfl (by first|rfl|kernel_rfl) (go 3 ?_)
  refine wcR 64 rfl call22 rfl (cPv _) ?_
  refine wcp true rfl (by first|rfl|kernel_rfl) (go 3 ?_)
  refine wcR 64 rfl call12 rfl (cPu _) (go 5 ?_)
  exact ⟨.inr rfl,_,⟨[],[]⟩,aR rfl (aF rfl),aA (List.nil_sublist _) (List.nil_sublist _),rfl,rfl⟩
 exact absurd rfl h1
end
section
open Go.RowKit
section
variable {H:Type}{enc:TypeId×Value -> H}{P:Program}{w:World}{base:Nat}{spare:Nat -> Bool}{held:Bool}
def Raw(P:Program)(w:World)(base:Nat)(spare:Nat -> Bool)(held:Bool)(enc:TypeId×Value -> H)(t:TypeId){α:Type}(ea:α -> List AC)(sn:α -> Prop)(wt:α -> Nat)(fuel:Nat):Prop:=
 ∀cs (d:DataW H) p,DataW.trod enc P w base spare held fuel t cs=some (d,p) -> Rows.uptoBulk d <= 4611686018427387904 -> ∃x,fG w (ea x) cs /\ sn x /\ wt x <= Rows.uptoBulk d
theorem cOq:∀(l:List (DataW H)) (k:Nat) (h:k<l.length),Rows.uptoBulk l[k] <= Rows.uptoBulkAll l
 |x::l,0,_=>by rw [Rows.uptoBulkAll];simp
 |x::l,k+1,h=>by have:=cOq l k (by simpa using h);rw [Rows.uptoBulkAll];simp only [List.getElem_cons_succ];omega
theorem cK4{a:Addr}{j:Nat}{u:Value}(hs:a.spot=none)(h:w.cell? (a.add j)=some u):w.cell? ⟨a.block,a.off+j,none⟩=some u:=by
 obtain ⟨b,o,s⟩:=a
 cases hs
 by_cases hj:j=0
 ·subst hj;exact h
 unfold Addr.add at h;rwa [if_neg hj] at h
theorem cKq(a:Addr)(i j:Nat):(a.add i).add j=a.add (i+j):=by
 unfold Addr.add
 by_cases hi:i=0<;>by_cases hj:j=0<;>simp [hi,hj,Nat.add_assoc]
theorem cF0{t e:TypeId}{α:Type}{ea:α -> List AC}{sn:α -> Prop}{wt:α -> Nat}{z fuel:Nat}(ht:P.underlying t=some (.slice e))(hz:P.cellsOf e=z)(h0:0<z)(hl:∀x,(ea x).length=z)
  (step:∀n,n<fuel -> Raw P w base spare held enc e ea sn wt n):Raw P w base spare held enc t (fun l:List α=>[.sl l.length (l.flatMap ea)]) (fun l=>∀x,x∈l -> sn x) (fun l=>(l.map wt).sum+1) fuel:=by
 intro cs d p h hB
 rcases DataW.trod_slice ht h with ⟨rfl,hx⟩|⟨a,len,cap,elems,rest,n,rfl,rfl,hx,hb,hlc,hcm,hlen,hel,-,-⟩
 ·cases hx
  exact ⟨[],.cons (.sl 0 [] [] _ ⟨none,0,rfl,Nat.le_refl _,.inl rfl⟩ rfl (fun i h=>absurd h (by simp)) (fun a k c h=>by cases h;decide)) (.nil w),(fun x h=>by cases h),by simp [Rows.uptoBulk]⟩
 rw [hz] at hel
 obtain ⟨rfl,-⟩:=Prod.mk.inj hx
 rw [Rows.uptoBulk] at hB
 have fam:∀k,k <= len -> ∃(l:List α) (us:List Value),l.length=k /\ us.length=k*z /\ (∀j u,us[j]?=some u -> w.cell? (a.add j)=some u) /\ fG w (l.flatMap ea) us /\ (∀x,x∈l -> sn x) /\ (l.map wt).sum <= Rows.uptoBulkAll ((elems.take k).map (·.1)):=by
  intro k
  induction k with
  |zero=>exact fun _=>⟨[],[],rfl,by simp,(fun j u h=>by simp at h),.nil w,(fun x h=>by cases h),by simp⟩
  |succ k ih=>
   intro hk
   obtain ⟨l,us,h1,h2,h3,h4,h5,h6⟩:=ih (by omega)
   have hq:=hel k (by omega)
   have hke:k<elems.length:=by omega
   rw [List.getElem?_eq_getElem hke] at hq
   obtain ⟨cs',hc,hd⟩:=Option.bind_eq_some_iff.1 hq
   have hbk:=cOq (elems.map (·.1)) k (by simpa using hke)
   rw [List.getElem_map] at hbk
   obtain ⟨x,hr,hs,hw⟩:=step n (by omega) cs' elems[k].1 elems[k].2 hd (by omega)
   obtain ⟨-,hcl,hcell⟩:=World.cells?_some hc
   refine ⟨l++[x],us++cs',by simp [h1],by rw [length_append,h2,hcl,Nat.succ_mul],fun j u hj=>?_,by rw [List.flatMap_append];exact h4.app (by simpa using hr),fun y hy=>?_,?_⟩
   ·rcases Nat.lt_or_ge j us.length with hlt|hge
    ·rw [List.getElem?_append_left hlt] at hj;exact h3 j u hj
    rw [List.getElem?_append_right hge] at hj
    have hjl:j-us.length<cs'.length:=(List.getElem?_eq_some_iff.1 hj).1
    have:=hcell (j-us.length) (by omega)
    rw [cKq,show k*z+(j-us.length)=j by omega] at this
    rw [this];exact hj
   ·rcases mem_append.1 hy with hy|hy
    ·exact h5 y hy
    rw [List.mem_singleton] at hy;subst hy;exact hs
   have e:∀(xs ys:List (DataW H)),Rows.uptoBulkAll (xs++ys)=Rows.uptoBulkAll xs+Rows.uptoBulkAll ys:=by
    intro xs ys
    induction xs with
    |nil=>simp [Rows.uptoBulkAll]
    |cons x xs ih=>simp only [List.cons_append,Rows.uptoBulkAll,ih];omega
   rw [List.take_succ_eq_append_getElem hke,List.map_append (l₁:=List.take k elems),e,List.map_append,List.sum_append]
   simp only [List.map_cons,List.map_nil,List.sum_cons,List.sum_nil,Rows.uptoBulkAll]
   omega
 obtain ⟨l,us,h1,h2,h3,h4,h5,h6⟩:=fam len (Nat.le_refl _)
 refine ⟨l,.cons (.sl _ _ us _ ⟨some a,cap,by rw [h1],by rw [h1];exact hlc,?_⟩ h4.len h4.at_ (fun a' k c he=>?_)) (.nil w),h5,?_⟩
 ·cases us with
  |nil=>exact .inl rfl
  |cons u us=>
   have hs:a.spot=none:=World.cell?_spot (a:=a) (by simpa [Addr.add] using h3 0 u rfl)
   refine .inr ⟨a.block,a.off,?_,fun j u hj=>cK4 hs (h3 j u hj)⟩
   obtain ⟨b,o,s⟩:=a
   cases hs;rfl
 ·cases he;unfold maxLen at hcm;omega
 rw [Rows.uptoBulk]
 rw [take_of_length_le (by omega)] at h6
 show (l.map wt).sum+1 <= _
 omega
theorem cFi{a b:List AC}{o z:Nat}{cs:List Value}(h:fG w a ((cs.drop o).take z))(h2:fG w b (cs.drop (o+z))):fG w (a++b) (cs.drop o):=by
 have h3:=h.app h2
 rwa [←List.drop_drop,List.take_append_drop] at h3
theorem cGp{cs:List Value}{z:Nat}(h:cs.length=z):fG w [] (cs.drop z):=by rw [List.drop_of_length_le (by omega)];exact .nil w
def cNx(n:Int):Prop:=-9223372036854775808 <= n /\ n <= 9223372036854775807
theorem cHu{t:TypeId}{fuel z:Nat}{cs:List Value}{x:DataW H×List MemPlace}(ht:P.underlying t=some (.int .i64))(hz:P.cellsOf t=z)(h:DataW.trod enc P w base spare held fuel t (cs.take (P.cellsOf t))=some x):∃n:Int,fG w [.val (.int .i64 n)] (cs.take z) /\ cNx n /\ 1 <= Rows.uptoBulk x.1:=by
 obtain ⟨n,h1,rfl,h2⟩:=DataW.trod_int ht h
 rw [hz] at h1
 rw [h1]
 refine ⟨n,.cons (.val _ rfl) (.nil w),?_,by simp [Rows.uptoBulk]⟩
 simp only [Lit.wf,Bool.and_eq_true,decide_eq_true_eq] at h2
 exact h2
theorem cG4{t:TypeId}{fuel z:Nat}{cs:List Value}{x:DataW H×List MemPlace}(ht:P.underlying t=some .string)(hz:P.cellsOf t=z)(h:DataW.trod enc P w base spare held fuel t (cs.take (P.cellsOf t))=some x)(hB:Rows.uptoBulk x.1 <= 4611686018427387904):∃s:ByteArray,fG w [.val (.string s)] (cs.take z) /\ s.size <= 4611686018427387904 /\ 1 <= Rows.uptoBulk x.1:=by
 obtain ⟨n,h1,rfl,h2⟩:=DataW.trod_string ht h
 rw [hz] at h1
 rw [h1]
 have e:n.data.toList.length=n.size:=rfl
 simp only [Rows.uptoBulk] at hB⊢
 exact ⟨n,.cons (.val _ rfl) (.nil w),by omega,by omega⟩
theorem cF2{t:TypeId}{α:Type}{ea:α -> List AC}{sn:α -> Prop}{wt:α -> Nat}{fuel z:Nat}{cs:List Value}{x:DataW H×List MemPlace}(hr:Raw P w base spare held enc t ea sn wt fuel)(hz:P.cellsOf t=z)(h:DataW.trod enc P w base spare held fuel t (cs.take (P.cellsOf t))=some x)(hB:Rows.uptoBulk x.1 <= 4611686018427387904):∃y,fG w (ea y) (cs.take z) /\ sn y /\ wt y <= Rows.uptoBulk x.1:=by
 rw [hz] at h
 exact hr _ x.1 x.2 h hB
theorem Raw.one{t:TypeId}{α:Type}{ea:α -> List AC}{sn:α -> Prop}{wt:α -> Nat}{v:Value}{d:DataW H}{p:List MemPlace}(hr:∀fuel,Raw P w base spare held enc t ea sn wt fuel)(h:DataW.Trod enc P w base spare held t v d p)(hB:Rows.uptoBulk d <= 4611686018427387904):∃x,fG w (ea x) v.cells.toList /\ sn x /\ wt x <= Rows.uptoBulk d:=by
 obtain ⟨fuel,h⟩:=h
 exact hr fuel _ d p h hB
end
end
section
open Go.RowKit
theorem cIx:∀(l:List aH),(∀x,x∈l -> x.sane) -> iI l
 |[],_=>by rw [iI];trivial
 |x::l,h=>by rw [iI];exact ⟨h x (by simp),cIx l fun y hy=>h y (by simp [hy])⟩
theorem cHg:∀(l:List aH),cZ l=(l.map fun x=>x.nodes+1).sum
 |[]=>by rw [cZ];rfl
 |x::l=>by rw [cZ,cHg l,List.map_cons,List.sum_cons];omega
theorem cKu(o n:Int)(m:ByteArray)(l:List aH):(aH.mk o n m l).nodes=1+cZ l:=by rw [aH.nodes]
section
variable {H:Type}{enc:TypeId×Value -> H}{w:World}{base:Nat}{spare:Nat -> Bool}{held:Bool}
theorem cLn:∀fuel,Raw prog w base spare held enc 25 fO aH.sane (fun x=>x.nodes+1) fuel:=by
 intro fuel
 induction fuel using Nat.strongRecOn with|_ fuel ih=>?_
 intro cs d p h hB
 obtain ⟨xs,n,rfl,hx,hcs,hxl,hf⟩:=DataW.trod_struct underlying25 h
 obtain ⟨x0,x1,x2,x3,rfl⟩:∃x0 x1 x2 x3,xs=[x0,x1,x2,x3]:=by
  match xs,hxl with
  |[x0,x1,x2,x3],_=>exact ⟨x0,x1,x2,x3,rfl⟩
 obtain ⟨rfl,-⟩:=Prod.mk.inj hx
 rw [Rows.uptoBulk] at hB
 simp only [List.map_cons,List.map_nil,Rows.uptoBulkAll] at hB
 obtain ⟨v0,r0,s0,b0⟩:=cHu underlying3 (z:=1) (by kernel_rfl) (hf 0 _ rfl)
 obtain ⟨v1,r1,s1,b1⟩:=cHu underlying3 (z:=1) (by kernel_rfl) (hf 1 _ rfl)
 obtain ⟨v2,r2,s2,b2⟩:=cG4 underlying9 (z:=1) (by kernel_rfl) (hf 2 _ rfl) (by omega)
 obtain ⟨v3,r3,s3,b3⟩:=cF2 (cF0 underlying23 (z:=4) (by kernel_rfl) (by decide) iU (fun m hm=>ih m (by omega))) (z:=1) (by kernel_rfl) (hf 3 _ rfl) (by omega)
 rw [show prog.cellsOf 25=4 by kernel_rfl] at hcs
 refine ⟨.mk v0 v1 v2 v3,?_,?_,?_⟩
 ·rw [aDt];exact cFi (o:=0) (z:=1) r0 (cFi (o:=1) (z:=1) r1 (cFi (o:=2) (z:=1) r2 (cFi (o:=3) (z:=1) r3 (cGp hcs))))
 ·rw [aH.sane];exact ⟨s1,s2,cIx _ s3⟩
 rw [Rows.uptoBulk]
 simp only [List.map_cons,List.map_nil,Rows.uptoBulkAll]
 have:=cKu v0 v1 v2 v3
 have:=cHg v3
 omega
end
end
end Go.Proofs.YtbdfdjdgfanjaaaDoor
