import Derived.Test.YtojinfngbbajgaaGreatDoorK5J
import Derived.Test.YtojinfngbbajgaaGreatDoorK26J
import Derived.Test.YtojinfngbbajgaaGreatDoorK7J
set_option linter.all false
set_option synthInstance.maxHeartbeats 1000000
set_option synthInstance.maxSize 1000000
set_option maxHeartbeats 1600000
set_option maxRecDepth 100000
namespace Go.Proofs.YtojinfngbbajgaaGreatDoor
open Go.Proofs.Tryz
open List (length_append length_cons length_nil mem_append mem_cons not_mem_nil append_assoc getElem_mem take_of_length_le)
section
open Go.RowKit
theorem aE0{α:Type}(A':List α -> Value -> List Box)(B:List Box)(rw':List α -> Value -> List bA)(P:Nat)(l:List Tok)(k dp e:Nat)(Tv:List Nat)(F:FuncId)(fst cap:Array Value)(el:Nat -> Nat -> bN α)(hok:TOk l)(hk:k<l.length)(he:e<16)
  (hcf:∀args w,(callFunc F args).run prog w=.ok (.enter F args) w) (hin:∀n k,k<l.length -> (el n k).In l k) (hTb:∀acc v k e,∀b,b∈aY v++(Tv++[P]) -> b∈(PSt (A' acc v) B (rw' acc v) P l k dp e).bl) (hrB:∀acc v k e,∀b,b∈aY v -> b∈(PSt (A' acc v) B (rw' acc v) P l k dp e).bl)
  (hback:∀acc v k e acc' v' k' e',(PSt (A' acc' v') B (rw' acc' v') P l k' dp e').bl.Nodup -> ∀b,b∈aY v' -> b∈(PSt (A' acc v) B (rw' acc v) P l k dp e).bl -> b∈aY v)
  (hcl:∀acc v k,k<l.length -> acc.length <= k -> aL prog F (fst.toList.map cst++[]++cap.toList.map cst) (aY v++(Tv++[P])) (PSt (A' acc v) B (rw' acc v) P l k dp 0) fun t s=>∃x v' k' e',t=.tup [] /\ Run 0 k (el acc.length k) x k' e' /\ k'<l.length /\ e'<16 /\ s=PSt (A' (acc++[x]) v') B (rw' (acc++[x]) v') P l k' dp e'):
  aL prog 106 [pP P,.c (.val (.func (.func F) fst cap))] (Tv++[P]) (PSt (A' [] (.slice none 0 0)) B (rw' [] (.slice none 0 0)) P l k dp e) fun t s=>∃acc v k' e',t=.tup [] /\ Run e k (jC l el k) acc k' e' /\ k'<l.length /\ e'<16 /\ s=PSt (A' acc v) B (rw' acc v) P l k' dp e':=by
 have hlen:=hok.len
 refine acB func106 rfl ?_
 show AWp prog _ ⟨23,Tv++[P],⟨(A' [] (.slice none 0 0))++⟨P,64,[.sl l.length (l.flatMap aW),nC k,nC dp,nC e]⟩::B,(rw' [] (.slice none 0 0))⟩,[(0,pP P),(1,.c (.val (.func (.func F) fst cap)))]⟩ _
 refine go 3 ?_
 refine wcQ rfl call105 rfl (eI ((A' [] (.slice none 0 0))) _ _ _ l k dp e [40] hok hk he) ?_
 rintro t1 s1 ⟨x1,k1,e1,rfl,hr1,hk1,he1,rfl⟩
 refine go 6 ?_
 refine wcQ rfl call103 rfl (kE ((A' [] (.slice none 0 0))) _ _ _ l k1 dp e1 [41] hok hk1) ?_
 rintro t2 s2 (⟨rfl,ha2,hm2,rfl,rfl⟩|⟨ha2,rfl,rfl⟩)
 ·refine go 5 ?_
  exact ⟨.inr rfl,_,PSt (A' [] (.slice none 0 0)) B (rw' [] (.slice none 0 0)) P l (k1+1) dp 0,cH rfl,aA (.refl _) (.refl _),⟨[],.slice none 0 0,k1+1,0,rfl,hr1.bind (by rw [if_pos ha2];exact .ok _ _ _ rfl),hm2,(by decide),rfl⟩⟩
 refine go 12 ?_
 refine fM (fun g:Bool×List α×Value×Nat×Nat=>(⟨23,aY g.2.2.1++(Tv++[P]),⟨A' (g.2.1) g.2.2.1++⟨P,64,[.sl l.length (l.flatMap aW),.val (.int .i64 (((g.2.2.2.1):Nat):Int)),.val (.int .i64 (((dp):Nat):Int)),.val (.int .i64 (((g.2.2.2.2):Nat):Int))]⟩::B,rw' (g.2.1) g.2.2.1⟩,[(4,.c (.val (.bool g.1))),(1,.c (.val (.func (.func F) fst cap))),(0,pP P)]⟩:AS)) (fun g=>g.2.2.2.1<l.length /\ g.2.2.2.2<16 /\ (g.2.2.2.2=0 -> g.2.1.length <= g.2.2.2.1) /\ (g.2.2.2.2≠0 -> Run e k (jC l el k) g.2.1 g.2.2.2.1 g.2.2.2.2) /\ (g.2.2.2.2=0 -> g.1=true -> ∃n,l.length <= n+g.2.2.2.1 /\ ∀z k' e',Run 0 g.2.2.2.1 (lI l el n g.2.1 g.2.2.2.1) z k' e' -> Run e k (jC l el k) z k' e') /\ (g.2.2.2.2=0 -> g.1=false -> ∀z k' e',Run 0 g.2.2.2.1 ((fD l [41] g.2.2.2.1).bind fun _ k=>.ok g.2.1 k) z k' e' -> Run e k (jC l el k) z k' e')) (fun g=>if g.1=true /\ g.2.2.2.2=0 then l.length-g.2.2.2.1+1 else 0) (true,[],.slice none 0 0,k1,e1) (cA (.refl _) (.refl _) (by intro x hx;simpa [aY,Value.ownBlock] using hx) (sA rfl)) ⟨hk1,he1,fun _=>Nat.zero_le _,fun h=>hr1.bind (.skip h _ _),fun h _=>⟨l.length,Nat.le_add_right _ _,fun z k' e' h2=>?_⟩,fun _ h=>nomatch h⟩ ?_
 ·have h:e1=0:=h
  refine hr1.bind ?_
  rw [h,if_neg (by rw [ha2 h];decide)]
  exact h2
 rintro ⟨more,acc,v0,k0,e0⟩ ⟨hk0,he0,ha0,hn0,hc0,hd0⟩
 dsimp only at hk0 he0 ha0 hn0 hc0 hd0
 show AWp prog _ (⟨23,aY v0++(Tv++[P]),⟨A' (acc) v0++⟨P,64,[.sl l.length (l.flatMap aW),.val (.int .i64 (((k0):Nat):Int)),.val (.int .i64 (((dp):Nat):Int)),.val (.int .i64 (((e0):Nat):Int))]⟩::B,rw' (acc) v0⟩,[(4,.c (.val (.bool more))),(1,.c (.val (.func (.func F) fst cap))),(0,pP P)]⟩:AS) _
 cases more
 ·refine go 21 ?_
  refine wcQ rfl call105 rfl (eI ((A' acc v0)) _ _ _ l k0 dp e0 [41] hok hk0 he0) ?_
  rintro t6 s6 ⟨x6,k6,e6,rfl,hr6,hk6,he6,rfl⟩
  refine go 1 ?_
  exact ⟨.inl rfl,_,PSt (A' acc v0) B (rw' acc v0) P l (k6) dp (e6),cH rfl,aA (.refl _) (.refl _),⟨acc,v0,k6,e6,rfl,(by by_cases h0:e0=0;exact hd0 h0 rfl _ _ _ (by rw [←h0];exact hr6.map (f:=fun _=>acc));rcases hr6 with ⟨_,rfl,rfl⟩|⟨h,_⟩;exact hn0 h0;exact absurd h h0),hk6,he6,rfl⟩⟩
 by_cases h0:e0=0
 ·subst h0
  have ha1:=ha0 rfl
  obtain ⟨n0,hn1,hcont⟩:=hc0 rfl rfl
  obtain ⟨m,rfl⟩:∃m,n0=m+1:=⟨n0-1,by omega⟩
  skip
  refine go 9 ?_
  refine wcp true rfl (by rfl) ?_
  refine go 10 ?_
  refine wo rfl (rL (aY v0++(Tv++[P])) rfl rfl rfl (by decide) hcf (us:=[]) rfl (hcl acc v0 k0 hk0 ha1) (fun b hb=>by simpa using hb) (hTb acc v0 k0 0) (fun _ b hb=>hb) ?_)
  rintro t10 s10 ⟨x10,v10,k10,e10,rfl,hr10,hk10,he10,rfl⟩
  refine ⟨aY v10,fun hnd b hb=>⟨hrB _ _ _ _ b hb,fun hb2=>List.mem_append_left _ (hback acc v0 k0 0 (acc++[x10]) v10 k10 e10 hnd b hb hb2)⟩,?_⟩
  show eQ _ _ _ ⟨_,_,⟨A' (acc++[x10]) v10++⟨P,64,[.sl l.length (l.flatMap aW),.val (.int .i64 (((k10):Nat):Int)),.val (.int .i64 (((dp):Nat):Int)),.val (.int .i64 (((e10):Nat):Int))]⟩::B,rw' (acc++[x10]) v10⟩,_⟩ _
  refine go 5 ?_
  refine wcQ rfl call103 rfl (kE ((A' (acc++[x10]) v10)) _ _ _ l k10 dp e10 [44] hok hk10) ?_
  rintro t11 s11 (⟨rfl,ha11,hm11,rfl,rfl⟩|⟨ha11,rfl,rfl⟩)
  ·refine go 2 ?_
   refine ⟨(true,acc++[x10],v10,k10+1,0),⟨hm11,(show (0:Nat)<16 by decide),?_,?_,?_,?_⟩,?_,cA (.refl _) (.refl _) (by intro x hx;rcases mem_append.1 hx with h|h;exact List.mem_append_left _ h;exact List.mem_append_right _ (List.mem_append_right _ h)) (sA rfl)⟩
   ·intro _;have h9:=hin acc.length k0 hk0;rw [(hr10.good rfl).2] at h9;have:=h9.1;show (acc++[x10]).length <= k10+1;simp;omega
   ·intro h;exact absurd rfl h
   ·intro _ _;refine ⟨m,?_,fun z k' e' h=>hcont z k' e' ?_⟩
    ·have h9:=hin acc.length k0 hk0;rw [(hr10.good rfl).2] at h9;have:=h9.1;show l.length <= m+(k10+1);omega
    rw [lI];exact hr10.bind (by rw [if_pos ha11];exact Run.from h)
   ·intro _ h;exact nomatch h
   have h9:=hin acc.length k0 hk0;rw [(hr10.good rfl).2] at h9;have:=h9.1;show (if true=true /\ (0:Nat)=0 then _ else _)<(if true=true /\ (0:Nat)=0 then _ else _);rw [if_pos ⟨rfl,rfl⟩,if_pos ⟨rfl,rfl⟩];show l.length-(k10+1)+1<l.length-k0+1;omega
  refine go 2 ?_
  refine ⟨(false,acc++[x10],v10,k10,e10),⟨hk10,he10,?_,?_,?_,?_⟩,?_,cA (.refl _) (.refl _) (by intro x hx;rcases mem_append.1 hx with h|h;exact List.mem_append_left _ h;exact List.mem_append_right _ (List.mem_append_right _ h)) (sA rfl)⟩
  ·intro h;have h9:=hin acc.length k0 hk0;rw [(hr10.good h).2] at h9;have:=h9.1;show (acc++[x10]).length <= k10;simp;omega
  ·intro h;exact hcont _ _ _ (by rw [lI];exact hr10.bind (.skip h _ _))
  ·intro _ h;exact nomatch h
  ·intro h _ z k' e' h2;refine hcont _ _ _ ?_;rw [lI];refine hr10.bind ?_;rw [show e10=0 from h,if_neg (by rw [ha11 h];decide)];exact h2
  show (if false=true /\ _ then _ else _)<(if true=true /\ (0:Nat)=0 then _ else _);rw [if_neg (fun h=>nomatch h.1),if_pos ⟨rfl,rfl⟩];show 0<l.length-k0+1;omega
 refine go 9 ?_
 refine wcp false rfl (lA h0) ?_
 refine go 11 ?_
 refine wcQ rfl call105 rfl (eI ((A' acc v0)) _ _ _ l k0 dp e0 [41] hok hk0 he0) ?_
 rintro t8 s8 ⟨x8,k8,e8,rfl,hr8,hk8,he8,rfl⟩
 refine go 1 ?_
 exact ⟨.inl rfl,_,PSt (A' acc v0) B (rw' acc v0) P l (k8) dp (e8),cH rfl,aA (.refl _) (.refl _),⟨acc,v0,k8,e8,rfl,(by rcases hr8 with ⟨_,rfl,rfl⟩|⟨h,_⟩;exact hn0 h0;exact absurd h h0),hk8,he8,rfl⟩⟩
end
section
open Go.RowKit
theorem aQv(A B:List Box)(rw:List bA)(P:Nat)(l:List Tok)(k dp c1 c2:Nat)(v:Value)(acc:List eN)(hok:TOk l)(hk:k<l.length)(hal:acc.length <= 1000000):aL prog 220 [pP c2,pP c1] (aY v++([c2]++[P])) (PSt (⟨c2,76,[.val v]⟩::⟨c1,62,[.val (.pointer (some ⟨P,0,none⟩))]⟩::A) B (⟨v,141,7,(acc).length,(acc).flatMap eJ⟩::rw) P l k dp 0) fun t s=>∃x v' k' e',t=.tup [] /\ Run 0 k (rC l k) x k' e' /\ k'<l.length /\ e'<16 /\ s=PSt (⟨c2,76,[.val v']⟩::⟨c1,62,[.val (.pointer (some ⟨P,0,none⟩))]⟩::A) B (⟨v',141,7,(acc++[x]).length,(acc++[x]).flatMap eJ⟩::rw) P l k' dp e':=by
 have hlen:=hok.len
 have he:(0:Nat)<16:=by decide
 refine acB func220 rfl ?_
 show AWp prog _ ⟨7,aY v++([c2]++[P]),⟨⟨c2,76,[.val v]⟩::⟨c1,62,[.val (.pointer (some ⟨P,0,none⟩))]⟩::(A++⟨P,64,[.sl l.length (l.flatMap aW),nC k,nC dp,nC 0]⟩::B),⟨v,141,7,(acc).length,(acc).flatMap eJ⟩::rw⟩,[(0,pP c2),(1,pP c1)]⟩ _
 refine aB [] (by kernel_rfl) ?_
 refine two 0 1 (by kernel_rfl) rfl rfl rfl rfl ?_ ?_
 ·refine way rfl (by decide) (aX [] rfl rfl rfl isAgg76 sizeOf76 rfl (fun _ h=>by cases h)) ?_
  refine one 1 (by kernel_rfl) rfl rfl (way rfl (by decide) (aX [_] rfl rfl rfl isAgg62 sizeOf62 rfl (fun _ h=>by cases h)) ?_)
  refine one 2 (by kernel_rfl) rfl rfl (bD [P] rfl rfl (by decide) call221 rfl (aGn (_::_::A) _ _ _ l k dp 0 hok hk he) (by intro b hb;simp at hb;subst hb;simp) (by intro b hb;simp at hb;subst hb;simp [Sto.bl]) (by intro h b hb;simp at hb;subst hb;exact lU (by simp [Sto.bl])) ?_)
  rintro t1 s1 ⟨x1,k1,e1,rfl,hr1,hk1,he1,rfl⟩
  refine one 3 (by kernel_rfl) rfl rfl (bDk zb0 rfl (.cons rfl .nil) (aV eJ eJ x1 rfl rfl rfl) ?_)
  refine one 4 (by kernel_rfl) rfl rfl (bDm [] bWj rfl rfl (by decide) (by unfold maxLen;skip;omega) (by skip;omega) (@length_append _ acc [x1]).symm (fun _ b hb=>lU (by simp [Sto.bl,hb])) (fun b hb=>by simp [hb]) (List.flatMap_append (f:=eJ)).symm fun v2=>?_)
  refine tks [(5,false)] 0 (by kernel_rfl) ?_
  refine go 2 ?_
  refine aE (by kernel_rfl) ?_
  exact ⟨.inl rfl,_,PSt (⟨c2,76,[.val v2]⟩::⟨c1,62,[.val (.pointer (some ⟨P,0,none⟩))]⟩::A) B (⟨v2,141,7,(acc++[x1]).length,(acc++[x1]).flatMap eJ⟩::rw) P l k1 dp e1,cH rfl,aA (.refl _) (.refl _),⟨x1,v2,k1,e1,rfl,hr1,hk1,he1,rfl⟩⟩
 refine way rfl (by decide) (aX [_] rfl rfl rfl isAgg62 sizeOf62 rfl (fun _ h=>by cases h)) ?_
 refine two 0 2 (by kernel_rfl) rfl rfl rfl rfl ?_ ?_
 ·refine way rfl (by decide) (aX [] rfl rfl rfl isAgg76 sizeOf76 rfl (fun _ h=>by cases h)) ?_
  refine one 2 (by kernel_rfl) rfl rfl (bD [P] rfl rfl (by decide) call221 rfl (aGn (_::_::A) _ _ _ l k dp 0 hok hk he) (by intro b hb;simp at hb;subst hb;simp) (by intro b hb;simp at hb;subst hb;simp [Sto.bl]) (by intro h b hb;simp at hb;subst hb;exact lU (by simp [Sto.bl])) ?_)
  rintro t3 s3 ⟨x3,k3,e3,rfl,hr3,hk3,he3,rfl⟩
  refine one 3 (by kernel_rfl) rfl rfl (bDk zb0 rfl (.cons rfl .nil) (aV eJ eJ x3 rfl rfl rfl) ?_)
  refine one 4 (by kernel_rfl) rfl rfl (bDm [] bWj rfl rfl (by decide) (by unfold maxLen;skip;omega) (by skip;omega) (@length_append _ acc [x3]).symm (fun _ b hb=>lU (by simp [Sto.bl,hb])) (fun b hb=>by simp [hb]) (List.flatMap_append (f:=eJ)).symm fun v4=>?_)
  refine tks [(5,false)] 0 (by kernel_rfl) ?_
  refine go 2 ?_
  refine aE (by kernel_rfl) ?_
  exact ⟨.inl rfl,_,PSt (⟨c2,76,[.val v4]⟩::⟨c1,62,[.val (.pointer (some ⟨P,0,none⟩))]⟩::A) B (⟨v4,141,7,(acc++[x3]).length,(acc++[x3]).flatMap eJ⟩::rw) P l k3 dp e3,cH rfl,aA (.refl _) (.refl _),⟨x3,v4,k3,e3,rfl,hr3,hk3,he3,rfl⟩⟩
 refine (bD [P] rfl rfl (by decide) call221 rfl (aGn (_::_::A) _ _ _ l k dp 0 hok hk he) (by intro b hb;simp at hb;subst hb;simp) (by intro b hb;simp at hb;subst hb;simp [Sto.bl]) (by intro h b hb;simp at hb;subst hb;exact lU (by simp [Sto.bl])) ?_)
 rintro t5 s5 ⟨x5,k5,e5,rfl,hr5,hk5,he5,rfl⟩
 refine two 0 3 (by kernel_rfl) rfl rfl rfl rfl ?_ ?_
 ·refine way rfl (by decide) (aX [] rfl rfl rfl isAgg76 sizeOf76 rfl (fun _ h=>by cases h)) ?_
  refine one 3 (by kernel_rfl) rfl rfl (bDk zb0 rfl (.cons rfl .nil) (aV eJ eJ x5 rfl rfl rfl) ?_)
  refine one 4 (by kernel_rfl) rfl rfl (bDm [] bWj rfl rfl (by decide) (by unfold maxLen;skip;omega) (by skip;omega) (@length_append _ acc [x5]).symm (fun _ b hb=>lU (by simp [Sto.bl,hb])) (fun b hb=>by simp [hb]) (List.flatMap_append (f:=eJ)).symm fun v6=>?_)
  refine tks [(5,false)] 0 (by kernel_rfl) ?_
  refine go 2 ?_
  refine aE (by kernel_rfl) ?_
  exact ⟨.inl rfl,_,PSt (⟨c2,76,[.val v6]⟩::⟨c1,62,[.val (.pointer (some ⟨P,0,none⟩))]⟩::A) B (⟨v6,141,7,(acc++[x5]).length,(acc++[x5]).flatMap eJ⟩::rw) P l k5 dp e5,cH rfl,aA (.refl _) (.refl _),⟨x5,v6,k5,e5,rfl,hr5,hk5,he5,rfl⟩⟩
 refine (bDk zb0 rfl (.cons rfl .nil) (aV eJ eJ x5 rfl rfl rfl) ?_)
 refine one 0 (by kernel_rfl) rfl rfl (way rfl (by decide) (aX [] rfl rfl rfl isAgg76 sizeOf76 rfl (fun _ h=>by cases h)) ?_)
 refine one 4 (by kernel_rfl) rfl rfl (bDm [] bWj rfl rfl (by decide) (by unfold maxLen;skip;omega) (by skip;omega) (@length_append _ acc [x5]).symm (fun _ b hb=>lU (by simp [Sto.bl,hb])) (fun b hb=>by simp [hb]) (List.flatMap_append (f:=eJ)).symm fun v7=>?_)
 refine tks [(5,false)] 0 (by kernel_rfl) ?_
 refine go 2 ?_
 refine aE (by kernel_rfl) ?_
 exact ⟨.inl rfl,_,PSt (⟨c2,76,[.val v7]⟩::⟨c1,62,[.val (.pointer (some ⟨P,0,none⟩))]⟩::A) B (⟨v7,141,7,(acc++[x5]).length,(acc++[x5]).flatMap eJ⟩::rw) P l k5 dp e5,cH rfl,aA (.refl _) (.refl _),⟨x5,v7,k5,e5,rfl,hr5,hk5,he5,rfl⟩⟩
theorem aIj(A B:List Box)(rw:List bA)(P:Nat)(l:List Tok)(k dp e:Nat)(hok:TOk l)(hk:k<l.length)(he:e<16):aL prog 202 [pP P] [P] (PSt A B rw P l k dp e) (PAn A B rw P l dp (fun x=>.c (.sl x.length (x.flatMap eJ))) e k (rA l k)):=by
 have hlen:=hok.len
 refine acB func202 rfl ?_
 show AWp prog _ ⟨8,[P],⟨A++⟨P,64,[.sl l.length (l.flatMap aW),nC k,nC dp,nC e]⟩::B,rw⟩,[(0,pP P)]⟩ _
 refine go 12 fun b1 b2=>?_
 refine qR 141 7 ?_
 refine go 2 ?_
 refine wyz rfl (xR rfl (vs:=[.pointer (some ⟨b2,0,none⟩),.pointer (some ⟨b1,0,none⟩)]) rfl) ?_
 refine wo rfl (bD ([b2]++[P]) rfl rfl (by decide) call106 rfl (aE0 (fun acc v=>⟨b2,76,[.val v]⟩::⟨b1,62,[.val (.pointer (some ⟨P,0,none⟩))]⟩::A) B (fun acc v=>⟨v,141,7,acc.length,acc.flatMap eJ⟩::rw) P l k dp e [b2] 220 #[] #[.pointer (some ⟨b2,0,none⟩),.pointer (some ⟨b1,0,none⟩)] (fun _=>rC l) hok hk he call220 (fun _ k hk=>aDl hok.last hk) (fun acc v k e b hb=>by simp [Sto.bl] at hb⊢;rcases hb with h|h|h<;>simp [h]) (fun acc v k e b hb=>by simp [Sto.bl];exact .inr (.inr (.inr (.inr (.inr (.inl hb)))))) (fun acc v k e acc' v' k' e' hn b hb hb2=>aFb (by simp) hn hb hb2) (fun acc v k hk ha=>aQv A B rw P l k dp b1 b2 v acc hok hk (by omega))) (by intro b hb;simp at hb;rcases hb with rfl|rfl<;>simp) (by intro b hb;simp at hb;rcases hb with rfl|rfl<;>simp [Sto.bl]) (by intro _ b hb;simp at hb;rcases hb with rfl|rfl<;>simp) ?_)
 rintro t1 s1 ⟨acc,v0,k1,e1,rfl,hr1,hk1,he1,rfl⟩
 show eQ _ _ _ ⟨_,_,⟨⟨b2,76,[.val v0]⟩::⟨b1,62,[.val (.pointer (some ⟨P,0,none⟩))]⟩::(A++⟨P,64,[.sl l.length (l.flatMap aW),.val (.int .i64 (((k1):Nat):Int)),.val (.int .i64 (((dp):Nat):Int)),.val (.int .i64 (((e1):Nat):Int))]⟩::B),⟨v0,141,7,(acc).length,(acc).flatMap eJ⟩::rw⟩,_⟩ _
 refine go 8 ?_
 refine aH0 2 rfl ?_
 refine go 1 ?_
 exact ⟨.inr rfl,_,(PSt A B rw P l (k1) (dp) (e1)),(aR rfl (aF rfl)),aA (.cons _ (.cons _ (.refl _))) (.refl _),⟨acc,k1,e1,rfl,hr1,hk1,he1,rfl⟩⟩
end
end Go.Proofs.YtojinfngbbajgaaGreatDoor
