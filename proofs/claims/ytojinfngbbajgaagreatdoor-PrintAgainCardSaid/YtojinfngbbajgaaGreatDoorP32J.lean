import Derived.Test.YtojinfngbbajgaaGreatDoorP5J
import Derived.Test.YtojinfngbbajgaaGreatDoorP31J
set_option linter.all false
set_option synthInstance.maxHeartbeats 1000000
set_option synthInstance.maxSize 1000000
set_option maxHeartbeats 1600000
set_option maxRecDepth 100000
namespace Go.Proofs.YtojinfngbbajgaaGreatDoor
open Go.Proofs.Tryz
open List (length_append length_cons length_nil mem_append mem_cons not_mem_nil append_assoc getElem_mem take_of_length_le)
section
open Go.RowKit
def six:aJ -> aJ
 |.mk _ n e r a t f=>.mk 6 n e r a t f
theorem aM7(l:List Tok)(k:Nat):nH l 6 k=(nH l 5 k).bind fun s k=>.ok (six s) k:=by
 unfold nH oO
 cases xV l k with
 |ok r k=>show ((fD l [59] k).bind _)=((fD l [59] k).bind _).bind _;cases fD l [59] k<;>rfl
 |err a e=>rfl
theorem bR{l:List Tok}{k:Nat}(hk:k<l.length)(u:List UInt8):dN l k u=(decide (l[k].kind=3) && decide (l[k].text=bytes u)):=by unfold dN;rw [bG hk]
theorem aM8(A B:List Box)(rw:List bA)(P:Nat)(l:List Tok)(k dp e:Nat)(hok:TOk l)(hk:k<l.length)(he:e<16):aL prog 194 [pP P] [P] (PSt A B rw P l k dp e) (PAn A B rw P l dp (fun x=>.agg (dG x)) e k (qI l k)):=by
 have hlen:=hok.len
 refine acB func194 rfl ?_
 show AWp prog _ ⟨15,[P],⟨A++⟨P,64,[.sl l.length (l.flatMap aW),nC k,nC dp,nC e]⟩::B,rw⟩,[(0,pP P)]⟩ _
 refine go 8 fun b1=>?_
 refine wcQ rfl call102 rfl (jD (_::A) _ _ _ l k dp e hok hk he) ?_
 rintro t1 s1 ⟨x1,k1,e1,rfl,hr1,hk1,he1,rfl⟩
 refine go 8 fun b2=>?_
 refine wcQ rfl call105 rfl (eI (_::_::A) _ _ _ l k1 dp e1 [61] hok hk1 he1) ?_
 rintro t2 s2 ⟨x2,k2,e2,rfl,hr2,hk2,he2,rfl⟩
 refine go 5 ?_
 refine wcQ rfl call201 rfl (rZ (_::_::A) _ _ _ l k2 dp e2 hok hk2 he2) ?_
 rintro t3 s3 ⟨x3,k3,e3,rfl,hr3,hk3,he3,rfl⟩
 refine go 7 ?_
 refine wcQ rfl call105 rfl (eI (_::_::A) _ _ _ l k3 dp e3 [59] hok hk3 he3) ?_
 rintro t4 s4 ⟨x4,k4,e4,rfl,hr4,hk4,he4,rfl⟩
 refine go 9 ?_
 have hs:Run e k (qI l k) (.mk 1 x1 x3 .zero [] [] []) k4 e4:=by
  unfold qI oO
  exact hr1.bind (hr2.bind (hr3.bind (hr4.bind (Run.pure _ _ _))))
 exact ⟨.inr rfl,_,(PSt A B rw P l (k4) (dp) (e4)),(eK (Wk.agg (.r (.r (.r (.r (.r (.r (.r (.n (.n (.n (.n .nil)))))))))))) (aR rfl (aO [_] rfl rfl isAgg78 sizeOf78 (bK rfl rfl)))),aA (.cons _ (.cons _ (.refl _))) (.refl _),⟨(.mk 1 x1 x3 .zero [] [] []),k4,e4,rfl,hs,hk4,he4,rfl⟩⟩
theorem aTh(A B:List Box)(rw:List bA)(P:Nat)(l:List Tok)(k dp e:Nat)(hok:TOk l)(hk:k<l.length)(he:e<16):aL prog 195 [pP P] [P] (PSt A B rw P l k dp e) (PAn A B rw P l dp (fun x=>.agg (dG x)) e k (goP l k)):=by
 have hlen:=hok.len
 refine acB func195 rfl ?_
 show AWp prog _ ⟨13,[P],⟨A++⟨P,64,[.sl l.length (l.flatMap aW),nC k,nC dp,nC e]⟩::B,rw⟩,[(0,pP P)]⟩ _
 refine go 8 fun b1=>?_
 refine wcQ rfl call102 rfl (jD (_::A) _ _ _ l k dp e hok hk he) ?_
 rintro t1 s1 ⟨x1,k1,e1,rfl,hr1,hk1,he1,rfl⟩
 refine go 8 fun b2=>?_
 refine wcQ rfl call202 rfl (aIj (_::_::A) _ _ _ l k1 dp e1 hok hk1 he1) ?_
 rintro t2 s2 ⟨x2,k2,e2,rfl,hr2,hk2,he2,rfl⟩
 refine go 7 ?_
 refine wcQ rfl call105 rfl (eI (_::_::A) _ _ _ l k2 dp e2 [59] hok hk2 he2) ?_
 rintro t3 s3 ⟨x3,k3,e3,rfl,hr3,hk3,he3,rfl⟩
 refine go 9 ?_
 have hs:Run e k (goP l k) (.mk 4 x1 .zero .zero x2 [] []) k3 e3:=by
  unfold goP oO
  exact hr1.bind (hr2.bind (hr3.bind (Run.pure _ _ _)))
 exact ⟨.inr rfl,_,(PSt A B rw P l (k3) (dp) (e3)),(eK (Wk.agg (.r (.r (.r (.r (.r (.n (.r (.n (.r (.n (.n .nil)))))))))))) (aR rfl (aO [_] rfl rfl isAgg78 sizeOf78 (bK rfl rfl)))),aA (.cons _ (.cons _ (.refl _))) (.refl _),⟨(.mk 4 x1 .zero .zero x2 [] []),k3,e3,rfl,hs,hk3,he3,rfl⟩⟩
theorem aIs(A B:List Box)(rw:List bA)(P:Nat)(l:List Tok)(k dp e:Nat)(hok:TOk l)(hk:k<l.length)(he:e<16):aL prog 196 [pP P] [P] (PSt A B rw P l k dp e) (PAn A B rw P l dp (fun x=>.agg (dG x)) e k (nH l 5 k)):=by
 have hlen:=hok.len
 refine acB func196 rfl ?_
 show AWp prog _ ⟨10,[P],⟨A++⟨P,64,[.sl l.length (l.flatMap aW),nC k,nC dp,nC e]⟩::B,rw⟩,[(0,pP P)]⟩ _
 refine go 8 fun b1=>?_
 refine wcQ rfl call218 rfl (aNu (_::A) _ _ _ l k dp e hok hk he) ?_
 rintro t1 s1 ⟨x1,k1,e1,rfl,hr1,hk1,he1,rfl⟩
 refine go 8 fun b2=>?_
 refine wcQ rfl call105 rfl (eI (_::_::A) _ _ _ l k1 dp e1 [59] hok hk1 he1) ?_
 rintro t2 s2 ⟨x2,k2,e2,rfl,hr2,hk2,he2,rfl⟩
 refine go 9 ?_
 have hs:Run e k (nH l 5 k) (.mk 5 aK .zero x1 [] [] []) k2 e2:=by
  unfold nH oO
  exact hr1.bind (hr2.bind (Run.pure _ _ _))
 exact ⟨.inr rfl,_,(PSt A B rw P l (k2) (dp) (e2)),(eK (Wk.agg (.r (.r (.r (.r (.r (.n (.r (.r (.n (.n (.n .nil)))))))))))) (aR rfl (aO [_] rfl rfl isAgg78 sizeOf78 (bK rfl rfl)))),aA (.cons _ (.cons _ (.refl _))) (.refl _),⟨(.mk 5 aK .zero x1 [] [] []),k2,e2,rfl,hs,hk2,he2,rfl⟩⟩
theorem aLx(A B:List Box)(rw:List bA)(P:Nat)(l:List Tok)(k dp e:Nat)(blk:Nat -> bN (List aJ))(hblk:∀(A B:List Box)(rw:List bA)(P k e:Nat),k<l.length -> e<16 -> aL prog 109 [pP P] [P] (PSt A B rw P l k dp e) (PAn A B rw P l dp (fun x=>.c (.sl x.length (x.flatMap encS))) e k (blk k)))(hok:TOk l)(hk:k<l.length)(he:e<16):aL prog 199 [pP P] [P] (PSt A B rw P l k dp e) (PAn A B rw P l dp (fun x=>.agg (dG x)) e k (pJ l blk k)):=by
 have hlen:=hok.len
 refine acB func199 rfl ?_
 show AWp prog _ ⟨11,[P],⟨A++⟨P,64,[.sl l.length (l.flatMap aW),nC k,nC dp,nC e]⟩::B,rw⟩,[(0,pP P)]⟩ _
 refine go 8 fun b1=>?_
 refine wcQ rfl call201 rfl (rZ (_::A) _ _ _ l k dp e hok hk he) ?_
 rintro t1 s1 ⟨x1,k1,e1,rfl,hr1,hk1,he1,rfl⟩
 refine go 8 fun b2=>?_
 refine wcQ rfl call109 rfl (hblk (_::_::A) _ _ _ k1 e1 hk1 he1) ?_
 rintro t2 s2 ⟨x2,k2,e2,rfl,hr2,hk2,he2,rfl⟩
 refine go 11 ?_
 have hs:Run e k (pJ l blk k) (.mk 8 aK x1 .zero [] x2 []) k2 e2:=by
  unfold pJ
  exact hr1.bind (hr2.bind (Run.pure _ _ _))
 exact ⟨.inr rfl,_,(PSt A B rw P l (k2) (dp) (e2)),(eK (Wk.agg (.r (.r (.r (.r (.r (.r (.r (.n (.n (.r (.n .nil)))))))))))) (aR rfl (aO [_] rfl rfl isAgg78 sizeOf78 (bK rfl rfl)))),aA (.cons _ (.cons _ (.refl _))) (.refl _),⟨(.mk 8 aK x1 .zero [] x2 []),k2,e2,rfl,hs,hk2,he2,rfl⟩⟩
theorem aP9(A B:List Box)(rw:List bA)(P:Nat)(l:List Tok)(k dp e:Nat)(hok:TOk l)(hk:k<l.length)(he:e<16):aL prog 200 [pP P] [P] (PSt A B rw P l k dp e) (PAn A B rw P l dp (fun x=>.agg (dG x)) e k (aD8 l k)):=by
 have hlen:=hok.len
 refine acB func200 rfl ?_
 show AWp prog _ ⟨6,[P],⟨A++⟨P,64,[.sl l.length (l.flatMap aW),nC k,nC dp,nC e]⟩::B,rw⟩,[(0,pP P)]⟩ _
 refine go 8 fun b1=>?_
 refine wcQ rfl call105 rfl (eI (_::A) _ _ _ l k dp e [59] hok hk he) ?_
 rintro t1 s1 ⟨x1,k1,e1,rfl,hr1,hk1,he1,rfl⟩
 refine go 9 ?_
 have hs:Run e k (aD8 l k) (.mk 9 aK .zero .zero [] [] []) k1 e1:=by
  unfold aD8 oO
  exact hr1.bind (Run.pure _ _ _)
 exact ⟨.inr rfl,_,(PSt A B rw P l (k1) (dp) (e1)),(eK (Wk.agg (.r (.r (.r (.r (.r (.n (.r (.n (.n (.n (.n .nil)))))))))))) (aR rfl (aO [] rfl rfl isAgg78 sizeOf78 (bK rfl rfl)))),aA (.cons _ (.refl _)) (.refl _),⟨(.mk 9 aK .zero .zero [] [] []),k1,e1,rfl,hs,hk1,he1,rfl⟩⟩
theorem aR8(A B:List Box)(rw:List bA)(P:Nat)(l:List Tok)(k dp e:Nat)(blk:Nat -> bN (List aJ))(hblk:∀(A B:List Box)(rw:List bA)(P k e:Nat),k<l.length -> e<16 -> aL prog 109 [pP P] [P] (PSt A B rw P l k dp e) (PAn A B rw P l dp (fun x=>.c (.sl x.length (x.flatMap encS))) e k (blk k)))(hok:TOk l)(hk:k<l.length)(he:e<16):aL prog 198 [pP P] [P] (PSt A B rw P l k dp e) (PAn A B rw P l dp (fun x=>.agg (dG x)) e k (ifP l blk k)):=by
 have hlen:=hok.len
 refine acB func198 rfl ?_
 show AWp prog _ ⟨16,[P],⟨A++⟨P,64,[.sl l.length (l.flatMap aW),nC k,nC dp,nC e]⟩::B,rw⟩,[(0,pP P)]⟩ _
 refine go 8 fun b1=>?_
 refine wcQ rfl call201 rfl (rZ (_::A) _ _ _ l k dp e hok hk he) ?_
 rintro t1 s1 ⟨x1,k1,e1,rfl,hr1,hk1,he1,rfl⟩
 refine go 8 fun b2=>?_
 refine wcQ rfl call109 rfl (hblk (_::_::A) _ _ _ k1 e1 hk1 he1) ?_
 rintro t2 s2 ⟨x2,k2,e2,rfl,hr2,hk2,he2,rfl⟩
 refine go 8 ?_
 refine wcQ rfl call108 rfl (tG (_::_::A) _ _ _ l k2 dp e2 [101,108,115,101] hok hk2) ?_
 rintro t3 s3 (⟨rfl,ha3,hm3,rfl,rfl⟩|⟨ha3,rfl,rfl⟩)
 ·refine go 5 ?_
  refine wcQ rfl call109 rfl (hblk (_::_::A) _ _ _ (k2+1) 0 hm3 (by decide)) ?_
  rintro t5 s5 ⟨x5,k5,e5,rfl,hr5,hk5,he5,rfl⟩
  refine go 11 ?_
  have hs:Run e k (ifP l blk k) (.mk 7 aK x1 .zero [] x2 x5) k5 e5:=by
   unfold ifP
   exact hr1.bind (hr2.bind (by unfold tA;rw [if_pos ha3];exact Run.from (hr5.map (f:=fun f=>aJ.mk 7 aK x1 .zero [] x2 f))))
  exact ⟨.inr rfl,_,(PSt A B rw P l (k5) (dp) (e5)),(eK (Wk.agg (.r (.r (.r (.r (.r (.r (.r (.n (.n (.r (.r .nil)))))))))))) (aR rfl (aO [_] rfl rfl isAgg78 sizeOf78 (bK rfl rfl)))),aA (.cons _ (.cons _ (.refl _))) (.refl _),⟨(.mk 7 aK x1 .zero [] x2 x5),k5,e5,rfl,hs,hk5,he5,rfl⟩⟩
 refine go 12 ?_
 have hs:Run e k (ifP l blk k) (.mk 7 aK x1 .zero [] x2 []) k2 e2:=by
  unfold ifP
  exact hr1.bind (hr2.bind ((Run.pure _ _ _).eq fun h=>by unfold tA;rw [if_neg (by rw [ha3 h];decide)]))
 exact ⟨.inr rfl,_,(PSt A B rw P l (k2) (dp) (e2)),(eK (Wk.agg (.r (.r (.r (.r (.r (.r (.r (.n (.n (.r (.n .nil)))))))))))) (aR rfl (aO [_] rfl rfl isAgg78 sizeOf78 (bK rfl rfl)))),aA (.cons _ (.cons _ (.refl _))) (.refl _),⟨(.mk 7 aK x1 .zero [] x2 []),k2,e2,rfl,hs,hk2,he2,rfl⟩⟩
theorem aFg(A B:List Box)(rw:List bA)(P:Nat)(l:List Tok)(k dp e:Nat)(hok:TOk l)(hk:k<l.length)(he:e<16):aL prog 169 [pP P] [P] (PSt A B rw P l k dp e) (PAn A B rw P l dp (fun x=>.agg (dG x)) e k (mG l k)):=by
 have hlen:=hok.len
 refine acB func169 rfl ?_
 show AWp prog _ ⟨19,[P],⟨A++⟨P,64,[.sl l.length (l.flatMap aW),nC k,nC dp,nC e]⟩::B,rw⟩,[(0,pP P)]⟩ _
 refine go 8 fun b1=>?_
 refine wcQ rfl call102 rfl (jD (_::A) _ _ _ l k dp e hok hk he) ?_
 rintro t1 s1 ⟨x1,k1,e1,rfl,hr1,hk1,he1,rfl⟩
 refine go 9 fun b2=>?_
 refine wcQ rfl call103 rfl (kE (_::_::A) _ _ _ l k1 dp e1 [61] hok hk1) ?_
 rintro t2 s2 (⟨rfl,ha2,hm2,rfl,rfl⟩|⟨ha2,rfl,rfl⟩)
 ·refine go 5 ?_
  refine wcQ rfl call201 rfl (rZ (_::_::A) _ _ _ l (k1+1) dp 0 hok hm2 (by decide)) ?_
  rintro t4 s4 ⟨x4,k4,e4,rfl,hr4,hk4,he4,rfl⟩
  refine go 9 ?_
  refine wcQ rfl call105 rfl (eI (_::_::A) _ _ _ l k4 dp e4 [59] hok hk4 he4) ?_
  rintro t5 s5 ⟨x5,k5,e5,rfl,hr5,hk5,he5,rfl⟩
  refine go 9 ?_
  have hs:Run e k (mG l k) (.mk 2 x1 x4 .zero [] [] []) k5 e5:=by
   unfold mG
   exact hr1.bind (by unfold iB;rw [if_pos ha2];unfold oO;exact Run.from (hr4.bind (hr5.bind (Run.pure _ _ _))))
  exact ⟨.inr rfl,_,(PSt A B rw P l (k5) (dp) (e5)),(eK (Wk.agg (.r (.r (.r (.r (.r (.r (.r (.n (.n (.n (.n .nil)))))))))))) (aR rfl (aO [_] rfl rfl isAgg78 sizeOf78 (bK rfl rfl)))),aA (.cons _ (.cons _ (.refl _))) (.refl _),⟨(.mk 2 x1 x4 .zero [] [] []),k5,e5,rfl,hs,hk5,he5,rfl⟩⟩
 refine go 5 ?_
 refine wcQ rfl call202 rfl (aIj (_::_::A) _ _ _ l k1 dp e1 hok hk1 he1) ?_
 rintro t7 s7 ⟨x7,k7,e7,rfl,hr7,hk7,he7,rfl⟩
 refine go 7 ?_
 refine wcQ rfl call105 rfl (eI (_::_::A) _ _ _ l k7 dp e7 [59] hok hk7 he7) ?_
 rintro t8 s8 ⟨x8,k8,e8,rfl,hr8,hk8,he8,rfl⟩
 refine go 9 ?_
 have hs:Run e k (mG l k) (.mk 3 x1 .zero .zero x7 [] []) k8 e8:=by
  unfold mG
  exact hr1.bind (Run.eq (r:=(rA l _).bind fun a k=>oO l (.mk 3 x1 .zero .zero a [] []) k) (by unfold oO;exact hr7.bind (hr8.bind (Run.pure _ _ _))) fun h=>by unfold iB;rw [if_neg (by rw [ha2 h];decide)])
 exact ⟨.inr rfl,_,(PSt A B rw P l (k8) (dp) (e8)),(eK (Wk.agg (.r (.r (.r (.r (.r (.n (.r (.n (.r (.n (.n .nil)))))))))))) (aR rfl (aO [_] rfl rfl isAgg78 sizeOf78 (bK rfl rfl)))),aA (.cons _ (.cons _ (.refl _))) (.refl _),⟨(.mk 3 x1 .zero .zero x7 [] []),k8,e8,rfl,hs,hk8,he8,rfl⟩⟩
theorem aKz(A B:List Box)(rw:List bA)(P:Nat)(l:List Tok)(k dp e:Nat)(hok:TOk l)(hk:k<l.length)(he:e<16):aL prog 197 [pP P] [P] (PSt A B rw P l k dp e) (PAn A B rw P l dp (fun x=>.agg (dG x)) e k (nH l 6 k)):=by
 have hlen:=hok.len
 refine acB func197 rfl ?_
 show AWp prog _ ⟨8,[P],⟨A++⟨P,64,[.sl l.length (l.flatMap aW),nC k,nC dp,nC e]⟩::B,rw⟩,[(0,pP P)]⟩ _
 refine go 8 fun b1=>?_
 refine wcQ rfl call196 rfl (aIs (_::A) _ _ _ l k dp e hok hk he) ?_
 rintro t1 s1 ⟨x1,k1,e1,rfl,hr1,hk1,he1,rfl⟩
 obtain ⟨kd1,nn1,ee1,rr1,aa1,tt1,ff1⟩:=x1
 refine go 17 fun b2=>?_
 exact ⟨.inr rfl,_,(PSt A B rw P l (k1) (dp) (e1)),(aR rfl (aO [_] rfl rfl isAgg78 sizeOf78 (bK rfl rfl))),aA (.cons _ (.cons _ (.refl _))) (.refl _),⟨(.mk 6 nn1 ee1 rr1 aa1 tt1 ff1),k1,e1,rfl,by rw [aM7];exact hr1.map (f:=six),hk1,he1,rfl⟩⟩
theorem aL2(P:Nat)(t:ByteArray)(ht:t=bytes [118,97,114])(s:Sto):aL prog 168 [pP P,.c (.val (.string t))] [] s fun r s'=>r=.c (.val (.func (.func 194) #[.pointer (some ⟨P,0,none⟩)] #[])) /\ s'=s:=by
 obtain ⟨bx,rw⟩:=s
 refine acB func168 rfl ?_
 show AWp prog _ ⟨34,[],⟨bx,rw⟩,[(0,pP P),(1,.c (.val (.string t)))]⟩ _
 refine go 14 ?_
 refine wyz rfl (aZ true rfl rfl rfl (by subst ht;kernel_rfl)) (go 7 ?_)
 refine wyz rfl (iM rfl (vs:=[.pointer (some ⟨P,0,none⟩)]) rfl) (go 6 ?_)
 exact bHe (s':=⟨bx,rw⟩) rfl sb0 ⟨rfl,rfl⟩
theorem aMt(P:Nat)(t:ByteArray)(ht:t=bytes [103,111])(s:Sto):aL prog 168 [pP P,.c (.val (.string t))] [] s fun r s'=>r=.c (.val (.func (.func 195) #[.pointer (some ⟨P,0,none⟩)] #[])) /\ s'=s:=by
 obtain ⟨bx,rw⟩:=s
 refine acB func168 rfl ?_
 show AWp prog _ ⟨34,[],⟨bx,rw⟩,[(0,pP P),(1,.c (.val (.string t)))]⟩ _
 refine go 14 ?_
 refine wyz rfl (aZ false rfl rfl rfl (by subst ht;kernel_rfl)) (go 6 ?_)
 refine wyz rfl (aZ true rfl rfl rfl (by subst ht;kernel_rfl)) (go 7 ?_)
 refine wyz rfl (iM rfl (vs:=[.pointer (some ⟨P,0,none⟩)]) rfl) (go 6 ?_)
 exact bHe (s':=⟨bx,rw⟩) rfl sb0 ⟨rfl,rfl⟩
theorem aMp(P:Nat)(t:ByteArray)(ht:t=bytes [108,111,99,107])(s:Sto):aL prog 168 [pP P,.c (.val (.string t))] [] s fun r s'=>r=.c (.val (.func (.func 196) #[.pointer (some ⟨P,0,none⟩)] #[])) /\ s'=s:=by
 obtain ⟨bx,rw⟩:=s
 refine acB func168 rfl ?_
 show AWp prog _ ⟨34,[],⟨bx,rw⟩,[(0,pP P),(1,.c (.val (.string t)))]⟩ _
 refine go 14 ?_
 refine wyz rfl (aZ false rfl rfl rfl (by subst ht;kernel_rfl)) (go 6 ?_)
 refine wyz rfl (aZ false rfl rfl rfl (by subst ht;kernel_rfl)) (go 6 ?_)
 refine wyz rfl (aZ true rfl rfl rfl (by subst ht;kernel_rfl)) (go 7 ?_)
 refine wyz rfl (iM rfl (vs:=[.pointer (some ⟨P,0,none⟩)]) rfl) (go 6 ?_)
 exact bHe (s':=⟨bx,rw⟩) rfl sb0 ⟨rfl,rfl⟩
theorem aNl(P:Nat)(t:ByteArray)(ht:t=bytes [117,110,108,111,99,107])(s:Sto):aL prog 168 [pP P,.c (.val (.string t))] [] s fun r s'=>r=.c (.val (.func (.func 197) #[.pointer (some ⟨P,0,none⟩)] #[])) /\ s'=s:=by
 obtain ⟨bx,rw⟩:=s
 refine acB func168 rfl ?_
 show AWp prog _ ⟨34,[],⟨bx,rw⟩,[(0,pP P),(1,.c (.val (.string t)))]⟩ _
 refine go 14 ?_
 refine wyz rfl (aZ false rfl rfl rfl (by subst ht;kernel_rfl)) (go 6 ?_)
 refine wyz rfl (aZ false rfl rfl rfl (by subst ht;kernel_rfl)) (go 6 ?_)
 refine wyz rfl (aZ false rfl rfl rfl (by subst ht;kernel_rfl)) (go 6 ?_)
 refine wyz rfl (aZ true rfl rfl rfl (by subst ht;kernel_rfl)) (go 7 ?_)
 refine wyz rfl (iM rfl (vs:=[.pointer (some ⟨P,0,none⟩)]) rfl) (go 6 ?_)
 exact bHe (s':=⟨bx,rw⟩) rfl sb0 ⟨rfl,rfl⟩
theorem aN0(P:Nat)(t:ByteArray)(ht:t=bytes [105,102])(s:Sto):aL prog 168 [pP P,.c (.val (.string t))] [] s fun r s'=>r=.c (.val (.func (.func 198) #[.pointer (some ⟨P,0,none⟩)] #[])) /\ s'=s:=by
 obtain ⟨bx,rw⟩:=s
 refine acB func168 rfl ?_
 show AWp prog _ ⟨34,[],⟨bx,rw⟩,[(0,pP P),(1,.c (.val (.string t)))]⟩ _
 refine go 14 ?_
 refine wyz rfl (aZ false rfl rfl rfl (by subst ht;kernel_rfl)) (go 6 ?_)
 refine wyz rfl (aZ false rfl rfl rfl (by subst ht;kernel_rfl)) (go 6 ?_)
 refine wyz rfl (aZ false rfl rfl rfl (by subst ht;kernel_rfl)) (go 6 ?_)
 refine wyz rfl (aZ false rfl rfl rfl (by subst ht;kernel_rfl)) (go 6 ?_)
 refine wyz rfl (aZ true rfl rfl rfl (by subst ht;kernel_rfl)) (go 7 ?_)
 refine wyz rfl (iM rfl (vs:=[.pointer (some ⟨P,0,none⟩)]) rfl) (go 6 ?_)
 exact bHe (s':=⟨bx,rw⟩) rfl sb0 ⟨rfl,rfl⟩
theorem aLq(P:Nat)(t:ByteArray)(ht:t=bytes [119,104,105,108,101])(s:Sto):aL prog 168 [pP P,.c (.val (.string t))] [] s fun r s'=>r=.c (.val (.func (.func 199) #[.pointer (some ⟨P,0,none⟩)] #[])) /\ s'=s:=by
 obtain ⟨bx,rw⟩:=s
 refine acB func168 rfl ?_
 show AWp prog _ ⟨34,[],⟨bx,rw⟩,[(0,pP P),(1,.c (.val (.string t)))]⟩ _
 refine go 14 ?_
 refine wyz rfl (aZ false rfl rfl rfl (by subst ht;kernel_rfl)) (go 6 ?_)
 refine wyz rfl (aZ false rfl rfl rfl (by subst ht;kernel_rfl)) (go 6 ?_)
 refine wyz rfl (aZ false rfl rfl rfl (by subst ht;kernel_rfl)) (go 6 ?_)
 refine wyz rfl (aZ false rfl rfl rfl (by subst ht;kernel_rfl)) (go 6 ?_)
 refine wyz rfl (aZ false rfl rfl rfl (by subst ht;kernel_rfl)) (go 6 ?_)
 refine wyz rfl (aZ true rfl rfl rfl (by subst ht;kernel_rfl)) (go 7 ?_)
 refine wyz rfl (iM rfl (vs:=[.pointer (some ⟨P,0,none⟩)]) rfl) (go 6 ?_)
 exact bHe (s':=⟨bx,rw⟩) rfl sb0 ⟨rfl,rfl⟩
theorem aM5(P:Nat)(t:ByteArray)(ht:t=bytes [114,101,116,117,114,110])(s:Sto):aL prog 168 [pP P,.c (.val (.string t))] [] s fun r s'=>r=.c (.val (.func (.func 200) #[.pointer (some ⟨P,0,none⟩)] #[])) /\ s'=s:=by
 obtain ⟨bx,rw⟩:=s
 refine acB func168 rfl ?_
 show AWp prog _ ⟨34,[],⟨bx,rw⟩,[(0,pP P),(1,.c (.val (.string t)))]⟩ _
 refine go 14 ?_
 refine wyz rfl (aZ false rfl rfl rfl (by subst ht;kernel_rfl)) (go 6 ?_)
 refine wyz rfl (aZ false rfl rfl rfl (by subst ht;kernel_rfl)) (go 6 ?_)
 refine wyz rfl (aZ false rfl rfl rfl (by subst ht;kernel_rfl)) (go 6 ?_)
 refine wyz rfl (aZ false rfl rfl rfl (by subst ht;kernel_rfl)) (go 6 ?_)
 refine wyz rfl (aZ false rfl rfl rfl (by subst ht;kernel_rfl)) (go 6 ?_)
 refine wyz rfl (aZ false rfl rfl rfl (by subst ht;kernel_rfl)) (go 6 ?_)
 refine wyz rfl (aZ true rfl rfl rfl (by subst ht;kernel_rfl)) (go 7 ?_)
 refine wyz rfl (iM rfl (vs:=[.pointer (some ⟨P,0,none⟩)]) rfl) (go 6 ?_)
 exact bHe (s':=⟨bx,rw⟩) rfl sb0 ⟨rfl,rfl⟩
theorem aJo(P:Nat)(t:ByteArray)(h0:¬t=bytes [118,97,114])(h1:¬t=bytes [103,111])(h2:¬t=bytes [108,111,99,107])(h3:¬t=bytes [117,110,108,111,99,107])(h4:¬t=bytes [105,102])(h5:¬t=bytes [119,104,105,108,101])(h6:¬t=bytes [114,101,116,117,114,110])(s:Sto):aL prog 168 [pP P,.c (.val (.string t))] [] s fun r s'=>r=.c (.val (.nilFunc)) /\ s'=s:=by
 obtain ⟨bx,rw⟩:=s
 refine acB func168 rfl ?_
 show AWp prog _ ⟨34,[],⟨bx,rw⟩,[(0,pP P),(1,.c (.val (.string t)))]⟩ _
 refine go 14 ?_
 refine wyz rfl (aZ false rfl rfl rfl (by show some (decide (t=bytes [118,97,114]))=some false;rw [decide_eq_false h0])) (go 6 ?_)
 refine wyz rfl (aZ false rfl rfl rfl (by show some (decide (t=bytes [103,111]))=some false;rw [decide_eq_false h1])) (go 6 ?_)
 refine wyz rfl (aZ false rfl rfl rfl (by show some (decide (t=bytes [108,111,99,107]))=some false;rw [decide_eq_false h2])) (go 6 ?_)
 refine wyz rfl (aZ false rfl rfl rfl (by show some (decide (t=bytes [117,110,108,111,99,107]))=some false;rw [decide_eq_false h3])) (go 6 ?_)
 refine wyz rfl (aZ false rfl rfl rfl (by show some (decide (t=bytes [105,102]))=some false;rw [decide_eq_false h4])) (go 6 ?_)
 refine wyz rfl (aZ false rfl rfl rfl (by show some (decide (t=bytes [119,104,105,108,101]))=some false;rw [decide_eq_false h5])) (go 6 ?_)
 refine wyz rfl (aZ false rfl rfl rfl (by show some (decide (t=bytes [114,101,116,117,114,110]))=some false;rw [decide_eq_false h6])) (go 13 ?_)
 exact bHe (s':=⟨bx,rw⟩) rfl sb0 ⟨rfl,rfl⟩
theorem aN5(A B:List Box)(rw:List bA)(P:Nat)(l:List Tok)(k dp:Nat)(blk:Nat -> bN (List aJ))(hblk:∀(A B:List Box)(rw:List bA)(P k e:Nat),k<l.length -> e<16 -> aL prog 109 [pP P] [P] (PSt A B rw P l k dp e) (PAn A B rw P l dp (fun x=>.c (.sl x.length (x.flatMap encS))) e k (blk k)))(hok:TOk l)(hk:k<l.length)(hk3:l[k].kind=3)(ht:l[k].text=bytes [118,97,114]):aL prog 142 [pP P] [P] (PSt A B rw P l k dp 0) (PAn A B rw P l dp (fun x=>.agg (dG x)) 0 k (fB l blk k)):=by
 have hlen:=hok.len
 have he:(0:Nat)<16:=by decide
 refine acB func142 rfl ?_
 show AWp prog _ ⟨42,[P],⟨A++⟨P,64,[.sl l.length (l.flatMap aW),nC k,nC dp,nC 0]⟩::B,rw⟩,[(0,pP P)]⟩ _
 refine go 7 fun b1=>?_
 refine dx [b1,P] (tz [(0,true),(1,true),(2,true),(3,true),(4,true),(5,true),(6,true),(7,true)] 4 (go 9 ?_))
 refine tx 8 rfl (bH aW aW l bJ (fun _=>rfl) (k) rfl rfl rfl rfl hk (by decide) runUnderlying36 sizeOf66) (tz [(9,true),(10,true)] 1 (go 3 ?_))
 refine tx 11 rfl (bO true rfl rfl rfl (by rw [hk3];rfl)) ?_
 refine ax (go 3 ?_)
 refine dx [b1,P] (tz [(0,true),(1,true),(2,true),(3,true),(4,true),(5,true),(6,true),(7,true),(8,true)] 5 (go 10 ?_))
 refine tx 9 rfl (bH aW aW l bJ (fun _=>rfl) (k) rfl rfl rfl rfl hk (by decide) runUnderlying36 sizeOf66) (tz [(10,true),(11,true)] 2 (go 3 ?_))
 refine ox 12 rfl rfl (bD [] rfl rfl (by decide) call168 rfl (aL2 P l[k].text ht _) bDl bDl (fun _=>bDl) ?_)
 rintro t2 s2 ⟨rfl,rfl⟩
 refine tz [(13,true)] 0 (go 2 ?_)
 refine ax (go 4 ?_)
 refine wyz rfl (qF rfl rfl rfl) (go 5 ?_)
 have hm:=hok.last.more hk (by rw [bG hk,hk3];decide)
 refine go 4 ?_
 refine wad rfl (go 8 ?_)
 refine wo rfl (rL [P] rfl rfl rfl (by decide) call194 (us:=[]) rfl (aM8 (_::A) B rw P l (k+1) dp 0 hok hm (by decide)) (bDj (by simp)) (bDj (by simp [Sto.bl])) (fun _=>bDj (by simp)) ?_)
 rintro t4 s4 ⟨x4,k4,e4,rfl,hr4,hk4,he4,rfl⟩
 refine ⟨[],(fun _ b hb=>nomatch hb),?_⟩
 refine go 5 ?_
 exact ⟨.inr rfl,_,(PSt A B rw P l (k4) (dp) (e4)),(aR rfl (aO [] rfl rfl isAgg78 sizeOf78 (bK rfl rfl))),aA (.cons _ (.refl _)) (.refl _),⟨x4,k4,e4,rfl,(Run.from hr4).eq fun _=>by unfold fB;rw [if_pos (by rw [bR hk,hk3,ht];decide)],hk4,he4,rfl⟩⟩
theorem aPd(A B:List Box)(rw:List bA)(P:Nat)(l:List Tok)(k dp:Nat)(blk:Nat -> bN (List aJ))(hblk:∀(A B:List Box)(rw:List bA)(P k e:Nat),k<l.length -> e<16 -> aL prog 109 [pP P] [P] (PSt A B rw P l k dp e) (PAn A B rw P l dp (fun x=>.c (.sl x.length (x.flatMap encS))) e k (blk k)))(hok:TOk l)(hk:k<l.length)(hk3:l[k].kind=3)(ht:l[k].text=bytes [103,111]):aL prog 142 [pP P] [P] (PSt A B rw P l k dp 0) (PAn A B rw P l dp (fun x=>.agg (dG x)) 0 k (fB l blk k)):=by
 have hlen:=hok.len
 have he:(0:Nat)<16:=by decide
 refine acB func142 rfl ?_
 show AWp prog _ ⟨42,[P],⟨A++⟨P,64,[.sl l.length (l.flatMap aW),nC k,nC dp,nC 0]⟩::B,rw⟩,[(0,pP P)]⟩ _
 refine go 7 fun b1=>?_
 refine dx [b1,P] (tz [(0,true),(1,true),(2,true),(3,true),(4,true),(5,true),(6,true),(7,true)] 4 (go 9 ?_))
 refine tx 8 rfl (bH aW aW l bJ (fun _=>rfl) (k) rfl rfl rfl rfl hk (by decide) runUnderlying36 sizeOf66) (tz [(9,true),(10,true)] 1 (go 3 ?_))
 refine tx 11 rfl (bO true rfl rfl rfl (by rw [hk3];rfl)) ?_
 refine ax (go 3 ?_)
 refine dx [b1,P] (tz [(0,true),(1,true),(2,true),(3,true),(4,true),(5,true),(6,true),(7,true),(8,true)] 5 (go 10 ?_))
 refine tx 9 rfl (bH aW aW l bJ (fun _=>rfl) (k) rfl rfl rfl rfl hk (by decide) runUnderlying36 sizeOf66) (tz [(10,true),(11,true)] 2 (go 3 ?_))
 refine ox 12 rfl rfl (bD [] rfl rfl (by decide) call168 rfl (aMt P l[k].text ht _) bDl bDl (fun _=>bDl) ?_)
 rintro t2 s2 ⟨rfl,rfl⟩
 refine tz [(13,true)] 0 (go 2 ?_)
 refine ax (go 4 ?_)
 refine wyz rfl (qF rfl rfl rfl) (go 5 ?_)
 have hm:=hok.last.more hk (by rw [bG hk,hk3];decide)
 refine go 4 ?_
 refine wad rfl (go 8 ?_)
 refine wo rfl (rL [P] rfl rfl rfl (by decide) call195 (us:=[]) rfl (aTh (_::A) B rw P l (k+1) dp 0 hok hm (by decide)) (bDj (by simp)) (bDj (by simp [Sto.bl])) (fun _=>bDj (by simp)) ?_)
 rintro t4 s4 ⟨x4,k4,e4,rfl,hr4,hk4,he4,rfl⟩
 refine ⟨[],(fun _ b hb=>nomatch hb),?_⟩
 refine go 5 ?_
 exact ⟨.inr rfl,_,(PSt A B rw P l (k4) (dp) (e4)),(aR rfl (aO [] rfl rfl isAgg78 sizeOf78 (bK rfl rfl))),aA (.cons _ (.refl _)) (.refl _),⟨x4,k4,e4,rfl,(Run.from hr4).eq fun _=>by unfold fB;rw [if_neg (by rw [bR hk,hk3,ht];decide),if_pos (by rw [bR hk,hk3,ht];decide)],hk4,he4,rfl⟩⟩
theorem aOo(A B:List Box)(rw:List bA)(P:Nat)(l:List Tok)(k dp:Nat)(blk:Nat -> bN (List aJ))(hblk:∀(A B:List Box)(rw:List bA)(P k e:Nat),k<l.length -> e<16 -> aL prog 109 [pP P] [P] (PSt A B rw P l k dp e) (PAn A B rw P l dp (fun x=>.c (.sl x.length (x.flatMap encS))) e k (blk k)))(hok:TOk l)(hk:k<l.length)(hk3:l[k].kind=3)(ht:l[k].text=bytes [108,111,99,107]):aL prog 142 [pP P] [P] (PSt A B rw P l k dp 0) (PAn A B rw P l dp (fun x=>.agg (dG x)) 0 k (fB l blk k)):=by
 have hlen:=hok.len
 have he:(0:Nat)<16:=by decide
 refine acB func142 rfl ?_
 show AWp prog _ ⟨42,[P],⟨A++⟨P,64,[.sl l.length (l.flatMap aW),nC k,nC dp,nC 0]⟩::B,rw⟩,[(0,pP P)]⟩ _
 refine go 7 fun b1=>?_
 refine dx [b1,P] (tz [(0,true),(1,true),(2,true),(3,true),(4,true),(5,true),(6,true),(7,true)] 4 (go 9 ?_))
 refine tx 8 rfl (bH aW aW l bJ (fun _=>rfl) (k) rfl rfl rfl rfl hk (by decide) runUnderlying36 sizeOf66) (tz [(9,true),(10,true)] 1 (go 3 ?_))
 refine tx 11 rfl (bO true rfl rfl rfl (by rw [hk3];rfl)) ?_
 refine ax (go 3 ?_)
 refine dx [b1,P] (tz [(0,true),(1,true),(2,true),(3,true),(4,true),(5,true),(6,true),(7,true),(8,true)] 5 (go 10 ?_))
 refine tx 9 rfl (bH aW aW l bJ (fun _=>rfl) (k) rfl rfl rfl rfl hk (by decide) runUnderlying36 sizeOf66) (tz [(10,true),(11,true)] 2 (go 3 ?_))
 refine ox 12 rfl rfl (bD [] rfl rfl (by decide) call168 rfl (aMp P l[k].text ht _) bDl bDl (fun _=>bDl) ?_)
 rintro t2 s2 ⟨rfl,rfl⟩
 refine tz [(13,true)] 0 (go 2 ?_)
 refine ax (go 4 ?_)
 refine wyz rfl (qF rfl rfl rfl) (go 5 ?_)
 have hm:=hok.last.more hk (by rw [bG hk,hk3];decide)
 refine go 4 ?_
 refine wad rfl (go 8 ?_)
 refine wo rfl (rL [P] rfl rfl rfl (by decide) call196 (us:=[]) rfl (aIs (_::A) B rw P l (k+1) dp 0 hok hm (by decide)) (bDj (by simp)) (bDj (by simp [Sto.bl])) (fun _=>bDj (by simp)) ?_)
 rintro t4 s4 ⟨x4,k4,e4,rfl,hr4,hk4,he4,rfl⟩
 refine ⟨[],(fun _ b hb=>nomatch hb),?_⟩
 refine go 5 ?_
 exact ⟨.inr rfl,_,(PSt A B rw P l (k4) (dp) (e4)),(aR rfl (aO [] rfl rfl isAgg78 sizeOf78 (bK rfl rfl))),aA (.cons _ (.refl _)) (.refl _),⟨x4,k4,e4,rfl,(Run.from hr4).eq fun _=>by unfold fB;rw [if_neg (by rw [bR hk,hk3,ht];decide),if_neg (by rw [bR hk,hk3,ht];decide),if_pos (by rw [bR hk,hk3,ht];decide)],hk4,he4,rfl⟩⟩
theorem aO5(A B:List Box)(rw:List bA)(P:Nat)(l:List Tok)(k dp:Nat)(blk:Nat -> bN (List aJ))(hblk:∀(A B:List Box)(rw:List bA)(P k e:Nat),k<l.length -> e<16 -> aL prog 109 [pP P] [P] (PSt A B rw P l k dp e) (PAn A B rw P l dp (fun x=>.c (.sl x.length (x.flatMap encS))) e k (blk k)))(hok:TOk l)(hk:k<l.length)(hk3:l[k].kind=3)(ht:l[k].text=bytes [117,110,108,111,99,107]):aL prog 142 [pP P] [P] (PSt A B rw P l k dp 0) (PAn A B rw P l dp (fun x=>.agg (dG x)) 0 k (fB l blk k)):=by
 have hlen:=hok.len
 have he:(0:Nat)<16:=by decide
 refine acB func142 rfl ?_
 show AWp prog _ ⟨42,[P],⟨A++⟨P,64,[.sl l.length (l.flatMap aW),nC k,nC dp,nC 0]⟩::B,rw⟩,[(0,pP P)]⟩ _
 refine go 7 fun b1=>?_
 refine dx [b1,P] (tz [(0,true),(1,true),(2,true),(3,true),(4,true),(5,true),(6,true),(7,true)] 4 (go 9 ?_))
 refine tx 8 rfl (bH aW aW l bJ (fun _=>rfl) (k) rfl rfl rfl rfl hk (by decide) runUnderlying36 sizeOf66) (tz [(9,true),(10,true)] 1 (go 3 ?_))
 refine tx 11 rfl (bO true rfl rfl rfl (by rw [hk3];rfl)) ?_
 refine ax (go 3 ?_)
 refine dx [b1,P] (tz [(0,true),(1,true),(2,true),(3,true),(4,true),(5,true),(6,true),(7,true),(8,true)] 5 (go 10 ?_))
 refine tx 9 rfl (bH aW aW l bJ (fun _=>rfl) (k) rfl rfl rfl rfl hk (by decide) runUnderlying36 sizeOf66) (tz [(10,true),(11,true)] 2 (go 3 ?_))
 refine ox 12 rfl rfl (bD [] rfl rfl (by decide) call168 rfl (aNl P l[k].text ht _) bDl bDl (fun _=>bDl) ?_)
 rintro t2 s2 ⟨rfl,rfl⟩
 refine tz [(13,true)] 0 (go 2 ?_)
 refine ax (go 4 ?_)
 refine wyz rfl (qF rfl rfl rfl) (go 5 ?_)
 have hm:=hok.last.more hk (by rw [bG hk,hk3];decide)
 refine go 4 ?_
 refine wad rfl (go 8 ?_)
 refine wo rfl (rL [P] rfl rfl rfl (by decide) call197 (us:=[]) rfl (aKz (_::A) B rw P l (k+1) dp 0 hok hm (by decide)) (bDj (by simp)) (bDj (by simp [Sto.bl])) (fun _=>bDj (by simp)) ?_)
 rintro t4 s4 ⟨x4,k4,e4,rfl,hr4,hk4,he4,rfl⟩
 refine ⟨[],(fun _ b hb=>nomatch hb),?_⟩
 refine go 5 ?_
 exact ⟨.inr rfl,_,(PSt A B rw P l (k4) (dp) (e4)),(aR rfl (aO [] rfl rfl isAgg78 sizeOf78 (bK rfl rfl))),aA (.cons _ (.refl _)) (.refl _),⟨x4,k4,e4,rfl,(Run.from hr4).eq fun _=>by unfold fB;rw [if_neg (by rw [bR hk,hk3,ht];decide),if_neg (by rw [bR hk,hk3,ht];decide),if_neg (by rw [bR hk,hk3,ht];decide),if_pos (by rw [bR hk,hk3,ht];decide)],hk4,he4,rfl⟩⟩
theorem aPb(A B:List Box)(rw:List bA)(P:Nat)(l:List Tok)(k dp:Nat)(blk:Nat -> bN (List aJ))(hblk:∀(A B:List Box)(rw:List bA)(P k e:Nat),k<l.length -> e<16 -> aL prog 109 [pP P] [P] (PSt A B rw P l k dp e) (PAn A B rw P l dp (fun x=>.c (.sl x.length (x.flatMap encS))) e k (blk k)))(hok:TOk l)(hk:k<l.length)(hk3:l[k].kind=3)(ht:l[k].text=bytes [105,102]):aL prog 142 [pP P] [P] (PSt A B rw P l k dp 0) (PAn A B rw P l dp (fun x=>.agg (dG x)) 0 k (fB l blk k)):=by
 have hlen:=hok.len
 have he:(0:Nat)<16:=by decide
 refine acB func142 rfl ?_
 show AWp prog _ ⟨42,[P],⟨A++⟨P,64,[.sl l.length (l.flatMap aW),nC k,nC dp,nC 0]⟩::B,rw⟩,[(0,pP P)]⟩ _
 refine go 7 fun b1=>?_
 refine dx [b1,P] (tz [(0,true),(1,true),(2,true),(3,true),(4,true),(5,true),(6,true),(7,true)] 4 (go 9 ?_))
 refine tx 8 rfl (bH aW aW l bJ (fun _=>rfl) (k) rfl rfl rfl rfl hk (by decide) runUnderlying36 sizeOf66) (tz [(9,true),(10,true)] 1 (go 3 ?_))
 refine tx 11 rfl (bO true rfl rfl rfl (by rw [hk3];rfl)) ?_
 refine ax (go 3 ?_)
 refine dx [b1,P] (tz [(0,true),(1,true),(2,true),(3,true),(4,true),(5,true),(6,true),(7,true),(8,true)] 5 (go 10 ?_))
 refine tx 9 rfl (bH aW aW l bJ (fun _=>rfl) (k) rfl rfl rfl rfl hk (by decide) runUnderlying36 sizeOf66) (tz [(10,true),(11,true)] 2 (go 3 ?_))
 refine ox 12 rfl rfl (bD [] rfl rfl (by decide) call168 rfl (aN0 P l[k].text ht _) bDl bDl (fun _=>bDl) ?_)
 rintro t2 s2 ⟨rfl,rfl⟩
 refine tz [(13,true)] 0 (go 2 ?_)
 refine ax (go 4 ?_)
 refine wyz rfl (qF rfl rfl rfl) (go 5 ?_)
 have hm:=hok.last.more hk (by rw [bG hk,hk3];decide)
 refine go 4 ?_
 refine wad rfl (go 8 ?_)
 refine wo rfl (rL [P] rfl rfl rfl (by decide) call198 (us:=[]) rfl (aR8 (_::A) B rw P l (k+1) dp 0 blk hblk hok hm (by decide)) (bDj (by simp)) (bDj (by simp [Sto.bl])) (fun _=>bDj (by simp)) ?_)
 rintro t4 s4 ⟨x4,k4,e4,rfl,hr4,hk4,he4,rfl⟩
 refine ⟨[],(fun _ b hb=>nomatch hb),?_⟩
 refine go 5 ?_
 exact ⟨.inr rfl,_,(PSt A B rw P l (k4) (dp) (e4)),(aR rfl (aO [] rfl rfl isAgg78 sizeOf78 (bK rfl rfl))),aA (.cons _ (.refl _)) (.refl _),⟨x4,k4,e4,rfl,(Run.from hr4).eq fun _=>by unfold fB;rw [if_neg (by rw [bR hk,hk3,ht];decide),if_neg (by rw [bR hk,hk3,ht];decide),if_neg (by rw [bR hk,hk3,ht];decide),if_neg (by rw [bR hk,hk3,ht];decide),if_pos (by rw [bR hk,hk3,ht];decide)],hk4,he4,rfl⟩⟩
theorem aN2(A B:List Box)(rw:List bA)(P:Nat)(l:List Tok)(k dp:Nat)(blk:Nat -> bN (List aJ))(hblk:∀(A B:List Box)(rw:List bA)(P k e:Nat),k<l.length -> e<16 -> aL prog 109 [pP P] [P] (PSt A B rw P l k dp e) (PAn A B rw P l dp (fun x=>.c (.sl x.length (x.flatMap encS))) e k (blk k)))(hok:TOk l)(hk:k<l.length)(hk3:l[k].kind=3)(ht:l[k].text=bytes [119,104,105,108,101]):aL prog 142 [pP P] [P] (PSt A B rw P l k dp 0) (PAn A B rw P l dp (fun x=>.agg (dG x)) 0 k (fB l blk k)):=by
 have hlen:=hok.len
 have he:(0:Nat)<16:=by decide
 refine acB func142 rfl ?_
 show AWp prog _ ⟨42,[P],⟨A++⟨P,64,[.sl l.length (l.flatMap aW),nC k,nC dp,nC 0]⟩::B,rw⟩,[(0,pP P)]⟩ _
 refine go 7 fun b1=>?_
 refine dx [b1,P] (tz [(0,true),(1,true),(2,true),(3,true),(4,true),(5,true),(6,true),(7,true)] 4 (go 9 ?_))
 refine tx 8 rfl (bH aW aW l bJ (fun _=>rfl) (k) rfl rfl rfl rfl hk (by decide) runUnderlying36 sizeOf66) (tz [(9,true),(10,true)] 1 (go 3 ?_))
 refine tx 11 rfl (bO true rfl rfl rfl (by rw [hk3];rfl)) ?_
 refine ax (go 3 ?_)
 refine dx [b1,P] (tz [(0,true),(1,true),(2,true),(3,true),(4,true),(5,true),(6,true),(7,true),(8,true)] 5 (go 10 ?_))
 refine tx 9 rfl (bH aW aW l bJ (fun _=>rfl) (k) rfl rfl rfl rfl hk (by decide) runUnderlying36 sizeOf66) (tz [(10,true),(11,true)] 2 (go 3 ?_))
 refine ox 12 rfl rfl (bD [] rfl rfl (by decide) call168 rfl (aLq P l[k].text ht _) bDl bDl (fun _=>bDl) ?_)
 rintro t2 s2 ⟨rfl,rfl⟩
 refine tz [(13,true)] 0 (go 2 ?_)
 refine ax (go 4 ?_)
 refine wyz rfl (qF rfl rfl rfl) (go 5 ?_)
 have hm:=hok.last.more hk (by rw [bG hk,hk3];decide)
 refine go 4 ?_
 refine wad rfl (go 8 ?_)
 refine wo rfl (rL [P] rfl rfl rfl (by decide) call199 (us:=[]) rfl (aLx (_::A) B rw P l (k+1) dp 0 blk hblk hok hm (by decide)) (bDj (by simp)) (bDj (by simp [Sto.bl])) (fun _=>bDj (by simp)) ?_)
 rintro t4 s4 ⟨x4,k4,e4,rfl,hr4,hk4,he4,rfl⟩
 refine ⟨[],(fun _ b hb=>nomatch hb),?_⟩
 refine go 5 ?_
 exact ⟨.inr rfl,_,(PSt A B rw P l (k4) (dp) (e4)),(aR rfl (aO [] rfl rfl isAgg78 sizeOf78 (bK rfl rfl))),aA (.cons _ (.refl _)) (.refl _),⟨x4,k4,e4,rfl,(Run.from hr4).eq fun _=>by unfold fB;rw [if_neg (by rw [bR hk,hk3,ht];decide),if_neg (by rw [bR hk,hk3,ht];decide),if_neg (by rw [bR hk,hk3,ht];decide),if_neg (by rw [bR hk,hk3,ht];decide),if_neg (by rw [bR hk,hk3,ht];decide),if_pos (by rw [bR hk,hk3,ht];decide)],hk4,he4,rfl⟩⟩
theorem aOr(A B:List Box)(rw:List bA)(P:Nat)(l:List Tok)(k dp:Nat)(blk:Nat -> bN (List aJ))(hblk:∀(A B:List Box)(rw:List bA)(P k e:Nat),k<l.length -> e<16 -> aL prog 109 [pP P] [P] (PSt A B rw P l k dp e) (PAn A B rw P l dp (fun x=>.c (.sl x.length (x.flatMap encS))) e k (blk k)))(hok:TOk l)(hk:k<l.length)(hk3:l[k].kind=3)(ht:l[k].text=bytes [114,101,116,117,114,110]):aL prog 142 [pP P] [P] (PSt A B rw P l k dp 0) (PAn A B rw P l dp (fun x=>.agg (dG x)) 0 k (fB l blk k)):=by
 have hlen:=hok.len
 have he:(0:Nat)<16:=by decide
 refine acB func142 rfl ?_
 show AWp prog _ ⟨42,[P],⟨A++⟨P,64,[.sl l.length (l.flatMap aW),nC k,nC dp,nC 0]⟩::B,rw⟩,[(0,pP P)]⟩ _
 refine go 7 fun b1=>?_
 refine dx [b1,P] (tz [(0,true),(1,true),(2,true),(3,true),(4,true),(5,true),(6,true),(7,true)] 4 (go 9 ?_))
 refine tx 8 rfl (bH aW aW l bJ (fun _=>rfl) (k) rfl rfl rfl rfl hk (by decide) runUnderlying36 sizeOf66) (tz [(9,true),(10,true)] 1 (go 3 ?_))
 refine tx 11 rfl (bO true rfl rfl rfl (by rw [hk3];rfl)) ?_
 refine ax (go 3 ?_)
 refine dx [b1,P] (tz [(0,true),(1,true),(2,true),(3,true),(4,true),(5,true),(6,true),(7,true),(8,true)] 5 (go 10 ?_))
 refine tx 9 rfl (bH aW aW l bJ (fun _=>rfl) (k) rfl rfl rfl rfl hk (by decide) runUnderlying36 sizeOf66) (tz [(10,true),(11,true)] 2 (go 3 ?_))
 refine ox 12 rfl rfl (bD [] rfl rfl (by decide) call168 rfl (aM5 P l[k].text ht _) bDl bDl (fun _=>bDl) ?_)
 rintro t2 s2 ⟨rfl,rfl⟩
 refine tz [(13,true)] 0 (go 2 ?_)
 refine ax (go 4 ?_)
 refine wyz rfl (qF rfl rfl rfl) (go 5 ?_)
 have hm:=hok.last.more hk (by rw [bG hk,hk3];decide)
 refine go 4 ?_
 refine wad rfl (go 8 ?_)
 refine wo rfl (rL [P] rfl rfl rfl (by decide) call200 (us:=[]) rfl (aP9 (_::A) B rw P l (k+1) dp 0 hok hm (by decide)) (bDj (by simp)) (bDj (by simp [Sto.bl])) (fun _=>bDj (by simp)) ?_)
 rintro t4 s4 ⟨x4,k4,e4,rfl,hr4,hk4,he4,rfl⟩
 refine ⟨[],(fun _ b hb=>nomatch hb),?_⟩
 refine go 5 ?_
 exact ⟨.inr rfl,_,(PSt A B rw P l (k4) (dp) (e4)),(aR rfl (aO [] rfl rfl isAgg78 sizeOf78 (bK rfl rfl))),aA (.cons _ (.refl _)) (.refl _),⟨x4,k4,e4,rfl,(Run.from hr4).eq fun _=>by unfold fB;rw [if_neg (by rw [bR hk,hk3,ht];decide),if_neg (by rw [bR hk,hk3,ht];decide),if_neg (by rw [bR hk,hk3,ht];decide),if_neg (by rw [bR hk,hk3,ht];decide),if_neg (by rw [bR hk,hk3,ht];decide),if_neg (by rw [bR hk,hk3,ht];decide),if_pos (by rw [bR hk,hk3,ht];decide)],hk4,he4,rfl⟩⟩
theorem aLv(A B:List Box)(rw:List bA)(P:Nat)(l:List Tok)(k dp:Nat)(blk:Nat -> bN (List aJ))(hblk:∀(A B:List Box)(rw:List bA)(P k e:Nat),k<l.length -> e<16 -> aL prog 109 [pP P] [P] (PSt A B rw P l k dp e) (PAn A B rw P l dp (fun x=>.c (.sl x.length (x.flatMap encS))) e k (blk k)))(hok:TOk l)(hk:k<l.length)(hk3:l[k].kind=3)(h0:¬l[k].text=bytes [118,97,114])(h1:¬l[k].text=bytes [103,111])(h2:¬l[k].text=bytes [108,111,99,107])(h3:¬l[k].text=bytes [117,110,108,111,99,107])(h4:¬l[k].text=bytes [105,102])(h5:¬l[k].text=bytes [119,104,105,108,101])(h6:¬l[k].text=bytes [114,101,116,117,114,110]):aL prog 142 [pP P] [P] (PSt A B rw P l k dp 0) (PAn A B rw P l dp (fun x=>.agg (dG x)) 0 k (fB l blk k)):=by
 have hlen:=hok.len
 have he:(0:Nat)<16:=by decide
 refine acB func142 rfl ?_
 show AWp prog _ ⟨42,[P],⟨A++⟨P,64,[.sl l.length (l.flatMap aW),nC k,nC dp,nC 0]⟩::B,rw⟩,[(0,pP P)]⟩ _
 refine go 7 fun b1=>?_
 refine dx [b1,P] (tz [(0,true),(1,true),(2,true),(3,true),(4,true),(5,true),(6,true),(7,true)] 4 (go 9 ?_))
 refine tx 8 rfl (bH aW aW l bJ (fun _=>rfl) (k) rfl rfl rfl rfl hk (by decide) runUnderlying36 sizeOf66) (tz [(9,true),(10,true)] 1 (go 3 ?_))
 refine tx 11 rfl (bO true rfl rfl rfl (by rw [hk3];rfl)) ?_
 refine ax (go 3 ?_)
 refine dx [b1,P] (tz [(0,true),(1,true),(2,true),(3,true),(4,true),(5,true),(6,true),(7,true),(8,true)] 5 (go 10 ?_))
 refine tx 9 rfl (bH aW aW l bJ (fun _=>rfl) (k) rfl rfl rfl rfl hk (by decide) runUnderlying36 sizeOf66) (tz [(10,true),(11,true)] 2 (go 3 ?_))
 refine ox 12 rfl rfl (bD [] rfl rfl (by decide) call168 rfl (aJo P l[k].text h0 h1 h2 h3 h4 h5 h6 _) bDl bDl (fun _=>bDl) ?_)
 rintro t2 s2 ⟨rfl,rfl⟩
 refine tz [(13,true)] 0 (go 2 ?_)
 refine ax (go 4 ?_)
 refine wyz rfl (aOu rfl rfl rfl) (go 8 ?_)
 refine wcQ rfl call169 rfl (aFg (_::A) _ _ _ l k dp 0 hok hk he) ?_
 rintro t4 s4 ⟨x4,k4,e4,rfl,hr4,hk4,he4,rfl⟩
 refine go 4 ?_
 exact ⟨.inr rfl,_,(PSt A B rw P l (k4) (dp) (e4)),(aR rfl (aO [] rfl rfl isAgg78 sizeOf78 (bK rfl rfl))),aA (.cons _ (.refl _)) (.refl _),⟨x4,k4,e4,rfl,hr4.eq fun _=>by unfold fB;rw [if_neg (by rw [bR hk,decide_eq_false h0,Bool.and_false];decide),if_neg (by rw [bR hk,decide_eq_false h1,Bool.and_false];decide),if_neg (by rw [bR hk,decide_eq_false h2,Bool.and_false];decide),if_neg (by rw [bR hk,decide_eq_false h3,Bool.and_false];decide),if_neg (by rw [bR hk,decide_eq_false h4,Bool.and_false];decide),if_neg (by rw [bR hk,decide_eq_false h5,Bool.and_false];decide),if_neg (by rw [bR hk,decide_eq_false h6,Bool.and_false];decide)],hk4,he4,rfl⟩⟩
theorem aHk(A B:List Box)(rw:List bA)(P:Nat)(l:List Tok)(k dp:Nat)(blk:Nat -> bN (List aJ))(hblk:∀(A B:List Box)(rw:List bA)(P k e:Nat),k<l.length -> e<16 -> aL prog 109 [pP P] [P] (PSt A B rw P l k dp e) (PAn A B rw P l dp (fun x=>.c (.sl x.length (x.flatMap encS))) e k (blk k)))(hok:TOk l)(hk:k<l.length)(hk3:¬l[k].kind=3):aL prog 142 [pP P] [P] (PSt A B rw P l k dp 0) (PAn A B rw P l dp (fun x=>.agg (dG x)) 0 k (fB l blk k)):=by
 have hlen:=hok.len
 have he:(0:Nat)<16:=by decide
 refine acB func142 rfl ?_
 show AWp prog _ ⟨42,[P],⟨A++⟨P,64,[.sl l.length (l.flatMap aW),nC k,nC dp,nC 0]⟩::B,rw⟩,[(0,pP P)]⟩ _
 refine go 7 fun b1=>?_
 refine dx [b1,P] (tz [(0,true),(1,true),(2,true),(3,true),(4,true),(5,true),(6,true),(7,true)] 4 (go 9 ?_))
 refine tx 8 rfl (bH aW aW l bJ (fun _=>rfl) (k) rfl rfl rfl rfl hk (by decide) runUnderlying36 sizeOf66) (tz [(9,true),(10,true)] 1 (go 3 ?_))
 refine tx 11 rfl (bO false rfl rfl rfl (by rw [show bC .eql ((l[k].kind:Nat):Int) 3=some (decide (l[k].kind=3)) from jS (n:=3),decide_eq_false hk3])) ?_
 refine ax (go 7 ?_)
 refine wcQ rfl call169 rfl (aFg (_::A) _ _ _ l k dp 0 hok hk he) ?_
 rintro t2 s2 ⟨x2,k2,e2,rfl,hr2,hk2,he2,rfl⟩
 refine go 4 ?_
 exact ⟨.inr rfl,_,(PSt A B rw P l (k2) (dp) (e2)),(aR rfl (aO [] rfl rfl isAgg78 sizeOf78 (bK rfl rfl))),aA (.cons _ (.refl _)) (.refl _),⟨x2,k2,e2,rfl,hr2.eq fun _=>by unfold fB;rw [if_neg (by rw [bR hk,decide_eq_false hk3,Bool.false_and];decide),if_neg (by rw [bR hk,decide_eq_false hk3,Bool.false_and];decide),if_neg (by rw [bR hk,decide_eq_false hk3,Bool.false_and];decide),if_neg (by rw [bR hk,decide_eq_false hk3,Bool.false_and];decide),if_neg (by rw [bR hk,decide_eq_false hk3,Bool.false_and];decide),if_neg (by rw [bR hk,decide_eq_false hk3,Bool.false_and];decide),if_neg (by rw [bR hk,decide_eq_false hk3,Bool.false_and];decide)],hk2,he2,rfl⟩⟩
theorem aOd(A B:List Box)(rw:List bA)(P:Nat)(l:List Tok)(k dp:Nat)(blk:Nat -> bN (List aJ))(hblk:∀(A B:List Box)(rw:List bA)(P k e:Nat),k<l.length -> e<16 -> aL prog 109 [pP P] [P] (PSt A B rw P l k dp e) (PAn A B rw P l dp (fun x=>.c (.sl x.length (x.flatMap encS))) e k (blk k)))(hok:TOk l)(hk:k<l.length):aL prog 142 [pP P] [P] (PSt A B rw P l k dp 0) (PAn A B rw P l dp (fun x=>.agg (dG x)) 0 k (fB l blk k)):=by
 by_cases hk3:l[k].kind=3
 ·by_cases h0:l[k].text=bytes [118,97,114]
  ·exact aN5 A B rw P l k dp blk hblk hok hk hk3 h0
  by_cases h1:l[k].text=bytes [103,111]
  ·exact aPd A B rw P l k dp blk hblk hok hk hk3 h1
  by_cases h2:l[k].text=bytes [108,111,99,107]
  ·exact aOo A B rw P l k dp blk hblk hok hk hk3 h2
  by_cases h3:l[k].text=bytes [117,110,108,111,99,107]
  ·exact aO5 A B rw P l k dp blk hblk hok hk hk3 h3
  by_cases h4:l[k].text=bytes [105,102]
  ·exact aPb A B rw P l k dp blk hblk hok hk hk3 h4
  by_cases h5:l[k].text=bytes [119,104,105,108,101]
  ·exact aN2 A B rw P l k dp blk hblk hok hk hk3 h5
  by_cases h6:l[k].text=bytes [114,101,116,117,114,110]
  ·exact aOr A B rw P l k dp blk hblk hok hk hk3 h6
  exact aLv A B rw P l k dp blk hblk hok hk hk3 h0 h1 h2 h3 h4 h5 h6
 exact aHk A B rw P l k dp blk hblk hok hk hk3
end
end Go.Proofs.YtojinfngbbajgaaGreatDoor
