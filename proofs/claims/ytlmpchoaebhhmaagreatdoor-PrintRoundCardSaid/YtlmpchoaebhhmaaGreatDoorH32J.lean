import Derived.Test.YtlmpchoaebhhmaaGreatDoorH5J
import Derived.Test.YtlmpchoaebhhmaaGreatDoorH31J
import Derived.Test.YtlmpchoaebhhmaaGreatDoorH7J
set_option linter.all false
set_option synthInstance.maxHeartbeats 1000000
set_option synthInstance.maxSize 1000000
set_option maxHeartbeats 1600000
set_option maxRecDepth 100000
namespace Go.Proofs.YtlmpchoaebhhmaaGreatDoor
open Go.Proofs.Tryz
open List (length_append length_cons length_nil mem_append mem_cons not_mem_nil append_assoc getElem_mem take_of_length_le)
section
open Go.RowKit
abbrev PSt(A B:List Box)(rw:List bA)(P:Nat)(l:List Tok)(k dp e:Nat):Sto:=⟨A++⟨P,97,[.sl l.length (l.flatMap aW),.val (.int .i64 (k:Int)),.val (.int .i64 (dp:Int)),.val (.int .i64 (e:Int))]⟩::B,rw⟩
def PAn{α:Type}(A B:List Box)(rw:List bA)(P:Nat)(l:List Tok)(dp:Nat)(enc:α -> AT)(e k:Nat)(r:bN α)(t:AT)(s:Sto):Prop:=
 ∃x k1 e1,t=enc x /\ Run e k r x k1 e1 /\ k1<l.length /\ e1<16 /\ s=PSt A B rw P l k1 dp e1
def aBr(e x e1:Nat):Prop:=(e=0 -> x=e1) /\ (e≠0 -> e=e1)
theorem aBr.small{e x e1:Nat}(h:aBr e x e1)(he:e<16)(hx:x<16):e1<16:=by
 by_cases h0:e=0
 ·rw [←h.1 h0];exact hx
 rw [←h.2 h0];exact he
theorem aBr.run{α:Type}{e k x e1:Nat}{r:bN α}(h:aBr e x e1)(hx:x≠0)(hr:e=0 -> r=.err k x)(y:α):Run e k r y k e1:=by
 by_cases he:e=0
 ·obtain rfl:=h.1 he
  subst he
  exact .err _ _ _ _ (hr rfl) hx
 obtain rfl:=h.2 he
 exact .skip he _ _
theorem bHd{l:List Tok}(h:TOk l){k:Nat}(hk:k<l.length){s:List UInt8}(ha:dN l k s=true):k+1<l.length:=h.last.more hk (by rw [(kP ha).1];decide)
theorem aN7(A B:List Box)(rw:List bA)(P:Nat)(l:List Tok)(k dp x:Nat):aL prog 90 [pP P,.c (.val (.int .i64 (x:Int)))] [P] (PSt A B rw P l k dp 0) fun t s=>t=.tup [] /\ s=PSt A B rw P l k dp x:=by
 refine acB func90 rfl ?_
 show AWp prog _ ⟨13,[P],⟨A++⟨P,97,[.sl l.length (l.flatMap aW),nC k,nC dp,nC 0]⟩::B,rw⟩,[(0,pP P),(1,.c (.val (.int .i64 (x:Int))))]⟩ _
 refine go 6 ?_
 refine wcp true rfl (by rfl) ?_
 refine go 10 ?_
 exact ⟨.inl rfl,_,(PSt A B rw P l (k) (dp) (x)),cH rfl,aA (.refl _) (.refl _),rfl,rfl⟩
theorem aN4(A B:List Box)(rw:List bA)(P:Nat)(l:List Tok)(k dp x e:Nat)(he0:e≠0):aL prog 90 [pP P,.c (.val (.int .i64 (x:Int)))] [P] (PSt A B rw P l k dp e) fun t s=>t=.tup [] /\ s=PSt A B rw P l k dp e:=by
 refine acB func90 rfl ?_
 show AWp prog _ ⟨13,[P],⟨A++⟨P,97,[.sl l.length (l.flatMap aW),nC k,nC dp,nC e]⟩::B,rw⟩,[(0,pP P),(1,.c (.val (.int .i64 (x:Int))))]⟩ _
 refine go 6 ?_
 refine wcp false rfl (lA he0) ?_
 refine go 4 ?_
 exact ⟨.inl rfl,_,(PSt A B rw P l (k) (dp) (e)),cH rfl,aA (.refl _) (.refl _),rfl,rfl⟩
theorem lX(A B:List Box)(rw:List bA)(P:Nat)(l:List Tok)(k dp e:Nat)(x:Nat):aL prog 90 [pP P,.c (.val (.int .i64 (x:Int)))] [P] (PSt A B rw P l k dp e) fun t s=>∃e1,aBr e x e1 /\ t=.tup [] /\ s=PSt A B rw P l k dp e1:=by
 by_cases he:e=0
 ·subst he
  exact (aN7 A B rw P l k dp x).mono fun t s h=>⟨x,⟨fun _=>rfl,fun h=>absurd rfl h⟩,h⟩
 exact (aN4 A B rw P l k dp x e he).mono fun t s h=>⟨e,⟨fun h=>absurd h he,fun _=>rfl⟩,h⟩
theorem aEa(A B:List Box)(rw:List bA)(P:Nat)(l:List Tok)(k dp kk e:Nat)(sg:ByteArray)(hk:k<l.length)(he0:e≠0):aL prog 88 [pP P,.c (.val (.int .i64 (kk:Int))),.c (.val (.string sg))] [P] (PSt A B rw P l k dp e) fun t s=>t=.c (.val (.bool false)) /\ s=PSt A B rw P l k dp e:=by
 refine acB func88 rfl ?_
 show AWp prog _ ⟨42,[P],⟨A++⟨P,97,[.sl l.length (l.flatMap aW),nC k,nC dp,nC e]⟩::B,rw⟩,[(0,pP P),(1,.c (.val (.int .i64 (kk:Int)))),(2,.c (.val (.string sg)))]⟩ _
 refine go 6 ?_
 refine aB [P] (by kernel_rfl) ?_
 refine tks [(0,true),(1,true),(2,true),(3,true)] 32 (by kernel_rfl) ?_
 refine go 5 ?_
 refine tr 4 (by kernel_rfl) rfl (bO false rfl rfl rfl (lA he0)) ?_
 refine tks [(5,true),(6,true),(7,true),(8,true),(9,true),(10,true),(11,true),(12,true),(13,true),(14,true),(15,true),(16,true),(17,true),(18,true),(19,true),(20,true),(21,true),(22,true),(23,true),(24,true),(25,true),(26,true),(27,true),(28,true),(29,true),(30,true),(31,true),(32,true),(33,true),(34,true),(35,true)] 0 (by kernel_rfl) ?_
 refine go 32 ?_
 refine aE (by kernel_rfl) ?_
 refine go 2 ?_
 exact bHe (s':=(PSt A B rw P l (k) (dp) (e))) rfl sb0 ⟨rfl,rfl⟩
theorem aEn(A B:List Box)(rw:List bA)(P:Nat)(l:List Tok)(k dp kk:Nat)(sg:ByteArray)(hk:k<l.length)(h4:¬l[k].kind=kk):aL prog 88 [pP P,.c (.val (.int .i64 (kk:Int))),.c (.val (.string sg))] [P] (PSt A B rw P l k dp 0) fun t s=>t=.c (.val (.bool false)) /\ s=PSt A B rw P l k dp 0:=by
 refine acB func88 rfl ?_
 show AWp prog _ ⟨42,[P],⟨A++⟨P,97,[.sl l.length (l.flatMap aW),nC k,nC dp,nC 0]⟩::B,rw⟩,[(0,pP P),(1,.c (.val (.int .i64 (kk:Int)))),(2,.c (.val (.string sg)))]⟩ _
 refine go 6 ?_
 refine aB [P] (by kernel_rfl) ?_
 refine tks [(0,true),(1,true),(2,true),(3,true)] 32 (by kernel_rfl) ?_
 refine go 5 ?_
 refine tr 4 (by kernel_rfl) rfl (bO true rfl rfl rfl (by rfl)) ?_
 refine tks [(5,true),(6,true),(7,true),(8,true),(9,true),(10,true),(11,true),(12,true),(13,true)] 22 (by kernel_rfl) ?_
 refine go 10 ?_
 refine tr 14 (by kernel_rfl) rfl (bH aW aW l bJ (fun _=>rfl) (k) rfl rfl rfl rfl hk (by decide) runUnderlying51 sizeOf99) ?_
 refine tks [(15,true),(16,true),(17,true)] 18 (by kernel_rfl) ?_
 refine go 4 ?_
 refine tr 18 (by kernel_rfl) rfl (bO false rfl rfl rfl (by rw [show bC .eql ((l[k].kind:Nat):Int) ((kk:Nat):Int)=some (decide (l[k].kind=kk)) from jS,decide_eq_false h4])) ?_
 refine tks [(19,true),(20,true),(21,true),(22,true),(23,true),(24,true),(25,true),(26,true),(27,true),(28,true),(29,true),(30,true),(31,true),(32,true),(33,true),(34,true),(35,true)] 0 (by kernel_rfl) ?_
 refine go 18 ?_
 refine aE (by kernel_rfl) ?_
 refine go 2 ?_
 exact bHe (s':=(PSt A B rw P l (k) (dp) (0))) rfl sb0 ⟨rfl,rfl⟩
theorem aEr(A B:List Box)(rw:List bA)(P:Nat)(l:List Tok)(k dp kk:Nat)(sg:ByteArray)(hk:k<l.length)(h4:l[k].kind=kk)(ht:l[k].text=sg):aL prog 88 [pP P,.c (.val (.int .i64 (kk:Int))),.c (.val (.string sg))] [P] (PSt A B rw P l k dp 0) fun t s=>t=.c (.val (.bool true)) /\ s=PSt A B rw P l k dp 0:=by
 refine acB func88 rfl ?_
 show AWp prog _ ⟨42,[P],⟨A++⟨P,97,[.sl l.length (l.flatMap aW),nC k,nC dp,nC 0]⟩::B,rw⟩,[(0,pP P),(1,.c (.val (.int .i64 (kk:Int)))),(2,.c (.val (.string sg)))]⟩ _
 refine go 6 ?_
 refine aB [P] (by kernel_rfl) ?_
 refine tks [(0,true),(1,true),(2,true),(3,true)] 32 (by kernel_rfl) ?_
 refine go 5 ?_
 refine tr 4 (by kernel_rfl) rfl (bO true rfl rfl rfl (by rfl)) ?_
 refine tks [(5,true),(6,true),(7,true),(8,true),(9,true),(10,true),(11,true),(12,true),(13,true)] 22 (by kernel_rfl) ?_
 refine go 10 ?_
 refine tr 14 (by kernel_rfl) rfl (bH aW aW l bJ (fun _=>rfl) (k) rfl rfl rfl rfl hk (by decide) runUnderlying51 sizeOf99) ?_
 refine tks [(15,true),(16,true),(17,true)] 18 (by kernel_rfl) ?_
 refine go 4 ?_
 refine tr 18 (by kernel_rfl) rfl (bO true rfl rfl rfl (by rw [h4];simp [bC])) ?_
 refine tks [(19,true),(20,true),(21,true),(22,true),(23,true),(24,true),(25,true),(26,true),(27,true),(28,true)] 7 (by kernel_rfl) ?_
 refine go 11 ?_
 refine tr 29 (by kernel_rfl) rfl (bH aW aW l bJ (fun _=>rfl) (k) rfl rfl rfl rfl hk (by decide) runUnderlying51 sizeOf99) ?_
 refine tks [(30,true),(31,true),(32,true)] 3 (by kernel_rfl) ?_
 refine go 4 ?_
 refine tr 33 (by kernel_rfl) rfl (aZ true rfl rfl rfl (by rw [ht];simp [oM])) ?_
 refine tks [(34,true),(35,true)] 0 (by kernel_rfl) ?_
 refine go 3 ?_
 refine aE (by kernel_rfl) ?_
 refine go 2 ?_
 exact bHe (s':=(PSt A B rw P l (k) (dp) (0))) rfl sb0 ⟨rfl,rfl⟩
theorem aDz(A B:List Box)(rw:List bA)(P:Nat)(l:List Tok)(k dp kk:Nat)(sg:ByteArray)(hk:k<l.length)(h4:l[k].kind=kk)(ht:¬l[k].text=sg):aL prog 88 [pP P,.c (.val (.int .i64 (kk:Int))),.c (.val (.string sg))] [P] (PSt A B rw P l k dp 0) fun t s=>t=.c (.val (.bool false)) /\ s=PSt A B rw P l k dp 0:=by
 refine acB func88 rfl ?_
 show AWp prog _ ⟨42,[P],⟨A++⟨P,97,[.sl l.length (l.flatMap aW),nC k,nC dp,nC 0]⟩::B,rw⟩,[(0,pP P),(1,.c (.val (.int .i64 (kk:Int)))),(2,.c (.val (.string sg)))]⟩ _
 refine go 6 ?_
 refine aB [P] (by kernel_rfl) ?_
 refine tks [(0,true),(1,true),(2,true),(3,true)] 32 (by kernel_rfl) ?_
 refine go 5 ?_
 refine tr 4 (by kernel_rfl) rfl (bO true rfl rfl rfl (by rfl)) ?_
 refine tks [(5,true),(6,true),(7,true),(8,true),(9,true),(10,true),(11,true),(12,true),(13,true)] 22 (by kernel_rfl) ?_
 refine go 10 ?_
 refine tr 14 (by kernel_rfl) rfl (bH aW aW l bJ (fun _=>rfl) (k) rfl rfl rfl rfl hk (by decide) runUnderlying51 sizeOf99) ?_
 refine tks [(15,true),(16,true),(17,true)] 18 (by kernel_rfl) ?_
 refine go 4 ?_
 refine tr 18 (by kernel_rfl) rfl (bO true rfl rfl rfl (by rw [h4];simp [bC])) ?_
 refine tks [(19,true),(20,true),(21,true),(22,true),(23,true),(24,true),(25,true),(26,true),(27,true),(28,true)] 7 (by kernel_rfl) ?_
 refine go 11 ?_
 refine tr 29 (by kernel_rfl) rfl (bH aW aW l bJ (fun _=>rfl) (k) rfl rfl rfl rfl hk (by decide) runUnderlying51 sizeOf99) ?_
 refine tks [(30,true),(31,true),(32,true)] 3 (by kernel_rfl) ?_
 refine go 4 ?_
 refine tr 33 (by kernel_rfl) rfl (aZ false rfl rfl rfl (by simp [oM,ht])) ?_
 refine tks [(34,true),(35,true)] 0 (by kernel_rfl) ?_
 refine go 3 ?_
 refine aE (by kernel_rfl) ?_
 refine go 2 ?_
 exact bHe (s':=(PSt A B rw P l (k) (dp) (0))) rfl sb0 ⟨rfl,rfl⟩
theorem aCz(A B:List Box)(rw:List bA)(P:Nat)(l:List Tok)(k dp e:Nat)(sg:List UInt8)(hk:k<l.length):aL prog 88 [pP P,.c (.val (.int .i64 4)),.c (.val (.string (bytes sg)))] [P] (PSt A B rw P l k dp e) fun t s=>(e=0 /\ cS l k sg=true /\ t=.c (.val (.bool true)) /\ s=PSt A B rw P l k dp e)∨((e=0 -> cS l k sg=false) /\ t=.c (.val (.bool false)) /\ s=PSt A B rw P l k dp e):=by
 unfold cS
 rw [bG hk]
 by_cases he:e=0
 ·subst he
  by_cases h4:l[k].kind=4
  ·by_cases ht:l[k].text=bytes sg
   ·exact (aEr A B rw P l k dp 4 _ hk h4 ht).mono fun t s h=>.inl ⟨rfl,by simp [h4,ht],h⟩
   exact (aDz A B rw P l k dp 4 _ hk h4 ht).mono fun t s h=>.inr ⟨fun _=>by simp [ht],h⟩
  exact (aEn A B rw P l k dp 4 _ hk h4).mono fun t s h=>.inr ⟨fun _=>by simp [h4],h⟩
 exact (aEa A B rw P l k dp 4 e _ hk he).mono fun t s h=>.inr ⟨fun h0=>absurd h0 he,h⟩
theorem uG(A B:List Box)(rw:List bA)(P:Nat)(l:List Tok)(k dp e:Nat)(sg:List UInt8)(hk:k<l.length):aL prog 88 [pP P,.c (.val (.int .i64 3)),.c (.val (.string (bytes sg)))] [P] (PSt A B rw P l k dp e) fun t s=>(e=0 /\ dN l k sg=true /\ t=.c (.val (.bool true)) /\ s=PSt A B rw P l k dp e)∨((e=0 -> dN l k sg=false) /\ t=.c (.val (.bool false)) /\ s=PSt A B rw P l k dp e):=by
 unfold dN
 rw [bG hk]
 by_cases he:e=0
 ·subst he
  by_cases h4:l[k].kind=3
  ·by_cases ht:l[k].text=bytes sg
   ·exact (aEr A B rw P l k dp 3 _ hk h4 ht).mono fun t s h=>.inl ⟨rfl,by simp [h4,ht],h⟩
   exact (aDz A B rw P l k dp 3 _ hk h4 ht).mono fun t s h=>.inr ⟨fun _=>by simp [ht],h⟩
  exact (aEn A B rw P l k dp 3 _ hk h4).mono fun t s h=>.inr ⟨fun _=>by simp [h4],h⟩
 exact (aEa A B rw P l k dp 3 e _ hk he).mono fun t s h=>.inr ⟨fun h0=>absurd h0 he,h⟩
theorem kE(A B:List Box)(rw:List bA)(P:Nat)(l:List Tok)(k dp e:Nat)(sg:List UInt8)(hok:TOk l)(hk:k<l.length):aL prog 130 [pP P,.c (.val (.string (bytes sg)))] [P] (PSt A B rw P l k dp e) fun t s=>(e=0 /\ cS l k sg=true /\ k+1<l.length /\ t=.c (.val (.bool true)) /\ s=PSt A B rw P l (k+1) dp 0)∨((e=0 -> cS l k sg=false) /\ t=.c (.val (.bool false)) /\ s=PSt A B rw P l k dp e):=by
 have hlen:=hok.len
 refine acB func130 rfl ?_
 show AWp prog _ ⟨16,[P],⟨A++⟨P,97,[.sl l.length (l.flatMap aW),nC k,nC dp,nC e]⟩::B,rw⟩,[(0,pP P),(1,.c (.val (.string (bytes sg))))]⟩ _
 refine go 10 ?_
 refine wcQ rfl call88 rfl (aCz (A) _ _ _ l k dp e sg hk) ?_
 rintro t1 s1 (⟨rfl,ha1,rfl,rfl⟩|⟨ha1,rfl,rfl⟩)
 ·refine go 8 ?_
  have hm:=eF hok.last hk ha1
  refine go 4 ?_
  refine wad rfl ?_
  refine go 11 ?_
  exact bHe (s':=(PSt A B rw P l (k+1) (dp) (0))) rfl sb0 (.inl ⟨rfl,ha1,hm,rfl,rfl⟩)
 refine go 11 ?_
 exact bHe (s':=(PSt A B rw P l (k) (dp) (e))) rfl sb0 (.inr ⟨ha1,rfl,rfl⟩)
theorem tG(A B:List Box)(rw:List bA)(P:Nat)(l:List Tok)(k dp e:Nat)(sg:List UInt8)(hok:TOk l)(hk:k<l.length):aL prog 135 [pP P,.c (.val (.string (bytes sg)))] [P] (PSt A B rw P l k dp e) fun t s=>(e=0 /\ dN l k sg=true /\ k+1<l.length /\ t=.c (.val (.bool true)) /\ s=PSt A B rw P l (k+1) dp 0)∨((e=0 -> dN l k sg=false) /\ t=.c (.val (.bool false)) /\ s=PSt A B rw P l k dp e):=by
 have hlen:=hok.len
 refine acB func135 rfl ?_
 show AWp prog _ ⟨16,[P],⟨A++⟨P,97,[.sl l.length (l.flatMap aW),nC k,nC dp,nC e]⟩::B,rw⟩,[(0,pP P),(1,.c (.val (.string (bytes sg))))]⟩ _
 refine go 10 ?_
 refine wcQ rfl call88 rfl (uG (A) _ _ _ l k dp e sg hk) ?_
 rintro t1 s1 (⟨rfl,ha1,rfl,rfl⟩|⟨ha1,rfl,rfl⟩)
 ·refine go 8 ?_
  have hm:=bHd hok hk ha1
  refine go 4 ?_
  refine wad rfl ?_
  refine go 11 ?_
  exact bHe (s':=(PSt A B rw P l (k+1) (dp) (0))) rfl sb0 (.inl ⟨rfl,ha1,hm,rfl,rfl⟩)
 refine go 11 ?_
 exact bHe (s':=(PSt A B rw P l (k) (dp) (e))) rfl sb0 (.inr ⟨ha1,rfl,rfl⟩)
theorem eI(A B:List Box)(rw:List bA)(P:Nat)(l:List Tok)(k dp e:Nat)(sg:List UInt8)(hok:TOk l)(hk:k<l.length)(he:e<16):aL prog 132 [pP P,.c (.val (.string (bytes sg)))] [P] (PSt A B rw P l k dp e) (PAn A B rw P l dp (fun _=>.tup []) e k (fD l sg k)):=by
 have hlen:=hok.len
 refine acB func132 rfl ?_
 show AWp prog _ ⟨10,[P],⟨A++⟨P,97,[.sl l.length (l.flatMap aW),nC k,nC dp,nC e]⟩::B,rw⟩,[(0,pP P),(1,.c (.val (.string (bytes sg))))]⟩ _
 refine go 4 ?_
 refine wcQ rfl call130 rfl (kE (A) _ _ _ l k dp e sg hok hk) ?_
 rintro t1 s1 (⟨rfl,ha1,hm1,rfl,rfl⟩|⟨ha1,rfl,rfl⟩)
 ·refine go 5 ?_
  exact ⟨.inl rfl,_,(PSt A B rw P l (k+1) (dp) (0)),cH rfl,aA (.refl _) (.refl _),⟨(),k+1,0,rfl,.ok _ _ _ (by unfold fD;rw [if_pos ha1]),hm1,by decide,rfl⟩⟩
 refine go 6 ?_
 refine wcQ rfl call90 rfl (lX (A) _ _ _ l k dp e 4) ?_
 rintro t4 s4 ⟨e4,hf4,rfl,rfl⟩
 refine go 1 ?_
 exact ⟨.inl rfl,_,(PSt A B rw P l (k) (dp) (e4)),cH rfl,aA (.refl _) (.refl _),⟨(),k,e4,rfl,hf4.run (by decide) (fun h=>by unfold fD;rw [if_neg (by rw [ha1 h];decide)]) _,hk,(hf4.small he (by decide)),rfl⟩⟩
theorem aO4(A B:List Box)(rw:List bA)(P:Nat)(l:List Tok)(k dp e:Nat)(hok:TOk l)(hk:k<l.length)(he:e<16)(he0:e≠0):aL prog 129 [pP P] [P] (PSt A B rw P l k dp e) (PAn A B rw P l dp (fun x=>.c (.val (.string x))) e k (jW l k)):=by
 have hlen:=hok.len
 refine acB func129 rfl ?_
 show AWp prog _ ⟨43,[P],⟨A++⟨P,97,[.sl l.length (l.flatMap aW),nC k,nC dp,nC e]⟩::B,rw⟩,[(0,pP P)]⟩ _
 refine go 7 ?_
 refine aB [P] (by kernel_rfl) ?_
 refine tks [(0,true),(1,true),(2,true),(3,true)] 15 (by kernel_rfl) ?_
 refine go 5 ?_
 refine tr 4 (by kernel_rfl) rfl (bO true rfl rfl rfl (by simp [bC,he0])) ?_
 refine tks [(5,true),(6,true),(7,true),(8,true),(9,true),(10,true),(11,true),(12,true),(13,true),(14,true),(15,true),(16,true),(17,true),(18,true)] 0 (by kernel_rfl) ?_
 refine go 15 ?_
 refine aE (by kernel_rfl) ?_
 refine go 5 ?_
 refine wcQ rfl call90 rfl (lX (A) _ _ _ l k dp e 4) ?_
 rintro t2 s2 ⟨e2,hf2,rfl,rfl⟩
 refine go 9 ?_
 exact ⟨.inr rfl,_,(PSt A B rw P l (k) (dp) (e2)),(aR rfl (aF rfl)),aA (.refl _) (.refl _),⟨aK,k,e2,rfl,hf2.run (by decide) (fun h=>absurd h he0) _,hk,(hf2.small he (by decide)),rfl⟩⟩
theorem aOt(A B:List Box)(rw:List bA)(P:Nat)(l:List Tok)(k dp:Nat)(hok:TOk l)(hk:k<l.length)(h4:¬l[k].kind=1):aL prog 129 [pP P] [P] (PSt A B rw P l k dp 0) (PAn A B rw P l dp (fun x=>.c (.val (.string x))) 0 k (jW l k)):=by
 have hlen:=hok.len
 refine acB func129 rfl ?_
 show AWp prog _ ⟨43,[P],⟨A++⟨P,97,[.sl l.length (l.flatMap aW),nC k,nC dp,nC 0]⟩::B,rw⟩,[(0,pP P)]⟩ _
 refine go 7 ?_
 refine aB [P] (by kernel_rfl) ?_
 refine tks [(0,true),(1,true),(2,true),(3,true)] 15 (by kernel_rfl) ?_
 refine go 5 ?_
 refine tr 4 (by kernel_rfl) rfl (bO false rfl rfl rfl (by rfl)) ?_
 refine tks [(5,true),(6,true),(7,true),(8,true),(9,true),(10,true),(11,true),(12,true),(13,true)] 5 (by kernel_rfl) ?_
 refine go 10 ?_
 refine tr 14 (by kernel_rfl) rfl (bH aW aW l bJ (fun _=>rfl) (k) rfl rfl rfl rfl hk (by decide) runUnderlying51 sizeOf99) ?_
 refine tks [(15,true),(16,true)] 2 (by kernel_rfl) ?_
 refine go 3 ?_
 refine tr 17 (by kernel_rfl) rfl (bO true rfl rfl rfl (by simp [bC];omega)) ?_
 refine tks [(18,true)] 0 (by kernel_rfl) ?_
 refine go 2 ?_
 refine aE (by kernel_rfl) ?_
 refine go 5 ?_
 refine wcQ rfl call90 rfl (lX (A) _ _ _ l k dp 0 4) ?_
 rintro t2 s2 ⟨e2,hf2,rfl,rfl⟩
 obtain rfl:=hf2.1 rfl
 refine go 9 ?_
 exact ⟨.inr rfl,_,(PSt A B rw P l (k) (dp) (4)),(aR rfl (aF rfl)),aA (.refl _) (.refl _),⟨aK,k,4,rfl,.err _ _ _ _ (by unfold jW;rw [bG hk,if_neg h4]) (by decide),hk,(by decide),rfl⟩⟩
theorem aOl(A B:List Box)(rw:List bA)(P:Nat)(l:List Tok)(k dp:Nat)(hok:TOk l)(hk:k<l.length)(h4:l[k].kind=1):aL prog 129 [pP P] [P] (PSt A B rw P l k dp 0) (PAn A B rw P l dp (fun x=>.c (.val (.string x))) 0 k (jW l k)):=by
 have hlen:=hok.len
 refine acB func129 rfl ?_
 show AWp prog _ ⟨43,[P],⟨A++⟨P,97,[.sl l.length (l.flatMap aW),nC k,nC dp,nC 0]⟩::B,rw⟩,[(0,pP P)]⟩ _
 refine go 7 ?_
 refine aB [P] (by kernel_rfl) ?_
 refine tks [(0,true),(1,true),(2,true),(3,true)] 15 (by kernel_rfl) ?_
 refine go 5 ?_
 refine tr 4 (by kernel_rfl) rfl (bO false rfl rfl rfl (by rfl)) ?_
 refine tks [(5,true),(6,true),(7,true),(8,true),(9,true),(10,true),(11,true),(12,true),(13,true)] 5 (by kernel_rfl) ?_
 refine go 10 ?_
 refine tr 14 (by kernel_rfl) rfl (bH aW aW l bJ (fun _=>rfl) (k) rfl rfl rfl rfl hk (by decide) runUnderlying51 sizeOf99) ?_
 refine tks [(15,true),(16,true)] 2 (by kernel_rfl) ?_
 refine go 3 ?_
 refine tr 17 (by kernel_rfl) rfl (bO false rfl rfl rfl (by rw [h4];rfl)) ?_
 refine tks [(18,true)] 0 (by kernel_rfl) ?_
 refine go 2 ?_
 refine aE (by kernel_rfl) ?_
 refine go 6 ?_
 have hm:=hok.last.more hk (by rw [bG hk,h4];decide)
 refine go 4 ?_
 refine wad rfl ?_
 refine go 6 ?_
 refine aB [P] (by kernel_rfl) ?_
 refine tks [(0,true),(1,true),(2,true),(3,true),(4,true),(5,true),(6,true),(7,true)] 5 (by kernel_rfl) ?_
 refine go 9 ?_
 refine tr 8 (by kernel_rfl) rfl (qC rfl rfl rfl (by omega) (by omega)) ?_
 refine tr 9 (by kernel_rfl) rfl (bH aW aW l bJ (fun _=>rfl) k rfl rfl rfl (by omega) hk (by decide) runUnderlying51 sizeOf99) ?_
 refine tks [(10,true),(11,true),(12,true)] 0 (by kernel_rfl) ?_
 refine go 4 ?_
 refine aE (by kernel_rfl) ?_
 refine go 2 ?_
 exact ⟨.inr rfl,_,(PSt A B rw P l (k+1) (dp) (0)),(aR rfl (aF rfl)),aA (.refl _) (.refl _),⟨l[k].text,k+1,0,rfl,.ok _ _ _ (by unfold jW;rw [bG hk,if_pos h4]),hm,by decide,rfl⟩⟩
theorem jD(A B:List Box)(rw:List bA)(P:Nat)(l:List Tok)(k dp e:Nat)(hok:TOk l)(hk:k<l.length)(he:e<16):aL prog 129 [pP P] [P] (PSt A B rw P l k dp e) (PAn A B rw P l dp (fun x=>.c (.val (.string x))) e k (jW l k)):=by
 by_cases h0:e=0
 ·subst h0
  by_cases h4:l[k].kind=1
  ·exact aOl A B rw P l k dp hok hk h4
  exact aOt A B rw P l k dp hok hk h4
 exact aO4 A B rw P l k dp e hok hk he h0
theorem aQy(A B:List Box)(rw:List bA)(P:Nat)(l:List Tok)(k dp e:Nat)(hok:TOk l)(hk:k<l.length)(he:e<16)(he0:e≠0):aL prog 131 [pP P] [P] (PSt A B rw P l k dp e) (PAn A B rw P l dp (fun x=>nI x) e k (qE l k)):=by
 have hlen:=hok.len
 refine acB func131 rfl ?_
 show AWp prog _ ⟨43,[P],⟨A++⟨P,97,[.sl l.length (l.flatMap aW),nC k,nC dp,nC e]⟩::B,rw⟩,[(0,pP P)]⟩ _
 refine go 7 ?_
 refine aB [P] (by kernel_rfl) ?_
 refine tks [(0,true),(1,true),(2,true),(3,true)] 15 (by kernel_rfl) ?_
 refine go 5 ?_
 refine tr 4 (by kernel_rfl) rfl (bO true rfl rfl rfl (by simp [bC,he0])) ?_
 refine tks [(5,true),(6,true),(7,true),(8,true),(9,true),(10,true),(11,true),(12,true),(13,true),(14,true),(15,true),(16,true),(17,true),(18,true)] 0 (by kernel_rfl) ?_
 refine go 15 ?_
 refine aE (by kernel_rfl) ?_
 refine go 5 ?_
 refine wcQ rfl call90 rfl (lX (A) _ _ _ l k dp e 4) ?_
 rintro t2 s2 ⟨e2,hf2,rfl,rfl⟩
 refine go 9 ?_
 exact ⟨.inr rfl,_,(PSt A B rw P l (k) (dp) (e2)),(aR rfl (aF rfl)),aA (.refl _) (.refl _),⟨0,k,e2,rfl,hf2.run (by decide) (fun h=>absurd h he0) _,hk,(hf2.small he (by decide)),rfl⟩⟩
theorem aP1(A B:List Box)(rw:List bA)(P:Nat)(l:List Tok)(k dp:Nat)(hok:TOk l)(hk:k<l.length)(h4:¬l[k].kind=2):aL prog 131 [pP P] [P] (PSt A B rw P l k dp 0) (PAn A B rw P l dp (fun x=>nI x) 0 k (qE l k)):=by
 have hlen:=hok.len
 refine acB func131 rfl ?_
 show AWp prog _ ⟨43,[P],⟨A++⟨P,97,[.sl l.length (l.flatMap aW),nC k,nC dp,nC 0]⟩::B,rw⟩,[(0,pP P)]⟩ _
 refine go 7 ?_
 refine aB [P] (by kernel_rfl) ?_
 refine tks [(0,true),(1,true),(2,true),(3,true)] 15 (by kernel_rfl) ?_
 refine go 5 ?_
 refine tr 4 (by kernel_rfl) rfl (bO false rfl rfl rfl (by rfl)) ?_
 refine tks [(5,true),(6,true),(7,true),(8,true),(9,true),(10,true),(11,true),(12,true),(13,true)] 5 (by kernel_rfl) ?_
 refine go 10 ?_
 refine tr 14 (by kernel_rfl) rfl (bH aW aW l bJ (fun _=>rfl) (k) rfl rfl rfl rfl hk (by decide) runUnderlying51 sizeOf99) ?_
 refine tks [(15,true),(16,true)] 2 (by kernel_rfl) ?_
 refine go 3 ?_
 refine tr 17 (by kernel_rfl) rfl (bO true rfl rfl rfl (by simp [bC];omega)) ?_
 refine tks [(18,true)] 0 (by kernel_rfl) ?_
 refine go 2 ?_
 refine aE (by kernel_rfl) ?_
 refine go 5 ?_
 refine wcQ rfl call90 rfl (lX (A) _ _ _ l k dp 0 4) ?_
 rintro t2 s2 ⟨e2,hf2,rfl,rfl⟩
 obtain rfl:=hf2.1 rfl
 refine go 9 ?_
 exact ⟨.inr rfl,_,(PSt A B rw P l (k) (dp) (4)),(aR rfl (aF rfl)),aA (.refl _) (.refl _),⟨0,k,4,rfl,.err _ _ _ _ (by unfold qE;rw [bG hk,if_neg h4]) (by decide),hk,(by decide),rfl⟩⟩
theorem aQh(A B:List Box)(rw:List bA)(P:Nat)(l:List Tok)(k dp:Nat)(hok:TOk l)(hk:k<l.length)(h4:l[k].kind=2):aL prog 131 [pP P] [P] (PSt A B rw P l k dp 0) (PAn A B rw P l dp (fun x=>nI x) 0 k (qE l k)):=by
 have hlen:=hok.len
 refine acB func131 rfl ?_
 show AWp prog _ ⟨43,[P],⟨A++⟨P,97,[.sl l.length (l.flatMap aW),nC k,nC dp,nC 0]⟩::B,rw⟩,[(0,pP P)]⟩ _
 refine go 7 ?_
 refine aB [P] (by kernel_rfl) ?_
 refine tks [(0,true),(1,true),(2,true),(3,true)] 15 (by kernel_rfl) ?_
 refine go 5 ?_
 refine tr 4 (by kernel_rfl) rfl (bO false rfl rfl rfl (by rfl)) ?_
 refine tks [(5,true),(6,true),(7,true),(8,true),(9,true),(10,true),(11,true),(12,true),(13,true)] 5 (by kernel_rfl) ?_
 refine go 10 ?_
 refine tr 14 (by kernel_rfl) rfl (bH aW aW l bJ (fun _=>rfl) (k) rfl rfl rfl rfl hk (by decide) runUnderlying51 sizeOf99) ?_
 refine tks [(15,true),(16,true)] 2 (by kernel_rfl) ?_
 refine go 3 ?_
 refine tr 17 (by kernel_rfl) rfl (bO false rfl rfl rfl (by rw [h4];rfl)) ?_
 refine tks [(18,true)] 0 (by kernel_rfl) ?_
 refine go 2 ?_
 refine aE (by kernel_rfl) ?_
 refine go 6 ?_
 have hm:=hok.last.more hk (by rw [bG hk,h4];decide)
 refine go 4 ?_
 refine wad rfl ?_
 refine go 6 ?_
 refine aB [P] (by kernel_rfl) ?_
 refine tks [(0,true),(1,true),(2,true),(3,true),(4,true),(5,true),(6,true),(7,true)] 5 (by kernel_rfl) ?_
 refine go 9 ?_
 refine tr 8 (by kernel_rfl) rfl (qC rfl rfl rfl (by omega) (by omega)) ?_
 refine tr 9 (by kernel_rfl) rfl (bH aW aW l bJ (fun _=>rfl) k rfl rfl rfl (by omega) hk (by decide) runUnderlying51 sizeOf99) ?_
 refine tks [(10,true),(11,true),(12,true)] 0 (by kernel_rfl) ?_
 refine go 4 ?_
 refine aE (by kernel_rfl) ?_
 refine go 2 ?_
 exact ⟨.inr rfl,_,(PSt A B rw P l (k+1) (dp) (0)),(aR rfl (aF rfl)),aA (.refl _) (.refl _),⟨l[k].num,k+1,0,rfl,.ok _ _ _ (by unfold qE;rw [bG hk,if_pos h4]),hm,by decide,rfl⟩⟩
theorem aGv(A B:List Box)(rw:List bA)(P:Nat)(l:List Tok)(k dp e:Nat)(hok:TOk l)(hk:k<l.length)(he:e<16):aL prog 131 [pP P] [P] (PSt A B rw P l k dp e) (PAn A B rw P l dp (fun x=>nI x) e k (qE l k)):=by
 by_cases h0:e=0
 ·subst h0
  by_cases h4:l[k].kind=2
  ·exact aQh A B rw P l k dp hok hk h4
  exact aP1 A B rw P l k dp hok hk h4
 exact aQy A B rw P l k dp e hok hk he h0
theorem aPi(A B:List Box)(rw:List bA)(P:Nat)(l:List Tok)(k dp:Nat)(hok:TOk l)(hk:k<l.length):aL prog 219 [pP P] [P] (PSt A B rw P l k dp 0) (PAn A B rw P l dp (fun x=>.agg (cU x)) 0 k (lJ l k)):=by
 have hlen:=hok.len
 refine acB func219 rfl ?_
 show AWp prog _ ⟨34,[P],⟨A++⟨P,97,[.sl l.length (l.flatMap aW),nC k,nC dp,nC 0]⟩::B,rw⟩,[(0,pP P)]⟩ _
 refine go 12 fun b1=>?_
 refine wcp false rfl (by rfl) ?_
 refine go 6 ?_
 refine aB [b1,P] (by kernel_rfl) ?_
 refine tks [(0,true),(1,true),(2,true),(3,true),(4,true),(5,true),(6,true),(7,true)] 9 (by kernel_rfl) ?_
 refine go 9 ?_
 refine two 8 13 (by kernel_rfl) rfl rfl rfl rfl ?_ ?_
 ·refine (bD [] rfl rfl (by decide) call236 rfl (aFi l k hok hk _) bDl bDl (fun _=>bDl) ?_)
  rintro t2 s2 ⟨x2,k2,e2,rfl,hr2,hk2,he2,rfl⟩
  refine tks [(9,true),(10,true),(11,true),(12,true),(13,false),(14,false),(15,true),(16,true)] 0 (by kernel_rfl) ?_
  refine go 9 fun b2=>?_
  refine aE (by kernel_rfl) ?_
  refine go 22 ?_
  exact ⟨.inr rfl,_,(PSt A B rw P l (k2) (dp) (e2)),(aR rfl (aO [_] rfl rfl isAgg89 sizeOf89 (bK rfl rfl))),aA (.cons _ (.cons _ (.refl _))) (.refl _),⟨x2,k2,e2,rfl,hr2,hk2,he2,rfl⟩⟩
 refine (jK rfl rfl (by decide) zeroValue89 rfl fun b3=>?_)
 refine one 8 (by kernel_rfl) rfl rfl (bD [] rfl rfl (by decide) call236 rfl (aFi l k hok hk _) bDl bDl (fun _=>bDl) ?_)
 rintro t3 s3 ⟨x3,k3,e3,rfl,hr3,hk3,he3,rfl⟩
 refine tks [(9,true),(10,true),(11,true),(12,true),(14,false),(15,true),(16,true)] 0 (by kernel_rfl) ?_
 refine go 8 ?_
 refine aE (by kernel_rfl) ?_
 refine go 22 ?_
 exact ⟨.inr rfl,_,(PSt A B rw P l (k3) (dp) (e3)),(aR rfl (aO [_] rfl rfl isAgg89 sizeOf89 (bK rfl rfl))),aA (.cons _ (.cons _ (.refl _))) (.refl _),⟨x3,k3,e3,rfl,hr3,hk3,he3,rfl⟩⟩
theorem aOp(A B:List Box)(rw:List bA)(P:Nat)(l:List Tok)(k dp e:Nat)(hok:TOk l)(hk:k<l.length)(he:e<16)(he0:e≠0):aL prog 219 [pP P] [P] (PSt A B rw P l k dp e) (PAn A B rw P l dp (fun x=>.agg (cU x)) e k (lJ l k)):=by
 have hlen:=hok.len
 refine acB func219 rfl ?_
 show AWp prog _ ⟨34,[P],⟨A++⟨P,97,[.sl l.length (l.flatMap aW),nC k,nC dp,nC e]⟩::B,rw⟩,[(0,pP P)]⟩ _
 refine go 12 fun b1=>?_
 refine wcp true rfl (by simp [bC,he0]) ?_
 refine go 11 ?_
 exact ⟨.inr rfl,_,(PSt A B rw P l (k) (dp) (e)),(eK (Wk.agg (.r (.r (.r (.n .nil))))) (aR rfl (aO [] rfl rfl isAgg89 sizeOf89 (bK rfl rfl)))),aA (.cons _ (.refl _)) (.refl _),⟨.zero,k,e,rfl,.skip he0 _ _,hk,he,rfl⟩⟩
theorem rZ(A B:List Box)(rw:List bA)(P:Nat)(l:List Tok)(k dp e:Nat)(hok:TOk l)(hk:k<l.length)(he:e<16):aL prog 219 [pP P] [P] (PSt A B rw P l k dp e) (PAn A B rw P l dp (fun x=>.agg (cU x)) e k (lJ l k)):=by
 by_cases h0:e=0
 ·subst h0;exact aPi A B rw P l k dp hok hk
 exact aOp A B rw P l k dp e hok hk he h0
theorem aNu(A B:List Box)(rw:List bA)(P:Nat)(l:List Tok)(k dp e:Nat)(hok:TOk l)(hk:k<l.length)(he:e<16):aL prog 235 [pP P] [P] (PSt A B rw P l k dp e) (PAn A B rw P l dp (fun x=>.agg (encR x)) e k (xV l k)):=by
 have hlen:=hok.len
 refine acB func235 rfl ?_
 show AWp prog _ ⟨16,[P],⟨A++⟨P,97,[.sl l.length (l.flatMap aW),nC k,nC dp,nC e]⟩::B,rw⟩,[(0,pP P)]⟩ _
 refine go 8 fun b1=>?_
 refine wcQ rfl call129 rfl (jD (_::A) _ _ _ l k dp e hok hk he) ?_
 rintro t1 s1 ⟨x1,k1,e1,rfl,hr1,hk1,he1,rfl⟩
 refine go 9 fun b2=>?_
 refine wcQ rfl call130 rfl (kE (_::_::A) _ _ _ l k1 dp e1 [91] hok hk1) ?_
 rintro t2 s2 (⟨rfl,ha2,hm2,rfl,rfl⟩|⟨ha2,rfl,rfl⟩)
 ·refine go 6 ?_
  refine wcQ rfl call219 rfl (rZ (_::_::A) _ _ _ l (k1+1) dp 0 hok hm2 (by decide)) ?_
  rintro t4 s4 ⟨x4,k4,e4,rfl,hr4,hk4,he4,rfl⟩
  refine wo rfl (bDk zb8 rfl (.cons rfl .nil) (aV fO cU x4 (fP _) rfl rfl) ?_)
  refine go 6 ?_
  refine wcQ rfl call132 rfl (eI (_::_::A) _ _ _ l k4 dp e4 [93] hok hk4 he4) ?_
  rintro t5 s5 ⟨x5,k5,e5,rfl,hr5,hk5,he5,rfl⟩
  refine go 9 ?_
  exact ⟨.inr rfl,_,(PSt A B rw P l (k5) (dp) (e5)),(aR rfl (aO [_] rfl rfl isAgg91 sizeOf91 (bK rfl rfl))),aA (.cons _ (.cons _ (.refl _))) (.refl _),⟨⟨x1,[x4]⟩,k5,e5,rfl,hr1.bind (f:=jT l) (Run.eq (Run.from (hr4.bind (f:=fun e k=>(fD l [93] k).bind fun _ k=>.ok ⟨x1,[e]⟩ k) (hr5.map (f:=fun _=>cY.mk x1 [x4])))) fun _=>by unfold jT;rw [if_pos ha2]),hk5,he5,rfl⟩⟩
 refine go 12 ?_
 exact ⟨.inr rfl,_,(PSt A B rw P l (k1) (dp) (e1)),(eK (Wk.agg (.r (.n .nil))) (aR rfl (aO [_] rfl rfl isAgg91 sizeOf91 (bK rfl rfl)))),aA (.cons _ (.cons _ (.refl _))) (.refl _),⟨⟨x1,[]⟩,k1,e1,rfl,hr1.bind (f:=jT l) ((Run.pure _ _ _).eq fun h=>by unfold jT;rw [if_neg (by rw [ha2 h];decide)]),hk1,he1,rfl⟩⟩
theorem aGn(A B:List Box)(rw:List bA)(P:Nat)(l:List Tok)(k dp e:Nat)(hok:TOk l)(hk:k<l.length)(he:e<16):aL prog 238 [pP P] [P] (PSt A B rw P l k dp e) (PAn A B rw P l dp (fun x=>.agg (eJ x)) e k (rC l k)):=by
 have hlen:=hok.len
 refine acB func238 rfl ?_
 show AWp prog _ ⟨11,[P],⟨A++⟨P,97,[.sl l.length (l.flatMap aW),nC k,nC dp,nC e]⟩::B,rw⟩,[(0,pP P)]⟩ _
 refine go 9 fun b1=>?_
 refine wcQ rfl call135 rfl (tG (_::A) _ _ _ l k dp e [109,117,116,101,120] hok hk) ?_
 rintro t1 s1 (⟨rfl,ha1,hm1,rfl,rfl⟩|⟨ha1,rfl,rfl⟩)
 ·refine go 6 ?_
  refine wcQ rfl call235 rfl (aNu (_::A) _ _ _ l (k+1) dp 0 hok hm1 (by decide)) ?_
  rintro t3 s3 ⟨x3,k3,e3,rfl,hr3,hk3,he3,rfl⟩
  refine go 6 ?_
  exact ⟨.inr rfl,_,(PSt A B rw P l (k3) (dp) (e3)),(eK (Wk.agg (.r (.r (.r (.r (.r (.r (.n .nil)))))))) (aR rfl (aO [] rfl rfl isAgg142 sizeOf142 (bK rfl rfl)))),aA (.cons _ (.refl _)) (.refl _),⟨⟨true,x3,.zero⟩,k3,e3,rfl,(Run.from (hr3.map (f:=fun r=>eN.mk true r .zero))).eq fun _=>by unfold rC;rw [if_pos ha1],hk3,he3,rfl⟩⟩
 refine go 8 ?_
 refine wcQ rfl call219 rfl (rZ (_::A) _ _ _ l k dp e hok hk he) ?_
 rintro t5 s5 ⟨x5,k5,e5,rfl,hr5,hk5,he5,rfl⟩
 refine go 5 ?_
 exact ⟨.inr rfl,_,(PSt A B rw P l (k5) (dp) (e5)),(eK (Wk.agg (.r (.r (.n (.r (.r (.r (.r .nil)))))))) (aR rfl (aO [] rfl rfl isAgg142 sizeOf142 (bK rfl rfl)))),aA (.cons _ (.refl _)) (.refl _),⟨⟨false,.zero,x5⟩,k5,e5,rfl,(hr5.map (f:=fun e=>eN.mk false .zero e)).eq fun h=>by unfold rC;rw [if_neg (by rw [ha1 h];decide)],hk5,he5,rfl⟩⟩
end
section
open Go.RowKit
theorem aE0{α:Type}(A':List α -> Value -> List Box)(B:List Box)(rw':List α -> Value -> List bA)(P:Nat)(l:List Tok)(k dp e:Nat)(Tv:List Nat)(F:FuncId)(fst cap:Array Value)(el:Nat -> Nat -> bN α)(hok:TOk l)(hk:k<l.length)(he:e<16)
  (hcf:∀args w,(callFunc F args).run prog w=.ok (.enter F args) w) (hin:∀n k,k<l.length -> (el n k).In l k) (hTb:∀acc v k e,∀b,b∈aY v++(Tv++[P]) -> b∈(PSt (A' acc v) B (rw' acc v) P l k dp e).bl) (hrB:∀acc v k e,∀b,b∈aY v -> b∈(PSt (A' acc v) B (rw' acc v) P l k dp e).bl)
  (hback:∀acc v k e acc' v' k' e',(PSt (A' acc' v') B (rw' acc' v') P l k' dp e').bl.Nodup -> ∀b,b∈aY v' -> b∈(PSt (A' acc v) B (rw' acc v) P l k dp e).bl -> b∈aY v)
  (hcl:∀acc v k,k<l.length -> acc.length <= k -> aL prog F (fst.toList.map cst++[]++cap.toList.map cst) (aY v++(Tv++[P])) (PSt (A' acc v) B (rw' acc v) P l k dp 0) fun t s=>∃x v' k' e',t=.tup [] /\ Run 0 k (el acc.length k) x k' e' /\ k'<l.length /\ e'<16 /\ s=PSt (A' (acc++[x]) v') B (rw' (acc++[x]) v') P l k' dp e'):
  aL prog 133 [pP P,.c (.val (.func (.func F) fst cap))] (Tv++[P]) (PSt (A' [] (.slice none 0 0)) B (rw' [] (.slice none 0 0)) P l k dp e) fun t s=>∃acc v k' e',t=.tup [] /\ Run e k (jC l el k) acc k' e' /\ k'<l.length /\ e'<16 /\ s=PSt (A' acc v) B (rw' acc v) P l k' dp e':=by
 have hlen:=hok.len
 refine acB func133 rfl ?_
 show AWp prog _ ⟨23,Tv++[P],⟨(A' [] (.slice none 0 0))++⟨P,97,[.sl l.length (l.flatMap aW),nC k,nC dp,nC e]⟩::B,(rw' [] (.slice none 0 0))⟩,[(0,pP P),(1,.c (.val (.func (.func F) fst cap)))]⟩ _
 refine go 3 ?_
 refine wcQ rfl call132 rfl (eI ((A' [] (.slice none 0 0))) _ _ _ l k dp e [40] hok hk he) ?_
 rintro t1 s1 ⟨x1,k1,e1,rfl,hr1,hk1,he1,rfl⟩
 refine go 6 ?_
 refine wcQ rfl call130 rfl (kE ((A' [] (.slice none 0 0))) _ _ _ l k1 dp e1 [41] hok hk1) ?_
 rintro t2 s2 (⟨rfl,ha2,hm2,rfl,rfl⟩|⟨ha2,rfl,rfl⟩)
 ·refine go 5 ?_
  exact ⟨.inr rfl,_,PSt (A' [] (.slice none 0 0)) B (rw' [] (.slice none 0 0)) P l (k1+1) dp 0,cH rfl,aA (.refl _) (.refl _),⟨[],.slice none 0 0,k1+1,0,rfl,hr1.bind (by rw [if_pos ha2];exact .ok _ _ _ rfl),hm2,(by decide),rfl⟩⟩
 refine go 12 ?_
 refine fM (fun g:Bool×List α×Value×Nat×Nat=>(⟨23,aY g.2.2.1++(Tv++[P]),⟨A' (g.2.1) g.2.2.1++⟨P,97,[.sl l.length (l.flatMap aW),.val (.int .i64 (((g.2.2.2.1):Nat):Int)),.val (.int .i64 (((dp):Nat):Int)),.val (.int .i64 (((g.2.2.2.2):Nat):Int))]⟩::B,rw' (g.2.1) g.2.2.1⟩,[(4,.c (.val (.bool g.1))),(1,.c (.val (.func (.func F) fst cap))),(0,pP P)]⟩:AS)) (fun g=>g.2.2.2.1<l.length /\ g.2.2.2.2<16 /\ (g.2.2.2.2=0 -> g.2.1.length <= g.2.2.2.1) /\ (g.2.2.2.2≠0 -> Run e k (jC l el k) g.2.1 g.2.2.2.1 g.2.2.2.2) /\ (g.2.2.2.2=0 -> g.1=true -> ∃n,l.length <= n+g.2.2.2.1 /\ ∀z k' e',Run 0 g.2.2.2.1 (lI l el n g.2.1 g.2.2.2.1) z k' e' -> Run e k (jC l el k) z k' e') /\ (g.2.2.2.2=0 -> g.1=false -> ∀z k' e',Run 0 g.2.2.2.1 ((fD l [41] g.2.2.2.1).bind fun _ k=>.ok g.2.1 k) z k' e' -> Run e k (jC l el k) z k' e')) (fun g=>if g.1=true /\ g.2.2.2.2=0 then l.length-g.2.2.2.1+1 else 0) (true,[],.slice none 0 0,k1,e1) (cA (.refl _) (.refl _) (by intro x hx;simpa [aY,Value.ownBlock] using hx) (sA rfl)) ⟨hk1,he1,fun _=>Nat.zero_le _,fun h=>hr1.bind (.skip h _ _),fun h _=>⟨l.length,Nat.le_add_right _ _,fun z k' e' h2=>?_⟩,fun _ h=>nomatch h⟩ ?_
 ·have h:e1=0:=h
  refine hr1.bind ?_
  rw [h,if_neg (by rw [ha2 h];decide)]
  exact h2
 rintro ⟨more,acc,v0,k0,e0⟩ ⟨hk0,he0,ha0,hn0,hc0,hd0⟩
 dsimp only at hk0 he0 ha0 hn0 hc0 hd0
 show AWp prog _ (⟨23,aY v0++(Tv++[P]),⟨A' (acc) v0++⟨P,97,[.sl l.length (l.flatMap aW),.val (.int .i64 (((k0):Nat):Int)),.val (.int .i64 (((dp):Nat):Int)),.val (.int .i64 (((e0):Nat):Int))]⟩::B,rw' (acc) v0⟩,[(4,.c (.val (.bool more))),(1,.c (.val (.func (.func F) fst cap))),(0,pP P)]⟩:AS) _
 cases more
 ·refine go 21 ?_
  refine wcQ rfl call132 rfl (eI ((A' acc v0)) _ _ _ l k0 dp e0 [41] hok hk0 he0) ?_
  rintro t6 s6 ⟨x6,k6,e6,rfl,hr6,hk6,he6,rfl⟩
  refine go 1 ?_
  exact ⟨.inl rfl,_,PSt (A' acc v0) B (rw' acc v0) P l (k6) dp (e6),cH rfl,aA (.refl _) (.refl _),⟨acc,v0,k6,e6,rfl,(by by_cases h0:e0=0;exact hd0 h0 rfl _ _ _ (by rw [←h0];exact hr6.map (f:=fun _=>acc));rcases hr6 with ⟨_,rfl,rfl⟩|⟨h,_⟩;exact hn0 h0;exact absurd h h0),hk6,he6,rfl⟩⟩
 by_cases h0:e0=0
 ·subst h0
  have ha1:=ha0 rfl
  obtain ⟨n0,hn1,hcont⟩:=hc0 rfl rfl
  obtain ⟨m,rfl⟩:∃m,n0=m+1:=⟨n0-1,by omega⟩
  skip
  refine go 9 ?_
  refine wcp true rfl (by rfl) ?_
  refine go 10 ?_
  refine wo rfl (rL (aY v0++(Tv++[P])) rfl rfl rfl (by decide) hcf (us:=[]) rfl (hcl acc v0 k0 hk0 ha1) (fun b hb=>by simpa using hb) (hTb acc v0 k0 0) (fun _ b hb=>hb) ?_)
  rintro t10 s10 ⟨x10,v10,k10,e10,rfl,hr10,hk10,he10,rfl⟩
  refine ⟨aY v10,fun hnd b hb=>⟨hrB _ _ _ _ b hb,fun hb2=>List.mem_append_left _ (hback acc v0 k0 0 (acc++[x10]) v10 k10 e10 hnd b hb hb2)⟩,?_⟩
  show eQ _ _ _ ⟨_,_,⟨A' (acc++[x10]) v10++⟨P,97,[.sl l.length (l.flatMap aW),.val (.int .i64 (((k10):Nat):Int)),.val (.int .i64 (((dp):Nat):Int)),.val (.int .i64 (((e10):Nat):Int))]⟩::B,rw' (acc++[x10]) v10⟩,_⟩ _
  refine go 5 ?_
  refine wcQ rfl call130 rfl (kE ((A' (acc++[x10]) v10)) _ _ _ l k10 dp e10 [44] hok hk10) ?_
  rintro t11 s11 (⟨rfl,ha11,hm11,rfl,rfl⟩|⟨ha11,rfl,rfl⟩)
  ·refine go 2 ?_
   refine ⟨(true,acc++[x10],v10,k10+1,0),⟨hm11,(show (0:Nat)<16 by decide),?_,?_,?_,?_⟩,?_,cA (.refl _) (.refl _) (by intro x hx;rcases mem_append.1 hx with h|h;exact List.mem_append_left _ h;exact List.mem_append_right _ (List.mem_append_right _ h)) (sA rfl)⟩
   ·intro _;have h9:=hin acc.length k0 hk0;rw [(hr10.good rfl).2] at h9;have:=h9.1;show (acc++[x10]).length <= k10+1;simp;omega
   ·intro h;exact absurd rfl h
   ·intro _ _;refine ⟨m,?_,fun z k' e' h=>hcont z k' e' ?_⟩
    ·have h9:=hin acc.length k0 hk0;rw [(hr10.good rfl).2] at h9;have:=h9.1;show l.length <= m+(k10+1);omega
    rw [lI];exact hr10.bind (by rw [if_pos ha11];exact Run.from h)
   ·intro _ h;exact nomatch h
   have h9:=hin acc.length k0 hk0;rw [(hr10.good rfl).2] at h9;have:=h9.1;show (if true=true /\ (0:Nat)=0 then _ else _)<(if true=true /\ (0:Nat)=0 then _ else _);rw [if_pos ⟨rfl,rfl⟩,if_pos ⟨rfl,rfl⟩];show l.length-(k10+1)+1<l.length-k0+1;omega
  refine go 2 ?_
  refine ⟨(false,acc++[x10],v10,k10,e10),⟨hk10,he10,?_,?_,?_,?_⟩,?_,cA (.refl _) (.refl _) (by intro x hx;rcases mem_append.1 hx with h|h;exact List.mem_append_left _ h;exact List.mem_append_right _ (List.mem_append_right _ h)) (sA rfl)⟩
  ·intro h;have h9:=hin acc.length k0 hk0;rw [(hr10.good h).2] at h9;have:=h9.1;show (acc++[x10]).length <= k10;simp;omega
  ·intro h;exact hcont _ _ _ (by rw [lI];exact hr10.bind (.skip h _ _))
  ·intro _ h;exact nomatch h
  ·intro h _ z k' e' h2;refine hcont _ _ _ ?_;rw [lI];refine hr10.bind ?_;rw [show e10=0 from h,if_neg (by rw [ha11 h];decide)];exact h2
  show (if false=true /\ _ then _ else _)<(if true=true /\ (0:Nat)=0 then _ else _);rw [if_neg (fun h=>nomatch h.1),if_pos ⟨rfl,rfl⟩];show 0<l.length-k0+1;omega
 refine go 9 ?_
 refine wcp false rfl (lA h0) ?_
 refine go 11 ?_
 refine wcQ rfl call132 rfl (eI ((A' acc v0)) _ _ _ l k0 dp e0 [41] hok hk0 he0) ?_
 rintro t8 s8 ⟨x8,k8,e8,rfl,hr8,hk8,he8,rfl⟩
 refine go 1 ?_
 exact ⟨.inl rfl,_,PSt (A' acc v0) B (rw' acc v0) P l (k8) dp (e8),cH rfl,aA (.refl _) (.refl _),⟨acc,v0,k8,e8,rfl,(by rcases hr8 with ⟨_,rfl,rfl⟩|⟨h,_⟩;exact hn0 h0;exact absurd h h0),hk8,he8,rfl⟩⟩
end
section
open Go.RowKit
theorem aQv(A B:List Box)(rw:List bA)(P:Nat)(l:List Tok)(k dp c1 c2:Nat)(v:Value)(acc:List eN)(hok:TOk l)(hk:k<l.length)(hal:acc.length <= 1000000):aL prog 237 [pP c2,pP c1] (aY v++([c2]++[P])) (PSt (⟨c2,92,[.val v]⟩::⟨c1,95,[.val (.pointer (some ⟨P,0,none⟩))]⟩::A) B (⟨v,142,7,(acc).length,(acc).flatMap eJ⟩::rw) P l k dp 0) fun t s=>∃x v' k' e',t=.tup [] /\ Run 0 k (rC l k) x k' e' /\ k'<l.length /\ e'<16 /\ s=PSt (⟨c2,92,[.val v']⟩::⟨c1,95,[.val (.pointer (some ⟨P,0,none⟩))]⟩::A) B (⟨v',142,7,(acc++[x]).length,(acc++[x]).flatMap eJ⟩::rw) P l k' dp e':=by
 have hlen:=hok.len
 have he:(0:Nat)<16:=by decide
 refine acB func237 rfl ?_
 show AWp prog _ ⟨7,aY v++([c2]++[P]),⟨⟨c2,92,[.val v]⟩::⟨c1,95,[.val (.pointer (some ⟨P,0,none⟩))]⟩::(A++⟨P,97,[.sl l.length (l.flatMap aW),nC k,nC dp,nC 0]⟩::B),⟨v,142,7,(acc).length,(acc).flatMap eJ⟩::rw⟩,[(0,pP c2),(1,pP c1)]⟩ _
 refine aB [] (by kernel_rfl) ?_
 refine two 0 1 (by kernel_rfl) rfl rfl rfl rfl ?_ ?_
 ·refine way rfl (by decide) (aX [] rfl rfl rfl isAgg92 sizeOf92 rfl (fun _ h=>by cases h)) ?_
  refine one 1 (by kernel_rfl) rfl rfl (way rfl (by decide) (aX [_] rfl rfl rfl isAgg95 sizeOf95 rfl (fun _ h=>by cases h)) ?_)
  refine one 2 (by kernel_rfl) rfl rfl (bD [P] rfl rfl (by decide) call238 rfl (aGn (_::_::A) _ _ _ l k dp 0 hok hk he) (by intro b hb;simp at hb;subst hb;simp) (by intro b hb;simp at hb;subst hb;simp [Sto.bl]) (by intro h b hb;simp at hb;subst hb;exact lU (by simp [Sto.bl])) ?_)
  rintro t1 s1 ⟨x1,k1,e1,rfl,hr1,hk1,he1,rfl⟩
  refine one 3 (by kernel_rfl) rfl rfl (bDk zb0 rfl (.cons rfl .nil) (aV eJ eJ x1 rfl rfl rfl) ?_)
  refine one 4 (by kernel_rfl) rfl rfl (bDm [] bHh rfl rfl (by decide) (by unfold maxLen;skip;omega) (by skip;omega) (@length_append _ acc [x1]).symm (fun _ b hb=>lU (by simp [Sto.bl,hb])) (fun b hb=>by simp [hb]) (List.flatMap_append (f:=eJ)).symm fun v2=>?_)
  refine tks [(5,false)] 0 (by kernel_rfl) ?_
  refine go 2 ?_
  refine aE (by kernel_rfl) ?_
  exact ⟨.inl rfl,_,PSt (⟨c2,92,[.val v2]⟩::⟨c1,95,[.val (.pointer (some ⟨P,0,none⟩))]⟩::A) B (⟨v2,142,7,(acc++[x1]).length,(acc++[x1]).flatMap eJ⟩::rw) P l k1 dp e1,cH rfl,aA (.refl _) (.refl _),⟨x1,v2,k1,e1,rfl,hr1,hk1,he1,rfl⟩⟩
 refine way rfl (by decide) (aX [_] rfl rfl rfl isAgg95 sizeOf95 rfl (fun _ h=>by cases h)) ?_
 refine two 0 2 (by kernel_rfl) rfl rfl rfl rfl ?_ ?_
 ·refine way rfl (by decide) (aX [] rfl rfl rfl isAgg92 sizeOf92 rfl (fun _ h=>by cases h)) ?_
  refine one 2 (by kernel_rfl) rfl rfl (bD [P] rfl rfl (by decide) call238 rfl (aGn (_::_::A) _ _ _ l k dp 0 hok hk he) (by intro b hb;simp at hb;subst hb;simp) (by intro b hb;simp at hb;subst hb;simp [Sto.bl]) (by intro h b hb;simp at hb;subst hb;exact lU (by simp [Sto.bl])) ?_)
  rintro t3 s3 ⟨x3,k3,e3,rfl,hr3,hk3,he3,rfl⟩
  refine one 3 (by kernel_rfl) rfl rfl (bDk zb0 rfl (.cons rfl .nil) (aV eJ eJ x3 rfl rfl rfl) ?_)
  refine one 4 (by kernel_rfl) rfl rfl (bDm [] bHh rfl rfl (by decide) (by unfold maxLen;skip;omega) (by skip;omega) (@length_append _ acc [x3]).symm (fun _ b hb=>lU (by simp [Sto.bl,hb])) (fun b hb=>by simp [hb]) (List.flatMap_append (f:=eJ)).symm fun v4=>?_)
  refine tks [(5,false)] 0 (by kernel_rfl) ?_
  refine go 2 ?_
  refine aE (by kernel_rfl) ?_
  exact ⟨.inl rfl,_,PSt (⟨c2,92,[.val v4]⟩::⟨c1,95,[.val (.pointer (some ⟨P,0,none⟩))]⟩::A) B (⟨v4,142,7,(acc++[x3]).length,(acc++[x3]).flatMap eJ⟩::rw) P l k3 dp e3,cH rfl,aA (.refl _) (.refl _),⟨x3,v4,k3,e3,rfl,hr3,hk3,he3,rfl⟩⟩
 refine (bD [P] rfl rfl (by decide) call238 rfl (aGn (_::_::A) _ _ _ l k dp 0 hok hk he) (by intro b hb;simp at hb;subst hb;simp) (by intro b hb;simp at hb;subst hb;simp [Sto.bl]) (by intro h b hb;simp at hb;subst hb;exact lU (by simp [Sto.bl])) ?_)
 rintro t5 s5 ⟨x5,k5,e5,rfl,hr5,hk5,he5,rfl⟩
 refine two 0 3 (by kernel_rfl) rfl rfl rfl rfl ?_ ?_
 ·refine way rfl (by decide) (aX [] rfl rfl rfl isAgg92 sizeOf92 rfl (fun _ h=>by cases h)) ?_
  refine one 3 (by kernel_rfl) rfl rfl (bDk zb0 rfl (.cons rfl .nil) (aV eJ eJ x5 rfl rfl rfl) ?_)
  refine one 4 (by kernel_rfl) rfl rfl (bDm [] bHh rfl rfl (by decide) (by unfold maxLen;skip;omega) (by skip;omega) (@length_append _ acc [x5]).symm (fun _ b hb=>lU (by simp [Sto.bl,hb])) (fun b hb=>by simp [hb]) (List.flatMap_append (f:=eJ)).symm fun v6=>?_)
  refine tks [(5,false)] 0 (by kernel_rfl) ?_
  refine go 2 ?_
  refine aE (by kernel_rfl) ?_
  exact ⟨.inl rfl,_,PSt (⟨c2,92,[.val v6]⟩::⟨c1,95,[.val (.pointer (some ⟨P,0,none⟩))]⟩::A) B (⟨v6,142,7,(acc++[x5]).length,(acc++[x5]).flatMap eJ⟩::rw) P l k5 dp e5,cH rfl,aA (.refl _) (.refl _),⟨x5,v6,k5,e5,rfl,hr5,hk5,he5,rfl⟩⟩
 refine (bDk zb0 rfl (.cons rfl .nil) (aV eJ eJ x5 rfl rfl rfl) ?_)
 refine one 0 (by kernel_rfl) rfl rfl (way rfl (by decide) (aX [] rfl rfl rfl isAgg92 sizeOf92 rfl (fun _ h=>by cases h)) ?_)
 refine one 4 (by kernel_rfl) rfl rfl (bDm [] bHh rfl rfl (by decide) (by unfold maxLen;skip;omega) (by skip;omega) (@length_append _ acc [x5]).symm (fun _ b hb=>lU (by simp [Sto.bl,hb])) (fun b hb=>by simp [hb]) (List.flatMap_append (f:=eJ)).symm fun v7=>?_)
 refine tks [(5,false)] 0 (by kernel_rfl) ?_
 refine go 2 ?_
 refine aE (by kernel_rfl) ?_
 exact ⟨.inl rfl,_,PSt (⟨c2,92,[.val v7]⟩::⟨c1,95,[.val (.pointer (some ⟨P,0,none⟩))]⟩::A) B (⟨v7,142,7,(acc++[x5]).length,(acc++[x5]).flatMap eJ⟩::rw) P l k5 dp e5,cH rfl,aA (.refl _) (.refl _),⟨x5,v7,k5,e5,rfl,hr5,hk5,he5,rfl⟩⟩
theorem aIj(A B:List Box)(rw:List bA)(P:Nat)(l:List Tok)(k dp e:Nat)(hok:TOk l)(hk:k<l.length)(he:e<16):aL prog 220 [pP P] [P] (PSt A B rw P l k dp e) (PAn A B rw P l dp (fun x=>.c (.sl x.length (x.flatMap eJ))) e k (rA l k)):=by
 have hlen:=hok.len
 refine acB func220 rfl ?_
 show AWp prog _ ⟨8,[P],⟨A++⟨P,97,[.sl l.length (l.flatMap aW),nC k,nC dp,nC e]⟩::B,rw⟩,[(0,pP P)]⟩ _
 refine go 12 fun b1 b2=>?_
 refine qR 142 7 ?_
 refine go 2 ?_
 refine wyz rfl (xR rfl (vs:=[.pointer (some ⟨b2,0,none⟩),.pointer (some ⟨b1,0,none⟩)]) rfl) ?_
 refine wo rfl (bD ([b2]++[P]) rfl rfl (by decide) call133 rfl (aE0 (fun acc v=>⟨b2,92,[.val v]⟩::⟨b1,95,[.val (.pointer (some ⟨P,0,none⟩))]⟩::A) B (fun acc v=>⟨v,142,7,acc.length,acc.flatMap eJ⟩::rw) P l k dp e [b2] 237 #[] #[.pointer (some ⟨b2,0,none⟩),.pointer (some ⟨b1,0,none⟩)] (fun _=>rC l) hok hk he call237 (fun _ k hk=>aDl hok.last hk) (fun acc v k e b hb=>by simp [Sto.bl] at hb⊢;rcases hb with h|h|h<;>simp [h]) (fun acc v k e b hb=>by simp [Sto.bl];exact .inr (.inr (.inr (.inr (.inr (.inl hb)))))) (fun acc v k e acc' v' k' e' hn b hb hb2=>aFb (by simp) hn hb hb2) (fun acc v k hk ha=>aQv A B rw P l k dp b1 b2 v acc hok hk (by omega))) (by intro b hb;simp at hb;rcases hb with rfl|rfl<;>simp) (by intro b hb;simp at hb;rcases hb with rfl|rfl<;>simp [Sto.bl]) (by intro _ b hb;simp at hb;rcases hb with rfl|rfl<;>simp) ?_)
 rintro t1 s1 ⟨acc,v0,k1,e1,rfl,hr1,hk1,he1,rfl⟩
 show eQ _ _ _ ⟨_,_,⟨⟨b2,92,[.val v0]⟩::⟨b1,95,[.val (.pointer (some ⟨P,0,none⟩))]⟩::(A++⟨P,97,[.sl l.length (l.flatMap aW),.val (.int .i64 (((k1):Nat):Int)),.val (.int .i64 (((dp):Nat):Int)),.val (.int .i64 (((e1):Nat):Int))]⟩::B),⟨v0,142,7,(acc).length,(acc).flatMap eJ⟩::rw⟩,_⟩ _
 refine go 8 ?_
 refine aH0 2 rfl ?_
 refine go 1 ?_
 exact ⟨.inr rfl,_,(PSt A B rw P l (k1) (dp) (e1)),(aR rfl (aF rfl)),aA (.cons _ (.cons _ (.refl _))) (.refl _),⟨acc,k1,e1,rfl,hr1,hk1,he1,rfl⟩⟩
end
end Go.Proofs.YtlmpchoaebhhmaaGreatDoor
