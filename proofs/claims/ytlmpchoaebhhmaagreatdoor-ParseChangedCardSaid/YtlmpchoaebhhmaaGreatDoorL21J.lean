import Derived.Test.YtlmpchoaebhhmaaGreatDoorL5J
import Derived.Test.YtlmpchoaebhhmaaGreatDoorL14J
import Derived.Test.YtlmpchoaebhhmaaGreatDoorL20J
import Derived.Test.YtlmpchoaebhhmaaGreatDoorL7J
set_option linter.all false
set_option synthInstance.maxHeartbeats 1000000
set_option synthInstance.maxSize 1000000
set_option maxHeartbeats 1600000
set_option maxRecDepth 100000
namespace Go.Proofs.YtlmpchoaebhhmaaGreatDoor
open Go.Proofs.Tryz
open List (length_append length_cons length_nil mem_append mem_cons not_mem_nil append_assoc getElem_mem take_of_length_le)
section
open Go.RowKit
abbrev RSt(A B:List Box)(rw:List bA)(P:Nat)(l:List Tok)(k b e ns dp:Nat):Sto:=⟨A++⟨P,117,[.sl l.length (l.flatMap aW),.val (.int .i64 (k:Int)),.val (.int .i64 (b:Int)),.val (.int .i64 (e:Int)),.val (.int .i64 (ns:Int)),.val (.int .i64 (dp:Int))]⟩::B,rw⟩
def RAn{α:Type}(A B:List Box)(rw:List bA)(P:Nat)(l:List Tok)(ns dp:Nat)(enc:α -> AT)(e b:Nat)(r:bN α)(t:AT)(s:Sto):Prop:=
 ∃x k1 b1 e1,t=enc x /\ kX e b r x k1 b1 e1 /\ k1<l.length /\ e1<16 /\ s=RSt A B rw P l k1 b1 e1 ns dp
structure TOk (l:List Tok):Prop where
 last:rP l
 reg:∀t,t∈l -> aPn t
 len:l.length <= 1000000
def fT(l:List Tok)(k:Nat)(s:ByteArray):Bool:=(decide ((bU l k).kind=4)||decide ((bU l k).kind=3)) && decide ((bU l k).text=s)
theorem lA{e:Nat}(h:e≠0):bC .eql (e:Int) 0=some false:=by simp [bC,h]
theorem jS{m n:Nat}:bC .eql (m:Int) (n:Int)=some (decide (m=n)):=by
 by_cases h:m=n
 ·subst h;simp [bC]
 have h2:¬(m:Int)=(n:Int):=by omega
 simp [bC,h,h2]
theorem bFr(A B:List Box)(rw:List bA)(P:Nat)(l:List Tok)(k b ns dp x:Nat):aL prog 62 [pP P,.c (.val (.int .i64 (x:Int)))] [P] (RSt A B rw P l k b 0 ns dp) fun t s=>t=.tup [] /\ s=RSt A B rw P l k k x ns dp:=by
 refine acB func62 rfl ?_
 show AWp prog _ ⟨20,[P],⟨A++⟨P,117,[.sl l.length (l.flatMap aW),nC k,nC b,nC 0,nC ns,nC dp]⟩::B,rw⟩,[(0,pP P),(1,.c (.val (.int .i64 (x:Int))))]⟩ _
 refine go 6 ?_
 refine wcp true rfl (by rfl) ?_
 refine go 18 ?_
 exact ⟨.inl rfl,_,(RSt A B rw P l (k) (k) (x) (ns) (dp)),cH rfl,aA (.refl _) (.refl _),rfl,rfl⟩
theorem bFo(A B:List Box)(rw:List bA)(P:Nat)(l:List Tok)(k b ns dp x e:Nat)(he0:e≠0):aL prog 62 [pP P,.c (.val (.int .i64 (x:Int)))] [P] (RSt A B rw P l k b e ns dp) fun t s=>t=.tup [] /\ s=RSt A B rw P l k b e ns dp:=by
 refine acB func62 rfl ?_
 show AWp prog _ ⟨20,[P],⟨A++⟨P,117,[.sl l.length (l.flatMap aW),nC k,nC b,nC e,nC ns,nC dp]⟩::B,rw⟩,[(0,pP P),(1,.c (.val (.int .i64 (x:Int))))]⟩ _
 refine go 6 ?_
 refine wcp false rfl (lA he0) ?_
 refine go 4 ?_
 exact ⟨.inl rfl,_,(RSt A B rw P l (k) (b) (e) (ns) (dp)),cH rfl,aA (.refl _) (.refl _),rfl,rfl⟩
theorem bFx(A B:List Box)(rw:List bA)(P:Nat)(l:List Tok)(k b ns dp e:Nat)(sg:ByteArray)(hk:k<l.length)(he0:e≠0):aL prog 61 [pP P,.c (.val (.string sg))] [P] (RSt A B rw P l k b e ns dp) fun t s=>t=.c (.val (.bool false)) /\ s=RSt A B rw P l k b e ns dp:=by
 refine acB func61 rfl ?_
 show AWp prog _ ⟨37,[P],⟨A++⟨P,117,[.sl l.length (l.flatMap aW),nC k,nC b,nC e,nC ns,nC dp]⟩::B,rw⟩,[(0,pP P),(1,.c (.val (.string sg)))]⟩ _
 refine go 6 ?_
 refine aB [P] (by kernel_rfl) ?_
 refine tks [(0,true),(1,true),(2,true),(3,true),(4,true),(5,true),(6,true),(7,true)] 4 (by kernel_rfl) ?_
 refine go 9 ?_
 refine tr 8 (by kernel_rfl) rfl (bH aW aW l bJ (fun _=>rfl) (k) rfl rfl rfl rfl hk (by decide) runUnderlying51 sizeOf99) ?_
 refine tks [(9,true),(10,false),(11,false)] 0 (by kernel_rfl) ?_
 refine go 4 fun b1=>?_
 refine aE (by kernel_rfl) ?_
 refine go 7 ?_
 refine wcp false rfl (lA he0) ?_
 refine go 20 ?_
 exact bHe (s':=(RSt A B rw P l (k) (b) (e) (ns) (dp))) rfl sb1 ⟨rfl,rfl⟩
theorem bFs(A B:List Box)(rw:List bA)(P:Nat)(l:List Tok)(k b ns dp:Nat)(sg:ByteArray)(hk:k<l.length)(h4:l[k].kind=4)(ht:l[k].text=sg):aL prog 61 [pP P,.c (.val (.string sg))] [P] (RSt A B rw P l k b 0 ns dp) fun t s=>t=.c (.val (.bool true)) /\ s=RSt A B rw P l k b 0 ns dp:=by
 refine acB func61 rfl ?_
 show AWp prog _ ⟨37,[P],⟨A++⟨P,117,[.sl l.length (l.flatMap aW),nC k,nC b,nC 0,nC ns,nC dp]⟩::B,rw⟩,[(0,pP P),(1,.c (.val (.string sg)))]⟩ _
 refine go 6 ?_
 refine aB [P] (by kernel_rfl) ?_
 refine tks [(0,true),(1,true),(2,true),(3,true),(4,true),(5,true),(6,true),(7,true)] 4 (by kernel_rfl) ?_
 refine go 9 ?_
 refine tr 8 (by kernel_rfl) rfl (bH aW aW l bJ (fun _=>rfl) (k) rfl rfl rfl rfl hk (by decide) runUnderlying51 sizeOf99) ?_
 refine tks [(9,true),(10,false),(11,false)] 0 (by kernel_rfl) ?_
 refine go 4 fun b1=>?_
 refine aE (by kernel_rfl) ?_
 refine go 7 ?_
 refine wcp true rfl (by rfl) ?_
 refine go 3 ?_
 refine wcp true rfl (by rw [h4];rfl) ?_
 refine go 10 ?_
 refine wyz rfl (aZ true rfl rfl rfl (by rw [ht];simp [oM])) ?_
 refine go 5 ?_
 exact bHe (s':=(RSt A B rw P l (k) (b) (0) (ns) (dp))) rfl sb1 ⟨rfl,rfl⟩
theorem bFu(A B:List Box)(rw:List bA)(P:Nat)(l:List Tok)(k b ns dp:Nat)(sg:ByteArray)(hk:k<l.length)(h4:l[k].kind=4)(ht:¬l[k].text=sg):aL prog 61 [pP P,.c (.val (.string sg))] [P] (RSt A B rw P l k b 0 ns dp) fun t s=>t=.c (.val (.bool false)) /\ s=RSt A B rw P l k b 0 ns dp:=by
 refine acB func61 rfl ?_
 show AWp prog _ ⟨37,[P],⟨A++⟨P,117,[.sl l.length (l.flatMap aW),nC k,nC b,nC 0,nC ns,nC dp]⟩::B,rw⟩,[(0,pP P),(1,.c (.val (.string sg)))]⟩ _
 refine go 6 ?_
 refine aB [P] (by kernel_rfl) ?_
 refine tks [(0,true),(1,true),(2,true),(3,true),(4,true),(5,true),(6,true),(7,true)] 4 (by kernel_rfl) ?_
 refine go 9 ?_
 refine tr 8 (by kernel_rfl) rfl (bH aW aW l bJ (fun _=>rfl) (k) rfl rfl rfl rfl hk (by decide) runUnderlying51 sizeOf99) ?_
 refine tks [(9,true),(10,false),(11,false)] 0 (by kernel_rfl) ?_
 refine go 4 fun b1=>?_
 refine aE (by kernel_rfl) ?_
 refine go 7 ?_
 refine wcp true rfl (by rfl) ?_
 refine go 3 ?_
 refine wcp true rfl (by rw [h4];rfl) ?_
 refine go 10 ?_
 refine wyz rfl (aZ false rfl rfl rfl (by simp [oM,ht])) ?_
 refine go 5 ?_
 exact bHe (s':=(RSt A B rw P l (k) (b) (0) (ns) (dp))) rfl sb1 ⟨rfl,rfl⟩
theorem bFt(A B:List Box)(rw:List bA)(P:Nat)(l:List Tok)(k b ns dp:Nat)(sg:ByteArray)(hk:k<l.length)(h4:¬l[k].kind=4)(h3:l[k].kind=3)(ht:l[k].text=sg):aL prog 61 [pP P,.c (.val (.string sg))] [P] (RSt A B rw P l k b 0 ns dp) fun t s=>t=.c (.val (.bool true)) /\ s=RSt A B rw P l k b 0 ns dp:=by
 refine acB func61 rfl ?_
 show AWp prog _ ⟨37,[P],⟨A++⟨P,117,[.sl l.length (l.flatMap aW),nC k,nC b,nC 0,nC ns,nC dp]⟩::B,rw⟩,[(0,pP P),(1,.c (.val (.string sg)))]⟩ _
 refine go 6 ?_
 refine aB [P] (by kernel_rfl) ?_
 refine tks [(0,true),(1,true),(2,true),(3,true),(4,true),(5,true),(6,true),(7,true)] 4 (by kernel_rfl) ?_
 refine go 9 ?_
 refine tr 8 (by kernel_rfl) rfl (bH aW aW l bJ (fun _=>rfl) (k) rfl rfl rfl rfl hk (by decide) runUnderlying51 sizeOf99) ?_
 refine tks [(9,true),(10,false),(11,false)] 0 (by kernel_rfl) ?_
 refine go 4 fun b1=>?_
 refine aE (by kernel_rfl) ?_
 refine go 7 ?_
 refine wcp true rfl (by rfl) ?_
 refine go 3 ?_
 refine wcp false rfl (by rw [show bC .eql ((l[k].kind:Nat):Int) 4=some (decide (l[k].kind=4)) from jS (n:=4),decide_eq_false h4]) ?_
 refine go 3 ?_
 refine wcp true rfl (by rw [h3];rfl) ?_
 refine go 6 ?_
 refine wyz rfl (aZ true rfl rfl rfl (by rw [ht];simp [oM])) ?_
 refine go 5 ?_
 exact bHe (s':=(RSt A B rw P l (k) (b) (0) (ns) (dp))) rfl sb1 ⟨rfl,rfl⟩
theorem bFw(A B:List Box)(rw:List bA)(P:Nat)(l:List Tok)(k b ns dp:Nat)(sg:ByteArray)(hk:k<l.length)(h4:¬l[k].kind=4)(h3:l[k].kind=3)(ht:¬l[k].text=sg):aL prog 61 [pP P,.c (.val (.string sg))] [P] (RSt A B rw P l k b 0 ns dp) fun t s=>t=.c (.val (.bool false)) /\ s=RSt A B rw P l k b 0 ns dp:=by
 refine acB func61 rfl ?_
 show AWp prog _ ⟨37,[P],⟨A++⟨P,117,[.sl l.length (l.flatMap aW),nC k,nC b,nC 0,nC ns,nC dp]⟩::B,rw⟩,[(0,pP P),(1,.c (.val (.string sg)))]⟩ _
 refine go 6 ?_
 refine aB [P] (by kernel_rfl) ?_
 refine tks [(0,true),(1,true),(2,true),(3,true),(4,true),(5,true),(6,true),(7,true)] 4 (by kernel_rfl) ?_
 refine go 9 ?_
 refine tr 8 (by kernel_rfl) rfl (bH aW aW l bJ (fun _=>rfl) (k) rfl rfl rfl rfl hk (by decide) runUnderlying51 sizeOf99) ?_
 refine tks [(9,true),(10,false),(11,false)] 0 (by kernel_rfl) ?_
 refine go 4 fun b1=>?_
 refine aE (by kernel_rfl) ?_
 refine go 7 ?_
 refine wcp true rfl (by rfl) ?_
 refine go 3 ?_
 refine wcp false rfl (by rw [show bC .eql ((l[k].kind:Nat):Int) 4=some (decide (l[k].kind=4)) from jS (n:=4),decide_eq_false h4]) ?_
 refine go 3 ?_
 refine wcp true rfl (by rw [h3];rfl) ?_
 refine go 6 ?_
 refine wyz rfl (aZ false rfl rfl rfl (by simp [oM,ht])) ?_
 refine go 5 ?_
 exact bHe (s':=(RSt A B rw P l (k) (b) (0) (ns) (dp))) rfl sb1 ⟨rfl,rfl⟩
theorem bFy(A B:List Box)(rw:List bA)(P:Nat)(l:List Tok)(k b ns dp:Nat)(sg:ByteArray)(hk:k<l.length)(h4:¬l[k].kind=4)(h3:¬l[k].kind=3):aL prog 61 [pP P,.c (.val (.string sg))] [P] (RSt A B rw P l k b 0 ns dp) fun t s=>t=.c (.val (.bool false)) /\ s=RSt A B rw P l k b 0 ns dp:=by
 refine acB func61 rfl ?_
 show AWp prog _ ⟨37,[P],⟨A++⟨P,117,[.sl l.length (l.flatMap aW),nC k,nC b,nC 0,nC ns,nC dp]⟩::B,rw⟩,[(0,pP P),(1,.c (.val (.string sg)))]⟩ _
 refine go 6 ?_
 refine aB [P] (by kernel_rfl) ?_
 refine tks [(0,true),(1,true),(2,true),(3,true),(4,true),(5,true),(6,true),(7,true)] 4 (by kernel_rfl) ?_
 refine go 9 ?_
 refine tr 8 (by kernel_rfl) rfl (bH aW aW l bJ (fun _=>rfl) (k) rfl rfl rfl rfl hk (by decide) runUnderlying51 sizeOf99) ?_
 refine tks [(9,true),(10,false),(11,false)] 0 (by kernel_rfl) ?_
 refine go 4 fun b1=>?_
 refine aE (by kernel_rfl) ?_
 refine go 7 ?_
 refine wcp true rfl (by rfl) ?_
 refine go 3 ?_
 refine wcp false rfl (by rw [show bC .eql ((l[k].kind:Nat):Int) 4=some (decide (l[k].kind=4)) from jS (n:=4),decide_eq_false h4]) ?_
 refine go 3 ?_
 refine wcp false rfl (by rw [show bC .eql ((l[k].kind:Nat):Int) 3=some (decide (l[k].kind=3)) from jS (n:=3),decide_eq_false h3]) ?_
 refine go 12 ?_
 exact bHe (s':=(RSt A B rw P l (k) (b) (0) (ns) (dp))) rfl sb1 ⟨rfl,rfl⟩
theorem bFv(A B:List Box)(rw:List bA)(P:Nat)(l:List Tok)(k b e ns dp:Nat)(sg:ByteArray)(hk:k<l.length):aL prog 61 [pP P,.c (.val (.string sg))] [P] (RSt A B rw P l k b e ns dp) fun t s=>t=.c (.val (.bool (decide (e=0) && fT l k sg))) /\ s=RSt A B rw P l k b e ns dp:=by
 unfold fT
 rw [bG hk]
 by_cases he:e=0
 ·subst he
  by_cases h4:l[k].kind=4
  ·by_cases ht:l[k].text=sg
   ·simpa [h4,ht] using bFs A B rw P l k b ns dp sg hk h4 ht
   simpa [h4,ht] using bFu A B rw P l k b ns dp sg hk h4 ht
  by_cases h3:l[k].kind=3
  ·by_cases ht:l[k].text=sg
   ·simpa [h3,ht] using bFt A B rw P l k b ns dp sg hk h4 h3 ht
   simpa [h3,ht] using bFw A B rw P l k b ns dp sg hk h4 h3 ht
  simpa [h4,h3] using bFy A B rw P l k b ns dp sg hk h4 h3
 simpa [he] using bFx A B rw P l k b ns dp e sg hk he
theorem bEp{l:List Tok}(h:TOk l){k:Nat}(hk:k<l.length){s:List UInt8}(hr:dA (bytes s)=false):fT l k (bytes s)=cS l k s:=by
 unfold fT cS
 rw [bG hk]
 have h1:=h.reg _ (getElem_mem hk)
 by_cases ht:l[k].text=bytes s
 ·by_cases h3:l[k].kind=3
  ·have:=h1.1 h3;rw [ht,hr] at this;cases this
  simp [ht,h3]
 simp [ht]
theorem bE6{l:List Tok}(h:TOk l){k:Nat}(hk:k<l.length){s:List UInt8}(hr:dA (bytes s)=true):fT l k (bytes s)=dN l k s:=by
 unfold fT dN
 rw [bG hk]
 have h1:=h.reg _ (getElem_mem hk)
 by_cases ht:l[k].text=bytes s
 ·by_cases h4:l[k].kind=4
  ·have:=h1.2.1 h4;rw [ht,hr] at this;cases this
  simp [ht,h4]
 simp [ht]
theorem bE8{l:List Tok}(h:TOk l){k:Nat}(hk:k<l.length){s:ByteArray}(ha:fT l k s=true):k+1<l.length:=by
 refine h.last.more hk fun h5=>?_
 unfold fT at ha
 rw [h5] at ha;simp at ha
theorem bEu(A B:List Box)(rw:List bA)(P:Nat)(l:List Tok)(k b e ns dp:Nat)(sg:ByteArray)(hok:TOk l)(hk:k<l.length):aL prog 63 [pP P,.c (.val (.string sg))] [P] (RSt A B rw P l k b e ns dp) fun t s=>(e=0 /\ fT l k sg=true /\ k+1<l.length /\ t=.c (.val (.bool true)) /\ s=RSt A B rw P l (k+1) b 0 ns dp)∨(¬(e=0 /\ fT l k sg=true) /\ t=.c (.val (.bool false)) /\ s=RSt A B rw P l k b e ns dp):=by
 have hlen:=hok.len
 refine acB func63 rfl ?_
 show AWp prog _ ⟨16,[P],⟨A++⟨P,117,[.sl l.length (l.flatMap aW),nC k,nC b,nC e,nC ns,nC dp]⟩::B,rw⟩,[(0,pP P),(1,.c (.val (.string sg)))]⟩ _
 refine go 10 ?_
 refine wcQ rfl call61 rfl (bFv (A) _ _ _ l k b e ns dp _ hk) ?_
 rintro t1 s1 ⟨rfl,rfl⟩
 refine wyz rfl (lF  rfl rfl) ?_
 refine go 2 ?_
 refine gY rfl (fun hc2=>?_) (fun hc2=>?_)
 ·refine go 7 ?_
  exact bHe (s':=(RSt A B rw P l (k) (b) (e) (ns) (dp))) rfl sb0 (.inr ⟨fun h=>by simp [h.1,h.2] at hc2,rfl,rfl⟩)
 obtain ⟨rfl,ha⟩:e=0 /\ fT l k sg=true:=by simpa using hc2
 have hm:=bE8 hok hk ha
 refine go 8 ?_
 refine wad rfl ?_
 refine go 11 ?_
 exact bHe (s':=(RSt A B rw P l (k+1) (b) (0) (ns) (dp))) rfl sb0 (.inl ⟨rfl,ha,hm,rfl,rfl⟩)
theorem bD5(A B:List Box)(rw:List bA)(P:Nat)(l:List Tok)(k b e ns dp:Nat)(sg:List UInt8)(hr:dA (bytes sg)=false)(hok:TOk l)(hk:k<l.length):aL prog 63 [pP P,.c (.val (.string (bytes sg)))] [P] (RSt A B rw P l k b e ns dp) fun t s=>(e=0 /\ cS l k sg=true /\ k+1<l.length /\ t=.c (.val (.bool true)) /\ s=RSt A B rw P l (k+1) b 0 ns dp)∨((e=0 -> cS l k sg=false) /\ t=.c (.val (.bool false)) /\ s=RSt A B rw P l k b e ns dp):=by
 refine (bEu A B rw P l k b e ns dp (bytes sg) hok hk).mono fun t s h=>?_
 rw [bEp hok hk hr] at h
 refine h.imp id fun ⟨h1,h2⟩=>⟨fun h0=>?_,h2⟩
 cases hs:cS l k sg with
 |false=>rfl
 |true=>exact absurd ⟨h0,hs⟩ h1
theorem bD2(A B:List Box)(rw:List bA)(P:Nat)(l:List Tok)(k b e ns dp:Nat)(sg:List UInt8)(hr:dA (bytes sg)=true)(hok:TOk l)(hk:k<l.length):aL prog 63 [pP P,.c (.val (.string (bytes sg)))] [P] (RSt A B rw P l k b e ns dp) fun t s=>(e=0 /\ dN l k sg=true /\ k+1<l.length /\ t=.c (.val (.bool true)) /\ s=RSt A B rw P l (k+1) b 0 ns dp)∨((e=0 -> dN l k sg=false) /\ t=.c (.val (.bool false)) /\ s=RSt A B rw P l k b e ns dp):=by
 refine (bEu A B rw P l k b e ns dp (bytes sg) hok hk).mono fun t s h=>?_
 rw [bE6 hok hk hr] at h
 refine h.imp id fun ⟨h1,h2⟩=>⟨fun h0=>?_,h2⟩
 cases hs:dN l k sg with
 |false=>rfl
 |true=>exact absurd ⟨h0,hs⟩ h1
def aC7(e b k x b1 e1:Nat):Prop:=(e=0 -> k=b1 /\ x=e1) /\ (e≠0 -> b=b1 /\ e=e1)
theorem bEa(A B:List Box)(rw:List bA)(P:Nat)(l:List Tok)(k b e ns dp:Nat)(x:Nat):aL prog 62 [pP P,.c (.val (.int .i64 (x:Int)))] [P] (RSt A B rw P l k b e ns dp) fun t s=>∃b1 e1,aC7 e b k x b1 e1 /\ t=.tup [] /\ s=RSt A B rw P l k b1 e1 ns dp:=by
 by_cases he:e=0
 ·subst he
  exact (bFr A B rw P l k b ns dp x).mono fun t s h=>⟨k,x,⟨fun _=>⟨rfl,rfl⟩,fun h=>absurd rfl h⟩,h⟩
 exact (bFo A B rw P l k b ns dp x e he).mono fun t s h=>⟨b,e,⟨fun h=>absurd h he,fun _=>⟨rfl,rfl⟩⟩,h⟩
theorem aC7.run{α:Type}{e b k x b1 e1:Nat}{r:bN α}(h:aC7 e b k x b1 e1)(hx:x≠0)(hr:e=0 -> r=.err k x)(y:α)(k1:Nat):kX e b r y k1 b1 e1:=by
 by_cases he:e=0
 ·obtain ⟨rfl,rfl⟩:=h.1 he
  subst he
  exact .err _ _ _ _ _ (hr rfl) hx
 obtain ⟨rfl,rfl⟩:=h.2 he
 exact .skip he _ _ _
theorem aC7.small{e b k x b1 e1:Nat}(h:aC7 e b k x b1 e1)(he:e<16)(hx:x<16):e1<16:=by
 by_cases h0:e=0
 ·rw [←(h.1 h0).2];exact hx
 rw [←(h.2 h0).2];exact he
theorem fN(A B:List Box)(rw:List bA)(P:Nat)(l:List Tok)(k b e ns dp:Nat)(sg:List UInt8)(hr:dA (bytes sg)=false)(hok:TOk l)(hk:k<l.length)(he:e<16):aL prog 100 [pP P,.c (.val (.string (bytes sg)))] [P] (RSt A B rw P l k b e ns dp) fun t s=>RAn A B rw P l ns dp (fun _=>.tup []) e b (fD l sg k) t s:=by
 refine acB func100 rfl ?_
 show AWp prog _ ⟨10,[P],⟨A++⟨P,117,[.sl l.length (l.flatMap aW),nC k,nC b,nC e,nC ns,nC dp]⟩::B,rw⟩,[(0,pP P),(1,.c (.val (.string (bytes sg))))]⟩ _
 refine go 4 ?_
 refine wcQ rfl call63 rfl (bD5 (A) _ _ _ l k b e ns dp sg hr hok hk) ?_
 rintro t1 s1 (⟨rfl,ha1,hm1,rfl,rfl⟩|⟨ha1,rfl,rfl⟩)
 ·refine go 5 ?_
  exact ⟨.inl rfl,_,(RSt A B rw P l (k+1) (b) (0) (ns) (dp)),cH rfl,aA (.refl _) (.refl _),⟨(),k+1,b,0,rfl,.ok _ _ _ (by unfold fD;rw [if_pos ha1]),hm1,by decide,rfl⟩⟩
 refine go 6 ?_
 refine wcQ rfl call62 rfl (bEa (A) _ _ _ l k b e ns dp 4) ?_
 rintro t4 s4 ⟨b4x,e4x,hf4,rfl,rfl⟩
 refine go 1 ?_
 exact ⟨.inl rfl,_,(RSt A B rw P l (k) (b4x) (e4x) (ns) (dp)),cH rfl,aA (.refl _) (.refl _),⟨(),k,b4x,e4x,rfl,hf4.run (by decide) (fun h=>by unfold fD;rw [if_neg (by rw [ha1 h];decide)]) _ _,hk,(hf4.small he (by decide)),rfl⟩⟩
theorem bFp(A B:List Box)(rw:List bA)(P:Nat)(l:List Tok)(k b ns dp kk e:Nat)(hk:k<l.length)(he0:e≠0):aL prog 60 [pP P,.c (.val (.int .i64 (kk:Int)))] [P] (RSt A B rw P l k b e ns dp) fun t s=>t=.c (.val (.bool false)) /\ s=RSt A B rw P l k b e ns dp:=by
 refine acB func60 rfl ?_
 show AWp prog _ ⟨25,[P],⟨A++⟨P,117,[.sl l.length (l.flatMap aW),nC k,nC b,nC e,nC ns,nC dp]⟩::B,rw⟩,[(0,pP P),(1,.c (.val (.int .i64 (kk:Int))))]⟩ _
 refine go 6 ?_
 refine aB [P] (by kernel_rfl) ?_
 refine tks [(0,true),(1,true),(2,true),(3,true)] 17 (by kernel_rfl) ?_
 refine go 5 ?_
 refine tr 4 (by kernel_rfl) rfl (bO false rfl rfl rfl (lA he0)) ?_
 refine tks [(5,true),(6,true),(7,true),(8,true),(9,true),(10,true),(11,true),(12,true),(13,true),(14,true),(15,true),(16,true),(17,true),(18,true),(19,true),(20,true)] 0 (by kernel_rfl) ?_
 refine go 17 ?_
 refine aE (by kernel_rfl) ?_
 refine go 2 ?_
 exact bHe (s':=(RSt A B rw P l (k) (b) (e) (ns) (dp))) rfl sb0 ⟨rfl,rfl⟩
theorem bFq(A B:List Box)(rw:List bA)(P:Nat)(l:List Tok)(k b ns dp kk:Nat)(hk:k<l.length):aL prog 60 [pP P,.c (.val (.int .i64 (kk:Int)))] [P] (RSt A B rw P l k b 0 ns dp) fun t s=>t=.c (.val (.bool (decide (l[k].kind=kk)))) /\ s=RSt A B rw P l k b 0 ns dp:=by
 refine acB func60 rfl ?_
 show AWp prog _ ⟨25,[P],⟨A++⟨P,117,[.sl l.length (l.flatMap aW),nC k,nC b,nC 0,nC ns,nC dp]⟩::B,rw⟩,[(0,pP P),(1,.c (.val (.int .i64 (kk:Int))))]⟩ _
 refine go 6 ?_
 refine aB [P] (by kernel_rfl) ?_
 refine tks [(0,true),(1,true),(2,true),(3,true)] 17 (by kernel_rfl) ?_
 refine go 5 ?_
 refine tr 4 (by kernel_rfl) rfl (bO true rfl rfl rfl (by rfl)) ?_
 refine tks [(5,true),(6,true),(7,true),(8,true),(9,true),(10,true),(11,true),(12,true),(13,true)] 7 (by kernel_rfl) ?_
 refine go 10 ?_
 refine tr 14 (by kernel_rfl) rfl (bH aW aW l bJ (fun _=>rfl) (k) rfl rfl rfl rfl hk (by decide) runUnderlying51 sizeOf99) ?_
 refine tks [(15,true),(16,true),(17,true)] 3 (by kernel_rfl) ?_
 refine go 4 ?_
 refine tr 18 (by kernel_rfl) rfl (bO (decide (l[k].kind=kk)) rfl rfl rfl jS) ?_
 refine tks [(19,true),(20,true)] 0 (by kernel_rfl) ?_
 refine go 3 ?_
 refine aE (by kernel_rfl) ?_
 refine go 2 ?_
 exact bHe (s':=(RSt A B rw P l (k) (b) (0) (ns) (dp))) rfl sb0 ⟨rfl,rfl⟩
theorem bFb(A B:List Box)(rw:List bA)(P:Nat)(l:List Tok)(k b e ns dp:Nat)(kk:Nat)(hk:k<l.length):aL prog 60 [pP P,.c (.val (.int .i64 (kk:Int)))] [P] (RSt A B rw P l k b e ns dp) fun t s=>t=.c (.val (.bool (decide (e=0) && decide ((bU l k).kind=kk)))) /\ s=RSt A B rw P l k b e ns dp:=by
 rw [bG hk]
 by_cases he:e=0
 ·subst he;simpa using bFq A B rw P l k b ns dp kk hk
 simpa [he] using bFp A B rw P l k b ns dp kk e hk he
theorem bEb(A B:List Box)(rw:List bA)(P:Nat)(l:List Tok)(k b e ns dp:Nat)(hok:TOk l)(hk:k<l.length)(he:e<16):aL prog 66 [pP P] [P] (RSt A B rw P l k b e ns dp) fun t s=>RAn A B rw P l ns dp (fun x=>.c (.val (.string x))) e b (jW l k) t s:=by
 have hlen:=hok.len
 refine acB func66 rfl ?_
 show AWp prog _ ⟨27,[P],⟨A++⟨P,117,[.sl l.length (l.flatMap aW),nC k,nC b,nC e,nC ns,nC dp]⟩::B,rw⟩,[(0,pP P)]⟩ _
 refine go 9 ?_
 refine wcQ rfl call60 rfl (bFb (A) _ _ _ l k b e ns dp 1 hk) ?_
 rintro t1 s1 ⟨rfl,rfl⟩
 refine wyz rfl (lF  rfl rfl) ?_
 refine go 2 ?_
 refine gY rfl (fun hc2=>?_) (fun hc2=>?_)
 ·refine go 3 ?_
  refine wcQ rfl call62 rfl (bEa (A) _ _ _ l k b e ns dp 4) ?_
  rintro t3 s3 ⟨b3x,e3x,hf3,rfl,rfl⟩
  refine go 9 ?_
  exact bHe (s':=(RSt A B rw P l (k) (b3x) (e3x) (ns) (dp))) rfl sb0 ⟨aK,k,b3x,e3x,rfl,hf3.run (by decide) (fun h=>by unfold jW;rw [if_neg (fun h2=>by simp [h,h2] at hc2)]) _ _,hk,(hf3.small he (by decide)),rfl⟩
 obtain ⟨rfl,ha⟩:e=0 /\ (bU l k).kind=1:=by simpa using hc2
 have hm:=hok.last.more hk (by omega)
 refine go 8 ?_
 refine wad rfl ?_
 refine go 6 ?_
 refine aB [P] (by kernel_rfl) ?_
 refine tks [(0,true),(1,true),(2,true),(3,true),(4,true),(5,true),(6,true),(7,true)] 5 (by kernel_rfl) ?_
 refine go 9 ?_
 refine tr 8 (by kernel_rfl) rfl (qC rfl rfl rfl (by omega) (by omega)) ?_
 refine tr 9 (by kernel_rfl) rfl (bH aW aW l bJ (fun _=>rfl) k rfl rfl rfl (by omega) hk (by decide) runUnderlying51 sizeOf99) ?_
 refine tks [(10,true),(11,true),(12,true)] 0 (by kernel_rfl) ?_
 refine go 4 ?_
 refine aE (by kernel_rfl) ?_
 refine go 2 ?_
 exact bHe (s':=(RSt A B rw P l (k+1) (b) (0) (ns) (dp))) rfl sb0 ⟨_,k+1,b,0,rfl,.ok _ _ _ (by unfold jW;rw [if_pos ha,bG hk]),hm,by decide,rfl⟩
end
section
open Go.RowKit
theorem gJ{s:ByteArray}{l:List UInt8}(h:s=bytes l):(s.toList == l)=true:=by subst h;rw [ByteArray.toList_eq];simp [bytes]
theorem fI{s:ByteArray}{l:List UInt8}(h:s≠bytes l):(s.toList == l)=false:=by
 rw [beq_eq_false_iff_ne,ByteArray.toList_eq];intro e;apply h;apply sI;rw [e];simp [bytes]
theorem aDq(s:ByteArray)(w:World):Calls prog 239 #[.string s] w fun e w'=>e=.returned (.tuple #[.int .i64 (binOp s).1,.int .i64 (binOp s).2]) /\ w=w':=by
 go_enter func239,Tryz.ntmps239
 by_cases h0:s=bytes [124,124]
 ·have g0:(s.toList == [124,124])=true:=gJ h0
  have hb:binOp s=(17,1):=by rw [binOp,if_pos h0]
  rw [hb]
  clear hb h0
  go_wp2_with fail
  refine bodyPost_ret (v:=.tuple #[.int .i64 17,.int .i64 1]) (by simp [results,Tryz.results239,go_sem]) rfl ?_
  exact ⟨rfl,rfl⟩
 have g0:(s.toList == [124,124])=false:=fI h0
 by_cases h1:s=bytes [38,38]
 ·have g1:(s.toList == [38,38])=true:=gJ h1
  have hb:binOp s=(16,2):=by rw [binOp,if_neg h0,if_pos h1]
  rw [hb]
  clear hb h0 h1
  go_wp2_with fail
  refine bodyPost_ret (v:=.tuple #[.int .i64 16,.int .i64 2]) (by simp [results,Tryz.results239,go_sem]) rfl ?_
  exact ⟨rfl,rfl⟩
 have g1:(s.toList == [38,38])=false:=fI h1
 by_cases h2:s=bytes [61,61]
 ·have g2:(s.toList == [61,61])=true:=gJ h2
  have hb:binOp s=(14,3):=by rw [binOp,if_neg h0,if_neg h1,if_pos h2]
  rw [hb]
  clear hb h0 h1 h2
  go_wp2_with fail
  refine bodyPost_ret (v:=.tuple #[.int .i64 14,.int .i64 3]) (by simp [results,Tryz.results239,go_sem]) rfl ?_
  exact ⟨rfl,rfl⟩
 have g2:(s.toList == [61,61])=false:=fI h2
 by_cases h3:s=bytes [33,61]
 ·have g3:(s.toList == [33,61])=true:=gJ h3
  have hb:binOp s=(15,3):=by rw [binOp,if_neg h0,if_neg h1,if_neg h2,if_pos h3]
  rw [hb]
  clear hb h0 h1 h2 h3
  go_wp2_with fail
  refine bodyPost_ret (v:=.tuple #[.int .i64 15,.int .i64 3]) (by simp [results,Tryz.results239,go_sem]) rfl ?_
  exact ⟨rfl,rfl⟩
 have g3:(s.toList == [33,61])=false:=fI h3
 by_cases h4:s=bytes [60]
 ·have g4:(s.toList == [60])=true:=gJ h4
  have hb:binOp s=(10,3):=by rw [binOp,if_neg h0,if_neg h1,if_neg h2,if_neg h3,if_pos h4]
  rw [hb]
  clear hb h0 h1 h2 h3 h4
  go_wp2_with fail
  refine bodyPost_ret (v:=.tuple #[.int .i64 10,.int .i64 3]) (by simp [results,Tryz.results239,go_sem]) rfl ?_
  exact ⟨rfl,rfl⟩
 have g4:(s.toList == [60])=false:=fI h4
 by_cases h5:s=bytes [60,61]
 ·have g5:(s.toList == [60,61])=true:=gJ h5
  have hb:binOp s=(11,3):=by rw [binOp,if_neg h0,if_neg h1,if_neg h2,if_neg h3,if_neg h4,if_pos h5]
  rw [hb]
  clear hb h0 h1 h2 h3 h4 h5
  go_wp2_with fail
  refine bodyPost_ret (v:=.tuple #[.int .i64 11,.int .i64 3]) (by simp [results,Tryz.results239,go_sem]) rfl ?_
  exact ⟨rfl,rfl⟩
 have g5:(s.toList == [60,61])=false:=fI h5
 by_cases h6:s=bytes [62]
 ·have g6:(s.toList == [62])=true:=gJ h6
  have hb:binOp s=(12,3):=by rw [binOp,if_neg h0,if_neg h1,if_neg h2,if_neg h3,if_neg h4,if_neg h5,if_pos h6]
  rw [hb]
  clear hb h0 h1 h2 h3 h4 h5 h6
  go_wp2_with fail
  refine bodyPost_ret (v:=.tuple #[.int .i64 12,.int .i64 3]) (by simp [results,Tryz.results239,go_sem]) rfl ?_
  exact ⟨rfl,rfl⟩
 have g6:(s.toList == [62])=false:=fI h6
 by_cases h7:s=bytes [62,61]
 ·have g7:(s.toList == [62,61])=true:=gJ h7
  have hb:binOp s=(13,3):=by rw [binOp,if_neg h0,if_neg h1,if_neg h2,if_neg h3,if_neg h4,if_neg h5,if_neg h6,if_pos h7]
  rw [hb]
  clear hb h0 h1 h2 h3 h4 h5 h6 h7
  go_wp2_with fail
  refine bodyPost_ret (v:=.tuple #[.int .i64 13,.int .i64 3]) (by simp [results,Tryz.results239,go_sem]) rfl ?_
  exact ⟨rfl,rfl⟩
 have g7:(s.toList == [62,61])=false:=fI h7
 by_cases h8:s=bytes [43]
 ·have g8:(s.toList == [43])=true:=gJ h8
  have hb:binOp s=(8,4):=by rw [binOp,if_neg h0,if_neg h1,if_neg h2,if_neg h3,if_neg h4,if_neg h5,if_neg h6,if_neg h7,if_pos h8]
  rw [hb]
  clear hb h0 h1 h2 h3 h4 h5 h6 h7 h8
  go_wp2_with fail
  refine bodyPost_ret (v:=.tuple #[.int .i64 8,.int .i64 4]) (by simp [results,Tryz.results239,go_sem]) rfl ?_
  exact ⟨rfl,rfl⟩
 have g8:(s.toList == [43])=false:=fI h8
 by_cases h9:s=bytes [45]
 ·have g9:(s.toList == [45])=true:=gJ h9
  have hb:binOp s=(9,4):=by rw [binOp,if_neg h0,if_neg h1,if_neg h2,if_neg h3,if_neg h4,if_neg h5,if_neg h6,if_neg h7,if_neg h8,if_pos h9]
  rw [hb]
  clear hb h0 h1 h2 h3 h4 h5 h6 h7 h8 h9
  go_wp2_with fail
  refine bodyPost_ret (v:=.tuple #[.int .i64 9,.int .i64 4]) (by simp [results,Tryz.results239,go_sem]) rfl ?_
  exact ⟨rfl,rfl⟩
 have g9:(s.toList == [45])=false:=fI h9
 by_cases h10:s=bytes [42]
 ·have g10:(s.toList == [42])=true:=gJ h10
  have hb:binOp s=(5,5):=by rw [binOp,if_neg h0,if_neg h1,if_neg h2,if_neg h3,if_neg h4,if_neg h5,if_neg h6,if_neg h7,if_neg h8,if_neg h9,if_pos h10]
  rw [hb]
  clear hb h0 h1 h2 h3 h4 h5 h6 h7 h8 h9 h10
  go_wp2_with fail
  refine bodyPost_ret (v:=.tuple #[.int .i64 5,.int .i64 5]) (by simp [results,Tryz.results239,go_sem]) rfl ?_
  exact ⟨rfl,rfl⟩
 have g10:(s.toList == [42])=false:=fI h10
 by_cases h11:s=bytes [47]
 ·have g11:(s.toList == [47])=true:=gJ h11
  have hb:binOp s=(6,5):=by rw [binOp,if_neg h0,if_neg h1,if_neg h2,if_neg h3,if_neg h4,if_neg h5,if_neg h6,if_neg h7,if_neg h8,if_neg h9,if_neg h10,if_pos h11]
  rw [hb]
  clear hb h0 h1 h2 h3 h4 h5 h6 h7 h8 h9 h10 h11
  go_wp2_with fail
  refine bodyPost_ret (v:=.tuple #[.int .i64 6,.int .i64 5]) (by simp [results,Tryz.results239,go_sem]) rfl ?_
  exact ⟨rfl,rfl⟩
 have g11:(s.toList == [47])=false:=fI h11
 by_cases h12:s=bytes [37]
 ·have g12:(s.toList == [37])=true:=gJ h12
  have hb:binOp s=(7,5):=by rw [binOp,if_neg h0,if_neg h1,if_neg h2,if_neg h3,if_neg h4,if_neg h5,if_neg h6,if_neg h7,if_neg h8,if_neg h9,if_neg h10,if_neg h11,if_pos h12]
  rw [hb]
  clear hb h0 h1 h2 h3 h4 h5 h6 h7 h8 h9 h10 h11 h12
  go_wp2_with fail
  refine bodyPost_ret (v:=.tuple #[.int .i64 7,.int .i64 5]) (by simp [results,Tryz.results239,go_sem]) rfl ?_
  exact ⟨rfl,rfl⟩
 have g12:(s.toList == [37])=false:=fI h12
 have hb:binOp s=(0,0):=by rw [binOp,if_neg h0,if_neg h1,if_neg h2,if_neg h3,if_neg h4,if_neg h5,if_neg h6,if_neg h7,if_neg h8,if_neg h9,if_neg h10,if_neg h11,if_neg h12]
 rw [hb]
 clear hb h0 h1 h2 h3 h4 h5 h6 h7 h8 h9 h10 h11 h12
 go_wp2_with fail
 refine bodyPost_ret (v:=.tuple #[.int .i64 0,.int .i64 0]) (by simp [results,Tryz.results239,go_sem]) rfl ?_
 exact ⟨rfl,rfl⟩
end
end Go.Proofs.YtlmpchoaebhhmaaGreatDoor
