import Derived.Test.YtjgeihmhppadaaaGreatDoorG23J
set_option linter.all false
set_option synthInstance.maxHeartbeats 1000000
set_option synthInstance.maxSize 1000000
set_option maxHeartbeats 1600000
set_option maxRecDepth 100000
namespace Go.Proofs.YtjgeihmhppadaaaGreatDoor
open Go.Proofs.Tryz
open List (length_append length_cons length_nil mem_append mem_cons not_mem_nil append_assoc getElem_mem take_of_length_le)
section
open Go.RowKit
abbrev RSt(A B:List Box)(rw:List bA)(P:Nat)(l:List Tok)(k b e ns dp:Nat):Sto:=⟨A++⟨P,144,[Sq aW l,Vi (k:Int),Vi (b:Int),Vi (e:Int),Vi (ns:Int),Vi (dp:Int)]⟩::B,rw⟩
def RAn{α:Type}(A B:List Box)(rw:List bA)(P:Nat)(l:List Tok)(ns dp:Nat)(enc:α -> AT)(e b:Nat)(r:bN α)(t:AT)(s:Sto):Prop:=
 ∃x k1 b1 e1,t=enc x /\ kX e b r x k1 b1 e1 /\ k1<l.length /\ e1<16 /\ s=RSt A B rw P l k1 b1 e1 ns dp
theorem bFr(A B:List Box)(rw:List bA)(P:Nat)(l:List Tok)(k b ns dp x:Nat):aL prog 61 [pP P,Ci (x:Int)] [P] (RSt A B rw P l k b 0 ns dp) λt s=>t=.tup [] /\ s=RSt A B rw P l k k x ns dp:=by
 refine acX 20 func61 ?_
 refine go 6 ?_
 refine wcp true Y Fs (go 18 ?_)
 exact ⟨.inl Y,_,(RSt A B rw P l (k) (k) (x) (ns) (dp)),cH Y,aA (.refl _) (.refl _),Y,Y⟩
theorem bFo(A B:List Box)(rw:List bA)(P:Nat)(l:List Tok)(k b ns dp x e:Nat)(he0:e≠0):aL prog 61 [pP P,Ci (x:Int)] [P] (RSt A B rw P l k b e ns dp) λt s=>t=.tup [] /\ s=RSt A B rw P l k b e ns dp:=by
 refine acX 20 func61 ?_
 refine go 6 ?_
 refine wcp false Y (lA he0) (go 4 ?_)
 exact ⟨.inl Y,_,(RSt A B rw P l (k) (b) (e) (ns) (dp)),cH Y,aA (.refl _) (.refl _),Y,Y⟩
theorem bFx(A B:List Box)(rw:List bA)(P:Nat)(l:List Tok)(k b ns dp e:Nat)(sg:ByteArray)(hk:k<l.length)(he0:e≠0):aL prog 60 [pP P,Cs sg] [P] (RSt A B rw P l k b e ns dp) λt s=>t=Cb false /\ s=RSt A B rw P l k b e ns dp:=by
 refine acX 37 func60 ?_
 refine go 6 ?_
 refine dx [P] (tz [(0,true),(1,true),(2,true),(3,true),(4,true),(5,true),(6,true),(7,true)] 4 (go 9 ?_))
 refine tx 8 Y (bH aW aW l bJ (λ_=>Y) (k) Y Y Y Y hk V runUnderlying139 sizeOf154) (tz [(9,true),(10,false),(11,false)] 0 (go 4 λb1=>?_))
 refine ax (go 7 ?_)
 refine wcp false Y (lA he0) (go 20 ?_)
 exact bHe (s':=(RSt A B rw P l (k) (b) (e) (ns) (dp))) Y sb1 ⟨Y,Y⟩
theorem bFs(A B:List Box)(rw:List bA)(P:Nat)(l:List Tok)(k b ns dp:Nat)(sg:ByteArray)(hk:k<l.length)(h4:l[k].kind=4)(ht:l[k].text=sg):aL prog 60 [pP P,Cs sg] [P] (RSt A B rw P l k b 0 ns dp) λt s=>t=Cb true /\ s=RSt A B rw P l k b 0 ns dp:=by
 refine acX 37 func60 ?_
 refine go 6 ?_
 refine dx [P] (tz [(0,true),(1,true),(2,true),(3,true),(4,true),(5,true),(6,true),(7,true)] 4 (go 9 ?_))
 refine tx 8 Y (bH aW aW l bJ (λ_=>Y) (k) Y Y Y Y hk V runUnderlying139 sizeOf154) (tz [(9,true),(10,false),(11,false)] 0 (go 4 λb1=>?_))
 refine ax (go 7 ?_)
 refine wcp true Y Fs (go 3 ?_)
 refine wcp true Y (by rw [h4];rfl) (go 10 ?_)
 refine wyz Y (aZ true Y Y Y (by rw [ht];simp [oM])) (go 5 ?_)
 exact bHe (s':=(RSt A B rw P l (k) (b) (0) (ns) (dp))) Y sb1 ⟨Y,Y⟩
theorem bFu(A B:List Box)(rw:List bA)(P:Nat)(l:List Tok)(k b ns dp:Nat)(sg:ByteArray)(hk:k<l.length)(h4:l[k].kind=4)(ht:¬l[k].text=sg):aL prog 60 [pP P,Cs sg] [P] (RSt A B rw P l k b 0 ns dp) λt s=>t=Cb false /\ s=RSt A B rw P l k b 0 ns dp:=by
 refine acX 37 func60 ?_
 refine go 6 ?_
 refine dx [P] (tz [(0,true),(1,true),(2,true),(3,true),(4,true),(5,true),(6,true),(7,true)] 4 (go 9 ?_))
 refine tx 8 Y (bH aW aW l bJ (λ_=>Y) (k) Y Y Y Y hk V runUnderlying139 sizeOf154) (tz [(9,true),(10,false),(11,false)] 0 (go 4 λb1=>?_))
 refine ax (go 7 ?_)
 refine wcp true Y Fs (go 3 ?_)
 refine wcp true Y (by rw [h4];rfl) (go 10 ?_)
 refine wyz Y (aZ false Y Y Y (by simp [oM,ht])) (go 5 ?_)
 exact bHe (s':=(RSt A B rw P l (k) (b) (0) (ns) (dp))) Y sb1 ⟨Y,Y⟩
theorem bFt(A B:List Box)(rw:List bA)(P:Nat)(l:List Tok)(k b ns dp:Nat)(sg:ByteArray)(hk:k<l.length)(h4:¬l[k].kind=4)(h3:l[k].kind=3)(ht:l[k].text=sg):aL prog 60 [pP P,Cs sg] [P] (RSt A B rw P l k b 0 ns dp) λt s=>t=Cb true /\ s=RSt A B rw P l k b 0 ns dp:=by
 refine acX 37 func60 ?_
 refine go 6 ?_
 refine dx [P] (tz [(0,true),(1,true),(2,true),(3,true),(4,true),(5,true),(6,true),(7,true)] 4 (go 9 ?_))
 refine tx 8 Y (bH aW aW l bJ (λ_=>Y) (k) Y Y Y Y hk V runUnderlying139 sizeOf154) (tz [(9,true),(10,false),(11,false)] 0 (go 4 λb1=>?_))
 refine ax (go 7 ?_)
 refine wcp true Y Fs (go 3 ?_)
 refine wcp false Y A4 (go 3 ?_)
 refine wcp true Y (by rw [h3];rfl) (go 6 ?_)
 refine wyz Y (aZ true Y Y Y (by rw [ht];simp [oM])) (go 5 ?_)
 exact bHe (s':=(RSt A B rw P l (k) (b) (0) (ns) (dp))) Y sb1 ⟨Y,Y⟩
theorem bFw(A B:List Box)(rw:List bA)(P:Nat)(l:List Tok)(k b ns dp:Nat)(sg:ByteArray)(hk:k<l.length)(h4:¬l[k].kind=4)(h3:l[k].kind=3)(ht:¬l[k].text=sg):aL prog 60 [pP P,Cs sg] [P] (RSt A B rw P l k b 0 ns dp) λt s=>t=Cb false /\ s=RSt A B rw P l k b 0 ns dp:=by
 refine acX 37 func60 ?_
 refine go 6 ?_
 refine dx [P] (tz [(0,true),(1,true),(2,true),(3,true),(4,true),(5,true),(6,true),(7,true)] 4 (go 9 ?_))
 refine tx 8 Y (bH aW aW l bJ (λ_=>Y) (k) Y Y Y Y hk V runUnderlying139 sizeOf154) (tz [(9,true),(10,false),(11,false)] 0 (go 4 λb1=>?_))
 refine ax (go 7 ?_)
 refine wcp true Y Fs (go 3 ?_)
 refine wcp false Y A4 (go 3 ?_)
 refine wcp true Y (by rw [h3];rfl) (go 6 ?_)
 refine wyz Y (aZ false Y Y Y (by simp [oM,ht])) (go 5 ?_)
 exact bHe (s':=(RSt A B rw P l (k) (b) (0) (ns) (dp))) Y sb1 ⟨Y,Y⟩
theorem bFy(A B:List Box)(rw:List bA)(P:Nat)(l:List Tok)(k b ns dp:Nat)(sg:ByteArray)(hk:k<l.length)(h4:¬l[k].kind=4)(h3:¬l[k].kind=3):aL prog 60 [pP P,Cs sg] [P] (RSt A B rw P l k b 0 ns dp) λt s=>t=Cb false /\ s=RSt A B rw P l k b 0 ns dp:=by
 refine acX 37 func60 ?_
 refine go 6 ?_
 refine dx [P] (tz [(0,true),(1,true),(2,true),(3,true),(4,true),(5,true),(6,true),(7,true)] 4 (go 9 ?_))
 refine tx 8 Y (bH aW aW l bJ (λ_=>Y) (k) Y Y Y Y hk V runUnderlying139 sizeOf154) (tz [(9,true),(10,false),(11,false)] 0 (go 4 λb1=>?_))
 refine ax (go 7 ?_)
 refine wcp true Y Fs (go 3 ?_)
 refine wcp false Y A4 (go 3 ?_)
 refine wcp false Y (by rw [show bC .eql ((l[k].kind:Nat):Int) 3=some (decide (l[k].kind=3)) from jS (n:=3),decide_eq_false h3]) (go 12 ?_)
 exact bHe (s':=(RSt A B rw P l (k) (b) (0) (ns) (dp))) Y sb1 ⟨Y,Y⟩
theorem bFv(A B:List Box)(rw:List bA)(P:Nat)(l:List Tok)(k b e ns dp:Nat)(sg:ByteArray)(hk:k<l.length):aL prog 60 [pP P,Cs sg] [P] (RSt A B rw P l k b e ns dp) λt s=>t=Cb (decide (e=0) && cAf l k sg) /\ s=RSt A B rw P l k b e ns dp:=by
 unfold cAf
 rw [bG hk]
 by_cases he:e=0
 ·subst he
  by_cases h4:l[k].kind=4
  ·by_cases ht:l[k].text=sg
   ·simpa [h4,ht] using bFs A B rw P l k b ns dp sg hk h4 ht
   simpa [h4,ht] using bFu A B rw P l k b ns dp sg hk h4 ht
  by_cases h3:l[k].kind=3
  ·by_cases ht:l[k].text=sg
   ·simpa [h3,ht] using bFt A B rw P l k b ns dp sg hk h4 h3 ht
   simpa [h3,ht] using bFw A B rw P l k b ns dp sg hk h4 h3 ht
  simpa [h4,h3] using bFy A B rw P l k b ns dp sg hk h4 h3
 simpa [he] using bFx A B rw P l k b ns dp e sg hk he
theorem bEu(A B:List Box)(rw:List bA)(P:Nat)(l:List Tok)(k b e ns dp:Nat)(sg:ByteArray)(hok:TOk l)(hk:k<l.length):aL prog 62 [pP P,Cs sg] [P] (RSt A B rw P l k b e ns dp) λt s=>(e=0 /\ cAf l k sg=true /\ k+1<l.length /\ t=Cb true /\ s=RSt A B rw P l (k+1) b 0 ns dp)∨(¬(e=0 /\ cAf l k sg=true) /\ t=Cb false /\ s=RSt A B rw P l k b e ns dp):=by
 have hlen:=hok.len
 refine acX 16 func62 ?_
 refine go 10 ?_
 refine wcQ Y call60 Y (bFv (A) _ _ _ l k b e ns dp _ hk) ?_
 rintro t1 s1 ⟨rfl,rfl⟩
 refine wyz Y (lF  Y Y) (go 2 ?_)
 refine gY Y (λhc2=>?_) (λhc2=>?_)
 ·refine go 7 ?_
  exact bHe (s':=(RSt A B rw P l (k) (b) (e) (ns) (dp))) Y sb0 (.inr ⟨λh=>by simp [h.1,h.2] at hc2,Y,Y⟩)
 obtain ⟨rfl,ha⟩:e=0 /\ cAf l k sg=true:=by simpa using hc2
 have hm:=bE8 hok hk ha
 refine go 8 ?_
 refine wad Y (go 11 ?_)
 exact bHe (s':=(RSt A B rw P l (k+1) (b) (0) (ns) (dp))) Y sb0 (.inl ⟨Y,ha,hm,Y,Y⟩)
theorem bD5(A B:List Box)(rw:List bA)(P:Nat)(l:List Tok)(k b e ns dp:Nat)(sg:List UInt8)(hr:dA (bytes sg)=false)(hok:TOk l)(hk:k<l.length):aL prog 62 [pP P,Cs (bytes sg)] [P] (RSt A B rw P l k b e ns dp) λt s=>(e=0 /\ cS l k sg=true /\ k+1<l.length /\ t=Cb true /\ s=RSt A B rw P l (k+1) b 0 ns dp)∨((e=0 -> cS l k sg=false) /\ t=Cb false /\ s=RSt A B rw P l k b e ns dp):=by
 refine (bEu A B rw P l k b e ns dp (bytes sg) hok hk).mono λt s h=>?_
 rw [bEp hok hk hr] at h
 refine h.imp id λ⟨h1,h2⟩=>⟨λh0=>?_,h2⟩
 cases hs:cS l k sg with
 |false=>rfl
 |true=>exact absurd ⟨h0,hs⟩ h1
theorem bD2(A B:List Box)(rw:List bA)(P:Nat)(l:List Tok)(k b e ns dp:Nat)(sg:List UInt8)(hr:dA (bytes sg)=true)(hok:TOk l)(hk:k<l.length):aL prog 62 [pP P,Cs (bytes sg)] [P] (RSt A B rw P l k b e ns dp) λt s=>(e=0 /\ dN l k sg=true /\ k+1<l.length /\ t=Cb true /\ s=RSt A B rw P l (k+1) b 0 ns dp)∨((e=0 -> dN l k sg=false) /\ t=Cb false /\ s=RSt A B rw P l k b e ns dp):=by
 refine (bEu A B rw P l k b e ns dp (bytes sg) hok hk).mono λt s h=>?_
 rw [bE6 hok hk hr] at h
 refine h.imp id λ⟨h1,h2⟩=>⟨λh0=>?_,h2⟩
 cases hs:dN l k sg with
 |false=>rfl
 |true=>exact absurd ⟨h0,hs⟩ h1
theorem bEa(A B:List Box)(rw:List bA)(P:Nat)(l:List Tok)(k b e ns dp:Nat)(x:Nat):aL prog 61 [pP P,Ci (x:Int)] [P] (RSt A B rw P l k b e ns dp) λt s=>∃b1 e1,aC7 e b k x b1 e1 /\ t=.tup [] /\ s=RSt A B rw P l k b1 e1 ns dp:=by
 by_cases he:e=0
 ·subst he
  exact (bFr A B rw P l k b ns dp x).mono λt s h=>⟨k,x,⟨λ_=>⟨Y,Y⟩,λh=>absurd Y h⟩,h⟩
 exact (bFo A B rw P l k b ns dp x e he).mono λt s h=>⟨b,e,⟨λh=>absurd h he,λ_=>⟨Y,Y⟩⟩,h⟩
theorem bZx(A B:List Box)(rw:List bA)(P:Nat)(l:List Tok)(k b e ns dp:Nat)(sg:List UInt8)(hr:dA (bytes sg)=false)(hok:TOk l)(hk:k<l.length)(he:e<16):aL prog 86 [pP P,Cs (bytes sg)] [P] (RSt A B rw P l k b e ns dp) λt s=>RAn A B rw P l ns dp (λ_=>.tup []) e b (fD l sg k) t s:=by
 refine acX 10 func86 ?_
 refine go 4 ?_
 refine wcQ Y call62 Y (bD5 (A) _ _ _ l k b e ns dp sg hr hok hk) ?_
 rintro t1 s1 (⟨rfl,ha1,hm1,rfl,rfl⟩|⟨ha1,rfl,rfl⟩)
 ·refine go 5 ?_
  exact ⟨.inl Y,_,(RSt A B rw P l (k+1) (b) (0) (ns) (dp)),cH Y,aA (.refl _) (.refl _),⟨(),k+1,b,0,Y,.ok _ _ _ (by unfold fD;rw [if_pos ha1]),hm1,V,Y⟩⟩
 refine go 6 ?_
 refine wcQ Y call61 Y (bEa (A) _ _ _ l k b e ns dp 4) ?_
 rintro t4 s4 ⟨b4x,e4x,hf4,rfl,rfl⟩
 refine go 1 ?_
 exact ⟨.inl Y,_,(RSt A B rw P l (k) (b4x) (e4x) (ns) (dp)),cH Y,aA (.refl _) (.refl _),⟨(),k,b4x,e4x,Y,hf4.run V (λh=>by unfold fD;rw [if_neg (by rw [ha1 h];decide)]) _ _,hk,(hf4.small he V),Y⟩⟩
theorem bFp(A B:List Box)(rw:List bA)(P:Nat)(l:List Tok)(k b ns dp kk e:Nat)(hk:k<l.length)(he0:e≠0):aL prog 59 [pP P,Ci (kk:Int)] [P] (RSt A B rw P l k b e ns dp) λt s=>t=Cb false /\ s=RSt A B rw P l k b e ns dp:=by
 refine acX 25 func59 ?_
 refine go 6 ?_
 refine dx [P] (tz [(0,true),(1,true),(2,true),(3,true)] 17 (go 5 ?_))
 refine tx 4 Y (bO false Y Y Y (lA he0)) (tz [(5,true),(6,true),(7,true),(8,true),(9,true),(10,true),(11,true),(12,true),(13,true),(14,true),(15,true),(16,true),(17,true),(18,true),(19,true),(20,true)] 0 (go 17 ?_))
 refine ax (go 2 ?_)
 exact bHe (s':=(RSt A B rw P l (k) (b) (e) (ns) (dp))) Y sb0 ⟨Y,Y⟩
theorem bFq(A B:List Box)(rw:List bA)(P:Nat)(l:List Tok)(k b ns dp kk:Nat)(hk:k<l.length):aL prog 59 [pP P,Ci (kk:Int)] [P] (RSt A B rw P l k b 0 ns dp) λt s=>t=Cb (decide (l[k].kind=kk)) /\ s=RSt A B rw P l k b 0 ns dp:=by
 refine acX 25 func59 ?_
 refine go 6 ?_
 refine dx [P] (tz [(0,true),(1,true),(2,true),(3,true)] 17 (go 5 ?_))
 refine tx 4 Y (bO true Y Y Y Fs) (tz [(5,true),(6,true),(7,true),(8,true),(9,true),(10,true),(11,true),(12,true),(13,true)] 7 (go 10 ?_))
 refine tx 14 Y (bH aW aW l bJ (λ_=>Y) (k) Y Y Y Y hk V runUnderlying139 sizeOf154) (tz [(15,true),(16,true),(17,true)] 3 (go 4 ?_))
 refine tx 18 Y (bO (decide (l[k].kind=kk)) Y Y Y jS) (tz [(19,true),(20,true)] 0 (go 3 ?_))
 refine ax (go 2 ?_)
 exact bHe (s':=(RSt A B rw P l (k) (b) (0) (ns) (dp))) Y sb0 ⟨Y,Y⟩
theorem bFb(A B:List Box)(rw:List bA)(P:Nat)(l:List Tok)(k b e ns dp:Nat)(kk:Nat)(hk:k<l.length):aL prog 59 [pP P,Ci (kk:Int)] [P] (RSt A B rw P l k b e ns dp) λt s=>t=Cb (decide (e=0) && decide ((bU l k).kind=kk)) /\ s=RSt A B rw P l k b e ns dp:=by
 rw [bG hk]
 by_cases he:e=0
 ·subst he;simpa using bFq A B rw P l k b ns dp kk hk
 simpa [he] using bFp A B rw P l k b ns dp kk e hk he
theorem bEb(A B:List Box)(rw:List bA)(P:Nat)(l:List Tok)(k b e ns dp:Nat)(hok:TOk l)(hk:k<l.length)(he:e<16):aL prog 65 [pP P] [P] (RSt A B rw P l k b e ns dp) λt s=>RAn A B rw P l ns dp (λx=>Cs x) e b (jW l k) t s:=by
 have hlen:=hok.len
 refine acX 27 func65 ?_
 refine go 9 ?_
 refine wcQ Y call59 Y (bFb (A) _ _ _ l k b e ns dp 1 hk) ?_
 rintro t1 s1 ⟨rfl,rfl⟩
 refine wyz Y (lF  Y Y) (go 2 ?_)
 refine gY Y (λhc2=>?_) (λhc2=>?_)
 ·refine go 3 ?_
  refine wcQ Y call61 Y (bEa (A) _ _ _ l k b e ns dp 4) ?_
  rintro t3 s3 ⟨b3x,e3x,hf3,rfl,rfl⟩
  refine go 9 ?_
  exact bHe (s':=(RSt A B rw P l (k) (b3x) (e3x) (ns) (dp))) Y sb0 ⟨aK,k,b3x,e3x,Y,hf3.run V (λh=>by unfold jW;rw [if_neg (λh2=>by simp [h,h2] at hc2)]) _ _,hk,(hf3.small he V),Y⟩
 obtain ⟨rfl,ha⟩:e=0 /\ (bU l k).kind=1:=by simpa using hc2
 have hm:=hok.last.more hk J
 refine go 8 ?_
 refine wad Y (go 6 ?_)
 refine dx [P] (tz [(0,true),(1,true),(2,true),(3,true),(4,true),(5,true),(6,true),(7,true)] 5 (go 9 ?_))
 refine tx 8 Y (qC) ?_
 refine tx 9 Y (bH aW aW l bJ (λ_=>Y) k Y Y Y J hk V runUnderlying139 sizeOf154) (tz [(10,true),(11,true),(12,true)] 0 (go 4 ?_))
 refine ax (go 2 ?_)
 exact bHe (s':=(RSt A B rw P l (k+1) (b) (0) (ns) (dp))) Y sb0 ⟨_,k+1,b,0,Y,.ok _ _ _ (by unfold jW;rw [if_pos ha,bG hk]),hm,V,Y⟩
theorem bD0(A B:List Box)(rw:List bA)(P:Nat)(l:List Tok)(k b e ns dp:Nat)(sg:List UInt8)(hr:dA (bytes sg)=false)(hok:TOk l)(hk:k<l.length):aL prog 60 [pP P,Cs (bytes sg)] [P] (RSt A B rw P l k b e ns dp) λt s=>(e=0 /\ cS l k sg=true /\ t=Cb true /\ s=RSt A B rw P l k b e ns dp)∨((e=0 -> cS l k sg=false) /\ t=Cb false /\ s=RSt A B rw P l k b e ns dp):=by
 refine (bFv A B rw P l k b e ns dp (bytes sg) hk).mono λt s h=>?_
 rw [bEp hok hk hr] at h
 by_cases he:e=0
 ·cases hs:cS l k sg with
  |true=>exact .inl ⟨he,rfl,Eo,h.2⟩
  |false=>exact .inr ⟨λ_=>rfl,Eo,h.2⟩
 ·exact .inr ⟨λh0=>absurd h0 he,DD,h.2⟩
theorem bGf(A B:List Box)(rw:List bA)(P:Nat)(l:List Tok)(k b e ns dp:Nat)(sg:List UInt8)(hr:dA (bytes sg)=true)(hok:TOk l)(hk:k<l.length):aL prog 60 [pP P,Cs (bytes sg)] [P] (RSt A B rw P l k b e ns dp) λt s=>(e=0 /\ dN l k sg=true /\ t=Cb true /\ s=RSt A B rw P l k b e ns dp)∨((e=0 -> dN l k sg=false) /\ t=Cb false /\ s=RSt A B rw P l k b e ns dp):=by
 refine (bFv A B rw P l k b e ns dp (bytes sg) hk).mono λt s h=>?_
 rw [bE6 hok hk hr] at h
 by_cases he:e=0
 ·cases hs:dN l k sg with
  |true=>exact .inl ⟨he,rfl,Eo,h.2⟩
  |false=>exact .inr ⟨λ_=>rfl,Eo,h.2⟩
 ·exact .inr ⟨λh0=>absurd h0 he,DD,h.2⟩
theorem bEv(A B:List Box)(rw:List bA)(P:Nat)(l:List Tok)(k b e ns dp:Nat)(kk:Nat)(hk:k<l.length):aL prog 59 [pP P,Ci (kk:Int)] [P] (RSt A B rw P l k b e ns dp) λt s=>(e=0 /\ (bU l k).kind=kk /\ t=Cb true /\ s=RSt A B rw P l k b e ns dp)∨((e=0 -> (bU l k).kind≠kk) /\ t=Cb false /\ s=RSt A B rw P l k b e ns dp):=by
 refine (bFb A B rw P l k b e ns dp kk hk).mono λt s h=>?_
 by_cases he:e=0
 ·by_cases hq:(bU l k).kind=kk
  ·exact .inl ⟨he,hq,by rw [h.1,decide_eq_true hq,he];rfl,h.2⟩
  exact .inr ⟨λ_=>hq,by rw [h.1,decide_eq_false hq,he];rfl,h.2⟩
 exact .inr ⟨λh0=>absurd h0 he,DD,h.2⟩
theorem bEg(op:Int)(r:bN aH):aKc op r=r.bind λx k=>.ok (.mk op 0 aK [x]) k:=by cases r<;>rfl
theorem bE1(l:List Tok)(r:bN aH):aHo l r=r.bind λx k=>(fD l [41] k).bind λ_ k=>.ok x k:=by
 cases r with
 |ok x k=>show (if cS l k [41]=true then _ else _)=_;unfold bN.bind fD;dsimp only;split<;>rfl
 |err a e=>rfl
theorem bEe(A B:List Box)(rw:List bA)(P:Nat)(l:List Tok)(k b e ns dp:Nat)(hns:¬ns=24)(hn2:ns <= 24):aL prog 160 [pP P] [P] (RSt A B rw P l k b e ns dp) λt s=>t=.tup [] /\ s=RSt A B rw P l k b e (ns+1) dp:=by
 refine acX 16 func160 ?_
 refine go 7 ?_
 refine wcp false Y (by rw [show bC .eql ((ns:Nat):Int) 24=some (decide (ns=24)) from jS (n:=24),decide_eq_false hns]) (go 10 ?_)
 refine wad Y (go 4 ?_)
 exact ⟨.inl Y,_,(RSt A B rw P l (k) (b) (e) (ns+1) (dp)),cH Y,aA (.refl _) (.refl _),Y,Y⟩
theorem bEf(A B:List Box)(rw:List bA)(P:Nat)(l:List Tok)(k b e dp:Nat):aL prog 160 [pP P] [P] (RSt A B rw P l k b e 24 dp) λt s=>∃b1 e1,aC7 e b k 3 b1 e1 /\ t=.tup [] /\ s=RSt A B rw P l k b1 e1 25 dp:=by
 refine acX 16 func160 ?_
 refine go 7 ?_
 refine wcp true Y Fs (go 5 ?_)
 refine wcQ Y call61 Y (bEa (A) _ _ _ l k b e 24 dp 3) ?_
 rintro t2 s2 ⟨u2,e2,hf2,rfl,rfl⟩
 refine go 7 ?_
 refine wad Y (go 4 ?_)
 exact ⟨.inl Y,_,(RSt A B rw P l (k) (u2) (e2) (25) (dp)),cH Y,aA (.refl _) (.refl _),⟨u2,e2,hf2,Y,Y⟩⟩
theorem bEx(A B:List Box)(rw:List bA)(P:Nat)(l:List Tok)(k b e dp:Nat)(hok:TOk l)(hk:k<l.length)(he:e<16):aL prog 139 [pP P] [P] (RSt A B rw P l k b e 24 dp) λt s=>RAn A B rw P l 24 dp (λx=>.agg (cU x)) e b (bL l 0 k) t s:=by
 have hlen:=hok.len
 refine acX 100 func139 ?_
 refine go 17 λb1 b2=>?_
 refine wcQ Y call59 Y (bEv (_::_::A) _ _ _ l k b e 24 dp 2 hk) ?_
 rintro t1 s1 (⟨rfl,ha1,rfl,rfl⟩|⟨ha1,rfl,rfl⟩)
 ·refine go 5 ?_
  refine dx [b1,P] (tz [(0,true),(1,true),(2,true),(3,true),(4,true),(5,true),(6,true),(7,true)] 5 (go 9 ?_))
  refine tx 8 Y (bH aW aW l bJ (λ_=>Y) (k) Y Y Y Y hk V runUnderlying139 sizeOf154) (tz [(9,true),(10,true),(11,true),(12,false)] 0 (go 5 ?_))
  refine ax (go 6 ?_)
  refine wad Y (go 13 ?_)
  have hm:=hok.last.more hk (by rw [ha1];decide)
  exact ⟨.inr Y,_,(RSt A B rw P l (k+1) (b) (0) (24) (dp)),(eK (Wk.agg (.r (.r (.r (.n .nil))))) (aR Y (aO [_] Y Y isAgg87 sizeOf87 (bK Y Y)))),aA (.cons _ (.cons _ (.refl _))) (.refl _),⟨(.mk 1 (l[k].num:Int) aK []),k+1,b,0,Y,.ok _ _ _ (by unfold bL;rw [if_pos ha1,bG hk]),hm,V,Y⟩⟩
 refine go 7 ?_
 refine wcQ Y call59 Y (bEv (_::_::A) _ _ _ l k b e 24 dp 1 hk) ?_
 rintro t4 s4 (⟨rfl,ha4,rfl,rfl⟩|⟨ha4,rfl,rfl⟩)
 ·refine go 6 ?_
  refine wcQ Y call65 Y (bEb (_::_::A) _ _ _ l k b 0 24 dp hok hk V) ?_
  rintro t6 s6 ⟨x6,k6,u6,e6,rfl,hr6,hk6,he6,rfl⟩
  refine go 12 ?_
  exact ⟨.inr Y,_,(RSt A B rw P l (k6) (u6) (e6) (24) (dp)),(eK (Wk.agg (.r (.r (.r (.n .nil))))) (aR Y (aO [_] Y Y isAgg87 sizeOf87 (bK Y Y)))),aA (.cons _ (.cons _ (.refl _))) (.refl _),⟨(.mk 2 0 x6 []),k6,u6,e6,Y,(hr6.map (f:=λn=>aH.mk 2 0 n [])).eq Du,hk6,he6,Y⟩⟩
 refine go 7 ?_
 refine wcQ Y call60 Y (bD0 (_::_::A) _ _ _ l k b e 24 dp [45] V hok hk) ?_
 rintro t8 s8 (⟨rfl,ha8,rfl,rfl⟩|⟨ha8,rfl,rfl⟩)
 ·refine go 18 ?_
  refine wcQ Y call60 Y (bD0 (_::_::A) _ _ _ l k b 0 24 dp [45] V hok hk) ?_
  rintro t10 s10 (⟨-,ha10,rfl,rfl⟩|⟨ha10,rfl,rfl⟩)
  ·refine go 11 ?_
   refine wcQ Y call160 Y (bEf (_::_::A) _ _ _ l k b 0 dp) ?_
   rintro t12 s12 ⟨u12,e12,hf12,rfl,rfl⟩
   obtain ⟨rfl,rfl⟩:=hf12.1 rfl
   refine go 9 ?_
   refine wcp false Y Y (go 10 ?_)
   refine wyz Y (cI (hr:=Y) ((24:Nat):Int)) (go 13 ?_)
   exact ⟨.inr Y,_,(RSt A B rw P l (k) (k) (3) (24) (dp)),(eK (Wk.agg (.r (.r (.r (.n .nil))))) (aR Y (aO [_] Y Y isAgg87 sizeOf87 (bK Y Y)))),aA (.cons _ (.cons _ (.refl _))) (.refl _),⟨(.mk 3 0 aK []),k,k,3,Y,.err _ _ _ _ _ (by unfold bL;rw [if_neg (ha1 rfl),if_neg (ha4 rfl),if_pos (by simp [ha8])]) V,hk,V,Y⟩⟩
  exact absurd (ha10 Y) (by rw [ha8];decide)
 refine go 2 ?_
 refine wcQ Y call60 Y (bD0 (_::_::A) _ _ _ l k b e 24 dp [33] V hok hk) ?_
 rintro t14 s14 (⟨rfl,ha14,rfl,rfl⟩|⟨ha14,rfl,rfl⟩)
 ·refine go 15 ?_
  refine wcQ Y call60 Y (bD0 (_::_::A) _ _ _ l k b 0 24 dp [45] V hok hk) ?_
  rintro t16 s16 (⟨-,ha16,rfl,rfl⟩|⟨ha16,rfl,rfl⟩)
  ·exact absurd ha16 (by rw [(ha8 rfl)];decide)
  refine go 8 ?_
  refine wcQ Y call160 Y (bEf (_::_::A) _ _ _ l k b 0 dp) ?_
  rintro t18 s18 ⟨u18,e18,hf18,rfl,rfl⟩
  obtain ⟨rfl,rfl⟩:=hf18.1 rfl
  refine go 9 ?_
  refine wcp false Y Y (go 10 ?_)
  refine wyz Y (cI (hr:=Y) ((24:Nat):Int)) (go 13 ?_)
  exact ⟨.inr Y,_,(RSt A B rw P l (k) (k) (3) (24) (dp)),(eK (Wk.agg (.r (.r (.r (.n .nil))))) (aR Y (aO [_] Y Y isAgg87 sizeOf87 (bK Y Y)))),aA (.cons _ (.cons _ (.refl _))) (.refl _),⟨(.mk 4 0 aK []),k,k,3,Y,.err _ _ _ _ _ (by unfold bL;rw [if_neg (ha1 rfl),if_neg (ha4 rfl),if_pos (by simp [ha14])]) V,hk,V,Y⟩⟩
 refine go 8 ?_
 refine wcQ Y call60 Y (bD0 (_::_::A) _ _ _ l k b e 24 dp [40] V hok hk) ?_
 rintro t21 s21 (⟨rfl,ha21,rfl,rfl⟩|⟨ha21,rfl,rfl⟩)
 ·refine go 7 ?_
  refine wcQ Y call160 Y (bEf (_::_::A) _ _ _ l k b 0 dp) ?_
  rintro t23 s23 ⟨u23,e23,hf23,rfl,rfl⟩
  obtain ⟨rfl,rfl⟩:=hf23.1 rfl
  refine go 9 ?_
  refine wcp false Y Y (go 10 ?_)
  refine wyz Y (cI (hr:=Y) ((24:Nat):Int)) (go 13 ?_)
  exact ⟨.inr Y,_,(RSt A B rw P l (k) (k) (3) (24) (dp)),(eK (Wk.agg (.r (.r (.r (.n .nil))))) (aR Y (aO [_] Y Y isAgg87 sizeOf87 (bK Y Y)))),aA (.cons _ (.cons _ (.refl _))) (.refl _),⟨aH.zero,k,k,3,Y,.err _ _ _ _ _ (by unfold bL;rw [if_neg (ha1 rfl),if_neg (ha4 rfl),if_pos (by simp [ha21])]) V,hk,V,Y⟩⟩
 refine go 6 ?_
 refine wcQ Y call61 Y (bEa (_::_::A) _ _ _ l k b e 24 dp 4) ?_
 rintro t26 s26 ⟨u26,e26,hf26,rfl,rfl⟩
 refine go 10 ?_
 exact ⟨.inr Y,_,(RSt A B rw P l (k) (u26) (e26) (24) (dp)),(eK (Wk.agg (.r (.r (.r (.n .nil))))) (aR Y (aO [_] Y Y isAgg87 sizeOf87 (bK Y Y)))),aA (.cons _ (.cons _ (.refl _))) (.refl _),⟨aH.zero,k,u26,e26,Y,hf26.run V (λh=>by unfold bL;rw [if_neg (ha1 h),if_neg (ha4 h),if_neg (by rw [ha8 h,ha14 h,ha21 h];decide)]) _ _,hk,(hf26.small he V),Y⟩⟩
theorem bE0(A B:List Box)(rw:List bA)(P:Nat)(l:List Tok)(k b e ns dp:Nat)(d:Nat)(hns:ns+(d+1)=24)(hok:TOk l)(hk:k<l.length)(he:e<16)(iho:∀(A B:List Box)(rw:List bA)(P k b e ns dp:Nat),ns+d=24 -> k<l.length -> e<16 -> aL prog 139 [pP P] [P] (RSt A B rw P l k b e ns dp) (RAn A B rw P l ns dp (λx=>.agg (cU x)) e b (bL l d k)))(ihb:∀(A B:List Box)(rw:List bA)(P k b e ns dp:Nat),ns+d=24 -> k<l.length -> e<16 -> aL prog 114 [pP P,Ci 0] [P] (RSt A B rw P l k b e ns dp) (RAn A B rw P l ns dp (λx=>.agg (cU x)) e b (gS l (bL l d) 5 k))):aL prog 139 [pP P] [P] (RSt A B rw P l k b e ns dp) λt s=>RAn A B rw P l ns dp (λx=>.agg (cU x)) e b (bL l (d+1) k) t s:=by
 have hlen:=hok.len
 refine acX 100 func139 ?_
 refine go 17 λb1 b2=>?_
 refine wcQ Y call59 Y (bEv (_::_::A) _ _ _ l k b e ns dp 2 hk) ?_
 rintro t1 s1 (⟨rfl,ha1,rfl,rfl⟩|⟨ha1,rfl,rfl⟩)
 ·refine go 5 ?_
  refine dx [b1,P] (tz [(0,true),(1,true),(2,true),(3,true),(4,true),(5,true),(6,true),(7,true)] 5 (go 9 ?_))
  refine tx 8 Y (bH aW aW l bJ (λ_=>Y) (k) Y Y Y Y hk V runUnderlying139 sizeOf154) (tz [(9,true),(10,true),(11,true),(12,false)] 0 (go 5 ?_))
  refine ax (go 6 ?_)
  refine wad Y (go 13 ?_)
  have hm:=hok.last.more hk (by rw [ha1];decide)
  exact ⟨.inr Y,_,(RSt A B rw P l (k+1) (b) (0) (ns) (dp)),(eK (Wk.agg (.r (.r (.r (.n .nil))))) (aR Y (aO [_] Y Y isAgg87 sizeOf87 (bK Y Y)))),aA (.cons _ (.cons _ (.refl _))) (.refl _),⟨(.mk 1 (l[k].num:Int) aK []),k+1,b,0,Y,.ok _ _ _ (by unfold bL;rw [if_pos ha1,bG hk]),hm,V,Y⟩⟩
 refine go 7 ?_
 refine wcQ Y call59 Y (bEv (_::_::A) _ _ _ l k b e ns dp 1 hk) ?_
 rintro t4 s4 (⟨rfl,ha4,rfl,rfl⟩|⟨ha4,rfl,rfl⟩)
 ·refine go 6 ?_
  refine wcQ Y call65 Y (bEb (_::_::A) _ _ _ l k b 0 ns dp hok hk V) ?_
  rintro t6 s6 ⟨x6,k6,u6,e6,rfl,hr6,hk6,he6,rfl⟩
  refine go 12 ?_
  exact ⟨.inr Y,_,(RSt A B rw P l (k6) (u6) (e6) (ns) (dp)),(eK (Wk.agg (.r (.r (.r (.n .nil))))) (aR Y (aO [_] Y Y isAgg87 sizeOf87 (bK Y Y)))),aA (.cons _ (.cons _ (.refl _))) (.refl _),⟨(.mk 2 0 x6 []),k6,u6,e6,Y,(hr6.map (f:=λn=>aH.mk 2 0 n [])).eq Du,hk6,he6,Y⟩⟩
 refine go 7 ?_
 refine wcQ Y call60 Y (bD0 (_::_::A) _ _ _ l k b e ns dp [45] V hok hk) ?_
 rintro t8 s8 (⟨rfl,ha8,rfl,rfl⟩|⟨ha8,rfl,rfl⟩)
 ·refine go 18 ?_
  refine wcQ Y call60 Y (bD0 (_::_::A) _ _ _ l k b 0 ns dp [45] V hok hk) ?_
  rintro t10 s10 (⟨-,ha10,rfl,rfl⟩|⟨ha10,rfl,rfl⟩)
  ·refine go 11 ?_
   refine wcQ Y call160 Y (bEe (_::_::A) _ _ _ l k b 0 ns dp J J) ?_
   rintro t12 s12 ⟨rfl,rfl⟩
   refine go 9 ?_
   refine wcp true Y B7 (go 5 ?_)
   have hm:=eF hok.last hk ha10
   refine go 4 ?_
   refine wad Y (go 7 ?_)
   refine wcQ Y call139 Y (iho (_::_::A) _ _ _ (k+1) b 0 (ns+1) dp J hm V) ?_
   rintro t14 s14 ⟨x14,k14,u14,e14,rfl,hr14,hk14,he14,rfl⟩
   refine wo Y (bDk (hf:=aV fO cU x14 (fP _) Y Y) bDo ?_)
   refine go 9 ?_
   refine wyz Y (cI ((ns:Nat):Int)) (go 13 ?_)
   exact ⟨.inr Y,_,(RSt A B rw P l (k14) (u14) (e14) (ns) (dp)),(aR Y (aO [_] Y Y isAgg87 sizeOf87 (bK Y Y))),aA (.cons _ (.cons _ (.refl _))) (.refl _),⟨(.mk 3 0 aK [x14]),k14,u14,e14,Y,(hr14.map (f:=λx=>aH.mk 3 0 aK [x])).eq (λ_=>by rw [bL.eq_2,if_neg (ha1 rfl),if_neg (ha4 rfl),if_pos ha8,bEg]),hk14,he14,Y⟩⟩
  exact absurd (ha10 Y) (by rw [ha8];decide)
 refine go 2 ?_
 refine wcQ Y call60 Y (bD0 (_::_::A) _ _ _ l k b e ns dp [33] V hok hk) ?_
 rintro t15 s15 (⟨rfl,ha15,rfl,rfl⟩|⟨ha15,rfl,rfl⟩)
 ·refine go 15 ?_
  refine wcQ Y call60 Y (bD0 (_::_::A) _ _ _ l k b 0 ns dp [45] V hok hk) ?_
  rintro t17 s17 (⟨-,ha17,rfl,rfl⟩|⟨ha17,rfl,rfl⟩)
  ·exact absurd ha17 (by rw [(ha8 rfl)];decide)
  refine go 8 ?_
  refine wcQ Y call160 Y (bEe (_::_::A) _ _ _ l k b 0 ns dp J J) ?_
  rintro t19 s19 ⟨rfl,rfl⟩
  refine go 9 ?_
  refine wcp true Y B7 (go 5 ?_)
  have hm:=eF hok.last hk ha15
  refine go 4 ?_
  refine wad Y (go 7 ?_)
  refine wcQ Y call139 Y (iho (_::_::A) _ _ _ (k+1) b 0 (ns+1) dp J hm V) ?_
  rintro t21 s21 ⟨x21,k21,u21,e21,rfl,hr21,hk21,he21,rfl⟩
  refine wo Y (bDk (hf:=aV fO cU x21 (fP _) Y Y) bDo ?_)
  refine go 9 ?_
  refine wyz Y (cI ((ns:Nat):Int)) (go 13 ?_)
  exact ⟨.inr Y,_,(RSt A B rw P l (k21) (u21) (e21) (ns) (dp)),(aR Y (aO [_] Y Y isAgg87 sizeOf87 (bK Y Y))),aA (.cons _ (.cons _ (.refl _))) (.refl _),⟨(.mk 4 0 aK [x21]),k21,u21,e21,Y,(hr21.map (f:=λx=>aH.mk 4 0 aK [x])).eq (λ_=>by rw [bL.eq_2,if_neg (ha1 rfl),if_neg (ha4 rfl),if_neg (by rw [ha17 rfl];decide),if_pos ha15,bEg]),hk21,he21,Y⟩⟩
 refine go 8 ?_
 refine wcQ Y call60 Y (bD0 (_::_::A) _ _ _ l k b e ns dp [40] V hok hk) ?_
 rintro t23 s23 (⟨rfl,ha23,rfl,rfl⟩|⟨ha23,rfl,rfl⟩)
 ·refine go 7 ?_
  refine wcQ Y call160 Y (bEe (_::_::A) _ _ _ l k b 0 ns dp J J) ?_
  rintro t25 s25 ⟨rfl,rfl⟩
  refine go 9 ?_
  refine wcp true Y B7 (go 5 ?_)
  have hm:=eF hok.last hk ha23
  refine go 4 ?_
  refine wad Y (go 8 ?_)
  refine wcQ Y call114 Y (ihb (_::_::A) _ _ _ (k+1) b 0 (ns+1) dp J hm V) ?_
  rintro t27 s27 ⟨x27,k27,u27,e27,rfl,hr27,hk27,he27,rfl⟩
  refine go 5 ?_
  refine wcQ Y call86 Y (bZx (_::_::A) _ _ _ l k27 u27 e27 (ns+1) dp [41] V hok hk27 he27) ?_
  rintro t28 s28 ⟨x28,k28,u28,e28,rfl,hr28,hk28,he28,rfl⟩
  refine go 7 ?_
  refine wyz Y (cI ((ns:Nat):Int)) (go 13 ?_)
  exact ⟨.inr Y,_,(RSt A B rw P l (k28) (u28) (e28) (ns) (dp)),(aR Y (aO [_] Y Y isAgg87 sizeOf87 (bK Y Y))),aA (.cons _ (.cons _ (.refl _))) (.refl _),⟨x27,k28,u28,e28,Y,(hr27.bind (f:=λx k=>(fD l [41] k).bind λ_ k=>.ok x k) (hr28.map (f:=λ_=>x27))).eq (λ_=>by rw [bL.eq_2,if_neg (ha1 rfl),if_neg (ha4 rfl),if_neg Di,if_neg (by rw [ha15 rfl];decide),if_pos ha23,bE1]),hk28,he28,Y⟩⟩
 refine go 6 ?_
 refine wcQ Y call61 Y (bEa (_::_::A) _ _ _ l k b e ns dp 4) ?_
 rintro t30 s30 ⟨u30,e30,hf30,rfl,rfl⟩
 refine go 10 ?_
 exact ⟨.inr Y,_,(RSt A B rw P l (k) (u30) (e30) (ns) (dp)),(eK (Wk.agg (.r (.r (.r (.n .nil))))) (aR Y (aO [_] Y Y isAgg87 sizeOf87 (bK Y Y)))),aA (.cons _ (.cons _ (.refl _))) (.refl _),⟨aH.zero,k,u30,e30,Y,hf30.run V (λh=>by unfold bL;rw [if_neg (ha1 h),if_neg (ha4 h),if_neg (by rw [ha8 h];decide),if_neg (by rw [ha15 h];decide),if_neg (by rw [ha23 h];decide)]) _ _,hk,(hf30.small he V),Y⟩⟩
theorem bFa{l:List Tok}(h:TOk l){k lv j:Nat}(hk:k<l.length)(hlv:lv<5)(hj:j<(jP lv).length)(ha:cAf l k (jP lv)[j]=true):(bU l k).kind=4 /\ (binOp (bU l k).text).2=lv+1 /\ ∀h':j<(dS lv).length,((binOp (bU l k).text).1:Int)=(dS lv)[j]:=by
 unfold cAf at ha
 simp only [Bool.and_eq_true,Bool.or_eq_true,decide_eq_true_eq] at ha
 obtain ⟨h1,h2⟩:=ha
 have h4:(bU l k).kind=4:=by
  rcases h1 with h1|h1
  ·exact h1
  have:=(h.reg _ (getElem_mem hk)).1 (by rw [←bG hk];exact h1)
  rw [←bG hk,h2,bEs lv hlv j hj] at this;cases this
 rw [h2]
 have hO:j<(dS lv).length:=by rw [(aKy lv).1];exact hj
 exact ⟨h4,(bEn lv hlv j hj hO).2,λh'=>(bEn lv hlv j hj h').1⟩
theorem bE7{l:List Tok}{k lv:Nat}(hlv:lv<5)(h:∀j (hj:j<(jP lv).length),cAf l k (jP lv)[j]=false):¬((bU l k).kind=4 /\ (binOp (bU l k).text).2=lv+1):=by
 rintro ⟨h1,h2⟩
 obtain ⟨j,hj,he⟩:=List.getElem_of_mem (bEz lv hlv _ h2)
 have:=h j hj
 unfold cAf at this
 rw [he] at this
 simp [h1] at this
def bFk(l:List Tok)(sub:Nat -> bN aH)(lv e0 b0 k0:Nat)(x:aH)(k b e n:Nat):Prop:=
 (e=0 -> l.length<n+k) /\ ∀z k' b' e',kX e b (fR l sub (lv+1) n x k) z k' b' e' -> kX e0 b0 ((sub k0).bind λx k=>fR l sub (lv+1) (l.length+1) x k) z k' b' e'
theorem bE9(A B:List Box)(rw:List bA)(P:Nat)(l:List Tok)(k b e ns dp:Nat)(sub:Nat -> bN aH)(hok:TOk l)(hk:k<l.length)(he:e<16)(iho:∀(A B:List Box)(rw:List bA)(P k b e:Nat),k<l.length -> e<16 -> aL prog 139 [pP P] [P] (RSt A B rw P l k b e ns dp) (RAn A B rw P l ns dp (λx=>.agg (cU x)) e b (sub k))):aL prog 114 [pP P,Ci 5] [P] (RSt A B rw P l k b e ns dp) λt s=>RAn A B rw P l ns dp (λx=>.agg (cU x)) e b (sub k) t s:=by
 have hlen:=hok.len
 refine acX 52 func114 ?_
 refine go 9 λb1=>?_
 refine wcp true Y Y (go 6 ?_)
 refine wcQ Y call139 Y (iho (_::A) _ _ _ k b e hk he) ?_
 rintro t2 s2 ⟨x2,k2,u2,e2,rfl,hr2,hk2,he2,rfl⟩
 refine go 5 ?_
 exact ⟨.inr Y,_,(RSt A B rw P l (k2) (u2) (e2) (ns) (dp)),(aR Y (aO [] Y Y isAgg87 sizeOf87 (bK Y Y))),aA (.cons _ (.refl _)) (.refl _),⟨x2,k2,u2,e2,Y,hr2,hk2,he2,Y⟩⟩
theorem bE4(A B:List Box)(rw:List bA)(P:Nat)(l:List Tok)(k b e ns dp:Nat)(lv:Nat)(sub:Nat -> bN aH)(hlv:lv<5)(hin:∀k,k<l.length -> (sub k).In l k)(hok:TOk l)(hk:k<l.length)(he:e<16)(ihb:∀(A B:List Box)(rw:List bA)(P k b e:Nat),k<l.length -> e<16 -> aL prog 114 [pP P,Ci ((lv:Nat)+1:Int)] [P] (RSt A B rw P l k b e ns dp) (RAn A B rw P l ns dp (λx=>.agg (cU x)) e b (sub k))):aL prog 114 [pP P,Ci (lv:Int)] [P] (RSt A B rw P l k b e ns dp) λt s=>RAn A B rw P l ns dp (λx=>.agg (cU x)) e b ((sub k).bind λx k=>fR l sub (lv+1) (l.length+1) x k) t s:=by
 have hlen:=hok.len
 refine acX 52 func114 ?_
 refine go 9 λb1=>?_
 refine wcp false Y Dl (go 9 ?_)
 refine wad Y ?_
 refine wcQ Y call114 Y (ihb (_::A) _ _ _ k b e hk he) ?_
 rintro t2 s2 ⟨x2,k2,u2,e2,rfl,hr2,hk2,he2,rfl⟩
 refine go 7 λb2=>?_
 refine wo Y (bD [] Y Y V call140 Y (aO6 lv hlv _) bDl bDl (λ_=>bDl) ?_)
 rintro t3 s3 ⟨rfl,rfl⟩
 refine go 14 ?_
 refine fM (λg:Bool×aH×Nat×Nat×Nat=>(⟨52,[b2,b1,P],⟨⟨b2,87,cU (g.2.1)⟩::⟨b1,87,[.val (.int .i64 0),.val (.int .i64 0),.val (.string ⟨#[]⟩),.val (.slice none 0 0)]⟩::(A++⟨P,144,[.sl l.length (l.flatMap aW),.val (.int .i64 (((g.2.2.1):Nat):Int)),.val (.int .i64 (((g.2.2.2.1):Nat):Int)),.val (.int .i64 (((g.2.2.2.2):Nat):Int)),nC ns,nC dp]⟩::B),rw⟩,[(8,.c (.val (.bool g.1))),(0,pP P),(1,nI lv),(4,pP b1),(5,pP b2),(6,.c (aF6 (jP lv))),(7,.c (aEm (dS lv)))]⟩:AS)) (λg=>g.2.2.1<l.length /\ g.2.2.2.2<16 /\ (g.1=true -> ∃n,bFk l sub lv e b k g.2.1 g.2.2.1 g.2.2.2.1 g.2.2.2.2 n) /\ (g.1=false -> kX e b ((sub k).bind λx k=>fR l sub (lv+1) (l.length+1) x k) g.2.1 g.2.2.1 g.2.2.2.1 g.2.2.2.2)) (λg=>if g.1 then (if g.2.2.2.2=0 then l.length-g.2.2.1+2 else 1) else 0) (true,x2,k2,u2,e2) (cQf (λ_ h=>h)) ⟨hk2,he2,λ_=>⟨l.length+1,λ_=>J,λz k' b' e' h=>hr2.bind h⟩,(λh=>nomatch h)⟩ ?_
 rintro ⟨ag0,x0,k0,b0,e0⟩ ⟨hk0,he0,hc0,hd0⟩
 dsimp only at hk0 he0 hc0 hd0
 show AWp prog _ (⟨52,[b2,b1,P],⟨⟨b2,87,cU (x0)⟩::⟨b1,87,[Vi 0,Vi 0,Vs ⟨#[]⟩,Nl]⟩::(A++⟨P,144,[Sq aW l,Vi (((k0):Nat):Int),Vi (((b0):Nat):Int),Vi (((e0):Nat):Int),nC ns,nC dp]⟩::B),rw⟩,[(8,Cb ag0),(0,pP P),(1,nI lv),(4,pP b1),(5,pP b2),(6,.c (aF6 (jP lv))),(7,.c (aEm (dS lv)))]⟩:AS) _
 cases ag0
 ·refine go 19 ?_
  exact ⟨.inr Y,_,(RSt A B rw P l (k0) (b0) (e0) (ns) (dp)),(aR Y (aO [_] Y Y isAgg87 sizeOf87 (bK Y Y))),aA (.cons _ (.cons _ (.refl _))) (.refl _),⟨x0,k0,b0,e0,Y,hd0 Y,hk0,he0,Y⟩⟩
 refine go 21 ?_
 obtain ⟨n0,hn0,hcont⟩:=hc0 rfl
 refine fM (λg:Nat×Bool×aH×Nat×Nat×Nat=>(⟨52,[b2,b1,P],⟨⟨b2,87,cU (g.2.2.1)⟩::⟨b1,87,[.val (.int .i64 0),.val (.int .i64 0),.val (.string ⟨#[]⟩),.val (.slice none 0 0)]⟩::(A++⟨P,144,[.sl l.length (l.flatMap aW),.val (.int .i64 (((g.2.2.2.1):Nat):Int)),.val (.int .i64 (((g.2.2.2.2.1):Nat):Int)),.val (.int .i64 (((g.2.2.2.2.2):Nat):Int)),nC ns,nC dp]⟩::B),rw⟩,[(9,nI (g.1)),(8,.c (.val (.bool g.2.1))),(0,pP P),(1,nI lv),(4,pP b1),(5,pP b2),(6,.c (aF6 (jP lv))),(7,.c (aEm (dS lv)))]⟩:AS)) (λg=>g.1 <= (jP lv).length /\ (g.2.1=false -> g.2.2=(x0,k0,b0,e0) /\ (e0=0 -> ∀j (hj:j<(jP lv).length),j<g.1 -> cAf l k0 (jP lv)[j]=false)) /\ (g.2.1=true -> e0=0 /\ g.2.2.2.1<l.length /\ g.2.2.2.2.2<16 /\ (g.2.2.2.2.2=0 -> k0<g.2.2.2.1) /\ ∃n,bFk l sub lv e b k g.2.2.1 g.2.2.2.1 g.2.2.2.2.1 g.2.2.2.2.2 n)) (λg=>(jP lv).length-g.1) (0,false,x0,k0,b0,e0) (cQf (λ_ h=>h)) ⟨Nat.zero_le _,λ_=>⟨Y,λ_ j _ h=>J⟩,(λh=>nomatch h)⟩ ?_
 rintro ⟨i,ag,x1,k1,b1',e1⟩ ⟨hi0,hf0,ht0⟩
 dsimp only at hi0 hf0 ht0
 have hsl:=aKy lv
 cases ag
 ·by_cases hlt:i<(jP lv).length
  ·obtain ⟨hq,hno⟩:=hf0 rfl
   obtain ⟨rfl,rfl,rfl,rfl⟩:x1=x0 /\ k1=k0 /\ b1'=b0 /\ e1=e0:=by simpa using hq
   clear hq hf0 ht0
   show AWp prog _ (⟨52,[b2,b1,P],⟨⟨b2,87,cU (x1)⟩::⟨b1,87,[Vi 0,Vi 0,Vs ⟨#[]⟩,Nl]⟩::(A++⟨P,144,[Sq aW l,Vi (((k1):Nat):Int),Vi (((b1'):Nat):Int),Vi (((e1):Nat):Int),nC ns,nC dp]⟩::B),rw⟩,[(9,nI (i)),(8,Cb false),(0,pP P),(1,nI lv),(4,pP b1),(5,pP b2),(6,.c (aF6 (jP lv))),(7,.c (aEm (dS lv)))]⟩:AS) _
   refine go 6 ?_
   refine wcp true Y (by simp [bC,hlt]) (go 16 ?_)
   refine wyz Y (rT (λs=>Vs s) (jP lv) i Y Y Y Y hlt runUnderlying61 sizeOf9) (go 1 ?_)
   refine wcQ Y call62 Y (bEu (_::_::A) _ _ _ l k1 b1' e1 ns dp (jP lv)[i] hok hk0) ?_
   rintro t7 s7 (⟨rfl,ha,hm,rfl,rfl⟩|⟨hna7,rfl,rfl⟩)
   ·refine go 3 ?_
    refine dx [b1] (tz [(0,true),(1,true)] 11 (go 3 ?_))
    refine tx 2 Y (rT (λn=>Vi n) (dS lv) i Y Y Y Y J runUnderlying22 sizeOf3) (tz [(3,true),(5,true),(6,true)] 7 (go 4 ?_))
    refine tx 7 Y (bB Y Y Y J J) ?_
    refine t2 4 8 Y ?_ ?_
    focus
     refine way Y V (aX [] isAgg87 sizeOf87) ?_
     refine ox 8 Y Y (bD [P] Y Y V call114 Y (ihb (_::_::A) _ _ _ ((k1+1)) b1' 0 hm V) Gg FU Ar ?_)
     rintro t9 s9 ⟨x10,k10,u10,e10,rfl,hr10,hk10,he10,rfl⟩
    rotate_left
    refine (bD [P] Y Y V call114 Y (ihb (_::_::A) _ _ _ ((k1+1)) b1' 0 hm V) Gg FU Ar ?_)
    rintro t10 s10 ⟨x10,k10,u10,e10,rfl,hr10,hk10,he10,rfl⟩
    refine ox 4 Y Y (way Y V (aX [] isAgg87 sizeOf87) ?_)
    all_goals
     refine ox 9 Y Y (bDk (hps:=(.cons Y (.cons Y .nil))) (hf:=aEp fO cU x1 x10 fP Y (λ_=>Y)) bDy ?_)
     refine tz [(10,true),(11,false),(12,true)] 0 (go 4 ?_)
     refine ax (go 4 ?_)
     refine wad Y (go 2 ?_)
     obtain ⟨h4,hlv2,hop⟩:=bFa hok hk0 hlv hlt ha
     have hin2:=hin (k1+1) hm
     refine ⟨(i+1,true,.mk (dS lv)[i] 0 aK [x1,x10],k10,u10,e10),⟨by show i+1 <= _;omega,(λh=>nomatch h),λ_=>⟨Y,hk10,he10,λh0=>?_,n0-1,λh0=>?_,λz k' b' e' h=>hcont z k' b' e' ?_⟩⟩,BW,cQf (λ_ h=>h)⟩
     ·have hg:=hr10.good h0
      rw [hg.2.1] at hin2
      show k1<k10
      have:=hin2.1;omega
     ·have hg:=hr10.good h0
      rw [hg.2.1] at hin2
      have h1:=hin2.1
      have h2:=hn0 Y
      show l.length<n0-1+k10
      omega
     obtain ⟨m,rfl⟩:∃m,n0=m+1:=⟨n0-1,by have:=hn0 rfl;omega⟩
     rw [fR,if_pos ⟨h4,hlv2⟩]
     refine (hr10.bind (f:=λy k=>fR l sub (lv+1) m (.mk (dS lv)[i] 0 aK [x1,y]) k) h).eq λ_=>?_
     rw [hop J]
     cases sub (k1+1)<;>rfl
   have hno2:e1=0 -> cAf l k1 (jP lv)[i]=false:=λh0=>by cases hh:cAf l k1 (jP lv)[i] with|false=>rfl|true=>exact absurd ⟨h0,hh⟩ hna7
   refine go 8 ?_
   refine wad Y (go 2 ?_)
   refine ⟨(i+1,false,x1,k1,b1',e1),⟨by show i+1 <= _;omega,λ_=>⟨Y,λh0 j hj hji=>?_⟩,(λh=>nomatch h)⟩,BW,cQf (λ_ h=>h)⟩
   have hji2:j<i+1:=hji
   rcases Nat.lt_or_ge j i with h|h
   ·exact hno h0 j hj h
   obtain rfl:j=i:=J
   exact hno2 h0
  obtain ⟨hq,hno⟩:=hf0 rfl
  obtain ⟨rfl,rfl,rfl,rfl⟩:x1=x0 /\ k1=k0 /\ b1'=b0 /\ e1=e0:=by simpa using hq
  clear hq hf0 ht0
  show AWp prog _ (⟨52,[b2,b1,P],⟨⟨b2,87,cU (x1)⟩::⟨b1,87,[Vi 0,Vi 0,Vs ⟨#[]⟩,Nl]⟩::(A++⟨P,144,[Sq aW l,Vi (((k1):Nat):Int),Vi (((b1'):Nat):Int),Vi (((e1):Nat):Int),nC ns,nC dp]⟩::B),rw⟩,[(9,nI (i)),(8,Cb false),(0,pP P),(1,nI lv),(4,pP b1),(5,pP b2),(6,.c (aF6 (jP lv))),(7,.c (aEm (dS lv)))]⟩:AS) _
  obtain rfl:i=(jP lv).length:=J
  refine go 6 ?_
  refine wcp false Y B7 (go 8 ?_)
  have hfin:kX e b ((sub k).bind λx k=>fR l sub (lv+1) (l.length+1) x k) x1 k1 b1' e1:=by
   refine hcont x1 k1 b1' e1 ?_
   by_cases h0:e1=0
   ·subst h0
    obtain ⟨m,rfl⟩:∃m,n0=m+1:=⟨n0-1,by have:=hn0 rfl;omega⟩
    rw [fR,if_neg (bE7 hlv λj hj=>hno rfl j hj hj)]
    exact kX.pure _ _ _ _
   exact .skip h0 _ _ _
  refine go 4 ?_
  exact ⟨(false,x1,k1,b1',e1),⟨hk0,he0,(λh=>nomatch h),λ_=>hfin⟩,by simp only [if_true,Bool.false_eq_true,if_false];split<;>omega,cQf (λ_ h=>h)⟩
 by_cases hlt:i<(jP lv).length
 focus
  obtain ⟨rfl,hk1,he1,hgt,n1,hb1⟩:=ht0 rfl
  clear hf0 ht0
  show AWp prog _ (⟨52,[b2,b1,P],⟨⟨b2,87,cU (x1)⟩::⟨b1,87,[Vi 0,Vi 0,Vs ⟨#[]⟩,Nl]⟩::(A++⟨P,144,[Sq aW l,Vi (((k1):Nat):Int),Vi (((b1'):Nat):Int),Vi (((e1):Nat):Int),nC ns,nC dp]⟩::B),rw⟩,[(9,nI (i)),(8,Cb true),(0,pP P),(1,nI lv),(4,pP b1),(5,pP b2),(6,.c (aF6 (jP lv))),(7,.c (aEm (dS lv)))]⟩:AS) _
  refine go 6 ?_
  refine wcp true Y (by simp [bC,hlt]) (go 8 ?_)
 rotate_left
 obtain ⟨rfl,hk1,he1,hgt,n1,hb1⟩:=ht0 rfl
 clear hf0 ht0
 show AWp prog _ (⟨52,[b2,b1,P],⟨⟨b2,87,cU (x1)⟩::⟨b1,87,[Vi 0,Vi 0,Vs ⟨#[]⟩,Nl]⟩::(A++⟨P,144,[Sq aW l,Vi (((k1):Nat):Int),Vi (((b1'):Nat):Int),Vi (((e1):Nat):Int),nC ns,nC dp]⟩::B),rw⟩,[(9,nI (i)),(8,Cb true),(0,pP P),(1,nI lv),(4,pP b1),(5,pP b2),(6,.c (aF6 (jP lv))),(7,.c (aEm (dS lv)))]⟩:AS) _
 refine go 6 ?_
 refine wcp false Y (by simp [bC,hlt]) (go 8 ?_)
 all_goals
  have hmu:(if true=true then (if e1=0 then l.length-k1+2 else 1) else 0)<(if true=true then (if (0:Nat)=0 then l.length-k0+2 else 1) else 0):=by
   simp only [if_true]
   by_cases h0:e1=0
   ·have:=hgt h0;rw [if_pos h0];omega
   rw [if_neg h0];omega
  refine go 4 ?_
  exact ⟨(true,x1,k1,b1',e1),⟨hk1,he1,λ_=>⟨_,hb1⟩,(λh=>nomatch h)⟩,hmu,cQf (λ_ h=>h)⟩
theorem bEk(l:List Tok)(hok:TOk l)(d:Nat)(iho:∀(A B:List Box)(rw:List bA)(P:Nat)(k b e dp:Nat),k<l.length -> e<16 -> aL prog 139 [pP P] [P] (RSt A B rw P l k b e (24-d) dp) (RAn A B rw P l (24-d) dp (λx=>.agg (cU x)) e b (bL l d k))):∀(j:Nat),j <= 5 -> ∀(A B:List Box)(rw:List bA)(P:Nat)(k b e dp:Nat),k<l.length -> e<16 -> aL prog 114 [pP P,Ci ((5-j:Nat):Int)] [P] (RSt A B rw P l k b e (24-d) dp) (RAn A B rw P l (24-d) dp (λx=>.agg (cU x)) e b (gS l (bL l d) j k))
 |0,_,A,B,rw,P,k,b,e,dp,hk,he=>(bE9 A B rw P l k b e (24-d) dp (bL l d) hok hk he λA B rw P k b e hk he=>iho A B rw P k b e dp hk he)
 |j+1,hj,A,B,rw,P,k,b,e,dp,hk,he=>by
  have h:=bE4 A B rw P l k b e (24-d) dp (5-(j+1)) (gS l (bL l d) j) J (λk hk=>vV hok.last (λk hk=>nP hok.last d k hk) j k hk) hok hk he (λA B rw P k b e hk he=>by
   have h9:=bEk l hok d iho j J A B rw P k b e dp hk he
   have e1:(((5-(j+1):Nat):Int)+1)=((5-j:Nat):Int):=J
   rw [e1];exact h9)
  have e2:gS l (bL l d) (j+1) k=(gS l (bL l d) j k).bind λx k=>fR l (gS l (bL l d) j) (5-(j+1)+1) (l.length+1) x k:=by
   rw [gS,show 5-(j+1)+1=5-j by omega]
   cases gS l (bL l d) j k<;>rfl
  rw [e2];exact h
theorem bD3(l:List Tok)(hok:TOk l):∀(d:Nat),d <= 24 -> ∀(A B:List Box)(rw:List bA)(P:Nat)(k b e dp:Nat),k<l.length -> e<16 -> aL prog 139 [pP P] [P] (RSt A B rw P l k b e (24-d) dp) (RAn A B rw P l (24-d) dp (λx=>.agg (cU x)) e b (bL l d k))
 |0,_,A,B,rw,P,k,b,e,dp,hk,he=>bEx A B rw P l k b e dp hok hk he
 |d+1,hd,A,B,rw,P,k,b,e,dp,hk,he=>bE0 A B rw P l k b e (24-(d+1)) dp d J hok hk he
   (λA B rw P k b e ns dp hns hk he=>by
    obtain rfl:ns=24-d:=J
    exact bD3 l hok d J A B rw P k b e dp hk he)
   (λA B rw P k b e ns dp hns hk he=>by
    obtain rfl:ns=24-d:=J
    exact bEk l hok d (bD3 l hok d J) 5 (Nat.le_refl _) A B rw P k b e dp hk he)
theorem bD9(A B:List Box)(rw:List bA)(P:Nat)(l:List Tok)(k b e dp:Nat)(hok:TOk l)(hk:k<l.length)(he:e<16):aL prog 114 [pP P,Ci 0] [P] (RSt A B rw P l k b e 0 dp) (RAn A B rw P l 0 dp (λx=>.agg (cU x)) e b (lJ l k)):=
 bEk l hok 24 (bD3 l hok 24 (Nat.le_refl _)) 5 (Nat.le_refl _) A B rw P k b e dp hk he
theorem bFc(A B:List Box)(rw:List bA)(P:Nat)(l:List Tok)(k b e dp:Nat)(hok:TOk l)(hk:k<l.length)(he:e<16):aL prog 116 [pP P] [P] (RSt A B rw P l k b e 0 dp) (RAn A B rw P l 0 dp (λx=>.agg (encR x)) e b (xV l k)):=by
 have hlen:=hok.len
 refine acX 16 func116 ?_
 refine go 8 λb1=>?_
 refine wcQ Y call65 Y (bEb (_::A) _ _ _ l k b e 0 dp hok hk he) ?_
 rintro t1 s1 ⟨x1,k1,u1,e1,rfl,hr1,hk1,he1,rfl⟩
 refine go 9 λb2=>?_
 refine wcQ Y call62 Y (bD5 (_::_::A) _ _ _ l k1 u1 e1 0 dp [91] V hok hk1) ?_
 rintro t2 s2 (⟨rfl,ha2,hm2,rfl,rfl⟩|⟨ha2,rfl,rfl⟩)
 ·refine go 6 ?_
  refine wcQ Y call114 Y (bD9 (_::_::A) _ _ _ l (k1+1) u1 0 dp hok hm2 V) ?_
  rintro t4 s4 ⟨x4,k4,u4,e4,rfl,hr4,hk4,he4,rfl⟩
  refine wo Y (bDk (hf:=aV fO cU x4 (fP _) Y Y) bDo ?_)
  refine go 6 ?_
  refine wcQ Y call86 Y (bZx (_::_::A) _ _ _ l k4 u4 e4 0 dp [93] V hok hk4 he4) ?_
  rintro t5 s5 ⟨x5,k5,u5,e5,rfl,hr5,hk5,he5,rfl⟩
  refine go 9 ?_
  exact ⟨.inr Y,_,(RSt A B rw P l (k5) (u5) (e5) (0) (dp)),(aR Y (aO [_] Y Y isAgg117 sizeOf117 (bK Y Y))),aA (.cons _ (.cons _ (.refl _))) (.refl _),⟨⟨x1,[x4]⟩,k5,u5,e5,Y,hr1.bind (f:=jT l) ((hr4.bind (f:=λe k=>(fD l [93] k).bind λ_ k=>.ok ⟨x1,[e]⟩ k) (hr5.map (f:=λ_=>cY.mk x1 [x4]))).eq λ_=>by unfold jT;rw [if_pos ha2]),hk5,he5,Y⟩⟩
 refine go 12 ?_
 exact ⟨.inr Y,_,(RSt A B rw P l (k1) (u1) (e1) (0) (dp)),(eK (Wk.agg (.r (.n .nil))) (aR Y (aO [_] Y Y isAgg117 sizeOf117 (bK Y Y)))),aA (.cons _ (.cons _ (.refl _))) (.refl _),⟨⟨x1,[]⟩,k1,u1,e1,Y,hr1.bind (f:=jT l) ((kX.pure _ _ _ _).eq λh=>by unfold jT;rw [if_neg Ep]),hk1,he1,Y⟩⟩
theorem bE5(A B:List Box)(rw:List bA)(P:Nat)(l:List Tok)(k b e dp:Nat)(hok:TOk l)(hk:k<l.length)(he:e<16):aL prog 115 [pP P] [P] (RSt A B rw P l k b e 0 dp) (RAn A B rw P l 0 dp (λx=>.c (Sq eJ x)) e b (rA l k)):=by
 have hlen:=hok.len
 refine acX 34 func115 ?_
 refine go 13 ?_
 refine wcQ Y call86 Y (bZx (A) _ _ _ l k b e 0 dp [40] V hok hk he) ?_
 rintro t1 s1 ⟨x1,k1,u1,e1,rfl,hr1,hk1,he1,rfl⟩
 refine go 6 ?_
 refine wcQ Y call62 Y (bD5 (A) _ _ _ l k1 u1 e1 0 dp [41] V hok hk1) ?_
 rintro t2 s2 (⟨rfl,ha2,hm2,rfl,rfl⟩|⟨ha2,rfl,rfl⟩)
 ·refine go 10 ?_
  exact ⟨.inr Y,_,(RSt A B rw P l (k1+1) (u1) (0) (0) (dp)),(eK (Wk.c aQl) (aR Y (aF Y))),aA (.refl _) (.refl _),⟨[],k1+1,u1,0,Y,hr1.bind EY,hm2,V,Y⟩⟩
 refine go 7 ?_
 refine qR 135 7 ?_
 refine fM (λg:List eN×Value×Nat×Nat×Nat=>(⟨34,aY g.2.1++[P],⟨A++⟨P,144,[Sq aW l,Vi (((g.2.2.1):Nat):Int),Vi (((g.2.2.2.1):Nat):Int),Vi (((g.2.2.2.2):Nat):Int),nC 0,nC dp]⟩::B,⟨g.2.1,135,7,(g.1).length,(g.1).flatMap eJ⟩::rw⟩,[(3,Cv g.2.1),(0,pP P)]⟩:AS)) (λg=>g.2.2.1<l.length /\ g.2.2.2.2<16 /\ g.1.length <= g.2.2.1 /\ (g.2.2.2.2≠0 -> kX e b (rA l k) g.1 g.2.2.1 g.2.2.2.1 g.2.2.2.2) /\ (g.2.2.2.2=0 -> ∃n,l.length <= n+g.2.2.1 /\ ∀z k' b' e',kX 0 g.2.2.2.1 (lI l (λ_=>rC l) n g.1 g.2.2.1) z k' b' e' -> kX e b (rA l k) z k' b' e')) (λg=>if g.2.2.2.2=0 then l.length-g.2.2.1+1 else 0) ([],.slice none 0 0,k1,u1,e1) (cQf (λ_ h=>h)) ⟨hk1,he1,Nat.zero_le _,λh=>hr1.bind (kX.skip h _ _ _),λh=>⟨l.length,Nat.le_add_right _ _,λz k' b' e' h2=>?_⟩⟩ ?_
 ·have h:e1=0:=h
  refine hr1.bind ?_
  rw [h,if_neg Ep]
  exact h2
 rintro ⟨acc,v0,k0,b0,e0⟩ ⟨hk0,he0,ha0,hn0,hc0⟩
 dsimp only at hk0 he0 ha0 hn0 hc0
 show AWp prog _ (⟨34,aY v0++[P],⟨A++⟨P,144,[Sq aW l,Vi (((k0):Nat):Int),Vi (((b0):Nat):Int),Vi (((e0):Nat):Int),nC 0,nC dp]⟩::B,⟨v0,135,7,(acc).length,(acc).flatMap eJ⟩::rw⟩,[(3,Cv v0),(0,pP P)]⟩:AS) _
 by_cases h0:e0=0
 ·subst h0
  obtain ⟨n0,hn1,hcont⟩:=hc0 rfl
  refine go 7 ?_
  refine wcp true Y Fs (go 17 λb1=>?_)
  refine wcQ Y call62 Y (bD2 (_::A) _ _ _ l k0 b0 0 0 dp [109,117,116,101,120] V hok hk0) ?_
  rintro t6 s6 (⟨-,ha6,hm6,rfl,rfl⟩|⟨ha6,rfl,rfl⟩)
  ·refine go 5 ?_
   refine wcQ Y call116 Y (bFc (_::A) _ _ _ l (k0+1) b0 0 dp hok hm6 V) ?_
   rintro t8 s8 ⟨x8,k8,u8,e8,rfl,hr8,hk8,he8,rfl⟩
   refine go 6 ?_
   have hel:kX 0 b0 (rC l k0) ⟨true,x8,.zero⟩ k8 u8 e8:=(hr8.map (f:=λr=>eN.mk true r .zero)).eq λ_=>by unfold rC;rw [if_pos ha6]
   refine go 2 ?_
   refine eA 24 Y (Wk.agg (.r (.r (.r (.r (.r (.r (.n .nil)))))))) ?_
   refine wo Y (bDk (hf:=aV eJ eJ ⟨true,x8,.zero⟩ Y Y Y) zb1 ?_)
   refine wo Y (bFe Tryz.t135 104 Y Y V Y Y underlying118 B6 Y Y Y Y V Y V Bv C6 (@length_append _ acc [⟨true,x8,.zero⟩]).symm Bo Bq (List.flatMap_append (f:=eJ)).symm λv9=>?_)
   refine go 6 ?_
   refine wcQ Y call62 Y (bD5 (_::A) _ _ _ l k8 u8 e8 0 dp [44] V hok hk8) ?_
   rintro t10 s10 (⟨rfl,ha10,hm10,rfl,rfl⟩|⟨ha10,rfl,rfl⟩)
   ·refine go 6 ?_
    obtain ⟨m,rfl⟩:∃m,n0=m+1:=⟨n0-1,J⟩
    have hin:=aDl hok.last hk0
    rw [(hel.good rfl).2.1] at hin
    have hin1:=hin.1
    refine ⟨(acc++[⟨true,x8,.zero⟩],v9,k8+1,u8,0),⟨hm10,Cr,by show (acc++[_]).length <= k8+1;simp;omega,λh=>absurd Y h,λ_=>⟨m,by show l.length <= m+(k8+1);omega,λz k' b' e' h=>hcont z k' b' e' ?_⟩⟩,by show (if (0:Nat)=0 then _ else _)<(if (0:Nat)=0 then _ else _);rw [if_pos rfl,if_pos rfl];show l.length-(k8+1)+1<l.length-k0+1;omega,cQf (h1:=(.cons _ (.refl _))) Dr⟩
    rw [lI]
    refine hel.bind ?_
    rw [if_pos ha10]
    exact h
   refine go 7 ?_
   refine wcQ Y call86 Y (bZx (_::A) _ _ _ l k8 u8 e8 0 dp [41] V hok hk8 he8) ?_
   rintro t13 s13 ⟨x13,k13,u13,e13,rfl,hr13,hk13,he13,rfl⟩
   refine go 8 ?_
   refine aH0 2 Y ?_
   refine go 5 ?_
   obtain ⟨m,rfl⟩:∃m,n0=m+1:=⟨n0-1,J⟩
   exact ⟨.inr Y,_,(RSt A B rw P l (k13) (u13) (e13) (0) (dp)),(aR Y (aF Y)),aA (.cons _ (.refl _)) (.refl _),⟨acc++[⟨true,x8,.zero⟩],k13,u13,e13,Y,hcont _ _ _ _ (by rw [lI];exact hel.bind ((hr13.map (f:=λ_=>acc++[⟨true,x8,.zero⟩])).eq λh=>by rw [if_neg (by rw [ha10 h];decide)])),hk13,he13,Y⟩⟩
  refine go 5 ?_
  refine wcQ Y call114 Y (bD9 (_::A) _ _ _ l k0 b0 0 dp hok hk0 he0) ?_
  rintro t15 s15 ⟨x15,k15,u15,e15,rfl,hr15,hk15,he15,rfl⟩
  refine go 6 ?_
  have hel:kX 0 b0 (rC l k0) ⟨false,.zero,x15⟩ k15 u15 e15:=(hr15.map (f:=λe=>eN.mk false .zero e)).eq λ_=>by unfold rC;rw [if_neg (by rw [ha6 rfl];decide)]
  refine go 2 ?_
  refine eA 24 Y (Wk.agg (.r (.r (.n (.r (.r (.r (.r .nil)))))))) ?_
  refine wo Y (bDk (hf:=aV eJ eJ ⟨false,.zero,x15⟩ Y Y Y) zb1 ?_)
  refine wo Y (bFe Tryz.t135 104 Y Y V Y Y underlying118 B6 Y Y Y Y V Y V Bv C6 (@length_append _ acc [⟨false,.zero,x15⟩]).symm Bo Bq (List.flatMap_append (f:=eJ)).symm λv16=>?_)
  refine go 6 ?_
  refine wcQ Y call62 Y (bD5 (_::A) _ _ _ l k15 u15 e15 0 dp [44] V hok hk15) ?_
  rintro t17 s17 (⟨rfl,ha17,hm17,rfl,rfl⟩|⟨ha17,rfl,rfl⟩)
  ·refine go 6 ?_
   obtain ⟨m,rfl⟩:∃m,n0=m+1:=⟨n0-1,J⟩
   have hin:=aDl hok.last hk0
   rw [(hel.good rfl).2.1] at hin
   have hin1:=hin.1
   refine ⟨(acc++[⟨false,.zero,x15⟩],v16,k15+1,u15,0),⟨hm17,Cr,by show (acc++[_]).length <= k15+1;simp;omega,λh=>absurd Y h,λ_=>⟨m,by show l.length <= m+(k15+1);omega,λz k' b' e' h=>hcont z k' b' e' ?_⟩⟩,by show (if (0:Nat)=0 then _ else _)<(if (0:Nat)=0 then _ else _);rw [if_pos rfl,if_pos rfl];show l.length-(k15+1)+1<l.length-k0+1;omega,cQf (h1:=(.cons _ (.refl _))) Dr⟩
   rw [lI]
   refine hel.bind ?_
   rw [if_pos ha17]
   exact h
  refine go 7 ?_
  refine wcQ Y call86 Y (bZx (_::A) _ _ _ l k15 u15 e15 0 dp [41] V hok hk15 he15) ?_
  rintro t20 s20 ⟨x20,k20,u20,e20,rfl,hr20,hk20,he20,rfl⟩
  refine go 8 ?_
  refine aH0 2 Y ?_
  refine go 5 ?_
  obtain ⟨m,rfl⟩:∃m,n0=m+1:=⟨n0-1,J⟩
  exact ⟨.inr Y,_,(RSt A B rw P l (k20) (u20) (e20) (0) (dp)),(aR Y (aF Y)),aA (.cons _ (.refl _)) (.refl _),⟨acc++[⟨false,.zero,x15⟩],k20,u20,e20,Y,hcont _ _ _ _ (by rw [lI];exact hel.bind ((hr20.map (f:=λ_=>acc++[⟨false,.zero,x15⟩])).eq λh=>by rw [if_neg (by rw [ha17 h];decide)])),hk20,he20,Y⟩⟩
 refine go 7 ?_
 refine wcp false Y (lA h0) (go 14 ?_)
 refine aH0 2 Y ?_
 refine go 1 ?_
 exact ⟨.inr Y,_,(RSt A B rw P l (k0) (b0) (e0) (0) (dp)),(aR Y (aF Y)),aA (.refl _) (.refl _),⟨acc,k0,b0,e0,Y,hn0 h0,hk0,he0,Y⟩⟩
end
end Go.Proofs.YtjgeihmhppadaaaGreatDoor
