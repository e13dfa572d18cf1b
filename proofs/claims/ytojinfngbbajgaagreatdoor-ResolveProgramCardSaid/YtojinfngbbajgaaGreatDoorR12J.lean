import Derived.Test.YtojinfngbbajgaaGreatDoorR11J
import Derived.Test.YtojinfngbbajgaaGreatDoorR8J
import Derived.Test.YtojinfngbbajgaaGreatDoorR1J
import Derived.Test.YtojinfngbbajgaaGreatDoorR9J
import Derived.Test.YtojinfngbbajgaaGreatDoorR4J
set_option linter.all false
set_option synthInstance.maxHeartbeats 1000000
set_option synthInstance.maxSize 1000000
namespace Go.Proofs.YtojinfngbbajgaaGreatDoor
open List (length_append length_cons length_nil mem_append mem_cons not_mem_nil append_assoc getElem_mem take_of_length_le)
section
def nmT(s:ByteArray):PT:=⟨1,s,0⟩
def nuT(n:Nat):PT:=⟨2,bytes (cO n),n⟩
def VX(e:aH):Prop:=VE e /\ dI e <= 24
inductive VR:cY -> Prop where
 |one (n:ByteArray) (h:bQ n=true):VR ⟨n,[]⟩
 |el (n:ByteArray) (e:aH) (h:bQ n=true) (he:VX e):VR ⟨n,[e]⟩
inductive VA:eN -> Prop where
 |mutex (r:cY) (h:VR r):VA ⟨true,r,.zero⟩
 |expr (e:aH) (h:VX e):VA ⟨false,.zero,e⟩
inductive VSs:Nat -> List aJ -> Prop where
 |nil {d:Nat}:VSs d []
 |var {d:Nat} {n:ByteArray} {e:aH} {r:List aJ} (hn:bQ n=true) (he:VX e) (h:VSs d r):VSs d (.mk 1 n e .zero [] [] []::r)
 |assign {d:Nat} {n:ByteArray} {e:aH} {r:List aJ} (hn:bQ n=true) (he:VX e) (h:VSs d r):VSs d (.mk 2 n e .zero [] [] []::r)
 |call {d:Nat} {n:ByteArray} {a:List eN} {r:List aJ} (hn:bQ n=true) (ha:∀x,x∈a -> VA x) (h:VSs d r):VSs d (.mk 3 n .zero .zero a [] []::r)
 |go {d:Nat} {n:ByteArray} {a:List eN} {r:List aJ} (hn:bQ n=true) (ha:∀x,x∈a -> VA x) (h:VSs d r):VSs d (.mk 4 n .zero .zero a [] []::r)
 |lock {d:Nat} {f:cY} {r:List aJ} (hf:VR f) (h:VSs d r):VSs d (.mk 5 aK .zero f [] [] []::r)
 |unlock {d:Nat} {f:cY} {r:List aJ} (hf:VR f) (h:VSs d r):VSs d (.mk 6 aK .zero f [] [] []::r)
 |cond {d:Nat} {e:aH} {t f r:List aJ} (he:VX e) (ht:VSs d t) (hf:VSs d f) (h:VSs (d+1) r):VSs (d+1) (.mk 7 aK e .zero [] t f::r)
 |loop {d:Nat} {e:aH} {t r:List aJ} (he:VX e) (ht:VSs d t) (h:VSs (d+1) r):VSs (d+1) (.mk 8 aK e .zero [] t []::r)
 |ret {d:Nat} {r:List aJ} (h:VSs d r):VSs d (.mk 9 aK .zero .zero [] [] []::r)
def hY(r:cY):List PT:=match r.index with|[]=>[nmT r.name]|e::_=>nmT r.name::sgn [91]::(aT e++[sgn [93]])
def wH(a:eN):List PT:=if a.mutex then wrd [109,117,116,101,120]::hY a.ref else aT a.expr
def fZ{α:Type}(f:α -> List PT):List α -> List PT
 |[]=>[]
 |x::r=>f x++(r.map fun y=>sgn [44]::f y).flatten
theorem nW{α:Type}(f:α -> List PT)(x y:α)(r:List α):fZ f (x::y::r)=f x++sgn [44]::fZ f (y::r):=by simp [fZ]
theorem aHu{α:Type}(f:α -> List UInt8)(x y:α)(r:List α):bW f (x::y::r)=f x++[44,32]++bW f (y::r):=by simp [bW]
def iG(l:List eN):List PT:=sgn [40]::(fZ wH l++[sgn [41]])
mutual
def cE:aJ -> List PT
 |.mk kind name expr ref args thn els=>
  (if kind=1 then wrd [118,97,114]::nmT name::sgn [61]::(aT expr++[sgn [59]])
   else if kind=2 then nmT name::sgn [61]::(aT expr++[sgn [59]])
   else if kind=3 then nmT name::(iG args++[sgn [59]])
   else if kind=4 then wrd [103,111]::nmT name::(iG args++[sgn [59]])
   else if kind=5 then wrd [108,111,99,107]::(hY ref++[sgn [59]])
   else if kind=6 then wrd [117,110,108,111,99,107]::(hY ref++[sgn [59]])
   else if kind=7∨kind=8 then
    (if kind=8 then wrd [119,104,105,108,101] else wrd [105,102])::(aT expr++sgn [123]::(aQ thn++sgn [125]::
     (if els.length=0 then [] else wrd [101,108,115,101]::sgn [123]::(aQ els++[sgn [125]]))))
   else [wrd [114,101,116,117,114,110],sgn [59]])
def aQ:List aJ -> List PT
 |[]=>[]
 |s::r=>cE s++aQ r
end
theorem aIf{l r:List UInt8}(h:l≠[])(hr:uL l):uL (l++r):=by
 obtain ⟨c,q,rfl⟩:=List.exists_cons_of_ne_nil h
 intro d hd
 obtain rfl:c=d:=by simpa using hd
 exact hr _ rfl
section
variable {r:List UInt8}{ps:List PT}
theorem VX.lx{e:aH}(h:VX e)(hf:Fin r)(hr:Lx r ps):Lx (aP e++r) (aT e++ps):=h.1.lx r ps hf hr
theorem VR.lx{f:cY}(h:VR f)(hf:Fin r)(hr:Lx r ps):Lx (dC f++r) (hY f++ps):=by
 cases h with
 |one n h=>exact hr.name n h hf.nam
 |el n e h he=>
  have h1:=((he.lx (Fin.cons (c:=93) (by decide)) (hr.free 93 (by decide))).free 91 (by decide)).name n h (.cons (by decide))
  simpa [dC,hY,nmT] using h1
theorem VA.lx{a:eN}(h:VA a)(hf:Fin r)(hr:Lx r ps):Lx (dE a++r) (wH a++ps):=by
 cases h with
 |mutex f h=>exact (h.lx hf hr).bl.word [109,117,116,101,120] (by decide) (.cons (by decide))
 |expr e h=>exact h.lx hf hr
theorem yR{α:Type}{fT:α -> List UInt8}{fK:α -> List PT}:∀(l:List α),(∀x,x∈l -> ∀(r:List UInt8)(ps:List PT),Fin r -> Lx r ps -> Lx (fT x++r) (fK x++ps)) -> Fin r -> Lx r ps -> Lx (bW fT l++r) (fZ fK l++ps)
 |[],_,_,hr=>hr
 |[x],h,hf,hr=>by simpa [bW,fZ] using h x (List.mem_cons_self ..) r ps hf hr
 |x::y::q,h,hf,hr=>by
  have h1:=((yR (y::q) (fun z hz=>h z (List.mem_cons_of_mem _ hz)) hf hr).bl.free 44 (by decide))
  have h2:=h x (List.mem_cons_self ..) _ _ (Fin.cons (by decide)) h1
  rw [aHu,nW]
  simpa using h2
theorem aIr{l:List eN}(h:∀x,x∈l -> VA x)(hr:Lx r ps):Lx (dF l++r) (iG l++ps):=by
 have h1:=(yR (fT:=dE) (fK:=wH) l (fun x hx r ps hf hr=>(h x hx).lx hf hr) (Fin.cons (c:=41) (by decide)) (hr.free 41 (by decide))).free 40 (by decide)
 simpa [dF,iG] using h1
theorem kG{t:List UInt8}(ht:∀c∈t,isSp c=true)(hr:Lx r ps):Lx (t++r) ps:=by
 induction t with
 |nil=>exact hr
 |cons c q ih=>exact (ih fun d hd=>ht d (List.mem_cons_of_mem _ hd)).sp (ht c (List.mem_cons_self ..))
theorem Lx.nl(h:Lx r ps):Lx (10::r) ps:=h.sp (by decide)
theorem Lx.semi(h:Lx r ps):Lx (59::10::r) (sgn [59]::ps):=h.nl.free 59 (by decide)
theorem Lx.kw(h:Lx r ps)(s:List UInt8)(hs:dA (bytes s)=true):Lx (s++32::r) (wrd s::ps):=h.bl.word s hs (.cons (by decide))
end
theorem VSs.lx{d:Nat}{l:List aJ}(h:VSs d l):∀(tabs r:List UInt8)(ps:List PT),(∀c∈tabs,isSp c=true) -> Lx r ps -> Lx (aC tabs l++r) (aQ l++ps):=by
 have f59:∀q,Fin (59::q):=fun q=>Fin.cons (by decide)
 induction h with
 |nil=>intro tabs r ps _ hr;exact hr
 |@var d n e q hn he h ih=>
  intro tabs r ps ht hr
  have h0:=ih tabs r ps ht hr
  have h1:=((((he.lx (f59 _) h0.semi).bl.one' 61 (by decide) (Fin.cons (by decide))).bl.name n hn (.cons (by decide))).kw [118,97,114] (by decide))
  simpa [aC,bY,aQ,cE,nmT] using kG ht h1
 |@assign d n e q hn he h ih=>
  intro tabs r ps ht hr
  have h0:=ih tabs r ps ht hr
  have h1:=(((he.lx (f59 _) h0.semi).bl.one' 61 (by decide) (Fin.cons (by decide))).bl.name n hn (.cons (by decide)))
  simpa [aC,bY,aQ,cE,nmT] using kG ht h1
 |@call d n a q hn ha h ih=>
  intro tabs r ps ht hr
  have h0:=ih tabs r ps ht hr
  have h1:=((aIr ha h0.semi).name n hn (aIf (by simp [dF]) (by intro c hc;simp [dF] at hc;subst hc;decide)))
  simpa [aC,bY,aQ,cE,nmT] using kG ht h1
 |@go d n a q hn ha h ih=>
  intro tabs r ps ht hr
  have h0:=ih tabs r ps ht hr
  have h1:=(((aIr ha h0.semi).name n hn (aIf (by simp [dF]) (by intro c hc;simp [dF] at hc;subst hc;decide))).kw [103,111] (by decide))
  simpa [aC,bY,aQ,cE,nmT] using kG ht h1
 |@lock d f q hf h ih=>
  intro tabs r ps ht hr
  have h0:=ih tabs r ps ht hr
  have h1:=((hf.lx (f59 _) h0.semi).kw [108,111,99,107] (by decide))
  simpa [aC,bY,aQ,cE,nmT] using kG ht h1
 |@unlock d f q hf h ih=>
  intro tabs r ps ht hr
  have h0:=ih tabs r ps ht hr
  have h1:=((hf.lx (f59 _) h0.semi).kw [117,110,108,111,99,107] (by decide))
  simpa [aC,bY,aQ,cE,nmT] using kG ht h1
 |@cond d e t f q he htt hff h iht ihf ih=>
  intro tabs r ps ht hr
  have h0:=(ih tabs r ps ht hr).nl
  have ht2:∀c∈tabs++[9],isSp c=true:=by
   intro c hc
   rcases mem_append.1 hc with hc|hc
   ·exact ht c hc
   simp at hc;subst hc;decide
  have h2:Lx ((if f.length=0 then [] else [32,101,108,115,101,32,123,10]++aC (tabs++[9]) f++tabs++[125])++10::(aC tabs q++r)) ((if f.length=0 then [] else wrd [101,108,115,101]::sgn [123]::(aQ f++[sgn [125]]))++(aQ q++ps)):=by
   by_cases hz:f.length=0
   ·rw [if_pos hz,if_pos hz];exact h0
   rw [if_neg hz,if_neg hz]
   have h3:=((ihf (tabs++[9]) _ _ ht2 (kG ht (h0.free 125 (by decide)))).nl.free 123 (by decide)).kw [101,108,115,101] (by decide)
   simpa using h3.bl
  have h4:=((iht (tabs++[9]) _ _ ht2 (kG ht (h2.free 125 (by decide)))).nl.free 123 (by decide)).bl
  have h5:=(he.lx (Fin.cons (by decide)) h4).kw [105,102] (by decide)
  have h6:=kG ht h5
  rw [aC,bY,aQ,cE]
  simpa using h6
 |@loop d e t q he htt h iht ih=>
  intro tabs r ps ht hr
  have h0:=(ih tabs r ps ht hr).nl
  have ht2:∀c∈tabs++[9],isSp c=true:=by
   intro c hc
   rcases mem_append.1 hc with hc|hc
   ·exact ht c hc
   simp at hc;subst hc;decide
  have h4:=((iht (tabs++[9]) _ _ ht2 (kG ht (h0.free 125 (by decide)))).nl.free 123 (by decide)).bl
  have h5:=(he.lx (Fin.cons (by decide)) h4).kw [119,104,105,108,101] (by decide)
  have h6:=kG ht h5
  rw [aC,bY,aQ,cE]
  simpa using h6
 |@ret d q h ih=>
  intro tabs r ps ht hr
  have h0:=ih tabs r ps ht hr
  have h1:=h0.semi.word [114,101,116,117,114,110] (by decide) (.cons (by decide))
  simpa [aC,bY,aQ,cE,nmT] using kG ht h1
section
variable {l:List Tok}{k:Nat}
theorem Seg.len{ps:List PT}(h:Seg l k ps)(hk:k <= l.length):k+ps.length <= l.length:=by
 obtain ⟨t,ht⟩:=h
 have:=congrArg List.length ht
 simp at this;omega
theorem jY{s:List UInt8}(h:(bU l k).pt=sgn s):cS l k s=true:=by rw [gK h];simp
theorem iV{s:List UInt8}(h:(bU l k).pt=sgn s):fD l s k=.ok () (k+1):=by unfold fD;rw [if_pos (jY h)]
theorem xY{s:List UInt8}(h:(bU l k).pt=wrd s)(u:List UInt8):dN l k u=decide (bytes s=bytes u):=by
 have h1:(bU l k).kind=3:=congrArg PT.kind h
 have h2:(bU l k).text=bytes s:=congrArg PT.text h
 unfold dN;rw [h1,h2];simp
theorem yE{t:PT}(h:(bU l k).pt=t)(ht:t.kind≠3)(u:List UInt8):dN l k u=false:=by
 have h1:(bU l k).kind=t.kind:=congrArg PT.kind h
 unfold dN;rw [h1,decide_eq_false ht];rfl
theorem sQ{t:PT}(h:(bU l k).pt=t)(ht:t.kind≠4)(u:List UInt8):cS l k u=false:=by
 have h1:(bU l k).kind=t.kind:=congrArg PT.kind h
 unfold cS;rw [h1,decide_eq_false ht];rfl
theorem jH{s:ByteArray}(h:(bU l k).pt=nmT s):jW l k=.ok s (k+1):=by
 have h1:(bU l k).kind=1:=congrArg PT.kind h
 have h2:(bU l k).text=s:=congrArg PT.text h
 unfold jW;rw [if_pos h1,h2]
theorem aDu{n:Nat}(h:(bU l k).pt=nuT n):qE l k=.ok n (k+1):=by
 have h1:(bU l k).kind=2:=congrArg PT.kind h
 have h2:(bU l k).num=n:=congrArg PT.num h
 unfold qE;rw [if_pos h1,h2]
theorem VX.parse{e:aH}(h:VX e){s:List UInt8}{q:List PT}(hs:Seg l k (aT e++sgn s::q))(hb:(binOp (bytes s)).2=0):lJ l k=.ok e (k+(aT e).length) /\ Seg l (k+(aT e).length) (sgn s::q):=by
 obtain ⟨h1,h2⟩:=hs.app
 exact ⟨h.1.parse h.2 h1 (aAb h2.head.1 (by omega)),h2⟩
theorem VR.parse{f:cY}(h:VR f){s:List UInt8}{q:List PT}(hs:Seg l k (hY f++sgn s::q))(ht:decide (bytes s=bytes [91])=false):xV l k=.ok f (k+(hY f).length) /\ Seg l (k+(hY f).length) (sgn s::q):=by
 cases h with
 |one n h=>
  have hs':Seg l k (nmT n::sgn s::q):=hs
  obtain ⟨h1,_,h2⟩:=hs'.head
  refine ⟨?_,h2⟩
  unfold xV
  rw [jH h1,bind_ok]
  unfold jT
  rw [if_neg];·rfl
  rw [gK h2.head.1,ht];simp
 |el n e h he=>
  have hs':Seg l k (nmT n::sgn [91]::(aT e++sgn [93]::sgn s::q)):=by simpa [hY] using hs
  obtain ⟨h1,_,h2⟩:=hs'.head
  obtain ⟨h3,_,h4⟩:=h2.head
  obtain ⟨h5,h6⟩:=he.parse h4 (by decide)
  obtain ⟨h7,_,h8⟩:=h6.head
  have hl:k+(hY ⟨n,[e]⟩).length=k+1+1+(aT e).length+1:=by simp [hY];omega
  rw [hl]
  refine ⟨?_,h8⟩
  unfold xV
  rw [jH h1,bind_ok]
  unfold jT
  rw [if_pos (jY h3),h5,bind_ok,iV h7,bind_ok]
def aGb(t:PT):Prop:=t.kind=1∨t.kind=2∨∃c,t=sgn [c] /\ c∈([45,33,40]:List UInt8)
theorem aGb.word{t:PT}(h:aGb t):t.kind≠3:=by
 rcases h with h|h|⟨c,rfl,_⟩
 ·omega
 ·omega
 show (4:Nat)≠3;omega
theorem aGb.sign{t:PT}(h:aGb t)(ht:(bU l k).pt=t)(s:List UInt8)(hs:∀c,c∈([45,33,40]:List UInt8) -> decide (bytes [c]=bytes s)=false):cS l k s=false:=by
 rcases h with h|h|⟨c,rfl,hc⟩
 ·exact sQ ht (by omega) s
 ·exact sQ ht (by omega) s
 rw [gK ht];exact hs c hc
theorem VE.beg{e:aH}(h:VE e):∃t q,aT e=t::q /\ aGb t:=by
 induction h with
 |num n h=>exact ⟨_,_,uO n,.inr (.inl rfl)⟩
 |name s h=>exact ⟨_,_,sC s,.inl rfl⟩
 |un op x h hx ih=>
  refine ⟨_,_,yB h x,.inr (.inr ⟨_,rfl,?_⟩)⟩
  rcases h with rfl|rfl<;>decide
 |bin op x y h hx hy ihx ihy=>
  rw [uI h]
  cases cV op 0 x.op with
  |true=>exact ⟨_,_,rfl,.inr (.inr ⟨40,rfl,by decide⟩)⟩
  |false=>
   obtain ⟨t,q,h1,h2⟩:=ihx
   exact ⟨t,_,by show aT x++_=_;rw [h1];rfl,h2⟩
theorem VA.parse{a:eN}(h:VA a){s:List UInt8}{q:List PT}(hs:Seg l k (wH a++sgn s::q))(ht:decide (bytes s=bytes [91])=false)(hb:(binOp (bytes s)).2=0):rC l k=.ok a (k+(wH a).length):=by
 cases h with
 |mutex f h=>
  have hs':Seg l k (wrd [109,117,116,101,120]::(hY f++sgn s::q)):=hs
  obtain ⟨h1,_,h2⟩:=hs'.head
  unfold rC
  rw [if_pos (by rw [xY h1];simp),(h.parse h2 ht).1,bind_ok]
  congr 1
  simp [wH];omega
 |expr e h=>
  have hs':Seg l k (aT e++sgn s::q):=hs
  obtain ⟨t,q',h1,h2⟩:=h.1.beg
  have h3:Seg l k (t::(q'++sgn s::q)):=by rw [h1] at hs';exact hs'
  unfold rC
  rw [if_neg (by rw [yE h3.head.1 h2.word];simp),(h.parse hs' hb).1,bind_ok]
  rfl
theorem VA.beg{a:eN}(h:VA a):∃t q,wH a=t::q /\ (t.kind=3∨aGb t):=by
 cases h with
 |mutex f h=>exact ⟨_,_,rfl,.inl rfl⟩
 |expr e h=>
  obtain ⟨t,q,h1,h2⟩:=h.1.beg
  exact ⟨t,q,h1,.inr h2⟩
theorem zS{α:Type}{f:α -> List PT}{el:Nat -> Nat -> bN α}:∀(rest acc:List α)(n k:Nat),rest≠[] -> rest.length <= n ->
  (∀i (h:i<rest.length) k s q,s=[44]∨s=[41] -> Seg l k (f rest[i]++sgn s::q) -> el (acc.length+i) k=.ok rest[i] (k+(f rest[i]).length)) ->
  ∀q,Seg l k (fZ f rest++sgn [41]::q) -> lI l el n acc k=.ok (acc++rest) (k+(fZ f rest).length+1)
 |[],_,_,_,h,_,_,_,_=>absurd rfl h
 |[x],acc,n,k,_,hn,he,q,hs=>by
  obtain ⟨n,rfl⟩:∃n',n=n'+1:=⟨n-1,by simp at hn;omega⟩
  have hs':Seg l k (f x++sgn [41]::q):=by simpa [fZ] using hs
  have h1:=he 0 (by simp) k [41] q (.inr rfl) hs'
  have h2:=(hs'.app.2).head.1
  unfold lI
  have h1':el acc.length k=.ok x (k+(f x).length):=h1
  rw [h1',bind_ok,if_neg (by rw [gK h2];decide),iV h2,bind_ok]
  simp [fZ]
 |x::y::r,acc,n,k,_,hn,he,q,hs=>by
  obtain ⟨n,rfl⟩:∃n',n=n'+1:=⟨n-1,by simp at hn;omega⟩
  rw [nW] at hs
  have hs':Seg l k (f x++sgn [44]::(fZ f (y::r)++sgn [41]::q)):=by simpa using hs
  have h1:=he 0 (by simp) k [44] _ (.inl rfl) hs'
  obtain ⟨h2,_,h3⟩:=(hs'.app.2).head
  unfold lI
  have h1':el acc.length k=.ok x (k+(f x).length):=h1
  rw [h1',bind_ok,if_pos (jY h2)]
  rw [zS (y::r) (acc++[x]) n _ (by simp) (by simp at hn⊢;omega) (fun i h k s q hq hs=>by
   have:=he (i+1) (by simp at h⊢;omega) k s q hq (by simpa using hs)
   simpa [Nat.add_assoc,Nat.add_comm,Nat.add_left_comm] using this) q h3,nW]
  simp;omega
theorem vN{α:Type}{f:α -> List PT}{el:Nat -> Nat -> bN α}(xs:List α)(k:Nat)(q:List PT)(hk:k <= l.length)(hs:Seg l k (sgn [40]::(fZ f xs++sgn [41]::q)))
  (hb:∀x,x∈xs -> ∃t p,f x=t::p /\ (t.kind=3∨aGb t))
  (he:∀i (h:i<xs.length) k s q,s=[44]∨s=[41] -> Seg l k (f xs[i]++sgn s::q) -> el i k=.ok xs[i] (k+(f xs[i]).length)):jC l el k=.ok xs (k+(fZ f xs).length+2):=by
 obtain ⟨h1,_,h2⟩:=hs.head
 unfold jC
 rw [iV h1,bind_ok]
 cases xs with
 |nil=>
  have h3:Seg l (k+1) (sgn [41]::q):=h2
  rw [if_pos (jY h3.head.1)]
  rfl
 |cons x r=>
  obtain ⟨t,p,hx,ht⟩:=hb x (List.mem_cons_self ..)
  have h3:∃u,fZ f (x::r)++sgn [41]::q=t::u:=⟨p++(r.map fun y=>sgn [44]::f y).flatten++sgn [41]::q,by show (f x++(r.map fun y=>sgn [44]::f y).flatten)++sgn [41]::q=_;rw [hx];simp⟩
  obtain ⟨u,hu⟩:=h3
  have h4:Seg l (k+1) (t::u):=by rw [←hu];exact h2
  have h5:cS l (k+1) [41]=false:=by
   rcases ht with ht|ht
   ·exact sQ h4.head.1 (by omega) _
   exact ht.sign h4.head.1 _ (by decide)
  rw [if_neg (by rw [h5];simp)]
  have hlen:(x::r).length <= l.length:=by
   have h6:∀(ys:List α),(∀y,y∈ys -> ∃t p,f y=t::p /\ (t.kind=3∨aGb t)) -> ys.length <= (fZ f ys).length:=by
    intro ys
    induction ys with
    |nil=>intro _;simp
    |cons y ys ih=>
     intro hh
     cases ys with
     |nil=>
      obtain ⟨t,p,h7,_⟩:=hh y (List.mem_cons_self ..)
      simp [fZ,h7]
     |cons z zs=>
      have:=ih fun y hy=>hh y (List.mem_cons_of_mem _ hy)
      rw [nW]
      simp at this⊢;omega
   have h7:=h6 (x::r) hb
   have h8:=hs.len hk
   simp at h8;omega
  rw [zS (x::r) [] l.length (k+1) (by simp) hlen (fun i h k s q hq hs=>by simpa using he i h k s q hq hs) q h2]
  simp;omega
theorem yY{a:List eN}(h:∀x,x∈a -> VA x){q:List PT}(hk:k <= l.length)(hs:Seg l k (iG a++q)):rA l k=.ok a (k+(iG a).length) /\ Seg l (k+(iG a).length) q:=by
 refine ⟨?_,hs.app.2⟩
 have hs':Seg l k (sgn [40]::(fZ wH a++sgn [41]::q)):=by simpa [iG] using hs
 have:=vN (el:=fun _=>rC l) a k q hk hs' (fun x hx=>(h x hx).beg) (fun i hi k s q hq hs=>(h _ (getElem_mem hi)).parse hs (by rcases hq with rfl|rfl<;>decide) (by rcases hq with rfl|rfl<;>decide))
 unfold rA
 rw [this]
 simp [iG];omega
theorem kI(s:aJ){q:List PT}(hs:Seg l k (sgn [59]::q)):oO l s k=.ok s (k+1):=by
 unfold oO;rw [iV hs.head.1,bind_ok]
end
end
section
section
variable {l:List Tok}
def aNb(t:PT):Prop:=t.kind=1∨∃s,t=wrd s /\ decide (bytes s=bytes [101,108,115,101])=false
theorem aNb.sign{t:PT}{k:Nat}(h:aNb t)(ht:(bU l k).pt=t)(s:List UInt8):cS l k s=false:=by
 rcases h with h|⟨u,rfl,_⟩
 ·exact sQ ht (by omega) s
 exact sQ ht (by show (3:Nat)≠4;omega) s
theorem aNb.els{t:PT}{k:Nat}(h:aNb t)(ht:(bU l k).pt=t):dN l k [101,108,115,101]=false:=by
 rcases h with h|⟨u,rfl,hu⟩
 ·exact yE ht (by omega) _
 rw [xY ht];exact hu
theorem VSs.beg{d:Nat}{s:aJ}{r:List aJ}(h:VSs d (s::r)):∃t q,cE s=t::q /\ aNb t:=by
 cases h with
 |var|go|lock|unlock|ret|loop|cond=>exact ⟨_,_,by rw [cE];rfl,.inr ⟨_,rfl,by decide⟩⟩
 |assign|call=>exact ⟨_,_,by rw [cE];rfl,.inl rfl⟩
theorem VSs.tail{d:Nat}{s:aJ}{r:List aJ}(h:VSs d (s::r)):VSs d r:=by cases h<;>assumption
theorem aJk{d:Nat}{r:List aJ}(h:VSs d r){k:Nat}{q:List PT}(hs:Seg l k (aQ r++sgn [125]::q)):dN l k [101,108,115,101]=false:=by
 cases r with
 |nil=>
  have hs':Seg l k (sgn [125]::q):=hs
  exact yE hs'.head.1 (by show (4:Nat)≠3;omega) _
 |cons s r=>
  obtain ⟨t,p,h1,h2⟩:=h.beg
  rw [aQ,h1] at hs
  have hs':Seg l k (t::(p++aQ r++sgn [125]::q)):=by simpa using hs
  exact h2.els hs'.head.1
theorem gI{k:Nat}{s:List UInt8}(h:(bU l k).pt=wrd s):dN l k s=true:=by rw [xY h];simp
theorem cG{k:Nat}{s u:List UInt8}(h:(bU l k).pt=wrd s)(hu:decide (bytes s=bytes u)=false):¬dN l k u=true:=by rw [xY h,hu];simp
theorem wM{k:Nat}{n:ByteArray}(h:(bU l k).pt=nmT n)(u:List UInt8):¬dN l k u=true:=by rw [yE h (by show (1:Nat)≠3;omega)];simp
theorem aGl{d:Nat}{s:aJ}{r:List aJ}(h:VSs d (s::r))(blk:Nat -> bN (List aJ))
  (hb:∀d' b k q,d=d'+1 -> VSs d' b -> k <= l.length -> Seg l k (sgn [123]::(aQ b++sgn [125]::q)) -> b.length <= (aQ b).length -> blk k=.ok b (k+(aQ b).length+2))
  (hc:∀d' b,VSs d' b -> b.length <= (aQ b).length) {k:Nat} {q:List PT} (hk:k <= l.length) (hs:Seg l k (cE s++(aQ r++sgn [125]::q))):fB l blk k=.ok s (k+(cE s).length):=by
 have hlen:=hs.app.1.len hk
 cases h with
 |@var _ n e _ hn he h=>
  rw [cE] at hs hlen⊢
  simp only [if_true] at hs hlen⊢
  obtain ⟨h1,_,h2⟩:=hs.head
  unfold fB
  rw [if_pos (gI h1)]
  obtain ⟨h3,_,h4⟩:=h2.head
  obtain ⟨h5,_,h6⟩:=h4.head
  obtain ⟨h7,h8⟩:=he.parse (s:=[59]) (q:=aQ r++sgn [125]::q) (by simpa using h6) (by decide)
  unfold qI
  rw [jH h3,bind_ok,iV h5,bind_ok,h7,bind_ok,kI _ h8]
  simp;omega
 |@assign _ n e _ hn he h=>
  rw [cE] at hs hlen⊢
  simp only [if_true,show ¬((2:Int)=1) by decide,if_false] at hs hlen⊢
  obtain ⟨h3,_,h4⟩:=hs.head
  obtain ⟨h5,_,h6⟩:=h4.head
  obtain ⟨h7,h8⟩:=he.parse (s:=[59]) (q:=aQ r++sgn [125]::q) (by simpa using h6) (by decide)
  unfold fB
  repeat rw [if_neg (wM h3 _)]
  unfold mG
  rw [jH h3,bind_ok]
  unfold iB
  rw [if_pos (jY h5),h7,bind_ok,kI _ h8]
  simp;omega
 |@call _ n a _ hn ha h=>
  rw [cE] at hs hlen⊢
  simp only [if_true,show ¬((3:Int)=1) by decide,show ¬((3:Int)=2) by decide,if_false] at hs hlen⊢
  obtain ⟨h3,hk3,h4⟩:=hs.head
  have h4':Seg l (k+1) (iG a++sgn [59]::(aQ r++sgn [125]::q)):=by simpa using h4
  have h5:Seg l (k+1) (sgn [40]::(fZ wH a++[sgn [41]]++sgn [59]::(aQ r++sgn [125]::q))):=by simpa [iG] using h4'
  obtain ⟨h7,h8⟩:=yY ha (by omega) h4'
  unfold fB
  repeat rw [if_neg (wM h3 _)]
  unfold mG
  rw [jH h3,bind_ok]
  unfold iB
  rw [if_neg (by rw [gK h5.head.1];decide),h7,bind_ok,kI _ h8]
  simp;omega
 |@go _ n a _ hn ha h=>
  rw [cE] at hs hlen⊢
  simp only [if_true,show ¬((4:Int)=1) by decide,show ¬((4:Int)=2) by decide,show ¬((4:Int)=3) by decide,if_false] at hs hlen⊢
  obtain ⟨h1,_,h2⟩:=hs.head
  obtain ⟨h3,hk3,h4⟩:=h2.head
  have h4':Seg l (k+1+1) (iG a++sgn [59]::(aQ r++sgn [125]::q)):=by simpa using h4
  obtain ⟨h7,h8⟩:=yY ha (by omega) h4'
  unfold fB
  rw [if_neg (cG h1 (by decide)),if_pos (gI h1)]
  unfold goP
  rw [jH h3,bind_ok,h7,bind_ok,kI _ h8]
  simp;omega
 |@lock _ f _ hf h=>
  rw [cE] at hs hlen⊢
  simp only [if_true,show ¬((5:Int)=1) by decide,show ¬((5:Int)=2) by decide,show ¬((5:Int)=3) by decide,show ¬((5:Int)=4) by decide,if_false] at hs hlen⊢
  obtain ⟨h1,_,h2⟩:=hs.head
  obtain ⟨h7,h8⟩:=hf.parse (s:=[59]) (q:=aQ r++sgn [125]::q) (by simpa using h2) (by decide)
  unfold fB
  rw [if_neg (cG h1 (by decide)),if_neg (cG h1 (by decide)),if_pos (gI h1)]
  unfold nH
  rw [h7,bind_ok,kI _ h8]
  simp;omega
 |@unlock _ f _ hf h=>
  rw [cE] at hs hlen⊢
  simp only [if_true,show ¬((6:Int)=1) by decide,show ¬((6:Int)=2) by decide,show ¬((6:Int)=3) by decide,show ¬((6:Int)=4) by decide,show ¬((6:Int)=5) by decide,if_false] at hs hlen⊢
  obtain ⟨h1,_,h2⟩:=hs.head
  obtain ⟨h7,h8⟩:=hf.parse (s:=[59]) (q:=aQ r++sgn [125]::q) (by simpa using h2) (by decide)
  unfold fB
  rw [if_neg (cG h1 (by decide)),if_neg (cG h1 (by decide)),if_neg (cG h1 (by decide)),if_pos (gI h1)]
  unfold nH
  rw [h7,bind_ok,kI _ h8]
  simp;omega
 |@cond d e t f _ he ht hf h=>
  rw [cE] at hs hlen⊢
  simp only [if_true,show ¬((7:Int)=1) by decide,show ¬((7:Int)=2) by decide,show ¬((7:Int)=3) by decide,show ¬((7:Int)=4) by decide,show ¬((7:Int)=5) by decide,show ¬((7:Int)=6) by decide,show ¬((7:Int)=8) by decide,true_or,if_false] at hs hlen⊢
  obtain ⟨h1,_,h2⟩:=hs.head
  obtain ⟨h7,h8⟩:=he.parse (s:=[123]) (q:=aQ t++sgn [125]::((if f.length=0 then [] else wrd [101,108,115,101]::sgn [123]::(aQ f++[sgn [125]]))++(aQ r++sgn [125]::q))) (by simpa using h2) (by decide)
  have hk8:=h8.head.2.1
  have h9:=hb d t _ _ rfl ht (by omega) h8 (hc _ _ ht)
  obtain ⟨_,_,h10⟩:=(h8.head.2.2.app.2).head
  unfold fB
  rw [if_neg (cG h1 (by decide)),if_neg (cG h1 (by decide)),if_neg (cG h1 (by decide)),if_neg (cG h1 (by decide)),if_pos (gI h1)]
  unfold ifP
  rw [h7,bind_ok,h9,bind_ok]
  have ek:k+1+(aT e).length+(aQ t).length+2=k+1+(aT e).length+1+(aQ t).length+1:=by omega
  rw [ek]
  unfold tA
  by_cases hz:f.length=0
  ·rw [if_pos hz] at h10 hlen⊢
   rw [if_neg (by rw [aJk h h10];simp)]
   have:f=[]:=List.length_eq_zero_iff.1 hz
   subst this
   simp;omega
  ·rw [if_neg hz] at h10 hlen⊢
   obtain ⟨h11,_,h12⟩:=h10.head
   rw [if_pos (gI h11)]
   have h12':Seg l (k+1+(aT e).length+1+(aQ t).length+1+1) (sgn [123]::(aQ f++sgn [125]::(aQ r++sgn [125]::q))):=by simpa using h12
   have hk12:=h12'.head.2.1
   rw [hb d f _ _ rfl hf (by omega) h12' (hc _ _ hf),bind_ok]
   simp;omega
 |@loop d e t _ he ht h=>
  rw [cE] at hs hlen⊢
  simp only [if_true,show ¬((8:Int)=1) by decide,show ¬((8:Int)=2) by decide,show ¬((8:Int)=3) by decide,show ¬((8:Int)=4) by decide,show ¬((8:Int)=5) by decide,show ¬((8:Int)=6) by decide,or_true,if_false,length_nil] at hs hlen⊢
  obtain ⟨h1,_,h2⟩:=hs.head
  obtain ⟨h7,h8⟩:=he.parse (s:=[123]) (q:=aQ t++sgn [125]::(aQ r++sgn [125]::q)) (by simpa using h2) (by decide)
  have hk8:=h8.head.2.1
  have h9:=hb d t _ _ rfl ht (by omega) h8 (hc _ _ ht)
  unfold fB
  rw [if_neg (cG h1 (by decide)),if_neg (cG h1 (by decide)),if_neg (cG h1 (by decide)),if_neg (cG h1 (by decide)),if_neg (cG h1 (by decide)),if_pos (gI h1)]
  unfold pJ
  rw [h7,bind_ok,h9,bind_ok]
  simp;omega
 |@ret _ _ h=>
  rw [cE] at hs hlen⊢
  simp only [show ¬((9:Int)=1) by decide,show ¬((9:Int)=2) by decide,show ¬((9:Int)=3) by decide,show ¬((9:Int)=4) by decide,show ¬((9:Int)=5) by decide,show ¬((9:Int)=6) by decide,show ¬((9:Int)=8) by decide,show ¬((9:Int)=7) by decide,or_self,if_false] at hs hlen⊢
  obtain ⟨h1,_,h2⟩:=hs.head
  unfold fB
  rw [if_neg (cG h1 (by decide)),if_neg (cG h1 (by decide)),if_neg (cG h1 (by decide)),if_neg (cG h1 (by decide)),if_neg (cG h1 (by decide)),if_neg (cG h1 (by decide)),if_pos (gI h1)]
  unfold aD8
  rw [kI _ h2]
  rfl
theorem VSs.count{d:Nat}{b:List aJ}(h:VSs d b):b.length <= (aQ b).length:=by
 induction b with
 |nil=>simp
 |cons s r ih=>
  obtain ⟨t,q,h1,_⟩:=h.beg
  have:=ih h.tail
  rw [aQ,h1]
  simp;omega
theorem xJ{d:Nat}(st:Nat -> bN aJ)(hst:∀s r k q,VSs d (s::r) -> k <= l.length -> Seg l k (cE s++(aQ r++sgn [125]::q)) -> st k=.ok s (k+(cE s).length)):
  ∀(b acc:List aJ)(n k:Nat)(q:List PT),VSs d b -> b.length<n -> k <= l.length -> Seg l k (aQ b++sgn [125]::q) -> eS l st n acc k=.ok (acc++b) (k+(aQ b).length+1)
 |[],acc,n,k,q,_,hn,_,hs=>by
  obtain ⟨n,rfl⟩:∃n',n=n'+1:=⟨n-1,by simp at hn;omega⟩
  have hs':Seg l k (sgn [125]::q):=hs
  unfold eS
  rw [if_pos (jY hs'.head.1)]
  simp [aQ]
 |s::r,acc,n,k,q,h,hn,hk,hs=>by
  obtain ⟨n,rfl⟩:∃n',n=n'+1:=⟨n-1,by simp at hn;omega⟩
  rw [aQ] at hs
  have hs':Seg l k (cE s++(aQ r++sgn [125]::q)):=by simpa using hs
  obtain ⟨t,p,h1,h2⟩:=h.beg
  have h3:Seg l k (t::(p++(aQ r++sgn [125]::q))):=by rw [h1] at hs';exact hs'
  have hlen:=hs'.app.1.len hk
  unfold eS
  rw [if_neg (by rw [h2.sign h3.head.1];simp),hst s r k q h hk hs',bind_ok,xJ st hst r (acc++[s]) n _ q h.tail (by simp at hn;omega) hlen hs'.app.2]
  rw [aQ]
  simp;omega
theorem xI:∀(d:Nat)(b:List aJ)(k:Nat)(q:List PT),VSs d b -> k <= l.length -> Seg l k (sgn [123]::(aQ b++sgn [125]::q)) -> eX l (d+1) k=.ok b (k+(aQ b).length+2)
 |d,b,k,q,h,hk,hs=>by
  obtain ⟨h1,hk1,h2⟩:=hs.head
  have hlen:=hs.len hk
  have hcnt:=h.count
  simp at hlen
  unfold eX
  rw [iV h1,bind_ok]
  rw [xJ (d:=d) (fB l (eX l d)) (fun s r k q hh hk hs=>aGl hh (eX l d) (fun d' b k q hd hb hk hs _=>by
   subst hd
   exact xI d' b k q hb hk hs) (fun _ _ hb=>hb.count) hk hs) b [] l.length (k+1) q h (by omega) (by omega) h2]
  simp;omega
end
end
section
inductive fF where
 |glob (g:aI)
 |mtx (m:cL)
 |fn (f:bS)
def VG(g:aI):Prop:=bQ g.name=true /\ g.init.natAbs <= 9223372036854775807
def VM(m:cL):Prop:=bQ m.name=true /\ 0 <= m.size /\ m.size <= 64 /\ (m.reentrant=true -> m.size=0)
def VF(f:bS):Prop:=bQ f.name=true /\ f.params.length <= 6 /\ (∀x,x∈f.params -> bQ x.name=true) /\ VSs 23 f.body
def fF.ok:fF -> Prop
 |.glob g=>VG g
 |.mtx m=>VM m
 |.fn f=>VF f
def fF.text:fF -> List UInt8
 |.glob g=>aU g
 |.mtx m=>bE m
 |.fn f=>funcText f
def bEr(g:aI):List PT:=wrd [118,97,114]::nmT g.name::((if g.init=0 then [] else sgn [61]::(if g.init<0 then [sgn [45],nuT g.init.natAbs] else [nuT g.init.natAbs]))++[sgn [59]])
def gT(m:cL):List PT:=(if m.reentrant then wrd [114,109,117,116,101,120] else wrd [109,117,116,101,120])::nmT m.name::((if 0<m.size then [sgn [91],nuT m.size.natAbs,sgn [93]] else [])++[sgn [59]])
def lQ(x:aS):List PT:=(if x.mutex then [wrd [109,117,116,101,120]] else [])++[nmT x.name]
def kA(f:bS):List PT:=wrd [102,117,110,99]::nmT f.name::sgn [40]::(fZ lQ f.params++sgn [41]::sgn [123]::(aQ f.body++[sgn [125]]))
def fF.toks:fF -> List PT
 |.glob g=>bEr g
 |.mtx m=>gT m
 |.fn f=>kA f
def fF.add(x:cK):fF -> cK
 |.glob g=>{x with globals:=x.globals++[g]}
 |.mtx m=>{x with mutexes:=x.mutexes++[m]}
 |.fn f=>{x with funcs:=x.funcs++[f]}
section
variable {r:List UInt8}{ps:List PT}
theorem VG.lx{g:aI}(h:VG g)(hr:Lx r ps):Lx (aU g++r) (bEr g++ps):=by
 obtain ⟨hn,hi⟩:=h
 unfold aU bEr
 by_cases h0:g.init=0
 ·rw [if_pos h0,if_pos h0]
  have h1:=(hr.semi.name g.name hn (.cons (by decide))).kw [118,97,114] (by decide)
  simpa [nmT] using h1
 rw [if_neg h0,if_neg h0]
 have h1:=hr.semi.num g.init.natAbs hi (.cons (by decide))
 have hsta:Sta (cO g.init.natAbs++59::10::r):=by
  have:=(VE.num g.init.natAbs hi).sta
  rw [wE] at this
  exact this.app _
 unfold eH
 by_cases hneg:g.init<0
 ·rw [if_pos hneg,if_pos hneg]
  have h2:=(((h1.pre 45 (by decide) hsta).bl.one' 61 (by decide) (Fin.cons (by decide))).bl.name g.name hn (.cons (by decide))).kw [118,97,114] (by decide)
  simpa [nmT,nuT] using h2
 rw [if_neg hneg,if_neg hneg]
 have h2:=((h1.bl.one' 61 (by decide) (Fin.cons (by decide))).bl.name g.name hn (.cons (by decide))).kw [118,97,114] (by decide)
 simpa [nmT,nuT] using h2
theorem VM.lx{m:cL}(h:VM m)(hr:Lx r ps):Lx (bE m++r) (gT m++ps):=by
 obtain ⟨hn,h0,h1,h2⟩:=h
 have key:Lx (m.name.data.toList++(if 0<m.size then [91]++eH m.size++[93] else [])++[59,10]++r) (nmT m.name::((if 0<m.size then [sgn [91],nuT m.size.natAbs,sgn [93]] else [])++[sgn [59]])++ps):=by
  by_cases hp:0<m.size
  ·rw [if_pos hp,if_pos hp]
   have h3:=(((hr.semi.free 93 (by decide)).num m.size.natAbs (by omega) (.cons (by decide))).free 91 (by decide)).name m.name hn (.cons (by decide))
   unfold eH
   rw [if_neg (by omega)]
   simpa [nmT,nuT] using h3
  rw [if_neg hp,if_neg hp]
  have h3:=hr.semi.name m.name hn (.cons (by decide))
  simpa [nmT] using h3
 unfold bE gT
 cases hre:m.reentrant with
 |true=>
  have:=key.kw [114,109,117,116,101,120] (by decide)
  simpa using this
 |false=>
  have:=key.kw [109,117,116,101,120] (by decide)
  simpa using this
theorem aNk{x:aS}(h:bQ x.name=true)(hf:Fin r)(hr:Lx r ps):Lx (bX x++r) (lQ x++ps):=by
 unfold bX lQ
 have h1:=hr.name x.name h hf.nam
 cases x.mutex with
 |true=>
  have h2:=h1.kw [109,117,116,101,120] (by decide)
  simpa [nmT] using h2
 |false=>simpa [nmT] using h1
theorem VF.lx{f:bS}(h:VF f)(hr:Lx r ps):Lx (funcText f++r) (kA f++ps):=by
 obtain ⟨hn,h0,h1,h2⟩:=h
 have h3:=((h2.lx [9] _ _ (by decide) (hr.nl.free 125 (by decide))).nl.free 123 (by decide)).bl.free 41 (by decide)
 have h4:=((yR (fT:=bX) (fK:=lQ) f.params (fun x hx r ps hf hr=>aNk (h1 x hx) hf hr) (Fin.cons (by decide)) h3).free 40 (by decide)).name f.name hn (.cons (by decide))
 have h5:=h4.kw [102,117,110,99] (by decide)
 unfold funcText kA
 simpa [nmT] using h5
theorem fF.lx{x:fF}(h:x.ok)(hr:Lx r ps):Lx (x.text++r) (x.toks++ps):=by
 cases x with
 |glob g=>exact VG.lx h hr
 |mtx m=>exact VM.lx h hr
 |fn f=>exact VF.lx h hr
theorem uR:∀(ds:List fF),(∀x,x∈ds -> x.ok) -> Lx r ps -> Lx ((ds.map fF.text).flatten++r) ((ds.map fF.toks).flatten++ps)
 |[],_,hr=>hr
 |x::ds,h,hr=>by
  have h1:=fF.lx (h x (List.mem_cons_self ..)) (uR ds (fun y hy=>h y (List.mem_cons_of_mem _ hy)) hr)
  simpa using h1
end
section
variable {l:List Tok}
theorem aFa{x:aS}(h:bQ x.name=true){n k:Nat}{s:List UInt8}{q:List PT}(hn:n<6)(hs:Seg l k (lQ x++sgn s::q)):fQ l n k=.ok x (k+(lQ x).length):=by
 obtain ⟨nm,mu⟩:=x
 unfold fQ
 rw [if_neg (fun hh=>by omega)]
 cases mu with
 |true=>
  have hs':Seg l k (wrd [109,117,116,101,120]::nmT nm::sgn s::q):=hs
  obtain ⟨h1,_,h2⟩:=hs'.head
  rw [if_pos (gI h1),jH h2.head.1]
  rfl
 |false=>
  have hs':Seg l k (nmT nm::sgn s::q):=hs
  rw [if_neg (wM hs'.head.1 _),jH hs'.head.1]
  rfl
theorem VG.parse{g:aI}{k:Nat}{q:List PT}(hs:Seg l k (bEr g++q)):mP l (k+1)=.ok g (k+(bEr g).length):=by
 obtain ⟨nm,i⟩:=g
 unfold bEr at hs⊢
 simp only at hs⊢
 obtain ⟨h1,_,h2⟩:=hs.head
 obtain ⟨h3,_,h4⟩:=h2.head
 unfold mP
 rw [jH h3,bind_ok]
 by_cases h0:i=0
 ·rw [if_pos h0] at h4⊢
  have h5:Seg l (k+1+1) (sgn [59]::q):=h4
  rw [if_neg (by rw [gK h5.head.1];decide),iV h5.head.1,bind_ok,h0]
  rfl
 rw [if_neg h0] at h4⊢
 by_cases hn:i<0
 ·rw [if_pos hn] at h4⊢
  have h5:Seg l (k+1+1) (sgn [61]::sgn [45]::nuT i.natAbs::sgn [59]::q):=h4
  obtain ⟨h6,_,h7⟩:=h5.head
  obtain ⟨h8,_,h9⟩:=h7.head
  obtain ⟨h10,_,h11⟩:=h9.head
  rw [if_pos (jY h6),if_pos (jY h8),aDu h10,bind_ok,iV h11.head.1,bind_ok]
  rw [show -((i.natAbs:Nat):Int)=i by omega]
  rfl
 rw [if_neg hn] at h4⊢
 have h5:Seg l (k+1+1) (sgn [61]::nuT i.natAbs::sgn [59]::q):=h4
 obtain ⟨h6,_,h7⟩:=h5.head
 obtain ⟨h8,_,h9⟩:=h7.head
 rw [if_pos (jY h6),if_neg (by rw [sQ h8 (by show (2:Nat)≠4;omega)];simp),aDu h8,bind_ok,iV h9.head.1,bind_ok]
 rw [show ((i.natAbs:Nat):Int)=i by omega]
 rfl
theorem VM.parse{m:cL}(h:VM m){k:Nat}{q:List PT}(hs:Seg l k (gT m++q)):nE l m.reentrant (k+1)=.ok m (k+(gT m).length):=by
 obtain ⟨nm,re,sz⟩:=m
 obtain ⟨_,g0,g1,g2⟩:=h
 simp only at g0 g1 g2
 unfold gT at hs⊢
 simp only at hs⊢
 obtain ⟨h1,_,h2⟩:=hs.head
 obtain ⟨h3,_,h4⟩:=h2.head
 unfold nE
 rw [jH h3,bind_ok]
 by_cases h0:0<sz
 ·have hre:re=false:=by
   cases re with
   |false=>rfl
   |true=>have:=g2 rfl;omega
  rw [if_pos h0] at h4⊢
  have h5:Seg l (k+1+1) (sgn [91]::nuT sz.natAbs::sgn [93]::sgn [59]::q):=h4
  obtain ⟨h6,_,h7⟩:=h5.head
  obtain ⟨h8,_,h9⟩:=h7.head
  obtain ⟨h10,_,h11⟩:=h9.head
  rw [if_pos ⟨hre,jY h6⟩]
  unfold qX
  rw [aDu h8,bind_ok,if_neg (by omega),bind_ok,iV h10,bind_ok,iV h11.head.1,bind_ok]
  rw [show ((sz.natAbs:Nat):Int)=sz by omega]
  rfl
 ·rw [if_neg h0] at h4⊢
  have h5:Seg l (k+1+1) (sgn [59]::q):=h4
  rw [if_neg (fun hh=>by rw [gK h5.head.1] at hh;exact absurd hh.2 (by decide)),iV h5.head.1,bind_ok]
  rw [show sz=0 by omega]
  rfl
theorem VF.parse{f:bS}(h:VF f){k:Nat}{q:List PT}(hk:k <= l.length)(hs:Seg l k (kA f++q)):sW l (k+1)=.ok f (k+(kA f).length):=by
 obtain ⟨nm,pa,bd⟩:=f
 obtain ⟨_,g0,g1,g2⟩:=h
 simp only at g0 g1 g2
 have hlen:=hs.app.1.len hk
 unfold kA at hs hlen⊢
 simp only at hs hlen⊢
 obtain ⟨h1,hk1,h2⟩:=hs.head
 obtain ⟨h3,hk2,h4⟩:=h2.head
 have h4':Seg l (k+1+1) (sgn [40]::(fZ lQ pa++sgn [41]::(sgn [123]::(aQ bd++sgn [125]::q)))):=by simpa using h4
 unfold sW
 rw [jH h3,bind_ok,vN (f:=lQ) pa (k+1+1) _ (by omega) h4' (fun x hx=>by
  unfold lQ
  cases x.mutex with
  |true=>exact ⟨_,_,rfl,.inl rfl⟩
  |false=>exact ⟨_,_,rfl,.inr (.inl rfl)⟩) (fun i hi k s q _ hs=>aFa (g1 _ (getElem_mem hi)) (by omega) hs),bind_ok]
 have h5:=h4'.head.2.2.app.2.head.2.2
 simp at hlen
 rw [show k+1+1+(fZ lQ pa).length+2=k+1+1+1+(fZ lQ pa).length+1 by omega]
 rw [xI 23 bd _ q g2 (by omega) h5,bind_ok]
 simp;omega
def gN:List fF -> Nat
 |[]=>0
 |.glob _::r=>gN r+1
 |_::r=>gN r
def mN:List fF -> Nat
 |[]=>0
 |.mtx _::r=>mN r+1
 |_::r=>mN r
def fN:List fF -> Nat
 |[]=>0
 |.fn _::r=>fN r+1
 |_::r=>fN r
theorem aD6(x:fF):∃s q,x.toks=wrd s::q:=by
 cases x with
 |glob g=>exact ⟨_,_,rfl⟩
 |fn f=>exact ⟨_,_,rfl⟩
 |mtx m=>
  show ∃s q,gT m=wrd s::q
  unfold gT
  cases m.reentrant<;>exact ⟨_,_,rfl⟩
theorem aGi{d:fF}{x:cK}(h:d.ok){k:Nat}{q:List PT}(hk:k <= l.length)(hs:Seg l k (d.toks++q))(hg:x.globals.length+gN [d] <= 16)(hm:x.mutexes.length+mN [d] <= 12)(hf:x.funcs.length+fN [d] <= 16):gR l x k=.ok (d.add x) (k+d.toks.length):=by
 cases d with
 |glob g=>
  simp only [gN] at hg
  have h1:Seg l k (bEr g++q):=hs
  have hw:(bU l k).pt=wrd [118,97,114]:=h1.head.1
  unfold gR
  rw [if_pos (gI hw),if_neg (by omega),VG.parse h1,bind_ok]
  rfl
 |mtx m=>
  simp only [mN] at hm
  have h1:Seg l k (gT m++q):=hs
  have h2:=VM.parse h h1
  unfold gR
  cases hre:m.reentrant with
  |true=>
   have hw:(bU l k).pt=wrd [114,109,117,116,101,120]:=by
    have:=h1.head.1
    rw [hre] at this;exact this
   rw [hre] at h2
   rw [if_neg (cG hw (by decide)),if_neg (cG hw (by decide)),if_pos (gI hw),if_neg (by omega),h2,bind_ok]
   rfl
  |false=>
   have hw:(bU l k).pt=wrd [109,117,116,101,120]:=by
    have:=h1.head.1
    rw [hre] at this;exact this
   rw [hre] at h2
   rw [if_neg (cG hw (by decide)),if_pos (gI hw),if_neg (by omega),h2,bind_ok]
   rfl
 |fn f=>
  simp only [fN] at hf
  have h1:Seg l k (kA f++q):=hs
  have hw:(bU l k).pt=wrd [102,117,110,99]:=h1.head.1
  unfold gR
  rw [if_neg (cG hw (by decide)),if_neg (cG hw (by decide)),if_neg (cG hw (by decide)),if_pos (gI hw),if_neg (by omega),VF.parse h hk h1,bind_ok]
  rfl
theorem vZ(d:fF)(ds:List fF):gN (d::ds)=gN [d]+gN ds /\ mN (d::ds)=mN [d]+mN ds /\ fN (d::ds)=fN [d]+fN ds:=by
 cases d<;>simp [gN,mN,fN]<;>omega
theorem aMg(d:fF)(x:cK):(d.add x).globals.length=x.globals.length+gN [d] /\ (d.add x).mutexes.length=x.mutexes.length+mN [d] /\ (d.add x).funcs.length=x.funcs.length+fN [d]:=by
 cases d<;>simp [fF.add,gN,mN,fN]
theorem yX:∀(ds:List fF)(x:cK)(n k:Nat),(∀d,d∈ds -> d.ok) -> ds.length<n -> k <= l.length -> Seg l k ((ds.map fF.toks).flatten++[aAa]) -> x.globals.length+gN ds <= 16 -> x.mutexes.length+mN ds <= 12 -> x.funcs.length+fN ds <= 16 -> lK l n x k=.ok (ds.foldl fF.add x) (k+(ds.map fF.toks).flatten.length)
 |[],x,n,k,_,hn,_,hs,_,_,_=>by
  obtain ⟨n,rfl⟩:∃n',n=n'+1:=⟨n-1,by simp at hn;omega⟩
  have hs':Seg l k [aAa]:=hs
  have h1:(bU l k).kind=5:=congrArg PT.kind hs'.head.1
  unfold lK
  rw [if_pos h1]
  rfl
 |d::ds,x,n,k,h,hn,hk,hs,hg,hm,hf=>by
  obtain ⟨n,rfl⟩:∃n',n=n'+1:=⟨n-1,by simp at hn;omega⟩
  have hs':Seg l k (d.toks++((ds.map fF.toks).flatten++[aAa])):=by simpa using hs
  obtain ⟨s,q,hb⟩:=aD6 d
  have h1:(bU l k).kind=3:=by
   have h2:=hs'
   rw [hb] at h2
   exact congrArg PT.kind h2.head.1
  obtain ⟨n1,n2,n3⟩:=vZ d ds
  obtain ⟨m1,m2,m3⟩:=aMg d x
  have hlen:=hs'.app.1.len hk
  unfold lK
  rw [if_neg (by omega),aGi (h d (List.mem_cons_self ..)) hk hs' (by omega) (by omega) (by omega),bind_ok]
  rw [yX ds _ n _ (fun y hy=>h y (List.mem_cons_of_mem _ hy)) (by simp at hn;omega) hlen hs'.app.2 (by omega) (by omega) (by omega)]
  simp;omega
end
def iA(p:cK):List fF:=p.globals.map .glob++(p.mutexes.map .mtx++p.funcs.map .fn)
theorem aG5(l:List aI):∀(x:cK),(l.map fF.glob).foldl fF.add x={x with globals:=x.globals++l}:=by
 induction l with
 |nil=>intro x;simp
 |cons a r ih=>intro x;rw [List.map_cons,List.foldl_cons,ih];simp [fF.add]
theorem aKl(l:List cL):∀(x:cK),(l.map fF.mtx).foldl fF.add x={x with mutexes:=x.mutexes++l}:=by
 induction l with
 |nil=>intro x;simp
 |cons a r ih=>intro x;rw [List.map_cons,List.foldl_cons,ih];simp [fF.add]
theorem aNx(l:List bS):∀(x:cK),(l.map fF.fn).foldl fF.add x={x with funcs:=x.funcs++l}:=by
 induction l with
 |nil=>intro x;simp
 |cons a r ih=>intro x;rw [List.map_cons,List.foldl_cons,ih];simp [fF.add]
theorem aD7(a b:List fF):gN (a++b)=gN a+gN b /\ mN (a++b)=mN a+mN b /\ fN (a++b)=fN a+fN b:=by
 induction a with
 |nil=>simp [gN,mN,fN]
 |cons x a ih=>
  obtain ⟨h1,h2,h3⟩:=ih
  obtain ⟨a1,a2,a3⟩:=vZ x (a++b)
  obtain ⟨b1,b2,b3⟩:=vZ x a
  rw [List.cons_append]
  omega
theorem aLo(gs:List aI)(ms:List cL)(fs:List bS):(gN (gs.map .glob)=gs.length /\ mN (gs.map .glob)=0 /\ fN (gs.map .glob)=0) /\ (gN (ms.map .mtx)=0 /\ mN (ms.map .mtx)=ms.length /\ fN (ms.map .mtx)=0) /\ (gN (fs.map .fn)=0 /\ mN (fs.map .fn)=0 /\ fN (fs.map .fn)=fs.length):=by
 refine ⟨?_,?_,?_⟩
 ·induction gs with
  |nil=>simp [gN,mN,fN]
  |cons a r ih=>simpa [gN,mN,fN] using ih
 ·induction ms with
  |nil=>simp [gN,mN,fN]
  |cons a r ih=>simpa [gN,mN,fN] using ih
 ·induction fs with
  |nil=>simp [gN,mN,fN]
  |cons a r ih=>simpa [gN,mN,fN] using ih
theorem aFw{ds:List fF}{s:List UInt8}(hs:s=(ds.map fF.text).flatten)(h:∀d,d∈ds -> d.ok)(hl:s.length <= 262144)(ht:(ds.map fF.toks).flatten.length <= 4000)(hg:gN ds <= 16)(hm:mN ds <= 12)(hf:fN ds <= 16):
  ∃L k,iH s=.ok L /\ L.map Tok.pt=(ds.map fF.toks).flatten++[aAa] /\ fH L=.ok (ds.foldl fF.add ⟨[],[],[]⟩) k:=by
 have h1:=uR ds h Lx.end
 rw [List.append_nil,List.append_nil,←hs] at h1
 obtain ⟨L,h2,h3⟩:=aIz h1 hl ht
 have hn:ds.length <= (ds.map fF.toks).flatten.length:=by
  clear h1 h2 h3 hg hm hf hs ht h
  induction ds with
  |nil=>simp
  |cons d ds ih=>
   obtain ⟨s,q,hb⟩:=aD6 d
   simp [hb] at ih⊢;omega
 have hL:L.length=(ds.map fF.toks).flatten.length+1:=by
  have:=congrArg List.length h3
  simpa using this
 refine ⟨L,0+(ds.map fF.toks).flatten.length,h2,h3,?_⟩
 unfold fH
 exact yX ds ⟨[],[],[]⟩ L.length 0 h (by omega) (by omega) ⟨[],by rw [List.drop_zero,h3,List.append_nil]⟩ (by simpa using hg) (by simpa using hm) (by simpa using hf)
end
section
def fit(n:Int):Prop:=-9223372036854775808 <= n /\ n <= 9223372036854775807
mutual
def aH.sane:aH -> Prop
 |.mk _ num name args=>fit num /\ name.size <= 4611686018427387904 /\ iI args
def iI:List aH -> Prop
 |[]=>True
 |e::es=>e.sane /\ iI es
end
def cY.sane(r:cY):Prop:=r.name.size <= 4611686018427387904 /\ iI r.index
def eN.sane(a:eN):Prop:=a.ref.sane /\ a.expr.sane
mutual
def aJ.sane:aJ -> Prop
 |.mk _ n e r args t el=>n.size <= 4611686018427387904 /\ e.sane /\ r.sane /\ (∀a,a∈args -> a.sane) /\ gC t /\ gC el
def gC:List aJ -> Prop
 |[]=>True
 |s::r=>s.sane /\ gC r
end
def bS.sane(f:bS):Prop:=f.name.size <= 4611686018427387904 /\ (∀x,x∈f.params -> x.name.size <= 4611686018427387904) /\ gC f.body
structure cK.sane (p:cK):Prop where
 globals:∀g,g∈p.globals -> fit g.init /\ g.name.size <= 4611686018427387904
 mutexes:∀m,m∈p.mutexes -> fit m.size /\ m.name.size <= 4611686018427387904
 funcs:∀f,f∈p.funcs -> f.sane
theorem mV:∀(l:List aH),iI l -> ∀e,e∈l -> e.sane
 |[],_,_,h=>by cases h
 |x::l,hs,e,h=>by
  rw [iI] at hs
  rcases mem_cons.1 h with rfl|h
  ·exact hs.1
  exact mV l hs.2 e h
theorem oS:∀(l:List aJ),gC l -> ∀e,e∈l -> e.sane
 |[],_,_,h=>by cases h
 |x::l,hs,e,h=>by
  rw [gC] at hs
  rcases mem_cons.1 h with rfl|h
  ·exact hs.1
  exact oS l hs.2 e h
theorem rW(op:Int):(aM op<5 /\ 5 <= op /\ op <= 17)∨(aM op=5 /\ (op=3∨op=4))∨aM op=6:=by
 unfold aM
 repeat' split
 all_goals omega
mutual
theorem yT:∀(e:aH),e.sane -> eO e=true -> VE e
 |.mk op num name args,hs,h=>by
  rw [aH.sane] at hs
  rw [eO] at h
  simp only [Bool.and_eq_true,decide_eq_true_eq] at h
  obtain ⟨⟨h1,h2⟩,h3⟩:=h
  have hv:=aB0 args hs.2.2 h3
  rcases rW op with ⟨k1,k2⟩|⟨k1,k2⟩|k1
  ·rw [if_neg (by omega)] at h1
   simp only [Bool.and_eq_true,decide_eq_true_eq] at h1
   obtain ⟨rfl,rfl⟩:=h1
   rw [arity,if_neg (by omega),if_neg (by omega)] at h2
   match args,h2,hv with
   |[a,b],_,hv=>exact .bin op a b k2 (hv a (by simp)) (hv b (by simp))
  ·rw [if_neg (by omega)] at h1
   simp only [Bool.and_eq_true,decide_eq_true_eq] at h1
   obtain ⟨rfl,rfl⟩:=h1
   rw [arity,if_neg (by omega),if_pos k1] at h2
   match args,h2,hv with
   |[a],_,hv=>exact .un op a k2 (hv a (by simp))
  rw [if_pos k1] at h1
  rw [arity,if_pos k1] at h2
  obtain rfl:=List.length_eq_zero_iff.1 h2
  unfold jG at h1
  simp only [Bool.or_eq_true,Bool.and_eq_true,decide_eq_true_eq] at h1
  rcases h1 with ⟨⟨rfl,h0⟩,rfl⟩|⟨⟨rfl,rfl⟩,h0⟩
  ·obtain ⟨n,rfl⟩:∃n:Nat,num=n:=⟨num.toNat,by omega⟩
   exact .num n (by have:=hs.1.2;omega)
  exact .name name h0
theorem aB0:∀(l:List aH),iI l -> dY l=true -> ∀x,x∈l -> VE x
 |[],_,_,_,h=>by cases h
 |y::l,hs,h,x,hx=>by
  rw [iI] at hs
  rw [dY,Bool.and_eq_true] at h
  rcases mem_cons.1 hx with hx|hx
  ·rw [hx];exact yT y hs.1 h.1
  exact aB0 l hs.2 h.2 x hx
end
theorem zD{e:aH}(hs:e.sane)(h:dM e=true):VX e:=by
 rw [dM,Bool.and_eq_true,decide_eq_true_eq] at h
 exact ⟨yT e hs h.1,h.2⟩
theorem wQ{e:aH}(h:bLg e=true):e=.zero:=by
 obtain ⟨op,num,name,args⟩:=e
 unfold bLg at h
 rw [Bool.and_eq_true,Bool.and_eq_true] at h
 obtain ⟨⟨h1,h2⟩,h3⟩:=h
 obtain ⟨h4,h5⟩:=of_decide_eq_true h1
 have h6:=of_decide_eq_true h2
 have h7:=of_decide_eq_true h3
 simp only [aH.op,aH.num,aH.name,aH.args] at h4 h5 h6 h7
 subst h4;subst h5;subst h6
 have h:=h7
 rw [List.length_eq_zero_iff.1 h];rfl
theorem zP{r:cY}(h:kM r=true):r=.zero:=by
 obtain ⟨name,index⟩:=r
 simp only [kM,Bool.and_eq_true,decide_eq_true_eq] at h
 obtain ⟨rfl,h⟩:=h
 rw [List.length_eq_zero_iff.1 h];rfl
theorem aFr{r:cY}(hs:r.sane)(h:okRefB r=true):VR r:=by
 obtain ⟨name,index⟩:=r
 unfold okRefB at h
 rw [Bool.and_eq_true] at h
 obtain ⟨h1,h2⟩:=h
 match index,hs,h2 with
 |[],_,_=>exact .one name h1
 |[e],hs,h2=>exact .el name e h1 (zD (mV _ hs.2 e (by simp)) h2)
theorem aLi{a:eN}(hs:a.sane)(h:fY a=true):VA a:=by
 obtain ⟨m,r,e⟩:=a
 unfold fY at h
 cases m with
 |true=>
  rw [if_pos rfl,Bool.and_eq_true] at h
  obtain rfl:=wQ h.2
  exact .mutex r (aFr hs.1 h.1)
 |false=>
  rw [if_neg (by simp),Bool.and_eq_true] at h
  obtain rfl:=zP h.1
  exact .expr e (zD hs.2 h.2)
theorem iL(D:Nat):∀(l:List aJ),bM D l=true -> D<24
 |[],h=>by rw [bM] at h;exact of_decide_eq_true h
 |s::r,h=>by rw [bM,Bool.and_eq_true] at h;exact iL D r h.2
mutual
theorem aJ3:∀(s:aJ)(d D:Nat),D+d=23 -> s.sane -> bK9 D s=true -> ∀l,VSs d l -> VSs d (s::l)
 |.mk k n e r args t el,d,D,hd,hs,h,l,ih=>by
  rw [aJ.sane] at hs
  rw [bK9] at h
  obtain ⟨-,he,hr,ha,ht,hel⟩:=hs
  simp only [Bool.and_eq_true,Bool.or_eq_true,decide_eq_true_eq] at h
  obtain ⟨⟨⟨⟨⟨⟨⟨h1,h2⟩,h3⟩,h4⟩,h5⟩,h6⟩,h7⟩,h8⟩:=h
  have hva:∀x,x∈args -> VA x:=fun x hx=>aLi (ha x hx) (List.all_eq_true.1 h6 x hx)
  have hk:k=1∨k=2∨k=3∨k=4∨k=5∨k=6∨k=7∨k=8∨k=9:=by omega
  have hname:¬(1 <= k /\ k <= 4) -> n=aK:=fun hp=>by rw [if_neg hp] at h2;exact of_decide_eq_true h2
  have hname1:1 <= k /\ k <= 4 -> bQ n=true:=fun hp=>by rwa [if_pos hp] at h2
  have hex:¬(k=1∨k=2∨k=7∨k=8) -> e=.zero:=fun hp=>by rw [if_neg hp] at h3;exact wQ h3
  have hex1:(k=1∨k=2∨k=7∨k=8) -> VX e:=fun hp=>by rw [if_pos hp] at h3;exact zD he h3
  have href:¬(k=5∨k=6) -> r=.zero:=fun hp=>by rw [if_neg hp] at h4;exact zP h4
  have href1:(k=5∨k=6) -> VR r:=fun hp=>by rw [if_pos hp] at h4;exact aFr hr h4
  have hargs:¬(k=3∨k=4) -> args=[]:=fun hp=>List.length_eq_zero_iff.1 (h5.resolve_left hp)
  have hthn:¬(k=7∨k=8) -> t=[]:=fun hp=>by rw [if_neg hp] at h7;exact List.length_eq_zero_iff.1 (of_decide_eq_true h7)
  have hels:k≠7 -> el=[]:=fun hp=>h8.elim List.length_eq_zero_iff.1 (fun h=>absurd h.1 hp)
  rcases hk with rfl|rfl|rfl|rfl|rfl|rfl|rfl|rfl|rfl
  ·rw [href (by omega),hargs (by omega),hthn (by omega),hels (by omega)];exact .var (hname1 (by omega)) (hex1 (by omega)) ih
  ·rw [href (by omega),hargs (by omega),hthn (by omega),hels (by omega)];exact .assign (hname1 (by omega)) (hex1 (by omega)) ih
  ·rw [hex (by omega),href (by omega),hthn (by omega),hels (by omega)];exact .call (hname1 (by omega)) hva ih
  ·rw [hex (by omega),href (by omega),hthn (by omega),hels (by omega)];exact .go (hname1 (by omega)) hva ih
  ·rw [hname (by omega),hex (by omega),hargs (by omega),hthn (by omega),hels (by omega)];exact .lock (href1 (by omega)) ih
  ·rw [hname (by omega),hex (by omega),hargs (by omega),hthn (by omega),hels (by omega)];exact .unlock (href1 (by omega)) ih
  ·rw [if_pos (.inl rfl)] at h7
   obtain ⟨d',rfl⟩:∃d',d=d'+1:=⟨d-1,by have:=iL _ _ h7;omega⟩
   have h9:=lS t d' (D+1) (by omega) ht h7
   rw [hname (by omega),href (by omega),hargs (by omega)]
   refine .cond (hex1 (by omega)) h9 ?_ ih
   rcases h8 with h8|h8
   ·rw [List.length_eq_zero_iff.1 h8];exact .nil
   exact lS el d' (D+1) (by omega) hel h8.2
  ·rw [if_pos (.inr rfl)] at h7
   obtain ⟨d',rfl⟩:∃d',d=d'+1:=⟨d-1,by have:=iL _ _ h7;omega⟩
   have h9:=lS t d' (D+1) (by omega) ht h7
   rw [hname (by omega),href (by omega),hargs (by omega),hels (by omega)]
   exact .loop (hex1 (by omega)) h9 ih
  rw [hname (by omega),hex (by omega),href (by omega),hargs (by omega),hthn (by omega),hels (by omega)];exact .ret ih
theorem lS:∀(l:List aJ)(d D:Nat),D+d=23 -> gC l -> bM D l=true -> VSs d l
 |[],_,_,_,_,_=>.nil
 |s::l,d,D,hd,hs,h=>by
  rw [gC] at hs
  rw [bM,Bool.and_eq_true] at h
  exact aJ3 s d D hd hs.1 h.1 l (lS l d D hd hs.2 h.2)
end
theorem aF7{p:cK}(hs:p.sane)(h:jI p=true):(∀d,d∈iA p -> d.ok) /\ p.globals.length <= 16 /\ p.mutexes.length <= 12 /\ p.funcs.length <= 16 /\ (iH (cR p)).isOk=true:=by
 unfold jI at h
 simp only [Bool.and_eq_true,decide_eq_true_eq] at h
 obtain ⟨⟨⟨⟨h1,hg⟩,hm⟩,hf⟩,hl⟩:=h
 refine ⟨fun d hd=>?_,h1.1,h1.2.1,h1.2.2,hl⟩
 simp only [iA,mem_append,List.mem_map] at hd
 rcases hd with ⟨g,hgm,rfl⟩|⟨m,hmm,rfl⟩|⟨f,hfm,rfl⟩
 ·have h2:=List.all_eq_true.1 hg g hgm
  have h3:=hs.globals g hgm
  unfold gH at h2
  simp only [Bool.and_eq_true,decide_eq_true_eq] at h2
  unfold fit at h3
  exact ⟨h2.1,by have:=h2.2;omega⟩
 ·have h2:=List.all_eq_true.1 hm m hmm
  unfold fS at h2
  simp only [Bool.and_eq_true,decide_eq_true_eq,Bool.not_eq_true',Bool.and_eq_false_iff,decide_eq_false_iff_not] at h2
  refine ⟨h2.1.1,h2.1.2.1,h2.1.2.2,fun hr=>?_⟩
  rcases h2.2 with h3|h3
  ·rw [hr] at h3;cases h3
  have:=h2.1.2.1;omega
 have h2:=List.all_eq_true.1 hf f hfm
 unfold gW at h2
 simp only [Bool.and_eq_true,decide_eq_true_eq] at h2
 exact ⟨h2.1.1.1,h2.1.1.2,List.all_eq_true.1 h2.2,lS f.body 23 0 rfl (hs.funcs f hfm).2.2 h2.1.2⟩
theorem wC(p:cK):cR p=((iA p).map fF.text).flatten:=by
 simp only [cR,iA,List.map_append,List.map_map,List.flatten_append,append_assoc]
 rfl
theorem aL4{r:List UInt8}{ps:List PT}(h:Lx r ps):∀(s:List UInt8)(k n:Nat),s.drop k=r -> k <= s.length -> n <= 4000 -> (kD s k n).isOk=true -> n+ps.length <= 4000:=by
 induction h with
 |@nil r h=>intro s k n hd hk hn _;simpa using hn
 |@cons r0 r kind len num ps h h0 hn _ ih=>
  intro s k n hd hk hl hok
  have hs:s.drop (bF s k)=r:=by rw [qJ,hd,h]
  have hlt:bF s k<s.length:=by
   rcases Nat.lt_or_ge (bF s k) s.length with h1|h1
   ·exact h1
   rw [List.drop_eq_nil_of_le h1] at hs;exact absurd hs.symm h0
  have hlen:=mS h0 hn
  have hr:r.length=s.length-bF s k:=by rw [←hs,List.length_drop]
  have h4:n≠4000:=by
   rintro rfl
   rw [kD,if_neg (by omega),hs,hn] at hok
   simp [fX.isOk] at hok
  rw [nD hk hlt (by rw [hs];exact hn) (by omega)] at hok
  have h5:=ih s (bF s k+len) (n+1) (by rw [←List.drop_drop,hs]) (by omega) (by omega) (by
   cases h6:kD s (bF s k+len) (n+1) with
   |ok l=>rfl
   |err a b=>rw [h6] at hok;exact hok)
  simp only [length_cons];omega
theorem aNe{s:List UInt8}{ps:List PT}(h:Lx s ps)(hok:(iH s).isOk=true):s.length <= 262144 /\ ps.length <= 4000:=by
 unfold iH at hok
 split at hok
 ·simp [fX.isOk] at hok
 rename_i hl
 have:=aL4 h s 0 0 rfl (by omega) (by omega) hok
 exact ⟨by omega,by omega⟩
theorem aFx{p:cK}(hs:p.sane)(h:jI p=true):∃L k,iH (cR p)=.ok L /\ L.map Tok.pt=((iA p).map fF.toks).flatten++[aAa] /\ fH L=.ok p k:=by
 obtain ⟨h1,h2,h3,h4,h5⟩:=aF7 hs h
 have h6:=uR (iA p) h1 Lx.end
 rw [List.append_nil,List.append_nil,←wC] at h6
 obtain ⟨h7,h8⟩:=aNe h6 h5
 obtain ⟨⟨a1,a2,a3⟩,⟨b1,b2,b3⟩,c1,c2,c3⟩:=aLo p.globals p.mutexes p.funcs
 obtain ⟨d1,d2,d3⟩:=aD7 (p.globals.map .glob) (p.mutexes.map .mtx++p.funcs.map .fn)
 obtain ⟨e1,e2,e3⟩:=aD7 (p.mutexes.map .mtx) (p.funcs.map .fn)
 obtain ⟨L,k,q1,q2,q3⟩:=aFw (wC p) h1 h7 h8 (by unfold iA;omega) (by unfold iA;omega) (by unfold iA;omega)
 refine ⟨L,k,q1,q2,?_⟩
 rw [q3]
 unfold iA
 rw [List.foldl_append,List.foldl_append,aG5,aKl,aNx]
 rfl
end
section
open Go.RowKit
abbrev bP(l:List ByteArray):List AC:=l.map fun x=>.val (.string x)
theorem rB(names:List ByteArray)(j:Nat)(h:j<names.length):pk false 1 (bP names) (0+j*1)=some (.c (.val (.string names[j]))):=by
 unfold pk bP
 rw [if_neg (by decide),Nat.zero_add,Nat.mul_one,List.getElem?_map,List.getElem?_eq_getElem h];rfl
end
end Go.Proofs.YtojinfngbbajgaaGreatDoor
