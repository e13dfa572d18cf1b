import Derived.Test.YtbdfdjdgfanjaaaDoorG5J
import Derived.Test.YtbdfdjdgfanjaaaDoorG4J
import Derived.Test.YtbdfdjdgfanjaaaDoorG1J
set_option linter.all false
set_option synthInstance.maxHeartbeats 1000000
set_option synthInstance.maxSize 1000000
namespace Go.Proofs.YtbdfdjdgfanjaaaDoor
open Go.Proofs.Tryd
open List (length_append length_cons length_nil mem_append mem_cons not_mem_nil append_assoc getElem_mem take_of_length_le)
section
inductive VE:aH -> Prop where
 |num (n:Nat) (h:n <= 9223372036854775807):VE (.mk 1 n aK [])
 |name (s:ByteArray) (h:bQ s=true):VE (.mk 2 0 s [])
 |un (op:Int) (x:aH) (h:op=3∨op=4) (hx:VE x):VE (.mk op 0 aK [x])
 |bin (op:Int) (x y:aH) (h:5 <= op /\ op <= 17) (hx:VE x) (hy:VE y):VE (.mk op 0 aK [x,y])
def aH3(b:Bool)(t:List UInt8):List UInt8:=if b then [40]++t++[41] else t
def mF(b:Bool)(t:List PT):List PT:=if b then sgn [40]::(t++[sgn [41]]) else t
def aM3(op num:Int)(name:ByteArray)(ts:List (List PT)):List PT:=
 if op=1 then [⟨2,bytes (cO num.natAbs),num.natAbs⟩] else if op=2 then [⟨1,name,0⟩] else if op=3 then sgn [45]::ts.getD 0 [] else if op=4 then sgn [33]::ts.getD 0 [] else
 ts.getD 0 []++sgn (iW op)::ts.getD 1 []
mutual
def aT:aH -> List PT
 |.mk op num name args=>aM3 op num name (mL op 0 args)
def mL(b:Int):Nat -> List aH -> List (List PT)
 |_,[]=>[]
 |k,e::es=>mF (cV b k e.op) (aT e)::mL b (k+1) es
end
theorem aDy{op:Int}(h:5 <= op /\ op <= 17):op=5∨op=6∨op=7∨op=8∨op=9∨op=10∨op=11∨op=12∨op=13∨op=14∨op=15∨op=16∨op=17:=by omega
theorem qB{op:Int}(h:5 <= op /\ op <= 17):aM op<5:=by
 rcases aDy h with rfl|rfl|rfl|rfl|rfl|rfl|rfl|rfl|rfl|rfl|rfl|rfl|rfl<;>decide
theorem wE(n:Nat):aP (.mk 1 n aK [])=cO n:=by
 rw [aP,dP]
 show eH (n:Int)=_
 unfold eH;rw [if_neg (by omega)];rfl
theorem zB(s:ByteArray):aP (.mk 2 0 s [])=s.data.toList:=by rw [aP,dP];rfl
theorem uO(n:Nat):aT (.mk 1 n aK [])=[⟨2,bytes (cO n),n⟩]:=by rw [aT,mL];rfl
theorem sC(s:ByteArray):aT (.mk 2 0 s [])=[⟨1,s,0⟩]:=by rw [aT,mL];rfl
theorem aFl{op:Int}(h:op=3∨op=4)(x:aH):aP (.mk op 0 aK [x])=(if op=3 then 45 else 33)::aH3 (cV op 0 x.op) (aP x):=by
 rw [aP,dP,dP]
 rcases h with rfl|rfl<;>rfl
theorem yB{op:Int}(h:op=3∨op=4)(x:aH):aT (.mk op 0 aK [x])=sgn [if op=3 then 45 else 33]::mF (cV op 0 x.op) (aT x):=by
 rw [aT,mL,mL]
 rcases h with rfl|rfl<;>rfl
theorem aB4{op:Int}(h:5 <= op /\ op <= 17)(x y:aH):aP (.mk op 0 aK [x,y])=aH3 (cV op 0 x.op) (aP x)++([32]++iW op++[32])++aH3 (cV op 1 y.op) (aP y):=by
 rw [aP,dP,dP,dP]
 unfold iX
 have hs:=qB h
 rw [if_neg (by omega),if_neg (by omega),if_neg (by omega),if_neg (by omega),if_pos hs]
 simp [aH3]
theorem uI{op:Int}(h:5 <= op /\ op <= 17)(x y:aH):aT (.mk op 0 aK [x,y])=mF (cV op 0 x.op) (aT x)++sgn (iW op)::mF (cV op 1 y.op) (aT y):=by
 rw [aT,mL,mL,mL]
 unfold aM3
 rw [if_neg (by omega),if_neg (by omega),if_neg (by omega),if_neg (by omega)]
 rfl
theorem aJb{op:Int}(h:op=3∨op=4)(x:aH):dI (.mk op 0 aK [x])=(dI x+if cV op 0 x.op then 1 else 0)+1:=by
 rw [dI,bSm,bSm]
 have hs:aM op=5:=by rcases h with rfl|rfl<;>rfl
 rw [if_pos hs];omega
theorem aGo{op:Int}(h:5 <= op /\ op <= 17)(x y:aH):dI (.mk op 0 aK [x,y])=max (dI x+if cV op 0 x.op then 1 else 0) (dI y+if cV op 1 y.op then 1 else 0):=by
 rw [dI,bSm,bSm,bSm]
 have hs:=qB h
 rw [if_neg (show ¬aM op=5 by omega),Nat.zero_add];omega
def Sta(r:List UInt8):Prop:=∃c q,r=c::q /\ c≠61 /\ c≠38 /\ c≠124 /\ c≠47
theorem Sta.app{r:List UInt8}(h:Sta r)(s:List UInt8):Sta (r++s):=by
 obtain ⟨c,q,rfl,h1⟩:=h
 exact ⟨c,q++s,rfl,h1⟩
theorem aIg{c:UInt8}(h:cT c=true)(q:List UInt8):Sta (c::q):=by
 refine ⟨c,q,rfl,?_,?_,?_,?_⟩<;>(rintro rfl;revert h;decide)
theorem aIa{b:Bool}{t:List UInt8}(h:Sta t):Sta (aH3 b t):=by
 cases b
 ·exact h
 exact ⟨40,t++[41],rfl,by decide,by decide,by decide,by decide⟩
theorem VE.sta{e:aH}(h:VE e):Sta (aP e):=by
 induction h with
 |num n h=>
  rw [wE]
  obtain ⟨c,q,he⟩:=List.exists_cons_of_ne_nil (aBi n)
  rw [he]
  exact aIg (by unfold cT;rw [zI n c (by rw [he];exact List.mem_cons_self ..)];simp) q
 |name s h=>
  rw [zB]
  unfold bQ at h
  split at h
  ·cases h
  ·rename_i c q he
   simp only [Bool.and_eq_true] at h
   rw [he]
   exact aIg (by unfold cT;rw [h.1.1.1];rfl) q
 |un op x h hx ih=>
  rw [aFl h]
  rcases h with rfl|rfl
  ·exact ⟨45,_,rfl,by decide,by decide,by decide,by decide⟩
  ·exact ⟨33,_,rfl,by decide,by decide,by decide,by decide⟩
 |bin op x y h hx hy ihx ihy=>
  rw [aB4 h,append_assoc]
  exact (aIa ihx).app _
theorem aJu:∀x,x∈fE -> x.getD 1 0=61∨x.getD 1 0=38∨x.getD 1 0=124:=by decide
theorem Lx.pre{r:List UInt8}{ps:List PT}(h:Lx r ps)(c:UInt8)(hc:c∈dW)(hr:Sta r):Lx (c::r) (sgn [c]::ps):=by
 obtain ⟨d,q,rfl,h1,h2,h3,h4⟩:=hr
 refine h.one c hc fun d' hd=>?_
 cases hd
 refine ⟨fun hm=>?_,fun h5=>h4 h5.2⟩
 rcases aJu _ hm with h5|h5|h5
 ·exact h1 h5
 ·exact h2 h5
 exact h3 h5
theorem Lx.oper{r:List UInt8}{ps:List PT}(h:Lx r ps){op:Int}(ho:5 <= op /\ op <= 17):Lx ([32]++iW op++[32]++r) (sgn (iW op)::ps):=by
 have h1:=h.bl
 have hf:Fin (32::r):=Fin.cons (by decide)
 rcases aDy ho with rfl|rfl|rfl|rfl|rfl|rfl|rfl|rfl|rfl|rfl|rfl|rfl|rfl
 ·exact (h1.one' 42 (by decide) hf).bl
 ·exact (h1.one' 47 (by decide) hf).bl
 ·exact (h1.one' 37 (by decide) hf).bl
 ·exact (h1.one' 43 (by decide) hf).bl
 ·exact (h1.one' 45 (by decide) hf).bl
 ·exact (h1.one' 60 (by decide) hf).bl
 ·exact (h1.two 60 61 (by decide)).bl
 ·exact (h1.one' 62 (by decide) hf).bl
 ·exact (h1.two 62 61 (by decide)).bl
 ·exact (h1.two 61 61 (by decide)).bl
 ·exact (h1.two 33 61 (by decide)).bl
 ·exact (h1.two 38 38 (by decide)).bl
 exact (h1.two 124 124 (by decide)).bl
theorem VE.lx{e:aH}(h:VE e):∀(r:List UInt8)(ps:List PT),Fin r -> Lx r ps -> Lx (aP e++r) (aT e++ps):=by
 have par:∀(b:Bool)(x:aH),VE x -> (∀(r:List UInt8)(ps:List PT),Fin r -> Lx r ps -> Lx (aP x++r) (aT x++ps)) -> ∀(r:List UInt8)(ps:List PT),Fin r -> Lx r ps -> Lx (aH3 b (aP x)++r) (mF b (aT x)++ps):=by
  intro b x hx ih r ps hf hr
  cases b with
  |false=>exact ih r ps hf hr
  |true=>
   have h1:=(ih (41::r) (sgn [41]::ps) (Fin.cons (by decide)) (hr.free 41 (by decide))).free 40 (by decide)
   simpa [aH3,mF] using h1
 induction h with
 |num n h=>intro r ps hf hr;rw [wE,uO];exact hr.num n h hf.nam
 |name s h=>intro r ps hf hr;rw [zB,sC];exact hr.name s h hf.nam
 |un op x h hx ih=>
  intro r ps hf hr
  rw [aFl h,yB h]
  have h1:=par (cV op 0 x.op) x hx ih r ps hf hr
  have h2:=(aIa (b:=cV op 0 x.op) hx.sta).app r
  rcases h with rfl|rfl
  ·exact h1.pre 45 (by decide) h2
  ·exact h1.pre 33 (by decide) h2
 |bin op x y h hx hy ihx ihy=>
  intro r ps hf hr
  rw [aB4 h,uI h]
  have h1:=(par (cV op 1 y.op) y hy ihy r ps hf hr).oper h
  have h2:=par (cV op 0 x.op) x hx ihx _ _ (Fin.cons (by decide)) h1
  simpa using h2
def Seg(l:List Tok)(k:Nat)(ps:List PT):Prop:=ps <+:(l.map Tok.pt).drop k
theorem Seg.app{l:List Tok}{k:Nat}{a b:List PT}(h:Seg l k (a++b)):Seg l k a /\ Seg l (k+a.length) b:=by
 obtain ⟨t,ht⟩:=h
 refine ⟨⟨b++t,by rw [←ht,append_assoc]⟩,⟨t,?_⟩⟩
 rw [←List.drop_drop,←ht,append_assoc,List.drop_left]
theorem Seg.head{l:List Tok}{k:Nat}{t:PT}{ps:List PT}(h:Seg l k (t::ps)):(bU l k).pt=t /\ k<l.length /\ Seg l (k+1) ps:=by
 obtain ⟨q,ht⟩:=h
 have h1:(l.map Tok.pt).drop k=t::(ps++q):=ht.symm
 have hk:k<l.length:=by
  rcases Nat.lt_or_ge k l.length with h2|h2
  ·exact h2
  rw [List.drop_eq_nil_of_le (by simpa using h2)] at h1;cases h1
 have h2:=List.drop_eq_getElem_cons (l:=l.map Tok.pt) (i:=k) (by simpa using hk)
 rw [h2] at h1
 injection h1 with h3 h4
 refine ⟨by rw [bG hk];simpa using h3,hk,⟨q,h4.symm⟩⟩
theorem pX{l:List Tok}{k:Nat}{s:List UInt8}(h:(bU l k).pt=sgn s):(bU l k).kind=4 /\ (bU l k).text=bytes s:=by
 have h1:=congrArg PT.kind h
 have h2:=congrArg PT.text h
 exact ⟨h1,h2⟩
theorem gK{l:List Tok}{k:Nat}{s:List UInt8}(h:(bU l k).pt=sgn s)(u:List UInt8):cS l k u=decide (bytes s=bytes u):=by
 obtain ⟨h1,h2⟩:=pX h
 unfold cS;rw [h1,h2];simp
def Fol(l:List Tok)(k m:Nat):Prop:=¬((bU l k).kind=4 /\ m <= (binOp (bU l k).text).2)
theorem Fol.mono{l:List Tok}{k m n:Nat}(h:Fol l k m)(hn:m <= n):Fol l k n:=fun hh=>h ⟨hh.1,by omega⟩
theorem aGz{op:Int}(h:5 <= op /\ op <= 17):(binOp (bytes (iW op))).1=op.toNat /\ (binOp (bytes (iW op))).2=aM op+1:=by
 rcases aDy h with rfl|rfl|rfl|rfl|rfl|rfl|rfl|rfl|rfl|rfl|rfl|rfl|rfl<;>decide
theorem aAb{l:List Tok}{k m:Nat}{s:List UInt8}(h:(bU l k).pt=sgn s)(hs:(binOp (bytes s)).2<m):Fol l k m:=by
 rintro ⟨_,h2⟩
 rw [(pX h).2] at h2;omega
theorem wB{l:List Tok}{single:Nat -> bN aH}{k k':Nat}{x:aH}(h:single k=.ok x k'):∀j,j <= 5 -> Fol l k' (6-j) -> gS l single j k=.ok x k'
 |0,_,_=>h
 |j+1,hj,hf=>by
  unfold gS
  rw [wB h j (by omega) (hf.mono (by omega))]
  show fR l _ (5-j) (l.length+1) x k'=_
  unfold fR
  rw [if_neg]
  rintro ⟨h1,h2⟩
  exact hf ⟨h1,by omega⟩
theorem yN{op a:Int}{k:Nat}(h:cV op k a=false):aM op <= aM a /\ (k=1 -> aM op<aM a):=by
 unfold cV at h
 rw [decide_eq_false_iff_not] at h
 omega
section
variable {l:List Tok}
structure Reads (l:List Tok) (e:aH):Prop where
 single:∀d k,dI e <= d -> Seg l k (aT e) -> 5 <= aM e.op -> bL l d k=.ok e (k+(aT e).length)
 bin:∀d k j,dI e <= d -> Seg l k (aT e) -> j <= 5 -> 5 <= aM e.op+j -> Fol l (k+(aT e).length) (6-j) -> gS l (bL l d) j k=.ok e (k+(aT e).length)
 chain:∀d k j,dI e <= d -> Seg l k (aT e) -> j<5 -> 5 <= aM e.op+(j+1) -> Fol l (k+(aT e).length) (6-j) -> ∃a k0 m,gS l (bL l d) j k=.ok a k0 /\ m <= (aT e).length /\ ∀n,fR l (gS l (bL l d) j) (5-j) (m+n) a k0=fR l (gS l (bL l d) j) (5-j) n e (k+(aT e).length)
theorem Reads.par{x:aH}(h:Reads l x)(b:Bool)(d k:Nat)(hb:b=false -> 5 <= aM x.op)(hd:(dI x+if b then 1 else 0) <= d)(hs:Seg l k (mF b (aT x))):bL l d k=.ok x (k+(mF b (aT x)).length):=by
 cases b with
 |false=>exact h.single d k (by simpa using hd) hs (hb rfl)
 |true=>
  simp only [if_true] at hd
  obtain ⟨d,rfl⟩:∃d',d=d'+1:=⟨d-1,by omega⟩
  have hs':Seg l k (sgn [40]::(aT x++[sgn [41]])):=hs
  obtain ⟨h1,hk,h2⟩:=hs'.head
  obtain ⟨h3,h4⟩:=h2.app
  obtain ⟨h5,hk5,_⟩:=h4.head
  have hkd:=(pX h1).1
  unfold bL
  rw [hkd,if_neg (by decide),if_neg (by decide),gK h1,gK h1,gK h1,if_neg (by decide),if_neg (by decide),if_pos (by decide)]
  rw [h.bin d (k+1) 5 (by omega) h3 (Nat.le_refl _) (by omega) (aAb h5 (by decide))]
  show (if cS l _ [41] then _ else _)=_
  rw [gK h5,if_pos (by decide)]
  congr 1
  simp [mF];omega
theorem Reads.of{e:aH}(single:∀d k,dI e <= d -> Seg l k (aT e) -> 5 <= aM e.op -> bL l d k=.ok e (k+(aT e).length))
  (step:∀d k j,dI e <= d -> Seg l k (aT e) -> j<5 -> aM e.op+j=4 -> Fol l (k+(aT e).length) (6-j) -> ∃a k0 m,gS l (bL l d) j k=.ok a k0 /\ m <= (aT e).length /\ ∀n,fR l (gS l (bL l d) j) (5-j) (m+n) a k0=fR l (gS l (bL l d) j) (5-j) n e (k+(aT e).length)):Reads l e:=by
 have bin:∀j d k,dI e <= d -> Seg l k (aT e) -> j <= 5 -> 5 <= aM e.op+j -> Fol l (k+(aT e).length) (6-j) -> gS l (bL l d) j k=.ok e (k+(aT e).length):=by
  intro j
  induction j with
  |zero=>intro d k hd hs _ h5 hf;exact single d k hd hs (by omega)
  |succ j ih=>
   intro d k hd hs hj h5 hf
   by_cases h6:5 <= aM e.op+j
   ·unfold gS
    rw [ih d k hd hs (by omega) h6 (hf.mono (by omega))]
    show fR l _ (5-j) (l.length+1) _ _=_
    unfold fR
    rw [if_neg]
    rintro ⟨h1,h2⟩
    exact hf ⟨h1,by omega⟩
   obtain ⟨a,k0,m,h1,h2,h3⟩:=step d k j hd hs (by omega) (by omega) (hf.mono (by omega))
   have hl:(aT e).length <= l.length:=by
    obtain ⟨t,ht⟩:=hs
    have:=congrArg List.length ht
    simp at this;omega
   unfold gS
   rw [h1]
   show fR l _ (5-j) (l.length+1) _ _=_
   have:=h3 (l.length-m+1)
   rw [show m+(l.length-m+1)=l.length+1 by omega] at this
   rw [this]
   unfold fR
   rw [if_neg]
   rintro ⟨h1,h2⟩
   exact hf ⟨h1,by omega⟩
 refine ⟨single,fun d k j hd hs hj h5 hf=>bin j d k hd hs hj h5 hf,fun d k j hd hs hj h5 hf=>?_⟩
 by_cases h6:5 <= aM e.op+j
 ·exact ⟨e,_,0,bin j d k hd hs (by omega) h6 hf,by omega,fun n=>by rw [Nat.zero_add]⟩
 exact step d k j hd hs hj (by omega) hf
theorem VE.reads{e:aH}(h:VE e):Reads l e:=by
 induction h with
 |num n h=>
  refine .of (fun d k hd hs _=>?_) (fun d k j _ _ _ h4 _=>?_)
  ·rw [uO] at hs⊢
   obtain ⟨h1,hk,_⟩:=hs.head
   have e1:(bU l k).kind=2:=congrArg PT.kind h1
   have e2:(bU l k).num=n:=congrArg PT.num h1
   cases d<;>(unfold bL;rw [if_pos e1,e2];rfl)
  ·have:aM (aH.mk 1 n aK []).op=6:=rfl
   omega
 |name s h=>
  refine .of (fun d k hd hs _=>?_) (fun d k j _ _ _ h4 _=>?_)
  ·rw [sC] at hs⊢
   obtain ⟨h1,hk,_⟩:=hs.head
   have e1:(bU l k).kind=1:=congrArg PT.kind h1
   have e2:(bU l k).text=s:=congrArg PT.text h1
   cases d<;>(unfold bL;rw [if_neg (by omega),if_pos e1,e2];rfl)
  ·have:aM (aH.mk 2 0 s []).op=6:=rfl
   omega
 |un op x h hx ih=>
  have hs5:aM op=5:=by rcases h with rfl|rfl<;>rfl
  refine .of (fun d k hd hs _=>?_) (fun d k j _ _ _ h4 _=>?_)
  ·rw [aJb h] at hd
   obtain ⟨d,rfl⟩:∃d',d=d'+1:=⟨d-1,by omega⟩
   rw [yB h] at hs⊢
   obtain ⟨h1,hk,h2⟩:=hs.head
   have hp:=ih.par (cV op 0 x.op) d (k+1) (fun hb=>by have:=yN hb;omega) (by omega) h2
   have hkd:=(pX h1).1
   unfold bL
   rw [hkd,if_neg (by decide),if_neg (by decide),gK h1,gK h1,hp]
   rcases h with rfl|rfl
   ·rw [if_pos (by decide)]
    show bN.ok _ _=_
    congr 1;simp;omega
   rw [if_neg (by decide),if_pos (by decide)]
   show bN.ok _ _=_
   congr 1;simp;omega
  ·have:aM (aH.mk op 0 aK [x]).op=5:=hs5
   omega
 |bin op x y h hx hy ihx ihy=>
  have hlt:=qB h
  refine .of (fun d k hd hs h5=>?_) (fun d k j hd hs hj h4 hf=>?_)
  ·have:aM op<5:=hlt
   have h5:5 <= aM op:=h5
   omega
  rw [aGo h] at hd
  have h4:aM op+j=4:=h4
  rw [uI h] at hs hf⊢
  obtain ⟨s1,s2⟩:=hs.app
  obtain ⟨t1,hk1,s3⟩:=s2.head
  obtain ⟨b1,b2⟩:=aGz h
  have f1:Fol l (k+(mF (cV op 0 x.op) (aT x)).length) (6-j):=aAb t1 (by omega)
  have hlen:(mF (cV op 0 x.op) (aT x)++sgn (iW op)::mF (cV op 1 y.op) (aT y)).length=(mF (cV op 0 x.op) (aT x)).length+1+(mF (cV op 1 y.op) (aT y)).length:=by simp;omega
  rw [hlen] at hf⊢
  have left:∃a k0 m,gS l (bL l d) j k=.ok a k0 /\ m <= (mF (cV op 0 x.op) (aT x)).length /\ ∀n,fR l (gS l (bL l d) j) (5-j) (m+n) a k0=fR l (gS l (bL l d) j) (5-j) n x (k+(mF (cV op 0 x.op) (aT x)).length):=by
   cases hb:cV op 0 x.op with
   |false=>
    rw [hb] at s1 f1
    have:=yN hb
    obtain ⟨a,k0,m,g1,g2,g3⟩:=ihx.chain d k j (by omega) s1 hj (by omega) f1
    exact ⟨a,k0,m,g1,g2,g3⟩
   |true=>
    rw [hb] at s1 f1 hd
    have hp:=ihx.par true d k (by simp) (by omega) s1
    exact ⟨x,_,0,wB hp j (by omega) f1,by omega,fun n=>by rw [Nat.zero_add]⟩
  have right:gS l (bL l d) j (k+(mF (cV op 0 x.op) (aT x)).length+1)=.ok y (k+(mF (cV op 0 x.op) (aT x)).length+1+(mF (cV op 1 y.op) (aT y)).length):=by
   cases hb:cV op 1 y.op with
   |false=>
    rw [hb] at s3 hf
    have:=yN hb
    exact ihy.bin d _ j (by omega) s3 (by omega) (by omega) (by have e:mF false (aT y)=aT y:=rfl;rw [e] at hf;simpa [Nat.add_assoc] using hf)
   |true=>
    rw [hb] at s3 hf hd
    have hp:=ihy.par true d _ (by simp) (by omega) s3
    exact wB hp j (by omega) (by simpa [Nat.add_assoc] using hf)
  obtain ⟨a,k0,m,g1,g2,g3⟩:=left
  refine ⟨a,k0,m+1,g1,by omega,fun n=>?_⟩
  rw [Nat.add_assoc,g3 (1+n),Nat.add_comm 1 n]
  conv=>lhs;unfold fR
  have hc:(bU l (k+(mF (cV op 0 x.op) (aT x)).length)).kind=4 /\ (binOp (bU l (k+(mF (cV op 0 x.op) (aT x)).length)).text).2=5-j:=by
   rw [(pX t1).1,(pX t1).2,b2];exact ⟨rfl,by omega⟩
  rw [if_pos hc,right,(pX t1).2,b1,show ((op.toNat:Nat):Int)=op by omega]
  simp only [Nat.add_assoc]
end
theorem VE.parse{e:aH}(h:VE e)(hh:dI e <= 24){l:List Tok}{k:Nat}(hs:Seg l k (aT e))(hf:Fol l (k+(aT e).length) 1):lJ l k=.ok e (k+(aT e).length):=
 h.reads.bin 24 k 5 hh hs (Nat.le_refl _) (by omega) hf
end
section
def nmT(s:ByteArray):PT:=⟨1,s,0⟩
def nuT(n:Nat):PT:=⟨2,bytes (cO n),n⟩
def VX(e:aH):Prop:=VE e /\ dI e <= 24
inductive VR:cY -> Prop where
 |one (n:ByteArray) (h:bQ n=true):VR ⟨n,[]⟩
 |el (n:ByteArray) (e:aH) (h:bQ n=true) (he:VX e):VR ⟨n,[e]⟩
inductive VA:eN -> Prop where
 |mutex (r:cY) (h:VR r):VA ⟨true,r,.zero⟩
 |expr (e:aH) (h:VX e):VA ⟨false,.zero,e⟩
inductive VSs:Nat -> List aJ -> Prop where
 |nil {d:Nat}:VSs d []
 |var {d:Nat} {n:ByteArray} {e:aH} {r:List aJ} (hn:bQ n=true) (he:VX e) (h:VSs d r):VSs d (.mk 1 n e .zero [] [] []::r)
 |assign {d:Nat} {n:ByteArray} {e:aH} {r:List aJ} (hn:bQ n=true) (he:VX e) (h:VSs d r):VSs d (.mk 2 n e .zero [] [] []::r)
 |call {d:Nat} {n:ByteArray} {a:List eN} {r:List aJ} (hn:bQ n=true) (ha:∀x,x∈a -> VA x) (h:VSs d r):VSs d (.mk 3 n .zero .zero a [] []::r)
 |go {d:Nat} {n:ByteArray} {a:List eN} {r:List aJ} (hn:bQ n=true) (ha:∀x,x∈a -> VA x) (h:VSs d r):VSs d (.mk 4 n .zero .zero a [] []::r)
 |lock {d:Nat} {f:cY} {r:List aJ} (hf:VR f) (h:VSs d r):VSs d (.mk 5 aK .zero f [] [] []::r)
 |unlock {d:Nat} {f:cY} {r:List aJ} (hf:VR f) (h:VSs d r):VSs d (.mk 6 aK .zero f [] [] []::r)
 |cond {d:Nat} {e:aH} {t f r:List aJ} (he:VX e) (ht:VSs d t) (hf:VSs d f) (h:VSs (d+1) r):VSs (d+1) (.mk 7 aK e .zero [] t f::r)
 |loop {d:Nat} {e:aH} {t r:List aJ} (he:VX e) (ht:VSs d t) (h:VSs (d+1) r):VSs (d+1) (.mk 8 aK e .zero [] t []::r)
 |ret {d:Nat} {r:List aJ} (h:VSs d r):VSs d (.mk 9 aK .zero .zero [] [] []::r)
def hY(r:cY):List PT:=match r.index with|[]=>[nmT r.name]|e::_=>nmT r.name::sgn [91]::(aT e++[sgn [93]])
def wH(a:eN):List PT:=if a.mutex then wrd [109,117,116,101,120]::hY a.ref else aT a.expr
def fZ{α:Type}(f:α -> List PT):List α -> List PT
 |[]=>[]
 |x::r=>f x++(r.map fun y=>sgn [44]::f y).flatten
theorem nW{α:Type}(f:α -> List PT)(x y:α)(r:List α):fZ f (x::y::r)=f x++sgn [44]::fZ f (y::r):=by simp [fZ]
theorem aHu{α:Type}(f:α -> List UInt8)(x y:α)(r:List α):bW f (x::y::r)=f x++[44,32]++bW f (y::r):=by simp [bW]
def iG(l:List eN):List PT:=sgn [40]::(fZ wH l++[sgn [41]])
mutual
def cE:aJ -> List PT
 |.mk kind name expr ref args thn els=>
  (if kind=1 then wrd [118,97,114]::nmT name::sgn [61]::(aT expr++[sgn [59]])
   else if kind=2 then nmT name::sgn [61]::(aT expr++[sgn [59]])
   else if kind=3 then nmT name::(iG args++[sgn [59]])
   else if kind=4 then wrd [103,111]::nmT name::(iG args++[sgn [59]])
   else if kind=5 then wrd [108,111,99,107]::(hY ref++[sgn [59]])
   else if kind=6 then wrd [117,110,108,111,99,107]::(hY ref++[sgn [59]])
   else if kind=7∨kind=8 then
    (if kind=8 then wrd [119,104,105,108,101] else wrd [105,102])::(aT expr++sgn [123]::(aQ thn++sgn [125]::
     (if els.length=0 then [] else wrd [101,108,115,101]::sgn [123]::(aQ els++[sgn [125]]))))
   else [wrd [114,101,116,117,114,110],sgn [59]])
def aQ:List aJ -> List PT
 |[]=>[]
 |s::r=>cE s++aQ r
end
theorem aIf{l r:List UInt8}(h:l≠[])(hr:uL l):uL (l++r):=by
 obtain ⟨c,q,rfl⟩:=List.exists_cons_of_ne_nil h
 intro d hd
 obtain rfl:c=d:=by simpa using hd
 exact hr _ rfl
section
variable {r:List UInt8}{ps:List PT}
theorem VX.lx{e:aH}(h:VX e)(hf:Fin r)(hr:Lx r ps):Lx (aP e++r) (aT e++ps):=h.1.lx r ps hf hr
theorem VR.lx{f:cY}(h:VR f)(hf:Fin r)(hr:Lx r ps):Lx (dC f++r) (hY f++ps):=by
 cases h with
 |one n h=>exact hr.name n h hf.nam
 |el n e h he=>
  have h1:=((he.lx (Fin.cons (c:=93) (by decide)) (hr.free 93 (by decide))).free 91 (by decide)).name n h (.cons (by decide))
  simpa [dC,hY,nmT] using h1
theorem VA.lx{a:eN}(h:VA a)(hf:Fin r)(hr:Lx r ps):Lx (dE a++r) (wH a++ps):=by
 cases h with
 |mutex f h=>exact (h.lx hf hr).bl.word [109,117,116,101,120] (by decide) (.cons (by decide))
 |expr e h=>exact h.lx hf hr
theorem yR{α:Type}{fT:α -> List UInt8}{fK:α -> List PT}:∀(l:List α),(∀x,x∈l -> ∀(r:List UInt8)(ps:List PT),Fin r -> Lx r ps -> Lx (fT x++r) (fK x++ps)) -> Fin r -> Lx r ps -> Lx (bW fT l++r) (fZ fK l++ps)
 |[],_,_,hr=>hr
 |[x],h,hf,hr=>by simpa [bW,fZ] using h x (List.mem_cons_self ..) r ps hf hr
 |x::y::q,h,hf,hr=>by
  have h1:=((yR (y::q) (fun z hz=>h z (List.mem_cons_of_mem _ hz)) hf hr).bl.free 44 (by decide))
  have h2:=h x (List.mem_cons_self ..) _ _ (Fin.cons (by decide)) h1
  rw [aHu,nW]
  simpa using h2
theorem aIr{l:List eN}(h:∀x,x∈l -> VA x)(hr:Lx r ps):Lx (dF l++r) (iG l++ps):=by
 have h1:=(yR (fT:=dE) (fK:=wH) l (fun x hx r ps hf hr=>(h x hx).lx hf hr) (Fin.cons (c:=41) (by decide)) (hr.free 41 (by decide))).free 40 (by decide)
 simpa [dF,iG] using h1
theorem kG{t:List UInt8}(ht:∀c∈t,isSp c=true)(hr:Lx r ps):Lx (t++r) ps:=by
 induction t with
 |nil=>exact hr
 |cons c q ih=>exact (ih fun d hd=>ht d (List.mem_cons_of_mem _ hd)).sp (ht c (List.mem_cons_self ..))
theorem Lx.nl(h:Lx r ps):Lx (10::r) ps:=h.sp (by decide)
theorem Lx.semi(h:Lx r ps):Lx (59::10::r) (sgn [59]::ps):=h.nl.free 59 (by decide)
theorem Lx.kw(h:Lx r ps)(s:List UInt8)(hs:dA (bytes s)=true):Lx (s++32::r) (wrd s::ps):=h.bl.word s hs (.cons (by decide))
end
theorem VSs.lx{d:Nat}{l:List aJ}(h:VSs d l):∀(tabs r:List UInt8)(ps:List PT),(∀c∈tabs,isSp c=true) -> Lx r ps -> Lx (aC tabs l++r) (aQ l++ps):=by
 have f59:∀q,Fin (59::q):=fun q=>Fin.cons (by decide)
 induction h with
 |nil=>intro tabs r ps _ hr;exact hr
 |@var d n e q hn he h ih=>
  intro tabs r ps ht hr
  have h0:=ih tabs r ps ht hr
  have h1:=((((he.lx (f59 _) h0.semi).bl.one' 61 (by decide) (Fin.cons (by decide))).bl.name n hn (.cons (by decide))).kw [118,97,114] (by decide))
  simpa [aC,bY,aQ,cE,nmT] using kG ht h1
 |@assign d n e q hn he h ih=>
  intro tabs r ps ht hr
  have h0:=ih tabs r ps ht hr
  have h1:=(((he.lx (f59 _) h0.semi).bl.one' 61 (by decide) (Fin.cons (by decide))).bl.name n hn (.cons (by decide)))
  simpa [aC,bY,aQ,cE,nmT] using kG ht h1
 |@call d n a q hn ha h ih=>
  intro tabs r ps ht hr
  have h0:=ih tabs r ps ht hr
  have h1:=((aIr ha h0.semi).name n hn (aIf (by simp [dF]) (by intro c hc;simp [dF] at hc;subst hc;decide)))
  simpa [aC,bY,aQ,cE,nmT] using kG ht h1
 |@go d n a q hn ha h ih=>
  intro tabs r ps ht hr
  have h0:=ih tabs r ps ht hr
  have h1:=(((aIr ha h0.semi).name n hn (aIf (by simp [dF]) (by intro c hc;simp [dF] at hc;subst hc;decide))).kw [103,111] (by decide))
  simpa [aC,bY,aQ,cE,nmT] using kG ht h1
 |@lock d f q hf h ih=>
  intro tabs r ps ht hr
  have h0:=ih tabs r ps ht hr
  have h1:=((hf.lx (f59 _) h0.semi).kw [108,111,99,107] (by decide))
  simpa [aC,bY,aQ,cE,nmT] using kG ht h1
 |@unlock d f q hf h ih=>
  intro tabs r ps ht hr
  have h0:=ih tabs r ps ht hr
  have h1:=((hf.lx (f59 _) h0.semi).kw [117,110,108,111,99,107] (by decide))
  simpa [aC,bY,aQ,cE,nmT] using kG ht h1
 |@cond d e t f q he htt hff h iht ihf ih=>
  intro tabs r ps ht hr
  have h0:=(ih tabs r ps ht hr).nl
  have ht2:∀c∈tabs++[9],isSp c=true:=by
   intro c hc
   rcases mem_append.1 hc with hc|hc
   ·exact ht c hc
   simp at hc;subst hc;decide
  have h2:Lx ((if f.length=0 then [] else [32,101,108,115,101,32,123,10]++aC (tabs++[9]) f++tabs++[125])++10::(aC tabs q++r)) ((if f.length=0 then [] else wrd [101,108,115,101]::sgn [123]::(aQ f++[sgn [125]]))++(aQ q++ps)):=by
   by_cases hz:f.length=0
   ·rw [if_pos hz,if_pos hz];exact h0
   rw [if_neg hz,if_neg hz]
   have h3:=((ihf (tabs++[9]) _ _ ht2 (kG ht (h0.free 125 (by decide)))).nl.free 123 (by decide)).kw [101,108,115,101] (by decide)
   simpa using h3.bl
  have h4:=((iht (tabs++[9]) _ _ ht2 (kG ht (h2.free 125 (by decide)))).nl.free 123 (by decide)).bl
  have h5:=(he.lx (Fin.cons (by decide)) h4).kw [105,102] (by decide)
  have h6:=kG ht h5
  rw [aC,bY,aQ,cE]
  simpa using h6
 |@loop d e t q he htt h iht ih=>
  intro tabs r ps ht hr
  have h0:=(ih tabs r ps ht hr).nl
  have ht2:∀c∈tabs++[9],isSp c=true:=by
   intro c hc
   rcases mem_append.1 hc with hc|hc
   ·exact ht c hc
   simp at hc;subst hc;decide
  have h4:=((iht (tabs++[9]) _ _ ht2 (kG ht (h0.free 125 (by decide)))).nl.free 123 (by decide)).bl
  have h5:=(he.lx (Fin.cons (by decide)) h4).kw [119,104,105,108,101] (by decide)
  have h6:=kG ht h5
  rw [aC,bY,aQ,cE]
  simpa using h6
 |@ret d q h ih=>
  intro tabs r ps ht hr
  have h0:=ih tabs r ps ht hr
  have h1:=h0.semi.word [114,101,116,117,114,110] (by decide) (.cons (by decide))
  simpa [aC,bY,aQ,cE,nmT] using kG ht h1
section
variable {l:List Tok}{k:Nat}
theorem Seg.len{ps:List PT}(h:Seg l k ps)(hk:k <= l.length):k+ps.length <= l.length:=by
 obtain ⟨t,ht⟩:=h
 have:=congrArg List.length ht
 simp at this;omega
theorem jY{s:List UInt8}(h:(bU l k).pt=sgn s):cS l k s=true:=by rw [gK h];simp
theorem iV{s:List UInt8}(h:(bU l k).pt=sgn s):fD l s k=.ok () (k+1):=by unfold fD;rw [if_pos (jY h)]
theorem xY{s:List UInt8}(h:(bU l k).pt=wrd s)(u:List UInt8):dN l k u=decide (bytes s=bytes u):=by
 have h1:(bU l k).kind=3:=congrArg PT.kind h
 have h2:(bU l k).text=bytes s:=congrArg PT.text h
 unfold dN;rw [h1,h2];simp
theorem yE{t:PT}(h:(bU l k).pt=t)(ht:t.kind≠3)(u:List UInt8):dN l k u=false:=by
 have h1:(bU l k).kind=t.kind:=congrArg PT.kind h
 unfold dN;rw [h1,decide_eq_false ht];rfl
theorem sQ{t:PT}(h:(bU l k).pt=t)(ht:t.kind≠4)(u:List UInt8):cS l k u=false:=by
 have h1:(bU l k).kind=t.kind:=congrArg PT.kind h
 unfold cS;rw [h1,decide_eq_false ht];rfl
theorem jH{s:ByteArray}(h:(bU l k).pt=nmT s):jW l k=.ok s (k+1):=by
 have h1:(bU l k).kind=1:=congrArg PT.kind h
 have h2:(bU l k).text=s:=congrArg PT.text h
 unfold jW;rw [if_pos h1,h2]
theorem aDu{n:Nat}(h:(bU l k).pt=nuT n):qE l k=.ok n (k+1):=by
 have h1:(bU l k).kind=2:=congrArg PT.kind h
 have h2:(bU l k).num=n:=congrArg PT.num h
 unfold qE;rw [if_pos h1,h2]
theorem VX.parse{e:aH}(h:VX e){s:List UInt8}{q:List PT}(hs:Seg l k (aT e++sgn s::q))(hb:(binOp (bytes s)).2=0):lJ l k=.ok e (k+(aT e).length) /\ Seg l (k+(aT e).length) (sgn s::q):=by
 obtain ⟨h1,h2⟩:=hs.app
 exact ⟨h.1.parse h.2 h1 (aAb h2.head.1 (by omega)),h2⟩
theorem VR.parse{f:cY}(h:VR f){s:List UInt8}{q:List PT}(hs:Seg l k (hY f++sgn s::q))(ht:decide (bytes s=bytes [91])=false):xV l k=.ok f (k+(hY f).length) /\ Seg l (k+(hY f).length) (sgn s::q):=by
 cases h with
 |one n h=>
  have hs':Seg l k (nmT n::sgn s::q):=hs
  obtain ⟨h1,_,h2⟩:=hs'.head
  refine ⟨?_,h2⟩
  unfold xV
  rw [jH h1,bind_ok]
  unfold jT
  rw [if_neg];·rfl
  rw [gK h2.head.1,ht];simp
 |el n e h he=>
  have hs':Seg l k (nmT n::sgn [91]::(aT e++sgn [93]::sgn s::q)):=by simpa [hY] using hs
  obtain ⟨h1,_,h2⟩:=hs'.head
  obtain ⟨h3,_,h4⟩:=h2.head
  obtain ⟨h5,h6⟩:=he.parse h4 (by decide)
  obtain ⟨h7,_,h8⟩:=h6.head
  have hl:k+(hY ⟨n,[e]⟩).length=k+1+1+(aT e).length+1:=by simp [hY];omega
  rw [hl]
  refine ⟨?_,h8⟩
  unfold xV
  rw [jH h1,bind_ok]
  unfold jT
  rw [if_pos (jY h3),h5,bind_ok,iV h7,bind_ok]
def aGb(t:PT):Prop:=t.kind=1∨t.kind=2∨∃c,t=sgn [c] /\ c∈([45,33,40]:List UInt8)
theorem aGb.word{t:PT}(h:aGb t):t.kind≠3:=by
 rcases h with h|h|⟨c,rfl,_⟩
 ·omega
 ·omega
 show (4:Nat)≠3;omega
theorem aGb.sign{t:PT}(h:aGb t)(ht:(bU l k).pt=t)(s:List UInt8)(hs:∀c,c∈([45,33,40]:List UInt8) -> decide (bytes [c]=bytes s)=false):cS l k s=false:=by
 rcases h with h|h|⟨c,rfl,hc⟩
 ·exact sQ ht (by omega) s
 ·exact sQ ht (by omega) s
 rw [gK ht];exact hs c hc
theorem VE.beg{e:aH}(h:VE e):∃t q,aT e=t::q /\ aGb t:=by
 induction h with
 |num n h=>exact ⟨_,_,uO n,.inr (.inl rfl)⟩
 |name s h=>exact ⟨_,_,sC s,.inl rfl⟩
 |un op x h hx ih=>
  refine ⟨_,_,yB h x,.inr (.inr ⟨_,rfl,?_⟩)⟩
  rcases h with rfl|rfl<;>decide
 |bin op x y h hx hy ihx ihy=>
  rw [uI h]
  cases cV op 0 x.op with
  |true=>exact ⟨_,_,rfl,.inr (.inr ⟨40,rfl,by decide⟩)⟩
  |false=>
   obtain ⟨t,q,h1,h2⟩:=ihx
   exact ⟨t,_,by show aT x++_=_;rw [h1];rfl,h2⟩
theorem VA.parse{a:eN}(h:VA a){s:List UInt8}{q:List PT}(hs:Seg l k (wH a++sgn s::q))(ht:decide (bytes s=bytes [91])=false)(hb:(binOp (bytes s)).2=0):rC l k=.ok a (k+(wH a).length):=by
 cases h with
 |mutex f h=>
  have hs':Seg l k (wrd [109,117,116,101,120]::(hY f++sgn s::q)):=hs
  obtain ⟨h1,_,h2⟩:=hs'.head
  unfold rC
  rw [if_pos (by rw [xY h1];simp),(h.parse h2 ht).1,bind_ok]
  congr 1
  simp [wH];omega
 |expr e h=>
  have hs':Seg l k (aT e++sgn s::q):=hs
  obtain ⟨t,q',h1,h2⟩:=h.1.beg
  have h3:Seg l k (t::(q'++sgn s::q)):=by rw [h1] at hs';exact hs'
  unfold rC
  rw [if_neg (by rw [yE h3.head.1 h2.word];simp),(h.parse hs' hb).1,bind_ok]
  rfl
theorem VA.beg{a:eN}(h:VA a):∃t q,wH a=t::q /\ (t.kind=3∨aGb t):=by
 cases h with
 |mutex f h=>exact ⟨_,_,rfl,.inl rfl⟩
 |expr e h=>
  obtain ⟨t,q,h1,h2⟩:=h.1.beg
  exact ⟨t,q,h1,.inr h2⟩
theorem zS{α:Type}{f:α -> List PT}{el:Nat -> Nat -> bN α}:∀(rest acc:List α)(n k:Nat),rest≠[] -> rest.length <= n ->
  (∀i (h:i<rest.length) k s q,s=[44]∨s=[41] -> Seg l k (f rest[i]++sgn s::q) -> el (acc.length+i) k=.ok rest[i] (k+(f rest[i]).length)) ->
  ∀q,Seg l k (fZ f rest++sgn [41]::q) -> lI l el n acc k=.ok (acc++rest) (k+(fZ f rest).length+1)
 |[],_,_,_,h,_,_,_,_=>absurd rfl h
 |[x],acc,n,k,_,hn,he,q,hs=>by
  obtain ⟨n,rfl⟩:∃n',n=n'+1:=⟨n-1,by simp at hn;omega⟩
  have hs':Seg l k (f x++sgn [41]::q):=by simpa [fZ] using hs
  have h1:=he 0 (by simp) k [41] q (.inr rfl) hs'
  have h2:=(hs'.app.2).head.1
  unfold lI
  have h1':el acc.length k=.ok x (k+(f x).length):=h1
  rw [h1',bind_ok,if_neg (by rw [gK h2];decide),iV h2,bind_ok]
  simp [fZ]
 |x::y::r,acc,n,k,_,hn,he,q,hs=>by
  obtain ⟨n,rfl⟩:∃n',n=n'+1:=⟨n-1,by simp at hn;omega⟩
  rw [nW] at hs
  have hs':Seg l k (f x++sgn [44]::(fZ f (y::r)++sgn [41]::q)):=by simpa using hs
  have h1:=he 0 (by simp) k [44] _ (.inl rfl) hs'
  obtain ⟨h2,_,h3⟩:=(hs'.app.2).head
  unfold lI
  have h1':el acc.length k=.ok x (k+(f x).length):=h1
  rw [h1',bind_ok,if_pos (jY h2)]
  rw [zS (y::r) (acc++[x]) n _ (by simp) (by simp at hn⊢;omega) (fun i h k s q hq hs=>by
   have:=he (i+1) (by simp at h⊢;omega) k s q hq (by simpa using hs)
   simpa [Nat.add_assoc,Nat.add_comm,Nat.add_left_comm] using this) q h3,nW]
  simp;omega
theorem vN{α:Type}{f:α -> List PT}{el:Nat -> Nat -> bN α}(xs:List α)(k:Nat)(q:List PT)(hk:k <= l.length)(hs:Seg l k (sgn [40]::(fZ f xs++sgn [41]::q)))
  (hb:∀x,x∈xs -> ∃t p,f x=t::p /\ (t.kind=3∨aGb t))
  (he:∀i (h:i<xs.length) k s q,s=[44]∨s=[41] -> Seg l k (f xs[i]++sgn s::q) -> el i k=.ok xs[i] (k+(f xs[i]).length)):jC l el k=.ok xs (k+(fZ f xs).length+2):=by
 obtain ⟨h1,_,h2⟩:=hs.head
 unfold jC
 rw [iV h1,bind_ok]
 cases xs with
 |nil=>
  have h3:Seg l (k+1) (sgn [41]::q):=h2
  rw [if_pos (jY h3.head.1)]
  rfl
 |cons x r=>
  obtain ⟨t,p,hx,ht⟩:=hb x (List.mem_cons_self ..)
  have h3:∃u,fZ f (x::r)++sgn [41]::q=t::u:=⟨p++(r.map fun y=>sgn [44]::f y).flatten++sgn [41]::q,by show (f x++(r.map fun y=>sgn [44]::f y).flatten)++sgn [41]::q=_;rw [hx];simp⟩
  obtain ⟨u,hu⟩:=h3
  have h4:Seg l (k+1) (t::u):=by rw [←hu];exact h2
  have h5:cS l (k+1) [41]=false:=by
   rcases ht with ht|ht
   ·exact sQ h4.head.1 (by omega) _
   exact ht.sign h4.head.1 _ (by decide)
  rw [if_neg (by rw [h5];simp)]
  have hlen:(x::r).length <= l.length:=by
   have h6:∀(ys:List α),(∀y,y∈ys -> ∃t p,f y=t::p /\ (t.kind=3∨aGb t)) -> ys.length <= (fZ f ys).length:=by
    intro ys
    induction ys with
    |nil=>intro _;simp
    |cons y ys ih=>
     intro hh
     cases ys with
     |nil=>
      obtain ⟨t,p,h7,_⟩:=hh y (List.mem_cons_self ..)
      simp [fZ,h7]
     |cons z zs=>
      have:=ih fun y hy=>hh y (List.mem_cons_of_mem _ hy)
      rw [nW]
      simp at this⊢;omega
   have h7:=h6 (x::r) hb
   have h8:=hs.len hk
   simp at h8;omega
  rw [zS (x::r) [] l.length (k+1) (by simp) hlen (fun i h k s q hq hs=>by simpa using he i h k s q hq hs) q h2]
  simp;omega
theorem yY{a:List eN}(h:∀x,x∈a -> VA x){q:List PT}(hk:k <= l.length)(hs:Seg l k (iG a++q)):rA l k=.ok a (k+(iG a).length) /\ Seg l (k+(iG a).length) q:=by
 refine ⟨?_,hs.app.2⟩
 have hs':Seg l k (sgn [40]::(fZ wH a++sgn [41]::q)):=by simpa [iG] using hs
 have:=vN (el:=fun _=>rC l) a k q hk hs' (fun x hx=>(h x hx).beg) (fun i hi k s q hq hs=>(h _ (getElem_mem hi)).parse hs (by rcases hq with rfl|rfl<;>decide) (by rcases hq with rfl|rfl<;>decide))
 unfold rA
 rw [this]
 simp [iG];omega
theorem kI(s:aJ){q:List PT}(hs:Seg l k (sgn [59]::q)):oO l s k=.ok s (k+1):=by
 unfold oO;rw [iV hs.head.1,bind_ok]
end
end
section
section
variable {l:List Tok}
def aNb(t:PT):Prop:=t.kind=1∨∃s,t=wrd s /\ decide (bytes s=bytes [101,108,115,101])=false
theorem aNb.sign{t:PT}{k:Nat}(h:aNb t)(ht:(bU l k).pt=t)(s:List UInt8):cS l k s=false:=by
 rcases h with h|⟨u,rfl,_⟩
 ·exact sQ ht (by omega) s
 exact sQ ht (by show (3:Nat)≠4;omega) s
theorem aNb.els{t:PT}{k:Nat}(h:aNb t)(ht:(bU l k).pt=t):dN l k [101,108,115,101]=false:=by
 rcases h with h|⟨u,rfl,hu⟩
 ·exact yE ht (by omega) _
 rw [xY ht];exact hu
theorem VSs.beg{d:Nat}{s:aJ}{r:List aJ}(h:VSs d (s::r)):∃t q,cE s=t::q /\ aNb t:=by
 cases h with
 |var|go|lock|unlock|ret|loop|cond=>exact ⟨_,_,by rw [cE];rfl,.inr ⟨_,rfl,by decide⟩⟩
 |assign|call=>exact ⟨_,_,by rw [cE];rfl,.inl rfl⟩
theorem VSs.tail{d:Nat}{s:aJ}{r:List aJ}(h:VSs d (s::r)):VSs d r:=by cases h<;>assumption
theorem aJk{d:Nat}{r:List aJ}(h:VSs d r){k:Nat}{q:List PT}(hs:Seg l k (aQ r++sgn [125]::q)):dN l k [101,108,115,101]=false:=by
 cases r with
 |nil=>
  have hs':Seg l k (sgn [125]::q):=hs
  exact yE hs'.head.1 (by show (4:Nat)≠3;omega) _
 |cons s r=>
  obtain ⟨t,p,h1,h2⟩:=h.beg
  rw [aQ,h1] at hs
  have hs':Seg l k (t::(p++aQ r++sgn [125]::q)):=by simpa using hs
  exact h2.els hs'.head.1
theorem gI{k:Nat}{s:List UInt8}(h:(bU l k).pt=wrd s):dN l k s=true:=by rw [xY h];simp
theorem cG{k:Nat}{s u:List UInt8}(h:(bU l k).pt=wrd s)(hu:decide (bytes s=bytes u)=false):¬dN l k u=true:=by rw [xY h,hu];simp
theorem wM{k:Nat}{n:ByteArray}(h:(bU l k).pt=nmT n)(u:List UInt8):¬dN l k u=true:=by rw [yE h (by show (1:Nat)≠3;omega)];simp
theorem aGl{d:Nat}{s:aJ}{r:List aJ}(h:VSs d (s::r))(blk:Nat -> bN (List aJ))
  (hb:∀d' b k q,d=d'+1 -> VSs d' b -> k <= l.length -> Seg l k (sgn [123]::(aQ b++sgn [125]::q)) -> b.length <= (aQ b).length -> blk k=.ok b (k+(aQ b).length+2))
  (hc:∀d' b,VSs d' b -> b.length <= (aQ b).length) {k:Nat} {q:List PT} (hk:k <= l.length) (hs:Seg l k (cE s++(aQ r++sgn [125]::q))):fB l blk k=.ok s (k+(cE s).length):=by
 have hlen:=hs.app.1.len hk
 cases h with
 |@var _ n e _ hn he h=>
  rw [cE] at hs hlen⊢
  simp only [if_true] at hs hlen⊢
  obtain ⟨h1,_,h2⟩:=hs.head
  unfold fB
  rw [if_pos (gI h1)]
  obtain ⟨h3,_,h4⟩:=h2.head
  obtain ⟨h5,_,h6⟩:=h4.head
  obtain ⟨h7,h8⟩:=he.parse (s:=[59]) (q:=aQ r++sgn [125]::q) (by simpa using h6) (by decide)
  unfold qI
  rw [jH h3,bind_ok,iV h5,bind_ok,h7,bind_ok,kI _ h8]
  simp;omega
 |@assign _ n e _ hn he h=>
  rw [cE] at hs hlen⊢
  simp only [if_true,show ¬((2:Int)=1) by decide,if_false] at hs hlen⊢
  obtain ⟨h3,_,h4⟩:=hs.head
  obtain ⟨h5,_,h6⟩:=h4.head
  obtain ⟨h7,h8⟩:=he.parse (s:=[59]) (q:=aQ r++sgn [125]::q) (by simpa using h6) (by decide)
  unfold fB
  repeat rw [if_neg (wM h3 _)]
  unfold mG
  rw [jH h3,bind_ok]
  unfold iB
  rw [if_pos (jY h5),h7,bind_ok,kI _ h8]
  simp;omega
 |@call _ n a _ hn ha h=>
  rw [cE] at hs hlen⊢
  simp only [if_true,show ¬((3:Int)=1) by decide,show ¬((3:Int)=2) by decide,if_false] at hs hlen⊢
  obtain ⟨h3,hk3,h4⟩:=hs.head
  have h4':Seg l (k+1) (iG a++sgn [59]::(aQ r++sgn [125]::q)):=by simpa using h4
  have h5:Seg l (k+1) (sgn [40]::(fZ wH a++[sgn [41]]++sgn [59]::(aQ r++sgn [125]::q))):=by simpa [iG] using h4'
  obtain ⟨h7,h8⟩:=yY ha (by omega) h4'
  unfold fB
  repeat rw [if_neg (wM h3 _)]
  unfold mG
  rw [jH h3,bind_ok]
  unfold iB
  rw [if_neg (by rw [gK h5.head.1];decide),h7,bind_ok,kI _ h8]
  simp;omega
 |@go _ n a _ hn ha h=>
  rw [cE] at hs hlen⊢
  simp only [if_true,show ¬((4:Int)=1) by decide,show ¬((4:Int)=2) by decide,show ¬((4:Int)=3) by decide,if_false] at hs hlen⊢
  obtain ⟨h1,_,h2⟩:=hs.head
  obtain ⟨h3,hk3,h4⟩:=h2.head
  have h4':Seg l (k+1+1) (iG a++sgn [59]::(aQ r++sgn [125]::q)):=by simpa using h4
  obtain ⟨h7,h8⟩:=yY ha (by omega) h4'
  unfold fB
  rw [if_neg (cG h1 (by decide)),if_pos (gI h1)]
  unfold goP
  rw [jH h3,bind_ok,h7,bind_ok,kI _ h8]
  simp;omega
 |@lock _ f _ hf h=>
  rw [cE] at hs hlen⊢
  simp only [if_true,show ¬((5:Int)=1) by decide,show ¬((5:Int)=2) by decide,show ¬((5:Int)=3) by decide,show ¬((5:Int)=4) by decide,if_false] at hs hlen⊢
  obtain ⟨h1,_,h2⟩:=hs.head
  obtain ⟨h7,h8⟩:=hf.parse (s:=[59]) (q:=aQ r++sgn [125]::q) (by simpa using h2) (by decide)
  unfold fB
  rw [if_neg (cG h1 (by decide)),if_neg (cG h1 (by decide)),if_pos (gI h1)]
  unfold nH
  rw [h7,bind_ok,kI _ h8]
  simp;omega
 |@unlock _ f _ hf h=>
  rw [cE] at hs hlen⊢
  simp only [if_true,show ¬((6:Int)=1) by decide,show ¬((6:Int)=2) by decide,show ¬((6:Int)=3) by decide,show ¬((6:Int)=4) by decide,show ¬((6:Int)=5) by decide,if_false] at hs hlen⊢
  obtain ⟨h1,_,h2⟩:=hs.head
  obtain ⟨h7,h8⟩:=hf.parse (s:=[59]) (q:=aQ r++sgn [125]::q) (by simpa using h2) (by decide)
  unfold fB
  rw [if_neg (cG h1 (by decide)),if_neg (cG h1 (by decide)),if_neg (cG h1 (by decide)),if_pos (gI h1)]
  unfold nH
  rw [h7,bind_ok,kI _ h8]
  simp;omega
 |@cond d e t f _ he ht hf h=>
  rw [cE] at hs hlen⊢
  simp only [if_true,show ¬((7:Int)=1) by decide,show ¬((7:Int)=2) by decide,show ¬((7:Int)=3) by decide,show ¬((7:Int)=4) by decide,show ¬((7:Int)=5) by decide,show ¬((7:Int)=6) by decide,show ¬((7:Int)=8) by decide,true_or,if_false] at hs hlen⊢
  obtain ⟨h1,_,h2⟩:=hs.head
  obtain ⟨h7,h8⟩:=he.parse (s:=[123]) (q:=aQ t++sgn [125]::((if f.length=0 then [] else wrd [101,108,115,101]::sgn [123]::(aQ f++[sgn [125]]))++(aQ r++sgn [125]::q))) (by simpa using h2) (by decide)
  have hk8:=h8.head.2.1
  have h9:=hb d t _ _ rfl ht (by omega) h8 (hc _ _ ht)
  obtain ⟨_,_,h10⟩:=(h8.head.2.2.app.2).head
  unfold fB
  rw [if_neg (cG h1 (by decide)),if_neg (cG h1 (by decide)),if_neg (cG h1 (by decide)),if_neg (cG h1 (by decide)),if_pos (gI h1)]
  unfold ifP
  rw [h7,bind_ok,h9,bind_ok]
  have ek:k+1+(aT e).length+(aQ t).length+2=k+1+(aT e).length+1+(aQ t).length+1:=by omega
  rw [ek]
  unfold tA
  by_cases hz:f.length=0
  ·rw [if_pos hz] at h10 hlen⊢
   rw [if_neg (by rw [aJk h h10];simp)]
   have:f=[]:=List.length_eq_zero_iff.1 hz
   subst this
   simp;omega
  ·rw [if_neg hz] at h10 hlen⊢
   obtain ⟨h11,_,h12⟩:=h10.head
   rw [if_pos (gI h11)]
   have h12':Seg l (k+1+(aT e).length+1+(aQ t).length+1+1) (sgn [123]::(aQ f++sgn [125]::(aQ r++sgn [125]::q))):=by simpa using h12
   have hk12:=h12'.head.2.1
   rw [hb d f _ _ rfl hf (by omega) h12' (hc _ _ hf),bind_ok]
   simp;omega
 |@loop d e t _ he ht h=>
  rw [cE] at hs hlen⊢
  simp only [if_true,show ¬((8:Int)=1) by decide,show ¬((8:Int)=2) by decide,show ¬((8:Int)=3) by decide,show ¬((8:Int)=4) by decide,show ¬((8:Int)=5) by decide,show ¬((8:Int)=6) by decide,or_true,if_false,length_nil] at hs hlen⊢
  obtain ⟨h1,_,h2⟩:=hs.head
  obtain ⟨h7,h8⟩:=he.parse (s:=[123]) (q:=aQ t++sgn [125]::(aQ r++sgn [125]::q)) (by simpa using h2) (by decide)
  have hk8:=h8.head.2.1
  have h9:=hb d t _ _ rfl ht (by omega) h8 (hc _ _ ht)
  unfold fB
  rw [if_neg (cG h1 (by decide)),if_neg (cG h1 (by decide)),if_neg (cG h1 (by decide)),if_neg (cG h1 (by decide)),if_neg (cG h1 (by decide)),if_pos (gI h1)]
  unfold pJ
  rw [h7,bind_ok,h9,bind_ok]
  simp;omega
 |@ret _ _ h=>
  rw [cE] at hs hlen⊢
  simp only [show ¬((9:Int)=1) by decide,show ¬((9:Int)=2) by decide,show ¬((9:Int)=3) by decide,show ¬((9:Int)=4) by decide,show ¬((9:Int)=5) by decide,show ¬((9:Int)=6) by decide,show ¬((9:Int)=8) by decide,show ¬((9:Int)=7) by decide,or_self,if_false] at hs hlen⊢
  obtain ⟨h1,_,h2⟩:=hs.head
  unfold fB
  rw [if_neg (cG h1 (by decide)),if_neg (cG h1 (by decide)),if_neg (cG h1 (by decide)),if_neg (cG h1 (by decide)),if_neg (cG h1 (by decide)),if_neg (cG h1 (by decide)),if_pos (gI h1)]
  unfold aD8
  rw [kI _ h2]
  rfl
theorem VSs.count{d:Nat}{b:List aJ}(h:VSs d b):b.length <= (aQ b).length:=by
 induction b with
 |nil=>simp
 |cons s r ih=>
  obtain ⟨t,q,h1,_⟩:=h.beg
  have:=ih h.tail
  rw [aQ,h1]
  simp;omega
theorem xJ{d:Nat}(st:Nat -> bN aJ)(hst:∀s r k q,VSs d (s::r) -> k <= l.length -> Seg l k (cE s++(aQ r++sgn [125]::q)) -> st k=.ok s (k+(cE s).length)):
  ∀(b acc:List aJ)(n k:Nat)(q:List PT),VSs d b -> b.length<n -> k <= l.length -> Seg l k (aQ b++sgn [125]::q) -> eS l st n acc k=.ok (acc++b) (k+(aQ b).length+1)
 |[],acc,n,k,q,_,hn,_,hs=>by
  obtain ⟨n,rfl⟩:∃n',n=n'+1:=⟨n-1,by simp at hn;omega⟩
  have hs':Seg l k (sgn [125]::q):=hs
  unfold eS
  rw [if_pos (jY hs'.head.1)]
  simp [aQ]
 |s::r,acc,n,k,q,h,hn,hk,hs=>by
  obtain ⟨n,rfl⟩:∃n',n=n'+1:=⟨n-1,by simp at hn;omega⟩
  rw [aQ] at hs
  have hs':Seg l k (cE s++(aQ r++sgn [125]::q)):=by simpa using hs
  obtain ⟨t,p,h1,h2⟩:=h.beg
  have h3:Seg l k (t::(p++(aQ r++sgn [125]::q))):=by rw [h1] at hs';exact hs'
  have hlen:=hs'.app.1.len hk
  unfold eS
  rw [if_neg (by rw [h2.sign h3.head.1];simp),hst s r k q h hk hs',bind_ok,xJ st hst r (acc++[s]) n _ q h.tail (by simp at hn;omega) hlen hs'.app.2]
  rw [aQ]
  simp;omega
theorem xI:∀(d:Nat)(b:List aJ)(k:Nat)(q:List PT),VSs d b -> k <= l.length -> Seg l k (sgn [123]::(aQ b++sgn [125]::q)) -> eX l (d+1) k=.ok b (k+(aQ b).length+2)
 |d,b,k,q,h,hk,hs=>by
  obtain ⟨h1,hk1,h2⟩:=hs.head
  have hlen:=hs.len hk
  have hcnt:=h.count
  simp at hlen
  unfold eX
  rw [iV h1,bind_ok]
  rw [xJ (d:=d) (fB l (eX l d)) (fun s r k q hh hk hs=>aGl hh (eX l d) (fun d' b k q hd hb hk hs _=>by
   subst hd
   exact xI d' b k q hb hk hs) (fun _ _ hb=>hb.count) hk hs) b [] l.length (k+1) q h (by omega) (by omega) h2]
  simp;omega
end
end
section
inductive fF where
 |glob (g:aI)
 |mtx (m:cL)
 |fn (f:bS)
def VG(g:aI):Prop:=bQ g.name=true /\ g.init.natAbs <= 9223372036854775807
def VM(m:cL):Prop:=bQ m.name=true /\ 0 <= m.size /\ m.size <= 64 /\ (m.reentrant=true -> m.size=0)
def VF(f:bS):Prop:=bQ f.name=true /\ f.params.length <= 6 /\ (∀x,x∈f.params -> bQ x.name=true) /\ VSs 23 f.body
def fF.ok:fF -> Prop
 |.glob g=>VG g
 |.mtx m=>VM m
 |.fn f=>VF f
def fF.text:fF -> List UInt8
 |.glob g=>aU g
 |.mtx m=>bE m
 |.fn f=>funcText f
def bEr(g:aI):List PT:=wrd [118,97,114]::nmT g.name::((if g.init=0 then [] else sgn [61]::(if g.init<0 then [sgn [45],nuT g.init.natAbs] else [nuT g.init.natAbs]))++[sgn [59]])
def gT(m:cL):List PT:=(if m.reentrant then wrd [114,109,117,116,101,120] else wrd [109,117,116,101,120])::nmT m.name::((if 0<m.size then [sgn [91],nuT m.size.natAbs,sgn [93]] else [])++[sgn [59]])
def lQ(x:aS):List PT:=(if x.mutex then [wrd [109,117,116,101,120]] else [])++[nmT x.name]
def kA(f:bS):List PT:=wrd [102,117,110,99]::nmT f.name::sgn [40]::(fZ lQ f.params++sgn [41]::sgn [123]::(aQ f.body++[sgn [125]]))
def fF.toks:fF -> List PT
 |.glob g=>bEr g
 |.mtx m=>gT m
 |.fn f=>kA f
def fF.add(x:cK):fF -> cK
 |.glob g=>{x with globals:=x.globals++[g]}
 |.mtx m=>{x with mutexes:=x.mutexes++[m]}
 |.fn f=>{x with funcs:=x.funcs++[f]}
section
variable {r:List UInt8}{ps:List PT}
theorem VG.lx{g:aI}(h:VG g)(hr:Lx r ps):Lx (aU g++r) (bEr g++ps):=by
 obtain ⟨hn,hi⟩:=h
 unfold aU bEr
 by_cases h0:g.init=0
 ·rw [if_pos h0,if_pos h0]
  have h1:=(hr.semi.name g.name hn (.cons (by decide))).kw [118,97,114] (by decide)
  simpa [nmT] using h1
 rw [if_neg h0,if_neg h0]
 have h1:=hr.semi.num g.init.natAbs hi (.cons (by decide))
 have hsta:Sta (cO g.init.natAbs++59::10::r):=by
  have:=(VE.num g.init.natAbs hi).sta
  rw [wE] at this
  exact this.app _
 unfold eH
 by_cases hneg:g.init<0
 ·rw [if_pos hneg,if_pos hneg]
  have h2:=(((h1.pre 45 (by decide) hsta).bl.one' 61 (by decide) (Fin.cons (by decide))).bl.name g.name hn (.cons (by decide))).kw [118,97,114] (by decide)
  simpa [nmT,nuT] using h2
 rw [if_neg hneg,if_neg hneg]
 have h2:=((h1.bl.one' 61 (by decide) (Fin.cons (by decide))).bl.name g.name hn (.cons (by decide))).kw [118,97,114] (by decide)
 simpa [nmT,nuT] using h2
theorem VM.lx{m:cL}(h:VM m)(hr:Lx r ps):Lx (bE m++r) (gT m++ps):=by
 obtain ⟨hn,h0,h1,h2⟩:=h
 have key:Lx (m.name.data.toList++(if 0<m.size then [91]++eH m.size++[93] else [])++[59,10]++r) (nmT m.name::((if 0<m.size then [sgn [91],nuT m.size.natAbs,sgn [93]] else [])++[sgn [59]])++ps):=by
  by_cases hp:0<m.size
  ·rw [if_pos hp,if_pos hp]
   have h3:=(((hr.semi.free 93 (by decide)).num m.size.natAbs (by omega) (.cons (by decide))).free 91 (by decide)).name m.name hn (.cons (by decide))
   unfold eH
   rw [if_neg (by omega)]
   simpa [nmT,nuT] using h3
  rw [if_neg hp,if_neg hp]
  have h3:=hr.semi.name m.name hn (.cons (by decide))
  simpa [nmT] using h3
 unfold bE gT
 cases hre:m.reentrant with
 |true=>
  have:=key.kw [114,109,117,116,101,120] (by decide)
  simpa using this
 |false=>
  have:=key.kw [109,117,116,101,120] (by decide)
  simpa using this
theorem aNk{x:aS}(h:bQ x.name=true)(hf:Fin r)(hr:Lx r ps):Lx (bX x++r) (lQ x++ps):=by
 unfold bX lQ
 have h1:=hr.name x.name h hf.nam
 cases x.mutex with
 |true=>
  have h2:=h1.kw [109,117,116,101,120] (by decide)
  simpa [nmT] using h2
 |false=>simpa [nmT] using h1
theorem VF.lx{f:bS}(h:VF f)(hr:Lx r ps):Lx (funcText f++r) (kA f++ps):=by
 obtain ⟨hn,h0,h1,h2⟩:=h
 have h3:=((h2.lx [9] _ _ (by decide) (hr.nl.free 125 (by decide))).nl.free 123 (by decide)).bl.free 41 (by decide)
 have h4:=((yR (fT:=bX) (fK:=lQ) f.params (fun x hx r ps hf hr=>aNk (h1 x hx) hf hr) (Fin.cons (by decide)) h3).free 40 (by decide)).name f.name hn (.cons (by decide))
 have h5:=h4.kw [102,117,110,99] (by decide)
 unfold funcText kA
 simpa [nmT] using h5
theorem fF.lx{x:fF}(h:x.ok)(hr:Lx r ps):Lx (x.text++r) (x.toks++ps):=by
 cases x with
 |glob g=>exact VG.lx h hr
 |mtx m=>exact VM.lx h hr
 |fn f=>exact VF.lx h hr
end
section
variable {l:List Tok}
theorem aFa{x:aS}(h:bQ x.name=true){n k:Nat}{s:List UInt8}{q:List PT}(hn:n<6)(hs:Seg l k (lQ x++sgn s::q)):fQ l n k=.ok x (k+(lQ x).length):=by
 obtain ⟨nm,mu⟩:=x
 unfold fQ
 rw [if_neg (fun hh=>by omega)]
 cases mu with
 |true=>
  have hs':Seg l k (wrd [109,117,116,101,120]::nmT nm::sgn s::q):=hs
  obtain ⟨h1,_,h2⟩:=hs'.head
  rw [if_pos (gI h1),jH h2.head.1]
  rfl
 |false=>
  have hs':Seg l k (nmT nm::sgn s::q):=hs
  rw [if_neg (wM hs'.head.1 _),jH hs'.head.1]
  rfl
theorem VG.parse{g:aI}{k:Nat}{q:List PT}(hs:Seg l k (bEr g++q)):mP l (k+1)=.ok g (k+(bEr g).length):=by
 obtain ⟨nm,i⟩:=g
 unfold bEr at hs⊢
 simp only at hs⊢
 obtain ⟨h1,_,h2⟩:=hs.head
 obtain ⟨h3,_,h4⟩:=h2.head
 unfold mP
 rw [jH h3,bind_ok]
 by_cases h0:i=0
 ·rw [if_pos h0] at h4⊢
  have h5:Seg l (k+1+1) (sgn [59]::q):=h4
  rw [if_neg (by rw [gK h5.head.1];decide),iV h5.head.1,bind_ok,h0]
  rfl
 rw [if_neg h0] at h4⊢
 by_cases hn:i<0
 ·rw [if_pos hn] at h4⊢
  have h5:Seg l (k+1+1) (sgn [61]::sgn [45]::nuT i.natAbs::sgn [59]::q):=h4
  obtain ⟨h6,_,h7⟩:=h5.head
  obtain ⟨h8,_,h9⟩:=h7.head
  obtain ⟨h10,_,h11⟩:=h9.head
  rw [if_pos (jY h6),if_pos (jY h8),aDu h10,bind_ok,iV h11.head.1,bind_ok]
  rw [show -((i.natAbs:Nat):Int)=i by omega]
  rfl
 rw [if_neg hn] at h4⊢
 have h5:Seg l (k+1+1) (sgn [61]::nuT i.natAbs::sgn [59]::q):=h4
 obtain ⟨h6,_,h7⟩:=h5.head
 obtain ⟨h8,_,h9⟩:=h7.head
 rw [if_pos (jY h6),if_neg (by rw [sQ h8 (by show (2:Nat)≠4;omega)];simp),aDu h8,bind_ok,iV h9.head.1,bind_ok]
 rw [show ((i.natAbs:Nat):Int)=i by omega]
 rfl
theorem VM.parse{m:cL}(h:VM m){k:Nat}{q:List PT}(hs:Seg l k (gT m++q)):nE l m.reentrant (k+1)=.ok m (k+(gT m).length):=by
 obtain ⟨nm,re,sz⟩:=m
 obtain ⟨_,g0,g1,g2⟩:=h
 simp only at g0 g1 g2
 unfold gT at hs⊢
 simp only at hs⊢
 obtain ⟨h1,_,h2⟩:=hs.head
 obtain ⟨h3,_,h4⟩:=h2.head
 unfold nE
 rw [jH h3,bind_ok]
 by_cases h0:0<sz
 ·have hre:re=false:=by
   cases re with
   |false=>rfl
   |true=>have:=g2 rfl;omega
  rw [if_pos h0] at h4⊢
  have h5:Seg l (k+1+1) (sgn [91]::nuT sz.natAbs::sgn [93]::sgn [59]::q):=h4
  obtain ⟨h6,_,h7⟩:=h5.head
  obtain ⟨h8,_,h9⟩:=h7.head
  obtain ⟨h10,_,h11⟩:=h9.head
  rw [if_pos ⟨hre,jY h6⟩]
  unfold qX
  rw [aDu h8,bind_ok,if_neg (by omega),bind_ok,iV h10,bind_ok,iV h11.head.1,bind_ok]
  rw [show ((sz.natAbs:Nat):Int)=sz by omega]
  rfl
 ·rw [if_neg h0] at h4⊢
  have h5:Seg l (k+1+1) (sgn [59]::q):=h4
  rw [if_neg (fun hh=>by rw [gK h5.head.1] at hh;exact absurd hh.2 (by decide)),iV h5.head.1,bind_ok]
  rw [show sz=0 by omega]
  rfl
theorem VF.parse{f:bS}(h:VF f){k:Nat}{q:List PT}(hk:k <= l.length)(hs:Seg l k (kA f++q)):sW l (k+1)=.ok f (k+(kA f).length):=by
 obtain ⟨nm,pa,bd⟩:=f
 obtain ⟨_,g0,g1,g2⟩:=h
 simp only at g0 g1 g2
 have hlen:=hs.app.1.len hk
 unfold kA at hs hlen⊢
 simp only at hs hlen⊢
 obtain ⟨h1,hk1,h2⟩:=hs.head
 obtain ⟨h3,hk2,h4⟩:=h2.head
 have h4':Seg l (k+1+1) (sgn [40]::(fZ lQ pa++sgn [41]::(sgn [123]::(aQ bd++sgn [125]::q)))):=by simpa using h4
 unfold sW
 rw [jH h3,bind_ok,vN (f:=lQ) pa (k+1+1) _ (by omega) h4' (fun x hx=>by
  unfold lQ
  cases x.mutex with
  |true=>exact ⟨_,_,rfl,.inl rfl⟩
  |false=>exact ⟨_,_,rfl,.inr (.inl rfl)⟩) (fun i hi k s q _ hs=>aFa (g1 _ (getElem_mem hi)) (by omega) hs),bind_ok]
 have h5:=h4'.head.2.2.app.2.head.2.2
 simp at hlen
 rw [show k+1+1+(fZ lQ pa).length+2=k+1+1+1+(fZ lQ pa).length+1 by omega]
 rw [xI 23 bd _ q g2 (by omega) h5,bind_ok]
 simp;omega
end
end
section
def fit(n:Int):Prop:=-9223372036854775808 <= n /\ n <= 9223372036854775807
mutual
def aH.sane:aH -> Prop
 |.mk _ num name args=>fit num /\ name.size <= 4611686018427387904 /\ iI args
def iI:List aH -> Prop
 |[]=>True
 |e::es=>e.sane /\ iI es
end
def cY.sane(r:cY):Prop:=r.name.size <= 4611686018427387904 /\ iI r.index
def eN.sane(a:eN):Prop:=a.ref.sane /\ a.expr.sane
mutual
def aJ.sane:aJ -> Prop
 |.mk _ n e r args t el=>n.size <= 4611686018427387904 /\ e.sane /\ r.sane /\ (∀a,a∈args -> a.sane) /\ gC t /\ gC el
def gC:List aJ -> Prop
 |[]=>True
 |s::r=>s.sane /\ gC r
end
def bS.sane(f:bS):Prop:=f.name.size <= 4611686018427387904 /\ (∀x,x∈f.params -> x.name.size <= 4611686018427387904) /\ gC f.body
structure cK.sane (p:cK):Prop where
 globals:∀g,g∈p.globals -> fit g.init /\ g.name.size <= 4611686018427387904
 mutexes:∀m,m∈p.mutexes -> fit m.size /\ m.name.size <= 4611686018427387904
 funcs:∀f,f∈p.funcs -> f.sane
theorem mV:∀(l:List aH),iI l -> ∀e,e∈l -> e.sane
 |[],_,_,h=>by cases h
 |x::l,hs,e,h=>by
  rw [iI] at hs
  rcases mem_cons.1 h with rfl|h
  ·exact hs.1
  exact mV l hs.2 e h
theorem rW(op:Int):(aM op<5 /\ 5 <= op /\ op <= 17)∨(aM op=5 /\ (op=3∨op=4))∨aM op=6:=by
 unfold aM
 repeat' split
 all_goals omega
mutual
theorem yT:∀(e:aH),e.sane -> eO e=true -> VE e
 |.mk op num name args,hs,h=>by
  rw [aH.sane] at hs
  rw [eO] at h
  simp only [Bool.and_eq_true,decide_eq_true_eq] at h
  obtain ⟨⟨h1,h2⟩,h3⟩:=h
  have hv:=aB0 args hs.2.2 h3
  rcases rW op with ⟨k1,k2⟩|⟨k1,k2⟩|k1
  ·rw [if_neg (by omega)] at h1
   simp only [Bool.and_eq_true,decide_eq_true_eq] at h1
   obtain ⟨rfl,rfl⟩:=h1
   rw [arity,if_neg (by omega),if_neg (by omega)] at h2
   match args,h2,hv with
   |[a,b],_,hv=>exact .bin op a b k2 (hv a (by simp)) (hv b (by simp))
  ·rw [if_neg (by omega)] at h1
   simp only [Bool.and_eq_true,decide_eq_true_eq] at h1
   obtain ⟨rfl,rfl⟩:=h1
   rw [arity,if_neg (by omega),if_pos k1] at h2
   match args,h2,hv with
   |[a],_,hv=>exact .un op a k2 (hv a (by simp))
  rw [if_pos k1] at h1
  rw [arity,if_pos k1] at h2
  obtain rfl:=List.length_eq_zero_iff.1 h2
  unfold jG at h1
  simp only [Bool.or_eq_true,Bool.and_eq_true,decide_eq_true_eq] at h1
  rcases h1 with ⟨⟨rfl,h0⟩,rfl⟩|⟨⟨rfl,rfl⟩,h0⟩
  ·obtain ⟨n,rfl⟩:∃n:Nat,num=n:=⟨num.toNat,by omega⟩
   exact .num n (by have:=hs.1.2;omega)
  exact .name name h0
theorem aB0:∀(l:List aH),iI l -> dY l=true -> ∀x,x∈l -> VE x
 |[],_,_,_,h=>by cases h
 |y::l,hs,h,x,hx=>by
  rw [iI] at hs
  rw [dY,Bool.and_eq_true] at h
  rcases mem_cons.1 hx with hx|hx
  ·rw [hx];exact yT y hs.1 h.1
  exact aB0 l hs.2 h.2 x hx
end
end
section
theorem dV{s:ByteArray}(h:bQ s=true):s.size <= 16:=by
 unfold bQ at h
 split at h
 ·cases h
 simp only [Bool.and_eq_true,decide_eq_true_eq] at h;exact h.1.2
theorem eT.nodes{names:List ByteArray}{d:Nat}{e:aH}(h:eT names d e):e.nodes+3 <= 4*2 ^ d:=by
 induction h with
 |@name d x h=>rw [aH.nodes,cZ];have:=Nat.one_le_two_pow (n:=d);omega
 |@num d n h0 h1=>rw [aH.nodes,cZ];have:=Nat.one_le_two_pow (n:=d);omega
 |@un d op e ho he ih=>rw [aH.nodes,cZ,cZ,Nat.pow_succ];have:=Nat.one_le_two_pow (n:=d);omega
 |@bin d op a b h0 h1 ha hb iha ihb=>rw [aH.nodes,cZ,cZ,cZ,Nat.pow_succ];have:=Nat.one_le_two_pow (n:=d);omega
theorem eT.tame{names:List ByteArray}{d:Nat}{e:aH}(hn:∀x,x∈names -> bQ x=true)(h:eT names d e):e.tame:=by
 induction h with
 |@name d x h=>rw [aH.tame];exact ⟨by decide,Nat.le_trans (dV (hn x h)) (by decide),by rw [oG];trivial⟩
 |@num d n h0 h1=>rw [aH.tame];exact ⟨by omega,by decide,by rw [oG];trivial⟩
 |@un d op e ho he ih=>rw [aH.tame];exact ⟨by decide,by decide,by rw [oG,oG];exact ⟨ih,trivial⟩⟩
 |@bin d op a b h0 h1 ha hb iha ihb=>rw [aH.tame];exact ⟨by decide,by decide,by rw [oG,oG,oG];exact ⟨iha,ihb,trivial⟩⟩
theorem sX{op:Int}(h0:5 <= op)(h1:op <= 17):aM op<5:=by
 unfold aM
 repeat' split
 all_goals omega
theorem aDj{op:Int}(h:op=3∨op=4):aM op=5:=by
 rcases h with rfl|rfl<;>rfl
theorem eT.shape{names:List ByteArray}{d:Nat}{e:aH}(hn:∀x,x∈names -> bQ x=true)(h:eT names d e):eO e=true:=by
 induction h with
 |@name d x h=>
  rw [eO,dY,show aM 2=6 from rfl,if_pos rfl,jG,arity,show aM 2=6 from rfl,if_pos rfl,hn x h];simp
 |@num d n h0 h1=>
  rw [eO,dY,show aM 1=6 from rfl,if_pos rfl,jG,arity,show aM 1=6 from rfl,if_pos rfl];simp [h0]
 |@un d op e ho he ih=>
  have hs:=aDj ho
  rw [eO,dY,dY,arity,hs,if_neg (by decide),if_neg (by decide),if_pos rfl,ih];simp
 |@bin d op a b h0 h1 ha hb iha ihb=>
  have hs:=sX h0 h1
  rw [eO,dY,dY,dY,arity,if_neg (by omega),if_neg (by omega),if_neg (by omega),iha,ihb];simp
theorem eT.height{names:List ByteArray}{d:Nat}{e:aH}(h:eT names d e):dI e <= 2*d:=by
 induction h with
 |@name d x h=>rw [dI,bSm,if_neg (by decide)];omega
 |@num d n h0 h1=>rw [dI,bSm,if_neg (by decide)];omega
 |@un d op e ho he ih=>rw [dI,bSm,bSm];split<;>split<;>omega
 |@bin d op a b h0 h1 ha hb iha ihb=>rw [dI,bSm,bSm,bSm];split<;>split<;>split<;>omega
theorem eT.valid{names:List ByteArray}{d:Nat}{e:aH}(hn:∀x,x∈names -> bQ x=true)(h:eT names d e)(hd:d <= 12):dM e=true:=by
 rw [dM,h.shape hn,Bool.true_and,decide_eq_true_eq];have:=h.height;omega
theorem eT.sane{names:List ByteArray}{d:Nat}{e:aH}(hn:∀x,x∈names -> bQ x=true)(h:eT names d e):e.sane:=by
 induction h with
 |@name d x h=>rw [aH.sane];exact ⟨by unfold fit;omega,Nat.le_trans (dV (hn x h)) (by decide),by rw [iI];trivial⟩
 |@num d n h0 h1=>rw [aH.sane];exact ⟨by unfold fit;omega,by decide,by rw [iI];trivial⟩
 |@un d op e ho he ih=>rw [aH.sane];exact ⟨by unfold fit;omega,by decide,by rw [iI,iI];exact ⟨ih,trivial⟩⟩
 |@bin d op a b h0 h1 ha hb iha ihb=>rw [aH.sane];exact ⟨by unfold fit;omega,by decide,by rw [iI,iI,iI];exact ⟨iha,ihb,trivial⟩⟩
theorem rQ{n:Int}(h0:-9223372036854775808 <= n)(h1:n <= 9223372036854775807):(eH n).length <= 21:=by
 have:=kC n.natAbs (by omega)
 unfold eH
 split<;>simp<;>omega
theorem eT.len{names:List ByteArray}{d:Nat}{e:aH}(hn:∀x,x∈names -> bQ x=true)(h:eT names d e):(aP e).length+10 <= 31*2 ^ d:=by
 induction h with
 |@name d x h=>
  have h1:=dV (hn x h)
  have h2:x.data.toList.length=x.size:=rfl
  rw [aP,iX,if_neg (by decide),if_pos rfl];have:=Nat.one_le_two_pow (n:=d);omega
 |@num d n h0 h1=>
  have:=rQ (n:=n) (by omega) (by omega)
  rw [aP,iX,if_pos rfl];have:=Nat.one_le_two_pow (n:=d);omega
 |@un d op e ho he ih=>
  rw [aP,dP,dP,Nat.pow_succ]
  have hl:∀x:List UInt8,(iX op 0 aK [x]).length=x.length+1:=by
   intro x;rcases ho with rfl|rfl<;>simp [iX]
  rw [hl]
  have:=Nat.one_le_two_pow (n:=d)
  split
  ·simp only [length_append,length_cons,length_nil];omega
  ·omega
 |@bin d op a b h0 h1 ha hb iha ihb=>
  rw [aP,dP,dP,dP,Nat.pow_succ]
  have hs:=sX h0 h1
  have ho:=aAr op
  have hl:∀x y:List UInt8,(iX op 0 aK [x,y]).length=x.length+1+(iW op).length+1+y.length:=by
   intro x y;rw [iX,if_neg (by omega),if_neg (by omega),if_neg (by omega),if_neg (by omega),if_pos hs];simp;omega
  rw [hl]
  split<;>split<;>(try simp only [length_append,length_cons,length_nil])<;>omega
end
section
open Go.RowKit
section
variable {P:Program}{U T:List Nat}{o:Oper}{n d:Nat}{bx:List Box}{rw:List bA}{ts:List (Nat×AT)}{K:AS -> Prop}{st:AS}{t:AT}
end
theorem aG8{w:World}{u v:Value}(h:Rep w (.val v) u):u=v:=by cases h;rfl
theorem cK8{U:List Nat}{o:Oper}{st:AS}{x:Operand}{t:List UInt8}{k:Nat}(ho:o.op=.convert 46 9 x)(hx:evA st x=some (.c (.sl k (iF t))))(hk:k=t.length):AY prog U o st (.c (.val (.string (bytes t)))):=by
 subst hk
 intro a w hs hU
 refine ⟨_,.c _ _ (.val _ rfl),fun w' hkp=>?_⟩
 have hv:=hs.ev hx
 generalize hxe:a.eval x=v at hv
 cases hv with
 |c _ _ hv=>cases hv with
  |sl _ _ us _ hr hl hh hc=>
   obtain ⟨p,cap,rfl,hcap,hr⟩:=hr
   have hus:us=cC t:=by
    refine List.ext_getElem (by rw [hl];simp [iF,cC]) fun j h1 h2=>?_
    have h3:=hh j (by simpa [iF,cC] using h2) h1
    have h4:(iF t)[j]'(by simpa [iF,cC] using h2)=.val (cC t)[j]:=by simp [iF,cC]
    rw [h4] at h3;exact aG8 h3
   subst hus
   have hcv:=zN t p cap w' (by
    rcases hr with h0|⟨b,off,rfl,hr⟩
    ·exact .inl h0
    refine .inr ⟨b,off,rfl,fun j u hj=>?_⟩
    obtain ⟨h4,h5⟩:=gA (hr j u hj)
    rw [hkp.cell (gV h4) (fun hm=>h5 (hU _ hm))];exact h4)
   simp only [execOp,ho,Sem.run_bind,hxe]
   rw [hcv];rfl
instance aRs{P:Program}{U T:List Nat}{n N:Nat}{ts:List (Nat×AT)}{t:AT}{g:Prop}{K:AS -> Prop}{E T0:TypeId}{x y:Operand}{ty:TypeId}{pos:String}{af:Array Edge}{gd:Option (Nat×Bool)}{b off z:Nat}{cs ds r:List AC}{ag:Bool}{bx A B:List Box}{rw:List bA}[h1:Ev ts x (.c (.val (.pointer (some ⟨b,off,none⟩))))][h2:Ev ts y t][h3:rF t ds][h4:lY bx b A T0 cs B][h5:TY P E ag z][h6:Spl cs off ds z r]{bx2:List Box}[h7:aNc bx rw T U b][h8:aDk A (⟨b,T0,r⟩::B) bx2][h:Go1 N (K ⟨n,T,⟨bx2,rw⟩,ts⟩) g]:Go1 (N+1) (AO P U ⟨none,.store E x y,ty,pos,af,gd⟩ ⟨n,T,⟨bx,rw⟩,ts⟩ K) g:=⟨fun k=>
 zQ A rfl rfl (h1.h _ _ _) (h2.h _ _ _) h3.h h4.h h5.h.2 h6.h.2.2 h6.h.2.1 h6.h.1 h7.h.1 h7.h.2 (by rw [h8.h];exact h.out k)⟩
end
end Go.Proofs.YtbdfdjdgfanjaaaDoor
