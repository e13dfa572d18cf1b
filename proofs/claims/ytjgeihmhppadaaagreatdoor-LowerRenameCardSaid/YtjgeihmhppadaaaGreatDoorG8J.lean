import Derived.Test.YtjgeihmhppadaaaGreatDoorG7J
set_option linter.all false
set_option synthInstance.maxHeartbeats 1000000
set_option synthInstance.maxSize 1000000
namespace Go.Proofs.YtjgeihmhppadaaaGreatDoor
open List (length_append length_cons length_nil mem_append mem_cons not_mem_nil append_assoc getElem_mem take_of_length_le)
section
def fit(n:Int):Prop:=-9223372036854775808 <= n /\ n <= 9223372036854775807
mutual
def aH.sane:aH -> Prop
 |.mk _ num name args=>fit num /\ name.size <= 4611686018427387904 /\ iI args
def iI:List aH -> Prop
 |[]=>True
 |e::es=>e.sane /\ iI es
end
def cY.sane(r:cY):Prop:=r.name.size <= 4611686018427387904 /\ iI r.index
def eN.sane(a:eN):Prop:=a.ref.sane /\ a.expr.sane
mutual
def aJ.sane:aJ -> Prop
 |.mk _ n e r args t el=>n.size <= 4611686018427387904 /\ e.sane /\ r.sane /\ (∀a,a∈args -> a.sane) /\ gC t /\ gC el
def gC:List aJ -> Prop
 |[]=>True
 |s::r=>s.sane /\ gC r
end
def bS.sane(f:bS):Prop:=f.name.size <= 4611686018427387904 /\ (∀x,x∈f.params -> x.name.size <= 4611686018427387904) /\ gC f.body
structure cK.sane (p:cK):Prop where
 globals:∀g,g∈p.globals -> fit g.init /\ g.name.size <= 4611686018427387904
 mutexes:∀m,m∈p.mutexes -> fit m.size /\ m.name.size <= 4611686018427387904
 funcs:∀f,f∈p.funcs -> f.sane
theorem mV:∀(l:List aH),iI l -> ∀e,e∈l -> e.sane
 |[],_,_,h=>DV
 |x::l,hs,e,h=>by
  rw [iI] at hs
  rcases mem_cons.1 h with rfl|h
  ·exact hs.1
  exact mV l hs.2 e h
theorem oS:∀(l:List aJ),gC l -> ∀e,e∈l -> e.sane
 |[],_,_,h=>DV
 |x::l,hs,e,h=>by
  rw [gC] at hs
  rcases mem_cons.1 h with rfl|h
  ·exact hs.1
  exact oS l hs.2 e h
theorem rW(op:Int):(aM op<5 /\ 5 <= op /\ op <= 17)∨(aM op=5 /\ (op=3∨op=4))∨aM op=6:=by
 unfold aM
 repeat' split
 all_goals omega
mutual
theorem yT:∀(e:aH),e.sane -> eO e=true -> VE e
 |.mk op num name args,hs,h=>by
  rw [aH.sane] at hs
  rw [eO] at h
  simp only [Bool.and_eq_true,decide_eq_true_eq] at h
  obtain ⟨⟨h1,h2⟩,h3⟩:=h
  have hv:=aB0 args hs.2.2 h3
  rcases rW op with ⟨k1,k2⟩|⟨k1,k2⟩|k1
  ·rw [if_neg J] at h1
   simp only [Bool.and_eq_true,decide_eq_true_eq] at h1
   obtain ⟨rfl,rfl⟩:=h1
   rw [arity,if_neg J,if_neg J] at h2
   match args,h2,hv with
   |[a,b],_,hv=>exact .bin op a b k2 (hv a G0) (hv b G0)
  ·rw [if_neg J] at h1
   simp only [Bool.and_eq_true,decide_eq_true_eq] at h1
   obtain ⟨rfl,rfl⟩:=h1
   rw [arity,if_neg J,if_pos k1] at h2
   match args,h2,hv with
   |[a],_,hv=>exact .un op a k2 (hv a G0)
  rw [if_pos k1] at h1
  rw [arity,if_pos k1] at h2
  obtain rfl:=List.length_eq_zero_iff.1 h2
  unfold jG at h1
  simp only [Bool.or_eq_true,Bool.and_eq_true,decide_eq_true_eq] at h1
  rcases h1 with ⟨⟨rfl,h0⟩,rfl⟩|⟨⟨rfl,rfl⟩,h0⟩
  ·obtain ⟨n,rfl⟩:∃n:Nat,num=n:=⟨num.toNat,J⟩
   exact .num n (by have:=hs.1.2;omega)
  exact .name name h0
theorem aB0:∀(l:List aH),iI l -> dY l=true -> ∀x,x∈l -> VE x
 |[],_,_,_,h=>DV
 |y::l,hs,h,x,hx=>by
  rw [iI] at hs
  rw [dY,Bool.and_eq_true] at h
  rcases mem_cons.1 hx with hx|hx
  ·rw [hx];exact yT y hs.1 h.1
  exact aB0 l hs.2 h.2 x hx
end
theorem zD{e:aH}(hs:e.sane)(h:dM e=true):VX e:=by
 rw [dM,Bool.and_eq_true,decide_eq_true_eq] at h
 exact ⟨yT e hs h.1,h.2⟩
theorem wQ{e:aH}(h:bLg e=true):e=.zero:=by
 obtain ⟨op,num,name,args⟩:=e
 unfold bLg at h
 rw [Bool.and_eq_true,Bool.and_eq_true] at h
 obtain ⟨⟨h1,h2⟩,h3⟩:=h
 obtain ⟨h4,h5⟩:=of_decide_eq_true h1
 have h6:=of_decide_eq_true h2
 have h7:=of_decide_eq_true h3
 simp only [aH.op,aH.num,aH.name,aH.args] at h4 h5 h6 h7
 subst h4;subst h5;subst h6
 have h:=h7
 rw [List.length_eq_zero_iff.1 h];rfl
theorem zP{r:cY}(h:kM r=true):r=.zero:=by
 obtain ⟨name,index⟩:=r
 simp only [kM,Bool.and_eq_true,decide_eq_true_eq] at h
 obtain ⟨rfl,h⟩:=h
 rw [List.length_eq_zero_iff.1 h];rfl
theorem aFr{r:cY}(hs:r.sane)(h:okRefB r=true):VR r:=by
 obtain ⟨name,index⟩:=r
 unfold okRefB at h
 rw [Bool.and_eq_true] at h
 obtain ⟨h1,h2⟩:=h
 match index,hs,h2 with
 |[],_,_=>exact .one name h1
 |[e],hs,h2=>exact .el name e h1 (zD (mV _ hs.2 e G0) h2)
theorem aLi{a:eN}(hs:a.sane)(h:fY a=true):VA a:=by
 obtain ⟨m,r,e⟩:=a
 unfold fY at h
 cases m with
 |true=>
  rw [if_pos rfl,Bool.and_eq_true] at h
  obtain rfl:=wQ h.2
  exact .mutex r (aFr hs.1 h.1)
 |false=>
  rw [if_neg G0,Bool.and_eq_true] at h
  obtain rfl:=zP h.1
  exact .expr e (zD hs.2 h.2)
theorem iL(D:Nat):∀(l:List aJ),bM D l=true -> D<24
 |[],h=>by rw [bM] at h;exact of_decide_eq_true h
 |s::r,h=>by rw [bM,Bool.and_eq_true] at h;exact iL D r h.2
mutual
theorem aJ3:∀(s:aJ)(d D:Nat),D+d=23 -> s.sane -> bK9 D s=true -> ∀l,VSs d l -> VSs d (s::l)
 |.mk k n e r args t el,d,D,hd,hs,h,l,ih=>by
  rw [aJ.sane] at hs
  rw [bK9] at h
  obtain ⟨-,he,hr,ha,ht,hel⟩:=hs
  simp only [Bool.and_eq_true,Bool.or_eq_true,decide_eq_true_eq] at h
  obtain ⟨⟨⟨⟨⟨⟨⟨h1,h2⟩,h3⟩,h4⟩,h5⟩,h6⟩,h7⟩,h8⟩:=h
  have hva:∀x,x∈args -> VA x:=λx hx=>aLi (ha x hx) (List.all_eq_true.1 h6 x hx)
  have hk:k=1∨k=2∨k=3∨k=4∨k=5∨k=6∨k=7∨k=8∨k=9:=J
  have hname:¬(1 <= k /\ k <= 4) -> n=aK:=λhp=>by rw [if_neg hp] at h2;exact of_decide_eq_true h2
  have hname1:1 <= k /\ k <= 4 -> bQ n=true:=λhp=>by rwa [if_pos hp] at h2
  have hex:¬(k=1∨k=2∨k=7∨k=8) -> e=.zero:=λhp=>by rw [if_neg hp] at h3;exact wQ h3
  have hex1:(k=1∨k=2∨k=7∨k=8) -> VX e:=λhp=>by rw [if_pos hp] at h3;exact zD he h3
  have href:¬(k=5∨k=6) -> r=.zero:=λhp=>by rw [if_neg hp] at h4;exact zP h4
  have href1:(k=5∨k=6) -> VR r:=λhp=>by rw [if_pos hp] at h4;exact aFr hr h4
  have hargs:¬(k=3∨k=4) -> args=[]:=λhp=>List.length_eq_zero_iff.1 (h5.resolve_left hp)
  have hthn:¬(k=7∨k=8) -> t=[]:=λhp=>by rw [if_neg hp] at h7;exact List.length_eq_zero_iff.1 (of_decide_eq_true h7)
  have hels:k≠7 -> el=[]:=λhp=>h8.elim List.length_eq_zero_iff.1 (λh=>absurd h.1 hp)
  rcases hk with rfl|rfl|rfl|rfl|rfl|rfl|rfl|rfl|rfl
  ·rw [href J,hargs J,hthn J,hels J];exact .var (hname1 J) (hex1 J) ih
  ·rw [href J,hargs J,hthn J,hels J];exact .assign (hname1 J) (hex1 J) ih
  ·rw [hex J,href J,hthn J,hels J];exact .call (hname1 J) hva ih
  ·rw [hex J,href J,hthn J,hels J];exact .go (hname1 J) hva ih
  ·rw [hname J,hex J,hargs J,hthn J,hels J];exact .lock (href1 J) ih
  ·rw [hname J,hex J,hargs J,hthn J,hels J];exact .unlock (href1 J) ih
  ·rw [if_pos (.inl rfl)] at h7
   obtain ⟨d',rfl⟩:∃d',d=d'+1:=⟨d-1,by have:=iL _ _ h7;omega⟩
   have h9:=lS t d' (D+1) J ht h7
   rw [hname J,href J,hargs J]
   refine .cond (hex1 J) h9 ?_ ih
   rcases h8 with h8|h8
   ·rw [List.length_eq_zero_iff.1 h8];exact .nil
   exact lS el d' (D+1) J hel h8.2
  ·rw [if_pos (.inr rfl)] at h7
   obtain ⟨d',rfl⟩:∃d',d=d'+1:=⟨d-1,by have:=iL _ _ h7;omega⟩
   have h9:=lS t d' (D+1) J ht h7
   rw [hname J,href J,hargs J,hels J]
   exact .loop (hex1 J) h9 ih
  rw [hname J,hex J,href J,hargs J,hthn J,hels J];exact .ret ih
theorem lS:∀(l:List aJ)(d D:Nat),D+d=23 -> gC l -> bM D l=true -> VSs d l
 |[],_,_,_,_,_=>.nil
 |s::l,d,D,hd,hs,h=>by
  rw [gC] at hs
  rw [bM,Bool.and_eq_true] at h
  exact aJ3 s d D hd hs.1 h.1 l (lS l d D hd hs.2 h.2)
end
theorem wC(p:cK):cR p=((iA p).map fF.text).flatten:=by
 simp only [cR,iA,List.map_append,List.map_map,List.flatten_append,append_assoc]
 rfl
theorem aL4{r:List UInt8}{ps:List PT}(h:Lx r ps):∀(s:List UInt8)(k n:Nat),s.drop k=r -> k <= s.length -> n <= 4000 -> (kD s k n).isOk=true -> n+ps.length <= 4000:=by
 induction h with
 |@nil r h=>intro s k n hd hk hn _;simpa using hn
 |@cons r0 r kind len num ps h h0 hn _ ih=>
  intro s k n hd hk hl hok
  have hs:s.drop (bF s k)=r:=by rw [qJ,hd,h]
  have hlt:bF s k<s.length:=by
   rcases Nat.lt_or_ge (bF s k) s.length with h1|h1
   ·exact h1
   rw [List.drop_eq_nil_of_le h1] at hs;exact absurd hs.symm h0
  have hlen:=cZy h0 hn
  have hr:r.length=s.length-bF s k:=by rw [←hs,List.length_drop]
  have h4:n≠4000:=by
   rintro rfl
   rw [kD,if_neg J,hs,hn] at hok
   simp [fX.isOk] at hok
  rw [nD hk hlt (by rw [hs];exact hn) J] at hok
  have h5:=ih s (bF s k+len) (n+1) (by rw [←List.drop_drop,hs]) J J (by
   cases h6:kD s (bF s k+len) (n+1) with
   |ok l=>rfl
   |err a b=>rw [h6] at hok;exact hok)
  simp only [length_cons];omega
theorem aNe{s:List UInt8}{ps:List PT}(h:Lx s ps)(hok:(iH s).isOk=true):s.length <= 262144 /\ ps.length <= 4000:=by
 unfold iH at hok
 split at hok
 ·simp [fX.isOk] at hok
 rename_i hl
 have:=aL4 h s 0 0 rfl J J hok
 exact ⟨J,J⟩
end
section
open Go.RowKit
abbrev bP(l:List ByteArray):List AC:=l.map λx=>Vs x
theorem rB(names:List ByteArray)(j:Nat)(h:j<names.length):pk false 1 (bP names) (0+j*1)=some (Cs (names[j])):=by
 unfold pk bP
 rw [if_neg V,Nat.zero_add,Nat.mul_one,List.getElem?_map,List.getElem?_eq_getElem h];rfl
theorem kU(e:aH):aP e=iX e.op e.num e.name (dP e.op 0 e.args):=by cases e;rw [aP];rfl
theorem pL(b:Int):∀(l:List aH)(j k:Nat)(h:k<l.length),(dP b j l)[k]?=some (if cV b (j+k) l[k].op then [40]++aP l[k]++[41] else aP l[k])
 |e::es,j,0,h=>by rw [dP];rfl
 |e::es,j,k+1,h=>by
  rw [dP,List.getElem?_cons_succ,pL b es (j+1) k Er]
  rw [show j+1+k=j+(k+1) by omega];rfl
def cY.wt(r:cY):Nat:=1+cZ r.index
def eN.wt(a:eN):Nat:=1+a.ref.wt+a.expr.nodes
def wtA:List eN -> Nat
 |[]=>0
 |a::l=>a.wt+wtA l
mutual
def aJ.wt:aJ -> Nat
 |.mk _ _ e r a t f=>1+e.nodes+r.wt+wtA a+wtS t+wtS f
def wtS:List aJ -> Nat
 |[]=>0
 |s::l=>s.wt+wtS l
end
theorem aDf:∀(l:List eN)(k:Nat)(h:k<l.length),l[k].wt <= wtA l
 |a::l,0,_=>by rw [wtA];simp
 |a::l,k+1,h=>by have:=aDf l k Er;rw [wtA];simp;omega
theorem aCj:∀(l:List eN),l.length <= wtA l
 |[]=>G0
 |a::l=>by have:=aCj l;rw [wtA,eN.wt];simp;omega
theorem uF:∀(l:List aJ)(k:Nat)(h:k<l.length),l[k].wt <= wtS l
 |a::l,0,_=>by rw [wtS];simp
 |a::l,k+1,h=>by have:=uF l k Er;rw [wtS];simp;omega
theorem gD(s:aJ):s.wt=1+s.expr.nodes+s.ref.wt+wtA s.args+wtS s.thn+wtS s.els:=by cases s;rw [aJ.wt];rfl
theorem uZ:∀(l:List aJ),l.length <= wtS l
 |[]=>G0
 |a::l=>by have:=uZ l;rw [wtS,gD];simp;omega
theorem xE{r:cY}(h:okRefB r=true):bQ r.name=true /\ (r.index.length=0∨r.index.length=1) /\ ∀e,e∈r.index -> dM e=true:=by
 obtain ⟨n,ix⟩:=r
 unfold okRefB at h
 rw [Bool.and_eq_true] at h
 match ix,h with
 |[],h=>exact ⟨h.1,.inl rfl,λe he=>by cases he⟩
 |[e],h=>exact ⟨h.1,.inr rfl,λx hx=>by rw [List.mem_singleton.1 hx];exact h.2⟩
 |_::_::_,h=>simp at h
theorem kR{e:aH}(h:dM e=true):eO e=true:=by rw [dM,Bool.and_eq_true] at h;exact h.1
theorem wI{r:cY}(h:0<r.index.length):dC r=r.name.data.toList++[(91:UInt8)]++aP r.index[0]++[93]:=by
 obtain ⟨n,ix⟩:=r
 match ix,h with
 |e::_,_=>rfl
theorem aCa{r:cY}(h:r.index.length=0):dC r=r.name.data.toList:=by
 obtain ⟨n,ix⟩:=r
 rw [List.length_eq_zero_iff] at h
 dsimp only at h
 subst h;rfl
theorem rS{α:Type}(f:α -> List UInt8):∀(l:List α)(k:Nat),(bW f (l.take k)).length <= (bW f l).length
 |[],k=>FE
 |x::l,0=>FE
 |x::l,k+1=>by
  simp only [List.take_succ_cons,bW,length_append,List.length_flatten,List.map_map]
  have:∀(m:List α)(k:Nat),(List.map (List.length ∘ λy=>[44,32]++f y) (m.take k)).sum <= (List.map (List.length ∘ λy=>[44,32]++f y) m).sum:=by
   intro m
   induction m with
   |nil=>intro k;simp
   |cons a m ih=>intro k;cases k with
    |zero=>simp
    |succ k=>have:=ih k;simp only [List.take_succ_cons,List.map_cons,List.sum_cons];omega
  have:=this l k;omega
theorem aGp{α:Type}(f:α -> List UInt8)(l:List α)(k:Nat)(h:k<l.length):(f l[k]).length <= (bW f l).length:=by
 have h1:=rS f l (k+1)
 rw [hJ f l k h] at h1
 simp only [length_append] at h1;omega
theorem pD{a:eN}(h:a.mutex=true):dE a=[109,117,116,101,120,32]++dC a.ref:=by unfold dE;rw [if_pos h]
theorem oZ{a:eN}(h:a.mutex=false):dE a=aP a.expr:=by unfold dE;rw [if_neg B5]
theorem xN{a:eN}(h:fY a=true):(a.mutex=true -> okRefB a.ref=true) /\ (a.mutex=false -> dM a.expr=true):=by
 unfold fY at h
 constructor
 ·intro hm;rw [hm,if_pos rfl,Bool.and_eq_true] at h;exact h.1
 intro hm;rw [hm,if_neg V,Bool.and_eq_true] at h;exact h.2
theorem tP{tabs:List UInt8}{s:aJ}(h:s.kind=1):bY tabs s=tabs++([118,97,114,32]++s.name.data.toList++[32,61,32]++aP s.expr++[59])++[10]:=by
 obtain ⟨kind,name,e,r,args,t,el⟩:=s
 obtain rfl:kind=1:=h
 rw [bY];rfl
theorem tT{tabs:List UInt8}{s:aJ}(h:s.kind=2):bY tabs s=tabs++(s.name.data.toList++[32,61,32]++aP s.expr++[59])++[10]:=by
 obtain ⟨kind,name,e,r,args,t,el⟩:=s
 obtain rfl:kind=2:=h
 rw [bY];rfl
theorem tZ{tabs:List UInt8}{s:aJ}(h:s.kind=3):bY tabs s=tabs++(s.name.data.toList++dF s.args++[59])++[10]:=by
 obtain ⟨kind,name,e,r,args,t,el⟩:=s
 obtain rfl:kind=3:=h
 rw [bY];rfl
theorem tH{tabs:List UInt8}{s:aJ}(h:s.kind=4):bY tabs s=tabs++([103,111,32]++s.name.data.toList++dF s.args++[59])++[10]:=by
 obtain ⟨kind,name,e,r,args,t,el⟩:=s
 obtain rfl:kind=4:=h
 rw [bY];rfl
theorem uD{tabs:List UInt8}{s:aJ}(h:s.kind=5):bY tabs s=tabs++([108,111,99,107,32]++dC s.ref++[59])++[10]:=by
 obtain ⟨kind,name,e,r,args,t,el⟩:=s
 obtain rfl:kind=5:=h
 rw [bY];rfl
theorem tI{tabs:List UInt8}{s:aJ}(h:s.kind=6):bY tabs s=tabs++([117,110,108,111,99,107,32]++dC s.ref++[59])++[10]:=by
 obtain ⟨kind,name,e,r,args,t,el⟩:=s
 obtain rfl:kind=6:=h
 rw [bY];rfl
theorem pU{tabs:List UInt8}{s:aJ}(h:s.kind=7):bY tabs s=tabs++([105,102,32]++aP s.expr++[32,123,10]++aC (tabs++[9]) s.thn++tabs++[125]++(if s.els.length=0 then [] else [32,101,108,115,101,32,123,10]++aC (tabs++[9]) s.els++tabs++[125]))++[10]:=by
 obtain ⟨kind,name,e,r,args,t,el⟩:=s
 obtain rfl:kind=7:=h
 rw [bY];rfl
theorem pV{tabs:List UInt8}{s:aJ}(h:s.kind=8):bY tabs s=tabs++([119,104,105,108,101,32]++aP s.expr++[32,123,10]++aC (tabs++[9]) s.thn++tabs++[125]++(if s.els.length=0 then [] else [32,101,108,115,101,32,123,10]++aC (tabs++[9]) s.els++tabs++[125]))++[10]:=by
 obtain ⟨kind,name,e,r,args,t,el⟩:=s
 obtain rfl:kind=8:=h
 rw [bY];rfl
theorem uB{tabs:List UInt8}{s:aJ}(h:¬s.kind=1 /\ ¬s.kind=2 /\ ¬s.kind=3 /\ ¬s.kind=4 /\ ¬s.kind=5 /\ ¬s.kind=6 /\ ¬s.kind=7 /\ ¬s.kind=8):bY tabs s=tabs++[114,101,116,117,114,110,59]++[10]:=by
 obtain ⟨kind,name,e,r,args,t,el⟩:=s
 obtain ⟨h1,h2,h3,h4,h5,h6,h7,h8⟩:=h
 simp only [aJ.kind] at h1 h2 h3 h4 h5 h6 h7 h8
 rw [bY,if_neg h1,if_neg h2,if_neg h3,if_neg h4,if_neg h5,if_neg h6,if_neg (λh=>h.elim h7 h8)]
theorem dX(tabs:List UInt8)(l:List aJ)(k:Nat)(hk:k<l.length):aC tabs (l.take (k+1))=aC tabs (l.take k)++bY tabs l[k]:=by
 rw [List.take_succ_eq_append_getElem hk,oX,aC,aC,List.append_nil]
theorem nQ(tabs:List UInt8):∀(l:List aJ)(k:Nat),(aC tabs (l.take k)).length <= (aC tabs l).length
 |[],k=>G0
 |s::l,0=>by rw [List.take_zero,aC];simp
 |s::l,k+1=>by have:=nQ tabs l k;rw [List.take_succ_cons,aC,aC,length_append,length_append];omega
structure OkS (D:Nat) (s:aJ):Prop where
 name:s.name.data.toList.length <= 4611686018427387904
 expr:(s.kind=1∨s.kind=2∨s.kind=7∨s.kind=8) -> eO s.expr=true
 ref:(s.kind=5∨s.kind=6) -> okRefB s.ref=true
 args:∀a,a∈s.args -> fY a=true
 thn:(s.kind=7∨s.kind=8) -> bM (D+1) s.thn=true
 els:s.els.length=0∨bM (D+1) s.els=true
 saneE:s.expr.sane
 saneR:s.ref.sane
 saneA:∀a,a∈s.args -> a.sane
 saneT:gC s.thn
 saneF:gC s.els
theorem aHv{D:Nat}{s:aJ}(hs:s.sane)(h:bK9 D s=true):OkS D s:=by
 obtain ⟨k,n,e,r,args,t,el⟩:=s
 rw [aJ.sane] at hs
 rw [bK9] at h
 obtain ⟨hn,he,hr,ha,ht,hel⟩:=hs
 simp only [Bool.and_eq_true,Bool.or_eq_true,decide_eq_true_eq] at h
 obtain ⟨⟨⟨⟨⟨⟨⟨h1,h2⟩,h3⟩,h4⟩,h5⟩,h6⟩,h7⟩,h8⟩:=h
 exact ⟨hn,λhp=>by
  have hp:k=1∨k=2∨k=7∨k=8:=hp
  rw [if_pos hp] at h3;exact kR h3,λhp=>by
  have hp:k=5∨k=6:=hp
  rwa [if_pos hp] at h4,List.all_eq_true.1 h6,λhp=>by
  have hp:k=7∨k=8:=hp
  rwa [if_pos hp] at h7,h8.imp id (λh=>h.2),he,hr,ha,ht,hel⟩
end
end Go.Proofs.YtjgeihmhppadaaaGreatDoor
