import Derived.Test.YtjgeihmhppadaaaGreatDoorG8J
set_option linter.all false
set_option synthInstance.maxHeartbeats 1000000
set_option synthInstance.maxSize 1000000
namespace Go.Proofs.YtjgeihmhppadaaaGreatDoor
open Go.Proofs.Tryz
open List (length_append length_cons length_nil mem_append mem_cons not_mem_nil append_assoc getElem_mem take_of_length_le)
section
open Go.RowKit
theorem kQ{α:Type}(f:α -> List UInt8)(l:List α)(k:Nat)(hk:k<l.length):((l.take (k+1)).map f).flatten=((l.take k).map f).flatten++f l[k]:=by
 rw [List.take_succ_eq_append_getElem hk,List.map_append,List.flatten_append];simp
theorem rO{α:Type}(f:α -> List UInt8):∀(l:List α)(k:Nat),(((l.take k).map f).flatten).length <= ((l.map f).flatten).length
 |[],k=>G0
 |x::l,0=>G0
 |x::l,k+1=>by have:=rO f l k;simp only [List.take_succ_cons,List.map_cons,List.flatten_cons,length_append];omega
def bS.wt(f:bS):Nat:=1+f.params.length+wtS f.body
def cK.wt(p:cK):Nat:=p.globals.length+p.mutexes.length+(p.funcs.map bS.wt).sum
theorem aDi{α:Type}(f:α -> Nat):∀(l:List α)(k:Nat)(h:k<l.length),f l[k] <= (l.map f).sum
 |x::l,0,_=>G0
 |x::l,k+1,h=>by have:=aDi f l k Er;simp only [List.map_cons,List.sum_cons,List.getElem_cons_succ];omega
theorem aDr{α:Type}(f:α -> Nat)(hf:∀x,1 <= f x):∀(l:List α),l.length <= (l.map f).sum
 |[]=>G0
 |x::l=>by have:=aDr f hf l;have:=hf x;simp only [List.map_cons,List.sum_cons,length_cons];omega
def nY(p:cK):Bool:=decide (p.globals.length <= 16 /\ p.mutexes.length <= 12 /\ p.funcs.length <= 16) && p.globals.all gH && p.mutexes.all fS && p.funcs.all gW
theorem nX(p:cK):jI p=(nY p && (iH (cR p)).isOk):=rfl
theorem aJv{p:cK}(h:nY p=true):∀f,f∈p.funcs -> bM 0 f.body=true /\ f.params.length <= 6:=by
 intro f hf
 unfold nY at h
 simp only [Bool.and_eq_true] at h
 have h2:=List.all_eq_true.1 h.2 f hf
 unfold gW at h2
 simp only [Bool.and_eq_true,decide_eq_true_eq] at h2
 exact ⟨h2.1.2,h2.1.1.2⟩
theorem wP(f:bS):funcText f=[102,117,110,99,32]++f.name.data.toList++[40]++bW bX f.params++[41,32,123,10]++aC [9] f.body++[125,10]:=rfl
theorem wR{x:aS}(h:x.mutex=true):bX x=[109,117,116,101,120,32]++x.name.data.toList:=by unfold bX;rw [if_pos h]
theorem xC{x:aS}(h:x.mutex=false):bX x=x.name.data.toList:=by unfold bX;rw [if_neg B5];rfl
theorem pS{z:Int}(h:fit z):(eH z).length <= 21:=by
 unfold eH
 have:=kC z.natAbs (by unfold fit at h;omega)
 split<;>simp<;>omega
end
section
theorem cGu(l:List cFc)(x:cFc)(s:ByteArray):cFa (l++[x]) s=match cFa l s with|some v=>some v|none=>if x.name=s then some x else none:=by
 induction l with
 |nil=>rfl
 |cons y l ih=>
  rw [List.cons_append,cFa,cFa]
  by_cases h:y.name=s
  ·rw [if_pos h,if_pos h]
  rw [if_neg h,if_neg h,ih]
theorem cHo.app{p:cK}{l:List cFc}(h:cHo p l){x:cFc}(h2:x.kind≠2)(h3:x.kind≠3):cHo p (l++[x]):=by
 refine ⟨λs v hv hk=>?_,λs v hv hk=>?_⟩
 ·rw [cGu] at hv
  split at hv
  ·rename_i hf;cases hv;exact h.ms s _ hf hk
  split at hv
  ·cases hv;exact absurd hk h2
  cases hv
 rw [cGu] at hv
 split at hv
 ·rename_i hf;cases hv;exact h.fs s _ hf hk
 split at hv
 ·cases hv;exact absurd hk h3
 cases hv
structure RmL (p:cK) (x:LS) (w:Nat):Prop where
 ents:cHo p x.ents
 code:x.code.length+3*w <= 100000000
 sites:x.sites.length=x.code.length
 n:x.n+w <= 100000000
 loc:x.locals+w <= 100000000
 el:x.ents.length+w <= 100000000
section
variable {p:cK}{x:LS}{w:Nat}
theorem RmL.mono{w':Nat}(h:RmL p x w)(hw:w' <= w):RmL p x w':=⟨h.ents,by have:=h.code;omega,h.sites,by have:=h.n;omega,by have:=h.loc;omega,by have:=h.el;omega⟩
theorem RmL.beg(h:RmL p x (w+1))(e:Nat):RmL p (x.beg e) w /\ (x.beg e).code.length+3+3*w <= 100000000:=by
 have h1:=h.code
 exact ⟨⟨h.ents,by show x.code.length+3*w <= _;omega,h.sites,by have:=h.n;show x.n+1+w <= _;omega,by have:=h.loc;show x.locals+w <= _;omega,by have:=h.el;show x.ents.length+w <= _;omega⟩,by show x.code.length+3+3*w <= _;omega⟩
theorem RmL.put(h:RmL p x w)(hc:x.code.length+1+3*w <= 100000000)(i:cFw)(s:Nat):RmL p (x.put i s) w:=
 ⟨h.ents,by show (x.code++[i]).length+_ <= _;rw [length_append];simp only [length_cons,length_nil];omega,by show (x.sites++[(s:Int)]).length=(x.code++[i]).length;rw [length_append,length_append,h.sites];rfl,h.n,h.loc,h.el⟩
theorem cF1(i:cFw)(s:Nat):(x.put i s).code.length=x.code.length+1:=by show (x.code++[i]).length=_;rw [length_append];rfl
theorem cFp(b:Nat):(x.patch b).code.length=x.code.length:=by show (x.code.modify b _).length=_;rw [List.length_modify]
theorem RmL.patch(h:RmL p x w)(b:Nat):RmL p (x.patch b) w:=⟨h.ents,by rw [cFp];exact h.code,by rw [cFp];exact h.sites,h.n,h.loc,h.el⟩
theorem RmL.back{y:LS}(h:RmL p x w)(hy:RmL p y w):RmL p (x.back y) w:=⟨h.ents,hy.code,hy.sites,hy.n,hy.loc,h.el⟩
theorem RmL.branch(h:RmL p x (w+1))(e:aH):RmL p (x.branch e) w /\ (x.branch e).code.length+2+3*w <= 100000000:=by
 obtain ⟨h1,h2⟩:=h.beg (cFf x.ents e)
 refine ⟨h1.put J _ _,?_⟩
 unfold LS.branch;rw [cF1];omega
theorem cJq(s:aJ)(h:RmL p x (w+1)):RmL p (cFu p s x) w:=by
 have hb:∀e i n,RmL p ((x.beg e).put i n) w:=λe i n=>(h.beg e).1.put (by have:=(h.beg e).2;omega) i n
 unfold cFu
 split
 ·have h1:=hb (cFj (cFv x.ents s.name) (cFf x.ents s.expr)) ⟨1,x.locals,false,cFk x.ents s.expr,plZ,[],[]⟩ x.n
  have h2:=h.loc;have h3:=h.el
  exact ⟨h1.ents.app (by show (4:Int)≠2;decide) Cu,h1.code,h1.sites,h1.n,by show x.locals+1+w <= _;omega,by show (x.ents++[_]).length+w <= _;rw [length_append];simp only [length_cons,length_nil];omega⟩
 split
 ·exact hb _ _ _
 split
 ·exact hb _ _ _
 split
 ·exact hb _ _ _
 split<;>exact hb _ _ _
end
mutual
theorem cKf(p:cK):∀(s:aJ)(x:LS)(w:Nat),RmL p x (s.wt+w) -> RmL p (cFs p s x) w
 |.mk k name e r args t f,x,w,h=>by
  rw [aJ.wt] at h
  have hs:RmL p x (w+1):=h.mono J
  rw [cFs]
  split
  ·obtain ⟨b1,b2⟩:=(h.mono J:RmL p x ((wtS t+(wtS f+w))+1)).branch e
   have t1:=cGr p t (x.branch e) (wtS f+w) b1
   have t2:RmL p ((x.branch e).back (cFe p t (x.branch e))) (wtS f+w):=(b1.mono J).back t1
   have t3:=cGa p t (x.branch e)
   split
   ·exact (t2.mono J).patch _
   have t4:RmL p (((x.branch e).back (cFe p t (x.branch e))).put (opI 7 .zero) x.n) (wtS f+w):=t2.put Eb _ _
   have t5:=cGr p f _ w (t4.patch x.code.length)
   exact (hs.mono J|>.back t5).patch _
  split
  ·obtain ⟨b1,b2⟩:=(h.mono J:RmL p x ((wtS t+w)+1)).branch e
   have t1:=cGr p t (x.branch e) w b1
   have t2:RmL p ((x.branch e).back (cFe p t (x.branch e))) w:=(b1.mono J).back t1
   have t3:=cGa p t (x.branch e)
   exact (t2.put Eb _ _).patch _
  exact cJq _ hs
theorem cGr(p:cK):∀(l:List aJ)(x:LS)(w:Nat),RmL p x (wtS l+w) -> RmL p (cFe p l x) w
 |[],x,w,h=>by rw [cFe];rw [wtS] at h;exact h.mono J
 |s::l,x,w,h=>by
  rw [wtS] at h
  rw [cFe];exact cGr p l _ w (cKf p s x (wtS l+w) (h.mono J))
theorem cKe(p:cK):∀(s:aJ)(x:LS),(cFs p s x).code.length <= x.code.length+3*s.wt
 |.mk k name e r args t f,x=>by
  have t1:=cGa p t (x.branch e)
  have e1:(x.branch e).code.length=x.code.length+1:=cF1 _ _
  rw [cFs,aJ.wt]
  split
  ·split
   ·rw [cFp];show (cFe p t (x.branch e)).code.length <= _;omega
   rw [cFp]
   have t2:=cGa p f ((((x.branch e).back (cFe p t (x.branch e))).put (opI 7 .zero) x.n).patch x.code.length)
   rw [cFp,cF1] at t2
   have t3:((x.branch e).back (cFe p t (x.branch e))).code.length=(cFe p t (x.branch e)).code.length:=Y
   show (cFe p f _).code.length <= _;omega
  split
  ·rw [cFp,cF1];show (cFe p t (x.branch e)).code.length+1 <= _;omega
  have hb:∀(y:LS) i n,y.code=x.code -> (y.put i n).code.length <= x.code.length+3*(1+e.nodes+r.wt+wtA args+wtS t+wtS f):=λy i n hy=>by rw [cF1,hy];omega
  unfold cFu
  split
  ·exact hb (x.beg (cFj (cFv x.ents name) (cFf x.ents e))) ⟨1,x.locals,false,cFk x.ents e,plZ,[],[]⟩ x.n Y
  split
  ·exact hb _ _ _ Y
  split
  ·exact hb _ _ _ Y
  split
  ·exact hb _ _ _ Y
  split<;>exact hb _ _ _ rfl
theorem cGa(p:cK):∀(l:List aJ)(x:LS),(cFe p l x).code.length <= x.code.length+3*wtS l
 |[],x=>by rw [cFe];omega
 |s::l,x=>by
  have h1:=cKe p s x
  have h2:=cGa p l (cFs p s x)
  rw [cFe,wtS];omega
end
mutual
theorem cKt(p:cK):∀(s:aJ)(x:LS),x.code.length <= (cFs p s x).code.length
 |.mk k name e r args t f,x=>by
  have t1:=cGs p t (x.branch e)
  have e1:(x.branch e).code.length=x.code.length+1:=cF1 _ _
  rw [cFs]
  split
  ·split
   ·rw [cFp];show _ <= (cFe p t (x.branch e)).code.length;omega
   rw [cFp]
   have t2:=cGs p f ((((x.branch e).back (cFe p t (x.branch e))).put (opI 7 .zero) x.n).patch x.code.length)
   rw [cFp,cF1] at t2
   have t3:((x.branch e).back (cFe p t (x.branch e))).code.length=(cFe p t (x.branch e)).code.length:=Y
   show _ <= (cFe p f _).code.length;omega
  split
  ·rw [cFp,cF1];show _ <= (cFe p t (x.branch e)).code.length+1;omega
  have hb:∀(y:LS) i n,y.code=x.code -> x.code.length <= (y.put i n).code.length:=λy i n hy=>by rw [cF1,hy];omega
  unfold cFu
  split
  ·exact hb (x.beg (cFj (cFv x.ents name) (cFf x.ents e))) ⟨1,x.locals,false,cFk x.ents e,plZ,[],[]⟩ x.n Y
  split
  ·exact hb _ _ _ Y
  split
  ·exact hb _ _ _ Y
  split
  ·exact hb _ _ _ Y
  split<;>exact hb _ _ _ rfl
theorem cGs(p:cK):∀(l:List aJ)(x:LS),x.code.length <= (cFe p l x).code.length
 |[],x=>by rw [cFe];omega
 |s::l,x=>by
  have h1:=cKt p s x
  have h2:=cGs p l (cFs p s x)
  rw [cFe];omega
end
theorem cHl{c:List cFw}{b t:Nat}(hb:b<c.length):splice (c.flatMap encI) (0+b*12+1) [nC t]=(c.modify b (λi=>i.to t)).flatMap encI:=by
 have h0:c.flatMap encI=(c.take b).flatMap encI++(encI c[b]++(c.drop (b+1)).flatMap encI):=by
  conv=>lhs;rw [←List.take_append_drop b c,List.drop_eq_getElem_cons hb]
  rw [List.flatMap_append,List.flatMap_cons]
 have h2:((c.take b).flatMap encI).length=b*12:=by rw [aFz encI 12 cGj,List.length_take,Nat.min_eq_left J]
 have h3:(c.modify b (λi=>i.to t)).flatMap encI=(c.take b).flatMap encI++(encI (c[b].to t)++(c.drop (b+1)).flatMap encI):=by
  rw [List.modify_eq_take_cons_drop hb,List.flatMap_append,List.flatMap_cons]
 rw [h3,h0,Nat.zero_add]
 have hd:List.drop (((c.take b).flatMap encI).length+2) ((c.take b).flatMap encI)=[]:=List.drop_of_length_le J
 unfold splice
 rw [←h2,List.take_append,take_of_length_le J,Nat.add_sub_cancel_left,List.drop_append]
 rw [show ((c.take b).flatMap encI).length+1+[AC.val (.int .i64 ((t:Nat):Int))].length=((c.take b).flatMap encI).length+2 from rfl,hd,Nat.add_sub_cancel_left,List.nil_append,append_assoc,append_assoc]
 rfl
theorem cH2(p:cK)(l:List aJ)(x:LS)(w:Nat)(h:RmL p x (wtS l+w)):RmL p (cRs p l x) w:=(h.mono J:RmL p x w).back (cGr p l x w h)
end
section
open Go.RowKit
open Go.ChangeMaps (setBlock)
def wid(m:Nat):Nat:=if m=0 then 1 else m
def cBz{α:Type}(ev:α -> List AC)(l:List (ByteArray×α)):List AC:=l.flatMap λp=>Vs p.1::ev p.2
abbrev cR3{α:Type}(g m:Nat)(ev:α -> List AC)(l:List (ByteArray×α)):bA:=⟨bWn g,m,0,l.length,cBz ev l⟩
def bZu{α:Type}:List (ByteArray×α) -> ByteArray -> Option α
 |[],_=>none
 |p::l,k=>if p.1=k then some p.2 else bZu l k
def bZq{α:Type}:List (ByteArray×α) -> ByteArray -> α -> List (ByteArray×α)
 |[],k,a=>[(k,a)]
 |p::l,k,a=>if p.1=k then (k,a)::l else p::bZq l k a
def bZy{α:Type}:List (ByteArray×α) -> ByteArray -> List (ByteArray×α)
 |[],_=>[]
 |p::l,k=>if p.1=k then l else p::bZy l k
inductive cAi {α:Type} (w:World) (m:Nat) (ev:α -> List AC):List MapEntry -> List (ByteArray×α) -> Prop
 |nil:cAi w m ev [] []
 |cons {e:MapEntry} {k:ByteArray} {a:α} {L:List MapEntry} {l:List (ByteArray×α)} (hk:e.key=.string k) (hv:fG w (ev a) e.val.cells.toList) (hm:bWl m e) (t:cAi w m ev L l):cAi w m ev (e::L) ((k,a)::l)
section
variable {α:Type}{w:World}{m:Nat}{ev:α -> List AC}
theorem bWl.wid{e:MapEntry}(h:bWl m e):e.val.cells.toList.length=wid m:=by
 obtain ⟨-,h⟩:=h
 unfold Go.Proofs.YtjgeihmhppadaaaGreatDoor.wid
 split at h
 ·rename_i h0
  rw [if_pos h0]
  cases hv:e.val<;>rw [hv] at h<;>first|rfl|cases h
 rename_i h0
 rw [if_neg h0]
 obtain ⟨us,e1,e2⟩:=h
 rw [e1];simpa [Value.cells] using e2
theorem cAi.len{L:List MapEntry}{l:List (ByteArray×α)}(h:cAi w m ev L l):L.length=l.length:=by
 induction h with
 |nil=>rfl
 |cons _ _ _ _ ih=>simp [ih]
theorem cAi.ok{L:List MapEntry}{l:List (ByteArray×α)}(h:cAi w m ev L l):∀e,e∈L -> bWl m e:=by
 induction h with
 |nil=>intro e h;cases h
 |cons _ _ hm _ ih=>intro e h;rcases mem_cons.1 h with rfl|h;exact hm;exact ih e h
theorem cAi.rep{L:List MapEntry}{l:List (ByteArray×α)}(h:cAi w m ev L l):fG w (cBz ev l) (L.flatMap bXj):=by
 induction h with
 |nil=>exact .nil _
 |cons hk hv hm t ih=>
  unfold cBz at ih⊢
  rw [List.flatMap_cons,List.flatMap_cons]
  refine fG.app ?_ ih
  unfold bXj
  rw [hk]
  exact .cons (.val _ Y) hv
theorem cAi.mono{w':World}(hm:Up2 w w'){L:List MapEntry}{l:List (ByteArray×α)}(h:cAi w m ev L l):cAi w' m ev L l:=by
 induction h with
 |nil=>exact .nil
 |cons hk hv h t ih=>exact .cons hk (hv.mono hm) h ih
theorem cC4{v u:Value}(h:Rep w (.val v) u):u=v:=by cases h;rfl
theorem cC0(hev:∀a,(ev a).length=wid m):∀{L:List MapEntry} {l:List (ByteArray×α)},L.length=l.length -> (∀e,e∈L -> bWl m e) -> fG w (cBz ev l) (L.flatMap bXj) -> cAi w m ev L l
 |[],[],_,_,_=>.nil
 |e::L,[],h,_,_=>DU
 |[],p::l,h,_,_=>DU
 |e::L,(k,a)::l,h,hm,hr=>by
  have hme:=hm e G0
  have e1:cBz ev ((k,a)::l)=(Vs k::ev a)++cBz ev l:=by unfold cBz;rw [List.flatMap_cons]
  have e2:(e::L).flatMap bXj=bXj e++L.flatMap bXj:=List.flatMap_cons
  have l1:(AC.val (.string k)::ev a).length=wid m+1:=by rw [length_cons,hev]
  have l2:(bXj e).length=wid m+1:=by unfold bXj;rw [length_cons,hme.wid]
  have hA:=hr.take (wid m+1)
  have hB:=hr.drop (wid m+1)
  rw [e1,e2,List.take_left' l1,List.take_left' l2] at hA
  rw [e1,e2,List.drop_left' l1,List.drop_left' l2] at hB
  have h0:=hA.at_ 0 G0 (by unfold bXj;simp)
  have hk:e.key=.string k:=cC4 h0
  have hv:fG w (ev a) e.val.cells.toList:=by
   have h9:=hA.drop 1
   unfold bXj at h9
   simpa using h9
  exact .cons hk hv hme (cC0 hev Er (λx hx=>hm x (List.mem_cons_of_mem _ hx)) hB)
theorem cAi.find{L:List MapEntry}{l:List (ByteArray×α)}(h:cAi w m ev L l)(k:ByteArray):∀i:Nat,
  (bZu l k=none /\ Instr.findNow .string (.string k) L i=some none /\ (∀a,bZq l k a=l++[(k,a)]) /\ bZy l k=l)∨
  ∃j e a,bZu l k=some a /\ Instr.findNow .string (.string k) L i=some (some (i+j,e.val)) /\ L[j]?=some e /\ e.key=.string k /\ fG w (ev a) e.val.cells.toList /\ bWl m e /\ j<L.length /\ cAi w m ev (L.eraseIdx j) (bZy l k) /\ (bZq l k a).length=l.length /\ ∀a' e',e'.key=.string k -> fG w (ev a') e'.val.cells.toList -> bWl m e' -> cAi w m ev (L.set j e') (bZq l k a'):=by
 induction h with
 |nil=>intro i;exact .inl ⟨rfl,rfl,λ_=>rfl,rfl⟩
 |@cons e k' a L l hk hv hm t ih=>
  intro i
  by_cases hkk:k'=k
  ·subst hkk
   refine .inr ⟨0,e,a,by unfold bZu;rw [if_pos rfl],?_,Y,hk,hv,hm,G0,by unfold bZy;rw [if_pos rfl];exact t,by unfold bZq;rw [if_pos rfl];try rfl,λa' e' h1 h2 h3=>by unfold bZq;rw [if_pos rfl];exact .cons h1 h2 h3 t⟩
   unfold Instr.findNow
   rw [hk]
   simp [Instr.sameNow,(MapKept.bytes_beq k' k').2 rfl]
  have hb:(k == k')=false:=by
   cases hc:k == k' with
   |false=>rfl
   |true=>exact absurd ((MapKept.bytes_beq k k').1 hc).symm hkk
  have hf:Instr.findNow .string (.string k) (e::L) i=Instr.findNow .string (.string k) L (i+1):=by
   conv=>lhs;unfold Instr.findNow
   rw [hk]
   simp [Instr.sameNow,hb]
  rcases ih (i+1) with ⟨h1,h2,h3,h4⟩|⟨j,e0,a0,h1,h2,h3,h4,h5,h6,h7,h8,h9,h10⟩
  ·exact .inl ⟨by unfold bZu;rw [if_neg hkk];exact h1,by rw [hf,h2],λa'=>by unfold bZq;rw [if_neg hkk,h3];rfl,by unfold bZy;rw [if_neg hkk,h4]⟩
  refine .inr ⟨j+1,e0,a0,by unfold bZu;rw [if_neg hkk];exact h1,by rw [hf,h2];congr 3;omega,DL,h4,h5,h6,DR,by unfold bZy;rw [if_neg hkk,List.eraseIdx_cons_succ];exact .cons hk hv hm h8,by unfold bZq;rw [if_neg hkk,length_cons,length_cons,h9],λa' e' g1 g2 g3=>by unfold bZq;rw [if_neg hkk,List.set_cons_succ];exact .cons hk hv hm (h10 a' e' g1 g2 g3)⟩
theorem cAi.snoc{L:List MapEntry}{l:List (ByteArray×α)}(h:cAi w m ev L l){e:MapEntry}{k:ByteArray}{a:α}(hk:e.key=.string k)(hv:fG w (ev a) e.val.cells.toList)(hm:bWl m e):cAi w m ev (L++[e]) (l++[(k,a)]):=by
 induction h with
 |nil=>exact .cons hk hv hm .nil
 |cons hk' hv' hm' t ih=>exact .cons hk' hv' hm' ih
theorem Mem.mapAt{s:Sto}{w:World}(h:Mem s w){g:Nat}{l:List (ByteArray×α)}(hr:cR3 g m ev l∈s.rows)(hev:∀a,(ev a).length=wid m):∃(es:Array MapEntry) (clock:Nat),w.heap[g]?=some (.map es clock) /\ cAi (bI s.bl w) m ev es.toList l:=by
 obtain ⟨us,h1,h2⟩:=h.row _ hr
 rcases h1 with ⟨-,h1⟩|⟨-,g',es,cl,e1,e2,e3,e4,e5⟩
 ·rcases h1 with ⟨h1,-⟩|⟨g',cap,cur,h1,-⟩
  ·cases h1
  cases h1
 cases e1
 refine ⟨es,cl,e2,cC0 hev (by simpa using e3) e5 ?_⟩
 rw [←e4];exact h2
end
theorem bZw(g:Nat):aY (bWn g)=[g]:=rfl
section
variable {P:Program}{U T:List Nat}{o:Oper}{n d:Nat}{bx:List Box}{rw:List bA}{ts:List (Nat×AT)}{K:AS -> Prop}{st:AS}{α:Type}{m:Nat}{ev:α -> List AC}
theorem bZ6{w:World}{kt:TypeId}(hk:P.underlying kt=some .string){k:ByteArray}{L:List MapEntry}{r:Option (Nat×Value)}(h:Instr.findNow .string (.string k) L 0=some r):(Instr.findKey kt (.string k) L).run P w=.ok r w:=MapKept.run_findKey hk h
theorem bZ8{w:World}{kt:TypeId}(hk:P.underlying kt=some .string)(k:ByteArray)(e:Bool):(Instr.checkKey e 10000 kt (.string k)).run P w=.ok () w:=MapKept.run_checkKey hk (d:=.string) (k:=.string k) trivial e 9999
theorem cBa{w:World}{t kt et:TypeId}{g:Nat}{es:Array MapEntry}{clock:Nat}{k:ByteArray}{w0:World}{l:List (ByteArray×α)}(ht:P.underlying t=some (.map kt et))(hk:P.underlying kt=some .string){z:Value}(hz:(zeroValue et).run P w=.ok z w)(hb:w.heap[g]?=some (.map es clock))(he:cAi w0 m ev es.toList l)(c:Bool):
  (bZu l k=none /\ (Instr.lookup t (.map (some g)) (.string k) c).run P w=.ok (if c then .tuple #[z,.bool false] else z) w)∨
  ∃a v,bZu l k=some a /\ fG w0 (ev a) v.cells.toList /\ (if m=0 then v.oneCell'=true else ∃us:List Value,v=.agg us.toArray /\ us.length=m) /\ (Instr.lookup t (.map (some g)) (.string k) c).run P w=.ok (if c then .tuple #[v,.bool true] else v) w:=by
 rcases he.find k 0 with ⟨h1,h2,-⟩|⟨j,e,a,h1,h2,h3,h4,h5,h6,-⟩
 ·refine .inl ⟨h1,?_⟩
  simp only [Instr.lookup,Sem.run_bind,run_underlying ht,Result.andThen_ok,MapKept.run_getObj_map hb,bZ8 hk,bZ6 hk h2,Sem.run_pure,hz]
 refine .inr ⟨a,e.val,h1,h5,h6.2,?_⟩
 simp only [Instr.lookup,Sem.run_bind,run_underlying ht,Result.andThen_ok,MapKept.run_getObj_map hb,bZ8 hk,bZ6 hk h2,Sem.run_pure]
theorem cD2{w:World}{c:AC}{v:Value}(h1:v.oneCell'=true)(h:fG w [c] v.cells.toList):Rep w c v:=by
 have e:v.cells.toList=[v]:=by cases v<;>first|rfl|cases h1
 rw [e] at h
 exact h.at_ 0 G0 G0
theorem cAv{w w':World}(hk:cW U w w'){g:Nat}{o:Obj}(hb:w.heap[g]?=some o)(hU:g∉U):w'.heap[g]?=some o:=(hk.block g (Array.getElem?_eq_some_iff.1 hb).1 hU).trans hb
abbrev evI(i:Int):List AC:=[Vi i]
theorem cB9(i:Int):(evI i).length=wid 0:=rfl
def bZp(l:List (ByteArray×Int))(k:ByteArray):Int:=(bZu l k).getD 0
theorem cAm{t kt et:TypeId}{x y:Operand}{g:Nat}{k:ByteArray}(l:List (ByteArray×Int))(ho:o.op=.lookup t x y false)(hx:evA st x=some (.c (Vm g)))(hy:evA st y=some (Cs k))(hrow:cR3 g 0 evI l∈st.s.rows)
  (ht:P.underlying t=some (.map kt et)) (hk:P.underlying kt=some .string) (hz:∀w,(zeroValue et).run P w=.ok (.int .i64 0) w) (hU:st.s.bl.Nodup -> g∉U):AY P U o st (Ci (bZp l k)):=by
 intro a w hs hU2
 obtain ⟨es,cl,hb,he⟩:=hs.mem.mapAt (m:=0) (ev:=evI) (g:=g) (l:=l) hrow cB9
 refine ⟨_,.c _ _ (.val _ Y),λw' hkp=>?_⟩
 have hb2:=cAv hkp hb (hU hs.mem.nodup)
 have hop:execOp a.eval o=(do pure (.value (←Instr.lookup t (.map (some g)) (.string k) false))):=BZ
 rw [hop]
 rcases cBa (P:=P) (k:=k) ht hk (hz w') hb2 he false with ⟨h1,h2⟩|⟨b,v,h1,h2,h3,h4⟩
 ·have e:bZp l k=0:=GL
  rw [e,Sem.run_bind,h2];rfl
 have e:bZp l k=b:=GL
 have hv:=cC4 (cD2 DL h2)
 rw [e,Sem.run_bind,h4,hv];rfl
theorem cS2{t kt et:TypeId}{x y:Operand}{g:Nat}{k:ByteArray}(l:List (ByteArray×Int))(ho:o.op=.lookup t x y true)(hx:evA st x=some (.c (Vm g)))(hy:evA st y=some (Cs k))(hrow:cR3 g 0 evI l∈st.s.rows)
  (ht:P.underlying t=some (.map kt et)) (hk:P.underlying kt=some .string) (hz:∀w,(zeroValue et).run P w=.ok (.int .i64 0) w) (hU:st.s.bl.Nodup -> g∉U):AY P U o st (.tup [Ci (bZp l k),Cb ((bZu l k).isSome)]):=by
 intro a w hs hU2
 obtain ⟨es,cl,hb,he⟩:=hs.mem.mapAt (m:=0) (ev:=evI) (g:=g) (l:=l) hrow cB9
 refine ⟨_,.tup _ [.int .i64 (bZp l k),.bool (bZu l k).isSome] Y (λi h h'=>by
  match i,h,h' with
  |0,_,_=>exact .c _ _ (.val _ rfl)
  |1,_,_=>exact .c _ _ (.val _ rfl)),λw' hkp=>?_⟩
 have hb2:=cAv hkp hb (hU hs.mem.nodup)
 have hop:execOp a.eval o=(do pure (.value (←Instr.lookup t (.map (some g)) (.string k) true))):=BZ
 rw [hop]
 rcases cBa (P:=P) (k:=k) ht hk (hz w') hb2 he true with ⟨h1,h2⟩|⟨b,v,h1,h2,h3,h4⟩
 ·have e:bZp l k=0:=GL
  rw [e,h1,Sem.run_bind,h2];rfl
 have e:bZp l k=b:=GL
 have hv:=cC4 (cD2 DL h2)
 rw [e,h1,Sem.run_bind,h4,hv];rfl
theorem cDl{t kt et:TypeId}{x y:Operand}{g:Nat}{k:ByteArray}(l:List (ByteArray×α)){b:α}(ho:o.op=.lookup t x y false)(hx:evA st x=some (.c (Vm g)))(hy:evA st y=some (Cs k))(hrow:cR3 g m ev l∈st.s.rows)(hm:m≠0)(hev:∀a,(ev a).length=m)
  (ht:P.underlying t=some (.map kt et)) (hk:P.underlying kt=some .string) {z:Value} (hz:∀w,(zeroValue et).run P w=.ok z w) (hU:st.s.bl.Nodup -> g∉U) (hl:bZu l k=some b):AY P U o st (.agg (ev b)):=by
 intro a w hs hU2
 obtain ⟨es,cl,hb,he⟩:=hs.mem.mapAt (m:=m) (ev:=ev) (g:=g) (l:=l) hrow Ca
 rcases cBa (P:=P) (k:=k) ht hk (hz w) hb he false with ⟨h1,h2⟩|⟨b',v,h1,h2,h3,h4⟩
 ·rw [h1] at hl;cases hl
 rw [h1] at hl;cases hl
 rw [if_neg hm] at h3
 obtain ⟨us,rfl,-⟩:=h3
 refine ⟨_,.agg _ us (by simpa [Value.cells] using h2),λw' hkp=>?_⟩
 have hb2:=cAv hkp hb (hU hs.mem.nodup)
 have hop:execOp a.eval o=(do pure (.value (←Instr.lookup t (.map (some g)) (.string k) false))):=BZ
 rw [hop]
 have hrun:(Instr.lookup t (.map (some g)) (.string k) false).run P w'=.ok (.agg us.toArray) w':=by
  rcases he.find k 0 with ⟨g1,-⟩|⟨j,e,a,g1,g2,-⟩
  ·rw [g1] at h1;cases h1
  have f1:(Instr.lookup t (.map (some g)) (.string k) false).run P w=.ok e.val w:=by simp only [Instr.lookup,Sem.run_bind,run_underlying ht,Result.andThen_ok,MapKept.run_getObj_map hb,bZ8 hk,bZ6 hk g2,Sem.run_pure];rfl
  have f2:(Instr.lookup t (.map (some g)) (.string k) false).run P w'=.ok e.val w':=BB
  rw [f1] at h4
  have e9:e.val=.agg us.toArray:=by simpa using h4
  rw [f2,e9]
 rw [Sem.run_bind,hrun];rfl
theorem cDa{t kt et:TypeId}{x y:Operand}{g:Nat}{k:ByteArray}(l:List (ByteArray×α)){b:α}(ho:o.op=.lookup t x y true)(hx:evA st x=some (.c (Vm g)))(hy:evA st y=some (Cs k))(hrow:cR3 g m ev l∈st.s.rows)(hm:m≠0)(hev:∀a,(ev a).length=m)
  (ht:P.underlying t=some (.map kt et)) (hk:P.underlying kt=some .string) {z:Value} (hz:∀w,(zeroValue et).run P w=.ok z w) (hU:st.s.bl.Nodup -> g∉U) (hl:bZu l k=some b):AY P U o st (.tup [.agg (ev b),Cb true]):=by
 intro a w hs hU2
 obtain ⟨es,cl,hb,he⟩:=hs.mem.mapAt (m:=m) (ev:=ev) (g:=g) (l:=l) hrow Ca
 rcases he.find k 0 with ⟨g1,-⟩|⟨j,e,a2,g1,g2,g3,g4,g5,g6,-⟩
 ·rw [g1] at hl;cases hl
 rw [g1] at hl;cases hl
 have h3:=g6.2
 rw [if_neg hm] at h3
 obtain ⟨us,e9,-⟩:=h3
 rw [e9] at g5
 refine ⟨_,.tup _ [.agg us.toArray,.bool true] Y (λi h h'=>by
  match i,h,h' with
  |0,_,_=>exact .agg _ us (by simpa [Value.cells] using g5)
  |1,_,_=>exact .c _ _ (.val _ rfl)),λw' hkp=>?_⟩
 have hb2:=cAv hkp hb (hU hs.mem.nodup)
 have hop:execOp a.eval o=(do pure (.value (←Instr.lookup t (.map (some g)) (.string k) true))):=BZ
 rw [hop]
 have f2:(Instr.lookup t (.map (some g)) (.string k) true).run P w'=.ok (.tuple #[e.val,.bool true]) w':=BB
 rw [Sem.run_bind,f2,e9];rfl
theorem cDh{t kt et:TypeId}{x y:Operand}{g:Nat}{k:ByteArray}(l:List (ByteArray×α))(ho:o.op=.lookup t x y true)(hx:evA st x=some (.c (Vm g)))(hy:evA st y=some (Cs k))(hrow:cR3 g m ev l∈st.s.rows)(hm:m≠0)(hev:∀a,(ev a).length=m)
  (ht:P.underlying t=some (.map kt et)) (hk:P.underlying kt=some .string) {z:Value} (hz:∀w,(zeroValue et).run P w=.ok z w) (hU:st.s.bl.Nodup -> g∉U) (hl:bZu l k=none) (tz:AT) (hct:cst z=tz):AY P U o st (.tup [tz,Cb false]):=by
 subst hct
 intro a w hs hU2
 obtain ⟨es,cl,hb,he⟩:=hs.mem.mapAt (m:=m) (ev:=ev) (g:=g) (l:=l) hrow Ca
 refine ⟨_,.tup _ [z,.bool false] Y (λi h h'=>by
  match i,h,h' with
  |0,_,_=>exact aCw _ z
  |1,_,_=>exact .c _ _ (.val _ rfl)),λw' hkp=>?_⟩
 have hb2:=cAv hkp hb (hU hs.mem.nodup)
 have hop:execOp a.eval o=(do pure (.value (←Instr.lookup t (.map (some g)) (.string k) true))):=BZ
 rw [hop]
 rcases cBa (P:=P) (k:=k) ht hk (hz w') hb2 he true with ⟨h1,h2⟩|⟨b,v,h1,-⟩
 ·rw [Sem.run_bind,h2];rfl
 rw [h1] at hl;cases hl
theorem cAo(w:World)(g:Nat)(x:Obj):cW [g] w (setBlock w g x):=
 ⟨rfl,rfl,rfl,by simp [setBlock],λk hk hn=>by
  show (w.heap.setIfInBounds g x)[k]?=_
  rw [Array.getElem?_setIfInBounds_ne];intro h;exact hn Dq⟩
theorem Mem.setMap{s:Sto}{w:World}{A B:List bA}{g:Nat}{l l':List (ByteArray×α)}{es es':Array MapEntry}{clock clock':Nat}(h:Mem s w)(hb:s.rows=A++cR3 g m ev l::B)(h1:w.heap[g]?=some (.map es clock))(hr:cAi (bI s.bl w) m ev es'.toList l'):
  Mem ⟨s.boxes,A++cR3 g m ev l'::B⟩ (setBlock w g (.map es' clock')):=by
 have hbl:(⟨s.boxes,A++cR3 g m ev l'::B⟩:Sto).bl=s.bl:=Bt
 have hmem:g∈s.bl:=by unfold Sto.bl;rw [hb];simp [bZw]
 have hk:=cAo w g (.map es' clock')
 have hu:Up2 (bI s.bl w) (bI s.bl (setBlock w g (.map es' clock'))):=jA hk CU (λx hx=>.inl hx)
 have hlt:g<w.heap.size:=h.lt g hmem
 have hnd:=h.nodup
 have hnd2:((s.boxes.map Box.b++A.flatMap λr=>aY r.v)++([g]++B.flatMap λr=>aY r.v)).Nodup:=by
  have h9:=hnd
  unfold Sto.bl at h9
  rw [hb] at h9
  simpa [bZw] using h9
 have hbox:∀x,x∈s.boxes -> x.b≠g:=λx hx he=>(List.nodup_append.1 hnd2).2.2 x.b (List.mem_append_left _ (List.mem_map.2 ⟨x,hx,Y⟩)) g G0 he
 have hrow:∀r,r∈A∨r∈B -> g∉aY r.v:=by
  intro r hr2 hm2
  rcases hr2 with hr2|hr2
  ·exact (List.nodup_append.1 hnd2).2.2 g (List.mem_append_right _ (List.mem_flatMap.2 ⟨r,hr2,hm2⟩)) g G0 Y
  exact (List.nodup_append.1 (List.nodup_append.1 hnd2).2.1).2.2 g G0 g (List.mem_flatMap.2 ⟨r,hr2,hm2⟩) Y
 refine ⟨by rw [hbl];exact hnd,λx hx=>BS,λx hx=>?_,λr hr2=>?_⟩
 ·rw [hbl]
  obtain ⟨us,e1,e2⟩:=h.box x hx
  exact ⟨us,BI,e2.mono hu⟩
 rw [hbl]
 have old:r∈A∨r∈B -> ∃us,bWg (setBlock w g (.map es' clock')) r us /\ fG (bI s.bl (setBlock w g (.map es' clock'))) r.cs us:=λhr=>by
  have hr3:r∈s.rows:=CB
  obtain ⟨us,e1,e2⟩:=h.row r hr3
  exact ⟨us,e1.keep λq hq=>hk.block q (h.lt q (List.mem_append_right _ (List.mem_flatMap.2 ⟨r,hr3,hq⟩))) EE,e2.mono hu⟩
 simp only [mem_append,mem_cons] at hr2
 rcases hr2 with hr2|rfl|hr2
 ·exact old (.inl hr2)
 ·refine ⟨es'.toList.flatMap bXj,.inr ⟨Y,g,es',clock',Y,?_,by simpa using hr.len,Y,hr.ok⟩,(hr.mono hu).rep⟩
  show (w.heap.setIfInBounds g _)[g]?=_
  simp [hlt]
 exact old (.inr hr2)
theorem cCq{w:World}{t:AT}{b:α}{v:Value}(hc:jL t=some (ev b))(hr:dO w t v)(hm:if m=0 then (∃c,t=.c c) else (∃cs,t=.agg cs /\ cs.length=m)):if m=0 then v.oneCell'=true else ∃us:List Value,v=.agg us.toArray /\ us.length=m:=by
 split at hm
 ·rename_i h0
  rw [if_pos h0]
  obtain ⟨c,rfl⟩:=hm
  cases hr with|c _ _ hr=>exact hr.one
 rename_i h0
 rw [if_neg h0]
 obtain ⟨cs,rfl,hl⟩:=hm
 cases hr with|agg _ us hr=>exact ⟨us,rfl,hr.len.trans hl⟩
theorem cB5{t kt et:TypeId}{x y z:Operand}{g:Nat}{k:ByteArray}{b:α}{u:AT}(l:List (ByteArray×α))(A:List bA){B:List bA}(ho:o.op=.mapUpdate t x y z)(hd:o.dst=none)(hx:evA st x=some (.c (Vm g)))(hy:evA st y=some (Cs k))(hz:evA st z=some u)(hc:jL u=some (ev b))(hrow:st.s.rows=A++cR3 g m ev l::B)(hev:∀a,(ev a).length=wid m)
  (hm:if m=0 then (∃c,u=.c c) else (∃cs,u=.agg cs /\ cs.length=m)) (ht:P.underlying t=some (.map kt et)) (hk:P.underlying kt=some .string) (hT:g∈st.T) (hU:st.s.bl.Nodup -> g∈U)
  (h:K {st with s:=⟨st.s.boxes,A++cR3 g m ev (bZq l k b)::B⟩}):AO P U o st K:=by
 intro a w hs KK QQ hK
 obtain ⟨es,cl,hb,he⟩:=hs.mem.mapAt (m:=m) (ev:=ev) (g:=g) (l:=l) C1 hev
 have hv:=hs.ev hz
 generalize hvv:a.eval z=v at hv
 have hval:=mU hc hv
 have hok:bWl m ⟨.string k,v,cl⟩:=⟨⟨k,Y⟩,cCq hc hv hm⟩
 have hbl:(⟨st.s.boxes,A++cR3 g m ev (bZq l k b)::B⟩:Sto).bl=st.s.bl:=Ei
 have hbm:g∈st.s.bl:=by unfold Sto.bl;rw [hrow];simp [bZw]
 have key:∃es' cl',(Instr.mapUpdate t (.map (some g)) (.string k) v).run P w=.ok () (setBlock w g (.map es' cl')) /\ cAi (bI st.s.bl w) m ev es'.toList (bZq l k b):=by
  rcases he.find k 0 with ⟨h1,h2,h3,-⟩|⟨j,e,a2,h1,h2,h3,h4,h5,h6,h7,h8,-,h10⟩
  ·refine ⟨es.push ⟨.string k,v,cl⟩,cl+1,?_,?_⟩
   ·simp only [Instr.mapUpdate,Sem.run_bind,run_underlying ht,Result.andThen_ok,MapKept.run_getObj_map hb,bZ8 hk,bZ6 hk h2,MapKept.run_setObj_map _ hb];rfl
   rw [h3,Array.toList_push];exact he.snoc rfl hval hok
  have he3:es[j]?=some e:=DL
  refine ⟨es.modify j λx=>{x with key:=.string k,val:=v},cl,?_,?_⟩
  ·simp only [Instr.mapUpdate,Sem.run_bind,run_underlying ht,Result.andThen_ok,MapKept.run_getObj_map hb,bZ8 hk,bZ6 hk h2,Nat.zero_add,he3,Option.map_some,Option.getD_some,h4,MapKept.run_keyThatStays (d:=.string) (k:=.string k) trivial,MapKept.run_setObj_map _ hb];rfl
  have hj:j<es.size:=by simpa using h7
  have e1:(es.modify j λx=>{x with key:=.string k,val:=v}).toList=es.toList.set j ⟨.string k,v,e.born⟩:=by
   refine List.ext_getElem? λi=>?_
   rw [Array.getElem?_toList,Array.getElem?_modify,List.getElem?_set]
   by_cases hij:j=i
   ·subst hij
    rw [if_pos rfl,if_pos rfl,he3,if_pos h7];rfl
   rw [if_neg hij,if_neg hij,Array.getElem?_toList]
  rw [e1]
  exact h10 b ⟨.string k,v,e.born⟩ Y hval ⟨⟨k,Y⟩,hok.2⟩
 obtain ⟨es',cl',hrun,hents⟩:=key
 have hkp:=cAo w g (.map es' cl')
 unfold Oper.wp
 have hrun2:(execOp a.eval o).run P w=.ok .skip (setBlock w g (.map es' cl')):=by
  simp only [execOp,ho,hs.val hx,hs.val hy,hvv,Sem.run_bind,hrun];rfl
 rw [hrun2,Oper.upon_skip,hd]
 have hmm:=hs.mem.setMap (clock':=cl') hrow hb hents
 refine hK _ _ _ h (hs.step st.T (hkp.mono C0) hmm (λx hx=>.inl Bw)) ⟨hkp.mono C0,hkp.mono DN,λx hx=>.inl Bw,λx hx=>.inl hx⟩ (hkp.mono Cp)
theorem cC8{t kt et kt2:TypeId}{x y:Operand}{g:Nat}{k:ByteArray}(l:List (ByteArray×α))(A:List bA){B:List bA}(ho:o.op=.call {callee:=.builtin .delete,args:=#[x,y],argTypes:=#[t,kt2]})(hd:o.dst=none)(hx:evA st x=some (.c (Vm g)))(hy:evA st y=some (Cs k))(hrow:st.s.rows=A++cR3 g m ev l::B)(hev:∀a,(ev a).length=wid m)
  (ht:P.underlying t=some (.map kt et)) (hk:P.underlying kt=some .string) (hT:g∈st.T) (hU:st.s.bl.Nodup -> g∈U)
  (h:K {st with s:=⟨st.s.boxes,A++cR3 g m ev (bZy l k)::B⟩}):AO P U o st K:=by
 intro a w hs KK QQ hK
 obtain ⟨es,cl,hb,he⟩:=hs.mem.mapAt (m:=m) (ev:=ev) (g:=g) (l:=l) C1 hev
 have hbl:(⟨st.s.boxes,A++cR3 g m ev (bZy l k)::B⟩:Sto).bl=st.s.bl:=Ei
 have hbm:g∈st.s.bl:=by unfold Sto.bl;rw [hrow];simp [bZw]
 have key:∃es',(Builtin.delete_ #[t,kt2] o.type #[.map (some g),.string k]).run P w=.ok (.tuple #[]) (setBlock w g (.map es' cl)) /\ cAi (bI st.s.bl w) m ev es'.toList (bZy l k):=by
  rcases he.find k 0 with ⟨h1,h2,-,h3⟩|⟨j,e,a2,h1,h2,h3,h4,h5,h6,h7,h8,-⟩
  ·refine ⟨es,?_,by rw [h3];exact he⟩
   simp [Builtin.delete_,run_underlying ht,MapKept.run_getObj_map hb,bZ8 hk,bZ6 hk h2,MapKept.run_setObj_map _ hb,Result.andThen,setBlock]
  have hj:j<es.size:=by simpa using h7
  refine ⟨es.eraseIdxIfInBounds j,?_,?_⟩
  ·simp [Builtin.delete_,run_underlying ht,MapKept.run_getObj_map hb,bZ8 hk,bZ6 hk h2,MapKept.run_setObj_map _ hb,Result.andThen,setBlock]
  have e1:(es.eraseIdxIfInBounds j).toList=es.toList.eraseIdx j:=by
   unfold Array.eraseIdxIfInBounds
   rw [dif_pos hj,Array.toList_eraseIdx]
  rw [e1];exact h8
 obtain ⟨es',hrun,hents⟩:=key
 have hkp:=cAo w g (.map es' cl)
 unfold Oper.wp
 have hrun2:(execOp a.eval o).run P w=.ok (.value (.tuple #[])) (setBlock w g (.map es' cl)):=by
  unfold execOp
  simp only [ho,resolve,invoke,builtin,Sem.run_bind,Sem.run_pure,Result.andThen_ok,List.map_toArray,List.map_cons,List.map_nil,hs.val hx,hs.val hy,hrun]
 rw [hrun2,Oper.upon_value,hd]
 have hmm:=hs.mem.setMap (clock':=cl) hrow hb hents
 have s1:=hs.step st.T (hkp.mono C0) hmm (λx hx=>.inl Bw)
 refine hK _ _ _ h (by simpa [Act.put] using s1) ⟨hkp.mono C0,hkp.mono DN,λx hx=>.inl Bw,λx hx=>.inl hx⟩ (hkp.mono Cp)
theorem cB3{t:TypeId}(m:Nat)(ev:α -> List AC)(ho:o.op=.makeMap t none)(hd:o.dst=some d)(hn:d<n)
  (h:∀g,K ⟨n,g::T,⟨bx,cR3 g m ev []::rw⟩,(d,.c (Vm g))::ts⟩):AO P U o ⟨n,T,⟨bx,rw⟩,ts⟩ K:=by
 intro a w hs KK QQ hK
 have hrun:(execOp a.eval o).run P w=.ok (.value (.map (some w.heap.size))) (w.alloc (.map #[] 0)):=by
  simp only [execOp,ho];rfl
 have hk:cW [] w (w.alloc (.map #[] 0)):=(cW.refl _ _).alloc _
 have hne:w.heap.size∉(⟨bx,rw⟩:Sto).bl:=λhm=>Nat.lt_irrefl _ (hs.mem.lt _ hm)
 have hbl:(⟨bx,cR3 w.heap.size m ev []::rw⟩:Sto).bl=bx.map Box.b++w.heap.size::rw.flatMap λr=>aY r.v:=by unfold Sto.bl;simp [bZw]
 have hsub:∀b,b∈(⟨bx,cR3 w.heap.size m ev []::rw⟩:Sto).bl -> b∈(⟨bx,rw⟩:Sto).bl∨w.heap.size <= b:=λb hb=>by
  rw [hbl] at hb
  simp only [mem_append,mem_cons] at hb
  rcases hb with h|rfl|h
  ·exact .inl (List.mem_append_left _ h)
  ·exact .inr (Nat.le_refl _)
  exact .inl (List.mem_append_right _ h)
 have hup:Up2 (bI (⟨bx,rw⟩:Sto).bl w) (bI (⟨bx,cR3 w.heap.size m ev []::rw⟩:Sto).bl (w.alloc (.map #[] 0))):=jA hk Bu hsub
 have hsz:(w.alloc (.map #[] 0)).heap.size=w.heap.size+1:=G0
 have hm:Mem ⟨bx,cR3 w.heap.size m ev []::rw⟩ (w.alloc (.map #[] 0)):=by
  refine ⟨?_,λb hb=>?_,λx hx=>?_,λr hr=>?_⟩
  ·rw [hbl]
   have hnd:(bx.map Box.b++rw.flatMap λr=>aY r.v).Nodup:=hs.mem.nodup
   rw [List.nodup_append] at hnd⊢
   refine ⟨hnd.1,List.nodup_cons.2 ⟨λh=>hne (List.mem_append_right _ h),hnd.2.1⟩,λa ha b hb=>?_⟩
   rcases mem_cons.1 hb with rfl|hb
   ·intro he;subst he;exact hne (List.mem_append_left _ ha)
   exact hnd.2.2 a ha b hb
  ·rw [hbl] at hb
   simp only [mem_append,mem_cons] at hb
   rw [hsz]
   rcases hb with h|rfl|h
   ·exact Nat.lt_succ_of_lt (hs.mem.lt b (List.mem_append_left _ h))
   ·exact Nat.lt_succ_self _
   exact Nat.lt_succ_of_lt (hs.mem.lt b (List.mem_append_right _ h))
  ·obtain ⟨us,e1,e2⟩:=hs.mem.box x hx
   exact ⟨us,BN,e2.mono hup⟩
  rcases mem_cons.1 hr with rfl|hr
  ·refine ⟨[],.inr ⟨Y,w.heap.size,#[],0,Y,?_,Y,Y,λe h=>DU⟩,.nil _⟩
   show (w.heap.push _)[w.heap.size]?=_
   simp
  obtain ⟨us,e1,e2⟩:=hs.mem.row r hr
  exact ⟨us,e1.keep λg hg=>hk.block g (hs.mem.lt g (List.mem_append_right _ (List.mem_flatMap.2 ⟨r,hr,hg⟩))) G0,e2.mono hup⟩
 unfold Oper.wp
 rw [hrun,Oper.upon_value,hd]
 have s1:=hs.step (st:=⟨n,T,⟨bx,rw⟩,ts⟩) (w.heap.size::T) (hk.mono G0) hm hsub
 refine hK _ _ _ (h _) (s1.put (v:=.map (some w.heap.size)) hn (.c _ _ (.val _ Y))) ⟨hk.mono G0,hk.mono G0,hsub,λb hb=>?_⟩ (hk.mono G0)
 rcases mem_cons.1 hb with rfl|hb
 ·exact .inr (Nat.le_refl _)
 exact .inl hb
theorem cTu{t kt et:TypeId}{x:Operand}{g:Nat}(l:List (ByteArray×α))(ho:o.op=.call {callee:=.builtin .len,args:=#[x],argTypes:=#[t]})(hx:evA st x=some (.c (Vm g)))(hrow:cR3 g m ev l∈st.s.rows)(hev:∀a,(ev a).length=wid m)(ht:P.underlying t=some (.map kt et))(hU:st.s.bl.Nodup -> g∉U):AY P U o st (Ci l.length):=by
 intro a w hs hU2
 obtain ⟨es,cl,hb,he⟩:=hs.mem.mapAt (m:=m) (ev:=ev) (g:=g) (l:=l) hrow hev
 refine ⟨_,.c _ _ (.val _ Y),λw' hkp=>?_⟩
 have hb2:=cAv hkp hb (hU hs.mem.nodup)
 have hl:es.size=l.length:=by simpa using he.len
 unfold execOp
 simp only [ho,resolve,invoke,builtin,Sem.run_bind,Sem.run_pure,Result.andThen_ok,List.map_toArray,List.map_cons,List.map_nil,hs.val hx]
 simp [Builtin.len_,Builtin.lenOf,run_underlying ht,MapKept.run_getObj_map hb2,Result.andThen,hl,goInt]
theorem cAt{t kt et:TypeId}{x y z:Operand}{g:Nat}{k:ByteArray}{b:Int}(l:List (ByteArray×Int))(A:List bA){B:List bA}(ho:o.op=.mapUpdate t x y z)(hd:o.dst=none)(hx:evA ⟨n,T,⟨bx,A++cR3 g 0 evI l::B⟩,ts⟩ x=some (.c (Vm g)))(hy:evA ⟨n,T,⟨bx,A++cR3 g 0 evI l::B⟩,ts⟩ y=some (Cs k))(hz:evA ⟨n,T,⟨bx,A++cR3 g 0 evI l::B⟩,ts⟩ z=some (Ci b))
  (ht:P.underlying t=some (.map kt et)) (hk:P.underlying kt=some .string) (hT:g∈T) (hU:(⟨bx,A++cR3 g 0 evI l::B⟩:Sto).bl.Nodup -> g∈U) (h:K ⟨n,T,⟨bx,A++cR3 g 0 evI (bZq l k b)::B⟩,ts⟩):AO P U o ⟨n,T,⟨bx,A++cR3 g 0 evI l::B⟩,ts⟩ K:=
 cB5 (m:=0) (ev:=evI) l A ho hd hx hy hz rfl rfl cB9 (by rw [if_pos rfl];exact ⟨_,rfl⟩) ht hk hT hU h
theorem cCw{t kt et:TypeId}{x y z:Operand}{g:Nat}{k:ByteArray}{b:α}(l:List (ByteArray×α))(A:List bA){B:List bA}(ho:o.op=.mapUpdate t x y z)(hd:o.dst=none)(hx:evA ⟨n,T,⟨bx,A++cR3 g m ev l::B⟩,ts⟩ x=some (.c (Vm g)))(hy:evA ⟨n,T,⟨bx,A++cR3 g m ev l::B⟩,ts⟩ y=some (Cs k))(hz:evA ⟨n,T,⟨bx,A++cR3 g m ev l::B⟩,ts⟩ z=some (.agg (ev b)))(hm:m≠0)(hev:∀a,(ev a).length=m)
  (ht:P.underlying t=some (.map kt et)) (hk:P.underlying kt=some .string) (hT:g∈T) (hU:(⟨bx,A++cR3 g m ev l::B⟩:Sto).bl.Nodup -> g∈U) (h:K ⟨n,T,⟨bx,A++cR3 g m ev (bZq l k b)::B⟩,ts⟩):AO P U o ⟨n,T,⟨bx,A++cR3 g m ev l::B⟩,ts⟩ K:=
 cB5 (m:=m) (ev:=ev) l A ho hd hx hy hz rfl rfl Ca (by rw [if_neg hm];exact ⟨_,rfl,hev b⟩) ht hk hT hU h
theorem cBu{t kt et kt2:TypeId}{x y:Operand}{g:Nat}{k:ByteArray}(l:List (ByteArray×Int))(A:List bA){B:List bA}(ho:o.op=.call {callee:=.builtin .delete,args:=#[x,y],argTypes:=#[t,kt2]})(hd:o.dst=none)(hx:evA ⟨n,T,⟨bx,A++cR3 g 0 evI l::B⟩,ts⟩ x=some (.c (Vm g)))(hy:evA ⟨n,T,⟨bx,A++cR3 g 0 evI l::B⟩,ts⟩ y=some (Cs k))
  (ht:P.underlying t=some (.map kt et)) (hk:P.underlying kt=some .string) (hT:g∈T) (hU:(⟨bx,A++cR3 g 0 evI l::B⟩:Sto).bl.Nodup -> g∈U) (h:K ⟨n,T,⟨bx,A++cR3 g 0 evI (bZy l k)::B⟩,ts⟩):AO P U o ⟨n,T,⟨bx,A++cR3 g 0 evI l::B⟩,ts⟩ K:=
 cC8 (m:=0) (ev:=evI) l A ho hd hx hy rfl cB9 ht hk hT hU h
theorem cDv{Z:List Nat}{A B:List bA}{g:Nat}{l:List (ByteArray×α)}(hZ:∀z,z∈Z -> z∈bx.map Box.b)(hn:(⟨bx,A++cR3 g m ev l::B⟩:Sto).bl.Nodup):g∈lM ⟨bx,A++cR3 g m ev l::B⟩ Z:=by
 have h3:g∈(A++cR3 g m ev l::B).flatMap λr=>aY r.v:=by simp [bZw]
 refine kH.2 ⟨List.mem_append_right _ h3,λhz=>?_⟩
 exact (List.nodup_append.1 hn).2.2 g (hZ g hz) g h3 Y
end
end
section
abbrev Vis:=List (ByteArray×Int)
structure RS where
 vis:Vis
 n:Nat
 at_:Int
def cBh(v:Vis)(s:ByteArray):Nat:=if bZp v s=0 then 6 else if bZp v s=1 then 0 else 8
mutual
def bZ1(v:Vis):aH -> Nat
 |.mk op _ name args=>if op=2 then cBh v name else bZ0 v args
def bZ0(v:Vis):List aH -> Nat
 |[]=>0
 |e::r=>if bZ1 v e=0 then bZ0 v r else bZ1 v e
end
def cDo(v:Vis):List aH -> Nat
 |[]=>0
 |e::_=>bZ1 v e
def cAj(v:Vis)(r:cY):Bool:=(decide (bZp v r.name≠2) && decide (bZp v r.name≠3) && decide (bZp v r.name≠4))||(decide (bZp v r.name=3) != decide (0<r.index.length))
def cA3(v:Vis)(r:cY):Nat:=if bZp v r.name=0 then 6 else if cAj v r then 8 else if bZp v r.name=3 then cDo v r.index else 0
def cBb(v:Vis)(a:eN)(x:aS):Nat:=if a.mutex=x.mutex then (if a.mutex then cA3 v a.ref else bZ1 v a.expr) else 8
def bZ3(v:Vis):List eN -> List aS -> Nat
 |a::l,x::xs=>if cBb v a x=0 then bZ3 v l xs else cBb v a x
 |_,_=>0
abbrev Fns:=List (ByteArray×bS)
def cD1(v:Vis)(args:List eN):Option bS -> Nat
 |none=>0
 |some f=>if args.length=f.params.length then bZ3 v args f.params else 7
def cAx(v:Vis)(fs:Fns)(name:ByteArray)(args:List eN):Nat:=if bZp v name=0 then 6 else if bZp v name=5 then cD1 v args (bZu fs name) else 8
def bZ5(v:Vis)(fs:Fns)(s:aJ):Nat:=
 if s.kind=1 then (if bZp v s.name=0 then bZ1 v s.expr else 5)
 else if s.kind=2 then (if cBh v s.name=0 then bZ1 v s.expr else cBh v s.name)
 else if s.kind=5∨s.kind=6 then cA3 v s.ref
 else if s.kind=3∨s.kind=4 then cAx v fs s.name s.args
 else if s.kind=7∨s.kind=8 then bZ1 v s.expr else 0
def cA7(x:Nat×List ByteArray×RS):Nat×RS:=if x.1=0 then (0,⟨x.2.1.foldl bZy x.2.2.vis,x.2.2.n,x.2.2.at_⟩) else (x.1,x.2.2)
def cAy(s:aJ)(x:RS):RS:=⟨if s.kind=1 then bZq x.vis s.name 1 else x.vis,x.n+1,x.n⟩
def cCp(s:aJ)(own:List ByteArray):List ByteArray:=if s.kind=1 then own++[s.name] else own
mutual
def bZ4(fs:Fns):aJ -> RS -> Nat×RS
 |.mk k name e r args t f,x=>
  if bZ5 x.vis fs (.mk k name e r args t f)=0 then
   (if (cA7 (bZr fs t [] (cAy (.mk k name e r args t f) x))).1=0 then cA7 (bZr fs f [] (cA7 (bZr fs t [] (cAy (.mk k name e r args t f) x))).2) else cA7 (bZr fs t [] (cAy (.mk k name e r args t f) x)))
  else (bZ5 x.vis fs (.mk k name e r args t f),⟨x.vis,x.n+1,x.n⟩)
def bZr(fs:Fns):List aJ -> List ByteArray -> RS -> Nat×List ByteArray×RS
 |[],own,x=>(0,own,x)
 |s::l,own,x=>if (bZ4 fs s x).1=0 then bZr fs l (cCp s own) (bZ4 fs s x).2 else ((bZ4 fs s x).1,own,(bZ4 fs s x).2)
end
def bZ2(fs:Fns)(l:List aJ)(x:RS):Nat×RS:=cA7 (bZr fs l [] x)
theorem bZ9(fs:Fns)(s:aJ)(x:RS):bZ4 fs s x=if bZ5 x.vis fs s=0 then (if (bZ2 fs s.thn (cAy s x)).1=0 then bZ2 fs s.els (bZ2 fs s.thn (cAy s x)).2 else bZ2 fs s.thn (cAy s x)) else (bZ5 x.vis fs s,⟨x.vis,x.n+1,x.n⟩):=by
 obtain ⟨k,name,e,r,args,t,f⟩:=s
 rw [bZ4];rfl
def cAw(x:aS):Int:=if x.mutex then 4 else 1
def bZv:List aS -> Vis -> Bool×Vis
 |[],v=>(true,v)
 |x::r,v=>if bZp v x.name=0 then bZv r (bZq v x.name (cAw x)) else (false,v)
def cAk(l:List aS)(v:Vis):Vis:=l.foldl (λv x=>bZy v x.name) v
def cAe(fs:Fns)(f:bS)(v:Vis):Nat×RS:=
 if (bZv f.params v).1 then ((bZ2 fs f.body ⟨(bZv f.params v).2,0,-1⟩).1,⟨cAk f.params (bZ2 fs f.body ⟨(bZv f.params v).2,0,-1⟩).2.vis,(bZ2 fs f.body ⟨(bZv f.params v).2,0,-1⟩).2.n,(bZ2 fs f.body ⟨(bZv f.params v).2,0,-1⟩).2.at_⟩)
 else (5,⟨(bZv f.params v).2,0,-1⟩)
def cAg(fs:Fns):List bS -> Nat -> Vis -> Int×Int×Nat
 |[],_,_=>(0,0,0)
 |f::r,i,v=>if (cAe fs f v).1=0 then cAg fs r (i+1) (cAe fs f v).2.vis else (i,(cAe fs f v).2.at_,(cAe fs f v).1)
def bZz:List (ByteArray×Int) -> Vis -> Nat -> Option Nat×Vis
 |[],v,_=>(none,v)
 |p::r,v,n=>if bZp v p.1=0 then bZz r (bZq v p.1 p.2) (n+1) else (some n,v)
def cAr(m:cL):Int:=if 0<m.size then 3 else 2
def bZs(p:cK):List (ByteArray×Int):=p.globals.map (λg=>(g.name,1))++(p.mutexes.map (λm=>(m.name,cAr m))++p.funcs.map (λf=>(f.name,5)))
def bZ7(l:List bS):Fns:=l.foldl (λm f=>bZq m f.name f) []
def cCg:ByteArray:=⟨#[109,97,105,110]⟩
def cA9(p:cK):Bool:=match bZu (bZ7 p.funcs) cCg with
 |none=>false
 |some f=>decide (f.params.length=0)
def cAb(p:cK):Int×Int×Nat:=
 if jI p=false then (-1,-1,10) else
 match (bZz (bZs p) [] 0).1 with
 |some i=>(-1,i,5)
 |none=>if cA9 p then cAg (bZ7 p.funcs) p.funcs 0 (bZz (bZs p) [] 0).2 else (-1,-1,9)
theorem cBo{α:Type}(l:List (ByteArray×α))(k:ByteArray)(a:α)(s:ByteArray):bZu (bZq l k a) s=if k=s then some a else bZu l s:=by
 induction l with
 |nil=>
  unfold bZq bZu
  by_cases h:k=s
  ·rw [if_pos h,if_pos h]
  ·rw [if_neg h,if_neg h];rfl
 |cons p l ih=>
  unfold bZq
  by_cases h:p.1=k
  ·rw [if_pos h]
   unfold bZu
   by_cases hs:k=s
   ·rw [if_pos hs,if_pos hs]
   rw [if_neg hs,if_neg hs,if_neg (λh2=>hs (h▸h2))]
  rw [if_neg h]
  unfold bZu
  by_cases hs:p.1=s
  ·rw [if_pos hs,if_neg (λh2=>h (hs.trans h2.symm)),if_pos hs]
  rw [if_neg hs,ih,if_neg hs]
theorem put_eq{α:Type}(p:ByteArray×α)(l:List (ByteArray×α))(k:ByteArray)(a:α):bZq (p::l) k a=if p.1=k then (k,a)::l else p::bZq l k a:=rfl
theorem cEg{α:Type}(l:List (ByteArray×α))(k:ByteArray)(a b:α):bZq (bZq l k a) k b=bZq l k b:=by
 induction l with
 |nil=>show bZq [(k,a)] k b=[(k,b)];rw [put_eq,if_pos rfl]
 |cons p l ih=>
  rw [put_eq,put_eq]
  by_cases h:p.1=k
  ·rw [if_pos h,if_pos h,put_eq,if_pos rfl]
  rw [if_neg h,if_neg h,put_eq,if_neg h,ih]
def KN{α:Type}(l:List (ByteArray×α)):Prop:=(l.map (·.1)).Nodup
theorem cDx{α:Type}(l:List (ByteArray×α))(k:ByteArray)(a:α):∀s,s∈(bZq l k a).map (·.1) -> s=k∨s∈l.map (·.1):=by
 induction l with
 |nil=>intro s h;unfold bZq at h;simp at h;exact .inl h
 |cons p l ih=>
  intro s h
  unfold bZq at h
  split at h
  ·rename_i h2
   simp only [List.map_cons,mem_cons] at h⊢
   rcases h with h|h
   ·exact .inl h
   exact .inr (.inr h)
  simp only [List.map_cons,mem_cons] at h⊢
  rcases h with h|h
  ·exact .inr (.inl h)
  exact (ih s h).imp id .inr
theorem KN.put{α:Type}{l:List (ByteArray×α)}(h:KN l)(k:ByteArray)(a:α):KN (bZq l k a):=by
 induction l with
 |nil=>unfold bZq KN;simp
 |cons p l ih=>
  unfold KN at h
  simp only [List.map_cons,List.nodup_cons] at h
  unfold bZq
  split
  ·rename_i h2
   unfold KN
   simp only [List.map_cons,List.nodup_cons]
   exact ⟨by rw [←h2];exact h.1,h.2⟩
  rename_i h2
  have h3:=ih h.2
  unfold KN at h3⊢
  simp only [List.map_cons,List.nodup_cons]
  exact ⟨λhm=>(cDx l k a p.1 hm).elim h2 h.1,h3⟩
theorem cDk{α:Type}(l:List (ByteArray×α))(k:ByteArray):((bZy l k).map (·.1)).Sublist (l.map (·.1)):=by
 induction l with
 |nil=>exact .refl _
 |cons p l ih=>
  unfold bZy
  split
  ·exact List.sublist_cons_self _ _
  exact ih.cons_cons _
theorem KN.del{α:Type}{l:List (ByteArray×α)}(h:KN l)(k:ByteArray):KN (bZy l k):=(cDk l k).nodup h
theorem cC6{α:Type}{l:List (ByteArray×α)}{s:ByteArray}(h:s∉l.map (·.1)):bZu l s=none:=by
 induction l with
 |nil=>rfl
 |cons p l ih=>
  simp only [List.map_cons,mem_cons,not_or] at h
  unfold bZu;rw [if_neg (λh2=>h.1 h2.symm)];exact ih h.2
theorem cD9{α:Type}{l:List (ByteArray×α)}(h:KN l)(k s:ByteArray):bZu (bZy l k) s=if k=s then none else bZu l s:=by
 induction l with
 |nil=>unfold bZy bZu;split<;>rfl
 |cons p l ih=>
  unfold KN at h
  simp only [List.map_cons,List.nodup_cons] at h
  unfold bZy
  by_cases hp:p.1=k
  ·rw [if_pos hp]
   by_cases hs:k=s
   ·rw [if_pos hs];exact cC6 (by rw [←hs,←hp];exact h.1)
   rw [if_neg hs];conv=>rhs;unfold bZu
   rw [if_neg (λh2=>hs (hp▸h2))]
  rw [if_neg hp]
  unfold bZu
  by_cases hs:p.1=s
  ·rw [if_pos hs,if_neg (λh2=>hp (hs.trans h2.symm)),if_pos hs]
  rw [if_neg hs,ih h.2,if_neg hs]
theorem cAl(v:Vis)(k:ByteArray)(a:Int)(s:ByteArray):bZp (bZq v k a) s=if k=s then a else bZp v s:=by
 unfold bZp;rw [cBo];split<;>rfl
theorem cCs{v:Vis}(h:KN v)(k s:ByteArray):bZp (bZy v k) s=if k=s then 0 else bZp v s:=by
 unfold bZp;rw [cD9 h];split<;>rfl
def bZt(v:Vis)(fs:Fns):Prop:=KN v /\ ∀s,bZp v s=5 -> ∃f,bZu fs s=some f
theorem bZt.put{v:Vis}{fs:Fns}(h:bZt v fs)(k:ByteArray){a:Int}(ha:a≠5):bZt (bZq v k a) fs:=
 ⟨h.1.put k a,λs hs=>by
  rw [cAl] at hs
  split at hs
  ·exact absurd hs ha
  exact h.2 s hs⟩
theorem bZt.del{v:Vis}{fs:Fns}(h:bZt v fs)(k:ByteArray):bZt (bZy v k) fs:=
 ⟨h.1.del k,λs hs=>by
  rw [cCs h.1] at hs
  split at hs
  ·cases hs
  exact h.2 s hs⟩
theorem bZt.dels{fs:Fns}:∀(l:List ByteArray) {v:Vis},bZt v fs -> bZt (l.foldl bZy v) fs
 |[],_,h=>h
 |k::l,_,h=>bZt.dels l (h.del k)
theorem cB8{fs:Fns}{x:Nat×List ByteArray×RS}(h:bZt x.2.2.vis fs):bZt (cA7 x).2.vis fs:=by
 unfold cA7;split
 ·exact h.dels _
 exact h
theorem cD3{fs:Fns}{s:aJ}{x:RS}(h:bZt x.vis fs):bZt (cAy s x).vis fs:=by
 unfold cAy;dsimp only;split
 ·exact h.put _ V
 exact h
mutual
theorem cDw(fs:Fns):∀(s:aJ)(x:RS),bZt x.vis fs -> bZt (bZ4 fs s x).2.vis fs
 |.mk k name e r args t f,x,h=>by
  have h1:bZt (cA7 (bZr fs t [] (cAy (.mk k name e r args t f) x))).2.vis fs:=cB8 (cA6 fs t [] _ (cD3 h))
  rw [bZ4]
  split
  ·split
   ·exact cB8 (cA6 fs f [] _ h1)
   exact h1
  exact h
theorem cA6(fs:Fns):∀(l:List aJ)(own:List ByteArray)(x:RS),bZt x.vis fs -> bZt (bZr fs l own x).2.2.vis fs
 |[],_,_,h=>h
 |s::l,own,x,h=>by
  have h1:=cDw fs s x h
  rw [bZr]
  split
  ·exact cA6 fs l _ _ h1
  exact h1
end
theorem cAs{fs:Fns}{l:List aJ}{x:RS}(h:bZt x.vis fs):bZt (bZ2 fs l x).2.vis fs:=cB8 (cA6 fs l [] x h)
theorem cCd(x:Nat×List ByteArray×RS):(cA7 x).2.n=x.2.2.n:=by unfold cA7;split<;>rfl
theorem cEh(s:aJ)(x:RS):(cAy s x).n=x.n+1:=rfl
mutual
theorem cD0(fs:Fns):∀(s:aJ)(x:RS),(bZ4 fs s x).2.n <= x.n+s.wt
 |.mk k name e r args t f,x=>by
  have h1:=cBe fs t [] (cAy (.mk k name e r args t f) x)
  have h2:=cBe fs f [] (cA7 (bZr fs t [] (cAy (.mk k name e r args t f) x))).2
  rw [cCd] at h2
  rw [cEh] at h1
  rw [bZ4,aJ.wt]
  split
  ·split
   ·rw [cCd];omega
   rw [cCd];omega
  dsimp only;omega
theorem cBe(fs:Fns):∀(l:List aJ)(own:List ByteArray)(x:RS),(bZr fs l own x).2.2.n <= x.n+wtS l
 |[],_,_=>by rw [bZr,wtS];dsimp only;omega
 |s::l,own,x=>by
  have h1:=cD0 fs s x
  have h2:=cBe fs l (cCp s own) (bZ4 fs s x).2
  rw [bZr,wtS]
  split
  ·omega
  dsimp only;omega
end
theorem cBf(fs:Fns)(l:List aJ)(x:RS):(bZ2 fs l x).2.n <= x.n+wtS l:=by unfold bZ2;rw [cCd];exact cBe fs l [] x
end
section
structure MR (gs ms fs lk lo:Vis) (l:List cFc):Prop where
 lo:∀s,bZu lo s=(match cFa l s with|some v=>if v.kind=4 then some ((v.n:Nat):Int) else none|none=>none)
 lk:∀s,bZu lk s=(match cFa l s with|some v=>if v.kind=5 then some ((v.n:Nat):Int) else none|none=>none)
 gs:∀s v,cFa l s=some v -> v.kind=1 -> bZu gs s=some ((v.n:Nat):Int)
 ms:∀s v,cFa l s=some v -> v.kind=2 -> bZu ms s=some ((v.n:Nat):Int)
 fs:∀s v,cFa l s=some v -> v.kind=3 -> bZu fs s=some ((v.n:Nat):Int)
section
variable {gs ms fs lk lo:Vis}{l:List cFc}
theorem MR.lo_in(m:MR gs ms fs lk lo l){s:ByteArray}(h:(bZu lo s).isSome=true):∃n:Nat,bZp lo s=n /\ cFb l s=⟨(cFb l s).name,4,n⟩:=by
 have h1:=m.lo s
 unfold bZp cFb
 rcases h2:cFa l s with _|v
 ·rw [h2] at h1;rw [h1] at h;cases h
 rw [h2] at h1
 dsimp only at h1
 by_cases h3:v.kind=4
 ·rw [if_pos h3] at h1;rw [h1];exact ⟨v.n,rfl,by obtain ⟨a,b,c⟩:=v;cases h3;rfl⟩
 rw [if_neg h3] at h1;rw [h1] at h;cases h
theorem MR.gs_in(m:MR gs ms fs lk lo l){s:ByteArray}(h:(bZu lo s).isSome=false)(hv:cGq l s=0):∃n:Nat,bZp gs s=n /\ cFb l s=⟨(cFb l s).name,1,n⟩:=by
 have h1:=m.lo s
 unfold cGq at hv
 unfold bZp cFb
 rcases h2:cFa l s with _|v
 ·rw [h2] at hv;cases hv
 rw [h2] at h1 hv
 dsimp only at h1
 unfold cN1 at hv
 dsimp only at hv
 by_cases h3:v.kind=4
 ·rw [if_pos h3] at h1;rw [h1] at h;cases h
 by_cases h4:v.kind=1
 ·rw [m.gs s v h2 h4];exact ⟨v.n,rfl,by obtain ⟨a,b,c⟩:=v;cases h4;rfl⟩
 rw [if_neg J] at hv;cases hv
theorem MR.lo_name(m:MR gs ms fs lk lo l){s:ByteArray}(h:(bZu lo s).isSome=true):cJw l s=.mk 18 (bZp lo s) aK []:=by
 obtain ⟨n,h1,h2⟩:=m.lo_in h
 unfold cJw;rw [h2,h1];rfl
theorem MR.gs_name(m:MR gs ms fs lk lo l){s:ByteArray}(h:(bZu lo s).isSome=false)(hv:cGq l s=0):cJw l s=.mk 19 (bZp gs s) aK []:=by
 obtain ⟨n,h1,h2⟩:=m.gs_in h hv
 unfold cJw;rw [h2,h1];rfl
theorem MR.lk_ref(m:MR gs ms fs lk lo l){p:cK}{r:cY}(h:(bZu lk r.name).isSome=true)(hE:cGo p l r=0):∃n:Nat,bZp lk r.name=n /\ cG6 l r=⟨true,n,[]⟩:=by
 have h1:=m.lk r.name
 unfold cGo at hE
 unfold bZp cG6 cFb
 rcases h2:cFa l r.name with _|v
 ·rw [h2] at h1;rw [h1] at h;cases h
 rw [h2] at h1 hE
 dsimp only at h1
 by_cases h3:v.kind=5
 ·rw [if_pos h3] at h1
  have h4:cG3 p r.index.length (some v)=0:=by unfold cFj at hE;split at hE<;>assumption
  unfold cG3 at h4
  dsimp only at h4
  rw [if_pos (.inr h3),decide_eq_false (show ¬v.kind=2 by omega),Bool.false_and] at h4
  have h5:r.index=[]:=by
   cases hi:r.index with
   |nil=>rfl
   |cons a b=>rw [hi] at h4;simp at h4
  rw [h1,h5]
  exact ⟨v.n,Y,by show (⟨decide (v.kind=5),v.n,_⟩:cG5)=_;rw [decide_eq_true h3];rfl⟩
 rw [if_neg h3] at h1;rw [h1] at h;cases h
theorem cR7{a b:Nat}(h:cFj a b=0):a=0 /\ b=0:=by
 unfold cFj at h
 split at h
 ·exact ⟨Dp,h⟩
 omega
theorem MR.ms_ref(m:MR gs ms fs lk lo l){p:cK}{r:cY}(h:(bZu lk r.name).isSome=false)(hE:cGo p l r=0):∃n:Nat,bZp ms r.name=n /\ cG6 l r=⟨false,n,r.index.map (cFk l)⟩:=by
 have h1:=m.lk r.name
 have h0:=(cR7 hE).1
 unfold bZp cG6 cFb
 rcases h2:cFa l r.name with _|v
 ·rw [h2] at h0;cases h0
 rw [h2] at h1 h0
 dsimp only at h1
 by_cases h3:v.kind=5
 ·rw [if_pos h3] at h1;rw [h1] at h;cases h
 unfold cG3 at h0
 dsimp only at h0
 by_cases h4:v.kind=2
 ·rw [m.ms _ v h2 h4]
  exact ⟨v.n,Y,by show (⟨decide (v.kind=5),v.n,_⟩:cG5)=_;rw [decide_eq_false h3]⟩
 rw [if_neg J] at h0;cases h0
theorem cSr(l:List cFc):∀(r:List aH),cFq l r=0 -> ∀k (h:k<r.length),cFf l r[k]=0
 |e::r,h,0,_=>by rw [cFq] at h;exact (cR7 h).1
 |e::r,h,k+1,hk=>by rw [cFq] at h;exact cSr l r (cR7 h).2 k Cz
theorem cVh{p:cK}{r:cY}(hE:cGo p l r=0):∀k (h:k<r.index.length),cFf l r.index[k]=0:=cSr l r.index (cR7 hE).2
theorem cTz(p:cK)(l:List cFc):∀(r:List eN)(x:List aS),x.length=r.length -> cF8 p l r x=0 -> cGb r x=r /\ ∀k (h:k<r.length),cJh p l r[k]=0
 |[],[],_,_=>⟨rfl,λk h=>absurd h G0⟩
 |a::r,x::xs,hl,h=>by
  rw [cF8] at h
  rw [cGb]
  by_cases hm:a.mutex=x.mutex
  ·rw [if_pos hm] at h⊢
   obtain ⟨h1,h2⟩:=cR7 h
   obtain ⟨h3,h4⟩:=cTz p l r xs Dm h2
   refine ⟨by rw [h3],λk hk=>?_⟩
   cases k with
   |zero=>exact h1
   |succ k=>exact h4 k Cz
  rw [if_neg hm] at h;cases h
theorem MR.fs_call(m:MR gs ms fs lk lo l){p:cK}{s:aJ}(hE:cFy p l s=0):∃n:Nat,bZp fs s.name=n /\ cGn p l s=⟨if s.kind=4 then 3 else 2,n,false,.zero,plZ,cFn l s.args,cF4 l s.args⟩ /\ ∀k (h:k<s.args.length),cJh p l s.args[k]=0:=by
 unfold cFy at hE
 unfold bZp cGn
 rcases h2:cFa l s.name with _|v
 ·rw [h2] at hE;cases hE
 rw [h2] at hE
 unfold cHb at hE
 dsimp only at hE
 by_cases h3:v.kind=3
 ·rw [if_pos h3] at hE
  by_cases h4:(cGc p v.n).length=s.args.length
  ·rw [if_pos h4] at hE
   obtain ⟨h5,h6⟩:=cTz p l s.args _ h4 hE
   rw [m.fs _ v h2 h3]
   refine ⟨v.n,Y,?_,h6⟩
   unfold cG9
   dsimp only
   rw [if_pos h3,if_pos h4,h5]
  rw [if_neg h4] at hE;cases hE
 rw [if_neg h3] at hE;cases hE
end
end
section
open Go.RowKit
section
variable {P:Program}{U:List Nat}{o:Oper}{st:AS}
end
theorem bEj(x n:Int)(hn:0<n):∃k:Nat,x%n=k /\ (k:Int)<n:=
 ⟨(x%n).toNat,by have:=Int.emod_nonneg x (b:=n) J;omega,by have:=Int.emod_nonneg x (b:=n) J;have:=Int.emod_lt_of_pos x (b:=n) hn;omega⟩
theorem bEl(x n:Int)(k:Nat)(hn:0<n)(hn2:n <= 4611686018427387904)(hk:x%n=k)(s:Sto):aL prog 16 [Ci x,Ci n] [] s λr s'=>r=nI k /\ s'=s:=by
 have h:=aNz x n hn hn2 s
 rw [hk] at h
 exact h
end
end Go.Proofs.YtjgeihmhppadaaaGreatDoor
