import Derived.Test.YtjgeihmhppadaaaGreatDoorRG8J
set_option linter.all false
set_option synthInstance.maxHeartbeats 1000000
set_option synthInstance.maxSize 1000000
namespace Go.Proofs.YtjgeihmhppadaaaGreatDoor
open Go.Proofs.Tryz
open List (length_append length_cons length_nil mem_append mem_cons not_mem_nil append_assoc getElem_mem take_of_length_le)
section
open Go.RowKit
theorem tP{tabs:List UInt8}{s:aJ}(h:s.kind=1):bY tabs s=tabs++([118,97,114,32]++s.name.data.toList++[32,61,32]++aP s.expr++[59])++[10]:=by
 obtain ⟨kind,name,e,r,args,t,el⟩:=s
 obtain rfl:kind=1:=h
 rw [bY];rfl
theorem tT{tabs:List UInt8}{s:aJ}(h:s.kind=2):bY tabs s=tabs++(s.name.data.toList++[32,61,32]++aP s.expr++[59])++[10]:=by
 obtain ⟨kind,name,e,r,args,t,el⟩:=s
 obtain rfl:kind=2:=h
 rw [bY];rfl
theorem tZ{tabs:List UInt8}{s:aJ}(h:s.kind=3):bY tabs s=tabs++(s.name.data.toList++dF s.args++[59])++[10]:=by
 obtain ⟨kind,name,e,r,args,t,el⟩:=s
 obtain rfl:kind=3:=h
 rw [bY];rfl
theorem tH{tabs:List UInt8}{s:aJ}(h:s.kind=4):bY tabs s=tabs++([103,111,32]++s.name.data.toList++dF s.args++[59])++[10]:=by
 obtain ⟨kind,name,e,r,args,t,el⟩:=s
 obtain rfl:kind=4:=h
 rw [bY];rfl
theorem uD{tabs:List UInt8}{s:aJ}(h:s.kind=5):bY tabs s=tabs++([108,111,99,107,32]++dC s.ref++[59])++[10]:=by
 obtain ⟨kind,name,e,r,args,t,el⟩:=s
 obtain rfl:kind=5:=h
 rw [bY];rfl
theorem tI{tabs:List UInt8}{s:aJ}(h:s.kind=6):bY tabs s=tabs++([117,110,108,111,99,107,32]++dC s.ref++[59])++[10]:=by
 obtain ⟨kind,name,e,r,args,t,el⟩:=s
 obtain rfl:kind=6:=h
 rw [bY];rfl
theorem pU{tabs:List UInt8}{s:aJ}(h:s.kind=7):bY tabs s=tabs++([105,102,32]++aP s.expr++[32,123,10]++aC (tabs++[9]) s.thn++tabs++[125]++(if s.els.length=0 then [] else [32,101,108,115,101,32,123,10]++aC (tabs++[9]) s.els++tabs++[125]))++[10]:=by
 obtain ⟨kind,name,e,r,args,t,el⟩:=s
 obtain rfl:kind=7:=h
 rw [bY];rfl
theorem pV{tabs:List UInt8}{s:aJ}(h:s.kind=8):bY tabs s=tabs++([119,104,105,108,101,32]++aP s.expr++[32,123,10]++aC (tabs++[9]) s.thn++tabs++[125]++(if s.els.length=0 then [] else [32,101,108,115,101,32,123,10]++aC (tabs++[9]) s.els++tabs++[125]))++[10]:=by
 obtain ⟨kind,name,e,r,args,t,el⟩:=s
 obtain rfl:kind=8:=h
 rw [bY];rfl
theorem uB{tabs:List UInt8}{s:aJ}(h:¬s.kind=1 /\ ¬s.kind=2 /\ ¬s.kind=3 /\ ¬s.kind=4 /\ ¬s.kind=5 /\ ¬s.kind=6 /\ ¬s.kind=7 /\ ¬s.kind=8):bY tabs s=tabs++[114,101,116,117,114,110,59]++[10]:=by
 obtain ⟨kind,name,e,r,args,t,el⟩:=s
 obtain ⟨h1,h2,h3,h4,h5,h6,h7,h8⟩:=h
 simp only [aJ.kind] at h1 h2 h3 h4 h5 h6 h7 h8
 rw [bY,if_neg h1,if_neg h2,if_neg h3,if_neg h4,if_neg h5,if_neg h6,if_neg (λh=>h.elim h7 h8)]
theorem dX(tabs:List UInt8)(l:List aJ)(k:Nat)(hk:k<l.length):aC tabs (l.take (k+1))=aC tabs (l.take k)++bY tabs l[k]:=by
 rw [List.take_succ_eq_append_getElem hk,oX,aC,aC,List.append_nil]
theorem nQ(tabs:List UInt8):∀(l:List aJ)(k:Nat),(aC tabs (l.take k)).length <= (aC tabs l).length
 |[],k=>G0
 |s::l,0=>by rw [List.take_zero,aC];simp
 |s::l,k+1=>by have:=nQ tabs l k;rw [List.take_succ_cons,aC,aC,length_append,length_append];omega
structure OkS (D:Nat) (s:aJ):Prop where
 name:s.name.data.toList.length <= 4611686018427387904
 expr:(s.kind=1∨s.kind=2∨s.kind=7∨s.kind=8) -> eO s.expr=true
 ref:(s.kind=5∨s.kind=6) -> okRefB s.ref=true
 args:∀a,a∈s.args -> fY a=true
 thn:(s.kind=7∨s.kind=8) -> bM (D+1) s.thn=true
 els:s.els.length=0∨bM (D+1) s.els=true
 saneE:s.expr.sane
 saneR:s.ref.sane
 saneA:∀a,a∈s.args -> a.sane
 saneT:gC s.thn
 saneF:gC s.els
theorem aHv{D:Nat}{s:aJ}(hs:s.sane)(h:bK9 D s=true):OkS D s:=by
 obtain ⟨k,n,e,r,args,t,el⟩:=s
 rw [aJ.sane] at hs
 rw [bK9] at h
 obtain ⟨hn,he,hr,ha,ht,hel⟩:=hs
 simp only [Bool.and_eq_true,Bool.or_eq_true,decide_eq_true_eq] at h
 obtain ⟨⟨⟨⟨⟨⟨⟨h1,h2⟩,h3⟩,h4⟩,h5⟩,h6⟩,h7⟩,h8⟩:=h
 exact ⟨hn,λhp=>by
  have hp:k=1∨k=2∨k=7∨k=8:=hp
  rw [if_pos hp] at h3;exact kR h3,λhp=>by
  have hp:k=5∨k=6:=hp
  rwa [if_pos hp] at h4,List.all_eq_true.1 h6,λhp=>by
  have hp:k=7∨k=8:=hp
  rwa [if_pos hp] at h7,h8.imp id (λh=>h.2),he,hr,ha,ht,hel⟩
theorem kQ{α:Type}(f:α -> List UInt8)(l:List α)(k:Nat)(hk:k<l.length):((l.take (k+1)).map f).flatten=((l.take k).map f).flatten++f l[k]:=by
 rw [List.take_succ_eq_append_getElem hk,List.map_append,List.flatten_append];simp
theorem rO{α:Type}(f:α -> List UInt8):∀(l:List α)(k:Nat),(((l.take k).map f).flatten).length <= ((l.map f).flatten).length
 |[],k=>G0
 |x::l,0=>G0
 |x::l,k+1=>by have:=rO f l k;simp only [List.take_succ_cons,List.map_cons,List.flatten_cons,length_append];omega
def bS.wt(f:bS):Nat:=1+f.params.length+wtS f.body
def cK.wt(p:cK):Nat:=p.globals.length+p.mutexes.length+(p.funcs.map bS.wt).sum
theorem aDi{α:Type}(f:α -> Nat):∀(l:List α)(k:Nat)(h:k<l.length),f l[k] <= (l.map f).sum
 |x::l,0,_=>G0
 |x::l,k+1,h=>by have:=aDi f l k Er;simp only [List.map_cons,List.sum_cons,List.getElem_cons_succ];omega
theorem aDr{α:Type}(f:α -> Nat)(hf:∀x,1 <= f x):∀(l:List α),l.length <= (l.map f).sum
 |[]=>G0
 |x::l=>by have:=aDr f hf l;have:=hf x;simp only [List.map_cons,List.sum_cons,length_cons];omega
def nY(p:cK):Bool:=decide (p.globals.length <= 16 /\ p.mutexes.length <= 12 /\ p.funcs.length <= 16) && p.globals.all gH && p.mutexes.all fS && p.funcs.all gW
theorem nX(p:cK):jI p=(nY p && (iH (cR p)).isOk):=rfl
theorem aJv{p:cK}(h:nY p=true):∀f,f∈p.funcs -> bM 0 f.body=true /\ f.params.length <= 6:=by
 intro f hf
 unfold nY at h
 simp only [Bool.and_eq_true] at h
 have h2:=List.all_eq_true.1 h.2 f hf
 unfold gW at h2
 simp only [Bool.and_eq_true,decide_eq_true_eq] at h2
 exact ⟨h2.1.2,h2.1.1.2⟩
theorem wP(f:bS):funcText f=[102,117,110,99,32]++f.name.data.toList++[40]++bW bX f.params++[41,32,123,10]++aC [9] f.body++[125,10]:=rfl
theorem wR{x:aS}(h:x.mutex=true):bX x=[109,117,116,101,120,32]++x.name.data.toList:=by unfold bX;rw [if_pos h]
theorem xC{x:aS}(h:x.mutex=false):bX x=x.name.data.toList:=by unfold bX;rw [if_neg B5];rfl
theorem pS{z:Int}(h:fit z):(eH z).length <= 21:=by
 unfold eH
 have:=kC z.natAbs (by unfold fit at h;omega)
 split<;>simp<;>omega
end
section
abbrev Vis:=List (ByteArray×Int)
structure RS where
 vis:Vis
 n:Nat
 at_:Int
def cBh(v:Vis)(s:ByteArray):Nat:=if bZp v s=0 then 6 else if bZp v s=1 then 0 else 8
mutual
def bZ1(v:Vis):aH -> Nat
 |.mk op _ name args=>if op=2 then cBh v name else bZ0 v args
def bZ0(v:Vis):List aH -> Nat
 |[]=>0
 |e::r=>if bZ1 v e=0 then bZ0 v r else bZ1 v e
end
def cDo(v:Vis):List aH -> Nat
 |[]=>0
 |e::_=>bZ1 v e
def cAj(v:Vis)(r:cY):Bool:=(decide (bZp v r.name≠2) && decide (bZp v r.name≠3) && decide (bZp v r.name≠4))||(decide (bZp v r.name=3) != decide (0<r.index.length))
def cA3(v:Vis)(r:cY):Nat:=if bZp v r.name=0 then 6 else if cAj v r then 8 else if bZp v r.name=3 then cDo v r.index else 0
def cBb(v:Vis)(a:eN)(x:aS):Nat:=if a.mutex=x.mutex then (if a.mutex then cA3 v a.ref else bZ1 v a.expr) else 8
def bZ3(v:Vis):List eN -> List aS -> Nat
 |a::l,x::xs=>if cBb v a x=0 then bZ3 v l xs else cBb v a x
 |_,_=>0
abbrev Fns:=List (ByteArray×bS)
def cD1(v:Vis)(args:List eN):Option bS -> Nat
 |none=>0
 |some f=>if args.length=f.params.length then bZ3 v args f.params else 7
def cAx(v:Vis)(fs:Fns)(name:ByteArray)(args:List eN):Nat:=if bZp v name=0 then 6 else if bZp v name=5 then cD1 v args (bZu fs name) else 8
def bZ5(v:Vis)(fs:Fns)(s:aJ):Nat:=
 if s.kind=1 then (if bZp v s.name=0 then bZ1 v s.expr else 5)
 else if s.kind=2 then (if cBh v s.name=0 then bZ1 v s.expr else cBh v s.name)
 else if s.kind=5∨s.kind=6 then cA3 v s.ref
 else if s.kind=3∨s.kind=4 then cAx v fs s.name s.args
 else if s.kind=7∨s.kind=8 then bZ1 v s.expr else 0
def cA7(x:Nat×List ByteArray×RS):Nat×RS:=if x.1=0 then (0,⟨x.2.1.foldl bZy x.2.2.vis,x.2.2.n,x.2.2.at_⟩) else (x.1,x.2.2)
def cAy(s:aJ)(x:RS):RS:=⟨if s.kind=1 then bZq x.vis s.name 1 else x.vis,x.n+1,x.n⟩
def cCp(s:aJ)(own:List ByteArray):List ByteArray:=if s.kind=1 then own++[s.name] else own
mutual
def bZ4(fs:Fns):aJ -> RS -> Nat×RS
 |.mk k name e r args t f,x=>
  if bZ5 x.vis fs (.mk k name e r args t f)=0 then
   (if (cA7 (bZr fs t [] (cAy (.mk k name e r args t f) x))).1=0 then cA7 (bZr fs f [] (cA7 (bZr fs t [] (cAy (.mk k name e r args t f) x))).2) else cA7 (bZr fs t [] (cAy (.mk k name e r args t f) x)))
  else (bZ5 x.vis fs (.mk k name e r args t f),⟨x.vis,x.n+1,x.n⟩)
def bZr(fs:Fns):List aJ -> List ByteArray -> RS -> Nat×List ByteArray×RS
 |[],own,x=>(0,own,x)
 |s::l,own,x=>if (bZ4 fs s x).1=0 then bZr fs l (cCp s own) (bZ4 fs s x).2 else ((bZ4 fs s x).1,own,(bZ4 fs s x).2)
end
def bZ2(fs:Fns)(l:List aJ)(x:RS):Nat×RS:=cA7 (bZr fs l [] x)
theorem bZ9(fs:Fns)(s:aJ)(x:RS):bZ4 fs s x=if bZ5 x.vis fs s=0 then (if (bZ2 fs s.thn (cAy s x)).1=0 then bZ2 fs s.els (bZ2 fs s.thn (cAy s x)).2 else bZ2 fs s.thn (cAy s x)) else (bZ5 x.vis fs s,⟨x.vis,x.n+1,x.n⟩):=by
 obtain ⟨k,name,e,r,args,t,f⟩:=s
 rw [bZ4];rfl
def cAw(x:aS):Int:=if x.mutex then 4 else 1
def bZv:List aS -> Vis -> Bool×Vis
 |[],v=>(true,v)
 |x::r,v=>if bZp v x.name=0 then bZv r (bZq v x.name (cAw x)) else (false,v)
def cAk(l:List aS)(v:Vis):Vis:=l.foldl (λv x=>bZy v x.name) v
def cAe(fs:Fns)(f:bS)(v:Vis):Nat×RS:=
 if (bZv f.params v).1 then ((bZ2 fs f.body ⟨(bZv f.params v).2,0,-1⟩).1,⟨cAk f.params (bZ2 fs f.body ⟨(bZv f.params v).2,0,-1⟩).2.vis,(bZ2 fs f.body ⟨(bZv f.params v).2,0,-1⟩).2.n,(bZ2 fs f.body ⟨(bZv f.params v).2,0,-1⟩).2.at_⟩)
 else (5,⟨(bZv f.params v).2,0,-1⟩)
def cAg(fs:Fns):List bS -> Nat -> Vis -> Int×Int×Nat
 |[],_,_=>(0,0,0)
 |f::r,i,v=>if (cAe fs f v).1=0 then cAg fs r (i+1) (cAe fs f v).2.vis else (i,(cAe fs f v).2.at_,(cAe fs f v).1)
def bZz:List (ByteArray×Int) -> Vis -> Nat -> Option Nat×Vis
 |[],v,_=>(none,v)
 |p::r,v,n=>if bZp v p.1=0 then bZz r (bZq v p.1 p.2) (n+1) else (some n,v)
def cAr(m:cL):Int:=if 0<m.size then 3 else 2
def bZs(p:cK):List (ByteArray×Int):=p.globals.map (λg=>(g.name,1))++(p.mutexes.map (λm=>(m.name,cAr m))++p.funcs.map (λf=>(f.name,5)))
def bZ7(l:List bS):Fns:=l.foldl (λm f=>bZq m f.name f) []
def cCg:ByteArray:=⟨#[109,97,105,110]⟩
def cA9(p:cK):Bool:=match bZu (bZ7 p.funcs) cCg with
 |none=>false
 |some f=>decide (f.params.length=0)
def cAb(p:cK):Int×Int×Nat:=
 if jI p=false then (-1,-1,10) else
 match (bZz (bZs p) [] 0).1 with
 |some i=>(-1,i,5)
 |none=>if cA9 p then cAg (bZ7 p.funcs) p.funcs 0 (bZz (bZs p) [] 0).2 else (-1,-1,9)
theorem cBo{α:Type}(l:List (ByteArray×α))(k:ByteArray)(a:α)(s:ByteArray):bZu (bZq l k a) s=if k=s then some a else bZu l s:=by
 induction l with
 |nil=>
  unfold bZq bZu
  by_cases h:k=s
  ·rw [if_pos h,if_pos h]
  ·rw [if_neg h,if_neg h];rfl
 |cons p l ih=>
  unfold bZq
  by_cases h:p.1=k
  ·rw [if_pos h]
   unfold bZu
   by_cases hs:k=s
   ·rw [if_pos hs,if_pos hs]
   rw [if_neg hs,if_neg hs,if_neg (λh2=>hs (h▸h2))]
  rw [if_neg h]
  unfold bZu
  by_cases hs:p.1=s
  ·rw [if_pos hs,if_neg (λh2=>h (hs.trans h2.symm)),if_pos hs]
  rw [if_neg hs,ih,if_neg hs]
theorem put_eq{α:Type}(p:ByteArray×α)(l:List (ByteArray×α))(k:ByteArray)(a:α):bZq (p::l) k a=if p.1=k then (k,a)::l else p::bZq l k a:=rfl
theorem cEg{α:Type}(l:List (ByteArray×α))(k:ByteArray)(a b:α):bZq (bZq l k a) k b=bZq l k b:=by
 induction l with
 |nil=>show bZq [(k,a)] k b=[(k,b)];rw [put_eq,if_pos rfl]
 |cons p l ih=>
  rw [put_eq,put_eq]
  by_cases h:p.1=k
  ·rw [if_pos h,if_pos h,put_eq,if_pos rfl]
  rw [if_neg h,if_neg h,put_eq,if_neg h,ih]
def KN{α:Type}(l:List (ByteArray×α)):Prop:=(l.map (·.1)).Nodup
theorem cDx{α:Type}(l:List (ByteArray×α))(k:ByteArray)(a:α):∀s,s∈(bZq l k a).map (·.1) -> s=k∨s∈l.map (·.1):=by
 induction l with
 |nil=>intro s h;unfold bZq at h;simp at h;exact .inl h
 |cons p l ih=>
  intro s h
  unfold bZq at h
  split at h
  ·rename_i h2
   simp only [List.map_cons,mem_cons] at h⊢
   rcases h with h|h
   ·exact .inl h
   exact .inr (.inr h)
  simp only [List.map_cons,mem_cons] at h⊢
  rcases h with h|h
  ·exact .inr (.inl h)
  exact (ih s h).imp id .inr
theorem KN.put{α:Type}{l:List (ByteArray×α)}(h:KN l)(k:ByteArray)(a:α):KN (bZq l k a):=by
 induction l with
 |nil=>unfold bZq KN;simp
 |cons p l ih=>
  unfold KN at h
  simp only [List.map_cons,List.nodup_cons] at h
  unfold bZq
  split
  ·rename_i h2
   unfold KN
   simp only [List.map_cons,List.nodup_cons]
   exact ⟨by rw [←h2];exact h.1,h.2⟩
  rename_i h2
  have h3:=ih h.2
  unfold KN at h3⊢
  simp only [List.map_cons,List.nodup_cons]
  exact ⟨λhm=>(cDx l k a p.1 hm).elim h2 h.1,h3⟩
theorem cDk{α:Type}(l:List (ByteArray×α))(k:ByteArray):((bZy l k).map (·.1)).Sublist (l.map (·.1)):=by
 induction l with
 |nil=>exact .refl _
 |cons p l ih=>
  unfold bZy
  split
  ·exact List.sublist_cons_self _ _
  exact ih.cons_cons _
theorem KN.del{α:Type}{l:List (ByteArray×α)}(h:KN l)(k:ByteArray):KN (bZy l k):=(cDk l k).nodup h
theorem cC6{α:Type}{l:List (ByteArray×α)}{s:ByteArray}(h:s∉l.map (·.1)):bZu l s=none:=by
 induction l with
 |nil=>rfl
 |cons p l ih=>
  simp only [List.map_cons,mem_cons,not_or] at h
  unfold bZu;rw [if_neg (λh2=>h.1 h2.symm)];exact ih h.2
theorem cD9{α:Type}{l:List (ByteArray×α)}(h:KN l)(k s:ByteArray):bZu (bZy l k) s=if k=s then none else bZu l s:=by
 induction l with
 |nil=>unfold bZy bZu;split<;>rfl
 |cons p l ih=>
  unfold KN at h
  simp only [List.map_cons,List.nodup_cons] at h
  unfold bZy
  by_cases hp:p.1=k
  ·rw [if_pos hp]
   by_cases hs:k=s
   ·rw [if_pos hs];exact cC6 (by rw [←hs,←hp];exact h.1)
   rw [if_neg hs];conv=>rhs;unfold bZu
   rw [if_neg (λh2=>hs (hp▸h2))]
  rw [if_neg hp]
  unfold bZu
  by_cases hs:p.1=s
  ·rw [if_pos hs,if_neg (λh2=>hp (hs.trans h2.symm)),if_pos hs]
  rw [if_neg hs,ih h.2,if_neg hs]
theorem cAl(v:Vis)(k:ByteArray)(a:Int)(s:ByteArray):bZp (bZq v k a) s=if k=s then a else bZp v s:=by
 unfold bZp;rw [cBo];split<;>rfl
theorem cCs{v:Vis}(h:KN v)(k s:ByteArray):bZp (bZy v k) s=if k=s then 0 else bZp v s:=by
 unfold bZp;rw [cD9 h];split<;>rfl
def bZt(v:Vis)(fs:Fns):Prop:=KN v /\ ∀s,bZp v s=5 -> ∃f,bZu fs s=some f
theorem bZt.put{v:Vis}{fs:Fns}(h:bZt v fs)(k:ByteArray){a:Int}(ha:a≠5):bZt (bZq v k a) fs:=
 ⟨h.1.put k a,λs hs=>by
  rw [cAl] at hs
  split at hs
  ·exact absurd hs ha
  exact h.2 s hs⟩
theorem bZt.del{v:Vis}{fs:Fns}(h:bZt v fs)(k:ByteArray):bZt (bZy v k) fs:=
 ⟨h.1.del k,λs hs=>by
  rw [cCs h.1] at hs
  split at hs
  ·cases hs
  exact h.2 s hs⟩
theorem bZt.dels{fs:Fns}:∀(l:List ByteArray) {v:Vis},bZt v fs -> bZt (l.foldl bZy v) fs
 |[],_,h=>h
 |k::l,_,h=>bZt.dels l (h.del k)
theorem cB8{fs:Fns}{x:Nat×List ByteArray×RS}(h:bZt x.2.2.vis fs):bZt (cA7 x).2.vis fs:=by
 unfold cA7;split
 ·exact h.dels _
 exact h
theorem cD3{fs:Fns}{s:aJ}{x:RS}(h:bZt x.vis fs):bZt (cAy s x).vis fs:=by
 unfold cAy;dsimp only;split
 ·exact h.put _ V
 exact h
mutual
theorem cDw(fs:Fns):∀(s:aJ)(x:RS),bZt x.vis fs -> bZt (bZ4 fs s x).2.vis fs
 |.mk k name e r args t f,x,h=>by
  have h1:bZt (cA7 (bZr fs t [] (cAy (.mk k name e r args t f) x))).2.vis fs:=cB8 (cA6 fs t [] _ (cD3 h))
  rw [bZ4]
  split
  ·split
   ·exact cB8 (cA6 fs f [] _ h1)
   exact h1
  exact h
theorem cA6(fs:Fns):∀(l:List aJ)(own:List ByteArray)(x:RS),bZt x.vis fs -> bZt (bZr fs l own x).2.2.vis fs
 |[],_,_,h=>h
 |s::l,own,x,h=>by
  have h1:=cDw fs s x h
  rw [bZr]
  split
  ·exact cA6 fs l _ _ h1
  exact h1
end
theorem cAs{fs:Fns}{l:List aJ}{x:RS}(h:bZt x.vis fs):bZt (bZ2 fs l x).2.vis fs:=cB8 (cA6 fs l [] x h)
theorem cCd(x:Nat×List ByteArray×RS):(cA7 x).2.n=x.2.2.n:=by unfold cA7;split<;>rfl
theorem cEh(s:aJ)(x:RS):(cAy s x).n=x.n+1:=rfl
mutual
theorem cD0(fs:Fns):∀(s:aJ)(x:RS),(bZ4 fs s x).2.n <= x.n+s.wt
 |.mk k name e r args t f,x=>by
  have h1:=cBe fs t [] (cAy (.mk k name e r args t f) x)
  have h2:=cBe fs f [] (cA7 (bZr fs t [] (cAy (.mk k name e r args t f) x))).2
  rw [cCd] at h2
  rw [cEh] at h1
  rw [bZ4,aJ.wt]
  split
  ·split
   ·rw [cCd];omega
   rw [cCd];omega
  dsimp only;omega
theorem cBe(fs:Fns):∀(l:List aJ)(own:List ByteArray)(x:RS),(bZr fs l own x).2.2.n <= x.n+wtS l
 |[],_,_=>by rw [bZr,wtS];dsimp only;omega
 |s::l,own,x=>by
  have h1:=cD0 fs s x
  have h2:=cBe fs l (cCp s own) (bZ4 fs s x).2
  rw [bZr,wtS]
  split
  ·omega
  dsimp only;omega
end
theorem cBf(fs:Fns)(l:List aJ)(x:RS):(bZ2 fs l x).2.n <= x.n+wtS l:=by unfold bZ2;rw [cCd];exact cBe fs l [] x
end
section
open Go.RowKit
theorem bF8{P:Program}{ops:Array Oper}{Z:List Nat}{fuel:Nat}{listed:Array Bool}{n:Nat}{T:List Nat}{s:Sto}{ts:List (Nat×AT)}{K:AS -> Prop}(i:Nat){u t:AT}(hl:look ts i=some u)(hw:Wk u t)(h:lD P ops Z fuel listed ⟨n,T,s,(i,t)::ts⟩ K):lD P ops Z fuel listed ⟨n,T,s,ts⟩ K:=aO1 (aN9 (st:=⟨n,T,s,ts⟩) i hl hw) h
def bFm(x y:Int):Int:=IntKind.i64.wrap ((BitVec.ofInt IntKind.i64.bits x &&& BitVec.ofInt IntKind.i64.bits y).toNat)
section
variable {P:Program}{U:List Nat}{o:Oper}{st:AS}
theorem bFn{t yt:TypeId}{x y:Operand}{m n:Int}(ho:o.op=.binOp .and t x y yt)(hx:evA st x=some (Ci m))(hy:evA st y=some (Ci n)):AY P U o st (Ci (bFm m n)):=
 fW rfl λa w hs w'=>by
  simp only [execOp,ho,hs.val hx,hs.val hy]
  simp [go_sem,eqGuard,binOp,Op.intBits,bFm]
end
theorem bEj(x n:Int)(hn:0<n):∃k:Nat,x%n=k /\ (k:Int)<n:=
 ⟨(x%n).toNat,by have:=Int.emod_nonneg x (b:=n) J;omega,by have:=Int.emod_nonneg x (b:=n) J;have:=Int.emod_lt_of_pos x (b:=n) hn;omega⟩
theorem bEl(x n:Int)(k:Nat)(hn:0<n)(hn2:n <= 4611686018427387904)(hk:x%n=k)(s:Sto):aL prog 16 [Ci x,Ci n] [] s λr s'=>r=nI k /\ s'=s:=by
 have h:=aNz x n hn hn2 s
 rw [hk] at h
 exact h
end
end Go.Proofs.YtjgeihmhppadaaaGreatDoor
