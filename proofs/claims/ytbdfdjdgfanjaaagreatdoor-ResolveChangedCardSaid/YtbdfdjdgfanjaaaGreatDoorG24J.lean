import Derived.Test.YtbdfdjdgfanjaaaGreatDoorG23J
set_option linter.all false
set_option synthInstance.maxHeartbeats 1000000
set_option synthInstance.maxSize 1000000
set_option maxHeartbeats 1600000
set_option maxRecDepth 100000
namespace Go.Proofs.YtbdfdjdgfanjaaaGreatDoor
open Go.Proofs.Tryz
open List (length_append length_cons length_nil mem_append mem_cons not_mem_nil append_assoc getElem_mem take_of_length_le)
section
section
variable {p:cK}{fs:Fns}
theorem cKl:∀(ps:List aS)(v:Vis)(l:List cFc)(i m:Nat),cG7 p fs v l -> (cGd ps l i m=none -> (bZv ps v).1=false) /\ ∀l' i' m',cGd ps l i m=some (l',i',m') -> (bZv ps v).1=true /\ cG7 p fs (bZv ps v).2 l'
 |[],v,l,i,m,h=>by
  rw [cGd,bZv]
  exact ⟨λh=>DV,λl' i' m' e=>by cases e;exact ⟨rfl,h⟩⟩
 |x::r,v,l,i,m,h=>by
  rw [cGd,bZv,h.get x.name]
  rcases hf:cFa l x.name with _|y
  ·have hz:bZp v x.name=0:=by rw [h.get,hf];rfl
   rw [if_neg V,if_pos (show cH8 p none=0 from rfl)]
   by_cases hm:x.mutex=true
   ·rw [if_pos hm]
    have hs:cAw x=4:=if_pos hm
    rw [hs]
    exact cKl r _ _ i (m+1) (h.put (s:=x.name) (x:=⟨x.name,5,m⟩) (a:=4) hz Y (by unfold cFr;rfl) (by show (5:Int)≠3;decide))
   rw [if_neg hm]
   have hs:cAw x=1:=if_neg hm
   rw [hs]
   exact cKl r _ _ (i+1) m (h.put (s:=x.name) (x:=⟨x.name,4,i⟩) (a:=1) hz Y (by unfold cFr;rfl) Cu)
  rw [if_pos Fs,if_neg (show ¬cH8 p (some y)=0 from cGv p y)]
  exact ⟨λ_=>Y,λl' i' m' e=>by cases e⟩
theorem cIh:∀(ps:List aS)(v:Vis),KN v -> (bZv ps v).1=true -> KN (bZv ps v).2 /\ (∀x,x∈ps -> bZp v x.name=0) /\ ∀q,(∀x,x∈ps -> x.name≠q) -> bZp (bZv ps v).2 q=bZp v q
 |[],v,hk,_=>⟨hk,λx hx=>absurd hx not_mem_nil,λq _=>rfl⟩
 |x::r,v,hk,h=>by
  rw [bZv] at h⊢
  by_cases h0:bZp v x.name=0
  ·rw [if_pos h0] at h⊢
   obtain ⟨a1,a2,a3⟩:=cIh r _ (hk.put _ _) h
   refine ⟨a1,λy hy=>?_,λq hq=>?_⟩
   ·rcases mem_cons.1 hy with rfl|hy
    ·exact h0
    have h9:=a2 y hy
    rw [cAl] at h9
    split at h9
    ·unfold cAw at h9;split at h9<;>cases h9
    exact h9
   rw [a3 q λy hy=>hq y (List.mem_cons_of_mem _ hy),cAl,if_neg (hq x List.mem_cons_self)]
  rw [if_neg h0] at h;cases h
theorem cI7:∀(ps:List aS)(v:Vis),KN v -> KN (cAk ps v) /\ (∀x,x∈ps -> bZp (cAk ps v) x.name=0) /\ ∀q,(∀x,x∈ps -> x.name≠q) -> bZp (cAk ps v) q=bZp v q
 |[],v,h=>⟨h,λx hx=>absurd hx not_mem_nil,λs _=>rfl⟩
 |y::ps,v,h=>by
  obtain ⟨h1,h2,h3⟩:=cI7 ps (bZy v y.name) (h.del y.name)
  have e:cAk (y::ps) v=cAk ps (bZy v y.name):=Y
  refine ⟨h1,λx hx=>?_,λq hq=>?_⟩
  ·rw [e]
   by_cases hm:∃z,z∈ps /\ z.name=x.name
   ·obtain ⟨z,hz,hn⟩:=hm
    rw [←hn];exact h2 z hz
   rw [h3 _ (λz hz hn=>hm ⟨z,hz,hn⟩),cCs h]
   rcases mem_cons.1 hx with rfl|hx
   ·rw [if_pos rfl]
   exact absurd ⟨x,hx,Y⟩ hm
  rw [e,h3 q λz hz=>hq z (List.mem_cons_of_mem _ hz),cCs h,if_neg (hq y List.mem_cons_self)]
theorem cL4{f:bS}{v:Vis}(h:cG7 p fs v (cFd p))(hsh:cId f.body):(cAe fs f v).1=(cGk p f).1 /\ ((cAe fs f v).1≠0 -> (cAe fs f v).2.at_=(cGk p f).2) /\ ((cAe fs f v).1=0 -> cG7 p fs (cAe fs f v).2.vis (cFd p)):=by
 obtain ⟨p1,p2⟩:=cKl f.params v (cFd p) 0 0 h
 unfold cAe cGk
 rcases hq:cGd f.params (cFd p) 0 0 with _|⟨l,i,m⟩
 ·rw [p1 hq,if_neg V]
  exact ⟨Y,λ_=>Y,λh=>DV⟩
 obtain ⟨q1,q2⟩:=p2 l i m hq
 rw [q1,if_pos rfl]
 have he:cIc p fs ⟨(bZv f.params v).2,0,-1⟩ (LS.init l i):=⟨q2,Y,Y⟩
 have hb:Step p fs (bZ2 fs f.body ⟨(bZv f.params v).2,0,-1⟩).1 (bZ2 fs f.body ⟨(bZv f.params v).2,0,-1⟩).2 (cRs p f.body (LS.init l i)):=cHh (cHp f.body [] _ _ hsh he) he
 have hbq:(cJg p f l i).q=(cRs p f.body (LS.init l i)).q:=Y
 dsimp only
 rw [hbq]
 by_cases h0:(bZ2 fs f.body ⟨(bZv f.params v).2,0,-1⟩).1=0
 ·have hE:=hb.1 h0
  refine ⟨by rw [h0];exact hE.q.symm,λh=>absurd h0 h,λ_=>?_⟩
  obtain ⟨a1,a2,a3⟩:=cIh f.params v h.kn q1
  have h0':=h0
  unfold bZ2 at h0'
  rw [cHi] at h0'
  obtain ⟨b1,b2,b3⟩:=cGw fs f.body [] _ q2.kn h0'
  obtain ⟨c1,c2⟩:=cIf (fs:=fs) h0' b1 (λq hq=>(b2 q hq).resolve_left not_mem_nil) b3
  obtain ⟨d1,d2,d3⟩:=cI7 f.params _ c1
  refine h.same d1 λq=>?_
  by_cases hm:∃x,x∈f.params /\ x.name=q
  ·obtain ⟨x,hx,rfl⟩:=hm
   rw [a2 x hx];exact d2 x hx
  have hm':∀x,x∈f.params -> x.name≠q:=λx hx hn=>hm ⟨x,hx,hn⟩
  rw [←a3 q hm',←c2 q];exact d3 q hm'
 have hq2:=hb.2 h0
 rw [hq2]
 exact ⟨Y,λ_=>Y,λh=>absurd h h0⟩
theorem cKp:∀(l:List bS)(i:Nat)(v:Vis),cG7 p fs v (cFd p) -> (∀f,f∈l -> cId f.body) -> cAg fs l i v=cGh p l i
 |[],i,v,_,_=>rfl
 |f::r,i,v,h,hs=>by
  obtain ⟨b1,b2,b3⟩:=cL4 h (hs f List.mem_cons_self)
  rw [cAg,cGh,←b1]
  by_cases h0:(cAe fs f v).1=0
  ·rw [if_pos h0,if_pos h0];exact cKp r (i+1) _ (b3 h0) λg hg=>hs g (List.mem_cons_of_mem _ hg)
  rw [if_neg h0,if_neg h0,b2 h0]
end
theorem cLg{p:cK}:∀(es:List cFc)(v:Vis)(l:List cFc),KN v -> (∀s,bZp v s=cH8 p (cFa l s)) -> (∀i,cG0 l es=some i -> (bZz (es.map λx=>(x.name,cFr p x)) v l.length).1=some i) /\ (cG0 l es=none -> (bZz (es.map λx=>(x.name,cFr p x)) v l.length).1=none /\ KN (bZz (es.map λx=>(x.name,cFr p x)) v l.length).2 /\ ∀s,bZp (bZz (es.map λx=>(x.name,cFr p x)) v l.length).2 s=cH8 p (cFa (l++es) s))
 |[],v,l,hk,hg=>by
  rw [cG0]
  exact ⟨λi h=>DV,λ_=>⟨Y,hk,λs=>by rw [List.append_nil];exact hg s⟩⟩
 |x::es,v,l,hk,hg=>by
  rw [cG0,List.map_cons,bZz,hg x.name]
  rcases hf:cFa l x.name with _|y
  ·rw [if_neg V,if_pos (show cH8 p none=0 from rfl)]
   have hr:∀s,bZp (bZq v x.name (cFr p x)) s=cH8 p (cFa (l++[x]) s):=λs=>by
    rw [cAl,cGu]
    by_cases hq:x.name=s
    ·subst hq;rw [if_pos rfl,hf];dsimp only;rw [if_pos rfl];rfl
    rw [if_neg hq,hg s]
    rcases cFa l s with _|z
    ·dsimp only;rw [if_neg hq]
    rfl
   have h9:=cLg es _ (l++[x]) (hk.put _ _) hr
   rw [length_append,append_assoc] at h9
   exact h9
  rw [if_pos Fs,if_neg (show ¬cH8 p (some y)=0 from cGv p y)]
  exact ⟨λi h=>h,λh=>DV⟩
theorem cKv(p:cK):bZs p=(cFd p).map λx=>(x.name,cFr p x):=by
 unfold bZs cFd
 rw [List.map_append,List.map_append]
 congr 1
 ·apply List.ext_getElem
  ·simp
  intro i h1 h2;simp [cFr]
 congr 1
 ·apply List.ext_getElem
  ·simp
  intro i h1 h2
  simp only [List.length_map] at h1
  simp only [List.getElem_map,List.getElem_mapIdx]
  unfold cFr cAr
  rw [cGz h1];rfl
 apply List.ext_getElem
 ·simp
 intro i h1 h2;simp [cFr]
end
section
theorem cIt:∀{l:List cFc} {s:ByteArray} {v:cFc},cFa l s=some v -> v∈l /\ v.name=s
 |[],_,_,h=>DV
 |x::l,s,v,h=>by
  rw [cFa] at h;split at h
  ·rename_i hx;cases h;exact ⟨List.mem_cons_self,hx⟩
  exact ⟨List.mem_cons_of_mem _ (cIt h).1,(cIt h).2⟩
theorem cI6:∀{l:List cFc} {x:cFc},(l.map cFc.name).Nodup -> x∈l -> cFa l x.name=some x
 |[],_,_,h=>absurd h not_mem_nil
 |y::l,x,hd,h=>by
  simp only [List.map_cons,List.nodup_cons] at hd
  rw [cFa]
  rcases mem_cons.1 h with rfl|h
  ·rw [if_pos rfl]
  rw [if_neg (λe=>hd.1 (by rw [e];exact List.mem_map_of_mem h))];exact cI6 hd.2 h
theorem cIm:∀(es l:List cFc),cG0 l es=none -> (es.map cFc.name).Nodup /\ ∀x,x∈es -> cFa l x.name=none
 |[],l,_=>⟨G0,λx hx=>absurd hx not_mem_nil⟩
 |x::es,l,h=>by
  rw [cG0] at h
  rcases hf:cFa l x.name with _|y
  ·rw [hf,if_neg V] at h
   obtain ⟨h1,h2⟩:=cIm es _ h
   have h3:∀y,y∈es -> cFa l y.name=none /\ x.name≠y.name:=λy hy=>by
    have h9:=h2 y hy
    rw [cGu] at h9
    split at h9
    ·cases h9
    rename_i h8
    exact ⟨h8,λe=>by rw [if_pos e] at h9;cases h9⟩
   refine ⟨?_,λy hy=>?_⟩
   ·simp only [List.map_cons,List.nodup_cons]
    refine ⟨λhm=>?_,h1⟩
    obtain ⟨y,hy,e⟩:=List.mem_map.1 hm
    exact (h3 y hy).2 e.symm
   rcases mem_cons.1 hy with rfl|hy
   ·exact hf
   exact (h3 y hy).1
  rw [hf,if_pos Fs] at h;cases h
theorem cIy:∀(l:List bS)(m:Fns)(s:ByteArray),s∉l.map bS.name -> bZu (l.foldl (λm f=>bZq m f.name f) m) s=bZu m s
 |[],m,s,_=>rfl
 |f::l,m,s,h=>by
  simp only [List.map_cons,mem_cons,not_or] at h
  rw [List.foldl_cons,cIy l _ s h.2,cBo,if_neg (λe=>h.1 e.symm)]
theorem cJj:∀(l:List bS)(m:Fns),(l.map bS.name).Nodup -> ∀f,f∈l -> bZu (l.foldl (λm f=>bZq m f.name f) m) f.name=some f
 |[],_,_,f,h=>absurd h not_mem_nil
 |g::l,m,hd,f,h=>by
  simp only [List.map_cons,List.nodup_cons] at hd
  rw [List.foldl_cons]
  rcases mem_cons.1 h with rfl|h
  ·rw [cIy l _ _ hd.1,cBo,if_pos rfl]
  exact cJj l _ hd.2 f h
theorem cJx:∀(l:List bS)(m:Fns)(s:ByteArray)(f:bS),bZu (l.foldl (λm f=>bZq m f.name f) m) s=some f -> (f∈l /\ f.name=s)∨bZu m s=some f
 |[],m,s,f,h=>.inr h
 |g::l,m,s,f,h=>by
  rw [List.foldl_cons] at h
  rcases cJx l _ s f h with h|h
  ·exact .inl ⟨List.mem_cons_of_mem _ h.1,h.2⟩
  rw [cBo] at h
  split at h
  ·rename_i hg;cases h;exact .inl ⟨List.mem_cons_self,hg⟩
  exact .inr h
theorem cK7{p:cK}{x:cFc}(h:x∈cFd p)(h3:x.kind=3):∃(i:Nat) (hi:i<p.funcs.length),x=⟨p.funcs[i].name,3,i⟩:=by
 unfold cFd at h
 rcases mem_append.1 h with h|h
 ·obtain ⟨i,hi,rfl⟩:=List.mem_mapIdx.1 h
  exact absurd h3 (by show ¬(1:Int)=3;decide)
 rcases mem_append.1 h with h|h
 ·obtain ⟨i,hi,rfl⟩:=List.mem_mapIdx.1 h
  exact absurd h3 (by show ¬(2:Int)=3;decide)
 obtain ⟨i,hi,rfl⟩:=List.mem_mapIdx.1 h
 exact ⟨i,hi,Y⟩
theorem cK0{p:cK}{f:bS}(h:f∈p.funcs):∃i:Nat,(⟨f.name,3,i⟩:cFc)∈cFd p:=by
 obtain ⟨i,hi,rfl⟩:=List.getElem_of_mem h
 refine ⟨i,?_⟩
 unfold cFd
 exact List.mem_append_right _ (List.mem_append_right _ (List.mem_mapIdx.2 ⟨i,hi,Y⟩))
theorem cKg{p:cK}(h:((cFd p).map cFc.name).Nodup):(p.funcs.map bS.name).Nodup:=by
 unfold cFd at h
 rw [List.map_append,List.map_append] at h
 have h1:=(List.nodup_append.1 (List.nodup_append.1 h).2.1).2.1
 have e:(p.funcs.mapIdx λi f=>(⟨f.name,3,i⟩:cFc)).map cFc.name=p.funcs.map bS.name:=by
  apply List.ext_getElem
  ·simp
  intro i h1 h2;simp
 rw [e] at h1;exact h1
section
variable {p:cK}(hn:((cFd p).map cFc.name).Nodup)
include hn
theorem cKw(s:ByteArray)(x:cFc)(hf:cFa (cFd p) s=some x)(h3:x.kind=3):∃f,bZu (bZ7 p.funcs) s=some f /\ cGc p x.n=f.params:=by
 obtain ⟨h1,h2⟩:=cIt hf
 obtain ⟨i,hi,rfl⟩:=cK7 h1 h3
 refine ⟨p.funcs[i],?_,cHc hi⟩
 rw [←h2];exact cJj p.funcs [] (cKg hn) _ (getElem_mem hi)
theorem cLi(s:ByteArray)(h:∀x,cFa (cFd p) s=some x -> x.kind≠3):bZu (bZ7 p.funcs) s=none:=by
 rcases hl:bZu (bZ7 p.funcs) s with _|f
 ·rfl
 exfalso
 rcases cJx p.funcs [] s f hl with ⟨h1,h2⟩|h1
 ·obtain ⟨i,hi⟩:=cK0 h1
  have h9:=cI6 hn hi
  exact h _ (by rw [←h2];exact h9) Y
 cases h1
theorem cL8:cA9 p=cHa p:=by
 unfold cA9 cHa
 rw [show cCg=cFl from rfl]
 rcases hf:cFa (cFd p) cFl with _|x
 ·rw [cLi hn cFl (λx h=>by rw [hf] at h;cases h)]
 by_cases h3:x.kind=3
 ·obtain ⟨f,h1,h2⟩:=cKw hn cFl x hf h3
  rw [h1];dsimp only;rw [h2,decide_eq_true h3,Bool.true_and]
 rw [cLi hn cFl (λy h=>by rw [hf] at h;cases h;exact h3)];dsimp only;rw [decide_eq_false h3,Bool.false_and]
end
theorem cLp(p:cK):cAb p=cFx p:=by
 unfold cAb cFx
 by_cases hv:jI p=false
 ·rw [if_pos hv,if_pos hv]
 rw [if_neg hv,if_neg hv,cKv]
 obtain ⟨d1,d2⟩:=cLg (p:=p) (cFd p) [] [] (by unfold KN;simp) (λs=>rfl)
 rw [length_nil] at d1 d2
 rcases hb:cG0 [] (cFd p) with _|i
 ·obtain ⟨e1,e2,e3⟩:=d2 hb
  rw [e1];dsimp only
  obtain ⟨hn,-⟩:=cIm _ _ hb
  rw [cL8 hn]
  by_cases hm:cHa p=true
  ·rw [if_pos hm,if_pos hm]
   refine cKp p.funcs 0 _ ⟨e2,λs=>by rw [e3];rfl,cKw hn⟩ λf hf=>?_
   have hvt:jI p=true:=by simpa using hv
   rw [nX,Bool.and_eq_true] at hvt
   exact cJd 0 f.body (aJv hvt.1 f hf).1
  rw [if_neg hm,if_neg hm]
 rw [d1 i hb]
end
section
open Go.RowKit
theorem cLb(p:cK)(hs:p.sane)(hw:p.wt <= 9000000)(s:Sto):aL prog 15 [bK5 (.agg (jV p))] [] s λt s'=>t=Cb true /\ s'=s:=by
 obtain ⟨bx,rw⟩:=s
 refine acX 34 func15 ?_
 refine go 9 λb1=>?_
 refine wo Y (bMg 0 [] Y Y V call21 Y Y (cCm p hs hw _) bDl bDl (λ_=>bDl) ?_)
 rintro _ _ ⟨f,s0,e,hc,rfl,rfl⟩
 rw [cLp] at hc
 refine go 12 ?_
 refine wc0 Y call36 Y (cJo p hs hw _) ?_
 rintro _ _ ⟨rfl,rfl⟩
 rw [hc]
 dsimp only
 refine go 13 ?_
 refine wcp true Y (eR J) (go 3 ?_)
 refine wcp true Y (eR J) (go 4 ?_)
 refine wcp true Y (eR J) (go 5 ?_)
 exact bHe (s':=⟨bx,rw⟩) Y sb1 ⟨Y,Y⟩
abbrev SSt(A B:List Box)(rw:List bA)(S:Nat)(l:List Int)(i:Nat):Sto:=⟨A++⟨S,86,[.sl l.length (l.map λi=>Vi i),nC i]⟩::B,rw⟩
theorem aTv(l:List Int)(n:Nat)(s:Sto):aL prog 33 [.c (.sl l.length (l.map λi=>Vi i)),nI n] [] s λr s'=>r=.c (.sl (l.take n).length ((l.take n).map λi=>Vi i)) /\ s'=s:=by
 obtain ⟨bx,rw⟩:=s
 refine acX 13 func33 ?_
 refine go 11 ?_
 by_cases hlt:n<l.length
 ·refine wcp true Y FT (go 7 ?_)
  refine wyz Y (aGm (h:=(l.take n).length) (z:=1) Y Y Y Gl Gl B6 B6 sizeOf3 (by rw [List.length_take,Nat.min_eq_left J,Nat.mul_one,←List.map_take])) (go 5 ?_)
  exact bHe (s':=⟨bx,rw⟩) Y sb0 ⟨Y,Y⟩
 rw [take_of_length_le (l:=l) (i:=n) J]
 refine wcp false Y FS (go 12 ?_)
 exact bHe (s':=⟨bx,rw⟩) Y sb0 ⟨Y,Y⟩
theorem aC2(A B:List Box)(rw:List bA)(S:Nat)(l:List Int)(i0:Nat)(n:Int)(hi0:i0 <= l.length)(hl:l.length <= 1000000)(hn0:0<n)(hn1:n <= 4611686018427387904):aL prog 34 [pP S,Ci n] [S] (SSt A B rw S l i0) λr s=>∃(z:Int) (i:Nat),r=Ci z /\ 0 <= z /\ z<n /\ i <= l.length /\ s=SSt A B rw S l i:=by
 refine acX 35 func34 ?_
 refine go 7 ?_
 refine dx [S] (tz [(0,true),(1,true),(2,true),(3,true),(4,true),(5,true),(6,true),(7,true),(8,true)] 1 (go 10 ?_))
 refine tx 9 Y (bO _ Y Y Y Y) ?_
 refine ax (go 1 ?_)
 refine gY Y (λhc1=>?_) (λhc1=>?_)
 ·have hge:l.length <= i0:=by simpa using hc1
  refine go 7 ?_
  exact bHe (s':=SSt A B rw S l i0) Y sb0 ⟨0,i0,Y,J,hn0,hi0,Y⟩
 have hlt:i0<l.length:=by simpa using hc1
 refine go 8 ?_
 refine wad Y (go 6 ?_)
 refine dx [S] (tz [(0,true),(1,true),(2,true),(3,true),(4,true),(5,true),(6,true),(7,true)] 6 (go 9 ?_))
 refine tx 8 Y (cI ((i0:Nat):Int)) ?_
 refine tx 9 Y (rT (λi=>Vi i) l i0 Y Y Y Y hlt runUnderlying22 sizeOf3) (tz [(10,true),(11,true)] 2 (go 3 ?_))
 refine ox 12 Y Y (bD [] call17 (aNz _ _ hn0 hn1 _) bDl bDl (λ_=>bDl) ?_)
 rintro rj sj ⟨rfl,rfl⟩
 refine tz [(13,true)] 0 (go 2 ?_)
 refine ax (go 2 ?_)
 exact bHe (s':=SSt A B rw S l (i0+1)) Y sb0 ⟨l[i0]%n,i0+1,Y,Int.emod_nonneg _ J,Int.emod_lt_of_pos _ hn0,hlt,Y⟩
theorem vH(A B:List Box)(rw:List bA)(S:Nat)(l:List Int)(i0:Nat)(hi0:i0 <= l.length)(hl:l.length <= 1000000):aL prog 119 [pP S] [S] (SSt A B rw S l i0) λr s=>∃(z:Int) (i:Nat),r=Ci z /\ 0 <= z /\ z<4611686018427387904 /\ i <= l.length /\ s=SSt A B rw S l i:=by
 refine acX 10 func119 ?_
 refine go 9 ?_
 refine wo Y (bD (ho:=Y) (has:=Y) [S] call34 (aC2 A _ _ _ l i0 _ hi0 hl V V) (bDj) (bDj (h:=by simp [Sto.bl])) (λ_=>bDj) ?_)
 rintro r1 s1 ⟨z1,i1,rfl,hz1,hy1,hi1,rfl⟩
 refine wyz Y (bO _ Y Y Y Y) (go 2 ?_)
 refine gY Y (λhc1=>?_) (λhc1=>?_)
 ·refine go 3 ?_
  refine wo Y (bD (ho:=Y) (has:=Y) [S] call34 (aC2 A _ _ _ l i1 _ hi1 hl V V) (bDj) (bDj (h:=by simp [Sto.bl])) (λ_=>bDj) ?_)
  rintro r2 s2 ⟨z2,i2,rfl,hz2,hy2,hi2,rfl⟩
  refine go 5 ?_
  exact bHe (s':=SSt A B rw S l i2) Y sb0 ⟨z2,i2,Y,hz2,J,hi2,Y⟩
 refine go 5 ?_
 refine wo Y (bD (ho:=Y) (has:=Y) [S] call34 (aC2 A _ _ _ l i1 _ hi1 hl V V) (bDj) (bDj (h:=by simp [Sto.bl])) (λ_=>bDj) ?_)
 rintro r2 s2 ⟨z2,i2,rfl,hz2,hy2,hi2,rfl⟩
 refine go 4 ?_
 exact bHe (s':=SSt A B rw S l i2) Y sb0 ⟨z2,i2,Y,hz2,J,hi2,Y⟩
end
section
inductive eT (names:List ByteArray):Nat -> aH -> Prop
 |name {d:Nat} {x:ByteArray} (h:x∈names):eT names d (.mk 2 0 x [])
 |num {d:Nat} {n:Int} (h0:0 <= n) (h1:n<4611686018427387904):eT names d (.mk 1 n aK [])
 |un {d:Nat} {op:Int} {e:aH} (ho:op=3∨op=4) (he:eT names d e):eT names (d+1) (.mk op 0 aK [e])
 |bin {d:Nat} {op:Int} {a b:aH} (h0:5 <= op) (h1:op <= 17) (ha:eT names d a) (hb:eT names d b):eT names (d+1) (.mk op 0 aK [a,b])
theorem eT.mono{names:List ByteArray}{d d':Nat}{e:aH}(h:eT names d e)(hd:d <= d'):eT names d' e:=by
 induction h generalizing d' with
 |name h=>exact .name h
 |num h0 h1=>exact .num h0 h1
 |@un d op e ho he ih=>
  obtain ⟨k,rfl⟩:∃k,d'=k+1:=⟨d'-1,J⟩
  exact .un ho (ih J)
 |@bin d op a b h0 h1 ha hb iha ihb=>
  obtain ⟨k,rfl⟩:∃k,d'=k+1:=⟨d'-1,J⟩
  exact .bin h0 h1 (iha J) (ihb J)
inductive uA (ms:List cL) (ps:List aS) (vars:List ByteArray):cY -> Prop
 |arr {m:cL} {e:aH} (hm:m∈ms) (hs:0<m.size) (he:eT vars 1 e):uA ms ps vars ⟨m.name,[e]⟩
 |scalar {m:cL} (hm:m∈ms) (hs:m.size <= 0):uA ms ps vars ⟨m.name,[]⟩
 |param {x:aS} (hx:x∈ps) (hm:x.mutex=true):uA ms ps vars ⟨x.name,[]⟩
inductive nB (ms:List cL) (ps:List aS) (vars:List ByteArray):List aS -> List eN -> Prop
 |nil:nB ms ps vars [] []
 |mutex {x:aS} {l:List aS} {asl:List eN} {r:cY} (hx:x.mutex=true) (hr:uA ms ps vars r) (h:nB ms ps vars l asl):nB ms ps vars (x::l) (⟨true,r,.zero⟩::asl)
 |expr {x:aS} {l:List aS} {asl:List eN} {e:aH} (hx:x.mutex=false) (he:eT vars 2 e) (h:nB ms ps vars l asl):nB ms ps vars (x::l) (⟨false,.zero,e⟩::asl)
def cM(left:Nat):ByteArray:=bytes [118,UInt8.ofNat (97+left%26),UInt8.ofNat (97+left/26%26)]
abbrev Sig:=ByteArray×List aS
inductive dJ (ms:List cL) (fs:List Sig) (ps:List aS):List ByteArray -> Nat -> Nat -> List aJ -> Nat -> Prop
 |nil {vars:List ByteArray} {deep left:Nat}:dJ ms fs ps vars deep left [] left
 |lock {vars:List ByteArray} {deep left left':Nat} {r:cY} {rest:List aJ} (hr:uA ms ps vars r) (h:dJ ms fs ps vars deep left rest left'):
   dJ ms fs ps vars deep (left+1) (.mk 5 aK .zero r [] [] []::rest) left'
 |unlock {vars:List ByteArray} {deep left left':Nat} {r:cY} {rest:List aJ} (hr:uA ms ps vars r) (h:dJ ms fs ps vars deep left rest left'):
   dJ ms fs ps vars deep (left+1) (.mk 6 aK .zero r [] [] []::rest) left'
 |var {vars:List ByteArray} {deep left left':Nat} {e:aH} {rest:List aJ} (he:eT vars 2 e) (h:dJ ms fs ps (vars++[cM left]) deep left rest left'):
   dJ ms fs ps vars deep (left+1) (.mk 1 (cM left) e .zero [] [] []::rest) left'
 |assign {vars:List ByteArray} {deep left left':Nat} {x:ByteArray} {e:aH} {rest:List aJ} (hx:x∈vars) (he:eT vars 2 e) (h:dJ ms fs ps vars deep left rest left'):
   dJ ms fs ps vars deep (left+1) (.mk 2 x e .zero [] [] []::rest) left'
 |call {vars:List ByteArray} {deep left left':Nat} {k:Int} {g:Sig} {asl:List eN} {rest:List aJ} (hk:k=3∨k=4) (hg:g∈fs) (ha:nB ms ps vars g.2 asl) (h:dJ ms fs ps vars deep left rest left'):
   dJ ms fs ps vars deep (left+1) (.mk k g.1 .zero .zero asl [] []::rest) left'
 |cond {vars:List ByteArray} {deep left l1 l2 left':Nat} {e:aH} {thn els rest:List aJ} (he:eT vars 2 e) (ht:dJ ms fs ps vars deep left thn l1) (hel:dJ ms fs ps vars deep l1 els l2) (h:dJ ms fs ps vars (deep+1) l2 rest left'):
   dJ ms fs ps vars (deep+1) (left+1) (.mk 7 aK e .zero [] thn els::rest) left'
 |loop {vars:List ByteArray} {deep left l1 left':Nat} {e:aH} {thn rest:List aJ} (he:eT vars 2 e) (ht:dJ ms fs ps vars deep left thn l1) (h:dJ ms fs ps vars (deep+1) l1 rest left'):
   dJ ms fs ps vars (deep+1) (left+1) (.mk 8 aK e .zero [] thn []::rest) left'
 |ret {vars:List ByteArray} {deep left left':Nat} {rest:List aJ} (h:dJ ms fs ps vars deep left rest left'):
   dJ ms fs ps vars deep (left+1) (.mk 9 aK .zero .zero [] [] []::rest) left'
 |pair {vars:List ByteArray} {deep left l1 left':Nat} {r:cY} {mid rest:List aJ} (hr:uA ms ps vars r) (hm:dJ ms fs ps vars 0 left mid l1) (h:dJ ms fs ps vars deep l1 rest left'):
   dJ ms fs ps vars deep (left+1) (.mk 5 aK .zero r [] [] []::(mid++.mk 6 aK .zero r [] [] []::rest)) left'
theorem dJ.le{ms:List cL}{fs:List Sig}{ps:List aS}{vars:List ByteArray}{deep left left':Nat}{l:List aJ}(h:dJ ms fs ps vars deep left l left'):left' <= left:=by
 induction h<;>omega
def aDx(i:Nat)(m:cL):Prop:=m.name=bytes [UInt8.ofNat (97+i)] /\ ((m.reentrant=false /\ 0 <= m.size /\ m.size <= 3)∨(m.reentrant=true /\ m.size=0))
def aDa(i:Nat)(g:aI):Prop:=g.name=bytes [103,UInt8.ofNat (48+i)] /\ -2 <= g.init /\ g.init <= 2
def pM(l:List aS):Prop:=l.length <= 2 /\ ∀k (h:k<l.length),l[k].name=bytes [112,UInt8.ofNat (48+(l.length-k))]
def aMn(i:Nat)(f:bS):Prop:=(i=0 -> f.name=bytes [109,97,105,110] /\ f.params=[]) /\ (0<i -> f.name=bytes [102,UInt8.ofNat (48+i)]) /\ pM f.params
def bS.sig(f:bS):Sig:=(f.name,f.params)
def uS(gs:List aI)(ps:List aS):List ByteArray:=gs.map aI.name++(ps.filter λx=>!x.mutex).map aS.name
inductive kZ (ms:List cL) (fs:List Sig) (gs:List aI):Nat -> List bS -> Prop
 |nil {left:Nat}:kZ ms fs gs left []
 |cons {left left':Nat} {f:bS} {l:List bS} (h:dJ ms fs f.params (uS gs f.params) 2 left f.body left') (hl:kZ ms fs gs left' l):kZ ms fs gs left (f::l)
structure sY (p:cK):Prop where
 mutexes:1 <= p.mutexes.length /\ p.mutexes.length <= 4 /\ ∀k (h:k<p.mutexes.length),aDx k p.mutexes[k]
 globals:p.globals.length <= 2 /\ ∀k (h:k<p.globals.length),aDa k p.globals[k]
 funcs:1 <= p.funcs.length /\ p.funcs.length <= 4 /\ ∀k (h:k<p.funcs.length),aMn k p.funcs[k]
 bodies:kZ p.mutexes (p.funcs.map bS.sig) p.globals 24 p.funcs
end
section
open Go.RowKit
theorem eC(A B:List Box)(rw:List bA)(S:Nat)(l:List Int)(i0:Nat)(n:Int)(hi0:i0 <= l.length)(hl:l.length <= 1000000)(hn0:0<n)(hn1:n <= 4611686018427387904):aL prog 34 [pP S,Ci n] [S] (SSt A B rw S l i0) λr s=>∃(z:Nat) (i:Nat),r=nI z /\ (z:Int)<n /\ i <= l.length /\ s=SSt A B rw S l i:=
 (aC2 A B rw S l i0 n hi0 hl hn0 hn1).mono λr s ⟨z,i,h1,h2,h3,h4,h5⟩=>⟨z.toNat,i,h1.trans (congrArg (λx=>AT.c (Vi x)) (Int.toNat_of_nonneg h2).symm),by rw [Int.toNat_of_nonneg h2];exact h3,h4,h5⟩
abbrev gP(RA:List bA)(nv:Value)(names:List ByteArray)(rw:List bA):List bA:=RA++⟨nv,9,1,names.length,bP names⟩::rw
theorem aNv{P:Program}{U:List Nat}{o:Oper}{st:AS}{E yt:TypeId}{x y:Operand}{m:Nat}(r:Nat)(ho:o.op=.binOp .rem E x y yt)(hx:evA st x=some (nI m))(hy:evA st y=some (Ci 2))(hr:m%2=r):AY P U o st (nI r):=by
 subst hr
 exact aG3 ho hx hy V Y
theorem yU(A B:List Box)(RA rw:List bA)(nv:Value)(S:Nat)(l:List Int)(i0:Nat)(names:List ByteArray)(d:Nat)(hi0:i0 <= l.length)(hl:l.length <= 1000000)(hnl:names.length <= 1000000)(hd:d <= 100)(ih:d≠0 -> ∀(A:List Box)(i:Nat),i <= l.length -> aL prog 94 [pP S,Cv nv,Ci ((d-1:Nat):Int)] [S] (SSt A B (gP RA nv names rw) S l i) (λr s=>∃(e:aH) (i:Nat),r=.agg (cU e) /\ eT names (d-1) e /\ i <= l.length /\ s=SSt A B (gP RA nv names rw) S l i)):aL prog 94 [pP S,Cv nv,nI d] [S] (SSt A B (gP RA nv names rw) S l i0) (λr s=>∃(e:aH) (i:Nat),r=.agg (cU e) /\ eT names (d) e /\ i <= l.length /\ s=SSt A B (gP RA nv names rw) S l i):=by
 refine acX 64 func94 ?_
 refine go 8 λb1=>?_
 refine wo Y (bD (ho:=Y) (has:=Y) [S] call34 (eC (_::A) _ _ _ l i0 _ hi0 hl V V) (bDj) (bDj (h:=by simp [Sto.bl])) (λ_=>bDj) ?_)
 rintro r1 s1 ⟨z1,i1,rfl,hy1,hi1,rfl⟩
 refine go 8 ?_
 by_cases hd0:d=0
 ·refine wcp true Y FT (go 12 ?_)
  refine wyz Y (kV RA Y Y Y runUnderlying33) ?_
  by_cases hn0:0<names.length
  focus
   refine wcp true Y FT (go 2 ?_)
   refine wo Y (bD (ho:=Y) (has:=Y) [S] call34 (eC (_::A) _ _ _ l i1 _ hi1 hl V V) (bDj) (bDj (h:=by simp [Sto.bl])) (λ_=>bDj) ?_)
   rintro r9 s29 ⟨z7,i7,rfl,hy7,hi7,rfl⟩
   by_cases hz21:z7=1
   ·refine wcp true Y FT (go 9 ?_)
    refine wyz Y (kV RA Y Y Y runUnderlying33) ?_
    refine wo Y (bD (ho:=Y) (has:=Y) [S] call34 (eC (_::A) _ _ _ l i7 _ hi7 hl J J) (bDj) (bDj (h:=by simp [Sto.bl])) (λ_=>bDj) ?_)
    rintro r2 s2 ⟨z2,i2,rfl,hy2,hi2,rfl⟩
    have hj2:z2<names.length:=J
    refine aF1 RA J λg cap hg=>?_
    subst hg
    refine wyz Y (dH z2 Y Y Y Y hj2 runUnderlying33 sizeOf9) ?_
    refine wyz Y (rM RA isAgg9 sizeOf9 (rB names _ hj2)) (go 8 ?_)
    exact ⟨.inr Y,_,SSt A B (gP RA _ names rw) S l i2,(eK (Wk.agg (.r (.r (.r (.n .nil))))) (aR Y (aO [] Y Y isAgg65 sizeOf65 (bK Y Y)))),aA (.cons _ (.refl _)) (.refl _),⟨(.mk 2 0 names[z2] []),i2,Y,(.name (getElem_mem hj2)),hi2,Y⟩⟩
   refine wcp false Y FS (go 9 ?_)
   refine wo Y (bD [S] call119 (vH (_::A) _ _ _ l i7 hi7 hl) (bDj) (bDj (h:=by simp [Sto.bl])) (λ_=>bDj) ?_)
  rotate_left
  refine wcp false Y FS (go 13 ?_)
  refine wo Y (bD [S] call119 (vH (_::A) _ _ _ l i1 hi1 hl) (bDj) (bDj (h:=by simp [Sto.bl])) (λ_=>bDj) ?_)
  all_goals
   rintro r2 s2 ⟨z2,i2,rfl,hz2,hy2,hi2,rfl⟩
   refine go 7 ?_
   exact ⟨.inr Y,_,SSt A B (gP RA _ names rw) S l i2,(eK (Wk.agg (.r (.r (.r (.n .nil))))) (aR Y (aO [] Y Y isAgg65 sizeOf65 (bK Y Y)))),aA (.cons _ (.refl _)) (.refl _),⟨(.mk 1 z2 aK []),i2,Y,(.num hz2 hy2),hi2,Y⟩⟩
 refine wcp false Y FS (go 2 ?_)
 by_cases hz2:z1<2
 ·refine wcp true Y FT (go 9 ?_)
  refine wyz Y (kV RA Y Y Y runUnderlying33) ?_
  by_cases hn0:0<names.length
  focus
   refine wcp true Y FT (go 2 ?_)
   refine wo Y (bD (ho:=Y) (has:=Y) [S] call34 (eC (_::A) _ _ _ l i1 _ hi1 hl V V) (bDj) (bDj (h:=by simp [Sto.bl])) (λ_=>bDj) ?_)
   rintro r9 s29 ⟨z7,i7,rfl,hy7,hi7,rfl⟩
   by_cases hz21:z7=1
   ·refine wcp true Y FT (go 9 ?_)
    refine wyz Y (kV RA Y Y Y runUnderlying33) ?_
    refine wo Y (bD (ho:=Y) (has:=Y) [S] call34 (eC (_::A) _ _ _ l i7 _ hi7 hl J J) (bDj) (bDj (h:=by simp [Sto.bl])) (λ_=>bDj) ?_)
    rintro r2 s2 ⟨z2,i2,rfl,hy2,hi2,rfl⟩
    have hj2:z2<names.length:=J
    refine aF1 RA J λg cap hg=>?_
    subst hg
    refine wyz Y (dH z2 Y Y Y Y hj2 runUnderlying33 sizeOf9) ?_
    refine wyz Y (rM RA isAgg9 sizeOf9 (rB names _ hj2)) (go 8 ?_)
    exact ⟨.inr Y,_,SSt A B (gP RA _ names rw) S l i2,(eK (Wk.agg (.r (.r (.r (.n .nil))))) (aR Y (aO [] Y Y isAgg65 sizeOf65 (bK Y Y)))),aA (.cons _ (.refl _)) (.refl _),⟨(.mk 2 0 names[z2] []),i2,Y,(.name (getElem_mem hj2)),hi2,Y⟩⟩
   refine wcp false Y FS (go 9 ?_)
   refine wo Y (bD [S] call119 (vH (_::A) _ _ _ l i7 hi7 hl) (bDj) (bDj (h:=by simp [Sto.bl])) (λ_=>bDj) ?_)
  rotate_left
  refine wcp false Y FS (go 13 ?_)
  refine wo Y (bD [S] call119 (vH (_::A) _ _ _ l i1 hi1 hl) (bDj) (bDj (h:=by simp [Sto.bl])) (λ_=>bDj) ?_)
  all_goals
   rintro r2 s2 ⟨z2,i2,rfl,hz2,hy2,hi2,rfl⟩
   refine go 7 ?_
   exact ⟨.inr Y,_,SSt A B (gP RA _ names rw) S l i2,(eK (Wk.agg (.r (.r (.r (.n .nil))))) (aR Y (aO [] Y Y isAgg65 sizeOf65 (bK Y Y)))),aA (.cons _ (.refl _)) (.refl _),⟨(.mk 1 z2 aK []),i2,Y,(.num hz2 hy2),hi2,Y⟩⟩
 refine wcp false Y FS (go 8 ?_)
 by_cases hz4:z1<4
 ·refine wcp true Y FT (go 7 ?_)
  refine wyz Y (aNv (z1%2) Y Y Y Y) ?_
  refine wad Y (go 3 ?_)
  refine wyz Y (cI ((d-1:Nat):Int)) ?_
  refine wo Y (bD [S] call94 (ih hd0 (_::A) i1 hi1) (bDj) (bDj (h:=by simp [Sto.bl])) (λ_=>bDj) ?_)
  rintro r2 s2 ⟨x2,i2,rfl,hm2,hi2,rfl⟩
  refine wo Y (bDk (hf:=aV fO cU x2 (fP _) Y Y) bHf ?_)
  refine go 7 ?_
  exact ⟨.inr Y,_,SSt A B (gP RA _ names rw) S l i2,(eK (Wk.agg (.r (.r (.r (.r .nil))))) (aR Y (aO [] Y Y isAgg65 sizeOf65 (bK Y Y)))),aA (.cons _ (.refl _)) (.refl _),⟨(.mk (3+((z1%2:Nat):Int)) 0 aK [x2]),i2,Y,(by obtain ⟨d',rfl⟩:∃d',d=d'+1:=⟨d-1,J⟩;exact .un J hm2),hi2,Y⟩⟩
 refine wcp false Y FS (go 10 ?_)
 refine wo Y (bD (ho:=Y) (has:=Y) [S] call34 (eC (_::A) _ _ _ l i1 _ hi1 hl V V) (bDj) (bDj (h:=by simp [Sto.bl])) (λ_=>bDj) ?_)
 rintro r2 s2 ⟨z2,i2,rfl,hy2,hi2,rfl⟩
 refine wad Y (go 3 ?_)
 refine wyz Y (cI ((d-1:Nat):Int)) ?_
 refine wo Y (bD [S] call94 (ih hd0 (_::A) i2 hi2) (bDj) (bDj (h:=by simp [Sto.bl])) (λ_=>bDj) ?_)
 rintro r3 s3 ⟨x3,i3,rfl,hm3,hi3,rfl⟩
 refine go 3 ?_
 refine wyz Y (cI ((d-1:Nat):Int)) ?_
 refine wo Y (bD [S] call94 (ih hd0 (_::A) i3 hi3) (bDj) (bDj (h:=by simp [Sto.bl])) (λ_=>bDj) ?_)
 rintro r4 s4 ⟨x4,i4,rfl,hm4,hi4,rfl⟩
 refine wo Y (bDk (hps:=(.cons Y (.cons Y .nil))) (hf:=aEp fO cU x3 x4 fP Y (λ_=>Y)) bDu ?_)
 refine go 5 ?_
 exact ⟨.inr Y,_,SSt A B (gP RA _ names rw) S l i4,(eK (Wk.agg (.r (.r (.r (.r .nil))))) (aR Y (aO [] Y Y isAgg65 sizeOf65 (bK Y Y)))),aA (.cons _ (.refl _)) (.refl _),⟨(.mk (5+((z2:Nat):Int)) 0 aK [x3,x4]),i4,Y,(by obtain ⟨d',rfl⟩:∃d',d=d'+1:=⟨d-1,J⟩;exact .bin J J hm3 hm4),hi4,Y⟩⟩
theorem xZ(B:List Box)(RA rw:List bA)(nv:Value)(S:Nat)(l:List Int)(names:List ByteArray)(hl:l.length <= 1000000)(hnl:names.length <= 1000000):∀(d:Nat),d <= 100 -> ∀(A:List Box)(i:Nat),i <= l.length -> aL prog 94 [pP S,Cv nv,nI d] [S] (SSt A B (gP RA nv names rw) S l i) (λr s=>∃(e:aH) (i:Nat),r=.agg (cU e) /\ eT names (d) e /\ i <= l.length /\ s=SSt A B (gP RA nv names rw) S l i)
 |0,hd,A,i,hi=>yU A B RA rw nv S l i names 0 hi hl hnl hd (λh=>absurd rfl h)
 |d+1,hd,A,i,hi=>yU A B RA rw nv S l i names (d+1) hi hl hnl hd (λ_ A i hi=>xZ B RA rw nv S l names hl hnl d J A i hi)
theorem aM1(A B:List Box)(RA rw:List bA)(nv:Value)(S W:Nat)(l:List Int)(i0:Nat)(names:List ByteArray)(G M F:AC)(left:Int)(ar:Bool)(size:Int)(hs0:0<size)(hs1:size <= 4611686018427387904)(hi0:i0 <= l.length)(hl:l.length <= 1000000)(hnl:names.length <= 1000000):aL prog 93 [pP W,Cv nv,Ci size] [S] (SSt A (⟨W,88,[.val (.pointer (some ⟨S,0,none⟩)),G,M,F,Vi left,Vb ar]⟩::B) (gP RA nv names rw) S l i0) (λr s=>∃(e:aH) (i:Nat),r=.agg (cU e) /\ eT names 1 e /\ i <= l.length /\ s=SSt A (⟨W,88,[.val (.pointer (some ⟨S,0,none⟩)),G,M,F,Vi left,Vb ar]⟩::B) (gP RA nv names rw) S l i):=by
 cases ar
 ·refine acX 32 func93 ?_
  refine go 32 λb1=>?_
  refine wo Y (bD [S] call34 (eC (_::A) _ _ _ l i0 _ hi0 hl hs0 hs1) (bDj) (bDj (h:=by simp [Sto.bl])) (λ_=>bDj) ?_)
  rintro r1 s1 ⟨z1,i1,rfl,hy1,hi1,rfl⟩
  refine go 5 ?_
  exact ⟨.inr Y,_,SSt A (⟨W,88,[.val (.pointer (some ⟨S,0,none⟩)),G,M,F,Vi left,Vb false]⟩::B) (gP RA nv names rw) S l i1,(eK (Wk.agg (.r (.r (.r (.n .nil))))) (aR Y (aO [] Y Y isAgg65 sizeOf65 (bK Y Y)))),aA (.cons _ (.refl _)) (.refl _),⟨.mk 1 z1 aK [],i1,Y,.num J J,hi1,Y⟩⟩
 refine acX 32 func93 ?_
 refine go 17 λb1=>?_
 refine wo Y (bD (ho:=Y) (has:=Y) [S] call34 (eC (_::A) _ _ _ l i0 _ hi0 hl V V) (bDj) (bDj (h:=by simp [Sto.bl])) (λ_=>bDj) ?_)
 rintro r1 s1 ⟨z1,i1,rfl,hy1,hi1,rfl⟩
 by_cases hz1:z1=1
 ·refine wcp true Y FT (go 11 ?_)
  refine wo Y (bD (ho:=Y) (has:=Y) [S] call94 (xZ _ RA _ _ S l names hl hnl 1 Gz (_::A) i1 hi1) (bDj) (bDj (h:=by simp [Sto.bl])) (λ_=>bDj) ?_)
  rintro r2 s2 ⟨x2,i2,rfl,hm2,hi2,rfl⟩
  refine go 5 ?_
  exact ⟨.inr Y,_,SSt A (⟨W,88,[.val (.pointer (some ⟨S,0,none⟩)),G,M,F,Vi left,Vb true]⟩::B) (gP RA nv names rw) S l i2,(aR Y (aO [] Y Y isAgg65 sizeOf65 (bK Y Y))),aA (.cons _ (.refl _)) (.refl _),⟨x2,i2,Y,hm2,hi2,Y⟩⟩
 refine wcp false Y FS (go 13 ?_)
 refine wo Y (bD [S] call34 (eC (_::A) _ _ _ l i1 _ hi1 hl hs0 hs1) (bDj) (bDj (h:=by simp [Sto.bl])) (λ_=>bDj) ?_)
 rintro r2 s2 ⟨z2,i2,rfl,hy2,hi2,rfl⟩
 refine go 5 ?_
 exact ⟨.inr Y,_,SSt A (⟨W,88,[.val (.pointer (some ⟨S,0,none⟩)),G,M,F,Vi left,Vb true]⟩::B) (gP RA nv names rw) S l i2,(eK (Wk.agg (.r (.r (.r (.n .nil))))) (aR Y (aO [] Y Y isAgg65 sizeOf65 (bK Y Y)))),aA (.cons _ (.refl _)) (.refl _),⟨.mk 1 z2 aK [],i2,Y,.num J J,hi2,Y⟩⟩
theorem pQ(A B:List Box)(RA rw:List bA)(nv:Value)(S W:Nat)(l:List Int)(i0:Nat)(names:List ByteArray)(G M F:AC)(left:Int)(ar:Bool)(hi0:i0 <= l.length)(hl:l.length <= 1000000)(hnl:names.length <= 1000000):aL prog 62 [pP W,Cv nv] [S] (SSt A (⟨W,88,[.val (.pointer (some ⟨S,0,none⟩)),G,M,F,Vi left,Vb ar]⟩::B) (gP RA nv names rw) S l i0) (λr s=>∃(e:aH) (i:Nat),r=.agg (cU e) /\ eT names 2 e /\ i <= l.length /\ s=SSt A (⟨W,88,[.val (.pointer (some ⟨S,0,none⟩)),G,M,F,Vi left,Vb ar]⟩::B) (gP RA nv names rw) S l i):=by
 cases ar
 ·refine acX 28 func62 ?_
  refine go 23 λb1=>?_
  refine wo Y (bD (ho:=Y) (has:=Y) [S] call94 (xZ _ RA _ _ S l names hl hnl 0 Gz (_::A) i0 hi0) (bDj) (bDj (h:=by simp [Sto.bl])) (λ_=>bDj) ?_)
  rintro r1 s1 ⟨x1,i1,rfl,hm1,hi1,rfl⟩
  refine go 5 ?_
  exact ⟨.inr Y,_,SSt A (⟨W,88,[.val (.pointer (some ⟨S,0,none⟩)),G,M,F,Vi left,Vb false]⟩::B) (gP RA nv names rw) S l i1,(aR Y (aO [] Y Y isAgg65 sizeOf65 (bK Y Y))),aA (.cons _ (.refl _)) (.refl _),⟨x1,i1,Y,(hm1.mono J),hi1,Y⟩⟩
 refine acX 28 func62 ?_
 refine go 19 λb1=>?_
 refine dx [W] (tz [(0,true),(1,true),(2,true),(3,true),(4,true),(5,true),(6,true),(7,true),(8,true)] 4 (go 10 ?_))
 refine ox 9 Y Y (bD (ho:=Y) (has:=Y) [S] call34 (eC (_::A) _ _ _ l i0 _ hi0 hl V V) Gg FU FR ?_)
 rintro r1 s1 ⟨z1,i1,rfl,hy1,hi1,rfl⟩
 refine tx 10 Y (bB Y Y Y J J) ?_
 refine ox 11 Y Y (bD (ho:=Y) (has:=Y) [S] call94 (xZ _ RA _ _ S l names hl hnl (1+z1) Gz (_::A) i1 hi1) Gg FU FR ?_)
 rintro r2 s2 ⟨x2,i2,rfl,hm2,hi2,rfl⟩
 refine tz [(12,false)] 0 (go 2 ?_)
 refine ax (go 2 ?_)
 exact ⟨.inr Y,_,SSt A (⟨W,88,[.val (.pointer (some ⟨S,0,none⟩)),G,M,F,Vi left,Vb true]⟩::B) (gP RA nv names rw) S l i2,(aR Y (aO [] Y Y isAgg65 sizeOf65 (bK Y Y))),aA (.cons _ (.refl _)) (.refl _),⟨x2,i2,Y,(hm2.mono J),hi2,Y⟩⟩
end
section
def iZ(ms:List cL):List ByteArray:=ms.map cL.name
def jB(ps:List aS):List ByteArray:=(ps.map λx=>if x.mutex then [x.name,x.name] else []).flatten
theorem aDs(ms:List cL)(k:Nat)(h:k<ms.length):iZ (ms.take (k+1))=iZ (ms.take k)++[ms[k].name]:=by
 rw [List.take_succ_eq_append_getElem h,iZ,List.map_append];rfl
theorem vX(ps:List aS)(k:Nat)(h:k<ps.length):jB (ps.take (k+1))=jB (ps.take k)++(if ps[k].mutex then [ps[k].name,ps[k].name] else []):=by
 rw [List.take_succ_eq_append_getElem h,jB,List.map_append,List.flatten_append];simp [jB]
theorem xK:∀(ps:List aS),(jB ps).length <= 2*ps.length
 |[]=>by simp [jB]
 |x::r=>by
  have:=xK r
  simp only [jB,List.map_cons,List.flatten_cons,length_append,length_cons] at this⊢
  split<;>(simp only [length_cons,length_nil];omega)
theorem aE4(ps:List aS)(n:ByteArray)(h:n∈jB ps):∃x,x∈ps /\ x.mutex=true /\ x.name=n:=by
 simp only [jB,List.mem_flatten,List.mem_map] at h
 obtain ⟨l,⟨x,hx,rfl⟩,hn⟩:=h
 cases hm:x.mutex with
 |true=>rw [hm] at hn;simp at hn;exact ⟨x,hx,hm,hn.symm⟩
 |false=>rw [hm] at hn;simp at hn
end
section
open Go.RowKit
theorem aI7{ms:List cL}{ps:List aS}{vars:List ByteArray}{n:ByteArray}(h:n∈jB ps):uA ms ps vars ⟨n,[]⟩:=by
 obtain ⟨x,hx,hxm,rfl⟩:=aE4 ps _ h
 exact .param hx hxm
theorem rG(A B:List Box)(RA rw:List bA)(vv:Value)(S W:Nat)(l:List Int)(i0:Nat)(ms:List cL)(ps:List aS)(vars:List ByteArray)(fn:ByteArray)(G F FB:AC)(left:Int)(ar:Bool)(hi0:i0 <= l.length)(hl:l.length <= 1000000)(hm1:1 <= ms.length)(hm2:ms.length <= 1000)(hmz:∀m,m∈ms -> m.size <= 1000)(hp2:ps.length <= 1000)(hvl:vars.length <= 1000000):aL prog 61 [pP W,.agg [Vs fn,Sq cP ps,FB],Cv vv] [S] (SSt A (⟨W,88,[.val (.pointer (some ⟨S,0,none⟩)),G,(Sq bT ms),F,Vi left,Vb ar]⟩::B) (gP RA vv vars rw) S l i0) (λr s=>∃(f:cY) (i:Nat),r=.agg (encR f) /\ uA ms ps vars f /\ i <= l.length /\ s=SSt A (⟨W,88,[.val (.pointer (some ⟨S,0,none⟩)),G,(Sq bT ms),F,Vi left,Vb ar]⟩::B) (gP RA vv vars rw) S l i):=by
 refine acX 107 func61 ?_
 refine go 18 λb1 b2=>?_
 refine qR 9 1 ?_
 refine fM (λg:Nat×Value×List ByteArray=>(⟨107,aY g.2.1++[b2,b1,S],⟨⟨b2,135,[Vs ⟨#[]⟩,Nl]⟩::⟨b1,62,[Vs fn,Sq cP ps,FB]⟩::(A++⟨S,86,[.sl l.length (l.map λi=>Vi i),nC i0]⟩::⟨W,88,[.val (.pointer (some ⟨S,0,none⟩)),G,(Sq bT ms),F,Vi left,Vb ar]⟩::B),⟨g.2.1,9,1,g.2.2.length,bP g.2.2⟩::(gP RA vv vars rw)⟩,[(8,nI g.1),(7,Cv g.2.1),(0,pP W),(2,Cv vv),(4,pP b1),(6,pP b2)]⟩:AS)) (λg=>g.1 <= ms.length /\ g.2.2=iZ (ms.take g.1)) (λg=>ms.length-g.1) (0,.slice none 0 0,[]) (cQf Cc) ⟨Nat.zero_le _,Y⟩ ?_
 rintro ⟨k,v,acc⟩ ⟨hk,hacc⟩
 dsimp only at hk hacc
 show AWp prog _ (⟨107,aY v++[b2,b1,S],⟨⟨b2,135,[Vs ⟨#[]⟩,Nl]⟩::⟨b1,62,[Vs fn,Sq cP ps,FB]⟩::(A++⟨S,86,[.sl l.length (l.map λi=>Vi i),nC i0]⟩::⟨W,88,[.val (.pointer (some ⟨S,0,none⟩)),G,(Sq bT ms),F,Vi left,Vb ar]⟩::B),⟨v,9,1,acc.length,bP acc⟩::(gP RA vv vars rw)⟩,[(8,nI k),(7,Cv v),(0,pP W),(2,Cv vv),(4,pP b1),(6,pP b2)]⟩:AS) _
 have hal:acc.length=k:=by rw [hacc,iZ,List.length_map,List.length_take];omega
 refine go 10 ?_
 by_cases hlt:k<ms.length
 ·refine wcp true Y FT (go 15 ?_)
  refine wyz Y (bH bT bT ms mZ (λ_=>Y) k Y Y Y Y J V runUnderlying24 sizeOf77) (go 2 ?_)
  refine wo Y (bDk (r:=bP [ms[k].name]) cRt ?_)
  refine wo Y (bDm [] bDv Y Y V B1 J (@length_append _ acc [ms[k].name]).symm Bo Bq (List.map_append (f:=λx=>AC.val (.string x))).symm λv1=>?_)
  refine go 6 ?_
  refine wad Y (go 2 ?_)
  refine ⟨(k+1,v1,acc++[ms[k].name]),⟨J,by rw [aDs ms k hlt,hacc]⟩,by show ms.length-(k+1)<ms.length-k;omega,cQf Dr⟩
 refine wcp false Y FS (go 11 ?_)
 refine wyz Y (kV [] Y Y Y runUnderlying33) ?_
 have hke:acc.length=ms.length:=J
 rw [hke]
 refine go 10 ?_
 skip
 refine fM (λg:Nat×Value×List ByteArray×Nat=>(⟨107,aY g.2.1++[b2,b1,S],⟨⟨b2,135,[Vs ⟨#[]⟩,Nl]⟩::⟨b1,62,[Vs fn,Sq cP ps,FB]⟩::(A++⟨S,86,[.sl l.length (l.map λi=>Vi i),nC i0]⟩::⟨W,88,[.val (.pointer (some ⟨S,0,none⟩)),G,(Sq bT ms),F,Vi left,Vb ar]⟩::B),⟨g.2.1,9,1,g.2.2.2,bP g.2.2.1⟩::(gP RA vv vars rw)⟩,[(10,nI g.1),(7,Cv g.2.1),(0,pP W),(2,Cv vv),(4,pP b1),(6,pP b2),(9,nI ms.length)]⟩:AS)) (λg=>g.1 <= ps.length /\ g.2.2.1=iZ ms++jB (ps.take g.1) /\ g.2.2.2=g.2.2.1.length) (λg=>ps.length-g.1) (0,v,acc,ms.length) (sA Y) ⟨Nat.zero_le _,by show acc=_;rw [hacc,take_of_length_le J];simp [jB],hke.symm⟩ ?_
 clear hal hacc hk hke
 rintro ⟨j,v,acc,c⟩ ⟨hj,hacc,hc⟩
 dsimp only at hj hacc hc
 show AWp prog _ (⟨107,aY v++[b2,b1,S],⟨⟨b2,135,[Vs ⟨#[]⟩,Nl]⟩::⟨b1,62,[Vs fn,Sq cP ps,FB]⟩::(A++⟨S,86,[.sl l.length (l.map λi=>Vi i),nC i0]⟩::⟨W,88,[.val (.pointer (some ⟨S,0,none⟩)),G,(Sq bT ms),F,Vi left,Vb ar]⟩::B),⟨v,9,1,c,bP acc⟩::(gP RA vv vars rw)⟩,[(10,nI j),(7,Cv v),(0,pP W),(2,Cv vv),(4,pP b1),(6,pP b2),(9,nI ms.length)]⟩:AS) _
 have hal:acc.length <= ms.length+2*ps.length:=by have h1:=xK (ps.take j);rw [hacc,length_append,iZ,List.length_map];rw [List.length_take] at h1;omega
 refine go 7 ?_
 by_cases hlj:j<ps.length
 ·refine wcp true Y FT (go 12 ?_)
  refine wyz Y (bH cP cP ps gL (λ_=>Y) j Y Y Y Y J V runUnderlying59 sizeOf79) (go 4 ?_)
  refine gY Y (λhc4=>?_) (λhc4=>?_)
  ·have hmx:=hc4
   refine dx [b2,b1,S,W] (tz [(0,true),(1,true),(2,true),(3,true)] 12 (go 5 ?_))
   refine tx 4 Y (bH cP cP ps gL (λ_=>Y) j Y Y Y Y J V runUnderlying59 sizeOf79) (tz [(5,true),(6,true),(7,true),(8,true),(9,true)] 6 (go 6 ?_))
   refine tx 10 Y (bH cP cP ps gL (λ_=>Y) j Y Y Y Y J V runUnderlying59 sizeOf79) (tz [(11,true),(12,true)] 3 (go 3 ?_))
   refine ox 13 Y Y (bDk (r:=bP [ps[j].name,ps[j].name]) (hps:=(.cons Y (.cons Y .nil))) cQs ?_)
   refine ox 14 Y Y (bDm [] bDv Y Y V B1 J (N:=c+2) Y (λhn b hb=>qW hn hb) Bq (List.map_append (f:=λx=>AC.val (.string x))).symm λv1=>?_)
   refine tz [(15,true)] 0 (go 2 ?_)
   refine ax (go 4 ?_)
   refine wad Y (go 2 ?_)
   refine ⟨(j+1,v1,acc++[ps[j].name,ps[j].name],c+2),⟨J,by show acc++[ps[j].name,ps[j].name]=_;rw [vX ps j hlj,hacc,if_pos hmx,append_assoc],by simp [hc]⟩,by show ps.length-(j+1)<ps.length-j;omega,cQf Dr⟩
  have hmx:=hc4
  refine go 5 ?_
  refine wad Y (go 2 ?_)
  refine ⟨(j+1,v,acc,c),⟨J,by show acc=_;rw [vX ps j hlj,hacc,if_neg (by rw [hmx];decide),List.append_nil],hc⟩,by show ps.length-(j+1)<ps.length-j;omega,cQf Dr⟩
 refine wcp false Y FS (go 10 ?_)
 have hfin:acc=iZ ms++jB ps:=by rw [hacc,take_of_length_le J]
 have hlen:ms.length <= acc.length:=by rw [hfin,length_append,iZ,List.length_map];omega
 subst hc
 refine aE1 7 Y ?_
 refine go 6 ?_
 refine wo Y (bD (ho:=Y) (has:=Y) [S] call34 (eC (_::_::A) _ _ _ l i0 _ hi0 hl J J) (bDj) (bDj (h:=by simp [Sto.bl])) (λ_=>bDj) ?_)
 rintro r1 s1 ⟨z1,i1,rfl,hy1,hi1,rfl⟩
 refine go 7 ?_
 refine wyz Y (rT (λx=>Vs x) acc z1 Y Y Y Y J runUnderlying33 sizeOf9) (go 11 λb3=>?_)
 by_cases hzm:z1<ms.length
 ·refine wcp true Y FT (go 7 ?_)
  refine wyz Y (bH bT bT ms mZ (λ_=>Y) z1 Y Y Y Y J V runUnderlying24 sizeOf77) (go 2 ?_)
  by_cases hsz:0<ms[z1].size
  ·refine wcp true Y FT (go 13 ?_)
   refine wyz Y (bH bT bT ms mZ (λ_=>Y) z1 Y Y Y Y J V runUnderlying24 sizeOf77) (go 2 ?_)
   refine wo Y (bD (ho:=Y) (has:=Y) [S] call93 (aM1 (_::_::_::A) _ RA _ _ S W l i1 vars G (Sq bT ms) F left ar ms[z1].size hsz (by have:=hmz _ (getElem_mem hzm);omega) hi1 hl hvl) (bDj) (bDj (h:=by simp [Sto.bl])) (λ_=>bDj) ?_)
   rintro r2 s2 ⟨x2,i2,rfl,hm2,hi2,rfl⟩
   refine wo Y (bDk (hf:=aV fO cU x2 (fP _) Y Y) bHf ?_)
   refine go 11 ?_
   exact ⟨.inr Y,_,SSt A (⟨W,88,[.val (.pointer (some ⟨S,0,none⟩)),G,(Sq bT ms),F,Vi left,Vb ar]⟩::B) (gP RA vv vars rw) S l i2,(eK (Wk.agg (.r (.r .nil))) (aR Y (aO [_] Y Y isAgg135 sizeOf135 (bK Y Y)))),aA (.cons _ (.cons _ (.cons _ (.refl _)))) (.refl _),⟨⟨acc[z1],[x2]⟩,i2,Y,(by rw [(show acc[z1]=ms[z1].name by simp only [hfin];rw [List.getElem_append_left (by rw [iZ,List.length_map];exact hzm)];simp [iZ])];exact .arr (getElem_mem hzm) hsz hm2),hi2,Y⟩⟩
  refine wcp false Y FS (go 13 ?_)
  exact ⟨.inr Y,_,SSt A (⟨W,88,[.val (.pointer (some ⟨S,0,none⟩)),G,(Sq bT ms),F,Vi left,Vb ar]⟩::B) (gP RA vv vars rw) S l i1,(eK (Wk.agg (.r (.n .nil))) (aR Y (aO [_] Y Y isAgg135 sizeOf135 (bK Y Y)))),aA (.cons _ (.cons _ (.cons _ (.refl _)))) (.refl _),⟨⟨acc[z1],[]⟩,i1,Y,(by rw [(show acc[z1]=ms[z1].name by simp only [hfin];rw [List.getElem_append_left (by rw [iZ,List.length_map];exact hzm)];simp [iZ])];exact .scalar (getElem_mem hzm) J),hi1,Y⟩⟩
 refine wcp false Y FS (go 24 ?_)
 exact ⟨.inr Y,_,SSt A (⟨W,88,[.val (.pointer (some ⟨S,0,none⟩)),G,(Sq bT ms),F,Vi left,Vb ar]⟩::B) (gP RA vv vars rw) S l i1,(eK (Wk.agg (.r (.n .nil))) (aR Y (aO [_] Y Y isAgg135 sizeOf135 (bK Y Y)))),aA (.cons _ (.cons _ (.cons _ (.refl _)))) (.refl _),⟨⟨acc[z1],[]⟩,i1,Y,(aI7 (show acc[z1]∈jB ps by simp only [hfin];rw [List.getElem_append_right (by rw [iZ,List.length_map];omega)];exact getElem_mem _)),hi1,Y⟩⟩
theorem nB.snoc{ms:List cL}{ps:List aS}{vars:List ByteArray}{l:List aS}{al:List eN}(h:nB ms ps vars l al){x:aS}{a:eN}(ha:(x.mutex=true /\ a=⟨true,a.ref,.zero⟩ /\ uA ms ps vars a.ref)∨(x.mutex=false /\ a=⟨false,.zero,a.expr⟩ /\ eT vars 2 a.expr)):nB ms ps vars (l++[x]) (al++[a]):=by
 induction h with
 |nil=>
  rcases ha with ⟨h1,h2,h3⟩|⟨h1,h2,h3⟩
  ·rw [h2];exact .mutex h1 h3 .nil
  ·rw [h2];exact .expr h1 h3 .nil
 |mutex hx hr _ ih=>exact .mutex hx hr ih
 |expr hx he _ ih=>exact .expr hx he ih
theorem sS(A B:List Box)(RA rw:List bA)(vv:Value)(S W:Nat)(l:List Int)(i0:Nat)(ms:List cL)(ps:List aS)(vars:List ByteArray)(fn:ByteArray)(G F FB:AC)(left:Int)(ar:Bool)(gn:ByteArray)(qs:List aS)(GB:AC)(hi0:i0 <= l.length)(hl:l.length <= 1000000)(hm1:1 <= ms.length)(hm2:ms.length <= 1000)(hmz:∀m,m∈ms -> m.size <= 1000)(hp2:ps.length <= 1000)(hvl:vars.length <= 1000000)(hq2:qs.length <= 1000):aL prog 63 [pP W,.agg [Vs fn,Sq cP ps,FB],.agg [Vs gn,Sq cP qs,GB],Cv vv] [S] (SSt A (⟨W,88,[.val (.pointer (some ⟨S,0,none⟩)),G,(Sq bT ms),F,Vi left,Vb ar]⟩::B) (gP RA vv vars rw) S l i0) (λr s=>∃(al:List eN) (i:Nat),r=.c (Sq eJ al) /\ nB ms ps vars qs al /\ i <= l.length /\ s=SSt A (⟨W,88,[.val (.pointer (some ⟨S,0,none⟩)),G,(Sq bT ms),F,Vi left,Vb ar]⟩::B) (gP RA vv vars rw) S l i):=by
 refine acX 40 func63 ?_
 refine go 19 λb1 b2=>?_
 refine qR 151 7 ?_
 refine fM (λg:Nat×Value×List eN×Nat=>(⟨40,aY g.2.1++[b2,b1,S],⟨⟨b2,62,[Vs gn,Sq cP qs,GB]⟩::⟨b1,62,[Vs fn,Sq cP ps,FB]⟩::(A++⟨S,86,[.sl l.length (l.map λi=>Vi i),nC g.2.2.2]⟩::⟨W,88,[.val (.pointer (some ⟨S,0,none⟩)),G,(Sq bT ms),F,Vi left,Vb ar]⟩::B),⟨g.2.1,151,7,g.2.2.1.length,g.2.2.1.flatMap eJ⟩::(gP RA vv vars rw)⟩,[(10,nI g.1),(9,Cv g.2.1),(0,pP W),(3,Cv vv),(5,pP b1),(6,pP b2)]⟩:AS)) (λg=>g.1 <= qs.length /\ g.2.2.1.length=g.1 /\ nB ms ps vars (qs.take g.1) g.2.2.1 /\ g.2.2.2 <= l.length) (λg=>qs.length-g.1) (0,.slice none 0 0,[],i0) (cQf Cc) ⟨Nat.zero_le _,Y,.nil,hi0⟩ ?_
 rintro ⟨k,v,acc,ik⟩ ⟨hk,hal,hacc,hik⟩
 dsimp only at hk hal hacc hik
 show AWp prog _ (⟨40,aY v++[b2,b1,S],⟨⟨b2,62,[Vs gn,Sq cP qs,GB]⟩::⟨b1,62,[Vs fn,Sq cP ps,FB]⟩::(A++⟨S,86,[.sl l.length (l.map λi=>Vi i),nC ik]⟩::⟨W,88,[.val (.pointer (some ⟨S,0,none⟩)),G,(Sq bT ms),F,Vi left,Vb ar]⟩::B),⟨v,151,7,acc.length,acc.flatMap eJ⟩::(gP RA vv vars rw)⟩,[(10,nI k),(9,Cv v),(0,pP W),(3,Cv vv),(5,pP b1),(6,pP b2)]⟩:AS) _
 refine go 7 ?_
 by_cases hlt:k<qs.length
 ·refine wcp true Y FT (go 12 ?_)
  refine wyz Y (bH cP cP qs gL (λ_=>Y) k Y Y Y Y J V runUnderlying59 sizeOf79) (go 4 ?_)
  refine gY Y (λhc2=>?_) (λhc2=>?_)
  ·have hmx:=hc2
   refine go 5 ?_
   refine wo Y (bD [S] call61 (rG (_::_::A) _ (_::RA) _ _ S W l ik ms ps vars fn G F FB left ar hik hl hm1 hm2 hmz hp2 hvl) (bDj) (bDj (h:=by simp [Sto.bl])) (λ_=>bDj) ?_)
   rintro r1 s1 ⟨f1,i1,rfl,hm1,hi1,rfl⟩
   refine go 1 ?_
   refine eA 29 Y (Wk.agg (.r (.r (.r (.r (.r (.r (.n .nil)))))))) ?_
   refine wo Y (bDk (hf:=aV eJ eJ ⟨true,f1,.zero⟩ Y Y Y) zb2 ?_)
   refine wo Y (bDm [] cR1 Y Y V B1 J (@length_append _ acc [⟨true,f1,.zero⟩]).symm Bo Bq (List.flatMap_append (f:=eJ)).symm λv2=>?_)
   refine go 6 ?_
   refine wad Y (go 2 ?_)
   refine ⟨(k+1,v2,acc++[⟨true,f1,.zero⟩],i1),⟨J,by simp [hal],by rw [List.take_succ_eq_append_getElem hlt];exact hacc.snoc (.inl ⟨hmx,rfl,hm1⟩),hi1⟩,by show qs.length-(k+1)<qs.length-k;omega,cQf Dr⟩
  have hmx:=hc2
  refine go 4 ?_
  refine wo Y (bD [S] call62 (pQ (_::_::A) _ (_::RA) _ _ S W l ik vars G (Sq bT ms) F left ar hik hl hvl) (bDj) (bDj (h:=by simp [Sto.bl])) (λ_=>bDj) ?_)
  rintro r1 s1 ⟨x1,i1,rfl,hm1,hi1,rfl⟩
  refine go 1 ?_
  refine eA 36 Y (Wk.agg (.r (.r (.n (.r (.r (.r (.r .nil)))))))) ?_
  refine wo Y (bDk (hf:=aV eJ eJ ⟨false,.zero,x1⟩ Y Y Y) zb2 ?_)
  refine wo Y (bDm [] cR1 Y Y V B1 J (@length_append _ acc [⟨false,.zero,x1⟩]).symm Bo Bq (List.flatMap_append (f:=eJ)).symm λv2=>?_)
  refine go 6 ?_
  refine wad Y (go 2 ?_)
  refine ⟨(k+1,v2,acc++[⟨false,.zero,x1⟩],i1),⟨J,by simp [hal],by rw [List.take_succ_eq_append_getElem hlt];exact hacc.snoc (.inr ⟨hmx,rfl,hm1⟩),hi1⟩,by show qs.length-(k+1)<qs.length-k;omega,cQf Dr⟩
 refine wcp false Y FS (go 10 ?_)
 refine aE1 9 Y ?_
 refine go 5 ?_
 exact ⟨.inr Y,_,SSt A (⟨W,88,[.val (.pointer (some ⟨S,0,none⟩)),G,(Sq bT ms),F,Vi left,Vb ar]⟩::B) (gP RA vv vars rw) S l ik,aR Y (aF Y),aA (.cons _ (.cons _ (.refl _))) (.refl _),⟨acc,ik,Y,by rw [take_of_length_le J] at hacc;exact hacc,hik,Y⟩⟩
end
end Go.Proofs.YtbdfdjdgfanjaaaGreatDoor
