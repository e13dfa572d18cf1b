import Derived.Test.YtbdfdjdgfanjaaaGreatDoorM0J
import Derived.Test.YtbdfdjdgfanjaaaGreatDoorG23J
import Derived.Test.YtbdfdjdgfanjaaaGreatDoorG3J
import Derived.Test.YtbdfdjdgfanjaaaGreatDoorG19J
import Derived.Test.YtbdfdjdgfanjaaaGreatDoorG1J
import Derived.Test.YtbdfdjdgfanjaaaGreatDoorRows
import Derived.ChangeArms
import Derived.Test.YtbdfdjdgfanjaaaGreatDoorG8J
import Derived.Test.YtbdfdjdgfanjaaaGreatDoorG9J
set_option linter.all false
set_option synthInstance.maxHeartbeats 1000000
set_option synthInstance.maxSize 1000000
set_option maxHeartbeats 1600000
set_option maxRecDepth 100000
namespace Go.Proofs.YtbdfdjdgfanjaaaGreatDoor
open Go.Proofs.Tryz
open List (length_append length_cons length_nil mem_append mem_cons not_mem_nil append_assoc getElem_mem take_of_length_le)
section
section
variable {p:cK}{fs:Fns}
theorem cKl:∀(ps:List aS)(v:Vis)(l:List cFc)(i m:Nat),cG7 p fs v l -> (cGd ps l i m=none -> (bZv ps v).1=false) /\ ∀l' i' m',cGd ps l i m=some (l',i',m') -> (bZv ps v).1=true /\ cG7 p fs (bZv ps v).2 l'
 |[],v,l,i,m,h=>by
  rw [cGd,bZv]
  exact ⟨λh=>DV,λl' i' m' e=>by cases e;exact ⟨rfl,h⟩⟩
 |x::r,v,l,i,m,h=>by
  rw [cGd,bZv,h.get x.name]
  rcases hf:cFa l x.name with _|y
  ·have hz:bZp v x.name=0:=by rw [h.get,hf];rfl
   rw [if_neg V,if_pos (show cH8 p none=0 from rfl)]
   by_cases hm:x.mutex=true
   ·rw [if_pos hm]
    have hs:cAw x=4:=if_pos hm
    rw [hs]
    exact cKl r _ _ i (m+1) (h.put (s:=x.name) (x:=⟨x.name,5,m⟩) (a:=4) hz Y (by unfold cFr;rfl) El)
   rw [if_neg hm]
   have hs:cAw x=1:=if_neg hm
   rw [hs]
   exact cKl r _ _ (i+1) m (h.put (s:=x.name) (x:=⟨x.name,4,i⟩) (a:=1) hz Y (by unfold cFr;rfl) Cu)
  rw [if_pos Fs,if_neg (show ¬cH8 p (some y)=0 from cGv p y)]
  exact ⟨λ_=>Y,λl' i' m' e=>by cases e⟩
theorem cIh:∀(ps:List aS)(v:Vis),KN v -> (bZv ps v).1=true -> KN (bZv ps v).2 /\ (∀x,x∈ps -> bZp v x.name=0) /\ ∀q,(∀x,x∈ps -> x.name≠q) -> bZp (bZv ps v).2 q=bZp v q
 |[],v,hk,_=>⟨hk,λx hx=>absurd hx not_mem_nil,λq _=>rfl⟩
 |x::r,v,hk,h=>by
  rw [bZv] at h⊢
  by_cases h0:bZp v x.name=0
  ·rw [if_pos h0] at h⊢
   obtain ⟨a1,a2,a3⟩:=cIh r _ (hk.put _ _) h
   refine ⟨a1,λy hy=>?_,λq hq=>?_⟩
   ·rcases mem_cons.1 hy with rfl|hy
    ·exact h0
    have h9:=a2 y hy
    rw [cAl] at h9
    split at h9
    ·unfold cAw at h9;split at h9<;>cases h9
    exact h9
   rw [a3 q λy hy=>hq y (List.mem_cons_of_mem _ hy),cAl,if_neg (hq x List.mem_cons_self)]
  rw [if_neg h0] at h;cases h
theorem cI7:∀(ps:List aS)(v:Vis),KN v -> KN (cAk ps v) /\ (∀x,x∈ps -> bZp (cAk ps v) x.name=0) /\ ∀q,(∀x,x∈ps -> x.name≠q) -> bZp (cAk ps v) q=bZp v q
 |[],v,h=>⟨h,λx hx=>absurd hx not_mem_nil,λs _=>rfl⟩
 |y::ps,v,h=>by
  obtain ⟨h1,h2,h3⟩:=cI7 ps (bZy v y.name) (h.del y.name)
  have e:cAk (y::ps) v=cAk ps (bZy v y.name):=Y
  refine ⟨h1,λx hx=>?_,λq hq=>?_⟩
  ·rw [e]
   by_cases hm:∃z,z∈ps /\ z.name=x.name
   ·obtain ⟨z,hz,hn⟩:=hm
    rw [←hn];exact h2 z hz
   rw [h3 _ (λz hz hn=>hm ⟨z,hz,hn⟩),cCs h]
   rcases mem_cons.1 hx with rfl|hx
   ·rw [if_pos rfl]
   exact absurd ⟨x,hx,Y⟩ hm
  rw [e,h3 q λz hz=>hq z (List.mem_cons_of_mem _ hz),cCs h,if_neg (hq y List.mem_cons_self)]
theorem cL4{f:bS}{v:Vis}(h:cG7 p fs v (cFd p))(hsh:cId f.body):(cAe fs f v).1=(cGk p f).1 /\ ((cAe fs f v).1≠0 -> (cAe fs f v).2.at_=(cGk p f).2) /\ ((cAe fs f v).1=0 -> cG7 p fs (cAe fs f v).2.vis (cFd p)):=by
 obtain ⟨p1,p2⟩:=cKl f.params v (cFd p) 0 0 h
 unfold cAe cGk
 rcases hq:cGd f.params (cFd p) 0 0 with _|⟨l,i,m⟩
 ·rw [p1 hq,if_neg V]
  exact ⟨Y,λ_=>Y,λh=>DV⟩
 obtain ⟨q1,q2⟩:=p2 l i m hq
 rw [q1,if_pos rfl]
 have he:cIc p fs ⟨(bZv f.params v).2,0,-1⟩ (LS.init l i):=⟨q2,Y,Y⟩
 have hb:Step p fs (bZ2 fs f.body ⟨(bZv f.params v).2,0,-1⟩).1 (bZ2 fs f.body ⟨(bZv f.params v).2,0,-1⟩).2 (vM p f.body (LS.init l i)):=cHh (cHp f.body [] _ _ hsh he) he
 have hbq:(cJg p f l i).q=(vM p f.body (LS.init l i)).q:=Y
 dsimp only
 rw [hbq]
 by_cases h0:(bZ2 fs f.body ⟨(bZv f.params v).2,0,-1⟩).1=0
 ·have hE:=hb.1 h0
  refine ⟨by rw [h0];exact hE.q.symm,λh=>absurd h0 h,λ_=>?_⟩
  obtain ⟨a1,a2,a3⟩:=cIh f.params v h.kn q1
  have h0':=h0
  unfold bZ2 at h0'
  rw [cHi] at h0'
  obtain ⟨b1,b2,b3⟩:=cGw fs f.body [] _ q2.kn h0'
  obtain ⟨c1,c2⟩:=cIf (fs:=fs) h0' b1 (λq hq=>(b2 q hq).resolve_left not_mem_nil) b3
  obtain ⟨d1,d2,d3⟩:=cI7 f.params _ c1
  refine h.same d1 λq=>?_
  by_cases hm:∃x,x∈f.params /\ x.name=q
  ·obtain ⟨x,hx,rfl⟩:=hm
   rw [a2 x hx];exact d2 x hx
  have hm':∀x,x∈f.params -> x.name≠q:=λx hx hn=>hm ⟨x,hx,hn⟩
  rw [←a3 q hm',←c2 q];exact d3 q hm'
 have hq2:=hb.2 h0
 rw [hq2]
 exact ⟨Y,λ_=>Y,λh=>absurd h h0⟩
theorem cKp:∀(l:List bS)(i:Nat)(v:Vis),cG7 p fs v (cFd p) -> (∀f,f∈l -> cId f.body) -> cAg fs l i v=cGh p l i
 |[],i,v,_,_=>rfl
 |f::r,i,v,h,hs=>by
  obtain ⟨b1,b2,b3⟩:=cL4 h (hs f List.mem_cons_self)
  rw [cAg,cGh,←b1]
  by_cases h0:(cAe fs f v).1=0
  ·rw [if_pos h0,if_pos h0];exact cKp r (i+1) _ (b3 h0) λg hg=>hs g (List.mem_cons_of_mem _ hg)
  rw [if_neg h0,if_neg h0,b2 h0]
end
theorem cLg{p:cK}:∀(es:List cFc)(v:Vis)(l:List cFc),KN v -> (∀s,bZp v s=cH8 p (cFa l s)) -> (∀i,cG0 l es=some i -> (bZz (es.map λx=>(x.name,cFr p x)) v l.length).1=some i) /\ (cG0 l es=none -> (bZz (es.map λx=>(x.name,cFr p x)) v l.length).1=none /\ KN (bZz (es.map λx=>(x.name,cFr p x)) v l.length).2 /\ ∀s,bZp (bZz (es.map λx=>(x.name,cFr p x)) v l.length).2 s=cH8 p (cFa (l++es) s))
 |[],v,l,hk,hg=>by
  rw [cG0]
  exact ⟨λi h=>DV,λ_=>⟨Y,hk,λs=>by rw [List.append_nil];exact hg s⟩⟩
 |x::es,v,l,hk,hg=>by
  rw [cG0,List.map_cons,bZz,hg x.name]
  rcases hf:cFa l x.name with _|y
  ·rw [if_neg V,if_pos (show cH8 p none=0 from rfl)]
   have hr:∀s,bZp (bZq v x.name (cFr p x)) s=cH8 p (cFa (l++[x]) s):=λs=>by
    rw [cAl,cGu]
    by_cases hq:x.name=s
    ·subst hq;rw [if_pos rfl,hf];dsimp only;rw [if_pos rfl];rfl
    rw [if_neg hq,hg s]
    rcases cFa l s with _|z
    ·dsimp only;rw [if_neg hq]
    rfl
   have h9:=cLg es _ (l++[x]) (hk.put _ _) hr
   rw [length_append,append_assoc] at h9
   exact h9
  rw [if_pos Fs,if_neg (show ¬cH8 p (some y)=0 from cGv p y)]
  exact ⟨λi h=>h,λh=>DV⟩
theorem cKv(p:cK):bZs p=(cFd p).map λx=>(x.name,cFr p x):=by
 unfold bZs cFd
 rw [List.map_append,List.map_append]
 congr 1
 ·apply List.ext_getElem
  ·simp
  intro i h1 h2;simp [cFr]
 congr 1
 ·apply List.ext_getElem
  ·simp
  intro i h1 h2
  simp only [List.length_map] at h1
  simp only [List.getElem_map,List.getElem_mapIdx]
  unfold cFr cAr
  rw [cGz h1];rfl
 apply List.ext_getElem
 ·simp
 intro i h1 h2;simp [cFr]
end
section
theorem cIt:∀{l:List cFc} {s:ByteArray} {v:cFc},cFa l s=some v -> v∈l /\ v.name=s
 |[],_,_,h=>DV
 |x::l,s,v,h=>by
  rw [cFa] at h;split at h
  ·rename_i hx;cases h;exact ⟨List.mem_cons_self,hx⟩
  exact ⟨List.mem_cons_of_mem _ (cIt h).1,(cIt h).2⟩
theorem cI6:∀{l:List cFc} {x:cFc},(l.map cFc.name).Nodup -> x∈l -> cFa l x.name=some x
 |[],_,_,h=>absurd h not_mem_nil
 |y::l,x,hd,h=>by
  simp only [List.map_cons,List.nodup_cons] at hd
  rw [cFa]
  rcases mem_cons.1 h with rfl|h
  ·rw [if_pos rfl]
  rw [if_neg (λe=>hd.1 (by rw [e];exact List.mem_map_of_mem h))];exact cI6 hd.2 h
theorem cIm:∀(es l:List cFc),cG0 l es=none -> (es.map cFc.name).Nodup /\ ∀x,x∈es -> cFa l x.name=none
 |[],l,_=>⟨M,λx hx=>absurd hx not_mem_nil⟩
 |x::es,l,h=>by
  rw [cG0] at h
  rcases hf:cFa l x.name with _|y
  ·rw [hf,if_neg V] at h
   obtain ⟨h1,h2⟩:=cIm es _ h
   have h3:∀y,y∈es -> cFa l y.name=none /\ x.name≠y.name:=λy hy=>by
    have h9:=h2 y hy
    rw [cGu] at h9
    split at h9
    ·cases h9
    rename_i h8
    exact ⟨h8,λe=>by rw [if_pos e] at h9;cases h9⟩
   refine ⟨?_,λy hy=>?_⟩
   ·simp only [List.map_cons,List.nodup_cons]
    refine ⟨λhm=>?_,h1⟩
    obtain ⟨y,hy,e⟩:=List.mem_map.1 hm
    exact (h3 y hy).2 e.symm
   rcases mem_cons.1 hy with rfl|hy
   ·exact hf
   exact (h3 y hy).1
  rw [hf,if_pos Fs] at h;cases h
theorem cIy:∀(l:List bS)(m:Fns)(s:ByteArray),s∉l.map bS.name -> bZu (l.foldl (λm f=>bZq m f.name f) m) s=bZu m s
 |[],m,s,_=>rfl
 |f::l,m,s,h=>by
  simp only [List.map_cons,mem_cons,not_or] at h
  rw [List.foldl_cons,cIy l _ s h.2,cBo,if_neg (λe=>h.1 e.symm)]
theorem cJj:∀(l:List bS)(m:Fns),(l.map bS.name).Nodup -> ∀f,f∈l -> bZu (l.foldl (λm f=>bZq m f.name f) m) f.name=some f
 |[],_,_,f,h=>absurd h not_mem_nil
 |g::l,m,hd,f,h=>by
  simp only [List.map_cons,List.nodup_cons] at hd
  rw [List.foldl_cons]
  rcases mem_cons.1 h with rfl|h
  ·rw [cIy l _ _ hd.1,cBo,if_pos rfl]
  exact cJj l _ hd.2 f h
theorem cJx:∀(l:List bS)(m:Fns)(s:ByteArray)(f:bS),bZu (l.foldl (λm f=>bZq m f.name f) m) s=some f -> (f∈l /\ f.name=s)∨bZu m s=some f
 |[],m,s,f,h=>.inr h
 |g::l,m,s,f,h=>by
  rw [List.foldl_cons] at h
  rcases cJx l _ s f h with h|h
  ·exact .inl ⟨List.mem_cons_of_mem _ h.1,h.2⟩
  rw [cBo] at h
  split at h
  ·rename_i hg;cases h;exact .inl ⟨List.mem_cons_self,hg⟩
  exact .inr h
theorem cK7{p:cK}{x:cFc}(h:x∈cFd p)(h3:x.kind=3):∃(i:Nat) (hi:i<p.funcs.length),x=⟨p.funcs[i].name,3,i⟩:=by
 unfold cFd at h
 rcases mem_append.1 h with h|h
 ·obtain ⟨i,hi,rfl⟩:=List.mem_mapIdx.1 h
  exact absurd h3 (by show ¬(1:Int)=3;decide)
 rcases mem_append.1 h with h|h
 ·obtain ⟨i,hi,rfl⟩:=List.mem_mapIdx.1 h
  exact absurd h3 (by show ¬(2:Int)=3;decide)
 obtain ⟨i,hi,rfl⟩:=List.mem_mapIdx.1 h
 exact ⟨i,hi,Y⟩
theorem cK0{p:cK}{f:bS}(h:f∈p.funcs):∃i:Nat,(⟨f.name,3,i⟩:cFc)∈cFd p:=by
 obtain ⟨i,hi,rfl⟩:=List.getElem_of_mem h
 refine ⟨i,?_⟩
 unfold cFd
 exact List.mem_append_right _ (List.mem_append_right _ (List.mem_mapIdx.2 ⟨i,hi,Y⟩))
theorem cKg{p:cK}(h:((cFd p).map cFc.name).Nodup):(p.funcs.map bS.name).Nodup:=by
 unfold cFd at h
 rw [List.map_append,List.map_append] at h
 have h1:=(List.nodup_append.1 (List.nodup_append.1 h).2.1).2.1
 have e:(p.funcs.mapIdx λi f=>(⟨f.name,3,i⟩:cFc)).map cFc.name=p.funcs.map bS.name:=by
  apply List.ext_getElem
  ·simp
  intro i h1 h2;simp
 rw [e] at h1;exact h1
section
variable {p:cK}(hn:((cFd p).map cFc.name).Nodup)
include hn
theorem cKw(s:ByteArray)(x:cFc)(hf:cFa (cFd p) s=some x)(h3:x.kind=3):∃f,bZu (bZ7 p.funcs) s=some f /\ cGc p x.n=f.params:=by
 obtain ⟨h1,h2⟩:=cIt hf
 obtain ⟨i,hi,rfl⟩:=cK7 h1 h3
 refine ⟨p.funcs[i],?_,cHc hi⟩
 rw [←h2];exact cJj p.funcs [] (cKg hn) _ (getElem_mem hi)
theorem cLi(s:ByteArray)(h:∀x,cFa (cFd p) s=some x -> x.kind≠3):bZu (bZ7 p.funcs) s=none:=by
 rcases hl:bZu (bZ7 p.funcs) s with _|f
 ·rfl
 exfalso
 rcases cJx p.funcs [] s f hl with ⟨h1,h2⟩|h1
 ·obtain ⟨i,hi⟩:=cK0 h1
  have h9:=cI6 hn hi
  exact h _ (by rw [←h2];exact h9) Y
 cases h1
theorem cL8:cA9 p=cHa p:=by
 unfold cA9 cHa
 rw [show cCg=cFl from rfl]
 rcases hf:cFa (cFd p) cFl with _|x
 ·rw [cLi hn cFl (λx h=>by rw [hf] at h;cases h)]
 by_cases h3:x.kind=3
 ·obtain ⟨f,h1,h2⟩:=cKw hn cFl x hf h3
  rw [h1];dsimp only;rw [h2,decide_eq_true h3,Bool.true_and]
 rw [cLi hn cFl (λy h=>by rw [hf] at h;cases h;exact h3)];dsimp only;rw [decide_eq_false h3,Bool.false_and]
end
theorem cLp(p:cK):cAb p=cFx p:=by
 unfold cAb cFx
 by_cases hv:jI p=false
 ·rw [if_pos hv,if_pos hv]
 rw [if_neg hv,if_neg hv,cKv]
 obtain ⟨d1,d2⟩:=cLg (p:=p) (cFd p) [] [] (by unfold KN;simp) (λs=>rfl)
 rw [length_nil] at d1 d2
 rcases hb:cG0 [] (cFd p) with _|i
 ·obtain ⟨e1,e2,e3⟩:=d2 hb
  rw [e1];dsimp only
  obtain ⟨hn,-⟩:=cIm _ _ hb
  rw [cL8 hn]
  by_cases hm:cHa p=true
  ·rw [if_pos hm,if_pos hm]
   refine cKp p.funcs 0 _ ⟨e2,λs=>by rw [e3];rfl,cKw hn⟩ λf hf=>?_
   have hvt:jI p=true:=by simpa using hv
   rw [nX,Bool.and_eq_true] at hvt
   exact cJd 0 f.body (aJv hvt.1 f hf).1
  rw [if_neg hm,if_neg hm]
 rw [d1 i hb]
end
section
open Go.RowKit
theorem cLb(p:cK)(hs:p.sane)(hw:p.wt <= 9000000)(s:Sto):aL prog 15 [bK5 (.agg (jV p))] [] s λt s'=>t=Cb true /\ s'=s:=by
 obtain ⟨bx,rw⟩:=s
 refine acX 34 func15 ?_
 refine go 9 λb1=>?_
 refine wo Y (bMg 0 [] Y Y V call21 Y Y (cCm p hs hw _) bDl bDl (λ_=>bDl) ?_)
 rintro _ _ ⟨f,s0,e,hc,rfl,rfl⟩
 rw [cLp] at hc
 refine go 12 ?_
 refine wc0 Y call36 Y (cJo p hs hw _) ?_
 rintro _ _ ⟨rfl,rfl⟩
 rw [hc]
 dsimp only
 refine go 13 ?_
 refine wcp true Y (eR J) (go 3 ?_)
 refine wcp true Y (eR J) (go 4 ?_)
 refine wcp true Y (eR J) (go 5 ?_)
 exact bHe (s':=⟨bx,rw⟩) Y sb1 ⟨Y,Y⟩
end
section
open Go.RowKit
section
variable {H:Type}{enc:TypeId×Value -> H}{P:Program}{w:World}{base:Nat}{spare:Nat -> Bool}{held:Bool}
def Raw(P:Program)(w:World)(base:Nat)(spare:Nat -> Bool)(held:Bool)(enc:TypeId×Value -> H)(t:TypeId){α:Type}(ea:α -> List AC)(sn:α -> Prop)(wt:α -> Nat)(fuel:Nat):Prop:=
 ∀cs (d:DataW H) p,DataW.trod enc P w base spare held fuel t cs=some (d,p) -> Rows.uptoBulk d <= 4611686018427387904 -> ∃x,fG w (ea x) cs /\ sn x /\ wt x <= Rows.uptoBulk d
theorem cOq:∀(l:List (DataW H)) (k:Nat) (h:k<l.length),Rows.uptoBulk l[k] <= Rows.uptoBulkAll l
 |x::l,0,_=>by rw [Rows.uptoBulkAll];simp
 |x::l,k+1,h=>by have:=cOq l k Er;rw [Rows.uptoBulkAll];simp only [List.getElem_cons_succ];omega
theorem cK4{a:Addr}{j:Nat}{u:Value}(hs:a.spot=none)(h:w.cell? (a.add j)=some u):w.cell? ⟨a.block,a.off+j,none⟩=some u:=by
 obtain ⟨b,o,s⟩:=a
 cases hs
 by_cases hj:j=0
 ·subst hj;exact h
 unfold Addr.add at h;rwa [if_neg hj] at h
theorem cKq(a:Addr)(i j:Nat):(a.add i).add j=a.add (i+j):=by
 unfold Addr.add
 by_cases hi:i=0<;>by_cases hj:j=0<;>simp [hi,hj,Nat.add_assoc]
theorem cF0{t e:TypeId}{α:Type}{ea:α -> List AC}{sn:α -> Prop}{wt:α -> Nat}{z fuel:Nat}(ht:P.underlying t=some (.slice e))(hz:P.cellsOf e=z)(h0:0<z)(hl:∀x,(ea x).length=z)
  (step:∀n,n<fuel -> Raw P w base spare held enc e ea sn wt n):Raw P w base spare held enc t (λl:List α=>[Sq ea l]) (λl=>∀x,x∈l -> sn x) (λl=>(l.map wt).sum+1) fuel:=by
 intro cs d p h hB
 rcases DataW.trod_slice ht h with ⟨rfl,hx⟩|⟨a,len,cap,elems,rest,n,rfl,rfl,hx,hb,hlc,hcm,hlen,hel,-,-⟩
 ·cases hx
  exact ⟨[],.cons (.sl 0 [] [] _ ⟨none,0,Y,Nat.le_refl _,.inl Y⟩ Y D8 (λa k c h=>by cases h;decide)) (.nil w),(λx h=>DV),Fe⟩
 rw [hz] at hel
 obtain ⟨rfl,-⟩:=Prod.mk.inj hx
 rw [Rows.uptoBulk] at hB
 have fam:∀k,k <= len -> ∃(l:List α) (us:List Value),l.length=k /\ us.length=k*z /\ (∀j u,us[j]?=some u -> w.cell? (a.add j)=some u) /\ fG w (l.flatMap ea) us /\ (∀x,x∈l -> sn x) /\ (l.map wt).sum <= Rows.uptoBulkAll ((elems.take k).map (·.1)):=by
  intro k
  induction k with
  |zero=>exact λ_=>⟨[],[],rfl,M,(λj u h=>DU),.nil w,(λx h=>DV),M⟩
  |succ k ih=>
   intro hk
   obtain ⟨l,us,h1,h2,h3,h4,h5,h6⟩:=ih J
   have hq:=hel k J
   have hke:k<elems.length:=J
   rw [List.getElem?_eq_getElem hke] at hq
   obtain ⟨cs',hc,hd⟩:=Option.bind_eq_some_iff.1 hq
   have hbk:=cOq (elems.map (·.1)) k (by simpa using hke)
   rw [List.getElem_map] at hbk
   obtain ⟨x,hr,hs,hw⟩:=step n J cs' elems[k].1 elems[k].2 hd J
   obtain ⟨-,hcl,hcell⟩:=World.cells?_some hc
   refine ⟨l++[x],us++cs',by simp [h1],by rw [length_append,h2,hcl,Nat.succ_mul],λj u hj=>?_,by rw [List.flatMap_append];exact h4.app (by simpa using hr),λy hy=>?_,?_⟩
   ·rcases Nat.lt_or_ge j us.length with hlt|hge
    ·rw [List.getElem?_append_left hlt] at hj;exact h3 j u hj
    rw [List.getElem?_append_right hge] at hj
    have hjl:j-us.length<cs'.length:=(List.getElem?_eq_some_iff.1 hj).1
    have:=hcell (j-us.length) J
    rw [cKq,show k*z+(j-us.length)=j by omega] at this
    rw [this];exact hj
   ·rcases mem_append.1 hy with hy|hy
    ·exact h5 y hy
    rw [List.mem_singleton] at hy;subst hy;exact hs
   have e:∀(xs ys:List (DataW H)),Rows.uptoBulkAll (xs++ys)=Rows.uptoBulkAll xs+Rows.uptoBulkAll ys:=by
    intro xs ys
    induction xs with
    |nil=>simp [Rows.uptoBulkAll]
    |cons x xs ih=>simp only [List.cons_append,Rows.uptoBulkAll,ih];omega
   rw [List.take_succ_eq_append_getElem hke,List.map_append (l₁:=List.take k elems),e,List.map_append,List.sum_append]
   simp only [List.map_cons,List.map_nil,List.sum_cons,List.sum_nil,Rows.uptoBulkAll]
   omega
 obtain ⟨l,us,h1,h2,h3,h4,h5,h6⟩:=fam len (Nat.le_refl _)
 refine ⟨l,.cons (.sl _ _ us _ ⟨some a,cap,by rw [h1],by rw [h1];exact hlc,?_⟩ h4.len h4.at_ (λa' k c he=>?_)) (.nil w),h5,?_⟩
 ·cases us with
  |nil=>exact .inl rfl
  |cons u us=>
   have hs:a.spot=none:=World.cell?_spot (a:=a) (by simpa [Addr.add] using h3 0 u rfl)
   refine .inr ⟨a.block,a.off,?_,λj u hj=>cK4 hs (h3 j u hj)⟩
   obtain ⟨b,o,s⟩:=a
   cases hs;rfl
 ·cases he;unfold maxLen at hcm;omega
 rw [Rows.uptoBulk]
 rw [take_of_length_le J] at h6
 show (l.map wt).sum+1 <= _
 omega
theorem cFi{a b:List AC}{o z:Nat}{cs:List Value}(h:fG w a ((cs.drop o).take z))(h2:fG w b (cs.drop (o+z))):fG w (a++b) (cs.drop o):=by
 have h3:=h.app h2
 rwa [←List.drop_drop,List.take_append_drop] at h3
theorem cGp{cs:List Value}{z:Nat}(h:cs.length=z):fG w [] (cs.drop z):=by rw [List.drop_of_length_le J];exact .nil w
def cNx(n:Int):Prop:=-9223372036854775808 <= n /\ n <= 9223372036854775807
theorem cHu{t:TypeId}{fuel z:Nat}{cs:List Value}{x:DataW H×List MemPlace}(ht:P.underlying t=some (.int .i64))(hz:P.cellsOf t=z)(h:DataW.trod enc P w base spare held fuel t (cs.take (P.cellsOf t))=some x):∃n:Int,fG w [Vi n] (cs.take z) /\ cNx n /\ 1 <= Rows.uptoBulk x.1:=by
 obtain ⟨n,h1,rfl,h2⟩:=DataW.trod_int ht h
 rw [hz] at h1
 rw [h1]
 refine ⟨n,.cons (.val _ Y) (.nil w),?_,Fe⟩
 simp only [Lit.wf,Bool.and_eq_true,decide_eq_true_eq] at h2
 exact h2
theorem cIq{t:TypeId}{fuel z:Nat}{cs:List Value}{x:DataW H×List MemPlace}(ht:P.underlying t=some .bool)(hz:P.cellsOf t=z)(h:DataW.trod enc P w base spare held fuel t (cs.take (P.cellsOf t))=some x):∃b:Bool,fG w [Vb b] (cs.take z) /\ True /\ 1 <= Rows.uptoBulk x.1:=by
 obtain ⟨n,h1,rfl⟩:=DataW.trod_bool ht h
 rw [hz] at h1
 rw [h1]
 exact ⟨n,.cons (.val _ Y) (.nil w),trivial,Fe⟩
theorem cG4{t:TypeId}{fuel z:Nat}{cs:List Value}{x:DataW H×List MemPlace}(ht:P.underlying t=some .string)(hz:P.cellsOf t=z)(h:DataW.trod enc P w base spare held fuel t (cs.take (P.cellsOf t))=some x)(hB:Rows.uptoBulk x.1 <= 4611686018427387904):∃s:ByteArray,fG w [Vs s] (cs.take z) /\ s.size <= 4611686018427387904 /\ 1 <= Rows.uptoBulk x.1:=by
 obtain ⟨n,h1,rfl,h2⟩:=DataW.trod_string ht h
 rw [hz] at h1
 rw [h1]
 have e:n.data.toList.length=n.size:=Y
 simp only [Rows.uptoBulk] at hB⊢
 exact ⟨n,.cons (.val _ Y) (.nil w),J,J⟩
theorem cF2{t:TypeId}{α:Type}{ea:α -> List AC}{sn:α -> Prop}{wt:α -> Nat}{fuel z:Nat}{cs:List Value}{x:DataW H×List MemPlace}(hr:Raw P w base spare held enc t ea sn wt fuel)(hz:P.cellsOf t=z)(h:DataW.trod enc P w base spare held fuel t (cs.take (P.cellsOf t))=some x)(hB:Rows.uptoBulk x.1 <= 4611686018427387904):∃y,fG w (ea y) (cs.take z) /\ sn y /\ wt y <= Rows.uptoBulk x.1:=by
 rw [hz] at h
 exact hr _ x.1 x.2 h hB
theorem Raw.one{t:TypeId}{α:Type}{ea:α -> List AC}{sn:α -> Prop}{wt:α -> Nat}{v:Value}{d:DataW H}{p:List MemPlace}(hr:∀fuel,Raw P w base spare held enc t ea sn wt fuel)(h:DataW.Trod enc P w base spare held t v d p)(hB:Rows.uptoBulk d <= 4611686018427387904):∃x,fG w (ea x) v.cells.toList /\ sn x /\ wt x <= Rows.uptoBulk d:=by
 obtain ⟨fuel,h⟩:=h
 exact hr fuel _ d p h hB
end
end
section
open Go.RowKit
theorem cIx:∀(l:List aH),(∀x,x∈l -> x.sane) -> iI l
 |[],_=>by rw [iI];trivial
 |x::l,h=>by rw [iI];exact ⟨h x M,cIx l λy hy=>h y E9⟩
theorem cHg:∀(l:List aH),cZ l=(l.map λx=>x.nodes+1).sum
 |[]=>by rw [cZ];rfl
 |x::l=>by rw [cZ,cHg l,List.map_cons,List.sum_cons];omega
theorem cKu(o n:Int)(m:ByteArray)(l:List aH):(aH.mk o n m l).nodes=1+cZ l:=by rw [aH.nodes]
section
variable {H:Type}{enc:TypeId×Value -> H}{w:World}{base:Nat}{spare:Nat -> Bool}{held:Bool}
theorem cLn:∀fuel,Raw prog w base spare held enc 65 fO aH.sane (λx=>x.nodes+1) fuel:=by
 intro fuel
 induction fuel using Nat.strongRecOn with|_ fuel ih=>?_
 intro cs d p h hB
 obtain ⟨xs,n,rfl,hx,hcs,hxl,hf⟩:=DataW.trod_struct underlying65 h
 obtain ⟨x0,x1,x2,x3,rfl⟩:∃x0 x1 x2 x3,xs=[x0,x1,x2,x3]:=by
  match xs,hxl with
  |[x0,x1,x2,x3],_=>exact ⟨x0,x1,x2,x3,rfl⟩
 obtain ⟨rfl,-⟩:=Prod.mk.inj hx
 rw [Rows.uptoBulk] at hB
 simp only [List.map_cons,List.map_nil,Rows.uptoBulkAll] at hB
 obtain ⟨v0,r0,s0,b0⟩:=cHu underlying3 (z:=1) B6 (hf 0 _ rfl)
 obtain ⟨v1,r1,s1,b1⟩:=cHu underlying3 (z:=1) B6 (hf 1 _ rfl)
 obtain ⟨v2,r2,s2,b2⟩:=cG4 underlying9 (z:=1) B6 (hf 2 _ rfl) J
 obtain ⟨v3,r3,s3,b3⟩:=cF2 (cF0 underlying63 (z:=4) B6 V iU Fb) (z:=1) B6 (hf 3 _ rfl) J
 rw [show prog.cellsOf 65=4 by kernel_rfl] at hcs
 refine ⟨.mk v0 v1 v2 v3,?_,?_,?_⟩
 ·rw [aDt];exact cFi (o:=0) (z:=1) r0 (cFi (o:=1) (z:=1) r1 (cFi (o:=2) (z:=1) r2 (cFi (o:=3) (z:=1) r3 (cGp hcs))))
 ·rw [aH.sane];exact ⟨s1,s2,cIx _ s3⟩
 rw [Rows.uptoBulk]
 simp only [List.map_cons,List.map_nil,Rows.uptoBulkAll]
 have:=cKu v0 v1 v2 v3
 have:=cHg v3
 omega
end
end
section
open Go.RowKit
theorem cHt:∀(l:List aJ),(∀x,x∈l -> x.sane) -> gC l
 |[],_=>by rw [gC];trivial
 |x::l,h=>by rw [gC];exact ⟨h x M,cHt l λy hy=>h y E9⟩
theorem cJv:∀(l:List eN),wtA l=(l.map eN.wt).sum
 |[]=>by rw [wtA];rfl
 |x::l=>by rw [wtA,cJv l,List.map_cons,List.sum_cons]
theorem cIg:∀(l:List aJ),wtS l=(l.map aJ.wt).sum
 |[]=>by rw [wtS];rfl
 |x::l=>by rw [wtS,cIg l,List.map_cons,List.sum_cons]
theorem cHs{α:Type}:∀(l:List α),(l.map λ_=>1).sum=l.length
 |[]=>rfl
 |x::l=>by rw [List.map_cons,List.sum_cons,cHs l,length_cons];omega
theorem cLz(k:Int)(n:ByteArray)(e:aH)(r:cY)(a:List eN)(t f:List aJ):(aJ.mk k n e r a t f).wt=1+e.nodes+r.wt+wtA a+wtS t+wtS f:=by rw [aJ.wt]
section
variable {H:Type}{enc:TypeId×Value -> H}{w:World}{base:Nat}{spare:Nat -> Bool}{held:Bool}
theorem cMd:∀fuel,Raw prog w base spare held enc 135 encR cY.sane cY.wt fuel:=by
 intro fuel
 intro cs d p h hB
 obtain ⟨xs,n,rfl,hx,hcs,hxl,hf⟩:=DataW.trod_struct underlying135 h
 obtain ⟨x0,x1,rfl⟩:∃x0 x1,xs=[x0,x1]:=by
  match xs,hxl with
  |[x0,x1],_=>exact ⟨x0,x1,rfl⟩
 obtain ⟨rfl,-⟩:=Prod.mk.inj hx
 rw [Rows.uptoBulk] at hB
 simp only [List.map_cons,List.map_nil,Rows.uptoBulkAll] at hB
 obtain ⟨v0,r0,s0,b0⟩:=cG4 underlying9 (z:=1) B6 (hf 0 _ rfl) J
 obtain ⟨v1,r1,s1,b1⟩:=cF2 (cF0 underlying63 (z:=4) B6 V iU (λm hm=>cLn m)) (z:=1) B6 (hf 1 _ rfl) J
 rw [show prog.cellsOf 135=2 by kernel_rfl] at hcs
 refine ⟨⟨v0,v1⟩,?_,?_,?_⟩
 ·exact cFi (o:=0) (z:=1) r0 (cFi (o:=1) (z:=1) r1 (cGp hcs))
 ·exact ⟨s0,cIx _ s1⟩
 rw [Rows.uptoBulk]
 simp only [List.map_cons,List.map_nil,Rows.uptoBulkAll]
 show 1+cZ v1 <= _
 have:=cHg v1
 omega
theorem cOc:∀fuel,Raw prog w base spare held enc 151 eJ eN.sane eN.wt fuel:=by
 intro fuel
 intro cs d p h hB
 obtain ⟨xs,n,rfl,hx,hcs,hxl,hf⟩:=DataW.trod_struct underlying151 h
 obtain ⟨x0,x1,x2,rfl⟩:∃x0 x1 x2,xs=[x0,x1,x2]:=by
  match xs,hxl with
  |[x0,x1,x2],_=>exact ⟨x0,x1,x2,rfl⟩
 obtain ⟨rfl,-⟩:=Prod.mk.inj hx
 rw [Rows.uptoBulk] at hB
 simp only [List.map_cons,List.map_nil,Rows.uptoBulkAll] at hB
 obtain ⟨v0,r0,s0,b0⟩:=cIq underlying4 (z:=1) B6 (hf 0 _ rfl)
 obtain ⟨v1,r1,s1,b1⟩:=cF2 (cMd n) (z:=2) B6 (hf 1 _ rfl) J
 obtain ⟨v2,r2,s2,b2⟩:=cF2 (cLn n) (z:=4) B6 (hf 2 _ rfl) J
 rw [show prog.cellsOf 151=7 by kernel_rfl] at hcs
 refine ⟨⟨v0,v1,v2⟩,?_,?_,?_⟩
 ·rw [aDt] at r2;exact cFi (o:=0) (z:=1) r0 (cFi (o:=1) (z:=2) r1 (cFi (o:=3) (z:=4) r2 (cGp hcs)))
 ·exact ⟨s1,s2⟩
 rw [Rows.uptoBulk]
 simp only [List.map_cons,List.map_nil,Rows.uptoBulkAll]
 show 1+v1.wt+v2.nodes <= _
 omega
theorem cN2:∀fuel,Raw prog w base spare held enc 138 encS aJ.sane aJ.wt fuel:=by
 intro fuel
 induction fuel using Nat.strongRecOn with|_ fuel ih=>?_
 intro cs d p h hB
 obtain ⟨xs,n,rfl,hx,hcs,hxl,hf⟩:=DataW.trod_struct underlying138 h
 obtain ⟨x0,x1,x2,x3,x4,x5,x6,rfl⟩:∃x0 x1 x2 x3 x4 x5 x6,xs=[x0,x1,x2,x3,x4,x5,x6]:=by
  match xs,hxl with
  |[x0,x1,x2,x3,x4,x5,x6],_=>exact ⟨x0,x1,x2,x3,x4,x5,x6,rfl⟩
 obtain ⟨rfl,-⟩:=Prod.mk.inj hx
 rw [Rows.uptoBulk] at hB
 simp only [List.map_cons,List.map_nil,Rows.uptoBulkAll] at hB
 obtain ⟨v0,r0,s0,b0⟩:=cHu underlying3 (z:=1) B6 (hf 0 _ rfl)
 obtain ⟨v1,r1,s1,b1⟩:=cG4 underlying9 (z:=1) B6 (hf 1 _ rfl) J
 obtain ⟨v2,r2,s2,b2⟩:=cF2 (cLn n) (z:=4) B6 (hf 2 _ rfl) J
 obtain ⟨v3,r3,s3,b3⟩:=cF2 (cMd n) (z:=2) B6 (hf 3 _ rfl) J
 obtain ⟨v4,r4,s4,b4⟩:=cF2 (cF0 underlying136 (z:=7) B6 V iD (λm hm=>cOc m)) (z:=1) B6 (hf 4 _ rfl) J
 obtain ⟨v5,r5,s5,b5⟩:=cF2 (cF0 underlying60 (z:=11) B6 V mE Fb) (z:=1) B6 (hf 5 _ rfl) J
 obtain ⟨v6,r6,s6,b6⟩:=cF2 (cF0 underlying60 (z:=11) B6 V mE Fb) (z:=1) B6 (hf 6 _ rfl) J
 rw [show prog.cellsOf 138=11 by kernel_rfl] at hcs
 refine ⟨.mk v0 v1 v2 v3 v4 v5 v6,?_,?_,?_⟩
 ·rw [aDt] at r2;rw [aDb];exact cFi (o:=0) (z:=1) r0 (cFi (o:=1) (z:=1) r1 (cFi (o:=2) (z:=4) r2 (cFi (o:=6) (z:=2) r3 (cFi (o:=8) (z:=1) r4 (cFi (o:=9) (z:=1) r5 (cFi (o:=10) (z:=1) r6 (cGp hcs)))))))
 ·rw [aJ.sane];exact ⟨s1,s2,s3,s4,cHt _ s5,cHt _ s6⟩
 rw [Rows.uptoBulk]
 simp only [List.map_cons,List.map_nil,Rows.uptoBulkAll]
 rw [cLz]
 have:=cJv v4
 have:=cIg v5
 have:=cIg v6
 omega
theorem cL9:∀fuel,Raw prog w base spare held enc 79 cP (λx:aS=>x.name.size <= 4611686018427387904) (λ_=>1) fuel:=by
 intro fuel
 intro cs d p h hB
 obtain ⟨xs,n,rfl,hx,hcs,hxl,hf⟩:=DataW.trod_struct underlying79 h
 obtain ⟨x0,x1,rfl⟩:∃x0 x1,xs=[x0,x1]:=by
  match xs,hxl with
  |[x0,x1],_=>exact ⟨x0,x1,rfl⟩
 obtain ⟨rfl,-⟩:=Prod.mk.inj hx
 rw [Rows.uptoBulk] at hB
 simp only [List.map_cons,List.map_nil,Rows.uptoBulkAll] at hB
 obtain ⟨v0,r0,s0,b0⟩:=cG4 underlying9 (z:=1) B6 (hf 0 _ rfl) J
 obtain ⟨v1,r1,s1,b1⟩:=cIq underlying4 (z:=1) B6 (hf 1 _ rfl)
 rw [show prog.cellsOf 79=2 by kernel_rfl] at hcs
 refine ⟨⟨v0,v1⟩,?_,?_,?_⟩
 ·exact cFi (o:=0) (z:=1) r0 (cFi (o:=1) (z:=1) r1 (cGp hcs))
 ·exact s0
 rw [Rows.uptoBulk]
 simp only [List.map_cons,List.map_nil,Rows.uptoBulkAll]
 omega
theorem cNy:∀fuel,Raw prog w base spare held enc 62 fV bS.sane bS.wt fuel:=by
 intro fuel
 intro cs d p h hB
 obtain ⟨xs,n,rfl,hx,hcs,hxl,hf⟩:=DataW.trod_struct underlying62 h
 obtain ⟨x0,x1,x2,rfl⟩:∃x0 x1 x2,xs=[x0,x1,x2]:=by
  match xs,hxl with
  |[x0,x1,x2],_=>exact ⟨x0,x1,x2,rfl⟩
 obtain ⟨rfl,-⟩:=Prod.mk.inj hx
 rw [Rows.uptoBulk] at hB
 simp only [List.map_cons,List.map_nil,Rows.uptoBulkAll] at hB
 obtain ⟨v0,r0,s0,b0⟩:=cG4 underlying9 (z:=1) B6 (hf 0 _ rfl) J
 obtain ⟨v1,r1,s1,b1⟩:=cF2 (cF0 underlying59 (z:=2) B6 V gL (λm hm=>cL9 m)) (z:=1) B6 (hf 1 _ rfl) J
 obtain ⟨v2,r2,s2,b2⟩:=cF2 (cF0 underlying60 (z:=11) B6 V mE (λm hm=>cN2 m)) (z:=1) B6 (hf 2 _ rfl) J
 rw [show prog.cellsOf 62=3 by kernel_rfl] at hcs
 refine ⟨⟨v0,v1,v2⟩,?_,?_,?_⟩
 ·exact cFi (o:=0) (z:=1) r0 (cFi (o:=1) (z:=1) r1 (cFi (o:=2) (z:=1) r2 (cGp hcs)))
 ·exact ⟨s0,s1,cHt _ s2⟩
 rw [Rows.uptoBulk]
 simp only [List.map_cons,List.map_nil,Rows.uptoBulkAll]
 show 1+v1.length+wtS v2 <= _
 have:=cIg v2
 have:=cHs v1
 omega
theorem cN9:∀fuel,Raw prog w base spare held enc 75 dB (λx:aI=>fit x.init /\ x.name.size <= 4611686018427387904) (λ_=>1) fuel:=by
 intro fuel
 intro cs d p h hB
 obtain ⟨xs,n,rfl,hx,hcs,hxl,hf⟩:=DataW.trod_struct underlying75 h
 obtain ⟨x0,x1,rfl⟩:∃x0 x1,xs=[x0,x1]:=by
  match xs,hxl with
  |[x0,x1],_=>exact ⟨x0,x1,rfl⟩
 obtain ⟨rfl,-⟩:=Prod.mk.inj hx
 rw [Rows.uptoBulk] at hB
 simp only [List.map_cons,List.map_nil,Rows.uptoBulkAll] at hB
 obtain ⟨v0,r0,s0,b0⟩:=cG4 underlying9 (z:=1) B6 (hf 0 _ rfl) J
 obtain ⟨v1,r1,s1,b1⟩:=cHu underlying3 (z:=1) B6 (hf 1 _ rfl)
 rw [show prog.cellsOf 75=2 by kernel_rfl] at hcs
 refine ⟨⟨v0,v1⟩,?_,?_,?_⟩
 ·exact cFi (o:=0) (z:=1) r0 (cFi (o:=1) (z:=1) r1 (cGp hcs))
 ·exact ⟨s1,s0⟩
 rw [Rows.uptoBulk]
 simp only [List.map_cons,List.map_nil,Rows.uptoBulkAll]
 omega
theorem cOf:∀fuel,Raw prog w base spare held enc 77 bT (λx:cL=>fit x.size /\ x.name.size <= 4611686018427387904) (λ_=>1) fuel:=by
 intro fuel
 intro cs d p h hB
 obtain ⟨xs,n,rfl,hx,hcs,hxl,hf⟩:=DataW.trod_struct underlying77 h
 obtain ⟨x0,x1,x2,rfl⟩:∃x0 x1 x2,xs=[x0,x1,x2]:=by
  match xs,hxl with
  |[x0,x1,x2],_=>exact ⟨x0,x1,x2,rfl⟩
 obtain ⟨rfl,-⟩:=Prod.mk.inj hx
 rw [Rows.uptoBulk] at hB
 simp only [List.map_cons,List.map_nil,Rows.uptoBulkAll] at hB
 obtain ⟨v0,r0,s0,b0⟩:=cG4 underlying9 (z:=1) B6 (hf 0 _ rfl) J
 obtain ⟨v1,r1,s1,b1⟩:=cIq underlying4 (z:=1) B6 (hf 1 _ rfl)
 obtain ⟨v2,r2,s2,b2⟩:=cHu underlying3 (z:=1) B6 (hf 2 _ rfl)
 rw [show prog.cellsOf 77=3 by kernel_rfl] at hcs
 refine ⟨⟨v0,v1,v2⟩,?_,?_,?_⟩
 ·exact cFi (o:=0) (z:=1) r0 (cFi (o:=1) (z:=1) r1 (cFi (o:=2) (z:=1) r2 (cGp hcs)))
 ·exact ⟨s2,s0⟩
 rw [Rows.uptoBulk]
 simp only [List.map_cons,List.map_nil,Rows.uptoBulkAll]
 omega
theorem cL0:∀fuel,Raw prog w base spare held enc 27 jV cK.sane cK.wt fuel:=by
 intro fuel
 intro cs d p h hB
 obtain ⟨xs,n,rfl,hx,hcs,hxl,hf⟩:=DataW.trod_struct underlying27 h
 obtain ⟨x0,x1,x2,rfl⟩:∃x0 x1 x2,xs=[x0,x1,x2]:=by
  match xs,hxl with
  |[x0,x1,x2],_=>exact ⟨x0,x1,x2,rfl⟩
 obtain ⟨rfl,-⟩:=Prod.mk.inj hx
 rw [Rows.uptoBulk] at hB
 simp only [List.map_cons,List.map_nil,Rows.uptoBulkAll] at hB
 obtain ⟨v0,r0,s0,b0⟩:=cF2 (cF0 underlying23 (z:=2) B6 V nS (λm hm=>cN9 m)) (z:=1) B6 (hf 0 _ rfl) J
 obtain ⟨v1,r1,s1,b1⟩:=cF2 (cF0 underlying24 (z:=3) B6 V mZ (λm hm=>cOf m)) (z:=1) B6 (hf 1 _ rfl) J
 obtain ⟨v2,r2,s2,b2⟩:=cF2 (cF0 underlying25 (z:=3) B6 V vC (λm hm=>cNy m)) (z:=1) B6 (hf 2 _ rfl) J
 rw [show prog.cellsOf 27=3 by kernel_rfl] at hcs
 refine ⟨⟨v0,v1,v2⟩,?_,?_,?_⟩
 ·exact cFi (o:=0) (z:=1) r0 (cFi (o:=1) (z:=1) r1 (cFi (o:=2) (z:=1) r2 (cGp hcs)))
 ·exact ⟨s0,s1,s2⟩
 rw [Rows.uptoBulk]
 simp only [List.map_cons,List.map_nil,Rows.uptoBulkAll]
 show v0.length+v1.length+(v2.map bS.wt).sum <= _
 have:=cHs v0
 have:=cHs v1
 omega
end
end
end Go.Proofs.YtbdfdjdgfanjaaaGreatDoor
