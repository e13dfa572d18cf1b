import Derived.Test.YtkfdfhcdmmlfmaaGreatDoorG17J
set_option linter.all false
set_option synthInstance.maxHeartbeats 1000000
set_option synthInstance.maxSize 1000000
set_option maxHeartbeats 1600000
set_option maxRecDepth 100000
namespace Go.Proofs.YtkfdfhcdmmlfmaaGreatDoor
open Go.Proofs.Tryz
open List (length_append length_cons length_nil mem_append mem_cons not_mem_nil append_assoc getElem_mem take_of_length_le)
section
open Go.RowKit
theorem cL3{P:Program}{f:ResultVar -> Sem Value}{r1 r2 r3 r4:ResultVar}{v1 v2 v3 v4:Value}{w:World}(e1:(f r1).run P w=.ok v1 w)(e2:(f r2).run P w=.ok v2 w)(e3:(f r3).run P w=.ok v3 w)(e4:(f r4).run P w=.ok v4 w):(#[r1,r2,r3,r4].mapM f).run P w=.ok #[v1,v2,v3,v4] w:=by
 simp [Sem.run_bind,e1,e2,e3,e4]
theorem cLs{w:World}{r1 r2 r3 r4:AT}{v1 v2 v3 v4:Value}(h1:dO w r1 v1)(h2:dO w r2 v2)(h3:dO w r3 v3)(h4:dO w r4 v4):dO w (.tup [r1,r2,r3,r4]) (.tuple #[v1,v2,v3,v4]):=
 .tup [r1,r2,r3,r4] [v1,v2,v3,v4] rfl λi h h'=>by rcases i with _|_|_|_|i;exact h1;exact h2;exact h3;exact h4;simp at h;omega
theorem cF6{P:Program}{st:AS}{fn:Func}{rv1 rv2 rv3 rv4:ResultVar}{r1 r2 r3 r4:AT}(h:fn.results=#[rv1,rv2,rv3,rv4])(h1:aAc P st rv1 r1)(h2:aAc P st rv2 r2)(h3:aAc P st rv3 r3)(h4:aAc P st rv4 r4):aEt P fn st (.tup [r1,r2,r3,r4]):=λa w hs=>by
 obtain ⟨v1,e1,f1⟩:=h1 a w hs
 obtain ⟨v2,e2,f2⟩:=h2 a w hs
 obtain ⟨v3,e3,f3⟩:=h3 a w hs
 obtain ⟨v4,e4,f4⟩:=h4 a w hs
 refine ⟨_,cLs e1 e2 e3 e4,?_⟩
 unfold results
 rw [h,Sem.run_bind]
 erw [cL3 f1 f2 f3 f4]
 simp [go_sem]
def cF9(x:cI1):List AC:=[Vs x.name,nC x.ints,nC x.locks,nC x.locals,Sq encI x.code]
theorem cI0(x:cI1):(cF9 x).length=5:=rfl
def cJl(p:cK)(f:bS):List Int:=match cGd f.params (cFd p) 0 0 with
 |none=>[]
 |some (l,i,_)=>(cJg p f l i).sites
theorem cKs{P:Program}{c:Code}{n:Nat}{T:List Nat}{ts:List (Nat×AT)}{Q:Exit -> AS -> Prop}{rw:List bA}{b:Nat}{E:TypeId}{cs cs':List AC}{v:Value}{E2:TypeId}{z k:Nat}{ds:List AC}(A:List Box){B:List Box}(i:Nat)(hi:cs[i]?=some (.val v))(hr:cs.set i (.sl k ds)=cs')(h:AWp P c ⟨n,T,⟨A++⟨b,E,cs'⟩::B,rw⟩,ts⟩ Q)(hz:0<z:=by decide):AWp P c ⟨n,T,⟨A++⟨b,E,cs⟩::B,⟨v,E2,z,k,ds⟩::rw⟩,ts⟩ Q:=by
 subst hr
 exact zU (vU (st:=⟨n,T,⟨A++⟨b,E,cs⟩::B,⟨v,E2,z,k,ds⟩::rw⟩,ts⟩) (aBg (r:=⟨v,E2,z,k,ds⟩) A i hi hz)) h
theorem cGt{ps:List aS}{l:List cFc}{i m k:Nat}{R:Option (List cFc×Nat×Nat)}(hk:k<ps.length)(h:cGd (ps.drop k) l i m=R):
  ((cFa l ps[k].name).isSome=true -> R=none) /\ ((cFa l ps[k].name).isSome=false -> (ps[k].mutex=true -> cGd (ps.drop (k+1)) (l++[⟨ps[k].name,5,m⟩]) i (m+1)=R) /\ (ps[k].mutex=false -> cGd (ps.drop (k+1)) (l++[⟨ps[k].name,4,i⟩]) (i+1) m=R)):=by
 rw [List.drop_eq_getElem_cons hk,cGd] at h
 refine ⟨λh0=>?_,λh0=>⟨λhm=>?_,λhm=>?_⟩⟩
 ·rw [if_pos h0] at h;exact h.symm
 ·rw [if_neg (by rw [h0];decide),if_pos hm] at h;exact h
 rw [if_neg (by rw [h0];decide),if_neg (by rw [hm];decide)] at h;exact h
end
section
mutual
def szS:aJ -> Nat
 |.mk k _ _ _ _ t f=>1+(if k=8∨0<f.length then 1 else 0)+(szL t+szL f)
def szL:List aJ -> Nat
 |[]=>0
 |s::l=>szS s+szL l
end
theorem cVs(s:aJ):szS s=1+(if s.kind=8∨0<s.els.length then 1 else 0)+(szL s.thn+szL s.els):=by cases s;rw [szS];rfl
structure Gr (x y:LS) (m c:Nat):Prop where
 code:y.code.length=x.code.length+c
 n:y.n=x.n+m
 loc:x.locals <= y.locals
 sites:∃t:List Int,y.sites=x.sites++t /\ (∀a,a∈t -> (x.n:Int) <= a /\ a<(y.n:Int)) /\ ∀k:Nat,x.n <= k -> k<y.n -> (k:Int)∈t
 sl:x.sites.length=x.code.length -> y.sites.length=y.code.length
 jmp:(∀i,i∈x.code -> (i.op=6∨i.op=7) -> i.target <= x.code.length) -> ∀i,i∈y.code -> (i.op=6∨i.op=7) -> i.target <= y.code.length
theorem Gr.refl(x:LS):Gr x x 0 0:=⟨rfl,rfl,Nat.le_refl _,⟨[],(List.append_nil _).symm,(λa h=>DV),(λk h1 h2=>J)⟩,λh=>h,λh=>h⟩
theorem Gr.trans{x y z:LS}{m c m' c':Nat}(h:Gr x y m c)(h':Gr y z m' c'):Gr x z (m+m') (c+c'):=by
 obtain ⟨t,e,b,v⟩:=h.sites
 obtain ⟨t',e',b',v'⟩:=h'.sites
 have h1:=h.n;have h2:=h'.n
 refine ⟨by rw [h'.code,h.code];omega,J,Nat.le_trans h.loc h'.loc,⟨t++t',by rw [e',e,append_assoc],λa ha=>?_,λk hk hk'=>?_⟩,λhl=>h'.sl (h.sl hl),λhj=>h'.jmp (h.jmp hj)⟩
 ·rcases mem_append.1 ha with ha|ha
  ·have:=b a ha;omega
  have:=b' a ha;omega
 by_cases hy:k<y.n
 ·exact List.mem_append_left _ (v k hk hy)
 exact List.mem_append_right _ (v' k J hk')
theorem Gr.put{x y:LS}{m c:Nat}(h:Gr x y m c)(i:cFw)(s:Nat)(h1:x.n <= s)(h2:s<y.n)(hi:(i.op=6∨i.op=7) -> i.target <= y.code.length+1):Gr x (y.put i s) m (c+1):=by
 obtain ⟨t,e,b,v⟩:=h.sites
 have hc:=h.code
 refine ⟨by rw [cF1];omega,h.n,h.loc,⟨t++[(s:Int)],by show y.sites++[(s:Int)]=_;rw [e,append_assoc],λa ha=>?_,λk hk hk'=>List.mem_append_left _ (v k hk hk')⟩,λhl=>(by show (y.sites++[(s:Int)]).length=(y.code++[i]).length;rw [length_append,length_append,h.sl hl];rfl),λhj j hm ho=>?_⟩
 ·rcases mem_append.1 ha with ha|ha
  ·exact b a ha
  obtain rfl:=List.mem_singleton.1 ha
  exact ⟨J,by show (s:Int)<((y.n:Nat):Int);omega⟩
 rw [cF1]
 rcases mem_append.1 (show j∈y.code++[i] from hm) with hm|hm
 ·have:=h.jmp hj j hm ho;omega
 obtain rfl:=List.mem_singleton.1 hm;exact hi ho
theorem cTa{α:Type}{f:α -> α}:∀{l:List α} {b:Nat} {i:α},i∈l.modify b f -> i∈l∨∃j,j∈l /\ i=f j
 |[],_,_,h=>by rw [List.modify_nil] at h;cases h
 |a::l,0,i,h=>by
  rw [List.modify_zero_cons] at h
  rcases mem_cons.1 h with rfl|h
  ·exact .inr ⟨a,List.mem_cons_self,Y⟩
  ·exact .inl (List.mem_cons_of_mem _ h)
 |a::l,b+1,i,h=>by
  rw [List.modify_succ_cons] at h
  rcases mem_cons.1 h with rfl|h
  ·exact .inl List.mem_cons_self
  rcases cTa h with h|⟨j,h,e⟩
  ·exact .inl (List.mem_cons_of_mem _ h)
  exact .inr ⟨j,List.mem_cons_of_mem _ h,e⟩
theorem Gr.patch{x y:LS}{m c:Nat}(h:Gr x y m c)(b:Nat):Gr x (y.patch b) m c:=by
 refine ⟨by rw [cFp];exact h.code,h.n,h.loc,h.sites,λhl=>(by rw [cFp];exact h.sl hl),λhj i hm ho=>?_⟩
 rw [cFp]
 rcases cTa (show i∈y.code.modify b (λi=>i.to y.code.length) from hm) with hm|⟨j,hm,rfl⟩
 ·exact h.jmp hj i hm ho
 exact Nat.le_refl _
theorem Gr.back{x y:LS}{m c:Nat}(h:Gr x y m c)(w:LS):Gr x (w.back y) m c:=⟨h.code,h.n,h.loc,h.sites,h.sl,h.jmp⟩
theorem Gr.one{x:LS}(y:LS){i:cFw}(hc:y.code=x.code++[i])(hn:y.n=x.n+1)(hl:x.locals <= y.locals)(hs:y.sites=x.sites++[(x.n:Int)])(hi:(i.op=6∨i.op=7) -> i.target=0):Gr x y 1 1:=by
 refine ⟨by rw [hc,length_append];rfl,hn,hl,⟨[(x.n:Int)],hs,λa ha=>?_,λk h1 h2=>?_⟩,λhl=>(by rw [hs,hc,length_append,length_append,hl];rfl),λhj j hm ho=>?_⟩
 ·obtain rfl:=List.mem_singleton.1 ha
  rw [hn];omega
 ·obtain rfl:k=x.n:=J
  exact List.mem_singleton.2 Y
 rw [hc] at hm⊢
 rw [length_append]
 rcases mem_append.1 hm with hm|hm
 ·have:=hj j hm ho;omega
 obtain rfl:=List.mem_singleton.1 hm;rw [hi ho];omega
theorem cU4(p:cK)(l:List cFc)(s:aJ):(cGn p l s).op=if s.kind=4 then 3 else 2:=by
 unfold cGn cG9
 split
 ·rfl
 split
 ·split<;>rfl
 rfl
theorem cUs(p:cK)(s:aJ)(x:LS):Gr x (cFu p s x) 1 1:=by
 have no:∀{k:Int} {t:Nat},¬(k=6∨k=7) -> (k=6∨k=7) -> t=0:=λh h'=>absurd h' h
 unfold cFu
 split
 ·exact .one _ Y Y (Nat.le_succ _) Y (no GY)
 split
 ·exact .one _ Y Y (Nat.le_refl _) Y (no GY)
 split
 ·exact .one _ Y Y (Nat.le_refl _) Y (no (by rw [cU4];split<;>decide))
 split
 ·exact .one _ Y Y (Nat.le_refl _) Y (no (by show ¬((4:Int)=6∨(4:Int)=7);decide))
 split
 ·exact .one _ Y Y (Nat.le_refl _) Y (no (by show ¬((5:Int)=6∨(5:Int)=7);decide))
 exact .one _ Y Y (Nat.le_refl _) Y (no (by show ¬((8:Int)=6∨(8:Int)=7);decide))
theorem cUp(x:LS)(e:aH):Gr x (x.branch e) 1 1:=.one _ rfl rfl (Nat.le_refl _) rfl (λ_=>rfl)
mutual
theorem cU2(p:cK):∀(s:aJ)(x:LS),shS s -> Gr x (cFs p s x) s.cnt (szS s)
 |.mk k name e r args t f,x,h=>by
  rw [shS] at h
  obtain ⟨-,-,h7,h8,ht,hf⟩:=h
  have b:=cUp x e
  have g1:=b.trans (cSm p t (x.branch e) ht)
  have hn:=g1.n
  rw [cFs,szS,aJ.cnt]
  split
  ·rename_i hk
   split
   ·rename_i hl
    obtain rfl:f=[]:=List.length_eq_zero_iff.1 hl
    rw [if_neg DR,szL,bLh]
    exact (g1.back x).patch _
   rename_i hl
   rw [if_pos (.inr J)]
   have g2:=((g1.back (x.branch e)).put (opI 7 .zero) x.n (Nat.le_refl _) GU (λ_=>Nat.zero_le _)).patch x.code.length
   have g3:=(g2.trans (cSm p f _ hf)).back x|>.patch (cFe p t (x.branch e)).code.length
   have e1:1+bLh t+bLh f=(1+bLh t)+bLh f:=J
   have e2:1+1+(szL t+szL f)=1+szL t+1+szL f:=J
   rw [e2];exact g3
  rename_i hk
  obtain rfl:f=[]:=h8 hk
  split
  ·rename_i hk8
   rw [if_pos (.inl hk8),szL,bLh]
   have hc:=g1.code
   have g2:=((g1.back (x.branch e)).put ⟨7,x.code.length,false,.zero,plZ,[],[]⟩ x.n (Nat.le_refl _) GU (λ_=>by show x.code.length <= (cFe p t (x.branch e)).code.length+1;omega)).patch x.code.length
   have e2:1+1+(szL t+0)=1+szL t+1:=J
   rw [e2];exact g2
  rename_i hk8
  obtain rfl:t=[]:=h7 hk hk8
  rw [if_neg DR,szL,bLh]
  exact cUs p _ x
theorem cSm(p:cK):∀(l:List aJ)(x:LS),cId l -> Gr x (cFe p l x) (bLh l) (szL l)
 |[],x,_=>by rw [cFe,bLh,szL];exact Gr.refl x
 |s::l,x,h=>by
  rw [cId] at h
  rw [cFe,bLh,szL];exact (cU2 p s x h.1).trans (cSm p l _ h.2)
end
theorem cSz:∀(l:List aS) (a:List cFc) (i m:Nat) {r:List cFc×Nat×Nat},cGd l a i m=some r -> r.2.1+r.2.2=i+m+l.length
 |[],a,i,m,r,h=>by rw [cGd] at h;cases h;rfl
 |x::l,a,i,m,r,h=>by
  rw [cGd] at h
  split at h
  ·cases h
  split at h
  ·have:=cSz l _ _ _ h;rw [length_cons];omega
  have:=cSz l _ _ _ h;rw [length_cons];omega
structure cVz (p:cK) (f:bS):Prop where
 name:(cGe p f).name=f.name
 pars:(cGe p f).ints+(cGe p f).locks=f.params.length
 loc:(cGe p f).ints <= (cGe p f).locals
 code:(cGe p f).code.length=szL f.body+1
 sites:(cJl p f).length=(cGe p f).code.length
 last:∃c s,(cGe p f).code=c++[opI 8 .zero] /\ cJl p f=s++[((bLh f.body:Nat):Int)]
 jmp:∀i,i∈(cGe p f).code -> (i.op=6∨i.op=7) -> i.target<(cGe p f).code.length
 low:∀a,a∈cJl p f -> 0 <= a /\ a <= ((bLh f.body:Nat):Int)
 all:∀k:Nat,k <= bLh f.body -> (k:Int)∈cJl p f
theorem cV8{p:cK}{f:bS}(hs:cId f.body){r:List cFc×Nat×Nat}(h:cGd f.params (cFd p) 0 0=some r):cVz p f:=by
 obtain ⟨l,i,m⟩:=r
 have g:=(cSm p f.body (LS.init l i) hs).back (LS.init l i)
 have hT:cGe p f=⟨f.name,i,m,(cJg p f l i).locals,(cJg p f l i).code⟩:=by unfold cGe;rw [h]
 have hS:cJl p f=(cJg p f l i).sites:=by unfold cJl;rw [h]
 have hn:(cRs p f.body (LS.init l i)).n=bLh f.body:=by have:=g.n;rw [show (LS.init l i).n=0 from rfl,Nat.zero_add] at this;exact this
 have hc:(cJg p f l i).code=(cRs p f.body (LS.init l i)).code++[opI 8 .zero]:=Y
 have hc2:(cJg p f l i).sites=(cRs p f.body (LS.init l i)).sites++[((bLh f.body:Nat):Int)]:=by rw [←hn];rfl
 have hl:(cRs p f.body (LS.init l i)).code.length=szL f.body:=by have:=g.code;rw [show (LS.init l i).code.length=0 from rfl,Nat.zero_add] at this;exact this
 obtain ⟨t,e,b,v⟩:=g.sites
 rw [show (LS.init l i).sites=[] from rfl,List.nil_append] at e
 change (cRs p f.body (LS.init l i)).sites=t at e
 have hn':((LS.init l i).back (cFe p f.body (LS.init l i))).n=bLh f.body:=hn
 have h0:(LS.init l i).n=0:=Y
 rw [hn',h0] at b v
 have hw:(cRs p f.body (LS.init l i)).sites.length=(cRs p f.body (LS.init l i)).code.length:=g.sl Y
 refine ⟨by rw [hT],by rw [hT];have:=cSz _ _ _ _ h;dsimp only at this⊢;omega,by rw [hT];exact g.loc,by rw [hT];show (cJg p f l i).code.length=_;rw [hc,length_append,hl];rfl,
  by rw [hT,hS];show _=(cJg p f l i).code.length;rw [hc,hc2,length_append,length_append,hw];rfl,⟨_,_,by rw [hT];exact hc,by rw [hS];exact hc2⟩,λj hj ho=>?_,λa ha=>?_,λk hk=>?_⟩
 ·rw [hT] at hj⊢
  show j.target<(cJg p f l i).code.length
  rw [hc,length_append]
  rcases mem_append.1 (show j∈(cRs p f.body (LS.init l i)).code++[opI 8 .zero] from hj) with hj|hj
  ·have:=g.jmp (λi hi=>by cases hi) j hj ho
   exact Nat.lt_succ_of_le this
  obtain rfl:=List.mem_singleton.1 hj
  rcases ho with ho|ho<;>exact absurd ho (by show ¬((8:Int)=_);decide)
 ·rw [hS,hc2,e] at ha
  rcases mem_append.1 ha with ha|ha
  ·have:=b a ha;omega
  obtain rfl:=List.mem_singleton.1 ha;omega
 rw [hS,hc2,e]
 by_cases hk':k=bLh f.body
 ·subst hk';exact List.mem_append_right _ (List.mem_singleton.2 rfl)
 exact List.mem_append_left _ (v k (Nat.zero_le _) J)
theorem cTd{p:cK}:∀(l:List bS)(k:Nat),cGh p l k=(0,0,0) -> ∀f,f∈l -> (cGk p f).1=0
 |[],_,_,f,hf=>by cases hf
 |a::l,k,h,f,hf=>by
  rw [cGh] at h
  split at h
  ·rename_i h0
   rcases mem_cons.1 hf with rfl|hf
   ·exact h0
   exact cTd l (k+1) h f hf
  rename_i h0
  exact absurd (congrArg (λx=>x.2.2) h) h0
theorem cTy{p:cK}(h:cFx p=(0,0,0)):jI p=true /\ cG0 [] (cFd p)=none /\ cHa p=true /\ ∀f,f∈p.funcs -> (cGk p f).1=0:=by
 unfold cFx at h
 split at h
 ·exact absurd (congrArg (λx=>x.2.2) h) (by show ¬(10:Nat)=0;decide)
 rename_i hv
 split at h
 ·exact absurd (congrArg (λx=>x.2.2) h) (by show ¬(5:Nat)=0;decide)
 rename_i hb
 split at h
 ·rename_i hm;exact ⟨by simpa using hv,hb,hm,cTd _ _ h⟩
 exact absurd (congrArg (λx=>x.2.2) h) (by show ¬(9:Nat)=0;decide)
end
section
open Go.RowKit
def exS(s:aJ):Nat:=(if s.kind=8∨0<s.els.length then 1 else 0)+(szL s.thn+szL s.els)
def cSv(l:List aJ):Nat:=(l.map exS).sum
theorem cSx:∀l:List aJ,szL l=l.length+cSv l
 |[]=>by rw [szL];rfl
 |s::l=>by
  have h:=cSx l
  rw [szL,cVs,h];unfold cSv;rw [List.map_cons,List.sum_cons,length_cons];unfold exS;omega
theorem cT2(l:List aJ)(k:Nat)(h:k<l.length):cSv (l.take (k+1))=cSv (l.take k)+exS l[k]:=by
 unfold cSv;rw [List.take_succ_eq_append_getElem h,List.map_append,List.sum_append];simp
theorem cTx(l:List aJ)(k:Nat):cSv (l.take k) <= cSv l:=by
 have e:cSv l=cSv (l.take k)+cSv (l.drop k):=by unfold cSv;rw [←List.sum_append,←List.map_append,List.take_append_drop]
 omega
mutual
theorem cVr:∀s:aJ,szS s <= s.wt
 |.mk k n e r a t f=>by
  have h1:=cTm t
  have h2:=cTm f
  have h3:0<r.wt:=by unfold cY.wt;omega
  rw [szS,aJ.wt];split<;>omega
theorem cTm:∀l:List aJ,szL l <= wtS l
 |[]=>by rw [szL];omega
 |s::l=>by have h1:=cVr s;have h2:=cTm l;rw [szL,wtS];omega
end
theorem cUl(l:List aJ)(hl:szL l <= 1000000000)(hst:∀k (h:k<l.length) (s:Sto),aL prog 30 [.c (Sq encS l[k].thn)] [] s (λt s'=>t=Ci ((szL l[k].thn:Nat):Int) /\ s'=s) /\ aL prog 30 [.c (Sq encS l[k].els)] [] s (λt s'=>t=Ci ((szL l[k].els:Nat):Int) /\ s'=s))(s:Sto):aL prog 30 [.c (Sq encS l)] [] s λt s'=>t=Ci ((szL l:Nat):Int) /\ s'=s:=by
 obtain ⟨bx,rw⟩:=s
 have hkid:=cSx l
 refine acX 46 func30 ?_
 refine go 19 ?_
 refine oC (l.length) 4 (λk=>[(3,Ci ((l.length+cSv (l.take k):Nat):Int)),(0,.c (Sq encS l))]) (aG Y (.refl _) (aG Y (gQ (by simp [cSv])) (sA Y))) λk hk=>?_
 show AWp prog _ ⟨46,_,_,(4,nI k)::[(3,Ci ((l.length+cSv (l.take k):Nat):Int)),(0,.c (Sq encS l))]⟩ _
 refine go 6 ?_
 by_cases h1:((k:Nat):Int)<((l.length:Nat):Int)
 ·refine wcp true Y (jZ h1) (go 9 ?_)
  have hkl:k<l.length:=J
  have hkt:=cT2 l k hkl
  have hkm:=cTx l (k+1)
  unfold exS at hkt
  refine go 3 ?_
  refine wyz Y (bH encS dG l mE cJ k Y Y Y Y J V runUnderlying54 sizeOf145) (go 2 ?_)
  by_cases h3:l[k].kind=8
  focus
   refine wcp true Y (eR h3) (go 14 ?_)
   refine wad Y (go 3 ?_)
  rotate_left
  focus
   refine wcp false Y (eD h3) (go 3 ?_)
   refine wyz Y (bH encS dG l mE cJ k Y Y Y Y J V runUnderlying54 sizeOf145) (go 3 ?_)
   by_cases h7:(0:Int)<((l[k].els.length:Nat):Int)
   focus
    refine wcp true Y (mH h7) (go 6 ?_)
    refine wad Y (go 3 ?_)
   rotate_left
   refine wcp false Y (mI h7) (go 6 ?_)
  all_goals
   refine dx [] (tz [(0,true),(1,true),(2,true)] 13 (go 4 ?_))
   refine tx 3 Y (bH encS dG l mE cJ k Y Y Y Y J V runUnderlying54 sizeOf145) (tz [(4,true),(5,true),(8,true),(9,true)] 8 (go 5 ?_))
   refine tx 10 Y (bH encS dG l mE cJ k Y Y Y Y J V runUnderlying54 sizeOf145) (tz [(11,true),(12,true)] 5 (go 3 ?_))
   refine ox 6 Y Y (bV Y Y V call30 Y ((hst k hkl _).1) ?_)
   rintro _ _ ⟨rfl,rfl⟩
   refine tx 7 Y (bB Y Y Y J J) ?_
   refine ox 13 Y Y (bV Y Y V call30 Y ((hst k hkl _).2) ?_)
   rintro _ _ ⟨rfl,rfl⟩
   refine tx 14 Y (bB Y Y Y J J) (tz [(15,true)] 0 (go 2 ?_))
   refine ax (go 4 ?_)
   refine wad Y (go 2 ?_)
   exact ⟨J,(aG Y (gQ J) (aG Y (gQ (by split at hkt<;>omega)) (sA rfl)))⟩
 refine wcp false Y (jQ h1) (go 15 ?_)
 exact bHe (s':=⟨bx,rw⟩) Y sb0 ⟨aPy (by rw [cSx];have hkl:k=l.length:=J;subst hkl;rw [List.take_length]),Y⟩
theorem cVy:∀(N:Nat)(l:List aJ),szL l <= N -> N <= 1000000000 -> ∀s:Sto,aL prog 30 [.c (Sq encS l)] [] s λt s'=>t=Ci ((szL l:Nat):Int) /\ s'=s
 |0,l,h,hN,s=>cUl l J (λk hk=>absurd (cSx l) J) s
 |N+1,l,h,hN,s=>cUl l J (λk hk s=>by
   have h1:=cSx l
   have h2:=cT2 l k hk
   have h3:=cTx l (k+1)
   unfold exS at h2
   exact ⟨cVy N _ J J s,cVy N _ J J s⟩) s
structure MW (gg gm gf gk gl:Nat) (gs ms fs lk lo:Vis) (rw:List bA):Prop where
 gg:cR3 gg 0 evI gs∈rw
 gm:cR3 gm 0 evI ms∈rw
 gf:cR3 gf 0 evI fs∈rw
 gk:cR3 gk 0 evI lk∈rw
 gl:cR3 gl 0 evI lo∈rw
theorem MW.cons{gg gm gf gk gl:Nat}{gs ms fs lk lo:Vis}{rw:List bA}{r:bA}(h:MW gg gm gf gk gl gs ms fs lk lo rw):MW gg gm gf gk gl gs ms fs lk lo (r::rw):=⟨by simp [h.gg],by simp [h.gm],by simp [h.gf],by simp [h.gk],by simp [h.gl]⟩
theorem cUi(A B:List Box)(D gg gm gf gk gl:Nat)(p:cK)(l:List cFc)(gs ms fs lk lo:Vis)(c5 c6 c7 c8:AC)(rw:List bA)(hM:MR gs ms fs lk lo l)(hW:MW gg gm gf gk gl gs ms fs lk lo rw)(e:aH)(hN:e.nodes <= 1000000000)(hE:cFf l e=0)(ih:¬e.op=2 -> ∀k (h:k<e.args.length) (A:List Box) (rw:List bA),MW gg gm gf gk gl gs ms fs lk lo rw -> aL prog 174 [pP D,.agg (cU e.args[k])] [] ⟨A++⟨D,127,[Vm gg,Vm gm,Vm gf,Vm gl,Vm gk,c5,c6,c7,c8]⟩::B,rw⟩ λt s'=>t=.agg (cU (cFk l e.args[k])) /\ s'=⟨A++⟨D,127,[Vm gg,Vm gm,Vm gf,Vm gl,Vm gk,c5,c6,c7,c8]⟩::B,rw⟩):aL prog 174 [pP D,.agg (cU e)] [] ⟨A++⟨D,127,[Vm gg,Vm gm,Vm gf,Vm gl,Vm gk,c5,c6,c7,c8]⟩::B,rw⟩ λt s'=>t=.agg (cU (cFk l e)) /\ s'=⟨A++⟨D,127,[Vm gg,Vm gm,Vm gf,Vm gl,Vm gk,c5,c6,c7,c8]⟩::B,rw⟩:=by
 have hlen:=uC e
 refine acX 56 func174 ?_
 refine go 11 λb1 b2=>?_
 by_cases h1:e.op=2
 ·refine wcp true Y (eR h1) (go 5 ?_)
  refine dx [b2,b1,D,gg,gm,gf,gk,gl] (tz [(0,true),(1,true),(2,true),(3,true),(4,true),(5,true)] 6 (go 7 ?_))
  refine tx 6 Y (cS2 lo Y Y Y (by simp [hW.gl]) underlying125 underlying9 zeroValue3 Cf) (tz [(7,true),(8,true),(9,true),(10,true),(11,true)] 0 (go 6 ?_))
  refine ax (go 6 ?_)
  refine gY Y (λh3=>?_) (λh3=>?_)
  ·refine go 10 ?_
   exact ⟨.inr Y,_,⟨A++⟨D,127,[Vm gg,Vm gm,Vm gf,Vm gl,Vm gk,c5,c6,c7,c8]⟩::B,rw⟩,aR Y (aCn (Wk.agg (.r (.r (.r (.n .nil))))) (aO [] Y Y isAgg59 sizeOf59 (bK Y Y))),aA (.cons _ (.cons _ (.refl _))) (.refl _),by rw [cIs,if_pos J,hM.lo_name h3];rfl,Y⟩
  refine go 3 ?_
  refine bTy 8 [b2,b1,D,gg,gm,gf,gk,gl] [] #[true,true,true,true,true,true,true,true,false] B6 B6 B6 ?_
  refine tz [(0,true),(1,true),(2,true),(3,true),(4,true),(5,true)] 2 (go 7 ?_)
  refine tx 6 Y (cAm gs Y Y Y (by simp [hW.gg]) underlying125 underlying9 zeroValue3 Cf) (tz [(7,true)] 0 (go 2 ?_))
  refine ax ?_
  refine id ?_
  refine tz [(8,false)] 0 (go 2 ?_)
  refine ax (go 3 ?_)
  exact ⟨.inr Y,_,⟨A++⟨D,127,[Vm gg,Vm gm,Vm gf,Vm gl,Vm gk,c5,c6,c7,c8]⟩::B,rw⟩,aR Y (aCn (Wk.agg (.r (.r (.r (.n .nil))))) (aO [] Y Y isAgg59 sizeOf59 (bK Y Y))),aA (.cons _ (.cons _ (.refl _))) (.refl _),by rw [cIs,if_pos J,hM.gs_name h3 (by rw [cIj,if_pos J] at hE;exact hE)];rfl,Y⟩
 refine wcp false Y (eD h1) (go 26 λb3=>?_)
 refine qR 59 4 ?_
 refine bMj (α:=Value) (λ_ _=>True) (e.args.length) 42 (λg=>aY g++[b3,b2,b1]) (λk g=>⟨⟨b3,59,[Vi e.op,Vi e.num,Vs aK,.val g]⟩::⟨b2,59,[Vi 0,Vi 0,Vs aK,Nl]⟩::⟨b1,59,cU e⟩::A++⟨D,127,[Vm gg,Vm gm,Vm gf,Vm gl,Vm gk,c5,c6,c7,c8]⟩::B,⟨g,59,4,k,((e.args.take k).map (cFk l)).flatMap fO⟩::rw⟩) (λ_=>[(0,pP D),(4,pP b2),(7,pP b3),(40,.c (Sq fO e.args)),(41,nI e.args.length)]) (.slice none 0 0) trivial (cQf BU) ?_
 rintro k v hk -
 try dsimp only
 refine go 2 ?_
 by_cases h5:((k:Nat):Int)<((e.args.length:Nat):Int)
 ·refine wcp true Y (jZ h5) (go 10 ?_)
  refine wyz Y (bH fO cU e.args iU fP k Y Y Y Y J V runUnderlying57 sizeOf59) (go 5 λb4=>?_)
  refine bTy 7 [b4,b3,b2,b1,D] [] #[true,true,true,true,true,true,true,false,false] B6 B6 B6 ?_
  refine tz [(0,true),(1,true),(2,true),(3,true)] 3 (go 5 ?_)
  refine ox 4 Y Y (bV Y Y V call174 Y (ih J k J (_::_::_::_::A) (_::rw) hW.cons) ?_)
  rintro _ _ ⟨rfl,rfl⟩
  refine ox 5 Y Y (bDk (hf:=aV fO cU (cFk l e.args[k]) (fP _) Y Y) bDo ?_)
  refine ox 6 Y Y (bDm [] cV0 Y (aFz fO 4 iU _) V B1 J (N:=k+1) Y (λhn b hb=>qM (r:=(⟨v,59,4,k,((e.args.take k).map (cFk l)).flatMap fO⟩:bA)) G0 hn hb) cFh.h (r:=((e.args.take (k+1)).map (cFk l)).flatMap fO) (cHm (cFk l) fO e.args k J) λw5=>?_)
  refine ax ?_
  refine id ?_
  refine tz [(7,true),(8,false)] 0 (go 3 ?_)
  refine ax (go 3 ?_)
  refine wad Y (go 2 ?_)
  exact ⟨J,w5,trivial,cQf (h1:=(.cons _ (.refl _))) (h:=aG Y (gQ J) (sA Y)) BP⟩
 refine wcp false Y (jQ h5) (go 11 ?_)
 obtain rfl:k=e.args.length:=J
 rw [List.take_length]
 refine aAg (cs':=[Vi e.op,Vi e.num,Vs aK,.sl e.args.length ((e.args.map (cFk l)).flatMap fO)]) [] 3 Y Y ?_
 show eQ prog _ _ ⟨_,_,⟨⟨b3,59,[Vi e.op,Vi e.num,Vs aK,.sl e.args.length ((e.args.map (cFk l)).flatMap fO)]⟩::⟨b2,59,[Vi 0,Vi 0,Vs aK,Nl]⟩::⟨b1,59,cU e⟩::A++⟨D,127,[Vm gg,Vm gm,Vm gf,Vm gl,Vm gk,c5,c6,c7,c8]⟩::B,rw⟩,_⟩ _
 refine go 5 ?_
 exact ⟨.inr Y,_,⟨A++⟨D,127,[Vm gg,Vm gm,Vm gf,Vm gl,Vm gk,c5,c6,c7,c8]⟩::B,rw⟩,aR Y (aO [_] Y Y isAgg59 sizeOf59 (bK Y Y)),aA (.cons _ (.cons _ (.cons _ (.refl _)))) (.refl _),by rw [cIs,if_neg J];show _=AT.agg [_,_,_,.sl (e.args.map (cFk l)).length _];rw [List.length_map];rfl,Y⟩
theorem cSj:∀(N:Nat)(e:aH),e.nodes <= N -> N <= 1000000000 -> ∀(A B:List Box)(D gg gm gf gk gl:Nat)(p:cK)(l:List cFc)(gs ms fs lk lo:Vis)(c5 c6 c7 c8:AC)(rw:List bA)(hM:MR gs ms fs lk lo l)(hW:MW gg gm gf gk gl gs ms fs lk lo rw)(hE:cFf l e=0),aL prog 174 [pP D,.agg (cU e)] [] ⟨A++⟨D,127,[Vm gg,Vm gm,Vm gf,Vm gl,Vm gk,c5,c6,c7,c8]⟩::B,rw⟩ λt s'=>t=.agg (cU (cFk l e)) /\ s'=⟨A++⟨D,127,[Vm gg,Vm gm,Vm gf,Vm gl,Vm gk,c5,c6,c7,c8]⟩::B,rw⟩
 |0,e,h,_=>Bm
 |N+1,e,h,hN=>λA B D gg gm gf gk gl p l gs ms fs lk lo c5 c6 c7 c8 rw hM hW hE=>by
  exact cUi A B D gg gm gf gk gl p l gs ms fs lk lo c5 c6 c7 c8 rw hM hW e J hE λh2 k hk A rw hW=>cSj N e.args[k] B0 J A B D gg gm gf gk gl p l gs ms fs lk lo c5 c6 c7 c8 rw hM hW (cSr l e.args (by rw [cIj,if_neg h2] at hE;exact hE) k hk)
theorem cTh(A B:List Box)(D gg gm gf gk gl:Nat)(p:cK)(l:List cFc)(gs ms fs lk lo:Vis)(c5 c6 c7 c8:AC)(rw:List bA)(hM:MR gs ms fs lk lo l)(hW:MW gg gm gf gk gl gs ms fs lk lo rw)(r:cY)(hN:cZ r.index <= 1000000000)(hE:cGo p l r=0):aL prog 177 [pP D,.agg (encR r)] [] ⟨A++⟨D,127,[Vm gg,Vm gm,Vm gf,Vm gl,Vm gk,c5,c6,c7,c8]⟩::B,rw⟩ λt s'=>t=.agg (cF7 (cG6 l r)) /\ s'=⟨A++⟨D,127,[Vm gg,Vm gm,Vm gf,Vm gl,Vm gk,c5,c6,c7,c8]⟩::B,rw⟩:=by
 have hix:∀k (h:k<r.index.length),r.index[k].nodes <= 1000000000:=λk h=>by have:=nM r.index k h;omega
 have hlen:=tN r.index
 refine acX 48 func177 ?_
 refine go 8 λb1 b2=>?_
 refine dx [b2,b1,D,gg,gm,gf,gk,gl] (tz [(0,true),(1,true),(2,true),(3,true),(4,true),(5,true)] 6 (go 7 ?_))
 refine tx 6 Y (cS2 lk Y Y Y (by simp [hW.gk]) underlying125 underlying9 zeroValue3 Cf) (tz [(7,true),(8,true),(9,true),(10,true),(11,true)] 0 (go 6 ?_))
 refine ax (go 6 ?_)
 refine gY Y (λh1=>?_) (λh1=>?_)
 ·refine go 9 ?_
  obtain ⟨nr,hr1,hr2⟩:=hM.lk_ref h1 hE
  exact ⟨.inr Y,_,⟨A++⟨D,127,[Vm gg,Vm gm,Vm gf,Vm gl,Vm gk,c5,c6,c7,c8]⟩::B,rw⟩,aR Y (aCn (Wk.agg (.r (.r (.n .nil)))) (aO [] Y Y isAgg61 sizeOf61 (bK Y Y))),aA (.cons _ (.cons _ (.refl _))) (.refl _),by rw [hr2];unfold cF7;dsimp only;rw [hr1];rfl,Y⟩
 refine go 3 ?_
 refine bTy 9 [b2,b1,D,gg,gm,gf,gk,gl] [] #[true,true,true,true,true,true,true,true,true,false] B6 B6 B6 ?_
 refine tz [(0,true),(1,true),(2,true),(3,true),(4,true),(5,true)] 3 (go 7 ?_)
 refine tx 6 Y (cAm ms Y Y Y (by simp [hW.gm]) underlying125 underlying9 zeroValue3 Cf) (tz [(7,true),(8,false)] 0 (go 3 λb3=>?_))
 refine ax ?_
 refine id ?_
 refine tz [(9,false)] 0 (go 2 ?_)
 refine ax (go 11 ?_)
 refine qR 59 4 ?_
 refine bMj (α:=Value) (λ_ _=>True) (r.index.length) 34 (λg=>aY g++[b3,b2,b1]) (λk g=>⟨⟨b3,61,[Vb false,Vi (bZp ms r.name),.val g]⟩::⟨b2,61,[Vb false,Vi 0,Nl]⟩::⟨b1,142,encR r⟩::A++⟨D,127,[Vm gg,Vm gm,Vm gf,Vm gl,Vm gk,c5,c6,c7,c8]⟩::B,⟨g,59,4,k,((r.index.take k).map (cFk l)).flatMap fO⟩::rw⟩) (λ_=>[(0,pP D),(4,pP b2),(7,pP b3),(32,.c (Sq fO r.index)),(33,nI r.index.length)]) (.slice none 0 0) trivial (cQf BU) ?_
 rintro k v hk -
 try dsimp only
 refine go 2 ?_
 by_cases h2:((k:Nat):Int)<((r.index.length:Nat):Int)
 ·refine wcp true Y (jZ h2) (go 10 ?_)
  refine wyz Y (bH fO cU r.index iU fP k Y Y Y Y J V runUnderlying57 sizeOf59) (go 5 λb4=>?_)
  refine bTy 7 [b4,b3,b2,b1,D] [] #[true,true,true,true,true,true,true,false,false] B6 B6 B6 ?_
  refine tz [(0,true),(1,true),(2,true),(3,true)] 3 (go 5 ?_)
  refine ox 4 Y Y (bV Y Y V call174 Y (cSj _ r.index[k] (Nat.le_refl _) (hix k J) (_::_::_::_::A) B D gg gm gf gk gl p l gs ms fs lk lo _ _ _ _ (_::rw) hM hW.cons (cVh hE k J)) ?_)
  rintro _ _ ⟨rfl,rfl⟩
  refine ox 5 Y Y (bDk (hf:=aV fO cU (cFk l r.index[k]) (fP _) Y Y) bDo ?_)
  refine ox 6 Y Y (bDm [] cV0 Y (aFz fO 4 iU _) V B1 J (N:=k+1) Y (λhn b hb=>qM (r:=(⟨v,59,4,k,((r.index.take k).map (cFk l)).flatMap fO⟩:bA)) G0 hn hb) cFh.h (r:=((r.index.take (k+1)).map (cFk l)).flatMap fO) (cHm (cFk l) fO r.index k J) λw5=>?_)
  refine ax ?_
  refine id ?_
  refine tz [(7,true),(8,false)] 0 (go 3 ?_)
  refine ax (go 3 ?_)
  refine wad Y (go 2 ?_)
  exact ⟨J,w5,trivial,cQf (h1:=(.cons _ (.refl _))) (h:=aG Y (gQ J) (sA Y)) BP⟩
 refine wcp false Y (jQ h2) (go 11 ?_)
 obtain rfl:k=r.index.length:=J
 rw [List.take_length]
 refine aAg (cs':=[Vb false,Vi (bZp ms r.name),.sl r.index.length ((r.index.map (cFk l)).flatMap fO)]) [] 2 Y Y ?_
 show eQ prog _ _ ⟨_,_,⟨⟨b3,61,[Vb false,Vi (bZp ms r.name),.sl r.index.length ((r.index.map (cFk l)).flatMap fO)]⟩::⟨b2,61,[Vb false,Vi 0,Nl]⟩::⟨b1,142,encR r⟩::A++⟨D,127,[Vm gg,Vm gm,Vm gf,Vm gl,Vm gk,c5,c6,c7,c8]⟩::B,rw⟩,_⟩ _
 refine go 5 ?_
 obtain ⟨nr,hr1,hr2⟩:=hM.ms_ref h1 hE
 exact ⟨.inr Y,_,⟨A++⟨D,127,[Vm gg,Vm gm,Vm gf,Vm gl,Vm gk,c5,c6,c7,c8]⟩::B,rw⟩,aR Y (aO [_] Y Y isAgg61 sizeOf61 (bK Y Y)),aA (.cons _ (.cons _ (.cons _ (.refl _)))) (.refl _),by rw [hr2];unfold cF7;dsimp only;rw [hr1];first|rw [List.length_map]|(unfold Sq;rw [List.length_map]),Y⟩
theorem cUw(A B:List Box)(D gg gm gf gk gl:Nat)(p:cK)(l:List cFc)(gs ms fs lk lo:Vis)(c5 c6 c7 c8:AC)(rw:List bA)(hM:MR gs ms fs lk lo l)(hW:MW gg gm gf gk gl gs ms fs lk lo rw)(x:ByteArray)(e:aH)(hv:(bZu lo x).isSome=false -> cGq l x=0):aL prog 175 [pP D,Cs x,.agg (cU e)] [] ⟨A++⟨D,127,[Vm gg,Vm gm,Vm gf,Vm gl,Vm gk,c5,c6,c7,c8]⟩::B,rw⟩ λt s'=>t=.agg (encI ⟨1,(cFb l x).n,decide ((cFb l x).kind=1),e,plZ,[],[]⟩) /\ s'=⟨A++⟨D,127,[Vm gg,Vm gm,Vm gf,Vm gl,Vm gk,c5,c6,c7,c8]⟩::B,rw⟩:=by
 refine acX 30 func175 ?_
 refine go 14 λb1 b2=>?_
 refine wyz Y (cS2 lo Y Y Y (by simp [hW.gl]) underlying125 underlying9 zeroValue3 Bu) (go 12 ?_)
 refine gY Y (λh1=>?_) (λh1=>?_)
 focus
  refine go 10 ?_
  obtain ⟨nx,hx1,hx2⟩:=hM.lo_in h1
 rotate_left
 refine go 3 ?_
 refine bTy 8 [b2,b1,D,gg,gm,gf,gk,gl] [] #[true,true,true,true,true,true,true,true,false] B6 B6 B6 ?_
 refine tz [(0,true),(1,true),(2,true),(3,true),(4,true)] 3 (go 6 ?_)
 refine tx 5 Y (cAm gs Y Y Y (by simp [hW.gg]) underlying125 underlying9 zeroValue3 Cf) (tz [(6,true),(7,true)] 0 (go 3 ?_))
 refine ax ?_
 refine id ?_
 refine tz [(8,false)] 0 (go 2 ?_)
 refine ax (go 2 ?_)
 obtain ⟨nx,hx1,hx2⟩:=hM.gs_in h1 (hv h1)
 all_goals
  exact ⟨.inr Y,_,⟨A++⟨D,127,[Vm gg,Vm gm,Vm gf,Vm gl,Vm gk,c5,c6,c7,c8]⟩::B,rw⟩,aR Y (aCn (Wk.agg (.r (.r (.r (.r (.r (.r (.r (.r (.r (.n (.n (.n .nil))))))))))))) (aO [] Y Y isAgg64 sizeOf64 (bK Y Y))),aA (.cons _ (.cons _ (.refl _))) (.refl _),by rw [hx2];unfold encI;dsimp only;rw [hx1];rfl,Y⟩
theorem cVf(A B:List Box)(D gg gm gf gk gl:Nat)(p:cK)(l:List cFc)(gs ms fs lk lo:Vis)(c5 c6 c7 c8:AC)(rw:List bA)(hM:MR gs ms fs lk lo l)(hW:MW gg gm gf gk gl gs ms fs lk lo rw)(y:aJ)(hw:y.wt <= 900000000)(hE:cFy p l y=0):aL prog 176 [pP D,Ci (if y.kind=4 then 3 else 2),.agg (dG y)] [] ⟨A++⟨D,127,[Vm gg,Vm gm,Vm gf,Vm gl,Vm gk,c5,c6,c7,c8]⟩::B,rw⟩ λt s'=>t=.agg (encI (cGn p l y)) /\ s'=⟨A++⟨D,127,[Vm gg,Vm gm,Vm gf,Vm gl,Vm gk,c5,c6,c7,c8]⟩::B,rw⟩:=by
 have hwp:=gD y
 have hal:=aCj y.args
 have hak:∀k (h:k<y.args.length),y.args[k].expr.nodes <= 900000000 /\ cZ y.args[k].ref.index <= 900000000:=λk h=>by have h1:=aDf y.args k h;unfold eN.wt cY.wt at h1;omega
 obtain ⟨nf,hf1,hf2,hall⟩:=hM.fs_call hE
 refine acX 48 func176 ?_
 refine go 7 λb1 b2=>?_
 refine bTy 10 [b2,b1,D,gg,gm,gf,gk,gl] [] #[true,true,true,true,true,true,true,true,true,true,false] B6 B6 B6 ?_
 refine tz [(0,true),(1,true),(2,true),(3,true),(4,true),(5,true),(6,true)] 3 (go 8 ?_)
 refine tx 7 Y (cAm fs Y Y Y (by simp [hW.gf]) underlying125 underlying9 zeroValue3 Cf) (tz [(8,true),(9,false)] 0 (go 3 λb3=>?_))
 refine ax ?_
 refine id ?_
 refine tz [(10,false)] 0 (go 2 ?_)
 refine ax (go 11 ?_)
 refine qR 61 3 ?_
 refine qR 59 4 ?_
 refine bMj (α:=Value×Value) (λ_ _=>True) (y.args.length) 22 (λg=>aY g.1++(aY g.2++[b3,b2,b1])) (λk g=>⟨⟨b3,64,[Vi (if y.kind=4 then 3 else 2),Vi (bZp fs y.name),Vb false,Vi 0,Vi 0,Vs aK,Nl,Vb false,Vi 0,Nl,.val g.1,.val g.2]⟩::⟨b2,64,[Vi 0,Vi 0,Vb false,Vi 0,Vi 0,Vs aK,Nl,Vb false,Vi 0,Nl,Nl,Nl]⟩::⟨b1,145,dG y⟩::A++⟨D,127,[Vm gg,Vm gm,Vm gf,Vm gl,Vm gk,c5,c6,c7,c8]⟩::B,⟨g.1,59,4,(cFn l (y.args.take k)).length,(cFn l (y.args.take k)).flatMap fO⟩::⟨g.2,61,3,(cF4 l (y.args.take k)).length,(cF4 l (y.args.take k)).flatMap cF7⟩::rw⟩) (λ_=>[(0,pP D),(6,pP b2),(7,pP b3),(20,.c (Sq eJ y.args)),(21,nI y.args.length)]) (.slice none 0 0,.slice none 0 0) trivial (cQf BU) ?_
 rintro k ⟨vi,vp⟩ hk -
 have hik:=cK5 l (y.args.take k)
 rw [List.length_take] at hik
 have hik2:min k y.args.length <= k:=Nat.min_le_left _ _
 try dsimp only
 refine go 2 ?_
 by_cases h1:((k:Nat):Int)<((y.args.length:Nat):Int)
 ·refine wcp true Y (jZ h1) (go 10 ?_)
  refine wyz Y (bH eJ eJ y.args iD (λ_=>Y) k Y Y Y Y J V runUnderlying143 sizeOf161) (go 8 λb4=>?_)
  rcases Bool.eq_false_or_eq_true (y.args[k].mutex) with h3|h3
  ·refine wyz Y (fL (bZ h3)) (go 3 ?_)
   refine bTy 8 [b4,b3,b2,b1,D] [] #[true,true,true,true,true,true,true,true,false,false] B6 B6 B6 ?_
   refine tz [(0,true),(1,true),(2,true),(3,true),(4,true)] 3 (go 6 ?_)
   refine ox 5 Y Y (bV Y Y V call177 Y (cTh (_::_::_::_::A) B D gg gm gf gk gl p l gs ms fs lk lo _ _ _ _ (_::_::rw) hM ((hW.cons).cons) y.args[k].ref De GE) ?_)
   rintro _ _ ⟨rfl,rfl⟩
   refine ox 6 Y Y (wbs Tryz.t61 [Vb false,Vi 0,Nl] Y Y V (.cons Y .nil) underlying62 B6 Y V V B6 B6 (aV cF7 cF7 (cG6 l y.args[k].ref) Y Y Y) ?_)
   refine ox 7 Y Y (bDm [_] cYa Y (aFz cF7 3 cJ7 _) V Ez J (@length_append _ (cF4 l (y.args.take k)) [(cG6 l y.args[k].ref)]).symm (λhn b hb=>qM (r:=(⟨vp,61,3,(cF4 l (y.args.take k)).length,(cF4 l (y.args.take k)).flatMap cF7⟩:bA)) G0 hn hb) cFh.h (List.flatMap_append (f:=cF7)).symm λw5=>?_)
   refine ax ?_
   refine id ?_
   refine tz [(8,true),(9,false)] 0 (go 3 ?_)
   refine ax (go 3 ?_)
   refine wad Y (go 2 ?_)
   obtain ⟨he1,he2⟩:=cLq (l:=l) (k:=k) (al:=y.args) J h3
   exact ⟨J,(vi,w5),trivial,FF⟩
  refine wyz Y (fL (bZ h3)) (go 3 ?_)
  refine bTy 8 [b4,b3,b2,b1,D] [] #[true,true,true,true,true,true,true,true,false,false] B6 B6 B6 ?_
  refine tz [(0,true),(1,true),(2,true),(3,true),(4,true)] 3 (go 6 ?_)
  refine ox 5 Y Y (bV Y Y V call174 Y (cSj _ y.args[k].expr (Nat.le_refl _) De (_::_::_::_::A) B D gg gm gf gk gl p l gs ms fs lk lo _ _ _ _ (_::_::rw) hM ((hW.cons).cons) GE) ?_)
  rintro _ _ ⟨rfl,rfl⟩
  refine ox 6 Y Y (bDk (hf:=aV fO cU (cFk l y.args[k].expr) (fP _) Y Y) bDo ?_)
  refine ox 7 Y Y (bDm [] cV0 Y (aFz fO 4 iU _) V Ez J (@length_append _ (cFn l (y.args.take k)) [(cFk l y.args[k].expr)]).symm (λhn b hb=>qM (r:=(⟨vi,59,4,(cFn l (y.args.take k)).length,(cFn l (y.args.take k)).flatMap fO⟩:bA)) G0 hn hb) cFh.h (List.flatMap_append (f:=fO)).symm λw6=>?_)
  refine ax ?_
  refine id ?_
  refine tz [(8,true),(9,false)] 0 (go 3 ?_)
  refine ax (go 3 ?_)
  refine wad Y (go 2 ?_)
  obtain ⟨he1,he2⟩:=cLr (l:=l) (k:=k) (al:=y.args) J h3
  exact ⟨J,(w6,vp),trivial,FF⟩
 refine wcp false Y (jQ h1) (go 11 ?_)
 obtain rfl:k=y.args.length:=J
 rw [List.take_length]
 refine aAg (cs':=[Vi (if y.kind=4 then 3 else 2),Vi (bZp fs y.name),Vb false,Vi 0,Vi 0,Vs aK,Nl,Vb false,Vi 0,Nl,.sl (cFn l y.args).length ((cFn l y.args).flatMap fO),.val vp]) [] 10 Y Y ?_
 show eQ prog _ _ ⟨_,_,⟨⟨b3,64,[Vi (if y.kind=4 then 3 else 2),Vi (bZp fs y.name),Vb false,Vi 0,Vi 0,Vs aK,Nl,Vb false,Vi 0,Nl,.sl (cFn l y.args).length ((cFn l y.args).flatMap fO),.val vp]⟩::⟨b2,64,[Vi 0,Vi 0,Vb false,Vi 0,Vi 0,Vs aK,Nl,Vb false,Vi 0,Nl,Nl,Nl]⟩::⟨b1,145,dG y⟩::A++⟨D,127,[Vm gg,Vm gm,Vm gf,Vm gl,Vm gk,c5,c6,c7,c8]⟩::B,⟨vp,61,3,(cF4 l y.args).length,(cF4 l y.args).flatMap cF7⟩::rw⟩,_⟩ _
 refine aAg (cs':=[Vi (if y.kind=4 then 3 else 2),Vi (bZp fs y.name),Vb false,Vi 0,Vi 0,Vs aK,Nl,Vb false,Vi 0,Nl,.sl (cFn l y.args).length ((cFn l y.args).flatMap fO),.sl (cF4 l y.args).length ((cF4 l y.args).flatMap cF7)]) [] 11 Y Y ?_
 show eQ prog _ _ ⟨_,_,⟨⟨b3,64,[Vi (if y.kind=4 then 3 else 2),Vi (bZp fs y.name),Vb false,Vi 0,Vi 0,Vs aK,Nl,Vb false,Vi 0,Nl,.sl (cFn l y.args).length ((cFn l y.args).flatMap fO),.sl (cF4 l y.args).length ((cF4 l y.args).flatMap cF7)]⟩::⟨b2,64,[Vi 0,Vi 0,Vb false,Vi 0,Vi 0,Vs aK,Nl,Vb false,Vi 0,Nl,Nl,Nl]⟩::⟨b1,145,dG y⟩::A++⟨D,127,[Vm gg,Vm gm,Vm gf,Vm gl,Vm gk,c5,c6,c7,c8]⟩::B,rw⟩,_⟩ _
 refine go 5 ?_
 exact ⟨.inr Y,_,⟨A++⟨D,127,[Vm gg,Vm gm,Vm gf,Vm gl,Vm gk,c5,c6,c7,c8]⟩::B,rw⟩,aR Y (aCn (Wk.agg (.r (.r (.r (.r (.r (.r (.n (.r (.r (.n (.r (.r .nil))))))))))))) (aO [_] Y Y isAgg64 sizeOf64 (bK Y Y))),aA (.cons _ (.cons _ (.cons _ (.refl _)))) (.refl _),by rw [hf2];unfold encI;dsimp only;rw [hf1];rfl,Y⟩
end
end Go.Proofs.YtkfdfhcdmmlfmaaGreatDoor
