import Derived.Test.YtjgeihmhppadaaaGreatDoorRG23J
set_option linter.all false
set_option synthInstance.maxHeartbeats 1000000
set_option synthInstance.maxSize 1000000
namespace Go.Proofs.YtjgeihmhppadaaaGreatDoor
open List (length_append length_cons length_nil mem_append mem_cons not_mem_nil append_assoc getElem_mem take_of_length_le)
section
theorem cR4{q:ES}{e:Nat}{s:Int}(h:(cFg q e s).1=0):q.1=0 /\ e=0:=by
 unfold cFg at h
 split at h
 ·rename_i h1;exact ⟨h1.1,h⟩
 rename_i h1
 refine ⟨h,?_⟩
 rcases Nat.eq_zero_or_pos e with h2|h2
 ·exact h2
 exact absurd ⟨h,J⟩ h1
theorem cUr{p:cK}{s:aJ}{x:LS}(h:(cFu p s x).q.1=0):x.q.1=0:=by
 unfold cFu at h
 split at h
 ·exact (cR4 h).1
 split at h
 ·exact (cR4 h).1
 split at h
 ·exact (cR4 h).1
 split at h
 ·exact (cR4 h).1
 split at h<;>exact (cR4 h).1
mutual
theorem cVa(p:cK):∀(s:aJ)(x:LS),(cFs p s x).q.1=0 -> x.q.1=0
 |.mk k name e r args t f,x,h=>by
  rw [cFs] at h
  split at h
  ·split at h
   ·exact (cR4 (cR6 p t (x.branch e) h)).1
   exact (cR4 (cR6 p t (x.branch e) (cR6 p f ((((x.branch e).back (cFe p t (x.branch e))).put (opI 7 .zero) x.n).patch x.code.length) h))).1
  split at h
  ·exact (cR4 (cR6 p t (x.branch e) h)).1
  exact cUr h
theorem cR6(p:cK):∀(l:List aJ)(x:LS),(cFe p l x).q.1=0 -> x.q.1=0
 |[],x,h=>by rw [cFe] at h;exact h
 |s::l,x,h=>by rw [cFe] at h;exact cVa p s x (cR6 p l _ h)
end
structure NoE (p:cK) (s:aJ) (x:LS):Prop where
 var:s.kind=1 -> cFv x.ents s.name=0 /\ cFf x.ents s.expr=0
 set:s.kind=2 -> cGq x.ents s.name=0 /\ cFf x.ents s.expr=0
 call:s.kind=3∨s.kind=4 -> cFy p x.ents s=0
 lock:s.kind=5∨s.kind=6 -> cGo p x.ents s.ref=0
 cond:s.kind=7∨s.kind=8 -> cFf x.ents s.expr=0 /\ (cFe p s.thn (x.branch s.expr)).q.1=0
 els:s.kind=7 -> s.els.length≠0 -> (cFe p s.els (((cRs p s.thn (x.branch s.expr)).put (opI 7 .zero) x.n).patch x.code.length)).q.1=0
theorem cUh{p:cK}{s:aJ}{x:LS}(h:(cFs p s x).q.1=0):NoE p s x:=by
 rw [cFz] at h
 refine ⟨λhk=>?_,λhk=>?_,λhk=>?_,λhk=>?_,λhk=>?_,λhk hl=>?_⟩
 ·rw [if_neg J,if_neg J] at h
  unfold cFu at h;rw [if_pos hk] at h
  exact cR7 (cR4 h).2
 ·rw [if_neg J,if_neg J] at h
  unfold cFu at h;rw [if_neg J,if_pos hk] at h
  exact cR7 (cR4 h).2
 ·rw [if_neg J,if_neg J] at h
  unfold cFu at h;rw [if_neg J,if_neg J,if_pos hk] at h
  exact (cR4 h).2
 ·rw [if_neg J,if_neg J] at h
  unfold cFu at h;rw [if_neg J,if_neg J,if_neg J] at h
  by_cases h5:s.kind=5
  ·rw [if_pos h5] at h;exact (cR4 h).2
  rw [if_neg h5,if_pos J] at h;exact (cR4 h).2
 ·by_cases h7:s.kind=7
  ·rw [if_pos h7] at h
   by_cases hl:s.els.length=0
   ·rw [if_pos hl] at h
    exact ⟨(cR4 (cR6 p _ _ h)).2,h⟩
   rw [if_neg hl] at h
   have h1:=cR6 p _ _ h
   exact ⟨(cR4 (cR6 p _ (x.branch s.expr) h1)).2,h1⟩
  rw [if_neg h7,if_pos J] at h
  exact ⟨(cR4 (cR6 p _ _ h)).2,h⟩
 rw [if_pos hk,if_neg hl] at h;exact h
theorem cTq(p:cK)(s:aJ)(x:LS):(cFs p s x).ents=if s.kind=1 then x.ents++[⟨s.name,4,x.locals⟩] else x.ents:=by
 rw [cFz]
 by_cases h1:s.kind=1
 ·rw [if_neg J,if_neg J,if_pos h1]
  unfold cFu;rw [if_pos h1];rfl
 rw [if_neg h1]
 split
 ·split<;>rfl
 split
 ·rfl
 unfold cFu
 rw [if_neg h1]
 split
 ·rfl
 split
 ·rfl
 split
 ·rfl
 split<;>rfl
theorem cTj{l:List cFc}{e:cFc}{s:ByteArray}(h:cFa (l++[e]) s=none):cFa l s=none /\ e.name≠s:=by
 rw [cGu] at h
 rcases h1:cFa l s with _|v
 ·rw [h1] at h;dsimp only at h;split at h
  ·cases h
  exact ⟨Y,Dp⟩
 rw [h1] at h;cases h
theorem cUc{l:List cFc}{s:ByteArray}(h:cFv l s=0):cFa l s=none:=by
 unfold cFv at h
 rcases h1:cFa l s with _|v
 ·rfl
 rw [h1] at h;cases h
theorem cTv(p:cK):∀(l:List aJ)(x:LS),(cFe p l x).q.1=0 -> ∀s,((∃t,t∈l /\ t.kind=1 /\ t.name=s) -> cFa x.ents s=none) /\ ((¬∃t,t∈l /\ t.kind=1 /\ t.name=s) -> cFa (cFe p l x).ents s=cFa x.ents s)
 |[],x,_,s=>⟨λ⟨t,ht,_⟩=>(by cases ht),λ_=>by rw [cFe]⟩
 |a::l,x,h,s=>by
  rw [cFe] at h⊢
  obtain ⟨i1,i2⟩:=cTv p l (cFs p a x) h s
  have hn:=cUh (cR6 p l _ h)
  rw [cTq] at i1 i2
  refine ⟨λ⟨t,ht,hk,hs⟩=>?_,λhno=>?_⟩
  ·by_cases ha:a.kind=1 /\ a.name=s
   ·rw [←ha.2];exact cUc (hn.var ha.1).1
   have ht':t∈l:=by
    rcases mem_cons.1 ht with rfl|ht
    ·exact absurd ⟨hk,hs⟩ ha
    exact ht
   have h1:=i1 ⟨t,ht',hk,hs⟩
   split at h1
   ·exact (cTj h1).1
   exact h1
  rw [i2 (λ⟨t,ht,hk,hs⟩=>hno ⟨t,by simp [ht],hk,hs⟩)]
  split
  ·rename_i hk
   have hne:a.name≠s:=λhe=>hno ⟨a,G0,hk,he⟩
   rw [cGu]
   rcases cFa x.ents s with _|v
   ·show (if a.name=s then _ else none)=none
    rw [if_neg hne]
   rfl
  rfl
def cSe:List aJ -> Vis -> Vis
 |[],v=>v
 |s::l,v=>cSe l (if s.kind=1 then bZy v s.name else v)
theorem cTs:∀(l:List aJ)(v:Vis),KN v -> ∀s,((∃t,t∈l /\ t.kind=1 /\ t.name=s) -> bZu (cSe l v) s=none) /\ ((¬∃t,t∈l /\ t.kind=1 /\ t.name=s) -> bZu (cSe l v) s=bZu v s)
 |[],v,_,s=>⟨λ⟨t,ht,_⟩=>(by cases ht),λ_=>rfl⟩
 |a::l,v,hk,s=>by
  rw [cSe]
  obtain ⟨i1,i2⟩:=cTs l (if a.kind=1 then bZy v a.name else v) (by split;exact hk.del _;exact hk) s
  by_cases hin:∃t,t∈l /\ t.kind=1 /\ t.name=s
  ·exact ⟨λ_=>i1 hin,λhno=>absurd (by obtain ⟨t,h1,h2⟩:=hin;exact ⟨t,by simp [h1],h2⟩) hno⟩
  have h2:=i2 hin
  refine ⟨λ⟨t,ht,h3,h4⟩=>?_,λhno=>?_⟩
  ·rcases mem_cons.1 ht with rfl|ht
   ·rw [h2,if_pos h3,cD9 hk,if_pos h4]
   exact absurd ⟨t,ht,h3,h4⟩ hin
  rw [h2]
  split
  ·rename_i h3
   rw [cD9 hk,if_neg (λh4=>hno ⟨a,G0,h3,h4⟩)]
  rfl
theorem MR.var{gs ms fs lk lo:Vis}{l:List cFc}(m:MR gs ms fs lk lo l){s:ByteArray}(h:cFa l s=none)(n:Nat):MR gs ms fs lk (bZq lo s ((n:Nat):Int)) (l++[⟨s,4,n⟩]):=by
 refine ⟨λt=>?_,λt=>?_,λt v hv hk=>?_,λt v hv hk=>?_,λt v hv hk=>?_⟩
 ·rw [cBo,cGu,m.lo t]
  by_cases e:s=t
  ·subst e;rw [if_pos rfl,h];dsimp only;rw [if_pos rfl];rfl
  rw [if_neg e]
  rcases cFa l t with _|v
  ·dsimp only;rw [if_neg e]
  rfl
 ·rw [cGu,m.lk t]
  by_cases e:s=t
  ·subst e;rw [h];dsimp only;rw [if_pos rfl];rfl
  rcases cFa l t with _|v
  ·dsimp only;rw [if_neg e]
  rfl
 all_goals
  rw [cGu] at hv
  rcases h1:cFa l t with _|u
  ·rw [h1] at hv;dsimp only at hv;split at hv
   ·cases hv;cases hk
   cases hv
  rw [h1] at hv
  obtain rfl:=Option.some.inj hv
  first|exact m.gs t u h1 hk|exact m.ms t u h1 hk|exact m.fs t u h1 hk
theorem MR.block{gs ms fs lk lo lo':Vis}{p:cK}{l:List aJ}{x:LS}(m:MR gs ms fs lk lo x.ents)(m':MR gs ms fs lk lo' (cFe p l x).ents)(hk:KN lo')(hq:(cFe p l x).q.1=0):MR gs ms fs lk (cSe l lo') x.ents:=by
 refine ⟨λs=>?_,m.lk,m.gs,m.ms,m.fs⟩
 obtain ⟨d1,d2⟩:=cTs l lo' hk s
 obtain ⟨f1,f2⟩:=cTv p l x hq s
 by_cases h:∃t,t∈l /\ t.kind=1 /\ t.name=s
 ·rw [d1 h,f1 h]
 rw [d2 h,m'.lo s,f2 h]
end
end Go.Proofs.YtjgeihmhppadaaaGreatDoor
