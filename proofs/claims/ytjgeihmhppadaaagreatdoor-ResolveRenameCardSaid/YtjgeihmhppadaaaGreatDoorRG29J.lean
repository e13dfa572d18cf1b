import Derived.Test.YtjgeihmhppadaaaGreatDoorRG25J
import Derived.Test.YtjgeihmhppadaaaGreatDoorRG28J
set_option linter.all false
set_option synthInstance.maxHeartbeats 1000000
set_option synthInstance.maxSize 1000000
set_option maxHeartbeats 1600000
set_option maxRecDepth 100000
namespace Go.Proofs.YtjgeihmhppadaaaGreatDoor
open Go.Proofs.Tryz
open List (length_append length_cons length_nil mem_append mem_cons not_mem_nil append_assoc getElem_mem take_of_length_le)
section
open Go.RowKit
mutual
def aJ.cnt:aJ -> Nat|.mk _ _ _ _ _ t e=>1+bLh t+bLh e
def bLh:List aJ -> Nat
 |[]=>0
 |s::r=>s.cnt+bLh r
end
def bMl(l:List aJ):Nat:=(l.map λs=>bLh s.thn+bLh s.els).sum
theorem bQa(s:aJ):s.cnt=1+bLh s.thn+bLh s.els:=by cases s;rw [aJ.cnt];rfl
theorem bLo:∀l:List aJ,bLh l=l.length+bMl l
 |[]=>by rw [bLh];rfl
 |s::l=>by have:=bLo l;rw [bLh,bQa];unfold bMl at this⊢;simp only [List.map_cons,List.sum_cons,length_cons];omega
theorem bMr(l:List aJ)(k:Nat)(h:k<l.length):bMl (l.take (k+1))=bMl (l.take k)+(bLh l[k].thn+bLh l[k].els):=by
 unfold bMl;rw [List.take_succ_eq_append_getElem h,List.map_append,List.sum_append];simp
theorem bMe:∀(l:List aJ)(k:Nat),bMl (l.take k) <= bMl l
 |[],k=>G0
 |x::l,0=>by simp [bMl]
 |x::l,k+1=>by have:=bMe l k;unfold bMl at this⊢;simp only [List.take_succ_cons,List.map_cons,List.sum_cons];omega
mutual
theorem bR8:∀s:aJ,s.cnt <= s.wt
 |.mk k n e r a t el=>by
  have h1:=bNe t
  have h2:=bNe el
  rw [aJ.cnt,aJ.wt];omega
theorem bNe:∀l:List aJ,bLh l <= wtS l
 |[]=>by rw [bLh];omega
 |s::l=>by
  have h1:=bR8 s
  have h2:=bNe l
  rw [bLh,wtS];omega
end
theorem bNw(l:List aJ)(hl:bLh l <= 1000000000)(hst:∀k (h:k<l.length) (s:Sto),aL prog 35 [.c (Sq encS l[k].thn)] [] s (λt s'=>t=Ci ((bLh l[k].thn:Nat):Int) /\ s'=s) /\ aL prog 35 [.c (Sq encS l[k].els)] [] s (λt s'=>t=Ci ((bLh l[k].els:Nat):Int) /\ s'=s))(s:Sto):aL prog 35 [.c (Sq encS l)] [] s λt s'=>t=Ci ((bLh l:Nat):Int) /\ s'=s:=by
 obtain ⟨bx,rw⟩:=s
 have hkid:=bLo l
 refine acX 29 func35 ?_
 refine go 19 ?_
 refine oC (l.length) 4 (λk=>[(3,Ci ((l.length+bMl (l.take k):Nat):Int)),(0,.c (Sq encS l))]) (aG Y (.refl _) (aG Y (gQ (by simp [bMl])) (sA Y))) λk hk=>?_
 show AWp prog _ ⟨29,_,_,(4,nI k)::[(3,Ci ((l.length+bMl (l.take k):Nat):Int)),(0,.c (Sq encS l))]⟩ _
 refine go 6 ?_
 by_cases h1:((k:Nat):Int)<((l.length:Nat):Int)
 ·refine wcp true Y (jZ h1) (go 7 ?_)
  refine dx [] ?_
  have hkt:=bMr l k J
  have hkm:=bMe l (k+1)
  refine tz [(0,true),(1,true),(2,true)] 13 (go 4 ?_)
  refine tx 3 Y (bH encS dG l cZo cJ k Y Y Y Y J V runUnderlying65 sizeOf120) (tz [(4,true),(5,true),(8,true),(9,true)] 8 (go 5 ?_))
  refine tx 10 Y (bH encS dG l cZo cJ k Y Y Y Y J V runUnderlying65 sizeOf120) (tz [(11,true),(12,true)] 5 (go 3 ?_))
  refine ox 6 Y Y (bV Y Y V call35 Y ((hst k J _).1) ?_)
  rintro _ _ ⟨rfl,rfl⟩
  refine tx 7 Y (bB Y Y Y J J) ?_
  refine ox 13 Y Y (bV Y Y V call35 Y ((hst k J _).2) ?_)
  rintro _ _ ⟨rfl,rfl⟩
  refine tx 14 Y (bB Y Y Y J J) (tz [(15,true)] 0 (go 2 ?_))
  refine ax (go 4 ?_)
  refine wad Y (go 2 ?_)
  exact ⟨J,(aG Y (gQ J) (aG Y (gQ J) (sA Y)))⟩
 refine wcp false Y (jQ h1) (go 15 ?_)
 exact bHe (s':=⟨bx,rw⟩) Y sb0 ⟨aPy (by rw [bLo];have hkl:k=l.length:=J;subst hkl;rw [List.take_length]),Y⟩
theorem bPd:∀(N:Nat)(l:List aJ),bLh l <= N -> N <= 1000000000 -> ∀s:Sto,aL prog 35 [.c (Sq encS l)] [] s λt s'=>t=Ci ((bLh l:Nat):Int) /\ s'=s
 |0,l,h,hN,s=>bNw l J (λk hk=>absurd (bLo l) J) s
 |N+1,l,h,hN,s=>bNw l J (λk hk s=>by
   have h1:=bLo l
   have h2:=bMr l k hk
   have h3:=bMe l (k+1)
   exact ⟨bPd N _ J J s,bPd N _ J J s⟩) s
end
section
structure Gr (x y:LS) (m c:Nat):Prop where
 code:y.code.length=x.code.length+c
 n:y.n=x.n+m
 loc:x.locals <= y.locals
 sites:∃t:List Int,y.sites=x.sites++t /\ (∀a,a∈t -> (x.n:Int) <= a /\ a<(y.n:Int)) /\ ∀k:Nat,x.n <= k -> k<y.n -> (k:Int)∈t
 sl:x.sites.length=x.code.length -> y.sites.length=y.code.length
 jmp:(∀i,i∈x.code -> (i.op=6∨i.op=7) -> i.target <= x.code.length) -> ∀i,i∈y.code -> (i.op=6∨i.op=7) -> i.target <= y.code.length
theorem Gr.refl(x:LS):Gr x x 0 0:=⟨rfl,rfl,Nat.le_refl _,⟨[],(List.append_nil _).symm,(λa h=>DV),(λk h1 h2=>J)⟩,λh=>h,λh=>h⟩
theorem Gr.trans{x y z:LS}{m c m' c':Nat}(h:Gr x y m c)(h':Gr y z m' c'):Gr x z (m+m') (c+c'):=by
 obtain ⟨t,e,b,v⟩:=h.sites
 obtain ⟨t',e',b',v'⟩:=h'.sites
 have h1:=h.n;have h2:=h'.n
 refine ⟨by rw [h'.code,h.code];omega,J,Nat.le_trans h.loc h'.loc,⟨t++t',by rw [e',e,append_assoc],λa ha=>?_,λk hk hk'=>?_⟩,λhl=>h'.sl (h.sl hl),λhj=>h'.jmp (h.jmp hj)⟩
 ·rcases mem_append.1 ha with ha|ha
  ·have:=b a ha;omega
  have:=b' a ha;omega
 by_cases hy:k<y.n
 ·exact List.mem_append_left _ (v k hk hy)
 exact List.mem_append_right _ (v' k J hk')
theorem Gr.put{x y:LS}{m c:Nat}(h:Gr x y m c)(i:cFw)(s:Nat)(h1:x.n <= s)(h2:s<y.n)(hi:(i.op=6∨i.op=7) -> i.target <= y.code.length+1):Gr x (y.put i s) m (c+1):=by
 obtain ⟨t,e,b,v⟩:=h.sites
 have hc:=h.code
 refine ⟨by rw [cF1];omega,h.n,h.loc,⟨t++[(s:Int)],by show y.sites++[(s:Int)]=_;rw [e,append_assoc],λa ha=>?_,λk hk hk'=>List.mem_append_left _ (v k hk hk')⟩,λhl=>(by show (y.sites++[(s:Int)]).length=(y.code++[i]).length;rw [length_append,length_append,h.sl hl];rfl),λhj j hm ho=>?_⟩
 ·rcases mem_append.1 ha with ha|ha
  ·exact b a ha
  obtain rfl:=List.mem_singleton.1 ha
  exact ⟨J,by show (s:Int)<((y.n:Nat):Int);omega⟩
 rw [cF1]
 rcases mem_append.1 (show j∈y.code++[i] from hm) with hm|hm
 ·have:=h.jmp hj j hm ho;omega
 obtain rfl:=List.mem_singleton.1 hm;exact hi ho
theorem cTa{α:Type}{f:α -> α}:∀{l:List α} {b:Nat} {i:α},i∈l.modify b f -> i∈l∨∃j,j∈l /\ i=f j
 |[],_,_,h=>by rw [List.modify_nil] at h;cases h
 |a::l,0,i,h=>by
  rw [List.modify_zero_cons] at h
  rcases mem_cons.1 h with rfl|h
  ·exact .inr ⟨a,List.mem_cons_self,Y⟩
  ·exact .inl (List.mem_cons_of_mem _ h)
 |a::l,b+1,i,h=>by
  rw [List.modify_succ_cons] at h
  rcases mem_cons.1 h with rfl|h
  ·exact .inl List.mem_cons_self
  rcases cTa h with h|⟨j,h,e⟩
  ·exact .inl (List.mem_cons_of_mem _ h)
  exact .inr ⟨j,List.mem_cons_of_mem _ h,e⟩
theorem Gr.patch{x y:LS}{m c:Nat}(h:Gr x y m c)(b:Nat):Gr x (y.patch b) m c:=by
 refine ⟨by rw [cFp];exact h.code,h.n,h.loc,h.sites,λhl=>(by rw [cFp];exact h.sl hl),λhj i hm ho=>?_⟩
 rw [cFp]
 rcases cTa (show i∈y.code.modify b (λi=>i.to y.code.length) from hm) with hm|⟨j,hm,rfl⟩
 ·exact h.jmp hj i hm ho
 exact Nat.le_refl _
theorem Gr.back{x y:LS}{m c:Nat}(h:Gr x y m c)(w:LS):Gr x (w.back y) m c:=⟨h.code,h.n,h.loc,h.sites,h.sl,h.jmp⟩
theorem Gr.one{x:LS}(y:LS){i:cFw}(hc:y.code=x.code++[i])(hn:y.n=x.n+1)(hl:x.locals <= y.locals)(hs:y.sites=x.sites++[(x.n:Int)])(hi:(i.op=6∨i.op=7) -> i.target=0):Gr x y 1 1:=by
 refine ⟨by rw [hc,length_append];rfl,hn,hl,⟨[(x.n:Int)],hs,λa ha=>?_,λk h1 h2=>?_⟩,λhl=>(by rw [hs,hc,length_append,length_append,hl];rfl),λhj j hm ho=>?_⟩
 ·obtain rfl:=List.mem_singleton.1 ha
  rw [hn];omega
 ·obtain rfl:k=x.n:=J
  exact List.mem_singleton.2 Y
 rw [hc] at hm⊢
 rw [length_append]
 rcases mem_append.1 hm with hm|hm
 ·have:=hj j hm ho;omega
 obtain rfl:=List.mem_singleton.1 hm;rw [hi ho];omega
end
section
theorem cJi:∀(ow:List ByteArray)(v:Vis),KN v -> KN (ow.foldl bZy v) /\ (∀s,s∈ow -> bZp (ow.foldl bZy v) s=0) /\ ∀s,s∉ow -> bZp (ow.foldl bZy v) s=bZp v s
 |[],v,h=>⟨h,λs hs=>absurd hs not_mem_nil,λs _=>rfl⟩
 |k::ow,v,h=>by
  obtain ⟨h1,h2,h3⟩:=cJi ow (bZy v k) (h.del k)
  refine ⟨h1,λs hs=>?_,λs hs=>?_⟩
  ·rw [List.foldl_cons]
   by_cases hm:s∈ow
   ·exact h2 s hm
   rw [h3 s hm,cCs h]
   rcases mem_cons.1 hs with rfl|hs
   ·rw [if_pos rfl]
   exact absurd hs hm
  simp only [mem_cons,not_or] at hs
  rw [List.foldl_cons,h3 s hs.2,cCs h,if_neg (λe=>hs.1 e.symm)]
theorem cIf{fs:Fns}{r:Nat×List ByteArray×RS}{v:Vis}(h0:r.1=0)(hk:KN r.2.2.vis)(h1:∀q,q∈r.2.1 -> bZp v q=0)(h2:∀q,q∉r.2.1 -> bZp r.2.2.vis q=bZp v q):KN (cA7 r).2.vis /\ ∀q,bZp (cA7 r).2.vis q=bZp v q:=by
 obtain ⟨d1,d2,d3⟩:=cJi r.2.1 r.2.2.vis hk
 unfold cA7
 rw [if_pos h0]
 refine ⟨d1,λq=>?_⟩
 by_cases hm:q∈r.2.1
 ·rw [h1 q hm];exact d2 q hm
 rw [←h2 q hm];exact d3 q hm
theorem cHi(r:Nat×List ByteArray×RS):(cA7 r).1=r.1:=by unfold cA7;split<;>simp_all
theorem cK9(r:Nat×List ByteArray×RS):(cA7 r).2.at_=r.2.2.at_:=by unfold cA7;split<;>rfl
mutual
theorem cKc(fs:Fns):∀(s:aJ)(x:RS),KN x.vis -> (bZ4 fs s x).1=0 -> KN (bZ4 fs s x).2.vis /\ (∀q,(s.kind=1 -> s.name≠q) -> bZp (bZ4 fs s x).2.vis q=bZp x.vis q) /\ (s.kind=1 -> bZp x.vis s.name=0)
 |.mk k name e r args t f,x,hk,h=>by
  have hb:KN (cAy (.mk k name e r args t f) x).vis /\ ∀q,(k=1 -> name≠q) -> bZp (cAy (.mk k name e r args t f) x).vis q=bZp x.vis q:=by
   show KN (if k=1 then bZq x.vis name 1 else x.vis) /\ ∀q,_ -> bZp (if k=1 then bZq x.vis name 1 else x.vis) q=_
   by_cases h1:k=1
   ·rw [if_pos h1];exact ⟨hk.put _ _,λq hq=>by rw [cAl,if_neg (hq h1)]⟩
   rw [if_neg h1];exact ⟨hk,λq _=>rfl⟩
  rw [bZ4] at h⊢
  by_cases hp:bZ5 x.vis fs (.mk k name e r args t f)=0
  ·rw [if_pos hp] at h⊢
   by_cases ht:(cA7 (bZr fs t [] (cAy (.mk k name e r args t f) x))).1=0
   ·rw [if_pos ht] at h⊢
    obtain ⟨a1,a2,a3⟩:=cGw fs t [] _ hb.1 (by rw [←cHi];exact ht)
    obtain ⟨b1,b2⟩:=cIf (fs:=fs) (by rw [←cHi];exact ht) a1 (λq hq=>(a2 q hq).resolve_left not_mem_nil) a3
    obtain ⟨c1,c2,c3⟩:=cGw fs f [] _ b1 (by rw [←cHi];exact h)
    obtain ⟨d1,d2⟩:=cIf (fs:=fs) (by rw [←cHi];exact h) c1 (λq hq=>(c2 q hq).resolve_left not_mem_nil) c3
    refine ⟨d1,λq hq=>by rw [d2,b2];exact hb.2 q hq,λh1=>?_⟩
    have h1:k=1:=h1
    have hp:(if k=1 then (if bZp x.vis name=0 then _ else 5) else _)=0:=hp
    rw [if_pos h1] at hp
    split at hp
    ·rename_i h9;exact h9
    cases hp
   rw [if_neg ht] at h;exact absurd h ht
  rw [if_neg hp] at h;exact absurd h hp
theorem cGw(fs:Fns):∀(l:List aJ)(own:List ByteArray)(x:RS),KN x.vis -> (bZr fs l own x).1=0 -> KN (bZr fs l own x).2.2.vis /\ (∀q,q∈(bZr fs l own x).2.1 -> q∈own∨bZp x.vis q=0) /\ (∀q,q∉(bZr fs l own x).2.1 -> bZp (bZr fs l own x).2.2.vis q=bZp x.vis q)
 |[],own,x,hk,_=>by rw [bZr];exact ⟨hk,λq hq=>.inl hq,λq _=>rfl⟩
 |s::l,own,x,hk,h=>by
  rw [bZr] at h⊢
  by_cases h0:(bZ4 fs s x).1=0
  ·rw [if_pos h0] at h⊢
   obtain ⟨a1,a2,a3⟩:=cKc fs s x hk h0
   obtain ⟨b1,b2,b3⟩:=cGw fs l (cCp s own) _ a1 h
   have hsub:=cIw fs l (cCp s own) (bZ4 fs s x).2
   refine ⟨b1,λq hq=>?_,λq hq=>?_⟩
   ·by_cases hn:s.kind=1 /\ s.name=q
    ·obtain ⟨hn1,rfl⟩:=hn
     exact .inr (a3 hn1)
    have hn':s.kind=1 -> s.name≠q:=λh1 h2=>hn ⟨h1,h2⟩
    rcases b2 q hq with h9|h9
    ·unfold cCp at h9
     split at h9
     ·rename_i h1
      rcases mem_append.1 h9 with h9|h9
      ·exact .inl h9
      exact absurd (List.mem_singleton.1 h9).symm (hn' h1)
     exact .inl h9
    rw [a2 q hn'] at h9;exact .inr h9
   rw [b3 q hq]
   refine a2 q λh1 h2=>hq (hsub q ?_)
   unfold cCp;rw [if_pos h1,←h2];simp
  rw [if_neg h0] at h;exact absurd h h0
theorem cIw(fs:Fns):∀(l:List aJ)(own:List ByteArray)(x:RS),∀q,q∈own -> q∈(bZr fs l own x).2.1
 |[],own,x,q,hq=>by rw [bZr];exact hq
 |s::l,own,x,q,hq=>by
  rw [bZr]
  split
  ·exact cIw fs l _ _ q (by unfold cCp;split<;>simp [hq])
  exact hq
end
theorem cG7.same{p:cK}{fs:Fns}{v v':Vis}{l:List cFc}(h:cG7 p fs v l)(hk:KN v')(hv:∀q,bZp v' q=bZp v q):cG7 p fs v' l:=⟨hk,λs=>by rw [hv];exact h.get s,h.fn⟩
theorem cG7.put{p:cK}{fs:Fns}{v:Vis}{l:List cFc}(h:cG7 p fs v l){s:ByteArray}(h0:bZp v s=0){x:cFc}(hx:x.name=s){a:Int}(ha:cFr p x=a)(h3:x.kind≠3):cG7 p fs (bZq v s a) (l++[x]):=by
 have hn:cFa l s=none:=by
  have h1:=h.get s
  rw [h0] at h1
  rcases hf:cFa l s with _|y
  ·rfl
  rw [hf] at h1;exact absurd h1.symm (cGv p y)
 refine ⟨h.kn.put _ _,λq=>?_,λq y hf hy=>?_⟩
 ·rw [cAl,cGu]
  by_cases hq:s=q
  ·subst hq
   rw [if_pos rfl,hn];dsimp only;rw [if_pos hx];exact ha.symm
  rw [if_neg hq,h.get q]
  rcases cFa l q with _|y
  ·dsimp only;rw [if_neg (by rw [hx];exact hq)]
  rfl
 rw [cGu] at hf
 split at hf
 ·rename_i hf2;cases hf;exact h.fn q _ hf2 hy
 split at hf
 ·cases hf;exact absurd hy h3
 cases hf
structure cIc (p:cK) (fs:Fns) (x:RS) (y:LS):Prop where
 rel:cG7 p fs x.vis y.ents
 n:x.n=y.n
 q:y.q.1=0
def Step(p:cK)(fs:Fns)(e:Nat)(x':RS)(y':LS):Prop:=(e=0 -> cIc p fs x' y') /\ (e≠0 -> y'.q=(e,x'.at_))
end
section
section
variable {p:cK}{fs:Fns}
theorem cIc.mod{x:RS}{y y':LS}(h:cIc p fs x y)(h1:y'.ents=y.ents)(h2:y'.n=y.n)(h3:y'.q=y.q):cIc p fs x y':=⟨by rw [h1];exact h.rel,by rw [h2];exact h.n,by rw [h3];exact h.q⟩
theorem Step.mod{e:Nat}{x:RS}{y y':LS}(h:Step p fs e x y)(h1:y'.ents=y.ents)(h2:y'.n=y.n)(h3:y'.q=y.q):Step p fs e x y':=⟨λh0=>(h.1 h0).mod h1 h2 h3,λh0=>by rw [h3];exact h.2 h0⟩
theorem cHh{l:List aJ}{x:RS}{y:LS}(hS:Step p fs (bZr fs l [] x).1 (bZr fs l [] x).2.2 (cFe p l y))(he:cIc p fs x y):Step p fs (cA7 (bZr fs l [] x)).1 (cA7 (bZr fs l [] x)).2 (cRs p l y):=by
 refine ⟨λh0=>?_,λh0=>?_⟩
 ·rw [cHi] at h0
  have h1:=hS.1 h0
  obtain ⟨a1,a2,a3⟩:=cGw fs l [] x he.rel.kn h0
  obtain ⟨b1,b2⟩:=cIf (fs:=fs) h0 a1 (λq hq=>(a2 q hq).resolve_left not_mem_nil) a3
  exact ⟨he.rel.same b1 b2,by rw [cCd];exact h1.n,h1.q⟩
 rw [cHi] at h0⊢
 rw [cK9];exact hS.2 h0
theorem cIe(x:RS):cA7 (bZr fs [] [] x)=(0,x):=by rw [bZr];rfl
theorem cKr{s:aJ}{x:RS}{y:LS}(he:cIc p fs x y)(h1:s.kind≠1)(e:aH)(hq:cFf y.ents e=0):cIc p fs (cAy s x) (y.branch e):=by
 have hv:(cAy s x).vis=x.vis:=by show (if s.kind=1 then _ else x.vis)=_;rw [if_neg h1]
 refine ⟨by rw [hv];exact he.rel,by show x.n+1=y.n+1;rw [he.n],?_⟩
 show (cFg y.q (cFf y.ents e) y.n).1=0
 rw [hq,cGg];exact he.q
mutual
theorem cKz:∀(s:aJ)(x:RS)(y:LS),shS s -> cIc p fs x y -> Step p fs (bZ4 fs s x).1 (bZ4 fs s x).2 (cFs p s y)
 |.mk k name e r args t f,x,y,hsh,he=>by
  rw [shS] at hsh
  obtain ⟨h5,ha,ht,hf,hst,hsf⟩:=hsh
  have hp:bZ5 x.vis fs (.mk k name e r args t f)=cIu p y.ents (.mk k name e r args t f):=cLy he.rel _ h5 ha
  have hbq:∀e0,cFf y.ents e=e0 -> (y.branch e).q=cFg y.q e0 y.n:=λe0 h=>by show cFg y.q (cFf y.ents e) y.n=_;rw [h]
  rw [bZ4]
  by_cases h0:bZ5 x.vis fs (.mk k name e r args t f)=0
  ·rw [if_pos h0]
   rw [hp] at h0
   by_cases h78:k=7∨k=8
   ·have hex:cFf y.ents e=0:=by
     have h9:(if k=1 then _ else if k=2 then _ else if k=5∨k=6 then _ else if k=3∨k=4 then _ else if k=7∨k=8 then cFf y.ents e else 0)=0:=h0
     rw [if_neg J,if_neg J,if_neg J,if_neg J,if_pos h78] at h9;exact h9
    have hbe:cIc p fs (cAy (.mk k name e r args t f) x) (y.branch e):=cKr he GN e hex
    have HT:=cHh (cHp t [] _ _ hst hbe) hbe
    rw [cFs]
    by_cases hT:(cA7 (bZr fs t [] (cAy (.mk k name e r args t f) x))).1=0
    ·rw [if_pos hT]
     have hE1:=HT.1 hT
     by_cases h7:k=7
     ·rw [if_pos h7]
      by_cases hfl:f.length=0
      ·obtain rfl:=List.length_eq_zero_iff.1 hfl
       rw [if_pos hfl,cIe]
       exact ⟨λ_=>hE1.mod Y Y Y,λh=>absurd Y h⟩
      rw [if_neg hfl]
      have hE2:cIc p fs (cA7 (bZr fs t [] (cAy (.mk k name e r args t f) x))).2 ((((y.branch e).back (cFe p t (y.branch e))).put (opI 7 .zero) y.n).patch y.code.length):=hE1.mod Y Y Y
      have HF:=cHh (cHp f [] _ _ hsf hE2) hE2
      exact HF.mod Y Y Y
     rw [if_neg h7,if_pos (J:k=8)]
     obtain rfl:=hf h7
     rw [cIe]
     exact ⟨λ_=>hE1.mod Y Y Y,λh=>absurd Y h⟩
    rw [if_neg hT]
    have hq:=HT.2 hT
    refine ⟨λh=>absurd h hT,λ_=>?_⟩
    have hne:(cRs p t (y.branch e)).q.1≠0:=by rw [hq];exact hT
    by_cases h7:k=7
    ·rw [if_pos h7]
     by_cases hfl:f.length=0
     ·rw [if_pos hfl];exact hq
     rw [if_neg hfl]
     show (cFe p f _).q=_
     rw [cF5 p f _ (by show (cFe p t (y.branch e)).q.1≠0;exact hne)];exact hq
    rw [if_neg h7,if_pos (J:k=8)];exact hq
   ·have h7:k≠7:=λh=>h78 (.inl h)
    have h8:k≠8:=λh=>h78 (.inr h)
    obtain rfl:=ht h7 h8
    obtain rfl:=hf h7
    rw [cIe];dsimp only
    rw [if_pos rfl,cIe,cFs,if_neg h7,if_neg h8]
    obtain ⟨s1,s2,s3⟩:=cIr p (.mk k name e r args [] []) y h7 h8
    refine ⟨λ_=>⟨?_,by rw [s2];show x.n+1=_;rw [he.n],by rw [s1,h0,cGg];exact he.q⟩,λh=>absurd Y h⟩
    rw [s3]
    show cG7 p fs (if k=1 then bZq x.vis name 1 else x.vis) (if k=1 then y.ents++[⟨name,4,y.locals⟩] else y.ents)
    by_cases h1:k=1
    ·rw [if_pos h1,if_pos h1]
     have h9:(if k=1 then cFj (cFv y.ents name) (cFf y.ents e) else _)=0:=h0
     rw [if_pos h1] at h9
     have hd:cFv y.ents name=0:=by unfold cFj at h9;split at h9<;>assumption
     have hn:cFa y.ents name=none:=by
      unfold cFv at hd
      rcases hfd:cFa y.ents name with _|z
      ·rfl
      rw [hfd] at hd;cases hd
     exact he.rel.put (s:=name) (x:=⟨name,4,y.locals⟩) (a:=1) (by rw [he.rel.get,hn];rfl) Y (by unfold cFr;rw [if_pos (.inr rfl)]) (by show (4:Int)≠3;decide)
    rw [if_neg h1,if_neg h1];exact he.rel
  rw [if_neg h0]
  refine ⟨λh=>absurd h h0,λ_=>?_⟩
  rw [hp] at h0⊢
  show (cFs p _ y).q=(cIu p y.ents _,(x.n:Int))
  rw [he.n]
  by_cases h78:k=7∨k=8
  ·have hpe:cIu p y.ents (.mk k name e r args t f)=cFf y.ents e:=by
    show (if k=1 then _ else if k=2 then _ else if k=5∨k=6 then _ else if k=3∨k=4 then _ else if k=7∨k=8 then cFf y.ents e else 0)=_
    rw [if_neg J,if_neg J,if_neg J,if_neg J,if_pos h78]
   rw [hpe] at h0⊢
   have hb:(y.branch e).q=(cFf y.ents e,(y.n:Int)):=cJf he.q h0 _
   have hne:(y.branch e).q.1≠0:=by rw [hb];exact h0
   have hq:(cFe p t (y.branch e)).q=(cFf y.ents e,(y.n:Int)):=by rw [cF5 p t _ hne,hb]
   rw [cFs]
   by_cases h7:k=7
   ·rw [if_pos h7]
    by_cases hfl:f.length=0
    ·rw [if_pos hfl];exact hq
    rw [if_neg hfl]
    show (cFe p f _).q=_
    rw [cF5 p f _ (by show (cFe p t (y.branch e)).q.1≠0;rw [hq];exact h0)];exact hq
   rw [if_neg h7,if_pos (J:k=8)];exact hq
  ·have h7:k≠7:=λh=>h78 (.inl h)
   have h8:k≠8:=λh=>h78 (.inr h)
   rw [cFs,if_neg h7,if_neg h8,(cIr p (.mk k name e r args t f) y h7 h8).1]
   exact cJf he.q h0 _
theorem cHp:∀(l:List aJ)(own:List ByteArray)(x:RS)(y:LS),cId l -> cIc p fs x y -> Step p fs (bZr fs l own x).1 (bZr fs l own x).2.2 (cFe p l y)
 |[],own,x,y,_,he=>by rw [bZr,cFe];exact ⟨λ_=>he,λh=>absurd rfl h⟩
 |s::l,own,x,y,hsh,he=>by
  rw [cId] at hsh
  have h1:=cKz s x y hsh.1 he
  rw [bZr,cFe]
  by_cases h0:(bZ4 fs s x).1=0
  ·rw [if_pos h0];exact cHp l _ _ _ hsh.2 (h1.1 h0)
  rw [if_neg h0]
  refine ⟨λh=>absurd h h0,λ_=>?_⟩
  have hq:=h1.2 h0
  rw [cF5 p l _ (by rw [hq];exact h0)];exact hq
end
end
end
section
section
variable {p:cK}{fs:Fns}
theorem cKl:∀(ps:List aS)(v:Vis)(l:List cFc)(i m:Nat),cG7 p fs v l -> (cGd ps l i m=none -> (bZv ps v).1=false) /\ ∀l' i' m',cGd ps l i m=some (l',i',m') -> (bZv ps v).1=true /\ cG7 p fs (bZv ps v).2 l'
 |[],v,l,i,m,h=>by
  rw [cGd,bZv]
  exact ⟨λh=>DV,λl' i' m' e=>by cases e;exact ⟨rfl,h⟩⟩
 |x::r,v,l,i,m,h=>by
  rw [cGd,bZv,h.get x.name]
  rcases hf:cFa l x.name with _|y
  ·have hz:bZp v x.name=0:=by rw [h.get,hf];rfl
   rw [if_neg V,if_pos (show cH8 p none=0 from rfl)]
   by_cases hm:x.mutex=true
   ·rw [if_pos hm]
    have hs:cAw x=4:=if_pos hm
    rw [hs]
    exact cKl r _ _ i (m+1) (h.put (s:=x.name) (x:=⟨x.name,5,m⟩) (a:=4) hz Y (by unfold cFr;rfl) (by show (5:Int)≠3;decide))
   rw [if_neg hm]
   have hs:cAw x=1:=if_neg hm
   rw [hs]
   exact cKl r _ _ (i+1) m (h.put (s:=x.name) (x:=⟨x.name,4,i⟩) (a:=1) hz Y (by unfold cFr;rfl) (by show (4:Int)≠3;decide))
  rw [if_pos Fs,if_neg (show ¬cH8 p (some y)=0 from cGv p y)]
  exact ⟨λ_=>Y,λl' i' m' e=>by cases e⟩
theorem cIh:∀(ps:List aS)(v:Vis),KN v -> (bZv ps v).1=true -> KN (bZv ps v).2 /\ (∀x,x∈ps -> bZp v x.name=0) /\ ∀q,(∀x,x∈ps -> x.name≠q) -> bZp (bZv ps v).2 q=bZp v q
 |[],v,hk,_=>⟨hk,λx hx=>absurd hx not_mem_nil,λq _=>rfl⟩
 |x::r,v,hk,h=>by
  rw [bZv] at h⊢
  by_cases h0:bZp v x.name=0
  ·rw [if_pos h0] at h⊢
   obtain ⟨a1,a2,a3⟩:=cIh r _ (hk.put _ _) h
   refine ⟨a1,λy hy=>?_,λq hq=>?_⟩
   ·rcases mem_cons.1 hy with rfl|hy
    ·exact h0
    have h9:=a2 y hy
    rw [cAl] at h9
    split at h9
    ·unfold cAw at h9;split at h9<;>cases h9
    exact h9
   rw [a3 q λy hy=>hq y (List.mem_cons_of_mem _ hy),cAl,if_neg (hq x List.mem_cons_self)]
  rw [if_neg h0] at h;cases h
theorem cI7:∀(ps:List aS)(v:Vis),KN v -> KN (cAk ps v) /\ (∀x,x∈ps -> bZp (cAk ps v) x.name=0) /\ ∀q,(∀x,x∈ps -> x.name≠q) -> bZp (cAk ps v) q=bZp v q
 |[],v,h=>⟨h,λx hx=>absurd hx not_mem_nil,λs _=>rfl⟩
 |y::ps,v,h=>by
  obtain ⟨h1,h2,h3⟩:=cI7 ps (bZy v y.name) (h.del y.name)
  have e:cAk (y::ps) v=cAk ps (bZy v y.name):=Y
  refine ⟨h1,λx hx=>?_,λq hq=>?_⟩
  ·rw [e]
   by_cases hm:∃z,z∈ps /\ z.name=x.name
   ·obtain ⟨z,hz,hn⟩:=hm
    rw [←hn];exact h2 z hz
   rw [h3 _ (λz hz hn=>hm ⟨z,hz,hn⟩),cCs h]
   rcases mem_cons.1 hx with rfl|hx
   ·rw [if_pos rfl]
   exact absurd ⟨x,hx,Y⟩ hm
  rw [e,h3 q λz hz=>hq z (List.mem_cons_of_mem _ hz),cCs h,if_neg (hq y List.mem_cons_self)]
theorem cL4{f:bS}{v:Vis}(h:cG7 p fs v (cFd p))(hsh:cId f.body):(cAe fs f v).1=(cGk p f).1 /\ ((cAe fs f v).1≠0 -> (cAe fs f v).2.at_=(cGk p f).2) /\ ((cAe fs f v).1=0 -> cG7 p fs (cAe fs f v).2.vis (cFd p)):=by
 obtain ⟨p1,p2⟩:=cKl f.params v (cFd p) 0 0 h
 unfold cAe cGk
 rcases hq:cGd f.params (cFd p) 0 0 with _|⟨l,i,m⟩
 ·rw [p1 hq,if_neg V]
  exact ⟨Y,λ_=>Y,λh=>DV⟩
 obtain ⟨q1,q2⟩:=p2 l i m hq
 rw [q1,if_pos rfl]
 have he:cIc p fs ⟨(bZv f.params v).2,0,-1⟩ (LS.init l i):=⟨q2,Y,Y⟩
 have hb:Step p fs (bZ2 fs f.body ⟨(bZv f.params v).2,0,-1⟩).1 (bZ2 fs f.body ⟨(bZv f.params v).2,0,-1⟩).2 (cRs p f.body (LS.init l i)):=cHh (cHp f.body [] _ _ hsh he) he
 have hbq:(cJg p f l i).q=(cRs p f.body (LS.init l i)).q:=Y
 dsimp only
 rw [hbq]
 by_cases h0:(bZ2 fs f.body ⟨(bZv f.params v).2,0,-1⟩).1=0
 ·have hE:=hb.1 h0
  refine ⟨by rw [h0];exact hE.q.symm,λh=>absurd h0 h,λ_=>?_⟩
  obtain ⟨a1,a2,a3⟩:=cIh f.params v h.kn q1
  have h0':=h0
  unfold bZ2 at h0'
  rw [cHi] at h0'
  obtain ⟨b1,b2,b3⟩:=cGw fs f.body [] _ q2.kn h0'
  obtain ⟨c1,c2⟩:=cIf (fs:=fs) h0' b1 (λq hq=>(b2 q hq).resolve_left not_mem_nil) b3
  obtain ⟨d1,d2,d3⟩:=cI7 f.params _ c1
  refine h.same d1 λq=>?_
  by_cases hm:∃x,x∈f.params /\ x.name=q
  ·obtain ⟨x,hx,rfl⟩:=hm
   rw [a2 x hx];exact d2 x hx
  have hm':∀x,x∈f.params -> x.name≠q:=λx hx hn=>hm ⟨x,hx,hn⟩
  rw [←a3 q hm',←c2 q];exact d3 q hm'
 have hq2:=hb.2 h0
 rw [hq2]
 exact ⟨Y,λ_=>Y,λh=>absurd h h0⟩
theorem cKp:∀(l:List bS)(i:Nat)(v:Vis),cG7 p fs v (cFd p) -> (∀f,f∈l -> cId f.body) -> cAg fs l i v=cGh p l i
 |[],i,v,_,_=>rfl
 |f::r,i,v,h,hs=>by
  obtain ⟨b1,b2,b3⟩:=cL4 h (hs f List.mem_cons_self)
  rw [cAg,cGh,←b1]
  by_cases h0:(cAe fs f v).1=0
  ·rw [if_pos h0,if_pos h0];exact cKp r (i+1) _ (b3 h0) λg hg=>hs g (List.mem_cons_of_mem _ hg)
  rw [if_neg h0,if_neg h0,b2 h0]
end
theorem cLg{p:cK}:∀(es:List cFc)(v:Vis)(l:List cFc),KN v -> (∀s,bZp v s=cH8 p (cFa l s)) -> (∀i,cG0 l es=some i -> (bZz (es.map λx=>(x.name,cFr p x)) v l.length).1=some i) /\ (cG0 l es=none -> (bZz (es.map λx=>(x.name,cFr p x)) v l.length).1=none /\ KN (bZz (es.map λx=>(x.name,cFr p x)) v l.length).2 /\ ∀s,bZp (bZz (es.map λx=>(x.name,cFr p x)) v l.length).2 s=cH8 p (cFa (l++es) s))
 |[],v,l,hk,hg=>by
  rw [cG0]
  exact ⟨λi h=>DV,λ_=>⟨Y,hk,λs=>by rw [List.append_nil];exact hg s⟩⟩
 |x::es,v,l,hk,hg=>by
  rw [cG0,List.map_cons,bZz,hg x.name]
  rcases hf:cFa l x.name with _|y
  ·rw [if_neg V,if_pos (show cH8 p none=0 from rfl)]
   have hr:∀s,bZp (bZq v x.name (cFr p x)) s=cH8 p (cFa (l++[x]) s):=λs=>by
    rw [cAl,cGu]
    by_cases hq:x.name=s
    ·subst hq;rw [if_pos rfl,hf];dsimp only;rw [if_pos rfl];rfl
    rw [if_neg hq,hg s]
    rcases cFa l s with _|z
    ·dsimp only;rw [if_neg hq]
    rfl
   have h9:=cLg es _ (l++[x]) (hk.put _ _) hr
   rw [length_append,append_assoc] at h9
   exact h9
  rw [if_pos Fs,if_neg (show ¬cH8 p (some y)=0 from cGv p y)]
  exact ⟨λi h=>h,λh=>DV⟩
theorem cKv(p:cK):bZs p=(cFd p).map λx=>(x.name,cFr p x):=by
 unfold bZs cFd
 rw [List.map_append,List.map_append]
 congr 1
 ·apply List.ext_getElem
  ·simp
  intro i h1 h2;simp [cFr]
 congr 1
 ·apply List.ext_getElem
  ·simp
  intro i h1 h2
  simp only [List.length_map] at h1
  simp only [List.getElem_map,List.getElem_mapIdx]
  unfold cFr cAr
  rw [cGz h1];rfl
 apply List.ext_getElem
 ·simp
 intro i h1 h2;simp [cFr]
end
section
theorem cIt:∀{l:List cFc} {s:ByteArray} {v:cFc},cFa l s=some v -> v∈l /\ v.name=s
 |[],_,_,h=>DV
 |x::l,s,v,h=>by
  rw [cFa] at h;split at h
  ·rename_i hx;cases h;exact ⟨List.mem_cons_self,hx⟩
  exact ⟨List.mem_cons_of_mem _ (cIt h).1,(cIt h).2⟩
theorem cI6:∀{l:List cFc} {x:cFc},(l.map cFc.name).Nodup -> x∈l -> cFa l x.name=some x
 |[],_,_,h=>absurd h not_mem_nil
 |y::l,x,hd,h=>by
  simp only [List.map_cons,List.nodup_cons] at hd
  rw [cFa]
  rcases mem_cons.1 h with rfl|h
  ·rw [if_pos rfl]
  rw [if_neg (λe=>hd.1 (by rw [e];exact List.mem_map_of_mem h))];exact cI6 hd.2 h
theorem cIm:∀(es l:List cFc),cG0 l es=none -> (es.map cFc.name).Nodup /\ ∀x,x∈es -> cFa l x.name=none
 |[],l,_=>⟨G0,λx hx=>absurd hx not_mem_nil⟩
 |x::es,l,h=>by
  rw [cG0] at h
  rcases hf:cFa l x.name with _|y
  ·rw [hf,if_neg V] at h
   obtain ⟨h1,h2⟩:=cIm es _ h
   have h3:∀y,y∈es -> cFa l y.name=none /\ x.name≠y.name:=λy hy=>by
    have h9:=h2 y hy
    rw [cGu] at h9
    split at h9
    ·cases h9
    rename_i h8
    exact ⟨h8,λe=>by rw [if_pos e] at h9;cases h9⟩
   refine ⟨?_,λy hy=>?_⟩
   ·simp only [List.map_cons,List.nodup_cons]
    refine ⟨λhm=>?_,h1⟩
    obtain ⟨y,hy,e⟩:=List.mem_map.1 hm
    exact (h3 y hy).2 e.symm
   rcases mem_cons.1 hy with rfl|hy
   ·exact hf
   exact (h3 y hy).1
  rw [hf,if_pos Fs] at h;cases h
theorem cIy:∀(l:List bS)(m:Fns)(s:ByteArray),s∉l.map bS.name -> bZu (l.foldl (λm f=>bZq m f.name f) m) s=bZu m s
 |[],m,s,_=>rfl
 |f::l,m,s,h=>by
  simp only [List.map_cons,mem_cons,not_or] at h
  rw [List.foldl_cons,cIy l _ s h.2,cBo,if_neg (λe=>h.1 e.symm)]
theorem cJj:∀(l:List bS)(m:Fns),(l.map bS.name).Nodup -> ∀f,f∈l -> bZu (l.foldl (λm f=>bZq m f.name f) m) f.name=some f
 |[],_,_,f,h=>absurd h not_mem_nil
 |g::l,m,hd,f,h=>by
  simp only [List.map_cons,List.nodup_cons] at hd
  rw [List.foldl_cons]
  rcases mem_cons.1 h with rfl|h
  ·rw [cIy l _ _ hd.1,cBo,if_pos rfl]
  exact cJj l _ hd.2 f h
theorem cJx:∀(l:List bS)(m:Fns)(s:ByteArray)(f:bS),bZu (l.foldl (λm f=>bZq m f.name f) m) s=some f -> (f∈l /\ f.name=s)∨bZu m s=some f
 |[],m,s,f,h=>.inr h
 |g::l,m,s,f,h=>by
  rw [List.foldl_cons] at h
  rcases cJx l _ s f h with h|h
  ·exact .inl ⟨List.mem_cons_of_mem _ h.1,h.2⟩
  rw [cBo] at h
  split at h
  ·rename_i hg;cases h;exact .inl ⟨List.mem_cons_self,hg⟩
  exact .inr h
theorem cK7{p:cK}{x:cFc}(h:x∈cFd p)(h3:x.kind=3):∃(i:Nat) (hi:i<p.funcs.length),x=⟨p.funcs[i].name,3,i⟩:=by
 unfold cFd at h
 rcases mem_append.1 h with h|h
 ·obtain ⟨i,hi,rfl⟩:=List.mem_mapIdx.1 h
  exact absurd h3 (by show ¬(1:Int)=3;decide)
 rcases mem_append.1 h with h|h
 ·obtain ⟨i,hi,rfl⟩:=List.mem_mapIdx.1 h
  exact absurd h3 (by show ¬(2:Int)=3;decide)
 obtain ⟨i,hi,rfl⟩:=List.mem_mapIdx.1 h
 exact ⟨i,hi,Y⟩
theorem cK0{p:cK}{f:bS}(h:f∈p.funcs):∃i:Nat,(⟨f.name,3,i⟩:cFc)∈cFd p:=by
 obtain ⟨i,hi,rfl⟩:=List.getElem_of_mem h
 refine ⟨i,?_⟩
 unfold cFd
 exact List.mem_append_right _ (List.mem_append_right _ (List.mem_mapIdx.2 ⟨i,hi,Y⟩))
theorem cKg{p:cK}(h:((cFd p).map cFc.name).Nodup):(p.funcs.map bS.name).Nodup:=by
 unfold cFd at h
 rw [List.map_append,List.map_append] at h
 have h1:=(List.nodup_append.1 (List.nodup_append.1 h).2.1).2.1
 have e:(p.funcs.mapIdx λi f=>(⟨f.name,3,i⟩:cFc)).map cFc.name=p.funcs.map bS.name:=by
  apply List.ext_getElem
  ·simp
  intro i h1 h2;simp
 rw [e] at h1;exact h1
section
variable {p:cK}(hn:((cFd p).map cFc.name).Nodup)
include hn
theorem cKw(s:ByteArray)(x:cFc)(hf:cFa (cFd p) s=some x)(h3:x.kind=3):∃f,bZu (bZ7 p.funcs) s=some f /\ cGc p x.n=f.params:=by
 obtain ⟨h1,h2⟩:=cIt hf
 obtain ⟨i,hi,rfl⟩:=cK7 h1 h3
 refine ⟨p.funcs[i],?_,cHc hi⟩
 rw [←h2];exact cJj p.funcs [] (cKg hn) _ (getElem_mem hi)
theorem cLi(s:ByteArray)(h:∀x,cFa (cFd p) s=some x -> x.kind≠3):bZu (bZ7 p.funcs) s=none:=by
 rcases hl:bZu (bZ7 p.funcs) s with _|f
 ·rfl
 exfalso
 rcases cJx p.funcs [] s f hl with ⟨h1,h2⟩|h1
 ·obtain ⟨i,hi⟩:=cK0 h1
  have h9:=cI6 hn hi
  exact h _ (by rw [←h2];exact h9) Y
 cases h1
theorem cL8:cA9 p=cHa p:=by
 unfold cA9 cHa
 rw [show cCg=cFl from rfl]
 rcases hf:cFa (cFd p) cFl with _|x
 ·rw [cLi hn cFl (λx h=>by rw [hf] at h;cases h)]
 by_cases h3:x.kind=3
 ·obtain ⟨f,h1,h2⟩:=cKw hn cFl x hf h3
  rw [h1];dsimp only;rw [h2,decide_eq_true h3,Bool.true_and]
 rw [cLi hn cFl (λy h=>by rw [hf] at h;cases h;exact h3)];dsimp only;rw [decide_eq_false h3,Bool.false_and]
end
theorem cLp(p:cK):cAb p=cFx p:=by
 unfold cAb cFx
 by_cases hv:jI p=false
 ·rw [if_pos hv,if_pos hv]
 rw [if_neg hv,if_neg hv,cKv]
 obtain ⟨d1,d2⟩:=cLg (p:=p) (cFd p) [] [] (by unfold KN;simp) (λs=>rfl)
 rw [length_nil] at d1 d2
 rcases hb:cG0 [] (cFd p) with _|i
 ·obtain ⟨e1,e2,e3⟩:=d2 hb
  rw [e1];dsimp only
  obtain ⟨hn,-⟩:=cIm _ _ hb
  rw [cL8 hn]
  by_cases hm:cHa p=true
  ·rw [if_pos hm,if_pos hm]
   refine cKp p.funcs 0 _ ⟨e2,λs=>by rw [e3];rfl,cKw hn⟩ λf hf=>?_
   have hvt:jI p=true:=by simpa using hv
   rw [nX,Bool.and_eq_true] at hvt
   exact cJd 0 f.body (aJv hvt.1 f hf).1
  rw [if_neg hm,if_neg hm]
 rw [d1 i hb]
end
section
mutual
def mE(g:ByteArray -> ByteArray):aH -> aH
 |.mk op num name args=>.mk op num (if op=2 then g name else name) (mEs g args)
def mEs(g:ByteArray -> ByteArray):List aH -> List aH
 |[]=>[]
 |e::r=>mE g e::mEs g r
end
theorem cZv(g:ByteArray -> ByteArray):∀l:List aH,mEs g l=l.map (mE g)
 |[]=>by rw [mEs];rfl
 |e::l=>by rw [mEs,cZv g l];rfl
def mR(g:ByteArray -> ByteArray)(r:cY):cY:=⟨g r.name,r.index.map (mE g)⟩
def mA(g:ByteArray -> ByteArray)(a:eN):eN:=⟨a.mutex,mR g a.ref,mE g a.expr⟩
mutual
def mS(g:ByteArray -> ByteArray):aJ -> aJ
 |.mk k n e r a t f=>.mk k (g n) (mE g e) (mR g r) (a.map (mA g)) (mSs g t) (mSs g f)
def mSs(g:ByteArray -> ByteArray):List aJ -> List aJ
 |[]=>[]
 |s::l=>mS g s::mSs g l
end
theorem cZ2(g:ByteArray -> ByteArray):∀l:List aJ,mSs g l=l.map (mS g)
 |[]=>by rw [mSs];rfl
 |e::l=>by rw [mSs,cZ2 g l];rfl
def mQ(g:ByteArray -> ByteArray)(x:aS):aS:=⟨g x.name,x.mutex⟩
def mF(g h:ByteArray -> ByteArray)(f:bS):bS:=⟨g f.name,f.params.map (mQ h),mSs g f.body⟩
def mG(g:ByteArray -> ByteArray)(x:aI):aI:=⟨g x.name,x.init⟩
def mM(g:ByteArray -> ByteArray)(x:cL):cL:=⟨g x.name,x.reentrant,x.size⟩
def mP(g h:ByteArray -> ByteArray)(p:cK):cK:=⟨p.globals.map (mG g),p.mutexes.map (mM g),p.funcs.map (mF g h)⟩
end
section
def bX1(t:Nat)(x:aH):Nat:=if aM x.op<t then 1 else 0
theorem bZi{t t':Nat}(h:t' <= t)(x:aH):bX1 t' x <= bX1 t x:=by unfold bX1;split<;>split<;>omega
structure Inv (t d:Nat) (x:aH) (n:Nat):Prop where
 ve:VE x
 high:dI x+bX1 t x <= d
 few:(aT x).length+2*bX1 t x <= n
theorem Inv.mono{t t' d d' n n':Nat}{x:aH}(h:Inv t d x n)(ht:t' <= t)(hd:d <= d')(hn:n <= n'):Inv t' d' x n':=by
 have:=bZi ht x
 exact ⟨h.ve,by have:=h.high;omega,by have:=h.few;omega⟩
theorem bXy(b:Bool)(l:List PT):(dAe b l).length=l.length+2*(if b then 1 else 0):=by cases b<;>simp [dAe]
theorem bYh{op:Int}{k s t:Nat}(x:aH)(hs:aM op=s)(ht:t=if k=1 then s+1 else s):(if cV op k x.op then 1 else 0)=bX1 t x:=by
 unfold cV bX1
 by_cases hk:k=1
 focus
  rw [if_pos hk] at ht
 rotate_left
 rw [if_neg hk] at ht
 all_goals
  by_cases h:aM x.op<t
  ·rw [if_pos h,decide_eq_true J];rfl
  rw [if_neg h,decide_eq_false J];rfl
theorem Inv.un{op:Int}{d n:Nat}{x:aH}(h:op=3∨op=4)(i:Inv 5 d x n):Inv 5 (d+1) (.mk op 0 aK [x]) (n+1):=by
 have hs:aM op=5:=by rcases h with rfl|rfl<;>rfl
 have hp:=bYh (k:=0) (t:=5) x hs Y
 have h0:bX1 5 (.mk op 0 aK [x])=0:=by unfold bX1;rw [if_neg (by show ¬aM op<5;omega)]
 refine ⟨.un op x h i.ve,?_,?_⟩
 ·rw [aJb h,hp,h0];have:=i.high;omega
 rw [yB h,length_cons,bXy,hp,h0];have:=i.few;omega
theorem Inv.bin{op:Int}{d n m s:Nat}{x y:aH}(h:5 <= op /\ op <= 17)(hs:aM op=s)(ix:Inv s d x n)(iy:Inv (s+1) d y m):Inv s d (.mk op 0 aK [x,y]) (n+1+m):=by
 have h1:=bYh (k:=0) (t:=s) x hs Y
 have h2:=bYh (k:=1) (t:=s+1) y hs Y
 have h0:bX1 s (.mk op 0 aK [x,y])=0:=by unfold bX1;rw [if_neg (by show ¬aM op<s;omega)]
 refine ⟨.bin op x y h ix.ve iy.ve,?_,?_⟩
 ·rw [aGo h,h1,h2,h0];have:=ix.high;have:=iy.high;omega
 rw [uI h,length_append,length_cons,bXy,bXy,h1,h2,h0];have:=ix.few;have:=iy.few;omega
end
section
theorem eT.ve{names:List ByteArray}{d:Nat}{e:aH}(hn:∀x,x∈names -> bQ x=true)(h:eT names d e):VE e:=by
 induction h with
 |@name d x h=>exact .name x (hn x h)
 |@num d n h0 h1=>
  obtain ⟨k,rfl⟩:∃k:Nat,n=k:=⟨n.toNat,J⟩
  exact .num k J
 |@un d op e ho he ih=>exact .un op e ho ih
 |@bin d op a b h0 h1 ha hb iha ihb=>exact .bin op a b ⟨h0,h1⟩ iha ihb
end
section
theorem aDo:∀(e:aH),VE e -> (aT e).length <= 3*e.nodes-2:=by
 intro e h
 induction h with
 |num n h=>rw [uO,aH.nodes,cZ];simp
 |name s h=>rw [sC,aH.nodes,cZ];simp
 |un op x h hx ih=>
  have h1:∀b t,(dAe b t).length <= t.length+2:=λb t=>by unfold dAe;split<;>simp
  rw [yB h,aH.nodes,cZ,cZ,length_cons]
  have:=h1 (cV op 0 x.op) (aT x);omega
 |bin op x y h hx hy ihx ihy=>
  have h1:∀b t,(dAe b t).length <= t.length+2:=λb t=>by unfold dAe;split<;>simp
  rw [uI h,aH.nodes,cZ,cZ,cZ,length_append,length_cons]
  have:=h1 (cV op 0 x.op) (aT x);have:=h1 (cV op 1 y.op) (aT y);omega
theorem eT.toks{names:List ByteArray}{d:Nat}{e:aH}(hn:∀x,x∈names -> bQ x=true)(h:eT names d e)(hd:d <= 2):(aT e).length <= 37:=by
 have h1:=aDo e (h.ve hn)
 have h2:=(h.mono hd).nodes
 omega
section
variable {ms:List cL}{fs:List Sig}{ps:List aS}
theorem uA.toks{vars:List ByteArray}{r:cY}(hv:lC vars)(h:uA ms ps vars r):(hY r).length <= 40:=by
 cases h with
 |arr hm hs he=>have:=he.toks hv J;simp only [hY,length_cons,length_append,length_nil];omega
 |scalar hm hs=>simp [hY]
 |param hx hm=>simp [hY]
theorem tS{α:Type}(f:α -> List PT)(c:Nat):∀l:List α,(∀x,x∈l -> (f x).length <= c) -> (fZ f l).length <= (c+1)*l.length
 |[],_=>by simp [fZ]
 |[x],h=>by have:=h x G0;simp [fZ];omega
 |x::y::r,h=>by
  have h1:=tS f c (y::r) (λz hz=>h z (by simp [hz]))
  have h2:=h x G0
  rw [nW,length_append,length_cons]
  simp only [length_cons,Nat.mul_add,Nat.mul_one] at h1⊢;omega
theorem nB.toks{vars:List ByteArray}{l:List aS}{al:List eN}(hv:lC vars)(h:nB ms ps vars l al):al.length=l.length /\ ∀x,x∈al -> (wH x).length <= 41:=by
 induction h with
 |nil=>exact ⟨rfl,λx hx=>by cases hx⟩
 |mutex hx hr h ih=>
  refine ⟨by simp [ih.1],λx hx=>?_⟩
  rcases mem_cons.1 hx with rfl|hx
  ·have:=hr.toks hv;simp only [wH,if_true,length_cons];omega
  ·exact ih.2 x hx
 |expr hx he h ih=>
  refine ⟨by simp [ih.1],λx hx=>?_⟩
  rcases mem_cons.1 hx with rfl|hx
  ·have:=he.toks hv J;simp only [wH,Bool.false_eq_true,if_false];omega
  exact ih.2 x hx
theorem wL(a b:List aJ):aQ (a++b)=aQ a++aQ b:=by
 induction a with
 |nil=>rw [List.nil_append,aQ,List.nil_append]
 |cons s r ih=>rw [List.cons_append,aQ,aQ,ih,append_assoc]
theorem dJ.toks{vars:List ByteArray}{deep left left':Nat}{l:List aJ}(hg:∀g,g∈fs -> bQ g.1=true /\ g.2.length <= 2)(h:dJ ms fs ps vars deep left l left'):
  lC vars -> left <= 24 -> (aQ l).length <= 100*(left-left'):=by
 induction h with
 |nil=>intro _ _;rw [aQ];simp
 |lock hr h ih=>
  intro hv hl
  have:=h.le;have:=ih hv J;have:=hr.toks hv
  rw [aQ,cE];simp;omega
 |unlock hr h ih=>
  intro hv hl
  have:=h.le;have:=ih hv J;have:=hr.toks hv
  rw [aQ,cE];simp;omega
 |@var vars deep left left' e rest he h ih=>
  intro hv hl
  have:=h.le
  have:=ih (λx hx=>by
   rcases mem_append.1 hx with hx|hx
   ·exact hv x hx
   simp only [List.mem_singleton] at hx;subst hx;exact aAe left J) J
  have:=he.toks hv J
  rw [aQ,cE];simp;omega
 |assign hx he h ih=>
  intro hv hl
  have:=h.le;have:=ih hv J;have:=he.toks hv J
  rw [aQ,cE];simp;omega
 |@call vars deep left left' k g al rest hk hgm ha h ih=>
  intro hv hl
  have:=h.le;have:=ih hv J
  obtain ⟨h1,h2⟩:=ha.toks hv
  have h3:=tS wH 41 al h2
  have h4:=(hg g hgm).2
  rw [aQ,cE]
  rcases hk with rfl|rfl<;>simp [iG]<;>omega
 |cond he h1 h2 h3 i1 i2 i3=>
  intro hv hl
  have:=h1.le;have:=h2.le;have:=h3.le
  have:=i1 hv J;have:=i2 hv J;have:=i3 hv J;have:=he.toks hv J
  rw [aQ,cE]
  simp only [length_append]
  rw [if_neg V,if_neg V,if_neg V,if_neg V,if_neg V,if_neg V,if_pos V]
  simp only [length_append,length_cons,length_nil]
  split<;>(try simp only [length_append,length_cons,length_nil])<;>omega
 |loop he h1 h3 i1 i3=>
  intro hv hl
  have:=h1.le;have:=h3.le
  have:=i1 hv J;have:=i3 hv J;have:=he.toks hv J
  rw [aQ,cE];simp;omega
 |ret h ih=>
  intro hv hl
  have:=h.le;have:=ih hv J
  rw [aQ,cE];simp;omega
 |pair hr h1 h3 i1 i3=>
  intro hv hl
  have:=h1.le;have:=h3.le
  have:=i1 hv J;have:=i3 hv J;have:=hr.toks hv
  rw [aQ,wL,aQ,cE,cE];simp;omega
theorem kZ.toks{gs:List aI}{left:Nat}{l:List bS}(hg:∀g,g∈fs -> bQ g.1=true /\ g.2.length <= 2)(hgl:∀g,g∈gs -> bQ g.name=true)(h:kZ ms fs gs left l):left <= 24 -> (∀f,f∈l -> ∀x,x∈f.params -> bQ x.name=true) ->
  (l.map λf=>(aQ f.body).length).sum <= 100*left:=by
 induction h with
 |nil=>intro _ _;simp
 |@cons left left' f l hb hl ih=>
  intro hle hps
  have h1:=hb.le
  have hv:lC (uS gs f.params):=by
   intro x hx
   simp only [uS,mem_append,List.mem_map,List.mem_filter] at hx
   rcases hx with ⟨g,hg,rfl⟩|⟨y,⟨hy,_⟩,rfl⟩
   ·exact hgl g hg
   exact hps f G0 y hy
  have h2:=hb.toks hg hv hle
  have h3:=ih J (λf hf=>hps f (by simp [hf]))
  simp only [List.map_cons,List.sum_cons];omega
end
theorem yG{α:Type}(f:α -> List PT)(c:Nat):∀l:List α,(∀x,x∈l -> (f x).length <= c) -> ((l.map f).flatten).length <= c*l.length
 |[],_=>G0
 |x::r,h=>by
  have h1:=yG f c r Gu
  have h2:=h x G0
  simp only [List.map_cons,List.flatten_cons,length_append,length_cons,Nat.mul_add,Nat.mul_one];omega
theorem aBd:∀l:List bS,(∀f,f∈l -> f.params.length <= 2) -> ((l.map kA).flatten).length <= 20*l.length+(l.map λf=>(aQ f.body).length).sum
 |[],_=>G0
 |f::r,h=>by
  have h1:=aBd r Gu
  have h2:=h f G0
  have h3:=tS lQ 2 f.params (λx _=>by unfold lQ;split<;>simp)
  simp only [List.map_cons,List.flatten_cons,length_append,length_cons,List.sum_cons,Nat.mul_add,Nat.mul_one,kA,length_nil];omega
theorem aGw{p:cK}(h:sY p):(∀g,g∈p.globals -> bQ g.name=true) /\ (∀g,g∈p.funcs.map bS.sig -> bQ g.1=true /\ g.2.length <= 2) /\ ∀f,f∈p.funcs -> ∀x,x∈f.params -> bQ x.name=true:=by
 obtain ⟨gs,ms,fs⟩:=p
 obtain ⟨⟨hm1,hm2,hm⟩,⟨hg1,hg⟩,⟨hf1,hf2,hf⟩,hb⟩:=h
 have nf:∀f,f∈fs -> bQ f.name=true /\ pM f.params:=by
  intro f hfm;obtain ⟨k,hk,rfl⟩:=List.getElem_of_mem hfm;exact ⟨(hf k hk).name (by dsimp only at hf2 hk;omega),(hf k hk).2.2⟩
 refine ⟨λg hgm=>?_,λg hgm=>?_,λf hfm=>(nf f hfm).2.names⟩
 ·obtain ⟨k,hk,rfl⟩:=List.getElem_of_mem hgm;rw [(hg k hk).1];exact vO k (by dsimp only at hg1 hk;omega)
 obtain ⟨f,hfm,rfl⟩:=List.mem_map.1 hgm
 exact ⟨(nf f hfm).1,(nf f hfm).2.1⟩
theorem aJd{p:cK}(h:sY p):((iA p).map fF.toks).flatten.length <= 4000:=by
 obtain ⟨h1,h2,h3⟩:=aGw h
 have h4:=h.bodies.toks h2 h1 (Nat.le_refl _) h3
 have h5:=yG bEr 7 p.globals (λg _=>by unfold bEr;split<;>(try split)<;>simp)
 have h6:=yG gT 6 p.mutexes (λg _=>by unfold gT;split<;>split<;>simp)
 have h7:=aBd p.funcs (λf hf=>(h2 f.sig (List.mem_map.2 ⟨f,hf,Y⟩)).2)
 have a1:=h.globals.1;have a2:=h.mutexes.2.1;have a3:=h.funcs.2.1
 simp only [iA,List.map_append,List.map_map,List.flatten_append,length_append]
 have e1:fF.toks ∘ fF.glob=bEr:=Y
 have e2:fF.toks ∘ fF.mtx=gT:=Y
 have e3:fF.toks ∘ fF.fn=kA:=Y
 rw [e1,e2,e3];omega
theorem aHh{p:cK}(hs:p.sane)(h:nY p=true):(∀d,d∈iA p -> d.ok) /\ p.globals.length <= 16 /\ p.mutexes.length <= 12 /\ p.funcs.length <= 16:=by
 unfold nY at h
 simp only [Bool.and_eq_true,decide_eq_true_eq] at h
 obtain ⟨⟨⟨h1,hg⟩,hm⟩,hf⟩:=h
 refine ⟨λd hd=>?_,h1.1,h1.2.1,h1.2.2⟩
 simp only [iA,mem_append,List.mem_map] at hd
 rcases hd with ⟨g,hgm,rfl⟩|⟨m,hmm,rfl⟩|⟨f,hfm,rfl⟩
 ·have h2:=List.all_eq_true.1 hg g hgm
  have h3:=(hs.globals g hgm).1
  unfold gH at h2
  simp only [Bool.and_eq_true,decide_eq_true_eq] at h2
  unfold fit at h3
  exact ⟨h2.1,by have:=h2.2;omega⟩
 ·have h2:=List.all_eq_true.1 hm m hmm
  unfold fS at h2
  simp only [Bool.and_eq_true,decide_eq_true_eq,Bool.not_eq_true',Bool.and_eq_false_iff,decide_eq_false_iff_not] at h2
  refine ⟨h2.1.1,h2.1.2.1,h2.1.2.2,λhr=>?_⟩
  rcases h2.2 with h3|h3
  ·rw [hr] at h3;cases h3
  have:=h2.1.2.1;omega
 have h2:=List.all_eq_true.1 hf f hfm
 unfold gW at h2
 simp only [Bool.and_eq_true,decide_eq_true_eq] at h2
 exact ⟨h2.1.1.1,h2.1.1.2,List.all_eq_true.1 h2.2,lS f.body 23 0 Y (hs.funcs f hfm).2.2 h2.1.2⟩
theorem aPf{p:cK}(hs:p.sane)(h:nY p=true)(hl:(cR p).length <= 262144)(ht:((iA p).map fF.toks).flatten.length <= 4000):jI p=true:=by
 have h6:=uR (iA p) (aHh hs h).1 Lx.end
 rw [List.append_nil,List.append_nil,←wC] at h6
 obtain ⟨L,h7,-⟩:=aIz h6 hl ht
 rw [nX,h,h7];rfl
theorem yO{p:cK}(h:sY p):jI p=true:=aPf h.facts.sane h.facts.form (by have:=h.facts.len;omega) (aJd h)
end
section
structure bX7 (x:cK) (n:Nat):Prop where
 gl:∀g,g∈x.globals -> VG g
 ml:∀g,g∈x.mutexes -> VM g
 fl:∀g,g∈x.funcs -> VF g
 lg:x.globals.length <= 16
 lm:x.mutexes.length <= 12
 lf:x.funcs.length <= 16
 sum:(x.globals.map bEr).flatten.length+(x.mutexes.map gT).flatten.length+(x.funcs.map kA).flatten.length <= n
end
end Go.Proofs.YtjgeihmhppadaaaGreatDoor
