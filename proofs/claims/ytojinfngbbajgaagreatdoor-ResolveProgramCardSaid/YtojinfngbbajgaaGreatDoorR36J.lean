import Derived.Test.YtojinfngbbajgaaGreatDoorR15J
import Derived.Test.YtojinfngbbajgaaGreatDoorR31J
set_option linter.all false
set_option synthInstance.maxHeartbeats 1000000
set_option synthInstance.maxSize 1000000
namespace Go.Proofs.YtojinfngbbajgaaGreatDoor
open List (length_append length_cons length_nil mem_append mem_cons not_mem_nil append_assoc getElem_mem take_of_length_le)
section
theorem cCc:∀i,i<25 -> ∀j,j<25 -> cM i=cM j -> i=j:=by decide
theorem cCi(i j:Nat)(hi:i<25)(hj:j<25)(h:cM i=cM j):i=j:=cCc i hi j hj h
def cEb(i:Nat):ByteArray:=bytes [103,UInt8.ofNat (48+i)]
def cEa(i:Nat):ByteArray:=bytes [UInt8.ofNat (97+i)]
def bUd(i:Nat):ByteArray:=if i=0 then bytes [109,97,105,110] else bytes [102,UInt8.ofNat (48+i)]
def cB7(i:Nat):ByteArray:=bytes [112,UInt8.ofNat (48+i)]
def cDi:List ByteArray:=(List.range 2).map cEb++((List.range 4).map cEa++(List.range 4).map bUd)
theorem cCx:cDi.Nodup:=by decide
theorem cDz:∀i,i<3 -> cDi.all (fun s=>decide (s≠cB7 i))=true:=by decide
theorem cD8:∀i,i<25 -> cDi.all (fun s=>decide (s≠cM i))=true:=by decide
theorem cEc(i:Nat)(h:i<3):cB7 i∉cDi:=fun hm=>of_decide_eq_true (List.all_eq_true.1 (cDz i h) _ hm) rfl
theorem cEf(i:Nat)(h:i<25):cM i∉cDi:=fun hm=>of_decide_eq_true (List.all_eq_true.1 (cD8 i h) _ hm) rfl
theorem p_v:∀k,k<3 -> ∀i,i<25 -> cM i≠cB7 k:=by decide
theorem p_p:∀k,k<3 -> ∀i,i<3 -> cB7 i=cB7 k -> i=k:=by decide
theorem cD5:((List.range 4).map bUd).Nodup:=by decide
section
open Classical
structure cBn (ms:List cL) (sg:List Sig) (ps:List aS) (fs:Fns) (vars:List ByteArray) (left:Nat) (v:Vis):Prop where
 kn:KN v
 vars:∀x,x∈vars -> bZp v x=1
 ms:∀m,m∈ms -> bZp v m.name=cAr m
 ps:∀x,x∈ps -> x.mutex=true -> bZp v x.name=4
 sg:∀g,g∈sg -> bZp v g.1=5 /\ ∃f,bZu fs g.1=some f /\ f.params=g.2
 free:∀j,j<left -> bZp v (cM j)=0
section
variable {ms:List cL}{sg:List Sig}{ps:List aS}{fs:Fns}{vars:List ByteArray}{left:Nat}{v:Vis}
theorem cBn.of{v':Vis}{left':Nat}(h:cBn ms sg ps fs vars left v)(hk:KN v')(hl:left' <= left)(ow:List ByteArray)(hv:∀s,bZp v' s=if s∈ow then 1 else bZp v s)(ho:∀s,s∈ow -> ∃j,left' <= j /\ j<left /\ s=cM j)(h25:left <= 25):cBn ms sg ps fs vars left' v':=by
 have no:∀s,bZp v s≠0 -> bZp v' s=bZp v s:=fun s hs=>by
  rw [hv];split
  ·rename_i hm
   obtain ⟨j,-,h2,rfl⟩:=ho s hm
   exact absurd (h.free j h2) hs
  rfl
 refine ⟨hk,fun x hx=>?_,fun m hm=>?_,fun x hx hm=>?_,fun g hg=>?_,fun j hj=>?_⟩
 ·rw [no x (by rw [h.vars x hx];decide)];exact h.vars x hx
 ·rw [no _ (by rw [h.ms m hm];unfold cAr;split<;>decide)];exact h.ms m hm
 ·rw [no _ (by rw [h.ps x hx hm];decide)];exact h.ps x hx hm
 ·rw [no _ (by rw [(h.sg g hg).1];decide)];exact h.sg g hg
 rw [hv];split
 ·rename_i hm
  obtain ⟨i,h1,h2,h3⟩:=ho _ hm
  have:=cCi j i (by omega) (by omega) h3
  omega
 exact h.free j (by omega)
theorem eT.res{d:Nat}{e:aH}(h:eT vars d e)(hv:∀x,x∈vars -> bZp v x=1):bZ1 v e=0:=by
 induction h with
 |name hx=>rw [bZ1,if_pos rfl];unfold cBh;rw [hv _ hx];rfl
 |num h0 h1=>rw [bZ1,if_neg (by decide),bZ0]
 |un ho he ih=>rw [bZ1,if_neg (by omega),bZ0,if_pos ih,bZ0]
 |bin h0 h1 ha hb iha ihb=>rw [bZ1,if_neg (by omega),bZ0,if_pos iha,bZ0,if_pos ihb,bZ0]
theorem uA.res{r:cY}(h:uA ms ps vars r)(hv:cBn ms sg ps fs vars left v):cA3 v r=0:=by
 cases h with
 |@arr m e hm hs he=>
  have h1:=hv.ms m hm
  unfold cAr at h1;rw [if_pos hs] at h1
  unfold cA3 cAj
  rw [h1]
  exact he.res hv.vars
 |@scalar m hm hs=>
  have h1:=hv.ms m hm
  unfold cAr at h1;rw [if_neg (by omega)] at h1
  unfold cA3 cAj
  rw [h1];rfl
 |@param x hx hm=>
  have h1:=hv.ps x hx hm
  unfold cA3 cAj
  rw [h1];rfl
theorem nB.res{l:List aS}{al:List eN}(h:nB ms ps vars l al)(hv:cBn ms sg ps fs vars left v):bZ3 v al l=0 /\ al.length=l.length:=by
 induction h with
 |nil=>exact ⟨rfl,rfl⟩
 |mutex hx hr h ih=>
  refine ⟨?_,by simp [ih.2]⟩
  rw [bZ3,if_pos];·exact ih.1
  unfold cBb;rw [hx];exact hr.res hv
 |expr hx he h ih=>
  refine ⟨?_,by simp [ih.2]⟩
  rw [bZ3,if_pos];·exact ih.1
  unfold cBb;rw [hx];exact he.res hv.vars
theorem cBw(fs:Fns):∀(a b:List aJ)(own own1:List ByteArray)(x x1:RS),bZr fs a own x=(0,own1,x1) -> bZr fs (a++b) own x=bZr fs b own1 x1
 |[],b,own,own1,x,x1,h=>by rw [bZr] at h;cases h;rfl
 |s::a,b,own,own1,x,x1,h=>by
  rw [bZr] at h
  rw [List.cons_append,bZr]
  split at h
  ·rename_i h0
   rw [if_pos h0];exact cBw fs a b _ _ _ _ h
  rename_i h0
  exact absurd (congrArg Prod.fst h) h0
theorem cCh:∀(ow:List ByteArray)(v:Vis),KN v -> KN (ow.foldl bZy v) /\ ∀s,bZp (ow.foldl bZy v) s=if s∈ow then 0 else bZp v s
 |[],v,h=>⟨h,fun s=>by simp⟩
 |k::ow,v,h=>by
  obtain ⟨h1,h2⟩:=cCh ow (bZy v k) (h.del k)
  refine ⟨h1,fun s=>?_⟩
  rw [List.foldl_cons,h2,cCs h]
  by_cases hs:s∈ow
  ·rw [if_pos hs,if_pos (List.mem_cons_of_mem _ hs)]
  rw [if_neg hs]
  by_cases hk:k=s
  ·rw [if_pos hk,if_pos (by rw [hk];exact List.mem_cons_self)]
  rw [if_neg hk,if_neg (fun hm=>(mem_cons.1 hm).elim (fun e=>hk e.symm) hs)]
def cA1(fs:Fns)(l:List aJ)(left left':Nat)(v:Vis):Prop:=∀(own:List ByteArray)(n:Nat)(a:Int),∃(ow:List ByteArray) (n':Nat) (a':Int) (v':Vis),bZr fs l own ⟨v,n,a⟩=(0,own++ow,⟨v',n',a'⟩) /\ KN v' /\ (∀s,bZp v' s=if s∈ow then 1 else bZp v s) /\ ∀s,s∈ow -> ∃j,left' <= j /\ j<left /\ s=cM j
theorem cA1.fin{l:List aJ}{left':Nat}(h:cA1 fs l left left' v)(hf:∀j,j<left -> bZp v (cM j)=0)(n:Nat)(a:Int):∃(n':Nat) (a':Int) (v':Vis),cA7 (bZr fs l [] ⟨v,n,a⟩)=(0,⟨v',n',a'⟩) /\ KN v' /\ ∀s,bZp v' s=bZp v s:=by
 obtain ⟨ow,n',a',v',h1,h2,h3,h4⟩:=h [] n a
 obtain ⟨g1,g2⟩:=cCh ow v' h2
 refine ⟨n',a',_,by rw [h1];rfl,g1,fun s=>?_⟩
 show bZp (ow.foldl bZy v') s=_
 rw [g2,h3]
 split
 ·rename_i hm
  obtain ⟨j,-,h5,rfl⟩:=h4 s hm
  exact (hf j h5).symm
 rfl
theorem cBn.same{v':Vis}{left':Nat}(h:cBn ms sg ps fs vars left v)(hk:KN v')(hl:left' <= left)(hv:∀s,bZp v' s=bZp v s):cBn ms sg ps fs vars left' v':=
 ⟨hk,fun x hx=>by rw [hv];exact h.vars x hx,fun m hm=>by rw [hv];exact h.ms m hm,fun x hx hm=>by rw [hv];exact h.ps x hx hm,fun g hg=>by rw [hv];exact h.sg g hg,fun j hj=>by rw [hv];exact h.free j (by omega)⟩
theorem cA1.next{s:aJ}{l:List aJ}{l0 l1 left':Nat}{v1:Vis}(hk:s.kind≠1)(hl:l1 <= l0)(hs:∀(n:Nat)(a:Int),∃(n':Nat) (a':Int),bZ4 fs s ⟨v,n,a⟩=(0,⟨v1,n',a'⟩))(hv:∀q,bZp v1 q=bZp v q)(h:cA1 fs l l1 left' v1):cA1 fs (s::l) l0 left' v:=by
 intro own n a
 obtain ⟨n1,a1,e1⟩:=hs n a
 obtain ⟨ow,n',a',v',h1,h2,h3,h4⟩:=h own n1 a1
 refine ⟨ow,n',a',v',?_,h2,fun q=>by rw [h3,hv],fun q hq=>?_⟩
 ·rw [bZr,e1,if_pos rfl,show cCp s own=own from if_neg hk];exact h1
 obtain ⟨j,g1,g2,g3⟩:=h4 q hq
 exact ⟨j,g1,by omega,g3⟩
theorem cAa{s:aJ}(hk:s.kind≠1)(ht:s.thn=[])(he:s.els=[])(hp:bZ5 v fs s=0)(n:Nat)(a:Int):∃(n':Nat) (a':Int),bZ4 fs s ⟨v,n,a⟩=(0,⟨v,n',a'⟩):=by
 refine ⟨n+1,n,?_⟩
 rw [bZ9,if_pos hp,ht,he]
 unfold cAy;dsimp only
 rw [if_neg hk];rfl
theorem cCf{k:Int}{e:aH}{t f rest:List aJ}{l0 l1 l2 l3 left':Nat}(hk:k=7∨k=8)(hl:l1 <= l0)(hl3:l3 <= l1)(he:bZ1 v e=0)(hfr:∀j,j<l1 -> bZp v (cM j)=0)(ht:cA1 fs t l1 l2 v)
  (hf:∀v1,KN v1 -> (∀s,bZp v1 s=bZp v s) -> (∀j,j<l2 -> bZp v1 (cM j)=0) /\ cA1 fs f l2 l3 v1) (hr:∀v2,KN v2 -> (∀s,bZp v2 s=bZp v s) -> cA1 fs rest l3 left' v2):cA1 fs (.mk k aK e .zero [] t f::rest) l0 left' v:=by
 intro own n a
 obtain ⟨n1,a1,v1,f1,k1,q1⟩:=ht.fin hfr (n+1) n
 obtain ⟨hfr2,hf2⟩:=hf v1 k1 q1
 obtain ⟨n2,a2,v2,f2,k2,q2⟩:=hf2.fin hfr2 n1 a1
 have hst:bZ4 fs (.mk k aK e .zero [] t f) ⟨v,n,a⟩=(0,⟨v2,n2,a2⟩):=by
  have hp:bZ5 v fs (.mk k aK e .zero [] t f)=0:=by
   show (if k=1 then _ else if k=2 then _ else if k=5∨k=6 then _ else if k=3∨k=4 then _ else if k=7∨k=8 then bZ1 v e else 0)=0
   rw [if_neg (by omega),if_neg (by omega),if_neg (by omega),if_neg (by omega),if_pos hk];exact he
  rw [bZ9,if_pos hp]
  have hb:cAy (.mk k aK e .zero [] t f) ⟨v,n,a⟩=⟨v,n+1,n⟩:=by
   show RS.mk (if k=1 then _ else v) (n+1) n=_
   rw [if_neg (by omega)]
  rw [hb]
  show (if (cA7 (bZr fs t [] ⟨v,n+1,n⟩)).1=0 then cA7 (bZr fs f [] (cA7 (bZr fs t [] ⟨v,n+1,n⟩)).2) else _)=_
  rw [f1,if_pos rfl,f2]
 obtain ⟨ow,n3,a3,v3,h1,h2,h3,h4⟩:=hr v2 k2 (fun s=>(q2 s).trans (q1 s)) own n2 a2
 refine ⟨ow,n3,a3,v3,?_,h2,fun s=>by rw [h3,q2,q1],fun s hs=>?_⟩
 ·rw [bZr,hst,if_pos rfl,show cCp (.mk k aK e .zero [] t f) own=own from if_neg (by show ¬k=1;omega)];exact h1
 obtain ⟨j,g1,g2,g3⟩:=h4 s hs;exact ⟨j,g1,by omega,g3⟩
theorem dJ.res{deep left':Nat}{l:List aJ}(h:dJ ms sg ps vars deep left l left'):∀v:Vis,cBn ms sg ps fs vars left v -> left <= 25 -> cA1 fs l left left' v:=by
 induction h with
 |nil=>intro v hv _ own n a;exact ⟨[],n,a,v,by simp [bZr],hv.kn,fun s=>by simp,fun s hs=>by cases hs⟩
 |@lock vars deep left left' r rest hr h ih=>
  intro v hv hl
  exact .next (l1:=left) (of_decide_eq_true rfl) (by omega) (cAa (of_decide_eq_true rfl) rfl rfl (hr.res hv)) (fun _=>rfl) (ih v (hv.same hv.kn (by omega) fun _=>rfl) (by omega))
 |@unlock vars deep left left' r rest hr h ih=>
  intro v hv hl
  exact .next (l1:=left) (of_decide_eq_true rfl) (by omega) (cAa (of_decide_eq_true rfl) rfl rfl (hr.res hv)) (fun _=>rfl) (ih v (hv.same hv.kn (by omega) fun _=>rfl) (by omega))
 |@var vars deep left left' e rest he h ih=>
  intro v hv hl own n a
  have h0:=hv.free left (by omega)
  have hle:=h.le
  have hv1:cBn ms sg ps fs (vars++[cM left]) left (bZq v (cM left) 1):=by
   have h9:=hv.of (left':=left) (hv.kn.put (cM left) 1) (by omega) [cM left] (fun s=>by rw [cAl];simp [eq_comm]) (fun s hs=>⟨left,Nat.le_refl _,by omega,by simpa using hs⟩) (by omega)
   refine ⟨h9.kn,fun x hx=>?_,h9.ms,h9.ps,h9.sg,h9.free⟩
   rcases mem_append.1 hx with hx|hx
   ·exact h9.vars x hx
   rw [List.mem_singleton.1 hx,cAl,if_pos rfl]
  obtain ⟨ow,n',a',v',h1,h2,h3,h4⟩:=ih _ hv1 (by omega) (own++[cM left]) (n+1) n
  refine ⟨cM left::ow,n',a',v',?_,h2,fun s=>?_,fun s hs=>?_⟩
  ·have hst:bZ4 fs (.mk 1 (cM left) e .zero [] [] []) ⟨v,n,a⟩=(0,⟨bZq v (cM left) 1,n+1,n⟩):=by
    rw [bZ9,if_pos]
    ·rfl
    show (if (1:Int)=1 then (if bZp v (cM left)=0 then bZ1 v e else 5) else _)=0
    rw [if_pos rfl,if_pos h0];exact he.res hv.vars
   rw [bZr,hst,if_pos rfl]
   show bZr fs rest (own++[cM left]) _=_
   rw [h1,append_assoc];rfl
  ·rw [h3,cAl]
   by_cases hs:s∈ow
   ·rw [if_pos hs,if_pos (List.mem_cons_of_mem _ hs)]
   rw [if_neg hs]
   by_cases hk:cM left=s
   ·rw [if_pos hk,if_pos (by rw [hk];exact List.mem_cons_self)]
   rw [if_neg hk,if_neg (fun hm=>(mem_cons.1 hm).elim (fun e=>hk e.symm) hs)]
  ·rcases mem_cons.1 hs with rfl|hs
   ·exact ⟨left,hle,by omega,rfl⟩
   ·obtain ⟨j,g1,g2,g3⟩:=h4 s hs
    exact ⟨j,g1,by omega,g3⟩
 |@assign vars deep left left' x e rest hx he h ih=>
  intro v hv hl
  refine .next (l1:=left) (of_decide_eq_true rfl) (by omega) (cAa (of_decide_eq_true rfl) rfl rfl ?_) (fun _=>rfl) (ih v (hv.same hv.kn (by omega) fun _=>rfl) (by omega))
  show (if (2:Int)=1 then _ else if (2:Int)=2 then (if cBh v x=0 then bZ1 v e else cBh v x) else _)=0
  rw [if_neg (by decide),if_pos rfl,if_pos (by unfold cBh;rw [hv.vars x hx];rfl)];exact he.res hv.vars
 |@call vars deep left left' k g asl rest hk hg ha h ih=>
  intro v hv hl
  obtain ⟨g1,f,g2,g3⟩:=hv.sg g hg
  obtain ⟨a1,a2⟩:=ha.res hv
  refine .next (l1:=left) (by show k≠1;omega) (by omega) (cAa (by show k≠1;omega) rfl rfl ?_) (fun _=>rfl) (ih v (hv.same hv.kn (by omega) fun _=>rfl) (by omega))
  show (if k=1 then _ else if k=2 then _ else if k=5∨k=6 then _ else if k=3∨k=4 then cAx v fs g.1 asl else _)=0
  rw [if_neg (by omega),if_neg (by omega),if_neg (by omega),if_pos hk]
  unfold cAx
  rw [g1,g2,if_neg (by decide),if_pos rfl]
  show (if asl.length=f.params.length then bZ3 v asl f.params else 7)=0
  rw [g3,if_pos a2];exact a1
 |@cond vars deep left l1 l2 left' e thn els rest he ht hel h iht ihe ih=>
  intro v hv hl
  have e1:=ht.le;have e2:=hel.le;have e3:=h.le
  have hv0:=hv.same (left':=left) hv.kn (by omega) fun _=>rfl
  refine cCf (l1:=left) (l2:=l1) (l3:=l2) (by decide) (by omega) (by omega) (he.res hv.vars) hv0.free (iht v hv0 (by omega)) (fun v1 k1 q1=>?_) (fun v2 k2 q2=>ih v2 (hv.same k2 (by omega) q2) (by omega))
  have hv1:=hv.same (left':=l1) k1 (by omega) q1
  exact ⟨hv1.free,ihe v1 hv1 (by omega)⟩
 |@loop vars deep left l1 left' e thn rest he ht h iht ih=>
  intro v hv hl
  have e1:=ht.le;have e3:=h.le
  have hv0:=hv.same (left':=left) hv.kn (by omega) fun _=>rfl
  refine cCf (l1:=left) (l2:=l1) (l3:=l1) (by decide) (by omega) (by omega) (he.res hv.vars) hv0.free (iht v hv0 (by omega)) (fun v1 k1 q1=>?_) (fun v2 k2 q2=>ih v2 (hv.same k2 (by omega) q2) (by omega))
  have hv1:=hv.same (left':=l1) k1 (by omega) q1
  exact ⟨hv1.free,fun own n a=>⟨[],n,a,v1,by simp [bZr],k1,fun s=>by simp,fun s hs=>by cases hs⟩⟩
 |@ret vars deep left left' rest h ih=>
  intro v hv hl
  exact .next (l1:=left) (of_decide_eq_true rfl) (by omega) (cAa (of_decide_eq_true rfl) rfl rfl rfl) (fun _=>rfl) (ih v (hv.same hv.kn (by omega) fun _=>rfl) (by omega))
 |@pair vars deep left l1 left' r mid rest hr hm h ihm ih=>
  intro v hv hl
  have e1:=hm.le;have e2:=h.le
  refine .next (l1:=left) (of_decide_eq_true rfl) (by omega) (cAa (of_decide_eq_true rfl) rfl rfl (hr.res hv)) (fun _=>rfl) ?_
  have hv0:=hv.same (left':=left) hv.kn (by omega) fun _=>rfl
  intro own n a
  obtain ⟨ow,n1,a1,v1,g1,g2,g3,g4⟩:=ihm v hv0 (by omega) own n a
  have hv1:cBn ms sg ps fs vars l1 v1:=hv0.of g2 e1 ow g3 g4 (by omega)
  have hu:cA1 fs (.mk 6 aK .zero r [] [] []::rest) l1 left' v1:=.next (l1:=l1) (of_decide_eq_true rfl) (Nat.le_refl _) (cAa (of_decide_eq_true rfl) rfl rfl (hr.res hv1)) (fun _=>rfl) (ih v1 hv1 (by omega))
  obtain ⟨ow2,n2,a2,v2,h1,h2,h3,h4⟩:=hu (own++ow) n1 a1
  refine ⟨ow++ow2,n2,a2,v2,by rw [cBw fs _ _ _ _ _ _ g1,h1,append_assoc],h2,fun s=>?_,fun s hs=>?_⟩
  ·rw [h3,g3]
   by_cases hs:s∈ow2
   ·rw [if_pos hs,if_pos (List.mem_append_right _ hs)]
   rw [if_neg hs]
   by_cases hs1:s∈ow
   ·rw [if_pos hs1,if_pos (List.mem_append_left _ hs1)]
   rw [if_neg hs1,if_neg (fun hm=>(mem_append.1 hm).elim hs1 hs)]
  rcases mem_append.1 hs with hs|hs
  ·obtain ⟨j,k1,k2,k3⟩:=g4 s hs;exact ⟨j,by omega,k2,k3⟩
  obtain ⟨j,k1,k2,k3⟩:=h4 s hs;exact ⟨j,k1,by omega,k3⟩
end
theorem cBt:∀(l:List (ByteArray×Int)) (v:Vis) (n:Nat),KN v -> (l.map (·.1)).Nodup -> (∀x,x∈l -> bZp v x.1=0) ->
  (bZz l v n).1=none /\ KN (bZz l v n).2 /\ (∀x,x∈l -> bZp (bZz l v n).2 x.1=x.2) /\ ∀s,s∉l.map (·.1) -> bZp (bZz l v n).2 s=bZp v s
 |[],v,n,hk,_,_=>⟨rfl,hk,fun x hx=>absurd hx not_mem_nil,fun s _=>rfl⟩
 |p::r,v,n,hk,hd,h0=>by
  simp only [List.map_cons,List.nodup_cons] at hd
  obtain ⟨a1,a2,a3,a4⟩:=cBt r (bZq v p.1 p.2) (n+1) (hk.put _ _) hd.2 (fun x hx=>by
   rw [cAl,if_neg (fun e=>hd.1 (by rw [e];exact List.mem_map_of_mem hx))];exact h0 x (List.mem_cons_of_mem _ hx))
  have e:bZz (p::r) v n=bZz r (bZq v p.1 p.2) (n+1):=by rw [bZz,if_pos (h0 p List.mem_cons_self)]
  rw [e]
  refine ⟨a1,a2,fun x hx=>?_,fun s hs=>?_⟩
  ·rcases mem_cons.1 hx with rfl|hx
   ·rw [a4 _ hd.1,cAl,if_pos rfl]
   exact a3 x hx
  simp only [List.map_cons,mem_cons,not_or] at hs
  rw [a4 s hs.2,cAl,if_neg (fun e=>hs.1 e.symm)]
theorem cB2:∀(l:List bS)(m:Fns)(s:ByteArray),s∉l.map bS.name -> bZu (l.foldl (fun m f=>bZq m f.name f) m) s=bZu m s
 |[],m,s,_=>rfl
 |f::l,m,s,h=>by
  simp only [List.map_cons,mem_cons,not_or] at h
  rw [List.foldl_cons,cB2 l _ s h.2,cBo,if_neg (fun e=>h.1 e.symm)]
theorem cBj:∀(l:List bS)(m:Fns),(l.map bS.name).Nodup -> ∀f,f∈l -> bZu (l.foldl (fun m f=>bZq m f.name f) m) f.name=some f
 |[],_,_,f,h=>by cases h
 |g::l,m,hd,f,h=>by
  simp only [List.map_cons,List.nodup_cons] at hd
  rw [List.foldl_cons]
  rcases mem_cons.1 h with rfl|h
  ·rw [cB2 l _ _ hd.1,cBo,if_pos rfl]
  exact cBj l _ hd.2 f h
theorem cBg:∀(l:List aS)(v:Vis),KN v -> (l.map aS.name).Nodup -> (∀x,x∈l -> bZp v x.name=0) ->
  (bZv l v).1=true /\ KN (bZv l v).2 /\ (∀x,x∈l -> bZp (bZv l v).2 x.name=cAw x) /\ ∀s,s∉l.map aS.name -> bZp (bZv l v).2 s=bZp v s
 |[],v,hk,_,_=>⟨rfl,hk,fun x hx=>absurd hx not_mem_nil,fun s _=>rfl⟩
 |p::r,v,hk,hd,h0=>by
  simp only [List.map_cons,List.nodup_cons] at hd
  obtain ⟨a1,a2,a3,a4⟩:=cBg r (bZq v p.name (cAw p)) (hk.put _ _) hd.2 (fun x hx=>by
   rw [cAl,if_neg (fun e=>hd.1 (by rw [e];exact List.mem_map_of_mem hx))];exact h0 x (List.mem_cons_of_mem _ hx))
  have e:bZv (p::r) v=bZv r (bZq v p.name (cAw p)):=by rw [bZv,if_pos (h0 p List.mem_cons_self)]
  rw [e]
  refine ⟨a1,a2,fun x hx=>?_,fun s hs=>?_⟩
  ·rcases mem_cons.1 hx with rfl|hx
   ·rw [a4 _ hd.1,cAl,if_pos rfl]
   exact a3 x hx
  simp only [List.map_cons,mem_cons,not_or] at hs
  rw [a4 s hs.2,cAl,if_neg (fun e=>hs.1 e.symm)]
theorem cB0:∀(l:List aS)(v:Vis),KN v -> KN (cAk l v) /\ ∀s,bZp (cAk l v) s=if s∈l.map aS.name then 0 else bZp v s
 |[],v,h=>⟨h,fun s=>by simp [cAk]⟩
 |x::l,v,h=>by
  obtain ⟨h1,h2⟩:=cB0 l (bZy v x.name) (h.del x.name)
  refine ⟨h1,fun s=>?_⟩
  show bZp (cAk l (bZy v x.name)) s=_
  rw [h2,cCs h,List.map_cons]
  by_cases hs:s∈l.map aS.name
  ·rw [if_pos hs,if_pos (List.mem_cons_of_mem _ hs)]
  rw [if_neg hs]
  by_cases hk:x.name=s
  ·rw [if_pos hk,if_pos (by rw [hk];exact List.mem_cons_self)]
  rw [if_neg hk,if_neg (fun hm=>(mem_cons.1 hm).elim (fun e=>hk e.symm) hs)]
theorem cDs{α:Type}(nm:α -> ByteArray)(g:Nat -> ByteArray)(l:List α)(h:∀k (hk:k<l.length),nm l[k]=g k):l.map nm=(List.range l.length).map g:=by
 apply List.ext_getElem
 ·simp
 intro i h1 h2
 simp only [List.length_map] at h1
 simp only [List.getElem_map,List.getElem_range]
 exact h i h1
theorem cDb{a b:Nat}(h:a <= b):(List.range a).Sublist (List.range b):=by
 rw [←Nat.add_sub_cancel' h,List.range_add];exact List.sublist_append_left _ _
theorem cA5{α:Type}(nm:α -> ByteArray)(g:Nat -> ByteArray)(l:List α)(n:Nat)(hn:l.length <= n)(h:∀k (hk:k<l.length),nm l[k]=g k):(l.map nm).Sublist ((List.range n).map g):=by
 rw [cDs nm g l h];exact (cDb hn).map g
section
variable {p:cK}(hp:sY p)
include hp
omit hp in theorem sorts_names:(bZs p).map (·.1)=p.globals.map aI.name++(p.mutexes.map cL.name++p.funcs.map bS.name):=by
 unfold bZs;simp [List.map_map,Function.comp_def]
theorem cC2(k:Nat)(h:k<p.funcs.length):p.funcs[k].name=bUd k:=by
 have h1:=hp.funcs.2.2 k h
 unfold bUd
 by_cases h0:k=0
 ·rw [if_pos h0];exact (h1.1 h0).1
 rw [if_neg h0];exact h1.2.1 (by omega)
theorem cBk:((bZs p).map (·.1)).Sublist cDi:=by
 rw [sorts_names]
 exact (cA5 aI.name cEb p.globals 2 hp.globals.1 fun k h=>(hp.globals.2 k h).1).append
  ((cA5 cL.name cEa p.mutexes 4 hp.mutexes.2.1 fun k h=>(hp.mutexes.2.2 k h).1).append (cA5 bS.name bUd p.funcs 4 hp.funcs.2.1 (cC2 hp)))
theorem cCe:(p.funcs.map bS.name).Nodup:=by
 refine ((cA5 bS.name bUd p.funcs 4 hp.funcs.2.1 (cC2 hp))).nodup cD5
theorem cDd{f:bS}(hf:f∈p.funcs):∀x,x∈f.params -> ∃i,i<3 /\ x.name=cB7 i:=by
 obtain ⟨k,hk,rfl⟩:=List.getElem_of_mem hf
 obtain ⟨h1,h2⟩:=(hp.funcs.2.2 k hk).2.2
 intro x hx
 obtain ⟨j,hj,rfl⟩:=List.getElem_of_mem hx
 exact ⟨_,by omega,h2 j hj⟩
theorem cC7{f:bS}(hf:f∈p.funcs):(f.params.map aS.name).Nodup:=by
 obtain ⟨k,hk,rfl⟩:=List.getElem_of_mem hf
 obtain ⟨h1,h2⟩:=(hp.funcs.2.2 k hk).2.2
 unfold List.Nodup
 rw [List.pairwise_iff_getElem]
 intro i j hi hj hij
 simp only [List.length_map] at hi hj
 simp only [List.getElem_map]
 rw [h2 i hi,h2 j hj]
 intro e
 have:=p_p _ (by omega) _ (by omega) e
 omega
theorem cC9{v:Vis}(hk:KN v)(hs:∀x,x∈bZs p -> bZp v x.1=x.2)(h0:∀s,s∉(bZs p).map (·.1) -> bZp v s=0){f:bS}(hf:f∈p.funcs){left left':Nat}(hl:left <= 24)
  (h:dJ p.mutexes (p.funcs.map bS.sig) f.params (uS p.globals f.params) 2 left f.body left'):(cAe (bZ7 p.funcs) f v).1=0 /\ KN (cAe (bZ7 p.funcs) f v).2.vis /\ ∀s,bZp (cAe (bZ7 p.funcs) f v).2.vis s=bZp v s:=by
 have hpn:=cDd hp hf
 have hno:∀x,x∈f.params -> x.name∉(bZs p).map (·.1):=fun x hx hm=>by
  obtain ⟨i,hi,e⟩:=hpn x hx
  exact cEc i hi (e▸(cBk hp).subset hm)
 obtain ⟨a1,a2,a3,a4⟩:=cBg f.params v hk (cC7 hp hf) (fun x hx=>h0 _ (hno x hx))
 have keep:∀x,x∈bZs p -> bZp (bZv f.params v).2 x.1=x.2:=fun x hx=>by
  rw [a4 _ (fun hm=>?_)];·exact hs x hx
  obtain ⟨y,hy,e⟩:=List.mem_map.1 hm
  exact hno y hy (e▸List.mem_map_of_mem hx)
 have hv:cBn p.mutexes (p.funcs.map bS.sig) f.params (bZ7 p.funcs) (uS p.globals f.params) left (bZv f.params v).2:=by
  refine ⟨a2,fun x hx=>?_,fun m hm=>?_,fun x hx hm=>?_,fun g hg=>?_,fun j hj=>?_⟩
  ·unfold uS at hx
   rcases mem_append.1 hx with hx|hx
   ·obtain ⟨g,hg,rfl⟩:=List.mem_map.1 hx
    exact keep (g.name,1) (by unfold bZs;exact List.mem_append_left _ (List.mem_map.2 ⟨g,hg,rfl⟩))
   obtain ⟨y,hy,rfl⟩:=List.mem_map.1 hx
   obtain ⟨h1,h2⟩:=List.mem_filter.1 hy
   rw [a3 y h1];unfold cAw;rw [if_neg (by simpa using h2)]
  ·exact keep (m.name,cAr m) (by unfold bZs;exact List.mem_append_right _ (List.mem_append_left _ (List.mem_map.2 ⟨m,hm,rfl⟩)))
  ·rw [a3 x hx];unfold cAw;rw [if_pos hm]
  ·obtain ⟨y,hy,rfl⟩:=List.mem_map.1 hg
   exact ⟨keep (y.name,5) (by unfold bZs;exact List.mem_append_right _ (List.mem_append_right _ (List.mem_map.2 ⟨y,hy,rfl⟩))),y,cBj _ _ (cCe hp) y hy,rfl⟩
  rw [a4 _ (fun hm=>?_)]
  ·exact h0 _ (fun hm=>cEf j (by omega) ((cBk hp).subset hm))
  obtain ⟨y,hy,e⟩:=List.mem_map.1 hm
  obtain ⟨i,hi,e2⟩:=hpn y hy
  exact p_v i hi j (by omega) (e.symm.trans e2)
 obtain ⟨n',a',v',e1,e2,e3⟩:=(h.res (fs:=bZ7 p.funcs) _ hv (by omega)).fin hv.free 0 (-1)
 have e:cAe (bZ7 p.funcs) f v=(0,⟨cAk f.params v',n',a'⟩):=by
  unfold cAe;rw [if_pos a1];unfold bZ2;rw [e1]
 obtain ⟨g1,g2⟩:=cB0 f.params v' e2
 rw [e]
 refine ⟨rfl,g1,fun s=>?_⟩
 show bZp (cAk f.params v') s=_
 rw [g2,e3]
 split
 ·rename_i hm
  obtain ⟨y,hy,rfl⟩:=List.mem_map.1 hm
  exact (h0 _ (hno y hy)).symm
 rename_i hm
 exact a4 s hm
theorem cCy{left:Nat}{l:List bS}(h:kZ p.mutexes (p.funcs.map bS.sig) p.globals left l):∀(v:Vis)(i:Nat),left <= 24 -> KN v -> (∀x,x∈bZs p -> bZp v x.1=x.2) -> (∀s,s∉(bZs p).map (·.1) -> bZp v s=0) -> (∀f,f∈l -> f∈p.funcs) -> cAg (bZ7 p.funcs) l i v=(0,0,0):=by
 induction h with
 |nil=>intro v i _ _ _ _ _;rfl
 |@cons left left' f l h hl ih=>
  intro v i h24 hk hs h0 hm
  obtain ⟨b1,b2,b3⟩:=cC9 hp hk hs h0 (hm f List.mem_cons_self) h24 h
  rw [cAg,if_pos b1]
  exact ih _ _ (Nat.le_trans h.le h24) b2 (fun x hx=>by rw [b3];exact hs x hx) (fun s hs=>by rw [b3];exact h0 s hs) (fun g hg=>hm g (List.mem_cons_of_mem _ hg))
theorem cDm:cAb p=(0,0,0):=by
 obtain ⟨a1,a2,a3,a4⟩:=cBt (bZs p) [] 0 (by unfold KN;simp) ((cBk hp).nodup cCx) (fun _ _=>rfl)
 have hm:cA9 p=true:=by
  have h1:=hp.funcs.1
  have h2:=hp.funcs.2.2 0 h1
  have h3:=cBj p.funcs [] (cCe hp) _ (getElem_mem h1)
  rw [(h2.1 rfl).1] at h3
  unfold cA9
  have e:bZu (bZ7 p.funcs) cCg=some p.funcs[0]:=h3
  rw [e];dsimp only;rw [(h2.1 rfl).2];rfl
 unfold cAb
 rw [yO hp,if_neg (by decide),a1]
 dsimp only
 rw [if_pos hm]
 exact cCy hp hp.bodies _ _ (Nat.le_refl _) a2 a3 (fun s hs=>by rw [a4 s hs];rfl) (fun f hf=>hf)
end
end
end
end Go.Proofs.YtojinfngbbajgaaGreatDoor
