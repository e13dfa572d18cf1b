import Derived.Test.YtlmpchoaebhhmaaGreatDoorH11J
import Derived.Test.YtlmpchoaebhhmaaGreatDoorH27J
import Derived.Test.YtlmpchoaebhhmaaGreatDoorH9J
import Derived.Test.YtlmpchoaebhhmaaGreatDoorH12J
import Derived.Test.YtlmpchoaebhhmaaGreatDoorH5J
import Derived.Test.YtlmpchoaebhhmaaGreatDoorH10J
set_option linter.all false
set_option synthInstance.maxHeartbeats 1000000
set_option synthInstance.maxSize 1000000
namespace Go.Proofs.YtlmpchoaebhhmaaGreatDoor
open List (length_append length_cons length_nil mem_append mem_cons not_mem_nil append_assoc getElem_mem take_of_length_le)
section
theorem eT.ve{names:List ByteArray}{d:Nat}{e:aH}(hn:∀x,x∈names -> bQ x=true)(h:eT names d e):VE e:=by
 induction h with
 |@name d x h=>exact .name x (hn x h)
 |@num d n h0 h1=>
  obtain ⟨k,rfl⟩:∃k:Nat,n=k:=⟨n.toNat,by omega⟩
  exact .num k (by omega)
 |@un d op e ho he ih=>exact .un op e ho ih
 |@bin d op a b h0 h1 ha hb iha ihb=>exact .bin op a b ⟨h0,h1⟩ iha ihb
end
section
theorem aDo:∀(e:aH),VE e -> (aT e).length <= 3*e.nodes-2:=by
 intro e h
 induction h with
 |num n h=>rw [uO,aH.nodes,cZ];simp
 |name s h=>rw [sC,aH.nodes,cZ];simp
 |un op x h hx ih=>
  have h1:∀b t,(mF b t).length <= t.length+2:=fun b t=>by unfold mF;split<;>simp
  rw [yB h,aH.nodes,cZ,cZ,length_cons]
  have:=h1 (cV op 0 x.op) (aT x);omega
 |bin op x y h hx hy ihx ihy=>
  have h1:∀b t,(mF b t).length <= t.length+2:=fun b t=>by unfold mF;split<;>simp
  rw [uI h,aH.nodes,cZ,cZ,cZ,length_append,length_cons]
  have:=h1 (cV op 0 x.op) (aT x);have:=h1 (cV op 1 y.op) (aT y);omega
theorem eT.toks{names:List ByteArray}{d:Nat}{e:aH}(hn:∀x,x∈names -> bQ x=true)(h:eT names d e)(hd:d <= 2):(aT e).length <= 37:=by
 have h1:=aDo e (h.ve hn)
 have h2:=(h.mono hd).nodes
 omega
section
variable {ms:List cL}{fs:List Sig}{ps:List aS}
theorem uA.toks{vars:List ByteArray}{r:cY}(hv:lC vars)(h:uA ms ps vars r):(hY r).length <= 40:=by
 cases h with
 |arr hm hs he=>have:=he.toks hv (by omega);simp only [hY,length_cons,length_append,length_nil];omega
 |scalar hm hs=>simp [hY]
 |param hx hm=>simp [hY]
theorem tS{α:Type}(f:α -> List PT)(c:Nat):∀l:List α,(∀x,x∈l -> (f x).length <= c) -> (fZ f l).length <= (c+1)*l.length
 |[],_=>by simp [fZ]
 |[x],h=>by have:=h x (by simp);simp [fZ];omega
 |x::y::r,h=>by
  have h1:=tS f c (y::r) (fun z hz=>h z (by simp [hz]))
  have h2:=h x (by simp)
  rw [nW,length_append,length_cons]
  simp only [length_cons,Nat.mul_add,Nat.mul_one] at h1⊢;omega
theorem nB.toks{vars:List ByteArray}{l:List aS}{al:List eN}(hv:lC vars)(h:nB ms ps vars l al):al.length=l.length /\ ∀x,x∈al -> (wH x).length <= 41:=by
 induction h with
 |nil=>exact ⟨rfl,fun x hx=>by cases hx⟩
 |mutex hx hr h ih=>
  refine ⟨by simp [ih.1],fun x hx=>?_⟩
  rcases mem_cons.1 hx with rfl|hx
  ·have:=hr.toks hv;simp only [wH,if_true,length_cons];omega
  ·exact ih.2 x hx
 |expr hx he h ih=>
  refine ⟨by simp [ih.1],fun x hx=>?_⟩
  rcases mem_cons.1 hx with rfl|hx
  ·have:=he.toks hv (by omega);simp only [wH,Bool.false_eq_true,if_false];omega
  exact ih.2 x hx
theorem wL(a b:List aJ):aQ (a++b)=aQ a++aQ b:=by
 induction a with
 |nil=>rw [List.nil_append,aQ,List.nil_append]
 |cons s r ih=>rw [List.cons_append,aQ,aQ,ih,append_assoc]
theorem dJ.toks{vars:List ByteArray}{deep left left':Nat}{l:List aJ}(hg:∀g,g∈fs -> bQ g.1=true /\ g.2.length <= 2)(h:dJ ms fs ps vars deep left l left'):
  lC vars -> left <= 24 -> (aQ l).length <= 100*(left-left'):=by
 induction h with
 |nil=>intro _ _;rw [aQ];simp
 |lock hr h ih=>
  intro hv hl
  have:=h.le;have:=ih hv (by omega);have:=hr.toks hv
  rw [aQ,cE];simp;omega
 |unlock hr h ih=>
  intro hv hl
  have:=h.le;have:=ih hv (by omega);have:=hr.toks hv
  rw [aQ,cE];simp;omega
 |@var vars deep left left' e rest he h ih=>
  intro hv hl
  have:=h.le
  have:=ih (fun x hx=>by
   rcases mem_append.1 hx with hx|hx
   ·exact hv x hx
   simp only [List.mem_singleton] at hx;subst hx;exact aAe left (by omega)) (by omega)
  have:=he.toks hv (by omega)
  rw [aQ,cE];simp;omega
 |assign hx he h ih=>
  intro hv hl
  have:=h.le;have:=ih hv (by omega);have:=he.toks hv (by omega)
  rw [aQ,cE];simp;omega
 |@call vars deep left left' k g al rest hk hgm ha h ih=>
  intro hv hl
  have:=h.le;have:=ih hv (by omega)
  obtain ⟨h1,h2⟩:=ha.toks hv
  have h3:=tS wH 41 al h2
  have h4:=(hg g hgm).2
  rw [aQ,cE]
  rcases hk with rfl|rfl<;>simp [iG]<;>omega
 |cond he h1 h2 h3 i1 i2 i3=>
  intro hv hl
  have:=h1.le;have:=h2.le;have:=h3.le
  have:=i1 hv (by omega);have:=i2 hv (by omega);have:=i3 hv (by omega);have:=he.toks hv (by omega)
  rw [aQ,cE]
  simp only [length_append]
  rw [if_neg (by decide),if_neg (by decide),if_neg (by decide),if_neg (by decide),if_neg (by decide),if_neg (by decide),if_pos (by decide)]
  simp only [length_append,length_cons,length_nil]
  split<;>(try simp only [length_append,length_cons,length_nil])<;>omega
 |loop he h1 h3 i1 i3=>
  intro hv hl
  have:=h1.le;have:=h3.le
  have:=i1 hv (by omega);have:=i3 hv (by omega);have:=he.toks hv (by omega)
  rw [aQ,cE];simp;omega
 |ret h ih=>
  intro hv hl
  have:=h.le;have:=ih hv (by omega)
  rw [aQ,cE];simp;omega
 |pair hr h1 h3 i1 i3=>
  intro hv hl
  have:=h1.le;have:=h3.le
  have:=i1 hv (by omega);have:=i3 hv (by omega);have:=hr.toks hv
  rw [aQ,wL,aQ,cE,cE];simp;omega
theorem kZ.toks{gs:List aI}{left:Nat}{l:List bS}(hg:∀g,g∈fs -> bQ g.1=true /\ g.2.length <= 2)(hgl:∀g,g∈gs -> bQ g.name=true)(h:kZ ms fs gs left l):left <= 24 -> (∀f,f∈l -> ∀x,x∈f.params -> bQ x.name=true) ->
  (l.map fun f=>(aQ f.body).length).sum <= 100*left:=by
 induction h with
 |nil=>intro _ _;simp
 |@cons left left' f l hb hl ih=>
  intro hle hps
  have h1:=hb.le
  have hv:lC (uS gs f.params):=by
   intro x hx
   simp only [uS,mem_append,List.mem_map,List.mem_filter] at hx
   rcases hx with ⟨g,hg,rfl⟩|⟨y,⟨hy,_⟩,rfl⟩
   ·exact hgl g hg
   exact hps f (by simp) y hy
  have h2:=hb.toks hg hv hle
  have h3:=ih (by omega) (fun f hf=>hps f (by simp [hf]))
  simp only [List.map_cons,List.sum_cons];omega
end
theorem yG{α:Type}(f:α -> List PT)(c:Nat):∀l:List α,(∀x,x∈l -> (f x).length <= c) -> ((l.map f).flatten).length <= c*l.length
 |[],_=>by simp
 |x::r,h=>by
  have h1:=yG f c r (fun y hy=>h y (by simp [hy]))
  have h2:=h x (by simp)
  simp only [List.map_cons,List.flatten_cons,length_append,length_cons,Nat.mul_add,Nat.mul_one];omega
theorem aBd:∀l:List bS,(∀f,f∈l -> f.params.length <= 2) -> ((l.map kA).flatten).length <= 20*l.length+(l.map fun f=>(aQ f.body).length).sum
 |[],_=>by simp
 |f::r,h=>by
  have h1:=aBd r (fun y hy=>h y (by simp [hy]))
  have h2:=h f (by simp)
  have h3:=tS lQ 2 f.params (fun x _=>by unfold lQ;split<;>simp)
  simp only [List.map_cons,List.flatten_cons,length_append,length_cons,List.sum_cons,Nat.mul_add,Nat.mul_one,kA,length_nil];omega
theorem aGw{p:cK}(h:sY p):(∀g,g∈p.globals -> bQ g.name=true) /\ (∀g,g∈p.funcs.map bS.sig -> bQ g.1=true /\ g.2.length <= 2) /\ ∀f,f∈p.funcs -> ∀x,x∈f.params -> bQ x.name=true:=by
 obtain ⟨gs,ms,fs⟩:=p
 obtain ⟨⟨hm1,hm2,hm⟩,⟨hg1,hg⟩,⟨hf1,hf2,hf⟩,hb⟩:=h
 have nf:∀f,f∈fs -> bQ f.name=true /\ pM f.params:=by
  intro f hfm;obtain ⟨k,hk,rfl⟩:=List.getElem_of_mem hfm;exact ⟨(hf k hk).name (by dsimp only at hf2 hk;omega),(hf k hk).2.2⟩
 refine ⟨fun g hgm=>?_,fun g hgm=>?_,fun f hfm=>(nf f hfm).2.names⟩
 ·obtain ⟨k,hk,rfl⟩:=List.getElem_of_mem hgm;rw [(hg k hk).1];exact vO k (by dsimp only at hg1 hk;omega)
 obtain ⟨f,hfm,rfl⟩:=List.mem_map.1 hgm
 exact ⟨(nf f hfm).1,(nf f hfm).2.1⟩
theorem aJd{p:cK}(h:sY p):((iA p).map fF.toks).flatten.length <= 4000:=by
 obtain ⟨h1,h2,h3⟩:=aGw h
 have h4:=h.bodies.toks h2 h1 (Nat.le_refl _) h3
 have h5:=yG bEr 7 p.globals (fun g _=>by unfold bEr;split<;>(try split)<;>simp)
 have h6:=yG gT 6 p.mutexes (fun g _=>by unfold gT;split<;>split<;>simp)
 have h7:=aBd p.funcs (fun f hf=>(h2 f.sig (List.mem_map.2 ⟨f,hf,rfl⟩)).2)
 have a1:=h.globals.1;have a2:=h.mutexes.2.1;have a3:=h.funcs.2.1
 simp only [iA,List.map_append,List.map_map,List.flatten_append,length_append]
 have e1:fF.toks ∘ fF.glob=bEr:=rfl
 have e2:fF.toks ∘ fF.mtx=gT:=rfl
 have e3:fF.toks ∘ fF.fn=kA:=rfl
 rw [e1,e2,e3];omega
theorem aHh{p:cK}(hs:p.sane)(h:nY p=true):(∀d,d∈iA p -> d.ok) /\ p.globals.length <= 16 /\ p.mutexes.length <= 12 /\ p.funcs.length <= 16:=by
 unfold nY at h
 simp only [Bool.and_eq_true,decide_eq_true_eq] at h
 obtain ⟨⟨⟨h1,hg⟩,hm⟩,hf⟩:=h
 refine ⟨fun d hd=>?_,h1.1,h1.2.1,h1.2.2⟩
 simp only [iA,mem_append,List.mem_map] at hd
 rcases hd with ⟨g,hgm,rfl⟩|⟨m,hmm,rfl⟩|⟨f,hfm,rfl⟩
 ·have h2:=List.all_eq_true.1 hg g hgm
  have h3:=(hs.globals g hgm).1
  unfold gH at h2
  simp only [Bool.and_eq_true,decide_eq_true_eq] at h2
  unfold fit at h3
  exact ⟨h2.1,by have:=h2.2;omega⟩
 ·have h2:=List.all_eq_true.1 hm m hmm
  unfold fS at h2
  simp only [Bool.and_eq_true,decide_eq_true_eq,Bool.not_eq_true',Bool.and_eq_false_iff,decide_eq_false_iff_not] at h2
  refine ⟨h2.1.1,h2.1.2.1,h2.1.2.2,fun hr=>?_⟩
  rcases h2.2 with h3|h3
  ·rw [hr] at h3;cases h3
  have:=h2.1.2.1;omega
 have h2:=List.all_eq_true.1 hf f hfm
 unfold gW at h2
 simp only [Bool.and_eq_true,decide_eq_true_eq] at h2
 exact ⟨h2.1.1.1,h2.1.1.2,List.all_eq_true.1 h2.2,lS f.body 23 0 rfl (hs.funcs f hfm).2.2 h2.1.2⟩
theorem aPf{p:cK}(hs:p.sane)(h:nY p=true)(hl:(cR p).length <= 262144)(ht:((iA p).map fF.toks).flatten.length <= 4000):jI p=true:=by
 have h6:=uR (iA p) (aHh hs h).1 Lx.end
 rw [List.append_nil,List.append_nil,←wC] at h6
 obtain ⟨L,h7,-⟩:=aIz h6 hl ht
 rw [nX,h,h7];rfl
theorem yO{p:cK}(h:sY p):jI p=true:=aPf h.facts.sane h.facts.form (by have:=h.facts.len;omega) (aJd h)
end
section
open Go.RowKit
structure TOk (l:List Tok):Prop where
 last:rP l
 reg:∀t,t∈l -> aPn t
 len:l.length <= 1000000
theorem lA{e:Nat}(h:e≠0):bC .eql (e:Int) 0=some false:=by simp [bC,h]
theorem jS{m n:Nat}:bC .eql (m:Int) (n:Int)=some (decide (m=n)):=by
 by_cases h:m=n
 ·subst h;simp [bC]
 have h2:¬(m:Int)=(n:Int):=by omega
 simp [bC,h,h2]
def aC7(e b k x b1 e1:Nat):Prop:=(e=0 -> k=b1 /\ x=e1) /\ (e≠0 -> b=b1 /\ e=e1)
theorem aC7.run{α:Type}{e b k x b1 e1:Nat}{r:bN α}(h:aC7 e b k x b1 e1)(hx:x≠0)(hr:e=0 -> r=.err k x)(y:α)(k1:Nat):kX e b r y k1 b1 e1:=by
 by_cases he:e=0
 ·obtain ⟨rfl,rfl⟩:=h.1 he
  subst he
  exact .err _ _ _ _ _ (hr rfl) hx
 obtain ⟨rfl,rfl⟩:=h.2 he
 exact .skip he _ _ _
theorem aC7.small{e b k x b1 e1:Nat}(h:aC7 e b k x b1 e1)(he:e<16)(hx:x<16):e1<16:=by
 by_cases h0:e=0
 ·rw [←(h.1 h0).2];exact hx
 rw [←(h.2 h0).2];exact he
end
end Go.Proofs.YtlmpchoaebhhmaaGreatDoor
