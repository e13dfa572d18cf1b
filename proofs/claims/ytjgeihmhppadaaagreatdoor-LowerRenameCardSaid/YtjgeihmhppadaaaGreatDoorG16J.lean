import Derived.Test.YtjgeihmhppadaaaGreatDoorG15J
set_option linter.all false
set_option synthInstance.maxHeartbeats 1000000
set_option synthInstance.maxSize 1000000
namespace Go.Proofs.YtjgeihmhppadaaaGreatDoor
open List (length_append length_cons length_nil mem_append mem_cons not_mem_nil append_assoc getElem_mem take_of_length_le)
section
open Go.RowKit
theorem cL3{P:Program}{f:ResultVar -> Sem Value}{r1 r2 r3 r4:ResultVar}{v1 v2 v3 v4:Value}{w:World}(e1:(f r1).run P w=.ok v1 w)(e2:(f r2).run P w=.ok v2 w)(e3:(f r3).run P w=.ok v3 w)(e4:(f r4).run P w=.ok v4 w):(#[r1,r2,r3,r4].mapM f).run P w=.ok #[v1,v2,v3,v4] w:=by
 simp [Sem.run_bind,e1,e2,e3,e4]
theorem cLs{w:World}{r1 r2 r3 r4:AT}{v1 v2 v3 v4:Value}(h1:dO w r1 v1)(h2:dO w r2 v2)(h3:dO w r3 v3)(h4:dO w r4 v4):dO w (.tup [r1,r2,r3,r4]) (.tuple #[v1,v2,v3,v4]):=
 .tup [r1,r2,r3,r4] [v1,v2,v3,v4] rfl λi h h'=>by rcases i with _|_|_|_|i;exact h1;exact h2;exact h3;exact h4;simp at h;omega
theorem cF6{P:Program}{st:AS}{fn:Func}{rv1 rv2 rv3 rv4:ResultVar}{r1 r2 r3 r4:AT}(h:fn.results=#[rv1,rv2,rv3,rv4])(h1:aAc P st rv1 r1)(h2:aAc P st rv2 r2)(h3:aAc P st rv3 r3)(h4:aAc P st rv4 r4):aEt P fn st (.tup [r1,r2,r3,r4]):=λa w hs=>by
 obtain ⟨v1,e1,f1⟩:=h1 a w hs
 obtain ⟨v2,e2,f2⟩:=h2 a w hs
 obtain ⟨v3,e3,f3⟩:=h3 a w hs
 obtain ⟨v4,e4,f4⟩:=h4 a w hs
 refine ⟨_,cLs e1 e2 e3 e4,?_⟩
 unfold results
 rw [h,Sem.run_bind]
 erw [cL3 f1 f2 f3 f4]
 simp [go_sem]
def cF9(x:cI1):List AC:=[Vs x.name,nC x.ints,nC x.locks,nC x.locals,Sq encI x.code]
theorem cI0(x:cI1):(cF9 x).length=5:=rfl
def cJl(p:cK)(f:bS):List Int:=match cGd f.params (cFd p) 0 0 with
 |none=>[]
 |some (l,i,_)=>(cJg p f l i).sites
theorem cKs{P:Program}{c:Code}{n:Nat}{T:List Nat}{ts:List (Nat×AT)}{Q:Exit -> AS -> Prop}{rw:List bA}{b:Nat}{E:TypeId}{cs cs':List AC}{v:Value}{E2:TypeId}{z k:Nat}{ds:List AC}(A:List Box){B:List Box}(i:Nat)(hi:cs[i]?=some (.val v))(hr:cs.set i (.sl k ds)=cs')(h:AWp P c ⟨n,T,⟨A++⟨b,E,cs'⟩::B,rw⟩,ts⟩ Q)(hz:0<z:=by decide):AWp P c ⟨n,T,⟨A++⟨b,E,cs⟩::B,⟨v,E2,z,k,ds⟩::rw⟩,ts⟩ Q:=by
 subst hr
 exact zU (vU (st:=⟨n,T,⟨A++⟨b,E,cs⟩::B,⟨v,E2,z,k,ds⟩::rw⟩,ts⟩) (aBg (r:=⟨v,E2,z,k,ds⟩) A i hi hz)) h
theorem cGt{ps:List aS}{l:List cFc}{i m k:Nat}{R:Option (List cFc×Nat×Nat)}(hk:k<ps.length)(h:cGd (ps.drop k) l i m=R):
  ((cFa l ps[k].name).isSome=true -> R=none) /\ ((cFa l ps[k].name).isSome=false -> (ps[k].mutex=true -> cGd (ps.drop (k+1)) (l++[⟨ps[k].name,5,m⟩]) i (m+1)=R) /\ (ps[k].mutex=false -> cGd (ps.drop (k+1)) (l++[⟨ps[k].name,4,i⟩]) (i+1) m=R)):=by
 rw [List.drop_eq_getElem_cons hk,cGd] at h
 refine ⟨λh0=>?_,λh0=>⟨λhm=>?_,λhm=>?_⟩⟩
 ·rw [if_pos h0] at h;exact h.symm
 ·rw [if_neg (by rw [h0];decide),if_pos hm] at h;exact h
 rw [if_neg (by rw [h0];decide),if_neg (by rw [hm];decide)] at h;exact h
end
section
mutual
def aH.tame:aH -> Prop
 |.mk _ num name args=>num.natAbs<9223372036854775808 /\ name.size <= 1048576 /\ oG args
def oG:List aH -> Prop
 |[]=>True
 |e::es=>e.tame /\ oG es
end
def lL:List (List UInt8) -> Nat
 |[]=>0
 |t::ts=>t.length+lL ts
theorem aMh(ts:List (List UInt8)):(ts.getD 0 []).length <= lL ts:=by
 cases ts with
 |nil=>simp [lL]
 |cons t ts=>simp [lL]
theorem aJj(ts:List (List UInt8)):(ts.getD 0 []).length+(ts.getD 1 []).length <= lL ts:=by
 match ts with
 |[]=>simp [lL]
 |[t]=>simp [lL]
 |t::u::ts=>first|(simp [lL];done)|(simp [lL];omega)
theorem aI4{c:Prop}[Decidable c]{l r:List UInt8}{n:Nat}(h1:l.length <= n)(h2:r.length <= n):(if c then l else r).length <= n:=by
 by_cases h:c
 ·rw [if_pos h];exact h1
 rw [if_neg h];exact h2
theorem aAr(op:Int):(iW op).length <= 2:=by
 unfold iW
 repeat' (with_reducible apply aI4)
 all_goals decide
theorem aH5(op num:Int)(name:ByteArray)(ts:List (List UInt8))(h1:num.natAbs<9223372036854775808)(h2:name.size <= 1048576):
  (iX op num name ts).length <= 1048576+lL ts:=by
 have a0:=aMh ts
 have a1:=aJj ts
 have a2:=aAr op
 have a3:(eH num).length <= 21:=by
  have:=kC _ (Nat.lt_trans h1 V)
  unfold eH
  split<;>simp<;>omega
 have a4:name.data.toList.length=name.size:=Y
 unfold iX
 repeat' (with_reducible apply aI4)
 all_goals ((try simp only [length_append,length_cons,length_nil]);omega)
theorem vQ:∀(N:Nat)(e:aH),e.nodes <= N -> e.tame -> (aP e).length+2 <= e.nodes*2000000
 |0,.mk op num name args,h,_=>by rw [aH.nodes] at h;omega
 |N+1,.mk op num name args,h,ht=>by
  rw [aH.nodes] at h
  rw [aH.tame] at ht
  have key:∀(l:List aH)(k:Nat),cZ l <= N -> oG l -> lL (dP op k l) <= cZ l*2000000:=by
   intro l
   induction l with
   |nil=>intro k _ _;rw [dP,lL];omega
   |cons e es ih=>
    intro k hl hm
    rw [cZ] at hl⊢
    rw [oG] at hm
    rw [dP,lL]
    have h1:=vQ N e J hm.1
    have h2:=ih (k+1) J hm.2
    split
    ·simp only [length_append,length_cons,length_nil];omega
    omega
  have h1:=key args 0 J ht.2.2
  have h2:=aH5 op num name (dP op 0 args) ht.1 ht.2.1
  rw [aP,aH.nodes]
  omega
end
section
open Go.RowKit
theorem nL{s:ByteArray}(h:bQ s=true):s.data.toList.length <= 16:=by
 unfold bQ at h
 split at h
 ·cases h
 simp only [Bool.and_eq_true,decide_eq_true_eq] at h;exact h.1.2
mutual
theorem zK:∀(e:aH),e.sane -> eO e=true -> e.tame
 |.mk op num name args,hs,h=>by
  have hv:=yT _ hs h
  rw [aH.sane] at hs
  rw [eO] at h
  simp only [Bool.and_eq_true] at h
  rw [aH.tame]
  refine ⟨?_,?_,xH args hs.2.2 h.2⟩
  ·cases hv with
   |num n hn=>show ((n:Nat):Int).natAbs<_;omega
   |_=>decide
  ·cases hv with
   |name s hn=>exact Nat.le_trans (nL hn) V
   |_=>decide
theorem xH:∀(l:List aH),iI l -> dY l=true -> oG l
 |[],_,_=>by rw [oG];trivial
 |y::l,hs,h=>by
  rw [iI] at hs
  rw [dY,Bool.and_eq_true] at h
  rw [oG]
  exact ⟨zK y hs.1 h.1,xH l hs.2 h.2⟩
end
theorem tU{e:aH}(hs:e.sane)(h:eO e=true):(aP e).length <= e.nodes*2000000:=by
 have:=vQ e.nodes e (Nat.le_refl _) (zK e hs h);omega
def isN(s:aJ):Bool:=decide (1 <= s.kind /\ s.kind <= 4)
def isC(s:aJ):Bool:=decide (s.kind=3∨s.kind=4)
def isE(s:aJ):Bool:=decide (s.kind=1∨s.kind=2∨s.kind=7∨s.kind=8)
def isR(s:aJ):Bool:=decide (s.kind=5∨s.kind=6)
def isB(s:aJ):Bool:=decide (s.kind=7∨s.kind=8)
def aG7(s:aJ):Bool:=decide (¬(1 <= s.kind /\ s.kind <= 9))
def aEf(s:aJ):Bool:=aG7 s||isN s && !bQ s.name
def aF5(s:aJ):Bool:=aEf s||!isN s && !decide (s.name=aK)
def aD3(s:aJ):Bool:=aF5 s||isE s && !dM s.expr
def aFc(s:aJ):Bool:=aD3 s||!isE s && !bLg s.expr
def aFs(s:aJ):Bool:=aFc s||isR s && !okRefB s.ref
def aEx(s:aJ):Bool:=aFs s||!isR s && !kM s.ref
def aHl(s:aJ):Bool:=aEx s||!isC s && !decide (s.args.length=0)
def aOc(D:Nat)(s:aJ):Bool:=(if isB s then bM (D+1) s.thn else decide (s.thn.length=0)) && (decide (s.els.length=0)||(decide (s.kind=7) && bM (D+1) s.els))
theorem kN(D:Nat)(s:aJ):bK9 D s=(!aHl s && s.args.all fY && aOc D s):=by
 obtain ⟨k,n,e,r,args,t,el⟩:=s
 rw [bK9]
 unfold aOc aHl aEx aFs aFc aD3 aF5 aEf
 rw [show aG7 (.mk k n e r args t el)=!decide (1 <= k /\ k <= 9) from decide_not,show isN (.mk k n e r args t el)=decide (1 <= k /\ k <= 4) from rfl,show isC (.mk k n e r args t el)=decide (k=3∨k=4) from rfl,show isE (.mk k n e r args t el)=decide (k=1∨k=2∨k=7∨k=8) from rfl,show isR (.mk k n e r args t el)=decide (k=5∨k=6) from rfl,show isB (.mk k n e r args t el)=decide (k=7∨k=8) from rfl]
 show _=(_ && args.all fY && ((if decide (k=7∨k=8)=true then bM (D+1) t else decide (t.length=0)) && (decide (el.length=0)||(decide (k=7) && bM (D+1) el))))
 simp only [aJ.name,aJ.expr,aJ.ref,aJ.args]
 have hi:∀(p:Prop) [Decidable p] (a b:Bool),(if p then a else b)=((decide p && a)||(!decide p && b)):=λp _ a b=>by by_cases h:p<;>simp [h]
 simp only [hi,Bool.decide_eq_true]
 generalize decide (1 <= k /\ k <= 9)=b1
 generalize decide (1 <= k /\ k <= 4)=b2
 generalize decide (k=1∨k=2∨k=7∨k=8)=b3
 generalize decide (k=5∨k=6)=b4
 generalize decide (k=3∨k=4)=b5
 generalize decide (k=7∨k=8)=b6
 cases b1<;>cases b2<;>cases b3<;>cases b4<;>cases b5<;>cases b6<;>(simp [Bool.and_assoc];try rfl)
theorem aCi{a:eN}(h:a.mutex=true):fY a=(okRefB a.ref && bLg a.expr):=by unfold fY;rw [if_pos h]
theorem aCv{a:eN}(h:a.mutex=false):fY a=(kM a.ref && dM a.expr):=by unfold fY;rw [if_neg B5]
theorem oA{α:Type}(f:α -> Bool)(l:List α)(k:Nat)(h:k<l.length)(hf:f l[k]=false):l.all f=false:=by
 cases ha:l.all f with
 |false=>rfl
 |true=>rw [List.all_eq_true.1 ha _ (getElem_mem h)] at hf;cases hf
def c1(D:Nat)(s:aJ):Bool:=isB s && !bM (D+1) s.thn
def c2(D:Nat)(s:aJ):Bool:=c1 D s||!isB s && !decide (s.thn.length=0)
def c3(D:Nat)(s:aJ):Bool:=c2 D s||!decide (s.els.length=0) && (!decide (s.kind=7)||!bM (D+1) s.els)
theorem yW{s:aJ}(h:s.sane):s.name.size <= 4611686018427387904 /\ s.expr.sane /\ s.ref.sane /\ (∀a,a∈s.args -> a.sane) /\ gC s.thn /\ gC s.els:=by cases s;rw [aJ.sane] at h;exact h
end
end Go.Proofs.YtjgeihmhppadaaaGreatDoor
