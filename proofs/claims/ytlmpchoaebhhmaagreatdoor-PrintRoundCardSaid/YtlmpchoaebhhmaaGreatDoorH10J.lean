import Derived.Test.YtlmpchoaebhhmaaGreatDoorH1J
import Derived.Test.YtlmpchoaebhhmaaGreatDoorH5J
import Derived.Test.YtlmpchoaebhhmaaGreatDoorH9J
import Derived.Deep.RegionHeld3
import Derived.Test.YtlmpchoaebhhmaaGreatDoorH6J
import Derived.Test.YtlmpchoaebhhmaaGreatDoorH7J
import Derived.Test.YtlmpchoaebhhmaaGreatDoorH8J
import Derived.Test.YtlmpchoaebhhmaaGreatDoorH4J
import Derived.Test.YtlmpchoaebhhmaaGreatDoorProg
set_option linter.all false
set_option synthInstance.maxHeartbeats 1000000
set_option synthInstance.maxSize 1000000
set_option maxHeartbeats 1600000
set_option maxRecDepth 100000
namespace Go.Proofs.YtlmpchoaebhhmaaGreatDoor
open Go.Proofs.Tryz
open List (length_append length_cons length_nil mem_append mem_cons not_mem_nil append_assoc getElem_mem take_of_length_le)
section
mutual
def aH.nodes:aH -> Nat
 |.mk _ _ _ args=>1+cZ args
def cZ:List aH -> Nat
 |[]=>0
 |e::es=>1+e.nodes+cZ es
end
theorem nM:∀(l:List aH)(k:Nat)(h:k<l.length),l[k].nodes<cZ l
 |[],k,h=>by simp at h
 |e::es,0,h=>by rw [cZ];simp;omega
 |e::es,k+1,h=>by have:=nM es k (by simpa using h);rw [cZ];simp;omega
theorem tN:∀(l:List aH),l.length <= cZ l
 |[]=>by simp
 |e::es=>by have:=tN es;rw [cZ];simp;omega
end
section
open Go.RowKit
theorem qQ(b:Int):∀(l:List aH)(j:Nat)(x:aH),bSm b j (l++[x])=max (bSm b j l) (dI x+if cV b (j+l.length) x.op then 1 else 0)
 |[],j,x=>by simp [bSm]
 |y::l,j,x=>by
  rw [List.cons_append,bSm,qQ b l (j+1) x,bSm,Nat.max_assoc]
  have:j+1+l.length=j+(y::l).length:=by simp;omega
  rw [this]
theorem kF(b:Int)(l:List aH)(k:Nat)(h:k<l.length):bSm b 0 (l.take (k+1))=max (bSm b 0 (l.take k)) (dI l[k]+if cV b k l[k].op then 1 else 0):=by
 rw [List.take_succ_eq_append_getElem h,qQ,List.length_take,Nat.min_eq_left (by omega),Nat.zero_add]
theorem aBa(N:Nat):∀(e:aH),e.nodes <= N -> dI e+1 <= 2*e.nodes:=by
 induction N with
 |zero=>intro e h;cases e;rw [aH.nodes] at h;omega
 |succ N ih=>
  rintro ⟨op,num,name,args⟩ h
  rw [aH.nodes] at h
  have key:∀(l:List aH)(k:Nat),cZ l <= N -> bSm op k l <= 2*cZ l:=by
   intro l
   induction l with
   |nil=>intro k _;rw [bSm];omega
   |cons e es ih2=>
    intro k hl
    rw [cZ] at hl⊢
    rw [bSm]
    have h1:=ih e (by omega)
    have h2:=ih2 (k+1) (by omega)
    split<;>omega
  have:=key args 0 (by omega)
  rw [dI,aH.nodes]
  split<;>omega
theorem sF(e:aH)(k:Nat)(h:k<e.args.length):e.args[k].nodes<e.nodes:=by
 cases e with
 |mk op num name args=>have:=nM args k h;rw [aH.nodes];show args[k].nodes<_;omega
theorem uC(e:aH):e.args.length<e.nodes:=by
 cases e with
 |mk op num name args=>have:=tN args;rw [aH.nodes];show args.length<_;omega
theorem tX(e:aH):dI e=bSm e.op 0 e.args+if aM e.op=5 then 1 else 0:=by cases e;rw [dI];rfl
theorem dZ(e:aH):eO e=((if aM e.op=6 then jG e.op e.num e.name else decide (e.num=0) && decide (e.name=aK)) && decide (e.args.length=arity e.op) && dY e.args):=by cases e;rw [eO];rfl
theorem oF:∀(l:List aH)(k:Nat)(h:k<l.length),eO l[k]=false -> dY l=false
 |e::es,0,_,hs=>by rw [dY];simp only [List.getElem_cons_zero] at hs;rw [hs];rfl
 |e::es,k+1,h,hs=>by rw [dY,oF es k (by simpa using h) (by simpa using hs),Bool.and_false]
end
section
def cY.small(N:Nat)(r:cY):Prop:=r.index.length <= 1 /\ ∀x,x∈r.index -> x.nodes <= N
def eN.small(N:Nat)(a:eN):Prop:=a.ref.small N /\ a.expr.nodes <= N
mutual
def aJ.small(N:Nat):aJ -> Prop
 |.mk _ _ e r a t f=>e.nodes <= N /\ r.small N /\ a.length <= N /\ (∀x,x∈a -> x.small N) /\ t.length <= N /\ smalls N t /\ f.length <= N /\ smalls N f
def smalls(N:Nat):List aJ -> Prop
 |[]=>True
 |s::r=>s.small N /\ smalls N r
end
theorem nR{N:Nat}:∀{l:List aJ},smalls N l↔∀s,s∈l -> s.small N
 |[]=>by rw [smalls];simp
 |s::r=>by rw [smalls,nR (l:=r)];simp
def bS.small(N:Nat)(f:bS):Prop:=f.params.length <= N /\ f.body.length <= N /\ smalls N f.body
def cK.small(N:Nat)(p:cK):Prop:=p.globals.length <= N /\ p.mutexes.length <= N /\ p.funcs.length <= N /\ ∀f,f∈p.funcs -> f.small N
theorem zT{N:Nat}(h:1 <= N):aH.zero.nodes <= N:=by simpa [aH.zero,aH.nodes,cZ] using h
theorem xO{N:Nat}:cY.zero.small N:=⟨by simp [cY.zero],by simp [cY.zero]⟩
theorem cN{α β:Type}{r:bN α}{f:α -> Nat -> bN β}{y:β}{k2:Nat}(h:r.bind f=.ok y k2):∃x k1,r=.ok x k1 /\ f x k1=.ok y k2:=by
 cases r with
 |ok x k=>exact ⟨x,k,rfl,h⟩
 |err a e=>cases h
section
variable {l:List Tok}{N:Nat}(hel:rP l)(h1:1 <= N)(hlN:l.length <= N)(hf:∀k x k',k<l.length -> lJ l k=.ok x k' -> x.nodes <= N)
include hel hf
theorem tR{k k':Nat}{x:cY}(hk:k<l.length)(h:xV l k=.ok x k'):x.small N:=by
 obtain ⟨n,k1,h1,h2⟩:=cN h
 have hk1:=gZ hel hk
 rw [h1] at hk1
 unfold jT at h2
 split at h2
 ·rename_i hs
  obtain ⟨e,k2,h3,h4⟩:=cN h2
  obtain ⟨_,k3,_,h5⟩:=cN h4
  cases h5
  exact ⟨by simp,fun y hy=>by simp at hy;subst hy;exact hf _ _ _ (eF hel hk1.2 hs) h3⟩
 cases h2;exact ⟨by simp,by simp⟩
include h1
theorem aHe{k k':Nat}{x:eN}(hk:k<l.length)(h:rC l k=.ok x k'):x.small N:=by
 unfold rC at h
 split at h
 ·rename_i hs
  obtain ⟨r,k1,h1',h2⟩:=cN h
  cases h2
  exact ⟨tR hel hf (dK hel hk hs) h1',zT h1⟩
 obtain ⟨e,k1,h1',h2⟩:=cN h
 cases h2
 exact ⟨xO,hf _ _ _ hk h1'⟩
omit h1 hf in
theorem wY{α:Type}{el:Nat -> Nat -> bN α}{Q:α -> Prop}(he:∀n k,k<l.length -> (el n k).In l k)(hq:∀n k x k',k<l.length -> el n k=.ok x k' -> Q x):∀(n:Nat)(acc:List α)(k k':Nat)(out:List α),k<l.length -> acc.length <= k -> (∀x,x∈acc -> Q x) -> lI l el n acc k=.ok out k' -> out.length <= l.length /\ ∀x,x∈out -> Q x
 |0,acc,k,k',out,_,_,_,h=>by unfold lI at h;cases h
 |n+1,acc,k,k',out,hk,ha,hQ,h=>by
  unfold lI at h
  obtain ⟨x,k1,h1,h2⟩:=cN h
  have hk1:=he acc.length k hk
  rw [h1] at hk1
  have hQ':∀y,y∈acc++[x] -> Q y:=by
   intro y hy
   rcases mem_append.1 hy with hy|hy
   ·exact hQ y hy
   simp at hy;subst hy;exact hq _ _ _ _ hk h1
  have hl1:(acc++[x]).length=acc.length+1:=by simp
  have:=hk1.1
  have:=hk1.2
  split at h2
  ·rename_i hs
   exact wY he hq n _ (k1+1) k' out (eF hel hk1.2 hs) (by omega) hQ' h2
  obtain ⟨_,k3,_,h5⟩:=cN h2
  cases h5
  exact ⟨by omega,hQ'⟩
omit h1 hf in
theorem tD{α:Type}{el:Nat -> Nat -> bN α}{Q:α -> Prop}(he:∀n k,k<l.length -> (el n k).In l k)(hq:∀n k x k',k<l.length -> el n k=.ok x k' -> Q x){k k':Nat}{out:List α}(hk:k<l.length)(h:jC l el k=.ok out k'):out.length <= l.length /\ ∀x,x∈out -> Q x:=by
 obtain ⟨_,k1,h1,h2⟩:=cN h
 have hk1:=gM hel [40] hk
 rw [h1] at hk1
 split at h2
 ·cases h2;exact ⟨by simp,by simp⟩
 exact wY hel he hq _ _ _ _ _ hk1.2 (by simp) (by simp) h2
include hlN
theorem xP{k k':Nat}{x:List eN}(hk:k<l.length)(h:rA l k=.ok x k'):x.length <= N /\ ∀a,a∈x -> a.small N:=by
 have:=tD hel (Q:=fun a=>a.small N) (fun _ _ hk=>aDl hel hk) (fun n k x k' hk h=>aHe hel h1 hf hk h) hk h
 exact ⟨by omega,this.2⟩
omit hlN h1 hf hel in
theorem mY{s x:aJ}{k k':Nat}(h:oO l s k=.ok x k'):x=s:=by
 obtain ⟨_,k3,_,h5⟩:=cN h
 cases h5;rfl
omit hlN hel hf in
theorem kL{kd:Int}{n:ByteArray}{e:aH}{r:cY}{a:List eN}(he:e.nodes <= N)(hr:r.small N)(ha:a.length <= N /\ ∀x,x∈a -> x.small N):(aJ.mk kd n e r a [] []).small N:=by
 rw [aJ.small]
 exact ⟨he,hr,ha.1,ha.2,by simp,by rw [smalls];trivial,by simp,by rw [smalls];trivial⟩
omit hlN hel hf in
theorem aQa:([]:List eN).length <= N /\ ∀x,x∈([]:List eN) -> x.small N:=⟨by simp,by simp⟩
theorem aF4{blk:Nat -> bN (List aJ)}(hb:∀k,k<l.length -> (blk k).In l k)(hbs:∀k x k',k<l.length -> blk k=.ok x k' -> x.length <= N /\ smalls N x){k k':Nat}{x:aJ}(hk:k<l.length)(h:fB l blk k=.ok x k'):x.small N:=by
 have hz:=zT h1
 have hrz:=xO (N:=N)
 have hna:=aQa h1 (N:=N)
 unfold fB at h
 split at h
 ·rename_i hw
  have hk:=dK hel hk hw
  obtain ⟨n,k1,g1,g⟩:=cN h
  have i1:=gZ hel hk
  rw [g1] at i1
  obtain ⟨_,k2,g2,g⟩:=cN g
  have i2:=gM hel [61] i1.2
  rw [g2] at i2
  obtain ⟨e,k3,g3,g⟩:=cN g
  rw [mY g]
  exact kL h1 (hf _ _ _ i2.2 g3) hrz hna
 split at h
 ·rename_i hw
  have hk:=dK hel hk hw
  obtain ⟨n,k1,g1,g⟩:=cN h
  have i1:=gZ hel hk
  rw [g1] at i1
  obtain ⟨a,k2,g2,g⟩:=cN g
  rw [mY g]
  exact kL h1 hz hrz (xP hel h1 hlN hf i1.2 g2)
 split at h
 ·rename_i hw
  have hk:=dK hel hk hw
  obtain ⟨r,k1,g1,g⟩:=cN h
  rw [mY g]
  exact kL h1 hz (tR hel hf hk g1) hna
 split at h
 ·rename_i hw
  have hk:=dK hel hk hw
  obtain ⟨r,k1,g1,g⟩:=cN h
  rw [mY g]
  exact kL h1 hz (tR hel hf hk g1) hna
 split at h
 ·rename_i hw
  have hk:=dK hel hk hw
  obtain ⟨e,k1,g1,g⟩:=cN h
  have i1:=kY hel hk
  rw [g1] at i1
  obtain ⟨t,k2,g2,g⟩:=cN g
  have i2:=hb _ i1.2
  rw [g2] at i2
  have s2:=hbs _ _ _ i1.2 g2
  unfold tA at g
  split at g
  ·rename_i hw2
   obtain ⟨f,k3,g3,g⟩:=cN g
   cases g
   have s3:=hbs _ _ _ (dK hel i2.2 hw2) g3
   rw [aJ.small]
   exact ⟨hf _ _ _ hk g1,hrz,hna.1,hna.2,s2.1,s2.2,s3.1,s3.2⟩
  cases g
  rw [aJ.small]
  exact ⟨hf _ _ _ hk g1,hrz,hna.1,hna.2,s2.1,s2.2,by simp,by rw [smalls];trivial⟩
 split at h
 ·rename_i hw
  have hk:=dK hel hk hw
  obtain ⟨e,k1,g1,g⟩:=cN h
  have i1:=kY hel hk
  rw [g1] at i1
  obtain ⟨t,k2,g2,g⟩:=cN g
  have s2:=hbs _ _ _ i1.2 g2
  cases g
  rw [aJ.small]
  exact ⟨hf _ _ _ hk g1,hrz,hna.1,hna.2,s2.1,s2.2,by simp,by rw [smalls];trivial⟩
 split at h
 ·rename_i hw
  rw [mY h]
  exact kL h1 hz hrz hna
 obtain ⟨n,k1,g1,g⟩:=cN h
 have i1:=gZ hel hk
 rw [g1] at i1
 unfold iB at g
 split at g
 ·rename_i hs
  obtain ⟨e,k2,g2,g⟩:=cN g
  rw [mY g]
  exact kL h1 (hf _ _ _ (eF hel i1.2 hs) g2) hrz hna
 obtain ⟨a,k2,g2,g⟩:=cN g
 rw [mY g]
 exact kL h1 hz hrz (xP hel h1 hlN hf i1.2 g2)
omit h1 hlN hf in
theorem vE{st:Nat -> bN aJ}(hs:∀k,k<l.length -> (st k).In l k)(hss:∀k x k',k<l.length -> st k=.ok x k' -> x.small N):∀(n:Nat)(acc:List aJ)(k k':Nat)(out:List aJ),k<l.length -> acc.length <= k -> (∀x,x∈acc -> x.small N) -> eS l st n acc k=.ok out k' -> out.length <= l.length /\ ∀x,x∈out -> x.small N
 |0,acc,k,k',out,_,_,_,h=>by unfold eS at h;cases h
 |n+1,acc,k,k',out,hk,ha,hQ,h=>by
  unfold eS at h
  split at h
  ·cases h;exact ⟨by omega,hQ⟩
  obtain ⟨x,k1,h1,h2⟩:=cN h
  have hk1:=hs k hk
  rw [h1] at hk1
  have:=hk1.1
  exact vE hs hss n _ k1 k' out hk1.2 (by simp;omega) (fun y hy=>by
   rcases mem_append.1 hy with hy|hy
   ·exact hQ y hy
   simp at hy;subst hy;exact hss _ _ _ hk h1) h2
theorem uT:∀(d k:Nat)(x:List aJ)(k':Nat),k<l.length -> eX l d k=.ok x k' -> x.length <= N /\ smalls N x
 |0,k,x,k',_,h=>by unfold eX at h;split at h<;>cases h
 |d+1,k,x,k',hk,h=>by
  unfold eX at h
  obtain ⟨_,k1,g1,g⟩:=cN h
  have i1:=gM hel [123] hk
  rw [g1] at i1
  have:=vE hel (N:=N) (fun k hk=>zE hel (fun k hk=>pB hel d k hk) hk) (fun k x k' hk h=>aF4 hel h1 hlN hf (fun k hk=>pB hel d k hk) (fun k x k' hk h=>uT d k x k' hk h) hk h) _ _ _ _ _ i1.2 (by simp) (by simp) g
  exact ⟨by omega,nR.2 this.2⟩
theorem aF3{k k':Nat}{x:bS}(hk:k<l.length)(h:sW l k=.ok x k'):x.small N:=by
 obtain ⟨n,k1,g1,g⟩:=cN h
 have i1:=gZ hel hk
 rw [g1] at i1
 obtain ⟨p,k2,g2,g⟩:=cN g
 have i2:=tK hel (el:=fQ l) (fun n k hk=>sJ hel (n:=n) hk) i1.2
 rw [g2] at i2
 have s2:=tD hel (el:=fQ l) (Q:=fun _=>True) (fun n k hk=>sJ hel (n:=n) hk) (fun _ _ _ _ _ _=>trivial) i1.2 g2
 obtain ⟨b,k3,g3,g⟩:=cN g
 cases g
 have s3:=uT hel h1 hlN hf _ _ _ _ i2.2 g3
 exact ⟨by show p.length <= N;omega,s3.1,s3.2⟩
theorem aFo{x y:cK}{k k':Nat}(hk:k<l.length)(hx:x.small N)(hx2:x.globals.length+x.mutexes.length+x.funcs.length <= k)(h:gR l x k=.ok y k'):y.small N /\ y.globals.length+y.mutexes.length+y.funcs.length <= k+1:=by
 obtain ⟨x1,x2,x3,x4⟩:=hx
 unfold gR at h
 split at h
 ·split at h
  ·cases h
  obtain ⟨g,k1,g1,gg⟩:=cN h
  cases gg
  exact ⟨⟨by show (x.globals++[g]).length <= N;simp;omega,x2,x3,x4⟩,by show (x.globals++[g]).length+_+_ <= _;simp;omega⟩
 split at h
 ·split at h
  ·cases h
  obtain ⟨g,k1,g1,gg⟩:=cN h
  cases gg
  exact ⟨⟨x1,by show (x.mutexes++[g]).length <= N;simp;omega,x3,x4⟩,by show _+(x.mutexes++[g]).length+_ <= _;simp;omega⟩
 split at h
 ·split at h
  ·cases h
  obtain ⟨g,k1,g1,gg⟩:=cN h
  cases gg
  exact ⟨⟨x1,by show (x.mutexes++[g]).length <= N;simp;omega,x3,x4⟩,by show _+(x.mutexes++[g]).length+_ <= _;simp;omega⟩
 split at h
 ·rename_i hw
  split at h
  ·cases h
  obtain ⟨g,k1,g1,gg⟩:=cN h
  cases gg
  refine ⟨⟨x1,x2,by show (x.funcs++[g]).length <= N;simp;omega,fun f hf'=>?_⟩,by show _+_+(x.funcs++[g]).length <= _;simp;omega⟩
  rcases mem_append.1 hf' with hf'|hf'
  ·exact x4 f hf'
  simp at hf';subst hf';exact aF3 hel h1 hlN hf (dK hel hk hw) g1
 cases h
theorem wS:∀(n:Nat)(x:cK)(k:Nat)(y:cK)(k':Nat),k<l.length -> x.small N -> x.globals.length+x.mutexes.length+x.funcs.length <= k -> lK l n x k=.ok y k' -> y.small N
 |0,_,k,_,_,_,_,_,h=>by unfold lK at h;cases h
 |n+1,x,k,y,k',hk,hx,hx2,h=>by
  unfold lK at h
  split at h
  ·cases h;exact hx
  obtain ⟨z,k1,g1,g⟩:=cN h
  have i1:=aAj hel (x:=x) hk
  rw [g1] at i1
  have s1:=aFo hel h1 hlN hf hk hx hx2 g1
  have:=i1.1
  exact wS n z k1 y k' i1.2 s1.1 (by omega) g
theorem yV{y:cK}{k':Nat}(h:fH l=.ok y k'):y.small N:=
 wS hel h1 hlN hf _ _ _ _ _ (by obtain ⟨h0,_⟩:=hel;exact h0) ⟨by simp,by simp,by simp,by simp⟩ (by simp) h
end
end
section
open Go.RowKit
theorem aA3(op num:Int)(name:ByteArray)(args:List aH)(hl:args.length <= 1000000000)(ih:∀k (h:k<args.length) (s:Sto),aL prog 94 [.agg (cU args[k]),.agg (cU args[k])] [] s fun r s'=>r=.c (.val (.bool true)) /\ s'=s)(s:Sto):
  aL prog 94 [.agg [.val (.int .i64 op),.val (.int .i64 num),.val (.string name),.sl args.length (args.flatMap fO)],.agg [.val (.int .i64 op),.val (.int .i64 num),.val (.string name),.sl args.length (args.flatMap fO)]] [] s fun r s'=>r=.c (.val (.bool true)) /\ s'=s:=by
 obtain ⟨bx,rw⟩:=s
 refine acB func94 rfl ?_
 show AWp prog _ ⟨53,_,⟨bx,rw⟩,[(0,.agg [.val (.int .i64 op),.val (.int .i64 num),.val (.string name),.sl args.length (args.flatMap fO)]),(1,.agg [.val (.int .i64 op),.val (.int .i64 num),.val (.string name),.sl args.length (args.flatMap fO)])]⟩ _
 refine go 14 fun b1 b2=>?_
 refine wcp false rfl (by simp [bC]) ?_
 refine go 5 ?_
 refine wcp false rfl (by simp [bC]) ?_
 refine go 6 ?_
 refine wyz rfl (aZ false rfl rfl rfl (by simp [oM])) ?_
 refine go 8 ?_
 refine wcp false rfl (by simp [bC]) ?_
 refine go 13 ?_
 refine tW (args.length) 5 [(2,_),(3,_)] (sA rfl) fun k hk=>?_
 refine go 7 ?_
 refine wyz rfl (bO _ rfl rfl rfl rfl) ?_
 refine go 2 ?_
 refine gY rfl (fun hc2=>?_) (fun hc2=>?_)
 ·have hk2:k<args.length:=by simpa using hc2
  refine go 5 ?_
  refine aB [b2,b1] (by kernel_rfl) ?_
  refine tks [(0,true),(1,true),(2,true)] 9 (by kernel_rfl) ?_
  refine go 4 ?_
  refine tr 3 (by kernel_rfl) rfl (bH fO cU args iU fP k rfl rfl rfl rfl hk2 (by decide) runUnderlying87 sizeOf89) ?_
  refine tks [(4,true),(5,true),(6,true),(7,true)] 4 (by kernel_rfl) ?_
  refine go 5 ?_
  refine tr 8 (by kernel_rfl) rfl (bH fO cU args iU fP k rfl rfl rfl rfl hk2 (by decide) runUnderlying87 sizeOf89) ?_
  refine tks [(9,true)] 2 (by kernel_rfl) ?_
  refine go 2 ?_
  refine one 10 (by kernel_rfl) rfl rfl (bD [] rfl rfl (by decide) call94 rfl (ih k hk2 ⟨_,_⟩) bDl bDl (fun _=>bDl) ?_)
  rintro r3 s3 ⟨rfl,rfl⟩
  refine tks [(11,true)] 0 (by kernel_rfl) ?_
  refine go 2 ?_
  refine aE (by kernel_rfl) ?_
  refine go 7 ?_
  refine wad rfl ?_
  refine go 2 ?_
  exact ⟨by omega,(sA rfl)⟩
 refine go 11 ?_
 exact bHe (s':=⟨bx,rw⟩) rfl sb2 ⟨rfl,rfl⟩
mutual
theorem mM:∀(x:aH),x.nodes <= 1000000000 -> ∀(s:Sto),aL prog 94 [.agg (cU x),.agg (cU x)] [] s fun r s'=>r=.c (.val (.bool true)) /\ s'=s
 |.mk op num name args,hn,s=>aA3 op num name args (by have:=tN args;simp only [aH.nodes] at hn;omega) (fun k h s=>tE args (by simp only [aH.nodes] at hn;omega) k h s) s
theorem tE:∀(l:List aH),cZ l <= 1000000000 -> ∀(k:Nat)(h:k<l.length)(s:Sto),aL prog 94 [.agg (cU l[k]),.agg (cU l[k])] [] s fun r s'=>r=.c (.val (.bool true)) /\ s'=s
 |[],_,_,h,_=>absurd h (by simp)
 |e::es,hn,0,_,s=>mM e (by simp only [cZ] at hn;omega) s
 |e::es,hn,k+1,h,s=>tE es (by simp only [cZ] at hn;omega) k (by simpa using h) s
end
theorem aE8(name:ByteArray)(s:Sto):aL prog 95 [.agg [.val (.string name),.sl 0 []],.agg [.val (.string name),.sl 0 []]] [] s fun r s'=>r=.c (.val (.bool true)) /\ s'=s:=by
 obtain ⟨bx,rw⟩:=s
 refine acB func95 rfl ?_
 show AWp prog _ ⟨40,_,⟨bx,rw⟩,[(0,.agg [.val (.string name),.sl 0 []]),(1,.agg [.val (.string name),.sl 0 []])]⟩ _
 refine go 14 fun b1 b2=>?_
 refine wyz rfl (aZ false rfl rfl rfl (by simp [oM])) ?_
 refine go 7 ?_
 refine wcp false rfl (by simp [bC]) ?_
 refine go 7 ?_
 refine aB [b2,b1] (by kernel_rfl) ?_
 refine tks [(0,true),(1,true),(2,true)] 19 (by kernel_rfl) ?_
 refine go 4 ?_
 refine tr 3 (by kernel_rfl) rfl (bO true rfl rfl rfl (by simp [bC])) ?_
 refine tks [(4,true),(5,true),(6,true),(7,true),(8,true),(9,true),(10,true),(11,true),(12,true),(13,true),(14,true),(15,true),(16,true),(17,true),(18,true),(19,true),(20,true),(21,true)] 0 (by kernel_rfl) ?_
 refine go 19 ?_
 refine aE (by kernel_rfl) ?_
 refine go 2 ?_
 exact bHe (s':=⟨bx,rw⟩) rfl sb2 ⟨rfl,rfl⟩
theorem aFy(name:ByteArray)(x:aH)(hx:x.nodes <= 1000000000)(s:Sto):aL prog 95 [.agg [.val (.string name),.sl [x].length ([x].flatMap fO)],.agg [.val (.string name),.sl [x].length ([x].flatMap fO)]] [] s fun r s'=>r=.c (.val (.bool true)) /\ s'=s:=by
 obtain ⟨bx,rw⟩:=s
 refine acB func95 rfl ?_
 show AWp prog _ ⟨40,_,⟨bx,rw⟩,[(0,.agg [.val (.string name),.sl [x].length ([x].flatMap fO)]),(1,.agg [.val (.string name),.sl [x].length ([x].flatMap fO)])]⟩ _
 refine go 14 fun b1 b2=>?_
 refine wyz rfl (aZ false rfl rfl rfl (by simp [oM])) ?_
 refine go 7 ?_
 refine wcp false rfl (by simp [bC]) ?_
 refine go 7 ?_
 refine aB [b2,b1] (by kernel_rfl) ?_
 refine tks [(0,true),(1,true),(2,true)] 19 (by kernel_rfl) ?_
 refine go 4 ?_
 refine tr 3 (by kernel_rfl) rfl (bO false rfl rfl rfl rfl) ?_
 refine tks [(4,true),(5,true),(6,true),(7,true)] 14 (by kernel_rfl) ?_
 refine go 5 ?_
 refine tr 8 (by kernel_rfl) rfl (bO true rfl rfl rfl (by simp [bC])) ?_
 refine tks [(9,true),(10,true),(11,true)] 10 (by kernel_rfl) ?_
 refine go 4 ?_
 refine tr 12 (by kernel_rfl) rfl (bH fO cU [x] iU fP 0 rfl rfl rfl rfl (by simp) (by decide) runUnderlying87 sizeOf89) ?_
 refine tks [(13,true),(14,true),(15,true)] 6 (by kernel_rfl) ?_
 refine go 4 ?_
 refine tr 16 (by kernel_rfl) rfl (bH fO cU [x] iU fP 0 rfl rfl rfl rfl (by simp) (by decide) runUnderlying87 sizeOf89) ?_
 refine tks [(17,true)] 4 (by kernel_rfl) ?_
 refine go 2 ?_
 refine one 18 (by kernel_rfl) rfl rfl (bD [] rfl rfl (by decide) call94 rfl (mM x hx ⟨_,_⟩) bDl bDl (fun _=>bDl) ?_)
 rintro r2 s2 ⟨rfl,rfl⟩
 refine tks [(19,true),(20,true),(21,true)] 0 (by kernel_rfl) ?_
 refine go 4 ?_
 refine aE (by kernel_rfl) ?_
 refine go 2 ?_
 exact bHe (s':=⟨bx,rw⟩) rfl sb2 ⟨rfl,rfl⟩
theorem wT(x:cY)(hx:x.small 1000000000)(s:Sto):aL prog 95 [.agg (encR x),.agg (encR x)] [] s fun r s'=>r=.c (.val (.bool true)) /\ s'=s:=by
 obtain ⟨name,index⟩:=x
 obtain ⟨h1,h2⟩:=hx
 match index,h1,h2 with
 |[],_,_=>exact aE8 name s
 |[x],_,h2=>exact aFy name x (h2 x (by simp)) s
 |_::_::_,h1,_=>simp at h1
theorem nN(l:List aJ)(hl:l.length <= 1000000000)(hs:∀k (h:k<l.length),l[k].expr.nodes <= 1000000000 /\ l[k].ref.small 1000000000 /\ l[k].args.length <= 1000000000 /\ (∀x,x∈l[k].args -> x.small 1000000000) /\ True)
  (ih1:∀k (h:k<l.length) (s:Sto),aL prog 49 [.c (.sl l[k].thn.length (l[k].thn.flatMap encS)),.c (.sl l[k].thn.length (l[k].thn.flatMap encS))] [] s fun r s'=>r=.c (.val (.bool true)) /\ s'=s) (ih2:∀k (h:k<l.length) (s:Sto),aL prog 49 [.c (.sl l[k].els.length (l[k].els.flatMap encS)),.c (.sl l[k].els.length (l[k].els.flatMap encS))] [] s fun r s'=>r=.c (.val (.bool true)) /\ s'=s) (s:Sto):aL prog 49 [.c (.sl l.length (l.flatMap encS)),.c (.sl l.length (l.flatMap encS))] [] s fun r s'=>r=.c (.val (.bool true)) /\ s'=s:=by
 obtain ⟨bx,rw⟩:=s
 refine acB func49 rfl ?_
 show AWp prog _ ⟨133,_,⟨bx,rw⟩,[(0,.c (.sl l.length (l.flatMap encS))),(1,.c (.sl l.length (l.flatMap encS)))]⟩ _
 refine go 12 ?_
 refine wcp false rfl (by simp [bC]) ?_
 refine go 12 ?_
 refine tW (l.length) 5 [(0,_),(1,_)] (sA rfl) fun k hk=>?_
 refine go 6 ?_
 refine wyz rfl (bO _ rfl rfl rfl rfl) ?_
 refine go 2 ?_
 refine gY rfl (fun hc2=>?_) (fun hc2=>?_)
 ·have hk2:k<l.length:=by simpa using hc2
  have hal:l[k].args.length <= 1000000000:=(hs k hk2).2.2.1
  refine go 5 ?_
  refine aB [] (by kernel_rfl) ?_
  refine tks [(0,true),(1,true)] 10 (by kernel_rfl) ?_
  refine go 3 ?_
  refine tr 2 (by kernel_rfl) rfl (bH encS dG l mE cJ k rfl rfl rfl rfl hk2 (by decide) runUnderlying42 sizeOf94) ?_
  refine tks [(3,true),(4,true),(5,true)] 6 (by kernel_rfl) ?_
  refine go 4 ?_
  refine tr 6 (by kernel_rfl) rfl (bH encS dG l mE cJ k rfl rfl rfl rfl hk2 (by decide) runUnderlying42 sizeOf94) ?_
  refine tks [(7,true)] 4 (by kernel_rfl) ?_
  refine go 2 ?_
  refine aI1 8 9 (by kernel_rfl) (by kernel_rfl) (by kernel_rfl) rfl rfl rfl rfl rfl rfl rfl rfl (by decide) rfl rfl (by decide) (by decide) (by decide) zeroValue94 rfl zeroValue94 rfl fun b1 b2=>?_
  refine tks [(10,false),(11,false)] 0 (by kernel_rfl) ?_
  refine go 3 ?_
  refine aE (by kernel_rfl) ?_
  refine go 8 ?_
  refine wcp false rfl (by simp [bC]) ?_
  refine go 5 ?_
  refine wyz rfl (aZ false rfl rfl rfl (by simp [oM])) ?_
  refine go 6 ?_
  refine wo rfl (bD [] rfl rfl (by decide) call94 rfl (mM l[k].expr (hs k hk2).1 ⟨_,_⟩) bDl bDl (fun _=>bDl) ?_)
  rintro r3 s3 ⟨rfl,rfl⟩
  refine go 7 ?_
  refine wo rfl (bD [] rfl rfl (by decide) call95 rfl (wT l[k].ref (hs k hk2).2.1 ⟨_,_⟩) bDl bDl (fun _=>bDl) ?_)
  rintro r4 s4 ⟨rfl,rfl⟩
  refine go 9 ?_
  refine wcp false rfl (by simp [bC]) ?_
  refine go 6 ?_
  refine wo rfl (bD [] rfl rfl (by decide) call49 rfl (ih1 k hk2 ⟨_,_⟩) bDl bDl (fun _=>bDl) ?_)
  rintro r5 s5 ⟨rfl,rfl⟩
  refine go 7 ?_
  refine wo rfl (bD [] rfl rfl (by decide) call49 rfl (ih2 k hk2 ⟨_,_⟩) bDl bDl (fun _=>bDl) ?_)
  rintro r6 s6 ⟨rfl,rfl⟩
  refine go 13 ?_
  refine tW (l[k].args.length) 8 [(0,_),(1,_),(5,_),(6,_),(7,_)] (sA rfl) fun j hj=>?_
  refine go 7 ?_
  refine wyz rfl (bO _ rfl rfl rfl rfl) ?_
  refine go 2 ?_
  refine gY rfl (fun hc8=>?_) (fun hc8=>?_)
  ·have hj2:j<l[k].args.length:=by simpa using hc8
   refine go 5 ?_
   refine aB [b2,b1] (by kernel_rfl) ?_
   refine tks [(0,true),(1,true),(2,true)] 42 (by kernel_rfl) ?_
   refine go 4 ?_
   refine tr 3 (by kernel_rfl) rfl (bH eJ eJ l[k].args iD (fun _=>rfl) j rfl rfl rfl rfl hj2 (by decide) runUnderlying92 sizeOf142) ?_
   refine tks [(4,true),(5,true),(6,true),(7,true),(8,true)] 36 (by kernel_rfl) ?_
   refine go 6 ?_
   refine tr 9 (by kernel_rfl) rfl (bH eJ eJ l[k].args iD (fun _=>rfl) j rfl rfl rfl rfl hj2 (by decide) runUnderlying92 sizeOf142) ?_
   refine tks [(10,true),(11,true)] 33 (by kernel_rfl) ?_
   refine go 3 ?_
   refine tr 12 (by kernel_rfl) rfl (aJ8 false rfl rfl rfl runUnderlying4 (by simp [aEb])) ?_
   refine tks [(13,true),(14,true),(15,true),(16,true)] 28 (by kernel_rfl) ?_
   refine go 5 ?_
   refine tr 17 (by kernel_rfl) rfl (bH eJ eJ l[k].args iD (fun _=>rfl) j rfl rfl rfl rfl hj2 (by decide) runUnderlying92 sizeOf142) ?_
   refine tks [(18,true),(19,true),(20,true),(21,true),(22,true)] 22 (by kernel_rfl) ?_
   refine go 6 ?_
   refine tr 23 (by kernel_rfl) rfl (bH eJ eJ l[k].args iD (fun _=>rfl) j rfl rfl rfl rfl hj2 (by decide) runUnderlying92 sizeOf142) ?_
   refine tks [(24,true),(25,true)] 19 (by kernel_rfl) ?_
   refine go 3 ?_
   refine one 26 (by kernel_rfl) rfl rfl (bD [] rfl rfl (by decide) call95 rfl (wT l[k].args[j].ref ((hs k hk2).2.2.2.1 _ (getElem_mem hj2)).1 ⟨_,_⟩) bDl bDl (fun _=>bDl) ?_)
   rintro r9 s9 ⟨rfl,rfl⟩
   refine tks [(27,true),(28,true),(29,true),(30,true),(31,true),(32,true)] 12 (by kernel_rfl) ?_
   refine go 7 ?_
   refine tr 33 (by kernel_rfl) rfl (bH eJ eJ l[k].args iD (fun _=>rfl) j rfl rfl rfl rfl hj2 (by decide) runUnderlying92 sizeOf142) ?_
   refine tks [(34,true),(35,true),(36,true),(37,true),(38,true)] 6 (by kernel_rfl) ?_
   refine go 6 ?_
   refine tr 39 (by kernel_rfl) rfl (bH eJ eJ l[k].args iD (fun _=>rfl) j rfl rfl rfl rfl hj2 (by decide) runUnderlying92 sizeOf142) ?_
   refine tks [(40,true),(41,true)] 3 (by kernel_rfl) ?_
   refine go 3 ?_
   refine one 42 (by kernel_rfl) rfl rfl (bD [] rfl rfl (by decide) call94 rfl (mM l[k].args[j].expr ((hs k hk2).2.2.2.1 _ (getElem_mem hj2)).2 ⟨_,_⟩) bDl bDl (fun _=>bDl) ?_)
   rintro r10 s10 ⟨rfl,rfl⟩
   refine tks [(43,true),(44,true)] 0 (by kernel_rfl) ?_
   refine go 3 ?_
   refine aE (by kernel_rfl) ?_
   refine go 7 ?_
   refine wad rfl ?_
   refine go 2 ?_
   exact ⟨by omega,(sA rfl)⟩
  refine go 8 ?_
  refine wad rfl ?_
  refine go 2 ?_
  exact ⟨by omega,cA (.cons _ (.cons _ (.refl _))) (.refl _) (fun b hb=>List.mem_cons_of_mem _ (List.mem_cons_of_mem _ (hb))) (sA rfl)⟩
 refine go 11 ?_
 exact bHe (s':=⟨bx,rw⟩) rfl sb0 ⟨rfl,rfl⟩
theorem rJ{x:aJ}(h:x.small 1000000000):x.expr.nodes <= 1000000000 /\ x.ref.small 1000000000 /\ x.args.length <= 1000000000 /\ (∀a,a∈x.args -> a.small 1000000000) /\ True:=by
 cases x;rw [aJ.small] at h;exact ⟨h.1,h.2.1,h.2.2.1,h.2.2.2.1,trivial⟩
mutual
theorem aC3:∀(x:aJ),x.small 1000000000 -> (∀(s:Sto),aL prog 49 [.c (.sl x.thn.length (x.thn.flatMap encS)),.c (.sl x.thn.length (x.thn.flatMap encS))] [] s fun r s'=>r=.c (.val (.bool true)) /\ s'=s) /\ ∀(s:Sto),aL prog 49 [.c (.sl x.els.length (x.els.flatMap encS)),.c (.sl x.els.length (x.els.flatMap encS))] [] s fun r s'=>r=.c (.val (.bool true)) /\ s'=s
 |.mk k n e r a t f,h=>by
  rw [aJ.small] at h
  exact ⟨fun s=>nN t h.2.2.2.2.1 (fun k hk=>rJ (nR.1 h.2.2.2.2.2.1 _ (getElem_mem hk))) (fun k hk s=>(kJ t h.2.2.2.2.2.1 k hk).1 s) (fun k hk s=>(kJ t h.2.2.2.2.2.1 k hk).2 s) s,
   fun s=>nN f h.2.2.2.2.2.2.1 (fun k hk=>rJ (nR.1 h.2.2.2.2.2.2.2 _ (getElem_mem hk))) (fun k hk s=>(kJ f h.2.2.2.2.2.2.2 k hk).1 s) (fun k hk s=>(kJ f h.2.2.2.2.2.2.2 k hk).2 s) s⟩
theorem kJ:∀(l:List aJ),smalls 1000000000 l -> ∀k (h:k<l.length),(∀(s:Sto),aL prog 49 [.c (.sl l[k].thn.length (l[k].thn.flatMap encS)),.c (.sl l[k].thn.length (l[k].thn.flatMap encS))] [] s fun r s'=>r=.c (.val (.bool true)) /\ s'=s) /\ ∀(s:Sto),aL prog 49 [.c (.sl l[k].els.length (l[k].els.flatMap encS)),.c (.sl l[k].els.length (l[k].els.flatMap encS))] [] s fun r s'=>r=.c (.val (.bool true)) /\ s'=s
 |[],_,_,h=>absurd h (by simp)
 |x::l,hs,0,_=>by rw [smalls] at hs;exact aC3 x hs.1
 |x::l,hs,k+1,h=>by rw [smalls] at hs;exact kJ l hs.2 k (by simpa using h)
end
theorem aAy(l:List aJ)(hl:l.length <= 1000000000)(h:smalls 1000000000 l)(s:Sto):aL prog 49 [.c (.sl l.length (l.flatMap encS)),.c (.sl l.length (l.flatMap encS))] [] s fun r s'=>r=.c (.val (.bool true)) /\ s'=s:=
 nN l hl (fun k hk=>rJ (nR.1 h _ (getElem_mem hk))) (fun k hk s=>(kJ l h k hk).1 s) (fun k hk s=>(kJ l h k hk).2 s) s
theorem aYs(d:Nat)(s:ByteArray)(i:Int)(w:World):(Op.equalIn (d+1+1) 69 (.agg #[.string s,.int .i64 i]) (.agg #[.string s,.int .i64 i])).run prog w=.ok true w:=by
 simp [Op.equalIn,go_sem,aG6]
theorem eqG(s:ByteArray)(i:Int)(w:World):(Op.equal 69 (.agg #[.string s,.int .i64 i]) (.agg #[.string s,.int .i64 i])).run prog w=.ok true w:=aYs _ s i w
theorem aX7(d:Nat)(s:ByteArray)(b:Bool)(i:Int)(w:World):(Op.equalIn (d+1+1) 71 (.agg #[.string s,.bool b,.int .i64 i]) (.agg #[.string s,.bool b,.int .i64 i])).run prog w=.ok true w:=by
 simp [Op.equalIn,go_sem,aG6]
theorem eqM(s:ByteArray)(b:Bool)(i:Int)(w:World):(Op.equal 71 (.agg #[.string s,.bool b,.int .i64 i]) (.agg #[.string s,.bool b,.int .i64 i])).run prog w=.ok true w:=aX7 _ s b i w
theorem aYx(d:Nat)(s:ByteArray)(b:Bool)(w:World):(Op.equalIn (d+1+1) 73 (.agg #[.string s,.bool b]) (.agg #[.string s,.bool b])).run prog w=.ok true w:=by
 simp [Op.equalIn,go_sem,aG6]
theorem eqP(s:ByteArray)(b:Bool)(w:World):(Op.equal 73 (.agg #[.string s,.bool b]) (.agg #[.string s,.bool b])).run prog w=.ok true w:=aYx _ s b w
theorem aMe(p:cK)(hp:p.small 1000000000)(s:Sto):aL prog 29 [.agg (jV p),.agg (jV p)] [] s fun r s'=>r=.c (.val (.bool true)) /\ s'=s:=by
 obtain ⟨bx,rw⟩:=s
 have hgl:=hp.1
 have hml:=hp.2.1
 have hfl:=hp.2.2.1
 refine acB func29 rfl ?_
 show AWp prog _ ⟨129,_,⟨bx,rw⟩,[(0,.agg (jV p)),(1,.agg (jV p))]⟩ _
 refine go 16 fun b1 b2=>?_
 refine wcp false rfl (by simp [bC]) ?_
 refine go 7 ?_
 refine wcp false rfl (by simp [bC]) ?_
 refine go 8 ?_
 refine wcp false rfl (by simp [bC]) ?_
 refine go 13 ?_
 refine tW (p.globals.length) 5 [(2,_),(3,_)] (sA rfl) fun k hk=>?_
 refine go 7 ?_
 refine wyz rfl (bO _ rfl rfl rfl rfl) ?_
 refine go 2 ?_
 refine gY rfl (fun hc2=>?_) (fun hc2=>?_)
 ·have hk2:k<p.globals.length:=by simpa using hc2
  refine go 5 ?_
  refine aB [b2,b1] (by kernel_rfl) ?_
  refine tks [(0,true),(1,true),(2,true)] 8 (by kernel_rfl) ?_
  refine go 4 ?_
  refine tr 3 (by kernel_rfl) rfl (bH dB dB p.globals nS (fun _=>rfl) k rfl rfl rfl rfl hk2 (by decide) runUnderlying31 sizeOf69) ?_
  refine tks [(4,true),(5,true),(6,true),(7,true)] 3 (by kernel_rfl) ?_
  refine go 5 ?_
  refine tr 8 (by kernel_rfl) rfl (bH dB dB p.globals nS (fun _=>rfl) k rfl rfl rfl rfl hk2 (by decide) runUnderlying31 sizeOf69) ?_
  refine tks [(9,true)] 1 (by kernel_rfl) ?_
  refine go 2 ?_
  refine tr 10 (by kernel_rfl) rfl (yI [.string p.globals[k].name,.int .i64 p.globals[k].init] false rfl rfl rfl eqGuardType69 (fun w=>eqG _ _ w) rfl) ?_
  refine aE (by kernel_rfl) ?_
  refine go 7 ?_
  refine wad rfl ?_
  refine go 2 ?_
  exact ⟨by omega,(sA rfl)⟩
 refine go 12 ?_
 refine tW (p.mutexes.length) 6 [(2,_),(3,_)] (sA rfl) fun k hk=>?_
 refine go 7 ?_
 refine wyz rfl (bO _ rfl rfl rfl rfl) ?_
 refine go 2 ?_
 refine gY rfl (fun hc4=>?_) (fun hc4=>?_)
 ·have hk2:k<p.mutexes.length:=by simpa using hc4
  refine go 5 ?_
  refine aB [b2,b1] (by kernel_rfl) ?_
  refine tks [(0,true),(1,true),(2,true)] 8 (by kernel_rfl) ?_
  refine go 4 ?_
  refine tr 3 (by kernel_rfl) rfl (bH bT bT p.mutexes mZ (fun _=>rfl) k rfl rfl rfl rfl hk2 (by decide) runUnderlying32 sizeOf71) ?_
  refine tks [(4,true),(5,true),(6,true),(7,true)] 3 (by kernel_rfl) ?_
  refine go 5 ?_
  refine tr 8 (by kernel_rfl) rfl (bH bT bT p.mutexes mZ (fun _=>rfl) k rfl rfl rfl rfl hk2 (by decide) runUnderlying32 sizeOf71) ?_
  refine tks [(9,true)] 1 (by kernel_rfl) ?_
  refine go 2 ?_
  refine tr 10 (by kernel_rfl) rfl (yI [.string p.mutexes[k].name,.bool p.mutexes[k].reentrant,.int .i64 p.mutexes[k].size] false rfl rfl rfl eqGuardType71 (fun w=>eqM _ _ _ w) rfl) ?_
  refine aE (by kernel_rfl) ?_
  refine go 7 ?_
  refine wad rfl ?_
  refine go 2 ?_
  exact ⟨by omega,(sA rfl)⟩
 refine go 12 ?_
 refine tW (p.funcs.length) 7 [(2,_),(3,_)] (sA rfl) fun k hk=>?_
 refine go 7 ?_
 refine wyz rfl (bO _ rfl rfl rfl rfl) ?_
 refine go 2 ?_
 refine gY rfl (fun hc6=>?_) (fun hc6=>?_)
 ·have hk2:k<p.funcs.length:=by simpa using hc6
  obtain ⟨hpl,hbl,hbs⟩:=hp.2.2.2 _ (getElem_mem hk2)
  refine go 5 ?_
  refine aB [b2,b1] (by kernel_rfl) ?_
  refine tks [(0,true),(1,true),(2,true)] 11 (by kernel_rfl) ?_
  refine go 4 ?_
  refine tr 3 (by kernel_rfl) rfl (bH fV fV p.funcs vC (fun _=>rfl) k rfl rfl rfl rfl hk2 (by decide) runUnderlying33 sizeOf44) ?_
  refine tks [(4,true),(5,true),(6,true),(7,true)] 6 (by kernel_rfl) ?_
  refine go 5 ?_
  refine tr 8 (by kernel_rfl) rfl (bH fV fV p.funcs vC (fun _=>rfl) k rfl rfl rfl rfl hk2 (by decide) runUnderlying33 sizeOf44) ?_
  refine tks [(9,true)] 4 (by kernel_rfl) ?_
  refine go 2 ?_
  refine aI1 10 11 (by kernel_rfl) (by kernel_rfl) (by kernel_rfl) rfl rfl rfl rfl rfl rfl rfl rfl (by decide) rfl rfl (by decide) (by decide) (by decide) zeroValue44 rfl zeroValue44 rfl fun b3 b4=>?_
  refine tks [(12,false),(13,false)] 0 (by kernel_rfl) ?_
  refine go 3 ?_
  refine aE (by kernel_rfl) ?_
  refine go 8 ?_
  refine wyz rfl (aZ false rfl rfl rfl (by simp [oM])) ?_
  refine go 7 ?_
  refine wcp false rfl (by simp [bC]) ?_
  refine go 6 ?_
  refine wo rfl (bD [] rfl rfl (by decide) call49 rfl (aAy p.funcs[k].body hbl hbs ⟨_,_⟩) bDl bDl (fun _=>bDl) ?_)
  rintro r7 s7 ⟨rfl,rfl⟩
  refine go 13 ?_
  refine tW (p.funcs[k].params.length) 10 [(2,_),(3,_),(7,_),(8,_),(9,_)] (sA rfl) fun j hj=>?_
  refine go 7 ?_
  refine wyz rfl (bO _ rfl rfl rfl rfl) ?_
  refine go 2 ?_
  refine gY rfl (fun hc9=>?_) (fun hc9=>?_)
  ·have hj2:j<p.funcs[k].params.length:=by simpa using hc9
   refine go 5 ?_
   refine aB [b4,b3,b2,b1] (by kernel_rfl) ?_
   refine tks [(0,true),(1,true),(2,true)] 8 (by kernel_rfl) ?_
   refine go 4 ?_
   refine tr 3 (by kernel_rfl) rfl (bH cP cP p.funcs[k].params gL (fun _=>rfl) j rfl rfl rfl rfl hj2 (by decide) runUnderlying41 sizeOf73) ?_
   refine tks [(4,true),(5,true),(6,true),(7,true)] 3 (by kernel_rfl) ?_
   refine go 5 ?_
   refine tr 8 (by kernel_rfl) rfl (bH cP cP p.funcs[k].params gL (fun _=>rfl) j rfl rfl rfl rfl hj2 (by decide) runUnderlying41 sizeOf73) ?_
   refine tks [(9,true)] 1 (by kernel_rfl) ?_
   refine go 2 ?_
   refine tr 10 (by kernel_rfl) rfl (yI [.string p.funcs[k].params[j].name,.bool p.funcs[k].params[j].mutex] false rfl rfl rfl eqGuardType73 (fun w=>eqP _ _ w) rfl) ?_
   refine aE (by kernel_rfl) ?_
   refine go 7 ?_
   refine wad rfl ?_
   refine go 2 ?_
   exact ⟨by omega,(sA rfl)⟩
  refine go 8 ?_
  refine wad rfl ?_
  refine go 2 ?_
  exact ⟨by omega,cA (.cons _ (.cons _ (.refl _))) (.refl _) (fun b hb=>List.mem_cons_of_mem _ (List.mem_cons_of_mem _ (hb))) (sA rfl)⟩
 refine go 11 ?_
 exact bHe (s':=⟨bx,rw⟩) rfl sb2 ⟨rfl,rfl⟩
end
end Go.Proofs.YtlmpchoaebhhmaaGreatDoor
