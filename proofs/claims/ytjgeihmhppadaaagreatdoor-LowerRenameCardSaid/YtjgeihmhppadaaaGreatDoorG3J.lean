import Derived.Test.YtjgeihmhppadaaaGreatDoorG2J
import Derived.Test.YtjgeihmhppadaaaGreatDoorProg
set_option linter.all false
set_option synthInstance.maxHeartbeats 1000000
set_option synthInstance.maxSize 1000000
set_option maxHeartbeats 1600000
set_option maxRecDepth 100000
namespace Go.Proofs.YtjgeihmhppadaaaGreatDoor
open Go.Proofs.Tryz
open List (length_append length_cons length_nil mem_append mem_cons not_mem_nil append_assoc getElem_mem take_of_length_le)
section
open Go.RowKit
mutual
def fO:aH -> List AC
 |.mk op num name args=>[.val (.int .i64 op),.val (.int .i64 num),.val (.string name),.sl args.length (aE7 args)]
def aE7:List aH -> List AC
 |[]=>[]
 |e::es=>fO e++aE7 es
end
theorem aFn:∀l:List aH,aE7 l=l.flatMap fO
 |[]=>by rw [aE7];rfl
 |e::es=>by rw [aE7,aFn es,List.flatMap_cons]
def cU(x:aH):List AC:=[Vi x.op,Vi x.num,Vs x.name,Sq fO x.args]
theorem aDt(x:aH):fO x=[Vi x.op,Vi x.num,Vs x.name,Sq fO x.args]:=by
 cases x;rw [fO,aFn];rfl
theorem fP(x:aH):fO x=cU x:=aDt x
theorem iU(x:aH):(fO x).length=4:=by rw [aDt];rfl
def encR(r:cY):List AC:=[Vs r.name,Sq fO r.index]
def eJ(a:eN):List AC:=[Vb a.mutex,Vs a.ref.name,Sq fO a.ref.index,Vi a.expr.op,Vi a.expr.num,Vs a.expr.name,Sq fO a.expr.args]
theorem iD(a:eN):(eJ a).length=7:=rfl
mutual
def encS:aJ -> List AC
 |.mk k name e r args t el=>[.val (.int .i64 k),.val (.string name),.val (.int .i64 e.op),.val (.int .i64 e.num),.val (.string e.name),.sl e.args.length (e.args.flatMap fO),.val (.string r.name),.sl r.index.length (r.index.flatMap fO),.sl args.length (args.flatMap eJ),.sl t.length (aB3 t),.sl el.length (aB3 el)]
def aB3:List aJ -> List AC
 |[]=>[]
 |e::es=>encS e++aB3 es
end
theorem yQ:∀l:List aJ,aB3 l=l.flatMap encS
 |[]=>by rw [aB3];rfl
 |e::es=>by rw [aB3,yQ es,List.flatMap_cons]
theorem aDb(x:aJ):encS x=[Vi x.kind,Vs x.name,Vi x.expr.op,Vi x.expr.num,Vs x.expr.name,Sq fO x.expr.args,Vs x.ref.name,Sq fO x.ref.index,Sq eJ x.args,Sq encS x.thn,Sq encS x.els]:=by
 cases x;rw [encS,yQ,yQ];rfl
def dG(x:aJ):List AC:=[Vi x.kind,Vs x.name,Vi x.expr.op,Vi x.expr.num,Vs x.expr.name,Sq fO x.expr.args,Vs x.ref.name,Sq fO x.ref.index,Sq eJ x.args,Sq encS x.thn,Sq encS x.els]
theorem cJ(x:aJ):encS x=dG x:=aDb x
theorem cZo(x:aJ):(encS x).length=11:=by rw [aDb];rfl
def cP(p:aS):List AC:=[Vs p.name,Vb p.mutex]
def fV(f:bS):List AC:=[Vs f.name,Sq cP f.params,Sq encS f.body]
def dB(g:aI):List AC:=[Vs g.name,Vi g.init]
def bT(m:cL):List AC:=[Vs m.name,Vb m.reentrant,Vi m.size]
def jV(p:cK):List AC:=[Sq dB p.globals,Sq bT p.mutexes,Sq fV p.funcs]
def aW(t:Tok):List AC:=[Vi t.kind,Vs t.text,Vi t.num,Vi t.pos]
theorem gL(p:aS):(cP p).length=2:=rfl
theorem vC(p:bS):(fV p).length=3:=rfl
theorem nS(p:aI):(dB p).length=2:=rfl
theorem mZ(p:cL):(bT p).length=3:=rfl
theorem bJ(p:Tok):(aW p).length=4:=rfl
theorem tW{P:Program}{c:Code}{n:Nat}{T:List Nat}{s:Sto}{ts:List (Nat×AT)}{Q:Exit -> AS -> Prop}(N i:Nat)(fixed:List (Nat×AT))(hs:Sub ⟨n,T,s,ts⟩ ⟨n,T,s,(i,nI 0)::fixed⟩)
  (round:∀k,k <= N -> AWp P c ⟨n,T,s,(i,nI k)::fixed⟩ (sU (λs'=>k<N /\ Sub s' ⟨n,T,s,(i,nI (k+1))::fixed⟩) Q)):AWp P (.loop c) ⟨n,T,s,ts⟩ Q:=by
 refine fM (λk=>⟨n,T,s,(i,nI k)::fixed⟩) (λk=>k <= N) (λk=>N-k) 0 hs (Nat.zero_le _) λk hk=>sE (round k hk) λe s' h=>?_
 cases e with
 |normal=>exact ⟨k+1,h.1,by have:=h.1;omega,h.2⟩
 |_=>exact h
section
variable {P:Program}{ops:Array Oper}{U Z:List Nat}{o o2:Oper}{n d:Nat}{T:List Nat}{s:Sto}{bx:List Box}{rw:List bA}{ts:List (Nat×AT)}{Q:Exit -> AS -> Prop}{K:AS -> Prop}{st:AS}
theorem aOz{ts':List (Nat×AT)}(h:∀i t,look ts' i=some t -> look ts i=some t):Sub ⟨n,T,s,ts⟩ ⟨n,T,s,ts'⟩:=λa w hs=>⟨⟨hs.df,hs.sz,λi t ht=>hs.tm i t (h i t ht),hs.mem⟩,λ_ h=>h,λ_ h=>h⟩
theorem aNm{bx':List Box}(h:bx'.Perm bx):Sub ⟨n,T,⟨bx,rw⟩,ts⟩ ⟨n,T,⟨bx',rw⟩,ts⟩:=λa w hs=>by
 have hbl:(⟨bx',rw⟩:Sto).bl.Perm (⟨bx,rw⟩:Sto).bl:=(h.map _).append (List.Perm.refl _)
 have hu:Up2 (bI (⟨bx,rw⟩:Sto).bl w) (bI (⟨bx',rw⟩:Sto).bl w):=up_sub λb hb=>hbl.mem_iff.1 hb
 refine ⟨⟨hs.df,hs.sz,λi t ht=>let ⟨v,e1,e2⟩:=hs.tm i t ht;⟨v,e1,e2.mono hu (mW (Nat.le_refl _))⟩,?_⟩,λb hb=>hbl.mem_iff.1 hb,λ_ h=>h⟩
 exact ⟨hbl.nodup_iff.2 hs.mem.nodup,λb hb=>hs.mem.lt b (hbl.mem_iff.1 hb),λx hx=>let ⟨us,e1,e2⟩:=hs.mem.box x (h.mem_iff.1 hx);⟨us,e1,e2.mono hu⟩,λr hr=>let ⟨us,e1,e2⟩:=hs.mem.row r hr;⟨us,e1,e2.mono hu⟩⟩
theorem aO8{md:Region.Mode}{QQ:Exit -> Act -> World -> Prop}{S S':World -> Prop}(hS:∀w,S' w -> S w){fuel:Nat}{listed:Array Bool}{a:Act}{w:World}(h:wpAnyH P md ops QQ S' fuel listed a w):wpAnyH P md ops QQ S fuel listed a w:=rE hS _ _ _ _ h
theorem aO1{fuel:Nat}{listed:Array Bool}{st':AS}(hs:Sub st st')(h:lD P ops Z fuel listed st' K):lD P ops Z fuel listed st K:=
 λa w hS QQ hp hQ=>aO8 (λw2 h2=>h2.mono λb hb=>kH.2 ⟨(hs a w hS).2.1 b (kH.1 hb).1,(kH.1 hb).2⟩) (h a w (hs a w hS).1 QQ hp λa' w' st2 q s2 k=>hQ a' w' st2 q s2 ((hs.ext hS).trans k))
theorem aI1(i j:Nat){E1 E2:TypeId}{d1 d2:Nat}{z1 z2:Value}{cs1 cs2:List AC}{fuel:Nat}{listed:Array Bool}(hr:Region.ready .any ops listed=[i,j])(hr1:Region.ready .any ops (listed.setIfInBounds i true)=[j])(hr2:Region.ready .any ops (listed.setIfInBounds j true)=[i])
  (hi:ops.toList[i]?=some o) (hw:fC ops o ⟨n,T,⟨bx,rw⟩,ts⟩=some true) (hi2:ops.toList[j]?=some o2) (hw2:fC ops o2 ⟨n,T,⟨bx,rw⟩,ts⟩=some true) (hg1:o.guard=none) (hg2:o2.guard=none) (ho:o.op=.alloc E1) (hd1:o.dst=some d1) (hn1:d1<n) (ho2:o2.op=.alloc E2) (hd2:o2.dst=some d2) (hn2:d2<n) (hne:d1≠d2) (hij:i≠j)
  (hz1:∀w,(zeroValue E1).run P w=.ok z1 w) (hc1:jL (cst z1)=some cs1) (hz2:∀w,(zeroValue E2).run P w=.ok z2 w) (hc2:jL (cst z2)=some cs2)
  (h:∀b1 b2,lD P ops Z fuel ((listed.setIfInBounds i true).setIfInBounds j true) ⟨n,b2::b1::T,⟨⟨b2,E2,cs2⟩::⟨b1,E1,cs1⟩::bx,rw⟩,(d2,pP b2)::(d1,pP b1)::ts⟩ K):
  lD P ops Z (fuel+1+1) listed ⟨n,T,⟨bx,rw⟩,ts⟩ K:=by
 have w1:∀st,fC ops o st=some true:=λst=>by unfold fC;rw [hg1]
 have w2:∀st,fC ops o2 st=some true:=λst=>by unfold fC;rw [hg2]
 refine two i j hr hi (w1 _) hi2 (w2 _) (jK ho hd1 hn1 hz1 hc1 λb1=>?_) (jK ho2 hd2 hn2 hz2 hc2 λb2=>?_)
 ·exact one j hr1 hi2 (w2 _) (jK ho2 hd2 hn2 hz2 hc2 λb2=>h b1 b2)
 refine one i hr2 hi (w1 _) (jK ho hd1 hn1 hz1 hc1 λb1=>?_)
 have h9:=h b1 b2
 rw [Array.setIfInBounds_comm _ _ hij] at h9
 refine aO1 (Sub.trans (aNm (List.Perm.swap _ _ _)) (Sub.trans (aPw (st:=⟨n,b1::b2::T,⟨⟨b2,E2,cs2⟩::⟨b1,E1,cs1⟩::bx,rw⟩,_⟩) (b2::b1::T) ?_) (aOz ?_))) h9
 ·intro b hb;simp only [mem_cons] at hb⊢;rcases hb with h|h|h<;>simp [h]
 intro k t hk
 simp only [look] at hk⊢
 by_cases e1:d2=k
 ·rw [if_pos e1] at hk
  rw [if_neg (λe=>hne (e.trans e1.symm)),if_pos e1];exact hk
 rw [if_neg e1] at hk⊢;exact hk
theorem cI(r:Int){E yt:TypeId}{x y:Operand}{m k:Int}(ho:o.op=.binOp .sub E x y yt:=by exact rfl)(hx:evA st x=some (Ci m):=by exact rfl)(hy:evA st y=some (Ci k):=by exact rfl)(hr:m-k=r:=by omega)(h1:-9223372036854775808 <= r:=by omega)(h2:r <= 9223372036854775807:=by omega):AY P U o st (Ci r):=by
 subst hr;exact qC (ho:=ho) (hx:=hx) (hy:=hy) (h1:=h1) (h2:=h2)
theorem way{U:List Nat}{t:AT}(hd:o.dst=some d)(hn:d<n)(hy:AY P [] o ⟨n,T,s,ts⟩ t)(h:K ⟨n,T,s,(d,t)::ts⟩):AO P U o ⟨n,T,s,ts⟩ K:=aXv hd hn hy h
theorem rT{E e:TypeId}{x y:Operand}{α:Type}(f:α -> AC)(lst:List α){k:IntKind}{i:Int}(j:Nat)(ho:o.op=.indexAddr E x y)(hx:evA st x=some (.c (.sl lst.length (lst.map f))))(hy:evA st y=some (Cv (.int k i)))(hi:i=j)(hj:j<lst.length)
  (hu:∀w,(underlying E).run P w=.ok (.slice e) w) (hS:∀w,(sizeOf e).run P w=.ok 1 w):AY P U o st (.el (f lst[j]::(lst.drop (j+1)).map f)):=by
 have h:=wX (P:=P) (U:=U) j ho hx hy hi hj (by simpa using hj) hu hS
 have e1:(lst.map f).drop (j*1)=f lst[j]::(lst.drop (j+1)).map f:=by rw [Nat.mul_one,←List.map_drop,List.drop_eq_getElem_cons hj,List.map_cons]
 rw [e1] at h
 exact h
theorem aV{α:Type}(enc enc':α -> List AC)(x:α){z:Nat}{zc:List AC}(he:enc x=enc' x)(h1:zc.length=z)(h2:(enc' x).length=z):qO (λk=>some (k*z,z)) zc [(0,.agg (enc' x))]=some ([x].flatMap enc):=by
 simp only [qO,jL,Nat.zero_mul,Nat.zero_add]
 rw [if_pos ⟨h2,J⟩,zC J]
 simp [he]
theorem aEp{α:Type}(enc enc':α -> List AC)(x y:α){z:Nat}{zc:List AC}(he:∀x,enc x=enc' x)(h1:zc.length=2*z)(h2:∀x,(enc' x).length=z):qO (λk=>some (k*z,z)) zc [(0,.agg (enc' x)),(1,.agg (enc' y))]=some ([x,y].flatMap enc):=by
 simp only [qO,jL,Nat.zero_mul,Nat.zero_add,Nat.one_mul]
 have e1:(splice zc 0 (enc' x)).length=2*z:=by unfold splice;simp [h2];omega
 rw [if_pos ⟨h2 x,J⟩,if_pos ⟨h2 y,J⟩]
 unfold splice
 simp only [h2,List.take_zero,List.nil_append,Nat.zero_add,List.flatMap_cons,List.flatMap_nil,List.append_nil,he]
 rw [List.take_left' (h2 x),List.drop_of_length_le (by simp [h2];omega)]
 simp
end
end
section
open Go.RowKit
section
variable {P:Program}{U T:List Nat}{o:Oper}{n d:Nat}{ts:List (Nat×AT)}{bx:List Box}{rw:List bA}{K:AS -> Prop}{Q:Exit -> AS -> Prop}{ops:Array Oper}{l:List Oper}
theorem eV{E e:TypeId}{x y:Operand}{k m z:Nat}{v zv:Value}{cs ds r:List AC}(A:List bA)(i:TypeInfo)(bytes:Nat){B:List bA}(ho:o.op=.call {callee:=.builtin .append,args:=#[x,y],argTypes:=#[E,E]})(hd:o.dst=some d)(hn:d<n)
  (hx:evA ⟨n,T,⟨bx,A++⟨v,e,z,k,cs⟩::B⟩,ts⟩ x=some (Cv v)) (hy:evA ⟨n,T,⟨bx,A++⟨v,e,z,k,cs⟩::B⟩,ts⟩ y=some (.c (.sl m ds))) (hu:P.underlying E=some (.slice e)) (hi:P.info? e=some i) (hz:i.zero=some zv) (hsz:i.size=z) (hby:i.bytes=bytes) (hzs:zv.cells.size=z) (h0:0<z)
  (hm:ds.length=m*z) (hm0:0<m) (hlen:k+m <= maxLen) (hbytes:(k+m)*bytes <= 140737488355328) {N:Nat} (hN:k+m=N) (hU:(⟨bx,A++⟨v,e,z,k,cs⟩::B⟩:Sto).bl.Nodup -> ∀b,b∈aY v -> b∈U) (hT:∀b,b∈aY v -> b∈T) (hr:cs++ds=r)
  (h:∀v',K ⟨n,aY v'++T,⟨bx,A++⟨v',e,z,N,r⟩::B⟩,(d,Cv v')::ts⟩):AO P U o ⟨n,T,⟨bx,A++⟨v,e,z,k,cs⟩::B⟩,ts⟩ K:=by
 subst hr;subst hN
 exact aBj A ho hd hn hx Y hy hu hi hz hsz hby hzs h0 hm hm0 hlen hbytes hU hT h
theorem aGy{R R':List bA}{r:bA}{w:World}(hm:Mem ⟨bx,R++r::R'⟩ w)(hz:0<r.z):Rep (bI (⟨bx,R++R'⟩:Sto).bl w) (.sl r.n r.cs) r.v:=by
 obtain ⟨us,hownR,hrep⟩:=hm.row r G0
 have hown:=hownR.row hz
 have hbl:∀b,b∈(⟨bx,R++R'⟩:Sto).bl -> b∈(⟨bx,R++r::R'⟩:Sto).bl:=λb hb=>by
  unfold Sto.bl at hb⊢
  simp only [List.flatMap_append,List.flatMap_cons,mem_append] at hb⊢
  rcases hb with h|h|h
  ·exact .inl h
  ·exact .inr (.inl h)
  exact .inr (.inr (.inr h))
 refine .sl _ _ us _ ?_ hrep.len (λk h h'=>(hrep.at_ k h h').mono (up_sub hbl)) (uK hown)
 obtain ⟨p,cap,he,hc,hr⟩:=dD.of_owns hown
 refine ⟨p,cap,he,hc,?_⟩
 rcases hr with h0|⟨b,off,rfl,hr⟩
 ·exact .inl h0
 refine .inr ⟨b,off,Y,λj x hj=>?_⟩
 have hbv:b∈aY r.v:=by rw [he];simp [aY,Value.ownBlock]
 rw [eW]
 ·exact hr j x hj
 intro hm1
 have hnd:=hm.nodup
 rw [sO bx R R' r] at hnd
 have hm2:b∈(bx.map Box.b++R.flatMap λr=>aY r.v)∨b∈R'.flatMap λr=>aY r.v:=by
  unfold Sto.bl at hm1;simp only [List.flatMap_append,mem_append] at hm1⊢
  rcases hm1 with h|h|h
  ·exact .inl (.inl h)
  ·exact .inl (.inr h)
  exact .inr h
 rcases hm2 with hm2|hm2
 ·exact (List.nodup_append.1 hnd).2.2 b hm2 b (List.mem_append_left _ hbv) Y
 exact (List.nodup_append.1 (List.nodup_append.1 hnd).2.1).2.2 b hbv b hm2 Y
theorem aBg{b:Nat}{E:TypeId}{cs:List AC}{r:bA}(A:List Box){B:List Box}(i:Nat)(hi:cs[i]?=some (.val r.v))(hz:0<r.z:=by decide):aAz ⟨A++⟨b,E,cs⟩::B,r::rw⟩ ⟨A++⟨b,E,cs.set i (.sl r.n r.cs)⟩::B,rw⟩:=by
 intro w hm
 have hf:=aGy (R:=[]) hm hz
 obtain ⟨h1,h2⟩:=aA (s:=⟨A++⟨b,E,cs⟩::B,r::rw⟩) (s':=⟨A++⟨b,E,cs⟩::B,rw⟩) (.refl _) (List.sublist_cons_self _ _) w hm
 have hbl:(⟨A++⟨b,E,cs.set i (.sl r.n r.cs)⟩::B,rw⟩:Sto).bl=(⟨A++⟨b,E,cs⟩::B,rw⟩:Sto).bl:=by unfold Sto.bl;simp
 refine ⟨⟨by rw [hbl];exact h1.nodup,by rw [hbl];exact h1.lt,λx hx=>?_,λx hx=>by rw [hbl];exact h1.row x hx⟩,by rw [hbl];exact h2⟩
 rw [hbl]
 rcases mem_append.1 hx with hx|hx
 ·exact h1.box x (List.mem_append_left _ hx)
 rcases mem_cons.1 hx with rfl|hx
 ·obtain ⟨us,e1,e2⟩:=h1.box ⟨b,E,cs⟩ G0
  refine ⟨us,e1,?_⟩
  obtain ⟨u,g1,g2⟩:=e2.get hi
  cases g2
  have h9:=e2.set i hf
  have hus:us.set i r.v=us:=by
   refine List.ext_getElem G0 λj h1 h2=>?_
   rw [List.getElem_set]
   split
   ·rename_i hj;subst hj;exact (List.getElem?_eq_some_iff.1 g1).2.symm
   rfl
  rw [hus] at h9;exact h9
 exact h1.box x (List.mem_append_right _ (List.mem_cons_of_mem _ hx))
theorem aAg{b:Nat}{E:TypeId}{cs cs':List AC}{v:Value}{E2:TypeId}{z k:Nat}{ds:List AC}(A:List Box){B:List Box}(i:Nat)(hi:cs[i]?=some (.val v))(hr:cs.set i (.sl k ds)=cs')(h:eQ P ops l ⟨n,T,⟨A++⟨b,E,cs'⟩::B,rw⟩,ts⟩ Q)(hz:0<z:=by decide):eQ P ops l ⟨n,T,⟨A++⟨b,E,cs⟩::B,⟨v,E2,z,k,ds⟩::rw⟩,ts⟩ Q:=by
 subst hr
 exact uQ (vU (st:=⟨n,T,⟨A++⟨b,E,cs⟩::B,⟨v,E2,z,k,ds⟩::rw⟩,ts⟩) (aBg (r:=⟨v,E2,z,k,ds⟩) A i hi hz)) h
theorem aCn{st:AS}{rv:ResultVar}{r r':AT}(h:Wk r r')(hr:aAc P st rv r):aAc P st rv r':=λa w hs=>
 let ⟨v,h1,h2⟩:=hr a w hs
 ⟨v,h _ _ h1,h2⟩
end
end
section
open Go.RowKit
class Go1 (N:Nat) (g:Prop) (g':outParam Prop):Prop where out:g' -> g
theorem go(N:Nat){g g':Prop}[h:Go1 N g g'](x:g'):g:=h.out x
instance aV5{g:Prop}:Go1 0 g g:=⟨id⟩
class LtN (d n:Nat):Prop where h:d<n
instance ltN{d k:Nat}:LtN d (k+d+1):=⟨J⟩
class NeN (i j:Nat):Prop where h:i≠j
instance bC1{i j:Nat}[h:LtN i j]:NeN i j:=⟨by have:=h.h;omega⟩
instance bDh{i j:Nat}[h:LtN j i]:NeN i j:=⟨by have:=h.h;omega⟩
class aMy (ts:List (Nat×AT)) (i:Nat) (t:outParam AT):Prop where h:look ts i=some t
instance (priority:=1100) look_hit{ts:List (Nat×AT)}{i:Nat}{t:AT}:aMy ((i,t)::ts) i t:=⟨by simp [look]⟩
instance aRp{ts:List (Nat×AT)}{i j:Nat}{t u:AT}[h1:NeN j i][h2:aMy ts i t]:aMy ((j,u)::ts) i t:=⟨by rw [look,if_neg h1.h];exact h2.h⟩
class aG0 (u:AT) (t:outParam AT):Prop where h:u.bare=t
instance aY1{x:AC}:aG0 (.c x) (.c x):=⟨rfl⟩
instance aT8{x:List AC}:aG0 (.agg x) (.agg x):=⟨rfl⟩
instance aR4{x:List AT}:aG0 (.tup x) (.tup x):=⟨rfl⟩
instance aVc{x:List AC}:aG0 (.el x) (.el x):=⟨rfl⟩
instance aSr{x:Value}:aG0 (.raw x) (.raw x):=⟨rfl⟩
instance bHi{t:AT}{p:World -> Prop}:aG0 (.ride t p) t:=⟨rfl⟩
instance aRq{t:AT}{a b c d:Nat}{x y:List AC}:aG0 (.fact (.fact t a b x) c d y) t:=⟨rfl⟩
class wN (vs:List Value) (cs:outParam (List AC)):Prop where h:vs.all (·.oneCell')=true /\ vs.map .val=cs
instance aQb:wN [] []:=⟨rfl,rfl⟩
class aFe (v:Value):Prop where h:v.oneCell'=true
instance aYb{k:IntKind}{i:Int}:aFe (.int k i):=⟨rfl⟩
instance aY8{b:Bool}:aFe (.bool b):=⟨rfl⟩
instance aYm{b:ByteArray}:aFe (.string b):=⟨rfl⟩
instance aXm{b:Option Addr}:aFe (.pointer b):=⟨rfl⟩
instance aW0{a:Option Addr}{m k:Nat}:aFe (.slice a m k):=⟨rfl⟩
instance aX4{f:Fn}{a b:Array Value}:aFe (.func f a b):=⟨rfl⟩
instance aWg:aFe .nilFunc:=⟨rfl⟩
instance aPu{v:Value}{vs:List Value}{cs:List AC}[h1:aFe v][h2:wN vs cs]:wN (v::vs) (.val v::cs):=⟨by simp only [List.all_cons,h1.h,h2.h.1,Bool.and_self],by rw [List.map_cons,h2.h.2]⟩
class Cst (v:Value) (t:outParam AT):Prop where h:cst v=t
instance aZk{k:IntKind}{i:Int}:Cst (.int k i) (Cv (.int k i)):=⟨rfl⟩
instance aZl{b:Bool}:Cst (.bool b) (Cb b):=⟨rfl⟩
instance bA5{b:ByteArray}:Cst (.string b) (Cs b):=⟨rfl⟩
instance aZ0{b:Option Addr}:Cst (.pointer b) (Cv (.pointer b)):=⟨rfl⟩
instance aYg{a:Option Addr}{m k:Nat}:Cst (.slice a m k) (Cv (.slice a m k)):=⟨rfl⟩
instance aYd:Cst .nilFunc (Cv .nilFunc):=⟨rfl⟩
instance aW1{vs:List Value}{cs:List AC}[h:wN vs cs]:Cst (.agg vs.toArray) (.agg cs):=⟨by
 show (if vs.toArray.toList.all (·.oneCell') then AT.agg (vs.toArray.toList.map .val) else .raw (.agg vs.toArray))=_
 rw [List.toList_toArray,if_pos h.h.1,h.h.2]⟩
class Ev (ts:List (Nat×AT)) (x:Operand) (t:outParam AT):Prop where h:∀n T s,evA ⟨n,T,s,ts⟩ x=some t
instance aY7{ts:List (Nat×AT)}{i:Nat}{u t:AT}[h1:aMy ts i u][h2:aG0 u t]:Ev ts (.tmp i) t:=⟨λn T s=>by show (look ts i).map AT.bare=_;rw [h1.h,Option.map_some,h2.h]⟩
instance aSm{ts:List (Nat×AT)}{v:Value}{t:AT}[h:Cst v t]:Ev ts (.const v) t:=⟨λn T s=>by show some (cst v)=_;rw [h.h]⟩
instance aU3{ts:List (Nat×AT)}{f:FuncId}:Ev ts (.func f) (Cv (.func (.func f) #[] #[])):=⟨λn T s=>rfl⟩
class wV (l:List Oper) (j:Nat) (t:outParam Nat):Prop where h:(l[j]?).bind (·.dst)=some t
instance aWa{t:Nat}{op:Op}{ty:TypeId}{pos:String}{af:Array Edge}{g:Option (Nat×Bool)}{l:List Oper}:wV (⟨some t,op,ty,pos,af,g⟩::l) 0 t:=⟨rfl⟩
instance aT3{t j:Nat}{o:Oper}{l:List Oper}[h:wV l j t]:wV (o::l) (j+1) t:=⟨E8⟩
class wO (b want:Bool) (r:outParam Bool):Prop where h:(b == want)=r
instance bAo:wO true true true:=⟨rfl⟩
instance bCk:wO true false false:=⟨rfl⟩
instance bCp:wO false true false:=⟨rfl⟩
instance bBb:wO false false true:=⟨rfl⟩
class aH4 (t:AT) (want:Bool) (r:outParam Bool):Prop where h:(match t with|.c (.val v)=>some (aBh want v)|.raw v=>some (aBh want v)|_=>none)=some r
instance bC9{b want r:Bool}[h:wO b want r]:aH4 (Cb b) want r:=⟨by show some (b == want)=some r;rw [h.h]⟩
instance bDg{want:Bool}:aH4 (.raw undef) want false:=⟨rfl⟩
class aBx (l:List Oper) (ts:List (Nat×AT)) (g:Option (Nat×Bool)) (r:outParam Bool):Prop where h:∀n T s (o:Oper),o.guard=g -> fC l.toArray o ⟨n,T,s,ts⟩=some r
instance aQ9{l:List Oper}{ts:List (Nat×AT)}:aBx l ts none true:=⟨λn T s o h=>by unfold fC;rw [h]⟩
instance aP6{l:List Oper}{ts:List (Nat×AT)}{j t:Nat}{want r:Bool}{u:AT}[h1:wV l j t][h2:aMy ts t u][h3:aH4 u want r]:aBx l ts (some (j,want)) r:=⟨λn T s o h=>by
 unfold fC;rw [h];dsimp only
 rw [h1.h];dsimp only
 rw [h2.h]
 have h4:=h3.h
 revert h4
 cases u with
 |c x=>cases x with
  |val v=>exact id
  |sl _ _=>exact id
 |raw v=>exact id
 |_=>exact id⟩
class YR (P:Program) (U:List Nat) (op:Op) (n:Nat) (T:List Nat) (s:Sto) (ts:List (Nat×AT)) (t:outParam AT):Prop where h:∀o:Oper,o.op=op -> AY P U o ⟨n,T,s,ts⟩ t
class aH9 (r:Bool) (P:Program) (U:List Nat) (op:Op) (n:Nat) (T:List Nat) (s:Sto) (ts:List (Nat×AT)) (t:outParam AT):Prop where h:(r=true -> ∀o:Oper,o.op=op -> AY P U o ⟨n,T,s,ts⟩ t) /\ (r=false -> t=.raw undef)
section
variable {P:Program}{U T:List Nat}{n:Nat}{s:Sto}{ts:List (Nat×AT)}{t u:AT}
instance stepT{op:Op}[h:YR P U op n T s ts t]:aH9 true P U op n T s ts t:=⟨λ_=>h.h,(λh=>DV)⟩
instance bBy{op:Op}:aH9 false P U op n T s ts (.raw undef):=⟨(λh=>DV),λ_=>rfl⟩
instance aYe{x:Operand}[h:Ev ts x t]:YR P U (.move x) n T s ts t:=⟨λo ho=>lW ho (h.h _ _ _)⟩
instance aRz{x:Operand}[h:Ev ts x t]:YR P U (.assign x) n T s ts t:=⟨λo ho=>aCd ho (h.h _ _ _)⟩
instance aV7{c x y:Operand}[hc:Ev ts c (Cb true)][h:Ev ts x t]:YR P U (.pick c x y) n T s ts t:=⟨λo ho=>aIk (b:=true) ho (hc.h _ _ _) (h.h _ _ _)⟩
instance aU6{c x y:Operand}[hc:Ev ts c (Cb false)][h:Ev ts y t]:YR P U (.pick c x y) n T s ts t:=⟨λo ho=>aIk (b:=false) ho (hc.h _ _ _) (h.h _ _ _)⟩
end
class cZr (cs:List AC) (z:Nat):Prop where h:cs.length=z
instance aTi:cZr [] 0:=⟨rfl⟩
instance aRf{c:AC}{cs:List AC}{k:Nat}[h:cZr cs k]:cZr (c::cs) (k+1):=⟨by rw [length_cons,h.h]⟩
instance aXr{x:aH}:cZr (fO x) 4:=⟨iU x⟩
instance aUl{x:aH}:cZr (cU x) 4:=⟨rfl⟩
instance aX9{x:cY}:cZr (encR x) 2:=⟨rfl⟩
instance aYk{x:eN}:cZr (eJ x) 7:=⟨rfl⟩
instance aYu{x:aJ}:cZr (encS x) 11:=⟨cZo x⟩
instance aXf{x:aJ}:cZr (dG x) 11:=⟨rfl⟩
instance aYo{x:aS}:cZr (cP x) 2:=⟨rfl⟩
instance aX1{x:bS}:cZr (fV x) 3:=⟨rfl⟩
instance aXu{x:aI}:cZr (dB x) 2:=⟨rfl⟩
instance aXw{x:cL}:cZr (bT x) 3:=⟨rfl⟩
instance aWe{x:cK}:cZr (jV x) 3:=⟨rfl⟩
instance aY5{x:Tok}:cZr (aW x) 4:=⟨rfl⟩
class iY (cs:List AC) (ds:outParam (List AC)):Prop where h:cs=ds
instance aRg:iY [] []:=⟨rfl⟩
instance aQs{c:AC}{cs:List AC}:iY (c::cs) (c::cs):=⟨rfl⟩
instance aW6{x:aH}:iY (fO x) [Vi x.op,Vi x.num,Vs x.name,Sq fO x.args]:=⟨aDt x⟩
instance aS7{x:aH}:iY (cU x) [Vi x.op,Vi x.num,Vs x.name,Sq fO x.args]:=⟨rfl⟩
instance aXa{r:cY}:iY (encR r) [Vs r.name,Sq fO r.index]:=⟨rfl⟩
instance aV0{a:eN}:iY (eJ a) [Vb a.mutex,Vs a.ref.name,Sq fO a.ref.index,Vi a.expr.op,Vi a.expr.num,Vs a.expr.name,Sq fO a.expr.args]:=⟨rfl⟩
instance aUa{x:aJ}:iY (encS x) [Vi x.kind,Vs x.name,Vi x.expr.op,Vi x.expr.num,Vs x.expr.name,Sq fO x.expr.args,Vs x.ref.name,Sq fO x.ref.index,Sq eJ x.args,Sq encS x.thn,Sq encS x.els]:=⟨aDb x⟩
instance aS9{x:aJ}:iY (dG x) [Vi x.kind,Vs x.name,Vi x.expr.op,Vi x.expr.num,Vs x.expr.name,Sq fO x.expr.args,Vs x.ref.name,Sq fO x.ref.index,Sq eJ x.args,Sq encS x.thn,Sq encS x.els]:=⟨rfl⟩
instance aWu{p:aS}:iY (cP p) [Vs p.name,Vb p.mutex]:=⟨rfl⟩
instance aUg{f:bS}:iY (fV f) [Vs f.name,Sq cP f.params,Sq encS f.body]:=⟨rfl⟩
instance aUn{g:aI}:iY (dB g) [Vs g.name,Vi g.init]:=⟨rfl⟩
instance aVw{m:cL}:iY (bT m) [Vs m.name,Vb m.reentrant,Vi m.size]:=⟨rfl⟩
instance aSq{p:cK}:iY (jV p) [Sq dB p.globals,Sq bT p.mutexes,Sq fV p.funcs]:=⟨rfl⟩
instance aVj{t:Tok}:iY (aW t) [Vi t.kind,Vs t.text,Vi t.num,Vi t.pos]:=⟨rfl⟩
instance aT0{vs:List Value}{cs:List AC}[h:wN vs cs]:iY (List.map AC.val (List.toArray vs).toList) cs:=⟨by rw [List.toList_toArray];exact h.h.2⟩
instance aU0{vs:List Value}{cs:List AC}{z:Nat}[h:wN vs cs][h2:cZr cs z]:cZr (List.map AC.val (List.toArray vs).toList) z:=⟨by rw [List.toList_toArray,h.h.2];exact h2.h⟩
class aPh (cs:List AC) (i:Nat) (c:AC) (r:outParam (List AC)):Prop where h:cs.set i c=r
instance aYc{c d:AC}{cs:List AC}:aPh (d::cs) 0 c (c::cs):=⟨rfl⟩
instance aYa{c d:AC}{cs r:List AC}{i:Nat}[h:aPh cs i c r]:aPh (d::cs) (i+1) c (d::r):=⟨by rw [List.set_cons_succ,h.h]⟩
instance aRj{cs cs' r:List AC}{i:Nat}{c:AC}[h:iY cs cs'][h2:aPh cs' i c r]:iY (cs.set i c) r:=⟨by rw [h.h,h2.h]⟩
instance aRw{cs:List AC}{i z:Nat}{c:AC}[h:cZr cs z]:cZr (cs.set i c) z:=⟨by rw [List.length_set,h.h]⟩
instance aRk{cs ds R:List AC}[h:iY cs ds]:iY (cs++R) (ds++R):=⟨by rw [h.h]⟩
class aCc (cs:List AC) (z:Nat) (ds:outParam (List AC)):Prop where h:cs.take z=ds /\ z <= cs.length
instance aVs{cs:List AC}:aCc cs 0 []:=⟨G0⟩
instance aUr{c:AC}{cs ds:List AC}{z:Nat}[h:aCc cs z ds]:aCc (c::cs) (z+1) (c::ds):=⟨by simp [h.h.1,h.h.2]⟩
instance aRm{cs R ds:List AC}{z:Nat}[h:aCc cs z ds]:aCc (cs++R) z ds:=⟨by rw [List.take_append_of_le_length h.h.2,length_append];exact ⟨h.h.1,by have:=h.h.2;omega⟩⟩
class wZ (cs:List AC) (o:Nat) (ds:outParam (List AC)):Prop where h:cs.drop o=ds /\ o <= cs.length
instance aVa{cs:List AC}:wZ cs 0 cs:=⟨G0⟩
instance aXh{c:AC}{cs ds:List AC}{o:Nat}[h:wZ cs o ds]:wZ (c::cs) (o+1) ds:=⟨by simp [h.h.1,h.h.2]⟩
instance aRh{cs ds R:List AC}{o:Nat}[h:wZ cs o ds]:wZ (cs++R) o (ds++R):=⟨by
 refine ⟨?_,by have:=h.h.2;simp;omega⟩
 rw [List.drop_append_of_le_length h.h.2,h.h.1]⟩
class PkN (ag:Bool) (z:Nat) (cs:List AC) (off:Nat) (t:outParam AT):Prop where h:pk ag z cs off=some t
instance (priority:=1200) pkN_whole{cs:List AC}{z:Nat}[h:cZr cs z]:PkN true z cs 0 (.agg cs):=⟨bK h.h rfl⟩
instance (priority:=1100) pkN_head{cs R:List AC}{z:Nat}[h:cZr cs z]:PkN true z (cs++R) 0 (.agg cs):=⟨aOq h.h rfl⟩
instance aWx{cs cs' c2 ds:List AC}{z off:Nat}[h1:iY cs cs'][h2:wZ cs' off c2][h3:aCc c2 z ds]:PkN true z cs off (.agg ds):=⟨by
 rw [h1.h];unfold pk
 rw [if_pos rfl,if_pos,h2.h.1,h3.h.1]
 have e1:=h3.h.2;rw [←h2.h.1,List.length_drop] at e1
 have e2:=h2.h.2;omega⟩
class aNp (cs:List AC) (c:outParam AC):Prop where h:cs[0]?=some c
instance aZw{c:AC}{cs:List AC}:aNp (c::cs) c:=⟨rfl⟩
instance aYf{c:AC}{cs R:List AC}:aNp (c::cs++R) c:=⟨rfl⟩
instance aVg{cs cs' c2:List AC}{z off:Nat}{c:AC}[h1:iY cs cs'][h2:wZ cs' off c2][h3:aNp c2 c]:PkN false z cs off (.c c):=⟨by
 rw [h1.h];unfold pk
 rw [if_neg G0]
 have e3:=h3.h;rw [←h2.h.1,List.getElem?_drop] at e3
 rw [Nat.add_zero] at e3;rw [e3];rfl⟩
class aJf (cs:List AC) (off:Nat) (ds:List AC) (r:outParam (List AC)):Prop where h:splice cs off ds=r /\ off+ds.length <= cs.length
instance aTp{cs:List AC}:aJf cs 0 [] cs:=⟨by simp [splice]⟩
instance aXl{c d:AC}{cs ds r:List AC}[h:aJf cs 0 ds r]:aJf (c::cs) 0 (d::ds) (d::r):=⟨by
 have e:=h.h;refine ⟨?_,by have:=e.2;simp at this⊢;omega⟩
 have e1:=e.1;unfold splice at e1⊢;simp at e1⊢;exact e1⟩
instance aYj{c:AC}{cs ds r:List AC}{o:Nat}[h:aJf cs o ds r]:aJf (c::cs) (o+1) ds (c::r):=⟨by
 have e:=h.h;refine ⟨?_,by have:=e.2;simp at this⊢;omega⟩
 have e1:=e.1;unfold splice at e1⊢
 rw [show o+1+ds.length=(o+ds.length)+1 by omega]
 simp only [List.take_succ_cons,List.drop_succ_cons,List.cons_append,e1]⟩
class Spl (cs:List AC) (off:Nat) (ds:List AC) (z:Nat) (r:outParam (List AC)):Prop where h:splice cs off ds=r /\ off+z <= cs.length /\ ds.length=z
instance (priority:=1200) spl_all{cs ds:List AC}{z:Nat}[h1:cZr cs z][h2:cZr ds z]:Spl cs 0 ds z ds:=⟨zC (by rw [h1.h,h2.h]),by rw [h1.h];omega,h2.h⟩
instance aT7{cs cs' ds ds' r:List AC}{off z:Nat}[h1:iY cs cs'][h2:iY ds ds'][h3:cZr ds' z][h4:aJf cs' off ds' r]:Spl cs off ds z r:=⟨by
 rw [h1.h,h2.h];have e:=h4.h;have e2:=h3.h;exact ⟨e.1,J,e2⟩⟩
class TY (P:Program) (t:TypeId) (ag:outParam Bool) (z:outParam Nat):Prop where h:(∀w,(isAgg t).run P w=.ok ag w) /\ ∀w,(sizeOf t).run P w=.ok z w
class eG (P:Program) (t:TypeId) (f:Nat) (off:outParam Nat) (ft:outParam TypeId):Prop where h:∃fs,(∀w,(underlying t).run P w=.ok (.struct fs) w) /\ fld fs f=some (off,ft)
class TSl (P:Program) (t:TypeId) (e:outParam TypeId):Prop where h:∀w,(underlying t).run P w=.ok (.slice e) w
class aRy (P:Program) (t:TypeId):Prop where h:∀w,(underlying t).run P w=.ok .string w
class eM (P:Program) (t:TypeId) (cs:outParam (List AC)):Prop where h:∃z,(∀w,(zeroValue t).run P w=.ok z w) /\ jL (cst z)=some cs
class hP (p o:Nat) (q:outParam Nat):Prop where h:p+o=q
instance (priority:=1100) addN_0{o:Nat}:hP 0 o o:=⟨Nat.zero_add o⟩
instance aYw{p:Nat}:hP p 0 p:=⟨rfl⟩
class lY (bx:List Box) (b:Nat) (A:outParam (List Box)) (T:outParam TypeId) (cs:outParam (List AC)) (B:outParam (List Box)):Prop where h:bx=A++⟨b,T,cs⟩::B
instance (priority:=1100) boxIn_hit{b:Nat}{T:TypeId}{cs:List AC}{B:List Box}:lY (⟨b,T,cs⟩::B) b [] T cs B:=⟨rfl⟩
instance aQq{x:Box}{bx A B:List Box}{b:Nat}{T:TypeId}{cs:List AC}[h:lY bx b A T cs B]:lY (x::bx) b (x::A) T cs B:=⟨by rw [h.h];rfl⟩
instance aRo{A0 bx B:List Box}{x:Box}{b:Nat}{T:TypeId}{cs:List AC}[h:lY (x::bx) b [] T cs B]:lY (A0++x::bx) b A0 T cs B:=⟨by rw [h.h];rfl⟩
instance (priority:=1200) boxIn_capp{x:Box}{A1 R A B:List Box}{b:Nat}{T:TypeId}{cs:List AC}[h:lY (x::(A1++R)) b A T cs B]:lY (x::A1++R) b A T cs B:=⟨h.h⟩
instance (priority:=1200) boxIn_napp{R A B:List Box}{b:Nat}{T:TypeId}{cs:List AC}[h:lY R b A T cs B]:lY ([]++R) b A T cs B:=⟨h.h⟩
instance (priority:=1200) boxIn_napp2{R A B:List Box}{b:Nat}{T:TypeId}{cs:List AC}[h:lY R b A T cs B]:lY (List.append [] R) b A T cs B:=⟨h.h⟩
class aDk (A ds:List Box) (r:outParam (List Box)):Prop where h:A++ds=r
instance (priority:=1100) appL_nil{ds:List Box}:aDk [] ds ds:=⟨rfl⟩
instance (priority:=1100) appL_cons{x:Box}{A ds r:List Box}[h:aDk A ds r]:aDk (x::A) ds (x::r):=⟨by rw [List.cons_append,h.h]⟩
instance aTs{A ds:List Box}:aDk A ds (A++ds):=⟨rfl⟩
class InL (b:Nat) (T:List Nat):Prop where h:b∈T
instance (priority:=1100) inL_hit{b:Nat}{T:List Nat}:InL b (b::T):=⟨G0⟩
instance aS1{b x:Nat}{T:List Nat}[h:InL b T]:InL b (x::T):=⟨List.mem_cons_of_mem _ h.h⟩
instance aWn{b:Nat}{X T:List Nat}[h:InL b T]:InL b (X++T):=⟨List.mem_append_right _ h.h⟩
instance aTm{b:Nat}{X T:List Nat}[h:InL b X]:InL b (X++T):=⟨List.mem_append_left _ h.h⟩
class aLk (b:Nat) (U:List Nat):Prop where h:b∉U
instance aRn{b:Nat}:aLk b []:=⟨G0⟩
instance aRe{b:Nat}{s:Sto}{Z:List Nat}[h:InL b Z]:aLk b (lM s Z):=⟨λhm=>(kH.1 hm).2 h.h⟩
class BIn (bx:List Box) (b:Nat):Prop where h:b∈bx.map Box.b
instance (priority:=1100) bIn_hit{b:Nat}{T:TypeId}{cs:List AC}{B:List Box}:BIn (⟨b,T,cs⟩::B) b:=⟨G0⟩
instance aTe{x:Box}{bx:List Box}{b:Nat}[h:BIn bx b]:BIn (x::bx) b:=⟨by rw [List.map_cons];exact List.mem_cons_of_mem _ h.h⟩
instance aWf{A bx:List Box}{b:Nat}[h:BIn bx b]:BIn (A++bx) b:=⟨by rw [List.map_append];exact List.mem_append_right _ h.h⟩
instance (priority:=1200) bIn_capp{x:Box}{A R:List Box}{b:Nat}[h:BIn (x::(A++R)) b]:BIn (x::A++R) b:=⟨h.h⟩
instance (priority:=1200) bIn_napp{R:List Box}{b:Nat}[h:BIn R b]:BIn ([]++R) b:=⟨h.h⟩
instance (priority:=1200) bIn_napp2{R:List Box}{b:Nat}[h:BIn R b]:BIn (List.append [] R) b:=⟨h.h⟩
class BNe (bx:List Box) (b z:Nat):Prop where h:(bx.map Box.b).Nodup -> b≠z
instance (priority:=1100) bNe_1{b z:Nat}{T:TypeId}{cs:List AC}{B:List Box}[h:BIn B z]:BNe (⟨b,T,cs⟩::B) b z:=⟨λhn he=>Dz⟩
instance (priority:=1100) bNe_2{b z:Nat}{T:TypeId}{cs:List AC}{B:List Box}[h:BIn B b]:BNe (⟨z,T,cs⟩::B) b z:=⟨λhn he=>Dz⟩
instance aTc{x:Box}{bx:List Box}{b z:Nat}[h:BNe bx b z]:BNe (x::bx) b z:=⟨λhn=>h.h (by rw [List.map_cons,List.nodup_cons] at hn;exact hn.2)⟩
instance aV9{A bx:List Box}{b z:Nat}[h:BNe bx b z]:BNe (A++bx) b z:=⟨λhn=>h.h (by rw [List.map_append] at hn;exact (List.nodup_append.1 hn).2.1)⟩
instance (priority:=1200) bNe_capp{x:Box}{A R:List Box}{b z:Nat}[h:BNe (x::(A++R)) b z]:BNe (x::A++R) b z:=⟨h.h⟩
instance (priority:=1200) bNe_napp{R:List Box}{b z:Nat}[h:BNe R b z]:BNe ([]++R) b z:=⟨h.h⟩
instance (priority:=1200) bNe_napp2{R:List Box}{b z:Nat}[h:BNe R b z]:BNe (List.append [] R) b z:=⟨h.h⟩
class aLt (bx:List Box) (b:Nat) (Z:List Nat):Prop where h:(bx.map Box.b).Nodup -> b∉Z
instance aTu{bx:List Box}{b:Nat}:aLt bx b []:=⟨λ_=>G0⟩
instance aRi{bx:List Box}{b z:Nat}{Z:List Nat}[h1:BNe bx b z][h2:aLt bx b Z]:aLt bx b (z::Z):=⟨λhn hm=>by rcases mem_cons.1 hm with e|e;exact h1.h hn e;exact h2.h hn e⟩
class aNc (bx:List Box) (rw:List bA) (T U:List Nat) (b:Nat):Prop where h:b∈T /\ ((⟨bx,rw⟩:Sto).bl.Nodup -> b∈U)
instance aY3{bx:List Box}{rw:List bA}{T:List Nat}{b:Nat}[h:InL b T]:aNc bx rw T T b:=⟨h.h,λ_=>h.h⟩
instance aYt{bx:List Box}{rw:List bA}{T Z:List Nat}{b:Nat}[h:InL b T][h2:BIn bx b][h3:aLt bx b Z]:aNc bx rw T (lM ⟨bx,rw⟩ Z) b:=⟨h.h,λhn=>kH.2 ⟨List.mem_append_left _ h2.h,h3.h (List.nodup_append.1 hn).1⟩⟩
class rF (t:AT) (cs:outParam (List AC)):Prop where h:jL t=some cs
instance aSc{x:AC}:rF (.c x) [x]:=⟨rfl⟩
instance aR0{cs:List AC}:rF (.agg cs) cs:=⟨rfl⟩
section
variable {P:Program}{U T:List Nat}{n:Nat}{s:Sto}{bx A B:List Box}{rw:List bA}{ts:List (Nat×AT)}{t u:AT}{x y:Operand}
instance aZa{b r:Bool}[h:Ev ts x (Cb b)][h2:wO b false r]{E:TypeId}:YR P U (.unOp .not E x) n T s ts (Cb r):=⟨λo ho=>by
 have e:r=!b:=by have:=h2.h;cases b<;>cases r<;>simp_all
 rw [e];exact lF ho (h.h _ _ _)⟩
instance aZr{b off:Nat}[h:Ev ts x (Cv (.pointer (some ⟨b,off,none⟩)))]:YR P U (.nilCheck x) n T s ts (Cv (.pointer (some ⟨b,off,none⟩))):=⟨λo ho=>aEd ho (h.h _ _ _)⟩
instance aTq{cs:List AC}[h:Ev ts x (.el cs)]:YR P U (.nilCheck x) n T s ts (.el cs):=⟨λo ho=>yM ho (h.h _ _ _)⟩
instance bDi{E ft:TypeId}{f b p off q z:Nat}{ag:Bool}[h:Ev ts x (Cv (.pointer (some ⟨b,p,none⟩)))][hf:eG P E f off ft][hz:TY P ft ag z][h0:LtN 0 z][hq:hP p off q]:YR P U (.fieldAddr E x f) n T s ts (Cv (.pointer (some ⟨b,q,none⟩))):=⟨λo ho=>by
 obtain ⟨fs,h1,h2⟩:=hf.h
 exact uX (ho:=ho) (hx:=h.h _ _ _) (hf:=h2) (hz:=by have:=h0.h;omega) (hq:=hq.h) off q h1 hz.h.2⟩
instance aW2{E ft:TypeId}{f off z:Nat}{cs cs' ds:List AC}{ag:Bool}[h:Ev ts x (.el cs)][hf:eG P E f off ft][hz:TY P ft ag z][h0:LtN 0 z][hc:iY cs cs'][hd:wZ cs' off ds]:YR P U (.fieldAddr E x f) n T s ts (.el ds):=⟨λo ho=>by
 obtain ⟨fs,h1,h2⟩:=hf.h
 have:=xW (P:=P) (U:=U) off ho (h.h n T s) h1 h2 hz.h.2 (by have:=h0.h;omega)
 rw [hc.h,hd.h.1] at this;exact this⟩
instance aVm{E ft:TypeId}{f off z:Nat}{cs:List AC}{ag:Bool}[h:Ev ts x (.agg cs)][hf:eG P E f off ft][hz:TY P ft ag z][hp:PkN ag z cs off t]:YR P U (.field E x f) n T s ts t:=⟨λo ho=>by
 obtain ⟨fs,h1,h2⟩:=hf.h
 exact aNn off ho (h.h _ _ _) h1 h2 hz.h.1 hz.h.2 hp.h⟩
instance bDf{E T0:TypeId}{b off z:Nat}{cs:List AC}{ag:Bool}{A B:List Box}[h:Ev ts x (Cv (.pointer (some ⟨b,off,none⟩)))][hb:lY bx b A T0 cs B][hz:TY P E ag z][hp:PkN ag z cs off t][hu:aLk b U]:YR P U (.load E x) n T ⟨bx,rw⟩ ts t:=⟨λo ho=>aX (ho:=ho) (hx:=h.h _ _ _) (hb:=hb.h) (hp:=hp.h) (hU:=λ_=>hu.h) A hz.h.1 hz.h.2⟩
instance aVl{E:TypeId}{z:Nat}{cs:List AC}{ag:Bool}[h:Ev ts x (.el cs)][hz:TY P E ag z][hp:PkN ag z cs 0 t]:YR P U (.load E x) n T s ts t:=⟨λo ho=>iP ho (h.h _ _ _) hz.h.1 hz.h.2 hp.h⟩
class aPe (l:List AT) (k:Nat) (t:outParam AT):Prop where h:l[k]?=some t
instance aX0{t:AT}{l:List AT}:aPe (t::l) 0 t:=⟨rfl⟩
instance aXz{t u:AT}{l:List AT}{k:Nat}[h:aPe l k t]:aPe (u::l) (k+1) t:=⟨E8⟩
instance aZq{k:Nat}{us:List AT}[h:Ev ts x (.tup us)][h2:aPe us k t]:YR P U (.extract x k) n T s ts t:=⟨λo ho=>aHc ho (h.h _ _ _) h2.h⟩
instance aTj{E e:TypeId}{m:Nat}{cs:List AC}[h:Ev ts x (.c (.sl m cs))][hu:TSl P E e]:YR P U (.call {callee:=.builtin .len,args:=#[x],argTypes:=#[E]}) n T s ts (nI m):=⟨λo ho=>aJl ho (h.h _ _ _) hu.h⟩
instance aUq{E e:TypeId}{m k:Nat}{p:Option Addr}[h:Ev ts x (Cv (.slice p m k))][hu:TSl P E e]:YR P U (.call {callee:=.builtin .len,args:=#[x],argTypes:=#[E]}) n T s ts (nI m):=⟨λo ho=>aHy ho (h.h _ _ _) hu.h⟩
instance aRt{E:TypeId}{b:ByteArray}[h:Ev ts x (Cs b)][hu:aRy P E]:YR P U (.call {callee:=.builtin .len,args:=#[x],argTypes:=#[E]}) n T s ts (nI b.size):=⟨λo ho=>aHt ho (h.h _ _ _) hu.h⟩
end
class aIn (ts:List (Nat×AT)) (ps:List (Nat×Operand)) (us:outParam (List (Nat×AT))):Prop where h:∀n T s,EvP ⟨n,T,s,ts⟩ ps us
instance aRl{ts:List (Nat×AT)}:aIn ts [] []:=⟨λ_ _ _=>.nil⟩
instance aQd{ts:List (Nat×AT)}{i:Nat}{x:Operand}{ps:List (Nat×Operand)}{t:AT}{us:List (Nat×AT)}[h1:Ev ts x t][h2:aIn ts ps us]:aIn ts ((i,x)::ps) ((i,t)::us):=⟨λn T s=>.cons (h1.h n T s) (h2.h n T s)⟩
class Plc (P:Program) (E:TypeId) (pl:outParam (List (Nat×Nat))) (zc:outParam (List AC)):Prop where h:∃(fs:Array Field) (i:TypeInfo) (z:Value),P.underlying E=some (.struct fs) /\ P.info? E=some i /\ i.zero=some z /\ fs.toList.mapM (λf=>(P.info? f.type).map λi=>(f.offset,i.size))=some pl /\ jL (cst z)=some zc
class aOf (l:List (Nat×Nat)) (k:Nat) (p:outParam (Nat×Nat)):Prop where h:l[k]?=some p
instance aX6{t:Nat×Nat}{l:List (Nat×Nat)}:aOf (t::l) 0 t:=⟨rfl⟩
instance aYh{t u:Nat×Nat}{l:List (Nat×Nat)}{k:Nat}[h:aOf l k t]:aOf (u::l) (k+1) t:=⟨E8⟩
class aOx (pl:List (Nat×Nat)) (zc:List AC) (us:List (Nat×AT)) (r:outParam (List AC)):Prop where h:qO (pl.toArray[·]?) zc us=some r
instance aSg{pl:List (Nat×Nat)}{zc:List AC}:aOx pl zc [] zc:=⟨rfl⟩
instance aRu{pl:List (Nat×Nat)}{zc c1 r ds:List AC}{i off z:Nat}{t:AT}{us:List (Nat×AT)}[h1:aOf pl i (off,z)][h2:rF t ds][h3:Spl zc off ds z c1][h4:aOx pl c1 us r]:aOx pl zc ((i,t)::us) r:=⟨by
 have e1:=h1.h
 have e:pl.toArray[i]?=some (off,z):=by rw [List.getElem?_toArray];exact e1
 rw [qO,e,h2.h]
 dsimp only
 rw [if_pos ⟨h3.h.2.2,h3.h.2.1⟩,h3.h.1]
 exact h4.h⟩
instance aVq{P:Program}{U T:List Nat}{n:Nat}{s:Sto}{ts:List (Nat×AT)}{E:TypeId}{ps:List (Nat×Operand)}{us:List (Nat×AT)}{pl:List (Nat×Nat)}{zc r:List AC}[h1:aIn ts ps us][h2:Plc P E pl zc][h3:aOx pl zc us r]:YR P U (.build E ps.toArray) n T s ts (.agg r):=⟨λo ho=>by
 obtain ⟨fs,i,z,e1,e2,e3,e4,e5⟩:=h2.h
 exact aNs i pl ho (h1.h _ _ _) e1 e2 e3 e4 e5 h3.h⟩
section
variable {P:Program}{U T:List Nat}{n:Nat}{s:Sto}{ts:List (Nat×AT)}{t u:AT}{Q:Exit -> AS -> Prop}{g:Prop}{K:AS -> Prop}{st:AS}{N:Nat}
instance bBq{x y:Code}[h:Go1 N (AWp P x st (sU (λs=>AWp P y s Q) Q)) g]:Go1 (N+1) (AWp P (.seq x y) st Q) g:=⟨λk=>aHp (h.out k)⟩
instance aTd{id:Nat}{l:List Oper}[h:Go1 N (eQ P l.toArray l st Q) g]:Go1 (N+1) (AWp P (.region id l.toArray false) st Q) g:=⟨λk=>aCg (h.out k)⟩
instance aUi{id:Nat}{c:Code}[h:Go1 N (AWp P c st (InB id Q)) g]:Go1 (N+1) (AWp P (.block id c) st Q) g:=⟨λk=>aM4 (h.out k)⟩
instance aY2{id:Nat}[h:Go1 N (Q (.exit id) st) g]:Go1 (N+1) (AWp P (.exit id) st Q) g:=⟨λk=>aOa (h.out k)⟩
instance bB3[h:Go1 N (Q .ret st) g]:Go1 (N+1) (AWp P .ret st Q) g:=⟨λk=>aQo (h.out k)⟩
instance aYi[h:Go1 N (Q .normal st) g]:Go1 (N+1) (AWp P .skip st Q) g:=⟨λk=>aO3 (h.out k)⟩
instance aWz{c:Operand}{x y:Code}[hc:Ev ts c (Cb true)][h:Go1 N (AWp P x ⟨n,T,s,ts⟩ Q) g]:Go1 (N+1) (AWp P (.cond c x y) ⟨n,T,s,ts⟩ Q) g:=⟨λk=>aM9 (hc.h _ _ _) rfl (h.out k)⟩
instance aVv{c:Operand}{x y:Code}[hc:Ev ts c (Cb false)][h:Go1 N (AWp P y ⟨n,T,s,ts⟩ Q) g]:Go1 (N+1) (AWp P (.cond c x y) ⟨n,T,s,ts⟩ Q) g:=⟨λk=>aMs (hc.h _ _ _) rfl (h.out k)⟩
instance aUh[h:Go1 N (K st) g]:Go1 (N+1) (sU K Q .normal st) g:=⟨λk=>h.out k⟩
instance aU2[h:Go1 N (Q .ret st) g]:Go1 (N+1) (sU K Q .ret st) g:=⟨λk=>h.out k⟩
instance aWq{id:Nat}[h:Go1 N (Q (.exit id) st) g]:Go1 (N+1) (sU K Q (.exit id) st) g:=⟨λk=>h.out k⟩
instance aZy{id:Nat}[h:Go1 N (Q .normal st) g]:Go1 (N+1) (InB id Q .normal st) g:=⟨λk=>h.out k⟩
instance aZt{id:Nat}[h:Go1 N (Q .ret st) g]:Go1 (N+1) (InB id Q .ret st) g:=⟨λk=>h.out k⟩
instance (priority:=1100) g_inE{id:Nat}[h:Go1 N (Q .normal st) g]:Go1 (N+1) (InB id Q (.exit id) st) g:=⟨λk=>aLr (h.out k)⟩
instance bCa{id id':Nat}[hn:NeN id' id][h:Go1 N (Q (.exit id') st) g]:Go1 (N+1) (InB id Q (.exit id') st) g:=⟨λk=>aK1 hn.h (h.out k)⟩
instance bA6{ops:Array Oper}[h:Go1 N (Q .normal st) g]:Go1 (N+1) (eQ P ops [] st Q) g:=⟨λk=>aD1 (h.out k)⟩
instance aYn{l0 l:List Oper}{d:Nat}{op:Op}{ty:TypeId}{pos:String}{af:Array Edge}{gd:Option (Nat×Bool)}{r:Bool}[h1:aBx l0 ts gd r][h2:aH9 r P [] op n T s ts t][h3:LtN d n][h:Go1 N (eQ P l0.toArray l ⟨n,T,s,(d,t)::ts⟩ Q) g]:Go1 (N+1) (eQ P l0.toArray (⟨some d,op,ty,pos,af,gd⟩::l) ⟨n,T,s,ts⟩ Q) g:=⟨λk=>by
 cases r with
 |true=>exact wy (h1.h _ _ _ _ rfl) rfl h3.h (h2.h.1 rfl _ rfl) (h.out k)
 |false=>obtain rfl:=h2.h.2 rfl;exact aSb (h1.h _ _ _ _ rfl) rfl h3.h (h.out k)⟩
instance aUk{l0 l:List Oper}{d:Nat}{E:TypeId}{ty:TypeId}{pos:String}{af:Array Edge}{cs:List AC}{bx:List Box}{rw:List bA}{G:Nat -> Prop}[h1:eM P E cs][h3:LtN d n][h:∀b,Go1 N (eQ P l0.toArray l ⟨n,b::T,⟨⟨b,E,cs⟩::bx,rw⟩,(d,pP b)::ts⟩ Q) (G b)]:Go1 (N+1) (eQ P l0.toArray (⟨some d,.alloc E,ty,pos,af,none⟩::l) ⟨n,T,⟨bx,rw⟩,ts⟩ Q) (∀b,G b):=⟨λk=>by
 obtain ⟨z,e1,e2⟩:=h1.h
 exact wo Y (jK Y Y h3.h e1 e2 λb=>(h b).out (k b))⟩
instance bB7{l0 l:List Oper}{d:Nat}{E:TypeId}{x:Operand}{ty:TypeId}{pos:String}{af:Array Edge}{cs:List AC}{bx:List Box}{rw:List bA}{G:Nat -> Prop}[h1:Ev ts x t][h2:rF t cs][h3:LtN d n][h:∀b,Go1 N (eQ P l0.toArray l ⟨n,b::T,⟨⟨b,E,cs⟩::bx,rw⟩,(d,pP b)::ts⟩ Q) (G b)]:Go1 (N+1) (eQ P l0.toArray (⟨some d,.box E x,ty,pos,af,none⟩::l) ⟨n,T,⟨bx,rw⟩,ts⟩ Q) (∀b,G b):=⟨λk=>wo rfl (aSn rfl rfl h3.h (h1.h _ _ _) h2.h λb=>(h b).out (k b))⟩
instance aW4{l0 l:List Oper}{E T0:TypeId}{x y:Operand}{ty:TypeId}{pos:String}{af:Array Edge}{gd:Option (Nat×Bool)}{b off z:Nat}{cs ds r:List AC}{ag:Bool}{bx A B:List Box}{rw:List bA}[h0:aBx l0 ts gd true][h1:Ev ts x (Cv (.pointer (some ⟨b,off,none⟩)))][h2:Ev ts y t][h3:rF t ds][h4:lY bx b A T0 cs B][h5:TY P E ag z][h6:Spl cs off ds z r]{bx2:List Box}[h7:aNc bx rw T T b][h8:aDk A (⟨b,T0,r⟩::B) bx2][h:Go1 N (eQ P l0.toArray l ⟨n,T,⟨bx2,rw⟩,ts⟩ Q) g]:Go1 (N+1) (eQ P l0.toArray (⟨none,.store E x y,ty,pos,af,gd⟩::l) ⟨n,T,⟨bx,rw⟩,ts⟩ Q) g:=⟨λk=>
 wo (h0.h _ _ _ _ rfl) (zQ A rfl rfl (h1.h _ _ _) (h2.h _ _ _) h3.h h4.h h5.h.2 h6.h.2.2 h6.h.2.1 h6.h.1 h7.h.1 h7.h.2 Ek)⟩
end
def vB(P:Program)(ops:Array Oper)(Z:List Nat):List (Nat×Bool) -> AS -> (AS -> Prop) -> Prop
 |[],st,K=>K st
 |(i,true)::r,st,K=>∃o d,ops.toList[i]?=some o /\ o.dst=some d /\ d<st.n /\ ((∃t,fC ops o st=some true /\ AY P (lM st.s Z) o st t /\ vB P ops Z r {st with ts:=(d,t)::st.ts} K)∨(fC ops o st=some false /\ vB P ops Z r {st with ts:=(d,.raw undef)::st.ts} K))
 |(i,false)::r,st,K=>∃o,ops.toList[i]?=some o /\ fC ops o st=some true /\ AO P (lM st.s Z) o st λs=>vB P ops Z r s K
def aBb(ops:Array Oper):Array Bool -> List (Nat×Bool) -> Bool
 |_,[]=>true
 |L,(i,true)::r=>(Region.ready .any ops L).contains i && Region.free .any ops L i && aBb ops (L.setIfInBounds i true) r
 |L,(i,false)::r=>decide (Region.ready .any ops L=[i]) && aBb ops (L.setIfInBounds i true) r
def aDe:Array Bool -> List (Nat×Bool) -> Array Bool
 |L,[]=>L
 |L,(i,_)::r=>aDe (L.setIfInBounds i true) r
theorem vR{P:Program}{ops:Array Oper}{Z:List Nat}{Q:AS -> Prop}(hsel:Region.noSelect ops=true)(F:Nat):∀(run:List (Nat×Bool)) (listed:Array Bool) (st:AS),aBb ops listed run=true -> vB P ops Z run st (λst'=>lD P ops Z F (aDe listed run) st' Q) -> lD P ops Z (F+run.length) listed st Q
 |[],_,_,_,h=>h
 |(i,true)::r,listed,st,hc,h=>by
  simp only [aBb,Bool.and_eq_true] at hc
  obtain ⟨o,d,h1,h2,h3,h4⟩:=h
  rcases h4 with ⟨t,h5,h6,h7⟩|⟨h5,h7⟩
  ·exact aD2 i hc.1.1 h1 hc.1.2 hsel h5 h2 h3 h6 (vR hsel F r _ _ hc.2 h7)
  ·exact aM6 i hc.1.1 h1 hc.1.2 hsel h5 h2 h3 (vR hsel F r _ _ hc.2 h7)
 |(i,false)::r,listed,st,hc,h=>by
  simp only [aBb,Bool.and_eq_true,decide_eq_true_eq] at hc
  obtain ⟨o,h1,h2,h3⟩:=h
  refine uU hc.1 Y (nJ h1 h2 (λa w hs KK QQ hK=>h3 a w hs KK QQ λa' w' st' q=>hK a' w' st' (vR hsel F r _ _ hc.2 q)) pO)
theorem tks{P:Program}{ops:Array Oper}{Z:List Nat}{Q:AS -> Prop}{st:AS}{F0:Nat}{listed:Array Bool}(run:List (Nat×Bool))(F:Nat)(hc:(aBb ops listed run && Region.noSelect ops && F0 == F+run.length)=true)(h:vB P ops Z run st (λst'=>lD P ops Z F (aDe listed run) st' Q)):lD P ops Z F0 listed st Q:=by
 simp only [Bool.and_eq_true,beq_iff_eq] at hc
 rw [hc.2]
 exact vR hc.1.2 F run listed st hc.1.1 h
class aGu (l:List Oper) (i:Nat) (d:outParam (Option Nat)) (op:outParam Op) (gd:outParam (Option (Nat×Bool))):Prop where h:∃o:Oper,l[i]?=some o /\ o.dst=d /\ o.op=op /\ o.guard=gd
instance aY4{d:Option Nat}{op:Op}{ty:TypeId}{pos:String}{af:Array Edge}{gd:Option (Nat×Bool)}{l:List Oper}:aGu (⟨d,op,ty,pos,af,gd⟩::l) 0 d op gd:=⟨_,rfl,rfl,rfl,rfl⟩
instance aYz{d:Option Nat}{op:Op}{gd:Option (Nat×Bool)}{l:List Oper}{o:Oper}{i:Nat}[h:aGu l i d op gd]:aGu (o::l) (i+1) d op gd:=⟨E8⟩
section
variable {P:Program}{Z T:List Nat}{n:Nat}{s:Sto}{ts:List (Nat×AT)}{t u:AT}{g:Prop}{K:AS -> Prop}{st:AS}{N:Nat}{bx A B:List Box}{rw:List bA}{l0:List Oper}{i:Nat}{run:List (Nat×Bool)}{gd:Option (Nat×Bool)}
instance aXq{ops:Array Oper}[h:Go1 N (K st) g]:Go1 (N+1) (vB P ops Z [] st K) g:=⟨λk=>h.out k⟩
instance bCs{d:Nat}{op:Op}{r:Bool}[h0:aGu l0 i (some d) op gd][h1:aBx l0 ts gd r][h2:aH9 r P (lM s Z) op n T s ts t][h3:LtN d n][h:Go1 N (vB P l0.toArray Z run ⟨n,T,s,(d,t)::ts⟩ K) g]:Go1 (N+1) (vB P l0.toArray Z ((i,true)::run) ⟨n,T,s,ts⟩ K) g:=⟨λk=>by
 obtain ⟨o,e1,e2,e3,e4⟩:=h0.h
 refine ⟨o,d,EK,e2,h3.h,?_⟩
 cases r with
 |true=>exact .inl ⟨t,h1.h _ _ _ o e4,h2.h.1 rfl o e3,h.out k⟩
 |false=>obtain rfl:=h2.h.2 rfl;exact .inr ⟨h1.h _ _ _ o e4,h.out k⟩⟩
instance aSf{E T0:TypeId}{x y:Operand}{b off z:Nat}{cs ds r:List AC}{ag:Bool}[hi:aGu l0 i none (.store E x y) gd][h0:aBx l0 ts gd true][h1:Ev ts x (Cv (.pointer (some ⟨b,off,none⟩)))][h2:Ev ts y t][h3:rF t ds][h4:lY bx b A T0 cs B][h5:TY P E ag z][h6:Spl cs off ds z r]{bx2:List Box}[h7:aNc bx rw T (lM ⟨bx,rw⟩ Z) b][h8:aDk A (⟨b,T0,r⟩::B) bx2][h:Go1 N (vB P l0.toArray Z run ⟨n,T,⟨bx2,rw⟩,ts⟩ K) g]:Go1 (N+1) (vB P l0.toArray Z ((i,false)::run) ⟨n,T,⟨bx,rw⟩,ts⟩ K) g:=⟨λk=>by
 obtain ⟨o,e1,e2,e3,e4⟩:=hi.h
 exact ⟨o,EK,h0.h _ _ _ o e4,zQ A e3 e2 (h1.h _ _ _) (h2.h _ _ _) h3.h h4.h h5.h.2 h6.h.2.2 h6.h.2.1 h6.h.1 h7.h.1 h7.h.2 Ek⟩⟩
instance aT1{d:Nat}{E:TypeId}{cs:List AC}{G:Nat -> Prop}[hi:aGu l0 i (some d) (.alloc E) none][h1:eM P E cs][h3:LtN d n][h:∀b,Go1 N (vB P l0.toArray Z run ⟨n,b::T,⟨⟨b,E,cs⟩::bx,rw⟩,(d,pP b)::ts⟩ K) (G b)]:Go1 (N+1) (vB P l0.toArray Z ((i,false)::run) ⟨n,T,⟨bx,rw⟩,ts⟩ K) (∀b,G b):=⟨λk=>by
 obtain ⟨o,e1,e2,e3,e4⟩:=hi.h
 obtain ⟨z,z1,z2⟩:=h1.h
 exact ⟨o,EK,by unfold fC;rw [e4],jK e3 e2 h3.h z1 z2 λb=>(h b).out (k b)⟩⟩
instance aYq{d:Nat}{E:TypeId}{x:Operand}{cs:List AC}{G:Nat -> Prop}[hi:aGu l0 i (some d) (.box E x) none][h1:Ev ts x t][h2:rF t cs][h3:LtN d n][h:∀b,Go1 N (vB P l0.toArray Z run ⟨n,b::T,⟨⟨b,E,cs⟩::bx,rw⟩,(d,pP b)::ts⟩ K) (G b)]:Go1 (N+1) (vB P l0.toArray Z ((i,false)::run) ⟨n,T,⟨bx,rw⟩,ts⟩ K) (∀b,G b):=⟨λk=>by
 obtain ⟨o,e1,e2,e3,e4⟩:=hi.h
 exact ⟨o,EK,by unfold fC;rw [e4],aSn e3 e2 h3.h (h1.h _ _ _) h2.h λb=>(h b).out (k b)⟩⟩
end
end
section
open Go.RowKit
instance bCw:TY prog 2 false 1:=⟨isAgg2,sizeOf2⟩
instance bCx:eM prog 2 [Vi 0]:=⟨_,zeroValue2,rfl⟩
instance bCu:TY prog 3 false 1:=⟨isAgg3,sizeOf3⟩
instance bC3:eM prog 3 [Vi 0]:=⟨_,zeroValue3,rfl⟩
instance bCr:TY prog 4 false 1:=⟨isAgg4,sizeOf4⟩
instance bDa:eM prog 4 [Vb false]:=⟨_,zeroValue4,rfl⟩
instance bC0:TY prog 5 false 1:=⟨isAgg5,sizeOf5⟩
instance bCt:eM prog 5 [.val (.int .u8 0)]:=⟨_,zeroValue5,rfl⟩
instance bDc:TY prog 9 false 1:=⟨isAgg9,sizeOf9⟩
instance aXn:aRy prog 9:=⟨runUnderlying9⟩
instance bC6:eM prog 9 [Vs ⟨#[]⟩]:=⟨_,zeroValue9,rfl⟩
instance bCz:TY prog 12 false 1:=⟨isAgg12,sizeOf12⟩
instance bDb:eM prog 12 [.val (.int .u64 0)]:=⟨_,zeroValue12,rfl⟩
instance bC8:TY prog 19 true 1:=⟨isAgg19,sizeOf19⟩
instance aX2:eG prog 19 0 0 17:=⟨_,runUnderlying19,rfl⟩
instance bCv:eM prog 19 [.val (.pointer none)]:=⟨_,zeroValue19,rfl⟩
instance bCy:Plc prog 19 [(0,1)] [.val (.pointer none)]:=⟨_,Tryz.t19,_,underlying19,B6,rfl,B6,rfl⟩
instance bC4:TY prog 21 false 1:=⟨isAgg21,sizeOf21⟩
instance bC7:eM prog 21 [.val (.int .i32 0)]:=⟨_,zeroValue21,rfl⟩
instance bC5:TY prog 22 false 1:=⟨isAgg22,sizeOf22⟩
instance bBu:TSl prog 22 3:=⟨runUnderlying22⟩
instance bDe:eM prog 22 [Nl]:=⟨_,zeroValue22,rfl⟩
instance bC2:TY prog 23 false 1:=⟨isAgg23,sizeOf23⟩
instance bAd:TSl prog 23 63:=⟨runUnderlying23⟩
instance bDd:eM prog 23 [Nl]:=⟨_,zeroValue23,rfl⟩
instance aZ8:TY prog 24 false 1:=⟨isAgg24,sizeOf24⟩
instance aX8:TSl prog 24 60:=⟨runUnderlying24⟩
instance bB9:eM prog 24 [Nl]:=⟨_,zeroValue24,rfl⟩
instance bB6:TY prog 25 false 1:=⟨isAgg25,sizeOf25⟩
instance bXh:TSl prog 25 67:=⟨runUnderlying25⟩
instance bAb:eM prog 25 [Nl]:=⟨_,zeroValue25,rfl⟩
instance aZz:TY prog 27 true 3:=⟨isAgg27,sizeOf27⟩
instance cM5:eG prog 27 0 0 23:=⟨_,runUnderlying27,rfl⟩
instance cMm:eG prog 27 1 1 24:=⟨_,runUnderlying27,rfl⟩
instance cMt:eG prog 27 2 2 25:=⟨_,runUnderlying27,rfl⟩
instance bAs:eM prog 27 [Nl,Nl,Nl]:=⟨_,zeroValue27,rfl⟩
instance cOi:Plc prog 27 [(0,1),(1,1),(2,1)] [Nl,Nl,Nl]:=⟨_,Tryz.t27,_,underlying27,B6,rfl,B6,rfl⟩
instance bA3:TY prog 29 false 1:=⟨isAgg29,sizeOf29⟩
instance aXt:TSl prog 29 79:=⟨runUnderlying29⟩
instance bCn:eM prog 29 [Nl]:=⟨_,zeroValue29,rfl⟩
instance aZh:TY prog 31 true 4:=⟨isAgg31,sizeOf31⟩
instance cP2:eG prog 31 0 0 22:=⟨_,runUnderlying31,rfl⟩
instance cP0:eG prog 31 1 1 24:=⟨_,runUnderlying31,rfl⟩
instance dF0:eG prog 31 2 2 29:=⟨_,runUnderlying31,rfl⟩
instance dFy:eG prog 31 3 3 3:=⟨_,runUnderlying31,rfl⟩
instance bAn:eM prog 31 [Nl,Nl,Nl,Vi 0]:=⟨_,zeroValue31,rfl⟩
instance cP5:Plc prog 31 [(0,1),(1,1),(2,1),(3,1)] [Nl,Nl,Nl,Vi 0]:=⟨_,Tryz.t31,_,underlying31,B6,rfl,B6,rfl⟩
instance bAx:TY prog 32 false 1:=⟨isAgg32,sizeOf32⟩
instance bAk:eM prog 32 [Vi 0]:=⟨_,zeroValue32,rfl⟩
instance aZc:TY prog 48 false 1:=⟨isAgg48,sizeOf48⟩
instance aZd:eM prog 48 [.val (.int .u64 0)]:=⟨_,zeroValue48,rfl⟩
instance bBs:TY prog 50 false 1:=⟨isAgg50,sizeOf50⟩
instance bBk:TY prog 51 false 1:=⟨isAgg51,sizeOf51⟩
instance aZe:TY prog 54 true 2:=⟨isAgg54,sizeOf54⟩
instance bWp:eG prog 54 0 0 22:=⟨_,runUnderlying54,rfl⟩
instance bWs:eG prog 54 1 1 3:=⟨_,runUnderlying54,rfl⟩
instance bCd:eM prog 54 [Nl,Vi 0]:=⟨_,zeroValue54,rfl⟩
instance bXn:Plc prog 54 [(0,1),(1,1)] [Nl,Vi 0]:=⟨_,Tryz.t54,_,underlying54,B6,rfl,B6,rfl⟩
instance bAe:TY prog 56 true 6:=⟨isAgg56,sizeOf56⟩
instance aXj:eG prog 56 0 0 51:=⟨_,runUnderlying56,rfl⟩
instance aVx:eG prog 56 1 1 27:=⟨_,runUnderlying56,rfl⟩
instance aVt:eG prog 56 2 4 3:=⟨_,runUnderlying56,rfl⟩
instance cNt:eG prog 56 3 5 4:=⟨_,runUnderlying56,rfl⟩
instance aZb:eM prog 56 [.val (.pointer none),Nl,Nl,Nl,Vi 0,Vb false]:=⟨_,zeroValue56,rfl⟩
instance bAl:Plc prog 56 [(0,1),(1,3),(4,1),(5,1)] [.val (.pointer none),Nl,Nl,Nl,Vi 0,Vb false]:=⟨_,Tryz.t56,_,underlying56,B6,rfl,B6,rfl⟩
instance bBh:TY prog 58 false 1:=⟨isAgg58,sizeOf58⟩
instance cN7:TSl prog 58 5:=⟨runUnderlying58⟩
instance bJy:eM prog 58 [Nl]:=⟨_,zeroValue58,rfl⟩
instance bBo:TY prog 60 true 3:=⟨isAgg60,sizeOf60⟩
instance bH6:eG prog 60 0 0 9:=⟨_,runUnderlying60,rfl⟩
instance bIr:eG prog 60 1 1 4:=⟨_,runUnderlying60,rfl⟩
instance bH4:eG prog 60 2 2 3:=⟨_,runUnderlying60,rfl⟩
instance bJ2:eM prog 60 [Vs ⟨#[]⟩,Vb false,Vi 0]:=⟨_,zeroValue60,rfl⟩
instance bKt:Plc prog 60 [(0,1),(1,1),(2,1)] [Vs ⟨#[]⟩,Vb false,Vi 0]:=⟨_,Tryz.t60,_,underlying60,B6,rfl,B6,rfl⟩
instance bAt:TY prog 61 false 1:=⟨isAgg61,sizeOf61⟩
instance dF8:TSl prog 61 9:=⟨runUnderlying61⟩
instance bB2:eM prog 61 [Nl]:=⟨_,zeroValue61,rfl⟩
instance bBn:TY prog 63 true 2:=⟨isAgg63,sizeOf63⟩
instance aWb:eG prog 63 0 0 9:=⟨_,runUnderlying63,rfl⟩
instance aU5:eG prog 63 1 1 3:=⟨_,runUnderlying63,rfl⟩
instance bAi:eM prog 63 [Vs ⟨#[]⟩,Vi 0]:=⟨_,zeroValue63,rfl⟩
instance bCi:Plc prog 63 [(0,1),(1,1)] [Vs ⟨#[]⟩,Vi 0]:=⟨_,Tryz.t63,_,underlying63,B6,rfl,B6,rfl⟩
instance bBp:TY prog 64 false 1:=⟨isAgg64,sizeOf64⟩
instance bXi:TSl prog 64 69:=⟨runUnderlying64⟩
instance bCm:eM prog 64 [Nl]:=⟨_,zeroValue64,rfl⟩
instance bBv:TY prog 65 false 1:=⟨isAgg65,sizeOf65⟩
instance dGa:TSl prog 65 120:=⟨runUnderlying65⟩
instance aZs:eM prog 65 [Nl]:=⟨_,zeroValue65,rfl⟩
instance bCo:TY prog 67 true 3:=⟨isAgg67,sizeOf67⟩
instance aWp:eG prog 67 0 0 9:=⟨_,runUnderlying67,rfl⟩
instance aUo:eG prog 67 1 1 64:=⟨_,runUnderlying67,rfl⟩
instance bHt:eG prog 67 2 2 65:=⟨_,runUnderlying67,rfl⟩
instance aZ2:eM prog 67 [Vs ⟨#[]⟩,Nl,Nl]:=⟨_,zeroValue67,rfl⟩
instance bBj:Plc prog 67 [(0,1),(1,1),(2,1)] [Vs ⟨#[]⟩,Nl,Nl]:=⟨_,Tryz.t67,_,underlying67,B6,rfl,B6,rfl⟩
instance bBr:TY prog 69 true 2:=⟨isAgg69,sizeOf69⟩
instance cNs:eG prog 69 0 0 9:=⟨_,runUnderlying69,rfl⟩
instance cMu:eG prog 69 1 1 4:=⟨_,runUnderlying69,rfl⟩
instance bKq:eM prog 69 [Vs ⟨#[]⟩,Vb false]:=⟨_,zeroValue69,rfl⟩
instance cOg:Plc prog 69 [(0,1),(1,1)] [Vs ⟨#[]⟩,Vb false]:=⟨_,Tryz.t69,_,underlying69,B6,rfl,B6,rfl⟩
instance bAw:TY prog 71 false 1:=⟨isAgg71,sizeOf71⟩
instance bBc:TY prog 74 false 1:=⟨isAgg74,sizeOf74⟩
instance bAr:TY prog 75 false 1:=⟨isAgg75,sizeOf75⟩
instance bJq:TSl prog 75 92:=⟨runUnderlying75⟩
instance bJ7:eM prog 75 [Nl]:=⟨_,zeroValue75,rfl⟩
instance bAy:TY prog 77 true 9:=⟨isAgg77,sizeOf77⟩
instance bHl:eG prog 77 0 0 74:=⟨_,runUnderlying77,rfl⟩
instance bHu:eG prog 77 1 1 74:=⟨_,runUnderlying77,rfl⟩
instance bHk:eG prog 77 2 2 74:=⟨_,runUnderlying77,rfl⟩
instance bH9:eG prog 77 3 3 74:=⟨_,runUnderlying77,rfl⟩
instance bHx:eG prog 77 4 4 74:=⟨_,runUnderlying77,rfl⟩
instance bJe:eG prog 77 5 5 3:=⟨_,runUnderlying77,rfl⟩
instance bIy:eG prog 77 6 6 75:=⟨_,runUnderlying77,rfl⟩
instance dFz:eG prog 77 7 7 22:=⟨_,runUnderlying77,rfl⟩
instance dF3:eG prog 77 8 8 3:=⟨_,runUnderlying77,rfl⟩
instance bBe:TY prog 79 true 5:=⟨isAgg79,sizeOf79⟩
instance aUj:eG prog 79 0 0 9:=⟨_,runUnderlying79,rfl⟩
instance aVu:eG prog 79 1 1 3:=⟨_,runUnderlying79,rfl⟩
instance aV6:eG prog 79 2 2 3:=⟨_,runUnderlying79,rfl⟩
instance aWv:eG prog 79 3 3 3:=⟨_,runUnderlying79,rfl⟩
instance aVi:eG prog 79 4 4 75:=⟨_,runUnderlying79,rfl⟩
instance aZ3:eM prog 79 [Vs ⟨#[]⟩,Vi 0,Vi 0,Vi 0,Nl]:=⟨_,zeroValue79,rfl⟩
instance bBl:Plc prog 79 [(0,1),(1,1),(2,1),(3,1),(4,1)] [Vs ⟨#[]⟩,Vi 0,Vi 0,Vi 0,Nl]:=⟨_,Tryz.t79,_,underlying79,B6,rfl,B6,rfl⟩
instance bA1:TY prog 85 false 1:=⟨isAgg85,sizeOf85⟩
instance aXx:TSl prog 85 87:=⟨runUnderlying85⟩
instance bBw:eM prog 85 [Nl]:=⟨_,zeroValue85,rfl⟩
instance bCe:TY prog 87 true 4:=⟨isAgg87,sizeOf87⟩
instance aW5:eG prog 87 0 0 3:=⟨_,runUnderlying87,rfl⟩
instance aVz:eG prog 87 1 1 3:=⟨_,runUnderlying87,rfl⟩
instance aUp:eG prog 87 2 2 9:=⟨_,runUnderlying87,rfl⟩
instance aWs:eG prog 87 3 3 85:=⟨_,runUnderlying87,rfl⟩
instance bBa:eM prog 87 [Vi 0,Vi 0,Vs ⟨#[]⟩,Nl]:=⟨_,zeroValue87,rfl⟩
instance aZn:Plc prog 87 [(0,1),(1,1),(2,1),(3,1)] [Vi 0,Vi 0,Vs ⟨#[]⟩,Nl]:=⟨_,Tryz.t87,_,underlying87,B6,rfl,B6,rfl⟩
instance bBd:TY prog 89 true 3:=⟨isAgg89,sizeOf89⟩
instance aU7:eG prog 89 0 0 4:=⟨_,runUnderlying89,rfl⟩
instance aXd:eG prog 89 1 1 3:=⟨_,runUnderlying89,rfl⟩
instance cMh:eG prog 89 2 2 85:=⟨_,runUnderlying89,rfl⟩
instance aZp:eM prog 89 [Vb false,Vi 0,Nl]:=⟨_,zeroValue89,rfl⟩
instance bAp:Plc prog 89 [(0,1),(1,1),(2,1)] [Vb false,Vi 0,Nl]:=⟨_,Tryz.t89,_,underlying89,B6,rfl,B6,rfl⟩
instance bAu:TY prog 90 false 1:=⟨isAgg90,sizeOf90⟩
instance aXo:TSl prog 90 89:=⟨runUnderlying90⟩
instance bBz:eM prog 90 [Nl]:=⟨_,zeroValue90,rfl⟩
instance bCg:TY prog 92 true 12:=⟨isAgg92,sizeOf92⟩
instance aWj:eG prog 92 0 0 3:=⟨_,runUnderlying92,rfl⟩
instance aUu:eG prog 92 1 1 3:=⟨_,runUnderlying92,rfl⟩
instance aWi:eG prog 92 2 2 4:=⟨_,runUnderlying92,rfl⟩
instance aUt:eG prog 92 3 3 87:=⟨_,runUnderlying92,rfl⟩
instance aVh:eG prog 92 4 7 89:=⟨_,runUnderlying92,rfl⟩
instance aUw:eG prog 92 5 10 85:=⟨_,runUnderlying92,rfl⟩
instance aU4:eG prog 92 6 11 90:=⟨_,runUnderlying92,rfl⟩
instance bAv:eM prog 92 [Vi 0,Vi 0,Vb false,Vi 0,Vi 0,Vs ⟨#[]⟩,Nl,Vb false,Vi 0,Nl,Nl,Nl]:=⟨_,zeroValue92,rfl⟩
instance bBf:Plc prog 92 [(0,1),(1,1),(2,1),(3,4),(7,3),(10,1),(11,1)] [Vi 0,Vi 0,Vb false,Vi 0,Vi 0,Vs ⟨#[]⟩,Nl,Vb false,Vi 0,Nl,Nl,Nl]:=⟨_,Tryz.t92,_,underlying92,B6,rfl,B6,rfl⟩
instance bAm:TY prog 94 false 1:=⟨isAgg94,sizeOf94⟩
instance aZi:TY prog 95 false 1:=⟨isAgg95,sizeOf95⟩
instance bCq:TY prog 96 false 1:=⟨isAgg96,sizeOf96⟩
instance bB1:TY prog 98 true 7:=⟨isAgg98,sizeOf98⟩
instance bI8:eG prog 98 0 0 27:=⟨_,runUnderlying98,rfl⟩
instance bJh:eG prog 98 1 3 95:=⟨_,runUnderlying98,rfl⟩
instance bI2:eG prog 98 2 4 96:=⟨_,runUnderlying98,rfl⟩
instance bIj:eG prog 98 3 5 3:=⟨_,runUnderlying98,rfl⟩
instance bH1:eG prog 98 4 6 3:=⟨_,runUnderlying98,rfl⟩
instance bAj:TY prog 107 false 1:=⟨isAgg107,sizeOf107⟩
instance dF6:TSl prog 107 111:=⟨runUnderlying107⟩
instance cYw:eM prog 107 [Nl]:=⟨_,zeroValue107,rfl⟩
instance bB4:TY prog 111 true 3:=⟨isAgg111,sizeOf111⟩
instance cMr:eG prog 111 0 0 9:=⟨_,runUnderlying111,rfl⟩
instance cNn:eG prog 111 1 1 3:=⟨_,runUnderlying111,rfl⟩
instance cNr:eG prog 111 2 2 3:=⟨_,runUnderlying111,rfl⟩
instance cYt:eM prog 111 [Vs ⟨#[]⟩,Vi 0,Vi 0]:=⟨_,zeroValue111,rfl⟩
instance cY2:Plc prog 111 [(0,1),(1,1),(2,1)] [Vs ⟨#[]⟩,Vi 0,Vi 0]:=⟨_,Tryz.t111,_,underlying111,B6,rfl,B6,rfl⟩
instance aZg:TY prog 117 true 2:=⟨isAgg117,sizeOf117⟩
instance bJa:eG prog 117 0 0 9:=⟨_,runUnderlying117,rfl⟩
instance bIt:eG prog 117 1 1 85:=⟨_,runUnderlying117,rfl⟩
instance bKe:eM prog 117 [Vs ⟨#[]⟩,Nl]:=⟨_,zeroValue117,rfl⟩
instance bKa:Plc prog 117 [(0,1),(1,1)] [Vs ⟨#[]⟩,Nl]:=⟨_,Tryz.t117,_,underlying117,B6,rfl,B6,rfl⟩
instance bCl:TY prog 118 false 1:=⟨isAgg118,sizeOf118⟩
instance dF5:TSl prog 118 135:=⟨runUnderlying118⟩
instance bA2:eM prog 118 [Nl]:=⟨_,zeroValue118,rfl⟩
instance bAh:TY prog 120 true 11:=⟨isAgg120,sizeOf120⟩
instance aXi:eG prog 120 0 0 3:=⟨_,runUnderlying120,rfl⟩
instance aUe:eG prog 120 1 1 9:=⟨_,runUnderlying120,rfl⟩
instance bHm:eG prog 120 2 2 87:=⟨_,runUnderlying120,rfl⟩
instance cNl:eG prog 120 3 6 117:=⟨_,runUnderlying120,rfl⟩
instance cMk:eG prog 120 4 8 118:=⟨_,runUnderlying120,rfl⟩
instance cM6:eG prog 120 5 9 65:=⟨_,runUnderlying120,rfl⟩
instance cNq:eG prog 120 6 10 65:=⟨_,runUnderlying120,rfl⟩
instance bA4:eM prog 120 [Vi 0,Vs ⟨#[]⟩,Vi 0,Vi 0,Vs ⟨#[]⟩,Nl,Vs ⟨#[]⟩,Nl,Nl,Nl,Nl]:=⟨_,zeroValue120,rfl⟩
instance bBm:Plc prog 120 [(0,1),(1,1),(2,4),(6,2),(8,1),(9,1),(10,1)] [Vi 0,Vs ⟨#[]⟩,Vi 0,Vi 0,Vs ⟨#[]⟩,Nl,Vs ⟨#[]⟩,Nl,Nl,Nl,Nl]:=⟨_,Tryz.t120,_,underlying120,B6,rfl,B6,rfl⟩
instance bCj:TY prog 135 true 7:=⟨isAgg135,sizeOf135⟩
instance cWh:eG prog 135 0 0 4:=⟨_,runUnderlying135,rfl⟩
instance cXz:eG prog 135 1 1 117:=⟨_,runUnderlying135,rfl⟩
instance cWs:eG prog 135 2 3 87:=⟨_,runUnderlying135,rfl⟩
instance bAz:eM prog 135 [Vb false,Vs ⟨#[]⟩,Nl,Vi 0,Vi 0,Vs ⟨#[]⟩,Nl]:=⟨_,zeroValue135,rfl⟩
instance dGc:Plc prog 135 [(0,1),(1,2),(3,4)] [Vb false,Vs ⟨#[]⟩,Nl,Vi 0,Vi 0,Vs ⟨#[]⟩,Nl]:=⟨_,Tryz.t135,_,underlying135,B6,rfl,B6,rfl⟩
instance bA0:TY prog 139 false 1:=⟨isAgg139,sizeOf139⟩
instance bJp:TSl prog 139 154:=⟨runUnderlying139⟩
instance aZx:eM prog 139 [Nl]:=⟨_,zeroValue139,rfl⟩
instance aZ7:TY prog 142 false 1:=⟨isAgg142,sizeOf142⟩
instance bB8:TY prog 144 true 6:=⟨isAgg144,sizeOf144⟩
instance cWv:eG prog 144 0 0 139:=⟨_,runUnderlying144,rfl⟩
instance cXq:eG prog 144 1 1 3:=⟨_,runUnderlying144,rfl⟩
instance cXo:eG prog 144 2 2 3:=⟨_,runUnderlying144,rfl⟩
instance cWp:eG prog 144 3 3 32:=⟨_,runUnderlying144,rfl⟩
instance cXm:eG prog 144 4 4 3:=⟨_,runUnderlying144,rfl⟩
instance cXc:eG prog 144 5 5 3:=⟨_,runUnderlying144,rfl⟩
instance cOo:eM prog 144 [Nl,Vi 0,Vi 0,Vi 0,Vi 0,Vi 0]:=⟨_,zeroValue144,rfl⟩
instance dGb:Plc prog 144 [(0,1),(1,1),(2,1),(3,1),(4,1),(5,1)] [Nl,Vi 0,Vi 0,Vi 0,Vi 0,Vi 0]:=⟨_,Tryz.t144,_,underlying144,B6,rfl,B6,rfl⟩
instance bCf:TY prog 154 true 4:=⟨isAgg154,sizeOf154⟩
instance cMp:eG prog 154 0 0 3:=⟨_,runUnderlying154,rfl⟩
instance cNu:eG prog 154 1 1 9:=⟨_,runUnderlying154,rfl⟩
instance cMo:eG prog 154 2 2 3:=⟨_,runUnderlying154,rfl⟩
instance cNk:eG prog 154 3 3 3:=⟨_,runUnderlying154,rfl⟩
instance bK1:eM prog 154 [Vi 0,Vs ⟨#[]⟩,Vi 0,Vi 0]:=⟨_,zeroValue154,rfl⟩
instance cOk:Plc prog 154 [(0,1),(1,1),(2,1),(3,1)] [Vi 0,Vs ⟨#[]⟩,Vi 0,Vi 0]:=⟨_,Tryz.t154,_,underlying154,B6,rfl,B6,rfl⟩
instance bAc:TY prog 157 false 1:=⟨isAgg157,sizeOf157⟩
instance aZf:eM prog 157 [Vi 0]:=⟨_,zeroValue157,rfl⟩
instance bCb:TY prog 163 false 1:=⟨isAgg163,sizeOf163⟩
instance bAg:TY prog 165 true 10:=⟨isAgg165,sizeOf165⟩
instance aV1:eG prog 165 0 0 27:=⟨_,runUnderlying165,rfl⟩
instance aU1:eG prog 165 1 3 107:=⟨_,runUnderlying165,rfl⟩
instance aVd:eG prog 165 2 4 3:=⟨_,runUnderlying165,rfl⟩
instance aUb:eG prog 165 3 5 3:=⟨_,runUnderlying165,rfl⟩
instance bXc:eG prog 165 4 6 3:=⟨_,runUnderlying165,rfl⟩
instance dFx:eG prog 165 5 7 32:=⟨_,runUnderlying165,rfl⟩
instance dF1:eG prog 165 6 8 75:=⟨_,runUnderlying165,rfl⟩
instance dF2:eG prog 165 7 9 22:=⟨_,runUnderlying165,rfl⟩
instance bA9:eM prog 165 [Nl,Nl,Nl,Nl,Vi 0,Vi 0,Vi 0,Vi 0,Nl,Nl]:=⟨_,zeroValue165,rfl⟩
instance aZv:Plc prog 165 [(0,3),(3,1),(4,1),(5,1),(6,1),(7,1),(8,1),(9,1)] [Nl,Nl,Nl,Nl,Vi 0,Vi 0,Vi 0,Vi 0,Nl,Nl]:=⟨_,Tryz.t165,_,underlying165,B6,rfl,B6,rfl⟩
instance bA7:TY prog 176 false 1:=⟨isAgg176,sizeOf176⟩
instance bAq:TY prog 177 false 1:=⟨isAgg177,sizeOf177⟩
instance bB5:TY prog 179 true 2:=⟨isAgg179,sizeOf179⟩
instance cWe:eG prog 179 0 0 177:=⟨_,runUnderlying179,rfl⟩
instance cWw:eG prog 179 1 1 58:=⟨_,runUnderlying179,rfl⟩
instance aZ4:eM prog 179 [.val (.pointer none),Nl]:=⟨_,zeroValue179,rfl⟩
instance cZh:Plc prog 179 [(0,1),(1,1)] [.val (.pointer none),Nl]:=⟨_,Tryz.t179,_,underlying179,B6,rfl,B6,rfl⟩
instance bBg:TY prog 181 true 3:=⟨isAgg181,sizeOf181⟩
instance bI5:eG prog 181 0 0 179:=⟨_,runUnderlying181,rfl⟩
instance bH5:eG prog 181 1 2 3:=⟨_,runUnderlying181,rfl⟩
instance bKj:eM prog 181 [.val (.pointer none),Nl,Vi 0]:=⟨_,zeroValue181,rfl⟩
instance bKb:Plc prog 181 [(0,2),(2,1)] [.val (.pointer none),Nl,Vi 0]:=⟨_,Tryz.t181,_,underlying181,B6,rfl,B6,rfl⟩
instance bBt:TY prog 206 false 1:=⟨isAgg206,sizeOf206⟩
instance aZm:TY prog 215 false 1:=⟨isAgg215,sizeOf215⟩
instance bKh:eM prog 215 [.val (.int .u64 0)]:=⟨_,zeroValue215,rfl⟩
instance bB0:TY prog 229 false 1:=⟨isAgg229,sizeOf229⟩
instance bJw:TY prog 238 true 6:=⟨isAgg238,sizeOf238⟩
instance bHs:eG prog 238 0 0 4:=⟨_,runUnderlying238,rfl⟩
instance bJc:eG prog 238 1 1 4:=⟨_,runUnderlying238,rfl⟩
instance bJf:eG prog 238 2 2 4:=⟨_,runUnderlying238,rfl⟩
instance bIv:eG prog 238 3 3 4:=⟨_,runUnderlying238,rfl⟩
instance bIz:eG prog 238 4 4 4:=⟨_,runUnderlying238,rfl⟩
instance bIb:eG prog 238 5 5 4:=⟨_,runUnderlying238,rfl⟩
instance bKs:eM prog 238 [Vb false,Vb false,Vb false,Vb false,Vb false,Vb false]:=⟨_,zeroValue238,rfl⟩
instance bKm:Plc prog 238 [(0,1),(1,1),(2,1),(3,1),(4,1),(5,1)] [Vb false,Vb false,Vb false,Vb false,Vb false,Vb false]:=⟨_,Tryz.t238,_,underlying238,B6,rfl,B6,rfl⟩
instance bJ0:TY prog 250 true 24:=⟨isAgg250,sizeOf250⟩
instance bKk:TY prog 257 true 11:=⟨isAgg257,sizeOf257⟩
instance bJ5:TY prog 261 true 20:=⟨isAgg261,sizeOf261⟩
instance bKn:TY prog 262 false 1:=⟨isAgg262,sizeOf262⟩
instance bK0:eM prog 262 [.val (.int .u32 0)]:=⟨_,zeroValue262,rfl⟩
instance bKc:TY prog 263 true 65:=⟨isAgg263,sizeOf263⟩
instance bKw:TY prog 266 true 18:=⟨isAgg266,sizeOf266⟩
instance bKo:TY prog 272 true 32:=⟨isAgg272,sizeOf272⟩
instance bKp:TY prog 273 true 64:=⟨isAgg273,sizeOf273⟩
end
section
structure cFc where
 name:ByteArray
 kind:Int
 n:Nat
def cE9(x:cFc):List AC:=[Vs x.name,Vi x.kind,nC x.n]
structure cG5 where
 param:Bool
 index:Nat
 at_:List aH
def cF7(x:cG5):List AC:=[Vb x.param,nC x.index,Sq fO x.at_]
theorem cJ7(x:cG5):(cF7 x).length=3:=rfl
structure cFw where
 op:Int
 target:Nat
 global:Bool
 expr:aH
 place:cG5
 ints:List aH
 places:List cG5
def encI(x:cFw):List AC:=[Vi x.op,nC x.target,Vb x.global,Vi x.expr.op,Vi x.expr.num,Vs x.expr.name,Sq fO x.expr.args,Vb x.place.param,nC x.place.index,Sq fO x.place.at_,Sq fO x.ints,Sq cF7 x.places]
theorem cGj(x:cFw):(encI x).length=12:=rfl
def cN6:cFc:=⟨aK,0,0⟩
def plZ:cG5:=⟨false,0,[]⟩
def cFa:List cFc -> ByteArray -> Option cFc
 |[],_=>none
 |x::l,s=>if x.name=s then some x else cFa l s
def cN4:Option cFc -> cFc
 |none=>cN6
 |some v=>v
def cFb(l:List cFc)(s:ByteArray):cFc:=cN4 (cFa l s)
structure cHo (p:cK) (l:List cFc):Prop where
 ms:∀s v,cFa l s=some v -> v.kind=2 -> v.n<p.mutexes.length
 fs:∀s v,cFa l s=some v -> v.kind=3 -> v.n<p.funcs.length
abbrev ES:=Nat×Int
def cFg(q:ES)(e:Nat)(s:Int):ES:=if q.1=0 /\ e≠0 then (e,s) else q
def cFj(a b:Nat):Nat:=if a=0 then b else a
theorem cGg(q:ES)(s:Int):cFg q 0 s=q:=by unfold cFg;rw [if_neg G0]
def cN1:Option cFc -> Nat
 |none=>6
 |some v=>if v.kind=1∨v.kind=4 then 0 else 8
def cGq(l:List cFc)(s:ByteArray):Nat:=cN1 (cFa l s)
def cJw(l:List cFc)(s:ByteArray):aH:=.mk (if (cFb l s).kind=1 then 19 else 18) ((cFb l s).n:Nat) aK []
mutual
def cFk(l:List cFc):aH -> aH
 |.mk op num name args=>if op=2 then cJw l name else .mk op num aK (cIl l args)
def cIl(l:List cFc):List aH -> List aH
 |[]=>[]
 |e::r=>cFk l e::cIl l r
end
mutual
def cFf(l:List cFc):aH -> Nat
 |.mk op _ name args=>if op=2 then cGq l name else cFq l args
def cFq(l:List cFc):List aH -> Nat
 |[]=>0
 |e::r=>cFj (cFf l e) (cFq l r)
end
theorem cIn(l:List cFc):∀r:List aH,cIl l r=r.map (cFk l)
 |[]=>by rw [cIl];rfl
 |e::r=>by rw [cIl,cIn l r];rfl
theorem cIs(l:List cFc)(e:aH):cFk l e=if e.op=2 then cJw l e.name else .mk e.op e.num aK (e.args.map (cFk l)):=by
 cases e;rw [cFk,cIn];rfl
theorem cIj(l:List cFc)(e:aH):cFf l e=if e.op=2 then cGq l e.name else cFq l e.args:=by cases e;rw [cFf];rfl
def cHk(p:cK)(n:Nat):Int:=match p.mutexes[n]? with
 |none=>0
 |some m=>m.size
theorem cGz{p:cK}{n:Nat}(h:n<p.mutexes.length):cHk p n=p.mutexes[n].size:=by unfold cHk;rw [List.getElem?_eq_getElem h]
def cG6(l:List cFc)(r:cY):cG5:=⟨decide ((cFb l r.name).kind=5),(cFb l r.name).n,r.index.map (cFk l)⟩
def cG3(p:cK)(n:Nat):Option cFc -> Nat
 |none=>6
 |some v=>if v.kind=2∨v.kind=5 then (if (decide (v.kind=2) && decide (0<cHk p v.n))=decide (0<n) then 0 else 8) else 8
def cGo(p:cK)(l:List cFc)(r:cY):Nat:=cFj (cG3 p r.index.length (cFa l r.name)) (cFq l r.index)
def cJh(p:cK)(l:List cFc)(a:eN):Nat:=if a.mutex then cGo p l a.ref else cFf l a.expr
def cF8(p:cK)(l:List cFc):List eN -> List aS -> Nat
 |a::r,x::xs=>if a.mutex=x.mutex then cFj (cJh p l a) (cF8 p l r xs) else 8
 |_,_=>0
def cGb:List eN -> List aS -> List eN
 |a::r,x::xs=>if a.mutex=x.mutex then a::cGb r xs else []
 |_,_=>[]
def cF4(l:List cFc)(al:List eN):List cG5:=(al.filter eN.mutex).map λa=>cG6 l a.ref
def cFn(l:List cFc)(al:List eN):List aH:=(al.filter λa=>!a.mutex).map λa=>cFk l a.expr
def cGc(p:cK)(n:Nat):List aS:=match p.funcs[n]? with
 |none=>[]
 |some f=>f.params
theorem cHc{p:cK}{n:Nat}(h:n<p.funcs.length):cGc p n=p.funcs[n].params:=by unfold cGc;rw [List.getElem?_eq_getElem h]
def cHb(p:cK)(l:List cFc)(al:List eN):Option cFc -> Nat
 |none=>6
 |some v=>if v.kind=3 then (if (cGc p v.n).length=al.length then cF8 p l al (cGc p v.n) else 7) else 8
def cFy(p:cK)(l:List cFc)(s:aJ):Nat:=cHb p l s.args (cFa l s.name)
def cG9(p:cK)(l:List cFc)(al:List eN)(op:Int):Option cFc -> cFw
 |none=>⟨op,0,false,.zero,plZ,[],[]⟩
 |some v=>if v.kind=3 then (if (cGc p v.n).length=al.length then ⟨op,v.n,false,.zero,plZ,cFn l (cGb al (cGc p v.n)),cF4 l (cGb al (cGc p v.n))⟩ else ⟨op,v.n,false,.zero,plZ,[],[]⟩) else ⟨op,0,false,.zero,plZ,[],[]⟩
def cGn(p:cK)(l:List cFc)(s:aJ):cFw:=cG9 p l s.args (if s.kind=4 then 3 else 2) (cFa l s.name)
structure LS where
 ents:List cFc
 locals:Nat
 n:Nat
 q:ES
 code:List cFw
 sites:List Int
def LS.put(x:LS)(i:cFw)(s:Nat):LS:=⟨x.ents,x.locals,x.n,x.q,x.code++[i],x.sites++[(s:Int)]⟩
def cFw.to(i:cFw)(t:Nat):cFw:=⟨i.op,t,i.global,i.expr,i.place,i.ints,i.places⟩
def LS.patch(x:LS)(b:Nat):LS:=⟨x.ents,x.locals,x.n,x.q,x.code.modify b (λi=>i.to x.code.length),x.sites⟩
def LS.beg(x:LS)(e:Nat):LS:=⟨x.ents,x.locals,x.n+1,cFg x.q e x.n,x.code,x.sites⟩
def cFv(l:List cFc)(s:ByteArray):Nat:=if (cFa l s).isSome then 5 else 0
def LS.var(x:LS)(s:ByteArray):LS:=⟨x.ents++[⟨s,4,x.locals⟩],x.locals+1,x.n,x.q,x.code,x.sites⟩
def opI(k:Int)(e:aH):cFw:=⟨k,0,false,e,plZ,[],[]⟩
def cFu(p:cK)(s:aJ)(x:LS):LS:=
 if s.kind=1 then ((x.beg (cFj (cFv x.ents s.name) (cFf x.ents s.expr))).put ⟨1,x.locals,false,cFk x.ents s.expr,plZ,[],[]⟩ x.n).var s.name
 else if s.kind=2 then (x.beg (cFj (cGq x.ents s.name) (cFf x.ents s.expr))).put ⟨1,(cFb x.ents s.name).n,decide ((cFb x.ents s.name).kind=1),cFk x.ents s.expr,plZ,[],[]⟩ x.n
 else if s.kind=3∨s.kind=4 then (x.beg (cFy p x.ents s)).put (cGn p x.ents s) x.n
 else if s.kind=5 then (x.beg (cGo p x.ents s.ref)).put ⟨4,0,false,.zero,cG6 x.ents s.ref,[],[]⟩ x.n
 else if s.kind=6 then (x.beg (cGo p x.ents s.ref)).put ⟨5,0,false,.zero,cG6 x.ents s.ref,[],[]⟩ x.n
 else (x.beg 0).put (opI 8 .zero) x.n
def LS.branch(x:LS)(e:aH):LS:=(x.beg (cFf x.ents e)).put (opI 6 (cFk x.ents e)) x.n
def LS.back(x:LS)(y:LS):LS:=⟨x.ents,y.locals,y.n,y.q,y.code,y.sites⟩
mutual
def cFs(p:cK):aJ -> LS -> LS
 |.mk k name e r args t f,x=>
  if k=7 then
   (if f.length=0 then ((x.branch e).back (cFe p t (x.branch e))).patch x.code.length
    else (LS.back x (cFe p f ((((x.branch e).back (cFe p t (x.branch e))).put (opI 7 .zero) x.n).patch x.code.length))).patch (cFe p t (x.branch e)).code.length)
  else if k=8 then (((x.branch e).back (cFe p t (x.branch e))).put ⟨7,x.code.length,false,.zero,plZ,[],[]⟩ x.n).patch x.code.length
  else cFu p (.mk k name e r args t f) x
def cFe(p:cK):List aJ -> LS -> LS
 |[],x=>x
 |s::l,x=>cFe p l (cFs p s x)
end
def cRs(p:cK)(l:List aJ)(x:LS):LS:=x.back (cFe p l x)
theorem cFz(p:cK)(s:aJ)(x:LS):cFs p s x=if s.kind=7 then
   (if s.els.length=0 then (cRs p s.thn (x.branch s.expr)).patch x.code.length
    else (cRs p s.els (((cRs p s.thn (x.branch s.expr)).put (opI 7 .zero) x.n).patch x.code.length)).patch (cRs p s.thn (x.branch s.expr)).code.length)
  else if s.kind=8 then ((cRs p s.thn (x.branch s.expr)).put ⟨7,x.code.length,false,.zero,plZ,[],[]⟩ x.n).patch x.code.length
  else cFu p s x:=by
 obtain ⟨k,n,e,r,a,t,f⟩:=s
 rw [cFs];rfl
theorem cIa(p:cK):∀(l:List aJ)(s:aJ)(x:LS),cFe p (l++[s]) x=cFs p s (cFe p l x)
 |[],s,x=>by rw [List.nil_append,cFe,cFe,cFe]
 |a::l,s,x=>by rw [List.cons_append,cFe,cFe,cIa p l s]
theorem cFo(p:cK)(l:List aJ)(k:Nat)(h:k<l.length)(x:LS):cFs p l[k] (cFe p (l.take k) x)=cFe p (l.take (k+1)) x:=by
 rw [List.take_succ_eq_append_getElem h,cIa]
def cFd(p:cK):List cFc:=p.globals.mapIdx (λi g=>⟨g.name,1,i⟩)++(p.mutexes.mapIdx (λi m=>⟨m.name,2,i⟩)++p.funcs.mapIdx (λi f=>⟨f.name,3,i⟩))
def cG0:List cFc -> List cFc -> Option Nat
 |_,[]=>none
 |l,x::r=>if (cFa l x.name).isSome then some l.length else cG0 (l++[x]) r
def cGd:List aS -> List cFc -> Nat -> Nat -> Option (List cFc×Nat×Nat)
 |[],l,i,m=>some (l,i,m)
 |x::r,l,i,m=>if (cFa l x.name).isSome then none else if x.mutex then cGd r (l++[⟨x.name,5,m⟩]) i (m+1) else cGd r (l++[⟨x.name,4,i⟩]) (i+1) m
def LS.init(l:List cFc)(i:Nat):LS:=⟨l,i,0,(0,0),[],[]⟩
def cJg(p:cK)(f:bS)(l:List cFc)(i:Nat):LS:=(cRs p f.body (LS.init l i)).put (opI 8 .zero) (cRs p f.body (LS.init l i)).n
def cGk(p:cK)(f:bS):ES:=match cGd f.params (cFd p) 0 0 with
 |none=>(5,-1)
 |some (l,i,_)=>(cJg p f l i).q
structure cI1 where
 name:ByteArray
 ints:Nat
 locks:Nat
 locals:Nat
 code:List cFw
def cGe(p:cK)(f:bS):cI1:=match cGd f.params (cFd p) 0 0 with
 |none=>⟨aK,0,0,0,[]⟩
 |some (l,i,m)=>⟨f.name,i,m,(cJg p f l i).locals,(cJg p f l i).code⟩
def cGh(p:cK):List bS -> Nat -> Int×Int×Nat
 |[],_=>(0,0,0)
 |f::r,i=>if (cGk p f).1=0 then cGh p r (i+1) else (i,(cGk p f).2,(cGk p f).1)
def cFl:ByteArray:=⟨#[109,97,105,110]⟩
def cHa(p:cK):Bool:=match cFa (cFd p) cFl with
 |none=>false
 |some v=>decide (v.kind=3) && decide ((cGc p v.n).length=0)
def cFx(p:cK):Int×Int×Nat:=
 if jI p=false then (-1,-1,10) else
 match cG0 [] (cFd p) with
 |some i=>(-1,i,5)
 |none=>if cHa p then cGh p p.funcs 0 else (-1,-1,9)
end
section
open Go.RowKit
instance (priority:=900) boxIn_appG{A0 R A B:List Box}{b:Nat}{T:TypeId}{cs:List AC}[h:lY R b A T cs B]:lY (A0++R) b (A0++A) T cs B:=⟨by rw [h.h,append_assoc]⟩
instance (priority:=1050) appL_app{A0 X ds r:List Box}[h:aDk X ds r]:aDk (A0++X) ds (A0++r):=⟨by rw [append_assoc,h.h]⟩
instance aS8:hP 1 1 2:=⟨rfl⟩
instance aSv:hP 1 2 3:=⟨rfl⟩
instance aSi:hP 1 3 4:=⟨rfl⟩
instance aTa:hP 1 4 5:=⟨rfl⟩
instance aTf:hP 1 5 6:=⟨rfl⟩
instance aS0:hP 2 1 3:=⟨rfl⟩
instance aSx:hP 2 2 4:=⟨rfl⟩
instance aTk:hP 2 3 5:=⟨rfl⟩
instance aT2:hP 2 4 6:=⟨rfl⟩
instance aRx:hP 2 5 7:=⟨rfl⟩
instance aTw:hP 3 1 4:=⟨rfl⟩
instance aSs:hP 3 2 5:=⟨rfl⟩
instance aSa:hP 3 3 6:=⟨rfl⟩
instance aS6:hP 3 4 7:=⟨rfl⟩
instance aRv:hP 3 5 8:=⟨rfl⟩
instance aR2:hP 4 1 5:=⟨rfl⟩
instance aSy:hP 4 2 6:=⟨rfl⟩
instance aR1:hP 4 3 7:=⟨rfl⟩
instance aSw:hP 4 4 8:=⟨rfl⟩
instance aTt:hP 4 5 9:=⟨rfl⟩
instance aSj:hP 5 1 6:=⟨rfl⟩
instance aSz:hP 5 2 7:=⟨rfl⟩
instance aTg:hP 5 3 8:=⟨rfl⟩
instance aR9:hP 5 4 9:=⟨rfl⟩
instance aTb:hP 5 5 10:=⟨rfl⟩
instance aS4:hP 6 1 7:=⟨rfl⟩
instance aT5:hP 6 2 8:=⟨rfl⟩
instance aSt:hP 6 3 9:=⟨rfl⟩
instance aS5:hP 6 4 10:=⟨rfl⟩
instance aSl:hP 6 5 11:=⟨rfl⟩
instance aSu:hP 7 1 8:=⟨rfl⟩
instance aTz:hP 7 2 9:=⟨rfl⟩
instance aTl:hP 7 3 10:=⟨rfl⟩
instance aS3:hP 7 4 11:=⟨rfl⟩
instance aR7:hP 7 5 12:=⟨rfl⟩
instance aR6:hP 8 1 9:=⟨rfl⟩
instance aTy:hP 8 2 10:=⟨rfl⟩
instance aS2:hP 8 3 11:=⟨rfl⟩
instance aR5:hP 8 4 12:=⟨rfl⟩
instance aSe:hP 8 5 13:=⟨rfl⟩
theorem jJ{bx:List Box}{rw:List bA}{Z:List Nat}{b:Nat}[h1:BIn bx b][h2:aLt bx b Z](hn:(⟨bx,rw⟩:Sto).bl.Nodup):b∈lM ⟨bx,rw⟩ Z:=kH.2 ⟨List.mem_append_left _ h1.h,h2.h (List.nodup_append.1 hn).1⟩
theorem kV{P:Program}{U:List Nat}{o:Oper}{st:AS}{x:Operand}{t e E:TypeId}{v:Value}{z n:Nat}{cs:List AC}(A:List bA){B:List bA}(ho:o.op=.call {callee:=.builtin .len,args:=#[x],argTypes:=#[t]})(hx:evA st x=some (Cv v))(hrow:st.s.rows=A++⟨v,E,z,n,cs⟩::B)(hu:∀w,(underlying t).run P w=.ok (.slice e) w)(hz:0<z:=by decide):AY P U o st (Ci n):=
 fW rfl λa w hs w'=>by
  obtain ⟨us,hownR,-⟩:=hs.mem.row ⟨v,E,z,n,cs⟩ C1
  have hown:=hownR.row hz
  have hv:∃p c,v=.slice p n c:=by
   rcases hown.2 with ⟨h1,h2⟩|⟨g,cap,cur,h1,-⟩
   ·dsimp only at h1 h2;subst h2;exact ⟨_,_,h1⟩
   exact ⟨_,_,h1⟩
  obtain ⟨p,c,rfl⟩:=hv
  simp only [execOp,ho,resolve,List.map_toArray,List.map_cons,List.map_nil,hs.val hx]
  simp [go_sem,invoke,builtin,Builtin.len_,hu,goInt]
class aL0 (bx:List Box) (Z:List Nat):Prop where h:∀z,z∈Z -> z∈bx.map Box.b
instance aTn{bx:List Box}:aL0 bx []:=⟨G0⟩
instance aRr{bx:List Box}{z:Nat}{Z:List Nat}[h1:BIn bx z][h2:aL0 bx Z]:aL0 bx (z::Z):=⟨λy hy=>by rcases mem_cons.1 hy with rfl|h;exact h1.h;exact h2.h _ h⟩
theorem qW{bx:List Box}{rw:List bA}{Z:List Nat}{v:Value}{E:TypeId}{z n b:Nat}{cs:List AC}[h1:aL0 bx Z](hn:(⟨bx,⟨v,E,z,n,cs⟩::rw⟩:Sto).bl.Nodup)(hb:b∈aY v):b∈lM ⟨bx,⟨v,E,z,n,cs⟩::rw⟩ Z:=by
 have h3:b∈(⟨v,E,z,n,cs⟩::rw:List bA).flatMap λr=>aY r.v:=by simp [hb]
 refine kH.2 ⟨List.mem_append_right _ h3,λhz=>?_⟩
 exact (List.nodup_append.1 hn).2.2 b (h1.h b hz) b h3 Y
theorem aE1{P:Program}{ops:Array Oper}{n:Nat}{T:List Nat}{bx:List Box}{rw:List bA}{ts:List (Nat×AT)}{Q:Exit -> AS -> Prop}{l:List Oper}(i:Nat){v:Value}{E:TypeId}{z k:Nat}{cs:List AC}(hi:look ts i=some (Cv v))(h:eQ P ops l ⟨n,T,⟨bx,rw⟩,(i,.c (.sl k cs))::ts⟩ Q)(hz:0<z:=by decide):eQ P ops l ⟨n,T,⟨bx,⟨v,E,z,k,cs⟩::rw⟩,ts⟩ Q:=
 uQ (yS (st:=⟨n,T,⟨bx,⟨v,E,z,k,cs⟩::rw⟩,ts⟩) (A:=[]) i hi rfl hz) h
structure TB (P:Program) (E e:TypeId) (i:TypeInfo) (z bytes:Nat) (zv:Value):Prop where
  hu:P.underlying E=some (.slice e)
  hi:P.info? e=some i
  hz:i.zero=some zv
  hsz:i.size=z
  hby:i.bytes=bytes
  hzs:zv.cells.size=z
  h0:0<z
structure ZB (P:Program) (E e:TypeId) (i:TypeInfo) (len:Nat) (z:Value) (zc:List AC):Prop where
  hu:P.underlying E=some (.slice e)
  hi:P.info? e=some i
  hz:i.zero=some z
  hsmall:¬len*i.size>2 ^ 24
  hpos:¬len*i.size=0
  hzc:(((Array.range (len*i.size)).map (z.cells[·% z.cells.size]!)).toList.all (·.oneCell'))=true
  hzr:((Array.range (len*i.size)).map (z.cells[·% z.cells.size]!)).toList.map .val=zc
section
variable {P:Program}{U:List Nat}{o:Oper}{n d:Nat}{T:List Nat}{s:Sto}{ts:List (Nat×AT)}{bx:List Box}{K:AS -> Prop}
theorem bDm{E e:TypeId}{i:TypeInfo}{x y:Operand}{k m z bytes:Nat}{v zv:Value}{cs ds r:List AC}(A:List bA)(t:TB P E e i z bytes zv){B:List bA}(h0:(o.op,o.dst,Nat.blt d n,evA ⟨n,T,⟨bx,A++⟨v,e,z,k,cs⟩::B⟩,ts⟩ x,evA ⟨n,T,⟨bx,A++⟨v,e,z,k,cs⟩::B⟩,ts⟩ y)=(.call {callee:=.builtin .append,args:=#[x,y],argTypes:=#[E,E]},some d,true,some (Cv v),some (.c (.sl m ds))))
    (hm:ds.length=m*z) (hm0:0<m) (hlen:k+m <= maxLen) (hbytes:(k+m)*bytes <= 140737488355328) {N:Nat} (hN:k+m=N) (hU:(⟨bx,A++⟨v,e,z,k,cs⟩::B⟩:Sto).bl.Nodup -> ∀b,b∈aY v -> b∈U) (hT:∀b,b∈aY v -> b∈T) (hr:cs++ds=r)
    (h:∀v',K ⟨n,aY v'++T,⟨bx,A++⟨v',e,z,N,r⟩::B⟩,(d,Cv v')::ts⟩):AO P U o ⟨n,T,⟨bx,A++⟨v,e,z,k,cs⟩::B⟩,ts⟩ K:=by
  simp only [Prod.mk.injEq] at h0
  exact eV A i bytes h0.1 h0.2.1 (Nat.le_of_ble_eq_true h0.2.2.1) h0.2.2.2.1 h0.2.2.2.2 t.hu t.hi t.hz t.hsz t.hby t.hzs t.h0 hm hm0 hlen hbytes hN hU hT hr h
theorem bDk{E e:TypeId}{i:TypeInfo}{z:Value}{len:Nat}{parts:Array (Nat×Operand)}{ps:List (Nat×AT)}{zc r:List AC}(t:ZB P E e i len z zc)(h:K ⟨n,T,s,(d,.c (.sl len r))::ts⟩)(h0:(o.op,o.dst,Nat.blt d n)=(.buildSlice E len parts,some d,true):=by exact rfl)(hps:EvP ⟨n,T,s,ts⟩ parts.toList ps:=by exact (.cons rfl .nil))(hf:qO (λk=>some (k*i.size,i.size)) zc ps=some r:=by exact rfl):AO P U o ⟨n,T,s,ts⟩ K:=by
  simp only [Prod.mk.injEq] at h0
  exact wbs i zc h0.1 h0.2.1 (Nat.le_of_ble_eq_true h0.2.2) hps t.hu t.hi t.hz t.hsmall t.hpos t.hzc t.hzr hf h
end
def dFu:=(⟨underlying118,B6,rfl,rfl,rfl,rfl,V⟩:TB prog 118 135 Tryz.t135 7 104 _)
def cLa:=(⟨underlying22,B6,rfl,rfl,rfl,rfl,V⟩:TB prog 22 3 Tryz.t3 1 8 _)
def dFt:=(⟨underlying58,B6,rfl,rfl,rfl,rfl,V⟩:TB prog 58 5 Tryz.t5 1 1 _)
def cKb:=(⟨underlying24,B6,rfl,rfl,rfl,rfl,V⟩:TB prog 24 60 Tryz.t60 3 32 _)
def bN3:=(⟨underlying23,B6,rfl,rfl,rfl,rfl,V⟩:TB prog 23 63 Tryz.t63 2 24 _)
def cN3:=(⟨underlying25,B6,rfl,rfl,rfl,rfl,V⟩:TB prog 25 67 Tryz.t67 3 64 _)
def dF9:=(⟨underlying64,B6,rfl,rfl,rfl,rfl,V⟩:TB prog 64 69 Tryz.t69 2 24 _)
def dF7:=(⟨underlying29,B6,rfl,rfl,rfl,rfl,V⟩:TB prog 29 79 Tryz.t79 5 64 _)
def dFw:=(⟨underlying85,B6,rfl,rfl,rfl,rfl,V⟩:TB prog 85 87 Tryz.t87 4 56 _)
def dF4:=(⟨underlying90,B6,rfl,rfl,rfl,rfl,V⟩:TB prog 90 89 Tryz.t89 3 40 _)
def dFs:=(⟨underlying61,B6,rfl,rfl,rfl,rfl,V⟩:TB prog 61 9 Tryz.t9 1 16 _)
def dFv:=(⟨underlying75,B6,rfl,rfl,rfl,rfl,V⟩:TB prog 75 92 Tryz.t92 12 168 _)
def zb0:=(⟨underlying65,B6,rfl,V,V,B6,B6⟩:ZB prog 65 120 Tryz.t120 1 _ [Vi 0,Vs ⟨#[]⟩,Vi 0,Vi 0,Vs ⟨#[]⟩,Nl,Vs ⟨#[]⟩,Nl,Nl,Nl,Nl])
def zb1:=(⟨underlying118,B6,rfl,V,V,B6,B6⟩:ZB prog 118 135 Tryz.t135 1 _ [Vb false,Vs ⟨#[]⟩,Nl,Vi 0,Vi 0,Vs ⟨#[]⟩,Nl])
def zb6:=(⟨underlying22,B6,rfl,V,V,B6,B6⟩:ZB prog 22 3 Tryz.t3 1 _ [Vi 0])
def zb7:=(⟨underlying58,B6,rfl,V,V,B6,B6⟩:ZB prog 58 5 Tryz.t5 2 _ [.val (.int .u8 0),.val (.int .u8 0)])
def zb8:=(⟨underlying58,B6,rfl,V,V,B6,B6⟩:ZB prog 58 5 Tryz.t5 1 _ [.val (.int .u8 0)])
def zb9:=(⟨underlying24,B6,rfl,V,V,B6,B6⟩:ZB prog 24 60 Tryz.t60 1 _ [Vs ⟨#[]⟩,Vb false,Vi 0])
def bDs:=(⟨underlying23,B6,rfl,V,V,B6,B6⟩:ZB prog 23 63 Tryz.t63 1 _ [Vs ⟨#[]⟩,Vi 0])
def bDu:=(⟨underlying25,B6,rfl,V,V,B6,B6⟩:ZB prog 25 67 Tryz.t67 1 _ [Vs ⟨#[]⟩,Nl,Nl])
def bHf:=(⟨underlying64,B6,rfl,V,V,B6,B6⟩:ZB prog 64 69 Tryz.t69 1 _ [Vs ⟨#[]⟩,Vb false])
def bDy:=(⟨underlying85,B6,rfl,V,V,B6,B6⟩:ZB prog 85 87 Tryz.t87 2 _ [Vi 0,Vi 0,Vs ⟨#[]⟩,Nl,Vi 0,Vi 0,Vs ⟨#[]⟩,Nl])
def bDo:=(⟨underlying85,B6,rfl,V,V,B6,B6⟩:ZB prog 85 87 Tryz.t87 1 _ [Vi 0,Vi 0,Vs ⟨#[]⟩,Nl])
def bGy:=(⟨underlying61,B6,rfl,V,V,B6,B6⟩:ZB prog 61 9 Tryz.t9 5 _ [Vs ⟨#[]⟩,Vs ⟨#[]⟩,Vs ⟨#[]⟩,Vs ⟨#[]⟩,Vs ⟨#[]⟩])
def bT4:=(⟨underlying61,B6,rfl,V,V,B6,B6⟩:ZB prog 61 9 Tryz.t9 3 _ [Vs ⟨#[]⟩,Vs ⟨#[]⟩,Vs ⟨#[]⟩])
def cL1:=(⟨underlying61,B6,rfl,V,V,B6,B6⟩:ZB prog 61 9 Tryz.t9 2 _ [Vs ⟨#[]⟩,Vs ⟨#[]⟩])
def cG8:=(⟨underlying61,B6,rfl,V,V,B6,B6⟩:ZB prog 61 9 Tryz.t9 1 _ [Vs ⟨#[]⟩])
def cQs:=(⟨underlying75,B6,rfl,V,V,B6,B6⟩:ZB prog 75 92 Tryz.t92 1 _ [Vi 0,Vi 0,Vb false,Vi 0,Vi 0,Vs ⟨#[]⟩,Nl,Vb false,Vi 0,Nl,Nl,Nl])
section
variable {P:Program}{ops:Array Oper}{U Z:List Nat}{o:Oper}{n d:Nat}{T:List Nat}{s:Sto}{ts:List (Nat×AT)}{l:List Oper}{t:AT}{st:AS}
theorem tz{Q:AS->Prop}{F0:Nat}{listed:Array Bool}(run:List (Nat×Bool))(F:Nat)(h:vB P ops Z run st (λst'=>lD P ops Z F (aDe listed run) st' Q))(hc:(aBb ops listed run && Region.noSelect ops && F0 == F+run.length)=true:=by kernel_rfl):lD P ops Z F0 listed st Q:=tks run F hc h
theorem tx(i:Nat){fuel:Nat}{listed:Array Bool}{Q:AS->Prop}(h0:(ops.toList[i]?,fC ops o ⟨n,T,s,ts⟩,o.dst,Nat.blt d n)=(some o,some true,some d,true))(hy:AY P (lM s Z) o ⟨n,T,s,ts⟩ t)(h:lD P ops Z fuel (listed.setIfInBounds i true) ⟨n,T,s,(d,t)::ts⟩ Q)
  (hr:((Region.ready .any ops listed).contains i && Region.free .any ops listed i && Region.noSelect ops)=true:=by kernel_rfl):lD P ops Z (fuel+1) listed ⟨n,T,s,ts⟩ Q:=tr i hr h0 hy h
theorem ox(i:Nat){fuel:Nat}{listed:Array Bool}{K:AS->Prop}(hi:ops.toList[i]?=some o)(hw:fC ops o ⟨n,T,s,ts⟩=some true)(h:AO P (lM s Z) o ⟨n,T,s,ts⟩ λs=>lD P ops Z fuel (listed.setIfInBounds i true) s K)(hr:Region.ready .any ops listed=[i]:=by kernel_rfl):lD P ops Z (fuel+1) listed ⟨n,T,s,ts⟩ K:=one i hr hi hw h
theorem ax{fuel:Nat}{listed:Array Bool}{Q:AS->Prop}(h:Q st)(hr:Region.ready .any ops listed=[]:=by kernel_rfl):lD P ops Z fuel listed st Q:=aE hr h
theorem dx{id:Nat}{Q:Exit->AS->Prop}(Z:List Nat)(h:lD P ops Z ops.size (Array.replicate ops.size false) st (Q .normal))(hm:P.follows .mixedOrders=true:=by kernel_rfl):AWp P (.region id ops true) st Q:=aB Z hm h
theorem t2(i j:Nat){o2:Oper}{fuel:Nat}{listed:Array Bool}{K:AS->Prop}(hi:(ops.toList[i]?,fC ops o ⟨n,T,s,ts⟩,ops.toList[j]?,fC ops o2 ⟨n,T,s,ts⟩)=(some o,some true,some o2,some true))
  (h:AO P (lM s Z) o ⟨n,T,s,ts⟩ λs=>lD P ops Z fuel (listed.setIfInBounds i true) s K) (h2:AO P (lM s Z) o2 ⟨n,T,s,ts⟩ λs=>lD P ops Z fuel (listed.setIfInBounds j true) s K) (hr:Region.ready .any ops listed=[i,j]:=by kernel_rfl):lD P ops Z (fuel+1) listed ⟨n,T,s,ts⟩ K:=by
 simp only [Prod.mk.injEq] at hi
 exact two i j hr hi.1 hi.2.1 hi.2.2.1 hi.2.2.2 h h2
end
end
end Go.Proofs.YtjgeihmhppadaaaGreatDoor
