import Derived.Test.YtjgeihmhppadaaaGreatDoorCG1J
import Derived.Test.YtjgeihmhppadaaaGreatDoorRows
import Derived.Test.YtjgeihmhppadaaaGreatDoorCShelfJ
import Derived.BigQuiet
set_option linter.all false
set_option synthInstance.maxHeartbeats 1000000
set_option synthInstance.maxSize 1000000
set_option maxHeartbeats 1600000
set_option maxRecDepth 100000
namespace Go.Proofs.YtjgeihmhppadaaaGreatDoor
class y4(k:List Nat)(l:outParam (List (Nat×Bool))):Prop where
instance ZN:y4 [] []:=⟨⟩
instance Ym{i:Nat}{r:List Nat}{l:List (Nat×Bool)}[y4 r l]:y4 (i::r) ((i,true)::l):=⟨⟩
open Go.Proofs.Tryz
open List (length_append length_cons length_nil mem_append mem_cons not_mem_nil append_assoc getElem_mem take_of_length_le)
section
open Go.RowKit
mutual
def bR:aP -> List aN
 |.mk op num name args=>[.val (.int .i64 op),.val (.int .i64 num),.val (.string name),.sl args.length (wP args)]
def wP:List aP -> List aN
 |[]=>[]
 |e::es=>bR e++wP es
end
def Hl:∀l:List aP,wP l=l.flatMap bR
 |[]=>by rw [wP];rfl
 |e::es=>by rw [wP,Hl es,fD]
def bb(x:aP):List aN:=[aA x.op,aA x.num,ae x.name,aB bR x.args]
def Br(x:aP):bR x=[aA x.op,aA x.num,ae x.name,aB bR x.args]:=by
 cases x;rw [bR,Hl];rfl
def ei(x:aP):bR x=bb x:=Br x
def fw(x:aP):(bR x).length=4:=by rw [Br];rfl
def encR(r:cD):List aN:=[ae r.name,aB bR r.index]
def dA(a:cK):List aN:=[bD a.mutex,ae a.ref.name,aB bR a.ref.index,aA a.expr.op,aA a.expr.num,ae a.expr.name,aB bR a.expr.args]
def mj(a:cK):(dA a).length=7:=rfl
mutual
def encS:aL -> List aN
 |.mk k name e r args t el=>[.val (.int .i64 k),.val (.string name),.val (.int .i64 e.op),.val (.int .i64 e.num),.val (.string e.name),.sl e.args.length (e.args.flatMap bR),.val (.string r.name),.sl r.index.length (r.index.flatMap bR),.sl args.length (args.flatMap dA),.sl t.length (uU t),.sl el.length (uU el)]
def uU:List aL -> List aN
 |[]=>[]
 |e::es=>encS e++uU es
end
def CC:∀l:List aL,uU l=l.flatMap encS
 |[]=>by rw [uU];rfl
 |e::es=>by rw [uU,CC es,fD]
def Dp(x:aL):encS x=[aA x.kind,ae x.name,aA x.expr.op,aA x.expr.num,ae x.expr.name,aB bR x.expr.args,ae x.ref.name,aB bR x.ref.index,aB dA x.args,aB encS x.thn,aB encS x.els]:=by
 cases x;rw [encS,CC,CC];rfl
def dW(x:aL):List aN:=[aA x.kind,ae x.name,aA x.expr.op,aA x.expr.num,ae x.expr.name,aB bR x.expr.args,ae x.ref.name,aB bR x.ref.index,aB dA x.args,aB encS x.thn,aB encS x.els]
def mg(x:aL):encS x=dW x:=Dp x
def nj(x:aL):(encS x).length=11:=by rw [Dp];rfl
def cG(p:bp):List aN:=[ae p.name,bD p.mutex]
def ac(f:bE):List aN:=[ae f.name,aB cG f.params,aB encS f.body]
def ak(g:bw):List aN:=[ae g.name,aA g.init]
def aU(m:cq):List aN:=[ae m.name,bD m.reentrant,aA m.size]
def eA(p:aZ):List aN:=[aB ak p.globals,aB aU p.mutexes,aB ac p.funcs]
def dO(t:Tok):List aN:=[aA t.kind,ae t.text,aA t.num,aA t.pos]
def gx(p:bp):(cG p).length=2:=rfl
def mI(p:bE):(ac p).length=3:=rfl
def nD(p:bw):(ak p).length=2:=rfl
def kI(p:cq):(aU p).length=3:=rfl
def kB(p:Tok):(dO p).length=4:=rfl
def Ri{P:Program}{c:Code}{n:Nat}{T:List Nat}{s:aH}{ts:List (Nat×AT)}{Q:Exit -> AS -> Prop}(N i:Nat)(fixed:List (Nat×AT))(hs:Sub ⟨n,T,s,ts⟩ ⟨n,T,s,(i,aX 0)::fixed⟩)
  (round:∀k,k <= N -> bo P c ⟨n,T,s,(i,aX k)::fixed⟩ (j_ (λs'=>k<N /\ Sub s' ⟨n,T,s,(i,aX (k+1))::fixed⟩) Q)):bo P (.loop c) ⟨n,T,s,ts⟩ Q:=by
 refine ff (λk=>⟨n,T,s,(i,aX k)::fixed⟩) (λk=>k <= N) (λk=>N-k) 0 hs (d2 _) λk hk=>qP (round k hk) λe s' h=>?_;cases e with
 |normal=>exact ⟨k+1,h.1,by have:=h.1;omega,h.2⟩
 |_=>exact h
section
variable {P:Program}{ops:Array Oper}{U Z:List Nat}{o o2:Oper}{n d:Nat}{T:List Nat}{s:aH}{bx:List aT}{rw:List aS}{ts:List (Nat×AT)}{Q:Exit -> AS -> Prop}{K:AS -> Prop}{st:AS}
theorem NQ{ts':List (Nat×AT)}(h:∀i t,look ts' i=some t -> look ts i=some t):Sub ⟨n,T,s,ts⟩ ⟨n,T,s,ts'⟩:=λa w hs=>⟨⟨hs.df,hs.sz,λi t ht=>hs.tm i t (h i t ht),hs.mem⟩,λ_ h=>h,λ_ h=>h⟩
theorem UL{bx':List aT}(h:bx'.Perm bx):Sub ⟨n,T,⟨bx,rw⟩,ts⟩ ⟨n,T,⟨bx',rw⟩,ts⟩:=λa w hs=>by
 have hbl:(⟨bx',rw⟩:aH).bl.Perm (⟨bx,rw⟩:aH).bl:=(h.map _).append (List.Perm.refl _);have hu:fl (bi (⟨bx,rw⟩:aH).bl w) (bi (⟨bx',rw⟩:aH).bl w):=up_sub λb hb=>hbl.mem_iff.1 hb;refine ⟨⟨hs.df,hs.sz,λi t ht=>let ⟨v,aa,e2⟩:=hs.tm i t ht;⟨v,aa,e2.mono hu (wL (bW _))⟩,?_⟩,λb hb=>hbl.mem_iff.1 hb,λ_ h=>h⟩;exact ⟨hbl.nodup_iff.2 hs.mem.nodup,λb hb=>hs.mem.lt b (hbl.mem_iff.1 hb),λx hx=>let ⟨us,aa,e2⟩:=hs.mem.box x (h.mem_iff.1 hx);⟨us,aa,e2.mono hu⟩,λr hr=>let ⟨us,aa,e2⟩:=hs.mem.row r hr;⟨us,aa,e2.mono hu⟩⟩
theorem Lg{md:Region.Mode}{QQ:Exit -> Act -> aV -> Prop}{S S':aV -> Prop}(hS:∀w,S' w -> S w){fuel:Nat}{listed:Array Bool}{a:Act}{w:aV}(h:wpAnyH P md ops QQ S' fuel listed a w):wpAnyH P md ops QQ S fuel listed a w:=EN hS _ _ _ _ h
theorem KN{fuel:Nat}{listed:Array Bool}{st':AS}(hs:Sub st st')(h:dh P ops Z fuel listed st' K):dh P ops Z fuel listed st K:=
 λa w hS QQ hp hQ=>Lg (λw2 h2=>h2.mono λb hb=>gK.2 ⟨(hs a w hS).2.1 b (gK.1 hb).1,(gK.1 hb).2⟩) (h a w (hs a w hS).1 QQ hp λa' w' st2 q s2 k=>hQ a' w' st2 q s2 ((hs.ext hS).trans k))
theorem I'(i j:Nat){E1 E2:bA}{ep fS:Nat}{z1 z2:aM}{cs1 cs2:List aN}{fuel:Nat}{listed:Array Bool}(hr:Region.ready .any ops listed=[i,j])(hr1:Region.ready .any ops (listed.setIfInBounds i true)=[j])(hr2:Region.ready .any ops (listed.setIfInBounds j true)=[i])
  (hi:ops.toList[i]?=some o) (hw:dn ops o ⟨n,T,⟨bx,rw⟩,ts⟩=some true) (hi2:ops.toList[j]?=some o2) (hw2:dn ops o2 ⟨n,T,⟨bx,rw⟩,ts⟩=some true) (hg1:o.guard=none) (hg2:o2.guard=none) (ho:o.op=.alloc E1) (hd1:o.dst=some ep) (hn1:ep<n) (ho2:o2.op=.alloc E2) (hd2:o2.dst=some fS) (hn2:fS<n) (hne:ep≠fS) (hij:i≠j)
  (hz1:∀w,(zeroValue E1).run P w=.ok z1 w) (hc1:jo (fy z1)=some cs1) (hz2:∀w,(zeroValue E2).run P w=.ok z2 w) (hc2:jo (fy z2)=some cs2)
  (h:∀b1 b2,dh P ops Z fuel ((listed.setIfInBounds i true).setIfInBounds j true) ⟨n,b2::b1::T,⟨⟨b2,E2,cs2⟩::⟨b1,E1,cs1⟩::bx,rw⟩,(fS,aE b2)::(ep,aE b1)::ts⟩ K):
  dh P ops Z (fuel+1+1) listed ⟨n,T,⟨bx,rw⟩,ts⟩ K:=by
 have w1:∀st,dn ops o st=some true:=λst=>by unfold dn;rw [hg1]
 have w2:∀st,dn ops o2 st=some true:=λst=>by unfold dn;rw [hg2]
 refine two i j hr hi (w1 _) hi2 (w2 _) (iG ho hd1 hn1 hz1 hc1 λb1=>?_) (iG ho2 hd2 hn2 hz2 hc2 λb2=>?_)
 ·exact one j hr1 hi2 (w2 _) (iG ho2 hd2 hn2 hz2 hc2 λb2=>h b1 b2)
 refine one i hr2 hi (w1 _) (iG ho hd1 hn1 hz1 hc1 λb1=>?_);have h9:=h b1 b2;rw [Array.setIfInBounds_comm _ _ hij] at h9;refine KN (Sub.trans (UL (List.Perm.swap _ _ _)) (Sub.trans (FO (st:=⟨n,b1::b2::T,⟨⟨b2,E2,cs2⟩::⟨b1,E1,cs1⟩::bx,rw⟩,_⟩) (b2::b1::T) ?_) (NQ ?_))) h9
 ·intro b hb;simp only [mem_cons] at hb⊢;rcases hb with h|h|h<;>simp [h]
 intro k t hk;simp only [look] at hk⊢;by_cases aa:fS=k
 ·rw [if_pos aa] at hk;rw [if_neg (λe=>hne (e.trans aa.symm)),if_pos aa];exact hk
 rw [if_neg aa] at hk⊢;exact hk
theorem jE(r:Int){E yt:bA}{x y:bc}{m k:Int}(ho:o.op=.binOp .sub E x y yt:=by exact rfl)(hx:ay st x=some (bB m):=by exact rfl)(hy:ay st y=some (bB k):=by exact rfl)(hr:m-k=r:=by omega)(h1:-9223372036854775808 <= r:=by omega)(h2:r <= 9223372036854775807:=by omega):cf P U o st (bB r):=by
 subst hr;exact mC (ho:=ho) (hx:=hx) (hy:=hy) (h1:=h1) (h2:=h2)
theorem eP{U:List Nat}{t:AT}(hd:o.dst=some d)(hn:d<n)(hy:cf P [] o ⟨n,T,s,ts⟩ t)(h:K ⟨n,T,s,(d,t)::ts⟩):dN P U o ⟨n,T,s,ts⟩ K:=N4 hd hn hy h
theorem l9{E e:bA}{x y:bc}{α:Type}(f:α -> aN)(lst:List α){k:IntKind}{i:Int}(j:Nat)(ho:o.op=.indexAddr E x y)(hx:ay st x=some (.c (.sl lst.length (lst.map f))))(hy:ay st y=some (au (.int k i)))(hi:i=j)(hj:j<lst.length)
  (hu:∀w,(underlying E).run P w=.ok (.slice e) w) (hS:∀w,(sizeOf e).run P w=.ok 1 w):cf P U o st (.el (f lst[j]::(lst.drop (j+1)).map f)):=by
 have h:=J4 (P:=P) (U:=U) j ho hx hy hi hj (by simpa using hj) hu hS;have aa:(lst.map f).drop (j*1)=f lst[j]::(lst.drop (j+1)).map f:=by rw [nz,←List.map_drop,iK hj,cd]
 rw [aa] at h;exact h
theorem dU{α:Type}(enc enc':α -> List aN)(x:α){z:Nat}{zc:List aN}(he:enc x=enc' x)(h1:zc.length=z)(h2:(enc' x).length=z):lX (λk=>some (k*z,z)) zc [(0,.agg (enc' x))]=some ([x].flatMap enc):=by
 simp only [lX,jo,qA,e0];rw [if_pos ⟨h2,Y⟩,zM Y];simp [he]
theorem Gp{α:Type}(enc enc':α -> List aN)(x y:α){z:Nat}{zc:List aN}(he:∀x,enc x=enc' x)(h1:zc.length=2*z)(h2:∀x,(enc' x).length=z):lX (λk=>some (k*z,z)) zc [(0,.agg (enc' x)),(1,.agg (enc' y))]=some ([x,y].flatMap enc):=by
 simp only [lX,jo,qA,e0,Nat.one_mul];have aa:(splice zc 0 (enc' x)).length=2*z:=by unfold splice;simp [h2];omega
 rw [if_pos ⟨h2 x,Y⟩,if_pos ⟨h2 y,Y⟩];unfold splice;simp only [h2,lM,dw,e0,fD,As,eC,he];rw [r_ (h2 x),zD (by simp [h2];omega)];simp
end
end
section
open Go.RowKit
section
variable {P:Program}{U T:List Nat}{o:Oper}{n d:Nat}{ts:List (Nat×AT)}{bx:List aT}{rw:List aS}{K:AS -> Prop}{Q:Exit -> AS -> Prop}{ops:Array Oper}{l:List Oper}
theorem VE{E e:bA}{x y:bc}{k m z:Nat}{v zv:aM}{cs ds r:List aN}(A:List aS)(i:TypeInfo)(bytes:Nat){B:List aS}(ho:o.op=.call {callee:=.builtin .append,args:=#[x,y],argTypes:=#[E,E]})(hd:o.dst=some d)(hn:d<n)
  (hx:ay ⟨n,T,⟨bx,A++⟨v,e,z,k,cs⟩::B⟩,ts⟩ x=some (au v)) (hy:ay ⟨n,T,⟨bx,A++⟨v,e,z,k,cs⟩::B⟩,ts⟩ y=some (.c (.sl m ds))) (hu:P.underlying E=some (.slice e)) (hi:P.info? e=some i) (hz:i.zero=some zv) (hsz:i.size=z) (hby:i.bytes=bytes) (hzs:zv.cells.size=z) (h0:0<z)
  (hm:ds.length=m*z) (hm0:0<m) (hlen:k+m <= maxLen) (hbytes:(k+m)*bytes <= 140737488355328) {N:Nat} (hN:k+m=N) (hU:(⟨bx,A++⟨v,e,z,k,cs⟩::B⟩:aH).bl.Nodup -> ∀b,b∈aO v -> b∈U) (hT:∀b,b∈aO v -> b∈T) (hr:cs++ds=r)
  (h:∀v',K ⟨n,aO v'++T,⟨bx,A++⟨v',e,z,N,r⟩::B⟩,(d,au v')::ts⟩):dN P U o ⟨n,T,⟨bx,A++⟨v,e,z,k,cs⟩::B⟩,ts⟩ K:=by
 subst hr;subst hN;exact E7 A ho hd hn hx J hy hu hi hz hsz hby hzs h0 hm hm0 hlen hbytes hU hT h
theorem OH{R R':List aS}{r:aS}{w:aV}(hm:Mem ⟨bx,R++r::R'⟩ w)(hz:0<r.z):jK (bi (⟨bx,R++R'⟩:aH).bl w) (.sl r.n r.cs) r.v:=by
 obtain ⟨us,hownR,hrep⟩:=hm.row r aK;have hown:=hownR.row hz;have hbl:∀b,b∈(⟨bx,R++R'⟩:aH).bl -> b∈(⟨bx,R++r::R'⟩:aH).bl:=λb hb=>by
  unfold aH.bl at hb⊢;simp only [d4,fD,mem_append] at hb⊢;rcases hb with h|h|h
  ·exact .inl h
  ·exact .inr (.inl h)
  exact .inr (.inr (.inr h))
 refine .sl _ _ us _ ?_ hrep.len (λk h h'=>(hrep.at_ k h h').mono (up_sub hbl)) (Ad hown);obtain ⟨p,cap,he,hc,hr⟩:=dr.of_owns hown;refine ⟨p,cap,he,hc,?_⟩;rcases hr with h0|⟨b,off,rfl,hr⟩
 ·exact .inl h0
 refine .inr ⟨b,off,J,λj x hj=>?_⟩;have hbv:b∈aO r.v:=by rw [he];simp [aO,Value.ownBlock]
 rw [np]
 ·exact hr j x hj
 intro hm1;have hnd:=hm.nodup;rw [xT bx R R' r] at hnd;have hm2:b∈(bx.map aT.b++R.flatMap λr=>aO r.v)∨b∈R'.flatMap λr=>aO r.v:=by
  unfold aH.bl at hm1;simp only [d4,mem_append] at hm1⊢;rcases hm1 with h|h|h
  ·exact .inl (.inl h)
  ·exact .inl (.inr h)
  exact .inr h
 rcases hm2 with hm2|hm2
 ·exact (du.1 hnd).2.2 b hm2 b (fj _ hbv) J
 exact (du.1 (du.1 hnd).2.1).2.2 b hbv b hm2 J
theorem Dd{b:Nat}{E:bA}{cs:List aN}{r:aS}(A:List aT){B:List aT}(i:Nat)(hi:cs[i]?=some (.val r.v))(hz:0<r.z:=by decide):jU ⟨A++⟨b,E,cs⟩::B,r::rw⟩ ⟨A++⟨b,E,cs.set i (.sl r.n r.cs)⟩::B,rw⟩:=by
 intro w hm;have hf:=OH (R:=[]) hm hz;obtain ⟨h1,h2⟩:=aj (s:=⟨A++⟨b,E,cs⟩::B,r::rw⟩) (s':=⟨A++⟨b,E,cs⟩::B,rw⟩) (.refl _) (vU _ _) w hm;have hbl:(⟨A++⟨b,E,cs.set i (.sl r.n r.cs)⟩::B,rw⟩:aH).bl=(⟨A++⟨b,E,cs⟩::B,rw⟩:aH).bl:=by unfold aH.bl;simp
 refine ⟨⟨by rw [hbl];exact h1.nodup,by rw [hbl];exact h1.lt,λx hx=>?_,λx hx=>by rw [hbl];exact h1.row x hx⟩,by rw [hbl];exact h2⟩;rw [hbl];rcases mem_append.1 hx with hx|hx
 ·exact h1.box x (fj _ hx)
 rcases mem_cons.1 hx with rfl|hx
 ·obtain ⟨us,aa,e2⟩:=h1.box ⟨b,E,cs⟩ aK;refine ⟨us,aa,?_⟩;obtain ⟨u,g1,g2⟩:=e2.get hi;cases g2;have h9:=e2.set i hf;have hus:us.set i r.v=us:=by
   refine lw aK λj h1 h2=>?_;rw [CS];split
   ·rename_i hj;subst hj;exact (mM.1 g1).2.symm
   rfl
  rw [hus] at h9;exact h9
 exact h1.box x (f7 _ (dT _ hx))
theorem iE{b:Nat}{E:bA}{cs cs':List aN}{v:aM}{E2:bA}{z k:Nat}{ds:List aN}(A:List aT){B:List aT}(i:Nat)(hi:cs[i]?=some (.val v))(hr:cs.set i (.sl k ds)=cs')(h:cL P ops l ⟨n,T,⟨A++⟨b,E,cs'⟩::B,rw⟩,ts⟩ Q)(hz:0<z:=by decide):cL P ops l ⟨n,T,⟨A++⟨b,E,cs⟩::B,⟨v,E2,z,k,ds⟩::rw⟩,ts⟩ Q:=by
 subst hr;exact rh (qO (st:=⟨n,T,⟨A++⟨b,E,cs⟩::B,⟨v,E2,z,k,ds⟩::rw⟩,ts⟩) (Dd (r:=⟨v,E2,z,k,ds⟩) A i hi hz)) h
theorem gP{st:AS}{rv:ResultVar}{r r':AT}(h:bu r r')(hr:lN P st rv r):lN P st rv r':=λa w hs=>
 let ⟨v,h1,h2⟩:=hr a w hs
 ⟨v,h _ _ h1,h2⟩
end
end
section
open Go.RowKit
class dY (N:Nat) (g:Prop) (g':outParam Prop):Prop where out:g' -> g
def go(N:Nat){g g':Prop}[h:dY N g g'](x:g'):g:=h.out x
instance aDe{g:Prop}:dY 0 g g:=⟨id⟩
class oI (d n:Nat):Prop where h:d<n
instance aC2{d k:Nat}:oI d (k+d+1):=⟨Y⟩
class Ai (i j:Nat):Prop where h:i≠j
instance aA9{i j:Nat}[h:oI i j]:Ai i j:=⟨by have:=h.h;omega⟩
instance ZF{i j:Nat}[h:oI j i]:Ai i j:=⟨by have:=h.h;omega⟩
class vk (ts:List (Nat×AT)) (i:Nat) (t:outParam AT):Prop where h:look ts i=some t
instance (priority:=1100) look_hit{ts:List (Nat×AT)}{i:Nat}{t:AT}:vk ((i,t)::ts) i t:=⟨by simp [look]⟩
instance Zs{ts:List (Nat×AT)}{i j:Nat}{t u:AT}[h1:Ai j i][h2:vk ts i t]:vk ((j,u)::ts) i t:=⟨by rw [look,if_neg h1.h];exact h2.h⟩
class qR (u:AT) (t:outParam AT):Prop where h:u.bare=t
instance Zw{x:aN}:qR (.c x) (.c x):=⟨rfl⟩
instance Xu{x:List aN}:qR (.agg x) (.agg x):=⟨rfl⟩
instance Wn{x:List AT}:qR (.tup x) (.tup x):=⟨rfl⟩
instance Wr{x:List aN}:qR (.el x) (.el x):=⟨rfl⟩
instance Wh{x:Value}:qR (.raw x) (.raw x):=⟨rfl⟩
instance XD{t:AT}{p:World -> Prop}:qR (.ride t p) t:=⟨rfl⟩
instance aA4{t:AT}{a b c d:Nat}{x y:List aN}:qR (.fact (.fact t a b x) c d y) t:=⟨rfl⟩
class uC (vs:List Value) (cs:outParam (List aN)):Prop where h:vs.all (·.oneCell')=true /\ vs.map .val=cs
instance ZZ:uC [] []:=⟨rfl,rfl⟩
class qF (v:Value):Prop where h:v.oneCell'=true
instance aCe{k:IntKind}{i:Int}:qF (.int k i):=⟨rfl⟩
instance V8{b:Bool}:qF (.bool b):=⟨rfl⟩
instance aCo{b:ByteArray}:qF (.string b):=⟨rfl⟩
instance aDX{b:Option Addr}:qF (.pointer b):=⟨rfl⟩
instance WH{a:Option Addr}{m k:Nat}:qF (.slice a m k):=⟨rfl⟩
instance ZA{f:Fn}{a b:Array Value}:qF (.func f a b):=⟨rfl⟩
instance X':qF .nilFunc:=⟨rfl⟩
instance Z9{v:Value}{vs:List Value}{cs:List aN}[h1:qF v][h2:uC vs cs]:uC (v::vs) (.val v::cs):=⟨by simp only [uz,h1.h,h2.h.1,Bool.and_self],by rw [cd,h2.h.2]⟩
class pA (v:Value) (t:outParam AT):Prop where h:fy v=t
instance aAK{k:IntKind}{i:Int}:pA (.int k i) (au (.int k i)):=⟨rfl⟩
instance aAQ{b:Bool}:pA (.bool b) (ap b):=⟨rfl⟩
instance Xm{b:ByteArray}:pA (.string b) (cB b):=⟨rfl⟩
instance aBo{b:Option Addr}:pA (.pointer b) (au (.pointer b)):=⟨rfl⟩
instance Zn{a:Option Addr}{m k:Nat}:pA (.slice a m k) (au (.slice a m k)):=⟨rfl⟩
instance Xy:pA .nilFunc (au .nilFunc):=⟨rfl⟩
instance Xc{vs:List Value}{cs:List aN}[h:uC vs cs]:pA (.agg vs.toArray) (.agg cs):=⟨by
 show (if vs.toArray.toList.all (·.oneCell') then AT.agg (vs.toArray.toList.map .val) else .raw (.agg vs.toArray))=_
 rw [B8,if_pos h.h.1,h.h.2]⟩
class gC (ts:List (Nat×AT)) (x:Operand) (t:outParam AT):Prop where h:∀n T s,ay ⟨n,T,s,ts⟩ x=some t
instance aAr{ts:List (Nat×AT)}{i:Nat}{u t:AT}[h1:vk ts i u][h2:qR u t]:gC ts (.tmp i) t:=⟨λn T s=>by show (look ts i).map AT.bare=_;rw [h1.h,nt,h2.h]⟩
instance aCg{ts:List (Nat×AT)}{v:Value}{t:AT}[h:pA v t]:gC ts (.const v) t:=⟨λn T s=>by show some (fy v)=_;rw [h.h]⟩
instance aCI{ts:List (Nat×AT)}{f:FuncId}:gC ts (.func f) (au (.func (.func f) #[] #[])):=⟨λn T s=>rfl⟩
class qT (l:List Oper) (j:Nat) (t:outParam Nat):Prop where h:(l[j]?).bind (·.dst)=some t
instance ZJ{t:Nat}{op:Op}{ty:TypeId}{pos:String}{af:Array Edge}{g:Option (Nat×Bool)}{l:List Oper}:qT (⟨some t,op,ty,pos,af,g⟩::l) 0 t:=⟨rfl⟩
instance aAU{t j:Nat}{o:Oper}{l:List Oper}[h:qT l j t]:qT (o::l) (j+1) t:=⟨AF⟩
class t_ (b want:Bool) (r:outParam Bool):Prop where h:(b == want)=r
instance aDi:t_ true true true:=⟨rfl⟩
instance aCp:t_ true false false:=⟨rfl⟩
instance aA3:t_ false true false:=⟨rfl⟩
instance ZV:t_ false false true:=⟨rfl⟩
class Df (t:AT) (want:Bool) (r:outParam Bool):Prop where h:(match t with|.c (.val v)=>some (um want v)|.raw v=>some (um want v)|_=>none)=some r
instance Za{b want r:Bool}[h:t_ b want r]:Df (ap b) want r:=⟨by show some (b == want)=some r;rw [h.h]⟩
instance aBy{want:Bool}:Df (.raw undef) want false:=⟨rfl⟩
class uk (l:List Oper) (ts:List (Nat×AT)) (g:Option (Nat×Bool)) (r:outParam Bool):Prop where h:∀n T s (o:Oper),o.guard=g -> dn l.toArray o ⟨n,T,s,ts⟩=some r
instance aBv{l:List Oper}{ts:List (Nat×AT)}:uk l ts none true:=⟨λn T s o h=>by unfold dn;rw [h]⟩
instance Wa{l:List Oper}{ts:List (Nat×AT)}{j t:Nat}{want r:Bool}{u:AT}[h1:qT l j t][h2:vk ts t u][h3:Df u want r]:uk l ts (some (j,want)) r:=⟨λn T s o h=>by
 unfold dn;rw [h];dsimp only;rw [h1.h];dsimp only;rw [h2.h];have h4:=h3.h
 revert h4
 cases u with
 |c x=>cases x with
  |val v=>exact id
  |sl _ _=>exact id
 |raw v=>exact id
 |_=>exact id⟩
class kK (P:Program) (U:List Nat) (op:Op) (n:Nat) (T:List Nat) (s:aH) (ts:List (Nat×AT)) (t:outParam AT):Prop where h:∀o:Oper,o.op=op -> cf P U o ⟨n,T,s,ts⟩ t
class xx (r:Bool) (P:Program) (U:List Nat) (op:Op) (n:Nat) (T:List Nat) (s:aH) (ts:List (Nat×AT)) (t:outParam AT):Prop where h:(r=true -> ∀o:Oper,o.op=op -> cf P U o ⟨n,T,s,ts⟩ t) /\ (r=false -> t=.raw undef)
section
variable {P:Program}{U T:List Nat}{n:Nat}{s:aH}{ts:List (Nat×AT)}{t u:AT}
instance stepT{op:Op}[h:kK P U op n T s ts t]:xx true P U op n T s ts t:=⟨λ_=>h.h,(λh=>gM)⟩
instance Zi{op:Op}:xx false P U op n T s ts (.raw undef):=⟨(λh=>gM),λ_=>rfl⟩
instance aA7{x:Operand}[h:gC ts x t]:kK P U (.move x) n T s ts t:=⟨λo ho=>nQ ho (h.h _ _ _)⟩
instance Yh{x:Operand}[h:gC ts x t]:kK P U (.assign x) n T s ts t:=⟨λo ho=>wK ho (h.h _ _ _)⟩
instance YK{c x y:Operand}[hc:gC ts c (ap true)][h:gC ts x t]:kK P U (.pick c x y) n T s ts t:=⟨λo ho=>I1 (b:=true) ho (hc.h _ _ _) (h.h _ _ _)⟩
instance Wz{c x y:Operand}[hc:gC ts c (ap false)][h:gC ts y t]:kK P U (.pick c x y) n T s ts t:=⟨λo ho=>I1 (b:=false) ho (hc.h _ _ _) (h.h _ _ _)⟩
end
class gO (cs:List aN) (z:Nat):Prop where h:cs.length=z
instance V1:gO [] 0:=⟨rfl⟩
instance aA8{c:aN}{cs:List aN}{k:Nat}[h:gO cs k]:gO (c::cs) (k+1):=⟨by rw [length_cons,h.h]⟩
instance Xr{x:aP}:gO (bR x) 4:=⟨fw x⟩
instance Z6{x:aP}:gO (bb x) 4:=⟨rfl⟩
instance W1{x:cD}:gO (encR x) 2:=⟨rfl⟩
instance Xp{x:cK}:gO (dA x) 7:=⟨rfl⟩
instance aCk{x:aL}:gO (encS x) 11:=⟨nj x⟩
instance aCT{x:aL}:gO (dW x) 11:=⟨rfl⟩
instance aCJ{x:bp}:gO (cG x) 2:=⟨rfl⟩
instance ZU{x:bE}:gO (ac x) 3:=⟨rfl⟩
instance aAg{x:bw}:gO (ak x) 2:=⟨rfl⟩
instance aDP{x:cq}:gO (aU x) 3:=⟨rfl⟩
instance aB4{x:aZ}:gO (eA x) 3:=⟨rfl⟩
instance aAf{x:Tok}:gO (dO x) 4:=⟨rfl⟩
class gU (cs:List aN) (ds:outParam (List aN)):Prop where h:cs=ds
instance aBn:gU [] []:=⟨rfl⟩
instance Xo{c:aN}{cs:List aN}:gU (c::cs) (c::cs):=⟨rfl⟩
instance XO{x:aP}:gU (bR x) [aA x.op,aA x.num,ae x.name,aB bR x.args]:=⟨Br x⟩
instance Yq{x:aP}:gU (bb x) [aA x.op,aA x.num,ae x.name,aB bR x.args]:=⟨rfl⟩
instance aDd{r:cD}:gU (encR r) [ae r.name,aB bR r.index]:=⟨rfl⟩
instance WQ{a:cK}:gU (dA a) [bD a.mutex,ae a.ref.name,aB bR a.ref.index,aA a.expr.op,aA a.expr.num,ae a.expr.name,aB bR a.expr.args]:=⟨rfl⟩
instance W8{x:aL}:gU (encS x) [aA x.kind,ae x.name,aA x.expr.op,aA x.expr.num,ae x.expr.name,aB bR x.expr.args,ae x.ref.name,aB bR x.ref.index,aB dA x.args,aB encS x.thn,aB encS x.els]:=⟨Dp x⟩
instance aBA{x:aL}:gU (dW x) [aA x.kind,ae x.name,aA x.expr.op,aA x.expr.num,ae x.expr.name,aB bR x.expr.args,ae x.ref.name,aB bR x.ref.index,aB dA x.args,aB encS x.thn,aB encS x.els]:=⟨rfl⟩
instance Ye{p:bp}:gU (cG p) [ae p.name,bD p.mutex]:=⟨rfl⟩
instance aDb{f:bE}:gU (ac f) [ae f.name,aB cG f.params,aB encS f.body]:=⟨rfl⟩
instance Y5{g:bw}:gU (ak g) [ae g.name,aA g.init]:=⟨rfl⟩
instance Yx{m:cq}:gU (aU m) [ae m.name,bD m.reentrant,aA m.size]:=⟨rfl⟩
instance XB{p:aZ}:gU (eA p) [aB ak p.globals,aB aU p.mutexes,aB ac p.funcs]:=⟨rfl⟩
instance XE{t:Tok}:gU (dO t) [aA t.kind,ae t.text,aA t.num,aA t.pos]:=⟨rfl⟩
instance Xx{vs:List Value}{cs:List aN}[h:uC vs cs]:gU (List.map aN.val (List.toArray vs).toList) cs:=⟨by rw [B8];exact h.h.2⟩
instance Wc{vs:List Value}{cs:List aN}{z:Nat}[h:uC vs cs][h2:gO cs z]:gO (List.map aN.val (List.toArray vs).toList) z:=⟨by rw [B8,h.h.2];exact h2.h⟩
class zo (cs:List aN) (i:Nat) (c:aN) (r:outParam (List aN)):Prop where h:cs.set i c=r
instance aBs{c d:aN}{cs:List aN}:zo (d::cs) 0 c (c::cs):=⟨rfl⟩
instance aDo{c d:aN}{cs r:List aN}{i:Nat}[h:zo cs i c r]:zo (d::cs) (i+1) c (d::r):=⟨by rw [List.set_cons_succ,h.h]⟩
instance aB3{cs cs' r:List aN}{i:Nat}{c:aN}[h:gU cs cs'][h2:zo cs' i c r]:gU (cs.set i c) r:=⟨by rw [h.h,h2.h]⟩
instance aBr{cs:List aN}{i z:Nat}{c:aN}[h:gO cs z]:gO (cs.set i c) z:=⟨by rw [List.length_set,h.h]⟩
instance aDr{cs ds R:List aN}[h:gU cs ds]:gU (cs++R) (ds++R):=⟨by rw [h.h]⟩
class uX (cs:List aN) (z:Nat) (ds:outParam (List aN)):Prop where h:cs.take z=ds /\ z <= cs.length
instance aBU{cs:List aN}:uX cs 0 []:=⟨aK⟩
instance aAx{c:aN}{cs ds:List aN}{z:Nat}[h:uX cs z ds]:uX (c::cs) (z+1) (c::ds):=⟨by simp [h.h.1,h.h.2]⟩
instance YV{cs R ds:List aN}{z:Nat}[h:uX cs z ds]:uX (cs++R) z ds:=⟨by rw [List.take_append_of_le_length h.h.2,length_append];exact ⟨h.h.1,by have:=h.h.2;omega⟩⟩
class qZ (cs:List aN) (o:Nat) (ds:outParam (List aN)):Prop where h:cs.drop o=ds /\ o <= cs.length
instance WV{cs:List aN}:qZ cs 0 cs:=⟨aK⟩
instance Wt{c:aN}{cs ds:List aN}{o:Nat}[h:qZ cs o ds]:qZ (c::cs) (o+1) ds:=⟨by simp [h.h.1,h.h.2]⟩
instance aDQ{cs ds R:List aN}{o:Nat}[h:qZ cs o ds]:qZ (cs++R) o (ds++R):=⟨by
 refine ⟨?_,by have:=h.h.2;simp;omega⟩;rw [List.drop_append_of_le_length h.h.2,h.h.1]⟩
class rI (ag:Bool) (z:Nat) (cs:List aN) (off:Nat) (t:outParam AT):Prop where h:gV ag z cs off=some t
instance (priority:=1200) pkN_whole{cs:List aN}{z:Nat}[h:gO cs z]:rI true z cs 0 (.agg cs):=⟨cY h.h rfl⟩
instance (priority:=1100) pkN_head{cs R:List aN}{z:Nat}[h:gO cs z]:rI true z (cs++R) 0 (.agg cs):=⟨Tk h.h rfl⟩
instance Yt{cs cs' c2 ds:List aN}{z off:Nat}[h1:gU cs cs'][h2:qZ cs' off c2][h3:uX c2 z ds]:rI true z cs off (.agg ds):=⟨by
 rw [h1.h];unfold gV;rw [if_pos rfl,if_pos,h2.h.1,h3.h.1];have aa:=h3.h.2;rw [←h2.h.1,jk] at aa;have e2:=h2.h.2;omega⟩
class Be (cs:List aN) (c:outParam aN):Prop where h:cs[0]?=some c
instance aCu{c:aN}{cs:List aN}:Be (c::cs) c:=⟨rfl⟩
instance Z7{c:aN}{cs R:List aN}:Be (c::cs++R) c:=⟨rfl⟩
instance ZQ{cs cs' c2:List aN}{z off:Nat}{c:aN}[h1:gU cs cs'][h2:qZ cs' off c2][h3:Be c2 c]:rI false z cs off (.c c):=⟨by
 rw [h1.h];unfold gV;rw [if_neg aK];have e3:=h3.h;rw [←h2.h.1,oi] at e3;rw [sY] at e3;rw [e3];rfl⟩
class ti (cs:List aN) (off:Nat) (ds:List aN) (r:outParam (List aN)):Prop where h:splice cs off ds=r /\ off+ds.length <= cs.length
instance aAs{cs:List aN}:ti cs 0 [] cs:=⟨by simp [splice]⟩
instance Xi{c d:aN}{cs ds r:List aN}[h:ti cs 0 ds r]:ti (c::cs) 0 (d::ds) (d::r):=⟨by
 have e:=h.h;refine ⟨?_,by have:=e.2;simp at this⊢;omega⟩;have aa:=e.1;unfold splice at aa⊢;simp at aa⊢;exact aa⟩
instance aBp{c:aN}{cs ds r:List aN}{o:Nat}[h:ti cs o ds r]:ti (c::cs) (o+1) ds (c::r):=⟨by
 have e:=h.h;refine ⟨?_,by have:=e.2;simp at this⊢;omega⟩;have aa:=e.1;unfold splice at aa⊢;rw [show o+1+ds.length=(o+ds.length)+1 by omega];simp only [jI,List.drop_succ_cons,eD,aa]⟩
class sx (cs:List aN) (off:Nat) (ds:List aN) (z:Nat) (r:outParam (List aN)):Prop where h:splice cs off ds=r /\ off+z <= cs.length /\ ds.length=z
instance (priority:=1200) spl_all{cs ds:List aN}{z:Nat}[h1:gO cs z][h2:gO ds z]:sx cs 0 ds z ds:=⟨zM (by rw [h1.h,h2.h]),by rw [h1.h];omega,h2.h⟩
instance aBL{cs cs' ds ds' r:List aN}{off z:Nat}[h1:gU cs cs'][h2:gU ds ds'][h3:gO ds' z][h4:ti cs' off ds' r]:sx cs off ds z r:=⟨by
 rw [h1.h,h2.h];have e:=h4.h;have e2:=h3.h;exact ⟨e.1,Y,e2⟩⟩
class cj (P:Program) (t:TypeId) (ag:outParam Bool) (z:outParam Nat):Prop where h:(∀w,(isAgg t).run P w=.ok ag w) /\ ∀w,(sizeOf t).run P w=.ok z w
class cQ (P:Program) (t:TypeId) (f:Nat) (off:outParam Nat) (ft:outParam TypeId):Prop where h:∃fs,(∀w,(underlying t).run P w=.ok (.struct fs) w) /\ qg fs f=some (off,ft)
class kh (P:Program) (t:TypeId) (e:outParam TypeId):Prop where h:∀w,(underlying t).run P w=.ok (.slice e) w
class Gi (P:Program) (t:TypeId):Prop where h:∀w,(underlying t).run P w=.ok .string w
class de (P:Program) (t:TypeId) (cs:outParam (List aN)):Prop where h:∃z,(∀w,(zeroValue t).run P w=.ok z w) /\ jo (fy z)=some cs
class eQ (p o:Nat) (q:outParam Nat):Prop where h:p+o=q
instance (priority:=1100) addN_0{o:Nat}:eQ 0 o o:=⟨e0 o⟩
instance aC4{p:Nat}:eQ p 0 p:=⟨rfl⟩
class kZ (bx:List aT) (b:Nat) (A:outParam (List aT)) (T:outParam TypeId) (cs:outParam (List aN)) (B:outParam (List aT)):Prop where h:bx=A++⟨b,T,cs⟩::B
instance (priority:=1100) boxIn_hit{b:Nat}{T:TypeId}{cs:List aN}{B:List aT}:kZ (⟨b,T,cs⟩::B) b [] T cs B:=⟨rfl⟩
instance aAE{x:aT}{bx A B:List aT}{b:Nat}{T:TypeId}{cs:List aN}[h:kZ bx b A T cs B]:kZ (x::bx) b (x::A) T cs B:=⟨by rw [h.h];rfl⟩
instance aBI{A0 bx B:List aT}{x:aT}{b:Nat}{T:TypeId}{cs:List aN}[h:kZ (x::bx) b [] T cs B]:kZ (A0++x::bx) b A0 T cs B:=⟨by rw [h.h];rfl⟩
instance (priority:=1200) boxIn_capp{x:aT}{A1 R A B:List aT}{b:Nat}{T:TypeId}{cs:List aN}[h:kZ (x::(A1++R)) b A T cs B]:kZ (x::A1++R) b A T cs B:=⟨h.h⟩
instance (priority:=1200) boxIn_napp{R A B:List aT}{b:Nat}{T:TypeId}{cs:List aN}[h:kZ R b A T cs B]:kZ ([]++R) b A T cs B:=⟨h.h⟩
instance (priority:=1200) boxIn_napp2{R A B:List aT}{b:Nat}{T:TypeId}{cs:List aN}[h:kZ R b A T cs B]:kZ (List.append [] R) b A T cs B:=⟨h.h⟩
class pR (A ds:List aT) (r:outParam (List aT)):Prop where h:A++ds=r
instance (priority:=1100) appL_nil{ds:List aT}:pR [] ds ds:=⟨rfl⟩
instance (priority:=1100) appL_cons{x:aT}{A ds r:List aT}[h:pR A ds r]:pR (x::A) ds (x::r):=⟨by rw [eD,h.h]⟩
instance aAd{A ds:List aT}:pR A ds (A++ds):=⟨rfl⟩
class nU (b:Nat) (T:List Nat):Prop where h:b∈T
instance (priority:=1100) inL_hit{b:Nat}{T:List Nat}:nU b (b::T):=⟨aK⟩
instance aCQ{b x:Nat}{T:List Nat}[h:nU b T]:nU b (x::T):=⟨dT _ h.h⟩
instance Wm{b:Nat}{X T:List Nat}[h:nU b T]:nU b (X++T):=⟨f7 _ h.h⟩
instance aDO{b:Nat}{X T:List Nat}[h:nU b X]:nU b (X++T):=⟨fj _ h.h⟩
class Db (b:Nat) (U:List Nat):Prop where h:b∉U
instance aC8{b:Nat}:Db b []:=⟨aK⟩
instance WY{b:Nat}{s:aH}{Z:List Nat}[h:nU b Z]:Db b (fG s Z):=⟨λhm=>(gK.1 hm).2 h.h⟩
class k9 (bx:List aT) (b:Nat):Prop where h:b∈bx.map aT.b
instance (priority:=1100) bIn_hit{b:Nat}{T:TypeId}{cs:List aN}{B:List aT}:k9 (⟨b,T,cs⟩::B) b:=⟨aK⟩
instance aDJ{x:aT}{bx:List aT}{b:Nat}[h:k9 bx b]:k9 (x::bx) b:=⟨by rw [cd];exact dT _ h.h⟩
instance aDB{A bx:List aT}{b:Nat}[h:k9 bx b]:k9 (A++bx) b:=⟨by rw [ed];exact f7 _ h.h⟩
instance (priority:=1200) bIn_capp{x:aT}{A R:List aT}{b:Nat}[h:k9 (x::(A++R)) b]:k9 (x::A++R) b:=⟨h.h⟩
instance (priority:=1200) bIn_napp{R:List aT}{b:Nat}[h:k9 R b]:k9 ([]++R) b:=⟨h.h⟩
instance (priority:=1200) bIn_napp2{R:List aT}{b:Nat}[h:k9 R b]:k9 (List.append [] R) b:=⟨h.h⟩
class ma (bx:List aT) (b z:Nat):Prop where h:(bx.map aT.b).Nodup -> b≠z
instance (priority:=1100) bNe_1{b z:Nat}{T:TypeId}{cs:List aN}{B:List aT}[h:k9 B z]:ma (⟨b,T,cs⟩::B) b z:=⟨λhn he=>JH⟩
instance (priority:=1100) bNe_2{b z:Nat}{T:TypeId}{cs:List aN}{B:List aT}[h:k9 B b]:ma (⟨z,T,cs⟩::B) b z:=⟨λhn he=>JH⟩
instance X2{x:aT}{bx:List aT}{b z:Nat}[h:ma bx b z]:ma (x::bx) b z:=⟨λhn=>h.h (by rw [cd,kE] at hn;exact hn.2)⟩
instance YY{A bx:List aT}{b z:Nat}[h:ma bx b z]:ma (A++bx) b z:=⟨λhn=>h.h (by rw [ed] at hn;exact (du.1 hn).2.1)⟩
instance (priority:=1200) bNe_capp{x:aT}{A R:List aT}{b z:Nat}[h:ma (x::(A++R)) b z]:ma (x::A++R) b z:=⟨h.h⟩
instance (priority:=1200) bNe_napp{R:List aT}{b z:Nat}[h:ma R b z]:ma ([]++R) b z:=⟨h.h⟩
instance (priority:=1200) bNe_napp2{R:List aT}{b z:Nat}[h:ma R b z]:ma (List.append [] R) b z:=⟨h.h⟩
class wz (bx:List aT) (b:Nat) (Z:List Nat):Prop where h:(bx.map aT.b).Nodup -> b∉Z
instance Zd{bx:List aT}{b:Nat}:wz bx b []:=⟨λ_=>aK⟩
instance Yw{bx:List aT}{b z:Nat}{Z:List Nat}[h1:ma bx b z][h2:wz bx b Z]:wz bx b (z::Z):=⟨λhn hm=>by rcases mem_cons.1 hm with e|e;exact h1.h hn e;exact h2.h hn e⟩
class vD (bx:List aT) (rw:List aS) (T U:List Nat) (b:Nat):Prop where h:b∈T /\ ((⟨bx,rw⟩:aH).bl.Nodup -> b∈U)
instance aBk{bx:List aT}{rw:List aS}{T:List Nat}{b:Nat}[h:nU b T]:vD bx rw T T b:=⟨h.h,λ_=>h.h⟩
instance YX{bx:List aT}{rw:List aS}{T Z:List Nat}{b:Nat}[h:nU b T][h2:k9 bx b][h3:wz bx b Z]:vD bx rw T (fG ⟨bx,rw⟩ Z) b:=⟨h.h,λhn=>gK.2 ⟨fj _ h2.h,h3.h (du.1 hn).1⟩⟩
class qC (t:AT) (cs:outParam (List aN)):Prop where h:jo t=some cs
instance Wq{x:aN}:qC (.c x) [x]:=⟨rfl⟩
instance aAM{cs:List aN}:qC (.agg cs) cs:=⟨rfl⟩
section
variable {P:Program}{U T:List Nat}{n:Nat}{s:aH}{bx A B:List aT}{rw:List aS}{ts:List (Nat×AT)}{t u:AT}{x y:Operand}
instance Y4{b r:Bool}[h:gC ts x (ap b)][h2:t_ b false r]{E:TypeId}:kK P U (.unOp .not E x) n T s ts (ap r):=⟨λo ho=>by
 have e:r=!b:=by have:=h2.h;cases b<;>cases r<;>simp_all
 rw [e];exact iY ho (h.h _ _ _)⟩
instance YZ{b off:Nat}[h:gC ts x (au (.pointer (some ⟨b,off,none⟩)))]:kK P U (.nilCheck x) n T s ts (au (.pointer (some ⟨b,off,none⟩))):=⟨λo ho=>Nq ho (h.h _ _ _)⟩
instance XW{cs:List aN}[h:gC ts x (.el cs)]:kK P U (.nilCheck x) n T s ts (.el cs):=⟨λo ho=>U1 ho (h.h _ _ _)⟩
instance aCU{E ft:TypeId}{f b p off q z:Nat}{ag:Bool}[h:gC ts x (au (.pointer (some ⟨b,p,none⟩)))][hf:cQ P E f off ft][hz:cj P ft ag z][h0:oI 0 z][hq:eQ p off q]:kK P U (.fieldAddr E x f) n T s ts (au (.pointer (some ⟨b,q,none⟩))):=⟨λo ho=>by
 obtain ⟨fs,h1,h2⟩:=hf.h;exact qL off q ho (h.h _ _ _) h1 h2 hz.h.2 (by have:=h0.h;omega) hq.h⟩
instance YF{E ft:TypeId}{f off z:Nat}{cs cs' ds:List aN}{ag:Bool}[h:gC ts x (.el cs)][hf:cQ P E f off ft][hz:cj P ft ag z][h0:oI 0 z][hc:gU cs cs'][hd:qZ cs' off ds]:kK P U (.fieldAddr E x f) n T s ts (.el ds):=⟨λo ho=>by
 obtain ⟨fs,h1,h2⟩:=hf.h;have:=UB (P:=P) (U:=U) off ho (h.h n T s) h1 h2 hz.h.2 (by have:=h0.h;omega);rw [hc.h,hd.h.1] at this;exact this⟩
instance aDh{E ft:TypeId}{f off z:Nat}{cs:List aN}{ag:Bool}[h:gC ts x (.agg cs)][hf:cQ P E f off ft][hz:cj P ft ag z][hp:rI ag z cs off t]:kK P U (.field E x f) n T s ts t:=⟨λo ho=>by
 obtain ⟨fs,h1,h2⟩:=hf.h;exact Ua off ho (h.h _ _ _) h1 h2 hz.h.1 hz.h.2 hp.h⟩
instance aBS{E T0:TypeId}{b off z:Nat}{cs:List aN}{ag:Bool}{A B:List aT}[h:gC ts x (au (.pointer (some ⟨b,off,none⟩)))][hb:kZ bx b A T0 cs B][hz:cj P E ag z][hp:rI ag z cs off t][hu:Db b U]:kK P U (.load E x) n T ⟨bx,rw⟩ ts t:=⟨λo ho=>ca (ho:=ho) (hx:=h.h _ _ _) (hb:=hb.h) (hp:=hp.h) (hU:=λ_=>hu.h) A hz.h.1 hz.h.2⟩
instance WE{E:TypeId}{z:Nat}{cs:List aN}{ag:Bool}[h:gC ts x (.el cs)][hz:cj P E ag z][hp:rI ag z cs 0 t]:kK P U (.load E x) n T s ts t:=⟨λo ho=>jh ho (h.h _ _ _) hz.h.1 hz.h.2 hp.h⟩
class yL (l:List AT) (k:Nat) (t:outParam AT):Prop where h:l[k]?=some t
instance aAS{t:AT}{l:List AT}:yL (t::l) 0 t:=⟨rfl⟩
instance aCN{t u:AT}{l:List AT}{k:Nat}[h:yL l k t]:yL (u::l) (k+1) t:=⟨AF⟩
instance Wx{k:Nat}{us:List AT}[h:gC ts x (.tup us)][h2:yL us k t]:kK P U (.extract x k) n T s ts t:=⟨λo ho=>Rj ho (h.h _ _ _) h2.h⟩
instance WF{E e:TypeId}{m:Nat}{cs:List aN}[h:gC ts x (.c (.sl m cs))][hu:kh P E e]:kK P U (.call {callee:=.builtin .len,args:=#[x],argTypes:=#[E]}) n T s ts (aX m):=⟨λo ho=>Pi ho (h.h _ _ _) hu.h⟩
instance XH{E e:TypeId}{m k:Nat}{p:Option Addr}[h:gC ts x (au (.slice p m k))][hu:kh P E e]:kK P U (.call {callee:=.builtin .len,args:=#[x],argTypes:=#[E]}) n T s ts (aX m):=⟨λo ho=>Qq ho (h.h _ _ _) hu.h⟩
instance aCa{E:TypeId}{b:ByteArray}[h:gC ts x (cB b)][hu:Gi P E]:kK P U (.call {callee:=.builtin .len,args:=#[x],argTypes:=#[E]}) n T s ts (aX b.size):=⟨λo ho=>UK ho (h.h _ _ _) hu.h⟩
end
class zJ (ts:List (Nat×AT)) (ps:List (Nat×Operand)) (us:outParam (List (Nat×AT))):Prop where h:∀n T s,nq ⟨n,T,s,ts⟩ ps us
instance aBG{ts:List (Nat×AT)}:zJ ts [] []:=⟨λ_ _ _=>.nil⟩
instance aBK{ts:List (Nat×AT)}{i:Nat}{x:Operand}{ps:List (Nat×Operand)}{t:AT}{us:List (Nat×AT)}[h1:gC ts x t][h2:zJ ts ps us]:zJ ts ((i,x)::ps) ((i,t)::us):=⟨λn T s=>.cons (h1.h n T s) (h2.h n T s)⟩
class iA (P:Program) (E:TypeId) (pl:outParam (List (Nat×Nat))) (zc:outParam (List aN)):Prop where h:∃(fs:Array Field) (i:TypeInfo) (z:Value),P.underlying E=some (.struct fs) /\ P.info? E=some i /\ i.zero=some z /\ fs.toList.mapM (λf=>(P.info? f.type).map λi=>(f.offset,i.size))=some pl /\ jo (fy z)=some zc
class zd (l:List (Nat×Nat)) (k:Nat) (p:outParam (Nat×Nat)):Prop where h:l[k]?=some p
instance aAp{t:Nat×Nat}{l:List (Nat×Nat)}:zd (t::l) 0 t:=⟨rfl⟩
instance aDu{t u:Nat×Nat}{l:List (Nat×Nat)}{k:Nat}[h:zd l k t]:zd (u::l) (k+1) t:=⟨AF⟩
class yd (pl:List (Nat×Nat)) (zc:List aN) (us:List (Nat×AT)) (r:outParam (List aN)):Prop where h:lX (pl.toArray[·]?) zc us=some r
instance aC6{pl:List (Nat×Nat)}{zc:List aN}:yd pl zc [] zc:=⟨rfl⟩
instance aDD{pl:List (Nat×Nat)}{zc c1 r ds:List aN}{i off z:Nat}{t:AT}{us:List (Nat×AT)}[h1:zd pl i (off,z)][h2:qC t ds][h3:sx zc off ds z c1][h4:yd pl c1 us r]:yd pl zc ((i,t)::us) r:=⟨by
 have aa:=h1.h;have e:pl.toArray[i]?=some (off,z):=by rw [B4];exact aa
 rw [lX,e,h2.h];dsimp only;rw [if_pos ⟨h3.h.2.2,h3.h.2.1⟩,h3.h.1];exact h4.h⟩
instance aDt{P:Program}{U T:List Nat}{n:Nat}{s:aH}{ts:List (Nat×AT)}{E:TypeId}{ps:List (Nat×Operand)}{us:List (Nat×AT)}{pl:List (Nat×Nat)}{zc r:List aN}[h1:zJ ts ps us][h2:iA P E pl zc][h3:yd pl zc us r]:kK P U (.build E ps.toArray) n T s ts (.agg r):=⟨λo ho=>by
 obtain ⟨fs,i,z,aa,e2,e3,e4,e5⟩:=h2.h;exact wV i pl ho (h1.h _ _ _) aa e2 e3 e4 e5 h3.h⟩
section
variable {P:Program}{U T:List Nat}{n:Nat}{s:aH}{ts:List (Nat×AT)}{t u:AT}{Q:Exit -> AS -> Prop}{g:Prop}{K:AS -> Prop}{st:AS}{N:Nat}
instance Xa{x y:Code}[h:dY N (bo P x st (j_ (λs=>bo P y s Q) Q)) g]:dY (N+1) (bo P (.seq x y) st Q) g:=⟨λk=>AG (h.out k)⟩
instance XM{id:Nat}{l:List Oper}[h:dY N (cL P l.toArray l st Q) g]:dY (N+1) (bo P (.region id l.toArray false) st Q) g:=⟨λk=>F3 (h.out k)⟩
instance aBu{id:Nat}{c:Code}[h:dY N (bo P c st (o8 id Q)) g]:dY (N+1) (bo P (.block id c) st Q) g:=⟨λk=>Vu (h.out k)⟩
instance aDg{id:Nat}[h:dY N (Q (.exit id) st) g]:dY (N+1) (bo P (.exit id) st Q) g:=⟨λk=>Vk (h.out k)⟩
instance We[h:dY N (Q .ret st) g]:dY (N+1) (bo P .ret st Q) g:=⟨λk=>RE (h.out k)⟩
instance YJ[h:dY N (Q .normal st) g]:dY (N+1) (bo P .skip st Q) g:=⟨λk=>VO (h.out k)⟩
instance aAn{c:Operand}{x y:Code}[hc:gC ts c (ap true)][h:dY N (bo P x ⟨n,T,s,ts⟩ Q) g]:dY (N+1) (bo P (.cond c x y) ⟨n,T,s,ts⟩ Q) g:=⟨λk=>o_ (hc.h _ _ _) rfl (h.out k)⟩
instance Y2{c:Operand}{x y:Code}[hc:gC ts c (ap false)][h:dY N (bo P y ⟨n,T,s,ts⟩ Q) g]:dY (N+1) (bo P (.cond c x y) ⟨n,T,s,ts⟩ Q) g:=⟨λk=>R0 (hc.h _ _ _) rfl (h.out k)⟩
instance aDC[h:dY N (K st) g]:dY (N+1) (j_ K Q .normal st) g:=⟨λk=>h.out k⟩
instance aBJ[h:dY N (Q .ret st) g]:dY (N+1) (j_ K Q .ret st) g:=⟨λk=>h.out k⟩
instance XP{id:Nat}[h:dY N (Q (.exit id) st) g]:dY (N+1) (j_ K Q (.exit id) st) g:=⟨λk=>h.out k⟩
instance Yv{id:Nat}[h:dY N (Q .normal st) g]:dY (N+1) (o8 id Q .normal st) g:=⟨λk=>h.out k⟩
instance WL{id:Nat}[h:dY N (Q .ret st) g]:dY (N+1) (o8 id Q .ret st) g:=⟨λk=>h.out k⟩
instance (priority:=1100) g_inE{id:Nat}[h:dY N (Q .normal st) g]:dY (N+1) (o8 id Q (.exit id) st) g:=⟨λk=>P_ (h.out k)⟩
instance Xh{id id':Nat}[hn:Ai id' id][h:dY N (Q (.exit id') st) g]:dY (N+1) (o8 id Q (.exit id') st) g:=⟨λk=>Vb hn.h (h.out k)⟩
instance aAI{ops:Array Oper}[h:dY N (Q .normal st) g]:dY (N+1) (cL P ops [] st Q) g:=⟨λk=>FL (h.out k)⟩
instance YL{l0 l:List Oper}{d:Nat}{op:Op}{ty:TypeId}{pos:String}{af:Array Edge}{gd:Option (Nat×Bool)}{r:Bool}[h1:uk l0 ts gd r][h2:xx r P [] op n T s ts t][h3:oI d n][h:dY N (cL P l0.toArray l ⟨n,T,s,(d,t)::ts⟩ Q) g]:dY (N+1) (cL P l0.toArray (⟨some d,op,ty,pos,af,gd⟩::l) ⟨n,T,s,ts⟩ Q) g:=⟨λk=>by
 cases r with
 |true=>exact yp (h1.h _ _ _ _ rfl) rfl h3.h (h2.h.1 rfl _ rfl) (h.out k)
 |false=>obtain rfl:=h2.h.2 rfl;exact R_ (h1.h _ _ _ _ rfl) rfl h3.h (h.out k)⟩
instance aBX{l0 l:List Oper}{d:Nat}{E:TypeId}{ty:TypeId}{pos:String}{af:Array Edge}{cs:List aN}{bx:List aT}{rw:List aS}{G:Nat -> Prop}[h1:de P E cs][h3:oI d n][h:∀b,dY N (cL P l0.toArray l ⟨n,b::T,⟨⟨b,E,cs⟩::bx,rw⟩,(d,aE b)::ts⟩ Q) (G b)]:dY (N+1) (cL P l0.toArray (⟨some d,.alloc E,ty,pos,af,none⟩::l) ⟨n,T,⟨bx,rw⟩,ts⟩ Q) (∀b,G b):=⟨λk=>by
 obtain ⟨z,aa,e2⟩:=h1.h;exact aW J (iG J J h3.h aa e2 λb=>(h b).out (k b))⟩
instance W9{l0 l:List Oper}{d:Nat}{E:TypeId}{x:Operand}{ty:TypeId}{pos:String}{af:Array Edge}{cs:List aN}{bx:List aT}{rw:List aS}{G:Nat -> Prop}[h1:gC ts x t][h2:qC t cs][h3:oI d n][h:∀b,dY N (cL P l0.toArray l ⟨n,b::T,⟨⟨b,E,cs⟩::bx,rw⟩,(d,aE b)::ts⟩ Q) (G b)]:dY (N+1) (cL P l0.toArray (⟨some d,.box E x,ty,pos,af,none⟩::l) ⟨n,T,⟨bx,rw⟩,ts⟩ Q) (∀b,G b):=⟨λk=>aW rfl (G5 rfl rfl h3.h (h1.h _ _ _) h2.h λb=>(h b).out (k b))⟩
instance aBq{l0 l:List Oper}{E T0:TypeId}{x y:Operand}{ty:TypeId}{pos:String}{af:Array Edge}{gd:Option (Nat×Bool)}{b off z:Nat}{cs ds r:List aN}{ag:Bool}{bx A B:List aT}{rw:List aS}[h0:uk l0 ts gd true][h1:gC ts x (au (.pointer (some ⟨b,off,none⟩)))][h2:gC ts y t][h3:qC t ds][h4:kZ bx b A T0 cs B][h5:cj P E ag z][h6:sx cs off ds z r]{bx2:List aT}[h7:vD bx rw T T b][h8:pR A (⟨b,T0,r⟩::B) bx2][h:dY N (cL P l0.toArray l ⟨n,T,⟨bx2,rw⟩,ts⟩ Q) g]:dY (N+1) (cL P l0.toArray (⟨none,.store E x y,ty,pos,af,gd⟩::l) ⟨n,T,⟨bx,rw⟩,ts⟩ Q) g:=⟨λk=>
 aW (h0.h _ _ _ _ rfl) (AB A rfl rfl (h1.h _ _ _) (h2.h _ _ _) h3.h h4.h h5.h.2 h6.h.2.2 h6.h.2.1 h6.h.1 h7.h.1 h7.h.2 E5)⟩
end
def ku(P:Program)(ops:Array Oper)(Z:List Nat):List (Nat×Bool) -> AS -> (AS -> Prop) -> Prop
 |[],st,K=>K st
 |(i,true)::r,st,K=>∃o d,ops.toList[i]?=some o /\ o.dst=some d /\ d<st.n /\ ((∃t,dn ops o st=some true /\ cf P (fG st.s Z) o st t /\ ku P ops Z r {st with ts:=(d,t)::st.ts} K)∨(dn ops o st=some false /\ ku P ops Z r {st with ts:=(d,.raw undef)::st.ts} K))
 |(i,false)::r,st,K=>∃o,ops.toList[i]?=some o /\ dn ops o st=some true /\ dN P (fG st.s Z) o st λs=>ku P ops Z r s K
def qX(ops:Array Oper):Array Bool -> List (Nat×Bool) -> Bool
 |_,[]=>true
 |L,(i,true)::r=>(Region.ready .any ops L).contains i && Region.free .any ops L i && qX ops (L.setIfInBounds i true) r
 |L,(i,false)::r=>decide (Region.ready .any ops L=[i]) && qX ops (L.setIfInBounds i true) r
def vl:Array Bool -> List (Nat×Bool) -> Array Bool
 |L,[]=>L
 |L,(i,_)::r=>vl (L.setIfInBounds i true) r
def AD{P:Program}{ops:Array Oper}{Z:List Nat}{Q:AS -> Prop}(hsel:Region.noSelect ops=true)(F:Nat):∀(run:List (Nat×Bool)) (listed:Array Bool) (st:AS),qX ops listed run=true -> ku P ops Z run st (λst'=>dh P ops Z F (vl listed run) st' Q) -> dh P ops Z (F+run.length) listed st Q
 |[],_,_,_,h=>h
 |(i,true)::r,listed,st,hc,h=>by
  simp only [qX,cz] at hc;obtain ⟨o,d,h1,h2,h3,h4⟩:=h;rcases h4 with ⟨t,h5,h6,h7⟩|⟨h5,h7⟩
  ·exact M_ i hc.1.1 h1 hc.1.2 hsel h5 h2 h3 h6 (AD hsel F r _ _ hc.2 h7)
  ·exact Q8 i hc.1.1 h1 hc.1.2 hsel h5 h2 h3 (AD hsel F r _ _ hc.2 h7)
 |(i,false)::r,listed,st,hc,h=>by
  simp only [qX,cz,decide_eq_true_eq] at hc;obtain ⟨o,h1,h2,h3⟩:=h;refine yj hc.1 J (sB h1 h2 (λa w hs KK QQ hK=>h3 a w hs KK QQ λa' w' st' q=>hK a' w' st' (AD hsel F r _ _ hc.2 q)) yT)
def KQ{P:Program}{ops:Array Oper}{Z:List Nat}{Q:AS -> Prop}{st:AS}{F0:Nat}{listed:Array Bool}(run:List (Nat×Bool))(F:Nat)(hc:(qX ops listed run && Region.noSelect ops && F0 == F+run.length)=true)(h:ku P ops Z run st (λst'=>dh P ops Z F (vl listed run) st' Q)):dh P ops Z F0 listed st Q:=by
 simp only [cz,beq_iff_eq] at hc;rw [hc.2];exact AD hc.1.2 F run listed st hc.1.1 h
class rO (l:List Oper) (i:Nat) (d:outParam (Option Nat)) (op:outParam Op) (gd:outParam (Option (Nat×Bool))):Prop where h:∃o:Oper,l[i]?=some o /\ o.dst=d /\ o.op=op /\ o.guard=gd
instance aC5{d:Option Nat}{op:Op}{ty:TypeId}{pos:String}{af:Array Edge}{gd:Option (Nat×Bool)}{l:List Oper}:rO (⟨d,op,ty,pos,af,gd⟩::l) 0 d op gd:=⟨_,rfl,rfl,rfl,rfl⟩
instance aAk{d:Option Nat}{op:Op}{gd:Option (Nat×Bool)}{l:List Oper}{o:Oper}{i:Nat}[h:rO l i d op gd]:rO (o::l) (i+1) d op gd:=⟨AF⟩
section
variable {P:Program}{Z T:List Nat}{n:Nat}{s:aH}{ts:List (Nat×AT)}{t u:AT}{g:Prop}{K:AS -> Prop}{st:AS}{N:Nat}{bx A B:List aT}{rw:List aS}{l0:List Oper}{i:Nat}{run:List (Nat×Bool)}{gd:Option (Nat×Bool)}
instance Zk{ops:Array Oper}[h:dY N (K st) g]:dY (N+1) (ku P ops Z [] st K) g:=⟨λk=>h.out k⟩
instance aAj{d:Nat}{op:Op}{r:Bool}[h0:rO l0 i (some d) op gd][h1:uk l0 ts gd r][h2:xx r P (fG s Z) op n T s ts t][h3:oI d n][h:dY N (ku P l0.toArray Z run ⟨n,T,s,(d,t)::ts⟩ K) g]:dY (N+1) (ku P l0.toArray Z ((i,true)::run) ⟨n,T,s,ts⟩ K) g:=⟨λk=>by
 obtain ⟨o,aa,e2,e3,e4⟩:=h0.h;refine ⟨o,d,zU,e2,h3.h,?_⟩;cases r with
 |true=>exact .inl ⟨t,h1.h _ _ _ o e4,h2.h.1 rfl o e3,h.out k⟩
 |false=>obtain rfl:=h2.h.2 rfl;exact .inr ⟨h1.h _ _ _ o e4,h.out k⟩⟩
instance Yi{E T0:TypeId}{x y:Operand}{b off z:Nat}{cs ds r:List aN}{ag:Bool}[hi:rO l0 i none (.store E x y) gd][h0:uk l0 ts gd true][h1:gC ts x (au (.pointer (some ⟨b,off,none⟩)))][h2:gC ts y t][h3:qC t ds][h4:kZ bx b A T0 cs B][h5:cj P E ag z][h6:sx cs off ds z r]{bx2:List aT}[h7:vD bx rw T (fG ⟨bx,rw⟩ Z) b][h8:pR A (⟨b,T0,r⟩::B) bx2][h:dY N (ku P l0.toArray Z run ⟨n,T,⟨bx2,rw⟩,ts⟩ K) g]:dY (N+1) (ku P l0.toArray Z ((i,false)::run) ⟨n,T,⟨bx,rw⟩,ts⟩ K) g:=⟨λk=>by
 obtain ⟨o,aa,e2,e3,e4⟩:=hi.h;exact ⟨o,zU,h0.h _ _ _ o e4,AB A e3 e2 (h1.h _ _ _) (h2.h _ _ _) h3.h h4.h h5.h.2 h6.h.2.2 h6.h.2.1 h6.h.1 h7.h.1 h7.h.2 E5⟩⟩
instance Xd{d:Nat}{E:TypeId}{cs:List aN}{G:Nat -> Prop}[hi:rO l0 i (some d) (.alloc E) none][h1:de P E cs][h3:oI d n][h:∀b,dY N (ku P l0.toArray Z run ⟨n,b::T,⟨⟨b,E,cs⟩::bx,rw⟩,(d,aE b)::ts⟩ K) (G b)]:dY (N+1) (ku P l0.toArray Z ((i,false)::run) ⟨n,T,⟨bx,rw⟩,ts⟩ K) (∀b,G b):=⟨λk=>by
 obtain ⟨o,aa,e2,e3,e4⟩:=hi.h;obtain ⟨z,z1,z2⟩:=h1.h;exact ⟨o,zU,by unfold dn;rw [e4],iG e3 e2 h3.h z1 z2 λb=>(h b).out (k b)⟩⟩
instance aDa{d:Nat}{E:TypeId}{x:Operand}{cs:List aN}{G:Nat -> Prop}[hi:rO l0 i (some d) (.box E x) none][h1:gC ts x t][h2:qC t cs][h3:oI d n][h:∀b,dY N (ku P l0.toArray Z run ⟨n,b::T,⟨⟨b,E,cs⟩::bx,rw⟩,(d,aE b)::ts⟩ K) (G b)]:dY (N+1) (ku P l0.toArray Z ((i,false)::run) ⟨n,T,⟨bx,rw⟩,ts⟩ K) (∀b,G b):=⟨λk=>by
 obtain ⟨o,aa,e2,e3,e4⟩:=hi.h;exact ⟨o,zU,by unfold dn;rw [e4],G5 e3 e2 h3.h (h1.h _ _ _) h2.h λb=>(h b).out (k b)⟩⟩
end
end
section
open Go.RowKit
instance aCj:cj prog 2 false 1:=⟨isAgg2,sizeOf2⟩
instance aAY:de prog 2 [aA 0]:=⟨_,zeroValue2,rfl⟩
instance aBg:cj prog 3 false 1:=⟨isAgg3,sizeOf3⟩
instance aBW:de prog 3 [aA 0]:=⟨_,zeroValue3,rfl⟩
instance Xq:cj prog 4 false 1:=⟨isAgg4,sizeOf4⟩
instance X0:de prog 4 [bD false]:=⟨_,zeroValue4,rfl⟩
instance Y3:cj prog 5 false 1:=⟨isAgg5,sizeOf5⟩
instance aBO:de prog 5 [.val (.int .u8 0)]:=⟨_,zeroValue5,rfl⟩
instance XF:cj prog 9 false 1:=⟨isAgg9,sizeOf9⟩
instance aDl:Gi prog 9:=⟨runUnderlying9⟩
instance aCK:de prog 9 [ae ⟨#[]⟩]:=⟨_,zeroValue9,rfl⟩
instance WC:cj prog 12 false 1:=⟨isAgg12,sizeOf12⟩
instance Wj:de prog 12 [.val (.int .u64 0)]:=⟨_,zeroValue12,rfl⟩
instance aCL:cj prog 19 true 1:=⟨isAgg19,sizeOf19⟩
instance Wv:cQ prog 19 0 0 17:=⟨_,runUnderlying19,rfl⟩
instance aDA:de prog 19 [.val (.pointer none)]:=⟨_,zeroValue19,rfl⟩
instance aDc:iA prog 19 [(0,1)] [.val (.pointer none)]:=⟨_,Tryz.t19,_,underlying19,aQ,rfl,aQ,rfl⟩
instance aDH:cj prog 21 false 1:=⟨isAgg21,sizeOf21⟩
instance ZT:de prog 21 [.val (.int .i32 0)]:=⟨_,zeroValue21,rfl⟩
instance aDI:cj prog 22 false 1:=⟨isAgg22,sizeOf22⟩
instance Yj:kh prog 22 3:=⟨runUnderlying22⟩
instance aCc:de prog 22 [aI]:=⟨_,zeroValue22,rfl⟩
instance XQ:cj prog 23 false 1:=⟨isAgg23,sizeOf23⟩
instance aCv:kh prog 23 63:=⟨runUnderlying23⟩
instance aDY:de prog 23 [aI]:=⟨_,zeroValue23,rfl⟩
instance aCH:cj prog 24 false 1:=⟨isAgg24,sizeOf24⟩
instance aAZ:kh prog 24 60:=⟨runUnderlying24⟩
instance aAA:de prog 24 [aI]:=⟨_,zeroValue24,rfl⟩
instance aDR:cj prog 25 false 1:=⟨isAgg25,sizeOf25⟩
instance aAG:kh prog 25 67:=⟨runUnderlying25⟩
instance aDx:de prog 25 [aI]:=⟨_,zeroValue25,rfl⟩
instance aBt:cj prog 27 true 3:=⟨isAgg27,sizeOf27⟩
instance V_:cQ prog 27 0 0 23:=⟨_,runUnderlying27,rfl⟩
instance W_:cQ prog 27 1 1 24:=⟨_,runUnderlying27,rfl⟩
instance XX:cQ prog 27 2 2 25:=⟨_,runUnderlying27,rfl⟩
instance ZY:de prog 27 [aI,aI,aI]:=⟨_,zeroValue27,rfl⟩
instance YH:iA prog 27 [(0,1),(1,1),(2,1)] [aI,aI,aI]:=⟨_,Tryz.t27,_,underlying27,aQ,rfl,aQ,rfl⟩
instance Wd:cj prog 29 false 1:=⟨isAgg29,sizeOf29⟩
instance Wk:kh prog 29 79:=⟨runUnderlying29⟩
instance Wi:de prog 29 [aI]:=⟨_,zeroValue29,rfl⟩
instance YW:cj prog 31 true 4:=⟨isAgg31,sizeOf31⟩
instance V7:cQ prog 31 0 0 22:=⟨_,runUnderlying31,rfl⟩
instance aAv:cQ prog 31 1 1 24:=⟨_,runUnderlying31,rfl⟩
instance X9:cQ prog 31 2 2 29:=⟨_,runUnderlying31,rfl⟩
instance Xg:cQ prog 31 3 3 3:=⟨_,runUnderlying31,rfl⟩
instance WR:de prog 31 [aI,aI,aI,aA 0]:=⟨_,zeroValue31,rfl⟩
instance aC7:iA prog 31 [(0,1),(1,1),(2,1),(3,1)] [aI,aI,aI,aA 0]:=⟨_,Tryz.t31,_,underlying31,aQ,rfl,aQ,rfl⟩
instance aAw:cj prog 32 false 1:=⟨isAgg32,sizeOf32⟩
instance WO:de prog 32 [aA 0]:=⟨_,zeroValue32,rfl⟩
instance X1:cj prog 48 false 1:=⟨isAgg48,sizeOf48⟩
instance aCW:de prog 48 [.val (.int .u64 0)]:=⟨_,zeroValue48,rfl⟩
instance aB1:cj prog 50 false 1:=⟨isAgg50,sizeOf50⟩
instance XA:cj prog 51 false 1:=⟨isAgg51,sizeOf51⟩
instance ZC:cj prog 54 true 2:=⟨isAgg54,sizeOf54⟩
instance V9:cQ prog 54 0 0 22:=⟨_,runUnderlying54,rfl⟩
instance aCB:cQ prog 54 1 1 3:=⟨_,runUnderlying54,rfl⟩
instance aDK:de prog 54 [aI,aA 0]:=⟨_,zeroValue54,rfl⟩
instance aCd:iA prog 54 [(0,1),(1,1)] [aI,aA 0]:=⟨_,Tryz.t54,_,underlying54,aQ,rfl,aQ,rfl⟩
instance aCO:cj prog 56 true 6:=⟨isAgg56,sizeOf56⟩
instance Xn:cQ prog 56 0 0 51:=⟨_,runUnderlying56,rfl⟩
instance aCt:cQ prog 56 1 1 27:=⟨_,runUnderlying56,rfl⟩
instance YC:cQ prog 56 2 4 3:=⟨_,runUnderlying56,rfl⟩
instance XN:cQ prog 56 3 5 4:=⟨_,runUnderlying56,rfl⟩
instance Ys:de prog 56 [.val (.pointer none),aI,aI,aI,aA 0,bD false]:=⟨_,zeroValue56,rfl⟩
instance aAX:iA prog 56 [(0,1),(1,3),(4,1),(5,1)] [.val (.pointer none),aI,aI,aI,aA 0,bD false]:=⟨_,Tryz.t56,_,underlying56,aQ,rfl,aQ,rfl⟩
instance aDL:cj prog 58 false 1:=⟨isAgg58,sizeOf58⟩
instance aAL:kh prog 58 5:=⟨runUnderlying58⟩
instance aAB:de prog 58 [aI]:=⟨_,zeroValue58,rfl⟩
instance Zm:cj prog 60 true 3:=⟨isAgg60,sizeOf60⟩
instance WB:cQ prog 60 0 0 9:=⟨_,runUnderlying60,rfl⟩
instance aAm:cQ prog 60 1 1 4:=⟨_,runUnderlying60,rfl⟩
instance Zu:cQ prog 60 2 2 3:=⟨_,runUnderlying60,rfl⟩
instance aA5:de prog 60 [ae ⟨#[]⟩,bD false,aA 0]:=⟨_,zeroValue60,rfl⟩
instance XJ:iA prog 60 [(0,1),(1,1),(2,1)] [ae ⟨#[]⟩,bD false,aA 0]:=⟨_,Tryz.t60,_,underlying60,aQ,rfl,aQ,rfl⟩
instance Z8:cj prog 61 false 1:=⟨isAgg61,sizeOf61⟩
instance aBb:kh prog 61 9:=⟨runUnderlying61⟩
instance aCw:de prog 61 [aI]:=⟨_,zeroValue61,rfl⟩
instance ZR:cj prog 63 true 2:=⟨isAgg63,sizeOf63⟩
instance aAc:cQ prog 63 0 0 9:=⟨_,runUnderlying63,rfl⟩
instance X5:cQ prog 63 1 1 3:=⟨_,runUnderlying63,rfl⟩
instance Z3:de prog 63 [ae ⟨#[]⟩,aA 0]:=⟨_,zeroValue63,rfl⟩
instance aCq:iA prog 63 [(0,1),(1,1)] [ae ⟨#[]⟩,aA 0]:=⟨_,Tryz.t63,_,underlying63,aQ,rfl,aQ,rfl⟩
instance aCE:cj prog 64 false 1:=⟨isAgg64,sizeOf64⟩
instance aC0:kh prog 64 69:=⟨runUnderlying64⟩
instance YO:de prog 64 [aI]:=⟨_,zeroValue64,rfl⟩
instance YM:cj prog 65 false 1:=⟨isAgg65,sizeOf65⟩
instance aAO:kh prog 65 120:=⟨runUnderlying65⟩
instance aCi:de prog 65 [aI]:=⟨_,zeroValue65,rfl⟩
instance X8:cj prog 67 true 3:=⟨isAgg67,sizeOf67⟩
instance Wu:cQ prog 67 0 0 9:=⟨_,runUnderlying67,rfl⟩
instance aDn:cQ prog 67 1 1 64:=⟨_,runUnderlying67,rfl⟩
instance V5:cQ prog 67 2 2 65:=⟨_,runUnderlying67,rfl⟩
instance aCG:de prog 67 [ae ⟨#[]⟩,aI,aI]:=⟨_,zeroValue67,rfl⟩
instance X7:iA prog 67 [(0,1),(1,1),(2,1)] [ae ⟨#[]⟩,aI,aI]:=⟨_,Tryz.t67,_,underlying67,aQ,rfl,aQ,rfl⟩
instance ZH:cj prog 69 true 2:=⟨isAgg69,sizeOf69⟩
instance aB7:cQ prog 69 0 0 9:=⟨_,runUnderlying69,rfl⟩
instance XR:cQ prog 69 1 1 4:=⟨_,runUnderlying69,rfl⟩
instance WJ:de prog 69 [ae ⟨#[]⟩,bD false]:=⟨_,zeroValue69,rfl⟩
instance aCX:iA prog 69 [(0,1),(1,1)] [ae ⟨#[]⟩,bD false]:=⟨_,Tryz.t69,_,underlying69,aQ,rfl,aQ,rfl⟩
instance ZG:cj prog 71 false 1:=⟨isAgg71,sizeOf71⟩
instance aDW:cj prog 74 false 1:=⟨isAgg74,sizeOf74⟩
instance Y0:cj prog 75 false 1:=⟨isAgg75,sizeOf75⟩
instance Xl:kh prog 75 92:=⟨runUnderlying75⟩
instance ZS:de prog 75 [aI]:=⟨_,zeroValue75,rfl⟩
instance aC3:cj prog 77 true 9:=⟨isAgg77,sizeOf77⟩
instance ZX:cQ prog 77 0 0 74:=⟨_,runUnderlying77,rfl⟩
instance ZL:cQ prog 77 1 1 74:=⟨_,runUnderlying77,rfl⟩
instance aAP:cQ prog 77 2 2 74:=⟨_,runUnderlying77,rfl⟩
instance aDk:cQ prog 77 3 3 74:=⟨_,runUnderlying77,rfl⟩
instance aCh:cQ prog 77 4 4 74:=⟨_,runUnderlying77,rfl⟩
instance aA2:cQ prog 77 5 5 3:=⟨_,runUnderlying77,rfl⟩
instance Z4:cQ prog 77 6 6 75:=⟨_,runUnderlying77,rfl⟩
instance aAa:cQ prog 77 7 7 22:=⟨_,runUnderlying77,rfl⟩
instance WW:cQ prog 77 8 8 3:=⟨_,runUnderlying77,rfl⟩
instance ZD:cj prog 79 true 5:=⟨isAgg79,sizeOf79⟩
instance aBC:cQ prog 79 0 0 9:=⟨_,runUnderlying79,rfl⟩
instance XT:cQ prog 79 1 1 3:=⟨_,runUnderlying79,rfl⟩
instance Yf:cQ prog 79 2 2 3:=⟨_,runUnderlying79,rfl⟩
instance Ws:cQ prog 79 3 3 3:=⟨_,runUnderlying79,rfl⟩
instance Yn:cQ prog 79 4 4 75:=⟨_,runUnderlying79,rfl⟩
instance Xf:de prog 79 [ae ⟨#[]⟩,aA 0,aA 0,aA 0,aI]:=⟨_,zeroValue79,rfl⟩
instance Xe:iA prog 79 [(0,1),(1,1),(2,1),(3,1),(4,1)] [ae ⟨#[]⟩,aA 0,aA 0,aA 0,aI]:=⟨_,Tryz.t79,_,underlying79,aQ,rfl,aQ,rfl⟩
instance YB:cj prog 85 false 1:=⟨isAgg85,sizeOf85⟩
instance Yl:kh prog 85 87:=⟨runUnderlying85⟩
instance aDS:de prog 85 [aI]:=⟨_,zeroValue85,rfl⟩
instance YI:cj prog 87 true 4:=⟨isAgg87,sizeOf87⟩
instance aBa:cQ prog 87 0 0 3:=⟨_,runUnderlying87,rfl⟩
instance Yk:cQ prog 87 1 1 3:=⟨_,runUnderlying87,rfl⟩
instance Wb:cQ prog 87 2 2 9:=⟨_,runUnderlying87,rfl⟩
instance Zg:cQ prog 87 3 3 85:=⟨_,runUnderlying87,rfl⟩
instance WM:de prog 87 [aA 0,aA 0,ae ⟨#[]⟩,aI]:=⟨_,zeroValue87,rfl⟩
instance aBz:iA prog 87 [(0,1),(1,1),(2,1),(3,1)] [aA 0,aA 0,ae ⟨#[]⟩,aI]:=⟨_,Tryz.t87,_,underlying87,aQ,rfl,aQ,rfl⟩
instance W4:cj prog 89 true 3:=⟨isAgg89,sizeOf89⟩
instance aBd:cQ prog 89 0 0 4:=⟨_,runUnderlying89,rfl⟩
instance aAJ:cQ prog 89 1 1 3:=⟨_,runUnderlying89,rfl⟩
instance Zz:cQ prog 89 2 2 85:=⟨_,runUnderlying89,rfl⟩
instance aAq:de prog 89 [bD false,aA 0,aI]:=⟨_,zeroValue89,rfl⟩
instance Wp:iA prog 89 [(0,1),(1,1),(2,1)] [bD false,aA 0,aI]:=⟨_,Tryz.t89,_,underlying89,aQ,rfl,aQ,rfl⟩
instance Yy:cj prog 90 false 1:=⟨isAgg90,sizeOf90⟩
instance YT:kh prog 90 89:=⟨runUnderlying90⟩
instance aCR:de prog 90 [aI]:=⟨_,zeroValue90,rfl⟩
instance aC1:cj prog 92 true 12:=⟨isAgg92,sizeOf92⟩
instance Y_:cQ prog 92 0 0 3:=⟨_,runUnderlying92,rfl⟩
instance aAo:cQ prog 92 1 1 3:=⟨_,runUnderlying92,rfl⟩
instance WG:cQ prog 92 2 2 4:=⟨_,runUnderlying92,rfl⟩
instance V2:cQ prog 92 3 3 87:=⟨_,runUnderlying92,rfl⟩
instance aAi:cQ prog 92 4 7 89:=⟨_,runUnderlying92,rfl⟩
instance aDE:cQ prog 92 5 10 85:=⟨_,runUnderlying92,rfl⟩
instance WP:cQ prog 92 6 11 90:=⟨_,runUnderlying92,rfl⟩
instance aDT:de prog 92 [aA 0,aA 0,bD false,aA 0,aA 0,ae ⟨#[]⟩,aI,bD false,aA 0,aI,aI,aI]:=⟨_,zeroValue92,rfl⟩
instance Y9:iA prog 92 [(0,1),(1,1),(2,1),(3,4),(7,3),(10,1),(11,1)] [aA 0,aA 0,bD false,aA 0,aA 0,ae ⟨#[]⟩,aI,bD false,aA 0,aI,aI,aI]:=⟨_,Tryz.t92,_,underlying92,aQ,rfl,aQ,rfl⟩
instance aBh:cj prog 94 false 1:=⟨isAgg94,sizeOf94⟩
instance XK:cj prog 95 false 1:=⟨isAgg95,sizeOf95⟩
instance WX:cj prog 96 false 1:=⟨isAgg96,sizeOf96⟩
instance WI:cj prog 98 true 7:=⟨isAgg98,sizeOf98⟩
instance aDv:cQ prog 98 0 0 27:=⟨_,runUnderlying98,rfl⟩
instance Zp:cQ prog 98 1 3 95:=⟨_,runUnderlying98,rfl⟩
instance YS:cQ prog 98 2 4 96:=⟨_,runUnderlying98,rfl⟩
instance Zy:cQ prog 98 3 5 3:=⟨_,runUnderlying98,rfl⟩
instance aAD:cQ prog 98 4 6 3:=⟨_,runUnderlying98,rfl⟩
instance aB5:cj prog 107 false 1:=⟨isAgg107,sizeOf107⟩
instance Yg:kh prog 107 111:=⟨runUnderlying107⟩
instance aAz:de prog 107 [aI]:=⟨_,zeroValue107,rfl⟩
instance aCr:cj prog 111 true 3:=⟨isAgg111,sizeOf111⟩
instance Wl:cQ prog 111 0 0 9:=⟨_,runUnderlying111,rfl⟩
instance aAh:cQ prog 111 1 1 3:=⟨_,runUnderlying111,rfl⟩
instance aCZ:cQ prog 111 2 2 3:=⟨_,runUnderlying111,rfl⟩
instance aCS:de prog 111 [ae ⟨#[]⟩,aA 0,aA 0]:=⟨_,zeroValue111,rfl⟩
instance aCl:iA prog 111 [(0,1),(1,1),(2,1)] [ae ⟨#[]⟩,aA 0,aA 0]:=⟨_,Tryz.t111,_,underlying111,aQ,rfl,aQ,rfl⟩
instance W7:cj prog 117 true 2:=⟨isAgg117,sizeOf117⟩
instance Y8:cQ prog 117 0 0 9:=⟨_,runUnderlying117,rfl⟩
instance aBB:cQ prog 117 1 1 85:=⟨_,runUnderlying117,rfl⟩
instance aDZ:de prog 117 [ae ⟨#[]⟩,aI]:=⟨_,zeroValue117,rfl⟩
instance YP:iA prog 117 [(0,1),(1,1)] [ae ⟨#[]⟩,aI]:=⟨_,Tryz.t117,_,underlying117,aQ,rfl,aQ,rfl⟩
instance aCs:cj prog 118 false 1:=⟨isAgg118,sizeOf118⟩
instance Z5:kh prog 118 135:=⟨runUnderlying118⟩
instance aA1:de prog 118 [aI]:=⟨_,zeroValue118,rfl⟩
instance Wo:cj prog 120 true 11:=⟨isAgg120,sizeOf120⟩
instance aAR:cQ prog 120 0 0 3:=⟨_,runUnderlying120,rfl⟩
instance ZP:cQ prog 120 1 1 9:=⟨_,runUnderlying120,rfl⟩
instance aBQ:cQ prog 120 2 2 87:=⟨_,runUnderlying120,rfl⟩
instance Zv:cQ prog 120 3 6 117:=⟨_,runUnderlying120,rfl⟩
instance aCF:cQ prog 120 4 8 118:=⟨_,runUnderlying120,rfl⟩
instance WZ:cQ prog 120 5 9 65:=⟨_,runUnderlying120,rfl⟩
instance Xt:cQ prog 120 6 10 65:=⟨_,runUnderlying120,rfl⟩
instance V3:de prog 120 [aA 0,ae ⟨#[]⟩,aA 0,aA 0,ae ⟨#[]⟩,aI,ae ⟨#[]⟩,aI,aI,aI,aI]:=⟨_,zeroValue120,rfl⟩
instance Yu:iA prog 120 [(0,1),(1,1),(2,4),(6,2),(8,1),(9,1),(10,1)] [aA 0,ae ⟨#[]⟩,aA 0,aA 0,ae ⟨#[]⟩,aI,ae ⟨#[]⟩,aI,aI,aI,aI]:=⟨_,Tryz.t120,_,underlying120,aQ,rfl,aQ,rfl⟩
instance ZW:cj prog 135 true 7:=⟨isAgg135,sizeOf135⟩
instance Zc:cQ prog 135 0 0 4:=⟨_,runUnderlying135,rfl⟩
instance Yc:cQ prog 135 1 1 117:=⟨_,runUnderlying135,rfl⟩
instance Yo:cQ prog 135 2 3 87:=⟨_,runUnderlying135,rfl⟩
instance X_:de prog 135 [bD false,ae ⟨#[]⟩,aI,aA 0,aA 0,ae ⟨#[]⟩,aI]:=⟨_,zeroValue135,rfl⟩
instance aDw:iA prog 135 [(0,1),(1,2),(3,4)] [bD false,ae ⟨#[]⟩,aI,aA 0,aA 0,ae ⟨#[]⟩,aI]:=⟨_,Tryz.t135,_,underlying135,aQ,rfl,aQ,rfl⟩
instance aAW:cj prog 139 false 1:=⟨isAgg139,sizeOf139⟩
instance aB9:kh prog 139 154:=⟨runUnderlying139⟩
instance XU:de prog 139 [aI]:=⟨_,zeroValue139,rfl⟩
instance W3:cj prog 142 false 1:=⟨isAgg142,sizeOf142⟩
instance aBV:cj prog 144 true 6:=⟨isAgg144,sizeOf144⟩
instance ZM:cQ prog 144 0 0 139:=⟨_,runUnderlying144,rfl⟩
instance YQ:cQ prog 144 1 1 3:=⟨_,runUnderlying144,rfl⟩
instance V4:cQ prog 144 2 2 3:=⟨_,runUnderlying144,rfl⟩
instance aBP:cQ prog 144 3 3 32:=⟨_,runUnderlying144,rfl⟩
instance aBR:cQ prog 144 4 4 3:=⟨_,runUnderlying144,rfl⟩
instance Yb:cQ prog 144 5 5 3:=⟨_,runUnderlying144,rfl⟩
instance Xk:de prog 144 [aI,aA 0,aA 0,aA 0,aA 0,aA 0]:=⟨_,zeroValue144,rfl⟩
instance aCx:iA prog 144 [(0,1),(1,1),(2,1),(3,1),(4,1),(5,1)] [aI,aA 0,aA 0,aA 0,aA 0,aA 0]:=⟨_,Tryz.t144,_,underlying144,aQ,rfl,aQ,rfl⟩
instance aBm:cj prog 154 true 4:=⟨isAgg154,sizeOf154⟩
instance aCb:cQ prog 154 0 0 3:=⟨_,runUnderlying154,rfl⟩
instance aCf:cQ prog 154 1 1 9:=⟨_,runUnderlying154,rfl⟩
instance V':cQ prog 154 2 2 3:=⟨_,runUnderlying154,rfl⟩
instance Zj:cQ prog 154 3 3 3:=⟨_,runUnderlying154,rfl⟩
instance Zr:de prog 154 [aA 0,ae ⟨#[]⟩,aA 0,aA 0]:=⟨_,zeroValue154,rfl⟩
instance aBc:iA prog 154 [(0,1),(1,1),(2,1),(3,1)] [aA 0,ae ⟨#[]⟩,aA 0,aA 0]:=⟨_,Tryz.t154,_,underlying154,aQ,rfl,aQ,rfl⟩
instance Yp:cj prog 157 false 1:=⟨isAgg157,sizeOf157⟩
instance aAC:de prog 157 [aA 0]:=⟨_,zeroValue157,rfl⟩
instance WU:cj prog 163 false 1:=⟨isAgg163,sizeOf163⟩
instance aBZ:cj prog 165 true 10:=⟨isAgg165,sizeOf165⟩
instance aDU:cQ prog 165 0 0 27:=⟨_,runUnderlying165,rfl⟩
instance WA:cQ prog 165 1 3 107:=⟨_,runUnderlying165,rfl⟩
instance W5:cQ prog 165 2 4 3:=⟨_,runUnderlying165,rfl⟩
instance Zx:cQ prog 165 3 5 3:=⟨_,runUnderlying165,rfl⟩
instance WT:cQ prog 165 4 6 3:=⟨_,runUnderlying165,rfl⟩
instance aBY:cQ prog 165 5 7 32:=⟨_,runUnderlying165,rfl⟩
instance aBT:cQ prog 165 6 8 75:=⟨_,runUnderlying165,rfl⟩
instance Xb:cQ prog 165 7 9 22:=⟨_,runUnderlying165,rfl⟩
instance aAl:de prog 165 [aI,aI,aI,aI,aA 0,aA 0,aA 0,aA 0,aI,aI]:=⟨_,zeroValue165,rfl⟩
instance Zl:iA prog 165 [(0,3),(3,1),(4,1),(5,1),(6,1),(7,1),(8,1),(9,1)] [aI,aI,aI,aI,aA 0,aA 0,aA 0,aA 0,aI,aI]:=⟨_,Tryz.t165,_,underlying165,aQ,rfl,aQ,rfl⟩
instance aB2:cj prog 176 false 1:=⟨isAgg176,sizeOf176⟩
instance aC9:cj prog 177 false 1:=⟨isAgg177,sizeOf177⟩
instance Zb:cj prog 179 true 2:=⟨isAgg179,sizeOf179⟩
instance Zh:cQ prog 179 0 0 177:=⟨_,runUnderlying179,rfl⟩
instance aBj:cQ prog 179 1 1 58:=⟨_,runUnderlying179,rfl⟩
instance aB0:de prog 179 [.val (.pointer none),aI]:=⟨_,zeroValue179,rfl⟩
instance aAy:iA prog 179 [(0,1),(1,1)] [.val (.pointer none),aI]:=⟨_,Tryz.t179,_,underlying179,aQ,rfl,aQ,rfl⟩
instance aAF:cj prog 181 true 3:=⟨isAgg181,sizeOf181⟩
instance aCV:cQ prog 181 0 0 179:=⟨_,runUnderlying181,rfl⟩
instance X3:cQ prog 181 1 2 3:=⟨_,runUnderlying181,rfl⟩
instance W6:de prog 181 [.val (.pointer none),aI,aA 0]:=⟨_,zeroValue181,rfl⟩
instance aCC:iA prog 181 [(0,2),(2,1)] [.val (.pointer none),aI,aA 0]:=⟨_,Tryz.t181,_,underlying181,aQ,rfl,aQ,rfl⟩
instance aDF:cj prog 206 false 1:=⟨isAgg206,sizeOf206⟩
instance Yr:cj prog 215 false 1:=⟨isAgg215,sizeOf215⟩
instance aCm:de prog 215 [.val (.int .u64 0)]:=⟨_,zeroValue215,rfl⟩
instance YE:cj prog 229 false 1:=⟨isAgg229,sizeOf229⟩
instance aDV:cj prog 238 true 6:=⟨isAgg238,sizeOf238⟩
instance aBD:cQ prog 238 0 0 4:=⟨_,runUnderlying238,rfl⟩
instance aBE:cQ prog 238 1 1 4:=⟨_,runUnderlying238,rfl⟩
instance aDj:cQ prog 238 2 2 4:=⟨_,runUnderlying238,rfl⟩
instance X6:cQ prog 238 3 3 4:=⟨_,runUnderlying238,rfl⟩
instance aAT:cQ prog 238 4 4 4:=⟨_,runUnderlying238,rfl⟩
instance Zt:cQ prog 238 5 5 4:=⟨_,runUnderlying238,rfl⟩
instance W2:de prog 238 [bD false,bD false,bD false,bD false,bD false,bD false]:=⟨_,zeroValue238,rfl⟩
instance ZO:iA prog 238 [(0,1),(1,1),(2,1),(3,1),(4,1),(5,1)] [bD false,bD false,bD false,bD false,bD false,bD false]:=⟨_,Tryz.t238,_,underlying238,aQ,rfl,aQ,rfl⟩
instance ZB:cj prog 250 true 24:=⟨isAgg250,sizeOf250⟩
instance YR:cj prog 257 true 11:=⟨isAgg257,sizeOf257⟩
instance aBN:cj prog 261 true 20:=⟨isAgg261,sizeOf261⟩
instance aB6:cj prog 262 false 1:=⟨isAgg262,sizeOf262⟩
instance aBl:de prog 262 [.val (.int .u32 0)]:=⟨_,zeroValue262,rfl⟩
instance XC:cj prog 263 true 65:=⟨isAgg263,sizeOf263⟩
instance Wg:cj prog 266 true 18:=⟨isAgg266,sizeOf266⟩
instance WN:cj prog 272 true 32:=⟨isAgg272,sizeOf272⟩
instance YG:cj prog 273 true 64:=⟨isAgg273,sizeOf273⟩
end
section
structure bK where
 name:ByteArray
 kind:Int
 n:Nat
def bP(x:bK):List aN:=[ae x.name,aA x.kind,am x.n]
def lb(x:bK):(bP x).length=3:=rfl
structure nL where
 param:Bool
 index:Nat
 at_:List aP
def ec(x:nL):List aN:=[bD x.param,am x.index,aB bR x.at_]
def yA(x:nL):(ec x).length=3:=rfl
structure ic where
 op:Int
 target:Nat
 global:Bool
 expr:aP
 place:nL
 ints:List aP
 places:List nL
def encI(x:ic):List aN:=[aA x.op,am x.target,bD x.global,aA x.expr.op,aA x.expr.num,ae x.expr.name,aB bR x.expr.args,bD x.place.param,am x.place.index,aB bR x.place.at_,aB bR x.ints,aB ec x.places]
def kN(x:ic):(encI x).length=12:=rfl
def QN:bK:=⟨ax,0,0⟩
def dB:nL:=⟨false,0,[]⟩
def bI:List bK -> ByteArray -> Option bK
 |[],_=>none
 |x::l,s=>if x.name=s then some x else bI l s
def QK:Option bK -> bK
 |none=>QN
 |some v=>v
def bL(l:List bK)(s:ByteArray):bK:=QK (bI l s)
structure oH (p:aZ) (l:List bK):Prop where
 ms:∀s v,bI l s=some v -> v.kind=2 -> v.n<p.mutexes.length
 fs:∀s v,bI l s=some v -> v.kind=3 -> v.n<p.funcs.length
abbrev iH:=Nat×Int
def cP(q:iH)(e:Nat)(s:Int):iH:=if q.1=0 /\ e≠0 then (e,s) else q
def dE(a b:Nat):Nat:=if a=0 then b else a
def mo(q:iH)(s:Int):cP q 0 s=q:=by unfold cP;rw [if_neg aK]
def sJ(q:iH)(a b:Nat)(s:Int):cP (cP q a s) b s=cP q (dE a b) s:=by
 unfold cP dE;by_cases h:q.1=0<;>by_cases ha:a=0<;>by_cases hb:b=0<;>simp [h,ha,hb]
def I0(b:Nat):dE 0 b=b:=rfl
def MN:Option bK -> Nat
 |none=>6
 |some v=>if v.kind=1∨v.kind=4 then 0 else 8
def ea(l:List bK)(s:ByteArray):Nat:=MN (bI l s)
def pW(l:List bK)(s:ByteArray):aP:=.mk (if (bL l s).kind=1 then 19 else 18) ((bL l s).n:Nat) ax []
mutual
def cW(l:List bK):aP -> aP
 |.mk op num name args=>if op=2 then pW l name else .mk op num ax (pv l args)
def pv(l:List bK):List aP -> List aP
 |[]=>[]
 |e::r=>cW l e::pv l r
end
mutual
def cO(l:List bK):aP -> Nat
 |.mk op _ name args=>if op=2 then ea l name else gT l args
def gT(l:List bK):List aP -> Nat
 |[]=>0
 |e::r=>dE (cO l e) (gT l r)
end
def Di(l:List bK):∀r:List aP,pv l r=r.map (cW l)
 |[]=>by rw [pv];rfl
 |e::r=>by rw [pv,Di l r];rfl
def wS(l:List bK)(e:aP):cW l e=if e.op=2 then pW l e.name else .mk e.op e.num ax (e.args.map (cW l)):=by
 cases e;rw [cW,Di];rfl
def vN(l:List bK)(e:aP):cO l e=if e.op=2 then ea l e.name else gT l e.args:=by cases e;rw [cO];rfl
def FT(a b c:Nat):dE (dE a b) c=dE a (dE b c):=by unfold dE;by_cases h:a=0<;>simp [h]
def Ke(l:List bK):∀(r:List aP)(e:aP),gT l (r++[e])=dE (gT l r) (cO l e)
 |[],e=>by rw [dw,gT,gT,gT,I0];unfold dE;split<;>simp_all
 |a::r,e=>by rw [eD,gT,gT,Ke l r e,FT]
def FI(l:List bK)(r:List aP)(k:Nat)(h:k<r.length)(q:iH)(s:Int):cP (cP q (gT l (r.take k)) s) (cO l r[k]) s=cP q (gT l (r.take (k+1))) s:=by
 rw [sJ,ga h,Ke]
def pG(p:aZ)(n:Nat):Int:=match p.mutexes[n]? with
 |none=>0
 |some m=>m.size
def xA{p:aZ}{n:Nat}(h:n<p.mutexes.length):pG p n=p.mutexes[n].size:=by unfold pG;rw [jz h]
def eH(l:List bK)(r:cD):nL:=⟨decide ((bL l r.name).kind=5),(bL l r.name).n,r.index.map (cW l)⟩
def jf(p:aZ)(n:Nat):Option bK -> Nat
 |none=>6
 |some v=>if v.kind=2∨v.kind=5 then (if (decide (v.kind=2) && decide (0<pG p v.n))=decide (0<n) then 0 else 8) else 8
def dq(p:aZ)(l:List bK)(r:cD):Nat:=dE (jf p r.index.length (bI l r.name)) (gT l r.index)
def rm(p:aZ)(l:List bK)(a:cK):Nat:=if a.mutex then dq p l a.ref else cO l a.expr
def ia(p:aZ)(l:List bK):List cK -> List bp -> Nat
 |a::r,x::xs=>if a.mutex=x.mutex then dE (rm p l a) (ia p l r xs) else 8
 |_,_=>0
def gp:List cK -> List bp -> List cK
 |a::r,x::xs=>if a.mutex=x.mutex then a::gp r xs else []
 |_,_=>[]
def d5(l:List bK)(al:List cK):List nL:=(al.filter cK.mutex).map λa=>eH l a.ref
def da(l:List bK)(al:List cK):List aP:=(al.filter λa=>!a.mutex).map λa=>cW l a.expr
def iy(p:aZ)(n:Nat):List bp:=match p.funcs[n]? with
 |none=>[]
 |some f=>f.params
def zS{p:aZ}{n:Nat}(h:n<p.funcs.length):iy p n=p.funcs[n].params:=by unfold iy;rw [jz h]
def mi(p:aZ)(l:List bK)(al:List cK):Option bK -> Nat
 |none=>6
 |some v=>if v.kind=3 then (if (iy p v.n).length=al.length then ia p l al (iy p v.n) else 7) else 8
def dx(p:aZ)(l:List bK)(s:aL):Nat:=mi p l s.args (bI l s.name)
def mQ(p:aZ)(l:List bK)(al:List cK)(op:Int):Option bK -> ic
 |none=>⟨op,0,false,.zero,dB,[],[]⟩
 |some v=>if v.kind=3 then (if (iy p v.n).length=al.length then ⟨op,v.n,false,.zero,dB,da l (gp al (iy p v.n)),d5 l (gp al (iy p v.n))⟩ else ⟨op,v.n,false,.zero,dB,[],[]⟩) else ⟨op,0,false,.zero,dB,[],[]⟩
def fv(p:aZ)(l:List bK)(s:aL):ic:=mQ p l s.args (if s.kind=4 then 3 else 2) (bI l s.name)
structure ah where
 ents:List bK
 locals:Nat
 n:Nat
 q:iH
 code:List ic
 sites:List Int
def ah.put(x:ah)(i:ic)(s:Nat):ah:=⟨x.ents,x.locals,x.n,x.q,x.code++[i],x.sites++[(s:Int)]⟩
def ic.to(i:ic)(t:Nat):ic:=⟨i.op,t,i.global,i.expr,i.place,i.ints,i.places⟩
def ah.patch(x:ah)(b:Nat):ah:=⟨x.ents,x.locals,x.n,x.q,x.code.modify b (λi=>i.to x.code.length),x.sites⟩
def ah.beg(x:ah)(e:Nat):ah:=⟨x.ents,x.locals,x.n+1,cP x.q e x.n,x.code,x.sites⟩
def ey(l:List bK)(s:ByteArray):Nat:=if (bI l s).isSome then 5 else 0
def ah.var(x:ah)(s:ByteArray):ah:=⟨x.ents++[⟨s,4,x.locals⟩],x.locals+1,x.n,x.q,x.code,x.sites⟩
def bf(k:Int)(e:aP):ic:=⟨k,0,false,e,dB,[],[]⟩
def hJ(p:aZ)(s:aL)(x:ah):ah:=
 if s.kind=1 then ((x.beg (dE (ey x.ents s.name) (cO x.ents s.expr))).put ⟨1,x.locals,false,cW x.ents s.expr,dB,[],[]⟩ x.n).var s.name
 else if s.kind=2 then (x.beg (dE (ea x.ents s.name) (cO x.ents s.expr))).put ⟨1,(bL x.ents s.name).n,decide ((bL x.ents s.name).kind=1),cW x.ents s.expr,dB,[],[]⟩ x.n
 else if s.kind=3∨s.kind=4 then (x.beg (dx p x.ents s)).put (fv p x.ents s) x.n
 else if s.kind=5 then (x.beg (dq p x.ents s.ref)).put ⟨4,0,false,.zero,eH x.ents s.ref,[],[]⟩ x.n
 else if s.kind=6 then (x.beg (dq p x.ents s.ref)).put ⟨5,0,false,.zero,eH x.ents s.ref,[],[]⟩ x.n
 else (x.beg 0).put (bf 8 .zero) x.n
def ah.branch(x:ah)(e:aP):ah:=(x.beg (cO x.ents e)).put (bf 6 (cW x.ents e)) x.n
def ah.back(x:ah)(y:ah):ah:=⟨x.ents,y.locals,y.n,y.q,y.code,y.sites⟩
mutual
def ci(p:aZ):aL -> ah -> ah
 |.mk k name e r args t f,x=>
  if k=7 then
   (if f.length=0 then ((x.branch e).back (cE p t (x.branch e))).patch x.code.length
    else (ah.back x (cE p f ((((x.branch e).back (cE p t (x.branch e))).put (bf 7 .zero) x.n).patch x.code.length))).patch (cE p t (x.branch e)).code.length)
  else if k=8 then (((x.branch e).back (cE p t (x.branch e))).put ⟨7,x.code.length,false,.zero,dB,[],[]⟩ x.n).patch x.code.length
  else hJ p (.mk k name e r args t f) x
def cE(p:aZ):List aL -> ah -> ah
 |[],x=>x
 |s::l,x=>cE p l (ci p s x)
end
def aJ(p:aZ)(l:List aL)(x:ah):ah:=x.back (cE p l x)
def oC(p:aZ)(s:aL)(x:ah):ci p s x=if s.kind=7 then
   (if s.els.length=0 then (aJ p s.thn (x.branch s.expr)).patch x.code.length
    else (aJ p s.els (((aJ p s.thn (x.branch s.expr)).put (bf 7 .zero) x.n).patch x.code.length)).patch (aJ p s.thn (x.branch s.expr)).code.length)
  else if s.kind=8 then ((aJ p s.thn (x.branch s.expr)).put ⟨7,x.code.length,false,.zero,dB,[],[]⟩ x.n).patch x.code.length
  else hJ p s x:=by
 obtain ⟨k,n,e,r,a,t,f⟩:=s;rw [ci];rfl
def I5(p:aZ):∀(l:List aL)(s:aL)(x:ah),cE p (l++[s]) x=ci p s (cE p l x)
 |[],s,x=>by rw [dw,cE,cE,cE]
 |a::l,s,x=>by rw [eD,cE,cE,I5 p l s]
def nR(p:aZ)(l:List aL)(k:Nat)(h:k<l.length)(x:ah):ci p l[k] (cE p (l.take k) x)=cE p (l.take (k+1)) x:=by
 rw [ga h,I5]
def ba(p:aZ):List bK:=p.globals.mapIdx (λi g=>⟨g.name,1,i⟩)++(p.mutexes.mapIdx (λi m=>⟨m.name,2,i⟩)++p.funcs.mapIdx (λi f=>⟨f.name,3,i⟩))
def jJ:List bK -> List bK -> Option Nat
 |_,[]=>none
 |l,x::r=>if (bI l x.name).isSome then some l.length else jJ (l++[x]) r
def hY:List bp -> List bK -> Nat -> Nat -> Option (List bK×Nat×Nat)
 |[],l,i,m=>some (l,i,m)
 |x::r,l,i,m=>if (bI l x.name).isSome then none else if x.mutex then hY r (l++[⟨x.name,5,m⟩]) i (m+1) else hY r (l++[⟨x.name,4,i⟩]) (i+1) m
def ah.init(l:List bK)(i:Nat):ah:=⟨l,i,0,(0,0),[],[]⟩
def tI(p:aZ)(f:bE)(l:List bK)(i:Nat):ah:=(aJ p f.body (ah.init l i)).put (bf 8 .zero) (aJ p f.body (ah.init l i)).n
def jY(p:aZ)(f:bE):iH:=match hY f.params (ba p) 0 0 with
 |none=>(5,-1)
 |some (l,i,_)=>(tI p f l i).q
structure uD where
 name:ByteArray
 ints:Nat
 locks:Nat
 locals:Nat
 code:List ic
def gQ(p:aZ)(f:bE):uD:=match hY f.params (ba p) 0 0 with
 |none=>⟨ax,0,0,0,[]⟩
 |some (l,i,m)=>⟨f.name,i,m,(tI p f l i).locals,(tI p f l i).code⟩
def kF(p:aZ):List bE -> Nat -> Int×Int×Nat
 |[],_=>(0,0,0)
 |f::r,i=>if (jY p f).1=0 then kF p r (i+1) else (i,(jY p f).2,(jY p f).1)
def d7:ByteArray:=⟨#[109,97,105,110]⟩
def me(p:aZ):Bool:=match bI (ba p) d7 with
 |none=>false
 |some v=>decide (v.kind=3) && decide ((iy p v.n).length=0)
def gJ(p:aZ):Int×Int×Nat:=
 if gE p=false then (-1,-1,10) else
 match jJ [] (ba p) with
 |some i=>(-1,i,5)
 |none=>if me p then kF p p.funcs 0 else (-1,-1,9)
end
section
open Go.RowKit
instance (priority:=900) boxIn_appG{A0 R A B:List aT}{b:Nat}{T:TypeId}{cs:List aN}[h:kZ R b A T cs B]:kZ (A0++R) b (A0++A) T cs B:=⟨by rw [h.h,append_assoc]⟩
instance (priority:=1050) appL_app{A0 X ds r:List aT}[h:pR X ds r]:pR (A0++X) ds (A0++r):=⟨by rw [append_assoc,h.h]⟩
instance aCP:eQ 1 1 2:=⟨rfl⟩
instance aAe:eQ 1 2 3:=⟨rfl⟩
instance aDp:eQ 1 3 4:=⟨rfl⟩
instance aCM:eQ 1 4 5:=⟨rfl⟩
instance ZK:eQ 1 5 6:=⟨rfl⟩
instance aDf:eQ 2 1 3:=⟨rfl⟩
instance aDN:eQ 2 2 4:=⟨rfl⟩
instance aDm:eQ 2 3 5:=⟨rfl⟩
instance aA6:eQ 2 4 6:=⟨rfl⟩
instance Z0:eQ 2 5 7:=⟨rfl⟩
instance XG:eQ 3 1 4:=⟨rfl⟩
instance Y1:eQ 3 2 5:=⟨rfl⟩
instance aBM:eQ 3 3 6:=⟨rfl⟩
instance YA:eQ 3 4 7:=⟨rfl⟩
instance YU:eQ 3 5 8:=⟨rfl⟩
instance Yz:eQ 4 1 5:=⟨rfl⟩
instance V6:eQ 4 2 6:=⟨rfl⟩
instance XY:eQ 4 3 7:=⟨rfl⟩
instance Xj:eQ 4 4 8:=⟨rfl⟩
instance aDs:eQ 4 5 9:=⟨rfl⟩
instance aCY:eQ 5 1 6:=⟨rfl⟩
instance XL:eQ 5 2 7:=⟨rfl⟩
instance aDq:eQ 5 3 8:=⟨rfl⟩
instance Y7:eQ 5 4 9:=⟨rfl⟩
instance Xs:eQ 5 5 10:=⟨rfl⟩
instance aDM:eQ 6 1 7:=⟨rfl⟩
instance aBF:eQ 6 2 8:=⟨rfl⟩
instance aBi:eQ 6 3 9:=⟨rfl⟩
instance aBx:eQ 6 4 10:=⟨rfl⟩
instance WS:eQ 6 5 11:=⟨rfl⟩
instance aBH:eQ 7 1 8:=⟨rfl⟩
instance Ww:eQ 7 2 9:=⟨rfl⟩
instance XV:eQ 7 3 10:=⟨rfl⟩
instance Xw:eQ 7 4 11:=⟨rfl⟩
instance Y':eQ 7 5 12:=⟨rfl⟩
instance W0:eQ 8 1 9:=⟨rfl⟩
instance WK:eQ 8 2 10:=⟨rfl⟩
instance ZE:eQ 8 3 11:=⟨rfl⟩
instance Zf:eQ 8 4 12:=⟨rfl⟩
instance Y6:eQ 8 5 13:=⟨rfl⟩
def rL{bx:List aT}{rw:List aS}{Z:List Nat}{b:Nat}[h1:k9 bx b][h2:wz bx b Z](hn:(⟨bx,rw⟩:aH).bl.Nodup):b∈fG ⟨bx,rw⟩ Z:=gK.2 ⟨fj _ h1.h,h2.h (du.1 hn).1⟩
def lp{P:Program}{U:List Nat}{o:Oper}{st:AS}{x:bc}{t e E:bA}{v:aM}{z n:Nat}{cs:List aN}(A:List aS){B:List aS}(ho:o.op=.call {callee:=.builtin .len,args:=#[x],argTypes:=#[t]})(hx:ay st x=some (au v))(hrow:st.s.rows=A++⟨v,E,z,n,cs⟩::B)(hu:∀w,(underlying t).run P w=.ok (.slice e) w)(hz:0<z:=by decide):cf P U o st (bB n):=
 iF rfl λa w hs w'=>by
  obtain ⟨us,hownR,-⟩:=hs.mem.row ⟨v,E,z,n,cs⟩ p7;have hown:=hownR.row hz;have hv:∃p c,v=.slice p n c:=by
   rcases hown.2 with ⟨h1,h2⟩|⟨g,cap,cur,h1,-⟩
   ·dsimp only at h1 h2;subst h2;exact ⟨_,_,h1⟩
   exact ⟨_,_,h1⟩
  obtain ⟨p,c,rfl⟩:=hv;simp only [execOp,ho,resolve,km,cd,fg,hs.val hx];simp [go_sem,invoke,builtin,Builtin.len_,hu,goInt]
class vn (bx:List aT) (Z:List Nat):Prop where h:∀z,z∈Z -> z∈bx.map aT.b
instance Zq{bx:List aT}:vn bx []:=⟨aK⟩
instance aCy{bx:List aT}{z:Nat}{Z:List Nat}[h1:k9 bx z][h2:vn bx Z]:vn bx (z::Z):=⟨λy hy=>by rcases mem_cons.1 hy with rfl|h;exact h1.h;exact h2.h _ h⟩
def gL{bx:List aT}{rw:List aS}{Z:List Nat}{v:aM}{E:bA}{z n b:Nat}{cs:List aN}[h1:vn bx Z](hn:(⟨bx,⟨v,E,z,n,cs⟩::rw⟩:aH).bl.Nodup)(hb:b∈aO v):b∈fG ⟨bx,⟨v,E,z,n,cs⟩::rw⟩ Z:=by
 have h3:b∈(⟨v,E,z,n,cs⟩::rw:List aS).flatMap λr=>aO r.v:=by simp [hb]
 refine gK.2 ⟨f7 _ h3,λhz=>?_⟩;exact (du.1 hn).2.2 b (h1.h b hz) b h3 J
def sQ{P:Program}{ops:Array Oper}{n:Nat}{T:List Nat}{bx:List aT}{rw:List aS}{ts:List (Nat×AT)}{Q:Exit -> AS -> Prop}{l:List Oper}(i:Nat){v:aM}{E:bA}{z k:Nat}{cs:List aN}(hi:look ts i=some (au v))(h:cL P ops l ⟨n,T,⟨bx,rw⟩,(i,.c (.sl k cs))::ts⟩ Q)(hz:0<z:=by decide):cL P ops l ⟨n,T,⟨bx,⟨v,E,z,k,cs⟩::rw⟩,ts⟩ Q:=
 rh (Hj (st:=⟨n,T,⟨bx,⟨v,E,z,k,cs⟩::rw⟩,ts⟩) (A:=[]) i hi rfl hz) h
section
variable {P:Program}{ops:Array Oper}{U T:List Nat}{o:Oper}{n d:Nat}{bx:List aT}{rw:List aS}{ts:List (Nat×AT)}{Q:Exit -> AS -> Prop}{l:List Oper}{K:AS -> Prop}{st:AS}{t:AT}
theorem Eu{s:aH}{w:aV}(hm:Mem s w){r:aS}(hr:r∈s.rows)(hn:0<r.n)(hz:0<r.z):∃g cap,r.v=.slice (some ⟨g,0,none⟩) r.n cap:=by
 obtain ⟨us,h0,-⟩:=hm.row r hr;obtain ⟨h1,h2⟩:=h0.row hz;rcases h2 with ⟨-,h2⟩|⟨g,cap,cur,h2,-⟩
 ·omega
 exact ⟨g,cap,h2⟩
theorem JD(A:List aS){B:List aS}{v:aM}{E:bA}{z k:Nat}{cs:List aN}(hk:0<k)(h:∀g cap,v=.slice (some ⟨g,0,none⟩) k cap -> cL P ops l ⟨n,T,⟨bx,A++⟨v,E,z,k,cs⟩::B⟩,ts⟩ Q)(hz:0<z:=by decide):cL P ops l ⟨n,T,⟨bx,A++⟨v,E,z,k,cs⟩::B⟩,ts⟩ Q:=λa w hs QQ hQ=>by
 obtain ⟨g,cap,hv⟩:=Eu hs.mem (r:=⟨v,E,z,k,cs⟩) aK hk hz;exact h g cap hv a w hs QQ hQ
theorem pu(A:List aS){c:Code}{B:List aS}{v:aM}{E:bA}{z k:Nat}{cs:List aN}(hk:0<k)(h:∀g cap,v=.slice (some ⟨g,0,none⟩) k cap -> bo P c ⟨n,T,⟨bx,A++⟨v,E,z,k,cs⟩::B⟩,ts⟩ Q)(hz:0<z:=by decide):bo P c ⟨n,T,⟨bx,A++⟨v,E,z,k,cs⟩::B⟩,ts⟩ Q:=λa w hs QQ hQ=>by
 obtain ⟨g,cap,hv⟩:=Eu hs.mem (r:=⟨v,E,z,k,cs⟩) aK hk hz;exact h g cap hv a w hs QQ hQ
theorem wb{E E0:bA}{x:bc}{g off z zz k cap:Nat}{cs:List aN}{ag:Bool}(A:List aS){B:List aS}(ho:o.op=.load E x)(hx:ay st x=some (au (.pointer (some ⟨g,off,none⟩))))(hrow:st.s.rows=A++⟨.slice (some ⟨g,0,none⟩) k cap,E0,zz,k,cs⟩::B)
  (hA:∀w,(isAgg E).run P w=.ok ag w) (hS:∀w,(sizeOf E).run P w=.ok z w) (hp:gV ag z cs off=some t) (hU:st.s.bl.Nodup -> g∉U):cf P U o st t:=by
 intro a w hs hU2;obtain ⟨us,hownR,h2⟩:=hs.mem.row ⟨.slice (some ⟨g,0,none⟩) k cap,E0,zz,k,cs⟩ p7;have hown:=hownR.row0 J;obtain ⟨h3,h4⟩:=hown;rcases h4 with ⟨h4,-⟩|⟨g',cap',cur,hv,-,hh,hk,hcm,hcs,htk⟩
 ·cases h4
 cases hv;obtain ⟨v,hv,hl⟩:=yH (P:=P) (b:=g) (o:=0) hA hS h2 hp;refine ⟨v,hv,λw' hkp=>?_⟩;have hlt:g<w.heap.size:=hs.mem.lt g (f7 _ (by rw [hrow];simp [aO,Value.ownBlock]));have hb:=hkp.block g hlt (hU hs.mem.nodup);have hl2:=hl w' (λj u hj=>by
  unfold World.cell?;simp only [hb,hh];have h9:(cur.toList.take (k*zz))[j]?=some u:=by rw [htk];exact hj
  rw [m0] at h9;split at h9
  ·simpa using h9
  cases h9)
 simp only [e0] at hl2;simp only [execOp,ho,hs.val hx,Instr.loadAt,Instr.sureAddr,Sem.run_bind,Sem.run_pure,Result.andThen_ok];rw [hl2];rfl
theorem qW{E e:bA}{z:Nat}(ho:o.op=.buildSlice E 0 #[])(hd:o.dst=some d)(hn:d<n)(hu:P.underlying E=some (.slice e))(hS:∀w,(sizeOf e).run P w=.ok z w)
  (h:∀g,K ⟨n,g::T,⟨bx,⟨.slice (some ⟨g,0,none⟩) 0 0,e,z,0,[]⟩::rw⟩,(d,au (.slice (some ⟨g,0,none⟩) 0 0))::ts⟩):dN P U o ⟨n,T,⟨bx,rw⟩,ts⟩ K:=by
 intro a w hs KK QQ hK;unfold Oper.wp;have hrun:(execOp a.eval o).run P w=.ok (.value (.slice (some ⟨w.heap.size,0,none⟩) 0 0)) (w.alloc (.cells #[] e)):=by
  have h1:(underlying E).run P w=.ok (.slice e) w:=run_underlying hu w;have h2:(sizeOf e).run P w=.ok z w:=hS w;simp only [execOp,ho,Instr.buildSlice,Sem.run_bind,h1,Result.andThen_ok,h2,qA];simp [go_sem,Instr.fill,newRow]
 rw [hrun,Oper.upon_value,hd];have hk:cH [] w (w.alloc (.cells #[] e)):=(cH.refl _ _).alloc _;have hne:w.heap.size∉(⟨bx,rw⟩:aH).bl:=λhm=>Lr;have hbl:(⟨bx,⟨.slice (some ⟨w.heap.size,0,none⟩) 0 0,e,z,0,[]⟩::rw⟩:aH).bl=bx.map aT.b++w.heap.size::rw.flatMap λr=>aO r.v:=Ee;have hsub:∀b,b∈(⟨bx,⟨.slice (some ⟨w.heap.size,0,none⟩) 0 0,e,z,0,[]⟩::rw⟩:aH).bl -> b∈(⟨bx,rw⟩:aH).bl∨w.heap.size <= b:=λb hb=>by
  rw [hbl] at hb;simp only [mem_append,mem_cons] at hb;rcases hb with h|rfl|h
  ·exact .inl (fj _ h)
  ·exact .inr (bW _)
  exact .inl (f7 _ h)
 have hup:fl (bi (⟨bx,rw⟩:aH).bl w) (bi (⟨bx,⟨.slice (some ⟨w.heap.size,0,none⟩) 0 0,e,z,0,[]⟩::rw⟩:aH).bl (w.alloc (.cells #[] e))):=kR hk gr hsub;have hsz:(w.alloc (.cells #[] e)).heap.size=w.heap.size+1:=aK;have hm:Mem ⟨bx,⟨.slice (some ⟨w.heap.size,0,none⟩) 0 0,e,z,0,[]⟩::rw⟩ (w.alloc (.cells #[] e)):=by
  refine ⟨?_,λb hb=>?_,λx hx=>?_,λr hr=>?_⟩
  ·rw [hbl];have hnd:(bx.map aT.b++rw.flatMap λr=>aO r.v).Nodup:=hs.mem.nodup;rw [du] at hnd⊢;refine ⟨hnd.1,kE.2 ⟨λh=>hne (f7 _ h),hnd.2.1⟩,λa ha b hb=>?_⟩;rcases mem_cons.1 hb with rfl|hb
   ·intro he;subst he;exact hne (fj _ ha)
   exact hnd.2.2 a ha b hb
  ·rw [hbl] at hb;simp only [mem_append,mem_cons] at hb;rw [hsz];rcases hb with h|rfl|h
   ·exact xe (hs.mem.lt b (fj _ h))
   ·exact Ea _
   exact xe (hs.mem.lt b (f7 _ h))
  ·obtain ⟨us,aa,e2⟩:=hs.mem.box x hx;exact ⟨us,Kg,e2.mono hup⟩
  rcases mem_cons.1 hr with rfl|hr
  ·refine ⟨[],.inl ⟨aK,.inr ⟨w.heap.size,0,#[],J,d2 _,?_,bW _,d2 _,aK,aK⟩⟩,.nil _⟩;show (w.heap.push _)[w.heap.size]?=_;simp
  obtain ⟨us,aa,e2⟩:=hs.mem.row r hr;exact ⟨us,aa.keep λg hg=>hk.block g (hs.mem.lt g (f7 _ (jv.2 ⟨r,hr,hg⟩))) aK,e2.mono hup⟩
 have s1:=hs.step (st:=⟨n,T,⟨bx,rw⟩,ts⟩) (w.heap.size::T) (hk.mono aK) hm hsub;refine hK _ _ _ (h _) (s1.put (v:=.slice (some ⟨w.heap.size,0,none⟩) 0 0) hn (.c _ _ (.val _ J))) ⟨hk.mono aK,hk.mono aK,hsub,λb hb=>?_⟩ (hk.mono aK);rcases mem_cons.1 hb with rfl|hb
 ·exact .inr (bW _)
 exact .inl hb
end
end
section
open Go.RowKit
def ox{a b:Bool}(h:a=true↔b=true):Ending.returned (.bool a)=.returned (.bool b):=by rw [Bool.eq_iff_iff.2 h]
def jt{k:IntKind}{a b:Int}(h:a=b):Ending.returned (.int k a)=.returned (.int k b):=by rw [h]
def An(c:UInt8)(w:aV):
  Calls prog 150 #[.int .u8 c.toNat] w λe w'=>e=.returned (.bool (isSp c)) /\ w=w':=by
 unfold isSp;generalize (c.toNat:Int)=n
 go_enter func150,Tryz.ntmps150
 go_wp2
 all_goals (go_ret;refine ⟨ox ?_,rfl⟩;simp;try omega)
def yV(c:UInt8)(w:aV):
  Calls prog 153 #[.int .u8 c.toNat] w λe w'=>e=.returned (.bool (fR c)) /\ w=w':=by
 unfold fR;generalize (c.toNat:Int)=n
 go_enter func153,Tryz.ntmps153
 go_wp2
 all_goals (go_ret;refine ⟨ox ?_,rfl⟩;simp;try omega)
def xK(c:UInt8)(w:aV):
  Calls prog 155 #[.int .u8 c.toNat] w λe w'=>e=.returned (.bool (dJ c)) /\ w=w':=by
 unfold dJ;generalize (c.toNat:Int)=n
 go_enter func155,Tryz.ntmps155
 go_wp2
 all_goals (go_ret;refine ⟨ox ?_,rfl⟩;simp;try omega)
def FV(c:UInt8)(w:aV):
  Calls prog 180 #[.int .u8 c.toNat] w λe w'=>e=.returned (.bool (cv c)) /\ w=w':=by
 go_enter func180,Tryz.ntmps180
 go_wp2_with (first|(go_at_call 153;refine (yV _ _).mono ?_;rintro e w' ⟨rfl,rfl⟩)|(go_at_call 155;refine (xK _ _).mono ?_;rintro e w' ⟨rfl,rfl⟩))
 all_goals (go_ret;refine ⟨ox ?_,rfl⟩;simp [cv, *])
def DO(s p:aG)(w:aV):
  Calls prog 151 #[.string s,.string p] w λe w'=>e=.returned (.bool (Lib.hasPrefix s.data.toList p.data.toList)) /\ w=w':=
 (Tryz.strings_HasPrefix s p w).mono λ_ _ h=>⟨h.1,h.2.symm⟩
def BN(s:aG)(c:Int)(w:aV):
  Calls prog 152 #[.string s,.int .u8 c] w λe w'=>e=.returned (.int .i64 (Lib.indexByte s.data.toList c.toNat.toUInt8)) /\ w=w':=
 (Tryz.strings_IndexByte s c w).mono λ_ _ h=>⟨h.1,h.2.symm⟩
def yD(s:aG)(k0:Nat)(w:aV)(hs:s.size <= 9223372036854775807)(hk:k0 <= s.size):
  Calls prog 126 #[.string s,.int .i64 k0] w λe w'=>e=.returned (.int .i64 (cR s.data.toList k0)) /\ w=w':=by
 have hlen:s.data.toList.length=s.size:=J
 go_enter func126,Tryz.ntmps126
 go_wp2_with fail
 go_loop [1,5] (λv _=>∃k:Nat,k <= s.size /\ v=.int .i64 k /\ cR s.data.toList k=cR s.data.toList k0) (λv _=>s.size-(intOf v).toNat)
 case atStart=>exact ⟨k0,hk,rfl,rfl⟩
 case round=>
  obtain ⟨k,hk,rfl,hr⟩:=hrel;have HR:=Lib.hid hr;clear hr;have HL:=Lib.hid hlen;clear hlen;by_cases hlt:k<s.size
  ·by_cases hsp:isSp s[k]=true
   ·go_wp2_with (first|(go_at_call 150;refine (An _ _).mono ?_;rintro e w' ⟨rfl,rfl⟩))
    go_round
    case rel=>exact ⟨k+1,Y,j0,(GV _ _ tC hsp).trans HR.out⟩
    case measure=>simp [intOf];omega
   have hsp':isSp s[k]=false:=by simpa using hsp
   clear hsp;by_cases hc:Lib.hasPrefix (s.data.toList.drop k) [47,47]=true
   ·have hcom:=Ss _ _ tC hc;have HC:=Lib.hid hcom;clear hcom;have htk:List.take (s.size-k) (List.drop k s.data.toList)=List.drop k s.data.toList:=take_of_length_le aK;by_cases hn:Lib.indexByte (s.data.toList.drop k) 10<0
    ·go_wp2_with (first|(go_at_call 150;refine (An _ _).mono ?_;rintro e w' ⟨rfl,rfl⟩)|(go_at_call 151;refine (DO _ _ _).mono ?_;rintro e w' ⟨rfl,rfl⟩)|(go_at_call 152;refine (BN _ _ _).mono ?_;rintro e w' ⟨rfl,rfl⟩))
     go_ret
     exact ⟨jt (by rw [←HR.out,HC.out.1 hn,HL.out]),J⟩
    obtain ⟨j,hj⟩:∃j:Nat,Lib.indexByte (s.data.toList.drop k) 10=j:=⟨(Lib.indexByte (s.data.toList.drop k) 10).toNat,Y⟩;obtain ⟨h1,h2,h3⟩:=HC.out.2 j hj;rw [HL.out] at h2;have H1:=Lib.hid h1;clear h1;clear hn
    go_wp2_with (first|(go_at_call 150;refine (An _ _).mono ?_;rintro e w' ⟨rfl,rfl⟩)|(go_at_call 151;refine (DO _ _ _).mono ?_;rintro e w' ⟨rfl,rfl⟩)|(go_at_call 152;refine (BN _ _ _).mono ?_;rintro e w' ⟨rfl,rfl⟩))
    go_round
    case rel=>exact ⟨k+j,Y,j0,H1.out.trans HR.out⟩
    case measure=>simp [intOf];omega
   have hc':Lib.hasPrefix (s.data.toList.drop k) [47,47]=false:=by simpa using hc
   have hstop:cR s.data.toList k=k:=by
    refine DZ _ _ tC hsp' ?_;rintro ⟨h1,h2⟩
    apply hc
    rw [It,jL _ _ tC,h1];cases hd:s.data.toList.drop (k+1) with
    |nil=>simp [hd] at h2
    |cons a r=>rw [hd] at h2;simp at h2;subst h2;exact ⟨r,rfl⟩
   have HS:=Lib.hid hstop;clear hstop;clear hc;have htk:List.take (s.size-k) (List.drop k s.data.toList)=List.drop k s.data.toList:=take_of_length_le aK
   go_wp2_with (first|(go_at_call 150;refine (An _ _).mono ?_;rintro e w' ⟨rfl,rfl⟩)|(go_at_call 151;refine (DO _ _ _).mono ?_;rintro e w' ⟨rfl,rfl⟩))
   go_ret
   exact ⟨jt (by rw [←HR.out,HS.out]),J⟩
  go_wp2_with fail
  go_ret
  exact ⟨jt (by rw [←HR.out,DJ _ _ Bo,HL.out];omega),J⟩
def yP(p:UInt8 -> Bool)(l:List UInt8)(k:Nat)(hk:k<l.length)(h:(l.takeWhile p).length=k+((l.drop k).takeWhile p).length):
  (p l[k]=true -> (l.takeWhile p).length=(k+1)+((l.drop (k+1)).takeWhile p).length) /\ (p l[k]=false -> (l.takeWhile p).length=k):=by
 rw [jL l k hk] at h;refine ⟨λhp=>?_,λhp=>?_⟩
 ·rw [q8 hp] at h;simp at h;omega
 rw [List.takeWhile_cons_of_neg (by simp [hp])] at h;simpa using h
def Qd(s:aG)(w:aV)(hs:s.size <= 9223372036854775807):
  Calls prog 179 #[.string s,.func (.func 155) #[] #[]] w λe w'=>e=.returned (.int .i64 (s.data.toList.takeWhile dJ).length) /\ w=w':=by
 have HL:=Lib.hid (show s.data.toList.length=s.size from J)
 go_enter func179,Tryz.ntmps179
 go_wp2_with fail
 go_loop [5] (λv=>∃k:Nat,k <= s.size /\ v=.int .i64 k /\ (s.data.toList.takeWhile dJ).length=k+((s.data.toList.drop k).takeWhile dJ).length) (λv=>s.size-(intOf v).toNat)
 case atStart=>exact ⟨0,Y,rfl,aK⟩
 case round=>
  obtain ⟨k,hk,rfl,hr⟩:=hrel;by_cases hlt:k<s.size
  ·have HT:=Lib.hid (yP dJ s.data.toList k tC hr);clear hr;by_cases hp:dJ s[k]=true
   ·go_wp2_with (first|(go_at_call 155;refine (xK _ _).mono ?_;rintro e w' ⟨rfl,rfl⟩))
    go_round
    case rel=>exact ⟨k+1,Y,j0,HT.out.1 hp⟩
    case measure=>simp [intOf];omega
   have hp':dJ s[k]=false:=by simpa using hp
   clear hp
   go_wp2_with (first|(go_at_call 155;refine (xK _ _).mono ?_;rintro e w' ⟨rfl,rfl⟩))
   go_ret
   exact ⟨jt (by rw [HT.out.2 hp']),J⟩
  have HR:=Lib.hid hr;clear hr
  go_wp2_with fail
  go_ret
  refine ⟨jt ?_,J⟩;rw [HR.out,ka Bo];rfl
def O5(s:aG)(w:aV)(hs:s.size <= 9223372036854775807):
  Calls prog 179 #[.string s,.func (.func 180) #[] #[]] w λe w'=>e=.returned (.int .i64 (s.data.toList.takeWhile cv).length) /\ w=w':=by
 have HL:=Lib.hid (show s.data.toList.length=s.size from J)
 go_enter func179,Tryz.ntmps179
 go_wp2_with fail
 go_loop [5] (λv=>∃k:Nat,k <= s.size /\ v=.int .i64 k /\ (s.data.toList.takeWhile cv).length=k+((s.data.toList.drop k).takeWhile cv).length) (λv=>s.size-(intOf v).toNat)
 case atStart=>exact ⟨0,Y,rfl,aK⟩
 case round=>
  obtain ⟨k,hk,rfl,hr⟩:=hrel;by_cases hlt:k<s.size
  ·have HT:=Lib.hid (yP cv s.data.toList k tC hr);clear hr;by_cases hp:cv s[k]=true
   ·go_wp2_with (first|(go_at_call 180;refine (FV _ _).mono ?_;rintro e w' ⟨rfl,rfl⟩))
    go_round
    case rel=>exact ⟨k+1,Y,j0,HT.out.1 hp⟩
    case measure=>simp [intOf];omega
   have hp':cv s[k]=false:=by simpa using hp
   clear hp
   go_wp2_with (first|(go_at_call 180;refine (FV _ _).mono ?_;rintro e w' ⟨rfl,rfl⟩))
   go_ret
   exact ⟨jt (by rw [HT.out.2 hp']),J⟩
  have HR:=Lib.hid hr;clear hr
  go_wp2_with fail
  go_ret
  refine ⟨jt ?_,J⟩;rw [HR.out,ka Bo];rfl
structure Env (w:World):Prop where
 words:∀j,j<words.length -> w.cell? ⟨0,0+j,none⟩=some (.string (words.getD j ByteArray.empty))
 maxLen:∃m:Int,w.cell? ⟨2,0,none⟩=some (.int .i64 m)
 size:Nat.max 0 2+1 <= w.heap.size
def Env.below{B:Nat}{w w':aV}(h:Env w)(hb:Below B w w')(hB:Nat.max 0 2+1 <= B):Env w':=by
 refine ⟨λj hj=>?_,?_,gb h.size hb.size⟩
 ·rw [hb.cell (p:=⟨0,0+j,none⟩) (k_ (V:0<Nat.max 0 2+1) hB)];exact h.words j hj
 rw [hb.cell (p:=⟨2,0,none⟩) (k_ (V:2<Nat.max 0 2+1) hB)];exact h.maxLen
def Env.alloc{w:aV}(h:Env w)(o:Obj):Env (w.alloc o):=h.below ((Below.refl w.heap.size w).alloc (bW _) o) h.size
def Env.drew{w:aV}(h:Env w):Env w.drew:=h.below ((Below.refl w.heap.size w).drew) h.size
def Env.setCell{w:aV}(h:Env w){a:Addr}(ha:Nat.max 0 2+1 <= a.block)(u:aM):Env (w.setCell a u):=h.below ((Below.refl (Nat.max 0 2+1) w).setCell ha u) (bW _)
def UY(s:aG)(w:aV)(he:Env w):
  Calls prog 196 #[.slice (some ⟨0,0,none⟩) 11 11,.string s] w λe w'=>e=.returned (.bool (ee s)) /\ w=w':=by
 refine (Tryz.slices_Contains_string 0 0 11 11 words s w V V he.words).mono λe w' h=>⟨?_,h.2.symm⟩;rw [h.1];refine ox ?_;rw [Lib.containsS_iff,zk];rfl
def Sf(s:aG)(w:aV)(he:Env w):
  Calls prog 181 #[.string s] w λe w'=>e=.returned (.bool (ee s)) /\ w=w':=by
 go_enter func181,Tryz.ntmps181
 go_wp2_with (first|(go_at_call 196;refine (UY _ _ he).mono ?_;rintro e w' ⟨rfl,rfl⟩))
 go_ret
 exact ⟨J,J⟩
def G1(s:aG)(p:UInt8 -> Bool):s.extract 0 (s.data.toList.takeWhile p).length=bytes (s.data.toList.takeWhile p):=by
 have:=ByteArray.extract_mk s.data.toList 0 (s.data.toList.takeWhile p).length;rw [show (ByteArray.mk s.data.toList.toArray)=s from by simp] at this;rw [this,bytes,sS,xP]
 congr 2
 conv=>rhs;rw [Lk]
 rw [Lk,j8,List.take_eq_take_iff];omega
def Ra(s:aG)(w:aV)(hs:s.size <= 9223372036854775807)(he:Env w):
  Calls prog 154 #[.string s] w λe w'=>e=.returned (.tuple #[.agg #[.int .i64 ((if ee (bytes (s.data.toList.takeWhile cv)) then 3 else 1:Nat):Int),.string (bytes (s.data.toList.takeWhile cv)),.int .i64 0,.int .i64 0],.int .i64 ((if 16<(s.data.toList.takeWhile cv).length then 3 else 0:Nat):Int)]) /\ Below w.heap.size w w':=by
 have hle:(s.data.toList.takeWhile cv).length <= s.size:=(uV _).length_le;have hx:=G1 s cv;have hsz:(bytes (s.data.toList.takeWhile cv)).size=(s.data.toList.takeWhile cv).length:=ri
 go_enter func154,Tryz.ntmps154
 go_wp2_with (first|(go_at_call 179;refine (O5 _ _ hs).mono ?_;rintro e w' ⟨rfl,rfl⟩)|(go_at_call 181;refine (Sf _ _ ((he.alloc _).alloc _)).mono ?_;rintro e w' ⟨rfl,rfl⟩))
 all_goals (go_returns;refine ⟨?_,eG⟩)
 all_goals first|rfl|(rw [if_pos Y];rfl)|(rw [if_neg Y];rfl)
def Sd(t:aG)(k n:Nat)(hk:k<t.size)(h:e1 0 t.data.toList=e1 n (t.data.toList.drop k)):
  ((9223372036854775807-(t[k].toNat-48))/10<n -> e1 0 t.data.toList=none) /\ (¬(9223372036854775807-(t[k].toNat-48))/10<n -> e1 0 t.data.toList=e1 (10*n+(t[k].toNat-48)) (t.data.toList.drop (k+1))):=by
 rw [jL _ k (by exact hk),e1] at h;refine ⟨λhn=>?_,λhn=>?_⟩
 ·rw [h];exact if_pos hn
 rw [h];exact if_neg hn
def R2(t:ByteArray)(e:Ending):Prop:=∃n:Nat,(n:Int) <= 9223372036854775807 /\ ((e1 0 t.data.toList=none /\ e=.returned (.tuple #[.agg #[.int .i64 2,.string t,.int .i64 n,.int .i64 0],.int .i64 2]))∨(e1 0 t.data.toList=some n /\ e=.returned (.tuple #[.agg #[.int .i64 2,.string t,.int .i64 n,.int .i64 0],.int .i64 0])))
def Px(s:aG)(w:aV)(hs:s.size <= 9223372036854775807):
  Calls prog 156 #[.string s] w λe w'=>R2 (bytes (s.data.toList.takeWhile dJ)) e /\ Below w.heap.size w w':=by
 have hle:(s.data.toList.takeWhile dJ).length <= s.size:=(uV _).length_le;have hx:=G1 s dJ;have hsz:(bytes (s.data.toList.takeWhile dJ)).size=(s.data.toList.takeWhile dJ).length:=ri;have hall:∀c∈(bytes (s.data.toList.takeWhile dJ)).data.toList,dJ c=true:=by
  intro c hc;simp only [bytes] at hc;exact (d3.1 (Ck (p:=dJ) (l:=s.data.toList))) c hc
 generalize hm:(s.data.toList.takeWhile dJ).length=m at *;generalize ht:bytes (s.data.toList.takeWhile dJ)=t at *;have HM:=Lib.hid hm;have HT:=Lib.hid ht;have HA:=Lib.hid hall;have HX:=Lib.hid hx;clear hm ht hall;subst hsz
 go_enter func156,Tryz.ntmps156
 go_wp2_with (first|(go_at_call 179;refine (Qd _ _ hs).mono ?_;rintro e w' ⟨rfl,rfl⟩;rw [HM.out]))
 go_loopw [15] (λv wr=>∃k n:Nat,k <= t.size /\ v=.int .i64 k /\ n <= 9223372036854775807 /\ e1 0 t.data.toList=e1 n (t.data.toList.drop k) /\ wr=(w.alloc (Obj.cells #[Value.int IntKind.i64 0,Value.string {data:=#[]},Value.int IntKind.i64 0,Value.int IntKind.i64 0] 154)).alloc (Obj.cells #[Value.int IntKind.i64 2,Value.string t,Value.int IntKind.i64 n,Value.int IntKind.i64 0] 154)) (λv _=>t.size-(intOf v).toNat)
 case atStart=>exact ⟨0,0,Y,rfl,Y,rfl,rfl⟩
 case round=>
  obtain ⟨k,n,hk,rfl,hn,hv,rfl⟩:=hrel;by_cases hlt:k<t.size
  ·have hst:=Sd t k n hlt hv;have hd:dJ t[k]=true:=HA.out _ (by simp [ByteArray.getElem_eq_getElem_data]);have HS:=Lib.hid hst;clear hst hv;simp only [dJ,decide_eq_true_eq] at hd;obtain ⟨hd1,hd2⟩:=hd;by_cases hov:(9223372036854775807-(t[k].toNat-48))/10<n
   ·have hov':(9223372036854775807-((t[k].toNat:Int)-48))/10<(n:Int):=Y;have HO:=Lib.hid hov;clear hov
    go_wp2_with fail
    go_returns
    exact ⟨⟨n,Y,.inl ⟨HS.out.1 HO.out,J⟩⟩,eG⟩
   have hov':(n:Int) <= (9223372036854775807-((t[k].toNat:Int)-48))/10:=Y;have HO:=Lib.hid hov;clear hov
   go_wp2_with fail
   go_roundw
   case rel=>exact ⟨k+1,10*n+(t[k].toNat-48),Y,j0,Y,HS.out.2 HO.out,by congr 5;go_num⟩
   case measure=>simp [intOf];omega
  have HV:=Lib.hid hv;clear hv
  go_wp2_with fail
  go_returns
  refine ⟨⟨n,Y,.inr ⟨?_,J⟩⟩,eG⟩;rw [HV.out,ka (by show t.size <= k;omega),e1]
def EY(sub:aG)(w:aV)(he:Env w):
  Calls prog 182 #[.string ⟨#[60,61,32,62,61,32,61,61,32,33,61,32,38,38,32,124,124]⟩,.string sub] w λe w'=>e=.returned (.bool (Lib.contains tf sub.data.toList)) /\ w=w':=by
 obtain ⟨m,hm⟩:=he.maxLen;exact (Tryz.strings_Contains _ sub m w V hm).mono λe w' h=>⟨h.1,h.2.symm⟩
def Mj(c:UInt8)(w:aV):
  Calls prog 152 #[.string ⟨#[40,41,123,125,91,93,44,59,61,43,45,42,47,37,60,62,33]⟩,.int .u8 c.toNat] w λe w'=>e=.returned (.int .i64 (Lib.indexByte iT c)) /\ w=w':=by
 refine (BN _ _ _).mono λe w' h=>⟨?_,h.2⟩;rw [h.1];congr 3;simp
def xI(s:ByteArray)(n:Nat):Value:=.tuple #[.agg #[.int .i64 (if n=0 then 0 else 4),.string (bytes (s.data.toList.take n)),.int .i64 0,.int .i64 0],.int .i64 (if n=0 then 1 else 0)]
def C2(s:aG)(n:Nat):s.extract 0 n=bytes (s.data.toList.take n):=by
 have:=ByteArray.extract_mk s.data.toList 0 n;rw [show (ByteArray.mk s.data.toList.toArray)=s from by simp] at this;rw [this,bytes,sS,xP]
def tL(l:List UInt8):(bytes l).data.toList=l:=qN
def NT(s:aG)(w:aV)(he:Env w)(h2:1<s.size)(h0:((s[0].toNat:Int) == 32)=false)(h1:((s[1].toNat:Int) == 32)=false)(hc:Lib.contains tf (s.data.toList.take 2)=true):
  Calls prog 157 #[.string s] w λe w'=>e=.returned (xI s 2) /\ Below w.heap.size w w':=by
 have h0':((s[0].toNat:Int) != 32)=true:=by simp at h0⊢;exact h0
 have h1':((s[1].toNat:Int) != 32)=true:=by simp at h1⊢;exact h1
 have h2':(1:Int)<s.size:=Y;have hx:=C2 s 2;have hbd:=tL (s.data.toList.take 2)
 go_enter func157,Tryz.ntmps157
 go_wp2_with (first|(go_at_call 182;refine (EY _ _ (he.alloc _)).mono ?_;rintro e w' ⟨rfl,rfl⟩))
 go_returns
 exact ⟨J,eG⟩
inductive Cz (s:ByteArray):Prop
 |short (h:(s.size:Int) <= 1)
 |first (h2:(1:Int)<s.size) (h0:0<s.size) (h:((s[0].toNat:Int) != 32)=false)
 |second (h2:(1:Int)<s.size) (h3:1<s.size) (h0:((s[0].toNat:Int) != 32)=true) (h:((s[1].toNat:Int) != 32)=false)
 |other (h2:(1:Int)<s.size) (h3:1<s.size) (h0:((s[0].toNat:Int) != 32)=true) (h1:((s[1].toNat:Int) != 32)=true) (hc:Lib.contains tf (s.data.toList.take 2)=false)
def Sx(s:aG)(w:aV)(he:Env w)(h2:0<s.size)(hn:Cz s)(hb:0 <= Lib.indexByte iT s[0]):
  Calls prog 157 #[.string s] w λe w'=>e=.returned (xI s 1) /\ Below w.heap.size w w':=by
 have hx:=C2 s 1;cases hn;all_goals
  go_enter func157,Tryz.ntmps157
  go_wp2_with (first|(go_at_call 182;refine (EY _ _ (he.alloc _)).mono ?_;rintro e w' ⟨rfl,rfl⟩)|(go_at_call 152;refine (Mj _ _).mono ?_;rintro e w' ⟨rfl,rfl⟩))
  go_returns
  exact ⟨J,eG⟩
def So(s:aG)(w:aV)(he:Env w)(h2:0<s.size)(hn:Cz s)(hb:Lib.indexByte iT s[0]<0):
  Calls prog 157 #[.string s] w λe w'=>e=.returned (xI s 0) /\ Below w.heap.size w w':=by
 have hx:=C2 s 1;cases hn;all_goals
  go_enter func157,Tryz.ntmps157
  go_wp2_with (first|(go_at_call 182;refine (EY _ _ (he.alloc _)).mono ?_;rintro e w' ⟨rfl,rfl⟩)|(go_at_call 152;refine (Mj _ _).mono ?_;rintro e w' ⟨rfl,rfl⟩))
  go_returns
  exact ⟨J,eG⟩
def rU(c:UInt8):(c≠32 -> ((c.toNat:Int) != 32)=true) /\ (c=32 -> ((c.toNat:Int) != 32)=false):=by
 refine ⟨λh=>?_,λh=>by subst h;rfl⟩;simp only [bne_iff_ne,ne_eq];intro h3;apply h;apply UInt8.toNat_inj.1;show c.toNat=32;omega
def U0(s:aG)(w:aV)(he:Env w)(h0:0<s.size):
  Calls prog 157 #[.string s] w λe w'=>e=.returned (xI s (jZ s.data.toList)) /\ Below w.heap.size w w':=by
 have hl:s.data.toList.length=s.size:=J;have hcons:=jL s.data.toList 0 Y;rw [sS] at hcons;have key:Cz s /\ ¬(2 <= s.data.toList.length /\ s.data.toList.take 2∈jM) -> Calls prog 157 #[.string s] w λe w'=>e=.returned (xI s (jZ s.data.toList)) /\ Below w.heap.size w w':=by
  rintro ⟨hn,hm⟩;by_cases hb:Lib.indexByte iT s[0]<0
  ·have:=(ID _).1 hb;rw [show jZ s.data.toList=0 from by rw [hcons] at hm⊢;exact LG hm this];exact So s w he h0 hn hb
  have:s[0]∈iT:=Classical.byContradiction λh=>hb ((ID _).2 h);rw [show jZ s.data.toList=1 from by rw [hcons] at hm⊢;exact Cr hm this];exact Sx s w he h0 hn Y
 by_cases h2:1<s.size
 ·have e2:s.data.toList.take 2=[s[0],s[1]]:=by
   rw [hcons,jL s.data.toList 1 Y];rfl
  by_cases ha:s[0]=32
  ·refine key ⟨.first Y h0 ((rU _).2 ha),λh=>?_⟩;rw [e2] at h;exact (GD _ _ h.2).1 ha
  by_cases hb:s[1]=32
  ·refine key ⟨.second Y h2 ((rU _).1 ha) ((rU _).2 hb),λh=>?_⟩;rw [e2] at h;exact (GD _ _ h.2).2 hb
  by_cases hc:Lib.contains tf (s.data.toList.take 2)=true
  ·have hm:s.data.toList.take 2∈jM:=by rw [e2] at hc⊢;exact (MK _ _ ha hb).1 hc
   rw [C5 Y hm];have h3:=(rU _).1 ha;have h4:=(rU _).1 hb;exact NT s w he h2 (by simp at h3⊢;exact h3) (by simp at h4⊢;exact h4) hc
  refine key ⟨.other Y h2 ((rU _).1 ha) ((rU _).1 hb) (by simpa using hc),λh=>hc ?_⟩;have hm:=h.2;rw [e2] at hm⊢;exact (MK _ _ ha hb).2 hm
 ·exact key ⟨.short Y,by rintro ⟨h,_⟩;omega⟩
def om{W w1:aV}(hb:Below W.heap.size W w1):(∀b o,b<W.heap.size -> w1.cell? ⟨b,o,none⟩=W.cell? ⟨b,o,none⟩) /\ (∀b o,b<W.heap.size -> w1.frozen? ⟨b,o,none⟩=W.frozen? ⟨b,o,none⟩):=
 ⟨λb o h=>hb.cell (p:=⟨b,o,none⟩) h,λb o h=>hb.frozen (p:=⟨b,o,none⟩) h⟩
def D'(l:List UInt8)(k num er:Int)(text:ByteArray):Prop:=
 (∃n:Nat,d1 l=.err n /\ er=n /\ n≠0)∨(∃kd len nu:Nat,d1 l=.tok kd len nu /\ er=0 /\ k=kd /\ num=nu /\ text=bytes (l.take len))
def zt(l:List UInt8)(e:Ending):Prop:=∃(k num er:Int) (text:ByteArray),e=.returned (.tuple #[.agg #[.int .i64 k,.string text,.int .i64 num,.int .i64 0],.int .i64 er]) /\ D' l k num er text
def takeWhile_take{α:Type}(p:α -> Bool)(l:List α):l.take (l.takeWhile p).length=l.takeWhile p:=
 (Dy.1 (BZ p)).symm
def tn(s:aG)(h0:0<s.size):s.data.toList=s[0]::s.data.toList.drop 1:=by
 have:=jL s.data.toList 0 (by exact h0);rw [sS] at this;exact this
def PX(s:aG)(w:aV)(hs:s.size <= 9223372036854775807)(he:Env w)(h0:0<s.size)(hl:fR s[0]=true):
  Calls prog 154 #[.string s] w λe w'=>zt s.data.toList e /\ Below w.heap.size w w':=by
 refine (Ra s w hs he).mono λe w' ⟨h,hb⟩=>⟨⟨_,_,_,_,h,?_⟩,hb⟩;have hn:=sv (c:=s[0]) (r:=s.data.toList.drop 1) hl;rw [←tn s h0] at hn;by_cases h16:16<(s.data.toList.takeWhile cv).length
 ·rw [if_pos h16] at hn;exact .inl ⟨3,hn,by rw [if_pos h16],Y⟩
 rw [if_neg h16] at hn;exact .inr ⟨_,_,_,hn,by rw [if_neg h16];rfl,rfl,rfl,by rw [takeWhile_take]⟩
def Rn(s:aG)(w:aV)(hs:s.size <= 9223372036854775807)(h0:0<s.size)(hl:fR s[0]=false)(hd:dJ s[0]=true):
  Calls prog 156 #[.string s] w λe w'=>zt s.data.toList e /\ Below w.heap.size w w':=by
 refine (Px s w hs).mono λe w' ⟨h,hb⟩=>⟨?_,hb⟩;obtain ⟨n,_,⟨hn,h⟩|⟨hn,h⟩⟩:=h
 ·refine ⟨_,_,_,_,h,.inl ⟨2,?_,J,Y⟩⟩;rw [tL] at hn;rw [tn s h0] at hn;have hq:=u' hl hd hn;rw [←tn s h0] at hq;exact hq
 refine ⟨_,_,_,_,h,.inr ⟨2,(s.data.toList.takeWhile dJ).length,n,?_,J,J,J,by rw [takeWhile_take]⟩⟩;rw [tL] at hn;rw [tn s h0] at hn;have hq:=tD hl hd hn;rw [←tn s h0] at hq;exact hq
def Ng(s:aG)(w:aV)(he:Env w)(h0:0<s.size)(hl:fR s[0]=false)(hd:dJ s[0]=false):
  Calls prog 157 #[.string s] w λe w'=>zt s.data.toList e /\ Below w.heap.size w w':=by
 refine (U0 s w he h0).mono λe w' ⟨h,hb⟩=>⟨?_,hb⟩;have hn:=rk (c:=s[0]) (r:=s.data.toList.drop 1) hl hd;rw [←tn s h0] at hn;by_cases hz:jZ s.data.toList=0
 ·rw [if_pos hz] at hn;rw [hz] at h;exact ⟨_,_,_,_,h,.inl ⟨1,hn,rfl,Y⟩⟩
 rw [if_neg hz] at hn;refine ⟨_,_,_,_,h,.inr ⟨_,_,_,hn,by rw [if_neg hz],by rw [if_neg hz];rfl,J,J⟩⟩
def B9(s:aG)(w:aV)(hs:s.size <= 9223372036854775807)(he:Env w)(h0:0<s.size):
  Calls prog 127 #[.string s] w λe w'=>zt s.data.toList e /\ Below w.heap.size w w':=by
 by_cases hl:fR s[0]=true;focus
  go_enter func127,Tryz.ntmps127
  go_wp2_with (first|(go_at_call 153;refine (yV _ _).mono ?_;rintro e w' ⟨rfl,rfl⟩)|(go_at_call 154;refine (PX _ _ hs (he.alloc _) h0 hl).mono ?_;rintro e w' ⟨⟨k,num,er,text,rfl,hR⟩,hb⟩;have HR:=Lib.hid hR;clear hR;obtain ⟨hc,hf⟩:=om hb))
 rotate_left;focus
  have hl':fR s[0]=false:=sF;clear hl;by_cases hd:dJ s[0]=true;focus
   go_enter func127,Tryz.ntmps127
   go_wp2_with (first|(go_at_call 153;refine (yV _ _).mono ?_;rintro e w' ⟨rfl,rfl⟩)|(go_at_call 155;refine (xK _ _).mono ?_;rintro e w' ⟨rfl,rfl⟩)|(go_at_call 156;refine (Rn _ _ hs h0 hl' hd).mono ?_;rintro e w' ⟨⟨k,num,er,text,rfl,hR⟩,hb⟩;have HR:=Lib.hid hR;clear hR;obtain ⟨hc,hf⟩:=om hb))
  rotate_left;have hd':dJ s[0]=false:=by simpa using hd
  clear hd
  go_enter func127,Tryz.ntmps127
  go_wp2_with (first|(go_at_call 153;refine (yV _ _).mono ?_;rintro e w' ⟨rfl,rfl⟩)|(go_at_call 155;refine (xK _ _).mono ?_;rintro e w' ⟨rfl,rfl⟩)|(go_at_call 157;refine (Ng _ _ (he.alloc _) h0 hl' hd').mono ?_;rintro e w' ⟨⟨k,num,er,text,rfl,hR⟩,hb⟩;have HR:=Lib.hid hR;clear hR;obtain ⟨hc,hf⟩:=om hb))
 all_goals
  refine bodyPost_ret (v:=.tuple #[.agg #[.int .i64 k,.string text,.int .i64 num,.int .i64 0],.int .i64 er]) (by simp [results,Tryz.results127,go_sem,hc]) J ?_;exact ⟨⟨_,_,_,_,J,HR.out⟩,((((Below.refl _ _).alloc (bW _) _).trans (hb.mono aK)).setCell aK _).setCell aK _|>.setCell aK _|>.setCell aK _⟩
def Tok.cells(t:Tok):List Value:=[.int .i64 t.kind,.string t.text,.int .i64 t.num,.int .i64 t.pos]
def jC(l:List Tok):List Value:=l.flatMap Tok.cells
def zZ(l:List Tok)(t:Tok):jC l++[.int .i64 t.kind,.string t.text,.int .i64 t.num,.int .i64 t.pos]=jC (l++[t]):=by simp [jC,Tok.cells]
def J0:(prog.info? 154).map (λi=>(i.zero,i.size,i.bytes))=some (some (.agg #[.int .i64 0,.string ⟨#[]⟩,.int .i64 0,.int .i64 0]),4,40):=aQ
def Tt{l:List UInt8}{k num er:Int}{text:aG}{n:Nat}(h:D' l k num er text)(hn:d1 l=.err n):er=n /\ (n:Int)≠0:=by
 rcases h with ⟨m,h1,h2,h3⟩|⟨_,_,_,h1,_⟩
 ·rw [hn] at h1;cases h1;exact ⟨h2,Y⟩
 rw [hn] at h1;cases h1
def Kn{l:List UInt8}{k num er:Int}{text:aG}{a b c:Nat}(h:D' l k num er text)(hn:d1 l=.tok a b c):er=0 /\ k=a /\ num=c /\ text=bytes (l.take b):=by
 rcases h with ⟨m,h1,h2,h3⟩|⟨_,_,_,h1,h2,h3,h4,h5⟩
 ·rw [hn] at h1;cases h1
 rw [hn] at h1;cases h1;exact ⟨h2,h3,h4,h5⟩
def O_(w:World)(s:List UInt8)(v:Value)(pos er:Int):Prop:=
 (∃l,fo s=.ok l /\ dr w v l.length (jC l) /\ pos=s.length /\ er=0 /\ l.length <= 4001)∨(∃p e:Nat,fo s=.err p e /\ v=.slice none 0 0 /\ pos=p /\ er=e /\ e≠0)
def pB(w:World)(N:Nat)(s:List UInt8)(v:Value)(pos er:Int):Prop:=
 (∃l,fo s=.ok l /\ w.ownsRow N 154 4 v l.length (jC l) /\ pos=s.length /\ er=0 /\ l.length <= 4001)∨(∃p e:Nat,fo s=.err p e /\ v=.slice none 0 0 /\ pos=p /\ er=e /\ e≠0)
def pB.r{w:aV}{N:Nat}{s:List UInt8}{v:aM}{pos er:Int}(h:pB w N s v pos er):O_ w s v pos er:=
 h.imp (λ⟨l,h1,h2,h3⟩=>⟨l,h1,dr.of_owns h2,h3⟩) id
def QW(a:Option Addr)(n cap:Nat)(w:aV)(hs:(262144:Int)<n):
  Calls prog 94 #[.slice a n cap] w λe w'=>e=.returned (.tuple #[.slice none 0 0,.int .i64 262144,.int .i64 3]) /\ w=w':=by
 go_enter func94,Tryz.ntmps94
 go_wp2_with fail
 go_step3
 go_wp2_with fail
 rw [Exit.noGoto_ret]
 go_ret3
 exact ⟨J,J⟩
def Pk(s:aG)(a:Option Addr)(n cap:Nat)(w:aV)(he:Env w)(hn:n=s.size)(hs:s.size <= 262144)
  (hcv:(convert 58 9 (.slice a n cap)).run prog w=.ok (.string s) w):
  Calls prog 94 #[.slice a n cap] w λe w'=>(∃v pos er,e=.returned (.tuple #[v,.int .i64 pos,.int .i64 er]) /\ pB w' w.heap.size s.data.toList v pos er) /\ Below w.heap.size w w':=by
 subst hn;obtain ⟨i0,hi,hz0,hz1,hz2⟩:=info_parts J0;have HS:=Lib.hid (show s.data.toList.length=s.size from J)
 go_enter func94,Tryz.ntmps94
 go_wp2_with fail
 go_step3
 go_wp2_with fail
 go_step3
 go_wp2_with fail
 go_loopw [6,7] (λv at_ wr=>∃(k:Nat) (toks:List Tok),at_=.int .i64 k /\ k <= s.size /\ wr.ownsRow w.heap.size 154 4 v toks.length (jC toks) /\ gN s.data.toList 0 0=gD.app toks (gN s.data.toList k toks.length) /\ toks.length <= 4000 /\ Below w.heap.size w wr) (λ_ at_ _=>s.size-(intOf at_).toNat)
 case atStart=>exact ⟨0,[],rfl,Y,ownsRow_nil _ _ _ _,by rw [gD.app_nil];rfl,aK,Below.refl _ _⟩
 case round=>
  obtain ⟨k,toks,rfl,hk,hown,hlx,hlen,hbel⟩:=hrel;have heW:Env wr:=he.below hbel he.size;obtain ⟨oa,oc,rfl⟩:=vK hown;have hge:=p9 s.data.toList k hk;have HLX:=Lib.hid hlx;clear hlx hcv;by_cases hend:s.size <= cR s.data.toList k
  ·go_wp2_with (first|(go_at_call 126;refine (yD _ _ _ Y hk).mono ?_;rintro e w' ⟨rfl,rfl⟩)|(at_builtin;refine wpList_append_own _ rfl _ _ 139 rfl w.heap.size 154 i0 _ 4 40 underlying139 hi hz0 hz1 hz2 rfl V _ toks.length (jC toks) rfl (ownsRow_below hown ((Below.refl _ _).alloc (bW _) _) (bW _)) ⟨wr.heap.size,0,none⟩ 1 1 [.int .i64 5,.string ⟨#[]⟩,.int .i64 0,.int .i64 s.size] rfl rfl (ym _ _ _) og c_ Y yu ?_))
   intro v' w1 hown1 hgrow _;have hb1:Below w.heap.size w w1:=Below.grow (hbel.alloc hbel.size _) hgrow yu (ownsRow_below hown ((Below.refl _ _).alloc (bW _) _) (bW _)) (bW _);clear hgrow
   go_wp2_with fail
   rw [Exit.noGoto_ret]
   go_ret3
   refine ⟨⟨_,_,_,J,.inl ⟨toks++[⟨5,⟨#[]⟩,0,s.size⟩],?_,?_,by rw [HS.out],J,di⟩⟩,hb1⟩
   ·unfold fo;rw [if_neg C',HLX.out,wG (by rw [HS.out];exact hend),HS.out];rfl
   have:=hown1;rw [←zZ];simpa using this
  have hlt:cR s.data.toList k<s.size:=Y;have hx:s.extract (cR s.data.toList k) s.size=bytes (s.data.toList.drop (cR s.data.toList k)):=by
   have:=ByteArray.extract_mk s.data.toList (cR s.data.toList k) s.size;rw [show (ByteArray.mk s.data.toList.toArray)=s from by simp] at this;rw [this,bytes];congr 2;exact take_of_length_le (by rw [jk,HS.out];omega)
  have hsz:(bytes (s.data.toList.drop (cR s.data.toList k))).size=s.size-cR s.data.toList k:=by rw [bytes];show (List.drop _ _).toArray.size=_;rw [uF,jk,HS.out]
  have HZ:=Lib.hid hsz;have hbd:=tL (s.data.toList.drop (cR s.data.toList k));have HD:=Lib.hid hbd;clear hsz hbd;cases hnx:d1 (s.data.toList.drop (cR s.data.toList k)) with
  |err en=>
   have HN:=Lib.hid hnx;clear hnx
   go_wp2_with (first|(go_at_call 126;refine (yD _ _ _ Y hk).mono ?_;rintro e w' ⟨rfl,rfl⟩)|(go_at_call 127;refine (B9 _ _ tP heW tP).mono ?_;rintro e w1 ⟨⟨kd,num,er,text,rfl,hR⟩,hb⟩;rw [HD.out] at hR;obtain ⟨rfl,hne⟩:=Tt hR HN.out;clear hR;obtain ⟨hc,hf⟩:=om hb))
   rw [Exit.noGoto_ret]
   go_ret3
   refine ⟨⟨_,_,_,J,.inr ⟨cR s.data.toList k,en,?_,J,J,J,Y⟩⟩,(hbel.trans (hb.mono hbel.size)).alloc (gb hbel.size hb.size) _⟩;unfold fo;rw [if_neg C',HLX.out,yC Bq HN.out];rfl
  |tok nk len nu=>
   have hl1:=xL (by intro h;have:=congrArg List.length h;rw [jk,HS.out] at this;simp at this;omega) hnx;rw [jk,HS.out] at hl1;have HN:=Lib.hid hnx;clear hnx;have htx:(bytes ((s.data.toList.drop (cR s.data.toList k)).take len)).size=len:=by
    rw [bytes];show (List.take _ _).toArray.size=_;rw [uF,j8,jk,HS.out];omega
   by_cases hfull:toks.length=4000
   ·have hf1:((toks.length:Int) == 4000)=true:=A9;have HF:=Lib.hid hfull;clear hfull htx
    go_wp2_with (first|(go_at_call 126;refine (yD _ _ _ Y hk).mono ?_;rintro e w' ⟨rfl,rfl⟩)|(go_at_call 127;refine (B9 _ _ tP heW tP).mono ?_;rintro e w1 ⟨⟨kd,num,er,text,rfl,hR⟩,hb⟩;rw [HD.out] at hR;obtain ⟨rfl,rfl,rfl,rfl⟩:=Kn hR HN.out;clear hR;obtain ⟨hc,hf⟩:=om hb))
    rw [Exit.noGoto_ret]
    go_ret3
    refine ⟨⟨_,_,_,J,.inr ⟨cR s.data.toList k,3,?_,J,J,J,Y⟩⟩,(hbel.trans (hb.mono hbel.size)).alloc (gb hbel.size hb.size) _⟩;unfold fo;rw [if_neg C',HLX.out,HF.out,yx Bq HN.out];rfl
   have hf1:((toks.length:Int) == 4000)=false:=Cs;have HF:=Lib.hid hfull;have hlen2:toks.length<4000:=Y;clear hfull
   go_wp2_with (first|(go_at_call 126;refine (yD _ _ _ Y hk).mono ?_;rintro e w' ⟨rfl,rfl⟩)|(go_at_call 127;refine (B9 _ _ tP heW tP).mono ?_;rintro e w1 ⟨⟨kd,num,er,text,rfl,hR⟩,hb⟩;rw [HD.out] at hR;obtain ⟨rfl,rfl,rfl,rfl⟩:=Kn hR HN.out;clear hR;obtain ⟨hc,hf⟩:=om hb)|(at_builtin;refine wpList_append_own _ rfl _ _ 139 rfl w.heap.size 154 i0 _ 4 40 underlying139 hi hz0 hz1 hz2 rfl V _ toks.length (jC toks) rfl (ownsRow_below hown ((hb.alloc hb.size _).alloc (by have:=hb.size;simp;omega) _) (bW _)) ⟨w1.heap.size+1,0,none⟩ 1 1 [.int .i64 nk,.string (bytes ((s.data.toList.drop (cR s.data.toList k)).take len)),.int .i64 nu,.int .i64 (cR s.data.toList k)] rfl rfl (qD _ _ _ _ aK) og c_ Y Bi ?_))
   intro v' w2 hown2 hgrow _;have hb2:Below w.heap.size w w2:=Below.grow (((hbel.trans (hb.mono hbel.size)).alloc (gb hbel.size hb.size) _).alloc Bi _) hgrow Bi (ownsRow_below hown ((hb.alloc hb.size _).alloc (by have:=hb.size;simp;omega) _) (bW _)) (bW _);have hcw:∀o,w2.cell? ⟨w1.heap.size,o,none⟩=((w1.alloc (Obj.cells #[.int .i64 nk,.string (bytes ((s.data.toList.drop (cR s.data.toList k)).take len)),.int .i64 nu,.int .i64 (cR s.data.toList k)] 154)).cell? ⟨w1.heap.size,o,none⟩):=by
    intro o;rw [QA hgrow hown hb.size di o];exact (Below.alloc (B:=(w1.alloc (Obj.cells #[.int .i64 nk,.string (bytes ((s.data.toList.drop (cR s.data.toList k)).take len)),.int .i64 nu,.int .i64 (cR s.data.toList k)] 154)).heap.size) (Below.refl _ _) (bW _) _).cell (p:=⟨w1.heap.size,o,none⟩) aK
   clear hgrow
   go_wp2_with fail
   go_roundw
   case rel=>
    refine ⟨cR s.data.toList k+len,toks++[⟨nk,bytes ((s.data.toList.drop (cR s.data.toList k)).take len),nu,cR s.data.toList k⟩],j0,Y,?_,?_,di,hb2⟩
    ·rw [←zZ];simpa using hown2
    rw [HLX.out,wl (by rw [HS.out];exact hk) Bq HN.out HF.out,gD.app_cons];simp
   case measure=>simp [intOf];omega
def Qx(a:Option Addr)(n cap:Nat)(w:aV)(s:List UInt8)(hn:n=s.length)(hs:262144<n):
  Calls prog 94 #[.slice a n cap] w λe w'=>(∃v pos er,e=.returned (.tuple #[v,.int .i64 pos,.int .i64 er]) /\ pB w' w.heap.size s v pos er) /\ Below w.heap.size w w':=by
 refine (QW a n cap w Y).mono λe w' ⟨h,hw⟩=>?_;subst hw;refine ⟨⟨_,_,_,h,.inr ⟨262144,3,?_,J,J,J,Y⟩⟩,Below.refl _ _⟩;unfold fo;rw [if_pos Y]
def UF(s:List UInt8)(v:aM)(w:aV)(he:Env w)(hv:dr w v s.length (s.map λc=>.int .u8 c.toNat)):
  Calls prog 94 #[v] w λe w'=>(∃v pos er,e=.returned (.tuple #[v,.int .i64 pos,.int .i64 er]) /\ pB w' w.heap.size s v pos er) /\ Below w.heap.size w w':=by
 obtain ⟨a,cap,rfl,hc,hcells⟩:=hv;by_cases hs:262144<s.length
 ·exact Qx a _ cap w s J hs
 have hconv:(convert 58 9 (.slice a s.length cap)).run prog w=.ok (.string (bytes s)) w:=by
  rcases hcells with h0|⟨b,off,rfl,hr⟩
  ·obtain rfl:s=[]:=by simpa using h0
   cases a with
   |none=>exact run_convert_bytes_nil w _ _ underlying58 underlying5 _ _ _ underlying9
   |some a=>
    have hl:=run_loadCells_list (P:=prog) w a [] Dh;rw [run_convert_bytes_string w _ _ _ _ _ _ underlying58 underlying5 underlying9,length_nil,run_bytesToString w a 0 cap [] sF]
    rfl
  rw [run_convert_bytes_arg w _ _ underlying58 underlying5 b off s.length cap (s.map λc=>(c.toNat:Int)) aK ?_ _ underlying9]
  ·rw [strOfNums,lE,bytes];congr 3;rw [show ((λn:Int=>UInt8.ofNat n.toNat) ∘ λc:UInt8=>(c.toNat:Int))=id from by funext c;simp];simp
  intro i hi;rw [hr i (.int .u8 s[i].toNat) (by simp [hi])];simp [hi]
 have:=Pk (bytes s) a s.length cap w he ri (by show (List.toArray s).size <= _;rw [uF];omega) hconv;rw [tL] at this;exact this
def dI(s:List UInt8):List Value:=s.map λc=>.int .u8 c.toNat
def ByteRow.cell{w:aV}{b off:Nat}{s:List UInt8}(h:∀j u,(dI s)[j]?=some u -> w.cell? ⟨b,off+j,none⟩=some u)(k:Nat)(hk:k<s.length):w.cell? ⟨b,off+k,none⟩=some (.int .u8 s[k].toNat):=
 h k _ (by simp [dI,hk])
def lq(c:UInt8)(w:aV):
  Calls prog 81 #[.int .u8 c.toNat] w λe w'=>e=.returned (.bool (fR c)) /\ w=w':=by
 unfold fR;generalize (c.toNat:Int)=n
 go_enter func81,Tryz.ntmps81
 go_wp2
 all_goals (go_ret;refine ⟨ox ?_,rfl⟩;simp;try omega)
def mX(c:UInt8)(w:aV):
  Calls prog 82 #[.int .u8 c.toNat] w λe w'=>e=.returned (.bool (dJ c)) /\ w=w':=by
 unfold dJ;generalize (c.toNat:Int)=n
 go_enter func82,Tryz.ntmps82
 go_wp2
 all_goals (go_ret;refine ⟨ox ?_,rfl⟩;simp;try omega)
def Ro(zs:List aG)(x:aG)(k:Nat)(hk:k<zs.length)(h:x∈zs↔x∈zs.drop k):(zs[k]=x -> x∈zs) /\ (zs[k]≠x -> (x∈zs↔x∈zs.drop (k+1))):=by
 refine ⟨λe=>e▸getElem_mem hk,λe=>?_⟩;rw [h,iK hk,mem_cons];exact ⟨λh=>h.resolve_left (λe'=>e e'.symm),.inr⟩
def Az(zs:List aG)(x:aG)(v:aM)(w:aV)(hv:dr w v zs.length (zs.map .string))(hn:zs.length <= 9223372036854775807):
  Calls prog 113 #[v,.string x] w λe w'=>e=.returned (.bool (zs.any λy=>decide (y=x))) /\ w=w':=by
 obtain ⟨a,cap,rfl,hc,hr⟩:=hv
 go_enter func113,Tryz.ntmps113
 go_wp2_with fail
 go_loop [5] (λv=>∃k:Nat,k <= zs.length /\ v=.int .i64 k /\ (x∈zs↔x∈zs.drop k)) (λv=>zs.length-(intOf v).toNat)
 case atStart=>exact ⟨0,Y,rfl,aK⟩
 case round=>
  obtain ⟨k,hk,rfl,hm⟩:=hrel;have HM:=Lib.hid hm;clear hm;by_cases hlt:k<zs.length
  ·rcases hr with h0|⟨b,off,rfl,hr⟩
   ·have:zs.length=0:=by simpa using congrArg List.length h0
    omega
   have hcell:=hr k (.string zs[k]) (by simp [hlt]);clear hr;have hst:=Ro zs x k hlt HM.out;have HST:=Lib.hid hst;clear hst;by_cases he:zs[k]=x
   ·have hm:=HST.out.1 he;have HM2:=Lib.hid hm;clear hm;have hq:=Fh he;clear he
    go_wp2_with fail
    go_ret
    refine ⟨ox ?_,J⟩;simp [HM2.out]
   have hq:=L6 he;have HE:=Lib.hid he;clear he
   go_wp2_with fail
   go_round
   case rel=>exact ⟨k+1,Y,j0,HST.out.2 HE.out⟩
   case measure=>simp [intOf];omega
  clear hr
  go_wp2_with fail
  go_ret
  refine ⟨ox ?_,J⟩;have:x∉zs:=by rw [HM.out,ka Y];simp
  simp [this]
def Er(s:aG)(w:aV):
  Calls prog 83 #[.string s] w λe w'=>e=.returned (.bool (ee s)) /\ Below w.heap.size w w':=by
 go_enter func83,Tryz.ntmps83
 go_wp2_with (first|(go_at_call 113;refine (Az words _ _ _ (dr.new w (words.map .string) 9 11) V).mono ?_;rintro e w' ⟨rfl,rfl⟩))
 go_ret
 exact ⟨J,eG⟩
def Sj(s:List UInt8)(k0:Nat)(v:aM)(w:aV)(hv:dr w v s.length (dI s))(hs:s.length <= 1000000)(hk:k0 <= s.length):
  Calls prog 80 #[v,.int .i64 k0] w λe w'=>e=.returned (.int .i64 (cR s k0)) /\ w=w':=by
 obtain ⟨a,cap,rfl,hc,hr⟩:=hv
 go_enter func80,Tryz.ntmps80
 go_wp2_with fail
 go_loop [1] (λv=>∃k:Nat,k <= s.length /\ v=.int .i64 k /\ cR s k=cR s k0) (λv=>s.length-(intOf v).toNat)
 case atStart=>exact ⟨k0,hk,rfl,rfl⟩
 case round=>
  obtain ⟨k,hk,rfl,hm⟩:=hrel;have HM:=Lib.hid hm;clear hm;by_cases hlt:k<s.length
  ·rcases hr with h0|⟨b,off,rfl,hr⟩
   ·have:s.length=0:=Bl;omega
   have hcell:=ByteRow.cell hr k hlt;have HR:=Lib.hid hr;clear hr;cases hsp:isSp s[k] with
   |true=>
    have hn:=GV s k hlt hsp;have HN:=Lib.hid hn;simp only [isSp,decide_eq_true_eq] at hsp;clear hn;rcases hsp with h|h|h|h
    ·have e32:((s[k].toNat:Int) == 32)=true:=m6;clear h
     go_wp2_with fail
     go_round
     case rel=>exact ⟨k+1,Y,j0,HN.out.trans HM.out⟩
     case measure=>simp [intOf];omega
    ·have e32:((s[k].toNat:Int) == 32)=false:=m6;have e9:((s[k].toNat:Int) == 9)=true:=m6;clear h
     go_wp2_with fail
     go_round
     case rel=>exact ⟨k+1,Y,j0,HN.out.trans HM.out⟩
     case measure=>simp [intOf];omega
    ·have e32:((s[k].toNat:Int) == 32)=false:=m6;have e9:((s[k].toNat:Int) == 9)=false:=m6;have e10:((s[k].toNat:Int) == 10)=false:=m6;have e13:((s[k].toNat:Int) == 13)=true:=m6;clear h
     go_wp2_with fail
     go_round
     case rel=>exact ⟨k+1,Y,j0,HN.out.trans HM.out⟩
     case measure=>simp [intOf];omega
    ·have e32:((s[k].toNat:Int) == 32)=false:=m6;have e9:((s[k].toNat:Int) == 9)=false:=m6;have e10:((s[k].toNat:Int) == 10)=true:=m6;clear h
     go_wp2_with fail
     go_round
     case rel=>exact ⟨k+1,Y,j0,HN.out.trans HM.out⟩
     case measure=>simp [intOf];omega
   |false=>
    have HP:=Lib.hid hsp;simp only [isSp,decide_eq_false_iff_not,not_or] at hsp;have f1:((s[k].toNat:Int) == 32)=false:=by rw [beq_eq_false_iff_ne];exact hsp.1
    have f2:((s[k].toNat:Int) == 9)=false:=by rw [beq_eq_false_iff_ne];exact hsp.2.1
    have f3:((s[k].toNat:Int) == 13)=false:=by rw [beq_eq_false_iff_ne];exact hsp.2.2.1
    have f4:((s[k].toNat:Int) == 10)=false:=by rw [beq_eq_false_iff_ne];exact hsp.2.2.2
    clear hsp;have stop:¬(∃h2:k+1<s.length,s[k]=47 /\ s[k+1]=47) -> cR s k0=k:=λh=>by rw [←HM.out];exact DZ s k hlt HP.out (QS hlt h)
    have STOP:=Lib.hid stop;clear stop;by_cases h1:s.length <= k+1
    ·have g1:(s.length:Int) <= k+1:=Y;have hst:=STOP.out (by rintro ⟨h,_⟩;omega);have HST:=Lib.hid hst;clear hst h1
     go_wp2_with fail
     go_ret
     exact ⟨jt (by rw [HST.out]),J⟩
    have g1:(k:Int)+1<s.length:=Y;have h1':k+1<s.length:=Y;clear h1;by_cases h2:s[k]=47
    ·have g2:=((uR s[k] 47 47 J Y).1 h2).1;have hcell2:=ByteRow.cell HR.out (k+1) h1';have hcell3:=hcell2;rw [←qw] at hcell3;by_cases h3:s[k+1]=47
     ·have g3:=((uR s[k+1] 47 47 J Y).1 h3).1;have H2:=Lib.hid h2;have H3:=Lib.hid h3;clear h2 h3
      go_wp2_with fail
      go_hide hQ
      go_loop [1] (λv=>∃j:Nat,k <= j /\ j <= s.length /\ v=.int .i64 j /\ (s.drop k).dropWhile (·!= 10)=(s.drop j).dropWhile (·!= 10)) (λv=>s.length-(intOf v).toNat)
      case atStart=>exact ⟨k,Y,Y,rfl,rfl⟩
      case round=>
       obtain ⟨j,hkj,hj,rfl,hd⟩:=hrel;have HD:=Lib.hid hd;clear hd hcell2 hcell3 hcell;have fin:(s.drop k).dropWhile (·!= 10)=s.drop j -> cR s j=cR s k0:=λh=>(RD s k j h1' H2.out H3.out h).trans HM.out
       have FIN:=Lib.hid fin;clear fin;by_cases hje:j<s.length
       ·have hcell:=ByteRow.cell HR.out j hje;have hst:=Om s k j hje HD.out;have HST:=Lib.hid hst;clear hst;by_cases h10:s[j]=10
        ·have e10:=((uR s[j] 10 10 J Y).1 h10).2;have hfin:=FIN.out (HST.out.1 h10);have hne:k≠j:=by rintro rfl;rw [H2.out] at h10;exact absurd h10 V
         have HF:=Lib.hid hfin;clear hfin h10
         go_wp2_with fail
         subst hQ
         go_wp2_with fail
         go_round
         case rel=>exact ⟨j,Y,rfl,HF.out⟩
         case measure=>simp [intOf];omega
        have e10:=((uR s[j] 10 10 J Y).2 h10).2;have hnx:=HST.out.2 h10;have HNX:=Lib.hid hnx;clear hnx h10
        go_wp2_with fail
        go_round
        case rel=>exact ⟨j+1,Y,Y,j0,HNX.out⟩
        case measure=>simp [intOf];omega
       have hfin:=FIN.out (by rw [HD.out,ka Y];rfl);have HF:=Lib.hid hfin;clear hfin
       go_wp2_with fail
       subst hQ
       go_wp2_with fail
       go_round
       case rel=>exact ⟨j,Y,rfl,HF.out⟩
       case measure=>simp [intOf];omega
     have g3:=((uR s[k+1] 47 47 J Y).2 h3).1;have hst:=STOP.out (by rintro ⟨_,_,h⟩;exact h3 h);have HST:=Lib.hid hst;clear hst h2 h3
     go_wp2_with fail
     go_ret
     exact ⟨jt (by rw [HST.out]),J⟩
    have g2:=((uR s[k] 47 47 J Y).2 h2).1;have hst:=STOP.out (by rintro ⟨_,h,_⟩;exact h2 h);have HST:=Lib.hid hst;clear hst h2
    go_wp2_with fail
    go_ret
    exact ⟨jt (by rw [HST.out]),J⟩
  clear hr
  go_wp2_with fail
  go_ret
  exact ⟨jt (by rw [←HM.out,DJ _ _ Y];omega),J⟩
def SH(t:List UInt8)(k n:Nat)(hk:k<t.length)(h:e1 0 t=e1 n (t.drop k)):
  ((9223372036854775807-(t[k].toNat-48))/10<n -> e1 0 t=none) /\ (¬(9223372036854775807-(t[k].toNat-48))/10<n -> e1 0 t=e1 (10*n+(t[k].toNat-48)) (t.drop (k+1))):=by
 rw [jL _ k hk,e1] at h;refine ⟨λhn=>?_,λhn=>?_⟩
 ·rw [h];exact if_pos hn
 rw [h];exact if_neg hn
def o7(t:List UInt8):Int:=match e1 0 t with|none=>-1|some n=>n
def SK(t:List UInt8)(v:aM)(w:aV)(hv:dr w v t.length (dI t))(hs:t.length <= 1000000)(hd:∀c∈t,dJ c=true):
  Calls prog 84 #[v] w λe w'=>e=.returned (.int .i64 (o7 t)) /\ w=w':=by
 obtain ⟨a,cap,rfl,hc,hr⟩:=hv;have HA:=Lib.hid hd;clear hd
 go_enter func84,Tryz.ntmps84
 go_wp2_with fail
 go_loop [3,4] (λu v=>∃k n:Nat,k <= t.length /\ v=.int .i64 k /\ u=.int .i64 n /\ n <= 9223372036854775807 /\ e1 0 t=e1 n (t.drop k)) (λ_ v=>t.length-(intOf v).toNat)
 case atStart=>exact ⟨0,0,Y,rfl,rfl,Y,rfl⟩
 case round=>
  obtain ⟨k,n,hk,rfl,rfl,hn,hv⟩:=hrel;by_cases hlt:k<t.length
  ·rcases hr with h0|⟨b,off,rfl,hr⟩
   ·have:t.length=0:=Bl;omega
   have hcell:=ByteRow.cell hr k hlt;clear hr;have hst:=SH t k n hlt hv;have hd:dJ t[k]=true:=HA.out _ (getElem_mem hlt);have HS:=Lib.hid hst;clear hst hv;simp only [dJ,decide_eq_true_eq] at hd;obtain ⟨hd1,hd2⟩:=hd;by_cases hov:(9223372036854775807-(t[k].toNat-48))/10<n
   ·have hov':(9223372036854775807-((t[k].toNat:Int)-48))/10<(n:Int):=Y;have HO:=Lib.hid hov;clear hov
    go_wp2_with fail
    go_ret
    exact ⟨jt (by rw [o7,HS.out.1 HO.out]),J⟩
   have hov':(n:Int) <= (9223372036854775807-((t[k].toNat:Int)-48))/10:=Y;have HO:=Lib.hid hov;clear hov
   go_wp2_with fail
   go_round
   case rel=>exact ⟨k+1,10*n+(t[k].toNat-48),Y,j0,j0,Y,HS.out.2 HO.out⟩
   case measure=>simp [intOf];omega
  have HV:=Lib.hid hv;clear hv hr
  go_wp2_with fail
  go_ret
  refine ⟨jt ?_,J⟩;rw [o7,HV.out,ka Y,e1]
def C4(t:List UInt8)(a:Option Addr)(cap:Nat)(w:aV)(hv:dI t=[]∨∃b off,a=some ⟨b,off,none⟩ /\ ∀j u,(dI t)[j]?=some u -> w.cell? ⟨b,off+j,none⟩=some u):
  (convert 58 9 (.slice a t.length cap)).run prog w=.ok (.string (bytes t)) w:=by
 rcases hv with h0|⟨b,off,rfl,hr⟩
 ·obtain rfl:t=[]:=by simpa [dI] using h0
  cases a with
  |none=>exact run_convert_bytes_nil w _ _ underlying58 underlying5 _ _ _ underlying9
  |some a=>
   have hl:=run_loadCells_list (P:=prog) w a [] Dh;rw [run_convert_bytes_string w _ _ _ _ _ _ underlying58 underlying5 underlying9,length_nil,run_bytesToString w a 0 cap [] sF]
   rfl
 rw [run_convert_bytes_arg w _ _ underlying58 underlying5 b off t.length cap (t.map λc=>(c.toNat:Int)) aK ?_ _ underlying9]
 ·rw [strOfNums,lE,bytes];congr 3;rw [show ((λn:Int=>UInt8.ofNat n.toNat) ∘ λc:UInt8=>(c.toNat:Int))=id from by funext c;simp];simp
 intro i hi;rw [ByteRow.cell hr i hi];simp [hi]
def F6{w:aV}{b off:Nat}{s:List UInt8}(h:∀j u,(dI s)[j]?=some u -> w.cell? ⟨b,off+j,none⟩=some u)(i n:Nat):
  ∀j u,(dI ((s.drop i).take n))[j]?=some u -> w.cell? ⟨b,off+i+j,none⟩=some u:=by
 intro j u hu;have:(dI s)[i+j]?=some u:=by
  simp only [dI,mD,m0,oi] at hu⊢;split at hu
  ·exact hu
  simp at hu
 rw [qw];exact h _ _ this
def rP:List ByteArray:=[⟨#[60,61]⟩,⟨#[62,61]⟩,⟨#[61,61]⟩,⟨#[33,61]⟩,⟨#[38,38]⟩,⟨#[124,124]⟩]
def sK:List ByteArray:=[⟨#[40]⟩,⟨#[41]⟩,⟨#[123]⟩,⟨#[125]⟩,⟨#[91]⟩,⟨#[93]⟩,⟨#[44]⟩,⟨#[59]⟩,⟨#[61]⟩,⟨#[43]⟩,⟨#[45]⟩,⟨#[42]⟩,⟨#[47]⟩,⟨#[37]⟩,⟨#[60]⟩,⟨#[62]⟩,⟨#[33]⟩]
def bytes_inj{a b:List UInt8}(h:bytes a=bytes b):a=b:=by
 have:=congrArg (λx=>x.data.toList) h;simpa [bytes] using this
def KI(L:List (List UInt8))(x:List UInt8):((L.map bytes).any λy=>decide (y=bytes x))=decide (x∈L):=by
 rw [Bool.eq_iff_iff,List.any_eq_true];simp only [gH,decide_eq_true_eq];constructor
 ·rintro ⟨y,⟨z,hz,rfl⟩,h⟩;rw [←bytes_inj h];exact hz
 intro h;exact ⟨_,⟨x,h,rfl⟩,rfl⟩
def mn{s:List UInt8}{b off:Nat}{w:aV}(hr:∀j u,(dI s)[j]?=some u -> w.cell? ⟨b,off+j,none⟩=some u)(i n cap:Nat)(hin:i+n <= s.length)(w':aV)(hw:∀o,w'.cell? ⟨b,o,none⟩=w.cell? ⟨b,o,none⟩):
  (convert 58 9 (.slice (some ⟨b,off+i,none⟩) n cap)).run prog w'=.ok (.string (bytes ((s.drop i).take n))) w':=by
 have hl:((s.drop i).take n).length=n:=I3;have:=C4 ((s.drop i).take n) (some ⟨b,off+i,none⟩) cap w' (.inr ⟨b,off+i,rfl,λj u hu=>by rw [hw];exact F6 hr i n j u hu⟩);rw [hl] at this;exact this
def Me(w:aV)(x:aG)(q:Bool)(hq:(rP.any λy=>decide (y=x))=q):
  Calls prog 113 #[.slice (some ⟨w.heap.size,0,none⟩) 6 6,.string x] (w.alloc (Obj.cells #[Value.string ⟨#[60,61]⟩,Value.string ⟨#[62,61]⟩,Value.string ⟨#[61,61]⟩,Value.string ⟨#[33,61]⟩,Value.string ⟨#[38,38]⟩,Value.string ⟨#[124,124]⟩] 9)) λe w'=>e=.returned (.bool q) /\ w.alloc (Obj.cells #[Value.string ⟨#[60,61]⟩,Value.string ⟨#[62,61]⟩,Value.string ⟨#[61,61]⟩,Value.string ⟨#[33,61]⟩,Value.string ⟨#[38,38]⟩,Value.string ⟨#[124,124]⟩] 9)=w':=by
 subst hq;exact Az rP x _ _ (dr.new w (rP.map .string) 9 6) V
def MP(w:aV)(x:aG)(k:Nat)(hk:k=w.heap.size)(q:Bool)(hq:(sK.any λy=>decide (y=x))=q):
  Calls prog 113 #[.slice (some ⟨k,0,none⟩) 17 17,.string x] (w.alloc (Obj.cells #[Value.string ⟨#[40]⟩,Value.string ⟨#[41]⟩,Value.string ⟨#[123]⟩,Value.string ⟨#[125]⟩,Value.string ⟨#[91]⟩,Value.string ⟨#[93]⟩,Value.string ⟨#[44]⟩,Value.string ⟨#[59]⟩,Value.string ⟨#[61]⟩,Value.string ⟨#[43]⟩,Value.string ⟨#[45]⟩,Value.string ⟨#[42]⟩,Value.string ⟨#[47]⟩,Value.string ⟨#[37]⟩,Value.string ⟨#[60]⟩,Value.string ⟨#[62]⟩,Value.string ⟨#[33]⟩] 9)) λe w'=>e=.returned (.bool q) /\ w.alloc (Obj.cells #[Value.string ⟨#[40]⟩,Value.string ⟨#[41]⟩,Value.string ⟨#[123]⟩,Value.string ⟨#[125]⟩,Value.string ⟨#[91]⟩,Value.string ⟨#[93]⟩,Value.string ⟨#[44]⟩,Value.string ⟨#[59]⟩,Value.string ⟨#[61]⟩,Value.string ⟨#[43]⟩,Value.string ⟨#[45]⟩,Value.string ⟨#[42]⟩,Value.string ⟨#[47]⟩,Value.string ⟨#[37]⟩,Value.string ⟨#[60]⟩,Value.string ⟨#[62]⟩,Value.string ⟨#[33]⟩] 9)=w':=by
 subst hq;exact Az sK x _ _ (dr.new_at w (sK.map .string) 9 17 k hk) V
def O2(n k b off cap:Nat)(w:aV)(x1 x2:aG)(hk:k<n)(hc:n <= cap)(hcm:cap <= 9223372036854775807)(hn:n <= 1000000)(hkc:¬cap=k)(g2:(k:Int)+1<n)(hcv1:∀O,(convert 58 9 (.slice (some ⟨b,off+k,none⟩) 2 (cap-k))).run prog (w.alloc O)=.ok (.string x2) (w.alloc O))(ha:(rP.any λy=>decide (y=x2))=true):
  Calls prog 85 #[.slice (some ⟨b,off,none⟩) n cap,.int .i64 k] w λe w'=>e=.returned (.int .i64 2) /\ Below w.heap.size w w':=by
 have HA:=Lib.hid ha;clear ha
 go_enter func85,Tryz.ntmps85
 go_wp2_with (first|(go_at_call 113;((with_reducible refine (Me _ _ _ HA.out).mono ?_);rintro e w' ⟨rfl,rfl⟩)))
 go_ret
 exact ⟨J,eG⟩
def TG(n k b off cap:Nat)(w:aV)(x1 x2:aG)(hk:k<n)(hc:n <= cap)(hcm:cap <= 9223372036854775807)(hn:n <= 1000000)(hkc:¬cap=k)(q:Bool)(g2:(k:Int)+1<n)(hcv1:∀O,(convert 58 9 (.slice (some ⟨b,off+k,none⟩) 2 (cap-k))).run prog (w.alloc O)=.ok (.string x2) (w.alloc O))(hcv2:∀O O',(convert 58 9 (.slice (some ⟨b,off+k,none⟩) 1 (cap-k))).run prog ((w.alloc O).alloc O')=.ok (.string x1) ((w.alloc O).alloc O'))(ha:(rP.any λy=>decide (y=x2))=false)(ha1:(sK.any λy=>decide (y=x1))=q):
  Calls prog 85 #[.slice (some ⟨b,off,none⟩) n cap,.int .i64 k] w λe w'=>e=.returned (.int .i64 (if q then 1 else 0)) /\ Below w.heap.size w w':=by
 have HA:=Lib.hid ha;clear ha;have HA1:=Lib.hid ha1;clear ha1
 go_enter func85,Tryz.ntmps85
 go_wp2_with (first|(go_at_call 113;((with_reducible refine (Me _ _ _ HA.out).mono ?_);rintro e w' ⟨rfl,rfl⟩))|(go_at_call 113;((with_reducible refine (MP _ _ _ aK _ HA1.out).mono ?_);rintro e w' ⟨rfl,rfl⟩)))
 all_goals (go_ret;exact ⟨by simp [*],eG⟩)
def Qw(n k b off cap:Nat)(w:aV)(x1 x2:aG)(hk:k<n)(hc:n <= cap)(hcm:cap <= 9223372036854775807)(hn:n <= 1000000)(hkc:¬cap=k)(q:Bool)(g2:(n:Int) <= k+1)(hcv3:∀O,(convert 58 9 (.slice (some ⟨b,off+k,none⟩) 1 (cap-k))).run prog (w.alloc O)=.ok (.string x1) (w.alloc O))(ha1:(sK.any λy=>decide (y=x1))=q):
  Calls prog 85 #[.slice (some ⟨b,off,none⟩) n cap,.int .i64 k] w λe w'=>e=.returned (.int .i64 (if q then 1 else 0)) /\ Below w.heap.size w w':=by
 have HA1:=Lib.hid ha1;clear ha1
 go_enter func85,Tryz.ntmps85
 go_wp2_with (first|(go_at_call 113;((with_reducible refine (MP _ _ _ aK _ HA1.out).mono ?_);rintro e w' ⟨rfl,rfl⟩)))
 all_goals (go_ret;exact ⟨by simp [*],eG⟩)
def Jd(s:List UInt8)(k:Nat)(b off cap:Nat)(w:aV)(hr:∀j u,(dI s)[j]?=some u -> w.cell? ⟨b,off+j,none⟩=some u)(hc:s.length <= cap)(hcm:cap <= 9223372036854775807)(hs:s.length <= 1000000)(hk:k<s.length):
  Calls prog 85 #[.slice (some ⟨b,off,none⟩) s.length cap,.int .i64 k] w λe w'=>e=.returned (.int .i64 (jZ (s.drop k))) /\ Below w.heap.size w w':=by
 have hblt:b<w.heap.size:=lL (ByteRow.cell hr k hk);have hcv1:k+2 <= s.length -> ∀O,(convert 58 9 (.slice (some ⟨b,off+k,none⟩) 2 (cap-k))).run prog (w.alloc O)=.ok (.string (bytes ((s.drop k).take 2))) (w.alloc O):=λh O=>mn hr k 2 _ h _ (λo=>World.cell?_alloc_lt w O ⟨b,o,none⟩ hblt);have hcv2:∀O O',(convert 58 9 (.slice (some ⟨b,off+k,none⟩) 1 (cap-k))).run prog ((w.alloc O).alloc O')=.ok (.string (bytes ((s.drop k).take 1))) ((w.alloc O).alloc O'):=λO O'=>mn hr k 1 _ Y _ (λo=>by rw [World.cell?_alloc_lt _ _ _ di,World.cell?_alloc_lt _ _ _ hblt]);have hcv3:∀O,(convert 58 9 (.slice (some ⟨b,off+k,none⟩) 1 (cap-k))).run prog (w.alloc O)=.ok (.string (bytes ((s.drop k).take 1))) (w.alloc O):=λO=>mn hr k 1 _ Y _ (λo=>World.cell?_alloc_lt w O ⟨b,o,none⟩ hblt);have hd1:(s.drop k).take 1=[s[k]]:=by rw [jL s k hk];rfl
 have one:¬(2 <= (s.drop k).length /\ (s.drop k).take 2∈jM) -> jZ (s.drop k)=if s[k]∈iT then 1 else 0:=by
  intro h;rw [jL s k hk] at h⊢;by_cases hm:s[k]∈iT
  ·rw [if_pos hm,Cr h hm]
  rw [if_neg hm,LG h hm]
 have hany:(sK.any λy=>decide (y=bytes ((s.drop k).take 1)))=decide (s[k]∈iT):=by
  rw [hd1,show sK=(iT.map λc=>[c]).map bytes from rfl,KI];simp
 by_cases h2:k+1<s.length
 ·have hany2:(rP.any λy=>decide (y=bytes ((s.drop k).take 2)))=decide ((s.drop k).take 2∈jM):=by
   rw [show rP=jM.map bytes from rfl,KI]
  by_cases hm:(s.drop k).take 2∈jM
  ·rw [C5 (l:=s.drop k) A_ hm];exact O2 s.length k b off cap w ⟨#[]⟩ _ hk hc hcm hs Y Y (hcv1 Y) (by rw [hany2];simpa using hm)
  rw [one (λh=>hm h.2)];refine (TG s.length k b off cap w _ _ hk hc hcm hs Y _ Y (hcv1 Y) hcv2 (by rw [hany2];simpa using hm) hany).mono λe w' ⟨h,hb⟩=>⟨?_,hb⟩;rw [h];refine jt ?_;by_cases hq:s[k]∈iT<;>simp [hq]
 ·rw [one (λh=>by have:=h.1;rw [jk] at this;omega)];refine (Qw s.length k b off cap w _ ⟨#[]⟩ hk hc hcm hs Y _ Y hcv3 hany).mono λe w' ⟨h,hb⟩=>⟨?_,hb⟩;rw [h];refine jt ?_;by_cases hq:s[k]∈iT<;>simp [hq]
def qe(s:List UInt8)(k0:Nat)(z:Int)(hz:z=k0)(a:Option Addr)(cap:Nat)(w:aV)(hr:dI s=[]∨∃b off,a=some ⟨b,off,none⟩ /\ ∀j u,(dI s)[j]?=some u -> w.cell? ⟨b,off+j,none⟩=some u)(hc:s.length <= cap)(hs:s.length <= 1000000)(hk:k0 <= s.length):
  Calls prog 80 #[.slice a s.length cap,.int .i64 z] w λe w'=>e=.returned (.int .i64 (cR s k0)) /\ w=w':=by
 subst hz;exact Sj s k0 _ w ⟨a,cap,rfl,hc,hr⟩ hs hk
def rn{s:List UInt8}{k p kind len num:Nat}{toks:List Tok}(HP:p=cR s k)(hk:k <= s.length)(hlt:p<s.length)(hN:d1 (s.drop p)=.tok kind len num)(hn:toks.length≠4000)(HLX:gN s 0 0=gD.app toks (gN s k toks.length)):
  gN s 0 0=gD.app (toks++[⟨kind,bytes ((s.drop p).take len),num,p⟩]) (gN s (p+len) (toks++[(⟨kind,bytes ((s.drop p).take len),num,p⟩:Tok)]).length):=by
 subst HP;rw [HLX,wl hk hlt hN hn,gD.app_cons];simp
def rD{s:List UInt8}{k p kind len num:Nat}{toks:List Tok}(hs:s.length <= 262144)(HP:p=cR s k)(hlt:p<s.length)(hN:d1 (s.drop p)=.tok kind len num)(hn:toks.length=4000)(HLX:gN s 0 0=gD.app toks (gN s k toks.length)):fo s=.err p 3:=by
 subst HP;unfold fo;rw [if_neg Y,HLX,hn,yx hlt hN];rfl
def we{s:List UInt8}{k p e:Nat}{toks:List Tok}(hs:s.length <= 262144)(HP:p=cR s k)(hlt:p<s.length)(hN:d1 (s.drop p)=.err e)(HLX:gN s 0 0=gD.app toks (gN s k toks.length)):fo s=.err p e:=by
 subst HP;unfold fo;rw [if_neg Y,HLX,yC hlt hN];rfl
def O8{l:List UInt8}(h:ee (bytes l)=true):l.length <= 16:=by
 rw [zk] at h;have hall:∀x∈words,x.data.toList.length <= 16:=V;have:=hall _ h;rw [tL] at this;exact this
def N6{w:aV}{a:Addr}{u:aM}{b o:Nat}(h:b≠a.block):(w.setCell a u).cell? ⟨b,o,none⟩=w.cell? ⟨b,o,none⟩:=
 World.cell?_of_block (a:=⟨b,o,none⟩) (Below.heap_setCell w a u b h)
def zb{s:List UInt8}{b off:Nat}{w:aV}(hr:∀j u,(dI s)[j]?=some u -> w.cell? ⟨b,off+j,none⟩=some u)(p len cap:Nat)(hpl:p+len <= s.length)(hcl:len <= cap /\ s.length <= 1000000)(hd:∀c∈(s.drop p).take len,dJ c=true)(w':aV)(hw:∀o,w'.cell? ⟨b,o,none⟩=w.cell? ⟨b,o,none⟩):
  Calls prog 84 #[.slice (some ⟨b,off+p,none⟩) len cap] w' λe w''=>e=.returned (.int .i64 (o7 ((s.drop p).take len))) /\ w'=w'':=by
 have hl:((s.drop p).take len).length=len:=I3;refine SK ((s.drop p).take len) _ w' ⟨_,cap,by rw [hl],by rw [hl];exact hcl.1,.inr ⟨b,off+p,J,λj u hu=>by rw [hw];exact F6 hr p len j u hu⟩⟩ (by rw [hl];omega) hd
def qV{s:List UInt8}{a:Option Addr}{w w':aV}(hr:dI s=[]∨∃b off,a=some ⟨b,off,none⟩ /\ ∀j u,(dI s)[j]?=some u -> w.cell? ⟨b,off+j,none⟩=some u)(hb:Below w.heap.size w w'):
  dI s=[]∨∃b off,a=some ⟨b,off,none⟩ /\ ∀j u,(dI s)[j]?=some u -> w'.cell? ⟨b,off+j,none⟩=some u:=
 hr.imp id λ⟨b,off,ha,h⟩=>⟨b,off,ha,λj u hu=>by
  have h1:=h j u hu;rw [hb.cell (p:=⟨b,off+j,none⟩) (lL h1)];exact h1⟩
def Sm(s:List UInt8)(a:Option Addr)(cap:Nat)(w:aV)(hs:s.length <= 262144)(hc:s.length <= cap)(hcm:cap <= 9223372036854775807)
  (hr:dI s=[]∨∃b off,a=some ⟨b,off,none⟩ /\ ∀j u,(dI s)[j]?=some u -> w.cell? ⟨b,off+j,none⟩=some u):
  Calls prog 58 #[.slice a s.length cap] w λe w'=>(∃v pos er,e=.returned (.tuple #[v,.int .i64 pos,.int .i64 er]) /\ pB w' w.heap.size s v pos er) /\ Below w.heap.size w w':=by
 obtain ⟨i0,hi,hz0,hz1,hz2⟩:=info_parts J0;have HR:=Lib.hid hr;clear hr
 go_enter func58,Tryz.ntmps58
 go_wp2_with (first|(go_at_call 80;refine (qe s 0 _ rfl _ _ _ HR.out hc Y Y).mono ?_;rintro e w' ⟨rfl,rfl⟩))
 go_loopw [5,6] (λv at_ wr=>∃(k:Nat) (toks:List Tok),at_=.int .i64 (cR s k) /\ k <= s.length /\ wr.ownsRow w.heap.size 154 4 v toks.length (jC toks) /\ gN s 0 0=gD.app toks (gN s k toks.length) /\ toks.length <= 4000 /\ Below w.heap.size w wr) (λ_ at_ _=>s.length-(intOf at_).toNat)
 case atStart=>exact ⟨0,[],rfl,Y,ownsRow_nil _ _ _ _,by rw [gD.app_nil];rfl,aK,Below.refl _ _⟩
 case round=>
  obtain ⟨k,toks,rfl,hk,hown,hlx,hlen,hbel⟩:=hrel;obtain ⟨oa,oc,rfl⟩:=vK hown;have HLX:=Lib.hid hlx;have hrr:=qV HR.out hbel;have HRR:=Lib.hid hrr;clear hlx hrr;have hle:=TH s k;by_cases hend:s.length <= cR s k
  ·have hee:cR s k=s.length:=Y;have heq:((cR s k:Int) == s.length)=true:=A9;have HE:=Lib.hid hee;clear hee
   go_wp2_with (at_builtin;refine wpList_append_own _ rfl _ _ 139 rfl w.heap.size 154 i0 _ 4 40 underlying139 hi hz0 hz1 hz2 rfl V _ toks.length (jC toks) rfl (ownsRow_below hown ((Below.refl _ _).alloc (bW _) _) (bW _)) ⟨wr.heap.size,0,none⟩ 1 1 [.int .i64 5,.string ⟨#[]⟩,.int .i64 0,.int .i64 (cR s k)] rfl rfl (ym _ _ _) og c_ Y yu ?_)
   intro v' w1 hown1 hgrow _;have hb1:Below w.heap.size w w1:=Below.grow (hbel.alloc hbel.size _) hgrow yu (ownsRow_below hown ((Below.refl _ _).alloc (bW _) _) (bW _)) (bW _);clear hgrow
   go_wp2_with fail
   go_ret3
   refine ⟨⟨_,_,_,J,.inl ⟨toks++[⟨5,⟨#[]⟩,0,s.length⟩],?_,?_,by rw [HE.out],J,di⟩⟩,hb1⟩
   ·unfold fo;rw [if_neg Y,HLX.out,wG hend];rfl
   have:=hown1;rw [←zZ,←HE.out];simpa using this
  have hlt:cR s k<s.length:=Y;have hne:((cR s k:Int) == s.length)=false:=Cs;obtain ⟨p,hp⟩:∃p,p=cR s k:=⟨_,rfl⟩;have HP:=Lib.hid hp;rw [←hp] at hlt hne hle⊢;clear hp hend;rcases HRR.out with h0|⟨b,off,rfl,hr⟩
  ·have:s.length=0:=Bl;omega
  have hblt:b<wr.heap.size:=lL (ByteRow.cell hr p hlt);have hcell:=ByteRow.cell hr p hlt;have HB:=Lib.hid hr;clear hr;cases hl:fR s[p] with
  |true=>
   obtain ⟨len,hlen2⟩:∃len,len=((s.drop p).takeWhile cv).length:=⟨_,rfl⟩;have hpl:p+len <= s.length:=by have:=(uV (l:=s.drop p) cv).length_le;rw [←hlen2,jk] at this;omega
   have hname:d1 (s.drop p)=if 16<len then .err 3 else .tok (if ee (bytes ((s.drop p).take len)) then 3 else 1) len 0:=by
    have h1:=sv (c:=s[p]) (r:=s.drop (p+1)) hl;rw [←jL s p hlt,←hlen2] at h1;rw [show (s.drop p).take len=(s.drop p).takeWhile cv from by rw [hlen2];exact takeWhile_take cv (s.drop p)];exact h1
   have hl0:0<len:=by rw [hlen2,jL s p hlt,q8 (by simp [cv,hl])];simp
   have HNM:=Lib.hid hname;have HL2:=Lib.hid hlen2;clear hlen2 hname
   go_wp2_with (first|(go_at_call 81;refine (lq _ _).mono ?_;rintro e w' ⟨rfl,rfl⟩))
   go_hide hQ
   go_loop [8] (λv=>∃d:Nat,d <= len /\ v=.int .i64 ((p:Int)+d) /\ len=d+(((s.drop p).drop d).takeWhile cv).length) (λv=>s.length-(intOf v).toNat)
   case atStart=>exact ⟨0,Y,aK,by rw [HL2.out];simp⟩
   case round=>
    obtain ⟨d,hd,rfl,hinv⟩:=hrel;have HI:=Lib.hid hinv;clear hinv;by_cases hlt2:p+d<s.length
    ·have g1:(p:Int)+d<s.length:=Y;have hcell2:=ByteRow.cell HB.out (p+d) hlt2;have hst:=yP cv (s.drop p) d A_ (by rw [←HL2.out];exact HI.out);rw [List.getElem_drop,←HL2.out] at hst;have HST:=Lib.hid hst;clear hst;cases hn:cv s[p+d] with
     |true=>
      have hnx:=HST.out.1 hn;have HNX:=Lib.hid hnx;have hdl:d+1 <= len:=Y;unfold cv at hn;have HN:=Lib.hid hn;clear hnx hn
      go_wp2_with (first|(go_at_call 81;refine (lq _ _).mono ?_;rintro e w' ⟨rfl,rfl⟩)|(go_at_call 82;refine (mX _ _).mono ?_;rintro e w' ⟨rfl,rfl⟩))
      all_goals first
       |(go_round;(case rel=>exact ⟨d+1,hdl,di,HNX.out⟩);(case measure=>simp [intOf];omega))
       |(exfalso;have h:=HN.out;simp_all)
     |false=>
      have hnx:=HST.out.2 hn;have hdl:len=d:=hnx;unfold cv at hn;rw [Bool.or_eq_false_iff] at hn;obtain ⟨hn1,hn2⟩:=hn;subst hdl;clear hnx
      go_wp2_with (first|(go_at_call 81;((with_reducible refine (lq _ _).mono ?_);rintro e w' ⟨rfl,rfl⟩))|(go_at_call 82;((with_reducible refine (mX _ _).mono ?_);rintro e w' ⟨rfl,rfl⟩)))
      subst hQ;have hsz:=hbel.size;have hge:=p9 s (p+len) hpl
      go_wp2_with (first|(rw [mn HB.out p len _ hpl _ (λo=>World.cell?_alloc_lt wr _ ⟨b,o,none⟩ hblt)];go_simp)|(go_at_call 83;((with_reducible refine (Er _ _).mono ?_);rintro e w1 ⟨rfl,hb⟩;obtain ⟨hcc,hcf⟩:=om hb;have hbw1:Below wr.heap.size wr w1:=((Below.refl _ _).alloc (bW _) _).trans (hb.mono aK);have hbW1:Below w.heap.size w w1:=hbel.trans (hbw1.mono hsz);have hsz1:=hbw1.size)))
      ·have h4:((toks.length:Int) == 4000)=true:=kY
       go_ret3
       exact ⟨⟨_,_,_,J,.inr ⟨p,3,rD hs HP.out hlt (show d1 (s.drop p)=.tok 3 len 0 from by have hq:ee (bytes ((s.drop p).take len))=true:=by {assumption};rw [HNM.out,if_neg AR,if_pos hq]) sW HLX.out,rfl,rfl,rfl,Y⟩⟩,eG⟩
      ·have h4:((toks.length:Int) == 4000)=false:=kY;have h4':toks.length≠4000:=sN;have h5:toks.length<4000:=Y;have HN:=Lib.hid (show d1 (s.drop p)=.tok 3 len 0 from by have hq:ee (bytes ((s.drop p).take len))=true:=by {assumption};rw [HNM.out,if_neg AR,if_pos hq]);have H4:=Lib.hid h4';clear h4'
       go_wp2_with (first|(rw [mn HB.out p len _ hpl _ (λo=>vY)];go_simp)|(at_builtin;refine wpList_append_own _ rfl _ _ 139 rfl w.heap.size 154 i0 _ 4 40 underlying139 hi hz0 hz1 hz2 rfl V _ toks.length (jC toks) rfl (ownsRow_below hown eG (bW _)) _ 1 1 [.int .i64 3,.string (bytes ((s.drop p).take len)),.int .i64 0,.int .i64 p] rfl rfl (qD _ _ _ _ aK) og c_ Y di ?_))
       intro v' w2 hown2 hgrow _;have hb2:Below w.heap.size w w2:=Below.grow eG hgrow di (ownsRow_below hown eG (bW _)) (bW _);clear hgrow
       go_wp2_with ((go_at_call 80;((with_reducible refine (qe s (p+len) _ Y _ _ _ (qV HR.out hb2) hc Y hpl).mono ?_);rintro e w' ⟨rfl,rfl⟩)))
       go_roundw
       case rel=>exact ⟨p+len,toks++[⟨3,bytes ((s.drop p).take len),0,p⟩],rfl,hpl,rr,rn HP.out hk hlt HN.out H4.out HLX.out,di,hb2⟩
       case measure=>simp [intOf];omega
      ·go_ret3
       exact ⟨⟨_,_,_,J,.inr ⟨p,3,we hs HP.out hlt (by rw [HNM.out,if_pos Y]) HLX.out,J,J,J,Y⟩⟩,eG⟩
      ·have h4:((toks.length:Int) == 4000)=true:=kY
       go_ret3
       exact ⟨⟨_,_,_,J,.inr ⟨p,3,rD hs HP.out hlt (show d1 (s.drop p)=.tok 1 len 0 from by have hq:ee (bytes ((s.drop p).take len))=false:=by {assumption};rw [HNM.out,if_neg Y,if_neg (by simp [hq])]) sW HLX.out,rfl,rfl,rfl,Y⟩⟩,eG⟩
      have h4:((toks.length:Int) == 4000)=false:=kY;have h4':toks.length≠4000:=sN;have h5:toks.length<4000:=Y;have HN:=Lib.hid (show d1 (s.drop p)=.tok 1 len 0 from by have hq:ee (bytes ((s.drop p).take len))=false:=by {assumption};rw [HNM.out,if_neg Y,if_neg (by simp [hq])]);have H4:=Lib.hid h4';clear h4'
      go_wp2_with (first|(rw [mn HB.out p len _ hpl _ (λo=>vY)];go_simp)|(at_builtin;refine wpList_append_own _ rfl _ _ 139 rfl w.heap.size 154 i0 _ 4 40 underlying139 hi hz0 hz1 hz2 rfl V _ toks.length (jC toks) rfl (ownsRow_below hown eG (bW _)) _ 1 1 [.int .i64 1,.string (bytes ((s.drop p).take len)),.int .i64 0,.int .i64 p] rfl rfl (qD _ _ _ _ aK) og c_ Y di ?_))
      intro v' w2 hown2 hgrow _;have hb2:Below w.heap.size w w2:=Below.grow eG hgrow di (ownsRow_below hown eG (bW _)) (bW _);clear hgrow
      go_wp2_with ((go_at_call 80;((with_reducible refine (qe s (p+len) _ Y _ _ _ (qV HR.out hb2) hc Y hpl).mono ?_);rintro e w' ⟨rfl,rfl⟩)))
      go_roundw
      case rel=>exact ⟨p+len,toks++[⟨1,bytes ((s.drop p).take len),0,p⟩],rfl,hpl,rr,rn HP.out hk hlt HN.out H4.out HLX.out,di,hb2⟩
      case measure=>simp [intOf];omega
    ·have hdl:len=d:=MH;have g1:(s.length:Int) <= p+d:=Y;subst hdl
     go_wp2_with (first|(go_at_call 81;((with_reducible refine (lq _ _).mono ?_);rintro e w' ⟨rfl,rfl⟩))|(go_at_call 82;((with_reducible refine (mX _ _).mono ?_);rintro e w' ⟨rfl,rfl⟩)))
     subst hQ;have hsz:=hbel.size;have hge:=p9 s (p+len) hpl
     go_wp2_with (first|(rw [mn HB.out p len _ hpl _ (λo=>World.cell?_alloc_lt wr _ ⟨b,o,none⟩ hblt)];go_simp)|(go_at_call 83;((with_reducible refine (Er _ _).mono ?_);rintro e w1 ⟨rfl,hb⟩;obtain ⟨hcc,hcf⟩:=om hb;have hbw1:Below wr.heap.size wr w1:=((Below.refl _ _).alloc (bW _) _).trans (hb.mono aK);have hbW1:Below w.heap.size w w1:=hbel.trans (hbw1.mono hsz);have hsz1:=hbw1.size)))
     ·have h4:((toks.length:Int) == 4000)=true:=kY
      go_ret3
      exact ⟨⟨_,_,_,J,.inr ⟨p,3,rD hs HP.out hlt (show d1 (s.drop p)=.tok 3 len 0 from by have hq:ee (bytes ((s.drop p).take len))=true:=by {assumption};rw [HNM.out,if_neg AR,if_pos hq]) sW HLX.out,rfl,rfl,rfl,Y⟩⟩,eG⟩
     ·have h4:((toks.length:Int) == 4000)=false:=kY;have h4':toks.length≠4000:=sN;have h5:toks.length<4000:=Y;have HN:=Lib.hid (show d1 (s.drop p)=.tok 3 len 0 from by have hq:ee (bytes ((s.drop p).take len))=true:=by {assumption};rw [HNM.out,if_neg AR,if_pos hq]);have H4:=Lib.hid h4';clear h4'
      go_wp2_with (first|(rw [mn HB.out p len _ hpl _ (λo=>vY)];go_simp)|(at_builtin;refine wpList_append_own _ rfl _ _ 139 rfl w.heap.size 154 i0 _ 4 40 underlying139 hi hz0 hz1 hz2 rfl V _ toks.length (jC toks) rfl (ownsRow_below hown eG (bW _)) _ 1 1 [.int .i64 3,.string (bytes ((s.drop p).take len)),.int .i64 0,.int .i64 p] rfl rfl (qD _ _ _ _ aK) og c_ Y di ?_))
      intro v' w2 hown2 hgrow _;have hb2:Below w.heap.size w w2:=Below.grow eG hgrow di (ownsRow_below hown eG (bW _)) (bW _);clear hgrow
      go_wp2_with ((go_at_call 80;((with_reducible refine (qe s (p+len) _ Y _ _ _ (qV HR.out hb2) hc Y hpl).mono ?_);rintro e w' ⟨rfl,rfl⟩)))
      go_roundw
      case rel=>exact ⟨p+len,toks++[⟨3,bytes ((s.drop p).take len),0,p⟩],rfl,hpl,rr,rn HP.out hk hlt HN.out H4.out HLX.out,di,hb2⟩
      case measure=>simp [intOf];omega
     ·go_ret3
      exact ⟨⟨_,_,_,J,.inr ⟨p,3,we hs HP.out hlt (by rw [HNM.out,if_pos Y]) HLX.out,J,J,J,Y⟩⟩,eG⟩
     ·have h4:((toks.length:Int) == 4000)=true:=kY
      go_ret3
      exact ⟨⟨_,_,_,J,.inr ⟨p,3,rD hs HP.out hlt (show d1 (s.drop p)=.tok 1 len 0 from by have hq:ee (bytes ((s.drop p).take len))=false:=by {assumption};rw [HNM.out,if_neg Y,if_neg (by simp [hq])]) sW HLX.out,rfl,rfl,rfl,Y⟩⟩,eG⟩
     ·have h4:((toks.length:Int) == 4000)=false:=kY;have h4':toks.length≠4000:=sN;have h5:toks.length<4000:=Y;have HN:=Lib.hid (show d1 (s.drop p)=.tok 1 len 0 from by have hq:ee (bytes ((s.drop p).take len))=false:=by {assumption};rw [HNM.out,if_neg Y,if_neg (by simp [hq])]);have H4:=Lib.hid h4';clear h4'
      go_wp2_with (first|(rw [mn HB.out p len _ hpl _ (λo=>vY)];go_simp)|(at_builtin;refine wpList_append_own _ rfl _ _ 139 rfl w.heap.size 154 i0 _ 4 40 underlying139 hi hz0 hz1 hz2 rfl V _ toks.length (jC toks) rfl (ownsRow_below hown eG (bW _)) _ 1 1 [.int .i64 1,.string (bytes ((s.drop p).take len)),.int .i64 0,.int .i64 p] rfl rfl (qD _ _ _ _ aK) og c_ Y di ?_))
      intro v' w2 hown2 hgrow _;have hb2:Below w.heap.size w w2:=Below.grow eG hgrow di (ownsRow_below hown eG (bW _)) (bW _);clear hgrow
      go_wp2_with ((go_at_call 80;((with_reducible refine (qe s (p+len) _ Y _ _ _ (qV HR.out hb2) hc Y hpl).mono ?_);rintro e w' ⟨rfl,rfl⟩)))
      go_roundw
      case rel=>exact ⟨p+len,toks++[⟨1,bytes ((s.drop p).take len),0,p⟩],rfl,hpl,rr,rn HP.out hk hlt HN.out H4.out HLX.out,di,hb2⟩
      case measure=>simp [intOf];omega
  |false=>
   cases hdg:dJ s[p] with
   |true=>
    obtain ⟨len,hlen2⟩:∃len,len=((s.drop p).takeWhile dJ).length:=⟨_,rfl⟩;have hpl:p+len <= s.length:=by have:=(uV (l:=s.drop p) dJ).length_le;rw [←hlen2,jk] at this;omega
    have htw:(s.drop p).take len=(s.drop p).takeWhile dJ:=by rw [hlen2];exact takeWhile_take dJ (s.drop p)
    have hnn:e1 0 ((s.drop p).take len)=none -> d1 (s.drop p)=.err 2:=by
     intro h;have h1:=u' (c:=s[p]) (r:=s.drop (p+1)) hl hdg (by rw [←jL s p hlt,←htw];exact h);rw [←jL s p hlt] at h1;exact h1
    have hns:∀nv,e1 0 ((s.drop p).take len)=some nv -> d1 (s.drop p)=.tok 2 len nv:=by
     intro nv h;have h1:=tD (c:=s[p]) (r:=s.drop (p+1)) hl hdg (by rw [←jL s p hlt,←htw];exact h);rw [←jL s p hlt,←hlen2] at h1;exact h1
    have hdall:Hid (∀c∈(s.drop p).take len,dJ c=true):=Lib.hid (by rw [htw];exact λc hc=>(d3.1 (Ck (p:=dJ) (l:=s.drop p))) c hc);have hl0:0<len:=by rw [hlen2,jL s p hlt,q8 hdg];simp
    have HNN:=Lib.hid hnn;have HNS:=Lib.hid hns;have HL2:=Lib.hid hlen2;have hsz:=hbel.size;have hge:=p9 s (p+len) hpl;clear hlen2 hnn hns htw
    go_wp2_with (first|(go_at_call 81;((with_reducible refine (lq _ _).mono ?_);rintro e w' ⟨rfl,rfl⟩))|(go_at_call 82;((with_reducible refine (mX _ _).mono ?_);rintro e w' ⟨rfl,rfl⟩)))
    go_hide hQ
    go_loop [8] (λv=>∃d:Nat,d <= len /\ v=.int .i64 ((p:Int)+d) /\ len=d+(((s.drop p).drop d).takeWhile dJ).length) (λv=>s.length-(intOf v).toNat)
    case atStart=>exact ⟨0,Y,aK,by rw [HL2.out];simp⟩
    case round=>
     obtain ⟨d,hd,rfl,hinv⟩:=hrel;have HI:=Lib.hid hinv;clear hinv;by_cases hlt2:p+d<s.length
     ·have g1:(p:Int)+d<s.length:=Y;have hcell2:=ByteRow.cell HB.out (p+d) hlt2;have hst:=yP dJ (s.drop p) d A_ (by rw [←HL2.out];exact HI.out);rw [List.getElem_drop,←HL2.out] at hst;have HST:=Lib.hid hst;clear hst;cases hn:dJ s[p+d] with
      |true=>
       have hnx:=HST.out.1 hn;have HNX:=Lib.hid hnx;have hdl:d+1 <= len:=Y;clear hnx
       go_wp2_with (first|(go_at_call 81;((with_reducible refine (lq _ _).mono ?_);rintro e w' ⟨rfl,rfl⟩))|(go_at_call 82;((with_reducible refine (mX _ _).mono ?_);rintro e w' ⟨rfl,rfl⟩)))
       go_round
       case rel=>exact ⟨d+1,hdl,di,HNX.out⟩
       case measure=>simp [intOf];omega
      |false=>
       have hdl:len=d:=HST.out.2 hn;subst hdl;cases hnum:e1 0 ((s.drop p).take len) with
       |none=>
        have hni:o7 ((s.drop p).take len)=-1:=AX;have HNI:=Lib.hid hni;have HE:=Lib.hid (HNN.out hnum);clear hni hnum
        go_wp2_with (first|(go_at_call 81;((with_reducible refine (lq _ _).mono ?_);rintro e w' ⟨rfl,rfl⟩))|(go_at_call 82;((with_reducible refine (mX _ _).mono ?_);rintro e w' ⟨rfl,rfl⟩)))
        subst hQ
        go_wp2_with (go_at_call 84;((with_reducible refine (zb HB.out p len _ hpl Y hdall.out _ (λo=>World.cell?_alloc_lt wr _ ⟨b,o,none⟩ hblt)).mono ?_);rintro e w' ⟨rfl,rfl⟩;rw [HNI.out]))
        go_ret3
        exact ⟨⟨_,_,_,J,.inr ⟨p,2,we hs HP.out hlt HE.out HLX.out,J,J,J,Y⟩⟩,eG⟩
       |some nv=>
        have hni:o7 ((s.drop p).take len)=nv:=AX;have HNI:=Lib.hid hni;have HNM:=Lib.hid (HNS.out nv hnum);clear hni hnum
        go_wp2_with (first|(go_at_call 81;((with_reducible refine (lq _ _).mono ?_);rintro e w' ⟨rfl,rfl⟩))|(go_at_call 82;((with_reducible refine (mX _ _).mono ?_);rintro e w' ⟨rfl,rfl⟩)))
        subst hQ
        go_wp2_with (go_at_call 84;((with_reducible refine (zb HB.out p len _ hpl Y hdall.out _ (λo=>World.cell?_alloc_lt wr _ ⟨b,o,none⟩ hblt)).mono ?_);rintro e w' ⟨rfl,rfl⟩;rw [HNI.out]))
        ·have h4:((toks.length:Int) == 4000)=true:=kY
         go_ret3
         exact ⟨⟨_,_,_,J,.inr ⟨p,3,rD hs HP.out hlt (show d1 (s.drop p)=.tok 2 len nv from HNM.out) sW HLX.out,J,J,J,Y⟩⟩,eG⟩
        have h4:((toks.length:Int) == 4000)=false:=kY;have h4':toks.length≠4000:=sN;have h5:toks.length<4000:=Y;have HN:=Lib.hid (show d1 (s.drop p)=.tok 2 len nv from HNM.out);have H4:=Lib.hid h4';clear h4'
        go_wp2_with (first|(rw [mn HB.out p len _ hpl _ (λo=>World.cell?_alloc_lt wr _ ⟨b,o,none⟩ hblt)];go_simp)|(at_builtin;refine wpList_append_own _ rfl _ _ 139 rfl w.heap.size 154 i0 _ 4 40 underlying139 hi hz0 hz1 hz2 rfl V _ toks.length (jC toks) rfl (ownsRow_below hown eG (bW _)) _ 1 1 [.int .i64 2,.string (bytes ((s.drop p).take len)),.int .i64 nv,.int .i64 p] rfl rfl (qD _ _ _ _ aK) og c_ Y di ?_))
        intro v' w2 hown2 hgrow _;have hb2:Below w.heap.size w w2:=Below.grow eG hgrow di (ownsRow_below hown eG (bW _)) (bW _);clear hgrow
        go_wp2_with ((go_at_call 80;((with_reducible refine (qe s (p+len) _ Y _ _ _ (qV HR.out hb2) hc Y hpl).mono ?_);rintro e w' ⟨rfl,rfl⟩)))
        go_roundw
        case rel=>exact ⟨p+len,toks++[⟨2,bytes ((s.drop p).take len),nv,p⟩],rfl,hpl,rr,rn HP.out hk hlt HN.out H4.out HLX.out,di,hb2⟩
        case measure=>simp [intOf];omega
     ·have hdl:len=d:=MH;have g1:(s.length:Int) <= p+d:=Y;subst hdl;cases hnum:e1 0 ((s.drop p).take len) with
      |none=>
       have hni:o7 ((s.drop p).take len)=-1:=AX;have HNI:=Lib.hid hni;have HE:=Lib.hid (HNN.out hnum);clear hni hnum
       go_wp2_with (first|(go_at_call 81;((with_reducible refine (lq _ _).mono ?_);rintro e w' ⟨rfl,rfl⟩))|(go_at_call 82;((with_reducible refine (mX _ _).mono ?_);rintro e w' ⟨rfl,rfl⟩)))
       subst hQ
       go_wp2_with (go_at_call 84;((with_reducible refine (zb HB.out p len _ hpl Y hdall.out _ (λo=>World.cell?_alloc_lt wr _ ⟨b,o,none⟩ hblt)).mono ?_);rintro e w' ⟨rfl,rfl⟩;rw [HNI.out]))
       go_ret3
       exact ⟨⟨_,_,_,J,.inr ⟨p,2,we hs HP.out hlt HE.out HLX.out,J,J,J,Y⟩⟩,eG⟩
      |some nv=>
       have hni:o7 ((s.drop p).take len)=nv:=AX;have HNI:=Lib.hid hni;have HNM:=Lib.hid (HNS.out nv hnum);clear hni hnum
       go_wp2_with (first|(go_at_call 81;((with_reducible refine (lq _ _).mono ?_);rintro e w' ⟨rfl,rfl⟩))|(go_at_call 82;((with_reducible refine (mX _ _).mono ?_);rintro e w' ⟨rfl,rfl⟩)))
       subst hQ
       go_wp2_with (go_at_call 84;((with_reducible refine (zb HB.out p len _ hpl Y hdall.out _ (λo=>World.cell?_alloc_lt wr _ ⟨b,o,none⟩ hblt)).mono ?_);rintro e w' ⟨rfl,rfl⟩;rw [HNI.out]))
       ·have h4:((toks.length:Int) == 4000)=true:=kY
        go_ret3
        exact ⟨⟨_,_,_,J,.inr ⟨p,3,rD hs HP.out hlt (show d1 (s.drop p)=.tok 2 len nv from HNM.out) sW HLX.out,J,J,J,Y⟩⟩,eG⟩
       ·have h4:((toks.length:Int) == 4000)=false:=kY;have h4':toks.length≠4000:=sN;have h5:toks.length<4000:=Y;have HN:=Lib.hid (show d1 (s.drop p)=.tok 2 len nv from HNM.out);have H4:=Lib.hid h4';clear h4'
        go_wp2_with (first|(rw [mn HB.out p len _ hpl _ (λo=>World.cell?_alloc_lt wr _ ⟨b,o,none⟩ hblt)];go_simp)|(at_builtin;refine wpList_append_own _ rfl _ _ 139 rfl w.heap.size 154 i0 _ 4 40 underlying139 hi hz0 hz1 hz2 rfl V _ toks.length (jC toks) rfl (ownsRow_below hown eG (bW _)) _ 1 1 [.int .i64 2,.string (bytes ((s.drop p).take len)),.int .i64 nv,.int .i64 p] rfl rfl (qD _ _ _ _ aK) og c_ Y di ?_))
        intro v' w2 hown2 hgrow _;have hb2:Below w.heap.size w w2:=Below.grow eG hgrow di (ownsRow_below hown eG (bW _)) (bW _);clear hgrow
        go_wp2_with ((go_at_call 80;((with_reducible refine (qe s (p+len) _ Y _ _ _ (qV HR.out hb2) hc Y hpl).mono ?_);rintro e w' ⟨rfl,rfl⟩)))
        go_roundw
        case rel=>exact ⟨p+len,toks++[⟨2,bytes ((s.drop p).take len),nv,p⟩],rfl,hpl,rr,rn HP.out hk hlt HN.out H4.out HLX.out,di,hb2⟩
        case measure=>simp [intOf];omega
   |false=>
    obtain ⟨len,hlen2⟩:∃len,len=jZ (s.drop p):=⟨_,rfl⟩;have hpl:p+len <= s.length:=by have:=(Jh (s.drop p)).2;rw [←hlen2,jk] at this;omega
    have hsn:=rk (c:=s[p]) (r:=s.drop (p+1)) hl hdg;rw [←jL s p hlt,←hlen2] at hsn;have hsz:=hbel.size;have hge:=p9 s (p+len) hpl;have HSN:=Lib.hid hsn;clear hsn;have HSG:=Lib.hid hlen2;clear hlen2;by_cases h0:len=0
    ·have HE:=Lib.hid (show d1 (s.drop p)=.err 1 by rw [HSN.out,if_pos h0]);have hq:((p:Int)+len == p)=true:=A9;have H0:=Lib.hid h0;clear h0
     go_wp2_with (first|(go_at_call 81;((with_reducible refine (lq _ _).mono ?_);rintro e w' ⟨rfl,rfl⟩))|(go_at_call 82;((with_reducible refine (mX _ _).mono ?_);rintro e w' ⟨rfl,rfl⟩))|(go_at_call 85;((with_reducible refine (Jd s p b off cap _ (λj u hu=>J7) hc hcm Y hlt).mono ?_);rintro e w1 ⟨rfl,hb⟩;rw [←HSG.out];obtain ⟨hcc,hcf⟩:=om hb;have hbw1:Below wr.heap.size wr w1:=((Below.refl _ _).alloc (bW _) _).trans (hb.mono aK);have hbW1:Below w.heap.size w w1:=hbel.trans (hbw1.mono hsz);have hsz1:=hbw1.size)))
     go_ret3
     exact ⟨⟨_,_,_,J,.inr ⟨p,1,we hs HP.out hlt HE.out HLX.out,J,J,J,Y⟩⟩,eG⟩
    have HNM:=Lib.hid (show d1 (s.drop p)=.tok 4 len 0 by rw [HSN.out,if_neg h0]);have hq:((p:Int)+len == p)=false:=Cs;have hl0:0<len:=Y;clear h0
    go_wp2_with (first|(go_at_call 81;((with_reducible refine (lq _ _).mono ?_);rintro e w' ⟨rfl,rfl⟩))|(go_at_call 82;((with_reducible refine (mX _ _).mono ?_);rintro e w' ⟨rfl,rfl⟩))|(go_at_call 85;((with_reducible refine (Jd s p b off cap _ (λj u hu=>J7) hc hcm Y hlt).mono ?_);rintro e w1 ⟨rfl,hb⟩;rw [←HSG.out];obtain ⟨hcc,hcf⟩:=om hb;have hbw1:Below wr.heap.size wr w1:=((Below.refl _ _).alloc (bW _) _).trans (hb.mono aK);have hbW1:Below w.heap.size w w1:=hbel.trans (hbw1.mono hsz);have hsz1:=hbw1.size)))
    ·have h4:((toks.length:Int) == 4000)=true:=kY
     go_ret3
     exact ⟨⟨_,_,_,J,.inr ⟨p,3,rD hs HP.out hlt (show d1 (s.drop p)=.tok 4 len 0 from HNM.out) sW HLX.out,J,J,J,Y⟩⟩,eG⟩
    have h4:((toks.length:Int) == 4000)=false:=kY;have h4':toks.length≠4000:=sN;have h5:toks.length<4000:=Y;have HN:=Lib.hid (show d1 (s.drop p)=.tok 4 len 0 from HNM.out);have H4:=Lib.hid h4';clear h4'
    go_wp2_with (first|(rw [mn HB.out p len _ hpl _ (λo=>vY)];go_simp)|(at_builtin;refine wpList_append_own _ rfl _ _ 139 rfl w.heap.size 154 i0 _ 4 40 underlying139 hi hz0 hz1 hz2 rfl V _ toks.length (jC toks) rfl (ownsRow_below hown eG (bW _)) _ 1 1 [.int .i64 4,.string (bytes ((s.drop p).take len)),.int .i64 0,.int .i64 p] rfl rfl (qD _ _ _ _ aK) og c_ Y di ?_))
    intro v' w2 hown2 hgrow _;have hb2:Below w.heap.size w w2:=Below.grow eG hgrow di (ownsRow_below hown eG (bW _)) (bW _);clear hgrow
    go_wp2_with ((go_at_call 80;((with_reducible refine (qe s (p+len) _ Y _ _ _ (qV HR.out hb2) hc Y hpl).mono ?_);rintro e w' ⟨rfl,rfl⟩)))
    go_roundw
    case rel=>exact ⟨p+len,toks++[⟨4,bytes ((s.drop p).take len),0,p⟩],rfl,hpl,rr,rn HP.out hk hlt HN.out H4.out HLX.out,di,hb2⟩
    case measure=>simp [intOf];omega
def Uq(a:Option Addr)(n cap:Nat)(w:aV)(hs:(262144:Int)<n):
  Calls prog 58 #[.slice a n cap] w λe w'=>e=.returned (.tuple #[.slice none 0 0,.int .i64 262144,.int .i64 3]) /\ w=w':=by
 go_enter func58,Tryz.ntmps58
 go_wp2_with fail
 go_ret3
 exact ⟨J,J⟩
def QO(s:List UInt8)(v:aM)(w:aV)(hv:dr w v s.length (dI s))(hcm:∀a n c,v=.slice a n c -> c <= 9223372036854775807):
  Calls prog 58 #[v] w λe w'=>(∃v pos er,e=.returned (.tuple #[v,.int .i64 pos,.int .i64 er]) /\ pB w' w.heap.size s v pos er) /\ Below w.heap.size w w':=by
 obtain ⟨a,cap,rfl,hc,hr⟩:=hv;by_cases hs:262144<s.length
 ·refine (Uq a _ cap w Y).mono λe w' ⟨h,hw⟩=>?_;subst hw;refine ⟨⟨_,_,_,h,.inr ⟨262144,3,?_,J,J,J,Y⟩⟩,Below.refl _ _⟩;unfold fo;rw [if_pos Y]
 exact Sm s a cap w Y hc (hcm _ _ _ J) hr
abbrev cT(s:List UInt8):List aN:=s.map λc=>.val (.int .u8 c.toNat)
def yg(s:List UInt8)(t:AT):Prop:=
 (∃l,fo s=.ok l /\ t=.tup [.c (aB dO l),bB (s.length:Int),aX 0] /\ l.length <= 4001)∨(∃p e:Nat,fo s=.err p e /\ t=.tup [.c (aI),bB (p:Int),bB (e:Int)] /\ e≠0)
def Ky{N:List Nat}{w:aV}{base:Nat}{e:bA}{size:Nat}{v:aM}{n:Nat}{xs:List aM}(h:w.ownsRow base e size v n xs)(hN:∀x,x∈N -> x<base):dr (bi N w) v n xs:=by
 obtain ⟨h1,h2⟩:=h;have h9:=dr.of_owns (⟨h1,h2⟩:w.ownsRow base e size v n xs);rcases h2 with ⟨rfl,rfl⟩|⟨g,cap,cur,rfl,hg,-⟩
 ·obtain rfl:xs=[]:=uv q';exact .nil _
 obtain ⟨a,c,he,hc,hr⟩:=h9;refine ⟨a,c,he,hc,?_⟩;rcases hr with h0|⟨b,off,rfl,hr⟩
 ·exact .inl h0
 cases he;refine .inr ⟨g,0,J,λj v hj=>?_⟩;rw [np]
 ·exact hr j v hj
 intro hm;have h9:g<base:=hN g hm;omega
def zy(l:List Tok):l.flatMap dO=(jC l).map .val:=by
 induction l with
 |nil=>rfl
 |cons t l ih=>rw [fD,ih];unfold jC;rw [fD,ed];rfl
def Mn(l:List Tok):∀u,u∈jC l -> u.oneCell'=true:=by
 intro u hu;unfold jC at hu;obtain ⟨t,_,h⟩:=jv.1 hu;unfold Tok.cells at h;simp only [mem_cons,not_mem_nil,or_false] at h;rcases h with rfl|rfl|rfl|rfl<;>rfl
def GH{w:aV}{v:aM}{n:Nat}{s:List UInt8}(h:cN w (.c (.sl n (cT s))) v):dr w v n (dI s) /\ ∀a k c,v=.slice a k c -> c <= 9223372036854775807:=by
 cases h with
 |c _ _ h=>cases h with
  |sl _ _ us _ hr hl hh hcap=>
   refine ⟨?_,hcap⟩;have:us=dI s:=by
    refine lw (by rw [hl];simp [cT,dI]) λi h1 h2=>?_;have h3:=hh i (by rw [←hl];exact h1) h1;generalize hx:(cT s)[i]'(by rw [←hl];exact h1)=x at h3;unfold cT at hx;rw [nK] at hx;subst hx;have hi:i<s.length:=by simpa [dI] using h2
    have h4:us[i]=.int .u8 s[i].toNat:=by
     generalize us[i]=u at h3;cases h3;rfl
    rw [h4];simp [dI]
   rw [←this];exact hr
def TI{F:FuncId}{bs:List UInt8}{s:aH}(W:aV -> Prop)(hW:∀w,Mem s w -> W w)(hF:∀v w,W w -> dr w v bs.length (dI bs) -> (∀a k c,v=.slice a k c -> c <= 9223372036854775807) -> Calls prog F #[v] w λe w'=>(∃v pos er,e=.returned (.tuple #[v,.int .i64 pos,.int .i64 er]) /\ pB w' w.heap.size bs v pos er) /\ Below w.heap.size w w'):
  aR prog F [.c (.sl bs.length (cT bs))] [] s λt s'=>yg bs t /\ s'=s:=by
 intro vs w hm _ hl hr;obtain ⟨v,rfl⟩:∃v,vs=[v]:=by
  cases vs with
  |nil=>cases hl
  |cons v vs=>cases vs with
   |nil=>exact ⟨v,rfl⟩
   |cons _ _=>simp at hl
 obtain ⟨hv,hcap⟩:=GH (hr 0 aK aK);refine (hF v w (hW w hm) (hv.mono λa u h=>(nW h).1) hcap).mono λe w' ⟨⟨v',pos,er,he,hf⟩,hb⟩=>?_;have hk:cH [] w w':=cH.of_below hb;have hu:fl (bi s.bl w) (bi s.bl w'):=kR hk gr (λb h=>.inl h);obtain ⟨m1,m2⟩:=hm.up hu Cj;have hm':Mem s w':=⟨hm.nodup,λb hb'=>k_ (hm.lt b hb') hk.size,m1,m2⟩;have t3:∀(x:AT)(p e2:Int),cN (bi s.bl w') x v' -> cN (bi s.bl w') (.tup [x,bB p,bB e2]) (.tuple #[v',.int .i64 p,.int .i64 e2]):=λx p e2 hx=>by
  refine .tup _ [v',.int .i64 p,.int .i64 e2] J λi h h'=>?_
  match i,h,h' with
  |0,_,_=>exact hx
  |1,_,_=>exact .c _ _ (.val _ rfl)
  |2,_,_=>exact .c _ _ (.val _ rfl)
 subst he;rcases hf with ⟨l,h1,h2,rfl,rfl,h3⟩|⟨p,e2,h1,rfl,rfl,rfl,h2⟩
 ·refine ⟨_,_,s,J,⟨.inl ⟨l,h1,J,h3⟩,J⟩,t3 _ _ _ (.c _ _ (.sl _ _ (jC l) _ (Ky h2 hm.lt) ?_ ?_ ?_)),hm',hk,λb hb=>.inl hb⟩
  ·rw [zy];simp
  ·rw [zy];exact (mW _ _ (Mn l)).at_
  exact Ad h2
 exact ⟨_,_,s,J,⟨.inr ⟨p,e2,h1,J,h2⟩,J⟩,t3 _ _ _ (.c _ _ (.val _ J)),hm',hk,λb hb=>.inl hb⟩
def J1(bs:List UInt8)(s:aH):aR prog 58 [.c (.sl bs.length (cT bs))] [] s λt s'=>yg bs t /\ s'=s:=
 TI (λ_=>True) (λ_ _=>trivial) λv w _ hv hc=>QO bs v w hv hc
section
variable {P:Program}{U T:List Nat}{o:Oper}{n d:Nat}{ts:List (Nat×AT)}{s:aH}{K:AS -> Prop}
theorem nM{F:FuncId}{x:bc}{fst cap:Array aM}{ars:Array bc}{tys:Array bA}{us:List AT}(T':List Nat){QQ:AT -> aH -> Prop}(ho:o.op=.call {callee:=.value x,args:=ars,argTypes:=tys})(hx:ay ⟨n,T,s,ts⟩ x=some (au (.func (.func F) fst cap)))(hd:o.dst=some d)(hn:d<n)
  (hcf:∀args w,(callFunc F args).run P w=.ok (.enter F args) w) (has:ars.toList.map (ay ⟨n,T,s,ts⟩)=us.map some) (hc:aR P F (fst.toList.map fy++us++cap.toList.map fy) T' s QQ) (hT:∀b,b∈T' -> b∈T) (hTb:∀b,b∈T' -> b∈s.bl) (hU:s.bl.Nodup -> ∀b,b∈T' -> b∈U)
  (h:∀r s',QQ r s' -> ∃T2,(s'.bl.Nodup -> ∀b,b∈T2 -> b∈s'.bl /\ (b∈s.bl -> b∈T)) /\ K ⟨n,T2++T,s',(d,r)::ts⟩):dN P U o ⟨n,T,s,ts⟩ K:=by
 intro a w hs KK QQ' hK;obtain ⟨h1,h2⟩:=nx hs has;obtain ⟨c1,c2⟩:=yN (bi s.bl w) fst.toList;obtain ⟨ep,fS⟩:=yN (bi s.bl w) cap.toList;obtain ⟨g1,g2⟩:=Ak c1 c2 h1 h2;obtain ⟨g3,g4⟩:=Ak g1 g2 ep fS;unfold Oper.wp;rw [show (execOp a.eval o).run P w=.ok (.enter F (fst.toList++ars.toList.map a.eval++cap.toList).toArray) w from by
  simp only [execOp,ho,resolve,hs.val hx,Deferred.ofValue,Sem.run_bind,Sem.run_pure,Result.andThen_ok,invoke];rw [hcf]
  congr 2
  rw [←mu];simp,Oper.upon_enter]
 refine (hc _ w hs.mem hTb g3 g4).mono ?_;rintro en w' ⟨r,v,s',rfl,hq,hr,hm,hk,hb⟩;dsimp only;rw [hd];obtain ⟨T2,ht,hK2⟩:=h r s' hq;have s1:=hs.step (T2++T) (hk.mono hTb) hm hb;refine hK _ _ _ hK2 (s1.put hn hr) ⟨hk.mono hTb,hk.mono hT,hb,λb hb2=>?_⟩ (hk.mono (hU hs.mem.nodup));rcases mem_append.1 hb2 with hb2|hb2
 ·obtain ⟨aa,e2⟩:=ht hm.nodup b hb2;exact (hb b aa).imp e2 id
 exact .inl hb2
theorem BG{bx bx':List aT}{r r':aS}{rw:List aS}{b:Nat}(hb:bx'.map aT.b=bx.map aT.b)(hn:(⟨bx',r'::rw⟩:aH).bl.Nodup)(h1:b∈aO r'.v)(h2:b∈(⟨bx,r::rw⟩:aH).bl):b∈aO r.v:=by
 unfold aH.bl at hn h2;simp only [fD,mem_append] at h2;simp only [fD] at hn;rw [hb] at hn;rcases h2 with h|h|h
 ·exact absurd J ((du.1 hn).2.2 b h b (fj _ h1))
 ·exact h
 exact absurd J ((du.1 (du.1 hn).2.1).2.2 b h1 b h)
end
end
section
open Go.RowKit
def L4(places:Bool)(l m:List Tok):Prop:=l.length=m.length /\ ∀k (h:k<l.length) (h':k<m.length),l[k].kind=m[k].kind /\ l[k].text=m[k].text /\ l[k].num=m[k].num /\ (places=true -> l[k].pos=m[k].pos)
def L4.refl(p:Bool)(l:List Tok):L4 p l l:=⟨rfl,λ_ _ _=>⟨rfl,rfl,rfl,λ_=>rfl⟩⟩
structure lh (P:Program) (E e:TypeId) (i:TypeInfo) (z bytes:Nat) (zv:Value):Prop where
  hu:P.underlying E=some (.slice e)
  hi:P.info? e=some i
  hz:i.zero=some zv
  hsz:i.size=z
  hby:i.bytes=bytes
  hzs:zv.cells.size=z
  h0:0<z
structure jl (P:Program) (E e:TypeId) (i:TypeInfo) (len:Nat) (z:Value) (zc:List aN):Prop where
  hu:P.underlying E=some (.slice e)
  hi:P.info? e=some i
  hz:i.zero=some z
  hsmall:¬len*i.size>2 ^ 24
  hpos:¬len*i.size=0
  hzc:(((Array.range (len*i.size)).map (z.cells[·% z.cells.size]!)).toList.all (·.oneCell'))=true
  hzr:((Array.range (len*i.size)).map (z.cells[·% z.cells.size]!)).toList.map .val=zc
section
variable {P:Program}{U:List Nat}{o:Oper}{n d:Nat}{T:List Nat}{s:aH}{ts:List (Nat×AT)}{bx:List aT}{K:AS -> Prop}
theorem dR{E e:bA}{i:TypeInfo}{x y:bc}{k m z bytes:Nat}{v zv:aM}{cs ds r:List aN}(A:List aS)(t:lh P E e i z bytes zv){B:List aS}(h0:(o.op,o.dst,Nat.blt d n,ay ⟨n,T,⟨bx,A++⟨v,e,z,k,cs⟩::B⟩,ts⟩ x,ay ⟨n,T,⟨bx,A++⟨v,e,z,k,cs⟩::B⟩,ts⟩ y)=(.call {callee:=.builtin .append,args:=#[x,y],argTypes:=#[E,E]},some d,true,some (au v),some (.c (.sl m ds))))
    (hm:ds.length=m*z) (hm0:0<m) (hlen:k+m <= maxLen) (hbytes:(k+m)*bytes <= 140737488355328) {N:Nat} (hN:k+m=N) (hU:(⟨bx,A++⟨v,e,z,k,cs⟩::B⟩:aH).bl.Nodup -> ∀b,b∈aO v -> b∈U) (hT:∀b,b∈aO v -> b∈T) (hr:cs++ds=r)
    (h:∀v',K ⟨n,aO v'++T,⟨bx,A++⟨v',e,z,N,r⟩::B⟩,(d,au v')::ts⟩):dN P U o ⟨n,T,⟨bx,A++⟨v,e,z,k,cs⟩::B⟩,ts⟩ K:=by
  simp only [iN] at h0;exact VE A i bytes h0.1 h0.2.1 (ez h0.2.2.1) h0.2.2.2.1 h0.2.2.2.2 t.hu t.hi t.hz t.hsz t.hby t.hzs t.h0 hm hm0 hlen hbytes hN hU hT hr h
theorem be{E e:bA}{i:TypeInfo}{z:aM}{len:Nat}{parts:Array (Nat×bc)}{ps:List (Nat×AT)}{zc r:List aN}(t:jl P E e i len z zc)(h:K ⟨n,T,s,(d,.c (.sl len r))::ts⟩)(h0:(o.op,o.dst,Nat.blt d n)=(.buildSlice E len parts,some d,true):=by exact rfl)(hps:nq ⟨n,T,s,ts⟩ parts.toList ps:=by exact (.cons rfl .nil))(hf:lX (λk=>some (k*i.size,i.size)) zc ps=some r:=by exact rfl):dN P U o ⟨n,T,s,ts⟩ K:=by
  simp only [iN] at h0;exact rY i zc h0.1 h0.2.1 (ez h0.2.2) hps t.hu t.hi t.hz t.hsmall t.hpos t.hzc t.hzr hf h
end
def tZ:=(⟨underlying107,aQ,rfl,rfl,rfl,rfl,V⟩:lh prog 107 111 Tryz.t111 3 32 _)
def H5:=(⟨underlying118,aQ,rfl,rfl,rfl,rfl,V⟩:lh prog 118 135 Tryz.t135 7 104 _)
def AQ:=(⟨underlying22,aQ,rfl,rfl,rfl,rfl,V⟩:lh prog 22 3 Tryz.t3 1 8 _)
def uA:=(⟨underlying58,aQ,rfl,rfl,rfl,rfl,V⟩:lh prog 58 5 Tryz.t5 1 1 _)
def vq:=(⟨underlying24,aQ,rfl,rfl,rfl,rfl,V⟩:lh prog 24 60 Tryz.t60 3 32 _)
def qy:=(⟨underlying23,aQ,rfl,rfl,rfl,rfl,V⟩:lh prog 23 63 Tryz.t63 2 24 _)
def MS:=(⟨underlying25,aQ,rfl,rfl,rfl,rfl,V⟩:lh prog 25 67 Tryz.t67 3 64 _)
def Nc:=(⟨underlying64,aQ,rfl,rfl,rfl,rfl,V⟩:lh prog 64 69 Tryz.t69 2 24 _)
def J3:=(⟨underlying29,aQ,rfl,rfl,rfl,rfl,V⟩:lh prog 29 79 Tryz.t79 5 64 _)
def tN:=(⟨underlying85,aQ,rfl,rfl,rfl,rfl,V⟩:lh prog 85 87 Tryz.t87 4 56 _)
def KJ:=(⟨underlying90,aQ,rfl,rfl,rfl,rfl,V⟩:lh prog 90 89 Tryz.t89 3 40 _)
def nG:=(⟨underlying61,aQ,rfl,rfl,rfl,rfl,V⟩:lh prog 61 9 Tryz.t9 1 16 _)
def tR:=(⟨underlying75,aQ,rfl,rfl,rfl,rfl,V⟩:lh prog 75 92 Tryz.t92 12 168 _)
def ql:=(⟨underlying107,aQ,rfl,V,V,aQ,aQ⟩:jl prog 107 111 Tryz.t111 1 _ [ae ⟨#[]⟩,aA 0,aA 0])
def zC:=(⟨underlying65,aQ,rfl,V,V,aQ,aQ⟩:jl prog 65 120 Tryz.t120 1 _ [aA 0,ae ⟨#[]⟩,aA 0,aA 0,ae ⟨#[]⟩,aI,ae ⟨#[]⟩,aI,aI,aI,aI])
def xi:=(⟨underlying118,aQ,rfl,V,V,aQ,aQ⟩:jl prog 118 135 Tryz.t135 1 _ [bD false,ae ⟨#[]⟩,aI,aA 0,aA 0,ae ⟨#[]⟩,aI])
def oV:=(⟨underlying22,aQ,rfl,V,V,aQ,aQ⟩:jl prog 22 3 Tryz.t3 1 _ [aA 0])
def zp:=(⟨underlying58,aQ,rfl,V,V,aQ,aQ⟩:jl prog 58 5 Tryz.t5 2 _ [.val (.int .u8 0),.val (.int .u8 0)])
def jy:=(⟨underlying58,aQ,rfl,V,V,aQ,aQ⟩:jl prog 58 5 Tryz.t5 1 _ [.val (.int .u8 0)])
def mh:=(⟨underlying24,aQ,rfl,V,V,aQ,aQ⟩:jl prog 24 60 Tryz.t60 1 _ [ae ⟨#[]⟩,bD false,aA 0])
def qI:=(⟨underlying23,aQ,rfl,V,V,aQ,aQ⟩:jl prog 23 63 Tryz.t63 1 _ [ae ⟨#[]⟩,aA 0])
def E_:=(⟨underlying25,aQ,rfl,V,V,aQ,aQ⟩:jl prog 25 67 Tryz.t67 1 _ [ae ⟨#[]⟩,aI,aI])
def EE:=(⟨underlying64,aQ,rfl,V,V,aQ,aQ⟩:jl prog 64 69 Tryz.t69 1 _ [ae ⟨#[]⟩,bD false])
def Ka:=(⟨underlying29,aQ,rfl,V,V,aQ,aQ⟩:jl prog 29 79 Tryz.t79 1 _ [ae ⟨#[]⟩,aA 0,aA 0,aA 0,aI])
def Il:=(⟨underlying85,aQ,rfl,V,V,aQ,aQ⟩:jl prog 85 87 Tryz.t87 2 _ [aA 0,aA 0,ae ⟨#[]⟩,aI,aA 0,aA 0,ae ⟨#[]⟩,aI])
def ni:=(⟨underlying85,aQ,rfl,V,V,aQ,aQ⟩:jl prog 85 87 Tryz.t87 1 _ [aA 0,aA 0,ae ⟨#[]⟩,aI])
def GQ:=(⟨underlying90,aQ,rfl,V,V,aQ,aQ⟩:jl prog 90 89 Tryz.t89 1 _ [bD false,aA 0,aI])
def zu:=(⟨underlying61,aQ,rfl,V,V,aQ,aQ⟩:jl prog 61 9 Tryz.t9 5 _ [ae ⟨#[]⟩,ae ⟨#[]⟩,ae ⟨#[]⟩,ae ⟨#[]⟩,ae ⟨#[]⟩])
def sO:=(⟨underlying61,aQ,rfl,V,V,aQ,aQ⟩:jl prog 61 9 Tryz.t9 3 _ [ae ⟨#[]⟩,ae ⟨#[]⟩,ae ⟨#[]⟩])
def B7:=(⟨underlying61,aQ,rfl,V,V,aQ,aQ⟩:jl prog 61 9 Tryz.t9 2 _ [ae ⟨#[]⟩,ae ⟨#[]⟩])
def iM:=(⟨underlying61,aQ,rfl,V,V,aQ,aQ⟩:jl prog 61 9 Tryz.t9 1 _ [ae ⟨#[]⟩])
def yZ:=(⟨underlying75,aQ,rfl,V,V,aQ,aQ⟩:jl prog 75 92 Tryz.t92 1 _ [aA 0,aA 0,bD false,aA 0,aA 0,ae ⟨#[]⟩,aI,bD false,aA 0,aI,aI,aI])
section
variable {P:Program}{ops:Array Oper}{U Z:List Nat}{o:Oper}{n d:Nat}{T:List Nat}{s:aH}{ts:List (Nat×AT)}{l:List Oper}{t:AT}{st:AS}
theorem cU{Q:AS->Prop}{F0:Nat}{listed:Array Bool}(run:List (Nat×Bool))(F:Nat)(h:ku P ops Z run st (λst'=>dh P ops Z F (vl listed run) st' Q))(hc:(qX ops listed run && Region.noSelect ops && F0 == F+run.length)=true:=by kernel_rfl):dh P ops Z F0 listed st Q:=KQ run F hc h
theorem aY{run:List (Nat×Bool)}{Q:AS->Prop}{F0:Nat}{listed:Array Bool}(k:List Nat)[y4 k run](F:Nat)(h:ku P ops Z run st (λst'=>dh P ops Z F (vl listed run) st' Q))(hc:(qX ops listed run && Region.noSelect ops && F0 == F+run.length)=true:=by kernel_rfl):dh P ops Z F0 listed st Q:=KQ run F hc h
theorem ab(i:Nat){fuel:Nat}{listed:Array Bool}{Q:AS->Prop}(h0:(ops.toList[i]?,dn ops o ⟨n,T,s,ts⟩,o.dst,Nat.blt d n)=(some o,some true,some d,true))(hy:cf P (fG s Z) o ⟨n,T,s,ts⟩ t)(h:dh P ops Z fuel (listed.setIfInBounds i true) ⟨n,T,s,(d,t)::ts⟩ Q)
  (hr:((Region.ready .any ops listed).contains i && Region.free .any ops listed i && Region.noSelect ops)=true:=by kernel_rfl):dh P ops Z (fuel+1) listed ⟨n,T,s,ts⟩ Q:=S9 i hr h0 hy h
theorem an(i:Nat){fuel:Nat}{listed:Array Bool}{K:AS->Prop}(hi:ops.toList[i]?=some o)(hw:dn ops o ⟨n,T,s,ts⟩=some true)(h:dN P (fG s Z) o ⟨n,T,s,ts⟩ λs=>dh P ops Z fuel (listed.setIfInBounds i true) s K)(hr:Region.ready .any ops listed=[i]:=by kernel_rfl):dh P ops Z (fuel+1) listed ⟨n,T,s,ts⟩ K:=one i hr hi hw h
theorem bG{fuel:Nat}{listed:Array Bool}{Q:AS->Prop}(h:Q st)(hr:Region.ready .any ops listed=[]:=by kernel_rfl):dh P ops Z fuel listed st Q:=S3 hr h
theorem b_{id:Nat}{Q:Exit->AS->Prop}(Z:List Nat)(h:dh P ops Z ops.size (Array.replicate ops.size false) st (Q .normal))(hm:P.follows .mixedOrders=true:=by kernel_rfl):bo P (.region id ops true) st Q:=T8 Z hm h
theorem cx(i j:Nat){o2:Oper}{fuel:Nat}{listed:Array Bool}{K:AS->Prop}(hi:(ops.toList[i]?,dn ops o ⟨n,T,s,ts⟩,ops.toList[j]?,dn ops o2 ⟨n,T,s,ts⟩)=(some o,some true,some o2,some true))
  (h:dN P (fG s Z) o ⟨n,T,s,ts⟩ λs=>dh P ops Z fuel (listed.setIfInBounds i true) s K) (h2:dN P (fG s Z) o2 ⟨n,T,s,ts⟩ λs=>dh P ops Z fuel (listed.setIfInBounds j true) s K) (hr:Region.ready .any ops listed=[i,j]:=by kernel_rfl):dh P ops Z (fuel+1) listed ⟨n,T,s,ts⟩ K:=by
 simp only [iN] at hi;exact two i j hr hi.1 hi.2.1 hi.2.2.1 hi.2.2.2 h h2
end
end
end Go.Proofs.YtjgeihmhppadaaaGreatDoor
