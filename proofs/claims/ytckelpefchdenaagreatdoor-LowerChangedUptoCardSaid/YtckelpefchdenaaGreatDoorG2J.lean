import Derived.Test.YtckelpefchdenaaGreatDoorG1J
import Derived.Test.YtckelpefchdenaaGreatDoorRows
import Derived.Test.YtckelpefchdenaaGreatDoorShelfJ
import Derived.BigQuiet
import Derived.Lib.SlBytesConst
set_option linter.all false
set_option synthInstance.maxHeartbeats 1000000
set_option synthInstance.maxSize 1000000
set_option maxHeartbeats 1600000
set_option maxRecDepth 100000
namespace Go.Proofs.YtckelpefchdenaaGreatDoor
class D5(k:List Nat)(l:outParam (List (Nat×Bool))):Prop where
instance aFM:D5 [] []:=⟨⟩
instance aBo{i:Nat}{r:List Nat}{l:List (Nat×Bool)}[D5 r l]:D5 (i::r) ((i,true)::l):=⟨⟩
open Go.Proofs.Tryz
abbrev dJ:=@isAgg4
abbrev dI:=@sizeOf4
abbrev dl:=@sizeOf94
abbrev du:=@sizeOf49
abbrev dw:=@call56
abbrev dz:=@underlying9
abbrev eB:=@sizeOf105
abbrev fN:=@call15
abbrev fp:=@sizeOf45
abbrev fu:=@runUnderlying25
abbrev gE:=@isAgg94
abbrev gN:=@underlying24
abbrev ga:=@sizeOf51
abbrev ge:=@isAgg105
abbrev iK:=@runUnderlying46
abbrev iG:=@sizeOf9
abbrev iL:=@call85
abbrev iR:=@runUnderlying92
abbrev iZ:=@sizeOf47
abbrev jN:=@call54
abbrev jh:=@runUnderlying4
abbrev jS:=@sizeOf99
abbrev jU:=@sizeOf43
abbrev j6:=@runUnderlying24
abbrev jv:=@runUnderlying72
abbrev j0:=@runUnderlying47
abbrev jx:=@call55
abbrev ju:=@underlying25
abbrev j':=@sizeOf152
abbrev kC:=@isAgg24
abbrev kL:=@sizeOf24
abbrev kj:=@runUnderlying64
abbrev lK:=@sizeOf3
abbrev ky:=@underlying63
abbrev lA:=@runUnderlying128
abbrev lE:=@sizeOf150
abbrev kq:=@call11
abbrev kx:=@underlying23
abbrev lV:=@runUnderlying103
abbrev lb:=@call116
abbrev lj:=@underlying71
abbrev mA:=@sizeOf83
abbrev ma:=@sizeOf46
abbrev mG:=@call10
abbrev mp:=@runUnderlying23
abbrev mt:=@underlying3
abbrev mz:=@isAgg25
abbrev m_:=@sizeOf25
abbrev mb:=@call59
abbrev me:=@runUnderlying105
abbrev nN:=@runUnderlying49
abbrev n_:=@call80
abbrev oP:=@isAgg49
abbrev oA:=@isAgg27
abbrev oL:=@sizeOf27
abbrev oR:=@underlying111
abbrev ot:=@runUnderlying99
abbrev pN:=@call49
abbrev oY:=@underlying64
abbrev pG:=@isAgg23
abbrev o9:=@sizeOf23
abbrev qG:=@call23
abbrev pf:=@call43
abbrev pR:=@underlying5
abbrev pi:=@underlying47
abbrev qA:=@underlying46
abbrev pk:=@isAgg229
abbrev py:=@sizeOf229
abbrev qz:=@isAgg83
abbrev qW:=@sizeOf33
abbrev qZ:=@call53
abbrev qR:=@call108
abbrev rG:=@underlying128
abbrev qv:=@call111
abbrev rZ:=@isAgg99
abbrev rV:=@zeroValue3
abbrev sD:=@underlying79
abbrev rl:=@isAgg9
abbrev rf:=@sizeOf76
abbrev sF:=@isAgg33
abbrev rh:=@runUnderlying74
abbrev tn:=@underlying22
abbrev sW:=@call105
abbrev sv:=@zeroValue49
abbrev s_:=@isAgg46
abbrev uA:=@zeroValue156
abbrev tc:=@isAgg47
abbrev uC:=@runUnderlying134
abbrev wJ:=@call122
abbrev uR:=@underlying103
abbrev vR:=@isAgg45
abbrev ud:=@call115
abbrev vX:=@func186
abbrev wn:=@sizeOf96
abbrev yJ:=@runUnderlying22
abbrev xB:=@runUnderlying79
abbrev xV:=@isAgg102
abbrev xD:=@sizeOf102
abbrev yI:=@runUnderlying141
abbrev xj:=@runUnderlying229
abbrev AD:=@zeroValue83
abbrev yT:=@underlying4
abbrev AK:=@zeroValue76
abbrev Ab:=@runUnderlying31
abbrev yc:=@underlying92
abbrev za:=@runUnderlying76
abbrev yn:=@runUnderlying114
abbrev AH:=@underlying176
abbrev BN:=@runUnderlying83
abbrev CG:=@zeroValue33
abbrev Ba:=@zeroValue43
abbrev DT:=@zeroValue51
abbrev Bj:=@underlying112
abbrev Dl:=@runUnderlying33
abbrev Cw:=@runUnderlying61
abbrev D8:=@runUnderlying94
abbrev Cx:=@runUnderlying150
abbrev Gk:=@runUnderlying97
abbrev IV:=@runUnderlying27
abbrev FK:=@runUnderlying45
abbrev Hc:=@runUnderlying96
abbrev El:=@runUnderlying152
open List (length_append length_cons length_nil mem_append mem_cons not_mem_nil append_assoc getElem_mem take_of_length_le)
section
open Go.RowKit
mutual
def bV:aS -> List aO
 |.mk op num name args=>[.val (.int .i64 op),.val (.int .i64 num),.val (.string name),.sl args.length (yk args)]
def yk:List aS -> List aO
 |[]=>[]
 |e::es=>bV e++yk es
end
def Ku:∀l:List aS,yk l=l.flatMap bV
 |[]=>by rw [yk];rfl
 |e::es=>by rw [yk,Ku es,eZ]
def bf(x:aS):List aO:=[aA x.op,aA x.num,ac x.name,aG bV x.args]
def yA(x:aS):bV x=[aA x.op,aA x.num,ac x.name,aG bV x.args]:=by
 cases x;rw [bV,Ku];rfl
def fR(x:aS):bV x=bf x:=yA x
def fw(x:aS):(bV x).length=4:=by rw [yA];rfl
def encR(r:cD):List aO:=[ac r.name,aG bV r.index]
def cg(a:bq):List aO:=[bD a.mutex,ac a.ref.name,aG bV a.ref.index,aA a.expr.op,aA a.expr.num,ac a.expr.name,aG bV a.expr.args]
def oO(a:bq):(cg a).length=7:=rfl
mutual
def encS:aD -> List aO
 |.mk k name e r args t el=>[.val (.int .i64 k),.val (.string name),.val (.int .i64 e.op),.val (.int .i64 e.num),.val (.string e.name),.sl e.args.length (e.args.flatMap bV),.val (.string r.name),.sl r.index.length (r.index.flatMap bV),.sl args.length (args.flatMap cg),.sl t.length (xW t),.sl el.length (xW el)]
def xW:List aD -> List aO
 |[]=>[]
 |e::es=>encS e++xW es
end
def II:∀l:List aD,xW l=l.flatMap encS
 |[]=>by rw [xW];rfl
 |e::es=>by rw [xW,II es,eZ]
def EF(x:aD):encS x=[aA x.kind,ac x.name,aA x.expr.op,aA x.expr.num,ac x.expr.name,aG bV x.expr.args,ac x.ref.name,aG bV x.ref.index,aG cg x.args,aG encS x.thn,aG encS x.els]:=by
 cases x;rw [encS,II,II];rfl
def cm(x:aD):List aO:=[aA x.kind,ac x.name,aA x.expr.op,aA x.expr.num,ac x.expr.name,aG bV x.expr.args,ac x.ref.name,aG bV x.ref.index,aG cg x.args,aG encS x.thn,aG encS x.els]
def mQ(x:aD):encS x=cm x:=EF x
def kS(x:aD):(encS x).length=11:=by rw [EF];rfl
def cE(p:bg):List aO:=[ac p.name,bD p.mutex]
def bT(f:a_):List aO:=[ac f.name,aG cE f.params,aG encS f.body]
def cR(g:bw):List aO:=[ac g.name,aA g.init]
def bB(m:cn):List aO:=[ac m.name,bD m.ex,aA m.size]
def di(p:aX):List aO:=[aG cR p.globals,aG bB p.mutexes,aG bT p.funcs]
def da(t:Tok):List aO:=[aA t.kind,ac t.text,aA t.num,aA t.pos]
def iQ(p:bg):(cE p).length=2:=rfl
def mY(p:a_):(bT p).length=3:=rfl
def nt(p:bw):(cR p).length=2:=rfl
def lC(p:cn):(bB p).length=3:=rfl
def lN(p:Tok):(da p).length=4:=rfl
def Va{P:Program}{c:Code}{n:Nat}{T:List Nat}{s:aH}{ts:List (Nat×AT)}{Q:Exit -> AS -> Prop}(N i:Nat)(fixed:List (Nat×AT))(hs:Sub ⟨n,T,s,ts⟩ ⟨n,T,s,(i,ab 0)::fixed⟩)
  (round:∀k,k <= N -> bi P c ⟨n,T,s,(i,ab k)::fixed⟩ (lH (λs'=>k<N /\ Sub s' ⟨n,T,s,(i,ab (k+1))::fixed⟩) Q)):bi P (.loop c) ⟨n,T,s,ts⟩ Q:=by
 refine fv (λk=>⟨n,T,s,(i,ab k)::fixed⟩) (λk=>k <= N) (λk=>N-k) 0 hs (eL _) λk hk=>sK (round k hk) λe s' h=>?_;cases e with
 |normal=>exact ⟨k+1,h.1,by have:=h.1;omega,h.2⟩
 |_=>exact h
section
variable {P:Program}{ops:Array Oper}{U Z:List Nat}{o o2:Oper}{n d:Nat}{T:List Nat}{s:aH}{bx:List aV}{rw:List aQ}{ts:List (Nat×AT)}{Q:Exit -> AS -> Prop}{K:AS -> Prop}{st:AS}
theorem Ra{ts':List (Nat×AT)}(h:∀i t,look ts' i=some t -> look ts i=some t):Sub ⟨n,T,s,ts⟩ ⟨n,T,s,ts'⟩:=λa w hs=>⟨⟨hs.df,hs.sz,λi t ht=>hs.tm i t (h i t ht),hs.mem⟩,λ_ h=>h,λ_ h=>h⟩
theorem Q_{bx':List aV}(h:bx'.Perm bx):Sub ⟨n,T,⟨bx,rw⟩,ts⟩ ⟨n,T,⟨bx',rw⟩,ts⟩:=λa w hs=>by
 have hbl:(⟨bx',rw⟩:aH).bl.Perm (⟨bx,rw⟩:aH).bl:=(h.map _).append (C0 _);have hu:f7 (bh (⟨bx,rw⟩:aH).bl w) (bh (⟨bx',rw⟩:aH).bl w):=up_sub λb hb=>hbl.mem_iff.1 hb;refine ⟨⟨hs.df,hs.sz,λi t ht=>let ⟨v,ae,e2⟩:=hs.tm i t ht;⟨v,ae,e2.mono hu (AR (bY _))⟩,?_⟩,λb hb=>hbl.mem_iff.1 hb,λ_ h=>h⟩;exact ⟨hbl.nodup_iff.2 hs.mem.nodup,λb hb=>hs.mem.lt b (hbl.mem_iff.1 hb),λx hx=>let ⟨us,ae,e2⟩:=hs.mem.box x (h.mem_iff.1 hx);⟨us,ae,e2.mono hu⟩,λr hr=>let ⟨us,ae,e2⟩:=hs.mem.row r hr;⟨us,ae,e2.mono hu⟩⟩
theorem Qh{md:Region.Mode}{QQ:Exit -> Act -> aa -> Prop}{S S':aa -> Prop}(hS:∀w,S' w -> S w){fuel:Nat}{listed:Array Bool}{a:Act}{w:aa}(h:wpAnyH P md ops QQ S' fuel listed a w):wpAnyH P md ops QQ S fuel listed a w:=Ed hS _ _ _ _ h
theorem A9{fuel:Nat}{listed:Array Bool}{st':AS}(hs:Sub st st')(h:dq P ops Z fuel listed st' K):dq P ops Z fuel listed st K:=
 λa w hS QQ hp hQ=>Qh (λw2 h2=>h2.mono λb hb=>gZ.2 ⟨(hs a w hS).2.1 b (gZ.1 hb).1,(gZ.1 hb).2⟩) (h a w (hs a w hS).1 QQ hp λa' w' st2 q s2 k=>hQ a' w' st2 q s2 ((hs.ext hS).trans k))
theorem Mg(i j:Nat){E1 E2:ax}{fK fe:Nat}{z1 z2:aN}{cs1 cs2:List aO}{fuel:Nat}{listed:Array Bool}(hr:Region.ready .any ops listed=[i,j])(hr1:Region.ready .any ops (listed.setIfInBounds i true)=[j])(hr2:Region.ready .any ops (listed.setIfInBounds j true)=[i])
  (hi:ops.toList[i]?=some o) (hw:d6 ops o ⟨n,T,⟨bx,rw⟩,ts⟩=some true) (hi2:ops.toList[j]?=some o2) (hw2:d6 ops o2 ⟨n,T,⟨bx,rw⟩,ts⟩=some true) (hg1:o.guard=none) (hg2:o2.guard=none) (ho:o.op=.alloc E1) (hd1:o.dst=some fK) (hn1:fK<n) (ho2:o2.op=.alloc E2) (hd2:o2.dst=some fe) (hn2:fe<n) (hne:fK≠fe) (hij:i≠j)
  (hz1:∀w,(zeroValue E1).run P w=.ok z1 w) (hc1:kc (gO z1)=some cs1) (hz2:∀w,(zeroValue E2).run P w=.ok z2 w) (hc2:kc (gO z2)=some cs2)
  (h:∀b1 b2,dq P ops Z fuel ((listed.setIfInBounds i true).setIfInBounds j true) ⟨n,b2::b1::T,⟨⟨b2,E2,cs2⟩::⟨b1,E1,cs1⟩::bx,rw⟩,(fe,aE b2)::(fK,aE b1)::ts⟩ K):
  dq P ops Z (fuel+1+1) listed ⟨n,T,⟨bx,rw⟩,ts⟩ K:=by
 have w1:∀st,d6 ops o st=some true:=λst=>by unfold d6;rw [hg1]
 have w2:∀st,d6 ops o2 st=some true:=λst=>by unfold d6;rw [hg2]
 refine two i j hr hi (w1 _) hi2 (w2 _) (iz ho hd1 hn1 hz1 hc1 λb1=>?_) (iz ho2 hd2 hn2 hz2 hc2 λb2=>?_)
 ·exact one j hr1 hi2 (w2 _) (iz ho2 hd2 hn2 hz2 hc2 λb2=>h b1 b2)
 refine one i hr2 hi (w1 _) (iz ho hd1 hn1 hz1 hc1 λb1=>?_);have h9:=h b1 b2;rw [Array.setIfInBounds_comm _ _ hij] at h9;refine A9 (Sub.trans (Q_ (List.Perm.swap _ _ _)) (Sub.trans (JY (st:=⟨n,b1::b2::T,⟨⟨b2,E2,cs2⟩::⟨b1,E1,cs1⟩::bx,rw⟩,_⟩) (b2::b1::T) ?_) (Ra ?_))) h9
 ·intro b hb;simp only [mem_cons] at hb⊢;rcases hb with h|h|h<;>simp [h]
 intro k t hk;simp only [look] at hk⊢;by_cases ae:fe=k
 ·rw [if_pos ae] at hk;rw [if_neg (λe=>hne (e.trans ae.symm)),if_pos ae];exact hk
 rw [if_neg ae] at hk⊢;exact hk
theorem jz(r:Int){E yt:ax}{x y:bb}{m k:Int}(ho:o.op=.binOp .sub E x y yt:=by exact rfl)(hx:aw st x=some (aj m):=by exact rfl)(hy:aw st y=some (aj k):=by exact rfl)(hr:m-k=r:=by omega)(h1:-9223372036854775808 <= r:=by omega)(h2:r <= 9223372036854775807:=by omega):cp P U o st (aj r):=by
 subst hr;exact kM (ho:=ho) (hx:=hx) (hy:=hy) (h1:=h1) (h2:=h2)
theorem dR{U:List Nat}{t:AT}(hd:o.dst=some d)(hn:d<n)(hy:cp P [] o ⟨n,T,s,ts⟩ t)(h:K ⟨n,T,s,(d,t)::ts⟩):db P U o ⟨n,T,s,ts⟩ K:=ZD hd hn hy h
theorem m0{E e:ax}{x y:bb}{α:Type}(f:α -> aO)(lst:List α){k:IntKind}{i:Int}(j:Nat)(ho:o.op=.indexAddr E x y)(hx:aw st x=some (.c (.sl lst.length (lst.map f))))(hy:aw st y=some (ap (.int k i)))(hi:i=j)(hj:j<lst.length)
  (hu:∀w,(underlying E).run P w=.ok (.slice e) w) (hS:∀w,(sizeOf e).run P w=.ok 1 w):cp P U o st (.el (f lst[j]::(lst.drop (j+1)).map f)):=by
 have h:=Od (P:=P) (U:=U) j ho hx hy hi hj (by simpa using hj) hu hS;have ae:(lst.map f).drop (j*1)=f lst[j]::(lst.drop (j+1)).map f:=by rw [sM,←List.map_drop,ii hj,ca]
 rw [ae] at h;exact h
theorem dd{α:Type}(enc enc':α -> List aO)(x:α){z:Nat}{zc:List aO}(he:enc x=enc' x)(h1:zc.length=z)(h2:(enc' x).length=z):nV (λk=>some (k*z,z)) zc [(0,.agg (enc' x))]=some ([x].flatMap enc):=by
 simp only [nV,kc,rO,cq];rw [if_pos ⟨h2,Y⟩,Bh Y];simp [he]
theorem Q5{α:Type}(enc enc':α -> List aO)(x y:α){z:Nat}{zc:List aO}(he:∀x,enc x=enc' x)(h1:zc.length=2*z)(h2:∀x,(enc' x).length=z):nV (λk=>some (k*z,z)) zc [(0,.agg (enc' x)),(1,.agg (enc' y))]=some ([x,y].flatMap enc):=by
 simp only [nV,kc,rO,cq,Nat.one_mul];have ae:(splice zc 0 (enc' x)).length=2*z:=by unfold splice;simp [h2];omega
 rw [if_pos ⟨h2 x,Y⟩,if_pos ⟨h2 y,Y⟩];unfold splice;simp only [h2,mZ,ck,cq,eZ,EK,eY,he];rw [sN (h2 x),sY (by simp [h2];omega)];simp
end
end
section
open Go.RowKit
section
variable {P:Program}{U T:List Nat}{o:Oper}{n d:Nat}{ts:List (Nat×AT)}{bx:List aV}{rw:List aQ}{K:AS -> Prop}{Q:Exit -> AS -> Prop}{ops:Array Oper}{l:List Oper}
theorem TQ{E e:ax}{x y:bb}{k m z:Nat}{v zv:aN}{cs ds r:List aO}(A:List aQ)(i:TypeInfo)(bytes:Nat){B:List aQ}(ho:o.op=.call {callee:=.builtin .append,args:=#[x,y],argTypes:=#[E,E]})(hd:o.dst=some d)(hn:d<n)
  (hx:aw ⟨n,T,⟨bx,A++⟨v,e,z,k,cs⟩::B⟩,ts⟩ x=some (ap v)) (hy:aw ⟨n,T,⟨bx,A++⟨v,e,z,k,cs⟩::B⟩,ts⟩ y=some (.c (.sl m ds))) (hu:P.underlying E=some (.slice e)) (hi:P.info? e=some i) (hz:i.zero=some zv) (hsz:i.size=z) (hby:i.bytes=bytes) (hzs:zv.cells.size=z) (h0:0<z)
  (hm:ds.length=m*z) (hm0:0<m) (hlen:k+m <= maxLen) (hbytes:(k+m)*bytes <= 140737488355328) {N:Nat} (hN:k+m=N) (hU:(⟨bx,A++⟨v,e,z,k,cs⟩::B⟩:aH).bl.Nodup -> ∀b,b∈aR v -> b∈U) (hT:∀b,b∈aR v -> b∈T) (hr:cs++ds=r)
  (h:∀v',K ⟨n,aR v'++T,⟨bx,A++⟨v',e,z,N,r⟩::B⟩,(d,ap v')::ts⟩):db P U o ⟨n,T,⟨bx,A++⟨v,e,z,k,cs⟩::B⟩,ts⟩ K:=by
 subst hr;subst hN;exact Fl A ho hd hn hx J hy hu hi hz hsz hby hzs h0 hm hm0 hlen hbytes hU hT h
theorem Yw{R R':List aQ}{r:aQ}{w:aa}(hm:Mem ⟨bx,R++r::R'⟩ w)(hz:0<r.z):j7 (bh (⟨bx,R++R'⟩:aH).bl w) (.sl r.n r.cs) r.v:=by
 obtain ⟨us,la,hrep⟩:=hm.row r aM;have hown:=la.row hz;have hbl:∀b,b∈(⟨bx,R++R'⟩:aH).bl -> b∈(⟨bx,R++r::R'⟩:aH).bl:=λb hb=>by
  unfold aH.bl at hb⊢;simp only [dh,eZ,mem_append] at hb⊢;rcases hb with h|h|h
  ·exact .inl h
  ·exact .inr (.inl h)
  exact .inr (.inr (.inr h))
 refine .sl _ _ us _ ?_ hrep.len (λk h h'=>(hrep.at_ k h h').mono (up_sub hbl)) (Cd hown);obtain ⟨p,cap,he,hc,hr⟩:=eD.Fk hown;refine ⟨p,cap,he,hc,?_⟩;rcases hr with h0|⟨b,off,rfl,hr⟩
 ·exact .inl h0
 refine .inr ⟨b,off,J,λj x hj=>?_⟩;have hbv:b∈aR r.v:=by rw [he];simp [aR,Value.ownBlock]
 rw [pw]
 ·exact hr j x hj
 intro hm1;have hnd:=hm.nodup;rw [Cq bx R R' r] at hnd;have hm2:b∈(bx.map aV.b++R.flatMap λr=>aR r.v)∨b∈R'.flatMap λr=>aR r.v:=by
  unfold aH.bl at hm1;simp only [dh,mem_append] at hm1⊢;rcases hm1 with h|h|h
  ·exact .inl (.inl h)
  ·exact .inl (.inr h)
  exact .inr h
 rcases hm2 with hm2|hm2
 ·exact (eF.1 hnd).2.2 b hm2 b (gW _ hbv) J
 exact (eF.1 (eF.1 hnd).2.1).2.2 b hbv b hm2 J
theorem FP{b:Nat}{E:ax}{cs:List aO}{r:aQ}(A:List aV){B:List aV}(i:Nat)(hi:cs[i]?=some (.val r.v))(hz:0<r.z:=by decide):jJ ⟨A++⟨b,E,cs⟩::B,r::rw⟩ ⟨A++⟨b,E,cs.set i (.sl r.n r.cs)⟩::B,rw⟩:=by
 intro w hm;have hf:=Yw (R:=[]) hm hz;obtain ⟨h1,h2⟩:=ah (s:=⟨A++⟨b,E,cs⟩::B,r::rw⟩) (s':=⟨A++⟨b,E,cs⟩::B,rw⟩) (.refl _) (AJ _ _) w hm;have hbl:(⟨A++⟨b,E,cs.set i (.sl r.n r.cs)⟩::B,rw⟩:aH).bl=(⟨A++⟨b,E,cs⟩::B,rw⟩:aH).bl:=by unfold aH.bl;simp
 refine ⟨⟨by rw [hbl];exact h1.nodup,by rw [hbl];exact h1.lt,λx hx=>?_,λx hx=>by rw [hbl];exact h1.row x hx⟩,by rw [hbl];exact h2⟩;rw [hbl];rcases mem_append.1 hx with hx|hx
 ·exact h1.box x (gW _ hx)
 rcases mem_cons.1 hx with rfl|hx
 ·obtain ⟨us,ae,e2⟩:=h1.box ⟨b,E,cs⟩ aM;refine ⟨us,ae,?_⟩;obtain ⟨u,g1,g2⟩:=e2.get hi;cases g2;have h9:=e2.set i hf;have hus:us.set i r.v=us:=by
   refine np aM λj h1 h2=>?_;rw [FH];split
   ·rename_i hj;subst hj;exact (mN.1 g1).2.symm
   rfl
  rw [hus] at h9;exact h9
 exact h1.box x (gz _ (d_ _ hx))
theorem eO{b:Nat}{E:ax}{cs cs':List aO}{v:aN}{E2:ax}{z k:Nat}{ds:List aO}(A:List aV){B:List aV}(i:Nat)(hi:cs[i]?=some (.val v))(hr:cs.set i (.sl k ds)=cs')(h:cN P ops l ⟨n,T,⟨A++⟨b,E,cs'⟩::B,rw⟩,ts⟩ Q)(hz:0<z:=by decide):cN P ops l ⟨n,T,⟨A++⟨b,E,cs⟩::B,⟨v,E2,z,k,ds⟩::rw⟩,ts⟩ Q:=by
 subst hr;exact u' (rS (st:=⟨n,T,⟨A++⟨b,E,cs⟩::B,⟨v,E2,z,k,ds⟩::rw⟩,ts⟩) (FP (r:=⟨v,E2,z,k,ds⟩) A i hi hz)) h
theorem iB{st:AS}{rv:ResultVar}{r r':AT}(h:bI r r')(hr:m8 P st rv r):m8 P st rv r':=λa w hs=>
 let ⟨v,h1,h2⟩:=hr a w hs
 ⟨v,h _ _ h1,h2⟩
end
end
section
open Go.RowKit
class dt (N:Nat) (g:Prop) (g':outParam Prop):Prop where out:g' -> g
def go(N:Nat){g g':Prop}[h:dt N g g'](x:g'):g:=h.out x
instance aEJ{g:Prop}:dt 0 g g:=⟨id⟩
class pU (d n:Nat):Prop where h:d<n
instance aE8{d k:Nat}:pU d (k+d+1):=⟨Y⟩
class EH (i j:Nat):Prop where h:i≠j
instance aCV{i j:Nat}[h:pU i j]:EH i j:=⟨by have:=h.h;omega⟩
instance aF2{i j:Nat}[h:pU j i]:EH i j:=⟨by have:=h.h;omega⟩
class AF (ts:List (Nat×AT)) (i:Nat) (t:outParam AT):Prop where h:look ts i=some t
instance (priority:=1100) look_hit{ts:List (Nat×AT)}{i:Nat}{t:AT}:AF ((i,t)::ts) i t:=⟨by simp [look]⟩
instance aDM{ts:List (Nat×AT)}{i j:Nat}{t u:AT}[h1:EH j i][h2:AF ts i t]:AF ((j,u)::ts) i t:=⟨by rw [look,if_neg h1.h];exact h2.h⟩
class uE (u:AT) (t:outParam AT):Prop where h:u.bare=t
instance aEj{x:aO}:uE (.c x) (.c x):=⟨rfl⟩
instance aFs{x:List aO}:uE (.agg x) (.agg x):=⟨rfl⟩
instance aEF{x:List AT}:uE (.fd x) (.fd x):=⟨rfl⟩
instance aGQ{x:List aO}:uE (.el x) (.el x):=⟨rfl⟩
instance aDq{x:Value}:uE (.raw x) (.raw x):=⟨rfl⟩
instance aHK{t:AT}{p:World -> Prop}:uE (.ride t p) t:=⟨rfl⟩
instance aBY{t:AT}{a b c d:Nat}{x y:List aO}:uE (.fact (.fact t a b x) c d y) t:=⟨rfl⟩
class xJ (vs:List Value) (cs:outParam (List aO)):Prop where h:vs.all (·.oneCell')=true /\ vs.map .val=cs
instance aHf:xJ [] []:=⟨rfl,rfl⟩
class su (v:Value):Prop where h:v.oneCell'=true
instance aFE{k:IntKind}{i:Int}:su (.int k i):=⟨rfl⟩
instance aCx{b:Bool}:su (.bool b):=⟨rfl⟩
instance aBH{b:ByteArray}:su (.string b):=⟨rfl⟩
instance Zu{b:Option Addr}:su (.pointer b):=⟨rfl⟩
instance aCi{a:Option Addr}{m k:Nat}:su (.slice a m k):=⟨rfl⟩
instance aGi{f:Fn}{a b:Array Value}:su (.func f a b):=⟨rfl⟩
instance Z7:su .nilFunc:=⟨rfl⟩
instance aBN{v:Value}{vs:List Value}{cs:List aO}[h1:su v][h2:xJ vs cs]:xJ (v::vs) (.val v::cs):=⟨by simp only [Ah,h1.h,h2.h.1,Bool.and_self],by rw [ca,h2.h.2]⟩
class ry (v:Value) (t:outParam AT):Prop where h:gO v=t
instance aCD{k:IntKind}{i:Int}:ry (.int k i) (ap (.int k i)):=⟨rfl⟩
instance aD3{b:Bool}:ry (.bool b) (au b):=⟨rfl⟩
instance aDJ{b:ByteArray}:ry (.string b) (cK b):=⟨rfl⟩
instance aAW{b:Option Addr}:ry (.pointer b) (ap (.pointer b)):=⟨rfl⟩
instance aBC{a:Option Addr}{m k:Nat}:ry (.slice a m k) (ap (.slice a m k)):=⟨rfl⟩
instance aFY:ry .nilFunc (ap .nilFunc):=⟨rfl⟩
instance aGJ{vs:List Value}{cs:List aO}[h:xJ vs cs]:ry (.agg vs.toArray) (.agg cs):=⟨by
 show (if vs.toArray.toList.all (·.oneCell') then AT.agg (vs.toArray.toList.map .val) else .raw (.agg vs.toArray))=_
 rw [Gn,if_pos h.h.1,h.h.2]⟩
class gR (ts:List (Nat×AT)) (x:Operand) (t:outParam AT):Prop where h:∀n T s,aw ⟨n,T,s,ts⟩ x=some t
instance aDP{ts:List (Nat×AT)}{i:Nat}{u t:AT}[h1:AF ts i u][h2:uE u t]:gR ts (.tmp i) t:=⟨λn T s=>by show (look ts i).map AT.bare=_;rw [h1.h,o4,h2.h]⟩
instance aHT{ts:List (Nat×AT)}{v:Value}{t:AT}[h:ry v t]:gR ts (.const v) t:=⟨λn T s=>by show some (gO v)=_;rw [h.h]⟩
instance aDr{ts:List (Nat×AT)}{f:FuncId}:gR ts (.func f) (ap (.func (.func f) #[] #[])):=⟨λn T s=>rfl⟩
class tG (l:List Oper) (j:Nat) (t:outParam Nat):Prop where h:(l[j]?).bind (·.dst)=some t
instance aCc{t:Nat}{op:Op}{ty:TypeId}{pos:String}{af:Array Edge}{g:Option (Nat×Bool)}{l:List Oper}:tG (⟨some t,op,ty,pos,af,g⟩::l) 0 t:=⟨rfl⟩
instance aEO{t j:Nat}{o:Oper}{l:List Oper}[h:tG l j t]:tG (o::l) (j+1) t:=⟨CZ⟩
class xK (b want:Bool) (r:outParam Bool):Prop where h:(b == want)=r
instance aEu:xK true true true:=⟨rfl⟩
instance aDk:xK true false false:=⟨rfl⟩
instance aAY:xK false true false:=⟨rfl⟩
instance aFh:xK false false true:=⟨rfl⟩
class Hl (t:AT) (want:Bool) (r:outParam Bool):Prop where h:(match t with|.c (.val v)=>some (xZ want v)|.raw v=>some (xZ want v)|_=>none)=some r
instance aCT{b want r:Bool}[h:xK b want r]:Hl (au b) want r:=⟨by show some (b == want)=some r;rw [h.h]⟩
instance aAv{want:Bool}:Hl (.raw undef) want false:=⟨rfl⟩
class wN (l:List Oper) (ts:List (Nat×AT)) (g:Option (Nat×Bool)) (r:outParam Bool):Prop where h:∀n T s (o:Oper),o.guard=g -> d6 l.toArray o ⟨n,T,s,ts⟩=some r
instance aFu{l:List Oper}{ts:List (Nat×AT)}:wN l ts none true:=⟨λn T s o h=>by unfold d6;rw [h]⟩
instance aFS{l:List Oper}{ts:List (Nat×AT)}{j t:Nat}{want r:Bool}{u:AT}[h1:tG l j t][h2:AF ts t u][h3:Hl u want r]:wN l ts (some (j,want)) r:=⟨λn T s o h=>by
 unfold d6;rw [h];dsimp only;rw [h1.h];dsimp only;rw [h2.h];have h4:=h3.h
 revert h4
 cases u with
 |c x=>cases x with
  |val v=>exact id
  |sl _ _=>exact id
 |raw v=>exact id
 |_=>exact id⟩
class lc (P:Program) (U:List Nat) (op:Op) (n:Nat) (T:List Nat) (s:aH) (ts:List (Nat×AT)) (t:outParam AT):Prop where h:∀o:Oper,o.op=op -> cp P U o ⟨n,T,s,ts⟩ t
class CS (r:Bool) (P:Program) (U:List Nat) (op:Op) (n:Nat) (T:List Nat) (s:aH) (ts:List (Nat×AT)) (t:outParam AT):Prop where h:(r=true -> ∀o:Oper,o.op=op -> cp P U o ⟨n,T,s,ts⟩ t) /\ (r=false -> t=.raw undef)
section
variable {P:Program}{U T:List Nat}{n:Nat}{s:aH}{ts:List (Nat×AT)}{t u:AT}
instance stepT{op:Op}[h:lc P U op n T s ts t]:CS true P U op n T s ts t:=⟨λ_=>h.h,(λh=>gQ)⟩
instance aBP{op:Op}:CS false P U op n T s ts (.raw undef):=⟨(λh=>gQ),λ_=>rfl⟩
instance aHW{x:Operand}[h:gR ts x t]:lc P U (.move x) n T s ts t:=⟨λo ho=>oh ho (h.h _ _ _)⟩
instance aAl{x:Operand}[h:gR ts x t]:lc P U (.assign x) n T s ts t:=⟨λo ho=>Ag ho (h.h _ _ _)⟩
instance aGb{c x y:Operand}[hc:gR ts c (au true)][h:gR ts x t]:lc P U (.pick c x y) n T s ts t:=⟨λo ho=>N4 (b:=true) ho (hc.h _ _ _) (h.h _ _ _)⟩
instance aBM{c x y:Operand}[hc:gR ts c (au false)][h:gR ts y t]:lc P U (.pick c x y) n T s ts t:=⟨λo ho=>N4 (b:=false) ho (hc.h _ _ _) (h.h _ _ _)⟩
end
class iA (cs:List aO) (z:Nat):Prop where h:cs.length=z
instance aFl:iA [] 0:=⟨rfl⟩
instance aGu{c:aO}{cs:List aO}{k:Nat}[h:iA cs k]:iA (c::cs) (k+1):=⟨by rw [length_cons,h.h]⟩
instance Zz{x:aS}:iA (bV x) 4:=⟨fw x⟩
instance aHd{x:aS}:iA (bf x) 4:=⟨rfl⟩
instance aFL{x:cD}:iA (encR x) 2:=⟨rfl⟩
instance aAa{x:bq}:iA (cg x) 7:=⟨rfl⟩
instance aBe{x:aD}:iA (encS x) 11:=⟨kS x⟩
instance aGX{x:aD}:iA (cm x) 11:=⟨rfl⟩
instance aFO{x:bg}:iA (cE x) 2:=⟨rfl⟩
instance aGZ{x:a_}:iA (bT x) 3:=⟨rfl⟩
instance aDC{x:bw}:iA (cR x) 2:=⟨rfl⟩
instance aCC{x:cn}:iA (bB x) 3:=⟨rfl⟩
instance aG6{x:aX}:iA (di x) 3:=⟨rfl⟩
instance aCR{x:Tok}:iA (da x) 4:=⟨rfl⟩
class h_ (cs:List aO) (ds:outParam (List aO)):Prop where h:cs=ds
instance aGS:h_ [] []:=⟨rfl⟩
instance aBB{c:aO}{cs:List aO}:h_ (c::cs) (c::cs):=⟨rfl⟩
instance aD9{x:aS}:h_ (bV x) [aA x.op,aA x.num,ac x.name,aG bV x.args]:=⟨yA x⟩
instance aBZ{x:aS}:h_ (bf x) [aA x.op,aA x.num,ac x.name,aG bV x.args]:=⟨rfl⟩
instance aEq{r:cD}:h_ (encR r) [ac r.name,aG bV r.index]:=⟨rfl⟩
instance aCz{a:bq}:h_ (cg a) [bD a.mutex,ac a.ref.name,aG bV a.ref.index,aA a.expr.op,aA a.expr.num,ac a.expr.name,aG bV a.expr.args]:=⟨rfl⟩
instance aEz{x:aD}:h_ (encS x) [aA x.kind,ac x.name,aA x.expr.op,aA x.expr.num,ac x.expr.name,aG bV x.expr.args,ac x.ref.name,aG bV x.ref.index,aG cg x.args,aG encS x.thn,aG encS x.els]:=⟨EF x⟩
instance aHn{x:aD}:h_ (cm x) [aA x.kind,ac x.name,aA x.expr.op,aA x.expr.num,ac x.expr.name,aG bV x.expr.args,ac x.ref.name,aG bV x.ref.index,aG cg x.args,aG encS x.thn,aG encS x.els]:=⟨rfl⟩
instance aCL{p:bg}:h_ (cE p) [ac p.name,bD p.mutex]:=⟨rfl⟩
instance aDu{f:a_}:h_ (bT f) [ac f.name,aG cE f.params,aG encS f.body]:=⟨rfl⟩
instance aHC{g:bw}:h_ (cR g) [ac g.name,aA g.init]:=⟨rfl⟩
instance aBS{m:cn}:h_ (bB m) [ac m.name,bD m.ex,aA m.size]:=⟨rfl⟩
instance aFq{p:aX}:h_ (di p) [aG cR p.globals,aG bB p.mutexes,aG bT p.funcs]:=⟨rfl⟩
instance aFn{t:Tok}:h_ (da t) [aA t.kind,ac t.text,aA t.num,aA t.pos]:=⟨rfl⟩
instance aDt{vs:List Value}{cs:List aO}[h:xJ vs cs]:h_ (List.map aO.val (List.toArray vs).toList) cs:=⟨by rw [Gn];exact h.h.2⟩
instance aGj{vs:List Value}{cs:List aO}{z:Nat}[h:xJ vs cs][h2:iA cs z]:iA (List.map aO.val (List.toArray vs).toList) z:=⟨by rw [Gn,h.h.2];exact h2.h⟩
class BG (cs:List aO) (i:Nat) (c:aO) (r:outParam (List aO)):Prop where h:cs.set i c=r
instance aFk{c d:aO}{cs:List aO}:BG (d::cs) 0 c (c::cs):=⟨rfl⟩
instance aB7{c d:aO}{cs r:List aO}{i:Nat}[h:BG cs i c r]:BG (d::cs) (i+1) c (d::r):=⟨by rw [ym,h.h]⟩
instance aAr{cs cs' r:List aO}{i:Nat}{c:aO}[h:h_ cs cs'][h2:BG cs' i c r]:h_ (cs.set i c) r:=⟨by rw [h.h,h2.h]⟩
instance aDv{cs:List aO}{i z:Nat}{c:aO}[h:iA cs z]:iA (cs.set i c) z:=⟨by rw [List.length_set,h.h]⟩
instance aGL{cs ds R:List aO}[h:h_ cs ds]:h_ (cs++R) (ds++R):=⟨by rw [h.h]⟩
class xb (cs:List aO) (z:Nat) (ds:outParam (List aO)):Prop where h:cs.take z=ds /\ z <= cs.length
instance aFU{cs:List aO}:xb cs 0 []:=⟨aM⟩
instance aDd{c:aO}{cs ds:List aO}{z:Nat}[h:xb cs z ds]:xb (c::cs) (z+1) (c::ds):=⟨by simp [h.h.1,h.h.2]⟩
instance aBt{cs R ds:List aO}{z:Nat}[h:xb cs z ds]:xb (cs++R) z ds:=⟨by rw [IQ h.h.2,length_append];exact ⟨h.h.1,by have:=h.h.2;omega⟩⟩
class uD (cs:List aO) (o:Nat) (ds:outParam (List aO)):Prop where h:cs.drop o=ds /\ o <= cs.length
instance aGc{cs:List aO}:uD cs 0 cs:=⟨aM⟩
instance aHA{c:aO}{cs ds:List aO}{o:Nat}[h:uD cs o ds]:uD (c::cs) (o+1) ds:=⟨by simp [h.h.1,h.h.2]⟩
instance aGU{cs ds R:List aO}{o:Nat}[h:uD cs o ds]:uD (cs++R) o (ds++R):=⟨by
 refine ⟨?_,by have:=h.h.2;simp;omega⟩;rw [E4 h.h.2,h.h.1]⟩
class uS (ag:Bool) (z:Nat) (cs:List aO) (off:Nat) (t:outParam AT):Prop where h:fi ag z cs off=some t
instance (priority:=1200) pkN_whole{cs:List aO}{z:Nat}[h:iA cs z]:uS true z cs 0 (.agg cs):=⟨cG h.h rfl⟩
instance (priority:=1100) pkN_head{cs R:List aO}{z:Nat}[h:iA cs z]:uS true z (cs++R) 0 (.agg cs):=⟨Tk h.h rfl⟩
instance aCp{cs cs' c2 ds:List aO}{z off:Nat}[h1:h_ cs cs'][h2:uD cs' off c2][h3:xb c2 z ds]:uS true z cs off (.agg ds):=⟨by
 rw [h1.h];unfold fi;rw [if_pos rfl,if_pos,h2.h.1,h3.h.1];have ae:=h3.h.2;rw [←h2.h.1,kA] at ae;have e2:=h2.h.2;omega⟩
class Ez (cs:List aO) (c:outParam aO):Prop where h:cs[0]?=some c
instance aDI{c:aO}{cs:List aO}:Ez (c::cs) c:=⟨rfl⟩
instance aBR{c:aO}{cs R:List aO}:Ez (c::cs++R) c:=⟨rfl⟩
instance aAq{cs cs' c2:List aO}{z off:Nat}{c:aO}[h1:h_ cs cs'][h2:uD cs' off c2][h3:Ez c2 c]:uS false z cs off (.c c):=⟨by
 rw [h1.h];unfold fi;rw [if_neg aM];have e3:=h3.h;rw [←h2.h.1,rK] at e3;rw [ui] at e3;rw [e3];rfl⟩
class wU (cs:List aO) (off:Nat) (ds:List aO) (r:outParam (List aO)):Prop where h:splice cs off ds=r /\ off+ds.length <= cs.length
instance aDc{cs:List aO}:wU cs 0 [] cs:=⟨by simp [splice]⟩
instance aHG{c d:aO}{cs ds r:List aO}[h:wU cs 0 ds r]:wU (c::cs) 0 (d::ds) (d::r):=⟨by
 have e:=h.h;refine ⟨?_,by have:=e.2;simp at this⊢;omega⟩;have ae:=e.1;unfold splice at ae⊢;simp at ae⊢;exact ae⟩
instance aGF{c:aO}{cs ds r:List aO}{o:Nat}[h:wU cs o ds r]:wU (c::cs) (o+1) ds (c::r):=⟨by
 have e:=h.h;refine ⟨?_,by have:=e.2;simp at this⊢;omega⟩;have ae:=e.1;unfold splice at ae⊢;rw [show o+1+ds.length=(o+ds.length)+1 by omega];simp only [jb,List.drop_succ_cons,eE,ae]⟩
class wy (cs:List aO) (off:Nat) (ds:List aO) (z:Nat) (r:outParam (List aO)):Prop where h:splice cs off ds=r /\ off+z <= cs.length /\ ds.length=z
instance (priority:=1200) spl_all{cs ds:List aO}{z:Nat}[h1:iA cs z][h2:iA ds z]:wy cs 0 ds z ds:=⟨Bh (by rw [h1.h,h2.h]),by rw [h1.h];omega,h2.h⟩
instance aFj{cs cs' ds ds' r:List aO}{off z:Nat}[h1:h_ cs cs'][h2:h_ ds ds'][h3:iA ds' z][h4:wU cs' off ds' r]:wy cs off ds z r:=⟨by
 rw [h1.h,h2.h];have e:=h4.h;have e2:=h3.h;exact ⟨e.1,Y,e2⟩⟩
class dB (P:Program) (t:TypeId) (ag:outParam Bool) (z:outParam Nat):Prop where h:(∀w,(isAgg t).run P w=.ok ag w) /\ ∀w,(sizeOf t).run P w=.ok z w
class cZ (P:Program) (t:TypeId) (f:Nat) (off:outParam Nat) (ft:outParam TypeId):Prop where h:∃fs,(∀w,(underlying t).run P w=.ok (.struct fs) w) /\ uK fs f=some (off,ft)
class ln (P:Program) (t:TypeId) (e:outParam TypeId):Prop where h:∀w,(underlying t).run P w=.ok (.slice e) w
class Nj (P:Program) (t:TypeId):Prop where h:∀w,(underlying t).run P w=.ok .string w
class d4 (P:Program) (t:TypeId) (cs:outParam (List aO)):Prop where h:∃z,(∀w,(zeroValue t).run P w=.ok z w) /\ kc (gO z)=some cs
class ej (p o:Nat) (q:outParam Nat):Prop where h:p+o=q
instance (priority:=1100) addN_0{o:Nat}:ej 0 o o:=⟨cq o⟩
instance aFR{p:Nat}:ej p 0 p:=⟨rfl⟩
class lx (bx:List aV) (b:Nat) (A:outParam (List aV)) (T:outParam TypeId) (cs:outParam (List aO)) (B:outParam (List aV)):Prop where h:bx=A++⟨b,T,cs⟩::B
instance (priority:=1100) boxIn_hit{b:Nat}{T:TypeId}{cs:List aO}{B:List aV}:lx (⟨b,T,cs⟩::B) b [] T cs B:=⟨rfl⟩
instance aCb{x:aV}{bx A B:List aV}{b:Nat}{T:TypeId}{cs:List aO}[h:lx bx b A T cs B]:lx (x::bx) b (x::A) T cs B:=⟨by rw [h.h];rfl⟩
instance aF7{A0 bx B:List aV}{x:aV}{b:Nat}{T:TypeId}{cs:List aO}[h:lx (x::bx) b [] T cs B]:lx (A0++x::bx) b A0 T cs B:=⟨by rw [h.h];rfl⟩
instance (priority:=1200) boxIn_capp{x:aV}{A1 R A B:List aV}{b:Nat}{T:TypeId}{cs:List aO}[h:lx (x::(A1++R)) b A T cs B]:lx (x::A1++R) b A T cs B:=⟨h.h⟩
instance (priority:=1200) boxIn_napp{R A B:List aV}{b:Nat}{T:TypeId}{cs:List aO}[h:lx R b A T cs B]:lx ([]++R) b A T cs B:=⟨h.h⟩
instance (priority:=1200) boxIn_napp2{R A B:List aV}{b:Nat}{T:TypeId}{cs:List aO}[h:lx R b A T cs B]:lx (List.append [] R) b A T cs B:=⟨h.h⟩
class rL (A ds:List aV) (r:outParam (List aV)):Prop where h:A++ds=r
instance (priority:=1100) appL_nil{ds:List aV}:rL [] ds ds:=⟨rfl⟩
instance (priority:=1100) appL_cons{x:aV}{A ds r:List aV}[h:rL A ds r]:rL (x::A) ds (x::r):=⟨by rw [eE,h.h]⟩
instance aBn{A ds:List aV}:rL A ds (A++ds):=⟨rfl⟩
class pS (b:Nat) (T:List Nat):Prop where h:b∈T
instance (priority:=1100) inL_hit{b:Nat}{T:List Nat}:pS b (b::T):=⟨aM⟩
instance aHL{b x:Nat}{T:List Nat}[h:pS b T]:pS b (x::T):=⟨d_ _ h.h⟩
instance aBg{b:Nat}{X T:List Nat}[h:pS b T]:pS b (X++T):=⟨gz _ h.h⟩
instance aFV{b:Nat}{X T:List Nat}[h:pS b X]:pS b (X++T):=⟨gW _ h.h⟩
class H_ (b:Nat) (U:List Nat):Prop where h:b∉U
instance aBq{b:Nat}:H_ b []:=⟨aM⟩
instance aAg{b:Nat}{s:aH}{Z:List Nat}[h:pS b Z]:H_ b (fq s Z):=⟨λhm=>(gZ.1 hm).2 h.h⟩
class mR (bx:List aV) (b:Nat):Prop where h:b∈bx.map aV.b
instance (priority:=1100) bIn_hit{b:Nat}{T:TypeId}{cs:List aO}{B:List aV}:mR (⟨b,T,cs⟩::B) b:=⟨aM⟩
instance aBh{x:aV}{bx:List aV}{b:Nat}[h:mR bx b]:mR (x::bx) b:=⟨by rw [ca];exact d_ _ h.h⟩
instance aDH{A bx:List aV}{b:Nat}[h:mR bx b]:mR (A++bx) b:=⟨by rw [e1];exact gz _ h.h⟩
instance (priority:=1200) bIn_capp{x:aV}{A R:List aV}{b:Nat}[h:mR (x::(A++R)) b]:mR (x::A++R) b:=⟨h.h⟩
instance (priority:=1200) bIn_napp{R:List aV}{b:Nat}[h:mR R b]:mR ([]++R) b:=⟨h.h⟩
instance (priority:=1200) bIn_napp2{R:List aV}{b:Nat}[h:mR R b]:mR (List.append [] R) b:=⟨h.h⟩
class nw (bx:List aV) (b z:Nat):Prop where h:(bx.map aV.b).Nodup -> b≠z
instance (priority:=1100) bNe_1{b z:Nat}{T:TypeId}{cs:List aO}{B:List aV}[h:mR B z]:nw (⟨b,T,cs⟩::B) b z:=⟨λhn he=>N9⟩
instance (priority:=1100) bNe_2{b z:Nat}{T:TypeId}{cs:List aO}{B:List aV}[h:mR B b]:nw (⟨z,T,cs⟩::B) b z:=⟨λhn he=>N9⟩
instance aEe{x:aV}{bx:List aV}{b z:Nat}[h:nw bx b z]:nw (x::bx) b z:=⟨λhn=>h.h (by rw [ca,mu] at hn;exact hn.2)⟩
instance aC8{A bx:List aV}{b z:Nat}[h:nw bx b z]:nw (A++bx) b z:=⟨λhn=>h.h (by rw [e1] at hn;exact (eF.1 hn).2.1)⟩
instance (priority:=1200) bNe_capp{x:aV}{A R:List aV}{b z:Nat}[h:nw (x::(A++R)) b z]:nw (x::A++R) b z:=⟨h.h⟩
instance (priority:=1200) bNe_napp{R:List aV}{b z:Nat}[h:nw R b z]:nw ([]++R) b z:=⟨h.h⟩
instance (priority:=1200) bNe_napp2{R:List aV}{b z:Nat}[h:nw R b z]:nw (List.append [] R) b z:=⟨h.h⟩
class zT (bx:List aV) (b:Nat) (Z:List Nat):Prop where h:(bx.map aV.b).Nodup -> b∉Z
instance Zx{bx:List aV}{b:Nat}:zT bx b []:=⟨λ_=>aM⟩
instance aBx{bx:List aV}{b z:Nat}{Z:List Nat}[h1:nw bx b z][h2:zT bx b Z]:zT bx b (z::Z):=⟨λhn hm=>by rcases mem_cons.1 hm with e|e;exact h1.h hn e;exact h2.h hn e⟩
class zS (bx:List aV) (rw:List aQ) (T U:List Nat) (b:Nat):Prop where h:b∈T /\ ((⟨bx,rw⟩:aH).bl.Nodup -> b∈U)
instance aAp{bx:List aV}{rw:List aQ}{T:List Nat}{b:Nat}[h:pS b T]:zS bx rw T T b:=⟨h.h,λ_=>h.h⟩
instance aHN{bx:List aV}{rw:List aQ}{T Z:List Nat}{b:Nat}[h:pS b T][h2:mR bx b][h3:zT bx b Z]:zS bx rw T (fq ⟨bx,rw⟩ Z) b:=⟨h.h,λhn=>gZ.2 ⟨gW _ h2.h,h3.h (eF.1 hn).1⟩⟩
class sb (t:AT) (cs:outParam (List aO)):Prop where h:kc t=some cs
instance Zr{x:aO}:sb (.c x) [x]:=⟨rfl⟩
instance aFf{cs:List aO}:sb (.agg cs) cs:=⟨rfl⟩
section
variable {P:Program}{U T:List Nat}{n:Nat}{s:aH}{bx A B:List aV}{rw:List aQ}{ts:List (Nat×AT)}{t u:AT}{x y:Operand}
instance aFd{b r:Bool}[h:gR ts x (au b)][h2:xK b false r]{E:TypeId}:lc P U (.unOp .not E x) n T s ts (au r):=⟨λo ho=>by
 have e:r=!b:=by have:=h2.h;cases b<;>cases r<;>simp_all
 rw [e];exact jK ho (h.h _ _ _)⟩
instance aCM{b off:Nat}[h:gR ts x (ap (.pointer (some ⟨b,off,none⟩)))]:lc P U (.nilCheck x) n T s ts (ap (.pointer (some ⟨b,off,none⟩))):=⟨λo ho=>TM ho (h.h _ _ _)⟩
instance aGd{cs:List aO}[h:gR ts x (.el cs)]:lc P U (.nilCheck x) n T s ts (.el cs):=⟨λo ho=>Zh ho (h.h _ _ _)⟩
instance aEc{E ft:TypeId}{f b p off q z:Nat}{ag:Bool}[h:gR ts x (ap (.pointer (some ⟨b,p,none⟩)))][hf:cZ P E f off ft][hz:dB P ft ag z][h0:pU 0 z][hq:ej p off q]:lc P U (.fieldAddr E x f) n T s ts (ap (.pointer (some ⟨b,q,none⟩))):=⟨λo ho=>by
 obtain ⟨fs,h1,h2⟩:=hf.h;exact jX (ho:=ho) (hx:=h.h _ _ _) (hf:=h2) (hz:=by have:=h0.h;omega) (hq:=hq.h) off q h1 hz.h.2⟩
instance aA5{E ft:TypeId}{f off z:Nat}{cs cs' ds:List aO}{ag:Bool}[h:gR ts x (.el cs)][hf:cZ P E f off ft][hz:dB P ft ag z][h0:pU 0 z][hc:h_ cs cs'][hd:uD cs' off ds]:lc P U (.fieldAddr E x f) n T s ts (.el ds):=⟨λo ho=>by
 obtain ⟨fs,h1,h2⟩:=hf.h;have:=Tg (P:=P) (U:=U) off ho (h.h n T s) h1 h2 hz.h.2 (by have:=h0.h;omega);rw [hc.h,hd.h.1] at this;exact this⟩
instance aFW{E ft:TypeId}{f off z:Nat}{cs:List aO}{ag:Bool}[h:gR ts x (.agg cs)][hf:cZ P E f off ft][hz:dB P ft ag z][hp:uS ag z cs off t]:lc P U (.field E x f) n T s ts t:=⟨λo ho=>by
 obtain ⟨fs,h1,h2⟩:=hf.h;exact W3 off ho (h.h _ _ _) h1 h2 hz.h.1 hz.h.2 hp.h⟩
instance aDa{E T0:TypeId}{b off z:Nat}{cs:List aO}{ag:Bool}{A B:List aV}[h:gR ts x (ap (.pointer (some ⟨b,off,none⟩)))][hb:lx bx b A T0 cs B][hz:dB P E ag z][hp:uS ag z cs off t][hu:H_ b U]:lc P U (.load E x) n T ⟨bx,rw⟩ ts t:=⟨λo ho=>cW (ho:=ho) (hx:=h.h _ _ _) (hb:=hb.h) (hp:=hp.h) (hU:=λ_=>hu.h) A hz.h.1 hz.h.2⟩
instance aF0{E:TypeId}{z:Nat}{cs:List aO}{ag:Bool}[h:gR ts x (.el cs)][hz:dB P E ag z][hp:uS ag z cs 0 t]:lc P U (.load E x) n T s ts t:=⟨λo ho=>kh ho (h.h _ _ _) hz.h.1 hz.h.2 hp.h⟩
class D_ (l:List AT) (k:Nat) (t:outParam AT):Prop where h:l[k]?=some t
instance aE9{t:AT}{l:List AT}:D_ (t::l) 0 t:=⟨rfl⟩
instance aAL{t u:AT}{l:List AT}{k:Nat}[h:D_ l k t]:D_ (u::l) (k+1) t:=⟨CZ⟩
instance aG0{k:Nat}{us:List AT}[h:gR ts x (.fd us)][h2:D_ us k t]:lc P U (.extract x k) n T s ts t:=⟨λo ho=>Vp ho (h.h _ _ _) h2.h⟩
instance aFt{E e:TypeId}{m:Nat}{cs:List aO}[h:gR ts x (.c (.sl m cs))][hu:ln P E e]:lc P U (.call {callee:=.builtin .len,args:=#[x],argTypes:=#[E]}) n T s ts (ab m):=⟨λo ho=>X0 ho (h.h _ _ _) hu.h⟩
instance aGv{E e:TypeId}{m k:Nat}{p:Option Addr}[h:gR ts x (ap (.slice p m k))][hu:ln P E e]:lc P U (.call {callee:=.builtin .len,args:=#[x],argTypes:=#[E]}) n T s ts (ab m):=⟨λo ho=>Ss ho (h.h _ _ _) hu.h⟩
instance aEr{E:TypeId}{b:ByteArray}[h:gR ts x (cK b)][hu:Nj P E]:lc P U (.call {callee:=.builtin .len,args:=#[x],argTypes:=#[E]}) n T s ts (ab b.size):=⟨λo ho=>Sq ho (h.h _ _ _) hu.h⟩
end
class Bb (ts:List (Nat×AT)) (ps:List (Nat×Operand)) (us:outParam (List (Nat×AT))):Prop where h:∀n T s,pX ⟨n,T,s,ts⟩ ps us
instance aEd{ts:List (Nat×AT)}:Bb ts [] []:=⟨λ_ _ _=>.nil⟩
instance aGe{ts:List (Nat×AT)}{i:Nat}{x:Operand}{ps:List (Nat×Operand)}{t:AT}{us:List (Nat×AT)}[h1:gR ts x t][h2:Bb ts ps us]:Bb ts ((i,x)::ps) ((i,t)::us):=⟨λn T s=>.cons (h1.h n T s) (h2.h n T s)⟩
class ic (P:Program) (E:TypeId) (pl:outParam (List (Nat×Nat))) (zc:outParam (List aO)):Prop where h:∃(fs:Array Field) (i:TypeInfo) (z:Value),P.underlying E=some (.struct fs) /\ P.info? E=some i /\ i.zero=some z /\ fs.toList.mapM (λf=>(P.info? f.type).map λi=>(f.offset,i.size))=some pl /\ kc (gO z)=some zc
class DL (l:List (Nat×Nat)) (k:Nat) (p:outParam (Nat×Nat)):Prop where h:l[k]?=some p
instance aGO{t:Nat×Nat}{l:List (Nat×Nat)}:DL (t::l) 0 t:=⟨rfl⟩
instance aFb{t u:Nat×Nat}{l:List (Nat×Nat)}{k:Nat}[h:DL l k t]:DL (u::l) (k+1) t:=⟨CZ⟩
class Bm (pl:List (Nat×Nat)) (zc:List aO) (us:List (Nat×AT)) (r:outParam (List aO)):Prop where h:nV (pl.toArray[·]?) zc us=some r
instance aCk{pl:List (Nat×Nat)}{zc:List aO}:Bm pl zc [] zc:=⟨rfl⟩
instance aAC{pl:List (Nat×Nat)}{zc c1 r ds:List aO}{i off z:Nat}{t:AT}{us:List (Nat×AT)}[h1:DL pl i (off,z)][h2:sb t ds][h3:wy zc off ds z c1][h4:Bm pl c1 us r]:Bm pl zc ((i,t)::us) r:=⟨by
 have ae:=h1.h;have e:pl.toArray[i]?=some (off,z):=by rw [Fs];exact ae
 rw [nV,e,h2.h];dsimp only;rw [if_pos ⟨h3.h.2.2,h3.h.2.1⟩,h3.h.1];exact h4.h⟩
instance aG4{P:Program}{U T:List Nat}{n:Nat}{s:aH}{ts:List (Nat×AT)}{E:TypeId}{ps:List (Nat×Operand)}{us:List (Nat×AT)}{pl:List (Nat×Nat)}{zc r:List aO}[h1:Bb ts ps us][h2:ic P E pl zc][h3:Bm pl zc us r]:lc P U (.build E ps.toArray) n T s ts (.agg r):=⟨λo ho=>by
 obtain ⟨fs,i,z,ae,e2,e3,e4,e5⟩:=h2.h;exact yf i pl ho (h1.h _ _ _) ae e2 e3 e4 e5 h3.h⟩
section
variable {P:Program}{U T:List Nat}{n:Nat}{s:aH}{ts:List (Nat×AT)}{t u:AT}{Q:Exit -> AS -> Prop}{g:Prop}{K:AS -> Prop}{st:AS}{N:Nat}
instance aGR{x y:Code}[h:dt N (bi P x st (lH (λs=>bi P y s Q) Q)) g]:dt (N+1) (bi P (.seq x y) st Q) g:=⟨λk=>yy (h.out k)⟩
instance aAh{id:Nat}{l:List Oper}[h:dt N (cN P l.toArray l st Q) g]:dt (N+1) (bi P (.region id l.toArray false) st Q) g:=⟨λk=>O2 (h.out k)⟩
instance aAu{id:Nat}{c:Code}[h:dt N (bi P c st (rQ id Q)) g]:dt (N+1) (bi P (.block id c) st Q) g:=⟨λk=>XX (h.out k)⟩
instance aBs{id:Nat}[h:dt N (Q (.exit id) st) g]:dt (N+1) (bi P (.exit id) st Q) g:=⟨λk=>Y0 (h.out k)⟩
instance aHQ[h:dt N (Q .ret st) g]:dt (N+1) (bi P .ret st Q) g:=⟨λk=>WL (h.out k)⟩
instance aHi[h:dt N (Q .normal st) g]:dt (N+1) (bi P .skip st Q) g:=⟨λk=>Xv (h.out k)⟩
instance Zs{c:Operand}{x y:Code}[hc:gR ts c (au true)][h:dt N (bi P x ⟨n,T,s,ts⟩ Q) g]:dt (N+1) (bi P (.cond c x y) ⟨n,T,s,ts⟩ Q) g:=⟨λk=>rR (hc.h _ _ _) rfl (h.out k)⟩
instance aFw{c:Operand}{x y:Code}[hc:gR ts c (au false)][h:dt N (bi P y ⟨n,T,s,ts⟩ Q) g]:dt (N+1) (bi P (.cond c x y) ⟨n,T,s,ts⟩ Q) g:=⟨λk=>UB (hc.h _ _ _) rfl (h.out k)⟩
instance aDO[h:dt N (K st) g]:dt (N+1) (lH K Q .normal st) g:=⟨λk=>h.out k⟩
instance aBm[h:dt N (Q .ret st) g]:dt (N+1) (lH K Q .ret st) g:=⟨λk=>h.out k⟩
instance aAc{id:Nat}[h:dt N (Q (.exit id) st) g]:dt (N+1) (lH K Q (.exit id) st) g:=⟨λk=>h.out k⟩
instance aCa{id:Nat}[h:dt N (Q .normal st) g]:dt (N+1) (rQ id Q .normal st) g:=⟨λk=>h.out k⟩
instance aC5{id:Nat}[h:dt N (Q .ret st) g]:dt (N+1) (rQ id Q .ret st) g:=⟨λk=>h.out k⟩
instance (priority:=1100) g_inE{id:Nat}[h:dt N (Q .normal st) g]:dt (N+1) (rQ id Q (.exit id) st) g:=⟨λk=>X7 (h.out k)⟩
instance aG7{id id':Nat}[hn:EH id' id][h:dt N (Q (.exit id') st) g]:dt (N+1) (rQ id Q (.exit id') st) g:=⟨λk=>Tl hn.h (h.out k)⟩
instance aCG{ops:Array Oper}[h:dt N (Q .normal st) g]:dt (N+1) (cN P ops [] st Q) g:=⟨λk=>My (h.out k)⟩
instance aBI{l0 l:List Oper}{d:Nat}{op:Op}{ty:TypeId}{pos:String}{af:Array Edge}{gd:Option (Nat×Bool)}{r:Bool}[h1:wN l0 ts gd r][h2:CS r P [] op n T s ts t][h3:pU d n][h:dt N (cN P l0.toArray l ⟨n,T,s,(d,t)::ts⟩ Q) g]:dt (N+1) (cN P l0.toArray (⟨some d,op,ty,pos,af,gd⟩::l) ⟨n,T,s,ts⟩ Q) g:=⟨λk=>by
 cases r with
 |true=>exact Ct (h1.h _ _ _ _ rfl) rfl h3.h (h2.h.1 rfl _ rfl) (h.out k)
 |false=>obtain rfl:=h2.h.2 rfl;exact ZS (h1.h _ _ _ _ rfl) rfl h3.h (h.out k)⟩
instance aEw{l0 l:List Oper}{d:Nat}{E:TypeId}{ty:TypeId}{pos:String}{af:Array Edge}{cs:List aO}{bx:List aV}{rw:List aQ}{G:Nat -> Prop}[h1:d4 P E cs][h3:pU d n][h:∀b,dt N (cN P l0.toArray l ⟨n,b::T,⟨⟨b,E,cs⟩::bx,rw⟩,(d,aE b)::ts⟩ Q) (G b)]:dt (N+1) (cN P l0.toArray (⟨some d,.alloc E,ty,pos,af,none⟩::l) ⟨n,T,⟨bx,rw⟩,ts⟩ Q) (∀b,G b):=⟨λk=>by
 obtain ⟨z,ae,e2⟩:=h1.h;exact aW J (iz J J h3.h ae e2 λb=>(h b).out (k b))⟩
instance aDl{l0 l:List Oper}{d:Nat}{E:TypeId}{x:Operand}{ty:TypeId}{pos:String}{af:Array Edge}{cs:List aO}{bx:List aV}{rw:List aQ}{G:Nat -> Prop}[h1:gR ts x t][h2:sb t cs][h3:pU d n][h:∀b,dt N (cN P l0.toArray l ⟨n,b::T,⟨⟨b,E,cs⟩::bx,rw⟩,(d,aE b)::ts⟩ Q) (G b)]:dt (N+1) (cN P l0.toArray (⟨some d,.box E x,ty,pos,af,none⟩::l) ⟨n,T,⟨bx,rw⟩,ts⟩ Q) (∀b,G b):=⟨λk=>aW rfl (Pf rfl rfl h3.h (h1.h _ _ _) h2.h λb=>(h b).out (k b))⟩
instance aF4{l0 l:List Oper}{E T0:TypeId}{x y:Operand}{ty:TypeId}{pos:String}{af:Array Edge}{gd:Option (Nat×Bool)}{b off z:Nat}{cs ds r:List aO}{ag:Bool}{bx A B:List aV}{rw:List aQ}[h0:wN l0 ts gd true][h1:gR ts x (ap (.pointer (some ⟨b,off,none⟩)))][h2:gR ts y t][h3:sb t ds][h4:lx bx b A T0 cs B][h5:dB P E ag z][h6:wy cs off ds z r]{bx2:List aV}[h7:zS bx rw T T b][h8:rL A (⟨b,T0,r⟩::B) bx2][h:dt N (cN P l0.toArray l ⟨n,T,⟨bx2,rw⟩,ts⟩ Q) g]:dt (N+1) (cN P l0.toArray (⟨none,.store E x y,ty,pos,af,gd⟩::l) ⟨n,T,⟨bx,rw⟩,ts⟩ Q) g:=⟨λk=>
 aW (h0.h _ _ _ _ rfl) (Co A rfl rfl (h1.h _ _ _) (h2.h _ _ _) h3.h h4.h h5.h.2 h6.h.2.2 h6.h.2.1 h6.h.1 h7.h.1 h7.h.2 JS)⟩
end
def mX(P:Program)(ops:Array Oper)(Z:List Nat):List (Nat×Bool) -> AS -> (AS -> Prop) -> Prop
 |[],st,K=>K st
 |(i,true)::r,st,K=>∃o d,ops.toList[i]?=some o /\ o.dst=some d /\ d<st.n /\ ((∃t,d6 ops o st=some true /\ cp P (fq st.s Z) o st t /\ mX P ops Z r {st with ts:=(d,t)::st.ts} K)∨(d6 ops o st=some false /\ mX P ops Z r {st with ts:=(d,.raw undef)::st.ts} K))
 |(i,false)::r,st,K=>∃o,ops.toList[i]?=some o /\ d6 ops o st=some true /\ db P (fq st.s Z) o st λs=>mX P ops Z r s K
def tB(ops:Array Oper):Array Bool -> List (Nat×Bool) -> Bool
 |_,[]=>true
 |L,(i,true)::r=>(Region.ready .any ops L).contains i && Region.free .any ops L i && tB ops (L.setIfInBounds i true) r
 |L,(i,false)::r=>decide (Region.ready .any ops L=[i]) && tB ops (L.setIfInBounds i true) r
def Ac:Array Bool -> List (Nat×Bool) -> Array Bool
 |L,[]=>L
 |L,(i,_)::r=>Ac (L.setIfInBounds i true) r
def Ay{P:Program}{ops:Array Oper}{Z:List Nat}{Q:AS -> Prop}(hsel:Region.noSelect ops=true)(F:Nat):∀(run:List (Nat×Bool)) (listed:Array Bool) (st:AS),tB ops listed run=true -> mX P ops Z run st (λst'=>dq P ops Z F (Ac listed run) st' Q) -> dq P ops Z (F+run.length) listed st Q
 |[],_,_,_,h=>h
 |(i,true)::r,listed,st,hc,h=>by
  simp only [tB,dm] at hc;obtain ⟨o,d,h1,h2,h3,h4⟩:=h;rcases h4 with ⟨t,h5,h6,h7⟩|⟨h5,h7⟩
  ·exact PT i hc.1.1 h1 hc.1.2 hsel h5 h2 h3 h6 (Ay hsel F r _ _ hc.2 h7)
  ·exact Vu i hc.1.1 h1 hc.1.2 hsel h5 h2 h3 (Ay hsel F r _ _ hc.2 h7)
 |(i,false)::r,listed,st,hc,h=>by
  simp only [tB,dm,decide_eq_true_eq] at hc;obtain ⟨o,h1,h2,h3⟩:=h;refine Dg hc.1 J (uc h1 h2 (λa w hs KK QQ hK=>h3 a w hs KK QQ λa' w' st' q=>hK a' w' st' (Ay hsel F r _ _ hc.2 q)) D')
def OD{P:Program}{ops:Array Oper}{Z:List Nat}{Q:AS -> Prop}{st:AS}{F0:Nat}{listed:Array Bool}(run:List (Nat×Bool))(F:Nat)(hc:(tB ops listed run && Region.noSelect ops && F0 == F+run.length)=true)(h:mX P ops Z run st (λst'=>dq P ops Z F (Ac listed run) st' Q)):dq P ops Z F0 listed st Q:=by
 simp only [dm,beq_iff_eq] at hc;rw [hc.2];exact Ay hc.1.2 F run listed st hc.1.1 h
class vI (l:List Oper) (i:Nat) (d:outParam (Option Nat)) (op:outParam Op) (gd:outParam (Option (Nat×Bool))):Prop where h:∃o:Oper,l[i]?=some o /\ o.dst=d /\ o.op=op /\ o.guard=gd
instance aGH{d:Option Nat}{op:Op}{ty:TypeId}{pos:String}{af:Array Edge}{gd:Option (Nat×Bool)}{l:List Oper}:vI (⟨d,op,ty,pos,af,gd⟩::l) 0 d op gd:=⟨_,rfl,rfl,rfl,rfl⟩
instance aCn{d:Option Nat}{op:Op}{gd:Option (Nat×Bool)}{l:List Oper}{o:Oper}{i:Nat}[h:vI l i d op gd]:vI (o::l) (i+1) d op gd:=⟨CZ⟩
section
variable {P:Program}{Z T:List Nat}{n:Nat}{s:aH}{ts:List (Nat×AT)}{t u:AT}{g:Prop}{K:AS -> Prop}{st:AS}{N:Nat}{bx A B:List aV}{rw:List aQ}{l0:List Oper}{i:Nat}{run:List (Nat×Bool)}{gd:Option (Nat×Bool)}
instance aEo{ops:Array Oper}[h:dt N (K st) g]:dt (N+1) (mX P ops Z [] st K) g:=⟨λk=>h.out k⟩
instance aG2{d:Nat}{op:Op}{r:Bool}[h0:vI l0 i (some d) op gd][h1:wN l0 ts gd r][h2:CS r P (fq s Z) op n T s ts t][h3:pU d n][h:dt N (mX P l0.toArray Z run ⟨n,T,s,(d,t)::ts⟩ K) g]:dt (N+1) (mX P l0.toArray Z ((i,true)::run) ⟨n,T,s,ts⟩ K) g:=⟨λk=>by
 obtain ⟨o,ae,e2,e3,e4⟩:=h0.h;refine ⟨o,d,Au,e2,h3.h,?_⟩;cases r with
 |true=>exact .inl ⟨t,h1.h _ _ _ o e4,h2.h.1 rfl o e3,h.out k⟩
 |false=>obtain rfl:=h2.h.2 rfl;exact .inr ⟨h1.h _ _ _ o e4,h.out k⟩⟩
instance aGm{E T0:TypeId}{x y:Operand}{b off z:Nat}{cs ds r:List aO}{ag:Bool}[hi:vI l0 i none (.store E x y) gd][h0:wN l0 ts gd true][h1:gR ts x (ap (.pointer (some ⟨b,off,none⟩)))][h2:gR ts y t][h3:sb t ds][h4:lx bx b A T0 cs B][h5:dB P E ag z][h6:wy cs off ds z r]{bx2:List aV}[h7:zS bx rw T (fq ⟨bx,rw⟩ Z) b][h8:rL A (⟨b,T0,r⟩::B) bx2][h:dt N (mX P l0.toArray Z run ⟨n,T,⟨bx2,rw⟩,ts⟩ K) g]:dt (N+1) (mX P l0.toArray Z ((i,false)::run) ⟨n,T,⟨bx,rw⟩,ts⟩ K) g:=⟨λk=>by
 obtain ⟨o,ae,e2,e3,e4⟩:=hi.h;exact ⟨o,Au,h0.h _ _ _ o e4,Co A e3 e2 (h1.h _ _ _) (h2.h _ _ _) h3.h h4.h h5.h.2 h6.h.2.2 h6.h.2.1 h6.h.1 h7.h.1 h7.h.2 JS⟩⟩
instance aBJ{d:Nat}{E:TypeId}{cs:List aO}{G:Nat -> Prop}[hi:vI l0 i (some d) (.alloc E) none][h1:d4 P E cs][h3:pU d n][h:∀b,dt N (mX P l0.toArray Z run ⟨n,b::T,⟨⟨b,E,cs⟩::bx,rw⟩,(d,aE b)::ts⟩ K) (G b)]:dt (N+1) (mX P l0.toArray Z ((i,false)::run) ⟨n,T,⟨bx,rw⟩,ts⟩ K) (∀b,G b):=⟨λk=>by
 obtain ⟨o,ae,e2,e3,e4⟩:=hi.h;obtain ⟨z,z1,z2⟩:=h1.h;exact ⟨o,Au,by unfold d6;rw [e4],iz e3 e2 h3.h z1 z2 λb=>(h b).out (k b)⟩⟩
instance aFD{d:Nat}{E:TypeId}{x:Operand}{cs:List aO}{G:Nat -> Prop}[hi:vI l0 i (some d) (.box E x) none][h1:gR ts x t][h2:sb t cs][h3:pU d n][h:∀b,dt N (mX P l0.toArray Z run ⟨n,b::T,⟨⟨b,E,cs⟩::bx,rw⟩,(d,aE b)::ts⟩ K) (G b)]:dt (N+1) (mX P l0.toArray Z ((i,false)::run) ⟨n,T,⟨bx,rw⟩,ts⟩ K) (∀b,G b):=⟨λk=>by
 obtain ⟨o,ae,e2,e3,e4⟩:=hi.h;exact ⟨o,Au,by unfold d6;rw [e4],Pf e3 e2 h3.h (h1.h _ _ _) h2.h λb=>(h b).out (k b)⟩⟩
end
end
section
open Go.RowKit
instance aAS:dB prog 2 false 1:=⟨isAgg2,sizeOf2⟩
instance aHV:d4 prog 2 [aA 0]:=⟨_,zeroValue2,rfl⟩
instance aFP:dB prog 3 false 1:=⟨isAgg3,lK⟩
instance aGl:d4 prog 3 [aA 0]:=⟨_,rV,rfl⟩
instance aBz:dB prog 4 false 1:=⟨dJ,dI⟩
instance aCH:d4 prog 4 [bD false]:=⟨_,zeroValue4,rfl⟩
instance aFF:dB prog 5 false 1:=⟨isAgg5,sizeOf5⟩
instance aCK:d4 prog 5 [.val (.int .u8 0)]:=⟨_,zeroValue5,rfl⟩
instance aCI:dB prog 9 false 1:=⟨rl,iG⟩
instance aDY:Nj prog 9:=⟨runUnderlying9⟩
instance aCq:d4 prog 9 [ac ⟨#[]⟩]:=⟨_,zeroValue9,rfl⟩
instance aGB:dB prog 12 false 1:=⟨isAgg12,sizeOf12⟩
instance aBu:d4 prog 12 [.val (.int .u64 0)]:=⟨_,zeroValue12,rfl⟩
instance aB9:dB prog 19 true 1:=⟨isAgg19,sizeOf19⟩
instance aAQ:cZ prog 19 0 0 17:=⟨_,runUnderlying19,rfl⟩
instance aCW:d4 prog 19 [.val (.pointer none)]:=⟨_,zeroValue19,rfl⟩
instance aEn:ic prog 19 [(0,1)] [.val (.pointer none)]:=⟨_,Tryz.t19,_,underlying19,aL,rfl,aL,rfl⟩
instance aCg:dB prog 21 false 1:=⟨isAgg21,sizeOf21⟩
instance aGD:d4 prog 21 [.val (.int .i32 0)]:=⟨_,zeroValue21,rfl⟩
instance aBD:dB prog 22 false 1:=⟨isAgg22,sizeOf22⟩
instance aE0:ln prog 22 3:=⟨yJ⟩
instance aDi:d4 prog 22 [aK]:=⟨_,zeroValue22,rfl⟩
instance aDW:dB prog 23 false 1:=⟨pG,o9⟩
instance aHa:ln prog 23 43:=⟨mp⟩
instance aAZ:d4 prog 23 [aK]:=⟨_,zeroValue23,rfl⟩
instance aCm:dB prog 24 false 1:=⟨kC,kL⟩
instance Z':ln prog 24 45:=⟨j6⟩
instance aDV:d4 prog 24 [aK]:=⟨_,zeroValue24,rfl⟩
instance aET:dB prog 25 false 1:=⟨mz,m_⟩
instance aAt:ln prog 25 49:=⟨fu⟩
instance aAB:d4 prog 25 [aK]:=⟨_,zeroValue25,rfl⟩
instance aHD:dB prog 27 true 3:=⟨oA,oL⟩
instance Zq:cZ prog 27 0 0 23:=⟨_,IV,rfl⟩
instance aHY:cZ prog 27 1 1 24:=⟨_,IV,rfl⟩
instance aEt:cZ prog 27 2 2 25:=⟨_,IV,rfl⟩
instance aCJ:d4 prog 27 [aK,aK,aK]:=⟨_,zeroValue27,rfl⟩
instance aFx:ic prog 27 [(0,1),(1,1),(2,1)] [aK,aK,aK]:=⟨_,Tryz.t27,_,underlying27,aL,rfl,aL,rfl⟩
instance Z0:dB prog 30 false 1:=⟨isAgg30,sizeOf30⟩
instance aEk:d4 prog 30 [.val (.int .u64 0)]:=⟨_,zeroValue30,rfl⟩
instance aCO:dB prog 31 false 1:=⟨isAgg31,sizeOf31⟩
instance aHp:ln prog 31 76:=⟨Ab⟩
instance Z5:d4 prog 31 [aK]:=⟨_,zeroValue31,rfl⟩
instance aFK:dB prog 33 true 4:=⟨sF,qW⟩
instance aFT:cZ prog 33 0 0 22:=⟨_,Dl,rfl⟩
instance aGI:cZ prog 33 1 1 24:=⟨_,Dl,rfl⟩
instance aAd:cZ prog 33 2 2 31:=⟨_,Dl,rfl⟩
instance aHM:cZ prog 33 3 3 3:=⟨_,Dl,rfl⟩
instance aBy:d4 prog 33 [aK,aK,aK,aA 0]:=⟨_,CG,rfl⟩
instance Z3:ic prog 33 [(0,1),(1,1),(2,1),(3,1)] [aK,aK,aK,aA 0]:=⟨_,Tryz.t33,_,underlying33,aL,rfl,aL,rfl⟩
instance aGk:dB prog 34 false 1:=⟨isAgg34,sizeOf34⟩
instance aEx:d4 prog 34 [aA 0]:=⟨_,zeroValue34,rfl⟩
instance aBO:dB prog 43 true 2:=⟨isAgg43,jU⟩
instance aED:cZ prog 43 0 0 9:=⟨_,runUnderlying43,rfl⟩
instance aGw:cZ prog 43 1 1 3:=⟨_,runUnderlying43,rfl⟩
instance aBp:d4 prog 43 [ac ⟨#[]⟩,aA 0]:=⟨_,Ba,rfl⟩
instance aGM:ic prog 43 [(0,1),(1,1)] [ac ⟨#[]⟩,aA 0]:=⟨_,Tryz.t43,_,underlying43,aL,rfl,aL,rfl⟩
instance aB1:dB prog 45 true 3:=⟨vR,fp⟩
instance aD7:cZ prog 45 0 0 9:=⟨_,FK,rfl⟩
instance aC3:cZ prog 45 1 1 4:=⟨_,FK,rfl⟩
instance aBX:cZ prog 45 2 2 3:=⟨_,FK,rfl⟩
instance aEm:d4 prog 45 [ac ⟨#[]⟩,bD false,aA 0]:=⟨_,zeroValue45,rfl⟩
instance aEN:ic prog 45 [(0,1),(1,1),(2,1)] [ac ⟨#[]⟩,bD false,aA 0]:=⟨_,Tryz.t45,_,underlying45,aL,rfl,aL,rfl⟩
instance aA3:dB prog 46 false 1:=⟨s_,ma⟩
instance aGE:ln prog 46 51:=⟨iK⟩
instance aER:d4 prog 46 [aK]:=⟨_,zeroValue46,rfl⟩
instance aFg:dB prog 47 false 1:=⟨tc,iZ⟩
instance aAO:ln prog 47 105:=⟨j0⟩
instance aCA:d4 prog 47 [aK]:=⟨_,zeroValue47,rfl⟩
instance aDX:dB prog 49 true 3:=⟨oP,du⟩
instance aAe:cZ prog 49 0 0 9:=⟨_,nN,rfl⟩
instance aEM:cZ prog 49 1 1 46:=⟨_,nN,rfl⟩
instance aDD:cZ prog 49 2 2 47:=⟨_,nN,rfl⟩
instance aC0:d4 prog 49 [ac ⟨#[]⟩,aK,aK]:=⟨_,sv,rfl⟩
instance aEs:ic prog 49 [(0,1),(1,1),(2,1)] [ac ⟨#[]⟩,aK,aK]:=⟨_,Tryz.t49,_,underlying49,aL,rfl,aL,rfl⟩
instance aAm:dB prog 51 true 2:=⟨isAgg51,ga⟩
instance aCo:cZ prog 51 0 0 9:=⟨_,runUnderlying51,rfl⟩
instance aHP:cZ prog 51 1 1 4:=⟨_,runUnderlying51,rfl⟩
instance aCX:d4 prog 51 [ac ⟨#[]⟩,bD false]:=⟨_,DT,rfl⟩
instance aF9:ic prog 51 [(0,1),(1,1)] [ac ⟨#[]⟩,bD false]:=⟨_,Tryz.t51,_,underlying51,aL,rfl,aL,rfl⟩
instance aEH:dB prog 55 false 1:=⟨isAgg55,sizeOf55⟩
instance aAR:dB prog 56 false 1:=⟨isAgg56,sizeOf56⟩
instance aHm:dB prog 59 true 2:=⟨isAgg59,sizeOf59⟩
instance aDK:cZ prog 59 0 0 22:=⟨_,runUnderlying59,rfl⟩
instance aAM:cZ prog 59 1 1 3:=⟨_,runUnderlying59,rfl⟩
instance aFc:d4 prog 59 [aK,aA 0]:=⟨_,zeroValue59,rfl⟩
instance aEy:ic prog 59 [(0,1),(1,1)] [aK,aA 0]:=⟨_,Tryz.t59,_,underlying59,aL,rfl,aL,rfl⟩
instance aEg:dB prog 61 true 6:=⟨isAgg61,sizeOf61⟩
instance aDg:cZ prog 61 0 0 56:=⟨_,Cw,rfl⟩
instance aD6:cZ prog 61 1 1 27:=⟨_,Cw,rfl⟩
instance aEX:cZ prog 61 2 4 3:=⟨_,Cw,rfl⟩
instance aHl:cZ prog 61 3 5 4:=⟨_,Cw,rfl⟩
instance aFp:d4 prog 61 [.val (.pointer none),aK,aK,aK,aA 0,bD false]:=⟨_,zeroValue61,rfl⟩
instance aD8:ic prog 61 [(0,1),(1,3),(4,1),(5,1)] [.val (.pointer none),aK,aK,aK,aA 0,bD false]:=⟨_,Tryz.t61,_,underlying61,aL,rfl,aL,rfl⟩
instance aCr:dB prog 63 false 1:=⟨isAgg63,sizeOf63⟩
instance aBU:ln prog 63 5:=⟨runUnderlying63⟩
instance aHq:d4 prog 63 [aK]:=⟨_,zeroValue63,rfl⟩
instance aGq:dB prog 64 false 1:=⟨isAgg64,sizeOf64⟩
instance aGN:ln prog 64 9:=⟨kj⟩
instance aHj:d4 prog 64 [aK]:=⟨_,zeroValue64,rfl⟩
instance aAz:dB prog 68 false 1:=⟨isAgg68,sizeOf68⟩
instance aAA:dB prog 71 false 1:=⟨isAgg71,sizeOf71⟩
instance aFa:dB prog 72 false 1:=⟨isAgg72,sizeOf72⟩
instance aFy:ln prog 72 99:=⟨jv⟩
instance aC4:d4 prog 72 [aK]:=⟨_,zeroValue72,rfl⟩
instance aGn:dB prog 74 true 9:=⟨isAgg74,sizeOf74⟩
instance aCf:cZ prog 74 0 0 71:=⟨_,rh,rfl⟩
instance aGY:cZ prog 74 1 1 71:=⟨_,rh,rfl⟩
instance aA9:cZ prog 74 2 2 71:=⟨_,rh,rfl⟩
instance aHH:cZ prog 74 3 3 71:=⟨_,rh,rfl⟩
instance aAn:cZ prog 74 4 4 71:=⟨_,rh,rfl⟩
instance aBr:cZ prog 74 5 5 3:=⟨_,rh,rfl⟩
instance aBK:cZ prog 74 6 6 72:=⟨_,rh,rfl⟩
instance aHF:cZ prog 74 7 7 22:=⟨_,rh,rfl⟩
instance aFN:cZ prog 74 8 8 3:=⟨_,rh,rfl⟩
instance aAJ:dB prog 76 true 5:=⟨isAgg76,rf⟩
instance aGA:cZ prog 76 0 0 9:=⟨_,za,rfl⟩
instance aCy:cZ prog 76 1 1 3:=⟨_,za,rfl⟩
instance aA2:cZ prog 76 2 2 3:=⟨_,za,rfl⟩
instance Z9:cZ prog 76 3 3 3:=⟨_,za,rfl⟩
instance aDm:cZ prog 76 4 4 72:=⟨_,za,rfl⟩
instance aAF:d4 prog 76 [ac ⟨#[]⟩,aA 0,aA 0,aA 0,aK]:=⟨_,AK,rfl⟩
instance aC9:ic prog 76 [(0,1),(1,1),(2,1),(3,1),(4,1)] [ac ⟨#[]⟩,aA 0,aA 0,aA 0,aK]:=⟨_,Tryz.t76,_,underlying76,aL,rfl,aL,rfl⟩
instance aHg:dB prog 79 false 1:=⟨isAgg79,sizeOf79⟩
instance aA0:ln prog 79 83:=⟨xB⟩
instance aCh:d4 prog 79 [aK]:=⟨_,zeroValue79,rfl⟩
instance Zw:dB prog 83 true 3:=⟨qz,mA⟩
instance aHS:cZ prog 83 0 0 9:=⟨_,BN,rfl⟩
instance aDz:cZ prog 83 1 1 3:=⟨_,BN,rfl⟩
instance aBd:cZ prog 83 2 2 3:=⟨_,BN,rfl⟩
instance aHJ:d4 prog 83 [ac ⟨#[]⟩,aA 0,aA 0]:=⟨_,AD,rfl⟩
instance aDs:ic prog 83 [(0,1),(1,1),(2,1)] [ac ⟨#[]⟩,aA 0,aA 0]:=⟨_,Tryz.t83,_,underlying83,aL,rfl,aL,rfl⟩
instance aGC:dB prog 92 false 1:=⟨isAgg92,sizeOf92⟩
instance aDj:ln prog 92 94:=⟨iR⟩
instance aAs:d4 prog 92 [aK]:=⟨_,zeroValue92,rfl⟩
instance aBw:dB prog 94 true 4:=⟨gE,dl⟩
instance aB0:cZ prog 94 0 0 3:=⟨_,D8,rfl⟩
instance aCs:cZ prog 94 1 1 3:=⟨_,D8,rfl⟩
instance Zy:cZ prog 94 2 2 9:=⟨_,D8,rfl⟩
instance aEI:cZ prog 94 3 3 92:=⟨_,D8,rfl⟩
instance aHZ:d4 prog 94 [aA 0,aA 0,ac ⟨#[]⟩,aK]:=⟨_,zeroValue94,rfl⟩
instance aB4:ic prog 94 [(0,1),(1,1),(2,1),(3,1)] [aA 0,aA 0,ac ⟨#[]⟩,aK]:=⟨_,Tryz.t94,_,underlying94,aL,rfl,aL,rfl⟩
instance aFC:dB prog 96 true 3:=⟨isAgg96,wn⟩
instance aBF:cZ prog 96 0 0 4:=⟨_,Hc,rfl⟩
instance aCw:cZ prog 96 1 1 3:=⟨_,Hc,rfl⟩
instance aAH:cZ prog 96 2 2 92:=⟨_,Hc,rfl⟩
instance aGT:d4 prog 96 [bD false,aA 0,aK]:=⟨_,zeroValue96,rfl⟩
instance aGt:ic prog 96 [(0,1),(1,1),(2,1)] [bD false,aA 0,aK]:=⟨_,Tryz.t96,_,underlying96,aL,rfl,aL,rfl⟩
instance aAP:dB prog 97 false 1:=⟨isAgg97,sizeOf97⟩
instance aEb:ln prog 97 96:=⟨Gk⟩
instance aCB:d4 prog 97 [aK]:=⟨_,zeroValue97,rfl⟩
instance aEa:dB prog 99 true 12:=⟨rZ,jS⟩
instance aEG:cZ prog 99 0 0 3:=⟨_,ot,rfl⟩
instance aDp:cZ prog 99 1 1 3:=⟨_,ot,rfl⟩
instance aBb:cZ prog 99 2 2 4:=⟨_,ot,rfl⟩
instance aCY:cZ prog 99 3 3 94:=⟨_,ot,rfl⟩
instance aCP:cZ prog 99 4 7 96:=⟨_,ot,rfl⟩
instance aCd:cZ prog 99 5 10 92:=⟨_,ot,rfl⟩
instance aGP:cZ prog 99 6 11 97:=⟨_,ot,rfl⟩
instance aAG:d4 prog 99 [aA 0,aA 0,bD false,aA 0,aA 0,ac ⟨#[]⟩,aK,bD false,aA 0,aK,aK,aK]:=⟨_,zeroValue99,rfl⟩
instance aAX:ic prog 99 [(0,1),(1,1),(2,1),(3,4),(7,3),(10,1),(11,1)] [aA 0,aA 0,bD false,aA 0,aA 0,ac ⟨#[]⟩,aK,bD false,aA 0,aK,aK,aK]:=⟨_,Tryz.t99,_,underlying99,aL,rfl,aL,rfl⟩
instance aB3:dB prog 102 true 2:=⟨xV,xD⟩
instance aHB:cZ prog 102 0 0 9:=⟨_,runUnderlying102,rfl⟩
instance Zv:cZ prog 102 1 1 92:=⟨_,runUnderlying102,rfl⟩
instance aFX:d4 prog 102 [ac ⟨#[]⟩,aK]:=⟨_,zeroValue102,rfl⟩
instance aEV:ic prog 102 [(0,1),(1,1)] [ac ⟨#[]⟩,aK]:=⟨_,Tryz.t102,_,underlying102,aL,rfl,aL,rfl⟩
instance Z4:dB prog 103 false 1:=⟨isAgg103,sizeOf103⟩
instance aCj:ln prog 103 152:=⟨lV⟩
instance aFH:d4 prog 103 [aK]:=⟨_,zeroValue103,rfl⟩
instance aBv:dB prog 105 true 11:=⟨ge,eB⟩
instance aDE:cZ prog 105 0 0 3:=⟨_,me,rfl⟩
instance Z_:cZ prog 105 1 1 9:=⟨_,me,rfl⟩
instance aFG:cZ prog 105 2 2 94:=⟨_,me,rfl⟩
instance aFv:cZ prog 105 3 6 102:=⟨_,me,rfl⟩
instance aCt:cZ prog 105 4 8 103:=⟨_,me,rfl⟩
instance aFA:cZ prog 105 5 9 47:=⟨_,me,rfl⟩
instance aEW:cZ prog 105 6 10 47:=⟨_,me,rfl⟩
instance aAT:d4 prog 105 [aA 0,ac ⟨#[]⟩,aA 0,aA 0,ac ⟨#[]⟩,aK,ac ⟨#[]⟩,aK,aK,aK,aK]:=⟨_,zeroValue105,rfl⟩
instance aHh:ic prog 105 [(0,1),(1,1),(2,4),(6,2),(8,1),(9,1),(10,1)] [aA 0,ac ⟨#[]⟩,aA 0,aA 0,ac ⟨#[]⟩,aK,ac ⟨#[]⟩,aK,aK,aK,aK]:=⟨_,Tryz.t105,_,underlying105,aL,rfl,aL,rfl⟩
instance aA1:dB prog 110 false 1:=⟨isAgg110,sizeOf110⟩
instance aC6:dB prog 111 false 1:=⟨isAgg111,sizeOf111⟩
instance aEZ:dB prog 112 false 1:=⟨isAgg112,sizeOf112⟩
instance aCU:dB prog 114 true 7:=⟨isAgg114,sizeOf114⟩
instance aEi:cZ prog 114 0 0 27:=⟨_,yn,rfl⟩
instance aHE:cZ prog 114 1 3 111:=⟨_,yn,rfl⟩
instance aBE:cZ prog 114 2 4 112:=⟨_,yn,rfl⟩
instance aDL:cZ prog 114 3 5 3:=⟨_,yn,rfl⟩
instance aD0:cZ prog 114 4 6 3:=⟨_,yn,rfl⟩
instance aF6:dB prog 128 false 1:=⟨isAgg128,sizeOf128⟩
instance aEU:ln prog 128 150:=⟨lA⟩
instance Z6:d4 prog 128 [aK]:=⟨_,zeroValue128,rfl⟩
instance aDn:dB prog 132 false 1:=⟨isAgg132,sizeOf132⟩
instance aAx:dB prog 134 true 10:=⟨isAgg134,sizeOf134⟩
instance aGy:cZ prog 134 0 0 27:=⟨_,uC,rfl⟩
instance aGW:cZ prog 134 1 3 79:=⟨_,uC,rfl⟩
instance aAE:cZ prog 134 2 4 3:=⟨_,uC,rfl⟩
instance aEh:cZ prog 134 3 5 3:=⟨_,uC,rfl⟩
instance aBc:cZ prog 134 4 6 3:=⟨_,uC,rfl⟩
instance aEv:cZ prog 134 5 7 34:=⟨_,uC,rfl⟩
instance aHb:cZ prog 134 6 8 72:=⟨_,uC,rfl⟩
instance aFZ:cZ prog 134 7 9 22:=⟨_,uC,rfl⟩
instance aFr:d4 prog 134 [aK,aK,aK,aK,aA 0,aA 0,aA 0,aA 0,aK,aK]:=⟨_,zeroValue134,rfl⟩
instance aHr:ic prog 134 [(0,3),(3,1),(4,1),(5,1),(6,1),(7,1),(8,1),(9,1)] [aK,aK,aK,aK,aA 0,aA 0,aA 0,aA 0,aK,aK]:=⟨_,Tryz.t134,_,underlying134,aL,rfl,aL,rfl⟩
instance aDS:dB prog 139 false 1:=⟨isAgg139,sizeOf139⟩
instance aEA:dB prog 141 true 6:=⟨isAgg141,sizeOf141⟩
instance aE4:cZ prog 141 0 0 128:=⟨_,yI,rfl⟩
instance aC7:cZ prog 141 1 1 3:=⟨_,yI,rfl⟩
instance aHk:cZ prog 141 2 2 3:=⟨_,yI,rfl⟩
instance aAD:cZ prog 141 3 3 34:=⟨_,yI,rfl⟩
instance aBl:cZ prog 141 4 4 3:=⟨_,yI,rfl⟩
instance aHU:cZ prog 141 5 5 3:=⟨_,yI,rfl⟩
instance Z8:d4 prog 141 [aK,aA 0,aA 0,aA 0,aA 0,aA 0]:=⟨_,zeroValue141,rfl⟩
instance aCQ:ic prog 141 [(0,1),(1,1),(2,1),(3,1),(4,1),(5,1)] [aK,aA 0,aA 0,aA 0,aA 0,aA 0]:=⟨_,Tryz.t141,_,underlying141,aL,rfl,aL,rfl⟩
instance aC1:dB prog 150 true 4:=⟨isAgg150,lE⟩
instance aEp:cZ prog 150 0 0 3:=⟨_,Cx,rfl⟩
instance aBW:cZ prog 150 1 1 9:=⟨_,Cx,rfl⟩
instance aA6:cZ prog 150 2 2 3:=⟨_,Cx,rfl⟩
instance aEP:cZ prog 150 3 3 3:=⟨_,Cx,rfl⟩
instance aCS:d4 prog 150 [aA 0,ac ⟨#[]⟩,aA 0,aA 0]:=⟨_,zeroValue150,rfl⟩
instance aE5:ic prog 150 [(0,1),(1,1),(2,1),(3,1)] [aA 0,ac ⟨#[]⟩,aA 0,aA 0]:=⟨_,Tryz.t150,_,underlying150,aL,rfl,aL,rfl⟩
instance aB6:dB prog 152 true 7:=⟨isAgg152,j'⟩
instance aFi:cZ prog 152 0 0 4:=⟨_,El,rfl⟩
instance aG1:cZ prog 152 1 1 102:=⟨_,El,rfl⟩
instance aGx:cZ prog 152 2 3 94:=⟨_,El,rfl⟩
instance aFB:d4 prog 152 [bD false,ac ⟨#[]⟩,aK,aA 0,aA 0,ac ⟨#[]⟩,aK]:=⟨_,zeroValue152,rfl⟩
instance aDb:ic prog 152 [(0,1),(1,2),(3,4)] [bD false,ac ⟨#[]⟩,aK,aA 0,aA 0,ac ⟨#[]⟩,aK]:=⟨_,Tryz.t152,_,underlying152,aL,rfl,aL,rfl⟩
instance aCF:dB prog 156 false 1:=⟨isAgg156,sizeOf156⟩
instance aA8:d4 prog 156 [aA 0]:=⟨_,uA,rfl⟩
instance aG5:dB prog 175 false 1:=⟨isAgg175,sizeOf175⟩
instance aFz:dB prog 176 false 1:=⟨isAgg176,sizeOf176⟩
instance aD2:dB prog 178 true 2:=⟨isAgg178,sizeOf178⟩
instance aB5:cZ prog 178 0 0 176:=⟨_,runUnderlying178,rfl⟩
instance aBj:cZ prog 178 1 1 63:=⟨_,runUnderlying178,rfl⟩
instance aD1:d4 prog 178 [.val (.pointer none),aK]:=⟨_,zeroValue178,rfl⟩
instance aE2:ic prog 178 [(0,1),(1,1)] [.val (.pointer none),aK]:=⟨_,Tryz.t178,_,underlying178,aL,rfl,aL,rfl⟩
instance aAb:dB prog 180 true 3:=⟨isAgg180,sizeOf180⟩
instance aEB:cZ prog 180 0 0 178:=⟨_,runUnderlying180,rfl⟩
instance aF5:cZ prog 180 1 2 3:=⟨_,runUnderlying180,rfl⟩
instance aGK:d4 prog 180 [.val (.pointer none),aK,aA 0]:=⟨_,zeroValue180,rfl⟩
instance aHe:ic prog 180 [(0,2),(2,1)] [.val (.pointer none),aK,aA 0]:=⟨_,Tryz.t180,_,underlying180,aL,rfl,aL,rfl⟩
instance aG3:dB prog 191 false 1:=⟨isAgg191,sizeOf191⟩
instance aC2:d4 prog 191 [.val (.int .u64 0)]:=⟨_,zeroValue191,rfl⟩
instance aAU:dB prog 203 false 1:=⟨isAgg203,sizeOf203⟩
instance aAf:dB prog 221 false 1:=⟨isAgg221,sizeOf221⟩
instance aDG:dB prog 229 true 6:=⟨pk,py⟩
instance aA4:cZ prog 229 0 0 4:=⟨_,xj,rfl⟩
instance aDR:cZ prog 229 1 1 4:=⟨_,xj,rfl⟩
instance aDf:cZ prog 229 2 2 4:=⟨_,xj,rfl⟩
instance aDF:cZ prog 229 3 3 4:=⟨_,xj,rfl⟩
instance aDo:cZ prog 229 4 4 4:=⟨_,xj,rfl⟩
instance aD5:cZ prog 229 5 5 4:=⟨_,xj,rfl⟩
instance aEl:d4 prog 229 [bD false,bD false,bD false,bD false,bD false,bD false]:=⟨_,zeroValue229,rfl⟩
instance aB8:ic prog 229 [(0,1),(1,1),(2,1),(3,1),(4,1),(5,1)] [bD false,bD false,bD false,bD false,bD false,bD false]:=⟨_,Tryz.t229,_,underlying229,aL,rfl,aL,rfl⟩
instance aDA:dB prog 241 true 24:=⟨isAgg241,sizeOf241⟩
instance aDe:dB prog 248 true 11:=⟨isAgg248,sizeOf248⟩
instance aF3:dB prog 252 true 20:=⟨isAgg252,sizeOf252⟩
instance aHo:dB prog 253 false 1:=⟨isAgg253,sizeOf253⟩
instance aDT:d4 prog 253 [.val (.int .u32 0)]:=⟨_,zeroValue253,rfl⟩
instance aBT:dB prog 254 true 65:=⟨isAgg254,sizeOf254⟩
instance aE3:dB prog 257 true 18:=⟨isAgg257,sizeOf257⟩
instance aDh:dB prog 263 true 32:=⟨isAgg263,sizeOf263⟩
instance aGh:dB prog 264 true 64:=⟨isAgg264,sizeOf264⟩
end
section
structure bP where
 name:ByteArray
 kind:Int
 n:Nat
def bW(x:bP):List aO:=[ac x.name,aA x.kind,am x.n]
def nQ(x:bP):(bW x).length=3:=rfl
structure ox where
 param:Bool
 index:Nat
 at_:List aS
def fL(x:ox):List aO:=[bD x.param,am x.index,aG bV x.at_]
def EI(x:ox):(fL x).length=3:=rfl
structure jD where
 op:Int
 target:Nat
 global:Bool
 expr:aS
 place:ox
 ints:List aS
 places:List ox
def encI(x:jD):List aO:=[aA x.op,am x.target,bD x.global,aA x.expr.op,aA x.expr.num,ac x.expr.name,aG bV x.expr.args,bD x.place.param,am x.place.index,aG bV x.place.at_,aG bV x.ints,aG fL x.places]
def lh(x:jD):(encI x).length=12:=rfl
def ZL:bP:=⟨ay,0,0⟩
def dL:ox:=⟨false,0,[]⟩
def bL:List bP -> ByteArray -> Option bP
 |[],_=>none
 |x::l,s=>if x.name=s then some x else bL l s
def RO:Option bP -> bP
 |none=>ZL
 |some v=>v
def bQ(l:List bP)(s:ByteArray):bP:=RO (bL l s)
structure qE (p:aX) (l:List bP):Prop where
 ms:∀s v,bL l s=some v -> v.kind=2 -> v.n<p.mutexes.length
 fs:∀s v,bL l s=some v -> v.kind=3 -> v.n<p.funcs.length
abbrev iv:=Nat×Int
def cX(q:iv)(e:Nat)(s:Int):iv:=if q.1=0 /\ e≠0 then (e,s) else q
def dP(a b:Nat):Nat:=if a=0 then b else a
def om(q:iv)(s:Int):cX q 0 s=q:=by unfold cX;rw [if_neg aM]
def uW(q:iv)(a b:Nat)(s:Int):cX (cX q a s) b s=cX q (dP a b) s:=by
 unfold cX dP;by_cases h:q.1=0<;>by_cases ha:a=0<;>by_cases hb:b=0<;>simp [h,ha,hb]
def Kh(b:Nat):dP 0 b=b:=rfl
def KW:Option bP -> Nat
 |none=>6
 |some v=>if v.kind=1∨v.kind=4 then 0 else 8
def fO(l:List bP)(s:ByteArray):Nat:=KW (bL l s)
def rp(l:List bP)(s:ByteArray):aS:=.mk (if (bQ l s).kind=1 then 19 else 18) ((bQ l s).n:Nat) ay []
mutual
def cd(l:List bP):aS -> aS
 |.mk op num name args=>if op=2 then rp l name else .mk op num ay (uH l args)
def uH(l:List bP):List aS -> List aS
 |[]=>[]
 |e::r=>cd l e::uH l r
end
mutual
def cV(l:List bP):aS -> Nat
 |.mk op _ name args=>if op=2 then fO l name else hJ l args
def hJ(l:List bP):List aS -> Nat
 |[]=>0
 |e::r=>dP (cV l e) (hJ l r)
end
def I5(l:List bP):∀r:List aS,uH l r=r.map (cd l)
 |[]=>by rw [uH];rfl
 |e::r=>by rw [uH,I5 l r];rfl
def yW(l:List bP)(e:aS):cd l e=if e.op=2 then rp l e.name else .mk e.op e.num ay (e.args.map (cd l)):=by
 cases e;rw [cd,I5];rfl
def zQ(l:List bP)(e:aS):cV l e=if e.op=2 then fO l e.name else hJ l e.args:=by cases e;rw [cV];rfl
def Jb(a b c:Nat):dP (dP a b) c=dP a (dP b c):=by unfold dP;by_cases h:a=0<;>simp [h]
def Le(l:List bP):∀(r:List aS)(e:aS),hJ l (r++[e])=dP (hJ l r) (cV l e)
 |[],e=>by rw [ck,hJ,hJ,hJ,Kh];unfold dP;split<;>simp_all
 |a::r,e=>by rw [eE,hJ,hJ,Le l r e,Jb]
def PZ(l:List bP)(r:List aS)(k:Nat)(h:k<r.length)(q:iv)(s:Int):cX (cX q (hJ l (r.take k)) s) (cV l r[k]) s=cX q (hJ l (r.take (k+1))) s:=by
 rw [uW,gX h,Le]
def rT(p:aX)(n:Nat):Int:=match p.mutexes[n]? with
 |none=>0
 |some m=>m.size
def Aa{p:aX}{n:Nat}(h:n<p.mutexes.length):rT p n=p.mutexes[n].size:=by unfold rT;rw [kl h]
def ec(l:List bP)(r:cD):ox:=⟨decide ((bQ l r.name).kind=5),(bQ l r.name).n,r.index.map (cd l)⟩
def km(p:aX)(n:Nat):Option bP -> Nat
 |none=>6
 |some v=>if v.kind=2∨v.kind=5 then (if (decide (v.kind=2) && decide (0<rT p v.n))=decide (0<n) then 0 else 8) else 8
def eC(p:aX)(l:List bP)(r:cD):Nat:=dP (km p r.index.length (bL l r.name)) (hJ l r.index)
def ul(p:aX)(l:List bP)(a:bq):Nat:=if a.mutex then eC p l a.ref else cV l a.expr
def jC(p:aX)(l:List bP):List bq -> List bg -> Nat
 |a::r,x::xs=>if a.mutex=x.mutex then dP (ul p l a) (jC p l r xs) else 8
 |_,_=>0
def iS:List bq -> List bg -> List bq
 |a::r,x::xs=>if a.mutex=x.mutex then a::iS r xs else []
 |_,_=>[]
def eM(l:List bP)(al:List bq):List ox:=(al.filter bq.mutex).map λa=>ec l a.ref
def d1(l:List bP)(al:List bq):List aS:=(al.filter λa=>!a.mutex).map λa=>cd l a.expr
def jV(p:aX)(n:Nat):List bg:=match p.funcs[n]? with
 |none=>[]
 |some f=>f.params
def Cg{p:aX}{n:Nat}(h:n<p.funcs.length):jV p n=p.funcs[n].params:=by unfold jV;rw [kl h]
def o6(p:aX)(l:List bP)(al:List bq):Option bP -> Nat
 |none=>6
 |some v=>if v.kind=3 then (if (jV p v.n).length=al.length then jC p l al (jV p v.n) else 7) else 8
def eH(p:aX)(l:List bP)(s:aD):Nat:=o6 p l s.args (bL l s.name)
def ni(p:aX)(l:List bP)(al:List bq)(op:Int):Option bP -> jD
 |none=>⟨op,0,false,.zero,dL,[],[]⟩
 |some v=>if v.kind=3 then (if (jV p v.n).length=al.length then ⟨op,v.n,false,.zero,dL,d1 l (iS al (jV p v.n)),eM l (iS al (jV p v.n))⟩ else ⟨op,v.n,false,.zero,dL,[],[]⟩) else ⟨op,0,false,.zero,dL,[],[]⟩
def gL(p:aX)(l:List bP)(s:aD):jD:=ni p l s.args (if s.kind=4 then 3 else 2) (bL l s.name)
structure ai where
 aq:List bP
 locals:Nat
 n:Nat
 q:iv
 code:List jD
 sites:List Int
def ai.put(x:ai)(i:jD)(s:Nat):ai:=⟨x.aq,x.locals,x.n,x.q,x.code++[i],x.sites++[(s:Int)]⟩
def jD.to(i:jD)(t:Nat):jD:=⟨i.op,t,i.global,i.expr,i.place,i.ints,i.places⟩
def ai.patch(x:ai)(b:Nat):ai:=⟨x.aq,x.locals,x.n,x.q,x.code.modify b (λi=>i.to x.code.length),x.sites⟩
def ai.dg(x:ai)(e:Nat):ai:=⟨x.aq,x.locals,x.n+1,cX x.q e x.n,x.code,x.sites⟩
def fU(l:List bP)(s:ByteArray):Nat:=if (bL l s).isSome then 5 else 0
def ai.var(x:ai)(s:ByteArray):ai:=⟨x.aq++[⟨s,4,x.locals⟩],x.locals+1,x.n,x.q,x.code,x.sites⟩
def bm(k:Int)(e:aS):jD:=⟨k,0,false,e,dL,[],[]⟩
def im(p:aX)(s:aD)(x:ai):ai:=
 if s.kind=1 then ((x.dg (dP (fU x.aq s.name) (cV x.aq s.expr))).put ⟨1,x.locals,false,cd x.aq s.expr,dL,[],[]⟩ x.n).var s.name
 else if s.kind=2 then (x.dg (dP (fO x.aq s.name) (cV x.aq s.expr))).put ⟨1,(bQ x.aq s.name).n,decide ((bQ x.aq s.name).kind=1),cd x.aq s.expr,dL,[],[]⟩ x.n
 else if s.kind=3∨s.kind=4 then (x.dg (eH p x.aq s)).put (gL p x.aq s) x.n
 else if s.kind=5 then (x.dg (eC p x.aq s.ref)).put ⟨4,0,false,.zero,ec x.aq s.ref,[],[]⟩ x.n
 else if s.kind=6 then (x.dg (eC p x.aq s.ref)).put ⟨5,0,false,.zero,ec x.aq s.ref,[],[]⟩ x.n
 else (x.dg 0).put (bm 8 .zero) x.n
def ai.branch(x:ai)(e:aS):ai:=(x.dg (cV x.aq e)).put (bm 6 (cd x.aq e)) x.n
def ai.back(x:ai)(y:ai):ai:=⟨x.aq,y.locals,y.n,y.q,y.code,y.sites⟩
mutual
def cy(p:aX):aD -> ai -> ai
 |.mk k name e r args t f,x=>
  if k=7 then
   (if f.length=0 then ((x.branch e).back (cM p t (x.branch e))).patch x.code.length
    else (ai.back x (cM p f ((((x.branch e).back (cM p t (x.branch e))).put (bm 7 .zero) x.n).patch x.code.length))).patch (cM p t (x.branch e)).code.length)
  else if k=8 then (((x.branch e).back (cM p t (x.branch e))).put ⟨7,x.code.length,false,.zero,dL,[],[]⟩ x.n).patch x.code.length
  else im p (.mk k name e r args t f) x
def cM(p:aX):List aD -> ai -> ai
 |[],x=>x
 |s::l,x=>cM p l (cy p s x)
end
def aP(p:aX)(l:List aD)(x:ai):ai:=x.back (cM p l x)
def pW(p:aX)(s:aD)(x:ai):cy p s x=if s.kind=7 then
   (if s.els.length=0 then (aP p s.thn (x.branch s.expr)).patch x.code.length
    else (aP p s.els (((aP p s.thn (x.branch s.expr)).put (bm 7 .zero) x.n).patch x.code.length)).patch (aP p s.thn (x.branch s.expr)).code.length)
  else if s.kind=8 then ((aP p s.thn (x.branch s.expr)).put ⟨7,x.code.length,false,.zero,dL,[],[]⟩ x.n).patch x.code.length
  else im p s x:=by
 obtain ⟨k,n,e,r,a,t,f⟩:=s;rw [cy];rfl
def Oo(p:aX):∀(l:List aD)(s:aD)(x:ai),cM p (l++[s]) x=cy p s (cM p l x)
 |[],s,x=>by rw [ck,cM,cM,cM]
 |a::l,s,x=>by rw [eE,cM,cM,Oo p l s]
def p'(p:aX)(l:List aD)(k:Nat)(h:k<l.length)(x:ai):cy p l[k] (cM p (l.take k) x)=cM p (l.take (k+1)) x:=by
 rw [gX h,Oo]
def bd(p:aX):List bP:=p.globals.mapIdx (λi g=>⟨g.name,1,i⟩)++(p.mutexes.mapIdx (λi m=>⟨m.name,2,i⟩)++p.funcs.mapIdx (λi f=>⟨f.name,3,i⟩))
def jp:List bP -> List bP -> Option Nat
 |_,[]=>none
 |l,x::r=>if (bL l x.name).isSome then some l.length else jp (l++[x]) r
def ie:List bg -> List bP -> Nat -> Nat -> Option (List bP×Nat×Nat)
 |[],l,i,m=>some (l,i,m)
 |x::r,l,i,m=>if (bL l x.name).isSome then none else if x.mutex then ie r (l++[⟨x.name,5,m⟩]) i (m+1) else ie r (l++[⟨x.name,4,i⟩]) (i+1) m
def ai.init(l:List bP)(i:Nat):ai:=⟨l,i,0,(0,0),[],[]⟩
def xG(p:aX)(f:a_)(l:List bP)(i:Nat):ai:=(aP p f.body (ai.init l i)).put (bm 8 .zero) (aP p f.body (ai.init l i)).n
def kJ(p:aX)(f:a_):iv:=match ie f.params (bd p) 0 0 with
 |none=>(5,-1)
 |some (l,i,_)=>(xG p f l i).q
structure wY where
 name:ByteArray
 ints:Nat
 aLj:Nat
 locals:Nat
 code:List jD
def iU(p:aX)(f:a_):wY:=match ie f.params (bd p) 0 0 with
 |none=>⟨ay,0,0,0,[]⟩
 |some (l,i,m)=>⟨f.name,i,m,(xG p f l i).locals,(xG p f l i).code⟩
def lW(p:aX):List a_ -> Nat -> Int×Int×Nat
 |[],_=>(0,0,0)
 |f::r,i=>if (kJ p f).1=0 then lW p r (i+1) else (i,(kJ p f).2,(kJ p f).1)
def eR:ByteArray:=⟨#[109,97,105,110]⟩
def oE(p:aX):Bool:=match bL (bd p) eR with
 |none=>false
 |some v=>decide (v.kind=3) && decide ((jV p v.n).length=0)
def gp(p:aX):Int×Int×Nat:=
 if gw p=false then (-1,-1,10) else
 match jp [] (bd p) with
 |some i=>(-1,i,5)
 |none=>if oE p then lW p p.funcs 0 else (-1,-1,9)
end
section
open Go.RowKit
instance (priority:=900) boxIn_appG{A0 R A B:List aV}{b:Nat}{T:TypeId}{cs:List aO}[h:lx R b A T cs B]:lx (A0++R) b (A0++A) T cs B:=⟨by rw [h.h,append_assoc]⟩
instance (priority:=1050) appL_app{A0 X ds r:List aV}[h:rL X ds r]:rL (A0++X) ds (A0++r):=⟨by rw [append_assoc,h.h]⟩
instance aA7:ej 1 1 2:=⟨rfl⟩
instance aFQ:ej 1 2 3:=⟨rfl⟩
instance aDZ:ej 1 3 4:=⟨rfl⟩
instance aHO:ej 1 4 5:=⟨rfl⟩
instance aFo:ej 1 5 6:=⟨rfl⟩
instance aGa:ej 2 1 3:=⟨rfl⟩
instance aEK:ej 2 2 4:=⟨rfl⟩
instance aDU:ej 2 3 5:=⟨rfl⟩
instance aGo:ej 2 4 6:=⟨rfl⟩
instance aGr:ej 2 5 7:=⟨rfl⟩
instance aEC:ej 3 1 4:=⟨rfl⟩
instance aBk:ej 3 2 5:=⟨rfl⟩
instance aHR:ej 3 3 6:=⟨rfl⟩
instance aBV:ej 3 4 7:=⟨rfl⟩
instance aGp:ej 3 5 8:=⟨rfl⟩
instance aCe:ej 4 1 5:=⟨rfl⟩
instance aF8:ej 4 2 6:=⟨rfl⟩
instance aGV:ej 4 3 7:=⟨rfl⟩
instance aHX:ej 4 4 8:=⟨rfl⟩
instance aEQ:ej 4 5 9:=⟨rfl⟩
instance aGG:ej 5 1 6:=⟨rfl⟩
instance aGz:ej 5 2 7:=⟨rfl⟩
instance aDw:ej 5 3 8:=⟨rfl⟩
instance aCu:ej 5 4 9:=⟨rfl⟩
instance aBL:ej 5 5 10:=⟨rfl⟩
instance aAK:ej 6 1 7:=⟨rfl⟩
instance aEE:ej 6 2 8:=⟨rfl⟩
instance aGf:ej 6 3 9:=⟨rfl⟩
instance aFm:ej 6 4 10:=⟨rfl⟩
instance aCZ:ej 6 5 11:=⟨rfl⟩
instance aAk:ej 7 1 8:=⟨rfl⟩
instance aHI:ej 7 2 9:=⟨rfl⟩
instance aAI:ej 7 3 10:=⟨rfl⟩
instance aDB:ej 7 4 11:=⟨rfl⟩
instance aDx:ej 7 5 12:=⟨rfl⟩
instance aBf:ej 8 1 9:=⟨rfl⟩
instance aAN:ej 8 2 10:=⟨rfl⟩
instance aE6:ej 8 3 11:=⟨rfl⟩
instance Zt:ej 8 4 12:=⟨rfl⟩
instance aD4:ej 8 5 13:=⟨rfl⟩
def vq{bx:List aV}{rw:List aQ}{Z:List Nat}{b:Nat}[h1:mR bx b][h2:zT bx b Z](hn:(⟨bx,rw⟩:aH).bl.Nodup):b∈fq ⟨bx,rw⟩ Z:=gZ.2 ⟨gW _ h1.h,h2.h (eF.1 hn).1⟩
def lT{P:Program}{U:List Nat}{o:Oper}{st:AS}{x:bb}{t e E:ax}{v:aN}{z n:Nat}{cs:List aO}(A:List aQ){B:List aQ}(ho:o.op=.call {callee:=.builtin .len,args:=#[x],argTypes:=#[t]})(hx:aw st x=some (ap v))(hrow:st.s.rows=A++⟨v,E,z,n,cs⟩::B)(hu:∀w,(underlying t).run P w=.ok (.slice e) w)(hz:0<z:=by decide):cp P U o st (aj n):=
 iM rfl λa w hs w'=>by
  obtain ⟨us,la,-⟩:=hs.mem.row ⟨v,E,z,n,cs⟩ ti;have hown:=la.row hz;have hv:∃p c,v=.slice p n c:=by
   rcases hown.2 with ⟨h1,h2⟩|⟨g,cap,cur,h1,-⟩
   ·dsimp only at h1 h2;subst h2;exact ⟨_,_,h1⟩
   exact ⟨_,_,h1⟩
  obtain ⟨p,c,rfl⟩:=hv;simp only [execOp,ho,resolve,mH,ca,d7,hs.val hx];simp [go_sem,invoke,builtin,Builtin.len_,hu,goInt]
class AU (bx:List aV) (Z:List Nat):Prop where h:∀z,z∈Z -> z∈bx.map aV.b
instance aAy{bx:List aV}:AU bx []:=⟨aM⟩
instance aBa{bx:List aV}{z:Nat}{Z:List Nat}[h1:mR bx z][h2:AU bx Z]:AU bx (z::Z):=⟨λy hy=>by rcases mem_cons.1 hy with rfl|h;exact h1.h;exact h2.h _ h⟩
def gi{bx:List aV}{rw:List aQ}{Z:List Nat}{v:aN}{E:ax}{z n b:Nat}{cs:List aO}[h1:AU bx Z](hn:(⟨bx,⟨v,E,z,n,cs⟩::rw⟩:aH).bl.Nodup)(hb:b∈aR v):b∈fq ⟨bx,⟨v,E,z,n,cs⟩::rw⟩ Z:=by
 have h3:b∈(⟨v,E,z,n,cs⟩::rw:List aQ).flatMap λr=>aR r.v:=by simp [hb]
 refine gZ.2 ⟨gz _ h3,λhz=>?_⟩;exact (eF.1 hn).2.2 b (h1.h b hz) b h3 J
def io{P:Program}{ops:Array Oper}{n:Nat}{T:List Nat}{bx:List aV}{rw:List aQ}{ts:List (Nat×AT)}{Q:Exit -> AS -> Prop}{l:List Oper}(i:Nat){v:aN}{E:ax}{z k:Nat}{cs:List aO}(hi:look ts i=some (ap v))(h:cN P ops l ⟨n,T,⟨bx,rw⟩,(i,.c (.sl k cs))::ts⟩ Q)(hz:0<z:=by decide):cN P ops l ⟨n,T,⟨bx,⟨v,E,z,k,cs⟩::rw⟩,ts⟩ Q:=
 u' (GJ (st:=⟨n,T,⟨bx,⟨v,E,z,k,cs⟩::rw⟩,ts⟩) (A:=[]) i hi rfl hz) h
section
variable {P:Program}{ops:Array Oper}{U T:List Nat}{o:Oper}{n d:Nat}{bx:List aV}{rw:List aQ}{ts:List (Nat×AT)}{Q:Exit -> AS -> Prop}{l:List Oper}{K:AS -> Prop}{st:AS}{t:AT}
theorem Gt{s:aH}{w:aa}(hm:Mem s w){r:aQ}(hr:r∈s.rows)(hn:0<r.n)(hz:0<r.z):∃g cap,r.v=.slice (some ⟨g,0,none⟩) r.n cap:=by
 obtain ⟨us,h0,-⟩:=hm.row r hr;obtain ⟨h1,h2⟩:=h0.row hz;rcases h2 with ⟨-,h2⟩|⟨g,cap,cur,h2,-⟩
 ·omega
 exact ⟨g,cap,h2⟩
theorem zY(A:List aQ){B:List aQ}{v:aN}{E:ax}{z k:Nat}{cs:List aO}(hk:0<k)(h:∀g cap,v=.slice (some ⟨g,0,none⟩) k cap -> cN P ops l ⟨n,T,⟨bx,A++⟨v,E,z,k,cs⟩::B⟩,ts⟩ Q)(hz:0<z:=by decide):cN P ops l ⟨n,T,⟨bx,A++⟨v,E,z,k,cs⟩::B⟩,ts⟩ Q:=λa w hs QQ hQ=>by
 obtain ⟨g,cap,hv⟩:=Gt hs.mem (r:=⟨v,E,z,k,cs⟩) aM hk hz;exact h g cap hv a w hs QQ hQ
theorem sX(A:List aQ){c:Code}{B:List aQ}{v:aN}{E:ax}{z k:Nat}{cs:List aO}(hk:0<k)(h:∀g cap,v=.slice (some ⟨g,0,none⟩) k cap -> bi P c ⟨n,T,⟨bx,A++⟨v,E,z,k,cs⟩::B⟩,ts⟩ Q)(hz:0<z:=by decide):bi P c ⟨n,T,⟨bx,A++⟨v,E,z,k,cs⟩::B⟩,ts⟩ Q:=λa w hs QQ hQ=>by
 obtain ⟨g,cap,hv⟩:=Gt hs.mem (r:=⟨v,E,z,k,cs⟩) aM hk hz;exact h g cap hv a w hs QQ hQ
theorem kb{E E0:ax}{x:bb}{g off z zz k cap:Nat}{cs:List aO}{ag:Bool}(A:List aQ){B:List aQ}(hA:∀w,(isAgg E).run P w=.ok ag w)(hS:∀w,(sizeOf E).run P w=.ok z w)(hp:fi ag z cs off=some t)(ho:o.op=.load E x:=by exact rfl)(hx:aw st x=some (ap (.pointer (some ⟨g,off,none⟩))):=by exact rfl)(hrow:st.s.rows=A++⟨.slice (some ⟨g,0,none⟩) k cap,E0,zz,k,cs⟩::B:=by exact rfl)(hU:st.s.bl.Nodup -> g∉U:=by exact λ_ h=>gQ):cp P U o st t:=by
 intro a w hs hU2;obtain ⟨us,la,h2⟩:=hs.mem.row ⟨.slice (some ⟨g,0,none⟩) k cap,E0,zz,k,cs⟩ ti;have hown:=la.row0 J;obtain ⟨h3,h4⟩:=hown;rcases h4 with ⟨h4,-⟩|⟨g',cap',cur,hv,-,hh,hk,hcm,hcs,htk⟩
 ·cases h4
 cases hv;obtain ⟨v,hv,hl⟩:=Do (P:=P) (b:=g) (o:=0) hA hS h2 hp;refine ⟨v,hv,λw' hkp=>?_⟩;have hlt:g<w.heap.size:=hs.mem.lt g (gz _ (by rw [hrow];simp [aR,Value.ownBlock]));have hb:=hkp.block g hlt (hU hs.mem.nodup);have hl2:=hl w' (λj u hj=>by
  unfold World.cell?;simp only [hb,hh];have h9:(cur.toList.take (k*zz))[j]?=some u:=by rw [htk];exact hj
  rw [pD] at h9;split at h9
  ·simpa using h9
  cases h9)
 simp only [cq] at hl2;simp only [execOp,ho,hs.val hx,Instr.loadAt,Instr.sureAddr,dK,fo,eu];rw [hl2];rfl
theorem fH{E e:ax}{z:Nat}(hu:P.underlying E=some (.slice e))(hS:∀w,(sizeOf e).run P w=.ok z w)(h:∀g,K ⟨n,g::T,⟨bx,⟨.slice (some ⟨g,0,none⟩) 0 0,e,z,0,[]⟩::rw⟩,(d,ap (.slice (some ⟨g,0,none⟩) 0 0))::ts⟩)(ho:o.op=.buildSlice E 0 #[]:=by exact rfl)(hd:o.dst=some d:=by exact rfl)(hn:d<n:=by decide):db P U o ⟨n,T,⟨bx,rw⟩,ts⟩ K:=by
 intro a w hs KK QQ hK;unfold Oper.wp;have hrun:(execOp a.eval o).run P w=.ok (.value (.slice (some ⟨w.heap.size,0,none⟩) 0 0)) (w.alloc (.cells #[] e)):=by
  have h1:(underlying E).run P w=.ok (.slice e) w:=run_underlying hu w;have h2:(sizeOf e).run P w=.ok z w:=hS w;simp only [execOp,ho,Instr.buildSlice,dK,h1,eu,h2,rO];simp [go_sem,Instr.fill,newRow]
 rw [hrun,Oper.upon_value,hd];have hk:cQ [] w (w.alloc (.cells #[] e)):=(cQ.refl _ _).alloc _;have hne:w.heap.size∉(⟨bx,rw⟩:aH).bl:=λhm=>Oe;have hbl:(⟨bx,⟨.slice (some ⟨w.heap.size,0,none⟩) 0 0,e,z,0,[]⟩::rw⟩:aH).bl=bx.map aV.b++w.heap.size::rw.flatMap λr=>aR r.v:=Im;have hsub:∀b,b∈(⟨bx,⟨.slice (some ⟨w.heap.size,0,none⟩) 0 0,e,z,0,[]⟩::rw⟩:aH).bl -> b∈(⟨bx,rw⟩:aH).bl∨w.heap.size <= b:=λb hb=>by
  rw [hbl] at hb;simp only [mem_append,mem_cons] at hb;rcases hb with h|rfl|h
  ·exact .inl (gW _ h)
  ·exact .inr (bY _)
  exact .inl (gz _ h)
 have hup:f7 (bh (⟨bx,rw⟩:aH).bl w) (bh (⟨bx,⟨.slice (some ⟨w.heap.size,0,none⟩) 0 0,e,z,0,[]⟩::rw⟩:aH).bl (w.alloc (.cells #[] e))):=l_ hk jf hsub;have hsz:(w.alloc (.cells #[] e)).heap.size=w.heap.size+1:=aM;have hm:Mem ⟨bx,⟨.slice (some ⟨w.heap.size,0,none⟩) 0 0,e,z,0,[]⟩::rw⟩ (w.alloc (.cells #[] e)):=by
  refine ⟨?_,λb hb=>?_,λx hx=>?_,λr hr=>?_⟩
  ·rw [hbl];have hnd:(bx.map aV.b++rw.flatMap λr=>aR r.v).Nodup:=hs.mem.nodup;rw [eF] at hnd⊢;refine ⟨hnd.1,mu.2 ⟨λh=>hne (gz _ h),hnd.2.1⟩,λa ha b hb=>?_⟩;rcases mem_cons.1 hb with rfl|hb
   ·intro he;subst he;exact hne (gW _ ha)
   exact hnd.2.2 a ha b hb
  ·rw [hbl] at hb;simp only [mem_append,mem_cons] at hb;rw [hsz];rcases hb with h|rfl|h
   ·exact EC (hs.mem.lt b (gW _ h))
   ·exact H8 _
   exact EC (hs.mem.lt b (gz _ h))
  ·obtain ⟨us,ae,e2⟩:=hs.mem.box x hx;exact ⟨us,Qs,e2.mono hup⟩
  rcases mem_cons.1 hr with rfl|hr
  ·refine ⟨[],.inl ⟨aM,.inr ⟨w.heap.size,0,#[],J,eL _,?_,bY _,eL _,aM,aM⟩⟩,.nil _⟩;show (w.heap.push _)[w.heap.size]?=_;simp
  obtain ⟨us,ae,e2⟩:=hs.mem.row r hr;exact ⟨us,ae.keep λg hg=>hk.block g (hs.mem.lt g (gz _ (kr.2 ⟨r,hr,hg⟩))) aM,e2.mono hup⟩
 have s1:=hs.step (st:=⟨n,T,⟨bx,rw⟩,ts⟩) (w.heap.size::T) (hk.mono aM) hm hsub;refine hK _ _ _ (h _) (s1.put (v:=.slice (some ⟨w.heap.size,0,none⟩) 0 0) hn (.c _ _ (.val _ J))) ⟨hk.mono aM,hk.mono aM,hsub,λb hb=>?_⟩ (hk.mono aM);rcases mem_cons.1 hb with rfl|hb
 ·exact .inr (bY _)
 exact .inl hb
end
end
section
open Go.RowKit
def qy{a b:Bool}(h:a=true↔b=true):Ending.returned (.bool a)=.returned (.bool b):=by rw [Bool.eq_iff_iff.2 h]
def kz{k:IntKind}{a b:Int}(h:a=b):Ending.returned (.int k a)=.returned (.int k b):=by rw [h]
def DV(c:UInt8)(w:aa):
  Calls prog 140 #[.int .u8 c.toNat] w λe w'=>e=.returned (.bool (isSp c)) /\ w=w':=by
 unfold isSp;generalize (c.toNat:Int)=n
 go_enter func140,Tryz.ntmps140
 go_wp2
 all_goals (go_ret;refine ⟨qy ?_,rfl⟩;simp;try omega)
def CC(c:UInt8)(w:aa):
  Calls prog 143 #[.int .u8 c.toNat] w λe w'=>e=.returned (.bool (gH c)) /\ w=w':=by
 unfold gH;generalize (c.toNat:Int)=n
 go_enter func143,Tryz.ntmps143
 go_wp2
 all_goals (go_ret;refine ⟨qy ?_,rfl⟩;simp;try omega)
def Ai(c:UInt8)(w:aa):
  Calls prog 145 #[.int .u8 c.toNat] w λe w'=>e=.returned (.bool (dT c)) /\ w=w':=by
 unfold dT;generalize (c.toNat:Int)=n
 go_enter func145,Tryz.ntmps145
 go_wp2
 all_goals (go_ret;refine ⟨qy ?_,rfl⟩;simp;try omega)
def QN(c:UInt8)(w:aa):
  Calls prog 168 #[.int .u8 c.toNat] w λe w'=>e=.returned (.bool (dV c)) /\ w=w':=by
 go_enter func168,Tryz.ntmps168
 go_wp2_with (first|(go_at_call 143;refine (CC _ _).mono ?_;rintro e w' ⟨rfl,rfl⟩)|(go_at_call 145;refine (Ai _ _).mono ?_;rintro e w' ⟨rfl,rfl⟩))
 all_goals (go_ret;refine ⟨qy ?_,rfl⟩;simp [dV, *])
def FR(s p:aI)(w:aa):
  Calls prog 141 #[.string s,.string p] w λe w'=>e=.returned (.bool (Lib.hasPrefix s.data.toList p.data.toList)) /\ w=w':=
 (Tryz.strings_HasPrefix s p w).mono λ_ _ h=>⟨h.1,h.2.symm⟩
def Gd(s:aI)(c:Int)(w:aa):
  Calls prog 142 #[.string s,.int .u8 c] w λe w'=>e=.returned (.int .i64 (Lib.indexByte s.data.toList c.toNat.toUInt8)) /\ w=w':=
 (Tryz.strings_IndexByte s c w).mono λ_ _ h=>⟨h.1,h.2.symm⟩
def A8(s:aI)(k0:Nat)(w:aa)(hs:s.size <= 9223372036854775807)(hk:k0 <= s.size):
  Calls prog 120 #[.string s,.int .i64 k0] w λe w'=>e=.returned (.int .i64 (cc s.data.toList k0)) /\ w=w':=by
 have hlen:s.data.toList.length=s.size:=J
 go_enter func120,Tryz.ntmps120
 go_wp2_with fail
 go_loop [1,5] (λv _=>∃k:Nat,k <= s.size /\ v=.int .i64 k /\ cc s.data.toList k=cc s.data.toList k0) (λv _=>s.size-(intOf v).toNat)
 case atStart=>exact ⟨k0,hk,rfl,rfl⟩
 case round=>
  obtain ⟨k,hk,rfl,hr⟩:=hrel;have HR:=Lib.hid hr;clear hr;have HL:=Lib.hid hlen;clear hlen;by_cases hlt:k<s.size
  ·by_cases hsp:isSp s[k]=true
   ·go_wp2_with (first|(go_at_call 140;refine (DV _ _).mono ?_;rintro e w' ⟨rfl,rfl⟩))
    go_round
    case rel=>exact ⟨k+1,Y,kw,(Je _ _ wV hsp).trans HR.out⟩
    case measure=>simp [intOf];omega
   have aSh:isSp s[k]=false:=by simpa using hsp
   clear hsp;by_cases hc:Lib.hasPrefix (s.data.toList.drop k) [47,47]=true
   ·have hcom:=Sn _ _ wV hc;have HC:=Lib.hid hcom;clear hcom;have htk:List.take (s.size-k) (List.drop k s.data.toList)=List.drop k s.data.toList:=take_of_length_le aM;by_cases hn:Lib.indexByte (s.data.toList.drop k) 10<0
    ·go_wp2_with (first|(go_at_call 140;refine (DV _ _).mono ?_;rintro e w' ⟨rfl,rfl⟩)|(go_at_call 141;refine (FR _ _ _).mono ?_;rintro e w' ⟨rfl,rfl⟩)|(go_at_call 142;refine (Gd _ _ _).mono ?_;rintro e w' ⟨rfl,rfl⟩))
     go_ret
     exact ⟨kz (by rw [←HR.out,HC.out.1 hn,HL.out]),J⟩
    obtain ⟨j,hj⟩:∃j:Nat,Lib.indexByte (s.data.toList.drop k) 10=j:=⟨(Lib.indexByte (s.data.toList.drop k) 10).toNat,Y⟩;obtain ⟨h1,h2,h3⟩:=HC.out.2 j hj;rw [HL.out] at h2;have H1:=Lib.hid h1;clear h1;clear hn
    go_wp2_with (first|(go_at_call 140;refine (DV _ _).mono ?_;rintro e w' ⟨rfl,rfl⟩)|(go_at_call 141;refine (FR _ _ _).mono ?_;rintro e w' ⟨rfl,rfl⟩)|(go_at_call 142;refine (Gd _ _ _).mono ?_;rintro e w' ⟨rfl,rfl⟩))
    go_round
    case rel=>exact ⟨k+j,Y,kw,H1.out.trans HR.out⟩
    case measure=>simp [intOf];omega
   have hc':Lib.hasPrefix (s.data.toList.drop k) [47,47]=false:=by simpa using hc
   have hstop:cc s.data.toList k=k:=by
    refine G0 _ _ wV aSh ?_;rintro ⟨h1,h2⟩
    apply hc
    rw [K8,jw _ _ wV,h1];cases hd:s.data.toList.drop (k+1) with
    |nil=>simp [hd] at h2
    |cons a r=>rw [hd] at h2;simp at h2;subst h2;exact ⟨r,rfl⟩
   have HS:=Lib.hid hstop;clear hstop;clear hc;have htk:List.take (s.size-k) (List.drop k s.data.toList)=List.drop k s.data.toList:=take_of_length_le aM
   go_wp2_with (first|(go_at_call 140;refine (DV _ _).mono ?_;rintro e w' ⟨rfl,rfl⟩)|(go_at_call 141;refine (FR _ _ _).mono ?_;rintro e w' ⟨rfl,rfl⟩))
   go_ret
   exact ⟨kz (by rw [←HR.out,HS.out]),J⟩
  go_wp2_with fail
  go_ret
  exact ⟨kz (by rw [←HR.out,GT _ _ Ih,HL.out];omega),J⟩
def Bz(p:UInt8 -> Bool)(l:List UInt8)(k:Nat)(hk:k<l.length)(h:(l.takeWhile p).length=k+((l.drop k).takeWhile p).length):
  (p l[k]=true -> (l.takeWhile p).length=(k+1)+((l.drop (k+1)).takeWhile p).length) /\ (p l[k]=false -> (l.takeWhile p).length=k):=by
 rw [jw l k hk] at h;refine ⟨λhp=>?_,λhp=>?_⟩
 ·rw [uJ hp] at h;simp at h;omega
 rw [List.takeWhile_cons_of_neg (by simp [hp])] at h;simpa using h
def XD(s:aI)(w:aa)(hs:s.size <= 9223372036854775807):
  Calls prog 167 #[.string s,.func (.func 145) #[] #[]] w λe w'=>e=.returned (.int .i64 (s.data.toList.takeWhile dT).length) /\ w=w':=by
 have HL:=Lib.hid (show s.data.toList.length=s.size from J)
 go_enter func167,Tryz.ntmps167
 go_wp2_with fail
 go_loop [5] (λv=>∃k:Nat,k <= s.size /\ v=.int .i64 k /\ (s.data.toList.takeWhile dT).length=k+((s.data.toList.drop k).takeWhile dT).length) (λv=>s.size-(intOf v).toNat)
 case atStart=>exact ⟨0,Y,rfl,aM⟩
 case round=>
  obtain ⟨k,hk,rfl,hr⟩:=hrel;by_cases hlt:k<s.size
  ·have HT:=Lib.hid (Bz dT s.data.toList k wV hr);clear hr;by_cases hp:dT s[k]=true
   ·go_wp2_with (first|(go_at_call 145;refine (Ai _ _).mono ?_;rintro e w' ⟨rfl,rfl⟩))
    go_round
    case rel=>exact ⟨k+1,Y,kw,HT.out.1 hp⟩
    case measure=>simp [intOf];omega
   have hp':dT s[k]=false:=by simpa using hp
   clear hp
   go_wp2_with (first|(go_at_call 145;refine (Ai _ _).mono ?_;rintro e w' ⟨rfl,rfl⟩))
   go_ret
   exact ⟨kz (by rw [HT.out.2 hp']),J⟩
  have HR:=Lib.hid hr;clear hr
  go_wp2_with fail
  go_ret
  refine ⟨kz ?_,J⟩;rw [HR.out,m6 Ih];rfl
def VT(s:aI)(w:aa)(hs:s.size <= 9223372036854775807):
  Calls prog 167 #[.string s,.func (.func 168) #[] #[]] w λe w'=>e=.returned (.int .i64 (s.data.toList.takeWhile dV).length) /\ w=w':=by
 have HL:=Lib.hid (show s.data.toList.length=s.size from J)
 go_enter func167,Tryz.ntmps167
 go_wp2_with fail
 go_loop [5] (λv=>∃k:Nat,k <= s.size /\ v=.int .i64 k /\ (s.data.toList.takeWhile dV).length=k+((s.data.toList.drop k).takeWhile dV).length) (λv=>s.size-(intOf v).toNat)
 case atStart=>exact ⟨0,Y,rfl,aM⟩
 case round=>
  obtain ⟨k,hk,rfl,hr⟩:=hrel;by_cases hlt:k<s.size
  ·have HT:=Lib.hid (Bz dV s.data.toList k wV hr);clear hr;by_cases hp:dV s[k]=true
   ·go_wp2_with (first|(go_at_call 168;refine (QN _ _).mono ?_;rintro e w' ⟨rfl,rfl⟩))
    go_round
    case rel=>exact ⟨k+1,Y,kw,HT.out.1 hp⟩
    case measure=>simp [intOf];omega
   have hp':dV s[k]=false:=by simpa using hp
   clear hp
   go_wp2_with (first|(go_at_call 168;refine (QN _ _).mono ?_;rintro e w' ⟨rfl,rfl⟩))
   go_ret
   exact ⟨kz (by rw [HT.out.2 hp']),J⟩
  have HR:=Lib.hid hr;clear hr
  go_wp2_with fail
  go_ret
  refine ⟨kz ?_,J⟩;rw [HR.out,m6 Ih];rfl
structure Env (w:World):Prop where
 words:∀j,j<words.length -> w.cell? ⟨0,0+j,none⟩=some (.string (words.getD j ByteArray.empty))
 maxLen:∃m:Int,w.cell? ⟨2,0,none⟩=some (.int .i64 m)
 size:Nat.max 0 2+1 <= w.heap.size
def Env.below{B:Nat}{w w':aa}(h:Env w)(hb:Below B w w')(hB:Nat.max 0 2+1 <= B):Env w':=by
 refine ⟨λj hj=>?_,?_,iN h.size hb.size⟩
 ·rw [hb.cell (p:=⟨0,0+j,none⟩) (mM (V:0<Nat.max 0 2+1) hB)];exact h.words j hj
 rw [hb.cell (p:=⟨2,0,none⟩) (mM (V:2<Nat.max 0 2+1) hB)];exact h.maxLen
def Env.alloc{w:aa}(h:Env w)(o:Obj):Env (w.alloc o):=h.below ((Below.refl w.heap.size w).alloc (bY _) o) h.size
def Env.drew{w:aa}(h:Env w):Env w.drew:=h.below ((Below.refl w.heap.size w).drew) h.size
def Env.setCell{w:aa}(h:Env w){a:Addr}(ha:Nat.max 0 2+1 <= a.block)(u:aN):Env (w.setCell a u):=h.below ((Below.refl (Nat.max 0 2+1) w).setCell ha u) (bY _)
def XC(s:aI)(w:aa)(he:Env w):
  Calls prog 184 #[.slice (some ⟨0,0,none⟩) 11 11,.string s] w λe w'=>e=.returned (.bool (fT s)) /\ w=w':=by
 refine (Tryz.slices_Contains_string 0 0 11 11 words s w V V he.words).mono λe w' h=>⟨?_,h.2.symm⟩;rw [h.1];refine qy ?_;rw [Lib.containsS_iff,F8];rfl
def Rp(s:aI)(w:aa)(he:Env w):
  Calls prog 169 #[.string s] w λe w'=>e=.returned (.bool (fT s)) /\ w=w':=by
 go_enter func169,Tryz.ntmps169
 go_wp2_with (first|(go_at_call 184;refine (XC _ _ he).mono ?_;rintro e w' ⟨rfl,rfl⟩))
 go_ret
 exact ⟨J,J⟩
def Kq(s:aI)(p:UInt8 -> Bool):s.extract 0 (s.data.toList.takeWhile p).length=bytes (s.data.toList.takeWhile p):=by
 have:=ByteArray.extract_mk s.data.toList 0 (s.data.toList.takeWhile p).length;rw [show (ByteArray.mk s.data.toList.toArray)=s from by simp] at this;rw [this,bytes,tH,yi]
 congr 2
 conv=>rhs;rw [Kn]
 rw [Kn,kU,List.take_eq_take_iff];omega
def YS(s:aI)(w:aa)(hs:s.size <= 9223372036854775807)(he:Env w):
  Calls prog 144 #[.string s] w λe w'=>e=.returned (.tuple #[.agg #[.int .i64 ((if fT (bytes (s.data.toList.takeWhile dV)) then 3 else 1:Nat):Int),.string (bytes (s.data.toList.takeWhile dV)),.int .i64 0,.int .i64 0],.int .i64 ((if 16<(s.data.toList.takeWhile dV).length then 3 else 0:Nat):Int)]) /\ Below w.heap.size w w':=by
 have hle:(s.data.toList.takeWhile dV).length <= s.size:=(xF _).length_le;have hx:=Kq s dV;have hsz:(bytes (s.data.toList.takeWhile dV)).size=(s.data.toList.takeWhile dV).length:=wm
 go_enter func144,Tryz.ntmps144
 go_wp2_with (first|(go_at_call 167;refine (VT _ _ hs).mono ?_;rintro e w' ⟨rfl,rfl⟩)|(go_at_call 169;refine (Rp _ _ ((he.alloc _).alloc _)).mono ?_;rintro e w' ⟨rfl,rfl⟩))
 all_goals (go_returns;refine ⟨?_,eX⟩)
 all_goals first|rfl|(rw [if_pos Y];rfl)|(rw [if_neg Y];rfl)
def XY(t:aI)(k n:Nat)(hk:k<t.size)(h:fY 0 t.data.toList=fY n (t.data.toList.drop k)):
  ((9223372036854775807-(t[k].toNat-48))/10<n -> fY 0 t.data.toList=none) /\ (¬(9223372036854775807-(t[k].toNat-48))/10<n -> fY 0 t.data.toList=fY (10*n+(t[k].toNat-48)) (t.data.toList.drop (k+1))):=by
 rw [jw _ k (by exact hk),fY] at h;refine ⟨λhn=>?_,λhn=>?_⟩
 ·rw [h];exact if_pos hn
 rw [h];exact if_neg hn
def RG(t:ByteArray)(e:Ending):Prop:=∃n:Nat,(n:Int) <= 9223372036854775807 /\ ((fY 0 t.data.toList=none /\ e=.returned (.tuple #[.agg #[.int .i64 2,.string t,.int .i64 n,.int .i64 0],.int .i64 2]))∨(fY 0 t.data.toList=some n /\ e=.returned (.tuple #[.agg #[.int .i64 2,.string t,.int .i64 n,.int .i64 0],.int .i64 0])))
def Yv(s:aI)(w:aa)(hs:s.size <= 9223372036854775807):
  Calls prog 146 #[.string s] w λe w'=>RG (bytes (s.data.toList.takeWhile dT)) e /\ Below w.heap.size w w':=by
 have hle:(s.data.toList.takeWhile dT).length <= s.size:=(xF _).length_le;have hx:=Kq s dT;have hsz:(bytes (s.data.toList.takeWhile dT)).size=(s.data.toList.takeWhile dT).length:=wm;have hall:∀c∈(bytes (s.data.toList.takeWhile dT)).data.toList,dT c=true:=by
  intro c hc;simp only [bytes] at hc;exact (fC.1 (FZ (p:=dT) (l:=s.data.toList))) c hc
 generalize hm:(s.data.toList.takeWhile dT).length=m at *;generalize ht:bytes (s.data.toList.takeWhile dT)=t at *;have HM:=Lib.hid hm;have HT:=Lib.hid ht;have HA:=Lib.hid hall;have HX:=Lib.hid hx;clear hm ht hall;subst hsz
 go_enter func146,Tryz.ntmps146
 go_wp2_with (first|(go_at_call 167;refine (XD _ _ hs).mono ?_;rintro e w' ⟨rfl,rfl⟩;rw [HM.out]))
 go_loopw [15] (λv wr=>∃k n:Nat,k <= t.size /\ v=.int .i64 k /\ n <= 9223372036854775807 /\ fY 0 t.data.toList=fY n (t.data.toList.drop k) /\ wr=(w.alloc (Obj.cells #[Value.int IntKind.i64 0,Value.string {data:=#[]},Value.int IntKind.i64 0,Value.int IntKind.i64 0] 150)).alloc (Obj.cells #[Value.int IntKind.i64 2,Value.string t,Value.int IntKind.i64 n,Value.int IntKind.i64 0] 150)) (λv _=>t.size-(intOf v).toNat)
 case atStart=>exact ⟨0,0,Y,rfl,Y,rfl,rfl⟩
 case round=>
  obtain ⟨k,n,hk,rfl,hn,hv,rfl⟩:=hrel;by_cases hlt:k<t.size
  ·have hst:=XY t k n hlt hv;have hd:dT t[k]=true:=HA.out _ (by simp [ByteArray.getElem_eq_getElem_data]);have HS:=Lib.hid hst;clear hst hv;simp only [dT,decide_eq_true_eq] at hd;obtain ⟨hd1,hd2⟩:=hd;by_cases hov:(9223372036854775807-(t[k].toNat-48))/10<n
   ·have aMq:(9223372036854775807-((t[k].toNat:Int)-48))/10<(n:Int):=Y;have HO:=Lib.hid hov;clear hov
    go_wp2_with fail
    go_returns
    exact ⟨⟨n,Y,.inl ⟨HS.out.1 HO.out,J⟩⟩,eX⟩
   have aMq:(n:Int) <= (9223372036854775807-((t[k].toNat:Int)-48))/10:=Y;have HO:=Lib.hid hov;clear hov
   go_wp2_with fail
   go_roundw
   case rel=>exact ⟨k+1,10*n+(t[k].toNat-48),Y,kw,Y,HS.out.2 HO.out,by congr 5;go_num⟩
   case measure=>simp [intOf];omega
  have HV:=Lib.hid hv;clear hv
  go_wp2_with fail
  go_returns
  refine ⟨⟨n,Y,.inr ⟨?_,J⟩⟩,eX⟩;rw [HV.out,m6 (by show t.size <= k;omega),fY]
def JD(sub:aI)(w:aa)(he:Env w):
  Calls prog 170 #[.string ⟨#[60,61,32,62,61,32,61,61,32,33,61,32,38,38,32,124,124]⟩,.string sub] w λe w'=>e=.returned (.bool (Lib.contains xE sub.data.toList)) /\ w=w':=by
 obtain ⟨m,hm⟩:=he.maxLen;exact (Tryz.strings_Contains _ sub m w V hm).mono λe w' h=>⟨h.1,h.2.symm⟩
def NR(c:UInt8)(w:aa):
  Calls prog 142 #[.string ⟨#[40,41,123,125,91,93,44,59,61,43,45,42,47,37,60,62,33]⟩,.int .u8 c.toNat] w λe w'=>e=.returned (.int .i64 (Lib.indexByte j_ c)) /\ w=w':=by
 refine (Gd _ _ _).mono λe w' h=>⟨?_,h.2⟩;rw [h.1];congr 3;simp
def zI(s:ByteArray)(n:Nat):Value:=.tuple #[.agg #[.int .i64 (if n=0 then 0 else 4),.string (bytes (s.data.toList.take n)),.int .i64 0,.int .i64 0],.int .i64 (if n=0 then 1 else 0)]
def Gi(s:aI)(n:Nat):s.extract 0 n=bytes (s.data.toList.take n):=by
 have:=ByteArray.extract_mk s.data.toList 0 n;rw [show (ByteArray.mk s.data.toList.toArray)=s from by simp] at this;rw [this,bytes,tH,yi]
def wv(l:List UInt8):(bytes l).data.toList=l:=wL
def WR(s:aI)(w:aa)(he:Env w)(h2:1<s.size)(h0:((s[0].toNat:Int) == 32)=false)(h1:((s[1].toNat:Int) == 32)=false)(hc:Lib.contains xE (s.data.toList.take 2)=true):
  Calls prog 147 #[.string s] w λe w'=>e=.returned (zI s 2) /\ Below w.heap.size w w':=by
 have h0':((s[0].toNat:Int) != 32)=true:=by simp at h0⊢;exact h0
 have h1':((s[1].toNat:Int) != 32)=true:=by simp at h1⊢;exact h1
 have h2':(1:Int)<s.size:=Y;have hx:=Gi s 2;have hbd:=wv (s.data.toList.take 2)
 go_enter func147,Tryz.ntmps147
 go_wp2_with (first|(go_at_call 170;refine (JD _ _ (he.alloc _)).mono ?_;rintro e w' ⟨rfl,rfl⟩))
 go_returns
 exact ⟨J,eX⟩
inductive GL (s:ByteArray):Prop
 |short (h:(s.size:Int) <= 1)
 |first (h2:(1:Int)<s.size) (h0:0<s.size) (h:((s[0].toNat:Int) != 32)=false)
 |second (h2:(1:Int)<s.size) (h3:1<s.size) (h0:((s[0].toNat:Int) != 32)=true) (h:((s[1].toNat:Int) != 32)=false)
 |other (h2:(1:Int)<s.size) (h3:1<s.size) (h0:((s[0].toNat:Int) != 32)=true) (h1:((s[1].toNat:Int) != 32)=true) (hc:Lib.contains xE (s.data.toList.take 2)=false)
def Ww(s:aI)(w:aa)(he:Env w)(h2:0<s.size)(hn:GL s)(hb:0 <= Lib.indexByte j_ s[0]):
  Calls prog 147 #[.string s] w λe w'=>e=.returned (zI s 1) /\ Below w.heap.size w w':=by
 have hx:=Gi s 1;cases hn;all_goals
  go_enter func147,Tryz.ntmps147
  go_wp2_with (first|(go_at_call 170;refine (JD _ _ (he.alloc _)).mono ?_;rintro e w' ⟨rfl,rfl⟩)|(go_at_call 142;refine (NR _ _).mono ?_;rintro e w' ⟨rfl,rfl⟩))
  go_returns
  exact ⟨J,eX⟩
def Yk(s:aI)(w:aa)(he:Env w)(h2:0<s.size)(hn:GL s)(hb:Lib.indexByte j_ s[0]<0):
  Calls prog 147 #[.string s] w λe w'=>e=.returned (zI s 0) /\ Below w.heap.size w w':=by
 have hx:=Gi s 1;cases hn;all_goals
  go_enter func147,Tryz.ntmps147
  go_wp2_with (first|(go_at_call 170;refine (JD _ _ (he.alloc _)).mono ?_;rintro e w' ⟨rfl,rfl⟩)|(go_at_call 142;refine (NR _ _).mono ?_;rintro e w' ⟨rfl,rfl⟩))
  go_returns
  exact ⟨J,eX⟩
def vC(c:UInt8):(c≠32 -> ((c.toNat:Int) != 32)=true) /\ (c=32 -> ((c.toNat:Int) != 32)=false):=by
 refine ⟨λh=>?_,λh=>by subst h;rfl⟩;simp only [bne_iff_ne,ne_eq];intro h3;apply h;apply UInt8.toNat_inj.1;show c.toNat=32;omega
def ZH(s:aI)(w:aa)(he:Env w)(h0:0<s.size):
  Calls prog 147 #[.string s] w λe w'=>e=.returned (zI s (kI s.data.toList)) /\ Below w.heap.size w w':=by
 have hl:s.data.toList.length=s.size:=J;have hcons:=jw s.data.toList 0 Y;rw [tH] at hcons;have key:GL s /\ ¬(2 <= s.data.toList.length /\ s.data.toList.take 2∈kV) -> Calls prog 147 #[.string s] w λe w'=>e=.returned (zI s (kI s.data.toList)) /\ Below w.heap.size w w':=by
  rintro ⟨hn,hm⟩;by_cases hb:Lib.indexByte j_ s[0]<0
  ·have:=(NI _).1 hb;rw [show kI s.data.toList=0 from by rw [hcons] at hm⊢;exact QI hm this];exact Yk s w he h0 hn hb
  have:s[0]∈j_:=Classical.byContradiction λh=>hb ((NI _).2 h);rw [show kI s.data.toList=1 from by rw [hcons] at hm⊢;exact GR hm this];exact Ww s w he h0 hn Y
 by_cases h2:1<s.size
 ·have e2:s.data.toList.take 2=[s[0],s[1]]:=by
   rw [hcons,jw s.data.toList 1 Y];rfl
  by_cases ha:s[0]=32
  ·refine key ⟨.first Y h0 ((vC _).2 ha),λh=>?_⟩;rw [e2] at h;exact (Nw _ _ h.2).1 ha
  by_cases hb:s[1]=32
  ·refine key ⟨.second Y h2 ((vC _).1 ha) ((vC _).2 hb),λh=>?_⟩;rw [e2] at h;exact (Nw _ _ h.2).2 hb
  by_cases hc:Lib.contains xE (s.data.toList.take 2)=true
  ·have hm:s.data.toList.take 2∈kV:=by rw [e2] at hc⊢;exact (Qu _ _ ha hb).1 hc
   rw [GK Y hm];have h3:=(vC _).1 ha;have h4:=(vC _).1 hb;exact WR s w he h2 (by simp at h3⊢;exact h3) (by simp at h4⊢;exact h4) hc
  refine key ⟨.other Y h2 ((vC _).1 ha) ((vC _).1 hb) (by simpa using hc),λh=>hc ?_⟩;have hm:=h.2;rw [e2] at hm⊢;exact (Qu _ _ ha hb).2 hm
 ·exact key ⟨.short Y,by rintro ⟨h,_⟩;omega⟩
def qp{W w1:aa}(hb:Below W.heap.size W w1):(∀b o,b<W.heap.size -> w1.cell? ⟨b,o,none⟩=W.cell? ⟨b,o,none⟩) /\ (∀b o,b<W.heap.size -> w1.frozen? ⟨b,o,none⟩=W.frozen? ⟨b,o,none⟩):=
 ⟨λb o h=>hb.cell (p:=⟨b,o,none⟩) h,λb o h=>hb.frozen (p:=⟨b,o,none⟩) h⟩
def I'(l:List UInt8)(k num er:Int)(text:ByteArray):Prop:=
 (∃n:Nat,eK l=.err n /\ er=n /\ n≠0)∨(∃kd len nu:Nat,eK l=.tok kd len nu /\ er=0 /\ k=kd /\ num=nu /\ text=bytes (l.take len))
def C1(l:List UInt8)(e:Ending):Prop:=∃(k num er:Int) (text:ByteArray),e=.returned (.tuple #[.agg #[.int .i64 k,.string text,.int .i64 num,.int .i64 0],.int .i64 er]) /\ I' l k num er text
def takeWhile_take{α:Type}(p:α -> Bool)(l:List α):l.take (l.takeWhile p).length=l.takeWhile p:=
 (Il.1 (IB p)).symm
def wQ(s:aI)(h0:0<s.size):s.data.toList=s[0]::s.data.toList.drop 1:=by
 have:=jw s.data.toList 0 (by exact h0);rw [tH] at this;exact this
def XL(s:aI)(w:aa)(hs:s.size <= 9223372036854775807)(he:Env w)(h0:0<s.size)(hl:gH s[0]=true):
  Calls prog 144 #[.string s] w λe w'=>C1 s.data.toList e /\ Below w.heap.size w w':=by
 refine (YS s w hs he).mono λe w' ⟨h,hb⟩=>⟨⟨_,_,_,_,h,?_⟩,hb⟩;have hn:=ut (c:=s[0]) (r:=s.data.toList.drop 1) hl;rw [←wQ s h0] at hn;by_cases h16:16<(s.data.toList.takeWhile dV).length
 ·rw [if_pos h16] at hn;exact .inl ⟨3,hn,by rw [if_pos h16],Y⟩
 rw [if_neg h16] at hn;exact .inr ⟨_,_,_,hn,by rw [if_neg h16];rfl,rfl,rfl,by rw [takeWhile_take]⟩
def RB(s:aI)(w:aa)(hs:s.size <= 9223372036854775807)(h0:0<s.size)(hl:gH s[0]=false)(hd:dT s[0]=true):
  Calls prog 146 #[.string s] w λe w'=>C1 s.data.toList e /\ Below w.heap.size w w':=by
 refine (Yv s w hs).mono λe w' ⟨h,hb⟩=>⟨?_,hb⟩;obtain ⟨n,_,⟨hn,h⟩|⟨hn,h⟩⟩:=h
 ·refine ⟨_,_,_,_,h,.inl ⟨2,?_,J,Y⟩⟩;rw [wv] at hn;rw [wQ s h0] at hn;have hq:=yS hl hd hn;rw [←wQ s h0] at hq;exact hq
 refine ⟨_,_,_,_,h,.inr ⟨2,(s.data.toList.takeWhile dT).length,n,?_,J,J,J,by rw [takeWhile_take]⟩⟩;rw [wv] at hn;rw [wQ s h0] at hn;have hq:=xO hl hd hn;rw [←wQ s h0] at hq;exact hq
def Xw(s:aI)(w:aa)(he:Env w)(h0:0<s.size)(hl:gH s[0]=false)(hd:dT s[0]=false):
  Calls prog 147 #[.string s] w λe w'=>C1 s.data.toList e /\ Below w.heap.size w w':=by
 refine (ZH s w he h0).mono λe w' ⟨h,hb⟩=>⟨?_,hb⟩;have hn:=wB (c:=s[0]) (r:=s.data.toList.drop 1) hl hd;rw [←wQ s h0] at hn;by_cases hz:kI s.data.toList=0
 ·rw [if_pos hz] at hn;rw [hz] at h;exact ⟨_,_,_,_,h,.inl ⟨1,hn,rfl,Y⟩⟩
 rw [if_neg hz] at hn;refine ⟨_,_,_,_,h,.inr ⟨_,_,_,hn,by rw [if_neg hz],by rw [if_neg hz];rfl,J,J⟩⟩
def E9(s:aI)(w:aa)(hs:s.size <= 9223372036854775807)(he:Env w)(h0:0<s.size):
  Calls prog 121 #[.string s] w λe w'=>C1 s.data.toList e /\ Below w.heap.size w w':=by
 by_cases hl:gH s[0]=true;focus
  go_enter func121,Tryz.ntmps121
  go_wp2_with (first|(go_at_call 143;refine (CC _ _).mono ?_;rintro e w' ⟨rfl,rfl⟩)|(go_at_call 144;refine (XL _ _ hs (he.alloc _) h0 hl).mono ?_;rintro e w' ⟨⟨k,num,er,text,rfl,hR⟩,hb⟩;have HR:=Lib.hid hR;clear hR;obtain ⟨hc,hf⟩:=qp hb))
 rotate_left;focus
  have hl':gH s[0]=false:=uk;clear hl;by_cases hd:dT s[0]=true;focus
   go_enter func121,Tryz.ntmps121
   go_wp2_with (first|(go_at_call 143;refine (CC _ _).mono ?_;rintro e w' ⟨rfl,rfl⟩)|(go_at_call 145;refine (Ai _ _).mono ?_;rintro e w' ⟨rfl,rfl⟩)|(go_at_call 146;refine (RB _ _ hs h0 hl' hd).mono ?_;rintro e w' ⟨⟨k,num,er,text,rfl,hR⟩,hb⟩;have HR:=Lib.hid hR;clear hR;obtain ⟨hc,hf⟩:=qp hb))
  rotate_left;have hd':dT s[0]=false:=by simpa using hd
  clear hd
  go_enter func121,Tryz.ntmps121
  go_wp2_with (first|(go_at_call 143;refine (CC _ _).mono ?_;rintro e w' ⟨rfl,rfl⟩)|(go_at_call 145;refine (Ai _ _).mono ?_;rintro e w' ⟨rfl,rfl⟩)|(go_at_call 147;refine (Xw _ _ (he.alloc _) h0 hl' hd').mono ?_;rintro e w' ⟨⟨k,num,er,text,rfl,hR⟩,hb⟩;have HR:=Lib.hid hR;clear hR;obtain ⟨hc,hf⟩:=qp hb))
 all_goals
  refine bodyPost_ret (v:=.tuple #[.agg #[.int .i64 k,.string text,.int .i64 num,.int .i64 0],.int .i64 er]) (by simp [results,Tryz.results121,go_sem,hc]) J ?_;exact ⟨⟨_,_,_,_,J,HR.out⟩,((((Below.refl _ _).alloc (bY _) _).trans (hb.mono aM)).setCell aM _).setCell aM _|>.setCell aM _|>.setCell aM _⟩
def Tok.cells(t:Tok):List Value:=[.int .i64 t.kind,.string t.text,.int .i64 t.num,.int .i64 t.pos]
def jg(l:List Tok):List Value:=l.flatMap Tok.cells
def EU(l:List Tok)(t:Tok):jg l++[.int .i64 t.kind,.string t.text,.int .i64 t.num,.int .i64 t.pos]=jg (l++[t]):=by simp [jg,Tok.cells]
def L4:(prog.info? 150).map (λi=>(i.zero,i.size,i.bytes))=some (some (.agg #[.int .i64 0,.string ⟨#[]⟩,.int .i64 0,.int .i64 0]),4,40):=aL
def X9{l:List UInt8}{k num er:Int}{text:aI}{n:Nat}(h:I' l k num er text)(hn:eK l=.err n):er=n /\ (n:Int)≠0:=by
 rcases h with ⟨m,h1,h2,h3⟩|⟨_,_,_,h1,_⟩
 ·rw [hn] at h1;cases h1;exact ⟨h2,Y⟩
 rw [hn] at h1;cases h1
def O6{l:List UInt8}{k num er:Int}{text:aI}{a b c:Nat}(h:I' l k num er text)(hn:eK l=.tok a b c):er=0 /\ k=a /\ num=c /\ text=bytes (l.take b):=by
 rcases h with ⟨m,h1,h2,h3⟩|⟨_,_,_,h1,h2,h3,h4,h5⟩
 ·rw [hn] at h1;cases h1
 rw [hn] at h1;cases h1;exact ⟨h2,h3,h4,h5⟩
def WG(w:World)(s:List UInt8)(v:Value)(pos er:Int):Prop:=
 (∃l,gj s=.ok l /\ eD w v l.length (jg l) /\ pos=s.length /\ er=0 /\ l.length <= 4001)∨(∃p e:Nat,gj s=.err p e /\ v=.slice none 0 0 /\ pos=p /\ er=e /\ e≠0)
def sC(w:World)(N:Nat)(s:List UInt8)(v:Value)(pos er:Int):Prop:=
 (∃l,gj s=.ok l /\ w.ownsRow N 150 4 v l.length (jg l) /\ pos=s.length /\ er=0 /\ l.length <= 4001)∨(∃p e:Nat,gj s=.err p e /\ v=.slice none 0 0 /\ pos=p /\ er=e /\ e≠0)
def sC.r{w:aa}{N:Nat}{s:List UInt8}{v:aN}{pos er:Int}(h:sC w N s v pos er):WG w s v pos er:=
 h.imp (λ⟨l,h1,h2,h3⟩=>⟨l,h1,eD.Fk h2,h3⟩) id
def Tu(a:Option Addr)(n cap:Nat)(w:aa)(hs:(262144:Int)<n):
  Calls prog 94 #[.slice a n cap] w λe w'=>e=.returned (.tuple #[.slice none 0 0,.int .i64 262144,.int .i64 3]) /\ w=w':=by
 go_enter func94,Tryz.ntmps94
 go_wp2_with fail
 go_step3
 go_wp2_with fail
 rw [Exit.noGoto_ret]
 go_ret3
 exact ⟨J,J⟩
def SF(s:aI)(a:Option Addr)(n cap:Nat)(w:aa)(he:Env w)(hn:n=s.size)(hs:s.size <= 262144)
  (hcv:(convert 63 9 (.slice a n cap)).run prog w=.ok (.string s) w):
  Calls prog 94 #[.slice a n cap] w λe w'=>(∃v pos er,e=.returned (.tuple #[v,.int .i64 pos,.int .i64 er]) /\ sC w' w.heap.size s.data.toList v pos er) /\ Below w.heap.size w w':=by
 subst hn;obtain ⟨i0,hi,hz0,hz1,hz2⟩:=info_parts L4;have HS:=Lib.hid (show s.data.toList.length=s.size from J)
 go_enter func94,Tryz.ntmps94
 go_wp2_with fail
 go_step3
 go_wp2_with fail
 go_step3
 go_wp2_with fail
 go_loopw [6,7] (λv at_ wr=>∃(k:Nat) (toks:List Tok),at_=.int .i64 k /\ k <= s.size /\ wr.ownsRow w.heap.size 150 4 v toks.length (jg toks) /\ gx s.data.toList 0 0=gU.app toks (gx s.data.toList k toks.length) /\ toks.length <= 4000 /\ Below w.heap.size w wr) (λ_ at_ _=>s.size-(intOf at_).toNat)
 case atStart=>exact ⟨0,[],rfl,Y,ownsRow_nil _ _ _ _,by rw [gU.aIb];rfl,aM,Below.refl _ _⟩
 case round=>
  obtain ⟨k,toks,rfl,hk,hown,hlx,hlen,hbel⟩:=hrel;have heW:Env wr:=he.below hbel he.size;obtain ⟨oa,oc,rfl⟩:=Af hown;have hge:=tT s.data.toList k hk;have HLX:=Lib.hid hlx;clear hlx hcv;by_cases hend:s.size <= cc s.data.toList k
  ·go_wp2_with (first|(go_at_call 120;refine (A8 _ _ _ Y hk).mono ?_;rintro e w' ⟨rfl,rfl⟩)|(at_builtin;refine wpList_append_own _ rfl _ _ 128 rfl w.heap.size 150 i0 _ 4 40 rG hi hz0 hz1 hz2 rfl V _ toks.length (jg toks) rfl (ownsRow_below hown ((Below.refl _ _).alloc (bY _) _) (bY _)) ⟨wr.heap.size,0,none⟩ 1 1 [.int .i64 5,.string ⟨#[]⟩,.int .i64 0,.int .i64 s.size] rfl rfl (EL _ _ _) qM cO Y Dk ?_))
   intro v' w1 hown1 hgrow _;have hb1:Below w.heap.size w w1:=Below.grow (hbel.alloc hbel.size _) hgrow Dk (ownsRow_below hown ((Below.refl _ _).alloc (bY _) _) (bY _)) (bY _);clear hgrow
   go_wp2_with fail
   rw [Exit.noGoto_ret]
   go_ret3
   refine ⟨⟨_,_,_,J,.inl ⟨toks++[⟨5,⟨#[]⟩,0,s.size⟩],?_,?_,by rw [HS.out],J,dr⟩⟩,hb1⟩
   ·unfold gj;rw [if_neg I6,HLX.out,Az (by rw [HS.out];exact hend),HS.out];rfl
   have:=hown1;rw [←EU];simpa using this
  have hlt:cc s.data.toList k<s.size:=Y;have hx:s.extract (cc s.data.toList k) s.size=bytes (s.data.toList.drop (cc s.data.toList k)):=by
   have:=ByteArray.extract_mk s.data.toList (cc s.data.toList k) s.size;rw [show (ByteArray.mk s.data.toList.toArray)=s from by simp] at this;rw [this,bytes];congr 2;exact take_of_length_le (by rw [kA,HS.out];omega)
  have hsz:(bytes (s.data.toList.drop (cc s.data.toList k))).size=s.size-cc s.data.toList k:=by rw [bytes];show (List.drop _ _).toArray.size=_;rw [xm,kA,HS.out]
  have HZ:=Lib.hid hsz;have hbd:=wv (s.data.toList.drop (cc s.data.toList k));have HD:=Lib.hid hbd;clear hsz hbd;cases hnx:eK (s.data.toList.drop (cc s.data.toList k)) with
  |err en=>
   have HN:=Lib.hid hnx;clear hnx
   go_wp2_with (first|(go_at_call 120;refine (A8 _ _ _ Y hk).mono ?_;rintro e w' ⟨rfl,rfl⟩)|(go_at_call 121;refine (E9 _ _ x_ heW x_).mono ?_;rintro e w1 ⟨⟨kd,num,er,text,rfl,hR⟩,hb⟩;rw [HD.out] at hR;obtain ⟨rfl,hne⟩:=X9 hR HN.out;clear hR;obtain ⟨hc,hf⟩:=qp hb))
   rw [Exit.noGoto_ret]
   go_ret3
   refine ⟨⟨_,_,_,J,.inr ⟨cc s.data.toList k,en,?_,J,J,J,Y⟩⟩,(hbel.trans (hb.mono hbel.size)).alloc (iN hbel.size hb.size) _⟩;unfold gj;rw [if_neg I6,HLX.out,ER G1 HN.out];rfl
  |tok nk len nu=>
   have hl1:=BF (by intro h;have:=congrArg List.length h;rw [kA,HS.out] at this;simp at this;omega) hnx;rw [kA,HS.out] at hl1;have HN:=Lib.hid hnx;clear hnx;have htx:(bytes ((s.data.toList.drop (cc s.data.toList k)).take len)).size=len:=by
    rw [bytes];show (List.take _ _).toArray.size=_;rw [xm,kU,kA,HS.out];omega
   by_cases hfull:toks.length=4000
   ·have hf1:((toks.length:Int) == 4000)=true:=FL;have HF:=Lib.hid hfull;clear hfull htx
    go_wp2_with (first|(go_at_call 120;refine (A8 _ _ _ Y hk).mono ?_;rintro e w' ⟨rfl,rfl⟩)|(go_at_call 121;refine (E9 _ _ x_ heW x_).mono ?_;rintro e w1 ⟨⟨kd,num,er,text,rfl,hR⟩,hb⟩;rw [HD.out] at hR;obtain ⟨rfl,rfl,rfl,rfl⟩:=O6 hR HN.out;clear hR;obtain ⟨hc,hf⟩:=qp hb))
    rw [Exit.noGoto_ret]
    go_ret3
    refine ⟨⟨_,_,_,J,.inr ⟨cc s.data.toList k,3,?_,J,J,J,Y⟩⟩,(hbel.trans (hb.mono hbel.size)).alloc (iN hbel.size hb.size) _⟩;unfold gj;rw [if_neg I6,HLX.out,HF.out,C2 G1 HN.out];rfl
   have hf1:((toks.length:Int) == 4000)=false:=Gw;have HF:=Lib.hid hfull;have ld:toks.length<4000:=Y;clear hfull
   go_wp2_with (first|(go_at_call 120;refine (A8 _ _ _ Y hk).mono ?_;rintro e w' ⟨rfl,rfl⟩)|(go_at_call 121;refine (E9 _ _ x_ heW x_).mono ?_;rintro e w1 ⟨⟨kd,num,er,text,rfl,hR⟩,hb⟩;rw [HD.out] at hR;obtain ⟨rfl,rfl,rfl,rfl⟩:=O6 hR HN.out;clear hR;obtain ⟨hc,hf⟩:=qp hb)|(at_builtin;refine wpList_append_own _ rfl _ _ 128 rfl w.heap.size 150 i0 _ 4 40 rG hi hz0 hz1 hz2 rfl V _ toks.length (jg toks) rfl (ownsRow_below hown ((hb.alloc hb.size _).alloc (by have:=hb.size;simp;omega) _) (bY _)) ⟨w1.heap.size+1,0,none⟩ 1 1 [.int .i64 nk,.string (bytes ((s.data.toList.drop (cc s.data.toList k)).take len)),.int .i64 nu,.int .i64 (cc s.data.toList k)] rfl rfl (tI _ _ _ _ aM) qM cO Y FQ ?_))
   intro v' w2 hown2 hgrow _;have hb2:Below w.heap.size w w2:=Below.grow (((hbel.trans (hb.mono hbel.size)).alloc (iN hbel.size hb.size) _).alloc FQ _) hgrow FQ (ownsRow_below hown ((hb.alloc hb.size _).alloc (by have:=hb.size;simp;omega) _) (bY _)) (bY _);have hcw:∀o,w2.cell? ⟨w1.heap.size,o,none⟩=((w1.alloc (Obj.cells #[.int .i64 nk,.string (bytes ((s.data.toList.drop (cc s.data.toList k)).take len)),.int .i64 nu,.int .i64 (cc s.data.toList k)] 150)).cell? ⟨w1.heap.size,o,none⟩):=by
    intro o;rw [ZX hgrow hown hb.size dr o];exact (Below.alloc (B:=(w1.alloc (Obj.cells #[.int .i64 nk,.string (bytes ((s.data.toList.drop (cc s.data.toList k)).take len)),.int .i64 nu,.int .i64 (cc s.data.toList k)] 150)).heap.size) (Below.refl _ _) (bY _) _).cell (p:=⟨w1.heap.size,o,none⟩) aM
   clear hgrow
   go_wp2_with fail
   go_roundw
   case rel=>
    refine ⟨cc s.data.toList k+len,toks++[⟨nk,bytes ((s.data.toList.drop (cc s.data.toList k)).take len),nu,cc s.data.toList k⟩],kw,Y,?_,?_,dr,hb2⟩
    ·rw [←EU];simpa using hown2
    rw [HLX.out,Ds (by rw [HS.out];exact hk) G1 HN.out HF.out,gU.WD];simp
   case measure=>simp [intOf];omega
def YV(a:Option Addr)(n cap:Nat)(w:aa)(s:List UInt8)(hn:n=s.length)(hs:262144<n):
  Calls prog 94 #[.slice a n cap] w λe w'=>(∃v pos er,e=.returned (.tuple #[v,.int .i64 pos,.int .i64 er]) /\ sC w' w.heap.size s v pos er) /\ Below w.heap.size w w':=by
 refine (Tu a n cap w Y).mono λe w' ⟨h,hw⟩=>?_;subst hw;refine ⟨⟨_,_,_,h,.inr ⟨262144,3,?_,J,J,J,Y⟩⟩,Below.refl _ _⟩;unfold gj;rw [if_pos Y]
def YT(s:List UInt8)(v:aN)(w:aa)(he:Env w)(hv:eD w v s.length (s.map λc=>.int .u8 c.toNat)):
  Calls prog 94 #[v] w λe w'=>(∃v pos er,e=.returned (.tuple #[v,.int .i64 pos,.int .i64 er]) /\ sC w' w.heap.size s v pos er) /\ Below w.heap.size w w':=by
 obtain ⟨a,cap,rfl,hc,hcells⟩:=hv;by_cases hs:262144<s.length
 ·exact YV a _ cap w s J hs
 have aOu:(convert 63 9 (.slice a s.length cap)).run prog w=.ok (.string (bytes s)) w:=by
  rcases hcells with h0|⟨b,off,rfl,hr⟩
  ·obtain rfl:s=[]:=by simpa using h0
   cases a with
   |none=>exact run_convert_bytes_nil w _ _ ky pR _ _ _ dz
   |some a=>
    have hl:=run_loadCells_list (P:=prog) w a [] Iv;rw [run_convert_bytes_string w _ _ _ _ _ _ ky pR dz,length_nil,run_bytesToString w a 0 cap [] uk]
    rfl
  rw [run_convert_bytes_arg w _ _ ky pR b off s.length cap (s.map λc=>(c.toNat:Int)) aM ?_ _ dz]
  ·rw [strOfNums,o8,bytes];congr 3;rw [show ((λn:Int=>UInt8.ofNat n.toNat) ∘ λc:UInt8=>(c.toNat:Int))=id from by funext c;simp];simp
  intro i hi;rw [hr i (.int .u8 s[i].toNat) (by simp [hi])];simp [hi]
 have:=SF (bytes s) a s.length cap w he wm (by show (List.toArray s).size <= _;rw [xm];omega) aOu;rw [wv] at this;exact this
def dU(s:List UInt8):List Value:=s.map λc=>.int .u8 c.toNat
def ph.cell{w:aa}{b off:Nat}{s:List UInt8}(h:∀j u,(dU s)[j]?=some u -> w.cell? ⟨b,off+j,none⟩=some u)(k:Nat)(hk:k<s.length):w.cell? ⟨b,off+k,none⟩=some (.int .u8 s[k].toNat):=
 h k _ (by simp [dU,hk])
def nU(c:UInt8)(w:aa):
  Calls prog 68 #[.int .u8 c.toNat] w λe w'=>e=.returned (.bool (gH c)) /\ w=w':=by
 unfold gH;generalize (c.toNat:Int)=n
 go_enter func68,Tryz.ntmps68
 go_wp2
 all_goals (go_ret;refine ⟨qy ?_,rfl⟩;simp;try omega)
def oT(c:UInt8)(w:aa):
  Calls prog 69 #[.int .u8 c.toNat] w λe w'=>e=.returned (.bool (dT c)) /\ w=w':=by
 unfold dT;generalize (c.toNat:Int)=n
 go_enter func69,Tryz.ntmps69
 go_wp2
 all_goals (go_ret;refine ⟨qy ?_,rfl⟩;simp;try omega)
def X3(zs:List aI)(x:aI)(k:Nat)(hk:k<zs.length)(h:x∈zs↔x∈zs.drop k):(zs[k]=x -> x∈zs) /\ (zs[k]≠x -> (x∈zs↔x∈zs.drop (k+1))):=by
 refine ⟨λe=>e▸getElem_mem hk,λe=>?_⟩;rw [h,ii hk,mem_cons];exact ⟨λh=>h.resolve_left (λe'=>e e'.symm),.inr⟩
def F'(zs:List aI)(x:aI)(v:aN)(w:aa)(hv:eD w v zs.length (zs.map .string))(hn:zs.length <= 9223372036854775807):
  Calls prog 101 #[v,.string x] w λe w'=>e=.returned (.bool (zs.any λy=>decide (y=x))) /\ w=w':=by
 obtain ⟨a,cap,rfl,hc,hr⟩:=hv
 go_enter func101,Tryz.ntmps101
 go_wp2_with fail
 go_loop [5] (λv=>∃k:Nat,k <= zs.length /\ v=.int .i64 k /\ (x∈zs↔x∈zs.drop k)) (λv=>zs.length-(intOf v).toNat)
 case atStart=>exact ⟨0,Y,rfl,aM⟩
 case round=>
  obtain ⟨k,hk,rfl,hm⟩:=hrel;have HM:=Lib.hid hm;clear hm;by_cases hlt:k<zs.length
  ·rcases hr with h0|⟨b,off,rfl,hr⟩
   ·have:zs.length=0:=by simpa using congrArg List.length h0
    omega
   have hcell:=hr k (.string zs[k]) (by simp [hlt]);clear hr;have hst:=X3 zs x k hlt HM.out;have HST:=Lib.hid hst;clear hst;by_cases he:zs[k]=x
   ·have hm:=HST.out.1 he;have HM2:=Lib.hid hm;clear hm;have hq:=Ke he;clear he
    go_wp2_with fail
    go_ret
    refine ⟨qy ?_,J⟩;simp [HM2.out]
   have hq:=Jo he;have HE:=Lib.hid he;clear he
   go_wp2_with fail
   go_round
   case rel=>exact ⟨k+1,Y,kw,HST.out.2 HE.out⟩
   case measure=>simp [intOf];omega
  clear hr
  go_wp2_with fail
  go_ret
  refine ⟨qy ?_,J⟩;have:x∉zs:=by rw [HM.out,m6 Y];simp
  simp [this]
def GP(s:aI)(w:aa):
  Calls prog 70 #[.string s] w λe w'=>e=.returned (.bool (fT s)) /\ Below w.heap.size w w':=by
 go_enter func70,Tryz.ntmps70
 go_wp2_with (first|(go_at_call 101;refine (F' words _ _ _ (eD.new w (words.map .string) 9 11) V).mono ?_;rintro e w' ⟨rfl,rfl⟩))
 go_ret
 exact ⟨J,eX⟩
def W5(s:List UInt8)(k0:Nat)(v:aN)(w:aa)(hv:eD w v s.length (dU s))(hs:s.length <= 1000000)(hk:k0 <= s.length):
  Calls prog 75 #[v,.int .i64 k0] w λe w'=>e=.returned (.int .i64 (cc s k0)) /\ w=w':=by
 obtain ⟨a,cap,rfl,hc,hr⟩:=hv
 go_enter func75,Tryz.ntmps75
 go_wp2_with fail
 go_loop [1] (λv=>∃k:Nat,k <= s.length /\ v=.int .i64 k /\ cc s k=cc s k0) (λv=>s.length-(intOf v).toNat)
 case atStart=>exact ⟨k0,hk,rfl,rfl⟩
 case round=>
  obtain ⟨k,hk,rfl,hm⟩:=hrel;have HM:=Lib.hid hm;clear hm;by_cases hlt:k<s.length
  ·rcases hr with h0|⟨b,off,rfl,hr⟩
   ·have:s.length=0:=Ht;omega
   have hcell:=ph.cell hr k hlt;have HR:=Lib.hid hr;clear hr;cases hsp:isSp s[k] with
   |true=>
    have hn:=Je s k hlt hsp;have HN:=Lib.hid hn;simp only [isSp,decide_eq_true_eq] at hsp;clear hn;rcases hsp with h|h|h|h
    ·have e32:((s[k].toNat:Int) == 32)=true:=o7;clear h
     go_wp2_with fail
     go_round
     case rel=>exact ⟨k+1,Y,kw,HN.out.trans HM.out⟩
     case measure=>simp [intOf];omega
    ·have e32:((s[k].toNat:Int) == 32)=false:=o7;have e9:((s[k].toNat:Int) == 9)=true:=o7;clear h
     go_wp2_with fail
     go_round
     case rel=>exact ⟨k+1,Y,kw,HN.out.trans HM.out⟩
     case measure=>simp [intOf];omega
    ·have e32:((s[k].toNat:Int) == 32)=false:=o7;have e9:((s[k].toNat:Int) == 9)=false:=o7;have e10:((s[k].toNat:Int) == 10)=false:=o7;have e13:((s[k].toNat:Int) == 13)=true:=o7;clear h
     go_wp2_with fail
     go_round
     case rel=>exact ⟨k+1,Y,kw,HN.out.trans HM.out⟩
     case measure=>simp [intOf];omega
    ·have e32:((s[k].toNat:Int) == 32)=false:=o7;have e9:((s[k].toNat:Int) == 9)=false:=o7;have e10:((s[k].toNat:Int) == 10)=true:=o7;clear h
     go_wp2_with fail
     go_round
     case rel=>exact ⟨k+1,Y,kw,HN.out.trans HM.out⟩
     case measure=>simp [intOf];omega
   |false=>
    have HP:=Lib.hid hsp;simp only [isSp,decide_eq_false_iff_not,not_or] at hsp;have f1:((s[k].toNat:Int) == 32)=false:=by rw [beq_eq_false_iff_ne];exact hsp.1
    have f2:((s[k].toNat:Int) == 9)=false:=by rw [beq_eq_false_iff_ne];exact hsp.2.1
    have f3:((s[k].toNat:Int) == 13)=false:=by rw [beq_eq_false_iff_ne];exact hsp.2.2.1
    have f4:((s[k].toNat:Int) == 10)=false:=by rw [beq_eq_false_iff_ne];exact hsp.2.2.2
    clear hsp;have stop:¬(∃h2:k+1<s.length,s[k]=47 /\ s[k+1]=47) -> cc s k0=k:=λh=>by rw [←HM.out];exact G0 s k hlt HP.out (Sf hlt h)
    have STOP:=Lib.hid stop;clear stop;by_cases h1:s.length <= k+1
    ·have g1:(s.length:Int) <= k+1:=Y;have hst:=STOP.out (by rintro ⟨h,_⟩;omega);have HST:=Lib.hid hst;clear hst h1
     go_wp2_with fail
     go_ret
     exact ⟨kz (by rw [HST.out]),J⟩
    have g1:(k:Int)+1<s.length:=Y;have h1':k+1<s.length:=Y;clear h1;by_cases h2:s[k]=47
    ·have g2:=((we s[k] 47 47 J Y).1 h2).1;have hcell2:=ph.cell HR.out (k+1) h1';have hcell3:=hcell2;rw [←qQ] at hcell3;by_cases h3:s[k+1]=47
     ·have g3:=((we s[k+1] 47 47 J Y).1 h3).1;have H2:=Lib.hid h2;have H3:=Lib.hid h3;clear h2 h3
      go_wp2_with fail
      go_hide hQ
      go_loop [1] (λv=>∃j:Nat,k <= j /\ j <= s.length /\ v=.int .i64 j /\ (s.drop k).dropWhile (·!= 10)=(s.drop j).dropWhile (·!= 10)) (λv=>s.length-(intOf v).toNat)
      case atStart=>exact ⟨k,Y,Y,rfl,rfl⟩
      case round=>
       obtain ⟨j,hkj,hj,rfl,hd⟩:=hrel;have HD:=Lib.hid hd;clear hd hcell2 hcell3 hcell;have fin:(s.drop k).dropWhile (·!= 10)=s.drop j -> cc s j=cc s k0:=λh=>(Yb s k j h1' H2.out H3.out h).trans HM.out
       have FIN:=Lib.hid fin;clear fin;by_cases hje:j<s.length
       ·have hcell:=ph.cell HR.out j hje;have hst:=Vh s k j hje HD.out;have HST:=Lib.hid hst;clear hst;by_cases h10:s[j]=10
        ·have e10:=((we s[j] 10 10 J Y).1 h10).2;have hfin:=FIN.out (HST.out.1 h10);have hne:k≠j:=by rintro rfl;rw [H2.out] at h10;exact absurd h10 V
         have HF:=Lib.hid hfin;clear hfin h10
         go_wp2_with fail
         subst hQ
         go_wp2_with fail
         go_round
         case rel=>exact ⟨j,Y,rfl,HF.out⟩
         case measure=>simp [intOf];omega
        have e10:=((we s[j] 10 10 J Y).2 h10).2;have hnx:=HST.out.2 h10;have HNX:=Lib.hid hnx;clear hnx h10
        go_wp2_with fail
        go_round
        case rel=>exact ⟨j+1,Y,Y,kw,HNX.out⟩
        case measure=>simp [intOf];omega
       have hfin:=FIN.out (by rw [HD.out,m6 Y];rfl);have HF:=Lib.hid hfin;clear hfin
       go_wp2_with fail
       subst hQ
       go_wp2_with fail
       go_round
       case rel=>exact ⟨j,Y,rfl,HF.out⟩
       case measure=>simp [intOf];omega
     have g3:=((we s[k+1] 47 47 J Y).2 h3).1;have hst:=STOP.out (by rintro ⟨_,_,h⟩;exact h3 h);have HST:=Lib.hid hst;clear hst h2 h3
     go_wp2_with fail
     go_ret
     exact ⟨kz (by rw [HST.out]),J⟩
    have g2:=((we s[k] 47 47 J Y).2 h2).1;have hst:=STOP.out (by rintro ⟨_,h,_⟩;exact h2 h);have HST:=Lib.hid hst;clear hst h2
    go_wp2_with fail
    go_ret
    exact ⟨kz (by rw [HST.out]),J⟩
  clear hr
  go_wp2_with fail
  go_ret
  exact ⟨kz (by rw [←HM.out,GT _ _ Y];omega),J⟩
def U4(t:List UInt8)(k n:Nat)(hk:k<t.length)(h:fY 0 t=fY n (t.drop k)):
  ((9223372036854775807-(t[k].toNat-48))/10<n -> fY 0 t=none) /\ (¬(9223372036854775807-(t[k].toNat-48))/10<n -> fY 0 t=fY (10*n+(t[k].toNat-48)) (t.drop (k+1))):=by
 rw [jw _ k hk,fY] at h;refine ⟨λhn=>?_,λhn=>?_⟩
 ·rw [h];exact if_pos hn
 rw [h];exact if_neg hn
def sV(t:List UInt8):Int:=match fY 0 t with|none=>-1|some n=>n
def YG(t:List UInt8)(v:aN)(w:aa)(hv:eD w v t.length (dU t))(hs:t.length <= 1000000)(hd:∀c∈t,dT c=true):
  Calls prog 76 #[v] w λe w'=>e=.returned (.int .i64 (sV t)) /\ w=w':=by
 obtain ⟨a,cap,rfl,hc,hr⟩:=hv;have HA:=Lib.hid hd;clear hd
 go_enter func76,Tryz.ntmps76
 go_wp2_with fail
 go_loop [3,4] (λu v=>∃k n:Nat,k <= t.length /\ v=.int .i64 k /\ u=.int .i64 n /\ n <= 9223372036854775807 /\ fY 0 t=fY n (t.drop k)) (λ_ v=>t.length-(intOf v).toNat)
 case atStart=>exact ⟨0,0,Y,rfl,rfl,Y,rfl⟩
 case round=>
  obtain ⟨k,n,hk,rfl,rfl,hn,hv⟩:=hrel;by_cases hlt:k<t.length
  ·rcases hr with h0|⟨b,off,rfl,hr⟩
   ·have:t.length=0:=Ht;omega
   have hcell:=ph.cell hr k hlt;clear hr;have hst:=U4 t k n hlt hv;have hd:dT t[k]=true:=HA.out _ (getElem_mem hlt);have HS:=Lib.hid hst;clear hst hv;simp only [dT,decide_eq_true_eq] at hd;obtain ⟨hd1,hd2⟩:=hd;by_cases hov:(9223372036854775807-(t[k].toNat-48))/10<n
   ·have aMq:(9223372036854775807-((t[k].toNat:Int)-48))/10<(n:Int):=Y;have HO:=Lib.hid hov;clear hov
    go_wp2_with fail
    go_ret
    exact ⟨kz (by rw [sV,HS.out.1 HO.out]),J⟩
   have aMq:(n:Int) <= (9223372036854775807-((t[k].toNat:Int)-48))/10:=Y;have HO:=Lib.hid hov;clear hov
   go_wp2_with fail
   go_round
   case rel=>exact ⟨k+1,10*n+(t[k].toNat-48),Y,kw,kw,Y,HS.out.2 HO.out⟩
   case measure=>simp [intOf];omega
  have HV:=Lib.hid hv;clear hv hr
  go_wp2_with fail
  go_ret
  refine ⟨kz ?_,J⟩;rw [sV,HV.out,m6 Y,fY]
def G5(t:List UInt8)(a:Option Addr)(cap:Nat)(w:aa)(hv:dU t=[]∨∃b off,a=some ⟨b,off,none⟩ /\ ∀j u,(dU t)[j]?=some u -> w.cell? ⟨b,off+j,none⟩=some u):
  (convert 63 9 (.slice a t.length cap)).run prog w=.ok (.string (bytes t)) w:=by
 rcases hv with h0|⟨b,off,rfl,hr⟩
 ·obtain rfl:t=[]:=by simpa [dU] using h0
  cases a with
  |none=>exact run_convert_bytes_nil w _ _ ky pR _ _ _ dz
  |some a=>
   have hl:=run_loadCells_list (P:=prog) w a [] Iv;rw [run_convert_bytes_string w _ _ _ _ _ _ ky pR dz,length_nil,run_bytesToString w a 0 cap [] uk]
   rfl
 rw [run_convert_bytes_arg w _ _ ky pR b off t.length cap (t.map λc=>(c.toNat:Int)) aM ?_ _ dz]
 ·rw [strOfNums,o8,bytes];congr 3;rw [show ((λn:Int=>UInt8.ofNat n.toNat) ∘ λc:UInt8=>(c.toNat:Int))=id from by funext c;simp];simp
 intro i hi;rw [ph.cell hr i hi];simp [hi]
def PM{w:aa}{b off:Nat}{s:List UInt8}(h:∀j u,(dU s)[j]?=some u -> w.cell? ⟨b,off+j,none⟩=some u)(i n:Nat):
  ∀j u,(dU ((s.drop i).take n))[j]?=some u -> w.cell? ⟨b,off+i+j,none⟩=some u:=by
 intro j u hu;have:(dU s)[i+j]?=some u:=by
  simp only [dU,nz,pD,rK] at hu⊢;split at hu
  ·exact hu
  simp at hu
 rw [qQ];exact h _ _ this
def vu:List ByteArray:=[⟨#[60,61]⟩,⟨#[62,61]⟩,⟨#[61,61]⟩,⟨#[33,61]⟩,⟨#[38,38]⟩,⟨#[124,124]⟩]
def ue:List ByteArray:=[⟨#[40]⟩,⟨#[41]⟩,⟨#[123]⟩,⟨#[125]⟩,⟨#[91]⟩,⟨#[93]⟩,⟨#[44]⟩,⟨#[59]⟩,⟨#[61]⟩,⟨#[43]⟩,⟨#[45]⟩,⟨#[42]⟩,⟨#[47]⟩,⟨#[37]⟩,⟨#[60]⟩,⟨#[62]⟩,⟨#[33]⟩]
def bytes_inj{a b:List UInt8}(h:bytes a=bytes b):a=b:=by
 have:=congrArg (λx=>x.data.toList) h;simpa [bytes] using this
def Qk(L:List (List UInt8))(x:List UInt8):((L.map bytes).any λy=>decide (y=bytes x))=decide (x∈L):=by
 rw [Bool.eq_iff_iff,List.any_eq_true];simp only [k_,decide_eq_true_eq];constructor
 ·rintro ⟨y,⟨z,hz,rfl⟩,h⟩;rw [←bytes_inj h];exact hz
 intro h;exact ⟨_,⟨x,h,rfl⟩,rfl⟩
def pA{s:List UInt8}{b off:Nat}{w:aa}(hr:∀j u,(dU s)[j]?=some u -> w.cell? ⟨b,off+j,none⟩=some u)(i n cap:Nat)(hin:i+n <= s.length)(w':aa)(hw:∀o,w'.cell? ⟨b,o,none⟩=w.cell? ⟨b,o,none⟩):
  (convert 63 9 (.slice (some ⟨b,off+i,none⟩) n cap)).run prog w'=.ok (.string (bytes ((s.drop i).take n))) w':=by
 have hl:((s.drop i).take n).length=n:=Lg;have:=G5 ((s.drop i).take n) (some ⟨b,off+i,none⟩) cap w' (.inr ⟨b,off+i,rfl,λj u hu=>by rw [hw];exact PM hr i n j u hu⟩);rw [hl] at this;exact this
def Ka(w:aa)(x:aI)(q:Bool)(hq:(vu.any λy=>decide (y=x))=q):
  Calls prog 101 #[.slice (some ⟨w.heap.size,0,none⟩) 6 6,.string x] (w.alloc (Obj.cells #[Value.string ⟨#[60,61]⟩,Value.string ⟨#[62,61]⟩,Value.string ⟨#[61,61]⟩,Value.string ⟨#[33,61]⟩,Value.string ⟨#[38,38]⟩,Value.string ⟨#[124,124]⟩] 9)) λe w'=>e=.returned (.bool q) /\ w.alloc (Obj.cells #[Value.string ⟨#[60,61]⟩,Value.string ⟨#[62,61]⟩,Value.string ⟨#[61,61]⟩,Value.string ⟨#[33,61]⟩,Value.string ⟨#[38,38]⟩,Value.string ⟨#[124,124]⟩] 9)=w':=by
 subst hq;exact F' vu x _ _ (eD.new w (vu.map .string) 9 6) V
def L8(w:aa)(x:aI)(k:Nat)(hk:k=w.heap.size)(q:Bool)(hq:(ue.any λy=>decide (y=x))=q):
  Calls prog 101 #[.slice (some ⟨k,0,none⟩) 17 17,.string x] (w.alloc (Obj.cells #[Value.string ⟨#[40]⟩,Value.string ⟨#[41]⟩,Value.string ⟨#[123]⟩,Value.string ⟨#[125]⟩,Value.string ⟨#[91]⟩,Value.string ⟨#[93]⟩,Value.string ⟨#[44]⟩,Value.string ⟨#[59]⟩,Value.string ⟨#[61]⟩,Value.string ⟨#[43]⟩,Value.string ⟨#[45]⟩,Value.string ⟨#[42]⟩,Value.string ⟨#[47]⟩,Value.string ⟨#[37]⟩,Value.string ⟨#[60]⟩,Value.string ⟨#[62]⟩,Value.string ⟨#[33]⟩] 9)) λe w'=>e=.returned (.bool q) /\ w.alloc (Obj.cells #[Value.string ⟨#[40]⟩,Value.string ⟨#[41]⟩,Value.string ⟨#[123]⟩,Value.string ⟨#[125]⟩,Value.string ⟨#[91]⟩,Value.string ⟨#[93]⟩,Value.string ⟨#[44]⟩,Value.string ⟨#[59]⟩,Value.string ⟨#[61]⟩,Value.string ⟨#[43]⟩,Value.string ⟨#[45]⟩,Value.string ⟨#[42]⟩,Value.string ⟨#[47]⟩,Value.string ⟨#[37]⟩,Value.string ⟨#[60]⟩,Value.string ⟨#[62]⟩,Value.string ⟨#[33]⟩] 9)=w':=by
 subst hq;exact F' ue x _ _ (eD.aHz w (ue.map .string) 9 17 k hk) V
def Tj(n k b off cap:Nat)(w:aa)(x1 x2:aI)(hk:k<n)(hc:n <= cap)(hcm:cap <= 9223372036854775807)(hn:n <= 1000000)(hkc:¬cap=k)(g2:(k:Int)+1<n)(aKo:∀O,(convert 63 9 (.slice (some ⟨b,off+k,none⟩) 2 (cap-k))).run prog (w.alloc O)=.ok (.string x2) (w.alloc O))(ha:(vu.any λy=>decide (y=x2))=true):
  Calls prog 77 #[.slice (some ⟨b,off,none⟩) n cap,.int .i64 k] w λe w'=>e=.returned (.int .i64 2) /\ Below w.heap.size w w':=by
 have HA:=Lib.hid ha;clear ha
 go_enter func77,Tryz.ntmps77
 go_wp2_with (first|(go_at_call 101;((with_reducible refine (Ka _ _ _ HA.out).mono ?_);rintro e w' ⟨rfl,rfl⟩)))
 go_ret
 exact ⟨J,eX⟩
def V9(n k b off cap:Nat)(w:aa)(x1 x2:aI)(hk:k<n)(hc:n <= cap)(hcm:cap <= 9223372036854775807)(hn:n <= 1000000)(hkc:¬cap=k)(q:Bool)(g2:(k:Int)+1<n)(aKo:∀O,(convert 63 9 (.slice (some ⟨b,off+k,none⟩) 2 (cap-k))).run prog (w.alloc O)=.ok (.string x2) (w.alloc O))(aOv:∀O O',(convert 63 9 (.slice (some ⟨b,off+k,none⟩) 1 (cap-k))).run prog ((w.alloc O).alloc O')=.ok (.string x1) ((w.alloc O).alloc O'))(ha:(vu.any λy=>decide (y=x2))=false)(ha1:(ue.any λy=>decide (y=x1))=q):
  Calls prog 77 #[.slice (some ⟨b,off,none⟩) n cap,.int .i64 k] w λe w'=>e=.returned (.int .i64 (if q then 1 else 0)) /\ Below w.heap.size w w':=by
 have HA:=Lib.hid ha;clear ha;have HA1:=Lib.hid ha1;clear ha1
 go_enter func77,Tryz.ntmps77
 go_wp2_with (first|(go_at_call 101;((with_reducible refine (Ka _ _ _ HA.out).mono ?_);rintro e w' ⟨rfl,rfl⟩))|(go_at_call 101;((with_reducible refine (L8 _ _ _ aM _ HA1.out).mono ?_);rintro e w' ⟨rfl,rfl⟩)))
 all_goals (go_ret;exact ⟨by simp [*],eX⟩)
def UT(n k b off cap:Nat)(w:aa)(x1 x2:aI)(hk:k<n)(hc:n <= cap)(hcm:cap <= 9223372036854775807)(hn:n <= 1000000)(hkc:¬cap=k)(q:Bool)(g2:(n:Int) <= k+1)(aOw:∀O,(convert 63 9 (.slice (some ⟨b,off+k,none⟩) 1 (cap-k))).run prog (w.alloc O)=.ok (.string x1) (w.alloc O))(ha1:(ue.any λy=>decide (y=x1))=q):
  Calls prog 77 #[.slice (some ⟨b,off,none⟩) n cap,.int .i64 k] w λe w'=>e=.returned (.int .i64 (if q then 1 else 0)) /\ Below w.heap.size w w':=by
 have HA1:=Lib.hid ha1;clear ha1
 go_enter func77,Tryz.ntmps77
 go_wp2_with (first|(go_at_call 101;((with_reducible refine (L8 _ _ _ aM _ HA1.out).mono ?_);rintro e w' ⟨rfl,rfl⟩)))
 all_goals (go_ret;exact ⟨by simp [*],eX⟩)
def Q6(s:List UInt8)(k:Nat)(b off cap:Nat)(w:aa)(hr:∀j u,(dU s)[j]?=some u -> w.cell? ⟨b,off+j,none⟩=some u)(hc:s.length <= cap)(hcm:cap <= 9223372036854775807)(hs:s.length <= 1000000)(hk:k<s.length):
  Calls prog 77 #[.slice (some ⟨b,off,none⟩) s.length cap,.int .i64 k] w λe w'=>e=.returned (.int .i64 (kI (s.drop k))) /\ Below w.heap.size w w':=by
 have hblt:b<w.heap.size:=mj (ph.cell hr k hk);have aKo:k+2 <= s.length -> ∀O,(convert 63 9 (.slice (some ⟨b,off+k,none⟩) 2 (cap-k))).run prog (w.alloc O)=.ok (.string (bytes ((s.drop k).take 2))) (w.alloc O):=λh O=>pA hr k 2 _ h _ (λo=>og w O ⟨b,o,none⟩ hblt);have aOv:∀O O',(convert 63 9 (.slice (some ⟨b,off+k,none⟩) 1 (cap-k))).run prog ((w.alloc O).alloc O')=.ok (.string (bytes ((s.drop k).take 1))) ((w.alloc O).alloc O'):=λO O'=>pA hr k 1 _ Y _ (λo=>by rw [og _ _ _ dr,og _ _ _ hblt]);have aOw:∀O,(convert 63 9 (.slice (some ⟨b,off+k,none⟩) 1 (cap-k))).run prog (w.alloc O)=.ok (.string (bytes ((s.drop k).take 1))) (w.alloc O):=λO=>pA hr k 1 _ Y _ (λo=>og w O ⟨b,o,none⟩ hblt);have hd1:(s.drop k).take 1=[s[k]]:=by rw [jw s k hk];rfl
 have one:¬(2 <= (s.drop k).length /\ (s.drop k).take 2∈kV) -> kI (s.drop k)=if s[k]∈j_ then 1 else 0:=by
  intro h;rw [jw s k hk] at h⊢;by_cases hm:s[k]∈j_
  ·rw [if_pos hm,GR h hm]
  rw [if_neg hm,QI h hm]
 have hany:(ue.any λy=>decide (y=bytes ((s.drop k).take 1)))=decide (s[k]∈j_):=by
  rw [hd1,show ue=(j_.map λc=>[c]).map bytes from rfl,Qk];simp
 by_cases h2:k+1<s.length
 ·have aLo:(vu.any λy=>decide (y=bytes ((s.drop k).take 2)))=decide ((s.drop k).take 2∈kV):=by
   rw [show vu=kV.map bytes from rfl,Qk]
  by_cases hm:(s.drop k).take 2∈kV
  ·rw [GK (l:=s.drop k) IR hm];exact Tj s.length k b off cap w ⟨#[]⟩ _ hk hc hcm hs Y Y (aKo Y) (by rw [aLo];simpa using hm)
  rw [one (λh=>hm h.2)];refine (V9 s.length k b off cap w _ _ hk hc hcm hs Y _ Y (aKo Y) aOv (by rw [aLo];simpa using hm) hany).mono λe w' ⟨h,hb⟩=>⟨?_,hb⟩;rw [h];refine kz ?_;by_cases hq:s[k]∈j_<;>simp [hq]
 ·rw [one (λh=>by have:=h.1;rw [kA] at this;omega)];refine (UT s.length k b off cap w _ ⟨#[]⟩ hk hc hcm hs Y _ Y aOw hany).mono λe w' ⟨h,hb⟩=>⟨?_,hb⟩;rw [h];refine kz ?_;by_cases hq:s[k]∈j_<;>simp [hq]
def sd(s:List UInt8)(k0:Nat)(z:Int)(hz:z=k0)(a:Option Addr)(cap:Nat)(w:aa)(hr:dU s=[]∨∃b off,a=some ⟨b,off,none⟩ /\ ∀j u,(dU s)[j]?=some u -> w.cell? ⟨b,off+j,none⟩=some u)(hc:s.length <= cap)(hs:s.length <= 1000000)(hk:k0 <= s.length):
  Calls prog 75 #[.slice a s.length cap,.int .i64 z] w λe w'=>e=.returned (.int .i64 (cc s k0)) /\ w=w':=by
 subst hz;exact W5 s k0 _ w ⟨a,cap,rfl,hc,hr⟩ hs hk
def wD{s:List UInt8}{k p kind len num:Nat}{toks:List Tok}(HP:p=cc s k)(hk:k <= s.length)(hlt:p<s.length)(hN:eK (s.drop p)=.tok kind len num)(hn:toks.length≠4000)(HLX:gx s 0 0=gU.app toks (gx s k toks.length)):
  gx s 0 0=gU.app (toks++[⟨kind,bytes ((s.drop p).take len),num,p⟩]) (gx s (p+len) (toks++[(⟨kind,bytes ((s.drop p).take len),num,p⟩:Tok)]).length):=by
 subst HP;rw [HLX,Ds hk hlt hN hn,gU.WD];simp
def wA{s:List UInt8}{k p kind len num:Nat}{toks:List Tok}(hs:s.length <= 262144)(HP:p=cc s k)(hlt:p<s.length)(hN:eK (s.drop p)=.tok kind len num)(hn:toks.length=4000)(HLX:gx s 0 0=gU.app toks (gx s k toks.length)):gj s=.err p 3:=by
 subst HP;unfold gj;rw [if_neg Y,HLX,hn,C2 hlt hN];rfl
def zo{s:List UInt8}{k p e:Nat}{toks:List Tok}(hs:s.length <= 262144)(HP:p=cc s k)(hlt:p<s.length)(hN:eK (s.drop p)=.err e)(HLX:gx s 0 0=gU.app toks (gx s k toks.length)):gj s=.err p e:=by
 subst HP;unfold gj;rw [if_neg Y,HLX,ER hlt hN];rfl
def YM{l:List UInt8}(h:fT (bytes l)=true):l.length <= 16:=by
 rw [F8] at h;have hall:∀x∈words,x.data.toList.length <= 16:=V;have:=hall _ h;rw [wv] at this;exact this
def UC{w:aa}{a:Addr}{u:aN}{b o:Nat}(h:b≠a.block):(w.setCell a u).cell? ⟨b,o,none⟩=w.cell? ⟨b,o,none⟩:=
 A5 (a:=⟨b,o,none⟩) (Below.heap_setCell w a u b h)
def Ax{s:List UInt8}{b off:Nat}{w:aa}(hr:∀j u,(dU s)[j]?=some u -> w.cell? ⟨b,off+j,none⟩=some u)(p len cap:Nat)(hpl:p+len <= s.length)(hcl:len <= cap /\ s.length <= 1000000)(hd:∀c∈(s.drop p).take len,dT c=true)(w':aa)(hw:∀o,w'.cell? ⟨b,o,none⟩=w.cell? ⟨b,o,none⟩):
  Calls prog 76 #[.slice (some ⟨b,off+p,none⟩) len cap] w' λe w''=>e=.returned (.int .i64 (sV ((s.drop p).take len))) /\ w'=w'':=by
 have hl:((s.drop p).take len).length=len:=Lg;refine YG ((s.drop p).take len) _ w' ⟨_,cap,by rw [hl],by rw [hl];exact hcl.1,.inr ⟨b,off+p,J,λj u hu=>by rw [hw];exact PM hr p len j u hu⟩⟩ (by rw [hl];omega) hd
def sZ{s:List UInt8}{a:Option Addr}{w w':aa}(hr:dU s=[]∨∃b off,a=some ⟨b,off,none⟩ /\ ∀j u,(dU s)[j]?=some u -> w.cell? ⟨b,off+j,none⟩=some u)(hb:Below w.heap.size w w'):
  dU s=[]∨∃b off,a=some ⟨b,off,none⟩ /\ ∀j u,(dU s)[j]?=some u -> w'.cell? ⟨b,off+j,none⟩=some u:=
 hr.imp id λ⟨b,off,ha,h⟩=>⟨b,off,ha,λj u hu=>by
  have h1:=h j u hu;rw [hb.cell (p:=⟨b,off+j,none⟩) (mj h1)];exact h1⟩
def Ut(s:List UInt8)(a:Option Addr)(cap:Nat)(w:aa)(hs:s.length <= 262144)(hc:s.length <= cap)(hcm:cap <= 9223372036854775807)
  (hr:dU s=[]∨∃b off,a=some ⟨b,off,none⟩ /\ ∀j u,(dU s)[j]?=some u -> w.cell? ⟨b,off+j,none⟩=some u):
  Calls prog 46 #[.slice a s.length cap] w λe w'=>(∃v pos er,e=.returned (.tuple #[v,.int .i64 pos,.int .i64 er]) /\ sC w' w.heap.size s v pos er) /\ Below w.heap.size w w':=by
 obtain ⟨i0,hi,hz0,hz1,hz2⟩:=info_parts L4;have HR:=Lib.hid hr;clear hr
 go_enter func46,Tryz.ntmps46
 go_wp2_with (first|(go_at_call 75;refine (sd s 0 _ rfl _ _ _ HR.out hc Y Y).mono ?_;rintro e w' ⟨rfl,rfl⟩))
 go_loopw [5,6] (λv at_ wr=>∃(k:Nat) (toks:List Tok),at_=.int .i64 (cc s k) /\ k <= s.length /\ wr.ownsRow w.heap.size 150 4 v toks.length (jg toks) /\ gx s 0 0=gU.app toks (gx s k toks.length) /\ toks.length <= 4000 /\ Below w.heap.size w wr) (λ_ at_ _=>s.length-(intOf at_).toNat)
 case atStart=>exact ⟨0,[],rfl,Y,ownsRow_nil _ _ _ _,by rw [gU.aIb];rfl,aM,Below.refl _ _⟩
 case round=>
  obtain ⟨k,toks,rfl,hk,hown,hlx,hlen,hbel⟩:=hrel;obtain ⟨oa,oc,rfl⟩:=Af hown;have HLX:=Lib.hid hlx;have hrr:=sZ HR.out hbel;have HRR:=Lib.hid hrr;clear hlx hrr;have hle:=Ru s k;by_cases hend:s.length <= cc s k
  ·have hee:cc s k=s.length:=Y;have heq:((cc s k:Int) == s.length)=true:=FL;have HE:=Lib.hid hee;clear hee
   go_wp2_with (at_builtin;refine wpList_append_own _ rfl _ _ 128 rfl w.heap.size 150 i0 _ 4 40 rG hi hz0 hz1 hz2 rfl V _ toks.length (jg toks) rfl (ownsRow_below hown ((Below.refl _ _).alloc (bY _) _) (bY _)) ⟨wr.heap.size,0,none⟩ 1 1 [.int .i64 5,.string ⟨#[]⟩,.int .i64 0,.int .i64 (cc s k)] rfl rfl (EL _ _ _) qM cO Y Dk ?_)
   intro v' w1 hown1 hgrow _;have hb1:Below w.heap.size w w1:=Below.grow (hbel.alloc hbel.size _) hgrow Dk (ownsRow_below hown ((Below.refl _ _).alloc (bY _) _) (bY _)) (bY _);clear hgrow
   go_wp2_with fail
   go_ret3
   refine ⟨⟨_,_,_,J,.inl ⟨toks++[⟨5,⟨#[]⟩,0,s.length⟩],?_,?_,by rw [HE.out],J,dr⟩⟩,hb1⟩
   ·unfold gj;rw [if_neg Y,HLX.out,Az hend];rfl
   have:=hown1;rw [←EU,←HE.out];simpa using this
  have hlt:cc s k<s.length:=Y;have hne:((cc s k:Int) == s.length)=false:=Gw;obtain ⟨p,hp⟩:∃p,p=cc s k:=⟨_,rfl⟩;have HP:=Lib.hid hp;rw [←hp] at hlt hne hle⊢;clear hp hend;rcases HRR.out with h0|⟨b,off,rfl,hr⟩
  ·have:s.length=0:=Ht;omega
  have hblt:b<wr.heap.size:=mj (ph.cell hr p hlt);have hcell:=ph.cell hr p hlt;have HB:=Lib.hid hr;clear hr;cases hl:gH s[p] with
  |true=>
   obtain ⟨len,ld⟩:∃len,len=((s.drop p).takeWhile dV).length:=⟨_,rfl⟩;have hpl:p+len <= s.length:=by have:=(xF (l:=s.drop p) dV).length_le;rw [←ld,kA] at this;omega
   have hname:eK (s.drop p)=if 16<len then .err 3 else .tok (if fT (bytes ((s.drop p).take len)) then 3 else 1) len 0:=by
    have h1:=ut (c:=s[p]) (r:=s.drop (p+1)) hl;rw [←jw s p hlt,←ld] at h1;rw [show (s.drop p).take len=(s.drop p).takeWhile dV from by rw [ld];exact takeWhile_take dV (s.drop p)];exact h1
   have hl0:0<len:=by rw [ld,jw s p hlt,uJ (by simp [dV,hl])];simp
   have HNM:=Lib.hid hname;have HL2:=Lib.hid ld;clear ld hname
   go_wp2_with (first|(go_at_call 68;refine (nU _ _).mono ?_;rintro e w' ⟨rfl,rfl⟩))
   go_hide hQ
   go_loop [8] (λv=>∃d:Nat,d <= len /\ v=.int .i64 ((p:Int)+d) /\ len=d+(((s.drop p).drop d).takeWhile dV).length) (λv=>s.length-(intOf v).toNat)
   case atStart=>exact ⟨0,Y,aM,by rw [HL2.out];simp⟩
   case round=>
    obtain ⟨d,hd,rfl,hinv⟩:=hrel;have HI:=Lib.hid hinv;clear hinv;by_cases hlt2:p+d<s.length
    ·have g1:(p:Int)+d<s.length:=Y;have hcell2:=ph.cell HB.out (p+d) hlt2;have hst:=Bz dV (s.drop p) d IR (by rw [←HL2.out];exact HI.out);rw [List.getElem_drop,←HL2.out] at hst;have HST:=Lib.hid hst;clear hst;cases hn:dV s[p+d] with
     |true=>
      have hnx:=HST.out.1 hn;have HNX:=Lib.hid hnx;have hdl:d+1 <= len:=Y;unfold dV at hn;have HN:=Lib.hid hn;clear hnx hn
      go_wp2_with (first|(go_at_call 68;refine (nU _ _).mono ?_;rintro e w' ⟨rfl,rfl⟩)|(go_at_call 69;refine (oT _ _).mono ?_;rintro e w' ⟨rfl,rfl⟩))
      all_goals first
       |(go_round;(case rel=>exact ⟨d+1,hdl,dr,HNX.out⟩);(case measure=>simp [intOf];omega))
       |(exfalso;have h:=HN.out;simp_all)
     |false=>
      have hnx:=HST.out.2 hn;have hdl:len=d:=hnx;unfold dV at hn;rw [Bool.or_eq_false_iff] at hn;obtain ⟨hn1,hn2⟩:=hn;subst hdl;clear hnx
      go_wp2_with (first|(go_at_call 68;((with_reducible refine (nU _ _).mono ?_);rintro e w' ⟨rfl,rfl⟩))|(go_at_call 69;((with_reducible refine (oT _ _).mono ?_);rintro e w' ⟨rfl,rfl⟩)))
      subst hQ;have hsz:=hbel.size;have hge:=tT s (p+len) hpl
      go_wp2_with (first|(rw [pA HB.out p len _ hpl _ (λo=>og wr _ ⟨b,o,none⟩ hblt)];go_simp)|(go_at_call 70;((with_reducible refine (GP _ _).mono ?_);rintro e w1 ⟨rfl,hb⟩;obtain ⟨hcc,hcf⟩:=qp hb;have IS:Below wr.heap.size wr w1:=((Below.refl _ _).alloc (bY _) _).trans (hb.mono aM);have hbW1:Below w.heap.size w w1:=hbel.trans (IS.mono hsz);have hsz1:=IS.size)))
      ·have h4:((toks.length:Int) == 4000)=true:=l7
       go_ret3
       exact ⟨⟨_,_,_,J,.inr ⟨p,3,wA hs HP.out hlt (show eK (s.drop p)=.tok 3 len 0 from by have hq:fT (bytes ((s.drop p).take len))=true:=by {assumption};rw [HNM.out,if_neg BX,if_pos hq]) uV HLX.out,rfl,rfl,rfl,Y⟩⟩,eX⟩
      ·have h4:((toks.length:Int) == 4000)=false:=l7;have h4':toks.length≠4000:=vS;have h5:toks.length<4000:=Y;have HN:=Lib.hid (show eK (s.drop p)=.tok 3 len 0 from by have hq:fT (bytes ((s.drop p).take len))=true:=by {assumption};rw [HNM.out,if_neg BX,if_pos hq]);have H4:=Lib.hid h4';clear h4'
       go_wp2_with (first|(rw [pA HB.out p len _ hpl _ (λo=>zr)];go_simp)|(at_builtin;refine wpList_append_own _ rfl _ _ 128 rfl w.heap.size 150 i0 _ 4 40 rG hi hz0 hz1 hz2 rfl V _ toks.length (jg toks) rfl (ownsRow_below hown eX (bY _)) _ 1 1 [.int .i64 3,.string (bytes ((s.drop p).take len)),.int .i64 0,.int .i64 p] rfl rfl (tI _ _ _ _ aM) qM cO Y dr ?_))
       intro v' w2 hown2 hgrow _;have hb2:Below w.heap.size w w2:=Below.grow eX hgrow dr (ownsRow_below hown eX (bY _)) (bY _);clear hgrow
       go_wp2_with ((go_at_call 75;((with_reducible refine (sd s (p+len) _ Y _ _ _ (sZ HR.out hb2) hc Y hpl).mono ?_);rintro e w' ⟨rfl,rfl⟩)))
       go_roundw
       case rel=>exact ⟨p+len,toks++[⟨3,bytes ((s.drop p).take len),0,p⟩],rfl,hpl,u_,wD HP.out hk hlt HN.out H4.out HLX.out,dr,hb2⟩
       case measure=>simp [intOf];omega
      ·go_ret3
       exact ⟨⟨_,_,_,J,.inr ⟨p,3,zo hs HP.out hlt (by rw [HNM.out,if_pos Y]) HLX.out,J,J,J,Y⟩⟩,eX⟩
      ·have h4:((toks.length:Int) == 4000)=true:=l7
       go_ret3
       exact ⟨⟨_,_,_,J,.inr ⟨p,3,wA hs HP.out hlt (show eK (s.drop p)=.tok 1 len 0 from by have hq:fT (bytes ((s.drop p).take len))=false:=by {assumption};rw [HNM.out,if_neg Y,if_neg (by simp [hq])]) uV HLX.out,rfl,rfl,rfl,Y⟩⟩,eX⟩
      have h4:((toks.length:Int) == 4000)=false:=l7;have h4':toks.length≠4000:=vS;have h5:toks.length<4000:=Y;have HN:=Lib.hid (show eK (s.drop p)=.tok 1 len 0 from by have hq:fT (bytes ((s.drop p).take len))=false:=by {assumption};rw [HNM.out,if_neg Y,if_neg (by simp [hq])]);have H4:=Lib.hid h4';clear h4'
      go_wp2_with (first|(rw [pA HB.out p len _ hpl _ (λo=>zr)];go_simp)|(at_builtin;refine wpList_append_own _ rfl _ _ 128 rfl w.heap.size 150 i0 _ 4 40 rG hi hz0 hz1 hz2 rfl V _ toks.length (jg toks) rfl (ownsRow_below hown eX (bY _)) _ 1 1 [.int .i64 1,.string (bytes ((s.drop p).take len)),.int .i64 0,.int .i64 p] rfl rfl (tI _ _ _ _ aM) qM cO Y dr ?_))
      intro v' w2 hown2 hgrow _;have hb2:Below w.heap.size w w2:=Below.grow eX hgrow dr (ownsRow_below hown eX (bY _)) (bY _);clear hgrow
      go_wp2_with ((go_at_call 75;((with_reducible refine (sd s (p+len) _ Y _ _ _ (sZ HR.out hb2) hc Y hpl).mono ?_);rintro e w' ⟨rfl,rfl⟩)))
      go_roundw
      case rel=>exact ⟨p+len,toks++[⟨1,bytes ((s.drop p).take len),0,p⟩],rfl,hpl,u_,wD HP.out hk hlt HN.out H4.out HLX.out,dr,hb2⟩
      case measure=>simp [intOf];omega
    ·have hdl:len=d:=NL;have g1:(s.length:Int) <= p+d:=Y;subst hdl
     go_wp2_with (first|(go_at_call 68;((with_reducible refine (nU _ _).mono ?_);rintro e w' ⟨rfl,rfl⟩))|(go_at_call 69;((with_reducible refine (oT _ _).mono ?_);rintro e w' ⟨rfl,rfl⟩)))
     subst hQ;have hsz:=hbel.size;have hge:=tT s (p+len) hpl
     go_wp2_with (first|(rw [pA HB.out p len _ hpl _ (λo=>og wr _ ⟨b,o,none⟩ hblt)];go_simp)|(go_at_call 70;((with_reducible refine (GP _ _).mono ?_);rintro e w1 ⟨rfl,hb⟩;obtain ⟨hcc,hcf⟩:=qp hb;have IS:Below wr.heap.size wr w1:=((Below.refl _ _).alloc (bY _) _).trans (hb.mono aM);have hbW1:Below w.heap.size w w1:=hbel.trans (IS.mono hsz);have hsz1:=IS.size)))
     ·have h4:((toks.length:Int) == 4000)=true:=l7
      go_ret3
      exact ⟨⟨_,_,_,J,.inr ⟨p,3,wA hs HP.out hlt (show eK (s.drop p)=.tok 3 len 0 from by have hq:fT (bytes ((s.drop p).take len))=true:=by {assumption};rw [HNM.out,if_neg BX,if_pos hq]) uV HLX.out,rfl,rfl,rfl,Y⟩⟩,eX⟩
     ·have h4:((toks.length:Int) == 4000)=false:=l7;have h4':toks.length≠4000:=vS;have h5:toks.length<4000:=Y;have HN:=Lib.hid (show eK (s.drop p)=.tok 3 len 0 from by have hq:fT (bytes ((s.drop p).take len))=true:=by {assumption};rw [HNM.out,if_neg BX,if_pos hq]);have H4:=Lib.hid h4';clear h4'
      go_wp2_with (first|(rw [pA HB.out p len _ hpl _ (λo=>zr)];go_simp)|(at_builtin;refine wpList_append_own _ rfl _ _ 128 rfl w.heap.size 150 i0 _ 4 40 rG hi hz0 hz1 hz2 rfl V _ toks.length (jg toks) rfl (ownsRow_below hown eX (bY _)) _ 1 1 [.int .i64 3,.string (bytes ((s.drop p).take len)),.int .i64 0,.int .i64 p] rfl rfl (tI _ _ _ _ aM) qM cO Y dr ?_))
      intro v' w2 hown2 hgrow _;have hb2:Below w.heap.size w w2:=Below.grow eX hgrow dr (ownsRow_below hown eX (bY _)) (bY _);clear hgrow
      go_wp2_with ((go_at_call 75;((with_reducible refine (sd s (p+len) _ Y _ _ _ (sZ HR.out hb2) hc Y hpl).mono ?_);rintro e w' ⟨rfl,rfl⟩)))
      go_roundw
      case rel=>exact ⟨p+len,toks++[⟨3,bytes ((s.drop p).take len),0,p⟩],rfl,hpl,u_,wD HP.out hk hlt HN.out H4.out HLX.out,dr,hb2⟩
      case measure=>simp [intOf];omega
     ·go_ret3
      exact ⟨⟨_,_,_,J,.inr ⟨p,3,zo hs HP.out hlt (by rw [HNM.out,if_pos Y]) HLX.out,J,J,J,Y⟩⟩,eX⟩
     ·have h4:((toks.length:Int) == 4000)=true:=l7
      go_ret3
      exact ⟨⟨_,_,_,J,.inr ⟨p,3,wA hs HP.out hlt (show eK (s.drop p)=.tok 1 len 0 from by have hq:fT (bytes ((s.drop p).take len))=false:=by {assumption};rw [HNM.out,if_neg Y,if_neg (by simp [hq])]) uV HLX.out,rfl,rfl,rfl,Y⟩⟩,eX⟩
     ·have h4:((toks.length:Int) == 4000)=false:=l7;have h4':toks.length≠4000:=vS;have h5:toks.length<4000:=Y;have HN:=Lib.hid (show eK (s.drop p)=.tok 1 len 0 from by have hq:fT (bytes ((s.drop p).take len))=false:=by {assumption};rw [HNM.out,if_neg Y,if_neg (by simp [hq])]);have H4:=Lib.hid h4';clear h4'
      go_wp2_with (first|(rw [pA HB.out p len _ hpl _ (λo=>zr)];go_simp)|(at_builtin;refine wpList_append_own _ rfl _ _ 128 rfl w.heap.size 150 i0 _ 4 40 rG hi hz0 hz1 hz2 rfl V _ toks.length (jg toks) rfl (ownsRow_below hown eX (bY _)) _ 1 1 [.int .i64 1,.string (bytes ((s.drop p).take len)),.int .i64 0,.int .i64 p] rfl rfl (tI _ _ _ _ aM) qM cO Y dr ?_))
      intro v' w2 hown2 hgrow _;have hb2:Below w.heap.size w w2:=Below.grow eX hgrow dr (ownsRow_below hown eX (bY _)) (bY _);clear hgrow
      go_wp2_with ((go_at_call 75;((with_reducible refine (sd s (p+len) _ Y _ _ _ (sZ HR.out hb2) hc Y hpl).mono ?_);rintro e w' ⟨rfl,rfl⟩)))
      go_roundw
      case rel=>exact ⟨p+len,toks++[⟨1,bytes ((s.drop p).take len),0,p⟩],rfl,hpl,u_,wD HP.out hk hlt HN.out H4.out HLX.out,dr,hb2⟩
      case measure=>simp [intOf];omega
  |false=>
   cases hdg:dT s[p] with
   |true=>
    obtain ⟨len,ld⟩:∃len,len=((s.drop p).takeWhile dT).length:=⟨_,rfl⟩;have hpl:p+len <= s.length:=by have:=(xF (l:=s.drop p) dT).length_le;rw [←ld,kA] at this;omega
    have htw:(s.drop p).take len=(s.drop p).takeWhile dT:=by rw [ld];exact takeWhile_take dT (s.drop p)
    have hnn:fY 0 ((s.drop p).take len)=none -> eK (s.drop p)=.err 2:=by
     intro h;have h1:=yS (c:=s[p]) (r:=s.drop (p+1)) hl hdg (by rw [←jw s p hlt,←htw];exact h);rw [←jw s p hlt] at h1;exact h1
    have hns:∀nv,fY 0 ((s.drop p).take len)=some nv -> eK (s.drop p)=.tok 2 len nv:=by
     intro nv h;have h1:=xO (c:=s[p]) (r:=s.drop (p+1)) hl hdg (by rw [←jw s p hlt,←htw];exact h);rw [←jw s p hlt,←ld] at h1;exact h1
    have aId:Hid (∀c∈(s.drop p).take len,dT c=true):=Lib.hid (by rw [htw];exact λc hc=>(fC.1 (FZ (p:=dT) (l:=s.drop p))) c hc);have hl0:0<len:=by rw [ld,jw s p hlt,uJ hdg];simp
    have HNN:=Lib.hid hnn;have HNS:=Lib.hid hns;have HL2:=Lib.hid ld;have hsz:=hbel.size;have hge:=tT s (p+len) hpl;clear ld hnn hns htw
    go_wp2_with (first|(go_at_call 68;((with_reducible refine (nU _ _).mono ?_);rintro e w' ⟨rfl,rfl⟩))|(go_at_call 69;((with_reducible refine (oT _ _).mono ?_);rintro e w' ⟨rfl,rfl⟩)))
    go_hide hQ
    go_loop [8] (λv=>∃d:Nat,d <= len /\ v=.int .i64 ((p:Int)+d) /\ len=d+(((s.drop p).drop d).takeWhile dT).length) (λv=>s.length-(intOf v).toNat)
    case atStart=>exact ⟨0,Y,aM,by rw [HL2.out];simp⟩
    case round=>
     obtain ⟨d,hd,rfl,hinv⟩:=hrel;have HI:=Lib.hid hinv;clear hinv;by_cases hlt2:p+d<s.length
     ·have g1:(p:Int)+d<s.length:=Y;have hcell2:=ph.cell HB.out (p+d) hlt2;have hst:=Bz dT (s.drop p) d IR (by rw [←HL2.out];exact HI.out);rw [List.getElem_drop,←HL2.out] at hst;have HST:=Lib.hid hst;clear hst;cases hn:dT s[p+d] with
      |true=>
       have hnx:=HST.out.1 hn;have HNX:=Lib.hid hnx;have hdl:d+1 <= len:=Y;clear hnx
       go_wp2_with (first|(go_at_call 68;((with_reducible refine (nU _ _).mono ?_);rintro e w' ⟨rfl,rfl⟩))|(go_at_call 69;((with_reducible refine (oT _ _).mono ?_);rintro e w' ⟨rfl,rfl⟩)))
       go_round
       case rel=>exact ⟨d+1,hdl,dr,HNX.out⟩
       case measure=>simp [intOf];omega
      |false=>
       have hdl:len=d:=HST.out.2 hn;subst hdl;cases rx:fY 0 ((s.drop p).take len) with
       |none=>
        have hni:sV ((s.drop p).take len)=-1:=Br;have HNI:=Lib.hid hni;have HE:=Lib.hid (HNN.out rx);clear hni rx
        go_wp2_with (first|(go_at_call 68;((with_reducible refine (nU _ _).mono ?_);rintro e w' ⟨rfl,rfl⟩))|(go_at_call 69;((with_reducible refine (oT _ _).mono ?_);rintro e w' ⟨rfl,rfl⟩)))
        subst hQ
        go_wp2_with (go_at_call 76;((with_reducible refine (Ax HB.out p len _ hpl Y aId.out _ (λo=>og wr _ ⟨b,o,none⟩ hblt)).mono ?_);rintro e w' ⟨rfl,rfl⟩;rw [HNI.out]))
        go_ret3
        exact ⟨⟨_,_,_,J,.inr ⟨p,2,zo hs HP.out hlt HE.out HLX.out,J,J,J,Y⟩⟩,eX⟩
       |some nv=>
        have hni:sV ((s.drop p).take len)=nv:=Br;have HNI:=Lib.hid hni;have HNM:=Lib.hid (HNS.out nv rx);clear hni rx
        go_wp2_with (first|(go_at_call 68;((with_reducible refine (nU _ _).mono ?_);rintro e w' ⟨rfl,rfl⟩))|(go_at_call 69;((with_reducible refine (oT _ _).mono ?_);rintro e w' ⟨rfl,rfl⟩)))
        subst hQ
        go_wp2_with (go_at_call 76;((with_reducible refine (Ax HB.out p len _ hpl Y aId.out _ (λo=>og wr _ ⟨b,o,none⟩ hblt)).mono ?_);rintro e w' ⟨rfl,rfl⟩;rw [HNI.out]))
        ·have h4:((toks.length:Int) == 4000)=true:=l7
         go_ret3
         exact ⟨⟨_,_,_,J,.inr ⟨p,3,wA hs HP.out hlt (show eK (s.drop p)=.tok 2 len nv from HNM.out) uV HLX.out,J,J,J,Y⟩⟩,eX⟩
        have h4:((toks.length:Int) == 4000)=false:=l7;have h4':toks.length≠4000:=vS;have h5:toks.length<4000:=Y;have HN:=Lib.hid (show eK (s.drop p)=.tok 2 len nv from HNM.out);have H4:=Lib.hid h4';clear h4'
        go_wp2_with (first|(rw [pA HB.out p len _ hpl _ (λo=>og wr _ ⟨b,o,none⟩ hblt)];go_simp)|(at_builtin;refine wpList_append_own _ rfl _ _ 128 rfl w.heap.size 150 i0 _ 4 40 rG hi hz0 hz1 hz2 rfl V _ toks.length (jg toks) rfl (ownsRow_below hown eX (bY _)) _ 1 1 [.int .i64 2,.string (bytes ((s.drop p).take len)),.int .i64 nv,.int .i64 p] rfl rfl (tI _ _ _ _ aM) qM cO Y dr ?_))
        intro v' w2 hown2 hgrow _;have hb2:Below w.heap.size w w2:=Below.grow eX hgrow dr (ownsRow_below hown eX (bY _)) (bY _);clear hgrow
        go_wp2_with ((go_at_call 75;((with_reducible refine (sd s (p+len) _ Y _ _ _ (sZ HR.out hb2) hc Y hpl).mono ?_);rintro e w' ⟨rfl,rfl⟩)))
        go_roundw
        case rel=>exact ⟨p+len,toks++[⟨2,bytes ((s.drop p).take len),nv,p⟩],rfl,hpl,u_,wD HP.out hk hlt HN.out H4.out HLX.out,dr,hb2⟩
        case measure=>simp [intOf];omega
     ·have hdl:len=d:=NL;have g1:(s.length:Int) <= p+d:=Y;subst hdl;cases rx:fY 0 ((s.drop p).take len) with
      |none=>
       have hni:sV ((s.drop p).take len)=-1:=Br;have HNI:=Lib.hid hni;have HE:=Lib.hid (HNN.out rx);clear hni rx
       go_wp2_with (first|(go_at_call 68;((with_reducible refine (nU _ _).mono ?_);rintro e w' ⟨rfl,rfl⟩))|(go_at_call 69;((with_reducible refine (oT _ _).mono ?_);rintro e w' ⟨rfl,rfl⟩)))
       subst hQ
       go_wp2_with (go_at_call 76;((with_reducible refine (Ax HB.out p len _ hpl Y aId.out _ (λo=>og wr _ ⟨b,o,none⟩ hblt)).mono ?_);rintro e w' ⟨rfl,rfl⟩;rw [HNI.out]))
       go_ret3
       exact ⟨⟨_,_,_,J,.inr ⟨p,2,zo hs HP.out hlt HE.out HLX.out,J,J,J,Y⟩⟩,eX⟩
      |some nv=>
       have hni:sV ((s.drop p).take len)=nv:=Br;have HNI:=Lib.hid hni;have HNM:=Lib.hid (HNS.out nv rx);clear hni rx
       go_wp2_with (first|(go_at_call 68;((with_reducible refine (nU _ _).mono ?_);rintro e w' ⟨rfl,rfl⟩))|(go_at_call 69;((with_reducible refine (oT _ _).mono ?_);rintro e w' ⟨rfl,rfl⟩)))
       subst hQ
       go_wp2_with (go_at_call 76;((with_reducible refine (Ax HB.out p len _ hpl Y aId.out _ (λo=>og wr _ ⟨b,o,none⟩ hblt)).mono ?_);rintro e w' ⟨rfl,rfl⟩;rw [HNI.out]))
       ·have h4:((toks.length:Int) == 4000)=true:=l7
        go_ret3
        exact ⟨⟨_,_,_,J,.inr ⟨p,3,wA hs HP.out hlt (show eK (s.drop p)=.tok 2 len nv from HNM.out) uV HLX.out,J,J,J,Y⟩⟩,eX⟩
       ·have h4:((toks.length:Int) == 4000)=false:=l7;have h4':toks.length≠4000:=vS;have h5:toks.length<4000:=Y;have HN:=Lib.hid (show eK (s.drop p)=.tok 2 len nv from HNM.out);have H4:=Lib.hid h4';clear h4'
        go_wp2_with (first|(rw [pA HB.out p len _ hpl _ (λo=>og wr _ ⟨b,o,none⟩ hblt)];go_simp)|(at_builtin;refine wpList_append_own _ rfl _ _ 128 rfl w.heap.size 150 i0 _ 4 40 rG hi hz0 hz1 hz2 rfl V _ toks.length (jg toks) rfl (ownsRow_below hown eX (bY _)) _ 1 1 [.int .i64 2,.string (bytes ((s.drop p).take len)),.int .i64 nv,.int .i64 p] rfl rfl (tI _ _ _ _ aM) qM cO Y dr ?_))
        intro v' w2 hown2 hgrow _;have hb2:Below w.heap.size w w2:=Below.grow eX hgrow dr (ownsRow_below hown eX (bY _)) (bY _);clear hgrow
        go_wp2_with ((go_at_call 75;((with_reducible refine (sd s (p+len) _ Y _ _ _ (sZ HR.out hb2) hc Y hpl).mono ?_);rintro e w' ⟨rfl,rfl⟩)))
        go_roundw
        case rel=>exact ⟨p+len,toks++[⟨2,bytes ((s.drop p).take len),nv,p⟩],rfl,hpl,u_,wD HP.out hk hlt HN.out H4.out HLX.out,dr,hb2⟩
        case measure=>simp [intOf];omega
   |false=>
    obtain ⟨len,ld⟩:∃len,len=kI (s.drop p):=⟨_,rfl⟩;have hpl:p+len <= s.length:=by have:=(KA (s.drop p)).2;rw [←ld,kA] at this;omega
    have hsn:=wB (c:=s[p]) (r:=s.drop (p+1)) hl hdg;rw [←jw s p hlt,←ld] at hsn;have hsz:=hbel.size;have hge:=tT s (p+len) hpl;have HSN:=Lib.hid hsn;clear hsn;have HSG:=Lib.hid ld;clear ld;by_cases h0:len=0
    ·have HE:=Lib.hid (show eK (s.drop p)=.err 1 by rw [HSN.out,if_pos h0]);have hq:((p:Int)+len == p)=true:=FL;have H0:=Lib.hid h0;clear h0
     go_wp2_with (first|(go_at_call 68;((with_reducible refine (nU _ _).mono ?_);rintro e w' ⟨rfl,rfl⟩))|(go_at_call 69;((with_reducible refine (oT _ _).mono ?_);rintro e w' ⟨rfl,rfl⟩))|(go_at_call 77;((with_reducible refine (Q6 s p b off cap _ (λj u hu=>Jt) hc hcm Y hlt).mono ?_);rintro e w1 ⟨rfl,hb⟩;rw [←HSG.out];obtain ⟨hcc,hcf⟩:=qp hb;have IS:Below wr.heap.size wr w1:=((Below.refl _ _).alloc (bY _) _).trans (hb.mono aM);have hbW1:Below w.heap.size w w1:=hbel.trans (IS.mono hsz);have hsz1:=IS.size)))
     go_ret3
     exact ⟨⟨_,_,_,J,.inr ⟨p,1,zo hs HP.out hlt HE.out HLX.out,J,J,J,Y⟩⟩,eX⟩
    have HNM:=Lib.hid (show eK (s.drop p)=.tok 4 len 0 by rw [HSN.out,if_neg h0]);have hq:((p:Int)+len == p)=false:=Gw;have hl0:0<len:=Y;clear h0
    go_wp2_with (first|(go_at_call 68;((with_reducible refine (nU _ _).mono ?_);rintro e w' ⟨rfl,rfl⟩))|(go_at_call 69;((with_reducible refine (oT _ _).mono ?_);rintro e w' ⟨rfl,rfl⟩))|(go_at_call 77;((with_reducible refine (Q6 s p b off cap _ (λj u hu=>Jt) hc hcm Y hlt).mono ?_);rintro e w1 ⟨rfl,hb⟩;rw [←HSG.out];obtain ⟨hcc,hcf⟩:=qp hb;have IS:Below wr.heap.size wr w1:=((Below.refl _ _).alloc (bY _) _).trans (hb.mono aM);have hbW1:Below w.heap.size w w1:=hbel.trans (IS.mono hsz);have hsz1:=IS.size)))
    ·have h4:((toks.length:Int) == 4000)=true:=l7
     go_ret3
     exact ⟨⟨_,_,_,J,.inr ⟨p,3,wA hs HP.out hlt (show eK (s.drop p)=.tok 4 len 0 from HNM.out) uV HLX.out,J,J,J,Y⟩⟩,eX⟩
    have h4:((toks.length:Int) == 4000)=false:=l7;have h4':toks.length≠4000:=vS;have h5:toks.length<4000:=Y;have HN:=Lib.hid (show eK (s.drop p)=.tok 4 len 0 from HNM.out);have H4:=Lib.hid h4';clear h4'
    go_wp2_with (first|(rw [pA HB.out p len _ hpl _ (λo=>zr)];go_simp)|(at_builtin;refine wpList_append_own _ rfl _ _ 128 rfl w.heap.size 150 i0 _ 4 40 rG hi hz0 hz1 hz2 rfl V _ toks.length (jg toks) rfl (ownsRow_below hown eX (bY _)) _ 1 1 [.int .i64 4,.string (bytes ((s.drop p).take len)),.int .i64 0,.int .i64 p] rfl rfl (tI _ _ _ _ aM) qM cO Y dr ?_))
    intro v' w2 hown2 hgrow _;have hb2:Below w.heap.size w w2:=Below.grow eX hgrow dr (ownsRow_below hown eX (bY _)) (bY _);clear hgrow
    go_wp2_with ((go_at_call 75;((with_reducible refine (sd s (p+len) _ Y _ _ _ (sZ HR.out hb2) hc Y hpl).mono ?_);rintro e w' ⟨rfl,rfl⟩)))
    go_roundw
    case rel=>exact ⟨p+len,toks++[⟨4,bytes ((s.drop p).take len),0,p⟩],rfl,hpl,u_,wD HP.out hk hlt HN.out H4.out HLX.out,dr,hb2⟩
    case measure=>simp [intOf];omega
def Uz(a:Option Addr)(n cap:Nat)(w:aa)(hs:(262144:Int)<n):
  Calls prog 46 #[.slice a n cap] w λe w'=>e=.returned (.tuple #[.slice none 0 0,.int .i64 262144,.int .i64 3]) /\ w=w':=by
 go_enter func46,Tryz.ntmps46
 go_wp2_with fail
 go_ret3
 exact ⟨J,J⟩
def XO(s:List UInt8)(v:aN)(w:aa)(hv:eD w v s.length (dU s))(hcm:∀a n c,v=.slice a n c -> c <= 9223372036854775807):
  Calls prog 46 #[v] w λe w'=>(∃v pos er,e=.returned (.tuple #[v,.int .i64 pos,.int .i64 er]) /\ sC w' w.heap.size s v pos er) /\ Below w.heap.size w w':=by
 obtain ⟨a,cap,rfl,hc,hr⟩:=hv;by_cases hs:262144<s.length
 ·refine (Uz a _ cap w Y).mono λe w' ⟨h,hw⟩=>?_;subst hw;refine ⟨⟨_,_,_,h,.inr ⟨262144,3,?_,J,J,J,Y⟩⟩,Below.refl _ _⟩;unfold gj;rw [if_pos Y]
 exact Ut s a cap w Y hc (hcm _ _ _ J) hr
abbrev cb(s:List UInt8):List aO:=s.map λc=>.val (.int .u8 c.toNat)
def De(s:List UInt8)(t:AT):Prop:=
 (∃l,gj s=.ok l /\ t=.fd [.c (aG da l),aj (s.length:Int),ab 0] /\ l.length <= 4001)∨(∃p e:Nat,gj s=.err p e /\ t=.fd [.c (aK),aj (p:Int),aj (e:Int)] /\ e≠0)
def Lb{N:List Nat}{w:aa}{base:Nat}{e:ax}{size:Nat}{v:aN}{n:Nat}{xs:List aN}(h:w.ownsRow base e size v n xs)(hN:∀x,x∈N -> x<base):eD (bh N w) v n xs:=by
 obtain ⟨h1,h2⟩:=h;have h9:=eD.Fk (⟨h1,h2⟩:w.ownsRow base e size v n xs);rcases h2 with ⟨rfl,rfl⟩|⟨g,cap,cur,rfl,hg,-⟩
 ·obtain rfl:xs=[]:=yz ta;exact .nil _
 obtain ⟨a,c,he,hc,hr⟩:=h9;refine ⟨a,c,he,hc,?_⟩;rcases hr with h0|⟨b,off,rfl,hr⟩
 ·exact .inl h0
 cases he;refine .inr ⟨g,0,J,λj v hj=>?_⟩;rw [pw]
 ·exact hr j v hj
 intro hm;have h9:g<base:=hN g hm;omega
def Cn(l:List Tok):l.flatMap da=(jg l).map .val:=by
 induction l with
 |nil=>rfl
 |cons t l ih=>rw [eZ,ih];unfold jg;rw [eZ,e1];rfl
def Lj(l:List Tok):∀u,u∈jg l -> u.oneCell'=true:=by
 intro u hu;unfold jg at hu;obtain ⟨t,_,h⟩:=kr.1 hu;unfold Tok.cells at h;simp only [mem_cons,not_mem_nil,or_false] at h;rcases h with rfl|rfl|rfl|rfl<;>rfl
def M'{w:aa}{v:aN}{n:Nat}{s:List UInt8}(h:cS w (.c (.sl n (cb s))) v):eD w v n (dU s) /\ ∀a k c,v=.slice a k c -> c <= 9223372036854775807:=by
 cases h with
 |c _ _ h=>cases h with
  |sl _ _ us _ hr hl hh hcap=>
   refine ⟨?_,hcap⟩;have:us=dU s:=by
    refine np (by rw [hl];simp [cb,dU]) λi h1 h2=>?_;have h3:=hh i (by rw [←hl];exact h1) h1;generalize hx:(cb s)[i]'(by rw [←hl];exact h1)=x at h3;unfold cb at hx;rw [qe] at hx;subst hx;have hi:i<s.length:=by simpa [dU] using h2
    have h4:us[i]=.int .u8 s[i].toNat:=by
     generalize us[i]=u at h3;cases h3;rfl
    rw [h4];simp [dU]
   rw [←this];exact hr
def Y'{F:FuncId}{bs:List UInt8}{s:aH}(W:aa -> Prop)(hW:∀w,Mem s w -> W w)(hF:∀v w,W w -> eD w v bs.length (dU bs) -> (∀a k c,v=.slice a k c -> c <= 9223372036854775807) -> Calls prog F #[v] w λe w'=>(∃v pos er,e=.returned (.tuple #[v,.int .i64 pos,.int .i64 er]) /\ sC w' w.heap.size bs v pos er) /\ Below w.heap.size w w'):
  aT prog F [.c (.sl bs.length (cb bs))] [] s λt s'=>De bs t /\ s'=s:=by
 intro vs w hm _ hl hr;obtain ⟨v,rfl⟩:∃v,vs=[v]:=by
  cases vs with
  |nil=>cases hl
  |cons v vs=>cases vs with
   |nil=>exact ⟨v,rfl⟩
   |cons _ _=>simp at hl
 obtain ⟨hv,hcap⟩:=M' (hr 0 aM aM);refine (hF v w (hW w hm) (hv.mono λa u h=>(qL h).1) hcap).mono λe w' ⟨⟨v',pos,er,he,hf⟩,hb⟩=>?_;have hk:cQ [] w w':=cQ.of_below hb;have hu:f7 (bh s.bl w) (bh s.bl w'):=l_ hk jf (λb h=>.inl h);obtain ⟨m1,m2⟩:=hm.up hu Is;have hm':Mem s w':=⟨hm.nodup,λb hb'=>mM (hm.lt b hb') hk.size,m1,m2⟩;have t3:∀(x:AT)(p e2:Int),cS (bh s.bl w') x v' -> cS (bh s.bl w') (.fd [x,aj p,aj e2]) (.tuple #[v',.int .i64 p,.int .i64 e2]):=λx p e2 hx=>by
  refine .fd _ [v',.int .i64 p,.int .i64 e2] J λi h h'=>?_
  match i,h,h' with
  |0,_,_=>exact hx
  |1,_,_=>exact .c _ _ (.val _ rfl)
  |2,_,_=>exact .c _ _ (.val _ rfl)
 subst he;rcases hf with ⟨l,h1,h2,rfl,rfl,h3⟩|⟨p,e2,h1,rfl,rfl,rfl,h2⟩
 ·refine ⟨_,_,s,J,⟨.inl ⟨l,h1,J,h3⟩,J⟩,t3 _ _ _ (.c _ _ (.sl _ _ (jg l) _ (Lb h2 hm.lt) ?_ ?_ ?_)),hm',hk,λb hb=>.inl hb⟩
  ·rw [Cn];simp
  ·rw [Cn];exact (oK _ _ (Lj l)).at_
  exact Cd h2
 exact ⟨_,_,s,J,⟨.inr ⟨p,e2,h1,J,h2⟩,J⟩,t3 _ _ _ (.c _ _ (.val _ J)),hm',hk,λb hb=>.inl hb⟩
def Ne(bs:List UInt8)(s:aH):aT prog 46 [.c (.sl bs.length (cb bs))] [] s λt s'=>De bs t /\ s'=s:=
 Y' (λ_=>True) (λ_ _=>trivial) λv w _ hv hc=>XO bs v w hv hc
section
variable {P:Program}{U T:List Nat}{o:Oper}{n d:Nat}{ts:List (Nat×AT)}{s:aH}{K:AS -> Prop}
theorem oe{F:FuncId}{x:bb}{fst cap:Array aN}{ks:Array bb}{rg:Array ax}{us:List AT}(T':List Nat){QQ:AT -> aH -> Prop}(ho:o.op=.call {callee:=.value x,args:=ks,argTypes:=rg})(hx:aw ⟨n,T,s,ts⟩ x=some (ap (.func (.func F) fst cap)))(hd:o.dst=some d)(hn:d<n)
  (hcf:∀args w,(callFunc F args).run P w=.ok (.enter F args) w) (has:ks.toList.map (aw ⟨n,T,s,ts⟩)=us.map some) (hc:aT P F (fst.toList.map gO++us++cap.toList.map gO) T' s QQ) (hT:∀b,b∈T' -> b∈T) (ur:∀b,b∈T' -> b∈s.bl) (hU:s.bl.Nodup -> ∀b,b∈T' -> b∈U)
  (h:∀r s',QQ r s' -> ∃T2,(s'.bl.Nodup -> ∀b,b∈T2 -> b∈s'.bl /\ (b∈s.bl -> b∈T)) /\ K ⟨n,T2++T,s',(d,r)::ts⟩):db P U o ⟨n,T,s,ts⟩ K:=by
 intro a w hs KK QQ' hK;obtain ⟨h1,h2⟩:=pZ hs has;obtain ⟨c1,c2⟩:=Bd (bh s.bl w) fst.toList;obtain ⟨fK,fe⟩:=Bd (bh s.bl w) cap.toList;obtain ⟨g1,g2⟩:=EG c1 c2 h1 h2;obtain ⟨g3,g4⟩:=EG g1 g2 fK fe;unfold Oper.wp;rw [show (execOp a.eval o).run P w=.ok (.enter F (fst.toList++ks.toList.map a.eval++cap.toList).toArray) w from by
  simp only [execOp,ho,resolve,hs.val hx,Deferred.ofValue,dK,fo,eu,invoke];rw [hcf]
  congr 2
  rw [←oZ];simp,Oper.upon_enter]
 refine (hc _ w hs.mem ur g3 g4).mono ?_;rintro en w' ⟨r,v,s',rfl,hq,hr,hm,hk,hb⟩;dsimp only;rw [hd];obtain ⟨T2,ht,hK2⟩:=h r s' hq;have s1:=hs.step (T2++T) (hk.mono ur) hm hb;refine hK _ _ _ hK2 (s1.put hn hr) ⟨hk.mono ur,hk.mono hT,hb,λb hb2=>?_⟩ (hk.mono (hU hs.mem.nodup));rcases mem_append.1 hb2 with hb2|hb2
 ·obtain ⟨ae,e2⟩:=ht hm.nodup b hb2;exact (hb b ae).imp e2 id
 exact .inl hb2
theorem IP{bx bx':List aV}{r r':aQ}{rw:List aQ}{b:Nat}(hb:bx'.map aV.b=bx.map aV.b)(hn:(⟨bx',r'::rw⟩:aH).bl.Nodup)(h1:b∈aR r'.v)(h2:b∈(⟨bx,r::rw⟩:aH).bl):b∈aR r.v:=by
 unfold aH.bl at hn h2;simp only [eZ,mem_append] at h2;simp only [eZ] at hn;rw [hb] at hn;rcases h2 with h|h|h
 ·exact absurd J ((eF.1 hn).2.2 b h b (gW _ h1))
 ·exact h
 exact absurd J ((eF.1 (eF.1 hn).2.1).2.2 b h1 b h)
end
end
section
open Go.RowKit
def LQ(places:Bool)(l m:List Tok):Prop:=l.length=m.length /\ ∀k (h:k<l.length) (h':k<m.length),l[k].kind=m[k].kind /\ l[k].text=m[k].text /\ l[k].num=m[k].num /\ (places=true -> l[k].pos=m[k].pos)
def LQ.refl(p:Bool)(l:List Tok):LQ p l l:=⟨rfl,λ_ _ _=>⟨rfl,rfl,rfl,λ_=>rfl⟩⟩
abbrev I7(bs:List UInt8)(m:Int):AT:=.fact (.fact (.c (.sl bs.length (cb bs))) 0 0 (words.map λx=>ac x)) 2 0 [aA m]
def OK{t:AT}{b o:Nat}{cs:List aO}:bI (.fact t b o cs) t:=λw v h=>by cases h with|fact _ _ _ _ us _ h _ _=>exact h
def XS{bs:List UInt8}{m:Int}:bI (I7 bs m) (.c (.sl bs.length (cb bs))):=λw v h=>OK w v (OK w v h)
def AE{w:aa}{us vs:List aN}(h:dA w (vs.map .val) us):us=vs:=by
 refine np (by have:=h.len;simpa using this) λi h1 h2=>?_;have h3:=h.at_ i qD h1;generalize hx:(vs.map aO.val)[i]'(by simpa using h2)=x at h3;rw [qe] at hx;subst hx;generalize us[i]=u at h3;cases h3;rfl
def WH{bl:List Nat}{w:aa}{bs:List UInt8}{m:Int}{v:aN}(h:cS (bh bl w) (I7 bs m) v):Env w:=by
 cases h with
 |fact _ _ _ _ us2 _ h hm hma=>
  cases h with
  |fact _ _ _ _ us _ _ hw hwa=>
   obtain rfl:us2=[.int .i64 m]:=AE (vs:=[.int .i64 m]) hm;obtain rfl:us=words.map .string:=AE (vs:=words.map .string) (by rw [o8];exact hw);have h1:∀j,j<words.length -> w.cell? ⟨0,0+j,none⟩=some (.string (words.getD j ByteArray.empty)):=λj hj=>by
    refine (qL (hwa j _ ?_)).1;rw [nz,kl hj];simp [List.getD,hj]
   have h2:w.cell? ⟨2,0,none⟩=some (.int .i64 m):=(qL (hma 0 _ J)).1;refine ⟨h1,⟨m,h2⟩,?_⟩;have ae:=mj (h1 0 V);have e2:=mj h2;exact Nat.succ_le_of_lt (Nat.max_lt.2 ⟨ae,e2⟩)
def Ui{F:FuncId}{bs:List UInt8}{s:aH}{t0:AT}(hF:∀v w,cS (bh s.bl w) t0 v -> Calls prog F #[v] w λe w'=>(∃v pos er,e=.returned (.tuple #[v,.int .i64 pos,.int .i64 er]) /\ sC w' w.heap.size bs v pos er) /\ Below w.heap.size w w'):
  aT prog F [t0] [] s λt s'=>De bs t /\ s'=s:=by
 intro vs w hm _ hl hr;obtain ⟨v,rfl⟩:∃v,vs=[v]:=by
  cases vs with
  |nil=>cases hl
  |cons v vs=>cases vs with
   |nil=>exact ⟨v,rfl⟩
   |cons _ _=>simp at hl
 refine (hF v w (hr 0 aM aM)).mono λe w' ⟨⟨v',pos,er,he,hf⟩,hb⟩=>?_;have hk:cQ [] w w':=cQ.of_below hb;have hu:f7 (bh s.bl w) (bh s.bl w'):=l_ hk jf (λb h=>.inl h);obtain ⟨m1,m2⟩:=hm.up hu Is;have hm':Mem s w':=⟨hm.nodup,λb hb'=>mM (hm.lt b hb') hk.size,m1,m2⟩;have t3:∀(x:AT)(p e2:Int),cS (bh s.bl w') x v' -> cS (bh s.bl w') (.fd [x,aj p,aj e2]) (.tuple #[v',.int .i64 p,.int .i64 e2]):=λx p e2 hx=>by
  refine .fd _ [v',.int .i64 p,.int .i64 e2] J λi h h'=>?_
  match i,h,h' with
  |0,_,_=>exact hx
  |1,_,_=>exact .c _ _ (.val _ rfl)
  |2,_,_=>exact .c _ _ (.val _ rfl)
 subst he;rcases hf with ⟨l,h1,h2,rfl,rfl,h3⟩|⟨p,e2,h1,rfl,rfl,rfl,h2⟩
 ·refine ⟨_,_,s,J,⟨.inl ⟨l,h1,J,h3⟩,J⟩,t3 _ _ _ (.c _ _ (.sl _ _ (jg l) _ (Lb h2 hm.lt) ?_ ?_ ?_)),hm',hk,λb hb=>.inl hb⟩
  ·rw [Cn];simp
  ·rw [Cn];exact (oK _ _ (Lj l)).at_
  exact Cd h2
 exact ⟨_,_,s,J,⟨.inr ⟨p,e2,h1,J,h2⟩,J⟩,t3 _ _ _ (.c _ _ (.val _ J)),hm',hk,λb hb=>.inl hb⟩
def GY(bs:List UInt8)(m:Int)(s:aH):aT prog 94 [I7 bs m] [] s λt s'=>De bs t /\ s'=s:=
 Ui λv w h=>YT bs v w (WH h) ((M' (XS _ _ h)).1.mono λa u h=>(qL h).1)
section
variable {P:Program}{U T:List Nat}{o:Oper}{n d:Nat}{ts:List (Nat×AT)}{s:aH}{K:AS -> Prop}
theorem se{F:FuncId}{ks:Array bb}{rg:Array ax}{us:List AT}(T':List Nat){QQ:AT -> aH -> Prop}(ho:o.op=.call {callee:=.value (.func F),args:=ks,argTypes:=rg})(hd:o.dst=some d)(hn:d<n)
  (hcf:∀args w,(callFunc F args).run P w=.ok (.enter F args) w) (has:ks.toList.map (aw ⟨n,T,s,ts⟩)=us.map some) (hc:aT P F us T' s QQ) (hT:∀b,b∈T' -> b∈T) (ur:∀b,b∈T' -> b∈s.bl) (hU:s.bl.Nodup -> ∀b,b∈T' -> b∈U)
  (h:∀r s',QQ r s' -> ∃T2,(s'.bl.Nodup -> ∀b,b∈T2 -> b∈s'.bl /\ (b∈s.bl -> b∈T)) /\ K ⟨n,T2++T,s',(d,r)::ts⟩):db P U o ⟨n,T,s,ts⟩ K:=by
 intro a w hs KK QQ' hK;obtain ⟨h1,h2⟩:=pZ hs has;unfold Oper.wp;rw [show (execOp a.eval o).run P w=.ok (.enter F (ks.toList.map a.eval).toArray) w from by
  simp only [execOp,ho,resolve,Deferred.ofValue,Act.eval,dK,fo,eu,invoke];rw [hcf]
  congr 2
  rw [←oZ];simp,Oper.upon_enter]
 refine (hc _ w hs.mem ur h1 h2).mono ?_;rintro en w' ⟨r,v,s',rfl,hq,hr,hm,hk,hb⟩;dsimp only;rw [hd];obtain ⟨T2,ht,hK2⟩:=h r s' hq;have s1:=hs.step (T2++T) (hk.mono ur) hm hb;refine hK _ _ _ hK2 (s1.put hn hr) ⟨hk.mono ur,hk.mono hT,hb,λb hb2=>?_⟩ (hk.mono (hU hs.mem.nodup));rcases mem_append.1 hb2 with hb2|hb2
 ·obtain ⟨ae,e2⟩:=ht hm.nodup b hb2;exact (hb b ae).imp e2 id
 exact .inl hb2
theorem FN{bx bx':List aV}{rs rs' rw:List aQ}{b:Nat}(hb:bx'.map aV.b=bx.map aV.b)(hn:(⟨bx',rs'++rw⟩:aH).bl.Nodup)(h1:b∈rs'.flatMap λr=>aR r.v)(h2:b∈(⟨bx,rs++rw⟩:aH).bl):b∈rs.flatMap λr=>aR r.v:=by
 unfold aH.bl at hn h2;simp only [dh,mem_append] at h2;simp only [dh] at hn;rw [hb] at hn;rcases h2 with h|h|h
 ·exact absurd J ((eF.1 hn).2.2 b h b (gW _ h1))
 ·exact h
 exact absurd J ((eF.1 (eF.1 hn).2.1).2.2 b h1 b h)
end
end
section
open Go.RowKit
def grownCap_le(w:aa)(n:Nat)(e:ax)(hn:n<9223372036854775808):n <= grownCap w n 0 e /\ grownCap w n 0 e <= 9223372036854775807:=by
 unfold grownCap Question.cut;have:w.tape w.drawn (.appendCap n 0 e)%(2 ^ 63-n)<2 ^ 63-n:=Nat.mod_lt _ Y;simp only;omega
def W7(w:aa)(s:aI)(c:Nat)(T:ax)(hc:s.size <= c)(fr:Nat×Nat):eD (w.drew.alloc (.cells (bytesRow s c) T fr)) (.slice (some ⟨w.heap.size,0,none⟩) s.size c) s.data.toList.length (dU s.data.toList):=by
 refine ⟨_,_,J,hc,.inr ⟨_,0,J,λj u hu=>?_⟩⟩;have hm:=World.cell?_alloc_mark w.drew (bytesRow s c) T fr j;rw [cq];have e:(⟨w.drew.heap.size,j,none⟩:Addr)=⟨w.heap.size,j,none⟩:=J;rw [←e,hm];have hj:j<s.data.toList.length:=by
  have:=(mN.1 hu).1;simpa [dU] using this
 unfold bytesRow;rw [E3 (by simpa using hj)];simp only [dU,nz] at hu;simpa using hu
end
section
inductive cJ (α:Type) where
 |ok (x:α) (k:Nat)
 |err (k e:Nat)
def dn(l:List Tok)(k:Nat):Tok:=l.getD k default
def nS{l:List Tok}{k:Nat}(h:k<l.length):dn l k=l[k]:=by unfold dn;rw [Gq,kl h];rfl
def binOp(s:ByteArray):Nat×Nat:=
 if s=bytes [124,124] then (17,1) else if s=bytes [38,38] then (16,2) else if s=bytes [61,61] then (14,3) else if s=bytes [33,61] then (15,3) else
 if s=bytes [60] then (10,3) else if s=bytes [60,61] then (11,3) else if s=bytes [62] then (12,3) else if s=bytes [62,61] then (13,3) else
 if s=bytes [43] then (8,4) else if s=bytes [45] then (9,4) else if s=bytes [42] then (5,5) else if s=bytes [47] then (6,5) else if s=bytes [37] then (7,5) else (0,0)
def fZ(l:List Tok)(k:Nat)(s:List UInt8):Bool:=decide ((dn l k).kind=4) && decide ((dn l k).text=bytes s)
def jt(l:List Tok)(sub:Nat -> cJ aS)(level:Nat):Nat -> aS -> Nat -> cJ aS
 |0,x,k=>.ok x k
 |n+1,x,k=>
  if (dn l k).kind=4 /\ (binOp (dn l k).text).2=level then
   match sub (k+1) with
   |.ok y k'=>jt l sub level n (.mk ((binOp (dn l k).text).1:Int) 0 ay [x,y]) k'
   |.err a e=>.err a e
  else .ok x k
def iW(l:List Tok)(single:Nat -> cJ aS):Nat -> Nat -> cJ aS
 |0,k=>single k
 |j+1,k=>
  match iW l single j k with
  |.ok x k'=>jt l (iW l single j) (5-j) (l.length+1) x k'
  |.err a e=>.err a e
def DX(op:Int):cJ aS -> cJ aS
 |.ok x k=>.ok (.mk op 0 ay [x]) k
 |.err a e=>.err a e
def Eh(l:List Tok):cJ aS -> cJ aS
 |.ok x k=>if fZ l k [41] then .ok x (k+1) else .err k 4
 |.err a e=>.err a e
def fA(l:List Tok):Nat -> Nat -> cJ aS
 |0,k=>
  if (dn l k).kind=2 then .ok (.mk 1 (dn l k).num ay []) (k+1)
  else if (dn l k).kind=1 then .ok (.mk 2 0 (dn l k).text []) (k+1)
  else if fZ l k [45]||fZ l k [33]||fZ l k [40] then .err k 3
  else .err k 4
 |d+1,k=>
  if (dn l k).kind=2 then .ok (.mk 1 (dn l k).num ay []) (k+1)
  else if (dn l k).kind=1 then .ok (.mk 2 0 (dn l k).text []) (k+1)
  else if fZ l k [45] then DX 3 (fA l d (k+1))
  else if fZ l k [33] then DX 4 (fA l d (k+1))
  else if fZ l k [40] then Eh l (iW l (fA l d) 5 (k+1))
  else .err k 4
def rI(l:List Tok)(k:Nat):cJ aS:=iW l (fA l 24) 5 k
def rC(l:List Tok):Prop:=∃h:0<l.length,(l[l.length-1]'(by omega)).kind=5
def rC.more{l:List Tok}(h:rC l){k:Nat}(hk:k<l.length)(hn:(dn l k).kind≠5):k+1<l.length:=by
 obtain ⟨h0,h1⟩:=h;rcases jn (k+1) l.length with h|h
 ·exact h
 exfalso;apply hn;rw [nS hk];obtain rfl:k=l.length-1:=by omega
 exact h1
def v_{l:List Tok}{k:Nat}{s:List UInt8}(h:fZ l k s=true):(dn l k).kind=4 /\ (dn l k).text=bytes s:=by simpa [fZ] using h
def cJ.In{α:Type}(l:List Tok)(k:Nat):cJ α -> Prop
 |.ok _ k'=>k<k' /\ k'<l.length
 |.err a e=>k <= a /\ a<l.length /\ 0<e /\ e<16
def cJ.In.mono{α:Type}{l:List Tok}{k j:Nat}{r:cJ α}(h:r.In l k)(hj:j <= k):r.In l j:=by
 cases r<;>unfold cJ.In at h⊢<;>omega
def Pt{l:List Tok}(hl:rC l){sub:Nat -> cJ aS}{level:Nat}(hs:∀k,k<l.length -> (sub k).In l k):∀(n:Nat)(x:aS)(k j:Nat),j<k -> k<l.length -> (jt l sub level n x k).In l j
 |0,x,k,j,hj,hk=>by unfold jt;exact ⟨hj,hk⟩
 |n+1,x,k,j,hj,hk=>by
  unfold jt;by_cases ht:(dn l k).kind=4 /\ (binOp (dn l k).text).2=level
  ·rw [if_pos ht];have hm:=hl.more hk Y;have h1:=hs (k+1) hm;cases hr:sub (k+1) with
   |ok y k'=>
    rw [hr] at h1;obtain ⟨h2,h3⟩:=h1;exact Pt hl hs n _ k' j Y h3
   |err a e=>
    rw [hr] at h1;obtain ⟨h2,h3,h4,h5⟩:=h1;exact ⟨Y,h3,h4,h5⟩
  rw [if_neg ht];exact ⟨hj,hk⟩
def zt{l:List Tok}(hl:rC l){single:Nat -> cJ aS}(hs:∀k,k<l.length -> (single k).In l k):∀(j k:Nat),k<l.length -> (iW l single j k).In l k
 |0,k,hk=>by unfold iW;exact hs k hk
 |j+1,k,hk=>by
  unfold iW;have h1:=zt hl hs j k hk;cases hr:iW l single j k with
  |ok x k'=>
   rw [hr] at h1;exact Pt hl (λk hk=>zt hl hs j k hk) _ _ _ _ h1.1 h1.2
  |err a e=>rw [hr] at h1;exact h1
def MF{l:List Tok}{op:Int}{k j:Nat}{r:cJ aS}(h:r.In l k)(hj:j <= k):(DX op r).In l j:=by
 cases r with
 |ok x k'=>obtain ⟨h1,h2⟩:=h;exact ⟨Y,h2⟩
 |err a e=>obtain ⟨h1,h2,h3,h4⟩:=h;exact ⟨Y,h2,h3,h4⟩
def W4{l:List Tok}(hl:rC l){k j:Nat}{r:cJ aS}(h:r.In l k)(hj:j <= k):(Eh l r).In l j:=by
 cases r with
 |ok x k'=>
  obtain ⟨h1,h2⟩:=h;show cJ.In l j (if fZ l k' [41] then .ok x (k'+1) else .err k' 4);by_cases hs:fZ l k' [41]=true
  ·rw [if_pos hs];exact ⟨Y,hl.more h2 (by rw [(v_ hs).1];decide)⟩
  ·rw [if_neg hs];exact ⟨Y,h2,Y,Y⟩
 |err a e=>obtain ⟨h1,h2,h3,h4⟩:=h;exact ⟨Y,h2,h3,h4⟩
def y_{l:List Tok}(hl:rC l):∀(d k:Nat),k<l.length -> (fA l d k).In l k
 |0,k,hk=>by
  unfold fA;by_cases h1:(dn l k).kind=2
  ·rw [if_pos h1];exact ⟨Y,hl.more hk Y⟩
  ·rw [if_neg h1];by_cases h2:(dn l k).kind=1
   ·rw [if_pos h2];exact ⟨Y,hl.more hk Y⟩
   ·rw [if_neg h2];split<;>exact ⟨Y,hk,Y,Y⟩
 |d+1,k,hk=>by
  unfold fA;by_cases h1:(dn l k).kind=2
  ·rw [if_pos h1];exact ⟨Y,hl.more hk Y⟩
  rw [if_neg h1];by_cases h2:(dn l k).kind=1
  ·rw [if_pos h2];exact ⟨Y,hl.more hk Y⟩
  rw [if_neg h2];by_cases h3:fZ l k [45]=true
  ·rw [if_pos h3];exact MF (y_ hl d _ (hl.more hk (by rw [(v_ h3).1];decide))) Y
  rw [if_neg h3];by_cases h4:fZ l k [33]=true
  ·rw [if_pos h4];exact MF (y_ hl d _ (hl.more hk (by rw [(v_ h4).1];decide))) Y
  rw [if_neg h4];by_cases h5:fZ l k [40]=true
  ·rw [if_pos h5];exact W4 hl (zt hl (λk hk=>y_ hl d k hk) _ _ (hl.more hk (by rw [(v_ h5).1];decide))) Y
  rw [if_neg h5];exact ⟨Y,hk,Y,Y⟩
def xe{l:List Tok}(hl:rC l){k:Nat}(hk:k<l.length):(rI l k).In l k:=zt hl (λk hk=>y_ hl 24 k hk) 5 k hk
end
section
def cJ.bind{α β:Type}(r:cJ α)(f:α -> Nat -> cJ β):cJ β:=
 match r with
 |.ok x k=>f x k
 |.err a e=>.err a e
def gM(l:List Tok)(k:Nat)(s:List UInt8):Bool:=decide ((dn l k).kind=3) && decide ((dn l k).text=bytes s)
def lq(l:List Tok)(k:Nat):cJ ByteArray:=if (dn l k).kind=1 then .ok (dn l k).text (k+1) else .err k 4
def mf(l:List Tok)(k:Nat):cJ Nat:=if (dn l k).kind=2 then .ok (dn l k).num (k+1) else .err k 4
def gJ(l:List Tok)(s:List UInt8)(k:Nat):cJ Unit:=if fZ l k s then .ok () (k+1) else .err k 4
def uf(l:List Tok)(n:ByteArray)(k:Nat):cJ cD:=
 if fZ l k [91] then (rI l (k+1)).bind λe k=>(gJ l [93] k).bind λ_ k=>.ok ⟨n,[e]⟩ k else .ok ⟨n,[]⟩ k
def Cf(l:List Tok)(k:Nat):cJ cD:=(lq l k).bind (uf l)
def tv(l:List Tok)(k:Nat):cJ bq:=
 if gM l k [109,117,116,101,120] then (Cf l (k+1)).bind λr k=>.ok ⟨true,r,.zero⟩ k
 else (rI l k).bind λe k=>.ok ⟨false,.zero,e⟩ k
def mm{α:Type}(l:List Tok)(el:Nat -> Nat -> cJ α):Nat -> List α -> Nat -> cJ (List α)
 |0,_,k=>.err k 4
 |n+1,acc,k=>(el acc.length k).bind λx k=>if fZ l k [44] then mm l el n (acc++[x]) (k+1) else (gJ l [41] k).bind λ_ k=>.ok (acc++[x]) k
def rM{α:Type}(l:List Tok)(el:Nat -> Nat -> cJ α)(k:Nat):cJ (List α):=
 (gJ l [40] k).bind λ_ k=>if fZ l k [41] then .ok [] (k+1) else mm l el l.length [] k
def ss(l:List Tok)(k:Nat):cJ (List bq):=rM l (λ_=>tv l) k
def mF(l:List Tok)(s:aD)(k:Nat):cJ aD:=(gJ l [59] k).bind λ_ k=>.ok s k
def Dy(l:List Tok)(k:Nat):cJ aD:=(lq l k).bind λn k=>(gJ l [61] k).bind λ_ k=>(rI l k).bind λe k=>mF l (.mk 1 n e .zero [] [] []) k
def C_(l:List Tok)(k:Nat):cJ aD:=(lq l k).bind λn k=>(ss l k).bind λa k=>mF l (.mk 4 n .zero .zero a [] []) k
def uq(l:List Tok)(kind:Int)(k:Nat):cJ aD:=(Cf l k).bind λr k=>mF l (.mk kind ay .zero r [] [] []) k
def zO(l:List Tok)(blk:Nat -> cJ (List aD))(e:aS)(t:List aD)(k:Nat):cJ aD:=
 if gM l k [101,108,115,101] then (blk (k+1)).bind λf k=>.ok (.mk 7 ay e .zero [] t f) k else .ok (.mk 7 ay e .zero [] t []) k
def wq(l:List Tok)(blk:Nat -> cJ (List aD))(k:Nat):cJ aD:=(rI l k).bind λe k=>(blk k).bind λt k=>zO l blk e t k
def EA(l:List Tok)(blk:Nat -> cJ (List aD))(k:Nat):cJ aD:=(rI l k).bind λe k=>(blk k).bind λt k=>.ok (.mk 8 ay e .zero [] t []) k
def Fx(l:List Tok)(k:Nat):cJ aD:=mF l (.mk 9 ay .zero .zero [] [] []) k
def vl(l:List Tok)(n:ByteArray)(k:Nat):cJ aD:=
 if fZ l k [61] then (rI l (k+1)).bind λe k=>mF l (.mk 2 n e .zero [] [] []) k else (ss l k).bind λa k=>mF l (.mk 3 n .zero .zero a [] []) k
def xT(l:List Tok)(k:Nat):cJ aD:=(lq l k).bind (vl l)
def oI(l:List Tok)(blk:Nat -> cJ (List aD))(k:Nat):cJ aD:=
 if gM l k [118,97,114] then Dy l (k+1)
 else if gM l k [103,111] then C_ l (k+1)
 else if gM l k [108,111,99,107] then uq l 5 (k+1)
 else if gM l k [117,110,108,111,99,107] then uq l 6 (k+1)
 else if gM l k [105,102] then wq l blk (k+1)
 else if gM l k [119,104,105,108,101] then EA l blk (k+1)
 else if gM l k [114,101,116,117,114,110] then Fx l (k+1)
 else xT l k
def ka(l:List Tok)(st:Nat -> cJ aD):Nat -> List aD -> Nat -> cJ (List aD)
 |0,_,k=>.err k 4
 |n+1,acc,k=>if fZ l k [125] then .ok acc (k+1) else (st k).bind λs k=>ka l st n (acc++[s]) k
def lP(l:List Tok):Nat -> Nat -> cJ (List aD)
 |0,k=>if fZ l k [123] then .err k 3 else .err k 4
 |d+1,k=>(gJ l [123] k).bind λ_ k=>ka l (oI l (lP l d)) l.length [] k
def Ap(l:List Tok)(k:Nat):cJ bw:=
 (lq l k).bind λn k=>
  if fZ l k [61] then
   if fZ l (k+1) [45] then (mf l (k+2)).bind λi k=>(gJ l [59] k).bind λ_ k=>.ok ⟨n,-(i:Int)⟩ k
   else (mf l (k+1)).bind λi k=>(gJ l [59] k).bind λ_ k=>.ok ⟨n,i⟩ k
  else (gJ l [59] k).bind λ_ k=>.ok ⟨n,0⟩ k
def Hj(l:List Tok)(k:Nat):cJ Nat:=(mf l k).bind λi k'=>if i<1∨64<i then .err k 3 else .ok i k'
def wb(l:List Tok)(re:Bool)(k:Nat):cJ cn:=
 (lq l k).bind λn k=>
  if re=false /\ fZ l k [91]=true then (Hj l (k+1)).bind λi k=>(gJ l [93] k).bind λ_ k=>(gJ l [59] k).bind λ_ k=>.ok ⟨n,re,i⟩ k
  else (gJ l [59] k).bind λ_ k=>.ok ⟨n,re,0⟩ k
def kN(l:List Tok)(n k:Nat):cJ bg:=
 if 6 <= n /\ ((dn l k).kind=1∨gM l k [109,117,116,101,120]=true) then .err k 3
 else if gM l k [109,117,116,101,120] then (lq l (k+1)).bind λs k=>.ok ⟨s,true⟩ k else (lq l k).bind λs k=>.ok ⟨s,false⟩ k
def Gu(l:List Tok)(k:Nat):cJ a_:=(lq l k).bind λn k=>(rM l (kN l) k).bind λp k=>(lP l 24 k).bind λb k=>.ok ⟨n,p,b⟩ k
def kK(l:List Tok)(x:aX)(k:Nat):cJ aX:=
 if gM l k [118,97,114] then if 16 <= x.globals.length then .err k 3 else (Ap l (k+1)).bind λg k=>.ok {x with globals:=x.globals++[g]} k
 else if gM l k [109,117,116,101,120] then if 12 <= x.mutexes.length then .err k 3 else (wb l false (k+1)).bind λm k=>.ok {x with mutexes:=x.mutexes++[m]} k
 else if gM l k [114,109,117,116,101,120] then if 12 <= x.mutexes.length then .err k 3 else (wb l true (k+1)).bind λm k=>.ok {x with mutexes:=x.mutexes++[m]} k
 else if gM l k [102,117,110,99] then if 16 <= x.funcs.length then .err k 3 else (Gu l (k+1)).bind λf k=>.ok {x with funcs:=x.funcs++[f]} k
 else .err k 4
def mD(l:List Tok):Nat -> aX -> Nat -> cJ aX
 |0,_,k=>.err k 4
 |n+1,x,k=>if (dn l k).kind=5 then .ok x k else (kK l x k).bind λy k=>mD l n y k
def lr(l:List Tok):cJ aX:=mD l l.length ⟨[],[],[]⟩ 0
def Ip{l:List Tok}{k:Nat}{s:List UInt8}(h:gM l k s=true):(dn l k).kind=3 /\ (dn l k).text=bytes s:=by simpa [gM] using h
def cJ.At{α:Type}(l:List Tok)(k:Nat):cJ α -> Prop
 |.ok _ k'=>k <= k' /\ k'<l.length
 |.err a e=>k <= a /\ a<l.length /\ 0<e /\ e<16
def cJ.In.at{α:Type}{l:List Tok}{k:Nat}{r:cJ α}(h:r.In l k):r.At l k:=by
 cases r<;>unfold cJ.In at h<;>unfold cJ.At<;>omega
def cJ.At.mono{α:Type}{l:List Tok}{k j:Nat}{r:cJ α}(h:r.At l k)(hj:j <= k):r.At l j:=by
 cases r<;>unfold cJ.At at h⊢<;>omega
def cJ.At.in{α:Type}{l:List Tok}{k j:Nat}{r:cJ α}(h:r.At l k)(hj:j<k):r.In l j:=by
 cases r<;>unfold cJ.At at h<;>unfold cJ.In<;>omega
def cJ.In.bind{α β:Type}{l:List Tok}{k:Nat}{r:cJ α}{f:α -> Nat -> cJ β}(h:r.In l k)(hf:∀x k',k<k' -> k'<l.length -> (f x k').At l k'):(r.bind f).In l k:=by
 cases r with
 |ok x k'=>unfold cJ.In at h;exact (hf x k' h.1 h.2).in h.1
 |err a e=>exact h
def cJ.At.bind{α β:Type}{l:List Tok}{k:Nat}{r:cJ α}{f:α -> Nat -> cJ β}(h:r.At l k)(hf:∀x k',k <= k' -> k'<l.length -> (f x k').At l k'):(r.bind f).At l k:=by
 cases r with
 |ok x k'=>unfold cJ.At at h;exact (hf x k' h.1 h.2).mono h.1
 |err a e=>exact h
def jm{α:Type}{l:List Tok}{k:Nat}{x:α}(hk:k<l.length):(cJ.ok x k).At l k:=⟨bY _,hk⟩
def t2{α:Type}{l:List Tok}{k:Nat}(hk:k<l.length):(cJ.err k 4:cJ α).In l k:=⟨bY _,hk,Y,Y⟩
def vz{α:Type}{l:List Tok}{k:Nat}(hk:k<l.length):(cJ.err k 3:cJ α).In l k:=⟨bY _,hk,Y,Y⟩
section
variable {l:List Tok}(hl:rC l)
include hl
theorem sH{k:Nat}(hk:k<l.length):(lq l k).In l k:=by
 unfold lq;split
 ·exact ⟨Y,hl.more hk Y⟩
 exact t2 hk
theorem Gh{k:Nat}(hk:k<l.length):(mf l k).In l k:=by
 unfold mf;split
 ·exact ⟨Y,hl.more hk Y⟩
 exact t2 hk
theorem pL{k:Nat}{s:List UInt8}(hk:k<l.length)(h:fZ l k s=true):k+1<l.length:=hl.more hk (by rw [(v_ h).1];decide)
theorem nM{k:Nat}{s:List UInt8}(hk:k<l.length)(h:gM l k s=true):k+1<l.length:=hl.more hk (by rw [(Ip h).1];decide)
theorem od{k:Nat}(s:List UInt8)(hk:k<l.length):(gJ l s k).In l k:=by
 unfold gJ;split
 ·rename_i h;exact ⟨Y,pL hl hk h⟩
 exact t2 hk
theorem Vn{n:aI}{k:Nat}(hk:k<l.length):(uf l n k).At l k:=by
 unfold uf;split
 ·rename_i h;exact (((xe hl (pL hl hk h)).bind λ_ _ _ hk=>((od hl _ hk).bind λ_ _ _ hk=>jm hk).at).at).mono Y
 exact jm hk
theorem NO{k:Nat}(hk:k<l.length):(Cf l k).In l k:=(sH hl hk).bind λ_ _ _ hk=>Vn hl hk
theorem IA{k:Nat}(hk:k<l.length):(tv l k).In l k:=by
 unfold tv;split
 ·rename_i h;exact (((NO hl (nM hl hk h)).bind λ_ _ _ hk=>jm hk).at).in Y
 exact (xe hl hk).bind λ_ _ _ hk=>jm hk
theorem Me{α:Type}{el:Nat -> Nat -> cJ α}(he:∀n k,k<l.length -> (el n k).In l k):∀(n:Nat)(acc:List α)(k:Nat),k<l.length -> (mm l el n acc k).In l k
 |0,_,k,hk=>by unfold mm;exact t2 hk
 |n+1,acc,k,hk=>by
  unfold mm;refine (he acc.length k hk).bind λx k' _ hk'=>?_;split
  ·rename_i h;exact (Me he n _ (k'+1) (pL hl hk' h)).at.mono Y
  exact ((od hl _ hk').bind λ_ _ _ hk=>jm hk).at
theorem Qd{α:Type}{el:Nat -> Nat -> cJ α}(he:∀n k,k<l.length -> (el n k).In l k){k:Nat}(hk:k<l.length):(rM l el k).In l k:=by
 unfold rM;refine (od hl _ hk).bind λx k' _ hk'=>?_;split
 ·rename_i h;exact (jm (pL hl hk' h)).mono Y
 exact (Me hl he _ _ _ hk').at
theorem O7{k:Nat}(hk:k<l.length):(ss l k).In l k:=Qd hl (λ_ _ hk=>IA hl hk) hk
theorem xf{s:aD}{k:Nat}(hk:k<l.length):(mF l s k).In l k:=(od hl _ hk).bind λ_ _ _ hk=>jm hk
theorem Ue{k:Nat}(hk:k<l.length):(Dy l k).In l k:=
 (sH hl hk).bind λ_ _ _ hk=>((od hl _ hk).bind λ_ _ _ hk=>((xe hl hk).bind λ_ _ _ hk=>(xf hl hk).at).at).at
theorem Sd{k:Nat}(hk:k<l.length):(C_ l k).In l k:=(sH hl hk).bind λ_ _ _ hk=>((O7 hl hk).bind λ_ _ _ hk=>(xf hl hk).at).at
theorem La{kd:Int}{k:Nat}(hk:k<l.length):(uq l kd k).In l k:=(NO hl hk).bind λ_ _ _ hk=>(xf hl hk).at
theorem T6{n:aI}{k:Nat}(hk:k<l.length):(vl l n k).At l k:=by
 unfold vl;split
 ·rename_i h;exact (((xe hl (pL hl hk h)).bind λ_ _ _ hk=>(xf hl hk).at).at).mono Y
 exact ((O7 hl hk).bind λ_ _ _ hk=>(xf hl hk).at).at
theorem Yd{k:Nat}(hk:k<l.length):(xT l k).In l k:=(sH hl hk).bind λ_ _ _ hk=>T6 hl hk
section
variable {blk:Nat -> cJ (List aD)}(hb:∀k,k<l.length -> (blk k).In l k)
include hb
theorem YP{e:aS}{t:List aD}{k:Nat}(hk:k<l.length):(zO l blk e t k).At l k:=by
 unfold zO;split
 ·rename_i h;exact (((hb _ (nM hl hk h)).bind λ_ _ _ hk=>jm hk).at).mono Y
 exact jm hk
theorem ZF{k:Nat}(hk:k<l.length):(wq l blk k).In l k:=(xe hl hk).bind λ_ _ _ hk=>((hb _ hk).bind λ_ _ _ hk=>YP hl hb hk).at
theorem YN{k:Nat}(hk:k<l.length):(EA l blk k).In l k:=(xe hl hk).bind λ_ _ _ hk=>((hb _ hk).bind λ_ _ _ hk=>jm hk).at
theorem OR{k:Nat}(hk:k<l.length):(oI l blk k).In l k:=by
 unfold oI;split;·rename_i h;exact (Ue hl (nM hl hk h)).mono Y
 split;·rename_i h;exact (Sd hl (nM hl hk h)).mono Y
 split;·rename_i h;exact (La hl (nM hl hk h)).mono Y
 split;·rename_i h;exact (La hl (nM hl hk h)).mono Y
 split;·rename_i h;exact (ZF hl hb (nM hl hk h)).mono Y
 split;·rename_i h;exact (YN hl hb (nM hl hk h)).mono Y
 split;·rename_i h;exact (xf hl (nM hl hk h)).mono Y
 exact Yd hl hk
end
theorem NW{st:Nat -> cJ aD}(hs:∀k,k<l.length -> (st k).In l k):∀(n:Nat)(acc:List aD)(k:Nat),k<l.length -> (ka l st n acc k).In l k
 |0,_,k,hk=>by unfold ka;exact t2 hk
 |n+1,acc,k,hk=>by
  unfold ka;split
  ·rename_i h;exact ⟨Y,pL hl hk h⟩
  exact (hs k hk).bind λs k' _ hk'=>(NW hs n _ k' hk').at
theorem HW:∀(d k:Nat),k<l.length -> (lP l d k).In l k
 |0,k,hk=>by unfold lP;split;exact vz hk;exact t2 hk
 |d+1,k,hk=>by
  unfold lP;exact (od hl _ hk).bind λ_ k' _ hk'=>(NW hl (λk hk=>OR hl (λk hk=>HW d k hk) hk) _ _ _ hk').at
theorem Vt{k:Nat}(hk:k<l.length):(Ap l k).In l k:=by
 unfold Ap;refine (sH hl hk).bind λ_ k _ hk=>?_;split
 ·rename_i h;have h1:=pL hl hk h;split
  ·rename_i h2;have h3:=pL hl h1 h2;exact (((Gh hl h3).bind λ_ _ _ hk=>((od hl _ hk).bind λ_ _ _ hk=>jm hk).at).at).mono Y
  exact (((Gh hl h1).bind λ_ _ _ hk=>((od hl _ hk).bind λ_ _ _ hk=>jm hk).at).at).mono Y
 exact ((od hl _ hk).bind λ_ _ _ hk=>jm hk).at
theorem WA{k:Nat}(hk:k<l.length):(Hj l k).In l k:=by
 unfold Hj;have h:=Gh hl hk;cases hr:mf l k with
 |ok i k'=>
  rw [hr] at h;show cJ.In l k (if i<1∨64<i then .err k 3 else .ok i k');split
  ·exact vz hk
  ·exact h
 |err a e=>rw [hr] at h;exact h
theorem OT{re:Bool}{k:Nat}(hk:k<l.length):(wb l re k).In l k:=by
 unfold wb;refine (sH hl hk).bind λ_ k _ hk=>?_;split
 ·rename_i h;exact (((WA hl (pL hl hk h.2)).bind λ_ _ _ hk=>((od hl _ hk).bind λ_ _ _ hk=>((od hl _ hk).bind λ_ _ _ hk=>jm hk).at).at).at).mono Y
 exact ((od hl _ hk).bind λ_ _ _ hk=>jm hk).at
theorem G2{n k:Nat}(hk:k<l.length):(kN l n k).In l k:=by
 unfold kN;split
 ·exact vz hk
 split
 ·rename_i h;exact (((sH hl (nM hl hk h)).bind λ_ _ _ hk=>jm hk).at).in Y
 exact (sH hl hk).bind λ_ _ _ hk=>jm hk
theorem R6{k:Nat}(hk:k<l.length):(Gu l k).In l k:=
 (sH hl hk).bind λ_ _ _ hk=>((Qd hl (λ_ _ hk=>G2 hl hk) hk).bind λ_ _ _ hk=>((HW hl 24 _ hk).bind λ_ _ _ hk=>jm hk).at).at
theorem ME{x:aX}{k:Nat}(hk:k<l.length):(kK l x k).In l k:=by
 unfold kK;split
 ·rename_i h;split
  ·exact vz hk
  exact (((Vt hl (nM hl hk h)).bind λ_ _ _ hk=>jm hk).at).in Y
 split
 ·rename_i h;split
  ·exact vz hk
  exact (((OT hl (nM hl hk h)).bind λ_ _ _ hk=>jm hk).at).in Y
 split
 ·rename_i h;split
  ·exact vz hk
  exact (((OT hl (nM hl hk h)).bind λ_ _ _ hk=>jm hk).at).in Y
 split
 ·rename_i h;split
  ·exact vz hk
  exact (((R6 hl (nM hl hk h)).bind λ_ _ _ hk=>jm hk).at).in Y
 exact t2 hk
theorem QX:∀(n:Nat)(x:aX)(k:Nat),k<l.length -> (mD l n x k).At l k
 |0,_,k,hk=>by unfold mD;exact (t2 hk).at
 |n+1,x,k,hk=>by
  unfold mD;split
  ·exact jm hk
  exact ((ME hl hk).bind λy k' _ hk'=>QX n y k' hk').at
end
end
section
def gC{α:Type}(bp k0:Nat)(r:cJ α)(x:α)(k e:Nat):Prop:=
 (bp≠0 /\ k=k0 /\ e=bp)∨(bp=0 /\ ((r=.ok x k /\ e=0)∨(r=.err k e /\ e≠0)))
section
variable {α β:Type}{bp k0 k k2 e e2:Nat}{r:cJ α}{x:α}{y:β}
def gC.skip(h:bp≠0)(r:cJ α)(x:α):gC bp k0 r x k0 bp:=.inl ⟨h,rfl,rfl⟩
def gC.ok(x:α)(k0 k:Nat)(h:r=.ok x k):gC 0 k0 r x k 0:=.inr ⟨rfl,.inl ⟨h,rfl⟩⟩
def gC.err(x:α)(k0 k e:Nat)(h:r=.err k e)(he:e≠0):gC 0 k0 r x k e:=.inr ⟨rfl,.inr ⟨h,he⟩⟩
def gC.pure(x:α)(k e:Nat):gC e k (.ok x k) x k e:=by
 by_cases h:e=0
 ·subst h;exact .ok x k k rfl
 exact .skip h _ _
def gC.bind{f:α -> Nat -> cJ β}(h:gC bp k0 r x k e)(h2:gC e k (f x k) y k2 e2):gC bp k0 (r.bind f) y k2 e2:=by
 rcases h with ⟨h0,rfl,rfl⟩|⟨rfl,⟨rfl,rfl⟩|⟨rfl,he⟩⟩
 ·rcases h2 with ⟨_,rfl,rfl⟩|⟨h3,_⟩
  ·exact .inl ⟨h0,J,J⟩
  exact absurd h3 h0
 ·rcases h2 with ⟨h3,_⟩|⟨_,h2⟩
  ·exact absurd J h3
  exact .inr ⟨J,h2⟩
 rcases h2 with ⟨_,rfl,rfl⟩|⟨h3,_⟩
 ·exact .inr ⟨J,.inr ⟨J,he⟩⟩
 exact absurd h3 he
def gC.map{f:α -> β}(h:gC bp k0 r x k e):gC bp k0 (r.bind λx k=>.ok (f x) k) (f x) k e:=h.bind (gC.pure _ _ _)
def gC.yes{c:Prop}[Decidable c]{a b:cJ α}(hc:bp=0 -> c)(h:gC bp k0 a x k e):gC bp k0 (if c then a else b) x k e:=by
 by_cases h0:bp=0
 ·rw [if_pos (hc h0)];exact h
 rcases h with ⟨_,rfl,rfl⟩|⟨h3,_⟩
 ·exact .skip h0 _ _
 exact absurd h3 h0
def gC.no{c:Prop}[Decidable c]{a b:cJ α}(hc:bp=0 -> ¬c)(h:gC bp k0 b x k e):gC bp k0 (if c then a else b) x k e:=by
 by_cases h0:bp=0
 ·rw [if_neg (hc h0)];exact h
 rcases h with ⟨_,rfl,rfl⟩|⟨h3,_⟩
 ·exact .skip h0 _ _
 exact absurd h3 h0
def gC.from{k1:Nat}(h:gC 0 k1 r x k e):gC 0 k0 r x k e:=by
 rcases h with ⟨h0,_⟩|h
 ·exact absurd J h0
 exact .inr h
def gC.eq{r':cJ α}(h:gC bp k0 r x k e)(hr:bp=0 -> r=r'):gC bp k0 r' x k e:=by
 rcases h with ⟨h0,h1,h2⟩|⟨h0,h⟩
 ·exact .inl ⟨h0,h1,h2⟩
 rw [hr h0] at h;exact .inr ⟨h0,h⟩
def gC.good(h:gC bp k0 r x k e)(he:e=0):bp=0 /\ r=.ok x k:=by
 rcases h with ⟨h0,_,rfl⟩|⟨rfl,⟨rfl,rfl⟩|⟨rfl,h1⟩⟩
 ·exact absurd he h0
 ·exact ⟨J,J⟩
 exact absurd he h1
def gC.place{l:List Tok}(h:gC bp k0 r x k e)(hk:k0<l.length)(hr:bp=0 -> r.At l k0):k0 <= k /\ k<l.length:=by
 rcases h with ⟨h0,rfl,rfl⟩|⟨rfl,⟨rfl,rfl⟩|⟨rfl,h1⟩⟩
 ·exact ⟨bY _,hk⟩
 ·exact hr J
 exact ⟨(hr J).1,(hr J).2.1⟩
def gC.small{l:List Tok}(h:gC bp k0 r x k e)(he:bp<16)(hr:bp=0 -> r.At l k0):e<16:=by
 rcases h with ⟨h0,rfl,rfl⟩|⟨rfl,⟨rfl,rfl⟩|⟨rfl,h1⟩⟩
 ·exact he
 ·omega
 exact (hr J).2.2.2
end
def bj{α:Type}(bp b0:Nat)(r:cJ α)(x:α)(k b e:Nat):Prop:=
 (bp≠0 /\ b=b0 /\ e=bp)∨(bp=0 /\ ((r=.ok x k /\ e=0 /\ b=b0)∨(r=.err b e /\ e≠0)))
section
variable {α β:Type}{bp b0 k k0 b k2 b2 e e2:Nat}{r:cJ α}{x:α}{y:β}
def bj.skip(h:bp≠0)(r:cJ α)(x:α)(k:Nat):bj bp b0 r x k b0 bp:=.inl ⟨h,rfl,rfl⟩
def bj.ok(x:α)(k b0:Nat)(h:r=.ok x k):bj 0 b0 r x k b0 0:=.inr ⟨rfl,.inl ⟨h,rfl,rfl⟩⟩
def bj.err(x:α)(k b0 b e:Nat)(h:r=.err b e)(he:e≠0):bj 0 b0 r x k b e:=.inr ⟨rfl,.inr ⟨h,he⟩⟩
def bj.pure(x:α)(k b e:Nat):bj e b (.ok x k) x k b e:=by
 by_cases h:e=0
 ·subst h;exact .ok x k b rfl
 exact .skip h _ _ _
def bj.bind{f:α -> Nat -> cJ β}(h:bj bp b0 r x k b e)(h2:bj e b (f x k) y k2 b2 e2):bj bp b0 (r.bind f) y k2 b2 e2:=by
 rcases h with ⟨h0,rfl,rfl⟩|⟨rfl,⟨rfl,rfl,rfl⟩|⟨rfl,he⟩⟩
 ·rcases h2 with ⟨_,rfl,rfl⟩|⟨h3,_⟩
  ·exact .inl ⟨h0,J,J⟩
  exact absurd h3 h0
 ·rcases h2 with ⟨h3,_⟩|⟨_,h2⟩
  ·exact absurd J h3
  exact .inr ⟨J,h2⟩
 rcases h2 with ⟨_,rfl,rfl⟩|⟨h3,_⟩
 ·exact .inr ⟨J,.inr ⟨J,he⟩⟩
 exact absurd h3 he
def bj.map{f:α -> β}(h:bj bp b0 r x k b e):bj bp b0 (r.bind λx k=>.ok (f x) k) (f x) k b e:=h.bind (bj.pure _ _ _ _)
def bj.yes{c:Prop}[Decidable c]{a d:cJ α}(hc:bp=0 -> c)(h:bj bp b0 a x k b e):bj bp b0 (if c then a else d) x k b e:=by
 by_cases h0:bp=0
 ·rw [if_pos (hc h0)];exact h
 rcases h with ⟨_,rfl,rfl⟩|⟨h3,_⟩
 ·exact .skip h0 _ _ _
 exact absurd h3 h0
def bj.no{c:Prop}[Decidable c]{a d:cJ α}(hc:bp=0 -> ¬c)(h:bj bp b0 d x k b e):bj bp b0 (if c then a else d) x k b e:=by
 by_cases h0:bp=0
 ·rw [if_neg (hc h0)];exact h
 rcases h with ⟨_,rfl,rfl⟩|⟨h3,_⟩
 ·exact .skip h0 _ _ _
 exact absurd h3 h0
def bj.eq{r':cJ α}(h:bj bp b0 r x k b e)(hr:bp=0 -> r=r'):bj bp b0 r' x k b e:=by
 rcases h with ⟨h0,h1,h2⟩|⟨h0,h⟩
 ·exact .inl ⟨h0,h1,h2⟩
 rw [hr h0] at h;exact .inr ⟨h0,h⟩
def bj.good(h:bj bp b0 r x k b e)(he:e=0):bp=0 /\ r=.ok x k /\ b=b0:=by
 rcases h with ⟨h0,_,rfl⟩|⟨rfl,⟨rfl,rfl,rfl⟩|⟨rfl,h1⟩⟩
 ·exact absurd he h0
 ·exact ⟨J,J,J⟩
 exact absurd he h1
def bj.small{l:List Tok}(h:bj bp b0 r x k b e)(he:bp<16)(hr:bp=0 -> r.At l k0):e<16:=by
 rcases h with ⟨h0,rfl,rfl⟩|⟨rfl,⟨rfl,rfl,rfl⟩|⟨rfl,h1⟩⟩
 ·exact he
 ·omega
 exact (hr J).2.2.2
end
end
section
open Go.RowKit
section
variable {P:Program}{U T:List Nat}{o:Oper}{n d:Nat}{ts:List (Nat×AT)}{s:aH}{K:AS -> Prop}{st:AS}
theorem Hm{x y:bb}{rg:Array ax}{m k:Int}(r:Int)(ho:o.op=.call {callee:=.builtin .max,args:=#[x,y],argTypes:=rg})(hx:aw st x=some (aj m))(hy:aw st y=some (aj k))(hr:max m k=r):cp P U o st (aj r):=
 iM rfl λa w hs w'=>by
  subst hr;simp only [execOp,ho,resolve,mH,ca,d7,hs.val hx,hs.val hy];simp [go_sem,invoke,builtin]
theorem NS{w:aa}{a:Option Addr}{k cap z l h:Nat}{cs:List aO}(hr:j7 w (.sl k cs) (.slice a k cap))(h1:l <= h)(h2:h <= k):j7 w (.sl (h-l) ((cs.drop (l*z)).take ((h-l)*z))) (.slice (if cap=l then a else a.map (·.add (l*z))) (h-l) (cap-l)):=by
 cases hr with
 |sl _ _ us _ hra hl hh hcap=>
  obtain ⟨a',cap',he,hc,hcell⟩:=hra;cases he;have hR:dA w cs us:=⟨hl,hh⟩;have hR2:=(hR.drop (l*z)).take ((h-l)*z);refine .sl _ _ ((us.drop (l*z)).take ((h-l)*z)) _ ⟨_,_,J,Y,?_⟩ hR2.len hR2.at_ (λ_ _ _ h9=>by cases h9;have:=hcap _ _ _ rfl;omega);rcases hcell with h0|⟨b,off,rfl,hcell⟩
  ·left;subst h0;simp
  by_cases hcl:cap=l
  ·left;have:h-l=0:=Y;rw [this];simp
  right;rw [if_neg hcl];refine ⟨b,off+l*z,by simp [tZ],λj u hj=>?_⟩;rw [pD] at hj;split at hj
  ·rw [rK] at hj;rw [qQ];exact hcell _ _ hj
  cases hj
theorem FA{w:aa}{k:Nat}{cs:List aO}{v:aN}(h:cS w (.c (.sl k cs)) v):∃a cap,v=.slice a k cap /\ k <= cap /\ j7 w (.sl k cs) (.slice a k cap):=by
 cases h with
 |c _ _ h=>cases h with
  |sl _ _ us _ hr hl hh hc=>obtain ⟨a,cap,rfl,hk,hx⟩:=hr;exact ⟨a,cap,rfl,hk,.sl _ _ us _ ⟨a,cap,rfl,hk,hx⟩ hl hh hc⟩
theorem V5{t e:ax}{x y':bb}{k h z:Nat}{k2:IntKind}{j:Int}{cs r:List aO}(ho:o.op=.slice t x none (some y') none)(hx:aw st x=some (.c (.sl k cs)))(hy':aw st y'=some (ap (.int k2 j)))(hj:j=h)(h2:h <= k)
  (ht:P.underlying t=some (.slice (P.elem t))) (he:P.elem t=e) (hz:∀w,(sizeOf e).run P w=.ok z w) (hr:cs.take (h*z)=r):cp P U o st (.c (.sl h r)):=by
 intro a w hs _;have hv:=hs.ev hx;generalize hxe:a.eval x=v at hv;obtain ⟨p,cap,rfl,hk,hrep⟩:=FA hv;subst hr;subst hj;subst he;have h9:=NS (z:=z) (l:=0) hrep (eL _) h2;simp only [rO,tH,yi] at h9;refine ⟨_,.c _ _ h9,λw' _=>?_⟩;simp only [execOp,ho,hxe,hs.val hy',o4,E8];rw [dK,run_sliceAt_slice (h:=ht),run_slice_h (ht:=ht) (h0:=Int.natCast_nonneg h) (h2:=Int.ofNat_le.2 (iN h2 hk)),hz];simp [Result.andThen,go_sem,sliced]
theorem SK{t e:ax}{x y:bb}{k l z m:Nat}{k1:IntKind}{i:Int}{cs r:List aO}(ho:o.op=.slice t x (some y) none none)(hx:aw st x=some (.c (.sl k cs)))(hy:aw st y=some (ap (.int k1 i)))(hi:i=l)(h2:l <= k)(hl:cs.length=k*z)
  (ht:P.underlying t=some (.slice (P.elem t))) (he:P.elem t=e) (hz:∀w,(sizeOf e).run P w=.ok z w) (hm:k-l=m) (hr:cs.drop (l*z)=r):cp P U o st (.c (.sl m r)):=by
 intro a w hs _;have hv:=hs.ev hx;generalize hxe:a.eval x=v at hv;obtain ⟨p,cap,rfl,hk,hrep⟩:=FA hv;subst hr;subst hi;subst he;subst hm;have h9:=NS (z:=z) hrep h2 (bY _);rw [take_of_length_le (by rw [kA,hl,Nat.sub_mul];omega)] at h9;refine ⟨_,.c _ _ h9,λw' _=>?_⟩;simp only [execOp,ho,hxe,hs.val hy,o4,E8];rw [dK,run_sliceAt_slice (h:=ht),run_slice_l (ht:=ht) (h0:=Int.natCast_nonneg l) (h1:=Int.ofNat_le.2 h2),hz];simp [Result.andThen,go_sem,sliced]
theorem B0{E E' e:ax}{x:bb}{b:aI}(ho:o.op=.convert E E' x)(hd:o.dst=some d)(hn:d<n)(hx:aw ⟨n,T,s,ts⟩ x=some (cK b))(hE:P.underlying E=some .string)(hE':P.underlying E'=some (.slice e))(he:P.underlying e=some (.int .u8))(hb:b.size<9223372036854775808){N:Nat}{cs:List aO}(hN:b.size=N)(hcs:cb b.data.toList=cs)
  (h:K ⟨n,T,s,(d,.c (.sl N cs))::ts⟩):db P U o ⟨n,T,s,ts⟩ K:=by
 subst hN;subst hcs;intro a w hs KK QQ hK;obtain ⟨C,hC⟩:∃C,C=grownCap w b.size 0 e:=⟨_,rfl⟩;obtain ⟨g1,g2⟩:=grownCap_le w b.size e hb;have hrun:(execOp a.eval o).run P w=.ok (.value (.slice (some ⟨w.heap.size,0,none⟩) b.size C)) (w.drew.alloc (.cells (bytesRow b C) e ((bytesRow b C).size,(bytesRow b C).size+1))):=by
  subst hC;simp only [execOp,ho,dK,hs.val hx];rw [run_bytes_of_string w E E' e b hE hE' he];rfl
 rw [←hC] at g1 g2;clear hC;unfold Oper.wp;rw [hrun,Oper.upon_value,hd];have hrow:=W7 w b C e g1 ((bytesRow b C).size,(bytesRow b C).size+1);generalize hw1:w.drew.alloc (.cells (bytesRow b C) e ((bytesRow b C).size,(bytesRow b C).size+1))=w1 at hrow;have hk:cQ [] w w1:=by rw [←hw1];exact (cQ.refl _ _).drew.alloc _
 have hsz:w1.heap.size=w.heap.size+1:=by rw [←hw1];show (w.heap.push _).size=_;simp
 have hub:f7 (bh s.bl w) (bh s.bl w1):=l_ hk jf (λb h=>.inl h);obtain ⟨m1,m2⟩:=hs.mem.up hub GO;have hm:Mem s w1:=⟨hs.mem.nodup,λb hb=>mM (hs.mem.lt b hb) hk.size,m1,m2⟩;have s1:=hs.step (w1:=w1) T (hk.mono aM) hm (λb hb=>.inl hb);have hrep:cS (bh s.bl w1) (.c (.sl b.size (cb b.data.toList))) (.slice (some ⟨w.heap.size,0,none⟩) b.size C):=by
  have hne:w.heap.size∉s.bl:=λhm=>by have:w.heap.size<w.heap.size:=hs.mem.lt _ hm;omega
  have hR:=oK (bh s.bl w1) (dU b.data.toList) zu;have ae:(dU b.data.toList).map aO.val=cb b.data.toList:=by simp [dU,cb]
  rw [ae] at hR;refine .c _ _ (.sl _ _ (dU b.data.toList) _ ?_ hR.len hR.at_ (λ_ _ _ h=>by cases h;exact g2));obtain ⟨a',c',he',hc',hr'⟩:=hrow;cases he';refine ⟨_,_,J,g1,?_⟩;rcases hr' with h0|⟨b',off,hb',hr'⟩
  ·exact .inl h0
  cases hb';exact .inr ⟨_,_,J,λj u hu=>by rw [pw _ _ _ hne];exact hr' j u hu⟩
 exact hK _ _ _ h (s1.put hn hrep) ⟨hk.mono aM,hk.mono aM,λb hb=>.inl hb,λb hb=>.inl hb⟩ (hk.mono aM)
abbrev IJ(t:AT)(m:Int):AT:=.fact (.fact t 0 0 (words.map λx=>ac x)) 2 0 [aA m]
theorem Bf{s:aH}{w w':aa}(hm:Mem s w)(hb:Below w.heap.size w w'):cQ [] w w' /\ Mem s w':=by
 have hk:cQ [] w w':=cQ.of_below hb;have hu:f7 (bh s.bl w) (bh s.bl w'):=l_ hk jf (λb h=>.inl h);obtain ⟨m1,m2⟩:=hm.up hu Is;exact ⟨hk,hm.nodup,λb hb'=>mM (hm.lt b hb') hk.size,m1,m2⟩
theorem PR{F:FuncId}{ts:List AT}{us:List aN}{u:aN}(h1:u.oneCell'=true)(hts:ts=us.map λu=>ap u)(h:∀w,Calls P F us.toArray w λe w'=>e=.returned u /\ w=w')(s:aH):aT P F ts [] s λr s'=>r=ap u /\ s'=s:=by
 intro vs w hm _ hl hr;subst hts;obtain rfl:vs=us:=by
  refine np uk λi h1 h2=>?_;have h3:=hr i qD h1;simp only [qe] at h3;exact h3.val
 exact (h w).mono λe w' ⟨h2,h3⟩=>ND
theorem Ti{w:aa}{l:List Int}{a:Option Addr}{cap:Nat}(h:eD w (.slice a l.length cap) l.length (l.map (.int .i64)))(hc:cap <= 9223372036854775807):cS (bh [] w) (.c (.sl l.length (l.map λi=>aA i))) (.slice a l.length cap):=by
 have hid:∀a:Addr,(bh [] w).cell? a=w.cell? a:=λa=>pw _ _ _ aM;have hR:=oK (bh [] w) (l.map (.int .i64)) zu;rw [o8] at hR;exact .c _ _ (.sl _ _ _ _ (h.mono λa u h=>by rw [hid];exact h) hR.len hR.at_ (λ_ _ _ h=>by cases h;exact hc))
theorem WQ{F:FuncId}{ts:List AT}{vs:List aN}{w:aa}(h:aT P F ts [] ⟨[],[]⟩ λr s'=>r=au true /\ s'=⟨[],[]⟩)(hl:vs.length=ts.length)(hv:∀i (h:i<ts.length) (h':i<vs.length),cS (bh [] w) ts[i] vs[i]):Calls P F vs.toArray w λe w'=>e=.returned (.bool true) /\ Below w.heap.size w w':=by
 have hm:Mem ⟨[],[]⟩ w:=⟨List.nodup_nil,(λb hb=>absurd hb xx),Dx,Dx⟩;refine (h vs w hm (λb hb=>absurd hb aM) hl hv).mono λe w' ⟨r,v',s',h1,⟨h2,h3⟩,h4,h5,h6,h7⟩=>?_;subst h2;subst h3;cases h4 with
 |c _ _ h4=>cases h4;exact ⟨h1,⟨h6.os,h6.tape,h6.output,h6.size,λk hk=>h6.block k hk aM⟩⟩
end
end
section
open Go.RowKit
section
variable {P:Program}{U T:List Nat}{o:Oper}{n d:Nat}{bx:List aV}{rw:List aQ}{ts:List (Nat×AT)}{K:AS -> Prop}{st:AS}{t:AT}
theorem Vj{t e:ax}{x y:bb}{d n m z bytes:Nat}{v zv:aN}{cs ds:List aO}{i:TypeInfo}(A:List aQ){B:List aQ}(ho:o.op=.call {callee:=.builtin .append,args:=#[x,y],argTypes:=#[t,t]})(hd:o.dst=some d)(hn:d<st.n)
  (hx:aw st x=some (ap v)) (hrow:st.s.rows=A++⟨v,e,z,n,cs⟩::B) (hy:∀a w,e0 st a w -> ∃ad c ys,a.eval y=.slice (some ad) m c /\ dA (bh st.s.bl w) ds ys /\ ∀j u,ys[j]?=some u -> w.cell? (ad.add j)=some u) (hu:P.underlying t=some (.slice e)) (hi:P.info? e=some i) (hz:i.zero=some zv) (hsz:i.size=z) (hby:i.bytes=bytes) (hzs:zv.cells.size=z) (h0:0<z)
  (hm:ds.length=m*z) (hlen:n+m <= maxLen) (hbytes:(n+m)*bytes <= 140737488355328) (hU:st.s.bl.Nodup -> ∀b,b∈aR v -> b∈U) (hT:∀b,b∈aR v -> b∈st.T)
  (h:∀v',K {st with s:=⟨st.s.boxes,A++⟨v',e,z,n+m,cs++ds⟩::B⟩,T:=aR v'++st.T,ts:=(d,ap v')::st.ts}):db P U o st K:=by
 refine I_ A hd hn hrow h0 (λa w hs us hown=>?_) hU hT h;obtain ⟨ad,cap,ys,hyv,DP,hyc⟩:=hy a w hs;exact ⟨ys,DP,λKK QQ hK=>M1 w x y t ho 0 e i zv z bytes hu hi hz hsz hby hzs h0 v n us (hs.val hx) hown ad m cap ys hyv (by rw [DP.len,hm]) hyc DP.one hlen hbytes (eL _) hK⟩
theorem Tf(w:aa)(t ty e:ax)(i:TypeInfo)(size:Nat)(ht:P.underlying t=some (.slice e))(hi:P.info? e=some i)(v:aN)(n:Nat)(xs:List aN)(hown:w.ownsRow 0 e size v n xs)(b:Option Addr)(c:Nat):
  (Builtin.append_ #[t,t] ty #[v,.slice b 0 c]).run P w=.ok v w:=by
 have hl:∀a:Addr,(loadCells a 0).run P w=.ok #[] w:=λa=>run_loadCells_list (P:=P) w a [] Iv;rcases hown.2 with ⟨rfl,rfl⟩|⟨g,cap,cur,rfl,_,_,hnc,_⟩
 ·cases b<;>simp [Builtin.append_,run_underlying ht,sizeOf,typeInfo,hi,Builtin.lenOf,Builtin.firstCells,hl]
 cases b<;>simp [Builtin.append_,run_underlying ht,sizeOf,typeInfo,hi,Builtin.lenOf,Builtin.firstCells,hnc,storeCells,hl]
theorem Qt{t e:ax}{x y:bb}{z k:Nat}{v:aN}{cs:List aO}{i:TypeInfo}(A:List aQ){B:List aQ}(ho:o.op=.call {callee:=.builtin .append,args:=#[x,y],argTypes:=#[t,t]})(hd:o.dst=some d)(hn:d<n)
  (hx:aw ⟨n,T,⟨bx,A++⟨v,e,z,k,cs⟩::B⟩,ts⟩ x=some (ap v)) (hy:∀a w,e0 ⟨n,T,⟨bx,A++⟨v,e,z,k,cs⟩::B⟩,ts⟩ a w -> ∃b c,a.eval y=.slice b 0 c) (hu:P.underlying t=some (.slice e)) (hi:P.info? e=some i) (hT:∀b,b∈aR v -> b∈T) (h0:0<z)
  (h:K ⟨n,aR v++T,⟨bx,A++⟨v,e,z,k,cs⟩::B⟩,(d,ap v)::ts⟩):db P U o ⟨n,T,⟨bx,A++⟨v,e,z,k,cs⟩::B⟩,ts⟩ K:=by
 intro a w hs KK QQ hK;obtain ⟨us,la,hrep⟩:=hs.mem.row ⟨v,e,z,k,cs⟩ aM;have hown:=la.row h0;obtain ⟨b,c,hyv⟩:=hy a w hs;have hr:=Tf (P:=P) w t o.type e i z hu hi v k us hown b c;have s2:=hs.step (w1:=w) (aR v++T) (cQ.refl _ _) hs.mem (λb hb=>.inl hb);have h1c:v.oneCell'=true:=by obtain ⟨_,_,he⟩:=Af hown;dsimp only at he;rw [he];rfl
 have hxv:=hs.val hx;have goal:KK (a.put o.dst v) w:=by
  rw [hd];refine hK _ _ _ h (s2.put (v:=v) hn (.c _ _ (.val _ h1c))) ⟨cQ.refl _ _,cQ.refl _ _,λb hb=>.inl hb,λg hg=>?_⟩ (cQ.refl _ _);rcases mem_append.1 hg with hg|hg
  ·exact .inl (hT g hg)
  exact .inl hg
 unfold Oper.wp execOp;simp only [ho,resolve,invoke,builtin,dK,fo,eu,mH,ca,d7,hxv,hyv,hr];exact goal
theorem eW{E e:ax}{x y:bb}{k m z:Nat}{v zv:aN}{cs ds r:List aO}(A:List aQ)(i:TypeInfo)(bytes:Nat){B:List aQ}(ho:o.op=.call {callee:=.builtin .append,args:=#[x,y],argTypes:=#[E,E]})(hd:o.dst=some d)(hn:d<n)
  (hx:aw ⟨n,T,⟨bx,A++⟨v,e,z,k,cs⟩::B⟩,ts⟩ x=some (ap v)) (hy:aw ⟨n,T,⟨bx,A++⟨v,e,z,k,cs⟩::B⟩,ts⟩ y=some (.c (.sl m ds))) (hu:P.underlying E=some (.slice e)) (hi:P.info? e=some i) (hz:i.zero=some zv) (hsz:i.size=z) (hby:i.bytes=bytes) (hzs:zv.cells.size=z) (h0:0<z)
  (hm:ds.length=m*z) (hlen:k+m <= maxLen) (hbytes:(k+m)*bytes <= 140737488355328) {N:Nat} (hN:k+m=N) (hU:(⟨bx,A++⟨v,e,z,k,cs⟩::B⟩:aH).bl.Nodup -> ∀b,b∈aR v -> b∈U) (hT:∀b,b∈aR v -> b∈T) (hr:cs++ds=r)
  (h:∀v',K ⟨n,aR v'++T,⟨bx,A++⟨v',e,z,N,r⟩::B⟩,(d,ap v')::ts⟩):db P U o ⟨n,T,⟨bx,A++⟨v,e,z,k,cs⟩::B⟩,ts⟩ K:=by
 rcases yD m with rfl|hm0
 ·have hds:ds=[]:=yz (by rw [hm,rO]);subst hds;subst hr;subst hN;refine Qt A ho hd hn hx (λa w hs=>?_) hu hi hT h0 ?_
  ·obtain ⟨p,cap,hv,-⟩:=FA (hs.ev hy);exact ⟨p,cap,hv⟩
  have:=h v;rw [eY,ui] at this;exact this
 subst hr;subst hN;exact Fl A ho hd hn hx J hy hu hi hz hsz hby hzs h0 hm hm0 hlen hbytes hU hT h
theorem Pl{E e:ax}{x y:bb}{k m z:Nat}{v vy zv:aN}{cs ds r:List aO}(A:List aQ)(i:TypeInfo)(bytes:Nat){B:List aQ}(ho:o.op=.call {callee:=.builtin .append,args:=#[x,y],argTypes:=#[E,E]})(hd:o.dst=some d)(hn:d<n)
  (hx:aw ⟨n,T,⟨bx,A++⟨v,e,z,k,cs⟩::B⟩,ts⟩ x=some (ap v)) (hy:aw ⟨n,T,⟨bx,A++⟨v,e,z,k,cs⟩::B⟩,ts⟩ y=some (ap vy)) (hmem:(⟨vy,e,z,m,ds⟩:aQ)∈A++⟨v,e,z,k,cs⟩::B) (hu:P.underlying E=some (.slice e)) (hi:P.info? e=some i) (hz:i.zero=some zv) (hsz:i.size=z) (hby:i.bytes=bytes) (hzs:zv.cells.size=z) (h0:0<z)
  (hlen:k+m <= maxLen) (hbytes:(k+m)*bytes <= 140737488355328) {N:Nat} (hN:k+m=N) (hU:(⟨bx,A++⟨v,e,z,k,cs⟩::B⟩:aH).bl.Nodup -> ∀b,b∈aR v -> b∈U) (hT:∀b,b∈aR v -> b∈T) (hm:ds.length=m*z) (hr:cs++ds=r)
  (h:∀v',K ⟨n,aR v'++T,⟨bx,A++⟨v',e,z,N,r⟩::B⟩,(d,ap v')::ts⟩):db P U o ⟨n,T,⟨bx,A++⟨v,e,z,k,cs⟩::B⟩,ts⟩ K:=by
 rcases yD m with rfl|hm0
 ·have hds:ds=[]:=yz (by rw [hm,rO]);subst hds;subst hr;subst hN;refine Qt A ho hd hn hx (λa w hs=>?_) hu hi hT h0 ?_
  ·obtain ⟨us,la,-⟩:=hs.mem.row _ hmem;have hown:=la.row h0;obtain ⟨p,cap,hv⟩:=Af hown;exact ⟨p,cap,by rw [hs.val hy];exact hv⟩
  have:=h v;rw [eY,ui] at this;exact this
 subst hr;subst hN;refine Vj (st:=⟨n,T,⟨bx,A++⟨v,e,z,k,cs⟩::B⟩,ts⟩) A ho hd hn hx J (λa w hs=>?_) hu hi hz hsz hby hzs h0 hm hlen hbytes hU hT h;obtain ⟨us,la,hrep⟩:=hs.mem.row _ hmem;have hown:=la.row h0;obtain ⟨g,cap,hv⟩:=Gt hs.mem hmem hm0 h0;have hvy:=hs.val hy;dsimp only at hv hown hrep;subst hv;exact ⟨⟨g,0,none⟩,cap,us,hvy,hrep,λj u hj=>hown.cells (g:=g) J j u hj⟩
theorem wh{E E':ax}{x:bb}{k:Nat}(ho:o.op=.convert E E' x)(hx:aw st x=some (ab k))(hk:k<256)(hE:(P.underlying E).isSome=true)(hE':P.underlying E'=some (.int (P.intKind E')))(hk8:P.intKind E'=.u8):cp P U o st (ap (.int .u8 ((UInt8.ofNat k).toNat:Int))):=by
 intro a w hs _;refine ⟨_,.c _ _ (.val _ J),λw' _=>?_⟩;have h1:=run_convert_int (P:=P) (w:=w') E E' .i64 (k:Int) hE hE';simp only [execOp,ho,dK,hs.val hx];rw [h1,hk8];have h2:IntKind.u8.wrap (k:Int)=(k:Int):=by
  have h3:(List.range 256).all (λk=>decide (IntKind.u8.wrap (k:Int)=(k:Int)))=true:=aL;exact of_decide_eq_true (fC.1 h3 k (pI.2 hk))
 rw [h2,show (UInt8.ofNat k).toNat=k from UInt8.toNat_ofNat_of_lt' hk];rfl
end
def YY{w:aa}{u v:aN}(h:j7 w (.val v) u):u=v:=by cases h;rfl
def li{U:List Nat}{o:Oper}{st:AS}{x:bb}{t:List UInt8}{k:Nat}(ho:o.op=.convert 63 9 x)(hx:aw st x=some (.c (.sl k (cb t))))(hk:k=t.length):cp prog U o st (cK (bytes t)):=by
 subst hk;intro a w hs hU;refine ⟨_,.c _ _ (.val _ J),λw' hkp=>?_⟩;have hv:=hs.ev hx;generalize hxe:a.eval x=v at hv;cases hv with
 |c _ _ hv=>cases hv with
  |sl _ _ us _ hr hl hh hc=>
   obtain ⟨p,cap,rfl,hcap,hr⟩:=hr;have hus:us=dU t:=by
    refine np (by rw [hl];simp [cb,dU]) λj h1 h2=>?_;have h3:=hh j (by simpa [cb,dU] using h2) h1;have h4:(cb t)[j]'(by simpa [cb,dU] using h2)=.val (dU t)[j]:=by simp [cb,dU]
    rw [h4] at h3;exact YY h3
   subst hus;have hcv:=G5 t p cap w' (by
    rcases hr with h0|⟨b,off,rfl,hr⟩
    ·exact .inl h0
    refine .inr ⟨b,off,J,λj u hj=>?_⟩;obtain ⟨h4,h5⟩:=qL (hr j u hj);rw [hkp.cell (mj h4) (λhm=>h5 (hU _ hm))];exact h4)
   simp only [execOp,ho,dK,hxe];rw [hcv];rfl
instance aFI{P:Program}{U T:List Nat}{n N:Nat}{ts:List (Nat×AT)}{t:AT}{g:Prop}{K:AS -> Prop}{E T0:TypeId}{x y:Operand}{ty:TypeId}{pos:String}{af:Array Edge}{gd:Option (Nat×Bool)}{b off z:Nat}{cs ds r:List aO}{ag:Bool}{bx A B:List aV}{rw:List aQ}[h1:gR ts x (ap (.pointer (some ⟨b,off,none⟩)))][h2:gR ts y t][h3:sb t ds][h4:lx bx b A T0 cs B][h5:dB P E ag z][h6:wy cs off ds z r]{bx2:List aV}[h7:zS bx rw T U b][h8:rL A (⟨b,T0,r⟩::B) bx2][h:dt N (K ⟨n,T,⟨bx2,rw⟩,ts⟩) g]:dt (N+1) (db P U ⟨none,.store E x y,ty,pos,af,gd⟩ ⟨n,T,⟨bx,rw⟩,ts⟩ K) g:=⟨λk=>
 Co A rfl rfl (h1.h _ _ _) (h2.h _ _ _) h3.h h4.h h5.h.2 h6.h.2.2 h6.h.2.1 h6.h.1 h7.h.1 h7.h.2 JS⟩
structure nX (P:Program) (E e:TypeId) (i:TypeInfo) (z bytes:Nat) (zv:Value):Prop where
  hu:P.underlying E=some (.slice e)
  hi:P.info? e=some i
  hz:i.zero=some zv
  hsz:i.size=z
  hby:i.bytes=bytes
  hzs:zv.cells.size=z
  h0:0<z
structure kY (P:Program) (E e:TypeId) (i:TypeInfo) (len:Nat) (z:Value) (zc:List aO):Prop where
  hu:P.underlying E=some (.slice e)
  hi:P.info? e=some i
  hz:i.zero=some z
  hsmall:¬len*i.size>2 ^ 24
  hpos:¬len*i.size=0
  hzc:(((Array.range (len*i.size)).map (z.cells[·% z.cells.size]!)).toList.all (·.oneCell'))=true
  hzr:((Array.range (len*i.size)).map (z.cells[·% z.cells.size]!)).toList.map .val=zc
section
variable {P:Program}{U:List Nat}{o:Oper}{n d:Nat}{T:List Nat}{s:aH}{ts:List (Nat×AT)}{bx:List aV}{K:AS -> Prop}
theorem dS{E e:ax}{i:TypeInfo}{x y:bb}{k m z bytes:Nat}{v zv:aN}{cs ds r:List aO}(A:List aQ)(t:nX P E e i z bytes zv){B:List aQ}(h0:(o.op,o.dst,Nat.blt d n,aw ⟨n,T,⟨bx,A++⟨v,e,z,k,cs⟩::B⟩,ts⟩ x,aw ⟨n,T,⟨bx,A++⟨v,e,z,k,cs⟩::B⟩,ts⟩ y)=(.call {callee:=.builtin .append,args:=#[x,y],argTypes:=#[E,E]},some d,true,some (ap v),some (.c (.sl m ds))))
    (hm:ds.length=m*z) (hm0:0<m) (hlen:k+m <= maxLen) (hbytes:(k+m)*bytes <= 140737488355328) {N:Nat} (hN:k+m=N) (hU:(⟨bx,A++⟨v,e,z,k,cs⟩::B⟩:aH).bl.Nodup -> ∀b,b∈aR v -> b∈U) (hT:∀b,b∈aR v -> b∈T) (hr:cs++ds=r)
    (h:∀v',K ⟨n,aR v'++T,⟨bx,A++⟨v',e,z,N,r⟩::B⟩,(d,ap v')::ts⟩):db P U o ⟨n,T,⟨bx,A++⟨v,e,z,k,cs⟩::B⟩,ts⟩ K:=by
  simp only [jB] at h0;exact TQ A i bytes h0.1 h0.2.1 (fV h0.2.2.1) h0.2.2.2.1 h0.2.2.2.2 t.hu t.hi t.hz t.hsz t.hby t.hzs t.h0 hm hm0 hlen hbytes hN hU hT hr h
theorem bU{E e:ax}{i:TypeInfo}{z:aN}{len:Nat}{parts:Array (Nat×bb)}{ps:List (Nat×AT)}{zc r:List aO}(t:kY P E e i len z zc)(h:K ⟨n,T,s,(d,.c (.sl len r))::ts⟩)(h0:(o.op,o.dst,Nat.blt d n)=(.buildSlice E len parts,some d,true):=by exact rfl)(hps:pX ⟨n,T,s,ts⟩ parts.toList ps:=by exact (.cons rfl .nil))(hf:nV (λk=>some (k*i.size,i.size)) zc ps=some r:=by exact rfl):db P U o ⟨n,T,s,ts⟩ K:=by
  simp only [jB] at h0;exact uM i zc h0.1 h0.2.1 (fV h0.2.2) hps t.hu t.hi t.hz t.hsmall t.hpos t.hzc t.hzr hf h
end
def FS:=(⟨uR,aL,rfl,rfl,rfl,rfl,V⟩:nX prog 103 152 Tryz.t152 7 104 _)
def Cc:=(⟨tn,aL,rfl,rfl,rfl,rfl,V⟩:nX prog 22 3 Tryz.t3 1 8 _)
def rm:=(⟨kx,aL,rfl,rfl,rfl,rfl,V⟩:nX prog 23 43 Tryz.t43 2 24 _)
def uP:=(⟨gN,aL,rfl,rfl,rfl,rfl,V⟩:nX prog 24 45 Tryz.t45 3 32 _)
def Ei:=(⟨ju,aL,rfl,rfl,rfl,rfl,V⟩:nX prog 25 49 Tryz.t49 3 64 _)
def w_:=(⟨ky,aL,rfl,rfl,rfl,rfl,V⟩:nX prog 63 5 Tryz.t5 1 1 _)
def IY:=(⟨qA,aL,rfl,rfl,rfl,rfl,V⟩:nX prog 46 51 Tryz.t51 2 24 _)
def Mc:=(⟨underlying31,aL,rfl,rfl,rfl,rfl,V⟩:nX prog 31 76 Tryz.t76 5 64 _)
def wW:=(⟨sD,aL,rfl,rfl,rfl,rfl,V⟩:nX prog 79 83 Tryz.t83 3 32 _)
def pE:=(⟨oY,aL,rfl,rfl,rfl,rfl,V⟩:nX prog 64 9 Tryz.t9 1 16 _)
def wZ:=(⟨yc,aL,rfl,rfl,rfl,rfl,V⟩:nX prog 92 94 Tryz.t94 4 56 _)
def NT:=(⟨underlying97,aL,rfl,rfl,rfl,rfl,V⟩:nX prog 97 96 Tryz.t96 3 40 _)
def xk:=(⟨underlying72,aL,rfl,rfl,rfl,rfl,V⟩:nX prog 72 99 Tryz.t99 12 168 _)
def CM:=(⟨pi,aL,rfl,V,V,aL,aL⟩:kY prog 47 105 Tryz.t105 1 _ [aA 0,ac ⟨#[]⟩,aA 0,aA 0,ac ⟨#[]⟩,aK,ac ⟨#[]⟩,aK,aK,aK,aK])
def y5:=(⟨uR,aL,rfl,V,V,aL,aL⟩:kY prog 103 152 Tryz.t152 1 _ [bD false,ac ⟨#[]⟩,aK,aA 0,aA 0,ac ⟨#[]⟩,aK])
def qV:=(⟨tn,aL,rfl,V,V,aL,aL⟩:kY prog 22 3 Tryz.t3 1 _ [aA 0])
def pT:=(⟨kx,aL,rfl,V,V,aL,aL⟩:kY prog 23 43 Tryz.t43 1 _ [ac ⟨#[]⟩,aA 0])
def kT:=(⟨gN,aL,rfl,V,V,aL,aL⟩:kY prog 24 45 Tryz.t45 1 _ [ac ⟨#[]⟩,bD false,aA 0])
def ug:=(⟨ju,aL,rfl,V,V,aL,aL⟩:kY prog 25 49 Tryz.t49 1 _ [ac ⟨#[]⟩,aK,aK])
def EQ:=(⟨ky,aL,rfl,V,V,aL,aL⟩:kY prog 63 5 Tryz.t5 2 _ [.val (.int .u8 0),.val (.int .u8 0)])
def ku:=(⟨ky,aL,rfl,V,V,aL,aL⟩:kY prog 63 5 Tryz.t5 1 _ [.val (.int .u8 0)])
def AC:=(⟨qA,aL,rfl,V,V,aL,aL⟩:kY prog 46 51 Tryz.t51 1 _ [ac ⟨#[]⟩,bD false])
def Qm:=(⟨underlying31,aL,rfl,V,V,aL,aL⟩:kY prog 31 76 Tryz.t76 1 _ [ac ⟨#[]⟩,aA 0,aA 0,aA 0,aK])
def tx:=(⟨sD,aL,rfl,V,V,aL,aL⟩:kY prog 79 83 Tryz.t83 1 _ [ac ⟨#[]⟩,aA 0,aA 0])
def Dp:=(⟨oY,aL,rfl,V,V,aL,aL⟩:kY prog 64 9 Tryz.t9 5 _ [ac ⟨#[]⟩,ac ⟨#[]⟩,ac ⟨#[]⟩,ac ⟨#[]⟩,ac ⟨#[]⟩])
def wC:=(⟨oY,aL,rfl,V,V,aL,aL⟩:kY prog 64 9 Tryz.t9 3 _ [ac ⟨#[]⟩,ac ⟨#[]⟩,ac ⟨#[]⟩])
def Fc:=(⟨oY,aL,rfl,V,V,aL,aL⟩:kY prog 64 9 Tryz.t9 2 _ [ac ⟨#[]⟩,ac ⟨#[]⟩])
def iy:=(⟨oY,aL,rfl,V,V,aL,aL⟩:kY prog 64 9 Tryz.t9 1 _ [ac ⟨#[]⟩])
def Jp:=(⟨yc,aL,rfl,V,V,aL,aL⟩:kY prog 92 94 Tryz.t94 2 _ [aA 0,aA 0,ac ⟨#[]⟩,aK,aA 0,aA 0,ac ⟨#[]⟩,aK])
def o':=(⟨yc,aL,rfl,V,V,aL,aL⟩:kY prog 92 94 Tryz.t94 1 _ [aA 0,aA 0,ac ⟨#[]⟩,aK])
def KC:=(⟨underlying97,aL,rfl,V,V,aL,aL⟩:kY prog 97 96 Tryz.t96 1 _ [bD false,aA 0,aK])
def Du:=(⟨underlying72,aL,rfl,V,V,aL,aL⟩:kY prog 72 99 Tryz.t99 1 _ [aA 0,aA 0,bD false,aA 0,aA 0,ac ⟨#[]⟩,aK,bD false,aA 0,aK,aK,aK])
section
variable {P:Program}{ops:Array Oper}{U Z:List Nat}{o:Oper}{n d:Nat}{T:List Nat}{s:aH}{ts:List (Nat×AT)}{l:List Oper}{t:AT}{st:AS}
def cY{Q:AS->Prop}{F0:Nat}{listed:Array Bool}(run:List (Nat×Bool))(F:Nat)(h:mX P ops Z run st (λst'=>dq P ops Z F (Ac listed run) st' Q))(hc:(tB ops listed run && Region.noSelect ops && F0 == F+run.length)=true:=by kernel_rfl):dq P ops Z F0 listed st Q:=OD run F hc h
def aU{run:List (Nat×Bool)}{Q:AS->Prop}{F0:Nat}{listed:Array Bool}(k:List Nat)[D5 k run](F:Nat)(h:mX P ops Z run st (λst'=>dq P ops Z F (Ac listed run) st' Q))(hc:(tB ops listed run && Region.noSelect ops && F0 == F+run.length)=true:=by kernel_rfl):dq P ops Z F0 listed st Q:=OD run F hc h
def aZ(i:Nat){fuel:Nat}{listed:Array Bool}{Q:AS->Prop}(h0:(ops.toList[i]?,d6 ops o ⟨n,T,s,ts⟩,o.dst,Nat.blt d n)=(some o,some true,some d,true))(hy:cp P (fq s Z) o ⟨n,T,s,ts⟩ t)(h:dq P ops Z fuel (listed.setIfInBounds i true) ⟨n,T,s,(d,t)::ts⟩ Q)
  (hr:((Region.ready .any ops listed).contains i && Region.free .any ops listed i && Region.noSelect ops)=true:=by kernel_rfl):dq P ops Z (fuel+1) listed ⟨n,T,s,ts⟩ Q:=Tn i hr h0 hy h
def aY(i:Nat){fuel:Nat}{listed:Array Bool}{K:AS->Prop}(hi:ops.toList[i]?=some o)(hw:d6 ops o ⟨n,T,s,ts⟩=some true)(h:db P (fq s Z) o ⟨n,T,s,ts⟩ λs=>dq P ops Z fuel (listed.setIfInBounds i true) s K)(hr:Region.ready .any ops listed=[i]:=by kernel_rfl):dq P ops Z (fuel+1) listed ⟨n,T,s,ts⟩ K:=one i hr hi hw h
def bC{fuel:Nat}{listed:Array Bool}{Q:AS->Prop}(h:Q st)(hr:Region.ready .any ops listed=[]:=by kernel_rfl):dq P ops Z fuel listed st Q:=ZM hr h
def bu{id:Nat}{Q:Exit->AS->Prop}(Z:List Nat)(h:dq P ops Z ops.size (Array.replicate ops.size false) st (Q .normal))(hm:P.follows .mixedOrders=true:=by kernel_rfl):bi P (.region id ops true) st Q:=Rj Z hm h
def cC(i j:Nat){o2:Oper}{fuel:Nat}{listed:Array Bool}{K:AS->Prop}(hi:(ops.toList[i]?,d6 ops o ⟨n,T,s,ts⟩,ops.toList[j]?,d6 ops o2 ⟨n,T,s,ts⟩)=(some o,some true,some o2,some true))
  (h:db P (fq s Z) o ⟨n,T,s,ts⟩ λs=>dq P ops Z fuel (listed.setIfInBounds i true) s K) (h2:db P (fq s Z) o2 ⟨n,T,s,ts⟩ λs=>dq P ops Z fuel (listed.setIfInBounds j true) s K) (hr:Region.ready .any ops listed=[i,j]:=by kernel_rfl):dq P ops Z (fuel+1) listed ⟨n,T,s,ts⟩ K:=by
 simp only [jB] at hi;exact two i j hr hi.1 hi.2.1 hi.2.2.1 hi.2.2.2 h h2
end
end
end Go.Proofs.YtckelpefchdenaaGreatDoor
