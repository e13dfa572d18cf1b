import Derived.Test.YtjgeihmhppadaaaGreatDoorVG1J
import Derived.Test.YtjgeihmhppadaaaGreatDoorRows
import Derived.Test.YtjgeihmhppadaaaGreatDoorVShelfJ
import Derived.BigQuiet
import Derived.Lib.SlBytesConst
set_option linter.all false
set_option synthInstance.maxHeartbeats 1000000
set_option synthInstance.maxSize 1000000
set_option maxHeartbeats 1600000
set_option maxRecDepth 100000
namespace Go.Proofs.YtjgeihmhppadaaaGreatDoor
class Ap(k:List Nat)(l:outParam (List (Nat×Bool))):Prop where
instance Zr:Ap [] []:=⟨⟩
instance aAU{i:Nat}{r:List Nat}{l:List (Nat×Bool)}[Ap r l]:Ap (i::r) ((i,true)::l):=⟨⟩
open Go.Proofs.Tryz
abbrev dH:=@isAgg4
abbrev dG:=@sizeOf4
abbrev dn:=@sizeOf67
abbrev dt:=@call62
abbrev dw:=@sizeOf87
abbrev d7:=@sizeOf120
abbrev eE:=@underlying9
abbrev fG:=@call23
abbrev fU:=@runUnderlying25
abbrev f8:=@isAgg87
abbrev gN:=@underlying24
abbrev gX:=@isAgg120
abbrev gj:=@sizeOf69
abbrev gq:=@sizeOf60
abbrev iK:=@sizeOf9
abbrev iO:=@runUnderlying64
abbrev iN:=@call86
abbrev iV:=@sizeOf65
abbrev iz:=@call60
abbrev jY:=@runUnderlying85
abbrev jX:=@sizeOf63
abbrev jw:=@runUnderlying65
abbrev jk:=@call61
abbrev j_:=@isAgg24
abbrev j8:=@sizeOf24
abbrev jy:=@sizeOf135
abbrev j7:=@sizeOf92
abbrev kK:=@underlying25
abbrev kP:=@runUnderlying61
abbrev kS:=@runUnderlying4
abbrev kh:=@runUnderlying75
abbrev kl:=@call34
abbrev kx:=@sizeOf3
abbrev kj:=@underlying58
abbrev km:=@runUnderlying139
abbrev kr:=@sizeOf154
abbrev lH:=@runUnderlying118
abbrev lW:=@underlying23
abbrev lI:=@call122
abbrev lx:=@call16
abbrev mD:=@underlying74
abbrev lw:=@sizeOf111
abbrev mN:=@sizeOf64
abbrev mS:=@runUnderlying24
abbrev mo:=@isAgg25
abbrev m7:=@sizeOf25
abbrev mt:=@runUnderlying23
abbrev mm:=@runUnderlying120
abbrev mh:=@call65
abbrev nE:=@runUnderlying67
abbrev oP:=@isAgg67
abbrev oK:=@isAgg27
abbrev oA:=@sizeOf27
abbrev oN:=@call102
abbrev nw:=@underlying95
abbrev o0:=@underlying61
abbrev oe:=@isAgg23
abbrev oX:=@sizeOf23
abbrev oT:=@runUnderlying92
abbrev ov:=@call76
abbrev pv:=@call40
abbrev px:=@call52
abbrev pi:=@underlying5
abbrev pa:=@isAgg238
abbrev pe:=@sizeOf238
abbrev qd:=@isAgg111
abbrev qD:=@sizeOf31
abbrev qF:=@underlying139
abbrev qO:=@underlying64
abbrev qt:=@call117
abbrev qY:=@call114
abbrev qS:=@call59
abbrev rH:=@isAgg9
abbrev rK:=@isAgg92
abbrev qw:=@zeroValue3
abbrev q7:=@underlying107
abbrev q_:=@isAgg31
abbrev qv:=@runUnderlying77
abbrev sQ:=@zeroValue67
abbrev sx:=@underlying65
abbrev tQ:=@isAgg64
abbrev ta:=@underlying22
abbrev sF:=@call135
abbrev sX:=@isAgg65
abbrev sO:=@zeroValue157
abbrev tV:=@runUnderlying165
abbrev tv:=@call103
abbrev tk:=@func198
abbrev uz:=@isAgg60
abbrev uT:=@sizeOf79
abbrev uP:=@underlying3
abbrev uy:=@call121
abbrev uB:=@call128
abbrev xV:=@underlying118
abbrev wq:=@runUnderlying22
abbrev wu:=@runUnderlying107
abbrev wF:=@isAgg117
abbrev xM:=@sizeOf117
abbrev xQ:=@runUnderlying144
abbrev vj:=@runUnderlying238
abbrev yL:=@zeroValue111
abbrev AF:=@runUnderlying79
abbrev yh:=@runUnderlying98
abbrev yZ:=@underlying177
abbrev Aq:=@zeroValue63
abbrev Ch:=@zeroValue69
abbrev Ci:=@runUnderlying31
abbrev Bs:=@zeroValue31
abbrev Cp:=@runUnderlying56
abbrev AZ:=@zeroValue79
abbrev Dd:=@runUnderlying87
abbrev A4:=@runUnderlying111
abbrev A8:=@runUnderlying154
abbrev Bw:=@underlying96
abbrev H5:=@runUnderlying27
abbrev GP:=@runUnderlying29
abbrev Gr:=@runUnderlying60
abbrev Gl:=@runUnderlying89
abbrev G4:=@runUnderlying135
open List (length_append length_cons length_nil mem_append mem_cons not_mem_nil append_assoc getElem_mem take_of_length_le)
section
open Go.RowKit
mutual
def bc:aS -> List aO
 |.mk op num name args=>[.val (.int .i64 op),.val (.int .i64 num),.val (.string name),.sl args.length (zo args)]
def zo:List aS -> List aO
 |[]=>[]
 |e::es=>bc e++zo es
end
def I4:∀l:List aS,zo l=l.flatMap bc
 |[]=>by rw [zo];rfl
 |e::es=>by rw [zo,I4 es,ec]
def bo(x:aS):List aO:=[aA x.op,aA x.num,ah x.name,aB bc x.args]
def GX(x:aS):bc x=[aA x.op,aA x.num,ah x.name,aB bc x.args]:=by
 cases x;rw [bc,I4];rfl
def fv(x:aS):bc x=bo x:=GX x
def g_(x:aS):(bc x).length=4:=by rw [GX];rfl
def encR(r:cL):List aO:=[ah r.name,aB bc r.index]
def cd(a:cI):List aO:=[bG a.mutex,ah a.ref.name,aB bc a.ref.index,aA a.expr.op,aA a.expr.num,ah a.expr.name,aB bc a.expr.args]
def o'(a:cI):(cd a).length=7:=rfl
mutual
def encS:aE -> List aO
 |.mk k name e r args t el=>[.val (.int .i64 k),.val (.string name),.val (.int .i64 e.op),.val (.int .i64 e.num),.val (.string e.name),.sl e.args.length (e.args.flatMap bc),.val (.string r.name),.sl r.index.length (r.index.flatMap bc),.sl args.length (args.flatMap cd),.sl t.length (wM t),.sl el.length (wM el)]
def wM:List aE -> List aO
 |[]=>[]
 |e::es=>encS e++wM es
end
def Hv:∀l:List aE,wM l=l.flatMap encS
 |[]=>by rw [wM];rfl
 |e::es=>by rw [wM,Hv es,ec]
def H7(x:aE):encS x=[aA x.kind,ah x.name,aA x.expr.op,aA x.expr.num,ah x.expr.name,aB bc x.expr.args,ah x.ref.name,aB bc x.ref.index,aB cd x.args,aB encS x.thn,aB encS x.els]:=by
 cases x;rw [encS,Hv,Hv];rfl
def ci(x:aE):List aO:=[aA x.kind,ah x.name,aA x.expr.op,aA x.expr.num,ah x.expr.name,aB bc x.expr.args,ah x.ref.name,aB bc x.ref.index,aB cd x.args,aB encS x.thn,aB encS x.els]
def mQ(x:aE):encS x=ci x:=H7 x
def l8(x:aE):(encS x).length=11:=by rw [H7];rfl
def cC(p:bg):List aO:=[ah p.name,bG p.mutex]
def aZ(f:bB):List aO:=[ah f.name,aB cC f.params,aB encS f.body]
def am(g:b_):List aO:=[ah g.name,aA g.init]
def aT(m:cn):List aO:=[ah m.name,bG m.ex,aA m.size]
def dl(p:aY):List aO:=[aB am p.globals,aB aT p.mutexes,aB aZ p.funcs]
def dY(t:Tok):List aO:=[aA t.kind,ah t.text,aA t.num,aA t.pos]
def iU(p:bg):(cC p).length=2:=rfl
def mH(p:bB):(aZ p).length=3:=rfl
def oU(p:b_):(am p).length=2:=rfl
def pD(p:cn):(aT p).length=3:=rfl
def lN(p:Tok):(dY p).length=4:=rfl
section
variable {P:Program}{ops:Array Oper}{U Z:List Nat}{o o2:Oper}{n d:Nat}{T:List Nat}{s:aJ}{bx:List aV}{rw:List aP}{ts:List (Nat×AT)}{Q:Exit -> AS -> Prop}{K:AS -> Prop}{st:AS}
theorem Jt{md:Region.Mode}{QQ:Exit -> Act -> ab -> Prop}{S S':ab -> Prop}(hS:∀w,S' w -> S w){fuel:Nat}{listed:Array Bool}{a:Act}{w:ab}(h:wpAnyH P md ops QQ S' fuel listed a w):wpAnyH P md ops QQ S fuel listed a w:=Fa hS _ _ _ _ h
theorem Gc{fuel:Nat}{listed:Array Bool}{st':AS}(hs:Sub st st')(h:dr P ops Z fuel listed st' K):dr P ops Z fuel listed st K:=
 λa w hS QQ hp hQ=>Jt (λw2 h2=>h2.mono λb hb=>gh.2 ⟨(hs a w hS).2.1 b (gh.1 hb).1,(gh.1 hb).2⟩) (h a w (hs a w hS).1 QQ hp λa' w' st2 q s2 k=>hQ a' w' st2 q s2 ((hs.ext hS).trans k))
theorem jq(r:Int){E yt:bA}{x y:bb}{m k:Int}(ho:o.op=.binOp .sub E x y yt:=by exact rfl)(hx:aw st x=some (an m):=by exact rfl)(hy:aw st y=some (an k):=by exact rfl)(hr:m-k=r:=by omega)(h1:-9223372036854775808 <= r:=by omega)(h2:r <= 9223372036854775807:=by omega):co P U o st (an r):=by
 subst hr;exact jh (ho:=ho) (hx:=hx) (hy:=hy) (h1:=h1) (h2:=h2)
theorem dO{U:List Nat}{t:AT}(hd:o.dst=some d)(hn:d<n)(hy:co P [] o ⟨n,T,s,ts⟩ t)(h:K ⟨n,T,s,(d,t)::ts⟩):dZ P U o ⟨n,T,s,ts⟩ K:=Qt hd hn hy h
theorem mj{E e:bA}{x y:bb}{α:Type}(f:α -> aO)(lst:List α){k:IntKind}{i:Int}(j:Nat)(ho:o.op=.indexAddr E x y)(hx:aw st x=some (.c (.sl lst.length (lst.map f))))(hy:aw st y=some (av (.int k i)))(hi:i=j)(hj:j<lst.length)
  (hu:∀w,(underlying E).run P w=.ok (.slice e) w) (hS:∀w,(sizeOf e).run P w=.ok 1 w):co P U o st (.el (f lst[j]::(lst.drop (j+1)).map f)):=by
 have h:=Mj (P:=P) (U:=U) j ho hx hy hi hj (by simpa using hj) hu hS;have aj:(lst.map f).drop (j*1)=f lst[j]::(lst.drop (j+1)).map f:=by rw [rZ,←List.map_drop,ic hj,dE]
 rw [aj] at h;exact h
theorem dc{α:Type}(enc enc':α -> List aO)(x:α){z:Nat}{zc:List aO}(he:enc x=enc' x)(h1:zc.length=z)(h2:(enc' x).length=z):nK (λk=>some (k*z,z)) zc [(0,.agg (enc' x))]=some ([x].flatMap enc):=by
 simp only [nK,lV,rO,cp];rw [if_pos ⟨h2,Y⟩,Cs Y];simp [he]
theorem Jj{α:Type}(enc enc':α -> List aO)(x y:α){z:Nat}{zc:List aO}(he:∀x,enc x=enc' x)(h1:zc.length=2*z)(h2:∀x,(enc' x).length=z):nK (λk=>some (k*z,z)) zc [(0,.agg (enc' x)),(1,.agg (enc' y))]=some ([x,y].flatMap enc):=by
 simp only [nK,lV,rO,cp,Nat.one_mul];have aj:(splice zc 0 (enc' x)).length=2*z:=by unfold splice;simp [h2];omega
 rw [if_pos ⟨h2 x,Y⟩,if_pos ⟨h2 y,Y⟩];unfold splice;simp only [h2,mJ,cg,cp,ec,Be,eV,he];rw [rY (h2 x),uF (by simp [h2];omega)];simp
end
end
section
open Go.RowKit
section
variable {P:Program}{U T:List Nat}{o:Oper}{n d:Nat}{ts:List (Nat×AT)}{bx:List aV}{rw:List aP}{K:AS -> Prop}{Q:Exit -> AS -> Prop}{ops:Array Oper}{l:List Oper}
theorem R0{E e:bA}{x y:bb}{k m z:Nat}{v zv:aN}{cs ds r:List aO}(A:List aP)(i:TypeInfo)(bytes:Nat){B:List aP}(ho:o.op=.call {callee:=.builtin .append,args:=#[x,y],argTypes:=#[E,E]})(hd:o.dst=some d)(hn:d<n)
  (hx:aw ⟨n,T,⟨bx,A++⟨v,e,z,k,cs⟩::B⟩,ts⟩ x=some (av v)) (hy:aw ⟨n,T,⟨bx,A++⟨v,e,z,k,cs⟩::B⟩,ts⟩ y=some (.c (.sl m ds))) (hu:P.underlying E=some (.slice e)) (hi:P.info? e=some i) (hz:i.zero=some zv) (hsz:i.size=z) (hby:i.bytes=bytes) (hzs:zv.cells.size=z) (h0:0<z)
  (hm:ds.length=m*z) (hm0:0<m) (hlen:k+m <= maxLen) (hbytes:(k+m)*bytes <= 140737488355328) {N:Nat} (hN:k+m=N) (hU:(⟨bx,A++⟨v,e,z,k,cs⟩::B⟩:aJ).bl.Nodup -> ∀b,b∈aR v -> b∈U) (hT:∀b,b∈aR v -> b∈T) (hr:cs++ds=r)
  (h:∀v',K ⟨n,aR v'++T,⟨bx,A++⟨v',e,z,N,r⟩::B⟩,(d,av v')::ts⟩):dZ P U o ⟨n,T,⟨bx,A++⟨v,e,z,k,cs⟩::B⟩,ts⟩ K:=by
 subst hr;subst hN;exact Hj A ho hd hn hx J hy hu hi hz hsz hby hzs h0 hm hm0 hlen hbytes hU hT h
theorem X8{R R':List aP}{r:aP}{w:ab}(hm:Mem ⟨bx,R++r::R'⟩ w)(hz:0<r.z):jn (bj (⟨bx,R++R'⟩:aJ).bl w) (.sl r.n r.cs) r.v:=by
 obtain ⟨us,la,hrep⟩:=hm.row r aL;have hown:=la.row hz;have hbl:∀b,b∈(⟨bx,R++R'⟩:aJ).bl -> b∈(⟨bx,R++r::R'⟩:aJ).bl:=λb hb=>by
  unfold aJ.bl at hb⊢;simp only [dj,ec,mem_append] at hb⊢;rcases hb with h|h|h
  ·exact .inl h
  ·exact .inr (.inl h)
  exact .inr (.inr (.inr h))
 refine .sl _ _ us _ ?_ hrep.len (λk h h'=>(hrep.at_ k h h').mono (up_sub hbl)) (A9 hown);obtain ⟨p,cap,he,hc,hr⟩:=d_.DS hown;refine ⟨p,cap,he,hc,?_⟩;rcases hr with h0|⟨b,off,rfl,hr⟩
 ·exact .inl h0
 refine .inr ⟨b,off,J,λj x hj=>?_⟩;have hbv:b∈aR r.v:=by rw [he];simp [aR,Value.ownBlock]
 rw [pH]
 ·exact hr j x hj
 intro hm1;have hnd:=hm.nodup;rw [DL bx R R' r] at hnd;have hm2:b∈(bx.map aV.b++R.flatMap λr=>aR r.v)∨b∈R'.flatMap λr=>aR r.v:=by
  unfold aJ.bl at hm1;simp only [dj,mem_append] at hm1⊢;rcases hm1 with h|h|h
  ·exact .inl (.inl h)
  ·exact .inl (.inr h)
  exact .inr h
 rcases hm2 with hm2|hm2
 ·exact (eN.1 hnd).2.2 b hm2 b (gR _ hbv) J
 exact (eN.1 (eN.1 hnd).2.1).2.2 b hbv b hm2 J
theorem Ed{b:Nat}{E:bA}{cs:List aO}{r:aP}(A:List aV){B:List aV}(i:Nat)(hi:cs[i]?=some (.val r.v))(hz:0<r.z:=by decide):jj ⟨A++⟨b,E,cs⟩::B,r::rw⟩ ⟨A++⟨b,E,cs.set i (.sl r.n r.cs)⟩::B,rw⟩:=by
 intro w hm;have hf:=X8 (R:=[]) hm hz;obtain ⟨h1,h2⟩:=ai (s:=⟨A++⟨b,E,cs⟩::B,r::rw⟩) (s':=⟨A++⟨b,E,cs⟩::B,rw⟩) (.refl _) (zR _ _) w hm;have hbl:(⟨A++⟨b,E,cs.set i (.sl r.n r.cs)⟩::B,rw⟩:aJ).bl=(⟨A++⟨b,E,cs⟩::B,rw⟩:aJ).bl:=by unfold aJ.bl;simp
 refine ⟨⟨by rw [hbl];exact h1.nodup,by rw [hbl];exact h1.lt,λx hx=>?_,λx hx=>by rw [hbl];exact h1.row x hx⟩,by rw [hbl];exact h2⟩;rw [hbl];rcases mem_append.1 hx with hx|hx
 ·exact h1.box x (gR _ hx)
 rcases mem_cons.1 hx with rfl|hx
 ·obtain ⟨us,aj,e2⟩:=h1.box ⟨b,E,cs⟩ aL;refine ⟨us,aj,?_⟩;obtain ⟨u,g1,g2⟩:=e2.get hi;cases g2;have h9:=e2.set i hf;have hus:us.set i r.v=us:=by
   refine oR aL λj h1 h2=>?_;rw [G7];split
   ·rename_i hj;subst hj;exact (m6.1 g1).2.symm
   rfl
  rw [hus] at h9;exact h9
 exact h1.box x (gx _ (eG _ hx))
theorem eD{b:Nat}{E:bA}{cs cs':List aO}{v:aN}{E2:bA}{z k:Nat}{ds:List aO}(A:List aV){B:List aV}(i:Nat)(hi:cs[i]?=some (.val v))(hr:cs.set i (.sl k ds)=cs')(h:cO P ops l ⟨n,T,⟨A++⟨b,E,cs'⟩::B,rw⟩,ts⟩ Q)(hz:0<z:=by decide):cO P ops l ⟨n,T,⟨A++⟨b,E,cs⟩::B,⟨v,E2,z,k,ds⟩::rw⟩,ts⟩ Q:=by
 subst hr;exact uZ (qx (st:=⟨n,T,⟨A++⟨b,E,cs⟩::B,⟨v,E2,z,k,ds⟩::rw⟩,ts⟩) (Ed (r:=⟨v,E2,z,k,ds⟩) A i hi hz)) h
theorem gP{st:AS}{rv:ResultVar}{r r':AT}(h:bL r r')(hr:ml P st rv r):ml P st rv r':=λa w hs=>
 let ⟨v,h1,h2⟩:=hr a w hs
 ⟨v,h _ _ h1,h2⟩
end
end
section
open Go.RowKit
class dq (N:Nat) (g:Prop) (g':outParam Prop):Prop where out:g' -> g
def go(N:Nat){g g':Prop}[h:dq N g g'](x:g'):g:=h.out x
instance aGb{g:Prop}:dq 0 g g:=⟨id⟩
class pg (d n:Nat):Prop where h:d<n
instance Zz{d k:Nat}:pg d (k+d+1):=⟨Y⟩
class AX (i j:Nat):Prop where h:i≠j
instance aGE{i j:Nat}[h:pg i j]:AX i j:=⟨by have:=h.h;omega⟩
instance aDT{i j:Nat}[h:pg j i]:AX i j:=⟨by have:=h.h;omega⟩
class yX (ts:List (Nat×AT)) (i:Nat) (t:outParam AT):Prop where h:look ts i=some t
instance (priority:=1100) look_hit{ts:List (Nat×AT)}{i:Nat}{t:AT}:yX ((i,t)::ts) i t:=⟨by simp [look]⟩
instance aEE{ts:List (Nat×AT)}{i j:Nat}{t u:AT}[h1:AX j i][h2:yX ts i t]:yX ((j,u)::ts) i t:=⟨by rw [look,if_neg h1.h];exact h2.h⟩
class sZ (u:AT) (t:outParam AT):Prop where h:u.bare=t
instance aCm{x:aO}:sZ (.c x) (.c x):=⟨rfl⟩
instance aBj{x:List aO}:sZ (.agg x) (.agg x):=⟨rfl⟩
instance aGe{x:List AT}:sZ (.fd x) (.fd x):=⟨rfl⟩
instance aD9{x:List aO}:sZ (.el x) (.el x):=⟨rfl⟩
instance aFV{x:Value}:sZ (.raw x) (.raw x):=⟨rfl⟩
instance aCJ{t:AT}{p:World -> Prop}:sZ (.ride t p) t:=⟨rfl⟩
instance aGP{t:AT}{a b c d:Nat}{x y:List aO}:sZ (.fact (.fact t a b x) c d y) t:=⟨rfl⟩
class wZ (vs:List Value) (cs:outParam (List aO)):Prop where h:vs.all (·.oneCell')=true /\ vs.map .val=cs
instance aAW:wZ [] []:=⟨rfl,rfl⟩
class tC (v:Value):Prop where h:v.oneCell'=true
instance Yu{k:IntKind}{i:Int}:tC (.int k i):=⟨rfl⟩
instance Zc{b:Bool}:tC (.bool b):=⟨rfl⟩
instance aB1{b:ByteArray}:tC (.string b):=⟨rfl⟩
instance aCq{b:Option Addr}:tC (.pointer b):=⟨rfl⟩
instance aBn{a:Option Addr}{m k:Nat}:tC (.slice a m k):=⟨rfl⟩
instance aBE{f:Fn}{a b:Array Value}:tC (.func f a b):=⟨rfl⟩
instance aD6:tC .nilFunc:=⟨rfl⟩
instance aEj{v:Value}{vs:List Value}{cs:List aO}[h1:tC v][h2:wZ vs cs]:wZ (v::vs) (.val v::cs):=⟨by simp only [zB,h1.h,h2.h.1,Bool.and_self],by rw [dE,h2.h.2]⟩
class rX (v:Value) (t:outParam AT):Prop where h:gb v=t
instance aC1{k:IntKind}{i:Int}:rX (.int k i) (av (.int k i)):=⟨rfl⟩
instance aFI{b:Bool}:rX (.bool b) (bC b):=⟨rfl⟩
instance aED{b:ByteArray}:rX (.string b) (cK b):=⟨rfl⟩
instance Y4{b:Option Addr}:rX (.pointer b) (av (.pointer b)):=⟨rfl⟩
instance aDY{a:Option Addr}{m k:Nat}:rX (.slice a m k) (av (.slice a m k)):=⟨rfl⟩
instance Y1:rX .nilFunc (av .nilFunc):=⟨rfl⟩
instance aBv{vs:List Value}{cs:List aO}[h:wZ vs cs]:rX (.agg vs.toArray) (.agg cs):=⟨by
 show (if vs.toArray.toList.all (·.oneCell') then AT.agg (vs.toArray.toList.map .val) else .raw (.agg vs.toArray))=_
 rw [IX,if_pos h.h.1,h.h.2]⟩
class gQ (ts:List (Nat×AT)) (x:Operand) (t:outParam AT):Prop where h:∀n T s,aw ⟨n,T,s,ts⟩ x=some t
instance aGT{ts:List (Nat×AT)}{i:Nat}{u t:AT}[h1:yX ts i u][h2:sZ u t]:gQ ts (.tmp i) t:=⟨λn T s=>by show (look ts i).map AT.bare=_;rw [h1.h,oi,h2.h]⟩
instance Zv{ts:List (Nat×AT)}{v:Value}{t:AT}[h:rX v t]:gQ ts (.const v) t:=⟨λn T s=>by show some (gb v)=_;rw [h.h]⟩
instance aDO{ts:List (Nat×AT)}{f:FuncId}:gQ ts (.func f) (av (.func (.func f) #[] #[])):=⟨λn T s=>rfl⟩
class tN (l:List Oper) (j:Nat) (t:outParam Nat):Prop where h:(l[j]?).bind (·.dst)=some t
instance Y8{t:Nat}{op:Op}{ty:TypeId}{pos:String}{af:Array Edge}{g:Option (Nat×Bool)}{l:List Oper}:tN (⟨some t,op,ty,pos,af,g⟩::l) 0 t:=⟨rfl⟩
instance aDw{t j:Nat}{o:Oper}{l:List Oper}[h:tN l j t]:tN (o::l) (j+1) t:=⟨Bh⟩
class wi (b want:Bool) (r:outParam Bool):Prop where h:(b == want)=r
instance aEr:wi true true true:=⟨rfl⟩
instance aAk:wi true false false:=⟨rfl⟩
instance aCX:wi false true false:=⟨rfl⟩
instance aDM:wi false false true:=⟨rfl⟩
class FO (t:AT) (want:Bool) (r:outParam Bool):Prop where h:(match t with|.c (.val v)=>some (xf want v)|.raw v=>some (xf want v)|_=>none)=some r
instance aBX{b want r:Bool}[h:wi b want r]:FO (bC b) want r:=⟨by show some (b == want)=some r;rw [h.h]⟩
instance aE4{want:Bool}:FO (.raw undef) want false:=⟨rfl⟩
class wj (l:List Oper) (ts:List (Nat×AT)) (g:Option (Nat×Bool)) (r:outParam Bool):Prop where h:∀n T s (o:Oper),o.guard=g -> eJ l.toArray o ⟨n,T,s,ts⟩=some r
instance aGa{l:List Oper}{ts:List (Nat×AT)}:wj l ts none true:=⟨λn T s o h=>by unfold eJ;rw [h]⟩
instance aGn{l:List Oper}{ts:List (Nat×AT)}{j t:Nat}{want r:Bool}{u:AT}[h1:tN l j t][h2:yX ts t u][h3:FO u want r]:wj l ts (some (j,want)) r:=⟨λn T s o h=>by
 unfold eJ;rw [h];dsimp only;rw [h1.h];dsimp only;rw [h2.h];have h4:=h3.h
 revert h4
 cases u with
 |c x=>cases x with
  |val v=>exact id
  |sl _ _=>exact id
 |raw v=>exact id
 |_=>exact id⟩
class lZ (P:Program) (U:List Nat) (op:Op) (n:Nat) (T:List Nat) (s:aJ) (ts:List (Nat×AT)) (t:outParam AT):Prop where h:∀o:Oper,o.op=op -> co P U o ⟨n,T,s,ts⟩ t
class Dx (r:Bool) (P:Program) (U:List Nat) (op:Op) (n:Nat) (T:List Nat) (s:aJ) (ts:List (Nat×AT)) (t:outParam AT):Prop where h:(r=true -> ∀o:Oper,o.op=op -> co P U o ⟨n,T,s,ts⟩ t) /\ (r=false -> t=.raw undef)
section
variable {P:Program}{U T:List Nat}{n:Nat}{s:aJ}{ts:List (Nat×AT)}{t u:AT}
instance stepT{op:Op}[h:lZ P U op n T s ts t]:Dx true P U op n T s ts t:=⟨λ_=>h.h,(λh=>iH)⟩
instance Yy{op:Op}:Dx false P U op n T s ts (.raw undef):=⟨(λh=>iH),λ_=>rfl⟩
instance aGU{x:Operand}[h:gQ ts x t]:lZ P U (.move x) n T s ts t:=⟨λo ho=>ot ho (h.h _ _ _)⟩
instance aBP{x:Operand}[h:gQ ts x t]:lZ P U (.assign x) n T s ts t:=⟨λo ho=>xu ho (h.h _ _ _)⟩
instance aEH{c x y:Operand}[hc:gQ ts c (bC true)][h:gQ ts x t]:lZ P U (.pick c x y) n T s ts t:=⟨λo ho=>Ml (b:=true) ho (hc.h _ _ _) (h.h _ _ _)⟩
instance aET{c x y:Operand}[hc:gQ ts c (bC false)][h:gQ ts y t]:lZ P U (.pick c x y) n T s ts t:=⟨λo ho=>Ml (b:=false) ho (hc.h _ _ _) (h.h _ _ _)⟩
end
class hY (cs:List aO) (z:Nat):Prop where h:cs.length=z
instance aGX:hY [] 0:=⟨rfl⟩
instance aAf{c:aO}{cs:List aO}{k:Nat}[h:hY cs k]:hY (c::cs) (k+1):=⟨by rw [length_cons,h.h]⟩
instance aCw{x:aS}:hY (bc x) 4:=⟨g_ x⟩
instance aFe{x:aS}:hY (bo x) 4:=⟨rfl⟩
instance ZU{x:cL}:hY (encR x) 2:=⟨rfl⟩
instance aDR{x:cI}:hY (cd x) 7:=⟨rfl⟩
instance aFH{x:aE}:hY (encS x) 11:=⟨l8 x⟩
instance aEX{x:aE}:hY (ci x) 11:=⟨rfl⟩
instance aDK{x:bg}:hY (cC x) 2:=⟨rfl⟩
instance aCg{x:bB}:hY (aZ x) 3:=⟨rfl⟩
instance aAy{x:b_}:hY (am x) 2:=⟨rfl⟩
instance aCz{x:cn}:hY (aT x) 3:=⟨rfl⟩
instance aFY{x:aY}:hY (dl x) 3:=⟨rfl⟩
instance Zd{x:Tok}:hY (dY x) 4:=⟨rfl⟩
class iC (cs:List aO) (ds:outParam (List aO)):Prop where h:cs=ds
instance ZX:iC [] []:=⟨rfl⟩
instance aE9{c:aO}{cs:List aO}:iC (c::cs) (c::cs):=⟨rfl⟩
instance aEs{x:aS}:iC (bc x) [aA x.op,aA x.num,ah x.name,aB bc x.args]:=⟨GX x⟩
instance aEg{x:aS}:iC (bo x) [aA x.op,aA x.num,ah x.name,aB bc x.args]:=⟨rfl⟩
instance aDc{r:cL}:iC (encR r) [ah r.name,aB bc r.index]:=⟨rfl⟩
instance aDA{a:cI}:iC (cd a) [bG a.mutex,ah a.ref.name,aB bc a.ref.index,aA a.expr.op,aA a.expr.num,ah a.expr.name,aB bc a.expr.args]:=⟨rfl⟩
instance aGZ{x:aE}:iC (encS x) [aA x.kind,ah x.name,aA x.expr.op,aA x.expr.num,ah x.expr.name,aB bc x.expr.args,ah x.ref.name,aB bc x.ref.index,aB cd x.args,aB encS x.thn,aB encS x.els]:=⟨H7 x⟩
instance aBW{x:aE}:iC (ci x) [aA x.kind,ah x.name,aA x.expr.op,aA x.expr.num,ah x.expr.name,aB bc x.expr.args,ah x.ref.name,aB bc x.ref.index,aB cd x.args,aB encS x.thn,aB encS x.els]:=⟨rfl⟩
instance aE3{p:bg}:iC (cC p) [ah p.name,bG p.mutex]:=⟨rfl⟩
instance Yr{f:bB}:iC (aZ f) [ah f.name,aB cC f.params,aB encS f.body]:=⟨rfl⟩
instance aEv{g:b_}:iC (am g) [ah g.name,aA g.init]:=⟨rfl⟩
instance aAg{m:cn}:iC (aT m) [ah m.name,bG m.ex,aA m.size]:=⟨rfl⟩
instance aDX{p:aY}:iC (dl p) [aB am p.globals,aB aT p.mutexes,aB aZ p.funcs]:=⟨rfl⟩
instance aBT{t:Tok}:iC (dY t) [aA t.kind,ah t.text,aA t.num,aA t.pos]:=⟨rfl⟩
instance aEJ{vs:List Value}{cs:List aO}[h:wZ vs cs]:iC (List.map aO.val (List.toArray vs).toList) cs:=⟨by rw [IX];exact h.h.2⟩
instance aE6{vs:List Value}{cs:List aO}{z:Nat}[h:wZ vs cs][h2:hY cs z]:hY (List.map aO.val (List.toArray vs).toList) z:=⟨by rw [IX,h.h.2];exact h2.h⟩
class CN (cs:List aO) (i:Nat) (c:aO) (r:outParam (List aO)):Prop where h:cs.set i c=r
instance aA4{c d:aO}{cs:List aO}:CN (d::cs) 0 c (c::cs):=⟨rfl⟩
instance aCL{c d:aO}{cs r:List aO}{i:Nat}[h:CN cs i c r]:CN (d::cs) (i+1) c (d::r):=⟨by rw [yH,h.h]⟩
instance aAI{cs cs' r:List aO}{i:Nat}{c:aO}[h:iC cs cs'][h2:CN cs' i c r]:iC (cs.set i c) r:=⟨by rw [h.h,h2.h]⟩
instance aFr{cs:List aO}{i z:Nat}{c:aO}[h:hY cs z]:hY (cs.set i c) z:=⟨by rw [List.length_set,h.h]⟩
instance aC6{cs ds R:List aO}[h:iC cs ds]:iC (cs++R) (ds++R):=⟨by rw [h.h]⟩
class wc (cs:List aO) (z:Nat) (ds:outParam (List aO)):Prop where h:cs.take z=ds /\ z <= cs.length
instance aE8{cs:List aO}:wc cs 0 []:=⟨aL⟩
instance aCo{c:aO}{cs ds:List aO}{z:Nat}[h:wc cs z ds]:wc (c::cs) (z+1) (c::ds):=⟨by simp [h.h.1,h.h.2]⟩
instance aFZ{cs R ds:List aO}{z:Nat}[h:wc cs z ds]:wc (cs++R) z ds:=⟨by rw [Ek h.h.2,length_append];exact ⟨h.h.1,by have:=h.h.2;omega⟩⟩
class tL (cs:List aO) (o:Nat) (ds:outParam (List aO)):Prop where h:cs.drop o=ds /\ o <= cs.length
instance aFj{cs:List aO}:tL cs 0 cs:=⟨aL⟩
instance aAh{c:aO}{cs ds:List aO}{o:Nat}[h:tL cs o ds]:tL (c::cs) (o+1) ds:=⟨by simp [h.h.1,h.h.2]⟩
instance aGH{cs ds R:List aO}{o:Nat}[h:tL cs o ds]:tL (cs++R) o (ds++R):=⟨by
 refine ⟨?_,by have:=h.h.2;simp;omega⟩;rw [EX h.h.2,h.h.1]⟩
class tx (ag:Bool) (z:Nat) (cs:List aO) (off:Nat) (t:outParam AT):Prop where h:fg ag z cs off=some t
instance (priority:=1200) pkN_whole{cs:List aO}{z:Nat}[h:hY cs z]:tx true z cs 0 (.agg cs):=⟨cH h.h rfl⟩
instance (priority:=1100) pkN_head{cs R:List aO}{z:Nat}[h:hY cs z]:tx true z (cs++R) 0 (.agg cs):=⟨Ws h.h rfl⟩
instance aAE{cs cs' c2 ds:List aO}{z off:Nat}[h1:iC cs cs'][h2:tL cs' off c2][h3:wc c2 z ds]:tx true z cs off (.agg ds):=⟨by
 rw [h1.h];unfold fg;rw [if_pos rfl,if_pos,h2.h.1,h3.h.1];have aj:=h3.h.2;rw [←h2.h.1,kL] at aj;have e2:=h2.h.2;omega⟩
class IF (cs:List aO) (c:outParam aO):Prop where h:cs[0]?=some c
instance aEx{c:aO}{cs:List aO}:IF (c::cs) c:=⟨rfl⟩
instance aDs{c:aO}{cs R:List aO}:IF (c::cs++R) c:=⟨rfl⟩
instance aFO{cs cs' c2:List aO}{z off:Nat}{c:aO}[h1:iC cs cs'][h2:tL cs' off c2][h3:IF c2 c]:tx false z cs off (.c c):=⟨by
 rw [h1.h];unfold fg;rw [if_neg aL];have e3:=h3.h;rw [←h2.h.1,qX] at e3;rw [vX] at e3;rw [e3];rfl⟩
class xK (cs:List aO) (off:Nat) (ds:List aO) (r:outParam (List aO)):Prop where h:splice cs off ds=r /\ off+ds.length <= cs.length
instance aGM{cs:List aO}:xK cs 0 [] cs:=⟨by simp [splice]⟩
instance aE2{c d:aO}{cs ds r:List aO}[h:xK cs 0 ds r]:xK (c::cs) 0 (d::ds) (d::r):=⟨by
 have e:=h.h;refine ⟨?_,by have:=e.2;simp at this⊢;omega⟩;have aj:=e.1;unfold splice at aj⊢;simp at aj⊢;exact aj⟩
instance aGO{c:aO}{cs ds r:List aO}{o:Nat}[h:xK cs o ds r]:xK (c::cs) (o+1) ds (c::r):=⟨by
 have e:=h.h;refine ⟨?_,by have:=e.2;simp at this⊢;omega⟩;have aj:=e.1;unfold splice at aj⊢;rw [show o+1+ds.length=(o+ds.length)+1 by omega];simp only [jW,List.drop_succ_cons,eA,aj]⟩
class xN (cs:List aO) (off:Nat) (ds:List aO) (z:Nat) (r:outParam (List aO)):Prop where h:splice cs off ds=r /\ off+z <= cs.length /\ ds.length=z
instance (priority:=1200) spl_all{cs ds:List aO}{z:Nat}[h1:hY cs z][h2:hY ds z]:xN cs 0 ds z ds:=⟨Cs (by rw [h1.h,h2.h]),by rw [h1.h];omega,h2.h⟩
instance aDy{cs cs' ds ds' r:List aO}{off z:Nat}[h1:iC cs cs'][h2:iC ds ds'][h3:hY ds' z][h4:xK cs' off ds' r]:xN cs off ds z r:=⟨by
 rw [h1.h,h2.h];have e:=h4.h;have e2:=h3.h;exact ⟨e.1,Y,e2⟩⟩
class cy (P:Program) (t:TypeId) (ag:outParam Bool) (z:outParam Nat):Prop where h:(∀w,(isAgg t).run P w=.ok ag w) /\ ∀w,(sizeOf t).run P w=.ok z w
class cZ (P:Program) (t:TypeId) (f:Nat) (off:outParam Nat) (ft:outParam TypeId):Prop where h:∃fs,(∀w,(underlying t).run P w=.ok (.struct fs) w) /\ s_ fs f=some (off,ft)
class mC (P:Program) (t:TypeId) (e:outParam TypeId):Prop where h:∀w,(underlying t).run P w=.ok (.slice e) w
class QM (P:Program) (t:TypeId):Prop where h:∀w,(underlying t).run P w=.ok .string w
class dy (P:Program) (t:TypeId) (cs:outParam (List aO)):Prop where h:∃z,(∀w,(zeroValue t).run P w=.ok z w) /\ lV (gb z)=some cs
class ek (p o:Nat) (q:outParam Nat):Prop where h:p+o=q
instance (priority:=1100) addN_0{o:Nat}:ek 0 o o:=⟨cp o⟩
instance aBb{p:Nat}:ek p 0 p:=⟨rfl⟩
class ly (bx:List aV) (b:Nat) (A:outParam (List aV)) (T:outParam TypeId) (cs:outParam (List aO)) (B:outParam (List aV)):Prop where h:bx=A++⟨b,T,cs⟩::B
instance (priority:=1100) boxIn_hit{b:Nat}{T:TypeId}{cs:List aO}{B:List aV}:ly (⟨b,T,cs⟩::B) b [] T cs B:=⟨rfl⟩
instance aFq{x:aV}{bx A B:List aV}{b:Nat}{T:TypeId}{cs:List aO}[h:ly bx b A T cs B]:ly (x::bx) b (x::A) T cs B:=⟨by rw [h.h];rfl⟩
instance aFo{A0 bx B:List aV}{x:aV}{b:Nat}{T:TypeId}{cs:List aO}[h:ly (x::bx) b [] T cs B]:ly (A0++x::bx) b A0 T cs B:=⟨by rw [h.h];rfl⟩
instance (priority:=1200) boxIn_capp{x:aV}{A1 R A B:List aV}{b:Nat}{T:TypeId}{cs:List aO}[h:ly (x::(A1++R)) b A T cs B]:ly (x::A1++R) b A T cs B:=⟨h.h⟩
instance (priority:=1200) boxIn_napp{R A B:List aV}{b:Nat}{T:TypeId}{cs:List aO}[h:ly R b A T cs B]:ly ([]++R) b A T cs B:=⟨h.h⟩
instance (priority:=1200) boxIn_napp2{R A B:List aV}{b:Nat}{T:TypeId}{cs:List aO}[h:ly R b A T cs B]:ly (List.append [] R) b A T cs B:=⟨h.h⟩
class rS (A ds:List aV) (r:outParam (List aV)):Prop where h:A++ds=r
instance (priority:=1100) appL_nil{ds:List aV}:rS [] ds ds:=⟨rfl⟩
instance (priority:=1100) appL_cons{x:aV}{A ds r:List aV}[h:rS A ds r]:rS (x::A) ds (x::r):=⟨by rw [eA,h.h]⟩
instance aCY{A ds:List aV}:rS A ds (A++ds):=⟨rfl⟩
class po (b:Nat) (T:List Nat):Prop where h:b∈T
instance (priority:=1100) inL_hit{b:Nat}{T:List Nat}:po b (b::T):=⟨aL⟩
instance ZZ{b x:Nat}{T:List Nat}[h:po b T]:po b (x::T):=⟨eG _ h.h⟩
instance Z0{b:Nat}{X T:List Nat}[h:po b T]:po b (X++T):=⟨gx _ h.h⟩
instance aEP{b:Nat}{X T:List Nat}[h:po b X]:po b (X++T):=⟨gR _ h.h⟩
class FI (b:Nat) (U:List Nat):Prop where h:b∉U
instance aEN{b:Nat}:FI b []:=⟨aL⟩
instance aAr{b:Nat}{s:aJ}{Z:List Nat}[h:po b Z]:FI b (fe s Z):=⟨λhm=>(gh.1 hm).2 h.h⟩
class mF (bx:List aV) (b:Nat):Prop where h:b∈bx.map aV.b
instance (priority:=1100) bIn_hit{b:Nat}{T:TypeId}{cs:List aO}{B:List aV}:mF (⟨b,T,cs⟩::B) b:=⟨aL⟩
instance aBD{x:aV}{bx:List aV}{b:Nat}[h:mF bx b]:mF (x::bx) b:=⟨by rw [dE];exact eG _ h.h⟩
instance aCf{A bx:List aV}{b:Nat}[h:mF bx b]:mF (A++bx) b:=⟨by rw [fL];exact gx _ h.h⟩
instance (priority:=1200) bIn_capp{x:aV}{A R:List aV}{b:Nat}[h:mF (x::(A++R)) b]:mF (x::A++R) b:=⟨h.h⟩
instance (priority:=1200) bIn_napp{R:List aV}{b:Nat}[h:mF R b]:mF ([]++R) b:=⟨h.h⟩
instance (priority:=1200) bIn_napp2{R:List aV}{b:Nat}[h:mF R b]:mF (List.append [] R) b:=⟨h.h⟩
class nd (bx:List aV) (b z:Nat):Prop where h:(bx.map aV.b).Nodup -> b≠z
instance (priority:=1100) bNe_1{b z:Nat}{T:TypeId}{cs:List aO}{B:List aV}[h:mF B z]:nd (⟨b,T,cs⟩::B) b z:=⟨λhn he=>Kd⟩
instance (priority:=1100) bNe_2{b z:Nat}{T:TypeId}{cs:List aO}{B:List aV}[h:mF B b]:nd (⟨z,T,cs⟩::B) b z:=⟨λhn he=>Kd⟩
instance aEy{x:aV}{bx:List aV}{b z:Nat}[h:nd bx b z]:nd (x::bx) b z:=⟨λhn=>h.h (by rw [dE,m5] at hn;exact hn.2)⟩
instance aER{A bx:List aV}{b z:Nat}[h:nd bx b z]:nd (A++bx) b z:=⟨λhn=>h.h (by rw [fL] at hn;exact (eN.1 hn).2.1)⟩
instance (priority:=1200) bNe_capp{x:aV}{A R:List aV}{b z:Nat}[h:nd (x::(A++R)) b z]:nd (x::A++R) b z:=⟨h.h⟩
instance (priority:=1200) bNe_napp{R:List aV}{b z:Nat}[h:nd R b z]:nd ([]++R) b z:=⟨h.h⟩
instance (priority:=1200) bNe_napp2{R:List aV}{b z:Nat}[h:nd R b z]:nd (List.append [] R) b z:=⟨h.h⟩
class y5 (bx:List aV) (b:Nat) (Z:List Nat):Prop where h:(bx.map aV.b).Nodup -> b∉Z
instance ZA{bx:List aV}{b:Nat}:y5 bx b []:=⟨λ_=>aL⟩
instance Ys{bx:List aV}{b z:Nat}{Z:List Nat}[h1:nd bx b z][h2:y5 bx b Z]:y5 bx b (z::Z):=⟨λhn hm=>by rcases mem_cons.1 hm with e|e;exact h1.h hn e;exact h2.h hn e⟩
class xw (bx:List aV) (rw:List aP) (T U:List Nat) (b:Nat):Prop where h:b∈T /\ ((⟨bx,rw⟩:aJ).bl.Nodup -> b∈U)
instance aDq{bx:List aV}{rw:List aP}{T:List Nat}{b:Nat}[h:po b T]:xw bx rw T T b:=⟨h.h,λ_=>h.h⟩
instance Zh{bx:List aV}{rw:List aP}{T Z:List Nat}{b:Nat}[h:po b T][h2:mF bx b][h3:y5 bx b Z]:xw bx rw T (fe ⟨bx,rw⟩ Z) b:=⟨h.h,λhn=>gh.2 ⟨gR _ h2.h,h3.h (eN.1 hn).1⟩⟩
class se (t:AT) (cs:outParam (List aO)):Prop where h:lV t=some cs
instance aDk{x:aO}:se (.c x) [x]:=⟨rfl⟩
instance aDS{cs:List aO}:se (.agg cs) cs:=⟨rfl⟩
section
variable {P:Program}{U T:List Nat}{n:Nat}{s:aJ}{bx A B:List aV}{rw:List aP}{ts:List (Nat×AT)}{t u:AT}{x y:Operand}
instance aFi{b r:Bool}[h:gQ ts x (bC b)][h2:wi b false r]{E:TypeId}:lZ P U (.unOp .not E x) n T s ts (bC r):=⟨λo ho=>by
 have e:r=!b:=by have:=h2.h;cases b<;>cases r<;>simp_all
 rw [e];exact jE ho (h.h _ _ _)⟩
instance aBl{b off:Nat}[h:gQ ts x (av (.pointer (some ⟨b,off,none⟩)))]:lZ P U (.nilCheck x) n T s ts (av (.pointer (some ⟨b,off,none⟩))):=⟨λo ho=>T4 ho (h.h _ _ _)⟩
instance Zi{cs:List aO}[h:gQ ts x (.el cs)]:lZ P U (.nilCheck x) n T s ts (.el cs):=⟨λo ho=>WB ho (h.h _ _ _)⟩
instance aC3{E ft:TypeId}{f b p off q z:Nat}{ag:Bool}[h:gQ ts x (av (.pointer (some ⟨b,p,none⟩)))][hf:cZ P E f off ft][hz:cy P ft ag z][h0:pg 0 z][hq:ek p off q]:lZ P U (.fieldAddr E x f) n T s ts (av (.pointer (some ⟨b,q,none⟩))):=⟨λo ho=>by
 obtain ⟨fs,h1,h2⟩:=hf.h;exact jO (ho:=ho) (hx:=h.h _ _ _) (hf:=h2) (hz:=by have:=h0.h;omega) (hq:=hq.h) off q h1 hz.h.2⟩
instance aAO{E ft:TypeId}{f off z:Nat}{cs cs' ds:List aO}{ag:Bool}[h:gQ ts x (.el cs)][hf:cZ P E f off ft][hz:cy P ft ag z][h0:pg 0 z][hc:iC cs cs'][hd:tL cs' off ds]:lZ P U (.fieldAddr E x f) n T s ts (.el ds):=⟨λo ho=>by
 obtain ⟨fs,h1,h2⟩:=hf.h;have:=WF (P:=P) (U:=U) off ho (h.h n T s) h1 h2 hz.h.2 (by have:=h0.h;omega);rw [hc.h,hd.h.1] at this;exact this⟩
instance aAa{E ft:TypeId}{f off z:Nat}{cs:List aO}{ag:Bool}[h:gQ ts x (.agg cs)][hf:cZ P E f off ft][hz:cy P ft ag z][hp:tx ag z cs off t]:lZ P U (.field E x f) n T s ts t:=⟨λo ho=>by
 obtain ⟨fs,h1,h2⟩:=hf.h;exact TS off ho (h.h _ _ _) h1 h2 hz.h.1 hz.h.2 hp.h⟩
instance aB8{E T0:TypeId}{b off z:Nat}{cs:List aO}{ag:Bool}{A B:List aV}[h:gQ ts x (av (.pointer (some ⟨b,off,none⟩)))][hb:ly bx b A T0 cs B][hz:cy P E ag z][hp:tx ag z cs off t][hu:FI b U]:lZ P U (.load E x) n T ⟨bx,rw⟩ ts t:=⟨λo ho=>cV (ho:=ho) (hx:=h.h _ _ _) (hb:=hb.h) (hp:=hp.h) (hU:=λ_=>hu.h) A hz.h.1 hz.h.2⟩
instance aEm{E:TypeId}{z:Nat}{cs:List aO}{ag:Bool}[h:gQ ts x (.el cs)][hz:cy P E ag z][hp:tx ag z cs 0 t]:lZ P U (.load E x) n T s ts t:=⟨λo ho=>ka ho (h.h _ _ _) hz.h.1 hz.h.2 hp.h⟩
class CP (l:List AT) (k:Nat) (t:outParam AT):Prop where h:l[k]?=some t
instance Z7{t:AT}{l:List AT}:CP (t::l) 0 t:=⟨rfl⟩
instance aDd{t u:AT}{l:List AT}{k:Nat}[h:CP l k t]:CP (u::l) (k+1) t:=⟨Bh⟩
instance aA6{k:Nat}{us:List AT}[h:gQ ts x (.fd us)][h2:CP us k t]:lZ P U (.extract x k) n T s ts t:=⟨λo ho=>T5 ho (h.h _ _ _) h2.h⟩
instance aGR{E e:TypeId}{m:Nat}{cs:List aO}[h:gQ ts x (.c (.sl m cs))][hu:mC P E e]:lZ P U (.call {callee:=.builtin .len,args:=#[x],argTypes:=#[E]}) n T s ts (ae m):=⟨λo ho=>YH ho (h.h _ _ _) hu.h⟩
instance aCh{E e:TypeId}{m k:Nat}{p:Option Addr}[h:gQ ts x (av (.slice p m k))][hu:mC P E e]:lZ P U (.call {callee:=.builtin .len,args:=#[x],argTypes:=#[E]}) n T s ts (ae m):=⟨λo ho=>Tg ho (h.h _ _ _) hu.h⟩
instance aAz{E:TypeId}{b:ByteArray}[h:gQ ts x (cK b)][hu:QM P E]:lZ P U (.call {callee:=.builtin .len,args:=#[x],argTypes:=#[E]}) n T s ts (ae b.size):=⟨λo ho=>Vk ho (h.h _ _ _) hu.h⟩
end
class Al (ts:List (Nat×AT)) (ps:List (Nat×Operand)) (us:outParam (List (Nat×AT))):Prop where h:∀n T s,pp ⟨n,T,s,ts⟩ ps us
instance Yx{ts:List (Nat×AT)}:Al ts [] []:=⟨λ_ _ _=>.nil⟩
instance aAw{ts:List (Nat×AT)}{i:Nat}{x:Operand}{ps:List (Nat×Operand)}{t:AT}{us:List (Nat×AT)}[h1:gQ ts x t][h2:Al ts ps us]:Al ts ((i,x)::ps) ((i,t)::us):=⟨λn T s=>.cons (h1.h n T s) (h2.h n T s)⟩
class iZ (P:Program) (E:TypeId) (pl:outParam (List (Nat×Nat))) (zc:outParam (List aO)):Prop where h:∃(fs:Array Field) (i:TypeInfo) (z:Value),P.underlying E=some (.struct fs) /\ P.info? E=some i /\ i.zero=some z /\ fs.toList.mapM (λf=>(P.info? f.type).map λi=>(f.offset,i.size))=some pl /\ lV (gb z)=some zc
class CK (l:List (Nat×Nat)) (k:Nat) (p:outParam (Nat×Nat)):Prop where h:l[k]?=some p
instance aEY{t:Nat×Nat}{l:List (Nat×Nat)}:CK (t::l) 0 t:=⟨rfl⟩
instance aGf{t u:Nat×Nat}{l:List (Nat×Nat)}{k:Nat}[h:CK l k t]:CK (u::l) (k+1) t:=⟨Bh⟩
class Du (pl:List (Nat×Nat)) (zc:List aO) (us:List (Nat×AT)) (r:outParam (List aO)):Prop where h:nK (pl.toArray[·]?) zc us=some r
instance Z6{pl:List (Nat×Nat)}{zc:List aO}:Du pl zc [] zc:=⟨rfl⟩
instance aF3{pl:List (Nat×Nat)}{zc c1 r ds:List aO}{i off z:Nat}{t:AT}{us:List (Nat×AT)}[h1:CK pl i (off,z)][h2:se t ds][h3:xN zc off ds z c1][h4:Du pl c1 us r]:Du pl zc ((i,t)::us) r:=⟨by
 have aj:=h1.h;have e:pl.toArray[i]?=some (off,z):=by rw [Gs];exact aj
 rw [nK,e,h2.h];dsimp only;rw [if_pos ⟨h3.h.2.2,h3.h.2.1⟩,h3.h.1];exact h4.h⟩
instance aBc{P:Program}{U T:List Nat}{n:Nat}{s:aJ}{ts:List (Nat×AT)}{E:TypeId}{ps:List (Nat×Operand)}{us:List (Nat×AT)}{pl:List (Nat×Nat)}{zc r:List aO}[h1:Al ts ps us][h2:iZ P E pl zc][h3:Du pl zc us r]:lZ P U (.build E ps.toArray) n T s ts (.agg r):=⟨λo ho=>by
 obtain ⟨fs,i,z,aj,e2,e3,e4,e5⟩:=h2.h;exact y_ i pl ho (h1.h _ _ _) aj e2 e3 e4 e5 h3.h⟩
section
variable {P:Program}{U T:List Nat}{n:Nat}{s:aJ}{ts:List (Nat×AT)}{t u:AT}{Q:Exit -> AS -> Prop}{g:Prop}{K:AS -> Prop}{st:AS}{N:Nat}
instance aAd{x y:Code}[h:dq N (br P x st (lX (λs=>br P y s Q) Q)) g]:dq (N+1) (br P (.seq x y) st Q) g:=⟨λk=>zy (h.out k)⟩
instance aDC{id:Nat}{l:List Oper}[h:dq N (cO P l.toArray l st Q) g]:dq (N+1) (br P (.region id l.toArray false) st Q) g:=⟨λk=>P6 (h.out k)⟩
instance aDi{id:Nat}{c:Code}[h:dq N (br P c st (rI id Q)) g]:dq (N+1) (br P (.block id c) st Q) g:=⟨λk=>Wc (h.out k)⟩
instance aCp{id:Nat}[h:dq N (Q (.exit id) st) g]:dq (N+1) (br P (.exit id) st Q) g:=⟨λk=>SH (h.out k)⟩
instance aC8[h:dq N (Q .ret st) g]:dq (N+1) (br P .ret st Q) g:=⟨λk=>Ss (h.out k)⟩
instance aA2[h:dq N (Q .normal st) g]:dq (N+1) (br P .skip st Q) g:=⟨λk=>Va (h.out k)⟩
instance Y5{c:Operand}{x y:Code}[hc:gQ ts c (bC true)][h:dq N (br P x ⟨n,T,s,ts⟩ Q) g]:dq (N+1) (br P (.cond c x y) ⟨n,T,s,ts⟩ Q) g:=⟨λk=>rf (hc.h _ _ _) rfl (h.out k)⟩
instance Zw{c:Operand}{x y:Code}[hc:gQ ts c (bC false)][h:dq N (br P y ⟨n,T,s,ts⟩ Q) g]:dq (N+1) (br P (.cond c x y) ⟨n,T,s,ts⟩ Q) g:=⟨λk=>Sw (hc.h _ _ _) rfl (h.out k)⟩
instance aDl[h:dq N (K st) g]:dq (N+1) (lX K Q .normal st) g:=⟨λk=>h.out k⟩
instance Zq[h:dq N (Q .ret st) g]:dq (N+1) (lX K Q .ret st) g:=⟨λk=>h.out k⟩
instance aEw{id:Nat}[h:dq N (Q (.exit id) st) g]:dq (N+1) (lX K Q (.exit id) st) g:=⟨λk=>h.out k⟩
instance Y6{id:Nat}[h:dq N (Q .normal st) g]:dq (N+1) (rI id Q .normal st) g:=⟨λk=>h.out k⟩
instance aBx{id:Nat}[h:dq N (Q .ret st) g]:dq (N+1) (rI id Q .ret st) g:=⟨λk=>h.out k⟩
instance (priority:=1100) g_inE{id:Nat}[h:dq N (Q .normal st) g]:dq (N+1) (rI id Q (.exit id) st) g:=⟨λk=>W5 (h.out k)⟩
instance aGY{id id':Nat}[hn:AX id' id][h:dq N (Q (.exit id') st) g]:dq (N+1) (rI id Q (.exit id') st) g:=⟨λk=>TE hn.h (h.out k)⟩
instance aFU{ops:Array Oper}[h:dq N (Q .normal st) g]:dq (N+1) (cO P ops [] st Q) g:=⟨λk=>JW (h.out k)⟩
instance aBr{l0 l:List Oper}{d:Nat}{op:Op}{ty:TypeId}{pos:String}{af:Array Edge}{gd:Option (Nat×Bool)}{r:Bool}[h1:wj l0 ts gd r][h2:Dx r P [] op n T s ts t][h3:pg d n][h:dq N (cO P l0.toArray l ⟨n,T,s,(d,t)::ts⟩ Q) g]:dq (N+1) (cO P l0.toArray (⟨some d,op,ty,pos,af,gd⟩::l) ⟨n,T,s,ts⟩ Q) g:=⟨λk=>by
 cases r with
 |true=>exact B' (h1.h _ _ _ _ rfl) rfl h3.h (h2.h.1 rfl _ rfl) (h.out k)
 |false=>obtain rfl:=h2.h.2 rfl;exact Sz (h1.h _ _ _ _ rfl) rfl h3.h (h.out k)⟩
instance aCi{l0 l:List Oper}{d:Nat}{E:TypeId}{ty:TypeId}{pos:String}{af:Array Edge}{cs:List aO}{bx:List aV}{rw:List aP}{G:Nat -> Prop}[h1:dy P E cs][h3:pg d n][h:∀b,dq N (cO P l0.toArray l ⟨n,b::T,⟨⟨b,E,cs⟩::bx,rw⟩,(d,aF b)::ts⟩ Q) (G b)]:dq (N+1) (cO P l0.toArray (⟨some d,.alloc E,ty,pos,af,none⟩::l) ⟨n,T,⟨bx,rw⟩,ts⟩ Q) (∀b,G b):=⟨λk=>by
 obtain ⟨z,aj,e2⟩:=h1.h;exact aX J (jm J J h3.h aj e2 λb=>(h b).out (k b))⟩
instance Zm{l0 l:List Oper}{d:Nat}{E:TypeId}{x:Operand}{ty:TypeId}{pos:String}{af:Array Edge}{cs:List aO}{bx:List aV}{rw:List aP}{G:Nat -> Prop}[h1:gQ ts x t][h2:se t cs][h3:pg d n][h:∀b,dq N (cO P l0.toArray l ⟨n,b::T,⟨⟨b,E,cs⟩::bx,rw⟩,(d,aF b)::ts⟩ Q) (G b)]:dq (N+1) (cO P l0.toArray (⟨some d,.box E x,ty,pos,af,none⟩::l) ⟨n,T,⟨bx,rw⟩,ts⟩ Q) (∀b,G b):=⟨λk=>aX rfl (Mc rfl rfl h3.h (h1.h _ _ _) h2.h λb=>(h b).out (k b))⟩
instance aGK{l0 l:List Oper}{E T0:TypeId}{x y:Operand}{ty:TypeId}{pos:String}{af:Array Edge}{gd:Option (Nat×Bool)}{b off z:Nat}{cs ds r:List aO}{ag:Bool}{bx A B:List aV}{rw:List aP}[h0:wj l0 ts gd true][h1:gQ ts x (av (.pointer (some ⟨b,off,none⟩)))][h2:gQ ts y t][h3:se t ds][h4:ly bx b A T0 cs B][h5:cy P E ag z][h6:xN cs off ds z r]{bx2:List aV}[h7:xw bx rw T T b][h8:rS A (⟨b,T0,r⟩::B) bx2][h:dq N (cO P l0.toArray l ⟨n,T,⟨bx2,rw⟩,ts⟩ Q) g]:dq (N+1) (cO P l0.toArray (⟨none,.store E x y,ty,pos,af,gd⟩::l) ⟨n,T,⟨bx,rw⟩,ts⟩ Q) g:=⟨λk=>
 aX (h0.h _ _ _ _ rfl) (Az A rfl rfl (h1.h _ _ _) (h2.h _ _ _) h3.h h4.h h5.h.2 h6.h.2.2 h6.h.2.1 h6.h.1 h7.h.1 h7.h.2 FT)⟩
end
def mX(P:Program)(ops:Array Oper)(Z:List Nat):List (Nat×Bool) -> AS -> (AS -> Prop) -> Prop
 |[],st,K=>K st
 |(i,true)::r,st,K=>∃o d,ops.toList[i]?=some o /\ o.dst=some d /\ d<st.n /\ ((∃t,eJ ops o st=some true /\ co P (fe st.s Z) o st t /\ mX P ops Z r {st with ts:=(d,t)::st.ts} K)∨(eJ ops o st=some false /\ mX P ops Z r {st with ts:=(d,.raw undef)::st.ts} K))
 |(i,false)::r,st,K=>∃o,ops.toList[i]?=some o /\ eJ ops o st=some true /\ dZ P (fe st.s Z) o st λs=>mX P ops Z r s K
def sP(ops:Array Oper):Array Bool -> List (Nat×Bool) -> Bool
 |_,[]=>true
 |L,(i,true)::r=>(Region.ready .any ops L).contains i && Region.free .any ops L i && sP ops (L.setIfInBounds i true) r
 |L,(i,false)::r=>decide (Region.ready .any ops L=[i]) && sP ops (L.setIfInBounds i true) r
def yx:Array Bool -> List (Nat×Bool) -> Array Bool
 |L,[]=>L
 |L,(i,_)::r=>yx (L.setIfInBounds i true) r
def CW{P:Program}{ops:Array Oper}{Z:List Nat}{Q:AS -> Prop}(hsel:Region.noSelect ops=true)(F:Nat):∀(run:List (Nat×Bool)) (listed:Array Bool) (st:AS),sP ops listed run=true -> mX P ops Z run st (λst'=>dr P ops Z F (yx listed run) st' Q) -> dr P ops Z (F+run.length) listed st Q
 |[],_,_,_,h=>h
 |(i,true)::r,listed,st,hc,h=>by
  simp only [sP,di] at hc;obtain ⟨o,d,h1,h2,h3,h4⟩:=h;rcases h4 with ⟨t,h5,h6,h7⟩|⟨h5,h7⟩
  ·exact PV i hc.1.1 h1 hc.1.2 hsel h5 h2 h3 h6 (CW hsel F r _ _ hc.2 h7)
  ·exact Wn i hc.1.1 h1 hc.1.2 hsel h5 h2 h3 (CW hsel F r _ _ hc.2 h7)
 |(i,false)::r,listed,st,hc,h=>by
  simp only [sP,di,decide_eq_true_eq] at hc;obtain ⟨o,h1,h2,h3⟩:=h;refine B4 hc.1 J (vA h1 h2 (λa w hs KK QQ hK=>h3 a w hs KK QQ λa' w' st' q=>hK a' w' st' (CW hsel F r _ _ hc.2 q)) Bd)
def K1{P:Program}{ops:Array Oper}{Z:List Nat}{Q:AS -> Prop}{st:AS}{F0:Nat}{listed:Array Bool}(run:List (Nat×Bool))(F:Nat)(hc:(sP ops listed run && Region.noSelect ops && F0 == F+run.length)=true)(h:mX P ops Z run st (λst'=>dr P ops Z F (yx listed run) st' Q)):dr P ops Z F0 listed st Q:=by
 simp only [di,beq_iff_eq] at hc;rw [hc.2];exact CW hc.1.2 F run listed st hc.1.1 h
class vh (l:List Oper) (i:Nat) (d:outParam (Option Nat)) (op:outParam Op) (gd:outParam (Option (Nat×Bool))):Prop where h:∃o:Oper,l[i]?=some o /\ o.dst=d /\ o.op=op /\ o.guard=gd
instance aF6{d:Option Nat}{op:Op}{ty:TypeId}{pos:String}{af:Array Edge}{gd:Option (Nat×Bool)}{l:List Oper}:vh (⟨d,op,ty,pos,af,gd⟩::l) 0 d op gd:=⟨_,rfl,rfl,rfl,rfl⟩
instance Z4{d:Option Nat}{op:Op}{gd:Option (Nat×Bool)}{l:List Oper}{o:Oper}{i:Nat}[h:vh l i d op gd]:vh (o::l) (i+1) d op gd:=⟨Bh⟩
section
variable {P:Program}{Z T:List Nat}{n:Nat}{s:aJ}{ts:List (Nat×AT)}{t u:AT}{g:Prop}{K:AS -> Prop}{st:AS}{N:Nat}{bx A B:List aV}{rw:List aP}{l0:List Oper}{i:Nat}{run:List (Nat×Bool)}{gd:Option (Nat×Bool)}
instance aBu{ops:Array Oper}[h:dq N (K st) g]:dq (N+1) (mX P ops Z [] st K) g:=⟨λk=>h.out k⟩
instance aCA{d:Nat}{op:Op}{r:Bool}[h0:vh l0 i (some d) op gd][h1:wj l0 ts gd r][h2:Dx r P (fe s Z) op n T s ts t][h3:pg d n][h:dq N (mX P l0.toArray Z run ⟨n,T,s,(d,t)::ts⟩ K) g]:dq (N+1) (mX P l0.toArray Z ((i,true)::run) ⟨n,T,s,ts⟩ K) g:=⟨λk=>by
 obtain ⟨o,aj,e2,e3,e4⟩:=h0.h;refine ⟨o,d,Dn,e2,h3.h,?_⟩;cases r with
 |true=>exact .inl ⟨t,h1.h _ _ _ o e4,h2.h.1 rfl o e3,h.out k⟩
 |false=>obtain rfl:=h2.h.2 rfl;exact .inr ⟨h1.h _ _ _ o e4,h.out k⟩⟩
instance aE7{E T0:TypeId}{x y:Operand}{b off z:Nat}{cs ds r:List aO}{ag:Bool}[hi:vh l0 i none (.store E x y) gd][h0:wj l0 ts gd true][h1:gQ ts x (av (.pointer (some ⟨b,off,none⟩)))][h2:gQ ts y t][h3:se t ds][h4:ly bx b A T0 cs B][h5:cy P E ag z][h6:xN cs off ds z r]{bx2:List aV}[h7:xw bx rw T (fe ⟨bx,rw⟩ Z) b][h8:rS A (⟨b,T0,r⟩::B) bx2][h:dq N (mX P l0.toArray Z run ⟨n,T,⟨bx2,rw⟩,ts⟩ K) g]:dq (N+1) (mX P l0.toArray Z ((i,false)::run) ⟨n,T,⟨bx,rw⟩,ts⟩ K) g:=⟨λk=>by
 obtain ⟨o,aj,e2,e3,e4⟩:=hi.h;exact ⟨o,Dn,h0.h _ _ _ o e4,Az A e3 e2 (h1.h _ _ _) (h2.h _ _ _) h3.h h4.h h5.h.2 h6.h.2.2 h6.h.2.1 h6.h.1 h7.h.1 h7.h.2 FT⟩⟩
instance aAL{d:Nat}{E:TypeId}{cs:List aO}{G:Nat -> Prop}[hi:vh l0 i (some d) (.alloc E) none][h1:dy P E cs][h3:pg d n][h:∀b,dq N (mX P l0.toArray Z run ⟨n,b::T,⟨⟨b,E,cs⟩::bx,rw⟩,(d,aF b)::ts⟩ K) (G b)]:dq (N+1) (mX P l0.toArray Z ((i,false)::run) ⟨n,T,⟨bx,rw⟩,ts⟩ K) (∀b,G b):=⟨λk=>by
 obtain ⟨o,aj,e2,e3,e4⟩:=hi.h;obtain ⟨z,z1,z2⟩:=h1.h;exact ⟨o,Dn,by unfold eJ;rw [e4],jm e3 e2 h3.h z1 z2 λb=>(h b).out (k b)⟩⟩
instance Yq{d:Nat}{E:TypeId}{x:Operand}{cs:List aO}{G:Nat -> Prop}[hi:vh l0 i (some d) (.box E x) none][h1:gQ ts x t][h2:se t cs][h3:pg d n][h:∀b,dq N (mX P l0.toArray Z run ⟨n,b::T,⟨⟨b,E,cs⟩::bx,rw⟩,(d,aF b)::ts⟩ K) (G b)]:dq (N+1) (mX P l0.toArray Z ((i,false)::run) ⟨n,T,⟨bx,rw⟩,ts⟩ K) (∀b,G b):=⟨λk=>by
 obtain ⟨o,aj,e2,e3,e4⟩:=hi.h;exact ⟨o,Dn,by unfold eJ;rw [e4],Mc e3 e2 h3.h (h1.h _ _ _) h2.h λb=>(h b).out (k b)⟩⟩
end
end
section
open Go.RowKit
instance aB5:cy prog 2 false 1:=⟨isAgg2,sizeOf2⟩
instance aBi:dy prog 2 [aA 0]:=⟨_,zeroValue2,rfl⟩
instance aCG:cy prog 3 false 1:=⟨isAgg3,kx⟩
instance aD2:dy prog 3 [aA 0]:=⟨_,qw,rfl⟩
instance aFK:cy prog 4 false 1:=⟨dH,dG⟩
instance ZN:dy prog 4 [bG false]:=⟨_,zeroValue4,rfl⟩
instance aC9:cy prog 5 false 1:=⟨isAgg5,sizeOf5⟩
instance aC7:dy prog 5 [.val (.int .u8 0)]:=⟨_,zeroValue5,rfl⟩
instance aFa:cy prog 9 false 1:=⟨rH,iK⟩
instance aAv:QM prog 9:=⟨runUnderlying9⟩
instance aDh:dy prog 9 [ah ⟨#[]⟩]:=⟨_,zeroValue9,rfl⟩
instance aBO:cy prog 12 false 1:=⟨isAgg12,sizeOf12⟩
instance aB3:dy prog 12 [.val (.int .u64 0)]:=⟨_,zeroValue12,rfl⟩
instance Zp:cy prog 19 true 1:=⟨isAgg19,sizeOf19⟩
instance aCU:cZ prog 19 0 0 17:=⟨_,runUnderlying19,rfl⟩
instance aDu:dy prog 19 [.val (.pointer none)]:=⟨_,zeroValue19,rfl⟩
instance aGk:iZ prog 19 [(0,1)] [.val (.pointer none)]:=⟨_,Tryz.t19,_,underlying19,aQ,rfl,aQ,rfl⟩
instance aBg:cy prog 21 false 1:=⟨isAgg21,sizeOf21⟩
instance aAB:dy prog 21 [.val (.int .i32 0)]:=⟨_,zeroValue21,rfl⟩
instance aEA:cy prog 22 false 1:=⟨isAgg22,sizeOf22⟩
instance aF5:mC prog 22 3:=⟨wq⟩
instance aBS:dy prog 22 [aK]:=⟨_,zeroValue22,rfl⟩
instance aA3:cy prog 23 false 1:=⟨oe,oX⟩
instance aDZ:mC prog 23 63:=⟨mt⟩
instance aAK:dy prog 23 [aK]:=⟨_,zeroValue23,rfl⟩
instance Yp:cy prog 24 false 1:=⟨j_,j8⟩
instance aEK:mC prog 24 60:=⟨mS⟩
instance ZD:dy prog 24 [aK]:=⟨_,zeroValue24,rfl⟩
instance aFu:cy prog 25 false 1:=⟨mo,m7⟩
instance aDW:mC prog 25 67:=⟨fU⟩
instance aEf:dy prog 25 [aK]:=⟨_,zeroValue25,rfl⟩
instance aFC:cy prog 27 true 3:=⟨oK,oA⟩
instance aFm:cZ prog 27 0 0 23:=⟨_,H5,rfl⟩
instance aAM:cZ prog 27 1 1 24:=⟨_,H5,rfl⟩
instance aES:cZ prog 27 2 2 25:=⟨_,H5,rfl⟩
instance aA5:dy prog 27 [aK,aK,aK]:=⟨_,zeroValue27,rfl⟩
instance aGQ:iZ prog 27 [(0,1),(1,1),(2,1)] [aK,aK,aK]:=⟨_,Tryz.t27,_,underlying27,aQ,rfl,aQ,rfl⟩
instance aCl:cy prog 29 false 1:=⟨isAgg29,sizeOf29⟩
instance aFP:mC prog 29 79:=⟨GP⟩
instance aBe:dy prog 29 [aK]:=⟨_,zeroValue29,rfl⟩
instance Y9:cy prog 31 true 4:=⟨q_,qD⟩
instance aFR:cZ prog 31 0 0 22:=⟨_,Ci,rfl⟩
instance Z':cZ prog 31 1 1 24:=⟨_,Ci,rfl⟩
instance aCR:cZ prog 31 2 2 29:=⟨_,Ci,rfl⟩
instance Y':cZ prog 31 3 3 3:=⟨_,Ci,rfl⟩
instance ZC:dy prog 31 [aK,aK,aK,aA 0]:=⟨_,Bs,rfl⟩
instance Zk:iZ prog 31 [(0,1),(1,1),(2,1),(3,1)] [aK,aK,aK,aA 0]:=⟨_,Tryz.t31,_,underlying31,aQ,rfl,aQ,rfl⟩
instance aAi:cy prog 32 false 1:=⟨isAgg32,sizeOf32⟩
instance aAq:dy prog 32 [aA 0]:=⟨_,zeroValue32,rfl⟩
instance aBB:cy prog 48 false 1:=⟨isAgg48,sizeOf48⟩
instance aGl:dy prog 48 [.val (.int .u64 0)]:=⟨_,zeroValue48,rfl⟩
instance aFk:cy prog 50 false 1:=⟨isAgg50,sizeOf50⟩
instance aGC:cy prog 51 false 1:=⟨isAgg51,sizeOf51⟩
instance aCt:cy prog 54 true 2:=⟨isAgg54,sizeOf54⟩
instance aDg:cZ prog 54 0 0 22:=⟨_,runUnderlying54,rfl⟩
instance aBI:cZ prog 54 1 1 3:=⟨_,runUnderlying54,rfl⟩
instance aFp:dy prog 54 [aK,aA 0]:=⟨_,zeroValue54,rfl⟩
instance aAx:iZ prog 54 [(0,1),(1,1)] [aK,aA 0]:=⟨_,Tryz.t54,_,underlying54,aQ,rfl,aQ,rfl⟩
instance aB0:cy prog 56 true 6:=⟨isAgg56,sizeOf56⟩
instance aF0:cZ prog 56 0 0 51:=⟨_,Cp,rfl⟩
instance aFs:cZ prog 56 1 1 27:=⟨_,Cp,rfl⟩
instance Zs:cZ prog 56 2 4 3:=⟨_,Cp,rfl⟩
instance aFF:cZ prog 56 3 5 4:=⟨_,Cp,rfl⟩
instance aD8:dy prog 56 [.val (.pointer none),aK,aK,aK,aA 0,bG false]:=⟨_,zeroValue56,rfl⟩
instance aGg:iZ prog 56 [(0,1),(1,3),(4,1),(5,1)] [.val (.pointer none),aK,aK,aK,aA 0,bG false]:=⟨_,Tryz.t56,_,underlying56,aQ,rfl,aQ,rfl⟩
instance aFf:cy prog 58 false 1:=⟨isAgg58,sizeOf58⟩
instance aCe:mC prog 58 5:=⟨runUnderlying58⟩
instance aEC:dy prog 58 [aK]:=⟨_,zeroValue58,rfl⟩
instance aDm:cy prog 60 true 3:=⟨uz,gq⟩
instance aBZ:cZ prog 60 0 0 9:=⟨_,Gr,rfl⟩
instance aAn:cZ prog 60 1 1 4:=⟨_,Gr,rfl⟩
instance aGD:cZ prog 60 2 2 3:=⟨_,Gr,rfl⟩
instance aDn:dy prog 60 [ah ⟨#[]⟩,bG false,aA 0]:=⟨_,zeroValue60,rfl⟩
instance aAc:iZ prog 60 [(0,1),(1,1),(2,1)] [ah ⟨#[]⟩,bG false,aA 0]:=⟨_,Tryz.t60,_,underlying60,aQ,rfl,aQ,rfl⟩
instance aEz:cy prog 61 false 1:=⟨isAgg61,sizeOf61⟩
instance aDo:mC prog 61 9:=⟨kP⟩
instance aBF:dy prog 61 [aK]:=⟨_,zeroValue61,rfl⟩
instance aAR:cy prog 63 true 2:=⟨isAgg63,jX⟩
instance aBJ:cZ prog 63 0 0 9:=⟨_,runUnderlying63,rfl⟩
instance aCP:cZ prog 63 1 1 3:=⟨_,runUnderlying63,rfl⟩
instance aBR:dy prog 63 [ah ⟨#[]⟩,aA 0]:=⟨_,Aq,rfl⟩
instance aF9:iZ prog 63 [(0,1),(1,1)] [ah ⟨#[]⟩,aA 0]:=⟨_,Tryz.t63,_,underlying63,aQ,rfl,aQ,rfl⟩
instance aCj:cy prog 64 false 1:=⟨tQ,mN⟩
instance aCH:mC prog 64 69:=⟨iO⟩
instance aEO:dy prog 64 [aK]:=⟨_,zeroValue64,rfl⟩
instance aEi:cy prog 65 false 1:=⟨sX,iV⟩
instance aA1:mC prog 65 120:=⟨jw⟩
instance aDN:dy prog 65 [aK]:=⟨_,zeroValue65,rfl⟩
instance aCa:cy prog 67 true 3:=⟨oP,dn⟩
instance aCI:cZ prog 67 0 0 9:=⟨_,nE,rfl⟩
instance aCM:cZ prog 67 1 1 64:=⟨_,nE,rfl⟩
instance aFN:cZ prog 67 2 2 65:=⟨_,nE,rfl⟩
instance aEW:dy prog 67 [ah ⟨#[]⟩,aK,aK]:=⟨_,sQ,rfl⟩
instance aBU:iZ prog 67 [(0,1),(1,1),(2,1)] [ah ⟨#[]⟩,aK,aK]:=⟨_,Tryz.t67,_,underlying67,aQ,rfl,aQ,rfl⟩
instance aCV:cy prog 69 true 2:=⟨isAgg69,gj⟩
instance Yz:cZ prog 69 0 0 9:=⟨_,runUnderlying69,rfl⟩
instance aCn:cZ prog 69 1 1 4:=⟨_,runUnderlying69,rfl⟩
instance aF4:dy prog 69 [ah ⟨#[]⟩,bG false]:=⟨_,Ch,rfl⟩
instance aAX:iZ prog 69 [(0,1),(1,1)] [ah ⟨#[]⟩,bG false]:=⟨_,Tryz.t69,_,underlying69,aQ,rfl,aQ,rfl⟩
instance aBH:cy prog 71 false 1:=⟨isAgg71,sizeOf71⟩
instance aB4:cy prog 74 false 1:=⟨isAgg74,sizeOf74⟩
instance ZT:cy prog 75 false 1:=⟨isAgg75,sizeOf75⟩
instance aAD:mC prog 75 92:=⟨kh⟩
instance aFQ:dy prog 75 [aK]:=⟨_,zeroValue75,rfl⟩
instance aEq:cy prog 77 true 9:=⟨isAgg77,sizeOf77⟩
instance ZR:cZ prog 77 0 0 74:=⟨_,qv,rfl⟩
instance aEb:cZ prog 77 1 1 74:=⟨_,qv,rfl⟩
instance aDE:cZ prog 77 2 2 74:=⟨_,qv,rfl⟩
instance aFw:cZ prog 77 3 3 74:=⟨_,qv,rfl⟩
instance aCr:cZ prog 77 4 4 74:=⟨_,qv,rfl⟩
instance aDF:cZ prog 77 5 5 3:=⟨_,qv,rfl⟩
instance aDf:cZ prog 77 6 6 75:=⟨_,qv,rfl⟩
instance aEo:cZ prog 77 7 7 22:=⟨_,qv,rfl⟩
instance aEk:cZ prog 77 8 8 3:=⟨_,qv,rfl⟩
instance ZL:cy prog 79 true 5:=⟨isAgg79,uT⟩
instance aDa:cZ prog 79 0 0 9:=⟨_,AF,rfl⟩
instance Yv:cZ prog 79 1 1 3:=⟨_,AF,rfl⟩
instance aAj:cZ prog 79 2 2 3:=⟨_,AF,rfl⟩
instance aCQ:cZ prog 79 3 3 3:=⟨_,AF,rfl⟩
instance aCu:cZ prog 79 4 4 75:=⟨_,AF,rfl⟩
instance aBw:dy prog 79 [ah ⟨#[]⟩,aA 0,aA 0,aA 0,aK]:=⟨_,AZ,rfl⟩
instance aBL:iZ prog 79 [(0,1),(1,1),(2,1),(3,1),(4,1)] [ah ⟨#[]⟩,aA 0,aA 0,aA 0,aK]:=⟨_,Tryz.t79,_,underlying79,aQ,rfl,aQ,rfl⟩
instance aDH:cy prog 85 false 1:=⟨isAgg85,sizeOf85⟩
instance aAs:mC prog 85 87:=⟨jY⟩
instance aGm:dy prog 85 [aK]:=⟨_,zeroValue85,rfl⟩
instance aD7:cy prog 87 true 4:=⟨f8,dw⟩
instance aBy:cZ prog 87 0 0 3:=⟨_,Dd,rfl⟩
instance aAT:cZ prog 87 1 1 3:=⟨_,Dd,rfl⟩
instance Z_:cZ prog 87 2 2 9:=⟨_,Dd,rfl⟩
instance aGd:cZ prog 87 3 3 85:=⟨_,Dd,rfl⟩
instance aDD:dy prog 87 [aA 0,aA 0,ah ⟨#[]⟩,aK]:=⟨_,zeroValue87,rfl⟩
instance Zx:iZ prog 87 [(0,1),(1,1),(2,1),(3,1)] [aA 0,aA 0,ah ⟨#[]⟩,aK]:=⟨_,Tryz.t87,_,underlying87,aQ,rfl,aQ,rfl⟩
instance Y3:cy prog 89 true 3:=⟨isAgg89,sizeOf89⟩
instance aCs:cZ prog 89 0 0 4:=⟨_,Gl,rfl⟩
instance aD4:cZ prog 89 1 1 3:=⟨_,Gl,rfl⟩
instance aEn:cZ prog 89 2 2 85:=⟨_,Gl,rfl⟩
instance aDr:dy prog 89 [bG false,aA 0,aK]:=⟨_,zeroValue89,rfl⟩
instance aEQ:iZ prog 89 [(0,1),(1,1),(2,1)] [bG false,aA 0,aK]:=⟨_,Tryz.t89,_,underlying89,aQ,rfl,aQ,rfl⟩
instance aAo:cy prog 90 false 1:=⟨isAgg90,sizeOf90⟩
instance aEe:mC prog 90 89:=⟨runUnderlying90⟩
instance ZK:dy prog 90 [aK]:=⟨_,zeroValue90,rfl⟩
instance aGV:cy prog 92 true 12:=⟨rK,j7⟩
instance aFB:cZ prog 92 0 0 3:=⟨_,oT,rfl⟩
instance aFT:cZ prog 92 1 1 3:=⟨_,oT,rfl⟩
instance aFn:cZ prog 92 2 2 4:=⟨_,oT,rfl⟩
instance aAb:cZ prog 92 3 3 87:=⟨_,oT,rfl⟩
instance aC5:cZ prog 92 4 7 89:=⟨_,oT,rfl⟩
instance aBC:cZ prog 92 5 10 85:=⟨_,oT,rfl⟩
instance ZG:cZ prog 92 6 11 90:=⟨_,oT,rfl⟩
instance aDJ:dy prog 92 [aA 0,aA 0,bG false,aA 0,aA 0,ah ⟨#[]⟩,aK,bG false,aA 0,aK,aK,aK]:=⟨_,zeroValue92,rfl⟩
instance aFE:iZ prog 92 [(0,1),(1,1),(2,1),(3,4),(7,3),(10,1),(11,1)] [aA 0,aA 0,bG false,aA 0,aA 0,ah ⟨#[]⟩,aK,bG false,aA 0,aK,aK,aK]:=⟨_,Tryz.t92,_,underlying92,aQ,rfl,aQ,rfl⟩
instance aBV:cy prog 94 false 1:=⟨isAgg94,sizeOf94⟩
instance ZM:cy prog 95 false 1:=⟨isAgg95,sizeOf95⟩
instance Z3:cy prog 96 false 1:=⟨isAgg96,sizeOf96⟩
instance aEM:cy prog 98 true 7:=⟨isAgg98,sizeOf98⟩
instance Zy:cZ prog 98 0 0 27:=⟨_,yh,rfl⟩
instance aCB:cZ prog 98 1 3 95:=⟨_,yh,rfl⟩
instance aBt:cZ prog 98 2 4 96:=⟨_,yh,rfl⟩
instance aEB:cZ prog 98 3 5 3:=⟨_,yh,rfl⟩
instance aGo:cZ prog 98 4 6 3:=⟨_,yh,rfl⟩
instance Zf:cy prog 107 false 1:=⟨isAgg107,sizeOf107⟩
instance aCc:mC prog 107 111:=⟨wu⟩
instance aCE:dy prog 107 [aK]:=⟨_,zeroValue107,rfl⟩
instance aFJ:cy prog 111 true 3:=⟨qd,lw⟩
instance aFh:cZ prog 111 0 0 9:=⟨_,A4,rfl⟩
instance Z8:cZ prog 111 1 1 3:=⟨_,A4,rfl⟩
instance ZJ:cZ prog 111 2 2 3:=⟨_,A4,rfl⟩
instance Yw:dy prog 111 [ah ⟨#[]⟩,aA 0,aA 0]:=⟨_,yL,rfl⟩
instance Zn:iZ prog 111 [(0,1),(1,1),(2,1)] [ah ⟨#[]⟩,aA 0,aA 0]:=⟨_,Tryz.t111,_,underlying111,aQ,rfl,aQ,rfl⟩
instance aGF:cy prog 117 true 2:=⟨wF,xM⟩
instance aEl:cZ prog 117 0 0 9:=⟨_,runUnderlying117,rfl⟩
instance aDQ:cZ prog 117 1 1 85:=⟨_,runUnderlying117,rfl⟩
instance Zu:dy prog 117 [ah ⟨#[]⟩,aK]:=⟨_,zeroValue117,rfl⟩
instance aAm:iZ prog 117 [(0,1),(1,1)] [ah ⟨#[]⟩,aK]:=⟨_,Tryz.t117,_,underlying117,aQ,rfl,aQ,rfl⟩
instance aBo:cy prog 118 false 1:=⟨isAgg118,sizeOf118⟩
instance aBp:mC prog 118 135:=⟨lH⟩
instance Y_:dy prog 118 [aK]:=⟨_,zeroValue118,rfl⟩
instance aC4:cy prog 120 true 11:=⟨gX,d7⟩
instance aAH:cZ prog 120 0 0 3:=⟨_,mm,rfl⟩
instance Zg:cZ prog 120 1 1 9:=⟨_,mm,rfl⟩
instance Ze:cZ prog 120 2 2 87:=⟨_,mm,rfl⟩
instance Y7:cZ prog 120 3 6 117:=⟨_,mm,rfl⟩
instance aEI:cZ prog 120 4 8 118:=⟨_,mm,rfl⟩
instance aAp:cZ prog 120 5 9 65:=⟨_,mm,rfl⟩
instance aBM:cZ prog 120 6 10 65:=⟨_,mm,rfl⟩
instance aGj:dy prog 120 [aA 0,ah ⟨#[]⟩,aA 0,aA 0,ah ⟨#[]⟩,aK,ah ⟨#[]⟩,aK,aK,aK,aK]:=⟨_,zeroValue120,rfl⟩
instance aBa:iZ prog 120 [(0,1),(1,1),(2,4),(6,2),(8,1),(9,1),(10,1)] [aA 0,ah ⟨#[]⟩,aA 0,aA 0,ah ⟨#[]⟩,aK,ah ⟨#[]⟩,aK,aK,aK,aK]:=⟨_,Tryz.t120,_,underlying120,aQ,rfl,aQ,rfl⟩
instance aBY:cy prog 135 true 7:=⟨isAgg135,jy⟩
instance aA0:cZ prog 135 0 0 4:=⟨_,G4,rfl⟩
instance aCZ:cZ prog 135 1 1 117:=⟨_,G4,rfl⟩
instance aAl:cZ prog 135 2 3 87:=⟨_,G4,rfl⟩
instance aDL:dy prog 135 [bG false,ah ⟨#[]⟩,aK,aA 0,aA 0,ah ⟨#[]⟩,aK]:=⟨_,zeroValue135,rfl⟩
instance aEp:iZ prog 135 [(0,1),(1,2),(3,4)] [bG false,ah ⟨#[]⟩,aK,aA 0,aA 0,ah ⟨#[]⟩,aK]:=⟨_,Tryz.t135,_,underlying135,aQ,rfl,aQ,rfl⟩
instance aAV:cy prog 139 false 1:=⟨isAgg139,sizeOf139⟩
instance Y0:mC prog 139 154:=⟨km⟩
instance aGc:dy prog 139 [aK]:=⟨_,zeroValue139,rfl⟩
instance aEt:cy prog 142 false 1:=⟨isAgg142,sizeOf142⟩
instance aBG:cy prog 144 true 6:=⟨isAgg144,sizeOf144⟩
instance aBs:cZ prog 144 0 0 139:=⟨_,xQ,rfl⟩
instance ZI:cZ prog 144 1 1 3:=⟨_,xQ,rfl⟩
instance aAS:cZ prog 144 2 2 3:=⟨_,xQ,rfl⟩
instance aF7:cZ prog 144 3 3 32:=⟨_,xQ,rfl⟩
instance aBh:cZ prog 144 4 4 3:=⟨_,xQ,rfl⟩
instance aFA:cZ prog 144 5 5 3:=⟨_,xQ,rfl⟩
instance aDG:dy prog 144 [aK,aA 0,aA 0,aA 0,aA 0,aA 0]:=⟨_,zeroValue144,rfl⟩
instance Zb:iZ prog 144 [(0,1),(1,1),(2,1),(3,1),(4,1),(5,1)] [aK,aA 0,aA 0,aA 0,aA 0,aA 0]:=⟨_,Tryz.t144,_,underlying144,aQ,rfl,aQ,rfl⟩
instance aB2:cy prog 154 true 4:=⟨isAgg154,kr⟩
instance aBk:cZ prog 154 0 0 3:=⟨_,A8,rfl⟩
instance aGG:cZ prog 154 1 1 9:=⟨_,A8,rfl⟩
instance aD1:cZ prog 154 2 2 3:=⟨_,A8,rfl⟩
instance aCS:cZ prog 154 3 3 3:=⟨_,A8,rfl⟩
instance aEG:dy prog 154 [aA 0,ah ⟨#[]⟩,aA 0,aA 0]:=⟨_,zeroValue154,rfl⟩
instance Yt:iZ prog 154 [(0,1),(1,1),(2,1),(3,1)] [aA 0,ah ⟨#[]⟩,aA 0,aA 0]:=⟨_,Tryz.t154,_,underlying154,aQ,rfl,aQ,rfl⟩
instance aCk:cy prog 157 false 1:=⟨isAgg157,sizeOf157⟩
instance aB9:dy prog 157 [aA 0]:=⟨_,sO,rfl⟩
instance aGi:cy prog 163 false 1:=⟨isAgg163,sizeOf163⟩
instance aE0:cy prog 165 true 10:=⟨isAgg165,sizeOf165⟩
instance aEV:cZ prog 165 0 0 27:=⟨_,tV,rfl⟩
instance aCW:cZ prog 165 1 3 107:=⟨_,tV,rfl⟩
instance aGN:cZ prog 165 2 4 3:=⟨_,tV,rfl⟩
instance aAQ:cZ prog 165 3 5 3:=⟨_,tV,rfl⟩
instance aE1:cZ prog 165 4 6 3:=⟨_,tV,rfl⟩
instance aA7:cZ prog 165 5 7 32:=⟨_,tV,rfl⟩
instance ZQ:cZ prog 165 6 8 75:=⟨_,tV,rfl⟩
instance aDj:cZ prog 165 7 9 22:=⟨_,tV,rfl⟩
instance aFx:dy prog 165 [aK,aK,aK,aK,aA 0,aA 0,aA 0,aA 0,aK,aK]:=⟨_,zeroValue165,rfl⟩
instance aBA:iZ prog 165 [(0,3),(3,1),(4,1),(5,1),(6,1),(7,1),(8,1),(9,1)] [aK,aK,aK,aK,aA 0,aA 0,aA 0,aA 0,aK,aK]:=⟨_,Tryz.t165,_,underlying165,aQ,rfl,aQ,rfl⟩
instance aAA:cy prog 176 false 1:=⟨isAgg176,sizeOf176⟩
instance aBd:cy prog 177 false 1:=⟨isAgg177,sizeOf177⟩
instance aDV:cy prog 179 true 2:=⟨isAgg179,sizeOf179⟩
instance aFy:cZ prog 179 0 0 177:=⟨_,runUnderlying179,rfl⟩
instance ZS:cZ prog 179 1 1 58:=⟨_,runUnderlying179,rfl⟩
instance aFS:dy prog 179 [.val (.pointer none),aK]:=⟨_,zeroValue179,rfl⟩
instance aGW:iZ prog 179 [(0,1),(1,1)] [.val (.pointer none),aK]:=⟨_,Tryz.t179,_,underlying179,aQ,rfl,aQ,rfl⟩
instance aEF:cy prog 181 true 3:=⟨isAgg181,sizeOf181⟩
instance aCF:cZ prog 181 0 0 179:=⟨_,runUnderlying181,rfl⟩
instance aFt:cZ prog 181 1 2 3:=⟨_,runUnderlying181,rfl⟩
instance aEZ:dy prog 181 [.val (.pointer none),aK,aA 0]:=⟨_,zeroValue181,rfl⟩
instance aFc:iZ prog 181 [(0,2),(2,1)] [.val (.pointer none),aK,aA 0]:=⟨_,Tryz.t181,_,underlying181,aQ,rfl,aQ,rfl⟩
instance aAY:cy prog 206 false 1:=⟨isAgg206,sizeOf206⟩
instance aFl:cy prog 215 false 1:=⟨isAgg215,sizeOf215⟩
instance ZB:dy prog 215 [.val (.int .u64 0)]:=⟨_,zeroValue215,rfl⟩
instance aDe:cy prog 229 false 1:=⟨isAgg229,sizeOf229⟩
instance aAu:cy prog 238 true 6:=⟨pa,pe⟩
instance aGJ:cZ prog 238 0 0 4:=⟨_,vj,rfl⟩
instance aEa:cZ prog 238 1 1 4:=⟨_,vj,rfl⟩
instance Z5:cZ prog 238 2 2 4:=⟨_,vj,rfl⟩
instance aA8:cZ prog 238 3 3 4:=⟨_,vj,rfl⟩
instance aGB:cZ prog 238 4 4 4:=⟨_,vj,rfl⟩
instance aA9:cZ prog 238 5 5 4:=⟨_,vj,rfl⟩
instance aAP:dy prog 238 [bG false,bG false,bG false,bG false,bG false,bG false]:=⟨_,zeroValue238,rfl⟩
instance aAt:iZ prog 238 [(0,1),(1,1),(2,1),(3,1),(4,1),(5,1)] [bG false,bG false,bG false,bG false,bG false,bG false]:=⟨_,Tryz.t238,_,underlying238,aQ,rfl,aQ,rfl⟩
instance aCv:cy prog 250 true 24:=⟨isAgg250,sizeOf250⟩
instance Zo:cy prog 257 true 11:=⟨isAgg257,sizeOf257⟩
instance aAF:cy prog 261 true 20:=⟨isAgg261,sizeOf261⟩
instance aF1:cy prog 262 false 1:=⟨isAgg262,sizeOf262⟩
instance aCT:dy prog 262 [.val (.int .u32 0)]:=⟨_,zeroValue262,rfl⟩
instance aEh:cy prog 263 true 65:=⟨isAgg263,sizeOf263⟩
instance aDp:cy prog 266 true 18:=⟨isAgg266,sizeOf266⟩
instance ZF:cy prog 272 true 32:=⟨isAgg272,sizeOf272⟩
instance aGI:cy prog 273 true 64:=⟨isAgg273,sizeOf273⟩
end
section
structure bS where
 name:ByteArray
 kind:Int
 n:Nat
def bW(x:bS):List aO:=[ah x.name,aA x.kind,ap x.n]
def nY(x:bS):(bW x).length=3:=rfl
structure pq where
 param:Bool
 index:Nat
 at_:List aS
def gG(x:pq):List aO:=[bG x.param,ap x.index,aB bc x.at_]
def P8(x:pq):(gG x).length=3:=rfl
structure kR where
 op:Int
 target:Nat
 global:Bool
 expr:aS
 place:pq
 ints:List aS
 places:List pq
def encI(x:kR):List aO:=[aA x.op,ap x.target,bG x.global,aA x.expr.op,aA x.expr.num,ah x.expr.name,aB bc x.expr.args,bG x.place.param,ap x.place.index,aB bc x.place.at_,aB bc x.ints,aB gG x.places]
def mc(x:kR):(encI x).length=12:=rfl
def WZ:bS:=⟨a_,0,0⟩
def dK:pq:=⟨false,0,[]⟩
def bM:List bS -> ByteArray -> Option bS
 |[],_=>none
 |x::l,s=>if x.name=s then some x else bM l s
def S_:Option bS -> bS
 |none=>WZ
 |some v=>v
def bQ(l:List bS)(s:ByteArray):bS:=S_ (bM l s)
structure pX (p:aY) (l:List bS):Prop where
 ms:∀s v,bM l s=some v -> v.kind=2 -> v.n<p.mutexes.length
 fs:∀s v,bM l s=some v -> v.kind=3 -> v.n<p.funcs.length
abbrev ir:=Nat×Int
def cX(q:ir)(e:Nat)(s:Int):ir:=if q.1=0 /\ e≠0 then (e,s) else q
def dP(a b:Nat):Nat:=if a=0 then b else a
def o8(q:ir)(s:Int):cX q 0 s=q:=by unfold cX;rw [if_neg aL]
def uJ(q:ir)(a b:Nat)(s:Int):cX (cX q a s) b s=cX q (dP a b) s:=by
 unfold cX dP;by_cases h:q.1=0<;>by_cases ha:a=0<;>by_cases hb:b=0<;>simp [h,ha,hb]
def Jz(b:Nat):dP 0 b=b:=rfl
def Ol:Option bS -> Nat
 |none=>6
 |some v=>if v.kind=1∨v.kind=4 then 0 else 8
def fI(l:List bS)(s:ByteArray):Nat:=Ol (bM l s)
def tK(l:List bS)(s:ByteArray):aS:=.mk (if (bQ l s).kind=1 then 19 else 18) ((bQ l s).n:Nat) a_ []
mutual
def ck(l:List bS):aS -> aS
 |.mk op num name args=>if op=2 then tK l name else .mk op num a_ (zl l args)
def zl(l:List bS):List aS -> List aS
 |[]=>[]
 |e::r=>ck l e::zl l r
end
mutual
def cW(l:List bS):aS -> Nat
 |.mk op _ name args=>if op=2 then fI l name else hP l args
def hP(l:List bS):List aS -> Nat
 |[]=>0
 |e::r=>dP (cW l e) (hP l r)
end
def K8(l:List bS):∀r:List aS,zl l r=r.map (ck l)
 |[]=>by rw [zl];rfl
 |e::r=>by rw [zl,K8 l r];rfl
def yA(l:List bS)(e:aS):ck l e=if e.op=2 then tK l e.name else .mk e.op e.num a_ (e.args.map (ck l)):=by
 cases e;rw [ck,K8];rfl
def zA(l:List bS)(e:aS):cW l e=if e.op=2 then fI l e.name else hP l e.args:=by cases e;rw [cW];rfl
def Ln(a b c:Nat):dP (dP a b) c=dP a (dP b c):=by unfold dP;by_cases h:a=0<;>simp [h]
def Ma(l:List bS):∀(r:List aS)(e:aS),hP l (r++[e])=dP (hP l r) (cW l e)
 |[],e=>by rw [cg,hP,hP,hP,Jz];unfold dP;split<;>simp_all
 |a::r,e=>by rw [eA,hP,hP,Ma l r e,Ln]
def Ji(l:List bS)(r:List aS)(k:Nat)(h:k<r.length)(q:ir)(s:Int):cX (cX q (hP l (r.take k)) s) (cW l r[k]) s=cX q (hP l (r.take (k+1))) s:=by
 rw [uJ,gz h,Ma]
def rm(p:aY)(n:Nat):Int:=match p.mutexes[n]? with
 |none=>0
 |some m=>m.size
def zf{p:aY}{n:Nat}(h:n<p.mutexes.length):rm p n=p.mutexes[n].size:=by unfold rm;rw [k_ h]
def eg(l:List bS)(r:cL):pq:=⟨decide ((bQ l r.name).kind=5),(bQ l r.name).n,r.index.map (ck l)⟩
def kT(p:aY)(n:Nat):Option bS -> Nat
 |none=>6
 |some v=>if v.kind=2∨v.kind=5 then (if (decide (v.kind=2) && decide (0<rm p v.n))=decide (0<n) then 0 else 8) else 8
def d9(p:aY)(l:List bS)(r:cL):Nat:=dP (kT p r.index.length (bM l r.name)) (hP l r.index)
def vU(p:aY)(l:List bS)(a:cI):Nat:=if a.mutex then d9 p l a.ref else cW l a.expr
def jG(p:aY)(l:List bS):List cI -> List bg -> Nat
 |a::r,x::xs=>if a.mutex=x.mutex then dP (vU p l a) (jG p l r xs) else 8
 |_,_=>0
def ju:List cI -> List bg -> List cI
 |a::r,x::xs=>if a.mutex=x.mutex then a::ju r xs else []
 |_,_=>[]
def eX(l:List bS)(al:List cI):List pq:=(al.filter cI.mutex).map λa=>eg l a.ref
def d3(l:List bS)(al:List cI):List aS:=(al.filter λa=>!a.mutex).map λa=>ck l a.expr
def kM(p:aY)(n:Nat):List bg:=match p.funcs[n]? with
 |none=>[]
 |some f=>f.params
def BP{p:aY}{n:Nat}(h:n<p.funcs.length):kM p n=p.funcs[n].params:=by unfold kM;rw [k_ h]
def ob(p:aY)(l:List bS)(al:List cI):Option bS -> Nat
 |none=>6
 |some v=>if v.kind=3 then (if (kM p v.n).length=al.length then jG p l al (kM p v.n) else 7) else 8
def eB(p:aY)(l:List bS)(s:aE):Nat:=ob p l s.args (bM l s.name)
def nx(p:aY)(l:List bS)(al:List cI)(op:Int):Option bS -> kR
 |none=>⟨op,0,false,.zero,dK,[],[]⟩
 |some v=>if v.kind=3 then (if (kM p v.n).length=al.length then ⟨op,v.n,false,.zero,dK,d3 l (ju al (kM p v.n)),eX l (ju al (kM p v.n))⟩ else ⟨op,v.n,false,.zero,dK,[],[]⟩) else ⟨op,0,false,.zero,dK,[],[]⟩
def gJ(p:aY)(l:List bS)(s:aE):kR:=nx p l s.args (if s.kind=4 then 3 else 2) (bM l s.name)
structure ak where
 aq:List bS
 locals:Nat
 n:Nat
 q:ir
 code:List kR
 sites:List Int
def ak.put(x:ak)(i:kR)(s:Nat):ak:=⟨x.aq,x.locals,x.n,x.q,x.code++[i],x.sites++[(s:Int)]⟩
def kR.to(i:kR)(t:Nat):kR:=⟨i.op,t,i.global,i.expr,i.place,i.ints,i.places⟩
def ak.patch(x:ak)(b:Nat):ak:=⟨x.aq,x.locals,x.n,x.q,x.code.modify b (λi=>i.to x.code.length),x.sites⟩
def ak.dg(x:ak)(e:Nat):ak:=⟨x.aq,x.locals,x.n+1,cX x.q e x.n,x.code,x.sites⟩
def fV(l:List bS)(s:ByteArray):Nat:=if (bM l s).isSome then 5 else 0
def ak.var(x:ak)(s:ByteArray):ak:=⟨x.aq++[⟨s,4,x.locals⟩],x.locals+1,x.n,x.q,x.code,x.sites⟩
def bh(k:Int)(e:aS):kR:=⟨k,0,false,e,dK,[],[]⟩
def ii(p:aY)(s:aE)(x:ak):ak:=
 if s.kind=1 then ((x.dg (dP (fV x.aq s.name) (cW x.aq s.expr))).put ⟨1,x.locals,false,ck x.aq s.expr,dK,[],[]⟩ x.n).var s.name
 else if s.kind=2 then (x.dg (dP (fI x.aq s.name) (cW x.aq s.expr))).put ⟨1,(bQ x.aq s.name).n,decide ((bQ x.aq s.name).kind=1),ck x.aq s.expr,dK,[],[]⟩ x.n
 else if s.kind=3∨s.kind=4 then (x.dg (eB p x.aq s)).put (gJ p x.aq s) x.n
 else if s.kind=5 then (x.dg (d9 p x.aq s.ref)).put ⟨4,0,false,.zero,eg x.aq s.ref,[],[]⟩ x.n
 else if s.kind=6 then (x.dg (d9 p x.aq s.ref)).put ⟨5,0,false,.zero,eg x.aq s.ref,[],[]⟩ x.n
 else (x.dg 0).put (bh 8 .zero) x.n
def ak.branch(x:ak)(e:aS):ak:=(x.dg (cW x.aq e)).put (bh 6 (ck x.aq e)) x.n
def ak.back(x:ak)(y:ak):ak:=⟨x.aq,y.locals,y.n,y.q,y.code,y.sites⟩
mutual
def cw(p:aY):aE -> ak -> ak
 |.mk k name e r args t f,x=>
  if k=7 then
   (if f.length=0 then ((x.branch e).back (cR p t (x.branch e))).patch x.code.length
    else (ak.back x (cR p f ((((x.branch e).back (cR p t (x.branch e))).put (bh 7 .zero) x.n).patch x.code.length))).patch (cR p t (x.branch e)).code.length)
  else if k=8 then (((x.branch e).back (cR p t (x.branch e))).put ⟨7,x.code.length,false,.zero,dK,[],[]⟩ x.n).patch x.code.length
  else ii p (.mk k name e r args t f) x
def cR(p:aY):List aE -> ak -> ak
 |[],x=>x
 |s::l,x=>cR p l (cw p s x)
end
def aM(p:aY)(l:List aE)(x:ak):ak:=x.back (cR p l x)
def pK(p:aY)(s:aE)(x:ak):cw p s x=if s.kind=7 then
   (if s.els.length=0 then (aM p s.thn (x.branch s.expr)).patch x.code.length
    else (aM p s.els (((aM p s.thn (x.branch s.expr)).put (bh 7 .zero) x.n).patch x.code.length)).patch (aM p s.thn (x.branch s.expr)).code.length)
  else if s.kind=8 then ((aM p s.thn (x.branch s.expr)).put ⟨7,x.code.length,false,.zero,dK,[],[]⟩ x.n).patch x.code.length
  else ii p s x:=by
 obtain ⟨k,n,e,r,a,t,f⟩:=s;rw [cw];rfl
def O5(p:aY):∀(l:List aE)(s:aE)(x:ak),cR p (l++[s]) x=cw p s (cR p l x)
 |[],s,x=>by rw [cg,cR,cR,cR]
 |a::l,s,x=>by rw [eA,cR,cR,O5 p l s]
def p6(p:aY)(l:List aE)(k:Nat)(h:k<l.length)(x:ak):cw p l[k] (cR p (l.take k) x)=cR p (l.take (k+1)) x:=by
 rw [gz h,O5]
def bd(p:aY):List bS:=p.globals.mapIdx (λi g=>⟨g.name,1,i⟩)++(p.mutexes.mapIdx (λi m=>⟨m.name,2,i⟩)++p.funcs.mapIdx (λi f=>⟨f.name,3,i⟩))
def jg:List bS -> List bS -> Option Nat
 |_,[]=>none
 |l,x::r=>if (bM l x.name).isSome then some l.length else jg (l++[x]) r
def iA:List bg -> List bS -> Nat -> Nat -> Option (List bS×Nat×Nat)
 |[],l,i,m=>some (l,i,m)
 |x::r,l,i,m=>if (bM l x.name).isSome then none else if x.mutex then iA r (l++[⟨x.name,5,m⟩]) i (m+1) else iA r (l++[⟨x.name,4,i⟩]) (i+1) m
def ak.init(l:List bS)(i:Nat):ak:=⟨l,i,0,(0,0),[],[]⟩
def oL(p:aY)(f:bB)(l:List bS)(i:Nat):ak:=(aM p f.body (ak.init l i)).put (bh 8 .zero) (aM p f.body (ak.init l i)).n
def kC(p:aY)(f:bB):ir:=match iA f.params (bd p) 0 0 with
 |none=>(5,-1)
 |some (l,i,_)=>(oL p f l i).q
structure wV where
 name:ByteArray
 ints:Nat
 aH5:Nat
 locals:Nat
 code:List kR
def ff(p:aY)(f:bB):wV:=match iA f.params (bd p) 0 0 with
 |none=>⟨a_,0,0,0,[]⟩
 |some (l,i,m)=>⟨f.name,i,m,(oL p f l i).locals,(oL p f l i).code⟩
def lS(p:aY):List bB -> Nat -> Int×Int×Nat
 |[],_=>(0,0,0)
 |f::r,i=>if (kC p f).1=0 then lS p r (i+1) else (i,(kC p f).2,(kC p f).1)
def eK:ByteArray:=⟨#[109,97,105,110]⟩
def np(p:aY):Bool:=match bM (bd p) eK with
 |none=>false
 |some v=>decide (v.kind=3) && decide ((kM p v.n).length=0)
def gY(p:aY):Int×Int×Nat:=
 if gw p=false then (-1,-1,10) else
 match jg [] (bd p) with
 |some i=>(-1,i,5)
 |none=>if np p then lS p p.funcs 0 else (-1,-1,9)
end
section
open Go.RowKit
instance (priority:=900) boxIn_appG{A0 R A B:List aV}{b:Nat}{T:TypeId}{cs:List aO}[h:ly R b A T cs B]:ly (A0++R) b (A0++A) T cs B:=⟨by rw [h.h,append_assoc]⟩
instance (priority:=1050) appL_app{A0 X ds r:List aV}[h:rS X ds r]:rS (A0++X) ds (A0++r):=⟨by rw [append_assoc,h.h]⟩
instance aEu:ek 1 1 2:=⟨rfl⟩
instance aCx:ek 1 2 3:=⟨rfl⟩
instance aFv:ek 1 3 4:=⟨rfl⟩
instance aDx:ek 1 4 5:=⟨rfl⟩
instance aGA:ek 1 5 6:=⟨rfl⟩
instance ZW:ek 2 1 3:=⟨rfl⟩
instance aDU:ek 2 2 4:=⟨rfl⟩
instance aFg:ek 2 3 5:=⟨rfl⟩
instance aB7:ek 2 4 6:=⟨rfl⟩
instance aDP:ek 2 5 7:=⟨rfl⟩
instance aFD:ek 3 1 4:=⟨rfl⟩
instance aCC:ek 3 2 5:=⟨rfl⟩
instance aD3:ek 3 3 6:=⟨rfl⟩
instance ZH:ek 3 4 7:=⟨rfl⟩
instance aEU:ek 3 5 8:=⟨rfl⟩
instance ZE:ek 4 1 5:=⟨rfl⟩
instance Y2:ek 4 2 6:=⟨rfl⟩
instance aGh:ek 4 3 7:=⟨rfl⟩
instance aFd:ek 4 4 8:=⟨rfl⟩
instance aFG:ek 4 5 9:=⟨rfl⟩
instance aEc:ek 5 1 6:=⟨rfl⟩
instance aC0:ek 5 2 7:=⟨rfl⟩
instance aDt:ek 5 3 8:=⟨rfl⟩
instance aD0:ek 5 4 9:=⟨rfl⟩
instance aAN:ek 5 5 10:=⟨rfl⟩
instance aAC:ek 6 1 7:=⟨rfl⟩
instance aGS:ek 6 2 8:=⟨rfl⟩
instance aF8:ek 6 3 9:=⟨rfl⟩
instance Za:ek 6 4 10:=⟨rfl⟩
instance Zl:ek 6 5 11:=⟨rfl⟩
instance aCO:ek 7 1 8:=⟨rfl⟩
instance aBm:ek 7 2 9:=⟨rfl⟩
instance aBf:ek 7 3 10:=⟨rfl⟩
instance aF2:ek 7 4 11:=⟨rfl⟩
instance ZP:ek 7 5 12:=⟨rfl⟩
instance aFW:ek 8 1 9:=⟨rfl⟩
instance aAe:ek 8 2 10:=⟨rfl⟩
instance aAZ:ek 8 3 11:=⟨rfl⟩
instance aDz:ek 8 4 12:=⟨rfl⟩
instance Zt:ek 8 5 13:=⟨rfl⟩
def t_{bx:List aV}{rw:List aP}{Z:List Nat}{b:Nat}[h1:mF bx b][h2:y5 bx b Z](hn:(⟨bx,rw⟩:aJ).bl.Nodup):b∈fe ⟨bx,rw⟩ Z:=gh.2 ⟨gR _ h1.h,h2.h (eN.1 hn).1⟩
def lT{P:Program}{U:List Nat}{o:Oper}{st:AS}{x:bb}{t e E:bA}{v:aN}{z n:Nat}{cs:List aO}(A:List aP){B:List aP}(ho:o.op=.call {callee:=.builtin .len,args:=#[x],argTypes:=#[t]})(hx:aw st x=some (av v))(hrow:st.s.rows=A++⟨v,E,z,n,cs⟩::B)(hu:∀w,(underlying t).run P w=.ok (.slice e) w)(hz:0<z:=by decide):co P U o st (an n):=
 iF rfl λa w hs w'=>by
  obtain ⟨us,la,-⟩:=hs.mem.row ⟨v,E,z,n,cs⟩ tF;have hown:=la.row hz;have hv:∃p c,v=.slice p n c:=by
   rcases hown.2 with ⟨h1,h2⟩|⟨g,cap,cur,h1,-⟩
   ·dsimp only at h1 h2;subst h2;exact ⟨_,_,h1⟩
   exact ⟨_,_,h1⟩
  obtain ⟨p,c,rfl⟩:=hv;simp only [execOp,ho,resolve,mI,dE,gH,hs.val hx];simp [go_sem,invoke,builtin,Builtin.len_,hu,goInt]
class zD (bx:List aV) (Z:List Nat):Prop where h:∀z,z∈Z -> z∈bx.map aV.b
instance aE5{bx:List aV}:zD bx []:=⟨aL⟩
instance aD5{bx:List aV}{z:Nat}{Z:List Nat}[h1:mF bx z][h2:zD bx Z]:zD bx (z::Z):=⟨λy hy=>by rcases mem_cons.1 hy with rfl|h;exact h1.h;exact h2.h _ h⟩
def gZ{bx:List aV}{rw:List aP}{Z:List Nat}{v:aN}{E:bA}{z n b:Nat}{cs:List aO}[h1:zD bx Z](hn:(⟨bx,⟨v,E,z,n,cs⟩::rw⟩:aJ).bl.Nodup)(hb:b∈aR v):b∈fe ⟨bx,⟨v,E,z,n,cs⟩::rw⟩ Z:=by
 have h3:b∈(⟨v,E,z,n,cs⟩::rw:List aP).flatMap λr=>aR r.v:=by simp [hb]
 refine gh.2 ⟨gx _ h3,λhz=>?_⟩;exact (eN.1 hn).2.2 b (h1.h b hz) b h3 J
def iX{P:Program}{ops:Array Oper}{n:Nat}{T:List Nat}{bx:List aV}{rw:List aP}{ts:List (Nat×AT)}{Q:Exit -> AS -> Prop}{l:List Oper}(i:Nat){v:aN}{E:bA}{z k:Nat}{cs:List aO}(hi:look ts i=some (av v))(h:cO P ops l ⟨n,T,⟨bx,rw⟩,(i,.c (.sl k cs))::ts⟩ Q)(hz:0<z:=by decide):cO P ops l ⟨n,T,⟨bx,⟨v,E,z,k,cs⟩::rw⟩,ts⟩ Q:=
 uZ (Hc (st:=⟨n,T,⟨bx,⟨v,E,z,k,cs⟩::rw⟩,ts⟩) (A:=[]) i hi rfl hz) h
section
variable {P:Program}{ops:Array Oper}{U T:List Nat}{o:Oper}{n d:Nat}{bx:List aV}{rw:List aP}{ts:List (Nat×AT)}{Q:Exit -> AS -> Prop}{l:List Oper}{K:AS -> Prop}{st:AS}{t:AT}
theorem Hn{s:aJ}{w:ab}(hm:Mem s w){r:aP}(hr:r∈s.rows)(hn:0<r.n)(hz:0<r.z):∃g cap,r.v=.slice (some ⟨g,0,none⟩) r.n cap:=by
 obtain ⟨us,h0,-⟩:=hm.row r hr;obtain ⟨h1,h2⟩:=h0.row hz;rcases h2 with ⟨-,h2⟩|⟨g,cap,cur,h2,-⟩
 ·omega
 exact ⟨g,cap,h2⟩
theorem zC(A:List aP){B:List aP}{v:aN}{E:bA}{z k:Nat}{cs:List aO}(hk:0<k)(h:∀g cap,v=.slice (some ⟨g,0,none⟩) k cap -> cO P ops l ⟨n,T,⟨bx,A++⟨v,E,z,k,cs⟩::B⟩,ts⟩ Q)(hz:0<z:=by decide):cO P ops l ⟨n,T,⟨bx,A++⟨v,E,z,k,cs⟩::B⟩,ts⟩ Q:=λa w hs QQ hQ=>by
 obtain ⟨g,cap,hv⟩:=Hn hs.mem (r:=⟨v,E,z,k,cs⟩) aL hk hz;exact h g cap hv a w hs QQ hQ
theorem sb(A:List aP){c:Code}{B:List aP}{v:aN}{E:bA}{z k:Nat}{cs:List aO}(hk:0<k)(h:∀g cap,v=.slice (some ⟨g,0,none⟩) k cap -> br P c ⟨n,T,⟨bx,A++⟨v,E,z,k,cs⟩::B⟩,ts⟩ Q)(hz:0<z:=by decide):br P c ⟨n,T,⟨bx,A++⟨v,E,z,k,cs⟩::B⟩,ts⟩ Q:=λa w hs QQ hQ=>by
 obtain ⟨g,cap,hv⟩:=Hn hs.mem (r:=⟨v,E,z,k,cs⟩) aL hk hz;exact h g cap hv a w hs QQ hQ
theorem kc{E E0:bA}{x:bb}{g off z zz k cap:Nat}{cs:List aO}{ag:Bool}(A:List aP){B:List aP}(hA:∀w,(isAgg E).run P w=.ok ag w)(hS:∀w,(sizeOf E).run P w=.ok z w)(hp:fg ag z cs off=some t)(ho:o.op=.load E x:=by exact rfl)(hx:aw st x=some (av (.pointer (some ⟨g,off,none⟩))):=by exact rfl)(hrow:st.s.rows=A++⟨.slice (some ⟨g,0,none⟩) k cap,E0,zz,k,cs⟩::B:=by exact rfl)(hU:st.s.bl.Nodup -> g∉U:=by exact λ_ h=>iH):co P U o st t:=by
 intro a w hs hU2;obtain ⟨us,la,h2⟩:=hs.mem.row ⟨.slice (some ⟨g,0,none⟩) k cap,E0,zz,k,cs⟩ tF;have hown:=la.row0 J;obtain ⟨h3,h4⟩:=hown;rcases h4 with ⟨h4,-⟩|⟨g',cap',cur,hv,-,hh,hk,hcm,hcs,htk⟩
 ·cases h4
 cases hv;obtain ⟨v,hv,hl⟩:=Ak (P:=P) (b:=g) (o:=0) hA hS h2 hp;refine ⟨v,hv,λw' hkp=>?_⟩;have hlt:g<w.heap.size:=hs.mem.lt g (gx _ (by rw [hrow];simp [aR,Value.ownBlock]));have hb:=hkp.block g hlt (hU hs.mem.nodup);have hl2:=hl w' (λj u hj=>by
  unfold World.cell?;simp only [hb,hh];have h9:(cur.toList.take (k*zz))[j]?=some u:=by rw [htk];exact hj
  rw [oy] at h9;split at h9
  ·simpa using h9
  cases h9)
 simp only [cp] at hl2;simp only [execOp,ho,hs.val hx,Instr.loadAt,Instr.sureAddr,dI,fj,ei];rw [hl2];rfl
theorem fE{E e:bA}{z:Nat}(hu:P.underlying E=some (.slice e))(hS:∀w,(sizeOf e).run P w=.ok z w)(h:∀g,K ⟨n,g::T,⟨bx,⟨.slice (some ⟨g,0,none⟩) 0 0,e,z,0,[]⟩::rw⟩,(d,av (.slice (some ⟨g,0,none⟩) 0 0))::ts⟩)(ho:o.op=.buildSlice E 0 #[]:=by exact rfl)(hd:o.dst=some d:=by exact rfl)(hn:d<n:=by decide):dZ P U o ⟨n,T,⟨bx,rw⟩,ts⟩ K:=by
 intro a w hs KK QQ hK;unfold Oper.wp;have hrun:(execOp a.eval o).run P w=.ok (.value (.slice (some ⟨w.heap.size,0,none⟩) 0 0)) (w.alloc (.cells #[] e)):=by
  have h1:(underlying E).run P w=.ok (.slice e) w:=run_underlying hu w;have h2:(sizeOf e).run P w=.ok z w:=hS w;simp only [execOp,ho,Instr.buildSlice,dI,h1,ei,h2,rO];simp [go_sem,Instr.fill,newRow]
 rw [hrun,Oper.upon_value,hd];have hk:cQ [] w (w.alloc (.cells #[] e)):=(cQ.refl _ _).alloc _;have hne:w.heap.size∉(⟨bx,rw⟩:aJ).bl:=λhm=>Ne;have hbl:(⟨bx,⟨.slice (some ⟨w.heap.size,0,none⟩) 0 0,e,z,0,[]⟩::rw⟩:aJ).bl=bx.map aV.b++w.heap.size::rw.flatMap λr=>aR r.v:=Hr;have hsub:∀b,b∈(⟨bx,⟨.slice (some ⟨w.heap.size,0,none⟩) 0 0,e,z,0,[]⟩::rw⟩:aJ).bl -> b∈(⟨bx,rw⟩:aJ).bl∨w.heap.size <= b:=λb hb=>by
  rw [hbl] at hb;simp only [mem_append,mem_cons] at hb;rcases hb with h|rfl|h
  ·exact .inl (gR _ h)
  ·exact .inr (bX _)
  exact .inl (gx _ h)
 have hup:f7 (bj (⟨bx,rw⟩:aJ).bl w) (bj (⟨bx,⟨.slice (some ⟨w.heap.size,0,none⟩) 0 0,e,z,0,[]⟩::rw⟩:aJ).bl (w.alloc (.cells #[] e))):=lb hk jM hsub;have hsz:(w.alloc (.cells #[] e)).heap.size=w.heap.size+1:=aL;have hm:Mem ⟨bx,⟨.slice (some ⟨w.heap.size,0,none⟩) 0 0,e,z,0,[]⟩::rw⟩ (w.alloc (.cells #[] e)):=by
  refine ⟨?_,λb hb=>?_,λx hx=>?_,λr hr=>?_⟩
  ·rw [hbl];have hnd:(bx.map aV.b++rw.flatMap λr=>aR r.v).Nodup:=hs.mem.nodup;rw [eN] at hnd⊢;refine ⟨hnd.1,m5.2 ⟨λh=>hne (gx _ h),hnd.2.1⟩,λa ha b hb=>?_⟩;rcases mem_cons.1 hb with rfl|hb
   ·intro he;subst he;exact hne (gR _ ha)
   exact hnd.2.2 a ha b hb
  ·rw [hbl] at hb;simp only [mem_append,mem_cons] at hb;rw [hsz];rcases hb with h|rfl|h
   ·exact DF (hs.mem.lt b (gR _ h))
   ·exact EJ _
   exact DF (hs.mem.lt b (gx _ h))
  ·obtain ⟨us,aj,e2⟩:=hs.mem.box x hx;exact ⟨us,Ki,e2.mono hup⟩
  rcases mem_cons.1 hr with rfl|hr
  ·refine ⟨[],.inl ⟨aL,.inr ⟨w.heap.size,0,#[],J,eT _,?_,bX _,eT _,aL,aL⟩⟩,.nil _⟩;show (w.heap.push _)[w.heap.size]?=_;simp
  obtain ⟨us,aj,e2⟩:=hs.mem.row r hr;exact ⟨us,aj.keep λg hg=>hk.block g (hs.mem.lt g (gx _ (ky.2 ⟨r,hr,hg⟩))) aL,e2.mono hup⟩
 have s1:=hs.step (st:=⟨n,T,⟨bx,rw⟩,ts⟩) (w.heap.size::T) (hk.mono aL) hm hsub;refine hK _ _ _ (h _) (s1.put (v:=.slice (some ⟨w.heap.size,0,none⟩) 0 0) hn (.c _ _ (.val _ J))) ⟨hk.mono aL,hk.mono aL,hsub,λb hb=>?_⟩ (hk.mono aL);rcases mem_cons.1 hb with rfl|hb
 ·exact .inr (bX _)
 exact .inl hb
end
end
section
open Go.RowKit
def qg{a b:Bool}(h:a=true↔b=true):Ending.returned (.bool a)=.returned (.bool b):=by rw [Bool.eq_iff_iff.2 h]
def ku{k:IntKind}{a b:Int}(h:a=b):Ending.returned (.int k a)=.returned (.int k b):=by rw [h]
def Cw(c:UInt8)(w:ab):
  Calls prog 150 #[.int .u8 c.toNat] w λe w'=>e=.returned (.bool (isSp c)) /\ w=w':=by
 unfold isSp;generalize (c.toNat:Int)=n
 go_enter func150,Tryz.ntmps150
 go_wp2
 all_goals (go_ret;refine ⟨qg ?_,rfl⟩;simp;try omega)
def CI(c:UInt8)(w:ab):
  Calls prog 153 #[.int .u8 c.toNat] w λe w'=>e=.returned (.bool (gC c)) /\ w=w':=by
 unfold gC;generalize (c.toNat:Int)=n
 go_enter func153,Tryz.ntmps153
 go_wp2
 all_goals (go_ret;refine ⟨qg ?_,rfl⟩;simp;try omega)
def AG(c:UInt8)(w:ab):
  Calls prog 155 #[.int .u8 c.toNat] w λe w'=>e=.returned (.bool (dR c)) /\ w=w':=by
 unfold dR;generalize (c.toNat:Int)=n
 go_enter func155,Tryz.ntmps155
 go_wp2
 all_goals (go_ret;refine ⟨qg ?_,rfl⟩;simp;try omega)
def LX(c:UInt8)(w:ab):
  Calls prog 180 #[.int .u8 c.toNat] w λe w'=>e=.returned (.bool (dU c)) /\ w=w':=by
 go_enter func180,Tryz.ntmps180
 go_wp2_with (first|(go_at_call 153;refine (CI _ _).mono ?_;rintro e w' ⟨rfl,rfl⟩)|(go_at_call 155;refine (AG _ _).mono ?_;rintro e w' ⟨rfl,rfl⟩))
 all_goals (go_ret;refine ⟨qg ?_,rfl⟩;simp [dU, *])
def Gm(s p:aH)(w:ab):
  Calls prog 151 #[.string s,.string p] w λe w'=>e=.returned (.bool (Lib.hasPrefix s.data.toList p.data.toList)) /\ w=w':=
 (Tryz.strings_HasPrefix s p w).mono λ_ _ h=>⟨h.1,h.2.symm⟩
def G5(s:aH)(c:Int)(w:ab):
  Calls prog 152 #[.string s,.int .u8 c] w λe w'=>e=.returned (.int .i64 (Lib.indexByte s.data.toList c.toNat.toUInt8)) /\ w=w':=
 (Tryz.strings_IndexByte s c w).mono λ_ _ h=>⟨h.1,h.2.symm⟩
def BU(s:aH)(k0:Nat)(w:ab)(hs:s.size <= 9223372036854775807)(hk:k0 <= s.size):
  Calls prog 126 #[.string s,.int .i64 k0] w λe w'=>e=.returned (.int .i64 (cb s.data.toList k0)) /\ w=w':=by
 have hlen:s.data.toList.length=s.size:=J
 go_enter func126,Tryz.ntmps126
 go_wp2_with fail
 go_loop [1,5] (λv _=>∃k:Nat,k <= s.size /\ v=.int .i64 k /\ cb s.data.toList k=cb s.data.toList k0) (λv _=>s.size-(intOf v).toNat)
 case atStart=>exact ⟨k0,hk,rfl,rfl⟩
 case round=>
  obtain ⟨k,hk,rfl,hr⟩:=hrel;have HR:=Lib.hid hr;clear hr;have HL:=Lib.hid hlen;clear hlen;by_cases hlt:k<s.size
  ·by_cases hsp:isSp s[k]=true
   ·go_wp2_with (first|(go_at_call 150;refine (Cw _ _).mono ?_;rintro e w' ⟨rfl,rfl⟩))
    go_round
    case rel=>exact ⟨k+1,Y,kw,(NG _ _ wT hsp).trans HR.out⟩
    case measure=>simp [intOf];omega
   have aQl:isSp s[k]=false:=by simpa using hsp
   clear hsp;by_cases hc:Lib.hasPrefix (s.data.toList.drop k) [47,47]=true
   ·have hcom:=XR _ _ wT hc;have HC:=Lib.hid hcom;clear hcom;have htk:List.take (s.size-k) (List.drop k s.data.toList)=List.drop k s.data.toList:=take_of_length_le aL;by_cases hn:Lib.indexByte (s.data.toList.drop k) 10<0
    ·go_wp2_with (first|(go_at_call 150;refine (Cw _ _).mono ?_;rintro e w' ⟨rfl,rfl⟩)|(go_at_call 151;refine (Gm _ _ _).mono ?_;rintro e w' ⟨rfl,rfl⟩)|(go_at_call 152;refine (G5 _ _ _).mono ?_;rintro e w' ⟨rfl,rfl⟩))
     go_ret
     exact ⟨ku (by rw [←HR.out,HC.out.1 hn,HL.out]),J⟩
    obtain ⟨j,hj⟩:∃j:Nat,Lib.indexByte (s.data.toList.drop k) 10=j:=⟨(Lib.indexByte (s.data.toList.drop k) 10).toNat,Y⟩;obtain ⟨h1,h2,h3⟩:=HC.out.2 j hj;rw [HL.out] at h2;have H1:=Lib.hid h1;clear h1;clear hn
    go_wp2_with (first|(go_at_call 150;refine (Cw _ _).mono ?_;rintro e w' ⟨rfl,rfl⟩)|(go_at_call 151;refine (Gm _ _ _).mono ?_;rintro e w' ⟨rfl,rfl⟩)|(go_at_call 152;refine (G5 _ _ _).mono ?_;rintro e w' ⟨rfl,rfl⟩))
    go_round
    case rel=>exact ⟨k+j,Y,kw,H1.out.trans HR.out⟩
    case measure=>simp [intOf];omega
   have hc':Lib.hasPrefix (s.data.toList.drop k) [47,47]=false:=by simpa using hc
   have hstop:cb s.data.toList k=k:=by
    refine GZ _ _ wT aQl ?_;rintro ⟨h1,h2⟩
    apply hc
    rw [KV,je _ _ wT,h1];cases hd:s.data.toList.drop (k+1) with
    |nil=>simp [hd] at h2
    |cons a r=>rw [hd] at h2;simp at h2;subst h2;exact ⟨r,rfl⟩
   have HS:=Lib.hid hstop;clear hstop;clear hc;have htk:List.take (s.size-k) (List.drop k s.data.toList)=List.drop k s.data.toList:=take_of_length_le aL
   go_wp2_with (first|(go_at_call 150;refine (Cw _ _).mono ?_;rintro e w' ⟨rfl,rfl⟩)|(go_at_call 151;refine (Gm _ _ _).mono ?_;rintro e w' ⟨rfl,rfl⟩))
   go_ret
   exact ⟨ku (by rw [←HR.out,HS.out]),J⟩
  go_wp2_with fail
  go_ret
  exact ⟨ku (by rw [←HR.out,II _ _ Ic,HL.out];omega),J⟩
def Bm(p:UInt8 -> Bool)(l:List UInt8)(k:Nat)(hk:k<l.length)(h:(l.takeWhile p).length=k+((l.drop k).takeWhile p).length):
  (p l[k]=true -> (l.takeWhile p).length=(k+1)+((l.drop (k+1)).takeWhile p).length) /\ (p l[k]=false -> (l.takeWhile p).length=k):=by
 rw [je l k hk] at h;refine ⟨λhp=>?_,λhp=>?_⟩
 ·rw [su hp] at h;simp at h;omega
 rw [List.takeWhile_cons_of_neg (by simp [hp])] at h;simpa using h
def V6(s:aH)(w:ab)(hs:s.size <= 9223372036854775807):
  Calls prog 179 #[.string s,.func (.func 155) #[] #[]] w λe w'=>e=.returned (.int .i64 (s.data.toList.takeWhile dR).length) /\ w=w':=by
 have HL:=Lib.hid (show s.data.toList.length=s.size from J)
 go_enter func179,Tryz.ntmps179
 go_wp2_with fail
 go_loop [5] (λv=>∃k:Nat,k <= s.size /\ v=.int .i64 k /\ (s.data.toList.takeWhile dR).length=k+((s.data.toList.drop k).takeWhile dR).length) (λv=>s.size-(intOf v).toNat)
 case atStart=>exact ⟨0,Y,rfl,aL⟩
 case round=>
  obtain ⟨k,hk,rfl,hr⟩:=hrel;by_cases hlt:k<s.size
  ·have HT:=Lib.hid (Bm dR s.data.toList k wT hr);clear hr;by_cases hp:dR s[k]=true
   ·go_wp2_with (first|(go_at_call 155;refine (AG _ _).mono ?_;rintro e w' ⟨rfl,rfl⟩))
    go_round
    case rel=>exact ⟨k+1,Y,kw,HT.out.1 hp⟩
    case measure=>simp [intOf];omega
   have hp':dR s[k]=false:=by simpa using hp
   clear hp
   go_wp2_with (first|(go_at_call 155;refine (AG _ _).mono ?_;rintro e w' ⟨rfl,rfl⟩))
   go_ret
   exact ⟨ku (by rw [HT.out.2 hp']),J⟩
  have HR:=Lib.hid hr;clear hr
  go_wp2_with fail
  go_ret
  refine ⟨ku ?_,J⟩;rw [HR.out,mi Ic];rfl
def RS(s:aH)(w:ab)(hs:s.size <= 9223372036854775807):
  Calls prog 179 #[.string s,.func (.func 180) #[] #[]] w λe w'=>e=.returned (.int .i64 (s.data.toList.takeWhile dU).length) /\ w=w':=by
 have HL:=Lib.hid (show s.data.toList.length=s.size from J)
 go_enter func179,Tryz.ntmps179
 go_wp2_with fail
 go_loop [5] (λv=>∃k:Nat,k <= s.size /\ v=.int .i64 k /\ (s.data.toList.takeWhile dU).length=k+((s.data.toList.drop k).takeWhile dU).length) (λv=>s.size-(intOf v).toNat)
 case atStart=>exact ⟨0,Y,rfl,aL⟩
 case round=>
  obtain ⟨k,hk,rfl,hr⟩:=hrel;by_cases hlt:k<s.size
  ·have HT:=Lib.hid (Bm dU s.data.toList k wT hr);clear hr;by_cases hp:dU s[k]=true
   ·go_wp2_with (first|(go_at_call 180;refine (LX _ _).mono ?_;rintro e w' ⟨rfl,rfl⟩))
    go_round
    case rel=>exact ⟨k+1,Y,kw,HT.out.1 hp⟩
    case measure=>simp [intOf];omega
   have hp':dU s[k]=false:=by simpa using hp
   clear hp
   go_wp2_with (first|(go_at_call 180;refine (LX _ _).mono ?_;rintro e w' ⟨rfl,rfl⟩))
   go_ret
   exact ⟨ku (by rw [HT.out.2 hp']),J⟩
  have HR:=Lib.hid hr;clear hr
  go_wp2_with fail
  go_ret
  refine ⟨ku ?_,J⟩;rw [HR.out,mi Ic];rfl
structure Env (w:World):Prop where
 words:∀j,j<words.length -> w.cell? ⟨0,0+j,none⟩=some (.string (words.getD j ByteArray.empty))
 maxLen:∃m:Int,w.cell? ⟨2,0,none⟩=some (.int .i64 m)
 size:Nat.max 0 2+1 <= w.heap.size
def Env.below{B:Nat}{w w':ab}(h:Env w)(hb:Below B w w')(hB:Nat.max 0 2+1 <= B):Env w':=by
 refine ⟨λj hj=>?_,?_,iS h.size hb.size⟩
 ·rw [hb.cell (p:=⟨0,0+j,none⟩) (mK (V:0<Nat.max 0 2+1) hB)];exact h.words j hj
 rw [hb.cell (p:=⟨2,0,none⟩) (mK (V:2<Nat.max 0 2+1) hB)];exact h.maxLen
def Env.alloc{w:ab}(h:Env w)(o:Obj):Env (w.alloc o):=h.below ((Below.refl w.heap.size w).alloc (bX _) o) h.size
def Env.drew{w:ab}(h:Env w):Env w.drew:=h.below ((Below.refl w.heap.size w).drew) h.size
def Env.setCell{w:ab}(h:Env w){a:Addr}(ha:Nat.max 0 2+1 <= a.block)(u:aN):Env (w.setCell a u):=h.below ((Below.refl (Nat.max 0 2+1) w).setCell ha u) (bX _)
def Sg(s:aH)(w:ab)(he:Env w):
  Calls prog 196 #[.slice (some ⟨0,0,none⟩) 11 11,.string s] w λe w'=>e=.returned (.bool (fP s)) /\ w=w':=by
 refine (Tryz.slices_Contains_string 0 0 11 11 words s w V V he.words).mono λe w' h=>⟨?_,h.2.symm⟩;rw [h.1];refine qg ?_;rw [Lib.containsS_iff,IK];rfl
def U6(s:aH)(w:ab)(he:Env w):
  Calls prog 181 #[.string s] w λe w'=>e=.returned (.bool (fP s)) /\ w=w':=by
 go_enter func181,Tryz.ntmps181
 go_wp2_with (first|(go_at_call 196;refine (Sg _ _ he).mono ?_;rintro e w' ⟨rfl,rfl⟩))
 go_ret
 exact ⟨J,J⟩
def NW(s:aH)(p:UInt8 -> Bool):s.extract 0 (s.data.toList.takeWhile p).length=bytes (s.data.toList.takeWhile p):=by
 have:=ByteArray.extract_mk s.data.toList 0 (s.data.toList.takeWhile p).length;rw [show (ByteArray.mk s.data.toList.toArray)=s from by simp] at this;rw [this,bytes,tc,yr]
 congr 2
 conv=>rhs;rw [JE]
 rw [JE,ke,List.take_eq_take_iff];omega
def S2(s:aH)(w:ab)(hs:s.size <= 9223372036854775807)(he:Env w):
  Calls prog 154 #[.string s] w λe w'=>e=.returned (.tuple #[.agg #[.int .i64 ((if fP (bytes (s.data.toList.takeWhile dU)) then 3 else 1:Nat):Int),.string (bytes (s.data.toList.takeWhile dU)),.int .i64 0,.int .i64 0],.int .i64 ((if 16<(s.data.toList.takeWhile dU).length then 3 else 0:Nat):Int)]) /\ Below w.heap.size w w':=by
 have hle:(s.data.toList.takeWhile dU).length <= s.size:=(xT _).length_le;have hx:=NW s dU;have hsz:(bytes (s.data.toList.takeWhile dU)).size=(s.data.toList.takeWhile dU).length:=xi
 go_enter func154,Tryz.ntmps154
 go_wp2_with (first|(go_at_call 179;refine (RS _ _ hs).mono ?_;rintro e w' ⟨rfl,rfl⟩)|(go_at_call 181;refine (U6 _ _ ((he.alloc _).alloc _)).mono ?_;rintro e w' ⟨rfl,rfl⟩))
 all_goals (go_returns;refine ⟨?_,eS⟩)
 all_goals first|rfl|(rw [if_pos Y];rfl)|(rw [if_neg Y];rfl)
def V_(t:aH)(k n:Nat)(hk:k<t.size)(h:fQ 0 t.data.toList=fQ n (t.data.toList.drop k)):
  ((9223372036854775807-(t[k].toNat-48))/10<n -> fQ 0 t.data.toList=none) /\ (¬(9223372036854775807-(t[k].toNat-48))/10<n -> fQ 0 t.data.toList=fQ (10*n+(t[k].toNat-48)) (t.data.toList.drop (k+1))):=by
 rw [je _ k (by exact hk),fQ] at h;refine ⟨λhn=>?_,λhn=>?_⟩
 ·rw [h];exact if_pos hn
 rw [h];exact if_neg hn
def X0(t:ByteArray)(e:Ending):Prop:=∃n:Nat,(n:Int) <= 9223372036854775807 /\ ((fQ 0 t.data.toList=none /\ e=.returned (.tuple #[.agg #[.int .i64 2,.string t,.int .i64 n,.int .i64 0],.int .i64 2]))∨(fQ 0 t.data.toList=some n /\ e=.returned (.tuple #[.agg #[.int .i64 2,.string t,.int .i64 n,.int .i64 0],.int .i64 0])))
def WC(s:aH)(w:ab)(hs:s.size <= 9223372036854775807):
  Calls prog 156 #[.string s] w λe w'=>X0 (bytes (s.data.toList.takeWhile dR)) e /\ Below w.heap.size w w':=by
 have hle:(s.data.toList.takeWhile dR).length <= s.size:=(xT _).length_le;have hx:=NW s dR;have hsz:(bytes (s.data.toList.takeWhile dR)).size=(s.data.toList.takeWhile dR).length:=xi;have hall:∀c∈(bytes (s.data.toList.takeWhile dR)).data.toList,dR c=true:=by
  intro c hc;simp only [bytes] at hc;exact (e0.1 (FN (p:=dR) (l:=s.data.toList))) c hc
 generalize hm:(s.data.toList.takeWhile dR).length=m at *;generalize ht:bytes (s.data.toList.takeWhile dR)=t at *;have HM:=Lib.hid hm;have HT:=Lib.hid ht;have HA:=Lib.hid hall;have HX:=Lib.hid hx;clear hm ht hall;subst hsz
 go_enter func156,Tryz.ntmps156
 go_wp2_with (first|(go_at_call 179;refine (V6 _ _ hs).mono ?_;rintro e w' ⟨rfl,rfl⟩;rw [HM.out]))
 go_loopw [15] (λv wr=>∃k n:Nat,k <= t.size /\ v=.int .i64 k /\ n <= 9223372036854775807 /\ fQ 0 t.data.toList=fQ n (t.data.toList.drop k) /\ wr=(w.alloc (Obj.cells #[Value.int IntKind.i64 0,Value.string {data:=#[]},Value.int IntKind.i64 0,Value.int IntKind.i64 0] 154)).alloc (Obj.cells #[Value.int IntKind.i64 2,Value.string t,Value.int IntKind.i64 n,Value.int IntKind.i64 0] 154)) (λv _=>t.size-(intOf v).toNat)
 case atStart=>exact ⟨0,0,Y,rfl,Y,rfl,rfl⟩
 case round=>
  obtain ⟨k,n,hk,rfl,hn,hv,rfl⟩:=hrel;by_cases hlt:k<t.size
  ·have hst:=V_ t k n hlt hv;have hd:dR t[k]=true:=HA.out _ (by simp [ByteArray.getElem_eq_getElem_data]);have HS:=Lib.hid hst;clear hst hv;simp only [dR,decide_eq_true_eq] at hd;obtain ⟨hd1,hd2⟩:=hd;by_cases hov:(9223372036854775807-(t[k].toNat-48))/10<n
   ·have aK2:(9223372036854775807-((t[k].toNat:Int)-48))/10<(n:Int):=Y;have HO:=Lib.hid hov;clear hov
    go_wp2_with fail
    go_returns
    exact ⟨⟨n,Y,.inl ⟨HS.out.1 HO.out,J⟩⟩,eS⟩
   have aK2:(n:Int) <= (9223372036854775807-((t[k].toNat:Int)-48))/10:=Y;have HO:=Lib.hid hov;clear hov
   go_wp2_with fail
   go_roundw
   case rel=>exact ⟨k+1,10*n+(t[k].toNat-48),Y,kw,Y,HS.out.2 HO.out,by congr 5;go_num⟩
   case measure=>simp [intOf];omega
  have HV:=Lib.hid hv;clear hv
  go_wp2_with fail
  go_returns
  refine ⟨⟨n,Y,.inr ⟨?_,J⟩⟩,eS⟩;rw [HV.out,mi (by show t.size <= k;omega),fQ]
def Ep(sub:aH)(w:ab)(he:Env w):
  Calls prog 182 #[.string ⟨#[60,61,32,62,61,32,61,61,32,33,61,32,38,38,32,124,124]⟩,.string sub] w λe w'=>e=.returned (.bool (Lib.contains v7 sub.data.toList)) /\ w=w':=by
 obtain ⟨m,hm⟩:=he.maxLen;exact (Tryz.strings_Contains _ sub m w V hm).mono λe w' h=>⟨h.1,h.2.symm⟩
def Nu(c:UInt8)(w:ab):
  Calls prog 152 #[.string ⟨#[40,41,123,125,91,93,44,59,61,43,45,42,47,37,60,62,33]⟩,.int .u8 c.toNat] w λe w'=>e=.returned (.int .i64 (Lib.indexByte j' c)) /\ w=w':=by
 refine (G5 _ _ _).mono λe w' h=>⟨?_,h.2⟩;rw [h.1];congr 3;simp
def yN(s:ByteArray)(n:Nat):Value:=.tuple #[.agg #[.int .i64 (if n=0 then 0 else 4),.string (bytes (s.data.toList.take n)),.int .i64 0,.int .i64 0],.int .i64 (if n=0 then 1 else 0)]
def Ip(s:aH)(n:Nat):s.extract 0 n=bytes (s.data.toList.take n):=by
 have:=ByteArray.extract_mk s.data.toList 0 n;rw [show (ByteArray.mk s.data.toList.toArray)=s from by simp] at this;rw [this,bytes,tc,yr]
def wG(l:List UInt8):(bytes l).data.toList=l:=uU
def Vr(s:aH)(w:ab)(he:Env w)(h2:1<s.size)(h0:((s[0].toNat:Int) == 32)=false)(h1:((s[1].toNat:Int) == 32)=false)(hc:Lib.contains v7 (s.data.toList.take 2)=true):
  Calls prog 157 #[.string s] w λe w'=>e=.returned (yN s 2) /\ Below w.heap.size w w':=by
 have h0':((s[0].toNat:Int) != 32)=true:=by simp at h0⊢;exact h0
 have h1':((s[1].toNat:Int) != 32)=true:=by simp at h1⊢;exact h1
 have h2':(1:Int)<s.size:=Y;have hx:=Ip s 2;have hbd:=wG (s.data.toList.take 2)
 go_enter func157,Tryz.ntmps157
 go_wp2_with (first|(go_at_call 182;refine (Ep _ _ (he.alloc _)).mono ?_;rintro e w' ⟨rfl,rfl⟩))
 go_returns
 exact ⟨J,eS⟩
inductive G2 (s:ByteArray):Prop
 |short (h:(s.size:Int) <= 1)
 |first (h2:(1:Int)<s.size) (h0:0<s.size) (h:((s[0].toNat:Int) != 32)=false)
 |second (h2:(1:Int)<s.size) (h3:1<s.size) (h0:((s[0].toNat:Int) != 32)=true) (h:((s[1].toNat:Int) != 32)=false)
 |other (h2:(1:Int)<s.size) (h3:1<s.size) (h0:((s[0].toNat:Int) != 32)=true) (h1:((s[1].toNat:Int) != 32)=true) (hc:Lib.contains v7 (s.data.toList.take 2)=false)
def UZ(s:aH)(w:ab)(he:Env w)(h2:0<s.size)(hn:G2 s)(hb:0 <= Lib.indexByte j' s[0]):
  Calls prog 157 #[.string s] w λe w'=>e=.returned (yN s 1) /\ Below w.heap.size w w':=by
 have hx:=Ip s 1;cases hn;all_goals
  go_enter func157,Tryz.ntmps157
  go_wp2_with (first|(go_at_call 182;refine (Ep _ _ (he.alloc _)).mono ?_;rintro e w' ⟨rfl,rfl⟩)|(go_at_call 152;refine (Nu _ _).mono ?_;rintro e w' ⟨rfl,rfl⟩))
  go_returns
  exact ⟨J,eS⟩
def Wt(s:aH)(w:ab)(he:Env w)(h2:0<s.size)(hn:G2 s)(hb:Lib.indexByte j' s[0]<0):
  Calls prog 157 #[.string s] w λe w'=>e=.returned (yN s 0) /\ Below w.heap.size w w':=by
 have hx:=Ip s 1;cases hn;all_goals
  go_enter func157,Tryz.ntmps157
  go_wp2_with (first|(go_at_call 182;refine (Ep _ _ (he.alloc _)).mono ?_;rintro e w' ⟨rfl,rfl⟩)|(go_at_call 152;refine (Nu _ _).mono ?_;rintro e w' ⟨rfl,rfl⟩))
  go_returns
  exact ⟨J,eS⟩
def ti(c:UInt8):(c≠32 -> ((c.toNat:Int) != 32)=true) /\ (c=32 -> ((c.toNat:Int) != 32)=false):=by
 refine ⟨λh=>?_,λh=>by subst h;rfl⟩;simp only [bne_iff_ne,ne_eq];intro h3;apply h;apply UInt8.toNat_inj.1;show c.toNat=32;omega
def XH(s:aH)(w:ab)(he:Env w)(h0:0<s.size):
  Calls prog 157 #[.string s] w λe w'=>e=.returned (yN s (kD s.data.toList)) /\ Below w.heap.size w w':=by
 have hl:s.data.toList.length=s.size:=J;have hcons:=je s.data.toList 0 Y;rw [tc] at hcons;have key:G2 s /\ ¬(2 <= s.data.toList.length /\ s.data.toList.take 2∈kU) -> Calls prog 157 #[.string s] w λe w'=>e=.returned (yN s (kD s.data.toList)) /\ Below w.heap.size w w':=by
  rintro ⟨hn,hm⟩;by_cases hb:Lib.indexByte j' s[0]<0
  ·have:=(Jx _).1 hb;rw [show kD s.data.toList=0 from by rw [hcons] at hm⊢;exact OE hm this];exact Wt s w he h0 hn hb
  have:s[0]∈j':=Classical.byContradiction λh=>hb ((Jx _).2 h);rw [show kD s.data.toList=1 from by rw [hcons] at hm⊢;exact Ei hm this];exact UZ s w he h0 hn Y
 by_cases h2:1<s.size
 ·have e2:s.data.toList.take 2=[s[0],s[1]]:=by
   rw [hcons,je s.data.toList 1 Y];rfl
  by_cases ha:s[0]=32
  ·refine key ⟨.first Y h0 ((ti _).2 ha),λh=>?_⟩;rw [e2] at h;exact (My _ _ h.2).1 ha
  by_cases hb:s[1]=32
  ·refine key ⟨.second Y h2 ((ti _).1 ha) ((ti _).2 hb),λh=>?_⟩;rw [e2] at h;exact (My _ _ h.2).2 hb
  by_cases hc:Lib.contains v7 (s.data.toList.take 2)=true
  ·have hm:s.data.toList.take 2∈kU:=by rw [e2] at hc⊢;exact (Jd _ _ ha hb).1 hc
   rw [G_ Y hm];have h3:=(ti _).1 ha;have h4:=(ti _).1 hb;exact Vr s w he h2 (by simp at h3⊢;exact h3) (by simp at h4⊢;exact h4) hc
  refine key ⟨.other Y h2 ((ti _).1 ha) ((ti _).1 hb) (by simpa using hc),λh=>hc ?_⟩;have hm:=h.2;rw [e2] at hm⊢;exact (Jd _ _ ha hb).2 hm
 ·exact key ⟨.short Y,by rintro ⟨h,_⟩;omega⟩
def qL{W w1:ab}(hb:Below W.heap.size W w1):(∀b o,b<W.heap.size -> w1.cell? ⟨b,o,none⟩=W.cell? ⟨b,o,none⟩) /\ (∀b o,b<W.heap.size -> w1.frozen? ⟨b,o,none⟩=W.frozen? ⟨b,o,none⟩):=
 ⟨λb o h=>hb.cell (p:=⟨b,o,none⟩) h,λb o h=>hb.frozen (p:=⟨b,o,none⟩) h⟩
def Fs(l:List UInt8)(k num er:Int)(text:ByteArray):Prop:=
 (∃n:Nat,eC l=.err n /\ er=n /\ n≠0)∨(∃kd len nu:Nat,eC l=.tok kd len nu /\ er=0 /\ k=kd /\ num=nu /\ text=bytes (l.take len))
def AN(l:List UInt8)(e:Ending):Prop:=∃(k num er:Int) (text:ByteArray),e=.returned (.tuple #[.agg #[.int .i64 k,.string text,.int .i64 num,.int .i64 0],.int .i64 er]) /\ Fs l k num er text
def takeWhile_take{α:Type}(p:α -> Bool)(l:List α):l.take (l.takeWhile p).length=l.takeWhile p:=
 (IV.1 (Ex p)).symm
def vl(s:aH)(h0:0<s.size):s.data.toList=s[0]::s.data.toList.drop 1:=by
 have:=je s.data.toList 0 (by exact h0);rw [tc] at this;exact this
def Sy(s:aH)(w:ab)(hs:s.size <= 9223372036854775807)(he:Env w)(h0:0<s.size)(hl:gC s[0]=true):
  Calls prog 154 #[.string s] w λe w'=>AN s.data.toList e /\ Below w.heap.size w w':=by
 refine (S2 s w hs he).mono λe w' ⟨h,hb⟩=>⟨⟨_,_,_,_,h,?_⟩,hb⟩;have hn:=vO (c:=s[0]) (r:=s.data.toList.drop 1) hl;rw [←vl s h0] at hn;by_cases h16:16<(s.data.toList.takeWhile dU).length
 ·rw [if_pos h16] at hn;exact .inl ⟨3,hn,by rw [if_pos h16],Y⟩
 rw [if_neg h16] at hn;exact .inr ⟨_,_,_,hn,by rw [if_neg h16];rfl,rfl,rfl,by rw [takeWhile_take]⟩
def Sk(s:aH)(w:ab)(hs:s.size <= 9223372036854775807)(h0:0<s.size)(hl:gC s[0]=false)(hd:dR s[0]=true):
  Calls prog 156 #[.string s] w λe w'=>AN s.data.toList e /\ Below w.heap.size w w':=by
 refine (WC s w hs).mono λe w' ⟨h,hb⟩=>⟨?_,hb⟩;obtain ⟨n,_,⟨hn,h⟩|⟨hn,h⟩⟩:=h
 ·refine ⟨_,_,_,_,h,.inl ⟨2,?_,J,Y⟩⟩;rw [wG] at hn;rw [vl s h0] at hn;have hq:=yJ hl hd hn;rw [←vl s h0] at hq;exact hq
 refine ⟨_,_,_,_,h,.inr ⟨2,(s.data.toList.takeWhile dR).length,n,?_,J,J,J,by rw [takeWhile_take]⟩⟩;rw [wG] at hn;rw [vl s h0] at hn;have hq:=xA hl hd hn;rw [←vl s h0] at hq;exact hq
def YM(s:aH)(w:ab)(he:Env w)(h0:0<s.size)(hl:gC s[0]=false)(hd:dR s[0]=false):
  Calls prog 157 #[.string s] w λe w'=>AN s.data.toList e /\ Below w.heap.size w w':=by
 refine (XH s w he h0).mono λe w' ⟨h,hb⟩=>⟨?_,hb⟩;have hn:=uh (c:=s[0]) (r:=s.data.toList.drop 1) hl hd;rw [←vl s h0] at hn;by_cases hz:kD s.data.toList=0
 ·rw [if_pos hz] at hn;rw [hz] at h;exact ⟨_,_,_,_,h,.inl ⟨1,hn,rfl,Y⟩⟩
 rw [if_neg hz] at hn;refine ⟨_,_,_,_,h,.inr ⟨_,_,_,hn,by rw [if_neg hz],by rw [if_neg hz];rfl,J,J⟩⟩
def EP(s:aH)(w:ab)(hs:s.size <= 9223372036854775807)(he:Env w)(h0:0<s.size):
  Calls prog 127 #[.string s] w λe w'=>AN s.data.toList e /\ Below w.heap.size w w':=by
 by_cases hl:gC s[0]=true;focus
  go_enter func127,Tryz.ntmps127
  go_wp2_with (first|(go_at_call 153;refine (CI _ _).mono ?_;rintro e w' ⟨rfl,rfl⟩)|(go_at_call 154;refine (Sy _ _ hs (he.alloc _) h0 hl).mono ?_;rintro e w' ⟨⟨k,num,er,text,rfl,hR⟩,hb⟩;have HR:=Lib.hid hR;clear hR;obtain ⟨hc,hf⟩:=qL hb))
 rotate_left;focus
  have hl':gC s[0]=false:=tr;clear hl;by_cases hd:dR s[0]=true;focus
   go_enter func127,Tryz.ntmps127
   go_wp2_with (first|(go_at_call 153;refine (CI _ _).mono ?_;rintro e w' ⟨rfl,rfl⟩)|(go_at_call 155;refine (AG _ _).mono ?_;rintro e w' ⟨rfl,rfl⟩)|(go_at_call 156;refine (Sk _ _ hs h0 hl' hd).mono ?_;rintro e w' ⟨⟨k,num,er,text,rfl,hR⟩,hb⟩;have HR:=Lib.hid hR;clear hR;obtain ⟨hc,hf⟩:=qL hb))
  rotate_left;have hd':dR s[0]=false:=by simpa using hd
  clear hd
  go_enter func127,Tryz.ntmps127
  go_wp2_with (first|(go_at_call 153;refine (CI _ _).mono ?_;rintro e w' ⟨rfl,rfl⟩)|(go_at_call 155;refine (AG _ _).mono ?_;rintro e w' ⟨rfl,rfl⟩)|(go_at_call 157;refine (YM _ _ (he.alloc _) h0 hl' hd').mono ?_;rintro e w' ⟨⟨k,num,er,text,rfl,hR⟩,hb⟩;have HR:=Lib.hid hR;clear hR;obtain ⟨hc,hf⟩:=qL hb))
 all_goals
  refine bodyPost_ret (v:=.tuple #[.agg #[.int .i64 k,.string text,.int .i64 num,.int .i64 0],.int .i64 er]) (by simp [results,Tryz.results127,go_sem,hc]) J ?_;exact ⟨⟨_,_,_,_,J,HR.out⟩,((((Below.refl _ _).alloc (bX _) _).trans (hb.mono aL)).setCell aL _).setCell aL _|>.setCell aL _|>.setCell aL _⟩
def Tok.cells(t:Tok):List Value:=[.int .i64 t.kind,.string t.text,.int .i64 t.num,.int .i64 t.pos]
def ja(l:List Tok):List Value:=l.flatMap Tok.cells
def Cb(l:List Tok)(t:Tok):ja l++[.int .i64 t.kind,.string t.text,.int .i64 t.num,.int .i64 t.pos]=ja (l++[t]):=by simp [ja,Tok.cells]
def Nn:(prog.info? 154).map (λi=>(i.zero,i.size,i.bytes))=some (some (.agg #[.int .i64 0,.string ⟨#[]⟩,.int .i64 0,.int .i64 0]),4,40):=aQ
def VU{l:List UInt8}{k num er:Int}{text:aH}{n:Nat}(h:Fs l k num er text)(hn:eC l=.err n):er=n /\ (n:Int)≠0:=by
 rcases h with ⟨m,h1,h2,h3⟩|⟨_,_,_,h1,_⟩
 ·rw [hn] at h1;cases h1;exact ⟨h2,Y⟩
 rw [hn] at h1;cases h1
def Nq{l:List UInt8}{k num er:Int}{text:aH}{a b c:Nat}(h:Fs l k num er text)(hn:eC l=.tok a b c):er=0 /\ k=a /\ num=c /\ text=bytes (l.take b):=by
 rcases h with ⟨m,h1,h2,h3⟩|⟨_,_,_,h1,h2,h3,h4,h5⟩
 ·rw [hn] at h1;cases h1
 rw [hn] at h1;cases h1;exact ⟨h2,h3,h4,h5⟩
def VV(w:World)(s:List UInt8)(v:Value)(pos er:Int):Prop:=
 (∃l,ge s=.ok l /\ d_ w v l.length (ja l) /\ pos=s.length /\ er=0 /\ l.length <= 4001)∨(∃p e:Nat,ge s=.err p e /\ v=.slice none 0 0 /\ pos=p /\ er=e /\ e≠0)
def rF(w:World)(N:Nat)(s:List UInt8)(v:Value)(pos er:Int):Prop:=
 (∃l,ge s=.ok l /\ w.ownsRow N 154 4 v l.length (ja l) /\ pos=s.length /\ er=0 /\ l.length <= 4001)∨(∃p e:Nat,ge s=.err p e /\ v=.slice none 0 0 /\ pos=p /\ er=e /\ e≠0)
def rF.r{w:ab}{N:Nat}{s:List UInt8}{v:aN}{pos er:Int}(h:rF w N s v pos er):VV w s v pos er:=
 h.imp (λ⟨l,h1,h2,h3⟩=>⟨l,h1,d_.DS h2,h3⟩) id
def X3(a:Option Addr)(n cap:Nat)(w:ab)(hs:(262144:Int)<n):
  Calls prog 94 #[.slice a n cap] w λe w'=>e=.returned (.tuple #[.slice none 0 0,.int .i64 262144,.int .i64 3]) /\ w=w':=by
 go_enter func94,Tryz.ntmps94
 go_wp2_with fail
 go_step3
 go_wp2_with fail
 rw [Exit.noGoto_ret]
 go_ret3
 exact ⟨J,J⟩
def TF(s:aH)(a:Option Addr)(n cap:Nat)(w:ab)(he:Env w)(hn:n=s.size)(hs:s.size <= 262144)
  (hcv:(convert 58 9 (.slice a n cap)).run prog w=.ok (.string s) w):
  Calls prog 94 #[.slice a n cap] w λe w'=>(∃v pos er,e=.returned (.tuple #[v,.int .i64 pos,.int .i64 er]) /\ rF w' w.heap.size s.data.toList v pos er) /\ Below w.heap.size w w':=by
 subst hn;obtain ⟨i0,hi,hz0,hz1,hz2⟩:=info_parts Nn;have HS:=Lib.hid (show s.data.toList.length=s.size from J)
 go_enter func94,Tryz.ntmps94
 go_wp2_with fail
 go_step3
 go_wp2_with fail
 go_step3
 go_wp2_with fail
 go_loopw [6,7] (λv at_ wr=>∃(k:Nat) (toks:List Tok),at_=.int .i64 k /\ k <= s.size /\ wr.ownsRow w.heap.size 154 4 v toks.length (ja toks) /\ iD s.data.toList 0 0=gS.app toks (iD s.data.toList k toks.length) /\ toks.length <= 4000 /\ Below w.heap.size w wr) (λ_ at_ _=>s.size-(intOf at_).toNat)
 case atStart=>exact ⟨0,[],rfl,Y,ownsRow_nil _ _ _ _,by rw [gS.aG5];rfl,aL,Below.refl _ _⟩
 case round=>
  obtain ⟨k,toks,rfl,hk,hown,hlx,hlen,hbel⟩:=hrel;have heW:Env wr:=he.below hbel he.size;obtain ⟨oa,oc,rfl⟩:=yp hown;have hge:=sY s.data.toList k hk;have HLX:=Lib.hid hlx;clear hlx hcv;by_cases hend:s.size <= cb s.data.toList k
  ·go_wp2_with (first|(go_at_call 126;refine (BU _ _ _ Y hk).mono ?_;rintro e w' ⟨rfl,rfl⟩)|(at_builtin;refine wpList_append_own _ rfl _ _ 139 rfl w.heap.size 154 i0 _ 4 40 qF hi hz0 hz1 hz2 rfl V _ toks.length (ja toks) rfl (ownsRow_below hown ((Below.refl _ _).alloc (bX _) _) (bX _)) ⟨wr.heap.size,0,none⟩ 1 1 [.int .i64 5,.string ⟨#[]⟩,.int .i64 0,.int .i64 s.size] rfl rfl (Cq _ _ _) qb cN Y Dm ?_))
   intro v' w1 hown1 hgrow _;have hb1:Below w.heap.size w w1:=Below.grow (hbel.alloc hbel.size _) hgrow Dm (ownsRow_below hown ((Below.refl _ _).alloc (bX _) _) (bX _)) (bX _);clear hgrow
   go_wp2_with fail
   rw [Exit.noGoto_ret]
   go_ret3
   refine ⟨⟨_,_,_,J,.inl ⟨toks++[⟨5,⟨#[]⟩,0,s.size⟩],?_,?_,by rw [HS.out],J,dh⟩⟩,hb1⟩
   ·unfold ge;rw [if_neg Gq,HLX.out,Df (by rw [HS.out];exact hend),HS.out];rfl
   have:=hown1;rw [←Cb];simpa using this
  have hlt:cb s.data.toList k<s.size:=Y;have hx:s.extract (cb s.data.toList k) s.size=bytes (s.data.toList.drop (cb s.data.toList k)):=by
   have:=ByteArray.extract_mk s.data.toList (cb s.data.toList k) s.size;rw [show (ByteArray.mk s.data.toList.toArray)=s from by simp] at this;rw [this,bytes];congr 2;exact take_of_length_le (by rw [kL,HS.out];omega)
  have hsz:(bytes (s.data.toList.drop (cb s.data.toList k))).size=s.size-cb s.data.toList k:=by rw [bytes];show (List.drop _ _).toArray.size=_;rw [wH,kL,HS.out]
  have HZ:=Lib.hid hsz;have hbd:=wG (s.data.toList.drop (cb s.data.toList k));have HD:=Lib.hid hbd;clear hsz hbd;cases hnx:eC (s.data.toList.drop (cb s.data.toList k)) with
  |err en=>
   have HN:=Lib.hid hnx;clear hnx
   go_wp2_with (first|(go_at_call 126;refine (BU _ _ _ Y hk).mono ?_;rintro e w' ⟨rfl,rfl⟩)|(go_at_call 127;refine (EP _ _ xg heW xg).mono ?_;rintro e w1 ⟨⟨kd,num,er,text,rfl,hR⟩,hb⟩;rw [HD.out] at hR;obtain ⟨rfl,hne⟩:=VU hR HN.out;clear hR;obtain ⟨hc,hf⟩:=qL hb))
   rw [Exit.noGoto_ret]
   go_ret3
   refine ⟨⟨_,_,_,J,.inr ⟨cb s.data.toList k,en,?_,J,J,J,Y⟩⟩,(hbel.trans (hb.mono hbel.size)).alloc (iS hbel.size hb.size) _⟩;unfold ge;rw [if_neg Gq,HLX.out,DX Gg HN.out];rfl
  |tok nk len nu=>
   have hl1:=Cv (by intro h;have:=congrArg List.length h;rw [kL,HS.out] at this;simp at this;omega) hnx;rw [kL,HS.out] at hl1;have HN:=Lib.hid hnx;clear hnx;have htx:(bytes ((s.data.toList.drop (cb s.data.toList k)).take len)).size=len:=by
    rw [bytes];show (List.take _ _).toArray.size=_;rw [wH,ke,kL,HS.out];omega
   by_cases hfull:toks.length=4000
   ·have hf1:((toks.length:Int) == 4000)=true:=EY;have HF:=Lib.hid hfull;clear hfull htx
    go_wp2_with (first|(go_at_call 126;refine (BU _ _ _ Y hk).mono ?_;rintro e w' ⟨rfl,rfl⟩)|(go_at_call 127;refine (EP _ _ xg heW xg).mono ?_;rintro e w1 ⟨⟨kd,num,er,text,rfl,hR⟩,hb⟩;rw [HD.out] at hR;obtain ⟨rfl,rfl,rfl,rfl⟩:=Nq hR HN.out;clear hR;obtain ⟨hc,hf⟩:=qL hb))
    rw [Exit.noGoto_ret]
    go_ret3
    refine ⟨⟨_,_,_,J,.inr ⟨cb s.data.toList k,3,?_,J,J,J,Y⟩⟩,(hbel.trans (hb.mono hbel.size)).alloc (iS hbel.size hb.size) _⟩;unfold ge;rw [if_neg Gq,HLX.out,HF.out,DD Gg HN.out];rfl
   have hf1:((toks.length:Int) == 4000)=false:=GM;have HF:=Lib.hid hfull;have ld:toks.length<4000:=Y;clear hfull
   go_wp2_with (first|(go_at_call 126;refine (BU _ _ _ Y hk).mono ?_;rintro e w' ⟨rfl,rfl⟩)|(go_at_call 127;refine (EP _ _ xg heW xg).mono ?_;rintro e w1 ⟨⟨kd,num,er,text,rfl,hR⟩,hb⟩;rw [HD.out] at hR;obtain ⟨rfl,rfl,rfl,rfl⟩:=Nq hR HN.out;clear hR;obtain ⟨hc,hf⟩:=qL hb)|(at_builtin;refine wpList_append_own _ rfl _ _ 139 rfl w.heap.size 154 i0 _ 4 40 qF hi hz0 hz1 hz2 rfl V _ toks.length (ja toks) rfl (ownsRow_below hown ((hb.alloc hb.size _).alloc (by have:=hb.size;simp;omega) _) (bX _)) ⟨w1.heap.size+1,0,none⟩ 1 1 [.int .i64 nk,.string (bytes ((s.data.toList.drop (cb s.data.toList k)).take len)),.int .i64 nu,.int .i64 (cb s.data.toList k)] rfl rfl (sv _ _ _ _ aL) qb cN Y IL ?_))
   intro v' w2 hown2 hgrow _;have hb2:Below w.heap.size w w2:=Below.grow (((hbel.trans (hb.mono hbel.size)).alloc (iS hbel.size hb.size) _).alloc IL _) hgrow IL (ownsRow_below hown ((hb.alloc hb.size _).alloc (by have:=hb.size;simp;omega) _) (bX _)) (bX _);have hcw:∀o,w2.cell? ⟨w1.heap.size,o,none⟩=((w1.alloc (Obj.cells #[.int .i64 nk,.string (bytes ((s.data.toList.drop (cb s.data.toList k)).take len)),.int .i64 nu,.int .i64 (cb s.data.toList k)] 154)).cell? ⟨w1.heap.size,o,none⟩):=by
    intro o;rw [Xu hgrow hown hb.size dh o];exact (Below.alloc (B:=(w1.alloc (Obj.cells #[.int .i64 nk,.string (bytes ((s.data.toList.drop (cb s.data.toList k)).take len)),.int .i64 nu,.int .i64 (cb s.data.toList k)] 154)).heap.size) (Below.refl _ _) (bX _) _).cell (p:=⟨w1.heap.size,o,none⟩) aL
   clear hgrow
   go_wp2_with fail
   go_roundw
   case rel=>
    refine ⟨cb s.data.toList k+len,toks++[⟨nk,bytes ((s.data.toList.drop (cb s.data.toList k)).take len),nu,cb s.data.toList k⟩],kw,Y,?_,?_,dh,hb2⟩
    ·rw [←Cb];simpa using hown2
    rw [HLX.out,Ce (by rw [HS.out];exact hk) Gg HN.out HF.out,gS.Rd];simp
   case measure=>simp [intOf];omega
def VE(a:Option Addr)(n cap:Nat)(w:ab)(s:List UInt8)(hn:n=s.length)(hs:262144<n):
  Calls prog 94 #[.slice a n cap] w λe w'=>(∃v pos er,e=.returned (.tuple #[v,.int .i64 pos,.int .i64 er]) /\ rF w' w.heap.size s v pos er) /\ Below w.heap.size w w':=by
 refine (X3 a n cap w Y).mono λe w' ⟨h,hw⟩=>?_;subst hw;refine ⟨⟨_,_,_,h,.inr ⟨262144,3,?_,J,J,J,Y⟩⟩,Below.refl _ _⟩;unfold ge;rw [if_pos Y]
def Yf(s:List UInt8)(v:aN)(w:ab)(he:Env w)(hv:d_ w v s.length (s.map λc=>.int .u8 c.toNat)):
  Calls prog 94 #[v] w λe w'=>(∃v pos er,e=.returned (.tuple #[v,.int .i64 pos,.int .i64 er]) /\ rF w' w.heap.size s v pos er) /\ Below w.heap.size w w':=by
 obtain ⟨a,cap,rfl,hc,hcells⟩:=hv;by_cases hs:262144<s.length
 ·exact VE a _ cap w s J hs
 have aM2:(convert 58 9 (.slice a s.length cap)).run prog w=.ok (.string (bytes s)) w:=by
  rcases hcells with h0|⟨b,off,rfl,hr⟩
  ·obtain rfl:s=[]:=by simpa using h0
   cases a with
   |none=>exact run_convert_bytes_nil w _ _ kj pi _ _ _ eE
   |some a=>
    have hl:=run_loadCells_list (P:=prog) w a [] Gd;rw [run_convert_bytes_string w _ _ _ _ _ _ kj pi eE,length_nil,run_bytesToString w a 0 cap [] tr]
    rfl
  rw [run_convert_bytes_arg w _ _ kj pi b off s.length cap (s.map λc=>(c.toNat:Int)) aL ?_ _ eE]
  ·rw [strOfNums,oh,bytes];congr 3;rw [show ((λn:Int=>UInt8.ofNat n.toNat) ∘ λc:UInt8=>(c.toNat:Int))=id from by funext c;simp];simp
  intro i hi;rw [hr i (.int .u8 s[i].toNat) (by simp [hi])];simp [hi]
 have:=TF (bytes s) a s.length cap w he xi (by show (List.toArray s).size <= _;rw [wH];omega) aM2;rw [wG] at this;exact this
def dS(s:List UInt8):List Value:=s.map λc=>.int .u8 c.toNat
def n7.cell{w:ab}{b off:Nat}{s:List UInt8}(h:∀j u,(dS s)[j]?=some u -> w.cell? ⟨b,off+j,none⟩=some u)(k:Nat)(hk:k<s.length):w.cell? ⟨b,off+k,none⟩=some (.int .u8 s[k].toNat):=
 h k _ (by simp [dS,hk])
def nD(c:UInt8)(w:ab):
  Calls prog 81 #[.int .u8 c.toNat] w λe w'=>e=.returned (.bool (gC c)) /\ w=w':=by
 unfold gC;generalize (c.toNat:Int)=n
 go_enter func81,Tryz.ntmps81
 go_wp2
 all_goals (go_ret;refine ⟨qg ?_,rfl⟩;simp;try omega)
def nn(c:UInt8)(w:ab):
  Calls prog 82 #[.int .u8 c.toNat] w λe w'=>e=.returned (.bool (dR c)) /\ w=w':=by
 unfold dR;generalize (c.toNat:Int)=n
 go_enter func82,Tryz.ntmps82
 go_wp2
 all_goals (go_ret;refine ⟨qg ?_,rfl⟩;simp;try omega)
def Vl(zs:List aH)(x:aH)(k:Nat)(hk:k<zs.length)(h:x∈zs↔x∈zs.drop k):(zs[k]=x -> x∈zs) /\ (zs[k]≠x -> (x∈zs↔x∈zs.drop (k+1))):=by
 refine ⟨λe=>e▸getElem_mem hk,λe=>?_⟩;rw [h,ic hk,mem_cons];exact ⟨λh=>h.resolve_left (λe'=>e e'.symm),.inr⟩
def IR(zs:List aH)(x:aH)(v:aN)(w:ab)(hv:d_ w v zs.length (zs.map .string))(hn:zs.length <= 9223372036854775807):
  Calls prog 113 #[v,.string x] w λe w'=>e=.returned (.bool (zs.any λy=>decide (y=x))) /\ w=w':=by
 obtain ⟨a,cap,rfl,hc,hr⟩:=hv
 go_enter func113,Tryz.ntmps113
 go_wp2_with fail
 go_loop [5] (λv=>∃k:Nat,k <= zs.length /\ v=.int .i64 k /\ (x∈zs↔x∈zs.drop k)) (λv=>zs.length-(intOf v).toNat)
 case atStart=>exact ⟨0,Y,rfl,aL⟩
 case round=>
  obtain ⟨k,hk,rfl,hm⟩:=hrel;have HM:=Lib.hid hm;clear hm;by_cases hlt:k<zs.length
  ·rcases hr with h0|⟨b,off,rfl,hr⟩
   ·have:zs.length=0:=by simpa using congrArg List.length h0
    omega
   have hcell:=hr k (.string zs[k]) (by simp [hlt]);clear hr;have hst:=Vl zs x k hlt HM.out;have HST:=Lib.hid hst;clear hst;by_cases he:zs[k]=x
   ·have hm:=HST.out.1 he;have HM2:=Lib.hid hm;clear hm;have hq:=Iv he;clear he
    go_wp2_with fail
    go_ret
    refine ⟨qg ?_,J⟩;simp [HM2.out]
   have hq:=Na he;have HE:=Lib.hid he;clear he
   go_wp2_with fail
   go_round
   case rel=>exact ⟨k+1,Y,kw,HST.out.2 HE.out⟩
   case measure=>simp [intOf];omega
  clear hr
  go_wp2_with fail
  go_ret
  refine ⟨qg ?_,J⟩;have:x∉zs:=by rw [HM.out,mi Y];simp
  simp [this]
def Ej(s:aH)(w:ab):
  Calls prog 83 #[.string s] w λe w'=>e=.returned (.bool (fP s)) /\ Below w.heap.size w w':=by
 go_enter func83,Tryz.ntmps83
 go_wp2_with (first|(go_at_call 113;refine (IR words _ _ _ (d_.new w (words.map .string) 9 11) V).mono ?_;rintro e w' ⟨rfl,rfl⟩))
 go_ret
 exact ⟨J,eS⟩
def Vt(s:List UInt8)(k0:Nat)(v:aN)(w:ab)(hv:d_ w v s.length (dS s))(hs:s.length <= 1000000)(hk:k0 <= s.length):
  Calls prog 80 #[v,.int .i64 k0] w λe w'=>e=.returned (.int .i64 (cb s k0)) /\ w=w':=by
 obtain ⟨a,cap,rfl,hc,hr⟩:=hv
 go_enter func80,Tryz.ntmps80
 go_wp2_with fail
 go_loop [1] (λv=>∃k:Nat,k <= s.length /\ v=.int .i64 k /\ cb s k=cb s k0) (λv=>s.length-(intOf v).toNat)
 case atStart=>exact ⟨k0,hk,rfl,rfl⟩
 case round=>
  obtain ⟨k,hk,rfl,hm⟩:=hrel;have HM:=Lib.hid hm;clear hm;by_cases hlt:k<s.length
  ·rcases hr with h0|⟨b,off,rfl,hr⟩
   ·have:s.length=0:=Ev;omega
   have hcell:=n7.cell hr k hlt;have HR:=Lib.hid hr;clear hr;cases hsp:isSp s[k] with
   |true=>
    have hn:=NG s k hlt hsp;have HN:=Lib.hid hn;simp only [isSp,decide_eq_true_eq] at hsp;clear hn;rcases hsp with h|h|h|h
    ·have e32:((s[k].toNat:Int) == 32)=true:=pE;clear h
     go_wp2_with fail
     go_round
     case rel=>exact ⟨k+1,Y,kw,HN.out.trans HM.out⟩
     case measure=>simp [intOf];omega
    ·have e32:((s[k].toNat:Int) == 32)=false:=pE;have e9:((s[k].toNat:Int) == 9)=true:=pE;clear h
     go_wp2_with fail
     go_round
     case rel=>exact ⟨k+1,Y,kw,HN.out.trans HM.out⟩
     case measure=>simp [intOf];omega
    ·have e32:((s[k].toNat:Int) == 32)=false:=pE;have e9:((s[k].toNat:Int) == 9)=false:=pE;have e10:((s[k].toNat:Int) == 10)=false:=pE;have e13:((s[k].toNat:Int) == 13)=true:=pE;clear h
     go_wp2_with fail
     go_round
     case rel=>exact ⟨k+1,Y,kw,HN.out.trans HM.out⟩
     case measure=>simp [intOf];omega
    ·have e32:((s[k].toNat:Int) == 32)=false:=pE;have e9:((s[k].toNat:Int) == 9)=false:=pE;have e10:((s[k].toNat:Int) == 10)=true:=pE;clear h
     go_wp2_with fail
     go_round
     case rel=>exact ⟨k+1,Y,kw,HN.out.trans HM.out⟩
     case measure=>simp [intOf];omega
   |false=>
    have HP:=Lib.hid hsp;simp only [isSp,decide_eq_false_iff_not,not_or] at hsp;have f1:((s[k].toNat:Int) == 32)=false:=by rw [beq_eq_false_iff_ne];exact hsp.1
    have f2:((s[k].toNat:Int) == 9)=false:=by rw [beq_eq_false_iff_ne];exact hsp.2.1
    have f3:((s[k].toNat:Int) == 13)=false:=by rw [beq_eq_false_iff_ne];exact hsp.2.2.1
    have f4:((s[k].toNat:Int) == 10)=false:=by rw [beq_eq_false_iff_ne];exact hsp.2.2.2
    clear hsp;have stop:¬(∃h2:k+1<s.length,s[k]=47 /\ s[k+1]=47) -> cb s k0=k:=λh=>by rw [←HM.out];exact GZ s k hlt HP.out (UE hlt h)
    have STOP:=Lib.hid stop;clear stop;by_cases h1:s.length <= k+1
    ·have g1:(s.length:Int) <= k+1:=Y;have hst:=STOP.out (by rintro ⟨h,_⟩;omega);have HST:=Lib.hid hst;clear hst h1
     go_wp2_with fail
     go_ret
     exact ⟨ku (by rw [HST.out]),J⟩
    have g1:(k:Int)+1<s.length:=Y;have h1':k+1<s.length:=Y;clear h1;by_cases h2:s[k]=47
    ·have g2:=((vx s[k] 47 47 J Y).1 h2).1;have hcell2:=n7.cell HR.out (k+1) h1';have hcell3:=hcell2;rw [←ra] at hcell3;by_cases h3:s[k+1]=47
     ·have g3:=((vx s[k+1] 47 47 J Y).1 h3).1;have H2:=Lib.hid h2;have H3:=Lib.hid h3;clear h2 h3
      go_wp2_with fail
      go_hide hQ
      go_loop [1] (λv=>∃j:Nat,k <= j /\ j <= s.length /\ v=.int .i64 j /\ (s.drop k).dropWhile (·!= 10)=(s.drop j).dropWhile (·!= 10)) (λv=>s.length-(intOf v).toNat)
      case atStart=>exact ⟨k,Y,Y,rfl,rfl⟩
      case round=>
       obtain ⟨j,hkj,hj,rfl,hd⟩:=hrel;have HD:=Lib.hid hd;clear hd hcell2 hcell3 hcell;have fin:(s.drop k).dropWhile (·!= 10)=s.drop j -> cb s j=cb s k0:=λh=>(Su s k j h1' H2.out H3.out h).trans HM.out
       have FIN:=Lib.hid fin;clear fin;by_cases hje:j<s.length
       ·have hcell:=n7.cell HR.out j hje;have hst:=Q8 s k j hje HD.out;have HST:=Lib.hid hst;clear hst;by_cases h10:s[j]=10
        ·have e10:=((vx s[j] 10 10 J Y).1 h10).2;have hfin:=FIN.out (HST.out.1 h10);have hne:k≠j:=by rintro rfl;rw [H2.out] at h10;exact absurd h10 V
         have HF:=Lib.hid hfin;clear hfin h10
         go_wp2_with fail
         subst hQ
         go_wp2_with fail
         go_round
         case rel=>exact ⟨j,Y,rfl,HF.out⟩
         case measure=>simp [intOf];omega
        have e10:=((vx s[j] 10 10 J Y).2 h10).2;have hnx:=HST.out.2 h10;have HNX:=Lib.hid hnx;clear hnx h10
        go_wp2_with fail
        go_round
        case rel=>exact ⟨j+1,Y,Y,kw,HNX.out⟩
        case measure=>simp [intOf];omega
       have hfin:=FIN.out (by rw [HD.out,mi Y];rfl);have HF:=Lib.hid hfin;clear hfin
       go_wp2_with fail
       subst hQ
       go_wp2_with fail
       go_round
       case rel=>exact ⟨j,Y,rfl,HF.out⟩
       case measure=>simp [intOf];omega
     have g3:=((vx s[k+1] 47 47 J Y).2 h3).1;have hst:=STOP.out (by rintro ⟨_,_,h⟩;exact h3 h);have HST:=Lib.hid hst;clear hst h2 h3
     go_wp2_with fail
     go_ret
     exact ⟨ku (by rw [HST.out]),J⟩
    have g2:=((vx s[k] 47 47 J Y).2 h2).1;have hst:=STOP.out (by rintro ⟨_,h,_⟩;exact h2 h);have HST:=Lib.hid hst;clear hst h2
    go_wp2_with fail
    go_ret
    exact ⟨ku (by rw [HST.out]),J⟩
  clear hr
  go_wp2_with fail
  go_ret
  exact ⟨ku (by rw [←HM.out,II _ _ Y];omega),J⟩
def Tb(t:List UInt8)(k n:Nat)(hk:k<t.length)(h:fQ 0 t=fQ n (t.drop k)):
  ((9223372036854775807-(t[k].toNat-48))/10<n -> fQ 0 t=none) /\ (¬(9223372036854775807-(t[k].toNat-48))/10<n -> fQ 0 t=fQ (10*n+(t[k].toNat-48)) (t.drop (k+1))):=by
 rw [je _ k hk,fQ] at h;refine ⟨λhn=>?_,λhn=>?_⟩
 ·rw [h];exact if_pos hn
 rw [h];exact if_neg hn
def rP(t:List UInt8):Int:=match fQ 0 t with|none=>-1|some n=>n
def Sj(t:List UInt8)(v:aN)(w:ab)(hv:d_ w v t.length (dS t))(hs:t.length <= 1000000)(hd:∀c∈t,dR c=true):
  Calls prog 84 #[v] w λe w'=>e=.returned (.int .i64 (rP t)) /\ w=w':=by
 obtain ⟨a,cap,rfl,hc,hr⟩:=hv;have HA:=Lib.hid hd;clear hd
 go_enter func84,Tryz.ntmps84
 go_wp2_with fail
 go_loop [3,4] (λu v=>∃k n:Nat,k <= t.length /\ v=.int .i64 k /\ u=.int .i64 n /\ n <= 9223372036854775807 /\ fQ 0 t=fQ n (t.drop k)) (λ_ v=>t.length-(intOf v).toNat)
 case atStart=>exact ⟨0,0,Y,rfl,rfl,Y,rfl⟩
 case round=>
  obtain ⟨k,n,hk,rfl,rfl,hn,hv⟩:=hrel;by_cases hlt:k<t.length
  ·rcases hr with h0|⟨b,off,rfl,hr⟩
   ·have:t.length=0:=Ev;omega
   have hcell:=n7.cell hr k hlt;clear hr;have hst:=Tb t k n hlt hv;have hd:dR t[k]=true:=HA.out _ (getElem_mem hlt);have HS:=Lib.hid hst;clear hst hv;simp only [dR,decide_eq_true_eq] at hd;obtain ⟨hd1,hd2⟩:=hd;by_cases hov:(9223372036854775807-(t[k].toNat-48))/10<n
   ·have aK2:(9223372036854775807-((t[k].toNat:Int)-48))/10<(n:Int):=Y;have HO:=Lib.hid hov;clear hov
    go_wp2_with fail
    go_ret
    exact ⟨ku (by rw [rP,HS.out.1 HO.out]),J⟩
   have aK2:(n:Int) <= (9223372036854775807-((t[k].toNat:Int)-48))/10:=Y;have HO:=Lib.hid hov;clear hov
   go_wp2_with fail
   go_round
   case rel=>exact ⟨k+1,10*n+(t[k].toNat-48),Y,kw,kw,Y,HS.out.2 HO.out⟩
   case measure=>simp [intOf];omega
  have HV:=Lib.hid hv;clear hv hr
  go_wp2_with fail
  go_ret
  refine ⟨ku ?_,J⟩;rw [rP,HV.out,mi Y,fQ]
def F5(t:List UInt8)(a:Option Addr)(cap:Nat)(w:ab)(hv:dS t=[]∨∃b off,a=some ⟨b,off,none⟩ /\ ∀j u,(dS t)[j]?=some u -> w.cell? ⟨b,off+j,none⟩=some u):
  (convert 58 9 (.slice a t.length cap)).run prog w=.ok (.string (bytes t)) w:=by
 rcases hv with h0|⟨b,off,rfl,hr⟩
 ·obtain rfl:t=[]:=by simpa [dS] using h0
  cases a with
  |none=>exact run_convert_bytes_nil w _ _ kj pi _ _ _ eE
  |some a=>
   have hl:=run_loadCells_list (P:=prog) w a [] Gd;rw [run_convert_bytes_string w _ _ _ _ _ _ kj pi eE,length_nil,run_bytesToString w a 0 cap [] tr]
   rfl
 rw [run_convert_bytes_arg w _ _ kj pi b off t.length cap (t.map λc=>(c.toNat:Int)) aL ?_ _ eE]
 ·rw [strOfNums,oh,bytes];congr 3;rw [show ((λn:Int=>UInt8.ofNat n.toNat) ∘ λc:UInt8=>(c.toNat:Int))=id from by funext c;simp];simp
 intro i hi;rw [n7.cell hr i hi];simp [hi]
def JJ{w:ab}{b off:Nat}{s:List UInt8}(h:∀j u,(dS s)[j]?=some u -> w.cell? ⟨b,off+j,none⟩=some u)(i n:Nat):
  ∀j u,(dS ((s.drop i).take n))[j]?=some u -> w.cell? ⟨b,off+i+j,none⟩=some u:=by
 intro j u hu;have:(dS s)[i+j]?=some u:=by
  simp only [dS,nb,oy,qX] at hu⊢;split at hu
  ·exact hu
  simp at hu
 rw [ra];exact h _ _ this
def vd:List ByteArray:=[⟨#[60,61]⟩,⟨#[62,61]⟩,⟨#[61,61]⟩,⟨#[33,61]⟩,⟨#[38,38]⟩,⟨#[124,124]⟩]
def ul:List ByteArray:=[⟨#[40]⟩,⟨#[41]⟩,⟨#[123]⟩,⟨#[125]⟩,⟨#[91]⟩,⟨#[93]⟩,⟨#[44]⟩,⟨#[59]⟩,⟨#[61]⟩,⟨#[43]⟩,⟨#[45]⟩,⟨#[42]⟩,⟨#[47]⟩,⟨#[37]⟩,⟨#[60]⟩,⟨#[62]⟩,⟨#[33]⟩]
def bytes_inj{a b:List UInt8}(h:bytes a=bytes b):a=b:=by
 have:=congrArg (λx=>x.data.toList) h;simpa [bytes] using this
def Ps(L:List (List UInt8))(x:List UInt8):((L.map bytes).any λy=>decide (y=bytes x))=decide (x∈L):=by
 rw [Bool.eq_iff_iff,List.any_eq_true];simp only [lP,decide_eq_true_eq];constructor
 ·rintro ⟨y,⟨z,hz,rfl⟩,h⟩;rw [←bytes_inj h];exact hz
 intro h;exact ⟨_,⟨x,h,rfl⟩,rfl⟩
def o9{s:List UInt8}{b off:Nat}{w:ab}(hr:∀j u,(dS s)[j]?=some u -> w.cell? ⟨b,off+j,none⟩=some u)(i n cap:Nat)(hin:i+n <= s.length)(w':ab)(hw:∀o,w'.cell? ⟨b,o,none⟩=w.cell? ⟨b,o,none⟩):
  (convert 58 9 (.slice (some ⟨b,off+i,none⟩) n cap)).run prog w'=.ok (.string (bytes ((s.drop i).take n))) w':=by
 have hl:((s.drop i).take n).length=n:=PR;have:=F5 ((s.drop i).take n) (some ⟨b,off+i,none⟩) cap w' (.inr ⟨b,off+i,rfl,λj u hu=>by rw [hw];exact JJ hr i n j u hu⟩);rw [hl] at this;exact this
def MC(w:ab)(x:aH)(q:Bool)(hq:(vd.any λy=>decide (y=x))=q):
  Calls prog 113 #[.slice (some ⟨w.heap.size,0,none⟩) 6 6,.string x] (w.alloc (Obj.cells #[Value.string ⟨#[60,61]⟩,Value.string ⟨#[62,61]⟩,Value.string ⟨#[61,61]⟩,Value.string ⟨#[33,61]⟩,Value.string ⟨#[38,38]⟩,Value.string ⟨#[124,124]⟩] 9)) λe w'=>e=.returned (.bool q) /\ w.alloc (Obj.cells #[Value.string ⟨#[60,61]⟩,Value.string ⟨#[62,61]⟩,Value.string ⟨#[61,61]⟩,Value.string ⟨#[33,61]⟩,Value.string ⟨#[38,38]⟩,Value.string ⟨#[124,124]⟩] 9)=w':=by
 subst hq;exact IR vd x _ _ (d_.new w (vd.map .string) 9 6) V
def I5(w:ab)(x:aH)(k:Nat)(hk:k=w.heap.size)(q:Bool)(hq:(ul.any λy=>decide (y=x))=q):
  Calls prog 113 #[.slice (some ⟨k,0,none⟩) 17 17,.string x] (w.alloc (Obj.cells #[Value.string ⟨#[40]⟩,Value.string ⟨#[41]⟩,Value.string ⟨#[123]⟩,Value.string ⟨#[125]⟩,Value.string ⟨#[91]⟩,Value.string ⟨#[93]⟩,Value.string ⟨#[44]⟩,Value.string ⟨#[59]⟩,Value.string ⟨#[61]⟩,Value.string ⟨#[43]⟩,Value.string ⟨#[45]⟩,Value.string ⟨#[42]⟩,Value.string ⟨#[47]⟩,Value.string ⟨#[37]⟩,Value.string ⟨#[60]⟩,Value.string ⟨#[62]⟩,Value.string ⟨#[33]⟩] 9)) λe w'=>e=.returned (.bool q) /\ w.alloc (Obj.cells #[Value.string ⟨#[40]⟩,Value.string ⟨#[41]⟩,Value.string ⟨#[123]⟩,Value.string ⟨#[125]⟩,Value.string ⟨#[91]⟩,Value.string ⟨#[93]⟩,Value.string ⟨#[44]⟩,Value.string ⟨#[59]⟩,Value.string ⟨#[61]⟩,Value.string ⟨#[43]⟩,Value.string ⟨#[45]⟩,Value.string ⟨#[42]⟩,Value.string ⟨#[47]⟩,Value.string ⟨#[37]⟩,Value.string ⟨#[60]⟩,Value.string ⟨#[62]⟩,Value.string ⟨#[33]⟩] 9)=w':=by
 subst hq;exact IR ul x _ _ (d_.aGv w (ul.map .string) 9 17 k hk) V
def TJ(n k b off cap:Nat)(w:ab)(x1 x2:aH)(hk:k<n)(hc:n <= cap)(hcm:cap <= 9223372036854775807)(hn:n <= 1000000)(hkc:¬cap=k)(g2:(k:Int)+1<n)(aI6:∀O,(convert 58 9 (.slice (some ⟨b,off+k,none⟩) 2 (cap-k))).run prog (w.alloc O)=.ok (.string x2) (w.alloc O))(ha:(vd.any λy=>decide (y=x2))=true):
  Calls prog 85 #[.slice (some ⟨b,off,none⟩) n cap,.int .i64 k] w λe w'=>e=.returned (.int .i64 2) /\ Below w.heap.size w w':=by
 have HA:=Lib.hid ha;clear ha
 go_enter func85,Tryz.ntmps85
 go_wp2_with (first|(go_at_call 113;((with_reducible refine (MC _ _ _ HA.out).mono ?_);rintro e w' ⟨rfl,rfl⟩)))
 go_ret
 exact ⟨J,eS⟩
def X1(n k b off cap:Nat)(w:ab)(x1 x2:aH)(hk:k<n)(hc:n <= cap)(hcm:cap <= 9223372036854775807)(hn:n <= 1000000)(hkc:¬cap=k)(q:Bool)(g2:(k:Int)+1<n)(aI6:∀O,(convert 58 9 (.slice (some ⟨b,off+k,none⟩) 2 (cap-k))).run prog (w.alloc O)=.ok (.string x2) (w.alloc O))(aM3:∀O O',(convert 58 9 (.slice (some ⟨b,off+k,none⟩) 1 (cap-k))).run prog ((w.alloc O).alloc O')=.ok (.string x1) ((w.alloc O).alloc O'))(ha:(vd.any λy=>decide (y=x2))=false)(ha1:(ul.any λy=>decide (y=x1))=q):
  Calls prog 85 #[.slice (some ⟨b,off,none⟩) n cap,.int .i64 k] w λe w'=>e=.returned (.int .i64 (if q then 1 else 0)) /\ Below w.heap.size w w':=by
 have HA:=Lib.hid ha;clear ha;have HA1:=Lib.hid ha1;clear ha1
 go_enter func85,Tryz.ntmps85
 go_wp2_with (first|(go_at_call 113;((with_reducible refine (MC _ _ _ HA.out).mono ?_);rintro e w' ⟨rfl,rfl⟩))|(go_at_call 113;((with_reducible refine (I5 _ _ _ aL _ HA1.out).mono ?_);rintro e w' ⟨rfl,rfl⟩)))
 all_goals (go_ret;exact ⟨by simp [*],eS⟩)
def XA(n k b off cap:Nat)(w:ab)(x1 x2:aH)(hk:k<n)(hc:n <= cap)(hcm:cap <= 9223372036854775807)(hn:n <= 1000000)(hkc:¬cap=k)(q:Bool)(g2:(n:Int) <= k+1)(aM4:∀O,(convert 58 9 (.slice (some ⟨b,off+k,none⟩) 1 (cap-k))).run prog (w.alloc O)=.ok (.string x1) (w.alloc O))(ha1:(ul.any λy=>decide (y=x1))=q):
  Calls prog 85 #[.slice (some ⟨b,off,none⟩) n cap,.int .i64 k] w λe w'=>e=.returned (.int .i64 (if q then 1 else 0)) /\ Below w.heap.size w w':=by
 have HA1:=Lib.hid ha1;clear ha1
 go_enter func85,Tryz.ntmps85
 go_wp2_with (first|(go_at_call 113;((with_reducible refine (I5 _ _ _ aL _ HA1.out).mono ?_);rintro e w' ⟨rfl,rfl⟩)))
 all_goals (go_ret;exact ⟨by simp [*],eS⟩)
def Ow(s:List UInt8)(k:Nat)(b off cap:Nat)(w:ab)(hr:∀j u,(dS s)[j]?=some u -> w.cell? ⟨b,off+j,none⟩=some u)(hc:s.length <= cap)(hcm:cap <= 9223372036854775807)(hs:s.length <= 1000000)(hk:k<s.length):
  Calls prog 85 #[.slice (some ⟨b,off,none⟩) s.length cap,.int .i64 k] w λe w'=>e=.returned (.int .i64 (kD (s.drop k))) /\ Below w.heap.size w w':=by
 have hblt:b<w.heap.size:=mq (n7.cell hr k hk);have aI6:k+2 <= s.length -> ∀O,(convert 58 9 (.slice (some ⟨b,off+k,none⟩) 2 (cap-k))).run prog (w.alloc O)=.ok (.string (bytes ((s.drop k).take 2))) (w.alloc O):=λh O=>o9 hr k 2 _ h _ (λo=>o4 w O ⟨b,o,none⟩ hblt);have aM3:∀O O',(convert 58 9 (.slice (some ⟨b,off+k,none⟩) 1 (cap-k))).run prog ((w.alloc O).alloc O')=.ok (.string (bytes ((s.drop k).take 1))) ((w.alloc O).alloc O'):=λO O'=>o9 hr k 1 _ Y _ (λo=>by rw [o4 _ _ _ dh,o4 _ _ _ hblt]);have aM4:∀O,(convert 58 9 (.slice (some ⟨b,off+k,none⟩) 1 (cap-k))).run prog (w.alloc O)=.ok (.string (bytes ((s.drop k).take 1))) (w.alloc O):=λO=>o9 hr k 1 _ Y _ (λo=>o4 w O ⟨b,o,none⟩ hblt);have hd1:(s.drop k).take 1=[s[k]]:=by rw [je s k hk];rfl
 have one:¬(2 <= (s.drop k).length /\ (s.drop k).take 2∈kU) -> kD (s.drop k)=if s[k]∈j' then 1 else 0:=by
  intro h;rw [je s k hk] at h⊢;by_cases hm:s[k]∈j'
  ·rw [if_pos hm,Ei h hm]
  rw [if_neg hm,OE h hm]
 have hany:(ul.any λy=>decide (y=bytes ((s.drop k).take 1)))=decide (s[k]∈j'):=by
  rw [hd1,show ul=(j'.map λc=>[c]).map bytes from rfl,Ps];simp
 by_cases h2:k+1<s.length
 ·have aKd:(vd.any λy=>decide (y=bytes ((s.drop k).take 2)))=decide ((s.drop k).take 2∈kU):=by
   rw [show vd=kU.map bytes from rfl,Ps]
  by_cases hm:(s.drop k).take 2∈kU
  ·rw [G_ (l:=s.drop k) F3 hm];exact TJ s.length k b off cap w ⟨#[]⟩ _ hk hc hcm hs Y Y (aI6 Y) (by rw [aKd];simpa using hm)
  rw [one (λh=>hm h.2)];refine (X1 s.length k b off cap w _ _ hk hc hcm hs Y _ Y (aI6 Y) aM3 (by rw [aKd];simpa using hm) hany).mono λe w' ⟨h,hb⟩=>⟨?_,hb⟩;rw [h];refine ku ?_;by_cases hq:s[k]∈j'<;>simp [hq]
 ·rw [one (λh=>by have:=h.1;rw [kL] at this;omega)];refine (XA s.length k b off cap w _ ⟨#[]⟩ hk hc hcm hs Y _ Y aM4 hany).mono λe w' ⟨h,hb⟩=>⟨?_,hb⟩;rw [h];refine ku ?_;by_cases hq:s[k]∈j'<;>simp [hq]
def td(s:List UInt8)(k0:Nat)(z:Int)(hz:z=k0)(a:Option Addr)(cap:Nat)(w:ab)(hr:dS s=[]∨∃b off,a=some ⟨b,off,none⟩ /\ ∀j u,(dS s)[j]?=some u -> w.cell? ⟨b,off+j,none⟩=some u)(hc:s.length <= cap)(hs:s.length <= 1000000)(hk:k0 <= s.length):
  Calls prog 80 #[.slice a s.length cap,.int .i64 z] w λe w'=>e=.returned (.int .i64 (cb s k0)) /\ w=w':=by
 subst hz;exact Vt s k0 _ w ⟨a,cap,rfl,hc,hr⟩ hs hk
def vZ{s:List UInt8}{k p kind len num:Nat}{toks:List Tok}(HP:p=cb s k)(hk:k <= s.length)(hlt:p<s.length)(hN:eC (s.drop p)=.tok kind len num)(hn:toks.length≠4000)(HLX:iD s 0 0=gS.app toks (iD s k toks.length)):
  iD s 0 0=gS.app (toks++[⟨kind,bytes ((s.drop p).take len),num,p⟩]) (iD s (p+len) (toks++[(⟨kind,bytes ((s.drop p).take len),num,p⟩:Tok)]).length):=by
 subst HP;rw [HLX,Ce hk hlt hN hn,gS.Rd];simp
def vL{s:List UInt8}{k p kind len num:Nat}{toks:List Tok}(hs:s.length <= 262144)(HP:p=cb s k)(hlt:p<s.length)(hN:eC (s.drop p)=.tok kind len num)(hn:toks.length=4000)(HLX:iD s 0 0=gS.app toks (iD s k toks.length)):ge s=.err p 3:=by
 subst HP;unfold ge;rw [if_neg Y,HLX,hn,DD hlt hN];rfl
def yD{s:List UInt8}{k p e:Nat}{toks:List Tok}(hs:s.length <= 262144)(HP:p=cb s k)(hlt:p<s.length)(hN:eC (s.drop p)=.err e)(HLX:iD s 0 0=gS.app toks (iD s k toks.length)):ge s=.err p e:=by
 subst HP;unfold ge;rw [if_neg Y,HLX,DX hlt hN];rfl
def Tz{l:List UInt8}(h:fP (bytes l)=true):l.length <= 16:=by
 rw [IK] at h;have hall:∀x∈words,x.data.toList.length <= 16:=V;have:=hall _ h;rw [wG] at this;exact this
def Sp{w:ab}{a:Addr}{u:aN}{b o:Nat}(h:b≠a.block):(w.setCell a u).cell? ⟨b,o,none⟩=w.cell? ⟨b,o,none⟩:=
 Cr (a:=⟨b,o,none⟩) (Below.heap_setCell w a u b h)
def Ab{s:List UInt8}{b off:Nat}{w:ab}(hr:∀j u,(dS s)[j]?=some u -> w.cell? ⟨b,off+j,none⟩=some u)(p len cap:Nat)(hpl:p+len <= s.length)(hcl:len <= cap /\ s.length <= 1000000)(hd:∀c∈(s.drop p).take len,dR c=true)(w':ab)(hw:∀o,w'.cell? ⟨b,o,none⟩=w.cell? ⟨b,o,none⟩):
  Calls prog 84 #[.slice (some ⟨b,off+p,none⟩) len cap] w' λe w''=>e=.returned (.int .i64 (rP ((s.drop p).take len))) /\ w'=w'':=by
 have hl:((s.drop p).take len).length=len:=PR;refine Sj ((s.drop p).take len) _ w' ⟨_,cap,by rw [hl],by rw [hl];exact hcl.1,.inr ⟨b,off+p,J,λj u hu=>by rw [hw];exact JJ hr p len j u hu⟩⟩ (by rw [hl];omega) hd
def sG{s:List UInt8}{a:Option Addr}{w w':ab}(hr:dS s=[]∨∃b off,a=some ⟨b,off,none⟩ /\ ∀j u,(dS s)[j]?=some u -> w.cell? ⟨b,off+j,none⟩=some u)(hb:Below w.heap.size w w'):
  dS s=[]∨∃b off,a=some ⟨b,off,none⟩ /\ ∀j u,(dS s)[j]?=some u -> w'.cell? ⟨b,off+j,none⟩=some u:=
 hr.imp id λ⟨b,off,ha,h⟩=>⟨b,off,ha,λj u hu=>by
  have h1:=h j u hu;rw [hb.cell (p:=⟨b,off+j,none⟩) (mq h1)];exact h1⟩
def XN(s:List UInt8)(a:Option Addr)(cap:Nat)(w:ab)(hs:s.length <= 262144)(hc:s.length <= cap)(hcm:cap <= 9223372036854775807)
  (hr:dS s=[]∨∃b off,a=some ⟨b,off,none⟩ /\ ∀j u,(dS s)[j]?=some u -> w.cell? ⟨b,off+j,none⟩=some u):
  Calls prog 58 #[.slice a s.length cap] w λe w'=>(∃v pos er,e=.returned (.tuple #[v,.int .i64 pos,.int .i64 er]) /\ rF w' w.heap.size s v pos er) /\ Below w.heap.size w w':=by
 obtain ⟨i0,hi,hz0,hz1,hz2⟩:=info_parts Nn;have HR:=Lib.hid hr;clear hr
 go_enter func58,Tryz.ntmps58
 go_wp2_with (first|(go_at_call 80;refine (td s 0 _ rfl _ _ _ HR.out hc Y Y).mono ?_;rintro e w' ⟨rfl,rfl⟩))
 go_loopw [5,6] (λv at_ wr=>∃(k:Nat) (toks:List Tok),at_=.int .i64 (cb s k) /\ k <= s.length /\ wr.ownsRow w.heap.size 154 4 v toks.length (ja toks) /\ iD s 0 0=gS.app toks (iD s k toks.length) /\ toks.length <= 4000 /\ Below w.heap.size w wr) (λ_ at_ _=>s.length-(intOf at_).toNat)
 case atStart=>exact ⟨0,[],rfl,Y,ownsRow_nil _ _ _ _,by rw [gS.aG5];rfl,aL,Below.refl _ _⟩
 case round=>
  obtain ⟨k,toks,rfl,hk,hown,hlx,hlen,hbel⟩:=hrel;obtain ⟨oa,oc,rfl⟩:=yp hown;have HLX:=Lib.hid hlx;have hrr:=sG HR.out hbel;have HRR:=Lib.hid hrr;clear hlx hrr;have hle:=UI s k;by_cases hend:s.length <= cb s k
  ·have hee:cb s k=s.length:=Y;have heq:((cb s k:Int) == s.length)=true:=EY;have HE:=Lib.hid hee;clear hee
   go_wp2_with (at_builtin;refine wpList_append_own _ rfl _ _ 139 rfl w.heap.size 154 i0 _ 4 40 qF hi hz0 hz1 hz2 rfl V _ toks.length (ja toks) rfl (ownsRow_below hown ((Below.refl _ _).alloc (bX _) _) (bX _)) ⟨wr.heap.size,0,none⟩ 1 1 [.int .i64 5,.string ⟨#[]⟩,.int .i64 0,.int .i64 (cb s k)] rfl rfl (Cq _ _ _) qb cN Y Dm ?_)
   intro v' w1 hown1 hgrow _;have hb1:Below w.heap.size w w1:=Below.grow (hbel.alloc hbel.size _) hgrow Dm (ownsRow_below hown ((Below.refl _ _).alloc (bX _) _) (bX _)) (bX _);clear hgrow
   go_wp2_with fail
   go_ret3
   refine ⟨⟨_,_,_,J,.inl ⟨toks++[⟨5,⟨#[]⟩,0,s.length⟩],?_,?_,by rw [HE.out],J,dh⟩⟩,hb1⟩
   ·unfold ge;rw [if_neg Y,HLX.out,Df hend];rfl
   have:=hown1;rw [←Cb,←HE.out];simpa using this
  have hlt:cb s k<s.length:=Y;have hne:((cb s k:Int) == s.length)=false:=GM;obtain ⟨p,hp⟩:∃p,p=cb s k:=⟨_,rfl⟩;have HP:=Lib.hid hp;rw [←hp] at hlt hne hle⊢;clear hp hend;rcases HRR.out with h0|⟨b,off,rfl,hr⟩
  ·have:s.length=0:=Ev;omega
  have hblt:b<wr.heap.size:=mq (n7.cell hr p hlt);have hcell:=n7.cell hr p hlt;have HB:=Lib.hid hr;clear hr;cases hl:gC s[p] with
  |true=>
   obtain ⟨len,ld⟩:∃len,len=((s.drop p).takeWhile dU).length:=⟨_,rfl⟩;have hpl:p+len <= s.length:=by have:=(xT (l:=s.drop p) dU).length_le;rw [←ld,kL] at this;omega
   have hname:eC (s.drop p)=if 16<len then .err 3 else .tok (if fP (bytes ((s.drop p).take len)) then 3 else 1) len 0:=by
    have h1:=vO (c:=s[p]) (r:=s.drop (p+1)) hl;rw [←je s p hlt,←ld] at h1;rw [show (s.drop p).take len=(s.drop p).takeWhile dU from by rw [ld];exact takeWhile_take dU (s.drop p)];exact h1
   have hl0:0<len:=by rw [ld,je s p hlt,su (by simp [dU,hl])];simp
   have HNM:=Lib.hid hname;have HL2:=Lib.hid ld;clear ld hname
   go_wp2_with (first|(go_at_call 81;refine (nD _ _).mono ?_;rintro e w' ⟨rfl,rfl⟩))
   go_hide hQ
   go_loop [8] (λv=>∃d:Nat,d <= len /\ v=.int .i64 ((p:Int)+d) /\ len=d+(((s.drop p).drop d).takeWhile dU).length) (λv=>s.length-(intOf v).toNat)
   case atStart=>exact ⟨0,Y,aL,by rw [HL2.out];simp⟩
   case round=>
    obtain ⟨d,hd,rfl,hinv⟩:=hrel;have HI:=Lib.hid hinv;clear hinv;by_cases hlt2:p+d<s.length
    ·have g1:(p:Int)+d<s.length:=Y;have hcell2:=n7.cell HB.out (p+d) hlt2;have hst:=Bm dU (s.drop p) d F3 (by rw [←HL2.out];exact HI.out);rw [List.getElem_drop,←HL2.out] at hst;have HST:=Lib.hid hst;clear hst;cases hn:dU s[p+d] with
     |true=>
      have hnx:=HST.out.1 hn;have HNX:=Lib.hid hnx;have hdl:d+1 <= len:=Y;unfold dU at hn;have HN:=Lib.hid hn;clear hnx hn
      go_wp2_with (first|(go_at_call 81;refine (nD _ _).mono ?_;rintro e w' ⟨rfl,rfl⟩)|(go_at_call 82;refine (nn _ _).mono ?_;rintro e w' ⟨rfl,rfl⟩))
      all_goals first
       |(go_round;(case rel=>exact ⟨d+1,hdl,dh,HNX.out⟩);(case measure=>simp [intOf];omega))
       |(exfalso;have h:=HN.out;simp_all)
     |false=>
      have hnx:=HST.out.2 hn;have hdl:len=d:=hnx;unfold dU at hn;rw [Bool.or_eq_false_iff] at hn;obtain ⟨hn1,hn2⟩:=hn;subst hdl;clear hnx
      go_wp2_with (first|(go_at_call 81;((with_reducible refine (nD _ _).mono ?_);rintro e w' ⟨rfl,rfl⟩))|(go_at_call 82;((with_reducible refine (nn _ _).mono ?_);rintro e w' ⟨rfl,rfl⟩)))
      subst hQ;have hsz:=hbel.size;have hge:=sY s (p+len) hpl
      go_wp2_with (first|(rw [o9 HB.out p len _ hpl _ (λo=>o4 wr _ ⟨b,o,none⟩ hblt)];go_simp)|(go_at_call 83;((with_reducible refine (Ej _ _).mono ?_);rintro e w1 ⟨rfl,hb⟩;obtain ⟨hcc,hcf⟩:=qL hb;have GS:Below wr.heap.size wr w1:=((Below.refl _ _).alloc (bX _) _).trans (hb.mono aL);have hbW1:Below w.heap.size w w1:=hbel.trans (GS.mono hsz);have hsz1:=GS.size)))
      ·have h4:((toks.length:Int) == 4000)=true:=mB
       go_ret3
       exact ⟨⟨_,_,_,J,.inr ⟨p,3,vL hs HP.out hlt (show eC (s.drop p)=.tok 3 len 0 from by have hq:fP (bytes ((s.drop p).take len))=true:=by {assumption};rw [HNM.out,if_neg DT,if_pos hq]) uu HLX.out,rfl,rfl,rfl,Y⟩⟩,eS⟩
      ·have h4:((toks.length:Int) == 4000)=false:=mB;have h4':toks.length≠4000:=uf;have h5:toks.length<4000:=Y;have HN:=Lib.hid (show eC (s.drop p)=.tok 3 len 0 from by have hq:fP (bytes ((s.drop p).take len))=true:=by {assumption};rw [HNM.out,if_neg DT,if_pos hq]);have H4:=Lib.hid h4';clear h4'
       go_wp2_with (first|(rw [o9 HB.out p len _ hpl _ (λo=>zm)];go_simp)|(at_builtin;refine wpList_append_own _ rfl _ _ 139 rfl w.heap.size 154 i0 _ 4 40 qF hi hz0 hz1 hz2 rfl V _ toks.length (ja toks) rfl (ownsRow_below hown eS (bX _)) _ 1 1 [.int .i64 3,.string (bytes ((s.drop p).take len)),.int .i64 0,.int .i64 p] rfl rfl (sv _ _ _ _ aL) qb cN Y dh ?_))
       intro v' w2 hown2 hgrow _;have hb2:Below w.heap.size w w2:=Below.grow eS hgrow dh (ownsRow_below hown eS (bX _)) (bX _);clear hgrow
       go_wp2_with ((go_at_call 80;((with_reducible refine (td s (p+len) _ Y _ _ _ (sG HR.out hb2) hc Y hpl).mono ?_);rintro e w' ⟨rfl,rfl⟩)))
       go_roundw
       case rel=>exact ⟨p+len,toks++[⟨3,bytes ((s.drop p).take len),0,p⟩],rfl,hpl,vD,vZ HP.out hk hlt HN.out H4.out HLX.out,dh,hb2⟩
       case measure=>simp [intOf];omega
      ·go_ret3
       exact ⟨⟨_,_,_,J,.inr ⟨p,3,yD hs HP.out hlt (by rw [HNM.out,if_pos Y]) HLX.out,J,J,J,Y⟩⟩,eS⟩
      ·have h4:((toks.length:Int) == 4000)=true:=mB
       go_ret3
       exact ⟨⟨_,_,_,J,.inr ⟨p,3,vL hs HP.out hlt (show eC (s.drop p)=.tok 1 len 0 from by have hq:fP (bytes ((s.drop p).take len))=false:=by {assumption};rw [HNM.out,if_neg Y,if_neg (by simp [hq])]) uu HLX.out,rfl,rfl,rfl,Y⟩⟩,eS⟩
      have h4:((toks.length:Int) == 4000)=false:=mB;have h4':toks.length≠4000:=uf;have h5:toks.length<4000:=Y;have HN:=Lib.hid (show eC (s.drop p)=.tok 1 len 0 from by have hq:fP (bytes ((s.drop p).take len))=false:=by {assumption};rw [HNM.out,if_neg Y,if_neg (by simp [hq])]);have H4:=Lib.hid h4';clear h4'
      go_wp2_with (first|(rw [o9 HB.out p len _ hpl _ (λo=>zm)];go_simp)|(at_builtin;refine wpList_append_own _ rfl _ _ 139 rfl w.heap.size 154 i0 _ 4 40 qF hi hz0 hz1 hz2 rfl V _ toks.length (ja toks) rfl (ownsRow_below hown eS (bX _)) _ 1 1 [.int .i64 1,.string (bytes ((s.drop p).take len)),.int .i64 0,.int .i64 p] rfl rfl (sv _ _ _ _ aL) qb cN Y dh ?_))
      intro v' w2 hown2 hgrow _;have hb2:Below w.heap.size w w2:=Below.grow eS hgrow dh (ownsRow_below hown eS (bX _)) (bX _);clear hgrow
      go_wp2_with ((go_at_call 80;((with_reducible refine (td s (p+len) _ Y _ _ _ (sG HR.out hb2) hc Y hpl).mono ?_);rintro e w' ⟨rfl,rfl⟩)))
      go_roundw
      case rel=>exact ⟨p+len,toks++[⟨1,bytes ((s.drop p).take len),0,p⟩],rfl,hpl,vD,vZ HP.out hk hlt HN.out H4.out HLX.out,dh,hb2⟩
      case measure=>simp [intOf];omega
    ·have hdl:len=d:=Ja;have g1:(s.length:Int) <= p+d:=Y;subst hdl
     go_wp2_with (first|(go_at_call 81;((with_reducible refine (nD _ _).mono ?_);rintro e w' ⟨rfl,rfl⟩))|(go_at_call 82;((with_reducible refine (nn _ _).mono ?_);rintro e w' ⟨rfl,rfl⟩)))
     subst hQ;have hsz:=hbel.size;have hge:=sY s (p+len) hpl
     go_wp2_with (first|(rw [o9 HB.out p len _ hpl _ (λo=>o4 wr _ ⟨b,o,none⟩ hblt)];go_simp)|(go_at_call 83;((with_reducible refine (Ej _ _).mono ?_);rintro e w1 ⟨rfl,hb⟩;obtain ⟨hcc,hcf⟩:=qL hb;have GS:Below wr.heap.size wr w1:=((Below.refl _ _).alloc (bX _) _).trans (hb.mono aL);have hbW1:Below w.heap.size w w1:=hbel.trans (GS.mono hsz);have hsz1:=GS.size)))
     ·have h4:((toks.length:Int) == 4000)=true:=mB
      go_ret3
      exact ⟨⟨_,_,_,J,.inr ⟨p,3,vL hs HP.out hlt (show eC (s.drop p)=.tok 3 len 0 from by have hq:fP (bytes ((s.drop p).take len))=true:=by {assumption};rw [HNM.out,if_neg DT,if_pos hq]) uu HLX.out,rfl,rfl,rfl,Y⟩⟩,eS⟩
     ·have h4:((toks.length:Int) == 4000)=false:=mB;have h4':toks.length≠4000:=uf;have h5:toks.length<4000:=Y;have HN:=Lib.hid (show eC (s.drop p)=.tok 3 len 0 from by have hq:fP (bytes ((s.drop p).take len))=true:=by {assumption};rw [HNM.out,if_neg DT,if_pos hq]);have H4:=Lib.hid h4';clear h4'
      go_wp2_with (first|(rw [o9 HB.out p len _ hpl _ (λo=>zm)];go_simp)|(at_builtin;refine wpList_append_own _ rfl _ _ 139 rfl w.heap.size 154 i0 _ 4 40 qF hi hz0 hz1 hz2 rfl V _ toks.length (ja toks) rfl (ownsRow_below hown eS (bX _)) _ 1 1 [.int .i64 3,.string (bytes ((s.drop p).take len)),.int .i64 0,.int .i64 p] rfl rfl (sv _ _ _ _ aL) qb cN Y dh ?_))
      intro v' w2 hown2 hgrow _;have hb2:Below w.heap.size w w2:=Below.grow eS hgrow dh (ownsRow_below hown eS (bX _)) (bX _);clear hgrow
      go_wp2_with ((go_at_call 80;((with_reducible refine (td s (p+len) _ Y _ _ _ (sG HR.out hb2) hc Y hpl).mono ?_);rintro e w' ⟨rfl,rfl⟩)))
      go_roundw
      case rel=>exact ⟨p+len,toks++[⟨3,bytes ((s.drop p).take len),0,p⟩],rfl,hpl,vD,vZ HP.out hk hlt HN.out H4.out HLX.out,dh,hb2⟩
      case measure=>simp [intOf];omega
     ·go_ret3
      exact ⟨⟨_,_,_,J,.inr ⟨p,3,yD hs HP.out hlt (by rw [HNM.out,if_pos Y]) HLX.out,J,J,J,Y⟩⟩,eS⟩
     ·have h4:((toks.length:Int) == 4000)=true:=mB
      go_ret3
      exact ⟨⟨_,_,_,J,.inr ⟨p,3,vL hs HP.out hlt (show eC (s.drop p)=.tok 1 len 0 from by have hq:fP (bytes ((s.drop p).take len))=false:=by {assumption};rw [HNM.out,if_neg Y,if_neg (by simp [hq])]) uu HLX.out,rfl,rfl,rfl,Y⟩⟩,eS⟩
     ·have h4:((toks.length:Int) == 4000)=false:=mB;have h4':toks.length≠4000:=uf;have h5:toks.length<4000:=Y;have HN:=Lib.hid (show eC (s.drop p)=.tok 1 len 0 from by have hq:fP (bytes ((s.drop p).take len))=false:=by {assumption};rw [HNM.out,if_neg Y,if_neg (by simp [hq])]);have H4:=Lib.hid h4';clear h4'
      go_wp2_with (first|(rw [o9 HB.out p len _ hpl _ (λo=>zm)];go_simp)|(at_builtin;refine wpList_append_own _ rfl _ _ 139 rfl w.heap.size 154 i0 _ 4 40 qF hi hz0 hz1 hz2 rfl V _ toks.length (ja toks) rfl (ownsRow_below hown eS (bX _)) _ 1 1 [.int .i64 1,.string (bytes ((s.drop p).take len)),.int .i64 0,.int .i64 p] rfl rfl (sv _ _ _ _ aL) qb cN Y dh ?_))
      intro v' w2 hown2 hgrow _;have hb2:Below w.heap.size w w2:=Below.grow eS hgrow dh (ownsRow_below hown eS (bX _)) (bX _);clear hgrow
      go_wp2_with ((go_at_call 80;((with_reducible refine (td s (p+len) _ Y _ _ _ (sG HR.out hb2) hc Y hpl).mono ?_);rintro e w' ⟨rfl,rfl⟩)))
      go_roundw
      case rel=>exact ⟨p+len,toks++[⟨1,bytes ((s.drop p).take len),0,p⟩],rfl,hpl,vD,vZ HP.out hk hlt HN.out H4.out HLX.out,dh,hb2⟩
      case measure=>simp [intOf];omega
  |false=>
   cases hdg:dR s[p] with
   |true=>
    obtain ⟨len,ld⟩:∃len,len=((s.drop p).takeWhile dR).length:=⟨_,rfl⟩;have hpl:p+len <= s.length:=by have:=(xT (l:=s.drop p) dR).length_le;rw [←ld,kL] at this;omega
    have htw:(s.drop p).take len=(s.drop p).takeWhile dR:=by rw [ld];exact takeWhile_take dR (s.drop p)
    have hnn:fQ 0 ((s.drop p).take len)=none -> eC (s.drop p)=.err 2:=by
     intro h;have h1:=yJ (c:=s[p]) (r:=s.drop (p+1)) hl hdg (by rw [←je s p hlt,←htw];exact h);rw [←je s p hlt] at h1;exact h1
    have hns:∀nv,fQ 0 ((s.drop p).take len)=some nv -> eC (s.drop p)=.tok 2 len nv:=by
     intro nv h;have h1:=xA (c:=s[p]) (r:=s.drop (p+1)) hl hdg (by rw [←je s p hlt,←htw];exact h);rw [←je s p hlt,←ld] at h1;exact h1
    have aG6:Hid (∀c∈(s.drop p).take len,dR c=true):=Lib.hid (by rw [htw];exact λc hc=>(e0.1 (FN (p:=dR) (l:=s.drop p))) c hc);have hl0:0<len:=by rw [ld,je s p hlt,su hdg];simp
    have HNN:=Lib.hid hnn;have HNS:=Lib.hid hns;have HL2:=Lib.hid ld;have hsz:=hbel.size;have hge:=sY s (p+len) hpl;clear ld hnn hns htw
    go_wp2_with (first|(go_at_call 81;((with_reducible refine (nD _ _).mono ?_);rintro e w' ⟨rfl,rfl⟩))|(go_at_call 82;((with_reducible refine (nn _ _).mono ?_);rintro e w' ⟨rfl,rfl⟩)))
    go_hide hQ
    go_loop [8] (λv=>∃d:Nat,d <= len /\ v=.int .i64 ((p:Int)+d) /\ len=d+(((s.drop p).drop d).takeWhile dR).length) (λv=>s.length-(intOf v).toNat)
    case atStart=>exact ⟨0,Y,aL,by rw [HL2.out];simp⟩
    case round=>
     obtain ⟨d,hd,rfl,hinv⟩:=hrel;have HI:=Lib.hid hinv;clear hinv;by_cases hlt2:p+d<s.length
     ·have g1:(p:Int)+d<s.length:=Y;have hcell2:=n7.cell HB.out (p+d) hlt2;have hst:=Bm dR (s.drop p) d F3 (by rw [←HL2.out];exact HI.out);rw [List.getElem_drop,←HL2.out] at hst;have HST:=Lib.hid hst;clear hst;cases hn:dR s[p+d] with
      |true=>
       have hnx:=HST.out.1 hn;have HNX:=Lib.hid hnx;have hdl:d+1 <= len:=Y;clear hnx
       go_wp2_with (first|(go_at_call 81;((with_reducible refine (nD _ _).mono ?_);rintro e w' ⟨rfl,rfl⟩))|(go_at_call 82;((with_reducible refine (nn _ _).mono ?_);rintro e w' ⟨rfl,rfl⟩)))
       go_round
       case rel=>exact ⟨d+1,hdl,dh,HNX.out⟩
       case measure=>simp [intOf];omega
      |false=>
       have hdl:len=d:=HST.out.2 hn;subst hdl;cases ro:fQ 0 ((s.drop p).take len) with
       |none=>
        have hni:rP ((s.drop p).take len)=-1:=C1;have HNI:=Lib.hid hni;have HE:=Lib.hid (HNN.out ro);clear hni ro
        go_wp2_with (first|(go_at_call 81;((with_reducible refine (nD _ _).mono ?_);rintro e w' ⟨rfl,rfl⟩))|(go_at_call 82;((with_reducible refine (nn _ _).mono ?_);rintro e w' ⟨rfl,rfl⟩)))
        subst hQ
        go_wp2_with (go_at_call 84;((with_reducible refine (Ab HB.out p len _ hpl Y aG6.out _ (λo=>o4 wr _ ⟨b,o,none⟩ hblt)).mono ?_);rintro e w' ⟨rfl,rfl⟩;rw [HNI.out]))
        go_ret3
        exact ⟨⟨_,_,_,J,.inr ⟨p,2,yD hs HP.out hlt HE.out HLX.out,J,J,J,Y⟩⟩,eS⟩
       |some nv=>
        have hni:rP ((s.drop p).take len)=nv:=C1;have HNI:=Lib.hid hni;have HNM:=Lib.hid (HNS.out nv ro);clear hni ro
        go_wp2_with (first|(go_at_call 81;((with_reducible refine (nD _ _).mono ?_);rintro e w' ⟨rfl,rfl⟩))|(go_at_call 82;((with_reducible refine (nn _ _).mono ?_);rintro e w' ⟨rfl,rfl⟩)))
        subst hQ
        go_wp2_with (go_at_call 84;((with_reducible refine (Ab HB.out p len _ hpl Y aG6.out _ (λo=>o4 wr _ ⟨b,o,none⟩ hblt)).mono ?_);rintro e w' ⟨rfl,rfl⟩;rw [HNI.out]))
        ·have h4:((toks.length:Int) == 4000)=true:=mB
         go_ret3
         exact ⟨⟨_,_,_,J,.inr ⟨p,3,vL hs HP.out hlt (show eC (s.drop p)=.tok 2 len nv from HNM.out) uu HLX.out,J,J,J,Y⟩⟩,eS⟩
        have h4:((toks.length:Int) == 4000)=false:=mB;have h4':toks.length≠4000:=uf;have h5:toks.length<4000:=Y;have HN:=Lib.hid (show eC (s.drop p)=.tok 2 len nv from HNM.out);have H4:=Lib.hid h4';clear h4'
        go_wp2_with (first|(rw [o9 HB.out p len _ hpl _ (λo=>o4 wr _ ⟨b,o,none⟩ hblt)];go_simp)|(at_builtin;refine wpList_append_own _ rfl _ _ 139 rfl w.heap.size 154 i0 _ 4 40 qF hi hz0 hz1 hz2 rfl V _ toks.length (ja toks) rfl (ownsRow_below hown eS (bX _)) _ 1 1 [.int .i64 2,.string (bytes ((s.drop p).take len)),.int .i64 nv,.int .i64 p] rfl rfl (sv _ _ _ _ aL) qb cN Y dh ?_))
        intro v' w2 hown2 hgrow _;have hb2:Below w.heap.size w w2:=Below.grow eS hgrow dh (ownsRow_below hown eS (bX _)) (bX _);clear hgrow
        go_wp2_with ((go_at_call 80;((with_reducible refine (td s (p+len) _ Y _ _ _ (sG HR.out hb2) hc Y hpl).mono ?_);rintro e w' ⟨rfl,rfl⟩)))
        go_roundw
        case rel=>exact ⟨p+len,toks++[⟨2,bytes ((s.drop p).take len),nv,p⟩],rfl,hpl,vD,vZ HP.out hk hlt HN.out H4.out HLX.out,dh,hb2⟩
        case measure=>simp [intOf];omega
     ·have hdl:len=d:=Ja;have g1:(s.length:Int) <= p+d:=Y;subst hdl;cases ro:fQ 0 ((s.drop p).take len) with
      |none=>
       have hni:rP ((s.drop p).take len)=-1:=C1;have HNI:=Lib.hid hni;have HE:=Lib.hid (HNN.out ro);clear hni ro
       go_wp2_with (first|(go_at_call 81;((with_reducible refine (nD _ _).mono ?_);rintro e w' ⟨rfl,rfl⟩))|(go_at_call 82;((with_reducible refine (nn _ _).mono ?_);rintro e w' ⟨rfl,rfl⟩)))
       subst hQ
       go_wp2_with (go_at_call 84;((with_reducible refine (Ab HB.out p len _ hpl Y aG6.out _ (λo=>o4 wr _ ⟨b,o,none⟩ hblt)).mono ?_);rintro e w' ⟨rfl,rfl⟩;rw [HNI.out]))
       go_ret3
       exact ⟨⟨_,_,_,J,.inr ⟨p,2,yD hs HP.out hlt HE.out HLX.out,J,J,J,Y⟩⟩,eS⟩
      |some nv=>
       have hni:rP ((s.drop p).take len)=nv:=C1;have HNI:=Lib.hid hni;have HNM:=Lib.hid (HNS.out nv ro);clear hni ro
       go_wp2_with (first|(go_at_call 81;((with_reducible refine (nD _ _).mono ?_);rintro e w' ⟨rfl,rfl⟩))|(go_at_call 82;((with_reducible refine (nn _ _).mono ?_);rintro e w' ⟨rfl,rfl⟩)))
       subst hQ
       go_wp2_with (go_at_call 84;((with_reducible refine (Ab HB.out p len _ hpl Y aG6.out _ (λo=>o4 wr _ ⟨b,o,none⟩ hblt)).mono ?_);rintro e w' ⟨rfl,rfl⟩;rw [HNI.out]))
       ·have h4:((toks.length:Int) == 4000)=true:=mB
        go_ret3
        exact ⟨⟨_,_,_,J,.inr ⟨p,3,vL hs HP.out hlt (show eC (s.drop p)=.tok 2 len nv from HNM.out) uu HLX.out,J,J,J,Y⟩⟩,eS⟩
       ·have h4:((toks.length:Int) == 4000)=false:=mB;have h4':toks.length≠4000:=uf;have h5:toks.length<4000:=Y;have HN:=Lib.hid (show eC (s.drop p)=.tok 2 len nv from HNM.out);have H4:=Lib.hid h4';clear h4'
        go_wp2_with (first|(rw [o9 HB.out p len _ hpl _ (λo=>o4 wr _ ⟨b,o,none⟩ hblt)];go_simp)|(at_builtin;refine wpList_append_own _ rfl _ _ 139 rfl w.heap.size 154 i0 _ 4 40 qF hi hz0 hz1 hz2 rfl V _ toks.length (ja toks) rfl (ownsRow_below hown eS (bX _)) _ 1 1 [.int .i64 2,.string (bytes ((s.drop p).take len)),.int .i64 nv,.int .i64 p] rfl rfl (sv _ _ _ _ aL) qb cN Y dh ?_))
        intro v' w2 hown2 hgrow _;have hb2:Below w.heap.size w w2:=Below.grow eS hgrow dh (ownsRow_below hown eS (bX _)) (bX _);clear hgrow
        go_wp2_with ((go_at_call 80;((with_reducible refine (td s (p+len) _ Y _ _ _ (sG HR.out hb2) hc Y hpl).mono ?_);rintro e w' ⟨rfl,rfl⟩)))
        go_roundw
        case rel=>exact ⟨p+len,toks++[⟨2,bytes ((s.drop p).take len),nv,p⟩],rfl,hpl,vD,vZ HP.out hk hlt HN.out H4.out HLX.out,dh,hb2⟩
        case measure=>simp [intOf];omega
   |false=>
    obtain ⟨len,ld⟩:∃len,len=kD (s.drop p):=⟨_,rfl⟩;have hpl:p+len <= s.length:=by have:=(I1 (s.drop p)).2;rw [←ld,kL] at this;omega
    have hsn:=uh (c:=s[p]) (r:=s.drop (p+1)) hl hdg;rw [←je s p hlt,←ld] at hsn;have hsz:=hbel.size;have hge:=sY s (p+len) hpl;have HSN:=Lib.hid hsn;clear hsn;have HSG:=Lib.hid ld;clear ld;by_cases h0:len=0
    ·have HE:=Lib.hid (show eC (s.drop p)=.err 1 by rw [HSN.out,if_pos h0]);have hq:((p:Int)+len == p)=true:=EY;have H0:=Lib.hid h0;clear h0
     go_wp2_with (first|(go_at_call 81;((with_reducible refine (nD _ _).mono ?_);rintro e w' ⟨rfl,rfl⟩))|(go_at_call 82;((with_reducible refine (nn _ _).mono ?_);rintro e w' ⟨rfl,rfl⟩))|(go_at_call 85;((with_reducible refine (Ow s p b off cap _ (λj u hu=>Jw) hc hcm Y hlt).mono ?_);rintro e w1 ⟨rfl,hb⟩;rw [←HSG.out];obtain ⟨hcc,hcf⟩:=qL hb;have GS:Below wr.heap.size wr w1:=((Below.refl _ _).alloc (bX _) _).trans (hb.mono aL);have hbW1:Below w.heap.size w w1:=hbel.trans (GS.mono hsz);have hsz1:=GS.size)))
     go_ret3
     exact ⟨⟨_,_,_,J,.inr ⟨p,1,yD hs HP.out hlt HE.out HLX.out,J,J,J,Y⟩⟩,eS⟩
    have HNM:=Lib.hid (show eC (s.drop p)=.tok 4 len 0 by rw [HSN.out,if_neg h0]);have hq:((p:Int)+len == p)=false:=GM;have hl0:0<len:=Y;clear h0
    go_wp2_with (first|(go_at_call 81;((with_reducible refine (nD _ _).mono ?_);rintro e w' ⟨rfl,rfl⟩))|(go_at_call 82;((with_reducible refine (nn _ _).mono ?_);rintro e w' ⟨rfl,rfl⟩))|(go_at_call 85;((with_reducible refine (Ow s p b off cap _ (λj u hu=>Jw) hc hcm Y hlt).mono ?_);rintro e w1 ⟨rfl,hb⟩;rw [←HSG.out];obtain ⟨hcc,hcf⟩:=qL hb;have GS:Below wr.heap.size wr w1:=((Below.refl _ _).alloc (bX _) _).trans (hb.mono aL);have hbW1:Below w.heap.size w w1:=hbel.trans (GS.mono hsz);have hsz1:=GS.size)))
    ·have h4:((toks.length:Int) == 4000)=true:=mB
     go_ret3
     exact ⟨⟨_,_,_,J,.inr ⟨p,3,vL hs HP.out hlt (show eC (s.drop p)=.tok 4 len 0 from HNM.out) uu HLX.out,J,J,J,Y⟩⟩,eS⟩
    have h4:((toks.length:Int) == 4000)=false:=mB;have h4':toks.length≠4000:=uf;have h5:toks.length<4000:=Y;have HN:=Lib.hid (show eC (s.drop p)=.tok 4 len 0 from HNM.out);have H4:=Lib.hid h4';clear h4'
    go_wp2_with (first|(rw [o9 HB.out p len _ hpl _ (λo=>zm)];go_simp)|(at_builtin;refine wpList_append_own _ rfl _ _ 139 rfl w.heap.size 154 i0 _ 4 40 qF hi hz0 hz1 hz2 rfl V _ toks.length (ja toks) rfl (ownsRow_below hown eS (bX _)) _ 1 1 [.int .i64 4,.string (bytes ((s.drop p).take len)),.int .i64 0,.int .i64 p] rfl rfl (sv _ _ _ _ aL) qb cN Y dh ?_))
    intro v' w2 hown2 hgrow _;have hb2:Below w.heap.size w w2:=Below.grow eS hgrow dh (ownsRow_below hown eS (bX _)) (bX _);clear hgrow
    go_wp2_with ((go_at_call 80;((with_reducible refine (td s (p+len) _ Y _ _ _ (sG HR.out hb2) hc Y hpl).mono ?_);rintro e w' ⟨rfl,rfl⟩)))
    go_roundw
    case rel=>exact ⟨p+len,toks++[⟨4,bytes ((s.drop p).take len),0,p⟩],rfl,hpl,vD,vZ HP.out hk hlt HN.out H4.out HLX.out,dh,hb2⟩
    case measure=>simp [intOf];omega
def UL(a:Option Addr)(n cap:Nat)(w:ab)(hs:(262144:Int)<n):
  Calls prog 58 #[.slice a n cap] w λe w'=>e=.returned (.tuple #[.slice none 0 0,.int .i64 262144,.int .i64 3]) /\ w=w':=by
 go_enter func58,Tryz.ntmps58
 go_wp2_with fail
 go_ret3
 exact ⟨J,J⟩
def WE(s:List UInt8)(v:aN)(w:ab)(hv:d_ w v s.length (dS s))(hcm:∀a n c,v=.slice a n c -> c <= 9223372036854775807):
  Calls prog 58 #[v] w λe w'=>(∃v pos er,e=.returned (.tuple #[v,.int .i64 pos,.int .i64 er]) /\ rF w' w.heap.size s v pos er) /\ Below w.heap.size w w':=by
 obtain ⟨a,cap,rfl,hc,hr⟩:=hv;by_cases hs:262144<s.length
 ·refine (UL a _ cap w Y).mono λe w' ⟨h,hw⟩=>?_;subst hw;refine ⟨⟨_,_,_,h,.inr ⟨262144,3,?_,J,J,J,Y⟩⟩,Below.refl _ _⟩;unfold ge;rw [if_pos Y]
 exact XN s a cap w Y hc (hcm _ _ _ J) hr
abbrev ca(s:List UInt8):List aO:=s.map λc=>.val (.int .u8 c.toNat)
def Dv(s:List UInt8)(t:AT):Prop:=
 (∃l,ge s=.ok l /\ t=.fd [.c (aB dY l),an (s.length:Int),ae 0] /\ l.length <= 4001)∨(∃p e:Nat,ge s=.err p e /\ t=.fd [.c (aK),an (p:Int),an (e:Int)] /\ e≠0)
def P5{N:List Nat}{w:ab}{base:Nat}{e:bA}{size:Nat}{v:aN}{n:Nat}{xs:List aN}(h:w.ownsRow base e size v n xs)(hN:∀x,x∈N -> x<base):d_ (bj N w) v n xs:=by
 obtain ⟨h1,h2⟩:=h;have h9:=d_.DS (⟨h1,h2⟩:w.ownsRow base e size v n xs);rcases h2 with ⟨rfl,rfl⟩|⟨g,cap,cur,rfl,hg,-⟩
 ·obtain rfl:xs=[]:=ym sn;exact .nil _
 obtain ⟨a,c,he,hc,hr⟩:=h9;refine ⟨a,c,he,hc,?_⟩;rcases hr with h0|⟨b,off,rfl,hr⟩
 ·exact .inl h0
 cases he;refine .inr ⟨g,0,J,λj v hj=>?_⟩;rw [pH]
 ·exact hr j v hj
 intro hm;have h9:g<base:=hN g hm;omega
def BV(l:List Tok):l.flatMap dY=(ja l).map .val:=by
 induction l with
 |nil=>rfl
 |cons t l ih=>rw [ec,ih];unfold ja;rw [ec,fL];rfl
def QE(l:List Tok):∀u,u∈ja l -> u.oneCell'=true:=by
 intro u hu;unfold ja at hu;obtain ⟨t,_,h⟩:=ky.1 hu;unfold Tok.cells at h;simp only [mem_cons,not_mem_nil,or_false] at h;rcases h with rfl|rfl|rfl|rfl<;>rfl
def Me{w:ab}{v:aN}{n:Nat}{s:List UInt8}(h:cU w (.c (.sl n (ca s))) v):d_ w v n (dS s) /\ ∀a k c,v=.slice a k c -> c <= 9223372036854775807:=by
 cases h with
 |c _ _ h=>cases h with
  |sl _ _ us _ hr hl hh hcap=>
   refine ⟨?_,hcap⟩;have:us=dS s:=by
    refine oR (by rw [hl];simp [ca,dS]) λi h1 h2=>?_;have h3:=hh i (by rw [←hl];exact h1) h1;generalize hx:(ca s)[i]'(by rw [←hl];exact h1)=x at h3;unfold ca at hx;rw [rE] at hx;subst hx;have hi:i<s.length:=by simpa [dS] using h2
    have h4:us[i]=.int .u8 s[i].toNat:=by
     generalize us[i]=u at h3;cases h3;rfl
    rw [h4];simp [dS]
   rw [←this];exact hr
def TU{F:FuncId}{bs:List UInt8}{s:aJ}(W:ab -> Prop)(hW:∀w,Mem s w -> W w)(hF:∀v w,W w -> d_ w v bs.length (dS bs) -> (∀a k c,v=.slice a k c -> c <= 9223372036854775807) -> Calls prog F #[v] w λe w'=>(∃v pos er,e=.returned (.tuple #[v,.int .i64 pos,.int .i64 er]) /\ rF w' w.heap.size bs v pos er) /\ Below w.heap.size w w'):
  aU prog F [.c (.sl bs.length (ca bs))] [] s λt s'=>Dv bs t /\ s'=s:=by
 intro vs w hm _ hl hr;obtain ⟨v,rfl⟩:∃v,vs=[v]:=by
  cases vs with
  |nil=>cases hl
  |cons v vs=>cases vs with
   |nil=>exact ⟨v,rfl⟩
   |cons _ _=>simp at hl
 obtain ⟨hv,hcap⟩:=Me (hr 0 aL aL);refine (hF v w (hW w hm) (hv.mono λa u h=>(pY h).1) hcap).mono λe w' ⟨⟨v',pos,er,he,hf⟩,hb⟩=>?_;have hk:cQ [] w w':=cQ.of_below hb;have hu:f7 (bj s.bl w) (bj s.bl w'):=lb hk jM (λb h=>.inl h);obtain ⟨m1,m2⟩:=hm.up hu Ij;have hm':Mem s w':=⟨hm.nodup,λb hb'=>mK (hm.lt b hb') hk.size,m1,m2⟩;have t3:∀(x:AT)(p e2:Int),cU (bj s.bl w') x v' -> cU (bj s.bl w') (.fd [x,an p,an e2]) (.tuple #[v',.int .i64 p,.int .i64 e2]):=λx p e2 hx=>by
  refine .fd _ [v',.int .i64 p,.int .i64 e2] J λi h h'=>?_
  match i,h,h' with
  |0,_,_=>exact hx
  |1,_,_=>exact .c _ _ (.val _ rfl)
  |2,_,_=>exact .c _ _ (.val _ rfl)
 subst he;rcases hf with ⟨l,h1,h2,rfl,rfl,h3⟩|⟨p,e2,h1,rfl,rfl,rfl,h2⟩
 ·refine ⟨_,_,s,J,⟨.inl ⟨l,h1,J,h3⟩,J⟩,t3 _ _ _ (.c _ _ (.sl _ _ (ja l) _ (P5 h2 hm.lt) ?_ ?_ ?_)),hm',hk,λb hb=>.inl hb⟩
  ·rw [BV];simp
  ·rw [BV];exact (nc _ _ (QE l)).at_
  exact A9 h2
 exact ⟨_,_,s,J,⟨.inr ⟨p,e2,h1,J,h2⟩,J⟩,t3 _ _ _ (.c _ _ (.val _ J)),hm',hk,λb hb=>.inl hb⟩
def J5(bs:List UInt8)(s:aJ):aU prog 58 [.c (.sl bs.length (ca bs))] [] s λt s'=>Dv bs t /\ s'=s:=
 TU (λ_=>True) (λ_ _=>trivial) λv w _ hv hc=>WE bs v w hv hc
section
variable {P:Program}{U T:List Nat}{o:Oper}{n d:Nat}{ts:List (Nat×AT)}{s:aJ}{K:AS -> Prop}
theorem o_{F:FuncId}{x:bb}{fst cap:Array aN}{ks:Array bb}{ph:Array bA}{us:List AT}(T':List Nat){QQ:AT -> aJ -> Prop}(ho:o.op=.call {callee:=.value x,args:=ks,argTypes:=ph})(hx:aw ⟨n,T,s,ts⟩ x=some (av (.func (.func F) fst cap)))(hd:o.dst=some d)(hn:d<n)
  (hcf:∀args w,(callFunc F args).run P w=.ok (.enter F args) w) (has:ks.toList.map (aw ⟨n,T,s,ts⟩)=us.map some) (hc:aU P F (fst.toList.map gb++us++cap.toList.map gb) T' s QQ) (hT:∀b,b∈T' -> b∈T) (rg:∀b,b∈T' -> b∈s.bl) (hU:s.bl.Nodup -> ∀b,b∈T' -> b∈U)
  (h:∀r s',QQ r s' -> ∃T2,(s'.bl.Nodup -> ∀b,b∈T2 -> b∈s'.bl /\ (b∈s.bl -> b∈T)) /\ K ⟨n,T2++T,s',(d,r)::ts⟩):dZ P U o ⟨n,T,s,ts⟩ K:=by
 intro a w hs KK QQ' hK;obtain ⟨h1,h2⟩:=pV hs has;obtain ⟨c1,c2⟩:=Ck (bj s.bl w) fst.toList;obtain ⟨gD,gt⟩:=Ck (bj s.bl w) cap.toList;obtain ⟨g1,g2⟩:=BR c1 c2 h1 h2;obtain ⟨g3,g4⟩:=BR g1 g2 gD gt;unfold Oper.wp;rw [show (execOp a.eval o).run P w=.ok (.enter F (fst.toList++ks.toList.map a.eval++cap.toList).toArray) w from by
  simp only [execOp,ho,resolve,hs.val hx,Deferred.ofValue,dI,fj,ei,invoke];rw [hcf]
  congr 2
  rw [←oj];simp,Oper.upon_enter]
 refine (hc _ w hs.mem rg g3 g4).mono ?_;rintro en w' ⟨r,v,s',rfl,hq,hr,hm,hk,hb⟩;dsimp only;rw [hd];obtain ⟨T2,ht,hK2⟩:=h r s' hq;have s1:=hs.step (T2++T) (hk.mono rg) hm hb;refine hK _ _ _ hK2 (s1.put hn hr) ⟨hk.mono rg,hk.mono hT,hb,λb hb2=>?_⟩ (hk.mono (hU hs.mem.nodup));rcases mem_append.1 hb2 with hb2|hb2
 ·obtain ⟨aj,e2⟩:=ht hm.nodup b hb2;exact (hb b aj).imp e2 id
 exact .inl hb2
theorem Hx{bx bx':List aV}{r r':aP}{rw:List aP}{b:Nat}(hb:bx'.map aV.b=bx.map aV.b)(hn:(⟨bx',r'::rw⟩:aJ).bl.Nodup)(h1:b∈aR r'.v)(h2:b∈(⟨bx,r::rw⟩:aJ).bl):b∈aR r.v:=by
 unfold aJ.bl at hn h2;simp only [ec,mem_append] at h2;simp only [ec] at hn;rw [hb] at hn;rcases h2 with h|h|h
 ·exact absurd J ((eN.1 hn).2.2 b h b (gR _ h1))
 ·exact h
 exact absurd J ((eN.1 (eN.1 hn).2.1).2.2 b h1 b h)
end
end
section
open Go.RowKit
def KC(places:Bool)(l m:List Tok):Prop:=l.length=m.length /\ ∀k (h:k<l.length) (h':k<m.length),l[k].kind=m[k].kind /\ l[k].text=m[k].text /\ l[k].num=m[k].num /\ (places=true -> l[k].pos=m[k].pos)
def KC.refl(p:Bool)(l:List Tok):KC p l l:=⟨rfl,λ_ _ _=>⟨rfl,rfl,rfl,λ_=>rfl⟩⟩
abbrev GL(bs:List UInt8)(m:Int):AT:=.fact (.fact (.c (.sl bs.length (ca bs))) 0 0 (words.map λx=>ah x)) 2 0 [aA m]
def L5{t:AT}{b o:Nat}{cs:List aO}:bL (.fact t b o cs) t:=λw v h=>by cases h with|fact _ _ _ _ us _ h _ _=>exact h
def UU{bs:List UInt8}{m:Int}:bL (GL bs m) (.c (.sl bs.length (ca bs))):=λw v h=>L5 w v (L5 w v h)
def zw{w:ab}{us vs:List aN}(h:dV w (vs.map .val) us):us=vs:=by
 refine oR (by have:=h.len;simpa using this) λi h1 h2=>?_;have h3:=h.at_ i pf h1;generalize hx:(vs.map aO.val)[i]'(by simpa using h2)=x at h3;rw [rE] at hx;subst hx;generalize us[i]=u at h3;cases h3;rfl
def W_{bl:List Nat}{w:ab}{bs:List UInt8}{m:Int}{v:aN}(h:cU (bj bl w) (GL bs m) v):Env w:=by
 cases h with
 |fact _ _ _ _ us2 _ h hm hma=>
  cases h with
  |fact _ _ _ _ us _ _ hw hwa=>
   obtain rfl:us2=[.int .i64 m]:=zw (vs:=[.int .i64 m]) hm;obtain rfl:us=words.map .string:=zw (vs:=words.map .string) (by rw [oh];exact hw);have h1:∀j,j<words.length -> w.cell? ⟨0,0+j,none⟩=some (.string (words.getD j ByteArray.empty)):=λj hj=>by
    refine (pY (hwa j _ ?_)).1;rw [nb,k_ hj];simp [List.getD,hj]
   have h2:w.cell? ⟨2,0,none⟩=some (.int .i64 m):=(pY (hma 0 _ J)).1;refine ⟨h1,⟨m,h2⟩,?_⟩;have aj:=mq (h1 0 V);have e2:=mq h2;exact Nat.succ_le_of_lt (Nat.max_lt.2 ⟨aj,e2⟩)
def Rw{F:FuncId}{bs:List UInt8}{s:aJ}{t0:AT}(hF:∀v w,cU (bj s.bl w) t0 v -> Calls prog F #[v] w λe w'=>(∃v pos er,e=.returned (.tuple #[v,.int .i64 pos,.int .i64 er]) /\ rF w' w.heap.size bs v pos er) /\ Below w.heap.size w w'):
  aU prog F [t0] [] s λt s'=>Dv bs t /\ s'=s:=by
 intro vs w hm _ hl hr;obtain ⟨v,rfl⟩:∃v,vs=[v]:=by
  cases vs with
  |nil=>cases hl
  |cons v vs=>cases vs with
   |nil=>exact ⟨v,rfl⟩
   |cons _ _=>simp at hl
 refine (hF v w (hr 0 aL aL)).mono λe w' ⟨⟨v',pos,er,he,hf⟩,hb⟩=>?_;have hk:cQ [] w w':=cQ.of_below hb;have hu:f7 (bj s.bl w) (bj s.bl w'):=lb hk jM (λb h=>.inl h);obtain ⟨m1,m2⟩:=hm.up hu Ij;have hm':Mem s w':=⟨hm.nodup,λb hb'=>mK (hm.lt b hb') hk.size,m1,m2⟩;have t3:∀(x:AT)(p e2:Int),cU (bj s.bl w') x v' -> cU (bj s.bl w') (.fd [x,an p,an e2]) (.tuple #[v',.int .i64 p,.int .i64 e2]):=λx p e2 hx=>by
  refine .fd _ [v',.int .i64 p,.int .i64 e2] J λi h h'=>?_
  match i,h,h' with
  |0,_,_=>exact hx
  |1,_,_=>exact .c _ _ (.val _ rfl)
  |2,_,_=>exact .c _ _ (.val _ rfl)
 subst he;rcases hf with ⟨l,h1,h2,rfl,rfl,h3⟩|⟨p,e2,h1,rfl,rfl,rfl,h2⟩
 ·refine ⟨_,_,s,J,⟨.inl ⟨l,h1,J,h3⟩,J⟩,t3 _ _ _ (.c _ _ (.sl _ _ (ja l) _ (P5 h2 hm.lt) ?_ ?_ ?_)),hm',hk,λb hb=>.inl hb⟩
  ·rw [BV];simp
  ·rw [BV];exact (nc _ _ (QE l)).at_
  exact A9 h2
 exact ⟨_,_,s,J,⟨.inr ⟨p,e2,h1,J,h2⟩,J⟩,t3 _ _ _ (.c _ _ (.val _ J)),hm',hk,λb hb=>.inl hb⟩
def FE(bs:List UInt8)(m:Int)(s:aJ):aU prog 94 [GL bs m] [] s λt s'=>Dv bs t /\ s'=s:=
 Rw λv w h=>Yf bs v w (W_ h) ((Me (UU _ _ h)).1.mono λa u h=>(pY h).1)
section
variable {P:Program}{U T:List Nat}{o:Oper}{n d:Nat}{ts:List (Nat×AT)}{s:aJ}{K:AS -> Prop}
theorem rr{F:FuncId}{ks:Array bb}{ph:Array bA}{us:List AT}(T':List Nat){QQ:AT -> aJ -> Prop}(ho:o.op=.call {callee:=.value (.func F),args:=ks,argTypes:=ph})(hd:o.dst=some d)(hn:d<n)
  (hcf:∀args w,(callFunc F args).run P w=.ok (.enter F args) w) (has:ks.toList.map (aw ⟨n,T,s,ts⟩)=us.map some) (hc:aU P F us T' s QQ) (hT:∀b,b∈T' -> b∈T) (rg:∀b,b∈T' -> b∈s.bl) (hU:s.bl.Nodup -> ∀b,b∈T' -> b∈U)
  (h:∀r s',QQ r s' -> ∃T2,(s'.bl.Nodup -> ∀b,b∈T2 -> b∈s'.bl /\ (b∈s.bl -> b∈T)) /\ K ⟨n,T2++T,s',(d,r)::ts⟩):dZ P U o ⟨n,T,s,ts⟩ K:=by
 intro a w hs KK QQ' hK;obtain ⟨h1,h2⟩:=pV hs has;unfold Oper.wp;rw [show (execOp a.eval o).run P w=.ok (.enter F (ks.toList.map a.eval).toArray) w from by
  simp only [execOp,ho,resolve,Deferred.ofValue,Act.eval,dI,fj,ei,invoke];rw [hcf]
  congr 2
  rw [←oj];simp,Oper.upon_enter]
 refine (hc _ w hs.mem rg h1 h2).mono ?_;rintro en w' ⟨r,v,s',rfl,hq,hr,hm,hk,hb⟩;dsimp only;rw [hd];obtain ⟨T2,ht,hK2⟩:=h r s' hq;have s1:=hs.step (T2++T) (hk.mono rg) hm hb;refine hK _ _ _ hK2 (s1.put hn hr) ⟨hk.mono rg,hk.mono hT,hb,λb hb2=>?_⟩ (hk.mono (hU hs.mem.nodup));rcases mem_append.1 hb2 with hb2|hb2
 ·obtain ⟨aj,e2⟩:=ht hm.nodup b hb2;exact (hb b aj).imp e2 id
 exact .inl hb2
theorem G8{bx bx':List aV}{rs rs' rw:List aP}{b:Nat}(hb:bx'.map aV.b=bx.map aV.b)(hn:(⟨bx',rs'++rw⟩:aJ).bl.Nodup)(h1:b∈rs'.flatMap λr=>aR r.v)(h2:b∈(⟨bx,rs++rw⟩:aJ).bl):b∈rs.flatMap λr=>aR r.v:=by
 unfold aJ.bl at hn h2;simp only [dj,mem_append] at h2;simp only [dj] at hn;rw [hb] at hn;rcases h2 with h|h|h
 ·exact absurd J ((eN.1 hn).2.2 b h b (gR _ h1))
 ·exact h
 exact absurd J ((eN.1 (eN.1 hn).2.1).2.2 b h1 b h)
end
end
section
open Go.RowKit
def grownCap_le(w:ab)(n:Nat)(e:bA)(hn:n<9223372036854775808):n <= grownCap w n 0 e /\ grownCap w n 0 e <= 9223372036854775807:=by
 unfold grownCap Question.cut;have:w.tape w.drawn (.appendCap n 0 e)%(2 ^ 63-n)<2 ^ 63-n:=Nat.mod_lt _ Y;simp only;omega
def S9(w:ab)(s:aH)(c:Nat)(T:bA)(hc:s.size <= c)(fr:Nat×Nat):d_ (w.drew.alloc (.cells (bytesRow s c) T fr)) (.slice (some ⟨w.heap.size,0,none⟩) s.size c) s.data.toList.length (dS s.data.toList):=by
 refine ⟨_,_,J,hc,.inr ⟨_,0,J,λj u hu=>?_⟩⟩;have hm:=World.cell?_alloc_mark w.drew (bytesRow s c) T fr j;rw [cp];have e:(⟨w.drew.heap.size,j,none⟩:Addr)=⟨w.heap.size,j,none⟩:=J;rw [←e,hm];have hj:j<s.data.toList.length:=by
  have:=(m6.1 hu).1;simpa [dS] using this
 unfold bytesRow;rw [He (by simpa using hj)];simp only [dS,nb] at hu;simpa using hu
end
section
inductive cJ (α:Type) where
 |ok (x:α) (k:Nat)
 |err (k e:Nat)
def dm(l:List Tok)(k:Nat):Tok:=l.getD k default
def nX{l:List Tok}{k:Nat}(h:k<l.length):dm l k=l[k]:=by unfold dm;rw [EK,k_ h];rfl
def binOp(s:ByteArray):Nat×Nat:=
 if s=bytes [124,124] then (17,1) else if s=bytes [38,38] then (16,2) else if s=bytes [61,61] then (14,3) else if s=bytes [33,61] then (15,3) else
 if s=bytes [60] then (10,3) else if s=bytes [60,61] then (11,3) else if s=bytes [62] then (12,3) else if s=bytes [62,61] then (13,3) else
 if s=bytes [43] then (8,4) else if s=bytes [45] then (9,4) else if s=bytes [42] then (5,5) else if s=bytes [47] then (6,5) else if s=bytes [37] then (7,5) else (0,0)
def fZ(l:List Tok)(k:Nat)(s:List UInt8):Bool:=decide ((dm l k).kind=4) && decide ((dm l k).text=bytes s)
def jf(l:List Tok)(sub:Nat -> cJ aS)(level:Nat):Nat -> aS -> Nat -> cJ aS
 |0,x,k=>.ok x k
 |n+1,x,k=>
  if (dm l k).kind=4 /\ (binOp (dm l k).text).2=level then
   match sub (k+1) with
   |.ok y k'=>jf l sub level n (.mk ((binOp (dm l k).text).1:Int) 0 a_ [x,y]) k'
   |.err a e=>.err a e
  else .ok x k
def ig(l:List Tok)(single:Nat -> cJ aS):Nat -> Nat -> cJ aS
 |0,k=>single k
 |j+1,k=>
  match ig l single j k with
  |.ok x k'=>jf l (ig l single j) (5-j) (l.length+1) x k'
  |.err a e=>.err a e
def AL(op:Int):cJ aS -> cJ aS
 |.ok x k=>.ok (.mk op 0 a_ [x]) k
 |.err a e=>.err a e
def GT(l:List Tok):cJ aS -> cJ aS
 |.ok x k=>if fZ l k [41] then .ok x (k+1) else .err k 4
 |.err a e=>.err a e
def e_(l:List Tok):Nat -> Nat -> cJ aS
 |0,k=>
  if (dm l k).kind=2 then .ok (.mk 1 (dm l k).num a_ []) (k+1)
  else if (dm l k).kind=1 then .ok (.mk 2 0 (dm l k).text []) (k+1)
  else if fZ l k [45]||fZ l k [33]||fZ l k [40] then .err k 3
  else .err k 4
 |d+1,k=>
  if (dm l k).kind=2 then .ok (.mk 1 (dm l k).num a_ []) (k+1)
  else if (dm l k).kind=1 then .ok (.mk 2 0 (dm l k).text []) (k+1)
  else if fZ l k [45] then AL 3 (e_ l d (k+1))
  else if fZ l k [33] then AL 4 (e_ l d (k+1))
  else if fZ l k [40] then GT l (ig l (e_ l d) 5 (k+1))
  else .err k 4
def qT(l:List Tok)(k:Nat):cJ aS:=ig l (e_ l 24) 5 k
def qM(l:List Tok):Prop:=∃h:0<l.length,(l[l.length-1]'(by omega)).kind=5
def qM.more{l:List Tok}(h:qM l){k:Nat}(hk:k<l.length)(hn:(dm l k).kind≠5):k+1<l.length:=by
 obtain ⟨h0,h1⟩:=h;rcases jv (k+1) l.length with h|h
 ·exact h
 exfalso;apply hn;rw [nX hk];obtain rfl:k=l.length-1:=by omega
 exact h1
def uM{l:List Tok}{k:Nat}{s:List UInt8}(h:fZ l k s=true):(dm l k).kind=4 /\ (dm l k).text=bytes s:=by simpa [fZ] using h
def cJ.In{α:Type}(l:List Tok)(k:Nat):cJ α -> Prop
 |.ok _ k'=>k<k' /\ k'<l.length
 |.err a e=>k <= a /\ a<l.length /\ 0<e /\ e<16
def cJ.In.mono{α:Type}{l:List Tok}{k j:Nat}{r:cJ α}(h:r.In l k)(hj:j <= k):r.In l j:=by
 cases r<;>unfold cJ.In at h⊢<;>omega
def Nj{l:List Tok}(hl:qM l){sub:Nat -> cJ aS}{level:Nat}(hs:∀k,k<l.length -> (sub k).In l k):∀(n:Nat)(x:aS)(k j:Nat),j<k -> k<l.length -> (jf l sub level n x k).In l j
 |0,x,k,j,hj,hk=>by unfold jf;exact ⟨hj,hk⟩
 |n+1,x,k,j,hj,hk=>by
  unfold jf;by_cases ht:(dm l k).kind=4 /\ (binOp (dm l k).text).2=level
  ·rw [if_pos ht];have hm:=hl.more hk Y;have h1:=hs (k+1) hm;cases hr:sub (k+1) with
   |ok y k'=>
    rw [hr] at h1;obtain ⟨h2,h3⟩:=h1;exact Nj hl hs n _ k' j Y h3
   |err a e=>
    rw [hr] at h1;obtain ⟨h2,h3,h4,h5⟩:=h1;exact ⟨Y,h3,h4,h5⟩
  rw [if_neg ht];exact ⟨hj,hk⟩
def zY{l:List Tok}(hl:qM l){single:Nat -> cJ aS}(hs:∀k,k<l.length -> (single k).In l k):∀(j k:Nat),k<l.length -> (ig l single j k).In l k
 |0,k,hk=>by unfold ig;exact hs k hk
 |j+1,k,hk=>by
  unfold ig;have h1:=zY hl hs j k hk;cases hr:ig l single j k with
  |ok x k'=>
   rw [hr] at h1;exact Nj hl (λk hk=>zY hl hs j k hk) _ _ _ _ h1.1 h1.2
  |err a e=>rw [hr] at h1;exact h1
def N3{l:List Tok}{op:Int}{k j:Nat}{r:cJ aS}(h:r.In l k)(hj:j <= k):(AL op r).In l j:=by
 cases r with
 |ok x k'=>obtain ⟨h1,h2⟩:=h;exact ⟨Y,h2⟩
 |err a e=>obtain ⟨h1,h2,h3,h4⟩:=h;exact ⟨Y,h2,h3,h4⟩
def RQ{l:List Tok}(hl:qM l){k j:Nat}{r:cJ aS}(h:r.In l k)(hj:j <= k):(GT l r).In l j:=by
 cases r with
 |ok x k'=>
  obtain ⟨h1,h2⟩:=h;show cJ.In l j (if fZ l k' [41] then .ok x (k'+1) else .err k' 4);by_cases hs:fZ l k' [41]=true
  ·rw [if_pos hs];exact ⟨Y,hl.more h2 (by rw [(uM hs).1];decide)⟩
  ·rw [if_neg hs];exact ⟨Y,h2,Y,Y⟩
 |err a e=>obtain ⟨h1,h2,h3,h4⟩:=h;exact ⟨Y,h2,h3,h4⟩
def yl{l:List Tok}(hl:qM l):∀(d k:Nat),k<l.length -> (e_ l d k).In l k
 |0,k,hk=>by
  unfold e_;by_cases h1:(dm l k).kind=2
  ·rw [if_pos h1];exact ⟨Y,hl.more hk Y⟩
  ·rw [if_neg h1];by_cases h2:(dm l k).kind=1
   ·rw [if_pos h2];exact ⟨Y,hl.more hk Y⟩
   ·rw [if_neg h2];split<;>exact ⟨Y,hk,Y,Y⟩
 |d+1,k,hk=>by
  unfold e_;by_cases h1:(dm l k).kind=2
  ·rw [if_pos h1];exact ⟨Y,hl.more hk Y⟩
  rw [if_neg h1];by_cases h2:(dm l k).kind=1
  ·rw [if_pos h2];exact ⟨Y,hl.more hk Y⟩
  rw [if_neg h2];by_cases h3:fZ l k [45]=true
  ·rw [if_pos h3];exact N3 (yl hl d _ (hl.more hk (by rw [(uM h3).1];decide))) Y
  rw [if_neg h3];by_cases h4:fZ l k [33]=true
  ·rw [if_pos h4];exact N3 (yl hl d _ (hl.more hk (by rw [(uM h4).1];decide))) Y
  rw [if_neg h4];by_cases h5:fZ l k [40]=true
  ·rw [if_pos h5];exact RQ hl (zY hl (λk hk=>yl hl d k hk) _ _ (hl.more hk (by rw [(uM h5).1];decide))) Y
  rw [if_neg h5];exact ⟨Y,hk,Y,Y⟩
def xS{l:List Tok}(hl:qM l){k:Nat}(hk:k<l.length):(qT l k).In l k:=zY hl (λk hk=>yl hl 24 k hk) 5 k hk
end
section
def cJ.bind{α β:Type}(r:cJ α)(f:α -> Nat -> cJ β):cJ β:=
 match r with
 |.ok x k=>f x k
 |.err a e=>.err a e
def gL(l:List Tok)(k:Nat)(s:List UInt8):Bool:=decide ((dm l k).kind=3) && decide ((dm l k).text=bytes s)
def mA(l:List Tok)(k:Nat):cJ ByteArray:=if (dm l k).kind=1 then .ok (dm l k).text (k+1) else .err k 4
def m4(l:List Tok)(k:Nat):cJ Nat:=if (dm l k).kind=2 then .ok (dm l k).num (k+1) else .err k 4
def gE(l:List Tok)(s:List UInt8)(k:Nat):cJ Unit:=if fZ l k s then .ok () (k+1) else .err k 4
def uD(l:List Tok)(n:ByteArray)(k:Nat):cJ cL:=
 if fZ l k [91] then (qT l (k+1)).bind λe k=>(gE l [93] k).bind λ_ k=>.ok ⟨n,[e]⟩ k else .ok ⟨n,[]⟩ k
def DZ(l:List Tok)(k:Nat):cJ cL:=(mA l k).bind (uD l)
def r9(l:List Tok)(k:Nat):cJ cI:=
 if gL l k [109,117,116,101,120] then (DZ l (k+1)).bind λr k=>.ok ⟨true,r,.zero⟩ k
 else (qT l k).bind λe k=>.ok ⟨false,.zero,e⟩ k
def mg{α:Type}(l:List Tok)(el:Nat -> Nat -> cJ α):Nat -> List α -> Nat -> cJ (List α)
 |0,_,k=>.err k 4
 |n+1,acc,k=>(el acc.length k).bind λx k=>if fZ l k [44] then mg l el n (acc++[x]) (k+1) else (gE l [41] k).bind λ_ k=>.ok (acc++[x]) k
def rU{α:Type}(l:List Tok)(el:Nat -> Nat -> cJ α)(k:Nat):cJ (List α):=
 (gE l [40] k).bind λ_ k=>if fZ l k [41] then .ok [] (k+1) else mg l el l.length [] k
def tU(l:List Tok)(k:Nat):cJ (List cI):=rU l (λ_=>r9 l) k
def l7(l:List Tok)(s:aE)(k:Nat):cJ aE:=(gE l [59] k).bind λ_ k=>.ok s k
def AW(l:List Tok)(k:Nat):cJ aE:=(mA l k).bind λn k=>(gE l [61] k).bind λ_ k=>(qT l k).bind λe k=>l7 l (.mk 1 n e .zero [] [] []) k
def BH(l:List Tok)(k:Nat):cJ aE:=(mA l k).bind λn k=>(tU l k).bind λa k=>l7 l (.mk 4 n .zero .zero a [] []) k
def vR(l:List Tok)(kind:Int)(k:Nat):cJ aE:=(DZ l k).bind λr k=>l7 l (.mk kind a_ .zero r [] [] []) k
def xz(l:List Tok)(blk:Nat -> cJ (List aE))(e:aS)(t:List aE)(k:Nat):cJ aE:=
 if gL l k [101,108,115,101] then (blk (k+1)).bind λf k=>.ok (.mk 7 a_ e .zero [] t f) k else .ok (.mk 7 a_ e .zero [] t []) k
def wI(l:List Tok)(blk:Nat -> cJ (List aE))(k:Nat):cJ aE:=(qT l k).bind λe k=>(blk k).bind λt k=>xz l blk e t k
def An(l:List Tok)(blk:Nat -> cJ (List aE))(k:Nat):cJ aE:=(qT l k).bind λe k=>(blk k).bind λt k=>.ok (.mk 8 a_ e .zero [] t []) k
def FC(l:List Tok)(k:Nat):cJ aE:=l7 l (.mk 9 a_ .zero .zero [] [] []) k
def ut(l:List Tok)(n:ByteArray)(k:Nat):cJ aE:=
 if fZ l k [61] then (qT l (k+1)).bind λe k=>l7 l (.mk 2 n e .zero [] [] []) k else (tU l k).bind λa k=>l7 l (.mk 3 n .zero .zero a [] []) k
def xP(l:List Tok)(k:Nat):cJ aE:=(mA l k).bind (ut l)
def ny(l:List Tok)(blk:Nat -> cJ (List aE))(k:Nat):cJ aE:=
 if gL l k [118,97,114] then AW l (k+1)
 else if gL l k [103,111] then BH l (k+1)
 else if gL l k [108,111,99,107] then vR l 5 (k+1)
 else if gL l k [117,110,108,111,99,107] then vR l 6 (k+1)
 else if gL l k [105,102] then wI l blk (k+1)
 else if gL l k [119,104,105,108,101] then An l blk (k+1)
 else if gL l k [114,101,116,117,114,110] then FC l (k+1)
 else xP l k
def kf(l:List Tok)(st:Nat -> cJ aE):Nat -> List aE -> Nat -> cJ (List aE)
 |0,_,k=>.err k 4
 |n+1,acc,k=>if fZ l k [125] then .ok acc (k+1) else (st k).bind λs k=>kf l st n (acc++[s]) k
def lL(l:List Tok):Nat -> Nat -> cJ (List aE)
 |0,k=>if fZ l k [123] then .err k 3 else .err k 4
 |d+1,k=>(gE l [123] k).bind λ_ k=>kf l (ny l (lL l d)) l.length [] k
def Bp(l:List Tok)(k:Nat):cJ b_:=
 (mA l k).bind λn k=>
  if fZ l k [61] then
   if fZ l (k+1) [45] then (m4 l (k+2)).bind λi k=>(gE l [59] k).bind λ_ k=>.ok ⟨n,-(i:Int)⟩ k
   else (m4 l (k+1)).bind λi k=>(gE l [59] k).bind λ_ k=>.ok ⟨n,i⟩ k
  else (gE l [59] k).bind λ_ k=>.ok ⟨n,0⟩ k
def Hs(l:List Tok)(k:Nat):cJ Nat:=(m4 l k).bind λi k'=>if i<1∨64<i then .err k 3 else .ok i k'
def xl(l:List Tok)(re:Bool)(k:Nat):cJ cn:=
 (mA l k).bind λn k=>
  if re=false /\ fZ l k [91]=true then (Hs l (k+1)).bind λi k=>(gE l [93] k).bind λ_ k=>(gE l [59] k).bind λ_ k=>.ok ⟨n,re,i⟩ k
  else (gE l [59] k).bind λ_ k=>.ok ⟨n,re,0⟩ k
def kB(l:List Tok)(n k:Nat):cJ bg:=
 if 6 <= n /\ ((dm l k).kind=1∨gL l k [109,117,116,101,120]=true) then .err k 3
 else if gL l k [109,117,116,101,120] then (mA l (k+1)).bind λs k=>.ok ⟨s,true⟩ k else (mA l k).bind λs k=>.ok ⟨s,false⟩ k
def GG(l:List Tok)(k:Nat):cJ bB:=(mA l k).bind λn k=>(rU l (kB l) k).bind λp k=>(lL l 24 k).bind λb k=>.ok ⟨n,p,b⟩ k
def kE(l:List Tok)(x:aY)(k:Nat):cJ aY:=
 if gL l k [118,97,114] then if 16 <= x.globals.length then .err k 3 else (Bp l (k+1)).bind λg k=>.ok {x with globals:=x.globals++[g]} k
 else if gL l k [109,117,116,101,120] then if 12 <= x.mutexes.length then .err k 3 else (xl l false (k+1)).bind λm k=>.ok {x with mutexes:=x.mutexes++[m]} k
 else if gL l k [114,109,117,116,101,120] then if 12 <= x.mutexes.length then .err k 3 else (xl l true (k+1)).bind λm k=>.ok {x with mutexes:=x.mutexes++[m]} k
 else if gL l k [102,117,110,99] then if 16 <= x.funcs.length then .err k 3 else (GG l (k+1)).bind λf k=>.ok {x with funcs:=x.funcs++[f]} k
 else .err k 4
def lj(l:List Tok):Nat -> aY -> Nat -> cJ aY
 |0,_,k=>.err k 4
 |n+1,x,k=>if (dm l k).kind=5 then .ok x k else (kE l x k).bind λy k=>lj l n y k
def li(l:List Tok):cJ aY:=lj l l.length ⟨[],[],[]⟩ 0
def IB{l:List Tok}{k:Nat}{s:List UInt8}(h:gL l k s=true):(dm l k).kind=3 /\ (dm l k).text=bytes s:=by simpa [gL] using h
def cJ.At{α:Type}(l:List Tok)(k:Nat):cJ α -> Prop
 |.ok _ k'=>k <= k' /\ k'<l.length
 |.err a e=>k <= a /\ a<l.length /\ 0<e /\ e<16
def cJ.In.at{α:Type}{l:List Tok}{k:Nat}{r:cJ α}(h:r.In l k):r.At l k:=by
 cases r<;>unfold cJ.In at h<;>unfold cJ.At<;>omega
def cJ.At.mono{α:Type}{l:List Tok}{k j:Nat}{r:cJ α}(h:r.At l k)(hj:j <= k):r.At l j:=by
 cases r<;>unfold cJ.At at h⊢<;>omega
def cJ.At.in{α:Type}{l:List Tok}{k j:Nat}{r:cJ α}(h:r.At l k)(hj:j<k):r.In l j:=by
 cases r<;>unfold cJ.At at h<;>unfold cJ.In<;>omega
def cJ.In.bind{α β:Type}{l:List Tok}{k:Nat}{r:cJ α}{f:α -> Nat -> cJ β}(h:r.In l k)(hf:∀x k',k<k' -> k'<l.length -> (f x k').At l k'):(r.bind f).In l k:=by
 cases r with
 |ok x k'=>unfold cJ.In at h;exact (hf x k' h.1 h.2).in h.1
 |err a e=>exact h
def cJ.At.bind{α β:Type}{l:List Tok}{k:Nat}{r:cJ α}{f:α -> Nat -> cJ β}(h:r.At l k)(hf:∀x k',k <= k' -> k'<l.length -> (f x k').At l k'):(r.bind f).At l k:=by
 cases r with
 |ok x k'=>unfold cJ.At at h;exact (hf x k' h.1 h.2).mono h.1
 |err a e=>exact h
def jV{α:Type}{l:List Tok}{k:Nat}{x:α}(hk:k<l.length):(cJ.ok x k).At l k:=⟨bX _,hk⟩
def sK{α:Type}{l:List Tok}{k:Nat}(hk:k<l.length):(cJ.err k 4:cJ α).In l k:=⟨bX _,hk,Y,Y⟩
def vS{α:Type}{l:List Tok}{k:Nat}(hk:k<l.length):(cJ.err k 3:cJ α).In l k:=⟨bX _,hk,Y,Y⟩
section
variable {l:List Tok}(hl:qM l)
include hl
theorem rb{k:Nat}(hk:k<l.length):(mA l k).In l k:=by
 unfold mA;split
 ·exact ⟨Y,hl.more hk Y⟩
 exact sK hk
theorem F'{k:Nat}(hk:k<l.length):(m4 l k).In l k:=by
 unfold m4;split
 ·exact ⟨Y,hl.more hk Y⟩
 exact sK hk
theorem o6{k:Nat}{s:List UInt8}(hk:k<l.length)(h:fZ l k s=true):k+1<l.length:=hl.more hk (by rw [(uM h).1];decide)
theorem nA{k:Nat}{s:List UInt8}(hk:k<l.length)(h:gL l k s=true):k+1<l.length:=hl.more hk (by rw [(IB h).1];decide)
theorem oz{k:Nat}(s:List UInt8)(hk:k<l.length):(gE l s k).In l k:=by
 unfold gE;split
 ·rename_i h;exact ⟨Y,o6 hl hk h⟩
 exact sK hk
theorem WX{n:aH}{k:Nat}(hk:k<l.length):(uD l n k).At l k:=by
 unfold uD;split
 ·rename_i h;exact (((xS hl (o6 hl hk h)).bind λ_ _ _ hk=>((oz hl _ hk).bind λ_ _ _ hk=>jV hk).at).at).mono Y
 exact jV hk
theorem PU{k:Nat}(hk:k<l.length):(DZ l k).In l k:=(rb hl hk).bind λ_ _ _ hk=>WX hl hk
theorem Es{k:Nat}(hk:k<l.length):(r9 l k).In l k:=by
 unfold r9;split
 ·rename_i h;exact (((PU hl (nA hl hk h)).bind λ_ _ _ hk=>jV hk).at).in Y
 exact (xS hl hk).bind λ_ _ _ hk=>jV hk
theorem JV{α:Type}{el:Nat -> Nat -> cJ α}(he:∀n k,k<l.length -> (el n k).In l k):∀(n:Nat)(acc:List α)(k:Nat),k<l.length -> (mg l el n acc k).In l k
 |0,_,k,hk=>by unfold mg;exact sK hk
 |n+1,acc,k,hk=>by
  unfold mg;refine (he acc.length k hk).bind λx k' _ hk'=>?_;split
  ·rename_i h;exact (JV he n _ (k'+1) (o6 hl hk' h)).at.mono Y
  exact ((oz hl _ hk').bind λ_ _ _ hk=>jV hk).at
theorem Nw{α:Type}{el:Nat -> Nat -> cJ α}(he:∀n k,k<l.length -> (el n k).In l k){k:Nat}(hk:k<l.length):(rU l el k).In l k:=by
 unfold rU;refine (oz hl _ hk).bind λx k' _ hk'=>?_;split
 ·rename_i h;exact (jV (o6 hl hk' h)).mono Y
 exact (JV hl he _ _ _ hk').at
theorem J_{k:Nat}(hk:k<l.length):(tU l k).In l k:=Nw hl (λ_ _ hk=>Es hl hk) hk
theorem vq{s:aE}{k:Nat}(hk:k<l.length):(l7 l s k).In l k:=(oz hl _ hk).bind λ_ _ _ hk=>jV hk
theorem S7{k:Nat}(hk:k<l.length):(AW l k).In l k:=
 (rb hl hk).bind λ_ _ _ hk=>((oz hl _ hk).bind λ_ _ _ hk=>((xS hl hk).bind λ_ _ _ hk=>(vq hl hk).at).at).at
theorem SL{k:Nat}(hk:k<l.length):(BH l k).In l k:=(rb hl hk).bind λ_ _ _ hk=>((J_ hl hk).bind λ_ _ _ hk=>(vq hl hk).at).at
theorem Mv{kd:Int}{k:Nat}(hk:k<l.length):(vR l kd k).In l k:=(PU hl hk).bind λ_ _ _ hk=>(vq hl hk).at
theorem TO{n:aH}{k:Nat}(hk:k<l.length):(ut l n k).At l k:=by
 unfold ut;split
 ·rename_i h;exact (((xS hl (o6 hl hk h)).bind λ_ _ _ hk=>(vq hl hk).at).at).mono Y
 exact ((J_ hl hk).bind λ_ _ _ hk=>(vq hl hk).at).at
theorem SV{k:Nat}(hk:k<l.length):(xP l k).In l k:=(rb hl hk).bind λ_ _ _ hk=>TO hl hk
section
variable {blk:Nat -> cJ (List aE)}(hb:∀k,k<l.length -> (blk k).In l k)
include hb
theorem Vj{e:aS}{t:List aE}{k:Nat}(hk:k<l.length):(xz l blk e t k).At l k:=by
 unfold xz;split
 ·rename_i h;exact (((hb _ (nA hl hk h)).bind λ_ _ _ hk=>jV hk).at).mono Y
 exact jV hk
theorem VR{k:Nat}(hk:k<l.length):(wI l blk k).In l k:=(xS hl hk).bind λ_ _ _ hk=>((hb _ hk).bind λ_ _ _ hk=>Vj hl hb hk).at
theorem Tp{k:Nat}(hk:k<l.length):(An l blk k).In l k:=(xS hl hk).bind λ_ _ _ hk=>((hb _ hk).bind λ_ _ _ hk=>jV hk).at
theorem N9{k:Nat}(hk:k<l.length):(ny l blk k).In l k:=by
 unfold ny;split;·rename_i h;exact (S7 hl (nA hl hk h)).mono Y
 split;·rename_i h;exact (SL hl (nA hl hk h)).mono Y
 split;·rename_i h;exact (Mv hl (nA hl hk h)).mono Y
 split;·rename_i h;exact (Mv hl (nA hl hk h)).mono Y
 split;·rename_i h;exact (VR hl hb (nA hl hk h)).mono Y
 split;·rename_i h;exact (Tp hl hb (nA hl hk h)).mono Y
 split;·rename_i h;exact (vq hl (nA hl hk h)).mono Y
 exact SV hl hk
end
theorem Kp{st:Nat -> cJ aE}(hs:∀k,k<l.length -> (st k).In l k):∀(n:Nat)(acc:List aE)(k:Nat),k<l.length -> (kf l st n acc k).In l k
 |0,_,k,hk=>by unfold kf;exact sK hk
 |n+1,acc,k,hk=>by
  unfold kf;split
  ·rename_i h;exact ⟨Y,o6 hl hk h⟩
  exact (hs k hk).bind λs k' _ hk'=>(Kp hs n _ k' hk').at
theorem FK:∀(d k:Nat),k<l.length -> (lL l d k).In l k
 |0,k,hk=>by unfold lL;split;exact vS hk;exact sK hk
 |d+1,k,hk=>by
  unfold lL;exact (oz hl _ hk).bind λ_ k' _ hk'=>(Kp hl (λk hk=>N9 hl (λk hk=>FK d k hk) hk) _ _ _ hk').at
theorem SP{k:Nat}(hk:k<l.length):(Bp l k).In l k:=by
 unfold Bp;refine (rb hl hk).bind λ_ k _ hk=>?_;split
 ·rename_i h;have h1:=o6 hl hk h;split
  ·rename_i h2;have h3:=o6 hl h1 h2;exact (((F' hl h3).bind λ_ _ _ hk=>((oz hl _ hk).bind λ_ _ _ hk=>jV hk).at).at).mono Y
  exact (((F' hl h1).bind λ_ _ _ hk=>((oz hl _ hk).bind λ_ _ _ hk=>jV hk).at).at).mono Y
 exact ((oz hl _ hk).bind λ_ _ _ hk=>jV hk).at
theorem XU{k:Nat}(hk:k<l.length):(Hs l k).In l k:=by
 unfold Hs;have h:=F' hl hk;cases hr:m4 l k with
 |ok i k'=>
  rw [hr] at h;show cJ.In l k (if i<1∨64<i then .err k 3 else .ok i k');split
  ·exact vS hk
  ·exact h
 |err a e=>rw [hr] at h;exact h
theorem KG{re:Bool}{k:Nat}(hk:k<l.length):(xl l re k).In l k:=by
 unfold xl;refine (rb hl hk).bind λ_ k _ hk=>?_;split
 ·rename_i h;exact (((XU hl (o6 hl hk h.2)).bind λ_ _ _ hk=>((oz hl _ hk).bind λ_ _ _ hk=>((oz hl _ hk).bind λ_ _ _ hk=>jV hk).at).at).at).mono Y
 exact ((oz hl _ hk).bind λ_ _ _ hk=>jV hk).at
theorem F6{n k:Nat}(hk:k<l.length):(kB l n k).In l k:=by
 unfold kB;split
 ·exact vS hk
 split
 ·rename_i h;exact (((rb hl (nA hl hk h)).bind λ_ _ _ hk=>jV hk).at).in Y
 exact (rb hl hk).bind λ_ _ _ hk=>jV hk
theorem XP{k:Nat}(hk:k<l.length):(GG l k).In l k:=
 (rb hl hk).bind λ_ _ _ hk=>((Nw hl (λ_ _ hk=>F6 hl hk) hk).bind λ_ _ _ hk=>((FK hl 24 _ hk).bind λ_ _ _ hk=>jV hk).at).at
theorem NY{x:aY}{k:Nat}(hk:k<l.length):(kE l x k).In l k:=by
 unfold kE;split
 ·rename_i h;split
  ·exact vS hk
  exact (((SP hl (nA hl hk h)).bind λ_ _ _ hk=>jV hk).at).in Y
 split
 ·rename_i h;split
  ·exact vS hk
  exact (((KG hl (nA hl hk h)).bind λ_ _ _ hk=>jV hk).at).in Y
 split
 ·rename_i h;split
  ·exact vS hk
  exact (((KG hl (nA hl hk h)).bind λ_ _ _ hk=>jV hk).at).in Y
 split
 ·rename_i h;split
  ·exact vS hk
  exact (((XP hl (nA hl hk h)).bind λ_ _ _ hk=>jV hk).at).in Y
 exact sK hk
theorem KB:∀(n:Nat)(x:aY)(k:Nat),k<l.length -> (lj l n x k).At l k
 |0,_,k,hk=>by unfold lj;exact (sK hk).at
 |n+1,x,k,hk=>by
  unfold lj;split
  ·exact jV hk
  exact ((NY hl hk).bind λy k' _ hk'=>KB n y k' hk').at
end
end
section
def f5{α:Type}(be k0:Nat)(r:cJ α)(x:α)(k e:Nat):Prop:=
 (be≠0 /\ k=k0 /\ e=be)∨(be=0 /\ ((r=.ok x k /\ e=0)∨(r=.err k e /\ e≠0)))
section
variable {α β:Type}{be k0 k k2 e e2:Nat}{r:cJ α}{x:α}{y:β}
theorem f5.skip(h:be≠0)(r:cJ α)(x:α):f5 be k0 r x k0 be:=.inl ⟨h,rfl,rfl⟩
theorem f5.ok(x:α)(k0 k:Nat)(h:r=.ok x k):f5 0 k0 r x k 0:=.inr ⟨rfl,.inl ⟨h,rfl⟩⟩
theorem f5.err(x:α)(k0 k e:Nat)(h:r=.err k e)(he:e≠0):f5 0 k0 r x k e:=.inr ⟨rfl,.inr ⟨h,he⟩⟩
theorem f5.pure(x:α)(k e:Nat):f5 e k (.ok x k) x k e:=by
 by_cases h:e=0
 ·subst h;exact .ok x k k rfl
 exact .skip h _ _
theorem f5.bind{f:α -> Nat -> cJ β}(h:f5 be k0 r x k e)(h2:f5 e k (f x k) y k2 e2):f5 be k0 (r.bind f) y k2 e2:=by
 rcases h with ⟨h0,rfl,rfl⟩|⟨rfl,⟨rfl,rfl⟩|⟨rfl,he⟩⟩
 ·rcases h2 with ⟨_,rfl,rfl⟩|⟨h3,_⟩
  ·exact .inl ⟨h0,J,J⟩
  exact absurd h3 h0
 ·rcases h2 with ⟨h3,_⟩|⟨_,h2⟩
  ·exact absurd J h3
  exact .inr ⟨J,h2⟩
 rcases h2 with ⟨_,rfl,rfl⟩|⟨h3,_⟩
 ·exact .inr ⟨J,.inr ⟨J,he⟩⟩
 exact absurd h3 he
theorem f5.map{f:α -> β}(h:f5 be k0 r x k e):f5 be k0 (r.bind λx k=>.ok (f x) k) (f x) k e:=h.bind (f5.pure _ _ _)
theorem f5.yes{c:Prop}[Decidable c]{a b:cJ α}(hc:be=0 -> c)(h:f5 be k0 a x k e):f5 be k0 (if c then a else b) x k e:=by
 by_cases h0:be=0
 ·rw [if_pos (hc h0)];exact h
 rcases h with ⟨_,rfl,rfl⟩|⟨h3,_⟩
 ·exact .skip h0 _ _
 exact absurd h3 h0
theorem f5.no{c:Prop}[Decidable c]{a b:cJ α}(hc:be=0 -> ¬c)(h:f5 be k0 b x k e):f5 be k0 (if c then a else b) x k e:=by
 by_cases h0:be=0
 ·rw [if_neg (hc h0)];exact h
 rcases h with ⟨_,rfl,rfl⟩|⟨h3,_⟩
 ·exact .skip h0 _ _
 exact absurd h3 h0
theorem f5.from{k1:Nat}(h:f5 0 k1 r x k e):f5 0 k0 r x k e:=by
 rcases h with ⟨h0,_⟩|h
 ·exact absurd J h0
 exact .inr h
theorem f5.eq{r':cJ α}(h:f5 be k0 r x k e)(hr:be=0 -> r=r'):f5 be k0 r' x k e:=by
 rcases h with ⟨h0,h1,h2⟩|⟨h0,h⟩
 ·exact .inl ⟨h0,h1,h2⟩
 rw [hr h0] at h;exact .inr ⟨h0,h⟩
theorem f5.good(h:f5 be k0 r x k e)(he:e=0):be=0 /\ r=.ok x k:=by
 rcases h with ⟨h0,_,rfl⟩|⟨rfl,⟨rfl,rfl⟩|⟨rfl,h1⟩⟩
 ·exact absurd he h0
 ·exact ⟨J,J⟩
 exact absurd he h1
theorem f5.place{l:List Tok}(h:f5 be k0 r x k e)(hk:k0<l.length)(hr:be=0 -> r.At l k0):k0 <= k /\ k<l.length:=by
 rcases h with ⟨h0,rfl,rfl⟩|⟨rfl,⟨rfl,rfl⟩|⟨rfl,h1⟩⟩
 ·exact ⟨bX _,hk⟩
 ·exact hr J
 exact ⟨(hr J).1,(hr J).2.1⟩
theorem f5.small{l:List Tok}(h:f5 be k0 r x k e)(he:be<16)(hr:be=0 -> r.At l k0):e<16:=by
 rcases h with ⟨h0,rfl,rfl⟩|⟨rfl,⟨rfl,rfl⟩|⟨rfl,h1⟩⟩
 ·exact he
 ·omega
 exact (hr J).2.2.2
end
def bi{α:Type}(be b0:Nat)(r:cJ α)(x:α)(k b e:Nat):Prop:=
 (be≠0 /\ b=b0 /\ e=be)∨(be=0 /\ ((r=.ok x k /\ e=0 /\ b=b0)∨(r=.err b e /\ e≠0)))
section
variable {α β:Type}{be b0 k k0 b k2 b2 e e2:Nat}{r:cJ α}{x:α}{y:β}
theorem bi.skip(h:be≠0)(r:cJ α)(x:α)(k:Nat):bi be b0 r x k b0 be:=.inl ⟨h,rfl,rfl⟩
theorem bi.ok(x:α)(k b0:Nat)(h:r=.ok x k):bi 0 b0 r x k b0 0:=.inr ⟨rfl,.inl ⟨h,rfl,rfl⟩⟩
theorem bi.err(x:α)(k b0 b e:Nat)(h:r=.err b e)(he:e≠0):bi 0 b0 r x k b e:=.inr ⟨rfl,.inr ⟨h,he⟩⟩
theorem bi.pure(x:α)(k b e:Nat):bi e b (.ok x k) x k b e:=by
 by_cases h:e=0
 ·subst h;exact .ok x k b rfl
 exact .skip h _ _ _
theorem bi.bind{f:α -> Nat -> cJ β}(h:bi be b0 r x k b e)(h2:bi e b (f x k) y k2 b2 e2):bi be b0 (r.bind f) y k2 b2 e2:=by
 rcases h with ⟨h0,rfl,rfl⟩|⟨rfl,⟨rfl,rfl,rfl⟩|⟨rfl,he⟩⟩
 ·rcases h2 with ⟨_,rfl,rfl⟩|⟨h3,_⟩
  ·exact .inl ⟨h0,J,J⟩
  exact absurd h3 h0
 ·rcases h2 with ⟨h3,_⟩|⟨_,h2⟩
  ·exact absurd J h3
  exact .inr ⟨J,h2⟩
 rcases h2 with ⟨_,rfl,rfl⟩|⟨h3,_⟩
 ·exact .inr ⟨J,.inr ⟨J,he⟩⟩
 exact absurd h3 he
theorem bi.map{f:α -> β}(h:bi be b0 r x k b e):bi be b0 (r.bind λx k=>.ok (f x) k) (f x) k b e:=h.bind (bi.pure _ _ _ _)
theorem bi.yes{c:Prop}[Decidable c]{a d:cJ α}(hc:be=0 -> c)(h:bi be b0 a x k b e):bi be b0 (if c then a else d) x k b e:=by
 by_cases h0:be=0
 ·rw [if_pos (hc h0)];exact h
 rcases h with ⟨_,rfl,rfl⟩|⟨h3,_⟩
 ·exact .skip h0 _ _ _
 exact absurd h3 h0
theorem bi.no{c:Prop}[Decidable c]{a d:cJ α}(hc:be=0 -> ¬c)(h:bi be b0 d x k b e):bi be b0 (if c then a else d) x k b e:=by
 by_cases h0:be=0
 ·rw [if_neg (hc h0)];exact h
 rcases h with ⟨_,rfl,rfl⟩|⟨h3,_⟩
 ·exact .skip h0 _ _ _
 exact absurd h3 h0
theorem bi.eq{r':cJ α}(h:bi be b0 r x k b e)(hr:be=0 -> r=r'):bi be b0 r' x k b e:=by
 rcases h with ⟨h0,h1,h2⟩|⟨h0,h⟩
 ·exact .inl ⟨h0,h1,h2⟩
 rw [hr h0] at h;exact .inr ⟨h0,h⟩
theorem bi.good(h:bi be b0 r x k b e)(he:e=0):be=0 /\ r=.ok x k /\ b=b0:=by
 rcases h with ⟨h0,_,rfl⟩|⟨rfl,⟨rfl,rfl,rfl⟩|⟨rfl,h1⟩⟩
 ·exact absurd he h0
 ·exact ⟨J,J,J⟩
 exact absurd he h1
theorem bi.small{l:List Tok}(h:bi be b0 r x k b e)(he:be<16)(hr:be=0 -> r.At l k0):e<16:=by
 rcases h with ⟨h0,rfl,rfl⟩|⟨rfl,⟨rfl,rfl,rfl⟩|⟨rfl,h1⟩⟩
 ·exact he
 ·omega
 exact (hr J).2.2.2
end
end
section
open Go.RowKit
section
variable {P:Program}{U T:List Nat}{o:Oper}{n d:Nat}{ts:List (Nat×AT)}{s:aJ}{K:AS -> Prop}{st:AS}
theorem H8{x y:bb}{ph:Array bA}{m k:Int}(r:Int)(ho:o.op=.call {callee:=.builtin .max,args:=#[x,y],argTypes:=ph})(hx:aw st x=some (an m))(hy:aw st y=some (an k))(hr:max m k=r):co P U o st (an r):=
 iF rfl λa w hs w'=>by
  subst hr;simp only [execOp,ho,resolve,mI,dE,gH,hs.val hx,hs.val hy];simp [go_sem,invoke,builtin]
theorem Jr{w:ab}{a:Option Addr}{k cap z l h:Nat}{cs:List aO}(hr:jn w (.sl k cs) (.slice a k cap))(h1:l <= h)(h2:h <= k):jn w (.sl (h-l) ((cs.drop (l*z)).take ((h-l)*z))) (.slice (if cap=l then a else a.map (·.add (l*z))) (h-l) (cap-l)):=by
 cases hr with
 |sl _ _ us _ hra hl hh hcap=>
  obtain ⟨a',cap',he,hc,hcell⟩:=hra;cases he;have hR:dV w cs us:=⟨hl,hh⟩;have hR2:=(hR.drop (l*z)).take ((h-l)*z);refine .sl _ _ ((us.drop (l*z)).take ((h-l)*z)) _ ⟨_,_,J,Y,?_⟩ hR2.len hR2.at_ (λ_ _ _ h9=>by cases h9;have:=hcap _ _ _ rfl;omega);rcases hcell with h0|⟨b,off,rfl,hcell⟩
  ·left;subst h0;simp
  by_cases hcl:cap=l
  ·left;have:h-l=0:=Y;rw [this];simp
  right;rw [if_neg hcl];refine ⟨b,off+l*z,by simp [tO],λj u hj=>?_⟩;rw [oy] at hj;split at hj
  ·rw [qX] at hj;rw [ra];exact hcell _ _ hj
  cases hj
theorem Gf{w:ab}{k:Nat}{cs:List aO}{v:aN}(h:cU w (.c (.sl k cs)) v):∃a cap,v=.slice a k cap /\ k <= cap /\ jn w (.sl k cs) (.slice a k cap):=by
 cases h with
 |c _ _ h=>cases h with
  |sl _ _ us _ hr hl hh hc=>obtain ⟨a,cap,rfl,hk,hx⟩:=hr;exact ⟨a,cap,rfl,hk,.sl _ _ us _ ⟨a,cap,rfl,hk,hx⟩ hl hh hc⟩
theorem QU{t e:bA}{x y':bb}{k h z:Nat}{k2:IntKind}{j:Int}{cs r:List aO}(ho:o.op=.slice t x none (some y') none)(hx:aw st x=some (.c (.sl k cs)))(hy':aw st y'=some (av (.int k2 j)))(hj:j=h)(h2:h <= k)
  (ht:P.underlying t=some (.slice (P.elem t))) (he:P.elem t=e) (hz:∀w,(sizeOf e).run P w=.ok z w) (hr:cs.take (h*z)=r):co P U o st (.c (.sl h r)):=by
 intro a w hs _;have hv:=hs.ev hx;generalize hxe:a.eval x=v at hv;obtain ⟨p,cap,rfl,hk,hrep⟩:=Gf hv;subst hr;subst hj;subst he;have h9:=Jr (z:=z) (l:=0) hrep (eT _) h2;simp only [rO,tc,yr] at h9;refine ⟨_,.c _ _ h9,λw' _=>?_⟩;simp only [execOp,ho,hxe,hs.val hy',oi,EA];rw [dI,run_sliceAt_slice (h:=ht),run_slice_h (ht:=ht) (h0:=Int.natCast_nonneg h) (h2:=Int.ofNat_le.2 (iS h2 hk)),hz];simp [Result.andThen,go_sem,sliced]
theorem Xd{t e:bA}{x y:bb}{k l z m:Nat}{k1:IntKind}{i:Int}{cs r:List aO}(ho:o.op=.slice t x (some y) none none)(hx:aw st x=some (.c (.sl k cs)))(hy:aw st y=some (av (.int k1 i)))(hi:i=l)(h2:l <= k)(hl:cs.length=k*z)
  (ht:P.underlying t=some (.slice (P.elem t))) (he:P.elem t=e) (hz:∀w,(sizeOf e).run P w=.ok z w) (hm:k-l=m) (hr:cs.drop (l*z)=r):co P U o st (.c (.sl m r)):=by
 intro a w hs _;have hv:=hs.ev hx;generalize hxe:a.eval x=v at hv;obtain ⟨p,cap,rfl,hk,hrep⟩:=Gf hv;subst hr;subst hi;subst he;subst hm;have h9:=Jr (z:=z) hrep h2 (bX _);rw [take_of_length_le (by rw [kL,hl,Nat.sub_mul];omega)] at h9;refine ⟨_,.c _ _ h9,λw' _=>?_⟩;simp only [execOp,ho,hxe,hs.val hy,oi,EA];rw [dI,run_sliceAt_slice (h:=ht),run_slice_l (ht:=ht) (h0:=Int.natCast_nonneg l) (h1:=Int.ofNat_le.2 h2),hz];simp [Result.andThen,go_sem,sliced]
theorem BB{E E' e:bA}{x:bb}{b:aH}(ho:o.op=.convert E E' x)(hd:o.dst=some d)(hn:d<n)(hx:aw ⟨n,T,s,ts⟩ x=some (cK b))(hE:P.underlying E=some .string)(hE':P.underlying E'=some (.slice e))(he:P.underlying e=some (.int .u8))(hb:b.size<9223372036854775808){N:Nat}{cs:List aO}(hN:b.size=N)(hcs:ca b.data.toList=cs)
  (h:K ⟨n,T,s,(d,.c (.sl N cs))::ts⟩):dZ P U o ⟨n,T,s,ts⟩ K:=by
 subst hN;subst hcs;intro a w hs KK QQ hK;obtain ⟨C,hC⟩:∃C,C=grownCap w b.size 0 e:=⟨_,rfl⟩;obtain ⟨g1,g2⟩:=grownCap_le w b.size e hb;have hrun:(execOp a.eval o).run P w=.ok (.value (.slice (some ⟨w.heap.size,0,none⟩) b.size C)) (w.drew.alloc (.cells (bytesRow b C) e ((bytesRow b C).size,(bytesRow b C).size+1))):=by
  subst hC;simp only [execOp,ho,dI,hs.val hx];rw [run_bytes_of_string w E E' e b hE hE' he];rfl
 rw [←hC] at g1 g2;clear hC;unfold Oper.wp;rw [hrun,Oper.upon_value,hd];have hrow:=S9 w b C e g1 ((bytesRow b C).size,(bytesRow b C).size+1);generalize hw1:w.drew.alloc (.cells (bytesRow b C) e ((bytesRow b C).size,(bytesRow b C).size+1))=w1 at hrow;have hk:cQ [] w w1:=by rw [←hw1];exact (cQ.refl _ _).drew.alloc _
 have hsz:w1.heap.size=w.heap.size+1:=by rw [←hw1];show (w.heap.push _).size=_;simp
 have hub:f7 (bj s.bl w) (bj s.bl w1):=lb hk jM (λb h=>.inl h);obtain ⟨m1,m2⟩:=hs.mem.up hub EM;have hm:Mem s w1:=⟨hs.mem.nodup,λb hb=>mK (hs.mem.lt b hb) hk.size,m1,m2⟩;have s1:=hs.step (w1:=w1) T (hk.mono aL) hm (λb hb=>.inl hb);have hrep:cU (bj s.bl w1) (.c (.sl b.size (ca b.data.toList))) (.slice (some ⟨w.heap.size,0,none⟩) b.size C):=by
  have hne:w.heap.size∉s.bl:=λhm=>by have:w.heap.size<w.heap.size:=hs.mem.lt _ hm;omega
  have hR:=nc (bj s.bl w1) (dS b.data.toList) zp;have aj:(dS b.data.toList).map aO.val=ca b.data.toList:=by simp [dS,ca]
  rw [aj] at hR;refine .c _ _ (.sl _ _ (dS b.data.toList) _ ?_ hR.len hR.at_ (λ_ _ _ h=>by cases h;exact g2));obtain ⟨a',c',he',hc',hr'⟩:=hrow;cases he';refine ⟨_,_,J,g1,?_⟩;rcases hr' with h0|⟨b',off,hb',hr'⟩
  ·exact .inl h0
  cases hb';exact .inr ⟨_,_,J,λj u hu=>by rw [pH _ _ _ hne];exact hr' j u hu⟩
 exact hK _ _ _ h (s1.put hn hrep) ⟨hk.mono aL,hk.mono aL,λb hb=>.inl hb,λb hb=>.inl hb⟩ (hk.mono aL)
abbrev IJ(t:AT)(m:Int):AT:=.fact (.fact t 0 0 (words.map λx=>ah x)) 2 0 [aA m]
theorem Ag{s:aJ}{w w':ab}(hm:Mem s w)(hb:Below w.heap.size w w'):cQ [] w w' /\ Mem s w':=by
 have hk:cQ [] w w':=cQ.of_below hb;have hu:f7 (bj s.bl w) (bj s.bl w'):=lb hk jM (λb h=>.inl h);obtain ⟨m1,m2⟩:=hm.up hu Ij;exact ⟨hk,hm.nodup,λb hb'=>mK (hm.lt b hb') hk.size,m1,m2⟩
theorem I3{F:FuncId}{ts:List AT}{us:List aN}{u:aN}(h1:u.oneCell'=true)(hts:ts=us.map λu=>av u)(h:∀w,Calls P F us.toArray w λe w'=>e=.returned u /\ w=w')(s:aJ):aU P F ts [] s λr s'=>r=av u /\ s'=s:=by
 intro vs w hm _ hl hr;subst hts;obtain rfl:vs=us:=by
  refine oR tr λi h1 h2=>?_;have h3:=hr i pf h1;simp only [rE] at h3;exact h3.val
 exact (h w).mono λe w' ⟨h2,h3⟩=>L6
theorem V7{w:ab}{l:List Int}{a:Option Addr}{cap:Nat}(h:d_ w (.slice a l.length cap) l.length (l.map (.int .i64)))(hc:cap <= 9223372036854775807):cU (bj [] w) (.c (.sl l.length (l.map λi=>aA i))) (.slice a l.length cap):=by
 have hid:∀a:Addr,(bj [] w).cell? a=w.cell? a:=λa=>pH _ _ _ aL;have hR:=nc (bj [] w) (l.map (.int .i64)) zp;rw [oh] at hR;exact .c _ _ (.sl _ _ _ _ (h.mono λa u h=>by rw [hid];exact h) hR.len hR.at_ (λ_ _ _ h=>by cases h;exact hc))
theorem QW{F:FuncId}{ts:List AT}{vs:List aN}{w:ab}(h:aU P F ts [] ⟨[],[]⟩ λr s'=>r=bC true /\ s'=⟨[],[]⟩)(hl:vs.length=ts.length)(hv:∀i (h:i<ts.length) (h':i<vs.length),cU (bj [] w) ts[i] vs[i]):Calls P F vs.toArray w λe w'=>e=.returned (.bool true) /\ Below w.heap.size w w':=by
 have hm:Mem ⟨[],[]⟩ w:=⟨List.nodup_nil,(λb hb=>absurd hb wE),Bl,Bl⟩;refine (h vs w hm (λb hb=>absurd hb aL) hl hv).mono λe w' ⟨r,v',s',h1,⟨h2,h3⟩,h4,h5,h6,h7⟩=>?_;subst h2;subst h3;cases h4 with
 |c _ _ h4=>cases h4;exact ⟨h1,⟨h6.os,h6.tape,h6.output,h6.size,λk hk=>h6.block k hk aL⟩⟩
end
end
section
open Go.RowKit
section
variable {P:Program}{U T:List Nat}{o:Oper}{n d:Nat}{bx:List aV}{rw:List aP}{ts:List (Nat×AT)}{K:AS -> Prop}{st:AS}{t:AT}
theorem YW{t e:bA}{x y:bb}{d n m z bytes:Nat}{v zv:aN}{cs ds:List aO}{i:TypeInfo}(A:List aP){B:List aP}(ho:o.op=.call {callee:=.builtin .append,args:=#[x,y],argTypes:=#[t,t]})(hd:o.dst=some d)(hn:d<st.n)
  (hx:aw st x=some (av v)) (hrow:st.s.rows=A++⟨v,e,z,n,cs⟩::B) (hy:∀a w,ep st a w -> ∃ad c ys,a.eval y=.slice (some ad) m c /\ dV (bj st.s.bl w) ds ys /\ ∀j u,ys[j]?=some u -> w.cell? (ad.add j)=some u) (hu:P.underlying t=some (.slice e)) (hi:P.info? e=some i) (hz:i.zero=some zv) (hsz:i.size=z) (hby:i.bytes=bytes) (hzs:zv.cells.size=z) (h0:0<z)
  (hm:ds.length=m*z) (hlen:n+m <= maxLen) (hbytes:(n+m)*bytes <= 140737488355328) (hU:st.s.bl.Nodup -> ∀b,b∈aR v -> b∈U) (hT:∀b,b∈aR v -> b∈st.T)
  (h:∀v',K {st with s:=⟨st.s.boxes,A++⟨v',e,z,n+m,cs++ds⟩::B⟩,T:=aR v'++st.T,ts:=(d,av v')::st.ts}):dZ P U o st K:=by
 refine GC A hd hn hrow h0 (λa w hs us hown=>?_) hU hT h;obtain ⟨ad,cap,ys,hyv,DE,hyc⟩:=hy a w hs;exact ⟨ys,DE,λKK QQ hK=>JC w x y t ho 0 e i zv z bytes hu hi hz hsz hby hzs h0 v n us (hs.val hx) hown ad m cap ys hyv (by rw [DE.len,hm]) hyc DE.one hlen hbytes (eT _) hK⟩
theorem VI(w:ab)(t ty e:bA)(i:TypeInfo)(size:Nat)(ht:P.underlying t=some (.slice e))(hi:P.info? e=some i)(v:aN)(n:Nat)(xs:List aN)(hown:w.ownsRow 0 e size v n xs)(b:Option Addr)(c:Nat):
  (Builtin.append_ #[t,t] ty #[v,.slice b 0 c]).run P w=.ok v w:=by
 have hl:∀a:Addr,(loadCells a 0).run P w=.ok #[] w:=λa=>run_loadCells_list (P:=P) w a [] Gd;rcases hown.2 with ⟨rfl,rfl⟩|⟨g,cap,cur,rfl,_,_,hnc,_⟩
 ·cases b<;>simp [Builtin.append_,run_underlying ht,sizeOf,typeInfo,hi,Builtin.lenOf,Builtin.firstCells,hl]
 cases b<;>simp [Builtin.append_,run_underlying ht,sizeOf,typeInfo,hi,Builtin.lenOf,Builtin.firstCells,hnc,storeCells,hl]
theorem QI{t e:bA}{x y:bb}{z k:Nat}{v:aN}{cs:List aO}{i:TypeInfo}(A:List aP){B:List aP}(ho:o.op=.call {callee:=.builtin .append,args:=#[x,y],argTypes:=#[t,t]})(hd:o.dst=some d)(hn:d<n)
  (hx:aw ⟨n,T,⟨bx,A++⟨v,e,z,k,cs⟩::B⟩,ts⟩ x=some (av v)) (hy:∀a w,ep ⟨n,T,⟨bx,A++⟨v,e,z,k,cs⟩::B⟩,ts⟩ a w -> ∃b c,a.eval y=.slice b 0 c) (hu:P.underlying t=some (.slice e)) (hi:P.info? e=some i) (hT:∀b,b∈aR v -> b∈T) (h0:0<z)
  (h:K ⟨n,aR v++T,⟨bx,A++⟨v,e,z,k,cs⟩::B⟩,(d,av v)::ts⟩):dZ P U o ⟨n,T,⟨bx,A++⟨v,e,z,k,cs⟩::B⟩,ts⟩ K:=by
 intro a w hs KK QQ hK;obtain ⟨us,la,hrep⟩:=hs.mem.row ⟨v,e,z,k,cs⟩ aL;have hown:=la.row h0;obtain ⟨b,c,hyv⟩:=hy a w hs;have hr:=VI (P:=P) w t o.type e i z hu hi v k us hown b c;have s2:=hs.step (w1:=w) (aR v++T) (cQ.refl _ _) hs.mem (λb hb=>.inl hb);have h1c:v.oneCell'=true:=by obtain ⟨_,_,he⟩:=yp hown;dsimp only at he;rw [he];rfl
 have hxv:=hs.val hx;have goal:KK (a.put o.dst v) w:=by
  rw [hd];refine hK _ _ _ h (s2.put (v:=v) hn (.c _ _ (.val _ h1c))) ⟨cQ.refl _ _,cQ.refl _ _,λb hb=>.inl hb,λg hg=>?_⟩ (cQ.refl _ _);rcases mem_append.1 hg with hg|hg
  ·exact .inl (hT g hg)
  exact .inl hg
 unfold Oper.wp execOp;simp only [ho,resolve,invoke,builtin,dI,fj,ei,mI,dE,gH,hxv,hyv,hr];exact goal
theorem eU{E e:bA}{x y:bb}{k m z:Nat}{v zv:aN}{cs ds r:List aO}(A:List aP)(i:TypeInfo)(bytes:Nat){B:List aP}(ho:o.op=.call {callee:=.builtin .append,args:=#[x,y],argTypes:=#[E,E]})(hd:o.dst=some d)(hn:d<n)
  (hx:aw ⟨n,T,⟨bx,A++⟨v,e,z,k,cs⟩::B⟩,ts⟩ x=some (av v)) (hy:aw ⟨n,T,⟨bx,A++⟨v,e,z,k,cs⟩::B⟩,ts⟩ y=some (.c (.sl m ds))) (hu:P.underlying E=some (.slice e)) (hi:P.info? e=some i) (hz:i.zero=some zv) (hsz:i.size=z) (hby:i.bytes=bytes) (hzs:zv.cells.size=z) (h0:0<z)
  (hm:ds.length=m*z) (hlen:k+m <= maxLen) (hbytes:(k+m)*bytes <= 140737488355328) {N:Nat} (hN:k+m=N) (hU:(⟨bx,A++⟨v,e,z,k,cs⟩::B⟩:aJ).bl.Nodup -> ∀b,b∈aR v -> b∈U) (hT:∀b,b∈aR v -> b∈T) (hr:cs++ds=r)
  (h:∀v',K ⟨n,aR v'++T,⟨bx,A++⟨v',e,z,N,r⟩::B⟩,(d,av v')::ts⟩):dZ P U o ⟨n,T,⟨bx,A++⟨v,e,z,k,cs⟩::B⟩,ts⟩ K:=by
 rcases xL m with rfl|hm0
 ·have hds:ds=[]:=ym (by rw [hm,rO]);subst hds;subst hr;subst hN;refine QI A ho hd hn hx (λa w hs=>?_) hu hi hT h0 ?_
  ·obtain ⟨p,cap,hv,-⟩:=Gf (hs.ev hy);exact ⟨p,cap,hv⟩
  have:=h v;rw [eV,vX] at this;exact this
 subst hr;subst hN;exact Hj A ho hd hn hx J hy hu hi hz hsz hby hzs h0 hm hm0 hlen hbytes hU hT h
theorem QL{E e:bA}{x y:bb}{k m z:Nat}{v vy zv:aN}{cs ds r:List aO}(A:List aP)(i:TypeInfo)(bytes:Nat){B:List aP}(ho:o.op=.call {callee:=.builtin .append,args:=#[x,y],argTypes:=#[E,E]})(hd:o.dst=some d)(hn:d<n)
  (hx:aw ⟨n,T,⟨bx,A++⟨v,e,z,k,cs⟩::B⟩,ts⟩ x=some (av v)) (hy:aw ⟨n,T,⟨bx,A++⟨v,e,z,k,cs⟩::B⟩,ts⟩ y=some (av vy)) (hmem:(⟨vy,e,z,m,ds⟩:aP)∈A++⟨v,e,z,k,cs⟩::B) (hu:P.underlying E=some (.slice e)) (hi:P.info? e=some i) (hz:i.zero=some zv) (hsz:i.size=z) (hby:i.bytes=bytes) (hzs:zv.cells.size=z) (h0:0<z)
  (hlen:k+m <= maxLen) (hbytes:(k+m)*bytes <= 140737488355328) {N:Nat} (hN:k+m=N) (hU:(⟨bx,A++⟨v,e,z,k,cs⟩::B⟩:aJ).bl.Nodup -> ∀b,b∈aR v -> b∈U) (hT:∀b,b∈aR v -> b∈T) (hm:ds.length=m*z) (hr:cs++ds=r)
  (h:∀v',K ⟨n,aR v'++T,⟨bx,A++⟨v',e,z,N,r⟩::B⟩,(d,av v')::ts⟩):dZ P U o ⟨n,T,⟨bx,A++⟨v,e,z,k,cs⟩::B⟩,ts⟩ K:=by
 rcases xL m with rfl|hm0
 ·have hds:ds=[]:=ym (by rw [hm,rO]);subst hds;subst hr;subst hN;refine QI A ho hd hn hx (λa w hs=>?_) hu hi hT h0 ?_
  ·obtain ⟨us,la,-⟩:=hs.mem.row _ hmem;have hown:=la.row h0;obtain ⟨p,cap,hv⟩:=yp hown;exact ⟨p,cap,by rw [hs.val hy];exact hv⟩
  have:=h v;rw [eV,vX] at this;exact this
 subst hr;subst hN;refine YW (st:=⟨n,T,⟨bx,A++⟨v,e,z,k,cs⟩::B⟩,ts⟩) A ho hd hn hx J (λa w hs=>?_) hu hi hz hsz hby hzs h0 hm hlen hbytes hU hT h;obtain ⟨us,la,hrep⟩:=hs.mem.row _ hmem;have hown:=la.row h0;obtain ⟨g,cap,hv⟩:=Hn hs.mem hmem hm0 h0;have hvy:=hs.val hy;dsimp only at hv hown hrep;subst hv;exact ⟨⟨g,0,none⟩,cap,us,hvy,hrep,λj u hj=>hown.cells (g:=g) J j u hj⟩
theorem xo{E E':bA}{x:bb}{k:Nat}(ho:o.op=.convert E E' x)(hx:aw st x=some (ae k))(hk:k<256)(hE:(P.underlying E).isSome=true)(hE':P.underlying E'=some (.int (P.intKind E')))(hk8:P.intKind E'=.u8):co P U o st (av (.int .u8 ((UInt8.ofNat k).toNat:Int))):=by
 intro a w hs _;refine ⟨_,.c _ _ (.val _ J),λw' _=>?_⟩;have h1:=run_convert_int (P:=P) (w:=w') E E' .i64 (k:Int) hE hE';simp only [execOp,ho,dI,hs.val hx];rw [h1,hk8];have h2:IntKind.u8.wrap (k:Int)=(k:Int):=by
  have h3:(List.range 256).all (λk=>decide (IntKind.u8.wrap (k:Int)=(k:Int)))=true:=aQ;exact of_decide_eq_true (e0.1 h3 k (oS.2 hk))
 rw [h2,show (UInt8.ofNat k).toNat=k from UInt8.toNat_ofNat_of_lt' hk];rfl
end
def SJ{w:ab}{u v:aN}(h:jn w (.val v) u):u=v:=by cases h;rfl
def lp{U:List Nat}{o:Oper}{st:AS}{x:bb}{t:List UInt8}{k:Nat}(ho:o.op=.convert 58 9 x)(hx:aw st x=some (.c (.sl k (ca t))))(hk:k=t.length):co prog U o st (cK (bytes t)):=by
 subst hk;intro a w hs hU;refine ⟨_,.c _ _ (.val _ J),λw' hkp=>?_⟩;have hv:=hs.ev hx;generalize hxe:a.eval x=v at hv;cases hv with
 |c _ _ hv=>cases hv with
  |sl _ _ us _ hr hl hh hc=>
   obtain ⟨p,cap,rfl,hcap,hr⟩:=hr;have hus:us=dS t:=by
    refine oR (by rw [hl];simp [ca,dS]) λj h1 h2=>?_;have h3:=hh j (by simpa [ca,dS] using h2) h1;have h4:(ca t)[j]'(by simpa [ca,dS] using h2)=.val (dS t)[j]:=by simp [ca,dS]
    rw [h4] at h3;exact SJ h3
   subst hus;have hcv:=F5 t p cap w' (by
    rcases hr with h0|⟨b,off,rfl,hr⟩
    ·exact .inl h0
    refine .inr ⟨b,off,J,λj u hj=>?_⟩;obtain ⟨h4,h5⟩:=pY (hr j u hj);rw [hkp.cell (mq h4) (λhm=>h5 (hU _ hm))];exact h4)
   simp only [execOp,ho,dI,hxe];rw [hcv];rfl
instance aFb{P:Program}{U T:List Nat}{n N:Nat}{ts:List (Nat×AT)}{t:AT}{g:Prop}{K:AS -> Prop}{E T0:TypeId}{x y:Operand}{ty:TypeId}{pos:String}{af:Array Edge}{gd:Option (Nat×Bool)}{b off z:Nat}{cs ds r:List aO}{ag:Bool}{bx A B:List aV}{rw:List aP}[h1:gQ ts x (av (.pointer (some ⟨b,off,none⟩)))][h2:gQ ts y t][h3:se t ds][h4:ly bx b A T0 cs B][h5:cy P E ag z][h6:xN cs off ds z r]{bx2:List aV}[h7:xw bx rw T U b][h8:rS A (⟨b,T0,r⟩::B) bx2][h:dq N (K ⟨n,T,⟨bx2,rw⟩,ts⟩) g]:dq (N+1) (dZ P U ⟨none,.store E x y,ty,pos,af,gd⟩ ⟨n,T,⟨bx,rw⟩,ts⟩ K) g:=⟨λk=>
 Az A rfl rfl (h1.h _ _ _) (h2.h _ _ _) h3.h h4.h h5.h.2 h6.h.2.2 h6.h.2.1 h6.h.1 h7.h.1 h7.h.2 FT⟩
structure nH (P:Program) (E e:TypeId) (i:TypeInfo) (z bytes:Nat) (zv:Value):Prop where
  hu:P.underlying E=some (.slice e)
  hi:P.info? e=some i
  hz:i.zero=some zv
  hsz:i.size=z
  hby:i.bytes=bytes
  hzs:zv.cells.size=z
  h0:0<z
structure kO (P:Program) (E e:TypeId) (i:TypeInfo) (len:Nat) (z:Value) (zc:List aO):Prop where
  hu:P.underlying E=some (.slice e)
  hi:P.info? e=some i
  hz:i.zero=some z
  hsmall:¬len*i.size>2 ^ 24
  hpos:¬len*i.size=0
  hzc:(((Array.range (len*i.size)).map (z.cells[·% z.cells.size]!)).toList.all (·.oneCell'))=true
  hzr:((Array.range (len*i.size)).map (z.cells[·% z.cells.size]!)).toList.map .val=zc
section
variable {P:Program}{U:List Nat}{o:Oper}{n d:Nat}{T:List Nat}{s:aJ}{ts:List (Nat×AT)}{bx:List aV}{K:AS -> Prop}
theorem dQ{E e:bA}{i:TypeInfo}{x y:bb}{k m z bytes:Nat}{v zv:aN}{cs ds r:List aO}(A:List aP)(t:nH P E e i z bytes zv){B:List aP}(h0:(o.op,o.dst,Nat.blt d n,aw ⟨n,T,⟨bx,A++⟨v,e,z,k,cs⟩::B⟩,ts⟩ x,aw ⟨n,T,⟨bx,A++⟨v,e,z,k,cs⟩::B⟩,ts⟩ y)=(.call {callee:=.builtin .append,args:=#[x,y],argTypes:=#[E,E]},some d,true,some (av v),some (.c (.sl m ds))))
    (hm:ds.length=m*z) (hm0:0<m) (hlen:k+m <= maxLen) (hbytes:(k+m)*bytes <= 140737488355328) {N:Nat} (hN:k+m=N) (hU:(⟨bx,A++⟨v,e,z,k,cs⟩::B⟩:aJ).bl.Nodup -> ∀b,b∈aR v -> b∈U) (hT:∀b,b∈aR v -> b∈T) (hr:cs++ds=r)
    (h:∀v',K ⟨n,aR v'++T,⟨bx,A++⟨v',e,z,N,r⟩::B⟩,(d,av v')::ts⟩):dZ P U o ⟨n,T,⟨bx,A++⟨v,e,z,k,cs⟩::B⟩,ts⟩ K:=by
  simp only [jC] at h0;exact R0 A i bytes h0.1 h0.2.1 (fS h0.2.2.1) h0.2.2.2.1 h0.2.2.2.2 t.hu t.hi t.hz t.hsz t.hby t.hzs t.h0 hm hm0 hlen hbytes hN hU hT hr h
theorem bV{E e:bA}{i:TypeInfo}{z:aN}{len:Nat}{parts:Array (Nat×bb)}{ps:List (Nat×AT)}{zc r:List aO}(t:kO P E e i len z zc)(h:K ⟨n,T,s,(d,.c (.sl len r))::ts⟩)(h0:(o.op,o.dst,Nat.blt d n)=(.buildSlice E len parts,some d,true):=by exact rfl)(hps:pp ⟨n,T,s,ts⟩ parts.toList ps:=by exact (.cons rfl .nil))(hf:nK (λk=>some (k*i.size,i.size)) zc ps=some r:=by exact rfl):dZ P U o ⟨n,T,s,ts⟩ K:=by
  simp only [jC] at h0;exact tD i zc h0.1 h0.2.1 (fS h0.2.2) hps t.hu t.hi t.hz t.hsmall t.hpos t.hzc t.hzr hf h
end
def xm:=(⟨q7,aQ,rfl,rfl,rfl,rfl,V⟩:nH prog 107 111 Tryz.t111 3 32 _)
def EE:=(⟨xV,aQ,rfl,rfl,rfl,rfl,V⟩:nH prog 118 135 Tryz.t135 7 104 _)
def DU:=(⟨ta,aQ,rfl,rfl,rfl,rfl,V⟩:nH prog 22 3 Tryz.t3 1 8 _)
def wA:=(⟨kj,aQ,rfl,rfl,rfl,rfl,V⟩:nH prog 58 5 Tryz.t5 1 1 _)
def uo:=(⟨gN,aQ,rfl,rfl,rfl,rfl,V⟩:nH prog 24 60 Tryz.t60 3 32 _)
def rC:=(⟨lW,aQ,rfl,rfl,rfl,rfl,V⟩:nH prog 23 63 Tryz.t63 2 24 _)
def IW:=(⟨kK,aQ,rfl,rfl,rfl,rfl,V⟩:nH prog 25 67 Tryz.t67 3 64 _)
def Fc:=(⟨qO,aQ,rfl,rfl,rfl,rfl,V⟩:nH prog 64 69 Tryz.t69 2 24 _)
def KP:=(⟨underlying29,aQ,rfl,rfl,rfl,rfl,V⟩:nH prog 29 79 Tryz.t79 5 64 _)
def xY:=(⟨underlying85,aQ,rfl,rfl,rfl,rfl,V⟩:nH prog 85 87 Tryz.t87 4 56 _)
def I9:=(⟨underlying90,aQ,rfl,rfl,rfl,rfl,V⟩:nH prog 90 89 Tryz.t89 3 40 _)
def pC:=(⟨o0,aQ,rfl,rfl,rfl,rfl,V⟩:nH prog 61 9 Tryz.t9 1 16 _)
def xj:=(⟨underlying75,aQ,rfl,rfl,rfl,rfl,V⟩:nH prog 75 92 Tryz.t92 12 168 _)
def sA:=(⟨q7,aQ,rfl,V,V,aQ,aQ⟩:kO prog 107 111 Tryz.t111 1 _ [ah ⟨#[]⟩,aA 0,aA 0])
def Co:=(⟨sx,aQ,rfl,V,V,aQ,aQ⟩:kO prog 65 120 Tryz.t120 1 _ [aA 0,ah ⟨#[]⟩,aA 0,aA 0,ah ⟨#[]⟩,aK,ah ⟨#[]⟩,aK,aK,aK,aK])
def ye:=(⟨xV,aQ,rfl,V,V,aQ,aQ⟩:kO prog 118 135 Tryz.t135 1 _ [bG false,ah ⟨#[]⟩,aK,aA 0,aA 0,ah ⟨#[]⟩,aK])
def qA:=(⟨ta,aQ,rfl,V,V,aQ,aQ⟩:kO prog 22 3 Tryz.t3 1 _ [aA 0])
def CM:=(⟨kj,aQ,rfl,V,V,aQ,aQ⟩:kO prog 58 5 Tryz.t5 2 _ [.val (.int .u8 0),.val (.int .u8 0)])
def ko:=(⟨kj,aQ,rfl,V,V,aQ,aQ⟩:kO prog 58 5 Tryz.t5 1 _ [.val (.int .u8 0)])
def ki:=(⟨gN,aQ,rfl,V,V,aQ,aQ⟩:kO prog 24 60 Tryz.t60 1 _ [ah ⟨#[]⟩,bG false,aA 0])
def pL:=(⟨lW,aQ,rfl,V,V,aQ,aQ⟩:kO prog 23 63 Tryz.t63 1 _ [ah ⟨#[]⟩,aA 0])
def uK:=(⟨kK,aQ,rfl,V,V,aQ,aQ⟩:kO prog 25 67 Tryz.t67 1 _ [ah ⟨#[]⟩,aK,aK])
def yg:=(⟨qO,aQ,rfl,V,V,aQ,aQ⟩:kO prog 64 69 Tryz.t69 1 _ [ah ⟨#[]⟩,bG false])
def P0:=(⟨underlying29,aQ,rfl,V,V,aQ,aQ⟩:kO prog 29 79 Tryz.t79 1 _ [ah ⟨#[]⟩,aA 0,aA 0,aA 0,aK])
def Jc:=(⟨underlying85,aQ,rfl,V,V,aQ,aQ⟩:kO prog 85 87 Tryz.t87 2 _ [aA 0,aA 0,ah ⟨#[]⟩,aK,aA 0,aA 0,ah ⟨#[]⟩,aK])
def o7:=(⟨underlying85,aQ,rfl,V,V,aQ,aQ⟩:kO prog 85 87 Tryz.t87 1 _ [aA 0,aA 0,ah ⟨#[]⟩,aK])
def PZ:=(⟨underlying90,aQ,rfl,V,V,aQ,aQ⟩:kO prog 90 89 Tryz.t89 1 _ [bG false,aA 0,aK])
def Ac:=(⟨o0,aQ,rfl,V,V,aQ,aQ⟩:kO prog 61 9 Tryz.t9 5 _ [ah ⟨#[]⟩,ah ⟨#[]⟩,ah ⟨#[]⟩,ah ⟨#[]⟩,ah ⟨#[]⟩])
def tl:=(⟨o0,aQ,rfl,V,V,aQ,aQ⟩:kO prog 61 9 Tryz.t9 3 _ [ah ⟨#[]⟩,ah ⟨#[]⟩,ah ⟨#[]⟩])
def D4:=(⟨o0,aQ,rfl,V,V,aQ,aQ⟩:kO prog 61 9 Tryz.t9 2 _ [ah ⟨#[]⟩,ah ⟨#[]⟩])
def io:=(⟨o0,aQ,rfl,V,V,aQ,aQ⟩:kO prog 61 9 Tryz.t9 1 _ [ah ⟨#[]⟩])
def Cc:=(⟨underlying75,aQ,rfl,V,V,aQ,aQ⟩:kO prog 75 92 Tryz.t92 1 _ [aA 0,aA 0,bG false,aA 0,aA 0,ah ⟨#[]⟩,aK,bG false,aA 0,aK,aK,aK])
section
variable {P:Program}{ops:Array Oper}{U Z:List Nat}{o:Oper}{n d:Nat}{T:List Nat}{s:aJ}{ts:List (Nat×AT)}{l:List Oper}{t:AT}{st:AS}
theorem cY{Q:AS->Prop}{F0:Nat}{listed:Array Bool}(run:List (Nat×Bool))(F:Nat)(h:mX P ops Z run st (λst'=>dr P ops Z F (yx listed run) st' Q))(hc:(sP ops listed run && Region.noSelect ops && F0 == F+run.length)=true:=by kernel_rfl):dr P ops Z F0 listed st Q:=K1 run F hc h
theorem aa{run:List (Nat×Bool)}{Q:AS->Prop}{F0:Nat}{listed:Array Bool}(k:List Nat)[Ap k run](F:Nat)(h:mX P ops Z run st (λst'=>dr P ops Z F (yx listed run) st' Q))(hc:(sP ops listed run && Region.noSelect ops && F0 == F+run.length)=true:=by kernel_rfl):dr P ops Z F0 listed st Q:=K1 run F hc h
theorem ac(i:Nat){fuel:Nat}{listed:Array Bool}{Q:AS->Prop}(h0:(ops.toList[i]?,eJ ops o ⟨n,T,s,ts⟩,o.dst,Nat.blt d n)=(some o,some true,some d,true))(hy:co P (fe s Z) o ⟨n,T,s,ts⟩ t)(h:dr P ops Z fuel (listed.setIfInBounds i true) ⟨n,T,s,(d,t)::ts⟩ Q)
  (hr:((Region.ready .any ops listed).contains i && Region.free .any ops listed i && Region.noSelect ops)=true:=by kernel_rfl):dr P ops Z (fuel+1) listed ⟨n,T,s,ts⟩ Q:=TZ i hr h0 hy h
theorem aW(i:Nat){fuel:Nat}{listed:Array Bool}{K:AS->Prop}(hi:ops.toList[i]?=some o)(hw:eJ ops o ⟨n,T,s,ts⟩=some true)(h:dZ P (fe s Z) o ⟨n,T,s,ts⟩ λs=>dr P ops Z fuel (listed.setIfInBounds i true) s K)(hr:Region.ready .any ops listed=[i]:=by kernel_rfl):dr P ops Z (fuel+1) listed ⟨n,T,s,ts⟩ K:=one i hr hi hw h
theorem bH{fuel:Nat}{listed:Array Bool}{Q:AS->Prop}(h:Q st)(hr:Region.ready .any ops listed=[]:=by kernel_rfl):dr P ops Z fuel listed st Q:=QT hr h
theorem cB{id:Nat}{Q:Exit->AS->Prop}(Z:List Nat)(h:dr P ops Z ops.size (Array.replicate ops.size false) st (Q .normal))(hm:P.follows .mixedOrders=true:=by kernel_rfl):br P (.region id ops true) st Q:=WT Z hm h
theorem cA(i j:Nat){o2:Oper}{fuel:Nat}{listed:Array Bool}{K:AS->Prop}(hi:(ops.toList[i]?,eJ ops o ⟨n,T,s,ts⟩,ops.toList[j]?,eJ ops o2 ⟨n,T,s,ts⟩)=(some o,some true,some o2,some true))
  (h:dZ P (fe s Z) o ⟨n,T,s,ts⟩ λs=>dr P ops Z fuel (listed.setIfInBounds i true) s K) (h2:dZ P (fe s Z) o2 ⟨n,T,s,ts⟩ λs=>dr P ops Z fuel (listed.setIfInBounds j true) s K) (hr:Region.ready .any ops listed=[i,j]:=by kernel_rfl):dr P ops Z (fuel+1) listed ⟨n,T,s,ts⟩ K:=by
 simp only [jC] at hi;exact two i j hr hi.1 hi.2.1 hi.2.2.1 hi.2.2.2 h h2
end
end
end Go.Proofs.YtjgeihmhppadaaaGreatDoor
