import Derived.Test.YtckelpefchdenaaGreatDoorG10J
set_option linter.all false
set_option synthInstance.maxHeartbeats 1000000
set_option synthInstance.maxSize 1000000
set_option maxHeartbeats 8000000
set_option maxRecDepth 100000
namespace Go.Proofs.YtckelpefchdenaaGreatDoor
open Go.Proofs.Tryz
open List (length_append length_cons length_nil mem_append mem_cons not_mem_nil append_assoc getElem_mem take_of_length_le)
section
mutual
def Cl(l:List bP):∀e:aS,(cd l e).nodes <= e.nodes
 |.mk op num name args=>by
  rw [cd];split
  ·unfold rp;rw [aS.nodes,aS.nodes,cv];omega
  have:=JO l args;rw [aS.nodes,aS.nodes];omega
def JO(l:List bP):∀r:List aS,cv (uH l r) <= cv r
 |[]=>by rw [uH];omega
 |e::r=>by have h1:=Cl l e;have h2:=JO l r;rw [uH,cv,cv];omega
end
def OW(l:List bP)(r:cD):cv (ec l r).at_ <= cv r.index:=by
 show cv (r.index.map (cd l)) <= _;rw [←I5];exact JO l r.index
def oz.to{i:jD}(h:oz i)(t:Nat):oz (i.to t):=⟨h.e,h.p,h.n,h.q,h.l⟩
def jI(x:ai):Prop:=∀i,i∈x.code -> oz i
def jI.put{x:ai}(h:jI x){i:jD}(hi:oz i)(n:Nat):jI (x.put i n):=λj hj=>(mem_append.1 (show j∈x.code++[i] from hj)).elim (h j) (λhj=>by obtain rfl:=jq.1 hj;exact hi)
def jI.patch{x:ai}(h:jI x)(b:Nat):jI (x.patch b):=λj hj=>by
 rcases Iq (show j∈x.code.modify b (λi=>i.to x.code.length) from hj) with hj|⟨k,hk,rfl⟩
 ·exact h j hj
 exact (h k hk).to _
def uu:aS.zero.nodes <= 1000000000:=by unfold aS.zero;rw [aS.nodes,cv];omega
def tD{k:Int}{t:Nat}{b:Bool}{e:aS}(h:e.nodes <= 1000000000):oz ⟨k,t,b,e,dL,[],[]⟩:=⟨h,GF,by rw [cv];omega,λx hx=>AZ,eL _⟩
def NB(l:List bP):∀al:List bq,cv (d1 l al) <= dQ al
 |[]=>by unfold d1;show cv [] <= _;rw [cv];omega
 |a::al=>by
  have ih:=NB l al;have h1:=Cl l a.expr;unfold d1 at ih⊢;rw [CQ,dQ];unfold bq.wt;split
  ·rw [ca,cv];omega
  omega
def Lm(l:List bP):∀al:List bq,(∀x,x∈eM l al -> cv x.at_ <= dQ al) /\ (eM l al).length <= dQ al
 |[]=>⟨λx hx=>(by unfold eM at hx;cases hx),eL _⟩
 |a::al=>by
  obtain ⟨i1,i2⟩:=Lm l al;have h1:=OW l a.ref;unfold eM at i1 i2⊢;rw [CQ,dQ];unfold bq.wt cD.wt;split
  ·rw [ca,length_cons];refine ⟨λx hx=>?_,Y⟩;rcases mem_cons.1 hx with rfl|hx
   ·omega
   have:=i1 x hx;omega
  exact ⟨λx hx=>by have:=i1 x hx;omega,Y⟩
def NX:∀(al:List bq)(xs:List bg),dQ (iS al xs) <= dQ al
 |[],xs=>by cases xs<;>exact bY _
 |_::_,[]=>by simp [iS,dQ]
 |a::al,x::xs=>by
  have:=NX al xs;rw [iS];split
  ·rw [dQ,dQ];omega
  rw [dQ];omega
def Rt(p:aX)(l:List bP)(s:aD)(hw:s.wt <= 1000000000):oz (gL p l s):=by
 have hp:=f9 s;have z:=λ {k:Int} {t:Nat}=>tD (k:=k) (t:=t) (b:=false) uu;unfold gL ni;split
 ·exact z
 split
 ·split
  ·rename_i v _ _ _;have h1:=NB l (iS s.args (jV p v.n));obtain ⟨h2,h3⟩:=Lm l (iS s.args (jV p v.n));have h4:=NX s.args (jV p v.n);exact ⟨uu,GF,nY,λx hx=>by have:=h2 x hx;omega,nY⟩
  exact z
 exact z
def W1(p:aX)(s:aD)(x:ai)(hw:s.wt <= 1000000000)(h:jI x):jI (im p s x):=by
 have hp:=f9 s;have h0:∀e,jI (x.dg e):=λ_=>h;have he:(cd x.aq s.expr).nodes <= 1000000000:=by have:=Cl x.aq s.expr;omega
 have hr:∀k:Int,oz ⟨k,0,false,.zero,ec x.aq s.ref,[],[]⟩:=λk=>⟨uu,by have:=OW x.aq s.ref;unfold cD.wt at hp;dsimp only;omega,GF,λx hx=>AZ,eL _⟩;unfold im;split
 ·exact (h0 (dP (fU x.aq s.name) (cV x.aq s.expr))).put (tD he) x.n
 split
 ·exact (h0 _).put (tD he) _
 split
 ·exact (h0 _).put (Rt p _ s hw) _
 split
 ·exact (h0 _).put (hr 4) _
 split
 ·exact (h0 _).put (hr 5) _
 exact (h0 _).put (tD uu) _
mutual
def S3(p:aX):∀(s:aD)(x:ai),s.wt <= 1000000000 -> jI x -> jI (cy p s x)
 |.mk k name e r args t f,x,hw,h=>by
  have hb:jI (x.branch e):=by
   refine jI.put (x:=x.dg _) h (tD ?_) x.n;have:=Cl x.aq e;rw [aD.wt] at hw;omega
  have ht:jI (cM p t (x.branch e)):=CK p t _ (by rw [aD.wt] at hw;omega) hb;rw [cy];split
  ·split
   ·exact jI.patch (x:=(x.branch e).back (cM p t (x.branch e))) ht _
   have h1:jI ((((x.branch e).back (cM p t (x.branch e))).put (bm 7 .zero) x.n).patch x.code.length):=((jI.put (x:=(x.branch e).back (cM p t (x.branch e))) ht (tD uu) x.n)).patch _;have h2:=CK p f _ (by rw [aD.wt] at hw;omega) h1;exact jI.patch (x:=ai.back x (cM p f ((((x.branch e).back (cM p t (x.branch e))).put (bm 7 .zero) x.n).patch x.code.length))) h2 _
  split
  ·exact (jI.put (x:=(x.branch e).back (cM p t (x.branch e))) ht (tD uu) x.n).patch _
  exact W1 p _ x hw h
def CK(p:aX):∀(l:List aD)(x:ai),an l <= 1000000000 -> jI x -> jI (cM p l x)
 |[],x,_,h=>by rw [cM];exact h
 |s::l,x,hw,h=>by
  rw [an] at hw;rw [cM];exact CK p l _ Y (S3 p s x Y h)
end
def WP(p:aX)(f:a_)(hw:f.wt <= 20000000):(iU p f).code.length <= 1000000000 /\ ∀i,i∈(iU p f).code -> oz i:=by
 have hf:f.wt=1+f.params.length+an f.body:=J;unfold iU;rcases ie f.params (bd p) 0 0 with _|⟨l,i,m⟩
 ·exact ⟨eL _,λi h=>gQ⟩
 have h1:jI (cM p f.body (ai.init l i)):=CK p f.body _ Y (λi h=>gQ);have h2:=tR p f.body (ai.init l i);have h3:(ai.init l i).code.length=0:=J;refine ⟨?_,(jI.put (x:=ai.back (ai.init l i) (cM p f.body (ai.init l i))) h1 (tD uu) _:jI (xG p f l i))⟩;show ((cM p f.body (ai.init l i)).code++[bm 8 .zero]).length <= _;rw [length_append];show _+1 <= _;omega
def Sp{p:aX}(hw:p.wt <= 9000000):(oN p).globals.length <= 1000000000 /\ (oN p).mutexes.length <= 1000000000 /\ (oN p).procs.length <= 1000000000 /\ ∀x,x∈(oN p).procs -> x.code.length <= 1000000000 /\ ∀i,i∈x.code -> oz i:=by
 unfold aX.wt at hw;have hfl:=po a_.wt (λf=>q_) p.funcs;unfold oN;split
 ·refine ⟨D4,nY,D4,λx hx=>?_⟩;obtain ⟨f,hf,rfl⟩:=k_.1 hx;obtain ⟨k,hk,rfl⟩:=mT hf;exact WP p _ (by have:=qX a_.wt p.funcs k hk;omega)
 exact ⟨eL _,eL _,eL _,λx hx=>AZ⟩
end
section
open Go.RowKit
def RU(u:wz)(hg:u.globals.length <= 1000000000)(hml:u.mutexes.length <= 1000000000)(hpl:u.procs.length <= 1000000000)(hs:∀x,x∈u.procs -> x.code.length <= 1000000000 /\ ∀i,i∈x.code -> oz i)(s:aH):aT prog 8 [.agg (sO u),.agg (sO u),au true] [] s λt s'=>t=au true /\ s'=s:=by
 obtain ⟨bx,rw⟩:=s;refine bM 149 func8 ?_;refine go 14 λb1 b2=>?_;refine aF J (eG Y) (go 5 ?_);refine pM J call25 J (Qc u.globals u.globals J Y _) (go 9 ?_);refine aF J (eG Y) (go 8 ?_);refine aF J (eG Y) (go 13 ?_);refine m9 (u.mutexes.length) 7 (λk=>[(2,au true),(3,aE b1),(4,aE b2)]) (ao J) λk hk=>?_;show bi prog _ ⟨149,_,_,(7,ab k)::[(2,au true),(3,aE b1),(4,aE b2)]⟩ _;refine go 7 ?_;by_cases h2:(k:Int)<(u.mutexes.length:Int)
 ·refine aJ J (cw h2) (go 8 ?_);have hkl:k<u.mutexes.length:=Y;refine bu [b2,b1] (aU [0,1,2] 43 (go 4 ?_));refine aZ 3 J (bX bB bB u.mutexes lC (λ_=>J) k J J J J Y V j6 fp) (aU [4,5,6,7,8] 37 (go 6 ?_));refine aZ 9 J (bX bB bB u.mutexes lC (λ_=>J) k J J J J Y V j6 fp) (aU [10,11] 34 (go 3 ?_));refine aZ 12 J (jY false J J J jh (by simp [ya])) (aU [13,14,15,16] 29 (go 5 ?_));refine aZ 17 J (bX bB bB u.mutexes lC (λ_=>J) k J J J J Y V j6 fp) (aU [18,19,20,21,22] 23 (go 6 ?_));refine aZ 23 J (bX bB bB u.mutexes lC (λ_=>J) k J J J J Y V j6 fp) (aU [24,25] 20 (go 3 ?_));refine aZ 26 J (ei false J J J (eG Y)) (aU [27,28,29,30,31,32,33] 12 (go 8 ?_));refine aZ 34 J (bX bB bB u.mutexes lC (λ_=>J) k J J J J Y V j6 fp) (aU [35,36,37,38,39] 6 (go 6 ?_));refine aZ 40 J (bX bB bB u.mutexes lC (λ_=>J) k J J J J Y V j6 fp) (aU [41,42] 3 (go 3 ?_));refine aZ 43 J (fS false J J J (by simp [l8])) (aU [44,45] 0 (go 3 ?_));refine bC (go 7 ?_);refine bK J (go 2 ?_);exact ⟨Y,(av J (b_ Y) (ao J))⟩
 refine aF J (ct h2) (go 15 ?_);refine m9 (u.procs.length) 8 (λj=>[(2,au true),(3,aE b1),(4,aE b2)]) (ao J) λj hj=>?_;show bi prog _ ⟨149,_,_,(8,ab j)::[(2,au true),(3,aE b1),(4,aE b2)]⟩ _;refine go 7 ?_;by_cases h6:(j:Int)<(u.procs.length:Int)
 ·refine aJ J (cw h6) (go 8 ?_);have hjl:j<u.procs.length:=Y;obtain ⟨hm1,hm2⟩:=hs u.procs[j] (getElem_mem hjl);refine bu [b2,b1] (aU [0,1,2] 11 (go 4 ?_));refine aZ 3 J (bX fk fk u.procs wg (λ_=>J) j J J J J Y V Ab rf) (aU [4,5,6,7] 6 (go 5 ?_));refine aZ 8 J (bX fk fk u.procs wg (λ_=>J) j J J J J Y V Ab rf) (aU [9] 4 (go 2 ?_));refine Mg 10 11 aL aL aL J J J J J J J J V J J V V V AK J AK J λb3 b4=>?_;refine cY [(12,false),(13,false)] 0 (go 3 ?_);refine bC (go 7 ?_);refine aF J (eG Y) (go 5 ?_);refine aF J (eG Y) (go 6 ?_);refine aF J (eG Y) (go 6 ?_);refine pM J call26 J (Yp u.procs[j].code hm1 hm2 _) (go 9 ?_);refine aC J (fS false J J J (by simp [l8])) (go 10 ?_);refine bK J (go 2 ?_);exact ⟨Y,az (h1:=c_) (h:=av J (b_ Y) (ao J)) (λb hb=>d_ _ (d_ _ (hb)))⟩
 refine aF J (ct h6) (go 14 ?_);exact bF bx rw J fB ⟨bZ J,J⟩
end
section
def vN:ByteArray:=⟨#[122,122,122]⟩
abbrev l9:ByteArray -> Prop:=λs=>s≠vN
mutual
def yF(Q:ByteArray -> Prop):aS -> Prop
 |.mk op _ name args=>(op=2 -> Q name) /\ F_ Q args
def F_(Q:ByteArray -> Prop):List aS -> Prop
 |[]=>True
 |e::l=>yF Q e /\ F_ Q l
end
def OQ(Q:ByteArray -> Prop)(r:cD):Prop:=Q r.name /\ F_ Q r.index
def qB(Q:ByteArray -> Prop)(a:bq):Prop:=OQ Q a.ref /\ yF Q a.expr
mutual
def je(Q:ByteArray -> Prop):aD -> Prop
 |.mk _ n e r a t f=>Q n /\ yF Q e /\ OQ Q r /\ (∀x,x∈a -> qB Q x) /\ lJ Q t /\ lJ Q f
def lJ(Q:ByteArray -> Prop):List aD -> Prop
 |[]=>True
 |s::l=>je Q s /\ lJ Q l
end
section
variable {Q:ByteArray -> Prop}
theorem Hd:∀{a b:List aD},lJ Q a -> lJ Q b -> lJ Q (a++b)
 |[],b,_,h=>h
 |s::a,b,ha,h=>by rw [lJ] at ha;rw [eE,lJ];exact ⟨ha.1,Hd ha.2 h⟩
theorem FW:∀{l:List aD},lJ Q l -> ∀{k:Nat} (h:k<l.length),je Q l[k]
 |[],_,_,h=>absurd h (HU _)
 |s::l,hl,0,_=>by rw [lJ] at hl;exact hl.1
 |s::l,hl,k+1,h=>by rw [lJ] at hl;exact FW hl.2 (Nat.lt_of_succ_lt_succ h)
theorem YQ{l:List bq}(h:∀a,a∈l -> qB Q a):∀a,a∈l.drop 1 -> qB Q a:=λa ha=>h a (List.mem_of_mem_drop ha)
theorem Rx{l:List bq}{b:bq}(h:∀a,a∈l -> qB Q a)(hb:qB Q b):∀a,a∈l++[b] -> qB Q a:=λa ha=>by
 rcases mem_append.1 ha with ha|ha
 ·exact h a ha
 rw [jq.1 ha];exact hb
theorem HJ{l:List bq}{j:Nat}{b:bq}(h:∀a,a∈l -> qB Q a)(hb:qB Q b):∀a,a∈l.set j b -> qB Q a:=λa ha=>by
 rcases Iy ha with ha|ha
 ·exact h a ha
 rw [ha];exact hb
end
end
section
open Go.RowKit
def CX:List ByteArray:=[⟨#[97]⟩,⟨#[98]⟩,⟨#[103,48]⟩,⟨#[103,49]⟩,⟨#[109,97,105,110]⟩,⟨#[102,49]⟩,⟨#[102,50]⟩,⟨#[112,49]⟩,⟨#[112,50]⟩,⟨#[118,97]⟩,⟨#[118,120]⟩,⟨#[110,111,119,104,101,114,101]⟩,⟨#[]⟩,⟨#[105,102]⟩,⟨#[120,49]⟩]
def Rw:∀x,x∈CX -> x.size <= 10 /\ x≠vN:=V
def yY{α:Type}(enc:α -> List aO)(z:Nat)(hz:∀x,(enc x).length=z):∀(l:List α)(j:Nat)(h:j<l.length)(a:α),splice (l.flatMap enc) (j*z) (enc a)=(l.set j a).flatMap enc
 |x::l,0,_,a=>by
  unfold splice;rw [rO,mZ,ck,BB,eZ,eZ,cq,hz a,tj (hz x)]
 |x::l,j+1,h,a=>by
  have ih:=yY enc z hz l j iX a;unfold splice at ih⊢;rw [ym,eZ,eZ,←ih,show (j+1)*z=z+j*z by rw [tF,Nat.one_mul,D6],DJ,hz x,take_of_length_le (by rw [hz x];omega),show z+j*z-z=j*z by omega,qQ,yg,hz x,sY (by rw [hz x];omega),show z+(j*z+(enc a).length)-z=j*z+(enc a).length by omega];simp only [ck,append_assoc]
def P'{α:Type}(enc:α -> List aO)(z:Nat)(hz:∀x,(enc x).length=z)(l:List α)(j:Nat)(h:j<l.length):j*z+z <= (l.flatMap enc).length:=by
 rw [dF enc z hz l];have:(j+1)*z <= l.length*z:=D3 _ h;rw [tF] at this;omega
def Y9{α:Type}(enc:α -> List aO)(z:Nat)(hz:∀x,(enc x).length=z)(l:List α)(h:0<l.length):(l.flatMap enc).drop (1*z)=(l.drop 1).flatMap enc:=by
 cases l with
 |nil=>simp at h
 |cons x l=>rw [eZ,Nat.one_mul,tj (hz x)];rfl
def W2:∀(l:List bq),dQ (l.drop 1) <= dQ l
 |[]=>aM
 |x::l=>by rw [List.drop_succ_cons,tH,dQ];omega
def ML:∀(l:List bq)(a:bq),dQ (l++[a])=dQ l+a.wt
 |[],a=>by rw [ck,dQ,dQ,dQ];omega
 |x::l,a=>by rw [eE,dQ,dQ,ML l a];omega
def zd:∀(l:List bq)(j:Nat)(a:bq),dQ (l.set j a) <= dQ l+a.wt
 |[],_,_=>aM
 |x::l,0,a=>by rw [BB,dQ,dQ];omega
 |x::l,j+1,a=>by have:=zd l j a;rw [ym,dQ,dQ];omega
def Xj{l:List bq}(h:∀a,a∈l -> a.bt):∀a,a∈l.drop 1 -> a.bt:=λa ha=>h a (List.mem_of_mem_drop ha)
def Vl{l:List bq}{b:bq}(h:∀a,a∈l -> a.bt)(hb:b.bt):∀a,a∈l++[b] -> a.bt:=λa ha=>by
 rcases mem_append.1 ha with ha|ha
 ·exact h a ha
 rw [jq.1 ha];exact hb
def I1{l:List bq}{j:Nat}{b:bq}(h:∀a,a∈l -> a.bt)(hb:b.bt):∀a,a∈l.set j b -> a.bt:=λa ha=>by
 rcases Iy ha with ha|ha
 ·exact h a ha
 rw [ha];exact hb
def nG(y:ByteArray):aS:=⟨2,0,y,[]⟩
def mC(y:ByteArray):bq:=⟨false,⟨ay,[]⟩,⟨2,0,y,[]⟩⟩
def gt(b:Bool)(y:ByteArray):bq:=⟨b,⟨y,[]⟩,⟨0,0,ay,[]⟩⟩
def Bo{y:aI}(h:y.size <= 10):(nG y).bt:=by
 unfold nG;rw [aS.bt];exact ⟨uI,Y,trivial⟩
def MX{y:aI}(h:y.size <= 10):(mC y).bt:=⟨⟨by show ay.size <= _;decide,trivial⟩,Bo h⟩
def NH{b:Bool}{y:aI}(h:y.size <= 10):(gt b y).bt:=⟨⟨by show y.size <= _;omega,trivial⟩,by unfold gt;rw [aS.bt];exact ⟨uI,V,trivial⟩⟩
def BC{y:aI}(h:y≠vN):yF l9 (nG y):=by unfold nG;rw [yF];exact ⟨λ_=>h,trivial⟩
def Ob{y:aI}(h:y≠vN):qB l9 (mC y):=⟨⟨by show ay≠vN;decide,trivial⟩,BC h⟩
def Li{b:Bool}{y:aI}(h:y≠vN):qB l9 (gt b y):=⟨⟨h,trivial⟩,by unfold gt;rw [yF];exact ⟨λ_=>V,trivial⟩⟩
def QB(y:aI):(mC y).wt=3:=rfl
def G7(b:Bool)(y:aI):(gt b y).wt=3:=rfl
def BJ{P:Program}{U:List Nat}{o:Oper}{st:AS}{t yt:ax}{x y:bb}{m:Int}(ho:o.op=.binOp .shr t x y yt)(hx:aw st x=some (aj m))(hy:aw st y=some (ap (.int .u64 4))):cp P U o st (aj (m.fdiv 16)):=
 iM rfl λa w hs w'=>by
  simp only [execOp,ho,hs.val hx,hs.val hy];simp [go_sem,eqGuard,binOp,Op.shift,show min (Int.toNat 4) IntKind.i64.bits=4 from rfl]
def lF(n0:Int)(s:aH):aT prog 11 [aj n0] [] s λt s'=>(∃y:aI,t=cK y /\ y.size <= 10 /\ y≠vN) /\ s'=s:=by
 obtain ⟨bx,rw⟩:=s;refine bM 8 func11 ?_;refine go 7 ?_;refine aW J (uM Tryz.t9 [ac ⟨#[]⟩,ac ⟨#[]⟩,ac ⟨#[]⟩,ac ⟨#[]⟩,ac ⟨#[]⟩,ac ⟨#[]⟩,ac ⟨#[]⟩,ac ⟨#[]⟩,ac ⟨#[]⟩,ac ⟨#[]⟩,ac ⟨#[]⟩,ac ⟨#[]⟩,ac ⟨#[]⟩,ac ⟨#[]⟩,ac ⟨#[]⟩] J J V (.cons J (.cons J (.cons J (.cons J (.cons J (.cons J (.cons J (.cons J (.cons J (.cons J (.cons J (.cons J (.cons J (.cons J (.cons J .nil))))))))))))))) oY aL J V V aL aL (r:=CX.map λx=>ac x) aL ?_);refine go 1 ?_;obtain ⟨j1,hj1,aR7⟩:=my (n0) (15) Y;refine cf J mG J (mg (n0) (15) j1 Y Y hj1 _) ?_;rintro _ _ ⟨rfl,rfl⟩;have aOr:j1<CX.length:=by show _<15;omega
 refine aC J (m0 (λx=>ac x) CX j1 J J J J aOr kj iG) (go 5 ?_);exact bF bx rw J d3 ⟨⟨_,J,Rw _ (getElem_mem aOr)⟩,J⟩
def VW(k:Int)(nm:aI)(eo en:Int)(em:aI)(ea:List aS)(rn:aI)(ri:List aS)(ar:List bq)(th el:List aD)(how x:Int)(hs:aD.bt (.mk k nm ⟨eo,en,em,ea⟩ ⟨rn,ri⟩ ar th el))(hw:dQ ar <= 9000000)(bx:List aV)(rw:List aQ):aT prog 29 [.agg [aA k,ac nm,aA eo,aA en,ac em,aG bV ea,ac rn,aG bV ri,aG cg ar,aG encS th,aG encS el],aj how,aj x] [] ⟨bx,rw⟩ λt s'=>(∃q:aD,t=.agg (cm q) /\ q.bt /\ (q.thn=th /\ q.els=el∨q.thn=[] /\ q.els=[]) /\ 1+q.expr.nodes+q.ref.wt+dQ q.args <= 21+(1+(1+cv ea)+(1+cv ri)+dQ ar) /\ (je l9 (.mk k nm ⟨eo,en,em,ea⟩ ⟨rn,ri⟩ ar th el) -> je l9 q)) /\ s'=⟨bx,rw⟩:=by
 obtain ⟨hsn,hse,Bk,hsa,hst,Fd⟩:=nE hs;replace hsn:nm.size <= 4611686018427387904:=hsn;replace hsa:∀a,a∈ar -> a.bt:=hsa;have hal:=px ar;refine bM 109 func29 ?_;refine go 9 λb1 b2=>?_;refine cf J kq J (lF x _) ?_;rintro _ _ ⟨⟨y1,rfl,hy1,zy1⟩,rfl⟩;refine go 1 ?_;refine cx 12 J (bI.agg (.r (.r (.r (.n .nil)))):bI _ (.agg (bf (nG y1)))) (go 6 λb3=>?_);refine aW J (fH uR j' λg4=>?_);refine go 2 ?_;refine aW J (eW [] Tryz.t152 104 J J V J J uR aL J J J J V (dF cg 7 (λ_=>J) ar) cO Y (cq ar.length) Dv BD (ck _) λw5=>?_);refine go 7 ?_;obtain ⟨j2,hj2,aR8⟩:=my (how) (10) Y;refine cf J mG J (mg (how) (10) j2 Y Y hj2 _) ?_;rintro _ _ ⟨rfl,rfl⟩;refine go 6 ?_;by_cases h3:(j2:Int)=0
 ·refine aJ J (bR h3) (go 10 ?_);refine cf J kq J (lF x _) ?_;rintro _ _ ⟨⟨y6,rfl,hy6,zy6⟩,rfl⟩;refine go 8 ?_;by_cases h7:k=5
  ·refine aJ J (bR h7) (go 10 ?_);refine cf J kq J (lF x _) ?_;rintro _ _ ⟨⟨y9,rfl,hy9,zy9⟩,rfl⟩;refine go 10 ?_;refine io 8 J ?_;refine go 8 ?_;refine cx 108 J (bI.agg (.r (.r (.r (.r (.r (.r (.r (.r (.r (.r (.r .nil))))))))))):bI _ (.agg (cm (.mk k ay ⟨eo,en,em,ea⟩ ⟨y9,ri⟩ ar th el)))) (go 4 ?_);exact ⟨.inr J,_,⟨bx,rw⟩,bJ J (bv [_] J J ge eB (cG J J)),ah ek (.refl _),⟨(.mk k ay ⟨eo,en,em,ea⟩ ⟨y9,ri⟩ ar th el),J,(by rw [aD.bt];exact ⟨V,hse,⟨(by have:=hy9;show y9.size <= _;omega),Bk.2⟩,hsa,hst,Fd⟩),(.inl ⟨J,J⟩),ny,(λhg=>by rw [je] at hg⊢;obtain ⟨g1,g2,g3,g4,g5,g6⟩:=hg;exact ⟨V,g2,⟨zy9,g3.2⟩,g4,g5,g6⟩)⟩,J⟩
  refine aF J (bN h7) (go 3 ?_);by_cases h8:k=6
  ·refine aJ J (bR h8) (go 6 ?_);refine cf J kq J (lF x _) ?_;rintro _ _ ⟨⟨DB,rfl,aJ0,aJz⟩,rfl⟩;refine go 10 ?_;refine io 8 J ?_;refine go 8 ?_;refine cx 108 J (bI.agg (.r (.r (.r (.r (.r (.r (.r (.r (.r (.r (.r .nil))))))))))):bI _ (.agg (cm (.mk k ay ⟨eo,en,em,ea⟩ ⟨DB,ri⟩ ar th el)))) (go 4 ?_);exact ⟨.inr J,_,⟨bx,rw⟩,bJ J (bv [_] J J ge eB (cG J J)),ah ek (.refl _),⟨(.mk k ay ⟨eo,en,em,ea⟩ ⟨DB,ri⟩ ar th el),J,Lx,(.inl ⟨J,J⟩),ny,Lr⟩,J⟩
  refine aF J (bN h8) (go 9 ?_);refine io 8 J ?_;refine go 8 ?_;refine cx 108 J (bI.agg (.r (.r (.r (.r (.r (.r (.r (.r (.r (.r (.r .nil))))))))))):bI _ (.agg (cm (.mk k y6 ⟨eo,en,em,ea⟩ ⟨rn,ri⟩ ar th el)))) (go 4 ?_);exact ⟨.inr J,_,⟨bx,rw⟩,bJ J (bv [_] J J ge eB (cG J J)),ah ek (.refl _),⟨(.mk k y6 ⟨eo,en,em,ea⟩ ⟨rn,ri⟩ ar th el),J,(by rw [aD.bt];exact ⟨(by have:=hy6;omega),hse,⟨Bk.1,Bk.2⟩,hsa,hst,Fd⟩),(.inl ⟨J,J⟩),ny,(λhg=>by rw [je] at hg⊢;obtain ⟨g1,g2,g3,g4,g5,g6⟩:=hg;exact ⟨zy6,g2,⟨g3.1,g3.2⟩,g4,g5,g6⟩)⟩,J⟩
 refine aF J (bN h3) (go 5 ?_);by_cases h5:(j2:Int)=1
 ·refine aJ J (bR h5) (go 7 ?_);refine cf J kq J (lF x _) ?_;rintro _ _ ⟨⟨y7,rfl,hy7,zy7⟩,rfl⟩;refine go 8 ?_;by_cases h8:k=5
  ·refine aJ J (bR h8) (go 10 ?_);refine cf J kq J (lF x _) ?_;rintro _ _ ⟨⟨DB,rfl,aJ0,aJz⟩,rfl⟩;refine go 10 ?_;refine io 8 J ?_;refine go 8 ?_;refine cx 108 J (bI.agg (.r (.r (.r (.r (.r (.r (.r (.r (.r (.r (.r .nil))))))))))):bI _ (.agg (cm (.mk k ay ⟨eo,en,em,ea⟩ ⟨DB,ri⟩ ar th el)))) (go 4 ?_);exact ⟨.inr J,_,⟨bx,rw⟩,bJ J (bv [_] J J ge eB (cG J J)),ah ek (.refl _),⟨(.mk k ay ⟨eo,en,em,ea⟩ ⟨DB,ri⟩ ar th el),J,Lx,(.inl ⟨J,J⟩),ny,Lr⟩,J⟩
  refine aF J (bN h8) (go 3 ?_);by_cases h9:k=6
  ·refine aJ J (bR h9) (go 6 ?_);refine cf J kq J (lF x _) ?_;rintro _ _ ⟨⟨y11,rfl,aSa,aSb⟩,rfl⟩;refine go 10 ?_;refine io 8 J ?_;refine go 8 ?_;refine cx 108 J (bI.agg (.r (.r (.r (.r (.r (.r (.r (.r (.r (.r (.r .nil))))))))))):bI _ (.agg (cm (.mk k ay ⟨eo,en,em,ea⟩ ⟨y11,ri⟩ ar th el)))) (go 4 ?_);exact ⟨.inr J,_,⟨bx,rw⟩,bJ J (bv [_] J J ge eB (cG J J)),ah ek (.refl _),⟨(.mk k ay ⟨eo,en,em,ea⟩ ⟨y11,ri⟩ ar th el),J,(by rw [aD.bt];exact ⟨V,hse,⟨(by have:=aSa;show y11.size <= _;omega),Bk.2⟩,hsa,hst,Fd⟩),(.inl ⟨J,J⟩),ny,(λhg=>by rw [je] at hg⊢;obtain ⟨g1,g2,g3,g4,g5,g6⟩:=hg;exact ⟨V,g2,⟨aSb,g3.2⟩,g4,g5,g6⟩)⟩,J⟩
  refine aF J (bN h9) (go 9 ?_);refine io 8 J ?_;refine go 8 ?_;refine cx 108 J (bI.agg (.r (.r (.r (.r (.r (.r (.r (.r (.r (.r (.r .nil))))))))))):bI _ (.agg (cm (.mk k y7 ⟨eo,en,em,ea⟩ ⟨rn,ri⟩ ar th el)))) (go 4 ?_);exact ⟨.inr J,_,⟨bx,rw⟩,bJ J (bv [_] J J ge eB (cG J J)),ah ek (.refl _),⟨(.mk k y7 ⟨eo,en,em,ea⟩ ⟨rn,ri⟩ ar th el),J,(by rw [aD.bt];exact ⟨(by have:=hy7;omega),hse,⟨Bk.1,Bk.2⟩,hsa,hst,Fd⟩),(.inl ⟨J,J⟩),ny,(λhg=>by rw [je] at hg⊢;obtain ⟨g1,g2,g3,g4,g5,g6⟩:=hg;exact ⟨zy7,g2,⟨g3.1,g3.2⟩,g4,g5,g6⟩)⟩,J⟩
 refine aF J (bN h5) (go 6 ?_);by_cases h7:(j2:Int)=2
 ·refine aJ J (bR h7) (go 13 ?_);refine io 8 J ?_;refine go 8 ?_;refine cx 108 J (bI.agg (.r (.r (.r (.r (.r (.r (.r (.n (.r (.r (.r .nil))))))))))):bI _ (.agg (cm (.mk k nm ⟨eo,en,em,ea⟩ ⟨rn,[]⟩ ar th el)))) (go 4 ?_);exact ⟨.inr J,_,⟨bx,rw⟩,bJ J (bv [_] J J ge eB (cG J J)),ah ek (.refl _),⟨(.mk k nm ⟨eo,en,em,ea⟩ ⟨rn,[]⟩ ar th el),J,(by rw [aD.bt];exact ⟨hsn,hse,⟨Bk.1,trivial⟩,hsa,hst,Fd⟩),(.inl ⟨J,J⟩),ny,(λhg=>by rw [je] at hg⊢;obtain ⟨g1,g2,g3,g4,g5,g6⟩:=hg;exact ⟨g1,g2,⟨g3.1,trivial⟩,g4,g5,g6⟩)⟩,J⟩
 refine aF J (bN h7) (go 6 ?_);by_cases h9:(j2:Int)=3
 ·refine aJ J (bR h9) (go 6 ?_);refine aW J (bU (r:=[(nG y1)].flatMap bV) o' ?_);refine go 8 ?_;refine io 8 J ?_;refine go 8 ?_;refine cx 108 J (bI.agg (.r (.r (.r (.r (.r (.r (.r (.r (.r (.r (.r .nil))))))))))):bI _ (.agg (cm (.mk k nm ⟨eo,en,em,ea⟩ ⟨rn,[(nG y1)]⟩ ar th el)))) (go 4 ?_);exact ⟨.inr J,_,⟨bx,rw⟩,bJ J (bv [_] J J ge eB (cG J J)),ah ek (.refl _),⟨(.mk k nm ⟨eo,en,em,ea⟩ ⟨rn,[(nG y1)]⟩ ar th el),J,(by rw [aD.bt];exact ⟨hsn,hse,⟨Bk.1,⟨Bo hy1,trivial⟩⟩,hsa,hst,Fd⟩),(.inl ⟨J,J⟩),ny,(λhg=>by rw [je] at hg⊢;obtain ⟨g1,g2,g3,g4,g5,g6⟩:=hg;exact ⟨g1,g2,⟨g3.1,⟨BC zy1,trivial⟩⟩,g4,g5,g6⟩)⟩,J⟩
 refine aF J (bN h9) (go 6 ?_);by_cases h11:(j2:Int)=4
 ·refine aJ J (bR h11) (go 7 ?_);refine aC J (lT [] J J J lV) ?_;by_cases CD:(0:Int)<(ar.length:Int)
  ·refine aJ J (fF CD) (go 4 ?_);refine io 8 J ?_;refine go 1 ?_;refine aC J (SK (l:=1) (m:=(ar.drop 1).length) (r:=(ar.drop 1).flatMap cg) J J J J Y (dF cg 7 (λ_=>J) ar) aL aL j' kA.symm (Y9 cg 7 (λ_=>J) ar Y)) (go 6 ?_)
   skip
   refine go 8 ?_;refine cx 108 J (bI.agg (.r (.r (.r (.r (.r (.r (.r (.r (.r (.r (.r .nil))))))))))):bI _ (.agg (cm (.mk k nm ⟨eo,en,em,ea⟩ ⟨rn,ri⟩ (ar.drop 1) th el)))) (go 4 ?_);exact ⟨.inr J,_,⟨bx,rw⟩,bJ J (bv [_] J J ge eB (cG J J)),ah ek (.refl _),⟨(.mk k nm ⟨eo,en,em,ea⟩ ⟨rn,ri⟩ (ar.drop 1) th el),J,(by rw [aD.bt];exact ⟨hsn,hse,⟨Bk.1,Bk.2⟩,(Xj hsa),hst,Fd⟩),(.inl ⟨J,J⟩),(by have:=W2 ar;simp only [aD.expr,aD.ref,aD.args,cD.wt,aS.nodes,cv,nG];omega),(λhg=>by rw [je] at hg⊢;obtain ⟨g1,g2,g3,g4,g5,g6⟩:=hg;exact ⟨g1,g2,⟨g3.1,g3.2⟩,(YQ g4),g5,g6⟩)⟩,J⟩
  refine aF J (fE CD) (go 8 ?_);refine io 8 J ?_;refine go 8 ?_;refine cx 108 J (bI.agg (.r (.r (.r (.r (.r (.r (.r (.r (.r (.r (.r .nil))))))))))):bI _ (.agg (cm (.mk k nm ⟨eo,en,em,ea⟩ ⟨rn,ri⟩ ar th el)))) (go 4 ?_);exact ⟨.inr J,_,⟨bx,rw⟩,bJ J (bv [_] J J ge eB (cG J J)),ah ek (.refl _),⟨(.mk k nm ⟨eo,en,em,ea⟩ ⟨rn,ri⟩ ar th el),J,Fj,(.inl ⟨J,J⟩),ny,IH⟩,J⟩
 refine aF J (bN h11) (go 6 ?_);by_cases CD:(j2:Int)=5
 ·refine aJ J (bR CD) (go 8 ?_);refine cx 64 J (bI.agg (.r (.r (.n (.r (.r (.r (.r .nil))))))):bI _ (.agg (cg (mC y1)))) ?_;refine aW J (bU (r:=[(mC y1)].flatMap cg) y5 ?_);refine aW J (dS [] FS J J V cO Y (@length_append _ ar [(mC y1)]).symm fy co (dh (f:=cg)).symm λw6=>?_);refine go 6 ?_;refine io 8 J ?_;refine go 8 ?_;refine cx 108 J (bI.agg (.r (.r (.r (.r (.r (.r (.r (.r (.r (.r (.r .nil))))))))))):bI _ (.agg (cm (.mk k nm ⟨eo,en,em,ea⟩ ⟨rn,ri⟩ (ar++[(mC y1)]) th el)))) (go 4 ?_);exact ⟨.inr J,_,⟨bx,rw⟩,bJ J (bv [_] J J ge eB (cG J J)),ah ek (.refl _),⟨(.mk k nm ⟨eo,en,em,ea⟩ ⟨rn,ri⟩ (ar++[(mC y1)]) th el),J,(by rw [aD.bt];exact ⟨hsn,hse,⟨Bk.1,Bk.2⟩,(Vl hsa (MX hy1)),hst,Fd⟩),(.inl ⟨J,J⟩),(by have:=ML ar (mC y1);have:=QB y1;simp only [aD.expr,aD.ref,aD.args,cD.wt,aS.nodes,cv,nG];omega),(λhg=>by rw [je] at hg⊢;obtain ⟨g1,g2,g3,g4,g5,g6⟩:=hg;exact ⟨g1,g2,⟨g3.1,g3.2⟩,(Rx g4 (Ob zy1)),g5,g6⟩)⟩,J⟩
 refine aF J (bN CD) (go 6 ?_);by_cases sh:(j2:Int)=6
 ·refine aJ J (bR sh) (go 7 ?_);refine aC J (lT [] J J J lV) (go 6 ?_);by_cases wd:(0:Int)<(ar.length:Int)
  ·refine aJ J (fF wd) (go 5 ?_);refine zY [] Y λgr cr hgr=>?_;subst hgr;refine go 2 ?_;refine aC J (BJ J J J) (go 1 ?_);obtain ⟨CA,aSc,hlj19⟩:=my ((x.fdiv 16)) ((ar.length:Int)) Y;refine cf J mG J (mg ((x.fdiv 16)) ((ar.length:Int)) CA Y Y aSc _) ?_;rintro _ _ ⟨rfl,rfl⟩;refine go 1 ?_;refine aC J (yP J J J) ?_;by_cases h20:(vn x 8)=8
   ·refine aJ J (bR h20) (go 1 ?_);refine cf J kq J (lF x _) ?_;rintro _ _ ⟨⟨y21,rfl,aI1,aI0⟩,rfl⟩;refine go 2 ?_;refine cx 84 J (bI.agg (.r (.r (.n (.r (.r (.r (.n .nil))))))):bI _ (.agg (cg (gt true y21)))) ?_;refine aC J (ez (z:=7) CA J J J J tK lV j') ?_;refine aW J (lX (r:=(ar.set CA (gt true y21)).flatMap cg) [] J J J J J j' J Nh (by rw [cq];exact yY cg 7 (λ_=>rfl) ar CA tK (gt true y21)) gy vk ?_);refine go 5 ?_;refine aC J (yP J J J) ?_;refine aF J (bN Y) (go 8 ?_);refine io 8 J ?_;refine cx 8 J (t:=.c (.sl (ar.set CA (gt true y21)).length ((ar.set CA (gt true y21)).flatMap cg))) JV (go 8 ?_);refine cx 108 J (bI.agg (.r (.r (.r (.r (.r (.r (.r (.r (.r (.r (.r .nil))))))))))):bI _ (.agg (cm (.mk k nm ⟨eo,en,em,ea⟩ ⟨rn,ri⟩ (ar.set CA (gt true y21)) th el)))) (go 4 ?_);exact ⟨.inr J,_,⟨bx,rw⟩,bJ J (bv [_] J J ge eB (cG J J)),ah ek (.refl _),⟨(.mk k nm ⟨eo,en,em,ea⟩ ⟨rn,ri⟩ (ar.set CA (gt true y21)) th el),J,Kd,(.inl ⟨J,J⟩),(by have:=zd ar CA (gt true y21);have:=G7 true y21;simp only [aD.expr,aD.ref,aD.args,cD.wt,aS.nodes,cv,nG];omega),Nc⟩,J⟩
   refine aF J (bN h20) (go 1 ?_);refine cf J kq J (lF x _) ?_;rintro _ _ ⟨⟨y21,rfl,aI1,aI0⟩,rfl⟩;refine go 2 ?_;refine cx 84 J (bI.agg (.r (.r (.n (.r (.r (.r (.n .nil))))))):bI _ (.agg (cg (gt false y21)))) ?_;refine aC J (ez (z:=7) CA J J J J tK lV j') ?_;refine aW J (lX (r:=(ar.set CA (gt false y21)).flatMap cg) [] J J J J J j' J Nh (by rw [cq];exact yY cg 7 (λ_=>rfl) ar CA tK (gt false y21)) gy vk ?_);refine go 5 ?_;refine aC J (yP J J J) ?_;by_cases h22:(vn x 8)=0
   ·refine aJ J (bR h22) (go 3 ?_);refine bu [b3,b2,b1] (aU [0,1] 7 (go 3 ?_));refine aZ 2 J (BJ J J J) (aU [3,5,6] 3 (go 4 ?_));obtain ⟨j24,aSd,hlj24⟩:=my ((x.fdiv 16)) ((ar.length:Int)) Y;refine aY 4 J J (dv J J V mG J (mg ((x.fdiv 16)) ((ar.length:Int)) j24 Y Y aSd _) ?_);rintro _ _ ⟨rfl,rfl⟩;refine SQ 95 J (bI.agg (.r (.r (.n (.r (.r (.r (.r .nil))))))):bI _ (.agg (cg (mC y1)))) ?_;refine aZ 7 J (ez (z:=7) j24 J J J J tK lV j') ?_;refine aY 8 J J (lX (r:=((ar.set CA (gt false y21)).set j24 (mC y1)).flatMap cg) [] J J J J J j' J (by rw [cq];exact P' cg 7 (λ_=>rfl) (ar.set CA (gt false y21)) j24 tK) (by rw [cq];exact yY cg 7 (λ_=>rfl) (ar.set CA (gt false y21)) j24 tK (mC y1)) gy (λhn=>gi hn gy) ?_);refine bC (go 4 ?_);refine io 8 J ?_;refine cx 8 J (t:=.c (.sl ((ar.set CA (gt false y21)).set j24 (mC y1)).length (((ar.set CA (gt false y21)).set j24 (mC y1)).flatMap cg))) JV (go 8 ?_);refine cx 108 J (bI.agg (.r (.r (.r (.r (.r (.r (.r (.r (.r (.r (.r .nil))))))))))):bI _ (.agg (cm (.mk k nm ⟨eo,en,em,ea⟩ ⟨rn,ri⟩ ((ar.set CA (gt false y21)).set j24 (mC y1)) th el)))) (go 4 ?_);exact ⟨.inr J,_,⟨bx,rw⟩,bJ J (bv [_] J J ge eB (cG J J)),ah ek (.refl _),⟨(.mk k nm ⟨eo,en,em,ea⟩ ⟨rn,ri⟩ ((ar.set CA (gt false y21)).set j24 (mC y1)) th el),J,(by rw [aD.bt];exact ⟨hsn,hse,⟨Bk.1,Bk.2⟩,(I1 (I1 hsa (NH aI1)) (MX hy1)),hst,Fd⟩),(.inl ⟨J,J⟩),(by have:=zd ar CA (gt false y21);have:=G7 false y21;have:=zd (ar.set CA (gt false y21)) j24 (mC y1);have:=QB y1;simp only [aD.expr,aD.ref,aD.args,cD.wt,aS.nodes,cv,nG];omega),(λhg=>by rw [je] at hg⊢;obtain ⟨g1,g2,g3,g4,g5,g6⟩:=hg;exact ⟨g1,g2,⟨g3.1,g3.2⟩,(HJ (HJ g4 (Li aI0)) (Ob zy1)),g5,g6⟩)⟩,J⟩
   refine aF J (bN h22) (go 8 ?_);refine io 8 J ?_;refine cx 8 J (t:=.c (.sl (ar.set CA (gt false y21)).length ((ar.set CA (gt false y21)).flatMap cg))) JV (go 8 ?_);refine cx 108 J (bI.agg (.r (.r (.r (.r (.r (.r (.r (.r (.r (.r (.r .nil))))))))))):bI _ (.agg (cm (.mk k nm ⟨eo,en,em,ea⟩ ⟨rn,ri⟩ (ar.set CA (gt false y21)) th el)))) (go 4 ?_);exact ⟨.inr J,_,⟨bx,rw⟩,bJ J (bv [_] J J ge eB (cG J J)),ah ek (.refl _),⟨(.mk k nm ⟨eo,en,em,ea⟩ ⟨rn,ri⟩ (ar.set CA (gt false y21)) th el),J,Kd,(.inl ⟨J,J⟩),(by have:=zd ar CA (gt false y21);have:=G7 false y21;simp only [aD.expr,aD.ref,aD.args,cD.wt,aS.nodes,cv,nG];omega),Nc⟩,J⟩
  refine aF J (fE wd) (go 8 ?_);refine io 8 J ?_;refine go 8 ?_;refine cx 108 J (bI.agg (.r (.r (.r (.r (.r (.r (.r (.r (.r (.r (.r .nil))))))))))):bI _ (.agg (cm (.mk k nm ⟨eo,en,em,ea⟩ ⟨rn,ri⟩ ar th el)))) (go 4 ?_);exact ⟨.inr J,_,⟨bx,rw⟩,bJ J (bv [_] J J ge eB (cG J J)),ah ek (.refl _),⟨(.mk k nm ⟨eo,en,em,ea⟩ ⟨rn,ri⟩ ar th el),J,Fj,(.inl ⟨J,J⟩),ny,IH⟩,J⟩
 refine aF J (bN sh) (go 6 ?_);by_cases wd:(j2:Int)=7
 ·refine aJ J (bR wd) (go 13 ?_);refine io 8 J ?_;refine go 8 ?_;refine cx 108 J (bI.agg (.r (.r (.r (.r (.r (.r (.r (.r (.r (.r (.r .nil))))))))))):bI _ (.agg (cm (.mk k nm ⟨2,0,y1,[]⟩ ⟨rn,ri⟩ ar th el)))) (go 4 ?_);exact ⟨.inr J,_,⟨bx,rw⟩,bJ J (bv [_] J J ge eB (cG J J)),ah ek (.refl _),⟨(.mk k nm ⟨2,0,y1,[]⟩ ⟨rn,ri⟩ ar th el),J,(by rw [aD.bt];exact ⟨hsn,(Bo hy1),⟨Bk.1,Bk.2⟩,hsa,hst,Fd⟩),(.inl ⟨J,J⟩),ny,(λhg=>by rw [je] at hg⊢;obtain ⟨g1,g2,g3,g4,g5,g6⟩:=hg;exact ⟨g1,(BC zy1),⟨g3.1,g3.2⟩,g4,g5,g6⟩)⟩,J⟩
 refine aF J (bN wd) (go 6 ?_);by_cases h19:(j2:Int)=8
 ·refine aJ J (bR h19) (go 6 ?_);obtain ⟨j21,hj21,hlj21⟩:=my (x) (11) Y;refine cf J mG J (mg (x) (11) j21 Y Y hj21 _) ?_;rintro _ _ ⟨rfl,rfl⟩;refine go 7 ?_;refine io 8 J ?_;refine go 8 ?_;refine cx 108 J (bI.agg (.r (.r (.r (.r (.r (.r (.r (.r (.r (.r (.r .nil))))))))))):bI _ (.agg (cm (.mk (j21:Int) nm ⟨eo,en,em,ea⟩ ⟨rn,ri⟩ ar th el)))) (go 4 ?_);exact ⟨.inr J,_,⟨bx,rw⟩,bJ J (bv [_] J J ge eB (cG J J)),ah ek (.refl _),⟨(.mk (j21:Int) nm ⟨eo,en,em,ea⟩ ⟨rn,ri⟩ ar th el),J,Fj,(.inl ⟨J,J⟩),ny,IH⟩,J⟩
 refine aF J (bN h19) (go 4 ?_);refine bu [b3,b2] (aU [0] 5 (go 2 ?_));refine aZ 1 J (BJ J J J) (aU [3] 3 (go 2 ?_));refine aY 2 J J (dv J J V kq J (lF (x.fdiv 16) _) ?_);rintro _ _ ⟨⟨y21,rfl,aI1,aI0⟩,rfl⟩;refine cY [(4,true),(5,false)] 0 (go 3 ?_);refine bC (go 4 ?_);refine io 8 J ?_;refine go 8 ?_;refine cx 108 J (bI.agg (.r (.r (.r (.r (.r (.r (.r (.n (.r (.n (.n .nil))))))))))):bI _ (.agg (cm (.mk 1 y21 ⟨2,0,y1,[]⟩ ⟨ay,[]⟩ ar [] [])))) (go 4 ?_);exact ⟨.inr J,_,⟨bx,rw⟩,bJ J (bv [_] J J ge eB (cG J J)),ah ek (.refl _),⟨(.mk 1 y21 ⟨2,0,y1,[]⟩ ⟨ay,[]⟩ ar [] []),J,(by rw [aD.bt];exact ⟨(by have:=aI1;omega),(Bo hy1),⟨V,trivial⟩,hsa,trivial,trivial⟩),(.inr ⟨J,J⟩),ny,(λhg=>by rw [je] at hg⊢;obtain ⟨g1,g2,g3,g4,g5,g6⟩:=hg;exact ⟨aI0,(BC zy1),⟨V,trivial⟩,g4,trivial,trivial⟩)⟩,J⟩
def pu(s:aD):Nat:=1+s.expr.nodes+s.ref.wt+dQ s.args
def yw(s:aD):s.wt=pu s+an s.thn+an s.els:=by rw [f9];unfold pu;omega
structure yZ (s q:aD):Prop where
 bt:q.bt
 base:pu q <= 22*pu s
 thn:an q.thn <= an s.thn
 els:an q.els <= an s.els
 gd:je l9 s -> je l9 q
def yZ.self{s:aD}(h:s.bt):yZ s s:=⟨h,Y,bY _,bY _,id⟩
def Zi(s:aD)(how x:Int)(hs:s.bt)(hw:s.wt <= 9000000)(σ:aH):aT prog 29 [.agg (cm s),aj how,aj x] [] σ λt s'=>(∃q:aD,t=.agg (cm q) /\ yZ s q) /\ s'=σ:=by
 obtain ⟨k,nm,⟨eo,en,em,ea⟩,⟨rn,ri⟩,ar,th,el⟩:=s;obtain ⟨bx,rw⟩:=σ;have h:=VW k nm eo en em ea rn ri ar th el how x hs (by rw [f9] at hw;simp only [aD.args] at hw;omega) bx rw;intro vs w hm hT hl hr;refine (h vs w hm hT hl hr).mono ?_;rintro en w' ⟨r,v,s',h1,⟨⟨q,rfl,q1,q2,q3,q4⟩,rfl⟩,h4⟩;refine ⟨_,v,_,h1,⟨⟨q,J,q1,?_,?_,?_,q4⟩,J⟩,h4⟩
 ·unfold pu;simp only [aD.expr,aD.ref,aD.args,cD.wt,aS.nodes] at q3⊢;omega
 ·rcases q2 with ⟨ae,e2⟩|⟨ae,e2⟩
  ·rw [ae];exact bY _
  rw [ae,an];omega
 rcases q2 with ⟨ae,e2⟩|⟨ae,e2⟩
 ·rw [e2];exact bY _
 rw [e2,an];omega
structure H7 (l:List aD) (n:Int) (l':List aD) (n':Int):Prop where
 bt:eI l'
 wt:an l' <= 22*an l
 lo:n-22*(an l:Int) <= n'
 hi:n' <= n
 gd:lJ l9 l -> lJ l9 l'
def gq(q:aD)(t:List aD):aD:=.mk q.kind q.name q.expr q.ref q.args t q.els
def jy(q:aD)(t:List aD):aD:=.mk q.kind q.name q.expr q.ref q.args q.thn t
def Bu(a b:List aD):an (a++b)=an a+an b:=by
 induction a with
 |nil=>rw [ck,an];omega
 |cons x a ih=>rw [eE,an,an,ih];omega
def IE(l:List aD)(k:Nat)(h:k<l.length):an (l.take (k+1))=an (l.take k)+l[k].wt:=by
 rw [gX h,Bu,an,an];omega
def Rs(l:List aD)(k:Nat):an (l.take k) <= an l:=by
 have h:=Bu (l.take k) (l.drop k);rw [ov] at h;omega
def Jg{a b:List aD}(ha:eI a)(hb:eI b):eI (a++b):=by
 induction a with
 |nil=>exact hb
 |cons x a ih=>rw [eE,eI];rw [eI] at ha;exact ⟨ha.1,ih ha.2⟩
def J1{q:aD}{t1 cC:List aD}(h:q.bt)(h1:eI t1)(h2:eI cC):(jy (gq q t1) cC).bt:=by
 obtain ⟨a,b,c,d,-,-⟩:=nE h;unfold jy gq;rw [aD.bt];exact ⟨a,b,c,d,h1,h2⟩
def Ph{q:aD}{t1 cC:List aD}(h:je l9 q)(h1:lJ l9 q.thn -> lJ l9 t1)(h2:lJ l9 q.els -> lJ l9 cC):je l9 (jy (gq q t1) cC):=by
 cases q;unfold jy gq;rw [je] at h⊢;exact ⟨h.1,h.2.1,h.2.2.1,h.2.2.2.1,h1 h.2.2.2.2.1,h2 h.2.2.2.2.2⟩
section
variable {pr r:List aD}{q:aD}{k:Nat}
def BI(hk:pr.length=k):(pr++q::r).flatMap encS=pr.flatMap encS++(cm q++r.flatMap encS) /\ (pr.flatMap encS).length=k*11:=by
 refine ⟨by rw [dh,eZ,mQ],?_⟩;rw [dF encS 11 kS,hk]
def Up(hk:pr.length=k):fi true 11 ((pr++q::r).flatMap encS) (0+k*11)=some (.agg (cm q)):=by
 obtain ⟨h1,h2⟩:=BI (q:=q) (r:=r) hk;unfold fi;rw [if_pos rfl,h1,cq,tj h2,sN j9,if_pos (by rw [length_append,length_append,h2];show _ <= _+(11+_);omega)]
def C9(hk:pr.length=k)(i:Nat)(x:aO)(hx:(cm q)[i]?=some x):fi false 1 ((pr++q::r).flatMap encS) (0+k*11+i)=some (.c x):=by
 obtain ⟨h1,h2⟩:=BI (q:=q) (r:=r) hk;have hi:i<(cm q).length:=(mN.1 hx).1;unfold fi;rw [if_neg V,h1,cq,oV Y,h2,uQ,qS hi,hx];rfl
def Ve(hk:pr.length=k)(q':aD):splice ((pr++q::r).flatMap encS) (0+k*11) (cm q')=(pr++q'::r).flatMap encS:=by
 rw [cq,←mQ,yY encS 11 kS _ k dr]
 congr 1
 subst hk;simp
def BU(hk:pr.length=k)(i:Nat)(x:aO)(q':aD)(hi:i<11)(hx:(cm q).set i x=cm q'):splice ((pr++q::r).flatMap encS) (0+k*11+i) [x]=(pr++q'::r).flatMap encS:=by
 obtain ⟨h1,h2⟩:=BI (q:=q) (r:=r) hk;obtain ⟨h3,h4⟩:=BI (q:=q') (r:=r) hk;have h11:(cm q).length=11:=J;rw [h1,h3,←hx];unfold splice;rw [cq,←h2,DJ,take_of_length_le Y,uQ,IQ Y];simp only [append_assoc];rw [yg,sY dr,ck,show (pr.flatMap encS).length+i+[x].length-(pr.flatMap encS).length=i+1 by simp;omega,E4 Y,Ha,if_pos Y];simp
def yR(hk:pr.length=k)(i z:Nat)(h:i+z <= 11):0+k*11+i+z <= ((pr++q::r).flatMap encS).length:=by
 rw [dF encS 11 kS,length_append,length_cons,hk,tF,tF];omega
end
def QR(N:Nat)(l:List aD)(n how x:Int)(hN:N+1 <= 9000000)(hl:an l <= N+1)(hl2:l.length <= 9000000)(hs:eI l)(hn1:-1000000000000000+22*(an l:Int) <= n)(hn2:n <= 1000000000000000)(ih:0<l.length -> ∀(l:List aD)(n:Int),an l <= N -> eI l -> -1000000000000000+22*(an l:Int) <= n -> n <= 1000000000000000 -> ∀s:aH,aT prog 13 [.c (aG encS l),aj n,aj how,aj x] [] s λt s'=>(∃l' n',t=.fd [.c (aG encS l'),aj n'] /\ H7 l n l' n') /\ s'=s)(bx:List aV)(rw:List aQ):aT prog 13 [.c (aG encS l),aj n,aj how,aj x] [] ⟨bx,rw⟩ λt s'=>(∃l' n',t=.fd [.c (aG encS l'),aj n'] /\ H7 l n l' n') /\ s'=⟨bx,rw⟩:=by
 refine bM 69 func13 ?_;refine go 8 ?_;refine aW J (fH pi eB λg1=>?_);refine go 1 ?_;refine aW J (eW [] Tryz.t105 192 J J V J J pi aL J J J J V (dF encS 11 kS l) cO Y (cq l.length) Dv BD (ck _) λw2=>?_);refine go 10 ?_;refine fv (λg:Nat×List aD×Int×aN=>(⟨69,aR g.2.2.2,⟨bx,⟨g.2.2.2,105,11,l.length,(g.2.1++l.drop g.1).flatMap encS⟩::rw⟩,[(11,ab g.1),(10,ap g.2.2.2),(1,aj g.2.2.1),(0,.c (aG encS l)),(2,aj how),(3,aj x)]⟩:AS)) (λg=>g.1 <= l.length /\ g.2.1.length=g.1 /\ eI g.2.1 /\ an g.2.1 <= 22*an (l.take g.1) /\ n-22*(an (l.take g.1):Int) <= g.2.2.1 /\ g.2.2.1 <= n /\ (lJ l9 l -> lJ l9 g.2.1)) (λg=>l.length-g.1) (0,[],n,w2) (az (λb hb=>gW _ hb)) ⟨Y,J,trivial,by simp [an],by simp [an],Int.le_refl _,λ_=>trivial⟩ ?_;rintro ⟨k,pr,m,v⟩ ⟨hk,hpl,hps,hpw,hm1,hm2,hpg⟩;dsimp only at hk hpl hps hpw hm1 hm2 hpg
 try dsimp only
 refine go 5 ?_;refine aC J (lT [] J J J j0) ?_;by_cases h1:(k:Int)<(l.length:Int)
 ·refine aJ J (cw h1) (go 10 ?_);have hkl:k<l.length:=Y;refine zY [] Y λgr cr hgr=>?_;subst hgr;rw [ii hkl];have hlk:=tg _ hs _ (getElem_mem hkl);have hwt:=rH l k hkl;have hwt2:=yw l[k];have hwm:=IE l k hkl;have hwm2:=Rs l (k+1);have hb0:1 <= pu l[k]:=by unfold pu;omega
  refine go 1 ?_;by_cases h3:m=0
  ·refine aJ J (bR h3) (go 8 ?_);refine aC J (ez (z:=11) k J J J J hkl j0 eB) ?_;refine aC J (kb [] ge eB (Up hpl)) (go 2 ?_);refine cf J call29 J (Zi l[k] how x hlk Y _) ?_;rintro _ _ ⟨⟨q,rfl,hQ⟩,rfl⟩;refine aC J (ez (z:=11) k J J J J hkl j0 eB) ?_;refine aW J (lX (r:=(pr++q::l.drop (k+1)).flatMap encS) [] J J J J J eB J (yR hpl 0 11 V) (Ve hpl q) gy vk ?_);refine go 5 ?_;refine aC J (kM) (go 9 ?_);refine aC J (ez (z:=11) k J J J J hkl j0 eB) ?_;refine aC J (id <|jX 9 (0+k*11+9) me iZ) ?_;refine aC J (kb [] tc iZ (C9 hpl 9 _ J)) (go 3 ?_);refine cf J call13 J (ih Y (aD.thn q) (m-1) yL (nE hQ.bt).2.2.2.2.1 yL yL _) ?_;rintro _ _ ⟨⟨t1,m1,rfl,hE1⟩,rfl⟩;refine go 3 ?_;refine aC J (ez (z:=11) k J J J J hkl j0 eB) ?_;refine aC J (id <|jX 9 (0+k*11+9) me iZ) ?_;refine aW J (lX (r:=(pr++(gq q t1)::l.drop (k+1)).flatMap encS) [] J J J J J iZ J (yR hpl 9 1 V) (BU hpl 9 _ (gq q t1) V J) gy vk ?_);refine go 8 ?_;refine aC J (ez (z:=11) k J J J J hkl j0 eB) ?_;refine aC J (id <|jX 10 (0+k*11+10) me iZ) ?_;refine aC J (kb [] tc iZ (C9 hpl 10 _ J)) (go 3 ?_);refine cf J call13 J (ih Y (aD.els (gq q t1)) m1 (by have:=hQ.thn;have:=hQ.els;have:=hE1.lo;have:=hE1.hi;show an q.els <= N;omega) (nE hQ.bt).2.2.2.2.2 (by have:=hQ.thn;have:=hQ.els;have:=hE1.lo;have:=hE1.hi;show -1000000000000000+22*(an q.els:Int) <= _;omega) OH _) ?_;rintro _ _ ⟨⟨cC,m2,rfl,hE2⟩,rfl⟩;refine go 3 ?_;refine aC J (ez (z:=11) k J J J J hkl j0 eB) ?_;refine aC J (id <|jX 10 (0+k*11+10) me iZ) ?_;refine aW J (lX (r:=(pr++(jy (gq q t1) cC)::l.drop (k+1)).flatMap encS) [] J J J J J iZ J (yR hpl 10 1 V) (BU hpl 10 _ (jy (gq q t1) cC) V J) gy vk ?_);refine go 6 ?_;refine bK J (go 2 ?_);have hQw:=yw (jy (gq q t1) cC);have hwk:=IE l k hkl;have hbl:=yw l[k];rw [show pr++(jy (gq q t1) cC)::l.drop (k+1)=(pr++[(jy (gq q t1) cC)])++l.drop (k+1) by simp];have hb9:pu (jy (gq q t1) cC)=pu q:=J;have ht9:an (aD.thn (jy (gq q t1) cC))=an t1:=J;have he9:an (aD.els (jy (gq q t1) cC))=an cC:=J;have he8:an (aD.els (gq q t1))=an (aD.els q):=J
   have ae:=hE1.wt;have e2:=hE2.wt;have e3:=hQ.base;have e4:=hQ.thn;have e5:=hQ.els;have e6:=hE1.lo;have e7:=hE2.lo;have e8:=hE1.hi;have e9:=hE2.hi;refine ⟨(k+1,pr++[(jy (gq q t1) cC)],m2,(.slice (some ⟨gr,0,none⟩) l.length cr)),⟨nY,by simp [hpl],Jg hps ⟨J1 hQ.bt hE1.bt hE2.bt,trivial⟩,by dsimp only;rw [Bu,an,an];omega,nY,nY,λhl=>Hd (hpg hl) ⟨Ph (hQ.gd (FW hl hkl)) hE1.gd hE2.gd,trivial⟩⟩,Da,(ao J)⟩
  refine aF J (bN h3) (go 7 ?_);have hQ:yZ l[k] l[k]:=yZ.self hlk;refine go 1 ?_;refine aC J (kM) (go 9 ?_);refine aC J (ez (z:=11) k J J J J hkl j0 eB) ?_;refine aC J (id <|jX 9 (0+k*11+9) me iZ) ?_;refine aC J (kb [] tc iZ (C9 hpl 9 _ J)) (go 3 ?_);refine cf J call13 J (ih Y (aD.thn l[k]) (m-1) yL (nE hQ.bt).2.2.2.2.1 yL yL _) ?_;rintro _ _ ⟨⟨t1,m1,rfl,hE1⟩,rfl⟩;refine go 3 ?_;refine aC J (ez (z:=11) k J J J J hkl j0 eB) ?_;refine aC J (id <|jX 9 (0+k*11+9) me iZ) ?_;refine aW J (lX (r:=(pr++(gq l[k] t1)::l.drop (k+1)).flatMap encS) [] J J J J J iZ J (yR hpl 9 1 V) (BU hpl 9 _ (gq l[k] t1) V J) gy vk ?_);refine go 8 ?_;refine aC J (ez (z:=11) k J J J J hkl j0 eB) ?_;refine aC J (id <|jX 10 (0+k*11+10) me iZ) ?_;refine aC J (kb [] tc iZ (C9 hpl 10 _ J)) (go 3 ?_);refine cf J call13 J (ih Y (aD.els (gq l[k] t1)) m1 (by have:=hQ.thn;have:=hQ.els;have:=hE1.lo;have:=hE1.hi;show an l[k].els <= N;omega) (nE hQ.bt).2.2.2.2.2 (by have:=hQ.thn;have:=hQ.els;have:=hE1.lo;have:=hE1.hi;show -1000000000000000+22*(an l[k].els:Int) <= _;omega) OH _) ?_;rintro _ _ ⟨⟨cC,m2,rfl,hE2⟩,rfl⟩;refine go 3 ?_;refine aC J (ez (z:=11) k J J J J hkl j0 eB) ?_;refine aC J (id <|jX 10 (0+k*11+10) me iZ) ?_;refine aW J (lX (r:=(pr++(jy (gq l[k] t1) cC)::l.drop (k+1)).flatMap encS) [] J J J J J iZ J (yR hpl 10 1 V) (BU hpl 10 _ (jy (gq l[k] t1) cC) V J) gy vk ?_);refine go 6 ?_;refine bK J (go 2 ?_);have hQw:=yw (jy (gq l[k] t1) cC);have hwk:=IE l k hkl;have hbl:=yw l[k];rw [show pr++(jy (gq l[k] t1) cC)::l.drop (k+1)=(pr++[(jy (gq l[k] t1) cC)])++l.drop (k+1) by simp];have hb9:pu (jy (gq l[k] t1) cC)=pu l[k]:=J;have ht9:an (aD.thn (jy (gq l[k] t1) cC))=an t1:=J;have he9:an (aD.els (jy (gq l[k] t1) cC))=an cC:=J;have he8:an (aD.els (gq l[k] t1))=an (aD.els l[k]):=J;have ae:=hE1.wt;have e2:=hE2.wt;have e3:=hQ.base;have e4:=hQ.thn;have e5:=hQ.els;have e6:=hE1.lo;have e7:=hE2.lo;have e8:=hE1.hi;have e9:=hE2.hi;refine ⟨(k+1,pr++[(jy (gq l[k] t1) cC)],m2,(.slice (some ⟨gr,0,none⟩) l.length cr)),⟨nY,by simp [hpl],Jg hps ⟨J1 hQ.bt hE1.bt hE2.bt,trivial⟩,by dsimp only;rw [Bu,an,an];omega,nY,nY,λhl=>Hd (hpg hl) ⟨Ph (hQ.gd (FW hl hkl)) hE1.gd hE2.gd,trivial⟩⟩,Da,(ao J)⟩
 refine aF J (ct h1) (go 10 ?_);obtain rfl:k=l.length:=Y;rw [List.drop_length,eY];refine io 10 J ?_;refine cx 10 J (t:=.c (aG encS pr)) (by rw [←hpl];exact λ_ _ h=>h) ?_;rw [hP] at hpw hm1;refine go 7 ?_;exact ⟨.inr J,_,⟨bx,rw⟩,jA J (bO J) (bO J),ah (.refl _) (.refl _),⟨pr,m,J,hps,hpw,hm1,hm2,hpg⟩,J⟩
end
section
open Go.RowKit
def Ms:∀(N:Nat)(l:List aD)(n how x:Int),N <= 8999999 -> an l <= N -> eI l -> -1000000000000000+22*(an l:Int) <= n -> n <= 1000000000000000 -> ∀s:aH,aT prog 13 [.c (aG encS l),aj n,aj how,aj x] [] s λt s'=>(∃l' n',t=.fd [.c (aG encS l'),aj n'] /\ H7 l n l' n') /\ s'=s
 |0,l,n,how,x,hN,hw,hs,h1,h2,⟨bx,rw⟩=>QR 0 l n how x Y Y pP hs h1 h2 (λh=>absurd (ol l) Y) bx rw
 |N+1,l,n,how,x,hN,hw,hs,h1,h2,⟨bx,rw⟩=>QR N l n how x Y hw pP hs h1 h2 (λ_ l2 n2 q1 q2 q3 q4 s=>Ms N l2 n2 how x Y q1 q2 q3 q4 s) bx rw
def Uq{P:Program}{α:Type}{x y:Code}{st:AS}{Q:Exit -> AS -> Prop}(F:α -> AS)(h1:bi P x st (lH (λs=>∃a,Sub s (F a)) Q))(h2:∀a,bi P y (F a) Q):bi P (.seq x y) st Q:=
 yy (sK h1 λe s h=>by
  cases e with
  |normal=>obtain ⟨a,ha⟩:=h;exact rY ha (h2 a)
  |_=>exact h)
def SR{bx:List aV}{rw rw':List aQ}(h:rw'.Perm rw):jJ ⟨bx,rw⟩ ⟨bx,rw'⟩:=by
 intro w hm;have hp:((⟨bx,rw'⟩:aH).bl).Perm ((⟨bx,rw⟩:aH).bl):=F7 (C0 _) (h.flatMap_right _);have hu:f7 (bh (⟨bx,rw⟩:aH).bl w) (bh (⟨bx,rw'⟩:aH).bl w):=up_sub λb hb=>hp.mem_iff.1 hb;exact ⟨⟨hp.nodup_iff.2 hm.nodup,λb hb=>hm.lt b (hp.mem_iff.1 hb),λx hx=>let ⟨us,e,r⟩:=hm.box x hx;⟨us,e,r.mono hu⟩,λx hx=>let ⟨us,e,r⟩:=hm.row x (h.mem_iff.1 hx);⟨us,e,r.mono hu⟩⟩,λb hb=>hp.mem_iff.1 hb⟩
def Wv{n:Nat}{T T':List Nat}{bx:List aV}{rw rw':List aQ}{ts ts':List (Nat×AT)}(h:rw'.Perm rw)(hT:∀b,b∈T' -> b∈T)(hs:Sub ⟨n,T',⟨bx,rw'⟩,ts⟩ ⟨n,T',⟨bx,rw'⟩,ts'⟩):Sub ⟨n,T,⟨bx,rw⟩,ts⟩ ⟨n,T',⟨bx,rw'⟩,ts'⟩:=
 (rS (st:=⟨n,T,⟨bx,rw⟩,ts⟩) (SR h)).trans (az (h:=hs) hT)
def zp{α:Type}(a b c:α)(l:List α):(a::b::c::l).Perm (a::c::b::l) /\ (a::b::c::l).Perm (b::a::c::l) /\ (a::b::c::l).Perm (b::c::a::l) /\ (a::b::c::l).Perm (c::a::b::l) /\ (a::b::c::l).Perm (c::b::a::l):=by
 have h1:∀(x y z:α),(x::y::z::l).Perm (x::z::y::l):=λx y z=>.cons _ (.swap _ _ _);have h2:∀(x y z:α),(x::y::z::l).Perm (y::x::z::l):=λx y z=>.swap _ _ _;exact ⟨h1 _ _ _,h2 _ _ _,(h2 _ _ _).trans (h1 _ _ _),(h1 _ _ _).trans (h2 _ _ _),((h1 _ _ _).trans (h2 _ _ _)).trans (h1 _ _ _)⟩
def Jl{P:Program}{ops:Array Oper}{Z:List Nat}{fuel:Nat}{listed:Array Bool}{n:Nat}{T:List Nat}{bx:List aV}{rw:List aQ}{ts:List (Nat×AT)}{K:AS -> Prop}{v:aN}{E:ax}{z k:Nat}{cs:List aO}(i:Nat)(hi:look ts i=some (ap v))(h:dq P ops Z fuel listed ⟨n,T,⟨bx,rw⟩,(i,.c (.sl k cs))::ts⟩ K)(hz:0<z:=by decide):dq P ops Z fuel listed ⟨n,T,⟨bx,⟨v,E,z,k,cs⟩::rw⟩,ts⟩ K:=
 A9 (GJ (st:=⟨n,T,⟨bx,⟨v,E,z,k,cs⟩::rw⟩,ts⟩) (A:=[]) i hi rfl hz) h
def xu(f:a_)(y:ByteArray):a_:=⟨y,f.params,f.body⟩
def oC(f:a_)(l:List bg):a_:=⟨f.name,l,f.body⟩
def xR(f:a_)(l:List aD):a_:=⟨f.name,f.params,l⟩
section
variable {fs:List a_}{k:Nat}{f':a_}
def Io(hk:k<fs.length):fs.flatMap bT=(fs.take k).flatMap bT++(bT fs[k]++(fs.drop (k+1)).flatMap bT) /\ ((fs.take k).flatMap bT).length=k*3:=by
 refine ⟨?_,?_⟩
 ·conv=>lhs;rw [←ov k fs,ii hk]
  rw [dh,eZ]
 rw [dF bT 3 mY,kU,tJ Y]
def Er(hk:k<fs.length):fi true 3 (fs.flatMap bT) (0+k*3)=some (.agg (bT fs[k])):=by
 obtain ⟨h1,h2⟩:=Io hk;unfold fi;rw [if_pos rfl,h1,cq,tj h2,sN j9,if_pos (by rw [length_append,length_append,h2];show _ <= _+(3+_);omega)]
def vK(hk:k<fs.length)(i:Nat)(x:aO)(hx:(bT fs[k])[i]?=some x):fi false 1 (fs.flatMap bT) (0+k*3+i)=some (.c x):=by
 obtain ⟨h1,h2⟩:=Io hk;have hi:i<(bT fs[k]).length:=(mN.1 hx).1;unfold fi;rw [if_neg V,h1,cq,oV Y,h2,uQ,qS hi,hx];rfl
def BL(hk:k<fs.length)(i:Nat)(x:aO)(hi:i<3)(hx:(bT fs[k]).set i x=bT f'):splice (fs.flatMap bT) (0+k*3+i) [x]=(fs.set k f').flatMap bT:=by
 obtain ⟨h1,h2⟩:=Io hk;have h4:(fs.set k f').flatMap bT=(fs.take k).flatMap bT++(bT f'++(fs.drop (k+1)).flatMap bT):=by
  rw [Ha,if_pos hk,dh,eZ]
 have h11:(bT fs[k]).length=3:=J;rw [h4,h1,←hx];unfold splice;rw [cq,←h2,DJ,take_of_length_le Y,uQ,IQ Y];simp only [append_assoc];rw [yg,sY dr,ck,show ((fs.take k).flatMap bT).length+i+[x].length-((fs.take k).flatMap bT).length=i+1 by simp;omega,E4 Y,Ha,if_pos Y];simp
def Dq(hk:k<fs.length)(i z:Nat)(h:i+z <= 3):0+k*3+i+z <= (fs.flatMap bT).length:=by
 rw [dF bT 3 mY];have:(k+1)*3 <= fs.length*3:=D3 _ hk;omega
end
def pO(fs:List a_):Nat:=(fs.map a_.wt).sum
def y4:∀(fs:List a_)(k:Nat)(f':a_),pO (fs.set k f') <= pO fs+f'.wt
 |[],_,_=>aM
 |f::fs,0,f'=>by unfold pO;simp only [BB,ca,mh];omega
 |f::fs,k+1,f'=>by have:=y4 fs k f';unfold pO at this⊢;simp only [ym,ca,mh];omega
def W6(fs:List a_)(f':a_):pO (fs++[f'])=pO fs+f'.wt:=by unfold pO;simp
def Dw{α:Type}{Q:α -> Prop}{l:List α}{k:Nat}{a:α}(h:∀x,x∈l -> Q x)(ha:Q a):∀x,x∈l.set k a -> Q x:=λx hx=>by
 rcases Iy hx with hx|hx
 ·exact h x hx
 rw [hx];exact ha
def xP{α:Type}{Q:α -> Prop}{l:List α}{a:α}(h:∀x,x∈l -> Q x)(ha:Q a):∀x,x∈l++[a] -> Q x:=λx hx=>by
 rcases mem_append.1 hx with hx|hx
 ·exact h x hx
 rw [jq.1 hx];exact ha
def tE{a b c:Nat}{q:aX}(ha:a=q.globals.length)(hb:b=q.mutexes.length)(hc:c=q.funcs.length):bI (.agg [.sl a (q.globals.flatMap cR),.sl b (q.mutexes.flatMap bB),.sl c (q.funcs.flatMap bT)]) (.agg (di q)):=by subst ha hb hc;exact λ_ _ h=>h
structure XM (p q:aX):Prop where
 bt:q.bt
 wt:q.wt <= 24*p.wt+20
 funcs:p.funcs.length <= q.funcs.length
def O4(p:aX)(which a how x:Int)(hs:p.bt)(hw:p.wt <= 300000)(hf:1 <= p.funcs.length)(hx:fit x)(s:aH):aT prog 4 [.agg (di p),aj which,aj a,aj how,aj x] [] s λt s'=>(∃q:aX,t=.agg (di q) /\ XM p q) /\ s'=s:=by
 obtain ⟨bx,rw⟩:=s;have hwp:p.wt=p.globals.length+p.mutexes.length+(p.funcs.map a_.wt).sum:=J;have hfn:=po a_.wt (λx=>q_) p.funcs;refine bM 137 func4 ?_;refine go 6 λb1 b2=>?_;refine Uq (λg:aN×aN×aN=>(⟨137,(aR g.1++aR g.2.1++aR g.2.2)++[b1,b2],⟨⟨b2,27,[aK,aK,aK]⟩::⟨b1,27,[.val g.1,.val g.2.1,.val g.2.2]⟩::bx,⟨g.1,43,2,p.globals.length,p.globals.flatMap cR⟩::⟨g.2.1,45,3,p.mutexes.length,p.mutexes.flatMap bB⟩::⟨g.2.2,49,3,p.funcs.length,p.funcs.flatMap bT⟩::rw⟩,[(1,aj which),(2,aj a),(3,aj how),(4,aj x),(5,aE b1),(10,aE b2)]⟩:AS)) ?_ ?_
 ·refine lQ 13 [b2,b1] [b2] #[true,true,true,true,true,true,true,true,true,true,true,true,true,false,false,false,false,false] aL aL aL ?_;refine aU [1,2,5,6,9,10] 7 (go 7 ?_);refine three 0 4 8 aL J J J J J J ?_ ?_ ?_;focus
   refine (fH kx jU λg3=>?_);refine three 3 4 8 aL J J J J J J ?_ ?_ ?_;focus
    refine (eW [] Tryz.t43 24 J J V J J kx aL J J J J V (dF cR 2 (λ_=>J) p.globals) cO Y (cq p.globals.length) (λhn b hb=>cz (r:=(⟨(.slice (some ⟨g3,0,none⟩) 0 0),43,2,0,[]⟩:aQ)) hn hb) fQ (ck _) λw6=>?_);refine aU [12] 4 (go 2 ?_);refine cC 4 8 J ?_ ?_;focus
     refine (fH gN fp λg5=>?_);refine cC 7 8 J ?_ ?_;focus
      refine (eW [] Tryz.t45 32 J J V J J gN aL J J J J V (dF bB 3 (λ_=>J) p.mutexes) cO Y (cq p.mutexes.length) (λhn b hb=>cz (r:=(⟨(.slice (some ⟨g5,0,none⟩) 0 0),45,3,0,[]⟩:aQ)) hn hb) fQ (ck _) λw7=>?_);refine aY 8 J J (fH ju du λg6=>?_)
     rotate_left;refine (fH ju du λg6=>?_);refine aY 7 J J (eW [_] Tryz.t45 32 J J V J J gN aL J J J J V (dF bB 3 (λ_=>J) p.mutexes) cO Y (cq p.mutexes.length) (λhn b hb=>cz (r:=(⟨(.slice (some ⟨g5,0,none⟩) 0 0),45,3,0,[]⟩:aQ)) hn hb) fQ (ck _) λw7=>?_);all_goals
      refine aY 11 J J (eW [] Tryz.t49 64 J J V J J ju aL J J J J V (dF bT 3 (λ_=>J) p.funcs) cO Y (cq p.funcs.length) (λhn b hb=>cz (r:=(⟨(.slice (some ⟨g6,0,none⟩) 0 0),49,3,0,[]⟩:aQ)) hn hb) fQ (ck _) λw8=>?_)
    rotate_left 2;refine (fH ju du λg5=>?_);refine aY 4 J J (fH gN fp λg6=>?_);refine aY 7 J J (eW [] Tryz.t45 32 J J V J J gN aL J J J J V (dF bB 3 (λ_=>J) p.mutexes) cO Y (cq p.mutexes.length) (λhn b hb=>cz (r:=(⟨(.slice (some ⟨g6,0,none⟩) 0 0),45,3,0,[]⟩:aQ)) hn hb) fQ (ck _) λw7=>?_);refine aY 11 J J (eW [_] Tryz.t49 64 J J V J J ju aL J J J J V (dF bT 3 (λ_=>J) p.funcs) cO Y (cq p.funcs.length) (λhn b hb=>cz (r:=(⟨(.slice (some ⟨g5,0,none⟩) 0 0),49,3,0,[]⟩:aQ)) hn hb) fQ (ck _) λw8=>?_)
   rotate_left 3;focus
    refine (fH gN fp λg4=>?_);refine cC 3 8 J ?_ ?_;focus
     refine (eW [_] Tryz.t43 24 J J V J J kx aL J J J J V (dF cR 2 (λ_=>J) p.globals) cO Y (cq p.globals.length) (λhn b hb=>cz (r:=(⟨(.slice (some ⟨g3,0,none⟩) 0 0),43,2,0,[]⟩:aQ)) hn hb) fQ (ck _) λw6=>?_);refine aU [12] 3 (go 2 ?_);refine cC 7 8 J ?_ ?_;focus
      refine (eW [] Tryz.t45 32 J J V J J gN aL J J J J V (dF bB 3 (λ_=>J) p.mutexes) cO Y (cq p.mutexes.length) (λhn b hb=>cz (r:=(⟨(.slice (some ⟨g4,0,none⟩) 0 0),45,3,0,[]⟩:aQ)) hn hb) fQ (ck _) λw7=>?_);refine aY 8 J J (fH ju du λg5=>?_)
     rotate_left;refine (fH ju du λg5=>?_);refine aY 7 J J (eW [_] Tryz.t45 32 J J V J J gN aL J J J J V (dF bB 3 (λ_=>J) p.mutexes) cO Y (cq p.mutexes.length) (λhn b hb=>cz (r:=(⟨(.slice (some ⟨g4,0,none⟩) 0 0),45,3,0,[]⟩:aQ)) hn hb) fQ (ck _) λw7=>?_)
    rotate_left 2;refine (fH ju du λg5=>?_);refine aY 3 J J (eW [_,_] Tryz.t43 24 J J V J J kx aL J J J J V (dF cR 2 (λ_=>J) p.globals) cO Y (cq p.globals.length) (λhn b hb=>cz (r:=(⟨(.slice (some ⟨g3,0,none⟩) 0 0),43,2,0,[]⟩:aQ)) hn hb) fQ (ck _) λw6=>?_);refine aU [12] 2 (go 2 ?_);refine aY 7 J J (eW [_] Tryz.t45 32 J J V J J gN aL J J J J V (dF bB 3 (λ_=>J) p.mutexes) cO Y (cq p.mutexes.length) (λhn b hb=>cz (r:=(⟨(.slice (some ⟨g4,0,none⟩) 0 0),45,3,0,[]⟩:aQ)) hn hb) fQ (ck _) λw7=>?_);all_goals
     refine aY 11 J J (eW [] Tryz.t49 64 J J V J J ju aL J J J J V (dF bT 3 (λ_=>J) p.funcs) cO Y (cq p.funcs.length) (λhn b hb=>cz (r:=(⟨(.slice (some ⟨g5,0,none⟩) 0 0),49,3,0,[]⟩:aQ)) hn hb) fQ (ck _) λw8=>?_)
   rotate_left 3;focus
    refine (fH ju du λg4=>?_);refine cC 3 4 J ?_ ?_;focus
     refine (eW [_] Tryz.t43 24 J J V J J kx aL J J J J V (dF cR 2 (λ_=>J) p.globals) cO Y (cq p.globals.length) (λhn b hb=>cz (r:=(⟨(.slice (some ⟨g3,0,none⟩) 0 0),43,2,0,[]⟩:aQ)) hn hb) fQ (ck _) λw6=>?_);refine aU [12] 3 (go 2 ?_);refine aY 4 J J (fH gN fp λg5=>?_)
    rotate_left;refine (fH gN fp λg5=>?_);refine aY 3 J J (eW [_,_] Tryz.t43 24 J J V J J kx aL J J J J V (dF cR 2 (λ_=>J) p.globals) cO Y (cq p.globals.length) (λhn b hb=>cz (r:=(⟨(.slice (some ⟨g3,0,none⟩) 0 0),43,2,0,[]⟩:aQ)) hn hb) fQ (ck _) λw6=>?_);refine aU [12] 2 (go 2 ?_);all_goals
     refine aY 7 J J (eW [] Tryz.t45 32 J J V J J gN aL J J J J V (dF bB 3 (λ_=>J) p.mutexes) cO Y (cq p.mutexes.length) (λhn b hb=>cz (r:=(⟨(.slice (some ⟨g5,0,none⟩) 0 0),45,3,0,[]⟩:aQ)) hn hb) fQ (ck _) λw7=>?_);refine aY 11 J J (eW [_] Tryz.t49 64 J J V J J ju aL J J J J V (dF bT 3 (λ_=>J) p.funcs) cO Y (cq p.funcs.length) (λhn b hb=>cz (r:=(⟨(.slice (some ⟨g4,0,none⟩) 0 0),49,3,0,[]⟩:aQ)) hn hb) fQ (ck _) λw8=>?_)
  rotate_left 8;focus
   refine (fH gN fp λg3=>?_);refine cC 0 8 J ?_ ?_;focus
    refine (fH kx jU λg4=>?_);refine cC 3 8 J ?_ ?_;focus
     refine (eW [] Tryz.t43 24 J J V J J kx aL J J J J V (dF cR 2 (λ_=>J) p.globals) cO Y (cq p.globals.length) (λhn b hb=>cz (r:=(⟨(.slice (some ⟨g4,0,none⟩) 0 0),43,2,0,[]⟩:aQ)) hn hb) fQ (ck _) λw6=>?_);refine aU [12] 3 (go 2 ?_);refine cC 7 8 J ?_ ?_;focus
      refine (eW [_] Tryz.t45 32 J J V J J gN aL J J J J V (dF bB 3 (λ_=>J) p.mutexes) cO Y (cq p.mutexes.length) (λhn b hb=>cz (r:=(⟨(.slice (some ⟨g3,0,none⟩) 0 0),45,3,0,[]⟩:aQ)) hn hb) fQ (ck _) λw7=>?_);refine aY 8 J J (fH ju du λg5=>?_)
     rotate_left;refine (fH ju du λg5=>?_);refine aY 7 J J (eW [_,_] Tryz.t45 32 J J V J J gN aL J J J J V (dF bB 3 (λ_=>J) p.mutexes) cO Y (cq p.mutexes.length) (λhn b hb=>cz (r:=(⟨(.slice (some ⟨g3,0,none⟩) 0 0),45,3,0,[]⟩:aQ)) hn hb) fQ (ck _) λw7=>?_)
    rotate_left 2;refine (fH ju du λg5=>?_);refine aY 3 J J (eW [_] Tryz.t43 24 J J V J J kx aL J J J J V (dF cR 2 (λ_=>J) p.globals) cO Y (cq p.globals.length) (λhn b hb=>cz (r:=(⟨(.slice (some ⟨g4,0,none⟩) 0 0),43,2,0,[]⟩:aQ)) hn hb) fQ (ck _) λw6=>?_);refine aU [12] 2 (go 2 ?_);refine aY 7 J J (eW [_,_] Tryz.t45 32 J J V J J gN aL J J J J V (dF bB 3 (λ_=>J) p.mutexes) cO Y (cq p.mutexes.length) (λhn b hb=>cz (r:=(⟨(.slice (some ⟨g3,0,none⟩) 0 0),45,3,0,[]⟩:aQ)) hn hb) fQ (ck _) λw7=>?_);all_goals
     refine aY 11 J J (eW [] Tryz.t49 64 J J V J J ju aL J J J J V (dF bT 3 (λ_=>J) p.funcs) cO Y (cq p.funcs.length) (λhn b hb=>cz (r:=(⟨(.slice (some ⟨g5,0,none⟩) 0 0),49,3,0,[]⟩:aQ)) hn hb) fQ (ck _) λw8=>?_)
   rotate_left 3;refine (fH ju du λg4=>?_);refine aY 0 J J (fH kx jU λg5=>?_);refine aY 3 J J (eW [] Tryz.t43 24 J J V J J kx aL J J J J V (dF cR 2 (λ_=>J) p.globals) cO Y (cq p.globals.length) (λhn b hb=>cz (r:=(⟨(.slice (some ⟨g5,0,none⟩) 0 0),43,2,0,[]⟩:aQ)) hn hb) fQ (ck _) λw6=>?_);refine aU [12] 2 (go 2 ?_);refine aY 7 J J (eW [_,_] Tryz.t45 32 J J V J J gN aL J J J J V (dF bB 3 (λ_=>J) p.mutexes) cO Y (cq p.mutexes.length) (λhn b hb=>cz (r:=(⟨(.slice (some ⟨g3,0,none⟩) 0 0),45,3,0,[]⟩:aQ)) hn hb) fQ (ck _) λw7=>?_);refine aY 11 J J (eW [_] Tryz.t49 64 J J V J J ju aL J J J J V (dF bT 3 (λ_=>J) p.funcs) cO Y (cq p.funcs.length) (λhn b hb=>cz (r:=(⟨(.slice (some ⟨g4,0,none⟩) 0 0),49,3,0,[]⟩:aQ)) hn hb) fQ (ck _) λw8=>?_)
  rotate_left 4;focus
   refine (fH ju du λg3=>?_);refine cC 0 4 J ?_ ?_;focus
    refine (fH kx jU λg4=>?_);refine cC 3 4 J ?_ ?_;focus
     refine (eW [] Tryz.t43 24 J J V J J kx aL J J J J V (dF cR 2 (λ_=>J) p.globals) cO Y (cq p.globals.length) (λhn b hb=>cz (r:=(⟨(.slice (some ⟨g4,0,none⟩) 0 0),43,2,0,[]⟩:aQ)) hn hb) fQ (ck _) λw6=>?_);refine aU [12] 3 (go 2 ?_);refine aY 4 J J (fH gN fp λg5=>?_)
    rotate_left;refine (fH gN fp λg5=>?_);refine aY 3 J J (eW [_] Tryz.t43 24 J J V J J kx aL J J J J V (dF cR 2 (λ_=>J) p.globals) cO Y (cq p.globals.length) (λhn b hb=>cz (r:=(⟨(.slice (some ⟨g4,0,none⟩) 0 0),43,2,0,[]⟩:aQ)) hn hb) fQ (ck _) λw6=>?_);refine aU [12] 2 (go 2 ?_);all_goals
     refine aY 7 J J (eW [] Tryz.t45 32 J J V J J gN aL J J J J V (dF bB 3 (λ_=>J) p.mutexes) cO Y (cq p.mutexes.length) (λhn b hb=>cz (r:=(⟨(.slice (some ⟨g5,0,none⟩) 0 0),45,3,0,[]⟩:aQ)) hn hb) fQ (ck _) λw7=>?_)
   rotate_left 2;refine (fH gN fp λg4=>?_);refine aY 0 J J (fH kx jU λg5=>?_);refine aY 3 J J (eW [] Tryz.t43 24 J J V J J kx aL J J J J V (dF cR 2 (λ_=>J) p.globals) cO Y (cq p.globals.length) (λhn b hb=>cz (r:=(⟨(.slice (some ⟨g5,0,none⟩) 0 0),43,2,0,[]⟩:aQ)) hn hb) fQ (ck _) λw6=>?_);refine aU [12] 2 (go 2 ?_);refine aY 7 J J (eW [_] Tryz.t45 32 J J V J J gN aL J J J J V (dF bB 3 (λ_=>J) p.mutexes) cO Y (cq p.mutexes.length) (λhn b hb=>cz (r:=(⟨(.slice (some ⟨g4,0,none⟩) 0 0),45,3,0,[]⟩:aQ)) hn hb) fQ (ck _) λw7=>?_);all_goals
    refine aY 11 J J (eW [_,_] Tryz.t49 64 J J V J J ju aL J J J J V (dF bT 3 (λ_=>J) p.funcs) cO Y (cq p.funcs.length) (λhn b hb=>cz (r:=(⟨(.slice (some ⟨g3,0,none⟩) 0 0),49,3,0,[]⟩:aQ)) hn hb) fQ (ck _) λw8=>?_)
  all_goals
   refine bC ?_;refine id ?_;refine cY [(13,false),(14,true),(15,false),(16,true),(17,false)] 0 (go 6 ?_);refine bC ?_;show ∃g:aN×aN×aN,Sub _ _;exact ⟨(w6,w7,w8),Wv (by first|exact .refl _|exact (zp _ _ _ _).1|exact (zp _ _ _ _).2.1|exact (zp _ _ _ _).2.2.1|exact (zp _ _ _ _).2.2.2.1|exact (zp _ _ _ _).2.2.2.2) (by intro b hb;simp only [mem_append,mem_cons,not_mem_nil,or_false] at hb⊢;rcases hb with ((h|h)|h)|h|h<;>simp [h]) (ao rfl)⟩
 rintro ⟨vG,vM,vF⟩
 try dsimp only
 refine go 5 ?_;refine aC J (lT [_,_] J J J fu) ?_;obtain ⟨j1,hj1,aR7⟩:=my (a) ((p.funcs.length:Int)) Y;refine cf J mG J (mg (a) ((p.funcs.length:Int)) j1 Y Y hj1 _) ?_;rintro _ _ ⟨rfl,rfl⟩;refine go 6 ?_;have hj1:j1<p.funcs.length:=Y;have hfs:=hs.funcs p.funcs[j1] (getElem_mem hj1);have hfw:=qX a_.wt p.funcs j1 hj1;have hfw2:a_.wt p.funcs[j1]=1+p.funcs[j1].params.length+an p.funcs[j1].body:=J;refine zY [_,_] Y λgF cF hgF=>?_;subst hgF;refine go 1 ?_;obtain ⟨j2,hj2,aR8⟩:=my (which) (12) Y;refine cf J mG J (mg (which) (12) j2 Y Y hj2 _) ?_;rintro _ _ ⟨rfl,rfl⟩;refine go 5 ?_;by_cases h1:(j2:Int)=0
 ·refine aJ J (bR h1) (go 4 ?_);refine bu [b2] (aU [0,2,4] 7 (go 4 ?_));refine cC 1 3 J ?_ ?_;focus
   refine dR J V (cW [_] pG o9) ?_;refine aY 3 J J (dv J J V kq J (lF x _) ?_);rintro _ _ ⟨⟨y3,rfl,hy3,zy3⟩,rfl⟩;refine aU [5] 4 (go 2 ?_);refine aY 6 J J (bU (r:=[(⟨y3,x⟩:bw)].flatMap cR) pT ?_)
  rotate_left;focus
   refine (dv J J V kq J (lF x _) ?_);rintro _ _ ⟨⟨y3,rfl,hy3,zy3⟩,rfl⟩;refine aU [5] 5 (go 2 ?_);refine cC 1 6 J ?_ ?_;focus
    refine dR J V (cW [_] pG o9) ?_;refine aY 6 J J (bU (r:=[(⟨y3,x⟩:bw)].flatMap cR) pT ?_)
   rotate_left;refine (bU (r:=[(⟨y3,x⟩:bw)].flatMap cR) pT ?_);refine aY 1 J J (dR J V (cW [_] pG o9) ?_)
  all_goals
   refine aY 7 J J (dS [] rm J J V cO Y (@length_append _ p.globals [(⟨y3,x⟩:bw)]).symm (λhn b hb=>cz (r:=(⟨vG,43,2,p.globals.length,p.globals.flatMap cR⟩:aQ)) hn hb) fQ (dh (f:=cR)).symm λw3=>?_);refine cY [(8,true),(9,false)] 0 (go 3 ?_);refine bC (go 4 ?_);refine eO [_] 0 J J ?_;refine eO [_] 1 J J ?_;refine eO [_] 2 J J ?_;refine go 1 ?_;refine cx 136 J (t:=.agg (di (⟨(p.globals++[(⟨y3,x⟩:bw)]),p.mutexes,p.funcs⟩:aX))) (tE (q:=(⟨(p.globals++[(⟨y3,x⟩:bw)]),p.mutexes,p.funcs⟩:aX)) aM aM aM) (go 4 ?_);exact ⟨.inr J,_,⟨bx,rw⟩,bJ J (bv [] J J oA oL (cG J J)),ah c_ (.refl _),⟨(⟨(p.globals++[(⟨y3,x⟩:bw)]),p.mutexes,p.funcs⟩:aX),J,⟨⟨xP hs.globals ⟨hx,by show y3.size <= _;omega⟩,hs.mutexes,hs.funcs⟩,Hf,wG⟩⟩,J⟩
 refine aF J (bN h1) (go 6 ?_);by_cases h3:(j2:Int)=1
 ·refine aJ J (bR h3) (go 4 ?_);refine bu [b2] (aU [0,2,4] 13 (go 4 ?_));refine aZ 5 J (yP J J J) ?_;by_cases h5:(vn how 1)=1
  ·refine aZ 6 J (ei true J J J (bR h5)) (aU [7] 10 (go 2 ?_));refine aZ 8 J (Em J J J) ?_;refine cC 1 3 J ?_ ?_;focus
    refine dR J V (cW [_] kC kL) ?_;refine aY 3 J J (dv J J V kq J (lF x _) ?_);rintro _ _ ⟨⟨y6,rfl,hy6,zy6⟩,rfl⟩;obtain ⟨j3,hj3,aJf⟩:=my ((how.fdiv 2)) (67) Y;refine aY 9 J J (dv J J V mG J (mg ((how.fdiv 2)) (67) j3 Y Y hj3 _) ?_);rintro _ _ ⟨rfl,rfl⟩;refine aZ 10 J (kM) (aU [11] 4 (go 2 ?_));refine aY 12 J J (bU (r:=[(⟨y6,true,((j3:Int)-1)⟩:cn)].flatMap bB) kT ?_)
   rotate_left;focus
    refine (dv J J V kq J (lF x _) ?_);rintro _ _ ⟨⟨y6,rfl,hy6,zy6⟩,rfl⟩;refine cC 1 9 J ?_ ?_;focus
     refine dR J V (cW [_] kC kL) ?_;obtain ⟨j3,hj3,aJf⟩:=my ((how.fdiv 2)) (67) Y;refine aY 9 J J (dv J J V mG J (mg ((how.fdiv 2)) (67) j3 Y Y hj3 _) ?_);rintro _ _ ⟨rfl,rfl⟩;refine aZ 10 J (kM) (aU [11] 4 (go 2 ?_));refine aY 12 J J (bU (r:=[(⟨y6,true,((j3:Int)-1)⟩:cn)].flatMap bB) kT ?_)
    rotate_left;focus
     obtain ⟨j3,hj3,aJf⟩:=my ((how.fdiv 2)) (67) Y;refine (dv J J V mG J (mg ((how.fdiv 2)) (67) j3 Y Y hj3 _) ?_);rintro _ _ ⟨rfl,rfl⟩;refine aZ 10 J (kM) (aU [11] 5 (go 2 ?_));refine cC 1 12 J ?_ ?_;focus
      refine dR J V (cW [_] kC kL) ?_;refine aY 12 J J (bU (r:=[(⟨y6,true,((j3:Int)-1)⟩:cn)].flatMap bB) kT ?_)
     rotate_left;refine (bU (r:=[(⟨y6,true,((j3:Int)-1)⟩:cn)].flatMap bB) kT ?_);refine aY 1 J J (dR J V (cW [_] kC kL) ?_)
   all_goals
    refine aY 13 J J (dS [_] uP J J V cO Y (@length_append _ p.mutexes [(⟨y6,true,((j3:Int)-1)⟩:cn)]).symm (λhn b hb=>cz (r:=(⟨vM,45,3,p.mutexes.length,p.mutexes.flatMap bB⟩:aQ)) hn hb) fQ (dh (f:=bB)).symm λw3=>?_);refine cY [(14,true),(15,false)] 0 (go 3 ?_);refine bC (go 4 ?_);refine eO [_] 0 J J ?_;refine eO [_] 1 J J ?_;refine eO [_] 2 J J ?_;refine go 1 ?_;refine cx 136 J (t:=.agg (di (⟨p.globals,(p.mutexes++[(⟨y6,true,((j3:Int)-1)⟩:cn)]),p.funcs⟩:aX))) (tE (q:=(⟨p.globals,(p.mutexes++[(⟨y6,true,((j3:Int)-1)⟩:cn)]),p.funcs⟩:aX)) aM aM aM) (go 4 ?_);exact ⟨.inr J,_,⟨bx,rw⟩,bJ J (bv [] J J oA oL (cG J J)),ah c_ (.refl _),⟨(⟨p.globals,(p.mutexes++[(⟨y6,true,((j3:Int)-1)⟩:cn)]),p.funcs⟩:aX),J,⟨⟨hs.globals,xP hs.mutexes ⟨by unfold fit;dsimp only;omega,by show y6.size <= _;omega⟩,hs.funcs⟩,Hf,wG⟩⟩,J⟩
  refine aZ 6 J (ei false J J J (bN h5)) (aU [7] 10 (go 2 ?_));refine aZ 8 J (Em J J J) ?_;refine cC 1 3 J ?_ ?_;focus
   refine dR J V (cW [_] kC kL) ?_;refine aY 3 J J (dv J J V kq J (lF x _) ?_);rintro _ _ ⟨⟨y6,rfl,hy6,zy6⟩,rfl⟩;obtain ⟨j3,hj3,aJf⟩:=my ((how.fdiv 2)) (67) Y;refine aY 9 J J (dv J J V mG J (mg ((how.fdiv 2)) (67) j3 Y Y hj3 _) ?_);rintro _ _ ⟨rfl,rfl⟩;refine aZ 10 J (kM) (aU [11] 4 (go 2 ?_));refine aY 12 J J (bU (r:=[(⟨y6,false,((j3:Int)-1)⟩:cn)].flatMap bB) kT ?_)
  rotate_left;focus
   refine (dv J J V kq J (lF x _) ?_);rintro _ _ ⟨⟨y6,rfl,hy6,zy6⟩,rfl⟩;refine cC 1 9 J ?_ ?_;focus
    refine dR J V (cW [_] kC kL) ?_;obtain ⟨j3,hj3,aJf⟩:=my ((how.fdiv 2)) (67) Y;refine aY 9 J J (dv J J V mG J (mg ((how.fdiv 2)) (67) j3 Y Y hj3 _) ?_);rintro _ _ ⟨rfl,rfl⟩;refine aZ 10 J (kM) (aU [11] 4 (go 2 ?_));refine aY 12 J J (bU (r:=[(⟨y6,false,((j3:Int)-1)⟩:cn)].flatMap bB) kT ?_)
   rotate_left;focus
    obtain ⟨j3,hj3,aJf⟩:=my ((how.fdiv 2)) (67) Y;refine (dv J J V mG J (mg ((how.fdiv 2)) (67) j3 Y Y hj3 _) ?_);rintro _ _ ⟨rfl,rfl⟩;refine aZ 10 J (kM) (aU [11] 5 (go 2 ?_));refine cC 1 12 J ?_ ?_;focus
     refine dR J V (cW [_] kC kL) ?_;refine aY 12 J J (bU (r:=[(⟨y6,false,((j3:Int)-1)⟩:cn)].flatMap bB) kT ?_)
    rotate_left;refine (bU (r:=[(⟨y6,false,((j3:Int)-1)⟩:cn)].flatMap bB) kT ?_);refine aY 1 J J (dR J V (cW [_] kC kL) ?_)
  all_goals
   refine aY 13 J J (dS [_] uP J J V cO Y (@length_append _ p.mutexes [(⟨y6,false,((j3:Int)-1)⟩:cn)]).symm (λhn b hb=>cz (r:=(⟨vM,45,3,p.mutexes.length,p.mutexes.flatMap bB⟩:aQ)) hn hb) fQ (dh (f:=bB)).symm λw3=>?_);refine cY [(14,true),(15,false)] 0 (go 3 ?_);refine bC (go 4 ?_);refine eO [_] 0 J J ?_;refine eO [_] 1 J J ?_;refine eO [_] 2 J J ?_;refine go 1 ?_;refine cx 136 J (t:=.agg (di (⟨p.globals,(p.mutexes++[(⟨y6,false,((j3:Int)-1)⟩:cn)]),p.funcs⟩:aX))) (tE (q:=(⟨p.globals,(p.mutexes++[(⟨y6,false,((j3:Int)-1)⟩:cn)]),p.funcs⟩:aX)) aM aM aM) (go 4 ?_);exact ⟨.inr J,_,⟨bx,rw⟩,bJ J (bv [] J J oA oL (cG J J)),ah c_ (.refl _),⟨(⟨p.globals,(p.mutexes++[(⟨y6,false,((j3:Int)-1)⟩:cn)]),p.funcs⟩:aX),J,⟨⟨hs.globals,xP hs.mutexes ⟨by unfold fit;dsimp only;omega,by show y6.size <= _;omega⟩,hs.funcs⟩,Hf,wG⟩⟩,J⟩
 refine aF J (bN h3) (go 6 ?_);by_cases h5:(j2:Int)=2
 ·refine aJ J (bR h5) (go 4 ?_);refine bu [b2,b1] (aU [0,1,2,3] 4 (go 5 ?_));refine aY 4 J J (dv J J V kq J (lF x _) ?_);rintro _ _ ⟨⟨y7,rfl,hy7,zy7⟩,rfl⟩;refine aZ 5 J (ez (z:=3) j1 J J J J hj1 fu du) ?_;refine aZ 6 J (id <|jX 0 (0+j1*3+0) nN iG) ?_;refine aY 7 J J (lX (r:=(p.funcs.set j1 (xu p.funcs[j1] y7)).flatMap bT) [_,_] J J J J J iG J (Dq hj1 0 1 V) (BL hj1 0 _ V J) gy CH ?_);refine bC (go 4 ?_);refine eO [_] 0 J J ?_;refine eO [_] 1 J J ?_;refine eO [_] 2 J J ?_;refine go 1 ?_;refine cx 136 J (t:=.agg (di (⟨p.globals,p.mutexes,(p.funcs.set j1 (xu p.funcs[j1] y7))⟩:aX))) (tE (q:=(⟨p.globals,p.mutexes,(p.funcs.set j1 (xu p.funcs[j1] y7))⟩:aX)) aM aM aM) (go 4 ?_);exact ⟨.inr J,_,⟨bx,rw⟩,bJ J (bv [] J J oA oL (cG J J)),ah c_ (.refl _),⟨(⟨p.globals,p.mutexes,(p.funcs.set j1 (xu p.funcs[j1] y7))⟩:aX),J,⟨⟨hs.globals,hs.mutexes,Dw hs.funcs ⟨by show y7.size <= _;omega,hfs.2.1,hfs.2.2⟩⟩,by unfold aX.wt;dsimp only;have h8:=y4 p.funcs j1 (xu p.funcs[j1] y7);have h9:a_.wt (xu p.funcs[j1] y7)=a_.wt p.funcs[j1]:=rfl;unfold pO at h8;omega,wG⟩⟩,J⟩
 refine aF J (bN h5) (go 6 ?_);by_cases h7:(j2:Int)=3
 ·refine aJ J (bR h7) (go 4 ?_);refine bu [b2,b1] (aU [0,1,2,4,5,6] 16 (go 7 ?_));refine aZ 7 J (ez (z:=3) j1 J J J J hj1 fu du) ?_;refine aZ 8 J (id <|jX 1 (0+j1*3+1) nN ma) (aU [11,13] 12 (go 3 ?_));refine aZ 14 J (yP J J J) ?_;by_cases h9:(vn how 1)=1
  ·refine aZ 15 J (ei true J J J (bR h9)) ?_;refine cC 3 9 J ?_ ?_;focus
    refine (fH qA ga λg3=>?_);refine aY 9 J J (dR J V (kb [_,_,_] s_ ma (vK hj1 1 _ J)) ?_)
   rotate_left;refine dR J V (kb [_,_] s_ ma (vK hj1 1 _ J)) ?_;refine aY 3 J J (fH qA ga λg3=>?_);all_goals
    refine aY 10 J J (eW [] Tryz.t51 24 J J V J J qA aL J J J J V (dF cE 2 (λ_=>J) p.funcs[j1].params) cO Y (cq p.funcs[j1].params.length) (λhn b hb=>cz (r:=(⟨(.slice (some ⟨g3,0,none⟩) 0 0),51,2,0,[]⟩:aQ)) hn hb) fQ (ck _) λw4=>?_);refine aY 12 J J (dv J J V kq J (lF x _) ?_);rintro _ _ ⟨⟨DB,rfl,aJ0,aJz⟩,rfl⟩;refine aU [16] 5 (go 2 ?_);refine aY 17 J J (bU (r:=[(⟨DB,true⟩:bg)].flatMap cE) AC ?_);refine aY 18 J J (dS [] IY J J V cO Y (@length_append _ p.funcs[j1].params [(⟨DB,true⟩:bg)]).symm (λhn b hb=>cz (r:=(⟨w4,51,2,p.funcs[j1].params.length,p.funcs[j1].params.flatMap cE⟩:aQ)) hn hb) fQ (dh (f:=cE)).symm λw5=>?_);refine Jl 121 J ?_;refine aZ 19 J (ez (z:=3) j1 J J J J hj1 fu du) ?_;refine aZ 20 J (id <|jX 1 (0+j1*3+1) nN ma) ?_;refine aY 21 J J (lX (r:=(p.funcs.set j1 (oC p.funcs[j1] (p.funcs[j1].params++[(⟨DB,true⟩:bg)]))).flatMap bT) [_,_] J J J J J ma J (Dq hj1 1 1 V) (BL hj1 1 _ V J) gy CH ?_);refine bC (go 4 ?_);refine eO [_] 0 J J ?_;refine eO [_] 1 J J ?_;refine eO [_] 2 J J ?_;refine go 1 ?_;refine cx 136 J (t:=.agg (di (⟨p.globals,p.mutexes,(p.funcs.set j1 (oC p.funcs[j1] (p.funcs[j1].params++[(⟨DB,true⟩:bg)])))⟩:aX))) (tE (q:=(⟨p.globals,p.mutexes,(p.funcs.set j1 (oC p.funcs[j1] (p.funcs[j1].params++[(⟨DB,true⟩:bg)])))⟩:aX)) aM aM aM) (go 4 ?_);exact ⟨.inr J,_,⟨bx,rw⟩,bJ J (bv [] J J oA oL (cG J J)),ah c_ (.refl _),⟨(⟨p.globals,p.mutexes,(p.funcs.set j1 (oC p.funcs[j1] (p.funcs[j1].params++[(⟨DB,true⟩:bg)])))⟩:aX),J,⟨⟨hs.globals,hs.mutexes,Dw hs.funcs ⟨hfs.1,xP hfs.2.1 (by show DB.size <= _;omega),hfs.2.2⟩⟩,by unfold aX.wt;dsimp only;have h8:=y4 p.funcs j1 (oC p.funcs[j1] (p.funcs[j1].params++[(⟨DB,true⟩:bg)]));have h9:a_.wt (oC p.funcs[j1] (p.funcs[j1].params++[(⟨DB,true⟩:bg)]))=a_.wt p.funcs[j1]+1:=LX;unfold pO at h8;omega,wG⟩⟩,J⟩
  refine aZ 15 J (ei false J J J (bN h9)) ?_;refine cC 3 9 J ?_ ?_;focus
   refine (fH qA ga λg3=>?_);refine aY 9 J J (dR J V (kb [_,_,_] s_ ma (vK hj1 1 _ J)) ?_)
  rotate_left;refine dR J V (kb [_,_] s_ ma (vK hj1 1 _ J)) ?_;refine aY 3 J J (fH qA ga λg3=>?_);all_goals
   refine aY 10 J J (eW [] Tryz.t51 24 J J V J J qA aL J J J J V (dF cE 2 (λ_=>J) p.funcs[j1].params) cO Y (cq p.funcs[j1].params.length) (λhn b hb=>cz (r:=(⟨(.slice (some ⟨g3,0,none⟩) 0 0),51,2,0,[]⟩:aQ)) hn hb) fQ (ck _) λw4=>?_);refine aY 12 J J (dv J J V kq J (lF x _) ?_);rintro _ _ ⟨⟨DB,rfl,aJ0,aJz⟩,rfl⟩;refine aU [16] 5 (go 2 ?_);refine aY 17 J J (bU (r:=[(⟨DB,false⟩:bg)].flatMap cE) AC ?_);refine aY 18 J J (dS [] IY J J V cO Y (@length_append _ p.funcs[j1].params [(⟨DB,false⟩:bg)]).symm (λhn b hb=>cz (r:=(⟨w4,51,2,p.funcs[j1].params.length,p.funcs[j1].params.flatMap cE⟩:aQ)) hn hb) fQ (dh (f:=cE)).symm λw5=>?_);refine Jl 121 J ?_;refine aZ 19 J (ez (z:=3) j1 J J J J hj1 fu du) ?_;refine aZ 20 J (id <|jX 1 (0+j1*3+1) nN ma) ?_;refine aY 21 J J (lX (r:=(p.funcs.set j1 (oC p.funcs[j1] (p.funcs[j1].params++[(⟨DB,false⟩:bg)]))).flatMap bT) [_,_] J J J J J ma J (Dq hj1 1 1 V) (BL hj1 1 _ V J) gy CH ?_);refine bC (go 4 ?_);refine eO [_] 0 J J ?_;refine eO [_] 1 J J ?_;refine eO [_] 2 J J ?_;refine go 1 ?_;refine cx 136 J (t:=.agg (di (⟨p.globals,p.mutexes,(p.funcs.set j1 (oC p.funcs[j1] (p.funcs[j1].params++[(⟨DB,false⟩:bg)])))⟩:aX))) (tE (q:=(⟨p.globals,p.mutexes,(p.funcs.set j1 (oC p.funcs[j1] (p.funcs[j1].params++[(⟨DB,false⟩:bg)])))⟩:aX)) aM aM aM) (go 4 ?_);exact ⟨.inr J,_,⟨bx,rw⟩,bJ J (bv [] J J oA oL (cG J J)),ah c_ (.refl _),⟨(⟨p.globals,p.mutexes,(p.funcs.set j1 (oC p.funcs[j1] (p.funcs[j1].params++[(⟨DB,false⟩:bg)])))⟩:aX),J,⟨⟨hs.globals,hs.mutexes,Dw hs.funcs ⟨hfs.1,xP hfs.2.1 (by show DB.size <= _;omega),hfs.2.2⟩⟩,by unfold aX.wt;dsimp only;have h8:=y4 p.funcs j1 (oC p.funcs[j1] (p.funcs[j1].params++[(⟨DB,false⟩:bg)]));have h9:a_.wt (oC p.funcs[j1] (p.funcs[j1].params++[(⟨DB,false⟩:bg)]))=a_.wt p.funcs[j1]+1:=LX;unfold pO at h8;omega,wG⟩⟩,J⟩
 refine aF J (bN h7) (go 6 ?_);by_cases h9:(j2:Int)=4
 ·refine aJ J (bR h9) (go 4 ?_);refine bu [b2] (aU [0,2,4] 8 (go 4 ?_));refine cC 1 3 J ?_ ?_;focus
   refine dR J V (cW [_] mz m_) ?_;refine aY 3 J J (dR J V (cW [_] mz m_) ?_);refine aZ 5 J (ez (z:=3) j1 J J J J hj1 fu du) ?_;refine aY 6 J J (dR J V (kb [_,_] oP du (Er hj1)) ?_);refine aY 7 J J (bU (r:=[p.funcs[j1]].flatMap bT) ug ?_)
  rotate_left;focus
   refine dR J V (cW [_] mz m_) ?_;refine aZ 5 J (ez (z:=3) j1 J J J J hj1 fu du) ?_;refine cC 1 6 J ?_ ?_;focus
    refine dR J V (cW [_] mz m_) ?_;refine aY 6 J J (dR J V (kb [_,_] oP du (Er hj1)) ?_);refine aY 7 J J (bU (r:=[p.funcs[j1]].flatMap bT) ug ?_)
   rotate_left;focus
    refine dR J V (kb [_,_] oP du (Er hj1)) ?_;refine cC 1 7 J ?_ ?_;focus
     refine dR J V (cW [_] mz m_) ?_;refine aY 7 J J (bU (r:=[p.funcs[j1]].flatMap bT) ug ?_)
    rotate_left;refine (bU (r:=[p.funcs[j1]].flatMap bT) ug ?_);refine aY 1 J J (dR J V (cW [_] mz m_) ?_)
  all_goals
   refine aY 8 J J (dS [_,_] Ei J J V cO Y (@length_append _ p.funcs [p.funcs[j1]]).symm (λhn b hb=>cz (r:=(⟨(.slice (some ⟨gF,0,none⟩) p.funcs.length cF),49,3,p.funcs.length,p.funcs.flatMap bT⟩:aQ)) hn hb) fQ (dh (f:=bT)).symm λw3=>?_);refine cY [(9,true),(10,false)] 0 (go 3 ?_);refine bC (go 4 ?_);refine eO [_] 0 J J ?_;refine eO [_] 1 J J ?_;refine eO [_] 2 J J ?_;refine go 1 ?_;refine cx 136 J (t:=.agg (di (⟨p.globals,p.mutexes,(p.funcs++[p.funcs[j1]])⟩:aX))) (tE (q:=(⟨p.globals,p.mutexes,(p.funcs++[p.funcs[j1]])⟩:aX)) aM aM aM) (go 4 ?_);exact ⟨.inr J,_,⟨bx,rw⟩,bJ J (bv [] J J oA oL (cG J J)),ah c_ (.refl _),⟨(⟨p.globals,p.mutexes,(p.funcs++[p.funcs[j1]])⟩:aX),J,⟨⟨hs.globals,hs.mutexes,xP hs.funcs hfs⟩,by unfold aX.wt;dsimp only;have h8:=W6 p.funcs p.funcs[j1];unfold pO at h8;omega,by rw [length_append];omega⟩⟩,J⟩
 refine aF J (bN h9) (go 9 ?_);refine aC J (ez (z:=3) j1 J J J J hj1 fu du) ?_;refine aC J (id <|jX 2 (0+j1*3+2) nN iZ) ?_;refine aC J (kb [_,_] tc iZ (vK hj1 2 _ J)) ?_;have hcw:=B8 p.funcs[j1].body;refine cf J call12 J (HY (iY p.funcs[j1].body) p.funcs[j1].body (bY _) Y _) ?_;rintro _ _ ⟨rfl,rfl⟩;refine aC J (Hm _ J J J J) (go 3 ?_);refine bu [b2,b1] (aU [0,1,2,3,4,5] 16 (go 7 ?_));refine aZ 6 J (ez (z:=3) j1 J J J J hj1 fu du) ?_;refine aZ 7 J (id <|jX 2 (0+j1*3+2) nN iZ) (aU [9] 13 (go 2 ?_));refine aZ 10 J (BJ J J J) (aU [11,13,14] 9 (go 4 ?_));refine cC 8 12 J ?_ ?_;focus
  refine dR J V (kb [_,_] tc iZ (vK hj1 2 _ J)) ?_;obtain ⟨j4,hj4,aSg⟩:=my ((a.fdiv 16)) ((max 1 ((iY p.funcs[j1].body:Nat):Int))) Y;refine aY 12 J J (dv J J V mG J (mg ((a.fdiv 16)) ((max 1 ((iY p.funcs[j1].body:Nat):Int))) j4 Y Y hj4 _) ?_);rintro _ _ ⟨rfl,rfl⟩
 rotate_left;obtain ⟨j4,hj4,aSg⟩:=my ((a.fdiv 16)) ((max 1 ((iY p.funcs[j1].body:Nat):Int))) Y;refine (dv J J V mG J (mg ((a.fdiv 16)) ((max 1 ((iY p.funcs[j1].body:Nat):Int))) j4 Y Y hj4 _) ?_);rintro _ _ ⟨rfl,rfl⟩;refine aY 8 J J (dR J V (kb [_,_] tc iZ (vK hj1 2 _ J)) ?_);all_goals
  refine aY 15 J J (dv J J V call13 J (Ms (an p.funcs[j1].body) p.funcs[j1].body (j4:Int) how x Y (bY _) hfs.2.2 Y Y _) ?_);rintro _ _ ⟨⟨t1,m1,rfl,hE1⟩,rfl⟩;refine aU [16,17,18] 3 (go 4 ?_);refine aZ 19 J (ez (z:=3) j1 J J J J hj1 fu du) ?_;refine aZ 20 J (id <|jX 2 (0+j1*3+2) nN iZ) ?_;refine aY 21 J J (lX (r:=(p.funcs.set j1 (xR p.funcs[j1] t1)).flatMap bT) [_,_] J J J J J iZ J (Dq hj1 2 1 V) (BL hj1 2 _ V J) gy CH ?_);refine bC (go 4 ?_);refine eO [_] 0 J J ?_;refine eO [_] 1 J J ?_;refine eO [_] 2 J J ?_;refine go 1 ?_;refine cx 136 J (t:=.agg (di (⟨p.globals,p.mutexes,(p.funcs.set j1 (xR p.funcs[j1] t1))⟩:aX))) (tE (q:=(⟨p.globals,p.mutexes,(p.funcs.set j1 (xR p.funcs[j1] t1))⟩:aX)) aM aM aM) (go 4 ?_);exact ⟨.inr J,_,⟨bx,rw⟩,bJ J (bv [] J J oA oL (cG J J)),ah c_ (.refl _),⟨(⟨p.globals,p.mutexes,(p.funcs.set j1 (xR p.funcs[j1] t1))⟩:aX),J,⟨⟨hs.globals,hs.mutexes,Dw hs.funcs ⟨hfs.1,hfs.2.1,hE1.bt⟩⟩,by unfold aX.wt;dsimp only;have h8:=y4 p.funcs j1 (xR p.funcs[j1] t1);have h9:a_.wt (xR p.funcs[j1] t1)=1+p.funcs[j1].params.length+an t1:=rfl;have:=hE1.wt;unfold pO at h8;omega,wG⟩⟩,J⟩
end
section
open Go.RowKit
section
variable {H:Type}{enc:TypeId×Value -> H}{P:Program}{w:World}{base:Nat}{spare:Nat -> Bool}{held:Bool}
def Raw(P:Program)(w:World)(base:Nat)(spare:Nat -> Bool)(held:Bool)(enc:TypeId×Value -> H)(t:TypeId){α:Type}(ea:α -> List aO)(sn:α -> Prop)(wt:α -> Nat)(fuel:Nat):Prop:=
 ∀cs (d:DataW H) p,DataW.trod enc P w base spare held fuel t cs=some (d,p) -> Rows.uptoBulk d <= 4611686018427387904 -> ∃x,dA w (ea x) cs /\ sn x /\ wt x <= Rows.uptoBulk d
theorem Jx:∀(l:List (DataW H)) (k:Nat) (h:k<l.length),Rows.uptoBulk l[k] <= Rows.uptoBulkAll l
 |x::l,0,_=>by rw [Rows.uptoBulkAll];simp
 |x::l,k+1,h=>by have:=Jx l k iX;rw [Rows.uptoBulkAll];simp only [JF];omega
theorem VE{a:Addr}{j:Nat}{u:aN}(hs:a.spot=none)(h:w.cell? (a.add j)=some u):w.cell? ⟨a.block,a.off+j,none⟩=some u:=by
 obtain ⟨b,o,s⟩:=a;cases hs;by_cases hj:j=0
 ·subst hj;exact h
 unfold Addr.add at h;rwa [if_neg hj] at h
theorem SB(a:Addr)(i j:Nat):(a.add i).add j=a.add (i+j):=by
 unfold Addr.add;by_cases hi:i=0<;>by_cases hj:j=0<;>simp [hi,hj,qQ]
theorem rJ{t e:ax}{α:Type}{ea:α -> List aO}{sn:α -> Prop}{wt:α -> Nat}{z fuel:Nat}(ht:P.underlying t=some (.slice e))(hz:P.cellsOf e=z)(h0:0<z)(hl:∀x,(ea x).length=z)
  (step:∀n,n<fuel -> Raw P w base spare held enc e ea sn wt n):Raw P w base spare held enc t (λl:List α=>[aG ea l]) (λl=>∀x,x∈l -> sn x) (λl=>(l.map wt).sum+1) fuel:=by
 intro cs d p h hB;rcases DataW.trod_slice ht h with ⟨rfl,hx⟩|⟨a,len,cap,elems,rest,n,rfl,rfl,hx,hb,hlc,hcm,hlen,hel,-,-⟩
 ·cases hx;exact ⟨[],.cons (.sl 0 [] [] _ ⟨none,0,J,bY _,.inl J⟩ J B3 (λa k c h=>by cases h;decide)) (.nil w),(λx h=>gQ),F9⟩
 rw [hz] at hel;obtain ⟨rfl,-⟩:=qx hx;rw [Rows.uptoBulk] at hB;have fam:∀k,k <= len -> ∃(l:List α) (us:List aN),l.length=k /\ us.length=k*z /\ (∀j u,us[j]?=some u -> w.cell? (a.add j)=some u) /\ dA w (l.flatMap ea) us /\ (∀x,x∈l -> sn x) /\ (l.map wt).sum <= Rows.uptoBulkAll ((elems.take k).map (·.1)):=by
  intro k;induction k with
  |zero=>exact λ_=>⟨[],[],rfl,aM,(λj u h=>qj),.nil w,(λx h=>gQ),aM⟩
  |succ k ih=>
   intro hk;obtain ⟨l,us,h1,h2,h3,h4,h5,h6⟩:=ih Y;have hq:=hel k Y;have hke:k<elems.length:=Y;rw [kl hke] at hq;obtain ⟨cs',hc,hd⟩:=Option.bind_eq_some_iff.1 hq;have hbk:=Jx (elems.map (·.1)) k (by simpa using hke)
   rw [qe] at hbk;obtain ⟨x,hr,hs,hw⟩:=step n Y cs' elems[k].1 elems[k].2 hd Y;obtain ⟨-,hcl,hcell⟩:=World.cells?_some hc;refine ⟨l++[x],us++cs',by simp [h1],by rw [length_append,h2,hcl,wx],λj u hj=>?_,by rw [dh];exact h4.app (by simpa using hr),λy hy=>?_,?_⟩
   ·rcases jn j us.length with hlt|hge
    ·rw [qS hlt] at hj;exact h3 j u hj
    rw [oV hge] at hj;have hjl:j-us.length<cs'.length:=(mN.1 hj).1;have:=hcell (j-us.length) Y;rw [SB,show k*z+(j-us.length)=j by omega] at this;rw [this];exact hj
   ·rcases mem_append.1 hy with hy|hy
    ·exact h5 y hy
    rw [jq] at hy;subst hy;exact hs
   have e:∀(xs ys:List (DataW H)),Rows.uptoBulkAll (xs++ys)=Rows.uptoBulkAll xs+Rows.uptoBulkAll ys:=by
    intro xs ys;induction xs with
    |nil=>simp [Rows.uptoBulkAll]
    |cons x xs ih=>simp only [eE,Rows.uptoBulkAll,ih];omega
   rw [gX hke,e1 (l₁:=List.take k elems),e,e1,List.sum_append];simp only [ca,d7,mh,List.sum_nil,Rows.uptoBulkAll];omega
 obtain ⟨l,us,h1,h2,h3,h4,h5,h6⟩:=fam len (bY _);refine ⟨l,.cons (.sl _ _ us _ ⟨some a,cap,by rw [h1],by rw [h1];exact hlc,?_⟩ h4.len h4.at_ (λa' k c he=>?_)) (.nil w),h5,?_⟩
 ·cases us with
  |nil=>exact .inl rfl
  |cons u us=>
   have hs:a.spot=none:=World.cell?_spot (a:=a) (by simpa [Addr.add] using h3 0 u rfl);refine .inr ⟨a.block,a.off,?_,λj u hj=>VE hs (h3 j u hj)⟩;obtain ⟨b,o,s⟩:=a;cases hs;rfl
 ·cases he;unfold maxLen at hcm;omega
 rw [Rows.uptoBulk];rw [take_of_length_le Y] at h6;show (l.map wt).sum+1 <= _;omega
theorem g_{a b:List aO}{o z:Nat}{cs:List aN}(h:dA w a ((cs.drop o).take z))(h2:dA w b (cs.drop (o+z))):dA w (a++b) (cs.drop o):=by
 have h3:=h.app h2
 rwa [←C3,ov] at h3
theorem sR{cs:List aN}{z:Nat}(h:cs.length=z):dA w [] (cs.drop z):=by rw [sY Y];exact .nil w
def Ri(n:Int):Prop:=-9223372036854775808 <= n /\ n <= 9223372036854775807
theorem zH{t:ax}{fuel z:Nat}{cs:List aN}{x:DataW H×List MemPlace}(ht:P.underlying t=some (.int .i64))(hz:P.cellsOf t=z)(h:DataW.trod enc P w base spare held fuel t (cs.take (P.cellsOf t))=some x):∃n:Int,dA w [aA n] (cs.take z) /\ Ri n /\ 1 <= Rows.uptoBulk x.1:=by
 obtain ⟨n,h1,rfl,h2⟩:=DataW.trod_int ht h;rw [hz] at h1;rw [h1];refine ⟨n,.cons (.val _ J) (.nil w),?_,F9⟩;simp only [Lit.wf,dm,decide_eq_true_eq] at h2;exact h2
theorem Fb{t:ax}{fuel z:Nat}{cs:List aN}{x:DataW H×List MemPlace}(ht:P.underlying t=some .bool)(hz:P.cellsOf t=z)(h:DataW.trod enc P w base spare held fuel t (cs.take (P.cellsOf t))=some x):∃b:Bool,dA w [bD b] (cs.take z) /\ True /\ 1 <= Rows.uptoBulk x.1:=by
 obtain ⟨n,h1,rfl⟩:=DataW.trod_bool ht h;rw [hz] at h1;rw [h1];exact ⟨n,.cons (.val _ J) (.nil w),trivial,F9⟩
theorem wE{t:ax}{fuel z:Nat}{cs:List aN}{x:DataW H×List MemPlace}(ht:P.underlying t=some .string)(hz:P.cellsOf t=z)(h:DataW.trod enc P w base spare held fuel t (cs.take (P.cellsOf t))=some x)(hB:Rows.uptoBulk x.1 <= 4611686018427387904):∃s:aI,dA w [ac s] (cs.take z) /\ s.size <= 4611686018427387904 /\ 1 <= Rows.uptoBulk x.1:=by
 obtain ⟨n,h1,rfl,h2⟩:=DataW.trod_string ht h;rw [hz] at h1;rw [h1];have e:n.data.toList.length=n.size:=J;simp only [Rows.uptoBulk] at hB⊢;exact ⟨n,.cons (.val _ J) (.nil w),Y,Y⟩
theorem nc{t:ax}{α:Type}{ea:α -> List aO}{sn:α -> Prop}{wt:α -> Nat}{fuel z:Nat}{cs:List aN}{x:DataW H×List MemPlace}(hr:Raw P w base spare held enc t ea sn wt fuel)(hz:P.cellsOf t=z)(h:DataW.trod enc P w base spare held fuel t (cs.take (P.cellsOf t))=some x)(hB:Rows.uptoBulk x.1 <= 4611686018427387904):∃y,dA w (ea y) (cs.take z) /\ sn y /\ wt y <= Rows.uptoBulk x.1:=by
 rw [hz] at h;exact hr _ x.1 x.2 h hB
theorem Raw.one{t:ax}{α:Type}{ea:α -> List aO}{sn:α -> Prop}{wt:α -> Nat}{v:aN}{d:DataW H}{p:List MemPlace}(hr:∀fuel,Raw P w base spare held enc t ea sn wt fuel)(h:DataW.Trod enc P w base spare held t v d p)(hB:Rows.uptoBulk d <= 4611686018427387904):∃x,dA w (ea x) v.cells.toList /\ sn x /\ wt x <= Rows.uptoBulk d:=by
 obtain ⟨fuel,h⟩:=h;exact hr fuel _ d p h hB
end
end
section
open Go.RowKit
def Gv:∀(l:List aS),(∀x,x∈l -> x.bt) -> jM l
 |[],_=>CI
 |x::l,h=>by rw [jM];exact ⟨h x aM,Gv l λy hy=>h y vd⟩
def Iu:∀(l:List aS),cv l=(l.map λx=>x.nodes+1).sum
 |[]=>by rw [cv];rfl
 |x::l=>by rw [cv,Iu l,ca,mh];omega
def Vf(o n:Int)(m:aI)(l:List aS):(aS.mk o n m l).nodes=1+cv l:=by rw [aS.nodes]
section
variable {H:Type}{enc:TypeId×Value -> H}{w:World}{base:Nat}{spare:Nat -> Bool}{held:Bool}
theorem G':∀fuel,Raw prog w base spare held enc 94 bV aS.bt (λx=>x.nodes+1) fuel:=by
 intro fuel;induction fuel using Nat.strongRecOn with|_ fuel ih=>?_
 intro cs d p h hB;obtain ⟨xs,n,rfl,hx,hcs,hxl,hf⟩:=DataW.trod_struct underlying94 h;obtain ⟨x0,x1,x2,x3,rfl⟩:∃x0 x1 x2 x3,xs=[x0,x1,x2,x3]:=by
  match xs,hxl with
  |[x0,x1,x2,x3],_=>exact ⟨x0,x1,x2,x3,rfl⟩
 obtain ⟨rfl,-⟩:=qx hx;rw [Rows.uptoBulk] at hB;simp only [ca,d7,Rows.uptoBulkAll] at hB;obtain ⟨v0,r0,s0,b0⟩:=zH mt (z:=1) aL (hf 0 _ rfl);obtain ⟨v1,r1,s1,b1⟩:=zH mt (z:=1) aL (hf 1 _ rfl);obtain ⟨v2,r2,s2,b2⟩:=wE dz (z:=1) aL (hf 2 _ rfl) Y;obtain ⟨v3,r3,s3,b3⟩:=nc (rJ yc (z:=4) aL V fw Ex) (z:=1) aL (hf 3 _ rfl) Y;rw [show prog.cellsOf 94=4 by kernel_rfl] at hcs;refine ⟨.mk v0 v1 v2 v3,?_,?_,?_⟩
 ·rw [yA];exact g_ (o:=0) (z:=1) r0 (g_ (o:=1) (z:=1) r1 (g_ (o:=2) (z:=1) r2 (g_ (o:=3) (z:=1) r3 (sR hcs))))
 ·rw [aS.bt];exact ⟨s1,s2,Gv _ s3⟩
 rw [Rows.uptoBulk];simp only [ca,d7,Rows.uptoBulkAll];have:=Vf v0 v1 v2 v3;have:=Iu v3;omega
end
end
section
open Go.RowKit
def Cr:∀(l:List aD),(∀x,x∈l -> x.bt) -> eI l
 |[],_=>by rw [eI];trivial
 |x::l,h=>by rw [eI];exact ⟨h x aM,Cr l λy hy=>h y vd⟩
def NK:∀(l:List bq),dQ l=(l.map bq.wt).sum
 |[]=>by rw [dQ];rfl
 |x::l=>by rw [dQ,NK l,ca,mh]
def A3:∀(l:List aD),an l=(l.map aD.wt).sum
 |[]=>by rw [an];rfl
 |x::l=>by rw [an,A3 l,ca,mh]
def CV{α:Type}:∀(l:List α),(l.map λ_=>1).sum=l.length
 |[]=>rfl
 |x::l=>by rw [ca,mh,CV l,length_cons];omega
def Za(k:Int)(n:aI)(e:aS)(r:cD)(a:List bq)(t f:List aD):(aD.mk k n e r a t f).wt=1+e.nodes+r.wt+dQ a+an t+an f:=by rw [aD.wt]
section
variable {H:Type}{enc:TypeId×Value -> H}{w:World}{base:Nat}{spare:Nat -> Bool}{held:Bool}
theorem N7:∀fuel,Raw prog w base spare held enc 102 encR cD.bt cD.wt fuel:=by
 intro fuel;intro cs d p h hB;obtain ⟨xs,n,rfl,hx,hcs,hxl,hf⟩:=DataW.trod_struct underlying102 h;obtain ⟨x0,x1,rfl⟩:∃x0 x1,xs=[x0,x1]:=by
  match xs,hxl with
  |[x0,x1],_=>exact ⟨x0,x1,rfl⟩
 obtain ⟨rfl,-⟩:=qx hx;rw [Rows.uptoBulk] at hB;simp only [ca,d7,Rows.uptoBulkAll] at hB;obtain ⟨v0,r0,s0,b0⟩:=wE dz (z:=1) aL (hf 0 _ rfl) Y;obtain ⟨v1,r1,s1,b1⟩:=nc (rJ yc (z:=4) aL V fw (λm hm=>G' m)) (z:=1) aL (hf 1 _ rfl) Y;rw [show prog.cellsOf 102=2 by kernel_rfl] at hcs;refine ⟨⟨v0,v1⟩,?_,?_,?_⟩
 ·exact g_ (o:=0) (z:=1) r0 (g_ (o:=1) (z:=1) r1 (sR hcs))
 ·exact ⟨s0,Gv _ s1⟩
 rw [Rows.uptoBulk];simp only [ca,d7,Rows.uptoBulkAll];show 1+cv v1 <= _;have:=Iu v1;omega
theorem Y6:∀fuel,Raw prog w base spare held enc 152 cg bq.bt bq.wt fuel:=by
 intro fuel;intro cs d p h hB;obtain ⟨xs,n,rfl,hx,hcs,hxl,hf⟩:=DataW.trod_struct underlying152 h;obtain ⟨x0,x1,x2,rfl⟩:∃x0 x1 x2,xs=[x0,x1,x2]:=by
  match xs,hxl with
  |[x0,x1,x2],_=>exact ⟨x0,x1,x2,rfl⟩
 obtain ⟨rfl,-⟩:=qx hx;rw [Rows.uptoBulk] at hB;simp only [ca,d7,Rows.uptoBulkAll] at hB;obtain ⟨v0,r0,s0,b0⟩:=Fb yT (z:=1) aL (hf 0 _ rfl);obtain ⟨v1,r1,s1,b1⟩:=nc (N7 n) (z:=2) aL (hf 1 _ rfl) Y;obtain ⟨v2,r2,s2,b2⟩:=nc (G' n) (z:=4) aL (hf 2 _ rfl) Y;rw [show prog.cellsOf 152=7 by kernel_rfl] at hcs;refine ⟨⟨v0,v1,v2⟩,?_,?_,?_⟩
 ·rw [yA] at r2;exact g_ (o:=0) (z:=1) r0 (g_ (o:=1) (z:=2) r1 (g_ (o:=3) (z:=4) r2 (sR hcs)))
 ·exact ⟨s1,s2⟩
 rw [Rows.uptoBulk];simp only [ca,d7,Rows.uptoBulkAll];show 1+v1.wt+v2.nodes <= _;omega
theorem Xa:∀fuel,Raw prog w base spare held enc 105 encS aD.bt aD.wt fuel:=by
 intro fuel;induction fuel using Nat.strongRecOn with|_ fuel ih=>?_
 intro cs d p h hB;obtain ⟨xs,n,rfl,hx,hcs,hxl,hf⟩:=DataW.trod_struct underlying105 h;obtain ⟨x0,x1,x2,x3,x4,x5,x6,rfl⟩:∃x0 x1 x2 x3 x4 x5 x6,xs=[x0,x1,x2,x3,x4,x5,x6]:=by
  match xs,hxl with
  |[x0,x1,x2,x3,x4,x5,x6],_=>exact ⟨x0,x1,x2,x3,x4,x5,x6,rfl⟩
 obtain ⟨rfl,-⟩:=qx hx;rw [Rows.uptoBulk] at hB;simp only [ca,d7,Rows.uptoBulkAll] at hB;obtain ⟨v0,r0,s0,b0⟩:=zH mt (z:=1) aL (hf 0 _ rfl);obtain ⟨v1,r1,s1,b1⟩:=wE dz (z:=1) aL (hf 1 _ rfl) Y;obtain ⟨v2,r2,s2,b2⟩:=nc (G' n) (z:=4) aL (hf 2 _ rfl) Y;obtain ⟨v3,r3,s3,b3⟩:=nc (N7 n) (z:=2) aL (hf 3 _ rfl) Y;obtain ⟨v4,r4,s4,b4⟩:=nc (rJ uR (z:=7) aL V oO (λm hm=>Y6 m)) (z:=1) aL (hf 4 _ rfl) Y;obtain ⟨v5,r5,s5,b5⟩:=nc (rJ pi (z:=11) aL V kS Ex) (z:=1) aL (hf 5 _ rfl) Y;obtain ⟨v6,r6,s6,b6⟩:=nc (rJ pi (z:=11) aL V kS Ex) (z:=1) aL (hf 6 _ rfl) Y;rw [show prog.cellsOf 105=11 by kernel_rfl] at hcs;refine ⟨.mk v0 v1 v2 v3 v4 v5 v6,?_,?_,?_⟩
 ·rw [yA] at r2;rw [EF];exact g_ (o:=0) (z:=1) r0 (g_ (o:=1) (z:=1) r1 (g_ (o:=2) (z:=4) r2 (g_ (o:=6) (z:=2) r3 (g_ (o:=8) (z:=1) r4 (g_ (o:=9) (z:=1) r5 (g_ (o:=10) (z:=1) r6 (sR hcs)))))))
 ·rw [aD.bt];exact ⟨s1,s2,s3,s4,Cr _ s5,Cr _ s6⟩
 rw [Rows.uptoBulk];simp only [ca,d7,Rows.uptoBulkAll];rw [Za];have:=NK v4;have:=A3 v5;have:=A3 v6;omega
theorem Ym:∀fuel,Raw prog w base spare held enc 51 cE (λx:bg=>x.name.size <= 4611686018427387904) (λ_=>1) fuel:=by
 intro fuel;intro cs d p h hB;obtain ⟨xs,n,rfl,hx,hcs,hxl,hf⟩:=DataW.trod_struct underlying51 h;obtain ⟨x0,x1,rfl⟩:∃x0 x1,xs=[x0,x1]:=by
  match xs,hxl with
  |[x0,x1],_=>exact ⟨x0,x1,rfl⟩
 obtain ⟨rfl,-⟩:=qx hx;rw [Rows.uptoBulk] at hB;simp only [ca,d7,Rows.uptoBulkAll] at hB;obtain ⟨v0,r0,s0,b0⟩:=wE dz (z:=1) aL (hf 0 _ rfl) Y;obtain ⟨v1,r1,s1,b1⟩:=Fb yT (z:=1) aL (hf 1 _ rfl);rw [show prog.cellsOf 51=2 by kernel_rfl] at hcs;refine ⟨⟨v0,v1⟩,?_,?_,?_⟩
 ·exact g_ (o:=0) (z:=1) r0 (g_ (o:=1) (z:=1) r1 (sR hcs))
 ·exact s0
 rw [Rows.uptoBulk];simp only [ca,d7,Rows.uptoBulkAll];omega
theorem Zj:∀fuel,Raw prog w base spare held enc 49 bT a_.bt a_.wt fuel:=by
 intro fuel;intro cs d p h hB;obtain ⟨xs,n,rfl,hx,hcs,hxl,hf⟩:=DataW.trod_struct underlying49 h;obtain ⟨x0,x1,x2,rfl⟩:∃x0 x1 x2,xs=[x0,x1,x2]:=by
  match xs,hxl with
  |[x0,x1,x2],_=>exact ⟨x0,x1,x2,rfl⟩
 obtain ⟨rfl,-⟩:=qx hx;rw [Rows.uptoBulk] at hB;simp only [ca,d7,Rows.uptoBulkAll] at hB;obtain ⟨v0,r0,s0,b0⟩:=wE dz (z:=1) aL (hf 0 _ rfl) Y;obtain ⟨v1,r1,s1,b1⟩:=nc (rJ qA (z:=2) aL V iQ (λm hm=>Ym m)) (z:=1) aL (hf 1 _ rfl) Y;obtain ⟨v2,r2,s2,b2⟩:=nc (rJ pi (z:=11) aL V kS (λm hm=>Xa m)) (z:=1) aL (hf 2 _ rfl) Y;rw [show prog.cellsOf 49=3 by kernel_rfl] at hcs;refine ⟨⟨v0,v1,v2⟩,?_,?_,?_⟩
 ·exact g_ (o:=0) (z:=1) r0 (g_ (o:=1) (z:=1) r1 (g_ (o:=2) (z:=1) r2 (sR hcs)))
 ·exact ⟨s0,s1,Cr _ s2⟩
 rw [Rows.uptoBulk];simp only [ca,d7,Rows.uptoBulkAll];show 1+v1.length+an v2 <= _;have:=A3 v2;have:=CV v1;omega
theorem Wb:∀fuel,Raw prog w base spare held enc 43 cR (λx:bw=>fit x.init /\ x.name.size <= 4611686018427387904) (λ_=>1) fuel:=by
 intro fuel;intro cs d p h hB;obtain ⟨xs,n,rfl,hx,hcs,hxl,hf⟩:=DataW.trod_struct underlying43 h;obtain ⟨x0,x1,rfl⟩:∃x0 x1,xs=[x0,x1]:=by
  match xs,hxl with
  |[x0,x1],_=>exact ⟨x0,x1,rfl⟩
 obtain ⟨rfl,-⟩:=qx hx;rw [Rows.uptoBulk] at hB;simp only [ca,d7,Rows.uptoBulkAll] at hB;obtain ⟨v0,r0,s0,b0⟩:=wE dz (z:=1) aL (hf 0 _ rfl) Y;obtain ⟨v1,r1,s1,b1⟩:=zH mt (z:=1) aL (hf 1 _ rfl);rw [show prog.cellsOf 43=2 by kernel_rfl] at hcs;refine ⟨⟨v0,v1⟩,?_,?_,?_⟩
 ·exact g_ (o:=0) (z:=1) r0 (g_ (o:=1) (z:=1) r1 (sR hcs))
 ·exact ⟨s1,s0⟩
 rw [Rows.uptoBulk];simp only [ca,d7,Rows.uptoBulkAll];omega
theorem Tm:∀fuel,Raw prog w base spare held enc 45 bB (λx:cn=>fit x.size /\ x.name.size <= 4611686018427387904) (λ_=>1) fuel:=by
 intro fuel;intro cs d p h hB;obtain ⟨xs,n,rfl,hx,hcs,hxl,hf⟩:=DataW.trod_struct underlying45 h;obtain ⟨x0,x1,x2,rfl⟩:∃x0 x1 x2,xs=[x0,x1,x2]:=by
  match xs,hxl with
  |[x0,x1,x2],_=>exact ⟨x0,x1,x2,rfl⟩
 obtain ⟨rfl,-⟩:=qx hx;rw [Rows.uptoBulk] at hB;simp only [ca,d7,Rows.uptoBulkAll] at hB;obtain ⟨v0,r0,s0,b0⟩:=wE dz (z:=1) aL (hf 0 _ rfl) Y;obtain ⟨v1,r1,s1,b1⟩:=Fb yT (z:=1) aL (hf 1 _ rfl);obtain ⟨v2,r2,s2,b2⟩:=zH mt (z:=1) aL (hf 2 _ rfl);rw [show prog.cellsOf 45=3 by kernel_rfl] at hcs;refine ⟨⟨v0,v1,v2⟩,?_,?_,?_⟩
 ·exact g_ (o:=0) (z:=1) r0 (g_ (o:=1) (z:=1) r1 (g_ (o:=2) (z:=1) r2 (sR hcs)))
 ·exact ⟨s2,s0⟩
 rw [Rows.uptoBulk];simp only [ca,d7,Rows.uptoBulkAll];omega
theorem Sy:∀fuel,Raw prog w base spare held enc 27 di aX.bt aX.wt fuel:=by
 intro fuel;intro cs d p h hB;obtain ⟨xs,n,rfl,hx,hcs,hxl,hf⟩:=DataW.trod_struct underlying27 h;obtain ⟨x0,x1,x2,rfl⟩:∃x0 x1 x2,xs=[x0,x1,x2]:=by
  match xs,hxl with
  |[x0,x1,x2],_=>exact ⟨x0,x1,x2,rfl⟩
 obtain ⟨rfl,-⟩:=qx hx;rw [Rows.uptoBulk] at hB;simp only [ca,d7,Rows.uptoBulkAll] at hB;obtain ⟨v0,r0,s0,b0⟩:=nc (rJ kx (z:=2) aL V nt (λm hm=>Wb m)) (z:=1) aL (hf 0 _ rfl) Y;obtain ⟨v1,r1,s1,b1⟩:=nc (rJ gN (z:=3) aL V lC (λm hm=>Tm m)) (z:=1) aL (hf 1 _ rfl) Y;obtain ⟨v2,r2,s2,b2⟩:=nc (rJ ju (z:=3) aL V mY (λm hm=>Zj m)) (z:=1) aL (hf 2 _ rfl) Y;rw [show prog.cellsOf 27=3 by kernel_rfl] at hcs;refine ⟨⟨v0,v1,v2⟩,?_,?_,?_⟩
 ·exact g_ (o:=0) (z:=1) r0 (g_ (o:=1) (z:=1) r1 (g_ (o:=2) (z:=1) r2 (sR hcs)))
 ·exact ⟨s0,s1,s2⟩
 rw [Rows.uptoBulk];simp only [ca,d7,Rows.uptoBulkAll];show v0.length+v1.length+(v2.map a_.wt).sum <= _;have:=CV v0;have:=CV v1;omega
end
end
end Go.Proofs.YtckelpefchdenaaGreatDoor
