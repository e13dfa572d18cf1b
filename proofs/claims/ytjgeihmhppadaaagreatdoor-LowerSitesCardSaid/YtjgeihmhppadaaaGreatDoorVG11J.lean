import Derived.Test.YtjgeihmhppadaaaGreatDoorVG10J
set_option linter.all false
set_option synthInstance.maxHeartbeats 1000000
set_option synthInstance.maxSize 1000000
set_option maxHeartbeats 8000000
set_option maxRecDepth 100000
namespace Go.Proofs.YtjgeihmhppadaaaGreatDoor
open Go.Proofs.Tryz
open List (length_append length_cons length_nil mem_append mem_cons not_mem_nil append_assoc getElem_mem take_of_length_le)
section
open Go.RowKit
def pU(s:aE):Nat:=1+s.expr.nodes+s.ref.wt+dz s.args
def yj(s:aE):s.wt=pU s+au s.thn+au s.els:=by rw [gM];unfold pU;omega
structure yf (s q:aE):Prop where
 bt:q.bt
 base:pU q <= 22*pU s
 thn:au q.thn <= au s.thn
 els:au q.els <= au s.els
 gd:jL lr s -> jL lr q
def yf.self{s:aE}(h:s.bt):yf s s:=⟨h,Y,bX _,bX _,id⟩
def Yh(s:aE)(how x:Int)(hs:s.bt)(hw:s.wt <= 9000000)(σ:aJ):aU prog 71 [.agg (ci s),an how,an x] [] σ λt s'=>(∃q:aE,t=.agg (ci q) /\ yf s q) /\ s'=σ:=by
 obtain ⟨k,nm,⟨eo,en,em,ea⟩,⟨rn,ri⟩,ar,th,el⟩:=s;obtain ⟨bx,rw⟩:=σ;have h:=U9 k nm eo en em ea rn ri ar th el how x hs (by rw [gM] at hw;simp only [aE.args] at hw;omega) bx rw;intro vs w hm hT hl hr;refine (h vs w hm hT hl hr).mono ?_;rintro en w' ⟨r,v,s',h1,⟨⟨q,rfl,q1,q2,q3,q4⟩,rfl⟩,h4⟩;refine ⟨_,v,_,h1,⟨⟨q,J,q1,?_,?_,?_,q4⟩,J⟩,h4⟩
 ·unfold pU;simp only [aE.expr,aE.ref,aE.args,cL.wt,aS.nodes] at q3⊢;omega
 ·rcases q2 with ⟨aj,e2⟩|⟨aj,e2⟩
  ·rw [aj];exact bX _
  rw [aj,au];omega
 rcases q2 with ⟨aj,e2⟩|⟨aj,e2⟩
 ·rw [e2];exact bX _
 rw [e2,au];omega
structure Hy (l:List aE) (n:Int) (l':List aE) (n':Int):Prop where
 bt:eO l'
 wt:au l' <= 22*au l
 lo:n-22*(au l:Int) <= n'
 hi:n' <= n
 gd:lD lr l -> lD lr l'
def gy(q:aE)(t:List aE):aE:=.mk q.kind q.name q.expr q.ref q.args t q.els
def ji(q:aE)(t:List aE):aE:=.mk q.kind q.name q.expr q.ref q.args q.thn t
def B7(a b:List aE):au (a++b)=au a+au b:=by
 induction a with
 |nil=>rw [cg,au];omega
 |cons x a ih=>rw [eA,au,au,ih];omega
def Hb(l:List aE)(k:Nat)(h:k<l.length):au (l.take (k+1))=au (l.take k)+l[k].wt:=by
 rw [gz h,B7,au,au];omega
def Ra(l:List aE)(k:Nat):au (l.take k) <= au l:=by
 have h:=B7 (l.take k) (l.drop k);rw [pT] at h;omega
def MJ{a b:List aE}(ha:eO a)(hb:eO b):eO (a++b):=by
 induction a with
 |nil=>exact hb
 |cons x a ih=>rw [eA,eO];rw [eO] at ha;exact ⟨ha.1,ih ha.2⟩
def PM{q:aE}{t1 cA:List aE}(h:q.bt)(h1:eO t1)(h2:eO cA):(ji (gy q t1) cA).bt:=by
 obtain ⟨a,b,c,d,-,-⟩:=nR h;unfold ji gy;rw [aE.bt];exact ⟨a,b,c,d,h1,h2⟩
def M9{q:aE}{t1 cA:List aE}(h:jL lr q)(h1:lD lr q.thn -> lD lr t1)(h2:lD lr q.els -> lD lr cA):jL lr (ji (gy q t1) cA):=by
 cases q;unfold ji gy;rw [jL] at h⊢;exact ⟨h.1,h.2.1,h.2.2.1,h.2.2.2.1,h1 h.2.2.2.2.1,h2 h.2.2.2.2.2⟩
section
variable {pr r:List aE}{q:aE}{k:Nat}
theorem Do(hk:pr.length=k):(pr++q::r).flatMap encS=pr.flatMap encS++(ci q++r.flatMap encS) /\ (pr.flatMap encS).length=k*11:=by
 refine ⟨by rw [dj,ec,mQ],?_⟩;rw [dD encS 11 l8,hk]
theorem Se(hk:pr.length=k):fg true 11 ((pr++q::r).flatMap encS) (0+k*11)=some (.agg (ci q)):=by
 obtain ⟨h1,h2⟩:=Do (q:=q) (r:=r) hk;unfold fg;rw [if_pos rfl,h1,cp,tX h2,rY jo,if_pos (by rw [length_append,length_append,h2];show _ <= _+(11+_);omega)]
theorem B_(hk:pr.length=k)(i:Nat)(x:aO)(hx:(ci q)[i]?=some x):fg false 1 ((pr++q::r).flatMap encS) (0+k*11+i)=some (.c x):=by
 obtain ⟨h1,h2⟩:=Do (q:=q) (r:=r) hk;have hi:i<(ci q).length:=(m6.1 hx).1;unfold fg;rw [if_neg V,h1,cp,pZ Y,h2,vI,rJ hi,hx];rfl
theorem Te(hk:pr.length=k)(q':aE):splice ((pr++q::r).flatMap encS) (0+k*11) (ci q')=(pr++q'::r).flatMap encS:=by
 rw [cp,←mQ,z8 encS 11 l8 _ k dh]
 congr 1
 subst hk;simp
theorem DV(hk:pr.length=k)(i:Nat)(x:aO)(q':aE)(hi:i<11)(hx:(ci q).set i x=ci q'):splice ((pr++q::r).flatMap encS) (0+k*11+i) [x]=(pr++q'::r).flatMap encS:=by
 obtain ⟨h1,h2⟩:=Do (q:=q) (r:=r) hk;obtain ⟨h3,h4⟩:=Do (q:=q') (r:=r) hk;have h11:(ci q).length=11:=J;rw [h1,h3,←hx];unfold splice;rw [cp,←h2,BW,take_of_length_le Y,vI,Ek Y];simp only [append_assoc];rw [yB,uF dh,cg,show (pr.flatMap encS).length+i+[x].length-(pr.flatMap encS).length=i+1 by simp;omega,EX Y,G6,if_pos Y];simp
theorem zP(hk:pr.length=k)(i z:Nat)(h:i+z <= 11):0+k*11+i+z <= ((pr++q::r).flatMap encS).length:=by
 rw [dD encS 11 l8,length_append,length_cons,hk,sR,sR];omega
end
def M1(N:Nat)(l:List aE)(n how x:Int)(hN:N+1 <= 9000000)(hl:au l <= N+1)(hl2:l.length <= 9000000)(hs:eO l)(hn1:-1000000000000000+22*(au l:Int) <= n)(hn2:n <= 1000000000000000)(ih:0<l.length -> ∀(l:List aE)(n:Int),au l <= N -> eO l -> -1000000000000000+22*(au l:Int) <= n -> n <= 1000000000000000 -> ∀s:aJ,aU prog 36 [.c (aB encS l),an n,an how,an x] [] s λt s'=>(∃l' n',t=.fd [.c (aB encS l'),an n'] /\ Hy l n l' n') /\ s'=s)(bx:List aV)(rw:List aP):aU prog 36 [.c (aB encS l),an n,an how,an x] [] ⟨bx,rw⟩ λt s'=>(∃l' n',t=.fd [.c (aB encS l'),an n'] /\ Hy l n l' n') /\ s'=⟨bx,rw⟩:=by
 refine bR 69 func36 ?_;refine go 8 ?_;refine aX J (fE sx d7 λg1=>?_);refine go 1 ?_;refine aX J (eU [] Tryz.t120 192 J J V J J sx aQ J J J J V (dD encS 11 l8 l) cN Y (cp l.length) (λ_ b hb=>tS) (λb hb=>tS) (cg _) λw2=>?_);refine go 10 ?_;refine f9 (λg:Nat×List aE×Int×aN=>(⟨69,aR g.2.2.2,⟨bx,⟨g.2.2.2,120,11,l.length,(g.2.1++l.drop g.1).flatMap encS⟩::rw⟩,[(11,ae g.1),(10,av g.2.2.2),(1,an g.2.2.1),(0,.c (aB encS l)),(2,an how),(3,an x)]⟩:AS)) (λg=>g.1 <= l.length /\ g.2.1.length=g.1 /\ eO g.2.1 /\ au g.2.1 <= 22*au (l.take g.1) /\ n-22*(au (l.take g.1):Int) <= g.2.2.1 /\ g.2.2.1 <= n /\ (lD lr l -> lD lr g.2.1)) (λg=>l.length-g.1) (0,[],n,w2) (bD (λb hb=>gR _ hb)) ⟨Y,J,trivial,by simp [au],by simp [au],Int.le_refl _,λ_=>trivial⟩ ?_;rintro ⟨k,pr,m,v⟩ ⟨hk,hpl,hps,hpw,hm1,hm2,hpg⟩;dsimp only at hk hpl hps hpw hm1 hm2 hpg
 try dsimp only
 refine go 5 ?_;refine aD J (lT [] J J J jw) ?_;by_cases h1:(k:Int)<(l.length:Int)
 ·refine aI J (c_ h1) (go 10 ?_);have hkl:k<l.length:=Y;refine zC [] Y λgr cr hgr=>?_;subst hgr;rw [ic hkl];have hlk:=tA _ hs _ (getElem_mem hkl);have hwt:=qH l k hkl;have hwt2:=yj l[k];have hwm:=Hb l k hkl;have hwm2:=Ra l (k+1);have hb0:1 <= pU l[k]:=by unfold pU;omega
  refine go 1 ?_;by_cases h3:m=0
  ·refine aI J (bU h3) (go 8 ?_);refine aD J (ey (z:=11) k J J J J hkl jw d7) ?_;refine aD J (kc [] gX d7 (Se hpl)) (go 2 ?_);refine cc J call71 J (Yh l[k] how x hlk Y _) ?_;rintro _ _ ⟨⟨q,rfl,hQ⟩,rfl⟩;refine aD J (ey (z:=11) k J J J J hkl jw d7) ?_;refine aX J (lM (r:=(pr++q::l.drop (k+1)).flatMap encS) [] J J J J J d7 J (zP hpl 0 11 V) (Te hpl q) iB vE ?_);refine go 5 ?_;refine aD J (jh) (go 9 ?_);refine aD J (ey (z:=11) k J J J J hkl jw d7) ?_;refine aD J (id <|jO 9 (0+k*11+9) mm iV) ?_;refine aD J (kc [] sX iV (B_ hpl 9 _ J)) (go 3 ?_);refine cc J call36 J (ih Y (aE.thn q) (m-1) xa (nR hQ.bt).2.2.2.2.1 xa xa _) ?_;rintro _ _ ⟨⟨t1,m1,rfl,hE1⟩,rfl⟩;refine go 3 ?_;refine aD J (ey (z:=11) k J J J J hkl jw d7) ?_;refine aD J (id <|jO 9 (0+k*11+9) mm iV) ?_;refine aX J (lM (r:=(pr++(gy q t1)::l.drop (k+1)).flatMap encS) [] J J J J J iV J (zP hpl 9 1 V) (DV hpl 9 _ (gy q t1) V J) iB vE ?_);refine go 8 ?_;refine aD J (ey (z:=11) k J J J J hkl jw d7) ?_;refine aD J (id <|jO 10 (0+k*11+10) mm iV) ?_;refine aD J (kc [] sX iV (B_ hpl 10 _ J)) (go 3 ?_);refine cc J call36 J (ih Y (aE.els (gy q t1)) m1 (by have:=hQ.thn;have:=hQ.els;have:=hE1.lo;have:=hE1.hi;show au q.els <= N;omega) (nR hQ.bt).2.2.2.2.2 (by have:=hQ.thn;have:=hQ.els;have:=hE1.lo;have:=hE1.hi;show -1000000000000000+22*(au q.els:Int) <= _;omega) Lg _) ?_;rintro _ _ ⟨⟨cA,m2,rfl,hE2⟩,rfl⟩;refine go 3 ?_;refine aD J (ey (z:=11) k J J J J hkl jw d7) ?_;refine aD J (id <|jO 10 (0+k*11+10) mm iV) ?_;refine aX J (lM (r:=(pr++(ji (gy q t1) cA)::l.drop (k+1)).flatMap encS) [] J J J J J iV J (zP hpl 10 1 V) (DV hpl 10 _ (ji (gy q t1) cA) V J) iB vE ?_);refine go 6 ?_;refine bP J (go 2 ?_);have hQw:=yj (ji (gy q t1) cA);have hwk:=Hb l k hkl;have hbl:=yj l[k];rw [show pr++(ji (gy q t1) cA)::l.drop (k+1)=(pr++[(ji (gy q t1) cA)])++l.drop (k+1) by simp];have hb9:pU (ji (gy q t1) cA)=pU q:=J;have ht9:au (aE.thn (ji (gy q t1) cA))=au t1:=J;have he9:au (aE.els (ji (gy q t1) cA))=au cA:=J;have he8:au (aE.els (gy q t1))=au (aE.els q):=J
   have aj:=hE1.wt;have e2:=hE2.wt;have e3:=hQ.base;have e4:=hQ.thn;have e5:=hQ.els;have e6:=hE1.lo;have e7:=hE2.lo;have e8:=hE1.hi;have e9:=hE2.hi;refine ⟨(k+1,pr++[(ji (gy q t1) cA)],m2,(.slice (some ⟨gr,0,none⟩) l.length cr)),⟨pQ,by simp [hpl],MJ hps ⟨PM hQ.bt hE1.bt hE2.bt,trivial⟩,by dsimp only;rw [B7,au,au];omega,pQ,pQ,λhl=>EZ (hpg hl) ⟨M9 (hQ.gd (FL hl hkl)) hE1.gd hE2.gd,trivial⟩⟩,CY,(ax J)⟩
  refine aG J (bO h3) (go 7 ?_);have hQ:yf l[k] l[k]:=yf.self hlk;refine go 1 ?_;refine aD J (jh) (go 9 ?_);refine aD J (ey (z:=11) k J J J J hkl jw d7) ?_;refine aD J (id <|jO 9 (0+k*11+9) mm iV) ?_;refine aD J (kc [] sX iV (B_ hpl 9 _ J)) (go 3 ?_);refine cc J call36 J (ih Y (aE.thn l[k]) (m-1) xa (nR hQ.bt).2.2.2.2.1 xa xa _) ?_;rintro _ _ ⟨⟨t1,m1,rfl,hE1⟩,rfl⟩;refine go 3 ?_;refine aD J (ey (z:=11) k J J J J hkl jw d7) ?_;refine aD J (id <|jO 9 (0+k*11+9) mm iV) ?_;refine aX J (lM (r:=(pr++(gy l[k] t1)::l.drop (k+1)).flatMap encS) [] J J J J J iV J (zP hpl 9 1 V) (DV hpl 9 _ (gy l[k] t1) V J) iB vE ?_);refine go 8 ?_;refine aD J (ey (z:=11) k J J J J hkl jw d7) ?_;refine aD J (id <|jO 10 (0+k*11+10) mm iV) ?_;refine aD J (kc [] sX iV (B_ hpl 10 _ J)) (go 3 ?_);refine cc J call36 J (ih Y (aE.els (gy l[k] t1)) m1 (by have:=hQ.thn;have:=hQ.els;have:=hE1.lo;have:=hE1.hi;show au l[k].els <= N;omega) (nR hQ.bt).2.2.2.2.2 (by have:=hQ.thn;have:=hQ.els;have:=hE1.lo;have:=hE1.hi;show -1000000000000000+22*(au l[k].els:Int) <= _;omega) Lg _) ?_;rintro _ _ ⟨⟨cA,m2,rfl,hE2⟩,rfl⟩;refine go 3 ?_;refine aD J (ey (z:=11) k J J J J hkl jw d7) ?_;refine aD J (id <|jO 10 (0+k*11+10) mm iV) ?_;refine aX J (lM (r:=(pr++(ji (gy l[k] t1) cA)::l.drop (k+1)).flatMap encS) [] J J J J J iV J (zP hpl 10 1 V) (DV hpl 10 _ (ji (gy l[k] t1) cA) V J) iB vE ?_);refine go 6 ?_;refine bP J (go 2 ?_);have hQw:=yj (ji (gy l[k] t1) cA);have hwk:=Hb l k hkl;have hbl:=yj l[k];rw [show pr++(ji (gy l[k] t1) cA)::l.drop (k+1)=(pr++[(ji (gy l[k] t1) cA)])++l.drop (k+1) by simp];have hb9:pU (ji (gy l[k] t1) cA)=pU l[k]:=J;have ht9:au (aE.thn (ji (gy l[k] t1) cA))=au t1:=J;have he9:au (aE.els (ji (gy l[k] t1) cA))=au cA:=J;have he8:au (aE.els (gy l[k] t1))=au (aE.els l[k]):=J;have aj:=hE1.wt;have e2:=hE2.wt;have e3:=hQ.base;have e4:=hQ.thn;have e5:=hQ.els;have e6:=hE1.lo;have e7:=hE2.lo;have e8:=hE1.hi;have e9:=hE2.hi;refine ⟨(k+1,pr++[(ji (gy l[k] t1) cA)],m2,(.slice (some ⟨gr,0,none⟩) l.length cr)),⟨pQ,by simp [hpl],MJ hps ⟨PM hQ.bt hE1.bt hE2.bt,trivial⟩,by dsimp only;rw [B7,au,au];omega,pQ,pQ,λhl=>EZ (hpg hl) ⟨M9 (hQ.gd (FL hl hkl)) hE1.gd hE2.gd,trivial⟩⟩,CY,(ax J)⟩
 refine aG J (cv h1) (go 10 ?_);obtain rfl:k=l.length:=Y;rw [List.drop_length,eV];refine iX 10 J ?_;refine ct 10 J (t:=.c (aB encS pr)) (by rw [←hpl];exact λ_ _ h=>h) ?_;rw [hG] at hpw hm1;refine go 7 ?_;exact ⟨.inr J,_,⟨bx,rw⟩,iu J (bN J) (bN J),ai (.refl _) (.refl _),⟨pr,m,J,hps,hpw,hm1,hm2,hpg⟩,J⟩
end
section
open Go.RowKit
def K3:∀(N:Nat)(l:List aE)(n how x:Int),N <= 8999999 -> au l <= N -> eO l -> -1000000000000000+22*(au l:Int) <= n -> n <= 1000000000000000 -> ∀s:aJ,aU prog 36 [.c (aB encS l),an n,an how,an x] [] s λt s'=>(∃l' n',t=.fd [.c (aB encS l'),an n'] /\ Hy l n l' n') /\ s'=s
 |0,l,n,how,x,hN,hw,hs,h1,h2,⟨bx,rw⟩=>M1 0 l n how x Y Y pI hs h1 h2 (λh=>absurd (o5 l) Y) bx rw
 |N+1,l,n,how,x,hN,hw,hs,h1,h2,⟨bx,rw⟩=>M1 N l n how x Y hw pI hs h1 h2 (λ_ l2 n2 q1 q2 q3 q4 s=>K3 N l2 n2 how x Y q1 q2 q3 q4 s) bx rw
def Wh{P:Program}{α:Type}{x y:Code}{st:AS}{Q:Exit -> AS -> Prop}(F:α -> AS)(h1:br P x st (lX (λs=>∃a,Sub s (F a)) Q))(h2:∀a,br P y (F a) Q):br P (.seq x y) st Q:=
 zy (sN h1 λe s h=>by
  cases e with
  |normal=>obtain ⟨a,ha⟩:=h;exact rp ha (h2 a)
  |_=>exact h)
def S0{bx:List aV}{rw rw':List aP}(h:rw'.Perm rw):jj ⟨bx,rw⟩ ⟨bx,rw'⟩:=by
 intro w hm;have hp:((⟨bx,rw'⟩:aJ).bl).Perm ((⟨bx,rw⟩:aJ).bl):=Il (List.Perm.refl _) (h.flatMap_right _);have hu:f7 (bj (⟨bx,rw⟩:aJ).bl w) (bj (⟨bx,rw'⟩:aJ).bl w):=up_sub λb hb=>hp.mem_iff.1 hb;exact ⟨⟨hp.nodup_iff.2 hm.nodup,λb hb=>hm.lt b (hp.mem_iff.1 hb),λx hx=>let ⟨us,e,r⟩:=hm.box x hx;⟨us,e,r.mono hu⟩,λx hx=>let ⟨us,e,r⟩:=hm.row x (h.mem_iff.1 hx);⟨us,e,r.mono hu⟩⟩,λb hb=>hp.mem_iff.1 hb⟩
def Uy{n:Nat}{T T':List Nat}{bx:List aV}{rw rw':List aP}{ts ts':List (Nat×AT)}(h:rw'.Perm rw)(hT:∀b,b∈T' -> b∈T)(hs:Sub ⟨n,T',⟨bx,rw'⟩,ts⟩ ⟨n,T',⟨bx,rw'⟩,ts'⟩):Sub ⟨n,T,⟨bx,rw⟩,ts⟩ ⟨n,T',⟨bx,rw'⟩,ts'⟩:=
 (qx (st:=⟨n,T,⟨bx,rw⟩,ts⟩) (S0 h)).trans (bD (h:=hs) hT)
def zh{α:Type}(a b c:α)(l:List α):(a::b::c::l).Perm (a::c::b::l) /\ (a::b::c::l).Perm (b::a::c::l) /\ (a::b::c::l).Perm (b::c::a::l) /\ (a::b::c::l).Perm (c::a::b::l) /\ (a::b::c::l).Perm (c::b::a::l):=by
 have h1:∀(x y z:α),(x::y::z::l).Perm (x::z::y::l):=λx y z=>.cons _ (.swap _ _ _);have h2:∀(x y z:α),(x::y::z::l).Perm (y::x::z::l):=λx y z=>.swap _ _ _;exact ⟨h1 _ _ _,h2 _ _ _,(h2 _ _ _).trans (h1 _ _ _),(h1 _ _ _).trans (h2 _ _ _),((h1 _ _ _).trans (h2 _ _ _)).trans (h1 _ _ _)⟩
def EN{P:Program}{ops:Array Oper}{Z:List Nat}{fuel:Nat}{listed:Array Bool}{n:Nat}{T:List Nat}{bx:List aV}{rw:List aP}{ts:List (Nat×AT)}{K:AS -> Prop}{v:aN}{E:bA}{z k:Nat}{cs:List aO}(i:Nat)(hi:look ts i=some (av v))(h:dr P ops Z fuel listed ⟨n,T,⟨bx,rw⟩,(i,.c (.sl k cs))::ts⟩ K)(hz:0<z:=by decide):dr P ops Z fuel listed ⟨n,T,⟨bx,⟨v,E,z,k,cs⟩::rw⟩,ts⟩ K:=
 Gc (Hc (st:=⟨n,T,⟨bx,⟨v,E,z,k,cs⟩::rw⟩,ts⟩) (A:=[]) i hi rfl hz) h
def xZ(f:bB)(y:ByteArray):bB:=⟨y,f.params,f.body⟩
def nh(f:bB)(l:List bg):bB:=⟨f.name,l,f.body⟩
def wP(f:bB)(l:List aE):bB:=⟨f.name,f.params,l⟩
section
variable {fs:List bB}{k:Nat}{f':bB}
theorem HG(hk:k<fs.length):fs.flatMap aZ=(fs.take k).flatMap aZ++(aZ fs[k]++(fs.drop (k+1)).flatMap aZ) /\ ((fs.take k).flatMap aZ).length=k*3:=by
 refine ⟨?_,?_⟩
 ·conv=>lhs;rw [←pT k fs,ic hk]
  rw [dj,ec]
 rw [dD aZ 3 mH,ke,ss Y]
theorem FG(hk:k<fs.length):fg true 3 (fs.flatMap aZ) (0+k*3)=some (.agg (aZ fs[k])):=by
 obtain ⟨h1,h2⟩:=HG hk;unfold fg;rw [if_pos rfl,h1,cp,tX h2,rY jo,if_pos (by rw [length_append,length_append,h2];show _ <= _+(3+_);omega)]
theorem vT(hk:k<fs.length)(i:Nat)(x:aO)(hx:(aZ fs[k])[i]?=some x):fg false 1 (fs.flatMap aZ) (0+k*3+i)=some (.c x):=by
 obtain ⟨h1,h2⟩:=HG hk;have hi:i<(aZ fs[k]).length:=(m6.1 hx).1;unfold fg;rw [if_neg V,h1,cp,pZ Y,h2,vI,rJ hi,hx];rfl
theorem B2(hk:k<fs.length)(i:Nat)(x:aO)(hi:i<3)(hx:(aZ fs[k]).set i x=aZ f'):splice (fs.flatMap aZ) (0+k*3+i) [x]=(fs.set k f').flatMap aZ:=by
 obtain ⟨h1,h2⟩:=HG hk;have h4:(fs.set k f').flatMap aZ=(fs.take k).flatMap aZ++(aZ f'++(fs.drop (k+1)).flatMap aZ):=by
  rw [G6,if_pos hk,dj,ec]
 have h11:(aZ fs[k]).length=3:=J;rw [h4,h1,←hx];unfold splice;rw [cp,←h2,BW,take_of_length_le Y,vI,Ek Y];simp only [append_assoc];rw [yB,uF dh,cg,show ((fs.take k).flatMap aZ).length+i+[x].length-((fs.take k).flatMap aZ).length=i+1 by simp;omega,EX Y,G6,if_pos Y];simp
theorem Dj(hk:k<fs.length)(i z:Nat)(h:i+z <= 3):0+k*3+i+z <= (fs.flatMap aZ).length:=by
 rw [dD aZ 3 mH];have:(k+1)*3 <= fs.length*3:=Cl _ hk;omega
end
def or(fs:List bB):Nat:=(fs.map bB.wt).sum
def AA:∀(fs:List bB)(k:Nat)(f':bB),or (fs.set k f') <= or fs+f'.wt
 |[],_,_=>aL
 |f::fs,0,f'=>by unfold or;simp only [Di,dE,p_];omega
 |f::fs,k+1,f'=>by have:=AA fs k f';unfold or at this⊢;simp only [yH,dE,p_];omega
def W8(fs:List bB)(f':bB):or (fs++[f'])=or fs+f'.wt:=by unfold or;simp
def A_{α:Type}{Q:α -> Prop}{l:List α}{k:Nat}{a:α}(h:∀x,x∈l -> Q x)(ha:Q a):∀x,x∈l.set k a -> Q x:=λx hx=>by
 rcases Is hx with hx|hx
 ·exact h x hx
 rw [hx];exact ha
def xc{α:Type}{Q:α -> Prop}{l:List α}{a:α}(h:∀x,x∈l -> Q x)(ha:Q a):∀x,x∈l++[a] -> Q x:=λx hx=>by
 rcases mem_append.1 hx with hx|hx
 ·exact h x hx
 rw [jK.1 hx];exact ha
def sq{a b c:Nat}{q:aY}(ha:a=q.globals.length)(hb:b=q.mutexes.length)(hc:c=q.funcs.length):bL (.agg [.sl a (q.globals.flatMap am),.sl b (q.mutexes.flatMap aT),.sl c (q.funcs.flatMap aZ)]) (.agg (dl q)):=by subst ha hb hc;exact λ_ _ h=>h
structure Qn (p q:aY):Prop where
 bt:q.bt
 wt:q.wt <= 24*p.wt+20
 funcs:p.funcs.length <= q.funcs.length
def XK(p:aY)(which a how x:Int)(hs:p.bt)(hw:p.wt <= 300000)(hf:1 <= p.funcs.length)(hx:fit x)(s:aJ):aU prog 15 [.agg (dl p),an which,an a,an how,an x] [] s λt s'=>(∃q:aY,t=.agg (dl q) /\ Qn p q) /\ s'=s:=by
 obtain ⟨bx,rw⟩:=s;have hwp:p.wt=p.globals.length+p.mutexes.length+(p.funcs.map bB.wt).sum:=J;have hfn:=oE bB.wt wa p.funcs;refine bR 137 func15 ?_;refine go 6 λb1 b2=>?_;refine Wh (λg:aN×aN×aN=>(⟨137,(aR g.1++aR g.2.1++aR g.2.2)++[b1,b2],⟨⟨b2,27,[aK,aK,aK]⟩::⟨b1,27,[.val g.1,.val g.2.1,.val g.2.2]⟩::bx,⟨g.1,63,2,p.globals.length,p.globals.flatMap am⟩::⟨g.2.1,60,3,p.mutexes.length,p.mutexes.flatMap aT⟩::⟨g.2.2,67,3,p.funcs.length,p.funcs.flatMap aZ⟩::rw⟩,[(1,an which),(2,an a),(3,an how),(4,an x),(5,aF b1),(10,aF b2)]⟩:AS)) ?_ ?_
 ·refine lR 13 [b2,b1] [b2] #[true,true,true,true,true,true,true,true,true,true,true,true,true,false,false,false,false,false] aQ aQ aQ ?_;refine aa [1,2,5,6,9,10] 7 (go 7 ?_);refine three 0 4 8 aQ J J J J J J ?_ ?_ ?_;focus
   refine (fE lW jX λg3=>?_);refine three 3 4 8 aQ J J J J J J ?_ ?_ ?_;focus
    refine (eU [] Tryz.t63 24 J J V J J lW aQ J J J J V (dD am 2 (λ_=>J) p.globals) cN Y (cp p.globals.length) (λhn b hb=>cx (r:=(⟨(.slice (some ⟨g3,0,none⟩) 0 0),63,2,0,[]⟩:aP)) hn hb) fM (cg _) λw6=>?_);refine aa [12] 4 (go 2 ?_);refine cA 4 8 J ?_ ?_;focus
     refine (fE gN gq λg5=>?_);refine cA 7 8 J ?_ ?_;focus
      refine (eU [] Tryz.t60 32 J J V J J gN aQ J J J J V (dD aT 3 (λ_=>J) p.mutexes) cN Y (cp p.mutexes.length) (λhn b hb=>cx (r:=(⟨(.slice (some ⟨g5,0,none⟩) 0 0),60,3,0,[]⟩:aP)) hn hb) fM (cg _) λw7=>?_);refine aW 8 J J (fE kK dn λg6=>?_)
     rotate_left;refine (fE kK dn λg6=>?_);refine aW 7 J J (eU [_] Tryz.t60 32 J J V J J gN aQ J J J J V (dD aT 3 (λ_=>J) p.mutexes) cN Y (cp p.mutexes.length) (λhn b hb=>cx (r:=(⟨(.slice (some ⟨g5,0,none⟩) 0 0),60,3,0,[]⟩:aP)) hn hb) fM (cg _) λw7=>?_);all_goals
      refine aW 11 J J (eU [] Tryz.t67 64 J J V J J kK aQ J J J J V (dD aZ 3 (λ_=>J) p.funcs) cN Y (cp p.funcs.length) (λhn b hb=>cx (r:=(⟨(.slice (some ⟨g6,0,none⟩) 0 0),67,3,0,[]⟩:aP)) hn hb) fM (cg _) λw8=>?_)
    rotate_left 2;refine (fE kK dn λg5=>?_);refine aW 4 J J (fE gN gq λg6=>?_);refine aW 7 J J (eU [] Tryz.t60 32 J J V J J gN aQ J J J J V (dD aT 3 (λ_=>J) p.mutexes) cN Y (cp p.mutexes.length) (λhn b hb=>cx (r:=(⟨(.slice (some ⟨g6,0,none⟩) 0 0),60,3,0,[]⟩:aP)) hn hb) fM (cg _) λw7=>?_);refine aW 11 J J (eU [_] Tryz.t67 64 J J V J J kK aQ J J J J V (dD aZ 3 (λ_=>J) p.funcs) cN Y (cp p.funcs.length) (λhn b hb=>cx (r:=(⟨(.slice (some ⟨g5,0,none⟩) 0 0),67,3,0,[]⟩:aP)) hn hb) fM (cg _) λw8=>?_)
   rotate_left 3;focus
    refine (fE gN gq λg4=>?_);refine cA 3 8 J ?_ ?_;focus
     refine (eU [_] Tryz.t63 24 J J V J J lW aQ J J J J V (dD am 2 (λ_=>J) p.globals) cN Y (cp p.globals.length) (λhn b hb=>cx (r:=(⟨(.slice (some ⟨g3,0,none⟩) 0 0),63,2,0,[]⟩:aP)) hn hb) fM (cg _) λw6=>?_);refine aa [12] 3 (go 2 ?_);refine cA 7 8 J ?_ ?_;focus
      refine (eU [] Tryz.t60 32 J J V J J gN aQ J J J J V (dD aT 3 (λ_=>J) p.mutexes) cN Y (cp p.mutexes.length) (λhn b hb=>cx (r:=(⟨(.slice (some ⟨g4,0,none⟩) 0 0),60,3,0,[]⟩:aP)) hn hb) fM (cg _) λw7=>?_);refine aW 8 J J (fE kK dn λg5=>?_)
     rotate_left;refine (fE kK dn λg5=>?_);refine aW 7 J J (eU [_] Tryz.t60 32 J J V J J gN aQ J J J J V (dD aT 3 (λ_=>J) p.mutexes) cN Y (cp p.mutexes.length) (λhn b hb=>cx (r:=(⟨(.slice (some ⟨g4,0,none⟩) 0 0),60,3,0,[]⟩:aP)) hn hb) fM (cg _) λw7=>?_)
    rotate_left 2;refine (fE kK dn λg5=>?_);refine aW 3 J J (eU [_,_] Tryz.t63 24 J J V J J lW aQ J J J J V (dD am 2 (λ_=>J) p.globals) cN Y (cp p.globals.length) (λhn b hb=>cx (r:=(⟨(.slice (some ⟨g3,0,none⟩) 0 0),63,2,0,[]⟩:aP)) hn hb) fM (cg _) λw6=>?_);refine aa [12] 2 (go 2 ?_);refine aW 7 J J (eU [_] Tryz.t60 32 J J V J J gN aQ J J J J V (dD aT 3 (λ_=>J) p.mutexes) cN Y (cp p.mutexes.length) (λhn b hb=>cx (r:=(⟨(.slice (some ⟨g4,0,none⟩) 0 0),60,3,0,[]⟩:aP)) hn hb) fM (cg _) λw7=>?_);all_goals
     refine aW 11 J J (eU [] Tryz.t67 64 J J V J J kK aQ J J J J V (dD aZ 3 (λ_=>J) p.funcs) cN Y (cp p.funcs.length) (λhn b hb=>cx (r:=(⟨(.slice (some ⟨g5,0,none⟩) 0 0),67,3,0,[]⟩:aP)) hn hb) fM (cg _) λw8=>?_)
   rotate_left 3;focus
    refine (fE kK dn λg4=>?_);refine cA 3 4 J ?_ ?_;focus
     refine (eU [_] Tryz.t63 24 J J V J J lW aQ J J J J V (dD am 2 (λ_=>J) p.globals) cN Y (cp p.globals.length) (λhn b hb=>cx (r:=(⟨(.slice (some ⟨g3,0,none⟩) 0 0),63,2,0,[]⟩:aP)) hn hb) fM (cg _) λw6=>?_);refine aa [12] 3 (go 2 ?_);refine aW 4 J J (fE gN gq λg5=>?_)
    rotate_left;refine (fE gN gq λg5=>?_);refine aW 3 J J (eU [_,_] Tryz.t63 24 J J V J J lW aQ J J J J V (dD am 2 (λ_=>J) p.globals) cN Y (cp p.globals.length) (λhn b hb=>cx (r:=(⟨(.slice (some ⟨g3,0,none⟩) 0 0),63,2,0,[]⟩:aP)) hn hb) fM (cg _) λw6=>?_);refine aa [12] 2 (go 2 ?_);all_goals
     refine aW 7 J J (eU [] Tryz.t60 32 J J V J J gN aQ J J J J V (dD aT 3 (λ_=>J) p.mutexes) cN Y (cp p.mutexes.length) (λhn b hb=>cx (r:=(⟨(.slice (some ⟨g5,0,none⟩) 0 0),60,3,0,[]⟩:aP)) hn hb) fM (cg _) λw7=>?_);refine aW 11 J J (eU [_] Tryz.t67 64 J J V J J kK aQ J J J J V (dD aZ 3 (λ_=>J) p.funcs) cN Y (cp p.funcs.length) (λhn b hb=>cx (r:=(⟨(.slice (some ⟨g4,0,none⟩) 0 0),67,3,0,[]⟩:aP)) hn hb) fM (cg _) λw8=>?_)
  rotate_left 8;focus
   refine (fE gN gq λg3=>?_);refine cA 0 8 J ?_ ?_;focus
    refine (fE lW jX λg4=>?_);refine cA 3 8 J ?_ ?_;focus
     refine (eU [] Tryz.t63 24 J J V J J lW aQ J J J J V (dD am 2 (λ_=>J) p.globals) cN Y (cp p.globals.length) (λhn b hb=>cx (r:=(⟨(.slice (some ⟨g4,0,none⟩) 0 0),63,2,0,[]⟩:aP)) hn hb) fM (cg _) λw6=>?_);refine aa [12] 3 (go 2 ?_);refine cA 7 8 J ?_ ?_;focus
      refine (eU [_] Tryz.t60 32 J J V J J gN aQ J J J J V (dD aT 3 (λ_=>J) p.mutexes) cN Y (cp p.mutexes.length) (λhn b hb=>cx (r:=(⟨(.slice (some ⟨g3,0,none⟩) 0 0),60,3,0,[]⟩:aP)) hn hb) fM (cg _) λw7=>?_);refine aW 8 J J (fE kK dn λg5=>?_)
     rotate_left;refine (fE kK dn λg5=>?_);refine aW 7 J J (eU [_,_] Tryz.t60 32 J J V J J gN aQ J J J J V (dD aT 3 (λ_=>J) p.mutexes) cN Y (cp p.mutexes.length) (λhn b hb=>cx (r:=(⟨(.slice (some ⟨g3,0,none⟩) 0 0),60,3,0,[]⟩:aP)) hn hb) fM (cg _) λw7=>?_)
    rotate_left 2;refine (fE kK dn λg5=>?_);refine aW 3 J J (eU [_] Tryz.t63 24 J J V J J lW aQ J J J J V (dD am 2 (λ_=>J) p.globals) cN Y (cp p.globals.length) (λhn b hb=>cx (r:=(⟨(.slice (some ⟨g4,0,none⟩) 0 0),63,2,0,[]⟩:aP)) hn hb) fM (cg _) λw6=>?_);refine aa [12] 2 (go 2 ?_);refine aW 7 J J (eU [_,_] Tryz.t60 32 J J V J J gN aQ J J J J V (dD aT 3 (λ_=>J) p.mutexes) cN Y (cp p.mutexes.length) (λhn b hb=>cx (r:=(⟨(.slice (some ⟨g3,0,none⟩) 0 0),60,3,0,[]⟩:aP)) hn hb) fM (cg _) λw7=>?_);all_goals
     refine aW 11 J J (eU [] Tryz.t67 64 J J V J J kK aQ J J J J V (dD aZ 3 (λ_=>J) p.funcs) cN Y (cp p.funcs.length) (λhn b hb=>cx (r:=(⟨(.slice (some ⟨g5,0,none⟩) 0 0),67,3,0,[]⟩:aP)) hn hb) fM (cg _) λw8=>?_)
   rotate_left 3;refine (fE kK dn λg4=>?_);refine aW 0 J J (fE lW jX λg5=>?_);refine aW 3 J J (eU [] Tryz.t63 24 J J V J J lW aQ J J J J V (dD am 2 (λ_=>J) p.globals) cN Y (cp p.globals.length) (λhn b hb=>cx (r:=(⟨(.slice (some ⟨g5,0,none⟩) 0 0),63,2,0,[]⟩:aP)) hn hb) fM (cg _) λw6=>?_);refine aa [12] 2 (go 2 ?_);refine aW 7 J J (eU [_,_] Tryz.t60 32 J J V J J gN aQ J J J J V (dD aT 3 (λ_=>J) p.mutexes) cN Y (cp p.mutexes.length) (λhn b hb=>cx (r:=(⟨(.slice (some ⟨g3,0,none⟩) 0 0),60,3,0,[]⟩:aP)) hn hb) fM (cg _) λw7=>?_);refine aW 11 J J (eU [_] Tryz.t67 64 J J V J J kK aQ J J J J V (dD aZ 3 (λ_=>J) p.funcs) cN Y (cp p.funcs.length) (λhn b hb=>cx (r:=(⟨(.slice (some ⟨g4,0,none⟩) 0 0),67,3,0,[]⟩:aP)) hn hb) fM (cg _) λw8=>?_)
  rotate_left 4;focus
   refine (fE kK dn λg3=>?_);refine cA 0 4 J ?_ ?_;focus
    refine (fE lW jX λg4=>?_);refine cA 3 4 J ?_ ?_;focus
     refine (eU [] Tryz.t63 24 J J V J J lW aQ J J J J V (dD am 2 (λ_=>J) p.globals) cN Y (cp p.globals.length) (λhn b hb=>cx (r:=(⟨(.slice (some ⟨g4,0,none⟩) 0 0),63,2,0,[]⟩:aP)) hn hb) fM (cg _) λw6=>?_);refine aa [12] 3 (go 2 ?_);refine aW 4 J J (fE gN gq λg5=>?_)
    rotate_left;refine (fE gN gq λg5=>?_);refine aW 3 J J (eU [_] Tryz.t63 24 J J V J J lW aQ J J J J V (dD am 2 (λ_=>J) p.globals) cN Y (cp p.globals.length) (λhn b hb=>cx (r:=(⟨(.slice (some ⟨g4,0,none⟩) 0 0),63,2,0,[]⟩:aP)) hn hb) fM (cg _) λw6=>?_);refine aa [12] 2 (go 2 ?_);all_goals
     refine aW 7 J J (eU [] Tryz.t60 32 J J V J J gN aQ J J J J V (dD aT 3 (λ_=>J) p.mutexes) cN Y (cp p.mutexes.length) (λhn b hb=>cx (r:=(⟨(.slice (some ⟨g5,0,none⟩) 0 0),60,3,0,[]⟩:aP)) hn hb) fM (cg _) λw7=>?_)
   rotate_left 2;refine (fE gN gq λg4=>?_);refine aW 0 J J (fE lW jX λg5=>?_);refine aW 3 J J (eU [] Tryz.t63 24 J J V J J lW aQ J J J J V (dD am 2 (λ_=>J) p.globals) cN Y (cp p.globals.length) (λhn b hb=>cx (r:=(⟨(.slice (some ⟨g5,0,none⟩) 0 0),63,2,0,[]⟩:aP)) hn hb) fM (cg _) λw6=>?_);refine aa [12] 2 (go 2 ?_);refine aW 7 J J (eU [_] Tryz.t60 32 J J V J J gN aQ J J J J V (dD aT 3 (λ_=>J) p.mutexes) cN Y (cp p.mutexes.length) (λhn b hb=>cx (r:=(⟨(.slice (some ⟨g4,0,none⟩) 0 0),60,3,0,[]⟩:aP)) hn hb) fM (cg _) λw7=>?_);all_goals
    refine aW 11 J J (eU [_,_] Tryz.t67 64 J J V J J kK aQ J J J J V (dD aZ 3 (λ_=>J) p.funcs) cN Y (cp p.funcs.length) (λhn b hb=>cx (r:=(⟨(.slice (some ⟨g3,0,none⟩) 0 0),67,3,0,[]⟩:aP)) hn hb) fM (cg _) λw8=>?_)
  all_goals
   refine bH ?_;refine id ?_;refine cY [(13,false),(14,true),(15,false),(16,true),(17,false)] 0 (go 6 ?_);refine bH ?_;show ∃g:aN×aN×aN,Sub _ _;exact ⟨(w6,w7,w8),Uy (by first|exact .refl _|exact (zh _ _ _ _).1|exact (zh _ _ _ _).2.1|exact (zh _ _ _ _).2.2.1|exact (zh _ _ _ _).2.2.2.1|exact (zh _ _ _ _).2.2.2.2) (by intro b hb;simp only [mem_append,mem_cons,not_mem_nil,or_false] at hb⊢;rcases hb with ((h|h)|h)|h|h<;>simp [h]) (ax rfl)⟩
 rintro ⟨vG,vM,vF⟩
 try dsimp only
 refine go 5 ?_;refine aD J (lT [_,_] J J J fU) ?_;obtain ⟨j1,hj1,aMk⟩:=mG (a) ((p.funcs.length:Int)) Y;refine cc J lx J (mL (a) ((p.funcs.length:Int)) j1 Y Y hj1 _) ?_;rintro _ _ ⟨rfl,rfl⟩;refine go 6 ?_;have hj1:j1<p.funcs.length:=Y;have hfs:=hs.funcs p.funcs[j1] (getElem_mem hj1);have hfw:=qU bB.wt p.funcs j1 hj1;have hfw2:bB.wt p.funcs[j1]=1+p.funcs[j1].params.length+au p.funcs[j1].body:=J;refine zC [_,_] Y λgF cF hgF=>?_;subst hgF;refine go 1 ?_;obtain ⟨j2,hj2,aPf⟩:=mG (which) (12) Y;refine cc J lx J (mL (which) (12) j2 Y Y hj2 _) ?_;rintro _ _ ⟨rfl,rfl⟩;refine go 5 ?_;by_cases h1:(j2:Int)=0
 ·refine aI J (bU h1) (go 4 ?_);refine cB [b2] (aa [0,2,4] 7 (go 4 ?_));refine cA 1 3 J ?_ ?_;focus
   refine dO J V (cV [_] oe oX) ?_;refine aW 3 J J (da J J V kl J (k9 x _) ?_);rintro _ _ ⟨⟨y3,rfl,hy3,zy3⟩,rfl⟩;refine aa [5] 4 (go 2 ?_);refine aW 6 J J (bV (r:=[(⟨y3,x⟩:b_)].flatMap am) pL ?_)
  rotate_left;focus
   refine (da J J V kl J (k9 x _) ?_);rintro _ _ ⟨⟨y3,rfl,hy3,zy3⟩,rfl⟩;refine aa [5] 5 (go 2 ?_);refine cA 1 6 J ?_ ?_;focus
    refine dO J V (cV [_] oe oX) ?_;refine aW 6 J J (bV (r:=[(⟨y3,x⟩:b_)].flatMap am) pL ?_)
   rotate_left;refine (bV (r:=[(⟨y3,x⟩:b_)].flatMap am) pL ?_);refine aW 1 J J (dO J V (cV [_] oe oX) ?_)
  all_goals
   refine aW 7 J J (dQ [] rC J J V cN Y (@length_append _ p.globals [(⟨y3,x⟩:b_)]).symm (λhn b hb=>cx (r:=(⟨vG,63,2,p.globals.length,p.globals.flatMap am⟩:aP)) hn hb) fM (dj (f:=am)).symm λw3=>?_);refine cY [(8,true),(9,false)] 0 (go 3 ?_);refine bH (go 4 ?_);refine eD [_] 0 J J ?_;refine eD [_] 1 J J ?_;refine eD [_] 2 J J ?_;refine go 1 ?_;refine ct 136 J (t:=.agg (dl (⟨(p.globals++[(⟨y3,x⟩:b_)]),p.mutexes,p.funcs⟩:aY))) (sq (q:=(⟨(p.globals++[(⟨y3,x⟩:b_)]),p.mutexes,p.funcs⟩:aY)) aL aL aL) (go 4 ?_);exact ⟨.inr J,_,⟨bx,rw⟩,bK J (bu [] J J oK oA (cH J J)),ai cq (.refl _),⟨(⟨(p.globals++[(⟨y3,x⟩:b_)]),p.mutexes,p.funcs⟩:aY),J,⟨⟨xc hs.globals ⟨hx,by show y3.size <= _;omega⟩,hs.mutexes,hs.funcs⟩,Gz,tq⟩⟩,J⟩
 refine aG J (bO h1) (go 6 ?_);by_cases h3:(j2:Int)=1
 ·refine aI J (bU h3) (go 4 ?_);refine cB [b2] (aa [0,2,4] 13 (go 4 ?_));refine ac 5 J (xr J J J) ?_;by_cases h5:(wm how 1)=1
  ·refine ac 6 J (fC true J J J (bU h5)) (aa [7] 10 (go 2 ?_));refine ac 8 J (MV J J J) ?_;refine cA 1 3 J ?_ ?_;focus
    refine dO J V (cV [_] j_ j8) ?_;refine aW 3 J J (da J J V kl J (k9 x _) ?_);rintro _ _ ⟨⟨y6,rfl,hy6,zy6⟩,rfl⟩;obtain ⟨j3,hj3,aIc⟩:=mG ((how.fdiv 2)) (67) Y;refine aW 9 J J (da J J V lx J (mL ((how.fdiv 2)) (67) j3 Y Y hj3 _) ?_);rintro _ _ ⟨rfl,rfl⟩;refine ac 10 J (jh) (aa [11] 4 (go 2 ?_));refine aW 12 J J (bV (r:=[(⟨y6,true,((j3:Int)-1)⟩:cn)].flatMap aT) ki ?_)
   rotate_left;focus
    refine (da J J V kl J (k9 x _) ?_);rintro _ _ ⟨⟨y6,rfl,hy6,zy6⟩,rfl⟩;refine cA 1 9 J ?_ ?_;focus
     refine dO J V (cV [_] j_ j8) ?_;obtain ⟨j3,hj3,aIc⟩:=mG ((how.fdiv 2)) (67) Y;refine aW 9 J J (da J J V lx J (mL ((how.fdiv 2)) (67) j3 Y Y hj3 _) ?_);rintro _ _ ⟨rfl,rfl⟩;refine ac 10 J (jh) (aa [11] 4 (go 2 ?_));refine aW 12 J J (bV (r:=[(⟨y6,true,((j3:Int)-1)⟩:cn)].flatMap aT) ki ?_)
    rotate_left;focus
     obtain ⟨j3,hj3,aIc⟩:=mG ((how.fdiv 2)) (67) Y;refine (da J J V lx J (mL ((how.fdiv 2)) (67) j3 Y Y hj3 _) ?_);rintro _ _ ⟨rfl,rfl⟩;refine ac 10 J (jh) (aa [11] 5 (go 2 ?_));refine cA 1 12 J ?_ ?_;focus
      refine dO J V (cV [_] j_ j8) ?_;refine aW 12 J J (bV (r:=[(⟨y6,true,((j3:Int)-1)⟩:cn)].flatMap aT) ki ?_)
     rotate_left;refine (bV (r:=[(⟨y6,true,((j3:Int)-1)⟩:cn)].flatMap aT) ki ?_);refine aW 1 J J (dO J V (cV [_] j_ j8) ?_)
   all_goals
    refine aW 13 J J (dQ [_] uo J J V cN Y (@length_append _ p.mutexes [(⟨y6,true,((j3:Int)-1)⟩:cn)]).symm (λhn b hb=>cx (r:=(⟨vM,60,3,p.mutexes.length,p.mutexes.flatMap aT⟩:aP)) hn hb) fM (dj (f:=aT)).symm λw3=>?_);refine cY [(14,true),(15,false)] 0 (go 3 ?_);refine bH (go 4 ?_);refine eD [_] 0 J J ?_;refine eD [_] 1 J J ?_;refine eD [_] 2 J J ?_;refine go 1 ?_;refine ct 136 J (t:=.agg (dl (⟨p.globals,(p.mutexes++[(⟨y6,true,((j3:Int)-1)⟩:cn)]),p.funcs⟩:aY))) (sq (q:=(⟨p.globals,(p.mutexes++[(⟨y6,true,((j3:Int)-1)⟩:cn)]),p.funcs⟩:aY)) aL aL aL) (go 4 ?_);exact ⟨.inr J,_,⟨bx,rw⟩,bK J (bu [] J J oK oA (cH J J)),ai cq (.refl _),⟨(⟨p.globals,(p.mutexes++[(⟨y6,true,((j3:Int)-1)⟩:cn)]),p.funcs⟩:aY),J,⟨⟨hs.globals,xc hs.mutexes ⟨by unfold fit;dsimp only;omega,by show y6.size <= _;omega⟩,hs.funcs⟩,Gz,tq⟩⟩,J⟩
  refine ac 6 J (fC false J J J (bO h5)) (aa [7] 10 (go 2 ?_));refine ac 8 J (MV J J J) ?_;refine cA 1 3 J ?_ ?_;focus
   refine dO J V (cV [_] j_ j8) ?_;refine aW 3 J J (da J J V kl J (k9 x _) ?_);rintro _ _ ⟨⟨y6,rfl,hy6,zy6⟩,rfl⟩;obtain ⟨j3,hj3,aIc⟩:=mG ((how.fdiv 2)) (67) Y;refine aW 9 J J (da J J V lx J (mL ((how.fdiv 2)) (67) j3 Y Y hj3 _) ?_);rintro _ _ ⟨rfl,rfl⟩;refine ac 10 J (jh) (aa [11] 4 (go 2 ?_));refine aW 12 J J (bV (r:=[(⟨y6,false,((j3:Int)-1)⟩:cn)].flatMap aT) ki ?_)
  rotate_left;focus
   refine (da J J V kl J (k9 x _) ?_);rintro _ _ ⟨⟨y6,rfl,hy6,zy6⟩,rfl⟩;refine cA 1 9 J ?_ ?_;focus
    refine dO J V (cV [_] j_ j8) ?_;obtain ⟨j3,hj3,aIc⟩:=mG ((how.fdiv 2)) (67) Y;refine aW 9 J J (da J J V lx J (mL ((how.fdiv 2)) (67) j3 Y Y hj3 _) ?_);rintro _ _ ⟨rfl,rfl⟩;refine ac 10 J (jh) (aa [11] 4 (go 2 ?_));refine aW 12 J J (bV (r:=[(⟨y6,false,((j3:Int)-1)⟩:cn)].flatMap aT) ki ?_)
   rotate_left;focus
    obtain ⟨j3,hj3,aIc⟩:=mG ((how.fdiv 2)) (67) Y;refine (da J J V lx J (mL ((how.fdiv 2)) (67) j3 Y Y hj3 _) ?_);rintro _ _ ⟨rfl,rfl⟩;refine ac 10 J (jh) (aa [11] 5 (go 2 ?_));refine cA 1 12 J ?_ ?_;focus
     refine dO J V (cV [_] j_ j8) ?_;refine aW 12 J J (bV (r:=[(⟨y6,false,((j3:Int)-1)⟩:cn)].flatMap aT) ki ?_)
    rotate_left;refine (bV (r:=[(⟨y6,false,((j3:Int)-1)⟩:cn)].flatMap aT) ki ?_);refine aW 1 J J (dO J V (cV [_] j_ j8) ?_)
  all_goals
   refine aW 13 J J (dQ [_] uo J J V cN Y (@length_append _ p.mutexes [(⟨y6,false,((j3:Int)-1)⟩:cn)]).symm (λhn b hb=>cx (r:=(⟨vM,60,3,p.mutexes.length,p.mutexes.flatMap aT⟩:aP)) hn hb) fM (dj (f:=aT)).symm λw3=>?_);refine cY [(14,true),(15,false)] 0 (go 3 ?_);refine bH (go 4 ?_);refine eD [_] 0 J J ?_;refine eD [_] 1 J J ?_;refine eD [_] 2 J J ?_;refine go 1 ?_;refine ct 136 J (t:=.agg (dl (⟨p.globals,(p.mutexes++[(⟨y6,false,((j3:Int)-1)⟩:cn)]),p.funcs⟩:aY))) (sq (q:=(⟨p.globals,(p.mutexes++[(⟨y6,false,((j3:Int)-1)⟩:cn)]),p.funcs⟩:aY)) aL aL aL) (go 4 ?_);exact ⟨.inr J,_,⟨bx,rw⟩,bK J (bu [] J J oK oA (cH J J)),ai cq (.refl _),⟨(⟨p.globals,(p.mutexes++[(⟨y6,false,((j3:Int)-1)⟩:cn)]),p.funcs⟩:aY),J,⟨⟨hs.globals,xc hs.mutexes ⟨by unfold fit;dsimp only;omega,by show y6.size <= _;omega⟩,hs.funcs⟩,Gz,tq⟩⟩,J⟩
 refine aG J (bO h3) (go 6 ?_);by_cases h5:(j2:Int)=2
 ·refine aI J (bU h5) (go 4 ?_);refine cB [b2,b1] (aa [0,1,2,3] 4 (go 5 ?_));refine aW 4 J J (da J J V kl J (k9 x _) ?_);rintro _ _ ⟨⟨y7,rfl,hy7,zy7⟩,rfl⟩;refine ac 5 J (ey (z:=3) j1 J J J J hj1 fU dn) ?_;refine ac 6 J (id <|jO 0 (0+j1*3+0) nE iK) ?_;refine aW 7 J J (lM (r:=(p.funcs.set j1 (xZ p.funcs[j1] y7)).flatMap aZ) [_,_] J J J J J iK J (Dj hj1 0 1 V) (B2 hj1 0 _ V J) iB AV ?_);refine bH (go 4 ?_);refine eD [_] 0 J J ?_;refine eD [_] 1 J J ?_;refine eD [_] 2 J J ?_;refine go 1 ?_;refine ct 136 J (t:=.agg (dl (⟨p.globals,p.mutexes,(p.funcs.set j1 (xZ p.funcs[j1] y7))⟩:aY))) (sq (q:=(⟨p.globals,p.mutexes,(p.funcs.set j1 (xZ p.funcs[j1] y7))⟩:aY)) aL aL aL) (go 4 ?_);exact ⟨.inr J,_,⟨bx,rw⟩,bK J (bu [] J J oK oA (cH J J)),ai cq (.refl _),⟨(⟨p.globals,p.mutexes,(p.funcs.set j1 (xZ p.funcs[j1] y7))⟩:aY),J,⟨⟨hs.globals,hs.mutexes,A_ hs.funcs ⟨by show y7.size <= _;omega,hfs.2.1,hfs.2.2⟩⟩,by unfold aY.wt;dsimp only;have h8:=AA p.funcs j1 (xZ p.funcs[j1] y7);have h9:bB.wt (xZ p.funcs[j1] y7)=bB.wt p.funcs[j1]:=rfl;unfold or at h8;omega,tq⟩⟩,J⟩
 refine aG J (bO h5) (go 6 ?_);by_cases h7:(j2:Int)=3
 ·refine aI J (bU h7) (go 4 ?_);refine cB [b2,b1] (aa [0,1,2,4,5,6] 16 (go 7 ?_));refine ac 7 J (ey (z:=3) j1 J J J J hj1 fU dn) ?_;refine ac 8 J (id <|jO 1 (0+j1*3+1) nE mN) (aa [11,13] 12 (go 3 ?_));refine ac 14 J (xr J J J) ?_;by_cases h9:(wm how 1)=1
  ·refine ac 15 J (fC true J J J (bU h9)) ?_;refine cA 3 9 J ?_ ?_;focus
    refine (fE qO gj λg3=>?_);refine aW 9 J J (dO J V (kc [_,_,_] tQ mN (vT hj1 1 _ J)) ?_)
   rotate_left;refine dO J V (kc [_,_] tQ mN (vT hj1 1 _ J)) ?_;refine aW 3 J J (fE qO gj λg3=>?_);all_goals
    refine aW 10 J J (eU [] Tryz.t69 24 J J V J J qO aQ J J J J V (dD cC 2 (λ_=>J) p.funcs[j1].params) cN Y (cp p.funcs[j1].params.length) (λhn b hb=>cx (r:=(⟨(.slice (some ⟨g3,0,none⟩) 0 0),69,2,0,[]⟩:aP)) hn hb) fM (cg _) λw4=>?_);refine aW 12 J J (da J J V kl J (k9 x _) ?_);rintro _ _ ⟨⟨CT,rfl,aIw,aIx⟩,rfl⟩;refine aa [16] 5 (go 2 ?_);refine aW 17 J J (bV (r:=[(⟨CT,true⟩:bg)].flatMap cC) yg ?_);refine aW 18 J J (dQ [] Fc J J V cN Y (@length_append _ p.funcs[j1].params [(⟨CT,true⟩:bg)]).symm (λhn b hb=>cx (r:=(⟨w4,69,2,p.funcs[j1].params.length,p.funcs[j1].params.flatMap cC⟩:aP)) hn hb) fM (dj (f:=cC)).symm λw5=>?_);refine EN 121 J ?_;refine ac 19 J (ey (z:=3) j1 J J J J hj1 fU dn) ?_;refine ac 20 J (id <|jO 1 (0+j1*3+1) nE mN) ?_;refine aW 21 J J (lM (r:=(p.funcs.set j1 (nh p.funcs[j1] (p.funcs[j1].params++[(⟨CT,true⟩:bg)]))).flatMap aZ) [_,_] J J J J J mN J (Dj hj1 1 1 V) (B2 hj1 1 _ V J) iB AV ?_);refine bH (go 4 ?_);refine eD [_] 0 J J ?_;refine eD [_] 1 J J ?_;refine eD [_] 2 J J ?_;refine go 1 ?_;refine ct 136 J (t:=.agg (dl (⟨p.globals,p.mutexes,(p.funcs.set j1 (nh p.funcs[j1] (p.funcs[j1].params++[(⟨CT,true⟩:bg)])))⟩:aY))) (sq (q:=(⟨p.globals,p.mutexes,(p.funcs.set j1 (nh p.funcs[j1] (p.funcs[j1].params++[(⟨CT,true⟩:bg)])))⟩:aY)) aL aL aL) (go 4 ?_);exact ⟨.inr J,_,⟨bx,rw⟩,bK J (bu [] J J oK oA (cH J J)),ai cq (.refl _),⟨(⟨p.globals,p.mutexes,(p.funcs.set j1 (nh p.funcs[j1] (p.funcs[j1].params++[(⟨CT,true⟩:bg)])))⟩:aY),J,⟨⟨hs.globals,hs.mutexes,A_ hs.funcs ⟨hfs.1,xc hfs.2.1 (by show CT.size <= _;omega),hfs.2.2⟩⟩,by unfold aY.wt;dsimp only;have h8:=AA p.funcs j1 (nh p.funcs[j1] (p.funcs[j1].params++[(⟨CT,true⟩:bg)]));have h9:bB.wt (nh p.funcs[j1] (p.funcs[j1].params++[(⟨CT,true⟩:bg)]))=bB.wt p.funcs[j1]+1:=J4;unfold or at h8;omega,tq⟩⟩,J⟩
  refine ac 15 J (fC false J J J (bO h9)) ?_;refine cA 3 9 J ?_ ?_;focus
   refine (fE qO gj λg3=>?_);refine aW 9 J J (dO J V (kc [_,_,_] tQ mN (vT hj1 1 _ J)) ?_)
  rotate_left;refine dO J V (kc [_,_] tQ mN (vT hj1 1 _ J)) ?_;refine aW 3 J J (fE qO gj λg3=>?_);all_goals
   refine aW 10 J J (eU [] Tryz.t69 24 J J V J J qO aQ J J J J V (dD cC 2 (λ_=>J) p.funcs[j1].params) cN Y (cp p.funcs[j1].params.length) (λhn b hb=>cx (r:=(⟨(.slice (some ⟨g3,0,none⟩) 0 0),69,2,0,[]⟩:aP)) hn hb) fM (cg _) λw4=>?_);refine aW 12 J J (da J J V kl J (k9 x _) ?_);rintro _ _ ⟨⟨CT,rfl,aIw,aIx⟩,rfl⟩;refine aa [16] 5 (go 2 ?_);refine aW 17 J J (bV (r:=[(⟨CT,false⟩:bg)].flatMap cC) yg ?_);refine aW 18 J J (dQ [] Fc J J V cN Y (@length_append _ p.funcs[j1].params [(⟨CT,false⟩:bg)]).symm (λhn b hb=>cx (r:=(⟨w4,69,2,p.funcs[j1].params.length,p.funcs[j1].params.flatMap cC⟩:aP)) hn hb) fM (dj (f:=cC)).symm λw5=>?_);refine EN 121 J ?_;refine ac 19 J (ey (z:=3) j1 J J J J hj1 fU dn) ?_;refine ac 20 J (id <|jO 1 (0+j1*3+1) nE mN) ?_;refine aW 21 J J (lM (r:=(p.funcs.set j1 (nh p.funcs[j1] (p.funcs[j1].params++[(⟨CT,false⟩:bg)]))).flatMap aZ) [_,_] J J J J J mN J (Dj hj1 1 1 V) (B2 hj1 1 _ V J) iB AV ?_);refine bH (go 4 ?_);refine eD [_] 0 J J ?_;refine eD [_] 1 J J ?_;refine eD [_] 2 J J ?_;refine go 1 ?_;refine ct 136 J (t:=.agg (dl (⟨p.globals,p.mutexes,(p.funcs.set j1 (nh p.funcs[j1] (p.funcs[j1].params++[(⟨CT,false⟩:bg)])))⟩:aY))) (sq (q:=(⟨p.globals,p.mutexes,(p.funcs.set j1 (nh p.funcs[j1] (p.funcs[j1].params++[(⟨CT,false⟩:bg)])))⟩:aY)) aL aL aL) (go 4 ?_);exact ⟨.inr J,_,⟨bx,rw⟩,bK J (bu [] J J oK oA (cH J J)),ai cq (.refl _),⟨(⟨p.globals,p.mutexes,(p.funcs.set j1 (nh p.funcs[j1] (p.funcs[j1].params++[(⟨CT,false⟩:bg)])))⟩:aY),J,⟨⟨hs.globals,hs.mutexes,A_ hs.funcs ⟨hfs.1,xc hfs.2.1 (by show CT.size <= _;omega),hfs.2.2⟩⟩,by unfold aY.wt;dsimp only;have h8:=AA p.funcs j1 (nh p.funcs[j1] (p.funcs[j1].params++[(⟨CT,false⟩:bg)]));have h9:bB.wt (nh p.funcs[j1] (p.funcs[j1].params++[(⟨CT,false⟩:bg)]))=bB.wt p.funcs[j1]+1:=J4;unfold or at h8;omega,tq⟩⟩,J⟩
 refine aG J (bO h7) (go 6 ?_);by_cases h9:(j2:Int)=4
 ·refine aI J (bU h9) (go 4 ?_);refine cB [b2] (aa [0,2,4] 8 (go 4 ?_));refine cA 1 3 J ?_ ?_;focus
   refine dO J V (cV [_] mo m7) ?_;refine aW 3 J J (dO J V (cV [_] mo m7) ?_);refine ac 5 J (ey (z:=3) j1 J J J J hj1 fU dn) ?_;refine aW 6 J J (dO J V (kc [_,_] oP dn (FG hj1)) ?_);refine aW 7 J J (bV (r:=[p.funcs[j1]].flatMap aZ) uK ?_)
  rotate_left;focus
   refine dO J V (cV [_] mo m7) ?_;refine ac 5 J (ey (z:=3) j1 J J J J hj1 fU dn) ?_;refine cA 1 6 J ?_ ?_;focus
    refine dO J V (cV [_] mo m7) ?_;refine aW 6 J J (dO J V (kc [_,_] oP dn (FG hj1)) ?_);refine aW 7 J J (bV (r:=[p.funcs[j1]].flatMap aZ) uK ?_)
   rotate_left;focus
    refine dO J V (kc [_,_] oP dn (FG hj1)) ?_;refine cA 1 7 J ?_ ?_;focus
     refine dO J V (cV [_] mo m7) ?_;refine aW 7 J J (bV (r:=[p.funcs[j1]].flatMap aZ) uK ?_)
    rotate_left;refine (bV (r:=[p.funcs[j1]].flatMap aZ) uK ?_);refine aW 1 J J (dO J V (cV [_] mo m7) ?_)
  all_goals
   refine aW 8 J J (dQ [_,_] IW J J V cN Y (@length_append _ p.funcs [p.funcs[j1]]).symm (λhn b hb=>cx (r:=(⟨(.slice (some ⟨gF,0,none⟩) p.funcs.length cF),67,3,p.funcs.length,p.funcs.flatMap aZ⟩:aP)) hn hb) fM (dj (f:=aZ)).symm λw3=>?_);refine cY [(9,true),(10,false)] 0 (go 3 ?_);refine bH (go 4 ?_);refine eD [_] 0 J J ?_;refine eD [_] 1 J J ?_;refine eD [_] 2 J J ?_;refine go 1 ?_;refine ct 136 J (t:=.agg (dl (⟨p.globals,p.mutexes,(p.funcs++[p.funcs[j1]])⟩:aY))) (sq (q:=(⟨p.globals,p.mutexes,(p.funcs++[p.funcs[j1]])⟩:aY)) aL aL aL) (go 4 ?_);exact ⟨.inr J,_,⟨bx,rw⟩,bK J (bu [] J J oK oA (cH J J)),ai cq (.refl _),⟨(⟨p.globals,p.mutexes,(p.funcs++[p.funcs[j1]])⟩:aY),J,⟨⟨hs.globals,hs.mutexes,xc hs.funcs hfs⟩,by unfold aY.wt;dsimp only;have h8:=W8 p.funcs p.funcs[j1];unfold or at h8;omega,by rw [length_append];omega⟩⟩,J⟩
 refine aG J (bO h9) (go 9 ?_);refine aD J (ey (z:=3) j1 J J J J hj1 fU dn) ?_;refine aD J (id <|jO 2 (0+j1*3+2) nE iV) ?_;refine aD J (kc [_,_] sX iV (vT hj1 2 _ J)) ?_;have hcw:=Bj p.funcs[j1].body;refine cc J call35 J (GO (ej p.funcs[j1].body) p.funcs[j1].body (bX _) Y _) ?_;rintro _ _ ⟨rfl,rfl⟩;refine aD J (H8 _ J J J J) (go 3 ?_);refine cB [b2,b1] (aa [0,1,2,3,4,5] 16 (go 7 ?_));refine ac 6 J (ey (z:=3) j1 J J J J hj1 fU dn) ?_;refine ac 7 J (id <|jO 2 (0+j1*3+2) nE iV) (aa [9] 13 (go 2 ?_));refine ac 10 J (B6 J J J) (aa [11,13,14] 9 (go 4 ?_));refine cA 8 12 J ?_ ?_;focus
  refine dO J V (kc [_,_] sX iV (vT hj1 2 _ J)) ?_;obtain ⟨j4,hj4,aQ2⟩:=mG ((a.fdiv 16)) ((max 1 ((ej p.funcs[j1].body:Nat):Int))) Y;refine aW 12 J J (da J J V lx J (mL ((a.fdiv 16)) ((max 1 ((ej p.funcs[j1].body:Nat):Int))) j4 Y Y hj4 _) ?_);rintro _ _ ⟨rfl,rfl⟩
 rotate_left;obtain ⟨j4,hj4,aQ2⟩:=mG ((a.fdiv 16)) ((max 1 ((ej p.funcs[j1].body:Nat):Int))) Y;refine (da J J V lx J (mL ((a.fdiv 16)) ((max 1 ((ej p.funcs[j1].body:Nat):Int))) j4 Y Y hj4 _) ?_);rintro _ _ ⟨rfl,rfl⟩;refine aW 8 J J (dO J V (kc [_,_] sX iV (vT hj1 2 _ J)) ?_);all_goals
  refine aW 15 J J (da J J V call36 J (K3 (au p.funcs[j1].body) p.funcs[j1].body (j4:Int) how x Y (bX _) hfs.2.2 Y Y _) ?_);rintro _ _ ⟨⟨t1,m1,rfl,hE1⟩,rfl⟩;refine aa [16,17,18] 3 (go 4 ?_);refine ac 19 J (ey (z:=3) j1 J J J J hj1 fU dn) ?_;refine ac 20 J (id <|jO 2 (0+j1*3+2) nE iV) ?_;refine aW 21 J J (lM (r:=(p.funcs.set j1 (wP p.funcs[j1] t1)).flatMap aZ) [_,_] J J J J J iV J (Dj hj1 2 1 V) (B2 hj1 2 _ V J) iB AV ?_);refine bH (go 4 ?_);refine eD [_] 0 J J ?_;refine eD [_] 1 J J ?_;refine eD [_] 2 J J ?_;refine go 1 ?_;refine ct 136 J (t:=.agg (dl (⟨p.globals,p.mutexes,(p.funcs.set j1 (wP p.funcs[j1] t1))⟩:aY))) (sq (q:=(⟨p.globals,p.mutexes,(p.funcs.set j1 (wP p.funcs[j1] t1))⟩:aY)) aL aL aL) (go 4 ?_);exact ⟨.inr J,_,⟨bx,rw⟩,bK J (bu [] J J oK oA (cH J J)),ai cq (.refl _),⟨(⟨p.globals,p.mutexes,(p.funcs.set j1 (wP p.funcs[j1] t1))⟩:aY),J,⟨⟨hs.globals,hs.mutexes,A_ hs.funcs ⟨hfs.1,hfs.2.1,hE1.bt⟩⟩,by unfold aY.wt;dsimp only;have h8:=AA p.funcs j1 (wP p.funcs[j1] t1);have h9:bB.wt (wP p.funcs[j1] t1)=1+p.funcs[j1].params.length+au t1:=rfl;have:=hE1.wt;unfold or at h8;omega,tq⟩⟩,J⟩
end
section
open Go.RowKit
def EB(p:aY)(f:Int)(hs:p.bt)(hw:p.wt <= 9000000)(bx:List aV)(rw:List aP):aU prog 21 [.agg (dl p),an f] [] ⟨bx,rw⟩ λt s'=>t=.c (.sl (kW p f).length ((kW p f).map λx=>aA x)) /\ s'=⟨bx,rw⟩:=by
 have hall:=zJ p;have hwq:=hw;unfold aY.wt at hwq;have hfl:=oE bB.wt wL p.funcs;refine bR 54 func21 ?_;refine go 10 λb1=>?_;refine cc J call18 J (RG p hs hw _ _) ?_;rintro _ _ ⟨rfl,rfl⟩;obtain ⟨f0,s0,be,hc⟩:∃f0 s0 be,gY p=(f0,s0,be):=⟨_,_,_,rfl⟩;rw [hc];dsimp only;refine go 15 λb2=>?_;by_cases h1:(be:Int)=0
 ·refine aG J (fF h1) (go 2 ?_);by_cases h2:f<0
  ·refine aI J (c_ h2) (go 18 ?_);exact ⟨.inr J,_,⟨bx,rw⟩,bK J (gP (bL.c pu) (bN J)),ai cq (.refl _),by rw [E7 Y];rfl,J⟩
  refine aG J (cv h2) (go 6 ?_);by_cases h4:(p.funcs.length:Int) <= f
  ·refine aI J (nB h4) (go 11 ?_);exact ⟨.inr J,_,⟨bx,rw⟩,bK J (gP (bL.c pu) (bN J)),ai cq (.refl _),by rw [GR Y];rfl,J⟩
  refine aG J (oQ h4) (go 9 ?_);refine aX J (rr [] J J V call39 J (Ph p Y _ _) dJ dJ (λ_=>dJ) ?_);rintro _ _ ⟨v0,bad,rfl,hbad,rfl⟩;refine ⟨aR v0,λhn b hb=>⟨Cf,λh9=>absurd h9 LR⟩,?_⟩;refine go 8 ?_;refine cB [b2,b1] ?_;refine EN 9 J ?_;obtain ⟨rfl,rfl⟩:=Cy hc Y;obtain rfl:be=0:=Y;obtain ⟨kk,rfl⟩:∃kk:Nat,f=(kk:Int):=⟨f.toNat,Y⟩;have hkk:kk<p.funcs.length:=Y;have hfw:bB.wt p.funcs[kk] <= 20000000:=QF;refine aa [0,1,2,3,4] 13 (go 6 ?_);refine ac 5 J (bf aZ aZ p.funcs mH (λ_=>J) kk J J J J hkk V fU dn) (aa [6] 11 (go 2 ?_));refine cA 7 13 J ?_ ?_;focus
   refine (da J J V call41 J (Av p p.funcs[kk] (uA p) Y hfw _ _) ?_);rintro _ _ ⟨rfl,rfl⟩;refine cY [(8,true),(9,true),(10,true),(11,true),(12,true),(13,false),(14,false),(15,true),(16,true),(17,true)] 0 (go 11 λb3=>?_)
  rotate_left;refine (jm J J V AZ J λb4=>?_);refine aW 7 J J (da J J V call41 J (Av p p.funcs[kk] (uA p) Y hfw _ _) ?_);rintro _ _ ⟨rfl,rfl⟩;refine cY [(8,true),(9,true),(10,true),(11,true),(12,true),(14,false),(15,true),(16,true),(17,true)] 0 (go 10 ?_);all_goals
   refine bH (go 8 ?_);exact ⟨.inr J,_,⟨bx,rw⟩,bK J (bN J),ai eZ (.refl _),by rw [HJ hc hkk],J⟩
 refine aI J (fl h1) (go 21 ?_);exact ⟨.inr J,_,⟨bx,rw⟩,bK J (gP (bL.c pu) (bN J)),ai cq (.refl _),by rw [IG hc Y];rfl,J⟩
end
section
def fH.ve{names:List aH}{d:Nat}{e:aS}(hn:∀x,x∈names -> cG x=true)(h:fH names d e):nI e:=by
 induction h with
 |@name d x h=>exact .name x (hn x h)
 |@num d n h0 h1=>
  obtain ⟨k,rfl⟩:∃k:Nat,n=k:=⟨n.toNat,Y⟩;exact .num k Y
 |@un d op e ho he ih=>exact .un op e ho ih
 |@bin d op a b h0 h1 ha hb iha ihb=>exact .bin op a b ⟨h0,h1⟩ iha ihb
end
section
def Xy:∀(e:aS),nI e -> (eh e).length <= 3*e.nodes-2:=by
 intro e h;induction h with
 |num n h=>rw [Nf,aS.nodes,d2];simp
 |name s h=>rw [JG,aS.nodes,d2];simp
 |un op x h hx ih=>
  have h1:∀b t,(tR b t).length <= t.length+2:=λb t=>by unfold tR;split<;>simp
  rw [Kb h,aS.nodes,d2,d2,length_cons];have:=h1 (kA op 0 x.op) (eh x);omega
 |bin op x y h hx hy ihx ihy=>
  have h1:∀b t,(tR b t).length <= t.length+2:=λb t=>by unfold tR;split<;>simp
  rw [Js h,aS.nodes,d2,d2,d2,length_append,length_cons];have:=h1 (kA op 0 x.op) (eh x);have:=h1 (kA op 1 y.op) (eh y);omega
def fH.toks{names:List aH}{d:Nat}{e:aS}(hn:∀x,x∈names -> cG x=true)(h:fH names d e)(hd:d <= 2):(eh e).length <= 37:=by
 have h1:=Xy e (h.ve hn);have h2:=(h.mono hd).nodes;omega
section
variable {ms:List cn}{fs:List iR}{ps:List bg}
theorem ma.toks{vars:List aH}{r:cL}(hv:q9 vars)(h:ma ms ps vars r):(tt r).length <= 40:=by
 cases h with
 |arr hm hs he=>have:=he.toks hv Y;simp only [tt,length_cons,length_append,length_nil];omega
 |scalar hm hs=>simp [tt]
 |param hx hm=>simp [tt]
theorem QD{α:Type}(f:α -> List eP)(c:Nat):∀l:List α,(∀x,x∈l -> (f x).length <= c) -> (tZ f l).length <= (c+1)*l.length
 |[],_=>by simp [tZ]
 |[x],h=>by have:=h x aL;simp [tZ];omega
 |x::y::r,h=>by
  have h1:=QD f c (y::r) (λz hz=>h z (by simp [hz]));have h2:=h x aL;rw [UK,length_append,length_cons];simp only [length_cons,Nat.mul_add,rZ] at h1⊢;omega
theorem mr.toks{vars:List aH}{l:List bg}{al:List cI}(hv:q9 vars)(h:mr ms ps vars l al):al.length=l.length /\ ∀x,x∈al -> (wx x).length <= 41:=by
 induction h with
 |nil=>exact ⟨rfl,λx hx=>by cases hx⟩
 |mutex hx hr h ih=>
  refine ⟨by simp [ih.1],λx hx=>?_⟩;rcases mem_cons.1 hx with rfl|hx
  ·have:=hr.toks hv;simp only [wx,if_true,length_cons];omega
  ·exact ih.2 x hx
 |expr hx he h ih=>
  refine ⟨by simp [ih.1],λx hx=>?_⟩;rcases mem_cons.1 hx with rfl|hx
  ·have:=he.toks hv Y;simp only [wx,mz,if_false];omega
  exact ih.2 x hx
theorem U3(a b:List aE):jb (a++b)=jb a++jb b:=by
 induction a with
 |nil=>rw [cg,jb,cg]
 |cons s r ih=>rw [eA,jb,jb,ih,append_assoc]
theorem fB.toks{vars:List aH}{deep left left':Nat}{l:List aE}(hg:∀g,g∈fs -> cG g.1=true /\ g.2.length <= 2)(h:fB ms fs ps vars deep left l left'):
  q9 vars -> left <= 24 -> (jb l).length <= 100*(left-left'):=by
 induction h with
 |nil=>intro _ _;rw [jb];simp
 |lock hr h ih=>
  intro hv hl;have:=h.le;have:=ih hv Y;have:=hr.toks hv;rw [jb,nJ];simp;omega
 |unlock hr h ih=>
  intro hv hl;have:=h.le;have:=ih hv Y;have:=hr.toks hv;rw [jb,nJ];simp;omega
 |@var vars deep left left' e rest he h ih=>
  intro hv hl;have:=h.le;have:=ih (λx hx=>by
   rcases mem_append.1 hx with hx|hx
   ·exact hv x hx
   simp only [jK] at hx;subst hx;exact JU left Y) Y
  have:=he.toks hv Y;rw [jb,nJ];simp;omega
 |assign hx he h ih=>
  intro hv hl;have:=h.le;have:=ih hv Y;have:=he.toks hv Y;rw [jb,nJ];simp;omega
 |@call vars deep left left' k g al rest hk hgm ha h ih=>
  intro hv hl;have:=h.le;have:=ih hv Y;obtain ⟨h1,h2⟩:=ha.toks hv;have h3:=QD wx 41 al h2;have h4:=(hg g hgm).2;rw [jb,nJ];rcases hk with rfl|rfl<;>simp [Ht]<;>omega
 |cond he h1 h2 h3 i1 i2 i3=>
  intro hv hl;have:=h1.le;have:=h2.le;have:=h3.le;have:=i1 hv Y;have:=i2 hv Y;have:=i3 hv Y;have:=he.toks hv Y;rw [jb,nJ];simp only [length_append];rw [if_neg V,if_neg V,if_neg V,if_neg V,if_neg V,if_neg V,if_pos V];simp only [length_append,length_cons,length_nil];split<;>(try simp only [length_append,length_cons,length_nil])<;>omega
 |loop he h1 h3 i1 i3=>
  intro hv hl;have:=h1.le;have:=h3.le;have:=i1 hv Y;have:=i3 hv Y;have:=he.toks hv Y;rw [jb,nJ];simp;omega
 |ret h ih=>
  intro hv hl;have:=h.le;have:=ih hv Y;rw [jb,nJ];simp;omega
 |pair hr h1 h3 i1 i3=>
  intro hv hl;have:=h1.le;have:=h3.le;have:=i1 hv Y;have:=i3 hv Y;have:=hr.toks hv;rw [jb,U3,jb,nJ,nJ];simp;omega
theorem py.toks{gs:List b_}{left:Nat}{l:List bB}(hg:∀g,g∈fs -> cG g.1=true /\ g.2.length <= 2)(hgl:∀g,g∈gs -> cG g.name=true)(h:py ms fs gs left l):left <= 24 -> (∀f,f∈l -> ∀x,x∈f.params -> cG x.name=true) ->
  (l.map λf=>(jb f.body).length).sum <= 100*left:=by
 induction h with
 |nil=>intro _ _;simp
 |@cons left left' f l hb hl ih=>
  intro hle hps;have h1:=hb.le;have hv:q9 (yE gs f.params):=by
   intro x hx;simp only [yE,mem_append,lP,List.mem_filter] at hx;rcases hx with ⟨g,hg,rfl⟩|⟨y,⟨hy,_⟩,rfl⟩
   ·exact hgl g hg
   exact hps f aL y hy
  have h2:=hb.toks hg hv hle;have h3:=ih Y (λf hf=>hps f (by simp [hf]));simp only [dE,p_];omega
end
end
section
def X5:∀i,i<25 -> ∀j,j<25 -> kQ i=kQ j -> i=j:=V
def SD(i j:Nat)(hi:i<25)(hj:j<25)(h:kQ i=kQ j):i=j:=X5 i hi j hj h
section
open Classical
structure wC (ms:List cn) (sg:List iR) (ps:List bg) (fs:dT) (vars:List ByteArray) (left:Nat) (v:bq):Prop where
 kn:dW v
 vars:∀x,x∈vars -> bz v x=1
 ms:∀m,m∈ms -> bz v m.name=qQ m
 ps:∀x,x∈ps -> x.mutex=true -> bz v x.name=4
 sg:∀g,g∈sg -> bz v g.1=5 /\ ∃f,dX fs g.1=some f /\ f.params=g.2
 free:∀j,j<left -> bz v (kQ j)=0
section
variable {ms:List cn}{sg:List iR}{ps:List bg}{fs:dT}{vars:List ByteArray}{left:Nat}{v:bq}
theorem wC.of{v':bq}{left':Nat}(h:wC ms sg ps fs vars left v)(hk:dW v')(hl:left' <= left)(ow:List aH)(hv:∀s,bz v' s=if s∈ow then 1 else bz v s)(ho:∀s,s∈ow -> ∃j,left' <= j /\ j<left /\ s=kQ j)(wd:left <= 25):wC ms sg ps fs vars left' v':=by
 have no:∀s,bz v s≠0 -> bz v' s=bz v s:=λs hs=>by
  rw [hv];split
  ·rename_i hm;obtain ⟨j,-,h2,rfl⟩:=ho s hm;exact absurd (h.free j h2) hs
  rfl
 refine ⟨hk,λx hx=>?_,λm hm=>?_,λx hx hm=>?_,λg hg=>?_,λj hj=>?_⟩
 ·rw [no x (by rw [h.vars x hx];decide)];exact h.vars x hx
 ·rw [no _ (by rw [h.ms m hm];unfold qQ;split<;>decide)];exact h.ms m hm
 ·rw [no _ (by rw [h.ps x hx hm];decide)];exact h.ps x hx hm
 ·rw [no _ (by rw [(h.sg g hg).1];decide)];exact h.sg g hg
 rw [hv];split
 ·rename_i hm;obtain ⟨i,h1,h2,h3⟩:=ho _ hm;have:=SD j i Y Y h3;omega
 exact h.free j Y
theorem K5:∀(ow:List aH)(v:bq),dW v -> dW (ow.foldl eW v) /\ ∀s,bz (ow.foldl eW v) s=if s∈ow then 0 else bz v s
 |[],v,h=>⟨h,λs=>aL⟩
 |k::ow,v,h=>by
  obtain ⟨h1,h2⟩:=K5 ow (eW v k) (h.del k);refine ⟨h1,λs=>?_⟩;rw [t2,h2,xE h];by_cases hs:s∈ow
  ·rw [if_pos hs,if_pos (eG _ hs)]
  rw [if_neg hs];by_cases hk:k=s
  ·rw [if_pos hk,if_pos (by rw [hk];exact me)]
  rw [if_neg hk,if_neg (λhm=>(mem_cons.1 hm).elim (λe=>hk e.symm) hs)]
def OO(fs:dT)(l:List aE)(left left':Nat)(v:bq):Prop:=∀(own:List ByteArray)(n:Nat)(a:Int),∃(ow:List ByteArray) (n':Nat) (a':Int) (v':bq),eI fs l own ⟨v,n,a⟩=(0,own++ow,⟨v',n',a'⟩) /\ dW v' /\ (∀s,bz v' s=if s∈ow then 1 else bz v s) /\ ∀s,s∈ow -> ∃j,left' <= j /\ j<left /\ s=kQ j
theorem OO.fin{l:List aE}{left':Nat}(h:OO fs l left left' v)(hf:∀j,j<left -> bz v (kQ j)=0)(n:Nat)(a:Int):∃(n':Nat) (a':Int) (v':bq),ia (eI fs l [] ⟨v,n,a⟩)=(0,⟨v',n',a'⟩) /\ dW v' /\ ∀s,bz v' s=bz v s:=by
 obtain ⟨ow,n',a',v',h1,h2,h3,h4⟩:=h [] n a;obtain ⟨g1,g2⟩:=K5 ow v' h2;refine ⟨n',a',_,xR,g1,λs=>?_⟩;show bz (ow.foldl eW v') s=_;rw [g2,h3];split
 ·rename_i hm;obtain ⟨j,-,h5,rfl⟩:=h4 s hm;exact (hf j h5).symm
 rfl
theorem wC.same{v':bq}{left':Nat}(h:wC ms sg ps fs vars left v)(hk:dW v')(hl:left' <= left)(hv:∀s,bz v' s=bz v s):wC ms sg ps fs vars left' v':=
 ⟨hk,λx hx=>by rw [hv];exact h.vars x hx,λm hm=>by rw [hv];exact h.ms m hm,λx hx hm=>by rw [hv];exact h.ps x hx hm,λg hg=>by rw [hv];exact h.sg g hg,λj hj=>by rw [hv];exact h.free j Y⟩
end
end
end
section
open Go.ChangeShapes Go.WideShapes Go.ChangeAt Go.RowKit
def w_{n:Int}(h:(Lit.int .i64 n).wf=true):-9223372036854775808 <= n /\ n <= 9223372036854775807:=by
 simp only [Lit.wf,di,decide_eq_true_eq] at h;exact h
end
section
mutual
def Xo:∀s:aE,yq s <= s.wt
 |.mk k n e r a t f=>by
  have h1:=A3 t;have h2:=A3 f;have h3:0<r.wt:=by unfold cL.wt;omega
  rw [yq,aE.wt];split<;>omega
def A3:∀l:List aE,kb l <= au l
 |[]=>by rw [kb];omega
 |s::l=>by have h1:=Xo s;have h2:=A3 l;rw [kb,au];omega
end
def G3{p:aY}{f:Int}(hw:p.wt <= 9000000):(kW p f).length <= 1000000000:=by
 unfold aY.wt at hw;have hfl:=oE bB.wt wL p.funcs;rcases hc:gY p with ⟨a,b,e⟩;by_cases he:e=0
 ·obtain ⟨rfl,rfl⟩:=Cy hc he;subst he;by_cases h0:f<0
  ·rw [E7 h0];exact eT _
  obtain ⟨k,rfl⟩:∃k:Nat,f=(k:Int):=⟨f.toNat,Y⟩;by_cases hk:k<p.funcs.length
  ·obtain ⟨hv,-,-,hE⟩:=NA hc;obtain ⟨l,i,m,h1,-⟩:=MW (hE p.funcs[k] (getElem_mem hk));rw [ua,di] at hv;have h:=U' (y0 0 _ (Dc hv.1 _ (getElem_mem hk)).1) h1;rw [HJ hc hk,h.sites,h.code];have h2:=A3 p.funcs[k].body;have h3:=qU bB.wt p.funcs k hk;have h4:bB.wt p.funcs[k]=1+p.funcs[k].params.length+au p.funcs[k].body:=J;omega
  rw [GR Y];exact eT _
 rw [IG hc he];exact eT _
end
end Go.Proofs.YtjgeihmhppadaaaGreatDoor
