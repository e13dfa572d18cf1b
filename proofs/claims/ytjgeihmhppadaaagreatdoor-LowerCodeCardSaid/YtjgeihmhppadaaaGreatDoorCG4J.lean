import Derived.Test.YtjgeihmhppadaaaGreatDoorCG3J
set_option linter.all false
set_option synthInstance.maxHeartbeats 1000000
set_option synthInstance.maxSize 1000000
set_option maxHeartbeats 1600000
set_option maxRecDepth 100000
namespace Go.Proofs.YtjgeihmhppadaaaGreatDoor
open Go.Proofs.Tryz
open List (length_append length_cons length_nil mem_append mem_cons not_mem_nil append_assoc getElem_mem take_of_length_le)
section
section
variable {l:List Tok}
def Dw(t:dK):Prop:=t.kind=1∨∃s,t=ju s /\ decide (bytes s=bytes [101,108,115,101])=false
theorem Dw.els{t:dK}{k:Nat}(h:Dw t)(ht:(dM l k).pt=t):fu l k [101,108,115,101]=false:=by
 rcases h with h|⟨u,rfl,hu⟩
 ·exact VR ht Y _
 rw [Vg ht];exact hu
theorem fp.beg{d:Nat}{s:aL}{r:List aL}(h:fp d (s::r)):∃t q,i_ s=t::q /\ Dw t:=by
 cases h with
 |var|go|lock|unlock|ret|loop|cond=>exact ⟨_,_,by rw [i_];rfl,.inr ⟨_,rfl,V⟩⟩
 |assign|call=>exact ⟨_,_,by rw [i_];rfl,.inl rfl⟩
theorem fp.tail{d:Nat}{s:aL}{r:List aL}(h:fp d (s::r)):fp d r:=by cases h<;>assumption
end
end
section
inductive ie where
 |glob (g:bw)
 |mtx (m:cq)
 |fn (f:bE)
def y1(g:bw):Prop:=br g.name=true /\ g.init.natAbs <= 9223372036854775807
def Af(m:cq):Prop:=br m.name=true /\ 0 <= m.size /\ m.size <= 64 /\ (m.reentrant=true -> m.size=0)
def yi(f:bE):Prop:=br f.name=true /\ f.params.length <= 6 /\ (∀x,x∈f.params -> br x.name=true) /\ fp 23 f.body
def ie.ok:ie -> Prop
 |.glob g=>y1 g
 |.mtx m=>Af m
 |.fn f=>yi f
def ie.text:ie -> List UInt8
 |.glob g=>cJ g
 |.mtx m=>cX m
 |.fn f=>funcText f
def tw(g:bw):List dK:=ju [118,97,114]::gh g.name::((if g.init=0 then [] else dd [61]::(if g.init<0 then [dd [45],rH g.init.natAbs] else [rH g.init.natAbs]))++[dd [59]])
def uL(m:cq):List dK:=(if m.reentrant then ju [114,109,117,116,101,120] else ju [109,117,116,101,120])::gh m.name::((if 0<m.size then [dd [91],rH m.size.natAbs,dd [93]] else [])++[dd [59]])
def tx(x:bp):List dK:=(if x.mutex then [ju [109,117,116,101,120]] else [])++[gh x.name]
def ug(f:bE):List dK:=ju [102,117,110,99]::gh f.name::dd [40]::(oZ tx f.params++dd [41]::dd [123]::(fF f.body++[dd [125]]))
def ie.toks:ie -> List dK
 |.glob g=>tw g
 |.mtx m=>uL m
 |.fn f=>ug f
def ie.add(x:aZ):ie -> aZ
 |.glob g=>{x with globals:=x.globals++[g]}
 |.mtx m=>{x with mutexes:=x.mutexes++[m]}
 |.fn f=>{x with funcs:=x.funcs++[f]}
section
variable {r:List UInt8}{ps:List dK}
theorem y1.lx{g:bw}(h:y1 g)(hr:cV r ps):cV (cJ g++r) (tw g++ps):=by
 obtain ⟨hn,hi⟩:=h;unfold cJ tw;by_cases h0:g.init=0
 ·rw [if_pos h0,if_pos h0];have h1:=(hr.semi.name g.name hn (.cons V)).kw [118,97,114] V;simpa [gh] using h1
 rw [if_neg h0,if_neg h0];have h1:=hr.semi.num g.init.natAbs hi (.cons V);have hsta:po (cp g.init.natAbs++59::10::r):=by
  have:=(je.num g.init.natAbs hi).sta;rw [CO] at this;exact this.app _
 unfold eM;by_cases hneg:g.init<0
 ·rw [if_pos hneg,if_pos hneg];have h2:=(((h1.pre 45 V hsta).bl.one' 61 V (Fin.cons V)).bl.name g.name hn (.cons V)).kw [118,97,114] V;simpa [gh,rH] using h2
 rw [if_neg hneg,if_neg hneg];have h2:=((h1.bl.one' 61 V (Fin.cons V)).bl.name g.name hn (.cons V)).kw [118,97,114] V;simpa [gh,rH] using h2
theorem Af.lx{m:cq}(h:Af m)(hr:cV r ps):cV (cX m++r) (uL m++ps):=by
 obtain ⟨hn,h0,h1,h2⟩:=h;have key:cV (m.name.data.toList++(if 0<m.size then [91]++eM m.size++[93] else [])++[59,10]++r) (gh m.name::((if 0<m.size then [dd [91],rH m.size.natAbs,dd [93]] else [])++[dd [59]])++ps):=by
  by_cases hp:0<m.size
  ·rw [if_pos hp,if_pos hp];have h3:=(((hr.semi.free 93 V).num m.size.natAbs Y (.cons V)).free 91 V).name m.name hn (.cons V);unfold eM;rw [if_neg Y];simpa [gh,rH] using h3
  rw [if_neg hp,if_neg hp];have h3:=hr.semi.name m.name hn (.cons V);simpa [gh] using h3
 unfold cX uL;cases hre:m.reentrant with
 |true=>
  have:=key.kw [114,109,117,116,101,120] V;simpa using this
 |false=>
  have:=key.kw [109,117,116,101,120] V;simpa using this
theorem OW{x:bp}(h:br x.name=true)(hf:Fin r)(hr:cV r ps):cV (eF x++r) (tx x++ps):=by
 unfold eF tx;have h1:=hr.name x.name h hf.nam;cases x.mutex with
 |true=>
  have h2:=h1.kw [109,117,116,101,120] V;simpa [gh] using h2
 |false=>simpa [gh] using h1
theorem yi.lx{f:bE}(h:yi f)(hr:cV r ps):cV (funcText f++r) (ug f++ps):=by
 obtain ⟨hn,h0,h1,h2⟩:=h;have h3:=((h2.lx [9] _ _ V (hr.nl.free 125 V)).nl.free 123 V).bl.free 41 V;have h4:=((Eb (fT:=eF) (fK:=tx) f.params (λx hx r ps hf hr=>OW (h1 x hx) hf hr) (Fin.cons V) h3).free 40 V).name f.name hn (.cons V);have h5:=h4.kw [102,117,110,99] V;unfold funcText ug;simpa [gh] using h5
theorem ie.lx{x:ie}(h:x.ok)(hr:cV r ps):cV (x.text++r) (x.toks++ps):=by
 cases x with
 |glob g=>exact y1.lx h hr
 |mtx m=>exact Af.lx h hr
 |fn f=>exact yi.lx h hr
theorem JG:∀(ds:List ie),(∀x,x∈ds -> x.ok) -> cV r ps -> cV ((ds.map ie.text).flatten++r) ((ds.map ie.toks).flatten++ps)
 |[],_,hr=>hr
 |x::ds,h,hr=>by
  have h1:=ie.lx (h x (jm ..)) (JG ds (λy hy=>h y (dT _ hy)) hr);simpa using h1
end
def qj(p:aZ):List ie:=p.globals.map .glob++(p.mutexes.map .mtx++p.funcs.map .fn)
end
section
def fit(n:Int):Prop:=-9223372036854775808 <= n /\ n <= 9223372036854775807
mutual
def aP.sane:aP -> Prop
 |.mk _ num name args=>fit num /\ name.size <= 4611686018427387904 /\ iX args
def iX:List aP -> Prop
 |[]=>True
 |e::es=>e.sane /\ iX es
end
def cD.sane(r:cD):Prop:=r.name.size <= 4611686018427387904 /\ iX r.index
def cK.sane(a:cK):Prop:=a.ref.sane /\ a.expr.sane
mutual
def aL.sane:aL -> Prop
 |.mk _ n e r args t el=>n.size <= 4611686018427387904 /\ e.sane /\ r.sane /\ (∀a,a∈args -> a.sane) /\ fA t /\ fA el
def fA:List aL -> Prop
 |[]=>True
 |s::r=>s.sane /\ fA r
end
def bE.sane(f:bE):Prop:=f.name.size <= 4611686018427387904 /\ (∀x,x∈f.params -> x.name.size <= 4611686018427387904) /\ fA f.body
structure aZ.sane (p:aZ):Prop where
 globals:∀g,g∈p.globals -> fit g.init /\ g.name.size <= 4611686018427387904
 mutexes:∀m,m∈p.mutexes -> fit m.size /\ m.name.size <= 4611686018427387904
 funcs:∀f,f∈p.funcs -> f.sane
def oB:∀(l:List aP),iX l -> ∀e,e∈l -> e.sane
 |[],_,_,h=>gM
 |x::l,hs,e,h=>by
  rw [iX] at hs;rcases mem_cons.1 h with rfl|h
  ·exact hs.1
  exact oB l hs.2 e h
def sA:∀(l:List aL),fA l -> ∀e,e∈l -> e.sane
 |[],_,_,h=>gM
 |x::l,hs,e,h=>by
  rw [fA] at hs;rcases mem_cons.1 h with rfl|h
  ·exact hs.1
  exact sA l hs.2 e h
def FK(op:Int):(cw op<5 /\ 5 <= op /\ op <= 17)∨(cw op=5 /\ (op=3∨op=4))∨cw op=6:=by
 unfold cw
 repeat' split
 all_goals omega
mutual
def Dt:∀(e:aP),e.sane -> dc e=true -> je e
 |.mk op num name args,hs,h=>by
  rw [aP.sane] at hs;rw [dc] at h;simp only [cz,decide_eq_true_eq] at h;obtain ⟨⟨h1,h2⟩,h3⟩:=h;have hv:=MR args hs.2.2 h3;rcases FK op with ⟨k1,k2⟩|⟨k1,k2⟩|k1
  ·rw [if_neg Y] at h1;simp only [cz,decide_eq_true_eq] at h1;obtain ⟨rfl,rfl⟩:=h1;rw [arity,if_neg Y,if_neg Y] at h2
   match args,h2,hv with
   |[a,b],_,hv=>exact .bin op a b k2 (hv a aK) (hv b aK)
  ·rw [if_neg Y] at h1;simp only [cz,decide_eq_true_eq] at h1;obtain ⟨rfl,rfl⟩:=h1;rw [arity,if_neg Y,if_pos k1] at h2
   match args,h2,hv with
   |[a],_,hv=>exact .un op a k2 (hv a aK)
  rw [if_pos k1] at h1;rw [arity,if_pos k1] at h2;obtain rfl:=h_.1 h2;unfold kP at h1;simp only [lT,cz,decide_eq_true_eq] at h1;rcases h1 with ⟨⟨rfl,h0⟩,rfl⟩|⟨⟨rfl,rfl⟩,h0⟩
  ·obtain ⟨n,rfl⟩:∃n:Nat,num=n:=⟨num.toNat,Y⟩;exact .num n (by have:=hs.1.2;omega)
  exact .name name h0
def MR:∀(l:List aP),iX l -> eu l=true -> ∀x,x∈l -> je x
 |[],_,_,_,h=>gM
 |y::l,hs,h,x,hx=>by
  rw [iX] at hs;rw [eu,cz] at h;rcases mem_cons.1 hx with hx|hx
  ·rw [hx];exact Dt y hs.1 h.1
  exact MR l hs.2 h.2 x hx
end
def DK{e:aP}(hs:e.sane)(h:eV e=true):oQ e:=by
 rw [eV,cz,decide_eq_true_eq] at h;exact ⟨Dt e hs h.1,h.2⟩
def F4{e:aP}(h:jT e=true):e=.zero:=by
 obtain ⟨op,num,name,args⟩:=e;unfold jT at h;rw [cz,cz] at h;obtain ⟨⟨h1,h2⟩,h3⟩:=h;obtain ⟨h4,h5⟩:=of_decide_eq_true h1;have h6:=of_decide_eq_true h2;have h7:=of_decide_eq_true h3;simp only [aP.op,aP.num,aP.name,aP.args] at h4 h5 h6 h7;subst h4;subst h5;subst h6;have h:=h7;rw [h_.1 h];rfl
def Lt{r:cD}(h:j6 r=true):r=.zero:=by
 obtain ⟨name,index⟩:=r;simp only [j6,cz,decide_eq_true_eq] at h;obtain ⟨rfl,h⟩:=h;rw [h_.1 h];rfl
def Hg{r:cD}(hs:r.sane)(h:okRefB r=true):pJ r:=by
 obtain ⟨name,index⟩:=r;unfold okRefB at h;rw [cz] at h;obtain ⟨h1,h2⟩:=h
 match index,hs,h2 with
 |[],_,_=>exact .one name h1
 |[e],hs,h2=>exact .el name e h1 (DK (oB _ hs.2 e aK) h2)
def Tn{a:cK}(hs:a.sane)(h:eh a=true):nh a:=by
 obtain ⟨m,r,e⟩:=a;unfold eh at h;cases m with
 |true=>
  rw [if_pos rfl,cz] at h;obtain rfl:=F4 h.2;exact .mutex r (Hg hs.1 h.1)
 |false=>
  rw [if_neg aK,cz] at h;obtain rfl:=Lt h.1;exact .expr e (DK hs.2 h.2)
def sD(D:Nat):∀(l:List aL),cn D l=true -> D<24
 |[],h=>by rw [cn] at h;exact of_decide_eq_true h
 |s::r,h=>by rw [cn,cz] at h;exact sD D r h.2
mutual
def U8:∀(s:aL)(d D:Nat),D+d=23 -> s.sane -> fC D s=true -> ∀l,fp d l -> fp d (s::l)
 |.mk k n e r args t el,d,D,hd,hs,h,l,ih=>by
  rw [aL.sane] at hs;rw [fC] at h;obtain ⟨-,he,hr,ha,ht,hel⟩:=hs;simp only [cz,lT,decide_eq_true_eq] at h;obtain ⟨⟨⟨⟨⟨⟨⟨h1,h2⟩,h3⟩,h4⟩,h5⟩,h6⟩,h7⟩,h8⟩:=h;have hva:∀x,x∈args -> nh x:=λx hx=>Tn (ha x hx) (d3.1 h6 x hx);have hk:k=1∨k=2∨k=3∨k=4∨k=5∨k=6∨k=7∨k=8∨k=9:=Y;have hname:¬(1 <= k /\ k <= 4) -> n=ax:=λhp=>by rw [if_neg hp] at h2;exact of_decide_eq_true h2
  have hname1:1 <= k /\ k <= 4 -> br n=true:=λhp=>by rwa [if_pos hp] at h2
  have hex:¬(k=1∨k=2∨k=7∨k=8) -> e=.zero:=λhp=>by rw [if_neg hp] at h3;exact F4 h3
  have hex1:(k=1∨k=2∨k=7∨k=8) -> oQ e:=λhp=>by rw [if_pos hp] at h3;exact DK he h3
  have href:¬(k=5∨k=6) -> r=.zero:=λhp=>by rw [if_neg hp] at h4;exact Lt h4
  have href1:(k=5∨k=6) -> pJ r:=λhp=>by rw [if_pos hp] at h4;exact Hg hr h4
  have hargs:¬(k=3∨k=4) -> args=[]:=λhp=>h_.1 (h5.resolve_left hp);have hthn:¬(k=7∨k=8) -> t=[]:=λhp=>by rw [if_neg hp] at h7;exact h_.1 (of_decide_eq_true h7)
  have hels:k≠7 -> el=[]:=λhp=>h8.elim h_.1 (λh=>absurd h.1 hp);rcases hk with rfl|rfl|rfl|rfl|rfl|rfl|rfl|rfl|rfl
  ·rw [href Y,hargs Y,hthn Y,hels Y];exact .var (hname1 Y) (hex1 Y) ih
  ·rw [href Y,hargs Y,hthn Y,hels Y];exact .assign (hname1 Y) (hex1 Y) ih
  ·rw [hex Y,href Y,hthn Y,hels Y];exact .call (hname1 Y) hva ih
  ·rw [hex Y,href Y,hthn Y,hels Y];exact .go (hname1 Y) hva ih
  ·rw [hname Y,hex Y,hargs Y,hthn Y,hels Y];exact .lock (href1 Y) ih
  ·rw [hname Y,hex Y,hargs Y,hthn Y,hels Y];exact .unlock (href1 Y) ih
  ·rw [if_pos (.inl rfl)] at h7;obtain ⟨d',rfl⟩:∃d',d=d'+1:=⟨d-1,by have:=sD _ _ h7;omega⟩;have h9:=wJ t d' (D+1) Y ht h7;rw [hname Y,href Y,hargs Y];refine .cond (hex1 Y) h9 ?_ ih;rcases h8 with h8|h8
   ·rw [h_.1 h8];exact .nil
   exact wJ el d' (D+1) Y hel h8.2
  ·rw [if_pos (.inr rfl)] at h7;obtain ⟨d',rfl⟩:∃d',d=d'+1:=⟨d-1,by have:=sD _ _ h7;omega⟩;have h9:=wJ t d' (D+1) Y ht h7;rw [hname Y,href Y,hargs Y,hels Y];exact .loop (hex1 Y) h9 ih
  rw [hname Y,hex Y,href Y,hargs Y,hthn Y,hels Y];exact .ret ih
def wJ:∀(l:List aL)(d D:Nat),D+d=23 -> fA l -> cn D l=true -> fp d l
 |[],_,_,_,_,_=>.nil
 |s::l,d,D,hd,hs,h=>by
  rw [fA] at hs;rw [cn,cz] at h;exact U8 s d D hd hs.1 h.1 l (wJ l d D hd hs.2 h.2)
end
def OD(p:aZ):gG p=((qj p).map ie.text).flatten:=by
 simp only [gG,qj,ed,lE,wQ,append_assoc]
 rfl
end
section
open Go.RowKit
abbrev cZ(l:List ByteArray):List aN:=l.map λx=>ae x
def vS(names:List aG)(j:Nat)(h:j<names.length):gV false 1 (cZ names) (0+j*1)=some (cB (names[j])):=by
 unfold gV cZ;rw [if_neg V,e0,nz,mD,jz h];rfl
def GL{e:aP}(h:e.sane)(k:Nat)(hk:k<e.args.length):e.args[k].sane:=by
 cases e with
 |mk op num name args=>rw [aP.sane] at h;exact oB _ h.2.2 _ (getElem_mem hk)
def QU{e:aP}(h:e.sane):e.name.size <= 4611686018427387904:=by cases e;rw [aP.sane] at h;exact h.2.1
def K1:∀(N:Nat)(e:aP),e.nodes <= N -> N <= 1000000000 -> e.sane -> ∀s:aH,aR prog 132 [.agg (bb e)] [] s λr s'=>r=ap (dc e) /\ s'=s
 |0,e,h,_,_=>pd
 |N+1,e,h,hN,hs=>TK e (QU hs) Y λk hk s=>K1 N e.args[k] pH Y (GL hs k hk) s
def BF(e:aP)(hN:e.nodes <= 1000000000)(hs:e.sane)(s:aH):aR prog 96 [.agg (bb e)] [] s λt s'=>t=ap (eV e) /\ s'=s:=by
 obtain ⟨bx,rw⟩:=s;refine bN 10 func96 ?_;refine go 9 λb1=>?_;refine cy J call132 J (K1 _ e (bW _) hN hs _) ?_;rintro _ _ ⟨hr1,rfl⟩;rcases bq (dc e) with h2|h2;focus
  rw [h2] at hr1;subst hr1;refine go 2 ?_;refine cy J call133 J (IA _ e (bW _) hN _) ?_;rintro _ _ ⟨rfl,rfl⟩;by_cases h4:((gS e:Nat):Int) <= 24;focus
   refine aC true J (vV h4) (go 5 ?_)
  rotate_left;refine aC false J (xJ h4) (go 5 ?_)
 rotate_left 2;rw [h2] at hr1;subst hr1;refine go 9 ?_;all_goals
  exact aw (s':=⟨bx,rw⟩) J cM ⟨bU (by unfold eV;first|(rw [h2];simp;omega)|(rw [h2];rfl)),J⟩
def zf(z:Int)(h:fit z)(s:aH):aR prog 100 [bB z] [] s λr s'=>r=cB (bytes (eM z)) /\ s'=s:=
 DR (us:=[.int .i64 z]) rfl rfl (λw=>Oy z w h.1 h.2) s
def ot(e:aP):bX e=jN e.op e.num e.name (gY e.op 0 e.args):=by cases e;rw [bX];rfl
def I9(b:Int):∀(l:List aP)(j:Nat),(gY b j l).length=l.length
 |[],j=>by rw [gY];rfl
 |e::es,j=>by rw [gY,length_cons,length_cons,I9 b es]
def y6(b:Int):∀(l:List aP)(j k:Nat)(h:k<l.length),(gY b j l)[k]?=some (if gX b (j+k) l[k].op then [40]++bX l[k]++[41] else bX l[k])
 |e::es,j,0,h=>by rw [gY];rfl
 |e::es,j,k+1,h=>by
  rw [gY,List.getElem?_cons_succ,y6 b es (j+1) k iW];rw [show j+1+k=j+(k+1) by omega];rfl
def L2{e:aP}(h:dc e=true):(e.op=1 /\ e.args.length=0)∨(e.op=2 /\ e.args.length=0)∨((e.op=3∨e.op=4) /\ e.args.length=1 /\ cw e.op=5)∨(cw e.op<5 /\ 5 <= e.op /\ e.op <= 17 /\ e.args.length=2):=by
 rw [pF,cz,cz,decide_eq_true_eq] at h;obtain ⟨⟨h1,h2⟩,-⟩:=h;unfold arity at h2;rcases FK e.op with ⟨k1,k2⟩|⟨k1,k2⟩|k1
 ·rw [if_neg Y,if_neg Y] at h2;exact .inr (.inr (.inr ⟨k1,k2.1,k2.2,h2⟩))
 ·rw [if_neg Y,if_pos k1] at h2;exact .inr (.inr (.inl ⟨k2,h2,k1⟩))
 rw [if_pos k1] at h1 h2;unfold kP at h1;simp only [lT,cz,decide_eq_true_eq] at h1;rcases h1 with h1|h1
 ·exact .inl ⟨h1.1.1,h2⟩
 exact .inr (.inl ⟨h1.1.1,h2⟩)
def Tp{e:aP}(h:dc e=true)(k:Nat)(hk:k<e.args.length):dc e.args[k]=true:=by
 cases hs:dc e.args[k] with
 |true=>rfl
 |false=>rw [pF,vL _ _ hk hs,pQ] at h;cases h
def LX{e:aP}(h:dc e=true)(k:Nat)(hk:k<e.args.length):((gY e.op 0 e.args).getD k []).length <= (bX e).length:=by
 rw [ot];rcases L2 h with h1|h1|h1|h1
 ·omega
 ·omega
 ·obtain rfl:k=0:=Y;unfold jN;rcases h1.1 with h3|h3<;>simp [h3]
 unfold jN;rw [if_neg Y,if_neg Y,if_neg Y,if_neg Y,if_pos h1.1];have:k=0∨k=1:=Y;rcases this with rfl|rfl<;>(simp only [length_append];omega)
def Jw{e:aP}(h:dc e=true)(k:Nat)(hk:k<e.args.length):(bX e.args[k]).length <= (bX e).length:=by
 have h1:=LX h k hk;have h2:=y6 e.op e.args 0 k hk;rw [Cc,h2,tc] at h1;split at h1<;>(try simp only [length_append] at h1)<;>omega
def II{op:Int}(h:5 <= op /\ op <= 17):op=5∨op=6∨op=7∨op=8∨op=9∨op=10∨op=11∨op=12∨op=13∨op=14∨op=15∨op=16∨op=17:=Y
def SX{op:Int}(h:5 <= op /\ op <= 17):op∈dj (cw op):=by
 rcases II h with rfl|rfl|rfl|rfl|rfl|rfl|rfl|rfl|rfl|rfl|rfl|rfl|rfl<;>decide
def PP{op:Int}(h:5 <= op /\ op <= 17):∀i (h1:i<(dj (cw op)).length) (h2:i<(eE (cw op)).length),(dj (cw op))[i]=op -> (eE (cw op))[i]=bytes (kl op):=by
 rcases II h with rfl|rfl|rfl|rfl|rfl|rfl|rfl|rfl|rfl|rfl|rfl|rfl|rfl<;>decide
def Nh{c:Prop}[Decidable c]{l r:List UInt8}{n:Nat}(h1:l.length <= n)(h2:r.length <= n):(if c then l else r).length <= n:=by split<;>assumption
def Of(op:Int):(kl op).length <= 2:=by
 unfold kl
 repeat' (with_reducible apply Nh)
 all_goals decide
def ze(ts:List (List UInt8))(j:Nat)(h:j<(ts.map bytes).length):(ts.map bytes)[j]=bytes (ts.getD j []):=by
 have h1:j<ts.length:=iW;simp [List.getD,h1]
def OZ(e:aP)(hN:e.nodes <= 1000000000)(hs:e.sane)(hsh:dc e=true)(hL:(bX e).length <= 1000000000000000)(ih:∀k (h:k<e.args.length) (s:aH),aR prog 135 [.agg (bb e.args[k])] [] s λr s'=>r=cB (bytes (bX e.args[k])) /\ s'=s)(s:aH):aR prog 135 [.agg (bb e)] [] s λt s'=>t=cB (bytes (bX e)) /\ s'=s:=by
 obtain ⟨bx,rw⟩:=s;have hlen:=qc e;have hops:=L2 hsh;have hfit:fit e.num:=by cases e;rw [aP.sane] at hs;exact hs.1
 have hget:=y6 e.op e.args 0;have htl:=I9 e.op e.args 0;have hal:=LX hsh;simp only [e0] at hget;obtain ⟨ts,hts⟩:∃ts,gY e.op 0 e.args=ts:=⟨_,rfl⟩;rw [hts] at hget htl hal;refine bN 95 func135 ?_;refine go 18 λb1=>?_;refine fZ 9 1 ?_;refine D2 (λk=>True) (e.args.length) 4 3 9 1 (λk=>((ts.take k).map bytes).length) (λk=>cZ ((ts.take k).map bytes)) [b1] (λk=>[(1,aE b1)]) trivial (az sH) λk v hk hvk=>?_;replace hvk:True:=hvk
 try dsimp only
 have hrl:((ts.take k).map bytes).length <= k:=by simp only [fW,j8];omega
 refine go 7 ?_;by_cases h1:((k:Nat):Int)<((e.args.length:Nat):Int)
 ·refine aC true J (ck h1) (go 12 ?_);refine aF J (bS bR bb e.args fw ei k J J J J Y V runUnderlying85 sizeOf87) (go 1 ?_);refine cy J call135 J (ih k Y _) ?_;rintro _ _ ⟨rfl,rfl⟩;refine go 6 ?_;have hpl:=Jw hsh k Y;refine go 2 ?_;refine cy J call159 J (K4 e k Y _) ?_;rintro _ _ ⟨hr4,rfl⟩;rcases bq (gX e.op k e.args[k].op) with h5|h5;focus
   rw [h5] at hr4;subst hr4;refine go 5 ?_;refine aF J (pe [40] (bX e.args[k]) J J J J J qb) ?_;refine aF J (pe ([40]++(bX e.args[k])) [41] J J J J J qb) (go 6 ?_);refine aW J (be (r:=cZ [(bytes (([40]++(bX e.args[k]))++[41]))]) iM ?_);refine aW J (dR [] nG J J V c_ Y (@length_append _ ((ts.take k).map bytes) [(bytes (([40]++(bX e.args[k]))++[41]))]).symm fi cb (ed (f:=λx=>aN.val (.string x))).symm λw2=>?_);refine go 6 ?_;refine bJ J (go 2 ?_);rw [show (ts.take (k+1)).map bytes=(ts.take k).map bytes++[(bytes (([40]++(bX e.args[k]))++[41]))] by rw [List.take_succ,hget k Y,h5];simp]
  rotate_left;rw [h5] at hr4;subst hr4;refine go 8 ?_;refine aW J (be (r:=cZ [(bytes (bX e.args[k]))]) iM ?_);refine aW J (dR [] nG J J V c_ Y (@length_append _ ((ts.take k).map bytes) [(bytes (bX e.args[k]))]).symm fi cb (ed (f:=λx=>aN.val (.string x))).symm λw3=>?_);refine go 6 ?_;refine bJ J (go 2 ?_);rw [show (ts.take (k+1)).map bytes=(ts.take k).map bytes++[(bytes (bX e.args[k]))] by rw [List.take_succ,hget k Y,h5];simp];all_goals
   exact ⟨Y,trivial,_,az (h:=av J (bv Y) (ao J)) eZ⟩
 refine aC false J (cg h1) (go 12 ?_);obtain rfl:k=e.args.length:=Y;rw [take_of_length_le Y];refine sQ 3 J ?_;refine go 2 ?_;by_cases h9:e.op=1
 ·refine aC true J (bg h9) (go 8 ?_);refine cy J call100 J (zf e.num hfit _) ?_;rintro _ _ ⟨rfl,rfl⟩;refine go 6 ?_;exact aw (s':=⟨bx,rw⟩) J cM ⟨lH (by rw [ot,hts];unfold jN;simp only [if_pos h9];try rfl),J⟩
 refine aC false J (bZ h9) (go 8 ?_);by_cases h13:e.op=2
 ·refine aC true J (bg h13) (go 14 ?_);exact aw (s':=⟨bx,rw⟩) J cM ⟨lH (by rw [ot,hts];unfold jN;simp only [if_neg h9,if_pos h13];try exact (back _).symm),J⟩
 refine aC false J (bZ h13) (go 8 ?_);by_cases h16:e.op=3
 ·refine aC true J (bg h16) (go 6 ?_);have hl1:e.args.length=1:=uy;have hg0:=hal 0 Y;refine go 1 ?_;refine aF J (l9 (λx=>ae x) (ts.map bytes) 0 J J J J qo runUnderlying61 sizeOf9) (go 1 ?_);refine aF J (pe [45] (ts.getD 0 []) J J J J (ze _ _ qo) qb) (go 6 ?_);exact aw (s':=⟨bx,rw⟩) J cM ⟨lH (by rw [ot,hts];unfold jN;simp only [if_neg h9,if_neg h13,if_pos h16];try rfl),J⟩
 refine aC false J (bZ h16) (go 8 ?_);by_cases h19:e.op=4
 ·refine aC true J (bg h19) (go 6 ?_);have hl1:e.args.length=1:=uy;have hg0:=hal 0 Y;refine go 1 ?_;refine aF J (l9 (λx=>ae x) (ts.map bytes) 0 J J J J qo runUnderlying61 sizeOf9) (go 1 ?_);refine aF J (pe [33] (ts.getD 0 []) J J J J (ze _ _ qo) qb) (go 6 ?_);exact aw (s':=⟨bx,rw⟩) J cM ⟨lH (by rw [ot,hts];unfold jN;simp only [if_neg h9,if_neg h13,if_neg h16,if_pos h19];try rfl),J⟩
 refine aC false J (bZ h19) (go 11 ?_);have hlt5:cw e.op<5:=uy;have hop:5 <= e.op /\ e.op <= 17:=uy;have hl2:e.args.length=2:=uy;have hsl:=BP (cw e.op);have hg0:=hal 0 Y;have hg1:=hal 1 Y;refine cy J call158 J (wv e.op _) ?_;rintro _ _ ⟨rfl,rfl⟩;refine cy J call140 J (Ic (cw e.op) Y _) ?_;rintro _ _ ⟨rfl,rfl⟩;refine go 14 ?_;refine jO (λi=>∀j (h:j<(dj (cw e.op)).length),j<i -> (dj (cw e.op))[j]≠e.op) ((dj (cw e.op)).length) 8 (λi=>[(1,aE b1),(3,.c (.sl (ts.map bytes).length ((ts.map bytes).map λx=>ae x))),(6,.c (l8 (eE (cw e.op)))),(7,.c (l_ (dj (cw e.op))))]) lY (ao J) λi hi hvi=>?_;replace hvi:∀j (h:j<(dj (cw e.op)).length),j<i -> (dj (cw e.op))[j]≠e.op:=hvi
 try dsimp only
 refine go 6 ?_;by_cases h24:((i:Nat):Int)<(((dj (cw e.op)).length:Nat):Int)
 ·refine aC true J (ck h24) (go 8 ?_);refine b_ [b1] (aY [0,1] 5 (go 3 ?_));refine ab 2 J (l9 (λx=>aA x) (dj (cw e.op)) i J J J J Y runUnderlying22 sizeOf3) (aY [3,4,5] 1 (go 4 ?_));by_cases h26:(dj (cw e.op))[i]=e.op
  ·refine ab 6 J (ej true J J J (bg h26)) ?_;refine bG (go 3 ?_);refine b_ [b1] (aY [0] 14 (go 2 ?_));refine ab 1 J (l9 (λx=>ae x) (ts.map bytes) 0 J J J J qo runUnderlying61 sizeOf9) (aY [2] 12 (go 2 ?_));refine ab 3 J (pe (ts.getD 0 []) [32] J J J (ze _ _ qo) J qb) (aY [4,5] 9 (go 3 ?_));refine ab 6 J (l9 (λx=>ae x) (eE (cw e.op)) i J J J J Y runUnderlying61 sizeOf9) (aY [7] 7 (go 2 ?_));refine ab 8 J (pe ((ts.getD 0 [])++[32]) (kl e.op) J J J J (PP hop i Y Y h26) qb) ?_;refine ab 9 J (pe (((ts.getD 0 [])++[32])++(kl e.op)) [32] J J J J J qb) (aY [10] 4 (go 2 ?_));refine ab 11 J (l9 (λx=>ae x) (ts.map bytes) 1 J J J J qo runUnderlying61 sizeOf9) (aY [12] 2 (go 2 ?_));refine ab 13 J (pe ((((ts.getD 0 [])++[32])++(kl e.op))++[32]) (ts.getD 1 []) J J J J (ze _ _ qo) qb) (aY [14] 0 (go 2 ?_));refine bG (go 7 ?_);exact aw (s':=⟨bx,rw⟩) J cM ⟨lH (by rw [ot,hts];unfold jN;simp only [if_neg h9,if_neg h13,if_neg h16,if_neg h19,if_pos hlt5];try rfl),J⟩
  refine ab 6 J (ej false J J J (bZ h26)) ?_;refine bG (go 7 ?_);refine bJ J (go 2 ?_);exact ⟨Y,(λj hj hlt hq=>(iQ j i).elim (λh9=>hvi j hj h9 hq) (λh9=>by have h8:j=i:=Y;subst h8;exact h26 hq)),(av J (bv Y) (ao J))⟩
 refine aC false J (cg h24) (go 14 ?_);exact absurd (List.mem_iff_getElem.1 (SX hop)) (λ⟨j,hj,hq⟩=>hvi j hj Y hq)
def qa:∀(N:Nat)(e:aP),e.nodes <= N -> N <= 1000000000 -> e.sane -> dc e=true -> (bX e).length <= 1000000000000000 -> ∀s:aH,aR prog 135 [.agg (bb e)] [] s λr s'=>r=cB (bytes (bX e)) /\ s'=s
 |0,e,h,_,_,_,_=>pd
 |N+1,e,h,hN,hs,hsh,hL=>OZ e Y hs hsh hL λk hk s=>qa N e.args[k] pH Y (GL hs k hk) (Tp hsh k hk) (gb (Jw hsh k hk) hL) s
def cD.wt(r:cD):Nat:=1+dD r.index
def cK.wt(a:cK):Nat:=1+a.ref.wt+a.expr.nodes
def eI:List cK -> Nat
 |[]=>0
 |a::l=>a.wt+eI l
mutual
def aL.wt:aL -> Nat
 |.mk _ _ e r a t f=>1+e.nodes+r.wt+eI a+bQ t+bQ f
def bQ:List aL -> Nat
 |[]=>0
 |s::l=>s.wt+bQ l
end
def rN:∀(l:List cK)(k:Nat)(h:k<l.length),l[k].wt <= eI l
 |a::l,0,_=>by rw [eI];simp
 |a::l,k+1,h=>by have:=rN l k iW;rw [eI];simp;omega
def oj:∀(l:List cK),l.length <= eI l
 |[]=>aK
 |a::l=>by have:=oj l;rw [eI,cK.wt];simp;omega
def pE:∀(l:List aL)(k:Nat)(h:k<l.length),l[k].wt <= bQ l
 |a::l,0,_=>by rw [bQ];simp
 |a::l,k+1,h=>by have:=pE l k iW;rw [bQ];simp;omega
def f6(s:aL):s.wt=1+s.expr.nodes+s.ref.wt+eI s.args+bQ s.thn+bQ s.els:=by cases s;rw [aL.wt];rfl
def nY:∀(l:List aL),l.length <= bQ l
 |[]=>aK
 |a::l=>by have:=nY l;rw [bQ,f6];simp;omega
def ye{r:cD}(h:okRefB r=true):br r.name=true /\ (r.index.length=0∨r.index.length=1) /\ ∀e,e∈r.index -> eV e=true:=by
 obtain ⟨n,ix⟩:=r;unfold okRefB at h;rw [cz] at h
 match ix,h with
 |[],h=>exact ⟨h.1,.inl rfl,λe he=>by cases he⟩
 |[e],h=>exact ⟨h.1,.inr rfl,λx hx=>by rw [jw.1 hx];exact h.2⟩
 |_::_::_,h=>simp at h
def qK{e:aP}(h:eV e=true):dc e=true:=by rw [eV,cz] at h;exact h.1
def zY{r:cD}(h:0<r.index.length):ew r=r.name.data.toList++[(91:UInt8)]++bX r.index[0]++[93]:=by
 obtain ⟨n,ix⟩:=r
 match ix,h with
 |e::_,_=>rfl
def Md{r:cD}(h:r.index.length=0):ew r=r.name.data.toList:=by
 obtain ⟨n,ix⟩:=r;rw [h_] at h;dsimp only at h;subst h;rfl
def CG{α:Type}(f:α -> List UInt8):∀(l:List α)(k:Nat),(ct f (l.take k)).length <= (ct f l).length
 |[],k=>sf
 |x::l,0=>sf
 |x::l,k+1=>by
  simp only [jI,ct,length_append,List.length_flatten,lE];have:∀(m:List α)(k:Nat),(List.map (List.length ∘ λy=>[44,32]++f y) (m.take k)).sum <= (List.map (List.length ∘ λy=>[44,32]++f y) m).sum:=by
   intro m;induction m with
   |nil=>intro k;simp
   |cons a m ih=>intro k;cases k with
    |zero=>simp
    |succ k=>have:=ih k;simp only [jI,cd,rf];omega
  have:=this l k;omega
def Lo{α:Type}(f:α -> List UInt8)(l:List α)(k:Nat)(h:k<l.length):(f l[k]).length <= (ct f l).length:=by
 have h1:=CG f l (k+1);rw [pp f l k h] at h1;simp only [length_append] at h1;omega
def tU{a:cK}(h:a.mutex=true):eK a=[109,117,116,101,120,32]++ew a.ref:=by unfold eK;rw [if_pos h]
def ua{a:cK}(h:a.mutex=false):eK a=bX a.expr:=by unfold eK;rw [if_neg mb]
def En{a:cK}(h:eh a=true):(a.mutex=true -> okRefB a.ref=true) /\ (a.mutex=false -> eV a.expr=true):=by
 unfold eh at h;constructor
 ·intro hm;rw [hm,if_pos rfl,cz] at h;exact h.1
 intro hm;rw [hm,if_neg V,cz] at h;exact h.2
def zw(r:cD)(hok:okRefB r=true)(hs:r.sane)(hN:dD r.index <= 900000000)(hL:(ew r).length <= 1000000000000000)(s:aH):aR prog 137 [.agg (encR r)] [] s λt s'=>t=cB (bytes (ew r)) /\ s'=s:=by
 obtain ⟨bx,rw⟩:=s;replace hok:=ye hok;have hnm:r.name.data.toList.length <= 4611686018427387904:=hs.1;refine bN 19 func137 ?_;refine go 12 λb1=>?_;by_cases h1:((r.index.length:Nat):Int)=0
 ·refine aC true J (bg h1) (go 12 ?_);exact aw (s':=⟨bx,rw⟩) J cM ⟨lH Gj,J⟩
 refine aC false J (bZ h1) (go 6 ?_);refine b_ [b1] ?_;have hi0:0<r.index.length:=Y;have hse:=oB _ hs.2 _ (getElem_mem hi0);have hsh:=qK (hok.2.2 _ (getElem_mem hi0));have hni:=oG r.index 0 hi0;have hL1:=hL;rw [zY hi0] at hL1;simp only [length_append] at hL1;replace hL1:(bX r.index[0]).length <= 1000000000000000:=by omega
 refine aY [0,1] 9 (go 3 ?_);refine ab 2 J (cF r.name.data.toList ([91]:List UInt8) J J J (back _) J) (aY [3,4] 6 (go 3 ?_));refine ab 5 J (bS bR bb r.index fw ei 0 J J J J Y V runUnderlying85 sizeOf87) (aY [6] 4 (go 2 ?_));refine an 7 J J (fX J J V call135 J (qa _ r.index[0] (bW _) Y hse hsh hL1 _) ?_);rintro _ _ ⟨rfl,rfl⟩;refine ab 8 J (cF (r.name.data.toList++([91]:List UInt8)) (bX r.index[0]) J J J J J) ?_;refine ab 9 J (cF ((r.name.data.toList++([91]:List UInt8))++(bX r.index[0])) [93] J J J J J) (aY [10] 0 (go 2 ?_));refine bG (go 2 ?_);exact aw (s':=⟨bx,rw⟩) J cM ⟨lH (by rw [zY hi0]),J⟩
def LY(l:List cK)(hok:∀a,a∈l -> eh a=true)(hs:∀a,a∈l -> a.sane)(hw:eI l <= 900000000)(hL:(f8 l).length <= 1000000000000000)(s:aH):aR prog 136 [.c (aB dA l)] [] s λt s'=>t=cB (bytes (f8 l)) /\ s'=s:=by
 obtain ⟨bx,rw⟩:=s;have hal:=oj l;have hL1:=hL;unfold f8 at hL1;simp only [length_append] at hL1;refine bN 39 func136 ?_;refine go 17 ?_;refine lc (l.length) 4 (λk=>[(3,cB (bytes ([40]++ct eK (l.take (k))))),(0,.c (aB dA l))]) (ao J) λk hk=>?_;show bo prog _ ⟨39,_,_,(4,aX k)::[(3,cB (bytes ([40]++ct eK (l.take (k))))),(0,.c (aB dA l))]⟩ _;have hcm:=CG eK l k;refine go 6 ?_;by_cases h1:((k:Nat):Int)<((l.length:Nat):Int)
 ·refine aC true J (ck h1) (go 10 ?_);have hlt:k<l.length:=Y;have hsa:=hs _ (getElem_mem hlt);have hoa:=En (hok _ (getElem_mem hlt));have hwa:=rN l k hlt;unfold cK.wt cD.wt at hwa;have hci:=Lo eK l k hlt;refine go 1 ?_;by_cases h3:(0:Int)<((k:Nat):Int)
  ·refine aC true J (ek h3) (go 5 ?_);refine aF J (cF ([40]++ct eK (l.take (k))) [44,32] J J J J J) (go 7 ?_);refine aF J (bS dA dA l mj (λ_=>J) k J J J J Y V runUnderlying118 sizeOf135) (go 1 ?_);rcases bq (l[k].mutex) with h5|h5
   ·refine aF J (cI (bF h5) (jh J J isAgg4 sizeOf4 J)) (go 4 ?_);have hmx:=h5;have hri:(ew l[k].ref).length <= 1000000000000000:=Mb;refine go 1 ?_;refine aF J (cF (([40]++ct eK (l.take (k)))++[44,32]) [109,117,116,101,120,32] J J J J J) (go 2 ?_);refine aF J (bS dA dA l mj (λ_=>J) k J J J J Y V runUnderlying118 sizeOf135) (go 2 ?_);refine cy J call137 J (zw l[k].ref (hoa.1 hmx) hsa.1 Y Y _) ?_;rintro _ _ ⟨rfl,rfl⟩;refine aF J (cF ((([40]++ct eK (l.take (k)))++[44,32])++[109,117,116,101,120,32]) (ew l[k].ref) J J J J J) (go 6 ?_);refine bJ J (go 2 ?_);exact ⟨Y,(av J (bv Y) (av J (fH (by rw [pp eK l k Y,if_neg Y];rw [tU h5];simp)) (ao J)))⟩
   refine aF J (cI (bF h5) (jh J J isAgg4 sizeOf4 J)) (go 4 ?_);have hmx:=h5;have hri:(bX l[k].expr).length <= 1000000000000000:=by have h9:=hci;rw [ua hmx] at h9;omega
   refine go 3 ?_;refine aF J (bS dA dA l mj (λ_=>J) k J J J J Y V runUnderlying118 sizeOf135) (go 2 ?_);refine cy J call135 J (qa _ l[k].expr (bW _) Y hsa.2 (qK (hoa.2 hmx)) Y _) ?_;rintro _ _ ⟨rfl,rfl⟩;refine aF J (cF (([40]++ct eK (l.take (k)))++[44,32]) (bX l[k].expr) J J J J J) (go 6 ?_);refine bJ J (go 2 ?_);exact ⟨Y,(av J (bv Y) (av J (fH (by rw [pp eK l k Y,if_neg Y];rw [ua h5];simp)) (ao J)))⟩
  refine aC false J (em h3) (go 9 ?_);refine aF J (bS dA dA l mj (λ_=>J) k J J J J Y V runUnderlying118 sizeOf135) (go 1 ?_);rcases bq (l[k].mutex) with h11|h11
  ·refine aF J (cI (bF h11) (jh J J isAgg4 sizeOf4 J)) (go 4 ?_);have hmx:=h11;have hri:(ew l[k].ref).length <= 1000000000000000:=Mb;refine go 1 ?_;refine aF J (cF ([40]++ct eK (l.take (k))) [109,117,116,101,120,32] J J J J J) (go 2 ?_);refine aF J (bS dA dA l mj (λ_=>J) k J J J J Y V runUnderlying118 sizeOf135) (go 2 ?_);refine cy J call137 J (zw l[k].ref (hoa.1 hmx) hsa.1 Y Y _) ?_;rintro _ _ ⟨rfl,rfl⟩;refine aF J (cF (([40]++ct eK (l.take (k)))++[109,117,116,101,120,32]) (ew l[k].ref) J J J J J) (go 6 ?_);refine bJ J (go 2 ?_);exact ⟨Y,(av J (bv Y) (av J (fH (by rw [pp eK l k Y,if_pos Y];rw [tU h11];simp)) (ao J)))⟩
  refine aF J (cI (bF h11) (jh J J isAgg4 sizeOf4 J)) (go 4 ?_);have hmx:=h11;have hri:(bX l[k].expr).length <= 1000000000000000:=by have h9:=hci;rw [ua hmx] at h9;omega
  refine go 3 ?_;refine aF J (bS dA dA l mj (λ_=>J) k J J J J Y V runUnderlying118 sizeOf135) (go 2 ?_);refine cy J call135 J (qa _ l[k].expr (bW _) Y hsa.2 (qK (hoa.2 hmx)) Y _) ?_;rintro _ _ ⟨rfl,rfl⟩;refine aF J (cF ([40]++ct eK (l.take (k))) (bX l[k].expr) J J J J J) (go 6 ?_);refine bJ J (go 2 ?_);exact ⟨Y,(av J (bv Y) (av J (fH (by rw [pp eK l k Y,if_pos Y];rw [ua h11];simp)) (ao J)))⟩
 refine aC false J (cg h1) (go 11 ?_);refine aF J (cF ([40]++ct eK (l.take (k))) [41] J J J J J) (go 4 ?_);exact aw (s':=⟨bx,rw⟩) J dm ⟨lH (by unfold f8;rw [take_of_length_le Y]),J⟩
def yk{tabs:List UInt8}{s:aL}(h:s.kind=1):dQ tabs s=tabs++([118,97,114,32]++s.name.data.toList++[32,61,32]++bX s.expr++[59])++[10]:=by
 obtain ⟨kind,name,e,r,args,t,el⟩:=s;obtain rfl:kind=1:=h;rw [dQ];rfl
def yU{tabs:List UInt8}{s:aL}(h:s.kind=2):dQ tabs s=tabs++(s.name.data.toList++[32,61,32]++bX s.expr++[59])++[10]:=by
 obtain ⟨kind,name,e,r,args,t,el⟩:=s;obtain rfl:kind=2:=h;rw [dQ];rfl
def vX{tabs:List UInt8}{s:aL}(h:s.kind=3):dQ tabs s=tabs++(s.name.data.toList++f8 s.args++[59])++[10]:=by
 obtain ⟨kind,name,e,r,args,t,el⟩:=s;obtain rfl:kind=3:=h;rw [dQ];rfl
def wy{tabs:List UInt8}{s:aL}(h:s.kind=4):dQ tabs s=tabs++([103,111,32]++s.name.data.toList++f8 s.args++[59])++[10]:=by
 obtain ⟨kind,name,e,r,args,t,el⟩:=s;obtain rfl:kind=4:=h;rw [dQ];rfl
def xf{tabs:List UInt8}{s:aL}(h:s.kind=5):dQ tabs s=tabs++([108,111,99,107,32]++ew s.ref++[59])++[10]:=by
 obtain ⟨kind,name,e,r,args,t,el⟩:=s;obtain rfl:kind=5:=h;rw [dQ];rfl
def yf{tabs:List UInt8}{s:aL}(h:s.kind=6):dQ tabs s=tabs++([117,110,108,111,99,107,32]++ew s.ref++[59])++[10]:=by
 obtain ⟨kind,name,e,r,args,t,el⟩:=s;obtain rfl:kind=6:=h;rw [dQ];rfl
def ue{tabs:List UInt8}{s:aL}(h:s.kind=7):dQ tabs s=tabs++([105,102,32]++bX s.expr++[32,123,10]++bH (tabs++[9]) s.thn++tabs++[125]++(if s.els.length=0 then [] else [32,101,108,115,101,32,123,10]++bH (tabs++[9]) s.els++tabs++[125]))++[10]:=by
 obtain ⟨kind,name,e,r,args,t,el⟩:=s;obtain rfl:kind=7:=h;rw [dQ];rfl
def uu{tabs:List UInt8}{s:aL}(h:s.kind=8):dQ tabs s=tabs++([119,104,105,108,101,32]++bX s.expr++[32,123,10]++bH (tabs++[9]) s.thn++tabs++[125]++(if s.els.length=0 then [] else [32,101,108,115,101,32,123,10]++bH (tabs++[9]) s.els++tabs++[125]))++[10]:=by
 obtain ⟨kind,name,e,r,args,t,el⟩:=s;obtain rfl:kind=8:=h;rw [dQ];rfl
def x_{tabs:List UInt8}{s:aL}(h:¬s.kind=1 /\ ¬s.kind=2 /\ ¬s.kind=3 /\ ¬s.kind=4 /\ ¬s.kind=5 /\ ¬s.kind=6 /\ ¬s.kind=7 /\ ¬s.kind=8):dQ tabs s=tabs++[114,101,116,117,114,110,59]++[10]:=by
 obtain ⟨kind,name,e,r,args,t,el⟩:=s;obtain ⟨h1,h2,h3,h4,h5,h6,h7,h8⟩:=h;simp only [aL.kind] at h1 h2 h3 h4 h5 h6 h7 h8;rw [dQ,if_neg h1,if_neg h2,if_neg h3,if_neg h4,if_neg h5,if_neg h6,if_neg (λh=>h.elim h7 h8)]
def lZ(tabs:List UInt8)(l:List aL)(k:Nat)(hk:k<l.length):bH tabs (l.take (k+1))=bH tabs (l.take k)++dQ tabs l[k]:=by
 rw [ga hk,Mh,bH,bH,eC]
def Ag(tabs:List UInt8):∀(l:List aL)(k:Nat),(bH tabs (l.take k)).length <= (bH tabs l).length
 |[],k=>aK
 |s::l,0=>by rw [lM,bH];simp
 |s::l,k+1=>by have:=Ag tabs l k;rw [jI,bH,bH,length_append,length_append];omega
def ND(tabs:List UInt8)(l:List aL)(k:Nat)(hk:k<l.length):(dQ tabs l[k]).length <= (bH tabs l).length:=by
 have h1:=Ag tabs l (k+1);rw [lZ tabs l k hk,length_append] at h1;omega
structure KO (D:Nat) (s:aL):Prop where
 name:s.name.data.toList.length <= 4611686018427387904
 expr:(s.kind=1∨s.kind=2∨s.kind=7∨s.kind=8) -> dc s.expr=true
 ref:(s.kind=5∨s.kind=6) -> okRefB s.ref=true
 args:∀a,a∈s.args -> eh a=true
 thn:(s.kind=7∨s.kind=8) -> cn (D+1) s.thn=true
 els:s.els.length=0∨cn (D+1) s.els=true
 saneE:s.expr.sane
 saneR:s.ref.sane
 saneA:∀a,a∈s.args -> a.sane
 saneT:fA s.thn
 saneF:fA s.els
def EF(D:Nat):∀(l:List aL),cn D l=true -> ∀s,s∈l -> fC D s=true
 |[],_,s,h=>gM
 |x::l,h,s,hs=>by
  rw [cn,cz] at h;rcases mem_cons.1 hs with rfl|hs
  ·exact h.1
  exact EF D l h.2 s hs
def wN{D:Nat}{s:aL}(hs:s.sane)(h:fC D s=true):KO D s:=by
 obtain ⟨k,n,e,r,args,t,el⟩:=s;rw [aL.sane] at hs;rw [fC] at h;obtain ⟨hn,he,hr,ha,ht,hel⟩:=hs;simp only [cz,lT,decide_eq_true_eq] at h;obtain ⟨⟨⟨⟨⟨⟨⟨h1,h2⟩,h3⟩,h4⟩,h5⟩,h6⟩,h7⟩,h8⟩:=h;exact ⟨hn,λhp=>by
  have hp:k=1∨k=2∨k=7∨k=8:=hp;rw [if_pos hp] at h3;exact qK h3,λhp=>by
  have hp:k=5∨k=6:=hp
  rwa [if_pos hp] at h4,d3.1 h6,λhp=>by
  have hp:k=7∨k=8:=hp
  rwa [if_pos hp] at h7,h8.imp id (λh=>h.2),he,hr,ha,ht,hel⟩
def G8(D:Nat)(l:List aL)(tabs:List UInt8)(hok:cn D l=true)(hs:fA l)(hw:bQ l <= 900000000)(ht:tabs.length <= 1000)(hL:(bH tabs l).length <= 1000000000000000)(ih1:∀k (h:k<l.length),cn (D+1) l[k].thn=true -> (bH (tabs++[9]) l[k].thn).length <= 1000000000000000 -> ∀s:aH,aR prog 101 [.c (aB encS l[k].thn),cB (bytes (tabs++[9]))] [] s λt s'=>t=cB (bytes (bH (tabs++[9]) l[k].thn)) /\ s'=s)(ih2:∀k (h:k<l.length),cn (D+1) l[k].els=true -> (bH (tabs++[9]) l[k].els).length <= 1000000000000000 -> ∀s:aH,aR prog 101 [.c (aB encS l[k].els),cB (bytes (tabs++[9]))] [] s λt s'=>t=cB (bytes (bH (tabs++[9]) l[k].els)) /\ s'=s)(s:aH):aR prog 101 [.c (aB encS l),cB (bytes tabs)] [] s λt s'=>t=cB (bytes (bH tabs l)) /\ s'=s:=by
 obtain ⟨bx,rw⟩:=s;have hll:=nY l;have hnil:bH tabs []=[]:=by rw [bH]
 refine bN 133 func101 ?_;refine go 17 ?_;refine lc (l.length) 6 (λk=>[(5,cB (bytes (bH tabs (l.take (k))))),(0,.c (aB encS l)),(1,cB (bytes tabs))]) (ao J) λk hk=>?_;show bo prog _ ⟨133,_,_,(6,aX k)::[(5,cB (bytes (bH tabs (l.take (k))))),(0,.c (aB encS l)),(1,cB (bytes tabs))]⟩ _;have hmo:=Ag tabs l k;refine go 6 ?_;by_cases h1:((k:Nat):Int)<((l.length:Nat):Int)
 ·refine aC true J (ck h1) (go 9 ?_);have hlt:k<l.length:=Y;have ok:=wN (sA _ hs _ (getElem_mem hlt)) (EF D l hok _ (getElem_mem hlt));have hwk:=pE l k hlt;rw [f6] at hwk;unfold cD.wt at hwk;have hsl:=ND tabs l k hlt;have hnm:=ok.name;refine go 2 ?_;refine aF J (bS encS dW l nj mg k J J J J Y V runUnderlying65 sizeOf120) (go 9 λb1=>?_);refine aF J (cF (bH tabs (l.take (k))) tabs J J J J J) (go 13 ?_);by_cases h3:l[k].kind=1
  ·refine aC true J (bg h3) (go 4 ?_);refine b_ [b1] ?_;have hq:=hsl;rw [yk h3] at hq;simp only [length_append] at hq;refine aY [0] 11 (go 2 ?_);refine ab 1 J (cF ((bH tabs (l.take (k)))++tabs) [118,97,114,32] J J J J J) (aY [2,3] 8 (go 3 ?_));refine ab 4 J (cF (((bH tabs (l.take (k)))++tabs)++[118,97,114,32]) l[k].name.data.toList J J J J (back _)) ?_;refine ab 5 J (cF ((((bH tabs (l.take (k)))++tabs)++[118,97,114,32])++l[k].name.data.toList) [32,61,32] J J J J J) (aY [6,7] 4 (go 3 ?_));refine an 8 J J (fX J J V call135 J (qa _ l[k].expr (bW _) Y ok.saneE (ok.expr Y) Y _) ?_);rintro _ _ ⟨rfl,rfl⟩;refine ab 9 J (cF (((((bH tabs (l.take (k)))++tabs)++[118,97,114,32])++l[k].name.data.toList)++[32,61,32]) (bX l[k].expr) J J J J J) ?_;refine ab 10 J (cF ((((((bH tabs (l.take (k)))++tabs)++[118,97,114,32])++l[k].name.data.toList)++[32,61,32])++(bX l[k].expr)) [59] J J J J J) (aY [11] 0 (go 2 ?_));refine bG (go 4 ?_);refine aF J (cF (((((((bH tabs (l.take (k)))++tabs)++[118,97,114,32])++l[k].name.data.toList)++[32,61,32])++(bX l[k].expr))++[59]) [10] J J J J J) (go 6 ?_);refine bJ J (go 2 ?_);exact ⟨Y,az (h1:=(.cons _ (.refl _))) (h:=av J (bv Y) (av J (fH (by rw [lZ tabs l k Y,yk h3];simp only [append_assoc,eC,dw,eD])) (ao J))) (λb hb=>dT _ (hb))⟩
  refine aC false J (bZ h3) (go 6 ?_);by_cases h7:l[k].kind=2
  ·refine aC true J (bg h7) (go 4 ?_);refine b_ [b1] ?_;have hq:=hsl;rw [yU h7] at hq;simp only [length_append] at hq;refine aY [0,1,2] 8 (go 4 ?_);refine ab 3 J (cF ((bH tabs (l.take (k)))++tabs) l[k].name.data.toList J J J J (back _)) ?_;refine ab 4 J (cF (((bH tabs (l.take (k)))++tabs)++l[k].name.data.toList) [32,61,32] J J J J J) (aY [5,6] 4 (go 3 ?_));refine an 7 J J (fX J J V call135 J (qa _ l[k].expr (bW _) Y ok.saneE (ok.expr Y) Y _) ?_);rintro _ _ ⟨rfl,rfl⟩;refine ab 8 J (cF ((((bH tabs (l.take (k)))++tabs)++l[k].name.data.toList)++[32,61,32]) (bX l[k].expr) J J J J J) ?_;refine ab 9 J (cF (((((bH tabs (l.take (k)))++tabs)++l[k].name.data.toList)++[32,61,32])++(bX l[k].expr)) [59] J J J J J) (aY [10] 0 (go 2 ?_));refine bG (go 4 ?_);refine aF J (cF ((((((bH tabs (l.take (k)))++tabs)++l[k].name.data.toList)++[32,61,32])++(bX l[k].expr))++[59]) [10] J J J J J) (go 6 ?_);refine bJ J (go 2 ?_);exact ⟨Y,az (h1:=(.cons _ (.refl _))) (h:=av J (bv Y) (av J (fH (by rw [lZ tabs l k Y,yU h7];simp only [append_assoc,eC,dw,eD])) (ao J))) (λb hb=>dT _ (hb))⟩
  refine aC false J (bZ h7) (go 6 ?_);by_cases h11:l[k].kind=3
  ·refine aC true J (bg h11) (go 4 ?_);refine b_ [b1] ?_;have hq:=hsl;rw [vX h11] at hq;simp only [length_append] at hq;refine aY [0,1,2] 7 (go 4 ?_);refine ab 3 J (cF ((bH tabs (l.take (k)))++tabs) l[k].name.data.toList J J J J (back _)) (aY [4,5] 4 (go 3 ?_));refine an 6 J J (fX J J V call136 J (LY l[k].args ok.args ok.saneA Y Y _) ?_);rintro _ _ ⟨rfl,rfl⟩;refine ab 7 J (cF (((bH tabs (l.take (k)))++tabs)++l[k].name.data.toList) (f8 l[k].args) J J J J J) ?_;refine ab 8 J (cF ((((bH tabs (l.take (k)))++tabs)++l[k].name.data.toList)++(f8 l[k].args)) [59] J J J J J) (aY [9] 0 (go 2 ?_));refine bG (go 4 ?_);refine aF J (cF (((((bH tabs (l.take (k)))++tabs)++l[k].name.data.toList)++(f8 l[k].args))++[59]) [10] J J J J J) (go 6 ?_);refine bJ J (go 2 ?_);exact ⟨Y,az (h1:=(.cons _ (.refl _))) (h:=av J (bv Y) (av J (fH (by rw [lZ tabs l k Y,vX h11];simp only [append_assoc,eC,dw,eD])) (ao J))) (λb hb=>dT _ (hb))⟩
  refine aC false J (bZ h11) (go 6 ?_);by_cases h15:l[k].kind=4
  ·refine aC true J (bg h15) (go 4 ?_);refine b_ [b1] ?_;have hq:=hsl;rw [wy h15] at hq;simp only [length_append] at hq;refine aY [0] 10 (go 2 ?_);refine ab 1 J (cF ((bH tabs (l.take (k)))++tabs) [103,111,32] J J J J J) (aY [2,3] 7 (go 3 ?_));refine ab 4 J (cF (((bH tabs (l.take (k)))++tabs)++[103,111,32]) l[k].name.data.toList J J J J (back _)) (aY [5,6] 4 (go 3 ?_));refine an 7 J J (fX J J V call136 J (LY l[k].args ok.args ok.saneA Y Y _) ?_);rintro _ _ ⟨rfl,rfl⟩;refine ab 8 J (cF ((((bH tabs (l.take (k)))++tabs)++[103,111,32])++l[k].name.data.toList) (f8 l[k].args) J J J J J) ?_;refine ab 9 J (cF (((((bH tabs (l.take (k)))++tabs)++[103,111,32])++l[k].name.data.toList)++(f8 l[k].args)) [59] J J J J J) (aY [10] 0 (go 2 ?_));refine bG (go 4 ?_);refine aF J (cF ((((((bH tabs (l.take (k)))++tabs)++[103,111,32])++l[k].name.data.toList)++(f8 l[k].args))++[59]) [10] J J J J J) (go 6 ?_);refine bJ J (go 2 ?_);exact ⟨Y,az (h1:=(.cons _ (.refl _))) (h:=av J (bv Y) (av J (fH (by rw [lZ tabs l k Y,wy h15];simp only [append_assoc,eC,dw,eD])) (ao J))) (λb hb=>dT _ (hb))⟩
  refine aC false J (bZ h15) (go 6 ?_);by_cases h19:l[k].kind=5
  ·refine aC true J (bg h19) (go 5 ?_);have hq:=hsl;rw [xf h19] at hq;simp only [length_append] at hq;refine go 1 ?_;refine aF J (cF ((bH tabs (l.take (k)))++tabs) [108,111,99,107,32] J J J J J) (go 2 ?_);refine cy J call137 J (zw l[k].ref (ok.ref Y) ok.saneR Y Y _) ?_;rintro _ _ ⟨rfl,rfl⟩;refine aF J (cF (((bH tabs (l.take (k)))++tabs)++[108,111,99,107,32]) (ew l[k].ref) J J J J J) ?_;refine aF J (cF ((((bH tabs (l.take (k)))++tabs)++[108,111,99,107,32])++(ew l[k].ref)) [59] J J J J J) (go 6 ?_);refine aF J (cF (((((bH tabs (l.take (k)))++tabs)++[108,111,99,107,32])++(ew l[k].ref))++[59]) [10] J J J J J) (go 6 ?_);refine bJ J (go 2 ?_);exact ⟨Y,az (h1:=(.cons _ (.refl _))) (h:=av J (bv Y) (av J (fH (by rw [lZ tabs l k Y,xf h19];simp only [append_assoc,eC,dw,eD])) (ao J))) (λb hb=>dT _ (hb))⟩
  refine aC false J (bZ h19) (go 6 ?_);by_cases h23:l[k].kind=6
  ·refine aC true J (bg h23) (go 5 ?_);have hq:=hsl;rw [yf h23] at hq;simp only [length_append] at hq;refine go 1 ?_;refine aF J (cF ((bH tabs (l.take (k)))++tabs) [117,110,108,111,99,107,32] J J J J J) (go 2 ?_);refine cy J call137 J (zw l[k].ref (ok.ref Y) ok.saneR Y Y _) ?_;rintro _ _ ⟨rfl,rfl⟩;refine aF J (cF (((bH tabs (l.take (k)))++tabs)++[117,110,108,111,99,107,32]) (ew l[k].ref) J J J J J) ?_;refine aF J (cF ((((bH tabs (l.take (k)))++tabs)++[117,110,108,111,99,107,32])++(ew l[k].ref)) [59] J J J J J) (go 6 ?_);refine aF J (cF (((((bH tabs (l.take (k)))++tabs)++[117,110,108,111,99,107,32])++(ew l[k].ref))++[59]) [10] J J J J J) (go 6 ?_);refine bJ J (go 2 ?_);exact ⟨Y,az (h1:=(.cons _ (.refl _))) (h:=av J (bv Y) (av J (fH (by rw [lZ tabs l k Y,yf h23];simp only [append_assoc,eC,dw,eD])) (ao J))) (λb hb=>dT _ (hb))⟩
  refine aC false J (bZ h23) (go 7 ?_);by_cases h27:l[k].kind=7
  ·refine aC true J (bg h27) (go 17 ?_);refine aC false J (bZ Y) (go 6 ?_);refine b_ [b1] ?_;have hq:=hsl;rw [ue h27] at hq;simp only [length_append] at hq;refine aY [0,1] 16 (go 3 ?_);refine ab 2 J (cF ((bH tabs (l.take (k)))++tabs) [105,102,32] J J J J J) (aY [3,4,8,9,10] 10 (go 6 ?_));refine ab 11 J (cF tabs [9] J J J J J) (aY [14] 8 (go 2 ?_));refine an 5 J J (fX J J V call135 J (qa _ l[k].expr (bW _) Y ok.saneE (ok.expr Y) Y _) ?_);rintro _ _ ⟨rfl,rfl⟩;refine ab 6 J (cF (((bH tabs (l.take (k)))++tabs)++[105,102,32]) (bX l[k].expr) J J J J J) ?_;refine ab 7 J (cF ((((bH tabs (l.take (k)))++tabs)++[105,102,32])++(bX l[k].expr)) [32,123,10] J J J J J) ?_;refine an 12 J J (fX J J V call101 J (ih1 k Y (ok.thn Y) Y _) ?_);rintro _ _ ⟨rfl,rfl⟩;refine ab 13 J (cF (((((bH tabs (l.take (k)))++tabs)++[105,102,32])++(bX l[k].expr))++[32,123,10]) (bH (tabs++[9]) l[k].thn) J J J J J) ?_;refine ab 15 J (cF ((((((bH tabs (l.take (k)))++tabs)++[105,102,32])++(bX l[k].expr))++[32,123,10])++(bH (tabs++[9]) l[k].thn)) tabs J J J J J) ?_;refine ab 16 J (cF (((((((bH tabs (l.take (k)))++tabs)++[105,102,32])++(bX l[k].expr))++[32,123,10])++(bH (tabs++[9]) l[k].thn))++tabs) [125] J J J J J) (aY [17] 0 (go 2 ?_));refine bG (go 6 ?_);by_cases h33:(0:Int)<((l[k].els.length:Nat):Int)
   ·refine aC true J (ek h33) (go 4 ?_);rw [if_neg Y] at hq;simp only [length_append] at hq;refine go 1 ?_;refine aF J (cF ((((((((bH tabs (l.take (k)))++tabs)++[105,102,32])++(bX l[k].expr))++[32,123,10])++(bH (tabs++[9]) l[k].thn))++tabs)++[125]) [32,101,108,115,101,32,123,10] J J J J J) (go 3 ?_);refine aF J (cF tabs [9] J J J J J) ?_;refine cy J call101 J (ih2 k Y (ok.els.resolve_left Y) Y _) ?_;rintro _ _ ⟨rfl,rfl⟩;refine aF J (cF (((((((((bH tabs (l.take (k)))++tabs)++[105,102,32])++(bX l[k].expr))++[32,123,10])++(bH (tabs++[9]) l[k].thn))++tabs)++[125])++[32,101,108,115,101,32,123,10]) (bH (tabs++[9]) l[k].els) J J J J J) (go 1 ?_);refine aF J (cF ((((((((((bH tabs (l.take (k)))++tabs)++[105,102,32])++(bX l[k].expr))++[32,123,10])++(bH (tabs++[9]) l[k].thn))++tabs)++[125])++[32,101,108,115,101,32,123,10])++(bH (tabs++[9]) l[k].els)) tabs J J J J J) ?_;refine aF J (cF (((((((((((bH tabs (l.take (k)))++tabs)++[105,102,32])++(bX l[k].expr))++[32,123,10])++(bH (tabs++[9]) l[k].thn))++tabs)++[125])++[32,101,108,115,101,32,123,10])++(bH (tabs++[9]) l[k].els))++tabs) [125] J J J J J) (go 6 ?_);refine aF J (cF ((((((((((((bH tabs (l.take (k)))++tabs)++[105,102,32])++(bX l[k].expr))++[32,123,10])++(bH (tabs++[9]) l[k].thn))++tabs)++[125])++[32,101,108,115,101,32,123,10])++(bH (tabs++[9]) l[k].els))++tabs)++[125]) [10] J J J J J) (go 6 ?_);refine bJ J (go 2 ?_);exact ⟨Y,az (h1:=(.cons _ (.refl _))) (h:=av J (bv Y) (av J (fH (by rw [lZ tabs l k Y,ue h27,if_neg Y];simp only [append_assoc,eC,dw,eD])) (ao J))) (λb hb=>dT _ (hb))⟩
   refine aC false J (em h33) (go 8 ?_);refine aF J (cF ((((((((bH tabs (l.take (k)))++tabs)++[105,102,32])++(bX l[k].expr))++[32,123,10])++(bH (tabs++[9]) l[k].thn))++tabs)++[125]) [10] J J J J J) (go 6 ?_);refine bJ J (go 2 ?_);exact ⟨Y,az (h1:=(.cons _ (.refl _))) (h:=av J (bv Y) (av J (fH (by rw [lZ tabs l k Y,ue h27,if_pos Y];simp only [append_assoc,eC,dw,eD])) (ao J))) (λb hb=>dT _ (hb))⟩
  refine aC false J (bZ h27) (go 5 ?_);by_cases h38:l[k].kind=8
  ·refine aC true J (bg h38) (go 14 ?_);refine aC true J (bg h38) (go 8 ?_);refine b_ [b1] ?_;have hq:=hsl;rw [uu h38] at hq;simp only [length_append] at hq;refine aY [0,1] 16 (go 3 ?_);refine ab 2 J (cF ((bH tabs (l.take (k)))++tabs) [119,104,105,108,101,32] J J J J J) (aY [3,4,8,9,10] 10 (go 6 ?_));refine ab 11 J (cF tabs [9] J J J J J) (aY [14] 8 (go 2 ?_));refine an 5 J J (fX J J V call135 J (qa _ l[k].expr (bW _) Y ok.saneE (ok.expr Y) Y _) ?_);rintro _ _ ⟨rfl,rfl⟩;refine ab 6 J (cF (((bH tabs (l.take (k)))++tabs)++[119,104,105,108,101,32]) (bX l[k].expr) J J J J J) ?_;refine ab 7 J (cF ((((bH tabs (l.take (k)))++tabs)++[119,104,105,108,101,32])++(bX l[k].expr)) [32,123,10] J J J J J) ?_;refine an 12 J J (fX J J V call101 J (ih1 k Y (ok.thn Y) Y _) ?_);rintro _ _ ⟨rfl,rfl⟩;refine ab 13 J (cF (((((bH tabs (l.take (k)))++tabs)++[119,104,105,108,101,32])++(bX l[k].expr))++[32,123,10]) (bH (tabs++[9]) l[k].thn) J J J J J) ?_;refine ab 15 J (cF ((((((bH tabs (l.take (k)))++tabs)++[119,104,105,108,101,32])++(bX l[k].expr))++[32,123,10])++(bH (tabs++[9]) l[k].thn)) tabs J J J J J) ?_;refine ab 16 J (cF (((((((bH tabs (l.take (k)))++tabs)++[119,104,105,108,101,32])++(bX l[k].expr))++[32,123,10])++(bH (tabs++[9]) l[k].thn))++tabs) [125] J J J J J) (aY [17] 0 (go 2 ?_));refine bG (go 6 ?_);by_cases h43:(0:Int)<((l[k].els.length:Nat):Int)
   ·refine aC true J (ek h43) (go 4 ?_);rw [if_neg Y] at hq;simp only [length_append] at hq;refine go 1 ?_;refine aF J (cF ((((((((bH tabs (l.take (k)))++tabs)++[119,104,105,108,101,32])++(bX l[k].expr))++[32,123,10])++(bH (tabs++[9]) l[k].thn))++tabs)++[125]) [32,101,108,115,101,32,123,10] J J J J J) (go 3 ?_);refine aF J (cF tabs [9] J J J J J) ?_;refine cy J call101 J (ih2 k Y (ok.els.resolve_left Y) Y _) ?_;rintro _ _ ⟨rfl,rfl⟩;refine aF J (cF (((((((((bH tabs (l.take (k)))++tabs)++[119,104,105,108,101,32])++(bX l[k].expr))++[32,123,10])++(bH (tabs++[9]) l[k].thn))++tabs)++[125])++[32,101,108,115,101,32,123,10]) (bH (tabs++[9]) l[k].els) J J J J J) (go 1 ?_);refine aF J (cF ((((((((((bH tabs (l.take (k)))++tabs)++[119,104,105,108,101,32])++(bX l[k].expr))++[32,123,10])++(bH (tabs++[9]) l[k].thn))++tabs)++[125])++[32,101,108,115,101,32,123,10])++(bH (tabs++[9]) l[k].els)) tabs J J J J J) ?_;refine aF J (cF (((((((((((bH tabs (l.take (k)))++tabs)++[119,104,105,108,101,32])++(bX l[k].expr))++[32,123,10])++(bH (tabs++[9]) l[k].thn))++tabs)++[125])++[32,101,108,115,101,32,123,10])++(bH (tabs++[9]) l[k].els))++tabs) [125] J J J J J) (go 6 ?_);refine aF J (cF ((((((((((((bH tabs (l.take (k)))++tabs)++[119,104,105,108,101,32])++(bX l[k].expr))++[32,123,10])++(bH (tabs++[9]) l[k].thn))++tabs)++[125])++[32,101,108,115,101,32,123,10])++(bH (tabs++[9]) l[k].els))++tabs)++[125]) [10] J J J J J) (go 6 ?_);refine bJ J (go 2 ?_);exact ⟨Y,az (h1:=(.cons _ (.refl _))) (h:=av J (bv Y) (av J (fH (by rw [lZ tabs l k Y,uu h38,if_neg Y];simp only [append_assoc,eC,dw,eD])) (ao J))) (λb hb=>dT _ (hb))⟩
   refine aC false J (em h43) (go 8 ?_);refine aF J (cF ((((((((bH tabs (l.take (k)))++tabs)++[119,104,105,108,101,32])++(bX l[k].expr))++[32,123,10])++(bH (tabs++[9]) l[k].thn))++tabs)++[125]) [10] J J J J J) (go 6 ?_);refine bJ J (go 2 ?_);exact ⟨Y,az (h1:=(.cons _ (.refl _))) (h:=av J (bv Y) (av J (fH (by rw [lZ tabs l k Y,uu h38,if_pos Y];simp only [append_assoc,eC,dw,eD])) (ao J))) (λb hb=>dT _ (hb))⟩
  refine aC false J (bZ h38) (go 5 ?_);have hq:=hsl;rw [x_ ⟨h3,h7,h11,h15,h19,h23,h27,h38⟩] at hq;simp only [length_append] at hq;refine go 1 ?_;refine aF J (cF ((bH tabs (l.take (k)))++tabs) [114,101,116,117,114,110,59] J J J J J) (go 6 ?_);refine aF J (cF (((bH tabs (l.take (k)))++tabs)++[114,101,116,117,114,110,59]) [10] J J J J J) (go 6 ?_);refine bJ J (go 2 ?_);exact ⟨Y,az (h1:=(.cons _ (.refl _))) (h:=av J (bv Y) (av J (fH (by rw [lZ tabs l k Y,x_ ⟨h3,h7,h11,h15,h19,h23,h27,h38⟩];simp only [append_assoc,eC,dw,eD])) (ao J))) (λb hb=>dT _ (hb))⟩
 refine aC false J (cg h1) (go 15 ?_);exact aw (s':=⟨bx,rw⟩) J dm ⟨lH (by rw [take_of_length_le Y]),J⟩
def Dn:∀(N:Nat)(D:Nat)(l:List aL)(tabs:List UInt8),bQ l <= N -> N <= 900000000 -> cn D l=true -> fA l -> tabs.length <= D+1 -> (bH tabs l).length <= 1000000000000000 -> ∀s:aH,aR prog 101 [.c (aB encS l),cB (bytes tabs)] [] s λt s'=>t=cB (bytes (bH tabs l)) /\ s'=s
 |0,D,l,tabs,hw,hN,hok,hs,ht,hL,s=>by
  have hD:=sD D l hok;have h0:=nY l;exact G8 D l tabs hok hs Y Y hL xb xb s
 |N+1,D,l,tabs,hw,hN,hok,hs,ht,hL,s=>by
  have hD:=sD D l hok;have hp:∀k (hk:k<l.length),bQ l[k].thn <= N /\ bQ l[k].els <= N /\ KO D l[k]:=λk hk=>by
   have h3:=pE l k hk;rw [f6] at h3;exact ⟨Y,Y,wN (sA _ hs _ (getElem_mem hk)) (EF D l hok _ (getElem_mem hk))⟩
  exact G8 D l tabs hok hs Y Y hL (λk hk h1 h2 s=>Dn N (D+1) l[k].thn (tabs++[9]) (hp k hk).1 Y h1 (hp k hk).2.2.saneT di h2 s)
   (λk hk h1 h2 s=>Dn N (D+1) l[k].els (tabs++[9]) (hp k hk).2.1 Y h1 (hp k hk).2.2.saneF di h2 s) s
def lD{α:Type}(f:α -> List UInt8)(l:List α)(k:Nat)(hk:k<l.length):((l.take (k+1)).map f).flatten=((l.take k).map f).flatten++f l[k]:=by
 rw [ga hk,ed,wQ];simp
def uP{α:Type}(f:α -> List UInt8):∀(l:List α)(k:Nat),(((l.take k).map f).flatten).length <= ((l.map f).flatten).length
 |[],k=>aK
 |x::l,0=>aK
 |x::l,k+1=>by have:=uP f l k;simp only [jI,cd,iL,length_append];omega
def SB{α:Type}(f:α -> List UInt8)(l:List α)(k:Nat)(h:k<l.length):(f l[k]).length <= ((l.map f).flatten).length:=by
 have h1:=uP f l (k+1);rw [lD f l k h,length_append] at h1;omega
def bE.wt(f:bE):Nat:=1+f.params.length+bQ f.body
def aZ.wt(p:aZ):Nat:=p.globals.length+p.mutexes.length+(p.funcs.map bE.wt).sum
def pT{α:Type}(f:α -> Nat):∀(l:List α)(k:Nat)(h:k<l.length),f l[k] <= (l.map f).sum
 |x::l,0,_=>aK
 |x::l,k+1,h=>by have:=pT f l k iW;simp only [cd,rf,List.getElem_cons_succ];omega
def oe{α:Type}(f:α -> Nat)(hf:∀x,1 <= f x):∀(l:List α),l.length <= (l.map f).sum
 |[]=>aK
 |x::l=>by have:=oe f hf l;have:=hf x;simp only [cd,rf,length_cons];omega
def iR(p:aZ):Bool:=decide (p.globals.length <= 16 /\ p.mutexes.length <= 12 /\ p.funcs.length <= 16) && p.globals.all j7 && p.mutexes.all g_ && p.funcs.all gB
def r8(p:aZ):gE p=(iR p && (fo (gG p)).isOk):=rfl
def A4{p:aZ}(h:iR p=true):∀f,f∈p.funcs -> cn 0 f.body=true /\ f.params.length <= 6:=by
 intro f hf;unfold iR at h;simp only [cz] at h;have h2:=d3.1 h.2 f hf;unfold gB at h2;simp only [cz,decide_eq_true_eq] at h2;exact ⟨h2.1.2,h2.1.1.2⟩
def CH(f:bE):funcText f=[102,117,110,99,32]++f.name.data.toList++[40]++ct eF f.params++[41,32,123,10]++bH [9] f.body++[125,10]:=rfl
def BC{x:bp}(h:x.mutex=true):eF x=[109,117,116,101,120,32]++x.name.data.toList:=by unfold eF;rw [if_pos h]
def B_{x:bp}(h:x.mutex=false):eF x=x.name.data.toList:=by unfold eF;rw [if_neg mb];rfl
def yc{z:Int}(h:fit z):(eM z).length <= 21:=by
 unfold eM;have:=wI z.natAbs (by unfold fit at h;omega);split<;>simp<;>omega
def S5(p:aZ)(hv:iR p=true)(hs:p.sane)(hw:p.wt <= 900000000)(hL:(gG p).length <= 1000000000000000)(s:aH):aR prog 74 [.agg (eA p)] [] s λt s'=>t=cB (bytes (gG p)) /\ s'=s:=by
 obtain ⟨bx,rw⟩:=s;have hL1:=hL;unfold gG at hL1;simp only [length_append] at hL1;unfold aZ.wt at hw;have hfn:=oe bE.wt (λx=>pV) p.funcs;refine bN 131 func74 ?_;refine go 18 λb1=>?_;refine lc (p.globals.length) 4 (λk=>[(3,cB (bytes (((p.globals.take (k)).map cJ).flatten))),(1,aE b1)]) (ao J) λk hk=>?_;show bo prog _ ⟨131,_,_,(4,aX k)::[(3,cB (bytes (((p.globals.take (k)).map cJ).flatten))),(1,aE b1)]⟩ _;have hcm:=uP cJ p.globals k;refine go 7 ?_;by_cases h1:((k:Nat):Int)<((p.globals.length:Nat):Int)
 ·refine aC true J (ck h1) (go 9 ?_);have hkl:k<p.globals.length:=Y;have hgs:=hs.globals _ (getElem_mem hkl);have hnm:p.globals[k].name.data.toList.length <= 4611686018427387904:=hgs.2;have hnl:=yc hgs.1;refine go 1 ?_;refine aF J (cF (((p.globals.take (k)).map cJ).flatten) [118,97,114,32] J J J J J) (go 3 ?_);refine aF J (bS ak ak p.globals nD (λ_=>J) k J J J J Y V runUnderlying23 sizeOf63) (go 2 ?_);refine aF J (cF ((((p.globals.take (k)).map cJ).flatten)++[118,97,114,32]) p.globals[k].name.data.toList J J J J (back _)) (go 9 ?_);refine aF J (bS ak ak p.globals nD (λ_=>J) k J J J J Y V runUnderlying23 sizeOf63) (go 2 ?_);by_cases h3:p.globals[k].init=0
  ·refine aC false J (dv h3) (go 7 ?_);refine aF J (cF (((((p.globals.take (k)).map cJ).flatten)++[118,97,114,32])++p.globals[k].name.data.toList) [59,10] J J J J J) (go 6 ?_);refine bJ J (go 2 ?_);exact ⟨Y,(av J (bv Y) (av J (fH (by rw [lD cJ _ k Y];unfold cJ;rw [if_pos h3];simp only [append_assoc,eC,dw,eD])) (ao J)))⟩
  refine aC true J (fe h3) (go 5 ?_);refine aF J (cF (((((p.globals.take (k)).map cJ).flatten)++[118,97,114,32])++p.globals[k].name.data.toList) [32,61,32] J J J J J) (go 3 ?_);refine aF J (bS ak ak p.globals nD (λ_=>J) k J J J J Y V runUnderlying23 sizeOf63) (go 2 ?_);refine cy J call100 J (zf p.globals[k].init hgs.1 _) ?_;rintro _ _ ⟨rfl,rfl⟩;refine aF J (cF ((((((p.globals.take (k)).map cJ).flatten)++[118,97,114,32])++p.globals[k].name.data.toList)++[32,61,32]) (eM p.globals[k].init) J J J J J) (go 5 ?_);refine aF J (cF (((((((p.globals.take (k)).map cJ).flatten)++[118,97,114,32])++p.globals[k].name.data.toList)++[32,61,32])++(eM p.globals[k].init)) [59,10] J J J J J) (go 6 ?_);refine bJ J (go 2 ?_);exact ⟨Y,(av J (bv Y) (av J (fH (by rw [lD cJ _ k Y];unfold cJ;rw [if_neg h3];simp only [append_assoc,eC,dw,eD])) (ao J)))⟩
 refine aC false J (cg h1) (go 11 ?_);obtain rfl:k=p.globals.length:=Y;rw [take_of_length_le (bW _)];refine go 4 ?_;refine lc (p.mutexes.length) 5 (λi=>[(3,cB (bytes (((p.globals.map cJ).flatten)++((p.mutexes.take (i)).map cX).flatten))),(1,aE b1)]) (av J (.refl _) (av J (fH aK) (ao J))) λi hi=>?_;show bo prog _ ⟨131,_,_,(5,aX i)::[(3,cB (bytes (((p.globals.map cJ).flatten)++((p.mutexes.take (i)).map cX).flatten))),(1,aE b1)]⟩ _;have hcm:=uP cX p.mutexes i;refine go 7 ?_;by_cases h8:((i:Nat):Int)<((p.mutexes.length:Nat):Int)
 ·refine aC true J (ck h8) (go 9 ?_);have hil:i<p.mutexes.length:=Y;have hms:=hs.mutexes _ (getElem_mem hil);have hnm:p.mutexes[i].name.data.toList.length <= 4611686018427387904:=hms.2;have hnl:=yc hms.1;refine go 3 ?_;refine aF J (bS aU aU p.mutexes kI (λ_=>J) i J J J J Y V runUnderlying24 sizeOf60) (go 9 λb2=>?_);rcases bq (p.mutexes[i].reentrant) with h10|h10
  ·refine aF J (cI (bF h10) (ca [] isAgg4 sizeOf4)) (go 5 ?_);refine aF J (cF (((p.globals.map cJ).flatten)++((p.mutexes.take (i)).map cX).flatten) [114] J J J J J) (go 6 ?_);refine aF J (cF ((((p.globals.map cJ).flatten)++((p.mutexes.take (i)).map cX).flatten)++[114]) [109,117,116,101,120,32] J J J J J) (go 2 ?_);refine aF J (cF (((((p.globals.map cJ).flatten)++((p.mutexes.take (i)).map cX).flatten)++[114])++[109,117,116,101,120,32]) p.mutexes[i].name.data.toList J J J J (back _)) (go 8 ?_);by_cases h12:(0:Int)<p.mutexes[i].size
   ·refine aC true J (ek h12) (go 5 ?_);refine aF J (cF ((((((p.globals.map cJ).flatten)++((p.mutexes.take (i)).map cX).flatten)++[114])++[109,117,116,101,120,32])++p.mutexes[i].name.data.toList) [91] J J J J J) (go 2 ?_);refine cy J call100 J (zf p.mutexes[i].size hms.1 _) ?_;rintro _ _ ⟨rfl,rfl⟩;refine aF J (cF (((((((p.globals.map cJ).flatten)++((p.mutexes.take (i)).map cX).flatten)++[114])++[109,117,116,101,120,32])++p.mutexes[i].name.data.toList)++[91]) (eM p.mutexes[i].size) J J J J J) ?_;refine aF J (cF ((((((((p.globals.map cJ).flatten)++((p.mutexes.take (i)).map cX).flatten)++[114])++[109,117,116,101,120,32])++p.mutexes[i].name.data.toList)++[91])++(eM p.mutexes[i].size)) [93] J J J J J) (go 5 ?_);refine aF J (cF (((((((((p.globals.map cJ).flatten)++((p.mutexes.take (i)).map cX).flatten)++[114])++[109,117,116,101,120,32])++p.mutexes[i].name.data.toList)++[91])++(eM p.mutexes[i].size))++[93]) [59,10] J J J J J) (go 6 ?_);refine bJ J (go 2 ?_);exact ⟨Y,az (h1:=(.cons _ (.refl _))) (h:=av J (bv Y) (av J (fH (by rw [lD cX _ i Y];unfold cX;rw [if_pos h10,if_pos h12];simp only [append_assoc,eC,dw,eD])) (ao J))) (λb hb=>dT _ (hb))⟩
   refine aC false J (em h12) (go 7 ?_);refine aF J (cF ((((((p.globals.map cJ).flatten)++((p.mutexes.take (i)).map cX).flatten)++[114])++[109,117,116,101,120,32])++p.mutexes[i].name.data.toList) [59,10] J J J J J) (go 6 ?_);refine bJ J (go 2 ?_);exact ⟨Y,az (h1:=(.cons _ (.refl _))) (h:=av J (bv Y) (av J (fH (by rw [lD cX _ i Y];unfold cX;rw [if_pos h10,if_neg h12];simp only [append_assoc,eC,dw,eD])) (ao J))) (λb hb=>dT _ (hb))⟩
  refine aF J (cI (bF h10) (ca [] isAgg4 sizeOf4)) (go 8 ?_);refine aF J (cF (((p.globals.map cJ).flatten)++((p.mutexes.take (i)).map cX).flatten) [109,117,116,101,120,32] J J J J J) (go 2 ?_);refine aF J (cF ((((p.globals.map cJ).flatten)++((p.mutexes.take (i)).map cX).flatten)++[109,117,116,101,120,32]) p.mutexes[i].name.data.toList J J J J (back _)) (go 8 ?_);by_cases h17:(0:Int)<p.mutexes[i].size
  ·refine aC true J (ek h17) (go 5 ?_);refine aF J (cF (((((p.globals.map cJ).flatten)++((p.mutexes.take (i)).map cX).flatten)++[109,117,116,101,120,32])++p.mutexes[i].name.data.toList) [91] J J J J J) (go 2 ?_);refine cy J call100 J (zf p.mutexes[i].size hms.1 _) ?_;rintro _ _ ⟨rfl,rfl⟩;refine aF J (cF ((((((p.globals.map cJ).flatten)++((p.mutexes.take (i)).map cX).flatten)++[109,117,116,101,120,32])++p.mutexes[i].name.data.toList)++[91]) (eM p.mutexes[i].size) J J J J J) ?_;refine aF J (cF (((((((p.globals.map cJ).flatten)++((p.mutexes.take (i)).map cX).flatten)++[109,117,116,101,120,32])++p.mutexes[i].name.data.toList)++[91])++(eM p.mutexes[i].size)) [93] J J J J J) (go 5 ?_);refine aF J (cF ((((((((p.globals.map cJ).flatten)++((p.mutexes.take (i)).map cX).flatten)++[109,117,116,101,120,32])++p.mutexes[i].name.data.toList)++[91])++(eM p.mutexes[i].size))++[93]) [59,10] J J J J J) (go 6 ?_);refine bJ J (go 2 ?_);exact ⟨Y,az (h1:=(.cons _ (.refl _))) (h:=av J (bv Y) (av J (fH (by rw [lD cX _ i Y];unfold cX;rw [if_neg (by rw [h10];decide),if_pos h17];simp only [append_assoc,eC,dw,eD])) (ao J))) (λb hb=>dT _ (hb))⟩
  refine aC false J (em h17) (go 7 ?_);refine aF J (cF (((((p.globals.map cJ).flatten)++((p.mutexes.take (i)).map cX).flatten)++[109,117,116,101,120,32])++p.mutexes[i].name.data.toList) [59,10] J J J J J) (go 6 ?_);refine bJ J (go 2 ?_);exact ⟨Y,az (h1:=(.cons _ (.refl _))) (h:=av J (bv Y) (av J (fH (by rw [lD cX _ i Y];unfold cX;rw [if_neg (by rw [h10];decide),if_neg h17];simp only [append_assoc,eC,dw,eD])) (ao J))) (λb hb=>dT _ (hb))⟩
 refine aC false J (cg h8) (go 11 ?_);obtain rfl:i=p.mutexes.length:=Y;rw [take_of_length_le (bW _)];refine go 4 ?_;refine lc (p.funcs.length) 7 (λf=>[(3,cB (bytes (((p.globals.map cJ).flatten)++((p.mutexes.map cX).flatten)++((p.funcs.take (f)).map funcText).flatten))),(1,aE b1)]) (av J (.refl _) (av J (fH aK) (ao J))) λf hf=>?_;show bo prog _ ⟨131,_,_,(7,aX f)::[(3,cB (bytes (((p.globals.map cJ).flatten)++((p.mutexes.map cX).flatten)++((p.funcs.take (f)).map funcText).flatten))),(1,aE b1)]⟩ _;have hcm:=uP funcText p.funcs f;refine go 7 ?_;by_cases h22:((f:Nat):Int)<((p.funcs.length:Nat):Int)
 ·refine aC true J (ck h22) (go 9 ?_);have hfl:f<p.funcs.length:=Y;have hfs:=hs.funcs _ (getElem_mem hfl);have hnm:p.funcs[f].name.data.toList.length <= 4611686018427387904:=hfs.1;have hfi:=SB funcText p.funcs f hfl;have hfi2:=hfi;rw [CH p.funcs[f]] at hfi2;simp only [length_append] at hfi2;have hfw:=pT bE.wt p.funcs f hfl;rw [show bE.wt p.funcs[f]=1+p.funcs[f].params.length+bQ p.funcs[f].body from rfl] at hfw;have hfb:=A4 hv _ (getElem_mem hfl);refine go 3 ?_;refine aF J (bS ac ac p.funcs mI (λ_=>J) f J J J J Y V runUnderlying25 sizeOf67) (go 8 λb3=>?_);refine aF J (cF (((p.globals.map cJ).flatten)++((p.mutexes.map cX).flatten)++((p.funcs.take (f)).map funcText).flatten) [102,117,110,99,32] J J J J J) (go 2 ?_);refine aF J (cF ((((p.globals.map cJ).flatten)++((p.mutexes.map cX).flatten)++((p.funcs.take (f)).map funcText).flatten)++[102,117,110,99,32]) p.funcs[f].name.data.toList J J J J (back _)) ?_;refine aF J (cF (((((p.globals.map cJ).flatten)++((p.mutexes.map cX).flatten)++((p.funcs.take (f)).map funcText).flatten)++[102,117,110,99,32])++p.funcs[f].name.data.toList) [40] J J J J J) (go 10 ?_);refine lc (p.funcs[f].params.length) 9 (λj=>[(3,cB (bytes ((((p.globals.map cJ).flatten)++((p.mutexes.map cX).flatten)++((p.funcs.take (f)).map funcText).flatten)++[102,117,110,99,32]++p.funcs[f].name.data.toList++[40]++ct eF (p.funcs[f].params.take (j))))),(1,aE b1),(7,aX f),(8,aE b3)]) (av J (.refl _) (av J (fH sf) (ao J))) λj hj=>?_;show bo prog _ ⟨131,_,_,(9,aX j)::[(3,cB (bytes ((((p.globals.map cJ).flatten)++((p.mutexes.map cX).flatten)++((p.funcs.take (f)).map funcText).flatten)++[102,117,110,99,32]++p.funcs[f].name.data.toList++[40]++ct eF (p.funcs[f].params.take (j))))),(1,aE b1),(7,aX f),(8,aE b3)]⟩ _;have hcj:=CG eF p.funcs[f].params j;refine go 7 ?_;by_cases h24:((j:Nat):Int)<((p.funcs[f].params.length:Nat):Int)
  ·refine aC true J (ck h24) (go 10 ?_);have hjl:j<p.funcs[f].params.length:=Y;have hpn:p.funcs[f].params[j].name.data.toList.length <= 4611686018427387904:=hfs.2.1 _ (getElem_mem hjl);refine go 1 ?_;by_cases h26:(0:Int)<((j:Nat):Int)
   ·refine aC true J (ek h26) (go 5 ?_);refine aF J (cF ((((p.globals.map cJ).flatten)++((p.mutexes.map cX).flatten)++((p.funcs.take (f)).map funcText).flatten)++[102,117,110,99,32]++p.funcs[f].name.data.toList++[40]++ct eF (p.funcs[f].params.take (j))) [44,32] J J J J J) (go 9 ?_);refine aF J (bS cG cG p.funcs[f].params gx (λ_=>J) j J J J J Y V runUnderlying64 sizeOf69) (go 1 ?_);rcases bq (p.funcs[f].params[j].mutex) with h28|h28
    ·refine aF J (cI (bF h28) (jh J J isAgg4 sizeOf4 J)) (go 5 ?_);refine aF J (cF (((((p.globals.map cJ).flatten)++((p.mutexes.map cX).flatten)++((p.funcs.take (f)).map funcText).flatten)++[102,117,110,99,32]++p.funcs[f].name.data.toList++[40]++ct eF (p.funcs[f].params.take (j)))++[44,32]) [109,117,116,101,120,32] J J J J J) (go 8 ?_);refine aF J (bS cG cG p.funcs[f].params gx (λ_=>J) j J J J J Y V runUnderlying64 sizeOf69) (go 2 ?_);refine aF J (cF ((((((p.globals.map cJ).flatten)++((p.mutexes.map cX).flatten)++((p.funcs.take (f)).map funcText).flatten)++[102,117,110,99,32]++p.funcs[f].name.data.toList++[40]++ct eF (p.funcs[f].params.take (j)))++[44,32])++[109,117,116,101,120,32]) p.funcs[f].params[j].name.data.toList J J J J (back _)) (go 6 ?_);refine bJ J (go 2 ?_);exact ⟨Y,(av J (bv Y) (av J (fH (by rw [pp eF _ j Y,if_neg Y,BC h28];simp only [append_assoc,eC,dw,eD])) (ao J)))⟩
    refine aF J (cI (bF h28) (jh J J isAgg4 sizeOf4 J)) (go 10 ?_);refine aF J (bS cG cG p.funcs[f].params gx (λ_=>J) j J J J J Y V runUnderlying64 sizeOf69) (go 2 ?_);refine aF J (cF (((((p.globals.map cJ).flatten)++((p.mutexes.map cX).flatten)++((p.funcs.take (f)).map funcText).flatten)++[102,117,110,99,32]++p.funcs[f].name.data.toList++[40]++ct eF (p.funcs[f].params.take (j)))++[44,32]) p.funcs[f].params[j].name.data.toList J J J J (back _)) (go 6 ?_);refine bJ J (go 2 ?_);exact ⟨Y,(av J (bv Y) (av J (fH (by rw [pp eF _ j Y,if_neg Y,B_ h28];simp only [append_assoc,eC,dw,eD])) (ao J)))⟩
   refine aC false J (em h26) (go 11 ?_);refine aF J (bS cG cG p.funcs[f].params gx (λ_=>J) j J J J J Y V runUnderlying64 sizeOf69) (go 1 ?_);rcases bq (p.funcs[f].params[j].mutex) with h32|h32
   ·refine aF J (cI (bF h32) (jh J J isAgg4 sizeOf4 J)) (go 5 ?_);refine aF J (cF ((((p.globals.map cJ).flatten)++((p.mutexes.map cX).flatten)++((p.funcs.take (f)).map funcText).flatten)++[102,117,110,99,32]++p.funcs[f].name.data.toList++[40]++ct eF (p.funcs[f].params.take (j))) [109,117,116,101,120,32] J J J J J) (go 8 ?_);refine aF J (bS cG cG p.funcs[f].params gx (λ_=>J) j J J J J Y V runUnderlying64 sizeOf69) (go 2 ?_);refine aF J (cF (((((p.globals.map cJ).flatten)++((p.mutexes.map cX).flatten)++((p.funcs.take (f)).map funcText).flatten)++[102,117,110,99,32]++p.funcs[f].name.data.toList++[40]++ct eF (p.funcs[f].params.take (j)))++[109,117,116,101,120,32]) p.funcs[f].params[j].name.data.toList J J J J (back _)) (go 6 ?_);refine bJ J (go 2 ?_);exact ⟨Y,(av J (bv Y) (av J (fH (by rw [pp eF _ j Y,if_pos Y,BC h32];simp only [append_assoc,eC,dw,eD])) (ao J)))⟩
   refine aF J (cI (bF h32) (jh J J isAgg4 sizeOf4 J)) (go 10 ?_);refine aF J (bS cG cG p.funcs[f].params gx (λ_=>J) j J J J J Y V runUnderlying64 sizeOf69) (go 2 ?_);refine aF J (cF ((((p.globals.map cJ).flatten)++((p.mutexes.map cX).flatten)++((p.funcs.take (f)).map funcText).flatten)++[102,117,110,99,32]++p.funcs[f].name.data.toList++[40]++ct eF (p.funcs[f].params.take (j))) p.funcs[f].params[j].name.data.toList J J J J (back _)) (go 6 ?_);refine bJ J (go 2 ?_);exact ⟨Y,(av J (bv Y) (av J (fH (by rw [pp eF _ j Y,if_pos Y,B_ h32];simp only [append_assoc,eC,dw,eD])) (ao J)))⟩
  refine aC false J (cg h24) (go 9 ?_);obtain rfl:j=p.funcs[f].params.length:=Y;rw [take_of_length_le (bW _)];refine go 1 ?_;refine aF J (cF ((((p.globals.map cJ).flatten)++((p.mutexes.map cX).flatten)++((p.funcs.take (f)).map funcText).flatten)++[102,117,110,99,32]++p.funcs[f].name.data.toList++[40]++ct eF p.funcs[f].params) [41,32,123,10] J J J J J) (go 2 ?_);refine cy J call101 J (Dn _ 0 p.funcs[f].body [9] (bW _) Y hfb.1 hfs.2.2 V Y _) ?_;rintro _ _ ⟨rfl,rfl⟩;refine aF J (cF (((((p.globals.map cJ).flatten)++((p.mutexes.map cX).flatten)++((p.funcs.take (f)).map funcText).flatten)++[102,117,110,99,32]++p.funcs[f].name.data.toList++[40]++ct eF p.funcs[f].params)++[41,32,123,10]) (bH [9] p.funcs[f].body) J J J J J) ?_;refine aF J (cF ((((((p.globals.map cJ).flatten)++((p.mutexes.map cX).flatten)++((p.funcs.take (f)).map funcText).flatten)++[102,117,110,99,32]++p.funcs[f].name.data.toList++[40]++ct eF p.funcs[f].params)++[41,32,123,10])++(bH [9] p.funcs[f].body)) [125,10] J J J J J) (go 6 ?_);refine bJ J (go 2 ?_);exact ⟨Y,az (h1:=(.cons _ (.refl _))) (h:=av J (bv Y) (av J (fH (by rw [lD funcText _ f Y];unfold funcText;simp only [append_assoc,eC,dw,eD])) (ao J))) (λb hb=>dT _ (hb))⟩
 refine aC false J (cg h22) (go 10 ?_);obtain rfl:f=p.funcs.length:=Y;rw [take_of_length_le (bW _)];refine go 5 ?_;exact aw (s':=⟨bx,rw⟩) J cM ⟨lH J,J⟩
end
section
def lF(l:List bK)(x:bK)(s:aG):bI (l++[x]) s=match bI l s with|some v=>some v|none=>if x.name=s then some x else none:=by
 induction l with
 |nil=>rfl
 |cons y l ih=>
  rw [eD,bI,bI];by_cases h:y.name=s
  ·rw [if_pos h,if_pos h]
  rw [if_neg h,if_neg h,ih]
def oH.app{p:aZ}{l:List bK}(h:oH p l){x:bK}(h2:x.kind≠2)(h3:x.kind≠3):oH p (l++[x]):=by
 refine ⟨λs v hv hk=>?_,λs v hv hk=>?_⟩
 ·rw [lF] at hv;split at hv
  ·rename_i hf;cases hv;exact h.ms s _ hf hk
  split at hv
  ·cases hv;exact absurd hk h2
  cases hv
 rw [lF] at hv;split at hv
 ·rename_i hf;cases hv;exact h.fs s _ hf hk
 split at hv
 ·cases hv;exact absurd hk h3
 cases hv
structure dZ (p:aZ) (x:ah) (w:Nat):Prop where
 ents:oH p x.ents
 code:x.code.length+3*w <= 100000000
 sites:x.sites.length=x.code.length
 n:x.n+w <= 100000000
 loc:x.locals+w <= 100000000
 el:x.ents.length+w <= 100000000
section
variable {p:aZ}{x:ah}{w:Nat}
theorem dZ.mono{w':Nat}(h:dZ p x w)(hw:w' <= w):dZ p x w':=⟨h.ents,by have:=h.code;omega,h.sites,by have:=h.n;omega,by have:=h.loc;omega,by have:=h.el;omega⟩
theorem dZ.beg(h:dZ p x (w+1))(e:Nat):dZ p (x.beg e) w /\ (x.beg e).code.length+3+3*w <= 100000000:=by
 have h1:=h.code;exact ⟨⟨h.ents,by show x.code.length+3*w <= _;omega,h.sites,by have:=h.n;show x.n+1+w <= _;omega,by have:=h.loc;show x.locals+w <= _;omega,by have:=h.el;show x.ents.length+w <= _;omega⟩,by show x.code.length+3+3*w <= _;omega⟩
theorem dZ.put(h:dZ p x w)(hc:x.code.length+1+3*w <= 100000000)(i:ic)(s:Nat):dZ p (x.put i s) w:=
 ⟨h.ents,by show (x.code++[i]).length+_ <= _;rw [length_append];simp only [length_cons,length_nil];omega,by show (x.sites++[(s:Int)]).length=(x.code++[i]).length;rw [length_append,length_append,h.sites];rfl,h.n,h.loc,h.el⟩
theorem lB(i:ic)(s:Nat):(x.put i s).code.length=x.code.length+1:=by show (x.code++[i]).length=_;rw [length_append];rfl
theorem jj(b:Nat):(x.patch b).code.length=x.code.length:=by show (x.code.modify b _).length=_;rw [List.length_modify]
theorem dZ.patch(h:dZ p x w)(b:Nat):dZ p (x.patch b) w:=⟨h.ents,by rw [jj];exact h.code,by rw [jj];exact h.sites,h.n,h.loc,h.el⟩
theorem dZ.back{y:ah}(h:dZ p x w)(hy:dZ p y w):dZ p (x.back y) w:=⟨h.ents,hy.code,hy.sites,hy.n,hy.loc,h.el⟩
theorem dZ.branch(h:dZ p x (w+1))(e:aP):dZ p (x.branch e) w /\ (x.branch e).code.length+2+3*w <= 100000000:=by
 obtain ⟨h1,h2⟩:=h.beg (cO x.ents e);refine ⟨h1.put Y _ _,?_⟩;unfold ah.branch;rw [lB];omega
theorem Sv(s:aL)(h:dZ p x (w+1)):dZ p (hJ p s x) w:=by
 have hb:∀e i n,dZ p ((x.beg e).put i n) w:=λe i n=>(h.beg e).1.put (by have:=(h.beg e).2;omega) i n;unfold hJ;split
 ·have h1:=hb (dE (ey x.ents s.name) (cO x.ents s.expr)) ⟨1,x.locals,false,cW x.ents s.expr,dB,[],[]⟩ x.n;have h2:=h.loc;have h3:=h.el;exact ⟨h1.ents.app Ed vH,h1.code,h1.sites,h1.n,by show x.locals+1+w <= _;omega,by show (x.ents++[_]).length+w <= _;rw [length_append];simp only [length_cons,length_nil];omega⟩
 split
 ·exact hb _ _ _
 split
 ·exact hb _ _ _
 split
 ·exact hb _ _ _
 split<;>exact hb _ _ _
end
mutual
def Vq(p:aZ):∀(s:aL)(x:ah)(w:Nat),dZ p x (s.wt+w) -> dZ p (ci p s x) w
 |.mk k name e r args t f,x,w,h=>by
  rw [aL.wt] at h;have hs:dZ p x (w+1):=h.mono Y;rw [ci];split
  ·obtain ⟨b1,b2⟩:=(h.mono Y:dZ p x ((bQ t+(bQ f+w))+1)).branch e;have t1:=pw p t (x.branch e) (bQ f+w) b1;have cx:dZ p ((x.branch e).back (cE p t (x.branch e))) (bQ f+w):=(b1.mono Y).back t1;have t3:=qH p t (x.branch e);split
   ·exact (cx.mono Y).patch _
   have t4:dZ p (((x.branch e).back (cE p t (x.branch e))).put (bf 7 .zero) x.n) (bQ f+w):=cx.put GZ _ _;have t5:=pw p f _ w (t4.patch x.code.length);exact (hs.mono Y|>.back t5).patch _
  split
  ·obtain ⟨b1,b2⟩:=(h.mono Y:dZ p x ((bQ t+w)+1)).branch e;have t1:=pw p t (x.branch e) w b1;have cx:dZ p ((x.branch e).back (cE p t (x.branch e))) w:=(b1.mono Y).back t1;have t3:=qH p t (x.branch e);exact (cx.put GZ _ _).patch _
  exact Sv _ hs
def pw(p:aZ):∀(l:List aL)(x:ah)(w:Nat),dZ p x (bQ l+w) -> dZ p (cE p l x) w
 |[],x,w,h=>by rw [cE];rw [bQ] at h;exact h.mono Y
 |s::l,x,w,h=>by
  rw [bQ] at h;rw [cE];exact pw p l _ w (Vq p s x (bQ l+w) (h.mono Y))
def PL(p:aZ):∀(s:aL)(x:ah),(ci p s x).code.length <= x.code.length+3*s.wt
 |.mk k name e r args t f,x=>by
  have t1:=qH p t (x.branch e);have aa:(x.branch e).code.length=x.code.length+1:=lB _ _;rw [ci,aL.wt];split
  ·split
   ·rw [jj];show (cE p t (x.branch e)).code.length <= _;omega
   rw [jj];have cx:=qH p f ((((x.branch e).back (cE p t (x.branch e))).put (bf 7 .zero) x.n).patch x.code.length);rw [jj,lB] at cx;have t3:((x.branch e).back (cE p t (x.branch e))).code.length=(cE p t (x.branch e)).code.length:=J;show (cE p f _).code.length <= _;omega
  split
  ·rw [jj,lB];show (cE p t (x.branch e)).code.length+1 <= _;omega
  have hb:∀(y:ah) i n,y.code=x.code -> (y.put i n).code.length <= x.code.length+3*(1+e.nodes+r.wt+eI args+bQ t+bQ f):=λy i n hy=>by rw [lB,hy];omega
  unfold hJ;split
  ·exact hb (x.beg (dE (ey x.ents name) (cO x.ents e))) ⟨1,x.locals,false,cW x.ents e,dB,[],[]⟩ x.n J
  split
  ·exact hb _ _ _ J
  split
  ·exact hb _ _ _ J
  split
  ·exact hb _ _ _ J
  split<;>exact hb _ _ _ rfl
def qH(p:aZ):∀(l:List aL)(x:ah),(cE p l x).code.length <= x.code.length+3*bQ l
 |[],x=>by rw [cE];omega
 |s::l,x=>by
  have h1:=PL p s x;have h2:=qH p l (ci p s x);rw [cE,bQ];omega
end
mutual
def VT(p:aZ):∀(s:aL)(x:ah),x.code.length <= (ci p s x).code.length
 |.mk k name e r args t f,x=>by
  have t1:=sd p t (x.branch e);have aa:(x.branch e).code.length=x.code.length+1:=lB _ _;rw [ci];split
  ·split
   ·rw [jj];show _ <= (cE p t (x.branch e)).code.length;omega
   rw [jj];have cx:=sd p f ((((x.branch e).back (cE p t (x.branch e))).put (bf 7 .zero) x.n).patch x.code.length);rw [jj,lB] at cx;have t3:((x.branch e).back (cE p t (x.branch e))).code.length=(cE p t (x.branch e)).code.length:=J;show _ <= (cE p f _).code.length;omega
  split
  ·rw [jj,lB];show _ <= (cE p t (x.branch e)).code.length+1;omega
  have hb:∀(y:ah) i n,y.code=x.code -> x.code.length <= (y.put i n).code.length:=λy i n hy=>by rw [lB,hy];omega
  unfold hJ;split
  ·exact hb (x.beg (dE (ey x.ents name) (cO x.ents e))) ⟨1,x.locals,false,cW x.ents e,dB,[],[]⟩ x.n J
  split
  ·exact hb _ _ _ J
  split
  ·exact hb _ _ _ J
  split
  ·exact hb _ _ _ J
  split<;>exact hb _ _ _ rfl
def sd(p:aZ):∀(l:List aL)(x:ah),x.code.length <= (cE p l x).code.length
 |[],x=>by rw [cE];omega
 |s::l,x=>by
  have h1:=VT p s x;have h2:=sd p l (ci p s x);rw [cE];omega
end
def wo{c:List ic}{b t:Nat}(hb:b<c.length):splice (c.flatMap encI) (0+b*12+1) [am t]=(c.modify b (λi=>i.to t)).flatMap encI:=by
 have h0:c.flatMap encI=(c.take b).flatMap encI++(encI c[b]++(c.drop (b+1)).flatMap encI):=by
  conv=>lhs;rw [←pq b c,iK hb]
  rw [d4,fD]
 have h2:((c.take b).flatMap encI).length=b*12:=by rw [fN encI 12 kN,j8,rT Y]
 have h3:(c.modify b (λi=>i.to t)).flatMap encI=(c.take b).flatMap encI++(encI (c[b].to t)++(c.drop (b+1)).flatMap encI):=by
  rw [List.modify_eq_take_cons_drop hb,d4,fD]
 rw [h3,h0,e0];have hd:List.drop (((c.take b).flatMap encI).length+2) ((c.take b).flatMap encI)=[]:=zD Y;unfold splice;rw [←h2,List.take_append,take_of_length_le Y,CW,List.drop_append];rw [show ((c.take b).flatMap encI).length+1+[aN.val (.int .i64 ((t:Nat):Int))].length=((c.take b).flatMap encI).length+2 from rfl,hd,CW,dw,append_assoc,append_assoc]
 rfl
def xQ(p:aZ)(l:List aL)(x:ah)(w:Nat)(h:dZ p x (bQ l+w)):dZ p (aJ p l x) w:=(h.mono Y:dZ p x w).back (pw p l x w h)
end
section
open Go.RowKit
open Go.ChangeMaps (setBlock)
def wid(m:Nat):Nat:=if m=0 then 1 else m
def rG{α:Type}(ev:α -> List aN)(l:List (ByteArray×α)):List aN:=l.flatMap λp=>ae p.1::ev p.2
abbrev ai{α:Type}(g m:Nat)(ev:α -> List aN)(l:List (ByteArray×α)):aS:=⟨wg g,m,0,l.length,rG ev l⟩
def dG{α:Type}:List (ByteArray×α) -> ByteArray -> Option α
 |[],_=>none
 |p::l,k=>if p.1=k then some p.2 else dG l k
def cc{α:Type}:List (ByteArray×α) -> ByteArray -> α -> List (ByteArray×α)
 |[],k,a=>[(k,a)]
 |p::l,k,a=>if p.1=k then (k,a)::l else p::cc l k a
def d_{α:Type}:List (ByteArray×α) -> ByteArray -> List (ByteArray×α)
 |[],_=>[]
 |p::l,k=>if p.1=k then l else p::d_ l k
inductive iJ {α:Type} (w:World) (m:Nat) (ev:α -> List aN):List MapEntry -> List (ByteArray×α) -> Prop
 |nil:iJ w m ev [] []
 |cons {e:MapEntry} {k:ByteArray} {a:α} {L:List MapEntry} {l:List (ByteArray×α)} (hk:e.key=.string k) (hv:dH w (ev a) e.val.cells.toList) (hm:ob m e) (t:iJ w m ev L l):iJ w m ev (e::L) ((k,a)::l)
section
variable {α:Type}{w:World}{m:Nat}{ev:α -> List aN}
theorem ob.wid{e:MapEntry}(h:ob m e):e.val.cells.toList.length=wid m:=by
 obtain ⟨-,h⟩:=h;unfold Go.Proofs.YtjgeihmhppadaaaGreatDoor.wid;split at h
 ·rename_i h0;rw [if_pos h0];cases hv:e.val<;>rw [hv] at h<;>first|rfl|cases h
 rename_i h0;rw [if_neg h0];obtain ⟨us,aa,e2⟩:=h;rw [aa];simpa [Value.cells] using e2
theorem iJ.len{L:List MapEntry}{l:List (aG×α)}(h:iJ w m ev L l):L.length=l.length:=by
 induction h with
 |nil=>rfl
 |cons _ _ _ _ ih=>simp [ih]
theorem iJ.ok{L:List MapEntry}{l:List (aG×α)}(h:iJ w m ev L l):∀e,e∈L -> ob m e:=by
 induction h with
 |nil=>intro e h;cases h
 |cons _ _ hm _ ih=>intro e h;rcases mem_cons.1 h with rfl|h;exact hm;exact ih e h
theorem iJ.rep{L:List MapEntry}{l:List (aG×α)}(h:iJ w m ev L l):dH w (rG ev l) (L.flatMap nC):=by
 induction h with
 |nil=>exact .nil _
 |cons hk hv hm t ih=>
  unfold rG at ih⊢;rw [fD,fD];refine dH.app ?_ ih;unfold nC;rw [hk];exact .cons (.val _ J) hv
theorem iJ.mono{w':aV}(hm:fl w w'){L:List MapEntry}{l:List (aG×α)}(h:iJ w m ev L l):iJ w' m ev L l:=by
 induction h with
 |nil=>exact .nil
 |cons hk hv h t ih=>exact .cons hk (hv.mono hm) h ih
theorem BX{v u:aM}(h:jK w (.val v) u):u=v:=by cases h;rfl
theorem Io(hev:∀a,(ev a).length=wid m):∀{L:List MapEntry} {l:List (aG×α)},L.length=l.length -> (∀e,e∈L -> ob m e) -> dH w (rG ev l) (L.flatMap nC) -> iJ w m ev L l
 |[],[],_,_,_=>.nil
 |e::L,[],h,_,_=>pk
 |[],p::l,h,_,_=>pk
 |e::L,(k,a)::l,h,hm,hr=>by
  have hme:=hm e aK;have aa:rG ev ((k,a)::l)=(ae k::ev a)++rG ev l:=by unfold rG;rw [fD]
  have e2:(e::L).flatMap nC=nC e++L.flatMap nC:=fD;have l1:(aN.val (.string k)::ev a).length=wid m+1:=by rw [length_cons,hev]
  have l2:(nC e).length=wid m+1:=by unfold nC;rw [length_cons,hme.wid]
  have hA:=hr.take (wid m+1);have hB:=hr.drop (wid m+1);rw [aa,e2,r_ l1,r_ l2] at hA;rw [aa,e2,Ao l1,Ao l2] at hB;have h0:=hA.at_ 0 aK (by unfold nC;simp);have hk:e.key=.string k:=BX h0;have hv:dH w (ev a) e.val.cells.toList:=by
   have h9:=hA.drop 1;unfold nC at h9;simpa using h9
  exact .cons hk hv hme (Io hev iW (λx hx=>hm x (dT _ hx)) hB)
theorem iJ.find{L:List MapEntry}{l:List (aG×α)}(h:iJ w m ev L l)(k:aG):∀i:Nat,
  (dG l k=none /\ Instr.findNow .string (.string k) L i=some none /\ (∀a,cc l k a=l++[(k,a)]) /\ d_ l k=l)∨
  ∃j e a,dG l k=some a /\ Instr.findNow .string (.string k) L i=some (some (i+j,e.val)) /\ L[j]?=some e /\ e.key=.string k /\ dH w (ev a) e.val.cells.toList /\ ob m e /\ j<L.length /\ iJ w m ev (L.eraseIdx j) (d_ l k) /\ (cc l k a).length=l.length /\ ∀a' e',e'.key=.string k -> dH w (ev a') e'.val.cells.toList -> ob m e' -> iJ w m ev (L.set j e') (cc l k a'):=by
 induction h with
 |nil=>intro i;exact .inl ⟨rfl,rfl,λ_=>rfl,rfl⟩
 |@cons e k' a L l hk hv hm t ih=>
  intro i;by_cases hkk:k'=k
  ·subst hkk;refine .inr ⟨0,e,a,by unfold dG;rw [if_pos rfl],?_,J,hk,hv,hm,aK,by unfold d_;rw [if_pos rfl];exact t,by unfold cc;rw [if_pos rfl];try rfl,λa' e' h1 h2 h3=>by unfold cc;rw [if_pos rfl];exact .cons h1 h2 h3 t⟩;unfold Instr.findNow;rw [hk];simp [Instr.sameNow,(MapKept.bytes_beq k' k').2 rfl]
  have hb:(k == k')=false:=by
   cases hc:k == k' with
   |false=>rfl
   |true=>exact absurd ((MapKept.bytes_beq k k').1 hc).symm hkk
  have hf:Instr.findNow .string (.string k) (e::L) i=Instr.findNow .string (.string k) L (i+1):=by
   conv=>lhs;unfold Instr.findNow
   rw [hk];simp [Instr.sameNow,hb]
  rcases ih (i+1) with ⟨h1,h2,h3,h4⟩|⟨j,bm,a0,h1,h2,h3,h4,h5,h6,h7,h8,h9,h10⟩
  ·exact .inl ⟨by unfold dG;rw [if_neg hkk];exact h1,by rw [hf,h2],λa'=>by unfold cc;rw [if_neg hkk,h3];rfl,by unfold d_;rw [if_neg hkk,h4]⟩
  refine .inr ⟨j+1,bm,a0,by unfold dG;rw [if_neg hkk];exact h1,by rw [hf,h2];congr 3;omega,tu,h4,h5,h6,di,by unfold d_;rw [if_neg hkk,List.eraseIdx_cons_succ];exact .cons hk hv hm h8,by unfold cc;rw [if_neg hkk,length_cons,length_cons,h9],λa' e' g1 g2 g3=>by unfold cc;rw [if_neg hkk,List.set_cons_succ];exact .cons hk hv hm (h10 a' e' g1 g2 g3)⟩
theorem iJ.snoc{L:List MapEntry}{l:List (aG×α)}(h:iJ w m ev L l){e:MapEntry}{k:aG}{a:α}(hk:e.key=.string k)(hv:dH w (ev a) e.val.cells.toList)(hm:ob m e):iJ w m ev (L++[e]) (l++[(k,a)]):=by
 induction h with
 |nil=>exact .cons hk hv hm .nil
 |cons hk' hv' hm' t ih=>exact .cons hk' hv' hm' ih
theorem Mem.mapAt{s:aH}{w:aV}(h:Mem s w){g:Nat}{l:List (aG×α)}(hr:ai g m ev l∈s.rows)(hev:∀a,(ev a).length=wid m):∃(es:Array MapEntry) (clock:Nat),w.heap[g]?=some (.map es clock) /\ iJ (bi s.bl w) m ev es.toList l:=by
 obtain ⟨us,h1,h2⟩:=h.row _ hr;rcases h1 with ⟨-,h1⟩|⟨-,g',es,cl,aa,e2,e3,e4,e5⟩
 ·rcases h1 with ⟨h1,-⟩|⟨g',cap,cur,h1,-⟩
  ·cases h1
  cases h1
 cases aa;refine ⟨es,cl,e2,Io hev (by simpa using e3) e5 ?_⟩;rw [←e4];exact h2
end
def qJ(g:Nat):aO (wg g)=[g]:=rfl
section
variable {P:Program}{U T:List Nat}{o:Oper}{n d:Nat}{bx:List aT}{rw:List aS}{ts:List (Nat×AT)}{K:AS -> Prop}{st:AS}{α:Type}{m:Nat}{ev:α -> List aN}
theorem rC{w:aV}{kt:bA}(hk:P.underlying kt=some .string){k:aG}{L:List MapEntry}{r:Option (Nat×aM)}(h:Instr.findNow .string (.string k) L 0=some r):(Instr.findKey kt (.string k) L).run P w=.ok r w:=MapKept.run_findKey hk h
theorem qB{w:aV}{kt:bA}(hk:P.underlying kt=some .string)(k:aG)(e:Bool):(Instr.checkKey e 10000 kt (.string k)).run P w=.ok () w:=MapKept.run_checkKey hk (d:=.string) (k:=.string k) trivial e 9999
theorem xV{w:aV}{t kt et:bA}{g:Nat}{es:Array MapEntry}{clock:Nat}{k:aG}{w0:aV}{l:List (aG×α)}(ht:P.underlying t=some (.map kt et))(hk:P.underlying kt=some .string){z:aM}(hz:(zeroValue et).run P w=.ok z w)(hb:w.heap[g]?=some (.map es clock))(he:iJ w0 m ev es.toList l)(c:Bool):
  (dG l k=none /\ (Instr.lookup t (.map (some g)) (.string k) c).run P w=.ok (if c then .tuple #[z,.bool false] else z) w)∨
  ∃a v,dG l k=some a /\ dH w0 (ev a) v.cells.toList /\ (if m=0 then v.oneCell'=true else ∃us:List aM,v=.agg us.toArray /\ us.length=m) /\ (Instr.lookup t (.map (some g)) (.string k) c).run P w=.ok (if c then .tuple #[v,.bool true] else v) w:=by
 rcases he.find k 0 with ⟨h1,h2,-⟩|⟨j,e,a,h1,h2,h3,h4,h5,h6,-⟩
 ·refine .inl ⟨h1,?_⟩;simp only [Instr.lookup,Sem.run_bind,run_underlying ht,Result.andThen_ok,MapKept.run_getObj_map hb,qB hk,rC hk h2,Sem.run_pure,hz]
 refine .inr ⟨a,e.val,h1,h5,h6.2,?_⟩;simp only [Instr.lookup,Sem.run_bind,run_underlying ht,Result.andThen_ok,MapKept.run_getObj_map hb,qB hk,rC hk h2,Sem.run_pure]
theorem K_{w:aV}{c:aN}{v:aM}(h1:v.oneCell'=true)(h:dH w [c] v.cells.toList):jK w c v:=by
 have e:v.cells.toList=[v]:=by cases v<;>first|rfl|cases h1
 rw [e] at h;exact h.at_ 0 aK aK
theorem tv{w w':aV}(hk:cH U w w'){g:Nat}{o:Obj}(hb:w.heap[g]?=some o)(hU:g∉U):w'.heap[g]?=some o:=(hk.block g (tQ.1 hb).1 hU).trans hb
abbrev a_(i:Int):List aN:=[aA i]
theorem tM(i:Int):(a_ i).length=wid 0:=rfl
def bO(l:List (ByteArray×Int))(k:ByteArray):Int:=(dG l k).getD 0
theorem nF{t kt et:bA}{x y:bc}{g:Nat}{k:aG}(l:List (aG×Int))(ho:o.op=.lookup t x y false)(hx:ay st x=some (.c (aD g)))(hy:ay st y=some (cB k))(hrow:ai g 0 a_ l∈st.s.rows)
  (ht:P.underlying t=some (.map kt et)) (hk:P.underlying kt=some .string) (hz:∀w,(zeroValue et).run P w=.ok (.int .i64 0) w) (hU:st.s.bl.Nodup -> g∉U):cf P U o st (bB (bO l k)):=by
 intro a w hs hU2;obtain ⟨es,cl,hb,he⟩:=hs.mem.mapAt (m:=0) (ev:=a_) (g:=g) (l:=l) hrow tM;refine ⟨_,.c _ _ (.val _ J),λw' hkp=>?_⟩;have hb2:=tv hkp hb (hU hs.mem.nodup);have hop:execOp a.eval o=(do pure (.value (←Instr.lookup t (.map (some g)) (.string k) false))):=u_;rw [hop];rcases xV (P:=P) (k:=k) ht hk (hz w') hb2 he false with ⟨h1,h2⟩|⟨b,v,h1,h2,h3,h4⟩
 ·have e:bO l k=0:=ya;rw [e,Sem.run_bind,h2];rfl
 have e:bO l k=b:=ya;have hv:=BX (K_ tu h2);rw [e,Sem.run_bind,h4,hv];rfl
theorem CV{t kt et:bA}{x y:bc}{g:Nat}{k:aG}(l:List (aG×Int))(ho:o.op=.lookup t x y true)(hx:ay st x=some (.c (aD g)))(hy:ay st y=some (cB k))(hrow:ai g 0 a_ l∈st.s.rows)
  (ht:P.underlying t=some (.map kt et)) (hk:P.underlying kt=some .string) (hz:∀w,(zeroValue et).run P w=.ok (.int .i64 0) w) (hU:st.s.bl.Nodup -> g∉U):cf P U o st (.tup [bB (bO l k),ap ((dG l k).isSome)]):=by
 intro a w hs hU2;obtain ⟨es,cl,hb,he⟩:=hs.mem.mapAt (m:=0) (ev:=a_) (g:=g) (l:=l) hrow tM;refine ⟨_,.tup _ [.int .i64 (bO l k),.bool (dG l k).isSome] J (λi h h'=>by
  match i,h,h' with
  |0,_,_=>exact .c _ _ (.val _ rfl)
  |1,_,_=>exact .c _ _ (.val _ rfl)),λw' hkp=>?_⟩
 have hb2:=tv hkp hb (hU hs.mem.nodup);have hop:execOp a.eval o=(do pure (.value (←Instr.lookup t (.map (some g)) (.string k) true))):=u_;rw [hop];rcases xV (P:=P) (k:=k) ht hk (hz w') hb2 he true with ⟨h1,h2⟩|⟨b,v,h1,h2,h3,h4⟩
 ·have e:bO l k=0:=ya;rw [e,h1,Sem.run_bind,h2];rfl
 have e:bO l k=b:=ya;have hv:=BX (K_ tu h2);rw [e,h1,Sem.run_bind,h4,hv];rfl
theorem R1{t kt et:bA}{x y:bc}{g:Nat}{k:aG}(l:List (aG×α)){b:α}(ho:o.op=.lookup t x y false)(hx:ay st x=some (.c (aD g)))(hy:ay st y=some (cB k))(hrow:ai g m ev l∈st.s.rows)(hm:m≠0)(hev:∀a,(ev a).length=m)
  (ht:P.underlying t=some (.map kt et)) (hk:P.underlying kt=some .string) {z:aM} (hz:∀w,(zeroValue et).run P w=.ok z w) (hU:st.s.bl.Nodup -> g∉U) (hl:dG l k=some b):cf P U o st (.agg (ev b)):=by
 intro a w hs hU2;obtain ⟨es,cl,hb,he⟩:=hs.mem.mapAt (m:=m) (ev:=ev) (g:=g) (l:=l) hrow Ah;rcases xV (P:=P) (k:=k) ht hk (hz w) hb he false with ⟨h1,h2⟩|⟨b',v,h1,h2,h3,h4⟩
 ·rw [h1] at hl;cases hl
 rw [h1] at hl;cases hl;rw [if_neg hm] at h3;obtain ⟨us,rfl,-⟩:=h3;refine ⟨_,.agg _ us (by simpa [Value.cells] using h2),λw' hkp=>?_⟩;have hb2:=tv hkp hb (hU hs.mem.nodup);have hop:execOp a.eval o=(do pure (.value (←Instr.lookup t (.map (some g)) (.string k) false))):=u_;rw [hop];have hrun:(Instr.lookup t (.map (some g)) (.string k) false).run P w'=.ok (.agg us.toArray) w':=by
  rcases he.find k 0 with ⟨g1,-⟩|⟨j,e,a,g1,g2,-⟩
  ·rw [g1] at h1;cases h1
  have f1:(Instr.lookup t (.map (some g)) (.string k) false).run P w=.ok e.val w:=by simp only [Instr.lookup,Sem.run_bind,run_underlying ht,Result.andThen_ok,MapKept.run_getObj_map hb,qB hk,rC hk g2,Sem.run_pure];rfl
  have f2:(Instr.lookup t (.map (some g)) (.string k) false).run P w'=.ok e.val w':=Ma;rw [f1] at h4;have e9:e.val=.agg us.toArray:=by simpa using h4
  rw [f2,e9]
 rw [Sem.run_bind,hrun];rfl
theorem Ti{t kt et:bA}{x y:bc}{g:Nat}{k:aG}(l:List (aG×α)){b:α}(ho:o.op=.lookup t x y true)(hx:ay st x=some (.c (aD g)))(hy:ay st y=some (cB k))(hrow:ai g m ev l∈st.s.rows)(hm:m≠0)(hev:∀a,(ev a).length=m)
  (ht:P.underlying t=some (.map kt et)) (hk:P.underlying kt=some .string) {z:aM} (hz:∀w,(zeroValue et).run P w=.ok z w) (hU:st.s.bl.Nodup -> g∉U) (hl:dG l k=some b):cf P U o st (.tup [.agg (ev b),ap true]):=by
 intro a w hs hU2;obtain ⟨es,cl,hb,he⟩:=hs.mem.mapAt (m:=m) (ev:=ev) (g:=g) (l:=l) hrow Ah;rcases he.find k 0 with ⟨g1,-⟩|⟨j,e,a2,g1,g2,g3,g4,g5,g6,-⟩
 ·rw [g1] at hl;cases hl
 rw [g1] at hl;cases hl;have h3:=g6.2;rw [if_neg hm] at h3;obtain ⟨us,e9,-⟩:=h3;rw [e9] at g5;refine ⟨_,.tup _ [.agg us.toArray,.bool true] J (λi h h'=>by
  match i,h,h' with
  |0,_,_=>exact .agg _ us (by simpa [Value.cells] using g5)
  |1,_,_=>exact .c _ _ (.val _ rfl)),λw' hkp=>?_⟩
 have hb2:=tv hkp hb (hU hs.mem.nodup);have hop:execOp a.eval o=(do pure (.value (←Instr.lookup t (.map (some g)) (.string k) true))):=u_;rw [hop];have f2:(Instr.lookup t (.map (some g)) (.string k) true).run P w'=.ok (.tuple #[e.val,.bool true]) w':=Ma;rw [Sem.run_bind,f2,e9];rfl
theorem Nv{t kt et:bA}{x y:bc}{g:Nat}{k:aG}(l:List (aG×α))(ho:o.op=.lookup t x y true)(hx:ay st x=some (.c (aD g)))(hy:ay st y=some (cB k))(hrow:ai g m ev l∈st.s.rows)(hm:m≠0)(hev:∀a,(ev a).length=m)
  (ht:P.underlying t=some (.map kt et)) (hk:P.underlying kt=some .string) {z:aM} (hz:∀w,(zeroValue et).run P w=.ok z w) (hU:st.s.bl.Nodup -> g∉U) (hl:dG l k=none) (cU:AT) (hct:fy z=cU):cf P U o st (.tup [cU,ap false]):=by
 subst hct;intro a w hs hU2;obtain ⟨es,cl,hb,he⟩:=hs.mem.mapAt (m:=m) (ev:=ev) (g:=g) (l:=l) hrow Ah;refine ⟨_,.tup _ [z,.bool false] J (λi h h'=>by
  match i,h,h' with
  |0,_,_=>exact wq _ z
  |1,_,_=>exact .c _ _ (.val _ rfl)),λw' hkp=>?_⟩
 have hb2:=tv hkp hb (hU hs.mem.nodup);have hop:execOp a.eval o=(do pure (.value (←Instr.lookup t (.map (some g)) (.string k) true))):=u_;rw [hop];rcases xV (P:=P) (k:=k) ht hk (hz w') hb2 he true with ⟨h1,h2⟩|⟨b,v,h1,-⟩
 ·rw [Sem.run_bind,h2];rfl
 rw [h1] at hl;cases hl
theorem Cg(w:aV)(g:Nat)(x:Obj):cH [g] w (setBlock w g x):=
 ⟨rfl,rfl,rfl,by simp [setBlock],λk hk hn=>by
  show (w.heap.setIfInBounds g x)[k]?=_;rw [KP];intro h;exact hn qz⟩
theorem Mem.setMap{s:aH}{w:aV}{A B:List aS}{g:Nat}{l l':List (aG×α)}{es es':Array MapEntry}{clock clock':Nat}(h:Mem s w)(hb:s.rows=A++ai g m ev l::B)(h1:w.heap[g]?=some (.map es clock))(hr:iJ (bi s.bl w) m ev es'.toList l'):
  Mem ⟨s.boxes,A++ai g m ev l'::B⟩ (setBlock w g (.map es' clock')):=by
 have hbl:(⟨s.boxes,A++ai g m ev l'::B⟩:aH).bl=s.bl:=rW;have hmem:g∈s.bl:=by unfold aH.bl;rw [hb];simp [qJ]
 have hk:=Cg w g (.map es' clock');have hu:fl (bi s.bl w) (bi s.bl (setBlock w g (.map es' clock'))):=kR hk B1 (λx hx=>.inl hx);have hlt:g<w.heap.size:=h.lt g hmem;have hnd:=h.nodup;have hnd2:((s.boxes.map aT.b++A.flatMap λr=>aO r.v)++([g]++B.flatMap λr=>aO r.v)).Nodup:=by
  have h9:=hnd;unfold aH.bl at h9;rw [hb] at h9;simpa [qJ] using h9
 have hbox:∀x,x∈s.boxes -> x.b≠g:=λx hx he=>(du.1 hnd2).2.2 x.b (fj _ (gH.2 ⟨x,hx,J⟩)) g aK he;have hrow:∀r,r∈A∨r∈B -> g∉aO r.v:=by
  intro r hr2 hm2;rcases hr2 with hr2|hr2
  ·exact (du.1 hnd2).2.2 g (f7 _ (jv.2 ⟨r,hr2,hm2⟩)) g aK J
  exact (du.1 (du.1 hnd2).2.1).2.2 g aK g (jv.2 ⟨r,hr2,hm2⟩) J
 refine ⟨by rw [hbl];exact hnd,λx hx=>Bs,λx hx=>?_,λr hr2=>?_⟩
 ·rw [hbl];obtain ⟨us,aa,e2⟩:=h.box x hx;exact ⟨us,MG,e2.mono hu⟩
 rw [hbl];have old:r∈A∨r∈B -> ∃us,m8 (setBlock w g (.map es' clock')) r us /\ dH (bi s.bl (setBlock w g (.map es' clock'))) r.cs us:=λhr=>by
  have hr3:r∈s.rows:=Hb;obtain ⟨us,aa,e2⟩:=h.row r hr3;exact ⟨us,aa.keep λq hq=>hk.block q (h.lt q (f7 _ (jv.2 ⟨r,hr3,hq⟩))) GF,e2.mono hu⟩
 simp only [mem_append,mem_cons] at hr2;rcases hr2 with hr2|rfl|hr2
 ·exact old (.inl hr2)
 ·refine ⟨es'.toList.flatMap nC,.inr ⟨J,g,es',clock',J,?_,by simpa using hr.len,J,hr.ok⟩,(hr.mono hu).rep⟩;show (w.heap.setIfInBounds g _)[g]?=_;simp [hlt]
 exact old (.inr hr2)
theorem P3{w:aV}{t:AT}{b:α}{v:aM}(hc:jo t=some (ev b))(hr:cN w t v)(hm:if m=0 then (∃c,t=.c c) else (∃cs,t=.agg cs /\ cs.length=m)):if m=0 then v.oneCell'=true else ∃us:List aM,v=.agg us.toArray /\ us.length=m:=by
 split at hm
 ·rename_i h0;rw [if_pos h0];obtain ⟨c,rfl⟩:=hm;cases hr with|c _ _ hr=>exact hr.one
 rename_i h0;rw [if_neg h0];obtain ⟨cs,rfl,hl⟩:=hm;cases hr with|agg _ us hr=>exact ⟨us,rfl,hr.len.trans hl⟩
theorem FR{t kt et:bA}{x y z:bc}{g:Nat}{k:aG}{b:α}{u:AT}(l:List (aG×α))(A:List aS){B:List aS}(ho:o.op=.mapUpdate t x y z)(hd:o.dst=none)(hx:ay st x=some (.c (aD g)))(hy:ay st y=some (cB k))(hz:ay st z=some u)(hc:jo u=some (ev b))(hrow:st.s.rows=A++ai g m ev l::B)(hev:∀a,(ev a).length=wid m)
  (hm:if m=0 then (∃c,u=.c c) else (∃cs,u=.agg cs /\ cs.length=m)) (ht:P.underlying t=some (.map kt et)) (hk:P.underlying kt=some .string) (hT:g∈st.T) (hU:st.s.bl.Nodup -> g∈U)
  (h:K {st with s:=⟨st.s.boxes,A++ai g m ev (cc l k b)::B⟩}):dN P U o st K:=by
 intro a w hs KK QQ hK;obtain ⟨es,cl,hb,he⟩:=hs.mem.mapAt (m:=m) (ev:=ev) (g:=g) (l:=l) p7 hev;have hv:=hs.ev hz;generalize hvv:a.eval z=v at hv;have hval:=sL hc hv;have hok:ob m ⟨.string k,v,cl⟩:=⟨⟨k,J⟩,P3 hc hv hm⟩;have hbl:(⟨st.s.boxes,A++ai g m ev (cc l k b)::B⟩:aH).bl=st.s.bl:=DC;have hbm:g∈st.s.bl:=by unfold aH.bl;rw [hrow];simp [qJ]
 have key:∃es' cl',(Instr.mapUpdate t (.map (some g)) (.string k) v).run P w=.ok () (setBlock w g (.map es' cl')) /\ iJ (bi st.s.bl w) m ev es'.toList (cc l k b):=by
  rcases he.find k 0 with ⟨h1,h2,h3,-⟩|⟨j,e,a2,h1,h2,h3,h4,h5,h6,h7,h8,-,h10⟩
  ·refine ⟨es.push ⟨.string k,v,cl⟩,cl+1,?_,?_⟩
   ·simp only [Instr.mapUpdate,Sem.run_bind,run_underlying ht,Result.andThen_ok,MapKept.run_getObj_map hb,qB hk,rC hk h2,MapKept.run_setObj_map _ hb];rfl
   rw [h3,Array.toList_push];exact he.snoc rfl hval hok
  have he3:es[j]?=some e:=tu;refine ⟨es.modify j λx=>{x with key:=.string k,val:=v},cl,?_,?_⟩
  ·simp only [Instr.mapUpdate,Sem.run_bind,run_underlying ht,Result.andThen_ok,MapKept.run_getObj_map hb,qB hk,rC hk h2,e0,he3,nt,tc,h4,MapKept.run_keyThatStays (d:=.string) (k:=.string k) trivial,MapKept.run_setObj_map _ hb];rfl
  have hj:j<es.size:=by simpa using h7
  have aa:(es.modify j λx=>{x with key:=.string k,val:=v}).toList=es.toList.set j ⟨.string k,v,e.born⟩:=by
   refine zB λi=>?_;rw [ly,yE,List.getElem?_set];by_cases hij:j=i
   ·subst hij;rw [if_pos rfl,if_pos rfl,he3,if_pos h7];rfl
   rw [if_neg hij,if_neg hij,ly]
  rw [aa];exact h10 b ⟨.string k,v,e.born⟩ J hval ⟨⟨k,J⟩,hok.2⟩
 obtain ⟨es',cl',hrun,hents⟩:=key;have hkp:=Cg w g (.map es' cl');unfold Oper.wp;have hrun2:(execOp a.eval o).run P w=.ok .skip (setBlock w g (.map es' cl')):=by
  simp only [execOp,ho,hs.val hx,hs.val hy,hvv,Sem.run_bind,hrun];rfl
 rw [hrun2,Oper.upon_skip,hd];have hmm:=hs.mem.setMap (clock':=cl') hrow hb hents;refine hK _ _ _ h (hs.step st.T (hkp.mono qU) hmm (λx hx=>.inl p8)) ⟨hkp.mono qU,hkp.mono vR,λx hx=>.inl p8,λx hx=>.inl hx⟩ (hkp.mono vI)
theorem Um{t kt et kt2:bA}{x y:bc}{g:Nat}{k:aG}(l:List (aG×α))(A:List aS){B:List aS}(ho:o.op=.call {callee:=.builtin .delete,args:=#[x,y],argTypes:=#[t,kt2]})(hd:o.dst=none)(hx:ay st x=some (.c (aD g)))(hy:ay st y=some (cB k))(hrow:st.s.rows=A++ai g m ev l::B)(hev:∀a,(ev a).length=wid m)
  (ht:P.underlying t=some (.map kt et)) (hk:P.underlying kt=some .string) (hT:g∈st.T) (hU:st.s.bl.Nodup -> g∈U)
  (h:K {st with s:=⟨st.s.boxes,A++ai g m ev (d_ l k)::B⟩}):dN P U o st K:=by
 intro a w hs KK QQ hK;obtain ⟨es,cl,hb,he⟩:=hs.mem.mapAt (m:=m) (ev:=ev) (g:=g) (l:=l) p7 hev;have hbl:(⟨st.s.boxes,A++ai g m ev (d_ l k)::B⟩:aH).bl=st.s.bl:=DC;have hbm:g∈st.s.bl:=by unfold aH.bl;rw [hrow];simp [qJ]
 have key:∃es',(Builtin.delete_ #[t,kt2] o.type #[.map (some g),.string k]).run P w=.ok (.tuple #[]) (setBlock w g (.map es' cl)) /\ iJ (bi st.s.bl w) m ev es'.toList (d_ l k):=by
  rcases he.find k 0 with ⟨h1,h2,-,h3⟩|⟨j,e,a2,h1,h2,h3,h4,h5,h6,h7,h8,-⟩
  ·refine ⟨es,?_,by rw [h3];exact he⟩;simp [Builtin.delete_,run_underlying ht,MapKept.run_getObj_map hb,qB hk,rC hk h2,MapKept.run_setObj_map _ hb,Result.andThen,setBlock]
  have hj:j<es.size:=by simpa using h7
  refine ⟨es.eraseIdxIfInBounds j,?_,?_⟩
  ·simp [Builtin.delete_,run_underlying ht,MapKept.run_getObj_map hb,qB hk,rC hk h2,MapKept.run_setObj_map _ hb,Result.andThen,setBlock]
  have aa:(es.eraseIdxIfInBounds j).toList=es.toList.eraseIdx j:=by
   unfold Array.eraseIdxIfInBounds;rw [dif_pos hj,Array.toList_eraseIdx]
  rw [aa];exact h8
 obtain ⟨es',hrun,hents⟩:=key;have hkp:=Cg w g (.map es' cl);unfold Oper.wp;have hrun2:(execOp a.eval o).run P w=.ok (.value (.tuple #[])) (setBlock w g (.map es' cl)):=by
  unfold execOp;simp only [ho,resolve,invoke,builtin,Sem.run_bind,Sem.run_pure,Result.andThen_ok,km,cd,fg,hs.val hx,hs.val hy,hrun]
 rw [hrun2,Oper.upon_value,hd];have hmm:=hs.mem.setMap (clock':=cl) hrow hb hents;have s1:=hs.step st.T (hkp.mono qU) hmm (λx hx=>.inl p8);refine hK _ _ _ h (by simpa [Act.put] using s1) ⟨hkp.mono qU,hkp.mono vR,λx hx=>.inl p8,λx hx=>.inl hx⟩ (hkp.mono vI)
theorem sa{t:bA}(m:Nat)(ev:α -> List aN)(ho:o.op=.makeMap t none)(hd:o.dst=some d)(hn:d<n)
  (h:∀g,K ⟨n,g::T,⟨bx,ai g m ev []::rw⟩,(d,.c (aD g))::ts⟩):dN P U o ⟨n,T,⟨bx,rw⟩,ts⟩ K:=by
 intro a w hs KK QQ hK;have hrun:(execOp a.eval o).run P w=.ok (.value (.map (some w.heap.size))) (w.alloc (.map #[] 0)):=by
  simp only [execOp,ho];rfl
 have hk:cH [] w (w.alloc (.map #[] 0)):=(cH.refl _ _).alloc _;have hne:w.heap.size∉(⟨bx,rw⟩:aH).bl:=λhm=>Nat.lt_irrefl _ (hs.mem.lt _ hm);have hbl:(⟨bx,ai w.heap.size m ev []::rw⟩:aH).bl=bx.map aT.b++w.heap.size::rw.flatMap λr=>aO r.v:=by unfold aH.bl;simp [qJ]
 have hsub:∀b,b∈(⟨bx,ai w.heap.size m ev []::rw⟩:aH).bl -> b∈(⟨bx,rw⟩:aH).bl∨w.heap.size <= b:=λb hb=>by
  rw [hbl] at hb;simp only [mem_append,mem_cons] at hb;rcases hb with h|rfl|h
  ·exact .inl (fj _ h)
  ·exact .inr (bW _)
  exact .inl (f7 _ h)
 have hup:fl (bi (⟨bx,rw⟩:aH).bl w) (bi (⟨bx,ai w.heap.size m ev []::rw⟩:aH).bl (w.alloc (.map #[] 0))):=kR hk gr hsub;have hsz:(w.alloc (.map #[] 0)).heap.size=w.heap.size+1:=aK;have hm:Mem ⟨bx,ai w.heap.size m ev []::rw⟩ (w.alloc (.map #[] 0)):=by
  refine ⟨?_,λb hb=>?_,λx hx=>?_,λr hr=>?_⟩
  ·rw [hbl];have hnd:(bx.map aT.b++rw.flatMap λr=>aO r.v).Nodup:=hs.mem.nodup;rw [du] at hnd⊢;refine ⟨hnd.1,kE.2 ⟨λh=>hne (f7 _ h),hnd.2.1⟩,λa ha b hb=>?_⟩;rcases mem_cons.1 hb with rfl|hb
   ·intro he;subst he;exact hne (fj _ ha)
   exact hnd.2.2 a ha b hb
  ·rw [hbl] at hb;simp only [mem_append,mem_cons] at hb;rw [hsz];rcases hb with h|rfl|h
   ·exact xe (hs.mem.lt b (fj _ h))
   ·exact Ea _
   exact xe (hs.mem.lt b (f7 _ h))
  ·obtain ⟨us,aa,e2⟩:=hs.mem.box x hx;exact ⟨us,Kg,e2.mono hup⟩
  rcases mem_cons.1 hr with rfl|hr
  ·refine ⟨[],.inr ⟨J,w.heap.size,#[],0,J,?_,J,J,λe h=>pk⟩,.nil _⟩;show (w.heap.push _)[w.heap.size]?=_;simp
  obtain ⟨us,aa,e2⟩:=hs.mem.row r hr;exact ⟨us,aa.keep λg hg=>hk.block g (hs.mem.lt g (f7 _ (jv.2 ⟨r,hr,hg⟩))) aK,e2.mono hup⟩
 unfold Oper.wp;rw [hrun,Oper.upon_value,hd];have s1:=hs.step (st:=⟨n,T,⟨bx,rw⟩,ts⟩) (w.heap.size::T) (hk.mono aK) hm hsub;refine hK _ _ _ (h _) (s1.put (v:=.map (some w.heap.size)) hn (.c _ _ (.val _ J))) ⟨hk.mono aK,hk.mono aK,hsub,λb hb=>?_⟩ (hk.mono aK);rcases mem_cons.1 hb with rfl|hb
 ·exact .inr (bW _)
 exact .inl hb
theorem L5{t kt et:bA}{x:bc}{g:Nat}(l:List (aG×α))(ho:o.op=.call {callee:=.builtin .len,args:=#[x],argTypes:=#[t]})(hx:ay st x=some (.c (aD g)))(hrow:ai g m ev l∈st.s.rows)(hev:∀a,(ev a).length=wid m)(ht:P.underlying t=some (.map kt et))(hU:st.s.bl.Nodup -> g∉U):cf P U o st (bB l.length):=by
 intro a w hs hU2;obtain ⟨es,cl,hb,he⟩:=hs.mem.mapAt (m:=m) (ev:=ev) (g:=g) (l:=l) hrow hev;refine ⟨_,.c _ _ (.val _ J),λw' hkp=>?_⟩;have hb2:=tv hkp hb (hU hs.mem.nodup);have hl:es.size=l.length:=by simpa using he.len
 unfold execOp;simp only [ho,resolve,invoke,builtin,Sem.run_bind,Sem.run_pure,Result.andThen_ok,km,cd,fg,hs.val hx];simp [Builtin.len_,Builtin.lenOf,run_underlying ht,MapKept.run_getObj_map hb2,Result.andThen,hl,goInt]
theorem ou{t kt et:bA}{x y z:bc}{g:Nat}{k:aG}{b:Int}(l:List (aG×Int))(A:List aS){B:List aS}(ho:o.op=.mapUpdate t x y z)(hd:o.dst=none)(hx:ay ⟨n,T,⟨bx,A++ai g 0 a_ l::B⟩,ts⟩ x=some (.c (aD g)))(hy:ay ⟨n,T,⟨bx,A++ai g 0 a_ l::B⟩,ts⟩ y=some (cB k))(hz:ay ⟨n,T,⟨bx,A++ai g 0 a_ l::B⟩,ts⟩ z=some (bB b))
  (ht:P.underlying t=some (.map kt et)) (hk:P.underlying kt=some .string) (hT:g∈T) (hU:(⟨bx,A++ai g 0 a_ l::B⟩:aH).bl.Nodup -> g∈U) (h:K ⟨n,T,⟨bx,A++ai g 0 a_ (cc l k b)::B⟩,ts⟩):dN P U o ⟨n,T,⟨bx,A++ai g 0 a_ l::B⟩,ts⟩ K:=
 FR (m:=0) (ev:=a_) l A ho hd hx hy hz rfl rfl tM (by rw [if_pos rfl];exact ⟨_,rfl⟩) ht hk hT hU h
theorem Ul{t kt et:bA}{x y z:bc}{g:Nat}{k:aG}{b:α}(l:List (aG×α))(A:List aS){B:List aS}(ho:o.op=.mapUpdate t x y z)(hd:o.dst=none)(hx:ay ⟨n,T,⟨bx,A++ai g m ev l::B⟩,ts⟩ x=some (.c (aD g)))(hy:ay ⟨n,T,⟨bx,A++ai g m ev l::B⟩,ts⟩ y=some (cB k))(hz:ay ⟨n,T,⟨bx,A++ai g m ev l::B⟩,ts⟩ z=some (.agg (ev b)))(hm:m≠0)(hev:∀a,(ev a).length=m)
  (ht:P.underlying t=some (.map kt et)) (hk:P.underlying kt=some .string) (hT:g∈T) (hU:(⟨bx,A++ai g m ev l::B⟩:aH).bl.Nodup -> g∈U) (h:K ⟨n,T,⟨bx,A++ai g m ev (cc l k b)::B⟩,ts⟩):dN P U o ⟨n,T,⟨bx,A++ai g m ev l::B⟩,ts⟩ K:=
 FR (m:=m) (ev:=ev) l A ho hd hx hy hz rfl rfl Ah (by rw [if_neg hm];exact ⟨_,rfl,hev b⟩) ht hk hT hU h
theorem E8{t kt et kt2:bA}{x y:bc}{g:Nat}{k:aG}(l:List (aG×Int))(A:List aS){B:List aS}(ho:o.op=.call {callee:=.builtin .delete,args:=#[x,y],argTypes:=#[t,kt2]})(hd:o.dst=none)(hx:ay ⟨n,T,⟨bx,A++ai g 0 a_ l::B⟩,ts⟩ x=some (.c (aD g)))(hy:ay ⟨n,T,⟨bx,A++ai g 0 a_ l::B⟩,ts⟩ y=some (cB k))
  (ht:P.underlying t=some (.map kt et)) (hk:P.underlying kt=some .string) (hT:g∈T) (hU:(⟨bx,A++ai g 0 a_ l::B⟩:aH).bl.Nodup -> g∈U) (h:K ⟨n,T,⟨bx,A++ai g 0 a_ (d_ l k)::B⟩,ts⟩):dN P U o ⟨n,T,⟨bx,A++ai g 0 a_ l::B⟩,ts⟩ K:=
 Um (m:=0) (ev:=a_) l A ho hd hx hy rfl tM ht hk hT hU h
theorem Oi{Z:List Nat}{A B:List aS}{g:Nat}{l:List (aG×α)}(hZ:∀z,z∈Z -> z∈bx.map aT.b)(hn:(⟨bx,A++ai g m ev l::B⟩:aH).bl.Nodup):g∈fG ⟨bx,A++ai g m ev l::B⟩ Z:=by
 have h3:g∈(A++ai g m ev l::B).flatMap λr=>aO r.v:=by simp [qJ]
 refine gK.2 ⟨f7 _ h3,λhz=>?_⟩;exact (du.1 hn).2.2 g (hZ g hz) g h3 J
end
end
section
abbrev bd:=List (ByteArray×Int)
structure dt where
 vis:bd
 n:Nat
 at_:Int
def lr(v:bd)(s:ByteArray):Nat:=if bO v s=0 then 6 else if bO v s=1 then 0 else 8
mutual
def gA(v:bd):aP -> Nat
 |.mk op _ name args=>if op=2 then lr v name else iI v args
def iI(v:bd):List aP -> Nat
 |[]=>0
 |e::r=>if gA v e=0 then iI v r else gA v e
end
def yr(v:bd):List aP -> Nat
 |[]=>0
 |e::_=>gA v e
def pX(v:bd)(r:cD):Bool:=(decide (bO v r.name≠2) && decide (bO v r.name≠3) && decide (bO v r.name≠4))||(decide (bO v r.name=3) != decide (0<r.index.length))
def lO(v:bd)(r:cD):Nat:=if bO v r.name=0 then 6 else if pX v r then 8 else if bO v r.name=3 then yr v r.index else 0
def kp(v:bd)(a:cK)(x:bp):Nat:=if a.mutex=x.mutex then (if a.mutex then lO v a.ref else gA v a.expr) else 8
def gW(v:bd):List cK -> List bp -> Nat
 |a::l,x::xs=>if kp v a x=0 then gW v l xs else kp v a x
 |_,_=>0
abbrev dC:=List (ByteArray×bE)
def Fv(v:bd)(args:List cK):Option bE -> Nat
 |none=>0
 |some f=>if args.length=f.params.length then gW v args f.params else 7
def oL(v:bd)(fs:dC)(name:ByteArray)(args:List cK):Nat:=if bO v name=0 then 6 else if bO v name=5 then Fv v args (dG fs name) else 8
def jW(v:bd)(fs:dC)(s:aL):Nat:=
 if s.kind=1 then (if bO v s.name=0 then gA v s.expr else 5)
 else if s.kind=2 then (if lr v s.name=0 then gA v s.expr else lr v s.name)
 else if s.kind=5∨s.kind=6 then lO v s.ref
 else if s.kind=3∨s.kind=4 then oL v fs s.name s.args
 else if s.kind=7∨s.kind=8 then gA v s.expr else 0
def gR(x:Nat×List ByteArray×dt):Nat×dt:=if x.1=0 then (0,⟨x.2.1.foldl d_ x.2.2.vis,x.2.2.n,x.2.2.at_⟩) else (x.1,x.2.2)
def hG(s:aL)(x:dt):dt:=⟨if s.kind=1 then cc x.vis s.name 1 else x.vis,x.n+1,x.n⟩
def m7(s:aL)(own:List ByteArray):List ByteArray:=if s.kind=1 then own++[s.name] else own
mutual
def fP(fs:dC):aL -> dt -> Nat×dt
 |.mk k name e r args t f,x=>
  if jW x.vis fs (.mk k name e r args t f)=0 then
   (if (gR (dP fs t [] (hG (.mk k name e r args t f) x))).1=0 then gR (dP fs f [] (gR (dP fs t [] (hG (.mk k name e r args t f) x))).2) else gR (dP fs t [] (hG (.mk k name e r args t f) x)))
  else (jW x.vis fs (.mk k name e r args t f),⟨x.vis,x.n+1,x.n⟩)
def dP(fs:dC):List aL -> List ByteArray -> dt -> Nat×List ByteArray×dt
 |[],own,x=>(0,own,x)
 |s::l,own,x=>if (fP fs s x).1=0 then dP fs l (m7 s own) (fP fs s x).2 else ((fP fs s x).1,own,(fP fs s x).2)
end
def iU(fs:dC)(l:List aL)(x:dt):Nat×dt:=gR (dP fs l [] x)
def rb(fs:dC)(s:aL)(x:dt):fP fs s x=if jW x.vis fs s=0 then (if (iU fs s.thn (hG s x)).1=0 then iU fs s.els (iU fs s.thn (hG s x)).2 else iU fs s.thn (hG s x)) else (jW x.vis fs s,⟨x.vis,x.n+1,x.n⟩):=by
 obtain ⟨k,name,e,r,args,t,f⟩:=s;rw [fP];rfl
def lU(x:bp):Int:=if x.mutex then 4 else 1
def eW:List bp -> bd -> Bool×bd
 |[],v=>(true,v)
 |x::r,v=>if bO v x.name=0 then eW r (cc v x.name (lU x)) else (false,v)
def jn(l:List bp)(v:bd):bd:=l.foldl (λv x=>d_ v x.name) v
def gw(fs:dC)(f:bE)(v:bd):Nat×dt:=
 if (eW f.params v).1 then ((iU fs f.body ⟨(eW f.params v).2,0,-1⟩).1,⟨jn f.params (iU fs f.body ⟨(eW f.params v).2,0,-1⟩).2.vis,(iU fs f.body ⟨(eW f.params v).2,0,-1⟩).2.n,(iU fs f.body ⟨(eW f.params v).2,0,-1⟩).2.at_⟩)
 else (5,⟨(eW f.params v).2,0,-1⟩)
def lP(fs:dC):List bE -> Nat -> bd -> Int×Int×Nat
 |[],_,_=>(0,0,0)
 |f::r,i,v=>if (gw fs f v).1=0 then lP fs r (i+1) (gw fs f v).2.vis else (i,(gw fs f v).2.at_,(gw fs f v).1)
def fM:List (ByteArray×Int) -> bd -> Nat -> Option Nat×bd
 |[],v,_=>(none,v)
 |p::r,v,n=>if bO v p.1=0 then fM r (cc v p.1 p.2) (n+1) else (some n,v)
def mY(m:cq):Int:=if 0<m.size then 3 else 2
def eR(p:aZ):List (ByteArray×Int):=p.globals.map (λg=>(g.name,1))++(p.mutexes.map (λm=>(m.name,mY m))++p.funcs.map (λf=>(f.name,5)))
def fO(l:List bE):dC:=l.foldl (λm f=>cc m f.name f) []
def ta:ByteArray:=⟨#[109,97,105,110]⟩
def nN(p:aZ):Bool:=match dG (fO p.funcs) ta with
 |none=>false
 |some f=>decide (f.params.length=0)
def mP(p:aZ):Int×Int×Nat:=
 if gE p=false then (-1,-1,10) else
 match (fM (eR p) [] 0).1 with
 |some i=>(-1,i,5)
 |none=>if nN p then lP (fO p.funcs) p.funcs 0 (fM (eR p) [] 0).2 else (-1,-1,9)
def mG{α:Type}(l:List (aG×α))(k:aG)(a:α)(s:aG):dG (cc l k a) s=if k=s then some a else dG l s:=by
 induction l with
 |nil=>
  unfold cc dG;by_cases h:k=s
  ·rw [if_pos h,if_pos h]
  ·rw [if_neg h,if_neg h];rfl
 |cons p l ih=>
  unfold cc;by_cases h:p.1=k
  ·rw [if_pos h];unfold dG;by_cases hs:k=s
   ·rw [if_pos hs,if_pos hs]
   rw [if_neg hs,if_neg hs,if_neg (λh2=>hs (h▸h2))]
  rw [if_neg h];unfold dG;by_cases hs:p.1=s
  ·rw [if_pos hs,if_neg (λh2=>h (hs.trans h2.symm)),if_pos hs]
  rw [if_neg hs,ih,if_neg hs]
def put_eq{α:Type}(p:aG×α)(l:List (aG×α))(k:aG)(a:α):cc (p::l) k a=if p.1=k then (k,a)::l else p::cc l k a:=rfl
def Vn{α:Type}(l:List (aG×α))(k:aG)(a b:α):cc (cc l k a) k b=cc l k b:=by
 induction l with
 |nil=>show cc [(k,a)] k b=[(k,b)];rw [put_eq,if_pos rfl]
 |cons p l ih=>
  rw [put_eq,put_eq];by_cases h:p.1=k
  ·rw [if_pos h,if_pos h,put_eq,if_pos rfl]
  rw [if_neg h,if_neg h,put_eq,if_neg h,ih]
def co{α:Type}(l:List (ByteArray×α)):Prop:=(l.map (·.1)).Nodup
def Oh{α:Type}(l:List (aG×α))(k:aG)(a:α):∀s,s∈(cc l k a).map (·.1) -> s=k∨s∈l.map (·.1):=by
 induction l with
 |nil=>intro s h;unfold cc at h;simp at h;exact .inl h
 |cons p l ih=>
  intro s h;unfold cc at h;split at h
  ·rename_i h2;simp only [cd,mem_cons] at h⊢;rcases h with h|h
   ·exact .inl h
   exact .inr (.inr h)
  simp only [cd,mem_cons] at h⊢;rcases h with h|h
  ·exact .inr (.inl h)
  exact (ih s h).imp id .inr
def co.put{α:Type}{l:List (aG×α)}(h:co l)(k:aG)(a:α):co (cc l k a):=by
 induction l with
 |nil=>unfold cc co;simp
 |cons p l ih=>
  unfold co at h;simp only [cd,kE] at h;unfold cc;split
  ·rename_i h2;unfold co;simp only [cd,kE];exact ⟨by rw [←h2];exact h.1,h.2⟩
  rename_i h2;have h3:=ih h.2;unfold co at h3⊢;simp only [cd,kE];exact ⟨λhm=>(Oh l k a p.1 hm).elim h2 h.1,h3⟩
def Rw{α:Type}(l:List (aG×α))(k:aG):((d_ l k).map (·.1)).Sublist (l.map (·.1)):=by
 induction l with
 |nil=>exact .refl _
 |cons p l ih=>
  unfold d_;split
  ·exact vU _ _
  exact ih.cons_cons _
def co.del{α:Type}{l:List (aG×α)}(h:co l)(k:aG):co (d_ l k):=(Rw l k).nodup h
def UV{α:Type}{l:List (aG×α)}{s:aG}(h:s∉l.map (·.1)):dG l s=none:=by
 induction l with
 |nil=>rfl
 |cons p l ih=>
  simp only [cd,mem_cons,not_or] at h;unfold dG;rw [if_neg (λh2=>h.1 h2.symm)];exact ih h.2
def ER{α:Type}{l:List (aG×α)}(h:co l)(k s:aG):dG (d_ l k) s=if k=s then none else dG l s:=by
 induction l with
 |nil=>unfold d_ dG;split<;>rfl
 |cons p l ih=>
  unfold co at h;simp only [cd,kE] at h;unfold d_;by_cases hp:p.1=k
  ·rw [if_pos hp];by_cases hs:k=s
   ·rw [if_pos hs];exact UV (by rw [←hs,←hp];exact h.1)
   rw [if_neg hs];conv=>rhs;unfold dG
   rw [if_neg (λh2=>hs (hp▸h2))]
  rw [if_neg hp];unfold dG;by_cases hs:p.1=s
  ·rw [if_pos hs,if_neg (λh2=>hp (hs.trans h2.symm)),if_pos hs]
  rw [if_neg hs,ih h.2,if_neg hs]
def kx(v:bd)(k:aG)(a:Int)(s:aG):bO (cc v k a) s=if k=s then a else bO v s:=by
 unfold bO;rw [mG];split<;>rfl
def rX{v:bd}(h:co v)(k s:aG):bO (d_ v k) s=if k=s then 0 else bO v s:=by
 unfold bO;rw [ER h];split<;>rfl
def dz(v:bd)(fs:dC):Prop:=co v /\ ∀s,bO v s=5 -> ∃f,dG fs s=some f
def dz.put{v:bd}{fs:dC}(h:dz v fs)(k:aG){a:Int}(ha:a≠5):dz (cc v k a) fs:=
 ⟨h.1.put k a,λs hs=>by
  rw [kx] at hs;split at hs
  ·exact absurd hs ha
  exact h.2 s hs⟩
def dz.del{v:bd}{fs:dC}(h:dz v fs)(k:aG):dz (d_ v k) fs:=
 ⟨h.1.del k,λs hs=>by
  rw [rX h.1] at hs;split at hs
  ·cases hs
  exact h.2 s hs⟩
def dz.dels{fs:dC}:∀(l:List aG) {v:bd},dz v fs -> dz (l.foldl d_ v) fs
 |[],_,h=>h
 |k::l,_,h=>dz.dels l (h.del k)
def Ex{fs:dC}{x:Nat×List aG×dt}(h:dz x.2.2.vis fs):dz (gR x).2.vis fs:=by
 unfold gR;split
 ·exact h.dels _
 exact h
def UP{fs:dC}{s:aL}{x:dt}(h:dz x.vis fs):dz (hG s x).vis fs:=by
 unfold hG;dsimp only;split
 ·exact h.put _ V
 exact h
mutual
def Vp(fs:dC):∀(s:aL)(x:dt),dz x.vis fs -> dz (fP fs s x).2.vis fs
 |.mk k name e r args t f,x,h=>by
  have h1:dz (gR (dP fs t [] (hG (.mk k name e r args t f) x))).2.vis fs:=Ex (AU fs t [] _ (UP h));rw [fP];split
  ·split
   ·exact Ex (AU fs f [] _ h1)
   exact h1
  exact h
def AU(fs:dC):∀(l:List aL)(own:List aG)(x:dt),dz x.vis fs -> dz (dP fs l own x).2.2.vis fs
 |[],_,_,h=>h
 |s::l,own,x,h=>by
  have h1:=Vp fs s x h;rw [dP];split
  ·exact AU fs l _ _ h1
  exact h1
end
def vO{fs:dC}{l:List aL}{x:dt}(h:dz x.vis fs):dz (iU fs l x).2.vis fs:=Ex (AU fs l [] x h)
def wF(x:Nat×List aG×dt):(gR x).2.n=x.2.2.n:=by unfold gR;split<;>rfl
def UC(s:aL)(x:dt):(hG s x).n=x.n+1:=rfl
mutual
def U_(fs:dC):∀(s:aL)(x:dt),(fP fs s x).2.n <= x.n+s.wt
 |.mk k name e r args t f,x=>by
  have h1:=zP fs t [] (hG (.mk k name e r args t f) x);have h2:=zP fs f [] (gR (dP fs t [] (hG (.mk k name e r args t f) x))).2;rw [wF] at h2;rw [UC] at h1;rw [fP,aL.wt];split
  ·split
   ·rw [wF];omega
   rw [wF];omega
  dsimp only;omega
def zP(fs:dC):∀(l:List aL)(own:List aG)(x:dt),(dP fs l own x).2.2.n <= x.n+bQ l
 |[],_,_=>by rw [dP,bQ];dsimp only;omega
 |s::l,own,x=>by
  have h1:=U_ fs s x;have h2:=zP fs l (m7 s own) (fP fs s x).2;rw [dP,bQ];split
  ·omega
  dsimp only;omega
end
def xw(fs:dC)(l:List aL)(x:dt):(iU fs l x).2.n <= x.n+bQ l:=by unfold iU;rw [wF];exact zP fs l [] x
end
section
structure db (gs ms fs lk lo:bd) (l:List bK):Prop where
 lo:∀s,dG lo s=(match bI l s with|some v=>if v.kind=4 then some ((v.n:Nat):Int) else none|none=>none)
 lk:∀s,dG lk s=(match bI l s with|some v=>if v.kind=5 then some ((v.n:Nat):Int) else none|none=>none)
 gs:∀s v,bI l s=some v -> v.kind=1 -> dG gs s=some ((v.n:Nat):Int)
 ms:∀s v,bI l s=some v -> v.kind=2 -> dG ms s=some ((v.n:Nat):Int)
 fs:∀s v,bI l s=some v -> v.kind=3 -> dG fs s=some ((v.n:Nat):Int)
section
variable {gs ms fs lk lo:bd}{l:List bK}
theorem db.lo_in(m:db gs ms fs lk lo l){s:aG}(h:(dG lo s).isSome=true):∃n:Nat,bO lo s=n /\ bL l s=⟨(bL l s).name,4,n⟩:=by
 have h1:=m.lo s;unfold bO bL;rcases h2:bI l s with _|v
 ·rw [h2] at h1;rw [h1] at h;cases h
 rw [h2] at h1;dsimp only at h1;by_cases h3:v.kind=4
 ·rw [if_pos h3] at h1;rw [h1];exact ⟨v.n,rfl,by obtain ⟨a,b,c⟩:=v;cases h3;rfl⟩
 rw [if_neg h3] at h1;rw [h1] at h;cases h
theorem db.gs_in(m:db gs ms fs lk lo l){s:aG}(h:(dG lo s).isSome=false)(hv:ea l s=0):∃n:Nat,bO gs s=n /\ bL l s=⟨(bL l s).name,1,n⟩:=by
 have h1:=m.lo s;unfold ea at hv;unfold bO bL;rcases h2:bI l s with _|v
 ·rw [h2] at hv;cases hv
 rw [h2] at h1 hv;dsimp only at h1;unfold MN at hv;dsimp only at hv;by_cases h3:v.kind=4
 ·rw [if_pos h3] at h1;rw [h1] at h;cases h
 by_cases h4:v.kind=1
 ·rw [m.gs s v h2 h4];exact ⟨v.n,rfl,by obtain ⟨a,b,c⟩:=v;cases h4;rfl⟩
 rw [if_neg Y] at hv;cases hv
theorem db.lo_name(m:db gs ms fs lk lo l){s:aG}(h:(dG lo s).isSome=true):pW l s=.mk 18 (bO lo s) ax []:=by
 obtain ⟨n,h1,h2⟩:=m.lo_in h;unfold pW;rw [h2,h1];rfl
theorem db.gs_name(m:db gs ms fs lk lo l){s:aG}(h:(dG lo s).isSome=false)(hv:ea l s=0):pW l s=.mk 19 (bO gs s) ax []:=by
 obtain ⟨n,h1,h2⟩:=m.gs_in h hv;unfold pW;rw [h2,h1];rfl
theorem db.lk_ref(m:db gs ms fs lk lo l){p:aZ}{r:cD}(h:(dG lk r.name).isSome=true)(hE:dq p l r=0):∃n:Nat,bO lk r.name=n /\ eH l r=⟨true,n,[]⟩:=by
 have h1:=m.lk r.name;unfold dq at hE;unfold bO eH bL;rcases h2:bI l r.name with _|v
 ·rw [h2] at h1;rw [h1] at h;cases h
 rw [h2] at h1 hE;dsimp only at h1;by_cases h3:v.kind=5
 ·rw [if_pos h3] at h1;have h4:jf p r.index.length (some v)=0:=by unfold dE at hE;split at hE<;>assumption
  unfold jf at h4;dsimp only at h4;rw [if_pos (.inr h3),decide_eq_false (show ¬v.kind=2 by omega),AN] at h4;have h5:r.index=[]:=by
   cases hi:r.index with
   |nil=>rfl
   |cons a b=>rw [hi] at h4;simp at h4
  rw [h1,h5];exact ⟨v.n,J,by show (⟨decide (v.kind=5),v.n,_⟩:nL)=_;rw [decide_eq_true h3];rfl⟩
 rw [if_neg h3] at h1;rw [h1] at h;cases h
theorem ry{a b:Nat}(h:dE a b=0):a=0 /\ b=0:=by
 unfold dE at h;split at h
 ·exact ⟨kY,h⟩
 omega
theorem db.ms_ref(m:db gs ms fs lk lo l){p:aZ}{r:cD}(h:(dG lk r.name).isSome=false)(hE:dq p l r=0):∃n:Nat,bO ms r.name=n /\ eH l r=⟨false,n,r.index.map (cW l)⟩:=by
 have h1:=m.lk r.name;have h0:=(ry hE).1;unfold bO eH bL;rcases h2:bI l r.name with _|v
 ·rw [h2] at h0;cases h0
 rw [h2] at h1 h0;dsimp only at h1;by_cases h3:v.kind=5
 ·rw [if_pos h3] at h1;rw [h1] at h;cases h
 unfold jf at h0;dsimp only at h0;by_cases h4:v.kind=2
 ·rw [m.ms _ v h2 h4];exact ⟨v.n,J,by show (⟨decide (v.kind=5),v.n,_⟩:nL)=_;rw [decide_eq_false h3]⟩
 rw [if_neg Y] at h0;cases h0
theorem EG(l:List bK):∀(r:List aP),gT l r=0 -> ∀k (h:k<r.length),cO l r[k]=0
 |e::r,h,0,_=>by rw [gT] at h;exact (ry h).1
 |e::r,h,k+1,hk=>by rw [gT] at h;exact EG l r (ry h).2 k nS
theorem OK{p:aZ}{r:cD}(hE:dq p l r=0):∀k (h:k<r.index.length),cO l r.index[k]=0:=EG l r.index (ry hE).2
theorem KG(p:aZ)(l:List bK):∀(r:List cK)(x:List bp),x.length=r.length -> ia p l r x=0 -> gp r x=r /\ ∀k (h:k<r.length),rm p l r[k]=0
 |[],[],_,_=>⟨rfl,λk h=>absurd h aK⟩
 |a::r,x::xs,hl,h=>by
  rw [ia] at h;rw [gp];by_cases hm:a.mutex=x.mutex
  ·rw [if_pos hm] at h⊢;obtain ⟨h1,h2⟩:=ry h;obtain ⟨h3,h4⟩:=KG p l r xs sF h2;refine ⟨by rw [h3],λk hk=>?_⟩;cases k with
   |zero=>exact h1
   |succ k=>exact h4 k nS
  rw [if_neg hm] at h;cases h
theorem db.fs_call(m:db gs ms fs lk lo l){p:aZ}{s:aL}(hE:dx p l s=0):∃n:Nat,bO fs s.name=n /\ fv p l s=⟨if s.kind=4 then 3 else 2,n,false,.zero,dB,da l s.args,d5 l s.args⟩ /\ ∀k (h:k<s.args.length),rm p l s.args[k]=0:=by
 unfold dx at hE;unfold bO fv;rcases h2:bI l s.name with _|v
 ·rw [h2] at hE;cases hE
 rw [h2] at hE;unfold mi at hE;dsimp only at hE;by_cases h3:v.kind=3
 ·rw [if_pos h3] at hE;by_cases h4:(iy p v.n).length=s.args.length
  ·rw [if_pos h4] at hE;obtain ⟨h5,h6⟩:=KG p l s.args _ h4 hE;rw [m.fs _ v h2 h3];refine ⟨v.n,J,?_,h6⟩;unfold mQ;dsimp only;rw [if_pos h3,if_pos h4,h5]
  rw [if_neg h4] at hE;cases hE
 rw [if_neg h3] at hE;cases hE
end
end
section
open Go.RowKit
def ii(ops:Array Oper)(m:Nat):Array Oper:=(ops.toList.take m).toArray
def od(ops:Array Oper)(j:Nat):List Nat:=match ops.toList[j]? with
 |none=>[]
 |some o=>o.after.toList.filterMap λe=>if Region.binds .any e then some e.on else none
def tF(ops:Array Oper):Nat -> List Nat -> List Nat
 |0,c=>c
 |n+1,c=>tF ops n (c++c.flatMap (od ops))
def Ay{ops:Array Oper}{L:Nat -> Prop}(h:∀i o,ops[i]?=some o -> L i -> ∀e∈o.after,Region.binds .any e=true -> L e.on):∀(n:Nat)(c:List Nat),(∀x,x∈c -> L x) -> ∀x,x∈tF ops n c -> L x
 |0,_,hc=>hc
 |n+1,c,hc=>Ay h n _ λx hx=>by
  rcases mem_append.1 hx with hx|hx
  ·exact hc x hx
  obtain ⟨y,hy,hxy⟩:=jv.1 hx;unfold od at hxy;rw [ly] at hxy;cases ho:ops[y]? with
  |none=>rw [ho] at hxy;cases hxy
  |some o=>
   rw [ho] at hxy;obtain ⟨e,he,h2⟩:=AV.1 hxy;split at h2
   ·rename_i hb;cases h2;exact h y o ho (hc y hy) e so hb
   cases h2
def Cm(ops:Array Oper)(m:Nat):Bool:=(List.range ops.size).all λi=>match ops.toList[i]? with
 |none=>true
 |some o=>if i<m then o.guard.isNone && o.after.toList.all (λe=>!Region.binds .any e||decide (e.on<i)) else (List.range m).all λj=>(tF ops 2 (od ops i)).contains j
def Mr{P:Program}{md:Region.Mode}{ops:Array Oper}{Q:Exit -> Act -> aV -> Prop}:∀(f:Nat)(l:Array Bool)(a:Act)(w:aV),wpAny P md ops Q f l a w -> wpAny P md ops Q (f+1) l a w
 |0,_,_,_,h=>⟨λ_=>h.2,λi hi=>by rw [h.1] at hi;cases hi⟩
 |f+1,_,_,_,h=>⟨h.1,λi hi=>wpOp_mono (λa' w' h'=>Mr f _ a' w' h') (h.2 i hi)⟩
def J2{P:Program}{md:Region.Mode}{ops:Array Oper}{Q:Exit -> Act -> aV -> Prop}(f:Nat)(l:Array Bool)(a:Act)(w:aV)(h:wpAny P md ops Q f l a w):∀n,wpAny P md ops Q (n+f) l a w
 |0=>by rw [e0];exact h
 |n+1=>by rw [show n+1+f=(n+f)+1 by omega];exact Mr _ _ _ _ (J2 f l a w h n)
def rq{ops:Array Oper}{m i:Nat}:(ii ops m)[i]?=if i<m then ops[i]? else none:=by
 unfold ii;rw [B4,m0,ly]
def Tx{P:Program}{ops:Array Oper}{Q Q1:Exit -> Act -> aV -> Prop}{m f2:Nat}{D:Array Bool}(hc:Cm ops m=true)(hm:m <= ops.size)(hDt:∀j,j<m -> D[j]?=some true)
  (hn:∀a w,Q1 .normal a w -> wpAny P .any ops Q f2 D a w) (hq:∀e a w,e≠.normal -> Q1 e a w -> Q e a w):∀(f:Nat)(l1 l:Array Bool)(a:Act)(w:aV),l1.size=m -> l.size=D.size -> m <= D.size -> (∀j,j<m -> l[j]?=l1[j]?) -> (∀j,m <= j -> l[j]?=D[j]?) -> (∀i o,ops[i]?=some o -> l.getD i false=true -> ∀e∈o.after,Region.binds .any e=true -> l.getD e.on false=true) ->
   wpAny P .any (ii ops m) Q1 f l1 a w -> wpAny P .any ops Q (f+f2) l a w:=by
 have hcs:∀i o,ops[i]?=some o -> if i<m then o.guard=none /\ (∀e∈o.after,Region.binds .any e=true -> e.on<i) else ∀j,j<m -> j∈tF ops 2 (od ops i):=by
  intro i o ho;have hi:i<ops.size:=(tQ.1 ho).1;have h9:=d3.1 hc i (mr.2 hi);rw [ly,ho] at h9;dsimp only at h9;by_cases him:i<m
  ·rw [if_pos him] at h9⊢;simp only [cz,d3,lT,tr,decide_eq_true_eq,Option.isNone_iff_eq_none] at h9;exact ⟨h9.1,λe he hb=>(h9.2 e so).resolve_left (by rw [hb];decide)⟩
  rw [if_neg him] at h9⊢;intro j hj;have h8:=d3.1 h9 j (mr.2 hj);simpa using h8
 have over:∀(l1 l:Array Bool),l1.size=m -> m <= ops.size -> (∀j,j<m -> l[j]?=l1[j]?) -> Region.ready .any (ii ops m) l1=[] -> ∀j,j<m -> l1[j]?=some true:=by
  intro l1 l hs hm hl hr j;induction j using Nat.strongRecOn with
  |_ j ih=>
   intro hj;by_cases h:l1.getD j true=false
   ·exfalso;have hop:(ii ops m)[j]?=some (ops[j]'(by omega)):=G2;have hin:j∈Region.ready .any (ii ops m) l1:=by
     refine mem_ready.2 ⟨h,_,hop,λe he hb=>?_⟩;have h2:=hcs j _ (mc (Y:j<ops.size));rw [if_pos hj] at h2;have h3:=h2.2 e he hb;have h4:=ih e.on h3 Y;simp [jB,h4]
    rw [hr] at hin;cases hin
   have hj2:j<l1.size:=Y;rw [mc hj2];simp only [jB,mc hj2,tc] at h;simpa using h
 have same:∀(l1 l:Array Bool),l1.size=m -> l.size=D.size -> (∀j,j<m -> l[j]?=l1[j]?) -> (∀j,m <= j -> l[j]?=D[j]?) -> Region.ready .any (ii ops m) l1=[] -> l=D:=by
  intro l1 l hs1 hs2 he1 he2 hr;refine yh λj=>?_;by_cases hj:j<m
  ·rw [he1 j hj,over l1 l hs1 hm he1 hr j hj,hDt j hj]
  exact he2 j Y
 have getD_eq:∀(l1 l:Array Bool)(j:Nat)(d:Bool),l[j]?=l1[j]? -> l.getD j d=l1.getD j d:=λl1 l j d h=>by
  rw [jB,jB,h]
 intro f;induction f with
 |zero=>
  intro l1 l a w hs1 hs2 hmD he1 he2 hcl H;rw [e0,same l1 l hs1 hs2 he1 he2 H.1];exact hn a w H.2
 |succ f ih=>
  intro l1 l a w hs1 hs2 hmD he1 he2 hcl H;by_cases hr:Region.ready .any (ii ops m) l1=[]
  ·rw [same l1 l hs1 hs2 he1 he2 hr];exact J2 f2 _ _ _ (hn a w (H.1 hr)) (f+1)
  obtain ⟨k,hk⟩:=List.exists_mem_of_ne_nil _ hr;obtain ⟨hku,ok,hok,hkall⟩:=mem_ready.1 hk;have hkm:k<m:=by
   by_cases h:k<m
   ·exact h
   rw [rq,if_neg h] at hok;cases hok
  rw [rq,if_pos hkm] at hok;have hk1:l1[k]?=some false:=by
   have hks:k<l1.size:=Y;rw [jB,mc hks] at hku;rw [mc hks];simpa using hku
  rw [show f+1+f2=(f+f2)+1 by omega];refine ⟨λh0=>?_,λi hi=>?_⟩
  ·exfalso;have hin:k∈Region.ready .any ops l:=by
    refine mem_ready.2 ⟨FE,ok,hok,λe he hb=>?_⟩;have h2:=hcs k ok hok;rw [if_pos hkm] at h2;have h3:=h2.2 e he hb;rw [getD_eq l1 l e.on false (he1 _ Y)];exact hkall e he hb
   rw [h0] at hin;cases hin
  obtain ⟨hiu,o,ho,hall⟩:=mem_ready.1 hi;have h2:=hcs i o ho;by_cases him:i<m
  ·rw [if_pos him] at h2;have ho1:(ii ops m)[i]?=some o:=by rw [rq,if_pos him];exact ho
   have hi1:i∈Region.ready .any (ii ops m) l1:=by
    refine mem_ready.2 ⟨Lz,o,ho1,λe he hb=>?_⟩;have h3:=h2.2 e he hb;rw [←getD_eq l1 l e.on false (he1 _ Y)];exact hall e he hb
   have h4:=H.2 i hi1;have hw:∀y,Region.wanted o y=true:=λy=>by unfold Region.wanted;rw [h2.1]
   unfold wpOp at h4⊢;rw [ho1] at h4;rw [ho];dsimp only at h4⊢;rw [if_pos (hw _)] at h4⊢;have hL:LetsOut Q1 -> LetsOut Q:=λ⟨a,w,h⟩=>⟨a,w,hq _ a w aK h⟩;rcases h4 with h4|⟨h5,h6⟩
   ·refine .inl (Oper.wp_mono2 (λa' w' h'=>ih (l1.setIfInBounds i true) (l.setIfInBounds i true) a' w' (by simpa using hs1) (by simpa using hs2) hmD (λj hj=>?_) (λj hj=>?_) (λq oq hoq hlq e he hb=>?_) h') hq hL h4)
    ·rw [nZ,nZ];by_cases hij:i=j
     ·rw [if_pos hij,if_pos hij,if_pos Y,if_pos Y]
     rw [if_neg hij,if_neg hij];exact he1 j hj
    ·rw [nZ,if_neg Y];exact he2 j hj
    have hup:∀z,l.getD z false=true -> (l.setIfInBounds i true).getD z false=true:=λz hz=>by
     rw [jB] at hz⊢;rw [nZ];split
     ·split
      ·rfl
      rw [or Y] at hz;cases hz
     exact hz
    by_cases hqi:i=q
    ·subst hqi;obtain rfl:=kz (ho.symm.trans hoq);exact hup _ (hall e he hb)
    refine hup _ (hcl q oq hoq ?_ e he hb);rw [jB,nZ,if_neg hqi] at hlq;rw [jB];exact hlq
   exact .inr ⟨h5,hL h6⟩
  exfalso;rw [if_neg him] at h2;have h3:l.getD k false=true:=Ay (L:=λz=>l.getD z false=true) hcl 2 _ (λx hx=>by
   unfold od at hx;rw [ly,ho] at hx;obtain ⟨e,he,h2⟩:=AV.1 hx;split at h2
   ·rename_i hb;cases h2;exact hall e so hb
   cases h2) k (h2 k hkm)
  rw [getD_eq l1 l k false (he1 k hkm),jB,hk1] at h3;cases h3
def To{P:Program}{id:Nat}{ops:Array Oper}{st:AS}{Q:Exit -> AS -> Prop}(m:Nat)(Z1 Z2:List Nat)(D:Array Bool)(hm:P.follows .mixedOrders=true)(hc:(Cm ops m,decide (m <= ops.size),decide (D.size=ops.size),(List.range m).all (λj=>D[j]? == some true),(List.range ops.size).all (λj=>decide (j<m)||D[j]? == some false))=(true,true,true,true,true))
  (h:dh P (ii ops m) Z1 m (Array.replicate m false) st (λst'=>dh P ops Z2 (ops.size-m) D st' (Q .normal))):bo P (.region id ops true) st Q:=by
 simp only [iN,decide_eq_true_eq,d3,mr,beq_iff_eq,lT] at hc;obtain ⟨hc1,hc2,hc3,hc4,hc5⟩:=hc;intro a w hs QQ hQ;refine Code.wp_mono (Q:=λe a' w'=>match e with|.normal=>QQ .normal a' w'|_=>False) JI ?_;refine wp_region_any hm ?_;show wpAny P .any ops _ ops.size (Array.replicate ops.size false) a w.drew;rw [show ops.size=m+(ops.size-m) by omega];refine Tx (Q1:=λe a' w'=>match e with|.normal=>∃st',dh P ops Z2 (ops.size-m) D st' (Q .normal) /\ eS st' a' w' /\ gj st w.drew st' w'|_=>False) (D:=D) hc1 hc2 hc4 ?_ ?_ m (Array.replicate m false) _ a w.drew aK di Y (λj hj=>?_) (λj hj=>?_) (λi o _ h=>?_) ?_
 ·rintro a' w' ⟨st',h1,h2,h3⟩;exact wpAny_of_held _ _ _ _ (h1 a' w' h2 _ (λ_ _ _ q=>q) λa2 w2 st2 q2 s2 k2=>hQ _ a2 w2 st2 q2 s2 (by
   have k:=h3.trans k2;exact ⟨⟨k.keep.os,k.keep.tape,k.keep.output,k.keep.size,k.keep.block⟩,⟨k.keepT.os,k.keepT.tape,k.keepT.output,k.keepT.size,k.keepT.block⟩,k.bl,k.T⟩))
 ·intro e a' w' he q;cases e with
  |normal=>exact absurd rfl he
  |_=>exact q.elim
 ·rw [AC,AC,if_pos Y,if_pos hj]
 ·rw [AC];by_cases hjn:j<ops.size
  ·rw [if_pos Y,(hc5 j hjn).resolve_left Y]
  rw [if_neg Y,or Y]
 ·exfalso;rw [jB,AC] at h;split at h<;>cases h
 exact wpAny_of_held _ _ _ _ (h a w.drew hs.drew _ (λ_ _ _ q=>q) λa' w' st' q s' k=>⟨st',q,s',k⟩)
def kf{P:Program}{id:Nat}{l l1 l2:List Oper}{st:AS}{Q:Exit -> AS -> Prop}(m:Nat)(Z1 Z2:List Nat)(D:Array Bool)[hs:nw m l l1 l2](hm:P.follows .mixedOrders=true)(hc:(Cm l.toArray m,decide (m <= l.toArray.size),decide (D.size=l.toArray.size),(List.range m).all (λj=>D[j]? == some true),(List.range l.toArray.size).all (λj=>decide (j<m)||D[j]? == some false))=(true,true,true,true,true))(h1:l1.length=m)
  (h:dh P l1.toArray Z1 m (Array.replicate m false) st (λst'=>dh P l.toArray Z2 (l.toArray.size-m) D st' (Q .normal))):bo P (.region id l.toArray true) st Q:=by
 refine To m Z1 Z2 D hm hc ?_;rw [show ii l.toArray m=l1.toArray by unfold ii;rw [hs.h];simp only;rw [r_ h1]];exact h
end
end Go.Proofs.YtjgeihmhppadaaaGreatDoor
