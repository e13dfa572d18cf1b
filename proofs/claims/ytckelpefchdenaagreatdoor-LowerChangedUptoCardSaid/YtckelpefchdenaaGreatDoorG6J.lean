import Derived.Test.YtckelpefchdenaaGreatDoorG5J
set_option linter.all false
set_option synthInstance.maxHeartbeats 1000000
set_option synthInstance.maxSize 1000000
set_option maxHeartbeats 6400000
set_option maxRecDepth 100000
namespace Go.Proofs.YtckelpefchdenaaGreatDoor
open Go.Proofs.Tryz
open List (length_append length_cons length_nil mem_append mem_cons not_mem_nil append_assoc getElem_mem take_of_length_le)
section
open Go.RowKit
section
variable {α:Type}{enc:α -> List aO}{z:Nat}(hz:∀x,(enc x).length=z){fs:List α}{k:Nat}(hk:k<fs.length)
include hz hk
theorem O_:fs.flatMap enc=(fs.take k).flatMap enc++(enc fs[k]++(fs.drop (k+1)).flatMap enc) /\ ((fs.take k).flatMap enc).length=k*z:=by
 refine ⟨?_,?_⟩
 ·conv=>lhs;rw [←ov k fs,ii hk]
  rw [dh,eZ]
 rw [dF enc z hz,kU,tJ Y]
theorem Xr:fi true z (fs.flatMap enc) (0+k*z)=some (.agg (enc fs[k])):=by
 obtain ⟨h1,h2⟩:=O_ hz hk;unfold fi;rw [if_pos rfl,h1,cq,tj h2,sN (hz _),if_pos (by rw [length_append,length_append,h2,hz];omega)]
theorem R3(i:Nat)(x:aO)(hx:(enc fs[k])[i]?=some x):fi false 1 (fs.flatMap enc) (0+k*z+i)=some (.c x):=by
 obtain ⟨h1,h2⟩:=O_ hz hk;have hi:i<(enc fs[k]).length:=(mN.1 hx).1;unfold fi;rw [if_neg V,h1,cq,oV Y,h2,uQ,qS hi,hx];rfl
end
def JQ(v:aN)(l:List bP)(s:aI)(n:Nat)(hn:n=l.length)(hN:n <= 1000000000)(bx:List aV)(rw:List aQ):aT prog 23 [ap v,cK s] [] ⟨bx,⟨v,83,3,n,l.flatMap bW⟩::rw⟩ λt s'=>t=.fd [.agg (bW (bQ l s)),au ((bL l s).isSome)] /\ s'=⟨bx,⟨v,83,3,n,l.flatMap bW⟩::rw⟩:=by
 subst hn;unfold bQ;refine bM 25 func23 ?_;refine go 13 λb1=>?_;refine jr (λk=>bL (l.drop k) s=bL l s) (l.length) 6 (λk=>[(0,ap v),(1,cK s),(4,aE b1)]) J (ao J) λk hk hvk=>?_;replace hvk:bL (l.drop k) s=bL l s:=hvk
 try dsimp only
 refine go 5 ?_;refine aC J (lT [] J J J xB) ?_;by_cases h1:(k:Int)<(l.length:Int)
 ·refine aJ J (cw h1) (go 8 ?_);refine sX [] Y λg cap hg=>?_;subst hg;refine go 3 ?_;refine aC J (ez (z:=3) k J J J J Y xB mA) ?_;refine aC J (id <|jX 0 (0+k*3+0) BN iG) ?_;refine aC J (kb [] rl iG (R3 nQ (Y:k<l.length) 0 _ J)) (go 1 ?_);by_cases h3:l[k].name=s
  ·refine aC J (fS true J J J (ob h3)) (go 7 ?_);refine aC J (ez (z:=3) k J J J J Y xB mA) ?_;refine aC J (kb [] qz mA (Xr nQ (Y:k<l.length))) (go 10 ?_);exact ⟨.inr J,_,⟨bx,⟨(.slice (some ⟨g,0,none⟩) l.length cap),83,3,l.length,l.flatMap bW⟩::rw⟩,jA J (bv [] J J qz mA (cG J J)) (bO J),ah bG (.refl _),by rw [OB Y h3 hvk];rfl,J⟩
  refine aC J (fS false J J J (o_ h3)) (go 8 ?_);refine bK J (go 2 ?_);exact ⟨Y,(Jj Y h3 hvk),(av J (b_ Y) (ao J))⟩
 refine aF J (ct h1) (go 16 ?_);exact ⟨.inr J,_,⟨bx,⟨v,83,3,l.length,l.flatMap bW⟩::rw⟩,jA J (bv [] J J qz mA (cG J J)) (bO J),ah bG (.refl _),Mw,J⟩
def CR(p:aX):(bd p).length=p.globals.length+p.mutexes.length+p.funcs.length:=by unfold bd;simp;omega
def WU(p:aX)(k:Nat)(h:k<p.globals.length):(bd p)[k]?=some ⟨p.globals[k].name,1,k⟩:=by
 unfold bd;rw [qS iX,G6,kl h];rfl
def Xo(p:aX)(k j:Nat)(hj:k=p.globals.length+j)(h:j<p.mutexes.length):(bd p)[k]?=some ⟨p.mutexes[j].name,2,j⟩:=by
 unfold bd;rw [oV dr,qS dr,G6,FX,show k-p.globals.length=j by omega,kl h];rfl
def Zp(p:aX)(k j:Nat)(hj:k=p.globals.length+p.mutexes.length+j)(h:j<p.funcs.length):(bd p)[k]?=some ⟨p.funcs[j].name,3,j⟩:=by
 unfold bd;rw [oV dr,oV dr,G6,FX,FX,show k-p.globals.length-p.mutexes.length=j by omega,kl h];rfl
def oM(l:List bP)(k:Nat)(b:Int):Prop:=(b=-1 /\ jp (l.take k) (l.drop k)=jp [] l)∨∃i:Nat,b=(i:Int) /\ jp [] l=some i
def oM.yes{l:List bP}{k:Nat}{b:Int}{e:bP}(h:oM l k b)(he:l[k]?=some e)(hb:b<0)(hf:(bL (l.take k) e.name).isSome=true):oM l (k+1) (k:Int):=by
 rcases h with ⟨-,h⟩|⟨i,rfl,-⟩
 ·obtain ⟨hk,rfl⟩:=mN.1 he;rw [ii hk,jp,if_pos hf,kU,tJ Y] at h;exact .inr ⟨k,J,h.symm⟩
 omega
def oM.old{l:List bP}{k:Nat}{b:Int}(h:oM l k b)(hb:¬b<0):oM l (k+1) b:=by
 rcases h with ⟨rfl,-⟩|h
 ·omega
 exact .inr h
def oM.no{l:List bP}{k:Nat}{b:Int}{e:bP}(h:oM l k b)(he:l[k]?=some e)(hf:(bL (l.take k) e.name).isSome=false):oM l (k+1) b:=by
 rcases h with ⟨hb,h⟩|h
 ·obtain ⟨hk,rfl⟩:=mN.1 he;rw [ii hk,jp,if_neg (by rw [hf];decide)] at h;exact .inl ⟨hb,by rw [gX hk];exact h⟩
 exact .inr h
def Hr{α:Type}{l:List α}{k:Nat}{e:α}(enc:α -> List aO)(he:l[k]?=some e):(l.take k).flatMap enc++[e].flatMap enc=(l.take (k+1)).flatMap enc:=by
 obtain ⟨hk,rfl⟩:=mN.1 he;rw [gX hk,dh]
def SU(p:aX)(hN:p.globals.length+p.mutexes.length+p.funcs.length <= 100000000)(bx:List aV)(rw:List aQ):aT prog 22 [.agg (di p)] [] ⟨bx,rw⟩ λt s'=>∃(v:aN) (b:Int),t=.fd [ap v,aj b] /\ oM (bd p) (bd p).length b /\ s'=⟨bx,⟨v,83,3,(bd p).length,(bd p).flatMap bW⟩::rw⟩:=by
 refine bM 94 func22 ?_;refine go 25 λb1=>?_;refine bK J (go 3 ?_);refine bK J (go 10 ?_);have hall:=CR p;refine gA 83 3 ?_;refine fv (λg:Nat×aN×Int=>(⟨94,aR g.2.1++[b1],⟨⟨b1,27,di p⟩::bx,⟨g.2.1,83,3,g.1,((bd p).take g.1).flatMap bW⟩::rw⟩,(7,ab g.1)::[(4,ap g.2.1),(5,aj g.2.2),(6,aj (((bd p).length:Nat):Int)),(1,aE b1)]⟩:AS)) (λg=>g.1 <= (bd p).length /\ oM (bd p) g.1 g.2.2) (λg=>(bd p).length-g.1) (0,.slice none 0 0,-1) (az (h:=av J (.refl _) (av J (.refl _) (av J (.refl _) (av J (b_ Y) (ao J))))) vQ) ⟨eL _,.inl ⟨J,J⟩⟩ ?_;rintro ⟨k,v,bad⟩ ⟨hk,hbad⟩;dsimp only at hk hbad
 try dsimp only
 refine go 5 ?_;by_cases h1:(k:Int)<(((bd p).length:Nat):Int)
 ·refine aJ J (cw h1) (go 8 ?_);obtain ⟨e,he⟩:∃e,(bd p)[k]?=some e:=⟨_,kl (Y:k<(bd p).length)⟩;refine go 6 λb2=>?_;refine sx (λ_:Unit=>(⟨94,aR v++[b2,b1],⟨⟨b2,83,bW e⟩::⟨b1,27,di p⟩::bx,⟨v,83,3,k,((bd p).take k).flatMap bW⟩::rw⟩,[(1,aE b1),(4,ap v),(5,aj bad),(6,aj (((bd p).length:Nat):Int)),(7,ab k),(8,aE b2)]⟩:AS)) ?_ ?_
  ·refine go 6 ?_;refine aC J (kM) (go 7 ?_);by_cases h3:((k:Int)-(p.globals.length:Int))<0;focus
    refine aJ J (cw h3) (go 8 ?_);refine aC J (bX cR cR p.globals nt (λ_=>J) k J J J J Y V mp jU) (go 7 ?_);have hE:=mU (he.symm.trans (WU p k Y))
   rotate_left;focus
    refine aF J (ct h3) (go 6 ?_);refine cx 9 J (t:=ab (k-p.globals.length)) (b_ Y) (go 4 ?_);by_cases h6:(((k-p.globals.length):Nat):Int)<(p.mutexes.length:Int);focus
     refine aJ J (cw h6) (go 8 ?_);refine aC J (bX bB bB p.mutexes lC (λ_=>J) (k-p.globals.length) J J J J Y V j6 fp) (go 7 ?_);have hE:=mU (he.symm.trans (Xo p k (k-p.globals.length) Y Y))
    rotate_left;refine aF J (ct h6) (go 4 ?_);refine bu [b1] (aU [0,1,2,3,4,5] 11 (go 7 ?_));refine aZ 6 J (kM) ?_;refine xh 40 J (t:=ab (k-p.globals.length-p.mutexes.length)) (b_ Y) ?_;refine aZ 7 J (bX bT bT p.funcs mY (λ_=>J) (k-p.globals.length-p.mutexes.length) J J J J Y V fu du) (aU [8,9,10,11,12,13] 3 (go 7 ?_));refine aZ 14 J (kM) ?_;refine xh 48 J (t:=ab (k-p.globals.length-p.mutexes.length)) (b_ Y) ?_;refine cY [(15,true),(16,false)] 0 (go 3 ?_);refine bC (go 1 ?_);have hE:=mU (he.symm.trans (Zp p k (k-p.globals.length-p.mutexes.length) Y Y))
   all_goals
    exact ⟨(),by rw [hE];exact az lD⟩
  rintro ⟨⟩
  try dsimp only
  refine go 6 ?_;refine cf J qG J (JQ v ((bd p).take k) e.name _ (by first|rfl|(rw [kU];omega)) Y _ _) ?_;rintro _ _ ⟨rfl,rfl⟩;refine go 11 λb3=>?_;rcases bz ((bL ((bd p).take k) e.name).isSome) with h9|h9
  ·refine aC J (cP (bH h9) (oh J J)) (go 1 ?_);by_cases h10:bad<0
   ·refine aJ J (cw h10) (go 12 ?_);refine aW J (bU (hf:=dd bW bW e J J J) tx ?_);refine aW J (dS [] wW J (dF bW 3 nQ _) V cO Y (N:=k+1) J Ij cI.h (Hr bW he) λw4=>?_);refine go 6 ?_;refine bK J (go 2 ?_);exact ⟨(k+1,w4,(k:Int)),⟨y0,hbad.yes he Y h9⟩,JI,az (h1:=c_) (h:=av J (b_ Y) (ao J)) lD⟩
   refine aF J (ct h10) (go 9 ?_);refine aW J (bU (hf:=dd bW bW e J J J) tx ?_);refine aW J (dS [] wW J (dF bW 3 nQ _) V cO Y (N:=k+1) J Ij cI.h (Hr bW he) λw5=>?_);refine go 6 ?_;refine bK J (go 2 ?_);exact ⟨(k+1,w5,bad),⟨y0,hbad.old Y⟩,JI,az (h1:=c_) (h:=av J (b_ Y) (ao J)) lD⟩
  refine aC J (cP (bH h9) (oh J J)) (go 11 ?_);refine aW J (bU (hf:=dd bW bW e J J J) tx ?_);refine aW J (dS [] wW J (dF bW 3 nQ _) V cO Y (N:=k+1) J Ij cI.h (Hr bW he) λw6=>?_);refine go 6 ?_;refine bK J (go 2 ?_);exact ⟨(k+1,w6,bad),⟨y0,hbad.no he h9⟩,JI,az (h1:=c_) (h:=av J (b_ Y) (ao J)) lD⟩
 refine aF J (ct h1) (go 17 ?_);obtain rfl:k=(bd p).length:=Y;rw [hP];refine ⟨.inr J,_,⟨bx,⟨v,83,3,(bd p).length,(bd p).flatMap bW⟩::rw⟩,jA J (bO J) (bO J),ah bG (.refl _),_,bad,J,hbad,J⟩
end
section
open Go.RowKit
def UD{P:Program}{f:ResultVar -> Sem aN}{r1 r2 r3 r4:ResultVar}{v1 v2 v3 v4:aN}{w:aa}(ae:(f r1).run P w=.ok v1 w)(e2:(f r2).run P w=.ok v2 w)(e3:(f r3).run P w=.ok v3 w)(e4:(f r4).run P w=.ok v4 w):(#[r1,r2,r3,r4].mapM f).run P w=.ok #[v1,v2,v3,v4] w:=by
 simp [dK,ae,e2,e3,e4]
def Sj{w:aa}{r1 r2 r3 r4:AT}{v1 v2 v3 v4:aN}(h1:cS w r1 v1)(h2:cS w r2 v2)(h3:cS w r3 v3)(h4:cS w r4 v4):cS w (.fd [r1,r2,r3,r4]) (.tuple #[v1,v2,v3,v4]):=
 .fd [r1,r2,r3,r4] [v1,v2,v3,v4] rfl λi h h'=>by rcases i with _|_|_|_|i;exact h1;exact h2;exact h3;exact h4;simp at h;omega
def rF{P:Program}{st:AS}{fn:Func}{rv1 rv2 rv3 rv4:ResultVar}{r1 r2 r3 r4:AT}(h:fn.results=#[rv1,rv2,rv3,rv4])(h1:m8 P st rv1 r1)(h2:m8 P st rv2 r2)(h3:m8 P st rv3 r3)(h4:m8 P st rv4 r4):nb P fn st (.fd [r1,r2,r3,r4]):=λa w hs=>by
 obtain ⟨v1,ae,f1⟩:=h1 a w hs;obtain ⟨v2,e2,f2⟩:=h2 a w hs;obtain ⟨v3,e3,f3⟩:=h3 a w hs;obtain ⟨v4,e4,f4⟩:=h4 a w hs;refine ⟨_,Sj ae e2 e3 e4,?_⟩;unfold results;rw [h,dK]
 erw [UD f1 f2 f3 f4]
 simp [go_sem]
def fk(x:wY):List aO:=[ac x.name,am x.ints,am x.aLj,am x.locals,aG encI x.code]
def wg(x:wY):(fk x).length=5:=rfl
def qJ(p:aX)(f:a_):List Int:=match ie f.params (bd p) 0 0 with
 |none=>[]
 |some (l,i,_)=>(xG p f l i).sites
def EJ{P:Program}{c:Code}{n:Nat}{T:List Nat}{ts:List (Nat×AT)}{Q:Exit -> AS -> Prop}{rw:List aQ}{b:Nat}{E:ax}{cs cs':List aO}{v:aN}{E2:ax}{z k:Nat}{ds:List aO}(A:List aV){B:List aV}(i:Nat)(hi:cs[i]?=some (.val v))(hr:cs.set i (.sl k ds)=cs')(h:bi P c ⟨n,T,⟨A++⟨b,E,cs'⟩::B,rw⟩,ts⟩ Q)(hz:0<z:=by decide):bi P c ⟨n,T,⟨A++⟨b,E,cs⟩::B,⟨v,E2,z,k,ds⟩::rw⟩,ts⟩ Q:=by
 subst hr;exact rY (rS (st:=⟨n,T,⟨A++⟨b,E,cs⟩::B,⟨v,E2,z,k,ds⟩::rw⟩,ts⟩) (FP (r:=⟨v,E2,z,k,ds⟩) A i hi hz)) h
def zE{ps:List bg}{l:List bP}{i m k:Nat}{R:Option (List bP×Nat×Nat)}(hk:k<ps.length)(h:ie (ps.drop k) l i m=R):
  ((bL l ps[k].name).isSome=true -> R=none) /\ ((bL l ps[k].name).isSome=false -> (ps[k].mutex=true -> ie (ps.drop (k+1)) (l++[⟨ps[k].name,5,m⟩]) i (m+1)=R) /\ (ps[k].mutex=false -> ie (ps.drop (k+1)) (l++[⟨ps[k].name,4,i⟩]) (i+1) m=R)):=by
 rw [ii hk,ie] at h;refine ⟨λh0=>?_,λh0=>⟨λhm=>?_,λhm=>?_⟩⟩
 ·rw [if_pos h0] at h;exact h.symm
 ·rw [if_neg (by rw [h0];decide),if_pos hm] at h;exact h
 rw [if_neg (by rw [h0];decide),if_neg (by rw [hm];decide)] at h;exact h
def Oc(p:aX)(f:a_)(hok:qE p (bd p))(hl:(bd p).length <= 10000000)(hw:f.wt <= 20000000)(bx:List aV)(rw:List aQ):aT prog 24 [.agg (di p),.c (.sl (bd p).length ((bd p).flatMap bW)),.agg (bT f)] [] ⟨bx,rw⟩ λt s'=>t=.fd [.agg (fk (iU p f)),.c (.sl (qJ p f).length ((qJ p f).map λx=>aA x)),aj ((kJ p f).2),aj (((kJ p f).1:Nat):Int)] /\ s'=⟨bx,rw⟩:=by
 unfold a_.wt at hw;refine bM 136 func24 ?_;refine go 11 λb1 b2 b3=>?_;refine bu [b3,b2,b1] (aU [0,2] 5 (go 3 ?_));refine aY 1 J J (fH sD mA λg4=>?_);refine aY 3 J J (eW [] Tryz.t83 32 J J V J J sD aL J J J J V (dF bW 3 nQ (bd p)) cO Y (cq (bd p).length) (λhn b hb=>cz (r:=(⟨(.slice (some ⟨g4,0,none⟩) 0 0),83,3,0,[]⟩:aQ)) hn hb) cI.h (ck _) λw5=>?_);refine cY [(4,true),(5,false),(6,true)] 0 (go 4 λb6=>?_);refine bC (go 17 λb7=>?_);refine fv (λg:Nat×aN×List bP×Nat×Nat=>(⟨136,aR g.2.1++[b7,b6,b3,b2,b1],⟨⟨b7,76,[ac f.name,am g.2.2.2.1,am g.2.2.2.2,aA 0,aK]⟩::⟨b6,134,be p [.val g.2.1,aA 0,aA 0,aA 0,aA 0,aK,aK]⟩::⟨b3,76,[ac ay,aA 0,aA 0,aA 0,aK]⟩::⟨b2,49,bT f⟩::⟨b1,27,di p⟩::bx,⟨g.2.1,83,3,g.2.2.1.length,g.2.2.1.flatMap bW⟩::rw⟩,(12,ab g.1)::[(1,.c (.sl (bd p).length ((bd p).flatMap bW))),(3,aE b1),(5,aE b2),(6,aE b3),(7,.c (aK)),(8,aj 0),(9,aj 0),(10,aE b6),(11,aE b7)]⟩:AS)) (λg=>g.1 <= f.params.length /\ ie (f.params.drop g.1) g.2.2.1 g.2.2.2.1 g.2.2.2.2=ie f.params (bd p) 0 0 /\ g.2.2.2.1+g.2.2.2.2=g.1 /\ g.2.2.1.length=(bd p).length+g.1 /\ qE p g.2.2.1) (λg=>f.params.length-g.1) (0,w5,bd p,0,0) (az ja) ⟨eL _,J,J,J,hok⟩ ?_;rintro ⟨k,v,l,i,m⟩ ⟨hk,PJ,him,hll,hlo⟩;dsimp only at hk PJ him hll hlo
 try dsimp only
 refine go 7 ?_;by_cases h1:(k:Int)<(f.params.length:Int)
 ·refine aJ J (cw h1) (go 9 ?_);refine bu [b7,b6,b3,b2,b1] (aU [0,1,2,3,4,5,6] 10 (go 8 ?_));refine aZ 7 J (bX cE cE f.params iQ (λ_=>J) k J J J J Y V iK ga) (aU [8,9] 7 (go 3 ?_));refine cC 10 14 J ?_ ?_;focus
   refine (dv J J V qG J (JQ v l f.params[k].name _ (by first|rfl|(rw [hll];omega)) Y _ _) ?_);rintro _ _ ⟨rfl,rfl⟩;refine cY [(11,true),(12,true),(13,true),(14,false),(15,false),(16,true)] 0 (go 7 λb11=>?_)
  rotate_left;refine (iz J J V AD J λb11=>?_);refine aY 10 J J (dv J J V qG J (JQ v l f.params[k].name _ (by first|rfl|(rw [hll];omega)) Y _ _) ?_);rintro _ _ ⟨rfl,rfl⟩;refine cY [(11,true),(12,true),(13,true),(15,false),(16,true)] 0 (go 6 ?_);all_goals
   refine bC (go 6 ?_);refine iD J (λh7=>?_) (λh7=>?_)
   ·refine go 16 ?_;have hpl:=(zE Y PJ).1 h7;exact ⟨.inr J,_,⟨bx,rw⟩,rF J (iB (bI.agg (.r (.r (.r (.r (.n .nil)))))) (bv [_,_,_] J J isAgg76 rf (cG J J))) (iB (bI.c tz) (bO J)) (bO J) (bO J),ah (.cons _ yu) (AJ _ _),by unfold iU qJ kJ;rw [hpl];rfl,J⟩
   refine go 7 ?_;refine aC J (bX cE cE f.params iQ (λ_=>J) k J J J J Y V iK ga) (go 1 ?_);rcases bz (f.params[k].mutex) with h8|h8
   ·refine aC J (cP (bH h8) (kh J J dJ dI J)) (go 4 ?_);refine bu [] ?_;refine AG 16 16 3 [b11,b7,b6,b3,b2,b1] [] #[false,false,false,false,false,false,false,false,false,false,false,false,false,false,false,false,false,false,false] #[false,false,false,false,false,false,false,false,false,false,false,false,false,false,false,false] #[true,true,true,true,true,true,true,true,true,true,true,true,true,true,true,true,false,false,false] J aL aL ?_;refine aU [0,1,2,3,4,5,6,7] 8 (go 9 ?_);refine aZ 8 J (bX cE cE f.params iQ (λ_=>J) k J J J J Y V iK ga) (aU [9,10,11,12,13] 2 (go 6 ?_));refine aY 14 J J (bU (hf:=dd bW bW (⟨f.params[k].name,5,m⟩:bP) J J J) tx ?_);refine aY 15 J J (dS [] wW J (dF bW 3 nQ _) V cO Y (@length_append _ l [(⟨f.params[k].name,5,m⟩:bP)]).symm (λhn b hb=>cz (r:=(⟨v,83,3,l.length,l.flatMap bW⟩:aQ)) hn hb) cI.h (dh (f:=bW)).symm λw12=>?_);refine bC ?_;refine id ?_;refine cY [(16,true),(17,true),(18,false)] 0 (go 4 ?_);refine bC (go 4 ?_);refine bK J (go 1 ?_);refine cx 73 J (t:=ab (m+1)) (b_ Y) (go 6 ?_);refine bK J (go 2 ?_);exact ⟨(k+1,w12,l++[⟨f.params[k].name,5,m⟩],i,m+1),⟨y0,((zE Y PJ).2 h7).1 h8,nY,Bv,hlo.app (by show (5:Int)≠2;decide) IM⟩,BP,az (h1:=bG) (h:=av J (b_ Y) (ao J)) lD⟩
   refine aC J (cP (bH h8) (kh J J dJ dI J)) (go 4 ?_);refine bu [] ?_;refine AG 16 16 3 [b11,b7,b6,b3,b2,b1] [] #[false,false,false,false,false,false,false,false,false,false,false,false,false,false,false,false,false,false,false] #[false,false,false,false,false,false,false,false,false,false,false,false,false,false,false,false] #[true,true,true,true,true,true,true,true,true,true,true,true,true,true,true,true,false,false,false] J aL aL ?_;refine aU [0,1,2,3,4,5,6,7] 8 (go 9 ?_);refine aZ 8 J (bX cE cE f.params iQ (λ_=>J) k J J J J Y V iK ga) (aU [9,10,11,12,13] 2 (go 6 ?_));refine aY 14 J J (bU (hf:=dd bW bW (⟨f.params[k].name,4,i⟩:bP) J J J) tx ?_);refine aY 15 J J (dS [] wW J (dF bW 3 nQ _) V cO Y (@length_append _ l [(⟨f.params[k].name,4,i⟩:bP)]).symm (λhn b hb=>cz (r:=(⟨v,83,3,l.length,l.flatMap bW⟩:aQ)) hn hb) cI.h (dh (f:=bW)).symm λw13=>?_);refine bC ?_;refine id ?_;refine cY [(16,true),(17,true),(18,false)] 0 (go 4 ?_);refine bC (go 4 ?_);refine bK J (go 1 ?_);refine cx 95 J (t:=ab (i+1)) (b_ Y) (go 6 ?_);refine bK J (go 2 ?_);exact ⟨(k+1,w13,l++[⟨f.params[k].name,4,i⟩],i+1,m),⟨y0,((zE Y PJ).2 h7).2 h8,nY,Bv,hlo.app Ep yd⟩,BP,az (h1:=bG) (h:=av J (b_ Y) (ao J)) lD⟩
 refine aF J (ct h1) (go 20 ?_);obtain rfl:k=f.params.length:=Y;have hpl:ie f.params (bd p) 0 0=some (l,i,m):=by rw [←PJ,m6 (bY _),ie]
 refine eO (cs':=[aG cR p.globals,aG bB p.mutexes,aG bT p.funcs,aG bW l,am i,aA 0,aA 0,aA 0,aK,aK]) [_] 3 J J ?_;show cN prog _ _ ⟨_,_,⟨⟨b7,76,[ac f.name,am i,am m,aA 0,aK]⟩::⟨b6,134,be p [aG bW l,am i,aA 0,aA 0,aA 0,aK,aK]⟩::⟨b3,76,[ac ay,aA 0,aA 0,aA 0,aK]⟩::⟨b2,49,bT f⟩::⟨b1,27,di p⟩::bx,rw⟩,_⟩ _;refine wP 3 1 ?_;refine wP 99 12 ?_;show cN prog _ _ ⟨_,_,⟨⟨b7,76,[ac f.name,am i,am m,aA 0,aK]⟩::⟨b6,134,be p [.sl (ai.init l i).aq.length ((ai.init l i).aq.flatMap bW),aA (((ai.init l i).locals:Nat):Int),aA (((ai.init l i).n:Nat):Int),aA ((ai.init l i).q.2),aA (((ai.init l i).q.1:Nat):Int),aK,aK]⟩::⟨b3,76,[ac ay,aA 0,aA 0,aA 0,aK]⟩::⟨b2,49,bT f⟩::⟨b1,27,di p⟩::bx,⟨(.slice none 0 0),99,12,(ai.init l i).code.length,(ai.init l i).code.flatMap encI⟩::⟨(.slice none 0 0),3,1,(ai.init l i).sites.length,(ai.init l i).sites.map λx=>aA x⟩::rw⟩,_⟩ _;have hlk:dx p (ai.init l i) (an f.body+1):=⟨hlo,CN,J,CN,by show i+_ <= _;omega,by show l.length+_ <= _;omega⟩;have hbk:=yU p f.body (ai.init l i) 1 hlk;refine go 3 ?_;refine aW J (iO J J V call48 J (JH _ f.body (bY _) [_] _ b6 p (ai.init l i) (.slice none 0 0) (.slice none 0 0) _ (hlk.mono Y)) aM qd qd (λ_=>⟨aM,qd,qd⟩) λaN0 aN1=>?_);show cN prog _ _ ⟨_,_,⟨⟨b7,76,[ac f.name,am i,am m,aA 0,aK]⟩::⟨b6,134,be p [.sl (aP p f.body (ai.init l i)).aq.length ((aP p f.body (ai.init l i)).aq.flatMap bW),aA (((aP p f.body (ai.init l i)).locals:Nat):Int),aA (((aP p f.body (ai.init l i)).n:Nat):Int),aA ((aP p f.body (ai.init l i)).q.2),aA (((aP p f.body (ai.init l i)).q.1:Nat):Int),.val aN0,.val aN1]⟩::⟨b3,76,[ac ay,aA 0,aA 0,aA 0,aK]⟩::⟨b2,49,bT f⟩::⟨b1,27,di p⟩::bx,_⟩,_⟩ _;refine go 10 ?_;refine cx 107 J ((bI.agg (.r (.r (.r (.r (.r (.r (.n (.r (.r (.n (.n (.n .nil))))))))))))):bI _ (.agg (encI (bm 8 .zero)))) ?_;refine aW J (iO J J V pN J (o5 [_] _ b6 p (aP p f.body (ai.init l i)) aN0 aN1 _ (bm 8 .zero) (aP p f.body (ai.init l i)).n (by have:=hbk.code;omega) hbk.sites) aM cI.h cI.h il λaIh aJ6=>?_);show cN prog _ _ ⟨_,_,⟨⟨b7,76,[ac f.name,am i,am m,aA 0,aK]⟩::⟨b6,134,be p [.sl ((aP p f.body (ai.init l i)).put (bm 8 .zero) (aP p f.body (ai.init l i)).n).aq.length (((aP p f.body (ai.init l i)).put (bm 8 .zero) (aP p f.body (ai.init l i)).n).aq.flatMap bW),aA ((((aP p f.body (ai.init l i)).put (bm 8 .zero) (aP p f.body (ai.init l i)).n).locals:Nat):Int),aA ((((aP p f.body (ai.init l i)).put (bm 8 .zero) (aP p f.body (ai.init l i)).n).n:Nat):Int),aA (((aP p f.body (ai.init l i)).put (bm 8 .zero) (aP p f.body (ai.init l i)).n).q.2),aA ((((aP p f.body (ai.init l i)).put (bm 8 .zero) (aP p f.body (ai.init l i)).n).q.1:Nat):Int),.val aIh,.val aJ6]⟩::⟨b3,76,[ac ay,aA 0,aA 0,aA 0,aK]⟩::⟨b2,49,bT f⟩::⟨b1,27,di p⟩::bx,_⟩,_⟩ _
 refine go 3 ?_;refine bu [b6,b3,b2,b1] (cY [(0,true),(1,true),(2,true),(3,true),(4,true),(5,true),(6,true),(7,true),(8,true),(9,false),(10,true),(11,false)] 0 (go 13 ?_));refine bC (go 2 ?_);refine EJ (cs':=[ac f.name,am i,am m,aA ((((aP p f.body (ai.init l i)).put (bm 8 .zero) (aP p f.body (ai.init l i)).n).locals:Nat):Int),.sl ((aP p f.body (ai.init l i)).put (bm 8 .zero) (aP p f.body (ai.init l i)).n).code.length (((aP p f.body (ai.init l i)).put (bm 8 .zero) (aP p f.body (ai.init l i)).n).code.flatMap encI)]) [] 4 J J ?_;show bi prog _ ⟨_,_,⟨⟨b7,76,[ac f.name,am i,am m,aA ((((aP p f.body (ai.init l i)).put (bm 8 .zero) (aP p f.body (ai.init l i)).n).locals:Nat):Int),.sl ((aP p f.body (ai.init l i)).put (bm 8 .zero) (aP p f.body (ai.init l i)).n).code.length (((aP p f.body (ai.init l i)).put (bm 8 .zero) (aP p f.body (ai.init l i)).n).code.flatMap encI)]⟩::⟨b6,134,be p [.sl ((aP p f.body (ai.init l i)).put (bm 8 .zero) (aP p f.body (ai.init l i)).n).aq.length (((aP p f.body (ai.init l i)).put (bm 8 .zero) (aP p f.body (ai.init l i)).n).aq.flatMap bW),aA ((((aP p f.body (ai.init l i)).put (bm 8 .zero) (aP p f.body (ai.init l i)).n).locals:Nat):Int),aA ((((aP p f.body (ai.init l i)).put (bm 8 .zero) (aP p f.body (ai.init l i)).n).n:Nat):Int),aA (((aP p f.body (ai.init l i)).put (bm 8 .zero) (aP p f.body (ai.init l i)).n).q.2),aA ((((aP p f.body (ai.init l i)).put (bm 8 .zero) (aP p f.body (ai.init l i)).n).q.1:Nat):Int),.val aIh,.val aJ6]⟩::⟨b3,76,[ac ay,aA 0,aA 0,aA 0,aK]⟩::⟨b2,49,bT f⟩::⟨b1,27,di p⟩::bx,_⟩,_⟩ _;refine EJ (cs':=[aG cR p.globals,aG bB p.mutexes,aG bT p.funcs,.sl ((aP p f.body (ai.init l i)).put (bm 8 .zero) (aP p f.body (ai.init l i)).n).aq.length (((aP p f.body (ai.init l i)).put (bm 8 .zero) (aP p f.body (ai.init l i)).n).aq.flatMap bW),aA ((((aP p f.body (ai.init l i)).put (bm 8 .zero) (aP p f.body (ai.init l i)).n).locals:Nat):Int),aA ((((aP p f.body (ai.init l i)).put (bm 8 .zero) (aP p f.body (ai.init l i)).n).n:Nat):Int),aA (((aP p f.body (ai.init l i)).put (bm 8 .zero) (aP p f.body (ai.init l i)).n).q.2),aA ((((aP p f.body (ai.init l i)).put (bm 8 .zero) (aP p f.body (ai.init l i)).n).q.1:Nat):Int),.val aIh,.sl ((aP p f.body (ai.init l i)).put (bm 8 .zero) (aP p f.body (ai.init l i)).n).sites.length (((aP p f.body (ai.init l i)).put (bm 8 .zero) (aP p f.body (ai.init l i)).n).sites.map λx=>aA x)]) [_] 9 J J ?_
 show bi prog _ ⟨_,_,⟨⟨b7,76,[ac f.name,am i,am m,aA ((((aP p f.body (ai.init l i)).put (bm 8 .zero) (aP p f.body (ai.init l i)).n).locals:Nat):Int),.sl ((aP p f.body (ai.init l i)).put (bm 8 .zero) (aP p f.body (ai.init l i)).n).code.length (((aP p f.body (ai.init l i)).put (bm 8 .zero) (aP p f.body (ai.init l i)).n).code.flatMap encI)]⟩::⟨b6,134,be p [.sl ((aP p f.body (ai.init l i)).put (bm 8 .zero) (aP p f.body (ai.init l i)).n).aq.length (((aP p f.body (ai.init l i)).put (bm 8 .zero) (aP p f.body (ai.init l i)).n).aq.flatMap bW),aA ((((aP p f.body (ai.init l i)).put (bm 8 .zero) (aP p f.body (ai.init l i)).n).locals:Nat):Int),aA ((((aP p f.body (ai.init l i)).put (bm 8 .zero) (aP p f.body (ai.init l i)).n).n:Nat):Int),aA (((aP p f.body (ai.init l i)).put (bm 8 .zero) (aP p f.body (ai.init l i)).n).q.2),aA ((((aP p f.body (ai.init l i)).put (bm 8 .zero) (aP p f.body (ai.init l i)).n).q.1:Nat):Int),.val aIh,.sl ((aP p f.body (ai.init l i)).put (bm 8 .zero) (aP p f.body (ai.init l i)).n).sites.length (((aP p f.body (ai.init l i)).put (bm 8 .zero) (aP p f.body (ai.init l i)).n).sites.map λx=>aA x)]⟩::⟨b3,76,[ac ay,aA 0,aA 0,aA 0,aK]⟩::⟨b2,49,bT f⟩::⟨b1,27,di p⟩::bx,rw⟩,_⟩ _;refine bu [b7,b6,b2,b1] (cY [(0,true),(1,true),(2,true),(3,true),(4,true),(5,true),(6,true),(7,true),(8,true),(9,true),(10,true),(11,true),(12,true),(13,false),(14,true),(15,true),(16,true)] 0 (go 18 ?_));refine bC (go 2 ?_);exact ⟨.inr J,_,⟨bx,rw⟩,rF J (bv [_,_] J J isAgg76 rf (cG J J)) (bO J) (bO J) (bO J),ah yu (.refl _),by unfold iU qJ kJ;rw [hpl];rfl,J⟩
end
section
mutual
def aS.Fr:aS -> Prop
 |.mk _ num name args=>num.natAbs<9223372036854775808 /\ name.size <= 1048576 /\ nW args
def nW:List aS -> Prop
 |[]=>True
 |e::es=>e.Fr /\ nW es
end
def oH:List (List UInt8) -> Nat
 |[]=>0
 |t::ts=>t.length+oH ts
def Zg(ts:List (List UInt8)):(ts.getD 0 []).length <= oH ts:=by
 cases ts with
 |nil=>simp [oH]
 |cons t ts=>simp [oH]
def VO(ts:List (List UInt8)):(ts.getD 0 []).length+(ts.getD 1 []).length <= oH ts:=by
 match ts with
 |[]=>simp [oH]
 |[t]=>simp [oH]
 |t::u::ts=>first|(simp [oH];done)|(simp [oH];omega)
def MW{c:Prop}[Decidable c]{l r:List UInt8}{n:Nat}(h1:l.length <= n)(h2:r.length <= n):(if c then l else r).length <= n:=by
 by_cases h:c
 ·rw [if_pos h];exact h1
 rw [if_neg h];exact h2
def Pv(op:Int):(oU op).length <= 2:=by
 unfold oU
 repeat' (with_reducible apply MW)
 all_goals decide
def SX(op num:Int)(name:aI)(ts:List (List UInt8))(h1:num.natAbs<9223372036854775808)(h2:name.size <= 1048576):
  (kQ op num name ts).length <= 1048576+oH ts:=by
 have a0:=Zg ts;have a1:=VO ts;have a2:=Pv op;have a3:(fW num).length <= 21:=by
  have:=z8 _ (Nat.lt_trans h1 V);unfold fW;split<;>simp<;>omega
 have a4:name.data.toList.length=name.size:=J;unfold kQ
 repeat' (with_reducible apply MW)
 all_goals ((try simp only [length_append,length_cons,length_nil]);omega)
def Og:∀(N:Nat)(e:aS),e.nodes <= N -> e.Fr -> (cA e).length+2 <= e.nodes*2000000
 |0,.mk op num name args,h,_=>by rw [aS.nodes] at h;omega
 |N+1,.mk op num name args,h,ht=>by
  rw [aS.nodes] at h;rw [aS.Fr] at ht;have key:∀(l:List aS)(k:Nat),cv l <= N -> nW l -> oH (kB op k l) <= cv l*2000000:=by
   intro l;induction l with
   |nil=>intro k _ _;rw [kB,oH];omega
   |cons e es ih=>
    intro k hl hm;rw [cv] at hl⊢;rw [nW] at hm;rw [kB,oH];have h1:=Og N e Y hm.1;have h2:=ih (k+1) Y hm.2;split
    ·simp only [length_append,length_cons,length_nil];omega
    omega
  have h1:=key args 0 Y ht.2.2;have h2:=SX op num name (kB op 0 args) ht.1 ht.2.1;rw [cA,aS.nodes];omega
end
section
open Go.RowKit
def uX{s:aI}(h:cH s=true):s.data.toList.length <= 16:=by
 unfold cH at h;split at h
 ·cases h
 simp only [dm,decide_eq_true_eq] at h;exact h.1.2
mutual
def KQ:∀(e:aS),e.bt -> dy e=true -> e.Fr
 |.mk op num name args,hs,h=>by
  have hv:=NP _ hs h;rw [aS.bt] at hs;rw [dy] at h;simp only [dm] at h;rw [aS.Fr];refine ⟨?_,?_,P6 args hs.2.2 h.2⟩
  ·cases hv with
   |num n hn=>show (n:Int).natAbs<_;omega
   |_=>decide
  ·cases hv with
   |name s hn=>exact iN (uX hn) V
   |_=>decide
def P6:∀(l:List aS),jM l -> fX l=true -> nW l
 |[],_,_=>by rw [nW];trivial
 |y::l,hs,h=>by
  rw [jM] at hs;rw [fX,dm] at h;rw [nW];exact ⟨KQ y hs.1 h.1,P6 l hs.2 h.2⟩
end
def yb{e:aS}(hs:e.bt)(h:dy e=true):(cA e).length <= e.nodes*2000000:=by
 have:=Og e.nodes e (bY _) (KQ e hs h);omega
def VF{r:cD}(h:r.index.length=0):okRefB r=cH r.name:=by
 obtain ⟨n,ix⟩:=r;obtain rfl:ix=[]:=ke.1 h;unfold okRefB;simp
def U0{r:cD}(h:r.index.length=1):okRefB r=(cH r.name && fI (r.index[0]'(by omega))):=by
 obtain ⟨n,ix⟩:=r
 match ix,h with
 |[e],_=>rfl
def RJ{r:cD}(h:¬r.index.length=0)(h1:¬r.index.length=1):okRefB r=false:=by
 obtain ⟨n,ix⟩:=r
 match ix,h,h1 with
 |[],h,_=>exact absurd rfl h
 |[e],_,h=>exact absurd rfl h
 |_::_::_,_,_=>unfold okRefB;simp
def fl(s:aD):Bool:=decide (1 <= s.kind /\ s.kind <= 4)
def gP(s:aD):Bool:=decide (s.kind=3∨s.kind=4)
def f5(s:aD):Bool:=decide (s.kind=1∨s.kind=2∨s.kind=7∨s.kind=8)
def gB(s:aD):Bool:=decide (s.kind=5∨s.kind=6)
def f_(s:aD):Bool:=decide (s.kind=7∨s.kind=8)
def gT(s:aD):Bool:=decide (¬(1 <= s.kind /\ s.kind <= 9))
def uU(s:aD):Bool:=gT s||fl s && !cH s.name
def tt(s:aD):Bool:=uU s||!fl s && !decide (s.name=ay)
def vw(s:aD):Bool:=tt s||f5 s && !fI s.expr
def vW(s:aD):Bool:=vw s||!f5 s && !kp s.expr
def wI(s:aD):Bool:=vW s||gB s && !okRefB s.ref
def uo(s:aD):Bool:=wI s||!gB s && !mE s.ref
def td(s:aD):Bool:=uo s||!gP s && !decide (s.args.length=0)
def xz(D:Nat)(s:aD):Bool:=(if f_ s then dG (D+1) s.thn else decide (s.thn.length=0)) && (decide (s.els.length=0)||(decide (s.kind=7) && dG (D+1) s.els))
def tl(D:Nat)(s:aD):f6 D s=(!td s && s.args.all fc && xz D s):=by
 obtain ⟨k,n,e,r,args,t,el⟩:=s;rw [f6];unfold xz td uo wI vW vw tt uU;rw [show gT (.mk k n e r args t el)=!decide (1 <= k /\ k <= 9) from decide_not,show fl (.mk k n e r args t el)=decide (1 <= k /\ k <= 4) from rfl,show gP (.mk k n e r args t el)=decide (k=3∨k=4) from rfl,show f5 (.mk k n e r args t el)=decide (k=1∨k=2∨k=7∨k=8) from rfl,show gB (.mk k n e r args t el)=decide (k=5∨k=6) from rfl,show f_ (.mk k n e r args t el)=decide (k=7∨k=8) from rfl];show _=(_ && args.all fc && ((if decide (k=7∨k=8)=true then dG (D+1) t else decide (t.length=0)) && (decide (el.length=0)||(decide (k=7) && dG (D+1) el))));simp only [aD.name,aD.expr,aD.ref,aD.args];have hi:∀(p:Prop) [Decidable p] (a b:Bool),(if p then a else b)=((decide p && a)||(!decide p && b)):=λp _ a b=>by by_cases h:p<;>simp [h]
 simp only [hi,Bool.decide_eq_true];generalize decide (1 <= k /\ k <= 9)=b1;generalize decide (1 <= k /\ k <= 4)=b2;generalize decide (k=1∨k=2∨k=7∨k=8)=b3;generalize decide (k=5∨k=6)=b4;generalize decide (k=3∨k=4)=b5;generalize decide (k=7∨k=8)=b6;cases b1<;>cases b2<;>cases b3<;>cases b4<;>cases b5<;>cases b6<;>(simp [Bool.and_assoc];try rfl)
def uZ(D:Nat):∀(l:List aD)(k:Nat)(h:k<l.length),f6 D l[k]=false -> dG D l=false
 |s::l,0,_,h=>by rw [dG];simp only [Hk] at h;rw [h];rfl
 |s::l,k+1,hk,h=>by rw [dG,uZ D l k ql iX,ra]
def O5(D:Nat)(hD:D<24):∀(l:List aD),(∀k (h:k<l.length),f6 D l[k]=true) -> dG D l=true
 |[],_=>by rw [dG];exact decide_eq_true hD
 |s::l,h=>by rw [dG,show f6 D s=true from h 0 aM,O5 D hD l (λk hk=>h (k+1) ql)];rfl
def Wq(D:Nat)(hD:¬D<24)(l:List aD):dG D l=false:=by
 cases h:dG D l with
 |false=>rfl
 |true=>exact absurd (zB D l h) hD
def JX(e:aS)(s:aH):aT prog 72 [.agg (bf e)] [] s λt s'=>t=au (kp e) /\ s'=s:=by
 obtain ⟨bx,rw⟩:=s;refine bM 22 func72 ?_;refine go 10 λb1=>?_;by_cases h1:e.op=0
 ·refine aJ J (bR h1) (go 3 ?_);by_cases h2:e.num=0
  ·refine aJ J (bR h2) (go 4 ?_);by_cases h3:e.name=ay
   ·refine aC J (fS true J J J (ob h3)) (go 5 ?_);by_cases h4:(e.args.length:Int)=0
    ·refine aJ J (bR h4) (go 5 ?_);exact bF bx rw J cU ⟨bZ N6,J⟩
    refine aF J (bN h4) (go 5 ?_);exact bF bx rw J cU ⟨bZ (kf.2 λhh=>MG),J⟩
   refine aC J (fS false J J J (o_ h3)) (go 11 ?_);exact bF bx rw J cU ⟨bZ (kf.2 λhh=>LU),J⟩
  refine aF J (bN h2) (go 16 ?_);exact bF bx rw J cU ⟨bZ (kf.2 λhh=>P1),J⟩
 refine aF J (bN h1) (go 20 ?_);exact bF bx rw J cU ⟨bZ (kf.2 λhh=>Pu),J⟩
def MV(r:cD)(s:aH):aT prog 74 [.agg (encR r)] [] s λt s'=>t=au (mE r) /\ s'=s:=by
 obtain ⟨bx,rw⟩:=s;refine bM 12 func74 ?_;refine go 10 λb1=>?_;by_cases h1:r.name=ay
 ·refine aC J (fS true J J J (ob h1)) (go 4 ?_);by_cases h2:(r.index.length:Int)=0
  ·refine aJ J (bR h2) (go 5 ?_);exact bF bx rw J cU ⟨bZ LB,J⟩
  refine aF J (bN h2) (go 5 ?_);exact bF bx rw J cU ⟨bZ (kf.2 λhh=>Mb),J⟩
 refine aC J (fS false J J J (o_ h1)) (go 10 ?_);exact bF bx rw J cU ⟨bZ (kf.2 λhh=>Pi),J⟩
def Oi(r:cD)(hs:r.bt)(hN:cv r.index <= 900000000)(s:aH):aT prog 73 [.agg (encR r)] [] s λt s'=>t=au (okRefB r) /\ s'=s:=by
 obtain ⟨bx,rw⟩:=s;refine bM 25 func73 ?_;refine go 10 λb1=>?_;refine cf J call44 J (vU r.name (by first|assumption|exact hs.1) _) ?_;rintro _ _ ⟨hr1,rfl⟩;rcases bz (cH r.name) with h2|h2
 ·rw [h2] at hr1;subst hr1;refine go 4 ?_;by_cases h3:(r.index.length:Int)=0
  ·refine aJ J (bR h3) (go 18 ?_);exact bF bx rw J cU ⟨bZ (by rw [VF Y,h2]),J⟩
  refine aF J (bN h3) (go 4 ?_);by_cases h4:(r.index.length:Int)=1
  ·refine aJ J (bR h4) (go 3 ?_);refine aC J (bX bV bf r.index fw fR 0 J J J J Y V iR dl) (go 1 ?_);refine cf J call71 J (JE r.index[0] OC (qN _ hs.2 _ (getElem_mem _)) _) ?_;rintro _ _ ⟨hr5,rfl⟩;rcases bz (fI r.index[0]) with h6|h6;rotate_left;all_goals
    rw [h6] at hr5;subst hr5;refine go 7 ?_;exact bF bx rw J cU ⟨bZ (by rw [U0 Y,h2,h6];rfl),J⟩
  refine aF J (bN h4) (go 13 ?_);exact bF bx rw J cU ⟨bZ (RJ Y Y),J⟩
 rw [h2] at hr1;subst hr1;refine go 23 ?_;exact bF bx rw J cU ⟨bZ (by unfold okRefB;rw [h2];rfl),J⟩
def yQ{a:bq}(h:a.mutex=true):fc a=(okRefB a.ref && kp a.expr):=by unfold fc;rw [if_pos h]
def zm{a:bq}(h:a.mutex=false):fc a=(mE a.ref && fI a.expr):=by unfold fc;rw [if_neg nx]
def qb{α:Type}(f:α -> Bool)(l:List α)(k:Nat)(h:k<l.length)(hf:f l[k]=false):l.all f=false:=by
 cases ha:l.all f with
 |false=>rfl
 |true=>rw [fC.1 ha _ (getElem_mem h)] at hf;cases hf
def c1(D:Nat)(s:aD):Bool:=f_ s && !dG (D+1) s.thn
def c2(D:Nat)(s:aD):Bool:=c1 D s||!f_ s && !decide (s.thn.length=0)
def c3(D:Nat)(s:aD):Bool:=c2 D s||!decide (s.els.length=0) && (!decide (s.kind=7)||!dG (D+1) s.els)
def Mt(D:Nat)(s:aD):xz D s=!c3 D s:=by
 unfold xz c3 c2 c1;cases f_ s<;>simp [Bool.not_or]
def nE{s:aD}(h:s.bt):s.name.size <= 4611686018427387904 /\ s.expr.bt /\ s.ref.bt /\ (∀a,a∈s.args -> a.bt) /\ eI s.thn /\ eI s.els:=by cases s;rw [aD.bt] at h;exact h
def Kw(D:Nat)(l:List aD)(hs:eI l)(hw:an l <= 900000000)(ih1:∀k (h:k<l.length) (s:aH),aT prog 45 [.c (aG encS l[k].thn),aj ((D:Int)+1)] [] s λt s'=>t=au (dG (D+1) l[k].thn) /\ s'=s)(ih2:∀k (h:k<l.length) (s:aH),aT prog 45 [.c (aG encS l[k].els),aj ((D:Int)+1)] [] s λt s'=>t=au (dG (D+1) l[k].els) /\ s'=s)(s:aH):aT prog 45 [.c (aG encS l),ab D] [] s λt s'=>t=au (dG D l) /\ s'=s:=by
 obtain ⟨bx,rw⟩:=s;have hll:=ol l;refine bM 219 func45 ?_;refine go 9 ?_;by_cases h1:(24:Int) <= (D:Int)
 ·refine aJ J (oJ h1) (go 10 ?_);exact bF bx rw J d3 ⟨bZ (Wq D Y l),J⟩
 refine aF J (pF h1) (go 12 ?_);refine jr (λk=>∀i (h:i<l.length),i<k -> f6 D l[i]=true) (l.length) 5 (λk=>[(0,.c (aG encS l)),(1,ab D)]) nR (ao J) λk hk hvk=>?_;replace hvk:∀i (h:i<l.length),i<k -> f6 D l[i]=true:=hvk
 try dsimp only
 refine go 6 ?_;by_cases h4:(k:Int)<(l.length:Int)
 ·refine aJ J (cw h4) (go 9 ?_);have hlt:k<l.length:=Y;have hsk:=tg _ hs _ (getElem_mem hlt);obtain ⟨hsn,hse,Bk,hsa,hst,Fd⟩:=nE hsk;have hwk:=rH l k hlt;rw [f9] at hwk;unfold cD.wt at hwk;have hwa:=px l[k].args;refine go 2 ?_;refine aC J (bX encS cm l kS mQ k J J J J Y V j0 eB) (go 12 λb1=>?_);refine pK [(8,au (fl l[k])),(9,au (gP l[k])),(0,.c (aG encS l)),(1,ab D),(5,ab k),(6,aE b1),(7,aj (l[k].kind))] ?_ ?_
  ·refine go 2 ?_;by_cases h6:(1:Int) <= l[k].kind;focus
    refine aJ J (oJ h6) (go 2 ?_);by_cases h7:l[k].kind <= 4;focus
     refine aJ J (zw h7) (go 2 ?_);by_cases h8:l[k].kind=3;focus
      refine aJ J (bR h8) (go 7 ?_)
     rotate_left;focus
      refine aF J (bN h8) (go 2 ?_);by_cases h9:l[k].kind=4;focus
       refine aJ J (bR h9) (go 4 ?_)
      rotate_left;refine aF J (bN h9) (go 4 ?_)
    rotate_left 3;refine aF J (AP h7) (go 2 ?_);refine aF J (bN Y) (go 2 ?_);refine aF J (bN Y) (go 4 ?_)
   rotate_left 4;refine aF J (pF h6) (go 5 ?_);refine aF J (bN Y) (go 2 ?_);refine aF J (bN Y) (go 4 ?_);all_goals
    exact ⟨J,(av J (bH (by unfold fl;first|exact (decide_eq_true Y).symm|exact (decide_eq_false Y).symm)) (av J (bH (by unfold gP;first|exact (decide_eq_true Y).symm|exact (decide_eq_false Y).symm)) (ao J)))⟩
  refine pK [(10,au (f5 l[k])),(0,.c (aG encS l)),(1,ab D),(5,ab k),(6,aE b1),(7,aj (l[k].kind)),(8,au (fl l[k])),(9,au (gP l[k]))] ?_ ?_
  ·refine go 2 ?_;by_cases h10:l[k].kind=1;focus
    refine aJ J (bR h10) (go 14 ?_)
   rotate_left;focus
    refine aF J (bN h10) (go 2 ?_);by_cases h11:l[k].kind=2;focus
     refine aJ J (bR h11) (go 11 ?_)
    rotate_left;focus
     refine aF J (bN h11) (go 3 ?_);by_cases h12:l[k].kind=7;focus
      refine aJ J (bR h12) (go 7 ?_)
     rotate_left;focus
      refine aF J (bN h12) (go 3 ?_);by_cases CD:l[k].kind=8;focus
       refine aJ J (bR CD) (go 3 ?_)
      rotate_left;refine aF J (bN CD) (go 3 ?_)
   all_goals
    exact ⟨J,(av J (bH (by unfold f5;first|exact (decide_eq_true Y).symm|exact (decide_eq_false Y).symm)) (ao J))⟩
  refine pK [(11,au (gB l[k])),(0,.c (aG encS l)),(1,ab D),(5,ab k),(6,aE b1),(7,aj (l[k].kind)),(8,au (fl l[k])),(9,au (gP l[k])),(10,au (f5 l[k]))] ?_ ?_
  ·refine go 2 ?_;by_cases n9:l[k].kind=5;focus
    refine aJ J (bR n9) (go 6 ?_)
   rotate_left;focus
    refine aF J (bN n9) (go 2 ?_);by_cases sh:l[k].kind=6;focus
     refine aJ J (bR sh) (go 3 ?_)
    rotate_left;refine aF J (bN sh) (go 3 ?_)
   all_goals
    exact ⟨J,(av J (bH (by unfold gB;first|exact (decide_eq_true Y).symm|exact (decide_eq_false Y).symm)) (ao J))⟩
  refine go 3 ?_;refine pQ 7 [(67,au (gT l[k])),(0,.c (aG encS l)),(1,ab D),(5,ab k),(6,aE b1),(7,aj (l[k].kind)),(8,au (fl l[k])),(9,au (gP l[k])),(10,au (f5 l[k])),(11,au (gB l[k]))] ?_ ?_
  ·refine go 1 ?_;by_cases h16:l[k].kind<1;focus
    refine aJ J (cw h16) (go 6 ?_)
   rotate_left;focus
    refine aF J (ct h16) (go 2 ?_);by_cases wd:(9:Int)<l[k].kind;focus
     refine aJ J (fF wd) (go 3 ?_)
    rotate_left;refine aF J (fE wd) (go 3 ?_)
   all_goals
    exact ⟨J,(av J (bH (by unfold gT;first|exact (decide_eq_true Y).symm|exact (decide_eq_false Y).symm)) (ao J))⟩
  refine pQ 9 [(76,au (uU l[k])),(0,.c (aG encS l)),(1,ab D),(5,ab k),(6,aE b1),(7,aj (l[k].kind)),(8,au (fl l[k])),(9,au (gP l[k])),(10,au (f5 l[k])),(11,au (gB l[k]))] ?_ ?_
  ·rcases bz (gT l[k]) with h18|h18
   ·refine cx 67 J (bH h18) (go 10 ?_);exact ⟨J,(av J (bH (by unfold uU;rw [h18];rfl)) (ao J))⟩
   refine cx 67 J (bH h18) (go 1 ?_);rcases bz (fl l[k]) with h19|h19
   ·refine aC J (cP (bH h19) (oh J J)) (go 2 ?_);refine cf J call44 J (vU l[k].name (by first|assumption|exact hsn) _) ?_;rintro _ _ ⟨aIi,rfl⟩;rcases bz (cH l[k].name) with h21|h21;rotate_left;all_goals
     rw [h21] at aIi;subst aIi;refine go 5 ?_;exact ⟨J,(av J (bH (by unfold uU;rw [h18,h19,h21];rfl)) (ao J))⟩
   refine aC J (cP (bH h19) (oh J J)) (go 8 ?_);exact ⟨J,(av J (bH (by unfold uU;rw [h18,h19];rfl)) (ao J))⟩
  refine pQ 9 [(85,au (tt l[k])),(0,.c (aG encS l)),(1,ab D),(5,ab k),(6,aE b1),(7,aj (l[k].kind)),(8,au (fl l[k])),(9,au (gP l[k])),(10,au (f5 l[k])),(11,au (gB l[k]))] ?_ ?_
  ·rcases bz (uU l[k]) with h22|h22
   ·refine cx 76 J (bH h22) (go 10 ?_);exact ⟨J,(av J (bH (by unfold tt;rw [h22];rfl)) (ao J))⟩
   refine cx 76 J (bH h22) (go 1 ?_);rcases bz (fl l[k]) with h23|h23
   ·refine aC J (cP (bH (qk h23)) (jK J J)) (go 8 ?_);exact ⟨J,(av J (bH (by unfold tt;rw [h22,h23];rfl)) (ao J))⟩
   refine aC J (cP (bH (qh h23)) (jK J J)) (go 3 ?_);by_cases D0:l[k].name=ay
   ·refine aC J (fS false J J J (A_ D0)) (go 4 ?_);exact ⟨J,(av J (bH (by unfold tt;rw [h22,h23,decide_eq_true D0];rfl)) (ao J))⟩
   refine aC J (fS true J J J (Dt D0)) (go 4 ?_);exact ⟨J,(av J (bH (by unfold tt;rw [h22,h23,decide_eq_false D0];rfl)) (ao J))⟩
  refine pQ 9 [(94,au (vw l[k])),(0,.c (aG encS l)),(1,ab D),(5,ab k),(6,aE b1),(7,aj (l[k].kind)),(8,au (fl l[k])),(9,au (gP l[k])),(10,au (f5 l[k])),(11,au (gB l[k]))] ?_ ?_
  ·rcases bz (tt l[k]) with BT|BT
   ·refine cx 85 J (bH BT) (go 10 ?_);exact ⟨J,(av J (bH (by unfold vw;rw [BT];rfl)) (ao J))⟩
   refine cx 85 J (bH BT) (go 1 ?_);rcases bz (f5 l[k]) with ws|ws
   ·refine aC J (cP (bH ws) (oh J J)) (go 2 ?_);refine cf J call71 J (JE l[k].expr Y hse _) ?_;rintro _ _ ⟨LT,rfl⟩;rcases bz (fI l[k].expr) with RT|RT;rotate_left;all_goals
     rw [RT] at LT;subst LT;refine go 5 ?_;exact ⟨J,(av J (bH (by unfold vw;rw [BT,ws,RT];rfl)) (ao J))⟩
   refine aC J (cP (bH ws) (oh J J)) (go 8 ?_);exact ⟨J,(av J (bH (by unfold vw;rw [BT,ws];rfl)) (ao J))⟩
  refine pQ 10 [(104,au (vW l[k])),(0,.c (aG encS l)),(1,ab D),(5,ab k),(6,aE b1),(7,aj (l[k].kind)),(8,au (fl l[k])),(9,au (gP l[k])),(10,au (f5 l[k])),(11,au (gB l[k]))] ?_ ?_
  ·rcases bz (vw l[k]) with PA|PA
   ·refine cx 94 J (bH PA) (go 11 ?_);exact ⟨J,(av J (bH (by unfold vW;rw [PA];rfl)) (ao J))⟩
   refine cx 94 J (bH PA) (go 1 ?_);rcases bz (f5 l[k]) with DH|DH
   ·refine aC J (cP (bH (qk DH)) (jK J J)) (go 9 ?_);exact ⟨J,(av J (bH (by unfold vW;rw [PA,DH];rfl)) (ao J))⟩
   refine aC J (cP (bH (qh DH)) (jK J J)) (go 3 ?_);refine cf J call72 J (JX l[k].expr _) ?_;rintro _ _ ⟨aN2,rfl⟩;rcases bz (kp l[k].expr) with h32|h32;rotate_left;all_goals
    rw [h32] at aN2;subst aN2;refine go 5 ?_;exact ⟨J,(av J (bH (by unfold vW;rw [PA,DH,h32];rfl)) (ao J))⟩
  refine pQ 9 [(113,au (wI l[k])),(0,.c (aG encS l)),(1,ab D),(5,ab k),(6,aE b1),(7,aj (l[k].kind)),(8,au (fl l[k])),(9,au (gP l[k])),(10,au (f5 l[k])),(11,au (gB l[k]))] ?_ ?_
  ·rcases bz (vW l[k]) with MT|MT
   ·refine cx 104 J (bH MT) (go 10 ?_);exact ⟨J,(av J (bH (by unfold wI;rw [MT];rfl)) (ao J))⟩
   refine cx 104 J (bH MT) (go 1 ?_);rcases bz (gB l[k]) with h34|h34
   ·refine aC J (cP (bH h34) (oh J J)) (go 2 ?_);refine cf J call73 J (Oi l[k].ref Bk Y _) ?_;rintro _ _ ⟨PB,rfl⟩;rcases bz (okRefB l[k].ref) with h36|h36;rotate_left;all_goals
     rw [h36] at PB;subst PB;refine go 5 ?_;exact ⟨J,(av J (bH (by unfold wI;rw [MT,h34,h36];rfl)) (ao J))⟩
   refine aC J (cP (bH h34) (oh J J)) (go 8 ?_);exact ⟨J,(av J (bH (by unfold wI;rw [MT,h34];rfl)) (ao J))⟩
  refine pQ 10 [(123,au (uo l[k])),(0,.c (aG encS l)),(1,ab D),(5,ab k),(6,aE b1),(7,aj (l[k].kind)),(8,au (fl l[k])),(9,au (gP l[k])),(10,au (f5 l[k])),(11,au (gB l[k]))] ?_ ?_
  ·rcases bz (wI l[k]) with h37|h37
   ·refine cx 113 J (bH h37) (go 11 ?_);exact ⟨J,(av J (bH (by unfold uo;rw [h37];rfl)) (ao J))⟩
   refine cx 113 J (bH h37) (go 1 ?_);rcases bz (gB l[k]) with h38|h38
   ·refine aC J (cP (bH (qk h38)) (jK J J)) (go 9 ?_);exact ⟨J,(av J (bH (by unfold uo;rw [h37,h38];rfl)) (ao J))⟩
   refine aC J (cP (bH (qh h38)) (jK J J)) (go 3 ?_);refine cf J call74 J (MV l[k].ref _) ?_;rintro _ _ ⟨aN3,rfl⟩;rcases bz (mE l[k].ref) with h40|h40;rotate_left;all_goals
    rw [h40] at aN3;subst aN3;refine go 5 ?_;exact ⟨J,(av J (bH (by unfold uo;rw [h37,h38,h40];rfl)) (ao J))⟩
  refine pQ 9 [(132,au (td l[k])),(0,.c (aG encS l)),(1,ab D),(5,ab k),(6,aE b1),(7,aj (l[k].kind)),(8,au (fl l[k])),(9,au (gP l[k])),(10,au (f5 l[k])),(11,au (gB l[k]))] ?_ ?_
  ·rcases bz (uo l[k]) with h41|h41
   ·refine cx 123 J (bH h41) (go 10 ?_);exact ⟨J,(av J (bH (by unfold td;rw [h41];rfl)) (ao J))⟩
   refine cx 123 J (bH h41) (go 1 ?_);rcases bz (gP l[k]) with h42|h42
   ·refine aC J (cP (bH (qk h42)) (jK J J)) (go 8 ?_);exact ⟨J,(av J (bH (by unfold td;rw [h41,h42];rfl)) (ao J))⟩
   refine aC J (cP (bH (qh h42)) (jK J J)) (go 4 ?_);by_cases h43:(0:Int)<((l[k].args.length:Nat):Int)
   ·refine aJ J (fF h43) (go 3 ?_);exact ⟨J,(av J (bH (by unfold td;rw [h41,h42,decide_eq_false (show ¬l[k].args.length=0 by omega)];rfl)) (ao J))⟩
   refine aF J (fE h43) (go 3 ?_);exact ⟨J,(av J (bH (by unfold td;rw [h41,h42,decide_eq_true (show l[k].args.length=0 by omega)];rfl)) (ao J))⟩
  refine go 2 ?_;refine iD J (λh44=>?_) (λh44=>?_)
  ·refine go 12 ?_;exact bF bx rw J cU ⟨bZ (uZ D l k hlt (by rw [tl,h44];rfl)),J⟩
  refine go 9 ?_;refine jr (λj=>∀i (h:i<l[k].args.length),i<j -> fc l[k].args[i]=true) (l[k].args.length) 12 (λj=>[(0,.c (aG encS l)),(1,ab D),(5,ab k),(6,aE b1),(7,aj (l[k].kind))]) nR (ao J) λj hj hvj=>?_;replace hvj:∀i (h:i<l[k].args.length),i<j -> fc l[k].args[i]=true:=hvj
  try dsimp only
  refine go 7 ?_;by_cases h45:(j:Int)<((l[k].args.length:Nat):Int)
  ·refine aJ J (cw h45) (go 9 ?_);have hjl:j<l[k].args.length:=Y;have haj:=hsa _ (getElem_mem hjl);have hwj:=vT l[k].args j hjl;unfold bq.wt cD.wt at hwj;refine go 3 ?_;refine aC J (bX cg cg l[k].args oO (λ_=>J) j J J J J Y V lV j') (go 8 λb2=>?_);rcases bz (l[k].args[j].mutex) with h47|h47
   ·refine aC J (cP (bH h47) (cW [] dJ dI)) (go 3 ?_);refine cf J call73 J (Oi l[k].args[j].ref haj.1 Y _) ?_;rintro _ _ ⟨aIk,rfl⟩;rcases bz (okRefB l[k].args[j].ref) with h49|h49
    ·rw [h49] at aIk;subst aIk;refine go 4 ?_;refine cf J call72 J (JX l[k].args[j].expr _) ?_;rintro _ _ ⟨By,rfl⟩;rcases bz (kp l[k].args[j].expr) with h51|h51
     ·rw [h51] at By;subst By;refine go 5 ?_;refine aC J (cP (bH h47) (cW [] dJ dI)) (go 22 ?_);refine bK J (go 2 ?_);exact ⟨Y,(λi hi hlt2=>(jn i j).elim (λh9=>hvj i hi h9) (λh9=>by have h8:i=j:=Y;subst h8;rw [yQ h47,h49,h51];rfl)),az (h1:=bG) (h:=av J (b_ Y) (ao J)) (λb hb=>d_ _ (hb))⟩
     rw [h51] at By;subst By;refine go 39 ?_;exact bF bx rw J fB ⟨bZ (uZ D l k hlt (by rw [tl,qb fc _ j hjl (by rw [yQ h47,h49,h51];rfl)];simp)),J⟩
    rw [h49] at aIk;subst aIk;refine go 44 ?_;exact bF bx rw J fB ⟨bZ (uZ D l k hlt (by rw [tl,qb fc _ j hjl (by rw [yQ h47,h49];rfl)];simp)),J⟩
   refine aC J (cP (bH h47) (cW [] dJ dI)) (go 14 ?_);refine aC J (cP (bH h47) (cW [] dJ dI)) (go 4 ?_);refine cf J call74 J (MV l[k].args[j].ref _) ?_;rintro _ _ ⟨aKa,rfl⟩;rcases bz (mE l[k].args[j].ref) with h56|h56
   ·rw [h56] at aKa;subst aKa;refine go 4 ?_;refine cf J call71 J (JE l[k].args[j].expr Y haj.2 _) ?_;rintro _ _ ⟨aKb,rfl⟩;rcases bz (fI l[k].args[j].expr) with h58|h58
    ·rw [h58] at aKb;subst aKb;refine go 12 ?_;refine bK J (go 2 ?_);exact ⟨Y,(λi hi hlt2=>(jn i j).elim (λh9=>hvj i hi h9) (λh9=>by have h8:i=j:=Y;subst h8;rw [zm h47,h56,h58];rfl)),az (h1:=bG) (h:=av J (b_ Y) (ao J)) (λb hb=>d_ _ (hb))⟩
    rw [h58] at aKb;subst aKb;refine go 23 ?_;exact bF bx rw J fB ⟨bZ (uZ D l k hlt (by rw [tl,qb fc _ j hjl (by rw [zm h47,h56,h58];rfl)];simp)),J⟩
   rw [h56] at aKa;subst aKa;refine go 28 ?_;exact bF bx rw J fB ⟨bZ (uZ D l k hlt (by rw [tl,qb fc _ j hjl (by rw [zm h47,h56];rfl)];simp)),J⟩
  refine aF J (ct h45) (go 8 ?_);refine pK [(14,au (f_ l[k])),(0,.c (aG encS l)),(1,ab D),(5,ab k),(6,aE b1),(7,aj (l[k].kind))] ?_ ?_
  ·refine go 2 ?_;by_cases h63:l[k].kind=7;focus
    refine aJ J (bR h63) (go 6 ?_)
   rotate_left;focus
    refine aF J (bN h63) (go 2 ?_);by_cases h64:l[k].kind=8;focus
     refine aJ J (bR h64) (go 3 ?_)
    rotate_left;refine aF J (bN h64) (go 3 ?_)
   all_goals
    exact ⟨J,(av J (bH (by unfold f_;first|exact (decide_eq_true Y).symm|exact (decide_eq_false Y).symm)) (ao J))⟩
  refine go 2 ?_;refine pQ 10 [(191,au (c1 D l[k])),(0,.c (aG encS l)),(1,ab D),(5,ab k),(6,aE b1),(7,aj (l[k].kind)),(14,au (f_ l[k]))] ?_ ?_
  ·refine go 1 ?_;rcases bz (f_ l[k]) with h65|h65
   ·refine aC J (cP (bH h65) (oh J J)) (go 3 ?_);refine bK J ?_;refine cf J call45 J (ih1 k Y _) ?_;rintro _ _ ⟨aN6,rfl⟩;rcases bz (dG (D+1) l[k].thn) with h67|h67;rotate_left;all_goals
     rw [h67] at aN6;subst aN6;refine go 4 ?_;exact ⟨J,(av J (bH (by unfold c1;rw [h65,h67];rfl)) (ao J))⟩
   refine aC J (cP (bH h65) (oh J J)) (go 9 ?_);exact ⟨J,(av J (bH (by unfold c1;rw [h65];rfl)) (ao J))⟩
  refine pQ 10 [(201,au (c2 D l[k])),(0,.c (aG encS l)),(1,ab D),(5,ab k),(6,aE b1),(7,aj (l[k].kind)),(14,au (f_ l[k]))] ?_ ?_
  ·rcases bz (c1 D l[k]) with h68|h68
   ·refine cx 191 J (bH h68) (go 11 ?_);exact ⟨J,(av J (bH (by unfold c2;rw [h68];rfl)) (ao J))⟩
   refine cx 191 J (bH h68) (go 1 ?_);rcases bz (f_ l[k]) with h69|h69
   ·refine aC J (cP (bH (qk h69)) (jK J J)) (go 9 ?_);exact ⟨J,(av J (bH (by unfold c2;rw [h68,h69];rfl)) (ao J))⟩
   refine aC J (cP (bH (qh h69)) (jK J J)) (go 4 ?_);by_cases h70:(0:Int)<((l[k].thn.length:Nat):Int)
   ·refine aJ J (fF h70) (go 4 ?_);exact ⟨J,(av J (bH (by unfold c2;rw [h68,h69,decide_eq_false (show ¬l[k].thn.length=0 by omega)];rfl)) (ao J))⟩
   refine aF J (fE h70) (go 4 ?_);exact ⟨J,(av J (bH (by unfold c2;rw [h68,h69,decide_eq_true (show l[k].thn.length=0 by omega)];rfl)) (ao J))⟩
  refine pQ 17 [(218,au (c3 D l[k])),(0,.c (aG encS l)),(1,ab D),(5,ab k),(6,aE b1),(7,aj (l[k].kind)),(14,au (f_ l[k]))] ?_ ?_
  ·rcases bz (c2 D l[k]) with h71|h71
   ·refine cx 201 J (bH h71) (go 18 ?_);exact ⟨J,(av J (bH (by unfold c3;rw [h71];rfl)) (ao J))⟩
   refine cx 201 J (bH h71) (go 3 ?_);by_cases h72:(0:Int)<((l[k].els.length:Nat):Int)
   ·refine aJ J (fF h72) (go 2 ?_);by_cases h73:l[k].kind=7
    ·refine aF J (eG h73) (go 4 ?_);refine bK J ?_;refine cf J call45 J (ih2 k Y _) ?_;rintro _ _ ⟨aN7,rfl⟩;rcases bz (dG (D+1) l[k].els) with h75|h75;rotate_left;all_goals
      rw [h75] at aN7;subst aN7;refine go 5 ?_;exact ⟨J,(av J (bH (by unfold c3;rw [h71,decide_eq_false (show ¬l[k].els.length=0 by omega),decide_eq_true (show l[k].kind=7 by omega),h75];rfl)) (ao J))⟩
    refine aJ J (gG h73) (go 11 ?_);exact ⟨J,(av J (bH (by unfold c3;rw [h71,decide_eq_false (show ¬l[k].els.length=0 by omega),decide_eq_false (show ¬l[k].kind=7 by omega)];rfl)) (ao J))⟩
   refine aF J (fE h72) (go 14 ?_);exact ⟨J,(av J (bH (by unfold c3;rw [h71,decide_eq_true (show l[k].els.length=0 by omega)];rfl)) (ao J))⟩
  refine go 2 ?_;refine iD J (λh76=>?_) (λh76=>?_)
  ·refine go 11 ?_;exact bF bx rw J cU ⟨bZ (uZ D l k hlt (by rw [tl,Mt,h76];simp)),J⟩
  refine go 5 ?_;refine bK J (go 2 ?_);exact ⟨Y,(λi hi hlt2=>(jn i k).elim (λh9=>hvk i hi h9) (λh9=>by have h8:i=k:=Y;subst h8;rw [tl,Mt,h44,h76,show l[i].args.all fc=true from fC.2 (λx hx=>by obtain ⟨q,hq,rfl⟩:=mT hx;exact hvj q hq Y)];rfl)),az (h1:=bG) (h:=av J (b_ Y) (ao J)) (λb hb=>d_ _ (hb))⟩
 refine aF J (ct h4) (go 14 ?_);exact bF bx rw J d3 ⟨bZ (O5 D Y l wa),J⟩
def IC:∀(N:Nat)(D:Nat)(l:List aD),an l <= N -> N <= 900000000 -> eI l -> D <= 1000000000-N -> ∀s:aH,aT prog 45 [.c (aG encS l),ab D] [] s λt s'=>t=au (dG D l) /\ s'=s
 |0,D,l,hw,hN,hs,hD,s=>by
  have h0:=ol l;exact Kw D l hs Y C' C' s
 |N+1,D,l,hw,hN,hs,hD,s=>by
  have hp:∀k (hk:k<l.length),an l[k].thn <= N /\ an l[k].els <= N /\ eI l[k].thn /\ eI l[k].els:=λk hk=>by
   have h3:=rH l k hk;rw [f9] at h3;have h4:=nE (tg _ hs _ (getElem_mem hk));exact ⟨Y,Y,h4.2.2.2.2.1,h4.2.2.2.2.2⟩
  exact Kw D l hs Y (λk hk s=>IC N (D+1) l[k].thn (hp k hk).1 Y (hp k hk).2.2.1 Y s)
   (λk hk s=>IC N (D+1) l[k].els (hp k hk).2.1 Y (hp k hk).2.2.2 Y s) s
def Pp{r:cD}(hs:r.bt)(h:okRefB r=true):(fh r).length <= r.wt*2000000:=by
 obtain ⟨h1,h2,h3⟩:=B_ h;have h4:=uX h1;unfold cD.wt;rcases h2 with h2|h2
 ·rw [N0 h2];omega
 have h0:0<r.index.length:=Y;have h5:=pc r.index 0 h0;have h6:=yb (qN _ hs.2 _ (getElem_mem h0)) (tP (h3 _ (getElem_mem h0)));rw [BA h0];simp only [length_append,length_cons,length_nil];omega
def Pg:∀(l:List bq),(∀a,a∈l -> a.bt) -> (∀a,a∈l -> fc a=true) -> (dM ew l).length <= dQ l*2000010
 |[],_,_=>wu
 |a::l,hs,h=>by
  have h1:=Pg l (λx hx=>hs x z_) (λx hx=>h x z_);have h2:(ew a).length+2 <= a.wt*2000010:=by
   have h3:=GC (h a aM);have h4:=hs a aM;unfold bq.wt;cases hm:a.mutex with
   |true=>rw [xw hm];have:=Pp h4.1 (h3.1 hm);simp only [length_append,length_cons,length_nil];omega
   |false=>rw [wl hm];have:=yb h4.2 (tP (h3.2 hm));omega
  have h5:(dM ew (a::l)).length <= (ew a).length+2+(dM ew l).length:=by
   cases l with
   |nil=>simp [dM]
   |cons b r=>simp [dM];omega
  rw [dQ];omega
def BO:∀(N D:Nat)(l:List aD)(tabs:List UInt8),an l <= N -> dG D l=true -> eI l -> tabs.length <= D+1 -> (bS tabs l).length <= an l*3000000
 |_,_,[],_,_,_,_,_=>by rw [bS];simp
 |0,D,s::l,tabs,hw,_,_,_=>by rw [an,f9] at hw;omega
 |N+1,D,s::l,tabs,hw,hok,hs,ht=>by
  have hD:=zB D _ hok;rw [dG,dm] at hok;rw [eI] at hs;rw [an,f9] at hw;have ok:=zf hs.1 hok.1;have h1:=BO (N+1) D l tabs Y hok.2 hs.2 ht;have ht1:(tabs++[(9:UInt8)]).length <= D+1+1:=dr;have hE:(s.kind=1∨s.kind=2∨s.kind=7∨s.kind=8) -> (cA s.expr).length <= s.expr.nodes*2000000:=λh=>yb ok.Th (ok.expr h);have hR:(s.kind=5∨s.kind=6) -> (fh s.ref).length <= s.ref.wt*2000000:=λh=>Pp ok.aI6 (ok.ref h);have hA:(iH s.args).length <= dQ s.args*2000010+2:=by have:=Pg s.args ok.aI7 ok.args;unfold iH;simp only [length_append,length_cons,length_nil];omega
  have hT:(s.kind=7∨s.kind=8) -> (bS (tabs++[9]) s.thn).length <= an s.thn*3000000:=λh=>BO N (D+1) s.thn (tabs++[9]) Y (ok.thn h) ok.aLf ht1;have hF:(if s.els.length=0 then ([]:List UInt8) else [32,101,108,115,101,32,123,10]++bS (tabs++[9]) s.els++tabs++[125]).length <= an s.els*3000000+40:=by
   rcases ok.els with h|h
   ·rw [if_pos h];simp
   have:=BO N (D+1) s.els (tabs++[9]) Y h ok.aLg ht1;split
   ·simp
   simp only [length_append,length_cons,length_nil];omega
  have hn:(1 <= s.kind /\ s.kind <= 4) -> s.name.data.toList.length <= 16:=λh=>by
   have h2:=hok.1;obtain ⟨k,n,e,r,a,t,f⟩:=s;rw [f6] at h2;simp only [dm] at h2;have h3:=h2.1.1.1.1.1.1.2;have h:1 <= k /\ k <= 4:=h;rw [if_pos h] at h3;exact uX h3
  have hs1:(d5 tabs s).length <= s.wt*3000000:=by
   rw [f9];have hk:s.kind=1∨s.kind=2∨s.kind=3∨s.kind=4∨s.kind=5∨s.kind=6∨s.kind=7∨s.kind=8∨(¬s.kind=1 /\ ¬s.kind=2 /\ ¬s.kind=3 /\ ¬s.kind=4 /\ ¬s.kind=5 /\ ¬s.kind=6 /\ ¬s.kind=7 /\ ¬s.kind=8):=Y;rcases hk with h|h|h|h|h|h|h|h|h
   ·have:=hE Y;have:=hn Y;rw [Dh h];simp only [length_append,length_cons,length_nil];omega
   ·have:=hE Y;have:=hn Y;rw [Cm h];simp only [length_append,length_cons,length_nil];omega
   ·have:=hn Y;rw [ye h];simp only [length_append,length_cons,length_nil];omega
   ·have:=hn Y;rw [zC h];simp only [length_append,length_cons,length_nil];omega
   ·have:=hR Y;rw [Cp h];simp only [length_append,length_cons,length_nil];omega
   ·have:=hR Y;rw [DI h];simp only [length_append,length_cons,length_nil];omega
   ·have:=hE Y;have:=hT Y;rw [wS h];simp only [length_append,length_cons,length_nil] at hF⊢;omega
   ·have:=hE Y;have:=hT Y;rw [xS h];simp only [length_append,length_cons,length_nil] at hF⊢;omega
   rw [C7 h];simp only [length_append,length_cons,length_nil];omega
  rw [bS,an,length_append];omega
def Be{α:Type}(f:α -> List UInt8)(g:α -> Nat)(c:Nat):∀l:List α,(∀x,x∈l -> (f x).length <= g x*c) -> ((l.map f).flatten).length <= (l.map g).sum*c
 |[],_=>aM
 |x::r,h=>by
  have h1:=Be f g c r (λy hy=>h y vd);have h2:=h x aM;simp only [ca,jd,length_append,mh,tF];omega
def V2{α:Type}(l:List α):(l.map λ_=>1).sum=l.length:=by induction l with|nil=>rfl|cons a l ih=>simp [ih];omega
def Bc{p:aX}(hs:p.bt)(h:kO p=true):(iJ p).length <= p.wt*3000000:=by
 unfold kO at h;simp only [dm] at h;obtain ⟨⟨⟨-,hg⟩,hm⟩,hf⟩:=h;have h1:=Be cT (λ_=>1) 3000000 p.globals (λg hgm=>by
  have h2:=fC.1 hg g hgm;unfold lL at h2;rw [dm] at h2;have h3:=uX h2.1;have h4:=Dn (hs.globals g hgm).1;unfold cT;split<;>(simp only [length_append,length_cons,length_nil];omega))
 have h2:=Be ci (λ_=>1) 3000000 p.mutexes (λm hmm=>by
  have h2:=fC.1 hm m hmm;unfold iu at h2;simp only [dm] at h2;have h3:=uX h2.1.1;have h4:=Dn (hs.mutexes m hmm).1;unfold ci;split<;>split<;>(simp only [length_append,length_cons,length_nil];omega))
 have h3:=Be funcText a_.wt 3000000 p.funcs (λf hfm=>by
  have h2:=fC.1 hf f hfm;unfold gh at h2;simp only [dm,decide_eq_true_eq] at h2;have h3:=uX h2.1.1.1;have h4:=BO _ 0 f.body [9] (bY _) h2.1.2 (hs.funcs f hfm).2.2 V;have h5:(dM ed f.params).length <= f.params.length*30:=by
   have:∀(l:List bg),(∀x,x∈l -> cH x.name=true) -> (dM ed l).length <= l.length*30:=by
    intro l;induction l with
    |nil=>intro _;simp [dM]
    |cons x l ih=>
     intro hx;have h6:=ih (λy hy=>hx y vd);have h7:=uX (hx x aM);have h8:(ed x).length <= 22:=by unfold ed;split<;>(simp only [length_append,length_cons,length_nil];omega)
     have h9:(dM ed (x::l)).length <= (ed x).length+2+(dM ed l).length:=by
      cases l with
      |nil=>simp [dM]
      |cons b r=>simp [dM];omega
     simp only [length_cons];omega
   exact this f.params (fC.1 h2.2)
  rw [Ib];unfold a_.wt;simp only [length_append,length_cons,length_nil];omega)
 rw [V2] at h1 h2;unfold iJ aX.wt;simp only [length_append];omega
def JR{p:aX}(h:¬(p.globals.length <= 16 /\ p.mutexes.length <= 12 /\ p.funcs.length <= 16)):gw p=false:=by
 unfold gw;rw [decide_eq_false h];rfl
def Q9{p:aX}(k:Nat)(h:k<p.globals.length)(hb:lL p.globals[k]=false):gw p=false:=by
 unfold gw;rw [qb lL _ k h hb];simp
def C5{p:aX}(k:Nat)(h:k<p.mutexes.length)(hb:iu p.mutexes[k]=false):gw p=false:=by
 unfold gw;rw [qb iu _ k h hb];simp
def Bg{p:aX}(k:Nat)(h:k<p.funcs.length)(hb:gh p.funcs[k]=false):gw p=false:=by
 unfold gw;rw [qb gh _ k h hb];simp
def yE{α:Type}(f:α -> Bool)(l:List α)(h:∀i (h:i<l.length),f l[i]=true):l.all f=true:=fC.2 λx hx=>by obtain ⟨i,hi,rfl⟩:=mT hx;exact h i hi
def Mh(p:aX)(hs:p.bt)(hw:p.wt <= 100000000)(s:aH):aT prog 21 [.agg (di p)] [] s λt s'=>t=au (gw p) /\ s'=s:=by
 obtain ⟨bx,rw⟩:=s;have hw1:=hw;unfold aX.wt at hw1;have hfn:=po a_.wt (λx=>q_) p.funcs;refine bM 140 func21 ?_;refine go 12 λb1=>?_;by_cases h1:(16:Int)<(p.globals.length:Int)
 ·refine aJ J (fF h1) (go 22 ?_);exact bF bx rw J cU ⟨bZ (JR Y),J⟩
 refine aF J (fE h1) (go 4 ?_);by_cases h3:(12:Int)<(p.mutexes.length:Int)
 ·refine aJ J (fF h3) (go 17 ?_);exact bF bx rw J cU ⟨bZ (JR Y),J⟩
 refine aF J (fE h3) (go 5 ?_);by_cases h5:(16:Int)<(p.funcs.length:Int)
 ·refine aJ J (fF h5) (go 11 ?_);exact bF bx rw J cU ⟨bZ (JR Y),J⟩
 refine aF J (fE h5) (go 13 ?_);refine jr (λk=>∀q (h:q<p.globals.length),q<k -> lL p.globals[q]=true) (p.globals.length) 3 (λk=>[(1,aE b1)]) nR (ao J) λk hk hvk=>?_;replace hvk:∀q (h:q<p.globals.length),q<k -> lL p.globals[q]=true:=hvk
 try dsimp only
 refine go 7 ?_;by_cases h8:(k:Int)<(p.globals.length:Int)
 ·refine aJ J (cw h8) (go 9 ?_);have hgs:=hs.globals p.globals[k] (getElem_mem _);refine go 3 ?_;refine aC J (bX cR cR p.globals nt (λ_=>J) k J J J J Y V mp jU) (go 2 ?_);refine cf J call44 J (vU p.globals[k].name hgs.2 _) ?_;rintro _ _ ⟨CT,rfl⟩;rcases bz (cH p.globals[k].name) with h11|h11
  ·rw [h11] at CT;subst CT;refine go 5 ?_;refine aC J (bX cR cR p.globals nt (λ_=>J) k J J J J Y V mp jU) (go 2 ?_);by_cases h12:p.globals[k].init=-9223372036854775808
   ·refine aJ J (bR h12) (go 15 ?_);exact bF bx rw J cU ⟨bZ (Q9 k Y (by unfold lL;rw [h11,decide_eq_false Y];rfl)),J⟩
   refine aF J (bN h12) (go 9 ?_);refine bK J (go 2 ?_);exact ⟨Y,(λq hq hlt2=>(jn q k).elim (λh9=>hvk q hq h9) (λh9=>by have h8:k=q:=Y;subst h8;exact (by unfold lL;rw [h11,decide_eq_true Y];rfl))),(av J (b_ Y) (ao J))⟩
  rw [h11] at CT;subst CT;refine go 24 ?_;exact bF bx rw J cU ⟨bZ (Q9 k Y (by unfold lL;rw [h11];rfl)),J⟩
 refine aF J (ct h8) (go 15 ?_);refine jr (λi=>∀q (h:q<p.mutexes.length),q<i -> iu p.mutexes[q]=true) (p.mutexes.length) 4 (λi=>[(1,aE b1)]) nR (ao J) λi hi hvi=>?_;replace hvi:∀q (h:q<p.mutexes.length),q<i -> iu p.mutexes[q]=true:=hvi
 try dsimp only
 refine go 7 ?_;by_cases wd:(i:Int)<(p.mutexes.length:Int)
 ·refine aJ J (cw wd) (go 9 ?_);have hms:=hs.mutexes p.mutexes[i] (getElem_mem _);refine go 3 ?_;refine aC J (bX bB bB p.mutexes lC (λ_=>J) i J J J J Y V j6 fp) (go 9 λb2=>?_);refine cf J call44 J (vU p.mutexes[i].name hms.2 _) ?_;rintro _ _ ⟨aKc,rfl⟩;rcases bz (cH p.mutexes[i].name) with h20|h20
  ·rw [h20] at aKc;subst aKc;refine go 4 ?_;by_cases h21:p.mutexes[i].size<0
   ·refine aJ J (cw h21) (go 29 ?_);exact bF bx rw J fB ⟨bZ (C5 i Y EV),J⟩
   refine aF J (ct h21) (go 4 ?_);by_cases h23:(64:Int)<p.mutexes[i].size
   ·refine aJ J (fF h23) (go 24 ?_);exact bF bx rw J fB ⟨bZ (C5 i Y EV),J⟩
   refine aF J (fE h23) (go 3 ?_);rcases bz (p.mutexes[i].ex) with BT|BT
   ·refine aC J (cP (bH BT) (cW [] dJ dI)) (go 3 ?_);by_cases ws:(0:Int)<p.mutexes[i].size
    ·refine aJ J (fF ws) (go 16 ?_);exact bF bx rw J fB ⟨bZ (C5 i Y (by unfold iu;rw [h20,decide_eq_true (show 0 <= p.mutexes[i].size /\ p.mutexes[i].size <= 64 by omega),BT,decide_eq_true (show 0<p.mutexes[i].size by omega)];rfl)),J⟩
    refine aF J (fE ws) (go 10 ?_);refine bK J (go 2 ?_);exact ⟨Y,(λq hq hlt2=>(jn q i).elim (λh9=>hvi q hq h9) (λh9=>by have h8:i=q:=Y;subst h8;exact (by unfold iu;rw [h20,decide_eq_true (show 0 <= p.mutexes[i].size /\ p.mutexes[i].size <= 64 by omega),BT,decide_eq_false (show ¬0<p.mutexes[i].size by omega)];rfl))),az (h1:=bG) (h:=av J (b_ Y) (ao J)) (λb hb=>d_ _ (hb))⟩
   refine aC J (cP (bH BT) (cW [] dJ dI)) (go 14 ?_);refine bK J (go 2 ?_);exact ⟨Y,(λq hq hlt2=>(jn q i).elim (λh9=>hvi q hq h9) (λh9=>by have h8:i=q:=Y;subst h8;exact (by unfold iu;rw [h20,decide_eq_true (show 0 <= p.mutexes[i].size /\ p.mutexes[i].size <= 64 by omega),BT];rfl))),az (h1:=bG) (h:=av J (b_ Y) (ao J)) (λb hb=>d_ _ (hb))⟩
  rw [h20] at aKc;subst aKc;refine go 34 ?_;exact bF bx rw J fB ⟨bZ (C5 i Y (by unfold iu;rw [h20];rfl)),J⟩
 refine aF J (ct wd) (go 15 ?_);refine jr (λf=>∀q (h:q<p.funcs.length),q<f -> gh p.funcs[q]=true) (p.funcs.length) 6 (λf=>[(1,aE b1)]) nR (ao J) λf hf hvf=>?_;replace hvf:∀q (h:q<p.funcs.length),q<f -> gh p.funcs[q]=true:=hvf
 try dsimp only
 refine go 7 ?_;by_cases h32:(f:Int)<(p.funcs.length:Int)
 ·refine aJ J (cw h32) (go 9 ?_);have hfl:f<p.funcs.length:=Y;have hfs:=hs.funcs p.funcs[f] (getElem_mem hfl);have hfw:=qX a_.wt p.funcs f hfl;rw [show a_.wt p.funcs[f]=1+p.funcs[f].params.length+an p.funcs[f].body from rfl] at hfw;refine go 3 ?_;refine aC J (bX bT bT p.funcs mY (λ_=>J) f J J J J Y V fu du) (go 10 λb3=>?_);refine cf J call44 J (vU p.funcs[f].name hfs.1 _) ?_;rintro _ _ ⟨aKd,rfl⟩;rcases bz (cH p.funcs[f].name) with h35|h35
  ·rw [h35] at aKd;subst aKd;refine go 5 ?_;by_cases h36:(6:Int)<((p.funcs[f].params.length:Nat):Int)
   ·refine aJ J (fF h36) (go 22 ?_);exact bF bx rw J fB ⟨bZ (Bg f Y (by unfold gh;rw [decide_eq_false (show ¬p.funcs[f].params.length <= 6 by omega)];simp)),J⟩
   refine aF J (fE h36) (go 4 ?_);refine cf J call45 J (IC _ 0 p.funcs[f].body (bY _) Y hfs.2.2 Y _) ?_;rintro _ _ ⟨aKe,rfl⟩;rcases bz (dG 0 p.funcs[f].body) with Vc|Vc
   ·rw [Vc] at aKe;subst aKe;refine go 13 ?_;refine jr (λj=>∀q (h:q<p.funcs[f].params.length),q<j -> cH p.funcs[f].params[q].name=true) (p.funcs[f].params.length) 8 (λj=>[(1,aE b1),(6,ab f),(7,aE b3)]) nR (ao J) λj hj hvj=>?_;replace hvj:∀q (h:q<p.funcs[f].params.length),q<j -> cH p.funcs[f].params[q].name=true:=hvj
    try dsimp only
    refine go 7 ?_;by_cases h41:(j:Int)<((p.funcs[f].params.length:Nat):Int)
    ·refine aJ J (cw h41) (go 12 ?_);refine aC J (bX cE cE p.funcs[f].params iQ (λ_=>J) j J J J J Y V iK ga) (go 2 ?_);refine cf J call44 J (vU p.funcs[f].params[j].name (hfs.2.1 _ (getElem_mem _)) _) ?_;rintro _ _ ⟨aKf,rfl⟩;rcases bz (cH p.funcs[f].params[j].name) with h44|h44
     ·rw [h44] at aKf;subst aKf;refine go 9 ?_;refine bK J (go 2 ?_);exact ⟨Y,(λq hq hlt2=>(jn q j).elim (λh9=>hvj q hq h9) (λh9=>by have h8:j=q:=Y;subst h8;exact h44)),(av J (b_ Y) (ao J))⟩
     rw [h44] at aKf;subst aKf;refine go 19 ?_;exact bF bx rw J fB ⟨bZ (Bg f Y (by unfold gh;rw [qb (λx:bg=>cH x.name) _ j Y h44];simp)),J⟩
    refine aF J (ct h41) (go 11 ?_);refine bK J (go 2 ?_);exact ⟨Y,(λq hq hlt2=>(jn q f).elim (λh9=>hvf q hq h9) (λh9=>by have h8:f=q:=Y;subst h8;exact (by unfold gh;rw [h35,decide_eq_true (show p.funcs[f].params.length <= 6 by omega),Vc,yE _ _ (λq hq=>hvj q hq Y)];rfl))),az (h1:=bG) (h:=av J (b_ Y) (ao J)) (λb hb=>d_ _ (hb))⟩
   rw [Vc] at aKe;subst aKe;refine go 17 ?_;exact bF bx rw J fB ⟨bZ (Bg f Y (by unfold gh;rw [Vc];simp)),J⟩
  rw [h35] at aKd;subst aKd;refine go 28 ?_;exact bF bx rw J fB ⟨bZ (Bg f Y (by unfold gh;rw [h35];rfl)),J⟩
 refine aF J (ct h32) (go 10 ?_);have hform:kO p=true:=by unfold kO;rw [decide_eq_true Y,yE _ _ (λq hq=>hvk q hq Y),yE _ _ (λq hq=>hvi q hq Y),yE _ _ (λq hq=>hvf q hq Y)];rfl
 have hpb:=Bc hs hform;have hw0:p.wt <= 100000000:=hw;have hnz:(iJ p).length <= 1000000000000000:=Y;refine go 1 ?_;refine cf J call47 J (ZE p hform hs Y hnz _) ?_;rintro _ _ ⟨rfl,rfl⟩;refine aW J (B0 J J V J dz ky pR (by first|(rw [AY];omega)|omega) (N:=(iJ p).length) J (cs:=cb (iJ p)) J ?_);refine cf J call46 J (Ne (iJ p) _) ?_;rintro _ _ ⟨(⟨tl52,aI9,rfl,htl52⟩|⟨p52,e52,aI9,rfl,he52⟩),rfl⟩
 ·refine go 12 ?_;refine aJ J jL (go 4 ?_);exact bF bx rw J cU ⟨bZ (by rw [xQ,hform,aI9];rfl),J⟩
 refine go 12 ?_;refine aF J (bN Y) (go 4 ?_);exact bF bx rw J cU ⟨bZ (by rw [xQ,hform,aI9];rfl),J⟩
structure wz where
 globals:List Int
 mutexes:List cn
 procs:List wY
 main:Nat
def sO(u:wz):List aO:=[.sl u.globals.length (u.globals.map λx=>aA x),aG bB u.mutexes,aG fk u.procs,am u.main]
def oN(p:aX):wz:=if (gp p).2.2=0 then ⟨p.globals.map bw.init,p.mutexes,p.funcs.map (iU p),(bQ (bd p) eR).n⟩ else ⟨[],[],[],0⟩
instance aHc{x:wY}:iA (fk x) 5:=⟨rfl⟩
instance aCE{x:wY}:h_ (fk x) [ac x.name,am x.ints,am x.aLj,am x.locals,aG encI x.code]:=⟨rfl⟩
def zF:∀{l:List bP} {s:aI} {v:bP},bL l s=some v -> v∈l
 |[],_,_,h=>gQ
 |x::l,s,v,h=>by
  rw [bL] at h;split at h
  ·cases h;exact mq
  exact d_ _ (zF h)
def zA(p:aX):qE p (bd p):=by
 have h:∀v,v∈bd p -> (v.kind=2 -> v.n<p.mutexes.length) /\ (v.kind=3 -> v.n<p.funcs.length):=λv hv=>by
  unfold bd at hv;rcases mem_append.1 hv with hv|hv
  ·obtain ⟨i,hi,rfl⟩:=qm.1 hv;exact ⟨λh=>absurd h (by show ¬(1:Int)=2;decide),λh=>absurd h E6⟩
  rcases mem_append.1 hv with hv|hv
  ·obtain ⟨i,hi,rfl⟩:=qm.1 hv;exact ⟨λ_=>hi,λh=>absurd h Fi⟩
  obtain ⟨i,hi,rfl⟩:=qm.1 hv;exact ⟨λh=>absurd h (by show ¬(3:Int)=2;decide),λ_=>hi⟩
 exact ⟨λs v hf=>(h v (zF hf)).1,λs v hf=>(h v (zF hf)).2⟩
def WN{p:aX}(h:gw p=false):gp p=(-1,-1,10):=by unfold gp;rw [if_pos h]
def oM.end_{p:aX}{b:Int}(h:oM (bd p) (bd p).length b):(¬0 <= b -> jp [] (bd p)=none) /\ (0 <= b -> ∃i:Nat,b=(i:Int) /\ jp [] (bd p)=some i):=by
 rcases h with ⟨rfl,h⟩|⟨i,rfl,h⟩
 ·rw [m6 (bY _),jp] at h;exact ⟨λ_=>h.symm,λh0=>Y⟩
 exact ⟨λh0=>Y,λ_=>⟨i,J,h⟩⟩
def ZI{p:aX}{i:Nat}(h:gw p=true)(hb:jp [] (bd p)=some i):gp p=(-1,(i:Int),5):=by unfold gp;rw [if_neg nx,hb]
def Ey{p:aX}(h:gw p=true)(hb:jp [] (bd p)=none)(hm:oE p=false):gp p=(-1,-1,9):=by unfold gp;rw [if_neg nx,hb];dsimp only;rw [if_neg (by rw [hm];decide)]
def QD{p:aX}(h:gw p=true)(hb:jp [] (bd p)=none)(hm:oE p=true):gp p=lW p p.funcs 0:=by unfold gp;rw [if_neg nx,hb];dsimp only;rw [if_pos hm]
def ZZ{p:aX}(h:(bL (bd p) eR).isSome=false):oE p=false:=by
 unfold oE;rcases h2:bL (bd p) eR with _|v
 ·rfl
 rw [h2] at h;cases h
def GE{p:aX}(h:(bL (bd p) eR).isSome=true):oE p=(decide ((bQ (bd p) eR).kind=3) && decide ((jV p (bQ (bd p) eR).n).length=0)):=by unfold oE;rw [mP h]
def NY{p:aX}{l:List a_}{k:Nat}{R:Int×Int×Nat}(hk:k<l.length)(h:lW p (l.drop k) k=R):
  ((kJ p l[k]).1=0 -> lW p (l.drop (k+1)) (k+1)=R) /\ ((kJ p l[k]).1≠0 -> R=((k:Int),(kJ p l[k]).2,(kJ p l[k]).1)):=by
 rw [ii hk,lW] at h;refine ⟨λh0=>?_,λh0=>?_⟩
 ·rw [if_pos h0] at h;exact h
 rw [if_neg h0] at h;exact h.symm
def Ig{p:aX}{f s:Int}{e:Nat}(h:gp p=(f,s,e))(he:e≠0):oN p=⟨[],[],[],0⟩:=by unfold oN;rw [h,if_neg he]
def Pw{p:aX}(h:gp p=(0,0,0)):oN p=⟨p.globals.map bw.init,p.mutexes,p.funcs.map (iU p),(bQ (bd p) eR).n⟩:=by unfold oN;rw [h];rfl
def QH{α:Type}(f:α -> Int)(l:List α)(k:Nat)(h:k<l.length):((l.take k).map f).map (λx=>aO.val (.int .i64 x))++[aO.val (.int .i64 (f l[k]))]=((l.take (k+1)).map f).map λx=>aO.val (.int .i64 x):=by
 rw [gX h,e1,e1];rfl
def Yh(p:aX)(hs:p.bt)(hw:p.wt <= 9000000)(bx:List aV)(rw:List aQ):aT prog 7 [.agg (di p)] [] ⟨bx,rw⟩ λt s'=>t=.fd [.agg (sO (oN p)),aj ((gp p).1),aj ((gp p).2.1),aj (((gp p).2.2:Nat):Int)] /\ s'=⟨bx,rw⟩:=by
 have hall:=CR p;have hwq:=hw;unfold aX.wt at hwq;have hfl:=po a_.wt (λf=>q_) p.funcs;refine bM 112 func7 ?_;refine go 13 λb1 b2=>?_;rcases bz (gw p) with h1|h1
 ·refine tS J call21 J (Mh p hs Y _) h1 (go 9 ?_);refine aW J (se [] J J V call22 J (SU p Y _ _) dX dX (λ_=>dX) ?_);rintro _ _ ⟨v0,bad,rfl,hbad,rfl⟩;refine ⟨aR v0,λhn b hb=>⟨G4,λh9=>absurd h9 (λh9=>by unfold aH.bl at hn h9;simp only [eZ,mem_append] at hn h9;rcases h9 with h9|h9;exact (eF.1 hn).2.2 b h9 b (gW _ hb) rfl;exact (eF.1 (eF.1 hn).2.1).2.2 b hb b h9 rfl)⟩,?_⟩;refine go 10 ?_;refine io 6 J ?_;obtain ⟨hb0,hb1⟩:=hbad.end_;refine go 1 ?_;by_cases h3:(0:Int) <= bad
  ·refine aJ J (oJ h3) (go 15 ?_);obtain ⟨ib,rfl,hib⟩:=hb1 Y;have hck:=ZI h1 hib;exact ⟨.inr J,_,⟨bx,rw⟩,rF J (iB (bI.agg (.n (.n (.n (.r .nil))))) (bv [] J J sF qW (cG J J))) (bO J) (bO J) (bO J),ah c_ (.refl _),Ch,J⟩
  refine aF J (pF h3) (go 8 ?_);refine cf J qG J (uB (bd p) eR Y _) ?_;rintro _ _ ⟨rfl,rfl⟩;refine go 12 λb3=>?_;rcases bz ((bL (bd p) eR).isSome) with h6|h6;focus
   refine aC J (cP (bH (qk h6)) (jK J J)) (go 3 ?_);by_cases h7:(bQ (bd p) eR).kind=3
   ·refine aF J (eG h7) (go 6 ?_);have hms:(bQ (bd p) eR).n<p.funcs.length:=(zA p).fs _ _ (mP h6) Y;refine aC J (bX bT bT p.funcs mY (λ_=>J) ((bQ (bd p) eR).n) J J J J hms V fu du) (go 3 ?_);by_cases h8:(0:Int)<(((p.funcs[(bQ (bd p) eR).n].params).length:Nat):Int)
    ·refine aJ J (fF h8) (go 15 ?_);have hck:=Ey h1 (hb0 Y) (by rw [GE h6,Cg hms,decide_eq_false (show ¬p.funcs[(bQ (bd p) eR).n].params.length=0 by omega),ra]);exact ⟨.inr J,_,⟨bx,rw⟩,rF J (iB (bI.agg (.n (.n (.n (.r .nil))))) (bv [_] J J sF qW (cG J J))) (bO J) (bO J) (bO J),ah ek (.refl _),Ch,J⟩
    refine aF J (fE h8) (go 6 ?_);have hmn:oE p=true:=by rw [GE h6,Cg hms,decide_eq_true (show (bQ (bd p) eR).kind=3 by omega),decide_eq_true (show p.funcs[(bQ (bd p) eR).n].params.length=0 by omega)];rfl
    refine sx (λg:Nat×aN=>(⟨112,aR g.2++[g.1,b3,b2,b1],⟨⟨g.1,33,[aK,.val g.2,aK,aA (((bQ (bd p) eR).n:Nat):Int)]⟩::⟨b3,83,bW (bQ (bd p) eR)⟩::⟨b2,33,[aK,aK,aK,aA 0]⟩::⟨b1,27,di p⟩::bx,⟨g.2,45,3,p.mutexes.length,p.mutexes.flatMap bB⟩::rw⟩,[(10,ap (.pointer (some ⟨g.1,0,none⟩))),(1,aE b1),(2,aE b2),(3,aj 0),(4,aj 0),(5,aj 0),(6,.c (.sl (bd p).length ((bd p).flatMap bW)))]⟩:AS)) ?_ ?_
    ·refine bu [b3,b2,b1] (aU [0,1,3,4] 5 (go 5 ?_));refine cC 2 7 J ?_ ?_;focus
      refine (fH gN fp λg4=>?_);refine cC 5 7 J ?_ ?_;focus
       refine (eW [] Tryz.t45 32 J J V J J gN aL J J J J V (dF bB 3 (λ_=>J) p.mutexes) cO Y (cq p.mutexes.length) (λhn b hb=>cz (r:=(⟨(.slice (some ⟨g4,0,none⟩) 0 0),45,3,0,[]⟩:aQ)) hn hb) cI.h (ck _) λw11=>?_);refine cY [(6,true),(7,false),(8,false)] 0 (go 4 λb9=>?_)
      rotate_left;refine (iz J J V CG J λb9=>?_);refine aY 5 J J (eW [] Tryz.t45 32 J J V J J gN aL J J J J V (dF bB 3 (λ_=>J) p.mutexes) cO Y (cq p.mutexes.length) (λhn b hb=>cz (r:=(⟨(.slice (some ⟨g4,0,none⟩) 0 0),45,3,0,[]⟩:aQ)) hn hb) cI.h (ck _) λw11=>?_);refine cY [(6,true),(8,false)] 0 (go 3 ?_)
     rotate_left 2;refine (iz J J V CG J λb9=>?_);refine aY 2 J J (fH gN fp λg10=>?_);refine aY 5 J J (eW [] Tryz.t45 32 J J V J J gN aL J J J J V (dF bB 3 (λ_=>J) p.mutexes) cO Y (cq p.mutexes.length) (λhn b hb=>cz (r:=(⟨(.slice (some ⟨g10,0,none⟩) 0 0),45,3,0,[]⟩:aQ)) hn hb) cI.h (ck _) λw11=>?_);refine cY [(6,true),(8,false)] 0 (go 3 ?_);all_goals
      refine bC ?_;exact ⟨(b9,w11),az lD⟩
    rintro ⟨b12,mv⟩
    try dsimp only
    refine go 7 ?_;refine gA 3 1 ?_;refine ji (α:=aN) (λk _=>True) (p.globals.length) 11 (λg=>aR g++(aR mv++[b12,b3,b2,b1])) (λk g=>⟨⟨b12,33,[.val g,.val mv,aK,aA (((bQ (bd p) eR).n:Nat):Int)]⟩::⟨b3,83,bW (bQ (bd p) eR)⟩::⟨b2,33,[aK,aK,aK,aA 0]⟩::⟨b1,27,di p⟩::bx,⟨g,3,1,k,((p.globals.take k).map bw.init).map λx=>aA x⟩::⟨mv,45,3,p.mutexes.length,p.mutexes.flatMap bB⟩::rw⟩) (λ_=>[(1,aE b1),(2,aE b2),(3,aj 0),(4,aj 0),(5,aj 0),(6,.c (.sl (bd p).length ((bd p).flatMap bW))),(10,aE b12)]) (.slice none 0 0) trivial (az Aw) ?_;rintro k v0 hk hik;replace hik:True:=hik
    try dsimp only
    refine go 7 ?_;by_cases h11:(k:Int)<(p.globals.length:Int)
    ·refine aJ J (cw h11) (go 7 ?_);refine lQ 10 [b12,b3,b2,b1] [] #[true,true,true,true,true,true,true,true,true,true,false,false] aL aL aL ?_;refine aU [0,1,2,3,4] 5 (go 6 ?_);refine aZ 5 J (bX cR cR p.globals nt (λ_=>J) k J J J J Y V mp jU) (aU [6,7] 2 (go 3 ?_));refine aY 8 J J (bU (r:=[aA (p.globals[k].init)]) qV ?_);refine aY 9 J J (dS [] Cc J J V cO Y (N:=k+1) J (λhn b hb=>cz (r:=(⟨v0,3,1,k,((p.globals.take k).map bw.init).map λx=>aA x⟩:aQ)) hn hb) cI.h (QH bw.init p.globals k Y) λw13=>?_);refine bC ?_;refine id ?_;refine cY [(10,true),(11,false)] 0 (go 3 ?_);refine bC (go 4 ?_);refine bK J (go 2 ?_);exact ⟨Y,w13,trivial,az (h:=av J (b_ Y) (ao J)) lD⟩
    refine aF J (ct h11) (go 11 ?_);obtain rfl:k=p.globals.length:=Y;rw [hP];refine go 4 ?_;refine gA 76 5 ?_;refine ji (α:=aN) (λk _=>lW p (p.funcs.drop k) k=lW p p.funcs 0) (p.funcs.length) 12 (λg=>aR g++(aR v0++(aR mv++[b12,b3,b2,b1]))) (λk g=>⟨⟨b12,33,[.val v0,.val mv,.val g,aA (((bQ (bd p) eR).n:Nat):Int)]⟩::⟨b3,83,bW (bQ (bd p) eR)⟩::⟨b2,33,[aK,aK,aK,aA 0]⟩::⟨b1,27,di p⟩::bx,⟨g,76,5,k,((p.funcs.take k).map (iU p)).flatMap fk⟩::⟨v0,3,1,p.globals.length,((p.globals).map bw.init).map λx=>aA x⟩::⟨mv,45,3,p.mutexes.length,p.mutexes.flatMap bB⟩::rw⟩) (λ_=>[(1,aE b1),(2,aE b2),(3,aj 0),(4,aj 0),(5,aj 0),(6,.c (.sl (bd p).length ((bd p).flatMap bW))),(10,aE b12)]) (.slice none 0 0) J (az Aw) ?_;rintro k v2 hk hik;replace hik:lW p (p.funcs.drop k) k=lW p p.funcs 0:=hik
    try dsimp only
    refine go 7 ?_;by_cases n9:(k:Int)<(p.funcs.length:Int)
    ·refine aJ J (cw n9) (go 8 ?_);refine bu [b12,b3,b2,b1] (aU [0,1,2,3,4] 13 (go 6 ?_));refine aZ 5 J (bX bT bT p.funcs mY (λ_=>J) k J J J J Y V fu du) (aU [6] 11 (go 2 ?_));refine cC 7 13 J ?_ ?_;focus
      refine (dv J J V call24 J (Oc p p.funcs[k] (zA p) Y IX _ _) ?_);rintro _ _ ⟨rfl,rfl⟩;refine cY [(8,true),(9,true),(10,true),(11,true),(12,true),(13,false),(14,false),(15,true),(16,true),(17,true)] 0 (go 11 λb14=>?_)
     rotate_left;refine (iz J J V AK J λb16=>?_);refine aY 7 J J (dv J J V call24 J (Oc p p.funcs[k] (zA p) Y IX _ _) ?_);rintro _ _ ⟨rfl,rfl⟩;refine cY [(8,true),(9,true),(10,true),(11,true),(12,true),(14,false),(15,true),(16,true),(17,true)] 0 (go 10 ?_);all_goals
      refine bC (go 5 ?_);by_cases h19:(((kJ p p.funcs[k]).1:Nat):Int)=0
      ·refine aF J (eG h19) (go 9 ?_);refine aW J (bU (hf:=dd fk fk (iU p p.funcs[k]) J J J) Qm ?_);refine aW J (dS [] Mc J (dF fk 5 wg _) V cO Y (N:=k+1) J (λ_=>cI.h) cI.h (xq (iU p) fk p.funcs k Y) λw17=>?_);refine go 7 ?_;refine bK J (go 2 ?_);exact ⟨Y,w17,((NY Y hik).1 Y),az (h1:=bG) (h:=av J (b_ Y) (ao J)) lD⟩
      refine aJ J (gG h19) (go 22 ?_);have hck:=((QD h1 (hb0 Y) hmn).trans ((NY Y hik).2 Y));exact ⟨.inr J,_,⟨bx,rw⟩,rF J (iB (bI.agg (.n (.n (.n (.r .nil))))) (bv [_,_,_] J J sF qW (cG J J))) (bO J) (bO J) (bO J),ah yu ek,by rw [Ig hck Y,hck];rfl,J⟩
    refine aF J (ct n9) (go 10 ?_);obtain rfl:k=p.funcs.length:=Y;have hck:gp p=(0,0,0):=by rw [QD h1 (hb0 Y) hmn,←hik,m6 (bY _),lW]
    rw [hP];refine eO (cs':=[.val v0,.val mv,.sl p.funcs.length ((p.funcs.map (iU p)).flatMap fk),aA (((bQ (bd p) eR).n:Nat):Int)]) [] 2 J J ?_;show cN prog _ _ ⟨_,_,⟨⟨b12,33,[.val v0,.val mv,.sl p.funcs.length ((p.funcs.map (iU p)).flatMap fk),aA (((bQ (bd p) eR).n:Nat):Int)]⟩::⟨b3,83,bW (bQ (bd p) eR)⟩::⟨b2,33,[aK,aK,aK,aA 0]⟩::⟨b1,27,di p⟩::bx,_⟩,_⟩ _;refine eO (cs':=[.sl p.globals.length ((p.globals.map bw.init).map λx=>aA x),.val mv,.sl p.funcs.length ((p.funcs.map (iU p)).flatMap fk),aA (((bQ (bd p) eR).n:Nat):Int)]) [] 0 J J ?_;show cN prog _ _ ⟨_,_,⟨⟨b12,33,[.sl p.globals.length ((p.globals.map bw.init).map λx=>aA x),.val mv,.sl p.funcs.length ((p.funcs.map (iU p)).flatMap fk),aA (((bQ (bd p) eR).n:Nat):Int)]⟩::⟨b3,83,bW (bQ (bd p) eR)⟩::⟨b2,33,[aK,aK,aK,aA 0]⟩::⟨b1,27,di p⟩::bx,_⟩,_⟩ _;refine eO (cs':=[.sl p.globals.length ((p.globals.map bw.init).map λx=>aA x),aG bB p.mutexes,.sl p.funcs.length ((p.funcs.map (iU p)).flatMap fk),aA (((bQ (bd p) eR).n:Nat):Int)]) [] 1 J J ?_;show cN prog _ _ ⟨_,_,⟨⟨b12,33,[.sl p.globals.length ((p.globals.map bw.init).map λx=>aA x),aG bB p.mutexes,.sl p.funcs.length ((p.funcs.map (iU p)).flatMap fk),aA (((bQ (bd p) eR).n:Nat):Int)]⟩::⟨b3,83,bW (bQ (bd p) eR)⟩::⟨b2,33,[aK,aK,aK,aA 0]⟩::⟨b1,27,di p⟩::bx,_⟩,_⟩ _;refine go 8 ?_;exact ⟨.inr J,_,⟨bx,rw⟩,rF J (bv [_,_] J J sF qW (cG J J)) (bO J) (bO J) (bO J),ah tu (.refl _),by rw [Pw hck,hck];unfold sO;dsimp only;first|(rw [gS,gS];rfl)|(unfold aG;rw [gS,gS];rfl),J⟩
   refine aJ J (gG h7) (go 26 ?_);have hck:=Ey h1 (hb0 Y) (by rw [GE h6,decide_eq_false (show ¬(bQ (bd p) eR).kind=3 by omega)];rfl)
  rotate_left;refine aC J (cP (bH (qh h6)) (jK J J)) (go 30 ?_);have hck:=Ey h1 (hb0 Y) (ZZ h6);all_goals
   exact ⟨.inr J,_,⟨bx,rw⟩,rF J (iB (bI.agg (.n (.n (.n (.r .nil))))) (bv [_] J J sF qW (cG J J))) (bO J) (bO J) (bO J),ah ek (.refl _),Ch,J⟩
 refine tS J call21 J (Mh p hs Y _) h1 (go 15 ?_);have hck:=WN h1;exact ⟨.inr J,_,⟨bx,rw⟩,rF J (iB (bI.agg (.n (.n (.n (.r .nil))))) (bv [] J J sF qW (cG J J))) (bO J) (bO J) (bO J),ah c_ (.refl _),Ch,J⟩
instance aBG{x:wz}:iA (sO x) 4:=⟨rfl⟩
instance aCN{x:wz}:h_ (sO x) [.sl x.globals.length (x.globals.map λx=>aA x),aG bB x.mutexes,aG fk x.procs,am x.main]:=⟨rfl⟩
def SO{bx:List aV}{rw rw':List aQ}(h:rw'.Perm rw):jJ ⟨bx,rw⟩ ⟨bx,rw'⟩:=by
 intro w hm;have hp:((⟨bx,rw'⟩:aH).bl).Perm ((⟨bx,rw⟩:aH).bl):=F7 (C0 _) (h.flatMap_right _);have hu:f7 (bh (⟨bx,rw⟩:aH).bl w) (bh (⟨bx,rw'⟩:aH).bl w):=up_sub λb hb=>hp.mem_iff.1 hb;exact ⟨⟨hp.nodup_iff.2 hm.nodup,λb hb=>hm.lt b (hp.mem_iff.1 hb),λx hx=>let ⟨us,e,r⟩:=hm.box x hx;⟨us,e,r.mono hu⟩,λx hx=>let ⟨us,e,r⟩:=hm.row x (h.mem_iff.1 hx);⟨us,e,r.mono hu⟩⟩,λb hb=>hp.mem_iff.1 hb⟩
def Tw{P:Program}{ops:Array Oper}{l:List Oper}{n:Nat}{T:List Nat}{bx:List aV}{rw:List aQ}{ts:List (Nat×AT)}{Q:Exit -> AS -> Prop}{a b:aQ}(h:cN P ops l ⟨n,T,⟨bx,b::a::rw⟩,ts⟩ Q):cN P ops l ⟨n,T,⟨bx,a::b::rw⟩,ts⟩ Q:=u' (rS (SO (.swap _ _ _))) h
def YH{l:br}{s:aI}(h:dY l s=none)(a:Int):(dE l s a).length=l.length+1:=by
 induction l with
 |nil=>rfl
 |cons p l ih=>
  unfold dY at h;split at h
  ·cases h
  rename_i h1;unfold dE;rw [if_neg h1,length_cons,ih h,length_cons]
def d2.aN9{gs ms fs lk lo:br}{l:List bP}(m:d2 gs ms fs lk lo l){s:aI}(h:bL l s=none):dY lk s=none:=by rw [m.lk,h]
def d2.lkp{gs ms fs lk lo:br}{l:List bP}(m:d2 gs ms fs lk lo l){s:aI}(h:bL l s=none)(n:Nat):d2 gs ms fs (dE lk s (n:Int)) lo (l++[⟨s,5,n⟩]):=by
 refine ⟨λt=>?_,λt=>?_,λt v hv hk=>?_,λt v hv hk=>?_,λt v hv hk=>?_⟩
 ·rw [mr,m.lo t];by_cases e:s=t
  ·subst e;rw [h];dsimp only;rw [if_pos rfl];rfl
  rcases bL l t with _|v
  ·dsimp only;rw [if_neg e]
  rfl
 ·rw [pa,mr,m.lk t];by_cases e:s=t
  ·subst e;rw [if_pos rfl,h];dsimp only;rw [if_pos rfl];rfl
  rw [if_neg e];rcases bL l t with _|v
  ·dsimp only;rw [if_neg e]
  rfl
 all_goals
  rw [mr] at hv;rcases h1:bL l t with _|u
  ·rw [h1] at hv;dsimp only at hv;split at hv
   ·cases hv;cases hk
   cases hv
  rw [h1] at hv;obtain rfl:=mU hv
  first|exact m.gs t u h1 hk|exact m.ms t u h1 hk|exact m.fs t u h1 hk
def TB{ps:List bg}{l:List bP}{i m k:Nat}{r:List bP×Nat×Nat}(hk:k<ps.length)(h:ie (ps.drop k) l i m=some r):
  bL l ps[k].name=none /\ (ps[k].mutex=true -> ie (ps.drop (k+1)) (l++[⟨ps[k].name,5,m⟩]) i (m+1)=some r) /\ (ps[k].mutex=false -> ie (ps.drop (k+1)) (l++[⟨ps[k].name,4,i⟩]) (i+1) m=some r):=by
 rcases h0:bL l ps[k].name with _|v
 ·exact ⟨J,(zE hk h).2 Cz⟩
 have:=(zE hk h).1 Cz;cases this
def XK{p:aX}{f:a_}(h:(kJ p f).1=0):∃l i m,ie f.params (bd p) 0 0=some (l,i,m) /\ (cM p f.body (ai.init l i)).q.1=0:=by
 unfold kJ at h;split at h
 ·cases h
 rename_i l i m h1;exact ⟨l,i,m,h1,h⟩
def MH(A B:List aV)(D gg gm gf:Nat)(p:aX)(gs ms fs:br)(c3 c4 c5 c6 c7 c8:aO)(rw:List aQ)(f:a_)(hM:d2 gs ms fs [] [] (bd p))(hgg:ak gg 0 bA gs∈rw)(hgm:ak gm 0 bA ms∈rw)(hgf:ak gf 0 bA fs∈rw)(hok:qE p (bd p))(hl:(bd p).length <= 10000000)(hw:f.wt <= 20000000)(hkn:lp f.body)(hE:(kJ p f).1=0):aT prog 20 [aE D,.agg (bT f)] [D] ⟨A++⟨D,74,[aB gg,aB gm,aB gf,c3,c4,c5,c6,c7,c8]⟩::B,rw⟩ λt s'=>t=.agg (fk (iU p f)) /\ ∃c3' c4' c5' c6' c8',s'=⟨A++⟨D,74,[aB gg,aB gm,aB gf,c3',c4',c5',c6',.sl (qJ p f).length ((qJ p f).map λx=>aA x),c8']⟩::B,rw⟩:=by
 have hwf:f.wt=1+f.params.length+an f.body:=J;refine bM 100 func20 ?_;refine go 14 λb1 b2=>?_;refine aW J (wK 0 (bA) J J V λgl=>?_);refine aW J (wK 0 (bA) J J V λgk=>?_);refine go 30 ?_;obtain ⟨l1,i1,m1,hp1,hq1⟩:=XK hE;refine ji (α:=List bP×Nat×Nat×br×br) (λk g=>ie (f.params.drop k) g.1 g.2.1 g.2.2.1=some (l1,i1,m1) /\ d2 gs ms fs g.2.2.2.1 g.2.2.2.2 g.1 /\ dZ g.2.2.2.2 /\ g.2.2.2.1.length=g.2.2.1 /\ g.2.1+g.2.2.1 <= k /\ g.1.length <= (bd p).length+k /\ qE p g.1) (f.params.length) 31 (λ_=>[gk,gl,b2,b1,D]) (λ_ g=>⟨⟨b2,76,[ac ay,aA 0,aA 0,aA 0,aK]⟩::⟨b1,49,[ac f.name,aG cE f.params,aG encS f.body]⟩::A++⟨D,74,[aB gg,aB gm,aB gf,aB gl,aB gk,am g.2.1,aK,aK,aA 0]⟩::B,ak gk 0 bA g.2.2.2.1::ak gl 0 bA g.2.2.2.2::rw⟩) (λ_=>[(0,aE D),(3,aE b1),(4,aE b2),(29,.c (aG cE f.params)),(30,ab f.params.length)]) (bd p,0,0,[],[]) ⟨hp1,hM,List.Pairwise.nil,J,bY _,bY _,hok⟩ (az ja) ?_;rintro k ⟨l,i,m,lk,lo⟩ hk ⟨PJ,hM,hK,hlk,him,hll,hlo⟩;dsimp only at PJ hM hK hlk him hll hlo
 try dsimp only
 refine go 2 ?_;by_cases h1:(k:Int)<(f.params.length:Int)
 ·refine aJ J (cw h1) (go 10 ?_);refine aC J (bX cE cE f.params iQ (λ_=>J) k J J J J Y V iK ga) (go 7 λb5=>?_);have hkp:k<f.params.length:=Y;have hps:=TB hkp PJ;refine go 2 ?_;rcases bz (f.params[k].mutex) with h3|h3
  ·refine aC J (cP (bH h3) (cW [] dJ dI)) (go 4 ?_);refine lQ 11 [b5,b2,b1,D,gl,gk] [] #[true,true,true,true,true,true,true,true,true,true,true,false] aL aL aL ?_;refine aU [0,1,2,3,4,5,6,7,8,9] 1 (go 11 ?_);refine aZ 10 J (O0 (m:=0) (ev:=bA) lk J J aM wT lj na) ?_;refine bC ?_;refine id ?_;refine aY 11 J J (qc lk [] J J J J J lj dz aM sT ?_);refine bC (go 6 ?_);refine bK J (go 2 ?_);exact ⟨Y,(l++[⟨f.params[k].name,5,m⟩],i,m+1,dE lk f.params[k].name (lk.length:Int),lo),⟨hps.2.1 h3,(by dsimp only;rw [hlk];exact hM.lkp hps.1 m),hK,by show (dE _ _ _).length=m+1;rw [YH (hM.aN9 hps.1),hlk],nY,Bv,hlo.app (by show (5:Int)≠2;decide) IM⟩,az (h1:=bG) (h:=av J (b_ Y) (ao J)) ja⟩
  refine aC J (cP (bH h3) (cW [] dJ dI)) (go 6 ?_);refine lQ 10 [b5,b2,b1,D,gl,gk] [] #[true,true,true,true,true,true,true,true,true,true,false] aL aL aL ?_;refine aU [0,1,2,3,4,5,6,7,8,9] 0 (go 11 ?_);refine bC ?_;refine id ?_;refine aY 10 J J (qc lo [_] J J J J J lj dz aM sT ?_);refine bC (go 6 ?_);refine bK J (go 2 ?_);refine cx 62 J (t:=ab (i+1)) (b_ Y) (go 5 ?_);refine bK J (go 2 ?_);exact ⟨Y,(l++[⟨f.params[k].name,4,i⟩],i+1,m,lk,dE lo f.params[k].name (i:Int)),⟨hps.2.2 h3,hM.var hps.1 i,hK.put _ _,hlk,nY,Bv,hlo.app Ep yd⟩,az (h1:=bG) (h:=av J (b_ Y) (ao J)) ja⟩
 refine aF J (ct h1) (go 10 ?_);refine bu [b2,b1,D,gk,gl] (aU [0,1,2,3,4,5,6,7,8,9] 4 (go 11 ?_));refine aZ 10 J (O0 (m:=0) (ev:=bA) lk J J aM wT lj na) ?_;refine aZ 11 J (id <|yf Tryz.t76 [(0,1),(1,1),(2,1),(3,1),(4,1)] J (.cons J (.cons J (.cons J .nil))) underlying76 aL J aL J J) ?_;refine xh 77 J (bI.refl _:bI _ (.agg [ac f.name,am i,am lk.length,aA 0,aK])) ?_;refine aY 12 J J (id <|iz J J V AK J λb6=>?_);refine aY 13 J J (id <|M0 J J J J J rf J (fV J) (Bh J) aM Ju ?_);refine bC (go 3 ?_);obtain rfl:k=f.params.length:=Y;have hpl:ie f.params (bd p) 0 0=some (l,i,m):=by rw [hp1,←PJ,m6 (bY _),ie]
 obtain ⟨rfl,rfl,rfl⟩:l1=l /\ i1=i /\ m1=m:=by rw [hp1] at hpl;cases hpl;exact ⟨rfl,rfl,rfl⟩
 refine Tw ?_;refine wP 3 1 ?_;refine wP 99 12 ?_;refine go 3 ?_;have hlk2:dx p (ai.init l1 i1) (an f.body+1):=⟨hlo,CN,J,CN,by show i1+_ <= _;omega,by show l1.length+_ <= _;omega⟩;have hbk:=yU p f.body (ai.init l1 i1) 1 hlk2;have hW4:pH gg gm gf gk gs ms fs lk (ak gk 0 bA lk::rw):=⟨by simp [hgg],by simp [hgm],vx,aM⟩;refine aW J (y2 J J V call42 J (G9 _ f.body (bY _) hkn (_::_::_::A) B D gg gm gf gk gl p (ai.init l1 i1) gs ms fs lk lo (.slice none 0 0) (.slice none 0 0) (ak gk 0 bA lk::rw) hM hW4 hK (hlk2.mono Y) hq1) aM aM qd qd (λ_=>⟨aM,aM,qd,qd⟩) λvc7 vs7 lo7 hp7=>?_);refine go 10 ?_;refine cx 87 J ((bI.agg (.r (.r (.r (.r (.r (.r (.n (.r (.r (.n (.n (.n .nil))))))))))))):bI _ (.agg (encI (bm 8 .zero)))) ?_;have hz8:(aP p f.body (ai.init l1 i1)).code.length <= 100000000 /\ (aP p f.body (ai.init l1 i1)).sites.length=(aP p f.body (ai.init l1 i1)).code.length:=⟨by have:=hbk.code;omega,hbk.sites⟩;refine aW J (iO J J V pf J (pj (_::_::_::A) B D gg gm gf gk gl (aP p f.body (ai.init l1 i1)) vc7 vs7 _ (bm 8 .zero) (aP p f.body (ai.init l1 i1)).n hz8.1 hz8.2) aM cI.h cI.h il λvc8 vs8=>?_);refine go 3 ?_;refine bu [b2,b1,D] (cY [(0,true),(1,true),(2,true),(3,true),(4,true),(5,true),(6,true),(7,true),(8,true),(9,false),(10,true),(11,false)] 0 (go 13 ?_));refine bC (go 2 ?_);refine EJ (cs':=[ac f.name,am i1,am lk.length,aA ((((aP p f.body (ai.init l1 i1)).put (bm 8 .zero) (aP p f.body (ai.init l1 i1)).n).locals:Nat):Int),.sl ((aP p f.body (ai.init l1 i1)).put (bm 8 .zero) (aP p f.body (ai.init l1 i1)).n).code.length (((aP p f.body (ai.init l1 i1)).put (bm 8 .zero) (aP p f.body (ai.init l1 i1)).n).code.flatMap encI)]) [] 4 J J ?_;refine EJ (cs':=[aB gg,aB gm,aB gf,aB gl,aB gk,aA ((((aP p f.body (ai.init l1 i1)).put (bm 8 .zero) (aP p f.body (ai.init l1 i1)).n).locals:Nat):Int),.val vc8,.sl ((aP p f.body (ai.init l1 i1)).put (bm 8 .zero) (aP p f.body (ai.init l1 i1)).n).sites.length (((aP p f.body (ai.init l1 i1)).put (bm 8 .zero) (aP p f.body (ai.init l1 i1)).n).sites.map λx=>aA x),aA ((((aP p f.body (ai.init l1 i1)).put (bm 8 .zero) (aP p f.body (ai.init l1 i1)).n).n:Nat):Int)]) (_::_::_::A) 7 J J ?_
 refine go 6 ?_;subst hlk;exact ⟨.inr J,_,⟨A++⟨D,74,[aB gg,aB gm,aB gf,aB gl,aB gk,(aA ((((aP p f.body (ai.init l1 i1)).put (bm 8 .zero) (aP p f.body (ai.init l1 i1)).n).locals:Nat):Int)),.val vc8,.sl ((aP p f.body (ai.init l1 i1)).put (bm 8 .zero) (aP p f.body (ai.init l1 i1)).n).sites.length (((aP p f.body (ai.init l1 i1)).put (bm 8 .zero) (aP p f.body (ai.init l1 i1)).n).sites.map λx=>aA x),(aA ((((aP p f.body (ai.init l1 i1)).put (bm 8 .zero) (aP p f.body (ai.init l1 i1)).n).n:Nat):Int))]⟩::B,rw⟩,bJ J (bv [_] J J isAgg76 rf (cG J J)),ah ek c_,by unfold iU;rw [hp1];rfl,_,_,_,_,_,by unfold qJ;rw [hp1];rfl⟩
end
section
def I0(fs fs':dW):Prop:=∀s,(dY fs s).map a_.params=(dY fs' s).map a_.params
def I0.put{fs fs':dW}(h:I0 fs fs')(k:aI){f f':a_}(hp:f.params=f'.params):I0 (dE fs k f) (dE fs' k f'):=λs=>by
 rw [pa,pa];split
 ·simp [hp]
 exact h s
end
section
def gI(p:aX)(v:bP):Int:=if v.kind=1∨v.kind=4 then 1 else if v.kind=2 then (if 0<rT p v.n then 3 else 2) else if v.kind=5 then 4 else if v.kind=3 then 5 else 9
def tU(p:aX):Option bP -> Int
 |none=>0
 |some v=>gI p v
def zV(p:aX)(x:bP):(x.kind=2 /\ 0<rT p x.n /\ gI p x=3)∨(x.kind=2 /\ ¬0<rT p x.n /\ gI p x=2)∨(x.kind=5 /\ gI p x=4)∨(x.kind≠2 /\ x.kind≠5 /\ (x.kind=1∨x.kind=4) /\ gI p x=1)∨(x.kind=3 /\ gI p x=5)∨(x.kind≠1 /\ x.kind≠2 /\ x.kind≠3 /\ x.kind≠4 /\ x.kind≠5 /\ gI p x=9):=by
 unfold gI;by_cases h1:x.kind=1∨x.kind=4
 ·rw [if_pos h1];exact .inr (.inr (.inr (.inl ⟨Y,Y,h1,rfl⟩)))
 rw [if_neg h1];by_cases h2:x.kind=2
 ·rw [if_pos h2];by_cases hm:0<rT p x.n
  ·rw [if_pos hm];exact .inl ⟨h2,hm,rfl⟩
  rw [if_neg hm];exact .inr (.inl ⟨h2,hm,rfl⟩)
 rw [if_neg h2];by_cases h5:x.kind=5
 ·rw [if_pos h5];exact .inr (.inr (.inl ⟨h5,rfl⟩))
 rw [if_neg h5];by_cases h3:x.kind=3
 ·rw [if_pos h3];exact .inr (.inr (.inr (.inr (.inl ⟨h3,rfl⟩))))
 rw [if_neg h3];exact .inr (.inr (.inr (.inr (.inr ⟨Y,h2,h3,Y,h5,rfl⟩))))
def uy(p:aX)(v:bP):gI p v≠0:=by rcases zV p v with h|h|h|h|h|h<;>omega
structure lM (p:aX) (fs:dW) (v:br) (l:List bP):Prop where
 kn:dZ v
 get:∀s,cB v s=tU p (bL l s)
 fn:∀s x,bL l s=some x -> x.kind=3 -> ∃f,dY fs s=some f /\ jV p x.n=f.params
section
variable {p:aX}{fs:dW}{v:br}{l:List bP}(h:lM p fs v l)
include h
theorem Qa(s:aI):rB v s=fO l s:=by
 unfold rB fO;rw [h.get s];rcases bL l s with _|x
 ·rfl
 show (if gI p x=0 then 6 else if gI p x=1 then 0 else 8)=if x.kind=1∨x.kind=4 then 0 else 8
 rw [if_neg (uy p x)];rcases zV p x with ⟨h2,-,e⟩|⟨h2,-,e⟩|⟨h2,e⟩|⟨-,-,h2,e⟩|⟨h2,e⟩|⟨h2,-,-,h3,-,e⟩<;>rw [e];rotate_left;rotate_left;rotate_left
 ·rw [if_pos h2];rfl
 rotate_left;all_goals
  rw [if_neg (Y:¬(x.kind=1∨x.kind=4))];rfl
end
mutual
def EB{p:aX}{fs:dW}{v:br}{l:List bP}(h:lM p fs v l):∀e:aS,jj v e=cV l e
 |.mk op num name args=>by rw [jj,cV,Qa h,QG h args]
def QG{p:aX}{fs:dW}{v:br}{l:List bP}(h:lM p fs v l):∀r:List aS,ko v r=hJ l r
 |[]=>by rw [ko,hJ]
 |e::r=>by rw [ko,hJ,EB h e,QG h r];rfl
end
section
variable {p:aX}{fs:dW}{v:br}{l:List bP}(h:lM p fs v l)
include h
theorem Px(r:cD)(hr:r.index.length <= 1):qI v r=eC p l r:=by
 have hix:hJ l r.index=if r.index.length=0 then 0 else Db v r.index:=by
  rcases hi:r.index with _|⟨e,_|⟨a,b⟩⟩
  ·rw [hJ];rfl
  ·rw [hJ,hJ,if_neg aM];show dP _ 0=jj v e;rw [EB h];unfold dP;split<;>simp_all
  rw [hi] at hr;simp at hr
 unfold qI eC xc;rw [h.get r.name,hix];rcases bL l r.name with _|x
 ·rfl
 show (if gI p x=0 then 6 else if ((decide (gI p x≠2) && decide (gI p x≠3) && decide (gI p x≠4))||(decide (gI p x=3) != decide (0<r.index.length)))=true then 8 else if gI p x=3 then Db v r.index else 0)=dP (if x.kind=2∨x.kind=5 then (if (decide (x.kind=2) && decide (0<rT p x.n))=decide (0<r.index.length) then 0 else 8) else 8) _;rw [if_neg (uy p x)];have hlen:r.index.length=0∨r.index.length=1:=Y;rcases zV p x with ⟨h2,hm,e⟩|⟨h2,hm,e⟩|⟨h2,e⟩|⟨h2,h5,-,e⟩|⟨h2,e⟩|⟨-,h2,-,-,h5,e⟩<;>rw [e]
 ·rw [if_pos (Or.inl h2:x.kind=2∨x.kind=5),decide_eq_true h2,decide_eq_true hm];rcases hlen with h0|h0<;>rw [h0]<;>rfl
 ·rw [if_pos (Or.inl h2:x.kind=2∨x.kind=5),decide_eq_true h2,decide_eq_false hm];rcases hlen with h0|h0<;>rw [h0]<;>rfl
 ·rw [if_pos (Or.inr h2:x.kind=2∨x.kind=5),decide_eq_false (show ¬x.kind=2 by omega)];rcases hlen with h0|h0<;>rw [h0]<;>rfl
 ·rw [if_neg (Y:¬(x.kind=2∨x.kind=5))];rfl
 ·rw [if_neg (Y:¬(x.kind=2∨x.kind=5))];rfl
 rw [if_neg (Y:¬(x.kind=2∨x.kind=5))];rfl
theorem KX:∀(al:List bq)(xs:List bg),(∀a,a∈al -> a.mutex=true -> a.ref.index.length <= 1) -> jE v al xs=jC p l al xs
 |[],xs,_=>by cases xs<;>simp [jE,jC]
 |a::al,[],_=>by simp [jE,jC]
 |a::al,x::xs,hi=>by
  rw [jE,jC,KX al xs λb hb=>hi b (d_ _ hb)];unfold nL ul;by_cases hm:a.mutex=x.mutex
  ·rw [if_pos hm,if_pos hm];by_cases hx:a.mutex=true
   ·rw [if_pos hx,if_pos hx,Px h a.ref (hi a mq hx)];rfl
   rw [if_neg hx,if_neg hx,EB h];rfl
  rw [if_neg hm,if_neg hm];rfl
theorem U8(s:aD)(hi:∀a,a∈s.args -> a.mutex=true -> a.ref.index.length <= 1):sI v fs s.name s.args=eH p l s:=by
 unfold sI eH;rw [h.get s.name];rcases hf:bL l s.name with _|x
 ·rfl
 show (if gI p x=0 then 6 else if gI p x=5 then Ja v s.args (dY fs s.name) else 8)=if x.kind=3 then (if (jV p x.n).length=s.args.length then jC p l s.args (jV p x.n) else 7) else 8
 rw [if_neg (uy p x)];by_cases h3:x.kind=3
 ·obtain ⟨f,hl,hp⟩:=h.fn _ x hf h3;rw [if_pos h3,hl,hp,if_pos (show gI p x=5 by rcases zV p x with h|h|h|h|h|h<;>omega)];show (if s.args.length=f.params.length then jE v s.args f.params else 7)=_;rw [KX h _ _ hi];by_cases hl2:s.args.length=f.params.length
  ·rw [if_pos hl2,if_pos hl2.symm]
  rw [if_neg hl2,if_neg (λe=>hl2 e.symm)]
 rw [if_neg h3,if_neg];rcases zV p x with h|h|h|h|h|h<;>omega
end
end
section
mutual
def zg:aD -> Prop
 |.mk k _ _ r args t f=>(k=5∨k=6 -> r.index.length <= 1) /\ (∀a,a∈args -> a.mutex=true -> a.ref.index.length <= 1) /\ (k≠7 -> k≠8 -> t=[]) /\ (k≠7 -> f=[]) /\ oW t /\ oW f
def oW:List aD -> Prop
 |[]=>True
 |s::l=>zg s /\ oW l
end
def JZ{r:cD}(h:okRefB r=true):r.index.length <= 1:=by have:=(B_ h).2.1;omega
mutual
def Wz:∀(D:Nat)(s:aD),f6 D s=true -> zg s
 |D,.mk k name e r args t f,h=>by
  rw [f6] at h;simp only [dm,nP,decide_eq_true_eq] at h;obtain ⟨⟨⟨⟨⟨⟨-,-⟩,-⟩,h5⟩,-⟩,ha⟩,ht⟩:=h.1;have hf:=h.2;rw [zg];refine ⟨λhk=>?_,λa hm hx=>?_,λh7 h8=>?_,λh7=>?_,?_,?_⟩
  ·rw [if_pos hk] at h5;exact JZ h5
  ·have h9:=fC.1 ha a hm;unfold fc at h9;rw [if_pos hx,dm] at h9;exact JZ h9.1
  ·rw [if_neg Y,decide_eq_true_eq] at ht;exact ke.1 ht
  ·rcases hf with hf|hf
   ·exact ke.1 hf
   exact absurd hf.1 h7
  ·by_cases hk:k=7∨k=8
   ·rw [if_pos hk] at ht;exact A6 (D+1) t ht
   rw [if_neg hk,decide_eq_true_eq] at ht;rw [ke.1 ht,oW];trivial
  rcases hf with hf|hf
  ·rw [ke.1 hf,oW];trivial
  exact A6 (D+1) f hf.2
def A6:∀(D:Nat)(l:List aD),dG D l=true -> oW l
 |_,[],_=>by rw [oW];trivial
 |D,s::l,h=>by
  rw [dG,dm] at h;rw [oW];exact ⟨Wz D s h.1,A6 D l h.2⟩
end
def vD(p:aX)(l:List bP)(s:aD):Nat:=
 if s.kind=1 then dP (fU l s.name) (cV l s.expr)
 else if s.kind=2 then dP (fO l s.name) (cV l s.expr)
 else if s.kind=5∨s.kind=6 then eC p l s.ref
 else if s.kind=3∨s.kind=4 then eH p l s
 else if s.kind=7∨s.kind=8 then cV l s.expr else 0
def Xn{p:aX}{fs:dW}{v:br}{l:List bP}(h:lM p fs v l)(s:aD)(hr:s.kind=5∨s.kind=6 -> s.ref.index.length <= 1)(ha:∀a,a∈s.args -> a.mutex=true -> a.ref.index.length <= 1):kv v fs s=vD p l s:=by
 unfold kv vD;rw [EB h,Qa h,U8 h s ha];by_cases h1:s.kind=1
 ·rw [if_pos h1,if_pos h1,h.get s.name];unfold fU;rcases bL l s.name with _|x
  ·rfl
  show (if gI p x=0 then _ else 5)=_;rw [if_neg (uy p x)];rfl
 rw [if_neg h1,if_neg h1];by_cases h2:s.kind=2
 ·rw [if_pos h2,if_pos h2];rfl
 rw [if_neg h2,if_neg h2];by_cases h5:s.kind=5∨s.kind=6
 ·rw [if_pos h5,if_pos h5,Px h s.ref (hr h5)]
 rw [if_neg h5,if_neg h5]
def GI(p:aX)(s:aD)(x:ai)(h7:s.kind≠7)(h8:s.kind≠8):(im p s x).q=cX x.q (vD p x.aq s) x.n /\ (im p s x).n=x.n+1 /\ (im p s x).aq=if s.kind=1 then x.aq++[⟨s.name,4,x.locals⟩] else x.aq:=by
 unfold im vD;by_cases h1:s.kind=1
 ·rw [if_pos h1,if_pos h1,if_pos h1];exact ⟨rfl,rfl,rfl⟩
 rw [if_neg h1,if_neg h1,if_neg h1];by_cases h2:s.kind=2
 ·rw [if_pos h2,if_pos h2];exact ⟨rfl,rfl,rfl⟩
 rw [if_neg h2,if_neg h2];by_cases h3:s.kind=3∨s.kind=4
 ·rw [if_pos h3,if_neg (Y:¬(s.kind=5∨s.kind=6)),if_pos h3];exact ⟨rfl,rfl,rfl⟩
 rw [if_neg h3];by_cases h5:s.kind=5
 ·rw [if_pos h5,if_pos (.inl h5:s.kind=5∨s.kind=6)];exact ⟨rfl,rfl,rfl⟩
 rw [if_neg h5];by_cases h6:s.kind=6
 ·rw [if_pos h6,if_pos (.inr h6:s.kind=5∨s.kind=6)];exact ⟨rfl,rfl,rfl⟩
 rw [if_neg h6,if_neg (Y:¬(s.kind=5∨s.kind=6)),if_neg h3,if_neg (Y:¬(s.kind=7∨s.kind=8))];exact ⟨rfl,rfl,rfl⟩
def Ma{q:iv}(h:q.1≠0)(e:Nat)(s:Int):cX q e s=q:=by unfold cX;rw [if_neg (λhh=>h hh.1)]
def Kp{q:iv}(h:q.1=0){e:Nat}(he:e≠0)(s:Int):cX q e s=(e,s):=by unfold cX;rw [if_pos ⟨h,he⟩]
mutual
def Sc(p:aX):∀(s:aD)(x:ai),x.q.1≠0 -> (cy p s x).q=x.q
 |.mk k name e r args t f,x,h=>by
  have hb:(x.branch e).q=x.q:=Ma h _ _;have ht:(cM p t (x.branch e)).q=x.q:=by rw [vA p t _ (by rw [hb];exact h),hb]
  rw [cy];split
  ·split
   ·exact ht
   show (cM p f _).q=_;rw [vA p f _ (by show (cM p t (x.branch e)).q.1≠0;rw [ht];exact h)];exact ht
  split
  ·exact ht
  rename_i h7 h8;rw [(GI p (.mk k name e r args t f) x h7 h8).1];exact Ma h _ _
def vA(p:aX):∀(l:List aD)(x:ai),x.q.1≠0 -> (cM p l x).q=x.q
 |[],x,_=>by rw [cM]
 |s::l,x,h=>by
  have h1:=Sc p s x h;rw [cM,vA p l _ (by rw [h1];exact h),h1]
end
end
section
open Go.RowKit
def Q8(n:Int)(h0:fit n)(s:aH):aT prog 117 [cL (aj n)] [] s λt s'=>t=cK (bytes (fW n)) /\ s'=s:=by
 intro vs w hm _ hl hr;obtain ⟨v,rfl⟩:∃v,vs=[v]:=by
  cases vs with
  |nil=>cases hl
  |cons v vs=>cases vs with
   |nil=>exact ⟨v,rfl⟩
   |cons _ _=>simp at hl
 have h1:cS (bh s.bl w) (cL (aj n)) v:=hr 0 aM aM;obtain rfl:=(Ml _ _ h1).val;refine (Tryz.strconv_Itoa n h0.1 h0.2 w (F4 h1).tab).mono ?_;rintro e w' ⟨rfl,k,os,rfl⟩;obtain ⟨hk,hm'⟩:=Bf hm (SL w k os);have he:bytes (fW n)=⟨(Lib.itoa n).toArray⟩:=by rw [S8];rfl
 rw [he];exact ⟨_,_,s,J,⟨J,J⟩,cS.c _ _ (.val _ J),hm',hk,λb hb=>.inl hb⟩
def Wo(u:Nat)(bs:List UInt8)(v:aN)(bx:List aV)(rw:List aQ)(hu:u<18446744073709551616)(hb:bs.length <= 100000000000000):aT prog 206 [cL (ap v),ap (.int .u64 (u:Int)),aj 10] (aR v) ⟨bx,⟨v,5,1,bs.length,cb bs⟩::rw⟩ λt s'=>∃v',t=ap v' /\ s'=⟨bx,⟨v',5,1,(bs++dH u).length,cb (bs++dH u)⟩::rw⟩:=by
 refine bM 36 func206 ?_;refine go 9 ?_;refine aJ J jL (go 7 ?_);by_cases h2:(u:Int)<100;focus
  refine aJ J (cw h2) (go 7 ?_);refine aC J (Qz J J J J J (wrap64 Y Y)) ?_;refine pM J call177 J (Yl u Y _) ?_;refine aW J (AL [] Tryz.t5 (z:=bytes (dH u)) J J V J J ky dz aL J J J (by have:=DK u;have:=CB hu;unfold maxLen;show bs.length+(dH u).length <= _;omega) (by have:=DK u;have:=CB hu;show bs.length+(dH u).length <= _;omega) (@length_append _ bs (dH u)).symm J fy co (pn bs (dH u)) λw3=>?_);refine go 6 ?_
 rotate_left;refine aF J (ct h2) (go 13 λb2=>?_);refine kP 0 J call178 J (TW u Y hu _) (go 6 ?_);have hnd:=CB hu;refine aC J (NG J J J J Y V runUnderlying241 sizeOf5) (go 1 ?_);have hnd:=CB hu;refine aW J (bo [b2] J J V call179 J (SZ b2 _ (List.replicate 24 0) u 24 bx _ hu dr V) (ba) (ba (h:=by simp [aH.bl])) (λ_=>ba) ?_);rintro _ _ ⟨rfl,rfl⟩;refine go 6 ?_;refine aC J (NG J J J J Y V runUnderlying241 sizeOf5) ?_;refine Yy 26 J Y V ?_;refine aW J (dS [] w_ J (by unfold cb;rw [gS,DK,sM]) Y cO Y (show bs.length+Lib.nDigits u=(bs++dH u).length by rw [length_append,DK]) fy co (pn bs (dH u)) λw3=>?_);refine go 5 ?_;all_goals
  exact ⟨.inr J,_,⟨bx,⟨w3,_,_,_,_⟩::rw⟩,bJ J (bO J),ah (.refl _) (.refl _),⟨w3,J,J⟩⟩
def Vx(n:Nat)(bs:List UInt8)(v:aN)(bx:List aV)(rw:List aQ)(hn:n <= 9223372036854775807)(hb:bs.length <= 100000000000000):aT prog 202 [cL (ap v),ab n,aj 10] (aR v) ⟨bx,⟨v,5,1,bs.length,cb bs⟩::rw⟩ λt s'=>∃v',t=ap v' /\ s'=⟨bx,⟨v',5,1,(bs++dH n).length,cb (bs++dH n)⟩::rw⟩:=by
 refine bM 21 func202 ?_;refine go 8 ?_;refine aC J (Qz J J J J J (VG Y Y)) (go 7 ?_);refine aF J (ct Y) (go 10 ?_);refine aW J (sB 0 J call206 J (Wo n bs v _ _ Y hb) co fy λw1=>?_);refine go 4 ?_;exact ⟨.inr J,_,⟨bx,⟨w1,_,_,_,_⟩::rw⟩,bJ J (bO J),ah (.refl _) (.refl _),⟨w1,J,J⟩⟩
def ZU(n:Nat)(bs:List UInt8)(v:aN)(bx:List aV)(rw:List aQ)(hn:n <= 9223372036854775807)(hb:bs.length <= 100000000000000):aT prog 196 [cL (ap v),ab n,aj 10] (aR v) ⟨bx,⟨v,5,1,bs.length,cb bs⟩::rw⟩ λt s'=>∃v',t=ap v' /\ s'=⟨bx,⟨v',5,1,(bs++dH n).length,cb (bs++dH n)⟩::rw⟩:=by
 refine bM 11 func196 ?_;refine go 10 ?_;refine aW J (sB 0 J call202 J (Vx n bs v _ _ hn hb) co fy λw1=>?_);refine go 4 ?_;exact ⟨.inr J,_,⟨bx,⟨w1,_,_,_,_⟩::rw⟩,bJ J (bO J),ah (.refl _) (.refl _),⟨w1,J,J⟩⟩
def lG(op:Int):List UInt8:=if op=3 then [45] else if op=4 then [33] else oU op
def V6:∀j (h:j<mB.length),mB[j]=bytes (lG j):=V
def lR(e:aS)(k:Nat):List UInt8:=(kB e.op 0 e.args).getD k []
def CW(e:aS)(k:Nat)(h:k<e.args.length):lR e k=if kE e.op k e.args[k].op then [40]++cA e.args[k]++[41] else cA e.args[k]:=by
 unfold lR;have:=DC e.op e.args 0 k h;rw [cq] at this;rw [Gq,this];rfl
def Ge{e:aS}(h:dy e=true):(e.args.length=0 /\ (e.op=1∨e.op=2))∨(e.args.length=1 /\ (e.op=3∨e.op=4))∨(e.args.length=2 /\ 5 <= e.op /\ e.op <= 17):=by
 rw [lO] at h;unfold kZ at h;by_cases h0:f8 e.op=0
 ·rw [if_pos h0] at h;cases h
 have ho:=EY h0;rw [if_neg h0] at h;by_cases h7:f8 e.op=7
 ·rw [if_pos h7] at h;simp only [dm,decide_eq_true_eq] at h;have:=Fh h7;omega
 rw [if_neg h7] at h;simp only [dm,decide_eq_true_eq] at h;by_cases h6:f8 e.op=6
 ·rw [if_pos h6] at h;have:=Wh h6;omega
 rw [if_neg h6] at h;have h1:¬(e.op=1∨e.op=2):=λhh=>h7 QJ;have h2:¬(e.op=3∨e.op=4):=λhh=>h6 QJ;omega
def KF{e:aS}(h:dy e=true)(h2:e.args.length=2):cA e=lR e 0++([32]++lG e.op++[32])++lR e 1:=by
 have hk:=Ge h;rw [qT];unfold kQ lR lG;have hs:dN e.op<5:=GW;rw [if_neg Y,if_neg Y,if_neg Y,if_neg Y,if_pos hs,if_neg Y,if_neg Y];simp only [append_assoc]
def OG{e:aS}(h:dy e=true)(h1:e.args.length=1):cA e=lG e.op++lR e 0:=by
 have hk:=Ge h;rw [qT];unfold kQ lR lG;rw [if_neg Y,if_neg Y];by_cases h3:e.op=3
 ·rw [if_pos h3,if_pos h3];rfl
 rw [if_neg h3,if_neg h3,if_pos Y,if_pos Y];rfl
def OU{e:aS}(h2:e.op=2):cA e=e.name.data.toList:=by
 rw [qT];unfold kQ;rw [if_neg Y,if_pos h2]
def ZJ{e:aS}(h1:e.op=1)(h:dy e=true):cA e=dH e.num.toNat /\ 0 <= e.num:=by
 rw [rU] at h;have hs:dN e.op=6:=GW;rw [if_pos hs] at h;simp only [dm,ll,nP,decide_eq_true_eq] at h;have hn:0 <= e.num:=Y;rw [qT];unfold kQ fW;rw [if_pos h1,if_neg Y,show e.num.natAbs=e.num.toNat by omega];exact ⟨J,hn⟩
def Eg(e:aS)(k:Nat)(bs:List UInt8)(v:aN)(x:Nat)(bx:List aV)(rw:List aQ)(hk:k<e.args.length)(hsh:dy e=true)(hb:bs.length+(lR e k).length <= 100000000000000)(ih:∀(bs:List UInt8)(v:aN)(bx:List aV)(rw:List aQ),bs.length+(cA e.args[k]).length <= 100000000000000 -> aT prog 182 [cL (ap v),.agg (bf e.args[k])] (aR v) ⟨bx,⟨v,5,1,bs.length,cb bs⟩::rw⟩ λt s'=>∃v',t=ap v' /\ s'=⟨bx,⟨v',5,1,(bs++cA e.args[k]).length,cb (bs++cA e.args[k])⟩::rw⟩):aT prog 195 [cL (ap v),ab k,aE x] (aR v) ⟨⟨x,94,bf e⟩::bx,⟨v,5,1,bs.length,cb bs⟩::rw⟩ λt s'=>∃v',t=ap v' /\ s'=⟨⟨x,94,bf e⟩::bx,⟨v',5,1,(bs++lR e k).length,cb (bs++lR e k)⟩::rw⟩:=by
 refine bM 28 func195 ?_;refine go 10 ?_;rcases bz (kE e.op k e.args[k].op) with h1|h1
 ·refine d9 0 J call188 J (DO e k Y (mK hsh).1 (mK ((mK hsh).2 k Y)).1 _) h1 (go 7 ?_);refine bu [x] ?_;have hlk:=CW e k hk;rw [h1] at hlk;have hl2:=congrArg List.length hlk;simp only [if_true,m4,if_false,length_append,length_cons,length_nil] at hl2;refine aU [0,3,4,5] 8 (go 5 ?_);refine aZ 6 J (bX bV bf e.args fw fR k J J J J Y V iR dl) (aU [7] 6 (go 2 ?_));refine cC 1 9 J ?_ ?_;focus
   refine (bU (r:=cb [40]) ku ?_);refine cC 2 9 J ?_ ?_;focus
    refine (dS [] w_ J J V BM hG (show bs.length+1=(bs++[40]).length by simp only [length_append,length_cons,length_nil]) (λhn b hb=>gi hn hb) co (pn bs [40]) λw1=>?_);refine cC 8 9 J ?_ ?_;focus
     refine (sB 0 J call182 J (ih (bs++[40]) w1 _ _ hG) co (λhn b hb=>gi hn hb) λw2=>?_);refine aY 9 J J (bU (r:=cb [41]) ku ?_)
    rotate_left;refine (bU (r:=cb [41]) ku ?_);refine aY 8 J J (sB 0 J call182 J (ih (bs++[40]) w1 _ _ hG) co (λhn b hb=>gi hn hb) λw4=>?_)
   rotate_left 2;refine (bU (r:=cb [41]) ku ?_);refine aY 2 J J (dS [] w_ J J V BM hG (show bs.length+1=(bs++[40]).length by simp only [length_append,length_cons,length_nil]) (λhn b hb=>gi hn hb) co (pn bs [40]) λw6=>?_);refine aY 8 J J (sB 0 J call182 J (ih (bs++[40]) w6 _ _ hG) co (λhn b hb=>gi hn hb) λw7=>?_)
  rotate_left 3;refine (bU (r:=cb [41]) ku ?_);refine aY 1 J J (bU (r:=cb [40]) ku ?_);refine aY 2 J J (dS [] w_ J J V BM hG (show bs.length+1=(bs++[40]).length by simp only [length_append,length_cons,length_nil]) (λhn b hb=>gi hn hb) co (pn bs [40]) λw9=>?_);refine aY 8 J J (sB 0 J call182 J (ih (bs++[40]) w9 _ _ hG) co (λhn b hb=>gi hn hb) λw10=>?_);all_goals
   refine aY 10 J J (dS [] w_ J J V BM hG (show ((bs++[40])++cA e.args[k]).length+1=(((bs++[40])++cA e.args[k])++[41]).length by simp only [length_append,length_cons,length_nil]) (λhn b hb=>gi hn hb) co (pn ((bs++[40])++cA e.args[k]) [41]) λw11=>?_);refine aU [11] 0 (go 2 ?_);refine bC (go 2 ?_);exact ⟨.inr J,_,⟨_,⟨w11,_,_,_,_⟩::rw⟩,bJ J (bO J),ah (.refl _) (.refl _),⟨w11,J,(by rw [show (((bs++[40])++cA e.args[k])++[41])=bs++lR e k by rw [CW e k hk,h1];simp only [if_true,m4,if_false,append_assoc]])⟩⟩
 refine d9 0 J call188 J (DO e k Y (mK hsh).1 (mK ((mK hsh).2 k Y)).1 _) h1 (go 6 ?_);have hlk:=CW e k hk;rw [h1] at hlk;have hl2:=congrArg List.length hlk;simp only [if_true,m4,if_false,length_append,length_cons,length_nil] at hl2;refine go 4 ?_;refine aC J (bX bV bf e.args fw fR k J J J J Y V iR dl) (go 1 ?_);refine aW J (sB 0 J call182 J (ih bs v _ _ hG) co fy λw12=>?_);refine go 5 ?_;exact ⟨.inr J,_,⟨_,⟨w12,_,_,_,_⟩::rw⟩,bJ J (bO J),ah (.refl _) (.refl _),⟨w12,J,(by rw [show (bs++cA e.args[k])=bs++lR e k by rw [CW e k hk,h1];simp only [if_true,m4,if_false,append_assoc]])⟩⟩
def TC:∀j,j<18 -> (lG ((j:Nat):Int)).length <= 2:=V
def Uo(e:aS)(bs:List UInt8)(v:aN)(bx:List aV)(rw:List aQ)(hsh:dy e=true)(hN:e.nodes <= 1000000000)(hs:fit e.num)(hb:bs.length+(cA e).length <= 100000000000000)(ih:∀k (h:k<e.args.length) (bs:List UInt8) (v:aN) (bx:List aV) (rw:List aQ),bs.length+(cA e.args[k]).length <= 100000000000000 -> aT prog 182 [cL (ap v),.agg (bf e.args[k])] (aR v) ⟨bx,⟨v,5,1,bs.length,cb bs⟩::rw⟩ λt s'=>∃v',t=ap v' /\ s'=⟨bx,⟨v',5,1,(bs++cA e.args[k]).length,cb (bs++cA e.args[k])⟩::rw⟩):aT prog 182 [cL (ap v),.agg (bf e)] (aR v) ⟨bx,⟨v,5,1,bs.length,cb bs⟩::rw⟩ λt s'=>∃v',t=ap v' /\ s'=⟨bx,⟨v',5,1,(bs++cA e).length,cb (bs++cA e)⟩::rw⟩:=by
 obtain ⟨hf1,hf2⟩:=hs;have hlen:=si e;refine bM 45 func182 ?_;refine Wr 0 1 J J ?_;refine go 8 λb1=>?_;refine aC J (O9 (vs:=[.pointer (some ⟨b1,0,none⟩)]) J J) (go 7 ?_);have hin:=(mK hsh).1;have hkd:=Ge hsh;obtain ⟨j,hj⟩:∃j:Nat,e.op=j:=⟨e.op.toNat,Y⟩;have aL6:j<mB.length:=by show j<18;omega
 have hsg:mB[j]=bytes (lG e.op):=by rw [hj];exact V6 j aL6
 have hpl:=TC j aL6;rw [←hj] at hpl;refine aC J (Tr 1 j J J J hj aL6 J runUnderlying257 iG) ?_;refine aC J (cP (fj hsg) (kh J J rl iG J)) (go 20 ?_);by_cases h1:(e.args.length:Int)=2
 ·refine aJ J (bR h1) (go 11 ?_);have htx:=congrArg List.length (KF hsh Y);simp only [length_append,length_cons,length_nil] at htx;refine go 2 ?_;refine aW J (G_ (us:=[ab 0]) (cap:=#[.pointer (some ⟨b1,0,none⟩)]) 1 J call195 J (Eg e 0 bs v _ _ _ Y hsh hG (ih 0 Y)) co fy λw2=>?_);refine go 5 ?_;refine aC J (ee [32] (lG e.op) J J J J J) ?_;refine aC J (ee ([32]++(lG e.op)) [32] J J J J J) (go 6 ?_);refine bu [b1] (aU [0,1,2,4,5,6] 4 (go 7 ?_));refine aZ 7 J (jz ((1:Nat):Int)) ?_;refine aY 3 J J (AL [] Tryz.t5 (z:=bytes (([32]++(lG e.op))++[32])) J J V J J ky dz aL J J J Ql Py (@length_append _ (bs++lR e 0) (([32]++(lG e.op))++[32])).symm J (λhn b hb=>gi hn hb) co (pn (bs++lR e 0) (([32]++(lG e.op))++[32])) λw3=>?_);refine aY 8 J J (G_ (us:=[ab 1]) (cap:=#[.pointer (some ⟨b1,0,none⟩)]) 1 J call195 J (Eg e 1 ((bs++lR e 0)++(([32]++(lG e.op))++[32])) w3 _ _ _ Y hsh hG (ih 1 Y)) co (λhn b hb=>gi hn hb) λw4=>?_);refine aU [9] 0 (go 2 ?_);refine bC (go 5 ?_);exact ⟨.inr J,_,⟨bx,⟨w4,_,_,_,_⟩::rw⟩,bJ J (bO J),ah bG (.refl _),⟨w4,J,(by rw [show (((bs++lR e 0)++(([32]++(lG e.op))++[32]))++lR e 1)=bs++cA e by rw [KF hsh Y];simp only [append_assoc]])⟩⟩
 refine aF J (bN h1) (go 8 ?_);by_cases h4:(e.args.length:Int)=1
 ·refine aJ J (bR h4) (go 12 ?_);refine bu [b1] ?_;have htx:=congrArg List.length (OG hsh Y);simp only [length_append,length_cons,length_nil] at htx;refine aU [0,1,2,4,5,6] 4 (go 7 ?_);refine aZ 7 J (jz ((0:Nat):Int)) ?_;refine aY 3 J J (AL [] Tryz.t5 (z:=bytes (lG e.op)) J J V J J ky dz aL J J J Ql Py (@length_append _ bs (lG e.op)).symm J (λhn b hb=>gi hn hb) co (pn bs (lG e.op)) λw5=>?_);refine aY 8 J J (G_ (us:=[ab 0]) (cap:=#[.pointer (some ⟨b1,0,none⟩)]) 1 J call195 J (Eg e 0 (bs++(lG e.op)) w5 _ _ _ Y hsh hG (ih 0 Y)) co (λhn b hb=>gi hn hb) λw6=>?_);refine aU [9] 0 (go 2 ?_);refine bC (go 5 ?_);exact ⟨.inr J,_,⟨bx,⟨w6,_,_,_,_⟩::rw⟩,bJ J (bO J),ah bG (.refl _),⟨w6,J,(by rw [show ((bs++(lG e.op))++lR e 0)=bs++cA e by rw [OG hsh Y];simp only [append_assoc]])⟩⟩
 refine aF J (bN h4) (go 18 ?_);by_cases h7:e.op=2
 ·refine aJ J (bR h7) (go 5 ?_);have htx:=congrArg List.length (OU (e:=e) Y);refine go 3 ?_;refine aW J (AL [] Tryz.t5 (z:=e.name) J J V J J ky dz aL J J J (by unfold maxLen;show bs.length+e.name.data.toList.length <= _;omega) (by show bs.length+e.name.data.toList.length <= _;omega) (@length_append _ bs e.name.data.toList).symm J fy co (pn bs e.name.data.toList) λw7=>?_);refine go 5 ?_;exact ⟨.inr J,_,⟨bx,⟨w7,_,_,_,_⟩::rw⟩,bJ J (bO J),ah bG (.refl _),⟨w7,J,(by rw [show (bs++e.name.data.toList)=bs++cA e by rw [OU Y]])⟩⟩
 refine aF J (bN h7) (go 7 ?_);obtain ⟨htn,hn0⟩:=ZJ (e:=e) Y hsh;have htx:=congrArg List.length htn;have rx:e.num=(e.num.toNat:Int):=Y;refine go 2 ?_;refine aC J (cP (b_ rx) (cW [] isAgg3 lK)) ?_;refine aW J (sB 1 J call196 J (ZU e.num.toNat bs v _ _ Y Y) co fy λw8=>?_);refine go 4 ?_;exact ⟨.inr J,_,⟨bx,⟨w8,_,_,_,_⟩::rw⟩,bJ J (bO J),ah bG (.refl _),⟨w8,J,(by rw [show (bs++dH e.num.toNat)=bs++cA e by rw [htn]])⟩⟩
def U1{e:aS}(h:e.bt):fit e.num:=by cases e;rw [aS.bt] at h;exact h.1
def OV:∀(N:Nat)(e:aS),e.nodes <= N -> N <= 1000000000 -> dy e=true -> e.bt -> ∀(bs:List UInt8)(v:aN)(bx:List aV)(rw:List aQ),bs.length+(cA e).length <= 100000000000000 -> aT prog 182 [cL (ap v),.agg (bf e)] (aR v) ⟨bx,⟨v,5,1,bs.length,cb bs⟩::rw⟩ λt s'=>∃v',t=ap v' /\ s'=⟨bx,⟨v',5,1,(bs++cA e).length,cb (bs++cA e)⟩::rw⟩
 |0,e,h,_,_,_,_,_,_,_,_=>rW
 |N+1,e,h,hN,hsh,hs,bs,v,bx,rw,hb=>Uo e bs v bx rw hsh Y (U1 hs) hb (λk hk bs v bx rw hb=>OV N e.args[k] rP Y ((mK hsh).2 k hk) (qN _ (Gz hs).2 _ (getElem_mem _)) bs v bx rw hb)
def Di(e:aS):List UInt8:=if fI e then cA e else []
def Un{e:aS}(h:fI e=true):dy e=true:=by unfold fI at h;rw [dm] at h;exact h.1
def Xl(e:aS)(hN:e.nodes <= 1000000000)(hs:e.bt)(hL:fI e=true -> (cA e).length <= 100000000000000)(s:aH):aT prog 161 [cL (.agg (bf e))] [] s λt s'=>t=cK (bytes (Di e)) /\ s'=s:=by
 obtain ⟨bx,rw⟩:=s;refine bM 9 func161 ?_;refine go 10 λb1=>?_;rcases bz (fI e) with h1|h1
 ·refine d9 0 J call151 J (zU e hN hs _) h1 (go 8 ?_);have hv:fI e=true:=h1;have hsh:=Un hv;have htl:=hL hv;refine wP 5 1 ?_;refine go 1 ?_;refine aW J (sB 0 J call182 J (OV _ e (bY _) Y hsh hs [] _ _ _ (by simp only [length_nil];omega)) qd (λ_ b hb=>I8) λw2=>?_);refine io 7 J ?_;refine aC J (cP (fj (by rw [ck])) (li J J J)) (go 4 ?_);exact bF bx rw J cU ⟨mc (by unfold Di;rw [if_pos hv]),J⟩
 refine d9 0 J call151 J (zU e hN hs _) h1 (go 11 ?_);exact bF bx rw J cU ⟨mc (by unfold Di;rw [if_neg (by rw [h1];decide)];rfl),J⟩
end
end Go.Proofs.YtckelpefchdenaaGreatDoor
