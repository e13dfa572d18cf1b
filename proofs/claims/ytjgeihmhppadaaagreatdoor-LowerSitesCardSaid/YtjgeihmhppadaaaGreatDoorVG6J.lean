import Derived.Test.YtjgeihmhppadaaaGreatDoorVG5J
set_option linter.all false
set_option synthInstance.maxHeartbeats 1000000
set_option synthInstance.maxSize 1000000
set_option maxHeartbeats 6400000
set_option maxRecDepth 100000
namespace Go.Proofs.YtjgeihmhppadaaaGreatDoor
open Go.Proofs.Tryz
open List (length_append length_cons length_nil mem_append mem_cons not_mem_nil append_assoc getElem_mem take_of_length_le)
section
open Go.RowKit
section
variable {α:Type}{enc:α -> List aO}{z:Nat}(hz:∀x,(enc x).length=z){fs:List α}{k:Nat}(hk:k<fs.length)
include hz hk
theorem Nt:fs.flatMap enc=(fs.take k).flatMap enc++(enc fs[k]++(fs.drop (k+1)).flatMap enc) /\ ((fs.take k).flatMap enc).length=k*z:=by
 refine ⟨?_,?_⟩
 ·conv=>lhs;rw [←pT k fs,ic hk]
  rw [dj,ec]
 rw [dD enc z hz,ke,ss Y]
theorem SB:fg true z (fs.flatMap enc) (0+k*z)=some (.agg (enc fs[k])):=by
 obtain ⟨h1,h2⟩:=Nt hz hk;unfold fg;rw [if_pos rfl,h1,cp,tX h2,rY (hz _),if_pos (by rw [length_append,length_append,h2,hz];omega)]
theorem Vm(i:Nat)(x:aO)(hx:(enc fs[k])[i]?=some x):fg false 1 (fs.flatMap enc) (0+k*z+i)=some (.c x):=by
 obtain ⟨h1,h2⟩:=Nt hz hk;have hi:i<(enc fs[k]).length:=(m6.1 hx).1;unfold fg;rw [if_neg V,h1,cp,pZ Y,h2,vI,rJ hi,hx];rfl
end
def E8(v:aN)(l:List bS)(s:aH)(n:Nat)(hn:n=l.length)(hN:n <= 1000000000)(bx:List aV)(rw:List aP):aU prog 40 [av v,cK s] [] ⟨bx,⟨v,111,3,n,l.flatMap bW⟩::rw⟩ λt s'=>t=.fd [.agg (bW (bQ l s)),bC ((bM l s).isSome)] /\ s'=⟨bx,⟨v,111,3,n,l.flatMap bW⟩::rw⟩:=by
 subst hn;unfold bQ;refine bR 25 func40 ?_;refine go 13 λb1=>?_;refine jr (λk=>bM (l.drop k) s=bM l s) (l.length) 6 (λk=>[(0,av v),(1,cK s),(4,aF b1)]) J (ax J) λk hk hvk=>?_;replace hvk:bM (l.drop k) s=bM l s:=hvk
 try dsimp only
 refine go 5 ?_;refine aD J (lT [] J J J wu) ?_;by_cases h1:(k:Int)<(l.length:Int)
 ·refine aI J (c_ h1) (go 8 ?_);refine sb [] Y λg cap hg=>?_;subst hg;refine go 3 ?_;refine aD J (ey (z:=3) k J J J J Y wu lw) ?_;refine aD J (id <|jO 0 (0+k*3+0) A4 iK) ?_;refine aD J (kc [] rH iK (Vm nY (Y:k<l.length) 0 _ J)) (go 1 ?_);by_cases h3:l[k].name=s
  ·refine aD J (fc true J J J (pF h3)) (go 7 ?_);refine aD J (ey (z:=3) k J J J J Y wu lw) ?_;refine aD J (kc [] qd lw (SB nY (Y:k<l.length))) (go 10 ?_);exact ⟨.inr J,_,⟨bx,⟨(.slice (some ⟨g,0,none⟩) l.length cap),111,3,l.length,l.flatMap bW⟩::rw⟩,iu J (bu [] J J qd lw (cH J J)) (bN J),ai bI (.refl _),by rw [Km Y h3 hvk];rfl,J⟩
  refine aD J (fc false J J J (od h3)) (go 8 ?_);refine bP J (go 2 ?_);exact ⟨Y,(K7 Y h3 hvk),(ay J (cD Y) (ax J))⟩
 refine aG J (cv h1) (go 16 ?_);exact ⟨.inr J,_,⟨bx,⟨v,111,3,l.length,l.flatMap bW⟩::rw⟩,iu J (bu [] J J qd lw (cH J J)) (bN J),ai bI (.refl _),Kz,J⟩
def zJ(p:aY):(bd p).length=p.globals.length+p.mutexes.length+p.funcs.length:=by unfold bd;simp;omega
def W1(p:aY)(k:Nat)(h:k<p.globals.length):(bd p)[k]?=some ⟨p.globals[k].name,1,k⟩:=by
 unfold bd;rw [rJ i_,Ih,k_ h];rfl
def WV(p:aY)(k j:Nat)(hj:k=p.globals.length+j)(h:j<p.mutexes.length):(bd p)[k]?=some ⟨p.mutexes[j].name,2,j⟩:=by
 unfold bd;rw [pZ dh,rJ dh,Ih,Hq,show k-p.globals.length=j by omega,k_ h];rfl
def Tv(p:aY)(k j:Nat)(hj:k=p.globals.length+p.mutexes.length+j)(h:j<p.funcs.length):(bd p)[k]?=some ⟨p.funcs[j].name,3,j⟩:=by
 unfold bd;rw [pZ dh,pZ dh,Ih,Hq,Hq,show k-p.globals.length-p.mutexes.length=j by omega,k_ h];rfl
def n_(l:List bS)(k:Nat)(b:Int):Prop:=(b=-1 /\ jg (l.take k) (l.drop k)=jg [] l)∨∃i:Nat,b=(i:Int) /\ jg [] l=some i
def n_.yes{l:List bS}{k:Nat}{b:Int}{e:bS}(h:n_ l k b)(he:l[k]?=some e)(hb:b<0)(hf:(bM (l.take k) e.name).isSome=true):n_ l (k+1) (k:Int):=by
 rcases h with ⟨-,h⟩|⟨i,rfl,-⟩
 ·obtain ⟨hk,rfl⟩:=m6.1 he;rw [ic hk,jg,if_pos hf,ke,ss Y] at h;exact .inr ⟨k,J,h.symm⟩
 omega
def n_.old{l:List bS}{k:Nat}{b:Int}(h:n_ l k b)(hb:¬b<0):n_ l (k+1) b:=by
 rcases h with ⟨rfl,-⟩|h
 ·omega
 exact .inr h
def n_.no{l:List bS}{k:Nat}{b:Int}{e:bS}(h:n_ l k b)(he:l[k]?=some e)(hf:(bM (l.take k) e.name).isSome=false):n_ l (k+1) b:=by
 rcases h with ⟨hb,h⟩|h
 ·obtain ⟨hk,rfl⟩:=m6.1 he;rw [ic hk,jg,if_neg (by rw [hf];decide)] at h;exact .inl ⟨hb,by rw [gz hk];exact h⟩
 exact .inr h
def EW{α:Type}{l:List α}{k:Nat}{e:α}(enc:α -> List aO)(he:l[k]?=some e):(l.take k).flatMap enc++[e].flatMap enc=(l.take (k+1)).flatMap enc:=by
 obtain ⟨hk,rfl⟩:=m6.1 he;rw [gz hk,dj]
def Ph(p:aY)(hN:p.globals.length+p.mutexes.length+p.funcs.length <= 100000000)(bx:List aV)(rw:List aP):aU prog 39 [.agg (dl p)] [] ⟨bx,rw⟩ λt s'=>∃(v:aN) (b:Int),t=.fd [av v,an b] /\ n_ (bd p) (bd p).length b /\ s'=⟨bx,⟨v,111,3,(bd p).length,(bd p).flatMap bW⟩::rw⟩:=by
 refine bR 94 func39 ?_;refine go 25 λb1=>?_;refine bP J (go 3 ?_);refine bP J (go 10 ?_);have hall:=zJ p;refine f_ 111 3 ?_;refine f9 (λg:Nat×aN×Int=>(⟨94,aR g.2.1++[b1],⟨⟨b1,27,dl p⟩::bx,⟨g.2.1,111,3,g.1,((bd p).take g.1).flatMap bW⟩::rw⟩,(7,ae g.1)::[(4,av g.2.1),(5,an g.2.2),(6,an (((bd p).length:Nat):Int)),(1,aF b1)]⟩:AS)) (λg=>g.1 <= (bd p).length /\ n_ (bd p) g.1 g.2.2) (λg=>(bd p).length-g.1) (0,.slice none 0 0,-1) (bD (h:=ay J (.refl _) (ay J (.refl _) (ay J (.refl _) (ay J (cD Y) (ax J))))) uE) ⟨eT _,.inl ⟨J,J⟩⟩ ?_;rintro ⟨k,v,bad⟩ ⟨hk,hbad⟩;dsimp only at hk hbad
 try dsimp only
 refine go 5 ?_;by_cases h1:(k:Int)<(((bd p).length:Nat):Int)
 ·refine aI J (c_ h1) (go 8 ?_);obtain ⟨e,he⟩:∃e,(bd p)[k]?=some e:=⟨_,k_ (Y:k<(bd p).length)⟩;refine go 6 λb2=>?_;refine tT (λ_:Unit=>(⟨94,aR v++[b2,b1],⟨⟨b2,111,bW e⟩::⟨b1,27,dl p⟩::bx,⟨v,111,3,k,((bd p).take k).flatMap bW⟩::rw⟩,[(1,aF b1),(4,av v),(5,an bad),(6,an (((bd p).length:Nat):Int)),(7,ae k),(8,aF b2)]⟩:AS)) ?_ ?_
  ·refine go 6 ?_;refine aD J (jh) (go 7 ?_);by_cases h3:((k:Int)-(p.globals.length:Int))<0;focus
    refine aI J (c_ h3) (go 8 ?_);refine aD J (bf am am p.globals oU (λ_=>J) k J J J J Y V mt jX) (go 7 ?_);have hE:=mT (he.symm.trans (W1 p k Y))
   rotate_left;focus
    refine aG J (cv h3) (go 6 ?_);refine ct 9 J (t:=ae (k-p.globals.length)) (cD Y) (go 4 ?_);by_cases h6:(((k-p.globals.length):Nat):Int)<(p.mutexes.length:Int);focus
     refine aI J (c_ h6) (go 8 ?_);refine aD J (bf aT aT p.mutexes pD (λ_=>J) (k-p.globals.length) J J J J Y V mS gq) (go 7 ?_);have hE:=mT (he.symm.trans (WV p k (k-p.globals.length) Y Y))
    rotate_left;refine aG J (cv h6) (go 4 ?_);refine cB [b1] (aa [0,1,2,3,4,5] 11 (go 7 ?_));refine ac 6 J (jh) ?_;refine wK 40 J (t:=ae (k-p.globals.length-p.mutexes.length)) (cD Y) ?_;refine ac 7 J (bf aZ aZ p.funcs mH (λ_=>J) (k-p.globals.length-p.mutexes.length) J J J J Y V fU dn) (aa [8,9,10,11,12,13] 3 (go 7 ?_));refine ac 14 J (jh) ?_;refine wK 48 J (t:=ae (k-p.globals.length-p.mutexes.length)) (cD Y) ?_;refine cY [(15,true),(16,false)] 0 (go 3 ?_);refine bH (go 1 ?_);have hE:=mT (he.symm.trans (Tv p k (k-p.globals.length-p.mutexes.length) Y Y))
   all_goals
    exact ⟨(),by rw [hE];exact bD lB⟩
  rintro ⟨⟩
  try dsimp only
  refine go 6 ?_;refine cc J pv J (E8 v ((bd p).take k) e.name _ (by first|rfl|(rw [ke];omega)) Y _ _) ?_;rintro _ _ ⟨rfl,rfl⟩;refine go 11 λb3=>?_;rcases bw ((bM ((bd p).take k) e.name).isSome) with h9|h9
  ·refine aD J (cP (bJ h9) (ot J J)) (go 1 ?_);by_cases h10:bad<0
   ·refine aI J (c_ h10) (go 12 ?_);refine aX J (bV (hf:=dc bW bW e J J J) sA ?_);refine aX J (dQ [] xm J (dD bW 3 nY _) V cN Y (N:=k+1) J Ew cE.h (EW bW he) λw4=>?_);refine go 6 ?_;refine bP J (go 2 ?_);exact ⟨(k+1,w4,(k:Int)),⟨AB,hbad.yes he Y h9⟩,Fj,bD (h1:=cq) (h:=ay J (cD Y) (ax J)) lB⟩
   refine aG J (cv h10) (go 9 ?_);refine aX J (bV (hf:=dc bW bW e J J J) sA ?_);refine aX J (dQ [] xm J (dD bW 3 nY _) V cN Y (N:=k+1) J Ew cE.h (EW bW he) λw5=>?_);refine go 6 ?_;refine bP J (go 2 ?_);exact ⟨(k+1,w5,bad),⟨AB,hbad.old Y⟩,Fj,bD (h1:=cq) (h:=ay J (cD Y) (ax J)) lB⟩
  refine aD J (cP (bJ h9) (ot J J)) (go 11 ?_);refine aX J (bV (hf:=dc bW bW e J J J) sA ?_);refine aX J (dQ [] xm J (dD bW 3 nY _) V cN Y (N:=k+1) J Ew cE.h (EW bW he) λw6=>?_);refine go 6 ?_;refine bP J (go 2 ?_);exact ⟨(k+1,w6,bad),⟨AB,hbad.no he h9⟩,Fj,bD (h1:=cq) (h:=ay J (cD Y) (ax J)) lB⟩
 refine aG J (cv h1) (go 17 ?_);obtain rfl:k=(bd p).length:=Y;rw [hG];refine ⟨.inr J,_,⟨bx,⟨v,111,3,(bd p).length,(bd p).flatMap bW⟩::rw⟩,iu J (bN J) (bN J),ai bI (.refl _),_,bad,J,hbad,J⟩
end
section
open Go.RowKit
def YC{P:Program}{f:ResultVar -> Sem aN}{r1 r2 r3 r4:ResultVar}{v1 v2 v3 v4:aN}{w:ab}(aj:(f r1).run P w=.ok v1 w)(e2:(f r2).run P w=.ok v2 w)(e3:(f r3).run P w=.ok v3 w)(e4:(f r4).run P w=.ok v4 w):(#[r1,r2,r3,r4].mapM f).run P w=.ok #[v1,v2,v3,v4] w:=by
 simp [dI,aj,e2,e3,e4]
def Wm{w:ab}{r1 r2 r3 r4:AT}{v1 v2 v3 v4:aN}(h1:cU w r1 v1)(h2:cU w r2 v2)(h3:cU w r3 v3)(h4:cU w r4 v4):cU w (.fd [r1,r2,r3,r4]) (.tuple #[v1,v2,v3,v4]):=
 .fd [r1,r2,r3,r4] [v1,v2,v3,v4] rfl λi h h'=>by rcases i with _|_|_|_|i;exact h1;exact h2;exact h3;exact h4;simp at h;omega
def qf{P:Program}{st:AS}{fn:Func}{rv1 rv2 rv3 rv4:ResultVar}{r1 r2 r3 r4:AT}(h:fn.results=#[rv1,rv2,rv3,rv4])(h1:ml P st rv1 r1)(h2:ml P st rv2 r2)(h3:ml P st rv3 r3)(h4:ml P st rv4 r4):oB P fn st (.fd [r1,r2,r3,r4]):=λa w hs=>by
 obtain ⟨v1,aj,f1⟩:=h1 a w hs;obtain ⟨v2,e2,f2⟩:=h2 a w hs;obtain ⟨v3,e3,f3⟩:=h3 a w hs;obtain ⟨v4,e4,f4⟩:=h4 a w hs;refine ⟨_,Wm aj e2 e3 e4,?_⟩;unfold results;rw [h,dI]
 erw [YC f1 f2 f3 f4]
 simp [go_sem]
def gV(x:wV):List aO:=[ah x.name,ap x.ints,ap x.aH5,ap x.locals,aB encI x.code]
def B3(x:wV):(gV x).length=5:=rfl
def l_(p:aY)(f:bB):List Int:=match iA f.params (bd p) 0 0 with
 |none=>[]
 |some (l,i,_)=>(oL p f l i).sites
def Bb{P:Program}{c:Code}{n:Nat}{T:List Nat}{ts:List (Nat×AT)}{Q:Exit -> AS -> Prop}{rw:List aP}{b:Nat}{E:bA}{cs cs':List aO}{v:aN}{E2:bA}{z k:Nat}{ds:List aO}(A:List aV){B:List aV}(i:Nat)(hi:cs[i]?=some (.val v))(hr:cs.set i (.sl k ds)=cs')(h:br P c ⟨n,T,⟨A++⟨b,E,cs'⟩::B,rw⟩,ts⟩ Q)(hz:0<z:=by decide):br P c ⟨n,T,⟨A++⟨b,E,cs⟩::B,⟨v,E2,z,k,ds⟩::rw⟩,ts⟩ Q:=by
 subst hr;exact rp (qx (st:=⟨n,T,⟨A++⟨b,E,cs⟩::B,⟨v,E2,z,k,ds⟩::rw⟩,ts⟩) (Ed (r:=⟨v,E2,z,k,ds⟩) A i hi hz)) h
def y2{ps:List bg}{l:List bS}{i m k:Nat}{R:Option (List bS×Nat×Nat)}(hk:k<ps.length)(h:iA (ps.drop k) l i m=R):
  ((bM l ps[k].name).isSome=true -> R=none) /\ ((bM l ps[k].name).isSome=false -> (ps[k].mutex=true -> iA (ps.drop (k+1)) (l++[⟨ps[k].name,5,m⟩]) i (m+1)=R) /\ (ps[k].mutex=false -> iA (ps.drop (k+1)) (l++[⟨ps[k].name,4,i⟩]) (i+1) m=R)):=by
 rw [ic hk,iA] at h;refine ⟨λh0=>?_,λh0=>⟨λhm=>?_,λhm=>?_⟩⟩
 ·rw [if_pos h0] at h;exact h.symm
 ·rw [if_neg (by rw [h0];decide),if_pos hm] at h;exact h
 rw [if_neg (by rw [h0];decide),if_neg (by rw [hm];decide)] at h;exact h
def Av(p:aY)(f:bB)(hok:pX p (bd p))(hl:(bd p).length <= 10000000)(hw:f.wt <= 20000000)(bx:List aV)(rw:List aP):aU prog 41 [.agg (dl p),.c (.sl (bd p).length ((bd p).flatMap bW)),.agg (aZ f)] [] ⟨bx,rw⟩ λt s'=>t=.fd [.agg (gV (ff p f)),.c (.sl (l_ p f).length ((l_ p f).map λx=>aA x)),an ((kC p f).2),an (((kC p f).1:Nat):Int)] /\ s'=⟨bx,rw⟩:=by
 unfold bB.wt at hw;refine bR 136 func41 ?_;refine go 11 λb1 b2 b3=>?_;refine cB [b3,b2,b1] (aa [0,2] 5 (go 3 ?_));refine aW 1 J J (fE q7 lw λg4=>?_);refine aW 3 J J (eU [] Tryz.t111 32 J J V J J q7 aQ J J J J V (dD bW 3 nY (bd p)) cN Y (cp (bd p).length) (λhn b hb=>cx (r:=(⟨(.slice (some ⟨g4,0,none⟩) 0 0),111,3,0,[]⟩:aP)) hn hb) cE.h (cg _) λw5=>?_);refine cY [(4,true),(5,false),(6,true)] 0 (go 4 λb6=>?_);refine bH (go 17 λb7=>?_);refine f9 (λg:Nat×aN×List bS×Nat×Nat=>(⟨136,aR g.2.1++[b7,b6,b3,b2,b1],⟨⟨b7,79,[ah f.name,ap g.2.2.2.1,ap g.2.2.2.2,aA 0,aK]⟩::⟨b6,165,[aB am p.globals,aB aT p.mutexes,aB aZ p.funcs,.val g.2.1,aA 0,aA 0,aA 0,aA 0,aK,aK]⟩::⟨b3,79,[ah a_,aA 0,aA 0,aA 0,aK]⟩::⟨b2,67,aZ f⟩::⟨b1,27,dl p⟩::bx,⟨g.2.1,111,3,g.2.2.1.length,g.2.2.1.flatMap bW⟩::rw⟩,(12,ae g.1)::[(1,.c (.sl (bd p).length ((bd p).flatMap bW))),(3,aF b1),(5,aF b2),(6,aF b3),(7,.c (aK)),(8,an 0),(9,an 0),(10,aF b6),(11,aF b7)]⟩:AS)) (λg=>g.1 <= f.params.length /\ iA (f.params.drop g.1) g.2.2.1 g.2.2.2.1 g.2.2.2.2=iA f.params (bd p) 0 0 /\ g.2.2.2.1+g.2.2.2.2=g.1 /\ g.2.2.1.length=(bd p).length+g.1 /\ pX p g.2.2.1) (λg=>f.params.length-g.1) (0,w5,bd p,0,0) (bD jU) ⟨eT _,J,J,J,hok⟩ ?_;rintro ⟨k,v,l,i,m⟩ ⟨hk,PJ,him,hll,hlo⟩;dsimp only at hk PJ him hll hlo
 try dsimp only
 refine go 7 ?_;by_cases h1:(k:Int)<(f.params.length:Int)
 ·refine aI J (c_ h1) (go 9 ?_);refine cB [b7,b6,b3,b2,b1] (aa [0,1,2,3,4,5,6] 10 (go 8 ?_));refine ac 7 J (bf cC cC f.params iU (λ_=>J) k J J J J Y V iO gj) (aa [8,9] 7 (go 3 ?_));refine cA 10 14 J ?_ ?_;focus
   refine (da J J V pv J (E8 v l f.params[k].name _ (by first|rfl|(rw [hll];omega)) Y _ _) ?_);rintro _ _ ⟨rfl,rfl⟩;refine cY [(11,true),(12,true),(13,true),(14,false),(15,false),(16,true)] 0 (go 7 λb11=>?_)
  rotate_left;refine (jm J J V yL J λb11=>?_);refine aW 10 J J (da J J V pv J (E8 v l f.params[k].name _ (by first|rfl|(rw [hll];omega)) Y _ _) ?_);rintro _ _ ⟨rfl,rfl⟩;refine cY [(11,true),(12,true),(13,true),(15,false),(16,true)] 0 (go 6 ?_);all_goals
   refine bH (go 6 ?_);refine im J (λh7=>?_) (λh7=>?_)
   ·refine go 16 ?_;have hpl:=(y2 Y PJ).1 h7;exact ⟨.inr J,_,⟨bx,rw⟩,qf J (gP (bL.agg (.r (.r (.r (.r (.n .nil)))))) (bu [_,_,_] J J isAgg79 uT (cH J J))) (gP (bL.c pu) (bN J)) (bN J) (bN J),ai (.cons _ zF) (zR _ _),by unfold ff l_ kC;rw [hpl];rfl,J⟩
   refine go 7 ?_;refine aD J (bf cC cC f.params iU (λ_=>J) k J J J J Y V iO gj) (go 1 ?_);rcases bw (f.params[k].mutex) with h8|h8
   ·refine aD J (cP (bJ h8) (ka J J dH dG J)) (go 4 ?_);refine cB [] ?_;refine yi 16 16 3 [b11,b7,b6,b3,b2,b1] [] #[false,false,false,false,false,false,false,false,false,false,false,false,false,false,false,false,false,false,false] #[false,false,false,false,false,false,false,false,false,false,false,false,false,false,false,false] #[true,true,true,true,true,true,true,true,true,true,true,true,true,true,true,true,false,false,false] J aQ aQ ?_;refine aa [0,1,2,3,4,5,6,7] 8 (go 9 ?_);refine ac 8 J (bf cC cC f.params iU (λ_=>J) k J J J J Y V iO gj) (aa [9,10,11,12,13] 2 (go 6 ?_));refine aW 14 J J (bV (hf:=dc bW bW (⟨f.params[k].name,5,m⟩:bS) J J J) sA ?_);refine aW 15 J J (dQ [] xm J (dD bW 3 nY _) V cN Y (@length_append _ l [(⟨f.params[k].name,5,m⟩:bS)]).symm (λhn b hb=>cx (r:=(⟨v,111,3,l.length,l.flatMap bW⟩:aP)) hn hb) cE.h (dj (f:=bW)).symm λw12=>?_);refine bH ?_;refine id ?_;refine cY [(16,true),(17,true),(18,false)] 0 (go 4 ?_);refine bH (go 4 ?_);refine bP J (go 1 ?_);refine ct 73 J (t:=ae (m+1)) (cD Y) (go 6 ?_);refine bP J (go 2 ?_);exact ⟨(k+1,w12,l++[⟨f.params[k].name,5,m⟩],i,m+1),⟨AB,((y2 Y PJ).2 h7).1 h8,pQ,BM,hlo.app (by show (5:Int)≠2;decide) Gu⟩,C',bD (h1:=bI) (h:=ay J (cD Y) (ax J)) lB⟩
   refine aD J (cP (bJ h8) (ka J J dH dG J)) (go 4 ?_);refine cB [] ?_;refine yi 16 16 3 [b11,b7,b6,b3,b2,b1] [] #[false,false,false,false,false,false,false,false,false,false,false,false,false,false,false,false,false,false,false] #[false,false,false,false,false,false,false,false,false,false,false,false,false,false,false,false] #[true,true,true,true,true,true,true,true,true,true,true,true,true,true,true,true,false,false,false] J aQ aQ ?_;refine aa [0,1,2,3,4,5,6,7] 8 (go 9 ?_);refine ac 8 J (bf cC cC f.params iU (λ_=>J) k J J J J Y V iO gj) (aa [9,10,11,12,13] 2 (go 6 ?_));refine aW 14 J J (bV (hf:=dc bW bW (⟨f.params[k].name,4,i⟩:bS) J J J) sA ?_);refine aW 15 J J (dQ [] xm J (dD bW 3 nY _) V cN Y (@length_append _ l [(⟨f.params[k].name,4,i⟩:bS)]).symm (λhn b hb=>cx (r:=(⟨v,111,3,l.length,l.flatMap bW⟩:aP)) hn hb) cE.h (dj (f:=bW)).symm λw13=>?_);refine bH ?_;refine id ?_;refine cY [(16,true),(17,true),(18,false)] 0 (go 4 ?_);refine bH (go 4 ?_);refine bP J (go 1 ?_);refine ct 95 J (t:=ae (i+1)) (cD Y) (go 6 ?_);refine bP J (go 2 ?_);exact ⟨(k+1,w13,l++[⟨f.params[k].name,4,i⟩],i+1,m),⟨AB,((y2 Y PJ).2 h7).2 h8,pQ,BM,hlo.app GW ze⟩,C',bD (h1:=bI) (h:=ay J (cD Y) (ax J)) lB⟩
 refine aG J (cv h1) (go 20 ?_);obtain rfl:k=f.params.length:=Y;have hpl:iA f.params (bd p) 0 0=some (l,i,m):=by rw [←PJ,mi (bX _),iA]
 refine eD (cs':=[aB am p.globals,aB aT p.mutexes,aB aZ p.funcs,aB bW l,ap i,aA 0,aA 0,aA 0,aK,aK]) [_] 3 J J ?_;show cO prog _ _ ⟨_,_,⟨⟨b7,79,[ah f.name,ap i,ap m,aA 0,aK]⟩::⟨b6,165,[aB am p.globals,aB aT p.mutexes,aB aZ p.funcs,aB bW l,ap i,aA 0,aA 0,aA 0,aK,aK]⟩::⟨b3,79,[ah a_,aA 0,aA 0,aA 0,aK]⟩::⟨b2,67,aZ f⟩::⟨b1,27,dl p⟩::bx,rw⟩,_⟩ _;refine vk 3 1 ?_;refine vk 92 12 ?_;show cO prog _ _ ⟨_,_,⟨⟨b7,79,[ah f.name,ap i,ap m,aA 0,aK]⟩::⟨b6,165,[aB am p.globals,aB aT p.mutexes,aB aZ p.funcs,.sl (ak.init l i).aq.length ((ak.init l i).aq.flatMap bW),aA (((ak.init l i).locals:Nat):Int),aA (((ak.init l i).n:Nat):Int),aA ((ak.init l i).q.2),aA (((ak.init l i).q.1:Nat):Int),aK,aK]⟩::⟨b3,79,[ah a_,aA 0,aA 0,aA 0,aK]⟩::⟨b2,67,aZ f⟩::⟨b1,27,dl p⟩::bx,⟨(.slice none 0 0),92,12,(ak.init l i).code.length,(ak.init l i).code.flatMap encI⟩::⟨(.slice none 0 0),3,1,(ak.init l i).sites.length,(ak.init l i).sites.map λx=>aA x⟩::rw⟩,_⟩ _;have hlk:du p (ak.init l i) (au f.body+1):=⟨hlo,Bu,J,Bu,by show i+_ <= _;omega,by show l.length+_ <= _;omega⟩;have hbk:=x9 p f.body (ak.init l i) 1 hlk;refine go 3 ?_;refine aX J (iT J J V call75 J (IY _ f.body (bX _) [_] _ b6 p (ak.init l i) (.slice none 0 0) (.slice none 0 0) _ (hlk.mono Y)) aL qe qe (λ_=>⟨aL,qe,qe⟩) λaOj aOk=>?_);show cO prog _ _ ⟨_,_,⟨⟨b7,79,[ah f.name,ap i,ap m,aA 0,aK]⟩::⟨b6,165,[aB am p.globals,aB aT p.mutexes,aB aZ p.funcs,.sl (aM p f.body (ak.init l i)).aq.length ((aM p f.body (ak.init l i)).aq.flatMap bW),aA (((aM p f.body (ak.init l i)).locals:Nat):Int),aA (((aM p f.body (ak.init l i)).n:Nat):Int),aA ((aM p f.body (ak.init l i)).q.2),aA (((aM p f.body (ak.init l i)).q.1:Nat):Int),.val aOj,.val aOk]⟩::⟨b3,79,[ah a_,aA 0,aA 0,aA 0,aK]⟩::⟨b2,67,aZ f⟩::⟨b1,27,dl p⟩::bx,_⟩,_⟩ _;refine go 10 ?_;refine ct 107 J ((bL.agg (.r (.r (.r (.r (.r (.r (.n (.r (.r (.n (.n (.n .nil))))))))))))):bL _ (.agg (encI (bh 8 .zero)))) ?_;refine aX J (iT J J V ov J (ol [_] _ b6 p (aM p f.body (ak.init l i)) aOj aOk _ (bh 8 .zero) (aM p f.body (ak.init l i)).n (by have:=hbk.code;omega) hbk.sites) aL cE.h cE.h iY λaHe aI1=>?_)
 show cO prog _ _ ⟨_,_,⟨⟨b7,79,[ah f.name,ap i,ap m,aA 0,aK]⟩::⟨b6,165,[aB am p.globals,aB aT p.mutexes,aB aZ p.funcs,.sl ((aM p f.body (ak.init l i)).put (bh 8 .zero) (aM p f.body (ak.init l i)).n).aq.length (((aM p f.body (ak.init l i)).put (bh 8 .zero) (aM p f.body (ak.init l i)).n).aq.flatMap bW),aA ((((aM p f.body (ak.init l i)).put (bh 8 .zero) (aM p f.body (ak.init l i)).n).locals:Nat):Int),aA ((((aM p f.body (ak.init l i)).put (bh 8 .zero) (aM p f.body (ak.init l i)).n).n:Nat):Int),aA (((aM p f.body (ak.init l i)).put (bh 8 .zero) (aM p f.body (ak.init l i)).n).q.2),aA ((((aM p f.body (ak.init l i)).put (bh 8 .zero) (aM p f.body (ak.init l i)).n).q.1:Nat):Int),.val aHe,.val aI1]⟩::⟨b3,79,[ah a_,aA 0,aA 0,aA 0,aK]⟩::⟨b2,67,aZ f⟩::⟨b1,27,dl p⟩::bx,_⟩,_⟩ _;refine go 3 ?_;refine cB [b6,b3,b2,b1] (cY [(0,true),(1,true),(2,true),(3,true),(4,true),(5,true),(6,true),(7,true),(8,true),(9,false),(10,true),(11,false)] 0 (go 13 ?_));refine bH (go 2 ?_);refine Bb (cs':=[ah f.name,ap i,ap m,aA ((((aM p f.body (ak.init l i)).put (bh 8 .zero) (aM p f.body (ak.init l i)).n).locals:Nat):Int),.sl ((aM p f.body (ak.init l i)).put (bh 8 .zero) (aM p f.body (ak.init l i)).n).code.length (((aM p f.body (ak.init l i)).put (bh 8 .zero) (aM p f.body (ak.init l i)).n).code.flatMap encI)]) [] 4 J J ?_;show br prog _ ⟨_,_,⟨⟨b7,79,[ah f.name,ap i,ap m,aA ((((aM p f.body (ak.init l i)).put (bh 8 .zero) (aM p f.body (ak.init l i)).n).locals:Nat):Int),.sl ((aM p f.body (ak.init l i)).put (bh 8 .zero) (aM p f.body (ak.init l i)).n).code.length (((aM p f.body (ak.init l i)).put (bh 8 .zero) (aM p f.body (ak.init l i)).n).code.flatMap encI)]⟩::⟨b6,165,[aB am p.globals,aB aT p.mutexes,aB aZ p.funcs,.sl ((aM p f.body (ak.init l i)).put (bh 8 .zero) (aM p f.body (ak.init l i)).n).aq.length (((aM p f.body (ak.init l i)).put (bh 8 .zero) (aM p f.body (ak.init l i)).n).aq.flatMap bW),aA ((((aM p f.body (ak.init l i)).put (bh 8 .zero) (aM p f.body (ak.init l i)).n).locals:Nat):Int),aA ((((aM p f.body (ak.init l i)).put (bh 8 .zero) (aM p f.body (ak.init l i)).n).n:Nat):Int),aA (((aM p f.body (ak.init l i)).put (bh 8 .zero) (aM p f.body (ak.init l i)).n).q.2),aA ((((aM p f.body (ak.init l i)).put (bh 8 .zero) (aM p f.body (ak.init l i)).n).q.1:Nat):Int),.val aHe,.val aI1]⟩::⟨b3,79,[ah a_,aA 0,aA 0,aA 0,aK]⟩::⟨b2,67,aZ f⟩::⟨b1,27,dl p⟩::bx,_⟩,_⟩ _
 refine Bb (cs':=[aB am p.globals,aB aT p.mutexes,aB aZ p.funcs,.sl ((aM p f.body (ak.init l i)).put (bh 8 .zero) (aM p f.body (ak.init l i)).n).aq.length (((aM p f.body (ak.init l i)).put (bh 8 .zero) (aM p f.body (ak.init l i)).n).aq.flatMap bW),aA ((((aM p f.body (ak.init l i)).put (bh 8 .zero) (aM p f.body (ak.init l i)).n).locals:Nat):Int),aA ((((aM p f.body (ak.init l i)).put (bh 8 .zero) (aM p f.body (ak.init l i)).n).n:Nat):Int),aA (((aM p f.body (ak.init l i)).put (bh 8 .zero) (aM p f.body (ak.init l i)).n).q.2),aA ((((aM p f.body (ak.init l i)).put (bh 8 .zero) (aM p f.body (ak.init l i)).n).q.1:Nat):Int),.val aHe,.sl ((aM p f.body (ak.init l i)).put (bh 8 .zero) (aM p f.body (ak.init l i)).n).sites.length (((aM p f.body (ak.init l i)).put (bh 8 .zero) (aM p f.body (ak.init l i)).n).sites.map λx=>aA x)]) [_] 9 J J ?_;show br prog _ ⟨_,_,⟨⟨b7,79,[ah f.name,ap i,ap m,aA ((((aM p f.body (ak.init l i)).put (bh 8 .zero) (aM p f.body (ak.init l i)).n).locals:Nat):Int),.sl ((aM p f.body (ak.init l i)).put (bh 8 .zero) (aM p f.body (ak.init l i)).n).code.length (((aM p f.body (ak.init l i)).put (bh 8 .zero) (aM p f.body (ak.init l i)).n).code.flatMap encI)]⟩::⟨b6,165,[aB am p.globals,aB aT p.mutexes,aB aZ p.funcs,.sl ((aM p f.body (ak.init l i)).put (bh 8 .zero) (aM p f.body (ak.init l i)).n).aq.length (((aM p f.body (ak.init l i)).put (bh 8 .zero) (aM p f.body (ak.init l i)).n).aq.flatMap bW),aA ((((aM p f.body (ak.init l i)).put (bh 8 .zero) (aM p f.body (ak.init l i)).n).locals:Nat):Int),aA ((((aM p f.body (ak.init l i)).put (bh 8 .zero) (aM p f.body (ak.init l i)).n).n:Nat):Int),aA (((aM p f.body (ak.init l i)).put (bh 8 .zero) (aM p f.body (ak.init l i)).n).q.2),aA ((((aM p f.body (ak.init l i)).put (bh 8 .zero) (aM p f.body (ak.init l i)).n).q.1:Nat):Int),.val aHe,.sl ((aM p f.body (ak.init l i)).put (bh 8 .zero) (aM p f.body (ak.init l i)).n).sites.length (((aM p f.body (ak.init l i)).put (bh 8 .zero) (aM p f.body (ak.init l i)).n).sites.map λx=>aA x)]⟩::⟨b3,79,[ah a_,aA 0,aA 0,aA 0,aK]⟩::⟨b2,67,aZ f⟩::⟨b1,27,dl p⟩::bx,rw⟩,_⟩ _
 refine cB [b7,b6,b2,b1] (cY [(0,true),(1,true),(2,true),(3,true),(4,true),(5,true),(6,true),(7,true),(8,true),(9,true),(10,true),(11,true),(12,true),(13,false),(14,true),(15,true),(16,true)] 0 (go 18 ?_));refine bH (go 2 ?_);exact ⟨.inr J,_,⟨bx,rw⟩,qf J (bu [_,_] J J isAgg79 uT (cH J J)) (bN J) (bN J) (bN J),ai zF (.refl _),by unfold ff l_ kC;rw [hpl];rfl,J⟩
end
section
mutual
def aS.Fk:aS -> Prop
 |.mk _ num name args=>num.natAbs<9223372036854775808 /\ name.size <= 1048576 /\ nS args
def nS:List aS -> Prop
 |[]=>True
 |e::es=>e.Fk /\ nS es
end
def oG:List (List UInt8) -> Nat
 |[]=>0
 |t::ts=>t.length+oG ts
def Sv(ts:List (List UInt8)):(ts.getD 0 []).length <= oG ts:=by
 cases ts with
 |nil=>simp [oG]
 |cons t ts=>simp [oG]
def Qv(ts:List (List UInt8)):(ts.getD 0 []).length+(ts.getD 1 []).length <= oG ts:=by
 match ts with
 |[]=>simp [oG]
 |[t]=>simp [oG]
 |t::u::ts=>first|(simp [oG];done)|(simp [oG];omega)
def Md{c:Prop}[Decidable c]{l r:List UInt8}{n:Nat}(h1:l.length <= n)(h2:r.length <= n):(if c then l else r).length <= n:=by
 by_cases h:c
 ·rw [if_pos h];exact h1
 rw [if_neg h];exact h2
def Lq(op:Int):(oF op).length <= 2:=by
 unfold oF
 repeat' (with_reducible apply Md)
 all_goals decide
def Xm(op num:Int)(name:aH)(ts:List (List UInt8))(h1:num.natAbs<9223372036854775808)(h2:name.size <= 1048576):
  (kH op num name ts).length <= 1048576+oG ts:=by
 have a0:=Sv ts;have a1:=Qv ts;have a2:=Lq op;have a3:(fT num).length <= 21:=by
  have:=zt _ (Nat.lt_trans h1 V);unfold fT;split<;>simp<;>omega
 have a4:name.data.toList.length=name.size:=J;unfold kH
 repeat' (with_reducible apply Md)
 all_goals ((try simp only [length_append,length_cons,length_nil]);omega)
def KE:∀(N:Nat)(e:aS),e.nodes <= N -> e.Fk -> (bv e).length+2 <= e.nodes*2000000
 |0,.mk op num name args,h,_=>by rw [aS.nodes] at h;omega
 |N+1,.mk op num name args,h,ht=>by
  rw [aS.nodes] at h;rw [aS.Fk] at ht;have key:∀(l:List aS)(k:Nat),d2 l <= N -> nS l -> oG (kF op k l) <= d2 l*2000000:=by
   intro l;induction l with
   |nil=>intro k _ _;rw [kF,oG];omega
   |cons e es ih=>
    intro k hl hm;rw [d2] at hl⊢;rw [nS] at hm;rw [kF,oG];have h1:=KE N e Y hm.1;have h2:=ih (k+1) Y hm.2;split
    ·simp only [length_append,length_cons,length_nil];omega
    omega
  have h1:=key args 0 Y ht.2.2;have h2:=Xm op num name (kF op 0 args) ht.1 ht.2.1;rw [bv,aS.nodes];omega
end
section
open Go.RowKit
def uO{s:aH}(h:cG s=true):s.data.toList.length <= 16:=by
 unfold cG at h;split at h
 ·cases h
 simp only [di,decide_eq_true_eq] at h;exact h.1.2
mutual
def Lz:∀(e:aS),e.bt -> dv e=true -> e.Fk
 |.mk op num name args,hs,h=>by
  have hv:=Iz _ hs h;rw [aS.bt] at hs;rw [dv] at h;simp only [di] at h;rw [aS.Fk];refine ⟨?_,?_,Lt args hs.2.2 h.2⟩
  ·cases hv with
   |num n hn=>show (n:Int).natAbs<_;omega
   |_=>decide
  ·cases hv with
   |name s hn=>exact iS (uO hn) V
   |_=>decide
def Lt:∀(l:List aS),jD l -> fO l=true -> nS l
 |[],_,_=>by rw [nS];trivial
 |y::l,hs,h=>by
  rw [jD] at hs;rw [fO,di] at h;rw [nS];exact ⟨Lz y hs.1 h.1,Lt l hs.2 h.2⟩
end
def za{e:aS}(hs:e.bt)(h:dv e=true):(bv e).length <= e.nodes*2000000:=by
 have:=KE e.nodes e (bX _) (Lz e hs h);omega
def Xl{r:cL}(h:r.index.length=0):okRefB r=cG r.name:=by
 obtain ⟨n,ix⟩:=r;obtain rfl:ix=[]:=kJ.1 h;unfold okRefB;simp
def Q4{r:cL}(h:r.index.length=1):okRefB r=(cG r.name && fJ (r.index[0]'(by omega))):=by
 obtain ⟨n,ix⟩:=r
 match ix,h with
 |[e],_=>rfl
def WO{r:cL}(h:¬r.index.length=0)(h1:¬r.index.length=1):okRefB r=false:=by
 obtain ⟨n,ix⟩:=r
 match ix,h,h1 with
 |[],h,_=>exact absurd rfl h
 |[e],_,h=>exact absurd rfl h
 |_::_::_,_,_=>unfold okRefB;simp
def fk(s:aE):Bool:=decide (1 <= s.kind /\ s.kind <= 4)
def gT(s:aE):Bool:=decide (s.kind=3∨s.kind=4)
def fq(s:aE):Bool:=decide (s.kind=1∨s.kind=2∨s.kind=7∨s.kind=8)
def gA(s:aE):Bool:=decide (s.kind=5∨s.kind=6)
def fp(s:aE):Bool:=decide (s.kind=7∨s.kind=8)
def gO(s:aE):Bool:=decide (¬(1 <= s.kind /\ s.kind <= 9))
def tw(s:aE):Bool:=gO s||fk s && !cG s.name
def tB(s:aE):Bool:=tw s||!fk s && !decide (s.name=a_)
def uV(s:aE):Bool:=tB s||fq s && !fJ s.expr
def vB(s:aE):Bool:=uV s||!fq s && !kz s.expr
def vY(s:aE):Bool:=vB s||gA s && !okRefB s.ref
def uL(s:aE):Bool:=vY s||!gA s && !lu s.ref
def tG(s:aE):Bool:=uL s||!gT s && !decide (s.args.length=0)
def xC(D:Nat)(s:aE):Bool:=(if fp s then dC (D+1) s.thn else decide (s.thn.length=0)) && (decide (s.els.length=0)||(decide (s.kind=7) && dC (D+1) s.els))
def sC(D:Nat)(s:aE):fw D s=(!tG s && s.args.all fX && xC D s):=by
 obtain ⟨k,n,e,r,args,t,el⟩:=s;rw [fw];unfold xC tG uL vY vB uV tB tw;rw [show gO (.mk k n e r args t el)=!decide (1 <= k /\ k <= 9) from decide_not,show fk (.mk k n e r args t el)=decide (1 <= k /\ k <= 4) from rfl,show gT (.mk k n e r args t el)=decide (k=3∨k=4) from rfl,show fq (.mk k n e r args t el)=decide (k=1∨k=2∨k=7∨k=8) from rfl,show gA (.mk k n e r args t el)=decide (k=5∨k=6) from rfl,show fp (.mk k n e r args t el)=decide (k=7∨k=8) from rfl];show _=(_ && args.all fX && ((if decide (k=7∨k=8)=true then dC (D+1) t else decide (t.length=0)) && (decide (el.length=0)||(decide (k=7) && dC (D+1) el))));simp only [aE.name,aE.expr,aE.ref,aE.args];have hi:∀(p:Prop) [Decidable p] (a b:Bool),(if p then a else b)=((decide p && a)||(!decide p && b)):=λp _ a b=>by by_cases h:p<;>simp [h]
 simp only [hi,Bool.decide_eq_true];generalize decide (1 <= k /\ k <= 9)=b1;generalize decide (1 <= k /\ k <= 4)=b2;generalize decide (k=1∨k=2∨k=7∨k=8)=b3;generalize decide (k=5∨k=6)=b4;generalize decide (k=3∨k=4)=b5;generalize decide (k=7∨k=8)=b6;cases b1<;>cases b2<;>cases b3<;>cases b4<;>cases b5<;>cases b6<;>(simp [Bool.and_assoc];try rfl)
def uQ(D:Nat):∀(l:List aE)(k:Nat)(h:k<l.length),fw D l[k]=false -> dC D l=false
 |s::l,0,_,h=>by rw [dC];simp only [FW] at h;rw [h];rfl
 |s::l,k+1,hk,h=>by rw [dC,uQ D l k qm i_,rR]
def O3(D:Nat)(hD:D<24):∀(l:List aE),(∀k (h:k<l.length),fw D l[k]=true) -> dC D l=true
 |[],_=>by rw [dC];exact decide_eq_true hD
 |s::l,h=>by rw [dC,show fw D s=true from h 0 aL,O3 D hD l (λk hk=>h (k+1) qm)];rfl
def YY(D:Nat)(hD:¬D<24)(l:List aE):dC D l=false:=by
 cases h:dC D l with
 |false=>rfl
 |true=>exact absurd (z_ D l h) hD
def Nz(e:aS)(s:aJ):aU prog 97 [.agg (bo e)] [] s λt s'=>t=bC (kz e) /\ s'=s:=by
 obtain ⟨bx,rw⟩:=s;refine bR 22 func97 ?_;refine go 10 λb1=>?_;by_cases h1:e.op=0
 ·refine aI J (bU h1) (go 3 ?_);by_cases h2:e.num=0
  ·refine aI J (bU h2) (go 4 ?_);by_cases h3:e.name=a_
   ·refine aD J (fc true J J J (pF h3)) (go 5 ?_);by_cases h4:(e.args.length:Int)=0
    ·refine aI J (bU h4) (go 5 ?_);exact az (s':=⟨bx,rw⟩) J cT ⟨bZ Mq,J⟩
    refine aG J (bO h4) (go 5 ?_);exact az (s':=⟨bx,rw⟩) J cT ⟨bZ (kX.2 λhh=>NB),J⟩
   refine aD J (fc false J J J (od h3)) (go 11 ?_);exact az (s':=⟨bx,rw⟩) J cT ⟨bZ (kX.2 λhh=>Oo),J⟩
  refine aG J (bO h2) (go 16 ?_);exact az (s':=⟨bx,rw⟩) J cT ⟨bZ (kX.2 λhh=>JY),J⟩
 refine aG J (bO h1) (go 20 ?_);exact az (s':=⟨bx,rw⟩) J cT ⟨bZ (kX.2 λhh=>Pe),J⟩
def Nk(r:cL)(s:aJ):aU prog 99 [.agg (encR r)] [] s λt s'=>t=bC (lu r) /\ s'=s:=by
 obtain ⟨bx,rw⟩:=s;refine bR 12 func99 ?_;refine go 10 λb1=>?_;by_cases h1:r.name=a_
 ·refine aD J (fc true J J J (pF h1)) (go 4 ?_);by_cases h2:(r.index.length:Int)=0
  ·refine aI J (bU h2) (go 5 ?_);exact az (s':=⟨bx,rw⟩) J cT ⟨bZ LI,J⟩
  refine aG J (bO h2) (go 5 ?_);exact az (s':=⟨bx,rw⟩) J cT ⟨bZ (kX.2 λhh=>O0),J⟩
 refine aD J (fc false J J J (od h1)) (go 10 ?_);exact az (s':=⟨bx,rw⟩) J cT ⟨bZ (kX.2 λhh=>KF),J⟩
def OU(r:cL)(hs:r.bt)(hN:d2 r.index <= 900000000)(s:aJ):aU prog 98 [.agg (encR r)] [] s λt s'=>t=bC (okRefB r) /\ s'=s:=by
 obtain ⟨bx,rw⟩:=s;refine bR 25 func98 ?_;refine go 10 λb1=>?_;refine cc J call72 J (uI r.name (by first|assumption|exact hs.1) _) ?_;rintro _ _ ⟨hr1,rfl⟩;rcases bw (cG r.name) with h2|h2
 ·rw [h2] at hr1;subst hr1;refine go 4 ?_;by_cases h3:(r.index.length:Int)=0
  ·refine aI J (bU h3) (go 18 ?_);exact az (s':=⟨bx,rw⟩) J cT ⟨bZ (by rw [Xl Y,h2]),J⟩
  refine aG J (bO h3) (go 4 ?_);by_cases h4:(r.index.length:Int)=1
  ·refine aI J (bU h4) (go 3 ?_);refine aD J (bf bc bo r.index g_ fv 0 J J J J Y V jY dw) (go 1 ?_);refine cc J call96 J (HW r.index[0] NS (qR _ hs.2 _ (getElem_mem _)) _) ?_;rintro _ _ ⟨hr5,rfl⟩;rcases bw (fJ r.index[0]) with h6|h6;rotate_left;all_goals
    rw [h6] at hr5;subst hr5;refine go 7 ?_;exact az (s':=⟨bx,rw⟩) J cT ⟨bZ (by rw [Q4 Y,h2,h6];rfl),J⟩
  refine aG J (bO h4) (go 13 ?_);exact az (s':=⟨bx,rw⟩) J cT ⟨bZ (WO Y Y),J⟩
 rw [h2] at hr1;subst hr1;refine go 23 ?_;exact az (s':=⟨bx,rw⟩) J cT ⟨bZ (by unfold okRefB;rw [h2];rfl),J⟩
def yP{a:cI}(h:a.mutex=true):fX a=(okRefB a.ref && kz a.expr):=by unfold fX;rw [if_pos h]
def zG{a:cI}(h:a.mutex=false):fX a=(lu a.ref && fJ a.expr):=by unfold fX;rw [if_neg oD]
def qG{α:Type}(f:α -> Bool)(l:List α)(k:Nat)(h:k<l.length)(hf:f l[k]=false):l.all f=false:=by
 cases ha:l.all f with
 |false=>rfl
 |true=>rw [e0.1 ha _ (getElem_mem h)] at hf;cases hf
def c1(D:Nat)(s:aE):Bool:=fp s && !dC (D+1) s.thn
def c2(D:Nat)(s:aE):Bool:=c1 D s||!fp s && !decide (s.thn.length=0)
def c3(D:Nat)(s:aE):Bool:=c2 D s||!decide (s.els.length=0) && (!decide (s.kind=7)||!dC (D+1) s.els)
def Mx(D:Nat)(s:aE):xC D s=!c3 D s:=by
 unfold xC c3 c2 c1;cases fp s<;>simp [Bool.not_or]
def nR{s:aE}(h:s.bt):s.name.size <= 4611686018427387904 /\ s.expr.bt /\ s.ref.bt /\ (∀a,a∈s.args -> a.bt) /\ eO s.thn /\ eO s.els:=by cases s;rw [aE.bt] at h;exact h
def JK(D:Nat)(l:List aE)(hs:eO l)(hw:au l <= 900000000)(ih1:∀k (h:k<l.length) (s:aJ),aU prog 73 [.c (aB encS l[k].thn),an ((D:Int)+1)] [] s λt s'=>t=bC (dC (D+1) l[k].thn) /\ s'=s)(ih2:∀k (h:k<l.length) (s:aJ),aU prog 73 [.c (aB encS l[k].els),an ((D:Int)+1)] [] s λt s'=>t=bC (dC (D+1) l[k].els) /\ s'=s)(s:aJ):aU prog 73 [.c (aB encS l),ae D] [] s λt s'=>t=bC (dC D l) /\ s'=s:=by
 obtain ⟨bx,rw⟩:=s;have hll:=o5 l;refine bR 219 func73 ?_;refine go 9 ?_;by_cases h1:(24:Int) <= (D:Int)
 ·refine aI J (nB h1) (go 10 ?_);exact az (s':=⟨bx,rw⟩) J d4 ⟨bZ (YY D Y l),J⟩
 refine aG J (oQ h1) (go 12 ?_);refine jr (λk=>∀i (h:i<l.length),i<k -> fw D l[i]=true) (l.length) 5 (λk=>[(0,.c (aB encS l)),(1,ae D)]) nF (ax J) λk hk hvk=>?_;replace hvk:∀i (h:i<l.length),i<k -> fw D l[i]=true:=hvk
 try dsimp only
 refine go 6 ?_;by_cases h4:(k:Int)<(l.length:Int)
 ·refine aI J (c_ h4) (go 9 ?_);have hlt:k<l.length:=Y;have hsk:=tA _ hs _ (getElem_mem hlt);obtain ⟨hsn,hse,AI,hsa,hst,DQ⟩:=nR hsk;have hwk:=qH l k hlt;rw [gM] at hwk;unfold cL.wt at hwk;have hwa:=p9 l[k].args;refine go 2 ?_;refine aD J (bf encS ci l l8 mQ k J J J J Y V jw d7) (go 12 λb1=>?_);refine pA [(8,bC (fk l[k])),(9,bC (gT l[k])),(0,.c (aB encS l)),(1,ae D),(5,ae k),(6,aF b1),(7,an (l[k].kind))] ?_ ?_
  ·refine go 2 ?_;by_cases h6:(1:Int) <= l[k].kind;focus
    refine aI J (nB h6) (go 2 ?_);by_cases h7:l[k].kind <= 4;focus
     refine aI J (zg h7) (go 2 ?_);by_cases h8:l[k].kind=3;focus
      refine aI J (bU h8) (go 7 ?_)
     rotate_left;focus
      refine aG J (bO h8) (go 2 ?_);by_cases h9:l[k].kind=4;focus
       refine aI J (bU h9) (go 4 ?_)
      rotate_left;refine aG J (bO h9) (go 4 ?_)
    rotate_left 3;refine aG J (yQ h7) (go 2 ?_);refine aG J (bO Y) (go 2 ?_);refine aG J (bO Y) (go 4 ?_)
   rotate_left 4;refine aG J (oQ h6) (go 5 ?_);refine aG J (bO Y) (go 2 ?_);refine aG J (bO Y) (go 4 ?_);all_goals
    exact ⟨J,(ay J (bJ (by unfold fk;first|exact (decide_eq_true Y).symm|exact (decide_eq_false Y).symm)) (ay J (bJ (by unfold gT;first|exact (decide_eq_true Y).symm|exact (decide_eq_false Y).symm)) (ax J)))⟩
  refine pA [(10,bC (fq l[k])),(0,.c (aB encS l)),(1,ae D),(5,ae k),(6,aF b1),(7,an (l[k].kind)),(8,bC (fk l[k])),(9,bC (gT l[k]))] ?_ ?_
  ·refine go 2 ?_;by_cases h10:l[k].kind=1;focus
    refine aI J (bU h10) (go 14 ?_)
   rotate_left;focus
    refine aG J (bO h10) (go 2 ?_);by_cases h11:l[k].kind=2;focus
     refine aI J (bU h11) (go 11 ?_)
    rotate_left;focus
     refine aG J (bO h11) (go 3 ?_);by_cases h12:l[k].kind=7;focus
      refine aI J (bU h12) (go 7 ?_)
     rotate_left;focus
      refine aG J (bO h12) (go 3 ?_);by_cases Bk:l[k].kind=8;focus
       refine aI J (bU Bk) (go 3 ?_)
      rotate_left;refine aG J (bO Bk) (go 3 ?_)
   all_goals
    exact ⟨J,(ay J (bJ (by unfold fq;first|exact (decide_eq_true Y).symm|exact (decide_eq_false Y).symm)) (ax J))⟩
  refine pA [(11,bC (gA l[k])),(0,.c (aB encS l)),(1,ae D),(5,ae k),(6,aF b1),(7,an (l[k].kind)),(8,bC (fk l[k])),(9,bC (gT l[k])),(10,bC (fq l[k]))] ?_ ?_
  ·refine go 2 ?_;by_cases n6:l[k].kind=5;focus
    refine aI J (bU n6) (go 6 ?_)
   rotate_left;focus
    refine aG J (bO n6) (go 2 ?_);by_cases rd:l[k].kind=6;focus
     refine aI J (bU rd) (go 3 ?_)
    rotate_left;refine aG J (bO rd) (go 3 ?_)
   all_goals
    exact ⟨J,(ay J (bJ (by unfold gA;first|exact (decide_eq_true Y).symm|exact (decide_eq_false Y).symm)) (ax J))⟩
  refine go 3 ?_;refine pO 7 [(67,bC (gO l[k])),(0,.c (aB encS l)),(1,ae D),(5,ae k),(6,aF b1),(7,an (l[k].kind)),(8,bC (fk l[k])),(9,bC (gT l[k])),(10,bC (fq l[k])),(11,bC (gA l[k]))] ?_ ?_
  ·refine go 1 ?_;by_cases h16:l[k].kind<1;focus
    refine aI J (c_ h16) (go 6 ?_)
   rotate_left;focus
    refine aG J (cv h16) (go 2 ?_);by_cases rx:(9:Int)<l[k].kind;focus
     refine aI J (e1 rx) (go 3 ?_)
    rotate_left;refine aG J (fA rx) (go 3 ?_)
   all_goals
    exact ⟨J,(ay J (bJ (by unfold gO;first|exact (decide_eq_true Y).symm|exact (decide_eq_false Y).symm)) (ax J))⟩
  refine pO 9 [(76,bC (tw l[k])),(0,.c (aB encS l)),(1,ae D),(5,ae k),(6,aF b1),(7,an (l[k].kind)),(8,bC (fk l[k])),(9,bC (gT l[k])),(10,bC (fq l[k])),(11,bC (gA l[k]))] ?_ ?_
  ·rcases bw (gO l[k]) with h18|h18
   ·refine ct 67 J (bJ h18) (go 10 ?_);exact ⟨J,(ay J (bJ (by unfold tw;rw [h18];rfl)) (ax J))⟩
   refine ct 67 J (bJ h18) (go 1 ?_);rcases bw (fk l[k]) with h19|h19
   ·refine aD J (cP (bJ h19) (ot J J)) (go 2 ?_);refine cc J call72 J (uI l[k].name (by first|assumption|exact hsn) _) ?_;rintro _ _ ⟨aHl,rfl⟩;rcases bw (cG l[k].name) with h21|h21;rotate_left;all_goals
     rw [h21] at aHl;subst aHl;refine go 5 ?_;exact ⟨J,(ay J (bJ (by unfold tw;rw [h18,h19,h21];rfl)) (ax J))⟩
   refine aD J (cP (bJ h19) (ot J J)) (go 8 ?_);exact ⟨J,(ay J (bJ (by unfold tw;rw [h18,h19];rfl)) (ax J))⟩
  refine pO 9 [(85,bC (tB l[k])),(0,.c (aB encS l)),(1,ae D),(5,ae k),(6,aF b1),(7,an (l[k].kind)),(8,bC (fk l[k])),(9,bC (gT l[k])),(10,bC (fq l[k])),(11,bC (gA l[k]))] ?_ ?_
  ·rcases bw (tw l[k]) with h22|h22
   ·refine ct 76 J (bJ h22) (go 10 ?_);exact ⟨J,(ay J (bJ (by unfold tB;rw [h22];rfl)) (ax J))⟩
   refine ct 76 J (bJ h22) (go 1 ?_);rcases bw (fk l[k]) with h23|h23
   ·refine aD J (cP (bJ (qc h23)) (jE J J)) (go 8 ?_);exact ⟨J,(ay J (bJ (by unfold tB;rw [h22,h23];rfl)) (ax J))⟩
   refine aD J (cP (bJ (qP h23)) (jE J J)) (go 3 ?_);by_cases DP:l[k].name=a_
   ·refine aD J (fc false J J J (CJ DP)) (go 4 ?_);exact ⟨J,(ay J (bJ (by unfold tB;rw [h22,h23,decide_eq_true DP];rfl)) (ax J))⟩
   refine aD J (fc true J J J (C7 DP)) (go 4 ?_);exact ⟨J,(ay J (bJ (by unfold tB;rw [h22,h23,decide_eq_false DP];rfl)) (ax J))⟩
  refine pO 9 [(94,bC (uV l[k])),(0,.c (aB encS l)),(1,ae D),(5,ae k),(6,aF b1),(7,an (l[k].kind)),(8,bC (fk l[k])),(9,bC (gT l[k])),(10,bC (fq l[k])),(11,bC (gA l[k]))] ?_ ?_
  ·rcases bw (tB l[k]) with wd|wd
   ·refine ct 85 J (bJ wd) (go 10 ?_);exact ⟨J,(ay J (bJ (by unfold uV;rw [wd];rfl)) (ax J))⟩
   refine ct 85 J (bJ wd) (go 1 ?_);rcases bw (fq l[k]) with ur|ur
   ·refine aD J (cP (bJ ur) (ot J J)) (go 2 ?_);refine cc J call96 J (HW l[k].expr Y hse _) ?_;rintro _ _ ⟨IT,rfl⟩;rcases bw (fJ l[k].expr) with Pc|Pc;rotate_left;all_goals
     rw [Pc] at IT;subst IT;refine go 5 ?_;exact ⟨J,(ay J (bJ (by unfold uV;rw [wd,ur,Pc];rfl)) (ax J))⟩
   refine aD J (cP (bJ ur) (ot J J)) (go 8 ?_);exact ⟨J,(ay J (bJ (by unfold uV;rw [wd,ur];rfl)) (ax J))⟩
  refine pO 10 [(104,bC (vB l[k])),(0,.c (aB encS l)),(1,ae D),(5,ae k),(6,aF b1),(7,an (l[k].kind)),(8,bC (fk l[k])),(9,bC (gT l[k])),(10,bC (fq l[k])),(11,bC (gA l[k]))] ?_ ?_
  ·rcases bw (uV l[k]) with LT|LT
   ·refine ct 94 J (bJ LT) (go 11 ?_);exact ⟨J,(ay J (bJ (by unfold vB;rw [LT];rfl)) (ax J))⟩
   refine ct 94 J (bJ LT) (go 1 ?_);rcases bw (fq l[k]) with DA|DA
   ·refine aD J (cP (bJ (qc DA)) (jE J J)) (go 9 ?_);exact ⟨J,(ay J (bJ (by unfold vB;rw [LT,DA];rfl)) (ax J))⟩
   refine aD J (cP (bJ (qP DA)) (jE J J)) (go 3 ?_);refine cc J call97 J (Nz l[k].expr _) ?_;rintro _ _ ⟨aOl,rfl⟩;rcases bw (kz l[k].expr) with h32|h32;rotate_left;all_goals
    rw [h32] at aOl;subst aOl;refine go 5 ?_;exact ⟨J,(ay J (bJ (by unfold vB;rw [LT,DA,h32];rfl)) (ax J))⟩
  refine pO 9 [(113,bC (vY l[k])),(0,.c (aB encS l)),(1,ae D),(5,ae k),(6,aF b1),(7,an (l[k].kind)),(8,bC (fk l[k])),(9,bC (gT l[k])),(10,bC (fq l[k])),(11,bC (gA l[k]))] ?_ ?_
  ·rcases bw (vB l[k]) with If|If
   ·refine ct 104 J (bJ If) (go 10 ?_);exact ⟨J,(ay J (bJ (by unfold vY;rw [If];rfl)) (ax J))⟩
   refine ct 104 J (bJ If) (go 1 ?_);rcases bw (gA l[k]) with Wf|Wf
   ·refine aD J (cP (bJ Wf) (ot J J)) (go 2 ?_);refine cc J call98 J (OU l[k].ref AI Y _) ?_;rintro _ _ ⟨L7,rfl⟩;rcases bw (okRefB l[k].ref) with h36|h36;rotate_left;all_goals
     rw [h36] at L7;subst L7;refine go 5 ?_;exact ⟨J,(ay J (bJ (by unfold vY;rw [If,Wf,h36];rfl)) (ax J))⟩
   refine aD J (cP (bJ Wf) (ot J J)) (go 8 ?_);exact ⟨J,(ay J (bJ (by unfold vY;rw [If,Wf];rfl)) (ax J))⟩
  refine pO 10 [(123,bC (uL l[k])),(0,.c (aB encS l)),(1,ae D),(5,ae k),(6,aF b1),(7,an (l[k].kind)),(8,bC (fk l[k])),(9,bC (gT l[k])),(10,bC (fq l[k])),(11,bC (gA l[k]))] ?_ ?_
  ·rcases bw (vY l[k]) with h37|h37
   ·refine ct 113 J (bJ h37) (go 11 ?_);exact ⟨J,(ay J (bJ (by unfold uL;rw [h37];rfl)) (ax J))⟩
   refine ct 113 J (bJ h37) (go 1 ?_);rcases bw (gA l[k]) with h38|h38
   ·refine aD J (cP (bJ (qc h38)) (jE J J)) (go 9 ?_);exact ⟨J,(ay J (bJ (by unfold uL;rw [h37,h38];rfl)) (ax J))⟩
   refine aD J (cP (bJ (qP h38)) (jE J J)) (go 3 ?_);refine cc J call99 J (Nk l[k].ref _) ?_;rintro _ _ ⟨aOm,rfl⟩;rcases bw (lu l[k].ref) with h40|h40;rotate_left;all_goals
    rw [h40] at aOm;subst aOm;refine go 5 ?_;exact ⟨J,(ay J (bJ (by unfold uL;rw [h37,h38,h40];rfl)) (ax J))⟩
  refine pO 9 [(132,bC (tG l[k])),(0,.c (aB encS l)),(1,ae D),(5,ae k),(6,aF b1),(7,an (l[k].kind)),(8,bC (fk l[k])),(9,bC (gT l[k])),(10,bC (fq l[k])),(11,bC (gA l[k]))] ?_ ?_
  ·rcases bw (uL l[k]) with h41|h41
   ·refine ct 123 J (bJ h41) (go 10 ?_);exact ⟨J,(ay J (bJ (by unfold tG;rw [h41];rfl)) (ax J))⟩
   refine ct 123 J (bJ h41) (go 1 ?_);rcases bw (gT l[k]) with h42|h42
   ·refine aD J (cP (bJ (qc h42)) (jE J J)) (go 8 ?_);exact ⟨J,(ay J (bJ (by unfold tG;rw [h41,h42];rfl)) (ax J))⟩
   refine aD J (cP (bJ (qP h42)) (jE J J)) (go 4 ?_);by_cases h43:(0:Int)<((l[k].args.length:Nat):Int)
   ·refine aI J (e1 h43) (go 3 ?_);exact ⟨J,(ay J (bJ (by unfold tG;rw [h41,h42,decide_eq_false (show ¬l[k].args.length=0 by omega)];rfl)) (ax J))⟩
   refine aG J (fA h43) (go 3 ?_);exact ⟨J,(ay J (bJ (by unfold tG;rw [h41,h42,decide_eq_true (show l[k].args.length=0 by omega)];rfl)) (ax J))⟩
  refine go 2 ?_;refine im J (λh44=>?_) (λh44=>?_)
  ·refine go 12 ?_;exact az (s':=⟨bx,rw⟩) J cT ⟨bZ (uQ D l k hlt (by rw [sC,h44];rfl)),J⟩
  refine go 9 ?_;refine jr (λj=>∀i (h:i<l[k].args.length),i<j -> fX l[k].args[i]=true) (l[k].args.length) 12 (λj=>[(0,.c (aB encS l)),(1,ae D),(5,ae k),(6,aF b1),(7,an (l[k].kind))]) nF (ax J) λj hj hvj=>?_;replace hvj:∀i (h:i<l[k].args.length),i<j -> fX l[k].args[i]=true:=hvj
  try dsimp only
  refine go 7 ?_;by_cases h45:(j:Int)<((l[k].args.length:Nat):Int)
  ·refine aI J (c_ h45) (go 9 ?_);have hjl:j<l[k].args.length:=Y;have haj:=hsa _ (getElem_mem hjl);have hwj:=uC l[k].args j hjl;unfold cI.wt cL.wt at hwj;refine go 3 ?_;refine aD J (bf cd cd l[k].args o' (λ_=>J) j J J J J Y V lH jy) (go 8 λb2=>?_);rcases bw (l[k].args[j].mutex) with h47|h47
   ·refine aD J (cP (bJ h47) (cV [] dH dG)) (go 3 ?_);refine cc J call98 J (OU l[k].args[j].ref haj.1 Y _) ?_;rintro _ _ ⟨aHk,rfl⟩;rcases bw (okRefB l[k].args[j].ref) with h49|h49
    ·rw [h49] at aHk;subst aHk;refine go 4 ?_;refine cc J call97 J (Nz l[k].args[j].expr _) ?_;rintro _ _ ⟨BT,rfl⟩;rcases bw (kz l[k].args[j].expr) with h51|h51
     ·rw [h51] at BT;subst BT;refine go 5 ?_;refine aD J (cP (bJ h47) (cV [] dH dG)) (go 22 ?_);refine bP J (go 2 ?_);exact ⟨Y,(λi hi hlt2=>(jv i j).elim (λh9=>hvj i hi h9) (λh9=>by have h8:i=j:=Y;subst h8;rw [yP h47,h49,h51];rfl)),bD (h1:=bI) (h:=ay J (cD Y) (ax J)) (λb hb=>eG _ (hb))⟩
     rw [h51] at BT;subst BT;refine go 39 ?_;exact az (s':=⟨bx,rw⟩) J fR ⟨bZ (uQ D l k hlt (by rw [sC,qG fX _ j hjl (by rw [yP h47,h49,h51];rfl)];simp)),J⟩
    rw [h49] at aHk;subst aHk;refine go 44 ?_;exact az (s':=⟨bx,rw⟩) J fR ⟨bZ (uQ D l k hlt (by rw [sC,qG fX _ j hjl (by rw [yP h47,h49];rfl)];simp)),J⟩
   refine aD J (cP (bJ h47) (cV [] dH dG)) (go 14 ?_);refine aD J (cP (bJ h47) (cV [] dH dG)) (go 4 ?_);refine cc J call99 J (Nk l[k].args[j].ref _) ?_;rintro _ _ ⟨aJn,rfl⟩;rcases bw (lu l[k].args[j].ref) with h56|h56
   ·rw [h56] at aJn;subst aJn;refine go 4 ?_;refine cc J call96 J (HW l[k].args[j].expr Y haj.2 _) ?_;rintro _ _ ⟨aJo,rfl⟩;rcases bw (fJ l[k].args[j].expr) with h58|h58
    ·rw [h58] at aJo;subst aJo;refine go 12 ?_;refine bP J (go 2 ?_);exact ⟨Y,(λi hi hlt2=>(jv i j).elim (λh9=>hvj i hi h9) (λh9=>by have h8:i=j:=Y;subst h8;rw [zG h47,h56,h58];rfl)),bD (h1:=bI) (h:=ay J (cD Y) (ax J)) (λb hb=>eG _ (hb))⟩
    rw [h58] at aJo;subst aJo;refine go 23 ?_;exact az (s':=⟨bx,rw⟩) J fR ⟨bZ (uQ D l k hlt (by rw [sC,qG fX _ j hjl (by rw [zG h47,h56,h58];rfl)];simp)),J⟩
   rw [h56] at aJn;subst aJn;refine go 28 ?_;exact az (s':=⟨bx,rw⟩) J fR ⟨bZ (uQ D l k hlt (by rw [sC,qG fX _ j hjl (by rw [zG h47,h56];rfl)];simp)),J⟩
  refine aG J (cv h45) (go 8 ?_);refine pA [(14,bC (fp l[k])),(0,.c (aB encS l)),(1,ae D),(5,ae k),(6,aF b1),(7,an (l[k].kind))] ?_ ?_
  ·refine go 2 ?_;by_cases h63:l[k].kind=7;focus
    refine aI J (bU h63) (go 6 ?_)
   rotate_left;focus
    refine aG J (bO h63) (go 2 ?_);by_cases h64:l[k].kind=8;focus
     refine aI J (bU h64) (go 3 ?_)
    rotate_left;refine aG J (bO h64) (go 3 ?_)
   all_goals
    exact ⟨J,(ay J (bJ (by unfold fp;first|exact (decide_eq_true Y).symm|exact (decide_eq_false Y).symm)) (ax J))⟩
  refine go 2 ?_;refine pO 10 [(191,bC (c1 D l[k])),(0,.c (aB encS l)),(1,ae D),(5,ae k),(6,aF b1),(7,an (l[k].kind)),(14,bC (fp l[k]))] ?_ ?_
  ·refine go 1 ?_;rcases bw (fp l[k]) with h65|h65
   ·refine aD J (cP (bJ h65) (ot J J)) (go 3 ?_);refine bP J ?_;refine cc J call73 J (ih1 k Y _) ?_;rintro _ _ ⟨aOp,rfl⟩;rcases bw (dC (D+1) l[k].thn) with h67|h67;rotate_left;all_goals
     rw [h67] at aOp;subst aOp;refine go 4 ?_;exact ⟨J,(ay J (bJ (by unfold c1;rw [h65,h67];rfl)) (ax J))⟩
   refine aD J (cP (bJ h65) (ot J J)) (go 9 ?_);exact ⟨J,(ay J (bJ (by unfold c1;rw [h65];rfl)) (ax J))⟩
  refine pO 10 [(201,bC (c2 D l[k])),(0,.c (aB encS l)),(1,ae D),(5,ae k),(6,aF b1),(7,an (l[k].kind)),(14,bC (fp l[k]))] ?_ ?_
  ·rcases bw (c1 D l[k]) with h68|h68
   ·refine ct 191 J (bJ h68) (go 11 ?_);exact ⟨J,(ay J (bJ (by unfold c2;rw [h68];rfl)) (ax J))⟩
   refine ct 191 J (bJ h68) (go 1 ?_);rcases bw (fp l[k]) with h69|h69
   ·refine aD J (cP (bJ (qc h69)) (jE J J)) (go 9 ?_);exact ⟨J,(ay J (bJ (by unfold c2;rw [h68,h69];rfl)) (ax J))⟩
   refine aD J (cP (bJ (qP h69)) (jE J J)) (go 4 ?_);by_cases h70:(0:Int)<((l[k].thn.length:Nat):Int)
   ·refine aI J (e1 h70) (go 4 ?_);exact ⟨J,(ay J (bJ (by unfold c2;rw [h68,h69,decide_eq_false (show ¬l[k].thn.length=0 by omega)];rfl)) (ax J))⟩
   refine aG J (fA h70) (go 4 ?_);exact ⟨J,(ay J (bJ (by unfold c2;rw [h68,h69,decide_eq_true (show l[k].thn.length=0 by omega)];rfl)) (ax J))⟩
  refine pO 17 [(218,bC (c3 D l[k])),(0,.c (aB encS l)),(1,ae D),(5,ae k),(6,aF b1),(7,an (l[k].kind)),(14,bC (fp l[k]))] ?_ ?_
  ·rcases bw (c2 D l[k]) with h71|h71
   ·refine ct 201 J (bJ h71) (go 18 ?_);exact ⟨J,(ay J (bJ (by unfold c3;rw [h71];rfl)) (ax J))⟩
   refine ct 201 J (bJ h71) (go 3 ?_);by_cases h72:(0:Int)<((l[k].els.length:Nat):Int)
   ·refine aI J (e1 h72) (go 2 ?_);by_cases h73:l[k].kind=7
    ·refine aG J (fF h73) (go 4 ?_);refine bP J ?_;refine cc J call73 J (ih2 k Y _) ?_;rintro _ _ ⟨aOq,rfl⟩;rcases bw (dC (D+1) l[k].els) with h75|h75;rotate_left;all_goals
      rw [h75] at aOq;subst aOq;refine go 5 ?_;exact ⟨J,(ay J (bJ (by unfold c3;rw [h71,decide_eq_false (show ¬l[k].els.length=0 by omega),decide_eq_true (show l[k].kind=7 by omega),h75];rfl)) (ax J))⟩
    refine aI J (fl h73) (go 11 ?_);exact ⟨J,(ay J (bJ (by unfold c3;rw [h71,decide_eq_false (show ¬l[k].els.length=0 by omega),decide_eq_false (show ¬l[k].kind=7 by omega)];rfl)) (ax J))⟩
   refine aG J (fA h72) (go 14 ?_);exact ⟨J,(ay J (bJ (by unfold c3;rw [h71,decide_eq_true (show l[k].els.length=0 by omega)];rfl)) (ax J))⟩
  refine go 2 ?_;refine im J (λh76=>?_) (λh76=>?_)
  ·refine go 11 ?_;exact az (s':=⟨bx,rw⟩) J cT ⟨bZ (uQ D l k hlt (by rw [sC,Mx,h76];simp)),J⟩
  refine go 5 ?_;refine bP J (go 2 ?_);exact ⟨Y,(λi hi hlt2=>(jv i k).elim (λh9=>hvk i hi h9) (λh9=>by have h8:i=k:=Y;subst h8;rw [sC,Mx,h44,h76,show l[i].args.all fX=true from e0.2 (λx hx=>by obtain ⟨q,hq,rfl⟩:=mp hx;exact hvj q hq Y)];rfl)),bD (h1:=bI) (h:=ay J (cD Y) (ax J)) (λb hb=>eG _ (hb))⟩
 refine aG J (cv h4) (go 14 ?_);exact az (s':=⟨bx,rw⟩) J d4 ⟨bZ (O3 D Y l v_),J⟩
def F1:∀(N:Nat)(D:Nat)(l:List aE),au l <= N -> N <= 900000000 -> eO l -> D <= 1000000000-N -> ∀s:aJ,aU prog 73 [.c (aB encS l),ae D] [] s λt s'=>t=bC (dC D l) /\ s'=s
 |0,D,l,hw,hN,hs,hD,s=>by
  have h0:=o5 l;exact JK D l hs Y DW DW s
 |N+1,D,l,hw,hN,hs,hD,s=>by
  have hp:∀k (hk:k<l.length),au l[k].thn <= N /\ au l[k].els <= N /\ eO l[k].thn /\ eO l[k].els:=λk hk=>by
   have h3:=qH l k hk;rw [gM] at h3;have h4:=nR (tA _ hs _ (getElem_mem hk));exact ⟨Y,Y,h4.2.2.2.2.1,h4.2.2.2.2.2⟩
  exact JK D l hs Y (λk hk s=>F1 N (D+1) l[k].thn (hp k hk).1 Y (hp k hk).2.2.1 Y s)
   (λk hk s=>F1 N (D+1) l[k].els (hp k hk).2.1 Y (hp k hk).2.2.2 Y s) s
def QP{r:cL}(hs:r.bt)(h:okRefB r=true):(fi r).length <= r.wt*2000000:=by
 obtain ⟨h1,h2,h3⟩:=BJ h;have h4:=uO h1;unfold cL.wt;rcases h2 with h2|h2
 ·rw [NR h2];omega
 have h0:0<r.index.length:=Y;have h5:=qV r.index 0 h0;have h6:=za (qR _ hs.2 _ (getElem_mem h0)) (sL (h3 _ (getElem_mem h0)));rw [CV h0];simp only [length_append,length_cons,length_nil];omega
def Ld:∀(l:List cI),(∀a,a∈l -> a.bt) -> (∀a,a∈l -> fX a=true) -> (dL eu l).length <= dz l*2000010
 |[],_,_=>xk
 |a::l,hs,h=>by
  have h1:=Ld l (λx hx=>hs x zu) (λx hx=>h x zu);have h2:(eu a).length+2 <= a.wt*2000010:=by
   have h3:=ER (h a aL);have h4:=hs a aL;unfold cI.wt;cases hm:a.mutex with
   |true=>rw [xW hm];have:=QP h4.1 (h3.1 hm);simp only [length_append,length_cons,length_nil];omega
   |false=>rw [xJ hm];have:=za h4.2 (sL (h3.2 hm));omega
  have h5:(dL eu (a::l)).length <= (eu a).length+2+(dL eu l).length:=by
   cases l with
   |nil=>simp [dL]
   |cons b r=>simp [dL];omega
  rw [dz];omega
def DG:∀(N D:Nat)(l:List aE)(tabs:List UInt8),au l <= N -> dC D l=true -> eO l -> tabs.length <= D+1 -> (bT tabs l).length <= au l*3000000
 |_,_,[],_,_,_,_,_=>by rw [bT];simp
 |0,D,s::l,tabs,hw,_,_,_=>by rw [au,gM] at hw;omega
 |N+1,D,s::l,tabs,hw,hok,hs,ht=>by
  have hD:=z_ D _ hok;rw [dC,di] at hok;rw [eO] at hs;rw [au,gM] at hw;have ok:=zV hs.1 hok.1;have h1:=DG (N+1) D l tabs Y hok.2 hs.2 ht;have ht1:(tabs++[(9:UInt8)]).length <= D+1+1:=dh;have hE:(s.kind=1∨s.kind=2∨s.kind=7∨s.kind=8) -> (bv s.expr).length <= s.expr.nodes*2000000:=λh=>za ok.RW (ok.expr h);have hR:(s.kind=5∨s.kind=6) -> (fi s.ref).length <= s.ref.wt*2000000:=λh=>QP ok.aH0 (ok.ref h);have hA:(iI s.args).length <= dz s.args*2000010+2:=by have:=Ld s.args ok.aH1 ok.args;unfold iI;simp only [length_append,length_cons,length_nil];omega
  have hT:(s.kind=7∨s.kind=8) -> (bT (tabs++[9]) s.thn).length <= au s.thn*3000000:=λh=>DG N (D+1) s.thn (tabs++[9]) Y (ok.thn h) ok.aJ9 ht1;have hF:(if s.els.length=0 then ([]:List UInt8) else [32,101,108,115,101,32,123,10]++bT (tabs++[9]) s.els++tabs++[125]).length <= au s.els*3000000+40:=by
   rcases ok.els with h|h
   ·rw [if_pos h];simp
   have:=DG N (D+1) s.els (tabs++[9]) Y h ok.aKa ht1;split
   ·simp
   simp only [length_append,length_cons,length_nil];omega
  have hn:(1 <= s.kind /\ s.kind <= 4) -> s.name.data.toList.length <= 16:=λh=>by
   have h2:=hok.1;obtain ⟨k,n,e,r,a,t,f⟩:=s;rw [fw] at h2;simp only [di] at h2;have h3:=h2.1.1.1.1.1.1.2;have h:1 <= k /\ k <= 4:=h;rw [if_pos h] at h3;exact uO h3
  have hs1:(d1 tabs s).length <= s.wt*3000000:=by
   rw [gM];have hk:s.kind=1∨s.kind=2∨s.kind=3∨s.kind=4∨s.kind=5∨s.kind=6∨s.kind=7∨s.kind=8∨(¬s.kind=1 /\ ¬s.kind=2 /\ ¬s.kind=3 /\ ¬s.kind=4 /\ ¬s.kind=5 /\ ¬s.kind=6 /\ ¬s.kind=7 /\ ¬s.kind=8):=Y;rcases hk with h|h|h|h|h|h|h|h|h
   ·have:=hE Y;have:=hn Y;rw [As h];simp only [length_append,length_cons,length_nil];omega
   ·have:=hE Y;have:=hn Y;rw [Dp h];simp only [length_append,length_cons,length_nil];omega
   ·have:=hn Y;rw [yT h];simp only [length_append,length_cons,length_nil];omega
   ·have:=hn Y;rw [yM h];simp only [length_append,length_cons,length_nil];omega
   ·have:=hR Y;rw [BG h];simp only [length_append,length_cons,length_nil];omega
   ·have:=hR Y;rw [Ca h];simp only [length_append,length_cons,length_nil];omega
   ·have:=hE Y;have:=hT Y;rw [wU h];simp only [length_append,length_cons,length_nil] at hF⊢;omega
   ·have:=hE Y;have:=hT Y;rw [xn h];simp only [length_append,length_cons,length_nil] at hF⊢;omega
   rw [AK h];simp only [length_append,length_cons,length_nil];omega
  rw [bT,au,length_append];omega
def BN{α:Type}(f:α -> List UInt8)(g:α -> Nat)(c:Nat):∀l:List α,(∀x,x∈l -> (f x).length <= g x*c) -> ((l.map f).flatten).length <= (l.map g).sum*c
 |[],_=>aL
 |x::r,h=>by
  have h1:=BN f g c r E_;have h2:=h x aL;simp only [dE,jZ,length_append,p_,sR];omega
def Qj{α:Type}(l:List α):(l.map λ_=>1).sum=l.length:=by induction l with|nil=>rfl|cons a l ih=>simp [ih];omega
def DO{p:aY}(hs:p.bt)(h:j0 p=true):(iG p).length <= p.wt*3000000:=by
 unfold j0 at h;simp only [di] at h;obtain ⟨⟨⟨-,hg⟩,hm⟩,hf⟩:=h;have h1:=BN cS (λ_=>1) 3000000 p.globals (λg hgm=>by
  have h2:=e0.1 hg g hgm;unfold lK at h2;rw [di] at h2;have h3:=uO h2.1;have h4:=DJ (hs.globals g hgm).1;unfold cS;split<;>(simp only [length_append,length_cons,length_nil];omega))
 have h2:=BN cf (λ_=>1) 3000000 p.mutexes (λm hmm=>by
  have h2:=e0.1 hm m hmm;unfold iv at h2;simp only [di] at h2;have h3:=uO h2.1.1;have h4:=DJ (hs.mutexes m hmm).1;unfold cf;split<;>split<;>(simp only [length_append,length_cons,length_nil];omega))
 have h3:=BN funcText bB.wt 3000000 p.funcs (λf hfm=>by
  have h2:=e0.1 hf f hfm;unfold ga at h2;simp only [di,decide_eq_true_eq] at h2;have h3:=uO h2.1.1.1;have h4:=DG _ 0 f.body [9] (bX _) h2.1.2 (hs.funcs f hfm).2.2 V;have h5:(dL eY f.params).length <= f.params.length*30:=by
   have:∀(l:List bg),(∀x,x∈l -> cG x.name=true) -> (dL eY l).length <= l.length*30:=by
    intro l;induction l with
    |nil=>intro _;simp [dL]
    |cons x l ih=>
     intro hx;have h6:=ih (λy hy=>hx y (by simp [hy]));have h7:=uO (hx x aL);have h8:(eY x).length <= 22:=by unfold eY;split<;>(simp only [length_append,length_cons,length_nil];omega)
     have h9:(dL eY (x::l)).length <= (eY x).length+2+(dL eY l).length:=by
      cases l with
      |nil=>simp [dL]
      |cons b r=>simp [dL];omega
     simp only [length_cons];omega
   exact this f.params (e0.1 h2.2)
  rw [FF];unfold bB.wt;simp only [length_append,length_cons,length_nil];omega)
 rw [Qj] at h1 h2;unfold iG aY.wt;simp only [length_append];omega
def Ho{p:aY}(h:¬(p.globals.length <= 16 /\ p.mutexes.length <= 12 /\ p.funcs.length <= 16)):gw p=false:=by
 unfold gw;rw [decide_eq_false h];rfl
def Kx{p:aY}(k:Nat)(h:k<p.globals.length)(hb:lK p.globals[k]=false):gw p=false:=by
 unfold gw;rw [qG lK _ k h hb];simp
def Dz{p:aY}(k:Nat)(h:k<p.mutexes.length)(hb:iv p.mutexes[k]=false):gw p=false:=by
 unfold gw;rw [qG iv _ k h hb];simp
def Bt{p:aY}(k:Nat)(h:k<p.funcs.length)(hb:ga p.funcs[k]=false):gw p=false:=by
 unfold gw;rw [qG ga _ k h hb];simp
def xd{α:Type}(f:α -> Bool)(l:List α)(h:∀i (h:i<l.length),f l[i]=true):l.all f=true:=e0.2 λx hx=>by obtain ⟨i,hi,rfl⟩:=mp hx;exact h i hi
def Ka(p:aY)(hs:p.bt)(hw:p.wt <= 100000000)(s:aJ):aU prog 38 [.agg (dl p)] [] s λt s'=>t=bC (gw p) /\ s'=s:=by
 obtain ⟨bx,rw⟩:=s;have hw1:=hw;unfold aY.wt at hw1;have hfn:=oE bB.wt wa p.funcs;refine bR 140 func38 ?_;refine go 12 λb1=>?_;by_cases h1:(16:Int)<(p.globals.length:Int)
 ·refine aI J (e1 h1) (go 22 ?_);exact az (s':=⟨bx,rw⟩) J cT ⟨bZ (Ho Y),J⟩
 refine aG J (fA h1) (go 4 ?_);by_cases h3:(12:Int)<(p.mutexes.length:Int)
 ·refine aI J (e1 h3) (go 17 ?_);exact az (s':=⟨bx,rw⟩) J cT ⟨bZ (Ho Y),J⟩
 refine aG J (fA h3) (go 5 ?_);by_cases h5:(16:Int)<(p.funcs.length:Int)
 ·refine aI J (e1 h5) (go 11 ?_);exact az (s':=⟨bx,rw⟩) J cT ⟨bZ (Ho Y),J⟩
 refine aG J (fA h5) (go 13 ?_);refine jr (λk=>∀q (h:q<p.globals.length),q<k -> lK p.globals[q]=true) (p.globals.length) 3 (λk=>[(1,aF b1)]) nF (ax J) λk hk hvk=>?_;replace hvk:∀q (h:q<p.globals.length),q<k -> lK p.globals[q]=true:=hvk
 try dsimp only
 refine go 7 ?_;by_cases h8:(k:Int)<(p.globals.length:Int)
 ·refine aI J (c_ h8) (go 9 ?_);have hgs:=hs.globals p.globals[k] (getElem_mem _);refine go 3 ?_;refine aD J (bf am am p.globals oU (λ_=>J) k J J J J Y V mt jX) (go 2 ?_);refine cc J call72 J (uI p.globals[k].name hgs.2 _) ?_;rintro _ _ ⟨By,rfl⟩;rcases bw (cG p.globals[k].name) with h11|h11
  ·rw [h11] at By;subst By;refine go 5 ?_;refine aD J (bf am am p.globals oU (λ_=>J) k J J J J Y V mt jX) (go 2 ?_);by_cases h12:p.globals[k].init=-9223372036854775808
   ·refine aI J (bU h12) (go 15 ?_);exact az (s':=⟨bx,rw⟩) J cT ⟨bZ (Kx k Y (by unfold lK;rw [h11,decide_eq_false Y];rfl)),J⟩
   refine aG J (bO h12) (go 9 ?_);refine bP J (go 2 ?_);exact ⟨Y,(λq hq hlt2=>(jv q k).elim (λh9=>hvk q hq h9) (λh9=>by have h8:k=q:=Y;subst h8;exact (by unfold lK;rw [h11,decide_eq_true Y];rfl))),(ay J (cD Y) (ax J))⟩
  rw [h11] at By;subst By;refine go 24 ?_;exact az (s':=⟨bx,rw⟩) J cT ⟨bZ (Kx k Y (by unfold lK;rw [h11];rfl)),J⟩
 refine aG J (cv h8) (go 15 ?_);refine jr (λi=>∀q (h:q<p.mutexes.length),q<i -> iv p.mutexes[q]=true) (p.mutexes.length) 4 (λi=>[(1,aF b1)]) nF (ax J) λi hi bp=>?_;replace bp:∀q (h:q<p.mutexes.length),q<i -> iv p.mutexes[q]=true:=bp
 try dsimp only
 refine go 7 ?_;by_cases rx:(i:Int)<(p.mutexes.length:Int)
 ·refine aI J (c_ rx) (go 9 ?_);have hms:=hs.mutexes p.mutexes[i] (getElem_mem _);refine go 3 ?_;refine aD J (bf aT aT p.mutexes pD (λ_=>J) i J J J J Y V mS gq) (go 9 λb2=>?_);refine cc J call72 J (uI p.mutexes[i].name hms.2 _) ?_;rintro _ _ ⟨aJp,rfl⟩;rcases bw (cG p.mutexes[i].name) with h20|h20
  ·rw [h20] at aJp;subst aJp;refine go 4 ?_;by_cases h21:p.mutexes[i].size<0
   ·refine aI J (c_ h21) (go 29 ?_);exact az (s':=⟨bx,rw⟩) J fR ⟨bZ (Dz i Y Cd),J⟩
   refine aG J (cv h21) (go 4 ?_);by_cases h23:(64:Int)<p.mutexes[i].size
   ·refine aI J (e1 h23) (go 24 ?_);exact az (s':=⟨bx,rw⟩) J fR ⟨bZ (Dz i Y Cd),J⟩
   refine aG J (fA h23) (go 3 ?_);rcases bw (p.mutexes[i].ex) with wd|wd
   ·refine aD J (cP (bJ wd) (cV [] dH dG)) (go 3 ?_);by_cases ur:(0:Int)<p.mutexes[i].size
    ·refine aI J (e1 ur) (go 16 ?_);exact az (s':=⟨bx,rw⟩) J fR ⟨bZ (Dz i Y (by unfold iv;rw [h20,decide_eq_true (show 0 <= p.mutexes[i].size /\ p.mutexes[i].size <= 64 by omega),wd,decide_eq_true (show 0<p.mutexes[i].size by omega)];rfl)),J⟩
    refine aG J (fA ur) (go 10 ?_);refine bP J (go 2 ?_);exact ⟨Y,(λq hq hlt2=>(jv q i).elim (λh9=>bp q hq h9) (λh9=>by have h8:i=q:=Y;subst h8;exact (by unfold iv;rw [h20,decide_eq_true (show 0 <= p.mutexes[i].size /\ p.mutexes[i].size <= 64 by omega),wd,decide_eq_false (show ¬0<p.mutexes[i].size by omega)];rfl))),bD (h1:=bI) (h:=ay J (cD Y) (ax J)) (λb hb=>eG _ (hb))⟩
   refine aD J (cP (bJ wd) (cV [] dH dG)) (go 14 ?_);refine bP J (go 2 ?_);exact ⟨Y,(λq hq hlt2=>(jv q i).elim (λh9=>bp q hq h9) (λh9=>by have h8:i=q:=Y;subst h8;exact (by unfold iv;rw [h20,decide_eq_true (show 0 <= p.mutexes[i].size /\ p.mutexes[i].size <= 64 by omega),wd];rfl))),bD (h1:=bI) (h:=ay J (cD Y) (ax J)) (λb hb=>eG _ (hb))⟩
  rw [h20] at aJp;subst aJp;refine go 34 ?_;exact az (s':=⟨bx,rw⟩) J fR ⟨bZ (Dz i Y (by unfold iv;rw [h20];rfl)),J⟩
 refine aG J (cv rx) (go 15 ?_);refine jr (λf=>∀q (h:q<p.funcs.length),q<f -> ga p.funcs[q]=true) (p.funcs.length) 6 (λf=>[(1,aF b1)]) nF (ax J) λf hf hvf=>?_;replace hvf:∀q (h:q<p.funcs.length),q<f -> ga p.funcs[q]=true:=hvf
 try dsimp only
 refine go 7 ?_;by_cases h32:(f:Int)<(p.funcs.length:Int)
 ·refine aI J (c_ h32) (go 9 ?_);have hfl:f<p.funcs.length:=Y;have hfs:=hs.funcs p.funcs[f] (getElem_mem hfl);have hfw:=qU bB.wt p.funcs f hfl;rw [show bB.wt p.funcs[f]=1+p.funcs[f].params.length+au p.funcs[f].body from rfl] at hfw;refine go 3 ?_;refine aD J (bf aZ aZ p.funcs mH (λ_=>J) f J J J J Y V fU dn) (go 10 λb3=>?_);refine cc J call72 J (uI p.funcs[f].name hfs.1 _) ?_;rintro _ _ ⟨aJq,rfl⟩;rcases bw (cG p.funcs[f].name) with h35|h35
  ·rw [h35] at aJq;subst aJq;refine go 5 ?_;by_cases h36:(6:Int)<((p.funcs[f].params.length:Nat):Int)
   ·refine aI J (e1 h36) (go 22 ?_);exact az (s':=⟨bx,rw⟩) J fR ⟨bZ (Bt f Y (by unfold ga;rw [decide_eq_false (show ¬p.funcs[f].params.length <= 6 by omega)];simp)),J⟩
   refine aG J (fA h36) (go 4 ?_);refine cc J call73 J (F1 _ 0 p.funcs[f].body (bX _) Y hfs.2.2 Y _) ?_;rintro _ _ ⟨aJr,rfl⟩;rcases bw (dC 0 p.funcs[f].body) with SW|SW
   ·rw [SW] at aJr;subst aJr;refine go 13 ?_;refine jr (λj=>∀q (h:q<p.funcs[f].params.length),q<j -> cG p.funcs[f].params[q].name=true) (p.funcs[f].params.length) 8 (λj=>[(1,aF b1),(6,ae f),(7,aF b3)]) nF (ax J) λj hj hvj=>?_;replace hvj:∀q (h:q<p.funcs[f].params.length),q<j -> cG p.funcs[f].params[q].name=true:=hvj
    try dsimp only
    refine go 7 ?_;by_cases h41:(j:Int)<((p.funcs[f].params.length:Nat):Int)
    ·refine aI J (c_ h41) (go 12 ?_);refine aD J (bf cC cC p.funcs[f].params iU (λ_=>J) j J J J J Y V iO gj) (go 2 ?_);refine cc J call72 J (uI p.funcs[f].params[j].name (hfs.2.1 _ (getElem_mem _)) _) ?_;rintro _ _ ⟨aJs,rfl⟩;rcases bw (cG p.funcs[f].params[j].name) with h44|h44
     ·rw [h44] at aJs;subst aJs;refine go 9 ?_;refine bP J (go 2 ?_);exact ⟨Y,(λq hq hlt2=>(jv q j).elim (λh9=>hvj q hq h9) (λh9=>by have h8:j=q:=Y;subst h8;exact h44)),(ay J (cD Y) (ax J))⟩
     rw [h44] at aJs;subst aJs;refine go 19 ?_;exact az (s':=⟨bx,rw⟩) J fR ⟨bZ (Bt f Y (by unfold ga;rw [qG (λx:bg=>cG x.name) _ j Y h44];simp)),J⟩
    refine aG J (cv h41) (go 11 ?_);refine bP J (go 2 ?_);exact ⟨Y,(λq hq hlt2=>(jv q f).elim (λh9=>hvf q hq h9) (λh9=>by have h8:f=q:=Y;subst h8;exact (by unfold ga;rw [h35,decide_eq_true (show p.funcs[f].params.length <= 6 by omega),SW,xd _ _ (λq hq=>hvj q hq Y)];rfl))),bD (h1:=bI) (h:=ay J (cD Y) (ax J)) (λb hb=>eG _ (hb))⟩
   rw [SW] at aJr;subst aJr;refine go 17 ?_;exact az (s':=⟨bx,rw⟩) J fR ⟨bZ (Bt f Y (by unfold ga;rw [SW];simp)),J⟩
  rw [h35] at aJq;subst aJq;refine go 28 ?_;exact az (s':=⟨bx,rw⟩) J fR ⟨bZ (Bt f Y (by unfold ga;rw [h35];rfl)),J⟩
 refine aG J (cv h32) (go 10 ?_);have hform:j0 p=true:=by unfold j0;rw [decide_eq_true Y,xd _ _ (λq hq=>hvk q hq Y),xd _ _ (λq hq=>bp q hq Y),xd _ _ (λq hq=>hvf q hq Y)];rfl
 have hpb:=DO hs hform;have hw0:p.wt <= 100000000:=hw;have hnz:(iG p).length <= 1000000000000000:=Y;refine go 1 ?_;refine cc J call74 J (Qy p hform hs Y hnz _) ?_;rintro _ _ ⟨rfl,rfl⟩;refine aX J (BB J J V J eE kj pi (by first|(rw [zq];omega)|omega) (N:=(iG p).length) J (cs:=ca (iG p)) J ?_);refine cc J call58 J (J5 (iG p) _) ?_;rintro _ _ ⟨(⟨tl52,aIk,rfl,htl52⟩|⟨p52,e52,aIk,rfl,he52⟩),rfl⟩
 ·refine go 12 ?_;refine aI J jz (go 4 ?_);exact az (s':=⟨bx,rw⟩) J cT ⟨bZ (by rw [ua,hform,aIk];rfl),J⟩
 refine go 12 ?_;refine aG J (bO Y) (go 4 ?_);exact az (s':=⟨bx,rw⟩) J cT ⟨bZ (by rw [ua,hform,aIk];rfl),J⟩
structure zO where
 globals:List Int
 mutexes:List cn
 procs:List wV
 main:Nat
def uY(u:zO):List aO:=[.sl u.globals.length (u.globals.map λx=>aA x),aB aT u.mutexes,aB gV u.procs,ap u.main]
def tp(p:aY):zO:=if (gY p).2.2=0 then ⟨p.globals.map b_.init,p.mutexes,p.funcs.map (ff p),(bQ (bd p) eK).n⟩ else ⟨[],[],[],0⟩
instance aCd{x:wV}:hY (gV x) 5:=⟨rfl⟩
instance aBK{x:wV}:iC (gV x) [ah x.name,ap x.ints,ap x.aH5,ap x.locals,aB encI x.code]:=⟨rfl⟩
def yR:∀{l:List bS} {s:aH} {v:bS},bM l s=some v -> v∈l
 |[],_,_,h=>iH
 |x::l,s,v,h=>by
  rw [bM] at h;split at h
  ·cases h;exact me
  exact eG _ (yR h)
def uA(p:aY):pX p (bd p):=by
 have h:∀v,v∈bd p -> (v.kind=2 -> v.n<p.mutexes.length) /\ (v.kind=3 -> v.n<p.funcs.length):=λv hv=>by
  unfold bd at hv;rcases mem_append.1 hv with hv|hv
  ·obtain ⟨i,hi,rfl⟩:=qI.1 hv;exact ⟨λh=>absurd h (by show ¬(1:Int)=2;decide),λh=>absurd h GN⟩
  rcases mem_append.1 hv with hv|hv
  ·obtain ⟨i,hi,rfl⟩:=qI.1 hv;exact ⟨λ_=>hi,λh=>absurd h Gy⟩
  obtain ⟨i,hi,rfl⟩:=qI.1 hv;exact ⟨λh=>absurd h (by show ¬(3:Int)=2;decide),λ_=>hi⟩
 exact ⟨λs v hf=>(h v (yR hf)).1,λs v hf=>(h v (yR hf)).2⟩
def Yl{p:aY}(h:gw p=false):gY p=(-1,-1,10):=by unfold gY;rw [if_pos h]
def n_.end_{p:aY}{b:Int}(h:n_ (bd p) (bd p).length b):(¬0 <= b -> jg [] (bd p)=none) /\ (0 <= b -> ∃i:Nat,b=(i:Int) /\ jg [] (bd p)=some i):=by
 rcases h with ⟨rfl,h⟩|⟨i,rfl,h⟩
 ·rw [mi (bX _),jg] at h;exact ⟨λ_=>h.symm,λh0=>Y⟩
 exact ⟨λh0=>Y,λ_=>⟨i,J,h⟩⟩
def SC{p:aY}{i:Nat}(h:gw p=true)(hb:jg [] (bd p)=some i):gY p=(-1,(i:Int),5):=by unfold gY;rw [if_neg oD,hb]
def Hl{p:aY}(h:gw p=true)(hb:jg [] (bd p)=none)(hm:np p=false):gY p=(-1,-1,9):=by unfold gY;rw [if_neg oD,hb];dsimp only;rw [if_neg (by rw [hm];decide)]
def Ls{p:aY}(h:gw p=true)(hb:jg [] (bd p)=none)(hm:np p=true):gY p=lS p p.funcs 0:=by unfold gY;rw [if_neg oD,hb];dsimp only;rw [if_pos hm]
def QY{p:aY}(h:(bM (bd p) eK).isSome=false):np p=false:=by
 unfold np;rcases h2:bM (bd p) eK with _|v
 ·rfl
 rw [h2] at h;cases h
def F7{p:aY}(h:(bM (bd p) eK).isSome=true):np p=(decide ((bQ (bd p) eK).kind=3) && decide ((kM p (bQ (bd p) eK).n).length=0)):=by unfold np;rw [mV h]
def JX{p:aY}{l:List bB}{k:Nat}{R:Int×Int×Nat}(hk:k<l.length)(h:lS p (l.drop k) k=R):
  ((kC p l[k]).1=0 -> lS p (l.drop (k+1)) (k+1)=R) /\ ((kC p l[k]).1≠0 -> R=((k:Int),(kC p l[k]).2,(kC p l[k]).1)):=by
 rw [ic hk,lS] at h;refine ⟨λh0=>?_,λh0=>?_⟩
 ·rw [if_pos h0] at h;exact h
 rw [if_neg h0] at h;exact h.symm
def D2{p:aY}{f s:Int}{e:Nat}(h:gY p=(f,s,e))(he:e≠0):tp p=⟨[],[],[],0⟩:=by unfold tp;rw [h,if_neg he]
def MG{p:aY}(h:gY p=(0,0,0)):tp p=⟨p.globals.map b_.init,p.mutexes,p.funcs.map (ff p),(bQ (bd p) eK).n⟩:=by unfold tp;rw [h];rfl
def Jk{α:Type}(f:α -> Int)(l:List α)(k:Nat)(h:k<l.length):((l.take k).map f).map (λx=>aO.val (.int .i64 x))++[aO.val (.int .i64 (f l[k]))]=((l.take (k+1)).map f).map λx=>aO.val (.int .i64 x):=by
 rw [gz h,fL,fL];rfl
def RG(p:aY)(hs:p.bt)(hw:p.wt <= 9000000)(bx:List aV)(rw:List aP):aU prog 18 [.agg (dl p)] [] ⟨bx,rw⟩ λt s'=>t=.fd [.agg (uY (tp p)),an ((gY p).1),an ((gY p).2.1),an (((gY p).2.2:Nat):Int)] /\ s'=⟨bx,rw⟩:=by
 have hall:=zJ p;have hwq:=hw;unfold aY.wt at hwq;have hfl:=oE bB.wt wL p.funcs;refine bR 112 func18 ?_;refine go 13 λb1 b2=>?_;rcases bw (gw p) with h1|h1
 ·refine tP J call38 J (Ka p hs Y _) h1 (go 9 ?_);refine aX J (rr [] J J V call39 J (Ph p Y _ _) dJ dJ (λ_=>dJ) ?_);rintro _ _ ⟨v0,bad,rfl,hbad,rfl⟩;refine ⟨aR v0,λhn b hb=>⟨Cf,λh9=>absurd h9 LR⟩,?_⟩;refine go 10 ?_;refine iX 6 J ?_;obtain ⟨hb0,hb1⟩:=hbad.end_;refine go 1 ?_;by_cases h3:(0:Int) <= bad
  ·refine aI J (nB h3) (go 15 ?_);obtain ⟨ib,rfl,hib⟩:=hb1 Y;have hck:=SC h1 hib;exact ⟨.inr J,_,⟨bx,rw⟩,qf J (gP (bL.agg (.n (.n (.n (.r .nil))))) (bu [] J J q_ qD (cH J J))) (bN J) (bN J) (bN J),ai cq (.refl _),BL,J⟩
  refine aG J (oQ h3) (go 8 ?_);refine cc J pv J (tW (bd p) eK Y _) ?_;rintro _ _ ⟨rfl,rfl⟩;refine go 12 λb3=>?_;rcases bw ((bM (bd p) eK).isSome) with h6|h6;focus
   refine aD J (cP (bJ (qc h6)) (jE J J)) (go 3 ?_);by_cases h7:(bQ (bd p) eK).kind=3
   ·refine aG J (fF h7) (go 6 ?_);have hms:(bQ (bd p) eK).n<p.funcs.length:=(uA p).fs _ _ (mV h6) Y;refine aD J (bf aZ aZ p.funcs mH (λ_=>J) ((bQ (bd p) eK).n) J J J J hms V fU dn) (go 3 ?_);by_cases h8:(0:Int)<(((p.funcs[(bQ (bd p) eK).n].params).length:Nat):Int)
    ·refine aI J (e1 h8) (go 15 ?_);have hck:=Hl h1 (hb0 Y) (by rw [F7 h6,BP hms,decide_eq_false (show ¬p.funcs[(bQ (bd p) eK).n].params.length=0 by omega),rR]);exact ⟨.inr J,_,⟨bx,rw⟩,qf J (gP (bL.agg (.n (.n (.n (.r .nil))))) (bu [_] J J q_ qD (cH J J))) (bN J) (bN J) (bN J),ai eZ (.refl _),BL,J⟩
    refine aG J (fA h8) (go 6 ?_);have hmn:np p=true:=by rw [F7 h6,BP hms,decide_eq_true (show (bQ (bd p) eK).kind=3 by omega),decide_eq_true (show p.funcs[(bQ (bd p) eK).n].params.length=0 by omega)];rfl
    refine tT (λg:Nat×aN=>(⟨112,aR g.2++[g.1,b3,b2,b1],⟨⟨g.1,31,[aK,.val g.2,aK,aA (((bQ (bd p) eK).n:Nat):Int)]⟩::⟨b3,111,bW (bQ (bd p) eK)⟩::⟨b2,31,[aK,aK,aK,aA 0]⟩::⟨b1,27,dl p⟩::bx,⟨g.2,60,3,p.mutexes.length,p.mutexes.flatMap aT⟩::rw⟩,[(10,av (.pointer (some ⟨g.1,0,none⟩))),(1,aF b1),(2,aF b2),(3,an 0),(4,an 0),(5,an 0),(6,.c (.sl (bd p).length ((bd p).flatMap bW)))]⟩:AS)) ?_ ?_
    ·refine cB [b3,b2,b1] (aa [0,1,3,4] 5 (go 5 ?_));refine cA 2 7 J ?_ ?_;focus
      refine (fE gN gq λg4=>?_);refine cA 5 7 J ?_ ?_;focus
       refine (eU [] Tryz.t60 32 J J V J J gN aQ J J J J V (dD aT 3 (λ_=>J) p.mutexes) cN Y (cp p.mutexes.length) (λhn b hb=>cx (r:=(⟨(.slice (some ⟨g4,0,none⟩) 0 0),60,3,0,[]⟩:aP)) hn hb) cE.h (cg _) λw11=>?_);refine cY [(6,true),(7,false),(8,false)] 0 (go 4 λb9=>?_)
      rotate_left;refine (jm J J V Bs J λb9=>?_);refine aW 5 J J (eU [] Tryz.t60 32 J J V J J gN aQ J J J J V (dD aT 3 (λ_=>J) p.mutexes) cN Y (cp p.mutexes.length) (λhn b hb=>cx (r:=(⟨(.slice (some ⟨g4,0,none⟩) 0 0),60,3,0,[]⟩:aP)) hn hb) cE.h (cg _) λw11=>?_);refine cY [(6,true),(8,false)] 0 (go 3 ?_)
     rotate_left 2;refine (jm J J V Bs J λb9=>?_);refine aW 2 J J (fE gN gq λg10=>?_);refine aW 5 J J (eU [] Tryz.t60 32 J J V J J gN aQ J J J J V (dD aT 3 (λ_=>J) p.mutexes) cN Y (cp p.mutexes.length) (λhn b hb=>cx (r:=(⟨(.slice (some ⟨g10,0,none⟩) 0 0),60,3,0,[]⟩:aP)) hn hb) cE.h (cg _) λw11=>?_);refine cY [(6,true),(8,false)] 0 (go 3 ?_);all_goals
      refine bH ?_;exact ⟨(b9,w11),bD lB⟩
    rintro ⟨b12,mv⟩
    try dsimp only
    refine go 7 ?_;refine f_ 3 1 ?_;refine jS (α:=aN) (λk _=>True) (p.globals.length) 11 (λg=>aR g++(aR mv++[b12,b3,b2,b1])) (λk g=>⟨⟨b12,31,[.val g,.val mv,aK,aA (((bQ (bd p) eK).n:Nat):Int)]⟩::⟨b3,111,bW (bQ (bd p) eK)⟩::⟨b2,31,[aK,aK,aK,aA 0]⟩::⟨b1,27,dl p⟩::bx,⟨g,3,1,k,((p.globals.take k).map b_.init).map λx=>aA x⟩::⟨mv,60,3,p.mutexes.length,p.mutexes.flatMap aT⟩::rw⟩) (λ_=>[(1,aF b1),(2,aF b2),(3,an 0),(4,an 0),(5,an 0),(6,.c (.sl (bd p).length ((bd p).flatMap bW))),(10,aF b12)]) (.slice none 0 0) trivial (bD DR) ?_;rintro k v0 hk hik;replace hik:True:=hik
    try dsimp only
    refine go 7 ?_;by_cases h11:(k:Int)<(p.globals.length:Int)
    ·refine aI J (c_ h11) (go 7 ?_);refine lR 10 [b12,b3,b2,b1] [] #[true,true,true,true,true,true,true,true,true,true,false,false] aQ aQ aQ ?_;refine aa [0,1,2,3,4] 5 (go 6 ?_);refine ac 5 J (bf am am p.globals oU (λ_=>J) k J J J J Y V mt jX) (aa [6,7] 2 (go 3 ?_));refine aW 8 J J (bV (r:=[aA (p.globals[k].init)]) qA ?_);refine aW 9 J J (dQ [] DU J J V cN Y (N:=k+1) J (λhn b hb=>cx (r:=(⟨v0,3,1,k,((p.globals.take k).map b_.init).map λx=>aA x⟩:aP)) hn hb) cE.h (Jk b_.init p.globals k Y) λw13=>?_);refine bH ?_;refine id ?_;refine cY [(10,true),(11,false)] 0 (go 3 ?_);refine bH (go 4 ?_);refine bP J (go 2 ?_);exact ⟨Y,w13,trivial,bD (h:=ay J (cD Y) (ax J)) lB⟩
    refine aG J (cv h11) (go 11 ?_);obtain rfl:k=p.globals.length:=Y;rw [hG];refine go 4 ?_;refine f_ 79 5 ?_;refine jS (α:=aN) (λk _=>lS p (p.funcs.drop k) k=lS p p.funcs 0) (p.funcs.length) 12 (λg=>aR g++(aR v0++(aR mv++[b12,b3,b2,b1]))) (λk g=>⟨⟨b12,31,[.val v0,.val mv,.val g,aA (((bQ (bd p) eK).n:Nat):Int)]⟩::⟨b3,111,bW (bQ (bd p) eK)⟩::⟨b2,31,[aK,aK,aK,aA 0]⟩::⟨b1,27,dl p⟩::bx,⟨g,79,5,k,((p.funcs.take k).map (ff p)).flatMap gV⟩::⟨v0,3,1,p.globals.length,((p.globals).map b_.init).map λx=>aA x⟩::⟨mv,60,3,p.mutexes.length,p.mutexes.flatMap aT⟩::rw⟩) (λ_=>[(1,aF b1),(2,aF b2),(3,an 0),(4,an 0),(5,an 0),(6,.c (.sl (bd p).length ((bd p).flatMap bW))),(10,aF b12)]) (.slice none 0 0) J (bD DR) ?_;rintro k v2 hk hik;replace hik:lS p (p.funcs.drop k) k=lS p p.funcs 0:=hik
    try dsimp only
    refine go 7 ?_;by_cases n6:(k:Int)<(p.funcs.length:Int)
    ·refine aI J (c_ n6) (go 8 ?_);refine cB [b12,b3,b2,b1] (aa [0,1,2,3,4] 13 (go 6 ?_));refine ac 5 J (bf aZ aZ p.funcs mH (λ_=>J) k J J J J Y V fU dn) (aa [6] 11 (go 2 ?_));refine cA 7 13 J ?_ ?_;focus
      refine (da J J V call41 J (Av p p.funcs[k] (uA p) Y Eo _ _) ?_);rintro _ _ ⟨rfl,rfl⟩;refine cY [(8,true),(9,true),(10,true),(11,true),(12,true),(13,false),(14,false),(15,true),(16,true),(17,true)] 0 (go 11 λb14=>?_)
     rotate_left;refine (jm J J V AZ J λb16=>?_);refine aW 7 J J (da J J V call41 J (Av p p.funcs[k] (uA p) Y Eo _ _) ?_);rintro _ _ ⟨rfl,rfl⟩;refine cY [(8,true),(9,true),(10,true),(11,true),(12,true),(14,false),(15,true),(16,true),(17,true)] 0 (go 10 ?_);all_goals
      refine bH (go 5 ?_);by_cases h19:(((kC p p.funcs[k]).1:Nat):Int)=0
      ·refine aG J (fF h19) (go 9 ?_);refine aX J (bV (hf:=dc gV gV (ff p p.funcs[k]) J J J) P0 ?_);refine aX J (dQ [] KP J (dD gV 5 B3 _) V cN Y (N:=k+1) J (λ_=>cE.h) cE.h (wD (ff p) gV p.funcs k Y) λw17=>?_);refine go 7 ?_;refine bP J (go 2 ?_);exact ⟨Y,w17,((JX Y hik).1 Y),bD (h1:=bI) (h:=ay J (cD Y) (ax J)) lB⟩
      refine aI J (fl h19) (go 22 ?_);have hck:=((Ls h1 (hb0 Y) hmn).trans ((JX Y hik).2 Y));exact ⟨.inr J,_,⟨bx,rw⟩,qf J (gP (bL.agg (.n (.n (.n (.r .nil))))) (bu [_,_,_] J J q_ qD (cH J J))) (bN J) (bN J) (bN J),ai zF eZ,by rw [D2 hck Y,hck];rfl,J⟩
    refine aG J (cv n6) (go 10 ?_);obtain rfl:k=p.funcs.length:=Y;have hck:gY p=(0,0,0):=by rw [Ls h1 (hb0 Y) hmn,←hik,mi (bX _),lS]
    rw [hG];refine eD (cs':=[.val v0,.val mv,.sl p.funcs.length ((p.funcs.map (ff p)).flatMap gV),aA (((bQ (bd p) eK).n:Nat):Int)]) [] 2 J J ?_;show cO prog _ _ ⟨_,_,⟨⟨b12,31,[.val v0,.val mv,.sl p.funcs.length ((p.funcs.map (ff p)).flatMap gV),aA (((bQ (bd p) eK).n:Nat):Int)]⟩::⟨b3,111,bW (bQ (bd p) eK)⟩::⟨b2,31,[aK,aK,aK,aA 0]⟩::⟨b1,27,dl p⟩::bx,_⟩,_⟩ _;refine eD (cs':=[.sl p.globals.length ((p.globals.map b_.init).map λx=>aA x),.val mv,.sl p.funcs.length ((p.funcs.map (ff p)).flatMap gV),aA (((bQ (bd p) eK).n:Nat):Int)]) [] 0 J J ?_;show cO prog _ _ ⟨_,_,⟨⟨b12,31,[.sl p.globals.length ((p.globals.map b_.init).map λx=>aA x),.val mv,.sl p.funcs.length ((p.funcs.map (ff p)).flatMap gV),aA (((bQ (bd p) eK).n:Nat):Int)]⟩::⟨b3,111,bW (bQ (bd p) eK)⟩::⟨b2,31,[aK,aK,aK,aA 0]⟩::⟨b1,27,dl p⟩::bx,_⟩,_⟩ _;refine eD (cs':=[.sl p.globals.length ((p.globals.map b_.init).map λx=>aA x),aB aT p.mutexes,.sl p.funcs.length ((p.funcs.map (ff p)).flatMap gV),aA (((bQ (bd p) eK).n:Nat):Int)]) [] 1 J J ?_;show cO prog _ _ ⟨_,_,⟨⟨b12,31,[.sl p.globals.length ((p.globals.map b_.init).map λx=>aA x),aB aT p.mutexes,.sl p.funcs.length ((p.funcs.map (ff p)).flatMap gV),aA (((bQ (bd p) eK).n:Nat):Int)]⟩::⟨b3,111,bW (bQ (bd p) eK)⟩::⟨b2,31,[aK,aK,aK,aA 0]⟩::⟨b1,27,dl p⟩::bx,_⟩,_⟩ _;refine go 8 ?_;exact ⟨.inr J,_,⟨bx,rw⟩,qf J (bu [_,_] J J q_ qD (cH J J)) (bN J) (bN J) (bN J),ai tH (.refl _),by rw [MG hck,hck];unfold uY;dsimp only;first|(rw [gI,gI];rfl)|(unfold aB;rw [gI,gI];rfl),J⟩
   refine aI J (fl h7) (go 26 ?_);have hck:=Hl h1 (hb0 Y) (by rw [F7 h6,decide_eq_false (show ¬(bQ (bd p) eK).kind=3 by omega)];rfl)
  rotate_left;refine aD J (cP (bJ (qP h6)) (jE J J)) (go 30 ?_);have hck:=Hl h1 (hb0 Y) (QY h6);all_goals
   exact ⟨.inr J,_,⟨bx,rw⟩,qf J (gP (bL.agg (.n (.n (.n (.r .nil))))) (bu [_] J J q_ qD (cH J J))) (bN J) (bN J) (bN J),ai eZ (.refl _),BL,J⟩
 refine tP J call38 J (Ka p hs Y _) h1 (go 15 ?_);have hck:=Yl h1;exact ⟨.inr J,_,⟨bx,rw⟩,qf J (gP (bL.agg (.n (.n (.n (.r .nil))))) (bu [] J J q_ qD (cH J J))) (bN J) (bN J) (bN J),ai cq (.refl _),BL,J⟩
instance aBN{x:zO}:hY (uY x) 4:=⟨rfl⟩
instance Zj{x:zO}:iC (uY x) [.sl x.globals.length (x.globals.map λx=>aA x),aB aT x.mutexes,aB gV x.procs,ap x.main]:=⟨rfl⟩
def W2{bx:List aV}{rw rw':List aP}(h:rw'.Perm rw):jj ⟨bx,rw⟩ ⟨bx,rw'⟩:=by
 intro w hm;have hp:((⟨bx,rw'⟩:aJ).bl).Perm ((⟨bx,rw⟩:aJ).bl):=Il (List.Perm.refl _) (h.flatMap_right _);have hu:f7 (bj (⟨bx,rw⟩:aJ).bl w) (bj (⟨bx,rw'⟩:aJ).bl w):=up_sub λb hb=>hp.mem_iff.1 hb;exact ⟨⟨hp.nodup_iff.2 hm.nodup,λb hb=>hm.lt b (hp.mem_iff.1 hb),λx hx=>let ⟨us,e,r⟩:=hm.box x hx;⟨us,e,r.mono hu⟩,λx hx=>let ⟨us,e,r⟩:=hm.row x (h.mem_iff.1 hx);⟨us,e,r.mono hu⟩⟩,λb hb=>hp.mem_iff.1 hb⟩
def YO{P:Program}{ops:Array Oper}{l:List Oper}{n:Nat}{T:List Nat}{bx:List aV}{rw:List aP}{ts:List (Nat×AT)}{Q:Exit -> AS -> Prop}{a b:aP}(h:cO P ops l ⟨n,T,⟨bx,b::a::rw⟩,ts⟩ Q):cO P ops l ⟨n,T,⟨bx,a::b::rw⟩,ts⟩ Q:=uZ (qx (W2 (.swap _ _ _))) h
def Vy{l:bq}{s:aH}(h:dX l s=none)(a:Int):(dB l s a).length=l.length+1:=by
 induction l with
 |nil=>rfl
 |cons p l ih=>
  unfold dX at h;split at h
  ·cases h
  rename_i h1;unfold dB;rw [if_neg h1,length_cons,ih h,length_cons]
def dx.aOr{gs ms fs lk lo:bq}{l:List bS}(m:dx gs ms fs lk lo l){s:aH}(h:bM l s=none):dX lk s=none:=by rw [m.lk,h]
def dx.lkp{gs ms fs lk lo:bq}{l:List bS}(m:dx gs ms fs lk lo l){s:aH}(h:bM l s=none)(n:Nat):dx gs ms fs (dB lk s (n:Int)) lo (l++[⟨s,5,n⟩]):=by
 refine ⟨λt=>?_,λt=>?_,λt v hv hk=>?_,λt v hv hk=>?_,λt v hv hk=>?_⟩
 ·rw [mu,m.lo t];by_cases e:s=t
  ·subst e;rw [h];dsimp only;rw [if_pos rfl];rfl
  rcases bM l t with _|v
  ·dsimp only;rw [if_neg e]
  rfl
 ·rw [p',mu,m.lk t];by_cases e:s=t
  ·subst e;rw [if_pos rfl,h];dsimp only;rw [if_pos rfl];rfl
  rw [if_neg e];rcases bM l t with _|v
  ·dsimp only;rw [if_neg e]
  rfl
 all_goals
  rw [mu] at hv;rcases h1:bM l t with _|u
  ·rw [h1] at hv;dsimp only at hv;split at hv
   ·cases hv;cases hk
   cases hv
  rw [h1] at hv;obtain rfl:=mT hv
  first|exact m.gs t u h1 hk|exact m.ms t u h1 hk|exact m.fs t u h1 hk
def Xq{ps:List bg}{l:List bS}{i m k:Nat}{r:List bS×Nat×Nat}(hk:k<ps.length)(h:iA (ps.drop k) l i m=some r):
  bM l ps[k].name=none /\ (ps[k].mutex=true -> iA (ps.drop (k+1)) (l++[⟨ps[k].name,5,m⟩]) i (m+1)=some r) /\ (ps[k].mutex=false -> iA (ps.drop (k+1)) (l++[⟨ps[k].name,4,i⟩]) (i+1) m=some r):=by
 rcases h0:bM l ps[k].name with _|v
 ·exact ⟨J,(y2 hk h).2 Bz⟩
 have:=(y2 hk h).1 Bz;cases this
def MW{p:aY}{f:bB}(h:(kC p f).1=0):∃l i m,iA f.params (bd p) 0 0=some (l,i,m) /\ (cR p f.body (ak.init l i)).q.1=0:=by
 unfold kC at h;split at h
 ·cases h
 rename_i l i m h1;exact ⟨l,i,m,h1,h⟩
def PL(A B:List aV)(D gg gm gf:Nat)(p:aY)(gs ms fs:bq)(c3 c4 c5 c6 c7 c8:aO)(rw:List aP)(f:bB)(hM:dx gs ms fs [] [] (bd p))(hgg:ao gg 0 bE gs∈rw)(hgm:ao gm 0 bE ms∈rw)(hgf:ao gf 0 bE fs∈rw)(hok:pX p (bd p))(hl:(bd p).length <= 10000000)(hw:f.wt <= 20000000)(hkn:l9 f.body)(hE:(kC p f).1=0):aU prog 27 [aF D,.agg (aZ f)] [D] ⟨A++⟨D,77,[aC gg,aC gm,aC gf,c3,c4,c5,c6,c7,c8]⟩::B,rw⟩ λt s'=>t=.agg (gV (ff p f)) /\ ∃c3' c4' c5' c6' c8',s'=⟨A++⟨D,77,[aC gg,aC gm,aC gf,c3',c4',c5',c6',.sl (l_ p f).length ((l_ p f).map λx=>aA x),c8']⟩::B,rw⟩:=by
 have hwf:f.wt=1+f.params.length+au f.body:=J;refine bR 100 func27 ?_;refine go 14 λb1 b2=>?_;refine aX J (vW 0 (bE) J J V λgl=>?_);refine aX J (vW 0 (bE) J J V λgk=>?_);refine go 30 ?_;obtain ⟨l1,i1,m1,hp1,hq1⟩:=MW hE;refine jS (α:=List bS×Nat×Nat×bq×bq) (λk g=>iA (f.params.drop k) g.1 g.2.1 g.2.2.1=some (l1,i1,m1) /\ dx gs ms fs g.2.2.2.1 g.2.2.2.2 g.1 /\ dW g.2.2.2.2 /\ g.2.2.2.1.length=g.2.2.1 /\ g.2.1+g.2.2.1 <= k /\ g.1.length <= (bd p).length+k /\ pX p g.1) (f.params.length) 31 (λ_=>[gk,gl,b2,b1,D]) (λ_ g=>⟨⟨b2,79,[ah a_,aA 0,aA 0,aA 0,aK]⟩::⟨b1,67,[ah f.name,aB cC f.params,aB encS f.body]⟩::A++⟨D,77,[aC gg,aC gm,aC gf,aC gl,aC gk,ap g.2.1,aK,aK,aA 0]⟩::B,ao gk 0 bE g.2.2.2.1::ao gl 0 bE g.2.2.2.2::rw⟩) (λ_=>[(0,aF D),(3,aF b1),(4,aF b2),(29,.c (aB cC f.params)),(30,ae f.params.length)]) (bd p,0,0,[],[]) ⟨hp1,hM,List.Pairwise.nil,J,bX _,bX _,hok⟩ (bD jU) ?_;rintro k ⟨l,i,m,lk,lo⟩ hk ⟨PJ,hM,hK,hlk,him,hll,hlo⟩;dsimp only at PJ hM hK hlk him hll hlo
 try dsimp only
 refine go 2 ?_;by_cases h1:(k:Int)<(f.params.length:Int)
 ·refine aI J (c_ h1) (go 10 ?_);refine aD J (bf cC cC f.params iU (λ_=>J) k J J J J Y V iO gj) (go 7 λb5=>?_);have hkp:k<f.params.length:=Y;have hps:=Xq hkp PJ;refine go 2 ?_;rcases bw (f.params[k].mutex) with h3|h3
  ·refine aD J (cP (bJ h3) (cV [] dH dG)) (go 4 ?_);refine lR 11 [b5,b2,b1,D,gl,gk] [] #[true,true,true,true,true,true,true,true,true,true,true,false] aQ aQ aQ ?_;refine aa [0,1,2,3,4,5,6,7,8,9] 1 (go 11 ?_);refine ac 10 J (OX (m:=0) (ev:=bE) lk J J aL xB mD nC) ?_;refine bH ?_;refine id ?_;refine aW 11 J J (qn lk [] J J J J J mD eE aL rV ?_);refine bH (go 6 ?_);refine bP J (go 2 ?_);exact ⟨Y,(l++[⟨f.params[k].name,5,m⟩],i,m+1,dB lk f.params[k].name (lk.length:Int),lo),⟨hps.2.1 h3,(by dsimp only;rw [hlk];exact hM.lkp hps.1 m),hK,by show (dB _ _ _).length=m+1;rw [Vy (hM.aOr hps.1),hlk],pQ,BM,hlo.app (by show (5:Int)≠2;decide) Gu⟩,bD (h1:=bI) (h:=ay J (cD Y) (ax J)) jU⟩
  refine aD J (cP (bJ h3) (cV [] dH dG)) (go 6 ?_);refine lR 10 [b5,b2,b1,D,gl,gk] [] #[true,true,true,true,true,true,true,true,true,true,false] aQ aQ aQ ?_;refine aa [0,1,2,3,4,5,6,7,8,9] 0 (go 11 ?_);refine bH ?_;refine id ?_;refine aW 10 J J (qn lo [_] J J J J J mD eE aL rV ?_);refine bH (go 6 ?_);refine bP J (go 2 ?_);refine ct 62 J (t:=ae (i+1)) (cD Y) (go 5 ?_);refine bP J (go 2 ?_);exact ⟨Y,(l++[⟨f.params[k].name,4,i⟩],i+1,m,lk,dB lo f.params[k].name (i:Int)),⟨hps.2.2 h3,hM.var hps.1 i,hK.put _ _,hlk,pQ,BM,hlo.app GW ze⟩,bD (h1:=bI) (h:=ay J (cD Y) (ax J)) jU⟩
 refine aG J (cv h1) (go 10 ?_);refine cB [b2,b1,D,gk,gl] (aa [0,1,2,3,4,5,6,7,8,9] 4 (go 11 ?_));refine ac 10 J (OX (m:=0) (ev:=bE) lk J J aL xB mD nC) ?_;refine ac 11 J (id <|y_ Tryz.t79 [(0,1),(1,1),(2,1),(3,1),(4,1)] J (.cons J (.cons J (.cons J .nil))) underlying79 aQ J aQ J J) ?_;refine wK 77 J (bL.refl _:bL _ (.agg [ah f.name,ap i,ap lk.length,aA 0,aK])) ?_;refine aW 12 J J (id <|jm J J V AZ J λb6=>?_);refine aW 13 J J (id <|Ov J J J J J uT J (fS J) (Cs J) aL Ks ?_);refine bH (go 3 ?_);obtain rfl:k=f.params.length:=Y;have hpl:iA f.params (bd p) 0 0=some (l,i,m):=by rw [hp1,←PJ,mi (bX _),iA]
 obtain ⟨rfl,rfl,rfl⟩:l1=l /\ i1=i /\ m1=m:=by rw [hp1] at hpl;cases hpl;exact ⟨rfl,rfl,rfl⟩
 refine YO ?_;refine vk 3 1 ?_;refine vk 92 12 ?_;refine go 3 ?_;have hlk2:du p (ak.init l1 i1) (au f.body+1):=⟨hlo,Bu,J,Bu,by show i1+_ <= _;omega,by show l1.length+_ <= _;omega⟩;have hbk:=x9 p f.body (ak.init l1 i1) 1 hlk2;have hW4:oY gg gm gf gk gs ms fs lk (ao gk 0 bE lk::rw):=⟨by simp [hgg],by simp [hgm],u',aL⟩;refine aX J (zk J J V call51 J (IM _ f.body (bX _) hkn (_::_::_::A) B D gg gm gf gk gl p (ak.init l1 i1) gs ms fs lk lo (.slice none 0 0) (.slice none 0 0) (ao gk 0 bE lk::rw) hM hW4 hK (hlk2.mono Y) hq1) aL aL qe qe (λ_=>⟨aL,aL,qe,qe⟩) λvc7 vs7 lo7 hp7=>?_);refine go 10 ?_;refine ct 87 J ((bL.agg (.r (.r (.r (.r (.r (.r (.n (.r (.r (.n (.n (.n .nil))))))))))))):bL _ (.agg (encI (bh 8 .zero)))) ?_;have hz8:(aM p f.body (ak.init l1 i1)).code.length <= 100000000 /\ (aM p f.body (ak.init l1 i1)).sites.length=(aM p f.body (ak.init l1 i1)).code.length:=⟨by have:=hbk.code;omega,hbk.sites⟩;refine aX J (iT J J V px J (pc (_::_::_::A) B D gg gm gf gk gl (aM p f.body (ak.init l1 i1)) vc7 vs7 _ (bh 8 .zero) (aM p f.body (ak.init l1 i1)).n hz8.1 hz8.2) aL cE.h cE.h iY λvc8 vs8=>?_);refine go 3 ?_;refine cB [b2,b1,D] (cY [(0,true),(1,true),(2,true),(3,true),(4,true),(5,true),(6,true),(7,true),(8,true),(9,false),(10,true),(11,false)] 0 (go 13 ?_));refine bH (go 2 ?_);refine Bb (cs':=[ah f.name,ap i1,ap lk.length,aA ((((aM p f.body (ak.init l1 i1)).put (bh 8 .zero) (aM p f.body (ak.init l1 i1)).n).locals:Nat):Int),.sl ((aM p f.body (ak.init l1 i1)).put (bh 8 .zero) (aM p f.body (ak.init l1 i1)).n).code.length (((aM p f.body (ak.init l1 i1)).put (bh 8 .zero) (aM p f.body (ak.init l1 i1)).n).code.flatMap encI)]) [] 4 J J ?_;refine Bb (cs':=[aC gg,aC gm,aC gf,aC gl,aC gk,aA ((((aM p f.body (ak.init l1 i1)).put (bh 8 .zero) (aM p f.body (ak.init l1 i1)).n).locals:Nat):Int),.val vc8,.sl ((aM p f.body (ak.init l1 i1)).put (bh 8 .zero) (aM p f.body (ak.init l1 i1)).n).sites.length (((aM p f.body (ak.init l1 i1)).put (bh 8 .zero) (aM p f.body (ak.init l1 i1)).n).sites.map λx=>aA x),aA ((((aM p f.body (ak.init l1 i1)).put (bh 8 .zero) (aM p f.body (ak.init l1 i1)).n).n:Nat):Int)]) (_::_::_::A) 7 J J ?_
 refine go 6 ?_;subst hlk;exact ⟨.inr J,_,⟨A++⟨D,77,[aC gg,aC gm,aC gf,aC gl,aC gk,(aA ((((aM p f.body (ak.init l1 i1)).put (bh 8 .zero) (aM p f.body (ak.init l1 i1)).n).locals:Nat):Int)),.val vc8,.sl ((aM p f.body (ak.init l1 i1)).put (bh 8 .zero) (aM p f.body (ak.init l1 i1)).n).sites.length (((aM p f.body (ak.init l1 i1)).put (bh 8 .zero) (aM p f.body (ak.init l1 i1)).n).sites.map λx=>aA x),(aA ((((aM p f.body (ak.init l1 i1)).put (bh 8 .zero) (aM p f.body (ak.init l1 i1)).n).n:Nat):Int))]⟩::B,rw⟩,bK J (bu [_] J J isAgg79 uT (cH J J)),ai eZ cq,by unfold ff;rw [hp1];rfl,_,_,_,_,_,by unfold l_;rw [hp1];rfl⟩
end
section
def E9(fs fs':dT):Prop:=∀s,(dX fs s).map bB.params=(dX fs' s).map bB.params
def E9.put{fs fs':dT}(h:E9 fs fs')(k:aH){f f':bB}(hp:f.params=f'.params):E9 (dB fs k f) (dB fs' k f'):=λs=>by
 rw [p',p'];split
 ·simp [hp]
 exact h s
end
section
def gB(p:aY)(v:bS):Int:=if v.kind=1∨v.kind=4 then 1 else if v.kind=2 then (if 0<rm p v.n then 3 else 2) else if v.kind=5 then 4 else if v.kind=3 then 5 else 9
def tE(p:aY):Option bS -> Int
 |none=>0
 |some v=>gB p v
def yW(p:aY)(x:bS):(x.kind=2 /\ 0<rm p x.n /\ gB p x=3)∨(x.kind=2 /\ ¬0<rm p x.n /\ gB p x=2)∨(x.kind=5 /\ gB p x=4)∨(x.kind≠2 /\ x.kind≠5 /\ (x.kind=1∨x.kind=4) /\ gB p x=1)∨(x.kind=3 /\ gB p x=5)∨(x.kind≠1 /\ x.kind≠2 /\ x.kind≠3 /\ x.kind≠4 /\ x.kind≠5 /\ gB p x=9):=by
 unfold gB;by_cases h1:x.kind=1∨x.kind=4
 ·rw [if_pos h1];exact .inr (.inr (.inr (.inl ⟨Y,Y,h1,rfl⟩)))
 rw [if_neg h1];by_cases h2:x.kind=2
 ·rw [if_pos h2];by_cases hm:0<rm p x.n
  ·rw [if_pos hm];exact .inl ⟨h2,hm,rfl⟩
  rw [if_neg hm];exact .inr (.inl ⟨h2,hm,rfl⟩)
 rw [if_neg h2];by_cases h5:x.kind=5
 ·rw [if_pos h5];exact .inr (.inr (.inl ⟨h5,rfl⟩))
 rw [if_neg h5];by_cases h3:x.kind=3
 ·rw [if_pos h3];exact .inr (.inr (.inr (.inr (.inl ⟨h3,rfl⟩))))
 rw [if_neg h3];exact .inr (.inr (.inr (.inr (.inr ⟨Y,h2,h3,Y,h5,rfl⟩))))
def uN(p:aY)(v:bS):gB p v≠0:=by rcases yW p v with h|h|h|h|h|h<;>omega
structure lU (p:aY) (fs:dT) (v:bq) (l:List bS):Prop where
 kn:dW v
 get:∀s,bz v s=tE p (bM l s)
 fn:∀s x,bM l s=some x -> x.kind=3 -> ∃f,dX fs s=some f /\ kM p x.n=f.params
section
variable {p:aY}{fs:dT}{v:bq}{l:List bS}(h:lU p fs v l)
include h
theorem N2(s:aH):qB v s=fI l s:=by
 unfold qB fI;rw [h.get s];rcases bM l s with _|x
 ·rfl
 show (if gB p x=0 then 6 else if gB p x=1 then 0 else 8)=if x.kind=1∨x.kind=4 then 0 else 8
 rw [if_neg (uN p x)];rcases yW p x with ⟨h2,-,e⟩|⟨h2,-,e⟩|⟨h2,e⟩|⟨-,-,h2,e⟩|⟨h2,e⟩|⟨h2,-,-,h3,-,e⟩<;>rw [e];rotate_left;rotate_left;rotate_left
 ·rw [if_pos h2];rfl
 rotate_left;all_goals
  rw [if_neg (Y:¬(x.kind=1∨x.kind=4))];rfl
end
mutual
def Cz{p:aY}{fs:dT}{v:bq}{l:List bS}(h:lU p fs v l):∀e:aS,jN v e=cW l e
 |.mk op num name args=>by rw [jN,cW,N2 h,Jh h args]
def Jh{p:aY}{fs:dT}{v:bq}{l:List bS}(h:lU p fs v l):∀r:List aS,lE v r=hP l r
 |[]=>by rw [lE,hP]
 |e::r=>by rw [lE,hP,Cz h e,Jh h r];rfl
end
section
variable {p:aY}{fs:dT}{v:bq}{l:List bS}(h:lU p fs v l)
include h
theorem On(r:cL)(hr:r.index.length <= 1):pJ v r=d9 p l r:=by
 have hix:hP l r.index=if r.index.length=0 then 0 else BD v r.index:=by
  rcases hi:r.index with _|⟨e,_|⟨a,b⟩⟩
  ·rw [hP];rfl
  ·rw [hP,hP,if_neg aL];show dP _ 0=jN v e;rw [Cz h];unfold dP;split<;>simp_all
  rw [hi] at hr;simp at hr
 unfold pJ d9 wX;rw [h.get r.name,hix];rcases bM l r.name with _|x
 ·rfl
 show (if gB p x=0 then 6 else if ((decide (gB p x≠2) && decide (gB p x≠3) && decide (gB p x≠4))||(decide (gB p x=3) != decide (0<r.index.length)))=true then 8 else if gB p x=3 then BD v r.index else 0)=dP (if x.kind=2∨x.kind=5 then (if (decide (x.kind=2) && decide (0<rm p x.n))=decide (0<r.index.length) then 0 else 8) else 8) _;rw [if_neg (uN p x)];have hlen:r.index.length=0∨r.index.length=1:=Y;rcases yW p x with ⟨h2,hm,e⟩|⟨h2,hm,e⟩|⟨h2,e⟩|⟨h2,h5,-,e⟩|⟨h2,e⟩|⟨-,h2,-,-,h5,e⟩<;>rw [e]
 ·rw [if_pos (Or.inl h2:x.kind=2∨x.kind=5),decide_eq_true h2,decide_eq_true hm];rcases hlen with h0|h0<;>rw [h0]<;>rfl
 ·rw [if_pos (Or.inl h2:x.kind=2∨x.kind=5),decide_eq_true h2,decide_eq_false hm];rcases hlen with h0|h0<;>rw [h0]<;>rfl
 ·rw [if_pos (Or.inr h2:x.kind=2∨x.kind=5),decide_eq_false (show ¬x.kind=2 by omega)];rcases hlen with h0|h0<;>rw [h0]<;>rfl
 ·rw [if_neg (Y:¬(x.kind=2∨x.kind=5))];rfl
 ·rw [if_neg (Y:¬(x.kind=2∨x.kind=5))];rfl
 rw [if_neg (Y:¬(x.kind=2∨x.kind=5))];rfl
theorem Px:∀(al:List cI)(xs:List bg),(∀a,a∈al -> a.mutex=true -> a.ref.index.length <= 1) -> jF v al xs=jG p l al xs
 |[],xs,_=>by cases xs<;>simp [jF,jG]
 |a::al,[],_=>by simp [jF,jG]
 |a::al,x::xs,hi=>by
  rw [jF,jG,Px al xs λb hb=>hi b (eG _ hb)];unfold nL vU;by_cases hm:a.mutex=x.mutex
  ·rw [if_pos hm,if_pos hm];by_cases hx:a.mutex=true
   ·rw [if_pos hx,if_pos hx,On h a.ref (hi a me hx)];rfl
   rw [if_neg hx,if_neg hx,Cz h];rfl
  rw [if_neg hm,if_neg hm];rfl
theorem Ya(s:aE)(hi:∀a,a∈s.args -> a.mutex=true -> a.ref.index.length <= 1):r8 v fs s.name s.args=eB p l s:=by
 unfold r8 eB;rw [h.get s.name];rcases hf:bM l s.name with _|x
 ·rfl
 show (if gB p x=0 then 6 else if gB p x=5 then MH v s.args (dX fs s.name) else 8)=if x.kind=3 then (if (kM p x.n).length=s.args.length then jG p l s.args (kM p x.n) else 7) else 8
 rw [if_neg (uN p x)];by_cases h3:x.kind=3
 ·obtain ⟨f,hl,hp⟩:=h.fn _ x hf h3;rw [if_pos h3,hl,hp,if_pos (show gB p x=5 by rcases yW p x with h|h|h|h|h|h<;>omega)];show (if s.args.length=f.params.length then jF v s.args f.params else 7)=_;rw [Px h _ _ hi];by_cases hl2:s.args.length=f.params.length
  ·rw [if_pos hl2,if_pos hl2.symm]
  rw [if_neg hl2,if_neg (λe=>hl2 e.symm)]
 rw [if_neg h3,if_neg];rcases yW p x with h|h|h|h|h|h<;>omega
end
end
section
mutual
def ux:aE -> Prop
 |.mk k _ _ r args t f=>(k=5∨k=6 -> r.index.length <= 1) /\ (∀a,a∈args -> a.mutex=true -> a.ref.index.length <= 1) /\ (k≠7 -> k≠8 -> t=[]) /\ (k≠7 -> f=[]) /\ mf t /\ mf f
def mf:List aE -> Prop
 |[]=>True
 |s::l=>ux s /\ mf l
end
def Kh{r:cL}(h:okRefB r=true):r.index.length <= 1:=by have:=(BJ h).2.1;omega
mutual
def RH:∀(D:Nat)(s:aE),fw D s=true -> ux s
 |D,.mk k name e r args t f,h=>by
  rw [fw] at h;simp only [di,nN,decide_eq_true_eq] at h;obtain ⟨⟨⟨⟨⟨⟨-,-⟩,-⟩,h5⟩,-⟩,ha⟩,ht⟩:=h.1;have hf:=h.2;rw [ux];refine ⟨λhk=>?_,λa hm hx=>?_,λh7 h8=>?_,λh7=>?_,?_,?_⟩
  ·rw [if_pos hk] at h5;exact Kh h5
  ·have h9:=e0.1 ha a hm;unfold fX at h9;rw [if_pos hx,di] at h9;exact Kh h9.1
  ·rw [if_neg Y,decide_eq_true_eq] at ht;exact kJ.1 ht
  ·rcases hf with hf|hf
   ·exact kJ.1 hf
   exact absurd hf.1 h7
  ·by_cases hk:k=7∨k=8
   ·rw [if_pos hk] at ht;exact y0 (D+1) t ht
   rw [if_neg hk,decide_eq_true_eq] at ht;rw [kJ.1 ht,mf];trivial
  rcases hf with hf|hf
  ·rw [kJ.1 hf,mf];trivial
  exact y0 (D+1) f hf.2
def y0:∀(D:Nat)(l:List aE),dC D l=true -> mf l
 |_,[],_=>by rw [mf];trivial
 |D,s::l,h=>by
  rw [dC,di] at h;rw [mf];exact ⟨RH D s h.1,y0 D l h.2⟩
end
def ug(p:aY)(l:List bS)(s:aE):Nat:=
 if s.kind=1 then dP (fV l s.name) (cW l s.expr)
 else if s.kind=2 then dP (fI l s.name) (cW l s.expr)
 else if s.kind=5∨s.kind=6 then d9 p l s.ref
 else if s.kind=3∨s.kind=4 then eB p l s
 else if s.kind=7∨s.kind=8 then cW l s.expr else 0
def SU{p:aY}{fs:dT}{v:bq}{l:List bS}(h:lU p fs v l)(s:aE)(hr:s.kind=5∨s.kind=6 -> s.ref.index.length <= 1)(ha:∀a,a∈s.args -> a.mutex=true -> a.ref.index.length <= 1):kq v fs s=ug p l s:=by
 unfold kq ug;rw [Cz h,N2 h,Ya h s ha];by_cases h1:s.kind=1
 ·rw [if_pos h1,if_pos h1,h.get s.name];unfold fV;rcases bM l s.name with _|x
  ·rfl
  show (if gB p x=0 then _ else 5)=_;rw [if_neg (uN p x)];rfl
 rw [if_neg h1,if_neg h1];by_cases h2:s.kind=2
 ·rw [if_pos h2,if_pos h2];rfl
 rw [if_neg h2,if_neg h2];by_cases h5:s.kind=5∨s.kind=6
 ·rw [if_pos h5,if_pos h5,On h s.ref (hr h5)]
 rw [if_neg h5,if_neg h5]
def E5(p:aY)(s:aE)(x:ak)(h7:s.kind≠7)(h8:s.kind≠8):(ii p s x).q=cX x.q (ug p x.aq s) x.n /\ (ii p s x).n=x.n+1 /\ (ii p s x).aq=if s.kind=1 then x.aq++[⟨s.name,4,x.locals⟩] else x.aq:=by
 unfold ii ug;by_cases h1:s.kind=1
 ·rw [if_pos h1,if_pos h1,if_pos h1];exact ⟨rfl,rfl,rfl⟩
 rw [if_neg h1,if_neg h1,if_neg h1];by_cases h2:s.kind=2
 ·rw [if_pos h2,if_pos h2];exact ⟨rfl,rfl,rfl⟩
 rw [if_neg h2,if_neg h2];by_cases h3:s.kind=3∨s.kind=4
 ·rw [if_pos h3,if_neg (Y:¬(s.kind=5∨s.kind=6)),if_pos h3];exact ⟨rfl,rfl,rfl⟩
 rw [if_neg h3];by_cases h5:s.kind=5
 ·rw [if_pos h5,if_pos (.inl h5:s.kind=5∨s.kind=6)];exact ⟨rfl,rfl,rfl⟩
 rw [if_neg h5];by_cases h6:s.kind=6
 ·rw [if_pos h6,if_pos (.inr h6:s.kind=5∨s.kind=6)];exact ⟨rfl,rfl,rfl⟩
 rw [if_neg h6,if_neg (Y:¬(s.kind=5∨s.kind=6)),if_neg h3,if_neg (Y:¬(s.kind=7∨s.kind=8))];exact ⟨rfl,rfl,rfl⟩
def Oj{q:ir}(h:q.1≠0)(e:Nat)(s:Int):cX q e s=q:=by unfold cX;rw [if_neg (λhh=>h hh.1)]
def PX{q:ir}(h:q.1=0){e:Nat}(he:e≠0)(s:Int):cX q e s=(e,s):=by unfold cX;rw [if_pos ⟨h,he⟩]
mutual
def S3(p:aY):∀(s:aE)(x:ak),x.q.1≠0 -> (cw p s x).q=x.q
 |.mk k name e r args t f,x,h=>by
  have hb:(x.branch e).q=x.q:=Oj h _ _;have ht:(cR p t (x.branch e)).q=x.q:=by rw [vJ p t _ (by rw [hb];exact h),hb]
  rw [cw];split
  ·split
   ·exact ht
   show (cR p f _).q=_;rw [vJ p f _ (by show (cR p t (x.branch e)).q.1≠0;rw [ht];exact h)];exact ht
  split
  ·exact ht
  rename_i h7 h8;rw [(E5 p (.mk k name e r args t f) x h7 h8).1];exact Oj h _ _
def vJ(p:aY):∀(l:List aE)(x:ak),x.q.1≠0 -> (cR p l x).q=x.q
 |[],x,_=>by rw [cR]
 |s::l,x,h=>by
  have h1:=S3 p s x h;rw [cR,vJ p l _ (by rw [h1];exact h),h1]
end
end
section
open Go.RowKit
def M0(n:Int)(h0:fit n)(s:aJ):aU prog 123 [cM (an n)] [] s λt s'=>t=cK (bytes (fT n)) /\ s'=s:=by
 intro vs w hm _ hl hr;obtain ⟨v,rfl⟩:∃v,vs=[v]:=by
  cases vs with
  |nil=>cases hl
  |cons v vs=>cases vs with
   |nil=>exact ⟨v,rfl⟩
   |cons _ _=>simp at hl
 have h1:cU (bj s.bl w) (cM (an n)) v:=hr 0 aL aL;obtain rfl:=(Pv _ _ h1).val;refine (Tryz.strconv_Itoa n h0.1 h0.2 w (Ga h1).tab).mono ?_;rintro e w' ⟨rfl,k,os,rfl⟩;obtain ⟨hk,hm'⟩:=Ag hm (U5 w k os);have he:bytes (fT n)=⟨(Lib.itoa n).toArray⟩:=by rw [TA];rfl
 rw [he];exact ⟨_,_,s,J,⟨J,J⟩,cU.c _ _ (.val _ J),hm',hk,λb hb=>.inl hb⟩
def Rv(u:Nat)(bs:List UInt8)(v:aN)(bx:List aV)(rw:List aP)(hu:u<18446744073709551616)(hb:bs.length <= 100000000000000):aU prog 218 [cM (av v),av (.int .u64 (u:Int)),an 10] (aR v) ⟨bx,⟨v,5,1,bs.length,ca bs⟩::rw⟩ λt s'=>∃v',t=av v' /\ s'=⟨bx,⟨v',5,1,(bs++dF u).length,ca (bs++dF u)⟩::rw⟩:=by
 refine bR 36 func218 ?_;refine go 9 ?_;refine aI J jz (go 7 ?_);by_cases h2:(u:Int)<100;focus
  refine aI J (c_ h2) (go 7 ?_);refine aD J (QG J J J J J (wrap64 Y Y)) ?_;refine AD J call189 J (Wl u Y _) ?_;refine aX J (ya [] Tryz.t5 (z:=bytes (dF u)) J J V J J kj eE aQ J J J (by have:=Bg u;have:=CL hu;unfold maxLen;show bs.length+(dF u).length <= _;omega) (by have:=Bg u;have:=CL hu;show bs.length+(dF u).length <= _;omega) (@length_append _ bs (dF u)).symm J fu cm (pd bs (dF u)) λw3=>?_);refine go 6 ?_
 rotate_left;refine aG J (cv h2) (go 13 λb2=>?_);refine j6 0 J call190 J (Wk u Y hu _) (go 6 ?_);have hnd:=CL hu;refine aD J (Jf J J J J Y V runUnderlying250 sizeOf5) (go 1 ?_);have hnd:=CL hu;refine aX J (bm [b2] J J V call191 J (X9 b2 _ (List.replicate 24 0) u 24 bx _ hu dh V) (bY) (bY (h:=by simp [aJ.bl])) (λ_=>bY) ?_);rintro _ _ ⟨rfl,rfl⟩;refine go 6 ?_;refine aD J (Jf J J J J Y V runUnderlying250 sizeOf5) ?_;refine Xc 26 J Y V ?_;refine aX J (dQ [] wA J (by unfold ca;rw [gI,Bg,rZ]) Y cN Y (show bs.length+Lib.nDigits u=(bs++dF u).length by rw [length_append,Bg]) fu cm (pd bs (dF u)) λw3=>?_);refine go 5 ?_;all_goals
  exact ⟨.inr J,_,⟨bx,⟨w3,_,_,_,_⟩::rw⟩,bK J (bN J),ai (.refl _) (.refl _),⟨w3,J,J⟩⟩
def UX(n:Nat)(bs:List UInt8)(v:aN)(bx:List aV)(rw:List aP)(hn:n <= 9223372036854775807)(hb:bs.length <= 100000000000000):aU prog 214 [cM (av v),ae n,an 10] (aR v) ⟨bx,⟨v,5,1,bs.length,ca bs⟩::rw⟩ λt s'=>∃v',t=av v' /\ s'=⟨bx,⟨v',5,1,(bs++dF n).length,ca (bs++dF n)⟩::rw⟩:=by
 refine bR 21 func214 ?_;refine go 8 ?_;refine aD J (QG J J J J J (Ut Y Y)) (go 7 ?_);refine aG J (cv Y) (go 10 ?_);refine aX J (rN 0 J call218 J (Rv n bs v _ _ Y hb) cm fu λw1=>?_);refine go 4 ?_;exact ⟨.inr J,_,⟨bx,⟨w1,_,_,_,_⟩::rw⟩,bK J (bN J),ai (.refl _) (.refl _),⟨w1,J,J⟩⟩
def Tc(n:Nat)(bs:List UInt8)(v:aN)(bx:List aV)(rw:List aP)(hn:n <= 9223372036854775807)(hb:bs.length <= 100000000000000):aU prog 208 [cM (av v),ae n,an 10] (aR v) ⟨bx,⟨v,5,1,bs.length,ca bs⟩::rw⟩ λt s'=>∃v',t=av v' /\ s'=⟨bx,⟨v',5,1,(bs++dF n).length,ca (bs++dF n)⟩::rw⟩:=by
 refine bR 11 func208 ?_;refine go 10 ?_;refine aX J (rN 0 J call214 J (UX n bs v _ _ hn hb) cm fu λw1=>?_);refine go 4 ?_;exact ⟨.inr J,_,⟨bx,⟨w1,_,_,_,_⟩::rw⟩,bK J (bN J),ai (.refl _) (.refl _),⟨w1,J,J⟩⟩
def kv(op:Int):List UInt8:=if op=3 then [45] else if op=4 then [33] else oF op
def Xz:∀j (h:j<lq.length),lq[j]=bytes (kv j):=V
def lO(e:aS)(k:Nat):List UInt8:=(kF e.op 0 e.args).getD k []
def Cu(e:aS)(k:Nat)(h:k<e.args.length):lO e k=if kA e.op k e.args[k].op then [40]++bv e.args[k]++[41] else bv e.args[k]:=by
 unfold lO;have:=Ct e.op e.args 0 k h;rw [cp] at this;rw [EK,this];rfl
def FP{e:aS}(h:dv e=true):(e.args.length=0 /\ (e.op=1∨e.op=2))∨(e.args.length=1 /\ (e.op=3∨e.op=4))∨(e.args.length=2 /\ 5 <= e.op /\ e.op <= 17):=by
 rw [lG] at h;unfold kg at h;by_cases h0:fo e.op=0
 ·rw [if_pos h0] at h;cases h
 have ho:=Eg h0;rw [if_neg h0] at h;by_cases h7:fo e.op=7
 ·rw [if_pos h7] at h;simp only [di,decide_eq_true_eq] at h;have:=FM h7;omega
 rw [if_neg h7] at h;simp only [di,decide_eq_true_eq] at h;by_cases h6:fo e.op=6
 ·rw [if_pos h6] at h;have:=Qz h6;omega
 rw [if_neg h6] at h;have h1:¬(e.op=1∨e.op=2):=λhh=>h7 I8;have h2:¬(e.op=3∨e.op=4):=λhh=>h6 I8;omega
def Ns{e:aS}(h:dv e=true)(h2:e.args.length=2):bv e=lO e 0++([32]++kv e.op++[32])++lO e 1:=by
 have hk:=FP h;rw [qh];unfold kH lO kv;have hs:dN e.op<5:=IE;rw [if_neg Y,if_neg Y,if_neg Y,if_neg Y,if_pos hs,if_neg Y,if_neg Y];simp only [append_assoc]
def LL{e:aS}(h:dv e=true)(h1:e.args.length=1):bv e=kv e.op++lO e 0:=by
 have hk:=FP h;rw [qh];unfold kH lO kv;rw [if_neg Y,if_neg Y];by_cases h3:e.op=3
 ·rw [if_pos h3,if_pos h3];rfl
 rw [if_neg h3,if_neg h3,if_pos Y,if_pos Y];rfl
def J'{e:aS}(h2:e.op=2):bv e=e.name.data.toList:=by
 rw [qh];unfold kH;rw [if_neg Y,if_pos h2]
def QV{e:aS}(h1:e.op=1)(h:dv e=true):bv e=dF e.num.toNat /\ 0 <= e.num:=by
 rw [rL] at h;have hs:dN e.op=6:=IE;rw [if_pos hs] at h;simp only [di,lh,nN,decide_eq_true_eq] at h;have hn:0 <= e.num:=Y;rw [qh];unfold kH fT;rw [if_pos h1,if_neg Y,show e.num.natAbs=e.num.toNat by omega];exact ⟨J,hn⟩
def FS(e:aS)(k:Nat)(bs:List UInt8)(v:aN)(x:Nat)(bx:List aV)(rw:List aP)(hk:k<e.args.length)(hsh:dv e=true)(hb:bs.length+(lO e k).length <= 100000000000000)(ih:∀(bs:List UInt8)(v:aN)(bx:List aV)(rw:List aP),bs.length+(bv e.args[k]).length <= 100000000000000 -> aU prog 194 [cM (av v),.agg (bo e.args[k])] (aR v) ⟨bx,⟨v,5,1,bs.length,ca bs⟩::rw⟩ λt s'=>∃v',t=av v' /\ s'=⟨bx,⟨v',5,1,(bs++bv e.args[k]).length,ca (bs++bv e.args[k])⟩::rw⟩):aU prog 207 [cM (av v),ae k,aF x] (aR v) ⟨⟨x,87,bo e⟩::bx,⟨v,5,1,bs.length,ca bs⟩::rw⟩ λt s'=>∃v',t=av v' /\ s'=⟨⟨x,87,bo e⟩::bx,⟨v',5,1,(bs++lO e k).length,ca (bs++lO e k)⟩::rw⟩:=by
 refine bR 28 func207 ?_;refine go 10 ?_;rcases bw (kA e.op k e.args[k].op) with h1|h1
 ·refine d8 0 J call200 J (CS e k Y (mW hsh).1 (mW ((mW hsh).2 k Y)).1 _) h1 (go 7 ?_);refine cB [x] ?_;have hlk:=Cu e k hk;rw [h1] at hlk;have hl2:=congrArg List.length hlk;simp only [if_true,mz,if_false,length_append,length_cons,length_nil] at hl2;refine aa [0,3,4,5] 8 (go 5 ?_);refine ac 6 J (bf bc bo e.args g_ fv k J J J J Y V jY dw) (aa [7] 6 (go 2 ?_));refine cA 1 9 J ?_ ?_;focus
   refine (bV (r:=ca [40]) ko ?_);refine cA 2 9 J ?_ ?_;focus
    refine (dQ [] wA J J V BS h_ (show bs.length+1=(bs++[40]).length by simp only [length_append,length_cons,length_nil]) (λhn b hb=>gZ hn hb) cm (pd bs [40]) λw1=>?_);refine cA 8 9 J ?_ ?_;focus
     refine (rN 0 J call194 J (ih (bs++[40]) w1 _ _ h_) cm (λhn b hb=>gZ hn hb) λw2=>?_);refine aW 9 J J (bV (r:=ca [41]) ko ?_)
    rotate_left;refine (bV (r:=ca [41]) ko ?_);refine aW 8 J J (rN 0 J call194 J (ih (bs++[40]) w1 _ _ h_) cm (λhn b hb=>gZ hn hb) λw4=>?_)
   rotate_left 2;refine (bV (r:=ca [41]) ko ?_);refine aW 2 J J (dQ [] wA J J V BS h_ (show bs.length+1=(bs++[40]).length by simp only [length_append,length_cons,length_nil]) (λhn b hb=>gZ hn hb) cm (pd bs [40]) λw6=>?_);refine aW 8 J J (rN 0 J call194 J (ih (bs++[40]) w6 _ _ h_) cm (λhn b hb=>gZ hn hb) λw7=>?_)
  rotate_left 3;refine (bV (r:=ca [41]) ko ?_);refine aW 1 J J (bV (r:=ca [40]) ko ?_);refine aW 2 J J (dQ [] wA J J V BS h_ (show bs.length+1=(bs++[40]).length by simp only [length_append,length_cons,length_nil]) (λhn b hb=>gZ hn hb) cm (pd bs [40]) λw9=>?_);refine aW 8 J J (rN 0 J call194 J (ih (bs++[40]) w9 _ _ h_) cm (λhn b hb=>gZ hn hb) λw10=>?_);all_goals
   refine aW 10 J J (dQ [] wA J J V BS h_ (show ((bs++[40])++bv e.args[k]).length+1=(((bs++[40])++bv e.args[k])++[41]).length by simp only [length_append,length_cons,length_nil]) (λhn b hb=>gZ hn hb) cm (pd ((bs++[40])++bv e.args[k]) [41]) λw11=>?_);refine aa [11] 0 (go 2 ?_);refine bH (go 2 ?_);exact ⟨.inr J,_,⟨_,⟨w11,_,_,_,_⟩::rw⟩,bK J (bN J),ai (.refl _) (.refl _),⟨w11,J,(by rw [show (((bs++[40])++bv e.args[k])++[41])=bs++lO e k by rw [Cu e k hk,h1];simp only [if_true,mz,if_false,append_assoc]])⟩⟩
 refine d8 0 J call200 J (CS e k Y (mW hsh).1 (mW ((mW hsh).2 k Y)).1 _) h1 (go 6 ?_);have hlk:=Cu e k hk;rw [h1] at hlk;have hl2:=congrArg List.length hlk;simp only [if_true,mz,if_false,length_append,length_cons,length_nil] at hl2;refine go 4 ?_;refine aD J (bf bc bo e.args g_ fv k J J J J Y V jY dw) (go 1 ?_);refine aX J (rN 0 J call194 J (ih bs v _ _ h_) cm fu λw12=>?_);refine go 5 ?_;exact ⟨.inr J,_,⟨_,⟨w12,_,_,_,_⟩::rw⟩,bK J (bN J),ai (.refl _) (.refl _),⟨w12,J,(by rw [show (bs++bv e.args[k])=bs++lO e k by rw [Cu e k hk,h1];simp only [if_true,mz,if_false,append_assoc]])⟩⟩
def YZ:∀j,j<18 -> (kv ((j:Nat):Int)).length <= 2:=V
def UR(e:aS)(bs:List UInt8)(v:aN)(bx:List aV)(rw:List aP)(hsh:dv e=true)(hN:e.nodes <= 1000000000)(hs:fit e.num)(hb:bs.length+(bv e).length <= 100000000000000)(ih:∀k (h:k<e.args.length) (bs:List UInt8) (v:aN) (bx:List aV) (rw:List aP),bs.length+(bv e.args[k]).length <= 100000000000000 -> aU prog 194 [cM (av v),.agg (bo e.args[k])] (aR v) ⟨bx,⟨v,5,1,bs.length,ca bs⟩::rw⟩ λt s'=>∃v',t=av v' /\ s'=⟨bx,⟨v',5,1,(bs++bv e.args[k]).length,ca (bs++bv e.args[k])⟩::rw⟩):aU prog 194 [cM (av v),.agg (bo e)] (aR v) ⟨bx,⟨v,5,1,bs.length,ca bs⟩::rw⟩ λt s'=>∃v',t=av v' /\ s'=⟨bx,⟨v',5,1,(bs++bv e).length,ca (bs++bv e)⟩::rw⟩:=by
 obtain ⟨hf1,hf2⟩:=hs;have hlen:=sJ e;refine bR 45 func194 ?_;refine Wr 0 1 J J ?_;refine go 8 λb1=>?_;refine aD J (QK (vs:=[.pointer (some ⟨b1,0,none⟩)]) J J) (go 7 ?_);have hin:=(mW hsh).1;have hkd:=FP hsh;obtain ⟨j,hj⟩:∃j:Nat,e.op=j:=⟨e.op.toNat,Y⟩;have aLz:j<lq.length:=by show j<18;omega
 have hsg:lq[j]=bytes (kv e.op):=by rw [hj];exact Xz j aLz
 have hpl:=YZ j aLz;rw [←hj] at hpl;refine aD J (WP 1 j J J J hj aLz J runUnderlying266 iK) ?_;refine aD J (cP (fh hsg) (ka J J rH iK J)) (go 20 ?_);by_cases h1:(e.args.length:Int)=2
 ·refine aI J (bU h1) (go 11 ?_);have htx:=congrArg List.length (Ns hsh Y);simp only [length_append,length_cons,length_nil] at htx;refine go 2 ?_;refine aX J (Et (us:=[ae 0]) (cap:=#[.pointer (some ⟨b1,0,none⟩)]) 1 J call207 J (FS e 0 bs v _ _ _ Y hsh h_ (ih 0 Y)) cm fu λw2=>?_);refine go 5 ?_;refine aD J (eb [32] (kv e.op) J J J J J) ?_;refine aD J (eb ([32]++(kv e.op)) [32] J J J J J) (go 6 ?_);refine cB [b1] (aa [0,1,2,4,5,6] 4 (go 7 ?_));refine ac 7 J (jq ((1:Nat):Int)) ?_;refine aW 3 J J (ya [] Tryz.t5 (z:=bytes (([32]++(kv e.op))++[32])) J J V J J kj eE aQ J J J MS Le (@length_append _ (bs++lO e 0) (([32]++(kv e.op))++[32])).symm J (λhn b hb=>gZ hn hb) cm (pd (bs++lO e 0) (([32]++(kv e.op))++[32])) λw3=>?_);refine aW 8 J J (Et (us:=[ae 1]) (cap:=#[.pointer (some ⟨b1,0,none⟩)]) 1 J call207 J (FS e 1 ((bs++lO e 0)++(([32]++(kv e.op))++[32])) w3 _ _ _ Y hsh h_ (ih 1 Y)) cm (λhn b hb=>gZ hn hb) λw4=>?_);refine aa [9] 0 (go 2 ?_);refine bH (go 5 ?_);exact ⟨.inr J,_,⟨bx,⟨w4,_,_,_,_⟩::rw⟩,bK J (bN J),ai bI (.refl _),⟨w4,J,(by rw [show (((bs++lO e 0)++(([32]++(kv e.op))++[32]))++lO e 1)=bs++bv e by rw [Ns hsh Y];simp only [append_assoc]])⟩⟩
 refine aG J (bO h1) (go 8 ?_);by_cases h4:(e.args.length:Int)=1
 ·refine aI J (bU h4) (go 12 ?_);refine cB [b1] ?_;have htx:=congrArg List.length (LL hsh Y);simp only [length_append,length_cons,length_nil] at htx;refine aa [0,1,2,4,5,6] 4 (go 7 ?_);refine ac 7 J (jq ((0:Nat):Int)) ?_;refine aW 3 J J (ya [] Tryz.t5 (z:=bytes (kv e.op)) J J V J J kj eE aQ J J J MS Le (@length_append _ bs (kv e.op)).symm J (λhn b hb=>gZ hn hb) cm (pd bs (kv e.op)) λw5=>?_);refine aW 8 J J (Et (us:=[ae 0]) (cap:=#[.pointer (some ⟨b1,0,none⟩)]) 1 J call207 J (FS e 0 (bs++(kv e.op)) w5 _ _ _ Y hsh h_ (ih 0 Y)) cm (λhn b hb=>gZ hn hb) λw6=>?_);refine aa [9] 0 (go 2 ?_);refine bH (go 5 ?_);exact ⟨.inr J,_,⟨bx,⟨w6,_,_,_,_⟩::rw⟩,bK J (bN J),ai bI (.refl _),⟨w6,J,(by rw [show ((bs++(kv e.op))++lO e 0)=bs++bv e by rw [LL hsh Y];simp only [append_assoc]])⟩⟩
 refine aG J (bO h4) (go 18 ?_);by_cases h7:e.op=2
 ·refine aI J (bU h7) (go 5 ?_);have htx:=congrArg List.length (J' (e:=e) Y);refine go 3 ?_;refine aX J (ya [] Tryz.t5 (z:=e.name) J J V J J kj eE aQ J J J (by unfold maxLen;show bs.length+e.name.data.toList.length <= _;omega) (by show bs.length+e.name.data.toList.length <= _;omega) (@length_append _ bs e.name.data.toList).symm J fu cm (pd bs e.name.data.toList) λw7=>?_);refine go 5 ?_;exact ⟨.inr J,_,⟨bx,⟨w7,_,_,_,_⟩::rw⟩,bK J (bN J),ai bI (.refl _),⟨w7,J,(by rw [show (bs++e.name.data.toList)=bs++bv e by rw [J' Y]])⟩⟩
 refine aG J (bO h7) (go 7 ?_);obtain ⟨htn,hn0⟩:=QV (e:=e) Y hsh;have htx:=congrArg List.length htn;have ro:e.num=(e.num.toNat:Int):=Y;refine go 2 ?_;refine aD J (cP (cD ro) (cV [] isAgg3 kx)) ?_;refine aX J (rN 1 J call208 J (Tc e.num.toNat bs v _ _ Y Y) cm fu λw8=>?_);refine go 4 ?_;exact ⟨.inr J,_,⟨bx,⟨w8,_,_,_,_⟩::rw⟩,bK J (bN J),ai bI (.refl _),⟨w8,J,(by rw [show (bs++dF e.num.toNat)=bs++bv e by rw [htn]])⟩⟩
def Uk{e:aS}(h:e.bt):fit e.num:=by cases e;rw [aS.bt] at h;exact h.1
def QJ:∀(N:Nat)(e:aS),e.nodes <= N -> N <= 1000000000 -> dv e=true -> e.bt -> ∀(bs:List UInt8)(v:aN)(bx:List aV)(rw:List aP),bs.length+(bv e).length <= 100000000000000 -> aU prog 194 [cM (av v),.agg (bo e)] (aR v) ⟨bx,⟨v,5,1,bs.length,ca bs⟩::rw⟩ λt s'=>∃v',t=av v' /\ s'=⟨bx,⟨v',5,1,(bs++bv e).length,ca (bs++bv e)⟩::rw⟩
 |0,e,h,_,_,_,_,_,_,_,_=>rq
 |N+1,e,h,hN,hsh,hs,bs,v,bx,rw,hb=>UR e bs v bx rw hsh Y (Uk hs) hb (λk hk bs v bx rw hb=>QJ N e.args[k] q6 Y ((mW hsh).2 k hk) (qR _ (Ge hs).2 _ (getElem_mem _)) bs v bx rw hb)
def CZ(e:aS):List UInt8:=if fJ e then bv e else []
def RV{e:aS}(h:fJ e=true):dv e=true:=by unfold fJ at h;rw [di] at h;exact h.1
def T7(e:aS)(hN:e.nodes <= 1000000000)(hs:e.bt)(hL:fJ e=true -> (bv e).length <= 100000000000000)(s:aJ):aU prog 173 [cM (.agg (bo e))] [] s λt s'=>t=cK (bytes (CZ e)) /\ s'=s:=by
 obtain ⟨bx,rw⟩:=s;refine bR 9 func173 ?_;refine go 10 λb1=>?_;rcases bw (fJ e) with h1|h1
 ·refine d8 0 J call163 J (zH e hN hs _) h1 (go 8 ?_);have hv:fJ e=true:=h1;have hsh:=RV hv;have htl:=hL hv;refine vk 5 1 ?_;refine go 1 ?_;refine aX J (rN 0 J call194 J (QJ _ e (bX _) Y hsh hs [] _ _ _ (by simp only [length_nil];omega)) qe (λ_ b hb=>D6) λw2=>?_);refine iX 7 J ?_;refine aD J (cP (fh (by rw [cg])) (lp J J J)) (go 4 ?_);exact az (s':=⟨bx,rw⟩) J cT ⟨mb (by unfold CZ;rw [if_pos hv]),J⟩
 refine d8 0 J call163 J (zH e hN hs _) h1 (go 11 ?_);exact az (s':=⟨bx,rw⟩) J cT ⟨mb (by unfold CZ;rw [if_neg (by rw [h1];decide)];rfl),J⟩
end
end Go.Proofs.YtjgeihmhppadaaaGreatDoor
