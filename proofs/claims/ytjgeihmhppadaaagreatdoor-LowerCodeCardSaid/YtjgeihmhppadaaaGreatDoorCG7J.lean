import Derived.Test.YtjgeihmhppadaaaGreatDoorCG6J
set_option linter.all false
set_option synthInstance.maxHeartbeats 1000000
set_option synthInstance.maxSize 1000000
set_option maxHeartbeats 6400000
set_option maxRecDepth 100000
namespace Go.Proofs.YtjgeihmhppadaaaGreatDoor
open Go.Proofs.Tryz
open List (length_append length_cons length_nil mem_append mem_cons not_mem_nil append_assoc getElem_mem take_of_length_le)
section
open Go.RowKit
section
variable {α:Type}{enc:α -> List aN}{z:Nat}(hz:∀x,(enc x).length=z){fs:List α}{k:Nat}(hk:k<fs.length)
include hz hk
theorem Kt:fs.flatMap enc=(fs.take k).flatMap enc++(enc fs[k]++(fs.drop (k+1)).flatMap enc) /\ ((fs.take k).flatMap enc).length=k*z:=by
 refine ⟨?_,?_⟩
 ·conv=>lhs;rw [←pq k fs,iK hk]
  rw [d4,fD]
 rw [fN enc z hz,j8,rT Y]
theorem TR:gV true z (fs.flatMap enc) (0+k*z)=some (.agg (enc fs[k])):=by
 obtain ⟨h1,h2⟩:=Kt hz hk;unfold gV;rw [if_pos rfl,h1,e0,Ao h2,r_ (hz _),if_pos (by rw [length_append,length_append,h2,hz];omega)]
theorem Ql(i:Nat)(x:aN)(hx:(enc fs[k])[i]?=some x):gV false 1 (fs.flatMap enc) (0+k*z+i)=some (.c x):=by
 obtain ⟨h1,h2⟩:=Kt hz hk;have hi:i<(enc fs[k]).length:=(mM.1 hx).1;unfold gV;rw [if_neg V,h1,e0,pc Y,h2,CW,rQ hi,hx];rfl
end
def Dz(v:aM)(l:List bK)(s:aG)(n:Nat)(hn:n=l.length)(hN:n <= 1000000000)(bx:List aT)(rw:List aS):aR prog 40 [au v,cB s] [] ⟨bx,⟨v,111,3,n,l.flatMap bP⟩::rw⟩ λt s'=>t=.tup [.agg (bP (bL l s)),ap ((bI l s).isSome)] /\ s'=⟨bx,⟨v,111,3,n,l.flatMap bP⟩::rw⟩:=by
 subst hn;unfold bL;refine bN 25 func40 ?_;refine go 13 λb1=>?_;refine jO (λk=>bI (l.drop k) s=bI l s) (l.length) 6 (λk=>[(0,au v),(1,cB s),(4,aE b1)]) J (ao J) λk hk hvk=>?_;replace hvk:bI (l.drop k) s=bI l s:=hvk
 try dsimp only
 refine go 5 ?_;refine aF J (lp [] J J J runUnderlying107) ?_;by_cases h1:((k:Nat):Int)<((l.length:Nat):Int)
 ·refine aC true J (ck h1) (go 8 ?_);refine pu [] Y λg cap hg=>?_;subst hg;refine go 3 ?_;refine aF J (jb (z:=3) k J J J J Y runUnderlying107 sizeOf111) ?_;refine aF J (id <|qL 0 (0+k*3+0) J J runUnderlying111 J sizeOf9 V J) ?_;refine aF J (wb [] J J J isAgg9 sizeOf9 (Ql lb (Y:k<l.length) 0 _ J) gr) (go 1 ?_);by_cases h3:l[k].name=s
  ·refine aF J (eo true J J J (nA h3)) (go 7 ?_);refine aF J (jb (z:=3) k J J J J Y runUnderlying107 sizeOf111) ?_;refine aF J (wb [] J J J isAgg111 sizeOf111 (TR lb (Y:k<l.length)) gr) (go 10 ?_);exact ⟨.inr J,_,⟨bx,⟨(.slice (some ⟨g,0,none⟩) l.length cap),111,3,l.length,l.flatMap bP⟩::rw⟩,iP J (cS [] J J isAgg111 sizeOf111 (cY J J)) (bM J),aj (.cons _ (.refl _)) (.refl _),by rw [Ff Y h3 hvk];rfl,J⟩
  refine aF J (eo false J J J (m9 h3)) (go 8 ?_);refine bJ J (go 2 ?_);exact ⟨Y,(JB Y h3 hvk),(av J (bv Y) (ao J))⟩
 refine aC false J (cg h1) (go 16 ?_);exact ⟨.inr J,_,⟨bx,⟨v,111,3,l.length,l.flatMap bP⟩::rw⟩,iP J (cS [] J J isAgg111 sizeOf111 (cY J J)) (bM J),aj (.cons _ (.refl _)) (.refl _),Im,J⟩
def yO(p:aZ):(ba p).length=p.globals.length+p.mutexes.length+p.funcs.length:=by unfold ba;simp;omega
def RR(p:aZ)(k:Nat)(h:k<p.globals.length):(ba p)[k]?=some ⟨p.globals[k].name,1,k⟩:=by
 unfold ba;rw [rQ iW,BM,jz h];rfl
def RB(p:aZ)(k j:Nat)(hj:k=p.globals.length+j)(h:j<p.mutexes.length):(ba p)[k]?=some ⟨p.mutexes[j].name,2,j⟩:=by
 unfold ba;rw [pc di,rQ di,BM,C3,show k-p.globals.length=j by omega,jz h];rfl
def U9(p:aZ)(k j:Nat)(hj:k=p.globals.length+p.mutexes.length+j)(h:j<p.funcs.length):(ba p)[k]?=some ⟨p.funcs[j].name,3,j⟩:=by
 unfold ba;rw [pc di,pc di,BM,C3,C3,show k-p.globals.length-p.mutexes.length=j by omega,jz h];rfl
def mL(l:List bK)(k:Nat)(b:Int):Prop:=(b=-1 /\ jJ (l.take k) (l.drop k)=jJ [] l)∨∃i:Nat,b=(i:Int) /\ jJ [] l=some i
def mL.yes{l:List bK}{k:Nat}{b:Int}{e:bK}(h:mL l k b)(he:l[k]?=some e)(hb:b<0)(hf:(bI (l.take k) e.name).isSome=true):mL l (k+1) (k:Int):=by
 rcases h with ⟨-,h⟩|⟨i,rfl,-⟩
 ·obtain ⟨hk,rfl⟩:=mM.1 he;rw [iK hk,jJ,if_pos hf,j8,rT Y] at h;exact .inr ⟨k,J,h.symm⟩
 omega
def mL.old{l:List bK}{k:Nat}{b:Int}(h:mL l k b)(hb:¬b<0):mL l (k+1) b:=by
 rcases h with ⟨rfl,-⟩|h
 ·omega
 exact .inr h
def mL.no{l:List bK}{k:Nat}{b:Int}{e:bK}(h:mL l k b)(he:l[k]?=some e)(hf:(bI (l.take k) e.name).isSome=false):mL l (k+1) b:=by
 rcases h with ⟨hb,h⟩|h
 ·obtain ⟨hk,rfl⟩:=mM.1 he;rw [iK hk,jJ,if_neg (by rw [hf];decide)] at h;exact .inl ⟨hb,by rw [ga hk];exact h⟩
 exact .inr h
def Cl{α:Type}{l:List α}{k:Nat}{e:α}(enc:α -> List aN)(he:l[k]?=some e):(l.take k).flatMap enc++[e].flatMap enc=(l.take (k+1)).flatMap enc:=by
 obtain ⟨hk,rfl⟩:=mM.1 he;rw [ga hk,d4]
def Tw(p:aZ)(hN:p.globals.length+p.mutexes.length+p.funcs.length <= 100000000)(bx:List aT)(rw:List aS):aR prog 39 [.agg (eA p)] [] ⟨bx,rw⟩ λt s'=>∃(v:aM) (b:Int),t=.tup [au v,bB b] /\ mL (ba p) (ba p).length b /\ s'=⟨bx,⟨v,111,3,(ba p).length,(ba p).flatMap bP⟩::rw⟩:=by
 refine bN 94 func39 ?_;refine go 25 λb1=>?_;refine bJ J (go 3 ?_);refine bJ J (go 10 ?_);have hall:=yO p;refine fZ 111 3 ?_;refine ff (λg:Nat×aM×Int=>(⟨94,aO g.2.1++[b1],⟨⟨b1,27,eA p⟩::bx,⟨g.2.1,111,3,g.1,((ba p).take g.1).flatMap bP⟩::rw⟩,(7,aX g.1)::[(4,au g.2.1),(5,bB g.2.2),(6,bB (((ba p).length:Nat):Int)),(1,aE b1)]⟩:AS)) (λg=>g.1 <= (ba p).length /\ mL (ba p) g.1 g.2.2) (λg=>(ba p).length-g.1) (0,.slice none 0 0,-1) (az (h:=av J (.refl _) (av J (.refl _) (av J (.refl _) (av J (bv Y) (ao J))))) sq) ⟨d2 _,.inl ⟨J,J⟩⟩ ?_;rintro ⟨k,v,bad⟩ ⟨hk,hbad⟩;dsimp only at hk hbad
 try dsimp only
 refine go 5 ?_;by_cases h1:((k:Nat):Int)<(((ba p).length:Nat):Int)
 ·refine aC true J (ck h1) (go 8 ?_);obtain ⟨e,he⟩:∃e,(ba p)[k]?=some e:=⟨_,jz (Y:k<(ba p).length)⟩;refine go 6 λb2=>?_;refine qS (λ_:Unit=>(⟨94,aO v++[b2,b1],⟨⟨b2,111,bP e⟩::⟨b1,27,eA p⟩::bx,⟨v,111,3,k,((ba p).take k).flatMap bP⟩::rw⟩,[(1,aE b1),(4,au v),(5,bB bad),(6,bB (((ba p).length:Nat):Int)),(7,aX k),(8,aE b2)]⟩:AS)) ?_ ?_
  ·refine go 6 ?_;refine aF J (mC) (go 7 ?_);by_cases h3:(((k:Nat):Int)-((p.globals.length:Nat):Int))<0;focus
    refine aC true J (ck h3) (go 8 ?_);refine aF J (bS ak ak p.globals nD (λ_=>J) k J J J J Y V runUnderlying23 sizeOf63) (go 7 ?_);have hE:=kz (he.symm.trans (RR p k Y))
   rotate_left;focus
    refine aC false J (cg h3) (go 6 ?_);refine d9 9 J (t:=aX (k-p.globals.length)) (bv Y) (go 4 ?_);by_cases h6:(((k-p.globals.length):Nat):Int)<((p.mutexes.length:Nat):Int);focus
     refine aC true J (ck h6) (go 8 ?_);refine aF J (bS aU aU p.mutexes kI (λ_=>J) (k-p.globals.length) J J J J Y V runUnderlying24 sizeOf60) (go 7 ?_);have hE:=kz (he.symm.trans (RB p k (k-p.globals.length) Y Y))
    rotate_left;refine aC false J (cg h6) (go 4 ?_);refine b_ [b1] (aY [0,1,2,3,4,5] 11 (go 7 ?_));refine ab 6 J (mC) ?_;refine tV 40 J (t:=aX (k-p.globals.length-p.mutexes.length)) (bv Y) ?_;refine ab 7 J (bS ac ac p.funcs mI (λ_=>J) (k-p.globals.length-p.mutexes.length) J J J J Y V runUnderlying25 sizeOf67) (aY [8,9,10,11,12,13] 3 (go 7 ?_));refine ab 14 J (mC) ?_;refine tV 48 J (t:=aX (k-p.globals.length-p.mutexes.length)) (bv Y) ?_;refine cU [(15,true),(16,false)] 0 (go 3 ?_);refine bG (go 1 ?_);have hE:=kz (he.symm.trans (U9 p k (k-p.globals.length-p.mutexes.length) Y Y))
   all_goals
    exact ⟨(),by rw [hE];exact az j4⟩
  rintro ⟨⟩
  try dsimp only
  refine go 6 ?_;refine cy J call40 J (Dz v ((ba p).take k) e.name _ (by first|rfl|(rw [j8];omega)) Y _ _) ?_;rintro _ _ ⟨rfl,rfl⟩;refine go 11 λb3=>?_;rcases bq ((bI ((ba p).take k) e.name).isSome) with h9|h9
  ·refine aF J (cI (bF h9) (nQ J J)) (go 1 ?_);by_cases h10:bad<0
   ·refine aC true J (ck h10) (go 12 ?_);refine aW J (be (hf:=dU bP bP e J J J) ql ?_);refine aW J (dR [] tZ J (fN bP 3 lb _) V c_ Y (N:=k+1) J Du bz.h (Cl bP he) λw4=>?_);refine go 6 ?_;refine bJ J (go 2 ?_);exact ⟨(k+1,w4,((k:Nat):Int)),⟨v_,hbad.yes he Y h9⟩,Bg,az (h1:=(.cons _ (.cons _ (.refl _)))) (h:=av J (bv Y) (ao J)) j4⟩
   refine aC false J (cg h10) (go 9 ?_);refine aW J (be (hf:=dU bP bP e J J J) ql ?_);refine aW J (dR [] tZ J (fN bP 3 lb _) V c_ Y (N:=k+1) J Du bz.h (Cl bP he) λw5=>?_);refine go 6 ?_;refine bJ J (go 2 ?_);exact ⟨(k+1,w5,bad),⟨v_,hbad.old Y⟩,Bg,az (h1:=(.cons _ (.cons _ (.refl _)))) (h:=av J (bv Y) (ao J)) j4⟩
  refine aF J (cI (bF h9) (nQ J J)) (go 11 ?_);refine aW J (be (hf:=dU bP bP e J J J) ql ?_);refine aW J (dR [] tZ J (fN bP 3 lb _) V c_ Y (N:=k+1) J Du bz.h (Cl bP he) λw6=>?_);refine go 6 ?_;refine bJ J (go 2 ?_);exact ⟨(k+1,w6,bad),⟨v_,hbad.no he h9⟩,Bg,az (h1:=(.cons _ (.cons _ (.refl _)))) (h:=av J (bv Y) (ao J)) j4⟩
 refine aC false J (cg h1) (go 17 ?_);obtain rfl:k=(ba p).length:=Y;rw [gq];refine ⟨.inr J,_,⟨bx,⟨v,111,3,(ba p).length,(ba p).flatMap bP⟩::rw⟩,iP J (bM J) (bM J),aj (.cons _ (.refl _)) (.refl _),_,bad,J,hbad,J⟩
end
section
open Go.RowKit
def PO{P:Program}{f:ResultVar -> Sem aM}{r1 r2 r3 r4:ResultVar}{v1 v2 v3 v4:aM}{w:aV}(aa:(f r1).run P w=.ok v1 w)(e2:(f r2).run P w=.ok v2 w)(e3:(f r3).run P w=.ok v3 w)(e4:(f r4).run P w=.ok v4 w):(#[r1,r2,r3,r4].mapM f).run P w=.ok #[v1,v2,v3,v4] w:=by
 simp [Sem.run_bind,aa,e2,e3,e4]
def Og{w:aV}{r1 r2 r3 r4:AT}{v1 v2 v3 v4:aM}(h1:cN w r1 v1)(h2:cN w r2 v2)(h3:cN w r3 v3)(h4:cN w r4 v4):cN w (.tup [r1,r2,r3,r4]) (.tuple #[v1,v2,v3,v4]):=
 .tup [r1,r2,r3,r4] [v1,v2,v3,v4] rfl λi h h'=>by rcases i with _|_|_|_|i;exact h1;exact h2;exact h3;exact h4;simp at h;omega
def oW{P:Program}{st:AS}{fn:Func}{rv1 rv2 rv3 rv4:ResultVar}{r1 r2 r3 r4:AT}(h:fn.results=#[rv1,rv2,rv3,rv4])(h1:lN P st rv1 r1)(h2:lN P st rv2 r2)(h3:lN P st rv3 r3)(h4:lN P st rv4 r4):mN P fn st (.tup [r1,r2,r3,r4]):=λa w hs=>by
 obtain ⟨v1,aa,f1⟩:=h1 a w hs;obtain ⟨v2,e2,f2⟩:=h2 a w hs;obtain ⟨v3,e3,f3⟩:=h3 a w hs;obtain ⟨v4,e4,f4⟩:=h4 a w hs;refine ⟨_,Og aa e2 e3 e4,?_⟩;unfold results;rw [h,Sem.run_bind]
 erw [PO f1 f2 f3 f4]
 simp [go_sem]
def fL(x:uD):List aN:=[ae x.name,am x.ints,am x.locks,am x.locals,aB encI x.code]
def tT(x:uD):(fL x).length=5:=rfl
def nX(p:aZ)(f:bE):List Int:=match hY f.params (ba p) 0 0 with
 |none=>[]
 |some (l,i,_)=>(tI p f l i).sites
def zF{P:Program}{c:Code}{n:Nat}{T:List Nat}{ts:List (Nat×AT)}{Q:Exit -> AS -> Prop}{rw:List aS}{b:Nat}{E:bA}{cs cs':List aN}{v:aM}{E2:bA}{z k:Nat}{ds:List aN}(A:List aT){B:List aT}(i:Nat)(hi:cs[i]?=some (.val v))(hr:cs.set i (.sl k ds)=cs')(h:bo P c ⟨n,T,⟨A++⟨b,E,cs'⟩::B,rw⟩,ts⟩ Q)(hz:0<z:=by decide):bo P c ⟨n,T,⟨A++⟨b,E,cs⟩::B,⟨v,E2,z,k,ds⟩::rw⟩,ts⟩ Q:=by
 subst hr;exact rA (qO (st:=⟨n,T,⟨A++⟨b,E,cs⟩::B,⟨v,E2,z,k,ds⟩::rw⟩,ts⟩) (Dd (r:=⟨v,E2,z,k,ds⟩) A i hi hz)) h
def wa{ps:List bp}{l:List bK}{i m k:Nat}{R:Option (List bK×Nat×Nat)}(hk:k<ps.length)(h:hY (ps.drop k) l i m=R):
  ((bI l ps[k].name).isSome=true -> R=none) /\ ((bI l ps[k].name).isSome=false -> (ps[k].mutex=true -> hY (ps.drop (k+1)) (l++[⟨ps[k].name,5,m⟩]) i (m+1)=R) /\ (ps[k].mutex=false -> hY (ps.drop (k+1)) (l++[⟨ps[k].name,4,i⟩]) (i+1) m=R)):=by
 rw [iK hk,hY] at h;refine ⟨λh0=>?_,λh0=>⟨λhm=>?_,λhm=>?_⟩⟩
 ·rw [if_pos h0] at h;exact h.symm
 ·rw [if_neg (by rw [h0];decide),if_pos hm] at h;exact h
 rw [if_neg (by rw [h0];decide),if_neg (by rw [hm];decide)] at h;exact h
def Gk(p:aZ)(f:bE)(hok:oH p (ba p))(hl:(ba p).length <= 10000000)(hw:f.wt <= 20000000)(bx:List aT)(rw:List aS):aR prog 41 [.agg (eA p),.c (.sl (ba p).length ((ba p).flatMap bP)),.agg (ac f)] [] ⟨bx,rw⟩ λt s'=>t=.tup [.agg (fL (gQ p f)),.c (.sl (nX p f).length ((nX p f).map λx=>aA x)),bB ((jY p f).2),bB (((jY p f).1:Nat):Int)] /\ s'=⟨bx,rw⟩:=by
 unfold bE.wt at hw;refine bN 136 func41 ?_;refine go 11 λb1 b2 b3=>?_;refine b_ [b3,b2,b1] (aY [0,2] 5 (go 3 ?_));refine an 1 J J (qW J J V underlying107 sizeOf111 λg4=>?_);refine an 3 J J (na [] Tryz.t111 32 J J V J J underlying107 aQ J J J J V (fN bP 3 lb (ba p)) c_ Y (e0 (ba p).length) (λhn b hb=>eY (r:=(⟨(.slice (some ⟨g4,0,none⟩) 0 0),111,3,0,[]⟩:aS)) hn hb) bz.h (dw _) λw5=>?_);refine cU [(4,true),(5,false),(6,true)] 0 (go 4 λb6=>?_);refine bG (go 17 λb7=>?_);refine ff (λg:Nat×aM×List bK×Nat×Nat=>(⟨136,aO g.2.1++[b7,b6,b3,b2,b1],⟨⟨b7,79,[ae f.name,am g.2.2.2.1,am g.2.2.2.2,aA 0,aI]⟩::⟨b6,165,[aB ak p.globals,aB aU p.mutexes,aB ac p.funcs,.val g.2.1,aA 0,aA 0,aA 0,aA 0,aI,aI]⟩::⟨b3,79,[ae ax,aA 0,aA 0,aA 0,aI]⟩::⟨b2,67,ac f⟩::⟨b1,27,eA p⟩::bx,⟨g.2.1,111,3,g.2.2.1.length,g.2.2.1.flatMap bP⟩::rw⟩,(12,aX g.1)::[(1,.c (.sl (ba p).length ((ba p).flatMap bP))),(3,aE b1),(5,aE b2),(6,aE b3),(7,.c (aI)),(8,bB 0),(9,bB 0),(10,aE b6),(11,aE b7)]⟩:AS)) (λg=>g.1 <= f.params.length /\ hY (f.params.drop g.1) g.2.2.1 g.2.2.2.1 g.2.2.2.2=hY f.params (ba p) 0 0 /\ g.2.2.2.1+g.2.2.2.2=g.1 /\ g.2.2.1.length=(ba p).length+g.1 /\ oH p g.2.2.1) (λg=>f.params.length-g.1) (0,w5,ba p,0,0) (az jA) ⟨d2 _,J,J,J,hok⟩ ?_;rintro ⟨k,v,l,i,m⟩ ⟨hk,hpar,him,hll,hlo⟩;dsimp only at hk hpar him hll hlo
 try dsimp only
 refine go 7 ?_;by_cases h1:((k:Nat):Int)<((f.params.length:Nat):Int)
 ·refine aC true J (ck h1) (go 9 ?_);refine b_ [b7,b6,b3,b2,b1] (aY [0,1,2,3,4,5,6] 10 (go 8 ?_));refine ab 7 J (bS cG cG f.params gx (λ_=>J) k J J J J Y V runUnderlying64 sizeOf69) (aY [8,9] 7 (go 3 ?_));refine cx 10 14 J ?_ ?_;focus
   refine (fX J J V call40 J (Dz v l f.params[k].name _ (by first|rfl|(rw [hll];omega)) Y _ _) ?_);rintro _ _ ⟨rfl,rfl⟩;refine cU [(11,true),(12,true),(13,true),(14,false),(15,false),(16,true)] 0 (go 7 λb11=>?_)
  rotate_left;refine (iG J J V zeroValue111 J λb11=>?_);refine an 10 J J (fX J J V call40 J (Dz v l f.params[k].name _ (by first|rfl|(rw [hll];omega)) Y _ _) ?_);rintro _ _ ⟨rfl,rfl⟩;refine cU [(11,true),(12,true),(13,true),(15,false),(16,true)] 0 (go 6 ?_);all_goals
   refine bG (go 6 ?_);refine iB J (λh7=>?_) (λh7=>?_)
   ·refine go 16 ?_;have hpl:=(wa Y hpar).1 h7;exact ⟨.inr J,_,⟨bx,rw⟩,oW J (gP (bu.agg (.r (.r (.r (.r (.n .nil)))))) (cS [_,_,_] J J isAgg79 sizeOf79 (cY J J))) (gP (bu.c py) (bM J)) (bM J) (bM J),aj (.cons _ (.cons _ (.cons _ (.cons _ (.cons _ (.cons _ (.refl _))))))) (vU _ _),by unfold gQ nX jY;rw [hpl];rfl,J⟩
   refine go 7 ?_;refine aF J (bS cG cG f.params gx (λ_=>J) k J J J J Y V runUnderlying64 sizeOf69) (go 1 ?_);rcases bq (f.params[k].mutex) with h8|h8
   ·refine aF J (cI (bF h8) (jh J J isAgg4 sizeOf4 J)) (go 4 ?_);refine b_ [] ?_;refine xO 16 16 3 [b11,b7,b6,b3,b2,b1] [] #[false,false,false,false,false,false,false,false,false,false,false,false,false,false,false,false,false,false,false] #[false,false,false,false,false,false,false,false,false,false,false,false,false,false,false,false] #[true,true,true,true,true,true,true,true,true,true,true,true,true,true,true,true,false,false,false] J aQ aQ ?_;refine aY [0,1,2,3,4,5,6,7] 8 (go 9 ?_);refine ab 8 J (bS cG cG f.params gx (λ_=>J) k J J J J Y V runUnderlying64 sizeOf69) (aY [9,10,11,12,13] 2 (go 6 ?_));refine an 14 J J (be (hf:=dU bP bP (⟨f.params[k].name,5,m⟩:bK) J J J) ql ?_);refine an 15 J J (dR [] tZ J (fN bP 3 lb _) V c_ Y (@length_append _ l [(⟨f.params[k].name,5,m⟩:bK)]).symm (λhn b hb=>eY (r:=(⟨v,111,3,l.length,l.flatMap bP⟩:aS)) hn hb) bz.h (d4 (f:=bP)).symm λw12=>?_);refine bG ?_;refine id ?_;refine cU [(16,true),(17,true),(18,false)] 0 (go 4 ?_);refine bG (go 4 ?_);refine bJ J (go 1 ?_);refine d9 73 J (t:=aX (m+1)) (bv Y) (go 6 ?_);refine bJ J (go 2 ?_);exact ⟨(k+1,w12,l++[⟨f.params[k].name,5,m⟩],i,m+1),⟨v_,((wa Y hpar).2 h7).1 h8,qk,z_,hlo.app (by show (5:Int)≠2;decide) Co⟩,yn,az (h1:=(.cons _ (.refl _))) (h:=av J (bv Y) (ao J)) j4⟩
   refine aF J (cI (bF h8) (jh J J isAgg4 sizeOf4 J)) (go 4 ?_);refine b_ [] ?_;refine xO 16 16 3 [b11,b7,b6,b3,b2,b1] [] #[false,false,false,false,false,false,false,false,false,false,false,false,false,false,false,false,false,false,false] #[false,false,false,false,false,false,false,false,false,false,false,false,false,false,false,false] #[true,true,true,true,true,true,true,true,true,true,true,true,true,true,true,true,false,false,false] J aQ aQ ?_;refine aY [0,1,2,3,4,5,6,7] 8 (go 9 ?_);refine ab 8 J (bS cG cG f.params gx (λ_=>J) k J J J J Y V runUnderlying64 sizeOf69) (aY [9,10,11,12,13] 2 (go 6 ?_));refine an 14 J J (be (hf:=dU bP bP (⟨f.params[k].name,4,i⟩:bK) J J J) ql ?_);refine an 15 J J (dR [] tZ J (fN bP 3 lb _) V c_ Y (@length_append _ l [(⟨f.params[k].name,4,i⟩:bK)]).symm (λhn b hb=>eY (r:=(⟨v,111,3,l.length,l.flatMap bP⟩:aS)) hn hb) bz.h (d4 (f:=bP)).symm λw13=>?_);refine bG ?_;refine id ?_;refine cU [(16,true),(17,true),(18,false)] 0 (go 4 ?_);refine bG (go 4 ?_);refine bJ J (go 1 ?_);refine d9 95 J (t:=aX (i+1)) (bv Y) (go 6 ?_);refine bJ J (go 2 ?_);exact ⟨(k+1,w13,l++[⟨f.params[k].name,4,i⟩],i+1,m),⟨v_,((wa Y hpar).2 h7).2 h8,qk,z_,hlo.app Ed vH⟩,yn,az (h1:=(.cons _ (.refl _))) (h:=av J (bv Y) (ao J)) j4⟩
 refine aC false J (cg h1) (go 20 ?_);obtain rfl:k=f.params.length:=Y;have hpl:hY f.params (ba p) 0 0=some (l,i,m):=by rw [←hpar,ka (bW _),hY]
 refine iE (cs':=[aB ak p.globals,aB aU p.mutexes,aB ac p.funcs,aB bP l,am i,aA 0,aA 0,aA 0,aI,aI]) [_] 3 J J ?_;show cL prog _ _ ⟨_,_,⟨⟨b7,79,[ae f.name,am i,am m,aA 0,aI]⟩::⟨b6,165,[aB ak p.globals,aB aU p.mutexes,aB ac p.funcs,aB bP l,am i,aA 0,aA 0,aA 0,aI,aI]⟩::⟨b3,79,[ae ax,aA 0,aA 0,aA 0,aI]⟩::⟨b2,67,ac f⟩::⟨b1,27,eA p⟩::bx,rw⟩,_⟩ _;refine sy 3 1 ?_;refine sy 92 12 ?_;show cL prog _ _ ⟨_,_,⟨⟨b7,79,[ae f.name,am i,am m,aA 0,aI]⟩::⟨b6,165,[aB ak p.globals,aB aU p.mutexes,aB ac p.funcs,.sl (ah.init l i).ents.length ((ah.init l i).ents.flatMap bP),aA (((ah.init l i).locals:Nat):Int),aA (((ah.init l i).n:Nat):Int),aA ((ah.init l i).q.2),aA (((ah.init l i).q.1:Nat):Int),aI,aI]⟩::⟨b3,79,[ae ax,aA 0,aA 0,aA 0,aI]⟩::⟨b2,67,ac f⟩::⟨b1,27,eA p⟩::bx,⟨(.slice none 0 0),92,12,(ah.init l i).code.length,(ah.init l i).code.flatMap encI⟩::⟨(.slice none 0 0),3,1,(ah.init l i).sites.length,(ah.init l i).sites.map λx=>aA x⟩::rw⟩,_⟩ _;have hlk:dZ p (ah.init l i) (bQ f.body+1):=⟨hlo,yM,J,yM,by show i+_ <= _;omega,by show l.length+_ <= _;omega⟩;have hbk:=xQ p f.body (ah.init l i) 1 hlk;refine go 3 ?_;refine aW J (gi J J V call75 J (B5 _ f.body (bW _) [_] _ b6 p (ah.init l i) (.slice none 0 0) (.slice none 0 0) _ (hlk.mono Y)) aK oU oU (λ_=>⟨aK,oU,oU⟩) λvc14 vs14=>?_);show cL prog _ _ ⟨_,_,⟨⟨b7,79,[ae f.name,am i,am m,aA 0,aI]⟩::⟨b6,165,[aB ak p.globals,aB aU p.mutexes,aB ac p.funcs,.sl (aJ p f.body (ah.init l i)).ents.length ((aJ p f.body (ah.init l i)).ents.flatMap bP),aA (((aJ p f.body (ah.init l i)).locals:Nat):Int),aA (((aJ p f.body (ah.init l i)).n:Nat):Int),aA ((aJ p f.body (ah.init l i)).q.2),aA (((aJ p f.body (ah.init l i)).q.1:Nat):Int),.val vc14,.val vs14]⟩::⟨b3,79,[ae ax,aA 0,aA 0,aA 0,aI]⟩::⟨b2,67,ac f⟩::⟨b1,27,eA p⟩::bx,_⟩,_⟩ _;refine go 10 ?_;refine d9 107 J ((bu.agg (.r (.r (.r (.r (.r (.r (.n (.r (.r (.n (.n (.n .nil))))))))))))):bu _ (.agg (encI (bf 8 .zero)))) ?_;refine aW J (gi J J V call76 J (mm [_] _ b6 p (aJ p f.body (ah.init l i)) vc14 vs14 _ (bf 8 .zero) (aJ p f.body (ah.init l i)).n (by have:=hbk.code;omega) hbk.sites) aK bz.h bz.h hP λvc15 vs15=>?_)
 show cL prog _ _ ⟨_,_,⟨⟨b7,79,[ae f.name,am i,am m,aA 0,aI]⟩::⟨b6,165,[aB ak p.globals,aB aU p.mutexes,aB ac p.funcs,.sl ((aJ p f.body (ah.init l i)).put (bf 8 .zero) (aJ p f.body (ah.init l i)).n).ents.length (((aJ p f.body (ah.init l i)).put (bf 8 .zero) (aJ p f.body (ah.init l i)).n).ents.flatMap bP),aA ((((aJ p f.body (ah.init l i)).put (bf 8 .zero) (aJ p f.body (ah.init l i)).n).locals:Nat):Int),aA ((((aJ p f.body (ah.init l i)).put (bf 8 .zero) (aJ p f.body (ah.init l i)).n).n:Nat):Int),aA (((aJ p f.body (ah.init l i)).put (bf 8 .zero) (aJ p f.body (ah.init l i)).n).q.2),aA ((((aJ p f.body (ah.init l i)).put (bf 8 .zero) (aJ p f.body (ah.init l i)).n).q.1:Nat):Int),.val vc15,.val vs15]⟩::⟨b3,79,[ae ax,aA 0,aA 0,aA 0,aI]⟩::⟨b2,67,ac f⟩::⟨b1,27,eA p⟩::bx,_⟩,_⟩ _;refine go 3 ?_;refine b_ [b6,b3,b2,b1] (cU [(0,true),(1,true),(2,true),(3,true),(4,true),(5,true),(6,true),(7,true),(8,true),(9,false),(10,true),(11,false)] 0 (go 13 ?_));refine bG (go 2 ?_);refine zF (cs':=[ae f.name,am i,am m,aA ((((aJ p f.body (ah.init l i)).put (bf 8 .zero) (aJ p f.body (ah.init l i)).n).locals:Nat):Int),.sl ((aJ p f.body (ah.init l i)).put (bf 8 .zero) (aJ p f.body (ah.init l i)).n).code.length (((aJ p f.body (ah.init l i)).put (bf 8 .zero) (aJ p f.body (ah.init l i)).n).code.flatMap encI)]) [] 4 J J ?_;show bo prog _ ⟨_,_,⟨⟨b7,79,[ae f.name,am i,am m,aA ((((aJ p f.body (ah.init l i)).put (bf 8 .zero) (aJ p f.body (ah.init l i)).n).locals:Nat):Int),.sl ((aJ p f.body (ah.init l i)).put (bf 8 .zero) (aJ p f.body (ah.init l i)).n).code.length (((aJ p f.body (ah.init l i)).put (bf 8 .zero) (aJ p f.body (ah.init l i)).n).code.flatMap encI)]⟩::⟨b6,165,[aB ak p.globals,aB aU p.mutexes,aB ac p.funcs,.sl ((aJ p f.body (ah.init l i)).put (bf 8 .zero) (aJ p f.body (ah.init l i)).n).ents.length (((aJ p f.body (ah.init l i)).put (bf 8 .zero) (aJ p f.body (ah.init l i)).n).ents.flatMap bP),aA ((((aJ p f.body (ah.init l i)).put (bf 8 .zero) (aJ p f.body (ah.init l i)).n).locals:Nat):Int),aA ((((aJ p f.body (ah.init l i)).put (bf 8 .zero) (aJ p f.body (ah.init l i)).n).n:Nat):Int),aA (((aJ p f.body (ah.init l i)).put (bf 8 .zero) (aJ p f.body (ah.init l i)).n).q.2),aA ((((aJ p f.body (ah.init l i)).put (bf 8 .zero) (aJ p f.body (ah.init l i)).n).q.1:Nat):Int),.val vc15,.val vs15]⟩::⟨b3,79,[ae ax,aA 0,aA 0,aA 0,aI]⟩::⟨b2,67,ac f⟩::⟨b1,27,eA p⟩::bx,_⟩,_⟩ _
 refine zF (cs':=[aB ak p.globals,aB aU p.mutexes,aB ac p.funcs,.sl ((aJ p f.body (ah.init l i)).put (bf 8 .zero) (aJ p f.body (ah.init l i)).n).ents.length (((aJ p f.body (ah.init l i)).put (bf 8 .zero) (aJ p f.body (ah.init l i)).n).ents.flatMap bP),aA ((((aJ p f.body (ah.init l i)).put (bf 8 .zero) (aJ p f.body (ah.init l i)).n).locals:Nat):Int),aA ((((aJ p f.body (ah.init l i)).put (bf 8 .zero) (aJ p f.body (ah.init l i)).n).n:Nat):Int),aA (((aJ p f.body (ah.init l i)).put (bf 8 .zero) (aJ p f.body (ah.init l i)).n).q.2),aA ((((aJ p f.body (ah.init l i)).put (bf 8 .zero) (aJ p f.body (ah.init l i)).n).q.1:Nat):Int),.val vc15,.sl ((aJ p f.body (ah.init l i)).put (bf 8 .zero) (aJ p f.body (ah.init l i)).n).sites.length (((aJ p f.body (ah.init l i)).put (bf 8 .zero) (aJ p f.body (ah.init l i)).n).sites.map λx=>aA x)]) [_] 9 J J ?_;show bo prog _ ⟨_,_,⟨⟨b7,79,[ae f.name,am i,am m,aA ((((aJ p f.body (ah.init l i)).put (bf 8 .zero) (aJ p f.body (ah.init l i)).n).locals:Nat):Int),.sl ((aJ p f.body (ah.init l i)).put (bf 8 .zero) (aJ p f.body (ah.init l i)).n).code.length (((aJ p f.body (ah.init l i)).put (bf 8 .zero) (aJ p f.body (ah.init l i)).n).code.flatMap encI)]⟩::⟨b6,165,[aB ak p.globals,aB aU p.mutexes,aB ac p.funcs,.sl ((aJ p f.body (ah.init l i)).put (bf 8 .zero) (aJ p f.body (ah.init l i)).n).ents.length (((aJ p f.body (ah.init l i)).put (bf 8 .zero) (aJ p f.body (ah.init l i)).n).ents.flatMap bP),aA ((((aJ p f.body (ah.init l i)).put (bf 8 .zero) (aJ p f.body (ah.init l i)).n).locals:Nat):Int),aA ((((aJ p f.body (ah.init l i)).put (bf 8 .zero) (aJ p f.body (ah.init l i)).n).n:Nat):Int),aA (((aJ p f.body (ah.init l i)).put (bf 8 .zero) (aJ p f.body (ah.init l i)).n).q.2),aA ((((aJ p f.body (ah.init l i)).put (bf 8 .zero) (aJ p f.body (ah.init l i)).n).q.1:Nat):Int),.val vc15,.sl ((aJ p f.body (ah.init l i)).put (bf 8 .zero) (aJ p f.body (ah.init l i)).n).sites.length (((aJ p f.body (ah.init l i)).put (bf 8 .zero) (aJ p f.body (ah.init l i)).n).sites.map λx=>aA x)]⟩::⟨b3,79,[ae ax,aA 0,aA 0,aA 0,aI]⟩::⟨b2,67,ac f⟩::⟨b1,27,eA p⟩::bx,rw⟩,_⟩ _
 refine b_ [b7,b6,b2,b1] (cU [(0,true),(1,true),(2,true),(3,true),(4,true),(5,true),(6,true),(7,true),(8,true),(9,true),(10,true),(11,true),(12,true),(13,false),(14,true),(15,true),(16,true)] 0 (go 18 ?_));refine bG (go 2 ?_);exact ⟨.inr J,_,⟨bx,rw⟩,oW J (cS [_,_] J J isAgg79 sizeOf79 (cY J J)) (bM J) (bM J) (bM J),aj (.cons _ (.cons _ (.cons _ (.cons _ (.cons _ (.refl _)))))) (.refl _),by unfold gQ nX jY;rw [hpl];rfl,J⟩
end
section
mutual
def aP.tame:aP -> Prop
 |.mk _ num name args=>num.natAbs<9223372036854775808 /\ name.size <= 1048576 /\ lz args
def lz:List aP -> Prop
 |[]=>True
 |e::es=>e.tame /\ lz es
end
def mU:List (List UInt8) -> Nat
 |[]=>0
 |t::ts=>t.length+mU ts
def QF(ts:List (List UInt8)):(ts.getD 0 []).length <= mU ts:=by
 cases ts with
 |nil=>simp [mU]
 |cons t ts=>simp [mU]
def PD(ts:List (List UInt8)):(ts.getD 0 []).length+(ts.getD 1 []).length <= mU ts:=by
 match ts with
 |[]=>simp [mU]
 |[t]=>simp [mU]
 |t::u::ts=>first|(simp [mU];done)|(simp [mU];omega)
def M1{c:Prop}[Decidable c]{l r:List UInt8}{n:Nat}(h1:l.length <= n)(h2:r.length <= n):(if c then l else r).length <= n:=by
 by_cases h:c
 ·rw [if_pos h];exact h1
 rw [if_neg h];exact h2
def GR(op:Int):(kl op).length <= 2:=by
 unfold kl
 repeat' (with_reducible apply M1)
 all_goals decide
def VD(op num:Int)(name:aG)(ts:List (List UInt8))(h1:num.natAbs<9223372036854775808)(h2:name.size <= 1048576):
  (jN op num name ts).length <= 1048576+mU ts:=by
 have a0:=QF ts;have a1:=PD ts;have a2:=GR op;have a3:(eM num).length <= 21:=by
  have:=wI _ (Nat.lt_trans h1 V);unfold eM;split<;>simp<;>omega
 have a4:name.data.toList.length=name.size:=J;unfold jN
 repeat' (with_reducible apply M1)
 all_goals ((try simp only [length_append,length_cons,length_nil]);omega)
def J5:∀(N:Nat)(e:aP),e.nodes <= N -> e.tame -> (bX e).length+2 <= e.nodes*2000000
 |0,.mk op num name args,h,_=>by rw [aP.nodes] at h;omega
 |N+1,.mk op num name args,h,ht=>by
  rw [aP.nodes] at h;rw [aP.tame] at ht;have key:∀(l:List aP)(k:Nat),dD l <= N -> lz l -> mU (gY op k l) <= dD l*2000000:=by
   intro l;induction l with
   |nil=>intro k _ _;rw [gY,mU];omega
   |cons e es ih=>
    intro k hl hm;rw [dD] at hl⊢;rw [lz] at hm;rw [gY,mU];have h1:=J5 N e Y hm.1;have h2:=ih (k+1) Y hm.2;split
    ·simp only [length_append,length_cons,length_nil];omega
    omega
  have h1:=key args 0 Y ht.2.2;have h2:=VD op num name (gY op 0 args) ht.1 ht.2.1;rw [bX,aP.nodes];omega
end
section
open Go.RowKit
def sn{s:aG}(h:br s=true):s.data.toList.length <= 16:=by
 unfold br at h;split at h
 ·cases h
 simp only [cz,decide_eq_true_eq] at h;exact h.1.2
mutual
def HJ:∀(e:aP),e.sane -> dc e=true -> e.tame
 |.mk op num name args,hs,h=>by
  have hv:=Dt _ hs h;rw [aP.sane] at hs;rw [dc] at h;simp only [cz] at h;rw [aP.tame];refine ⟨?_,?_,M6 args hs.2.2 h.2⟩
  ·cases hv with
   |num n hn=>show ((n:Nat):Int).natAbs<_;omega
   |_=>decide
  ·cases hv with
   |name s hn=>exact gb (sn hn) V
   |_=>decide
def M6:∀(l:List aP),iX l -> eu l=true -> lz l
 |[],_,_=>by rw [lz];trivial
 |y::l,hs,h=>by
  rw [iX] at hs;rw [eu,cz] at h;rw [lz];exact ⟨HJ y hs.1 h.1,M6 l hs.2 h.2⟩
end
def xF{e:aP}(hs:e.sane)(h:dc e=true):(bX e).length <= e.nodes*2000000:=by
 have:=J5 e.nodes e (bW _) (HJ e hs h);omega
def VM{r:cD}(h:r.index.length=0):okRefB r=br r.name:=by
 obtain ⟨n,ix⟩:=r;obtain rfl:ix=[]:=h_.1 h;unfold okRefB;simp
def SZ{r:cD}(h:r.index.length=1):okRefB r=(br r.name && eV (r.index[0]'(by omega))):=by
 obtain ⟨n,ix⟩:=r
 match ix,h with
 |[e],_=>rfl
def OP{r:cD}(h:¬r.index.length=0)(h1:¬r.index.length=1):okRefB r=false:=by
 obtain ⟨n,ix⟩:=r
 match ix,h,h1 with
 |[],h,_=>exact absurd rfl h
 |[e],_,h=>exact absurd rfl h
 |_::_::_,_,_=>unfold okRefB;simp
def fJ(s:aL):Bool:=decide (1 <= s.kind /\ s.kind <= 4)
def f_(s:aL):Bool:=decide (s.kind=3∨s.kind=4)
def fV(s:aL):Bool:=decide (s.kind=1∨s.kind=2∨s.kind=7∨s.kind=8)
def fh(s:aL):Bool:=decide (s.kind=5∨s.kind=6)
def fU(s:aL):Bool:=decide (s.kind=7∨s.kind=8)
def f9(s:aL):Bool:=decide (¬(1 <= s.kind /\ s.kind <= 9))
def sU(s:aL):Bool:=f9 s||fJ s && !br s.name
def qv(s:aL):Bool:=sU s||!fJ s && !decide (s.name=ax)
def si(s:aL):Bool:=qv s||fV s && !eV s.expr
def rJ(s:aL):Bool:=si s||!fV s && !jT s.expr
def ss(s:aL):Bool:=rJ s||fh s && !okRefB s.ref
def sP(s:aL):Bool:=ss s||!fh s && !j6 s.ref
def qn(s:aL):Bool:=sP s||!f_ s && !decide (s.args.length=0)
def tp(D:Nat)(s:aL):Bool:=(if fU s then cn (D+1) s.thn else decide (s.thn.length=0)) && (decide (s.els.length=0)||(decide (s.kind=7) && cn (D+1) s.els))
def p_(D:Nat)(s:aL):fC D s=(!qn s && s.args.all eh && tp D s):=by
 obtain ⟨k,n,e,r,args,t,el⟩:=s;rw [fC];unfold tp qn sP ss rJ si qv sU;rw [show f9 (.mk k n e r args t el)=!decide (1 <= k /\ k <= 9) from decide_not,show fJ (.mk k n e r args t el)=decide (1 <= k /\ k <= 4) from rfl,show f_ (.mk k n e r args t el)=decide (k=3∨k=4) from rfl,show fV (.mk k n e r args t el)=decide (k=1∨k=2∨k=7∨k=8) from rfl,show fh (.mk k n e r args t el)=decide (k=5∨k=6) from rfl,show fU (.mk k n e r args t el)=decide (k=7∨k=8) from rfl];show _=(_ && args.all eh && ((if decide (k=7∨k=8)=true then cn (D+1) t else decide (t.length=0)) && (decide (el.length=0)||(decide (k=7) && cn (D+1) el))));simp only [aL.name,aL.expr,aL.ref,aL.args];have hi:∀(p:Prop) [Decidable p] (a b:Bool),(if p then a else b)=((decide p && a)||(!decide p && b)):=λp _ a b=>by by_cases h:p<;>simp [h]
 simp only [hi,Bool.decide_eq_true];generalize decide (1 <= k /\ k <= 9)=b1;generalize decide (1 <= k /\ k <= 4)=b2;generalize decide (k=1∨k=2∨k=7∨k=8)=b3;generalize decide (k=5∨k=6)=b4;generalize decide (k=3∨k=4)=b5;generalize decide (k=7∨k=8)=b6;cases b1<;>cases b2<;>cases b3<;>cases b4<;>cases b5<;>cases b6<;>(simp [Bool.and_assoc];try rfl)
def rM(D:Nat):∀(l:List aL)(k:Nat)(h:k<l.length),fC D l[k]=false -> cn D l=false
 |s::l,0,_,h=>by rw [cn];simp only [EB] at h;rw [h];rfl
 |s::l,k+1,hk,h=>by rw [cn,rM D l k nS iW,pQ]
def LL(D:Nat)(hD:D<24):∀(l:List aL),(∀k (h:k<l.length),fC D l[k]=true) -> cn D l=true
 |[],_=>by rw [cn];exact decide_eq_true hD
 |s::l,h=>by rw [cn,show fC D s=true from h 0 aK,LL D hD l (λk hk=>h (k+1) nS)];rfl
def Tm(D:Nat)(hD:¬D<24)(l:List aL):cn D l=false:=by
 cases h:cn D l with
 |false=>rfl
 |true=>exact absurd (sD D l h) hD
def Fy(e:aP)(s:aH):aR prog 97 [.agg (bb e)] [] s λt s'=>t=ap (jT e) /\ s'=s:=by
 obtain ⟨bx,rw⟩:=s;refine bN 22 func97 ?_;refine go 10 λb1=>?_;by_cases h1:e.op=0
 ·refine aC true J (bg h1) (go 3 ?_);by_cases h2:e.num=0
  ·refine aC true J (bg h2) (go 4 ?_);by_cases h3:e.name=ax
   ·refine aF J (eo true J J J (nA h3)) (go 5 ?_);by_cases h4:((e.args.length:Nat):Int)=0
    ·refine aC true J (bg h4) (go 5 ?_);exact aw (s':=⟨bx,rw⟩) J cM ⟨bU Hx,J⟩
    refine aC false J (bZ h4) (go 5 ?_);exact aw (s':=⟨bx,rw⟩) J cM ⟨bU (jg.2 λhh=>I6),J⟩
   refine aF J (eo false J J J (m9 h3)) (go 11 ?_);exact aw (s':=⟨bx,rw⟩) J cM ⟨bU (jg.2 λhh=>Lv),J⟩
  refine aC false J (bZ h2) (go 16 ?_);exact aw (s':=⟨bx,rw⟩) J cM ⟨bU (jg.2 λhh=>Le),J⟩
 refine aC false J (bZ h1) (go 20 ?_);exact aw (s':=⟨bx,rw⟩) J cM ⟨bU (jg.2 λhh=>Jo),J⟩
def Ju(r:cD)(s:aH):aR prog 99 [.agg (encR r)] [] s λt s'=>t=ap (j6 r) /\ s'=s:=by
 obtain ⟨bx,rw⟩:=s;refine bN 12 func99 ?_;refine go 10 λb1=>?_;by_cases h1:r.name=ax
 ·refine aF J (eo true J J J (nA h1)) (go 4 ?_);by_cases h2:((r.index.length:Nat):Int)=0
  ·refine aC true J (bg h2) (go 5 ?_);exact aw (s':=⟨bx,rw⟩) J cM ⟨bU GC,J⟩
  refine aC false J (bZ h2) (go 5 ?_);exact aw (s':=⟨bx,rw⟩) J cM ⟨bU (jg.2 λhh=>KF),J⟩
 refine aF J (eo false J J J (m9 h1)) (go 10 ?_);exact aw (s':=⟨bx,rw⟩) J cM ⟨bU (jg.2 λhh=>I8),J⟩
def Mp(r:cD)(hs:r.sane)(hN:dD r.index <= 900000000)(s:aH):aR prog 98 [.agg (encR r)] [] s λt s'=>t=ap (okRefB r) /\ s'=s:=by
 obtain ⟨bx,rw⟩:=s;refine bN 25 func98 ?_;refine go 10 λb1=>?_;refine cy J call72 J (r9 r.name (by first|assumption|exact hs.1) _) ?_;rintro _ _ ⟨hr1,rfl⟩;rcases bq (br r.name) with h2|h2
 ·rw [h2] at hr1;subst hr1;refine go 4 ?_;by_cases h3:((r.index.length:Nat):Int)=0
  ·refine aC true J (bg h3) (go 18 ?_);exact aw (s':=⟨bx,rw⟩) J cM ⟨bU (by rw [VM Y,h2]),J⟩
  refine aC false J (bZ h3) (go 4 ?_);by_cases h4:((r.index.length:Nat):Int)=1
  ·refine aC true J (bg h4) (go 3 ?_);refine aF J (bS bR bb r.index fw ei 0 J J J J Y V runUnderlying85 sizeOf87) (go 1 ?_);refine cy J call96 J (BF r.index[0] M8 (oB _ hs.2 _ (getElem_mem _)) _) ?_;rintro _ _ ⟨hr5,rfl⟩;rcases bq (eV r.index[0]) with h6|h6;rotate_left;all_goals
    rw [h6] at hr5;subst hr5;refine go 7 ?_;exact aw (s':=⟨bx,rw⟩) J cM ⟨bU (by rw [SZ Y,h2,h6];rfl),J⟩
  refine aC false J (bZ h4) (go 13 ?_);exact aw (s':=⟨bx,rw⟩) J cM ⟨bU (OP Y Y),J⟩
 rw [h2] at hr1;subst hr1;refine go 23 ?_;exact aw (s':=⟨bx,rw⟩) J cM ⟨bU (by unfold okRefB;rw [h2];rfl),J⟩
def wj{a:cK}(h:a.mutex=true):eh a=(okRefB a.ref && jT a.expr):=by unfold eh;rw [if_pos h]
def wk{a:cK}(h:a.mutex=false):eh a=(j6 a.ref && eV a.expr):=by unfold eh;rw [if_neg mb]
def oz{α:Type}(f:α -> Bool)(l:List α)(k:Nat)(h:k<l.length)(hf:f l[k]=false):l.all f=false:=by
 cases ha:l.all f with
 |false=>rfl
 |true=>rw [d3.1 ha _ (getElem_mem h)] at hf;cases hf
def c1(D:Nat)(s:aL):Bool:=fU s && !cn (D+1) s.thn
def c2(D:Nat)(s:aL):Bool:=c1 D s||!fU s && !decide (s.thn.length=0)
def c3(D:Nat)(s:aL):Bool:=c2 D s||!decide (s.els.length=0) && (!decide (s.kind=7)||!cn (D+1) s.els)
def Ip(D:Nat)(s:aL):tp D s=!c3 D s:=by
 unfold tp c3 c2 c1;cases fU s<;>simp [Bool.not_or]
def pz{s:aL}(h:s.sane):s.name.size <= 4611686018427387904 /\ s.expr.sane /\ s.ref.sane /\ (∀a,a∈s.args -> a.sane) /\ fA s.thn /\ fA s.els:=by cases s;rw [aL.sane] at h;exact h
def IG(D:Nat)(l:List aL)(hs:fA l)(hw:bQ l <= 900000000)(ih1:∀k (h:k<l.length) (s:aH),aR prog 73 [.c (aB encS l[k].thn),bB (((D:Nat):Int)+1)] [] s λt s'=>t=ap (cn (D+1) l[k].thn) /\ s'=s)(ih2:∀k (h:k<l.length) (s:aH),aR prog 73 [.c (aB encS l[k].els),bB (((D:Nat):Int)+1)] [] s λt s'=>t=ap (cn (D+1) l[k].els) /\ s'=s)(s:aH):aR prog 73 [.c (aB encS l),aX D] [] s λt s'=>t=ap (cn D l) /\ s'=s:=by
 obtain ⟨bx,rw⟩:=s;have hll:=nY l;refine bN 219 func73 ?_;refine go 9 ?_;by_cases h1:(24:Int) <= ((D:Nat):Int)
 ·refine aC true J (mH h1) (go 10 ?_);exact aw (s':=⟨bx,rw⟩) J dm ⟨bU (Tm D Y l),J⟩
 refine aC false J (nP h1) (go 12 ?_);refine jO (λk=>∀i (h:i<l.length),i<k -> fC D l[i]=true) (l.length) 5 (λk=>[(0,.c (aB encS l)),(1,aX D)]) lY (ao J) λk hk hvk=>?_;replace hvk:∀i (h:i<l.length),i<k -> fC D l[i]=true:=hvk
 try dsimp only
 refine go 6 ?_;by_cases h4:((k:Nat):Int)<((l.length:Nat):Int)
 ·refine aC true J (ck h4) (go 9 ?_);have hlt:k<l.length:=Y;have hsk:=sA _ hs _ (getElem_mem hlt);obtain ⟨hsn,hse,hsr,hsa,hst,hsf⟩:=pz hsk;have hwk:=pE l k hlt;rw [f6] at hwk;unfold cD.wt at hwk;have hwa:=oj l[k].args;refine go 2 ?_;refine aF J (bS encS dW l nj mg k J J J J Y V runUnderlying65 sizeOf120) (go 12 λb1=>?_);refine m_ [(8,ap (fJ l[k])),(9,ap (f_ l[k])),(0,.c (aB encS l)),(1,aX D),(5,aX k),(6,aE b1),(7,bB (l[k].kind))] ?_ ?_
  ·refine go 2 ?_;by_cases h6:(1:Int) <= l[k].kind;focus
    refine aC true J (mH h6) (go 2 ?_);by_cases h7:l[k].kind <= 4;focus
     refine aC true J (vV h7) (go 2 ?_);by_cases h8:l[k].kind=3;focus
      refine aC true J (bg h8) (go 7 ?_)
     rotate_left;focus
      refine aC false J (bZ h8) (go 2 ?_);by_cases h9:l[k].kind=4;focus
       refine aC true J (bg h9) (go 4 ?_)
      rotate_left;refine aC false J (bZ h9) (go 4 ?_)
    rotate_left 3;refine aC false J (xJ h7) (go 2 ?_);refine aC false J (bZ Y) (go 2 ?_);refine aC false J (bZ Y) (go 4 ?_)
   rotate_left 4;refine aC false J (nP h6) (go 5 ?_);refine aC false J (bZ Y) (go 2 ?_);refine aC false J (bZ Y) (go 4 ?_);all_goals
    exact ⟨J,(av J (bF (by unfold fJ;first|exact (decide_eq_true Y).symm|exact (decide_eq_false Y).symm)) (av J (bF (by unfold f_;first|exact (decide_eq_true Y).symm|exact (decide_eq_false Y).symm)) (ao J)))⟩
  refine m_ [(10,ap (fV l[k])),(0,.c (aB encS l)),(1,aX D),(5,aX k),(6,aE b1),(7,bB (l[k].kind)),(8,ap (fJ l[k])),(9,ap (f_ l[k]))] ?_ ?_
  ·refine go 2 ?_;by_cases h10:l[k].kind=1;focus
    refine aC true J (bg h10) (go 14 ?_)
   rotate_left;focus
    refine aC false J (bZ h10) (go 2 ?_);by_cases h11:l[k].kind=2;focus
     refine aC true J (bg h11) (go 11 ?_)
    rotate_left;focus
     refine aC false J (bZ h11) (go 3 ?_);by_cases h12:l[k].kind=7;focus
      refine aC true J (bg h12) (go 7 ?_)
     rotate_left;focus
      refine aC false J (bZ h12) (go 3 ?_);by_cases h13:l[k].kind=8;focus
       refine aC true J (bg h13) (go 3 ?_)
      rotate_left;refine aC false J (bZ h13) (go 3 ?_)
   all_goals
    exact ⟨J,(av J (bF (by unfold fV;first|exact (decide_eq_true Y).symm|exact (decide_eq_false Y).symm)) (ao J))⟩
  refine m_ [(11,ap (fh l[k])),(0,.c (aB encS l)),(1,aX D),(5,aX k),(6,aE b1),(7,bB (l[k].kind)),(8,ap (fJ l[k])),(9,ap (f_ l[k])),(10,ap (fV l[k]))] ?_ ?_
  ·refine go 2 ?_;by_cases h14:l[k].kind=5;focus
    refine aC true J (bg h14) (go 6 ?_)
   rotate_left;focus
    refine aC false J (bZ h14) (go 2 ?_);by_cases h15:l[k].kind=6;focus
     refine aC true J (bg h15) (go 3 ?_)
    rotate_left;refine aC false J (bZ h15) (go 3 ?_)
   all_goals
    exact ⟨J,(av J (bF (by unfold fh;first|exact (decide_eq_true Y).symm|exact (decide_eq_false Y).symm)) (ao J))⟩
  refine go 3 ?_;refine nV 7 [(67,ap (f9 l[k])),(0,.c (aB encS l)),(1,aX D),(5,aX k),(6,aE b1),(7,bB (l[k].kind)),(8,ap (fJ l[k])),(9,ap (f_ l[k])),(10,ap (fV l[k])),(11,ap (fh l[k]))] ?_ ?_
  ·refine go 1 ?_;by_cases h16:l[k].kind<1;focus
    refine aC true J (ck h16) (go 6 ?_)
   rotate_left;focus
    refine aC false J (cg h16) (go 2 ?_);by_cases h17:(9:Int)<l[k].kind;focus
     refine aC true J (ek h17) (go 3 ?_)
    rotate_left;refine aC false J (em h17) (go 3 ?_)
   all_goals
    exact ⟨J,(av J (bF (by unfold f9;first|exact (decide_eq_true Y).symm|exact (decide_eq_false Y).symm)) (ao J))⟩
  refine nV 9 [(76,ap (sU l[k])),(0,.c (aB encS l)),(1,aX D),(5,aX k),(6,aE b1),(7,bB (l[k].kind)),(8,ap (fJ l[k])),(9,ap (f_ l[k])),(10,ap (fV l[k])),(11,ap (fh l[k]))] ?_ ?_
  ·rcases bq (f9 l[k]) with h18|h18
   ·refine d9 67 J (bF h18) (go 10 ?_);exact ⟨J,(av J (bF (by unfold sU;rw [h18];rfl)) (ao J))⟩
   refine d9 67 J (bF h18) (go 1 ?_);rcases bq (fJ l[k]) with h19|h19
   ·refine aF J (cI (bF h19) (nQ J J)) (go 2 ?_);refine cy J call72 J (r9 l[k].name (by first|assumption|exact hsn) _) ?_;rintro _ _ ⟨hr20,rfl⟩;rcases bq (br l[k].name) with h21|h21;rotate_left;all_goals
     rw [h21] at hr20;subst hr20;refine go 5 ?_;exact ⟨J,(av J (bF (by unfold sU;rw [h18,h19,h21];rfl)) (ao J))⟩
   refine aF J (cI (bF h19) (nQ J J)) (go 8 ?_);exact ⟨J,(av J (bF (by unfold sU;rw [h18,h19];rfl)) (ao J))⟩
  refine nV 9 [(85,ap (qv l[k])),(0,.c (aB encS l)),(1,aX D),(5,aX k),(6,aE b1),(7,bB (l[k].kind)),(8,ap (fJ l[k])),(9,ap (f_ l[k])),(10,ap (fV l[k])),(11,ap (fh l[k]))] ?_ ?_
  ·rcases bq (sU l[k]) with h22|h22
   ·refine d9 76 J (bF h22) (go 10 ?_);exact ⟨J,(av J (bF (by unfold qv;rw [h22];rfl)) (ao J))⟩
   refine d9 76 J (bF h22) (go 1 ?_);rcases bq (fJ l[k]) with h23|h23
   ·refine aF J (cI (bF (oX h23)) (iY J J)) (go 8 ?_);exact ⟨J,(av J (bF (by unfold qv;rw [h22,h23];rfl)) (ao J))⟩
   refine aF J (cI (bF (ol h23)) (iY J J)) (go 3 ?_);by_cases h24:l[k].name=ax
   ·refine aF J (eo false J J J (yy h24)) (go 4 ?_);exact ⟨J,(av J (bF (by unfold qv;rw [h22,h23,decide_eq_true h24];rfl)) (ao J))⟩
   refine aF J (eo true J J J (yl h24)) (go 4 ?_);exact ⟨J,(av J (bF (by unfold qv;rw [h22,h23,decide_eq_false h24];rfl)) (ao J))⟩
  refine nV 9 [(94,ap (si l[k])),(0,.c (aB encS l)),(1,aX D),(5,aX k),(6,aE b1),(7,bB (l[k].kind)),(8,ap (fJ l[k])),(9,ap (f_ l[k])),(10,ap (fV l[k])),(11,ap (fh l[k]))] ?_ ?_
  ·rcases bq (qv l[k]) with h25|h25
   ·refine d9 85 J (bF h25) (go 10 ?_);exact ⟨J,(av J (bF (by unfold si;rw [h25];rfl)) (ao J))⟩
   refine d9 85 J (bF h25) (go 1 ?_);rcases bq (fV l[k]) with h26|h26
   ·refine aF J (cI (bF h26) (nQ J J)) (go 2 ?_);refine cy J call96 J (BF l[k].expr Y hse _) ?_;rintro _ _ ⟨hr27,rfl⟩;rcases bq (eV l[k].expr) with h28|h28;rotate_left;all_goals
     rw [h28] at hr27;subst hr27;refine go 5 ?_;exact ⟨J,(av J (bF (by unfold si;rw [h25,h26,h28];rfl)) (ao J))⟩
   refine aF J (cI (bF h26) (nQ J J)) (go 8 ?_);exact ⟨J,(av J (bF (by unfold si;rw [h25,h26];rfl)) (ao J))⟩
  refine nV 10 [(104,ap (rJ l[k])),(0,.c (aB encS l)),(1,aX D),(5,aX k),(6,aE b1),(7,bB (l[k].kind)),(8,ap (fJ l[k])),(9,ap (f_ l[k])),(10,ap (fV l[k])),(11,ap (fh l[k]))] ?_ ?_
  ·rcases bq (si l[k]) with h29|h29
   ·refine d9 94 J (bF h29) (go 11 ?_);exact ⟨J,(av J (bF (by unfold rJ;rw [h29];rfl)) (ao J))⟩
   refine d9 94 J (bF h29) (go 1 ?_);rcases bq (fV l[k]) with h30|h30
   ·refine aF J (cI (bF (oX h30)) (iY J J)) (go 9 ?_);exact ⟨J,(av J (bF (by unfold rJ;rw [h29,h30];rfl)) (ao J))⟩
   refine aF J (cI (bF (ol h30)) (iY J J)) (go 3 ?_);refine cy J call97 J (Fy l[k].expr _) ?_;rintro _ _ ⟨hr31,rfl⟩;rcases bq (jT l[k].expr) with h32|h32;rotate_left;all_goals
    rw [h32] at hr31;subst hr31;refine go 5 ?_;exact ⟨J,(av J (bF (by unfold rJ;rw [h29,h30,h32];rfl)) (ao J))⟩
  refine nV 9 [(113,ap (ss l[k])),(0,.c (aB encS l)),(1,aX D),(5,aX k),(6,aE b1),(7,bB (l[k].kind)),(8,ap (fJ l[k])),(9,ap (f_ l[k])),(10,ap (fV l[k])),(11,ap (fh l[k]))] ?_ ?_
  ·rcases bq (rJ l[k]) with h33|h33
   ·refine d9 104 J (bF h33) (go 10 ?_);exact ⟨J,(av J (bF (by unfold ss;rw [h33];rfl)) (ao J))⟩
   refine d9 104 J (bF h33) (go 1 ?_);rcases bq (fh l[k]) with h34|h34
   ·refine aF J (cI (bF h34) (nQ J J)) (go 2 ?_);refine cy J call98 J (Mp l[k].ref hsr Y _) ?_;rintro _ _ ⟨hr35,rfl⟩;rcases bq (okRefB l[k].ref) with h36|h36;rotate_left;all_goals
     rw [h36] at hr35;subst hr35;refine go 5 ?_;exact ⟨J,(av J (bF (by unfold ss;rw [h33,h34,h36];rfl)) (ao J))⟩
   refine aF J (cI (bF h34) (nQ J J)) (go 8 ?_);exact ⟨J,(av J (bF (by unfold ss;rw [h33,h34];rfl)) (ao J))⟩
  refine nV 10 [(123,ap (sP l[k])),(0,.c (aB encS l)),(1,aX D),(5,aX k),(6,aE b1),(7,bB (l[k].kind)),(8,ap (fJ l[k])),(9,ap (f_ l[k])),(10,ap (fV l[k])),(11,ap (fh l[k]))] ?_ ?_
  ·rcases bq (ss l[k]) with h37|h37
   ·refine d9 113 J (bF h37) (go 11 ?_);exact ⟨J,(av J (bF (by unfold sP;rw [h37];rfl)) (ao J))⟩
   refine d9 113 J (bF h37) (go 1 ?_);rcases bq (fh l[k]) with h38|h38
   ·refine aF J (cI (bF (oX h38)) (iY J J)) (go 9 ?_);exact ⟨J,(av J (bF (by unfold sP;rw [h37,h38];rfl)) (ao J))⟩
   refine aF J (cI (bF (ol h38)) (iY J J)) (go 3 ?_);refine cy J call99 J (Ju l[k].ref _) ?_;rintro _ _ ⟨hr39,rfl⟩;rcases bq (j6 l[k].ref) with h40|h40;rotate_left;all_goals
    rw [h40] at hr39;subst hr39;refine go 5 ?_;exact ⟨J,(av J (bF (by unfold sP;rw [h37,h38,h40];rfl)) (ao J))⟩
  refine nV 9 [(132,ap (qn l[k])),(0,.c (aB encS l)),(1,aX D),(5,aX k),(6,aE b1),(7,bB (l[k].kind)),(8,ap (fJ l[k])),(9,ap (f_ l[k])),(10,ap (fV l[k])),(11,ap (fh l[k]))] ?_ ?_
  ·rcases bq (sP l[k]) with h41|h41
   ·refine d9 123 J (bF h41) (go 10 ?_);exact ⟨J,(av J (bF (by unfold qn;rw [h41];rfl)) (ao J))⟩
   refine d9 123 J (bF h41) (go 1 ?_);rcases bq (f_ l[k]) with h42|h42
   ·refine aF J (cI (bF (oX h42)) (iY J J)) (go 8 ?_);exact ⟨J,(av J (bF (by unfold qn;rw [h41,h42];rfl)) (ao J))⟩
   refine aF J (cI (bF (ol h42)) (iY J J)) (go 4 ?_);by_cases h43:(0:Int)<((l[k].args.length:Nat):Int)
   ·refine aC true J (ek h43) (go 3 ?_);exact ⟨J,(av J (bF (by unfold qn;rw [h41,h42,decide_eq_false (show ¬l[k].args.length=0 by omega)];rfl)) (ao J))⟩
   refine aC false J (em h43) (go 3 ?_);exact ⟨J,(av J (bF (by unfold qn;rw [h41,h42,decide_eq_true (show l[k].args.length=0 by omega)];rfl)) (ao J))⟩
  refine go 2 ?_;refine iB J (λh44=>?_) (λh44=>?_)
  ·refine go 12 ?_;exact aw (s':=⟨bx,rw⟩) J cM ⟨bU (rM D l k hlt (by rw [p_,h44];rfl)),J⟩
  refine go 9 ?_;refine jO (λj=>∀i (h:i<l[k].args.length),i<j -> eh l[k].args[i]=true) (l[k].args.length) 12 (λj=>[(0,.c (aB encS l)),(1,aX D),(5,aX k),(6,aE b1),(7,bB (l[k].kind))]) lY (ao J) λj hj hvj=>?_;replace hvj:∀i (h:i<l[k].args.length),i<j -> eh l[k].args[i]=true:=hvj
  try dsimp only
  refine go 7 ?_;by_cases h45:((j:Nat):Int)<((l[k].args.length:Nat):Int)
  ·refine aC true J (ck h45) (go 9 ?_);have hjl:j<l[k].args.length:=Y;have haj:=hsa _ (getElem_mem hjl);have hwj:=rN l[k].args j hjl;unfold cK.wt cD.wt at hwj;refine go 3 ?_;refine aF J (bS dA dA l[k].args mj (λ_=>J) j J J J J Y V runUnderlying118 sizeOf135) (go 8 λb2=>?_);rcases bq (l[k].args[j].mutex) with h47|h47
   ·refine aF J (cI (bF h47) (ca [] isAgg4 sizeOf4)) (go 3 ?_);refine cy J call98 J (Mp l[k].args[j].ref haj.1 Y _) ?_;rintro _ _ ⟨hr48,rfl⟩;rcases bq (okRefB l[k].args[j].ref) with h49|h49
    ·rw [h49] at hr48;subst hr48;refine go 4 ?_;refine cy J call97 J (Fy l[k].args[j].expr _) ?_;rintro _ _ ⟨hr50,rfl⟩;rcases bq (jT l[k].args[j].expr) with h51|h51
     ·rw [h51] at hr50;subst hr50;refine go 5 ?_;refine aF J (cI (bF h47) (ca [] isAgg4 sizeOf4)) (go 22 ?_);refine bJ J (go 2 ?_);exact ⟨Y,(λi hi hlt2=>(iQ i j).elim (λh9=>hvj i hi h9) (λh9=>by have h8:i=j:=Y;subst h8;rw [wj h47,h49,h51];rfl)),az (h1:=(.cons _ (.refl _))) (h:=av J (bv Y) (ao J)) (λb hb=>dT _ (hb))⟩
     rw [h51] at hr50;subst hr50;refine go 39 ?_;exact aw (s':=⟨bx,rw⟩) J eX ⟨bU (rM D l k hlt (by rw [p_,oz eh _ j hjl (by rw [wj h47,h49,h51];rfl)];simp)),J⟩
    rw [h49] at hr48;subst hr48;refine go 44 ?_;exact aw (s':=⟨bx,rw⟩) J eX ⟨bU (rM D l k hlt (by rw [p_,oz eh _ j hjl (by rw [wj h47,h49];rfl)];simp)),J⟩
   refine aF J (cI (bF h47) (ca [] isAgg4 sizeOf4)) (go 14 ?_);refine aF J (cI (bF h47) (ca [] isAgg4 sizeOf4)) (go 4 ?_);refine cy J call99 J (Ju l[k].args[j].ref _) ?_;rintro _ _ ⟨hr55,rfl⟩;rcases bq (j6 l[k].args[j].ref) with h56|h56
   ·rw [h56] at hr55;subst hr55;refine go 4 ?_;refine cy J call96 J (BF l[k].args[j].expr Y haj.2 _) ?_;rintro _ _ ⟨hr57,rfl⟩;rcases bq (eV l[k].args[j].expr) with h58|h58
    ·rw [h58] at hr57;subst hr57;refine go 12 ?_;refine bJ J (go 2 ?_);exact ⟨Y,(λi hi hlt2=>(iQ i j).elim (λh9=>hvj i hi h9) (λh9=>by have h8:i=j:=Y;subst h8;rw [wk h47,h56,h58];rfl)),az (h1:=(.cons _ (.refl _))) (h:=av J (bv Y) (ao J)) (λb hb=>dT _ (hb))⟩
    rw [h58] at hr57;subst hr57;refine go 23 ?_;exact aw (s':=⟨bx,rw⟩) J eX ⟨bU (rM D l k hlt (by rw [p_,oz eh _ j hjl (by rw [wk h47,h56,h58];rfl)];simp)),J⟩
   rw [h56] at hr55;subst hr55;refine go 28 ?_;exact aw (s':=⟨bx,rw⟩) J eX ⟨bU (rM D l k hlt (by rw [p_,oz eh _ j hjl (by rw [wk h47,h56];rfl)];simp)),J⟩
  refine aC false J (cg h45) (go 8 ?_);refine m_ [(14,ap (fU l[k])),(0,.c (aB encS l)),(1,aX D),(5,aX k),(6,aE b1),(7,bB (l[k].kind))] ?_ ?_
  ·refine go 2 ?_;by_cases h63:l[k].kind=7;focus
    refine aC true J (bg h63) (go 6 ?_)
   rotate_left;focus
    refine aC false J (bZ h63) (go 2 ?_);by_cases h64:l[k].kind=8;focus
     refine aC true J (bg h64) (go 3 ?_)
    rotate_left;refine aC false J (bZ h64) (go 3 ?_)
   all_goals
    exact ⟨J,(av J (bF (by unfold fU;first|exact (decide_eq_true Y).symm|exact (decide_eq_false Y).symm)) (ao J))⟩
  refine go 2 ?_;refine nV 10 [(191,ap (c1 D l[k])),(0,.c (aB encS l)),(1,aX D),(5,aX k),(6,aE b1),(7,bB (l[k].kind)),(14,ap (fU l[k]))] ?_ ?_
  ·refine go 1 ?_;rcases bq (fU l[k]) with h65|h65
   ·refine aF J (cI (bF h65) (nQ J J)) (go 3 ?_);refine bJ J ?_;refine cy J call73 J (ih1 k Y _) ?_;rintro _ _ ⟨hr66,rfl⟩;rcases bq (cn (D+1) l[k].thn) with h67|h67;rotate_left;all_goals
     rw [h67] at hr66;subst hr66;refine go 4 ?_;exact ⟨J,(av J (bF (by unfold c1;rw [h65,h67];rfl)) (ao J))⟩
   refine aF J (cI (bF h65) (nQ J J)) (go 9 ?_);exact ⟨J,(av J (bF (by unfold c1;rw [h65];rfl)) (ao J))⟩
  refine nV 10 [(201,ap (c2 D l[k])),(0,.c (aB encS l)),(1,aX D),(5,aX k),(6,aE b1),(7,bB (l[k].kind)),(14,ap (fU l[k]))] ?_ ?_
  ·rcases bq (c1 D l[k]) with h68|h68
   ·refine d9 191 J (bF h68) (go 11 ?_);exact ⟨J,(av J (bF (by unfold c2;rw [h68];rfl)) (ao J))⟩
   refine d9 191 J (bF h68) (go 1 ?_);rcases bq (fU l[k]) with h69|h69
   ·refine aF J (cI (bF (oX h69)) (iY J J)) (go 9 ?_);exact ⟨J,(av J (bF (by unfold c2;rw [h68,h69];rfl)) (ao J))⟩
   refine aF J (cI (bF (ol h69)) (iY J J)) (go 4 ?_);by_cases h70:(0:Int)<((l[k].thn.length:Nat):Int)
   ·refine aC true J (ek h70) (go 4 ?_);exact ⟨J,(av J (bF (by unfold c2;rw [h68,h69,decide_eq_false (show ¬l[k].thn.length=0 by omega)];rfl)) (ao J))⟩
   refine aC false J (em h70) (go 4 ?_);exact ⟨J,(av J (bF (by unfold c2;rw [h68,h69,decide_eq_true (show l[k].thn.length=0 by omega)];rfl)) (ao J))⟩
  refine nV 17 [(218,ap (c3 D l[k])),(0,.c (aB encS l)),(1,aX D),(5,aX k),(6,aE b1),(7,bB (l[k].kind)),(14,ap (fU l[k]))] ?_ ?_
  ·rcases bq (c2 D l[k]) with h71|h71
   ·refine d9 201 J (bF h71) (go 18 ?_);exact ⟨J,(av J (bF (by unfold c3;rw [h71];rfl)) (ao J))⟩
   refine d9 201 J (bF h71) (go 3 ?_);by_cases h72:(0:Int)<((l[k].els.length:Nat):Int)
   ·refine aC true J (ek h72) (go 2 ?_);by_cases h73:l[k].kind=7
    ·refine aC false J (dv h73) (go 4 ?_);refine bJ J ?_;refine cy J call73 J (ih2 k Y _) ?_;rintro _ _ ⟨hr74,rfl⟩;rcases bq (cn (D+1) l[k].els) with h75|h75;rotate_left;all_goals
      rw [h75] at hr74;subst hr74;refine go 5 ?_;exact ⟨J,(av J (bF (by unfold c3;rw [h71,decide_eq_false (show ¬l[k].els.length=0 by omega),decide_eq_true (show l[k].kind=7 by omega),h75];rfl)) (ao J))⟩
    refine aC true J (fe h73) (go 11 ?_);exact ⟨J,(av J (bF (by unfold c3;rw [h71,decide_eq_false (show ¬l[k].els.length=0 by omega),decide_eq_false (show ¬l[k].kind=7 by omega)];rfl)) (ao J))⟩
   refine aC false J (em h72) (go 14 ?_);exact ⟨J,(av J (bF (by unfold c3;rw [h71,decide_eq_true (show l[k].els.length=0 by omega)];rfl)) (ao J))⟩
  refine go 2 ?_;refine iB J (λh76=>?_) (λh76=>?_)
  ·refine go 11 ?_;exact aw (s':=⟨bx,rw⟩) J cM ⟨bU (rM D l k hlt (by rw [p_,Ip,h76];simp)),J⟩
  refine go 5 ?_;refine bJ J (go 2 ?_);exact ⟨Y,(λi hi hlt2=>(iQ i k).elim (λh9=>hvk i hi h9) (λh9=>by have h8:i=k:=Y;subst h8;rw [p_,Ip,h44,h76,show l[i].args.all eh=true from d3.2 (λx hx=>by obtain ⟨q,hq,rfl⟩:=jQ hx;exact hvj q hq Y)];rfl)),az (h1:=(.cons _ (.refl _))) (h:=av J (bv Y) (ao J)) (λb hb=>dT _ (hb))⟩
 refine aC false J (cg h4) (go 14 ?_);exact aw (s':=⟨bx,rw⟩) J dm ⟨bU (LL D Y l uI),J⟩
def Bt:∀(N:Nat)(D:Nat)(l:List aL),bQ l <= N -> N <= 900000000 -> fA l -> D <= 1000000000-N -> ∀s:aH,aR prog 73 [.c (aB encS l),aX D] [] s λt s'=>t=ap (cn D l) /\ s'=s
 |0,D,l,hw,hN,hs,hD,s=>by
  have h0:=nY l;exact IG D l hs Y xb xb s
 |N+1,D,l,hw,hN,hs,hD,s=>by
  have hp:∀k (hk:k<l.length),bQ l[k].thn <= N /\ bQ l[k].els <= N /\ fA l[k].thn /\ fA l[k].els:=λk hk=>by
   have h3:=pE l k hk;rw [f6] at h3;have h4:=pz (sA _ hs _ (getElem_mem hk));exact ⟨Y,Y,h4.2.2.2.2.1,h4.2.2.2.2.2⟩
  exact IG D l hs Y (λk hk s=>Bt N (D+1) l[k].thn (hp k hk).1 Y (hp k hk).2.2.1 Y s)
   (λk hk s=>Bt N (D+1) l[k].els (hp k hk).2.1 Y (hp k hk).2.2.2 Y s) s
def Ik{r:cD}(hs:r.sane)(h:okRefB r=true):(ew r).length <= r.wt*2000000:=by
 obtain ⟨h1,h2,h3⟩:=ye h;have h4:=sn h1;unfold cD.wt;rcases h2 with h2|h2
 ·rw [Md h2];omega
 have h0:0<r.index.length:=Y;have h5:=oG r.index 0 h0;have h6:=xF (oB _ hs.2 _ (getElem_mem h0)) (qK (h3 _ (getElem_mem h0)));rw [zY h0];simp only [length_append,length_cons,length_nil];omega
def I2:∀(l:List cK),(∀a,a∈l -> a.sane) -> (∀a,a∈l -> eh a=true) -> (ct eK l).length <= eI l*2000010
 |[],_,_=>sf
 |a::l,hs,h=>by
  have h1:=I2 l (λx hx=>hs x vx) (λx hx=>h x vx);have h2:(eK a).length+2 <= a.wt*2000010:=by
   have h3:=En (h a aK);have h4:=hs a aK;unfold cK.wt;cases hm:a.mutex with
   |true=>rw [tU hm];have:=Ik h4.1 (h3.1 hm);simp only [length_append,length_cons,length_nil];omega
   |false=>rw [ua hm];have:=xF h4.2 (qK (h3.2 hm));omega
  have h5:(ct eK (a::l)).length <= (eK a).length+2+(ct eK l).length:=by
   cases l with
   |nil=>simp [ct]
   |cons b r=>simp [ct];omega
  rw [eI];omega
def Ab:∀(N D:Nat)(l:List aL)(tabs:List UInt8),bQ l <= N -> cn D l=true -> fA l -> tabs.length <= D+1 -> (bH tabs l).length <= bQ l*3000000
 |_,_,[],_,_,_,_,_=>by rw [bH];simp
 |0,D,s::l,tabs,hw,_,_,_=>by rw [bQ,f6] at hw;omega
 |N+1,D,s::l,tabs,hw,hok,hs,ht=>by
  have hD:=sD D _ hok;rw [cn,cz] at hok;rw [fA] at hs;rw [bQ,f6] at hw;have ok:=wN hs.1 hok.1;have h1:=Ab (N+1) D l tabs Y hok.2 hs.2 ht;have ht1:(tabs++[(9:UInt8)]).length <= D+1+1:=di;have hE:(s.kind=1∨s.kind=2∨s.kind=7∨s.kind=8) -> (bX s.expr).length <= s.expr.nodes*2000000:=λh=>xF ok.saneE (ok.expr h);have hR:(s.kind=5∨s.kind=6) -> (ew s.ref).length <= s.ref.wt*2000000:=λh=>Ik ok.saneR (ok.ref h);have hA:(f8 s.args).length <= eI s.args*2000010+2:=by have:=I2 s.args ok.saneA ok.args;unfold f8;simp only [length_append,length_cons,length_nil];omega
  have hT:(s.kind=7∨s.kind=8) -> (bH (tabs++[9]) s.thn).length <= bQ s.thn*3000000:=λh=>Ab N (D+1) s.thn (tabs++[9]) Y (ok.thn h) ok.saneT ht1;have hF:(if s.els.length=0 then ([]:List UInt8) else [32,101,108,115,101,32,123,10]++bH (tabs++[9]) s.els++tabs++[125]).length <= bQ s.els*3000000+40:=by
   rcases ok.els with h|h
   ·rw [if_pos h];simp
   have:=Ab N (D+1) s.els (tabs++[9]) Y h ok.saneF ht1;split
   ·simp
   simp only [length_append,length_cons,length_nil];omega
  have hn:(1 <= s.kind /\ s.kind <= 4) -> s.name.data.toList.length <= 16:=λh=>by
   have h2:=hok.1;obtain ⟨k,n,e,r,a,t,f⟩:=s;rw [fC] at h2;simp only [cz] at h2;have h3:=h2.1.1.1.1.1.1.2;have h:1 <= k /\ k <= 4:=h;rw [if_pos h] at h3;exact sn h3
  have hs1:(dQ tabs s).length <= s.wt*3000000:=by
   rw [f6];have hk:s.kind=1∨s.kind=2∨s.kind=3∨s.kind=4∨s.kind=5∨s.kind=6∨s.kind=7∨s.kind=8∨(¬s.kind=1 /\ ¬s.kind=2 /\ ¬s.kind=3 /\ ¬s.kind=4 /\ ¬s.kind=5 /\ ¬s.kind=6 /\ ¬s.kind=7 /\ ¬s.kind=8):=Y;rcases hk with h|h|h|h|h|h|h|h|h
   ·have:=hE Y;have:=hn Y;rw [yk h];simp only [length_append,length_cons,length_nil];omega
   ·have:=hE Y;have:=hn Y;rw [yU h];simp only [length_append,length_cons,length_nil];omega
   ·have:=hn Y;rw [vX h];simp only [length_append,length_cons,length_nil];omega
   ·have:=hn Y;rw [wy h];simp only [length_append,length_cons,length_nil];omega
   ·have:=hR Y;rw [xf h];simp only [length_append,length_cons,length_nil];omega
   ·have:=hR Y;rw [yf h];simp only [length_append,length_cons,length_nil];omega
   ·have:=hE Y;have:=hT Y;rw [ue h];simp only [length_append,length_cons,length_nil] at hF⊢;omega
   ·have:=hE Y;have:=hT Y;rw [uu h];simp only [length_append,length_cons,length_nil] at hF⊢;omega
   rw [x_ h];simp only [length_append,length_cons,length_nil];omega
  rw [bH,bQ,length_append];omega
def yb{α:Type}(f:α -> List UInt8)(g:α -> Nat)(c:Nat):∀l:List α,(∀x,x∈l -> (f x).length <= g x*c) -> ((l.map f).flatten).length <= (l.map g).sum*c
 |[],_=>aK
 |x::r,h=>by
  have h1:=yb f g c r wU;have h2:=h x aK;simp only [cd,iL,length_append,rf,yI];omega
def OR{α:Type}(l:List α):(l.map λ_=>1).sum=l.length:=by induction l with|nil=>rfl|cons a l ih=>simp [ih];omega
def Ap{p:aZ}(hs:p.sane)(h:iR p=true):(gG p).length <= p.wt*3000000:=by
 unfold iR at h;simp only [cz] at h;obtain ⟨⟨⟨-,hg⟩,hm⟩,hf⟩:=h;have h1:=yb cJ (λ_=>1) 3000000 p.globals (λg hgm=>by
  have h2:=d3.1 hg g hgm;unfold j7 at h2;rw [cz] at h2;have h3:=sn h2.1;have h4:=yc (hs.globals g hgm).1;unfold cJ;split<;>(simp only [length_append,length_cons,length_nil];omega))
 have h2:=yb cX (λ_=>1) 3000000 p.mutexes (λm hmm=>by
  have h2:=d3.1 hm m hmm;unfold g_ at h2;simp only [cz] at h2;have h3:=sn h2.1.1;have h4:=yc (hs.mutexes m hmm).1;unfold cX;split<;>split<;>(simp only [length_append,length_cons,length_nil];omega))
 have h3:=yb funcText bE.wt 3000000 p.funcs (λf hfm=>by
  have h2:=d3.1 hf f hfm;unfold gB at h2;simp only [cz,decide_eq_true_eq] at h2;have h3:=sn h2.1.1.1;have h4:=Ab _ 0 f.body [9] (bW _) h2.1.2 (hs.funcs f hfm).2.2 V;have h5:(ct eF f.params).length <= f.params.length*30:=by
   have:∀(l:List bp),(∀x,x∈l -> br x.name=true) -> (ct eF l).length <= l.length*30:=by
    intro l;induction l with
    |nil=>intro _;simp [ct]
    |cons x l ih=>
     intro hx;have h6:=ih (λy hy=>hx y (by simp [hy]));have h7:=sn (hx x aK);have h8:(eF x).length <= 22:=by unfold eF;split<;>(simp only [length_append,length_cons,length_nil];omega)
     have h9:(ct eF (x::l)).length <= (eF x).length+2+(ct eF l).length:=by
      cases l with
      |nil=>simp [ct]
      |cons b r=>simp [ct];omega
     simp only [length_cons];omega
   exact this f.params (d3.1 h2.2)
  rw [CH];unfold bE.wt;simp only [length_append,length_cons,length_nil];omega)
 rw [OR] at h1 h2;unfold gG aZ.wt;simp only [length_append];omega
def Bm{p:aZ}(h:¬(p.globals.length <= 16 /\ p.mutexes.length <= 12 /\ p.funcs.length <= 16)):gE p=false:=by
 unfold gE;rw [decide_eq_false h];rfl
def IC{p:aZ}(k:Nat)(h:k<p.globals.length)(hb:j7 p.globals[k]=false):gE p=false:=by
 unfold gE;rw [oz j7 _ k h hb];simp
def xo{p:aZ}(k:Nat)(h:k<p.mutexes.length)(hb:g_ p.mutexes[k]=false):gE p=false:=by
 unfold gE;rw [oz g_ _ k h hb];simp
def zx{p:aZ}(k:Nat)(h:k<p.funcs.length)(hb:gB p.funcs[k]=false):gE p=false:=by
 unfold gE;rw [oz gB _ k h hb];simp
def uK{α:Type}(f:α -> Bool)(l:List α)(h:∀i (h:i<l.length),f l[i]=true):l.all f=true:=d3.2 λx hx=>by obtain ⟨i,hi,rfl⟩:=jQ hx;exact h i hi
def MA(p:aZ)(hs:p.sane)(hw:p.wt <= 100000000)(s:aH):aR prog 38 [.agg (eA p)] [] s λt s'=>t=ap (gE p) /\ s'=s:=by
 obtain ⟨bx,rw⟩:=s;have hw1:=hw;unfold aZ.wt at hw1;have hfn:=oe bE.wt (λx=>pV) p.funcs;refine bN 140 func38 ?_;refine go 12 λb1=>?_;by_cases h1:(16:Int)<((p.globals.length:Nat):Int)
 ·refine aC true J (ek h1) (go 22 ?_);exact aw (s':=⟨bx,rw⟩) J cM ⟨bU (Bm Y),J⟩
 refine aC false J (em h1) (go 4 ?_);by_cases h3:(12:Int)<((p.mutexes.length:Nat):Int)
 ·refine aC true J (ek h3) (go 17 ?_);exact aw (s':=⟨bx,rw⟩) J cM ⟨bU (Bm Y),J⟩
 refine aC false J (em h3) (go 5 ?_);by_cases h5:(16:Int)<((p.funcs.length:Nat):Int)
 ·refine aC true J (ek h5) (go 11 ?_);exact aw (s':=⟨bx,rw⟩) J cM ⟨bU (Bm Y),J⟩
 refine aC false J (em h5) (go 13 ?_);refine jO (λk=>∀q (h:q<p.globals.length),q<k -> j7 p.globals[q]=true) (p.globals.length) 3 (λk=>[(1,aE b1)]) lY (ao J) λk hk hvk=>?_;replace hvk:∀q (h:q<p.globals.length),q<k -> j7 p.globals[q]=true:=hvk
 try dsimp only
 refine go 7 ?_;by_cases h8:((k:Nat):Int)<((p.globals.length:Nat):Int)
 ·refine aC true J (ck h8) (go 9 ?_);have hgs:=hs.globals p.globals[k] (getElem_mem _);refine go 3 ?_;refine aF J (bS ak ak p.globals nD (λ_=>J) k J J J J Y V runUnderlying23 sizeOf63) (go 2 ?_);refine cy J call72 J (r9 p.globals[k].name hgs.2 _) ?_;rintro _ _ ⟨hr10,rfl⟩;rcases bq (br p.globals[k].name) with h11|h11
  ·rw [h11] at hr10;subst hr10;refine go 5 ?_;refine aF J (bS ak ak p.globals nD (λ_=>J) k J J J J Y V runUnderlying23 sizeOf63) (go 2 ?_);by_cases h12:p.globals[k].init=-9223372036854775808
   ·refine aC true J (bg h12) (go 15 ?_);exact aw (s':=⟨bx,rw⟩) J cM ⟨bU (IC k Y (by unfold j7;rw [h11,decide_eq_false Y];rfl)),J⟩
   refine aC false J (bZ h12) (go 9 ?_);refine bJ J (go 2 ?_);exact ⟨Y,(λq hq hlt2=>(iQ q k).elim (λh9=>hvk q hq h9) (λh9=>by have h8:k=q:=Y;subst h8;exact (by unfold j7;rw [h11,decide_eq_true Y];rfl))),(av J (bv Y) (ao J))⟩
  rw [h11] at hr10;subst hr10;refine go 24 ?_;exact aw (s':=⟨bx,rw⟩) J cM ⟨bU (IC k Y (by unfold j7;rw [h11];rfl)),J⟩
 refine aC false J (cg h8) (go 15 ?_);refine jO (λi=>∀q (h:q<p.mutexes.length),q<i -> g_ p.mutexes[q]=true) (p.mutexes.length) 4 (λi=>[(1,aE b1)]) lY (ao J) λi hi hvi=>?_;replace hvi:∀q (h:q<p.mutexes.length),q<i -> g_ p.mutexes[q]=true:=hvi
 try dsimp only
 refine go 7 ?_;by_cases h17:((i:Nat):Int)<((p.mutexes.length:Nat):Int)
 ·refine aC true J (ck h17) (go 9 ?_);have hms:=hs.mutexes p.mutexes[i] (getElem_mem _);refine go 3 ?_;refine aF J (bS aU aU p.mutexes kI (λ_=>J) i J J J J Y V runUnderlying24 sizeOf60) (go 9 λb2=>?_);refine cy J call72 J (r9 p.mutexes[i].name hms.2 _) ?_;rintro _ _ ⟨hr19,rfl⟩;rcases bq (br p.mutexes[i].name) with h20|h20
  ·rw [h20] at hr19;subst hr19;refine go 4 ?_;by_cases h21:p.mutexes[i].size<0
   ·refine aC true J (ck h21) (go 29 ?_);exact aw (s':=⟨bx,rw⟩) J eX ⟨bU (xo i Y AO),J⟩
   refine aC false J (cg h21) (go 4 ?_);by_cases h23:(64:Int)<p.mutexes[i].size
   ·refine aC true J (ek h23) (go 24 ?_);exact aw (s':=⟨bx,rw⟩) J eX ⟨bU (xo i Y AO),J⟩
   refine aC false J (em h23) (go 3 ?_);rcases bq (p.mutexes[i].reentrant) with h25|h25
   ·refine aF J (cI (bF h25) (ca [] isAgg4 sizeOf4)) (go 3 ?_);by_cases h26:(0:Int)<p.mutexes[i].size
    ·refine aC true J (ek h26) (go 16 ?_);exact aw (s':=⟨bx,rw⟩) J eX ⟨bU (xo i Y (by unfold g_;rw [h20,decide_eq_true (show 0 <= p.mutexes[i].size /\ p.mutexes[i].size <= 64 by omega),h25,decide_eq_true (show 0<p.mutexes[i].size by omega)];rfl)),J⟩
    refine aC false J (em h26) (go 10 ?_);refine bJ J (go 2 ?_);exact ⟨Y,(λq hq hlt2=>(iQ q i).elim (λh9=>hvi q hq h9) (λh9=>by have h8:i=q:=Y;subst h8;exact (by unfold g_;rw [h20,decide_eq_true (show 0 <= p.mutexes[i].size /\ p.mutexes[i].size <= 64 by omega),h25,decide_eq_false (show ¬0<p.mutexes[i].size by omega)];rfl))),az (h1:=(.cons _ (.refl _))) (h:=av J (bv Y) (ao J)) (λb hb=>dT _ (hb))⟩
   refine aF J (cI (bF h25) (ca [] isAgg4 sizeOf4)) (go 14 ?_);refine bJ J (go 2 ?_);exact ⟨Y,(λq hq hlt2=>(iQ q i).elim (λh9=>hvi q hq h9) (λh9=>by have h8:i=q:=Y;subst h8;exact (by unfold g_;rw [h20,decide_eq_true (show 0 <= p.mutexes[i].size /\ p.mutexes[i].size <= 64 by omega),h25];rfl))),az (h1:=(.cons _ (.refl _))) (h:=av J (bv Y) (ao J)) (λb hb=>dT _ (hb))⟩
  rw [h20] at hr19;subst hr19;refine go 34 ?_;exact aw (s':=⟨bx,rw⟩) J eX ⟨bU (xo i Y (by unfold g_;rw [h20];rfl)),J⟩
 refine aC false J (cg h17) (go 15 ?_);refine jO (λf=>∀q (h:q<p.funcs.length),q<f -> gB p.funcs[q]=true) (p.funcs.length) 6 (λf=>[(1,aE b1)]) lY (ao J) λf hf hvf=>?_;replace hvf:∀q (h:q<p.funcs.length),q<f -> gB p.funcs[q]=true:=hvf
 try dsimp only
 refine go 7 ?_;by_cases h32:((f:Nat):Int)<((p.funcs.length:Nat):Int)
 ·refine aC true J (ck h32) (go 9 ?_);have hfl:f<p.funcs.length:=Y;have hfs:=hs.funcs p.funcs[f] (getElem_mem hfl);have hfw:=pT bE.wt p.funcs f hfl;rw [show bE.wt p.funcs[f]=1+p.funcs[f].params.length+bQ p.funcs[f].body from rfl] at hfw;refine go 3 ?_;refine aF J (bS ac ac p.funcs mI (λ_=>J) f J J J J Y V runUnderlying25 sizeOf67) (go 10 λb3=>?_);refine cy J call72 J (r9 p.funcs[f].name hfs.1 _) ?_;rintro _ _ ⟨hr34,rfl⟩;rcases bq (br p.funcs[f].name) with h35|h35
  ·rw [h35] at hr34;subst hr34;refine go 5 ?_;by_cases h36:(6:Int)<((p.funcs[f].params.length:Nat):Int)
   ·refine aC true J (ek h36) (go 22 ?_);exact aw (s':=⟨bx,rw⟩) J eX ⟨bU (zx f Y (by unfold gB;rw [decide_eq_false (show ¬p.funcs[f].params.length <= 6 by omega)];simp)),J⟩
   refine aC false J (em h36) (go 4 ?_);refine cy J call73 J (Bt _ 0 p.funcs[f].body (bW _) Y hfs.2.2 Y _) ?_;rintro _ _ ⟨hr38,rfl⟩;rcases bq (cn 0 p.funcs[f].body) with h39|h39
   ·rw [h39] at hr38;subst hr38;refine go 13 ?_;refine jO (λj=>∀q (h:q<p.funcs[f].params.length),q<j -> br p.funcs[f].params[q].name=true) (p.funcs[f].params.length) 8 (λj=>[(1,aE b1),(6,aX f),(7,aE b3)]) lY (ao J) λj hj hvj=>?_;replace hvj:∀q (h:q<p.funcs[f].params.length),q<j -> br p.funcs[f].params[q].name=true:=hvj
    try dsimp only
    refine go 7 ?_;by_cases h41:((j:Nat):Int)<((p.funcs[f].params.length:Nat):Int)
    ·refine aC true J (ck h41) (go 12 ?_);refine aF J (bS cG cG p.funcs[f].params gx (λ_=>J) j J J J J Y V runUnderlying64 sizeOf69) (go 2 ?_);refine cy J call72 J (r9 p.funcs[f].params[j].name (hfs.2.1 _ (getElem_mem _)) _) ?_;rintro _ _ ⟨hr43,rfl⟩;rcases bq (br p.funcs[f].params[j].name) with h44|h44
     ·rw [h44] at hr43;subst hr43;refine go 9 ?_;refine bJ J (go 2 ?_);exact ⟨Y,(λq hq hlt2=>(iQ q j).elim (λh9=>hvj q hq h9) (λh9=>by have h8:j=q:=Y;subst h8;exact h44)),(av J (bv Y) (ao J))⟩
     rw [h44] at hr43;subst hr43;refine go 19 ?_;exact aw (s':=⟨bx,rw⟩) J eX ⟨bU (zx f Y (by unfold gB;rw [oz (λx:bp=>br x.name) _ j Y h44];simp)),J⟩
    refine aC false J (cg h41) (go 11 ?_);refine bJ J (go 2 ?_);exact ⟨Y,(λq hq hlt2=>(iQ q f).elim (λh9=>hvf q hq h9) (λh9=>by have h8:f=q:=Y;subst h8;exact (by unfold gB;rw [h35,decide_eq_true (show p.funcs[f].params.length <= 6 by omega),h39,uK _ _ (λq hq=>hvj q hq Y)];rfl))),az (h1:=(.cons _ (.refl _))) (h:=av J (bv Y) (ao J)) (λb hb=>dT _ (hb))⟩
   rw [h39] at hr38;subst hr38;refine go 17 ?_;exact aw (s':=⟨bx,rw⟩) J eX ⟨bU (zx f Y (by unfold gB;rw [h39];simp)),J⟩
  rw [h35] at hr34;subst hr34;refine go 28 ?_;exact aw (s':=⟨bx,rw⟩) J eX ⟨bU (zx f Y (by unfold gB;rw [h35];rfl)),J⟩
 refine aC false J (cg h32) (go 10 ?_);have hform:iR p=true:=by unfold iR;rw [decide_eq_true Y,uK _ _ (λq hq=>hvk q hq Y),uK _ _ (λq hq=>hvi q hq Y),uK _ _ (λq hq=>hvf q hq Y)];rfl
 have hpb:=Ap hs hform;have hw0:p.wt <= 100000000:=hw;have hnz:(gG p).length <= 1000000000000000:=Y;refine go 1 ?_;refine cy J call74 J (S5 p hform hs Y hnz _) ?_;rintro _ _ ⟨rfl,rfl⟩;refine aW J (za J J V J underlying9 underlying58 underlying5 (by first|(rw [wh];omega)|omega) (N:=(gG p).length) J (cs:=cT (gG p)) J ?_);refine cy J call58 J (J1 (gG p) _) ?_;rintro _ _ ⟨(⟨tl52,hlx52,rfl,htl52⟩|⟨p52,e52,hlx52,rfl,he52⟩),rfl⟩
 ·refine go 12 ?_;refine aC true J ge (go 4 ?_);exact aw (s':=⟨bx,rw⟩) J cM ⟨bU (by rw [r8,hform,hlx52];rfl),J⟩
 refine go 12 ?_;refine aC false J (bZ Y) (go 4 ?_);exact aw (s':=⟨bx,rw⟩) J cM ⟨bU (by rw [r8,hform,hlx52];rfl),J⟩
structure tj where
 globals:List Int
 mutexes:List cq
 procs:List uD
 main:Nat
def o5(u:tj):List aN:=[.sl u.globals.length (u.globals.map λx=>aA x),aB aU u.mutexes,aB fL u.procs,am u.main]
def kV(p:aZ):tj:=if (gJ p).2.2=0 then ⟨p.globals.map bw.init,p.mutexes,p.funcs.map (gQ p),(bL (ba p) d7).n⟩ else ⟨[],[],[],0⟩
instance aA0{x:uD}:gO (fL x) 5:=⟨rfl⟩
instance YN{x:uD}:gU (fL x) [ae x.name,am x.ints,am x.locks,am x.locals,aB encI x.code]:=⟨rfl⟩
def vB:∀{l:List bK} {s:aG} {v:bK},bI l s=some v -> v∈l
 |[],_,_,h=>gM
 |x::l,s,v,h=>by
  rw [bI] at h;split at h
  ·cases h;exact jm
  exact dT _ (vB h)
def wW(p:aZ):oH p (ba p):=by
 have h:∀v,v∈ba p -> (v.kind=2 -> v.n<p.mutexes.length) /\ (v.kind=3 -> v.n<p.funcs.length):=λv hv=>by
  unfold ba at hv;rcases mem_append.1 hv with hv|hv
  ·obtain ⟨i,hi,rfl⟩:=oP.1 hv;exact ⟨λh=>absurd h (by show ¬(1:Int)=2;decide),λh=>absurd h C8⟩
  rcases mem_append.1 hv with hv|hv
  ·obtain ⟨i,hi,rfl⟩:=oP.1 hv;exact ⟨λ_=>hi,λh=>absurd h D4⟩
  obtain ⟨i,hi,rfl⟩:=oP.1 hv;exact ⟨λh=>absurd h (by show ¬(3:Int)=2;decide),λ_=>hi⟩
 exact ⟨λs v hf=>(h v (vB hf)).1,λs v hf=>(h v (vB hf)).2⟩
def N2{p:aZ}(h:gE p=false):gJ p=(-1,-1,10):=by unfold gJ;rw [if_pos h]
def mL.end_{p:aZ}{b:Int}(h:mL (ba p) (ba p).length b):(¬0 <= b -> jJ [] (ba p)=none) /\ (0 <= b -> ∃i:Nat,b=(i:Int) /\ jJ [] (ba p)=some i):=by
 rcases h with ⟨rfl,h⟩|⟨i,rfl,h⟩
 ·rw [ka (bW _),jJ] at h;exact ⟨λ_=>h.symm,λh0=>Y⟩
 exact ⟨λh0=>Y,λ_=>⟨i,J,h⟩⟩
def Sa{p:aZ}{i:Nat}(h:gE p=true)(hb:jJ [] (ba p)=some i):gJ p=(-1,(i:Int),5):=by unfold gJ;rw [if_neg mb,hb]
def C0{p:aZ}(h:gE p=true)(hb:jJ [] (ba p)=none)(hm:me p=false):gJ p=(-1,-1,9):=by unfold gJ;rw [if_neg mb,hb];dsimp only;rw [if_neg (by rw [hm];decide)]
def JR{p:aZ}(h:gE p=true)(hb:jJ [] (ba p)=none)(hm:me p=true):gJ p=kF p p.funcs 0:=by unfold gJ;rw [if_neg mb,hb];dsimp only;rw [if_pos hm]
def PY{p:aZ}(h:(bI (ba p) d7).isSome=false):me p=false:=by
 unfold me;rcases h2:bI (ba p) d7 with _|v
 ·rfl
 rw [h2] at h;cases h
def CX{p:aZ}(h:(bI (ba p) d7).isSome=true):me p=(decide ((bL (ba p) d7).kind=3) && decide ((iy p (bL (ba p) d7).n).length=0)):=by unfold me;rw [ko h]
def Hi{p:aZ}{l:List bE}{k:Nat}{R:Int×Int×Nat}(hk:k<l.length)(h:kF p (l.drop k) k=R):
  ((jY p l[k]).1=0 -> kF p (l.drop (k+1)) (k+1)=R) /\ ((jY p l[k]).1≠0 -> R=((k:Int),(jY p l[k]).2,(jY p l[k]).1)):=by
 rw [iK hk,kF] at h;refine ⟨λh0=>?_,λh0=>?_⟩
 ·rw [if_pos h0] at h;exact h
 rw [if_neg h0] at h;exact h.symm
def Ef{p:aZ}{f s:Int}{e:Nat}(h:gJ p=(f,s,e))(he:e≠0):kV p=⟨[],[],[],0⟩:=by unfold kV;rw [h,if_neg he]
def Dq{p:aZ}(h:gJ p=(0,0,0)):kV p=⟨p.globals.map bw.init,p.mutexes,p.funcs.map (gQ p),(bL (ba p) d7).n⟩:=by unfold kV;rw [h];rfl
def Ly{α:Type}(f:α -> Int)(l:List α)(k:Nat)(h:k<l.length):((l.take k).map f).map (λx=>aN.val (.int .i64 x))++[aN.val (.int .i64 (f l[k]))]=((l.take (k+1)).map f).map λx=>aN.val (.int .i64 x):=by
 rw [ga h,ed,ed];rfl
def SF(p:aZ)(hs:p.sane)(hw:p.wt <= 9000000)(bx:List aT)(rw:List aS):aR prog 18 [.agg (eA p)] [] ⟨bx,rw⟩ λt s'=>t=.tup [.agg (o5 (kV p)),bB ((gJ p).1),bB ((gJ p).2.1),bB (((gJ p).2.2:Nat):Int)] /\ s'=⟨bx,rw⟩:=by
 have hall:=yO p;have hwq:=hw;unfold aZ.wt at hwq;have hfl:=oe bE.wt (λf=>pV) p.funcs;refine bN 112 func18 ?_;refine go 13 λb1 b2=>?_;rcases bq (gE p) with h1|h1
 ·refine qE J call38 J (MA p hs Y _) h1 (go 9 ?_);refine aW J (qx [] J J V call39 J (Tw p Y _ _) dL dL (λ_=>dL) ?_);rintro _ _ ⟨v0,bad,rfl,hbad,rfl⟩;refine ⟨aO v0,λhn b hb=>⟨Ej,λh9=>absurd h9 (λh9=>by unfold aH.bl at hn h9;simp only [fD,mem_append] at hn h9;rcases h9 with h9|h9;exact (du.1 hn).2.2 b h9 b (fj _ hb) rfl;exact (du.1 (du.1 hn).2.1).2.2 b hb b h9 rfl)⟩,?_⟩;refine go 10 ?_;refine sQ 6 J ?_;obtain ⟨hb0,hb1⟩:=hbad.end_;refine go 1 ?_;by_cases h3:(0:Int) <= bad
  ·refine aC true J (mH h3) (go 15 ?_);obtain ⟨ib,rfl,hib⟩:=hb1 Y;have hck:=Sa h1 hib;exact ⟨.inr J,_,⟨bx,rw⟩,oW J (gP (bu.agg (.n (.n (.n (.r .nil))))) (cS [] J J isAgg31 sizeOf31 (cY J J))) (bM J) (bM J) (bM J),aj (.cons _ (.cons _ (.refl _))) (.refl _),yz,J⟩
  refine aC false J (nP h3) (go 8 ?_);refine cy J call40 J (qf (ba p) d7 Y _) ?_;rintro _ _ ⟨rfl,rfl⟩;refine go 12 λb3=>?_;rcases bq ((bI (ba p) d7).isSome) with h6|h6;focus
   refine aF J (cI (bF (oX h6)) (iY J J)) (go 3 ?_);by_cases h7:(bL (ba p) d7).kind=3
   ·refine aC false J (dv h7) (go 6 ?_);have hms:(bL (ba p) d7).n<p.funcs.length:=(wW p).fs _ _ (ko h6) Y;refine aF J (bS ac ac p.funcs mI (λ_=>J) ((bL (ba p) d7).n) J J J J hms V runUnderlying25 sizeOf67) (go 3 ?_);by_cases h8:(0:Int)<(((p.funcs[(bL (ba p) d7).n].params).length:Nat):Int)
    ·refine aC true J (ek h8) (go 15 ?_);have hck:=C0 h1 (hb0 Y) (by rw [CX h6,zS hms,decide_eq_false (show ¬p.funcs[(bL (ba p) d7).n].params.length=0 by omega),pQ]);exact ⟨.inr J,_,⟨bx,rw⟩,oW J (gP (bu.agg (.n (.n (.n (.r .nil))))) (cS [_] J J isAgg31 sizeOf31 (cY J J))) (bM J) (bM J) (bM J),aj (.cons _ (.cons _ (.cons _ (.refl _)))) (.refl _),yz,J⟩
    refine aC false J (em h8) (go 6 ?_);have hmn:me p=true:=by rw [CX h6,zS hms,decide_eq_true (show (bL (ba p) d7).kind=3 by omega),decide_eq_true (show p.funcs[(bL (ba p) d7).n].params.length=0 by omega)];rfl
    refine qS (λg:Nat×aM=>(⟨112,aO g.2++[g.1,b3,b2,b1],⟨⟨g.1,31,[aI,.val g.2,aI,aA (((bL (ba p) d7).n:Nat):Int)]⟩::⟨b3,111,bP (bL (ba p) d7)⟩::⟨b2,31,[aI,aI,aI,aA 0]⟩::⟨b1,27,eA p⟩::bx,⟨g.2,60,3,p.mutexes.length,p.mutexes.flatMap aU⟩::rw⟩,[(10,au (.pointer (some ⟨g.1,0,none⟩))),(1,aE b1),(2,aE b2),(3,bB 0),(4,bB 0),(5,bB 0),(6,.c (.sl (ba p).length ((ba p).flatMap bP)))]⟩:AS)) ?_ ?_
    ·refine b_ [b3,b2,b1] (aY [0,1,3,4] 5 (go 5 ?_));refine cx 2 7 J ?_ ?_;focus
      refine (qW J J V underlying24 sizeOf60 λg4=>?_);refine cx 5 7 J ?_ ?_;focus
       refine (na [] Tryz.t60 32 J J V J J underlying24 aQ J J J J V (fN aU 3 (λ_=>J) p.mutexes) c_ Y (e0 p.mutexes.length) (λhn b hb=>eY (r:=(⟨(.slice (some ⟨g4,0,none⟩) 0 0),60,3,0,[]⟩:aS)) hn hb) bz.h (dw _) λw11=>?_);refine cU [(6,true),(7,false),(8,false)] 0 (go 4 λb9=>?_)
      rotate_left;refine (iG J J V zeroValue31 J λb9=>?_);refine an 5 J J (na [] Tryz.t60 32 J J V J J underlying24 aQ J J J J V (fN aU 3 (λ_=>J) p.mutexes) c_ Y (e0 p.mutexes.length) (λhn b hb=>eY (r:=(⟨(.slice (some ⟨g4,0,none⟩) 0 0),60,3,0,[]⟩:aS)) hn hb) bz.h (dw _) λw11=>?_);refine cU [(6,true),(8,false)] 0 (go 3 ?_)
     rotate_left 2;refine (iG J J V zeroValue31 J λb9=>?_);refine an 2 J J (qW J J V underlying24 sizeOf60 λg10=>?_);refine an 5 J J (na [] Tryz.t60 32 J J V J J underlying24 aQ J J J J V (fN aU 3 (λ_=>J) p.mutexes) c_ Y (e0 p.mutexes.length) (λhn b hb=>eY (r:=(⟨(.slice (some ⟨g10,0,none⟩) 0 0),60,3,0,[]⟩:aS)) hn hb) bz.h (dw _) λw11=>?_);refine cU [(6,true),(8,false)] 0 (go 3 ?_);all_goals
      refine bG ?_;exact ⟨(b9,w11),az j4⟩
    rintro ⟨b12,mv⟩
    try dsimp only
    refine go 7 ?_;refine fZ 3 1 ?_;refine ir (α:=aM) (λk _=>True) (p.globals.length) 11 (λg=>aO g++(aO mv++[b12,b3,b2,b1])) (λk g=>⟨⟨b12,31,[.val g,.val mv,aI,aA (((bL (ba p) d7).n:Nat):Int)]⟩::⟨b3,111,bP (bL (ba p) d7)⟩::⟨b2,31,[aI,aI,aI,aA 0]⟩::⟨b1,27,eA p⟩::bx,⟨g,3,1,k,((p.globals.take k).map bw.init).map λx=>aA x⟩::⟨mv,60,3,p.mutexes.length,p.mutexes.flatMap aU⟩::rw⟩) (λ_=>[(1,aE b1),(2,aE b2),(3,bB 0),(4,bB 0),(5,bB 0),(6,.c (.sl (ba p).length ((ba p).flatMap bP))),(10,aE b12)]) (.slice none 0 0) trivial (az yo) ?_;rintro k v0 hk hik;replace hik:True:=hik
    try dsimp only
    refine go 7 ?_;by_cases h11:((k:Nat):Int)<((p.globals.length:Nat):Int)
    ·refine aC true J (ck h11) (go 7 ?_);refine kf 10 [b12,b3,b2,b1] [] #[true,true,true,true,true,true,true,true,true,true,false,false] aQ aQ aQ ?_;refine aY [0,1,2,3,4] 5 (go 6 ?_);refine ab 5 J (bS ak ak p.globals nD (λ_=>J) k J J J J Y V runUnderlying23 sizeOf63) (aY [6,7] 2 (go 3 ?_));refine an 8 J J (be (r:=[aA (p.globals[k].init)]) oV ?_);refine an 9 J J (dR [] AQ J J V c_ Y (N:=k+1) J (λhn b hb=>eY (r:=(⟨v0,3,1,k,((p.globals.take k).map bw.init).map λx=>aA x⟩:aS)) hn hb) bz.h (Ly bw.init p.globals k Y) λw13=>?_);refine bG ?_;refine id ?_;refine cU [(10,true),(11,false)] 0 (go 3 ?_);refine bG (go 4 ?_);refine bJ J (go 2 ?_);exact ⟨Y,w13,trivial,az (h:=av J (bv Y) (ao J)) j4⟩
    refine aC false J (cg h11) (go 11 ?_);obtain rfl:k=p.globals.length:=Y;rw [gq];refine go 4 ?_;refine fZ 79 5 ?_;refine ir (α:=aM) (λk _=>kF p (p.funcs.drop k) k=kF p p.funcs 0) (p.funcs.length) 12 (λg=>aO g++(aO v0++(aO mv++[b12,b3,b2,b1]))) (λk g=>⟨⟨b12,31,[.val v0,.val mv,.val g,aA (((bL (ba p) d7).n:Nat):Int)]⟩::⟨b3,111,bP (bL (ba p) d7)⟩::⟨b2,31,[aI,aI,aI,aA 0]⟩::⟨b1,27,eA p⟩::bx,⟨g,79,5,k,((p.funcs.take k).map (gQ p)).flatMap fL⟩::⟨v0,3,1,p.globals.length,((p.globals).map bw.init).map λx=>aA x⟩::⟨mv,60,3,p.mutexes.length,p.mutexes.flatMap aU⟩::rw⟩) (λ_=>[(1,aE b1),(2,aE b2),(3,bB 0),(4,bB 0),(5,bB 0),(6,.c (.sl (ba p).length ((ba p).flatMap bP))),(10,aE b12)]) (.slice none 0 0) J (az yo) ?_;rintro k v2 hk hik;replace hik:kF p (p.funcs.drop k) k=kF p p.funcs 0:=hik
    try dsimp only
    refine go 7 ?_;by_cases h14:((k:Nat):Int)<((p.funcs.length:Nat):Int)
    ·refine aC true J (ck h14) (go 8 ?_);refine b_ [b12,b3,b2,b1] (aY [0,1,2,3,4] 13 (go 6 ?_));refine ab 5 J (bS ac ac p.funcs mI (λ_=>J) k J J J J Y V runUnderlying25 sizeOf67) (aY [6] 11 (go 2 ?_));refine cx 7 13 J ?_ ?_;focus
      refine (fX J J V call41 J (Gk p p.funcs[k] (wW p) Y BO _ _) ?_);rintro _ _ ⟨rfl,rfl⟩;refine cU [(8,true),(9,true),(10,true),(11,true),(12,true),(13,false),(14,false),(15,true),(16,true),(17,true)] 0 (go 11 λb14=>?_)
     rotate_left;refine (iG J J V zeroValue79 J λb16=>?_);refine an 7 J J (fX J J V call41 J (Gk p p.funcs[k] (wW p) Y BO _ _) ?_);rintro _ _ ⟨rfl,rfl⟩;refine cU [(8,true),(9,true),(10,true),(11,true),(12,true),(14,false),(15,true),(16,true),(17,true)] 0 (go 10 ?_);all_goals
      refine bG (go 5 ?_);by_cases h19:(((jY p p.funcs[k]).1:Nat):Int)=0
      ·refine aC false J (dv h19) (go 9 ?_);refine aW J (be (hf:=dU fL fL (gQ p p.funcs[k]) J J J) Ka ?_);refine aW J (dR [] J3 J (fN fL 5 tT _) V c_ Y (N:=k+1) J (λ_=>bz.h) bz.h (tX (gQ p) fL p.funcs k Y) λw17=>?_);refine go 7 ?_;refine bJ J (go 2 ?_);exact ⟨Y,w17,((Hi Y hik).1 Y),az (h1:=(.cons _ (.refl _))) (h:=av J (bv Y) (ao J)) j4⟩
      refine aC true J (fe h19) (go 22 ?_);have hck:=((JR h1 (hb0 Y) hmn).trans ((Hi Y hik).2 Y));exact ⟨.inr J,_,⟨bx,rw⟩,oW J (gP (bu.agg (.n (.n (.n (.r .nil))))) (cS [_,_,_] J J isAgg31 sizeOf31 (cY J J))) (bM J) (bM J) (bM J),aj (.cons _ (.cons _ (.cons _ (.cons _ (.cons _ (.refl _)))))) (.cons _ (.cons _ (.cons _ (.refl _)))),by rw [Ef hck Y,hck];rfl,J⟩
    refine aC false J (cg h14) (go 10 ?_);obtain rfl:k=p.funcs.length:=Y;have hck:gJ p=(0,0,0):=by rw [JR h1 (hb0 Y) hmn,←hik,ka (bW _),kF]
    rw [gq];refine iE (cs':=[.val v0,.val mv,.sl p.funcs.length ((p.funcs.map (gQ p)).flatMap fL),aA (((bL (ba p) d7).n:Nat):Int)]) [] 2 J J ?_;show cL prog _ _ ⟨_,_,⟨⟨b12,31,[.val v0,.val mv,.sl p.funcs.length ((p.funcs.map (gQ p)).flatMap fL),aA (((bL (ba p) d7).n:Nat):Int)]⟩::⟨b3,111,bP (bL (ba p) d7)⟩::⟨b2,31,[aI,aI,aI,aA 0]⟩::⟨b1,27,eA p⟩::bx,_⟩,_⟩ _;refine iE (cs':=[.sl p.globals.length ((p.globals.map bw.init).map λx=>aA x),.val mv,.sl p.funcs.length ((p.funcs.map (gQ p)).flatMap fL),aA (((bL (ba p) d7).n:Nat):Int)]) [] 0 J J ?_;show cL prog _ _ ⟨_,_,⟨⟨b12,31,[.sl p.globals.length ((p.globals.map bw.init).map λx=>aA x),.val mv,.sl p.funcs.length ((p.funcs.map (gQ p)).flatMap fL),aA (((bL (ba p) d7).n:Nat):Int)]⟩::⟨b3,111,bP (bL (ba p) d7)⟩::⟨b2,31,[aI,aI,aI,aA 0]⟩::⟨b1,27,eA p⟩::bx,_⟩,_⟩ _;refine iE (cs':=[.sl p.globals.length ((p.globals.map bw.init).map λx=>aA x),aB aU p.mutexes,.sl p.funcs.length ((p.funcs.map (gQ p)).flatMap fL),aA (((bL (ba p) d7).n:Nat):Int)]) [] 1 J J ?_;show cL prog _ _ ⟨_,_,⟨⟨b12,31,[.sl p.globals.length ((p.globals.map bw.init).map λx=>aA x),aB aU p.mutexes,.sl p.funcs.length ((p.funcs.map (gQ p)).flatMap fL),aA (((bL (ba p) d7).n:Nat):Int)]⟩::⟨b3,111,bP (bL (ba p) d7)⟩::⟨b2,31,[aI,aI,aI,aA 0]⟩::⟨b1,27,eA p⟩::bx,_⟩,_⟩ _;refine go 8 ?_;exact ⟨.inr J,_,⟨bx,rw⟩,oW J (cS [_,_] J J isAgg31 sizeOf31 (cY J J)) (bM J) (bM J) (bM J),aj (.cons _ (.cons _ (.cons _ (.cons _ (.refl _))))) (.refl _),by rw [Dq hck,hck];unfold o5;dsimp only;first|(rw [fW,fW];rfl)|(unfold aB;rw [fW,fW];rfl),J⟩
   refine aC true J (fe h7) (go 26 ?_);have hck:=C0 h1 (hb0 Y) (by rw [CX h6,decide_eq_false (show ¬(bL (ba p) d7).kind=3 by omega)];rfl)
  rotate_left;refine aF J (cI (bF (ol h6)) (iY J J)) (go 30 ?_);have hck:=C0 h1 (hb0 Y) (PY h6);all_goals
   exact ⟨.inr J,_,⟨bx,rw⟩,oW J (gP (bu.agg (.n (.n (.n (.r .nil))))) (cS [_] J J isAgg31 sizeOf31 (cY J J))) (bM J) (bM J) (bM J),aj (.cons _ (.cons _ (.cons _ (.refl _)))) (.refl _),yz,J⟩
 refine qE J call38 J (MA p hs Y _) h1 (go 15 ?_);have hck:=N2 h1;exact ⟨.inr J,_,⟨bx,rw⟩,oW J (gP (bu.agg (.n (.n (.n (.r .nil))))) (cS [] J J isAgg31 sizeOf31 (cY J J))) (bM J) (bM J) (bM J),aj (.cons _ (.cons _ (.refl _))) (.refl _),yz,J⟩
instance aAt{x:tj}:gO (o5 x) 4:=⟨rfl⟩
instance aBf{x:tj}:gU (o5 x) [.sl x.globals.length (x.globals.map λx=>aA x),aB aU x.mutexes,aB fL x.procs,am x.main]:=⟨rfl⟩
def U4{bx:List aT}{rw rw':List aS}(h:rw'.Perm rw):jU ⟨bx,rw⟩ ⟨bx,rw'⟩:=by
 intro w hm;have hp:((⟨bx,rw'⟩:aH).bl).Perm ((⟨bx,rw⟩:aH).bl):=List.Perm.append (List.Perm.refl _) (h.flatMap_right _);have hu:fl (bi (⟨bx,rw⟩:aH).bl w) (bi (⟨bx,rw'⟩:aH).bl w):=up_sub λb hb=>hp.mem_iff.1 hb;exact ⟨⟨hp.nodup_iff.2 hm.nodup,λb hb=>hm.lt b (hp.mem_iff.1 hb),λx hx=>let ⟨us,e,r⟩:=hm.box x hx;⟨us,e,r.mono hu⟩,λx hx=>let ⟨us,e,r⟩:=hm.row x (h.mem_iff.1 hx);⟨us,e,r.mono hu⟩⟩,λb hb=>hp.mem_iff.1 hb⟩
def US{P:Program}{ops:Array Oper}{l:List Oper}{n:Nat}{T:List Nat}{bx:List aT}{rw:List aS}{ts:List (Nat×AT)}{Q:Exit -> AS -> Prop}{a b:aS}(h:cL P ops l ⟨n,T,⟨bx,b::a::rw⟩,ts⟩ Q):cL P ops l ⟨n,T,⟨bx,a::b::rw⟩,ts⟩ Q:=rh (qO (U4 (.swap _ _ _))) h
def N0{l:bd}{s:aG}(h:dG l s=none)(a:Int):(cc l s a).length=l.length+1:=by
 induction l with
 |nil=>rfl
 |cons p l ih=>
  unfold dG at h;split at h
  ·cases h
  rename_i h1;unfold cc;rw [if_neg h1,length_cons,ih h,length_cons]
def db.no_lk{gs ms fs lk lo:bd}{l:List bK}(m:db gs ms fs lk lo l){s:aG}(h:bI l s=none):dG lk s=none:=by rw [m.lk,h]
def db.lkp{gs ms fs lk lo:bd}{l:List bK}(m:db gs ms fs lk lo l){s:aG}(h:bI l s=none)(n:Nat):db gs ms fs (cc lk s ((n:Nat):Int)) lo (l++[⟨s,5,n⟩]):=by
 refine ⟨λt=>?_,λt=>?_,λt v hv hk=>?_,λt v hv hk=>?_,λt v hv hk=>?_⟩
 ·rw [lF,m.lo t];by_cases e:s=t
  ·subst e;rw [h];dsimp only;rw [if_pos rfl];rfl
  rcases bI l t with _|v
  ·dsimp only;rw [if_neg e]
  rfl
 ·rw [mG,lF,m.lk t];by_cases e:s=t
  ·subst e;rw [if_pos rfl,h];dsimp only;rw [if_pos rfl];rfl
  rw [if_neg e];rcases bI l t with _|v
  ·dsimp only;rw [if_neg e]
  rfl
 all_goals
  rw [lF] at hv;rcases h1:bI l t with _|u
  ·rw [h1] at hv;dsimp only at hv;split at hv
   ·cases hv;cases hk
   cases hv
  rw [h1] at hv;obtain rfl:=kz hv
  first|exact m.gs t u h1 hk|exact m.ms t u h1 hk|exact m.fs t u h1 hk
def RL{ps:List bp}{l:List bK}{i m k:Nat}{r:List bK×Nat×Nat}(hk:k<ps.length)(h:hY (ps.drop k) l i m=some r):
  bI l ps[k].name=none /\ (ps[k].mutex=true -> hY (ps.drop (k+1)) (l++[⟨ps[k].name,5,m⟩]) i (m+1)=some r) /\ (ps[k].mutex=false -> hY (ps.drop (k+1)) (l++[⟨ps[k].name,4,i⟩]) (i+1) m=some r):=by
 rcases h0:bI l ps[k].name with _|v
 ·exact ⟨J,(wa hk h).2 yQ⟩
 have:=(wa hk h).1 yQ;cases this
def RS{p:aZ}{f:bE}(h:(jY p f).1=0):∃l i m,hY f.params (ba p) 0 0=some (l,i,m) /\ (cE p f.body (ah.init l i)).q.1=0:=by
 unfold jY at h;split at h
 ·cases h
 rename_i l i m h1;exact ⟨l,i,m,h1,h⟩
def F_(A B:List aT)(D gg gm gf:Nat)(p:aZ)(gs ms fs:bd)(c3 c4 c5 c6 c7 c8:aN)(rw:List aS)(f:bE)(hM:db gs ms fs [] [] (ba p))(hgg:ai gg 0 a_ gs∈rw)(hgm:ai gm 0 a_ ms∈rw)(hgf:ai gf 0 a_ fs∈rw)(hok:oH p (ba p))(hl:(ba p).length <= 10000000)(hw:f.wt <= 20000000)(hkn:kg f.body)(hE:(jY p f).1=0):aR prog 27 [aE D,.agg (ac f)] [D] ⟨A++⟨D,77,[aD gg,aD gm,aD gf,c3,c4,c5,c6,c7,c8]⟩::B,rw⟩ λt s'=>t=.agg (fL (gQ p f)) /\ ∃c3' c4' c5' c6' c8',s'=⟨A++⟨D,77,[aD gg,aD gm,aD gf,c3',c4',c5',c6',.sl (nX p f).length ((nX p f).map λx=>aA x),c8']⟩::B,rw⟩:=by
 have hwf:f.wt=1+f.params.length+bQ f.body:=J;refine bN 100 func27 ?_;refine go 14 λb1 b2=>?_;refine aW J (sa 0 (a_) J J V λgl=>?_);refine aW J (sa 0 (a_) J J V λgk=>?_);refine go 30 ?_;obtain ⟨l1,i1,m1,hp1,hq1⟩:=RS hE;refine ir (α:=List bK×Nat×Nat×bd×bd) (λk g=>hY (f.params.drop k) g.1 g.2.1 g.2.2.1=some (l1,i1,m1) /\ db gs ms fs g.2.2.2.1 g.2.2.2.2 g.1 /\ co g.2.2.2.2 /\ g.2.2.2.1.length=g.2.2.1 /\ g.2.1+g.2.2.1 <= k /\ g.1.length <= (ba p).length+k /\ oH p g.1) (f.params.length) 31 (λ_=>[gk,gl,b2,b1,D]) (λ_ g=>⟨⟨b2,79,[ae ax,aA 0,aA 0,aA 0,aI]⟩::⟨b1,67,[ae f.name,aB cG f.params,aB encS f.body]⟩::A++⟨D,77,[aD gg,aD gm,aD gf,aD gl,aD gk,am g.2.1,aI,aI,aA 0]⟩::B,ai gk 0 a_ g.2.2.2.1::ai gl 0 a_ g.2.2.2.2::rw⟩) (λ_=>[(0,aE D),(3,aE b1),(4,aE b2),(29,.c (aB cG f.params)),(30,aX f.params.length)]) (ba p,0,0,[],[]) ⟨hp1,hM,List.Pairwise.nil,J,bW _,bW _,hok⟩ (az jA) ?_;rintro k ⟨l,i,m,lk,lo⟩ hk ⟨hpar,hM,hK,hlk,him,hll,hlo⟩;dsimp only at hpar hM hK hlk him hll hlo
 try dsimp only
 refine go 2 ?_;by_cases h1:((k:Nat):Int)<((f.params.length:Nat):Int)
 ·refine aC true J (ck h1) (go 10 ?_);refine aF J (bS cG cG f.params gx (λ_=>J) k J J J J Y V runUnderlying64 sizeOf69) (go 7 λb5=>?_);have hkp:k<f.params.length:=Y;have hps:=RL hkp hpar;refine go 2 ?_;rcases bq (f.params[k].mutex) with h3|h3
  ·refine aF J (cI (bF h3) (ca [] isAgg4 sizeOf4)) (go 4 ?_);refine kf 11 [b5,b2,b1,D,gl,gk] [] #[true,true,true,true,true,true,true,true,true,true,true,false] aQ aQ aQ ?_;refine aY [0,1,2,3,4,5,6,7,8,9] 1 (go 11 ?_);refine ab 10 J (L5 (m:=0) (ev:=a_) lk J J aK tM underlying74 mB) ?_;refine bG ?_;refine id ?_;refine an 11 J J (ou lk [] J J J J J underlying74 underlying9 aK pZ ?_);refine bG (go 6 ?_);refine bJ J (go 2 ?_);exact ⟨Y,(l++[⟨f.params[k].name,5,m⟩],i,m+1,cc lk f.params[k].name ((lk.length:Nat):Int),lo),⟨hps.2.1 h3,(by dsimp only;rw [hlk];exact hM.lkp hps.1 m),hK,by show (cc _ _ _).length=m+1;rw [N0 (hM.no_lk hps.1),hlk],qk,z_,hlo.app (by show (5:Int)≠2;decide) Co⟩,az (h1:=(.cons _ (.refl _))) (h:=av J (bv Y) (ao J)) jA⟩
  refine aF J (cI (bF h3) (ca [] isAgg4 sizeOf4)) (go 6 ?_);refine kf 10 [b5,b2,b1,D,gl,gk] [] #[true,true,true,true,true,true,true,true,true,true,false] aQ aQ aQ ?_;refine aY [0,1,2,3,4,5,6,7,8,9] 0 (go 11 ?_);refine bG ?_;refine id ?_;refine an 10 J J (ou lo [_] J J J J J underlying74 underlying9 aK pZ ?_);refine bG (go 6 ?_);refine bJ J (go 2 ?_);refine d9 62 J (t:=aX (i+1)) (bv Y) (go 5 ?_);refine bJ J (go 2 ?_);exact ⟨Y,(l++[⟨f.params[k].name,4,i⟩],i+1,m,lk,cc lo f.params[k].name ((i:Nat):Int)),⟨hps.2.2 h3,hM.var hps.1 i,hK.put _ _,hlk,qk,z_,hlo.app Ed vH⟩,az (h1:=(.cons _ (.refl _))) (h:=av J (bv Y) (ao J)) jA⟩
 refine aC false J (cg h1) (go 10 ?_);refine b_ [b2,b1,D,gk,gl] (aY [0,1,2,3,4,5,6,7,8,9] 4 (go 11 ?_));refine ab 10 J (L5 (m:=0) (ev:=a_) lk J J aK tM underlying74 mB) ?_;refine ab 11 J (id <|wV Tryz.t79 [(0,1),(1,1),(2,1),(3,1),(4,1)] J (.cons J (.cons J (.cons J .nil))) underlying79 aQ J aQ J J) ?_;refine tV 77 J (bu.refl _:bu _ (.agg [ae f.name,am i,am lk.length,aA 0,aI])) ?_;refine an 12 J J (id <|iG J J V zeroValue79 J λb6=>?_);refine an 13 J J (id <|Gg J J J J J sizeOf79 J (ez J) (zM J) aK Ih ?_);refine bG (go 3 ?_);obtain rfl:k=f.params.length:=Y;have hpl:hY f.params (ba p) 0 0=some (l,i,m):=by rw [hp1,←hpar,ka (bW _),hY]
 obtain ⟨rfl,rfl,rfl⟩:l1=l /\ i1=i /\ m1=m:=by rw [hp1] at hpl;cases hpl;exact ⟨rfl,rfl,rfl⟩
 refine US ?_;refine sy 3 1 ?_;refine sy 92 12 ?_;refine go 3 ?_;have hlk2:dZ p (ah.init l1 i1) (bQ f.body+1):=⟨hlo,yM,J,yM,by show i1+_ <= _;omega,by show l1.length+_ <= _;omega⟩;have hbk:=xQ p f.body (ah.init l1 i1) 1 hlk2;have hW4:mp gg gm gf gk gs ms fs lk (ai gk 0 a_ lk::rw):=⟨by simp [hgg],by simp [hgm],rS,aK⟩;refine aW J (xM J J V call51 J (Dx _ f.body (bW _) hkn (_::_::_::A) B D gg gm gf gk gl p (ah.init l1 i1) gs ms fs lk lo (.slice none 0 0) (.slice none 0 0) (ai gk 0 a_ lk::rw) hM hW4 hK (hlk2.mono Y) hq1) aK aK oU oU (λ_=>⟨aK,aK,oU,oU⟩) λvc7 vs7 lo7 hp7=>?_);refine go 10 ?_;refine d9 87 J ((bu.agg (.r (.r (.r (.r (.r (.r (.n (.r (.r (.n (.n (.n .nil))))))))))))):bu _ (.agg (encI (bf 8 .zero)))) ?_;have hz8:(aJ p f.body (ah.init l1 i1)).code.length <= 100000000 /\ (aJ p f.body (ah.init l1 i1)).sites.length=(aJ p f.body (ah.init l1 i1)).code.length:=⟨by have:=hbk.code;omega,hbk.sites⟩;refine aW J (gi J J V call52 J (oM (_::_::_::A) B D gg gm gf gk gl (aJ p f.body (ah.init l1 i1)) vc7 vs7 _ (bf 8 .zero) (aJ p f.body (ah.init l1 i1)).n hz8.1 hz8.2) aK bz.h bz.h hP λvc8 vs8=>?_);refine go 3 ?_;refine b_ [b2,b1,D] (cU [(0,true),(1,true),(2,true),(3,true),(4,true),(5,true),(6,true),(7,true),(8,true),(9,false),(10,true),(11,false)] 0 (go 13 ?_));refine bG (go 2 ?_);refine zF (cs':=[ae f.name,am i1,am lk.length,aA ((((aJ p f.body (ah.init l1 i1)).put (bf 8 .zero) (aJ p f.body (ah.init l1 i1)).n).locals:Nat):Int),.sl ((aJ p f.body (ah.init l1 i1)).put (bf 8 .zero) (aJ p f.body (ah.init l1 i1)).n).code.length (((aJ p f.body (ah.init l1 i1)).put (bf 8 .zero) (aJ p f.body (ah.init l1 i1)).n).code.flatMap encI)]) [] 4 J J ?_;refine zF (cs':=[aD gg,aD gm,aD gf,aD gl,aD gk,aA ((((aJ p f.body (ah.init l1 i1)).put (bf 8 .zero) (aJ p f.body (ah.init l1 i1)).n).locals:Nat):Int),.val vc8,.sl ((aJ p f.body (ah.init l1 i1)).put (bf 8 .zero) (aJ p f.body (ah.init l1 i1)).n).sites.length (((aJ p f.body (ah.init l1 i1)).put (bf 8 .zero) (aJ p f.body (ah.init l1 i1)).n).sites.map λx=>aA x),aA ((((aJ p f.body (ah.init l1 i1)).put (bf 8 .zero) (aJ p f.body (ah.init l1 i1)).n).n:Nat):Int)]) (_::_::_::A) 7 J J ?_
 refine go 6 ?_;subst hlk;exact ⟨.inr J,_,⟨A++⟨D,77,[aD gg,aD gm,aD gf,aD gl,aD gk,(aA ((((aJ p f.body (ah.init l1 i1)).put (bf 8 .zero) (aJ p f.body (ah.init l1 i1)).n).locals:Nat):Int)),.val vc8,.sl ((aJ p f.body (ah.init l1 i1)).put (bf 8 .zero) (aJ p f.body (ah.init l1 i1)).n).sites.length (((aJ p f.body (ah.init l1 i1)).put (bf 8 .zero) (aJ p f.body (ah.init l1 i1)).n).sites.map λx=>aA x),(aA ((((aJ p f.body (ah.init l1 i1)).put (bf 8 .zero) (aJ p f.body (ah.init l1 i1)).n).n:Nat):Int))]⟩::B,rw⟩,bT J (cS [_] J J isAgg79 sizeOf79 (cY J J)),aj (.cons _ (.cons _ (.cons _ (.refl _)))) (.cons _ (.cons _ (.refl _))),by unfold gQ;rw [hp1];rfl,_,_,_,_,_,by unfold nX;rw [hp1];rfl⟩
end
section
def EK(fs fs':dC):Prop:=∀s,(dG fs s).map bE.params=(dG fs' s).map bE.params
def EK.put{fs fs':dC}(h:EK fs fs')(k:aG){f f':bE}(hp:f.params=f'.params):EK (cc fs k f) (cc fs' k f'):=λs=>by
 rw [mG,mG];split
 ·simp [hp]
 exact h s
end
section
def fk(p:aZ)(v:bK):Int:=if v.kind=1∨v.kind=4 then 1 else if v.kind=2 then (if 0<pG p v.n then 3 else 2) else if v.kind=5 then 4 else if v.kind=3 then 5 else 9
def q6(p:aZ):Option bK -> Int
 |none=>0
 |some v=>fk p v
def wA(p:aZ)(x:bK):(x.kind=2 /\ 0<pG p x.n /\ fk p x=3)∨(x.kind=2 /\ ¬0<pG p x.n /\ fk p x=2)∨(x.kind=5 /\ fk p x=4)∨(x.kind≠2 /\ x.kind≠5 /\ (x.kind=1∨x.kind=4) /\ fk p x=1)∨(x.kind=3 /\ fk p x=5)∨(x.kind≠1 /\ x.kind≠2 /\ x.kind≠3 /\ x.kind≠4 /\ x.kind≠5 /\ fk p x=9):=by
 unfold fk;by_cases h1:x.kind=1∨x.kind=4
 ·rw [if_pos h1];exact .inr (.inr (.inr (.inl ⟨Y,Y,h1,rfl⟩)))
 rw [if_neg h1];by_cases h2:x.kind=2
 ·rw [if_pos h2];by_cases hm:0<pG p x.n
  ·rw [if_pos hm];exact .inl ⟨h2,hm,rfl⟩
  rw [if_neg hm];exact .inr (.inl ⟨h2,hm,rfl⟩)
 rw [if_neg h2];by_cases h5:x.kind=5
 ·rw [if_pos h5];exact .inr (.inr (.inl ⟨h5,rfl⟩))
 rw [if_neg h5];by_cases h3:x.kind=3
 ·rw [if_pos h3];exact .inr (.inr (.inr (.inr (.inl ⟨h3,rfl⟩))))
 rw [if_neg h3];exact .inr (.inr (.inr (.inr (.inr ⟨Y,h2,h3,Y,h5,rfl⟩))))
def sk(p:aZ)(v:bK):fk p v≠0:=by rcases wA p v with h|h|h|h|h|h<;>omega
structure j9 (p:aZ) (fs:dC) (v:bd) (l:List bK):Prop where
 kn:co v
 get:∀s,bO v s=q6 p (bI l s)
 fn:∀s x,bI l s=some x -> x.kind=3 -> ∃f,dG fs s=some f /\ iy p x.n=f.params
section
variable {p:aZ}{fs:dC}{v:bd}{l:List bK}(h:j9 p fs v l)
include h
theorem Jm(s:aG):lr v s=ea l s:=by
 unfold lr ea;rw [h.get s];rcases bI l s with _|x
 ·rfl
 show (if fk p x=0 then 6 else if fk p x=1 then 0 else 8)=if x.kind=1∨x.kind=4 then 0 else 8
 rw [if_neg (sk p x)];rcases wA p x with ⟨h2,-,e⟩|⟨h2,-,e⟩|⟨h2,e⟩|⟨-,-,h2,e⟩|⟨h2,e⟩|⟨h2,-,-,h3,-,e⟩<;>rw [e];rotate_left;rotate_left;rotate_left
 ·rw [if_pos h2];rfl
 rotate_left;all_goals
  rw [if_neg (Y:¬(x.kind=1∨x.kind=4))];rfl
end
mutual
def Ae{p:aZ}{fs:dC}{v:bd}{l:List bK}(h:j9 p fs v l):∀e:aP,gA v e=cO l e
 |.mk op num name args=>by rw [gA,cO,Jm h,Ia h args]
def Ia{p:aZ}{fs:dC}{v:bd}{l:List bK}(h:j9 p fs v l):∀r:List aP,iI v r=gT l r
 |[]=>by rw [iI,gT]
 |e::r=>by rw [iI,gT,Ae h e,Ia h r];rfl
end
section
variable {p:aZ}{fs:dC}{v:bd}{l:List bK}(h:j9 p fs v l)
include h
theorem iOo(r:cD)(hr:r.index.length <= 1):lO v r=dq p l r:=by
 have hix:gT l r.index=if r.index.length=0 then 0 else yr v r.index:=by
  rcases hi:r.index with _|⟨e,_|⟨a,b⟩⟩
  ·rw [gT];rfl
  ·rw [gT,gT,if_neg aK];show dE _ 0=gA v e;rw [Ae h];unfold dE;split<;>simp_all
  rw [hi] at hr;simp at hr
 unfold lO dq pX;rw [h.get r.name,hix];rcases bI l r.name with _|x
 ·rfl
 show (if fk p x=0 then 6 else if ((decide (fk p x≠2) && decide (fk p x≠3) && decide (fk p x≠4))||(decide (fk p x=3) != decide (0<r.index.length)))=true then 8 else if fk p x=3 then yr v r.index else 0)=dE (if x.kind=2∨x.kind=5 then (if (decide (x.kind=2) && decide (0<pG p x.n))=decide (0<r.index.length) then 0 else 8) else 8) _;rw [if_neg (sk p x)];have hlen:r.index.length=0∨r.index.length=1:=Y;rcases wA p x with ⟨h2,hm,e⟩|⟨h2,hm,e⟩|⟨h2,e⟩|⟨h2,h5,-,e⟩|⟨h2,e⟩|⟨-,h2,-,-,h5,e⟩<;>rw [e]
 ·rw [if_pos (Or.inl h2:x.kind=2∨x.kind=5),decide_eq_true h2,decide_eq_true hm];rcases hlen with h0|h0<;>rw [h0]<;>rfl
 ·rw [if_pos (Or.inl h2:x.kind=2∨x.kind=5),decide_eq_true h2,decide_eq_false hm];rcases hlen with h0|h0<;>rw [h0]<;>rfl
 ·rw [if_pos (Or.inr h2:x.kind=2∨x.kind=5),decide_eq_false (show ¬x.kind=2 by omega)];rcases hlen with h0|h0<;>rw [h0]<;>rfl
 ·rw [if_neg (Y:¬(x.kind=2∨x.kind=5))];rfl
 ·rw [if_neg (Y:¬(x.kind=2∨x.kind=5))];rfl
 rw [if_neg (Y:¬(x.kind=2∨x.kind=5))];rfl
theorem GU:∀(al:List cK)(xs:List bp),(∀a,a∈al -> a.mutex=true -> a.ref.index.length <= 1) -> gW v al xs=ia p l al xs
 |[],xs,_=>by cases xs<;>simp [gW,ia]
 |a::al,[],_=>by simp [gW,ia]
 |a::al,x::xs,hi=>by
  rw [gW,ia,GU al xs λb hb=>hi b (dT _ hb)];unfold kp rm;by_cases hm:a.mutex=x.mutex
  ·rw [if_pos hm,if_pos hm];by_cases hx:a.mutex=true
   ·rw [if_pos hx,if_pos hx,iOo h a.ref (hi a jm hx)];rfl
   rw [if_neg hx,if_neg hx,Ae h];rfl
  rw [if_neg hm,if_neg hm];rfl
theorem RZ(s:aL)(hi:∀a,a∈s.args -> a.mutex=true -> a.ref.index.length <= 1):oL v fs s.name s.args=dx p l s:=by
 unfold oL dx;rw [h.get s.name];rcases hf:bI l s.name with _|x
 ·rfl
 show (if fk p x=0 then 6 else if fk p x=5 then Fv v s.args (dG fs s.name) else 8)=if x.kind=3 then (if (iy p x.n).length=s.args.length then ia p l s.args (iy p x.n) else 7) else 8
 rw [if_neg (sk p x)];by_cases h3:x.kind=3
 ·obtain ⟨f,hl,hp⟩:=h.fn _ x hf h3;rw [if_pos h3,hl,hp,if_pos (show fk p x=5 by rcases wA p x with h|h|h|h|h|h<;>omega)];show (if s.args.length=f.params.length then gW v s.args f.params else 7)=_;rw [GU h _ _ hi];by_cases hl2:s.args.length=f.params.length
  ·rw [if_pos hl2,if_pos hl2.symm]
  rw [if_neg hl2,if_neg (λe=>hl2 e.symm)]
 rw [if_neg h3,if_neg];rcases wA p x with h|h|h|h|h|h<;>omega
end
end
section
mutual
def wZ:aL -> Prop
 |.mk k _ _ r args t f=>(k=5∨k=6 -> r.index.length <= 1) /\ (∀a,a∈args -> a.mutex=true -> a.ref.index.length <= 1) /\ (k≠7 -> k≠8 -> t=[]) /\ (k≠7 -> f=[]) /\ mf t /\ mf f
def mf:List aL -> Prop
 |[]=>True
 |s::l=>wZ s /\ mf l
end
def JU{r:cD}(h:okRefB r=true):r.index.length <= 1:=by have:=(ye h).2.1;omega
mutual
def NL:∀(D:Nat)(s:aL),fC D s=true -> wZ s
 |D,.mk k name e r args t f,h=>by
  rw [fC] at h;simp only [cz,lT,decide_eq_true_eq] at h;obtain ⟨⟨⟨⟨⟨⟨-,-⟩,-⟩,h5⟩,-⟩,ha⟩,ht⟩:=h.1;have hf:=h.2;rw [wZ];refine ⟨λhk=>?_,λa hm hx=>?_,λh7 h8=>?_,λh7=>?_,?_,?_⟩
  ·rw [if_pos hk] at h5;exact JU h5
  ·have h9:=d3.1 ha a hm;unfold eh at h9;rw [if_pos hx,cz] at h9;exact JU h9.1
  ·rw [if_neg Y,decide_eq_true_eq] at ht;exact h_.1 ht
  ·rcases hf with hf|hf
   ·exact h_.1 hf
   exact absurd hf.1 h7
  ·by_cases hk:k=7∨k=8
   ·rw [if_pos hk] at ht;exact xZ (D+1) t ht
   rw [if_neg hk,decide_eq_true_eq] at ht;rw [h_.1 ht,mf];trivial
  rcases hf with hf|hf
  ·rw [h_.1 hf,mf];trivial
  exact xZ (D+1) f hf.2
def xZ:∀(D:Nat)(l:List aL),cn D l=true -> mf l
 |_,[],_=>by rw [mf];trivial
 |D,s::l,h=>by
  rw [cn,cz] at h;rw [mf];exact ⟨NL D s h.1,xZ D l h.2⟩
end
def sM(p:aZ)(l:List bK)(s:aL):Nat:=
 if s.kind=1 then dE (ey l s.name) (cO l s.expr)
 else if s.kind=2 then dE (ea l s.name) (cO l s.expr)
 else if s.kind=5∨s.kind=6 then dq p l s.ref
 else if s.kind=3∨s.kind=4 then dx p l s
 else if s.kind=7∨s.kind=8 then cO l s.expr else 0
def Qb{p:aZ}{fs:dC}{v:bd}{l:List bK}(h:j9 p fs v l)(s:aL)(hr:s.kind=5∨s.kind=6 -> s.ref.index.length <= 1)(ha:∀a,a∈s.args -> a.mutex=true -> a.ref.index.length <= 1):jW v fs s=sM p l s:=by
 unfold jW sM;rw [Ae h,Jm h,RZ h s ha];by_cases h1:s.kind=1
 ·rw [if_pos h1,if_pos h1,h.get s.name];unfold ey;rcases bI l s.name with _|x
  ·rfl
  show (if fk p x=0 then _ else 5)=_;rw [if_neg (sk p x)];rfl
 rw [if_neg h1,if_neg h1];by_cases h2:s.kind=2
 ·rw [if_pos h2,if_pos h2];rfl
 rw [if_neg h2,if_neg h2];by_cases h5:s.kind=5∨s.kind=6
 ·rw [if_pos h5,if_pos h5,iOo h s.ref (hr h5)]
 rw [if_neg h5,if_neg h5]
def A6(p:aZ)(s:aL)(x:ah)(h7:s.kind≠7)(h8:s.kind≠8):(hJ p s x).q=cP x.q (sM p x.ents s) x.n /\ (hJ p s x).n=x.n+1 /\ (hJ p s x).ents=if s.kind=1 then x.ents++[⟨s.name,4,x.locals⟩] else x.ents:=by
 unfold hJ sM;by_cases h1:s.kind=1
 ·rw [if_pos h1,if_pos h1,if_pos h1];exact ⟨rfl,rfl,rfl⟩
 rw [if_neg h1,if_neg h1,if_neg h1];by_cases h2:s.kind=2
 ·rw [if_pos h2,if_pos h2];exact ⟨rfl,rfl,rfl⟩
 rw [if_neg h2,if_neg h2];by_cases h3:s.kind=3∨s.kind=4
 ·rw [if_pos h3,if_neg (Y:¬(s.kind=5∨s.kind=6)),if_pos h3];exact ⟨rfl,rfl,rfl⟩
 rw [if_neg h3];by_cases h5:s.kind=5
 ·rw [if_pos h5,if_pos (.inl h5:s.kind=5∨s.kind=6)];exact ⟨rfl,rfl,rfl⟩
 rw [if_neg h5];by_cases h6:s.kind=6
 ·rw [if_pos h6,if_pos (.inr h6:s.kind=5∨s.kind=6)];exact ⟨rfl,rfl,rfl⟩
 rw [if_neg h6,if_neg (Y:¬(s.kind=5∨s.kind=6)),if_neg h3,if_neg (Y:¬(s.kind=7∨s.kind=8))];exact ⟨rfl,rfl,rfl⟩
def KZ{q:iH}(h:q.1≠0)(e:Nat)(s:Int):cP q e s=q:=by unfold cP;rw [if_neg (λhh=>h hh.1)]
def HH{q:iH}(h:q.1=0){e:Nat}(he:e≠0)(s:Int):cP q e s=(e,s):=by unfold cP;rw [if_pos ⟨h,he⟩]
mutual
def RF(p:aZ):∀(s:aL)(x:ah),x.q.1≠0 -> (ci p s x).q=x.q
 |.mk k name e r args t f,x,h=>by
  have hb:(x.branch e).q=x.q:=KZ h _ _;have ht:(cE p t (x.branch e)).q=x.q:=by rw [rF p t _ (by rw [hb];exact h),hb]
  rw [ci];split
  ·split
   ·exact ht
   show (cE p f _).q=_;rw [rF p f _ (by show (cE p t (x.branch e)).q.1≠0;rw [ht];exact h)];exact ht
  split
  ·exact ht
  rename_i h7 h8;rw [(A6 p (.mk k name e r args t f) x h7 h8).1];exact KZ h _ _
def rF(p:aZ):∀(l:List aL)(x:ah),x.q.1≠0 -> (cE p l x).q=x.q
 |[],x,_=>by rw [cE]
 |s::l,x,h=>by
  have h1:=RF p s x h;rw [cE,rF p l _ (by rw [h1];exact h),h1]
end
end
section
open Go.RowKit
def Hv(n:Int)(h0:fit n)(s:aH):aR prog 123 [cC (bB n)] [] s λt s'=>t=cB (bytes (eM n)) /\ s'=s:=by
 intro vs w hm _ hl hr;obtain ⟨v,rfl⟩:∃v,vs=[v]:=by
  cases vs with
  |nil=>cases hl
  |cons v vs=>cases vs with
   |nil=>exact ⟨v,rfl⟩
   |cons _ _=>simp at hl
 have h1:cN (bi s.bl w) (cC (bB n)) v:=hr 0 aK aK;obtain rfl:=(Iz _ _ h1).val;refine (Tryz.strconv_Itoa n h0.1 h0.2 w (Dj h1).tab).mono ?_;rintro e w' ⟨rfl,k,os,rfl⟩;obtain ⟨hk,hm'⟩:=y2 hm (VP w k os);have he:bytes (eM n)=⟨(Lib.itoa n).toArray⟩:=by rw [T7];rfl
 rw [he];exact ⟨_,_,s,J,⟨J,J⟩,cN.c _ _ (.val _ J),hm',hk,λb hb=>.inl hb⟩
end
end Go.Proofs.YtjgeihmhppadaaaGreatDoor
