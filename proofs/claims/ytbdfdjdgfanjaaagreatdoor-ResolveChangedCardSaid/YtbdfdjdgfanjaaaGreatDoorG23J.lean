import Derived.Test.YtbdfdjdgfanjaaaGreatDoorG22J
set_option linter.all false
set_option synthInstance.maxHeartbeats 1000000
set_option synthInstance.maxSize 1000000
set_option maxHeartbeats 6400000
set_option maxRecDepth 100000
namespace Go.Proofs.YtbdfdjdgfanjaaaGreatDoor
open Go.Proofs.Tryz
open List (length_append length_cons length_nil mem_append mem_cons not_mem_nil append_assoc getElem_mem take_of_length_le)
section
open Go.RowKit
theorem cL3{P:Program}{f:ResultVar -> Sem Value}{r1 r2 r3 r4:ResultVar}{v1 v2 v3 v4:Value}{w:World}(e1:(f r1).run P w=.ok v1 w)(e2:(f r2).run P w=.ok v2 w)(e3:(f r3).run P w=.ok v3 w)(e4:(f r4).run P w=.ok v4 w):(#[r1,r2,r3,r4].mapM f).run P w=.ok #[v1,v2,v3,v4] w:=by
 simp [Sem.run_bind,e1,e2,e3,e4]
theorem cLs{w:World}{r1 r2 r3 r4:AT}{v1 v2 v3 v4:Value}(h1:dO w r1 v1)(h2:dO w r2 v2)(h3:dO w r3 v3)(h4:dO w r4 v4):dO w (.tup [r1,r2,r3,r4]) (.tuple #[v1,v2,v3,v4]):=
 .tup [r1,r2,r3,r4] [v1,v2,v3,v4] rfl λi h h'=>by rcases i with _|_|_|_|i;exact h1;exact h2;exact h3;exact h4;simp at h;omega
theorem cF6{P:Program}{st:AS}{fn:Func}{rv1 rv2 rv3 rv4:ResultVar}{r1 r2 r3 r4:AT}(h:fn.results=#[rv1,rv2,rv3,rv4])(h1:aAc P st rv1 r1)(h2:aAc P st rv2 r2)(h3:aAc P st rv3 r3)(h4:aAc P st rv4 r4):aEt P fn st (.tup [r1,r2,r3,r4]):=λa w hs=>by
 obtain ⟨v1,e1,f1⟩:=h1 a w hs
 obtain ⟨v2,e2,f2⟩:=h2 a w hs
 obtain ⟨v3,e3,f3⟩:=h3 a w hs
 obtain ⟨v4,e4,f4⟩:=h4 a w hs
 refine ⟨_,cLs e1 e2 e3 e4,?_⟩
 unfold results
 rw [h,Sem.run_bind]
 erw [cL3 f1 f2 f3 f4]
 simp [go_sem]
def cF9(x:cI1):List AC:=[Vs x.name,nC x.ints,nC x.locks,nC x.locals,Sq encI x.code]
theorem cI0(x:cI1):(cF9 x).length=5:=rfl
def cJl(p:cK)(f:bS):List Int:=match cGd f.params (cFd p) 0 0 with
 |none=>[]
 |some (l,i,_)=>(cJg p f l i).sites
theorem cKs{P:Program}{c:Code}{n:Nat}{T:List Nat}{ts:List (Nat×AT)}{Q:Exit -> AS -> Prop}{rw:List bA}{b:Nat}{E:TypeId}{cs cs':List AC}{v:Value}{E2:TypeId}{z k:Nat}{ds:List AC}(A:List Box){B:List Box}(i:Nat)(hi:cs[i]?=some (.val v))(hr:cs.set i (.sl k ds)=cs')(h:AWp P c ⟨n,T,⟨A++⟨b,E,cs'⟩::B,rw⟩,ts⟩ Q)(hz:0<z:=by decide):AWp P c ⟨n,T,⟨A++⟨b,E,cs⟩::B,⟨v,E2,z,k,ds⟩::rw⟩,ts⟩ Q:=by
 subst hr
 exact zU (vU (st:=⟨n,T,⟨A++⟨b,E,cs⟩::B,⟨v,E2,z,k,ds⟩::rw⟩,ts⟩) (aBg (r:=⟨v,E2,z,k,ds⟩) A i hi hz)) h
theorem cGt{ps:List aS}{l:List cFc}{i m k:Nat}{R:Option (List cFc×Nat×Nat)}(hk:k<ps.length)(h:cGd (ps.drop k) l i m=R):
  ((cFa l ps[k].name).isSome=true -> R=none) /\ ((cFa l ps[k].name).isSome=false -> (ps[k].mutex=true -> cGd (ps.drop (k+1)) (l++[⟨ps[k].name,5,m⟩]) i (m+1)=R) /\ (ps[k].mutex=false -> cGd (ps.drop (k+1)) (l++[⟨ps[k].name,4,i⟩]) (i+1) m=R)):=by
 rw [List.drop_eq_getElem_cons hk,cGd] at h
 refine ⟨λh0=>?_,λh0=>⟨λhm=>?_,λhm=>?_⟩⟩
 ·rw [if_pos h0] at h;exact h.symm
 ·rw [if_neg (by rw [h0];decide),if_pos hm] at h;exact h
 rw [if_neg (by rw [h0];decide),if_neg (by rw [hm];decide)] at h;exact h
theorem cJ2(p:cK)(f:bS)(hok:cHo p (cFd p))(hl:(cFd p).length <= 10000000)(hw:f.wt <= 20000000)(bx:List Box)(rw:List bA):aL prog 58 [.agg (jV p),.c (.sl (cFd p).length ((cFd p).flatMap cE9)),.agg (fV f)] [] ⟨bx,rw⟩ λt s'=>t=.tup [.agg (cF9 (cGe p f)),.c (.sl (cJl p f).length ((cJl p f).map λx=>Vi x)),Ci ((cGk p f).2),Ci (((cGk p f).1:Nat):Int)] /\ s'=⟨bx,rw⟩:=by
 unfold bS.wt at hw
 refine acX 136 func58 ?_
 refine go 11 λb1 b2 b3=>?_
 refine dx [b3,b2,b1] (tz [(0,true),(2,true)] 5 (go 3 ?_))
 refine ox 1 Y Y (aTr underlying124 sizeOf128 λg4=>?_)
 refine ox 3 Y Y (jU [] Tryz.t128 32 Y Y V Y Y underlying124 B6 Y Y Y Y V (aFz cE9 3 cFm (cFd p)) B1 J (Nat.zero_add (cFd p).length) (λhn b hb=>qM (r:=(⟨(.slice (some ⟨g4,0,none⟩) 0 0),128,3,0,[]⟩:bA)) hn hb) cFh.h (List.nil_append _) λw5=>?_)
 refine tz [(4,true),(5,false),(6,true)] 0 (go 4 λb6=>?_)
 refine ax (go 17 λb7=>?_)
 refine fM (λg:Nat×Value×List cFc×Nat×Nat=>(⟨136,aY g.2.1++[b7,b6,b3,b2,b1],⟨⟨b7,57,[Vs f.name,nC g.2.2.2.1,nC g.2.2.2.2,Vi 0,Nl]⟩::⟨b6,169,[Sq dB p.globals,Sq bT p.mutexes,Sq fV p.funcs,.val g.2.1,Vi 0,Vi 0,Vi 0,Vi 0,Nl,Nl]⟩::⟨b3,57,[Vs aK,Vi 0,Vi 0,Vi 0,Nl]⟩::⟨b2,62,fV f⟩::⟨b1,27,jV p⟩::bx,⟨g.2.1,128,3,g.2.2.1.length,g.2.2.1.flatMap cE9⟩::rw⟩,(12,nI g.1)::[(1,.c (.sl (cFd p).length ((cFd p).flatMap cE9))),(3,pP b1),(5,pP b2),(6,pP b3),(7,.c (Nl)),(8,Ci 0),(9,Ci 0),(10,pP b6),(11,pP b7)]⟩:AS)) (λg=>g.1 <= f.params.length /\ cGd (f.params.drop g.1) g.2.2.1 g.2.2.2.1 g.2.2.2.2=cGd f.params (cFd p) 0 0 /\ g.2.2.2.1+g.2.2.2.2=g.1 /\ g.2.2.1.length=(cFd p).length+g.1 /\ cHo p g.2.2.1) (λg=>f.params.length-g.1) (0,w5,cFd p,0,0) (cQf AK) ⟨Nat.zero_le _,Y,Y,Y,hok⟩ ?_
 rintro ⟨k,v,l,i,m⟩ ⟨hk,hpar,him,hll,hlo⟩
 dsimp only at hk hpar him hll hlo
 try dsimp only
 refine go 7 ?_
 by_cases h1:((k:Nat):Int)<((f.params.length:Nat):Int)
 ·refine wcp true Y (jZ h1) (go 9 ?_)
  refine dx [b7,b6,b3,b2,b1] (tz [(0,true),(1,true),(2,true),(3,true),(4,true),(5,true),(6,true)] 10 (go 8 ?_))
  refine tx 7 Y (bH cP cP f.params gL (λ_=>Y) k Y Y Y Y J V runUnderlying59 sizeOf79) (tz [(8,true),(9,true)] 7 (go 3 ?_))
  refine t2 10 14 Y ?_ ?_
  focus
   refine (bV call57 (cJb v l f.params[k].name _ (by first|rfl|(rw [hll];omega)) J _ _) ?_)
   rintro _ _ ⟨rfl,rfl⟩
   refine tz [(11,true),(12,true),(13,true),(14,false),(15,false),(16,true)] 0 (go 7 λb11=>?_)
  rotate_left
  refine (jK Y Y V zeroValue128 Y λb11=>?_)
  refine ox 10 Y Y (bV call57 (cJb v l f.params[k].name _ (by first|rfl|(rw [hll];omega)) J _ _) ?_)
  rintro _ _ ⟨rfl,rfl⟩
  refine tz [(11,true),(12,true),(13,true),(15,false),(16,true)] 0 (go 6 ?_)
  all_goals
   refine ax (go 6 ?_)
   refine gY Y (λh7=>?_) (λh7=>?_)
   ·refine go 16 ?_
    have hpl:=(cGt J hpar).1 h7
    exact ⟨.inr Y,_,⟨bx,rw⟩,cF6 Y (aCn (Wk.agg (.r (.r (.r (.r (.n .nil)))))) (aO [_,_,_] Y Y isAgg57 sizeOf57 (bK Y Y))) (aCn (Wk.c aQl) (aF Y)) (aF Y) (aF Y),aA (.cons _ (.cons _ (.cons _ (.cons _ (.cons _ (.cons _ (.refl _))))))) (List.sublist_cons_self _ _),by unfold cGe cJl cGk;rw [hpl];rfl,Y⟩
   refine go 7 ?_
   refine wyz Y (bH cP cP f.params gL (λ_=>Y) k Y Y Y Y J V runUnderlying59 sizeOf79) (go 1 ?_)
   rcases Bool.eq_false_or_eq_true (f.params[k].mutex) with h8|h8
   ·refine wyz Y (fL (bZ h8) (iP Y Y isAgg4 sizeOf4 Y)) (go 4 ?_)
    refine dx [] ?_
    refine cHd 16 16 3 [b11,b7,b6,b3,b2,b1] [] #[false,false,false,false,false,false,false,false,false,false,false,false,false,false,false,false,false,false,false] #[false,false,false,false,false,false,false,false,false,false,false,false,false,false,false,false] #[true,true,true,true,true,true,true,true,true,true,true,true,true,true,true,true,false,false,false] Y B6 B6 ?_
    refine tz [(0,true),(1,true),(2,true),(3,true),(4,true),(5,true),(6,true),(7,true)] 8 (go 9 ?_)
    refine tx 8 Y (bH cP cP f.params gL (λ_=>Y) k Y Y Y Y J V runUnderlying59 sizeOf79) (tz [(9,true),(10,true),(11,true),(12,true),(13,true)] 2 (go 6 ?_))
    refine ox 14 Y Y (bDk (hf:=aV cE9 cE9 (⟨f.params[k].name,5,m⟩:cFc) Y Y Y) zb0 ?_)
    refine ox 15 Y Y (bDm [] cHf Y (aFz cE9 3 cFm _) V B1 J (@length_append _ l [(⟨f.params[k].name,5,m⟩:cFc)]).symm (λhn b hb=>qM (r:=(⟨v,128,3,l.length,l.flatMap cE9⟩:bA)) hn hb) cFh.h (List.flatMap_append (f:=cE9)).symm λw12=>?_)
    refine ax ?_
    refine id ?_
    refine tz [(16,true),(17,true),(18,false)] 0 (go 4 ?_)
    refine ax (go 4 ?_)
    refine wad Y (go 1 ?_)
    refine eA 73 Y (t:=nI (m+1)) (gQ J) (go 6 ?_)
    refine wad Y (go 2 ?_)
    exact ⟨(k+1,w12,l++[⟨f.params[k].name,5,m⟩],i,m+1),⟨Cw,((cGt J hpar).2 h7).1 h8,E7,AN,hlo.app (by show (5:Int)≠2;decide) (by show (5:Int)≠3;decide)⟩,Bb,cQf (h1:=(.cons _ (.refl _))) (h:=aG Y (gQ J) (sA Y)) BP⟩
   refine wyz Y (fL (bZ h8) (iP Y Y isAgg4 sizeOf4 Y)) (go 4 ?_)
   refine dx [] ?_
   refine cHd 16 16 3 [b11,b7,b6,b3,b2,b1] [] #[false,false,false,false,false,false,false,false,false,false,false,false,false,false,false,false,false,false,false] #[false,false,false,false,false,false,false,false,false,false,false,false,false,false,false,false] #[true,true,true,true,true,true,true,true,true,true,true,true,true,true,true,true,false,false,false] Y B6 B6 ?_
   refine tz [(0,true),(1,true),(2,true),(3,true),(4,true),(5,true),(6,true),(7,true)] 8 (go 9 ?_)
   refine tx 8 Y (bH cP cP f.params gL (λ_=>Y) k Y Y Y Y J V runUnderlying59 sizeOf79) (tz [(9,true),(10,true),(11,true),(12,true),(13,true)] 2 (go 6 ?_))
   refine ox 14 Y Y (bDk (hf:=aV cE9 cE9 (⟨f.params[k].name,4,i⟩:cFc) Y Y Y) zb0 ?_)
   refine ox 15 Y Y (bDm [] cHf Y (aFz cE9 3 cFm _) V B1 J (@length_append _ l [(⟨f.params[k].name,4,i⟩:cFc)]).symm (λhn b hb=>qM (r:=(⟨v,128,3,l.length,l.flatMap cE9⟩:bA)) hn hb) cFh.h (List.flatMap_append (f:=cE9)).symm λw13=>?_)
   refine ax ?_
   refine id ?_
   refine tz [(16,true),(17,true),(18,false)] 0 (go 4 ?_)
   refine ax (go 4 ?_)
   refine wad Y (go 1 ?_)
   refine eA 95 Y (t:=nI (i+1)) (gQ J) (go 6 ?_)
   refine wad Y (go 2 ?_)
   exact ⟨(k+1,w13,l++[⟨f.params[k].name,4,i⟩],i+1,m),⟨Cw,((cGt J hpar).2 h7).2 h8,E7,AN,hlo.app (by show (4:Int)≠2;decide) Cu⟩,Bb,cQf (h1:=(.cons _ (.refl _))) (h:=aG Y (gQ J) (sA Y)) BP⟩
 refine wcp false Y (jQ h1) (go 20 ?_)
 obtain rfl:k=f.params.length:=J
 have hpl:cGd f.params (cFd p) 0 0=some (l,i,m):=by rw [←hpar,List.drop_eq_nil_of_le (Nat.le_refl _),cGd]
 refine aAg (cs':=[Sq dB p.globals,Sq bT p.mutexes,Sq fV p.funcs,Sq cE9 l,nC i,Vi 0,Vi 0,Vi 0,Nl,Nl]) [_] 3 Y Y ?_
 show eQ prog _ _ ⟨_,_,⟨⟨b7,57,[Vs f.name,nC i,nC m,Vi 0,Nl]⟩::⟨b6,169,[Sq dB p.globals,Sq bT p.mutexes,Sq fV p.funcs,Sq cE9 l,nC i,Vi 0,Vi 0,Vi 0,Nl,Nl]⟩::⟨b3,57,[Vs aK,Vi 0,Vi 0,Vi 0,Nl]⟩::⟨b2,62,fV f⟩::⟨b1,27,jV p⟩::bx,rw⟩,_⟩ _
 refine bR3 3 1 ?_
 refine bR3 70 12 ?_
 show eQ prog _ _ ⟨_,_,⟨⟨b7,57,[Vs f.name,nC i,nC m,Vi 0,Nl]⟩::⟨b6,169,[Sq dB p.globals,Sq bT p.mutexes,Sq fV p.funcs,.sl (LS.init l i).ents.length ((LS.init l i).ents.flatMap cE9),Vi (((LS.init l i).locals:Nat):Int),Vi (((LS.init l i).n:Nat):Int),Vi ((LS.init l i).q.2),Vi (((LS.init l i).q.1:Nat):Int),Nl,Nl]⟩::⟨b3,57,[Vs aK,Vi 0,Vi 0,Vi 0,Nl]⟩::⟨b2,62,fV f⟩::⟨b1,27,jV p⟩::bx,⟨(.slice none 0 0),70,12,(LS.init l i).code.length,(LS.init l i).code.flatMap encI⟩::⟨(.slice none 0 0),3,1,(LS.init l i).sites.length,(LS.init l i).sites.map λx=>Vi x⟩::rw⟩,_⟩ _
 have hlk:RmL p (LS.init l i) (wtS f.body+1):=⟨hlo,by show 0+_ <= _;omega,Y,by show 0+_ <= _;omega,by show i+_ <= _;omega,by show l.length+_ <= _;omega⟩
 have hbk:=cH2 p f.body (LS.init l i) 1 hlk
 refine go 3 ?_
 refine wo Y (wcL Y Y V call88 Y (cIi _ f.body (Nat.le_refl _) [_] _ b6 p (LS.init l i) (.slice none 0 0) (.slice none 0 0) _ (hlk.mono J)) G0 Bc Bc (λ_=>⟨G0,Bc,Bc⟩) λvc14 vs14=>?_)
 show eQ prog _ _ ⟨_,_,⟨⟨b7,57,[Vs f.name,nC i,nC m,Vi 0,Nl]⟩::⟨b6,169,[Sq dB p.globals,Sq bT p.mutexes,Sq fV p.funcs,.sl (cRs p f.body (LS.init l i)).ents.length ((cRs p f.body (LS.init l i)).ents.flatMap cE9),Vi (((cRs p f.body (LS.init l i)).locals:Nat):Int),Vi (((cRs p f.body (LS.init l i)).n:Nat):Int),Vi ((cRs p f.body (LS.init l i)).q.2),Vi (((cRs p f.body (LS.init l i)).q.1:Nat):Int),.val vc14,.val vs14]⟩::⟨b3,57,[Vs aK,Vi 0,Vi 0,Vi 0,Nl]⟩::⟨b2,62,fV f⟩::⟨b1,27,jV p⟩::bx,_⟩,_⟩ _
 refine go 10 ?_
 refine eA 107 Y ((Wk.agg (.r (.r (.r (.r (.r (.r (.n (.r (.r (.n (.n (.n .nil))))))))))))):Wk _ (.agg (encI (opI 8 .zero)))) ?_
 refine wo Y (wcL Y Y V call89 Y (cGm [_] _ b6 p (cRs p f.body (LS.init l i)) vc14 vs14 _ (opI 8 .zero) (cRs p f.body (LS.init l i)).n (by have:=hbk.code;omega) hbk.sites) G0 cFh.h cFh.h Bj λvc15 vs15=>?_)
 show eQ prog _ _ ⟨_,_,⟨⟨b7,57,[Vs f.name,nC i,nC m,Vi 0,Nl]⟩::⟨b6,169,[Sq dB p.globals,Sq bT p.mutexes,Sq fV p.funcs,.sl ((cRs p f.body (LS.init l i)).put (opI 8 .zero) (cRs p f.body (LS.init l i)).n).ents.length (((cRs p f.body (LS.init l i)).put (opI 8 .zero) (cRs p f.body (LS.init l i)).n).ents.flatMap cE9),Vi ((((cRs p f.body (LS.init l i)).put (opI 8 .zero) (cRs p f.body (LS.init l i)).n).locals:Nat):Int),Vi ((((cRs p f.body (LS.init l i)).put (opI 8 .zero) (cRs p f.body (LS.init l i)).n).n:Nat):Int),Vi (((cRs p f.body (LS.init l i)).put (opI 8 .zero) (cRs p f.body (LS.init l i)).n).q.2),Vi ((((cRs p f.body (LS.init l i)).put (opI 8 .zero) (cRs p f.body (LS.init l i)).n).q.1:Nat):Int),.val vc15,.val vs15]⟩::⟨b3,57,[Vs aK,Vi 0,Vi 0,Vi 0,Nl]⟩::⟨b2,62,fV f⟩::⟨b1,27,jV p⟩::bx,_⟩,_⟩ _
 refine go 3 ?_
 refine dx [b6,b3,b2,b1] (tz [(0,true),(1,true),(2,true),(3,true),(4,true),(5,true),(6,true),(7,true),(8,true),(9,false),(10,true),(11,false)] 0 (go 13 ?_))
 refine ax (go 2 ?_)
 refine cKs (cs':=[Vs f.name,nC i,nC m,Vi ((((cRs p f.body (LS.init l i)).put (opI 8 .zero) (cRs p f.body (LS.init l i)).n).locals:Nat):Int),.sl ((cRs p f.body (LS.init l i)).put (opI 8 .zero) (cRs p f.body (LS.init l i)).n).code.length (((cRs p f.body (LS.init l i)).put (opI 8 .zero) (cRs p f.body (LS.init l i)).n).code.flatMap encI)]) [] 4 Y Y ?_
 show AWp prog _ ⟨_,_,⟨⟨b7,57,[Vs f.name,nC i,nC m,Vi ((((cRs p f.body (LS.init l i)).put (opI 8 .zero) (cRs p f.body (LS.init l i)).n).locals:Nat):Int),.sl ((cRs p f.body (LS.init l i)).put (opI 8 .zero) (cRs p f.body (LS.init l i)).n).code.length (((cRs p f.body (LS.init l i)).put (opI 8 .zero) (cRs p f.body (LS.init l i)).n).code.flatMap encI)]⟩::⟨b6,169,[Sq dB p.globals,Sq bT p.mutexes,Sq fV p.funcs,.sl ((cRs p f.body (LS.init l i)).put (opI 8 .zero) (cRs p f.body (LS.init l i)).n).ents.length (((cRs p f.body (LS.init l i)).put (opI 8 .zero) (cRs p f.body (LS.init l i)).n).ents.flatMap cE9),Vi ((((cRs p f.body (LS.init l i)).put (opI 8 .zero) (cRs p f.body (LS.init l i)).n).locals:Nat):Int),Vi ((((cRs p f.body (LS.init l i)).put (opI 8 .zero) (cRs p f.body (LS.init l i)).n).n:Nat):Int),Vi (((cRs p f.body (LS.init l i)).put (opI 8 .zero) (cRs p f.body (LS.init l i)).n).q.2),Vi ((((cRs p f.body (LS.init l i)).put (opI 8 .zero) (cRs p f.body (LS.init l i)).n).q.1:Nat):Int),.val vc15,.val vs15]⟩::⟨b3,57,[Vs aK,Vi 0,Vi 0,Vi 0,Nl]⟩::⟨b2,62,fV f⟩::⟨b1,27,jV p⟩::bx,_⟩,_⟩ _
 refine cKs (cs':=[Sq dB p.globals,Sq bT p.mutexes,Sq fV p.funcs,.sl ((cRs p f.body (LS.init l i)).put (opI 8 .zero) (cRs p f.body (LS.init l i)).n).ents.length (((cRs p f.body (LS.init l i)).put (opI 8 .zero) (cRs p f.body (LS.init l i)).n).ents.flatMap cE9),Vi ((((cRs p f.body (LS.init l i)).put (opI 8 .zero) (cRs p f.body (LS.init l i)).n).locals:Nat):Int),Vi ((((cRs p f.body (LS.init l i)).put (opI 8 .zero) (cRs p f.body (LS.init l i)).n).n:Nat):Int),Vi (((cRs p f.body (LS.init l i)).put (opI 8 .zero) (cRs p f.body (LS.init l i)).n).q.2),Vi ((((cRs p f.body (LS.init l i)).put (opI 8 .zero) (cRs p f.body (LS.init l i)).n).q.1:Nat):Int),.val vc15,.sl ((cRs p f.body (LS.init l i)).put (opI 8 .zero) (cRs p f.body (LS.init l i)).n).sites.length (((cRs p f.body (LS.init l i)).put (opI 8 .zero) (cRs p f.body (LS.init l i)).n).sites.map λx=>Vi x)]) [_] 9 Y Y ?_
 show AWp prog _ ⟨_,_,⟨⟨b7,57,[Vs f.name,nC i,nC m,Vi ((((cRs p f.body (LS.init l i)).put (opI 8 .zero) (cRs p f.body (LS.init l i)).n).locals:Nat):Int),.sl ((cRs p f.body (LS.init l i)).put (opI 8 .zero) (cRs p f.body (LS.init l i)).n).code.length (((cRs p f.body (LS.init l i)).put (opI 8 .zero) (cRs p f.body (LS.init l i)).n).code.flatMap encI)]⟩::⟨b6,169,[Sq dB p.globals,Sq bT p.mutexes,Sq fV p.funcs,.sl ((cRs p f.body (LS.init l i)).put (opI 8 .zero) (cRs p f.body (LS.init l i)).n).ents.length (((cRs p f.body (LS.init l i)).put (opI 8 .zero) (cRs p f.body (LS.init l i)).n).ents.flatMap cE9),Vi ((((cRs p f.body (LS.init l i)).put (opI 8 .zero) (cRs p f.body (LS.init l i)).n).locals:Nat):Int),Vi ((((cRs p f.body (LS.init l i)).put (opI 8 .zero) (cRs p f.body (LS.init l i)).n).n:Nat):Int),Vi (((cRs p f.body (LS.init l i)).put (opI 8 .zero) (cRs p f.body (LS.init l i)).n).q.2),Vi ((((cRs p f.body (LS.init l i)).put (opI 8 .zero) (cRs p f.body (LS.init l i)).n).q.1:Nat):Int),.val vc15,.sl ((cRs p f.body (LS.init l i)).put (opI 8 .zero) (cRs p f.body (LS.init l i)).n).sites.length (((cRs p f.body (LS.init l i)).put (opI 8 .zero) (cRs p f.body (LS.init l i)).n).sites.map λx=>Vi x)]⟩::⟨b3,57,[Vs aK,Vi 0,Vi 0,Vi 0,Nl]⟩::⟨b2,62,fV f⟩::⟨b1,27,jV p⟩::bx,rw⟩,_⟩ _
 refine dx [b7,b6,b2,b1] (tz [(0,true),(1,true),(2,true),(3,true),(4,true),(5,true),(6,true),(7,true),(8,true),(9,true),(10,true),(11,true),(12,true),(13,false),(14,true),(15,true),(16,true)] 0 (go 18 ?_))
 refine ax (go 2 ?_)
 exact ⟨.inr Y,_,⟨bx,rw⟩,cF6 Y (aO [_,_] Y Y isAgg57 sizeOf57 (bK Y Y)) (aF Y) (aF Y) (aF Y),aA (.cons _ (.cons _ (.cons _ (.cons _ (.cons _ (.refl _)))))) (.refl _),by unfold cGe cJl cGk;rw [hpl];rfl,Y⟩
structure cJ0 where
 globals:List Int
 mutexes:List cL
 procs:List cI1
 main:Nat
def cK1(u:cJ0):List AC:=[.sl u.globals.length (u.globals.map λx=>Vi x),Sq bT u.mutexes,Sq cF9 u.procs,nC u.main]
def cKk(p:cK):cJ0:=if (cFx p).2.2=0 then ⟨p.globals.map aI.init,p.mutexes,p.funcs.map (cGe p),(cFb (cFd p) cFl).n⟩ else ⟨[],[],[],0⟩
instance cNi{x:cI1}:mR (cF9 x) 5:=⟨rfl⟩
instance cMa{x:cI1}:iY (cF9 x) [Vs x.name,nC x.ints,nC x.locks,nC x.locals,Sq encI x.code]:=⟨rfl⟩
theorem cH3:∀{l:List cFc} {s:ByteArray} {v:cFc},cFa l s=some v -> v∈l
 |[],_,_,h=>DV
 |x::l,s,v,h=>by
  rw [cFa] at h;split at h
  ·cases h;exact List.mem_cons_self
  exact List.mem_cons_of_mem _ (cH3 h)
theorem cI9(p:cK):cHo p (cFd p):=by
 have h:∀v,v∈cFd p -> (v.kind=2 -> v.n<p.mutexes.length) /\ (v.kind=3 -> v.n<p.funcs.length):=λv hv=>by
  unfold cFd at hv
  rcases mem_append.1 hv with hv|hv
  ·obtain ⟨i,hi,rfl⟩:=List.mem_mapIdx.1 hv
   exact ⟨λh=>absurd h (by show ¬(1:Int)=2;decide),λh=>absurd h (by show ¬(1:Int)=3;decide)⟩
  rcases mem_append.1 hv with hv|hv
  ·obtain ⟨i,hi,rfl⟩:=List.mem_mapIdx.1 hv
   exact ⟨λ_=>hi,λh=>absurd h (by show ¬(2:Int)=3;decide)⟩
  obtain ⟨i,hi,rfl⟩:=List.mem_mapIdx.1 hv
  exact ⟨λh=>absurd h (by show ¬(3:Int)=2;decide),λ_=>hi⟩
 exact ⟨λs v hf=>(h v (cH3 hf)).1,λs v hf=>(h v (cH3 hf)).2⟩
theorem cLj{p:cK}(h:jI p=false):cFx p=(-1,-1,10):=by unfold cFx;rw [if_pos h]
theorem cH1.end_{p:cK}{b:Int}(h:cH1 (cFd p) (cFd p).length b):(¬0 <= b -> cG0 [] (cFd p)=none) /\ (0 <= b -> ∃i:Nat,b=(i:Int) /\ cG0 [] (cFd p)=some i):=by
 rcases h with ⟨rfl,h⟩|⟨i,rfl,h⟩
 ·rw [List.drop_eq_nil_of_le (Nat.le_refl _),cG0] at h
  exact ⟨λ_=>h.symm,λh0=>J⟩
 exact ⟨λh0=>J,λ_=>⟨i,Y,h⟩⟩
theorem cLo{p:cK}{i:Nat}(h:jI p=true)(hb:cG0 [] (cFd p)=some i):cFx p=(-1,(i:Int),5):=by unfold cFx;rw [if_neg B5,hb]
theorem cI8{p:cK}(h:jI p=true)(hb:cG0 [] (cFd p)=none)(hm:cHa p=false):cFx p=(-1,-1,9):=by unfold cFx;rw [if_neg B5,hb];dsimp only;rw [if_neg (by rw [hm];decide)]
theorem cKm{p:cK}(h:jI p=true)(hb:cG0 [] (cFd p)=none)(hm:cHa p=true):cFx p=cGh p p.funcs 0:=by unfold cFx;rw [if_neg B5,hb];dsimp only;rw [if_pos hm]
theorem cJp{p:cK}(h:(cFa (cFd p) cFl).isSome=false):cHa p=false:=by
 unfold cHa;rcases h2:cFa (cFd p) cFl with _|v
 ·rfl
 rw [h2] at h;cases h
theorem cHj{p:cK}(h:(cFa (cFd p) cFl).isSome=true):cHa p=(decide ((cFb (cFd p) cFl).kind=3) && decide ((cGc p (cFb (cFd p) cFl).n).length=0)):=by unfold cHa;rw [cFt h]
theorem cGy{p:cK}{l:List bS}{k:Nat}{R:Int×Int×Nat}(hk:k<l.length)(h:cGh p (l.drop k) k=R):
  ((cGk p l[k]).1=0 -> cGh p (l.drop (k+1)) (k+1)=R) /\ ((cGk p l[k]).1≠0 -> R=((k:Int),(cGk p l[k]).2,(cGk p l[k]).1)):=by
 rw [List.drop_eq_getElem_cons hk,cGh] at h
 refine ⟨λh0=>?_,λh0=>?_⟩
 ·rw [if_pos h0] at h;exact h
 rw [if_neg h0] at h;exact h.symm
theorem cG1{p:cK}{f s:Int}{e:Nat}(h:cFx p=(f,s,e))(he:e≠0):cKk p=⟨[],[],[],0⟩:=by unfold cKk;rw [h,if_neg he]
theorem cLm{p:cK}(h:cFx p=(0,0,0)):cKk p=⟨p.globals.map aI.init,p.mutexes,p.funcs.map (cGe p),(cFb (cFd p) cFl).n⟩:=by unfold cKk;rw [h];rfl
theorem cJ9{α:Type}(f:α -> Int)(l:List α)(k:Nat)(h:k<l.length):((l.take k).map f).map (λx=>AC.val (.int .i64 x))++[AC.val (.int .i64 (f l[k]))]=((l.take (k+1)).map f).map λx=>AC.val (.int .i64 x):=by
 rw [List.take_succ_eq_append_getElem h,List.map_append,List.map_append];rfl
theorem cLk(p:cK)(hs:p.sane)(hw:p.wt <= 9000000)(bx:List Box)(rw:List bA):aL prog 23 [.agg (jV p)] [] ⟨bx,rw⟩ λt s'=>t=.tup [.agg (cK1 (cKk p)),Ci ((cFx p).1),Ci ((cFx p).2.1),Ci (((cFx p).2.2:Nat):Int)] /\ s'=⟨bx,rw⟩:=by
 have hall:=cJe p
 have hwq:=hw
 unfold cK.wt at hwq
 have hfl:=aDr bS.wt (λf=>by unfold bS.wt;omega) p.funcs
 refine acX 112 func23 ?_
 refine go 13 λb1 b2=>?_
 rcases Bool.eq_false_or_eq_true (jI p) with h1|h1
 ·refine bOu Y call55 Y (aPt p hs J _) h1 (go 9 ?_)
  refine wo Y (aQk [] Y Y V call56 Y (cK3 p J _ _) bDl bDl (λ_=>bDl) ?_)
  rintro _ _ ⟨v0,bad,rfl,hbad,rfl⟩
  refine ⟨aY v0,λhn b hb=>⟨E3,λh9=>absurd h9 (λh9=>by unfold Sto.bl at hn h9;simp only [List.flatMap_cons,mem_append] at hn h9;rcases h9 with h9|h9;exact (List.nodup_append.1 hn).2.2 b h9 b (List.mem_append_left _ hb) rfl;exact (List.nodup_append.1 (List.nodup_append.1 hn).2.1).2.2 b hb b h9 rfl)⟩,?_⟩
  refine go 10 ?_
  refine aE1 6 Y ?_
  obtain ⟨hb0,hb1⟩:=hbad.end_
  refine go 1 ?_
  by_cases h3:(0:Int) <= bad
  ·refine wcp true Y (aMq h3) (go 15 ?_)
   obtain ⟨ib,rfl,hib⟩:=hb1 J
   have hck:=cLo h1 hib
   exact ⟨.inr Y,_,⟨bx,rw⟩,cF6 Y (aCn (Wk.agg (.n (.n (.n (.r .nil))))) (aO [] Y Y isAgg47 sizeOf47 (bK Y Y))) (aF Y) (aF Y) (aF Y),aA (.cons _ (.cons _ (.refl _))) (.refl _),Cj,Y⟩
  refine wcp false Y (aMx h3) (go 8 ?_)
  refine wc0 Y call57 Y (cGx (cFd p) cFl J _) ?_
  rintro _ _ ⟨rfl,rfl⟩
  refine go 12 λb3=>?_
  rcases Bool.eq_false_or_eq_true ((cFa (cFd p) cFl).isSome) with h6|h6
  focus
   refine wyz Y (fL (bZ (aKs h6)) (lF Y Y)) (go 3 ?_)
   by_cases h7:(cFb (cFd p) cFl).kind=3
   ·refine wcp false Y (xG h7) (go 6 ?_)
    have hms:(cFb (cFd p) cFl).n<p.funcs.length:=(cI9 p).fs _ _ (cFt h6) J
    refine wyz Y (bH fV fV p.funcs vC (λ_=>Y) ((cFb (cFd p) cFl).n) Y Y Y Y hms V runUnderlying25 sizeOf62) (go 3 ?_)
    by_cases h8:(0:Int)<(((p.funcs[(cFb (cFd p) cFl).n].params).length:Nat):Int)
    ·refine wcp true Y (mH h8) (go 15 ?_)
     have hck:=cI8 h1 (hb0 J) (by rw [cHj h6,cHc hms,decide_eq_false (show ¬p.funcs[(cFb (cFd p) cFl).n].params.length=0 by omega),Bool.and_false])
     exact ⟨.inr Y,_,⟨bx,rw⟩,cF6 Y (aCn (Wk.agg (.n (.n (.n (.r .nil))))) (aO [_] Y Y isAgg47 sizeOf47 (bK Y Y))) (aF Y) (aF Y) (aF Y),aA (.cons _ (.cons _ (.cons _ (.refl _)))) (.refl _),Cj,Y⟩
    refine wcp false Y (mI h8) (go 6 ?_)
    have hmn:cHa p=true:=by rw [cHj h6,cHc hms,decide_eq_true (show (cFb (cFd p) cFl).kind=3 by omega),decide_eq_true (show p.funcs[(cFb (cFd p) cFl).n].params.length=0 by omega)];rfl
    refine cG2 (λg:Nat×Value=>(⟨112,aY g.2++[g.1,b3,b2,b1],⟨⟨g.1,47,[Nl,.val g.2,Nl,Vi (((cFb (cFd p) cFl).n:Nat):Int)]⟩::⟨b3,128,cE9 (cFb (cFd p) cFl)⟩::⟨b2,47,[Nl,Nl,Nl,Vi 0]⟩::⟨b1,27,jV p⟩::bx,⟨g.2,77,3,p.mutexes.length,p.mutexes.flatMap bT⟩::rw⟩,[(10,Cv (.pointer (some ⟨g.1,0,none⟩))),(1,pP b1),(2,pP b2),(3,Ci 0),(4,Ci 0),(5,Ci 0),(6,.c (.sl (cFd p).length ((cFd p).flatMap cE9)))]⟩:AS)) ?_ ?_
    ·refine dx [b3,b2,b1] (tz [(0,true),(1,true),(3,true),(4,true)] 5 (go 5 ?_))
     refine t2 2 7 Y ?_ ?_
     focus
      refine (aTr underlying24 sizeOf77 λg4=>?_)
      refine t2 5 7 Y ?_ ?_
      focus
       refine (jU [] Tryz.t77 32 Y Y V Y Y underlying24 B6 Y Y Y Y V (aFz bT 3 (λ_=>Y) p.mutexes) B1 J (Nat.zero_add p.mutexes.length) (λhn b hb=>qM (r:=(⟨(.slice (some ⟨g4,0,none⟩) 0 0),77,3,0,[]⟩:bA)) hn hb) cFh.h (List.nil_append _) λw11=>?_)
       refine tz [(6,true),(7,false),(8,false)] 0 (go 4 λb9=>?_)
      rotate_left
      refine (jK Y Y V zeroValue47 Y λb9=>?_)
      refine ox 5 Y Y (jU [] Tryz.t77 32 Y Y V Y Y underlying24 B6 Y Y Y Y V (aFz bT 3 (λ_=>Y) p.mutexes) B1 J (Nat.zero_add p.mutexes.length) (λhn b hb=>qM (r:=(⟨(.slice (some ⟨g4,0,none⟩) 0 0),77,3,0,[]⟩:bA)) hn hb) cFh.h (List.nil_append _) λw11=>?_)
      refine tz [(6,true),(8,false)] 0 (go 3 ?_)
     rotate_left 2
     refine (jK Y Y V zeroValue47 Y λb9=>?_)
     refine ox 2 Y Y (aTr underlying24 sizeOf77 λg10=>?_)
     refine ox 5 Y Y (jU [] Tryz.t77 32 Y Y V Y Y underlying24 B6 Y Y Y Y V (aFz bT 3 (λ_=>Y) p.mutexes) B1 J (Nat.zero_add p.mutexes.length) (λhn b hb=>qM (r:=(⟨(.slice (some ⟨g10,0,none⟩) 0 0),77,3,0,[]⟩:bA)) hn hb) cFh.h (List.nil_append _) λw11=>?_)
     refine tz [(6,true),(8,false)] 0 (go 3 ?_)
     all_goals
      refine ax ?_
      exact ⟨(b9,w11),cQf BP⟩
    rintro ⟨b12,mv⟩
    try dsimp only
    refine go 7 ?_
    refine qR 3 1 ?_
    refine bMj (α:=Value) (λk _=>True) (p.globals.length) 11 (λg=>aY g++(aY mv++[b12,b3,b2,b1])) (λk g=>⟨⟨b12,47,[.val g,.val mv,Nl,Vi (((cFb (cFd p) cFl).n:Nat):Int)]⟩::⟨b3,128,cE9 (cFb (cFd p) cFl)⟩::⟨b2,47,[Nl,Nl,Nl,Vi 0]⟩::⟨b1,27,jV p⟩::bx,⟨g,3,1,k,((p.globals.take k).map aI.init).map λx=>Vi x⟩::⟨mv,77,3,p.mutexes.length,p.mutexes.flatMap bT⟩::rw⟩) (λ_=>[(1,pP b1),(2,pP b2),(3,Ci 0),(4,Ci 0),(5,Ci 0),(6,.c (.sl (cFd p).length ((cFd p).flatMap cE9))),(10,pP b12)]) (.slice none 0 0) trivial (cQf BK) ?_
    rintro k v0 hk hik
    replace hik:True:=hik
    try dsimp only
    refine go 7 ?_
    by_cases h11:((k:Nat):Int)<((p.globals.length:Nat):Int)
    ·refine wcp true Y (jZ h11) (go 7 ?_)
     refine bTy 10 [b12,b3,b2,b1] [] #[true,true,true,true,true,true,true,true,true,true,false,false] B6 B6 B6 ?_
     refine tz [(0,true),(1,true),(2,true),(3,true),(4,true)] 5 (go 6 ?_)
     refine tx 5 Y (bH dB dB p.globals nS (λ_=>Y) k Y Y Y Y J V runUnderlying23 sizeOf75) (tz [(6,true),(7,true)] 2 (go 3 ?_))
     refine ox 8 Y Y (bDk (r:=[Vi (p.globals[k].init)]) zb6 ?_)
     refine ox 9 Y Y (bDm [] cLa Y Y V B1 J (N:=k+1) Y (λhn b hb=>qM (r:=(⟨v0,3,1,k,((p.globals.take k).map aI.init).map λx=>Vi x⟩:bA)) hn hb) cFh.h (cJ9 aI.init p.globals k J) λw13=>?_)
     refine ax ?_
     refine id ?_
     refine tz [(10,true),(11,false)] 0 (go 3 ?_)
     refine ax (go 4 ?_)
     refine wad Y (go 2 ?_)
     exact ⟨J,w13,trivial,cQf (h:=aG Y (gQ J) (sA Y)) BP⟩
    refine wcp false Y (jQ h11) (go 11 ?_)
    obtain rfl:k=p.globals.length:=J
    rw [List.take_length]
    refine go 4 ?_
    refine qR 57 5 ?_
    refine bMj (α:=Value) (λk _=>cGh p (p.funcs.drop k) k=cGh p p.funcs 0) (p.funcs.length) 12 (λg=>aY g++(aY v0++(aY mv++[b12,b3,b2,b1]))) (λk g=>⟨⟨b12,47,[.val v0,.val mv,.val g,Vi (((cFb (cFd p) cFl).n:Nat):Int)]⟩::⟨b3,128,cE9 (cFb (cFd p) cFl)⟩::⟨b2,47,[Nl,Nl,Nl,Vi 0]⟩::⟨b1,27,jV p⟩::bx,⟨g,57,5,k,((p.funcs.take k).map (cGe p)).flatMap cF9⟩::⟨v0,3,1,p.globals.length,((p.globals).map aI.init).map λx=>Vi x⟩::⟨mv,77,3,p.mutexes.length,p.mutexes.flatMap bT⟩::rw⟩) (λ_=>[(1,pP b1),(2,pP b2),(3,Ci 0),(4,Ci 0),(5,Ci 0),(6,.c (.sl (cFd p).length ((cFd p).flatMap cE9))),(10,pP b12)]) (.slice none 0 0) Y (cQf BK) ?_
    rintro k v2 hk hik
    replace hik:cGh p (p.funcs.drop k) k=cGh p p.funcs 0:=hik
    try dsimp only
    refine go 7 ?_
    by_cases h14:((k:Nat):Int)<((p.funcs.length:Nat):Int)
    ·refine wcp true Y (jZ h14) (go 8 ?_)
     refine dx [b12,b3,b2,b1] (tz [(0,true),(1,true),(2,true),(3,true),(4,true)] 13 (go 6 ?_))
     refine tx 5 Y (bH fV fV p.funcs vC (λ_=>Y) k Y Y Y Y J V runUnderlying25 sizeOf62) (tz [(6,true)] 11 (go 2 ?_))
     refine t2 7 13 Y ?_ ?_
     focus
      refine (bV call58 (cJ2 p p.funcs[k] (cI9 p) J BR _ _) ?_)
      rintro _ _ ⟨rfl,rfl⟩
      refine tz [(8,true),(9,true),(10,true),(11,true),(12,true),(13,false),(14,false),(15,true),(16,true),(17,true)] 0 (go 11 λb14=>?_)
     rotate_left
     refine (jK Y Y V zeroValue57 Y λb16=>?_)
     refine ox 7 Y Y (bV call58 (cJ2 p p.funcs[k] (cI9 p) J BR _ _) ?_)
     rintro _ _ ⟨rfl,rfl⟩
     refine tz [(8,true),(9,true),(10,true),(11,true),(12,true),(14,false),(15,true),(16,true),(17,true)] 0 (go 10 ?_)
     all_goals
      refine ax (go 5 ?_)
      by_cases h19:(((cGk p p.funcs[k]).1:Nat):Int)=0
      ·refine wcp false Y (xG h19) (go 9 ?_)
       refine wo Y (bDk (hf:=aV cF9 cF9 (cGe p p.funcs[k]) Y Y Y) zb9 ?_)
       refine wo Y (bDm [] cL7 Y (aFz cF9 5 cI0 _) V B1 J (N:=k+1) Y (λ_=>cFh.h) cFh.h (cHm (cGe p) cF9 p.funcs k J) λw17=>?_)
       refine go 7 ?_
       refine wad Y (go 2 ?_)
       exact ⟨J,w17,((cGy J hik).1 J),cQf (h1:=(.cons _ (.refl _))) (h:=aG Y (gQ J) (sA Y)) BP⟩
      refine wcp true Y (xL h19) (go 22 ?_)
      have hck:=((cKm h1 (hb0 J) hmn).trans ((cGy J hik).2 J))
      exact ⟨.inr Y,_,⟨bx,rw⟩,cF6 Y (aCn (Wk.agg (.n (.n (.n (.r .nil))))) (aO [_,_,_] Y Y isAgg47 sizeOf47 (bK Y Y))) (aF Y) (aF Y) (aF Y),aA (.cons _ (.cons _ (.cons _ (.cons _ (.cons _ (.refl _)))))) (.cons _ (.cons _ (.cons _ (.refl _)))),by rw [cG1 hck J,hck];rfl,Y⟩
    refine wcp false Y (jQ h14) (go 10 ?_)
    obtain rfl:k=p.funcs.length:=J
    have hck:cFx p=(0,0,0):=by rw [cKm h1 (hb0 J) hmn,←hik,List.drop_eq_nil_of_le (Nat.le_refl _),cGh]
    rw [List.take_length]
    refine aAg (cs':=[.val v0,.val mv,.sl p.funcs.length ((p.funcs.map (cGe p)).flatMap cF9),Vi (((cFb (cFd p) cFl).n:Nat):Int)]) [] 2 Y Y ?_
    show eQ prog _ _ ⟨_,_,⟨⟨b12,47,[.val v0,.val mv,.sl p.funcs.length ((p.funcs.map (cGe p)).flatMap cF9),Vi (((cFb (cFd p) cFl).n:Nat):Int)]⟩::⟨b3,128,cE9 (cFb (cFd p) cFl)⟩::⟨b2,47,[Nl,Nl,Nl,Vi 0]⟩::⟨b1,27,jV p⟩::bx,_⟩,_⟩ _
    refine aAg (cs':=[.sl p.globals.length ((p.globals.map aI.init).map λx=>Vi x),.val mv,.sl p.funcs.length ((p.funcs.map (cGe p)).flatMap cF9),Vi (((cFb (cFd p) cFl).n:Nat):Int)]) [] 0 Y Y ?_
    show eQ prog _ _ ⟨_,_,⟨⟨b12,47,[.sl p.globals.length ((p.globals.map aI.init).map λx=>Vi x),.val mv,.sl p.funcs.length ((p.funcs.map (cGe p)).flatMap cF9),Vi (((cFb (cFd p) cFl).n:Nat):Int)]⟩::⟨b3,128,cE9 (cFb (cFd p) cFl)⟩::⟨b2,47,[Nl,Nl,Nl,Vi 0]⟩::⟨b1,27,jV p⟩::bx,_⟩,_⟩ _
    refine aAg (cs':=[.sl p.globals.length ((p.globals.map aI.init).map λx=>Vi x),Sq bT p.mutexes,.sl p.funcs.length ((p.funcs.map (cGe p)).flatMap cF9),Vi (((cFb (cFd p) cFl).n:Nat):Int)]) [] 1 Y Y ?_
    show eQ prog _ _ ⟨_,_,⟨⟨b12,47,[.sl p.globals.length ((p.globals.map aI.init).map λx=>Vi x),Sq bT p.mutexes,.sl p.funcs.length ((p.funcs.map (cGe p)).flatMap cF9),Vi (((cFb (cFd p) cFl).n:Nat):Int)]⟩::⟨b3,128,cE9 (cFb (cFd p) cFl)⟩::⟨b2,47,[Nl,Nl,Nl,Vi 0]⟩::⟨b1,27,jV p⟩::bx,_⟩,_⟩ _
    refine go 8 ?_
    exact ⟨.inr Y,_,⟨bx,rw⟩,cF6 Y (aO [_,_] Y Y isAgg47 sizeOf47 (bK Y Y)) (aF Y) (aF Y) (aF Y),aA (.cons _ (.cons _ (.cons _ (.cons _ (.refl _))))) (.refl _),by rw [cLm hck,hck];unfold cK1;dsimp only;first|(rw [List.length_map,List.length_map];rfl)|(unfold Sq;rw [List.length_map,List.length_map];rfl),Y⟩
   refine wcp true Y (xL h7) (go 26 ?_)
   have hck:=cI8 h1 (hb0 J) (by rw [cHj h6,decide_eq_false (show ¬(cFb (cFd p) cFl).kind=3 by omega)];rfl)
  rotate_left
  refine wyz Y (fL (bZ (aKt h6)) (lF Y Y)) (go 30 ?_)
  have hck:=cI8 h1 (hb0 J) (cJp h6)
  all_goals
   exact ⟨.inr Y,_,⟨bx,rw⟩,cF6 Y (aCn (Wk.agg (.n (.n (.n (.r .nil))))) (aO [_] Y Y isAgg47 sizeOf47 (bK Y Y))) (aF Y) (aF Y) (aF Y),aA (.cons _ (.cons _ (.cons _ (.refl _)))) (.refl _),Cj,Y⟩
 refine bOu Y call55 Y (aPt p hs J _) h1 (go 15 ?_)
 have hck:=cLj h1
 exact ⟨.inr Y,_,⟨bx,rw⟩,cF6 Y (aCn (Wk.agg (.n (.n (.n (.r .nil))))) (aO [] Y Y isAgg47 sizeOf47 (bK Y Y))) (aF Y) (aF Y) (aF Y),aA (.cons _ (.cons _ (.refl _))) (.refl _),Cj,Y⟩
instance cN5{x:cJ0}:mR (cK1 x) 4:=⟨rfl⟩
instance cNj{x:cJ0}:iY (cK1 x) [.sl x.globals.length (x.globals.map λx=>Vi x),Sq bT x.mutexes,Sq cF9 x.procs,nC x.main]:=⟨rfl⟩
theorem cJo(p:cK)(hs:p.sane)(hw:p.wt <= 9000000)(s:Sto):aL prog 36 [.agg (jV p)] [] s λt s'=>t=.tup [Ci ((cFx p).1),Ci ((cFx p).2.1),Ci (((cFx p).2.2:Nat):Int)] /\ s'=s:=by
 obtain ⟨bx,rw⟩:=s
 refine acX 19 func36 ?_
 refine go 11 λb1=>?_
 refine wc0 Y call23 Y (cLk p hs hw _ _) ?_
 rintro _ _ ⟨rfl,rfl⟩
 refine go 23 λb2=>?_
 exact ⟨.inr Y,_,⟨bx,rw⟩,pC Y (aF Y) (aF Y) (aF Y),aA (.cons _ (.cons _ (.refl _))) (.refl _),Y,Y⟩
end
section
def hG(fs fs':Fns):Prop:=∀s,(bZu fs s).map bS.params=(bZu fs' s).map bS.params
theorem hG.put{fs fs':Fns}(h:hG fs fs')(k:ByteArray){f f':bS}(hp:f.params=f'.params):hG (bZq fs k f) (bZq fs' k f'):=λs=>by
 rw [cBo,cBo];split
 ·simp [hp]
 exact h s
section
variable {fs fs':Fns}(hs:hG fs fs')
include hs
end
end
section
def cFr(p:cK)(v:cFc):Int:=if v.kind=1∨v.kind=4 then 1 else if v.kind=2 then (if 0<cHk p v.n then 3 else 2) else if v.kind=5 then 4 else if v.kind=3 then 5 else 9
def cH8(p:cK):Option cFc -> Int
 |none=>0
 |some v=>cFr p v
theorem cGl(p:cK)(x:cFc):(x.kind=2 /\ 0<cHk p x.n /\ cFr p x=3)∨(x.kind=2 /\ ¬0<cHk p x.n /\ cFr p x=2)∨(x.kind=5 /\ cFr p x=4)∨(x.kind≠2 /\ x.kind≠5 /\ (x.kind=1∨x.kind=4) /\ cFr p x=1)∨(x.kind=3 /\ cFr p x=5)∨(x.kind≠1 /\ x.kind≠2 /\ x.kind≠3 /\ x.kind≠4 /\ x.kind≠5 /\ cFr p x=9):=by
 unfold cFr
 by_cases h1:x.kind=1∨x.kind=4
 ·rw [if_pos h1];exact .inr (.inr (.inr (.inl ⟨J,J,h1,rfl⟩)))
 rw [if_neg h1]
 by_cases h2:x.kind=2
 ·rw [if_pos h2]
  by_cases hm:0<cHk p x.n
  ·rw [if_pos hm];exact .inl ⟨h2,hm,rfl⟩
  rw [if_neg hm];exact .inr (.inl ⟨h2,hm,rfl⟩)
 rw [if_neg h2]
 by_cases h5:x.kind=5
 ·rw [if_pos h5];exact .inr (.inr (.inl ⟨h5,rfl⟩))
 rw [if_neg h5]
 by_cases h3:x.kind=3
 ·rw [if_pos h3];exact .inr (.inr (.inr (.inr (.inl ⟨h3,rfl⟩))))
 rw [if_neg h3];exact .inr (.inr (.inr (.inr (.inr ⟨J,h2,h3,J,h5,rfl⟩))))
theorem cGv(p:cK)(v:cFc):cFr p v≠0:=by rcases cGl p v with h|h|h|h|h|h<;>omega
structure cG7 (p:cK) (fs:Fns) (v:Vis) (l:List cFc):Prop where
 kn:KN v
 get:∀s,bZp v s=cH8 p (cFa l s)
 fn:∀s x,cFa l s=some x -> x.kind=3 -> ∃f,bZu fs s=some f /\ cGc p x.n=f.params
section
variable {p:cK}{fs:Fns}{v:Vis}{l:List cFc}(h:cG7 p fs v l)
include h
theorem cMe(s:ByteArray):cBh v s=cGq l s:=by
 unfold cBh cGq
 rw [h.get s]
 rcases cFa l s with _|x
 ·rfl
 show (if cFr p x=0 then 6 else if cFr p x=1 then 0 else 8)=if x.kind=1∨x.kind=4 then 0 else 8
 rw [if_neg (cGv p x)]
 rcases cGl p x with ⟨h2,-,e⟩|⟨h2,-,e⟩|⟨h2,e⟩|⟨-,-,h2,e⟩|⟨h2,e⟩|⟨h2,-,-,h3,-,e⟩<;>rw [e]
 rotate_left
 rotate_left
 rotate_left
 ·rw [if_pos h2];rfl
 rotate_left
 all_goals
  rw [if_neg (J:¬(x.kind=1∨x.kind=4))];rfl
end
mutual
theorem cJ3{p:cK}{fs:Fns}{v:Vis}{l:List cFc}(h:cG7 p fs v l):∀e:aH,bZ1 v e=cFf l e
 |.mk op num name args=>by rw [bZ1,cFf,cMe h,cKj h args]
theorem cKj{p:cK}{fs:Fns}{v:Vis}{l:List cFc}(h:cG7 p fs v l):∀r:List aH,bZ0 v r=cFq l r
 |[]=>by rw [bZ0,cFq]
 |e::r=>by rw [bZ0,cFq,cJ3 h e,cKj h r];rfl
end
section
variable {p:cK}{fs:Fns}{v:Vis}{l:List cFc}(h:cG7 p fs v l)
include h
theorem cMc(r:cY)(hr:r.index.length <= 1):cA3 v r=cGo p l r:=by
 have hix:cFq l r.index=if r.index.length=0 then 0 else cDo v r.index:=by
  rcases hi:r.index with _|⟨e,_|⟨a,b⟩⟩
  ·rw [cFq];rfl
  ·rw [cFq,cFq,if_neg G0];show cFj _ 0=bZ1 v e
   rw [cJ3 h];unfold cFj;split<;>simp_all
  rw [hi] at hr;simp at hr
 unfold cA3 cGo cAj
 rw [h.get r.name,hix]
 rcases cFa l r.name with _|x
 ·rfl
 show (if cFr p x=0 then 6 else if ((decide (cFr p x≠2) && decide (cFr p x≠3) && decide (cFr p x≠4))||(decide (cFr p x=3) != decide (0<r.index.length)))=true then 8 else if cFr p x=3 then cDo v r.index else 0)=cFj (if x.kind=2∨x.kind=5 then (if (decide (x.kind=2) && decide (0<cHk p x.n))=decide (0<r.index.length) then 0 else 8) else 8) _
 rw [if_neg (cGv p x)]
 have hlen:r.index.length=0∨r.index.length=1:=J
 rcases cGl p x with ⟨h2,hm,e⟩|⟨h2,hm,e⟩|⟨h2,e⟩|⟨h2,h5,-,e⟩|⟨h2,e⟩|⟨-,h2,-,-,h5,e⟩<;>rw [e]
 ·rw [if_pos (Or.inl h2:x.kind=2∨x.kind=5),decide_eq_true h2,decide_eq_true hm]
  rcases hlen with h0|h0<;>rw [h0]<;>rfl
 ·rw [if_pos (Or.inl h2:x.kind=2∨x.kind=5),decide_eq_true h2,decide_eq_false hm]
  rcases hlen with h0|h0<;>rw [h0]<;>rfl
 ·rw [if_pos (Or.inr h2:x.kind=2∨x.kind=5),decide_eq_false (show ¬x.kind=2 by omega)]
  rcases hlen with h0|h0<;>rw [h0]<;>rfl
 ·rw [if_neg (J:¬(x.kind=2∨x.kind=5))];rfl
 ·rw [if_neg (J:¬(x.kind=2∨x.kind=5))];rfl
 rw [if_neg (J:¬(x.kind=2∨x.kind=5))];rfl
theorem cLe:∀(al:List eN)(xs:List aS),(∀a,a∈al -> a.mutex=true -> a.ref.index.length <= 1) -> bZ3 v al xs=cF8 p l al xs
 |[],xs,_=>by cases xs<;>simp [bZ3,cF8]
 |a::al,[],_=>by simp [bZ3,cF8]
 |a::al,x::xs,hi=>by
  rw [bZ3,cF8,cLe al xs λb hb=>hi b (List.mem_cons_of_mem _ hb)]
  unfold cBb cJh
  by_cases hm:a.mutex=x.mutex
  ·rw [if_pos hm,if_pos hm]
   by_cases hx:a.mutex=true
   ·rw [if_pos hx,if_pos hx,cMc h a.ref (hi a List.mem_cons_self hx)];rfl
   rw [if_neg hx,if_neg hx,cJ3 h];rfl
  rw [if_neg hm,if_neg hm];rfl
theorem cL5(s:aJ)(hi:∀a,a∈s.args -> a.mutex=true -> a.ref.index.length <= 1):cAx v fs s.name s.args=cFy p l s:=by
 unfold cAx cFy
 rw [h.get s.name]
 rcases hf:cFa l s.name with _|x
 ·rfl
 show (if cFr p x=0 then 6 else if cFr p x=5 then cD1 v s.args (bZu fs s.name) else 8)=if x.kind=3 then (if (cGc p x.n).length=s.args.length then cF8 p l s.args (cGc p x.n) else 7) else 8
 rw [if_neg (cGv p x)]
 by_cases h3:x.kind=3
 ·obtain ⟨f,hl,hp⟩:=h.fn _ x hf h3
  rw [if_pos h3,hl,hp,if_pos (show cFr p x=5 by rcases cGl p x with h|h|h|h|h|h<;>omega)]
  show (if s.args.length=f.params.length then bZ3 v s.args f.params else 7)=_
  rw [cLe h _ _ hi]
  by_cases hl2:s.args.length=f.params.length
  ·rw [if_pos hl2,if_pos hl2.symm]
  rw [if_neg hl2,if_neg (λe=>hl2 e.symm)]
 rw [if_neg h3,if_neg]
 rcases cGl p x with h|h|h|h|h|h<;>omega
end
end
section
mutual
def shS:aJ -> Prop
 |.mk k _ _ r args t f=>(k=5∨k=6 -> r.index.length <= 1) /\ (∀a,a∈args -> a.mutex=true -> a.ref.index.length <= 1) /\ (k≠7 -> k≠8 -> t=[]) /\ (k≠7 -> f=[]) /\ cId t /\ cId f
def cId:List aJ -> Prop
 |[]=>True
 |s::l=>shS s /\ cId l
end
theorem cIz{r:cY}(h:okRefB r=true):r.index.length <= 1:=by have:=(xE h).2.1;omega
mutual
theorem cMb:∀(D:Nat)(s:aJ),bK9 D s=true -> shS s
 |D,.mk k name e r args t f,h=>by
  rw [bK9] at h
  simp only [Bool.and_eq_true,Bool.or_eq_true,decide_eq_true_eq] at h
  obtain ⟨⟨⟨⟨⟨⟨-,-⟩,-⟩,h5⟩,-⟩,ha⟩,ht⟩:=h.1
  have hf:=h.2
  rw [shS]
  refine ⟨λhk=>?_,λa hm hx=>?_,λh7 h8=>?_,λh7=>?_,?_,?_⟩
  ·rw [if_pos hk] at h5;exact cIz h5
  ·have h9:=List.all_eq_true.1 ha a hm
   unfold fY at h9
   rw [if_pos hx,Bool.and_eq_true] at h9
   exact cIz h9.1
  ·rw [if_neg J,decide_eq_true_eq] at ht;exact List.length_eq_zero_iff.1 ht
  ·rcases hf with hf|hf
   ·exact List.length_eq_zero_iff.1 hf
   exact absurd hf.1 h7
  ·by_cases hk:k=7∨k=8
   ·rw [if_pos hk] at ht;exact cJd (D+1) t ht
   rw [if_neg hk,decide_eq_true_eq] at ht
   rw [List.length_eq_zero_iff.1 ht,cId];trivial
  rcases hf with hf|hf
  ·rw [List.length_eq_zero_iff.1 hf,cId];trivial
  exact cJd (D+1) f hf.2
theorem cJd:∀(D:Nat)(l:List aJ),bM D l=true -> cId l
 |_,[],_=>by rw [cId];trivial
 |D,s::l,h=>by
  rw [bM,Bool.and_eq_true] at h
  rw [cId];exact ⟨cMb D s h.1,cJd D l h.2⟩
end
def cIu(p:cK)(l:List cFc)(s:aJ):Nat:=
 if s.kind=1 then cFj (cFv l s.name) (cFf l s.expr)
 else if s.kind=2 then cFj (cGq l s.name) (cFf l s.expr)
 else if s.kind=5∨s.kind=6 then cGo p l s.ref
 else if s.kind=3∨s.kind=4 then cFy p l s
 else if s.kind=7∨s.kind=8 then cFf l s.expr else 0
theorem cLy{p:cK}{fs:Fns}{v:Vis}{l:List cFc}(h:cG7 p fs v l)(s:aJ)(hr:s.kind=5∨s.kind=6 -> s.ref.index.length <= 1)(ha:∀a,a∈s.args -> a.mutex=true -> a.ref.index.length <= 1):bZ5 v fs s=cIu p l s:=by
 unfold bZ5 cIu
 rw [cJ3 h,cMe h,cL5 h s ha]
 by_cases h1:s.kind=1
 ·rw [if_pos h1,if_pos h1,h.get s.name]
  unfold cFv
  rcases cFa l s.name with _|x
  ·rfl
  show (if cFr p x=0 then _ else 5)=_;rw [if_neg (cGv p x)];rfl
 rw [if_neg h1,if_neg h1]
 by_cases h2:s.kind=2
 ·rw [if_pos h2,if_pos h2];rfl
 rw [if_neg h2,if_neg h2]
 by_cases h5:s.kind=5∨s.kind=6
 ·rw [if_pos h5,if_pos h5,cMc h s.ref (hr h5)]
 rw [if_neg h5,if_neg h5]
theorem cIr(p:cK)(s:aJ)(x:LS)(h7:s.kind≠7)(h8:s.kind≠8):(cFu p s x).q=cFg x.q (cIu p x.ents s) x.n /\ (cFu p s x).n=x.n+1 /\ (cFu p s x).ents=if s.kind=1 then x.ents++[⟨s.name,4,x.locals⟩] else x.ents:=by
 unfold cFu cIu
 by_cases h1:s.kind=1
 ·rw [if_pos h1,if_pos h1,if_pos h1];exact ⟨rfl,rfl,rfl⟩
 rw [if_neg h1,if_neg h1,if_neg h1]
 by_cases h2:s.kind=2
 ·rw [if_pos h2,if_pos h2];exact ⟨rfl,rfl,rfl⟩
 rw [if_neg h2,if_neg h2]
 by_cases h3:s.kind=3∨s.kind=4
 ·rw [if_pos h3,if_neg (J:¬(s.kind=5∨s.kind=6)),if_pos h3];exact ⟨rfl,rfl,rfl⟩
 rw [if_neg h3]
 by_cases h5:s.kind=5
 ·rw [if_pos h5,if_pos (.inl h5:s.kind=5∨s.kind=6)];exact ⟨rfl,rfl,rfl⟩
 rw [if_neg h5]
 by_cases h6:s.kind=6
 ·rw [if_pos h6,if_pos (.inr h6:s.kind=5∨s.kind=6)];exact ⟨rfl,rfl,rfl⟩
 rw [if_neg h6,if_neg (J:¬(s.kind=5∨s.kind=6)),if_neg h3,if_neg (J:¬(s.kind=7∨s.kind=8))];exact ⟨rfl,rfl,rfl⟩
theorem cI4{q:ES}(h:q.1≠0)(e:Nat)(s:Int):cFg q e s=q:=by unfold cFg;rw [if_neg (λhh=>h hh.1)]
theorem cJf{q:ES}(h:q.1=0){e:Nat}(he:e≠0)(s:Int):cFg q e s=(e,s):=by unfold cFg;rw [if_pos ⟨h,he⟩]
mutual
theorem cJt(p:cK):∀(s:aJ)(x:LS),x.q.1≠0 -> (cFs p s x).q=x.q
 |.mk k name e r args t f,x,h=>by
  have hb:(x.branch e).q=x.q:=cI4 h _ _
  have ht:(cFe p t (x.branch e)).q=x.q:=by rw [cF5 p t _ (by rw [hb];exact h),hb]
  rw [cFs]
  split
  ·split
   ·exact ht
   show (cFe p f _).q=_
   rw [cF5 p f _ (by show (cFe p t (x.branch e)).q.1≠0;rw [ht];exact h)]
   exact ht
  split
  ·exact ht
  rename_i h7 h8
  rw [(cIr p (.mk k name e r args t f) x h7 h8).1];exact cI4 h _ _
theorem cF5(p:cK):∀(l:List aJ)(x:LS),x.q.1≠0 -> (cFe p l x).q=x.q
 |[],x,_=>by rw [cFe]
 |s::l,x,h=>by
  have h1:=cJt p s x h
  rw [cFe,cF5 p l _ (by rw [h1];exact h),h1]
end
end
section
theorem cJi:∀(ow:List ByteArray)(v:Vis),KN v -> KN (ow.foldl bZy v) /\ (∀s,s∈ow -> bZp (ow.foldl bZy v) s=0) /\ ∀s,s∉ow -> bZp (ow.foldl bZy v) s=bZp v s
 |[],v,h=>⟨h,λs hs=>absurd hs not_mem_nil,λs _=>rfl⟩
 |k::ow,v,h=>by
  obtain ⟨h1,h2,h3⟩:=cJi ow (bZy v k) (h.del k)
  refine ⟨h1,λs hs=>?_,λs hs=>?_⟩
  ·rw [List.foldl_cons]
   by_cases hm:s∈ow
   ·exact h2 s hm
   rw [h3 s hm,cCs h]
   rcases mem_cons.1 hs with rfl|hs
   ·rw [if_pos rfl]
   exact absurd hs hm
  simp only [mem_cons,not_or] at hs
  rw [List.foldl_cons,h3 s hs.2,cCs h,if_neg (λe=>hs.1 e.symm)]
theorem cIf{fs:Fns}{r:Nat×List ByteArray×RS}{v:Vis}(h0:r.1=0)(hk:KN r.2.2.vis)(h1:∀q,q∈r.2.1 -> bZp v q=0)(h2:∀q,q∉r.2.1 -> bZp r.2.2.vis q=bZp v q):KN (cA7 r).2.vis /\ ∀q,bZp (cA7 r).2.vis q=bZp v q:=by
 obtain ⟨d1,d2,d3⟩:=cJi r.2.1 r.2.2.vis hk
 unfold cA7
 rw [if_pos h0]
 refine ⟨d1,λq=>?_⟩
 by_cases hm:q∈r.2.1
 ·rw [h1 q hm];exact d2 q hm
 rw [←h2 q hm];exact d3 q hm
theorem cHi(r:Nat×List ByteArray×RS):(cA7 r).1=r.1:=by unfold cA7;split<;>simp_all
theorem cK9(r:Nat×List ByteArray×RS):(cA7 r).2.at_=r.2.2.at_:=by unfold cA7;split<;>rfl
mutual
theorem cKc(fs:Fns):∀(s:aJ)(x:RS),KN x.vis -> (bZ4 fs s x).1=0 -> KN (bZ4 fs s x).2.vis /\ (∀q,(s.kind=1 -> s.name≠q) -> bZp (bZ4 fs s x).2.vis q=bZp x.vis q) /\ (s.kind=1 -> bZp x.vis s.name=0)
 |.mk k name e r args t f,x,hk,h=>by
  have hb:KN (cAy (.mk k name e r args t f) x).vis /\ ∀q,(k=1 -> name≠q) -> bZp (cAy (.mk k name e r args t f) x).vis q=bZp x.vis q:=by
   show KN (if k=1 then bZq x.vis name 1 else x.vis) /\ ∀q,_ -> bZp (if k=1 then bZq x.vis name 1 else x.vis) q=_
   by_cases h1:k=1
   ·rw [if_pos h1];exact ⟨hk.put _ _,λq hq=>by rw [cAl,if_neg (hq h1)]⟩
   rw [if_neg h1];exact ⟨hk,λq _=>rfl⟩
  rw [bZ4] at h⊢
  by_cases hp:bZ5 x.vis fs (.mk k name e r args t f)=0
  ·rw [if_pos hp] at h⊢
   by_cases ht:(cA7 (bZr fs t [] (cAy (.mk k name e r args t f) x))).1=0
   ·rw [if_pos ht] at h⊢
    obtain ⟨a1,a2,a3⟩:=cGw fs t [] _ hb.1 (by rw [←cHi];exact ht)
    obtain ⟨b1,b2⟩:=cIf (fs:=fs) (by rw [←cHi];exact ht) a1 (λq hq=>(a2 q hq).resolve_left not_mem_nil) a3
    obtain ⟨c1,c2,c3⟩:=cGw fs f [] _ b1 (by rw [←cHi];exact h)
    obtain ⟨d1,d2⟩:=cIf (fs:=fs) (by rw [←cHi];exact h) c1 (λq hq=>(c2 q hq).resolve_left not_mem_nil) c3
    refine ⟨d1,λq hq=>by rw [d2,b2];exact hb.2 q hq,λh1=>?_⟩
    have h1:k=1:=h1
    have hp:(if k=1 then (if bZp x.vis name=0 then _ else 5) else _)=0:=hp
    rw [if_pos h1] at hp
    split at hp
    ·rename_i h9;exact h9
    cases hp
   rw [if_neg ht] at h;exact absurd h ht
  rw [if_neg hp] at h;exact absurd h hp
theorem cGw(fs:Fns):∀(l:List aJ)(own:List ByteArray)(x:RS),KN x.vis -> (bZr fs l own x).1=0 -> KN (bZr fs l own x).2.2.vis /\ (∀q,q∈(bZr fs l own x).2.1 -> q∈own∨bZp x.vis q=0) /\ (∀q,q∉(bZr fs l own x).2.1 -> bZp (bZr fs l own x).2.2.vis q=bZp x.vis q)
 |[],own,x,hk,_=>by rw [bZr];exact ⟨hk,λq hq=>.inl hq,λq _=>rfl⟩
 |s::l,own,x,hk,h=>by
  rw [bZr] at h⊢
  by_cases h0:(bZ4 fs s x).1=0
  ·rw [if_pos h0] at h⊢
   obtain ⟨a1,a2,a3⟩:=cKc fs s x hk h0
   obtain ⟨b1,b2,b3⟩:=cGw fs l (cCp s own) _ a1 h
   have hsub:=cIw fs l (cCp s own) (bZ4 fs s x).2
   refine ⟨b1,λq hq=>?_,λq hq=>?_⟩
   ·by_cases hn:s.kind=1 /\ s.name=q
    ·obtain ⟨hn1,rfl⟩:=hn
     exact .inr (a3 hn1)
    have hn':s.kind=1 -> s.name≠q:=λh1 h2=>hn ⟨h1,h2⟩
    rcases b2 q hq with h9|h9
    ·unfold cCp at h9
     split at h9
     ·rename_i h1
      rcases mem_append.1 h9 with h9|h9
      ·exact .inl h9
      exact absurd (List.mem_singleton.1 h9).symm (hn' h1)
     exact .inl h9
    rw [a2 q hn'] at h9;exact .inr h9
   rw [b3 q hq]
   refine a2 q λh1 h2=>hq (hsub q ?_)
   unfold cCp;rw [if_pos h1,←h2];simp
  rw [if_neg h0] at h;exact absurd h h0
theorem cIw(fs:Fns):∀(l:List aJ)(own:List ByteArray)(x:RS),∀q,q∈own -> q∈(bZr fs l own x).2.1
 |[],own,x,q,hq=>by rw [bZr];exact hq
 |s::l,own,x,q,hq=>by
  rw [bZr]
  split
  ·exact cIw fs l _ _ q (by unfold cCp;split<;>simp [hq])
  exact hq
end
theorem cG7.same{p:cK}{fs:Fns}{v v':Vis}{l:List cFc}(h:cG7 p fs v l)(hk:KN v')(hv:∀q,bZp v' q=bZp v q):cG7 p fs v' l:=⟨hk,λs=>by rw [hv];exact h.get s,h.fn⟩
theorem cG7.put{p:cK}{fs:Fns}{v:Vis}{l:List cFc}(h:cG7 p fs v l){s:ByteArray}(h0:bZp v s=0){x:cFc}(hx:x.name=s){a:Int}(ha:cFr p x=a)(h3:x.kind≠3):cG7 p fs (bZq v s a) (l++[x]):=by
 have hn:cFa l s=none:=by
  have h1:=h.get s
  rw [h0] at h1
  rcases hf:cFa l s with _|y
  ·rfl
  rw [hf] at h1;exact absurd h1.symm (cGv p y)
 refine ⟨h.kn.put _ _,λq=>?_,λq y hf hy=>?_⟩
 ·rw [cAl,cGu]
  by_cases hq:s=q
  ·subst hq
   rw [if_pos rfl,hn];dsimp only;rw [if_pos hx];exact ha.symm
  rw [if_neg hq,h.get q]
  rcases cFa l q with _|y
  ·dsimp only;rw [if_neg (by rw [hx];exact hq)]
  rfl
 rw [cGu] at hf
 split at hf
 ·rename_i hf2;cases hf;exact h.fn q _ hf2 hy
 split at hf
 ·cases hf;exact absurd hy h3
 cases hf
structure cIc (p:cK) (fs:Fns) (x:RS) (y:LS):Prop where
 rel:cG7 p fs x.vis y.ents
 n:x.n=y.n
 q:y.q.1=0
def Step(p:cK)(fs:Fns)(e:Nat)(x':RS)(y':LS):Prop:=(e=0 -> cIc p fs x' y') /\ (e≠0 -> y'.q=(e,x'.at_))
end
section
section
variable {p:cK}{fs:Fns}
theorem cIc.mod{x:RS}{y y':LS}(h:cIc p fs x y)(h1:y'.ents=y.ents)(h2:y'.n=y.n)(h3:y'.q=y.q):cIc p fs x y':=⟨by rw [h1];exact h.rel,by rw [h2];exact h.n,by rw [h3];exact h.q⟩
theorem Step.mod{e:Nat}{x:RS}{y y':LS}(h:Step p fs e x y)(h1:y'.ents=y.ents)(h2:y'.n=y.n)(h3:y'.q=y.q):Step p fs e x y':=⟨λh0=>(h.1 h0).mod h1 h2 h3,λh0=>by rw [h3];exact h.2 h0⟩
theorem cHh{l:List aJ}{x:RS}{y:LS}(hS:Step p fs (bZr fs l [] x).1 (bZr fs l [] x).2.2 (cFe p l y))(he:cIc p fs x y):Step p fs (cA7 (bZr fs l [] x)).1 (cA7 (bZr fs l [] x)).2 (cRs p l y):=by
 refine ⟨λh0=>?_,λh0=>?_⟩
 ·rw [cHi] at h0
  have h1:=hS.1 h0
  obtain ⟨a1,a2,a3⟩:=cGw fs l [] x he.rel.kn h0
  obtain ⟨b1,b2⟩:=cIf (fs:=fs) h0 a1 (λq hq=>(a2 q hq).resolve_left not_mem_nil) a3
  exact ⟨he.rel.same b1 b2,by rw [cCd];exact h1.n,h1.q⟩
 rw [cHi] at h0⊢
 rw [cK9];exact hS.2 h0
theorem cIe(x:RS):cA7 (bZr fs [] [] x)=(0,x):=by rw [bZr];rfl
theorem cKr{s:aJ}{x:RS}{y:LS}(he:cIc p fs x y)(h1:s.kind≠1)(e:aH)(hq:cFf y.ents e=0):cIc p fs (cAy s x) (y.branch e):=by
 have hv:(cAy s x).vis=x.vis:=by show (if s.kind=1 then _ else x.vis)=_;rw [if_neg h1]
 refine ⟨by rw [hv];exact he.rel,by show x.n+1=y.n+1;rw [he.n],?_⟩
 show (cFg y.q (cFf y.ents e) y.n).1=0
 rw [hq,cGg];exact he.q
mutual
theorem cKz:∀(s:aJ)(x:RS)(y:LS),shS s -> cIc p fs x y -> Step p fs (bZ4 fs s x).1 (bZ4 fs s x).2 (cFs p s y)
 |.mk k name e r args t f,x,y,hsh,he=>by
  rw [shS] at hsh
  obtain ⟨h5,ha,ht,hf,hst,hsf⟩:=hsh
  have hp:bZ5 x.vis fs (.mk k name e r args t f)=cIu p y.ents (.mk k name e r args t f):=cLy he.rel _ h5 ha
  have hbq:∀e0,cFf y.ents e=e0 -> (y.branch e).q=cFg y.q e0 y.n:=λe0 h=>by show cFg y.q (cFf y.ents e) y.n=_;rw [h]
  rw [bZ4]
  by_cases h0:bZ5 x.vis fs (.mk k name e r args t f)=0
  ·rw [if_pos h0]
   rw [hp] at h0
   by_cases h78:k=7∨k=8
   ·have hex:cFf y.ents e=0:=by
     have h9:(if k=1 then _ else if k=2 then _ else if k=5∨k=6 then _ else if k=3∨k=4 then _ else if k=7∨k=8 then cFf y.ents e else 0)=0:=h0
     rw [if_neg J,if_neg J,if_neg J,if_neg J,if_pos h78] at h9;exact h9
    have hbe:cIc p fs (cAy (.mk k name e r args t f) x) (y.branch e):=cKr he (by show k≠1;omega) e hex
    have HT:=cHh (cHp t [] _ _ hst hbe) hbe
    rw [cFs]
    by_cases hT:(cA7 (bZr fs t [] (cAy (.mk k name e r args t f) x))).1=0
    ·rw [if_pos hT]
     have hE1:=HT.1 hT
     by_cases h7:k=7
     ·rw [if_pos h7]
      by_cases hfl:f.length=0
      ·obtain rfl:=List.length_eq_zero_iff.1 hfl
       rw [if_pos hfl,cIe]
       exact ⟨λ_=>hE1.mod Y Y Y,λh=>absurd Y h⟩
      rw [if_neg hfl]
      have hE2:cIc p fs (cA7 (bZr fs t [] (cAy (.mk k name e r args t f) x))).2 ((((y.branch e).back (cFe p t (y.branch e))).put (opI 7 .zero) y.n).patch y.code.length):=hE1.mod Y Y Y
      have HF:=cHh (cHp f [] _ _ hsf hE2) hE2
      exact HF.mod Y Y Y
     rw [if_neg h7,if_pos (J:k=8)]
     obtain rfl:=hf h7
     rw [cIe]
     exact ⟨λ_=>hE1.mod Y Y Y,λh=>absurd Y h⟩
    rw [if_neg hT]
    have hq:=HT.2 hT
    refine ⟨λh=>absurd h hT,λ_=>?_⟩
    have hne:(cRs p t (y.branch e)).q.1≠0:=by rw [hq];exact hT
    by_cases h7:k=7
    ·rw [if_pos h7]
     by_cases hfl:f.length=0
     ·rw [if_pos hfl];exact hq
     rw [if_neg hfl]
     show (cFe p f _).q=_
     rw [cF5 p f _ (by show (cFe p t (y.branch e)).q.1≠0;exact hne)];exact hq
    rw [if_neg h7,if_pos (J:k=8)];exact hq
   ·have h7:k≠7:=λh=>h78 (.inl h)
    have h8:k≠8:=λh=>h78 (.inr h)
    obtain rfl:=ht h7 h8
    obtain rfl:=hf h7
    rw [cIe];dsimp only
    rw [if_pos rfl,cIe,cFs,if_neg h7,if_neg h8]
    obtain ⟨s1,s2,s3⟩:=cIr p (.mk k name e r args [] []) y h7 h8
    refine ⟨λ_=>⟨?_,by rw [s2];show x.n+1=_;rw [he.n],by rw [s1,h0,cGg];exact he.q⟩,λh=>absurd Y h⟩
    rw [s3]
    show cG7 p fs (if k=1 then bZq x.vis name 1 else x.vis) (if k=1 then y.ents++[⟨name,4,y.locals⟩] else y.ents)
    by_cases h1:k=1
    ·rw [if_pos h1,if_pos h1]
     have h9:(if k=1 then cFj (cFv y.ents name) (cFf y.ents e) else _)=0:=h0
     rw [if_pos h1] at h9
     have hd:cFv y.ents name=0:=by unfold cFj at h9;split at h9<;>assumption
     have hn:cFa y.ents name=none:=by
      unfold cFv at hd
      rcases hfd:cFa y.ents name with _|z
      ·rfl
      rw [hfd] at hd;cases hd
     exact he.rel.put (s:=name) (x:=⟨name,4,y.locals⟩) (a:=1) (by rw [he.rel.get,hn];rfl) Y (by unfold cFr;rw [if_pos (.inr rfl)]) Cu
    rw [if_neg h1,if_neg h1];exact he.rel
  rw [if_neg h0]
  refine ⟨λh=>absurd h h0,λ_=>?_⟩
  rw [hp] at h0⊢
  show (cFs p _ y).q=(cIu p y.ents _,(x.n:Int))
  rw [he.n]
  by_cases h78:k=7∨k=8
  ·have hpe:cIu p y.ents (.mk k name e r args t f)=cFf y.ents e:=by
    show (if k=1 then _ else if k=2 then _ else if k=5∨k=6 then _ else if k=3∨k=4 then _ else if k=7∨k=8 then cFf y.ents e else 0)=_
    rw [if_neg J,if_neg J,if_neg J,if_neg J,if_pos h78]
   rw [hpe] at h0⊢
   have hb:(y.branch e).q=(cFf y.ents e,(y.n:Int)):=cJf he.q h0 _
   have hne:(y.branch e).q.1≠0:=by rw [hb];exact h0
   have hq:(cFe p t (y.branch e)).q=(cFf y.ents e,(y.n:Int)):=by rw [cF5 p t _ hne,hb]
   rw [cFs]
   by_cases h7:k=7
   ·rw [if_pos h7]
    by_cases hfl:f.length=0
    ·rw [if_pos hfl];exact hq
    rw [if_neg hfl]
    show (cFe p f _).q=_
    rw [cF5 p f _ (by show (cFe p t (y.branch e)).q.1≠0;rw [hq];exact h0)];exact hq
   rw [if_neg h7,if_pos (J:k=8)];exact hq
  ·have h7:k≠7:=λh=>h78 (.inl h)
   have h8:k≠8:=λh=>h78 (.inr h)
   rw [cFs,if_neg h7,if_neg h8,(cIr p (.mk k name e r args t f) y h7 h8).1]
   exact cJf he.q h0 _
theorem cHp:∀(l:List aJ)(own:List ByteArray)(x:RS)(y:LS),cId l -> cIc p fs x y -> Step p fs (bZr fs l own x).1 (bZr fs l own x).2.2 (cFe p l y)
 |[],own,x,y,_,he=>by rw [bZr,cFe];exact ⟨λ_=>he,λh=>absurd rfl h⟩
 |s::l,own,x,y,hsh,he=>by
  rw [cId] at hsh
  have h1:=cKz s x y hsh.1 he
  rw [bZr,cFe]
  by_cases h0:(bZ4 fs s x).1=0
  ·rw [if_pos h0];exact cHp l _ _ _ hsh.2 (h1.1 h0)
  rw [if_neg h0]
  refine ⟨λh=>absurd h h0,λ_=>?_⟩
  have hq:=h1.2 h0
  rw [cF5 p l _ (by rw [hq];exact h0)];exact hq
end
end
end
end Go.Proofs.YtbdfdjdgfanjaaaGreatDoor
