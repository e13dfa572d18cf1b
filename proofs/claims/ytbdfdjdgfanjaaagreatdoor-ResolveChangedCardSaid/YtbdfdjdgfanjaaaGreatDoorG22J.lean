import Derived.Test.YtbdfdjdgfanjaaaGreatDoorG21J
set_option linter.all false
set_option synthInstance.maxHeartbeats 1000000
set_option synthInstance.maxSize 1000000
set_option maxHeartbeats 6400000
set_option maxRecDepth 100000
namespace Go.Proofs.YtbdfdjdgfanjaaaGreatDoor
open Go.Proofs.Tryz
open List (length_append length_cons length_nil mem_append mem_cons not_mem_nil append_assoc getElem_mem take_of_length_le)
section
open Go.RowKit
theorem cJ4{P:Program}{ops:Array Oper}{Z:List Nat}{fuel:Nat}{listed:Array Bool}{n:Nat}{T:List Nat}{s:Sto}{ts:List (Nat×AT)}{K:AS -> Prop}(i:Nat){u t:AT}(hl:look ts i=some u)(hw:Wk u t)(h:lD P ops Z fuel listed ⟨n,T,s,(i,t)::ts⟩ K):lD P ops Z fuel listed ⟨n,T,s,ts⟩ K:=
 aO1 (aN9 (st:=⟨n,T,s,ts⟩) i hl hw) h
theorem wcL{P:Program}{U T:List Nat}{o:Oper}{n d:Nat}{ts:List (Nat×AT)}{K:AS -> Prop}{F:FuncId}{ars:Array Operand}{tys:Array TypeId}{us:List AT}{A B:List Box}{X:Nat}{E E1 E2:TypeId}{cs:List AC}{cs':Value -> Value -> List AC}{vc vs:Value}{z1 z2 k1 k2 k1' k2':Nat}{r1 r2 r1' r2':List AC}{rw:List bA}{r:AT}
  (ho:o.op=.call {callee:=.value (.func F),args:=ars,argTypes:=tys}) (hd:o.dst=some d) (hn:d<n) (hcf:∀args w,(callFunc F args).run P w=.ok (.enter F args) w)
  (has:ars.toList.map (evA ⟨n,T,⟨A++⟨X,E,cs⟩::B,⟨vc,E1,z1,k1,r1⟩::⟨vs,E2,z2,k2,r2⟩::rw⟩,ts⟩)=us.map some)
  (hc:aL P F us (X::(aY vc++aY vs)) ⟨A++⟨X,E,cs⟩::B,⟨vc,E1,z1,k1,r1⟩::⟨vs,E2,z2,k2,r2⟩::rw⟩ λt s'=>t=r /\ ∃vc' vs',s'=⟨A++⟨X,E,cs' vc' vs'⟩::B,⟨vc',E1,z1,k1',r1'⟩::⟨vs',E2,z2,k2',r2'⟩::rw⟩)
  (hX:X∈T) (hv1:∀b,b∈aY vc -> b∈T) (hv2:∀b,b∈aY vs -> b∈T)
  (hU:(⟨A++⟨X,E,cs⟩::B,⟨vc,E1,z1,k1,r1⟩::⟨vs,E2,z2,k2,r2⟩::rw⟩:Sto).bl.Nodup -> X∈U /\ (∀b,b∈aY vc -> b∈U) /\ ∀b,b∈aY vs -> b∈U)
  (h:∀vc' vs',K ⟨n,(aY vc'++aY vs')++T,⟨A++⟨X,E,cs' vc' vs'⟩::B,⟨vc',E1,z1,k1',r1'⟩::⟨vs',E2,z2,k2',r2'⟩::rw⟩,(d,r)::ts⟩):
  AO P U o ⟨n,T,⟨A++⟨X,E,cs⟩::B,⟨vc,E1,z1,k1,r1⟩::⟨vs,E2,z2,k2,r2⟩::rw⟩,ts⟩ K:=by
 refine aQk (X::(aY vc++aY vs)) ho hd hn hcf has hc (λb hb=>?_) (λb hb=>?_) (λhn b hb=>?_) ?_
 ·simp only [mem_cons,mem_append] at hb
  rcases hb with rfl|hb|hb
  ·exact hX
  ·exact hv1 b hb
  exact hv2 b hb
 ·simp only [mem_cons,mem_append] at hb
  unfold Sto.bl
  rcases hb with rfl|hb|hb
  ·simp
  ·simp [hb]
  simp [hb]
 ·simp only [mem_cons,mem_append] at hb
  obtain ⟨u1,u2,u3⟩:=hU hn
  rcases hb with rfl|hb|hb
  ·exact u1
  ·exact u2 b hb
  exact u3 b hb
 rintro _ _ ⟨rfl,vc',vs',rfl⟩
 refine ⟨aY vc'++aY vs',λhn b hb=>⟨?_,λh9=>?_⟩,h vc' vs'⟩
 ·unfold Sto.bl
  rcases mem_append.1 hb with hb|hb<;>simp [hb]
 have h8:=aJ2 (bx:=A++⟨X,E,cs⟩::B) (bx':=A++⟨X,E,cs' vc' vs'⟩::B) (rs:=[⟨vc,E1,z1,k1,r1⟩,⟨vs,E2,z2,k2,r2⟩]) (rs':=[⟨vc',E1,z1,k1',r1'⟩,⟨vs',E2,z2,k2',r2'⟩]) (rw:=rw) (b:=b) G0 hn (by simpa using hb) h9
 simp only [List.flatMap_cons,List.flatMap_nil,List.append_nil,mem_append] at h8
 rcases h8 with h8|h8
 ·exact hv1 b h8
 exact hv2 b h8
theorem cGm(A B:List Box)(X:Nat)(p:cK)(x:LS)(vc vs:Value)(rw:List bA)(i:cFw)(s:Nat)(hc:x.code.length <= 100000000)(hs:x.sites.length=x.code.length):aL prog 89 [pP X,.agg (encI i),nI s] (X::(aY vc++aY vs)) ⟨A++⟨X,169,[Sq dB p.globals,Sq bT p.mutexes,Sq fV p.funcs,Sq cE9 x.ents,nC x.locals,nC x.n,Vi x.q.2,nC x.q.1,.val vc,.val vs]⟩::B,⟨vc,70,12,x.code.length,x.code.flatMap encI⟩::⟨vs,3,1,x.sites.length,x.sites.map λx=>Vi x⟩::rw⟩ λt s'=>t=nI x.code.length /\ ∃vc' vs',s'=⟨A++⟨X,169,[Sq dB p.globals,Sq bT p.mutexes,Sq fV p.funcs,.sl (x.put i s).ents.length ((x.put i s).ents.flatMap cE9),Vi (((x.put i s).locals:Nat):Int),Vi (((x.put i s).n:Nat):Int),Vi ((x.put i s).q.2),Vi (((x.put i s).q.1:Nat):Int),.val vc',.val vs']⟩::B,⟨vc',70,12,(x.put i s).code.length,(x.put i s).code.flatMap encI⟩::⟨vs',3,1,(x.put i s).sites.length,(x.put i s).sites.map λx=>Vi x⟩::rw⟩:=by
 have hci:(x.code++[i]).length=x.code.length+1:=by rw [length_append];rfl
 refine acX 33 func89 ?_
 refine go 7 λb1=>?_
 refine dx [] (tz [(1,true)] 21 (go 2 ?_))
 refine cHd 16 15 6 [b1,X] [] #[false,true,false,false,false,false,false,false,false,false,false,false,false,false,false,false,false,false,false,false,false,false] #[false,true,false,false,false,false,false,false,false,false,false,false,false,false,false,false] #[true,true,true,true,true,true,true,true,true,true,true,true,true,true,true,true,false,false,false,false,false,false] Y B6 B6 ?_
 refine tz [(0,true),(2,true),(3,true),(4,true),(5,true),(6,true),(9,true),(10,true),(11,true),(12,true),(13,true)] 4 (go 12 ?_)
 refine t2 7 14 Y ?_ ?_
 focus
  refine (bDk (hf:=aV encI encI i Y Y Y) bDy ?_)
  refine t2 8 14 Y ?_ ?_
  focus
   refine (bDm [] bDt Y (aFz encI 12 cGj _) V B1 J (@length_append _ x.code [i]).symm (λhn b hb=>qM (r:=(⟨vc,70,12,x.code.length,x.code.flatMap encI⟩:bA)) hn hb) cFh.h (List.flatMap_append (f:=encI)).symm λw6=>?_)
   refine ox 14 Y Y (bDk (r:=[nC s]) zb6 ?_)
  rotate_left
  refine (bDk (r:=[nC s]) zb6 ?_)
  refine ox 8 Y Y (bDm [] bDt Y (aFz encI 12 cGj _) V B1 J (@length_append _ x.code [i]).symm (λhn b hb=>qM (r:=(⟨vc,70,12,x.code.length,x.code.flatMap encI⟩:bA)) hn hb) cFh.h (List.flatMap_append (f:=encI)).symm λw6=>?_)
 rotate_left 2
 refine (bDk (r:=[nC s]) zb6 ?_)
 refine ox 7 Y Y (bDk (hf:=aV encI encI i Y Y Y) bDy ?_)
 refine ox 8 Y Y (bDm [] bDt Y (aFz encI 12 cGj _) V B1 J (@length_append _ x.code [i]).symm (λhn b hb=>qM (r:=(⟨vc,70,12,x.code.length,x.code.flatMap encI⟩:bA)) hn hb) cFh.h (List.flatMap_append (f:=encI)).symm λw6=>?_)
 all_goals
  refine ox 15 Y Y (bDm [_] cLa Y Y V B1 J (@length_append _ x.sites [((s:Nat):Int)]).symm (λhn b hb=>qM (r:=(⟨vs,3,1,x.sites.length,x.sites.map (λx=>AC.val (Value.int .i64 x))⟩:bA)) hn hb) cFh.h (List.map_append (f:=(λx=>AC.val (Value.int .i64 x))) (l₁:=x.sites) (l₂:=[((s:Nat):Int)])).symm λw7=>?_)
  refine ax ?_
  refine id ?_
  refine tz [(16,true),(17,true),(18,false),(19,true),(20,true),(21,false)] 0 (go 7 ?_)
  refine ax (go 7 ?_)
  refine wyz Y (kV [] Y Y Y runUnderlying55) ?_
  refine wyz Y (qC) (go 4 ?_)
  exact ⟨.inr Y,_,⟨A++⟨X,169,[Sq dB p.globals,Sq bT p.mutexes,Sq fV p.funcs,.sl (x.put i s).ents.length ((x.put i s).ents.flatMap cE9),Vi (((x.put i s).locals:Nat):Int),Vi (((x.put i s).n:Nat):Int),Vi ((x.put i s).q.2),Vi (((x.put i s).q.1:Nat):Int),.val w6,.val w7]⟩::B,⟨w6,70,12,(x.put i s).code.length,(x.put i s).code.flatMap encI⟩::⟨w7,3,1,(x.put i s).sites.length,(x.put i s).sites.map λx=>Vi x⟩::rw⟩,aR Y (aCn (gQ (show (((x.code++[i]).length:Nat):Int)-1=_ by rw [length_append];simp only [length_cons,length_nil];omega)) (aF Y)),aA (.cons _ (.refl _)) (.refl _),Y,w6,w7,Y⟩
theorem wrn{P:Program}{c:Code}{n:Nat}{T:List Nat}{bx:List Box}{ts:List (Nat×AT)}{Q:Exit -> AS -> Prop}{v:Value}{E:TypeId}{z k k':Nat}{cs:List AC}{rw:List bA}(h:k=k')(hw:AWp P c ⟨n,T,⟨bx,⟨v,E,z,k',cs⟩::rw⟩,ts⟩ Q):AWp P c ⟨n,T,⟨bx,⟨v,E,z,k,cs⟩::rw⟩,ts⟩ Q:=by subst h;exact hw
theorem cKa(l:List aJ)(k:Nat)(h:k<l.length):wtS l=wtS (l.take k)+(l[k].wt+wtS (l.drop (k+1))):=by
 have e:∀a b:List aJ,wtS (a++b)=wtS a+wtS b:=λa b=>by
  induction a with
  |nil=>rw [List.nil_append,wtS];omega
  |cons s a ih=>rw [List.cons_append,wtS,wtS,ih];omega
 conv=>lhs;rw [←List.take_append_drop k l,e,List.drop_eq_getElem_cons h,wtS]
theorem cKy{l:List cFc}{s:ByteArray}(h:(cFa l s).isSome=true):cFv l s=5:=if_pos h
theorem cKo{l:List cFc}{s:ByteArray}(h:(cFa l s).isSome=false):cFv l s=0:=if_neg B5
theorem cH7(l:List aJ)(ihT:∀k (h:k<l.length),∀(A B:List Box)(X:Nat)(p:cK)(x:LS)(vc vs:Value)(rw:List bA),RmL p x (wtS l[k].thn) -> aL prog 88 [pP X,.c (Sq encS l[k].thn)] (X::(aY vc++aY vs)) ⟨A++⟨X,169,[Sq dB p.globals,Sq bT p.mutexes,Sq fV p.funcs,Sq cE9 x.ents,nC x.locals,nC x.n,Vi x.q.2,nC x.q.1,.val vc,.val vs]⟩::B,⟨vc,70,12,x.code.length,x.code.flatMap encI⟩::⟨vs,3,1,x.sites.length,x.sites.map λx=>Vi x⟩::rw⟩ λt s'=>t=.tup [] /\ ∃vc' vs',s'=⟨A++⟨X,169,[Sq dB p.globals,Sq bT p.mutexes,Sq fV p.funcs,.sl (cRs p l[k].thn x).ents.length ((cRs p l[k].thn x).ents.flatMap cE9),Vi (((cRs p l[k].thn x).locals:Nat):Int),Vi (((cRs p l[k].thn x).n:Nat):Int),Vi ((cRs p l[k].thn x).q.2),Vi (((cRs p l[k].thn x).q.1:Nat):Int),.val vc',.val vs']⟩::B,⟨vc',70,12,(cRs p l[k].thn x).code.length,(cRs p l[k].thn x).code.flatMap encI⟩::⟨vs',3,1,(cRs p l[k].thn x).sites.length,(cRs p l[k].thn x).sites.map λx=>Vi x⟩::rw⟩)(ihE:∀k (h:k<l.length),∀(A B:List Box)(X:Nat)(p:cK)(x:LS)(vc vs:Value)(rw:List bA),RmL p x (wtS l[k].els) -> aL prog 88 [pP X,.c (Sq encS l[k].els)] (X::(aY vc++aY vs)) ⟨A++⟨X,169,[Sq dB p.globals,Sq bT p.mutexes,Sq fV p.funcs,Sq cE9 x.ents,nC x.locals,nC x.n,Vi x.q.2,nC x.q.1,.val vc,.val vs]⟩::B,⟨vc,70,12,x.code.length,x.code.flatMap encI⟩::⟨vs,3,1,x.sites.length,x.sites.map λx=>Vi x⟩::rw⟩ λt s'=>t=.tup [] /\ ∃vc' vs',s'=⟨A++⟨X,169,[Sq dB p.globals,Sq bT p.mutexes,Sq fV p.funcs,.sl (cRs p l[k].els x).ents.length ((cRs p l[k].els x).ents.flatMap cE9),Vi (((cRs p l[k].els x).locals:Nat):Int),Vi (((cRs p l[k].els x).n:Nat):Int),Vi ((cRs p l[k].els x).q.2),Vi (((cRs p l[k].els x).q.1:Nat):Int),.val vc',.val vs']⟩::B,⟨vc',70,12,(cRs p l[k].els x).code.length,(cRs p l[k].els x).code.flatMap encI⟩::⟨vs',3,1,(cRs p l[k].els x).sites.length,(cRs p l[k].els x).sites.map λx=>Vi x⟩::rw⟩)(A B:List Box)(X:Nat)(p:cK)(x:LS)(vc vs:Value)(rw:List bA)(hok:RmL p x (wtS l)):aL prog 88 [pP X,.c (Sq encS l)] (X::(aY vc++aY vs)) ⟨A++⟨X,169,[Sq dB p.globals,Sq bT p.mutexes,Sq fV p.funcs,Sq cE9 x.ents,nC x.locals,nC x.n,Vi x.q.2,nC x.q.1,.val vc,.val vs]⟩::B,⟨vc,70,12,x.code.length,x.code.flatMap encI⟩::⟨vs,3,1,x.sites.length,x.sites.map λx=>Vi x⟩::rw⟩ λt s'=>t=.tup [] /\ ∃vc' vs',s'=⟨A++⟨X,169,[Sq dB p.globals,Sq bT p.mutexes,Sq fV p.funcs,.sl (cRs p l x).ents.length ((cRs p l x).ents.flatMap cE9),Vi (((cRs p l x).locals:Nat):Int),Vi (((cRs p l x).n:Nat):Int),Vi ((cRs p l x).q.2),Vi (((cRs p l x).q.1:Nat):Int),.val vc',.val vs']⟩::B,⟨vc',70,12,(cRs p l x).code.length,(cRs p l x).code.flatMap encI⟩::⟨vs',3,1,(cRs p l x).sites.length,(cRs p l x).sites.map λx=>Vi x⟩::rw⟩:=by
 have hlw:=uZ l
 have hon:=hok.n
 refine acX 253 func88 ?_
 refine go 16 ?_
 refine bMj (α:=LS×Value×Value) (λk g=>g.1=cFe p (l.take k) x) (l.length) 5 (λg=>(aY g.2.1++aY g.2.2)++[X]) (λ_ g=>⟨A++⟨X,169,[Sq dB p.globals,Sq bT p.mutexes,Sq fV p.funcs,Sq cE9 g.1.ents,nC g.1.locals,nC g.1.n,Vi g.1.q.2,nC g.1.q.1,.val g.2.1,.val g.2.2]⟩::B,⟨g.2.1,70,12,g.1.code.length,g.1.code.flatMap encI⟩::⟨g.2.2,3,1,g.1.sites.length,g.1.sites.map λx=>Vi x⟩::rw⟩) (λ_=>[(0,pP X),(1,.c (Sq encS l)),(4,.c (Sq cE9 x.ents))]) (x,vc,vs) (by rw [List.take_zero,cFe]) (cQf AK) ?_
 rintro k ⟨y,vc,vs⟩ hk hvk
 replace hvk:y=cFe p (l.take k) x:=hvk
 try dsimp only
 refine go 6 ?_
 by_cases h1:((k:Nat):Int)<((l.length:Nat):Int)
 ·refine wcp true Y (jZ h1) (go 8 ?_)
  have hkl:k<l.length:=J
  have hyk:RmL p y l[k].wt:=by rw [hvk];exact cGr p (l.take k) x l[k].wt (hok.mono (by have:=cKa l k hkl;omega))
  have hwp:=gD l[k]
  have hyc:=hyk.code
  have hyn:=hyk.n
  have hyl:=hyk.loc
  have hye:=hyk.el
  refine dx [X] (tz [(0,true),(1,true)] 9 (go 3 ?_))
  refine tx 2 Y (bH encS dG l mE cJ k Y Y Y Y J V runUnderlying60 sizeOf138) (tz [(3,true),(4,true),(5,true),(6,true),(7,true),(8,false),(9,false),(10,true)] 0 (go 9 λb1=>?_))
  refine ax (go 7 ?_)
  refine wad Y (go 2 ?_)
  refine eA 37 Y (t:=nI (y.n+1)) (gQ J) (go 12 ?_)
  by_cases h3:l[k].kind=1
  ·refine wcp true Y (eR h3) (go 4 ?_)
   refine cG2 (λg:Unit=>(⟨253,(aY vc++aY vs)++[b1,X],⟨⟨b1,138,dG l[k]⟩::A++⟨X,169,[Sq dB p.globals,Sq bT p.mutexes,Sq fV p.funcs,Sq cE9 y.ents,nC y.locals,Vi (((y.n+1):Nat):Int),Vi ((cFg y.q (cFv y.ents l[k].name) ((y.n:Nat):Int)).2),Vi (((cFg y.q (cFv y.ents l[k].name) ((y.n:Nat):Int)).1:Nat):Int),.val vc,.val vs]⟩::B,⟨vc,70,12,y.code.length,y.code.flatMap encI⟩::⟨vs,3,1,y.sites.length,y.sites.map λx=>Vi x⟩::rw⟩,[(0,pP X),(1,.c (Sq encS l)),(4,.c (Sq cE9 x.ents)),(5,nI k),(6,pP b1),(7,nI y.n)]⟩:AS)) ?_ ?_
   ·refine go 1 ?_
    refine dx [b1,X] (tz [(0,true),(1,true),(2,true),(3,true),(4,true),(5,true)] 7 (go 7 ?_))
    refine t2 6 10 Y ?_ ?_
    focus
     refine (bV call57 (cGx y.ents l[k].name J _) ?_)
     rintro _ _ ⟨rfl,rfl⟩
     refine tz [(7,true),(8,true),(9,true),(10,false),(11,false),(12,true)] 0 (go 7 λb2=>?_)
    rotate_left
    refine (jK Y Y V zeroValue128 Y λb3=>?_)
    refine ox 6 Y Y (bV call57 (cGx y.ents l[k].name J _) ?_)
    rintro _ _ ⟨rfl,rfl⟩
    refine tz [(7,true),(8,true),(9,true),(11,false),(12,true)] 0 (go 6 ?_)
    all_goals
     refine ax (go 6 ?_)
     refine gY Y (λh8=>?_) (λh8=>?_)
     focus
      refine go 3 ?_
      refine wo Y (bD [X] call114 (cF3 (_::_::A) B X p y.ents _ _ y.q _ _ _ 5 ((y.n:Nat):Int) V) Gg FU Bd ?_)
      rintro _ _ ⟨rfl,rfl⟩
      refine go 1 ?_
      have h10:(cFg y.q (cFv y.ents l[k].name) ((y.n:Nat):Int))=(cFg y.q 5 ((y.n:Nat):Int)):=by rw [cKy h8]
     rotate_left
     refine go 1 ?_
     have h10:(cFg y.q (cFv y.ents l[k].name) ((y.n:Nat):Int))=y.q:=by rw [cKo h8,cGg]
     all_goals
      exact ⟨(),by rw [h10];exact cQf (h1:=(.cons _ (.refl _))) BP⟩
   rintro ⟨⟩
   try dsimp only
   refine go 6 ?_
   refine wo Y (bD [X] call115 (cI5 (_::A) B X p y.ents _ _ (cFg y.q (cFv y.ents l[k].name) ((y.n:Nat):Int)) _ _ _ l[k].expr ((y.n:Nat):Int) J J) Gg FU Bd ?_)
   rintro _ _ ⟨rfl,rfl⟩
   refine go 5 λb4=>?_
   rw [cGi]
   refine dx [b4,b1] (tz [(0,true),(1,true),(2,true),(3,true),(5,true),(7,true)] 3 (go 7 ?_))
   refine ox 4 Y Y (way Y V (aX (_::_::A) isAgg3 sizeOf3) ?_)
   refine tz [(6,true)] 1 (go 2 ?_)
   refine cJ4 73 Y ((Wk.agg (.r (.r (.r (.r (.r (.r (.r (.r (.r (.n (.n (.n .nil))))))))))))):Wk _ (.agg (encI (⟨1,y.locals,false,cFk y.ents l[k].expr,plZ,[],[]⟩)))) ?_
   have hcz13:(y.beg (cFj (cFv y.ents l[k].name) (cFf y.ents l[k].expr))).code.length <= 100000000 /\ (y.beg (cFj (cFv y.ents l[k].name) (cFf y.ents l[k].expr))).sites.length=(y.beg (cFj (cFv y.ents l[k].name) (cFf y.ents l[k].expr))).code.length:=⟨Bp,hyk.sites⟩
   refine ox 8 Y Y (wcL Y Y V call89 Y (cGm (_::_::A) B X p (y.beg (cFj (cFv y.ents l[k].name) (cFf y.ents l[k].expr))) vc vs _ (⟨1,y.locals,false,cFk y.ents l[k].expr,plZ,[],[]⟩) y.n hcz13.1 hcz13.2) G0 cFh.h cFh.h Ad λvc5 vs5=>?_)
   refine ax (go 2 ?_)
   show AWp prog _ ⟨_,_,⟨⟨b4,65,cU (cFk y.ents l[k].expr)⟩::⟨b1,138,dG l[k]⟩::A++⟨X,169,[Sq dB p.globals,Sq bT p.mutexes,Sq fV p.funcs,Sq cE9 y.ents,nC y.locals,Vi (((y.n+1):Nat):Int),Vi ((cFg y.q (cFj (cFv y.ents l[k].name) (cFf y.ents l[k].expr)) ((y.n:Nat):Int)).2),Vi (((cFg y.q (cFj (cFv y.ents l[k].name) (cFf y.ents l[k].expr)) ((y.n:Nat):Int)).1:Nat):Int),.val vc5,.val vs5]⟩::B,_⟩,_⟩ _
   refine dx [] ?_
   refine cHd 16 16 3 [b4,b1,X] [] #[false,false,false,false,false,false,false,false,false,false,false,false,false,false,false,false,false,false,false] #[false,false,false,false,false,false,false,false,false,false,false,false,false,false,false,false] #[true,true,true,true,true,true,true,true,true,true,true,true,true,true,true,true,false,false,false] Y B6 B6 ?_
   refine tz [(0,true),(2,true),(3,true),(4,true),(5,true),(7,true),(8,true),(9,true),(10,true),(11,true),(12,true),(13,true)] 4 (go 13 ?_)
   refine t2 1 14 Y ?_ ?_
   focus
    refine (aTr underlying124 sizeOf128 λg6=>?_)
    refine t2 6 14 Y ?_ ?_
    focus
     refine (jU [] Tryz.t128 32 Y Y V Y Y underlying124 B6 Y Y Y Y V (aFz cE9 3 cFm y.ents) B1 J (Nat.zero_add y.ents.length) (λhn b hb=>qM (r:=(⟨(.slice (some ⟨g6,0,none⟩) 0 0),128,3,0,[]⟩:bA)) hn hb) cFh.h (List.nil_append _) λw12=>?_)
     refine ox 14 Y Y (bDk (hf:=aV cE9 cE9 (⟨l[k].name,4,y.locals⟩:cFc) Y Y Y) zb0 ?_)
    rotate_left
    refine (bDk (hf:=aV cE9 cE9 (⟨l[k].name,4,y.locals⟩:cFc) Y Y Y) zb0 ?_)
    refine ox 6 Y Y (jU [] Tryz.t128 32 Y Y V Y Y underlying124 B6 Y Y Y Y V (aFz cE9 3 cFm y.ents) B1 J (Nat.zero_add y.ents.length) (λhn b hb=>qM (r:=(⟨(.slice (some ⟨g6,0,none⟩) 0 0),128,3,0,[]⟩:bA)) hn hb) cFh.h (List.nil_append _) λw12=>?_)
   rotate_left 2
   refine (bDk (hf:=aV cE9 cE9 (⟨l[k].name,4,y.locals⟩:cFc) Y Y Y) zb0 ?_)
   refine ox 1 Y Y (aTr underlying124 sizeOf128 λg11=>?_)
   refine ox 6 Y Y (jU [] Tryz.t128 32 Y Y V Y Y underlying124 B6 Y Y Y Y V (aFz cE9 3 cFm y.ents) B1 J (Nat.zero_add y.ents.length) (λhn b hb=>qM (r:=(⟨(.slice (some ⟨g11,0,none⟩) 0 0),128,3,0,[]⟩:bA)) hn hb) cFh.h (List.nil_append _) λw12=>?_)
   all_goals
    refine ox 15 Y Y (bDm [] cHf Y (aFz cE9 3 cFm _) V B1 J (@length_append _ y.ents [(⟨l[k].name,4,y.locals⟩:cFc)]).symm (λhn b hb=>qM (r:=(⟨w12,128,3,y.ents.length,y.ents.flatMap cE9⟩:bA)) hn hb) cFh.h (List.flatMap_append (f:=cE9)).symm λw13=>?_)
    refine ax ?_
    refine id ?_
    refine tz [(16,true),(17,true),(18,false)] 0 (go 4 ?_)
    refine ax (go 2 ?_)
    refine aAg (cs':=[Sq dB p.globals,Sq bT p.mutexes,Sq fV p.funcs,.sl (y.ents++[(⟨l[k].name,4,y.locals⟩:cFc)]).length ((y.ents++[(⟨l[k].name,4,y.locals⟩:cFc)]).flatMap cE9),nC y.locals,Vi (((y.n+1):Nat):Int),Vi ((cFg y.q (cFj (cFv y.ents l[k].name) (cFf y.ents l[k].expr)) ((y.n:Nat):Int)).2),Vi (((cFg y.q (cFj (cFv y.ents l[k].name) (cFf y.ents l[k].expr)) ((y.n:Nat):Int)).1:Nat):Int),.val vc5,.val vs5]) (_::_::A) 3 Y Y ?_
    refine go 4 ?_
    refine wad Y (go 2 ?_)
    refine eA 98 Y (t:=nI (y.locals+1)) (gQ J) (go 7 ?_)
    refine wad Y (go 2 ?_)
    have hst:cFs p l[k] y=((((y.beg (cFj (cFv y.ents l[k].name) (cFf y.ents l[k].expr)))).put ⟨1,y.locals,false,cFk y.ents l[k].expr,plZ,[],[]⟩ y.n).var l[k].name):=by rw [cFz,if_neg J,if_neg J];unfold cFu;rw [if_pos J]<;>rfl
    exact ⟨J,(((((y.beg (cFj (cFv y.ents l[k].name) (cFf y.ents l[k].expr)))).put ⟨1,y.locals,false,cFk y.ents l[k].expr,plZ,[],[]⟩ y.n).var l[k].name),vc5,vs5),(by show ((((y.beg (cFj (cFv y.ents l[k].name) (cFf y.ents l[k].expr)))).put ⟨1,y.locals,false,cFk y.ents l[k].expr,plZ,[],[]⟩ y.n).var l[k].name)=_;rw [←cFo p l k hkl x,←hvk,hst]),cQf (h1:=(.cons _ (.cons _ (.refl _)))) (h:=aG Y (gQ J) (sA Y)) AK⟩
  refine wcp false Y (eD h3) (go 6 ?_)
  by_cases h12:l[k].kind=2
  ·refine wcp true Y (eR h12) (go 10 ?_)
   refine wo Y (bD [X] call116 (cKn (_::A) B X p y.ents _ _ y.q _ _ _ l[k].name ((y.n:Nat):Int) J) Gg FU Bd ?_)
   rintro _ _ ⟨rfl,rfl⟩
   refine go 4 λb14=>?_
   refine dx [b14,b1] (tz [(0,true),(1,true),(2,true),(3,true),(4,true)] 9 (go 6 ?_))
   refine tx 5 Y (bO (decide ((cFb y.ents l[k].name).kind=1)) Y Y Y cLh) (tz [(6,true),(7,true),(8,true),(9,true),(12,true)] 3 (go 6 ?_))
   refine ox 10 Y Y (bD [X] call115 (cI5 (_::_::A) B X p y.ents _ _ (cFg y.q (cGq y.ents l[k].name) ((y.n:Nat):Int)) _ _ _ l[k].expr ((y.n:Nat):Int) J J) Gg FU (by intro h b hb;simp at hb;subst hb;exact kH.2 ⟨C4,λhh=>by simp only [mem_cons,not_mem_nil,or_false] at hh;rcases hh with rfl|rfl<;>simp [Sto.bl] at h⟩) ?_)
   rintro _ _ ⟨rfl,rfl⟩
   refine tz [(11,true)] 1 (go 2 ?_)
   rw [cGi]
   refine cJ4 119 Y ((Wk.agg (.r (.r (.r (.r (.r (.r (.r (.r (.r (.n (.n (.n .nil))))))))))))):Wk _ (.agg (encI (⟨1,(cFb y.ents l[k].name).n,decide ((cFb y.ents l[k].name).kind=1),cFk y.ents l[k].expr,plZ,[],[]⟩)))) ?_
   have hcz18:(y.beg (cFj (cGq y.ents l[k].name) (cFf y.ents l[k].expr))).code.length <= 100000000 /\ (y.beg (cFj (cGq y.ents l[k].name) (cFf y.ents l[k].expr))).sites.length=(y.beg (cFj (cGq y.ents l[k].name) (cFf y.ents l[k].expr))).code.length:=⟨Bp,hyk.sites⟩
   refine ox 13 Y Y (wcL Y Y V call89 Y (cGm (_::_::A) B X p (y.beg (cFj (cGq y.ents l[k].name) (cFf y.ents l[k].expr))) vc vs _ (⟨1,(cFb y.ents l[k].name).n,decide ((cFb y.ents l[k].name).kind=1),cFk y.ents l[k].expr,plZ,[],[]⟩) y.n hcz18.1 hcz18.2) G0 cFh.h cFh.h Ad λvc15 vs15=>?_)
   refine ax (go 5 ?_)
   refine wad Y (go 2 ?_)
   have hst:cFs p l[k] y=((y.beg (cFj (cGq y.ents l[k].name) (cFf y.ents l[k].expr))).put (⟨1,(cFb y.ents l[k].name).n,decide ((cFb y.ents l[k].name).kind=1),cFk y.ents l[k].expr,plZ,[],[]⟩) y.n):=by rw [cFz,if_neg J,if_neg J];unfold cFu;rw [if_neg J,if_pos J]<;>rfl
   exact ⟨J,(((y.beg (cFj (cGq y.ents l[k].name) (cFf y.ents l[k].expr))).put (⟨1,(cFb y.ents l[k].name).n,decide ((cFb y.ents l[k].name).kind=1),cFk y.ents l[k].expr,plZ,[],[]⟩) y.n),vc15,vs15),(by show ((y.beg (cFj (cGq y.ents l[k].name) (cFf y.ents l[k].expr))).put (⟨1,(cFb y.ents l[k].name).n,decide ((cFb y.ents l[k].name).kind=1),cFk y.ents l[k].expr,plZ,[],[]⟩) y.n)=_;rw [←cFo p l k hkl x,←hvk,hst]),cQf (h1:=(.cons _ (.cons _ (.refl _)))) (h:=aG Y (gQ J) (sA Y)) AK⟩
  refine wcp false Y (eD h12) (go 7 ?_)
  by_cases h15:l[k].kind=3
  ·refine wcp true Y (eR h15) (go 12 ?_)
   refine wo Y (bD [X] call117 (cJ5 (_::A) B X p y.ents _ _ y.q _ _ _ l[k] ((y.n:Nat):Int) J hyk.ents J) Gg FU Bd ?_)
   rintro _ _ ⟨rfl,rfl⟩
   refine go 1 ?_
   have hcz21:(y.beg (cFy p y.ents l[k])).code.length <= 100000000 /\ (y.beg (cFy p y.ents l[k])).sites.length=(y.beg (cFy p y.ents l[k])).code.length:=⟨Bp,hyk.sites⟩
   refine wo Y (wcL Y Y V call89 Y (cGm (_::A) B X p (y.beg (cFy p y.ents l[k])) vc vs _ (cGn p y.ents l[k]) y.n hcz21.1 hcz21.2) G0 cFh.h cFh.h Bj λvc16 vs16=>?_)
   refine go 6 ?_
   refine wad Y (go 2 ?_)
   have hst:cFs p l[k] y=((y.beg (cFy p y.ents l[k])).put (cGn p y.ents l[k]) y.n):=BE
   exact ⟨J,(((y.beg (cFy p y.ents l[k])).put (cGn p y.ents l[k]) y.n),vc16,vs16),BO,cQf (h1:=(.cons _ (.refl _))) (h:=aG Y (gQ J) (sA Y)) AK⟩
  refine wcp false Y (eD h15) (go 5 ?_)
  by_cases h19:l[k].kind=4
  ·refine wcp true Y (eR h19) (go 9 ?_)
   refine wo Y (bD [X] call117 (cJ5 (_::A) B X p y.ents _ _ y.q _ _ _ l[k] ((y.n:Nat):Int) J hyk.ents J) Gg FU Bd ?_)
   rintro _ _ ⟨rfl,rfl⟩
   refine go 1 ?_
   have hcz21:(y.beg (cFy p y.ents l[k])).code.length <= 100000000 /\ (y.beg (cFy p y.ents l[k])).sites.length=(y.beg (cFy p y.ents l[k])).code.length:=⟨Bp,hyk.sites⟩
   refine wo Y (wcL Y Y V call89 Y (cGm (_::A) B X p (y.beg (cFy p y.ents l[k])) vc vs _ (cGn p y.ents l[k]) y.n hcz21.1 hcz21.2) G0 cFh.h cFh.h Bj λvc17 vs17=>?_)
   refine go 6 ?_
   refine wad Y (go 2 ?_)
   have hst:cFs p l[k] y=((y.beg (cFy p y.ents l[k])).put (cGn p y.ents l[k]) y.n):=BE
   exact ⟨J,(((y.beg (cFy p y.ents l[k])).put (cGn p y.ents l[k]) y.n),vc17,vs17),BO,cQf (h1:=(.cons _ (.refl _))) (h:=aG Y (gQ J) (sA Y)) AK⟩
  refine wcp false Y (eD h19) (go 6 ?_)
  by_cases h22:l[k].kind=5
  ·refine wcp true Y (eR h22) (go 10 ?_)
   refine wo Y (bD [X] call118 (cJr (_::A) B X p y.ents _ _ y.q _ _ _ l[k].ref ((y.n:Nat):Int) J hyk.ents (by unfold cY.wt at hwp;omega)) Gg FU Bd ?_)
   rintro _ _ ⟨rfl,rfl⟩
   refine go 2 ?_
   refine eA 140 Y ((Wk.agg (.r (.r (.r (.r (.r (.r (.n (.r (.r (.r (.n (.n .nil))))))))))))):Wk _ (.agg (encI (⟨4,0,false,.zero,cG6 y.ents l[k].ref,[],[]⟩)))) ?_
   have hcz23:(y.beg (cGo p y.ents l[k].ref)).code.length <= 100000000 /\ (y.beg (cGo p y.ents l[k].ref)).sites.length=(y.beg (cGo p y.ents l[k].ref)).code.length:=⟨Bp,hyk.sites⟩
   refine wo Y (wcL Y Y V call89 Y (cGm (_::A) B X p (y.beg (cGo p y.ents l[k].ref)) vc vs _ (⟨4,0,false,.zero,cG6 y.ents l[k].ref,[],[]⟩) y.n hcz23.1 hcz23.2) G0 cFh.h cFh.h Bj λvc18 vs18=>?_)
   refine go 6 ?_
   refine wad Y (go 2 ?_)
   have hst:cFs p l[k] y=((y.beg (cGo p y.ents l[k].ref)).put (⟨4,0,false,.zero,cG6 y.ents l[k].ref,[],[]⟩) y.n):=by rw [cFz,if_neg J,if_neg J];unfold cFu;rw [if_neg J,if_neg J,if_neg J,if_pos J]<;>rfl
   exact ⟨J,(((y.beg (cGo p y.ents l[k].ref)).put (⟨4,0,false,.zero,cG6 y.ents l[k].ref,[],[]⟩) y.n),vc18,vs18),(by show ((y.beg (cGo p y.ents l[k].ref)).put (⟨4,0,false,.zero,cG6 y.ents l[k].ref,[],[]⟩) y.n)=_;rw [←cFo p l k hkl x,←hvk,hst]),cQf (h1:=(.cons _ (.refl _))) (h:=aG Y (gQ J) (sA Y)) AK⟩
  refine wcp false Y (eD h22) (go 6 ?_)
  by_cases h25:l[k].kind=6
  ·refine wcp true Y (eR h25) (go 10 ?_)
   refine wo Y (bD [X] call118 (cJr (_::A) B X p y.ents _ _ y.q _ _ _ l[k].ref ((y.n:Nat):Int) J hyk.ents (by unfold cY.wt at hwp;omega)) Gg FU Bd ?_)
   rintro _ _ ⟨rfl,rfl⟩
   refine go 2 ?_
   refine eA 151 Y ((Wk.agg (.r (.r (.r (.r (.r (.r (.n (.r (.r (.r (.n (.n .nil))))))))))))):Wk _ (.agg (encI (⟨5,0,false,.zero,cG6 y.ents l[k].ref,[],[]⟩)))) ?_
   have hcz25:(y.beg (cGo p y.ents l[k].ref)).code.length <= 100000000 /\ (y.beg (cGo p y.ents l[k].ref)).sites.length=(y.beg (cGo p y.ents l[k].ref)).code.length:=⟨Bp,hyk.sites⟩
   refine wo Y (wcL Y Y V call89 Y (cGm (_::A) B X p (y.beg (cGo p y.ents l[k].ref)) vc vs _ (⟨5,0,false,.zero,cG6 y.ents l[k].ref,[],[]⟩) y.n hcz25.1 hcz25.2) G0 cFh.h cFh.h Bj λvc19 vs19=>?_)
   refine go 6 ?_
   refine wad Y (go 2 ?_)
   have hst:cFs p l[k] y=((y.beg (cGo p y.ents l[k].ref)).put (⟨5,0,false,.zero,cG6 y.ents l[k].ref,[],[]⟩) y.n):=by rw [cFz,if_neg J,if_neg J];unfold cFu;rw [if_neg J,if_neg J,if_neg J,if_neg J,if_pos J]<;>rfl
   exact ⟨J,(((y.beg (cGo p y.ents l[k].ref)).put (⟨5,0,false,.zero,cG6 y.ents l[k].ref,[],[]⟩) y.n),vc19,vs19),(by show ((y.beg (cGo p y.ents l[k].ref)).put (⟨5,0,false,.zero,cG6 y.ents l[k].ref,[],[]⟩) y.n)=_;rw [←cFo p l k hkl x,←hvk,hst]),cQf (h1:=(.cons _ (.refl _))) (h:=aG Y (gQ J) (sA Y)) AK⟩
  refine wcp false Y (eD h25) (go 6 ?_)
  by_cases h28:l[k].kind=7
  ·refine wcp true Y (eR h28) (go 11 ?_)
   refine wo Y (bD [X] call115 (cI5 (_::A) B X p y.ents _ _ y.q _ _ _ l[k].expr ((y.n:Nat):Int) J J) Gg FU Bd ?_)
   rintro _ _ ⟨rfl,rfl⟩
   refine go 2 ?_
   refine eA 162 Y ((Wk.agg (.r (.r (.r (.r (.r (.r (.r (.r (.r (.n (.n (.n .nil))))))))))))):Wk _ (.agg (encI (opI 6 (cFk y.ents l[k].expr))))) ?_
   have hcz27:(y.beg (cFf y.ents l[k].expr)).code.length <= 100000000 /\ (y.beg (cFf y.ents l[k].expr)).sites.length=(y.beg (cFf y.ents l[k].expr)).code.length:=⟨Bp,hyk.sites⟩
   refine wo Y (wcL Y Y V call89 Y (cGm (_::A) B X p (y.beg (cFf y.ents l[k].expr)) vc vs _ (opI 6 (cFk y.ents l[k].expr)) y.n hcz27.1 hcz27.2) G0 cFh.h cFh.h Bj λvc20 vs20=>?_)
   refine go 8 ?_
   have hbr:=(hyk.mono J:RmL p y ((wtS l[k].thn+wtS l[k].els)+1)).branch l[k].expr
   have hth:=cH2 p l[k].thn (y.branch l[k].expr) (wtS l[k].els) hbr.1
   have hge:y.code.length+1 <= (cRs p l[k].thn (y.branch l[k].expr)).code.length:=An
   have hle:(cRs p l[k].thn (y.branch l[k].expr)).code.length+2+3*wtS l[k].els <= 100000000:=BA
   refine wo Y (wcL Y Y V call88 Y (ihT k J (_::A) B X p (y.branch l[k].expr) vc20 vs20 _ (hbr.1.mono J)) G0 cFh.h cFh.h Bj λvc21 vs21=>?_)
   refine go 7 ?_
   by_cases h30:(0:Int)<((l[k].els.length:Nat):Int)
   ·refine wcp true Y (mH h30) (go 8 ?_)
    refine eA 174 Y ((Wk.agg (.r (.r (.r (.r (.r (.r (.n (.r (.r (.n (.n (.n .nil))))))))))))):Wk _ (.agg (encI (opI 7 .zero)))) ?_
    have hcz30:(cRs p l[k].thn (y.branch l[k].expr)).code.length <= 100000000 /\ (cRs p l[k].thn (y.branch l[k].expr)).sites.length=(cRs p l[k].thn (y.branch l[k].expr)).code.length:=⟨by have:=hth.code;omega,hth.sites⟩
    refine wo Y (wcL Y Y V call89 Y (cGm (_::A) B X p (cRs p l[k].thn (y.branch l[k].expr)) vc21 vs21 _ (opI 7 .zero) y.n hcz30.1 hcz30.2) G0 cFh.h cFh.h Bj λvc22 vs22=>?_)
    refine go 4 ?_
    have hjp:y.code.length<((cRs p l[k].thn (y.branch l[k].expr)).put (opI 7 .zero) y.n).code.length:=(by rw [cF1];omega)
    refine aEw [] (show 0<((cRs p l[k].thn (y.branch l[k].expr)).put (opI 7 .zero) y.n).code.length by omega) λg31 c31 hg31=>?_
    subst hg31
    refine dx [b1,X] (tz [(0,true),(1,true),(2,true),(3,true),(4,true),(5,true),(6,true),(7,true),(8,true)] 4 (go 10 ?_))
    refine tx 9 Y (kV [] Y Y Y runUnderlying55) ?_
    refine tx 10 Y (dH (z:=12) (y.code.length) Y Y Y Y hjp runUnderlying55 sizeOf70) ?_
    refine tx 11 Y (id <|uX 1 (0+y.code.length*12+1) runUnderlying70 sizeOf3) ?_
    refine ox 12 Y Y (aO0 (r:=((((cRs p l[k].thn (y.branch l[k].expr)).put (opI 7 .zero) y.n).patch (y.code.length)).code).flatMap encI) [] sizeOf3 Gm (cHl hjp) (λhn=>qM (r:=(⟨(.slice (some ⟨g31,0,none⟩) ((cRs p l[k].thn (y.branch l[k].expr)).put (opI 7 .zero) y.n).code.length c31),70,12,((cRs p l[k].thn (y.branch l[k].expr)).put (opI 7 .zero) y.n).code.length,((cRs p l[k].thn (y.branch l[k].expr)).put (opI 7 .zero) y.n).code.flatMap encI⟩:bA)) hn Cq) ?_)
    refine ax (go 2 ?_)
    refine wrn (k':=(((cRs p l[k].thn (y.branch l[k].expr)).put (opI 7 .zero) y.n).patch (y.code.length)).code.length) (cFp (x:=((cRs p l[k].thn (y.branch l[k].expr)).put (opI 7 .zero) y.n)) (y.code.length)).symm ?_
    have hzp:RmL p (((cRs p l[k].thn (y.branch l[k].expr)).put (opI 7 .zero) y.n).patch y.code.length) (wtS l[k].els):=(hth.put J _ _).patch _
    refine go 4 ?_
    refine wo Y (wcL Y Y V call88 Y (ihE k J (_::A) B X p (((cRs p l[k].thn (y.branch l[k].expr)).put (opI 7 .zero) y.n).patch y.code.length) (.slice (some ⟨g31,0,none⟩) ((cRs p l[k].thn (y.branch l[k].expr)).put (opI 7 .zero) y.n).code.length c31) vs22 _ hzp) G0 cFh.h cFh.h Bj λvc23 vs23=>?_)
    refine go 2 ?_
    have hje:(cRs p l[k].thn (y.branch l[k].expr)).code.length<(cRs p l[k].els (((cRs p l[k].thn (y.branch l[k].expr)).put (opI 7 .zero) y.n).patch y.code.length)).code.length:=by have h1:=cGs p l[k].els (((cRs p l[k].thn (y.branch l[k].expr)).put (opI 7 .zero) y.n).patch y.code.length);rw [cFp,cF1] at h1;show _<(cFe p l[k].els (((cRs p l[k].thn (y.branch l[k].expr)).put (opI 7 .zero) y.n).patch y.code.length)).code.length;omega
    have hjp:(cRs p l[k].thn (y.branch l[k].expr)).code.length<(cRs p l[k].els (((cRs p l[k].thn (y.branch l[k].expr)).put (opI 7 .zero) y.n).patch y.code.length)).code.length:=hje
    refine aEw [] (show 0<(cRs p l[k].els (((cRs p l[k].thn (y.branch l[k].expr)).put (opI 7 .zero) y.n).patch y.code.length)).code.length by omega) λg33 c33 hg33=>?_
    subst hg33
    refine dx [b1,X] (tz [(0,true),(1,true),(2,true),(3,true),(4,true),(5,true),(6,true),(7,true),(8,true)] 4 (go 10 ?_))
    refine tx 9 Y (kV [] Y Y Y runUnderlying55) ?_
    refine tx 10 Y (dH (z:=12) ((cRs p l[k].thn (y.branch l[k].expr)).code.length) Y Y Y Y hjp runUnderlying55 sizeOf70) ?_
    refine tx 11 Y (id <|uX 1 (0+(cRs p l[k].thn (y.branch l[k].expr)).code.length*12+1) runUnderlying70 sizeOf3) ?_
    refine ox 12 Y Y (aO0 (r:=(((cRs p l[k].els (((cRs p l[k].thn (y.branch l[k].expr)).put (opI 7 .zero) y.n).patch y.code.length)).patch ((cRs p l[k].thn (y.branch l[k].expr)).code.length)).code).flatMap encI) [] sizeOf3 Gm (cHl hjp) (λhn=>qM (r:=(⟨(.slice (some ⟨g33,0,none⟩) (cRs p l[k].els (((cRs p l[k].thn (y.branch l[k].expr)).put (opI 7 .zero) y.n).patch y.code.length)).code.length c33),70,12,(cRs p l[k].els (((cRs p l[k].thn (y.branch l[k].expr)).put (opI 7 .zero) y.n).patch y.code.length)).code.length,(cRs p l[k].els (((cRs p l[k].thn (y.branch l[k].expr)).put (opI 7 .zero) y.n).patch y.code.length)).code.flatMap encI⟩:bA)) hn Cq) ?_)
    refine ax (go 3 ?_)
    refine wrn (k':=((cRs p l[k].els (((cRs p l[k].thn (y.branch l[k].expr)).put (opI 7 .zero) y.n).patch y.code.length)).patch ((cRs p l[k].thn (y.branch l[k].expr)).code.length)).code.length) (cFp (x:=(cRs p l[k].els (((cRs p l[k].thn (y.branch l[k].expr)).put (opI 7 .zero) y.n).patch y.code.length))) ((cRs p l[k].thn (y.branch l[k].expr)).code.length)).symm ?_
    refine go 2 ?_
    refine wad Y (go 2 ?_)
    have hst:cFs p l[k] y=((cRs p l[k].els (((cRs p l[k].thn (y.branch l[k].expr)).put (opI 7 .zero) y.n).patch y.code.length)).patch ((cRs p l[k].thn (y.branch l[k].expr)).code.length)):=by rw [cFz,if_pos J,if_neg J]<;>rfl
    exact ⟨J,(((cRs p l[k].els (((cRs p l[k].thn (y.branch l[k].expr)).put (opI 7 .zero) y.n).patch y.code.length)).patch ((cRs p l[k].thn (y.branch l[k].expr)).code.length)),(.slice (some ⟨g33,0,none⟩) (cRs p l[k].els (((cRs p l[k].thn (y.branch l[k].expr)).put (opI 7 .zero) y.n).patch y.code.length)).code.length c33),vs23),(by show ((cRs p l[k].els (((cRs p l[k].thn (y.branch l[k].expr)).put (opI 7 .zero) y.n).patch y.code.length)).patch ((cRs p l[k].thn (y.branch l[k].expr)).code.length))=_;rw [←cFo p l k hkl x,←hvk,hst]),cQf (h1:=(.cons _ (.refl _))) (h:=aG Y (gQ J) (sA Y)) AK⟩
   refine wcp false Y (mI h30) (go 3 ?_)
   have hjp:y.code.length<(cRs p l[k].thn (y.branch l[k].expr)).code.length:=J
   refine aEw [] (show 0<(cRs p l[k].thn (y.branch l[k].expr)).code.length by omega) λg34 c34 hg34=>?_
   subst hg34
   refine dx [b1,X] (tz [(0,true),(1,true),(2,true),(3,true),(4,true),(5,true),(6,true),(7,true),(8,true)] 4 (go 10 ?_))
   refine tx 9 Y (kV [] Y Y Y runUnderlying55) ?_
   refine tx 10 Y (dH (z:=12) (y.code.length) Y Y Y Y hjp runUnderlying55 sizeOf70) ?_
   refine tx 11 Y (id <|uX 1 (0+y.code.length*12+1) runUnderlying70 sizeOf3) ?_
   refine ox 12 Y Y (aO0 (r:=(((cRs p l[k].thn (y.branch l[k].expr)).patch (y.code.length)).code).flatMap encI) [] sizeOf3 Gm (cHl hjp) (λhn=>qM (r:=(⟨(.slice (some ⟨g34,0,none⟩) (cRs p l[k].thn (y.branch l[k].expr)).code.length c34),70,12,(cRs p l[k].thn (y.branch l[k].expr)).code.length,(cRs p l[k].thn (y.branch l[k].expr)).code.flatMap encI⟩:bA)) hn Cq) ?_)
   refine ax (go 3 ?_)
   refine wrn (k':=((cRs p l[k].thn (y.branch l[k].expr)).patch (y.code.length)).code.length) (cFp (x:=(cRs p l[k].thn (y.branch l[k].expr))) (y.code.length)).symm ?_
   refine go 2 ?_
   refine wad Y (go 2 ?_)
   have hst:cFs p l[k] y=((cRs p l[k].thn (y.branch l[k].expr)).patch (y.code.length)):=by rw [cFz,if_pos J,if_pos J]<;>rfl
   exact ⟨J,(((cRs p l[k].thn (y.branch l[k].expr)).patch (y.code.length)),(.slice (some ⟨g34,0,none⟩) (cRs p l[k].thn (y.branch l[k].expr)).code.length c34),vs21),(by show ((cRs p l[k].thn (y.branch l[k].expr)).patch (y.code.length))=_;rw [←cFo p l k hkl x,←hvk,hst]),cQf (h1:=(.cons _ (.refl _))) (h:=aG Y (gQ J) (sA Y)) AK⟩
  refine wcp false Y (eD h28) (go 6 ?_)
  by_cases h34:l[k].kind=8
  ·refine wcp true Y (eR h34) (go 11 ?_)
   refine wo Y (bD [X] call115 (cI5 (_::A) B X p y.ents _ _ y.q _ _ _ l[k].expr ((y.n:Nat):Int) J J) Gg FU Bd ?_)
   rintro _ _ ⟨rfl,rfl⟩
   refine go 2 ?_
   refine eA 225 Y ((Wk.agg (.r (.r (.r (.r (.r (.r (.r (.r (.r (.n (.n (.n .nil))))))))))))):Wk _ (.agg (encI (opI 6 (cFk y.ents l[k].expr))))) ?_
   have hcz36:(y.beg (cFf y.ents l[k].expr)).code.length <= 100000000 /\ (y.beg (cFf y.ents l[k].expr)).sites.length=(y.beg (cFf y.ents l[k].expr)).code.length:=⟨Bp,hyk.sites⟩
   refine wo Y (wcL Y Y V call89 Y (cGm (_::A) B X p (y.beg (cFf y.ents l[k].expr)) vc vs _ (opI 6 (cFk y.ents l[k].expr)) y.n hcz36.1 hcz36.2) G0 cFh.h cFh.h Bj λvc24 vs24=>?_)
   refine go 8 ?_
   have hbr:=(hyk.mono J:RmL p y ((wtS l[k].thn+wtS l[k].els)+1)).branch l[k].expr
   have hth:=cH2 p l[k].thn (y.branch l[k].expr) (wtS l[k].els) hbr.1
   have hge:y.code.length+1 <= (cRs p l[k].thn (y.branch l[k].expr)).code.length:=An
   have hle:(cRs p l[k].thn (y.branch l[k].expr)).code.length+2+3*wtS l[k].els <= 100000000:=BA
   refine wo Y (wcL Y Y V call88 Y (ihT k J (_::A) B X p (y.branch l[k].expr) vc24 vs24 _ (hbr.1.mono J)) G0 cFh.h cFh.h Bj λvc25 vs25=>?_)
   refine go 8 ?_
   refine eA 234 Y ((Wk.agg (.r (.r (.r (.r (.r (.r (.n (.r (.r (.n (.n (.n .nil))))))))))))):Wk _ (.agg (encI (⟨7,y.code.length,false,.zero,plZ,[],[]⟩)))) ?_
   have hcz38:(cRs p l[k].thn (y.branch l[k].expr)).code.length <= 100000000 /\ (cRs p l[k].thn (y.branch l[k].expr)).sites.length=(cRs p l[k].thn (y.branch l[k].expr)).code.length:=⟨by have:=hth.code;omega,hth.sites⟩
   refine wo Y (wcL Y Y V call89 Y (cGm (_::A) B X p (cRs p l[k].thn (y.branch l[k].expr)) vc25 vs25 _ (⟨7,y.code.length,false,.zero,plZ,[],[]⟩) y.n hcz38.1 hcz38.2) G0 cFh.h cFh.h Bj λvc26 vs26=>?_)
   refine go 2 ?_
   have hjp:y.code.length<((cRs p l[k].thn (y.branch l[k].expr)).put ⟨7,y.code.length,false,.zero,plZ,[],[]⟩ y.n).code.length:=(by rw [cF1];omega)
   refine aEw [] (show 0<((cRs p l[k].thn (y.branch l[k].expr)).put ⟨7,y.code.length,false,.zero,plZ,[],[]⟩ y.n).code.length by omega) λg39 c39 hg39=>?_
   subst hg39
   refine dx [b1,X] (tz [(0,true),(1,true),(2,true),(3,true),(4,true),(5,true),(6,true),(7,true),(8,true)] 4 (go 10 ?_))
   refine tx 9 Y (kV [] Y Y Y runUnderlying55) ?_
   refine tx 10 Y (dH (z:=12) (y.code.length) Y Y Y Y hjp runUnderlying55 sizeOf70) ?_
   refine tx 11 Y (id <|uX 1 (0+y.code.length*12+1) runUnderlying70 sizeOf3) ?_
   refine ox 12 Y Y (aO0 (r:=((((cRs p l[k].thn (y.branch l[k].expr)).put ⟨7,y.code.length,false,.zero,plZ,[],[]⟩ y.n).patch (y.code.length)).code).flatMap encI) [] sizeOf3 Gm (cHl hjp) (λhn=>qM (r:=(⟨(.slice (some ⟨g39,0,none⟩) ((cRs p l[k].thn (y.branch l[k].expr)).put ⟨7,y.code.length,false,.zero,plZ,[],[]⟩ y.n).code.length c39),70,12,((cRs p l[k].thn (y.branch l[k].expr)).put ⟨7,y.code.length,false,.zero,plZ,[],[]⟩ y.n).code.length,((cRs p l[k].thn (y.branch l[k].expr)).put ⟨7,y.code.length,false,.zero,plZ,[],[]⟩ y.n).code.flatMap encI⟩:bA)) hn Cq) ?_)
   refine ax (go 3 ?_)
   refine wrn (k':=(((cRs p l[k].thn (y.branch l[k].expr)).put ⟨7,y.code.length,false,.zero,plZ,[],[]⟩ y.n).patch (y.code.length)).code.length) (cFp (x:=((cRs p l[k].thn (y.branch l[k].expr)).put ⟨7,y.code.length,false,.zero,plZ,[],[]⟩ y.n)) (y.code.length)).symm ?_
   refine go 2 ?_
   refine wad Y (go 2 ?_)
   have hst:cFs p l[k] y=(((cRs p l[k].thn (y.branch l[k].expr)).put ⟨7,y.code.length,false,.zero,plZ,[],[]⟩ y.n).patch (y.code.length)):=by rw [cFz,if_neg J,if_pos J]<;>rfl
   exact ⟨J,((((cRs p l[k].thn (y.branch l[k].expr)).put ⟨7,y.code.length,false,.zero,plZ,[],[]⟩ y.n).patch (y.code.length)),(.slice (some ⟨g39,0,none⟩) ((cRs p l[k].thn (y.branch l[k].expr)).put ⟨7,y.code.length,false,.zero,plZ,[],[]⟩ y.n).code.length c39),vs26),(by show (((cRs p l[k].thn (y.branch l[k].expr)).put ⟨7,y.code.length,false,.zero,plZ,[],[]⟩ y.n).patch (y.code.length))=_;rw [←cFo p l k hkl x,←hvk,hst]),cQf (h1:=(.cons _ (.refl _))) (h:=aG Y (gQ J) (sA Y)) AK⟩
  refine wcp false Y (eD h34) (go 8 ?_)
  rw [←cGg y.q ((y.n:Nat):Int)]
  refine eA 43 Y ((Wk.agg (.r (.r (.r (.r (.r (.r (.n (.r (.r (.n (.n (.n .nil))))))))))))):Wk _ (.agg (encI (opI 8 .zero)))) ?_
  have hcz7:(y.beg (0)).code.length <= 100000000 /\ (y.beg (0)).sites.length=(y.beg (0)).code.length:=⟨Bp,hyk.sites⟩
  refine wo Y (wcL Y Y V call89 Y (cGm (_::A) B X p (y.beg (0)) vc vs _ (opI 8 .zero) y.n hcz7.1 hcz7.2) G0 cFh.h cFh.h Bj λvc27 vs27=>?_)
  refine go 6 ?_
  refine wad Y (go 2 ?_)
  have hst:cFs p l[k] y=((y.beg (0)).put (opI 8 .zero) y.n):=by rw [cFz,if_neg J,if_neg J];unfold cFu;rw [if_neg J,if_neg J,if_neg J,if_neg J,if_neg J]<;>rfl
  exact ⟨J,(((y.beg (0)).put (opI 8 .zero) y.n),vc27,vs27),(by show ((y.beg (0)).put (opI 8 .zero) y.n)=_;rw [←cFo p l k hkl x,←hvk,hst]),cQf (h1:=(.cons _ (.refl _))) (h:=aG Y (gQ J) (sA Y)) AK⟩
 refine wcp false Y (jQ h1) (go 15 ?_)
 obtain rfl:k=l.length:=J
 rw [List.take_length] at hvk
 subst hvk
 exact ⟨.inl Y,_,⟨A++⟨X,169,[Sq dB p.globals,Sq bT p.mutexes,Sq fV p.funcs,.sl (cRs p l x).ents.length ((cRs p l x).ents.flatMap cE9),Vi (((cRs p l x).locals:Nat):Int),Vi (((cRs p l x).n:Nat):Int),Vi ((cRs p l x).q.2),Vi (((cRs p l x).q.1:Nat):Int),.val vc,.val vs]⟩::B,⟨vc,70,12,(cRs p l x).code.length,(cRs p l x).code.flatMap encI⟩::⟨vs,3,1,(cRs p l x).sites.length,(cRs p l x).sites.map λx=>Vi x⟩::rw⟩,cH Y,aA (.refl _) (.refl _),Y,vc,vs,Y⟩
theorem cIi:∀(N:Nat)(l:List aJ),wtS l <= N -> ∀(A B:List Box)(X:Nat)(p:cK)(x:LS)(vc vs:Value)(rw:List bA),RmL p x (wtS l) -> aL prog 88 [pP X,.c (Sq encS l)] (X::(aY vc++aY vs)) ⟨A++⟨X,169,[Sq dB p.globals,Sq bT p.mutexes,Sq fV p.funcs,Sq cE9 x.ents,nC x.locals,nC x.n,Vi x.q.2,nC x.q.1,.val vc,.val vs]⟩::B,⟨vc,70,12,x.code.length,x.code.flatMap encI⟩::⟨vs,3,1,x.sites.length,x.sites.map λx=>Vi x⟩::rw⟩ λt s'=>t=.tup [] /\ ∃vc' vs',s'=⟨A++⟨X,169,[Sq dB p.globals,Sq bT p.mutexes,Sq fV p.funcs,.sl (cRs p l x).ents.length ((cRs p l x).ents.flatMap cE9),Vi (((cRs p l x).locals:Nat):Int),Vi (((cRs p l x).n:Nat):Int),Vi ((cRs p l x).q.2),Vi (((cRs p l x).q.1:Nat):Int),.val vc',.val vs']⟩::B,⟨vc',70,12,(cRs p l x).code.length,(cRs p l x).code.flatMap encI⟩::⟨vs',3,1,(cRs p l x).sites.length,(cRs p l x).sites.map λx=>Vi x⟩::rw⟩
 |0,l,h=>cH7 l (λk hk=>Cy) (λk hk=>Cy)
 |N+1,l,h=>cH7 l
   (λk hk=>cIi N l[k].thn Cd)
   (λk hk=>cIi N l[k].els Cd)
section
variable {α:Type}{enc:α -> List AC}{z:Nat}(hz:∀x,(enc x).length=z){fs:List α}{k:Nat}(hk:k<fs.length)
include hz hk
theorem cIk:fs.flatMap enc=(fs.take k).flatMap enc++(enc fs[k]++(fs.drop (k+1)).flatMap enc) /\ ((fs.take k).flatMap enc).length=k*z:=by
 refine ⟨?_,?_⟩
 ·conv=>lhs;rw [←List.take_append_drop k fs,List.drop_eq_getElem_cons hk]
  rw [List.flatMap_append,List.flatMap_cons]
 rw [aFz enc z hz,List.length_take,Nat.min_eq_left J]
theorem cLc:pk true z (fs.flatMap enc) (0+k*z)=some (.agg (enc fs[k])):=by
 obtain ⟨h1,h2⟩:=cIk hz hk
 unfold pk
 rw [if_pos rfl,h1,Nat.zero_add,List.drop_left' h2,List.take_left' (hz _),if_pos (by rw [length_append,length_append,h2,hz];omega)]
theorem cLd(i:Nat)(x:AC)(hx:(enc fs[k])[i]?=some x):pk false 1 (fs.flatMap enc) (0+k*z+i)=some (.c x):=by
 obtain ⟨h1,h2⟩:=cIk hz hk
 have hi:i<(enc fs[k]).length:=(List.getElem?_eq_some_iff.1 hx).1
 unfold pk
 rw [if_neg V,h1,Nat.zero_add,List.getElem?_append_right J,h2,Nat.add_sub_cancel_left,List.getElem?_append_left hi,hx];rfl
end
theorem cJb(v:Value)(l:List cFc)(s:ByteArray)(n:Nat)(hn:n=l.length)(hN:n <= 1000000000)(bx:List Box)(rw:List bA):aL prog 57 [Cv v,Cs s] [] ⟨bx,⟨v,128,3,n,l.flatMap cE9⟩::rw⟩ λt s'=>t=.tup [.agg (cE9 (cFb l s)),Cb ((cFa l s).isSome)] /\ s'=⟨bx,⟨v,128,3,n,l.flatMap cE9⟩::rw⟩:=by
 subst hn
 unfold cFb
 refine acX 25 func57 ?_
 refine go 13 λb1=>?_
 refine lE (λk=>cFa (l.drop k) s=cFa l s) (l.length) 6 (λk=>[(0,Cv v),(1,Cs s),(4,pP b1)]) Y (sA Y) λk hk hvk=>?_
 replace hvk:cFa (l.drop k) s=cFa l s:=hvk
 try dsimp only
 refine go 5 ?_
 refine wyz Y (kV [] Y Y Y runUnderlying124) ?_
 by_cases h1:((k:Nat):Int)<((l.length:Nat):Int)
 ·refine wcp true Y (jZ h1) (go 8 ?_)
  refine aEw [] J λg cap hg=>?_
  subst hg
  refine go 3 ?_
  refine wyz Y (dH (z:=3) k Y Y Y Y J runUnderlying124 sizeOf128) ?_
  refine wyz Y (id <|uX 0 (0+k*3+0) runUnderlying128 sizeOf9) ?_
  refine wyz Y (rM [] isAgg9 sizeOf9 (cLd cFm (J:k<l.length) 0 _ Y)) (go 1 ?_)
  by_cases h3:l[k].name=s
  ·refine wyz Y (aZ true Y Y Y (aL8 h3)) (go 7 ?_)
   refine wyz Y (dH (z:=3) k Y Y Y Y J runUnderlying124 sizeOf128) ?_
   refine wyz Y (rM [] isAgg128 sizeOf128 (cLc cFm (J:k<l.length))) (go 10 ?_)
   exact ⟨.inr Y,_,⟨bx,⟨(.slice (some ⟨g,0,none⟩) l.length cap),128,3,l.length,l.flatMap cE9⟩::rw⟩,uM Y (aO [] Y Y isAgg128 sizeOf128 (bK Y Y)) (aF Y),aA (.cons _ (.refl _)) (.refl _),by rw [cI2 J h3 hvk];rfl,Y⟩
  refine wyz Y (aZ false Y Y Y (aLs h3)) (go 8 ?_)
  refine wad Y (go 2 ?_)
  exact ⟨J,(cIp J h3 hvk),(aG Y (gQ J) (sA Y))⟩
 refine wcp false Y (jQ h1) (go 16 ?_)
 exact ⟨.inr Y,_,⟨bx,⟨v,128,3,l.length,l.flatMap cE9⟩::rw⟩,uM Y (aO [] Y Y isAgg128 sizeOf128 (bK Y Y)) (aF Y),aA (.cons _ (.refl _)) (.refl _),D6,Y⟩
theorem cJe(p:cK):(cFd p).length=p.globals.length+p.mutexes.length+p.funcs.length:=by unfold cFd;simp;omega
theorem cLl(p:cK)(k:Nat)(h:k<p.globals.length):(cFd p)[k]?=some ⟨p.globals[k].name,1,k⟩:=by
 unfold cFd;rw [List.getElem?_append_left Er,List.getElem?_mapIdx,List.getElem?_eq_getElem h];rfl
theorem cLt(p:cK)(k j:Nat)(hj:k=p.globals.length+j)(h:j<p.mutexes.length):(cFd p)[k]?=some ⟨p.mutexes[j].name,2,j⟩:=by
 unfold cFd;rw [List.getElem?_append_right DR,List.getElem?_append_left DR,List.getElem?_mapIdx,List.length_mapIdx,show k-p.globals.length=j by omega,List.getElem?_eq_getElem h];rfl
theorem cLv(p:cK)(k j:Nat)(hj:k=p.globals.length+p.mutexes.length+j)(h:j<p.funcs.length):(cFd p)[k]?=some ⟨p.funcs[j].name,3,j⟩:=by
 unfold cFd;rw [List.getElem?_append_right DR,List.getElem?_append_right DR,List.getElem?_mapIdx,List.length_mapIdx,List.length_mapIdx,show k-p.globals.length-p.mutexes.length=j by omega,List.getElem?_eq_getElem h];rfl
def cH1(l:List cFc)(k:Nat)(b:Int):Prop:=(b=-1 /\ cG0 (l.take k) (l.drop k)=cG0 [] l)∨∃i:Nat,b=(i:Int) /\ cG0 [] l=some i
theorem cH1.yes{l:List cFc}{k:Nat}{b:Int}{e:cFc}(h:cH1 l k b)(he:l[k]?=some e)(hb:b<0)(hf:(cFa (l.take k) e.name).isSome=true):cH1 l (k+1) (k:Int):=by
 rcases h with ⟨-,h⟩|⟨i,rfl,-⟩
 ·obtain ⟨hk,rfl⟩:=List.getElem?_eq_some_iff.1 he
  rw [List.drop_eq_getElem_cons hk,cG0,if_pos hf,List.length_take,Nat.min_eq_left J] at h
  exact .inr ⟨k,Y,h.symm⟩
 omega
theorem cH1.old{l:List cFc}{k:Nat}{b:Int}(h:cH1 l k b)(hb:¬b<0):cH1 l (k+1) b:=by
 rcases h with ⟨rfl,-⟩|h
 ·omega
 exact .inr h
theorem cH1.no{l:List cFc}{k:Nat}{b:Int}{e:cFc}(h:cH1 l k b)(he:l[k]?=some e)(hf:(cFa (l.take k) e.name).isSome=false):cH1 l (k+1) b:=by
 rcases h with ⟨hb,h⟩|h
 ·obtain ⟨hk,rfl⟩:=List.getElem?_eq_some_iff.1 he
  rw [List.drop_eq_getElem_cons hk,cG0,if_neg (by rw [hf];decide)] at h
  exact .inl ⟨hb,by rw [List.take_succ_eq_append_getElem hk];exact h⟩
 exact .inr h
theorem cIo{α:Type}{l:List α}{k:Nat}{e:α}(enc:α -> List AC)(he:l[k]?=some e):(l.take k).flatMap enc++[e].flatMap enc=(l.take (k+1)).flatMap enc:=by
 obtain ⟨hk,rfl⟩:=List.getElem?_eq_some_iff.1 he
 rw [List.take_succ_eq_append_getElem hk,List.flatMap_append]
theorem cK3(p:cK)(hN:p.globals.length+p.mutexes.length+p.funcs.length <= 100000000)(bx:List Box)(rw:List bA):aL prog 56 [.agg (jV p)] [] ⟨bx,rw⟩ λt s'=>∃(v:Value) (b:Int),t=.tup [Cv v,Ci b] /\ cH1 (cFd p) (cFd p).length b /\ s'=⟨bx,⟨v,128,3,(cFd p).length,(cFd p).flatMap cE9⟩::rw⟩:=by
 refine acX 94 func56 ?_
 refine go 25 λb1=>?_
 refine wad Y (go 3 ?_)
 refine wad Y (go 10 ?_)
 have hall:=cJe p
 refine qR 128 3 ?_
 refine fM (λg:Nat×Value×Int=>(⟨94,aY g.2.1++[b1],⟨⟨b1,27,jV p⟩::bx,⟨g.2.1,128,3,g.1,((cFd p).take g.1).flatMap cE9⟩::rw⟩,(7,nI g.1)::[(4,Cv g.2.1),(5,Ci g.2.2),(6,Ci (((cFd p).length:Nat):Int)),(1,pP b1)]⟩:AS)) (λg=>g.1 <= (cFd p).length /\ cH1 (cFd p) g.1 g.2.2) (λg=>(cFd p).length-g.1) (0,.slice none 0 0,-1) (cQf (h:=aG Y (.refl _) (aG Y (.refl _) (aG Y (.refl _) (aG Y (gQ J) (sA Y))))) BU) ⟨Nat.zero_le _,.inl ⟨Y,Y⟩⟩ ?_
 rintro ⟨k,v,bad⟩ ⟨hk,hbad⟩
 dsimp only at hk hbad
 try dsimp only
 refine go 5 ?_
 by_cases h1:((k:Nat):Int)<(((cFd p).length:Nat):Int)
 ·refine wcp true Y (jZ h1) (go 8 ?_)
  obtain ⟨e,he⟩:∃e,(cFd p)[k]?=some e:=⟨_,List.getElem?_eq_getElem (J:k<(cFd p).length)⟩
  refine go 6 λb2=>?_
  refine cG2 (λ_:Unit=>(⟨94,aY v++[b2,b1],⟨⟨b2,128,cE9 e⟩::⟨b1,27,jV p⟩::bx,⟨v,128,3,k,((cFd p).take k).flatMap cE9⟩::rw⟩,[(1,pP b1),(4,Cv v),(5,Ci bad),(6,Ci (((cFd p).length:Nat):Int)),(7,nI k),(8,pP b2)]⟩:AS)) ?_ ?_
  ·refine go 6 ?_
   refine wyz Y (qC) (go 7 ?_)
   by_cases h3:(((k:Nat):Int)-((p.globals.length:Nat):Int))<0
   focus
    refine wcp true Y (jZ h3) (go 8 ?_)
    refine wyz Y (bH dB dB p.globals nS (λ_=>Y) k Y Y Y Y J V runUnderlying23 sizeOf75) (go 7 ?_)
    have hE:=Option.some.inj (he.symm.trans (cLl p k J))
   rotate_left
   focus
    refine wcp false Y (jQ h3) (go 6 ?_)
    refine eA 9 Y (t:=nI (k-p.globals.length)) (gQ J) (go 4 ?_)
    by_cases h6:(((k-p.globals.length):Nat):Int)<((p.mutexes.length:Nat):Int)
    focus
     refine wcp true Y (jZ h6) (go 8 ?_)
     refine wyz Y (bH bT bT p.mutexes mZ (λ_=>Y) (k-p.globals.length) Y Y Y Y J V runUnderlying24 sizeOf77) (go 7 ?_)
     have hE:=Option.some.inj (he.symm.trans (cLt p k (k-p.globals.length) J J))
    rotate_left
    refine wcp false Y (jQ h6) (go 4 ?_)
    refine dx [b1] (tz [(0,true),(1,true),(2,true),(3,true),(4,true),(5,true)] 11 (go 7 ?_))
    refine tx 6 Y (qC) ?_
    refine cJ4 40 Y (t:=nI (k-p.globals.length-p.mutexes.length)) (gQ J) ?_
    refine tx 7 Y (bH fV fV p.funcs vC (λ_=>Y) (k-p.globals.length-p.mutexes.length) Y Y Y Y J V runUnderlying25 sizeOf62) (tz [(8,true),(9,true),(10,true),(11,true),(12,true),(13,true)] 3 (go 7 ?_))
    refine tx 14 Y (qC) ?_
    refine cJ4 48 Y (t:=nI (k-p.globals.length-p.mutexes.length)) (gQ J) ?_
    refine tz [(15,true),(16,false)] 0 (go 3 ?_)
    refine ax (go 1 ?_)
    have hE:=Option.some.inj (he.symm.trans (cLv p k (k-p.globals.length-p.mutexes.length) J J))
   all_goals
    exact ⟨(),by rw [hE];exact cQf BP⟩
  rintro ⟨⟩
  try dsimp only
  refine go 6 ?_
  refine wc0 Y call57 Y (cJb v ((cFd p).take k) e.name _ (by first|rfl|(rw [List.length_take];omega)) J _ _) ?_
  rintro _ _ ⟨rfl,rfl⟩
  refine go 11 λb3=>?_
  rcases Bool.eq_false_or_eq_true ((cFa ((cFd p).take k) e.name).isSome) with h9|h9
  ·refine wyz Y (fL (bZ h9) (lW Y Y)) (go 1 ?_)
   by_cases h10:bad<0
   ·refine wcp true Y (jZ h10) (go 12 ?_)
    refine wo Y (bDk (hf:=aV cE9 cE9 e Y Y Y) zb0 ?_)
    refine wo Y (bDm [] cHf Y (aFz cE9 3 cFm _) V B1 J (N:=k+1) Y Au cFh.h (cIo cE9 he) λw4=>?_)
    refine go 6 ?_
    refine wad Y (go 2 ?_)
    exact ⟨(k+1,w4,((k:Nat):Int)),⟨Cw,hbad.yes he J h9⟩,BX,cQf (h1:=(.cons _ (.cons _ (.refl _)))) (h:=aG Y (gQ J) (sA Y)) BP⟩
   refine wcp false Y (jQ h10) (go 9 ?_)
   refine wo Y (bDk (hf:=aV cE9 cE9 e Y Y Y) zb0 ?_)
   refine wo Y (bDm [] cHf Y (aFz cE9 3 cFm _) V B1 J (N:=k+1) Y Au cFh.h (cIo cE9 he) λw5=>?_)
   refine go 6 ?_
   refine wad Y (go 2 ?_)
   exact ⟨(k+1,w5,bad),⟨Cw,hbad.old J⟩,BX,cQf (h1:=(.cons _ (.cons _ (.refl _)))) (h:=aG Y (gQ J) (sA Y)) BP⟩
  refine wyz Y (fL (bZ h9) (lW Y Y)) (go 11 ?_)
  refine wo Y (bDk (hf:=aV cE9 cE9 e Y Y Y) zb0 ?_)
  refine wo Y (bDm [] cHf Y (aFz cE9 3 cFm _) V B1 J (N:=k+1) Y Au cFh.h (cIo cE9 he) λw6=>?_)
  refine go 6 ?_
  refine wad Y (go 2 ?_)
  exact ⟨(k+1,w6,bad),⟨Cw,hbad.no he h9⟩,BX,cQf (h1:=(.cons _ (.cons _ (.refl _)))) (h:=aG Y (gQ J) (sA Y)) BP⟩
 refine wcp false Y (jQ h1) (go 17 ?_)
 obtain rfl:k=(cFd p).length:=J
 rw [List.take_length]
 refine ⟨.inr Y,_,⟨bx,⟨v,128,3,(cFd p).length,(cFd p).flatMap cE9⟩::rw⟩,uM Y (aF Y) (aF Y),aA (.cons _ (.refl _)) (.refl _),_,bad,Y,hbad,Y⟩
end
end Go.Proofs.YtbdfdjdgfanjaaaGreatDoor
