import Derived.Test.YtjgeihmhppadaaaGreatDoorG10J
set_option linter.all false
set_option synthInstance.maxHeartbeats 1000000
set_option synthInstance.maxSize 1000000
set_option maxHeartbeats 1600000
set_option maxRecDepth 100000
namespace Go.Proofs.YtjgeihmhppadaaaGreatDoor
open Go.Proofs.Tryz
open List (length_append length_cons length_nil mem_append mem_cons not_mem_nil append_assoc getElem_mem take_of_length_le)
section
open Go.RowKit
def okA(W:Nat)(a:Option Addr):Prop:=a=none∨a=some ⟨W,0,none⟩
def nz(bs:List UInt8)(v:Value):Prop:=bs=[] -> v=.slice none 0 0
abbrev WS(A:List Box)(W m:Nat)(a:Option Addr)(v:Value)(bs:List UInt8)(B:List Box)(rw:List bA):Sto:=⟨A++⟨W,181,[.val (.pointer a),.val v,nC m]⟩::B,⟨v,5,1,bs.length,iF bs⟩::rw⟩
instance bSk:Cst .nilIface (Cv .nilIface):=⟨rfl⟩
section
variable {P:Program}{U T:List Nat}{o:Oper}{n d:Nat}{ts:List (Nat×AT)}{s:Sto}{K:AS -> Prop}{st:AS}{bx:List Box}{rw:List bA}{ops:Array Oper}{l:List Oper}{Q:Exit -> AS -> Prop}
theorem bNp{t yt te:TypeId}{j:TypeInfo}{x y:Operand}{q:Option Addr}(ho:o.op=.binOp .eql t x y yt)(hx:evA st x=some (Cv (.pointer q)))(hy:evA st y=some (Cv (.pointer none)))(hp:P.underlying t=some (.pointer te))(hte:P.info? te=some j):AY P U o st (Cb q.isNone):=
 fW rfl λa w hs w'=>by
  have h:∀d:Nat,(Op.equalIn (d+1) t (.pointer q) (.pointer none)).run P w'=.ok q.isNone w':=λd=>by
   cases q<;>simp [Op.equalIn,run_underlying hp,sizeOf,typeInfo,hte,samePointer]
  have h2:(Op.equal t (.pointer q) (.pointer none)).run P w'=.ok q.isNone w':=h 9999
  generalize hg:Op.equal t (.pointer q) (.pointer none)=E at h2
  simp only [execOp,ho,hs.val hx,hs.val hy]
  simp_all [go_sem,eqGuard,binOp]
theorem bQ4{t yt te:TypeId}{j:TypeInfo}{x y:Operand}{q:Addr}(ho:o.op=.binOp .neq t x y yt)(hx:evA st x=some (Cv (.pointer (some q))))(hy:evA st y=some (Cv (.pointer (some q))))(hp:P.underlying t=some (.pointer te))(hte:P.info? te=some j):AY P U o st (Cb false):=
 fW rfl λa w hs w'=>by
  have h2:=Lib.run_neq_ptr_same w' q hp hte
  simp only [execOp,ho,hs.val hx,hs.val hy]
  simp [go_sem,eqGuard,h2]
theorem bP6 {F : FuncId} {fn : Func} {x : Operand} {tys : Array TypeId} {t : AT} (ho : o.op = .call { callee := .value (.func F), args := #[x], argTypes := tys }) (hx : evA st x = some t) (hf : P.funcs[F]? = some fn) (hname : (fn.name == "runtime.NumGoroutine") = false) (hb : fn.body.isNone = true) (hn : Extern.findNext fn = none) (he : Extern.find fn = some Extern.AbiNoEscape.same) : AY P U o st t := by
 intro a w hs _
 refine ⟨a.eval x,hs.ev hx,λw' _=>?_⟩
 simp only [execOp,ho,resolve,Deferred.ofValue,Act.eval,Sem.run_bind,Sem.run_pure,Result.andThen_ok,invoke,List.map_toArray,List.map_cons,List.map_nil]
 have h1:=run_callFunc_extern hf hname hb hn he #[a.eval x] w'
 rw [Lib.run_noEscape] at h1
 simp only [Result.andThen_ok] at h1
 simpa [Act.eval] using h1
theorem bNs{w w':World}{U:List Nat}{b:Nat}{T:TypeId}{cs:List AC}(hm:Mem s w)(hb:(⟨b,T,cs⟩:Box)∈s.boxes)(hk:cW U w w')(hU:b∉U):w'.shape? b=some (T,cs.length):=by
 obtain ⟨us,⟨fz,-,h1⟩,h2⟩:=hm.box _ hb
 have h3:w'.heap[b]?=_:=(hk.block b (hm.lt b (List.mem_append_left _ (List.mem_map.2 ⟨_,hb,Y⟩))) hU).trans h1
 unfold World.shape?
 rw [h3]
 simp [h2.len]
theorem bR9{E E' te:TypeId}{j:TypeInfo}{x:Operand}{b:Nat}{T0:TypeId}{cs:List AC}(A:List Box){B:List Box}(ho:o.op=.convert E E' x)(hx:evA st x=some (pP b))(hb:st.s.boxes=A++⟨b,T0,cs⟩::B)(hE:P.underlying E=some (.pointer te))(hE':P.underlying E'=some .unsafePointer)(ht:P.info? te=some j)(hj:j.size≠0)(hl:0<cs.length)(hU:b∉U):AY P U o st (pP b):=by
 intro a w hs _
 refine ⟨_,.c _ _ (.val _ Y),λw' hk=>?_⟩
 have hsh:=bNs hs.mem (b:=b) (T:=T0) (cs:=cs) DO hk hU
 simp only [execOp,ho,Sem.run_bind,hs.val hx]
 rw [Lib.run_to_unsafe w' ⟨b,0,none⟩ hE hE' ht hj hsh hl];rfl
theorem bRc{E E' u:TypeId}{j:TypeInfo}{x:Operand}{b:Nat}{T0:TypeId}{cs:List AC}(A:List Box){B:List Box}(ho:o.op=.convert E E' x)(hx:evA st x=some (pP b))(hb:st.s.boxes=A++⟨b,T0,cs⟩::B)(hE:P.underlying E=some .unsafePointer)(hE':P.underlying E'=some (.pointer u))(ht:P.info? u=some j)(hlies:liesAt P P.depth T0 (cs.length/P.cellsOf T0) 0 u 1=true)(hU:b∉U):AY P U o st (pP b):=by
 intro a w hs _
 refine ⟨_,.c _ _ (.val _ Y),λw' hk=>?_⟩
 have hsh:=bNs hs.mem (b:=b) (T:=T0) (cs:=cs) DO hk hU
 simp only [execOp,ho,Sem.run_bind,hs.val hx]
 rw [Lib.run_from_unsafe w' ⟨b,0,none⟩ hE hE' ht hsh hlies];rfl
theorem bMj{α:Type}{c:Code}{T':List Nat}{s':Sto}(p:Nat -> α -> Prop)(N i:Nat)(T:α -> List Nat)(S:Nat -> α -> Sto)(fx:Nat -> List (Nat×AT))(g0:α)(hp:p 0 g0)(hs:Sub ⟨n,T',s',ts⟩ ⟨n,T g0,S 0 g0,(i,nI 0)::fx 0⟩)
  (round:∀k g,k <= N -> p k g -> AWp P c ⟨n,T g,S k g,(i,nI k)::fx k⟩ (sU (λs'=>k<N /\ ∃g',p (k+1) g' /\ Sub s' ⟨n,T g',S (k+1) g',(i,nI (k+1))::fx (k+1)⟩) Q)):AWp P (.loop c) ⟨n,T',s',ts⟩ Q:=by
 refine fM (λg:Nat×α=>⟨n,T g.2,S g.1 g.2,(i,nI g.1)::fx g.1⟩) (λg=>g.1 <= N /\ p g.1 g.2) (λg=>N-g.1) (0,g0) hs ⟨Nat.zero_le _,hp⟩ λg hg=>sE (round g.1 g.2 hg.1 hg.2) λe s' h=>?_
 cases e with
 |normal=>
  obtain ⟨h1,g',h2,h3⟩:=h
  exact ⟨(g.1+1,g'),⟨h1,h2⟩,by show N-(g.1+1)<N-g.1;omega,h3⟩
 |_=>exact h
theorem bMm{bx bx':List Box}{rw rw':List bA}{s':Sto}{T':List Nat}{ts':List (Nat×AT)}(h1:bx'.Sublist bx)(he:(⟨bx',rw'⟩:Sto)=s')(h2:rw'.Sublist rw:=by exact (.refl _))(h3:∀b,b∈T' -> b∈T:=by intro x hx;simp only [mem_append,mem_cons,not_mem_nil,or_false] at hx⊢;rcases hx with hx|hx<;>simp [hx])(h:Sub ⟨n,T',s',ts⟩ ⟨n,T',s',ts'⟩:=by exact (aG rfl (gQ J) (sA rfl))):Sub ⟨n,T,⟨bx,rw⟩,ts⟩ ⟨n,T',s',ts'⟩:=by
 subst he;exact cQf (h1:=h1) (h2:=h2) (h:=h) h3
theorem bLf{A:List Box}{W m:Nat}{a:Option Addr}{v:Value}{x y:List UInt8}{B:List Box}{rw:List bA}(h:x=y):WS A W m a v x B rw=WS A W m a v y B rw:=by rw [h]
theorem wcW{F:FuncId}{ars:Array Operand}{tys:Array TypeId}{us:List AT}{W m m':Nat}{a:Option Addr}{v:Value}{bs bs':List UInt8}{r:AT}{A B:List Box}{C:Option Addr -> Value -> Prop}(h0:(o.op,o.dst,Nat.blt d n)=(.call {callee:=.value (.func F),args:=ars,argTypes:=tys},some d,true))
  (hcf:∀args w,(callFunc F args).run P w=.ok (.enter F args) w) (has:ars.toList.map (evA ⟨n,T,WS A W m a v bs B rw,ts⟩)=us.map some)
  (hc:aL P F us (W::aY v) (WS A W m a v bs B rw) λt s'=>t=r /\ ∃a' v',C a' v' /\ s'=WS A W m' a' v' bs' B rw) (hT:W∈T) (hTv:∀b,b∈aY v -> b∈T) (hU:(WS A W m a v bs B rw).bl.Nodup -> W∈U /\ ∀b,b∈aY v -> b∈U)
  (h:∀a' v',C a' v' -> K ⟨n,aY v'++T,WS A W m' a' v' bs' B rw,(d,r)::ts⟩):AO P U o ⟨n,T,WS A W m a v bs B rw,ts⟩ K:=by
 simp only [Prod.mk.injEq] at h0
 obtain ⟨ho,hd,hn⟩:=h0
 intro act w hs KK QQ' hK
 obtain ⟨h1,h2⟩:=rU hs has
 have hTb:∀b,b∈W::aY v -> b∈(WS A W m a v bs B rw).bl:=λb hb=>by
  unfold Sto.bl
  rcases mem_cons.1 hb with rfl|hb
  ·simp
  simp [hb]
 have hTT:∀b,b∈W::aY v -> b∈T:=λb hb=>by
  rcases mem_cons.1 hb with rfl|hb
  ·exact hT
  exact hTv b hb
 unfold Oper.wp
 rw [show (execOp act.eval o).run P w=.ok (.enter F (ars.toList.map act.eval).toArray) w from by
  simp only [execOp,ho,resolve,Deferred.ofValue,Act.eval,Sem.run_bind,Sem.run_pure,Result.andThen_ok,invoke]
  rw [hcf]
  congr 2
  rw [←Array.toList_inj];simp,Oper.upon_enter]
 refine (hc _ w hs.mem hTb h1 h2).mono ?_
 rintro en w' ⟨r',vr,s',rfl,⟨rfl,a',v',hC,rfl⟩,hr,hm,hk,hb⟩
 dsimp only
 rw [hd]
 have s1:=hs.step (aY v'++T) (hk.mono hTb) hm hb
 refine hK _ _ _ (h a' v' hC) (s1.put (Nat.le_of_ble_eq_true hn) hr) ⟨hk.mono hTb,hk.mono hTT,hb,λb hb2=>?_⟩ (hk.mono (λb hb=>by
  obtain ⟨u1,u2⟩:=hU hs.mem.nodup
  rcases mem_cons.1 hb with rfl|hb
  ·exact u1
  exact u2 b hb))
 rcases mem_append.1 hb2 with hb2|hb2
 ·have e1:b∈(WS A W m' a' v' bs' B rw).bl:=Dg
  exact (hb b e1).imp G1 id
 exact .inl hb2
theorem bO5{F:FuncId}{ars:Array Operand}{tys:Array TypeId}{p:World -> Prop}{t0 u:AT}{us:List AT}{W m m':Nat}{a:Option Addr}{v:Value}{bs bs':List UInt8}{r:AT}{A B:List Box}{C:Option Addr -> Value -> Prop}(i0:Nat)(h0:(o.op,o.dst,Nat.blt d n,look ts i0)=(.call {callee:=.value (.func F),args:=ars,argTypes:=tys},some d,true,some (.ride t0 p)))
  (hcf:∀args w,(callFunc F args).run P w=.ok (.enter F args) w) (has:ars.toList.map (evA ⟨n,T,WS A W m a v bs B rw,ts⟩)=(u::us).map some)
  (hc:aL P F (.ride u p::us) (W::aY v) (WS A W m a v bs B rw) λt s'=>t=r /\ ∃a' v',C a' v' /\ s'=WS A W m' a' v' bs' B rw) (hT:W∈T) (hTv:∀b,b∈aY v -> b∈T) (hU:(WS A W m a v bs B rw).bl.Nodup -> W∈U /\ ∀b,b∈aY v -> b∈U)
  (h:∀a' v',C a' v' -> K ⟨n,aY v'++T,WS A W m' a' v' bs' B rw,(d,r)::ts⟩):AO P U o ⟨n,T,WS A W m a v bs B rw,ts⟩ K:=by
 simp only [Prod.mk.injEq] at h0
 obtain ⟨ho,hd,hn,hl⟩:=h0
 intro act w hs KK QQ' hK
 obtain ⟨h1,h2⟩:=rU hs has
 obtain ⟨v0,-,hv0⟩:=hs.tm i0 _ hl
 have hTb:∀b,b∈W::aY v -> b∈(WS A W m a v bs B rw).bl:=λb hb=>by
  unfold Sto.bl
  rcases mem_cons.1 hb with rfl|hb
  ·simp
  simp [hb]
 have hTT:∀b,b∈W::aY v -> b∈T:=λb hb=>by
  rcases mem_cons.1 hb with rfl|hb
  ·exact hT
  exact hTv b hb
 unfold Oper.wp
 rw [show (execOp act.eval o).run P w=.ok (.enter F (ars.toList.map act.eval).toArray) w from by
  simp only [execOp,ho,resolve,Deferred.ofValue,Act.eval,Sem.run_bind,Sem.run_pure,Result.andThen_ok,invoke]
  rw [hcf]
  congr 2
  rw [←Array.toList_inj];simp,Oper.upon_enter]
 refine (hc _ w hs.mem hTb h1 (λi hi hi'=>?_)).mono ?_
 ·match i,hi with
  |0,hi=>exact bL3 hv0 (h2 0 G0 hi')
  |i+1,hi=>exact h2 (i+1) B3 hi'
 rintro en w' ⟨r',vr,s',rfl,⟨rfl,a',v',hC,rfl⟩,hr,hm,hk,hb⟩
 dsimp only
 rw [hd]
 have s1:=hs.step (aY v'++T) (hk.mono hTb) hm hb
 refine hK _ _ _ (h a' v' hC) (s1.put (Nat.le_of_ble_eq_true hn) hr) ⟨hk.mono hTb,hk.mono hTT,hb,λb hb2=>?_⟩ (hk.mono (λb hb=>by
  obtain ⟨u1,u2⟩:=hU hs.mem.nodup
  rcases mem_cons.1 hb with rfl|hb
  ·exact u1
  exact u2 b hb))
 rcases mem_append.1 hb2 with hb2|hb2
 ·have e1:b∈(WS A W m' a' v' bs' B rw).bl:=Dg
  exact (hb b e1).imp G1 id
 exact .inl hb2
end
end
section
open Go.RowKit
class cFh (v:Value) (T:List Nat):Prop where h:∀b,b∈aY v -> b∈T
instance (priority:=1200) rbIn_hit{v:Value}{T:List Nat}:cFh v (aY v++T):=⟨λ_ hb=>List.mem_append_left _ hb⟩
instance (priority:=1200) rbIn_self{v:Value}:cFh v (aY v):=⟨λ_ hb=>hb⟩
instance (priority:=1300) rbIn_none{T:List Nat}:cFh (.slice none 0 0) T:=⟨λb hb=>DF⟩
instance (priority:=1300) rbIn_lit{g n c:Nat}{T:List Nat}[h:InL g T]:cFh (.slice (some ⟨g,0,none⟩) n c) T:=⟨λb hb=>by
 simp only [aY,Value.ownBlock,Option.toList,mem_cons,not_mem_nil,or_false] at hb
 rw [hb];exact h.h⟩
instance cL6{v:Value}{X T:List Nat}[h:cFh v T]:cFh v (X++T):=⟨λb hb=>List.mem_append_right _ (h.h b hb)⟩
instance cLx{v:Value}{X T:List Nat}[h:cFh v X]:cFh v (X++T):=⟨λb hb=>List.mem_append_left _ (h.h b hb)⟩
instance cLw{v:Value}{x:Nat}{T:List Nat}[h:cFh v T]:cFh v (x::T):=⟨λb hb=>List.mem_cons_of_mem _ (h.h b hb)⟩
instance cNf{x:cFc}:cZr (cE9 x) 3:=⟨rfl⟩
instance cM8{x:cG5}:cZr (cF7 x) 3:=⟨rfl⟩
instance cN8{x:cFw}:cZr (encI x) 12:=⟨rfl⟩
instance cL2{x:cFc}:iY (cE9 x) [Vs x.name,Vi x.kind,nC x.n]:=⟨rfl⟩
instance cMf{x:cG5}:iY (cF7 x) [Vb x.param,nC x.index,Sq fO x.at_]:=⟨rfl⟩
instance cMw{x:cFw}:iY (encI x) [Vi x.op,nC x.target,Vb x.global,Vi x.expr.op,Vi x.expr.num,Vs x.expr.name,Sq fO x.expr.args,Vb x.place.param,nC x.place.index,Sq fO x.place.at_,Sq fO x.ints,Sq cF7 x.places]:=⟨rfl⟩
theorem cG2{P:Program}{α:Type}{x y:Code}{st:AS}{Q:Exit -> AS -> Prop}(F:α -> AS)(h1:AWp P x st (sU (λs=>∃a,Sub s (F a)) Q))(h2:∀a,AWp P y (F a) Q):AWp P (.seq x y) st Q:=
 aHp (sE h1 λe s h=>by
  cases e with
  |normal=>obtain ⟨a,ha⟩:=h;exact zU ha (h2 a)
  |_=>exact h)
theorem cHm{α β:Type}(f:α -> β)(enc:β -> List AC)(l:List α)(k:Nat)(h:k<l.length):((l.take k).map f).flatMap enc++[f l[k]].flatMap enc=((l.take (k+1)).map f).flatMap enc:=by
 rw [List.take_succ_eq_append_getElem h,List.map_append,List.flatMap_append];rfl
structure MW (gg gm gf gk gl:Nat) (gs ms fs lk lo:Vis) (rw:List bA):Prop where
 gg:cR3 gg 0 evI gs∈rw
 gm:cR3 gm 0 evI ms∈rw
 gf:cR3 gf 0 evI fs∈rw
 gk:cR3 gk 0 evI lk∈rw
 gl:cR3 gl 0 evI lo∈rw
theorem MW.cons{gg gm gf gk gl:Nat}{gs ms fs lk lo:Vis}{rw:List bA}{r:bA}(h:MW gg gm gf gk gl gs ms fs lk lo rw):MW gg gm gf gk gl gs ms fs lk lo (r::rw):=⟨by simp [h.gg],by simp [h.gm],by simp [h.gf],by simp [h.gk],by simp [h.gl]⟩
theorem cUi(A B:List Box)(D gg gm gf gk gl:Nat)(p:cK)(l:List cFc)(gs ms fs lk lo:Vis)(c5 c6 c7 c8:AC)(rw:List bA)(hM:MR gs ms fs lk lo l)(hW:MW gg gm gf gk gl gs ms fs lk lo rw)(e:aH)(hN:e.nodes <= 1000000000)(hE:cFf l e=0)(ih:¬e.op=2 -> ∀k (h:k<e.args.length) (A:List Box) (rw:List bA),MW gg gm gf gk gl gs ms fs lk lo rw -> aL prog 108 [pP D,.agg (cU e.args[k])] [] ⟨A++⟨D,77,[Vm gg,Vm gm,Vm gf,Vm gl,Vm gk,c5,c6,c7,c8]⟩::B,rw⟩ λt s'=>t=.agg (cU (cFk l e.args[k])) /\ s'=⟨A++⟨D,77,[Vm gg,Vm gm,Vm gf,Vm gl,Vm gk,c5,c6,c7,c8]⟩::B,rw⟩):aL prog 108 [pP D,.agg (cU e)] [] ⟨A++⟨D,77,[Vm gg,Vm gm,Vm gf,Vm gl,Vm gk,c5,c6,c7,c8]⟩::B,rw⟩ λt s'=>t=.agg (cU (cFk l e)) /\ s'=⟨A++⟨D,77,[Vm gg,Vm gm,Vm gf,Vm gl,Vm gk,c5,c6,c7,c8]⟩::B,rw⟩:=by
 have hlen:=uC e
 refine acX 56 func108 ?_
 refine go 11 λb1 b2=>?_
 by_cases h1:e.op=2
 ·refine wcp true Y (eR h1) (go 5 ?_)
  refine dx [b2,b1,D,gg,gm,gf,gk,gl] (tz [(0,true),(1,true),(2,true),(3,true),(4,true),(5,true)] 6 (go 7 ?_))
  refine tx 6 Y (cS2 lo Y Y Y (by simp [hW.gl]) underlying74 underlying9 zeroValue3 Cf) (tz [(7,true),(8,true),(9,true),(10,true),(11,true)] 0 (go 6 ?_))
  refine ax (go 6 ?_)
  refine gY Y (λh3=>?_) (λh3=>?_)
  ·refine go 10 ?_
   exact ⟨.inr Y,_,⟨A++⟨D,77,[Vm gg,Vm gm,Vm gf,Vm gl,Vm gk,c5,c6,c7,c8]⟩::B,rw⟩,aR Y (aCn (Wk.agg (.r (.r (.r (.n .nil))))) (aO [] Y Y isAgg87 sizeOf87 (bK Y Y))),aA (.cons _ (.cons _ (.refl _))) (.refl _),by rw [cIs,if_pos J,hM.lo_name h3];rfl,Y⟩
  refine go 3 ?_
  refine bTy 8 [b2,b1,D,gg,gm,gf,gk,gl] [] #[true,true,true,true,true,true,true,true,false] B6 B6 B6 ?_
  refine tz [(0,true),(1,true),(2,true),(3,true),(4,true),(5,true)] 2 (go 7 ?_)
  refine tx 6 Y (cAm gs Y Y Y (by simp [hW.gg]) underlying74 underlying9 zeroValue3 Cf) (tz [(7,true)] 0 (go 2 ?_))
  refine ax ?_
  refine id ?_
  refine tz [(8,false)] 0 (go 2 ?_)
  refine ax (go 3 ?_)
  exact ⟨.inr Y,_,⟨A++⟨D,77,[Vm gg,Vm gm,Vm gf,Vm gl,Vm gk,c5,c6,c7,c8]⟩::B,rw⟩,aR Y (aCn (Wk.agg (.r (.r (.r (.n .nil))))) (aO [] Y Y isAgg87 sizeOf87 (bK Y Y))),aA (.cons _ (.cons _ (.refl _))) (.refl _),by rw [cIs,if_pos J,hM.gs_name h3 (by rw [cIj,if_pos J] at hE;exact hE)];rfl,Y⟩
 refine wcp false Y (eD h1) (go 26 λb3=>?_)
 refine qR 87 4 ?_
 refine bMj (α:=Value) (λ_ _=>True) (e.args.length) 42 (λg=>aY g++[b3,b2,b1]) (λk g=>⟨⟨b3,87,[Vi e.op,Vi e.num,Vs aK,.val g]⟩::⟨b2,87,[Vi 0,Vi 0,Vs aK,Nl]⟩::⟨b1,87,cU e⟩::A++⟨D,77,[Vm gg,Vm gm,Vm gf,Vm gl,Vm gk,c5,c6,c7,c8]⟩::B,⟨g,87,4,k,((e.args.take k).map (cFk l)).flatMap fO⟩::rw⟩) (λ_=>[(0,pP D),(4,pP b2),(7,pP b3),(40,.c (Sq fO e.args)),(41,nI e.args.length)]) (.slice none 0 0) trivial (cQf BU) ?_
 rintro k v hk -
 try dsimp only
 refine go 2 ?_
 by_cases h5:((k:Nat):Int)<((e.args.length:Nat):Int)
 ·refine wcp true Y (jZ h5) (go 10 ?_)
  refine wyz Y (bH fO cU e.args iU fP k Y Y Y Y J V runUnderlying85 sizeOf87) (go 5 λb4=>?_)
  refine bTy 7 [b4,b3,b2,b1,D] [] #[true,true,true,true,true,true,true,false,false] B6 B6 B6 ?_
  refine tz [(0,true),(1,true),(2,true),(3,true)] 3 (go 5 ?_)
  refine ox 4 Y Y (bV Y Y V call108 Y (ih J k J (_::_::_::_::A) (_::rw) hW.cons) ?_)
  rintro _ _ ⟨rfl,rfl⟩
  refine ox 5 Y Y (bDk (hf:=aV fO cU (cFk l e.args[k]) (fP _) Y Y) bDo ?_)
  refine ox 6 Y Y (bDm [] dFw Y (aFz fO 4 iU _) V B1 J (N:=k+1) Y (λhn b hb=>cZl (r:=(⟨v,87,4,k,((e.args.take k).map (cFk l)).flatMap fO⟩:bA)) hn hb) cFh.h (r:=((e.args.take (k+1)).map (cFk l)).flatMap fO) (cHm (cFk l) fO e.args k J) λw5=>?_)
  refine ax ?_
  refine id ?_
  refine tz [(7,true),(8,false)] 0 (go 3 ?_)
  refine ax (go 3 ?_)
  refine wad Y (go 2 ?_)
  exact ⟨J,w5,trivial,cQf (h1:=(.cons _ (.refl _))) (h:=aG Y (gQ J) (sA Y)) BP⟩
 refine wcp false Y (jQ h5) (go 11 ?_)
 obtain rfl:k=e.args.length:=J
 rw [List.take_length]
 refine aAg (cs':=[Vi e.op,Vi e.num,Vs aK,.sl e.args.length ((e.args.map (cFk l)).flatMap fO)]) [] 3 Y Y ?_
 show eQ prog _ _ ⟨_,_,⟨⟨b3,87,[Vi e.op,Vi e.num,Vs aK,.sl e.args.length ((e.args.map (cFk l)).flatMap fO)]⟩::⟨b2,87,[Vi 0,Vi 0,Vs aK,Nl]⟩::⟨b1,87,cU e⟩::A++⟨D,77,[Vm gg,Vm gm,Vm gf,Vm gl,Vm gk,c5,c6,c7,c8]⟩::B,rw⟩,_⟩ _
 refine go 5 ?_
 exact ⟨.inr Y,_,⟨A++⟨D,77,[Vm gg,Vm gm,Vm gf,Vm gl,Vm gk,c5,c6,c7,c8]⟩::B,rw⟩,aR Y (aO [_] Y Y isAgg87 sizeOf87 (bK Y Y)),aA (.cons _ (.cons _ (.cons _ (.refl _)))) (.refl _),by rw [cIs,if_neg J];show _=AT.agg [_,_,_,.sl (e.args.map (cFk l)).length _];rw [List.length_map];rfl,Y⟩
theorem cSj:∀(N:Nat)(e:aH),e.nodes <= N -> N <= 1000000000 -> ∀(A B:List Box)(D gg gm gf gk gl:Nat)(p:cK)(l:List cFc)(gs ms fs lk lo:Vis)(c5 c6 c7 c8:AC)(rw:List bA)(hM:MR gs ms fs lk lo l)(hW:MW gg gm gf gk gl gs ms fs lk lo rw)(hE:cFf l e=0),aL prog 108 [pP D,.agg (cU e)] [] ⟨A++⟨D,77,[Vm gg,Vm gm,Vm gf,Vm gl,Vm gk,c5,c6,c7,c8]⟩::B,rw⟩ λt s'=>t=.agg (cU (cFk l e)) /\ s'=⟨A++⟨D,77,[Vm gg,Vm gm,Vm gf,Vm gl,Vm gk,c5,c6,c7,c8]⟩::B,rw⟩
 |0,e,h,_=>Bm
 |N+1,e,h,hN=>λA B D gg gm gf gk gl p l gs ms fs lk lo c5 c6 c7 c8 rw hM hW hE=>by
  exact cUi A B D gg gm gf gk gl p l gs ms fs lk lo c5 c6 c7 c8 rw hM hW e J hE λh2 k hk A rw hW=>cSj N e.args[k] B0 J A B D gg gm gf gk gl p l gs ms fs lk lo c5 c6 c7 c8 rw hM hW (cSr l e.args (by rw [cIj,if_neg h2] at hE;exact hE) k hk)
end
end Go.Proofs.YtjgeihmhppadaaaGreatDoor
