import Derived.Test.YtjgeihmhppadaaaGreatDoorRG11J
set_option linter.all false
set_option synthInstance.maxHeartbeats 1000000
set_option synthInstance.maxSize 1000000
set_option maxHeartbeats 1600000
set_option maxRecDepth 100000
namespace Go.Proofs.YtjgeihmhppadaaaGreatDoor
open Go.Proofs.Tryz
open List (length_append length_cons length_nil mem_append mem_cons not_mem_nil append_assoc getElem_mem take_of_length_le)
section
open Go.RowKit
section
variable {P:Program}{U T:List Nat}{o:Oper}{n d:Nat}{bx:List Box}{rw:List bA}{ts:List (Nat×AT)}{K:AS -> Prop}{st:AS}{t:AT}
theorem bGr{g:Nat}{E:TypeId}{cs ds:List AC}{N C:Nat}{B:List Box}(i:Nat)(hi:look st.ts i=some (Cv (.slice (some ⟨g,0,none⟩) N C)))(hrow:st.s.boxes=⟨g,E,cs++ds⟩::B)(hC:N <= C)(hC2:C <= 9223372036854775807):Sub st {st with s:=⟨B,st.s.rows⟩,ts:=(i,.c (.sl N cs))::st.ts}:=λa w hs=>by
 have hsub:aAz st.s ⟨B,st.s.rows⟩:=aA (by rw [hrow];exact List.sublist_cons_self _ _) (List.Sublist.refl _)
 obtain ⟨h1,h2,h3⟩:=vU hsub a w hs
 refine ⟨⟨h1.df,h1.sz,λj x hx=>?_,h1.mem⟩,h2,h3⟩
 simp only [look] at hx
 split at hx
 ·rename_i he;subst he;cases hx
  obtain ⟨u,e1,e2⟩:=hs.tm i _ hi
  have:=e2.val
  subst this
  obtain ⟨us,⟨fz,-,hh⟩,hrep⟩:=hs.mem.box ⟨g,E,cs++ds⟩ C1
  have hlen:us.length=cs.length+ds.length:=by have:=hrep.len;simpa using this
  have hr2:=hrep.take cs.length
  rw [List.take_left] at hr2
  have hnm:g∉(⟨B,st.s.rows⟩:Sto).bl:=by
   have hnd:=hs.mem.nodup
   have hbl:st.s.bl=g::(⟨B,st.s.rows⟩:Sto).bl:=Ei
   rw [hbl] at hnd
   exact (List.nodup_cons.1 hnd).1
  refine ⟨_,e1,.c _ _ (.sl _ _ (us.take cs.length) _ ⟨_,_,Y,hC,.inr ⟨g,0,Y,λj x hj=>?_⟩⟩ hr2.len (λk h h'=>(hr2.at_ k h h').mono (up_sub h2)) (λ_ _ _ h=>by cases h;exact hC2))⟩
  rw [eW _ _ _ hnm]
  unfold World.cell?
  simp only [hh]
  rw [List.getElem?_take] at hj
  split at hj
  ·simpa using hj
  cases hj
 exact h1.tm j x hx
theorem bHa{ops:Array Oper}{l:List Oper}{Q:Exit -> AS -> Prop}{g:Nat}{E:TypeId}{cs ds:List AC}{N C:Nat}(i:Nat)(hi:look ts i=some (Cv (.slice (some ⟨g,0,none⟩) N C)))(hC:N <= C)(hC2:C <= 9223372036854775807)(h:eQ P ops l ⟨n,T,⟨bx,rw⟩,(i,.c (.sl N cs))::ts⟩ Q):eQ P ops l ⟨n,T,⟨⟨g,E,cs++ds⟩::bx,rw⟩,ts⟩ Q:=
 uQ (bGr (st:=⟨n,T,⟨⟨g,E,cs++ds⟩::bx,rw⟩,ts⟩) i hi rfl hC hC2) h
theorem bG0(w:World){a:Act}{K:Act -> World -> Prop}{Q:Exit -> Act -> World -> Prop}(s x:Operand)(t u:TypeId)
  (ho:o.op=.call {callee:=.builtin .append,args:=#[s,x],argTypes:=#[t,u]})
  (e:TypeId) (i:TypeInfo) (ht:P.underlying t=some (.slice e)) (hu:P.underlying u=some .string) (hi:P.info? e=some i) (hz:i.zero=some (.int .u8 0)) (hsize:i.size=1) (hby:i.bytes=1)
  (v:Value) (n:Nat) (xs:List Value) (hs:a.eval s=v) (hown:w.ownsRow 0 e 1 v n xs) (z:ByteArray) (hx:a.eval x=.string z) (h63:n+z.size <= maxLen) (hbytes:n+z.size <= 140737488355328)
  (h:∀v' w',w'.ownsRow 0 e 1 v' (n+z.size) (xs++Lib.strCells z) -> w.grownBy w' v.ownBlock -> (∀g,v'.ownBlock=some g -> v.ownBlock=some g∨w.heap.size <= g) -> K (a.put o.dst v') w'):o.wp P a w K Q:=by
 obtain ⟨v',w',hr,h2,h3,h4⟩:=Lib.run_append_own_string (P:=P) w 0 t u o.type e i ht hu hi hz hsize hby v n xs hown z h63 hbytes (Nat.zero_le _)
 have hfr:∀g,v'.ownBlock=some g -> v.ownBlock=some g∨w.heap.size <= g:=by
  rcases hown.2 with ⟨hv0,hn0⟩|⟨g,cap,cur,hv0,hbg,hg,hnc,hcm,hcs,htake⟩
  ·obtain ⟨v2,w2,hr2,h5,_,_⟩:=Lib.run_append_own_string (P:=P) w w.heap.size t u o.type e i ht hu hi hz hsize hby v n xs ⟨hown.1,.inl ⟨hv0,hn0⟩⟩ z h63 hbytes (Nat.le_refl _)
   rw [hr] at hr2
   injection hr2 with e1 e2
   subst e1
   intro k hk
   exact Or.inr (h5.lt k hk).1
  subst hv0
  by_cases hroom:n+z.size <= cap
  ·have hr2:=Lib.run_append_room_string (P:=P) w t u o.type e i ht hu hi hsize g n cap cur hg z hroom J
   rw [hr] at hr2
   injection hr2 with e1 e2
   subst e1
   intro k hk
   exact .inl hk
  have holds:∀j u,xs[j]?=some u -> w.cell? ((⟨g,0,none⟩:Addr).add j)=some u:=hown.cells (g:=g) Y
  have hr2:=Lib.run_append_grow_string (P:=P) w t u o.type e i (.int .u8 0) ht hu hi hz ⟨g,0,none⟩ n cap xs (by rw [hsize];exact hown.1) holds z J (by simp only [maxLen] at h63;omega) (by rw [hby];exact growslice_fits J J)
  rw [hr] at hr2
  injection hr2 with e1 e2
  subst e1
  intro k hk
  simp [Value.ownBlock] at hk
  exact .inr J
 unfold Oper.wp execOp
 simp only [ho,resolve,invoke,builtin,Sem.run_bind,Sem.run_pure,Result.andThen_ok,List.map_toArray,List.map_cons,List.map_nil,hs,hx,hr]
 exact h v' w' h2 h3 hfr
theorem bHb{E E2 e:TypeId}{x y:Operand}{k:Nat}{v:Value}{cs ds r:List AC}(A:List bA)(i:TypeInfo){B:List bA}{z:ByteArray}(ho:o.op=.call {callee:=.builtin .append,args:=#[x,y],argTypes:=#[E,E2]})(hd:o.dst=some d)(hn:d<n)
  (hx:evA ⟨n,T,⟨bx,A++⟨v,e,1,k,cs⟩::B⟩,ts⟩ x=some (Cv v)) (hy:evA ⟨n,T,⟨bx,A++⟨v,e,1,k,cs⟩::B⟩,ts⟩ y=some (Cs z)) (hu:P.underlying E=some (.slice e)) (hu2:P.underlying E2=some .string) (hi:P.info? e=some i) (hz:i.zero=some (.int .u8 0)) (hsz:i.size=1) (hby:i.bytes=1)
  (hlen:k+z.size <= maxLen) (hbytes:k+z.size <= 140737488355328) {N:Nat} (hN:k+z.size=N) (hds:iF z.data.toList=ds) (hU:(⟨bx,A++⟨v,e,1,k,cs⟩::B⟩:Sto).bl.Nodup -> ∀b,b∈aY v -> b∈U) (hT:∀b,b∈aY v -> b∈T) (hr:cs++ds=r)
  (h:∀v',K ⟨n,aY v'++T,⟨bx,A++⟨v',e,1,N,r⟩::B⟩,(d,Cv v')::ts⟩):AO P U o ⟨n,T,⟨bx,A++⟨v,e,1,k,cs⟩::B⟩,ts⟩ K:=by
 subst hr;subst hN;subst hds
 refine bGt A hd hn Y V (λa w hs us hown=>⟨Lib.strCells z,?_,λKK QQ hK=>bG0 w x y E E2 ho e i hu hu2 hi hz hsz hby v k us (hs.val hx) hown z (hs.val hy) hlen hbytes hK⟩) hU hT h
 have hR:=gU (bI (⟨bx,A++⟨v,e,1,k,cs⟩::B⟩:Sto).bl w) (Lib.strCells z) AW
 have e1:(Lib.strCells z).map AC.val=iF z.data.toList:=by simp [Lib.strCells,iF]
 rw [e1] at hR
 exact hR
end
end
section
open Go.RowKit Go.Sort
theorem bLy:∀u:Nat,Lib.decDigits u=cO u:=λu=>by
 induction u using Nat.strongRecOn with
 |_ u ih=>
  rw [Lib.decDigits,cO]
  by_cases h:u<10
  ·rw [dif_pos h,if_pos h]
  rw [dif_neg h,if_neg h,ih (u/10) J]
theorem bQn(n:Int):Lib.itoa n=eH n:=by
 unfold Lib.itoa eH
 rw [bLy,bLy]
 by_cases h:n<0
 ·rw [if_pos h,if_pos h]
 rw [if_neg h,if_neg h,show n.toNat=n.natAbs by omega]
theorem bOw(w:World)(k:Nat)(os:Array Obj):Below w.heap.size w (grow (w.drewN k) os):=
 ⟨rfl,rfl,rfl,by show w.heap.size <= (w.heap++os).size;rw [Array.size_append];omega,λi hi=>by show (w.heap++os)[i]?=_;rw [Array.getElem?_append_left hi]⟩
section
variable {P:Program}{U T:List Nat}{o:Oper}{n d:Nat}{ts:List (Nat×AT)}{s:Sto}{K:AS -> Prop}{st:AS}{p:World -> Prop}{t0 u:AT}{us:List AT}{bx:List Box}{rw:List bA}{ops:Array Oper}{l:List Oper}{Q:Exit -> AS -> Prop}
theorem bOy{E E':TypeId}{x:Operand}{k k':IntKind}{m r:Int}(ho:o.op=.convert E E' x)(hx:evA st x=some (Cv (.int k m)))(hE:(P.underlying E).isSome=true)(hE':P.underlying E'=some (.int (P.intKind E')))(hk8:P.intKind E'=k')(hr:k'.wrap m=r):AY P U o st (Cv (.int k' r)):=by
 intro a w hs _
 refine ⟨_,.c _ _ (.val _ Y),λw' _=>?_⟩
 have h1:=run_convert_int (P:=P) (w:=w') E E' k m hE hE'
 simp only [execOp,ho,Sem.run_bind,hs.val hx]
 rw [h1,hk8,hr];rfl
theorem bSh{m:Int}(h1:0 <= m)(h2:m <= 18446744073709551615):IntKind.u64.wrap m=m:=by
 have:IntKind.u64.wrap m=m%18446744073709551616:=by unfold IntKind.wrap;simp [IntKind.signed,IntKind.bits]
 rw [this];omega
theorem bNr{t e:TypeId}{x y':Operand}{b h N:Nat}{k2:IntKind}{j:Int}(ho:o.op=.slice t x none (some y') none)(hx:evA st x=some (pP b))(hy':evA st y'=some (Cv (.int k2 j)))(hj:j=h)(h2:h <= N)(h0:0<N)
  (ht:∀w,(underlying t).run P w=.ok (.array N e) w) (hz:∀w,(sizeOf e).run P w=.ok 1 w):AY P U o st (Cv (.slice (some ⟨b,0,none⟩) h N)):=
 fW rfl λa w hs w'=>by
  subst hj
  simp only [execOp,ho,hs.val hx,hs.val hy',Instr.sliceAt,Option.map_some,Option.map_none,Sem.run_bind,Sem.run_pure,Result.andThen_ok,ht,Instr.sureAddr,hz]
  simp [go_sem,Instr.sliceBounds,asIntOf]
  omega
theorem bMs{st:AS}{F:FuncId}{cap:Array Operand}{vs:List Value}(ho:o.op=.makeFunc (.func F) #[] cap)(hc:cap.toList.map (evA st)=vs.map λv=>some (Cv v)):AY P U o st (Cv (.func (.func F) #[] vs.toArray)):=
 fW rfl λa w hs w'=>by
  have e:cap.map a.eval=vs.toArray:=by
   rw [←Array.toList_inj,Array.toList_map]
   have:∀(l:List Operand)(vs:List Value),l.map (evA st)=vs.map (λv=>some (Cv v)) -> l.map a.eval=vs:=by
    intro l
    induction l with
    |nil=>intro vs h;cases vs with|nil=>rfl|cons=>cases h
    |cons x l ih=>
     intro vs h
     cases vs with
     |nil=>cases h
     |cons v vs=>
      simp only [List.map_cons,List.cons.injEq] at h⊢
      exact ⟨hs.val h.1,ih vs h.2⟩
   exact this _ _ hc
  simp only [execOp,ho,Instr.makeFunc,e]
  simp [go_sem]
theorem bNo{F:FuncId}{x:Operand}{cap:Array Value}{ars:Array Operand}{tys:Array TypeId}{b c:Bool}(i0:Nat)(h0:(fC ops o ⟨n,T,s,ts⟩,o.op,evA ⟨n,T,s,ts⟩ x,o.dst,Nat.blt d n,look ts i0)=(some true,.call {callee:=.value x,args:=ars,argTypes:=tys},some (Cv (.func (.func F) #[] cap)),some d,true,some (.ride t0 p)))
  (hcf:∀args w,(callFunc F args).run P w=.ok (.enter F args) w) (has:ars.toList.map (evA ⟨n,T,s,ts⟩)=[u].map some) (hc:aL P F (.ride u p::cap.toList.map cst) [] s λt s'=>t=Cb b /\ s'=s) (hb:b=c) (h:eQ P ops l ⟨n,T,s,(d,Cb c)::ts⟩ Q):eQ P ops (o::l) ⟨n,T,s,ts⟩ Q:=by
 simp only [Prod.mk.injEq] at h0
 subst hb
 exact wo h0.1 (bRz (us:=[]) i0 [] h0.2.1 h0.2.2.1 h0.2.2.2.1 (Nat.le_of_ble_eq_true h0.2.2.2.2.1) hcf h0.2.2.2.2.2 has hc noT noT (λ_=>noT) λr s' ⟨h1,h2⟩=>Ej)
theorem bR5(i j:Nat){c:Code}{t1:AT}(hi:look ts i=some (.ride t0 p))(hj:look ts j=some t1)(h:AWp P c ⟨n,T,s,(j,.ride t1 p)::ts⟩ Q):AWp P c ⟨n,T,s,ts⟩ Q:=by
 refine zU (st':=⟨n,T,s,(j,.ride t1 p)::ts⟩) (λa w hs=>?_) h
 refine ⟨⟨hs.df,hs.sz,λk x hx=>?_,hs.mem⟩,λ_ h=>h,λ_ h=>h⟩
 simp only [look] at hx
 split at hx
 ·rename_i he;subst he;cases hx
  obtain ⟨v,e1,e2⟩:=hs.tm j t1 hj
  obtain ⟨v0,-,e3⟩:=hs.tm i _ hi
  exact ⟨v,e1,bL3 e3 e2⟩
 exact hs.tm k x hx
theorem bR3(E:TypeId)(z:Nat)(h:eQ P ops l ⟨n,T,⟨bx,⟨.slice none 0 0,E,z,0,[]⟩::rw⟩,ts⟩ Q):eQ P ops l ⟨n,T,⟨bx,rw⟩,ts⟩ Q:=uQ (aOb (st:=⟨n,T,⟨bx,rw⟩,ts⟩) E z) h
theorem bMu{F:FuncId}{ars:Array Operand}{tys:Array TypeId}{v:Value}{E:TypeId}{z k k':Nat}{cs cs':List AC}(i0:Nat)(h0:(o.op,o.dst,Nat.blt d n,look ts i0)=(.call {callee:=.value (.func F),args:=ars,argTypes:=tys},some d,true,some (.ride t0 p)))
  (hcf:∀args w,(callFunc F args).run P w=.ok (.enter F args) w) (has:ars.toList.map (evA ⟨n,T,⟨bx,⟨v,E,z,k,cs⟩::rw⟩,ts⟩)=(u::us).map some)
  (hc:aL P F (.ride u p::us) (aY v) ⟨bx,⟨v,E,z,k,cs⟩::rw⟩ λt s'=>∃v',t=Cv v' /\ s'=⟨bx,⟨v',E,z,k',cs'⟩::rw⟩) (hT:∀b,b∈aY v -> b∈T) (hU:(⟨bx,⟨v,E,z,k,cs⟩::rw⟩:Sto).bl.Nodup -> ∀b,b∈aY v -> b∈U)
  (h:∀v',K ⟨n,aY v'++T,⟨bx,⟨v',E,z,k',cs'⟩::rw⟩,(d,Cv v')::ts⟩):AO P U o ⟨n,T,⟨bx,⟨v,E,z,k,cs⟩::rw⟩,ts⟩ K:=by
 simp only [Prod.mk.injEq] at h0
 obtain ⟨ho,hd,hn,hl⟩:=h0
 intro a w hs KK QQ' hK
 obtain ⟨h1,h2⟩:=rU hs has
 obtain ⟨v0,-,hv0⟩:=hs.tm i0 _ hl
 have hTb:∀b,b∈aY v -> b∈(⟨bx,⟨v,E,z,k,cs⟩::rw⟩:Sto).bl:=λb hb=>by unfold Sto.bl;simp [hb]
 unfold Oper.wp
 rw [show (execOp a.eval o).run P w=.ok (.enter F (ars.toList.map a.eval).toArray) w from by
  simp only [execOp,ho,resolve,Deferred.ofValue,Act.eval,Sem.run_bind,Sem.run_pure,Result.andThen_ok,invoke]
  rw [hcf]
  congr 2
  rw [←Array.toList_inj];simp,Oper.upon_enter]
 refine (hc _ w hs.mem hTb h1 (λi hi hi'=>?_)).mono ?_
 ·match i,hi with
  |0,hi=>exact bL3 hv0 (h2 0 G0 hi')
  |i+1,hi=>exact h2 (i+1) B3 hi'
 ·rintro en w' ⟨r,vr,s',rfl,⟨v',rfl,rfl⟩,hr,hm,hk,hb⟩
  dsimp only
  rw [hd]
  have s1:=hs.step (aY v'++T) (hk.mono hTb) hm hb
  refine hK _ _ _ (h v') (s1.put (Nat.le_of_ble_eq_true hn) hr) ⟨hk.mono hTb,hk.mono hT,hb,λb hb2=>?_⟩ (hk.mono (hU hs.mem.nodup))
  rcases mem_append.1 hb2 with hb2|hb2
  ·have e1:b∈(⟨bx,⟨v',E,z,k',cs'⟩::rw⟩:Sto).bl:=Dg
   exact (hb b e1).imp (λh9=>hT b (aFb (bx:=bx) (bx':=bx) Y hm.nodup hb2 h9)) id
  exact .inl hb2
theorem bPe{F:FuncId}{x:Operand}{cap:Array Value}{ars:Array Operand}{tys:Array TypeId}{v:Value}{E:TypeId}{z k k':Nat}{cs cs':List AC}(i0:Nat)(h0:(o.op,evA ⟨n,T,⟨bx,⟨v,E,z,k,cs⟩::rw⟩,ts⟩ x,o.dst,Nat.blt d n,look ts i0)=(.call {callee:=.value x,args:=ars,argTypes:=tys},some (Cv (.func (.func F) #[] cap)),some d,true,some (.ride t0 p)))
  (hcf:∀args w,(callFunc F args).run P w=.ok (.enter F args) w) (has:ars.toList.map (evA ⟨n,T,⟨bx,⟨v,E,z,k,cs⟩::rw⟩,ts⟩)=(u::us).map some)
  (hc:aL P F (.ride u p::(us++cap.toList.map cst)) (aY v) ⟨bx,⟨v,E,z,k,cs⟩::rw⟩ λt s'=>∃v',t=Cv v' /\ s'=⟨bx,⟨v',E,z,k',cs'⟩::rw⟩) (hT:∀b,b∈aY v -> b∈T) (hU:(⟨bx,⟨v,E,z,k,cs⟩::rw⟩:Sto).bl.Nodup -> ∀b,b∈aY v -> b∈U)
  (h:∀v',K ⟨n,aY v'++T,⟨bx,⟨v',E,z,k',cs'⟩::rw⟩,(d,Cv v')::ts⟩):AO P U o ⟨n,T,⟨bx,⟨v,E,z,k,cs⟩::rw⟩,ts⟩ K:=by
 simp only [Prod.mk.injEq] at h0
 obtain ⟨ho,hx,hd,hn,hl⟩:=h0
 intro a w hs KK QQ' hK
 obtain ⟨h1,h2⟩:=rU hs has
 obtain ⟨v0,-,hv0⟩:=hs.tm i0 _ hl
 obtain ⟨d1,d2⟩:=aA7 (bI (⟨bx,⟨v,E,z,k,cs⟩::rw⟩:Sto).bl w) cap.toList
 have hTb:∀b,b∈aY v -> b∈(⟨bx,⟨v,E,z,k,cs⟩::rw⟩:Sto).bl:=λb hb=>by unfold Sto.bl;simp [hb]
 have h3:(ars.toList.map a.eval).length=(AT.ride u p::us).length /\ ∀i (h:i<(AT.ride u p::us).length) (h':i<(ars.toList.map a.eval).length),dO (bI (⟨bx,⟨v,E,z,k,cs⟩::rw⟩:Sto).bl w) (AT.ride u p::us)[i] (ars.toList.map a.eval)[i]:=by
  refine ⟨h1,λi hi hi'=>?_⟩
  match i,hi with
  |0,hi=>exact bL3 hv0 (h2 0 G0 hi')
  |i+1,hi=>exact h2 (i+1) B3 hi'
 obtain ⟨g3,g4⟩:=aBo h3.1 h3.2 d1 d2
 unfold Oper.wp
 rw [show (execOp a.eval o).run P w=.ok (.enter F (ars.toList.map a.eval++cap.toList).toArray) w from by
  simp only [execOp,ho,resolve,hs.val hx,Deferred.ofValue,Sem.run_bind,Sem.run_pure,Result.andThen_ok,invoke]
  rw [hcf]
  congr 2
  rw [←Array.toList_inj];simp,Oper.upon_enter]
 refine (hc _ w hs.mem hTb g3 g4).mono ?_
 rintro en w' ⟨r,vr,s',rfl,⟨v',rfl,rfl⟩,hr,hm,hk,hb⟩
 dsimp only
 rw [hd]
 have s1:=hs.step (aY v'++T) (hk.mono hTb) hm hb
 refine hK _ _ _ (h v') (s1.put (Nat.le_of_ble_eq_true hn) hr) ⟨hk.mono hTb,hk.mono hT,hb,λb hb2=>?_⟩ (hk.mono (hU hs.mem.nodup))
 rcases mem_append.1 hb2 with hb2|hb2
 ·have e1:b∈(⟨bx,⟨v',E,z,k',cs'⟩::rw⟩:Sto).bl:=Dg
  exact (hb b e1).imp (λh9=>hT b (aFb (bx:=bx) (bx':=bx) Y hm.nodup hb2 h9)) id
 exact .inl hb2
end
theorem bNn(w:World)(b:Nat)(cur:Array Value)(T:TypeId)(fz:Nat×Nat)(f:Array Value -> Array Value)(h:w.heap[b]?=some (.cells cur T fz)):mapBlock w b f=w.setRow b (f cur):=by
 unfold mapBlock World.setRow
 congr 1
 apply Array.ext_getElem?
 intro k
 simp only [Array.getElem?_modify]
 by_cases hk:b=k
 ·subst hk;rw [if_pos rfl,if_pos rfl,h];rfl
 rw [if_neg hk,if_neg hk]
theorem Mem.drewN{s:Sto}{w:World}(h:Mem s w):∀k,Mem s (w.drewN k)
 |0=>h
 |k+1=>(Mem.drewN h k).drew
theorem bRk(b:Nat)(T:TypeId)(cs:List UInt8)(u N:Nat)(bx:List Box)(rw:List bA)(hu:u<18446744073709551616)(hn:Lib.nDigits u <= cs.length)(hc:cs.length <= 100):aL prog 191 [Cv (.slice (some ⟨b,0,none⟩) (Lib.nDigits u) N),Cv (.int .u64 ((u:Nat):Int))] [b] ⟨⟨b,T,iF cs⟩::bx,rw⟩ λt s'=>t=.tup [] /\ s'=⟨⟨b,T,iF (cO u)++iF (cs.drop (Lib.nDigits u))⟩::bx,rw⟩:=by
 rw [show iF (cO u)++iF (cs.drop (Lib.nDigits u))=iF (cO u++cs.drop (Lib.nDigits u)) by unfold iF;rw [List.map_append]]
 intro vs w hm _ hl hr
 obtain ⟨v1,v2,rfl⟩:∃v1 v2,vs=[v1,v2]:=by
  match vs,hl with
  |[x,y],_=>exact ⟨x,y,rfl⟩
 obtain rfl:v1=_:=(show dO _ (.c (.val (.slice (some ⟨b,0,none⟩) (Lib.nDigits u) N))) v1 from hr 0 G0 G0).val
 obtain rfl:v2=_:=(show dO _ (.c (.val (.int .u64 ((u:Nat):Int)))) v2 from hr 1 G0 G0).val
 obtain ⟨us,⟨fz,hfz,h1⟩,h2⟩:=hm.box ⟨b,T,iF cs⟩ G0
 obtain rfl:us=cC cs:=yC (vs:=cC cs) (by rw [show (cC cs).map AC.val=iF cs by simp [cC,iF]];exact h2)
 have hlen:(cC cs).length=cs.length:=by simp [cC]
 have hbr:=setRow_heap
 have hH:Holds (λ(b:UInt8)=>Value.int .u8 (b.toNat:Int)) w b 0 (cs.take (Lib.nDigits u)).toArray:=by
  intro j hj
  have hj1:j<Lib.nDigits u:=by simpa [Nat.min_eq_left hn] using hj
  have hj2:j<cs.length:=J
  refine ⟨?_,?_⟩
  ·rw [getElem!_pos _ j hj]
   unfold World.cell?
   simp only [h1]
   simp [cC,hj2]
  obtain ⟨lo,up⟩:=fz
  simp only [World.frozen?,h1,Bool.and_eq_false_iff,decide_eq_false_iff_not]
  rcases hfz with h|h
  ·cases h;exact .inr J
  dsimp only at h;rw [hlen] at h;exact .inl J
 have hsz:(cs.take (Lib.nDigits u)).toArray.size=Lib.nDigits u:=by simp [Nat.min_eq_left hn]
 have hcall:=Tryz.internal_strconv_formatBase10 b 0 N u (cs.take (Lib.nDigits u)).toArray w hH (by rw [hsz];exact Lib.lt_pow_nDigits u) hu (by rw [hsz];omega)
 rw [hsz] at hcall
 refine hcall.mono ?_
 rintro e w' ⟨rfl,k,v',dk,rfl,hinv⟩
 have hdk:dk.toList=cO u:=by
  rw [←bLy]
  have hs1:dk.size=Lib.nDigits u:=hinv.size
  refine List.ext_getElem (by rw [Lib.decDigits_length,Array.length_toList,hs1]) λj h3 h4=>?_
  rw [Lib.row_is_numeral hinv j h4,getElem!_pos dk j DL];simp
 have hs1:dk.size=Lib.nDigits u:=hinv.size
 have hput:putCells (λ(b:UInt8)=>Value.int .u8 (b.toNat:Int)) 0 dk (cC cs).toArray=(cC (cO u++cs.drop (Lib.nDigits u))).toArray:=by
  apply Array.ext_getElem?
  intro i
  simp only [putCells,Array.getElem?_mapIdx,List.getElem?_toArray]
  unfold cC
  rw [List.getElem?_map,List.getElem?_map]
  have hdl:(cO u).length=Lib.nDigits u:=by rw [←hdk];simpa using hs1
  by_cases hi:i<Lib.nDigits u
  ·rw [List.getElem?_append_left (by rw [hdl];exact hi),List.getElem?_eq_getElem (show i<cs.length by omega),List.getElem?_eq_getElem (by rw [hdl];exact hi)]
   simp only [Option.map_some,Nat.zero_le,true_and,Nat.zero_add,Nat.sub_zero]
   rw [if_pos Fj,getElem!_pos dk i Fj]
   have:dk[i]'(by rw [hs1];exact hi)=(cO u)[i]'(by rw [hdl];exact hi):=by simp only [←hdk];simp
   rw [this]
  rw [List.getElem?_append_right (by rw [hdl];omega),List.getElem?_drop,hdl,show Lib.nDigits u+(i-Lib.nDigits u)=i by omega]
  cases hci:cs[i]? with
  |none=>rfl
  |some c=>
   simp only [Option.map_some,Nat.zero_le,true_and,Nat.zero_add]
   rw [if_neg Fj]
 have hw1:putRow (λ(b:UInt8)=>Value.int .u8 (b.toNat:Int)) w b 0 dk=w.setRow b (cC (cO u++cs.drop (Lib.nDigits u))).toArray:=by
  unfold putRow
  rw [bNn w b _ T fz _ h1,hput]
 rw [hw1]
 have hlen2:(cC (cO u++cs.drop (Lib.nDigits u))).length=(cC cs).length:=by
  have hdl:(cO u).length=Lib.nDigits u:=by rw [←hdk];simpa using hs1
  simp [cC,hdl];omega
 have hR:fG (bI (⟨⟨b,T,iF cs⟩::bx,rw⟩:Sto).bl w) (iF (cO u++cs.drop (Lib.nDigits u))) (cC (cO u++cs.drop (Lib.nDigits u))):=by
  have h9:=gU (bI (⟨⟨b,T,iF cs⟩::bx,rw⟩:Sto).bl w) (cC (cO u++cs.drop (Lib.nDigits u))) AW
  rw [show (cC (cO u++cs.drop (Lib.nDigits u))).map AC.val=iF (cO u++cs.drop (Lib.nDigits u)) by unfold cC iF;rw [List.map_map];rfl] at h9
  exact h9
 have hm1:=hm.setRow (A:=[]) (B:=bx) Y hfz hlen2 h1 hR
 have hk1:=oI w b (cC (cO u++cs.drop (Lib.nDigits u))).toArray
 refine ⟨_,_,_,Y,⟨Y,Y⟩,.tup [] [] Y D8,hm1.drewN k,hk1.drewN k,λb' hb'=>.inl ?_⟩
 unfold Sto.bl at hb'⊢
 exact hb'
theorem bMa{u:Nat}(h:u<18446744073709551616):1 <= Lib.nDigits u /\ Lib.nDigits u <= 20:=by
 refine ⟨Lib.nDigits_pos u,?_⟩
 by_cases h1:1 <= u
 ·have h2:=Lib.numDigits_eq u h1 h
  have h3:(if 10 ^ Lib.l10 (Lib.bitLen u) <= u then 1 else 0) <= 1:=by split<;>omega
  omega
 rw [Lib.nDigits_small J];omega
theorem bL6(u:Nat):(cO u).length=Lib.nDigits u:=by rw [←bLy];exact Lib.decDigits_length u
theorem bQp(i:Nat)(h:i<100)(s:Sto):aL prog 189 [nI i] [] s λt s'=>t=Cs (bytes (cO i)) /\ s'=s:=
 aP3 (us:=[.int .i64 ((i:Nat):Int)]) rfl rfl (λw=>(Tryz.internal_strconv_small i h w).mono λe w' ⟨h1,h2⟩=>⟨by rw [h1,bLy];rfl,h2.symm⟩) s
theorem bP7(u:Nat)(h1:1 <= u)(h2:u<18446744073709551616)(s:Sto):aL prog 190 [bK5 (Cv (.int .u64 ((u:Nat):Int)))] [] s λt s'=>t=Ci ((Lib.nDigits u:Nat):Int) /\ s'=s:=
 bNt (us:=[]) rfl (λw he=>(Tryz.internal_strconv_numDigits u h1 h2 w he.tab).mono λe w' ⟨h1,h2⟩=>⟨h1,h2.symm⟩) s
theorem bLc(a b:List UInt8):iF a++iF b=iF (a++b):=by unfold iF;rw [List.map_append]
instance bSl:eM prog 250 (iF (List.replicate 24 0)):=⟨_,zeroValue250,rfl⟩
end
section
open Go.RowKit
theorem bPs(n:Int)(h0:fit n)(s:Sto):aL prog 123 [bK5 (Ci n)] [] s λt s'=>t=Cs (bytes (eH n)) /\ s'=s:=by
 intro vs w hm _ hl hr
 obtain ⟨v,rfl⟩:∃v,vs=[v]:=by
  cases vs with
  |nil=>cases hl
  |cons v vs=>cases vs with
   |nil=>exact ⟨v,rfl⟩
   |cons _ _=>simp at hl
 have h1:dO (bI s.bl w) (bK5 (Ci n)) v:=hr 0 G0 G0
 obtain rfl:=(bPv _ _ h1).val
 refine (Tryz.strconv_Itoa n h0.1 h0.2 w (bMx h1).tab).mono ?_
 rintro e w' ⟨rfl,k,os,rfl⟩
 obtain ⟨hk,hm'⟩:=aBl hm (bOw w k os)
 have he:bytes (eH n)=⟨(Lib.itoa n).toArray⟩:=by rw [bQn];rfl
 rw [he]
 exact ⟨_,_,s,Y,⟨Y,Y⟩,dO.c _ _ (.val _ Y),hm',hk,λb hb=>.inl hb⟩
def okA(W:Nat)(a:Option Addr):Prop:=a=none∨a=some ⟨W,0,none⟩
def nz(bs:List UInt8)(v:Value):Prop:=bs=[] -> v=.slice none 0 0
abbrev WS(A:List Box)(W m:Nat)(a:Option Addr)(v:Value)(bs:List UInt8)(B:List Box)(rw:List bA):Sto:=⟨A++⟨W,181,[.val (.pointer a),.val v,nC m]⟩::B,⟨v,5,1,bs.length,iF bs⟩::rw⟩
instance bSk:Cst .nilIface (Cv .nilIface):=⟨rfl⟩
section
variable {P:Program}{U T:List Nat}{o:Oper}{n d:Nat}{ts:List (Nat×AT)}{s:Sto}{K:AS -> Prop}{st:AS}{bx:List Box}{rw:List bA}{ops:Array Oper}{l:List Oper}{Q:Exit -> AS -> Prop}
theorem bNp{t yt te:TypeId}{j:TypeInfo}{x y:Operand}{q:Option Addr}(ho:o.op=.binOp .eql t x y yt)(hx:evA st x=some (Cv (.pointer q)))(hy:evA st y=some (Cv (.pointer none)))(hp:P.underlying t=some (.pointer te))(hte:P.info? te=some j):AY P U o st (Cb q.isNone):=
 fW rfl λa w hs w'=>by
  have h:∀d:Nat,(Op.equalIn (d+1) t (.pointer q) (.pointer none)).run P w'=.ok q.isNone w':=λd=>by
   cases q<;>simp [Op.equalIn,run_underlying hp,sizeOf,typeInfo,hte,samePointer]
  have h2:(Op.equal t (.pointer q) (.pointer none)).run P w'=.ok q.isNone w':=h 9999
  generalize hg:Op.equal t (.pointer q) (.pointer none)=E at h2
  simp only [execOp,ho,hs.val hx,hs.val hy]
  simp_all [go_sem,eqGuard,binOp]
theorem bQ4{t yt te:TypeId}{j:TypeInfo}{x y:Operand}{q:Addr}(ho:o.op=.binOp .neq t x y yt)(hx:evA st x=some (Cv (.pointer (some q))))(hy:evA st y=some (Cv (.pointer (some q))))(hp:P.underlying t=some (.pointer te))(hte:P.info? te=some j):AY P U o st (Cb false):=
 fW rfl λa w hs w'=>by
  have h2:=Lib.run_neq_ptr_same w' q hp hte
  simp only [execOp,ho,hs.val hx,hs.val hy]
  simp [go_sem,eqGuard,h2]
theorem bP6 {F : FuncId} {fn : Func} {x : Operand} {tys : Array TypeId} {t : AT} (ho : o.op = .call { callee := .value (.func F), args := #[x], argTypes := tys }) (hx : evA st x = some t) (hf : P.funcs[F]? = some fn) (hname : (fn.name == "runtime.NumGoroutine") = false) (hb : fn.body.isNone = true) (hn : Extern.findNext fn = none) (he : Extern.find fn = some Extern.AbiNoEscape.same) : AY P U o st t := by
 intro a w hs _
 refine ⟨a.eval x,hs.ev hx,λw' _=>?_⟩
 simp only [execOp,ho,resolve,Deferred.ofValue,Act.eval,Sem.run_bind,Sem.run_pure,Result.andThen_ok,invoke,List.map_toArray,List.map_cons,List.map_nil]
 have h1:=run_callFunc_extern hf hname hb hn he #[a.eval x] w'
 rw [Lib.run_noEscape] at h1
 simp only [Result.andThen_ok] at h1
 simpa [Act.eval] using h1
theorem bNs{w w':World}{U:List Nat}{b:Nat}{T:TypeId}{cs:List AC}(hm:Mem s w)(hb:(⟨b,T,cs⟩:Box)∈s.boxes)(hk:cW U w w')(hU:b∉U):w'.shape? b=some (T,cs.length):=by
 obtain ⟨us,⟨fz,-,h1⟩,h2⟩:=hm.box _ hb
 have h3:w'.heap[b]?=_:=(hk.block b (hm.lt b (List.mem_append_left _ (List.mem_map.2 ⟨_,hb,Y⟩))) hU).trans h1
 unfold World.shape?
 rw [h3]
 simp [h2.len]
theorem bR9{E E' te:TypeId}{j:TypeInfo}{x:Operand}{b:Nat}{T0:TypeId}{cs:List AC}(A:List Box){B:List Box}(ho:o.op=.convert E E' x)(hx:evA st x=some (pP b))(hb:st.s.boxes=A++⟨b,T0,cs⟩::B)(hE:P.underlying E=some (.pointer te))(hE':P.underlying E'=some .unsafePointer)(ht:P.info? te=some j)(hj:j.size≠0)(hl:0<cs.length)(hU:b∉U):AY P U o st (pP b):=by
 intro a w hs _
 refine ⟨_,.c _ _ (.val _ Y),λw' hk=>?_⟩
 have hsh:=bNs hs.mem (b:=b) (T:=T0) (cs:=cs) DO hk hU
 simp only [execOp,ho,Sem.run_bind,hs.val hx]
 rw [Lib.run_to_unsafe w' ⟨b,0,none⟩ hE hE' ht hj hsh hl];rfl
theorem bRc{E E' u:TypeId}{j:TypeInfo}{x:Operand}{b:Nat}{T0:TypeId}{cs:List AC}(A:List Box){B:List Box}(ho:o.op=.convert E E' x)(hx:evA st x=some (pP b))(hb:st.s.boxes=A++⟨b,T0,cs⟩::B)(hE:P.underlying E=some .unsafePointer)(hE':P.underlying E'=some (.pointer u))(ht:P.info? u=some j)(hlies:liesAt P P.depth T0 (cs.length/P.cellsOf T0) 0 u 1=true)(hU:b∉U):AY P U o st (pP b):=by
 intro a w hs _
 refine ⟨_,.c _ _ (.val _ Y),λw' hk=>?_⟩
 have hsh:=bNs hs.mem (b:=b) (T:=T0) (cs:=cs) DO hk hU
 simp only [execOp,ho,Sem.run_bind,hs.val hx]
 rw [Lib.run_from_unsafe w' ⟨b,0,none⟩ hE hE' ht hsh hlies];rfl
theorem bMj{α:Type}{c:Code}{T':List Nat}{s':Sto}(p:Nat -> α -> Prop)(N i:Nat)(T:α -> List Nat)(S:Nat -> α -> Sto)(fx:Nat -> List (Nat×AT))(g0:α)(hp:p 0 g0)(hs:Sub ⟨n,T',s',ts⟩ ⟨n,T g0,S 0 g0,(i,nI 0)::fx 0⟩)
  (round:∀k g,k <= N -> p k g -> AWp P c ⟨n,T g,S k g,(i,nI k)::fx k⟩ (sU (λs'=>k<N /\ ∃g',p (k+1) g' /\ Sub s' ⟨n,T g',S (k+1) g',(i,nI (k+1))::fx (k+1)⟩) Q)):AWp P (.loop c) ⟨n,T',s',ts⟩ Q:=by
 refine fM (λg:Nat×α=>⟨n,T g.2,S g.1 g.2,(i,nI g.1)::fx g.1⟩) (λg=>g.1 <= N /\ p g.1 g.2) (λg=>N-g.1) (0,g0) hs ⟨Nat.zero_le _,hp⟩ λg hg=>sE (round g.1 g.2 hg.1 hg.2) λe s' h=>?_
 cases e with
 |normal=>
  obtain ⟨h1,g',h2,h3⟩:=h
  exact ⟨(g.1+1,g'),⟨h1,h2⟩,by show N-(g.1+1)<N-g.1;omega,h3⟩
 |_=>exact h
theorem bMm{bx bx':List Box}{rw rw':List bA}{s':Sto}{T':List Nat}{ts':List (Nat×AT)}(h1:bx'.Sublist bx)(he:(⟨bx',rw'⟩:Sto)=s')(h2:rw'.Sublist rw:=by exact (.refl _))(h3:∀b,b∈T' -> b∈T:=by intro x hx;simp only [mem_append,mem_cons,not_mem_nil,or_false] at hx⊢;rcases hx with hx|hx<;>simp [hx])(h:Sub ⟨n,T',s',ts⟩ ⟨n,T',s',ts'⟩:=by exact (aG rfl (gQ J) (sA rfl))):Sub ⟨n,T,⟨bx,rw⟩,ts⟩ ⟨n,T',s',ts'⟩:=by
 subst he;exact cQf (h1:=h1) (h2:=h2) (h:=h) h3
theorem bLf{A:List Box}{W m:Nat}{a:Option Addr}{v:Value}{x y:List UInt8}{B:List Box}{rw:List bA}(h:x=y):WS A W m a v x B rw=WS A W m a v y B rw:=by rw [h]
theorem wcW{F:FuncId}{ars:Array Operand}{tys:Array TypeId}{us:List AT}{W m m':Nat}{a:Option Addr}{v:Value}{bs bs':List UInt8}{r:AT}{A B:List Box}{C:Option Addr -> Value -> Prop}(h0:(o.op,o.dst,Nat.blt d n)=(.call {callee:=.value (.func F),args:=ars,argTypes:=tys},some d,true))
  (hcf:∀args w,(callFunc F args).run P w=.ok (.enter F args) w) (has:ars.toList.map (evA ⟨n,T,WS A W m a v bs B rw,ts⟩)=us.map some)
  (hc:aL P F us (W::aY v) (WS A W m a v bs B rw) λt s'=>t=r /\ ∃a' v',C a' v' /\ s'=WS A W m' a' v' bs' B rw) (hT:W∈T) (hTv:∀b,b∈aY v -> b∈T) (hU:(WS A W m a v bs B rw).bl.Nodup -> W∈U /\ ∀b,b∈aY v -> b∈U)
  (h:∀a' v',C a' v' -> K ⟨n,aY v'++T,WS A W m' a' v' bs' B rw,(d,r)::ts⟩):AO P U o ⟨n,T,WS A W m a v bs B rw,ts⟩ K:=by
 simp only [Prod.mk.injEq] at h0
 obtain ⟨ho,hd,hn⟩:=h0
 intro act w hs KK QQ' hK
 obtain ⟨h1,h2⟩:=rU hs has
 have hTb:∀b,b∈W::aY v -> b∈(WS A W m a v bs B rw).bl:=λb hb=>by
  unfold Sto.bl
  rcases mem_cons.1 hb with rfl|hb
  ·simp
  simp [hb]
 have hTT:∀b,b∈W::aY v -> b∈T:=λb hb=>by
  rcases mem_cons.1 hb with rfl|hb
  ·exact hT
  exact hTv b hb
 unfold Oper.wp
 rw [show (execOp act.eval o).run P w=.ok (.enter F (ars.toList.map act.eval).toArray) w from by
  simp only [execOp,ho,resolve,Deferred.ofValue,Act.eval,Sem.run_bind,Sem.run_pure,Result.andThen_ok,invoke]
  rw [hcf]
  congr 2
  rw [←Array.toList_inj];simp,Oper.upon_enter]
 refine (hc _ w hs.mem hTb h1 h2).mono ?_
 rintro en w' ⟨r',vr,s',rfl,⟨rfl,a',v',hC,rfl⟩,hr,hm,hk,hb⟩
 dsimp only
 rw [hd]
 have s1:=hs.step (aY v'++T) (hk.mono hTb) hm hb
 refine hK _ _ _ (h a' v' hC) (s1.put (Nat.le_of_ble_eq_true hn) hr) ⟨hk.mono hTb,hk.mono hTT,hb,λb hb2=>?_⟩ (hk.mono (λb hb=>by
  obtain ⟨u1,u2⟩:=hU hs.mem.nodup
  rcases mem_cons.1 hb with rfl|hb
  ·exact u1
  exact u2 b hb))
 rcases mem_append.1 hb2 with hb2|hb2
 ·have e1:b∈(WS A W m' a' v' bs' B rw).bl:=Dg
  exact (hb b e1).imp E1 id
 exact .inl hb2
theorem bO5{F:FuncId}{ars:Array Operand}{tys:Array TypeId}{p:World -> Prop}{t0 u:AT}{us:List AT}{W m m':Nat}{a:Option Addr}{v:Value}{bs bs':List UInt8}{r:AT}{A B:List Box}{C:Option Addr -> Value -> Prop}(i0:Nat)(h0:(o.op,o.dst,Nat.blt d n,look ts i0)=(.call {callee:=.value (.func F),args:=ars,argTypes:=tys},some d,true,some (.ride t0 p)))
  (hcf:∀args w,(callFunc F args).run P w=.ok (.enter F args) w) (has:ars.toList.map (evA ⟨n,T,WS A W m a v bs B rw,ts⟩)=(u::us).map some)
  (hc:aL P F (.ride u p::us) (W::aY v) (WS A W m a v bs B rw) λt s'=>t=r /\ ∃a' v',C a' v' /\ s'=WS A W m' a' v' bs' B rw) (hT:W∈T) (hTv:∀b,b∈aY v -> b∈T) (hU:(WS A W m a v bs B rw).bl.Nodup -> W∈U /\ ∀b,b∈aY v -> b∈U)
  (h:∀a' v',C a' v' -> K ⟨n,aY v'++T,WS A W m' a' v' bs' B rw,(d,r)::ts⟩):AO P U o ⟨n,T,WS A W m a v bs B rw,ts⟩ K:=by
 simp only [Prod.mk.injEq] at h0
 obtain ⟨ho,hd,hn,hl⟩:=h0
 intro act w hs KK QQ' hK
 obtain ⟨h1,h2⟩:=rU hs has
 obtain ⟨v0,-,hv0⟩:=hs.tm i0 _ hl
 have hTb:∀b,b∈W::aY v -> b∈(WS A W m a v bs B rw).bl:=λb hb=>by
  unfold Sto.bl
  rcases mem_cons.1 hb with rfl|hb
  ·simp
  simp [hb]
 have hTT:∀b,b∈W::aY v -> b∈T:=λb hb=>by
  rcases mem_cons.1 hb with rfl|hb
  ·exact hT
  exact hTv b hb
 unfold Oper.wp
 rw [show (execOp act.eval o).run P w=.ok (.enter F (ars.toList.map act.eval).toArray) w from by
  simp only [execOp,ho,resolve,Deferred.ofValue,Act.eval,Sem.run_bind,Sem.run_pure,Result.andThen_ok,invoke]
  rw [hcf]
  congr 2
  rw [←Array.toList_inj];simp,Oper.upon_enter]
 refine (hc _ w hs.mem hTb h1 (λi hi hi'=>?_)).mono ?_
 ·match i,hi with
  |0,hi=>exact bL3 hv0 (h2 0 G0 hi')
  |i+1,hi=>exact h2 (i+1) B3 hi'
 rintro en w' ⟨r',vr,s',rfl,⟨rfl,a',v',hC,rfl⟩,hr,hm,hk,hb⟩
 dsimp only
 rw [hd]
 have s1:=hs.step (aY v'++T) (hk.mono hTb) hm hb
 refine hK _ _ _ (h a' v' hC) (s1.put (Nat.le_of_ble_eq_true hn) hr) ⟨hk.mono hTb,hk.mono hTT,hb,λb hb2=>?_⟩ (hk.mono (λb hb=>by
  obtain ⟨u1,u2⟩:=hU hs.mem.nodup
  rcases mem_cons.1 hb with rfl|hb
  ·exact u1
  exact u2 b hb))
 rcases mem_append.1 hb2 with hb2|hb2
 ·have e1:b∈(WS A W m' a' v' bs' B rw).bl:=Dg
  exact (hb b e1).imp E1 id
 exact .inl hb2
end
end
section
open Go.RowKit
theorem bR7(u:Nat)(bs:List UInt8)(v:Value)(bx:List Box)(rw:List bA)(hu:u<18446744073709551616)(hb:bs.length <= 100000000000000):aL prog 218 [bK5 (Cv v),Cv (.int .u64 ((u:Nat):Int)),Ci 10] (aY v) ⟨bx,⟨v,5,1,bs.length,iF bs⟩::rw⟩ λt s'=>∃v',t=Cv v' /\ s'=⟨bx,⟨v',5,1,(bs++cO u).length,iF (bs++cO u)⟩::rw⟩:=by
 refine acX 36 func218 ?_
 refine go 9 ?_
 refine wcp true Y B7 (go 7 ?_)
 by_cases h2:((u:Nat):Int)<100
 focus
  refine wcp true Y (jZ h2) (go 7 ?_)
  refine wyz Y (bOy Y Y Y Y Y (wrap64 J J)) ?_
  refine wc1 Y call189 Y (bQp u J _) ?_
  refine wo Y (bHb [] Tryz.t5 (z:=bytes (cO u)) Y Y V Y Y underlying58 underlying9 B6 Y Y Y (by have:=bL6 u;have:=bMa hu;unfold maxLen;show bs.length+(cO u).length <= _;omega) (by have:=bL6 u;have:=bMa hu;show bs.length+(cO u).length <= _;omega) (@length_append _ bs (cO u)).symm Y Bo Bq (bLc bs (cO u)) λw3=>?_)
  refine go 6 ?_
 rotate_left
 refine wcp false Y (jQ h2) (go 13 λb2=>?_)
 refine wcR 0 Y call190 Y (bP7 u J hu _) (go 6 ?_)
 have hnd:=bMa hu
 refine wyz Y (bNr Y Y Y Y J V runUnderlying250 sizeOf5) (go 1 ?_)
 have hnd:=bMa hu
 refine wo Y (bD [b2] Y Y V call191 Y (bRk b2 _ (List.replicate 24 0) u 24 bx _ hu DR V) (bDj) (bDj (h:=by simp [Sto.bl])) (λ_=>bDj) ?_)
 rintro _ _ ⟨rfl,rfl⟩
 refine go 6 ?_
 refine wyz Y (bNr Y Y Y Y J V runUnderlying250 sizeOf5) ?_
 refine bHa 26 Y J V ?_
 refine wo Y (bDm [] dFt Y (by unfold iF;rw [List.length_map,bL6,Nat.mul_one]) J B1 J (show bs.length+Lib.nDigits u=(bs++cO u).length by rw [length_append,bL6]) Bo Bq (bLc bs (cO u)) λw3=>?_)
 refine go 5 ?_
 all_goals
  exact ⟨.inr Y,_,⟨bx,⟨w3,_,_,_,_⟩::rw⟩,aR Y (aF Y),aA (.refl _) (.refl _),⟨w3,Y,Y⟩⟩
theorem bR0(n:Nat)(bs:List UInt8)(v:Value)(bx:List Box)(rw:List bA)(hn:n <= 9223372036854775807)(hb:bs.length <= 100000000000000):aL prog 214 [bK5 (Cv v),nI n,Ci 10] (aY v) ⟨bx,⟨v,5,1,bs.length,iF bs⟩::rw⟩ λt s'=>∃v',t=Cv v' /\ s'=⟨bx,⟨v',5,1,(bs++cO n).length,iF (bs++cO n)⟩::rw⟩:=by
 refine acX 21 func214 ?_
 refine go 8 ?_
 refine wyz Y (bOy Y Y Y Y Y (bSh J J)) (go 7 ?_)
 refine wcp false Y (jQ J) (go 10 ?_)
 refine wo Y (bMu 0 Y call218 Y (bR7 n bs v _ _ J hb) Bq Bo λw1=>?_)
 refine go 4 ?_
 exact ⟨.inr Y,_,⟨bx,⟨w1,_,_,_,_⟩::rw⟩,aR Y (aF Y),aA (.refl _) (.refl _),⟨w1,Y,Y⟩⟩
theorem bSd(n:Nat)(bs:List UInt8)(v:Value)(bx:List Box)(rw:List bA)(hn:n <= 9223372036854775807)(hb:bs.length <= 100000000000000):aL prog 208 [bK5 (Cv v),nI n,Ci 10] (aY v) ⟨bx,⟨v,5,1,bs.length,iF bs⟩::rw⟩ λt s'=>∃v',t=Cv v' /\ s'=⟨bx,⟨v',5,1,(bs++cO n).length,iF (bs++cO n)⟩::rw⟩:=by
 refine acX 11 func208 ?_
 refine go 10 ?_
 refine wo Y (bMu 0 Y call214 Y (bR0 n bs v _ _ hn hb) Bq Bo λw1=>?_)
 refine go 4 ?_
 exact ⟨.inr Y,_,⟨bx,⟨w1,_,_,_,_⟩::rw⟩,aR Y (aF Y),aA (.refl _) (.refl _),⟨w1,Y,Y⟩⟩
def bLs(op:Int):List UInt8:=if op=3 then [45] else if op=4 then [33] else iW op
theorem bQc:∀j (h:j<bLb.length),bLb[j]=bytes (bLs j):=V
def bLn(e:aH)(k:Nat):List UInt8:=(dP e.op 0 e.args).getD k []
theorem bLz(e:aH)(k:Nat)(h:k<e.args.length):bLn e k=if cV e.op k e.args[k].op then [40]++aP e.args[k]++[41] else aP e.args[k]:=by
 unfold bLn
 have:=pL e.op e.args 0 k h
 rw [Nat.zero_add] at this
 rw [List.getD_eq_getElem?_getD,this];rfl
theorem bMn{e:aH}(h:eO e=true):(e.args.length=0 /\ (e.op=1∨e.op=2))∨(e.args.length=1 /\ (e.op=3∨e.op=4))∨(e.args.length=2 /\ 5 <= e.op /\ e.op <= 17):=by
 rw [bK7] at h
 unfold bLj at h
 by_cases h0:bLk e.op=0
 ·rw [if_pos h0] at h;cases h
 have ho:=bN2 h0
 rw [if_neg h0] at h
 by_cases h7:bLk e.op=7
 ·rw [if_pos h7] at h
  simp only [Bool.and_eq_true,decide_eq_true_eq] at h
  have:=bPh h7
  omega
 rw [if_neg h7] at h
 simp only [Bool.and_eq_true,decide_eq_true_eq] at h
 by_cases h6:bLk e.op=6
 ·rw [if_pos h6] at h
  have:=bSc h6
  omega
 rw [if_neg h6] at h
 have h1:¬(e.op=1∨e.op=2):=λhh=>h7 Eh
 have h2:¬(e.op=3∨e.op=4):=λhh=>h6 Eh
 omega
theorem bQy{e:aH}(h:eO e=true)(h2:e.args.length=2):aP e=bLn e 0++([32]++bLs e.op++[32])++bLn e 1:=by
 have hk:=bMn h
 rw [kU]
 unfold iX bLn bLs
 have hs:aM e.op<5:=D9
 rw [if_neg J,if_neg J,if_neg J,if_neg J,if_pos hs,if_neg J,if_neg J]
 simp only [append_assoc]
theorem bQ7{e:aH}(h:eO e=true)(h1:e.args.length=1):aP e=bLs e.op++bLn e 0:=by
 have hk:=bMn h
 rw [kU]
 unfold iX bLn bLs
 rw [if_neg J,if_neg J]
 by_cases h3:e.op=3
 ·rw [if_pos h3,if_pos h3];rfl
 rw [if_neg h3,if_neg h3,if_pos J,if_pos J];rfl
theorem bPt{e:aH}(h2:e.op=2):aP e=e.name.data.toList:=by
 rw [kU];unfold iX;rw [if_neg J,if_pos h2]
theorem bRq{e:aH}(h1:e.op=1)(h:eO e=true):aP e=cO e.num.toNat /\ 0 <= e.num:=by
 rw [dZ] at h
 have hs:aM e.op=6:=D9
 rw [if_pos hs] at h
 simp only [Bool.and_eq_true,jG,Bool.or_eq_true,decide_eq_true_eq] at h
 have hn:0 <= e.num:=J
 rw [kU];unfold iX eH;rw [if_pos h1,if_neg J,show e.num.natAbs=e.num.toNat by omega]
 exact ⟨Y,hn⟩
theorem bOh(e:aH)(k:Nat)(bs:List UInt8)(v:Value)(x:Nat)(bx:List Box)(rw:List bA)(hk:k<e.args.length)(hsh:eO e=true)(hb:bs.length+(bLn e k).length <= 100000000000000)(ih:∀(bs:List UInt8)(v:Value)(bx:List Box)(rw:List bA),bs.length+(aP e.args[k]).length <= 100000000000000 -> aL prog 194 [bK5 (Cv v),.agg (cU e.args[k])] (aY v) ⟨bx,⟨v,5,1,bs.length,iF bs⟩::rw⟩ λt s'=>∃v',t=Cv v' /\ s'=⟨bx,⟨v',5,1,(bs++aP e.args[k]).length,iF (bs++aP e.args[k])⟩::rw⟩):aL prog 207 [bK5 (Cv v),nI k,pP x] (aY v) ⟨⟨x,87,cU e⟩::bx,⟨v,5,1,bs.length,iF bs⟩::rw⟩ λt s'=>∃v',t=Cv v' /\ s'=⟨⟨x,87,cU e⟩::bx,⟨v',5,1,(bs++bLn e k).length,iF (bs++bLn e k)⟩::rw⟩:=by
 refine acX 28 func207 ?_
 refine go 10 ?_
 rcases Bool.eq_false_or_eq_true (cV e.op k e.args[k].op) with h1|h1
 ·refine bK8 0 Y call200 Y (bOl e k J (bLd hsh).1 (bLd ((bLd hsh).2 k J)).1 _) h1 (go 7 ?_)
  refine dx [x] ?_
  have hlk:=bLz e k hk
  rw [h1] at hlk
  have hl2:=congrArg List.length hlk
  simp only [if_true,Bool.false_eq_true,if_false,length_append,length_cons,length_nil] at hl2
  refine tz [(0,true),(3,true),(4,true),(5,true)] 8 (go 5 ?_)
  refine tx 6 Y (bH fO cU e.args iU fP k Y Y Y Y J V runUnderlying85 sizeOf87) (tz [(7,true)] 6 (go 2 ?_))
  refine t2 1 9 Y ?_ ?_
  focus
   refine (bDk (r:=iF [40]) zb7 ?_)
   refine t2 2 9 Y ?_ ?_
   focus
    refine (bDm [] dFt Y Y V AL B2 (show bs.length+1=(bs++[40]).length by simp only [length_append,length_cons,length_nil]) (λhn b hb=>qW hn hb) Bq (bLc bs [40]) λw1=>?_)
    refine t2 8 9 Y ?_ ?_
    focus
     refine (bMu 0 Y call194 Y (ih (bs++[40]) w1 _ _ B2) Bq (λhn b hb=>qW hn hb) λw2=>?_)
     refine ox 9 Y Y (bDk (r:=iF [41]) zb7 ?_)
    rotate_left
    refine (bDk (r:=iF [41]) zb7 ?_)
    refine ox 8 Y Y (bMu 0 Y call194 Y (ih (bs++[40]) w1 _ _ B2) Bq (λhn b hb=>qW hn hb) λw4=>?_)
   rotate_left 2
   refine (bDk (r:=iF [41]) zb7 ?_)
   refine ox 2 Y Y (bDm [] dFt Y Y V AL B2 (show bs.length+1=(bs++[40]).length by simp only [length_append,length_cons,length_nil]) (λhn b hb=>qW hn hb) Bq (bLc bs [40]) λw6=>?_)
   refine ox 8 Y Y (bMu 0 Y call194 Y (ih (bs++[40]) w6 _ _ B2) Bq (λhn b hb=>qW hn hb) λw7=>?_)
  rotate_left 3
  refine (bDk (r:=iF [41]) zb7 ?_)
  refine ox 1 Y Y (bDk (r:=iF [40]) zb7 ?_)
  refine ox 2 Y Y (bDm [] dFt Y Y V AL B2 (show bs.length+1=(bs++[40]).length by simp only [length_append,length_cons,length_nil]) (λhn b hb=>qW hn hb) Bq (bLc bs [40]) λw9=>?_)
  refine ox 8 Y Y (bMu 0 Y call194 Y (ih (bs++[40]) w9 _ _ B2) Bq (λhn b hb=>qW hn hb) λw10=>?_)
  all_goals
   refine ox 10 Y Y (bDm [] dFt Y Y V AL B2 (show ((bs++[40])++aP e.args[k]).length+1=(((bs++[40])++aP e.args[k])++[41]).length by simp only [length_append,length_cons,length_nil]) (λhn b hb=>qW hn hb) Bq (bLc ((bs++[40])++aP e.args[k]) [41]) λw11=>?_)
   refine tz [(11,true)] 0 (go 2 ?_)
   refine ax (go 2 ?_)
   exact ⟨.inr Y,_,⟨_,⟨w11,_,_,_,_⟩::rw⟩,aR Y (aF Y),aA (.refl _) (.refl _),⟨w11,Y,(by rw [show (((bs++[40])++aP e.args[k])++[41])=bs++bLn e k by rw [bLz e k hk,h1];simp only [if_true,Bool.false_eq_true,if_false,append_assoc]])⟩⟩
 refine bK8 0 Y call200 Y (bOl e k J (bLd hsh).1 (bLd ((bLd hsh).2 k J)).1 _) h1 (go 6 ?_)
 have hlk:=bLz e k hk
 rw [h1] at hlk
 have hl2:=congrArg List.length hlk
 simp only [if_true,Bool.false_eq_true,if_false,length_append,length_cons,length_nil] at hl2
 refine go 4 ?_
 refine wyz Y (bH fO cU e.args iU fP k Y Y Y Y J V runUnderlying85 sizeOf87) (go 1 ?_)
 refine wo Y (bMu 0 Y call194 Y (ih bs v _ _ B2) Bq Bo λw12=>?_)
 refine go 5 ?_
 exact ⟨.inr Y,_,⟨_,⟨w12,_,_,_,_⟩::rw⟩,aR Y (aF Y),aA (.refl _) (.refl _),⟨w12,Y,(by rw [show (bs++aP e.args[k])=bs++bLn e k by rw [bLz e k hk,h1];simp only [if_true,Bool.false_eq_true,if_false,append_assoc]])⟩⟩
theorem bQ8:∀j,j<18 -> (bLs ((j:Nat):Int)).length <= 2:=V
theorem bN5(e:aH)(bs:List UInt8)(v:Value)(bx:List Box)(rw:List bA)(hsh:eO e=true)(hN:e.nodes <= 1000000000)(hs:fit e.num)(hb:bs.length+(aP e).length <= 100000000000000)(ih:∀k (h:k<e.args.length) (bs:List UInt8) (v:Value) (bx:List Box) (rw:List bA),bs.length+(aP e.args[k]).length <= 100000000000000 -> aL prog 194 [bK5 (Cv v),.agg (cU e.args[k])] (aY v) ⟨bx,⟨v,5,1,bs.length,iF bs⟩::rw⟩ λt s'=>∃v',t=Cv v' /\ s'=⟨bx,⟨v',5,1,(bs++aP e.args[k]).length,iF (bs++aP e.args[k])⟩::rw⟩):aL prog 194 [bK5 (Cv v),.agg (cU e)] (aY v) ⟨bx,⟨v,5,1,bs.length,iF bs⟩::rw⟩ λt s'=>∃v',t=Cv v' /\ s'=⟨bx,⟨v',5,1,(bs++aP e).length,iF (bs++aP e)⟩::rw⟩:=by
 obtain ⟨hf1,hf2⟩:=hs
 have hlen:=uC e
 refine acX 45 func194 ?_
 refine bR5 0 1 Y Y ?_
 refine go 8 λb1=>?_
 refine wyz Y (bMs (vs:=[.pointer (some ⟨b1,0,none⟩)]) Y Y) (go 7 ?_)
 have hin:=(bLd hsh).1
 have hkd:=bMn hsh
 obtain ⟨j,hj⟩:∃j:Nat,e.op=j:=⟨e.op.toNat,J⟩
 have hj18:j<bLb.length:=by show j<18;omega
 have hsg:bLb[j]=bytes (bLs e.op):=by rw [hj];exact bQc j hj18
 have hpl:=bQ8 j hj18
 rw [←hj] at hpl
 refine wyz Y (bRr 1 j Y Y Y hj hj18 Y runUnderlying266 sizeOf9) ?_
 refine wyz Y (fL (hy:=iP Y Y isAgg9 sizeOf9 Y) (jX hsg)) (go 20 ?_)
 by_cases h1:((e.args.length:Nat):Int)=2
 ·refine wcp true Y (eR h1) (go 11 ?_)
  have htx:=congrArg List.length (bQy hsh J)
  simp only [length_append,length_cons,length_nil] at htx
  refine go 2 ?_
  refine wo Y (bPe (us:=[nI 0]) (cap:=#[.pointer (some ⟨b1,0,none⟩)]) 1 Y call207 Y (bOh e 0 bs v _ _ _ J hsh B2 (ih 0 J)) Bq Bo λw2=>?_)
  refine go 5 ?_
  refine wyz Y (cz [32] (bLs e.op) Y Y Y Y Y) ?_
  refine wyz Y (cz ([32]++(bLs e.op)) [32] Y Y Y Y Y) (go 6 ?_)
  refine dx [b1] (tz [(0,true),(1,true),(2,true),(4,true),(5,true),(6,true)] 4 (go 7 ?_))
  refine tx 7 Y (cI ((1:Nat):Int)) ?_
  refine ox 3 Y Y (bHb [] Tryz.t5 (z:=bytes (([32]++(bLs e.op))++[32])) Y Y V Y Y underlying58 underlying9 B6 Y Y Y BL C9 (@length_append _ (bs++bLn e 0) (([32]++(bLs e.op))++[32])).symm Y (λhn b hb=>qW hn hb) Bq (bLc (bs++bLn e 0) (([32]++(bLs e.op))++[32])) λw3=>?_)
  refine ox 8 Y Y (bPe (us:=[nI 1]) (cap:=#[.pointer (some ⟨b1,0,none⟩)]) 1 Y call207 Y (bOh e 1 ((bs++bLn e 0)++(([32]++(bLs e.op))++[32])) w3 _ _ _ J hsh B2 (ih 1 J)) Bq (λhn b hb=>qW hn hb) λw4=>?_)
  refine tz [(9,true)] 0 (go 2 ?_)
  refine ax (go 5 ?_)
  exact ⟨.inr Y,_,⟨bx,⟨w4,_,_,_,_⟩::rw⟩,aR Y (aF Y),aA (.cons _ (.refl _)) (.refl _),⟨w4,Y,(by rw [show (((bs++bLn e 0)++(([32]++(bLs e.op))++[32]))++bLn e 1)=bs++aP e by rw [bQy hsh J];simp only [append_assoc]])⟩⟩
 refine wcp false Y (eD h1) (go 8 ?_)
 by_cases h4:((e.args.length:Nat):Int)=1
 ·refine wcp true Y (eR h4) (go 12 ?_)
  refine dx [b1] ?_
  have htx:=congrArg List.length (bQ7 hsh J)
  simp only [length_append,length_cons,length_nil] at htx
  refine tz [(0,true),(1,true),(2,true),(4,true),(5,true),(6,true)] 4 (go 7 ?_)
  refine tx 7 Y (cI ((0:Nat):Int)) ?_
  refine ox 3 Y Y (bHb [] Tryz.t5 (z:=bytes (bLs e.op)) Y Y V Y Y underlying58 underlying9 B6 Y Y Y BL C9 (@length_append _ bs (bLs e.op)).symm Y (λhn b hb=>qW hn hb) Bq (bLc bs (bLs e.op)) λw5=>?_)
  refine ox 8 Y Y (bPe (us:=[nI 0]) (cap:=#[.pointer (some ⟨b1,0,none⟩)]) 1 Y call207 Y (bOh e 0 (bs++(bLs e.op)) w5 _ _ _ J hsh B2 (ih 0 J)) Bq (λhn b hb=>qW hn hb) λw6=>?_)
  refine tz [(9,true)] 0 (go 2 ?_)
  refine ax (go 5 ?_)
  exact ⟨.inr Y,_,⟨bx,⟨w6,_,_,_,_⟩::rw⟩,aR Y (aF Y),aA (.cons _ (.refl _)) (.refl _),⟨w6,Y,(by rw [show ((bs++(bLs e.op))++bLn e 0)=bs++aP e by rw [bQ7 hsh J];simp only [append_assoc]])⟩⟩
 refine wcp false Y (eD h4) (go 18 ?_)
 by_cases h7:e.op=2
 ·refine wcp true Y (eR h7) (go 5 ?_)
  have htx:=congrArg List.length (bPt (e:=e) J)
  refine go 3 ?_
  refine wo Y (bHb [] Tryz.t5 (z:=e.name) Y Y V Y Y underlying58 underlying9 B6 Y Y Y (by unfold maxLen;show bs.length+e.name.data.toList.length <= _;omega) (by show bs.length+e.name.data.toList.length <= _;omega) (@length_append _ bs e.name.data.toList).symm Y Bo Bq (bLc bs e.name.data.toList) λw7=>?_)
  refine go 5 ?_
  exact ⟨.inr Y,_,⟨bx,⟨w7,_,_,_,_⟩::rw⟩,aR Y (aF Y),aA (.cons _ (.refl _)) (.refl _),⟨w7,Y,(by rw [show (bs++e.name.data.toList)=bs++aP e by rw [bPt J]])⟩⟩
 refine wcp false Y (eD h7) (go 7 ?_)
 obtain ⟨htn,hn0⟩:=bRq (e:=e) J hsh
 have htx:=congrArg List.length htn
 have hnum:e.num=((e.num.toNat:Nat):Int):=J
 refine go 2 ?_
 refine wyz Y (fL (hy:=aX [] isAgg3 sizeOf3) (gQ hnum)) ?_
 refine wo Y (bMu 1 Y call208 Y (bSd e.num.toNat bs v _ _ J J) Bq Bo λw8=>?_)
 refine go 4 ?_
 exact ⟨.inr Y,_,⟨bx,⟨w8,_,_,_,_⟩::rw⟩,aR Y (aF Y),aA (.cons _ (.refl _)) (.refl _),⟨w8,Y,(by rw [show (bs++cO e.num.toNat)=bs++aP e by rw [htn]])⟩⟩
theorem bQu{e:aH}(h:e.sane):fit e.num:=by cases e;rw [aH.sane] at h;exact h.1
theorem bNz:∀(N:Nat)(e:aH),e.nodes <= N -> N <= 1000000000 -> eO e=true -> e.sane -> ∀(bs:List UInt8)(v:Value)(bx:List Box)(rw:List bA),bs.length+(aP e).length <= 100000000000000 -> aL prog 194 [bK5 (Cv v),.agg (cU e)] (aY v) ⟨bx,⟨v,5,1,bs.length,iF bs⟩::rw⟩ λt s'=>∃v',t=Cv v' /\ s'=⟨bx,⟨v',5,1,(bs++aP e).length,iF (bs++aP e)⟩::rw⟩
 |0,e,h,_,_,_,_,_,_,_,_=>Bm
 |N+1,e,h,hN,hsh,hs,bs,v,bx,rw,hb=>bN5 e bs v bx rw hsh J (bQu hs) hb (λk hk bs v bx rw hb=>bNz N e.args[k] B0 J ((bLd hsh).2 k hk) (mV _ (bM1 hs).2 _ (getElem_mem _)) bs v bx rw hb)
def bRv(e:aH):List UInt8:=if dM e then aP e else []
theorem bPb{e:aH}(h:dM e=true):eO e=true:=by unfold dM at h;rw [Bool.and_eq_true] at h;exact h.1
theorem bQg(e:aH)(hN:e.nodes <= 1000000000)(hs:e.sane)(hL:dM e=true -> (aP e).length <= 100000000000000)(s:Sto):aL prog 173 [bK5 (.agg (cU e))] [] s λt s'=>t=Cs (bytes (bRv e)) /\ s'=s:=by
 obtain ⟨bx,rw⟩:=s
 refine acX 9 func173 ?_
 refine go 10 λb1=>?_
 rcases Bool.eq_false_or_eq_true (dM e) with h1|h1
 ·refine bK8 0 Y call163 Y (bLw e hN hs _) h1 (go 8 ?_)
  have hv:dM e=true:=h1
  have hsh:=bPb hv
  have htl:=hL hv
  refine bR3 5 1 ?_
  refine go 1 ?_
  refine wo Y (bMu 0 Y call194 Y (bNz _ e (Nat.le_refl _) J hsh hs [] _ _ _ (by simp only [length_nil];omega)) (λb hb=>DF) (λ_ b hb=>DF) λw2=>?_)
  refine aE1 7 Y ?_
  refine wyz Y (fL (hy:=cK8 Y Y Y) (jX (by rw [List.nil_append]))) (go 4 ?_)
  exact bHe (s':=⟨bx,rw⟩) Y sb1 ⟨oW (by unfold bRv;rw [if_pos hv]),Y⟩
 refine bK8 0 Y call163 Y (bLw e hN hs _) h1 (go 11 ?_)
 exact bHe (s':=⟨bx,rw⟩) Y sb1 ⟨oW (by unfold bRv;rw [if_neg (by rw [h1];decide)];rfl),Y⟩
end
section
mutual
def aH.tame:aH -> Prop
 |.mk _ num name args=>num.natAbs<9223372036854775808 /\ name.size <= 1048576 /\ oG args
def oG:List aH -> Prop
 |[]=>True
 |e::es=>e.tame /\ oG es
end
def lL:List (List UInt8) -> Nat
 |[]=>0
 |t::ts=>t.length+lL ts
theorem aMh(ts:List (List UInt8)):(ts.getD 0 []).length <= lL ts:=by
 cases ts with
 |nil=>simp [lL]
 |cons t ts=>simp [lL]
theorem aJj(ts:List (List UInt8)):(ts.getD 0 []).length+(ts.getD 1 []).length <= lL ts:=by
 match ts with
 |[]=>simp [lL]
 |[t]=>simp [lL]
 |t::u::ts=>first|(simp [lL];done)|(simp [lL];omega)
theorem aI4{c:Prop}[Decidable c]{l r:List UInt8}{n:Nat}(h1:l.length <= n)(h2:r.length <= n):(if c then l else r).length <= n:=by
 by_cases h:c
 ·rw [if_pos h];exact h1
 rw [if_neg h];exact h2
theorem aAr(op:Int):(iW op).length <= 2:=by
 unfold iW
 repeat' (with_reducible apply aI4)
 all_goals decide
theorem aH5(op num:Int)(name:ByteArray)(ts:List (List UInt8))(h1:num.natAbs<9223372036854775808)(h2:name.size <= 1048576):
  (iX op num name ts).length <= 1048576+lL ts:=by
 have a0:=aMh ts
 have a1:=aJj ts
 have a2:=aAr op
 have a3:(eH num).length <= 21:=by
  have:=kC _ (Nat.lt_trans h1 V)
  unfold eH
  split<;>simp<;>omega
 have a4:name.data.toList.length=name.size:=Y
 unfold iX
 repeat' (with_reducible apply aI4)
 all_goals ((try simp only [length_append,length_cons,length_nil]);omega)
theorem vQ:∀(N:Nat)(e:aH),e.nodes <= N -> e.tame -> (aP e).length+2 <= e.nodes*2000000
 |0,.mk op num name args,h,_=>by rw [aH.nodes] at h;omega
 |N+1,.mk op num name args,h,ht=>by
  rw [aH.nodes] at h
  rw [aH.tame] at ht
  have key:∀(l:List aH)(k:Nat),cZ l <= N -> oG l -> lL (dP op k l) <= cZ l*2000000:=by
   intro l
   induction l with
   |nil=>intro k _ _;rw [dP,lL];omega
   |cons e es ih=>
    intro k hl hm
    rw [cZ] at hl⊢
    rw [oG] at hm
    rw [dP,lL]
    have h1:=vQ N e J hm.1
    have h2:=ih (k+1) J hm.2
    split
    ·simp only [length_append,length_cons,length_nil];omega
    omega
  have h1:=key args 0 J ht.2.2
  have h2:=aH5 op num name (dP op 0 args) ht.1 ht.2.1
  rw [aP,aH.nodes]
  omega
end
section
open Go.RowKit
theorem nL{s:ByteArray}(h:bQ s=true):s.data.toList.length <= 16:=by
 unfold bQ at h
 split at h
 ·cases h
 simp only [Bool.and_eq_true,decide_eq_true_eq] at h;exact h.1.2
mutual
theorem zK:∀(e:aH),e.sane -> eO e=true -> e.tame
 |.mk op num name args,hs,h=>by
  have hv:=yT _ hs h
  rw [aH.sane] at hs
  rw [eO] at h
  simp only [Bool.and_eq_true] at h
  rw [aH.tame]
  refine ⟨?_,?_,xH args hs.2.2 h.2⟩
  ·cases hv with
   |num n hn=>show ((n:Nat):Int).natAbs<_;omega
   |_=>decide
  ·cases hv with
   |name s hn=>exact Nat.le_trans (nL hn) V
   |_=>decide
theorem xH:∀(l:List aH),iI l -> dY l=true -> oG l
 |[],_,_=>by rw [oG];trivial
 |y::l,hs,h=>by
  rw [iI] at hs
  rw [dY,Bool.and_eq_true] at h
  rw [oG]
  exact ⟨zK y hs.1 h.1,xH l hs.2 h.2⟩
end
theorem tU{e:aH}(hs:e.sane)(h:eO e=true):(aP e).length <= e.nodes*2000000:=by
 have:=vQ e.nodes e (Nat.le_refl _) (zK e hs h);omega
end
end Go.Proofs.YtjgeihmhppadaaaGreatDoor
