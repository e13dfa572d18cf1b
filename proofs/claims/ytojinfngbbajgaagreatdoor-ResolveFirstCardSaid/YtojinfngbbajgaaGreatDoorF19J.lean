import Derived.Test.YtojinfngbbajgaaGreatDoorF15J
import Derived.Lib.AppendStr
import Derived.Test.YtojinfngbbajgaaGreatDoorF18J
import Derived.Test.YtojinfngbbajgaaGreatDoorShelfJ
import Derived.Sort.Row
import Derived.Lib.Builder
import Derived.Lib.UnsafeStr
import Derived.Laws.Externs
set_option linter.all false
set_option synthInstance.maxHeartbeats 1000000
set_option synthInstance.maxSize 1000000
namespace Go.Proofs.YtojinfngbbajgaaGreatDoor
open Go.Proofs.Tryz
open List (length_append length_cons length_nil mem_append mem_cons not_mem_nil append_assoc getElem_mem take_of_length_le)
section
open Go.RowKit
section
variable {P:Program}{U T:List Nat}{o:Oper}{n d:Nat}{bx:List Box}{rw:List bA}{ts:List (Nat×AT)}{K:AS -> Prop}{st:AS}{t:AT}
theorem bGr{g:Nat}{E:TypeId}{cs ds:List AC}{N C:Nat}{B:List Box}(i:Nat)(hi:look st.ts i=some (.c (.val (.slice (some ⟨g,0,none⟩) N C))))(hrow:st.s.boxes=⟨g,E,cs++ds⟩::B)(hC:N <= C)(hC2:C <= 9223372036854775807):Sub st {st with s:=⟨B,st.s.rows⟩,ts:=(i,.c (.sl N cs))::st.ts}:=fun a w hs=>by
 have hsub:aAz st.s ⟨B,st.s.rows⟩:=aA (by rw [hrow];exact List.sublist_cons_self _ _) (List.Sublist.refl _)
 obtain ⟨h1,h2,h3⟩:=vU hsub a w hs
 refine ⟨⟨h1.df,h1.sz,fun j x hx=>?_,h1.mem⟩,h2,h3⟩
 simp only [look] at hx
 split at hx
 ·rename_i he;subst he;cases hx
  obtain ⟨u,e1,e2⟩:=hs.tm i _ hi
  have:=e2.val
  subst this
  obtain ⟨us,⟨fz,-,hh⟩,hrep⟩:=hs.mem.box ⟨g,E,cs++ds⟩ (by rw [hrow];simp)
  have hlen:us.length=cs.length+ds.length:=by have:=hrep.len;simpa using this
  have hr2:=hrep.take cs.length
  rw [List.take_left] at hr2
  have hnm:g∉(⟨B,st.s.rows⟩:Sto).bl:=by
   have hnd:=hs.mem.nodup
   have hbl:st.s.bl=g::(⟨B,st.s.rows⟩:Sto).bl:=by unfold Sto.bl;rw [hrow];simp
   rw [hbl] at hnd
   exact (List.nodup_cons.1 hnd).1
  refine ⟨_,e1,.c _ _ (.sl _ _ (us.take cs.length) _ ⟨_,_,rfl,hC,.inr ⟨g,0,rfl,fun j x hj=>?_⟩⟩ hr2.len (fun k h h'=>(hr2.at_ k h h').mono (up_sub h2)) (fun _ _ _ h=>by cases h;exact hC2))⟩
  rw [eW _ _ _ hnm]
  unfold World.cell?
  simp only [hh]
  rw [List.getElem?_take] at hj
  split at hj
  ·simpa using hj
  cases hj
 exact h1.tm j x hx
theorem bHa{ops:Array Oper}{l:List Oper}{Q:Exit -> AS -> Prop}{g:Nat}{E:TypeId}{cs ds:List AC}{N C:Nat}(i:Nat)(hi:look ts i=some (.c (.val (.slice (some ⟨g,0,none⟩) N C))))(hC:N <= C)(hC2:C <= 9223372036854775807)(h:eQ P ops l ⟨n,T,⟨bx,rw⟩,(i,.c (.sl N cs))::ts⟩ Q):eQ P ops l ⟨n,T,⟨⟨g,E,cs++ds⟩::bx,rw⟩,ts⟩ Q:=
 uQ (bGr (st:=⟨n,T,⟨⟨g,E,cs++ds⟩::bx,rw⟩,ts⟩) i hi rfl hC hC2) h
theorem bG0(w:World){a:Act}{K:Act -> World -> Prop}{Q:Exit -> Act -> World -> Prop}(s x:Operand)(t u:TypeId)
  (ho:o.op=.call {callee:=.builtin .append,args:=#[s,x],argTypes:=#[t,u]})
  (e:TypeId) (i:TypeInfo) (ht:P.underlying t=some (.slice e)) (hu:P.underlying u=some .string) (hi:P.info? e=some i) (hz:i.zero=some (.int .u8 0)) (hsize:i.size=1) (hby:i.bytes=1)
  (v:Value) (n:Nat) (xs:List Value) (hs:a.eval s=v) (hown:w.ownsRow 0 e 1 v n xs) (z:ByteArray) (hx:a.eval x=.string z) (h63:n+z.size <= maxLen) (hbytes:n+z.size <= 140737488355328)
  (h:∀v' w',w'.ownsRow 0 e 1 v' (n+z.size) (xs++Lib.strCells z) -> w.grownBy w' v.ownBlock -> (∀g,v'.ownBlock=some g -> v.ownBlock=some g∨w.heap.size <= g) -> K (a.put o.dst v') w'):o.wp P a w K Q:=by
 obtain ⟨v',w',hr,h2,h3,h4⟩:=Lib.run_append_own_string (P:=P) w 0 t u o.type e i ht hu hi hz hsize hby v n xs hown z h63 hbytes (Nat.zero_le _)
 have hfr:∀g,v'.ownBlock=some g -> v.ownBlock=some g∨w.heap.size <= g:=by
  rcases hown.2 with ⟨hv0,hn0⟩|⟨g,cap,cur,hv0,hbg,hg,hnc,hcm,hcs,htake⟩
  ·obtain ⟨v2,w2,hr2,h5,_,_⟩:=Lib.run_append_own_string (P:=P) w w.heap.size t u o.type e i ht hu hi hz hsize hby v n xs ⟨hown.1,.inl ⟨hv0,hn0⟩⟩ z h63 hbytes (Nat.le_refl _)
   rw [hr] at hr2
   injection hr2 with e1 e2
   subst e1
   intro k hk
   exact Or.inr (h5.lt k hk).1
  subst hv0
  by_cases hroom:n+z.size <= cap
  ·have hr2:=Lib.run_append_room_string (P:=P) w t u o.type e i ht hu hi hsize g n cap cur hg z hroom (by omega)
   rw [hr] at hr2
   injection hr2 with e1 e2
   subst e1
   intro k hk
   exact .inl hk
  have holds:∀j u,xs[j]?=some u -> w.cell? ((⟨g,0,none⟩:Addr).add j)=some u:=hown.cells (g:=g) rfl
  have hr2:=Lib.run_append_grow_string (P:=P) w t u o.type e i (.int .u8 0) ht hu hi hz ⟨g,0,none⟩ n cap xs (by rw [hsize];exact hown.1) holds z (by omega) (by simp only [maxLen] at h63;omega) (by rw [hby];exact growslice_fits (by omega) (by omega))
  rw [hr] at hr2
  injection hr2 with e1 e2
  subst e1
  intro k hk
  simp [Value.ownBlock] at hk
  exact .inr (by omega)
 unfold Oper.wp execOp
 simp only [ho,resolve,invoke,builtin,Sem.run_bind,Sem.run_pure,Result.andThen_ok,List.map_toArray,List.map_cons,List.map_nil,hs,hx,hr]
 exact h v' w' h2 h3 hfr
theorem bHb{E E2 e:TypeId}{x y:Operand}{k:Nat}{v:Value}{cs ds r:List AC}(A:List bA)(i:TypeInfo){B:List bA}{z:ByteArray}(ho:o.op=.call {callee:=.builtin .append,args:=#[x,y],argTypes:=#[E,E2]})(hd:o.dst=some d)(hn:d<n)
  (hx:evA ⟨n,T,⟨bx,A++⟨v,e,1,k,cs⟩::B⟩,ts⟩ x=some (.c (.val v))) (hy:evA ⟨n,T,⟨bx,A++⟨v,e,1,k,cs⟩::B⟩,ts⟩ y=some (.c (.val (.string z)))) (hu:P.underlying E=some (.slice e)) (hu2:P.underlying E2=some .string) (hi:P.info? e=some i) (hz:i.zero=some (.int .u8 0)) (hsz:i.size=1) (hby:i.bytes=1)
  (hlen:k+z.size <= maxLen) (hbytes:k+z.size <= 140737488355328) {N:Nat} (hN:k+z.size=N) (hds:iF z.data.toList=ds) (hU:(⟨bx,A++⟨v,e,1,k,cs⟩::B⟩:Sto).bl.Nodup -> ∀b,b∈aY v -> b∈U) (hT:∀b,b∈aY v -> b∈T) (hr:cs++ds=r)
  (h:∀v',K ⟨n,aY v'++T,⟨bx,A++⟨v',e,1,N,r⟩::B⟩,(d,.c (.val v'))::ts⟩):AO P U o ⟨n,T,⟨bx,A++⟨v,e,1,k,cs⟩::B⟩,ts⟩ K:=by
 subst hr;subst hN;subst hds
 refine bGt A hd hn rfl (by decide) (fun a w hs us hown=>⟨Lib.strCells z,?_,fun KK QQ hK=>bG0 w x y E E2 ho e i hu hu2 hi hz hsz hby v k us (hs.val hx) hown z (hs.val hy) hlen hbytes hK⟩) hU hT h
 have hR:=gU (bI (⟨bx,A++⟨v,e,1,k,cs⟩::B⟩:Sto).bl w) (Lib.strCells z) (fun u hu=>by obtain ⟨c,_,rfl⟩:=List.mem_map.1 hu;rfl)
 have e1:(Lib.strCells z).map AC.val=iF z.data.toList:=by simp [Lib.strCells,iF]
 rw [e1] at hR
 exact hR
end
end
section
open Go.RowKit Go.Sort
theorem bLy:∀u:Nat,Lib.decDigits u=cO u:=fun u=>by
 induction u using Nat.strongRecOn with
 |_ u ih=>
  rw [Lib.decDigits,cO]
  by_cases h:u<10
  ·rw [dif_pos h,if_pos h]
  rw [dif_neg h,if_neg h,ih (u/10) (by omega)]
theorem bQn(n:Int):Lib.itoa n=eH n:=by
 unfold Lib.itoa eH
 rw [bLy,bLy]
 by_cases h:n<0
 ·rw [if_pos h,if_pos h]
 rw [if_neg h,if_neg h,show n.toNat=n.natAbs by omega]
theorem bOw(w:World)(k:Nat)(os:Array Obj):Below w.heap.size w (grow (w.drewN k) os):=
 ⟨rfl,rfl,rfl,by show w.heap.size <= (w.heap++os).size;rw [Array.size_append];omega,fun i hi=>by show (w.heap++os)[i]?=_;rw [Array.getElem?_append_left hi]⟩
theorem bPs(n:Int)(h0:fit n)(s:Sto):aL prog 116 [bK5 (.c (.val (.int .i64 n)))] [] s fun t s'=>t=.c (.val (.string (bytes (eH n)))) /\ s'=s:=by
 intro vs w hm _ hl hr
 obtain ⟨v,rfl⟩:∃v,vs=[v]:=by
  cases vs with
  |nil=>cases hl
  |cons v vs=>cases vs with
   |nil=>exact ⟨v,rfl⟩
   |cons _ _=>simp at hl
 have h1:dO (bI s.bl w) (bK5 (.c (.val (.int .i64 n)))) v:=hr 0 (by simp) (by simp)
 obtain rfl:=(bPv _ _ h1).val
 refine (Tryz.strconv_Itoa n h0.1 h0.2 w (bMx h1).tab).mono ?_
 rintro e w' ⟨rfl,k,os,rfl⟩
 obtain ⟨hk,hm'⟩:=aBl hm (bOw w k os)
 have he:bytes (eH n)=⟨(Lib.itoa n).toArray⟩:=by rw [bQn];rfl
 rw [he]
 exact ⟨_,_,s,rfl,⟨rfl,rfl⟩,dO.c _ _ (.val _ rfl),hm',hk,fun b hb=>.inl hb⟩
section
variable {P:Program}{U T:List Nat}{o:Oper}{n d:Nat}{ts:List (Nat×AT)}{s:Sto}{K:AS -> Prop}{st:AS}{p:World -> Prop}{t0 u:AT}{us:List AT}{bx:List Box}{rw:List bA}{ops:Array Oper}{l:List Oper}{Q:Exit -> AS -> Prop}
theorem bOy{E E':TypeId}{x:Operand}{k k':IntKind}{m r:Int}(ho:o.op=.convert E E' x)(hx:evA st x=some (.c (.val (.int k m))))(hE:(P.underlying E).isSome=true)(hE':P.underlying E'=some (.int (P.intKind E')))(hk8:P.intKind E'=k')(hr:k'.wrap m=r):AY P U o st (.c (.val (.int k' r))):=by
 intro a w hs _
 refine ⟨_,.c _ _ (.val _ rfl),fun w' _=>?_⟩
 have h1:=run_convert_int (P:=P) (w:=w') E E' k m hE hE'
 simp only [execOp,ho,Sem.run_bind,hs.val hx]
 rw [h1,hk8,hr];rfl
theorem bSh{m:Int}(h1:0 <= m)(h2:m <= 18446744073709551615):IntKind.u64.wrap m=m:=by
 have:IntKind.u64.wrap m=m%18446744073709551616:=by unfold IntKind.wrap;simp [IntKind.signed,IntKind.bits]
 rw [this];omega
theorem bNr{t e:TypeId}{x y':Operand}{b h N:Nat}{k2:IntKind}{j:Int}(ho:o.op=.slice t x none (some y') none)(hx:evA st x=some (pP b))(hy':evA st y'=some (.c (.val (.int k2 j))))(hj:j=h)(h2:h <= N)(h0:0<N)
  (ht:∀w,(underlying t).run P w=.ok (.array N e) w) (hz:∀w,(sizeOf e).run P w=.ok 1 w):AY P U o st (.c (.val (.slice (some ⟨b,0,none⟩) h N))):=
 fW rfl fun a w hs w'=>by
  subst hj
  simp only [execOp,ho,hs.val hx,hs.val hy',Instr.sliceAt,Option.map_some,Option.map_none,Sem.run_bind,Sem.run_pure,Result.andThen_ok,ht,Instr.sureAddr,hz]
  simp [go_sem,Instr.sliceBounds,asIntOf]
  omega
theorem bMs{st:AS}{F:FuncId}{cap:Array Operand}{vs:List Value}(ho:o.op=.makeFunc (.func F) #[] cap)(hc:cap.toList.map (evA st)=vs.map fun v=>some (.c (.val v))):AY P U o st (.c (.val (.func (.func F) #[] vs.toArray))):=
 fW rfl fun a w hs w'=>by
  have e:cap.map a.eval=vs.toArray:=by
   rw [←Array.toList_inj,Array.toList_map]
   have:∀(l:List Operand)(vs:List Value),l.map (evA st)=vs.map (fun v=>some (.c (.val v))) -> l.map a.eval=vs:=by
    intro l
    induction l with
    |nil=>intro vs h;cases vs with|nil=>rfl|cons=>cases h
    |cons x l ih=>
     intro vs h
     cases vs with
     |nil=>cases h
     |cons v vs=>
      simp only [List.map_cons,List.cons.injEq] at h⊢
      exact ⟨hs.val h.1,ih vs h.2⟩
   exact this _ _ hc
  simp only [execOp,ho,Instr.makeFunc,e]
  simp [go_sem]
theorem bNo{F:FuncId}{x:Operand}{cap:Array Value}{ars:Array Operand}{tys:Array TypeId}{b c:Bool}(i0:Nat)(h0:(fC ops o ⟨n,T,s,ts⟩,o.op,evA ⟨n,T,s,ts⟩ x,o.dst,Nat.blt d n,look ts i0)=(some true,.call {callee:=.value x,args:=ars,argTypes:=tys},some (.c (.val (.func (.func F) #[] cap))),some d,true,some (.ride t0 p)))
  (hcf:∀args w,(callFunc F args).run P w=.ok (.enter F args) w) (has:ars.toList.map (evA ⟨n,T,s,ts⟩)=[u].map some) (hc:aL P F (.ride u p::cap.toList.map cst) [] s fun t s'=>t=.c (.val (.bool b)) /\ s'=s) (hb:b=c) (h:eQ P ops l ⟨n,T,s,(d,.c (.val (.bool c)))::ts⟩ Q):eQ P ops (o::l) ⟨n,T,s,ts⟩ Q:=by
 simp only [Prod.mk.injEq] at h0
 subst hb
 exact wo h0.1 (bRz (us:=[]) i0 [] h0.2.1 h0.2.2.1 h0.2.2.2.1 (Nat.le_of_ble_eq_true h0.2.2.2.2.1) hcf h0.2.2.2.2.2 has hc noT noT (fun _=>noT) fun r s' ⟨h1,h2⟩=>by subst h1;subst h2;exact h)
theorem bR5(i j:Nat){c:Code}{t1:AT}(hi:look ts i=some (.ride t0 p))(hj:look ts j=some t1)(h:AWp P c ⟨n,T,s,(j,.ride t1 p)::ts⟩ Q):AWp P c ⟨n,T,s,ts⟩ Q:=by
 refine zU (st':=⟨n,T,s,(j,.ride t1 p)::ts⟩) (fun a w hs=>?_) h
 refine ⟨⟨hs.df,hs.sz,fun k x hx=>?_,hs.mem⟩,fun _ h=>h,fun _ h=>h⟩
 simp only [look] at hx
 split at hx
 ·rename_i he;subst he;cases hx
  obtain ⟨v,e1,e2⟩:=hs.tm j t1 hj
  obtain ⟨v0,-,e3⟩:=hs.tm i _ hi
  exact ⟨v,e1,bL3 e3 e2⟩
 exact hs.tm k x hx
theorem bR3(E:TypeId)(z:Nat)(h:eQ P ops l ⟨n,T,⟨bx,⟨.slice none 0 0,E,z,0,[]⟩::rw⟩,ts⟩ Q):eQ P ops l ⟨n,T,⟨bx,rw⟩,ts⟩ Q:=uQ (aOb (st:=⟨n,T,⟨bx,rw⟩,ts⟩) E z) h
theorem bMu{F:FuncId}{ars:Array Operand}{tys:Array TypeId}{v:Value}{E:TypeId}{z k k':Nat}{cs cs':List AC}(i0:Nat)(h0:(o.op,o.dst,Nat.blt d n,look ts i0)=(.call {callee:=.value (.func F),args:=ars,argTypes:=tys},some d,true,some (.ride t0 p)))
  (hcf:∀args w,(callFunc F args).run P w=.ok (.enter F args) w) (has:ars.toList.map (evA ⟨n,T,⟨bx,⟨v,E,z,k,cs⟩::rw⟩,ts⟩)=(u::us).map some)
  (hc:aL P F (.ride u p::us) (aY v) ⟨bx,⟨v,E,z,k,cs⟩::rw⟩ fun t s'=>∃v',t=.c (.val v') /\ s'=⟨bx,⟨v',E,z,k',cs'⟩::rw⟩) (hT:∀b,b∈aY v -> b∈T) (hU:(⟨bx,⟨v,E,z,k,cs⟩::rw⟩:Sto).bl.Nodup -> ∀b,b∈aY v -> b∈U)
  (h:∀v',K ⟨n,aY v'++T,⟨bx,⟨v',E,z,k',cs'⟩::rw⟩,(d,.c (.val v'))::ts⟩):AO P U o ⟨n,T,⟨bx,⟨v,E,z,k,cs⟩::rw⟩,ts⟩ K:=by
 simp only [Prod.mk.injEq] at h0
 obtain ⟨ho,hd,hn,hl⟩:=h0
 intro a w hs KK QQ' hK
 obtain ⟨h1,h2⟩:=rU hs has
 obtain ⟨v0,-,hv0⟩:=hs.tm i0 _ hl
 have hTb:∀b,b∈aY v -> b∈(⟨bx,⟨v,E,z,k,cs⟩::rw⟩:Sto).bl:=fun b hb=>by unfold Sto.bl;simp [hb]
 unfold Oper.wp
 rw [show (execOp a.eval o).run P w=.ok (.enter F (ars.toList.map a.eval).toArray) w from by
  simp only [execOp,ho,resolve,Deferred.ofValue,Act.eval,Sem.run_bind,Sem.run_pure,Result.andThen_ok,invoke]
  rw [hcf]
  congr 2
  rw [←Array.toList_inj];simp,Oper.upon_enter]
 refine (hc _ w hs.mem hTb h1 (fun i hi hi'=>?_)).mono ?_
 ·match i,hi with
  |0,hi=>exact bL3 hv0 (h2 0 (by simp) hi')
  |i+1,hi=>exact h2 (i+1) (by simpa using hi) hi'
 ·rintro en w' ⟨r,vr,s',rfl,⟨v',rfl,rfl⟩,hr,hm,hk,hb⟩
  dsimp only
  rw [hd]
  have s1:=hs.step (aY v'++T) (hk.mono hTb) hm hb
  refine hK _ _ _ (h v') (s1.put (Nat.le_of_ble_eq_true hn) hr) ⟨hk.mono hTb,hk.mono hT,hb,fun b hb2=>?_⟩ (hk.mono (hU hs.mem.nodup))
  rcases mem_append.1 hb2 with hb2|hb2
  ·have e1:b∈(⟨bx,⟨v',E,z,k',cs'⟩::rw⟩:Sto).bl:=by unfold Sto.bl;simp [hb2]
   exact (hb b e1).imp (fun h9=>hT b (aFb (bx:=bx) (bx':=bx) rfl hm.nodup hb2 h9)) id
  exact .inl hb2
theorem bPe{F:FuncId}{x:Operand}{cap:Array Value}{ars:Array Operand}{tys:Array TypeId}{v:Value}{E:TypeId}{z k k':Nat}{cs cs':List AC}(i0:Nat)(h0:(o.op,evA ⟨n,T,⟨bx,⟨v,E,z,k,cs⟩::rw⟩,ts⟩ x,o.dst,Nat.blt d n,look ts i0)=(.call {callee:=.value x,args:=ars,argTypes:=tys},some (.c (.val (.func (.func F) #[] cap))),some d,true,some (.ride t0 p)))
  (hcf:∀args w,(callFunc F args).run P w=.ok (.enter F args) w) (has:ars.toList.map (evA ⟨n,T,⟨bx,⟨v,E,z,k,cs⟩::rw⟩,ts⟩)=(u::us).map some)
  (hc:aL P F (.ride u p::(us++cap.toList.map cst)) (aY v) ⟨bx,⟨v,E,z,k,cs⟩::rw⟩ fun t s'=>∃v',t=.c (.val v') /\ s'=⟨bx,⟨v',E,z,k',cs'⟩::rw⟩) (hT:∀b,b∈aY v -> b∈T) (hU:(⟨bx,⟨v,E,z,k,cs⟩::rw⟩:Sto).bl.Nodup -> ∀b,b∈aY v -> b∈U)
  (h:∀v',K ⟨n,aY v'++T,⟨bx,⟨v',E,z,k',cs'⟩::rw⟩,(d,.c (.val v'))::ts⟩):AO P U o ⟨n,T,⟨bx,⟨v,E,z,k,cs⟩::rw⟩,ts⟩ K:=by
 simp only [Prod.mk.injEq] at h0
 obtain ⟨ho,hx,hd,hn,hl⟩:=h0
 intro a w hs KK QQ' hK
 obtain ⟨h1,h2⟩:=rU hs has
 obtain ⟨v0,-,hv0⟩:=hs.tm i0 _ hl
 obtain ⟨d1,d2⟩:=aA7 (bI (⟨bx,⟨v,E,z,k,cs⟩::rw⟩:Sto).bl w) cap.toList
 have hTb:∀b,b∈aY v -> b∈(⟨bx,⟨v,E,z,k,cs⟩::rw⟩:Sto).bl:=fun b hb=>by unfold Sto.bl;simp [hb]
 have h3:(ars.toList.map a.eval).length=(AT.ride u p::us).length /\ ∀i (h:i<(AT.ride u p::us).length) (h':i<(ars.toList.map a.eval).length),dO (bI (⟨bx,⟨v,E,z,k,cs⟩::rw⟩:Sto).bl w) (AT.ride u p::us)[i] (ars.toList.map a.eval)[i]:=by
  refine ⟨h1,fun i hi hi'=>?_⟩
  match i,hi with
  |0,hi=>exact bL3 hv0 (h2 0 (by simp) hi')
  |i+1,hi=>exact h2 (i+1) (by simpa using hi) hi'
 obtain ⟨g3,g4⟩:=aBo h3.1 h3.2 d1 d2
 unfold Oper.wp
 rw [show (execOp a.eval o).run P w=.ok (.enter F (ars.toList.map a.eval++cap.toList).toArray) w from by
  simp only [execOp,ho,resolve,hs.val hx,Deferred.ofValue,Sem.run_bind,Sem.run_pure,Result.andThen_ok,invoke]
  rw [hcf]
  congr 2
  rw [←Array.toList_inj];simp,Oper.upon_enter]
 refine (hc _ w hs.mem hTb g3 g4).mono ?_
 rintro en w' ⟨r,vr,s',rfl,⟨v',rfl,rfl⟩,hr,hm,hk,hb⟩
 dsimp only
 rw [hd]
 have s1:=hs.step (aY v'++T) (hk.mono hTb) hm hb
 refine hK _ _ _ (h v') (s1.put (Nat.le_of_ble_eq_true hn) hr) ⟨hk.mono hTb,hk.mono hT,hb,fun b hb2=>?_⟩ (hk.mono (hU hs.mem.nodup))
 rcases mem_append.1 hb2 with hb2|hb2
 ·have e1:b∈(⟨bx,⟨v',E,z,k',cs'⟩::rw⟩:Sto).bl:=by unfold Sto.bl;simp [hb2]
  exact (hb b e1).imp (fun h9=>hT b (aFb (bx:=bx) (bx':=bx) rfl hm.nodup hb2 h9)) id
 exact .inl hb2
end
theorem bNn(w:World)(b:Nat)(cur:Array Value)(T:TypeId)(fz:Nat×Nat)(f:Array Value -> Array Value)(h:w.heap[b]?=some (.cells cur T fz)):mapBlock w b f=w.setRow b (f cur):=by
 unfold mapBlock World.setRow
 congr 1
 apply Array.ext_getElem?
 intro k
 simp only [Array.getElem?_modify]
 by_cases hk:b=k
 ·subst hk;rw [if_pos rfl,if_pos rfl,h];rfl
 rw [if_neg hk,if_neg hk]
theorem Mem.drewN{s:Sto}{w:World}(h:Mem s w):∀k,Mem s (w.drewN k)
 |0=>h
 |k+1=>(Mem.drewN h k).drew
theorem bRk(b:Nat)(T:TypeId)(cs:List UInt8)(u N:Nat)(bx:List Box)(rw:List bA)(hu:u<18446744073709551616)(hn:Lib.nDigits u <= cs.length)(hc:cs.length <= 100):aL prog 211 [.c (.val (.slice (some ⟨b,0,none⟩) (Lib.nDigits u) N)),.c (.val (.int .u64 ((u:Nat):Int)))] [b] ⟨⟨b,T,iF cs⟩::bx,rw⟩ fun t s'=>t=.tup [] /\ s'=⟨⟨b,T,iF (cO u)++iF (cs.drop (Lib.nDigits u))⟩::bx,rw⟩:=by
 rw [show iF (cO u)++iF (cs.drop (Lib.nDigits u))=iF (cO u++cs.drop (Lib.nDigits u)) by unfold iF;rw [List.map_append]]
 intro vs w hm _ hl hr
 obtain ⟨v1,v2,rfl⟩:∃v1 v2,vs=[v1,v2]:=by
  match vs,hl with
  |[x,y],_=>exact ⟨x,y,rfl⟩
 obtain rfl:v1=_:=(show dO _ (.c (.val (.slice (some ⟨b,0,none⟩) (Lib.nDigits u) N))) v1 from hr 0 (by simp) (by simp)).val
 obtain rfl:v2=_:=(show dO _ (.c (.val (.int .u64 ((u:Nat):Int)))) v2 from hr 1 (by simp) (by simp)).val
 obtain ⟨us,⟨fz,hfz,h1⟩,h2⟩:=hm.box ⟨b,T,iF cs⟩ (by simp)
 obtain rfl:us=cC cs:=yC (vs:=cC cs) (by rw [show (cC cs).map AC.val=iF cs by simp [cC,iF]];exact h2)
 have hlen:(cC cs).length=cs.length:=by simp [cC]
 have hbr:=setRow_heap
 have hH:Holds (fun (b:UInt8)=>Value.int .u8 (b.toNat:Int)) w b 0 (cs.take (Lib.nDigits u)).toArray:=by
  intro j hj
  have hj1:j<Lib.nDigits u:=by simpa [Nat.min_eq_left hn] using hj
  have hj2:j<cs.length:=by omega
  refine ⟨?_,?_⟩
  ·rw [getElem!_pos _ j hj]
   unfold World.cell?
   simp only [h1]
   simp [cC,hj2]
  obtain ⟨lo,up⟩:=fz
  simp only [World.frozen?,h1,Bool.and_eq_false_iff,decide_eq_false_iff_not]
  rcases hfz with h|h
  ·cases h;exact .inr (by omega)
  dsimp only at h;rw [hlen] at h;exact .inl (by omega)
 have hsz:(cs.take (Lib.nDigits u)).toArray.size=Lib.nDigits u:=by simp [Nat.min_eq_left hn]
 have hcall:=Tryz.internal_strconv_formatBase10 b 0 N u (cs.take (Lib.nDigits u)).toArray w hH (by rw [hsz];exact Lib.lt_pow_nDigits u) hu (by rw [hsz];omega)
 rw [hsz] at hcall
 refine hcall.mono ?_
 rintro e w' ⟨rfl,k,v',dk,rfl,hinv⟩
 have hdk:dk.toList=cO u:=by
  rw [←bLy]
  have hs1:dk.size=Lib.nDigits u:=hinv.size
  refine List.ext_getElem (by rw [Lib.decDigits_length,Array.length_toList,hs1]) fun j h3 h4=>?_
  rw [Lib.row_is_numeral hinv j h4,getElem!_pos dk j (by simpa using h3)];simp
 have hs1:dk.size=Lib.nDigits u:=hinv.size
 have hput:putCells (fun (b:UInt8)=>Value.int .u8 (b.toNat:Int)) 0 dk (cC cs).toArray=(cC (cO u++cs.drop (Lib.nDigits u))).toArray:=by
  apply Array.ext_getElem?
  intro i
  simp only [putCells,Array.getElem?_mapIdx,List.getElem?_toArray]
  unfold cC
  rw [List.getElem?_map,List.getElem?_map]
  have hdl:(cO u).length=Lib.nDigits u:=by rw [←hdk];simpa using hs1
  by_cases hi:i<Lib.nDigits u
  ·rw [List.getElem?_append_left (by rw [hdl];exact hi),List.getElem?_eq_getElem (show i<cs.length by omega),List.getElem?_eq_getElem (by rw [hdl];exact hi)]
   simp only [Option.map_some,Nat.zero_le,true_and,Nat.zero_add,Nat.sub_zero]
   rw [if_pos (by rw [hs1];exact hi),getElem!_pos dk i (by rw [hs1];exact hi)]
   have:dk[i]'(by rw [hs1];exact hi)=(cO u)[i]'(by rw [hdl];exact hi):=by simp only [←hdk];simp
   rw [this]
  rw [List.getElem?_append_right (by rw [hdl];omega),List.getElem?_drop,hdl,show Lib.nDigits u+(i-Lib.nDigits u)=i by omega]
  cases hci:cs[i]? with
  |none=>rfl
  |some c=>
   simp only [Option.map_some,Nat.zero_le,true_and,Nat.zero_add]
   rw [if_neg (by rw [hs1];exact hi)]
 have hw1:putRow (fun (b:UInt8)=>Value.int .u8 (b.toNat:Int)) w b 0 dk=w.setRow b (cC (cO u++cs.drop (Lib.nDigits u))).toArray:=by
  unfold putRow
  rw [bNn w b _ T fz _ h1,hput]
 rw [hw1]
 have hlen2:(cC (cO u++cs.drop (Lib.nDigits u))).length=(cC cs).length:=by
  have hdl:(cO u).length=Lib.nDigits u:=by rw [←hdk];simpa using hs1
  simp [cC,hdl];omega
 have hR:fG (bI (⟨⟨b,T,iF cs⟩::bx,rw⟩:Sto).bl w) (iF (cO u++cs.drop (Lib.nDigits u))) (cC (cO u++cs.drop (Lib.nDigits u))):=by
  have h9:=gU (bI (⟨⟨b,T,iF cs⟩::bx,rw⟩:Sto).bl w) (cC (cO u++cs.drop (Lib.nDigits u))) (fun u hu=>by obtain ⟨c,_,rfl⟩:=List.mem_map.1 hu;rfl)
  rw [show (cC (cO u++cs.drop (Lib.nDigits u))).map AC.val=iF (cO u++cs.drop (Lib.nDigits u)) by unfold cC iF;rw [List.map_map];rfl] at h9
  exact h9
 have hm1:=hm.setRow (A:=[]) (B:=bx) rfl hfz hlen2 h1 hR
 have hk1:=oI w b (cC (cO u++cs.drop (Lib.nDigits u))).toArray
 refine ⟨_,_,_,rfl,⟨rfl,rfl⟩,.tup [] [] rfl (fun i h=>absurd h (by simp)),hm1.drewN k,hk1.drewN k,fun b' hb'=>.inl ?_⟩
 unfold Sto.bl at hb'⊢
 exact hb'
theorem bMa{u:Nat}(h:u<18446744073709551616):1 <= Lib.nDigits u /\ Lib.nDigits u <= 20:=by
 refine ⟨Lib.nDigits_pos u,?_⟩
 by_cases h1:1 <= u
 ·have h2:=Lib.numDigits_eq u h1 h
  have h3:(if 10 ^ Lib.l10 (Lib.bitLen u) <= u then 1 else 0) <= 1:=by split<;>omega
  omega
 rw [Lib.nDigits_small (by omega)];omega
theorem bL6(u:Nat):(cO u).length=Lib.nDigits u:=by rw [←bLy];exact Lib.decDigits_length u
theorem bQp(i:Nat)(h:i<100)(s:Sto):aL prog 209 [nI i] [] s fun t s'=>t=.c (.val (.string (bytes (cO i)))) /\ s'=s:=
 aP3 (us:=[.int .i64 ((i:Nat):Int)]) rfl rfl (fun w=>(Tryz.internal_strconv_small i h w).mono fun e w' ⟨h1,h2⟩=>⟨by rw [h1,bLy];rfl,h2.symm⟩) s
theorem bP7(u:Nat)(h1:1 <= u)(h2:u<18446744073709551616)(s:Sto):aL prog 210 [bK5 (.c (.val (.int .u64 ((u:Nat):Int))))] [] s fun t s'=>t=.c (.val (.int .i64 ((Lib.nDigits u:Nat):Int))) /\ s'=s:=
 bNt (us:=[]) rfl (fun w he=>(Tryz.internal_strconv_numDigits u h1 h2 w he.tab).mono fun e w' ⟨h1,h2⟩=>⟨h1,h2.symm⟩) s
theorem bLc(a b:List UInt8):iF a++iF b=iF (a++b):=by unfold iF;rw [List.map_append]
instance bSl:eM prog 244 (iF (List.replicate 24 0)):=⟨_,zeroValue244,rfl⟩
end
section
open Go.RowKit
def okA(W:Nat)(a:Option Addr):Prop:=a=none∨a=some ⟨W,0,none⟩
def nz(bs:List UInt8)(v:Value):Prop:=bs=[] -> v=.slice none 0 0
abbrev WS(A:List Box)(W m:Nat)(a:Option Addr)(v:Value)(bs:List UInt8)(B:List Box)(rw:List bA):Sto:=⟨A++⟨W,135,[.val (.pointer a),.val v,nC m]⟩::B,⟨v,5,1,bs.length,iF bs⟩::rw⟩
instance bSk:Cst .nilIface (.c (.val .nilIface)):=⟨rfl⟩
section
variable {P:Program}{U T:List Nat}{o:Oper}{n d:Nat}{ts:List (Nat×AT)}{s:Sto}{K:AS -> Prop}{st:AS}{bx:List Box}{rw:List bA}{ops:Array Oper}{l:List Oper}{Q:Exit -> AS -> Prop}
theorem bNp{t yt te:TypeId}{j:TypeInfo}{x y:Operand}{q:Option Addr}(ho:o.op=.binOp .eql t x y yt)(hx:evA st x=some (.c (.val (.pointer q))))(hy:evA st y=some (.c (.val (.pointer none))))(hp:P.underlying t=some (.pointer te))(hte:P.info? te=some j):AY P U o st (.c (.val (.bool q.isNone))):=
 fW rfl fun a w hs w'=>by
  have h:∀d:Nat,(Op.equalIn (d+1) t (.pointer q) (.pointer none)).run P w'=.ok q.isNone w':=fun d=>by
   cases q<;>simp [Op.equalIn,run_underlying hp,sizeOf,typeInfo,hte,samePointer]
  have h2:(Op.equal t (.pointer q) (.pointer none)).run P w'=.ok q.isNone w':=h 9999
  generalize hg:Op.equal t (.pointer q) (.pointer none)=E at h2
  simp only [execOp,ho,hs.val hx,hs.val hy]
  simp_all [go_sem,eqGuard,binOp]
theorem bQ4{t yt te:TypeId}{j:TypeInfo}{x y:Operand}{q:Addr}(ho:o.op=.binOp .neq t x y yt)(hx:evA st x=some (.c (.val (.pointer (some q)))))(hy:evA st y=some (.c (.val (.pointer (some q)))))(hp:P.underlying t=some (.pointer te))(hte:P.info? te=some j):AY P U o st (.c (.val (.bool false))):=
 fW rfl fun a w hs w'=>by
  have h2:=Lib.run_neq_ptr_same w' q hp hte
  simp only [execOp,ho,hs.val hx,hs.val hy]
  simp [go_sem,eqGuard,h2]
theorem bP6 {F : FuncId} {fn : Func} {x : Operand} {tys : Array TypeId} {t : AT} (ho : o.op = .call { callee := .value (.func F), args := #[x], argTypes := tys }) (hx : evA st x = some t) (hf : P.funcs[F]? = some fn) (hname : (fn.name == "runtime.NumGoroutine") = false) (hb : fn.body.isNone = true) (hn : Extern.findNext fn = none) (he : Extern.find fn = some Extern.AbiNoEscape.same) : AY P U o st t := by
 intro a w hs _
 refine ⟨a.eval x,hs.ev hx,fun w' _=>?_⟩
 simp only [execOp,ho,resolve,Deferred.ofValue,Act.eval,Sem.run_bind,Sem.run_pure,Result.andThen_ok,invoke,List.map_toArray,List.map_cons,List.map_nil]
 have h1:=run_callFunc_extern hf hname hb hn he #[a.eval x] w'
 rw [Lib.run_noEscape] at h1
 simp only [Result.andThen_ok] at h1
 simpa [Act.eval] using h1
theorem bNs{w w':World}{U:List Nat}{b:Nat}{T:TypeId}{cs:List AC}(hm:Mem s w)(hb:(⟨b,T,cs⟩:Box)∈s.boxes)(hk:cW U w w')(hU:b∉U):w'.shape? b=some (T,cs.length):=by
 obtain ⟨us,⟨fz,-,h1⟩,h2⟩:=hm.box _ hb
 have h3:w'.heap[b]?=_:=(hk.block b (hm.lt b (List.mem_append_left _ (List.mem_map.2 ⟨_,hb,rfl⟩))) hU).trans h1
 unfold World.shape?
 rw [h3]
 simp [h2.len]
theorem bR9{E E' te:TypeId}{j:TypeInfo}{x:Operand}{b:Nat}{T0:TypeId}{cs:List AC}(A:List Box){B:List Box}(ho:o.op=.convert E E' x)(hx:evA st x=some (pP b))(hb:st.s.boxes=A++⟨b,T0,cs⟩::B)(hE:P.underlying E=some (.pointer te))(hE':P.underlying E'=some .unsafePointer)(ht:P.info? te=some j)(hj:j.size≠0)(hl:0<cs.length)(hU:b∉U):AY P U o st (pP b):=by
 intro a w hs _
 refine ⟨_,.c _ _ (.val _ rfl),fun w' hk=>?_⟩
 have hsh:=bNs hs.mem (b:=b) (T:=T0) (cs:=cs) (by rw [hb];simp) hk hU
 simp only [execOp,ho,Sem.run_bind,hs.val hx]
 rw [Lib.run_to_unsafe w' ⟨b,0,none⟩ hE hE' ht hj hsh hl];rfl
theorem bRc{E E' u:TypeId}{j:TypeInfo}{x:Operand}{b:Nat}{T0:TypeId}{cs:List AC}(A:List Box){B:List Box}(ho:o.op=.convert E E' x)(hx:evA st x=some (pP b))(hb:st.s.boxes=A++⟨b,T0,cs⟩::B)(hE:P.underlying E=some .unsafePointer)(hE':P.underlying E'=some (.pointer u))(ht:P.info? u=some j)(hlies:liesAt P P.depth T0 (cs.length/P.cellsOf T0) 0 u 1=true)(hU:b∉U):AY P U o st (pP b):=by
 intro a w hs _
 refine ⟨_,.c _ _ (.val _ rfl),fun w' hk=>?_⟩
 have hsh:=bNs hs.mem (b:=b) (T:=T0) (cs:=cs) (by rw [hb];simp) hk hU
 simp only [execOp,ho,Sem.run_bind,hs.val hx]
 rw [Lib.run_from_unsafe w' ⟨b,0,none⟩ hE hE' ht hsh hlies];rfl
theorem bMj{α:Type}{c:Code}{T':List Nat}{s':Sto}(p:Nat -> α -> Prop)(N i:Nat)(T:α -> List Nat)(S:Nat -> α -> Sto)(fx:Nat -> List (Nat×AT))(g0:α)(hp:p 0 g0)(hs:Sub ⟨n,T',s',ts⟩ ⟨n,T g0,S 0 g0,(i,nI 0)::fx 0⟩)
  (round:∀k g,k <= N -> p k g -> AWp P c ⟨n,T g,S k g,(i,nI k)::fx k⟩ (sU (fun s'=>k<N /\ ∃g',p (k+1) g' /\ Sub s' ⟨n,T g',S (k+1) g',(i,nI (k+1))::fx (k+1)⟩) Q)):AWp P (.loop c) ⟨n,T',s',ts⟩ Q:=by
 refine fM (fun g:Nat×α=>⟨n,T g.2,S g.1 g.2,(i,nI g.1)::fx g.1⟩) (fun g=>g.1 <= N /\ p g.1 g.2) (fun g=>N-g.1) (0,g0) hs ⟨Nat.zero_le _,hp⟩ fun g hg=>sE (round g.1 g.2 hg.1 hg.2) fun e s' h=>?_
 cases e with
 |normal=>
  obtain ⟨h1,g',h2,h3⟩:=h
  exact ⟨(g.1+1,g'),⟨h1,h2⟩,by show N-(g.1+1)<N-g.1;omega,h3⟩
 |_=>exact h
theorem bMm{bx bx':List Box}{rw rw':List bA}{s':Sto}{T':List Nat}{ts':List (Nat×AT)}(h1:bx'.Sublist bx)(h2:rw'.Sublist rw)(he:(⟨bx',rw'⟩:Sto)=s')(h3:∀b,b∈T' -> b∈T)(h:Sub ⟨n,T',s',ts⟩ ⟨n,T',s',ts'⟩):Sub ⟨n,T,⟨bx,rw⟩,ts⟩ ⟨n,T',s',ts'⟩:=by
 subst he;exact cA h1 h2 h3 h
theorem bLf{A:List Box}{W m:Nat}{a:Option Addr}{v:Value}{x y:List UInt8}{B:List Box}{rw:List bA}(h:x=y):WS A W m a v x B rw=WS A W m a v y B rw:=by rw [h]
theorem wcW{F:FuncId}{ars:Array Operand}{tys:Array TypeId}{us:List AT}{W m m':Nat}{a:Option Addr}{v:Value}{bs bs':List UInt8}{r:AT}{A B:List Box}{C:Option Addr -> Value -> Prop}(h0:(o.op,o.dst,Nat.blt d n)=(.call {callee:=.value (.func F),args:=ars,argTypes:=tys},some d,true))
  (hcf:∀args w,(callFunc F args).run P w=.ok (.enter F args) w) (has:ars.toList.map (evA ⟨n,T,WS A W m a v bs B rw,ts⟩)=us.map some)
  (hc:aL P F us (W::aY v) (WS A W m a v bs B rw) fun t s'=>t=r /\ ∃a' v',C a' v' /\ s'=WS A W m' a' v' bs' B rw) (hT:W∈T) (hTv:∀b,b∈aY v -> b∈T) (hU:(WS A W m a v bs B rw).bl.Nodup -> W∈U /\ ∀b,b∈aY v -> b∈U)
  (h:∀a' v',C a' v' -> K ⟨n,aY v'++T,WS A W m' a' v' bs' B rw,(d,r)::ts⟩):AO P U o ⟨n,T,WS A W m a v bs B rw,ts⟩ K:=by
 simp only [Prod.mk.injEq] at h0
 obtain ⟨ho,hd,hn⟩:=h0
 intro act w hs KK QQ' hK
 obtain ⟨h1,h2⟩:=rU hs has
 have hTb:∀b,b∈W::aY v -> b∈(WS A W m a v bs B rw).bl:=fun b hb=>by
  unfold Sto.bl
  rcases mem_cons.1 hb with rfl|hb
  ·simp
  simp [hb]
 have hTT:∀b,b∈W::aY v -> b∈T:=fun b hb=>by
  rcases mem_cons.1 hb with rfl|hb
  ·exact hT
  exact hTv b hb
 unfold Oper.wp
 rw [show (execOp act.eval o).run P w=.ok (.enter F (ars.toList.map act.eval).toArray) w from by
  simp only [execOp,ho,resolve,Deferred.ofValue,Act.eval,Sem.run_bind,Sem.run_pure,Result.andThen_ok,invoke]
  rw [hcf]
  congr 2
  rw [←Array.toList_inj];simp,Oper.upon_enter]
 refine (hc _ w hs.mem hTb h1 h2).mono ?_
 rintro en w' ⟨r',vr,s',rfl,⟨rfl,a',v',hC,rfl⟩,hr,hm,hk,hb⟩
 dsimp only
 rw [hd]
 have s1:=hs.step (aY v'++T) (hk.mono hTb) hm hb
 refine hK _ _ _ (h a' v' hC) (s1.put (Nat.le_of_ble_eq_true hn) hr) ⟨hk.mono hTb,hk.mono hTT,hb,fun b hb2=>?_⟩ (hk.mono (fun b hb=>by
  obtain ⟨u1,u2⟩:=hU hs.mem.nodup
  rcases mem_cons.1 hb with rfl|hb
  ·exact u1
  exact u2 b hb))
 rcases mem_append.1 hb2 with hb2|hb2
 ·have e1:b∈(WS A W m' a' v' bs' B rw).bl:=by unfold Sto.bl;simp [hb2]
  exact (hb b e1).imp (fun h9=>hTv b (aFb (bx:=A++⟨W,135,[.val (.pointer a),.val v,nC m]⟩::B) (bx':=A++⟨W,135,[.val (.pointer a'),.val v',.val (.int .i64 ((m':Nat):Int))]⟩::B) (by simp) hm.nodup hb2 h9)) id
 exact .inl hb2
theorem bO5{F:FuncId}{ars:Array Operand}{tys:Array TypeId}{p:World -> Prop}{t0 u:AT}{us:List AT}{W m m':Nat}{a:Option Addr}{v:Value}{bs bs':List UInt8}{r:AT}{A B:List Box}{C:Option Addr -> Value -> Prop}(i0:Nat)(h0:(o.op,o.dst,Nat.blt d n,look ts i0)=(.call {callee:=.value (.func F),args:=ars,argTypes:=tys},some d,true,some (.ride t0 p)))
  (hcf:∀args w,(callFunc F args).run P w=.ok (.enter F args) w) (has:ars.toList.map (evA ⟨n,T,WS A W m a v bs B rw,ts⟩)=(u::us).map some)
  (hc:aL P F (.ride u p::us) (W::aY v) (WS A W m a v bs B rw) fun t s'=>t=r /\ ∃a' v',C a' v' /\ s'=WS A W m' a' v' bs' B rw) (hT:W∈T) (hTv:∀b,b∈aY v -> b∈T) (hU:(WS A W m a v bs B rw).bl.Nodup -> W∈U /\ ∀b,b∈aY v -> b∈U)
  (h:∀a' v',C a' v' -> K ⟨n,aY v'++T,WS A W m' a' v' bs' B rw,(d,r)::ts⟩):AO P U o ⟨n,T,WS A W m a v bs B rw,ts⟩ K:=by
 simp only [Prod.mk.injEq] at h0
 obtain ⟨ho,hd,hn,hl⟩:=h0
 intro act w hs KK QQ' hK
 obtain ⟨h1,h2⟩:=rU hs has
 obtain ⟨v0,-,hv0⟩:=hs.tm i0 _ hl
 have hTb:∀b,b∈W::aY v -> b∈(WS A W m a v bs B rw).bl:=fun b hb=>by
  unfold Sto.bl
  rcases mem_cons.1 hb with rfl|hb
  ·simp
  simp [hb]
 have hTT:∀b,b∈W::aY v -> b∈T:=fun b hb=>by
  rcases mem_cons.1 hb with rfl|hb
  ·exact hT
  exact hTv b hb
 unfold Oper.wp
 rw [show (execOp act.eval o).run P w=.ok (.enter F (ars.toList.map act.eval).toArray) w from by
  simp only [execOp,ho,resolve,Deferred.ofValue,Act.eval,Sem.run_bind,Sem.run_pure,Result.andThen_ok,invoke]
  rw [hcf]
  congr 2
  rw [←Array.toList_inj];simp,Oper.upon_enter]
 refine (hc _ w hs.mem hTb h1 (fun i hi hi'=>?_)).mono ?_
 ·match i,hi with
  |0,hi=>exact bL3 hv0 (h2 0 (by simp) hi')
  |i+1,hi=>exact h2 (i+1) (by simpa using hi) hi'
 rintro en w' ⟨r',vr,s',rfl,⟨rfl,a',v',hC,rfl⟩,hr,hm,hk,hb⟩
 dsimp only
 rw [hd]
 have s1:=hs.step (aY v'++T) (hk.mono hTb) hm hb
 refine hK _ _ _ (h a' v' hC) (s1.put (Nat.le_of_ble_eq_true hn) hr) ⟨hk.mono hTb,hk.mono hTT,hb,fun b hb2=>?_⟩ (hk.mono (fun b hb=>by
  obtain ⟨u1,u2⟩:=hU hs.mem.nodup
  rcases mem_cons.1 hb with rfl|hb
  ·exact u1
  exact u2 b hb))
 rcases mem_append.1 hb2 with hb2|hb2
 ·have e1:b∈(WS A W m' a' v' bs' B rw).bl:=by unfold Sto.bl;simp [hb2]
  exact (hb b e1).imp (fun h9=>hTv b (aFb (bx:=A++⟨W,135,[.val (.pointer a),.val v,nC m]⟩::B) (bx':=A++⟨W,135,[.val (.pointer a'),.val v',.val (.int .i64 ((m':Nat):Int))]⟩::B) (by simp) hm.nodup hb2 h9)) id
 exact .inl hb2
end
end
end Go.Proofs.YtojinfngbbajgaaGreatDoor
