import Derived.Test.YtbdfdjdgfanjaaaDoorV8J
import Derived.Test.YtbdfdjdgfanjaaaDoorShelfJ
import Derived.Sort.Row
import Derived.Test.YtbdfdjdgfanjaaaDoorV3J
import Derived.Test.YtbdfdjdgfanjaaaDoorProg
import Derived.Test.YtbdfdjdgfanjaaaDoorV5J
set_option linter.all false
set_option synthInstance.maxHeartbeats 1000000
set_option synthInstance.maxSize 1000000
set_option maxHeartbeats 1600000
set_option maxRecDepth 100000
namespace Go.Proofs.YtbdfdjdgfanjaaaDoor
open Go.Proofs.Tryd
open List (length_append length_cons length_nil mem_append mem_cons not_mem_nil append_assoc getElem_mem take_of_length_le)
section
open Go.RowKit Go.Sort
theorem bLy:∀u:Nat,Lib.decDigits u=cO u:=fun u=>by
 induction u using Nat.strongRecOn with
 |_ u ih=>
  rw [Lib.decDigits,cO]
  by_cases h:u<10
  ·rw [dif_pos h,if_pos h]
  rw [dif_neg h,if_neg h,ih (u/10) (by omega)]
section
variable {P:Program}{U T:List Nat}{o:Oper}{n d:Nat}{ts:List (Nat×AT)}{s:Sto}{K:AS -> Prop}{st:AS}{p:World -> Prop}{t0 u:AT}{us:List AT}{bx:List Box}{rw:List bA}{ops:Array Oper}{l:List Oper}{Q:Exit -> AS -> Prop}
theorem bOy{E E':TypeId}{x:Operand}{k k':IntKind}{m r:Int}(ho:o.op=.convert E E' x)(hx:evA st x=some (.c (.val (.int k m))))(hE:(P.underlying E).isSome=true)(hE':P.underlying E'=some (.int (P.intKind E')))(hk8:P.intKind E'=k')(hr:k'.wrap m=r):AY P U o st (.c (.val (.int k' r))):=by
 intro a w hs _
 refine ⟨_,.c _ _ (.val _ rfl),fun w' _=>?_⟩
 have h1:=run_convert_int (P:=P) (w:=w') E E' k m hE hE'
 simp only [execOp,ho,Sem.run_bind,hs.val hx]
 rw [h1,hk8,hr];rfl
theorem bSh{m:Int}(h1:0 <= m)(h2:m <= 18446744073709551615):IntKind.u64.wrap m=m:=by
 have:IntKind.u64.wrap m=m%18446744073709551616:=by unfold IntKind.wrap;simp [IntKind.signed,IntKind.bits]
 rw [this];omega
theorem bNr{t e:TypeId}{x y':Operand}{b h N:Nat}{k2:IntKind}{j:Int}(ho:o.op=.slice t x none (some y') none)(hx:evA st x=some (pP b))(hy':evA st y'=some (.c (.val (.int k2 j))))(hj:j=h)(h2:h <= N)(h0:0<N)
  (ht:∀w,(underlying t).run P w=.ok (.array N e) w) (hz:∀w,(sizeOf e).run P w=.ok 1 w):AY P U o st (.c (.val (.slice (some ⟨b,0,none⟩) h N))):=
 fW rfl fun a w hs w'=>by
  subst hj
  simp only [execOp,ho,hs.val hx,hs.val hy',Instr.sliceAt,Option.map_some,Option.map_none,Sem.run_bind,Sem.run_pure,Result.andThen_ok,ht,Instr.sureAddr,hz]
  simp [go_sem,Instr.sliceBounds,asIntOf]
  omega
theorem bMs{st:AS}{F:FuncId}{cap:Array Operand}{vs:List Value}(ho:o.op=.makeFunc (.func F) #[] cap)(hc:cap.toList.map (evA st)=vs.map fun v=>some (.c (.val v))):AY P U o st (.c (.val (.func (.func F) #[] vs.toArray))):=
 fW rfl fun a w hs w'=>by
  have e:cap.map a.eval=vs.toArray:=by
   rw [←Array.toList_inj,Array.toList_map]
   have:∀(l:List Operand)(vs:List Value),l.map (evA st)=vs.map (fun v=>some (.c (.val v))) -> l.map a.eval=vs:=by
    intro l
    induction l with
    |nil=>intro vs h;cases vs with|nil=>rfl|cons=>cases h
    |cons x l ih=>
     intro vs h
     cases vs with
     |nil=>cases h
     |cons v vs=>
      simp only [List.map_cons,List.cons.injEq] at h⊢
      exact ⟨hs.val h.1,ih vs h.2⟩
   exact this _ _ hc
  simp only [execOp,ho,Instr.makeFunc,e]
  simp [go_sem]
theorem bR5(i j:Nat){c:Code}{t1:AT}(hi:look ts i=some (.ride t0 p))(hj:look ts j=some t1)(h:AWp P c ⟨n,T,s,(j,.ride t1 p)::ts⟩ Q):AWp P c ⟨n,T,s,ts⟩ Q:=by
 refine zU (st':=⟨n,T,s,(j,.ride t1 p)::ts⟩) (fun a w hs=>?_) h
 refine ⟨⟨hs.df,hs.sz,fun k x hx=>?_,hs.mem⟩,fun _ h=>h,fun _ h=>h⟩
 simp only [look] at hx
 split at hx
 ·rename_i he;subst he;cases hx
  obtain ⟨v,e1,e2⟩:=hs.tm j t1 hj
  obtain ⟨v0,-,e3⟩:=hs.tm i _ hi
  exact ⟨v,e1,bL3 e3 e2⟩
 exact hs.tm k x hx
theorem bR3(E:TypeId)(z:Nat)(h:eQ P ops l ⟨n,T,⟨bx,⟨.slice none 0 0,E,z,0,[]⟩::rw⟩,ts⟩ Q):eQ P ops l ⟨n,T,⟨bx,rw⟩,ts⟩ Q:=uQ (aOb (st:=⟨n,T,⟨bx,rw⟩,ts⟩) E z) h
theorem bMu{F:FuncId}{ars:Array Operand}{tys:Array TypeId}{v:Value}{E:TypeId}{z k k':Nat}{cs cs':List AC}(i0:Nat)(h0:(o.op,o.dst,Nat.blt d n,look ts i0)=(.call {callee:=.value (.func F),args:=ars,argTypes:=tys},some d,true,some (.ride t0 p)))
  (hcf:∀args w,(callFunc F args).run P w=.ok (.enter F args) w) (has:ars.toList.map (evA ⟨n,T,⟨bx,⟨v,E,z,k,cs⟩::rw⟩,ts⟩)=(u::us).map some)
  (hc:aL P F (.ride u p::us) (aY v) ⟨bx,⟨v,E,z,k,cs⟩::rw⟩ fun t s'=>∃v',t=.c (.val v') /\ s'=⟨bx,⟨v',E,z,k',cs'⟩::rw⟩) (hT:∀b,b∈aY v -> b∈T) (hU:(⟨bx,⟨v,E,z,k,cs⟩::rw⟩:Sto).bl.Nodup -> ∀b,b∈aY v -> b∈U)
  (h:∀v',K ⟨n,aY v'++T,⟨bx,⟨v',E,z,k',cs'⟩::rw⟩,(d,.c (.val v'))::ts⟩):AO P U o ⟨n,T,⟨bx,⟨v,E,z,k,cs⟩::rw⟩,ts⟩ K:=by
 simp only [Prod.mk.injEq] at h0
 obtain ⟨ho,hd,hn,hl⟩:=h0
 intro a w hs KK QQ' hK
 obtain ⟨h1,h2⟩:=rU hs has
 obtain ⟨v0,-,hv0⟩:=hs.tm i0 _ hl
 have hTb:∀b,b∈aY v -> b∈(⟨bx,⟨v,E,z,k,cs⟩::rw⟩:Sto).bl:=fun b hb=>by unfold Sto.bl;simp [hb]
 unfold Oper.wp
 rw [show (execOp a.eval o).run P w=.ok (.enter F (ars.toList.map a.eval).toArray) w from by
  simp only [execOp,ho,resolve,Deferred.ofValue,Act.eval,Sem.run_bind,Sem.run_pure,Result.andThen_ok,invoke]
  rw [hcf]
  congr 2
  rw [←Array.toList_inj];simp,Oper.upon_enter]
 refine (hc _ w hs.mem hTb h1 (fun i hi hi'=>?_)).mono ?_
 ·match i,hi with
  |0,hi=>exact bL3 hv0 (h2 0 (by simp) hi')
  |i+1,hi=>exact h2 (i+1) (by simpa using hi) hi'
 ·rintro en w' ⟨r,vr,s',rfl,⟨v',rfl,rfl⟩,hr,hm,hk,hb⟩
  dsimp only
  rw [hd]
  have s1:=hs.step (aY v'++T) (hk.mono hTb) hm hb
  refine hK _ _ _ (h v') (s1.put (Nat.le_of_ble_eq_true hn) hr) ⟨hk.mono hTb,hk.mono hT,hb,fun b hb2=>?_⟩ (hk.mono (hU hs.mem.nodup))
  rcases mem_append.1 hb2 with hb2|hb2
  ·have e1:b∈(⟨bx,⟨v',E,z,k',cs'⟩::rw⟩:Sto).bl:=by unfold Sto.bl;simp [hb2]
   exact (hb b e1).imp (fun h9=>hT b (aFb (bx:=bx) (bx':=bx) rfl hm.nodup hb2 h9)) id
  exact .inl hb2
theorem bPe{F:FuncId}{x:Operand}{cap:Array Value}{ars:Array Operand}{tys:Array TypeId}{v:Value}{E:TypeId}{z k k':Nat}{cs cs':List AC}(i0:Nat)(h0:(o.op,evA ⟨n,T,⟨bx,⟨v,E,z,k,cs⟩::rw⟩,ts⟩ x,o.dst,Nat.blt d n,look ts i0)=(.call {callee:=.value x,args:=ars,argTypes:=tys},some (.c (.val (.func (.func F) #[] cap))),some d,true,some (.ride t0 p)))
  (hcf:∀args w,(callFunc F args).run P w=.ok (.enter F args) w) (has:ars.toList.map (evA ⟨n,T,⟨bx,⟨v,E,z,k,cs⟩::rw⟩,ts⟩)=(u::us).map some)
  (hc:aL P F (.ride u p::(us++cap.toList.map cst)) (aY v) ⟨bx,⟨v,E,z,k,cs⟩::rw⟩ fun t s'=>∃v',t=.c (.val v') /\ s'=⟨bx,⟨v',E,z,k',cs'⟩::rw⟩) (hT:∀b,b∈aY v -> b∈T) (hU:(⟨bx,⟨v,E,z,k,cs⟩::rw⟩:Sto).bl.Nodup -> ∀b,b∈aY v -> b∈U)
  (h:∀v',K ⟨n,aY v'++T,⟨bx,⟨v',E,z,k',cs'⟩::rw⟩,(d,.c (.val v'))::ts⟩):AO P U o ⟨n,T,⟨bx,⟨v,E,z,k,cs⟩::rw⟩,ts⟩ K:=by
 simp only [Prod.mk.injEq] at h0
 obtain ⟨ho,hx,hd,hn,hl⟩:=h0
 intro a w hs KK QQ' hK
 obtain ⟨h1,h2⟩:=rU hs has
 obtain ⟨v0,-,hv0⟩:=hs.tm i0 _ hl
 obtain ⟨d1,d2⟩:=aA7 (bI (⟨bx,⟨v,E,z,k,cs⟩::rw⟩:Sto).bl w) cap.toList
 have hTb:∀b,b∈aY v -> b∈(⟨bx,⟨v,E,z,k,cs⟩::rw⟩:Sto).bl:=fun b hb=>by unfold Sto.bl;simp [hb]
 have h3:(ars.toList.map a.eval).length=(AT.ride u p::us).length /\ ∀i (h:i<(AT.ride u p::us).length) (h':i<(ars.toList.map a.eval).length),dO (bI (⟨bx,⟨v,E,z,k,cs⟩::rw⟩:Sto).bl w) (AT.ride u p::us)[i] (ars.toList.map a.eval)[i]:=by
  refine ⟨h1,fun i hi hi'=>?_⟩
  match i,hi with
  |0,hi=>exact bL3 hv0 (h2 0 (by simp) hi')
  |i+1,hi=>exact h2 (i+1) (by simpa using hi) hi'
 obtain ⟨g3,g4⟩:=aBo h3.1 h3.2 d1 d2
 unfold Oper.wp
 rw [show (execOp a.eval o).run P w=.ok (.enter F (ars.toList.map a.eval++cap.toList).toArray) w from by
  simp only [execOp,ho,resolve,hs.val hx,Deferred.ofValue,Sem.run_bind,Sem.run_pure,Result.andThen_ok,invoke]
  rw [hcf]
  congr 2
  rw [←Array.toList_inj];simp,Oper.upon_enter]
 refine (hc _ w hs.mem hTb g3 g4).mono ?_
 rintro en w' ⟨r,vr,s',rfl,⟨v',rfl,rfl⟩,hr,hm,hk,hb⟩
 dsimp only
 rw [hd]
 have s1:=hs.step (aY v'++T) (hk.mono hTb) hm hb
 refine hK _ _ _ (h v') (s1.put (Nat.le_of_ble_eq_true hn) hr) ⟨hk.mono hTb,hk.mono hT,hb,fun b hb2=>?_⟩ (hk.mono (hU hs.mem.nodup))
 rcases mem_append.1 hb2 with hb2|hb2
 ·have e1:b∈(⟨bx,⟨v',E,z,k',cs'⟩::rw⟩:Sto).bl:=by unfold Sto.bl;simp [hb2]
  exact (hb b e1).imp (fun h9=>hT b (aFb (bx:=bx) (bx':=bx) rfl hm.nodup hb2 h9)) id
 exact .inl hb2
end
theorem bNn(w:World)(b:Nat)(cur:Array Value)(T:TypeId)(fz:Nat×Nat)(f:Array Value -> Array Value)(h:w.heap[b]?=some (.cells cur T fz)):mapBlock w b f=w.setRow b (f cur):=by
 unfold mapBlock World.setRow
 congr 1
 apply Array.ext_getElem?
 intro k
 simp only [Array.getElem?_modify]
 by_cases hk:b=k
 ·subst hk;rw [if_pos rfl,if_pos rfl,h];rfl
 rw [if_neg hk,if_neg hk]
theorem Mem.drewN{s:Sto}{w:World}(h:Mem s w):∀k,Mem s (w.drewN k)
 |0=>h
 |k+1=>(Mem.drewN h k).drew
theorem bRk(b:Nat)(T:TypeId)(cs:List UInt8)(u N:Nat)(bx:List Box)(rw:List bA)(hu:u<18446744073709551616)(hn:Lib.nDigits u <= cs.length)(hc:cs.length <= 100):aL prog 59 [.c (.val (.slice (some ⟨b,0,none⟩) (Lib.nDigits u) N)),.c (.val (.int .u64 ((u:Nat):Int)))] [b] ⟨⟨b,T,iF cs⟩::bx,rw⟩ fun t s'=>t=.tup [] /\ s'=⟨⟨b,T,iF (cO u)++iF (cs.drop (Lib.nDigits u))⟩::bx,rw⟩:=by
 rw [show iF (cO u)++iF (cs.drop (Lib.nDigits u))=iF (cO u++cs.drop (Lib.nDigits u)) by unfold iF;rw [List.map_append]]
 intro vs w hm _ hl hr
 obtain ⟨v1,v2,rfl⟩:∃v1 v2,vs=[v1,v2]:=by
  match vs,hl with
  |[x,y],_=>exact ⟨x,y,rfl⟩
 obtain rfl:v1=_:=(show dO _ (.c (.val (.slice (some ⟨b,0,none⟩) (Lib.nDigits u) N))) v1 from hr 0 (by simp) (by simp)).val
 obtain rfl:v2=_:=(show dO _ (.c (.val (.int .u64 ((u:Nat):Int)))) v2 from hr 1 (by simp) (by simp)).val
 obtain ⟨us,⟨fz,hfz,h1⟩,h2⟩:=hm.box ⟨b,T,iF cs⟩ (by simp)
 obtain rfl:us=cC cs:=yC (vs:=cC cs) (by rw [show (cC cs).map AC.val=iF cs by simp [cC,iF]];exact h2)
 have hlen:(cC cs).length=cs.length:=by simp [cC]
 have hbr:=setRow_heap
 have hH:Holds (fun (b:UInt8)=>Value.int .u8 (b.toNat:Int)) w b 0 (cs.take (Lib.nDigits u)).toArray:=by
  intro j hj
  have hj1:j<Lib.nDigits u:=by simpa [Nat.min_eq_left hn] using hj
  have hj2:j<cs.length:=by omega
  refine ⟨?_,?_⟩
  ·rw [getElem!_pos _ j hj]
   unfold World.cell?
   simp only [h1]
   simp [cC,hj2]
  obtain ⟨lo,up⟩:=fz
  simp only [World.frozen?,h1,Bool.and_eq_false_iff,decide_eq_false_iff_not]
  rcases hfz with h|h
  ·cases h;exact .inr (by omega)
  dsimp only at h;rw [hlen] at h;exact .inl (by omega)
 have hsz:(cs.take (Lib.nDigits u)).toArray.size=Lib.nDigits u:=by simp [Nat.min_eq_left hn]
 have hcall:=Tryd.internal_strconv_formatBase10 b 0 N u (cs.take (Lib.nDigits u)).toArray w hH (by rw [hsz];exact Lib.lt_pow_nDigits u) hu (by rw [hsz];omega)
 rw [hsz] at hcall
 refine hcall.mono ?_
 rintro e w' ⟨rfl,k,v',dk,rfl,hinv⟩
 have hdk:dk.toList=cO u:=by
  rw [←bLy]
  have hs1:dk.size=Lib.nDigits u:=hinv.size
  refine List.ext_getElem (by rw [Lib.decDigits_length,Array.length_toList,hs1]) fun j h3 h4=>?_
  rw [Lib.row_is_numeral hinv j h4,getElem!_pos dk j (by simpa using h3)];simp
 have hs1:dk.size=Lib.nDigits u:=hinv.size
 have hput:putCells (fun (b:UInt8)=>Value.int .u8 (b.toNat:Int)) 0 dk (cC cs).toArray=(cC (cO u++cs.drop (Lib.nDigits u))).toArray:=by
  apply Array.ext_getElem?
  intro i
  simp only [putCells,Array.getElem?_mapIdx,List.getElem?_toArray]
  unfold cC
  rw [List.getElem?_map,List.getElem?_map]
  have hdl:(cO u).length=Lib.nDigits u:=by rw [←hdk];simpa using hs1
  by_cases hi:i<Lib.nDigits u
  ·rw [List.getElem?_append_left (by rw [hdl];exact hi),List.getElem?_eq_getElem (show i<cs.length by omega),List.getElem?_eq_getElem (by rw [hdl];exact hi)]
   simp only [Option.map_some,Nat.zero_le,true_and,Nat.zero_add,Nat.sub_zero]
   rw [if_pos (by rw [hs1];exact hi),getElem!_pos dk i (by rw [hs1];exact hi)]
   have:dk[i]'(by rw [hs1];exact hi)=(cO u)[i]'(by rw [hdl];exact hi):=by simp only [←hdk];simp
   rw [this]
  rw [List.getElem?_append_right (by rw [hdl];omega),List.getElem?_drop,hdl,show Lib.nDigits u+(i-Lib.nDigits u)=i by omega]
  cases hci:cs[i]? with
  |none=>rfl
  |some c=>
   simp only [Option.map_some,Nat.zero_le,true_and,Nat.zero_add]
   rw [if_neg (by rw [hs1];exact hi)]
 have hw1:putRow (fun (b:UInt8)=>Value.int .u8 (b.toNat:Int)) w b 0 dk=w.setRow b (cC (cO u++cs.drop (Lib.nDigits u))).toArray:=by
  unfold putRow
  rw [bNn w b _ T fz _ h1,hput]
 rw [hw1]
 have hlen2:(cC (cO u++cs.drop (Lib.nDigits u))).length=(cC cs).length:=by
  have hdl:(cO u).length=Lib.nDigits u:=by rw [←hdk];simpa using hs1
  simp [cC,hdl];omega
 have hR:fG (bI (⟨⟨b,T,iF cs⟩::bx,rw⟩:Sto).bl w) (iF (cO u++cs.drop (Lib.nDigits u))) (cC (cO u++cs.drop (Lib.nDigits u))):=by
  have h9:=gU (bI (⟨⟨b,T,iF cs⟩::bx,rw⟩:Sto).bl w) (cC (cO u++cs.drop (Lib.nDigits u))) (fun u hu=>by obtain ⟨c,_,rfl⟩:=List.mem_map.1 hu;rfl)
  rw [show (cC (cO u++cs.drop (Lib.nDigits u))).map AC.val=iF (cO u++cs.drop (Lib.nDigits u)) by unfold cC iF;rw [List.map_map];rfl] at h9
  exact h9
 have hm1:=hm.setRow (A:=[]) (B:=bx) rfl hfz hlen2 h1 hR
 have hk1:=oI w b (cC (cO u++cs.drop (Lib.nDigits u))).toArray
 refine ⟨_,_,_,rfl,⟨rfl,rfl⟩,.tup [] [] rfl (fun i h=>absurd h (by simp)),hm1.drewN k,hk1.drewN k,fun b' hb'=>.inl ?_⟩
 unfold Sto.bl at hb'⊢
 exact hb'
theorem bMa{u:Nat}(h:u<18446744073709551616):1 <= Lib.nDigits u /\ Lib.nDigits u <= 20:=by
 refine ⟨Lib.nDigits_pos u,?_⟩
 by_cases h1:1 <= u
 ·have h2:=Lib.numDigits_eq u h1 h
  have h3:(if 10 ^ Lib.l10 (Lib.bitLen u) <= u then 1 else 0) <= 1:=by split<;>omega
  omega
 rw [Lib.nDigits_small (by omega)];omega
theorem bL6(u:Nat):(cO u).length=Lib.nDigits u:=by rw [←bLy];exact Lib.decDigits_length u
theorem bQp(i:Nat)(h:i<100)(s:Sto):aL prog 57 [nI i] [] s fun t s'=>t=.c (.val (.string (bytes (cO i)))) /\ s'=s:=
 aP3 (us:=[.int .i64 ((i:Nat):Int)]) rfl rfl (fun w=>(Tryd.internal_strconv_small i h w).mono fun e w' ⟨h1,h2⟩=>⟨by rw [h1,bLy];rfl,h2.symm⟩) s
theorem bP7(u:Nat)(h1:1 <= u)(h2:u<18446744073709551616)(s:Sto):aL prog 58 [bK5 (.c (.val (.int .u64 ((u:Nat):Int))))] [] s fun t s'=>t=.c (.val (.int .i64 ((Lib.nDigits u:Nat):Int))) /\ s'=s:=
 bNt (us:=[]) rfl (fun w he=>(Tryd.internal_strconv_numDigits u h1 h2 w he.tab).mono fun e w' ⟨h1,h2⟩=>⟨h1,h2.symm⟩) s
theorem bLc(a b:List UInt8):iF a++iF b=iF (a++b):=by unfold iF;rw [List.map_append]
instance bSl:eM prog 80 (iF (List.replicate 24 0)):=⟨_,zeroValue80,rfl⟩
end
section
open Go.RowKit
theorem bR7(u:Nat)(bs:List UInt8)(v:Value)(bx:List Box)(rw:List bA)(hu:u<18446744073709551616)(hb:bs.length <= 100000000000000):aL prog 53 [bK5 (.c (.val v)),.c (.val (.int .u64 ((u:Nat):Int))),.c (.val (.int .i64 10))] (aY v) ⟨bx,⟨v,5,1,bs.length,iF bs⟩::rw⟩ fun t s'=>∃v',t=.c (.val v') /\ s'=⟨bx,⟨v',5,1,(bs++cO u).length,iF (bs++cO u)⟩::rw⟩:=by
 refine acX 36 func53 ?_
 refine go 9 ?_
 refine wcp true rfl (by simp [bC]) (go 7 ?_)
 by_cases h2:((u:Nat):Int)<100
 ·refine wcp true rfl (jZ h2) (go 7 ?_)
  refine wyz rfl (bOy rfl rfl rfl rfl rfl (wrap64 (by omega) (by omega))) ?_
  refine wc1 rfl call57 rfl (bQp u (by omega) _) ?_
  refine wo rfl (bHb [] Tryd.t5 (z:=bytes (cO u)) rfl rfl (by decide) rfl rfl underlying46 underlying9 (by kernel_rfl) rfl rfl rfl (by have:=bL6 u;have:=bMa hu;unfold maxLen;show bs.length+(cO u).length <= _;omega) (by have:=bL6 u;have:=bMa hu;show bs.length+(cO u).length <= _;omega) (@length_append _ bs (cO u)).symm rfl (fun _ b hb=>by simp [hb]) (fun b hb=>by simp [hb]) (bLc bs (cO u)) fun w1=>?_)
  refine go 6 ?_
  exact ⟨.inr rfl,_,⟨bx,⟨w1,_,_,_,_⟩::rw⟩,aR rfl (aF rfl),aA (.refl _) (.refl _),⟨w1,rfl,rfl⟩⟩
 refine wcp false rfl (jQ h2) (go 13 fun b2=>?_)
 refine wcR 0 rfl call58 rfl (bP7 u (by omega) hu _) (go 6 ?_)
 have hnd:=bMa hu
 refine wyz rfl (bNr rfl rfl rfl rfl (by omega) (by decide) runUnderlying80 sizeOf5) (go 1 ?_)
 have hnd:=bMa hu
 refine wo rfl (bD [b2] rfl rfl (by decide) call59 rfl (bRk b2 _ (List.replicate 24 0) u 24 bx _ hu (by simp;omega) (by decide)) (bDj (by simp)) (bDj (by simp [Sto.bl])) (fun _=>bDj (by simp)) ?_)
 rintro _ _ ⟨rfl,rfl⟩
 refine go 6 ?_
 refine wyz rfl (bNr rfl rfl rfl rfl (by omega) (by decide) runUnderlying80 sizeOf5) ?_
 refine bHa 26 rfl (by omega) (by decide) ?_
 refine wo rfl (bDm [] cO4 rfl (by unfold iF;rw [List.length_map,bL6,Nat.mul_one]) (by omega) (by unfold maxLen;omega) (by omega) (show bs.length+Lib.nDigits u=(bs++cO u).length by rw [length_append,bL6]) (fun _ b hb=>by simp [hb]) (fun b hb=>by simp [hb]) (bLc bs (cO u)) fun w3=>?_)
 refine go 5 ?_
 exact ⟨.inr rfl,_,⟨bx,⟨w3,_,_,_,_⟩::rw⟩,aR rfl (aF rfl),aA (.refl _) (.refl _),⟨w3,rfl,rfl⟩⟩
theorem bR0(n:Nat)(bs:List UInt8)(v:Value)(bx:List Box)(rw:List bA)(hn:n <= 9223372036854775807)(hb:bs.length <= 100000000000000):aL prog 45 [bK5 (.c (.val v)),nI n,.c (.val (.int .i64 10))] (aY v) ⟨bx,⟨v,5,1,bs.length,iF bs⟩::rw⟩ fun t s'=>∃v',t=.c (.val v') /\ s'=⟨bx,⟨v',5,1,(bs++cO n).length,iF (bs++cO n)⟩::rw⟩:=by
 refine acX 21 func45 ?_
 refine go 8 ?_
 refine wyz rfl (bOy rfl rfl rfl rfl rfl (bSh (by omega) (by omega))) (go 7 ?_)
 refine wcp false rfl (jQ (by omega)) (go 10 ?_)
 refine wo rfl (bMu 0 rfl call53 rfl (bR7 n bs v _ _ (by omega) hb) (fun b hb=>by simp [hb]) (fun _ b hb=>by simp [hb]) fun w1=>?_)
 refine go 4 ?_
 exact ⟨.inr rfl,_,⟨bx,⟨w1,_,_,_,_⟩::rw⟩,aR rfl (aF rfl),aA (.refl _) (.refl _),⟨w1,rfl,rfl⟩⟩
theorem bSd(n:Nat)(bs:List UInt8)(v:Value)(bx:List Box)(rw:List bA)(hn:n <= 9223372036854775807)(hb:bs.length <= 100000000000000):aL prog 29 [bK5 (.c (.val v)),nI n,.c (.val (.int .i64 10))] (aY v) ⟨bx,⟨v,5,1,bs.length,iF bs⟩::rw⟩ fun t s'=>∃v',t=.c (.val v') /\ s'=⟨bx,⟨v',5,1,(bs++cO n).length,iF (bs++cO n)⟩::rw⟩:=by
 refine acX 11 func29 ?_
 refine go 10 ?_
 refine wo rfl (bMu 0 rfl call45 rfl (bR0 n bs v _ _ hn hb) (fun b hb=>by simp [hb]) (fun _ b hb=>by simp [hb]) fun w1=>?_)
 refine go 4 ?_
 exact ⟨.inr rfl,_,⟨bx,⟨w1,_,_,_,_⟩::rw⟩,aR rfl (aF rfl),aA (.refl _) (.refl _),⟨w1,rfl,rfl⟩⟩
def bLs(op:Int):List UInt8:=if op=3 then [45] else if op=4 then [33] else iW op
theorem bQc:∀j (h:j<bLb.length),bLb[j]=bytes (bLs j):=by decide
def bLn(e:aH)(k:Nat):List UInt8:=(dP e.op 0 e.args).getD k []
theorem bLz(e:aH)(k:Nat)(h:k<e.args.length):bLn e k=if cV e.op k e.args[k].op then [40]++aP e.args[k]++[41] else aP e.args[k]:=by
 unfold bLn
 have:=pL e.op e.args 0 k h
 rw [Nat.zero_add] at this
 rw [List.getD_eq_getElem?_getD,this];rfl
theorem bMn{e:aH}(h:eO e=true):(e.args.length=0 /\ (e.op=1∨e.op=2))∨(e.args.length=1 /\ (e.op=3∨e.op=4))∨(e.args.length=2 /\ 5 <= e.op /\ e.op <= 17):=by
 rw [bK7] at h
 unfold bLj at h
 by_cases h0:bLk e.op=0
 ·rw [if_pos h0] at h;cases h
 have ho:=bN2 h0
 rw [if_neg h0] at h
 by_cases h7:bLk e.op=7
 ·rw [if_pos h7] at h
  simp only [Bool.and_eq_true,decide_eq_true_eq] at h
  have:=bPh h7
  omega
 rw [if_neg h7] at h
 simp only [Bool.and_eq_true,decide_eq_true_eq] at h
 by_cases h6:bLk e.op=6
 ·rw [if_pos h6] at h
  have:=bSc h6
  omega
 rw [if_neg h6] at h
 have h1:¬(e.op=1∨e.op=2):=fun hh=>h7 (by unfold bLk;rcases hh with hh|hh<;>rw [hh]<;>rfl)
 have h2:¬(e.op=3∨e.op=4):=fun hh=>h6 (by unfold bLk;rcases hh with hh|hh<;>rw [hh]<;>rfl)
 omega
theorem bQy{e:aH}(h:eO e=true)(h2:e.args.length=2):aP e=bLn e 0++([32]++bLs e.op++[32])++bLn e 1:=by
 have hk:=bMn h
 rw [kU]
 unfold iX bLn bLs
 have hs:aM e.op<5:=by unfold aM;(repeat' split)<;>omega
 rw [if_neg (by omega),if_neg (by omega),if_neg (by omega),if_neg (by omega),if_pos hs,if_neg (by omega),if_neg (by omega)]
 simp only [append_assoc]
theorem bQ7{e:aH}(h:eO e=true)(h1:e.args.length=1):aP e=bLs e.op++bLn e 0:=by
 have hk:=bMn h
 rw [kU]
 unfold iX bLn bLs
 rw [if_neg (by omega),if_neg (by omega)]
 by_cases h3:e.op=3
 ·rw [if_pos h3,if_pos h3];rfl
 rw [if_neg h3,if_neg h3,if_pos (by omega),if_pos (by omega)];rfl
theorem bPt{e:aH}(h2:e.op=2):aP e=e.name.data.toList:=by
 rw [kU];unfold iX;rw [if_neg (by omega),if_pos h2]
theorem bRq{e:aH}(h1:e.op=1)(h:eO e=true):aP e=cO e.num.toNat /\ 0 <= e.num:=by
 rw [dZ] at h
 have hs:aM e.op=6:=by unfold aM;(repeat' split)<;>omega
 rw [if_pos hs] at h
 simp only [Bool.and_eq_true,jG,Bool.or_eq_true,decide_eq_true_eq] at h
 have hn:0 <= e.num:=by omega
 rw [kU];unfold iX eH;rw [if_pos h1,if_neg (by omega),show e.num.natAbs=e.num.toNat by omega]
 exact ⟨rfl,hn⟩
theorem bOh(e:aH)(k:Nat)(bs:List UInt8)(v:Value)(x:Nat)(bx:List Box)(rw:List bA)(hk:k<e.args.length)(hsh:eO e=true)(hb:bs.length+(bLn e k).length <= 100000000000000)(ih:∀(bs:List UInt8)(v:Value)(bx:List Box)(rw:List bA),bs.length+(aP e.args[k]).length <= 100000000000000 -> aL prog 18 [bK5 (.c (.val v)),.agg (cU e.args[k])] (aY v) ⟨bx,⟨v,5,1,bs.length,iF bs⟩::rw⟩ fun t s'=>∃v',t=.c (.val v') /\ s'=⟨bx,⟨v',5,1,(bs++aP e.args[k]).length,iF (bs++aP e.args[k])⟩::rw⟩):aL prog 27 [bK5 (.c (.val v)),nI k,pP x] (aY v) ⟨⟨x,25,cU e⟩::bx,⟨v,5,1,bs.length,iF bs⟩::rw⟩ fun t s'=>∃v',t=.c (.val v') /\ s'=⟨⟨x,25,cU e⟩::bx,⟨v',5,1,(bs++bLn e k).length,iF (bs++bLn e k)⟩::rw⟩:=by
 refine acX 28 func27 ?_
 refine go 10 ?_
 rcases Bool.eq_false_or_eq_true (cV e.op k e.args[k].op) with h1|h1
 ·refine bK8 0 rfl call28 rfl (bOl e k (by omega) (bLd hsh).1 (bLd ((bLd hsh).2 k (by omega))).1 _) h1 (go 7 ?_)
  refine dx [x] ?_
  have hlk:=bLz e k hk
  rw [h1] at hlk
  have hl2:=congrArg List.length hlk
  simp only [if_true,Bool.false_eq_true,if_false,length_append,length_cons,length_nil] at hl2
  refine tz [(0,true),(3,true),(4,true),(5,true)] 8 (go 5 ?_)
  refine tx 6 rfl (bH fO cU e.args iU fP k rfl rfl rfl rfl (by omega) (by decide) runUnderlying23 sizeOf25) (tz [(7,true)] 6 (go 2 ?_))
  refine t2 1 9 rfl ?_ ?_
  ·refine (bDk zb2 rfl (.cons rfl .nil) (r:=iF [40]) rfl ?_)
   refine t2 2 9 rfl ?_ ?_
   ·refine (bDm [] cO4 rfl rfl (by decide) (by unfold maxLen;(try simp only [length_append,length_cons,length_nil]);omega) (by first|omega|grind) (show bs.length+1=(bs++[40]).length by simp only [length_append,length_cons,length_nil]) (fun hn b hb=>qW hn hb) (fun b hb=>by simp [hb]) (bLc bs [40]) fun w1=>?_)
    refine t2 8 9 rfl ?_ ?_
    ·refine (bMu 0 rfl call18 rfl (ih (bs++[40]) w1 _ _ (by first|omega|grind)) (fun b hb=>by simp [hb]) (fun hn b hb=>qW hn hb) fun w2=>?_)
     refine ox 9 rfl rfl (bDk zb2 rfl (.cons rfl .nil) (r:=iF [41]) rfl ?_)
     refine ox 10 rfl rfl (bDm [] cO4 rfl rfl (by decide) (by unfold maxLen;(try simp only [length_append,length_cons,length_nil]);omega) (by first|omega|grind) (show ((bs++[40])++aP e.args[k]).length+1=(((bs++[40])++aP e.args[k])++[41]).length by simp only [length_append,length_cons,length_nil]) (fun hn b hb=>qW hn hb) (fun b hb=>by simp [hb]) (bLc ((bs++[40])++aP e.args[k]) [41]) fun w3=>?_)
     refine tz [(11,true)] 0 (go 2 ?_)
     refine ax (go 2 ?_)
     exact ⟨.inr rfl,_,⟨_,⟨w3,_,_,_,_⟩::rw⟩,aR rfl (aF rfl),aA (.refl _) (.refl _),⟨w3,rfl,(by rw [show (((bs++[40])++aP e.args[k])++[41])=bs++bLn e k by rw [bLz e k hk,h1];simp only [if_true,Bool.false_eq_true,if_false,append_assoc]])⟩⟩
    refine (bDk zb2 rfl (.cons rfl .nil) (r:=iF [41]) rfl ?_)
    refine ox 8 rfl rfl (bMu 0 rfl call18 rfl (ih (bs++[40]) w1 _ _ (by first|omega|grind)) (fun b hb=>by simp [hb]) (fun hn b hb=>qW hn hb) fun w4=>?_)
    refine ox 10 rfl rfl (bDm [] cO4 rfl rfl (by decide) (by unfold maxLen;(try simp only [length_append,length_cons,length_nil]);omega) (by first|omega|grind) (show ((bs++[40])++aP e.args[k]).length+1=(((bs++[40])++aP e.args[k])++[41]).length by simp only [length_append,length_cons,length_nil]) (fun hn b hb=>qW hn hb) (fun b hb=>by simp [hb]) (bLc ((bs++[40])++aP e.args[k]) [41]) fun w5=>?_)
    refine tz [(11,true)] 0 (go 2 ?_)
    refine ax (go 2 ?_)
    exact ⟨.inr rfl,_,⟨_,⟨w5,_,_,_,_⟩::rw⟩,aR rfl (aF rfl),aA (.refl _) (.refl _),⟨w5,rfl,(by rw [show (((bs++[40])++aP e.args[k])++[41])=bs++bLn e k by rw [bLz e k hk,h1];simp only [if_true,Bool.false_eq_true,if_false,append_assoc]])⟩⟩
   refine (bDk zb2 rfl (.cons rfl .nil) (r:=iF [41]) rfl ?_)
   refine ox 2 rfl rfl (bDm [] cO4 rfl rfl (by decide) (by unfold maxLen;(try simp only [length_append,length_cons,length_nil]);omega) (by first|omega|grind) (show bs.length+1=(bs++[40]).length by simp only [length_append,length_cons,length_nil]) (fun hn b hb=>qW hn hb) (fun b hb=>by simp [hb]) (bLc bs [40]) fun w6=>?_)
   refine ox 8 rfl rfl (bMu 0 rfl call18 rfl (ih (bs++[40]) w6 _ _ (by first|omega|grind)) (fun b hb=>by simp [hb]) (fun hn b hb=>qW hn hb) fun w7=>?_)
   refine ox 10 rfl rfl (bDm [] cO4 rfl rfl (by decide) (by unfold maxLen;(try simp only [length_append,length_cons,length_nil]);omega) (by first|omega|grind) (show ((bs++[40])++aP e.args[k]).length+1=(((bs++[40])++aP e.args[k])++[41]).length by simp only [length_append,length_cons,length_nil]) (fun hn b hb=>qW hn hb) (fun b hb=>by simp [hb]) (bLc ((bs++[40])++aP e.args[k]) [41]) fun w8=>?_)
   refine tz [(11,true)] 0 (go 2 ?_)
   refine ax (go 2 ?_)
   exact ⟨.inr rfl,_,⟨_,⟨w8,_,_,_,_⟩::rw⟩,aR rfl (aF rfl),aA (.refl _) (.refl _),⟨w8,rfl,(by rw [show (((bs++[40])++aP e.args[k])++[41])=bs++bLn e k by rw [bLz e k hk,h1];simp only [if_true,Bool.false_eq_true,if_false,append_assoc]])⟩⟩
  refine (bDk zb2 rfl (.cons rfl .nil) (r:=iF [41]) rfl ?_)
  refine ox 1 rfl rfl (bDk zb2 rfl (.cons rfl .nil) (r:=iF [40]) rfl ?_)
  refine ox 2 rfl rfl (bDm [] cO4 rfl rfl (by decide) (by unfold maxLen;(try simp only [length_append,length_cons,length_nil]);omega) (by first|omega|grind) (show bs.length+1=(bs++[40]).length by simp only [length_append,length_cons,length_nil]) (fun hn b hb=>qW hn hb) (fun b hb=>by simp [hb]) (bLc bs [40]) fun w9=>?_)
  refine ox 8 rfl rfl (bMu 0 rfl call18 rfl (ih (bs++[40]) w9 _ _ (by first|omega|grind)) (fun b hb=>by simp [hb]) (fun hn b hb=>qW hn hb) fun w10=>?_)
  refine ox 10 rfl rfl (bDm [] cO4 rfl rfl (by decide) (by unfold maxLen;(try simp only [length_append,length_cons,length_nil]);omega) (by first|omega|grind) (show ((bs++[40])++aP e.args[k]).length+1=(((bs++[40])++aP e.args[k])++[41]).length by simp only [length_append,length_cons,length_nil]) (fun hn b hb=>qW hn hb) (fun b hb=>by simp [hb]) (bLc ((bs++[40])++aP e.args[k]) [41]) fun w11=>?_)
  refine tz [(11,true)] 0 (go 2 ?_)
  refine ax (go 2 ?_)
  exact ⟨.inr rfl,_,⟨_,⟨w11,_,_,_,_⟩::rw⟩,aR rfl (aF rfl),aA (.refl _) (.refl _),⟨w11,rfl,(by rw [show (((bs++[40])++aP e.args[k])++[41])=bs++bLn e k by rw [bLz e k hk,h1];simp only [if_true,Bool.false_eq_true,if_false,append_assoc]])⟩⟩
 refine bK8 0 rfl call28 rfl (bOl e k (by omega) (bLd hsh).1 (bLd ((bLd hsh).2 k (by omega))).1 _) h1 (go 6 ?_)
 have hlk:=bLz e k hk
 rw [h1] at hlk
 have hl2:=congrArg List.length hlk
 simp only [if_true,Bool.false_eq_true,if_false,length_append,length_cons,length_nil] at hl2
 refine go 4 ?_
 refine wyz rfl (bH fO cU e.args iU fP k rfl rfl rfl rfl (by omega) (by decide) runUnderlying23 sizeOf25) (go 1 ?_)
 refine wo rfl (bMu 0 rfl call18 rfl (ih bs v _ _ (by first|omega|grind)) (fun b hb=>by simp [hb]) (fun _ b hb=>by simp [hb]) fun w12=>?_)
 refine go 5 ?_
 exact ⟨.inr rfl,_,⟨_,⟨w12,_,_,_,_⟩::rw⟩,aR rfl (aF rfl),aA (.refl _) (.refl _),⟨w12,rfl,(by rw [show (bs++aP e.args[k])=bs++bLn e k by rw [bLz e k hk,h1];simp only [if_true,Bool.false_eq_true,if_false,append_assoc]])⟩⟩
theorem bQ8:∀j,j<18 -> (bLs ((j:Nat):Int)).length <= 2:=by decide
theorem bN5(e:aH)(bs:List UInt8)(v:Value)(bx:List Box)(rw:List bA)(hsh:eO e=true)(hN:e.nodes <= 1000000000)(hs:fit e.num)(hb:bs.length+(aP e).length <= 100000000000000)(ih:∀k (h:k<e.args.length) (bs:List UInt8) (v:Value) (bx:List Box) (rw:List bA),bs.length+(aP e.args[k]).length <= 100000000000000 -> aL prog 18 [bK5 (.c (.val v)),.agg (cU e.args[k])] (aY v) ⟨bx,⟨v,5,1,bs.length,iF bs⟩::rw⟩ fun t s'=>∃v',t=.c (.val v') /\ s'=⟨bx,⟨v',5,1,(bs++aP e.args[k]).length,iF (bs++aP e.args[k])⟩::rw⟩):aL prog 18 [bK5 (.c (.val v)),.agg (cU e)] (aY v) ⟨bx,⟨v,5,1,bs.length,iF bs⟩::rw⟩ fun t s'=>∃v',t=.c (.val v') /\ s'=⟨bx,⟨v',5,1,(bs++aP e).length,iF (bs++aP e)⟩::rw⟩:=by
 obtain ⟨hf1,hf2⟩:=hs
 have hlen:=uC e
 refine acX 45 func18 ?_
 refine bR5 0 1 rfl rfl ?_
 refine go 8 fun b1=>?_
 refine wyz rfl (bMs (vs:=[.pointer (some ⟨b1,0,none⟩)]) rfl rfl) (go 7 ?_)
 have hin:=(bLd hsh).1
 have hkd:=bMn hsh
 obtain ⟨j,hj⟩:∃j:Nat,e.op=j:=⟨e.op.toNat,by omega⟩
 have hj18:j<bLb.length:=by show j<18;omega
 have hsg:bLb[j]=bytes (bLs e.op):=by rw [hj];exact bQc j hj18
 have hpl:=bQ8 j hj18
 rw [←hj] at hpl
 refine wyz rfl (bRr 1 j rfl rfl rfl hj hj18 rfl runUnderlying60 sizeOf9) ?_
 refine wyz rfl (fL (jX hsg) (iP rfl rfl isAgg9 sizeOf9 rfl)) (go 20 ?_)
 by_cases h1:((e.args.length:Nat):Int)=2
 ·refine wcp true rfl (eR h1) (go 11 ?_)
  have htx:=congrArg List.length (bQy hsh (by omega))
  simp only [length_append,length_cons,length_nil] at htx
  refine go 2 ?_
  refine wo rfl (bPe (us:=[nI 0]) (cap:=#[.pointer (some ⟨b1,0,none⟩)]) 1 rfl call27 rfl (bOh e 0 bs v _ _ _ (by omega) hsh (by first|omega|grind) (ih 0 (by omega))) (fun b hb=>by simp [hb]) (fun _ b hb=>by simp [hb]) fun w2=>?_)
  refine go 5 ?_
  refine wyz rfl (cz [32] (bLs e.op) rfl rfl rfl rfl rfl) ?_
  refine wyz rfl (cz ([32]++(bLs e.op)) [32] rfl rfl rfl rfl rfl) (go 6 ?_)
  refine dx [b1] (tz [(0,true),(1,true),(2,true),(4,true),(5,true),(6,true)] 4 (go 7 ?_))
  refine tx 7 rfl (cI ((1:Nat):Int) rfl rfl rfl (by omega) (by omega) (by omega)) ?_
  refine ox 3 rfl rfl (bHb [] Tryd.t5 (z:=bytes (([32]++(bLs e.op))++[32])) rfl rfl (by decide) rfl rfl underlying46 underlying9 (by kernel_rfl) rfl rfl rfl (by unfold maxLen;show _+(_:List UInt8).length <= _;(try simp only [length_append,length_cons,length_nil]);omega) (by show _+(_:List UInt8).length <= _;(try simp only [length_append,length_cons,length_nil]);omega) (@length_append _ (bs++bLn e 0) (([32]++(bLs e.op))++[32])).symm rfl (fun hn b hb=>qW hn hb) (fun b hb=>by simp [hb]) (bLc (bs++bLn e 0) (([32]++(bLs e.op))++[32])) fun w3=>?_)
  refine ox 8 rfl rfl (bPe (us:=[nI 1]) (cap:=#[.pointer (some ⟨b1,0,none⟩)]) 1 rfl call27 rfl (bOh e 1 ((bs++bLn e 0)++(([32]++(bLs e.op))++[32])) w3 _ _ _ (by omega) hsh (by first|omega|grind) (ih 1 (by omega))) (fun b hb=>by simp [hb]) (fun hn b hb=>qW hn hb) fun w4=>?_)
  refine tz [(9,true)] 0 (go 2 ?_)
  refine ax (go 5 ?_)
  exact ⟨.inr rfl,_,⟨bx,⟨w4,_,_,_,_⟩::rw⟩,aR rfl (aF rfl),aA (.cons _ (.refl _)) (.refl _),⟨w4,rfl,(by rw [show (((bs++bLn e 0)++(([32]++(bLs e.op))++[32]))++bLn e 1)=bs++aP e by rw [bQy hsh (by omega)];simp only [append_assoc]])⟩⟩
 refine wcp false rfl (eD h1) (go 8 ?_)
 by_cases h4:((e.args.length:Nat):Int)=1
 ·refine wcp true rfl (eR h4) (go 12 ?_)
  refine dx [b1] ?_
  have htx:=congrArg List.length (bQ7 hsh (by omega))
  simp only [length_append,length_cons,length_nil] at htx
  refine tz [(0,true),(1,true),(2,true),(4,true),(5,true),(6,true)] 4 (go 7 ?_)
  refine tx 7 rfl (cI ((0:Nat):Int) rfl rfl rfl (by omega) (by omega) (by omega)) ?_
  refine ox 3 rfl rfl (bHb [] Tryd.t5 (z:=bytes (bLs e.op)) rfl rfl (by decide) rfl rfl underlying46 underlying9 (by kernel_rfl) rfl rfl rfl (by unfold maxLen;show _+(_:List UInt8).length <= _;(try simp only [length_append,length_cons,length_nil]);omega) (by show _+(_:List UInt8).length <= _;(try simp only [length_append,length_cons,length_nil]);omega) (@length_append _ bs (bLs e.op)).symm rfl (fun hn b hb=>qW hn hb) (fun b hb=>by simp [hb]) (bLc bs (bLs e.op)) fun w5=>?_)
  refine ox 8 rfl rfl (bPe (us:=[nI 0]) (cap:=#[.pointer (some ⟨b1,0,none⟩)]) 1 rfl call27 rfl (bOh e 0 (bs++(bLs e.op)) w5 _ _ _ (by omega) hsh (by first|omega|grind) (ih 0 (by omega))) (fun b hb=>by simp [hb]) (fun hn b hb=>qW hn hb) fun w6=>?_)
  refine tz [(9,true)] 0 (go 2 ?_)
  refine ax (go 5 ?_)
  exact ⟨.inr rfl,_,⟨bx,⟨w6,_,_,_,_⟩::rw⟩,aR rfl (aF rfl),aA (.cons _ (.refl _)) (.refl _),⟨w6,rfl,(by rw [show ((bs++(bLs e.op))++bLn e 0)=bs++aP e by rw [bQ7 hsh (by omega)];simp only [append_assoc]])⟩⟩
 refine wcp false rfl (eD h4) (go 18 ?_)
 by_cases h7:e.op=2
 ·refine wcp true rfl (eR h7) (go 5 ?_)
  have htx:=congrArg List.length (bPt (e:=e) (by omega))
  refine go 3 ?_
  refine wo rfl (bHb [] Tryd.t5 (z:=e.name) rfl rfl (by decide) rfl rfl underlying46 underlying9 (by kernel_rfl) rfl rfl rfl (by unfold maxLen;show bs.length+e.name.data.toList.length <= _;omega) (by show bs.length+e.name.data.toList.length <= _;omega) (@length_append _ bs e.name.data.toList).symm rfl (fun _ b hb=>by simp [hb]) (fun b hb=>by simp [hb]) (bLc bs e.name.data.toList) fun w7=>?_)
  refine go 5 ?_
  exact ⟨.inr rfl,_,⟨bx,⟨w7,_,_,_,_⟩::rw⟩,aR rfl (aF rfl),aA (.cons _ (.refl _)) (.refl _),⟨w7,rfl,(by rw [show (bs++e.name.data.toList)=bs++aP e by rw [bPt (by omega)]])⟩⟩
 refine wcp false rfl (eD h7) (go 7 ?_)
 obtain ⟨htn,hn0⟩:=bRq (e:=e) (by omega) hsh
 have htx:=congrArg List.length htn
 have hnum:e.num=((e.num.toNat:Nat):Int):=by omega
 refine go 2 ?_
 refine wyz rfl (fL (gQ hnum) (aX [] rfl rfl rfl isAgg3 sizeOf3 rfl (fun _ h=>by cases h))) ?_
 refine wo rfl (bMu 1 rfl call29 rfl (bSd e.num.toNat bs v _ _ (by omega) (by omega)) (fun b hb=>by simp [hb]) (fun _ b hb=>by simp [hb]) fun w8=>?_)
 refine go 4 ?_
 exact ⟨.inr rfl,_,⟨bx,⟨w8,_,_,_,_⟩::rw⟩,aR rfl (aF rfl),aA (.cons _ (.refl _)) (.refl _),⟨w8,rfl,(by rw [show (bs++cO e.num.toNat)=bs++aP e by rw [htn]])⟩⟩
theorem bQu{e:aH}(h:e.sane):fit e.num:=by cases e;rw [aH.sane] at h;exact h.1
theorem bNz:∀(N:Nat)(e:aH),e.nodes <= N -> N <= 1000000000 -> eO e=true -> e.sane -> ∀(bs:List UInt8)(v:Value)(bx:List Box)(rw:List bA),bs.length+(aP e).length <= 100000000000000 -> aL prog 18 [bK5 (.c (.val v)),.agg (cU e)] (aY v) ⟨bx,⟨v,5,1,bs.length,iF bs⟩::rw⟩ fun t s'=>∃v',t=.c (.val v') /\ s'=⟨bx,⟨v',5,1,(bs++aP e).length,iF (bs++aP e)⟩::rw⟩
 |0,e,h,_,_,_,_,_,_,_,_=>by cases e;rw [aH.nodes] at h;omega
 |N+1,e,h,hN,hsh,hs,bs,v,bx,rw,hb=>bN5 e bs v bx rw hsh (by omega) (bQu hs) hb (fun k hk bs v bx rw hb=>bNz N e.args[k] (by have:=sF e k hk;omega) (by omega) ((bLd hsh).2 k hk) (mV _ (bM1 hs).2 _ (getElem_mem _)) bs v bx rw hb)
def bRv(e:aH):List UInt8:=if dM e then aP e else []
theorem bPb{e:aH}(h:dM e=true):eO e=true:=by unfold dM at h;rw [Bool.and_eq_true] at h;exact h.1
theorem bQg(e:aH)(hN:e.nodes <= 1000000000)(hs:e.sane)(hL:dM e=true -> (aP e).length <= 100000000000000)(s:Sto):aL prog 6 [bK5 (.agg (cU e))] [] s fun t s'=>t=.c (.val (.string (bytes (bRv e)))) /\ s'=s:=by
 obtain ⟨bx,rw⟩:=s
 refine acX 9 func6 ?_
 refine go 10 fun b1=>?_
 rcases Bool.eq_false_or_eq_true (dM e) with h1|h1
 ·refine bK8 0 rfl call12 rfl (bLw e hN hs _) h1 (go 8 ?_)
  have hv:dM e=true:=h1
  have hsh:=bPb hv
  have htl:=hL hv
  refine bR3 5 1 ?_
  refine go 1 ?_
  refine wo rfl (bMu 0 rfl call18 rfl (bNz _ e (Nat.le_refl _) (by omega) hsh hs [] _ _ _ (by simp only [length_nil];omega)) (fun b hb=>by simp [aY,Value.ownBlock] at hb) (fun _ b hb=>by simp [aY,Value.ownBlock] at hb) fun w2=>?_)
  refine aE1 7 rfl ?_
  refine wyz rfl (fL (jX (by rw [List.nil_append])) (cK8 rfl rfl rfl)) (go 4 ?_)
  exact bHe (s':=⟨bx,rw⟩) rfl sb1 ⟨oW (by unfold bRv;rw [if_pos hv]),rfl⟩
 refine bK8 0 rfl call12 rfl (bLw e hN hs _) h1 (go 11 ?_)
 exact bHe (s':=⟨bx,rw⟩) rfl sb1 ⟨oW (by unfold bRv;rw [if_neg (by rw [h1];decide)];rfl),rfl⟩
end
section
open Go.RowKit
structure TOk (l:List Tok):Prop where
 last:rP l
 reg:∀t,t∈l -> aPn t
 len:l.length <= 1000000
theorem lA{e:Nat}(h:e≠0):bC .eql (e:Int) 0=some false:=by simp [bC,h]
theorem jS{m n:Nat}:bC .eql (m:Int) (n:Int)=some (decide (m=n)):=by
 by_cases h:m=n
 ·subst h;simp [bC]
 have h2:¬(m:Int)=(n:Int):=by omega
 simp [bC,h,h2]
def aC7(e b k x b1 e1:Nat):Prop:=(e=0 -> k=b1 /\ x=e1) /\ (e≠0 -> b=b1 /\ e=e1)
theorem aC7.run{α:Type}{e b k x b1 e1:Nat}{r:bN α}(h:aC7 e b k x b1 e1)(hx:x≠0)(hr:e=0 -> r=.err k x)(y:α)(k1:Nat):kX e b r y k1 b1 e1:=by
 by_cases he:e=0
 ·obtain ⟨rfl,rfl⟩:=h.1 he
  subst he
  exact .err _ _ _ _ _ (hr rfl) hx
 obtain ⟨rfl,rfl⟩:=h.2 he
 exact .skip he _ _ _
end
section
open Go.RowKit
abbrev ESt(A B:List Box)(rw:List bA)(P:Nat)(l:List Tok)(k d e:Nat):Sto:=⟨A++⟨P,54,[.sl l.length (l.flatMap aW),.val (.int .i64 (k:Int)),.val (.int .i64 (d:Int)),.val (.int .i64 (e:Int))]⟩::B,rw⟩
def EAn(A B:List Box)(rw:List bA)(P:Nat)(l:List Tok)(d k0:Nat)(r:bN aH)(t:AT)(s:Sto):Prop:=
 ∃x k1 d1 e1,t=.agg (cU x) /\ Run 0 k0 r x k1 e1 /\ k1<l.length /\ e1<16 /\ (e1=0 -> d1=d) /\ d <= d1 /\ d1 <= 24 /\ s=ESt A B rw P l k1 d1 e1
theorem aG4(op:Int)(r:bN aH):aKc op r=r.bind fun x k=>.ok (.mk op 0 aK [x]) k:=by cases r<;>rfl
theorem aI9{F:FuncId}{args:List Value}{s:Sto}{t:AT}{v:Value}(ht:∀w,dO w t v)(h:∀w,Calls prog F args.toArray w fun e w'=>e=.returned v /\ w=w'):aL prog F (args.map fun a=>.c (.val a)) [] s fun r s'=>r=t /\ s'=s:=by
 intro vs w hm _ hl hr
 have:vs=args:=by
  refine List.ext_getElem (by simpa using hl) fun i h1 h2=>?_
  have h3:=hr i (by simpa using h2) h1
  generalize hx:(args.map fun a=>AT.c (.val a))[i]'(by simpa using h2)=x at h3
  rw [List.getElem_map] at hx
  subst hx
  generalize vs[i]=u at h3
  cases h3 with|c _ _ h=>cases h;rfl
 subst this
 exact (h w).mono fun e w' ⟨h1,h2⟩=>by subst h2;exact ⟨t,v,s,h1,⟨rfl,rfl⟩,ht _,hm,cW.refl _ _,fun b hb=>.inl hb⟩
theorem aId(x:ByteArray)(s:Sto):aL prog 41 [.c (.val (.string x))] [] s fun r s'=>r=.tup [.c (.val (.int .i64 ((binOp x).1:Int))),.c (.val (.int .i64 ((binOp x).2:Int)))] /\ s'=s:=
 aI9 (args:=[.string x]) (fun w=>.tup _ [_,_] rfl fun i h h'=>by
  match i,h,h' with
  |0,_,_=>exact .c _ _ (.val _ rfl)
  |1,_,_=>exact .c _ _ (.val _ rfl)) fun w=>aDq x w
theorem aR3(A B:List Box)(rw:List bA)(P:Nat)(l:List Tok)(k d e:Nat)(sg:ByteArray)(hk:k<l.length)(h4:l[k].kind=4)(ht:l[k].text=sg):aL prog 48 [pP P,.c (.val (.string sg))] [P] (ESt A B rw P l k d e) fun t s=>t=.c (.val (.bool true)) /\ s=ESt A B rw P l k d e:=by
 refine acX 32 func48 ?_
 refine go 6 ?_
 refine dx [P] (tz [(0,true),(1,true),(2,true),(3,true),(4,true),(5,true),(6,true),(7,true)] 20 (go 9 ?_))
 refine tx 8 rfl (bH aW aW l bJ (fun _=>rfl) (k) rfl rfl rfl rfl hk (by decide) runUnderlying28 sizeOf51) (tz [(9,true),(10,true)] 17 (go 3 ?_))
 refine tx 11 rfl (bO true rfl rfl rfl (by rw [h4];rfl)) (tz [(12,true),(13,true),(14,true),(15,true),(16,true),(17,true),(18,true),(19,true),(20,true)] 7 (go 10 ?_))
 refine tx 21 rfl (bH aW aW l bJ (fun _=>rfl) (k) rfl rfl rfl rfl hk (by decide) runUnderlying28 sizeOf51) (tz [(22,true),(23,true),(24,true)] 3 (go 4 ?_))
 refine tx 25 rfl (aZ true rfl rfl rfl (by rw [ht];simp [oM])) (tz [(26,true),(27,true)] 0 (go 3 ?_))
 refine ax (go 2 ?_)
 exact bHe (s':=(ESt A B rw P l (k) (d) (e))) rfl sb0 ⟨rfl,rfl⟩
theorem aSo(A B:List Box)(rw:List bA)(P:Nat)(l:List Tok)(k d e:Nat)(sg:ByteArray)(hk:k<l.length)(h4:l[k].kind=4)(ht:¬l[k].text=sg):aL prog 48 [pP P,.c (.val (.string sg))] [P] (ESt A B rw P l k d e) fun t s=>t=.c (.val (.bool false)) /\ s=ESt A B rw P l k d e:=by
 refine acX 32 func48 ?_
 refine go 6 ?_
 refine dx [P] (tz [(0,true),(1,true),(2,true),(3,true),(4,true),(5,true),(6,true),(7,true)] 20 (go 9 ?_))
 refine tx 8 rfl (bH aW aW l bJ (fun _=>rfl) (k) rfl rfl rfl rfl hk (by decide) runUnderlying28 sizeOf51) (tz [(9,true),(10,true)] 17 (go 3 ?_))
 refine tx 11 rfl (bO true rfl rfl rfl (by rw [h4];rfl)) (tz [(12,true),(13,true),(14,true),(15,true),(16,true),(17,true),(18,true),(19,true),(20,true)] 7 (go 10 ?_))
 refine tx 21 rfl (bH aW aW l bJ (fun _=>rfl) (k) rfl rfl rfl rfl hk (by decide) runUnderlying28 sizeOf51) (tz [(22,true),(23,true),(24,true)] 3 (go 4 ?_))
 refine tx 25 rfl (aZ false rfl rfl rfl (by simp [oM,ht])) (tz [(26,true),(27,true)] 0 (go 3 ?_))
 refine ax (go 2 ?_)
 exact bHe (s':=(ESt A B rw P l (k) (d) (e))) rfl sb0 ⟨rfl,rfl⟩
theorem aTo(A B:List Box)(rw:List bA)(P:Nat)(l:List Tok)(k d e:Nat)(sg:ByteArray)(hk:k<l.length)(h4:¬l[k].kind=4):aL prog 48 [pP P,.c (.val (.string sg))] [P] (ESt A B rw P l k d e) fun t s=>t=.c (.val (.bool false)) /\ s=ESt A B rw P l k d e:=by
 refine acX 32 func48 ?_
 refine go 6 ?_
 refine dx [P] (tz [(0,true),(1,true),(2,true),(3,true),(4,true),(5,true),(6,true),(7,true)] 20 (go 9 ?_))
 refine tx 8 rfl (bH aW aW l bJ (fun _=>rfl) (k) rfl rfl rfl rfl hk (by decide) runUnderlying28 sizeOf51) (tz [(9,true),(10,true)] 17 (go 3 ?_))
 refine tx 11 rfl (bO false rfl rfl rfl (by rw [show bC .eql ((l[k].kind:Nat):Int) 4=some (decide (l[k].kind=4)) from jS (n:=4),decide_eq_false h4])) (tz [(12,true),(13,true),(14,true),(15,true),(16,true),(17,true),(18,true),(19,true),(20,true),(21,true),(22,true),(23,true),(24,true),(25,true),(26,true),(27,true)] 0 (go 17 ?_))
 refine ax (go 2 ?_)
 exact bHe (s':=(ESt A B rw P l (k) (d) (e))) rfl sb0 ⟨rfl,rfl⟩
theorem zV(A B:List Box)(rw:List bA)(P:Nat)(l:List Tok)(k d e:Nat)(sg:List UInt8)(hk:k<l.length):aL prog 48 [pP P,.c (.val (.string (bytes sg)))] [P] (ESt A B rw P l k d e) fun t s=>(cS l k sg=true /\ t=.c (.val (.bool true)) /\ s=ESt A B rw P l k d e)∨(cS l k sg=false /\ t=.c (.val (.bool false)) /\ s=ESt A B rw P l k d e):=by
 unfold cS
 rw [bG hk]
 by_cases h4:l[k].kind=4
 ·by_cases ht:l[k].text=bytes sg
  ·exact (aR3 A B rw P l k d e _ hk h4 ht).mono fun t s h=>.inl ⟨by simp [h4,ht],h⟩
  exact (aSo A B rw P l k d e _ hk h4 ht).mono fun t s h=>.inr ⟨by simp [ht],h⟩
 exact (aTo A B rw P l k d e _ hk h4).mono fun t s h=>.inr ⟨by simp [h4],h⟩
theorem aDg(A B:List Box)(rw:List bA)(P:Nat)(l:List Tok)(k d e x:Nat):aL prog 51 [pP P,.c (.val (.int .i64 (x:Int)))] [P] (ESt A B rw P l k d e) fun t s=>t=.agg (cU .zero) /\ s=ESt A B rw P l k d x:=by
 refine acX 10 func51 ?_
 refine go 21 fun b1=>?_
 exact ⟨.inr rfl,_,(ESt A B rw P l (k) (d) (x)),(eK (Wk.agg (.r (.r (.r (.n .nil))))) (aR rfl (aO [] rfl rfl isAgg25 sizeOf25 (bK rfl rfl)))),aA (.cons _ (.refl _)) (.refl _),rfl,rfl⟩
theorem aA8(A B:List Box)(rw:List bA)(P:Nat)(l:List Tok)(k:Nat):aL prog 54 [pP P] [P] (ESt A B rw P l k 24 0) fun t s=>t=.c (.val (.bool false)) /\ s=ESt A B rw P l k 24 3:=by
 refine acX 25 func54 ?_
 refine go 12 ?_
 refine wcp true rfl (by rfl) (go 18 ?_)
 exact bHe (s':=(ESt A B rw P l (k) (24) (3))) rfl sb0 ⟨rfl,rfl⟩
theorem aBn(A B:List Box)(rw:List bA)(P:Nat)(l:List Tok)(k d:Nat)(hd:d<24)(hk9:k<1000000):aL prog 54 [pP P] [P] (ESt A B rw P l k d 0) fun t s=>t=.c (.val (.bool true)) /\ s=ESt A B rw P l (k+1) (d+1) 0:=by
 refine acX 25 func54 ?_
 refine go 12 ?_
 refine wcp false rfl (by rw [show bC .eql ((d:Nat):Int) 24=some (decide (d=24)) from jS (n:=24),decide_eq_false (by omega)]) (go 11 ?_)
 refine wad rfl (go 11 ?_)
 refine wad rfl (go 11 ?_)
 exact bHe (s':=(ESt A B rw P l (k+1) (d+1) (0))) rfl sb0 ⟨rfl,rfl⟩
theorem xQ(A B:List Box)(rw:List bA)(P:Nat)(l:List Tok)(k:Nat)(op:Int)(hok:TOk l)(hk:k<l.length):aL prog 49 [pP P,.c (.val (.int .i64 op))] [P] (ESt A B rw P l k 24 0) (EAn A B rw P l 24 k (.err k 3)):=by
 have hlen:=hok.len
 refine acX 23 func49 ?_
 refine go 9 fun b1=>?_
 refine wcQ rfl call54 rfl (aA8 (_::A) _ _ _ l k) ?_
 rintro t1 s1 ⟨rfl,rfl⟩
 refine go 12 ?_
 exact ⟨.inr rfl,_,(ESt A B rw P l (k) (24) (3)),(eK (Wk.agg (.r (.r (.r (.n .nil))))) (aR rfl (aO [] rfl rfl isAgg25 sizeOf25 (bK rfl rfl)))),aA (.cons _ (.refl _)) (.refl _),⟨.zero,k,24,3,rfl,.err _ _ _ _ rfl (by decide),hk,by decide,(fun h=>nomatch h),Nat.le_refl _,Nat.le_refl _,rfl⟩⟩
theorem tV(l:List Tok)(r:bN aH):aHo l r=r.bind fun x k=>if cS l k [41] then .ok x (k+1) else .err k 4:=by cases r<;>rfl
theorem aE6(A B:List Box)(rw:List bA)(P:Nat)(l:List Tok)(k:Nat)(hok:TOk l)(hk:k<l.length):aL prog 50 [pP P] [P] (ESt A B rw P l k 24 0) (EAn A B rw P l 24 k (.err k 3)):=by
 have hlen:=hok.len
 refine acX 36 func50 ?_
 refine go 9 fun b1=>?_
 refine wcQ rfl call54 rfl (aA8 (_::A) _ _ _ l k) ?_
 rintro t1 s1 ⟨rfl,rfl⟩
 refine go 12 ?_
 exact ⟨.inr rfl,_,(ESt A B rw P l (k) (24) (3)),(eK (Wk.agg (.r (.r (.r (.n .nil))))) (aR rfl (aO [] rfl rfl isAgg25 sizeOf25 (bK rfl rfl)))),aA (.cons _ (.refl _)) (.refl _),⟨.zero,k,24,3,rfl,.err _ _ _ _ rfl (by decide),hk,by decide,(fun h=>nomatch h),Nat.le_refl _,Nat.le_refl _,rfl⟩⟩
theorem wW(A B:List Box)(rw:List bA)(P:Nat)(l:List Tok)(k d j:Nat)(op:Int)(hok:TOk l)(hk:k<l.length)(hm:k+1<l.length)(hd:d<24)(ih:∀(A B:List Box)(rw:List bA)(P:Nat)(k:Nat),k<l.length -> aL prog 40 [pP P] [P] (ESt A B rw P l k (d+1) 0) (EAn A B rw P l (d+1) k (bL l j k))):aL prog 49 [pP P,.c (.val (.int .i64 op))] [P] (ESt A B rw P l k d 0) (EAn A B rw P l d k (aKc op (bL l j (k+1)))):=by
 have hlen:=hok.len
 refine acX 23 func49 ?_
 refine go 9 fun b1=>?_
 refine wcQ rfl call54 rfl (aBn (_::A) _ _ _ l k d (by omega) (by omega)) ?_
 rintro t1 s1 ⟨rfl,rfl⟩
 refine go 9 ?_
 refine wcQ rfl call40 rfl (ih (_::A) _ _ _ (k+1) hm) ?_
 rintro t3 s3 ⟨x3,k3,d3,e3,rfl,hr3,hk3,he3,hd3,hl3,hu3,rfl⟩
 refine go 10 fun b2=>?_
 refine wyz rfl (cI ((d3-1:Nat):Int) rfl rfl rfl (by omega) (by omega) (by omega)) (go 9 ?_)
 refine wo rfl (bDk zb1 rfl (.cons rfl .nil) (aV fO cU x3 (fP _) rfl rfl) ?_)
 refine go 5 ?_
 exact ⟨.inr rfl,_,(ESt A B rw P l (k3) (d3-1) (e3)),(aR rfl (aO [_] rfl rfl isAgg25 sizeOf25 (bK rfl rfl))),aA (.cons _ (.cons _ (.refl _))) (.refl _),⟨.mk op 0 aK [x3],k3,d3-1,e3,rfl,by rw [aG4];exact (Run.from hr3).map (f:=fun x=>aH.mk op 0 aK [x]),hk3,he3,fun h=>by have:=hd3 h;omega,by omega,by omega,rfl⟩⟩
theorem aFj(A B:List Box)(rw:List bA)(P:Nat)(l:List Tok)(k d j:Nat)(hok:TOk l)(hk:k<l.length)(hm:k+1<l.length)(hd:d<24)(ihb:∀(A B:List Box)(rw:List bA)(P:Nat)(k:Nat),k<l.length -> aL prog 21 [pP P,.c (.val (.int .i64 1))] [P] (ESt A B rw P l k (d+1) 0) (EAn A B rw P l (d+1) k (gS l (bL l j) 5 k))):aL prog 50 [pP P] [P] (ESt A B rw P l k d 0) (EAn A B rw P l d k (aHo l (gS l (bL l j) 5 (k+1)))):=by
 have hlen:=hok.len
 refine acX 36 func50 ?_
 refine go 9 fun b1=>?_
 refine wcQ rfl call54 rfl (aBn (_::A) _ _ _ l k d (by omega) (by omega)) ?_
 rintro t1 s1 ⟨rfl,rfl⟩
 refine go 9 ?_
 refine wcQ rfl call21 rfl (ihb (_::A) _ _ _ (k+1) hm) ?_
 rintro t3 s3 ⟨x3,k3,d3,e3,rfl,hr3,hk3,he3,hd3,hl3,hu3,rfl⟩
 refine go 7 fun b2=>?_
 by_cases her:e3=0
 ·refine go 4 ?_
  refine wcp false rfl (by rw [her];rfl) (go 9 ?_)
  refine wcQ rfl call48 rfl (zV (_::_::A) _ _ _ l k3 d3 e3 [41] hk3) ?_
  rintro t5 s5 (⟨ha5,rfl,rfl⟩|⟨ha5,rfl,rfl⟩)
  ·refine go 8 ?_
   have hm2:=eF hok.last hk3 ha5
   refine go 4 ?_
   refine wad rfl (go 11 ?_)
   refine wyz rfl (cI ((d3-1:Nat):Int) rfl rfl rfl (by omega) (by omega) (by omega)) (go 12 ?_)
   exact ⟨.inr rfl,_,(ESt A B rw P l (k3+1) (d3-1) (e3)),(aR rfl (aO [_] rfl rfl isAgg25 sizeOf25 (bK rfl rfl))),aA (.cons _ (.cons _ (.refl _))) (.refl _),⟨x3,k3+1,d3-1,e3,rfl,by rw [tV];exact (Run.from hr3).bind (by rw [her,if_pos ha5];exact .ok _ _ _ rfl),hm2,he3,fun h=>by have:=hd3 h;omega,by omega,by omega,rfl⟩⟩
  refine go 7 ?_
  refine wcQ rfl call51 rfl (aDg (_::_::A) _ _ _ l k3 d3 e3 4) ?_
  rintro t8 s8 ⟨rfl,rfl⟩
  refine go 5 ?_
  exact ⟨.inr rfl,_,(ESt A B rw P l (k3) (d3) (4)),(aR rfl (aO [_] rfl rfl isAgg25 sizeOf25 (bK rfl rfl))),aA (.cons _ (.cons _ (.refl _))) (.refl _),⟨.zero,k3,d3,4,rfl,by rw [tV];exact (Run.from hr3).bind (by rw [her,if_neg (by rw [ha5];decide)];exact .err _ _ _ _ rfl (by decide)),hk3,by decide,(fun h=>nomatch h),by omega,by omega,rfl⟩⟩
 refine go 4 ?_
 refine wcp true rfl (by simp [bC,her]) (go 11 ?_)
 exact ⟨.inr rfl,_,(ESt A B rw P l (k3) (d3) (e3)),(aR rfl (aO [_] rfl rfl isAgg25 sizeOf25 (bK rfl rfl))),aA (.cons _ (.cons _ (.refl _))) (.refl _),⟨x3,k3,d3,e3,rfl,by rw [tV];exact (Run.from hr3).bind (.skip her _ _),hk3,he3,fun h=>absurd h her,by omega,by omega,rfl⟩⟩
theorem aJs(A B:List Box)(rw:List bA)(P:Nat)(l:List Tok)(k:Nat)(hok:TOk l)(hk:k<l.length):aL prog 40 [pP P] [P] (ESt A B rw P l k 24 0) (EAn A B rw P l 24 k (bL l 0 k)):=by
 have hlen:=hok.len
 refine acX 59 func40 ?_
 refine go 6 fun b1=>?_
 refine dx [b1,P] (tz [(0,true),(1,true),(2,true),(3,true),(4,true),(5,true),(6,true),(7,true)] 4 (go 9 ?_))
 refine tx 8 rfl (bH aW aW l bJ (fun _=>rfl) (k) rfl rfl rfl rfl hk (by decide) runUnderlying28 sizeOf51) (tz [(9,true),(10,false),(11,false)] 0 (go 4 fun b2=>?_))
 refine ax (go 5 ?_)
 rcases (show l[k].kind=2∨(¬l[k].kind=2 /\ l[k].kind=1)∨(¬l[k].kind=2 /\ ¬l[k].kind=1) by omega) with h2|⟨h2,h1⟩|⟨h2,h1⟩
 ·have hm:=hok.last.more hk (by rw [bG hk,h2];decide)
  refine go 2 ?_
  refine wcp true rfl (by rw [h2];rfl) (go 10 ?_)
  refine wad rfl (go 16 ?_)
  exact ⟨.inr rfl,_,(ESt A B rw P l (k+1) (24) (0)),(eK (Wk.agg (.r (.r (.r (.n .nil))))) (aR rfl (aO [_] rfl rfl isAgg25 sizeOf25 (bK rfl rfl)))),aA (.cons _ (.cons _ (.refl _))) (.refl _),⟨.mk 1 (l[k].num:Int) aK [],k+1,24,0,rfl,.ok _ _ _ (by unfold bL;rw [bG hk,if_pos h2]),hm,by decide,fun _=>rfl,Nat.le_refl _,by omega,rfl⟩⟩
 ·have hm:=hok.last.more hk (by rw [bG hk,h1];decide)
  refine go 2 ?_
  refine wcp false rfl (by rw [show bC .eql ((l[k].kind:Nat):Int) 2=some (decide (l[k].kind=2)) from jS (n:=2),decide_eq_false h2]) (go 8 ?_)
  refine wcp true rfl (by rw [h1];rfl) (go 10 ?_)
  refine wad rfl (go 16 ?_)
  exact ⟨.inr rfl,_,(ESt A B rw P l (k+1) (24) (0)),(eK (Wk.agg (.r (.r (.r (.n .nil))))) (aR rfl (aO [_] rfl rfl isAgg25 sizeOf25 (bK rfl rfl)))),aA (.cons _ (.cons _ (.refl _))) (.refl _),⟨.mk 2 0 l[k].text [],k+1,24,0,rfl,.ok _ _ _ (by unfold bL;rw [bG hk,if_neg h2,if_pos h1]),hm,by decide,fun _=>rfl,Nat.le_refl _,by omega,rfl⟩⟩
 refine go 2 ?_
 refine wcp false rfl (by rw [show bC .eql ((l[k].kind:Nat):Int) 2=some (decide (l[k].kind=2)) from jS (n:=2),decide_eq_false h2]) (go 8 ?_)
 refine wcp false rfl (by rw [show bC .eql ((l[k].kind:Nat):Int) 1=some (decide (l[k].kind=1)) from jS (n:=1),decide_eq_false h1]) (go 7 ?_)
 refine wcQ rfl call48 rfl (zV (_::_::A) _ _ _ l k 24 0 [45] hk) ?_
 rintro t6 s6 (⟨ha6,rfl,rfl⟩|⟨ha6,rfl,rfl⟩)
 ·refine go 7 ?_
  have hm:=eF hok.last hk ha6
  refine wcQ rfl call49 rfl (xQ (_::_::A) _ _ _ l k 3 hok hk) ?_
  rintro t8 s8 ⟨x8,k8,d8,e8,rfl,hr8,hk8,he8,hd8,hl8,hu8,rfl⟩
  refine go 6 ?_
  exact ⟨.inr rfl,_,(ESt A B rw P l (k8) (d8) (e8)),(aR rfl (aO [_] rfl rfl isAgg25 sizeOf25 (bK rfl rfl))),aA (.cons _ (.cons _ (.refl _))) (.refl _),⟨x8,k8,d8,e8,rfl,hr8.eq fun _=>by unfold bL;rw [if_neg (by rw [bG hk];exact h2),if_neg (by rw [bG hk];exact h1)];rw [if_pos (by simp [ha6])],hk8,he8,hd8,hl8,hu8,rfl⟩⟩
 refine go 7 ?_
 refine wcQ rfl call48 rfl (zV (_::_::A) _ _ _ l k 24 0 [33] hk) ?_
 rintro t10 s10 (⟨ha10,rfl,rfl⟩|⟨ha10,rfl,rfl⟩)
 ·refine go 7 ?_
  have hm:=eF hok.last hk ha10
  refine wcQ rfl call49 rfl (xQ (_::_::A) _ _ _ l k 4 hok hk) ?_
  rintro t12 s12 ⟨x12,k12,d12,e12,rfl,hr12,hk12,he12,hd12,hl12,hu12,rfl⟩
  refine go 6 ?_
  exact ⟨.inr rfl,_,(ESt A B rw P l (k12) (d12) (e12)),(aR rfl (aO [_] rfl rfl isAgg25 sizeOf25 (bK rfl rfl))),aA (.cons _ (.cons _ (.refl _))) (.refl _),⟨x12,k12,d12,e12,rfl,hr12.eq fun _=>by unfold bL;rw [if_neg (by rw [bG hk];exact h2),if_neg (by rw [bG hk];exact h1)];rw [if_pos (by simp [ha10])],hk12,he12,hd12,hl12,hu12,rfl⟩⟩
 refine go 7 ?_
 refine wcQ rfl call48 rfl (zV (_::_::A) _ _ _ l k 24 0 [40] hk) ?_
 rintro t14 s14 (⟨ha14,rfl,rfl⟩|⟨ha14,rfl,rfl⟩)
 ·refine go 7 ?_
  have hm:=eF hok.last hk ha14
  refine wcQ rfl call50 rfl (aE6 (_::_::A) _ _ _ l k hok hk) ?_
  rintro t16 s16 ⟨x16,k16,d16,e16,rfl,hr16,hk16,he16,hd16,hl16,hu16,rfl⟩
  refine go 6 ?_
  exact ⟨.inr rfl,_,(ESt A B rw P l (k16) (d16) (e16)),(aR rfl (aO [_] rfl rfl isAgg25 sizeOf25 (bK rfl rfl))),aA (.cons _ (.cons _ (.refl _))) (.refl _),⟨x16,k16,d16,e16,rfl,hr16.eq fun _=>by unfold bL;rw [if_neg (by rw [bG hk];exact h2),if_neg (by rw [bG hk];exact h1)];rw [if_pos (by simp [ha14])],hk16,he16,hd16,hl16,hu16,rfl⟩⟩
 refine go 10 ?_
 refine wcQ rfl call51 rfl (aDg (_::_::A) _ _ _ l k 24 0 4) ?_
 rintro t18 s18 ⟨rfl,rfl⟩
 refine go 4 ?_
 exact ⟨.inr rfl,_,(ESt A B rw P l (k) (24) (4)),(aR rfl (aO [_] rfl rfl isAgg25 sizeOf25 (bK rfl rfl))),aA (.cons _ (.cons _ (.refl _))) (.refl _),⟨.zero,k,24,4,rfl,.err _ _ _ _ (by unfold bL;rw [if_neg (by rw [bG hk];exact h2),if_neg (by rw [bG hk];exact h1)];rw [ha6,ha10,ha14];rfl) (by decide),hk,by decide,(fun h=>nomatch h),Nat.le_refl _,by omega,rfl⟩⟩
theorem aJi(A B:List Box)(rw:List bA)(P:Nat)(l:List Tok)(k d j:Nat)(hok:TOk l)(hk:k<l.length)(hd:d<24)(ih:∀(A B:List Box)(rw:List bA)(P:Nat)(k:Nat),k<l.length -> aL prog 40 [pP P] [P] (ESt A B rw P l k (d+1) 0) (EAn A B rw P l (d+1) k (bL l j k)))(ihb:∀(A B:List Box)(rw:List bA)(P:Nat)(k:Nat),k<l.length -> aL prog 21 [pP P,.c (.val (.int .i64 1))] [P] (ESt A B rw P l k (d+1) 0) (EAn A B rw P l (d+1) k (gS l (bL l j) 5 k))):aL prog 40 [pP P] [P] (ESt A B rw P l k d 0) (EAn A B rw P l d k (bL l (j+1) k)):=by
 have hlen:=hok.len
 refine acX 59 func40 ?_
 refine go 6 fun b1=>?_
 refine dx [b1,P] (tz [(0,true),(1,true),(2,true),(3,true),(4,true),(5,true),(6,true),(7,true)] 4 (go 9 ?_))
 refine tx 8 rfl (bH aW aW l bJ (fun _=>rfl) (k) rfl rfl rfl rfl hk (by decide) runUnderlying28 sizeOf51) (tz [(9,true),(10,false),(11,false)] 0 (go 4 fun b2=>?_))
 refine ax (go 5 ?_)
 rcases (show l[k].kind=2∨(¬l[k].kind=2 /\ l[k].kind=1)∨(¬l[k].kind=2 /\ ¬l[k].kind=1) by omega) with h2|⟨h2,h1⟩|⟨h2,h1⟩
 ·have hm:=hok.last.more hk (by rw [bG hk,h2];decide)
  refine go 2 ?_
  refine wcp true rfl (by rw [h2];rfl) (go 10 ?_)
  refine wad rfl (go 16 ?_)
  exact ⟨.inr rfl,_,(ESt A B rw P l (k+1) (d) (0)),(eK (Wk.agg (.r (.r (.r (.n .nil))))) (aR rfl (aO [_] rfl rfl isAgg25 sizeOf25 (bK rfl rfl)))),aA (.cons _ (.cons _ (.refl _))) (.refl _),⟨.mk 1 (l[k].num:Int) aK [],k+1,d,0,rfl,.ok _ _ _ (by rw [bL.eq_2];rw [bG hk,if_pos h2]),hm,by decide,fun _=>rfl,Nat.le_refl _,by omega,rfl⟩⟩
 ·have hm:=hok.last.more hk (by rw [bG hk,h1];decide)
  refine go 2 ?_
  refine wcp false rfl (by rw [show bC .eql ((l[k].kind:Nat):Int) 2=some (decide (l[k].kind=2)) from jS (n:=2),decide_eq_false h2]) (go 8 ?_)
  refine wcp true rfl (by rw [h1];rfl) (go 10 ?_)
  refine wad rfl (go 16 ?_)
  exact ⟨.inr rfl,_,(ESt A B rw P l (k+1) (d) (0)),(eK (Wk.agg (.r (.r (.r (.n .nil))))) (aR rfl (aO [_] rfl rfl isAgg25 sizeOf25 (bK rfl rfl)))),aA (.cons _ (.cons _ (.refl _))) (.refl _),⟨.mk 2 0 l[k].text [],k+1,d,0,rfl,.ok _ _ _ (by rw [bL.eq_2];rw [bG hk,if_neg h2,if_pos h1]),hm,by decide,fun _=>rfl,Nat.le_refl _,by omega,rfl⟩⟩
 refine go 2 ?_
 refine wcp false rfl (by rw [show bC .eql ((l[k].kind:Nat):Int) 2=some (decide (l[k].kind=2)) from jS (n:=2),decide_eq_false h2]) (go 8 ?_)
 refine wcp false rfl (by rw [show bC .eql ((l[k].kind:Nat):Int) 1=some (decide (l[k].kind=1)) from jS (n:=1),decide_eq_false h1]) (go 7 ?_)
 refine wcQ rfl call48 rfl (zV (_::_::A) _ _ _ l k d 0 [45] hk) ?_
 rintro t6 s6 (⟨ha6,rfl,rfl⟩|⟨ha6,rfl,rfl⟩)
 ·refine go 7 ?_
  have hm:=eF hok.last hk ha6
  refine wcQ rfl call49 rfl (wW (_::_::A) _ _ _ l k d j 3 hok hk hm (by omega) ih) ?_
  rintro t8 s8 ⟨x8,k8,d8,e8,rfl,hr8,hk8,he8,hd8,hl8,hu8,rfl⟩
  refine go 6 ?_
  exact ⟨.inr rfl,_,(ESt A B rw P l (k8) (d8) (e8)),(aR rfl (aO [_] rfl rfl isAgg25 sizeOf25 (bK rfl rfl))),aA (.cons _ (.cons _ (.refl _))) (.refl _),⟨x8,k8,d8,e8,rfl,hr8.eq fun _=>by rw [bL.eq_2];rw [if_neg (by rw [bG hk];exact h2),if_neg (by rw [bG hk];exact h1)];rw [if_pos ha6],hk8,he8,hd8,hl8,hu8,rfl⟩⟩
 refine go 7 ?_
 refine wcQ rfl call48 rfl (zV (_::_::A) _ _ _ l k d 0 [33] hk) ?_
 rintro t10 s10 (⟨ha10,rfl,rfl⟩|⟨ha10,rfl,rfl⟩)
 ·refine go 7 ?_
  have hm:=eF hok.last hk ha10
  refine wcQ rfl call49 rfl (wW (_::_::A) _ _ _ l k d j 4 hok hk hm (by omega) ih) ?_
  rintro t12 s12 ⟨x12,k12,d12,e12,rfl,hr12,hk12,he12,hd12,hl12,hu12,rfl⟩
  refine go 6 ?_
  exact ⟨.inr rfl,_,(ESt A B rw P l (k12) (d12) (e12)),(aR rfl (aO [_] rfl rfl isAgg25 sizeOf25 (bK rfl rfl))),aA (.cons _ (.cons _ (.refl _))) (.refl _),⟨x12,k12,d12,e12,rfl,hr12.eq fun _=>by rw [bL.eq_2];rw [if_neg (by rw [bG hk];exact h2),if_neg (by rw [bG hk];exact h1)];rw [if_neg (by rw [ha6];decide),if_pos ha10],hk12,he12,hd12,hl12,hu12,rfl⟩⟩
 refine go 7 ?_
 refine wcQ rfl call48 rfl (zV (_::_::A) _ _ _ l k d 0 [40] hk) ?_
 rintro t14 s14 (⟨ha14,rfl,rfl⟩|⟨ha14,rfl,rfl⟩)
 ·refine go 7 ?_
  have hm:=eF hok.last hk ha14
  refine wcQ rfl call50 rfl (aFj (_::_::A) _ _ _ l k d j hok hk hm (by omega) ihb) ?_
  rintro t16 s16 ⟨x16,k16,d16,e16,rfl,hr16,hk16,he16,hd16,hl16,hu16,rfl⟩
  refine go 6 ?_
  exact ⟨.inr rfl,_,(ESt A B rw P l (k16) (d16) (e16)),(aR rfl (aO [_] rfl rfl isAgg25 sizeOf25 (bK rfl rfl))),aA (.cons _ (.cons _ (.refl _))) (.refl _),⟨x16,k16,d16,e16,rfl,hr16.eq fun _=>by rw [bL.eq_2];rw [if_neg (by rw [bG hk];exact h2),if_neg (by rw [bG hk];exact h1)];rw [if_neg (by rw [ha6];decide),if_neg (by rw [ha10];decide),if_pos ha14],hk16,he16,hd16,hl16,hu16,rfl⟩⟩
 refine go 10 ?_
 refine wcQ rfl call51 rfl (aDg (_::_::A) _ _ _ l k d 0 4) ?_
 rintro t18 s18 ⟨rfl,rfl⟩
 refine go 4 ?_
 exact ⟨.inr rfl,_,(ESt A B rw P l (k) (d) (4)),(aR rfl (aO [_] rfl rfl isAgg25 sizeOf25 (bK rfl rfl))),aA (.cons _ (.cons _ (.refl _))) (.refl _),⟨.zero,k,d,4,rfl,.err _ _ _ _ (by rw [bL.eq_2];rw [if_neg (by rw [bG hk];exact h2),if_neg (by rw [bG hk];exact h1)];rw [if_neg (by rw [ha6];decide),if_neg (by rw [ha10];decide),if_neg (by rw [ha14];decide)]) (by decide),hk,by decide,(fun h=>nomatch h),Nat.le_refl _,by omega,rfl⟩⟩
end
end Go.Proofs.YtbdfdjdgfanjaaaDoor
