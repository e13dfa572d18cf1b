import Derived.Test.YtjgeihmhppadaaaGreatDoorG5J
set_option linter.all false
set_option synthInstance.maxHeartbeats 1000000
set_option synthInstance.maxSize 1000000
set_option maxHeartbeats 1600000
set_option maxRecDepth 100000
namespace Go.Proofs.YtjgeihmhppadaaaGreatDoor
open Go.Proofs.Tryz
open List (length_append length_cons length_nil mem_append mem_cons not_mem_nil append_assoc getElem_mem take_of_length_le)
section
open Go.RowKit
section
variable {P:Program}{U T:List Nat}{o:Oper}{n d:Nat}{bx:List Box}{rw:List bA}{ts:List (Nat×AT)}{K:AS -> Prop}{st:AS}{t:AT}
theorem aGq{t e:TypeId}{x y:Operand}{d n m z bytes:Nat}{v zv:Value}{cs ds:List AC}{i:TypeInfo}(A:List bA){B:List bA}(ho:o.op=.call {callee:=.builtin .append,args:=#[x,y],argTypes:=#[t,t]})(hd:o.dst=some d)(hn:d<st.n)
  (hx:evA st x=some (Cv v)) (hrow:st.s.rows=A++⟨v,e,z,n,cs⟩::B) (hy:∀a w,Sim st a w -> ∃ad c ys,a.eval y=.slice (some ad) m c /\ fG (bI st.s.bl w) ds ys /\ ∀j u,ys[j]?=some u -> w.cell? (ad.add j)=some u) (hu:P.underlying t=some (.slice e)) (hi:P.info? e=some i) (hz:i.zero=some zv) (hsz:i.size=z) (hby:i.bytes=bytes) (hzs:zv.cells.size=z) (h0:0<z)
  (hm:ds.length=m*z) (hlen:n+m <= maxLen) (hbytes:(n+m)*bytes <= 140737488355328) (hU:st.s.bl.Nodup -> ∀b,b∈aY v -> b∈U) (hT:∀b,b∈aY v -> b∈st.T)
  (h:∀v',K {st with s:=⟨st.s.boxes,A++⟨v',e,z,n+m,cs++ds⟩::B⟩,T:=aY v'++st.T,ts:=(d,Cv v')::st.ts}):AO P U o st K:=by
 refine bGt A hd hn hrow h0 (λa w hs us hown=>?_) hU hT h
 obtain ⟨ad,cap,ys,hyv,hyrep,hyc⟩:=hy a w hs
 exact ⟨ys,hyrep,λKK QQ hK=>dAa w x y t ho 0 e i zv z bytes hu hi hz hsz hby hzs h0 v n us (hs.val hx) hown ad m cap ys hyv (by rw [hyrep.len,hm]) hyc hyrep.one hlen hbytes (Nat.zero_le _) hK⟩
theorem aF2(w:World)(t ty e:TypeId)(i:TypeInfo)(size:Nat)(ht:P.underlying t=some (.slice e))(hi:P.info? e=some i)(v:Value)(n:Nat)(xs:List Value)(hown:w.ownsRow 0 e size v n xs)(b:Option Addr)(c:Nat):
  (Builtin.append_ #[t,t] ty #[v,.slice b 0 c]).run P w=.ok v w:=by
 have hl:∀a:Addr,(loadCells a 0).run P w=.ok #[] w:=λa=>run_loadCells_list (P:=P) w a [] Fc
 rcases hown.2 with ⟨rfl,rfl⟩|⟨g,cap,cur,rfl,_,_,hnc,_⟩
 ·cases b<;>simp [Builtin.append_,run_underlying ht,sizeOf,typeInfo,hi,Builtin.lenOf,Builtin.firstCells,hl]
 cases b<;>simp [Builtin.append_,run_underlying ht,sizeOf,typeInfo,hi,Builtin.lenOf,Builtin.firstCells,hnc,storeCells,hl]
theorem aAk{t e:TypeId}{x y:Operand}{z k:Nat}{v:Value}{cs:List AC}{i:TypeInfo}(A:List bA){B:List bA}(ho:o.op=.call {callee:=.builtin .append,args:=#[x,y],argTypes:=#[t,t]})(hd:o.dst=some d)(hn:d<n)
  (hx:evA ⟨n,T,⟨bx,A++⟨v,e,z,k,cs⟩::B⟩,ts⟩ x=some (Cv v)) (hy:∀a w,Sim ⟨n,T,⟨bx,A++⟨v,e,z,k,cs⟩::B⟩,ts⟩ a w -> ∃b c,a.eval y=.slice b 0 c) (hu:P.underlying t=some (.slice e)) (hi:P.info? e=some i) (hT:∀b,b∈aY v -> b∈T) (h0:0<z)
  (h:K ⟨n,aY v++T,⟨bx,A++⟨v,e,z,k,cs⟩::B⟩,(d,Cv v)::ts⟩):AO P U o ⟨n,T,⟨bx,A++⟨v,e,z,k,cs⟩::B⟩,ts⟩ K:=by
 intro a w hs KK QQ hK
 obtain ⟨us,hownR,hrep⟩:=hs.mem.row ⟨v,e,z,k,cs⟩ G0
 have hown:=hownR.row h0
 obtain ⟨b,c,hyv⟩:=hy a w hs
 have hr:=aF2 (P:=P) w t o.type e i z hu hi v k us hown b c
 have s2:=hs.step (w1:=w) (aY v++T) (cW.refl _ _) hs.mem (λb hb=>.inl hb)
 have h1c:v.oneCell'=true:=by obtain ⟨_,_,he⟩:=lR hown;dsimp only at he;rw [he];rfl
 have hxv:=hs.val hx
 have goal:KK (a.put o.dst v) w:=by
  rw [hd]
  refine hK _ _ _ h (s2.put (v:=v) hn (.c _ _ (.val _ h1c))) ⟨cW.refl _ _,cW.refl _ _,λb hb=>.inl hb,λg hg=>?_⟩ (cW.refl _ _)
  rcases mem_append.1 hg with hg|hg
  ·exact .inl (hT g hg)
  exact .inl hg
 unfold Oper.wp execOp
 simp only [ho,resolve,invoke,builtin,Sem.run_bind,Sem.run_pure,Result.andThen_ok,List.map_toArray,List.map_cons,List.map_nil,hxv,hyv,hr]
 exact goal
theorem jU{E e:TypeId}{x y:Operand}{k m z:Nat}{v zv:Value}{cs ds r:List AC}(A:List bA)(i:TypeInfo)(bytes:Nat){B:List bA}(ho:o.op=.call {callee:=.builtin .append,args:=#[x,y],argTypes:=#[E,E]})(hd:o.dst=some d)(hn:d<n)
  (hx:evA ⟨n,T,⟨bx,A++⟨v,e,z,k,cs⟩::B⟩,ts⟩ x=some (Cv v)) (hy:evA ⟨n,T,⟨bx,A++⟨v,e,z,k,cs⟩::B⟩,ts⟩ y=some (.c (.sl m ds))) (hu:P.underlying E=some (.slice e)) (hi:P.info? e=some i) (hz:i.zero=some zv) (hsz:i.size=z) (hby:i.bytes=bytes) (hzs:zv.cells.size=z) (h0:0<z)
  (hm:ds.length=m*z) (hlen:k+m <= maxLen) (hbytes:(k+m)*bytes <= 140737488355328) {N:Nat} (hN:k+m=N) (hU:(⟨bx,A++⟨v,e,z,k,cs⟩::B⟩:Sto).bl.Nodup -> ∀b,b∈aY v -> b∈U) (hT:∀b,b∈aY v -> b∈T) (hr:cs++ds=r)
  (h:∀v',K ⟨n,aY v'++T,⟨bx,A++⟨v',e,z,N,r⟩::B⟩,(d,Cv v')::ts⟩):AO P U o ⟨n,T,⟨bx,A++⟨v,e,z,k,cs⟩::B⟩,ts⟩ K:=by
 rcases Nat.eq_zero_or_pos m with rfl|hm0
 ·have hds:ds=[]:=List.eq_nil_of_length_eq_zero (by rw [hm,Nat.zero_mul])
  subst hds;subst hr;subst hN
  refine aAk A ho hd hn hx (λa w hs=>?_) hu hi hT h0 ?_
  ·obtain ⟨p,cap,hv,-⟩:=aI0 (hs.ev hy);exact ⟨p,cap,hv⟩
  have:=h v;rw [List.append_nil,Nat.add_zero] at this;exact this
 subst hr;subst hN
 exact aBj A ho hd hn hx Y hy hu hi hz hsz hby hzs h0 hm hm0 hlen hbytes hU hT h
theorem aSk{E e:TypeId}{x y:Operand}{k m z:Nat}{v vy zv:Value}{cs ds r:List AC}(A:List bA)(i:TypeInfo)(bytes:Nat){B:List bA}(ho:o.op=.call {callee:=.builtin .append,args:=#[x,y],argTypes:=#[E,E]})(hd:o.dst=some d)(hn:d<n)
  (hx:evA ⟨n,T,⟨bx,A++⟨v,e,z,k,cs⟩::B⟩,ts⟩ x=some (Cv v)) (hy:evA ⟨n,T,⟨bx,A++⟨v,e,z,k,cs⟩::B⟩,ts⟩ y=some (Cv vy)) (hmem:(⟨vy,e,z,m,ds⟩:bA)∈A++⟨v,e,z,k,cs⟩::B) (hu:P.underlying E=some (.slice e)) (hi:P.info? e=some i) (hz:i.zero=some zv) (hsz:i.size=z) (hby:i.bytes=bytes) (hzs:zv.cells.size=z) (h0:0<z)
  (hlen:k+m <= maxLen) (hbytes:(k+m)*bytes <= 140737488355328) {N:Nat} (hN:k+m=N) (hU:(⟨bx,A++⟨v,e,z,k,cs⟩::B⟩:Sto).bl.Nodup -> ∀b,b∈aY v -> b∈U) (hT:∀b,b∈aY v -> b∈T) (hm:ds.length=m*z) (hr:cs++ds=r)
  (h:∀v',K ⟨n,aY v'++T,⟨bx,A++⟨v',e,z,N,r⟩::B⟩,(d,Cv v')::ts⟩):AO P U o ⟨n,T,⟨bx,A++⟨v,e,z,k,cs⟩::B⟩,ts⟩ K:=by
 rcases Nat.eq_zero_or_pos m with rfl|hm0
 ·have hds:ds=[]:=List.eq_nil_of_length_eq_zero (by rw [hm,Nat.zero_mul])
  subst hds;subst hr;subst hN
  refine aAk A ho hd hn hx (λa w hs=>?_) hu hi hT h0 ?_
  ·obtain ⟨us,hownR,-⟩:=hs.mem.row _ hmem
   have hown:=hownR.row h0
   obtain ⟨p,cap,hv⟩:=lR hown
   exact ⟨p,cap,by rw [hs.val hy];exact hv⟩
  have:=h v;rw [List.append_nil,Nat.add_zero] at this;exact this
 subst hr;subst hN
 refine aGq (st:=⟨n,T,⟨bx,A++⟨v,e,z,k,cs⟩::B⟩,ts⟩) A ho hd hn hx Y (λa w hs=>?_) hu hi hz hsz hby hzs h0 hm hlen hbytes hU hT h
 obtain ⟨us,hownR,hrep⟩:=hs.mem.row _ hmem
 have hown:=hownR.row h0
 obtain ⟨g,cap,hv⟩:=rV hs.mem hmem hm0 h0
 have hvy:=hs.val hy
 dsimp only at hv hown hrep
 subst hv
 exact ⟨⟨g,0,none⟩,cap,us,hvy,hrep,λj u hj=>hown.cells (g:=g) Y j u hj⟩
theorem aBf{E E':TypeId}{x:Operand}{k:Nat}(ho:o.op=.convert E E' x)(hx:evA st x=some (nI k))(hk:k<256)(hE:(P.underlying E).isSome=true)(hE':P.underlying E'=some (.int (P.intKind E')))(hk8:P.intKind E'=.u8):AY P U o st (Cv (.int .u8 ((UInt8.ofNat k).toNat:Int))):=by
 intro a w hs _
 refine ⟨_,.c _ _ (.val _ Y),λw' _=>?_⟩
 have h1:=run_convert_int (P:=P) (w:=w') E E' .i64 ((k:Nat):Int) hE hE'
 simp only [execOp,ho,Sem.run_bind,hs.val hx]
 rw [h1,hk8]
 have h2:IntKind.u8.wrap ((k:Nat):Int)=((k:Nat):Int):=by
  have h3:(List.range 256).all (λk=>decide (IntKind.u8.wrap ((k:Nat):Int)=((k:Nat):Int)))=true:=B6
  exact of_decide_eq_true (List.all_eq_true.1 h3 k (List.mem_range.2 hk))
 rw [h2,show (UInt8.ofNat k).toNat=k from UInt8.toNat_ofNat_of_lt' hk];rfl
end
theorem aG8{w:World}{u v:Value}(h:Rep w (.val v) u):u=v:=by cases h;rfl
theorem cK8{U:List Nat}{o:Oper}{st:AS}{x:Operand}{t:List UInt8}{k:Nat}(ho:o.op=.convert 58 9 x)(hx:evA st x=some (.c (.sl k (iF t))))(hk:k=t.length):AY prog U o st (Cs (bytes t)):=by
 subst hk
 intro a w hs hU
 refine ⟨_,.c _ _ (.val _ Y),λw' hkp=>?_⟩
 have hv:=hs.ev hx
 generalize hxe:a.eval x=v at hv
 cases hv with
 |c _ _ hv=>cases hv with
  |sl _ _ us _ hr hl hh hc=>
   obtain ⟨p,cap,rfl,hcap,hr⟩:=hr
   have hus:us=cC t:=by
    refine List.ext_getElem (by rw [hl];simp [iF,cC]) λj h1 h2=>?_
    have h3:=hh j (by simpa [iF,cC] using h2) h1
    have h4:(iF t)[j]'(by simpa [iF,cC] using h2)=.val (cC t)[j]:=by simp [iF,cC]
    rw [h4] at h3;exact aG8 h3
   subst hus
   have hcv:=zN t p cap w' (by
    rcases hr with h0|⟨b,off,rfl,hr⟩
    ·exact .inl h0
    refine .inr ⟨b,off,Y,λj u hj=>?_⟩
    obtain ⟨h4,h5⟩:=gA (hr j u hj)
    rw [hkp.cell (gV h4) (λhm=>h5 (hU _ hm))];exact h4)
   simp only [execOp,ho,Sem.run_bind,hxe]
   rw [hcv];rfl
instance aRs{P:Program}{U T:List Nat}{n N:Nat}{ts:List (Nat×AT)}{t:AT}{g:Prop}{K:AS -> Prop}{E T0:TypeId}{x y:Operand}{ty:TypeId}{pos:String}{af:Array Edge}{gd:Option (Nat×Bool)}{b off z:Nat}{cs ds r:List AC}{ag:Bool}{bx A B:List Box}{rw:List bA}[h1:Ev ts x (Cv (.pointer (some ⟨b,off,none⟩)))][h2:Ev ts y t][h3:rF t ds][h4:lY bx b A T0 cs B][h5:TY P E ag z][h6:Spl cs off ds z r]{bx2:List Box}[h7:aNc bx rw T U b][h8:aDk A (⟨b,T0,r⟩::B) bx2][h:Go1 N (K ⟨n,T,⟨bx2,rw⟩,ts⟩) g]:Go1 (N+1) (AO P U ⟨none,.store E x y,ty,pos,af,gd⟩ ⟨n,T,⟨bx,rw⟩,ts⟩ K) g:=⟨λk=>
 zQ A rfl rfl (h1.h _ _ _) (h2.h _ _ _) h3.h h4.h h5.h.2 h6.h.2.2 h6.h.2.1 h6.h.1 h7.h.1 h7.h.2 Ek⟩
end
section
open Go.RowKit
theorem aJ6{bx bx':List Box}{rw:List bA}(h:bx'.Perm bx):aAz ⟨bx,rw⟩ ⟨bx',rw⟩:=by
 intro w hm
 have hp:((⟨bx',rw⟩:Sto).bl).Perm ((⟨bx,rw⟩:Sto).bl):=List.Perm.append (h.map _) (List.Perm.refl _)
 have hu:Up2 (bI (⟨bx,rw⟩:Sto).bl w) (bI (⟨bx',rw⟩:Sto).bl w):=up_sub λb hb=>hp.mem_iff.1 hb
 exact ⟨⟨hp.nodup_iff.2 hm.nodup,λb hb=>hm.lt b (hp.mem_iff.1 hb),λx hx=>let ⟨us,e,r⟩:=hm.box x (h.mem_iff.1 hx);⟨us,e,r.mono hu⟩,λx hx=>let ⟨us,e,r⟩:=hm.row x hx;⟨us,e,r.mono hu⟩⟩,λb hb=>hp.mem_iff.1 hb⟩
theorem Mem.setRowR{s:Sto}{w:World}{A B:List bA}{g cap k z:Nat}{E:TypeId}{cs ds:List AC}{cur cur':Array Value}{us':List Value}(h:Mem s w)(hb:s.rows=A++⟨.slice (some ⟨g,0,none⟩) k cap,E,z,k,cs⟩::B)(h1:w.heap[g]?=some (.cells cur E (0,0)))(hr:fG (bI s.bl w) ds us')
  (hkc:k <= cap) (hcm:cap <= maxLen) (hsz:cur'.size=cap*z) (htk:cur'.toList.take (k*z)=us') (hlen:us'.length=k*z):
  Mem ⟨s.boxes,A++⟨.slice (some ⟨g,0,none⟩) k cap,E,z,k,ds⟩::B⟩ (w.setRow g cur'):=by
 have hbl:(⟨s.boxes,A++⟨.slice (some ⟨g,0,none⟩) k cap,E,z,k,ds⟩::B⟩:Sto).bl=s.bl:=Bt
 have hmem:g∈s.bl:=Ew
 have hk:=oI w g cur'
 have hu:Up2 (bI s.bl w) (bI s.bl (w.setRow g cur')):=jA hk CU (λx hx=>.inl hx)
 have hnd:=h.nodup
 have hg:g∈aY (.slice (some ⟨g,0,none⟩) k cap):=Cq
 have hnd2:(s.boxes.map Box.b++(A.flatMap (λr=>aY r.v)++(aY (.slice (some ⟨g,0,none⟩) k cap)++B.flatMap λr=>aY r.v))).Nodup:=by
  have:=hnd;unfold Sto.bl at this;rw [hb] at this;simpa using this
 have hbox:∀x,x∈s.boxes -> x.b≠g:=λx hx he=>(List.nodup_append.1 hnd2).2.2 x.b (List.mem_map.2 ⟨x,hx,Y⟩) g (by simp [hg]) he
 have hrow:∀r,r∈A∨r∈B -> g∉aY r.v:=by
  intro r hr hm
  have h2:=(List.nodup_append.1 hnd2).2.1
  rcases hr with hr|hr
  ·exact (List.nodup_append.1 h2).2.2 g (List.mem_flatMap.2 ⟨r,hr,hm⟩) g (List.mem_append_left _ hg) Y
  exact (List.nodup_append.1 (List.nodup_append.1 h2).2.1).2.2 g hg g (List.mem_flatMap.2 ⟨r,hr,hm⟩) Y
 refine ⟨by rw [hbl];exact hnd,λx hx=>BS,λx hx=>?_,λr hr2=>?_⟩
 ·rw [hbl]
  obtain ⟨us,e1,e2⟩:=h.box x hx
  exact ⟨us,BI,e2.mono hu⟩
 rw [hbl]
 have old:r∈A∨r∈B -> ∃us,bWg (w.setRow g cur') r us /\ fG (bI s.bl (w.setRow g cur')) r.cs us:=λhr=>by
  have hr3:r∈s.rows:=CB
  obtain ⟨us,e1,e2⟩:=h.row r hr3
  exact ⟨us,e1.keep λq hq=>hk.block q (h.lt q (List.mem_append_right _ (List.mem_flatMap.2 ⟨r,hr3,hq⟩))) EE,e2.mono hu⟩
 simp only [mem_append,mem_cons] at hr2
 rcases hr2 with hr2|rfl|hr2
 ·exact old (.inl hr2)
 ·exact ⟨us',.inl ⟨hlen,.inr ⟨g,cap,cur',Y,Nat.zero_le _,setRow_heap w g cur _ E (0,0) h1,hkc,hcm,hsz,htk⟩⟩,hr.mono hu⟩
 exact old (.inr hr2)
theorem aCy{P:Program}{U:List Nat}{o:Oper}{st:AS}{K:AS -> Prop}{ty E:TypeId}{x y:Operand}{g off z zz k cap:Nat}{cs ds r:List AC}{t:AT}(A:List bA){B:List bA}(ho:o.op=.store ty x y)(hd:o.dst=none)(hx:evA st x=some (Cv (.pointer (some ⟨g,off,none⟩))))(hy:evA st y=some t)(hc:jL t=some ds)
  (hb:st.s.rows=A++⟨.slice (some ⟨g,0,none⟩) k cap,E,zz,k,cs⟩::B) (hS:∀w,(sizeOf ty).run P w=.ok z w) (hz:ds.length=z) (hl:off+z <= cs.length) (hr:splice cs off ds=r) (hT:g∈st.T) (hU:st.s.bl.Nodup -> g∈U)
  (h:K {st with s:=⟨st.s.boxes,A++⟨.slice (some ⟨g,0,none⟩) k cap,E,zz,k,r⟩::B⟩}):AO P U o st K:=by
 intro a w hs KK QQ hK
 subst hr
 have hmem:(⟨.slice (some ⟨g,0,none⟩) k cap,E,zz,k,cs⟩:bA)∈st.s.rows:=DO
 obtain ⟨us,hownR,h2⟩:=hs.mem.row _ hmem
 obtain ⟨h0,h1⟩:=hownR.row0 rfl
 rcases h1 with ⟨h1,-⟩|⟨g',cap',cur,hv,-,hh,hkc,hcm,hcs,htk⟩
 ·cases h1
 cases hv
 dsimp only at h0 hh hkc hcs htk
 have hv:=mU hc (hs.ev hy)
 have hlen:=hv.len
 have hl2:us.length=cs.length:=h2.len
 have hle:k*zz <= cur.size:=by rw [hcs];exact Nat.mul_le_mul_right _ hkc
 have hbl:(⟨st.s.boxes,A++⟨.slice (some ⟨g,0,none⟩) k cap,E,zz,k,splice cs off ds⟩::B⟩:Sto).bl=st.s.bl:=Bt
 have hbm:g∈st.s.bl:=Ew
 generalize hvs:(a.eval y).cells.toList=vs at hv hlen
 have hst:=run_storeCells_at (P:=P) g off E vs 0 cur w hh J hv.one
 simp only [Nat.add_zero] at hst
 have hk:=oI w g (cur.toList.take off++vs++cur.toList.drop (off+vs.length)).toArray
 unfold Oper.wp
 have hrun:(execOp a.eval o).run P w=.ok .skip (w.setRow g (cur.toList.take off++vs++cur.toList.drop (off+vs.length)).toArray):=by
  have hsz:(a.eval y).cells.size=z:=by rw [←Array.length_toList,hvs,hlen,hz]
  simp only [execOp,ho,hs.val hx,Instr.storeAt,Instr.sureAddr,storeVar,Sem.run_bind,Sem.run_pure,Result.andThen_ok,hS,hsz,ne_eq,not_true_eq_false,if_false,hvs]
  rw [hst];rfl
 rw [hrun,Oper.upon_skip,hd]
 have htk2:(cur.toList.take off++vs++cur.toList.drop (off+vs.length)).take (k*zz)=us.take off++vs++us.drop (off+vs.length):=by
  subst htk
  refine List.ext_getElem? λj=>?_
  rw [List.getElem?_take]
  by_cases hj:j<k*zz
  ·rw [if_pos hj]
   simp only [List.getElem?_append,length_append,List.length_take,Array.length_toList,List.getElem?_take,List.getElem?_drop]
   repeat' split
   all_goals first|rfl|omega|(congr 1;omega)|skip
  rw [if_neg hj,List.getElem?_eq_none]
  simp only [length_append,List.length_take,List.length_drop,Array.length_toList]
  omega
 have hm:=hs.mem.setRowR (cur':=(cur.toList.take off++vs++cur.toList.drop (off+vs.length)).toArray) hb hh (h2.splice hv off) hkc hcm (by simp only [List.size_toArray,length_append,List.length_take,List.length_drop,Array.length_toList];omega) htk2 (by simp only [length_append,List.length_take,List.length_drop];omega)
 refine hK _ _ _ h (hs.step st.T (hk.mono C0) hm (λx hx=>.inl Bw)) ⟨hk.mono C0,hk.mono DN,λx hx=>.inl Bw,λx hx=>.inl hx⟩ (hk.mono Cp)
section
variable {P:Program}{ops:Array Oper}{Z T:List Nat}{o:Oper}{n:Nat}{s:Sto}{ts:List (Nat×AT)}{K:AS -> Prop}{bx:List Box}{rw:List bA}{Q:Exit -> AS -> Prop}{l:List Oper}
theorem three(i j k:Nat){o2 o3:Oper}{fuel:Nat}{listed:Array Bool}(hr:Region.ready .any ops listed=[i,j,k])(hi:ops.toList[i]?=some o)(hw:fC ops o ⟨n,T,s,ts⟩=some true)(hi2:ops.toList[j]?=some o2)(hw2:fC ops o2 ⟨n,T,s,ts⟩=some true)(hi3:ops.toList[k]?=some o3)(hw3:fC ops o3 ⟨n,T,s,ts⟩=some true)
  (h:AO P (lM s Z) o ⟨n,T,s,ts⟩ λs=>lD P ops Z fuel (listed.setIfInBounds i true) s K) (h2:AO P (lM s Z) o2 ⟨n,T,s,ts⟩ λs=>lD P ops Z fuel (listed.setIfInBounds j true) s K) (h3:AO P (lM s Z) o3 ⟨n,T,s,ts⟩ λs=>lD P ops Z fuel (listed.setIfInBounds k true) s K):lD P ops Z (fuel+1) listed ⟨n,T,s,ts⟩ K:=
 uU hr rfl (nJ hi hw h (nJ hi2 hw2 h2 (nJ hi3 hw3 h3 pO)))
theorem aSh{x y:Box}{B:List Box}(h:eQ P ops l ⟨n,T,⟨y::x::B,rw⟩,ts⟩ Q):eQ P ops l ⟨n,T,⟨x::y::B,rw⟩,ts⟩ Q:=
 uQ (vU (st:=⟨n,T,⟨x::y::B,rw⟩,ts⟩) (aJ6 (List.Perm.swap _ _ _))) h
theorem cZl{Z:List Nat}{r:bA}{b:Nat}[h1:aL0 bx Z](hn:(⟨bx,rw⟩:Sto).bl.Nodup)(hb:b∈aY r.v)(hr:r∈rw:=by simp):b∈lM ⟨bx,rw⟩ Z:=by
 have h3:b∈rw.flatMap λr=>aY r.v:=List.mem_flatMap.2 ⟨r,hr,hb⟩
 refine kH.2 ⟨List.mem_append_right _ h3,λhz=>?_⟩
 exact (List.nodup_append.1 hn).2.2 b (h1.h b hz) b h3 Y
theorem lB{P:Program}{U:List Nat}{o:Oper}{st:AS}{E yt:TypeId}{x y:Operand}{c d:UInt8}{a b r:ByteArray}(ho:o.op=.binOp .add E x y yt)(hx:evA st x=some (Cs a))(hy:evA st y=some (Cs b))(ha:a=bytes [c])(hb:b=bytes [d])(hr:bytes [c,d]=r):AY P U o st (Cs r):=by
 subst hr;subst hb;subst ha
 exact aHr (P:=P) (U:=U) ho hx hy (by show 1+1 <= _;decide)
end
theorem aO0{P:Program}{U T:List Nat}{o:Oper}{n:Nat}{bx:List Box}{ts:List (Nat×AT)}{K:AS -> Prop}{ty E:TypeId}{x y:Operand}{g off z zz k cap:Nat}{cs ds r:List AC}{t:AT}(A:List bA){B:List bA}(ho:o.op=.store ty x y)(hd:o.dst=none)(hx:evA ⟨n,T,⟨bx,A++⟨.slice (some ⟨g,0,none⟩) k cap,E,zz,k,cs⟩::B⟩,ts⟩ x=some (Cv (.pointer (some ⟨g,off,none⟩))))(hy:evA ⟨n,T,⟨bx,A++⟨.slice (some ⟨g,0,none⟩) k cap,E,zz,k,cs⟩::B⟩,ts⟩ y=some t)(hc:jL t=some ds)
  (hS:∀w,(sizeOf ty).run P w=.ok z w) (hz:ds.length=z) (hl:off+z <= cs.length) (hr:splice cs off ds=r) (hT:g∈T) (hU:(⟨bx,A++⟨.slice (some ⟨g,0,none⟩) k cap,E,zz,k,cs⟩::B⟩:Sto).bl.Nodup -> g∈U)
  (h:K ⟨n,T,⟨bx,A++⟨.slice (some ⟨g,0,none⟩) k cap,E,zz,k,r⟩::B⟩,ts⟩):AO P U o ⟨n,T,⟨bx,A++⟨.slice (some ⟨g,0,none⟩) k cap,E,zz,k,cs⟩::B⟩,ts⟩ K:=aCy A ho hd hx hy hc rfl hS hz hl hr hT hU h
end
section
open Go.RowKit
section
variable {m n:Int}
theorem eR(h:m=n):bC .eql m n=some true:=Do
theorem eD(h:¬m=n):bC .eql m n=some false:=Do
theorem xL(h:¬m=n):bC .neq m n=some true:=Do
theorem xG(h:m=n):bC .neq m n=some false:=Do
theorem jZ(h:m<n):bC .lss m n=some true:=Do
theorem jQ(h:¬m<n):bC .lss m n=some false:=Cm
theorem aPz(h:m <= n):bC .leq m n=some true:=Do
theorem aPx(h:¬m <= n):bC .leq m n=some false:=Cm
theorem mH(h:n<m):bC .gtr m n=some true:=Do
theorem mI(h:¬n<m):bC .gtr m n=some false:=Cm
theorem aMq(h:n <= m):bC .geq m n=some true:=Do
theorem aMx(h:¬n <= m):bC .geq m n=some false:=Cm
end
section
variable {m n:ByteArray}
theorem aL8(h:m=n):oM .eql m n=some true:=by simp [oM,h]
theorem aLs(h:¬m=n):oM .eql m n=some false:=by simp [oM,h]
theorem aLc(h:¬m=n):oM .neq m n=some true:=by simp [oM,h]
theorem aMz(h:m=n):oM .neq m n=some false:=by simp [oM,h]
end
section
variable {P:Program}{U T:List Nat}{o:Oper}{n d:Nat}{ts:List (Nat×AT)}{s:Sto}{K:AS -> Prop}{st:AS}{Q:Exit -> AS -> Prop}
theorem fL{t t':AT}(h:Wk t t')(hy:AY P U o st t:=by exact (aX [] isAgg4 sizeOf4)):AY P U o st t':=λa w hs hu=>
 let ⟨v,h1,h2⟩:=hy a w hs hu
 ⟨v,h _ _ h1,h2⟩
theorem bZ{a b:Bool}(h:a=b):Wk (Cb a) (Cb b):=h▸Wk.refl _
theorem gQ{a b:Int}(h:a=b):Wk (Ci a) (Ci b):=h▸Wk.refl _
theorem jX{a b:ByteArray}(h:a=b):Wk (Cs a) (Cs b):=h▸Wk.refl _
theorem aKs{x:Bool}(h:x=true):(!x)=false:=C7
theorem aKt{x:Bool}(h:x=false):(!x)=true:=C7
theorem cX{a b:Bool}(h:b=a):AT.c (Vb a)=Cb b:=h▸rfl
theorem aPy{a b:Int}(h:b=a):AT.c (Vi a)=Ci b:=h▸rfl
theorem oW{a b:ByteArray}(h:b=a):AT.c (Vs a)=Cs b:=h▸rfl
theorem aHz(a b:List UInt8):bytes a++bytes b=bytes (a++b):=sI Dn
theorem kT(a:List UInt8):(bytes a).size=a.length:=Co
theorem aN{t yt:TypeId}{x y:Operand}{m k:ByteArray}(a b:List UInt8)(ho:o.op=.binOp .add t x y yt)(hx:evA st x=some (Cs m))(hy:evA st y=some (Cs k))(ha:m=bytes a)(hb:k=bytes b)(hl:a.length+b.length <= 9223372036854775807):AY P U o st (Cs (bytes (a++b))):=by
 subst ha;subst hb
 rw [←aHz]
 exact aHr ho hx hy (by rw [kT,kT];exact hl)
theorem back(s:ByteArray):s=bytes s.data.toList:=Dn
theorem bV{F:FuncId}{ars:Array Operand}{tys:Array TypeId}{us:List AT}{QQ:AT -> Sto -> Prop}(ho:o.op=.call {callee:=.value (.func F),args:=ars,argTypes:=tys})(hd:o.dst=some d)(hn:d<n)
  (hcf:∀args w,(callFunc F args).run P w=.ok (.enter F args) w) (has:ars.toList.map (evA ⟨n,T,s,ts⟩)=us.map some) (hc:aL P F us [] s QQ) (h:∀r s',QQ r s' -> K ⟨n,T,s',(d,r)::ts⟩):AO P U o ⟨n,T,s,ts⟩ K:=
 bD [] ho hd hn hcf has hc bDl bDl (λ_=>bDl) h
theorem oC{c:Code}(N i:Nat)(fx:Nat -> List (Nat×AT))(hs:Sub ⟨n,T,s,ts⟩ ⟨n,T,s,(i,nI 0)::fx 0⟩)
  (round:∀k,k <= N -> AWp P c ⟨n,T,s,(i,nI k)::fx k⟩ (sU (λs'=>k<N /\ Sub s' ⟨n,T,s,(i,nI (k+1))::fx (k+1)⟩) Q)):AWp P (.loop c) ⟨n,T,s,ts⟩ Q:=by
 refine fM (λk=>⟨n,T,s,(i,nI k)::fx k⟩) (λk=>k <= N) (λk=>N-k) 0 hs (Nat.zero_le _) λk hk=>sE (round k hk) λe s' h=>?_
 cases e with
 |normal=>exact ⟨k+1,h.1,by have:=h.1;omega,h.2⟩
 |_=>exact h
theorem lE{c:Code}(p:Nat -> Prop)(N i:Nat)(fx:Nat -> List (Nat×AT))(hp:p 0)(hs:Sub ⟨n,T,s,ts⟩ ⟨n,T,s,(i,nI 0)::fx 0⟩)
  (round:∀k,k <= N -> p k -> AWp P c ⟨n,T,s,(i,nI k)::fx k⟩ (sU (λs'=>k<N /\ p (k+1) /\ Sub s' ⟨n,T,s,(i,nI (k+1))::fx (k+1)⟩) Q)):AWp P (.loop c) ⟨n,T,s,ts⟩ Q:=by
 refine fM (λk=>⟨n,T,s,(i,nI k)::fx k⟩) (λk=>k <= N /\ p k) (λk=>N-k) 0 hs ⟨Nat.zero_le _,hp⟩ λk hk=>sE (round k hk.1 hk.2) λe s' h=>?_
 cases e with
 |normal=>exact ⟨k+1,⟨h.1,h.2.1⟩,by have:=h.1;omega,h.2.2⟩
 |_=>exact h
theorem aO2{c:Code}{bx bx0:List Box}{rw rw0:List bA}(p:Nat -> Prop)(N i j:Nat)(E:TypeId)(z:Nat)(cnt:Nat -> Nat)(cs:Nat -> List AC)(T0:List Nat)(fx:Nat -> List (Nat×AT))(hp:p 0)
  (hs:Sub ⟨n,T,⟨bx0,rw0⟩,ts⟩ ⟨n,aY (.slice none 0 0)++T0,⟨bx,⟨.slice none 0 0,E,z,cnt 0,cs 0⟩::rw⟩,(i,nI 0)::(j,.c (Nl))::fx 0⟩)
  (round:∀k v,k <= N -> p k -> AWp P c ⟨n,aY v++T0,⟨bx,⟨v,E,z,cnt k,cs k⟩::rw⟩,(i,nI k)::(j,Cv v)::fx k⟩
   (sU (λs'=>k<N /\ p (k+1) /\ ∃v',Sub s' ⟨n,aY v'++T0,⟨bx,⟨v',E,z,cnt (k+1),cs (k+1)⟩::rw⟩,(i,nI (k+1))::(j,Cv v')::fx (k+1)⟩) Q)):AWp P (.loop c) ⟨n,T,⟨bx0,rw0⟩,ts⟩ Q:=by
 refine fM (λg:Nat×Value=>⟨n,aY g.2++T0,⟨bx,⟨g.2,E,z,cnt g.1,cs g.1⟩::rw⟩,(i,nI g.1)::(j,Cv g.2)::fx g.1⟩) (λg=>g.1 <= N /\ p g.1) (λg=>N-g.1) (0,.slice none 0 0) hs ⟨Nat.zero_le _,hp⟩ λg hg=>sE (round g.1 g.2 hg.1 hg.2) λe s' h=>?_
 cases e with
 |normal=>
  obtain ⟨h1,h2,v',h3⟩:=h
  exact ⟨(g.1+1,v'),⟨h1,h2⟩,by show N-(g.1+1)<N-g.1;omega,h3⟩
 |_=>exact h
end
theorem Oper.wp_mono2{P:Program}{Q Q':Exit -> Act -> World -> Prop}{o:Oper}{a:Act}{w:World}{K K':Act -> World -> Prop}(h:∀a w,K a w -> K' a w)(hq:∀e a w,e≠.normal -> Q e a w -> Q' e a w)(hl:LetsOut Q -> LetsOut Q')
  (hh:o.wp P a w K Q):o.wp P a w K' Q':=by
 unfold Oper.wp at *
 generalize (execOp a.eval o).run P w=r at *
 cases r with
 |ok n w'=>
  cases n<;>simp only [Oper.upon] at hh⊢<;>
   first
    |exact h _ _ hh
    |exact Calls.mono hh (λe w'' he=>by cases e<;>first|exact h _ _ he|exact hq _ _ _ G0 he|exact hl he)
    |exact Rows.mono hh (λ_ _ he=>h _ _ he)
 |halt x w'=>cases x<;>simp only [Oper.upon] at hh⊢<;>first|exact hq _ _ _ G0 hh|exact hh
class vT (N:Nat) (l:List Oper) (l1 l2:outParam (List Oper)):Prop where h:l=l1++l2
instance aUv{l:List Oper}:vT 0 l [] l:=⟨rfl⟩
instance aW9{N:Nat}{o:Oper}{l l1 l2:List Oper}[h:vT N l l1 l2]:vT (N+1) (o::l) (o::l1) l2:=⟨by rw [h.h];rfl⟩
instance aV8{N:Nat}{o:Oper}{l m l1 l2:List Oper}[h:vT (N+1) (o::List.append l m) l1 l2]:vT (N+1) (List.append (o::l) m) l1 l2:=⟨h.h⟩
instance aU8{N:Nat}{m l1 l2:List Oper}[h:vT N m l1 l2]:vT N (List.append [] m) l1 l2:=⟨h.h⟩
instance aVp{j t:Nat}{o:Oper}{l m:List Oper}[h:wV (o::List.append l m) j t]:wV (List.append (o::l) m) j t:=⟨h.h⟩
instance aUd{j t:Nat}{m:List Oper}[h:wV m j t]:wV (List.append [] m) j t:=⟨h.h⟩
instance aYy{P:Program}{ops:Array Oper}{o:Oper}{l m:List Oper}{st:AS}{Q:Exit -> AS -> Prop}{N:Nat}{g:Prop}[h:Go1 (N+1) (eQ P ops (o::List.append l m) st Q) g]:Go1 (N+1) (eQ P ops (List.append (o::l) m) st Q) g:=⟨h.out⟩
instance aVr{P:Program}{ops:Array Oper}{m:List Oper}{st:AS}{Q:Exit -> AS -> Prop}{N:Nat}{g:Prop}[h:Go1 (N+1) (eQ P ops m st Q) g]:Go1 (N+1) (eQ P ops (List.append [] m) st Q) g:=⟨h.out⟩
theorem xX{P:Program}{x y:Code}{n:Nat}{T:List Nat}{s:Sto}{ts:List (Nat×AT)}{Q:Exit -> AS -> Prop}(ts':List (Nat×AT))(h1:AWp P x ⟨n,T,s,ts⟩ (λe s'=>e=.normal /\ Sub s' ⟨n,T,s,ts'⟩))(h2:AWp P y ⟨n,T,s,ts'⟩ Q):AWp P (.seq x y) ⟨n,T,s,ts⟩ Q:=
 aHp (sE h1 λe s ⟨he,hs⟩=>by subst he;exact rX (zU hs h2))
end
section
open Go.RowKit
theorem xF(x n:Int)(hn:0<n):-n<x.tmod n:=by
 by_cases hx:0 <= x
 ·have:=Int.tmod_nonneg n hx;omega
 have h1:=Int.tmod_lt_of_pos (-x) hn
 rw [Int.neg_tmod] at h1;omega
theorem aD5(x n:Int)(hn:0<n):(x.tmod n+n).tmod n=x%n:=by
 have h1:=Int.tmod_lt_of_pos x hn
 have h2:=xF x n hn
 rw [Int.tmod_eq_emod_of_nonneg J,Int.add_emod_right]
 rw [Int.tmod_def]
 rw [show x-n*x.tdiv n=x+n*(-(x.tdiv n)) by rw [Int.mul_neg];omega,Int.add_mul_emod_self_left]
theorem aG9(x n:Int)(w:World)(hn:0<n)(hn2:n <= 4611686018427387904):
  Calls prog 16 #[.int .i64 x,.int .i64 n] w λe w'=>e=.returned (.int .i64 (x%n)) /\ w=w':=by
 have h1:=Int.tmod_lt_of_pos x hn
 have h2:=xF x n hn
 have h3:=aD5 x n hn
 have h4:0 <= x%n:=Int.emod_nonneg x J
 have h5:x%n<n:=Int.emod_lt_of_pos x hn
 have hw1:IntKind.i64.wrap (x.tmod n)=x.tmod n:=IntWalk.i64_in _ J
 have hw2:IntKind.i64.wrap (x.tmod n+n)=x.tmod n+n:=IntWalk.i64_in _ J
 have hw3:IntKind.i64.wrap (x%n)=x%n:=IntWalk.i64_in _ J
 go_enter func16,Tryz.ntmps16
 go_wp2
 go_ret
 exact ⟨cZn (by simp [h3]),Y⟩
theorem aNz(x n:Int)(hn:0<n)(hn2:n <= 4611686018427387904)(s:Sto):aL prog 16 [Ci x,Ci n] [] s λr s'=>r=Ci (x%n) /\ s'=s:=
 aP3 rfl rfl (us:=[.int .i64 x,.int .i64 n]) (λw=>aG9 x n w hn hn2) s
theorem eU{p:Prop}[Decidable p](h:p):some (decide p)=some true:=by rw [decide_eq_true h]
theorem eE{p:Prop}[Decidable p](h:¬p):some (decide p)=some false:=by rw [decide_eq_false h]
end
section
def jP:Nat -> List ByteArray
 |0=>[⟨#[124,124]⟩]
 |1=>[⟨#[38,38]⟩]
 |2=>[⟨#[61,61]⟩,⟨#[33,61]⟩,⟨#[60]⟩,⟨#[60,61]⟩,⟨#[62]⟩,⟨#[62,61]⟩]
 |3=>[⟨#[43]⟩,⟨#[45]⟩]
 |_=>[⟨#[42]⟩,⟨#[47]⟩,⟨#[37]⟩]
def dS:Nat -> List Int
 |0=>[17]
 |1=>[16]
 |2=>[14,15,10,11,12,13]
 |3=>[8,9]
 |_=>[5,6,7]
theorem aKy(k:Nat):(dS k).length=(jP k).length /\ 1 <= (jP k).length /\ (jP k).length <= 6:=by
 rcases k with _|_|_|_|k<;>simp [dS,jP]
theorem bEs(k:Nat)(hk:k<5):∀j (h:j<(jP k).length),dA (jP k)[j]=false:=by
 rcases (show k=0∨k=1∨k=2∨k=3∨k=4 by omega) with rfl|rfl|rfl|rfl|rfl<;>decide
theorem bEn(k:Nat)(hk:k<5):∀j (h:j<(jP k).length) (h':j<(dS k).length),(((binOp (jP k)[j]).1:Int)=(dS k)[j]) /\ (binOp (jP k)[j]).2=k+1:=by
 rcases (show k=0∨k=1∨k=2∨k=3∨k=4 by omega) with rfl|rfl|rfl|rfl|rfl<;>decide
theorem bEz(k:Nat)(hk:k<5)(s:ByteArray)(h:(binOp s).2=k+1):s∈jP k:=by
 by_cases ha:s=bytes [124,124]∨s=bytes [38,38]∨s=bytes [61,61]∨s=bytes [33,61]∨s=bytes [60]∨s=bytes [60,61]∨s=bytes [62]∨s=bytes [62,61]∨s=bytes [43]∨s=bytes [45]∨s=bytes [42]∨s=bytes [47]∨s=bytes [37]
 ·rcases (show k=0∨k=1∨k=2∨k=3∨k=4 by omega) with rfl|rfl|rfl|rfl|rfl<;>rcases ha with rfl|rfl|rfl|rfl|rfl|rfl|rfl|rfl|rfl|rfl|rfl|rfl|rfl<;>first|(exfalso;revert h;decide)|simp [jP,bytes]
 exfalso
 simp only [not_or] at ha
 obtain ⟨a1,a2,a3,a4,a5,a6,a7,a8,a9,b1,b2,b3,b4⟩:=ha
 rw [binOp,if_neg a1,if_neg a2,if_neg a3,if_neg a4,if_neg a5,if_neg a6,if_neg a7,if_neg a8,if_neg a9,if_neg b1,if_neg b2,if_neg b3,if_neg b4] at h
 simp at h
end
section
open Go.RowKit
theorem pZ(k:Nat):cO k=(if k/10=0 then [] else cO (k/10))++[UInt8.ofNat (48+k%10)]:=by
 conv=>lhs;rw [cO]
 by_cases h:k<10
 ·rw [if_pos h,if_pos J,show k%10=k by omega];rfl
 rw [if_neg h,if_neg J]
theorem aGa(m:Nat):∀n,n<10 ^ m -> 0<m -> (cO n).length <= m:=by
 induction m with
 |zero=>intro n _ h;omega
 |succ m ih=>
  intro n hn _
  rw [pZ]
  by_cases h:n/10=0
  ·rw [if_pos h];simp
  rw [if_neg h,length_append]
  have h1:n/10<10 ^ m:=by rw [Nat.pow_succ] at hn;omega
  have hm:0<m:=by
   rcases Nat.eq_zero_or_pos m with rfl|h2
   ·simp at h1;omega
   exact h2
  have:=ih (n/10) h1 hm
  simp;omega
theorem kC(n:Nat)(hn:n<18446744073709551616):(cO n).length <= 20:=
 aGa 20 n (Nat.lt_trans hn V) J
theorem aIx{P:Program}{U:List Nat}{o:Oper}{st:AS}{E yt:TypeId}{x y:Operand}{m k:Nat}(r:Nat)(ho:o.op=.binOp .rem E x y yt)(hx:evA st x=some (nI m))(hy:evA st y=some (nI k))(hk:k≠0)(hr:m%k=r):AY P U o st (nI r):=by
 subst hr
 exact aG3 ho hx hy J Y
end
section
mutual
def aH.nodes:aH -> Nat
 |.mk _ _ _ args=>1+cZ args
def cZ:List aH -> Nat
 |[]=>0
 |e::es=>1+e.nodes+cZ es
end
theorem nM:∀(l:List aH)(k:Nat)(h:k<l.length),l[k].nodes<cZ l
 |[],k,h=>DU
 |e::es,0,h=>by rw [cZ];simp;omega
 |e::es,k+1,h=>by have:=nM es k Er;rw [cZ];simp;omega
theorem tN:∀(l:List aH),l.length <= cZ l
 |[]=>G0
 |e::es=>by have:=tN es;rw [cZ];simp;omega
end
section
open Go.RowKit
theorem qQ(b:Int):∀(l:List aH)(j:Nat)(x:aH),bSm b j (l++[x])=max (bSm b j l) (dI x+if cV b (j+l.length) x.op then 1 else 0)
 |[],j,x=>by simp [bSm]
 |y::l,j,x=>by
  rw [List.cons_append,bSm,qQ b l (j+1) x,bSm,Nat.max_assoc]
  have:j+1+l.length=j+(y::l).length:=DR
  rw [this]
theorem kF(b:Int)(l:List aH)(k:Nat)(h:k<l.length):bSm b 0 (l.take (k+1))=max (bSm b 0 (l.take k)) (dI l[k]+if cV b k l[k].op then 1 else 0):=by
 rw [List.take_succ_eq_append_getElem h,qQ,List.length_take,Nat.min_eq_left J,Nat.zero_add]
theorem aBa(N:Nat):∀(e:aH),e.nodes <= N -> dI e+1 <= 2*e.nodes:=by
 induction N with
 |zero=>intro e h;cases e;rw [aH.nodes] at h;omega
 |succ N ih=>
  rintro ⟨op,num,name,args⟩ h
  rw [aH.nodes] at h
  have key:∀(l:List aH)(k:Nat),cZ l <= N -> bSm op k l <= 2*cZ l:=by
   intro l
   induction l with
   |nil=>intro k _;rw [bSm];omega
   |cons e es ih2=>
    intro k hl
    rw [cZ] at hl⊢
    rw [bSm]
    have h1:=ih e J
    have h2:=ih2 (k+1) J
    split<;>omega
  have:=key args 0 J
  rw [dI,aH.nodes]
  split<;>omega
theorem sF(e:aH)(k:Nat)(h:k<e.args.length):e.args[k].nodes<e.nodes:=by
 cases e with
 |mk op num name args=>have:=nM args k h;rw [aH.nodes];show args[k].nodes<_;omega
theorem uC(e:aH):e.args.length<e.nodes:=by
 cases e with
 |mk op num name args=>have:=tN args;rw [aH.nodes];show args.length<_;omega
theorem tX(e:aH):dI e=bSm e.op 0 e.args+if aM e.op=5 then 1 else 0:=by cases e;rw [dI];rfl
theorem dZ(e:aH):eO e=((if aM e.op=6 then jG e.op e.num e.name else decide (e.num=0) && decide (e.name=aK)) && decide (e.args.length=arity e.op) && dY e.args):=by cases e;rw [eO];rfl
theorem oF:∀(l:List aH)(k:Nat)(h:k<l.length),eO l[k]=false -> dY l=false
 |e::es,0,_,hs=>by rw [dY];simp only [List.getElem_cons_zero] at hs;rw [hs];rfl
 |e::es,k+1,h,hs=>by rw [dY,oF es k Er (by simpa using hs),Bool.and_false]
end
section
def cY.small(N:Nat)(r:cY):Prop:=r.index.length <= 1 /\ ∀x,x∈r.index -> x.nodes <= N
def eN.small(N:Nat)(a:eN):Prop:=a.ref.small N /\ a.expr.nodes <= N
mutual
def aJ.small(N:Nat):aJ -> Prop
 |.mk _ _ e r a t f=>e.nodes <= N /\ r.small N /\ a.length <= N /\ (∀x,x∈a -> x.small N) /\ t.length <= N /\ smalls N t /\ f.length <= N /\ smalls N f
def smalls(N:Nat):List aJ -> Prop
 |[]=>True
 |s::r=>s.small N /\ smalls N r
end
def bS.small(N:Nat)(f:bS):Prop:=f.params.length <= N /\ f.body.length <= N /\ smalls N f.body
def cK.small(N:Nat)(p:cK):Prop:=p.globals.length <= N /\ p.mutexes.length <= N /\ p.funcs.length <= N /\ ∀f,f∈p.funcs -> f.small N
section
variable {l:List Tok}{N:Nat}(hel:rP l)(h1:1 <= N)(hlN:l.length <= N)(hf:∀k x k',k<l.length -> lJ l k=.ok x k' -> x.nodes <= N)
include hel hf
include h1
omit h1 hf in
omit h1 hf in
include hlN
omit hlN h1 hf hel in
omit hlN hel hf in
omit hlN hel hf in
omit h1 hlN hf in
end
end
section
open Go.RowKit
theorem aA3(op num:Int)(name:ByteArray)(args:List aH)(hl:args.length <= 1000000000)(ih:∀k (h:k<args.length) (s:Sto),aL prog 55 [.agg (cU args[k]),.agg (cU args[k])] [] s λr s'=>r=Cb true /\ s'=s)(s:Sto):
  aL prog 55 [.agg [Vi op,Vi num,Vs name,Sq fO args],.agg [Vi op,Vi num,Vs name,Sq fO args]] [] s λr s'=>r=Cb true /\ s'=s:=by
 obtain ⟨bx,rw⟩:=s
 refine acX 53 func55 ?_
 refine go 14 λb1 b2=>?_
 refine wcp false Y B7 (go 5 ?_)
 refine wcp false Y B7 (go 6 ?_)
 refine wyz Y (aZ false Y Y Y (by simp [oM])) (go 8 ?_)
 refine wcp false Y B7 (go 13 ?_)
 refine tW (args.length) 5 [(2,_),(3,_)] (sA Y) λk hk=>?_
 refine go 7 ?_
 refine wyz Y (bO _ Y Y Y Y) (go 2 ?_)
 refine gY Y (λhc2=>?_) (λhc2=>?_)
 ·have hk2:k<args.length:=by simpa using hc2
  refine go 5 ?_
  refine dx [b2,b1] (tz [(0,true),(1,true),(2,true)] 9 (go 4 ?_))
  refine tx 3 Y (bH fO cU args iU fP k Y Y Y Y hk2 V runUnderlying85 sizeOf87) (tz [(4,true),(5,true),(6,true),(7,true)] 4 (go 5 ?_))
  refine tx 8 Y (bH fO cU args iU fP k Y Y Y Y hk2 V runUnderlying85 sizeOf87) (tz [(9,true)] 2 (go 2 ?_))
  refine ox 10 Y Y (bD [] Y Y V call55 Y (ih k hk2 ⟨_,_⟩) bDl bDl (λ_=>bDl) ?_)
  rintro r3 s3 ⟨rfl,rfl⟩
  refine tz [(11,true)] 0 (go 2 ?_)
  refine ax (go 7 ?_)
  refine wad Y (go 2 ?_)
  exact ⟨J,(sA Y)⟩
 refine go 11 ?_
 exact bHe (s':=⟨bx,rw⟩) Y sb2 ⟨Y,Y⟩
mutual
theorem cZ5:∀(x:aH),x.nodes <= 1000000000 -> ∀(s:Sto),aL prog 55 [.agg (cU x),.agg (cU x)] [] s λr s'=>r=Cb true /\ s'=s
 |.mk op num name args,hn,s=>aA3 op num name args (by have:=tN args;simp only [aH.nodes] at hn;omega) (λk h s=>tE args (by simp only [aH.nodes] at hn;omega) k h s) s
theorem tE:∀(l:List aH),cZ l <= 1000000000 -> ∀(k:Nat)(h:k<l.length)(s:Sto),aL prog 55 [.agg (cU l[k]),.agg (cU l[k])] [] s λr s'=>r=Cb true /\ s'=s
 |[],_,_,h,_=>absurd h G0
 |e::es,hn,0,_,s=>cZ5 e (by simp only [cZ] at hn;omega) s
 |e::es,hn,k+1,h,s=>tE es (by simp only [cZ] at hn;omega) k Er s
end
section
variable {P:Program}{U:List Nat}{o:Oper}{st:AS}
theorem cz{t yt:TypeId}{x y:Operand}{v w:ByteArray}(a b:List UInt8)(ho:o.op=.binOp .add t x y yt)(hx:evA st x=some (.c (.val (.string v))))(hy:evA st y=some (.c (.val (.string w))))(hv:v=bytes a)(hw:w=bytes b)
  (hl:a.length+b.length<=9223372036854775807:=by first|omega|((try simp only [List.length_append,List.length_cons,List.length_nil,List.length_replicate]);omega)|grind):AY P U o st (.c (.val (.string (bytes (a++b))))):=aN a b ho hx hy hv hw hl
end
end
end Go.Proofs.YtjgeihmhppadaaaGreatDoor
