import Derived.Test.YtojinfngbbajgaaGreatDoorF8J
import Derived.Test.YtojinfngbbajgaaGreatDoorF6J
import Derived.Test.YtojinfngbbajgaaGreatDoorF1J
import Derived.Test.YtojinfngbbajgaaGreatDoorF7J
import Derived.Deep.QuietTactic
import Derived.BigQuiet
set_option linter.all false
set_option synthInstance.maxHeartbeats 1000000
set_option synthInstance.maxSize 1000000
set_option maxHeartbeats 400000
namespace Go.Proofs.YtojinfngbbajgaaGreatDoor
open Go.Proofs.Tryz
open List (length_append length_cons length_nil mem_append mem_cons not_mem_nil append_assoc getElem_mem take_of_length_le)
section
open Go.RowKit
theorem aJ6{bx bx':List Box}{rw:List bA}(h:bx'.Perm bx):aAz ⟨bx,rw⟩ ⟨bx',rw⟩:=by
 intro w hm
 have hp:((⟨bx',rw⟩:Sto).bl).Perm ((⟨bx,rw⟩:Sto).bl):=List.Perm.append (h.map _) (List.Perm.refl _)
 have hu:Up2 (bI (⟨bx,rw⟩:Sto).bl w) (bI (⟨bx',rw⟩:Sto).bl w):=up_sub fun b hb=>hp.mem_iff.1 hb
 exact ⟨⟨hp.nodup_iff.2 hm.nodup,fun b hb=>hm.lt b (hp.mem_iff.1 hb),fun x hx=>let ⟨us,e,r⟩:=hm.box x (h.mem_iff.1 hx);⟨us,e,r.mono hu⟩,fun x hx=>let ⟨us,e,r⟩:=hm.row x hx;⟨us,e,r.mono hu⟩⟩,fun b hb=>hp.mem_iff.1 hb⟩
theorem Mem.setRowR{s:Sto}{w:World}{A B:List bA}{g cap k z:Nat}{E:TypeId}{cs ds:List AC}{cur cur':Array Value}{us':List Value}(h:Mem s w)(hb:s.rows=A++⟨.slice (some ⟨g,0,none⟩) k cap,E,z,k,cs⟩::B)(h1:w.heap[g]?=some (.cells cur E (0,0)))(hr:fG (bI s.bl w) ds us')
  (hkc:k <= cap) (hcm:cap <= maxLen) (hsz:cur'.size=cap*z) (htk:cur'.toList.take (k*z)=us') (hlen:us'.length=k*z):
  Mem ⟨s.boxes,A++⟨.slice (some ⟨g,0,none⟩) k cap,E,z,k,ds⟩::B⟩ (w.setRow g cur'):=by
 have hbl:(⟨s.boxes,A++⟨.slice (some ⟨g,0,none⟩) k cap,E,z,k,ds⟩::B⟩:Sto).bl=s.bl:=by unfold Sto.bl;rw [hb];simp
 have hmem:g∈s.bl:=by unfold Sto.bl;rw [hb];simp [aY,Value.ownBlock]
 have hk:=oI w g cur'
 have hu:Up2 (bI s.bl w) (bI s.bl (w.setRow g cur')):=jA hk (fun x hx=>by simp at hx;subst hx;exact hmem) (fun x hx=>.inl hx)
 have hnd:=h.nodup
 have hg:g∈aY (.slice (some ⟨g,0,none⟩) k cap):=by simp [aY,Value.ownBlock]
 have hnd2:(s.boxes.map Box.b++(A.flatMap (fun r=>aY r.v)++(aY (.slice (some ⟨g,0,none⟩) k cap)++B.flatMap fun r=>aY r.v))).Nodup:=by
  have:=hnd;unfold Sto.bl at this;rw [hb] at this;simpa using this
 have hbox:∀x,x∈s.boxes -> x.b≠g:=fun x hx he=>(List.nodup_append.1 hnd2).2.2 x.b (List.mem_map.2 ⟨x,hx,rfl⟩) g (by simp [hg]) he
 have hrow:∀r,r∈A∨r∈B -> g∉aY r.v:=by
  intro r hr hm
  have h2:=(List.nodup_append.1 hnd2).2.1
  rcases hr with hr|hr
  ·exact (List.nodup_append.1 h2).2.2 g (List.mem_flatMap.2 ⟨r,hr,hm⟩) g (List.mem_append_left _ hg) rfl
  exact (List.nodup_append.1 (List.nodup_append.1 h2).2.1).2.2 g hg g (List.mem_flatMap.2 ⟨r,hr,hm⟩) rfl
 refine ⟨by rw [hbl];exact hnd,fun x hx=>by rw [hbl] at hx;exact Nat.lt_of_lt_of_le (h.lt x hx) hk.size,fun x hx=>?_,fun r hr2=>?_⟩
 ·rw [hbl]
  obtain ⟨us,e1,e2⟩:=h.box x hx
  exact ⟨us,by rw [hk.block _ (h.lt _ (List.mem_append_left _ (List.mem_map.2 ⟨x,hx,rfl⟩))) (by simp;exact hbox x hx)];exact e1,e2.mono hu⟩
 rw [hbl]
 have old:r∈A∨r∈B -> ∃us,bWg (w.setRow g cur') r us /\ fG (bI s.bl (w.setRow g cur')) r.cs us:=fun hr=>by
  have hr3:r∈s.rows:=by rw [hb];simp only [mem_append,mem_cons];rcases hr with h|h;exact .inl h;exact .inr (.inr h)
  obtain ⟨us,e1,e2⟩:=h.row r hr3
  exact ⟨us,e1.keep fun q hq=>hk.block q (h.lt q (List.mem_append_right _ (List.mem_flatMap.2 ⟨r,hr3,hq⟩))) (by simp;intro he;subst he;exact hrow r hr hq),e2.mono hu⟩
 simp only [mem_append,mem_cons] at hr2
 rcases hr2 with hr2|rfl|hr2
 ·exact old (.inl hr2)
 ·exact ⟨us',.inl ⟨hlen,.inr ⟨g,cap,cur',rfl,Nat.zero_le _,setRow_heap w g cur _ E (0,0) h1,hkc,hcm,hsz,htk⟩⟩,hr.mono hu⟩
 exact old (.inr hr2)
theorem aCy{P:Program}{U:List Nat}{o:Oper}{st:AS}{K:AS -> Prop}{ty E:TypeId}{x y:Operand}{g off z zz k cap:Nat}{cs ds r:List AC}{t:AT}(A:List bA){B:List bA}(ho:o.op=.store ty x y)(hd:o.dst=none)(hx:evA st x=some (.c (.val (.pointer (some ⟨g,off,none⟩)))))(hy:evA st y=some t)(hc:jL t=some ds)
  (hb:st.s.rows=A++⟨.slice (some ⟨g,0,none⟩) k cap,E,zz,k,cs⟩::B) (hS:∀w,(sizeOf ty).run P w=.ok z w) (hz:ds.length=z) (hl:off+z <= cs.length) (hr:splice cs off ds=r) (hT:g∈st.T) (hU:st.s.bl.Nodup -> g∈U)
  (h:K {st with s:=⟨st.s.boxes,A++⟨.slice (some ⟨g,0,none⟩) k cap,E,zz,k,r⟩::B⟩}):AO P U o st K:=by
 intro a w hs KK QQ hK
 subst hr
 have hmem:(⟨.slice (some ⟨g,0,none⟩) k cap,E,zz,k,cs⟩:bA)∈st.s.rows:=by rw [hb];simp
 obtain ⟨us,hownR,h2⟩:=hs.mem.row _ hmem
 obtain ⟨h0,h1⟩:=hownR.row0 rfl
 rcases h1 with ⟨h1,-⟩|⟨g',cap',cur,hv,-,hh,hkc,hcm,hcs,htk⟩
 ·cases h1
 cases hv
 dsimp only at h0 hh hkc hcs htk
 have hv:=mU hc (hs.ev hy)
 have hlen:=hv.len
 have hl2:us.length=cs.length:=h2.len
 have hle:k*zz <= cur.size:=by rw [hcs];exact Nat.mul_le_mul_right _ hkc
 have hbl:(⟨st.s.boxes,A++⟨.slice (some ⟨g,0,none⟩) k cap,E,zz,k,splice cs off ds⟩::B⟩:Sto).bl=st.s.bl:=by unfold Sto.bl;rw [hb];simp
 have hbm:g∈st.s.bl:=by unfold Sto.bl;rw [hb];simp [aY,Value.ownBlock]
 generalize hvs:(a.eval y).cells.toList=vs at hv hlen
 have hst:=run_storeCells_at (P:=P) g off E vs 0 cur w hh (by omega) hv.one
 simp only [Nat.add_zero] at hst
 have hk:=oI w g (cur.toList.take off++vs++cur.toList.drop (off+vs.length)).toArray
 unfold Oper.wp
 have hrun:(execOp a.eval o).run P w=.ok .skip (w.setRow g (cur.toList.take off++vs++cur.toList.drop (off+vs.length)).toArray):=by
  have hsz:(a.eval y).cells.size=z:=by rw [←Array.length_toList,hvs,hlen,hz]
  simp only [execOp,ho,hs.val hx,Instr.storeAt,Instr.sureAddr,storeVar,Sem.run_bind,Sem.run_pure,Result.andThen_ok,hS,hsz,ne_eq,not_true_eq_false,if_false,hvs]
  rw [hst];rfl
 rw [hrun,Oper.upon_skip,hd]
 have htk2:(cur.toList.take off++vs++cur.toList.drop (off+vs.length)).take (k*zz)=us.take off++vs++us.drop (off+vs.length):=by
  subst htk
  refine List.ext_getElem? fun j=>?_
  rw [List.getElem?_take]
  by_cases hj:j<k*zz
  ·rw [if_pos hj]
   simp only [List.getElem?_append,length_append,List.length_take,Array.length_toList,List.getElem?_take,List.getElem?_drop]
   repeat' split
   all_goals first|rfl|omega|(congr 1;omega)|skip
  rw [if_neg hj,List.getElem?_eq_none]
  simp only [length_append,List.length_take,List.length_drop,Array.length_toList]
  omega
 have hm:=hs.mem.setRowR (cur':=(cur.toList.take off++vs++cur.toList.drop (off+vs.length)).toArray) hb hh (h2.splice hv off) hkc hcm (by simp only [List.size_toArray,length_append,List.length_take,List.length_drop,Array.length_toList];omega) htk2 (by simp only [length_append,List.length_take,List.length_drop];omega)
 refine hK _ _ _ h (hs.step st.T (hk.mono (by simp;exact hbm)) hm (fun x hx=>.inl (by rw [hbl] at hx;exact hx))) ⟨hk.mono (by simp;exact hbm),hk.mono (by simp;exact hT),fun x hx=>.inl (by rw [hbl] at hx;exact hx),fun x hx=>.inl hx⟩ (hk.mono (by simp;exact hU hs.mem.nodup))
section
variable {P:Program}{ops:Array Oper}{Z T:List Nat}{o:Oper}{n:Nat}{s:Sto}{ts:List (Nat×AT)}{K:AS -> Prop}{bx:List Box}{rw:List bA}{Q:Exit -> AS -> Prop}{l:List Oper}
theorem three(i j k:Nat){o2 o3:Oper}{fuel:Nat}{listed:Array Bool}(hr:Region.ready .any ops listed=[i,j,k])(hi:ops.toList[i]?=some o)(hw:fC ops o ⟨n,T,s,ts⟩=some true)(hi2:ops.toList[j]?=some o2)(hw2:fC ops o2 ⟨n,T,s,ts⟩=some true)(hi3:ops.toList[k]?=some o3)(hw3:fC ops o3 ⟨n,T,s,ts⟩=some true)
  (h:AO P (lM s Z) o ⟨n,T,s,ts⟩ fun s=>lD P ops Z fuel (listed.setIfInBounds i true) s K) (h2:AO P (lM s Z) o2 ⟨n,T,s,ts⟩ fun s=>lD P ops Z fuel (listed.setIfInBounds j true) s K) (h3:AO P (lM s Z) o3 ⟨n,T,s,ts⟩ fun s=>lD P ops Z fuel (listed.setIfInBounds k true) s K):lD P ops Z (fuel+1) listed ⟨n,T,s,ts⟩ K:=
 uU hr rfl (nJ hi hw h (nJ hi2 hw2 h2 (nJ hi3 hw3 h3 pO)))
theorem aSh{x y:Box}{B:List Box}(h:eQ P ops l ⟨n,T,⟨y::x::B,rw⟩,ts⟩ Q):eQ P ops l ⟨n,T,⟨x::y::B,rw⟩,ts⟩ Q:=
 uQ (vU (st:=⟨n,T,⟨x::y::B,rw⟩,ts⟩) (aJ6 (List.Perm.swap _ _ _))) h
theorem qM{Z:List Nat}{r:bA}{b:Nat}[h1:aL0 bx Z](hr:r∈rw)(hn:(⟨bx,rw⟩:Sto).bl.Nodup)(hb:b∈aY r.v):b∈lM ⟨bx,rw⟩ Z:=by
 have h3:b∈rw.flatMap fun r=>aY r.v:=List.mem_flatMap.2 ⟨r,hr,hb⟩
 refine kH.2 ⟨List.mem_append_right _ h3,fun hz=>?_⟩
 exact (List.nodup_append.1 hn).2.2 b (h1.h b hz) b h3 rfl
theorem lB{P:Program}{U:List Nat}{o:Oper}{st:AS}{E yt:TypeId}{x y:Operand}{c d:UInt8}{a b r:ByteArray}(ho:o.op=.binOp .add E x y yt)(hx:evA st x=some (.c (.val (.string a))))(hy:evA st y=some (.c (.val (.string b))))(ha:a=bytes [c])(hb:b=bytes [d])(hr:bytes [c,d]=r):AY P U o st (.c (.val (.string r))):=by
 subst hr;subst hb;subst ha
 exact aHr (P:=P) (U:=U) ho hx hy (by show 1+1 <= _;decide)
end
theorem aO0{P:Program}{U T:List Nat}{o:Oper}{n:Nat}{bx:List Box}{ts:List (Nat×AT)}{K:AS -> Prop}{ty E:TypeId}{x y:Operand}{g off z zz k cap:Nat}{cs ds r:List AC}{t:AT}(A:List bA){B:List bA}(ho:o.op=.store ty x y)(hd:o.dst=none)(hx:evA ⟨n,T,⟨bx,A++⟨.slice (some ⟨g,0,none⟩) k cap,E,zz,k,cs⟩::B⟩,ts⟩ x=some (.c (.val (.pointer (some ⟨g,off,none⟩)))))(hy:evA ⟨n,T,⟨bx,A++⟨.slice (some ⟨g,0,none⟩) k cap,E,zz,k,cs⟩::B⟩,ts⟩ y=some t)(hc:jL t=some ds)
  (hS:∀w,(sizeOf ty).run P w=.ok z w) (hz:ds.length=z) (hl:off+z <= cs.length) (hr:splice cs off ds=r) (hT:g∈T) (hU:(⟨bx,A++⟨.slice (some ⟨g,0,none⟩) k cap,E,zz,k,cs⟩::B⟩:Sto).bl.Nodup -> g∈U)
  (h:K ⟨n,T,⟨bx,A++⟨.slice (some ⟨g,0,none⟩) k cap,E,zz,k,r⟩::B⟩,ts⟩):AO P U o ⟨n,T,⟨bx,A++⟨.slice (some ⟨g,0,none⟩) k cap,E,zz,k,cs⟩::B⟩,ts⟩ K:=aCy A ho hd hx hy hc rfl hS hz hl hr hT hU h
end
section
open Go.RowKit
section
variable {m n:Int}
theorem eR(h:m=n):bC .eql m n=some true:=by simp [bC,h]
theorem eD(h:¬m=n):bC .eql m n=some false:=by simp [bC,h]
theorem xL(h:¬m=n):bC .neq m n=some true:=by simp [bC,h]
theorem xG(h:m=n):bC .neq m n=some false:=by simp [bC,h]
theorem jZ(h:m<n):bC .lss m n=some true:=by simp [bC,h]
theorem jQ(h:¬m<n):bC .lss m n=some false:=by simp only [bC,decide_eq_false h]
theorem aPz(h:m <= n):bC .leq m n=some true:=by simp [bC,h]
theorem aPx(h:¬m <= n):bC .leq m n=some false:=by simp only [bC,decide_eq_false h]
theorem mH(h:n<m):bC .gtr m n=some true:=by simp [bC,h]
theorem mI(h:¬n<m):bC .gtr m n=some false:=by simp only [bC,decide_eq_false h]
theorem aMq(h:n <= m):bC .geq m n=some true:=by simp [bC,h]
theorem aMx(h:¬n <= m):bC .geq m n=some false:=by simp only [bC,decide_eq_false h]
end
section
variable {m n:ByteArray}
theorem aL8(h:m=n):oM .eql m n=some true:=by simp [oM,h]
theorem aLs(h:¬m=n):oM .eql m n=some false:=by simp [oM,h]
theorem aLc(h:¬m=n):oM .neq m n=some true:=by simp [oM,h]
theorem aMz(h:m=n):oM .neq m n=some false:=by simp [oM,h]
end
section
variable {P:Program}{U T:List Nat}{o:Oper}{n d:Nat}{ts:List (Nat×AT)}{s:Sto}{K:AS -> Prop}{st:AS}{Q:Exit -> AS -> Prop}
theorem fL{t t':AT}(h:Wk t t')(hy:AY P U o st t):AY P U o st t':=fun a w hs hu=>
 let ⟨v,h1,h2⟩:=hy a w hs hu
 ⟨v,h _ _ h1,h2⟩
theorem bZ{a b:Bool}(h:a=b):Wk (.c (.val (.bool a))) (.c (.val (.bool b))):=h▸Wk.refl _
theorem gQ{a b:Int}(h:a=b):Wk (.c (.val (.int .i64 a))) (.c (.val (.int .i64 b))):=h▸Wk.refl _
theorem jX{a b:ByteArray}(h:a=b):Wk (.c (.val (.string a))) (.c (.val (.string b))):=h▸Wk.refl _
theorem aKs{x:Bool}(h:x=true):(!x)=false:=by rw [h];rfl
theorem aKt{x:Bool}(h:x=false):(!x)=true:=by rw [h];rfl
theorem cX{a b:Bool}(h:b=a):AT.c (.val (.bool a))=.c (.val (.bool b)):=h▸rfl
theorem aPy{a b:Int}(h:b=a):AT.c (.val (.int .i64 a))=.c (.val (.int .i64 b)):=h▸rfl
theorem oW{a b:ByteArray}(h:b=a):AT.c (.val (.string a))=.c (.val (.string b)):=h▸rfl
theorem aHz(a b:List UInt8):bytes a++bytes b=bytes (a++b):=sI (by simp [bytes])
theorem kT(a:List UInt8):(bytes a).size=a.length:=by simp [bytes,ByteArray.size]
theorem aN{t yt:TypeId}{x y:Operand}{m k:ByteArray}(a b:List UInt8)(ho:o.op=.binOp .add t x y yt)(hx:evA st x=some (.c (.val (.string m))))(hy:evA st y=some (.c (.val (.string k))))(ha:m=bytes a)(hb:k=bytes b)(hl:a.length+b.length <= 9223372036854775807):AY P U o st (.c (.val (.string (bytes (a++b))))):=by
 subst ha;subst hb
 rw [←aHz]
 exact aHr ho hx hy (by rw [kT,kT];exact hl)
theorem back(s:ByteArray):s=bytes s.data.toList:=by simp [bytes]
theorem bV{F:FuncId}{ars:Array Operand}{tys:Array TypeId}{us:List AT}{QQ:AT -> Sto -> Prop}(ho:o.op=.call {callee:=.value (.func F),args:=ars,argTypes:=tys})(hd:o.dst=some d)(hn:d<n)
  (hcf:∀args w,(callFunc F args).run P w=.ok (.enter F args) w) (has:ars.toList.map (evA ⟨n,T,s,ts⟩)=us.map some) (hc:aL P F us [] s QQ) (h:∀r s',QQ r s' -> K ⟨n,T,s',(d,r)::ts⟩):AO P U o ⟨n,T,s,ts⟩ K:=
 bD [] ho hd hn hcf has hc bDl bDl (fun _=>bDl) h
theorem oC{c:Code}(N i:Nat)(fx:Nat -> List (Nat×AT))(hs:Sub ⟨n,T,s,ts⟩ ⟨n,T,s,(i,nI 0)::fx 0⟩)
  (round:∀k,k <= N -> AWp P c ⟨n,T,s,(i,nI k)::fx k⟩ (sU (fun s'=>k<N /\ Sub s' ⟨n,T,s,(i,nI (k+1))::fx (k+1)⟩) Q)):AWp P (.loop c) ⟨n,T,s,ts⟩ Q:=by
 refine fM (fun k=>⟨n,T,s,(i,nI k)::fx k⟩) (fun k=>k <= N) (fun k=>N-k) 0 hs (Nat.zero_le _) fun k hk=>sE (round k hk) fun e s' h=>?_
 cases e with
 |normal=>exact ⟨k+1,h.1,by have:=h.1;omega,h.2⟩
 |_=>exact h
theorem lE{c:Code}(p:Nat -> Prop)(N i:Nat)(fx:Nat -> List (Nat×AT))(hp:p 0)(hs:Sub ⟨n,T,s,ts⟩ ⟨n,T,s,(i,nI 0)::fx 0⟩)
  (round:∀k,k <= N -> p k -> AWp P c ⟨n,T,s,(i,nI k)::fx k⟩ (sU (fun s'=>k<N /\ p (k+1) /\ Sub s' ⟨n,T,s,(i,nI (k+1))::fx (k+1)⟩) Q)):AWp P (.loop c) ⟨n,T,s,ts⟩ Q:=by
 refine fM (fun k=>⟨n,T,s,(i,nI k)::fx k⟩) (fun k=>k <= N /\ p k) (fun k=>N-k) 0 hs ⟨Nat.zero_le _,hp⟩ fun k hk=>sE (round k hk.1 hk.2) fun e s' h=>?_
 cases e with
 |normal=>exact ⟨k+1,⟨h.1,h.2.1⟩,by have:=h.1;omega,h.2.2⟩
 |_=>exact h
theorem aO2{c:Code}{bx bx0:List Box}{rw rw0:List bA}(p:Nat -> Prop)(N i j:Nat)(E:TypeId)(z:Nat)(cnt:Nat -> Nat)(cs:Nat -> List AC)(T0:List Nat)(fx:Nat -> List (Nat×AT))(hp:p 0)
  (hs:Sub ⟨n,T,⟨bx0,rw0⟩,ts⟩ ⟨n,aY (.slice none 0 0)++T0,⟨bx,⟨.slice none 0 0,E,z,cnt 0,cs 0⟩::rw⟩,(i,nI 0)::(j,.c (.val (.slice none 0 0)))::fx 0⟩)
  (round:∀k v,k <= N -> p k -> AWp P c ⟨n,aY v++T0,⟨bx,⟨v,E,z,cnt k,cs k⟩::rw⟩,(i,nI k)::(j,.c (.val v))::fx k⟩
   (sU (fun s'=>k<N /\ p (k+1) /\ ∃v',Sub s' ⟨n,aY v'++T0,⟨bx,⟨v',E,z,cnt (k+1),cs (k+1)⟩::rw⟩,(i,nI (k+1))::(j,.c (.val v'))::fx (k+1)⟩) Q)):AWp P (.loop c) ⟨n,T,⟨bx0,rw0⟩,ts⟩ Q:=by
 refine fM (fun g:Nat×Value=>⟨n,aY g.2++T0,⟨bx,⟨g.2,E,z,cnt g.1,cs g.1⟩::rw⟩,(i,nI g.1)::(j,.c (.val g.2))::fx g.1⟩) (fun g=>g.1 <= N /\ p g.1) (fun g=>N-g.1) (0,.slice none 0 0) hs ⟨Nat.zero_le _,hp⟩ fun g hg=>sE (round g.1 g.2 hg.1 hg.2) fun e s' h=>?_
 cases e with
 |normal=>
  obtain ⟨h1,h2,v',h3⟩:=h
  exact ⟨(g.1+1,v'),⟨h1,h2⟩,by show N-(g.1+1)<N-g.1;omega,h3⟩
 |_=>exact h
end
theorem Oper.wp_mono2{P:Program}{Q Q':Exit -> Act -> World -> Prop}{o:Oper}{a:Act}{w:World}{K K':Act -> World -> Prop}(h:∀a w,K a w -> K' a w)(hq:∀e a w,e≠.normal -> Q e a w -> Q' e a w)(hl:LetsOut Q -> LetsOut Q')
  (hh:o.wp P a w K Q):o.wp P a w K' Q':=by
 unfold Oper.wp at *
 generalize (execOp a.eval o).run P w=r at *
 cases r with
 |ok n w'=>
  cases n<;>simp only [Oper.upon] at hh⊢<;>
   first
    |exact h _ _ hh
    |exact Calls.mono hh (fun e w'' he=>by cases e<;>first|exact h _ _ he|exact hq _ _ _ (by simp) he|exact hl he)
    |exact Rows.mono hh (fun _ _ he=>h _ _ he)
 |halt x w'=>cases x<;>simp only [Oper.upon] at hh⊢<;>first|exact hq _ _ _ (by simp) hh|exact hh
class vT (N:Nat) (l:List Oper) (l1 l2:outParam (List Oper)):Prop where h:l=l1++l2
instance aUv{l:List Oper}:vT 0 l [] l:=⟨rfl⟩
instance aW9{N:Nat}{o:Oper}{l l1 l2:List Oper}[h:vT N l l1 l2]:vT (N+1) (o::l) (o::l1) l2:=⟨by rw [h.h];rfl⟩
instance aV8{N:Nat}{o:Oper}{l m l1 l2:List Oper}[h:vT (N+1) (o::List.append l m) l1 l2]:vT (N+1) (List.append (o::l) m) l1 l2:=⟨h.h⟩
instance aU8{N:Nat}{m l1 l2:List Oper}[h:vT N m l1 l2]:vT N (List.append [] m) l1 l2:=⟨h.h⟩
instance aVp{j t:Nat}{o:Oper}{l m:List Oper}[h:wV (o::List.append l m) j t]:wV (List.append (o::l) m) j t:=⟨h.h⟩
instance aUd{j t:Nat}{m:List Oper}[h:wV m j t]:wV (List.append [] m) j t:=⟨h.h⟩
instance aYy{P:Program}{ops:Array Oper}{o:Oper}{l m:List Oper}{st:AS}{Q:Exit -> AS -> Prop}{N:Nat}{g:Prop}[h:Go1 (N+1) (eQ P ops (o::List.append l m) st Q) g]:Go1 (N+1) (eQ P ops (List.append (o::l) m) st Q) g:=⟨h.out⟩
instance aVr{P:Program}{ops:Array Oper}{m:List Oper}{st:AS}{Q:Exit -> AS -> Prop}{N:Nat}{g:Prop}[h:Go1 (N+1) (eQ P ops m st Q) g]:Go1 (N+1) (eQ P ops (List.append [] m) st Q) g:=⟨h.out⟩
theorem xX{P:Program}{x y:Code}{n:Nat}{T:List Nat}{s:Sto}{ts:List (Nat×AT)}{Q:Exit -> AS -> Prop}(ts':List (Nat×AT))(h1:AWp P x ⟨n,T,s,ts⟩ (fun e s'=>e=.normal /\ Sub s' ⟨n,T,s,ts'⟩))(h2:AWp P y ⟨n,T,s,ts'⟩ Q):AWp P (.seq x y) ⟨n,T,s,ts⟩ Q:=
 aHp (sE h1 fun e s ⟨he,hs⟩=>by subst he;exact rX (zU hs h2))
end
section
open Go.RowKit
theorem xF(x n:Int)(hn:0<n):-n<x.tmod n:=by
 by_cases hx:0 <= x
 ·have:=Int.tmod_nonneg n hx;omega
 have h1:=Int.tmod_lt_of_pos (-x) hn
 rw [Int.neg_tmod] at h1;omega
theorem aD5(x n:Int)(hn:0<n):(x.tmod n+n).tmod n=x%n:=by
 have h1:=Int.tmod_lt_of_pos x hn
 have h2:=xF x n hn
 rw [Int.tmod_eq_emod_of_nonneg (by omega),Int.add_emod_right]
 rw [Int.tmod_def]
 rw [show x-n*x.tdiv n=x+n*(-(x.tdiv n)) by rw [Int.mul_neg];omega,Int.add_mul_emod_self_left]
theorem aG9(x n:Int)(w:World)(hn:0<n)(hn2:n <= 4611686018427387904):
  Calls prog 12 #[.int .i64 x,.int .i64 n] w fun e w'=>e=.returned (.int .i64 (x%n)) /\ w=w':=by
 have h1:=Int.tmod_lt_of_pos x hn
 have h2:=xF x n hn
 have h3:=aD5 x n hn
 have h4:0 <= x%n:=Int.emod_nonneg x (by omega)
 have h5:x%n<n:=Int.emod_lt_of_pos x hn
 have hw1:IntKind.i64.wrap (x.tmod n)=x.tmod n:=IntWalk.i64_in _ (by omega)
 have hw2:IntKind.i64.wrap (x.tmod n+n)=x.tmod n+n:=IntWalk.i64_in _ (by omega)
 have hw3:IntKind.i64.wrap (x%n)=x%n:=IntWalk.i64_in _ (by omega)
 go_enter func12,Tryz.ntmps12
 go_wp2
 go_ret
 exact ⟨gG (by simp [h3]),rfl⟩
end
section
open Go.RowKit
theorem aNz(x n:Int)(hn:0<n)(hn2:n <= 4611686018427387904)(s:Sto):aL prog 12 [.c (.val (.int .i64 x)),.c (.val (.int .i64 n))] [] s fun r s'=>r=.c (.val (.int .i64 (x%n))) /\ s'=s:=
 aP3 rfl rfl (us:=[.int .i64 x,.int .i64 n]) (fun w=>aG9 x n w hn hn2) s
theorem eU{p:Prop}[Decidable p](h:p):some (decide p)=some true:=by rw [decide_eq_true h]
theorem eE{p:Prop}[Decidable p](h:¬p):some (decide p)=some false:=by rw [decide_eq_false h]
end
section
def jP:Nat -> List ByteArray
 |0=>[⟨#[124,124]⟩]
 |1=>[⟨#[38,38]⟩]
 |2=>[⟨#[61,61]⟩,⟨#[33,61]⟩,⟨#[60]⟩,⟨#[60,61]⟩,⟨#[62]⟩,⟨#[62,61]⟩]
 |3=>[⟨#[43]⟩,⟨#[45]⟩]
 |_=>[⟨#[42]⟩,⟨#[47]⟩,⟨#[37]⟩]
def dS:Nat -> List Int
 |0=>[17]
 |1=>[16]
 |2=>[14,15,10,11,12,13]
 |3=>[8,9]
 |_=>[5,6,7]
theorem aKy(k:Nat):(dS k).length=(jP k).length /\ 1 <= (jP k).length /\ (jP k).length <= 6:=by
 rcases k with _|_|_|_|k<;>simp [dS,jP]
theorem bEs(k:Nat)(hk:k<5):∀j (h:j<(jP k).length),dA (jP k)[j]=false:=by
 rcases (show k=0∨k=1∨k=2∨k=3∨k=4 by omega) with rfl|rfl|rfl|rfl|rfl<;>decide
theorem bEn(k:Nat)(hk:k<5):∀j (h:j<(jP k).length) (h':j<(dS k).length),(((binOp (jP k)[j]).1:Int)=(dS k)[j]) /\ (binOp (jP k)[j]).2=k+1:=by
 rcases (show k=0∨k=1∨k=2∨k=3∨k=4 by omega) with rfl|rfl|rfl|rfl|rfl<;>decide
theorem bEz(k:Nat)(hk:k<5)(s:ByteArray)(h:(binOp s).2=k+1):s∈jP k:=by
 by_cases ha:s=bytes [124,124]∨s=bytes [38,38]∨s=bytes [61,61]∨s=bytes [33,61]∨s=bytes [60]∨s=bytes [60,61]∨s=bytes [62]∨s=bytes [62,61]∨s=bytes [43]∨s=bytes [45]∨s=bytes [42]∨s=bytes [47]∨s=bytes [37]
 ·rcases (show k=0∨k=1∨k=2∨k=3∨k=4 by omega) with rfl|rfl|rfl|rfl|rfl<;>rcases ha with rfl|rfl|rfl|rfl|rfl|rfl|rfl|rfl|rfl|rfl|rfl|rfl|rfl<;>first|(exfalso;revert h;decide)|simp [jP,bytes]
 exfalso
 simp only [not_or] at ha
 obtain ⟨a1,a2,a3,a4,a5,a6,a7,a8,a9,b1,b2,b3,b4⟩:=ha
 rw [binOp,if_neg a1,if_neg a2,if_neg a3,if_neg a4,if_neg a5,if_neg a6,if_neg a7,if_neg a8,if_neg a9,if_neg b1,if_neg b2,if_neg b3,if_neg b4] at h
 simp at h
end
section
open Go.RowKit
theorem pZ(k:Nat):cO k=(if k/10=0 then [] else cO (k/10))++[UInt8.ofNat (48+k%10)]:=by
 conv=>lhs;rw [cO]
 by_cases h:k<10
 ·rw [if_pos h,if_pos (by omega),show k%10=k by omega];rfl
 rw [if_neg h,if_neg (by omega)]
theorem aGa(m:Nat):∀n,n<10 ^ m -> 0<m -> (cO n).length <= m:=by
 induction m with
 |zero=>intro n _ h;omega
 |succ m ih=>
  intro n hn _
  rw [pZ]
  by_cases h:n/10=0
  ·rw [if_pos h];simp
  rw [if_neg h,length_append]
  have h1:n/10<10 ^ m:=by rw [Nat.pow_succ] at hn;omega
  have hm:0<m:=by
   rcases Nat.eq_zero_or_pos m with rfl|h2
   ·simp at h1;omega
   exact h2
  have:=ih (n/10) h1 hm
  simp;omega
theorem kC(n:Nat)(hn:n<18446744073709551616):(cO n).length <= 20:=
 aGa 20 n (Nat.lt_trans hn (by decide)) (by omega)
end
section
open Go.RowKit
theorem aIx{P:Program}{U:List Nat}{o:Oper}{st:AS}{E yt:TypeId}{x y:Operand}{m k:Nat}(r:Nat)(ho:o.op=.binOp .rem E x y yt)(hx:evA st x=some (nI m))(hy:evA st y=some (nI k))(hk:k≠0)(hr:m%k=r):AY P U o st (nI r):=by
 subst hr
 exact aG3 ho hx hy (by omega) rfl
end
section
mutual
def aH.nodes:aH -> Nat
 |.mk _ _ _ args=>1+cZ args
def cZ:List aH -> Nat
 |[]=>0
 |e::es=>1+e.nodes+cZ es
end
theorem nM:∀(l:List aH)(k:Nat)(h:k<l.length),l[k].nodes<cZ l
 |[],k,h=>by simp at h
 |e::es,0,h=>by rw [cZ];simp;omega
 |e::es,k+1,h=>by have:=nM es k (by simpa using h);rw [cZ];simp;omega
theorem tN:∀(l:List aH),l.length <= cZ l
 |[]=>by simp
 |e::es=>by have:=tN es;rw [cZ];simp;omega
section
variable {P:Program}{U:List Nat}{o:Oper}{st:AS}
theorem cz{t yt:TypeId}{x y:Operand}{v w:ByteArray}(a b:List UInt8)(ho:o.op=.binOp .add t x y yt)(hx:evA st x=some (.c (.val (.string v))))(hy:evA st y=some (.c (.val (.string w))))(hv:v=bytes a)(hw:w=bytes b)
  (hl:a.length+b.length<=9223372036854775807:=by first|omega|((try simp only [List.length_append,List.length_cons,List.length_nil,List.length_replicate]);omega)|grind):AY P U o st (.c (.val (.string (bytes (a++b))))):=aN a b ho hx hy hv hw hl
end
end
end Go.Proofs.YtojinfngbbajgaaGreatDoor
