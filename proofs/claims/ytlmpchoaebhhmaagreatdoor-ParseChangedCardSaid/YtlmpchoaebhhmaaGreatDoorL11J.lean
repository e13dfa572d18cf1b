import Derived.Test.YtlmpchoaebhhmaaGreatDoorL9J
set_option linter.all false
set_option synthInstance.maxHeartbeats 1000000
set_option synthInstance.maxSize 1000000
namespace Go.Proofs.YtlmpchoaebhhmaaGreatDoor
open List (length_append length_cons length_nil mem_append mem_cons not_mem_nil append_assoc getElem_mem take_of_length_le)
section
open Go.RowKit
theorem aJ6{bx bx':List Box}{rw:List bA}(h:bx'.Perm bx):aAz ⟨bx,rw⟩ ⟨bx',rw⟩:=by
 intro w hm
 have hp:((⟨bx',rw⟩:Sto).bl).Perm ((⟨bx,rw⟩:Sto).bl):=List.Perm.append (h.map _) (List.Perm.refl _)
 have hu:Up2 (bI (⟨bx,rw⟩:Sto).bl w) (bI (⟨bx',rw⟩:Sto).bl w):=up_sub fun b hb=>hp.mem_iff.1 hb
 exact ⟨⟨hp.nodup_iff.2 hm.nodup,fun b hb=>hm.lt b (hp.mem_iff.1 hb),fun x hx=>let ⟨us,e,r⟩:=hm.box x (h.mem_iff.1 hx);⟨us,e,r.mono hu⟩,fun x hx=>let ⟨us,e,r⟩:=hm.row x hx;⟨us,e,r.mono hu⟩⟩,fun b hb=>hp.mem_iff.1 hb⟩
theorem Mem.setRowR{s:Sto}{w:World}{A B:List bA}{g cap k z:Nat}{E:TypeId}{cs ds:List AC}{cur cur':Array Value}{us':List Value}(h:Mem s w)(hb:s.rows=A++⟨.slice (some ⟨g,0,none⟩) k cap,E,z,k,cs⟩::B)(h1:w.heap[g]?=some (.cells cur E (0,0)))(hr:fG (bI s.bl w) ds us')
  (hkc:k <= cap) (hcm:cap <= maxLen) (hsz:cur'.size=cap*z) (htk:cur'.toList.take (k*z)=us') (hlen:us'.length=k*z):
  Mem ⟨s.boxes,A++⟨.slice (some ⟨g,0,none⟩) k cap,E,z,k,ds⟩::B⟩ (w.setRow g cur'):=by
 have hbl:(⟨s.boxes,A++⟨.slice (some ⟨g,0,none⟩) k cap,E,z,k,ds⟩::B⟩:Sto).bl=s.bl:=by unfold Sto.bl;rw [hb];simp
 have hmem:g∈s.bl:=by unfold Sto.bl;rw [hb];simp [aY,Value.ownBlock]
 have hk:=oI w g cur'
 have hu:Up2 (bI s.bl w) (bI s.bl (w.setRow g cur')):=jA hk (fun x hx=>by simp at hx;subst hx;exact hmem) (fun x hx=>.inl hx)
 have hnd:=h.nodup
 have hg:g∈aY (.slice (some ⟨g,0,none⟩) k cap):=by simp [aY,Value.ownBlock]
 have hnd2:(s.boxes.map Box.b++(A.flatMap (fun r=>aY r.v)++(aY (.slice (some ⟨g,0,none⟩) k cap)++B.flatMap fun r=>aY r.v))).Nodup:=by
  have:=hnd;unfold Sto.bl at this;rw [hb] at this;simpa using this
 have hbox:∀x,x∈s.boxes -> x.b≠g:=fun x hx he=>(List.nodup_append.1 hnd2).2.2 x.b (List.mem_map.2 ⟨x,hx,rfl⟩) g (by simp [hg]) he
 have hrow:∀r,r∈A∨r∈B -> g∉aY r.v:=by
  intro r hr hm
  have h2:=(List.nodup_append.1 hnd2).2.1
  rcases hr with hr|hr
  ·exact (List.nodup_append.1 h2).2.2 g (List.mem_flatMap.2 ⟨r,hr,hm⟩) g (List.mem_append_left _ hg) rfl
  exact (List.nodup_append.1 (List.nodup_append.1 h2).2.1).2.2 g hg g (List.mem_flatMap.2 ⟨r,hr,hm⟩) rfl
 refine ⟨by rw [hbl];exact hnd,fun x hx=>by rw [hbl] at hx;exact Nat.lt_of_lt_of_le (h.lt x hx) hk.size,fun x hx=>?_,fun r hr2=>?_⟩
 ·rw [hbl]
  obtain ⟨us,e1,e2⟩:=h.box x hx
  exact ⟨us,by rw [hk.block _ (h.lt _ (List.mem_append_left _ (List.mem_map.2 ⟨x,hx,rfl⟩))) (by simp;exact hbox x hx)];exact e1,e2.mono hu⟩
 rw [hbl]
 have old:r∈A∨r∈B -> ∃us,(w.setRow g cur').ownsRow 0 r.E r.z r.v r.n us /\ fG (bI s.bl (w.setRow g cur')) r.cs us:=fun hr=>by
  have hr3:r∈s.rows:=by rw [hb];simp only [mem_append,mem_cons];rcases hr with h|h;exact .inl h;exact .inr (.inr h)
  obtain ⟨us,e1,e2⟩:=h.row r hr3
  exact ⟨us,lV e1 fun q hq=>hk.block q (h.lt q (List.mem_append_right _ (List.mem_flatMap.2 ⟨r,hr3,hq⟩))) (by simp;intro he;subst he;exact hrow r hr hq),e2.mono hu⟩
 simp only [mem_append,mem_cons] at hr2
 rcases hr2 with hr2|rfl|hr2
 ·exact old (.inl hr2)
 ·exact ⟨us',⟨hlen,.inr ⟨g,cap,cur',rfl,Nat.zero_le _,setRow_heap w g cur _ E (0,0) h1,hkc,hcm,hsz,htk⟩⟩,hr.mono hu⟩
 exact old (.inr hr2)
theorem aCy{P:Program}{U:List Nat}{o:Oper}{st:AS}{K:AS -> Prop}{ty E:TypeId}{x y:Operand}{g off z zz k cap:Nat}{cs ds r:List AC}{t:AT}(A:List bA){B:List bA}(ho:o.op=.store ty x y)(hd:o.dst=none)(hx:evA st x=some (.c (.val (.pointer (some ⟨g,off,none⟩)))))(hy:evA st y=some t)(hc:jL t=some ds)
  (hb:st.s.rows=A++⟨.slice (some ⟨g,0,none⟩) k cap,E,zz,k,cs⟩::B) (hS:∀w,(sizeOf ty).run P w=.ok z w) (hz:ds.length=z) (hl:off+z <= cs.length) (hr:splice cs off ds=r) (hT:g∈st.T) (hU:st.s.bl.Nodup -> g∈U)
  (h:K {st with s:=⟨st.s.boxes,A++⟨.slice (some ⟨g,0,none⟩) k cap,E,zz,k,r⟩::B⟩}):AO P U o st K:=by
 intro a w hs KK QQ hK
 subst hr
 have hmem:(⟨.slice (some ⟨g,0,none⟩) k cap,E,zz,k,cs⟩:bA)∈st.s.rows:=by rw [hb];simp
 obtain ⟨us,⟨h0,h1⟩,h2⟩:=hs.mem.row _ hmem
 rcases h1 with ⟨h1,-⟩|⟨g',cap',cur,hv,-,hh,hkc,hcm,hcs,htk⟩
 ·cases h1
 cases hv
 dsimp only at h0 hh hkc hcs htk
 have hv:=mU hc (hs.ev hy)
 have hlen:=hv.len
 have hl2:us.length=cs.length:=h2.len
 have hle:k*zz <= cur.size:=by rw [hcs];exact Nat.mul_le_mul_right _ hkc
 have hbl:(⟨st.s.boxes,A++⟨.slice (some ⟨g,0,none⟩) k cap,E,zz,k,splice cs off ds⟩::B⟩:Sto).bl=st.s.bl:=by unfold Sto.bl;rw [hb];simp
 have hbm:g∈st.s.bl:=by unfold Sto.bl;rw [hb];simp [aY,Value.ownBlock]
 generalize hvs:(a.eval y).cells.toList=vs at hv hlen
 have hst:=run_storeCells_at (P:=P) g off E vs 0 cur w hh (by omega) hv.one
 simp only [Nat.add_zero] at hst
 have hk:=oI w g (cur.toList.take off++vs++cur.toList.drop (off+vs.length)).toArray
 unfold Oper.wp
 have hrun:(execOp a.eval o).run P w=.ok .skip (w.setRow g (cur.toList.take off++vs++cur.toList.drop (off+vs.length)).toArray):=by
  have hsz:(a.eval y).cells.size=z:=by rw [←Array.length_toList,hvs,hlen,hz]
  simp only [execOp,ho,hs.val hx,Instr.storeAt,Instr.sureAddr,storeVar,Sem.run_bind,Sem.run_pure,Result.andThen_ok,hS,hsz,ne_eq,not_true_eq_false,if_false,hvs]
  rw [hst];rfl
 rw [hrun,Oper.upon_skip,hd]
 have htk2:(cur.toList.take off++vs++cur.toList.drop (off+vs.length)).take (k*zz)=us.take off++vs++us.drop (off+vs.length):=by
  subst htk
  refine List.ext_getElem? fun j=>?_
  rw [List.getElem?_take]
  by_cases hj:j<k*zz
  ·rw [if_pos hj]
   simp only [List.getElem?_append,length_append,List.length_take,Array.length_toList,List.getElem?_take,List.getElem?_drop]
   repeat' split
   all_goals first|rfl|omega|(congr 1;omega)|skip
  rw [if_neg hj,List.getElem?_eq_none]
  simp only [length_append,List.length_take,List.length_drop,Array.length_toList]
  omega
 have hm:=hs.mem.setRowR (cur':=(cur.toList.take off++vs++cur.toList.drop (off+vs.length)).toArray) hb hh (h2.splice hv off) hkc hcm (by simp only [List.size_toArray,length_append,List.length_take,List.length_drop,Array.length_toList];omega) htk2 (by simp only [length_append,List.length_take,List.length_drop];omega)
 refine hK _ _ _ h (hs.step st.T (hk.mono (by simp;exact hbm)) hm (fun x hx=>.inl (by rw [hbl] at hx;exact hx))) ⟨hk.mono (by simp;exact hbm),hk.mono (by simp;exact hT),fun x hx=>.inl (by rw [hbl] at hx;exact hx),fun x hx=>.inl hx⟩ (hk.mono (by simp;exact hU hs.mem.nodup))
section
variable {P:Program}{ops:Array Oper}{Z T:List Nat}{o:Oper}{n:Nat}{s:Sto}{ts:List (Nat×AT)}{K:AS -> Prop}{bx:List Box}{rw:List bA}{Q:Exit -> AS -> Prop}{l:List Oper}
theorem three(i j k:Nat){o2 o3:Oper}{fuel:Nat}{listed:Array Bool}(hr:Region.ready .any ops listed=[i,j,k])(hi:ops.toList[i]?=some o)(hw:fC ops o ⟨n,T,s,ts⟩=some true)(hi2:ops.toList[j]?=some o2)(hw2:fC ops o2 ⟨n,T,s,ts⟩=some true)(hi3:ops.toList[k]?=some o3)(hw3:fC ops o3 ⟨n,T,s,ts⟩=some true)
  (h:AO P (lM s Z) o ⟨n,T,s,ts⟩ fun s=>lD P ops Z fuel (listed.setIfInBounds i true) s K) (h2:AO P (lM s Z) o2 ⟨n,T,s,ts⟩ fun s=>lD P ops Z fuel (listed.setIfInBounds j true) s K) (h3:AO P (lM s Z) o3 ⟨n,T,s,ts⟩ fun s=>lD P ops Z fuel (listed.setIfInBounds k true) s K):lD P ops Z (fuel+1) listed ⟨n,T,s,ts⟩ K:=
 uU hr rfl (nJ hi hw h (nJ hi2 hw2 h2 (nJ hi3 hw3 h3 pO)))
theorem aSh{x y:Box}{B:List Box}(h:eQ P ops l ⟨n,T,⟨y::x::B,rw⟩,ts⟩ Q):eQ P ops l ⟨n,T,⟨x::y::B,rw⟩,ts⟩ Q:=
 uQ (vU (st:=⟨n,T,⟨x::y::B,rw⟩,ts⟩) (aJ6 (List.Perm.swap _ _ _))) h
theorem qM{Z:List Nat}{r:bA}{b:Nat}[h1:aL0 bx Z](hr:r∈rw)(hn:(⟨bx,rw⟩:Sto).bl.Nodup)(hb:b∈aY r.v):b∈lM ⟨bx,rw⟩ Z:=by
 have h3:b∈rw.flatMap fun r=>aY r.v:=List.mem_flatMap.2 ⟨r,hr,hb⟩
 refine kH.2 ⟨List.mem_append_right _ h3,fun hz=>?_⟩
 exact (List.nodup_append.1 hn).2.2 b (h1.h b hz) b h3 rfl
theorem lB{P:Program}{U:List Nat}{o:Oper}{st:AS}{E yt:TypeId}{x y:Operand}{c d:UInt8}{a b r:ByteArray}(ho:o.op=.binOp .add E x y yt)(hx:evA st x=some (.c (.val (.string a))))(hy:evA st y=some (.c (.val (.string b))))(ha:a=bytes [c])(hb:b=bytes [d])(hr:bytes [c,d]=r):AY P U o st (.c (.val (.string r))):=by
 subst hr;subst hb;subst ha
 exact aHr (P:=P) (U:=U) ho hx hy (by show 1+1 <= _;decide)
end
theorem aO0{P:Program}{U T:List Nat}{o:Oper}{n:Nat}{bx:List Box}{ts:List (Nat×AT)}{K:AS -> Prop}{ty E:TypeId}{x y:Operand}{g off z zz k cap:Nat}{cs ds r:List AC}{t:AT}(A:List bA){B:List bA}(ho:o.op=.store ty x y)(hd:o.dst=none)(hx:evA ⟨n,T,⟨bx,A++⟨.slice (some ⟨g,0,none⟩) k cap,E,zz,k,cs⟩::B⟩,ts⟩ x=some (.c (.val (.pointer (some ⟨g,off,none⟩)))))(hy:evA ⟨n,T,⟨bx,A++⟨.slice (some ⟨g,0,none⟩) k cap,E,zz,k,cs⟩::B⟩,ts⟩ y=some t)(hc:jL t=some ds)
  (hS:∀w,(sizeOf ty).run P w=.ok z w) (hz:ds.length=z) (hl:off+z <= cs.length) (hr:splice cs off ds=r) (hT:g∈T) (hU:(⟨bx,A++⟨.slice (some ⟨g,0,none⟩) k cap,E,zz,k,cs⟩::B⟩:Sto).bl.Nodup -> g∈U)
  (h:K ⟨n,T,⟨bx,A++⟨.slice (some ⟨g,0,none⟩) k cap,E,zz,k,r⟩::B⟩,ts⟩):AO P U o ⟨n,T,⟨bx,A++⟨.slice (some ⟨g,0,none⟩) k cap,E,zz,k,cs⟩::B⟩,ts⟩ K:=aCy A ho hd hx hy hc rfl hS hz hl hr hT hU h
end
end Go.Proofs.YtlmpchoaebhhmaaGreatDoor
