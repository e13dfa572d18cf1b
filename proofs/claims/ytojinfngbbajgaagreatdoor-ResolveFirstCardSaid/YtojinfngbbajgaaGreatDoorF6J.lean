import Derived.Test.YtojinfngbbajgaaGreatDoorF5J
import Derived.Test.YtojinfngbbajgaaGreatDoorRows
import Derived.Test.YtojinfngbbajgaaGreatDoorShelfJ
import Derived.Test.YtojinfngbbajgaaGreatDoorQ1J
import Derived.WalkKit
import Derived.WalkSpells
import Derived.WalkLawsBesides
import Derived.Handy
import Derived.Lib.Hide
set_option linter.all false
set_option synthInstance.maxHeartbeats 1000000
set_option synthInstance.maxSize 1000000
set_option maxHeartbeats 1600000
set_option maxRecDepth 100000
namespace Go.Proofs.YtojinfngbbajgaaGreatDoor
open Go.Proofs.Tryz
open List (length_append length_cons length_nil mem_append mem_cons not_mem_nil append_assoc getElem_mem take_of_length_le)
section
open Go.RowKit
instance (priority:=900) boxIn_appG{A0 R A B:List Box}{b:Nat}{T:TypeId}{cs:List AC}[h:lY R b A T cs B]:lY (A0++R) b (A0++A) T cs B:=⟨by rw [h.h,append_assoc]⟩
instance (priority:=1050) appL_app{A0 X ds r:List Box}[h:aDk X ds r]:aDk (A0++X) ds (A0++r):=⟨by rw [append_assoc,h.h]⟩
instance aS8:hP 1 1 2:=⟨rfl⟩
instance aSv:hP 1 2 3:=⟨rfl⟩
instance aSi:hP 1 3 4:=⟨rfl⟩
instance aTa:hP 1 4 5:=⟨rfl⟩
instance aTf:hP 1 5 6:=⟨rfl⟩
instance aS0:hP 2 1 3:=⟨rfl⟩
instance aSx:hP 2 2 4:=⟨rfl⟩
instance aTk:hP 2 3 5:=⟨rfl⟩
instance aT2:hP 2 4 6:=⟨rfl⟩
instance aRx:hP 2 5 7:=⟨rfl⟩
instance aTw:hP 3 1 4:=⟨rfl⟩
instance aSs:hP 3 2 5:=⟨rfl⟩
instance aSa:hP 3 3 6:=⟨rfl⟩
instance aS6:hP 3 4 7:=⟨rfl⟩
instance aRv:hP 3 5 8:=⟨rfl⟩
instance aR2:hP 4 1 5:=⟨rfl⟩
instance aSy:hP 4 2 6:=⟨rfl⟩
instance aR1:hP 4 3 7:=⟨rfl⟩
instance aSw:hP 4 4 8:=⟨rfl⟩
instance aTt:hP 4 5 9:=⟨rfl⟩
instance aSj:hP 5 1 6:=⟨rfl⟩
instance aSz:hP 5 2 7:=⟨rfl⟩
instance aTg:hP 5 3 8:=⟨rfl⟩
instance aR9:hP 5 4 9:=⟨rfl⟩
instance aTb:hP 5 5 10:=⟨rfl⟩
instance aS4:hP 6 1 7:=⟨rfl⟩
instance aT5:hP 6 2 8:=⟨rfl⟩
instance aSt:hP 6 3 9:=⟨rfl⟩
instance aS5:hP 6 4 10:=⟨rfl⟩
instance aSl:hP 6 5 11:=⟨rfl⟩
instance aSu:hP 7 1 8:=⟨rfl⟩
instance aTz:hP 7 2 9:=⟨rfl⟩
instance aTl:hP 7 3 10:=⟨rfl⟩
instance aS3:hP 7 4 11:=⟨rfl⟩
instance aR7:hP 7 5 12:=⟨rfl⟩
instance aR6:hP 8 1 9:=⟨rfl⟩
instance aTy:hP 8 2 10:=⟨rfl⟩
instance aS2:hP 8 3 11:=⟨rfl⟩
instance aR5:hP 8 4 12:=⟨rfl⟩
instance aSe:hP 8 5 13:=⟨rfl⟩
theorem jJ{bx:List Box}{rw:List bA}{Z:List Nat}{b:Nat}[h1:BIn bx b][h2:aLt bx b Z](hn:(⟨bx,rw⟩:Sto).bl.Nodup):b∈lM ⟨bx,rw⟩ Z:=kH.2 ⟨List.mem_append_left _ h1.h,h2.h (List.nodup_append.1 hn).1⟩
theorem kV{P:Program}{U:List Nat}{o:Oper}{st:AS}{x:Operand}{t e E:TypeId}{v:Value}{z n:Nat}{cs:List AC}(A:List bA){B:List bA}(ho:o.op=.call {callee:=.builtin .len,args:=#[x],argTypes:=#[t]})(hx:evA st x=some (.c (.val v)))(hrow:st.s.rows=A++⟨v,E,z,n,cs⟩::B)(hu:∀w,(underlying t).run P w=.ok (.slice e) w)(hz:0<z:=by decide):AY P U o st (.c (.val (.int .i64 n))):=
 fW rfl fun a w hs w'=>by
  obtain ⟨us,hownR,-⟩:=hs.mem.row ⟨v,E,z,n,cs⟩ (by rw [hrow];simp)
  have hown:=hownR.row hz
  have hv:∃p c,v=.slice p n c:=by
   rcases hown.2 with ⟨h1,h2⟩|⟨g,cap,cur,h1,-⟩
   ·dsimp only at h1 h2;subst h2;exact ⟨_,_,h1⟩
   exact ⟨_,_,h1⟩
  obtain ⟨p,c,rfl⟩:=hv
  simp only [execOp,ho,resolve,List.map_toArray,List.map_cons,List.map_nil,hs.val hx]
  simp [go_sem,invoke,builtin,Builtin.len_,hu,goInt]
class aL0 (bx:List Box) (Z:List Nat):Prop where h:∀z,z∈Z -> z∈bx.map Box.b
instance aTn{bx:List Box}:aL0 bx []:=⟨by simp⟩
instance aRr{bx:List Box}{z:Nat}{Z:List Nat}[h1:BIn bx z][h2:aL0 bx Z]:aL0 bx (z::Z):=⟨fun y hy=>by rcases mem_cons.1 hy with rfl|h;exact h1.h;exact h2.h _ h⟩
theorem qW{bx:List Box}{rw:List bA}{Z:List Nat}{v:Value}{E:TypeId}{z n b:Nat}{cs:List AC}[h1:aL0 bx Z](hn:(⟨bx,⟨v,E,z,n,cs⟩::rw⟩:Sto).bl.Nodup)(hb:b∈aY v):b∈lM ⟨bx,⟨v,E,z,n,cs⟩::rw⟩ Z:=by
 have h3:b∈(⟨v,E,z,n,cs⟩::rw:List bA).flatMap fun r=>aY r.v:=by simp [hb]
 refine kH.2 ⟨List.mem_append_right _ h3,fun hz=>?_⟩
 exact (List.nodup_append.1 hn).2.2 b (h1.h b hz) b h3 rfl
theorem aE1{P:Program}{ops:Array Oper}{n:Nat}{T:List Nat}{bx:List Box}{rw:List bA}{ts:List (Nat×AT)}{Q:Exit -> AS -> Prop}{l:List Oper}(i:Nat){v:Value}{E:TypeId}{z k:Nat}{cs:List AC}(hi:look ts i=some (.c (.val v)))(h:eQ P ops l ⟨n,T,⟨bx,rw⟩,(i,.c (.sl k cs))::ts⟩ Q)(hz:0<z:=by decide):eQ P ops l ⟨n,T,⟨bx,⟨v,E,z,k,cs⟩::rw⟩,ts⟩ Q:=
 uQ (yS (st:=⟨n,T,⟨bx,⟨v,E,z,k,cs⟩::rw⟩,ts⟩) (A:=[]) i hi rfl hz) h
end
section
open Go.RowKit
section
variable {P:Program}{ops:Array Oper}{U T:List Nat}{o:Oper}{n d:Nat}{bx:List Box}{rw:List bA}{ts:List (Nat×AT)}{Q:Exit -> AS -> Prop}{l:List Oper}{K:AS -> Prop}{st:AS}{t:AT}
theorem rV{s:Sto}{w:World}(hm:Mem s w){r:bA}(hr:r∈s.rows)(hn:0<r.n)(hz:0<r.z):∃g cap,r.v=.slice (some ⟨g,0,none⟩) r.n cap:=by
 obtain ⟨us,h0,-⟩:=hm.row r hr
 obtain ⟨h1,h2⟩:=h0.row hz
 rcases h2 with ⟨-,h2⟩|⟨g,cap,cur,h2,-⟩
 ·omega
 exact ⟨g,cap,h2⟩
theorem aF1(A:List bA){B:List bA}{v:Value}{E:TypeId}{z k:Nat}{cs:List AC}(hk:0<k)(h:∀g cap,v=.slice (some ⟨g,0,none⟩) k cap -> eQ P ops l ⟨n,T,⟨bx,A++⟨v,E,z,k,cs⟩::B⟩,ts⟩ Q)(hz:0<z:=by decide):eQ P ops l ⟨n,T,⟨bx,A++⟨v,E,z,k,cs⟩::B⟩,ts⟩ Q:=fun a w hs QQ hQ=>by
 obtain ⟨g,cap,hv⟩:=rV hs.mem (r:=⟨v,E,z,k,cs⟩) (by simp) hk hz
 exact h g cap hv a w hs QQ hQ
theorem aEw(A:List bA){c:Code}{B:List bA}{v:Value}{E:TypeId}{z k:Nat}{cs:List AC}(hk:0<k)(h:∀g cap,v=.slice (some ⟨g,0,none⟩) k cap -> AWp P c ⟨n,T,⟨bx,A++⟨v,E,z,k,cs⟩::B⟩,ts⟩ Q)(hz:0<z:=by decide):AWp P c ⟨n,T,⟨bx,A++⟨v,E,z,k,cs⟩::B⟩,ts⟩ Q:=fun a w hs QQ hQ=>by
 obtain ⟨g,cap,hv⟩:=rV hs.mem (r:=⟨v,E,z,k,cs⟩) (by simp) hk hz
 exact h g cap hv a w hs QQ hQ
theorem rM{E E0:TypeId}{x:Operand}{g off z zz k cap:Nat}{cs:List AC}{ag:Bool}(A:List bA){B:List bA}(ho:o.op=.load E x)(hx:evA st x=some (.c (.val (.pointer (some ⟨g,off,none⟩)))))(hrow:st.s.rows=A++⟨.slice (some ⟨g,0,none⟩) k cap,E0,zz,k,cs⟩::B)
  (hA:∀w,(isAgg E).run P w=.ok ag w) (hS:∀w,(sizeOf E).run P w=.ok z w) (hp:pk ag z cs off=some t) (hU:st.s.bl.Nodup -> g∉U):AY P U o st t:=by
 intro a w hs hU2
 obtain ⟨us,hownR,h2⟩:=hs.mem.row ⟨.slice (some ⟨g,0,none⟩) k cap,E0,zz,k,cs⟩ (by rw [hrow];simp)
 have hown:=hownR.row0 rfl
 obtain ⟨h3,h4⟩:=hown
 rcases h4 with ⟨h4,-⟩|⟨g',cap',cur,hv,-,hh,hk,hcm,hcs,htk⟩
 ·cases h4
 cases hv
 obtain ⟨v,hv,hl⟩:=pR (P:=P) (b:=g) (o:=0) hA hS h2 hp
 refine ⟨v,hv,fun w' hkp=>?_⟩
 have hlt:g<w.heap.size:=hs.mem.lt g (List.mem_append_right _ (by rw [hrow];simp [aY,Value.ownBlock]))
 have hb:=hkp.block g hlt (hU hs.mem.nodup)
 have hl2:=hl w' (fun j u hj=>by
  unfold World.cell?
  simp only [hb,hh]
  have h9:(cur.toList.take (k*zz))[j]?=some u:=by rw [htk];exact hj
  rw [List.getElem?_take] at h9
  split at h9
  ·simpa using h9
  cases h9)
 simp only [Nat.zero_add] at hl2
 simp only [execOp,ho,hs.val hx,Instr.loadAt,Instr.sureAddr,Sem.run_bind,Sem.run_pure,Result.andThen_ok]
 rw [hl2];rfl
theorem aTr{E e:TypeId}{z:Nat}(ho:o.op=.buildSlice E 0 #[])(hd:o.dst=some d)(hn:d<n)(hu:P.underlying E=some (.slice e))(hS:∀w,(sizeOf e).run P w=.ok z w)
  (h:∀g,K ⟨n,g::T,⟨bx,⟨.slice (some ⟨g,0,none⟩) 0 0,e,z,0,[]⟩::rw⟩,(d,.c (.val (.slice (some ⟨g,0,none⟩) 0 0)))::ts⟩):AO P U o ⟨n,T,⟨bx,rw⟩,ts⟩ K:=by
 intro a w hs KK QQ hK
 unfold Oper.wp
 have hrun:(execOp a.eval o).run P w=.ok (.value (.slice (some ⟨w.heap.size,0,none⟩) 0 0)) (w.alloc (.cells #[] e)):=by
  have h1:(underlying E).run P w=.ok (.slice e) w:=run_underlying hu w
  have h2:(sizeOf e).run P w=.ok z w:=hS w
  simp only [execOp,ho,Instr.buildSlice,Sem.run_bind,h1,Result.andThen_ok,h2,Nat.zero_mul]
  simp [go_sem,Instr.fill,newRow]
 rw [hrun,Oper.upon_value,hd]
 have hk:cW [] w (w.alloc (.cells #[] e)):=(cW.refl _ _).alloc _
 have hne:w.heap.size∉(⟨bx,rw⟩:Sto).bl:=fun hm=>by have h9:w.heap.size<w.heap.size:=hs.mem.lt _ hm;omega
 have hbl:(⟨bx,⟨.slice (some ⟨w.heap.size,0,none⟩) 0 0,e,z,0,[]⟩::rw⟩:Sto).bl=bx.map Box.b++w.heap.size::rw.flatMap fun r=>aY r.v:=by unfold Sto.bl;simp [aY,Value.ownBlock]
 have hsub:∀b,b∈(⟨bx,⟨.slice (some ⟨w.heap.size,0,none⟩) 0 0,e,z,0,[]⟩::rw⟩:Sto).bl -> b∈(⟨bx,rw⟩:Sto).bl∨w.heap.size <= b:=fun b hb=>by
  rw [hbl] at hb
  simp only [mem_append,mem_cons] at hb
  rcases hb with h|rfl|h
  ·exact .inl (List.mem_append_left _ h)
  ·exact .inr (Nat.le_refl _)
  exact .inl (List.mem_append_right _ h)
 have hup:Up2 (bI (⟨bx,rw⟩:Sto).bl w) (bI (⟨bx,⟨.slice (some ⟨w.heap.size,0,none⟩) 0 0,e,z,0,[]⟩::rw⟩:Sto).bl (w.alloc (.cells #[] e))):=jA hk (fun _ h=>by cases h) hsub
 have hsz:(w.alloc (.cells #[] e)).heap.size=w.heap.size+1:=by simp
 have hm:Mem ⟨bx,⟨.slice (some ⟨w.heap.size,0,none⟩) 0 0,e,z,0,[]⟩::rw⟩ (w.alloc (.cells #[] e)):=by
  refine ⟨?_,fun b hb=>?_,fun x hx=>?_,fun r hr=>?_⟩
  ·rw [hbl]
   have hnd:(bx.map Box.b++rw.flatMap fun r=>aY r.v).Nodup:=hs.mem.nodup
   rw [List.nodup_append] at hnd⊢
   refine ⟨hnd.1,List.nodup_cons.2 ⟨fun h=>hne (List.mem_append_right _ h),hnd.2.1⟩,fun a ha b hb=>?_⟩
   rcases mem_cons.1 hb with rfl|hb
   ·intro he;subst he;exact hne (List.mem_append_left _ ha)
   exact hnd.2.2 a ha b hb
  ·rw [hbl] at hb
   simp only [mem_append,mem_cons] at hb
   rw [hsz]
   rcases hb with h|rfl|h
   ·exact Nat.lt_succ_of_lt (hs.mem.lt b (List.mem_append_left _ h))
   ·exact Nat.lt_succ_self _
   exact Nat.lt_succ_of_lt (hs.mem.lt b (List.mem_append_right _ h))
  ·obtain ⟨us,e1,e2⟩:=hs.mem.box x hx
   exact ⟨us,by rw [hk.block _ (hs.mem.lt _ (List.mem_append_left _ (List.mem_map.2 ⟨x,hx,rfl⟩))) (by simp)];exact e1,e2.mono hup⟩
  rcases mem_cons.1 hr with rfl|hr
  ·refine ⟨[],.inl ⟨by simp,.inr ⟨w.heap.size,0,#[],rfl,Nat.zero_le _,?_,Nat.le_refl _,Nat.zero_le _,by simp,by simp⟩⟩,.nil _⟩
   show (w.heap.push _)[w.heap.size]?=_
   simp
  obtain ⟨us,e1,e2⟩:=hs.mem.row r hr
  exact ⟨us,e1.keep fun g hg=>hk.block g (hs.mem.lt g (List.mem_append_right _ (List.mem_flatMap.2 ⟨r,hr,hg⟩))) (by simp),e2.mono hup⟩
 have s1:=hs.step (st:=⟨n,T,⟨bx,rw⟩,ts⟩) (w.heap.size::T) (hk.mono (by simp)) hm hsub
 refine hK _ _ _ (h _) (s1.put (v:=.slice (some ⟨w.heap.size,0,none⟩) 0 0) hn (.c _ _ (.val _ rfl))) ⟨hk.mono (by simp),hk.mono (by simp),hsub,fun b hb=>?_⟩ (hk.mono (by simp))
 rcases mem_cons.1 hb with rfl|hb
 ·exact .inr (Nat.le_refl _)
 exact .inl hb
end
end
section
open Go.RowKit
theorem kB{a b:Bool}(h:a=true↔b=true):Ending.returned (.bool a)=.returned (.bool b):=by rw [Bool.eq_iff_iff.2 h]
theorem gG{k:IntKind}{a b:Int}(h:a=b):Ending.returned (.int k a)=.returned (.int k b):=by rw [h]
theorem sB(c:UInt8)(w:World):
  Calls prog 94 #[.int .u8 c.toNat] w fun e w'=>e=.returned (.bool (isSp c)) /\ w=w':=by
 unfold isSp
 generalize (c.toNat:Int)=n
 go_enter func94,Tryz.ntmps94
 go_wp2
 all_goals (go_ret;refine ⟨kB ?_,rfl⟩;simp;try omega)
theorem qG(c:UInt8)(w:World):
  Calls prog 97 #[.int .u8 c.toNat] w fun e w'=>e=.returned (.bool (fU c)) /\ w=w':=by
 unfold fU
 generalize (c.toNat:Int)=n
 go_enter func97,Tryz.ntmps97
 go_wp2
 all_goals (go_ret;refine ⟨kB ?_,rfl⟩;simp;try omega)
theorem oV(c:UInt8)(w:World):
  Calls prog 99 #[.int .u8 c.toNat] w fun e w'=>e=.returned (.bool (cD c)) /\ w=w':=by
 unfold cD
 generalize (c.toNat:Int)=n
 go_enter func99,Tryz.ntmps99
 go_wp2
 all_goals (go_ret;refine ⟨kB ?_,rfl⟩;simp;try omega)
theorem tC(c:UInt8)(w:World):
  Calls prog 139 #[.int .u8 c.toNat] w fun e w'=>e=.returned (.bool (cT c)) /\ w=w':=by
 go_enter func139,Tryz.ntmps139
 go_wp2_with (first|(go_at_call 97;refine (qG _ _).mono ?_;rintro e w' ⟨rfl,rfl⟩)|(go_at_call 99;refine (oV _ _).mono ?_;rintro e w' ⟨rfl,rfl⟩))
 all_goals (go_ret;refine ⟨kB ?_,rfl⟩;simp [cT, *])
theorem oK(s p:ByteArray)(w:World):
  Calls prog 95 #[.string s,.string p] w fun e w'=>e=.returned (.bool (Lib.hasPrefix s.data.toList p.data.toList)) /\ w=w':=
 (Tryz.strings_HasPrefix s p w).mono fun _ _ h=>⟨h.1,h.2.symm⟩
theorem oL(s:ByteArray)(c:Int)(w:World):
  Calls prog 96 #[.string s,.int .u8 c] w fun e w'=>e=.returned (.int .i64 (Lib.indexByte s.data.toList c.toNat.toUInt8)) /\ w=w':=
 (Tryz.strings_IndexByte s c w).mono fun _ _ h=>⟨h.1,h.2.symm⟩
theorem uH(s:ByteArray)(k0:Nat)(w:World)(hs:s.size <= 9223372036854775807)(hk:k0 <= s.size):
  Calls prog 63 #[.string s,.int .i64 k0] w fun e w'=>e=.returned (.int .i64 (bF s.data.toList k0)) /\ w=w':=by
 have hlen:s.data.toList.length=s.size:=rfl
 go_enter func63,Tryz.ntmps63
 go_wp2_with fail
 go_loop [1,5] (fun v _=>∃k:Nat,k <= s.size /\ v=.int .i64 k /\ bF s.data.toList k=bF s.data.toList k0) (fun v _=>s.size-(intOf v).toNat)
 case atStart=>exact ⟨k0,hk,rfl,rfl⟩
 case round=>
  obtain ⟨k,hk,rfl,hr⟩:=hrel
  have HR:=Lib.hid hr;clear hr
  have HL:=Lib.hid hlen;clear hlen
  by_cases hlt:k<s.size
  ·by_cases hsp:isSp s[k]=true
   ·go_wp2_with (first|(go_at_call 94;refine (sB _ _).mono ?_;rintro e w' ⟨rfl,rfl⟩))
    go_round
    case rel=>exact ⟨k+1,by omega,by go_num,(aGh _ _ (by rw [HL.out];exact hlt) hsp).trans HR.out⟩
    case measure=>simp [intOf];omega
   have hsp':isSp s[k]=false:=by simpa using hsp
   clear hsp
   by_cases hc:Lib.hasPrefix (s.data.toList.drop k) [47,47]=true
   ·have hcom:=aJa _ _ (by rw [HL.out];exact hlt) hc
    have HC:=Lib.hid hcom;clear hcom
    have htk:List.take (s.size-k) (List.drop k s.data.toList)=List.drop k s.data.toList:=take_of_length_le (by simp)
    by_cases hn:Lib.indexByte (s.data.toList.drop k) 10<0
    ·go_wp2_with (first|(go_at_call 94;refine (sB _ _).mono ?_;rintro e w' ⟨rfl,rfl⟩)|(go_at_call 95;refine (oK _ _ _).mono ?_;rintro e w' ⟨rfl,rfl⟩)|(go_at_call 96;refine (oL _ _ _).mono ?_;rintro e w' ⟨rfl,rfl⟩))
     go_ret
     exact ⟨gG (by rw [←HR.out,HC.out.1 hn,HL.out]),rfl⟩
    obtain ⟨j,hj⟩:∃j:Nat,Lib.indexByte (s.data.toList.drop k) 10=j:=⟨(Lib.indexByte (s.data.toList.drop k) 10).toNat,by omega⟩
    obtain ⟨h1,h2,h3⟩:=HC.out.2 j hj
    rw [HL.out] at h2
    have H1:=Lib.hid h1;clear h1
    clear hn
    go_wp2_with (first|(go_at_call 94;refine (sB _ _).mono ?_;rintro e w' ⟨rfl,rfl⟩)|(go_at_call 95;refine (oK _ _ _).mono ?_;rintro e w' ⟨rfl,rfl⟩)|(go_at_call 96;refine (oL _ _ _).mono ?_;rintro e w' ⟨rfl,rfl⟩))
    go_round
    case rel=>exact ⟨k+j,by omega,by go_num,H1.out.trans HR.out⟩
    case measure=>simp [intOf];omega
   have hc':Lib.hasPrefix (s.data.toList.drop k) [47,47]=false:=by simpa using hc
   have hstop:bF s.data.toList k=k:=by
    refine zX _ _ (by rw [HL.out];exact hlt) hsp' ?_
    rintro ⟨h1,h2⟩
    apply hc
    rw [sZ,dR _ _ (by rw [HL.out];exact hlt),h1]
    cases hd:s.data.toList.drop (k+1) with
    |nil=>simp [hd] at h2
    |cons a r=>rw [hd] at h2;simp at h2;subst h2;exact ⟨r,rfl⟩
   have HS:=Lib.hid hstop;clear hstop
   clear hc
   have htk:List.take (s.size-k) (List.drop k s.data.toList)=List.drop k s.data.toList:=take_of_length_le (by simp)
   go_wp2_with (first|(go_at_call 94;refine (sB _ _).mono ?_;rintro e w' ⟨rfl,rfl⟩)|(go_at_call 95;refine (oK _ _ _).mono ?_;rintro e w' ⟨rfl,rfl⟩))
   go_ret
   exact ⟨gG (by rw [←HR.out,HS.out]),rfl⟩
  go_wp2_with fail
  go_ret
  exact ⟨gG (by rw [←HR.out,aA5 _ _ (by rw [HL.out];omega),HL.out];omega),rfl⟩
theorem lH(p:UInt8 -> Bool)(l:List UInt8)(k:Nat)(hk:k<l.length)(h:(l.takeWhile p).length=k+((l.drop k).takeWhile p).length):
  (p l[k]=true -> (l.takeWhile p).length=(k+1)+((l.drop (k+1)).takeWhile p).length) /\ (p l[k]=false -> (l.takeWhile p).length=k):=by
 rw [dR l k hk] at h
 refine ⟨fun hp=>?_,fun hp=>?_⟩
 ·rw [List.takeWhile_cons_of_pos hp] at h;simp at h;omega
 rw [List.takeWhile_cons_of_neg (by simp [hp])] at h;simpa using h
theorem aI6(s:ByteArray)(w:World)(hs:s.size <= 9223372036854775807):
  Calls prog 138 #[.string s,.func (.func 99) #[] #[]] w fun e w'=>e=.returned (.int .i64 (s.data.toList.takeWhile cD).length) /\ w=w':=by
 have HL:=Lib.hid (show s.data.toList.length=s.size from rfl)
 go_enter func138,Tryz.ntmps138
 go_wp2_with fail
 go_loop [5] (fun v=>∃k:Nat,k <= s.size /\ v=.int .i64 k /\ (s.data.toList.takeWhile cD).length=k+((s.data.toList.drop k).takeWhile cD).length) (fun v=>s.size-(intOf v).toNat)
 case atStart=>exact ⟨0,by omega,rfl,by simp⟩
 case round=>
  obtain ⟨k,hk,rfl,hr⟩:=hrel
  by_cases hlt:k<s.size
  ·have HT:=Lib.hid (lH cD s.data.toList k (by rw [HL.out];exact hlt) hr);clear hr
   by_cases hp:cD s[k]=true
   ·go_wp2_with (first|(go_at_call 99;refine (oV _ _).mono ?_;rintro e w' ⟨rfl,rfl⟩))
    go_round
    case rel=>exact ⟨k+1,by omega,by go_num,HT.out.1 hp⟩
    case measure=>simp [intOf];omega
   have hp':cD s[k]=false:=by simpa using hp
   clear hp
   go_wp2_with (first|(go_at_call 99;refine (oV _ _).mono ?_;rintro e w' ⟨rfl,rfl⟩))
   go_ret
   exact ⟨gG (by rw [HT.out.2 hp']),rfl⟩
  have HR:=Lib.hid hr;clear hr
  go_wp2_with fail
  go_ret
  refine ⟨gG ?_,rfl⟩
  rw [HR.out,List.drop_eq_nil_of_le (by rw [HL.out];omega)];rfl
theorem aM0(s:ByteArray)(w:World)(hs:s.size <= 9223372036854775807):
  Calls prog 138 #[.string s,.func (.func 139) #[] #[]] w fun e w'=>e=.returned (.int .i64 (s.data.toList.takeWhile cT).length) /\ w=w':=by
 have HL:=Lib.hid (show s.data.toList.length=s.size from rfl)
 go_enter func138,Tryz.ntmps138
 go_wp2_with fail
 go_loop [5] (fun v=>∃k:Nat,k <= s.size /\ v=.int .i64 k /\ (s.data.toList.takeWhile cT).length=k+((s.data.toList.drop k).takeWhile cT).length) (fun v=>s.size-(intOf v).toNat)
 case atStart=>exact ⟨0,by omega,rfl,by simp⟩
 case round=>
  obtain ⟨k,hk,rfl,hr⟩:=hrel
  by_cases hlt:k<s.size
  ·have HT:=Lib.hid (lH cT s.data.toList k (by rw [HL.out];exact hlt) hr);clear hr
   by_cases hp:cT s[k]=true
   ·go_wp2_with (first|(go_at_call 139;refine (tC _ _).mono ?_;rintro e w' ⟨rfl,rfl⟩))
    go_round
    case rel=>exact ⟨k+1,by omega,by go_num,HT.out.1 hp⟩
    case measure=>simp [intOf];omega
   have hp':cT s[k]=false:=by simpa using hp
   clear hp
   go_wp2_with (first|(go_at_call 139;refine (tC _ _).mono ?_;rintro e w' ⟨rfl,rfl⟩))
   go_ret
   exact ⟨gG (by rw [HT.out.2 hp']),rfl⟩
  have HR:=Lib.hid hr;clear hr
  go_wp2_with fail
  go_ret
  refine ⟨gG ?_,rfl⟩
  rw [HR.out,List.drop_eq_nil_of_le (by rw [HL.out];omega)];rfl
end
section
open Go.RowKit
structure Env (w:World):Prop where
 words:∀j,j<words.length -> w.cell? ⟨0,0+j,none⟩=some (.string (words.getD j ByteArray.empty))
 maxLen:∃m:Int,w.cell? ⟨1,0,none⟩=some (.int .i64 m)
 size:Nat.max 0 1+1 <= w.heap.size
theorem Env.below{B:Nat}{w w':World}(h:Env w)(hb:Below B w w')(hB:Nat.max 0 1+1 <= B):Env w':=by
 refine ⟨fun j hj=>?_,?_,Nat.le_trans h.size hb.size⟩
 ·rw [hb.cell (p:=⟨0,0+j,none⟩) (Nat.lt_of_lt_of_le (by decide:0<Nat.max 0 1+1) hB)];exact h.words j hj
 rw [hb.cell (p:=⟨1,0,none⟩) (Nat.lt_of_lt_of_le (by decide:1<Nat.max 0 1+1) hB)];exact h.maxLen
theorem Env.alloc{w:World}(h:Env w)(o:Obj):Env (w.alloc o):=h.below ((Below.refl w.heap.size w).alloc (Nat.le_refl _) o) h.size
theorem Env.drew{w:World}(h:Env w):Env w.drew:=h.below ((Below.refl w.heap.size w).drew) h.size
theorem Env.setCell{w:World}(h:Env w){a:Addr}(ha:Nat.max 0 1+1 <= a.block)(u:Value):Env (w.setCell a u):=h.below ((Below.refl (Nat.max 0 1+1) w).setCell ha u) (Nat.le_refl _)
theorem yL(s:ByteArray)(w:World)(he:Env w):
  Calls prog 166 #[.slice (some ⟨0,0,none⟩) 11 11,.string s] w fun e w'=>e=.returned (.bool (dA s)) /\ w=w':=by
 refine (Tryz.slices_Contains_string 0 0 11 11 words s w (by decide) (by decide) he.words).mono fun e w' h=>⟨?_,h.2.symm⟩
 rw [h.1]
 refine kB ?_
 rw [Lib.containsS_iff,mK];rfl
theorem aC5(s:ByteArray)(w:World)(he:Env w):
  Calls prog 140 #[.string s] w fun e w'=>e=.returned (.bool (dA s)) /\ w=w':=by
 go_enter func140,Tryz.ntmps140
 go_wp2_with (first|(go_at_call 166;refine (yL _ _ he).mono ?_;rintro e w' ⟨rfl,rfl⟩))
 go_ret
 exact ⟨rfl,rfl⟩
theorem nZ(s:ByteArray)(p:UInt8 -> Bool):s.extract 0 (s.data.toList.takeWhile p).length=bytes (s.data.toList.takeWhile p):=by
 have:=ByteArray.extract_mk s.data.toList 0 (s.data.toList.takeWhile p).length
 rw [show (ByteArray.mk s.data.toList.toArray)=s from by simp] at this
 rw [this,bytes,List.drop_zero,Nat.sub_zero]
 congr 2
 conv=>rhs;rw [List.takeWhile_eq_take_findIdx_not]
 rw [List.takeWhile_eq_take_findIdx_not,List.length_take,List.take_eq_take_iff];omega
theorem aMr(s:ByteArray)(w:World)(hs:s.size <= 9223372036854775807)(he:Env w):
  Calls prog 98 #[.string s] w fun e w'=>e=.returned (.tuple #[.agg #[.int .i64 ((if dA (bytes (s.data.toList.takeWhile cT)) then 3 else 1:Nat):Int),.string (bytes (s.data.toList.takeWhile cT)),.int .i64 0,.int .i64 0],.int .i64 ((if 16<(s.data.toList.takeWhile cT).length then 3 else 0:Nat):Int)]) /\ Below w.heap.size w w':=by
 have hle:(s.data.toList.takeWhile cT).length <= s.size:=(List.takeWhile_sublist _).length_le
 have hx:=nZ s cT
 have hsz:(bytes (s.data.toList.takeWhile cT)).size=(s.data.toList.takeWhile cT).length:=by simp [bytes,ByteArray.size]
 go_enter func98,Tryz.ntmps98
 go_wp2_with (first|(go_at_call 138;refine (aM0 _ _ hs).mono ?_;rintro e w' ⟨rfl,rfl⟩)|(go_at_call 140;refine (aC5 _ _ ((he.alloc _).alloc _)).mono ?_;rintro e w' ⟨rfl,rfl⟩))
 all_goals (go_returns;refine ⟨?_,by go_grown⟩)
 all_goals first|rfl|(rw [if_pos (by omega)];rfl)|(rw [if_neg (by omega)];rfl)
theorem aJc(t:ByteArray)(k n:Nat)(hk:k<t.size)(h:iT 0 t.data.toList=iT n (t.data.toList.drop k)):
  ((9223372036854775807-(t[k].toNat-48))/10<n -> iT 0 t.data.toList=none) /\ (¬(9223372036854775807-(t[k].toNat-48))/10<n -> iT 0 t.data.toList=iT (10*n+(t[k].toNat-48)) (t.data.toList.drop (k+1))):=by
 rw [dR _ k (by exact hk),iT] at h
 refine ⟨fun hn=>?_,fun hn=>?_⟩
 ·rw [h];exact if_pos hn
 rw [h];exact if_neg hn
def aXp(t:ByteArray)(e:Ending):Prop:=∃n:Nat,(n:Int) <= 9223372036854775807 /\ ((iT 0 t.data.toList=none /\ e=.returned (.tuple #[.agg #[.int .i64 2,.string t,.int .i64 n,.int .i64 0],.int .i64 2]))∨(iT 0 t.data.toList=some n /\ e=.returned (.tuple #[.agg #[.int .i64 2,.string t,.int .i64 n,.int .i64 0],.int .i64 0])))
theorem aHi(s:ByteArray)(w:World)(hs:s.size <= 9223372036854775807):
  Calls prog 100 #[.string s] w fun e w'=>aXp (bytes (s.data.toList.takeWhile cD)) e /\ Below w.heap.size w w':=by
 have hle:(s.data.toList.takeWhile cD).length <= s.size:=(List.takeWhile_sublist _).length_le
 have hx:=nZ s cD
 have hsz:(bytes (s.data.toList.takeWhile cD)).size=(s.data.toList.takeWhile cD).length:=by simp [bytes,ByteArray.size]
 have hall:∀c∈(bytes (s.data.toList.takeWhile cD)).data.toList,cD c=true:=by
  intro c hc;simp only [bytes] at hc;exact (List.all_eq_true.1 (List.all_takeWhile (p:=cD) (l:=s.data.toList))) c hc
 generalize hm:(s.data.toList.takeWhile cD).length=m at *
 generalize ht:bytes (s.data.toList.takeWhile cD)=t at *
 have HM:=Lib.hid hm
 have HT:=Lib.hid ht
 have HA:=Lib.hid hall
 have HX:=Lib.hid hx
 clear hm ht hall
 subst hsz
 go_enter func100,Tryz.ntmps100
 go_wp2_with (first|(go_at_call 138;refine (aI6 _ _ hs).mono ?_;rintro e w' ⟨rfl,rfl⟩;rw [HM.out]))
 go_loopw [15] (fun v wr=>∃k n:Nat,k <= t.size /\ v=.int .i64 k /\ n <= 9223372036854775807 /\ iT 0 t.data.toList=iT n (t.data.toList.drop k) /\ wr=(w.alloc (Obj.cells #[Value.int IntKind.i64 0,Value.string {data:=#[]},Value.int IntKind.i64 0,Value.int IntKind.i64 0] 66)).alloc (Obj.cells #[Value.int IntKind.i64 2,Value.string t,Value.int IntKind.i64 n,Value.int IntKind.i64 0] 66)) (fun v _=>t.size-(intOf v).toNat)
 case atStart=>exact ⟨0,0,by omega,rfl,by omega,rfl,rfl⟩
 case round=>
  obtain ⟨k,n,hk,rfl,hn,hv,rfl⟩:=hrel
  by_cases hlt:k<t.size
  ·have hst:=aJc t k n hlt hv
   have hd:cD t[k]=true:=HA.out _ (by simp [ByteArray.getElem_eq_getElem_data])
   have HS:=Lib.hid hst
   clear hst hv
   simp only [cD,decide_eq_true_eq] at hd
   obtain ⟨hd1,hd2⟩:=hd
   by_cases hov:(9223372036854775807-(t[k].toNat-48))/10<n
   ·have hov':(9223372036854775807-((t[k].toNat:Int)-48))/10<(n:Int):=by omega
    have HO:=Lib.hid hov
    clear hov
    go_wp2_with fail
    go_returns
    exact ⟨⟨n,by omega,.inl ⟨HS.out.1 HO.out,rfl⟩⟩,by go_grown⟩
   have hov':(n:Int) <= (9223372036854775807-((t[k].toNat:Int)-48))/10:=by omega
   have HO:=Lib.hid hov
   clear hov
   go_wp2_with fail
   go_roundw
   case rel=>exact ⟨k+1,10*n+(t[k].toNat-48),by omega,by go_num,by omega,HS.out.2 HO.out,by congr 5;go_num⟩
   case measure=>simp [intOf];omega
  have HV:=Lib.hid hv
  clear hv
  go_wp2_with fail
  go_returns
  refine ⟨⟨n,by omega,.inr ⟨?_,rfl⟩⟩,by go_grown⟩
  rw [HV.out,List.drop_eq_nil_of_le (by show t.size <= k;omega),iT]
theorem nT(sub:ByteArray)(w:World)(he:Env w):
  Calls prog 141 #[.string ⟨#[60,61,32,62,61,32,61,61,32,33,61,32,38,38,32,124,124]⟩,.string sub] w fun e w'=>e=.returned (.bool (Lib.contains wG sub.data.toList)) /\ w=w':=by
 obtain ⟨m,hm⟩:=he.maxLen
 exact (Tryz.strings_Contains _ sub m w (by decide) hm).mono fun e w' h=>⟨h.1,h.2.symm⟩
theorem oD(c:UInt8)(w:World):
  Calls prog 96 #[.string ⟨#[40,41,123,125,91,93,44,59,61,43,45,42,47,37,60,62,33]⟩,.int .u8 c.toNat] w fun e w'=>e=.returned (.int .i64 (Lib.indexByte dW c)) /\ w=w':=by
 refine (oL _ _ _).mono fun e w' h=>⟨?_,h.2⟩
 rw [h.1];congr 3;simp
def aE9(s:ByteArray)(n:Nat):Value:=.tuple #[.agg #[.int .i64 (if n=0 then 0 else 4),.string (bytes (s.data.toList.take n)),.int .i64 0,.int .i64 0],.int .i64 (if n=0 then 1 else 0)]
theorem pY(s:ByteArray)(n:Nat):s.extract 0 n=bytes (s.data.toList.take n):=by
 have:=ByteArray.extract_mk s.data.toList 0 n
 rw [show (ByteArray.mk s.data.toList.toArray)=s from by simp] at this
 rw [this,bytes,List.drop_zero,Nat.sub_zero]
theorem jR(l:List UInt8):(bytes l).data.toList=l:=by simp [bytes]
theorem aLh(s:ByteArray)(w:World)(he:Env w)(h2:1<s.size)(h0:((s[0].toNat:Int) == 32)=false)(h1:((s[1].toNat:Int) == 32)=false)(hc:Lib.contains wG (s.data.toList.take 2)=true):
  Calls prog 101 #[.string s] w fun e w'=>e=.returned (aE9 s 2) /\ Below w.heap.size w w':=by
 have h0':((s[0].toNat:Int) != 32)=true:=by simp at h0⊢;exact h0
 have h1':((s[1].toNat:Int) != 32)=true:=by simp at h1⊢;exact h1
 have h2':(1:Int)<s.size:=by omega
 have hx:=pY s 2
 have hbd:=jR (s.data.toList.take 2)
 go_enter func101,Tryz.ntmps101
 go_wp2_with (first|(go_at_call 141;refine (nT _ _ (he.alloc _)).mono ?_;rintro e w' ⟨rfl,rfl⟩))
 go_returns
 exact ⟨rfl,by go_grown⟩
inductive aH1 (s:ByteArray):Prop
 |short (h:(s.size:Int) <= 1)
 |first (h2:(1:Int)<s.size) (h0:0<s.size) (h:((s[0].toNat:Int) != 32)=false)
 |second (h2:(1:Int)<s.size) (h3:1<s.size) (h0:((s[0].toNat:Int) != 32)=true) (h:((s[1].toNat:Int) != 32)=false)
 |other (h2:(1:Int)<s.size) (h3:1<s.size) (h0:((s[0].toNat:Int) != 32)=true) (h1:((s[1].toNat:Int) != 32)=true) (hc:Lib.contains wG (s.data.toList.take 2)=false)
theorem aK7(s:ByteArray)(w:World)(he:Env w)(h2:0<s.size)(hn:aH1 s)(hb:0 <= Lib.indexByte dW s[0]):
  Calls prog 101 #[.string s] w fun e w'=>e=.returned (aE9 s 1) /\ Below w.heap.size w w':=by
 have hx:=pY s 1
 cases hn
 all_goals
  go_enter func101,Tryz.ntmps101
  go_wp2_with (first|(go_at_call 141;refine (nT _ _ (he.alloc _)).mono ?_;rintro e w' ⟨rfl,rfl⟩)|(go_at_call 96;refine (oD _ _).mono ?_;rintro e w' ⟨rfl,rfl⟩))
  go_returns
  exact ⟨rfl,by go_grown⟩
theorem aKr(s:ByteArray)(w:World)(he:Env w)(h2:0<s.size)(hn:aH1 s)(hb:Lib.indexByte dW s[0]<0):
  Calls prog 101 #[.string s] w fun e w'=>e=.returned (aE9 s 0) /\ Below w.heap.size w w':=by
 have hx:=pY s 1
 cases hn
 all_goals
  go_enter func101,Tryz.ntmps101
  go_wp2_with (first|(go_at_call 141;refine (nT _ _ (he.alloc _)).mono ?_;rintro e w' ⟨rfl,rfl⟩)|(go_at_call 96;refine (oD _ _).mono ?_;rintro e w' ⟨rfl,rfl⟩))
  go_returns
  exact ⟨rfl,by go_grown⟩
theorem aHm(c:UInt8):(c≠32 -> ((c.toNat:Int) != 32)=true) /\ (c=32 -> ((c.toNat:Int) != 32)=false):=by
 refine ⟨fun h=>?_,fun h=>by subst h;rfl⟩
 simp only [bne_iff_ne,ne_eq]
 intro h3;apply h;apply UInt8.toNat_inj.1;show c.toNat=32;omega
theorem aLp(s:ByteArray)(w:World)(he:Env w)(h0:0<s.size):
  Calls prog 101 #[.string s] w fun e w'=>e=.returned (aE9 s (jE s.data.toList)) /\ Below w.heap.size w w':=by
 have hl:s.data.toList.length=s.size:=rfl
 have hcons:=dR s.data.toList 0 (by omega)
 rw [List.drop_zero] at hcons
 have key:aH1 s /\ ¬(2 <= s.data.toList.length /\ s.data.toList.take 2∈fE) -> Calls prog 101 #[.string s] w fun e w'=>e=.returned (aE9 s (jE s.data.toList)) /\ Below w.heap.size w w':=by
  rintro ⟨hn,hm⟩
  by_cases hb:Lib.indexByte dW s[0]<0
  ·have:=(vL _).1 hb
   rw [show jE s.data.toList=0 from by rw [hcons] at hm⊢;exact tL hm this]
   exact aKr s w he h0 hn hb
  have:s[0]∈dW:=Classical.byContradiction fun h=>hb ((vL _).2 h)
  rw [show jE s.data.toList=1 from by rw [hcons] at hm⊢;exact oR hm this]
  exact aK7 s w he h0 hn (by omega)
 by_cases h2:1<s.size
 ·have e2:s.data.toList.take 2=[s[0],s[1]]:=by
   rw [hcons,dR s.data.toList 1 (by omega)];rfl
  by_cases ha:s[0]=32
  ·refine key ⟨.first (by omega) h0 ((aHm _).2 ha),fun h=>?_⟩
   rw [e2] at h;exact (rK _ _ h.2).1 ha
  by_cases hb:s[1]=32
  ·refine key ⟨.second (by omega) h2 ((aHm _).1 ha) ((aHm _).2 hb),fun h=>?_⟩
   rw [e2] at h;exact (rK _ _ h.2).2 hb
  by_cases hc:Lib.contains wG (s.data.toList.take 2)=true
  ·have hm:s.data.toList.take 2∈fE:=by rw [e2] at hc⊢;exact (aBy _ _ ha hb).1 hc
   rw [pA (by omega) hm]
   have h3:=(aHm _).1 ha
   have h4:=(aHm _).1 hb
   exact aLh s w he h2 (by simp at h3⊢;exact h3) (by simp at h4⊢;exact h4) hc
  refine key ⟨.other (by omega) h2 ((aHm _).1 ha) ((aHm _).1 hb) (by simpa using hc),fun h=>hc ?_⟩
  have hm:=h.2
  rw [e2] at hm⊢;exact (aBy _ _ ha hb).2 hm
 ·exact key ⟨.short (by omega),by rintro ⟨h,_⟩;omega⟩
end
section
open Go.RowKit
theorem tF{W w1:World}(hb:Below W.heap.size W w1):(∀b o,b<W.heap.size -> w1.cell? ⟨b,o,none⟩=W.cell? ⟨b,o,none⟩) /\ (∀b o,b<W.heap.size -> w1.frozen? ⟨b,o,none⟩=W.frozen? ⟨b,o,none⟩):=
 ⟨fun b o h=>hb.cell (p:=⟨b,o,none⟩) h,fun b o h=>hb.frozen (p:=⟨b,o,none⟩) h⟩
def aLn(l:List UInt8)(k num er:Int)(text:ByteArray):Prop:=
 (∃n:Nat,dQ l=.err n /\ er=n /\ n≠0)∨(∃kd len nu:Nat,dQ l=.tok kd len nu /\ er=0 /\ k=kd /\ num=nu /\ text=bytes (l.take len))
def aI3(l:List UInt8)(e:Ending):Prop:=∃(k num er:Int) (text:ByteArray),e=.returned (.tuple #[.agg #[.int .i64 k,.string text,.int .i64 num,.int .i64 0],.int .i64 er]) /\ aLn l k num er text
theorem takeWhile_take{α:Type}(p:α -> Bool)(l:List α):l.take (l.takeWhile p).length=l.takeWhile p:=
 (List.prefix_iff_eq_take.1 (List.takeWhile_prefix p)).symm
theorem kS(s:ByteArray)(h0:0<s.size):s.data.toList=s[0]::s.data.toList.drop 1:=by
 have:=dR s.data.toList 0 (by exact h0)
 rw [List.drop_zero] at this;exact this
theorem aKk(s:ByteArray)(w:World)(hs:s.size <= 9223372036854775807)(he:Env w)(h0:0<s.size)(hl:fU s[0]=true):
  Calls prog 98 #[.string s] w fun e w'=>aI3 s.data.toList e /\ Below w.heap.size w w':=by
 refine (aMr s w hs he).mono fun e w' ⟨h,hb⟩=>⟨⟨_,_,_,_,h,?_⟩,hb⟩
 have hn:=kK (c:=s[0]) (r:=s.data.toList.drop 1) hl
 rw [←kS s h0] at hn
 by_cases h16:16<(s.data.toList.takeWhile cT).length
 ·rw [if_pos h16] at hn;exact .inl ⟨3,hn,by rw [if_pos h16],by omega⟩
 rw [if_neg h16] at hn;exact .inr ⟨_,_,_,hn,by rw [if_neg h16];rfl,rfl,rfl,by rw [takeWhile_take]⟩
theorem aEz(s:ByteArray)(w:World)(hs:s.size <= 9223372036854775807)(h0:0<s.size)(hl:fU s[0]=false)(hd:cD s[0]=true):
  Calls prog 100 #[.string s] w fun e w'=>aI3 s.data.toList e /\ Below w.heap.size w w':=by
 refine (aHi s w hs).mono fun e w' ⟨h,hb⟩=>⟨?_,hb⟩
 obtain ⟨n,_,⟨hn,h⟩|⟨hn,h⟩⟩:=h
 ·refine ⟨_,_,_,_,h,.inl ⟨2,?_,rfl,by omega⟩⟩
  rw [jR] at hn
  rw [kS s h0] at hn;have hq:=nK hl hd hn;rw [←kS s h0] at hq;exact hq
 refine ⟨_,_,_,_,h,.inr ⟨2,(s.data.toList.takeWhile cD).length,n,?_,rfl,rfl,rfl,by rw [takeWhile_take]⟩⟩
 rw [jR] at hn
 rw [kS s h0] at hn;have hq:=lP hl hd hn;rw [←kS s h0] at hq;exact hq
theorem aJ5(s:ByteArray)(w:World)(he:Env w)(h0:0<s.size)(hl:fU s[0]=false)(hd:cD s[0]=false):
  Calls prog 101 #[.string s] w fun e w'=>aI3 s.data.toList e /\ Below w.heap.size w w':=by
 refine (aLp s w he h0).mono fun e w' ⟨h,hb⟩=>⟨?_,hb⟩
 have hn:=iN (c:=s[0]) (r:=s.data.toList.drop 1) hl hd
 rw [←kS s h0] at hn
 by_cases hz:jE s.data.toList=0
 ·rw [if_pos hz] at hn
  rw [hz] at h;exact ⟨_,_,_,_,h,.inl ⟨1,hn,rfl,by omega⟩⟩
 rw [if_neg hz] at hn
 refine ⟨_,_,_,_,h,.inr ⟨_,_,_,hn,by rw [if_neg hz],by rw [if_neg hz];rfl,rfl,rfl⟩⟩
theorem aAf(s:ByteArray)(w:World)(hs:s.size <= 9223372036854775807)(he:Env w)(h0:0<s.size):
  Calls prog 64 #[.string s] w fun e w'=>aI3 s.data.toList e /\ Below w.heap.size w w':=by
 by_cases hl:fU s[0]=true
 ·go_enter func64,Tryz.ntmps64
  go_wp2_with (first|(go_at_call 97;refine (qG _ _).mono ?_;rintro e w' ⟨rfl,rfl⟩)|(go_at_call 98;refine (aKk _ _ hs (he.alloc _) h0 hl).mono ?_;rintro e w' ⟨⟨k,num,er,text,rfl,hR⟩,hb⟩;have HR:=Lib.hid hR;clear hR;obtain ⟨hc,hf⟩:=tF hb))
  refine bodyPost_ret (v:=.tuple #[.agg #[.int .i64 k,.string text,.int .i64 num,.int .i64 0],.int .i64 er]) (by simp [results,Tryz.results64,go_sem,hc]) rfl ?_
  exact ⟨⟨_,_,_,_,rfl,HR.out⟩,((((Below.refl _ _).alloc (Nat.le_refl _) _).trans (hb.mono (by simp))).setCell (by simp) _).setCell (by simp) _|>.setCell (by simp) _|>.setCell (by simp) _⟩
 have hl':fU s[0]=false:=by simpa using hl
 clear hl
 by_cases hd:cD s[0]=true
 ·go_enter func64,Tryz.ntmps64
  go_wp2_with (first|(go_at_call 97;refine (qG _ _).mono ?_;rintro e w' ⟨rfl,rfl⟩)|(go_at_call 99;refine (oV _ _).mono ?_;rintro e w' ⟨rfl,rfl⟩)|(go_at_call 100;refine (aEz _ _ hs h0 hl' hd).mono ?_;rintro e w' ⟨⟨k,num,er,text,rfl,hR⟩,hb⟩;have HR:=Lib.hid hR;clear hR;obtain ⟨hc,hf⟩:=tF hb))
  refine bodyPost_ret (v:=.tuple #[.agg #[.int .i64 k,.string text,.int .i64 num,.int .i64 0],.int .i64 er]) (by simp [results,Tryz.results64,go_sem,hc]) rfl ?_
  exact ⟨⟨_,_,_,_,rfl,HR.out⟩,((((Below.refl _ _).alloc (Nat.le_refl _) _).trans (hb.mono (by simp))).setCell (by simp) _).setCell (by simp) _|>.setCell (by simp) _|>.setCell (by simp) _⟩
 have hd':cD s[0]=false:=by simpa using hd
 clear hd
 go_enter func64,Tryz.ntmps64
 go_wp2_with (first|(go_at_call 97;refine (qG _ _).mono ?_;rintro e w' ⟨rfl,rfl⟩)|(go_at_call 99;refine (oV _ _).mono ?_;rintro e w' ⟨rfl,rfl⟩)|(go_at_call 101;refine (aJ5 _ _ (he.alloc _) h0 hl' hd').mono ?_;rintro e w' ⟨⟨k,num,er,text,rfl,hR⟩,hb⟩;have HR:=Lib.hid hR;clear hR;obtain ⟨hc,hf⟩:=tF hb))
 refine bodyPost_ret (v:=.tuple #[.agg #[.int .i64 k,.string text,.int .i64 num,.int .i64 0],.int .i64 er]) (by simp [results,Tryz.results64,go_sem,hc]) rfl ?_
 exact ⟨⟨_,_,_,_,rfl,HR.out⟩,((((Below.refl _ _).alloc (Nat.le_refl _) _).trans (hb.mono (by simp))).setCell (by simp) _).setCell (by simp) _|>.setCell (by simp) _|>.setCell (by simp) _⟩
end
section
open Go.RowKit
def Tok.cells(t:Tok):List Value:=[.int .i64 t.kind,.string t.text,.int .i64 t.num,.int .i64 t.pos]
def dL(l:List Tok):List Value:=l.flatMap Tok.cells
theorem eP(l:List Tok)(t:Tok):dL l++[.int .i64 t.kind,.string t.text,.int .i64 t.num,.int .i64 t.pos]=dL (l++[t]):=by simp [dL,Tok.cells]
theorem aI5:(prog.info? 66).map (fun i=>(i.zero,i.size,i.bytes))=some (some (.agg #[.int .i64 0,.string ⟨#[]⟩,.int .i64 0,.int .i64 0]),4,40):=by kernel_rfl
theorem aKq{l:List UInt8}{k num er:Int}{text:ByteArray}{n:Nat}(h:aLn l k num er text)(hn:dQ l=.err n):er=n /\ (n:Int)≠0:=by
 rcases h with ⟨m,h1,h2,h3⟩|⟨_,_,_,h1,_⟩
 ·rw [hn] at h1;cases h1;exact ⟨h2,by omega⟩
 rw [hn] at h1;cases h1
theorem aBq{l:List UInt8}{k num er:Int}{text:ByteArray}{a b c:Nat}(h:aLn l k num er text)(hn:dQ l=.tok a b c):er=0 /\ k=a /\ num=c /\ text=bytes (l.take b):=by
 rcases h with ⟨m,h1,h2,h3⟩|⟨_,_,_,h1,h2,h3,h4,h5⟩
 ·rw [hn] at h1;cases h1
 rw [hn] at h1;cases h1;exact ⟨h2,h3,h4,h5⟩
def aY0(w:World)(s:List UInt8)(v:Value)(pos er:Int):Prop:=
 (∃l,iH s=.ok l /\ dD w v l.length (dL l) /\ pos=s.length /\ er=0 /\ l.length <= 4001)∨(∃p e:Nat,iH s=.err p e /\ v=.slice none 0 0 /\ pos=p /\ er=e /\ e≠0)
def aCp(w:World)(N:Nat)(s:List UInt8)(v:Value)(pos er:Int):Prop:=
 (∃l,iH s=.ok l /\ w.ownsRow N 66 4 v l.length (dL l) /\ pos=s.length /\ er=0 /\ l.length <= 4001)∨(∃p e:Nat,iH s=.err p e /\ v=.slice none 0 0 /\ pos=p /\ er=e /\ e≠0)
theorem aCp.r{w:World}{N:Nat}{s:List UInt8}{v:Value}{pos er:Int}(h:aCp w N s v pos er):aY0 w s v pos er:=
 h.imp (fun ⟨l,h1,h2,h3⟩=>⟨l,h1,dD.of_owns h2,h3⟩) id
theorem aK5(a:Option Addr)(n cap:Nat)(w:World)(hs:(262144:Int)<n):
  Calls prog 30 #[.slice a n cap] w fun e w'=>e=.returned (.tuple #[.slice none 0 0,.int .i64 262144,.int .i64 3]) /\ w=w':=by
 go_enter func30,Tryz.ntmps30
 go_wp2_with fail
 go_step3
 go_wp2_with fail
 rw [Exit.noGoto_ret]
 go_ret3
 exact ⟨rfl,rfl⟩
theorem aOw(s:ByteArray)(a:Option Addr)(n cap:Nat)(w:World)(he:Env w)(hn:n=s.size)(hs:s.size <= 262144)
  (hcv:(convert 23 9 (.slice a n cap)).run prog w=.ok (.string s) w):
  Calls prog 30 #[.slice a n cap] w fun e w'=>(∃v pos er,e=.returned (.tuple #[v,.int .i64 pos,.int .i64 er]) /\ aCp w' w.heap.size s.data.toList v pos er) /\ Below w.heap.size w w':=by
 subst hn
 obtain ⟨i0,hi,hz0,hz1,hz2⟩:=info_parts aI5
 have HS:=Lib.hid (show s.data.toList.length=s.size from rfl)
 go_enter func30,Tryz.ntmps30
 go_wp2_with fail
 go_step3
 go_wp2_with fail
 go_step3
 go_wp2_with fail
 go_loopw [6,7] (fun v at_ wr=>∃(k:Nat) (toks:List Tok),at_=.int .i64 k /\ k <= s.size /\ wr.ownsRow w.heap.size 66 4 v toks.length (dL toks) /\ kD s.data.toList 0 0=fX.app toks (kD s.data.toList k toks.length) /\ toks.length <= 4000 /\ Below w.heap.size w wr) (fun _ at_ _=>s.size-(intOf at_).toNat)
 case atStart=>exact ⟨0,[],rfl,by omega,ownsRow_nil _ _ _ _,by rw [fX.app_nil];rfl,by simp,Below.refl _ _⟩
 case round=>
  obtain ⟨k,toks,rfl,hk,hown,hlx,hlen,hbel⟩:=hrel
  have heW:Env wr:=he.below hbel he.size
  obtain ⟨oa,oc,rfl⟩:=lR hown
  have hge:=lG s.data.toList k hk
  have HLX:=Lib.hid hlx
  clear hlx hcv
  by_cases hend:s.size <= bF s.data.toList k
  ·go_wp2_with (first|(go_at_call 63;refine (uH _ _ _ (by omega) hk).mono ?_;rintro e w' ⟨rfl,rfl⟩)|(at_builtin;refine wpList_append_own _ rfl _ _ 36 rfl w.heap.size 66 i0 _ 4 40 underlying36 hi hz0 hz1 hz2 rfl (by decide) _ toks.length (dL toks) rfl (ownsRow_below hown ((Below.refl _ _).alloc (Nat.le_refl _) _) (Nat.le_refl _)) ⟨wr.heap.size,0,none⟩ 1 1 [.int .i64 5,.string ⟨#[]⟩,.int .i64 0,.int .i64 s.size] rfl rfl (sK _ _ _) (by simp [Value.oneCell']) (by unfold maxLen;omega) (by omega) (by have:=hbel.size;simp;omega) ?_))
   intro v' w1 hown1 hgrow _
   have hb1:Below w.heap.size w w1:=Below.grow (hbel.alloc hbel.size _) hgrow (by have:=hbel.size;simp;omega) (ownsRow_below hown ((Below.refl _ _).alloc (Nat.le_refl _) _) (Nat.le_refl _)) (Nat.le_refl _)
   clear hgrow
   go_wp2_with fail
   rw [Exit.noGoto_ret]
   go_ret3
   refine ⟨⟨_,_,_,rfl,.inl ⟨toks++[⟨5,⟨#[]⟩,0,s.size⟩],?_,?_,by rw [HS.out],rfl,by simp;omega⟩⟩,hb1⟩
   ·unfold iH
    rw [if_neg (by rw [HS.out];omega),HLX.out,mX (by rw [HS.out];exact hend),HS.out];rfl
   have:=hown1
   rw [←eP];simpa using this
  have hlt:bF s.data.toList k<s.size:=by omega
  have hx:s.extract (bF s.data.toList k) s.size=bytes (s.data.toList.drop (bF s.data.toList k)):=by
   have:=ByteArray.extract_mk s.data.toList (bF s.data.toList k) s.size
   rw [show (ByteArray.mk s.data.toList.toArray)=s from by simp] at this
   rw [this,bytes];congr 2;exact take_of_length_le (by rw [List.length_drop,HS.out];omega)
  have hsz:(bytes (s.data.toList.drop (bF s.data.toList k))).size=s.size-bF s.data.toList k:=by rw [bytes];show (List.drop _ _).toArray.size=_;rw [List.size_toArray,List.length_drop,HS.out]
  have HZ:=Lib.hid hsz
  have hbd:=jR (s.data.toList.drop (bF s.data.toList k))
  have HD:=Lib.hid hbd
  clear hsz hbd
  cases hnx:dQ (s.data.toList.drop (bF s.data.toList k)) with
  |err en=>
   have HN:=Lib.hid hnx
   clear hnx
   go_wp2_with (first|(go_at_call 63;refine (uH _ _ _ (by omega) hk).mono ?_;rintro e w' ⟨rfl,rfl⟩)|(go_at_call 64;refine (aAf _ _ (by rw [HZ.out];omega) heW (by rw [HZ.out];omega)).mono ?_;rintro e w1 ⟨⟨kd,num,er,text,rfl,hR⟩,hb⟩;rw [HD.out] at hR;obtain ⟨rfl,hne⟩:=aKq hR HN.out;clear hR;obtain ⟨hc,hf⟩:=tF hb))
   rw [Exit.noGoto_ret]
   go_ret3
   refine ⟨⟨_,_,_,rfl,.inr ⟨bF s.data.toList k,en,?_,rfl,rfl,rfl,by omega⟩⟩,(hbel.trans (hb.mono hbel.size)).alloc (Nat.le_trans hbel.size hb.size) _⟩
   unfold iH
   rw [if_neg (by rw [HS.out];omega),HLX.out,uY (by rw [HS.out];exact hlt) HN.out];rfl
  |tok nk len nu=>
   have hl1:=mS (by intro h;have:=congrArg List.length h;rw [List.length_drop,HS.out] at this;simp at this;omega) hnx
   rw [List.length_drop,HS.out] at hl1
   have HN:=Lib.hid hnx
   clear hnx
   have htx:(bytes ((s.data.toList.drop (bF s.data.toList k)).take len)).size=len:=by
    rw [bytes];show (List.take _ _).toArray.size=_;rw [List.size_toArray,List.length_take,List.length_drop,HS.out];omega
   by_cases hfull:toks.length=4000
   ·have hf1:((toks.length:Int) == 4000)=true:=by rw [beq_iff_eq];omega
    have HF:=Lib.hid hfull
    clear hfull htx
    go_wp2_with (first|(go_at_call 63;refine (uH _ _ _ (by omega) hk).mono ?_;rintro e w' ⟨rfl,rfl⟩)|(go_at_call 64;refine (aAf _ _ (by rw [HZ.out];omega) heW (by rw [HZ.out];omega)).mono ?_;rintro e w1 ⟨⟨kd,num,er,text,rfl,hR⟩,hb⟩;rw [HD.out] at hR;obtain ⟨rfl,rfl,rfl,rfl⟩:=aBq hR HN.out;clear hR;obtain ⟨hc,hf⟩:=tF hb))
    rw [Exit.noGoto_ret]
    go_ret3
    refine ⟨⟨_,_,_,rfl,.inr ⟨bF s.data.toList k,3,?_,rfl,rfl,rfl,by omega⟩⟩,(hbel.trans (hb.mono hbel.size)).alloc (Nat.le_trans hbel.size hb.size) _⟩
    unfold iH
    rw [if_neg (by rw [HS.out];omega),HLX.out,HF.out,sG (by rw [HS.out];exact hlt) HN.out];rfl
   have hf1:((toks.length:Int) == 4000)=false:=by rw [beq_eq_false_iff_ne];omega
   have HF:=Lib.hid hfull
   have hlen2:toks.length<4000:=by omega
   clear hfull
   go_wp2_with (first|(go_at_call 63;refine (uH _ _ _ (by omega) hk).mono ?_;rintro e w' ⟨rfl,rfl⟩)|(go_at_call 64;refine (aAf _ _ (by rw [HZ.out];omega) heW (by rw [HZ.out];omega)).mono ?_;rintro e w1 ⟨⟨kd,num,er,text,rfl,hR⟩,hb⟩;rw [HD.out] at hR;obtain ⟨rfl,rfl,rfl,rfl⟩:=aBq hR HN.out;clear hR;obtain ⟨hc,hf⟩:=tF hb)|(at_builtin;refine wpList_append_own _ rfl _ _ 36 rfl w.heap.size 66 i0 _ 4 40 underlying36 hi hz0 hz1 hz2 rfl (by decide) _ toks.length (dL toks) rfl (ownsRow_below hown ((hb.alloc hb.size _).alloc (by have:=hb.size;simp;omega) _) (Nat.le_refl _)) ⟨w1.heap.size+1,0,none⟩ 1 1 [.int .i64 nk,.string (bytes ((s.data.toList.drop (bF s.data.toList k)).take len)),.int .i64 nu,.int .i64 (bF s.data.toList k)] rfl rfl (bXs _ _ _ _ (by simp)) (by simp [Value.oneCell']) (by unfold maxLen;omega) (by omega) (by have:=hbel.size;have:=hb.size;simp;omega) ?_))
   intro v' w2 hown2 hgrow _
   have hb2:Below w.heap.size w w2:=Below.grow (((hbel.trans (hb.mono hbel.size)).alloc (Nat.le_trans hbel.size hb.size) _).alloc (by have:=hbel.size;have:=hb.size;simp;omega) _) hgrow (by have:=hbel.size;have:=hb.size;simp;omega) (ownsRow_below hown ((hb.alloc hb.size _).alloc (by have:=hb.size;simp;omega) _) (Nat.le_refl _)) (Nat.le_refl _)
   have hcw:∀o,w2.cell? ⟨w1.heap.size,o,none⟩=((w1.alloc (Obj.cells #[.int .i64 nk,.string (bytes ((s.data.toList.drop (bF s.data.toList k)).take len)),.int .i64 nu,.int .i64 (bF s.data.toList k)] 66)).cell? ⟨w1.heap.size,o,none⟩):=by
    intro o
    rw [aKa hgrow hown hb.size (by simp;omega) o]
    exact (Below.alloc (B:=(w1.alloc (Obj.cells #[.int .i64 nk,.string (bytes ((s.data.toList.drop (bF s.data.toList k)).take len)),.int .i64 nu,.int .i64 (bF s.data.toList k)] 66)).heap.size) (Below.refl _ _) (Nat.le_refl _) _).cell (p:=⟨w1.heap.size,o,none⟩) (by simp)
   clear hgrow
   go_wp2_with fail
   go_roundw
   case rel=>
    refine ⟨bF s.data.toList k+len,toks++[⟨nk,bytes ((s.data.toList.drop (bF s.data.toList k)).take len),nu,bF s.data.toList k⟩],by go_num,by omega,?_,?_,by simp;omega,hb2⟩
    ·rw [←eP];simpa using hown2
    rw [HLX.out,nD (by rw [HS.out];exact hk) (by rw [HS.out];exact hlt) HN.out HF.out,fX.app_cons];simp
   case measure=>simp [intOf];omega
theorem aN1(a:Option Addr)(n cap:Nat)(w:World)(s:List UInt8)(hn:n=s.length)(hs:262144<n):
  Calls prog 30 #[.slice a n cap] w fun e w'=>(∃v pos er,e=.returned (.tuple #[v,.int .i64 pos,.int .i64 er]) /\ aCp w' w.heap.size s v pos er) /\ Below w.heap.size w w':=by
 refine (aK5 a n cap w (by omega)).mono fun e w' ⟨h,hw⟩=>?_
 subst hw
 refine ⟨⟨_,_,_,h,.inr ⟨262144,3,?_,rfl,rfl,rfl,by omega⟩⟩,Below.refl _ _⟩
 unfold iH;rw [if_pos (by omega)]
theorem aOn(s:List UInt8)(v:Value)(w:World)(he:Env w)(hv:dD w v s.length (s.map fun c=>.int .u8 c.toNat)):
  Calls prog 30 #[v] w fun e w'=>(∃v pos er,e=.returned (.tuple #[v,.int .i64 pos,.int .i64 er]) /\ aCp w' w.heap.size s v pos er) /\ Below w.heap.size w w':=by
 obtain ⟨a,cap,rfl,hc,hcells⟩:=hv
 by_cases hs:262144<s.length
 ·exact aN1 a _ cap w s rfl hs
 have hconv:(convert 23 9 (.slice a s.length cap)).run prog w=.ok (.string (bytes s)) w:=by
  rcases hcells with h0|⟨b,off,rfl,hr⟩
  ·obtain rfl:s=[]:=by simpa using h0
   cases a with
   |none=>exact run_convert_bytes_nil w _ _ underlying23 underlying5 _ _ _ underlying9
   |some a=>
    have hl:=run_loadCells_list (P:=prog) w a [] (fun j v hj=>by simp at hj)
    rw [run_convert_bytes_string w _ _ _ _ _ _ underlying23 underlying5 underlying9,length_nil,run_bytesToString w a 0 cap [] (by simpa using hl)]
    rfl
  rw [run_convert_bytes_arg w _ _ underlying23 underlying5 b off s.length cap (s.map fun c=>(c.toNat:Int)) (by simp) ?_ _ underlying9]
  ·rw [strOfNums,List.map_map,bytes];congr 3;rw [show ((fun n:Int=>UInt8.ofNat n.toNat) ∘ fun c:UInt8=>(c.toNat:Int))=id from by funext c;simp];simp
  intro i hi
  rw [hr i (.int .u8 s[i].toNat) (by simp [hi])];simp [hi]
 have:=aOw (bytes s) a s.length cap w he (by simp [bytes,ByteArray.size]) (by show (List.toArray s).size <= _;rw [List.size_toArray];omega) hconv
 rw [jR] at this;exact this
end
section
open Go.RowKit
def cC(s:List UInt8):List Value:=s.map fun c=>.int .u8 c.toNat
theorem ByteRow.cell{w:World}{b off:Nat}{s:List UInt8}(h:∀j u,(cC s)[j]?=some u -> w.cell? ⟨b,off+j,none⟩=some u)(k:Nat)(hk:k<s.length):w.cell? ⟨b,off+k,none⟩=some (.int .u8 s[k].toNat):=
 h k _ (by simp [cC,hk])
theorem eL(c:UInt8)(w:World):
  Calls prog 36 #[.int .u8 c.toNat] w fun e w'=>e=.returned (.bool (fU c)) /\ w=w':=by
 unfold fU
 generalize (c.toNat:Int)=n
 go_enter func36,Tryz.ntmps36
 go_wp2
 all_goals (go_ret;refine ⟨kB ?_,rfl⟩;simp;try omega)
theorem fJ(c:UInt8)(w:World):
  Calls prog 37 #[.int .u8 c.toNat] w fun e w'=>e=.returned (.bool (cD c)) /\ w=w':=by
 unfold cD
 generalize (c.toNat:Int)=n
 go_enter func37,Tryz.ntmps37
 go_wp2
 all_goals (go_ret;refine ⟨kB ?_,rfl⟩;simp;try omega)
theorem aAx(zs:List ByteArray)(x:ByteArray)(k:Nat)(hk:k<zs.length)(h:x∈zs↔x∈zs.drop k):(zs[k]=x -> x∈zs) /\ (zs[k]≠x -> (x∈zs↔x∈zs.drop (k+1))):=by
 refine ⟨fun e=>e▸getElem_mem hk,fun e=>?_⟩
 rw [h,List.drop_eq_getElem_cons hk,mem_cons]
 exact ⟨fun h=>h.resolve_left (fun e'=>e e'.symm),.inr⟩
theorem aDm(zs:List ByteArray)(x:ByteArray)(v:Value)(w:World)(hv:dD w v zs.length (zs.map .string))(hn:zs.length <= 9223372036854775807):
  Calls prog 77 #[v,.string x] w fun e w'=>e=.returned (.bool (zs.any fun y=>decide (y=x))) /\ w=w':=by
 obtain ⟨a,cap,rfl,hc,hr⟩:=hv
 go_enter func77,Tryz.ntmps77
 go_wp2_with fail
 go_loop [5] (fun v=>∃k:Nat,k <= zs.length /\ v=.int .i64 k /\ (x∈zs↔x∈zs.drop k)) (fun v=>zs.length-(intOf v).toNat)
 case atStart=>exact ⟨0,by omega,rfl,by simp⟩
 case round=>
  obtain ⟨k,hk,rfl,hm⟩:=hrel
  have HM:=Lib.hid hm
  clear hm
  by_cases hlt:k<zs.length
  ·rcases hr with h0|⟨b,off,rfl,hr⟩
   ·have:zs.length=0:=by simpa using congrArg List.length h0
    omega
   have hcell:=hr k (.string zs[k]) (by simp [hlt])
   clear hr
   have hst:=aAx zs x k hlt HM.out
   have HST:=Lib.hid hst
   clear hst
   by_cases he:zs[k]=x
   ·have hm:=HST.out.1 he
    have HM2:=Lib.hid hm
    clear hm
    have hq:=zZ he
    clear he
    go_wp2_with fail
    go_ret
    refine ⟨kB ?_,rfl⟩
    simp [HM2.out]
   have hq:=xB he
   have HE:=Lib.hid he
   clear he
   go_wp2_with fail
   go_round
   case rel=>exact ⟨k+1,by omega,by go_num,HST.out.2 HE.out⟩
   case measure=>simp [intOf];omega
  clear hr
  go_wp2_with fail
  go_ret
  refine ⟨kB ?_,rfl⟩
  have:x∉zs:=by rw [HM.out,List.drop_eq_nil_of_le (by omega)];simp
  simp [this]
theorem oN(s:ByteArray)(w:World):
  Calls prog 38 #[.string s] w fun e w'=>e=.returned (.bool (dA s)) /\ Below w.heap.size w w':=by
 go_enter func38,Tryz.ntmps38
 go_wp2_with (first|(go_at_call 77;refine (aDm words _ _ _ (dD.new w (words.map .string) 9 11) (by decide)).mono ?_;rintro e w' ⟨rfl,rfl⟩))
 go_ret
 exact ⟨rfl,by go_grown⟩
theorem aK0(s:List UInt8)(k0:Nat)(v:Value)(w:World)(hv:dD w v s.length (cC s))(hs:s.length <= 1000000)(hk:k0 <= s.length):
  Calls prog 35 #[v,.int .i64 k0] w fun e w'=>e=.returned (.int .i64 (bF s k0)) /\ w=w':=by
 obtain ⟨a,cap,rfl,hc,hr⟩:=hv
 go_enter func35,Tryz.ntmps35
 go_wp2_with fail
 go_loop [1] (fun v=>∃k:Nat,k <= s.length /\ v=.int .i64 k /\ bF s k=bF s k0) (fun v=>s.length-(intOf v).toNat)
 case atStart=>exact ⟨k0,hk,rfl,rfl⟩
 case round=>
  obtain ⟨k,hk,rfl,hm⟩:=hrel
  have HM:=Lib.hid hm
  clear hm
  by_cases hlt:k<s.length
  ·rcases hr with h0|⟨b,off,rfl,hr⟩
   ·have:s.length=0:=by simpa [cC] using congrArg List.length h0
    omega
   have hcell:=ByteRow.cell hr k hlt
   have HR:=Lib.hid hr
   clear hr
   cases hsp:isSp s[k] with
   |true=>
    have hn:=aGh s k hlt hsp
    have HN:=Lib.hid hn
    simp only [isSp,decide_eq_true_eq] at hsp
    clear hn
    rcases hsp with h|h|h|h
    ·have e32:((s[k].toNat:Int) == 32)=true:=by rw [h];rfl
     clear h
     go_wp2_with fail
     go_round
     case rel=>exact ⟨k+1,by omega,by go_num,HN.out.trans HM.out⟩
     case measure=>simp [intOf];omega
    ·have e32:((s[k].toNat:Int) == 32)=false:=by rw [h];rfl
     have e9:((s[k].toNat:Int) == 9)=true:=by rw [h];rfl
     clear h
     go_wp2_with fail
     go_round
     case rel=>exact ⟨k+1,by omega,by go_num,HN.out.trans HM.out⟩
     case measure=>simp [intOf];omega
    ·have e32:((s[k].toNat:Int) == 32)=false:=by rw [h];rfl
     have e9:((s[k].toNat:Int) == 9)=false:=by rw [h];rfl
     have e10:((s[k].toNat:Int) == 10)=false:=by rw [h];rfl
     have e13:((s[k].toNat:Int) == 13)=true:=by rw [h];rfl
     clear h
     go_wp2_with fail
     go_round
     case rel=>exact ⟨k+1,by omega,by go_num,HN.out.trans HM.out⟩
     case measure=>simp [intOf];omega
    ·have e32:((s[k].toNat:Int) == 32)=false:=by rw [h];rfl
     have e9:((s[k].toNat:Int) == 9)=false:=by rw [h];rfl
     have e10:((s[k].toNat:Int) == 10)=true:=by rw [h];rfl
     clear h
     go_wp2_with fail
     go_round
     case rel=>exact ⟨k+1,by omega,by go_num,HN.out.trans HM.out⟩
     case measure=>simp [intOf];omega
   |false=>
    have HP:=Lib.hid hsp
    simp only [isSp,decide_eq_false_iff_not,not_or] at hsp
    have f1:((s[k].toNat:Int) == 32)=false:=by rw [beq_eq_false_iff_ne];exact hsp.1
    have f2:((s[k].toNat:Int) == 9)=false:=by rw [beq_eq_false_iff_ne];exact hsp.2.1
    have f3:((s[k].toNat:Int) == 13)=false:=by rw [beq_eq_false_iff_ne];exact hsp.2.2.1
    have f4:((s[k].toNat:Int) == 10)=false:=by rw [beq_eq_false_iff_ne];exact hsp.2.2.2
    clear hsp
    have stop:¬(∃h2:k+1<s.length,s[k]=47 /\ s[k+1]=47) -> bF s k0=k:=fun h=>by rw [←HM.out];exact zX s k hlt HP.out (aGs hlt h)
    have STOP:=Lib.hid stop
    clear stop
    by_cases h1:s.length <= k+1
    ·have g1:(s.length:Int) <= k+1:=by omega
     have hst:=STOP.out (by rintro ⟨h,_⟩;omega)
     have HST:=Lib.hid hst
     clear hst h1
     go_wp2_with fail
     go_ret
     exact ⟨gG (by rw [HST.out]),rfl⟩
    have g1:(k:Int)+1<s.length:=by omega
    have h1':k+1<s.length:=by omega
    clear h1
    by_cases h2:s[k]=47
    ·have g2:=((aJ1 s[k] 47 47 rfl (by omega)).1 h2).1
     have hcell2:=ByteRow.cell HR.out (k+1) h1'
     have hcell3:=hcell2
     rw [←Nat.add_assoc] at hcell3
     by_cases h3:s[k+1]=47
     ·have g3:=((aJ1 s[k+1] 47 47 rfl (by omega)).1 h3).1
      have H2:=Lib.hid h2
      have H3:=Lib.hid h3
      clear h2 h3
      go_wp2_with fail
      go_hide hQ
      go_loop [1] (fun v=>∃j:Nat,k <= j /\ j <= s.length /\ v=.int .i64 j /\ (s.drop k).dropWhile (·!= 10)=(s.drop j).dropWhile (·!= 10)) (fun v=>s.length-(intOf v).toNat)
      case atStart=>exact ⟨k,by omega,by omega,rfl,rfl⟩
      case round=>
       obtain ⟨j,hkj,hj,rfl,hd⟩:=hrel
       have HD:=Lib.hid hd
       clear hd hcell2 hcell3 hcell
       have fin:(s.drop k).dropWhile (·!= 10)=s.drop j -> bF s j=bF s k0:=fun h=>(aHj s k j h1' H2.out H3.out h).trans HM.out
       have FIN:=Lib.hid fin
       clear fin
       by_cases hje:j<s.length
       ·have hcell:=ByteRow.cell HR.out j hje
        have hst:=aK3 s k j hje HD.out
        have HST:=Lib.hid hst
        clear hst
        by_cases h10:s[j]=10
        ·have e10:=((aJ1 s[j] 10 10 rfl (by omega)).1 h10).2
         have hfin:=FIN.out (HST.out.1 h10)
         have hne:k≠j:=by rintro rfl;rw [H2.out] at h10;exact absurd h10 (by decide)
         have HF:=Lib.hid hfin
         clear hfin h10
         go_wp2_with fail
         subst hQ
         go_wp2_with fail
         go_round
         case rel=>exact ⟨j,by omega,rfl,HF.out⟩
         case measure=>simp [intOf];omega
        have e10:=((aJ1 s[j] 10 10 rfl (by omega)).2 h10).2
        have hnx:=HST.out.2 h10
        have HNX:=Lib.hid hnx
        clear hnx h10
        go_wp2_with fail
        go_round
        case rel=>exact ⟨j+1,by omega,by omega,by go_num,HNX.out⟩
        case measure=>simp [intOf];omega
       have hfin:=FIN.out (by rw [HD.out,List.drop_eq_nil_of_le (by omega)];rfl)
       have HF:=Lib.hid hfin
       clear hfin
       go_wp2_with fail
       subst hQ
       go_wp2_with fail
       go_round
       case rel=>exact ⟨j,by omega,rfl,HF.out⟩
       case measure=>simp [intOf];omega
     have g3:=((aJ1 s[k+1] 47 47 rfl (by omega)).2 h3).1
     have hst:=STOP.out (by rintro ⟨_,_,h⟩;exact h3 h)
     have HST:=Lib.hid hst
     clear hst h2 h3
     go_wp2_with fail
     go_ret
     exact ⟨gG (by rw [HST.out]),rfl⟩
    have g2:=((aJ1 s[k] 47 47 rfl (by omega)).2 h2).1
    have hst:=STOP.out (by rintro ⟨_,h,_⟩;exact h2 h)
    have HST:=Lib.hid hst
    clear hst h2
    go_wp2_with fail
    go_ret
    exact ⟨gG (by rw [HST.out]),rfl⟩
  clear hr
  go_wp2_with fail
  go_ret
  exact ⟨gG (by rw [←HM.out,aA5 _ _ (by omega)];omega),rfl⟩
end
end Go.Proofs.YtojinfngbbajgaaGreatDoor
