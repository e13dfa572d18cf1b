import Derived.Test.YtjgeihmhppadaaaGreatDoorG3J
import Derived.Test.YtjgeihmhppadaaaGreatDoorRows
import Derived.Test.YtjgeihmhppadaaaGreatDoorShelfJ
set_option linter.all false
set_option synthInstance.maxHeartbeats 1000000
set_option synthInstance.maxSize 1000000
set_option maxHeartbeats 800000
set_option maxRecDepth 100000
namespace Go.Proofs.YtjgeihmhppadaaaGreatDoor
open Go.Proofs.Tryz
open List (length_append length_cons length_nil mem_append mem_cons not_mem_nil append_assoc getElem_mem take_of_length_le)
section
open Go.RowKit
section
variable {P:Program}{ops:Array Oper}{U T:List Nat}{o:Oper}{n d:Nat}{bx:List Box}{rw:List bA}{ts:List (Nat×AT)}{Q:Exit -> AS -> Prop}{l:List Oper}{K:AS -> Prop}{st:AS}{t:AT}
theorem rV{s:Sto}{w:World}(hm:Mem s w){r:bA}(hr:r∈s.rows)(hn:0<r.n)(hz:0<r.z):∃g cap,r.v=.slice (some ⟨g,0,none⟩) r.n cap:=by
 obtain ⟨us,h0,-⟩:=hm.row r hr
 obtain ⟨h1,h2⟩:=h0.row hz
 rcases h2 with ⟨-,h2⟩|⟨g,cap,cur,h2,-⟩
 ·omega
 exact ⟨g,cap,h2⟩
theorem aF1(A:List bA){B:List bA}{v:Value}{E:TypeId}{z k:Nat}{cs:List AC}(hk:0<k)(h:∀g cap,v=.slice (some ⟨g,0,none⟩) k cap -> eQ P ops l ⟨n,T,⟨bx,A++⟨v,E,z,k,cs⟩::B⟩,ts⟩ Q)(hz:0<z:=by decide):eQ P ops l ⟨n,T,⟨bx,A++⟨v,E,z,k,cs⟩::B⟩,ts⟩ Q:=λa w hs QQ hQ=>by
 obtain ⟨g,cap,hv⟩:=rV hs.mem (r:=⟨v,E,z,k,cs⟩) G0 hk hz
 exact h g cap hv a w hs QQ hQ
theorem aEw(A:List bA){c:Code}{B:List bA}{v:Value}{E:TypeId}{z k:Nat}{cs:List AC}(hk:0<k)(h:∀g cap,v=.slice (some ⟨g,0,none⟩) k cap -> AWp P c ⟨n,T,⟨bx,A++⟨v,E,z,k,cs⟩::B⟩,ts⟩ Q)(hz:0<z:=by decide):AWp P c ⟨n,T,⟨bx,A++⟨v,E,z,k,cs⟩::B⟩,ts⟩ Q:=λa w hs QQ hQ=>by
 obtain ⟨g,cap,hv⟩:=rV hs.mem (r:=⟨v,E,z,k,cs⟩) G0 hk hz
 exact h g cap hv a w hs QQ hQ
theorem rM{E E0:TypeId}{x:Operand}{g off z zz k cap:Nat}{cs:List AC}{ag:Bool}(A:List bA){B:List bA}(hA:∀w,(isAgg E).run P w=.ok ag w)(hS:∀w,(sizeOf E).run P w=.ok z w)(hp:pk ag z cs off=some t)(ho:o.op=.load E x:=by exact rfl)(hx:evA st x=some (Cv (.pointer (some ⟨g,off,none⟩))):=by exact rfl)(hrow:st.s.rows=A++⟨.slice (some ⟨g,0,none⟩) k cap,E0,zz,k,cs⟩::B:=by exact rfl)(hU:st.s.bl.Nodup -> g∉U:=by exact λ_ h=>DV):AY P U o st t:=by
 intro a w hs hU2
 obtain ⟨us,hownR,h2⟩:=hs.mem.row ⟨.slice (some ⟨g,0,none⟩) k cap,E0,zz,k,cs⟩ C1
 have hown:=hownR.row0 Y
 obtain ⟨h3,h4⟩:=hown
 rcases h4 with ⟨h4,-⟩|⟨g',cap',cur,hv,-,hh,hk,hcm,hcs,htk⟩
 ·cases h4
 cases hv
 obtain ⟨v,hv,hl⟩:=pR (P:=P) (b:=g) (o:=0) hA hS h2 hp
 refine ⟨v,hv,λw' hkp=>?_⟩
 have hlt:g<w.heap.size:=hs.mem.lt g (List.mem_append_right _ (by rw [hrow];simp [aY,Value.ownBlock]))
 have hb:=hkp.block g hlt (hU hs.mem.nodup)
 have hl2:=hl w' (λj u hj=>by
  unfold World.cell?
  simp only [hb,hh]
  have h9:(cur.toList.take (k*zz))[j]?=some u:=by rw [htk];exact hj
  rw [List.getElem?_take] at h9
  split at h9
  ·simpa using h9
  cases h9)
 simp only [Nat.zero_add] at hl2
 simp only [execOp,ho,hs.val hx,Instr.loadAt,Instr.sureAddr,Sem.run_bind,Sem.run_pure,Result.andThen_ok]
 rw [hl2];rfl
theorem aTr{E e:TypeId}{z:Nat}(hu:P.underlying E=some (.slice e))(hS:∀w,(sizeOf e).run P w=.ok z w)(h:∀g,K ⟨n,g::T,⟨bx,⟨.slice (some ⟨g,0,none⟩) 0 0,e,z,0,[]⟩::rw⟩,(d,Cv (.slice (some ⟨g,0,none⟩) 0 0))::ts⟩)(ho:o.op=.buildSlice E 0 #[]:=by exact rfl)(hd:o.dst=some d:=by exact rfl)(hn:d<n:=by decide):AO P U o ⟨n,T,⟨bx,rw⟩,ts⟩ K:=by
 intro a w hs KK QQ hK
 unfold Oper.wp
 have hrun:(execOp a.eval o).run P w=.ok (.value (.slice (some ⟨w.heap.size,0,none⟩) 0 0)) (w.alloc (.cells #[] e)):=by
  have h1:(underlying E).run P w=.ok (.slice e) w:=run_underlying hu w
  have h2:(sizeOf e).run P w=.ok z w:=hS w
  simp only [execOp,ho,Instr.buildSlice,Sem.run_bind,h1,Result.andThen_ok,h2,Nat.zero_mul]
  simp [go_sem,Instr.fill,newRow]
 rw [hrun,Oper.upon_value,hd]
 have hk:cW [] w (w.alloc (.cells #[] e)):=(cW.refl _ _).alloc _
 have hne:w.heap.size∉(⟨bx,rw⟩:Sto).bl:=λhm=>GV
 have hbl:(⟨bx,⟨.slice (some ⟨w.heap.size,0,none⟩) 0 0,e,z,0,[]⟩::rw⟩:Sto).bl=bx.map Box.b++w.heap.size::rw.flatMap λr=>aY r.v:=CZ
 have hsub:∀b,b∈(⟨bx,⟨.slice (some ⟨w.heap.size,0,none⟩) 0 0,e,z,0,[]⟩::rw⟩:Sto).bl -> b∈(⟨bx,rw⟩:Sto).bl∨w.heap.size <= b:=λb hb=>by
  rw [hbl] at hb
  simp only [mem_append,mem_cons] at hb
  rcases hb with h|rfl|h
  ·exact .inl (List.mem_append_left _ h)
  ·exact .inr (Nat.le_refl _)
  exact .inl (List.mem_append_right _ h)
 have hup:Up2 (bI (⟨bx,rw⟩:Sto).bl w) (bI (⟨bx,⟨.slice (some ⟨w.heap.size,0,none⟩) 0 0,e,z,0,[]⟩::rw⟩:Sto).bl (w.alloc (.cells #[] e))):=jA hk Bu hsub
 have hsz:(w.alloc (.cells #[] e)).heap.size=w.heap.size+1:=G0
 have hm:Mem ⟨bx,⟨.slice (some ⟨w.heap.size,0,none⟩) 0 0,e,z,0,[]⟩::rw⟩ (w.alloc (.cells #[] e)):=by
  refine ⟨?_,λb hb=>?_,λx hx=>?_,λr hr=>?_⟩
  ·rw [hbl]
   have hnd:(bx.map Box.b++rw.flatMap λr=>aY r.v).Nodup:=hs.mem.nodup
   rw [List.nodup_append] at hnd⊢
   refine ⟨hnd.1,List.nodup_cons.2 ⟨λh=>hne (List.mem_append_right _ h),hnd.2.1⟩,λa ha b hb=>?_⟩
   rcases mem_cons.1 hb with rfl|hb
   ·intro he;subst he;exact hne (List.mem_append_left _ ha)
   exact hnd.2.2 a ha b hb
  ·rw [hbl] at hb
   simp only [mem_append,mem_cons] at hb
   rw [hsz]
   rcases hb with h|rfl|h
   ·exact Nat.lt_succ_of_lt (hs.mem.lt b (List.mem_append_left _ h))
   ·exact Nat.lt_succ_self _
   exact Nat.lt_succ_of_lt (hs.mem.lt b (List.mem_append_right _ h))
  ·obtain ⟨us,e1,e2⟩:=hs.mem.box x hx
   exact ⟨us,BN,e2.mono hup⟩
  rcases mem_cons.1 hr with rfl|hr
  ·refine ⟨[],.inl ⟨G0,.inr ⟨w.heap.size,0,#[],Y,Nat.zero_le _,?_,Nat.le_refl _,Nat.zero_le _,G0,G0⟩⟩,.nil _⟩
   show (w.heap.push _)[w.heap.size]?=_
   simp
  obtain ⟨us,e1,e2⟩:=hs.mem.row r hr
  exact ⟨us,e1.keep λg hg=>hk.block g (hs.mem.lt g (List.mem_append_right _ (List.mem_flatMap.2 ⟨r,hr,hg⟩))) G0,e2.mono hup⟩
 have s1:=hs.step (st:=⟨n,T,⟨bx,rw⟩,ts⟩) (w.heap.size::T) (hk.mono G0) hm hsub
 refine hK _ _ _ (h _) (s1.put (v:=.slice (some ⟨w.heap.size,0,none⟩) 0 0) hn (.c _ _ (.val _ Y))) ⟨hk.mono G0,hk.mono G0,hsub,λb hb=>?_⟩ (hk.mono G0)
 rcases mem_cons.1 hb with rfl|hb
 ·exact .inr (Nat.le_refl _)
 exact .inl hb
end
end
section
open Go.RowKit
theorem kB{a b:Bool}(h:a=true↔b=true):Ending.returned (.bool a)=.returned (.bool b):=by rw [Bool.eq_iff_iff.2 h]
theorem cZn{k:IntKind}{a b:Int}(h:a=b):Ending.returned (.int k a)=.returned (.int k b):=by rw [h]
theorem sB(c:UInt8)(w:World):
  Calls prog 150 #[.int .u8 c.toNat] w λe w'=>e=.returned (.bool (isSp c)) /\ w=w':=by
 unfold isSp
 generalize (c.toNat:Int)=n
 go_enter func150,Tryz.ntmps150
 go_wp2
 all_goals (go_ret;refine ⟨kB ?_,rfl⟩;simp;try omega)
theorem cZ7(c:UInt8)(w:World):
  Calls prog 153 #[.int .u8 c.toNat] w λe w'=>e=.returned (.bool (fU c)) /\ w=w':=by
 unfold fU
 generalize (c.toNat:Int)=n
 go_enter func153,Tryz.ntmps153
 go_wp2
 all_goals (go_ret;refine ⟨kB ?_,rfl⟩;simp;try omega)
theorem oV(c:UInt8)(w:World):
  Calls prog 155 #[.int .u8 c.toNat] w λe w'=>e=.returned (.bool (cD c)) /\ w=w':=by
 unfold cD
 generalize (c.toNat:Int)=n
 go_enter func155,Tryz.ntmps155
 go_wp2
 all_goals (go_ret;refine ⟨kB ?_,rfl⟩;simp;try omega)
theorem tC(c:UInt8)(w:World):
  Calls prog 180 #[.int .u8 c.toNat] w λe w'=>e=.returned (.bool (cT c)) /\ w=w':=by
 go_enter func180,Tryz.ntmps180
 go_wp2_with (first|(go_at_call 153;refine (cZ7 _ _).mono ?_;rintro e w' ⟨rfl,rfl⟩)|(go_at_call 155;refine (oV _ _).mono ?_;rintro e w' ⟨rfl,rfl⟩))
 all_goals (go_ret;refine ⟨kB ?_,rfl⟩;simp [cT, *])
theorem oK(s p:ByteArray)(w:World):
  Calls prog 151 #[.string s,.string p] w λe w'=>e=.returned (.bool (Lib.hasPrefix s.data.toList p.data.toList)) /\ w=w':=
 (Tryz.strings_HasPrefix s p w).mono λ_ _ h=>⟨h.1,h.2.symm⟩
theorem oL(s:ByteArray)(c:Int)(w:World):
  Calls prog 152 #[.string s,.int .u8 c] w λe w'=>e=.returned (.int .i64 (Lib.indexByte s.data.toList c.toNat.toUInt8)) /\ w=w':=
 (Tryz.strings_IndexByte s c w).mono λ_ _ h=>⟨h.1,h.2.symm⟩
theorem uH(s:ByteArray)(k0:Nat)(w:World)(hs:s.size <= 9223372036854775807)(hk:k0 <= s.size):
  Calls prog 126 #[.string s,.int .i64 k0] w λe w'=>e=.returned (.int .i64 (bF s.data.toList k0)) /\ w=w':=by
 have hlen:s.data.toList.length=s.size:=Y
 go_enter func126,Tryz.ntmps126
 go_wp2_with fail
 go_loop [1,5] (λv _=>∃k:Nat,k <= s.size /\ v=.int .i64 k /\ bF s.data.toList k=bF s.data.toList k0) (λv _=>s.size-(intOf v).toNat)
 case atStart=>exact ⟨k0,hk,rfl,rfl⟩
 case round=>
  obtain ⟨k,hk,rfl,hr⟩:=hrel
  have HR:=Lib.hid hr;clear hr
  have HL:=Lib.hid hlen;clear hlen
  by_cases hlt:k<s.size
  ·by_cases hsp:isSp s[k]=true
   ·go_wp2_with (first|(go_at_call 150;refine (sB _ _).mono ?_;rintro e w' ⟨rfl,rfl⟩))
    go_round
    case rel=>exact ⟨k+1,J,C8,(aGh _ _ Ct hsp).trans HR.out⟩
    case measure=>simp [intOf];omega
   have hsp':isSp s[k]=false:=by simpa using hsp
   clear hsp
   by_cases hc:Lib.hasPrefix (s.data.toList.drop k) [47,47]=true
   ·have hcom:=aJa _ _ Ct hc
    have HC:=Lib.hid hcom;clear hcom
    have htk:List.take (s.size-k) (List.drop k s.data.toList)=List.drop k s.data.toList:=take_of_length_le G0
    by_cases hn:Lib.indexByte (s.data.toList.drop k) 10<0
    ·go_wp2_with (first|(go_at_call 150;refine (sB _ _).mono ?_;rintro e w' ⟨rfl,rfl⟩)|(go_at_call 151;refine (oK _ _ _).mono ?_;rintro e w' ⟨rfl,rfl⟩)|(go_at_call 152;refine (oL _ _ _).mono ?_;rintro e w' ⟨rfl,rfl⟩))
     go_ret
     exact ⟨cZn (by rw [←HR.out,HC.out.1 hn,HL.out]),Y⟩
    obtain ⟨j,hj⟩:∃j:Nat,Lib.indexByte (s.data.toList.drop k) 10=j:=⟨(Lib.indexByte (s.data.toList.drop k) 10).toNat,J⟩
    obtain ⟨h1,h2,h3⟩:=HC.out.2 j hj
    rw [HL.out] at h2
    have H1:=Lib.hid h1;clear h1
    clear hn
    go_wp2_with (first|(go_at_call 150;refine (sB _ _).mono ?_;rintro e w' ⟨rfl,rfl⟩)|(go_at_call 151;refine (oK _ _ _).mono ?_;rintro e w' ⟨rfl,rfl⟩)|(go_at_call 152;refine (oL _ _ _).mono ?_;rintro e w' ⟨rfl,rfl⟩))
    go_round
    case rel=>exact ⟨k+j,J,C8,H1.out.trans HR.out⟩
    case measure=>simp [intOf];omega
   have hc':Lib.hasPrefix (s.data.toList.drop k) [47,47]=false:=by simpa using hc
   have hstop:bF s.data.toList k=k:=by
    refine zX _ _ Ct hsp' ?_
    rintro ⟨h1,h2⟩
    apply hc
    rw [sZ,dR _ _ Ct,h1]
    cases hd:s.data.toList.drop (k+1) with
    |nil=>simp [hd] at h2
    |cons a r=>rw [hd] at h2;simp at h2;subst h2;exact ⟨r,rfl⟩
   have HS:=Lib.hid hstop;clear hstop
   clear hc
   have htk:List.take (s.size-k) (List.drop k s.data.toList)=List.drop k s.data.toList:=take_of_length_le G0
   go_wp2_with (first|(go_at_call 150;refine (sB _ _).mono ?_;rintro e w' ⟨rfl,rfl⟩)|(go_at_call 151;refine (oK _ _ _).mono ?_;rintro e w' ⟨rfl,rfl⟩))
   go_ret
   exact ⟨cZn (by rw [←HR.out,HS.out]),Y⟩
  go_wp2_with fail
  go_ret
  exact ⟨cZn (by rw [←HR.out,aA5 _ _ Fo,HL.out];omega),Y⟩
theorem lH(p:UInt8 -> Bool)(l:List UInt8)(k:Nat)(hk:k<l.length)(h:(l.takeWhile p).length=k+((l.drop k).takeWhile p).length):
  (p l[k]=true -> (l.takeWhile p).length=(k+1)+((l.drop (k+1)).takeWhile p).length) /\ (p l[k]=false -> (l.takeWhile p).length=k):=by
 rw [dR l k hk] at h
 refine ⟨λhp=>?_,λhp=>?_⟩
 ·rw [List.takeWhile_cons_of_pos hp] at h;simp at h;omega
 rw [List.takeWhile_cons_of_neg (by simp [hp])] at h;simpa using h
theorem aI6(s:ByteArray)(w:World)(hs:s.size <= 9223372036854775807):
  Calls prog 179 #[.string s,.func (.func 155) #[] #[]] w λe w'=>e=.returned (.int .i64 (s.data.toList.takeWhile cD).length) /\ w=w':=by
 have HL:=Lib.hid (show s.data.toList.length=s.size from Y)
 go_enter func179,Tryz.ntmps179
 go_wp2_with fail
 go_loop [5] (λv=>∃k:Nat,k <= s.size /\ v=.int .i64 k /\ (s.data.toList.takeWhile cD).length=k+((s.data.toList.drop k).takeWhile cD).length) (λv=>s.size-(intOf v).toNat)
 case atStart=>exact ⟨0,J,rfl,G0⟩
 case round=>
  obtain ⟨k,hk,rfl,hr⟩:=hrel
  by_cases hlt:k<s.size
  ·have HT:=Lib.hid (lH cD s.data.toList k Ct hr);clear hr
   by_cases hp:cD s[k]=true
   ·go_wp2_with (first|(go_at_call 155;refine (oV _ _).mono ?_;rintro e w' ⟨rfl,rfl⟩))
    go_round
    case rel=>exact ⟨k+1,J,C8,HT.out.1 hp⟩
    case measure=>simp [intOf];omega
   have hp':cD s[k]=false:=by simpa using hp
   clear hp
   go_wp2_with (first|(go_at_call 155;refine (oV _ _).mono ?_;rintro e w' ⟨rfl,rfl⟩))
   go_ret
   exact ⟨cZn (by rw [HT.out.2 hp']),Y⟩
  have HR:=Lib.hid hr;clear hr
  go_wp2_with fail
  go_ret
  refine ⟨cZn ?_,Y⟩
  rw [HR.out,List.drop_eq_nil_of_le Fo];rfl
theorem aM0(s:ByteArray)(w:World)(hs:s.size <= 9223372036854775807):
  Calls prog 179 #[.string s,.func (.func 180) #[] #[]] w λe w'=>e=.returned (.int .i64 (s.data.toList.takeWhile cT).length) /\ w=w':=by
 have HL:=Lib.hid (show s.data.toList.length=s.size from Y)
 go_enter func179,Tryz.ntmps179
 go_wp2_with fail
 go_loop [5] (λv=>∃k:Nat,k <= s.size /\ v=.int .i64 k /\ (s.data.toList.takeWhile cT).length=k+((s.data.toList.drop k).takeWhile cT).length) (λv=>s.size-(intOf v).toNat)
 case atStart=>exact ⟨0,J,rfl,G0⟩
 case round=>
  obtain ⟨k,hk,rfl,hr⟩:=hrel
  by_cases hlt:k<s.size
  ·have HT:=Lib.hid (lH cT s.data.toList k Ct hr);clear hr
   by_cases hp:cT s[k]=true
   ·go_wp2_with (first|(go_at_call 180;refine (tC _ _).mono ?_;rintro e w' ⟨rfl,rfl⟩))
    go_round
    case rel=>exact ⟨k+1,J,C8,HT.out.1 hp⟩
    case measure=>simp [intOf];omega
   have hp':cT s[k]=false:=by simpa using hp
   clear hp
   go_wp2_with (first|(go_at_call 180;refine (tC _ _).mono ?_;rintro e w' ⟨rfl,rfl⟩))
   go_ret
   exact ⟨cZn (by rw [HT.out.2 hp']),Y⟩
  have HR:=Lib.hid hr;clear hr
  go_wp2_with fail
  go_ret
  refine ⟨cZn ?_,Y⟩
  rw [HR.out,List.drop_eq_nil_of_le Fo];rfl
structure Env (w:World):Prop where
 words:∀j,j<words.length -> w.cell? ⟨0,0+j,none⟩=some (.string (words.getD j ByteArray.empty))
 maxLen:∃m:Int,w.cell? ⟨2,0,none⟩=some (.int .i64 m)
 size:Nat.max 0 2+1 <= w.heap.size
theorem Env.below{B:Nat}{w w':World}(h:Env w)(hb:Below B w w')(hB:Nat.max 0 2+1 <= B):Env w':=by
 refine ⟨λj hj=>?_,?_,Nat.le_trans h.size hb.size⟩
 ·rw [hb.cell (p:=⟨0,0+j,none⟩) (Nat.lt_of_lt_of_le (V:0<Nat.max 0 2+1) hB)];exact h.words j hj
 rw [hb.cell (p:=⟨2,0,none⟩) (Nat.lt_of_lt_of_le (V:2<Nat.max 0 2+1) hB)];exact h.maxLen
theorem Env.alloc{w:World}(h:Env w)(o:Obj):Env (w.alloc o):=h.below ((Below.refl w.heap.size w).alloc (Nat.le_refl _) o) h.size
theorem Env.drew{w:World}(h:Env w):Env w.drew:=h.below ((Below.refl w.heap.size w).drew) h.size
theorem Env.setCell{w:World}(h:Env w){a:Addr}(ha:Nat.max 0 2+1 <= a.block)(u:Value):Env (w.setCell a u):=h.below ((Below.refl (Nat.max 0 2+1) w).setCell ha u) (Nat.le_refl _)
theorem yL(s:ByteArray)(w:World)(he:Env w):
  Calls prog 196 #[.slice (some ⟨0,0,none⟩) 11 11,.string s] w λe w'=>e=.returned (.bool (dA s)) /\ w=w':=by
 refine (Tryz.slices_Contains_string 0 0 11 11 words s w V V he.words).mono λe w' h=>⟨?_,h.2.symm⟩
 rw [h.1]
 refine kB ?_
 rw [Lib.containsS_iff,cZx];rfl
theorem aC5(s:ByteArray)(w:World)(he:Env w):
  Calls prog 181 #[.string s] w λe w'=>e=.returned (.bool (dA s)) /\ w=w':=by
 go_enter func181,Tryz.ntmps181
 go_wp2_with (first|(go_at_call 196;refine (yL _ _ he).mono ?_;rintro e w' ⟨rfl,rfl⟩))
 go_ret
 exact ⟨Y,Y⟩
theorem nZ(s:ByteArray)(p:UInt8 -> Bool):s.extract 0 (s.data.toList.takeWhile p).length=bytes (s.data.toList.takeWhile p):=by
 have:=ByteArray.extract_mk s.data.toList 0 (s.data.toList.takeWhile p).length
 rw [show (ByteArray.mk s.data.toList.toArray)=s from by simp] at this
 rw [this,bytes,List.drop_zero,Nat.sub_zero]
 congr 2
 conv=>rhs;rw [List.takeWhile_eq_take_findIdx_not]
 rw [List.takeWhile_eq_take_findIdx_not,List.length_take,List.take_eq_take_iff];omega
theorem aMr(s:ByteArray)(w:World)(hs:s.size <= 9223372036854775807)(he:Env w):
  Calls prog 154 #[.string s] w λe w'=>e=.returned (.tuple #[.agg #[.int .i64 ((if dA (bytes (s.data.toList.takeWhile cT)) then 3 else 1:Nat):Int),.string (bytes (s.data.toList.takeWhile cT)),.int .i64 0,.int .i64 0],.int .i64 ((if 16<(s.data.toList.takeWhile cT).length then 3 else 0:Nat):Int)]) /\ Below w.heap.size w w':=by
 have hle:(s.data.toList.takeWhile cT).length <= s.size:=(List.takeWhile_sublist _).length_le
 have hx:=nZ s cT
 have hsz:(bytes (s.data.toList.takeWhile cT)).size=(s.data.toList.takeWhile cT).length:=Co
 go_enter func154,Tryz.ntmps154
 go_wp2_with (first|(go_at_call 179;refine (aM0 _ _ hs).mono ?_;rintro e w' ⟨rfl,rfl⟩)|(go_at_call 181;refine (aC5 _ _ ((he.alloc _).alloc _)).mono ?_;rintro e w' ⟨rfl,rfl⟩))
 all_goals (go_returns;refine ⟨?_,B8⟩)
 all_goals first|rfl|(rw [if_pos J];rfl)|(rw [if_neg J];rfl)
theorem aJc(t:ByteArray)(k n:Nat)(hk:k<t.size)(h:iT 0 t.data.toList=iT n (t.data.toList.drop k)):
  ((9223372036854775807-(t[k].toNat-48))/10<n -> iT 0 t.data.toList=none) /\ (¬(9223372036854775807-(t[k].toNat-48))/10<n -> iT 0 t.data.toList=iT (10*n+(t[k].toNat-48)) (t.data.toList.drop (k+1))):=by
 rw [dR _ k (by exact hk),iT] at h
 refine ⟨λhn=>?_,λhn=>?_⟩
 ·rw [h];exact if_pos hn
 rw [h];exact if_neg hn
def aXp(t:ByteArray)(e:Ending):Prop:=∃n:Nat,(n:Int) <= 9223372036854775807 /\ ((iT 0 t.data.toList=none /\ e=.returned (.tuple #[.agg #[.int .i64 2,.string t,.int .i64 n,.int .i64 0],.int .i64 2]))∨(iT 0 t.data.toList=some n /\ e=.returned (.tuple #[.agg #[.int .i64 2,.string t,.int .i64 n,.int .i64 0],.int .i64 0])))
theorem aHi(s:ByteArray)(w:World)(hs:s.size <= 9223372036854775807):
  Calls prog 156 #[.string s] w λe w'=>aXp (bytes (s.data.toList.takeWhile cD)) e /\ Below w.heap.size w w':=by
 have hle:(s.data.toList.takeWhile cD).length <= s.size:=(List.takeWhile_sublist _).length_le
 have hx:=nZ s cD
 have hsz:(bytes (s.data.toList.takeWhile cD)).size=(s.data.toList.takeWhile cD).length:=Co
 have hall:∀c∈(bytes (s.data.toList.takeWhile cD)).data.toList,cD c=true:=by
  intro c hc;simp only [bytes] at hc;exact (List.all_eq_true.1 (List.all_takeWhile (p:=cD) (l:=s.data.toList))) c hc
 generalize hm:(s.data.toList.takeWhile cD).length=m at *
 generalize ht:bytes (s.data.toList.takeWhile cD)=t at *
 have HM:=Lib.hid hm
 have HT:=Lib.hid ht
 have HA:=Lib.hid hall
 have HX:=Lib.hid hx
 clear hm ht hall
 subst hsz
 go_enter func156,Tryz.ntmps156
 go_wp2_with (first|(go_at_call 179;refine (aI6 _ _ hs).mono ?_;rintro e w' ⟨rfl,rfl⟩;rw [HM.out]))
 go_loopw [15] (λv wr=>∃k n:Nat,k <= t.size /\ v=.int .i64 k /\ n <= 9223372036854775807 /\ iT 0 t.data.toList=iT n (t.data.toList.drop k) /\ wr=(w.alloc (Obj.cells #[Value.int IntKind.i64 0,Value.string {data:=#[]},Value.int IntKind.i64 0,Value.int IntKind.i64 0] 154)).alloc (Obj.cells #[Value.int IntKind.i64 2,Value.string t,Value.int IntKind.i64 n,Value.int IntKind.i64 0] 154)) (λv _=>t.size-(intOf v).toNat)
 case atStart=>exact ⟨0,0,J,rfl,J,rfl,rfl⟩
 case round=>
  obtain ⟨k,n,hk,rfl,hn,hv,rfl⟩:=hrel
  by_cases hlt:k<t.size
  ·have hst:=aJc t k n hlt hv
   have hd:cD t[k]=true:=HA.out _ (by simp [ByteArray.getElem_eq_getElem_data])
   have HS:=Lib.hid hst
   clear hst hv
   simp only [cD,decide_eq_true_eq] at hd
   obtain ⟨hd1,hd2⟩:=hd
   by_cases hov:(9223372036854775807-(t[k].toNat-48))/10<n
   ·have hov':(9223372036854775807-((t[k].toNat:Int)-48))/10<(n:Int):=J
    have HO:=Lib.hid hov
    clear hov
    go_wp2_with fail
    go_returns
    exact ⟨⟨n,J,.inl ⟨HS.out.1 HO.out,Y⟩⟩,B8⟩
   have hov':(n:Int) <= (9223372036854775807-((t[k].toNat:Int)-48))/10:=J
   have HO:=Lib.hid hov
   clear hov
   go_wp2_with fail
   go_roundw
   case rel=>exact ⟨k+1,10*n+(t[k].toNat-48),J,C8,J,HS.out.2 HO.out,by congr 5;go_num⟩
   case measure=>simp [intOf];omega
  have HV:=Lib.hid hv
  clear hv
  go_wp2_with fail
  go_returns
  refine ⟨⟨n,J,.inr ⟨?_,Y⟩⟩,B8⟩
  rw [HV.out,List.drop_eq_nil_of_le (by show t.size <= k;omega),iT]
theorem nT(sub:ByteArray)(w:World)(he:Env w):
  Calls prog 182 #[.string ⟨#[60,61,32,62,61,32,61,61,32,33,61,32,38,38,32,124,124]⟩,.string sub] w λe w'=>e=.returned (.bool (Lib.contains wG sub.data.toList)) /\ w=w':=by
 obtain ⟨m,hm⟩:=he.maxLen
 exact (Tryz.strings_Contains _ sub m w V hm).mono λe w' h=>⟨h.1,h.2.symm⟩
theorem oD(c:UInt8)(w:World):
  Calls prog 152 #[.string ⟨#[40,41,123,125,91,93,44,59,61,43,45,42,47,37,60,62,33]⟩,.int .u8 c.toNat] w λe w'=>e=.returned (.int .i64 (Lib.indexByte dW c)) /\ w=w':=by
 refine (oL _ _ _).mono λe w' h=>⟨?_,h.2⟩
 rw [h.1];congr 3;simp
def aE9(s:ByteArray)(n:Nat):Value:=.tuple #[.agg #[.int .i64 (if n=0 then 0 else 4),.string (bytes (s.data.toList.take n)),.int .i64 0,.int .i64 0],.int .i64 (if n=0 then 1 else 0)]
theorem pY(s:ByteArray)(n:Nat):s.extract 0 n=bytes (s.data.toList.take n):=by
 have:=ByteArray.extract_mk s.data.toList 0 n
 rw [show (ByteArray.mk s.data.toList.toArray)=s from by simp] at this
 rw [this,bytes,List.drop_zero,Nat.sub_zero]
theorem jR(l:List UInt8):(bytes l).data.toList=l:=Dn
theorem aLh(s:ByteArray)(w:World)(he:Env w)(h2:1<s.size)(h0:((s[0].toNat:Int) == 32)=false)(h1:((s[1].toNat:Int) == 32)=false)(hc:Lib.contains wG (s.data.toList.take 2)=true):
  Calls prog 157 #[.string s] w λe w'=>e=.returned (aE9 s 2) /\ Below w.heap.size w w':=by
 have h0':((s[0].toNat:Int) != 32)=true:=by simp at h0⊢;exact h0
 have h1':((s[1].toNat:Int) != 32)=true:=by simp at h1⊢;exact h1
 have h2':(1:Int)<s.size:=J
 have hx:=pY s 2
 have hbd:=jR (s.data.toList.take 2)
 go_enter func157,Tryz.ntmps157
 go_wp2_with (first|(go_at_call 182;refine (nT _ _ (he.alloc _)).mono ?_;rintro e w' ⟨rfl,rfl⟩))
 go_returns
 exact ⟨Y,B8⟩
inductive aH1 (s:ByteArray):Prop
 |short (h:(s.size:Int) <= 1)
 |first (h2:(1:Int)<s.size) (h0:0<s.size) (h:((s[0].toNat:Int) != 32)=false)
 |second (h2:(1:Int)<s.size) (h3:1<s.size) (h0:((s[0].toNat:Int) != 32)=true) (h:((s[1].toNat:Int) != 32)=false)
 |other (h2:(1:Int)<s.size) (h3:1<s.size) (h0:((s[0].toNat:Int) != 32)=true) (h1:((s[1].toNat:Int) != 32)=true) (hc:Lib.contains wG (s.data.toList.take 2)=false)
theorem aK7(s:ByteArray)(w:World)(he:Env w)(h2:0<s.size)(hn:aH1 s)(hb:0 <= Lib.indexByte dW s[0]):
  Calls prog 157 #[.string s] w λe w'=>e=.returned (aE9 s 1) /\ Below w.heap.size w w':=by
 have hx:=pY s 1
 cases hn
 all_goals
  go_enter func157,Tryz.ntmps157
  go_wp2_with (first|(go_at_call 182;refine (nT _ _ (he.alloc _)).mono ?_;rintro e w' ⟨rfl,rfl⟩)|(go_at_call 152;refine (oD _ _).mono ?_;rintro e w' ⟨rfl,rfl⟩))
  go_returns
  exact ⟨Y,B8⟩
theorem aKr(s:ByteArray)(w:World)(he:Env w)(h2:0<s.size)(hn:aH1 s)(hb:Lib.indexByte dW s[0]<0):
  Calls prog 157 #[.string s] w λe w'=>e=.returned (aE9 s 0) /\ Below w.heap.size w w':=by
 have hx:=pY s 1
 cases hn
 all_goals
  go_enter func157,Tryz.ntmps157
  go_wp2_with (first|(go_at_call 182;refine (nT _ _ (he.alloc _)).mono ?_;rintro e w' ⟨rfl,rfl⟩)|(go_at_call 152;refine (oD _ _).mono ?_;rintro e w' ⟨rfl,rfl⟩))
  go_returns
  exact ⟨Y,B8⟩
theorem aHm(c:UInt8):(c≠32 -> ((c.toNat:Int) != 32)=true) /\ (c=32 -> ((c.toNat:Int) != 32)=false):=by
 refine ⟨λh=>?_,λh=>by subst h;rfl⟩
 simp only [bne_iff_ne,ne_eq]
 intro h3;apply h;apply UInt8.toNat_inj.1;show c.toNat=32;omega
theorem aLp(s:ByteArray)(w:World)(he:Env w)(h0:0<s.size):
  Calls prog 157 #[.string s] w λe w'=>e=.returned (aE9 s (jE s.data.toList)) /\ Below w.heap.size w w':=by
 have hl:s.data.toList.length=s.size:=Y
 have hcons:=dR s.data.toList 0 J
 rw [List.drop_zero] at hcons
 have key:aH1 s /\ ¬(2 <= s.data.toList.length /\ s.data.toList.take 2∈fE) -> Calls prog 157 #[.string s] w λe w'=>e=.returned (aE9 s (jE s.data.toList)) /\ Below w.heap.size w w':=by
  rintro ⟨hn,hm⟩
  by_cases hb:Lib.indexByte dW s[0]<0
  ·have:=(vL _).1 hb
   rw [show jE s.data.toList=0 from by rw [hcons] at hm⊢;exact tL hm this]
   exact aKr s w he h0 hn hb
  have:s[0]∈dW:=Classical.byContradiction λh=>hb ((vL _).2 h)
  rw [show jE s.data.toList=1 from by rw [hcons] at hm⊢;exact oR hm this]
  exact aK7 s w he h0 hn J
 by_cases h2:1<s.size
 ·have e2:s.data.toList.take 2=[s[0],s[1]]:=by
   rw [hcons,dR s.data.toList 1 J];rfl
  by_cases ha:s[0]=32
  ·refine key ⟨.first J h0 ((aHm _).2 ha),λh=>?_⟩
   rw [e2] at h;exact (rK _ _ h.2).1 ha
  by_cases hb:s[1]=32
  ·refine key ⟨.second J h2 ((aHm _).1 ha) ((aHm _).2 hb),λh=>?_⟩
   rw [e2] at h;exact (rK _ _ h.2).2 hb
  by_cases hc:Lib.contains wG (s.data.toList.take 2)=true
  ·have hm:s.data.toList.take 2∈fE:=by rw [e2] at hc⊢;exact (aBy _ _ ha hb).1 hc
   rw [pA J hm]
   have h3:=(aHm _).1 ha
   have h4:=(aHm _).1 hb
   exact aLh s w he h2 (by simp at h3⊢;exact h3) (by simp at h4⊢;exact h4) hc
  refine key ⟨.other J h2 ((aHm _).1 ha) ((aHm _).1 hb) (by simpa using hc),λh=>hc ?_⟩
  have hm:=h.2
  rw [e2] at hm⊢;exact (aBy _ _ ha hb).2 hm
 ·exact key ⟨.short J,by rintro ⟨h,_⟩;omega⟩
theorem tF{W w1:World}(hb:Below W.heap.size W w1):(∀b o,b<W.heap.size -> w1.cell? ⟨b,o,none⟩=W.cell? ⟨b,o,none⟩) /\ (∀b o,b<W.heap.size -> w1.frozen? ⟨b,o,none⟩=W.frozen? ⟨b,o,none⟩):=
 ⟨λb o h=>hb.cell (p:=⟨b,o,none⟩) h,λb o h=>hb.frozen (p:=⟨b,o,none⟩) h⟩
def aLn(l:List UInt8)(k num er:Int)(text:ByteArray):Prop:=
 (∃n:Nat,dQ l=.err n /\ er=n /\ n≠0)∨(∃kd len nu:Nat,dQ l=.tok kd len nu /\ er=0 /\ k=kd /\ num=nu /\ text=bytes (l.take len))
def aI3(l:List UInt8)(e:Ending):Prop:=∃(k num er:Int) (text:ByteArray),e=.returned (.tuple #[.agg #[.int .i64 k,.string text,.int .i64 num,.int .i64 0],.int .i64 er]) /\ aLn l k num er text
theorem takeWhile_take{α:Type}(p:α -> Bool)(l:List α):l.take (l.takeWhile p).length=l.takeWhile p:=
 (List.prefix_iff_eq_take.1 (List.takeWhile_prefix p)).symm
theorem kS(s:ByteArray)(h0:0<s.size):s.data.toList=s[0]::s.data.toList.drop 1:=by
 have:=dR s.data.toList 0 (by exact h0)
 rw [List.drop_zero] at this;exact this
theorem aKk(s:ByteArray)(w:World)(hs:s.size <= 9223372036854775807)(he:Env w)(h0:0<s.size)(hl:fU s[0]=true):
  Calls prog 154 #[.string s] w λe w'=>aI3 s.data.toList e /\ Below w.heap.size w w':=by
 refine (aMr s w hs he).mono λe w' ⟨h,hb⟩=>⟨⟨_,_,_,_,h,?_⟩,hb⟩
 have hn:=kK (c:=s[0]) (r:=s.data.toList.drop 1) hl
 rw [←kS s h0] at hn
 by_cases h16:16<(s.data.toList.takeWhile cT).length
 ·rw [if_pos h16] at hn;exact .inl ⟨3,hn,by rw [if_pos h16],J⟩
 rw [if_neg h16] at hn;exact .inr ⟨_,_,_,hn,by rw [if_neg h16];rfl,rfl,rfl,by rw [takeWhile_take]⟩
theorem aEz(s:ByteArray)(w:World)(hs:s.size <= 9223372036854775807)(h0:0<s.size)(hl:fU s[0]=false)(hd:cD s[0]=true):
  Calls prog 156 #[.string s] w λe w'=>aI3 s.data.toList e /\ Below w.heap.size w w':=by
 refine (aHi s w hs).mono λe w' ⟨h,hb⟩=>⟨?_,hb⟩
 obtain ⟨n,_,⟨hn,h⟩|⟨hn,h⟩⟩:=h
 ·refine ⟨_,_,_,_,h,.inl ⟨2,?_,Y,J⟩⟩
  rw [jR] at hn
  rw [kS s h0] at hn;have hq:=nK hl hd hn;rw [←kS s h0] at hq;exact hq
 refine ⟨_,_,_,_,h,.inr ⟨2,(s.data.toList.takeWhile cD).length,n,?_,Y,Y,Y,by rw [takeWhile_take]⟩⟩
 rw [jR] at hn
 rw [kS s h0] at hn;have hq:=lP hl hd hn;rw [←kS s h0] at hq;exact hq
theorem aJ5(s:ByteArray)(w:World)(he:Env w)(h0:0<s.size)(hl:fU s[0]=false)(hd:cD s[0]=false):
  Calls prog 157 #[.string s] w λe w'=>aI3 s.data.toList e /\ Below w.heap.size w w':=by
 refine (aLp s w he h0).mono λe w' ⟨h,hb⟩=>⟨?_,hb⟩
 have hn:=iN (c:=s[0]) (r:=s.data.toList.drop 1) hl hd
 rw [←kS s h0] at hn
 by_cases hz:jE s.data.toList=0
 ·rw [if_pos hz] at hn
  rw [hz] at h;exact ⟨_,_,_,_,h,.inl ⟨1,hn,rfl,J⟩⟩
 rw [if_neg hz] at hn
 refine ⟨_,_,_,_,h,.inr ⟨_,_,_,hn,by rw [if_neg hz],by rw [if_neg hz];rfl,Y,Y⟩⟩
theorem aAf(s:ByteArray)(w:World)(hs:s.size <= 9223372036854775807)(he:Env w)(h0:0<s.size):
  Calls prog 127 #[.string s] w λe w'=>aI3 s.data.toList e /\ Below w.heap.size w w':=by
 by_cases hl:fU s[0]=true
 focus
  go_enter func127,Tryz.ntmps127
  go_wp2_with (first|(go_at_call 153;refine (cZ7 _ _).mono ?_;rintro e w' ⟨rfl,rfl⟩)|(go_at_call 154;refine (aKk _ _ hs (he.alloc _) h0 hl).mono ?_;rintro e w' ⟨⟨k,num,er,text,rfl,hR⟩,hb⟩;have HR:=Lib.hid hR;clear hR;obtain ⟨hc,hf⟩:=tF hb))
 rotate_left
 focus
  have hl':fU s[0]=false:=Dm
  clear hl
  by_cases hd:cD s[0]=true
  focus
   go_enter func127,Tryz.ntmps127
   go_wp2_with (first|(go_at_call 153;refine (cZ7 _ _).mono ?_;rintro e w' ⟨rfl,rfl⟩)|(go_at_call 155;refine (oV _ _).mono ?_;rintro e w' ⟨rfl,rfl⟩)|(go_at_call 156;refine (aEz _ _ hs h0 hl' hd).mono ?_;rintro e w' ⟨⟨k,num,er,text,rfl,hR⟩,hb⟩;have HR:=Lib.hid hR;clear hR;obtain ⟨hc,hf⟩:=tF hb))
  rotate_left
  have hd':cD s[0]=false:=by simpa using hd
  clear hd
  go_enter func127,Tryz.ntmps127
  go_wp2_with (first|(go_at_call 153;refine (cZ7 _ _).mono ?_;rintro e w' ⟨rfl,rfl⟩)|(go_at_call 155;refine (oV _ _).mono ?_;rintro e w' ⟨rfl,rfl⟩)|(go_at_call 157;refine (aJ5 _ _ (he.alloc _) h0 hl' hd').mono ?_;rintro e w' ⟨⟨k,num,er,text,rfl,hR⟩,hb⟩;have HR:=Lib.hid hR;clear hR;obtain ⟨hc,hf⟩:=tF hb))
 all_goals
  refine bodyPost_ret (v:=.tuple #[.agg #[.int .i64 k,.string text,.int .i64 num,.int .i64 0],.int .i64 er]) (by simp [results,Tryz.results127,go_sem,hc]) Y ?_
  exact ⟨⟨_,_,_,_,Y,HR.out⟩,((((Below.refl _ _).alloc (Nat.le_refl _) _).trans (hb.mono G0)).setCell G0 _).setCell G0 _|>.setCell G0 _|>.setCell G0 _⟩
def Tok.cells(t:Tok):List Value:=[.int .i64 t.kind,.string t.text,.int .i64 t.num,.int .i64 t.pos]
def dL(l:List Tok):List Value:=l.flatMap Tok.cells
theorem eP(l:List Tok)(t:Tok):dL l++[.int .i64 t.kind,.string t.text,.int .i64 t.num,.int .i64 t.pos]=dL (l++[t]):=by simp [dL,Tok.cells]
theorem aI5:(prog.info? 154).map (λi=>(i.zero,i.size,i.bytes))=some (some (.agg #[.int .i64 0,.string ⟨#[]⟩,.int .i64 0,.int .i64 0]),4,40):=B6
theorem aKq{l:List UInt8}{k num er:Int}{text:ByteArray}{n:Nat}(h:aLn l k num er text)(hn:dQ l=.err n):er=n /\ (n:Int)≠0:=by
 rcases h with ⟨m,h1,h2,h3⟩|⟨_,_,_,h1,_⟩
 ·rw [hn] at h1;cases h1;exact ⟨h2,J⟩
 rw [hn] at h1;cases h1
theorem aBq{l:List UInt8}{k num er:Int}{text:ByteArray}{a b c:Nat}(h:aLn l k num er text)(hn:dQ l=.tok a b c):er=0 /\ k=a /\ num=c /\ text=bytes (l.take b):=by
 rcases h with ⟨m,h1,h2,h3⟩|⟨_,_,_,h1,h2,h3,h4,h5⟩
 ·rw [hn] at h1;cases h1
 rw [hn] at h1;cases h1;exact ⟨h2,h3,h4,h5⟩
def aY0(w:World)(s:List UInt8)(v:Value)(pos er:Int):Prop:=
 (∃l,iH s=.ok l /\ dD w v l.length (dL l) /\ pos=s.length /\ er=0 /\ l.length <= 4001)∨(∃p e:Nat,iH s=.err p e /\ v=.slice none 0 0 /\ pos=p /\ er=e /\ e≠0)
def aCp(w:World)(N:Nat)(s:List UInt8)(v:Value)(pos er:Int):Prop:=
 (∃l,iH s=.ok l /\ w.ownsRow N 154 4 v l.length (dL l) /\ pos=s.length /\ er=0 /\ l.length <= 4001)∨(∃p e:Nat,iH s=.err p e /\ v=.slice none 0 0 /\ pos=p /\ er=e /\ e≠0)
theorem aCp.r{w:World}{N:Nat}{s:List UInt8}{v:Value}{pos er:Int}(h:aCp w N s v pos er):aY0 w s v pos er:=
 h.imp (λ⟨l,h1,h2,h3⟩=>⟨l,h1,dD.of_owns h2,h3⟩) id
theorem aK5(a:Option Addr)(n cap:Nat)(w:World)(hs:(262144:Int)<n):
  Calls prog 94 #[.slice a n cap] w λe w'=>e=.returned (.tuple #[.slice none 0 0,.int .i64 262144,.int .i64 3]) /\ w=w':=by
 go_enter func94,Tryz.ntmps94
 go_wp2_with fail
 go_step3
 go_wp2_with fail
 rw [Exit.noGoto_ret]
 go_ret3
 exact ⟨Y,Y⟩
theorem aOw(s:ByteArray)(a:Option Addr)(n cap:Nat)(w:World)(he:Env w)(hn:n=s.size)(hs:s.size <= 262144)
  (hcv:(convert 58 9 (.slice a n cap)).run prog w=.ok (.string s) w):
  Calls prog 94 #[.slice a n cap] w λe w'=>(∃v pos er,e=.returned (.tuple #[v,.int .i64 pos,.int .i64 er]) /\ aCp w' w.heap.size s.data.toList v pos er) /\ Below w.heap.size w w':=by
 subst hn
 obtain ⟨i0,hi,hz0,hz1,hz2⟩:=info_parts aI5
 have HS:=Lib.hid (show s.data.toList.length=s.size from Y)
 go_enter func94,Tryz.ntmps94
 go_wp2_with fail
 go_step3
 go_wp2_with fail
 go_step3
 go_wp2_with fail
 go_loopw [6,7] (λv at_ wr=>∃(k:Nat) (toks:List Tok),at_=.int .i64 k /\ k <= s.size /\ wr.ownsRow w.heap.size 154 4 v toks.length (dL toks) /\ kD s.data.toList 0 0=fX.app toks (kD s.data.toList k toks.length) /\ toks.length <= 4000 /\ Below w.heap.size w wr) (λ_ at_ _=>s.size-(intOf at_).toNat)
 case atStart=>exact ⟨0,[],rfl,J,ownsRow_nil _ _ _ _,by rw [fX.app_nil];rfl,G0,Below.refl _ _⟩
 case round=>
  obtain ⟨k,toks,rfl,hk,hown,hlx,hlen,hbel⟩:=hrel
  have heW:Env wr:=he.below hbel he.size
  obtain ⟨oa,oc,rfl⟩:=lR hown
  have hge:=lG s.data.toList k hk
  have HLX:=Lib.hid hlx
  clear hlx hcv
  by_cases hend:s.size <= bF s.data.toList k
  ·go_wp2_with (first|(go_at_call 126;refine (uH _ _ _ J hk).mono ?_;rintro e w' ⟨rfl,rfl⟩)|(at_builtin;refine wpList_append_own _ rfl _ _ 139 rfl w.heap.size 154 i0 _ 4 40 underlying139 hi hz0 hz1 hz2 rfl V _ toks.length (dL toks) rfl (ownsRow_below hown ((Below.refl _ _).alloc (Nat.le_refl _) _) (Nat.le_refl _)) ⟨wr.heap.size,0,none⟩ 1 1 [.int .i64 5,.string ⟨#[]⟩,.int .i64 0,.int .i64 s.size] rfl rfl (sK _ _ _) Bz B1 J Df ?_))
   intro v' w1 hown1 hgrow _
   have hb1:Below w.heap.size w w1:=Below.grow (hbel.alloc hbel.size _) hgrow Df (ownsRow_below hown ((Below.refl _ _).alloc (Nat.le_refl _) _) (Nat.le_refl _)) (Nat.le_refl _)
   clear hgrow
   go_wp2_with fail
   rw [Exit.noGoto_ret]
   go_ret3
   refine ⟨⟨_,_,_,Y,.inl ⟨toks++[⟨5,⟨#[]⟩,0,s.size⟩],?_,?_,by rw [HS.out],Y,DR⟩⟩,hb1⟩
   ·unfold iH
    rw [if_neg Fl,HLX.out,dAd (by rw [HS.out];exact hend),HS.out];rfl
   have:=hown1
   rw [←eP];simpa using this
  have hlt:bF s.data.toList k<s.size:=J
  have hx:s.extract (bF s.data.toList k) s.size=bytes (s.data.toList.drop (bF s.data.toList k)):=by
   have:=ByteArray.extract_mk s.data.toList (bF s.data.toList k) s.size
   rw [show (ByteArray.mk s.data.toList.toArray)=s from by simp] at this
   rw [this,bytes];congr 2;exact take_of_length_le (by rw [List.length_drop,HS.out];omega)
  have hsz:(bytes (s.data.toList.drop (bF s.data.toList k))).size=s.size-bF s.data.toList k:=by rw [bytes];show (List.drop _ _).toArray.size=_;rw [List.size_toArray,List.length_drop,HS.out]
  have HZ:=Lib.hid hsz
  have hbd:=jR (s.data.toList.drop (bF s.data.toList k))
  have HD:=Lib.hid hbd
  clear hsz hbd
  cases hnx:dQ (s.data.toList.drop (bF s.data.toList k)) with
  |err en=>
   have HN:=Lib.hid hnx
   clear hnx
   go_wp2_with (first|(go_at_call 126;refine (uH _ _ _ J hk).mono ?_;rintro e w' ⟨rfl,rfl⟩)|(go_at_call 127;refine (aAf _ _ Cx heW Cx).mono ?_;rintro e w1 ⟨⟨kd,num,er,text,rfl,hR⟩,hb⟩;rw [HD.out] at hR;obtain ⟨rfl,hne⟩:=aKq hR HN.out;clear hR;obtain ⟨hc,hf⟩:=tF hb))
   rw [Exit.noGoto_ret]
   go_ret3
   refine ⟨⟨_,_,_,Y,.inr ⟨bF s.data.toList k,en,?_,Y,Y,Y,J⟩⟩,(hbel.trans (hb.mono hbel.size)).alloc (Nat.le_trans hbel.size hb.size) _⟩
   unfold iH
   rw [if_neg Fl,HLX.out,uY E4 HN.out];rfl
  |tok nk len nu=>
   have hl1:=cZy (by intro h;have:=congrArg List.length h;rw [List.length_drop,HS.out] at this;simp at this;omega) hnx
   rw [List.length_drop,HS.out] at hl1
   have HN:=Lib.hid hnx
   clear hnx
   have htx:(bytes ((s.data.toList.drop (bF s.data.toList k)).take len)).size=len:=by
    rw [bytes];show (List.take _ _).toArray.size=_;rw [List.size_toArray,List.length_take,List.length_drop,HS.out];omega
   by_cases hfull:toks.length=4000
   ·have hf1:((toks.length:Int) == 4000)=true:=EQ
    have HF:=Lib.hid hfull
    clear hfull htx
    go_wp2_with (first|(go_at_call 126;refine (uH _ _ _ J hk).mono ?_;rintro e w' ⟨rfl,rfl⟩)|(go_at_call 127;refine (aAf _ _ Cx heW Cx).mono ?_;rintro e w1 ⟨⟨kd,num,er,text,rfl,hR⟩,hb⟩;rw [HD.out] at hR;obtain ⟨rfl,rfl,rfl,rfl⟩:=aBq hR HN.out;clear hR;obtain ⟨hc,hf⟩:=tF hb))
    rw [Exit.noGoto_ret]
    go_ret3
    refine ⟨⟨_,_,_,Y,.inr ⟨bF s.data.toList k,3,?_,Y,Y,Y,J⟩⟩,(hbel.trans (hb.mono hbel.size)).alloc (Nat.le_trans hbel.size hb.size) _⟩
    unfold iH
    rw [if_neg Fl,HLX.out,HF.out,sG E4 HN.out];rfl
   have hf1:((toks.length:Int) == 4000)=false:=DG
   have HF:=Lib.hid hfull
   have hlen2:toks.length<4000:=J
   clear hfull
   go_wp2_with (first|(go_at_call 126;refine (uH _ _ _ J hk).mono ?_;rintro e w' ⟨rfl,rfl⟩)|(go_at_call 127;refine (aAf _ _ Cx heW Cx).mono ?_;rintro e w1 ⟨⟨kd,num,er,text,rfl,hR⟩,hb⟩;rw [HD.out] at hR;obtain ⟨rfl,rfl,rfl,rfl⟩:=aBq hR HN.out;clear hR;obtain ⟨hc,hf⟩:=tF hb)|(at_builtin;refine wpList_append_own _ rfl _ _ 139 rfl w.heap.size 154 i0 _ 4 40 underlying139 hi hz0 hz1 hz2 rfl V _ toks.length (dL toks) rfl (ownsRow_below hown ((hb.alloc hb.size _).alloc (by have:=hb.size;simp;omega) _) (Nat.le_refl _)) ⟨w1.heap.size+1,0,none⟩ 1 1 [.int .i64 nk,.string (bytes ((s.data.toList.drop (bF s.data.toList k)).take len)),.int .i64 nu,.int .i64 (bF s.data.toList k)] rfl rfl (bXs _ _ _ _ G0) Bz B1 J CX ?_))
   intro v' w2 hown2 hgrow _
   have hb2:Below w.heap.size w w2:=Below.grow (((hbel.trans (hb.mono hbel.size)).alloc (Nat.le_trans hbel.size hb.size) _).alloc CX _) hgrow CX (ownsRow_below hown ((hb.alloc hb.size _).alloc (by have:=hb.size;simp;omega) _) (Nat.le_refl _)) (Nat.le_refl _)
   have hcw:∀o,w2.cell? ⟨w1.heap.size,o,none⟩=((w1.alloc (Obj.cells #[.int .i64 nk,.string (bytes ((s.data.toList.drop (bF s.data.toList k)).take len)),.int .i64 nu,.int .i64 (bF s.data.toList k)] 154)).cell? ⟨w1.heap.size,o,none⟩):=by
    intro o
    rw [aKa hgrow hown hb.size DR o]
    exact (Below.alloc (B:=(w1.alloc (Obj.cells #[.int .i64 nk,.string (bytes ((s.data.toList.drop (bF s.data.toList k)).take len)),.int .i64 nu,.int .i64 (bF s.data.toList k)] 154)).heap.size) (Below.refl _ _) (Nat.le_refl _) _).cell (p:=⟨w1.heap.size,o,none⟩) G0
   clear hgrow
   go_wp2_with fail
   go_roundw
   case rel=>
    refine ⟨bF s.data.toList k+len,toks++[⟨nk,bytes ((s.data.toList.drop (bF s.data.toList k)).take len),nu,bF s.data.toList k⟩],C8,J,?_,?_,DR,hb2⟩
    ·rw [←eP];simpa using hown2
    rw [HLX.out,nD (by rw [HS.out];exact hk) E4 HN.out HF.out,fX.app_cons];simp
   case measure=>simp [intOf];omega
theorem aN1(a:Option Addr)(n cap:Nat)(w:World)(s:List UInt8)(hn:n=s.length)(hs:262144<n):
  Calls prog 94 #[.slice a n cap] w λe w'=>(∃v pos er,e=.returned (.tuple #[v,.int .i64 pos,.int .i64 er]) /\ aCp w' w.heap.size s v pos er) /\ Below w.heap.size w w':=by
 refine (aK5 a n cap w J).mono λe w' ⟨h,hw⟩=>?_
 subst hw
 refine ⟨⟨_,_,_,h,.inr ⟨262144,3,?_,Y,Y,Y,J⟩⟩,Below.refl _ _⟩
 unfold iH;rw [if_pos J]
theorem aOn(s:List UInt8)(v:Value)(w:World)(he:Env w)(hv:dD w v s.length (s.map λc=>.int .u8 c.toNat)):
  Calls prog 94 #[v] w λe w'=>(∃v pos er,e=.returned (.tuple #[v,.int .i64 pos,.int .i64 er]) /\ aCp w' w.heap.size s v pos er) /\ Below w.heap.size w w':=by
 obtain ⟨a,cap,rfl,hc,hcells⟩:=hv
 by_cases hs:262144<s.length
 ·exact aN1 a _ cap w s Y hs
 have hconv:(convert 58 9 (.slice a s.length cap)).run prog w=.ok (.string (bytes s)) w:=by
  rcases hcells with h0|⟨b,off,rfl,hr⟩
  ·obtain rfl:s=[]:=by simpa using h0
   cases a with
   |none=>exact run_convert_bytes_nil w _ _ underlying58 underlying5 _ _ _ underlying9
   |some a=>
    have hl:=run_loadCells_list (P:=prog) w a [] Fc
    rw [run_convert_bytes_string w _ _ _ _ _ _ underlying58 underlying5 underlying9,length_nil,run_bytesToString w a 0 cap [] Dm]
    rfl
  rw [run_convert_bytes_arg w _ _ underlying58 underlying5 b off s.length cap (s.map λc=>(c.toNat:Int)) G0 ?_ _ underlying9]
  ·rw [strOfNums,List.map_map,bytes];congr 3;rw [show ((λn:Int=>UInt8.ofNat n.toNat) ∘ λc:UInt8=>(c.toNat:Int))=id from by funext c;simp];simp
  intro i hi
  rw [hr i (.int .u8 s[i].toNat) (by simp [hi])];simp [hi]
 have:=aOw (bytes s) a s.length cap w he Co (by show (List.toArray s).size <= _;rw [List.size_toArray];omega) hconv
 rw [jR] at this;exact this
def cC(s:List UInt8):List Value:=s.map λc=>.int .u8 c.toNat
theorem ByteRow.cell{w:World}{b off:Nat}{s:List UInt8}(h:∀j u,(cC s)[j]?=some u -> w.cell? ⟨b,off+j,none⟩=some u)(k:Nat)(hk:k<s.length):w.cell? ⟨b,off+k,none⟩=some (.int .u8 s[k].toNat):=
 h k _ (by simp [cC,hk])
theorem eL(c:UInt8)(w:World):
  Calls prog 81 #[.int .u8 c.toNat] w λe w'=>e=.returned (.bool (fU c)) /\ w=w':=by
 unfold fU
 generalize (c.toNat:Int)=n
 go_enter func81,Tryz.ntmps81
 go_wp2
 all_goals (go_ret;refine ⟨kB ?_,rfl⟩;simp;try omega)
theorem fJ(c:UInt8)(w:World):
  Calls prog 82 #[.int .u8 c.toNat] w λe w'=>e=.returned (.bool (cD c)) /\ w=w':=by
 unfold cD
 generalize (c.toNat:Int)=n
 go_enter func82,Tryz.ntmps82
 go_wp2
 all_goals (go_ret;refine ⟨kB ?_,rfl⟩;simp;try omega)
theorem aAx(zs:List ByteArray)(x:ByteArray)(k:Nat)(hk:k<zs.length)(h:x∈zs↔x∈zs.drop k):(zs[k]=x -> x∈zs) /\ (zs[k]≠x -> (x∈zs↔x∈zs.drop (k+1))):=by
 refine ⟨λe=>e▸getElem_mem hk,λe=>?_⟩
 rw [h,List.drop_eq_getElem_cons hk,mem_cons]
 exact ⟨λh=>h.resolve_left (λe'=>e e'.symm),.inr⟩
theorem aDm(zs:List ByteArray)(x:ByteArray)(v:Value)(w:World)(hv:dD w v zs.length (zs.map .string))(hn:zs.length <= 9223372036854775807):
  Calls prog 113 #[v,.string x] w λe w'=>e=.returned (.bool (zs.any λy=>decide (y=x))) /\ w=w':=by
 obtain ⟨a,cap,rfl,hc,hr⟩:=hv
 go_enter func113,Tryz.ntmps113
 go_wp2_with fail
 go_loop [5] (λv=>∃k:Nat,k <= zs.length /\ v=.int .i64 k /\ (x∈zs↔x∈zs.drop k)) (λv=>zs.length-(intOf v).toNat)
 case atStart=>exact ⟨0,J,rfl,G0⟩
 case round=>
  obtain ⟨k,hk,rfl,hm⟩:=hrel
  have HM:=Lib.hid hm
  clear hm
  by_cases hlt:k<zs.length
  ·rcases hr with h0|⟨b,off,rfl,hr⟩
   ·have:zs.length=0:=by simpa using congrArg List.length h0
    omega
   have hcell:=hr k (.string zs[k]) (by simp [hlt])
   clear hr
   have hst:=aAx zs x k hlt HM.out
   have HST:=Lib.hid hst
   clear hst
   by_cases he:zs[k]=x
   ·have hm:=HST.out.1 he
    have HM2:=Lib.hid hm
    clear hm
    have hq:=zZ he
    clear he
    go_wp2_with fail
    go_ret
    refine ⟨kB ?_,Y⟩
    simp [HM2.out]
   have hq:=xB he
   have HE:=Lib.hid he
   clear he
   go_wp2_with fail
   go_round
   case rel=>exact ⟨k+1,J,C8,HST.out.2 HE.out⟩
   case measure=>simp [intOf];omega
  clear hr
  go_wp2_with fail
  go_ret
  refine ⟨kB ?_,Y⟩
  have:x∉zs:=by rw [HM.out,List.drop_eq_nil_of_le J];simp
  simp [this]
theorem oN(s:ByteArray)(w:World):
  Calls prog 83 #[.string s] w λe w'=>e=.returned (.bool (dA s)) /\ Below w.heap.size w w':=by
 go_enter func83,Tryz.ntmps83
 go_wp2_with (first|(go_at_call 113;refine (aDm words _ _ _ (dD.new w (words.map .string) 9 11) V).mono ?_;rintro e w' ⟨rfl,rfl⟩))
 go_ret
 exact ⟨Y,B8⟩
theorem aK0(s:List UInt8)(k0:Nat)(v:Value)(w:World)(hv:dD w v s.length (cC s))(hs:s.length <= 1000000)(hk:k0 <= s.length):
  Calls prog 80 #[v,.int .i64 k0] w λe w'=>e=.returned (.int .i64 (bF s k0)) /\ w=w':=by
 obtain ⟨a,cap,rfl,hc,hr⟩:=hv
 go_enter func80,Tryz.ntmps80
 go_wp2_with fail
 go_loop [1] (λv=>∃k:Nat,k <= s.length /\ v=.int .i64 k /\ bF s k=bF s k0) (λv=>s.length-(intOf v).toNat)
 case atStart=>exact ⟨k0,hk,rfl,rfl⟩
 case round=>
  obtain ⟨k,hk,rfl,hm⟩:=hrel
  have HM:=Lib.hid hm
  clear hm
  by_cases hlt:k<s.length
  ·rcases hr with h0|⟨b,off,rfl,hr⟩
   ·have:s.length=0:=CY
    omega
   have hcell:=ByteRow.cell hr k hlt
   have HR:=Lib.hid hr
   clear hr
   cases hsp:isSp s[k] with
   |true=>
    have hn:=aGh s k hlt hsp
    have HN:=Lib.hid hn
    simp only [isSp,decide_eq_true_eq] at hsp
    clear hn
    rcases hsp with h|h|h|h
    ·have e32:((s[k].toNat:Int) == 32)=true:=C7
     clear h
     go_wp2_with fail
     go_round
     case rel=>exact ⟨k+1,J,C8,HN.out.trans HM.out⟩
     case measure=>simp [intOf];omega
    ·have e32:((s[k].toNat:Int) == 32)=false:=C7
     have e9:((s[k].toNat:Int) == 9)=true:=C7
     clear h
     go_wp2_with fail
     go_round
     case rel=>exact ⟨k+1,J,C8,HN.out.trans HM.out⟩
     case measure=>simp [intOf];omega
    ·have e32:((s[k].toNat:Int) == 32)=false:=C7
     have e9:((s[k].toNat:Int) == 9)=false:=C7
     have e10:((s[k].toNat:Int) == 10)=false:=C7
     have e13:((s[k].toNat:Int) == 13)=true:=C7
     clear h
     go_wp2_with fail
     go_round
     case rel=>exact ⟨k+1,J,C8,HN.out.trans HM.out⟩
     case measure=>simp [intOf];omega
    ·have e32:((s[k].toNat:Int) == 32)=false:=C7
     have e9:((s[k].toNat:Int) == 9)=false:=C7
     have e10:((s[k].toNat:Int) == 10)=true:=C7
     clear h
     go_wp2_with fail
     go_round
     case rel=>exact ⟨k+1,J,C8,HN.out.trans HM.out⟩
     case measure=>simp [intOf];omega
   |false=>
    have HP:=Lib.hid hsp
    simp only [isSp,decide_eq_false_iff_not,not_or] at hsp
    have f1:((s[k].toNat:Int) == 32)=false:=by rw [beq_eq_false_iff_ne];exact hsp.1
    have f2:((s[k].toNat:Int) == 9)=false:=by rw [beq_eq_false_iff_ne];exact hsp.2.1
    have f3:((s[k].toNat:Int) == 13)=false:=by rw [beq_eq_false_iff_ne];exact hsp.2.2.1
    have f4:((s[k].toNat:Int) == 10)=false:=by rw [beq_eq_false_iff_ne];exact hsp.2.2.2
    clear hsp
    have stop:¬(∃h2:k+1<s.length,s[k]=47 /\ s[k+1]=47) -> bF s k0=k:=λh=>by rw [←HM.out];exact zX s k hlt HP.out (aGs hlt h)
    have STOP:=Lib.hid stop
    clear stop
    by_cases h1:s.length <= k+1
    ·have g1:(s.length:Int) <= k+1:=J
     have hst:=STOP.out (by rintro ⟨h,_⟩;omega)
     have HST:=Lib.hid hst
     clear hst h1
     go_wp2_with fail
     go_ret
     exact ⟨cZn (by rw [HST.out]),Y⟩
    have g1:(k:Int)+1<s.length:=J
    have h1':k+1<s.length:=J
    clear h1
    by_cases h2:s[k]=47
    ·have g2:=((aJ1 s[k] 47 47 Y J).1 h2).1
     have hcell2:=ByteRow.cell HR.out (k+1) h1'
     have hcell3:=hcell2
     rw [←Nat.add_assoc] at hcell3
     by_cases h3:s[k+1]=47
     ·have g3:=((aJ1 s[k+1] 47 47 Y J).1 h3).1
      have H2:=Lib.hid h2
      have H3:=Lib.hid h3
      clear h2 h3
      go_wp2_with fail
      go_hide hQ
      go_loop [1] (λv=>∃j:Nat,k <= j /\ j <= s.length /\ v=.int .i64 j /\ (s.drop k).dropWhile (·!= 10)=(s.drop j).dropWhile (·!= 10)) (λv=>s.length-(intOf v).toNat)
      case atStart=>exact ⟨k,J,J,rfl,rfl⟩
      case round=>
       obtain ⟨j,hkj,hj,rfl,hd⟩:=hrel
       have HD:=Lib.hid hd
       clear hd hcell2 hcell3 hcell
       have fin:(s.drop k).dropWhile (·!= 10)=s.drop j -> bF s j=bF s k0:=λh=>(aHj s k j h1' H2.out H3.out h).trans HM.out
       have FIN:=Lib.hid fin
       clear fin
       by_cases hje:j<s.length
       ·have hcell:=ByteRow.cell HR.out j hje
        have hst:=aK3 s k j hje HD.out
        have HST:=Lib.hid hst
        clear hst
        by_cases h10:s[j]=10
        ·have e10:=((aJ1 s[j] 10 10 Y J).1 h10).2
         have hfin:=FIN.out (HST.out.1 h10)
         have hne:k≠j:=by rintro rfl;rw [H2.out] at h10;exact absurd h10 V
         have HF:=Lib.hid hfin
         clear hfin h10
         go_wp2_with fail
         subst hQ
         go_wp2_with fail
         go_round
         case rel=>exact ⟨j,J,rfl,HF.out⟩
         case measure=>simp [intOf];omega
        have e10:=((aJ1 s[j] 10 10 Y J).2 h10).2
        have hnx:=HST.out.2 h10
        have HNX:=Lib.hid hnx
        clear hnx h10
        go_wp2_with fail
        go_round
        case rel=>exact ⟨j+1,J,J,C8,HNX.out⟩
        case measure=>simp [intOf];omega
       have hfin:=FIN.out (by rw [HD.out,List.drop_eq_nil_of_le J];rfl)
       have HF:=Lib.hid hfin
       clear hfin
       go_wp2_with fail
       subst hQ
       go_wp2_with fail
       go_round
       case rel=>exact ⟨j,J,rfl,HF.out⟩
       case measure=>simp [intOf];omega
     have g3:=((aJ1 s[k+1] 47 47 Y J).2 h3).1
     have hst:=STOP.out (by rintro ⟨_,_,h⟩;exact h3 h)
     have HST:=Lib.hid hst
     clear hst h2 h3
     go_wp2_with fail
     go_ret
     exact ⟨cZn (by rw [HST.out]),Y⟩
    have g2:=((aJ1 s[k] 47 47 Y J).2 h2).1
    have hst:=STOP.out (by rintro ⟨_,h,_⟩;exact h2 h)
    have HST:=Lib.hid hst
    clear hst h2
    go_wp2_with fail
    go_ret
    exact ⟨cZn (by rw [HST.out]),Y⟩
  clear hr
  go_wp2_with fail
  go_ret
  exact ⟨cZn (by rw [←HM.out,aA5 _ _ J];omega),Y⟩
theorem aHa(t:List UInt8)(k n:Nat)(hk:k<t.length)(h:iT 0 t=iT n (t.drop k)):
  ((9223372036854775807-(t[k].toNat-48))/10<n -> iT 0 t=none) /\ (¬(9223372036854775807-(t[k].toNat-48))/10<n -> iT 0 t=iT (10*n+(t[k].toNat-48)) (t.drop (k+1))):=by
 rw [dR _ k hk,iT] at h
 refine ⟨λhn=>?_,λhn=>?_⟩
 ·rw [h];exact if_pos hn
 rw [h];exact if_neg hn
def xU(t:List UInt8):Int:=match iT 0 t with|none=>-1|some n=>n
theorem aFd(t:List UInt8)(v:Value)(w:World)(hv:dD w v t.length (cC t))(hs:t.length <= 1000000)(hd:∀c∈t,cD c=true):
  Calls prog 84 #[v] w λe w'=>e=.returned (.int .i64 (xU t)) /\ w=w':=by
 obtain ⟨a,cap,rfl,hc,hr⟩:=hv
 have HA:=Lib.hid hd
 clear hd
 go_enter func84,Tryz.ntmps84
 go_wp2_with fail
 go_loop [3,4] (λu v=>∃k n:Nat,k <= t.length /\ v=.int .i64 k /\ u=.int .i64 n /\ n <= 9223372036854775807 /\ iT 0 t=iT n (t.drop k)) (λ_ v=>t.length-(intOf v).toNat)
 case atStart=>exact ⟨0,0,J,rfl,rfl,J,rfl⟩
 case round=>
  obtain ⟨k,n,hk,rfl,rfl,hn,hv⟩:=hrel
  by_cases hlt:k<t.length
  ·rcases hr with h0|⟨b,off,rfl,hr⟩
   ·have:t.length=0:=CY
    omega
   have hcell:=ByteRow.cell hr k hlt
   clear hr
   have hst:=aHa t k n hlt hv
   have hd:cD t[k]=true:=HA.out _ (getElem_mem hlt)
   have HS:=Lib.hid hst
   clear hst hv
   simp only [cD,decide_eq_true_eq] at hd
   obtain ⟨hd1,hd2⟩:=hd
   by_cases hov:(9223372036854775807-(t[k].toNat-48))/10<n
   ·have hov':(9223372036854775807-((t[k].toNat:Int)-48))/10<(n:Int):=J
    have HO:=Lib.hid hov
    clear hov
    go_wp2_with fail
    go_ret
    exact ⟨cZn (by rw [xU,HS.out.1 HO.out]),Y⟩
   have hov':(n:Int) <= (9223372036854775807-((t[k].toNat:Int)-48))/10:=J
   have HO:=Lib.hid hov
   clear hov
   go_wp2_with fail
   go_round
   case rel=>exact ⟨k+1,10*n+(t[k].toNat-48),J,C8,C8,J,HS.out.2 HO.out⟩
   case measure=>simp [intOf];omega
  have HV:=Lib.hid hv
  clear hv hr
  go_wp2_with fail
  go_ret
  refine ⟨cZn ?_,Y⟩
  rw [xU,HV.out,List.drop_eq_nil_of_le J,iT]
theorem zN(t:List UInt8)(a:Option Addr)(cap:Nat)(w:World)(hv:cC t=[]∨∃b off,a=some ⟨b,off,none⟩ /\ ∀j u,(cC t)[j]?=some u -> w.cell? ⟨b,off+j,none⟩=some u):
  (convert 58 9 (.slice a t.length cap)).run prog w=.ok (.string (bytes t)) w:=by
 rcases hv with h0|⟨b,off,rfl,hr⟩
 ·obtain rfl:t=[]:=by simpa [cC] using h0
  cases a with
  |none=>exact run_convert_bytes_nil w _ _ underlying58 underlying5 _ _ _ underlying9
  |some a=>
   have hl:=run_loadCells_list (P:=prog) w a [] Fc
   rw [run_convert_bytes_string w _ _ _ _ _ _ underlying58 underlying5 underlying9,length_nil,run_bytesToString w a 0 cap [] Dm]
   rfl
 rw [run_convert_bytes_arg w _ _ underlying58 underlying5 b off t.length cap (t.map λc=>(c.toNat:Int)) G0 ?_ _ underlying9]
 ·rw [strOfNums,List.map_map,bytes];congr 3;rw [show ((λn:Int=>UInt8.ofNat n.toNat) ∘ λc:UInt8=>(c.toNat:Int))=id from by funext c;simp];simp
 intro i hi
 rw [ByteRow.cell hr i hi];simp [hi]
theorem aIo{w:World}{b off:Nat}{s:List UInt8}(h:∀j u,(cC s)[j]?=some u -> w.cell? ⟨b,off+j,none⟩=some u)(i n:Nat):
  ∀j u,(cC ((s.drop i).take n))[j]?=some u -> w.cell? ⟨b,off+i+j,none⟩=some u:=by
 intro j u hu
 have:(cC s)[i+j]?=some u:=by
  simp only [cC,List.getElem?_map,List.getElem?_take,List.getElem?_drop] at hu⊢
  split at hu
  ·exact hu
  simp at hu
 rw [Nat.add_assoc];exact h _ _ this
def tO:List ByteArray:=[⟨#[60,61]⟩,⟨#[62,61]⟩,⟨#[61,61]⟩,⟨#[33,61]⟩,⟨#[38,38]⟩,⟨#[124,124]⟩]
def nU:List ByteArray:=[⟨#[40]⟩,⟨#[41]⟩,⟨#[123]⟩,⟨#[125]⟩,⟨#[91]⟩,⟨#[93]⟩,⟨#[44]⟩,⟨#[59]⟩,⟨#[61]⟩,⟨#[43]⟩,⟨#[45]⟩,⟨#[42]⟩,⟨#[47]⟩,⟨#[37]⟩,⟨#[60]⟩,⟨#[62]⟩,⟨#[33]⟩]
theorem bytes_inj{a b:List UInt8}(h:bytes a=bytes b):a=b:=by
 have:=congrArg (λx=>x.data.toList) h
 simpa [bytes] using this
theorem aBu(L:List (List UInt8))(x:List UInt8):((L.map bytes).any λy=>decide (y=bytes x))=decide (x∈L):=by
 rw [Bool.eq_iff_iff,List.any_eq_true]
 simp only [List.mem_map,decide_eq_true_eq]
 constructor
 ·rintro ⟨y,⟨z,hz,rfl⟩,h⟩;rw [←bytes_inj h];exact hz
 intro h;exact ⟨_,⟨x,h,rfl⟩,rfl⟩
theorem iR{s:List UInt8}{b off:Nat}{w:World}(hr:∀j u,(cC s)[j]?=some u -> w.cell? ⟨b,off+j,none⟩=some u)(i n cap:Nat)(hin:i+n <= s.length)(w':World)(hw:∀o,w'.cell? ⟨b,o,none⟩=w.cell? ⟨b,o,none⟩):
  (convert 58 9 (.slice (some ⟨b,off+i,none⟩) n cap)).run prog w'=.ok (.string (bytes ((s.drop i).take n))) w':=by
 have hl:((s.drop i).take n).length=n:=EM
 have:=zN ((s.drop i).take n) (some ⟨b,off+i,none⟩) cap w' (.inr ⟨b,off+i,rfl,λj u hu=>by rw [hw];exact aIo hr i n j u hu⟩)
 rw [hl] at this;exact this
theorem aB6(w:World)(x:ByteArray)(q:Bool)(hq:(tO.any λy=>decide (y=x))=q):
  Calls prog 113 #[.slice (some ⟨w.heap.size,0,none⟩) 6 6,.string x] (w.alloc (Obj.cells #[Value.string ⟨#[60,61]⟩,Value.string ⟨#[62,61]⟩,Value.string ⟨#[61,61]⟩,Value.string ⟨#[33,61]⟩,Value.string ⟨#[38,38]⟩,Value.string ⟨#[124,124]⟩] 9)) λe w'=>e=.returned (.bool q) /\ w.alloc (Obj.cells #[Value.string ⟨#[60,61]⟩,Value.string ⟨#[62,61]⟩,Value.string ⟨#[61,61]⟩,Value.string ⟨#[33,61]⟩,Value.string ⟨#[38,38]⟩,Value.string ⟨#[124,124]⟩] 9)=w':=by
 subst hq;exact aDm tO x _ _ (dD.new w (tO.map .string) 9 6) V
theorem xM(w:World)(x:ByteArray)(k:Nat)(hk:k=w.heap.size)(q:Bool)(hq:(nU.any λy=>decide (y=x))=q):
  Calls prog 113 #[.slice (some ⟨k,0,none⟩) 17 17,.string x] (w.alloc (Obj.cells #[Value.string ⟨#[40]⟩,Value.string ⟨#[41]⟩,Value.string ⟨#[123]⟩,Value.string ⟨#[125]⟩,Value.string ⟨#[91]⟩,Value.string ⟨#[93]⟩,Value.string ⟨#[44]⟩,Value.string ⟨#[59]⟩,Value.string ⟨#[61]⟩,Value.string ⟨#[43]⟩,Value.string ⟨#[45]⟩,Value.string ⟨#[42]⟩,Value.string ⟨#[47]⟩,Value.string ⟨#[37]⟩,Value.string ⟨#[60]⟩,Value.string ⟨#[62]⟩,Value.string ⟨#[33]⟩] 9)) λe w'=>e=.returned (.bool q) /\ w.alloc (Obj.cells #[Value.string ⟨#[40]⟩,Value.string ⟨#[41]⟩,Value.string ⟨#[123]⟩,Value.string ⟨#[125]⟩,Value.string ⟨#[91]⟩,Value.string ⟨#[93]⟩,Value.string ⟨#[44]⟩,Value.string ⟨#[59]⟩,Value.string ⟨#[61]⟩,Value.string ⟨#[43]⟩,Value.string ⟨#[45]⟩,Value.string ⟨#[42]⟩,Value.string ⟨#[47]⟩,Value.string ⟨#[37]⟩,Value.string ⟨#[60]⟩,Value.string ⟨#[62]⟩,Value.string ⟨#[33]⟩] 9)=w':=by
 subst hq;exact aDm nU x _ _ (dD.new_at w (nU.map .string) 9 17 k hk) V
theorem aL1(n k b off cap:Nat)(w:World)(x1 x2:ByteArray)(hk:k<n)(hc:n <= cap)(hcm:cap <= 9223372036854775807)(hn:n <= 1000000)(hkc:¬cap=k)(g2:(k:Int)+1<n)(hcv1:∀O,(convert 58 9 (.slice (some ⟨b,off+k,none⟩) 2 (cap-k))).run prog (w.alloc O)=.ok (.string x2) (w.alloc O))(ha:(tO.any λy=>decide (y=x2))=true):
  Calls prog 85 #[.slice (some ⟨b,off,none⟩) n cap,.int .i64 k] w λe w'=>e=.returned (.int .i64 2) /\ Below w.heap.size w w':=by
 have HA:=Lib.hid ha
 clear ha
 go_enter func85,Tryz.ntmps85
 go_wp2_with (first|(go_at_call 113;((with_reducible refine (aB6 _ _ _ HA.out).mono ?_);rintro e w' ⟨rfl,rfl⟩)))
 go_ret
 exact ⟨Y,B8⟩
theorem aL6(n k b off cap:Nat)(w:World)(x1 x2:ByteArray)(hk:k<n)(hc:n <= cap)(hcm:cap <= 9223372036854775807)(hn:n <= 1000000)(hkc:¬cap=k)(q:Bool)(g2:(k:Int)+1<n)(hcv1:∀O,(convert 58 9 (.slice (some ⟨b,off+k,none⟩) 2 (cap-k))).run prog (w.alloc O)=.ok (.string x2) (w.alloc O))(hcv2:∀O O',(convert 58 9 (.slice (some ⟨b,off+k,none⟩) 1 (cap-k))).run prog ((w.alloc O).alloc O')=.ok (.string x1) ((w.alloc O).alloc O'))(ha:(tO.any λy=>decide (y=x2))=false)(ha1:(nU.any λy=>decide (y=x1))=q):
  Calls prog 85 #[.slice (some ⟨b,off,none⟩) n cap,.int .i64 k] w λe w'=>e=.returned (.int .i64 (if q then 1 else 0)) /\ Below w.heap.size w w':=by
 have HA:=Lib.hid ha
 clear ha
 have HA1:=Lib.hid ha1
 clear ha1
 go_enter func85,Tryz.ntmps85
 go_wp2_with (first|(go_at_call 113;((with_reducible refine (aB6 _ _ _ HA.out).mono ?_);rintro e w' ⟨rfl,rfl⟩))|(go_at_call 113;((with_reducible refine (xM _ _ _ G0 _ HA1.out).mono ?_);rintro e w' ⟨rfl,rfl⟩)))
 all_goals (go_ret;exact ⟨by simp [*],B8⟩)
theorem aLz(n k b off cap:Nat)(w:World)(x1 x2:ByteArray)(hk:k<n)(hc:n <= cap)(hcm:cap <= 9223372036854775807)(hn:n <= 1000000)(hkc:¬cap=k)(q:Bool)(g2:(n:Int) <= k+1)(hcv3:∀O,(convert 58 9 (.slice (some ⟨b,off+k,none⟩) 1 (cap-k))).run prog (w.alloc O)=.ok (.string x1) (w.alloc O))(ha1:(nU.any λy=>decide (y=x1))=q):
  Calls prog 85 #[.slice (some ⟨b,off,none⟩) n cap,.int .i64 k] w λe w'=>e=.returned (.int .i64 (if q then 1 else 0)) /\ Below w.heap.size w w':=by
 have HA1:=Lib.hid ha1
 clear ha1
 go_enter func85,Tryz.ntmps85
 go_wp2_with (first|(go_at_call 113;((with_reducible refine (xM _ _ _ G0 _ HA1.out).mono ?_);rintro e w' ⟨rfl,rfl⟩)))
 all_goals (go_ret;exact ⟨by simp [*],B8⟩)
theorem aBz(s:List UInt8)(k:Nat)(b off cap:Nat)(w:World)(hr:∀j u,(cC s)[j]?=some u -> w.cell? ⟨b,off+j,none⟩=some u)(hc:s.length <= cap)(hcm:cap <= 9223372036854775807)(hs:s.length <= 1000000)(hk:k<s.length):
  Calls prog 85 #[.slice (some ⟨b,off,none⟩) s.length cap,.int .i64 k] w λe w'=>e=.returned (.int .i64 (jE (s.drop k))) /\ Below w.heap.size w w':=by
 have hblt:b<w.heap.size:=gV (ByteRow.cell hr k hk)
 have hcv1:k+2 <= s.length -> ∀O,(convert 58 9 (.slice (some ⟨b,off+k,none⟩) 2 (cap-k))).run prog (w.alloc O)=.ok (.string (bytes ((s.drop k).take 2))) (w.alloc O):=λh O=>iR hr k 2 _ h _ (λo=>World.cell?_alloc_lt w O ⟨b,o,none⟩ hblt)
 have hcv2:∀O O',(convert 58 9 (.slice (some ⟨b,off+k,none⟩) 1 (cap-k))).run prog ((w.alloc O).alloc O')=.ok (.string (bytes ((s.drop k).take 1))) ((w.alloc O).alloc O'):=λO O'=>iR hr k 1 _ J _ (λo=>by rw [World.cell?_alloc_lt _ _ _ DR,World.cell?_alloc_lt _ _ _ hblt])
 have hcv3:∀O,(convert 58 9 (.slice (some ⟨b,off+k,none⟩) 1 (cap-k))).run prog (w.alloc O)=.ok (.string (bytes ((s.drop k).take 1))) (w.alloc O):=λO=>iR hr k 1 _ J _ (λo=>World.cell?_alloc_lt w O ⟨b,o,none⟩ hblt)
 have hd1:(s.drop k).take 1=[s[k]]:=by rw [dR s k hk];rfl
 have one:¬(2 <= (s.drop k).length /\ (s.drop k).take 2∈fE) -> jE (s.drop k)=if s[k]∈dW then 1 else 0:=by
  intro h
  rw [dR s k hk] at h⊢
  by_cases hm:s[k]∈dW
  ·rw [if_pos hm,oR h hm]
  rw [if_neg hm,tL h hm]
 have hany:(nU.any λy=>decide (y=bytes ((s.drop k).take 1)))=decide (s[k]∈dW):=by
  rw [hd1,show nU=(dW.map λc=>[c]).map bytes from rfl,aBu]
  simp
 by_cases h2:k+1<s.length
 ·have hany2:(tO.any λy=>decide (y=bytes ((s.drop k).take 2)))=decide ((s.drop k).take 2∈fE):=by
   rw [show tO=fE.map bytes from rfl,aBu]
  by_cases hm:(s.drop k).take 2∈fE
  ·rw [pA (l:=s.drop k) DI hm]
   exact aL1 s.length k b off cap w ⟨#[]⟩ _ hk hc hcm hs J J (hcv1 J) (by rw [hany2];simpa using hm)
  rw [one (λh=>hm h.2)]
  refine (aL6 s.length k b off cap w _ _ hk hc hcm hs J _ J (hcv1 J) hcv2 (by rw [hany2];simpa using hm) hany).mono λe w' ⟨h,hb⟩=>⟨?_,hb⟩
  rw [h];refine cZn ?_;by_cases hq:s[k]∈dW<;>simp [hq]
 ·rw [one (λh=>by have:=h.1;rw [List.length_drop] at this;omega)]
  refine (aLz s.length k b off cap w _ ⟨#[]⟩ hk hc hcm hs J _ J hcv3 hany).mono λe w' ⟨h,hb⟩=>⟨?_,hb⟩
  rw [h];refine cZn ?_;by_cases hq:s[k]∈dW<;>simp [hq]
end
end Go.Proofs.YtjgeihmhppadaaaGreatDoor
