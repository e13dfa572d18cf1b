import Derived.Test.YtbdfdjdgfanjaaaDoorV3J
import Derived.Test.YtbdfdjdgfanjaaaDoorV0J
import Derived.Test.YtbdfdjdgfanjaaaDoorProg
import Derived.Deep.QuietTactic
import Derived.BigQuiet
import Derived.KernelRfl
import Derived.Lib.SlBytesConst
import Derived.Test.YtbdfdjdgfanjaaaDoorV1J
set_option linter.all false
set_option synthInstance.maxHeartbeats 1000000
set_option synthInstance.maxSize 1000000
set_option maxHeartbeats 1600000
set_option maxRecDepth 100000
namespace Go.Proofs.YtbdfdjdgfanjaaaDoor
open Go.Proofs.Tryd
open List (length_append length_cons length_nil mem_append mem_cons not_mem_nil append_assoc getElem_mem take_of_length_le)
section
open Go.RowKit
def Tok.cells(t:Tok):List Value:=[.int .i64 t.kind,.string t.text,.int .i64 t.num,.int .i64 t.pos]
def dL(l:List Tok):List Value:=l.flatMap Tok.cells
theorem eP(l:List Tok)(t:Tok):dL l++[.int .i64 t.kind,.string t.text,.int .i64 t.num,.int .i64 t.pos]=dL (l++[t]):=by simp [dL,Tok.cells]
theorem aI5:(prog.info? 51).map (fun i=>(i.zero,i.size,i.bytes))=some (some (.agg #[.int .i64 0,.string ⟨#[]⟩,.int .i64 0,.int .i64 0]),4,40):=by kernel_rfl
theorem aKq{l:List UInt8}{k num er:Int}{text:ByteArray}{n:Nat}(h:aLn l k num er text)(hn:dQ l=.err n):er=n /\ (n:Int)≠0:=by
 rcases h with ⟨m,h1,h2,h3⟩|⟨_,_,_,h1,_⟩
 ·rw [hn] at h1;cases h1;exact ⟨h2,by omega⟩
 rw [hn] at h1;cases h1
theorem aBq{l:List UInt8}{k num er:Int}{text:ByteArray}{a b c:Nat}(h:aLn l k num er text)(hn:dQ l=.tok a b c):er=0 /\ k=a /\ num=c /\ text=bytes (l.take b):=by
 rcases h with ⟨m,h1,h2,h3⟩|⟨_,_,_,h1,h2,h3,h4,h5⟩
 ·rw [hn] at h1;cases h1
 rw [hn] at h1;cases h1;exact ⟨h2,h3,h4,h5⟩
def aY0(w:World)(s:List UInt8)(v:Value)(pos er:Int):Prop:=
 (∃l,iH s=.ok l /\ dD w v l.length (dL l) /\ pos=s.length /\ er=0 /\ l.length <= 4001)∨(∃p e:Nat,iH s=.err p e /\ v=.slice none 0 0 /\ pos=p /\ er=e /\ e≠0)
def aCp(w:World)(N:Nat)(s:List UInt8)(v:Value)(pos er:Int):Prop:=
 (∃l,iH s=.ok l /\ w.ownsRow N 51 4 v l.length (dL l) /\ pos=s.length /\ er=0 /\ l.length <= 4001)∨(∃p e:Nat,iH s=.err p e /\ v=.slice none 0 0 /\ pos=p /\ er=e /\ e≠0)
theorem aCp.r{w:World}{N:Nat}{s:List UInt8}{v:Value}{pos er:Int}(h:aCp w N s v pos er):aY0 w s v pos er:=
 h.imp (fun ⟨l,h1,h2,h3⟩=>⟨l,h1,dD.of_owns h2,h3⟩) id
theorem aK5(a:Option Addr)(n cap:Nat)(w:World)(hs:(262144:Int)<n):
  Calls prog 52 #[.slice a n cap] w fun e w'=>e=.returned (.tuple #[.slice none 0 0,.int .i64 262144,.int .i64 3]) /\ w=w':=by
 go_enter func52,Tryd.ntmps52
 go_wp2_with fail
 go_step3
 go_wp2_with fail
 rw [Exit.noGoto_ret]
 go_ret3
 exact ⟨rfl,rfl⟩
theorem aOw(s:ByteArray)(a:Option Addr)(n cap:Nat)(w:World)(he:Env w)(hn:n=s.size)(hs:s.size <= 262144)
  (hcv:(convert 46 9 (.slice a n cap)).run prog w=.ok (.string s) w):
  Calls prog 52 #[.slice a n cap] w fun e w'=>(∃v pos er,e=.returned (.tuple #[v,.int .i64 pos,.int .i64 er]) /\ aCp w' w.heap.size s.data.toList v pos er) /\ Below w.heap.size w w':=by
 subst hn
 obtain ⟨i0,hi,hz0,hz1,hz2⟩:=info_parts aI5
 have HS:=Lib.hid (show s.data.toList.length=s.size from rfl)
 go_enter func52,Tryd.ntmps52
 go_wp2_with fail
 go_step3
 go_wp2_with fail
 go_step3
 go_wp2_with fail
 go_loopw [6,7] (fun v at_ wr=>∃(k:Nat) (toks:List Tok),at_=.int .i64 k /\ k <= s.size /\ wr.ownsRow w.heap.size 51 4 v toks.length (dL toks) /\ kD s.data.toList 0 0=fX.app toks (kD s.data.toList k toks.length) /\ toks.length <= 4000 /\ Below w.heap.size w wr) (fun _ at_ _=>s.size-(intOf at_).toNat)
 case atStart=>exact ⟨0,[],rfl,by omega,ownsRow_nil _ _ _ _,by rw [fX.app_nil];rfl,by simp,Below.refl _ _⟩
 case round=>
  obtain ⟨k,toks,rfl,hk,hown,hlx,hlen,hbel⟩:=hrel
  have heW:Env wr:=he.below hbel he.size
  obtain ⟨oa,oc,rfl⟩:=lR hown
  have hge:=lG s.data.toList k hk
  have HLX:=Lib.hid hlx
  clear hlx hcv
  by_cases hend:s.size <= bF s.data.toList k
  ·go_wp2_with (first|(go_at_call 55;refine (uH _ _ _ (by omega) hk).mono ?_;rintro e w' ⟨rfl,rfl⟩)|(at_builtin;refine wpList_append_own _ rfl _ _ 28 rfl w.heap.size 51 i0 _ 4 40 underlying28 hi hz0 hz1 hz2 rfl (by decide) _ toks.length (dL toks) rfl (ownsRow_below hown ((Below.refl _ _).alloc (Nat.le_refl _) _) (Nat.le_refl _)) ⟨wr.heap.size,0,none⟩ 1 1 [.int .i64 5,.string ⟨#[]⟩,.int .i64 0,.int .i64 s.size] rfl rfl (sK _ _ _) (by simp [Value.oneCell']) (by unfold maxLen;omega) (by omega) (by have:=hbel.size;simp;omega) ?_))
   intro v' w1 hown1 hgrow _
   have hb1:Below w.heap.size w w1:=Below.grow (hbel.alloc hbel.size _) hgrow (by have:=hbel.size;simp;omega) (ownsRow_below hown ((Below.refl _ _).alloc (Nat.le_refl _) _) (Nat.le_refl _)) (Nat.le_refl _)
   clear hgrow
   go_wp2_with fail
   rw [Exit.noGoto_ret]
   go_ret3
   refine ⟨⟨_,_,_,rfl,.inl ⟨toks++[⟨5,⟨#[]⟩,0,s.size⟩],?_,?_,by rw [HS.out],rfl,by simp;omega⟩⟩,hb1⟩
   ·unfold iH
    rw [if_neg (by rw [HS.out];omega),HLX.out,mX (by rw [HS.out];exact hend),HS.out];rfl
   have:=hown1
   rw [←eP];simpa using this
  have hlt:bF s.data.toList k<s.size:=by omega
  have hx:s.extract (bF s.data.toList k) s.size=bytes (s.data.toList.drop (bF s.data.toList k)):=by
   have:=ByteArray.extract_mk s.data.toList (bF s.data.toList k) s.size
   rw [show (ByteArray.mk s.data.toList.toArray)=s from by simp] at this
   rw [this,bytes];congr 2;exact take_of_length_le (by rw [List.length_drop,HS.out];omega)
  have hsz:(bytes (s.data.toList.drop (bF s.data.toList k))).size=s.size-bF s.data.toList k:=by rw [bytes];show (List.drop _ _).toArray.size=_;rw [List.size_toArray,List.length_drop,HS.out]
  have HZ:=Lib.hid hsz
  have hbd:=jR (s.data.toList.drop (bF s.data.toList k))
  have HD:=Lib.hid hbd
  clear hsz hbd
  cases hnx:dQ (s.data.toList.drop (bF s.data.toList k)) with
  |err en=>
   have HN:=Lib.hid hnx
   clear hnx
   go_wp2_with (first|(go_at_call 55;refine (uH _ _ _ (by omega) hk).mono ?_;rintro e w' ⟨rfl,rfl⟩)|(go_at_call 56;refine (aAf _ _ (by rw [HZ.out];omega) heW (by rw [HZ.out];omega)).mono ?_;rintro e w1 ⟨⟨kd,num,er,text,rfl,hR⟩,hb⟩;rw [HD.out] at hR;obtain ⟨rfl,hne⟩:=aKq hR HN.out;clear hR;obtain ⟨hc,hf⟩:=tF hb))
   rw [Exit.noGoto_ret]
   go_ret3
   refine ⟨⟨_,_,_,rfl,.inr ⟨bF s.data.toList k,en,?_,rfl,rfl,rfl,by omega⟩⟩,(hbel.trans (hb.mono hbel.size)).alloc (Nat.le_trans hbel.size hb.size) _⟩
   unfold iH
   rw [if_neg (by rw [HS.out];omega),HLX.out,uY (by rw [HS.out];exact hlt) HN.out];rfl
  |tok nk len nu=>
   have hl1:=mS (by intro h;have:=congrArg List.length h;rw [List.length_drop,HS.out] at this;simp at this;omega) hnx
   rw [List.length_drop,HS.out] at hl1
   have HN:=Lib.hid hnx
   clear hnx
   have htx:(bytes ((s.data.toList.drop (bF s.data.toList k)).take len)).size=len:=by
    rw [bytes];show (List.take _ _).toArray.size=_;rw [List.size_toArray,List.length_take,List.length_drop,HS.out];omega
   by_cases hfull:toks.length=4000
   ·have hf1:((toks.length:Int) == 4000)=true:=by rw [beq_iff_eq];omega
    have HF:=Lib.hid hfull
    clear hfull htx
    go_wp2_with (first|(go_at_call 55;refine (uH _ _ _ (by omega) hk).mono ?_;rintro e w' ⟨rfl,rfl⟩)|(go_at_call 56;refine (aAf _ _ (by rw [HZ.out];omega) heW (by rw [HZ.out];omega)).mono ?_;rintro e w1 ⟨⟨kd,num,er,text,rfl,hR⟩,hb⟩;rw [HD.out] at hR;obtain ⟨rfl,rfl,rfl,rfl⟩:=aBq hR HN.out;clear hR;obtain ⟨hc,hf⟩:=tF hb))
    rw [Exit.noGoto_ret]
    go_ret3
    refine ⟨⟨_,_,_,rfl,.inr ⟨bF s.data.toList k,3,?_,rfl,rfl,rfl,by omega⟩⟩,(hbel.trans (hb.mono hbel.size)).alloc (Nat.le_trans hbel.size hb.size) _⟩
    unfold iH
    rw [if_neg (by rw [HS.out];omega),HLX.out,HF.out,sG (by rw [HS.out];exact hlt) HN.out];rfl
   have hf1:((toks.length:Int) == 4000)=false:=by rw [beq_eq_false_iff_ne];omega
   have HF:=Lib.hid hfull
   have hlen2:toks.length<4000:=by omega
   clear hfull
   go_wp2_with (first|(go_at_call 55;refine (uH _ _ _ (by omega) hk).mono ?_;rintro e w' ⟨rfl,rfl⟩)|(go_at_call 56;refine (aAf _ _ (by rw [HZ.out];omega) heW (by rw [HZ.out];omega)).mono ?_;rintro e w1 ⟨⟨kd,num,er,text,rfl,hR⟩,hb⟩;rw [HD.out] at hR;obtain ⟨rfl,rfl,rfl,rfl⟩:=aBq hR HN.out;clear hR;obtain ⟨hc,hf⟩:=tF hb)|(at_builtin;refine wpList_append_own _ rfl _ _ 28 rfl w.heap.size 51 i0 _ 4 40 underlying28 hi hz0 hz1 hz2 rfl (by decide) _ toks.length (dL toks) rfl (ownsRow_below hown ((hb.alloc hb.size _).alloc (by have:=hb.size;simp;omega) _) (Nat.le_refl _)) ⟨w1.heap.size+1,0,none⟩ 1 1 [.int .i64 nk,.string (bytes ((s.data.toList.drop (bF s.data.toList k)).take len)),.int .i64 nu,.int .i64 (bF s.data.toList k)] rfl rfl (bXs _ _ _ _ (by simp)) (by simp [Value.oneCell']) (by unfold maxLen;omega) (by omega) (by have:=hbel.size;have:=hb.size;simp;omega) ?_))
   intro v' w2 hown2 hgrow _
   have hb2:Below w.heap.size w w2:=Below.grow (((hbel.trans (hb.mono hbel.size)).alloc (Nat.le_trans hbel.size hb.size) _).alloc (by have:=hbel.size;have:=hb.size;simp;omega) _) hgrow (by have:=hbel.size;have:=hb.size;simp;omega) (ownsRow_below hown ((hb.alloc hb.size _).alloc (by have:=hb.size;simp;omega) _) (Nat.le_refl _)) (Nat.le_refl _)
   have hcw:∀o,w2.cell? ⟨w1.heap.size,o,none⟩=((w1.alloc (Obj.cells #[.int .i64 nk,.string (bytes ((s.data.toList.drop (bF s.data.toList k)).take len)),.int .i64 nu,.int .i64 (bF s.data.toList k)] 51)).cell? ⟨w1.heap.size,o,none⟩):=by
    intro o
    rw [aKa hgrow hown hb.size (by simp;omega) o]
    exact (Below.alloc (B:=(w1.alloc (Obj.cells #[.int .i64 nk,.string (bytes ((s.data.toList.drop (bF s.data.toList k)).take len)),.int .i64 nu,.int .i64 (bF s.data.toList k)] 51)).heap.size) (Below.refl _ _) (Nat.le_refl _) _).cell (p:=⟨w1.heap.size,o,none⟩) (by simp)
   clear hgrow
   go_wp2_with fail
   go_roundw
   case rel=>
    refine ⟨bF s.data.toList k+len,toks++[⟨nk,bytes ((s.data.toList.drop (bF s.data.toList k)).take len),nu,bF s.data.toList k⟩],by go_num,by omega,?_,?_,by simp;omega,hb2⟩
    ·rw [←eP];simpa using hown2
    rw [HLX.out,nD (by rw [HS.out];exact hk) (by rw [HS.out];exact hlt) HN.out HF.out,fX.app_cons];simp
   case measure=>simp [intOf];omega
theorem aN1(a:Option Addr)(n cap:Nat)(w:World)(s:List UInt8)(hn:n=s.length)(hs:262144<n):
  Calls prog 52 #[.slice a n cap] w fun e w'=>(∃v pos er,e=.returned (.tuple #[v,.int .i64 pos,.int .i64 er]) /\ aCp w' w.heap.size s v pos er) /\ Below w.heap.size w w':=by
 refine (aK5 a n cap w (by omega)).mono fun e w' ⟨h,hw⟩=>?_
 subst hw
 refine ⟨⟨_,_,_,h,.inr ⟨262144,3,?_,rfl,rfl,rfl,by omega⟩⟩,Below.refl _ _⟩
 unfold iH;rw [if_pos (by omega)]
theorem aOn(s:List UInt8)(v:Value)(w:World)(he:Env w)(hv:dD w v s.length (s.map fun c=>.int .u8 c.toNat)):
  Calls prog 52 #[v] w fun e w'=>(∃v pos er,e=.returned (.tuple #[v,.int .i64 pos,.int .i64 er]) /\ aCp w' w.heap.size s v pos er) /\ Below w.heap.size w w':=by
 obtain ⟨a,cap,rfl,hc,hcells⟩:=hv
 by_cases hs:262144<s.length
 ·exact aN1 a _ cap w s rfl hs
 have hconv:(convert 46 9 (.slice a s.length cap)).run prog w=.ok (.string (bytes s)) w:=by
  rcases hcells with h0|⟨b,off,rfl,hr⟩
  ·obtain rfl:s=[]:=by simpa using h0
   cases a with
   |none=>exact run_convert_bytes_nil w _ _ underlying46 underlying5 _ _ _ underlying9
   |some a=>
    have hl:=run_loadCells_list (P:=prog) w a [] (fun j v hj=>by simp at hj)
    rw [run_convert_bytes_string w _ _ _ _ _ _ underlying46 underlying5 underlying9,length_nil,run_bytesToString w a 0 cap [] (by simpa using hl)]
    rfl
  rw [run_convert_bytes_arg w _ _ underlying46 underlying5 b off s.length cap (s.map fun c=>(c.toNat:Int)) (by simp) ?_ _ underlying9]
  ·rw [strOfNums,List.map_map,bytes];congr 3;rw [show ((fun n:Int=>UInt8.ofNat n.toNat) ∘ fun c:UInt8=>(c.toNat:Int))=id from by funext c;simp];simp
  intro i hi
  rw [hr i (.int .u8 s[i].toNat) (by simp [hi])];simp [hi]
 have:=aOw (bytes s) a s.length cap w he (by simp [bytes,ByteArray.size]) (by show (List.toArray s).size <= _;rw [List.size_toArray];omega) hconv
 rw [jR] at this;exact this
end
section
open Go.RowKit
def cC(s:List UInt8):List Value:=s.map fun c=>.int .u8 c.toNat
theorem ByteRow.cell{w:World}{b off:Nat}{s:List UInt8}(h:∀j u,(cC s)[j]?=some u -> w.cell? ⟨b,off+j,none⟩=some u)(k:Nat)(hk:k<s.length):w.cell? ⟨b,off+k,none⟩=some (.int .u8 s[k].toNat):=
 h k _ (by simp [cC,hk])
theorem eL(c:UInt8)(w:World):
  Calls prog 35 #[.int .u8 c.toNat] w fun e w'=>e=.returned (.bool (fU c)) /\ w=w':=by
 unfold fU
 generalize (c.toNat:Int)=n
 go_enter func35,Tryd.ntmps35
 go_wp2
 all_goals (go_ret;refine ⟨kB ?_,rfl⟩;simp;try omega)
theorem fJ(c:UInt8)(w:World):
  Calls prog 36 #[.int .u8 c.toNat] w fun e w'=>e=.returned (.bool (cD c)) /\ w=w':=by
 unfold cD
 generalize (c.toNat:Int)=n
 go_enter func36,Tryd.ntmps36
 go_wp2
 all_goals (go_ret;refine ⟨kB ?_,rfl⟩;simp;try omega)
theorem aAx(zs:List ByteArray)(x:ByteArray)(k:Nat)(hk:k<zs.length)(h:x∈zs↔x∈zs.drop k):(zs[k]=x -> x∈zs) /\ (zs[k]≠x -> (x∈zs↔x∈zs.drop (k+1))):=by
 refine ⟨fun e=>e▸getElem_mem hk,fun e=>?_⟩
 rw [h,List.drop_eq_getElem_cons hk,mem_cons]
 exact ⟨fun h=>h.resolve_left (fun e'=>e e'.symm),.inr⟩
theorem aDm(zs:List ByteArray)(x:ByteArray)(v:Value)(w:World)(hv:dD w v zs.length (zs.map .string))(hn:zs.length <= 9223372036854775807):
  Calls prog 47 #[v,.string x] w fun e w'=>e=.returned (.bool (zs.any fun y=>decide (y=x))) /\ w=w':=by
 obtain ⟨a,cap,rfl,hc,hr⟩:=hv
 go_enter func47,Tryd.ntmps47
 go_wp2_with fail
 go_loop [5] (fun v=>∃k:Nat,k <= zs.length /\ v=.int .i64 k /\ (x∈zs↔x∈zs.drop k)) (fun v=>zs.length-(intOf v).toNat)
 case atStart=>exact ⟨0,by omega,rfl,by simp⟩
 case round=>
  obtain ⟨k,hk,rfl,hm⟩:=hrel
  have HM:=Lib.hid hm
  clear hm
  by_cases hlt:k<zs.length
  ·rcases hr with h0|⟨b,off,rfl,hr⟩
   ·have:zs.length=0:=by simpa using congrArg List.length h0
    omega
   have hcell:=hr k (.string zs[k]) (by simp [hlt])
   clear hr
   have hst:=aAx zs x k hlt HM.out
   have HST:=Lib.hid hst
   clear hst
   by_cases he:zs[k]=x
   ·have hm:=HST.out.1 he
    have HM2:=Lib.hid hm
    clear hm
    have hq:=zZ he
    clear he
    go_wp2_with fail
    go_ret
    refine ⟨kB ?_,rfl⟩
    simp [HM2.out]
   have hq:=xB he
   have HE:=Lib.hid he
   clear he
   go_wp2_with fail
   go_round
   case rel=>exact ⟨k+1,by omega,by go_num,HST.out.2 HE.out⟩
   case measure=>simp [intOf];omega
  clear hr
  go_wp2_with fail
  go_ret
  refine ⟨kB ?_,rfl⟩
  have:x∉zs:=by rw [HM.out,List.drop_eq_nil_of_le (by omega)];simp
  simp [this]
theorem oN(s:ByteArray)(w:World):
  Calls prog 37 #[.string s] w fun e w'=>e=.returned (.bool (dA s)) /\ Below w.heap.size w w':=by
 go_enter func37,Tryd.ntmps37
 go_wp2_with (first|(go_at_call 47;refine (aDm words _ _ _ (dD.new w (words.map .string) 9 11) (by decide)).mono ?_;rintro e w' ⟨rfl,rfl⟩))
 go_ret
 exact ⟨rfl,by go_grown⟩
theorem aK0(s:List UInt8)(k0:Nat)(v:Value)(w:World)(hv:dD w v s.length (cC s))(hs:s.length <= 1000000)(hk:k0 <= s.length):
  Calls prog 34 #[v,.int .i64 k0] w fun e w'=>e=.returned (.int .i64 (bF s k0)) /\ w=w':=by
 obtain ⟨a,cap,rfl,hc,hr⟩:=hv
 go_enter func34,Tryd.ntmps34
 go_wp2_with fail
 go_loop [1] (fun v=>∃k:Nat,k <= s.length /\ v=.int .i64 k /\ bF s k=bF s k0) (fun v=>s.length-(intOf v).toNat)
 case atStart=>exact ⟨k0,hk,rfl,rfl⟩
 case round=>
  obtain ⟨k,hk,rfl,hm⟩:=hrel
  have HM:=Lib.hid hm
  clear hm
  by_cases hlt:k<s.length
  ·rcases hr with h0|⟨b,off,rfl,hr⟩
   ·have:s.length=0:=by simpa [cC] using congrArg List.length h0
    omega
   have hcell:=ByteRow.cell hr k hlt
   have HR:=Lib.hid hr
   clear hr
   cases hsp:isSp s[k] with
   |true=>
    have hn:=aGh s k hlt hsp
    have HN:=Lib.hid hn
    simp only [isSp,decide_eq_true_eq] at hsp
    clear hn
    rcases hsp with h|h|h|h
    ·have e32:((s[k].toNat:Int) == 32)=true:=by rw [h];rfl
     clear h
     go_wp2_with fail
     go_round
     case rel=>exact ⟨k+1,by omega,by go_num,HN.out.trans HM.out⟩
     case measure=>simp [intOf];omega
    ·have e32:((s[k].toNat:Int) == 32)=false:=by rw [h];rfl
     have e9:((s[k].toNat:Int) == 9)=true:=by rw [h];rfl
     clear h
     go_wp2_with fail
     go_round
     case rel=>exact ⟨k+1,by omega,by go_num,HN.out.trans HM.out⟩
     case measure=>simp [intOf];omega
    ·have e32:((s[k].toNat:Int) == 32)=false:=by rw [h];rfl
     have e9:((s[k].toNat:Int) == 9)=false:=by rw [h];rfl
     have e10:((s[k].toNat:Int) == 10)=false:=by rw [h];rfl
     have e13:((s[k].toNat:Int) == 13)=true:=by rw [h];rfl
     clear h
     go_wp2_with fail
     go_round
     case rel=>exact ⟨k+1,by omega,by go_num,HN.out.trans HM.out⟩
     case measure=>simp [intOf];omega
    ·have e32:((s[k].toNat:Int) == 32)=false:=by rw [h];rfl
     have e9:((s[k].toNat:Int) == 9)=false:=by rw [h];rfl
     have e10:((s[k].toNat:Int) == 10)=true:=by rw [h];rfl
     clear h
     go_wp2_with fail
     go_round
     case rel=>exact ⟨k+1,by omega,by go_num,HN.out.trans HM.out⟩
     case measure=>simp [intOf];omega
   |false=>
    have HP:=Lib.hid hsp
    simp only [isSp,decide_eq_false_iff_not,not_or] at hsp
    have f1:((s[k].toNat:Int) == 32)=false:=by rw [beq_eq_false_iff_ne];exact hsp.1
    have f2:((s[k].toNat:Int) == 9)=false:=by rw [beq_eq_false_iff_ne];exact hsp.2.1
    have f3:((s[k].toNat:Int) == 13)=false:=by rw [beq_eq_false_iff_ne];exact hsp.2.2.1
    have f4:((s[k].toNat:Int) == 10)=false:=by rw [beq_eq_false_iff_ne];exact hsp.2.2.2
    clear hsp
    have stop:¬(∃h2:k+1<s.length,s[k]=47 /\ s[k+1]=47) -> bF s k0=k:=fun h=>by rw [←HM.out];exact zX s k hlt HP.out (aGs hlt h)
    have STOP:=Lib.hid stop
    clear stop
    by_cases h1:s.length <= k+1
    ·have g1:(s.length:Int) <= k+1:=by omega
     have hst:=STOP.out (by rintro ⟨h,_⟩;omega)
     have HST:=Lib.hid hst
     clear hst h1
     go_wp2_with fail
     go_ret
     exact ⟨gG (by rw [HST.out]),rfl⟩
    have g1:(k:Int)+1<s.length:=by omega
    have h1':k+1<s.length:=by omega
    clear h1
    by_cases h2:s[k]=47
    ·have g2:=((aJ1 s[k] 47 47 rfl (by omega)).1 h2).1
     have hcell2:=ByteRow.cell HR.out (k+1) h1'
     have hcell3:=hcell2
     rw [←Nat.add_assoc] at hcell3
     by_cases h3:s[k+1]=47
     ·have g3:=((aJ1 s[k+1] 47 47 rfl (by omega)).1 h3).1
      have H2:=Lib.hid h2
      have H3:=Lib.hid h3
      clear h2 h3
      go_wp2_with fail
      go_hide hQ
      go_loop [1] (fun v=>∃j:Nat,k <= j /\ j <= s.length /\ v=.int .i64 j /\ (s.drop k).dropWhile (·!= 10)=(s.drop j).dropWhile (·!= 10)) (fun v=>s.length-(intOf v).toNat)
      case atStart=>exact ⟨k,by omega,by omega,rfl,rfl⟩
      case round=>
       obtain ⟨j,hkj,hj,rfl,hd⟩:=hrel
       have HD:=Lib.hid hd
       clear hd hcell2 hcell3 hcell
       have fin:(s.drop k).dropWhile (·!= 10)=s.drop j -> bF s j=bF s k0:=fun h=>(aHj s k j h1' H2.out H3.out h).trans HM.out
       have FIN:=Lib.hid fin
       clear fin
       by_cases hje:j<s.length
       ·have hcell:=ByteRow.cell HR.out j hje
        have hst:=aK3 s k j hje HD.out
        have HST:=Lib.hid hst
        clear hst
        by_cases h10:s[j]=10
        ·have e10:=((aJ1 s[j] 10 10 rfl (by omega)).1 h10).2
         have hfin:=FIN.out (HST.out.1 h10)
         have hne:k≠j:=by rintro rfl;rw [H2.out] at h10;exact absurd h10 (by decide)
         have HF:=Lib.hid hfin
         clear hfin h10
         go_wp2_with fail
         subst hQ
         go_wp2_with fail
         go_round
         case rel=>exact ⟨j,by omega,rfl,HF.out⟩
         case measure=>simp [intOf];omega
        have e10:=((aJ1 s[j] 10 10 rfl (by omega)).2 h10).2
        have hnx:=HST.out.2 h10
        have HNX:=Lib.hid hnx
        clear hnx h10
        go_wp2_with fail
        go_round
        case rel=>exact ⟨j+1,by omega,by omega,by go_num,HNX.out⟩
        case measure=>simp [intOf];omega
       have hfin:=FIN.out (by rw [HD.out,List.drop_eq_nil_of_le (by omega)];rfl)
       have HF:=Lib.hid hfin
       clear hfin
       go_wp2_with fail
       subst hQ
       go_wp2_with fail
       go_round
       case rel=>exact ⟨j,by omega,rfl,HF.out⟩
       case measure=>simp [intOf];omega
     have g3:=((aJ1 s[k+1] 47 47 rfl (by omega)).2 h3).1
     have hst:=STOP.out (by rintro ⟨_,_,h⟩;exact h3 h)
     have HST:=Lib.hid hst
     clear hst h2 h3
     go_wp2_with fail
     go_ret
     exact ⟨gG (by rw [HST.out]),rfl⟩
    have g2:=((aJ1 s[k] 47 47 rfl (by omega)).2 h2).1
    have hst:=STOP.out (by rintro ⟨_,h,_⟩;exact h2 h)
    have HST:=Lib.hid hst
    clear hst h2
    go_wp2_with fail
    go_ret
    exact ⟨gG (by rw [HST.out]),rfl⟩
  clear hr
  go_wp2_with fail
  go_ret
  exact ⟨gG (by rw [←HM.out,aA5 _ _ (by omega)];omega),rfl⟩
end
section
open Go.RowKit
theorem aHa(t:List UInt8)(k n:Nat)(hk:k<t.length)(h:iT 0 t=iT n (t.drop k)):
  ((9223372036854775807-(t[k].toNat-48))/10<n -> iT 0 t=none) /\ (¬(9223372036854775807-(t[k].toNat-48))/10<n -> iT 0 t=iT (10*n+(t[k].toNat-48)) (t.drop (k+1))):=by
 rw [dR _ k hk,iT] at h
 refine ⟨fun hn=>?_,fun hn=>?_⟩
 ·rw [h];exact if_pos hn
 rw [h];exact if_neg hn
def xU(t:List UInt8):Int:=match iT 0 t with|none=>-1|some n=>n
theorem aFd(t:List UInt8)(v:Value)(w:World)(hv:dD w v t.length (cC t))(hs:t.length <= 1000000)(hd:∀c∈t,cD c=true):
  Calls prog 38 #[v] w fun e w'=>e=.returned (.int .i64 (xU t)) /\ w=w':=by
 obtain ⟨a,cap,rfl,hc,hr⟩:=hv
 have HA:=Lib.hid hd
 clear hd
 go_enter func38,Tryd.ntmps38
 go_wp2_with fail
 go_loop [3,4] (fun u v=>∃k n:Nat,k <= t.length /\ v=.int .i64 k /\ u=.int .i64 n /\ n <= 9223372036854775807 /\ iT 0 t=iT n (t.drop k)) (fun _ v=>t.length-(intOf v).toNat)
 case atStart=>exact ⟨0,0,by omega,rfl,rfl,by omega,rfl⟩
 case round=>
  obtain ⟨k,n,hk,rfl,rfl,hn,hv⟩:=hrel
  by_cases hlt:k<t.length
  ·rcases hr with h0|⟨b,off,rfl,hr⟩
   ·have:t.length=0:=by simpa [cC] using congrArg List.length h0
    omega
   have hcell:=ByteRow.cell hr k hlt
   clear hr
   have hst:=aHa t k n hlt hv
   have hd:cD t[k]=true:=HA.out _ (getElem_mem hlt)
   have HS:=Lib.hid hst
   clear hst hv
   simp only [cD,decide_eq_true_eq] at hd
   obtain ⟨hd1,hd2⟩:=hd
   by_cases hov:(9223372036854775807-(t[k].toNat-48))/10<n
   ·have hov':(9223372036854775807-((t[k].toNat:Int)-48))/10<(n:Int):=by omega
    have HO:=Lib.hid hov
    clear hov
    go_wp2_with fail
    go_ret
    exact ⟨gG (by rw [xU,HS.out.1 HO.out]),rfl⟩
   have hov':(n:Int) <= (9223372036854775807-((t[k].toNat:Int)-48))/10:=by omega
   have HO:=Lib.hid hov
   clear hov
   go_wp2_with fail
   go_round
   case rel=>exact ⟨k+1,10*n+(t[k].toNat-48),by omega,by go_num,by go_num,by omega,HS.out.2 HO.out⟩
   case measure=>simp [intOf];omega
  have HV:=Lib.hid hv
  clear hv hr
  go_wp2_with fail
  go_ret
  refine ⟨gG ?_,rfl⟩
  rw [xU,HV.out,List.drop_eq_nil_of_le (by omega),iT]
theorem zN(t:List UInt8)(a:Option Addr)(cap:Nat)(w:World)(hv:cC t=[]∨∃b off,a=some ⟨b,off,none⟩ /\ ∀j u,(cC t)[j]?=some u -> w.cell? ⟨b,off+j,none⟩=some u):
  (convert 46 9 (.slice a t.length cap)).run prog w=.ok (.string (bytes t)) w:=by
 rcases hv with h0|⟨b,off,rfl,hr⟩
 ·obtain rfl:t=[]:=by simpa [cC] using h0
  cases a with
  |none=>exact run_convert_bytes_nil w _ _ underlying46 underlying5 _ _ _ underlying9
  |some a=>
   have hl:=run_loadCells_list (P:=prog) w a [] (fun j v hj=>by simp at hj)
   rw [run_convert_bytes_string w _ _ _ _ _ _ underlying46 underlying5 underlying9,length_nil,run_bytesToString w a 0 cap [] (by simpa using hl)]
   rfl
 rw [run_convert_bytes_arg w _ _ underlying46 underlying5 b off t.length cap (t.map fun c=>(c.toNat:Int)) (by simp) ?_ _ underlying9]
 ·rw [strOfNums,List.map_map,bytes];congr 3;rw [show ((fun n:Int=>UInt8.ofNat n.toNat) ∘ fun c:UInt8=>(c.toNat:Int))=id from by funext c;simp];simp
 intro i hi
 rw [ByteRow.cell hr i hi];simp [hi]
theorem aIo{w:World}{b off:Nat}{s:List UInt8}(h:∀j u,(cC s)[j]?=some u -> w.cell? ⟨b,off+j,none⟩=some u)(i n:Nat):
  ∀j u,(cC ((s.drop i).take n))[j]?=some u -> w.cell? ⟨b,off+i+j,none⟩=some u:=by
 intro j u hu
 have:(cC s)[i+j]?=some u:=by
  simp only [cC,List.getElem?_map,List.getElem?_take,List.getElem?_drop] at hu⊢
  split at hu
  ·exact hu
  simp at hu
 rw [Nat.add_assoc];exact h _ _ this
def tO:List ByteArray:=[⟨#[60,61]⟩,⟨#[62,61]⟩,⟨#[61,61]⟩,⟨#[33,61]⟩,⟨#[38,38]⟩,⟨#[124,124]⟩]
def nU:List ByteArray:=[⟨#[40]⟩,⟨#[41]⟩,⟨#[123]⟩,⟨#[125]⟩,⟨#[91]⟩,⟨#[93]⟩,⟨#[44]⟩,⟨#[59]⟩,⟨#[61]⟩,⟨#[43]⟩,⟨#[45]⟩,⟨#[42]⟩,⟨#[47]⟩,⟨#[37]⟩,⟨#[60]⟩,⟨#[62]⟩,⟨#[33]⟩]
theorem bytes_inj{a b:List UInt8}(h:bytes a=bytes b):a=b:=by
 have:=congrArg (fun x=>x.data.toList) h
 simpa [bytes] using this
theorem aBu(L:List (List UInt8))(x:List UInt8):((L.map bytes).any fun y=>decide (y=bytes x))=decide (x∈L):=by
 rw [Bool.eq_iff_iff,List.any_eq_true]
 simp only [List.mem_map,decide_eq_true_eq]
 constructor
 ·rintro ⟨y,⟨z,hz,rfl⟩,h⟩;rw [←bytes_inj h];exact hz
 intro h;exact ⟨_,⟨x,h,rfl⟩,rfl⟩
theorem iR{s:List UInt8}{b off:Nat}{w:World}(hr:∀j u,(cC s)[j]?=some u -> w.cell? ⟨b,off+j,none⟩=some u)(i n cap:Nat)(hin:i+n <= s.length)(w':World)(hw:∀o,w'.cell? ⟨b,o,none⟩=w.cell? ⟨b,o,none⟩):
  (convert 46 9 (.slice (some ⟨b,off+i,none⟩) n cap)).run prog w'=.ok (.string (bytes ((s.drop i).take n))) w':=by
 have hl:((s.drop i).take n).length=n:=by rw [List.length_take,List.length_drop];omega
 have:=zN ((s.drop i).take n) (some ⟨b,off+i,none⟩) cap w' (.inr ⟨b,off+i,rfl,fun j u hu=>by rw [hw];exact aIo hr i n j u hu⟩)
 rw [hl] at this;exact this
end
section
open Go.RowKit
theorem aB6(w:World)(x:ByteArray)(q:Bool)(hq:(tO.any fun y=>decide (y=x))=q):
  Calls prog 47 #[.slice (some ⟨w.heap.size,0,none⟩) 6 6,.string x] (w.alloc (Obj.cells #[Value.string ⟨#[60,61]⟩,Value.string ⟨#[62,61]⟩,Value.string ⟨#[61,61]⟩,Value.string ⟨#[33,61]⟩,Value.string ⟨#[38,38]⟩,Value.string ⟨#[124,124]⟩] 9)) fun e w'=>e=.returned (.bool q) /\ w.alloc (Obj.cells #[Value.string ⟨#[60,61]⟩,Value.string ⟨#[62,61]⟩,Value.string ⟨#[61,61]⟩,Value.string ⟨#[33,61]⟩,Value.string ⟨#[38,38]⟩,Value.string ⟨#[124,124]⟩] 9)=w':=by
 subst hq;exact aDm tO x _ _ (dD.new w (tO.map .string) 9 6) (by decide)
theorem xM(w:World)(x:ByteArray)(k:Nat)(hk:k=w.heap.size)(q:Bool)(hq:(nU.any fun y=>decide (y=x))=q):
  Calls prog 47 #[.slice (some ⟨k,0,none⟩) 17 17,.string x] (w.alloc (Obj.cells #[Value.string ⟨#[40]⟩,Value.string ⟨#[41]⟩,Value.string ⟨#[123]⟩,Value.string ⟨#[125]⟩,Value.string ⟨#[91]⟩,Value.string ⟨#[93]⟩,Value.string ⟨#[44]⟩,Value.string ⟨#[59]⟩,Value.string ⟨#[61]⟩,Value.string ⟨#[43]⟩,Value.string ⟨#[45]⟩,Value.string ⟨#[42]⟩,Value.string ⟨#[47]⟩,Value.string ⟨#[37]⟩,Value.string ⟨#[60]⟩,Value.string ⟨#[62]⟩,Value.string ⟨#[33]⟩] 9)) fun e w'=>e=.returned (.bool q) /\ w.alloc (Obj.cells #[Value.string ⟨#[40]⟩,Value.string ⟨#[41]⟩,Value.string ⟨#[123]⟩,Value.string ⟨#[125]⟩,Value.string ⟨#[91]⟩,Value.string ⟨#[93]⟩,Value.string ⟨#[44]⟩,Value.string ⟨#[59]⟩,Value.string ⟨#[61]⟩,Value.string ⟨#[43]⟩,Value.string ⟨#[45]⟩,Value.string ⟨#[42]⟩,Value.string ⟨#[47]⟩,Value.string ⟨#[37]⟩,Value.string ⟨#[60]⟩,Value.string ⟨#[62]⟩,Value.string ⟨#[33]⟩] 9)=w':=by
 subst hq;exact aDm nU x _ _ (dD.new_at w (nU.map .string) 9 17 k hk) (by decide)
theorem aL1(n k b off cap:Nat)(w:World)(x1 x2:ByteArray)(hk:k<n)(hc:n <= cap)(hcm:cap <= 9223372036854775807)(hn:n <= 1000000)(hkc:¬cap=k)(g2:(k:Int)+1<n)(hcv1:∀O,(convert 46 9 (.slice (some ⟨b,off+k,none⟩) 2 (cap-k))).run prog (w.alloc O)=.ok (.string x2) (w.alloc O))(ha:(tO.any fun y=>decide (y=x2))=true):
  Calls prog 39 #[.slice (some ⟨b,off,none⟩) n cap,.int .i64 k] w fun e w'=>e=.returned (.int .i64 2) /\ Below w.heap.size w w':=by
 have HA:=Lib.hid ha
 clear ha
 go_enter func39,Tryd.ntmps39
 go_wp2_with (first|(go_at_call 47;((with_reducible refine (aB6 _ _ _ HA.out).mono ?_);rintro e w' ⟨rfl,rfl⟩)))
 go_ret
 exact ⟨rfl,by go_grown⟩
theorem aL6(n k b off cap:Nat)(w:World)(x1 x2:ByteArray)(hk:k<n)(hc:n <= cap)(hcm:cap <= 9223372036854775807)(hn:n <= 1000000)(hkc:¬cap=k)(q:Bool)(g2:(k:Int)+1<n)(hcv1:∀O,(convert 46 9 (.slice (some ⟨b,off+k,none⟩) 2 (cap-k))).run prog (w.alloc O)=.ok (.string x2) (w.alloc O))(hcv2:∀O O',(convert 46 9 (.slice (some ⟨b,off+k,none⟩) 1 (cap-k))).run prog ((w.alloc O).alloc O')=.ok (.string x1) ((w.alloc O).alloc O'))(ha:(tO.any fun y=>decide (y=x2))=false)(ha1:(nU.any fun y=>decide (y=x1))=q):
  Calls prog 39 #[.slice (some ⟨b,off,none⟩) n cap,.int .i64 k] w fun e w'=>e=.returned (.int .i64 (if q then 1 else 0)) /\ Below w.heap.size w w':=by
 have HA:=Lib.hid ha
 clear ha
 have HA1:=Lib.hid ha1
 clear ha1
 go_enter func39,Tryd.ntmps39
 go_wp2_with (first|(go_at_call 47;((with_reducible refine (aB6 _ _ _ HA.out).mono ?_);rintro e w' ⟨rfl,rfl⟩))|(go_at_call 47;((with_reducible refine (xM _ _ _ (by simp) _ HA1.out).mono ?_);rintro e w' ⟨rfl,rfl⟩)))
 all_goals (go_ret;exact ⟨by simp [*],by go_grown⟩)
theorem aLz(n k b off cap:Nat)(w:World)(x1 x2:ByteArray)(hk:k<n)(hc:n <= cap)(hcm:cap <= 9223372036854775807)(hn:n <= 1000000)(hkc:¬cap=k)(q:Bool)(g2:(n:Int) <= k+1)(hcv3:∀O,(convert 46 9 (.slice (some ⟨b,off+k,none⟩) 1 (cap-k))).run prog (w.alloc O)=.ok (.string x1) (w.alloc O))(ha1:(nU.any fun y=>decide (y=x1))=q):
  Calls prog 39 #[.slice (some ⟨b,off,none⟩) n cap,.int .i64 k] w fun e w'=>e=.returned (.int .i64 (if q then 1 else 0)) /\ Below w.heap.size w w':=by
 have HA1:=Lib.hid ha1
 clear ha1
 go_enter func39,Tryd.ntmps39
 go_wp2_with (first|(go_at_call 47;((with_reducible refine (xM _ _ _ (by simp) _ HA1.out).mono ?_);rintro e w' ⟨rfl,rfl⟩)))
 all_goals (go_ret;exact ⟨by simp [*],by go_grown⟩)
theorem aBz(s:List UInt8)(k:Nat)(b off cap:Nat)(w:World)(hr:∀j u,(cC s)[j]?=some u -> w.cell? ⟨b,off+j,none⟩=some u)(hc:s.length <= cap)(hcm:cap <= 9223372036854775807)(hs:s.length <= 1000000)(hk:k<s.length):
  Calls prog 39 #[.slice (some ⟨b,off,none⟩) s.length cap,.int .i64 k] w fun e w'=>e=.returned (.int .i64 (jE (s.drop k))) /\ Below w.heap.size w w':=by
 have hblt:b<w.heap.size:=gV (ByteRow.cell hr k hk)
 have hcv1:k+2 <= s.length -> ∀O,(convert 46 9 (.slice (some ⟨b,off+k,none⟩) 2 (cap-k))).run prog (w.alloc O)=.ok (.string (bytes ((s.drop k).take 2))) (w.alloc O):=fun h O=>iR hr k 2 _ h _ (fun o=>World.cell?_alloc_lt w O ⟨b,o,none⟩ hblt)
 have hcv2:∀O O',(convert 46 9 (.slice (some ⟨b,off+k,none⟩) 1 (cap-k))).run prog ((w.alloc O).alloc O')=.ok (.string (bytes ((s.drop k).take 1))) ((w.alloc O).alloc O'):=fun O O'=>iR hr k 1 _ (by omega) _ (fun o=>by rw [World.cell?_alloc_lt _ _ _ (by simp;omega),World.cell?_alloc_lt _ _ _ hblt])
 have hcv3:∀O,(convert 46 9 (.slice (some ⟨b,off+k,none⟩) 1 (cap-k))).run prog (w.alloc O)=.ok (.string (bytes ((s.drop k).take 1))) (w.alloc O):=fun O=>iR hr k 1 _ (by omega) _ (fun o=>World.cell?_alloc_lt w O ⟨b,o,none⟩ hblt)
 have hd1:(s.drop k).take 1=[s[k]]:=by rw [dR s k hk];rfl
 have one:¬(2 <= (s.drop k).length /\ (s.drop k).take 2∈fE) -> jE (s.drop k)=if s[k]∈dW then 1 else 0:=by
  intro h
  rw [dR s k hk] at h⊢
  by_cases hm:s[k]∈dW
  ·rw [if_pos hm,oR h hm]
  rw [if_neg hm,tL h hm]
 have hany:(nU.any fun y=>decide (y=bytes ((s.drop k).take 1)))=decide (s[k]∈dW):=by
  rw [hd1,show nU=(dW.map fun c=>[c]).map bytes from rfl,aBu]
  simp
 by_cases h2:k+1<s.length
 ·have hany2:(tO.any fun y=>decide (y=bytes ((s.drop k).take 2)))=decide ((s.drop k).take 2∈fE):=by
   rw [show tO=fE.map bytes from rfl,aBu]
  by_cases hm:(s.drop k).take 2∈fE
  ·rw [pA (l:=s.drop k) (by rw [List.length_drop];omega) hm]
   exact aL1 s.length k b off cap w ⟨#[]⟩ _ hk hc hcm hs (by omega) (by omega) (hcv1 (by omega)) (by rw [hany2];simpa using hm)
  rw [one (fun h=>hm h.2)]
  refine (aL6 s.length k b off cap w _ _ hk hc hcm hs (by omega) _ (by omega) (hcv1 (by omega)) hcv2 (by rw [hany2];simpa using hm) hany).mono fun e w' ⟨h,hb⟩=>⟨?_,hb⟩
  rw [h];refine gG ?_;by_cases hq:s[k]∈dW<;>simp [hq]
 ·rw [one (fun h=>by have:=h.1;rw [List.length_drop] at this;omega)]
  refine (aLz s.length k b off cap w _ ⟨#[]⟩ hk hc hcm hs (by omega) _ (by omega) hcv3 hany).mono fun e w' ⟨h,hb⟩=>⟨?_,hb⟩
  rw [h];refine gG ?_;by_cases hq:s[k]∈dW<;>simp [hq]
end
section
open Go.RowKit
theorem mC(s:List UInt8)(k0:Nat)(z:Int)(hz:z=k0)(a:Option Addr)(cap:Nat)(w:World)(hr:cC s=[]∨∃b off,a=some ⟨b,off,none⟩ /\ ∀j u,(cC s)[j]?=some u -> w.cell? ⟨b,off+j,none⟩=some u)(hc:s.length <= cap)(hs:s.length <= 1000000)(hk:k0 <= s.length):
  Calls prog 34 #[.slice a s.length cap,.int .i64 z] w fun e w'=>e=.returned (.int .i64 (bF s k0)) /\ w=w':=by
 subst hz;exact aK0 s k0 _ w ⟨a,cap,rfl,hc,hr⟩ hs hk
theorem nF{s:List UInt8}{k p kind len num:Nat}{toks:List Tok}(HP:p=bF s k)(hk:k <= s.length)(hlt:p<s.length)(hN:dQ (s.drop p)=.tok kind len num)(hn:toks.length≠4000)(HLX:kD s 0 0=fX.app toks (kD s k toks.length)):
  kD s 0 0=fX.app (toks++[⟨kind,bytes ((s.drop p).take len),num,p⟩]) (kD s (p+len) (toks++[(⟨kind,bytes ((s.drop p).take len),num,p⟩:Tok)]).length):=by
 subst HP;rw [HLX,nD hk hlt hN hn,fX.app_cons];simp
theorem nV{s:List UInt8}{k p kind len num:Nat}{toks:List Tok}(hs:s.length <= 262144)(HP:p=bF s k)(hlt:p<s.length)(hN:dQ (s.drop p)=.tok kind len num)(hn:toks.length=4000)(HLX:kD s 0 0=fX.app toks (kD s k toks.length)):iH s=.err p 3:=by
 subst HP;unfold iH;rw [if_neg (by omega),HLX,hn,sG hlt hN];rfl
theorem rD{s:List UInt8}{k p e:Nat}{toks:List Tok}(hs:s.length <= 262144)(HP:p=bF s k)(hlt:p<s.length)(hN:dQ (s.drop p)=.err e)(HLX:kD s 0 0=fX.app toks (kD s k toks.length)):iH s=.err p e:=by
 subst HP;unfold iH;rw [if_neg (by omega),HLX,uY hlt hN];rfl
theorem mO{l:List UInt8}(h:dA (bytes l)=true):l.length <= 16:=by
 rw [mK] at h
 have hall:∀x∈words,x.data.toList.length <= 16:=by decide
 have:=hall _ h
 rw [jR] at this;exact this
theorem qV{w:World}{a:Addr}{u:Value}{b o:Nat}(h:b≠a.block):(w.setCell a u).cell? ⟨b,o,none⟩=w.cell? ⟨b,o,none⟩:=
 World.cell?_of_block (a:=⟨b,o,none⟩) (Below.heap_setCell w a u b h)
theorem pH{s:List UInt8}{b off:Nat}{w:World}(hr:∀j u,(cC s)[j]?=some u -> w.cell? ⟨b,off+j,none⟩=some u)(p len cap:Nat)(hpl:p+len <= s.length)(hcl:len <= cap /\ s.length <= 1000000)(hd:∀c∈(s.drop p).take len,cD c=true)(w':World)(hw:∀o,w'.cell? ⟨b,o,none⟩=w.cell? ⟨b,o,none⟩):
  Calls prog 38 #[.slice (some ⟨b,off+p,none⟩) len cap] w' fun e w''=>e=.returned (.int .i64 (xU ((s.drop p).take len))) /\ w'=w'':=by
 have hl:((s.drop p).take len).length=len:=by rw [List.length_take,List.length_drop];omega
 refine aFd ((s.drop p).take len) _ w' ⟨_,cap,by rw [hl],by rw [hl];exact hcl.1,.inr ⟨b,off+p,rfl,fun j u hu=>by rw [hw];exact aIo hr p len j u hu⟩⟩ (by rw [hl];omega) hd
theorem jF{s:List UInt8}{a:Option Addr}{w w':World}(hr:cC s=[]∨∃b off,a=some ⟨b,off,none⟩ /\ ∀j u,(cC s)[j]?=some u -> w.cell? ⟨b,off+j,none⟩=some u)(hb:Below w.heap.size w w'):
  cC s=[]∨∃b off,a=some ⟨b,off,none⟩ /\ ∀j u,(cC s)[j]?=some u -> w'.cell? ⟨b,off+j,none⟩=some u:=
 hr.imp id fun ⟨b,off,ha,h⟩=>⟨b,off,ha,fun j u hu=>by
  have h1:=h j u hu
  rw [hb.cell (p:=⟨b,off+j,none⟩) (gV h1)];exact h1⟩
theorem aNh(s:List UInt8)(a:Option Addr)(cap:Nat)(w:World)(hs:s.length <= 262144)(hc:s.length <= cap)(hcm:cap <= 9223372036854775807)
  (hr:cC s=[]∨∃b off,a=some ⟨b,off,none⟩ /\ ∀j u,(cC s)[j]?=some u -> w.cell? ⟨b,off+j,none⟩=some u):
  Calls prog 20 #[.slice a s.length cap] w fun e w'=>(∃v pos er,e=.returned (.tuple #[v,.int .i64 pos,.int .i64 er]) /\ aCp w' w.heap.size s v pos er) /\ Below w.heap.size w w':=by
 obtain ⟨i0,hi,hz0,hz1,hz2⟩:=info_parts aI5
 have HR:=Lib.hid hr
 clear hr
 go_enter func20,Tryd.ntmps20
 go_wp2_with (first|(go_at_call 34;refine (mC s 0 _ rfl _ _ _ HR.out hc (by omega) (by omega)).mono ?_;rintro e w' ⟨rfl,rfl⟩))
 go_loopw [5,6] (fun v at_ wr=>∃(k:Nat) (toks:List Tok),at_=.int .i64 (bF s k) /\ k <= s.length /\ wr.ownsRow w.heap.size 51 4 v toks.length (dL toks) /\ kD s 0 0=fX.app toks (kD s k toks.length) /\ toks.length <= 4000 /\ Below w.heap.size w wr) (fun _ at_ _=>s.length-(intOf at_).toNat)
 case atStart=>exact ⟨0,[],rfl,by omega,ownsRow_nil _ _ _ _,by rw [fX.app_nil];rfl,by simp,Below.refl _ _⟩
 case round=>
  obtain ⟨k,toks,rfl,hk,hown,hlx,hlen,hbel⟩:=hrel
  obtain ⟨oa,oc,rfl⟩:=lR hown
  have HLX:=Lib.hid hlx
  have hrr:=jF HR.out hbel
  have HRR:=Lib.hid hrr
  clear hlx hrr
  have hle:=aLf s k
  by_cases hend:s.length <= bF s k
  ·have hee:bF s k=s.length:=by omega
   have heq:((bF s k:Int) == s.length)=true:=by rw [beq_iff_eq];omega
   have HE:=Lib.hid hee
   clear hee
   go_wp2_with (at_builtin;refine wpList_append_own _ rfl _ _ 28 rfl w.heap.size 51 i0 _ 4 40 underlying28 hi hz0 hz1 hz2 rfl (by decide) _ toks.length (dL toks) rfl (ownsRow_below hown ((Below.refl _ _).alloc (Nat.le_refl _) _) (Nat.le_refl _)) ⟨wr.heap.size,0,none⟩ 1 1 [.int .i64 5,.string ⟨#[]⟩,.int .i64 0,.int .i64 (bF s k)] rfl rfl (sK _ _ _) (by simp [Value.oneCell']) (by unfold maxLen;omega) (by omega) (by have:=hbel.size;simp;omega) ?_)
   intro v' w1 hown1 hgrow _
   have hb1:Below w.heap.size w w1:=Below.grow (hbel.alloc hbel.size _) hgrow (by have:=hbel.size;simp;omega) (ownsRow_below hown ((Below.refl _ _).alloc (Nat.le_refl _) _) (Nat.le_refl _)) (Nat.le_refl _)
   clear hgrow
   go_wp2_with fail
   go_ret3
   refine ⟨⟨_,_,_,rfl,.inl ⟨toks++[⟨5,⟨#[]⟩,0,s.length⟩],?_,?_,by rw [HE.out],rfl,by simp;omega⟩⟩,hb1⟩
   ·unfold iH
    rw [if_neg (by omega),HLX.out,mX hend];rfl
   have:=hown1
   rw [←eP,←HE.out];simpa using this
  have hlt:bF s k<s.length:=by omega
  have hne:((bF s k:Int) == s.length)=false:=by rw [beq_eq_false_iff_ne];omega
  obtain ⟨p,hp⟩:∃p,p=bF s k:=⟨_,rfl⟩
  have HP:=Lib.hid hp
  rw [←hp] at hlt hne hle⊢
  clear hp hend
  rcases HRR.out with h0|⟨b,off,rfl,hr⟩
  ·have:s.length=0:=by simpa [cC] using congrArg List.length h0
   omega
  have hblt:b<wr.heap.size:=gV (ByteRow.cell hr p hlt)
  have hcell:=ByteRow.cell hr p hlt
  have HB:=Lib.hid hr
  clear hr
  cases hl:fU s[p] with
  |true=>
   obtain ⟨len,hlen2⟩:∃len,len=((s.drop p).takeWhile cT).length:=⟨_,rfl⟩
   have hpl:p+len <= s.length:=by have:=(List.takeWhile_sublist (l:=s.drop p) cT).length_le;rw [←hlen2,List.length_drop] at this;omega
   have hname:dQ (s.drop p)=if 16<len then .err 3 else .tok (if dA (bytes ((s.drop p).take len)) then 3 else 1) len 0:=by
    have h1:=kK (c:=s[p]) (r:=s.drop (p+1)) hl
    rw [←dR s p hlt,←hlen2] at h1
    rw [show (s.drop p).take len=(s.drop p).takeWhile cT from by rw [hlen2];exact takeWhile_take cT (s.drop p)]
    exact h1
   have hl0:0<len:=by rw [hlen2,dR s p hlt,List.takeWhile_cons_of_pos (by simp [cT,hl])];simp
   have HNM:=Lib.hid hname
   have HL2:=Lib.hid hlen2
   clear hlen2 hname
   go_wp2_with (first|(go_at_call 35;refine (eL _ _).mono ?_;rintro e w' ⟨rfl,rfl⟩))
   go_hide hQ
   go_loop [8] (fun v=>∃d:Nat,d <= len /\ v=.int .i64 ((p:Int)+d) /\ len=d+(((s.drop p).drop d).takeWhile cT).length) (fun v=>s.length-(intOf v).toNat)
   case atStart=>exact ⟨0,by omega,by simp,by rw [HL2.out];simp⟩
   case round=>
    obtain ⟨d,hd,rfl,hinv⟩:=hrel
    have HI:=Lib.hid hinv
    clear hinv
    by_cases hlt2:p+d<s.length
    ·have g1:(p:Int)+d<s.length:=by omega
     have hcell2:=ByteRow.cell HB.out (p+d) hlt2
     have hst:=lH cT (s.drop p) d (by rw [List.length_drop];omega) (by rw [←HL2.out];exact HI.out)
     rw [List.getElem_drop,←HL2.out] at hst
     have HST:=Lib.hid hst
     clear hst
     cases hn:cT s[p+d] with
     |true=>
      have hnx:=HST.out.1 hn
      have HNX:=Lib.hid hnx
      have hdl:d+1 <= len:=by omega
      unfold cT at hn
      have HN:=Lib.hid hn
      clear hnx hn
      go_wp2_with (first|(go_at_call 35;refine (eL _ _).mono ?_;rintro e w' ⟨rfl,rfl⟩)|(go_at_call 36;refine (fJ _ _).mono ?_;rintro e w' ⟨rfl,rfl⟩))
      all_goals first
       |(go_round;(case rel=>exact ⟨d+1,hdl,(by simp;omega),HNX.out⟩);(case measure=>simp [intOf];omega))
       |(exfalso;have h:=HN.out;simp_all)
     |false=>
      have hnx:=HST.out.2 hn
      have hdl:len=d:=hnx
      unfold cT at hn
      rw [Bool.or_eq_false_iff] at hn
      obtain ⟨hn1,hn2⟩:=hn
      subst hdl
      clear hnx
      go_wp2_with (first|(go_at_call 35;((with_reducible refine (eL _ _).mono ?_);rintro e w' ⟨rfl,rfl⟩))|(go_at_call 36;((with_reducible refine (fJ _ _).mono ?_);rintro e w' ⟨rfl,rfl⟩)))
      subst hQ
      have hsz:=hbel.size
      have hge:=lG s (p+len) hpl
      go_wp2_with (first|(rw [iR HB.out p len _ hpl _ (fun o=>World.cell?_alloc_lt wr _ ⟨b,o,none⟩ hblt)];go_simp)|(go_at_call 37;((with_reducible refine (oN _ _).mono ?_);rintro e w1 ⟨rfl,hb⟩;obtain ⟨hcc,hcf⟩:=tF hb;have hbw1:Below wr.heap.size wr w1:=((Below.refl _ _).alloc (Nat.le_refl _) _).trans (hb.mono (by simp));have hbW1:Below w.heap.size w w1:=hbel.trans (hbw1.mono hsz);have hsz1:=hbw1.size)))
      ·have h4:((toks.length:Int) == 4000)=true:=by assumption
       go_ret3
       exact ⟨⟨_,_,_,rfl,.inr ⟨p,3,nV hs HP.out hlt (show dQ (s.drop p)=.tok 3 len 0 from by have hq:dA (bytes ((s.drop p).take len))=true:=by {assumption};rw [HNM.out,if_neg (by have:=mO hq;rw [List.length_take,List.length_drop] at this;omega),if_pos hq]) (by have:=h4;simp at this;omega) HLX.out,rfl,rfl,rfl,by omega⟩⟩,by go_grown⟩
      ·have h4:((toks.length:Int) == 4000)=false:=by assumption
       have h4':toks.length≠4000:=by intro h;rw [h] at h4;simp at h4
       have h5:toks.length<4000:=by omega
       have HN:=Lib.hid (show dQ (s.drop p)=.tok 3 len 0 from by have hq:dA (bytes ((s.drop p).take len))=true:=by {assumption};rw [HNM.out,if_neg (by have:=mO hq;rw [List.length_take,List.length_drop] at this;omega),if_pos hq])
       have H4:=Lib.hid h4'
       clear h4'
       go_wp2_with (first|(rw [iR HB.out p len _ hpl _ (fun o=>by (repeat rw [qV (Nat.ne_of_lt hblt)]);rw [hcc _ _ (by simp;omega),World.cell?_alloc_lt wr _ ⟨b,o,none⟩ hblt])];go_simp)|(at_builtin;refine wpList_append_own _ rfl _ _ 28 rfl w.heap.size 51 i0 _ 4 40 underlying28 hi hz0 hz1 hz2 rfl (by decide) _ toks.length (dL toks) rfl (ownsRow_below hown (by go_grown) (Nat.le_refl _)) _ 1 1 [.int .i64 3,.string (bytes ((s.drop p).take len)),.int .i64 0,.int .i64 p] rfl rfl (bXs _ _ _ _ (by simp)) (by simp [Value.oneCell']) (by unfold maxLen;omega) (by omega) (by simp;omega) ?_))
       intro v' w2 hown2 hgrow _
       have hb2:Below w.heap.size w w2:=Below.grow (by go_grown) hgrow (by simp;omega) (ownsRow_below hown (by go_grown) (Nat.le_refl _)) (Nat.le_refl _)
       clear hgrow
       go_wp2_with ((go_at_call 34;((with_reducible refine (mC s (p+len) _ (by omega) _ _ _ (jF HR.out hb2) hc (by omega) hpl).mono ?_);rintro e w' ⟨rfl,rfl⟩)))
       go_roundw
       case rel=>exact ⟨p+len,toks++[⟨3,bytes ((s.drop p).take len),0,p⟩],rfl,hpl,(by rw [←eP];simpa using hown2),nF HP.out hk hlt HN.out H4.out HLX.out,by simp;omega,hb2⟩
       case measure=>simp [intOf];omega
      ·go_ret3
       exact ⟨⟨_,_,_,rfl,.inr ⟨p,3,rD hs HP.out hlt (by rw [HNM.out,if_pos (by omega)]) HLX.out,rfl,rfl,rfl,by omega⟩⟩,by go_grown⟩
      ·have h4:((toks.length:Int) == 4000)=true:=by assumption
       go_ret3
       exact ⟨⟨_,_,_,rfl,.inr ⟨p,3,nV hs HP.out hlt (show dQ (s.drop p)=.tok 1 len 0 from by have hq:dA (bytes ((s.drop p).take len))=false:=by {assumption};rw [HNM.out,if_neg (by omega),if_neg (by simp [hq])]) (by have:=h4;simp at this;omega) HLX.out,rfl,rfl,rfl,by omega⟩⟩,by go_grown⟩
      have h4:((toks.length:Int) == 4000)=false:=by assumption
      have h4':toks.length≠4000:=by intro h;rw [h] at h4;simp at h4
      have h5:toks.length<4000:=by omega
      have HN:=Lib.hid (show dQ (s.drop p)=.tok 1 len 0 from by have hq:dA (bytes ((s.drop p).take len))=false:=by {assumption};rw [HNM.out,if_neg (by omega),if_neg (by simp [hq])])
      have H4:=Lib.hid h4'
      clear h4'
      go_wp2_with (first|(rw [iR HB.out p len _ hpl _ (fun o=>by (repeat rw [qV (Nat.ne_of_lt hblt)]);rw [hcc _ _ (by simp;omega),World.cell?_alloc_lt wr _ ⟨b,o,none⟩ hblt])];go_simp)|(at_builtin;refine wpList_append_own _ rfl _ _ 28 rfl w.heap.size 51 i0 _ 4 40 underlying28 hi hz0 hz1 hz2 rfl (by decide) _ toks.length (dL toks) rfl (ownsRow_below hown (by go_grown) (Nat.le_refl _)) _ 1 1 [.int .i64 1,.string (bytes ((s.drop p).take len)),.int .i64 0,.int .i64 p] rfl rfl (bXs _ _ _ _ (by simp)) (by simp [Value.oneCell']) (by unfold maxLen;omega) (by omega) (by simp;omega) ?_))
      intro v' w2 hown2 hgrow _
      have hb2:Below w.heap.size w w2:=Below.grow (by go_grown) hgrow (by simp;omega) (ownsRow_below hown (by go_grown) (Nat.le_refl _)) (Nat.le_refl _)
      clear hgrow
      go_wp2_with ((go_at_call 34;((with_reducible refine (mC s (p+len) _ (by omega) _ _ _ (jF HR.out hb2) hc (by omega) hpl).mono ?_);rintro e w' ⟨rfl,rfl⟩)))
      go_roundw
      case rel=>exact ⟨p+len,toks++[⟨1,bytes ((s.drop p).take len),0,p⟩],rfl,hpl,(by rw [←eP];simpa using hown2),nF HP.out hk hlt HN.out H4.out HLX.out,by simp;omega,hb2⟩
      case measure=>simp [intOf];omega
    ·have hdl:len=d:=by have h:=HI.out;rw [List.drop_drop,List.drop_eq_nil_of_le (by omega)] at h;simpa using h
     have g1:(s.length:Int) <= p+d:=by omega
     subst hdl
     go_wp2_with (first|(go_at_call 35;((with_reducible refine (eL _ _).mono ?_);rintro e w' ⟨rfl,rfl⟩))|(go_at_call 36;((with_reducible refine (fJ _ _).mono ?_);rintro e w' ⟨rfl,rfl⟩)))
     subst hQ
     have hsz:=hbel.size
     have hge:=lG s (p+len) hpl
     go_wp2_with (first|(rw [iR HB.out p len _ hpl _ (fun o=>World.cell?_alloc_lt wr _ ⟨b,o,none⟩ hblt)];go_simp)|(go_at_call 37;((with_reducible refine (oN _ _).mono ?_);rintro e w1 ⟨rfl,hb⟩;obtain ⟨hcc,hcf⟩:=tF hb;have hbw1:Below wr.heap.size wr w1:=((Below.refl _ _).alloc (Nat.le_refl _) _).trans (hb.mono (by simp));have hbW1:Below w.heap.size w w1:=hbel.trans (hbw1.mono hsz);have hsz1:=hbw1.size)))
     ·have h4:((toks.length:Int) == 4000)=true:=by assumption
      go_ret3
      exact ⟨⟨_,_,_,rfl,.inr ⟨p,3,nV hs HP.out hlt (show dQ (s.drop p)=.tok 3 len 0 from by have hq:dA (bytes ((s.drop p).take len))=true:=by {assumption};rw [HNM.out,if_neg (by have:=mO hq;rw [List.length_take,List.length_drop] at this;omega),if_pos hq]) (by have:=h4;simp at this;omega) HLX.out,rfl,rfl,rfl,by omega⟩⟩,by go_grown⟩
     ·have h4:((toks.length:Int) == 4000)=false:=by assumption
      have h4':toks.length≠4000:=by intro h;rw [h] at h4;simp at h4
      have h5:toks.length<4000:=by omega
      have HN:=Lib.hid (show dQ (s.drop p)=.tok 3 len 0 from by have hq:dA (bytes ((s.drop p).take len))=true:=by {assumption};rw [HNM.out,if_neg (by have:=mO hq;rw [List.length_take,List.length_drop] at this;omega),if_pos hq])
      have H4:=Lib.hid h4'
      clear h4'
      go_wp2_with (first|(rw [iR HB.out p len _ hpl _ (fun o=>by (repeat rw [qV (Nat.ne_of_lt hblt)]);rw [hcc _ _ (by simp;omega),World.cell?_alloc_lt wr _ ⟨b,o,none⟩ hblt])];go_simp)|(at_builtin;refine wpList_append_own _ rfl _ _ 28 rfl w.heap.size 51 i0 _ 4 40 underlying28 hi hz0 hz1 hz2 rfl (by decide) _ toks.length (dL toks) rfl (ownsRow_below hown (by go_grown) (Nat.le_refl _)) _ 1 1 [.int .i64 3,.string (bytes ((s.drop p).take len)),.int .i64 0,.int .i64 p] rfl rfl (bXs _ _ _ _ (by simp)) (by simp [Value.oneCell']) (by unfold maxLen;omega) (by omega) (by simp;omega) ?_))
      intro v' w2 hown2 hgrow _
      have hb2:Below w.heap.size w w2:=Below.grow (by go_grown) hgrow (by simp;omega) (ownsRow_below hown (by go_grown) (Nat.le_refl _)) (Nat.le_refl _)
      clear hgrow
      go_wp2_with ((go_at_call 34;((with_reducible refine (mC s (p+len) _ (by omega) _ _ _ (jF HR.out hb2) hc (by omega) hpl).mono ?_);rintro e w' ⟨rfl,rfl⟩)))
      go_roundw
      case rel=>exact ⟨p+len,toks++[⟨3,bytes ((s.drop p).take len),0,p⟩],rfl,hpl,(by rw [←eP];simpa using hown2),nF HP.out hk hlt HN.out H4.out HLX.out,by simp;omega,hb2⟩
      case measure=>simp [intOf];omega
     ·go_ret3
      exact ⟨⟨_,_,_,rfl,.inr ⟨p,3,rD hs HP.out hlt (by rw [HNM.out,if_pos (by omega)]) HLX.out,rfl,rfl,rfl,by omega⟩⟩,by go_grown⟩
     ·have h4:((toks.length:Int) == 4000)=true:=by assumption
      go_ret3
      exact ⟨⟨_,_,_,rfl,.inr ⟨p,3,nV hs HP.out hlt (show dQ (s.drop p)=.tok 1 len 0 from by have hq:dA (bytes ((s.drop p).take len))=false:=by {assumption};rw [HNM.out,if_neg (by omega),if_neg (by simp [hq])]) (by have:=h4;simp at this;omega) HLX.out,rfl,rfl,rfl,by omega⟩⟩,by go_grown⟩
     ·have h4:((toks.length:Int) == 4000)=false:=by assumption
      have h4':toks.length≠4000:=by intro h;rw [h] at h4;simp at h4
      have h5:toks.length<4000:=by omega
      have HN:=Lib.hid (show dQ (s.drop p)=.tok 1 len 0 from by have hq:dA (bytes ((s.drop p).take len))=false:=by {assumption};rw [HNM.out,if_neg (by omega),if_neg (by simp [hq])])
      have H4:=Lib.hid h4'
      clear h4'
      go_wp2_with (first|(rw [iR HB.out p len _ hpl _ (fun o=>by (repeat rw [qV (Nat.ne_of_lt hblt)]);rw [hcc _ _ (by simp;omega),World.cell?_alloc_lt wr _ ⟨b,o,none⟩ hblt])];go_simp)|(at_builtin;refine wpList_append_own _ rfl _ _ 28 rfl w.heap.size 51 i0 _ 4 40 underlying28 hi hz0 hz1 hz2 rfl (by decide) _ toks.length (dL toks) rfl (ownsRow_below hown (by go_grown) (Nat.le_refl _)) _ 1 1 [.int .i64 1,.string (bytes ((s.drop p).take len)),.int .i64 0,.int .i64 p] rfl rfl (bXs _ _ _ _ (by simp)) (by simp [Value.oneCell']) (by unfold maxLen;omega) (by omega) (by simp;omega) ?_))
      intro v' w2 hown2 hgrow _
      have hb2:Below w.heap.size w w2:=Below.grow (by go_grown) hgrow (by simp;omega) (ownsRow_below hown (by go_grown) (Nat.le_refl _)) (Nat.le_refl _)
      clear hgrow
      go_wp2_with ((go_at_call 34;((with_reducible refine (mC s (p+len) _ (by omega) _ _ _ (jF HR.out hb2) hc (by omega) hpl).mono ?_);rintro e w' ⟨rfl,rfl⟩)))
      go_roundw
      case rel=>exact ⟨p+len,toks++[⟨1,bytes ((s.drop p).take len),0,p⟩],rfl,hpl,(by rw [←eP];simpa using hown2),nF HP.out hk hlt HN.out H4.out HLX.out,by simp;omega,hb2⟩
      case measure=>simp [intOf];omega
  |false=>
   cases hdg:cD s[p] with
   |true=>
    obtain ⟨len,hlen2⟩:∃len,len=((s.drop p).takeWhile cD).length:=⟨_,rfl⟩
    have hpl:p+len <= s.length:=by have:=(List.takeWhile_sublist (l:=s.drop p) cD).length_le;rw [←hlen2,List.length_drop] at this;omega
    have htw:(s.drop p).take len=(s.drop p).takeWhile cD:=by rw [hlen2];exact takeWhile_take cD (s.drop p)
    have hnn:iT 0 ((s.drop p).take len)=none -> dQ (s.drop p)=.err 2:=by
     intro h
     have h1:=nK (c:=s[p]) (r:=s.drop (p+1)) hl hdg (by rw [←dR s p hlt,←htw];exact h)
     rw [←dR s p hlt] at h1;exact h1
    have hns:∀nv,iT 0 ((s.drop p).take len)=some nv -> dQ (s.drop p)=.tok 2 len nv:=by
     intro nv h
     have h1:=lP (c:=s[p]) (r:=s.drop (p+1)) hl hdg (by rw [←dR s p hlt,←htw];exact h)
     rw [←dR s p hlt,←hlen2] at h1;exact h1
    have hdall:Hid (∀c∈(s.drop p).take len,cD c=true):=Lib.hid (by rw [htw];exact fun c hc=>(List.all_eq_true.1 (List.all_takeWhile (p:=cD) (l:=s.drop p))) c hc)
    have hl0:0<len:=by rw [hlen2,dR s p hlt,List.takeWhile_cons_of_pos hdg];simp
    have HNN:=Lib.hid hnn
    have HNS:=Lib.hid hns
    have HL2:=Lib.hid hlen2
    have hsz:=hbel.size
    have hge:=lG s (p+len) hpl
    clear hlen2 hnn hns htw
    go_wp2_with (first|(go_at_call 35;((with_reducible refine (eL _ _).mono ?_);rintro e w' ⟨rfl,rfl⟩))|(go_at_call 36;((with_reducible refine (fJ _ _).mono ?_);rintro e w' ⟨rfl,rfl⟩)))
    go_hide hQ
    go_loop [8] (fun v=>∃d:Nat,d <= len /\ v=.int .i64 ((p:Int)+d) /\ len=d+(((s.drop p).drop d).takeWhile cD).length) (fun v=>s.length-(intOf v).toNat)
    case atStart=>exact ⟨0,by omega,by simp,by rw [HL2.out];simp⟩
    case round=>
     obtain ⟨d,hd,rfl,hinv⟩:=hrel
     have HI:=Lib.hid hinv
     clear hinv
     by_cases hlt2:p+d<s.length
     ·have g1:(p:Int)+d<s.length:=by omega
      have hcell2:=ByteRow.cell HB.out (p+d) hlt2
      have hst:=lH cD (s.drop p) d (by rw [List.length_drop];omega) (by rw [←HL2.out];exact HI.out)
      rw [List.getElem_drop,←HL2.out] at hst
      have HST:=Lib.hid hst
      clear hst
      cases hn:cD s[p+d] with
      |true=>
       have hnx:=HST.out.1 hn
       have HNX:=Lib.hid hnx
       have hdl:d+1 <= len:=by omega
       clear hnx
       go_wp2_with (first|(go_at_call 35;((with_reducible refine (eL _ _).mono ?_);rintro e w' ⟨rfl,rfl⟩))|(go_at_call 36;((with_reducible refine (fJ _ _).mono ?_);rintro e w' ⟨rfl,rfl⟩)))
       go_round
       case rel=>exact ⟨d+1,hdl,(by simp;omega),HNX.out⟩
       case measure=>simp [intOf];omega
      |false=>
       have hdl:len=d:=HST.out.2 hn
       subst hdl
       cases hnum:iT 0 ((s.drop p).take len) with
       |none=>
        have hni:xU ((s.drop p).take len)=-1:=by unfold xU;rw [hnum]
        have HNI:=Lib.hid hni
        have HE:=Lib.hid (HNN.out hnum)
        clear hni hnum
        go_wp2_with (first|(go_at_call 35;((with_reducible refine (eL _ _).mono ?_);rintro e w' ⟨rfl,rfl⟩))|(go_at_call 36;((with_reducible refine (fJ _ _).mono ?_);rintro e w' ⟨rfl,rfl⟩)))
        subst hQ
        go_wp2_with (go_at_call 38;((with_reducible refine (pH HB.out p len _ hpl (by omega) hdall.out _ (fun o=>World.cell?_alloc_lt wr _ ⟨b,o,none⟩ hblt)).mono ?_);rintro e w' ⟨rfl,rfl⟩;rw [HNI.out]))
        go_ret3
        exact ⟨⟨_,_,_,rfl,.inr ⟨p,2,rD hs HP.out hlt HE.out HLX.out,rfl,rfl,rfl,by omega⟩⟩,by go_grown⟩
       |some nv=>
        have hni:xU ((s.drop p).take len)=nv:=by unfold xU;rw [hnum]
        have HNI:=Lib.hid hni
        have HNM:=Lib.hid (HNS.out nv hnum)
        clear hni hnum
        go_wp2_with (first|(go_at_call 35;((with_reducible refine (eL _ _).mono ?_);rintro e w' ⟨rfl,rfl⟩))|(go_at_call 36;((with_reducible refine (fJ _ _).mono ?_);rintro e w' ⟨rfl,rfl⟩)))
        subst hQ
        go_wp2_with (go_at_call 38;((with_reducible refine (pH HB.out p len _ hpl (by omega) hdall.out _ (fun o=>World.cell?_alloc_lt wr _ ⟨b,o,none⟩ hblt)).mono ?_);rintro e w' ⟨rfl,rfl⟩;rw [HNI.out]))
        ·have h4:((toks.length:Int) == 4000)=true:=by assumption
         go_ret3
         exact ⟨⟨_,_,_,rfl,.inr ⟨p,3,nV hs HP.out hlt (show dQ (s.drop p)=.tok 2 len nv from HNM.out) (by have:=h4;simp at this;omega) HLX.out,rfl,rfl,rfl,by omega⟩⟩,by go_grown⟩
        have h4:((toks.length:Int) == 4000)=false:=by assumption
        have h4':toks.length≠4000:=by intro h;rw [h] at h4;simp at h4
        have h5:toks.length<4000:=by omega
        have HN:=Lib.hid (show dQ (s.drop p)=.tok 2 len nv from HNM.out)
        have H4:=Lib.hid h4'
        clear h4'
        go_wp2_with (first|(rw [iR HB.out p len _ hpl _ (fun o=>World.cell?_alloc_lt wr _ ⟨b,o,none⟩ hblt)];go_simp)|(at_builtin;refine wpList_append_own _ rfl _ _ 28 rfl w.heap.size 51 i0 _ 4 40 underlying28 hi hz0 hz1 hz2 rfl (by decide) _ toks.length (dL toks) rfl (ownsRow_below hown (by go_grown) (Nat.le_refl _)) _ 1 1 [.int .i64 2,.string (bytes ((s.drop p).take len)),.int .i64 nv,.int .i64 p] rfl rfl (bXs _ _ _ _ (by simp)) (by simp [Value.oneCell']) (by unfold maxLen;omega) (by omega) (by simp;omega) ?_))
        intro v' w2 hown2 hgrow _
        have hb2:Below w.heap.size w w2:=Below.grow (by go_grown) hgrow (by simp;omega) (ownsRow_below hown (by go_grown) (Nat.le_refl _)) (Nat.le_refl _)
        clear hgrow
        go_wp2_with ((go_at_call 34;((with_reducible refine (mC s (p+len) _ (by omega) _ _ _ (jF HR.out hb2) hc (by omega) hpl).mono ?_);rintro e w' ⟨rfl,rfl⟩)))
        go_roundw
        case rel=>exact ⟨p+len,toks++[⟨2,bytes ((s.drop p).take len),nv,p⟩],rfl,hpl,(by rw [←eP];simpa using hown2),nF HP.out hk hlt HN.out H4.out HLX.out,by simp;omega,hb2⟩
        case measure=>simp [intOf];omega
     ·have hdl:len=d:=by have h:=HI.out;rw [List.drop_drop,List.drop_eq_nil_of_le (by omega)] at h;simpa using h
      have g1:(s.length:Int) <= p+d:=by omega
      subst hdl
      cases hnum:iT 0 ((s.drop p).take len) with
      |none=>
       have hni:xU ((s.drop p).take len)=-1:=by unfold xU;rw [hnum]
       have HNI:=Lib.hid hni
       have HE:=Lib.hid (HNN.out hnum)
       clear hni hnum
       go_wp2_with (first|(go_at_call 35;((with_reducible refine (eL _ _).mono ?_);rintro e w' ⟨rfl,rfl⟩))|(go_at_call 36;((with_reducible refine (fJ _ _).mono ?_);rintro e w' ⟨rfl,rfl⟩)))
       subst hQ
       go_wp2_with (go_at_call 38;((with_reducible refine (pH HB.out p len _ hpl (by omega) hdall.out _ (fun o=>World.cell?_alloc_lt wr _ ⟨b,o,none⟩ hblt)).mono ?_);rintro e w' ⟨rfl,rfl⟩;rw [HNI.out]))
       go_ret3
       exact ⟨⟨_,_,_,rfl,.inr ⟨p,2,rD hs HP.out hlt HE.out HLX.out,rfl,rfl,rfl,by omega⟩⟩,by go_grown⟩
      |some nv=>
       have hni:xU ((s.drop p).take len)=nv:=by unfold xU;rw [hnum]
       have HNI:=Lib.hid hni
       have HNM:=Lib.hid (HNS.out nv hnum)
       clear hni hnum
       go_wp2_with (first|(go_at_call 35;((with_reducible refine (eL _ _).mono ?_);rintro e w' ⟨rfl,rfl⟩))|(go_at_call 36;((with_reducible refine (fJ _ _).mono ?_);rintro e w' ⟨rfl,rfl⟩)))
       subst hQ
       go_wp2_with (go_at_call 38;((with_reducible refine (pH HB.out p len _ hpl (by omega) hdall.out _ (fun o=>World.cell?_alloc_lt wr _ ⟨b,o,none⟩ hblt)).mono ?_);rintro e w' ⟨rfl,rfl⟩;rw [HNI.out]))
       ·have h4:((toks.length:Int) == 4000)=true:=by assumption
        go_ret3
        exact ⟨⟨_,_,_,rfl,.inr ⟨p,3,nV hs HP.out hlt (show dQ (s.drop p)=.tok 2 len nv from HNM.out) (by have:=h4;simp at this;omega) HLX.out,rfl,rfl,rfl,by omega⟩⟩,by go_grown⟩
       ·have h4:((toks.length:Int) == 4000)=false:=by assumption
        have h4':toks.length≠4000:=by intro h;rw [h] at h4;simp at h4
        have h5:toks.length<4000:=by omega
        have HN:=Lib.hid (show dQ (s.drop p)=.tok 2 len nv from HNM.out)
        have H4:=Lib.hid h4'
        clear h4'
        go_wp2_with (first|(rw [iR HB.out p len _ hpl _ (fun o=>World.cell?_alloc_lt wr _ ⟨b,o,none⟩ hblt)];go_simp)|(at_builtin;refine wpList_append_own _ rfl _ _ 28 rfl w.heap.size 51 i0 _ 4 40 underlying28 hi hz0 hz1 hz2 rfl (by decide) _ toks.length (dL toks) rfl (ownsRow_below hown (by go_grown) (Nat.le_refl _)) _ 1 1 [.int .i64 2,.string (bytes ((s.drop p).take len)),.int .i64 nv,.int .i64 p] rfl rfl (bXs _ _ _ _ (by simp)) (by simp [Value.oneCell']) (by unfold maxLen;omega) (by omega) (by simp;omega) ?_))
        intro v' w2 hown2 hgrow _
        have hb2:Below w.heap.size w w2:=Below.grow (by go_grown) hgrow (by simp;omega) (ownsRow_below hown (by go_grown) (Nat.le_refl _)) (Nat.le_refl _)
        clear hgrow
        go_wp2_with ((go_at_call 34;((with_reducible refine (mC s (p+len) _ (by omega) _ _ _ (jF HR.out hb2) hc (by omega) hpl).mono ?_);rintro e w' ⟨rfl,rfl⟩)))
        go_roundw
        case rel=>exact ⟨p+len,toks++[⟨2,bytes ((s.drop p).take len),nv,p⟩],rfl,hpl,(by rw [←eP];simpa using hown2),nF HP.out hk hlt HN.out H4.out HLX.out,by simp;omega,hb2⟩
        case measure=>simp [intOf];omega
   |false=>
    obtain ⟨len,hlen2⟩:∃len,len=jE (s.drop p):=⟨_,rfl⟩
    have hpl:p+len <= s.length:=by have:=(aEk (s.drop p)).2;rw [←hlen2,List.length_drop] at this;omega
    have hsn:=iN (c:=s[p]) (r:=s.drop (p+1)) hl hdg
    rw [←dR s p hlt,←hlen2] at hsn
    have hsz:=hbel.size
    have hge:=lG s (p+len) hpl
    have HSN:=Lib.hid hsn
    clear hsn
    have HSG:=Lib.hid hlen2
    clear hlen2
    by_cases h0:len=0
    ·have HE:=Lib.hid (show dQ (s.drop p)=.err 1 by rw [HSN.out,if_pos h0])
     have hq:((p:Int)+len == p)=true:=by rw [beq_iff_eq];omega
     have H0:=Lib.hid h0
     clear h0
     go_wp2_with (first|(go_at_call 35;((with_reducible refine (eL _ _).mono ?_);rintro e w' ⟨rfl,rfl⟩))|(go_at_call 36;((with_reducible refine (fJ _ _).mono ?_);rintro e w' ⟨rfl,rfl⟩))|(go_at_call 39;((with_reducible refine (aBz s p b off cap _ (fun j u hu=>by rw [World.cell?_alloc_lt wr _ ⟨b,off+j,none⟩ hblt];exact HB.out j u hu) hc hcm (by omega) hlt).mono ?_);rintro e w1 ⟨rfl,hb⟩;rw [←HSG.out];obtain ⟨hcc,hcf⟩:=tF hb;have hbw1:Below wr.heap.size wr w1:=((Below.refl _ _).alloc (Nat.le_refl _) _).trans (hb.mono (by simp));have hbW1:Below w.heap.size w w1:=hbel.trans (hbw1.mono hsz);have hsz1:=hbw1.size)))
     go_ret3
     exact ⟨⟨_,_,_,rfl,.inr ⟨p,1,rD hs HP.out hlt HE.out HLX.out,rfl,rfl,rfl,by omega⟩⟩,by go_grown⟩
    have HNM:=Lib.hid (show dQ (s.drop p)=.tok 4 len 0 by rw [HSN.out,if_neg h0])
    have hq:((p:Int)+len == p)=false:=by rw [beq_eq_false_iff_ne];omega
    have hl0:0<len:=by omega
    clear h0
    go_wp2_with (first|(go_at_call 35;((with_reducible refine (eL _ _).mono ?_);rintro e w' ⟨rfl,rfl⟩))|(go_at_call 36;((with_reducible refine (fJ _ _).mono ?_);rintro e w' ⟨rfl,rfl⟩))|(go_at_call 39;((with_reducible refine (aBz s p b off cap _ (fun j u hu=>by rw [World.cell?_alloc_lt wr _ ⟨b,off+j,none⟩ hblt];exact HB.out j u hu) hc hcm (by omega) hlt).mono ?_);rintro e w1 ⟨rfl,hb⟩;rw [←HSG.out];obtain ⟨hcc,hcf⟩:=tF hb;have hbw1:Below wr.heap.size wr w1:=((Below.refl _ _).alloc (Nat.le_refl _) _).trans (hb.mono (by simp));have hbW1:Below w.heap.size w w1:=hbel.trans (hbw1.mono hsz);have hsz1:=hbw1.size)))
    ·have h4:((toks.length:Int) == 4000)=true:=by assumption
     go_ret3
     exact ⟨⟨_,_,_,rfl,.inr ⟨p,3,nV hs HP.out hlt (show dQ (s.drop p)=.tok 4 len 0 from HNM.out) (by have:=h4;simp at this;omega) HLX.out,rfl,rfl,rfl,by omega⟩⟩,by go_grown⟩
    have h4:((toks.length:Int) == 4000)=false:=by assumption
    have h4':toks.length≠4000:=by intro h;rw [h] at h4;simp at h4
    have h5:toks.length<4000:=by omega
    have HN:=Lib.hid (show dQ (s.drop p)=.tok 4 len 0 from HNM.out)
    have H4:=Lib.hid h4'
    clear h4'
    go_wp2_with (first|(rw [iR HB.out p len _ hpl _ (fun o=>by (repeat rw [qV (Nat.ne_of_lt hblt)]);rw [hcc _ _ (by simp;omega),World.cell?_alloc_lt wr _ ⟨b,o,none⟩ hblt])];go_simp)|(at_builtin;refine wpList_append_own _ rfl _ _ 28 rfl w.heap.size 51 i0 _ 4 40 underlying28 hi hz0 hz1 hz2 rfl (by decide) _ toks.length (dL toks) rfl (ownsRow_below hown (by go_grown) (Nat.le_refl _)) _ 1 1 [.int .i64 4,.string (bytes ((s.drop p).take len)),.int .i64 0,.int .i64 p] rfl rfl (bXs _ _ _ _ (by simp)) (by simp [Value.oneCell']) (by unfold maxLen;omega) (by omega) (by simp;omega) ?_))
    intro v' w2 hown2 hgrow _
    have hb2:Below w.heap.size w w2:=Below.grow (by go_grown) hgrow (by simp;omega) (ownsRow_below hown (by go_grown) (Nat.le_refl _)) (Nat.le_refl _)
    clear hgrow
    go_wp2_with ((go_at_call 34;((with_reducible refine (mC s (p+len) _ (by omega) _ _ _ (jF HR.out hb2) hc (by omega) hpl).mono ?_);rintro e w' ⟨rfl,rfl⟩)))
    go_roundw
    case rel=>exact ⟨p+len,toks++[⟨4,bytes ((s.drop p).take len),0,p⟩],rfl,hpl,(by rw [←eP];simpa using hown2),nF HP.out hk hlt HN.out H4.out HLX.out,by simp;omega,hb2⟩
    case measure=>simp [intOf];omega
theorem aKn(a:Option Addr)(n cap:Nat)(w:World)(hs:(262144:Int)<n):
  Calls prog 20 #[.slice a n cap] w fun e w'=>e=.returned (.tuple #[.slice none 0 0,.int .i64 262144,.int .i64 3]) /\ w=w':=by
 go_enter func20,Tryd.ntmps20
 go_wp2_with fail
 go_ret3
 exact ⟨rfl,rfl⟩
theorem aLm(s:List UInt8)(v:Value)(w:World)(hv:dD w v s.length (cC s))(hcm:∀a n c,v=.slice a n c -> c <= 9223372036854775807):
  Calls prog 20 #[v] w fun e w'=>(∃v pos er,e=.returned (.tuple #[v,.int .i64 pos,.int .i64 er]) /\ aCp w' w.heap.size s v pos er) /\ Below w.heap.size w w':=by
 obtain ⟨a,cap,rfl,hc,hr⟩:=hv
 by_cases hs:262144<s.length
 ·refine (aKn a _ cap w (by omega)).mono fun e w' ⟨h,hw⟩=>?_
  subst hw
  refine ⟨⟨_,_,_,h,.inr ⟨262144,3,?_,rfl,rfl,rfl,by omega⟩⟩,Below.refl _ _⟩
  unfold iH;rw [if_pos (by omega)]
 exact aNh s a cap w (by omega) hc (hcm _ _ _ rfl) hr
end
section
open Go.RowKit
abbrev iF(s:List UInt8):List AC:=s.map fun c=>.val (.int .u8 c.toNat)
def aOk(s:List UInt8)(t:AT):Prop:=
 (∃l,iH s=.ok l /\ t=.tup [.c (.sl l.length (l.flatMap aW)),.c (.val (.int .i64 (s.length:Int))),nI 0] /\ l.length <= 4001)∨(∃p e:Nat,iH s=.err p e /\ t=.tup [.c (.val (.slice none 0 0)),.c (.val (.int .i64 (p:Int))),.c (.val (.int .i64 (e:Int)))] /\ e≠0)
theorem aEs{N:List Nat}{w:World}{base:Nat}{e:TypeId}{size:Nat}{v:Value}{n:Nat}{xs:List Value}(h:w.ownsRow base e size v n xs)(hN:∀x,x∈N -> x<base):dD (bI N w) v n xs:=by
 obtain ⟨h1,h2⟩:=h
 have h9:=dD.of_owns (⟨h1,h2⟩:w.ownsRow base e size v n xs)
 rcases h2 with ⟨rfl,rfl⟩|⟨g,cap,cur,rfl,hg,-⟩
 ·obtain rfl:xs=[]:=List.eq_nil_of_length_eq_zero (by simpa using h1)
  exact .nil _
 obtain ⟨a,c,he,hc,hr⟩:=h9
 refine ⟨a,c,he,hc,?_⟩
 rcases hr with h0|⟨b,off,rfl,hr⟩
 ·exact .inl h0
 cases he
 refine .inr ⟨g,0,rfl,fun j v hj=>?_⟩
 rw [eW]
 ·exact hr j v hj
 intro hm;have h9:g<base:=hN g hm;omega
theorem uW(l:List Tok):l.flatMap aW=(dL l).map .val:=by
 induction l with
 |nil=>rfl
 |cons t l ih=>rw [List.flatMap_cons,ih];unfold dL;rw [List.flatMap_cons,List.map_append];rfl
theorem aEv(l:List Tok):∀u,u∈dL l -> u.oneCell'=true:=by
 intro u hu
 unfold dL at hu
 obtain ⟨t,_,h⟩:=List.mem_flatMap.1 hu
 unfold Tok.cells at h
 simp only [mem_cons,not_mem_nil,or_false] at h
 rcases h with rfl|rfl|rfl|rfl<;>rfl
theorem aBm{w:World}{v:Value}{n:Nat}{s:List UInt8}(h:dO w (.c (.sl n (iF s))) v):dD w v n (cC s) /\ ∀a k c,v=.slice a k c -> c <= 9223372036854775807:=by
 cases h with
 |c _ _ h=>cases h with
  |sl _ _ us _ hr hl hh hcap=>
   refine ⟨?_,hcap⟩
   have:us=cC s:=by
    refine List.ext_getElem (by rw [hl];simp [iF,cC]) fun i h1 h2=>?_
    have h3:=hh i (by rw [←hl];exact h1) h1
    generalize hx:(iF s)[i]'(by rw [←hl];exact h1)=x at h3
    unfold iF at hx
    rw [List.getElem_map] at hx
    subst hx
    have hi:i<s.length:=by simpa [cC] using h2
    have h4:us[i]=.int .u8 s[i].toNat:=by
     generalize us[i]=u at h3
     cases h3;rfl
    rw [h4];simp [cC]
   rw [←this];exact hr
theorem aQt{F:FuncId}{bs:List UInt8}{s:Sto}(W:World -> Prop)(hW:∀w,Mem s w -> W w)(hF:∀v w,W w -> dD w v bs.length (cC bs) -> (∀a k c,v=.slice a k c -> c <= 9223372036854775807) -> Calls prog F #[v] w fun e w'=>(∃v pos er,e=.returned (.tuple #[v,.int .i64 pos,.int .i64 er]) /\ aCp w' w.heap.size bs v pos er) /\ Below w.heap.size w w'):
  aL prog F [.c (.sl bs.length (iF bs))] [] s fun t s'=>aOk bs t /\ s'=s:=by
 intro vs w hm _ hl hr
 obtain ⟨v,rfl⟩:∃v,vs=[v]:=by
  cases vs with
  |nil=>cases hl
  |cons v vs=>cases vs with
   |nil=>exact ⟨v,rfl⟩
   |cons _ _=>simp at hl
 obtain ⟨hv,hcap⟩:=aBm (hr 0 (by simp) (by simp))
 refine (hF v w (hW w hm) (hv.mono fun a u h=>(hI h).1) hcap).mono fun e w' ⟨⟨v',pos,er,he,hf⟩,hb⟩=>?_
 have hk:cW [] w w':=cW.of_below hb
 have hu:Up2 (bI s.bl w) (bI s.bl w'):=jA hk (fun _ h=>by cases h) (fun b h=>.inl h)
 obtain ⟨m1,m2⟩:=hm.up hu (fun b hb'=>hk.block b (hm.lt b hb') (by simp))
 have hm':Mem s w':=⟨hm.nodup,fun b hb'=>Nat.lt_of_lt_of_le (hm.lt b hb') hk.size,m1,m2⟩
 have t3:∀(x:AT)(p e2:Int),dO (bI s.bl w') x v' -> dO (bI s.bl w') (.tup [x,.c (.val (.int .i64 p)),.c (.val (.int .i64 e2))]) (.tuple #[v',.int .i64 p,.int .i64 e2]):=fun x p e2 hx=>by
  refine .tup _ [v',.int .i64 p,.int .i64 e2] rfl fun i h h'=>?_
  match i,h,h' with
  |0,_,_=>exact hx
  |1,_,_=>exact .c _ _ (.val _ rfl)
  |2,_,_=>exact .c _ _ (.val _ rfl)
 subst he
 rcases hf with ⟨l,h1,h2,rfl,rfl,h3⟩|⟨p,e2,h1,rfl,rfl,rfl,h2⟩
 ·refine ⟨_,_,s,rfl,⟨.inl ⟨l,h1,rfl,h3⟩,rfl⟩,t3 _ _ _ (.c _ _ (.sl _ _ (dL l) _ (aEs h2 hm.lt) ?_ ?_ ?_)),hm',hk,fun b hb=>.inl hb⟩
  ·rw [uW];simp
  ·rw [uW];exact (gU _ _ (aEv l)).at_
  exact uK h2
 exact ⟨_,_,s,rfl,⟨.inr ⟨p,e2,h1,rfl,h2⟩,rfl⟩,t3 _ _ _ (.c _ _ (.val _ rfl)),hm',hk,fun b hb=>.inl hb⟩
theorem aLb(bs:List UInt8)(s:Sto):aL prog 20 [.c (.sl bs.length (iF bs))] [] s fun t s'=>aOk bs t /\ s'=s:=
 aQt (fun _=>True) (fun _ _=>trivial) fun v w _ hv hc=>aLm bs v w hv hc
end
section
open Go.RowKit
section
variable {P:Program}{U T:List Nat}{o:Oper}{n d:Nat}{ts:List (Nat×AT)}{s:Sto}{K:AS -> Prop}
theorem aFb{bx bx':List Box}{r r':bA}{rw:List bA}{b:Nat}(hb:bx'.map Box.b=bx.map Box.b)(hn:(⟨bx',r'::rw⟩:Sto).bl.Nodup)(h1:b∈aY r'.v)(h2:b∈(⟨bx,r::rw⟩:Sto).bl):b∈aY r.v:=by
 unfold Sto.bl at hn h2
 simp only [List.flatMap_cons,mem_append] at h2
 simp only [List.flatMap_cons] at hn
 rw [hb] at hn
 rcases h2 with h|h|h
 ·exact absurd rfl ((List.nodup_append.1 hn).2.2 b h b (List.mem_append_left _ h1))
 ·exact h
 exact absurd rfl ((List.nodup_append.1 (List.nodup_append.1 hn).2.1).2.2 b h1 b h)
end
end
section
open Go.RowKit
def aGg(places:Bool)(l m:List Tok):Prop:=l.length=m.length /\ ∀k (h:k<l.length) (h':k<m.length),l[k].kind=m[k].kind /\ l[k].text=m[k].text /\ l[k].num=m[k].num /\ (places=true -> l[k].pos=m[k].pos)
theorem aGg.refl(p:Bool)(l:List Tok):aGg p l l:=⟨rfl,fun _ _ _=>⟨rfl,rfl,rfl,fun _=>rfl⟩⟩
end
section
open Go.RowKit
abbrev aC0(bs:List UInt8)(m:Int):AT:=.fact (.fact (.c (.sl bs.length (iF bs))) 2 0 (words.map fun x=>.val (.string x))) 5 0 [.val (.int .i64 m)]
theorem aIt{t:AT}{b o:Nat}{cs:List AC}:Wk (.fact t b o cs) t:=fun w v h=>by cases h with|fact _ _ _ _ us _ h _ _=>exact h
theorem aLu{bs:List UInt8}{m:Int}:Wk (aC0 bs m) (.c (.sl bs.length (iF bs))):=fun w v h=>aIt w v (aIt w v h)
theorem yC{w:World}{us vs:List Value}(h:fG w (vs.map .val) us):us=vs:=by
 refine List.ext_getElem (by have:=h.len;simpa using this) fun i h1 h2=>?_
 have h3:=h.at_ i (by simpa using h2) h1
 generalize hx:(vs.map AC.val)[i]'(by simpa using h2)=x at h3
 rw [List.getElem_map] at hx
 subst hx
 generalize us[i]=u at h3
 cases h3;rfl
theorem aO7{bl:List Nat}{w:World}{bs:List UInt8}{m:Int}{v:Value}(h:dO (bI bl w) (aC0 bs m) v):Env w:=by
 cases h with
 |fact _ _ _ _ us2 _ h hm hma=>
  cases h with
  |fact _ _ _ _ us _ _ hw hwa=>
   obtain rfl:us2=[.int .i64 m]:=yC (vs:=[.int .i64 m]) hm
   obtain rfl:us=words.map .string:=yC (vs:=words.map .string) (by rw [List.map_map];exact hw)
   have h1:∀j,j<words.length -> w.cell? ⟨2,0+j,none⟩=some (.string (words.getD j ByteArray.empty)):=fun j hj=>by
    refine (hI (hwa j _ ?_)).1
    rw [List.getElem?_map,List.getElem?_eq_getElem hj];simp [List.getD,hj]
   have h2:w.cell? ⟨5,0,none⟩=some (.int .i64 m):=(hI (hma 0 _ rfl)).1
   refine ⟨h1,⟨m,h2⟩,?_⟩
   have e1:=gV (h1 0 (by decide))
   have e2:=gV h2
   exact Nat.succ_le_of_lt (Nat.max_lt.2 ⟨e1,e2⟩)
theorem aRa{F:FuncId}{bs:List UInt8}{s:Sto}{t0:AT}(hF:∀v w,dO (bI s.bl w) t0 v -> Calls prog F #[v] w fun e w'=>(∃v pos er,e=.returned (.tuple #[v,.int .i64 pos,.int .i64 er]) /\ aCp w' w.heap.size bs v pos er) /\ Below w.heap.size w w'):
  aL prog F [t0] [] s fun t s'=>aOk bs t /\ s'=s:=by
 intro vs w hm _ hl hr
 obtain ⟨v,rfl⟩:∃v,vs=[v]:=by
  cases vs with
  |nil=>cases hl
  |cons v vs=>cases vs with
   |nil=>exact ⟨v,rfl⟩
   |cons _ _=>simp at hl
 refine (hF v w (hr 0 (by simp) (by simp))).mono fun e w' ⟨⟨v',pos,er,he,hf⟩,hb⟩=>?_
 have hk:cW [] w w':=cW.of_below hb
 have hu:Up2 (bI s.bl w) (bI s.bl w'):=jA hk (fun _ h=>by cases h) (fun b h=>.inl h)
 obtain ⟨m1,m2⟩:=hm.up hu (fun b hb'=>hk.block b (hm.lt b hb') (by simp))
 have hm':Mem s w':=⟨hm.nodup,fun b hb'=>Nat.lt_of_lt_of_le (hm.lt b hb') hk.size,m1,m2⟩
 have t3:∀(x:AT)(p e2:Int),dO (bI s.bl w') x v' -> dO (bI s.bl w') (.tup [x,.c (.val (.int .i64 p)),.c (.val (.int .i64 e2))]) (.tuple #[v',.int .i64 p,.int .i64 e2]):=fun x p e2 hx=>by
  refine .tup _ [v',.int .i64 p,.int .i64 e2] rfl fun i h h'=>?_
  match i,h,h' with
  |0,_,_=>exact hx
  |1,_,_=>exact .c _ _ (.val _ rfl)
  |2,_,_=>exact .c _ _ (.val _ rfl)
 subst he
 rcases hf with ⟨l,h1,h2,rfl,rfl,h3⟩|⟨p,e2,h1,rfl,rfl,rfl,h2⟩
 ·refine ⟨_,_,s,rfl,⟨.inl ⟨l,h1,rfl,h3⟩,rfl⟩,t3 _ _ _ (.c _ _ (.sl _ _ (dL l) _ (aEs h2 hm.lt) ?_ ?_ ?_)),hm',hk,fun b hb=>.inl hb⟩
  ·rw [uW];simp
  ·rw [uW];exact (gU _ _ (aEv l)).at_
  exact uK h2
 exact ⟨_,_,s,rfl,⟨.inr ⟨p,e2,h1,rfl,h2⟩,rfl⟩,t3 _ _ _ (.c _ _ (.val _ rfl)),hm',hk,fun b hb=>.inl hb⟩
theorem aP8(bs:List UInt8)(m:Int)(s:Sto):aL prog 52 [aC0 bs m] [] s fun t s'=>aOk bs t /\ s'=s:=
 aRa fun v w h=>aOn bs v w (aO7 h) ((aBm (aLu _ _ h)).1.mono fun a u h=>(hI h).1)
section
variable {P:Program}{U T:List Nat}{o:Oper}{n d:Nat}{ts:List (Nat×AT)}{s:Sto}{K:AS -> Prop}
end
end
section
open Go.RowKit
theorem grownCap_le(w:World)(n:Nat)(e:TypeId)(hn:n<9223372036854775808):n <= grownCap w n 0 e /\ grownCap w n 0 e <= 9223372036854775807:=by
 unfold grownCap Question.cut
 have:w.tape w.drawn (.appendCap n 0 e)%(2 ^ 63-n)<2 ^ 63-n:=Nat.mod_lt _ (by omega)
 simp only
 omega
theorem aAt(w:World)(s:ByteArray)(c:Nat)(T:TypeId)(hc:s.size <= c)(fr:Nat×Nat):dD (w.drew.alloc (.cells (bytesRow s c) T fr)) (.slice (some ⟨w.heap.size,0,none⟩) s.size c) s.data.toList.length (cC s.data.toList):=by
 refine ⟨_,_,rfl,hc,.inr ⟨_,0,rfl,fun j u hu=>?_⟩⟩
 have hm:=World.cell?_alloc_mark w.drew (bytesRow s c) T fr j
 rw [Nat.zero_add]
 have e:(⟨w.drew.heap.size,j,none⟩:Addr)=⟨w.heap.size,j,none⟩:=rfl
 rw [←e,hm]
 have hj:j<s.data.toList.length:=by
  have:=(List.getElem?_eq_some_iff.1 hu).1
  simpa [cC] using this
 unfold bytesRow
 rw [Array.getElem?_append_left (by simpa using hj)]
 simp only [cC,List.getElem?_map] at hu
 simpa using hu
end
section
inductive bN (α:Type) where
 |ok (x:α) (k:Nat)
 |err (k e:Nat)
def bU(l:List Tok)(k:Nat):Tok:=l.getD k default
theorem bG{l:List Tok}{k:Nat}(h:k<l.length):bU l k=l[k]:=by unfold bU;rw [List.getD_eq_getElem?_getD,List.getElem?_eq_getElem h];rfl
def binOp(s:ByteArray):Nat×Nat:=
 if s=bytes [124,124] then (17,1) else if s=bytes [38,38] then (16,2) else if s=bytes [61,61] then (14,3) else if s=bytes [33,61] then (15,3) else
 if s=bytes [60] then (10,3) else if s=bytes [60,61] then (11,3) else if s=bytes [62] then (12,3) else if s=bytes [62,61] then (13,3) else
 if s=bytes [43] then (8,4) else if s=bytes [45] then (9,4) else if s=bytes [42] then (5,5) else if s=bytes [47] then (6,5) else if s=bytes [37] then (7,5) else (0,0)
def cS(l:List Tok)(k:Nat)(s:List UInt8):Bool:=decide ((bU l k).kind=4) && decide ((bU l k).text=bytes s)
def fR(l:List Tok)(sub:Nat -> bN aH)(level:Nat):Nat -> aH -> Nat -> bN aH
 |0,x,k=>.ok x k
 |n+1,x,k=>
  if (bU l k).kind=4 /\ (binOp (bU l k).text).2=level then
   match sub (k+1) with
   |.ok y k'=>fR l sub level n (.mk ((binOp (bU l k).text).1:Int) 0 aK [x,y]) k'
   |.err a e=>.err a e
  else .ok x k
def gS(l:List Tok)(single:Nat -> bN aH):Nat -> Nat -> bN aH
 |0,k=>single k
 |j+1,k=>
  match gS l single j k with
  |.ok x k'=>fR l (gS l single j) (5-j) (l.length+1) x k'
  |.err a e=>.err a e
def aKc(op:Int):bN aH -> bN aH
 |.ok x k=>.ok (.mk op 0 aK [x]) k
 |.err a e=>.err a e
def aHo(l:List Tok):bN aH -> bN aH
 |.ok x k=>if cS l k [41] then .ok x (k+1) else .err k 4
 |.err a e=>.err a e
def bL(l:List Tok):Nat -> Nat -> bN aH
 |0,k=>
  if (bU l k).kind=2 then .ok (.mk 1 (bU l k).num aK []) (k+1)
  else if (bU l k).kind=1 then .ok (.mk 2 0 (bU l k).text []) (k+1)
  else if cS l k [45]||cS l k [33]||cS l k [40] then .err k 3
  else .err k 4
 |d+1,k=>
  if (bU l k).kind=2 then .ok (.mk 1 (bU l k).num aK []) (k+1)
  else if (bU l k).kind=1 then .ok (.mk 2 0 (bU l k).text []) (k+1)
  else if cS l k [45] then aKc 3 (bL l d (k+1))
  else if cS l k [33] then aKc 4 (bL l d (k+1))
  else if cS l k [40] then aHo l (gS l (bL l d) 5 (k+1))
  else .err k 4
def lJ(l:List Tok)(k:Nat):bN aH:=gS l (bL l 24) 5 k
def rP(l:List Tok):Prop:=∃h:0<l.length,(l[l.length-1]'(by omega)).kind=5
theorem rP.more{l:List Tok}(h:rP l){k:Nat}(hk:k<l.length)(hn:(bU l k).kind≠5):k+1<l.length:=by
 obtain ⟨h0,h1⟩:=h
 rcases Nat.lt_or_ge (k+1) l.length with h|h
 ·exact h
 exfalso;apply hn;rw [bG hk];obtain rfl:k=l.length-1:=by omega
 exact h1
theorem mD{l:List Tok}{k:Nat}{s:List UInt8}(h:cS l k s=true):(bU l k).kind=4 /\ (bU l k).text=bytes s:=by simpa [cS] using h
def bN.In{α:Type}(l:List Tok)(k:Nat):bN α -> Prop
 |.ok _ k'=>k<k' /\ k'<l.length
 |.err a e=>k <= a /\ a<l.length /\ 0<e /\ e<16
theorem bN.In.mono{α:Type}{l:List Tok}{k j:Nat}{r:bN α}(h:r.In l k)(hj:j <= k):r.In l j:=by
 cases r<;>unfold bN.In at h⊢<;>omega
theorem aEh{l:List Tok}(hl:rP l){sub:Nat -> bN aH}{level:Nat}(hs:∀k,k<l.length -> (sub k).In l k):∀(n:Nat)(x:aH)(k j:Nat),j<k -> k<l.length -> (fR l sub level n x k).In l j
 |0,x,k,j,hj,hk=>by unfold fR;exact ⟨hj,hk⟩
 |n+1,x,k,j,hj,hk=>by
  unfold fR
  by_cases ht:(bU l k).kind=4 /\ (binOp (bU l k).text).2=level
  ·rw [if_pos ht]
   have hm:=hl.more hk (by omega)
   have h1:=hs (k+1) hm
   cases hr:sub (k+1) with
   |ok y k'=>
    rw [hr] at h1
    obtain ⟨h2,h3⟩:=h1
    exact aEh hl hs n _ k' j (by omega) h3
   |err a e=>
    rw [hr] at h1
    obtain ⟨h2,h3,h4,h5⟩:=h1
    exact ⟨by omega,h3,h4,h5⟩
  rw [if_neg ht];exact ⟨hj,hk⟩
theorem vV{l:List Tok}(hl:rP l){single:Nat -> bN aH}(hs:∀k,k<l.length -> (single k).In l k):∀(j k:Nat),k<l.length -> (gS l single j k).In l k
 |0,k,hk=>by unfold gS;exact hs k hk
 |j+1,k,hk=>by
  unfold gS
  have h1:=vV hl hs j k hk
  cases hr:gS l single j k with
  |ok x k'=>
   rw [hr] at h1
   exact aEh hl (fun k hk=>vV hl hs j k hk) _ _ _ _ h1.1 h1.2
  |err a e=>rw [hr] at h1;exact h1
theorem aIv{l:List Tok}{op:Int}{k j:Nat}{r:bN aH}(h:r.In l k)(hj:j <= k):(aKc op r).In l j:=by
 cases r with
 |ok x k'=>obtain ⟨h1,h2⟩:=h;exact ⟨by omega,h2⟩
 |err a e=>obtain ⟨h1,h2,h3,h4⟩:=h;exact ⟨by omega,h2,h3,h4⟩
theorem aPq{l:List Tok}(hl:rP l){k j:Nat}{r:bN aH}(h:r.In l k)(hj:j <= k):(aHo l r).In l j:=by
 cases r with
 |ok x k'=>
  obtain ⟨h1,h2⟩:=h
  show bN.In l j (if cS l k' [41] then .ok x (k'+1) else .err k' 4)
  by_cases hs:cS l k' [41]=true
  ·rw [if_pos hs];exact ⟨by omega,hl.more h2 (by rw [(mD hs).1];decide)⟩
  ·rw [if_neg hs];exact ⟨by omega,h2,by omega,by omega⟩
 |err a e=>obtain ⟨h1,h2,h3,h4⟩:=h;exact ⟨by omega,h2,h3,h4⟩
theorem nP{l:List Tok}(hl:rP l):∀(d k:Nat),k<l.length -> (bL l d k).In l k
 |0,k,hk=>by
  unfold bL
  by_cases h1:(bU l k).kind=2
  ·rw [if_pos h1];exact ⟨by omega,hl.more hk (by omega)⟩
  ·rw [if_neg h1]
   by_cases h2:(bU l k).kind=1
   ·rw [if_pos h2];exact ⟨by omega,hl.more hk (by omega)⟩
   ·rw [if_neg h2];split<;>exact ⟨by omega,hk,by omega,by omega⟩
 |d+1,k,hk=>by
  unfold bL
  by_cases h1:(bU l k).kind=2
  ·rw [if_pos h1];exact ⟨by omega,hl.more hk (by omega)⟩
  rw [if_neg h1]
  by_cases h2:(bU l k).kind=1
  ·rw [if_pos h2];exact ⟨by omega,hl.more hk (by omega)⟩
  rw [if_neg h2]
  by_cases h3:cS l k [45]=true
  ·rw [if_pos h3];exact aIv (nP hl d _ (hl.more hk (by rw [(mD h3).1];decide))) (by omega)
  rw [if_neg h3]
  by_cases h4:cS l k [33]=true
  ·rw [if_pos h4];exact aIv (nP hl d _ (hl.more hk (by rw [(mD h4).1];decide))) (by omega)
  rw [if_neg h4]
  by_cases h5:cS l k [40]=true
  ·rw [if_pos h5];exact aPq hl (vV hl (fun k hk=>nP hl d k hk) _ _ (hl.more hk (by rw [(mD h5).1];decide))) (by omega)
  rw [if_neg h5];exact ⟨by omega,hk,by omega,by omega⟩
end
end Go.Proofs.YtbdfdjdgfanjaaaDoor
