import Derived.Test.YtojinfngbbajgaaGreatDoorK5J
import Derived.Test.YtojinfngbbajgaaGreatDoorC1J
set_option linter.all false
set_option synthInstance.maxHeartbeats 1000000
set_option synthInstance.maxSize 1000000
set_option maxHeartbeats 800000
set_option maxRecDepth 100000
namespace Go.Proofs.YtojinfngbbajgaaGreatDoor
open Go.Proofs.Tryz
open List (length_append length_cons length_nil mem_append mem_cons not_mem_nil append_assoc getElem_mem take_of_length_le)
section
open Go.RowKit
theorem tF{W w1:World}(hb:Below W.heap.size W w1):(∀b o,b<W.heap.size -> w1.cell? ⟨b,o,none⟩=W.cell? ⟨b,o,none⟩) /\ (∀b o,b<W.heap.size -> w1.frozen? ⟨b,o,none⟩=W.frozen? ⟨b,o,none⟩):=
 ⟨fun b o h=>hb.cell (p:=⟨b,o,none⟩) h,fun b o h=>hb.frozen (p:=⟨b,o,none⟩) h⟩
def aLn(l:List UInt8)(k num er:Int)(text:ByteArray):Prop:=
 (∃n:Nat,dQ l=.err n /\ er=n /\ n≠0)∨(∃kd len nu:Nat,dQ l=.tok kd len nu /\ er=0 /\ k=kd /\ num=nu /\ text=bytes (l.take len))
def aI3(l:List UInt8)(e:Ending):Prop:=∃(k num er:Int) (text:ByteArray),e=.returned (.tuple #[.agg #[.int .i64 k,.string text,.int .i64 num,.int .i64 0],.int .i64 er]) /\ aLn l k num er text
theorem takeWhile_take{α:Type}(p:α -> Bool)(l:List α):l.take (l.takeWhile p).length=l.takeWhile p:=
 (List.prefix_iff_eq_take.1 (List.takeWhile_prefix p)).symm
theorem kS(s:ByteArray)(h0:0<s.size):s.data.toList=s[0]::s.data.toList.drop 1:=by
 have:=dR s.data.toList 0 (by exact h0)
 rw [List.drop_zero] at this;exact this
theorem aKk(s:ByteArray)(w:World)(hs:s.size <= 9223372036854775807)(he:Env w)(h0:0<s.size)(hl:fU s[0]=true):
  Calls prog 98 #[.string s] w fun e w'=>aI3 s.data.toList e /\ Below w.heap.size w w':=by
 refine (aMr s w hs he).mono fun e w' ⟨h,hb⟩=>⟨⟨_,_,_,_,h,?_⟩,hb⟩
 have hn:=kK (c:=s[0]) (r:=s.data.toList.drop 1) hl
 rw [←kS s h0] at hn
 by_cases h16:16<(s.data.toList.takeWhile cT).length
 ·rw [if_pos h16] at hn;exact .inl ⟨3,hn,by rw [if_pos h16],by omega⟩
 rw [if_neg h16] at hn;exact .inr ⟨_,_,_,hn,by rw [if_neg h16];rfl,rfl,rfl,by rw [takeWhile_take]⟩
theorem aEz(s:ByteArray)(w:World)(hs:s.size <= 9223372036854775807)(h0:0<s.size)(hl:fU s[0]=false)(hd:cD s[0]=true):
  Calls prog 100 #[.string s] w fun e w'=>aI3 s.data.toList e /\ Below w.heap.size w w':=by
 refine (aHi s w hs).mono fun e w' ⟨h,hb⟩=>⟨?_,hb⟩
 obtain ⟨n,_,⟨hn,h⟩|⟨hn,h⟩⟩:=h
 ·refine ⟨_,_,_,_,h,.inl ⟨2,?_,rfl,by omega⟩⟩
  rw [jR] at hn
  rw [kS s h0] at hn;have hq:=nK hl hd hn;rw [←kS s h0] at hq;exact hq
 refine ⟨_,_,_,_,h,.inr ⟨2,(s.data.toList.takeWhile cD).length,n,?_,rfl,rfl,rfl,by rw [takeWhile_take]⟩⟩
 rw [jR] at hn
 rw [kS s h0] at hn;have hq:=lP hl hd hn;rw [←kS s h0] at hq;exact hq
theorem aJ5(s:ByteArray)(w:World)(he:Env w)(h0:0<s.size)(hl:fU s[0]=false)(hd:cD s[0]=false):
  Calls prog 101 #[.string s] w fun e w'=>aI3 s.data.toList e /\ Below w.heap.size w w':=by
 refine (aLp s w he h0).mono fun e w' ⟨h,hb⟩=>⟨?_,hb⟩
 have hn:=iN (c:=s[0]) (r:=s.data.toList.drop 1) hl hd
 rw [←kS s h0] at hn
 by_cases hz:jE s.data.toList=0
 ·rw [if_pos hz] at hn
  rw [hz] at h;exact ⟨_,_,_,_,h,.inl ⟨1,hn,rfl,by omega⟩⟩
 rw [if_neg hz] at hn
 refine ⟨_,_,_,_,h,.inr ⟨_,_,_,hn,by rw [if_neg hz],by rw [if_neg hz];rfl,rfl,rfl⟩⟩
theorem aAf(s:ByteArray)(w:World)(hs:s.size <= 9223372036854775807)(he:Env w)(h0:0<s.size):
  Calls prog 64 #[.string s] w fun e w'=>aI3 s.data.toList e /\ Below w.heap.size w w':=by
 by_cases hl:fU s[0]=true
 ·go_enter func64,Tryz.ntmps64
  go_wp2_with (first|(go_at_call 97;refine (qG _ _).mono ?_;rintro e w' ⟨rfl,rfl⟩)|(go_at_call 98;refine (aKk _ _ hs (he.alloc _) h0 hl).mono ?_;rintro e w' ⟨⟨k,num,er,text,rfl,hR⟩,hb⟩;have HR:=Lib.hid hR;clear hR;obtain ⟨hc,hf⟩:=tF hb))
  refine bodyPost_ret (v:=.tuple #[.agg #[.int .i64 k,.string text,.int .i64 num,.int .i64 0],.int .i64 er]) (by simp [results,Tryz.results64,go_sem,hc]) rfl ?_
  exact ⟨⟨_,_,_,_,rfl,HR.out⟩,((((Below.refl _ _).alloc (Nat.le_refl _) _).trans (hb.mono (by simp))).setCell (by simp) _).setCell (by simp) _|>.setCell (by simp) _|>.setCell (by simp) _⟩
 have hl':fU s[0]=false:=by simpa using hl
 clear hl
 by_cases hd:cD s[0]=true
 ·go_enter func64,Tryz.ntmps64
  go_wp2_with (first|(go_at_call 97;refine (qG _ _).mono ?_;rintro e w' ⟨rfl,rfl⟩)|(go_at_call 99;refine (oV _ _).mono ?_;rintro e w' ⟨rfl,rfl⟩)|(go_at_call 100;refine (aEz _ _ hs h0 hl' hd).mono ?_;rintro e w' ⟨⟨k,num,er,text,rfl,hR⟩,hb⟩;have HR:=Lib.hid hR;clear hR;obtain ⟨hc,hf⟩:=tF hb))
  refine bodyPost_ret (v:=.tuple #[.agg #[.int .i64 k,.string text,.int .i64 num,.int .i64 0],.int .i64 er]) (by simp [results,Tryz.results64,go_sem,hc]) rfl ?_
  exact ⟨⟨_,_,_,_,rfl,HR.out⟩,((((Below.refl _ _).alloc (Nat.le_refl _) _).trans (hb.mono (by simp))).setCell (by simp) _).setCell (by simp) _|>.setCell (by simp) _|>.setCell (by simp) _⟩
 have hd':cD s[0]=false:=by simpa using hd
 clear hd
 go_enter func64,Tryz.ntmps64
 go_wp2_with (first|(go_at_call 97;refine (qG _ _).mono ?_;rintro e w' ⟨rfl,rfl⟩)|(go_at_call 99;refine (oV _ _).mono ?_;rintro e w' ⟨rfl,rfl⟩)|(go_at_call 101;refine (aJ5 _ _ (he.alloc _) h0 hl' hd').mono ?_;rintro e w' ⟨⟨k,num,er,text,rfl,hR⟩,hb⟩;have HR:=Lib.hid hR;clear hR;obtain ⟨hc,hf⟩:=tF hb))
 refine bodyPost_ret (v:=.tuple #[.agg #[.int .i64 k,.string text,.int .i64 num,.int .i64 0],.int .i64 er]) (by simp [results,Tryz.results64,go_sem,hc]) rfl ?_
 exact ⟨⟨_,_,_,_,rfl,HR.out⟩,((((Below.refl _ _).alloc (Nat.le_refl _) _).trans (hb.mono (by simp))).setCell (by simp) _).setCell (by simp) _|>.setCell (by simp) _|>.setCell (by simp) _⟩
end
section
open Go.RowKit
def Tok.cells(t:Tok):List Value:=[.int .i64 t.kind,.string t.text,.int .i64 t.num,.int .i64 t.pos]
def dL(l:List Tok):List Value:=l.flatMap Tok.cells
theorem eP(l:List Tok)(t:Tok):dL l++[.int .i64 t.kind,.string t.text,.int .i64 t.num,.int .i64 t.pos]=dL (l++[t]):=by simp [dL,Tok.cells]
theorem aI5:(prog.info? 66).map (fun i=>(i.zero,i.size,i.bytes))=some (some (.agg #[.int .i64 0,.string ⟨#[]⟩,.int .i64 0,.int .i64 0]),4,40):=by kernel_rfl
theorem aKq{l:List UInt8}{k num er:Int}{text:ByteArray}{n:Nat}(h:aLn l k num er text)(hn:dQ l=.err n):er=n /\ (n:Int)≠0:=by
 rcases h with ⟨m,h1,h2,h3⟩|⟨_,_,_,h1,_⟩
 ·rw [hn] at h1;cases h1;exact ⟨h2,by omega⟩
 rw [hn] at h1;cases h1
theorem aBq{l:List UInt8}{k num er:Int}{text:ByteArray}{a b c:Nat}(h:aLn l k num er text)(hn:dQ l=.tok a b c):er=0 /\ k=a /\ num=c /\ text=bytes (l.take b):=by
 rcases h with ⟨m,h1,h2,h3⟩|⟨_,_,_,h1,h2,h3,h4,h5⟩
 ·rw [hn] at h1;cases h1
 rw [hn] at h1;cases h1;exact ⟨h2,h3,h4,h5⟩
def aY0(w:World)(s:List UInt8)(v:Value)(pos er:Int):Prop:=
 (∃l,iH s=.ok l /\ dD w v l.length (dL l) /\ pos=s.length /\ er=0 /\ l.length <= 4001)∨(∃p e:Nat,iH s=.err p e /\ v=.slice none 0 0 /\ pos=p /\ er=e /\ e≠0)
def aCp(w:World)(N:Nat)(s:List UInt8)(v:Value)(pos er:Int):Prop:=
 (∃l,iH s=.ok l /\ w.ownsRow N 66 4 v l.length (dL l) /\ pos=s.length /\ er=0 /\ l.length <= 4001)∨(∃p e:Nat,iH s=.err p e /\ v=.slice none 0 0 /\ pos=p /\ er=e /\ e≠0)
theorem aCp.r{w:World}{N:Nat}{s:List UInt8}{v:Value}{pos er:Int}(h:aCp w N s v pos er):aY0 w s v pos er:=
 h.imp (fun ⟨l,h1,h2,h3⟩=>⟨l,h1,dD.of_owns h2,h3⟩) id
theorem aK5(a:Option Addr)(n cap:Nat)(w:World)(hs:(262144:Int)<n):
  Calls prog 30 #[.slice a n cap] w fun e w'=>e=.returned (.tuple #[.slice none 0 0,.int .i64 262144,.int .i64 3]) /\ w=w':=by
 go_enter func30,Tryz.ntmps30
 go_wp2_with fail
 go_step3
 go_wp2_with fail
 rw [Exit.noGoto_ret]
 go_ret3
 exact ⟨rfl,rfl⟩
theorem aOw(s:ByteArray)(a:Option Addr)(n cap:Nat)(w:World)(he:Env w)(hn:n=s.size)(hs:s.size <= 262144)
  (hcv:(convert 23 9 (.slice a n cap)).run prog w=.ok (.string s) w):
  Calls prog 30 #[.slice a n cap] w fun e w'=>(∃v pos er,e=.returned (.tuple #[v,.int .i64 pos,.int .i64 er]) /\ aCp w' w.heap.size s.data.toList v pos er) /\ Below w.heap.size w w':=by
 subst hn
 obtain ⟨i0,hi,hz0,hz1,hz2⟩:=info_parts aI5
 have HS:=Lib.hid (show s.data.toList.length=s.size from rfl)
 go_enter func30,Tryz.ntmps30
 go_wp2_with fail
 go_step3
 go_wp2_with fail
 go_step3
 go_wp2_with fail
 go_loopw [6,7] (fun v at_ wr=>∃(k:Nat) (toks:List Tok),at_=.int .i64 k /\ k <= s.size /\ wr.ownsRow w.heap.size 66 4 v toks.length (dL toks) /\ kD s.data.toList 0 0=fX.app toks (kD s.data.toList k toks.length) /\ toks.length <= 4000 /\ Below w.heap.size w wr) (fun _ at_ _=>s.size-(intOf at_).toNat)
 case atStart=>exact ⟨0,[],rfl,by omega,ownsRow_nil _ _ _ _,by rw [fX.app_nil];rfl,by simp,Below.refl _ _⟩
 case round=>
  obtain ⟨k,toks,rfl,hk,hown,hlx,hlen,hbel⟩:=hrel
  have heW:Env wr:=he.below hbel he.size
  obtain ⟨oa,oc,rfl⟩:=lR hown
  have hge:=lG s.data.toList k hk
  have HLX:=Lib.hid hlx
  clear hlx hcv
  by_cases hend:s.size <= bF s.data.toList k
  ·go_wp2_with (first|(go_at_call 63;refine (uH _ _ _ (by omega) hk).mono ?_;rintro e w' ⟨rfl,rfl⟩)|(at_builtin;refine wpList_append_own _ rfl _ _ 36 rfl w.heap.size 66 i0 _ 4 40 underlying36 hi hz0 hz1 hz2 rfl (by decide) _ toks.length (dL toks) rfl (ownsRow_below hown ((Below.refl _ _).alloc (Nat.le_refl _) _) (Nat.le_refl _)) ⟨wr.heap.size,0,none⟩ 1 1 [.int .i64 5,.string ⟨#[]⟩,.int .i64 0,.int .i64 s.size] rfl rfl (sK _ _ _) (by simp [Value.oneCell']) (by unfold maxLen;omega) (by omega) (by have:=hbel.size;simp;omega) ?_))
   intro v' w1 hown1 hgrow _
   have hb1:Below w.heap.size w w1:=Below.grow (hbel.alloc hbel.size _) hgrow (by have:=hbel.size;simp;omega) (ownsRow_below hown ((Below.refl _ _).alloc (Nat.le_refl _) _) (Nat.le_refl _)) (Nat.le_refl _)
   clear hgrow
   go_wp2_with fail
   rw [Exit.noGoto_ret]
   go_ret3
   refine ⟨⟨_,_,_,rfl,.inl ⟨toks++[⟨5,⟨#[]⟩,0,s.size⟩],?_,?_,by rw [HS.out],rfl,by simp;omega⟩⟩,hb1⟩
   ·unfold iH
    rw [if_neg (by rw [HS.out];omega),HLX.out,mX (by rw [HS.out];exact hend),HS.out];rfl
   have:=hown1
   rw [←eP];simpa using this
  have hlt:bF s.data.toList k<s.size:=by omega
  have hx:s.extract (bF s.data.toList k) s.size=bytes (s.data.toList.drop (bF s.data.toList k)):=by
   have:=ByteArray.extract_mk s.data.toList (bF s.data.toList k) s.size
   rw [show (ByteArray.mk s.data.toList.toArray)=s from by simp] at this
   rw [this,bytes];congr 2;exact take_of_length_le (by rw [List.length_drop,HS.out];omega)
  have hsz:(bytes (s.data.toList.drop (bF s.data.toList k))).size=s.size-bF s.data.toList k:=by rw [bytes];show (List.drop _ _).toArray.size=_;rw [List.size_toArray,List.length_drop,HS.out]
  have HZ:=Lib.hid hsz
  have hbd:=jR (s.data.toList.drop (bF s.data.toList k))
  have HD:=Lib.hid hbd
  clear hsz hbd
  cases hnx:dQ (s.data.toList.drop (bF s.data.toList k)) with
  |err en=>
   have HN:=Lib.hid hnx
   clear hnx
   go_wp2_with (first|(go_at_call 63;refine (uH _ _ _ (by omega) hk).mono ?_;rintro e w' ⟨rfl,rfl⟩)|(go_at_call 64;refine (aAf _ _ (by rw [HZ.out];omega) heW (by rw [HZ.out];omega)).mono ?_;rintro e w1 ⟨⟨kd,num,er,text,rfl,hR⟩,hb⟩;rw [HD.out] at hR;obtain ⟨rfl,hne⟩:=aKq hR HN.out;clear hR;obtain ⟨hc,hf⟩:=tF hb))
   rw [Exit.noGoto_ret]
   go_ret3
   refine ⟨⟨_,_,_,rfl,.inr ⟨bF s.data.toList k,en,?_,rfl,rfl,rfl,by omega⟩⟩,(hbel.trans (hb.mono hbel.size)).alloc (Nat.le_trans hbel.size hb.size) _⟩
   unfold iH
   rw [if_neg (by rw [HS.out];omega),HLX.out,uY (by rw [HS.out];exact hlt) HN.out];rfl
  |tok nk len nu=>
   have hl1:=mS (by intro h;have:=congrArg List.length h;rw [List.length_drop,HS.out] at this;simp at this;omega) hnx
   rw [List.length_drop,HS.out] at hl1
   have HN:=Lib.hid hnx
   clear hnx
   have htx:(bytes ((s.data.toList.drop (bF s.data.toList k)).take len)).size=len:=by
    rw [bytes];show (List.take _ _).toArray.size=_;rw [List.size_toArray,List.length_take,List.length_drop,HS.out];omega
   by_cases hfull:toks.length=4000
   ·have hf1:((toks.length:Int) == 4000)=true:=by rw [beq_iff_eq];omega
    have HF:=Lib.hid hfull
    clear hfull htx
    go_wp2_with (first|(go_at_call 63;refine (uH _ _ _ (by omega) hk).mono ?_;rintro e w' ⟨rfl,rfl⟩)|(go_at_call 64;refine (aAf _ _ (by rw [HZ.out];omega) heW (by rw [HZ.out];omega)).mono ?_;rintro e w1 ⟨⟨kd,num,er,text,rfl,hR⟩,hb⟩;rw [HD.out] at hR;obtain ⟨rfl,rfl,rfl,rfl⟩:=aBq hR HN.out;clear hR;obtain ⟨hc,hf⟩:=tF hb))
    rw [Exit.noGoto_ret]
    go_ret3
    refine ⟨⟨_,_,_,rfl,.inr ⟨bF s.data.toList k,3,?_,rfl,rfl,rfl,by omega⟩⟩,(hbel.trans (hb.mono hbel.size)).alloc (Nat.le_trans hbel.size hb.size) _⟩
    unfold iH
    rw [if_neg (by rw [HS.out];omega),HLX.out,HF.out,sG (by rw [HS.out];exact hlt) HN.out];rfl
   have hf1:((toks.length:Int) == 4000)=false:=by rw [beq_eq_false_iff_ne];omega
   have HF:=Lib.hid hfull
   have hlen2:toks.length<4000:=by omega
   clear hfull
   go_wp2_with (first|(go_at_call 63;refine (uH _ _ _ (by omega) hk).mono ?_;rintro e w' ⟨rfl,rfl⟩)|(go_at_call 64;refine (aAf _ _ (by rw [HZ.out];omega) heW (by rw [HZ.out];omega)).mono ?_;rintro e w1 ⟨⟨kd,num,er,text,rfl,hR⟩,hb⟩;rw [HD.out] at hR;obtain ⟨rfl,rfl,rfl,rfl⟩:=aBq hR HN.out;clear hR;obtain ⟨hc,hf⟩:=tF hb)|(at_builtin;refine wpList_append_own _ rfl _ _ 36 rfl w.heap.size 66 i0 _ 4 40 underlying36 hi hz0 hz1 hz2 rfl (by decide) _ toks.length (dL toks) rfl (ownsRow_below hown ((hb.alloc hb.size _).alloc (by have:=hb.size;simp;omega) _) (Nat.le_refl _)) ⟨w1.heap.size+1,0,none⟩ 1 1 [.int .i64 nk,.string (bytes ((s.data.toList.drop (bF s.data.toList k)).take len)),.int .i64 nu,.int .i64 (bF s.data.toList k)] rfl rfl (hG _ _ _ _ (by simp)) (by simp [Value.oneCell']) (by unfold maxLen;omega) (by omega) (by have:=hbel.size;have:=hb.size;simp;omega) ?_))
   intro v' w2 hown2 hgrow _
   have hb2:Below w.heap.size w w2:=Below.grow (((hbel.trans (hb.mono hbel.size)).alloc (Nat.le_trans hbel.size hb.size) _).alloc (by have:=hbel.size;have:=hb.size;simp;omega) _) hgrow (by have:=hbel.size;have:=hb.size;simp;omega) (ownsRow_below hown ((hb.alloc hb.size _).alloc (by have:=hb.size;simp;omega) _) (Nat.le_refl _)) (Nat.le_refl _)
   have hcw:∀o,w2.cell? ⟨w1.heap.size,o,none⟩=((w1.alloc (Obj.cells #[.int .i64 nk,.string (bytes ((s.data.toList.drop (bF s.data.toList k)).take len)),.int .i64 nu,.int .i64 (bF s.data.toList k)] 66)).cell? ⟨w1.heap.size,o,none⟩):=by
    intro o
    rw [aKa hgrow hown hb.size (by simp;omega) o]
    exact (Below.alloc (B:=(w1.alloc (Obj.cells #[.int .i64 nk,.string (bytes ((s.data.toList.drop (bF s.data.toList k)).take len)),.int .i64 nu,.int .i64 (bF s.data.toList k)] 66)).heap.size) (Below.refl _ _) (Nat.le_refl _) _).cell (p:=⟨w1.heap.size,o,none⟩) (by simp)
   clear hgrow
   go_wp2_with fail
   go_roundw
   case rel=>
    refine ⟨bF s.data.toList k+len,toks++[⟨nk,bytes ((s.data.toList.drop (bF s.data.toList k)).take len),nu,bF s.data.toList k⟩],by go_num,by omega,?_,?_,by simp;omega,hb2⟩
    ·rw [←eP];simpa using hown2
    rw [HLX.out,nD (by rw [HS.out];exact hk) (by rw [HS.out];exact hlt) HN.out HF.out,fX.app_cons];simp
   case measure=>simp [intOf];omega
theorem aN1(a:Option Addr)(n cap:Nat)(w:World)(s:List UInt8)(hn:n=s.length)(hs:262144<n):
  Calls prog 30 #[.slice a n cap] w fun e w'=>(∃v pos er,e=.returned (.tuple #[v,.int .i64 pos,.int .i64 er]) /\ aCp w' w.heap.size s v pos er) /\ Below w.heap.size w w':=by
 refine (aK5 a n cap w (by omega)).mono fun e w' ⟨h,hw⟩=>?_
 subst hw
 refine ⟨⟨_,_,_,h,.inr ⟨262144,3,?_,rfl,rfl,rfl,by omega⟩⟩,Below.refl _ _⟩
 unfold iH;rw [if_pos (by omega)]
theorem aOn(s:List UInt8)(v:Value)(w:World)(he:Env w)(hv:dD w v s.length (s.map fun c=>.int .u8 c.toNat)):
  Calls prog 30 #[v] w fun e w'=>(∃v pos er,e=.returned (.tuple #[v,.int .i64 pos,.int .i64 er]) /\ aCp w' w.heap.size s v pos er) /\ Below w.heap.size w w':=by
 obtain ⟨a,cap,rfl,hc,hcells⟩:=hv
 by_cases hs:262144<s.length
 ·exact aN1 a _ cap w s rfl hs
 have hconv:(convert 23 9 (.slice a s.length cap)).run prog w=.ok (.string (bytes s)) w:=by
  rcases hcells with h0|⟨b,off,rfl,hr⟩
  ·obtain rfl:s=[]:=by simpa using h0
   cases a with
   |none=>exact run_convert_bytes_nil w _ _ underlying23 underlying5 _ _ _ underlying9
   |some a=>
    have hl:=run_loadCells_list (P:=prog) w a [] (fun j v hj=>by simp at hj)
    rw [run_convert_bytes_string w _ _ _ _ _ _ underlying23 underlying5 underlying9,length_nil,run_bytesToString w a 0 cap [] (by simpa using hl)]
    rfl
  rw [run_convert_bytes_arg w _ _ underlying23 underlying5 b off s.length cap (s.map fun c=>(c.toNat:Int)) (by simp) ?_ _ underlying9]
  ·rw [strOfNums,List.map_map,bytes];congr 3;rw [show ((fun n:Int=>UInt8.ofNat n.toNat) ∘ fun c:UInt8=>(c.toNat:Int))=id from by funext c;simp];simp
  intro i hi
  rw [hr i (.int .u8 s[i].toNat) (by simp [hi])];simp [hi]
 have:=aOw (bytes s) a s.length cap w he (by simp [bytes,ByteArray.size]) (by show (List.toArray s).size <= _;rw [List.size_toArray];omega) hconv
 rw [jR] at this;exact this
end
section
open Go.RowKit
def cC(s:List UInt8):List Value:=s.map fun c=>.int .u8 c.toNat
theorem ByteRow.cell{w:World}{b off:Nat}{s:List UInt8}(h:∀j u,(cC s)[j]?=some u -> w.cell? ⟨b,off+j,none⟩=some u)(k:Nat)(hk:k<s.length):w.cell? ⟨b,off+k,none⟩=some (.int .u8 s[k].toNat):=
 h k _ (by simp [cC,hk])
theorem eL(c:UInt8)(w:World):
  Calls prog 36 #[.int .u8 c.toNat] w fun e w'=>e=.returned (.bool (fU c)) /\ w=w':=by
 unfold fU
 generalize (c.toNat:Int)=n
 go_enter func36,Tryz.ntmps36
 go_wp2
 all_goals (go_ret;refine ⟨kB ?_,rfl⟩;simp;try omega)
theorem fJ(c:UInt8)(w:World):
  Calls prog 37 #[.int .u8 c.toNat] w fun e w'=>e=.returned (.bool (cD c)) /\ w=w':=by
 unfold cD
 generalize (c.toNat:Int)=n
 go_enter func37,Tryz.ntmps37
 go_wp2
 all_goals (go_ret;refine ⟨kB ?_,rfl⟩;simp;try omega)
theorem aAx(zs:List ByteArray)(x:ByteArray)(k:Nat)(hk:k<zs.length)(h:x∈zs↔x∈zs.drop k):(zs[k]=x -> x∈zs) /\ (zs[k]≠x -> (x∈zs↔x∈zs.drop (k+1))):=by
 refine ⟨fun e=>e▸getElem_mem hk,fun e=>?_⟩
 rw [h,List.drop_eq_getElem_cons hk,mem_cons]
 exact ⟨fun h=>h.resolve_left (fun e'=>e e'.symm),.inr⟩
theorem aDm(zs:List ByteArray)(x:ByteArray)(v:Value)(w:World)(hv:dD w v zs.length (zs.map .string))(hn:zs.length <= 9223372036854775807):
  Calls prog 77 #[v,.string x] w fun e w'=>e=.returned (.bool (zs.any fun y=>decide (y=x))) /\ w=w':=by
 obtain ⟨a,cap,rfl,hc,hr⟩:=hv
 go_enter func77,Tryz.ntmps77
 go_wp2_with fail
 go_loop [5] (fun v=>∃k:Nat,k <= zs.length /\ v=.int .i64 k /\ (x∈zs↔x∈zs.drop k)) (fun v=>zs.length-(intOf v).toNat)
 case atStart=>exact ⟨0,by omega,rfl,by simp⟩
 case round=>
  obtain ⟨k,hk,rfl,hm⟩:=hrel
  have HM:=Lib.hid hm
  clear hm
  by_cases hlt:k<zs.length
  ·rcases hr with h0|⟨b,off,rfl,hr⟩
   ·have:zs.length=0:=by simpa using congrArg List.length h0
    omega
   have hcell:=hr k (.string zs[k]) (by simp [hlt])
   clear hr
   have hst:=aAx zs x k hlt HM.out
   have HST:=Lib.hid hst
   clear hst
   by_cases he:zs[k]=x
   ·have hm:=HST.out.1 he
    have HM2:=Lib.hid hm
    clear hm
    have hq:=zZ he
    clear he
    go_wp2_with fail
    go_ret
    refine ⟨kB ?_,rfl⟩
    simp [HM2.out]
   have hq:=xB he
   have HE:=Lib.hid he
   clear he
   go_wp2_with fail
   go_round
   case rel=>exact ⟨k+1,by omega,by go_num,HST.out.2 HE.out⟩
   case measure=>simp [intOf];omega
  clear hr
  go_wp2_with fail
  go_ret
  refine ⟨kB ?_,rfl⟩
  have:x∉zs:=by rw [HM.out,List.drop_eq_nil_of_le (by omega)];simp
  simp [this]
theorem oN(s:ByteArray)(w:World):
  Calls prog 38 #[.string s] w fun e w'=>e=.returned (.bool (dA s)) /\ Below w.heap.size w w':=by
 go_enter func38,Tryz.ntmps38
 go_wp2_with (first|(go_at_call 77;refine (aDm words _ _ _ (dD.new w (words.map .string) 9 11) (by decide)).mono ?_;rintro e w' ⟨rfl,rfl⟩))
 go_ret
 exact ⟨rfl,by go_grown⟩
theorem aK0(s:List UInt8)(k0:Nat)(v:Value)(w:World)(hv:dD w v s.length (cC s))(hs:s.length <= 1000000)(hk:k0 <= s.length):
  Calls prog 35 #[v,.int .i64 k0] w fun e w'=>e=.returned (.int .i64 (bF s k0)) /\ w=w':=by
 obtain ⟨a,cap,rfl,hc,hr⟩:=hv
 go_enter func35,Tryz.ntmps35
 go_wp2_with fail
 go_loop [1] (fun v=>∃k:Nat,k <= s.length /\ v=.int .i64 k /\ bF s k=bF s k0) (fun v=>s.length-(intOf v).toNat)
 case atStart=>exact ⟨k0,hk,rfl,rfl⟩
 case round=>
  obtain ⟨k,hk,rfl,hm⟩:=hrel
  have HM:=Lib.hid hm
  clear hm
  by_cases hlt:k<s.length
  ·rcases hr with h0|⟨b,off,rfl,hr⟩
   ·have:s.length=0:=by simpa [cC] using congrArg List.length h0
    omega
   have hcell:=ByteRow.cell hr k hlt
   have HR:=Lib.hid hr
   clear hr
   cases hsp:isSp s[k] with
   |true=>
    have hn:=aGh s k hlt hsp
    have HN:=Lib.hid hn
    simp only [isSp,decide_eq_true_eq] at hsp
    clear hn
    rcases hsp with h|h|h|h
    ·have e32:((s[k].toNat:Int) == 32)=true:=by rw [h];rfl
     clear h
     go_wp2_with fail
     go_round
     case rel=>exact ⟨k+1,by omega,by go_num,HN.out.trans HM.out⟩
     case measure=>simp [intOf];omega
    ·have e32:((s[k].toNat:Int) == 32)=false:=by rw [h];rfl
     have e9:((s[k].toNat:Int) == 9)=true:=by rw [h];rfl
     clear h
     go_wp2_with fail
     go_round
     case rel=>exact ⟨k+1,by omega,by go_num,HN.out.trans HM.out⟩
     case measure=>simp [intOf];omega
    ·have e32:((s[k].toNat:Int) == 32)=false:=by rw [h];rfl
     have e9:((s[k].toNat:Int) == 9)=false:=by rw [h];rfl
     have e10:((s[k].toNat:Int) == 10)=false:=by rw [h];rfl
     have e13:((s[k].toNat:Int) == 13)=true:=by rw [h];rfl
     clear h
     go_wp2_with fail
     go_round
     case rel=>exact ⟨k+1,by omega,by go_num,HN.out.trans HM.out⟩
     case measure=>simp [intOf];omega
    ·have e32:((s[k].toNat:Int) == 32)=false:=by rw [h];rfl
     have e9:((s[k].toNat:Int) == 9)=false:=by rw [h];rfl
     have e10:((s[k].toNat:Int) == 10)=true:=by rw [h];rfl
     clear h
     go_wp2_with fail
     go_round
     case rel=>exact ⟨k+1,by omega,by go_num,HN.out.trans HM.out⟩
     case measure=>simp [intOf];omega
   |false=>
    have HP:=Lib.hid hsp
    simp only [isSp,decide_eq_false_iff_not,not_or] at hsp
    have f1:((s[k].toNat:Int) == 32)=false:=by rw [beq_eq_false_iff_ne];exact hsp.1
    have f2:((s[k].toNat:Int) == 9)=false:=by rw [beq_eq_false_iff_ne];exact hsp.2.1
    have f3:((s[k].toNat:Int) == 13)=false:=by rw [beq_eq_false_iff_ne];exact hsp.2.2.1
    have f4:((s[k].toNat:Int) == 10)=false:=by rw [beq_eq_false_iff_ne];exact hsp.2.2.2
    clear hsp
    have stop:¬(∃h2:k+1<s.length,s[k]=47 /\ s[k+1]=47) -> bF s k0=k:=fun h=>by rw [←HM.out];exact zX s k hlt HP.out (aGs hlt h)
    have STOP:=Lib.hid stop
    clear stop
    by_cases h1:s.length <= k+1
    ·have g1:(s.length:Int) <= k+1:=by omega
     have hst:=STOP.out (by rintro ⟨h,_⟩;omega)
     have HST:=Lib.hid hst
     clear hst h1
     go_wp2_with fail
     go_ret
     exact ⟨gG (by rw [HST.out]),rfl⟩
    have g1:(k:Int)+1<s.length:=by omega
    have h1':k+1<s.length:=by omega
    clear h1
    by_cases h2:s[k]=47
    ·have g2:=((aJ1 s[k] 47 47 rfl (by omega)).1 h2).1
     have hcell2:=ByteRow.cell HR.out (k+1) h1'
     have hcell3:=hcell2
     rw [←Nat.add_assoc] at hcell3
     by_cases h3:s[k+1]=47
     ·have g3:=((aJ1 s[k+1] 47 47 rfl (by omega)).1 h3).1
      have H2:=Lib.hid h2
      have H3:=Lib.hid h3
      clear h2 h3
      go_wp2_with fail
      go_hide hQ
      go_loop [1] (fun v=>∃j:Nat,k <= j /\ j <= s.length /\ v=.int .i64 j /\ (s.drop k).dropWhile (·!= 10)=(s.drop j).dropWhile (·!= 10)) (fun v=>s.length-(intOf v).toNat)
      case atStart=>exact ⟨k,by omega,by omega,rfl,rfl⟩
      case round=>
       obtain ⟨j,hkj,hj,rfl,hd⟩:=hrel
       have HD:=Lib.hid hd
       clear hd hcell2 hcell3 hcell
       have fin:(s.drop k).dropWhile (·!= 10)=s.drop j -> bF s j=bF s k0:=fun h=>(aHj s k j h1' H2.out H3.out h).trans HM.out
       have FIN:=Lib.hid fin
       clear fin
       by_cases hje:j<s.length
       ·have hcell:=ByteRow.cell HR.out j hje
        have hst:=aK3 s k j hje HD.out
        have HST:=Lib.hid hst
        clear hst
        by_cases h10:s[j]=10
        ·have e10:=((aJ1 s[j] 10 10 rfl (by omega)).1 h10).2
         have hfin:=FIN.out (HST.out.1 h10)
         have hne:k≠j:=by rintro rfl;rw [H2.out] at h10;exact absurd h10 (by decide)
         have HF:=Lib.hid hfin
         clear hfin h10
         go_wp2_with fail
         subst hQ
         go_wp2_with fail
         go_round
         case rel=>exact ⟨j,by omega,rfl,HF.out⟩
         case measure=>simp [intOf];omega
        have e10:=((aJ1 s[j] 10 10 rfl (by omega)).2 h10).2
        have hnx:=HST.out.2 h10
        have HNX:=Lib.hid hnx
        clear hnx h10
        go_wp2_with fail
        go_round
        case rel=>exact ⟨j+1,by omega,by omega,by go_num,HNX.out⟩
        case measure=>simp [intOf];omega
       have hfin:=FIN.out (by rw [HD.out,List.drop_eq_nil_of_le (by omega)];rfl)
       have HF:=Lib.hid hfin
       clear hfin
       go_wp2_with fail
       subst hQ
       go_wp2_with fail
       go_round
       case rel=>exact ⟨j,by omega,rfl,HF.out⟩
       case measure=>simp [intOf];omega
     have g3:=((aJ1 s[k+1] 47 47 rfl (by omega)).2 h3).1
     have hst:=STOP.out (by rintro ⟨_,_,h⟩;exact h3 h)
     have HST:=Lib.hid hst
     clear hst h2 h3
     go_wp2_with fail
     go_ret
     exact ⟨gG (by rw [HST.out]),rfl⟩
    have g2:=((aJ1 s[k] 47 47 rfl (by omega)).2 h2).1
    have hst:=STOP.out (by rintro ⟨_,h,_⟩;exact h2 h)
    have HST:=Lib.hid hst
    clear hst h2
    go_wp2_with fail
    go_ret
    exact ⟨gG (by rw [HST.out]),rfl⟩
  clear hr
  go_wp2_with fail
  go_ret
  exact ⟨gG (by rw [←HM.out,aA5 _ _ (by omega)];omega),rfl⟩
end
section
open Go.RowKit
theorem aHa(t:List UInt8)(k n:Nat)(hk:k<t.length)(h:iT 0 t=iT n (t.drop k)):
  ((9223372036854775807-(t[k].toNat-48))/10<n -> iT 0 t=none) /\ (¬(9223372036854775807-(t[k].toNat-48))/10<n -> iT 0 t=iT (10*n+(t[k].toNat-48)) (t.drop (k+1))):=by
 rw [dR _ k hk,iT] at h
 refine ⟨fun hn=>?_,fun hn=>?_⟩
 ·rw [h];exact if_pos hn
 rw [h];exact if_neg hn
def xU(t:List UInt8):Int:=match iT 0 t with|none=>-1|some n=>n
theorem aFd(t:List UInt8)(v:Value)(w:World)(hv:dD w v t.length (cC t))(hs:t.length <= 1000000)(hd:∀c∈t,cD c=true):
  Calls prog 39 #[v] w fun e w'=>e=.returned (.int .i64 (xU t)) /\ w=w':=by
 obtain ⟨a,cap,rfl,hc,hr⟩:=hv
 have HA:=Lib.hid hd
 clear hd
 go_enter func39,Tryz.ntmps39
 go_wp2_with fail
 go_loop [3,4] (fun u v=>∃k n:Nat,k <= t.length /\ v=.int .i64 k /\ u=.int .i64 n /\ n <= 9223372036854775807 /\ iT 0 t=iT n (t.drop k)) (fun _ v=>t.length-(intOf v).toNat)
 case atStart=>exact ⟨0,0,by omega,rfl,rfl,by omega,rfl⟩
 case round=>
  obtain ⟨k,n,hk,rfl,rfl,hn,hv⟩:=hrel
  by_cases hlt:k<t.length
  ·rcases hr with h0|⟨b,off,rfl,hr⟩
   ·have:t.length=0:=by simpa [cC] using congrArg List.length h0
    omega
   have hcell:=ByteRow.cell hr k hlt
   clear hr
   have hst:=aHa t k n hlt hv
   have hd:cD t[k]=true:=HA.out _ (getElem_mem hlt)
   have HS:=Lib.hid hst
   clear hst hv
   simp only [cD,decide_eq_true_eq] at hd
   obtain ⟨hd1,hd2⟩:=hd
   by_cases hov:(9223372036854775807-(t[k].toNat-48))/10<n
   ·have hov':(9223372036854775807-((t[k].toNat:Int)-48))/10<(n:Int):=by omega
    have HO:=Lib.hid hov
    clear hov
    go_wp2_with fail
    go_ret
    exact ⟨gG (by rw [xU,HS.out.1 HO.out]),rfl⟩
   have hov':(n:Int) <= (9223372036854775807-((t[k].toNat:Int)-48))/10:=by omega
   have HO:=Lib.hid hov
   clear hov
   go_wp2_with fail
   go_round
   case rel=>exact ⟨k+1,10*n+(t[k].toNat-48),by omega,by go_num,by go_num,by omega,HS.out.2 HO.out⟩
   case measure=>simp [intOf];omega
  have HV:=Lib.hid hv
  clear hv hr
  go_wp2_with fail
  go_ret
  refine ⟨gG ?_,rfl⟩
  rw [xU,HV.out,List.drop_eq_nil_of_le (by omega),iT]
theorem zN(t:List UInt8)(a:Option Addr)(cap:Nat)(w:World)(hv:cC t=[]∨∃b off,a=some ⟨b,off,none⟩ /\ ∀j u,(cC t)[j]?=some u -> w.cell? ⟨b,off+j,none⟩=some u):
  (convert 23 9 (.slice a t.length cap)).run prog w=.ok (.string (bytes t)) w:=by
 rcases hv with h0|⟨b,off,rfl,hr⟩
 ·obtain rfl:t=[]:=by simpa [cC] using h0
  cases a with
  |none=>exact run_convert_bytes_nil w _ _ underlying23 underlying5 _ _ _ underlying9
  |some a=>
   have hl:=run_loadCells_list (P:=prog) w a [] (fun j v hj=>by simp at hj)
   rw [run_convert_bytes_string w _ _ _ _ _ _ underlying23 underlying5 underlying9,length_nil,run_bytesToString w a 0 cap [] (by simpa using hl)]
   rfl
 rw [run_convert_bytes_arg w _ _ underlying23 underlying5 b off t.length cap (t.map fun c=>(c.toNat:Int)) (by simp) ?_ _ underlying9]
 ·rw [strOfNums,List.map_map,bytes];congr 3;rw [show ((fun n:Int=>UInt8.ofNat n.toNat) ∘ fun c:UInt8=>(c.toNat:Int))=id from by funext c;simp];simp
 intro i hi
 rw [ByteRow.cell hr i hi];simp [hi]
theorem aIo{w:World}{b off:Nat}{s:List UInt8}(h:∀j u,(cC s)[j]?=some u -> w.cell? ⟨b,off+j,none⟩=some u)(i n:Nat):
  ∀j u,(cC ((s.drop i).take n))[j]?=some u -> w.cell? ⟨b,off+i+j,none⟩=some u:=by
 intro j u hu
 have:(cC s)[i+j]?=some u:=by
  simp only [cC,List.getElem?_map,List.getElem?_take,List.getElem?_drop] at hu⊢
  split at hu
  ·exact hu
  simp at hu
 rw [Nat.add_assoc];exact h _ _ this
def tO:List ByteArray:=[⟨#[60,61]⟩,⟨#[62,61]⟩,⟨#[61,61]⟩,⟨#[33,61]⟩,⟨#[38,38]⟩,⟨#[124,124]⟩]
def nU:List ByteArray:=[⟨#[40]⟩,⟨#[41]⟩,⟨#[123]⟩,⟨#[125]⟩,⟨#[91]⟩,⟨#[93]⟩,⟨#[44]⟩,⟨#[59]⟩,⟨#[61]⟩,⟨#[43]⟩,⟨#[45]⟩,⟨#[42]⟩,⟨#[47]⟩,⟨#[37]⟩,⟨#[60]⟩,⟨#[62]⟩,⟨#[33]⟩]
theorem bytes_inj{a b:List UInt8}(h:bytes a=bytes b):a=b:=by
 have:=congrArg (fun x=>x.data.toList) h
 simpa [bytes] using this
theorem aBu(L:List (List UInt8))(x:List UInt8):((L.map bytes).any fun y=>decide (y=bytes x))=decide (x∈L):=by
 rw [Bool.eq_iff_iff,List.any_eq_true]
 simp only [List.mem_map,decide_eq_true_eq]
 constructor
 ·rintro ⟨y,⟨z,hz,rfl⟩,h⟩;rw [←bytes_inj h];exact hz
 intro h;exact ⟨_,⟨x,h,rfl⟩,rfl⟩
theorem iR{s:List UInt8}{b off:Nat}{w:World}(hr:∀j u,(cC s)[j]?=some u -> w.cell? ⟨b,off+j,none⟩=some u)(i n cap:Nat)(hin:i+n <= s.length)(w':World)(hw:∀o,w'.cell? ⟨b,o,none⟩=w.cell? ⟨b,o,none⟩):
  (convert 23 9 (.slice (some ⟨b,off+i,none⟩) n cap)).run prog w'=.ok (.string (bytes ((s.drop i).take n))) w':=by
 have hl:((s.drop i).take n).length=n:=by rw [List.length_take,List.length_drop];omega
 have:=zN ((s.drop i).take n) (some ⟨b,off+i,none⟩) cap w' (.inr ⟨b,off+i,rfl,fun j u hu=>by rw [hw];exact aIo hr i n j u hu⟩)
 rw [hl] at this;exact this
end
section
open Go.RowKit
theorem aB6(w:World)(x:ByteArray)(q:Bool)(hq:(tO.any fun y=>decide (y=x))=q):
  Calls prog 77 #[.slice (some ⟨w.heap.size,0,none⟩) 6 6,.string x] (w.alloc (Obj.cells #[Value.string ⟨#[60,61]⟩,Value.string ⟨#[62,61]⟩,Value.string ⟨#[61,61]⟩,Value.string ⟨#[33,61]⟩,Value.string ⟨#[38,38]⟩,Value.string ⟨#[124,124]⟩] 9)) fun e w'=>e=.returned (.bool q) /\ w.alloc (Obj.cells #[Value.string ⟨#[60,61]⟩,Value.string ⟨#[62,61]⟩,Value.string ⟨#[61,61]⟩,Value.string ⟨#[33,61]⟩,Value.string ⟨#[38,38]⟩,Value.string ⟨#[124,124]⟩] 9)=w':=by
 subst hq;exact aDm tO x _ _ (dD.new w (tO.map .string) 9 6) (by decide)
theorem xM(w:World)(x:ByteArray)(k:Nat)(hk:k=w.heap.size)(q:Bool)(hq:(nU.any fun y=>decide (y=x))=q):
  Calls prog 77 #[.slice (some ⟨k,0,none⟩) 17 17,.string x] (w.alloc (Obj.cells #[Value.string ⟨#[40]⟩,Value.string ⟨#[41]⟩,Value.string ⟨#[123]⟩,Value.string ⟨#[125]⟩,Value.string ⟨#[91]⟩,Value.string ⟨#[93]⟩,Value.string ⟨#[44]⟩,Value.string ⟨#[59]⟩,Value.string ⟨#[61]⟩,Value.string ⟨#[43]⟩,Value.string ⟨#[45]⟩,Value.string ⟨#[42]⟩,Value.string ⟨#[47]⟩,Value.string ⟨#[37]⟩,Value.string ⟨#[60]⟩,Value.string ⟨#[62]⟩,Value.string ⟨#[33]⟩] 9)) fun e w'=>e=.returned (.bool q) /\ w.alloc (Obj.cells #[Value.string ⟨#[40]⟩,Value.string ⟨#[41]⟩,Value.string ⟨#[123]⟩,Value.string ⟨#[125]⟩,Value.string ⟨#[91]⟩,Value.string ⟨#[93]⟩,Value.string ⟨#[44]⟩,Value.string ⟨#[59]⟩,Value.string ⟨#[61]⟩,Value.string ⟨#[43]⟩,Value.string ⟨#[45]⟩,Value.string ⟨#[42]⟩,Value.string ⟨#[47]⟩,Value.string ⟨#[37]⟩,Value.string ⟨#[60]⟩,Value.string ⟨#[62]⟩,Value.string ⟨#[33]⟩] 9)=w':=by
 subst hq;exact aDm nU x _ _ (dD.new_at w (nU.map .string) 9 17 k hk) (by decide)
theorem aL1(n k b off cap:Nat)(w:World)(x1 x2:ByteArray)(hk:k<n)(hc:n <= cap)(hcm:cap <= 9223372036854775807)(hn:n <= 1000000)(hkc:¬cap=k)(g2:(k:Int)+1<n)(hcv1:∀O,(convert 23 9 (.slice (some ⟨b,off+k,none⟩) 2 (cap-k))).run prog (w.alloc O)=.ok (.string x2) (w.alloc O))(ha:(tO.any fun y=>decide (y=x2))=true):
  Calls prog 40 #[.slice (some ⟨b,off,none⟩) n cap,.int .i64 k] w fun e w'=>e=.returned (.int .i64 2) /\ Below w.heap.size w w':=by
 have HA:=Lib.hid ha
 clear ha
 go_enter func40,Tryz.ntmps40
 go_wp2_with (first|(go_at_call 77;((with_reducible refine (aB6 _ _ _ HA.out).mono ?_);rintro e w' ⟨rfl,rfl⟩)))
 go_ret
 exact ⟨rfl,by go_grown⟩
theorem aL6(n k b off cap:Nat)(w:World)(x1 x2:ByteArray)(hk:k<n)(hc:n <= cap)(hcm:cap <= 9223372036854775807)(hn:n <= 1000000)(hkc:¬cap=k)(q:Bool)(g2:(k:Int)+1<n)(hcv1:∀O,(convert 23 9 (.slice (some ⟨b,off+k,none⟩) 2 (cap-k))).run prog (w.alloc O)=.ok (.string x2) (w.alloc O))(hcv2:∀O O',(convert 23 9 (.slice (some ⟨b,off+k,none⟩) 1 (cap-k))).run prog ((w.alloc O).alloc O')=.ok (.string x1) ((w.alloc O).alloc O'))(ha:(tO.any fun y=>decide (y=x2))=false)(ha1:(nU.any fun y=>decide (y=x1))=q):
  Calls prog 40 #[.slice (some ⟨b,off,none⟩) n cap,.int .i64 k] w fun e w'=>e=.returned (.int .i64 (if q then 1 else 0)) /\ Below w.heap.size w w':=by
 have HA:=Lib.hid ha
 clear ha
 have HA1:=Lib.hid ha1
 clear ha1
 go_enter func40,Tryz.ntmps40
 go_wp2_with (first|(go_at_call 77;((with_reducible refine (aB6 _ _ _ HA.out).mono ?_);rintro e w' ⟨rfl,rfl⟩))|(go_at_call 77;((with_reducible refine (xM _ _ _ (by simp) _ HA1.out).mono ?_);rintro e w' ⟨rfl,rfl⟩)))
 all_goals (go_ret;exact ⟨by simp [*],by go_grown⟩)
theorem aLz(n k b off cap:Nat)(w:World)(x1 x2:ByteArray)(hk:k<n)(hc:n <= cap)(hcm:cap <= 9223372036854775807)(hn:n <= 1000000)(hkc:¬cap=k)(q:Bool)(g2:(n:Int) <= k+1)(hcv3:∀O,(convert 23 9 (.slice (some ⟨b,off+k,none⟩) 1 (cap-k))).run prog (w.alloc O)=.ok (.string x1) (w.alloc O))(ha1:(nU.any fun y=>decide (y=x1))=q):
  Calls prog 40 #[.slice (some ⟨b,off,none⟩) n cap,.int .i64 k] w fun e w'=>e=.returned (.int .i64 (if q then 1 else 0)) /\ Below w.heap.size w w':=by
 have HA1:=Lib.hid ha1
 clear ha1
 go_enter func40,Tryz.ntmps40
 go_wp2_with (first|(go_at_call 77;((with_reducible refine (xM _ _ _ (by simp) _ HA1.out).mono ?_);rintro e w' ⟨rfl,rfl⟩)))
 all_goals (go_ret;exact ⟨by simp [*],by go_grown⟩)
theorem aBz(s:List UInt8)(k:Nat)(b off cap:Nat)(w:World)(hr:∀j u,(cC s)[j]?=some u -> w.cell? ⟨b,off+j,none⟩=some u)(hc:s.length <= cap)(hcm:cap <= 9223372036854775807)(hs:s.length <= 1000000)(hk:k<s.length):
  Calls prog 40 #[.slice (some ⟨b,off,none⟩) s.length cap,.int .i64 k] w fun e w'=>e=.returned (.int .i64 (jE (s.drop k))) /\ Below w.heap.size w w':=by
 have hblt:b<w.heap.size:=gV (ByteRow.cell hr k hk)
 have hcv1:k+2 <= s.length -> ∀O,(convert 23 9 (.slice (some ⟨b,off+k,none⟩) 2 (cap-k))).run prog (w.alloc O)=.ok (.string (bytes ((s.drop k).take 2))) (w.alloc O):=fun h O=>iR hr k 2 _ h _ (fun o=>World.cell?_alloc_lt w O ⟨b,o,none⟩ hblt)
 have hcv2:∀O O',(convert 23 9 (.slice (some ⟨b,off+k,none⟩) 1 (cap-k))).run prog ((w.alloc O).alloc O')=.ok (.string (bytes ((s.drop k).take 1))) ((w.alloc O).alloc O'):=fun O O'=>iR hr k 1 _ (by omega) _ (fun o=>by rw [World.cell?_alloc_lt _ _ _ (by simp;omega),World.cell?_alloc_lt _ _ _ hblt])
 have hcv3:∀O,(convert 23 9 (.slice (some ⟨b,off+k,none⟩) 1 (cap-k))).run prog (w.alloc O)=.ok (.string (bytes ((s.drop k).take 1))) (w.alloc O):=fun O=>iR hr k 1 _ (by omega) _ (fun o=>World.cell?_alloc_lt w O ⟨b,o,none⟩ hblt)
 have hd1:(s.drop k).take 1=[s[k]]:=by rw [dR s k hk];rfl
 have one:¬(2 <= (s.drop k).length /\ (s.drop k).take 2∈fE) -> jE (s.drop k)=if s[k]∈dW then 1 else 0:=by
  intro h
  rw [dR s k hk] at h⊢
  by_cases hm:s[k]∈dW
  ·rw [if_pos hm,oR h hm]
  rw [if_neg hm,tL h hm]
 have hany:(nU.any fun y=>decide (y=bytes ((s.drop k).take 1)))=decide (s[k]∈dW):=by
  rw [hd1,show nU=(dW.map fun c=>[c]).map bytes from rfl,aBu]
  simp
 by_cases h2:k+1<s.length
 ·have hany2:(tO.any fun y=>decide (y=bytes ((s.drop k).take 2)))=decide ((s.drop k).take 2∈fE):=by
   rw [show tO=fE.map bytes from rfl,aBu]
  by_cases hm:(s.drop k).take 2∈fE
  ·rw [pA (l:=s.drop k) (by rw [List.length_drop];omega) hm]
   exact aL1 s.length k b off cap w ⟨#[]⟩ _ hk hc hcm hs (by omega) (by omega) (hcv1 (by omega)) (by rw [hany2];simpa using hm)
  rw [one (fun h=>hm h.2)]
  refine (aL6 s.length k b off cap w _ _ hk hc hcm hs (by omega) _ (by omega) (hcv1 (by omega)) hcv2 (by rw [hany2];simpa using hm) hany).mono fun e w' ⟨h,hb⟩=>⟨?_,hb⟩
  rw [h];refine gG ?_;by_cases hq:s[k]∈dW<;>simp [hq]
 ·rw [one (fun h=>by have:=h.1;rw [List.length_drop] at this;omega)]
  refine (aLz s.length k b off cap w _ ⟨#[]⟩ hk hc hcm hs (by omega) _ (by omega) hcv3 hany).mono fun e w' ⟨h,hb⟩=>⟨?_,hb⟩
  rw [h];refine gG ?_;by_cases hq:s[k]∈dW<;>simp [hq]
end
end Go.Proofs.YtojinfngbbajgaaGreatDoor
