import Derived.StillTailTactics
import Derived.Test.YtjgeihmhppadaaaGreatDoorCG4J
set_option linter.all false
set_option synthInstance.maxHeartbeats 1000000
set_option synthInstance.maxSize 1000000
set_option maxHeartbeats 1600000
set_option maxRecDepth 100000
namespace Go.Proofs.YtjgeihmhppadaaaGreatDoor
open Go.Proofs.Tryz
open List (length_append length_cons length_nil mem_append mem_cons not_mem_nil append_assoc getElem_mem take_of_length_le)
section
open Go.RowKit
def mK{s:aG}{l:List UInt8}(h:s=bytes l):(s.toList == l)=true:=by subst h;rw [ByteArray.toList_eq];simp [bytes]
def mJ{s:aG}{l:List UInt8}(h:s≠bytes l):(s.toList == l)=false:=by
 rw [beq_eq_false_iff_ne,ByteArray.toList_eq];intro e;apply h;apply xX;rw [e];simp [bytes]
def PS(s:aG)(w:aV):Calls prog 211 #[.string s] w λe w'=>e=.returned (.tuple #[.int .i64 (binOp s).1,.int .i64 (binOp s).2]) /\ w=w':=by
 go_enter func211,Tryz.ntmps211
 by_cases h0:s=bytes [124,124]
 ·have g0:(s.toList == [124,124])=true:=mK h0;have hb:binOp s=(17,1):=by rw [binOp,if_pos h0]
  rw [hb];clear hb h0
  go_wp2_with fail
  refine bodyPost_ret (v:=.tuple #[.int .i64 17,.int .i64 1]) li J ?_;exact ⟨J,J⟩
 have g0:(s.toList == [124,124])=false:=mJ h0;by_cases h1:s=bytes [38,38]
 ·have g1:(s.toList == [38,38])=true:=mK h1;have hb:binOp s=(16,2):=by rw [binOp,if_neg h0,if_pos h1]
  rw [hb];clear hb h0 h1
  go_wp2_with fail
  refine bodyPost_ret (v:=.tuple #[.int .i64 16,.int .i64 2]) li J ?_;exact ⟨J,J⟩
 have g1:(s.toList == [38,38])=false:=mJ h1;by_cases h2:s=bytes [61,61]
 ·have g2:(s.toList == [61,61])=true:=mK h2;have hb:binOp s=(14,3):=by rw [binOp,if_neg h0,if_neg h1,if_pos h2]
  rw [hb];clear hb h0 h1 h2
  go_wp2_with fail
  refine bodyPost_ret (v:=.tuple #[.int .i64 14,.int .i64 3]) li J ?_;exact ⟨J,J⟩
 have g2:(s.toList == [61,61])=false:=mJ h2;by_cases h3:s=bytes [33,61]
 ·have g3:(s.toList == [33,61])=true:=mK h3;have hb:binOp s=(15,3):=by rw [binOp,if_neg h0,if_neg h1,if_neg h2,if_pos h3]
  rw [hb];clear hb h0 h1 h2 h3
  go_wp2_with fail
  refine bodyPost_ret (v:=.tuple #[.int .i64 15,.int .i64 3]) li J ?_;exact ⟨J,J⟩
 have g3:(s.toList == [33,61])=false:=mJ h3;by_cases h4:s=bytes [60]
 ·have g4:(s.toList == [60])=true:=mK h4;have hb:binOp s=(10,3):=by rw [binOp,if_neg h0,if_neg h1,if_neg h2,if_neg h3,if_pos h4]
  rw [hb];clear hb h0 h1 h2 h3 h4
  go_wp2_with fail
  refine bodyPost_ret (v:=.tuple #[.int .i64 10,.int .i64 3]) li J ?_;exact ⟨J,J⟩
 have g4:(s.toList == [60])=false:=mJ h4;by_cases h5:s=bytes [60,61]
 ·have g5:(s.toList == [60,61])=true:=mK h5;have hb:binOp s=(11,3):=by rw [binOp,if_neg h0,if_neg h1,if_neg h2,if_neg h3,if_neg h4,if_pos h5]
  rw [hb];clear hb h0 h1 h2 h3 h4 h5
  go_wp2_with fail
  refine bodyPost_ret (v:=.tuple #[.int .i64 11,.int .i64 3]) li J ?_;exact ⟨J,J⟩
 have g5:(s.toList == [60,61])=false:=mJ h5;by_cases h6:s=bytes [62]
 ·have g6:(s.toList == [62])=true:=mK h6;have hb:binOp s=(12,3):=by rw [binOp,if_neg h0,if_neg h1,if_neg h2,if_neg h3,if_neg h4,if_neg h5,if_pos h6]
  rw [hb];clear hb h0 h1 h2 h3 h4 h5 h6
  go_wp2_with fail
  refine bodyPost_ret (v:=.tuple #[.int .i64 12,.int .i64 3]) li J ?_;exact ⟨J,J⟩
 have g6:(s.toList == [62])=false:=mJ h6;by_cases h7:s=bytes [62,61]
 ·have g7:(s.toList == [62,61])=true:=mK h7;have hb:binOp s=(13,3):=by rw [binOp,if_neg h0,if_neg h1,if_neg h2,if_neg h3,if_neg h4,if_neg h5,if_neg h6,if_pos h7]
  rw [hb];clear hb h0 h1 h2 h3 h4 h5 h6 h7
  go_wp2_with fail
  refine bodyPost_ret (v:=.tuple #[.int .i64 13,.int .i64 3]) li J ?_;exact ⟨J,J⟩
 have g7:(s.toList == [62,61])=false:=mJ h7;by_cases h8:s=bytes [43]
 ·have g8:(s.toList == [43])=true:=mK h8;have hb:binOp s=(8,4):=by rw [binOp,if_neg h0,if_neg h1,if_neg h2,if_neg h3,if_neg h4,if_neg h5,if_neg h6,if_neg h7,if_pos h8]
  rw [hb];clear hb h0 h1 h2 h3 h4 h5 h6 h7 h8
  go_wp2_with fail
  refine bodyPost_ret (v:=.tuple #[.int .i64 8,.int .i64 4]) li J ?_;exact ⟨J,J⟩
 have g8:(s.toList == [43])=false:=mJ h8;by_cases h9:s=bytes [45]
 ·have g9:(s.toList == [45])=true:=mK h9;have hb:binOp s=(9,4):=by rw [binOp,if_neg h0,if_neg h1,if_neg h2,if_neg h3,if_neg h4,if_neg h5,if_neg h6,if_neg h7,if_neg h8,if_pos h9]
  rw [hb];clear hb h0 h1 h2 h3 h4 h5 h6 h7 h8 h9
  go_wp2_with fail
  refine bodyPost_ret (v:=.tuple #[.int .i64 9,.int .i64 4]) li J ?_;exact ⟨J,J⟩
 have g9:(s.toList == [45])=false:=mJ h9;by_cases h10:s=bytes [42]
 ·have g10:(s.toList == [42])=true:=mK h10;have hb:binOp s=(5,5):=by rw [binOp,if_neg h0,if_neg h1,if_neg h2,if_neg h3,if_neg h4,if_neg h5,if_neg h6,if_neg h7,if_neg h8,if_neg h9,if_pos h10]
  rw [hb];clear hb h0 h1 h2 h3 h4 h5 h6 h7 h8 h9 h10
  go_wp2_with fail
  refine bodyPost_ret (v:=.tuple #[.int .i64 5,.int .i64 5]) li J ?_;exact ⟨J,J⟩
 have g10:(s.toList == [42])=false:=mJ h10;by_cases h11:s=bytes [47]
 ·have g11:(s.toList == [47])=true:=mK h11;have hb:binOp s=(6,5):=by rw [binOp,if_neg h0,if_neg h1,if_neg h2,if_neg h3,if_neg h4,if_neg h5,if_neg h6,if_neg h7,if_neg h8,if_neg h9,if_neg h10,if_pos h11]
  rw [hb];clear hb h0 h1 h2 h3 h4 h5 h6 h7 h8 h9 h10 h11
  go_wp2_with fail
  refine bodyPost_ret (v:=.tuple #[.int .i64 6,.int .i64 5]) li J ?_;exact ⟨J,J⟩
 have g11:(s.toList == [47])=false:=mJ h11;by_cases h12:s=bytes [37]
 ·have g12:(s.toList == [37])=true:=mK h12;have hb:binOp s=(7,5):=by rw [binOp,if_neg h0,if_neg h1,if_neg h2,if_neg h3,if_neg h4,if_neg h5,if_neg h6,if_neg h7,if_neg h8,if_neg h9,if_neg h10,if_neg h11,if_pos h12]
  rw [hb];clear hb h0 h1 h2 h3 h4 h5 h6 h7 h8 h9 h10 h11 h12
  go_wp2_with fail
  refine bodyPost_ret (v:=.tuple #[.int .i64 7,.int .i64 5]) li J ?_;exact ⟨J,J⟩
 have g12:(s.toList == [37])=false:=mJ h12;have hb:binOp s=(0,0):=by rw [binOp,if_neg h0,if_neg h1,if_neg h2,if_neg h3,if_neg h4,if_neg h5,if_neg h6,if_neg h7,if_neg h8,if_neg h9,if_neg h10,if_neg h11,if_neg h12]
 rw [hb];clear hb h0 h1 h2 h3 h4 h5 h6 h7 h8 h9 h10 h11 h12
 go_wp2_with fail
 refine bodyPost_ret (v:=.tuple #[.int .i64 0,.int .i64 0]) li J ?_;exact ⟨J,J⟩
def kQ:List ByteArray:=[⟨#[]⟩,⟨#[]⟩,⟨#[]⟩,⟨#[45]⟩,⟨#[33]⟩,⟨#[42]⟩,⟨#[47]⟩,⟨#[37]⟩,⟨#[43]⟩,⟨#[45]⟩,⟨#[60]⟩,⟨#[60,61]⟩,⟨#[62]⟩,⟨#[62,61]⟩,⟨#[61,61]⟩,⟨#[33,61]⟩,⟨#[38,38]⟩,⟨#[124,124]⟩]
structure qt (w:World):Prop where
 signs:∀j (h:j<kQ.length),w.cell? ⟨3,j,none⟩=some (.string kQ[j])
def qt.keep{L:List Nat}{w w':aV}(h:qt w)(hk:cH L w w')(hn:3∉L):qt w':=
 ⟨λj hj=>by rw [hk.cell (lL (h.signs j hj)) hn];exact h.signs j hj⟩
def qt.below{w w':aV}(h:qt w)(hb:Below w.heap.size w w'):qt w':=h.keep (L:=[]) (cH.of_below hb) aK
def fQ(op:Int):Nat:=if op=17 then 1 else if op=16 then 2 else if 10 <= op /\ op <= 15 then 3 else if op=8∨op=9 then 4 else if 5 <= op /\ op <= 7 then 5 else if op=3∨op=4 then 6 else if op=1∨op=2 then 7 else 0
def Rm:∀j (h:j<kQ.length),j≠1 -> j≠2 -> j≠3 -> j≠4 -> (binOp kQ[j]).2=fQ j:=V
def KM(op:Int)(h:op<0∨18 <= op):fQ op=0:=by
 unfold fQ
 repeat rw [if_neg Y]
def xz(op:Int)(h:1 <= op /\ op <= 17):fQ op=cw op+1:=by
 unfold fQ cw;split
 ·rfl
 split
 ·rfl
 split
 ·rfl
 split
 ·rfl
 split
 ·rfl
 split
 ·rfl
 rw [if_pos Y]
def R8(op:Int)(w:aV)(he:qt w):Calls prog 198 #[.int .i64 op] w λe w'=>e=.returned (.int .i64 (fQ op)) /\ w=w':=by
 have HE:=Lib.hid he;clear he;by_cases h1:op=1
 ·subst h1
  go_enter func198,Tryz.ntmps198
  go_wp2_with fail
  go_ret
  exact ⟨J,J⟩
 by_cases h2:op=2
 ·subst h2
  go_enter func198,Tryz.ntmps198
  go_wp2_with fail
  go_ret
  exact ⟨J,J⟩
 by_cases h3:op=3
 ·subst h3
  go_enter func198,Tryz.ntmps198
  go_wp2_with fail
  go_ret
  exact ⟨J,J⟩
 by_cases h4:op=4
 ·subst h4
  go_enter func198,Tryz.ntmps198
  go_wp2_with fail
  go_ret
  exact ⟨J,J⟩
 have b1:(op == 1)=false:=q';have b2:(op == 2)=false:=mR;have b3:(op == 3)=false:=tu;have b4:(op == 4)=false:=by simpa using h4
 by_cases hneg:op<0
 ·have hd:decide (op<0)=true:=by simpa using hneg
  have hs:=KM op (.inl hneg);rw [hs];clear hs h1 h2 h3 h4
  go_enter func198,Tryz.ntmps198
  go_wp2_with fail
  go_ret
  exact ⟨J,J⟩
 have hd:decide (op<0)=false:=by simpa using hneg
 by_cases hbig:18 <= op
 ·have hd2:decide (18 <= op)=true:=by simpa using hbig
  have hs:=KM op (.inr hbig);rw [hs];clear hs h1 h2 h3 h4
  go_enter func198,Tryz.ntmps198
  go_wp2_with fail
  go_ret
  exact ⟨J,J⟩
 obtain ⟨j,rfl⟩:∃j:Nat,op=j:=⟨op.toNat,Y⟩;have hj:j<kQ.length:=by simp [kQ];omega
 have hs:=Rm j hj Y Y Y Y;have hc:=HE.out.signs j hj;have hd2:decide ((18:Int) <= j)=false:=by simpa using hbig
 have hlt:(j:Int)<18:=Y;obtain ⟨s,hs2⟩:∃s,s=kQ[j]:=⟨_,rfl⟩;rw [←hs2] at hs hc;rw [←hs];clear hs h1 h2 h3 h4 hs2
 go_enter func198,Tryz.ntmps198
 go_wp2_with fail
 refine (PS s w).mono ?_;rintro e w' ⟨rfl,rfl⟩
 go_wp2_with fail
 go_ret
 exact ⟨J,J⟩
structure nH (w:World):Prop where
 words:∀j (h:j<words.length),w.cell? ⟨0,j,none⟩=some (.string words[j])
 maxLen:∃m:Int,w.cell? ⟨2,0,none⟩=some (.int .i64 m)
 signs:qt w
 tab : Lib.TabIs prog w "internal/strconv.uint64pow10" .u64 Lib.pow10Tab
def nH.up{w w':aV}(h:nH w)(hu:fl w w'):nH w':=by
 refine ⟨λj hj=>hu.1 _ _ (h.words j hj),h.maxLen.imp λm hm=>hu.1 _ _ hm,⟨λj hj=>hu.1 _ _ (h.signs.signs j hj)⟩,?_⟩;have h1:=h.tab;unfold Lib.TabIs World.var? at h1⊢;cases hg : prog.globalNamed "internal/strconv.uint64pow10" with
 |none=>rw [hg] at h1;exact absurd h1 aK
 |some g=>
  rw [hg,Option.bind_some] at h1;rw [Option.bind_some];cases hb:w.heap[g]? with
  |none=>rw [hb] at h1;exact absurd h1 aK
  |some o=>
   rw [hb] at h1;cases o with
   |cells cs t fz=>
    simp only [vQ] at h1;subst h1;rw [hu.2 g _ t fz hb (by rw [uF,fW];decide)]
   |_=>exact absurd h1 aK
abbrev cC(t:AT):AT:=.ride t nH
def uS{w:aV}{t u:AT}{p:aV -> Prop}{v0 v:aM}(h0:cN w (.ride t p) v0)(h:cN w u v):cN w (.ride u p) v:=by
 cases h0 with|ride _ _ _ _ hp=>exact .ride _ _ _ h hp
def Dj{bl:List Nat}{w:aV}{t:AT}{p:aV -> Prop}{v:aM}(h:cN (bi bl w) (.ride t p) v):p w:=by
 cases h with|ride _ _ _ _ hp=>exact hp w (PI bl w)
def LN{w:aV}{t:AT}{p:aV -> Prop}{v:aM}(h:cN w (.ride t p) v):p w:=by
 cases h with|ride _ _ _ _ hp=>exact hp w ⟨λ_ _ h=>h,λ_ _ _ _ h _=>h⟩
def JW{w:aV}{t:AT}{v:aM}(h:cN w t v)(he:nH w):cN w (cC t) v:=.ride _ _ _ h λ_ hu=>he.up hu
def Iz{t:AT}{p:aV -> Prop}:bu (.ride t p) t:=λw v h=>by cases h with|ride _ _ _ h _=>exact h
def Pa{w:aV}{t u:AT}{v0 v:aM}(h0:cN w (cC t) v0)(h:cN w u v):∃m,cN w (Dm u m) v:=by
 have he:=LN h0;obtain ⟨m,hm⟩:=he.maxLen;refine ⟨m,.fact _ _ _ _ [.int .i64 m] _ (.fact _ _ _ _ (words.map .string) _ h ?_ ?_) ?_ ?_⟩
 ·have h9:=mW w (words.map .string) wX;rw [lE] at h9;exact h9
 ·intro j u hj;have hjl:j<words.length:=by have:=(mM.1 hj).1;simpa using this
  rw [e0,he.words j hjl];rw [mD,jz hjl] at hj;exact hj
 ·exact mW _ [.int .i64 m] (λu hu=>by simp at hu;subst hu;rfl)
 intro j u hj
 match j,hj with
 |0,hj=>simp at hj;subst hj;exact hm
 |j+1,hj=>simp at hj
section
variable {P:Program}{U T:List Nat}{o:Oper}{n d:Nat}{ts:List (Nat×AT)}{s:aH}{K:AS -> Prop}{p:World -> Prop}{t0 u:AT}{us:List AT}{ops:Array Oper}{l:List Oper}{Q:Exit -> AS -> Prop}
theorem nd{F:FuncId}{ars:Array bc}{tys:Array bA}(i0:Nat)(T':List Nat){QQ:AT -> aH -> Prop}(ho:o.op=.call {callee:=.value (.func F),args:=ars,argTypes:=tys})(hd:o.dst=some d)(hn:d<n)
  (hcf:∀args w,(callFunc F args).run P w=.ok (.enter F args) w) (hl:look ts i0=some (.ride t0 p)) (has:ars.toList.map (ay ⟨n,T,s,ts⟩)=(u::us).map some) (hc:aR P F (.ride u p::us) T' s QQ) (hT:∀b,b∈T' -> b∈T) (hTb:∀b,b∈T' -> b∈s.bl) (hU:s.bl.Nodup -> ∀b,b∈T' -> b∈U)
  (h:∀r s',QQ r s' -> K ⟨n,T,s',(d,r)::ts⟩):dN P U o ⟨n,T,s,ts⟩ K:=by
 intro a w hs KK QQ' hK;obtain ⟨h1,h2⟩:=nx hs has;obtain ⟨v0,-,hv0⟩:=hs.tm i0 _ hl;refine yJ (st:=⟨n,T,s,ts⟩) (ts:=.ride u p::us) hs hd hn h1 (λi hi hi'=>?_) ?_ hc hT hTb hU h KK QQ' hK
 ·match i,hi with
  |0,hi=>exact uS hv0 (h2 0 aK hi')
  |i+1,hi=>exact h2 (i+1) oJ hi'
 ·simp only [execOp,ho,resolve,Deferred.ofValue,Act.eval,Sem.run_bind,Sem.run_pure,Result.andThen_ok,invoke];rw [hcf]
  congr 2
  rw [←mu];simp
theorem Cy{F:FuncId}{ars:Array bc}{tys:Array bA}(i0:Nat)(T':List Nat){QQ:AT -> aH -> Prop}(ho:o.op=.call {callee:=.value (.func F),args:=ars,argTypes:=tys})(hd:o.dst=some d)(hn:d<n)
  (hcf:∀args w,(callFunc F args).run P w=.ok (.enter F args) w) (hl:look ts i0=some (cC t0)) (has:ars.toList.map (ay ⟨n,T,s,ts⟩)=(u::us).map some) (hc:∀m,aR P F (Dm u m::us) T' s QQ) (hT:∀b,b∈T' -> b∈T) (hTb:∀b,b∈T' -> b∈s.bl) (hU:s.bl.Nodup -> ∀b,b∈T' -> b∈U)
  (h:∀r s',QQ r s' -> K ⟨n,T,s',(d,r)::ts⟩):dN P U o ⟨n,T,s,ts⟩ K:=by
 intro a w hs KK QQ' hK;obtain ⟨h1,h2⟩:=nx hs has;obtain ⟨v0,-,hv0⟩:=hs.tm i0 _ hl;obtain ⟨m,hm⟩:=Pa hv0 (h2 0 aK (by rw [h1];simp));refine yJ (st:=⟨n,T,s,ts⟩) (ts:=Dm u m::us) hs hd hn h1 (λi hi hi'=>?_) ?_ (hc m) hT hTb hU h KK QQ' hK
 ·match i,hi with
  |0,hi=>exact hm
  |i+1,hi=>exact h2 (i+1) oJ hi'
 ·simp only [execOp,ho,resolve,Deferred.ofValue,Act.eval,Sem.run_bind,Sem.run_pure,Result.andThen_ok,invoke];rw [hcf]
  congr 2
  rw [←mu];simp
theorem T5{F:FuncId}{x:bc}{cap:Array aM}{ars:Array bc}{tys:Array bA}(i0:Nat)(T':List Nat){QQ:AT -> aH -> Prop}(ho:o.op=.call {callee:=.value x,args:=ars,argTypes:=tys})(hx:ay ⟨n,T,s,ts⟩ x=some (au (.func (.func F) #[] cap)))(hd:o.dst=some d)(hn:d<n)
  (hcf:∀args w,(callFunc F args).run P w=.ok (.enter F args) w) (hl:look ts i0=some (.ride t0 p)) (has:ars.toList.map (ay ⟨n,T,s,ts⟩)=(u::us).map some) (hc:aR P F (.ride u p::(us++cap.toList.map fy)) T' s QQ) (hT:∀b,b∈T' -> b∈T) (hTb:∀b,b∈T' -> b∈s.bl) (hU:s.bl.Nodup -> ∀b,b∈T' -> b∈U)
  (h:∀r s',QQ r s' -> K ⟨n,T,s',(d,r)::ts⟩):dN P U o ⟨n,T,s,ts⟩ K:=by
 intro a w hs KK QQ' hK;obtain ⟨h1,h2⟩:=nx hs has;obtain ⟨v0,-,hv0⟩:=hs.tm i0 _ hl;obtain ⟨ep,fS⟩:=yN (bi s.bl w) cap.toList;have h3:(ars.toList.map a.eval).length=(AT.ride u p::us).length /\ ∀i (h:i<(AT.ride u p::us).length) (h':i<(ars.toList.map a.eval).length),cN (bi s.bl w) (AT.ride u p::us)[i] (ars.toList.map a.eval)[i]:=by
  refine ⟨h1,λi hi hi'=>?_⟩
  match i,hi with
  |0,hi=>exact uS hv0 (h2 0 aK hi')
  |i+1,hi=>exact h2 (i+1) oJ hi'
 obtain ⟨g3,g4⟩:=Ak h3.1 h3.2 ep fS;refine yJ (st:=⟨n,T,s,ts⟩) (ts:=.ride u p::(us++cap.toList.map fy)) hs hd hn g3 g4 ?_ hc hT hTb hU h KK QQ' hK;simp only [execOp,ho,resolve,hs.val hx,Deferred.ofValue,Sem.run_bind,Sem.run_pure,Result.andThen_ok,invoke];rw [hcf]
 congr 2
 rw [←mu];simp
theorem pK{X:List Nat}:∀b,b∈([]:List Nat) -> b∈X:=λ_ h=>gM
theorem jR{F:FuncId}{ars:Array bc}{tys:Array bA}{r:AT}(i0:Nat)(h0:(dn ops o ⟨n,T,s,ts⟩,o.op,o.dst,Nat.blt d n,look ts i0)=(some true,.call {callee:=.value (.func F),args:=ars,argTypes:=tys},some d,true,some (.ride t0 p)))
  (hcf:∀args w,(callFunc F args).run P w=.ok (.enter F args) w) (has:ars.toList.map (ay ⟨n,T,s,ts⟩)=(u::us).map some) (hc:aR P F (.ride u p::us) [] s λt s'=>t=r /\ s'=s) (h:cL P ops l ⟨n,T,s,(d,r)::ts⟩ Q):cL P ops (o::l) ⟨n,T,s,ts⟩ Q:=by
 simp only [iN] at h0;exact aW h0.1 (nd i0 [] h0.2.1 h0.2.2.1 (ez h0.2.2.2.1) hcf h0.2.2.2.2 has hc pK pK (λ_=>pK) λr s' ⟨h1,h2⟩=>Cw)
theorem dl{F:FuncId}{ars:Array bc}{tys:Array bA}{b c:Bool}(i0:Nat)(h0:(dn ops o ⟨n,T,s,ts⟩,o.op,o.dst,Nat.blt d n,look ts i0)=(some true,.call {callee:=.value (.func F),args:=ars,argTypes:=tys},some d,true,some (.ride t0 p)))
  (hcf:∀args w,(callFunc F args).run P w=.ok (.enter F args) w) (has:ars.toList.map (ay ⟨n,T,s,ts⟩)=(u::us).map some) (hc:aR P F (.ride u p::us) [] s λt s'=>t=ap b /\ s'=s) (hb:b=c) (h:cL P ops l ⟨n,T,s,(d,ap c)::ts⟩ Q):cL P ops (o::l) ⟨n,T,s,ts⟩ Q:=by
 subst hb;exact jR i0 h0 hcf has hc h
theorem m4{F:FuncId}{ars:Array bc}{tys:Array bA}{r:AT}(h0:(dn ops o ⟨n,T,s,ts⟩,o.op,o.dst,Nat.blt d n)=(some true,.call {callee:=.value (.func F),args:=ars,argTypes:=tys},some d,true))
  (hcf:∀args w,(callFunc F args).run P w=.ok (.enter F args) w) (has:ars.toList.map (ay ⟨n,T,s,ts⟩)=us.map some) (hc:aR P F us [] s λt s'=>t=r /\ s'=s) (h:cL P ops l ⟨n,T,s,(d,r)::ts⟩ Q):cL P ops (o::l) ⟨n,T,s,ts⟩ Q:=by
 simp only [iN] at h0;exact aW h0.1 (bj [] h0.2.1 h0.2.2.1 (ez h0.2.2.2) hcf has hc pK pK (λ_=>pK) λr s' ⟨h1,h2⟩=>Cw)
theorem qE{F:FuncId}{ars:Array bc}{tys:Array bA}{b c:Bool}(h0:(dn ops o ⟨n,T,s,ts⟩,o.op,o.dst,Nat.blt d n)=(some true,.call {callee:=.value (.func F),args:=ars,argTypes:=tys},some d,true))
  (hcf:∀args w,(callFunc F args).run P w=.ok (.enter F args) w) (has:ars.toList.map (ay ⟨n,T,s,ts⟩)=us.map some) (hc:aR P F us [] s λt s'=>t=ap b /\ s'=s) (hb:b=c) (h:cL P ops l ⟨n,T,s,(d,ap c)::ts⟩ Q):cL P ops (o::l) ⟨n,T,s,ts⟩ Q:=by
 subst hb;exact m4 h0 hcf has hc h
theorem Vj{t e:bA}{y:bc}{k:IntKind}{i:Int}{N:Nat}(i0 j:Nat)(ho:o.op=.indexAddr t (.global 3) y)(hl:look ts i0=some (cC t0))(hy:ay ⟨n,T,s,ts⟩ y=some (au (.int k i)))(hi:i=j)(hj:j<kQ.length)(hN:kQ.length=N)
  (hu:∀w,(underlying t).run P w=.ok (.array N e) w) (hS:∀w,(sizeOf e).run P w=.ok 1 w):cf P U o ⟨n,T,s,ts⟩ (.el [ae (kQ[j])]):=by
 intro a w hs _;subst hi;subst hN;obtain ⟨v0,-,hv0⟩:=hs.tm i0 _ hl;have he:=(LN hv0).signs.signs j hj;refine ⟨.pointer (some ⟨3,j,none⟩),.el _ _ _ [.string kQ[j]] (mW _ [.string kQ[j]] (λu hu=>by simp at hu;subst hu;rfl)) (λi u hu=>?_) (lL he),λw' _=>?_⟩
 ·match i,hu with
  |0,hu=>simp at hu;subst hu;exact he
  |i+1,hu=>simp at hu
 ·simp only [execOp,ho,hs.val hy,show a.eval (.global 3)=.pointer (some ⟨3,0,none⟩) from rfl,Instr.indexAt,asIntOf,Sem.run_bind,Sem.run_pure,Result.andThen_ok,hu];simp [go_sem,hS,hj,qG]
end
end
section
def z8(t:Tok):Prop:=(t.kind=3 -> ee t.text=true) /\ (t.kind=4 -> ee t.text=false) /\ t.num <= 9223372036854775807
def G4:∀(r:List UInt8)(n m:Nat),n <= 9223372036854775807 -> e1 n r=some m -> m <= 9223372036854775807
 |[],n,m,h,he=>by unfold e1 at he;cases he;exact h
 |c::r,n,m,h,he=>by
  unfold e1 at he;split at he
  ·cases he
  exact G4 r _ m (by have:=c.toNat_lt;omega) he
def O3:∀x,x∈words -> fR (x.data.toList.headD 0)=true:=V
def Qi{c:UInt8}{r:List UInt8}(h:fR c=false){n:Nat}(hn:n≠0):ee (bytes ((c::r).take n))=false:=by
 cases hr:ee (bytes ((c::r).take n)) with
 |false=>rfl
 |true=>
  have h1:=O3 _ ((zk _).1 hr);obtain ⟨m,rfl⟩:∃m,n=m+1:=⟨n-1,Y⟩;simp [bytes] at h1;rw [h] at h1;cases h1
def Rq{c:UInt8}{r:List UInt8}{kind len num:Nat}(p:Nat)(h:d1 (c::r)=.tok kind len num):z8 ⟨kind,bytes ((c::r).take len),num,p⟩ /\ kind≠5:=by
 cases hc:fR c with
 |true=>
  rw [sv hc] at h;split at h
  ·cases h
  ·injection h with h1 h2 h3
   subst h2;subst h3;subst h1;have ht:(c::r).take ((c::r).takeWhile cv).length=(c::r).takeWhile cv:=by
    have:=BZ (l:=c::r) cv;exact (Dy.1 this).symm
   rw [ht];refine ⟨⟨λh3=>?_,λh4=>?_,by show 0 <= _;omega⟩,?_⟩
   ·change (if ee (bytes ((c::r).takeWhile cv))=true then 3 else 1)=3 at h3;split at h3
    ·assumption
    omega
   ·change (if ee (bytes ((c::r).takeWhile cv))=true then 3 else 1)=4 at h4;split at h4<;>omega
   ·split<;>omega
 |false=>
  cases hd:dJ c with
  |true=>
   cases hn:e1 0 ((c::r).takeWhile dJ) with
   |none=>rw [u' hc hd hn] at h;cases h
   |some n=>
    rw [tD hc hd hn] at h;injection h with h1 h2 h3
    subst h1;subst h2;subst h3;exact ⟨⟨λh=>absurd h (show ¬(2=3) by decide),λh=>absurd h (show ¬(2=4) by decide),G4 _ _ _ Y hn⟩,Y⟩
  |false=>
   rw [rk hc hd] at h;split at h
   ·cases h
   rename_i h0;injection h with h1 h2 h3
   subst h1;subst h2;subst h3;exact ⟨⟨λh=>absurd h (show ¬(4=3) by decide),λ_=>Qi hc h0,d2 _⟩,Y⟩
structure U3 (l:List Tok):Prop where
 ends:oN l
 reg:∀t,t∈l -> z8 t
 few:l.length <= 4001
def K7:∀(m:Nat)(s:List UInt8)(k n:Nat),s.length-k <= m -> k <= s.length -> n <= 4000 -> ∀L,gN s k n=.ok L -> (∃h:0<L.length,(L[L.length-1]'(by omega)).kind=5) /\ (∀t,t∈L -> z8 t) /\ L.length+n <= 4001
 |m,s,k,n,hm,hk,hn,L,h=>by
  by_cases he:s.length <= cR s k
  ·rw [wG he] at h;cases h;refine ⟨⟨aK,J⟩,λt ht=>?_,di⟩;simp at ht;subst ht;exact ⟨λh=>gM,λh=>gM,by show 0 <= _;omega⟩
  have hlt:cR s k<s.length:=Y;cases hx:d1 (s.drop (cR s k)) with
  |err e=>rw [yC hlt hx] at h;cases h
  |tok kind len num=>
   by_cases h4:n=4000
   ·subst h4;rw [yx hlt hx] at h;cases h
   rw [wl hk hlt hx h4] at h;have hg:=p9 s k hk;have hd:s.drop (cR s k)≠[]:=G0;have hl:=xL hd hx;rw [jk] at hl;obtain ⟨c,r,hcr⟩:=uJ hd;rw [hcr] at hx h;have hreg:=Rq (cR s k) hx;cases m with
   |zero=>omega
   |succ m=>
    cases ht:gN s (cR s k+len) (n+1) with
    |err p e=>rw [ht] at h;cases h
    |ok L'=>
     rw [ht] at h;cases h;obtain ⟨⟨h0,h5⟩,h2,h3⟩:=K7 m s (cR s k+len) (n+1) Y Y Y L' ht;refine ⟨⟨aK,?_⟩,λt ht=>?_,di⟩
     ·simp only [length_cons];rw [List.getElem_cons];rw [dif_neg Y];simpa using h5
     rcases mem_cons.1 ht with rfl|ht
     ·exact hreg.1
     exact h2 t ht
def Ds{s:List UInt8}{L:List Tok}(h:fo s=.ok L):U3 L:=by
 unfold fo at h;split at h
 ·cases h
 obtain ⟨h1,h2,h3⟩:=K7 s.length s 0 0 Y Y Y L h;exact ⟨h1,h2,Y⟩
end
section
def Na{c:UInt8}{r:List UInt8}{len num:Nat}(h:d1 (c::r)=.tok 1 len num):br (bytes ((c::r).take len))=true:=by
 cases hc:fR c with
 |true=>
  rw [sv hc] at h;split at h
  ·cases h
  ·rename_i h16;injection h with h1 h2 h3
   subst h2;have ht:(c::r).take ((c::r).takeWhile cv).length=(c::r).takeWhile cv:=
    (Dy.1 (BZ (l:=c::r) cv)).symm
   rw [ht];have hn:cv c=true:=by simp [cv,hc]
   have hd:(bytes ((c::r).takeWhile cv)).data.toList=c::r.takeWhile cv:=by rw [q8 hn];simp [bytes]
   unfold br;rw [hd];have hsz:(bytes ((c::r).takeWhile cv)).size=((c::r).takeWhile cv).length:=ri;have hres:ee (bytes ((c::r).takeWhile cv))=false:=by
    cases hr:ee (bytes ((c::r).takeWhile cv)) with
    |false=>rfl
    |true=>rw [if_pos hr] at h1;omega
   have hall:(r.takeWhile cv).all cv=true:=d3.2 λx hx=>by
    have:=Ck (p:=cv) (l:=r);exact d3.1 this x hx
   simp only [hc,hall,hres,hsz,decide_eq_true (show ((c::r).takeWhile cv).length <= 16 by omega),Bool.and_self,Bool.not_false]
 |false=>
  cases hd:dJ c with
  |true=>
   cases hn:e1 0 ((c::r).takeWhile dJ) with
   |none=>rw [u' hc hd hn] at h;cases h
   |some n=>rw [tD hc hd hn] at h;injection h with h1;omega
  |false=>
   rw [rk hc hd] at h;split at h
   ·cases h
   injection h with h1;omega
def J6:∀(m:Nat)(s:List UInt8)(k n:Nat),s.length-k <= m -> k <= s.length -> ∀L,gN s k n=.ok L -> ∀t,t∈L -> t.kind=1 -> br t.text=true
 |m,s,k,n,hm,hk,L,h,t,ht,h1=>by
  by_cases he:s.length <= cR s k
  ·rw [wG he] at h;cases h;simp at ht;subst ht;cases h1
  have hlt:cR s k<s.length:=Y;cases hx:d1 (s.drop (cR s k)) with
  |err e=>rw [yC hlt hx] at h;cases h
  |tok kind len num=>
   by_cases h4:n=4000
   ·subst h4;rw [yx hlt hx] at h;cases h
   rw [wl hk hlt hx h4] at h;have hg:=p9 s k hk;have hd:s.drop (cR s k)≠[]:=G0;have hl:=xL hd hx;rw [jk] at hl;obtain ⟨c,r,hcr⟩:=uJ hd;rw [hcr] at hx h;cases m with
   |zero=>omega
   |succ m=>
    cases hq:gN s (cR s k+len) (n+1) with
    |err p e=>rw [hq] at h;cases h
    |ok L'=>
     rw [hq] at h;cases h;rcases mem_cons.1 ht with rfl|ht
     ·dsimp only at h1;subst h1;exact Na hx
     exact J6 m s (cR s k+len) (n+1) Y Y L' hq t ht h1
def R9{s:List UInt8}{L:List Tok}(h:fo s=.ok L):∀t,t∈L -> t.kind=1 -> br t.text=true:=by
 unfold fo at h;split at h
 ·cases h
 exact J6 s.length s 0 0 Y Y L h
def H6{p:UInt8 -> Bool}:∀{l:List UInt8},(∀x,x∈l -> p x=true) -> l.takeWhile p=l
 |[],_=>rfl
 |x::l,h=>by rw [q8 (h x aK),H6 λy hy=>h y (by simp [hy])]
def KH{c:UInt8}(h:fR c=true):isSp c=false /\ c≠47:=by
 unfold fR at h;rw [decide_eq_true_eq] at h;refine ⟨by unfold isSp;rw [decide_eq_false_iff_not];omega,?_⟩;rintro rfl
 revert h;decide
def MW{s:aG}(h:br s=true):fo s.data.toList=.ok [⟨1,s,0,0⟩,⟨5,⟨#[]⟩,0,s.size⟩]:=by
 unfold br at h;have hsz:s.size=s.data.toList.length:=J;have hb:bytes s.data.toList=s:=qN;rw [hsz] at h⊢;cases hd:s.data.toList with
 |nil=>rw [hd] at h;simp at h
 |cons c r=>
  rw [hd] at h hb;simp only [cz,decide_eq_true_eq,tr] at h;obtain ⟨⟨⟨h1,h2⟩,h3⟩,h4⟩:=h;have hall:(c::r).takeWhile cv=c::r:=H6 (by
   intro x hx;rcases mem_cons.1 hx with rfl|hx
   ·simp [cv,h1]
   exact d3.1 h2 x hx)
  have hk:cR (c::r) 0=0:=DZ _ 0 aK (KH h1).1 (λh=>(KH h1).2 h.1);unfold fo;rw [if_neg Y,gN,hk,if_neg aK,sS,sv h1,hall,if_neg Y];dsimp only;rw [if_neg Y,dif_pos ⟨aK,aK⟩,gN,DJ _ _ aK,if_pos (bW _),gq,hb,h4]
  rfl
def xC{s:aG}{L:List Tok}(h:fo s.data.toList=.ok L):(L.length=2 /\ ∃h0:0<L.length,L[0].kind=1 /\ L[0].text=s)↔br s=true:=by
 constructor
 ·rintro ⟨_,h0,h1,h2⟩;rw [←h2];exact R9 h _ (getElem_mem _) h1
 intro hn;rw [MW hn] at h;cases h;exact ⟨J,aK,J,J⟩
def JM{s:aG}{p e:Nat}(h:fo s.data.toList=.err p e):br s=false:=by
 cases hn:br s with
 |false=>rfl
 |true=>rw [MW hn] at h;cases h
end
section
open Go.RowKit
def I7{F:FuncId}{u0:aM}{us:List aM}{u:aM}(h1:u.oneCell'=true)(h:∀w,nH w -> Calls prog F (u0::us).toArray w λe w'=>e=.returned u /\ w=w')(s:aH):aR prog F (cC (au u0)::us.map λu=>au u) [] s λr s'=>r=au u /\ s'=s:=by
 intro vs w hm _ hl hr;cases vs with
 |nil=>cases hl
 |cons v vs=>
  have h0:cN (bi s.bl w) (cC (au u0)) v:=hr 0 aK aK;obtain rfl:=(Iz _ _ h0).val;obtain rfl:vs=us:=by
   refine lw sF λi h1 h2=>?_;have h3:=hr (i+1) mR q';simp only [List.getElem_cons_succ,nK] at h3;exact h3.val
  exact (h w (Dj h0)).mono λe w' ⟨h2,h3⟩=>ME
def yG(op:Int)(s:aH):aR prog 198 [cC (bB op)] [] s λr s'=>r=bB ((fQ op:Nat):Int) /\ s'=s:=
 I7 (us:=[]) rfl (λw he=>R8 op w he.signs) s
def CU{op:Int}(h:fQ op=7):op=1∨op=2:=by
 unfold fQ at h;(repeat' split at h)<;>omega
def NV{op:Int}(h:fQ op=6):op=3∨op=4:=by
 unfold fQ at h;(repeat' split at h)<;>omega
def xc(op:Int):fQ op <= 7:=by unfold fQ;(repeat' split)<;>omega
def Uv{op:Int}(h:fQ op=0):¬(1 <= op /\ op <= 17):=by
 unfold fQ at h;(repeat' split at h)<;>omega
def Cv{op:Int}(h:¬fQ op=0):1 <= op /\ op <= 17:=by
 unfold fQ at h;(repeat' split at h)<;>omega
def jd(e:aP):Bool:=
 if fQ e.op=0 then false else if fQ e.op=7 then decide (e.args.length=0) && kP e.op e.num e.name
 else decide (e.args.length=if fQ e.op=6 then 1 else 2) && decide (e.num=0) && decide (e.name=ax) && eu e.args
def kG(e:aP):dc e=jd e:=by
 rw [pF];unfold jd;by_cases h0:fQ e.op=0
 ·have h1:=Uv h0;have hs:cw e.op=6:=Bj;have hl:kP e.op e.num e.name=false:=by
   unfold kP;rw [decide_eq_false (show ¬(e.op=1 /\ 0 <= e.num) by omega),decide_eq_false (show ¬(e.op=2 /\ e.num=0) by omega)];rfl
  rw [if_pos h0,if_pos hs,hl];rfl
 have hop:=Cv h0;have h2:=xz e.op hop;rw [if_neg h0];by_cases h7:fQ e.op=7
 ·rw [if_pos h7,if_pos Y];unfold arity;rw [if_pos Y];cases ha:e.args with
  |nil=>simp [eu]
  |cons x l=>simp
 rw [if_neg h7,if_neg (by have:=xc e.op;omega)];unfold arity;rw [if_neg (by have:=xc e.op;omega)];by_cases h6:fQ e.op=6
 ·rw [if_pos h6,if_pos Y];cases decide (e.num=0)<;>cases decide (e.name=ax)<;>cases eu e.args<;>simp
 rw [if_neg h6,if_neg Y];cases decide (e.num=0)<;>cases decide (e.name=ax)<;>cases eu e.args<;>simp
def ON:∀{l:List aP} (h:l.length=1),eu l=dc (l[0]'(by omega))
 |[x],_=>by simp [eu]
def LU:∀{l:List aP} (h:l.length=2),eu l=(dc (l[0]'(by omega)) && dc (l[1]'(by omega)))
 |[x,y],_=>by simp [eu]
def kj{e:aP}(h:dc e=true):(1 <= e.op /\ e.op <= 17) /\ ∀k (hk:k<e.args.length),dc e.args[k]=true:=by
 refine ⟨Cv λh0=>?_,λk hk=>?_⟩
 ·rw [kG] at h;unfold jd at h;rw [if_pos h0] at h;cases h
 cases hs:dc e.args[k] with
 |true=>rfl
 |false=>
  rw [pF,vL _ _ _ hs,pQ] at h;cases h
def AM(e:aP)(k:Nat)(hk:k<e.args.length)(ho:1 <= e.op /\ e.op <= 17)(hok:1 <= e.args[k].op /\ e.args[k].op <= 17)(s:aH):aR prog 200 [cC (.agg (bb e)),aX k] [] s λt s'=>t=ap (gX e.op k e.args[k].op) /\ s'=s:=by
 obtain ⟨bx,rw⟩:=s;refine bN 29 func200 ?_;refine go 7 λb1=>?_;refine b_ [b1] (aY [0,1,2] 9 (go 4 ?_));refine ab 3 J (bS bR bb e.args fw ei k J J J J Y V runUnderlying85 sizeOf87) (aY [4,5,7,8] 4 (go 5 ?_));refine an 6 J J (nd 0 [] J J V call198 J J (yG e.args[k].op _) dL dL (λ_=>dL) ?_);rintro _ _ ⟨rfl,rfl⟩;refine an 9 J J (nd 0 [] J J V call198 J J (yG e.op _) dL dL (λ_=>dL) ?_);rintro _ _ ⟨rfl,rfl⟩;refine aY [10,11] 0 (go 3 ?_);refine bG (go 3 ?_);have hs1:=xz e.op ho;have hs2:=xz e.args[k].op hok;refine go 2 ?_;by_cases h3:((fQ e.args[k].op:Nat):Int)<((fQ e.op:Nat):Int);focus
  refine aC true J (ck h3) (go 13 ?_)
 rotate_left;focus
  refine aC false J (cg h3) (go 3 ?_);by_cases h4:((fQ e.args[k].op:Nat):Int)=((fQ e.op:Nat):Int);focus
   refine aC true J (bg h4) (go 2 ?_);by_cases h5:((k:Nat):Int)=1;focus
    refine aC true J (bg h5) (go 6 ?_)
   rotate_left;refine aC false J (bZ h5) (go 6 ?_)
  rotate_left 2;refine aC false J (bZ h4) (go 9 ?_)
 all_goals
  exact aw (s':=⟨bx,rw⟩) J cM ⟨bU IK,J⟩
def Vm(x:aG)(hx:x.size <= 4611686018427387904)(s:aH):aR prog 199 [cC (cB x)] [] s λt s'=>t=ap (br x) /\ s'=s:=by
 obtain ⟨bx,rw⟩:=s;refine bN 35 func199 ?_;refine go 8 ?_;refine aW J (za J J V J underlying9 underlying58 underlying5 JZ (N:=x.data.toList.length) J (cs:=cT x.data.toList) J ?_);refine aW J (Cy 0 [] J J V call94 J J (λm=>B3 x.data.toList m _) dL dL (λ_=>dL) ?_);rintro _ _ ⟨(⟨tl1,hlx1,rfl,htl1⟩|⟨p1,aa,hlx1,rfl,he1⟩),rfl⟩
 ·refine go 12 ?_;refine aC true J ge (go 3 ?_);by_cases h2:((tl1.length:Nat):Int)=2
  ·refine aC true J (bg h2) (go 3 ?_);refine aF J (bS dO dO tl1 kB (λ_=>J) 0 J J J J Y V runUnderlying139 sizeOf154) (go 2 ?_);by_cases h3:((tl1[0].kind:Nat):Int)=1
   ·refine aC true J (bg h3) (go 3 ?_);refine aF J (bS dO dO tl1 kB (λ_=>J) 0 J J J J Y V runUnderlying139 sizeOf154) (go 3 ?_);by_cases h4:tl1[0].text=x
    ·refine aF J (eo true J J J (nA h4)) (go 5 ?_);exact aw (s':=⟨bx,rw⟩) J dm ⟨bU ((xC hlx1).1 ⟨Y,Y,Y,h4⟩),J⟩
    refine aF J (eo false J J J (m9 h4)) (go 5 ?_);exact aw (s':=⟨bx,rw⟩) J dm ⟨bU (jg.2 λhh=>LW),J⟩
   refine aC false J (bZ h3) (go 13 ?_);exact aw (s':=⟨bx,rw⟩) J dm ⟨bU (jg.2 λhh=>Jt),J⟩
  refine aC false J (bZ h2) (go 20 ?_);exact aw (s':=⟨bx,rw⟩) J dm ⟨bU (jg.2 λhh=>IJ),J⟩
 refine go 12 ?_;refine aC false J (bZ Y) (go 24 ?_);exact aw (s':=⟨bx,rw⟩) J dm ⟨bU (JM hlx1),J⟩
def Sn(e:aP)(hx:e.name.size <= 4611686018427387904)(ih:∀k (h:k<e.args.length) (s:aH),aR prog 183 [cC (.agg (bb e.args[k]))] [] s λr s'=>r=ap (dc e.args[k]) /\ s'=s)(s:aH):aR prog 183 [cC (.agg (bb e))] [] s λt s'=>t=ap (dc e) /\ s'=s:=by
 obtain ⟨bx,rw⟩:=s;refine bN 93 func183 ?_;refine go 11 λb1=>?_;refine jR 0 J call198 J (yG e.op _) (go 5 ?_);by_cases h1:((fQ e.op:Nat):Int)=0
 ·have h7:=CU (op:=e.op);have hle:=xc e.op;refine aC true J (bg h1) (go 12 ?_);exact aw (s':=⟨bx,rw⟩) J cM ⟨bU (by rw [kG];unfold jd;rw [if_pos Y]),J⟩
 have h7:=CU (op:=e.op);have hle:=xc e.op;refine aC false J (bZ h1) (go 6 ?_);by_cases h4:((fQ e.op:Nat):Int)=7
 ·refine aC true J (bg h4) (go 10 ?_);by_cases h6:(0:Int)<((e.args.length:Nat):Int)
  ·refine aC true J (ek h6) (go 12 ?_);exact aw (s':=⟨bx,rw⟩) J cM ⟨bU (by rw [kG];unfold jd;rw [if_neg Y,if_pos Y];rw [decide_eq_false Y];rfl),J⟩
  refine aC false J (em h6) (go 9 ?_);by_cases h9:e.op=1
  ·refine aC true J (bg h9) (go 3 ?_);by_cases h10:(0:Int) <= e.num
   ·refine aC true J (mH h10) (go 4 ?_);by_cases h11:e.name=ax
    ·refine aF J (eo true J J J (nA h11)) (go 22 ?_);exact aw (s':=⟨bx,rw⟩) J cM ⟨bU (by rw [kG];unfold jd;rw [if_neg Y,if_pos Y];rw [decide_eq_true (show e.args.length=0 by omega)];unfold kP;rw [decide_eq_true (show e.op=1 /\ 0 <= e.num by omega),decide_eq_true h11,decide_eq_false (show ¬(e.op=2 /\ e.num=0) by omega)];rfl),J⟩
    refine aF J (eo false J J J (m9 h11)) (go 4 ?_);refine aC false J (bZ Y) (go 17 ?_);exact aw (s':=⟨bx,rw⟩) J cM ⟨bU (by rw [kG];unfold jd;rw [if_neg Y,if_pos Y];rw [decide_eq_true (show e.args.length=0 by omega)];unfold kP;rw [decide_eq_true (show e.op=1 /\ 0 <= e.num by omega),decide_eq_false h11,decide_eq_false (show ¬(e.op=2 /\ e.num=0) by omega)];rfl),J⟩
   refine aC false J (nP h10) (go 9 ?_);refine aC false J (bZ Y) (go 17 ?_);exact aw (s':=⟨bx,rw⟩) J cM ⟨bU (by rw [kG];unfold jd;rw [if_neg Y,if_pos Y];rw [decide_eq_true (show e.args.length=0 by omega)];unfold kP;rw [decide_eq_false (show ¬(e.op=1 /\ 0 <= e.num) by omega),decide_eq_false (show ¬(e.op=2 /\ e.num=0) by omega)];rfl),J⟩
  refine aC false J (bZ h9) (go 13 ?_);by_cases h12:e.op=2;focus
   refine aC true J (bg h12) (go 3 ?_);by_cases h13:e.num=0
   ·refine aC true J (bg h13) (go 4 ?_);rcases bq (br e.name) with h14|h14;rotate_left;all_goals
     refine dl 0 J call199 J (Vm e.name (by first|assumption|omega) _) h14 (go 8 ?_);exact aw (s':=⟨bx,rw⟩) J cM ⟨bU (by rw [kG];unfold jd;rw [if_neg Y,if_pos Y];rw [decide_eq_true (show e.args.length=0 by omega)];unfold kP;rw [decide_eq_false (show ¬(e.op=1 /\ 0 <= e.num) by omega)];rw [decide_eq_true (show e.op=2 /\ e.num=0 by omega),h14];rfl),J⟩
   refine aC false J (bZ h13) (go 13 ?_)
  rotate_left;refine aC false J (bZ h12) (go 17 ?_);all_goals
   exact aw (s':=⟨bx,rw⟩) J cM ⟨bU (by rw [kG];unfold jd;rw [if_neg Y,if_pos Y];rw [decide_eq_true (show e.args.length=0 by omega)];unfold kP;rw [decide_eq_false (show ¬(e.op=1 /\ 0 <= e.num) by omega)];rw [decide_eq_false (show ¬(e.op=2 /\ e.num=0) by omega)];rfl),J⟩
 refine aC false J (bZ h4) (go 6 ?_);by_cases h16:((fQ e.op:Nat):Int)=6
 ·refine aC true J (bg h16) (go 9 ?_);by_cases h18:((e.args.length:Nat):Int)=1
  ·refine aC true J (bg h18) (go 3 ?_);by_cases h19:e.num=0
   ·refine aC true J (bg h19) (go 4 ?_);by_cases h20:e.name=ax
    ·refine aF J (eo true J J J (nA h20)) (go 4 ?_);refine aF J (bS bR bb e.args fw ei 0 J J J J Y V runUnderlying85 sizeOf87) (go 1 ?_);rcases bq (dc e.args[0]) with h21|h21;rotate_left;all_goals
      refine dl 0 J call183 J (ih 0 Y _) h21 (go 7 ?_);exact aw (s':=⟨bx,rw⟩) J cM ⟨bU (by rw [kG];unfold jd;rw [if_neg Y,if_neg Y,if_pos Y];rw [decide_eq_true Y,decide_eq_true (show e.num=0 by omega),decide_eq_true h20,ON Y,h21];rfl),J⟩
    refine aF J (eo false J J J (m9 h20)) (go 14 ?_);exact aw (s':=⟨bx,rw⟩) J cM ⟨bU (by rw [kG];unfold jd;rw [if_neg Y,if_neg Y,if_pos Y];rw [decide_eq_true Y,decide_eq_true (show e.num=0 by omega),decide_eq_false h20];rfl),J⟩
   refine aC false J (bZ h19) (go 19 ?_);exact aw (s':=⟨bx,rw⟩) J cM ⟨bU (by rw [kG];unfold jd;rw [if_neg Y,if_neg Y,if_pos Y];rw [decide_eq_true Y,decide_eq_false (show ¬e.num=0 by omega)];rfl),J⟩
  refine aC false J (bZ h18) (go 23 ?_);exact aw (s':=⟨bx,rw⟩) J cM ⟨bU (by rw [kG];unfold jd;rw [if_neg Y,if_neg Y,if_pos Y];rw [decide_eq_false Y];rfl),J⟩
 refine aC false J (bZ h16) (go 12 ?_);by_cases h23:((e.args.length:Nat):Int)=2
 ·refine aC true J (bg h23) (go 3 ?_);by_cases h24:e.num=0
  ·refine aC true J (bg h24) (go 4 ?_);by_cases h25:e.name=ax
   ·refine aF J (eo true J J J (nA h25)) (go 4 ?_);refine aF J (bS bR bb e.args fw ei 0 J J J J Y V runUnderlying85 sizeOf87) (go 1 ?_);rcases bq (dc e.args[0]) with h26|h26
    ·refine dl 0 J call183 J (ih 0 Y _) h26 (go 4 ?_);refine aF J (bS bR bb e.args fw ei 1 J J J J Y V runUnderlying85 sizeOf87) (go 1 ?_);rcases bq (dc e.args[1]) with h27|h27;rotate_left;all_goals
      refine dl 0 J call183 J (ih 1 Y _) h27 (go 5 ?_);exact aw (s':=⟨bx,rw⟩) J cM ⟨bU (by rw [kG];unfold jd;rw [if_neg Y,if_neg Y,if_neg Y];rw [decide_eq_true Y,decide_eq_true (show e.num=0 by omega),decide_eq_true h25,LU Y,h26,h27];rfl),J⟩
    refine dl 0 J call183 J (ih 0 Y _) h26 (go 12 ?_);exact aw (s':=⟨bx,rw⟩) J cM ⟨bU (by rw [kG];unfold jd;rw [if_neg Y,if_neg Y,if_neg Y];rw [decide_eq_true Y,decide_eq_true (show e.num=0 by omega),decide_eq_true h25,LU Y,h26];rfl),J⟩
   refine aF J (eo false J J J (m9 h25)) (go 19 ?_);exact aw (s':=⟨bx,rw⟩) J cM ⟨bU (by rw [kG];unfold jd;rw [if_neg Y,if_neg Y,if_neg Y];rw [decide_eq_true Y,decide_eq_true (show e.num=0 by omega),decide_eq_false h25];rfl),J⟩
  refine aC false J (bZ h24) (go 24 ?_);exact aw (s':=⟨bx,rw⟩) J cM ⟨bU (by rw [kG];unfold jd;rw [if_neg Y,if_neg Y,if_neg Y];rw [decide_eq_true Y,decide_eq_false (show ¬e.num=0 by omega)];rfl),J⟩
 refine aC false J (bZ h23) (go 28 ?_);exact aw (s':=⟨bx,rw⟩) J cM ⟨bU (by rw [kG];unfold jd;rw [if_neg Y,if_neg Y,if_neg Y];rw [decide_eq_false Y];rfl),J⟩
def Dv{e:aP}(h:e.sane):e.name.size <= 4611686018427387904 /\ iX e.args:=by cases e;rw [aP.sane] at h;first|exact ⟨h.2.2.1,h.2.2.2⟩|exact ⟨h.2.1,h.2.2⟩|exact ⟨h.1,h.2⟩
def BS:∀(N:Nat)(e:aP),e.nodes <= N -> e.sane -> ∀s:aH,aR prog 183 [cC (.agg (bb e))] [] s λr s'=>r=ap (dc e) /\ s'=s
 |0,e,h,_,_=>pd
 |N+1,e,h,hs,s=>Sn e (Dv hs).1 (λk hk s=>BS N e.args[k] pH (oB _ (Dv hs).2 _ (getElem_mem _)) s) s
def NU(e:aP)(hN:e.nodes <= 1000000000)(hsh:dc e=true)(ih:∀k (h:k<e.args.length) (s:aH),aR prog 184 [cC (.agg (bb e.args[k]))] [] s λr s'=>r=bB ((gS e.args[k]:Nat):Int) /\ s'=s)(s:aH):aR prog 184 [cC (.agg (bb e))] [] s λt s'=>t=bB ((gS e:Nat):Int) /\ s'=s:=by
 obtain ⟨bx,rw⟩:=s;have hlen:=qc e;refine bN 34 func184 ?_;refine go 21 λb1=>?_;refine lc (e.args.length) 9 (λk=>[(3,bB ((iS e.op 0 (e.args.take (k)):Nat):Int)),(0,cC (.agg (bb e))),(1,aE b1),(8,aX e.args.length)]) (ao J) λk hk=>?_;show bo prog _ ⟨34,_,_,(9,aX k)::[(3,bB ((iS e.op 0 (e.args.take (k)):Nat):Int)),(0,cC (.agg (bb e))),(1,aE b1),(8,aX e.args.length)]⟩ _;refine go 2 ?_;by_cases h1:((k:Nat):Int)<((e.args.length:Nat):Int)
 ·refine aC true J (ck h1) (go 16 ?_);have hle:=zR _ e.args[k] (bW _);have hnk:=BW e k Y;have hmx:=Al e.op e.args k Y;refine go 3 ?_;refine aF J (bS bR bb e.args fw ei k J J J J Y V runUnderlying85 sizeOf87) (go 1 ?_);refine jR 0 J call184 J (ih k Y _) (go 8 ?_);rcases bq (gX e.op k e.args[k].op) with h3|h3;focus
   refine dl 0 J call200 J (AM e k Y (kj hsh).1 (kj ((kj hsh).2 k Y)).1 _) h3 (go 5 ?_);refine bJ J (go 6 ?_)
  rotate_left;refine dl 0 J call200 J (AM e k Y (kj hsh).1 (kj ((kj hsh).2 k Y)).1 _) h3 (go 8 ?_);all_goals
   refine aF J (KU _ J J J J) (go 5 ?_);refine bJ J (go 2 ?_);exact ⟨Y,(av J (bv Y) (av J (bv (by rw [Al _ _ _ Y,h3];simp only [if_true,lK,if_false];omega)) (ao J)))⟩
 refine aC false J (cg h1) (go 12 ?_);have hle0:=zR _ e (bW _);have hq:=xl e;obtain rfl:k=e.args.length:=Y;rw [take_of_length_le (bW _)];have hsE:=xz e.op (kj hsh).1;refine go 2 ?_;refine jR 0 J call198 J (yG e.op _) ?_;by_cases h7:((fQ e.op:Nat):Int)=6
 ·refine aC true J (bg h7) (go 5 ?_);refine bJ J (go 10 ?_);exact aw (s':=⟨bx,rw⟩) J cM ⟨fI KE,J⟩
 refine aC false J (bZ h7) (go 12 ?_);exact aw (s':=⟨bx,rw⟩) J cM ⟨fI Jg,J⟩
def My:∀(N:Nat)(e:aP),e.nodes <= N -> N <= 1000000000 -> dc e=true -> ∀s:aH,aR prog 184 [cC (.agg (bb e))] [] s λr s'=>r=bB ((gS e:Nat):Int) /\ s'=s
 |0,e,h,_,_,_=>pd
 |N+1,e,h,hN,hs,s=>NU e Y hs (λk hk s=>My N e.args[k] pH Y ((kj hs).2 k hk) s) s
def vh(e:aP)(hN:e.nodes <= 1000000000)(hs:e.sane)(s:aH):aR prog 163 [cC (.agg (bb e))] [] s λt s'=>t=ap (eV e) /\ s'=s:=by
 obtain ⟨bx,rw⟩:=s;refine bN 10 func163 ?_;refine go 9 λb1=>?_;rcases bq (dc e) with h1|h1
 ·refine dl 0 J call183 J (BS _ e (bW _) hs _) h1 (go 2 ?_);refine jR 0 J call184 J (My _ e (bW _) hN h1 _) ?_;by_cases h2:((gS e:Nat):Int) <= 24
  ·refine aC true J (vV h2) (go 5 ?_);exact aw (s':=⟨bx,rw⟩) J cM ⟨bU (by unfold eV;rw [h1,decide_eq_true Y];rfl),J⟩
  refine aC false J (xJ h2) (go 5 ?_);exact aw (s':=⟨bx,rw⟩) J cM ⟨bU (by unfold eV;rw [h1,decide_eq_false Y];rfl),J⟩
 refine dl 0 J call183 J (BS _ e (bW _) hs _) h1 (go 9 ?_);exact aw (s':=⟨bx,rw⟩) J cM ⟨bU (by unfold eV;rw [h1];rfl),J⟩
section
variable {P:Program}{U T:List Nat}{o:Oper}{n d:Nat}{bx:List aT}{rw:List aS}{ts:List (Nat×AT)}{K:AS -> Prop}{st:AS}{t:AT}
theorem Rv{g:Nat}{E:bA}{cs ds:List aN}{N C:Nat}{B:List aT}(i:Nat)(hi:look st.ts i=some (au (.slice (some ⟨g,0,none⟩) N C)))(hrow:st.s.boxes=⟨g,E,cs++ds⟩::B)(hC:N <= C)(hC2:C <= 9223372036854775807):Sub st {st with s:=⟨B,st.s.rows⟩,ts:=(i,.c (.sl N cs))::st.ts}:=λa w hs=>by
 have hsub:jU st.s ⟨B,st.s.rows⟩:=aj (by rw [hrow];exact vU _ _) (tS _);obtain ⟨h1,h2,h3⟩:=qO hsub a w hs;refine ⟨⟨h1.df,h1.sz,λj x hx=>?_,h1.mem⟩,h2,h3⟩;simp only [look] at hx;split at hx
 ·rename_i he;subst he;cases hx;obtain ⟨u,aa,e2⟩:=hs.tm i _ hi;have:=e2.val;subst this;obtain ⟨us,⟨fz,-,hh⟩,hrep⟩:=hs.mem.box ⟨g,E,cs++ds⟩ p7;have hlen:us.length=cs.length+ds.length:=by have:=hrep.len;simpa using this
  have hr2:=hrep.take cs.length;rw [List.take_left] at hr2;have hnm:g∉(⟨B,st.s.rows⟩:aH).bl:=by
   have hnd:=hs.mem.nodup;have hbl:st.s.bl=g::(⟨B,st.s.rows⟩:aH).bl:=DC;rw [hbl] at hnd;exact (kE.1 hnd).1
  refine ⟨_,aa,.c _ _ (.sl _ _ (us.take cs.length) _ ⟨_,_,J,hC,.inr ⟨g,0,J,λj x hj=>?_⟩⟩ hr2.len (λk h h'=>(hr2.at_ k h h').mono (up_sub h2)) (λ_ _ _ h=>by cases h;exact hC2))⟩;rw [np _ _ _ hnm];unfold World.cell?;simp only [hh];rw [m0] at hj;split at hj
  ·simpa using hj
  cases hj
 exact h1.tm j x hx
theorem P6{ops:Array Oper}{l:List Oper}{Q:Exit -> AS -> Prop}{g:Nat}{E:bA}{cs ds:List aN}{N C:Nat}(i:Nat)(hi:look ts i=some (au (.slice (some ⟨g,0,none⟩) N C)))(hC:N <= C)(hC2:C <= 9223372036854775807)(h:cL P ops l ⟨n,T,⟨bx,rw⟩,(i,.c (.sl N cs))::ts⟩ Q):cL P ops l ⟨n,T,⟨⟨g,E,cs++ds⟩::bx,rw⟩,ts⟩ Q:=
 rh (Rv (st:=⟨n,T,⟨⟨g,E,cs++ds⟩::bx,rw⟩,ts⟩) i hi rfl hC hC2) h
theorem N8(w:aV){a:Act}{K:Act -> aV -> Prop}{Q:Exit -> Act -> aV -> Prop}(s x:bc)(t u:bA)
  (ho:o.op=.call {callee:=.builtin .append,args:=#[s,x],argTypes:=#[t,u]})
  (e:bA) (i:TypeInfo) (ht:P.underlying t=some (.slice e)) (hu:P.underlying u=some .string) (hi:P.info? e=some i) (hz:i.zero=some (.int .u8 0)) (hsize:i.size=1) (hby:i.bytes=1)
  (v:aM) (n:Nat) (xs:List aM) (hs:a.eval s=v) (hown:w.ownsRow 0 e 1 v n xs) (z:aG) (hx:a.eval x=.string z) (h63:n+z.size <= maxLen) (hbytes:n+z.size <= 140737488355328)
  (h:∀v' w',w'.ownsRow 0 e 1 v' (n+z.size) (xs++Lib.strCells z) -> w.grownBy w' v.ownBlock -> (∀g,v'.ownBlock=some g -> v.ownBlock=some g∨w.heap.size <= g) -> K (a.put o.dst v') w'):o.wp P a w K Q:=by
 obtain ⟨v',w',hr,h2,h3,h4⟩:=Lib.run_append_own_string (P:=P) w 0 t u o.type e i ht hu hi hz hsize hby v n xs hown z h63 hbytes (d2 _);have hfr:∀g,v'.ownBlock=some g -> v.ownBlock=some g∨w.heap.size <= g:=by
  rcases hown.2 with ⟨hv0,hn0⟩|⟨g,cap,cur,hv0,hbg,hg,hnc,hcm,hcs,htake⟩
  ·obtain ⟨v2,w2,hr2,h5,_,_⟩:=Lib.run_append_own_string (P:=P) w w.heap.size t u o.type e i ht hu hi hz hsize hby v n xs ⟨hown.1,.inl ⟨hv0,hn0⟩⟩ z h63 hbytes (bW _);rw [hr] at hr2;injection hr2 with aa e2
   subst aa;intro k hk;exact Or.inr (h5.lt k hk).1
  subst hv0;by_cases hroom:n+z.size <= cap
  ·have hr2:=Lib.run_append_room_string (P:=P) w t u o.type e i ht hu hi hsize g n cap cur hg z hroom Y;rw [hr] at hr2;injection hr2 with aa e2
   subst aa;intro k hk;exact .inl hk
  have holds:∀j u,xs[j]?=some u -> w.cell? ((⟨g,0,none⟩:Addr).add j)=some u:=hown.cells (g:=g) J;have hr2:=Lib.run_append_grow_string (P:=P) w t u o.type e i (.int .u8 0) ht hu hi hz ⟨g,0,none⟩ n cap xs (by rw [hsize];exact hown.1) holds z Y (by simp only [maxLen] at h63;omega) (by rw [hby];exact growslice_fits Y Y);rw [hr] at hr2;injection hr2 with aa e2
  subst aa;intro k hk;simp [Value.ownBlock] at hk;exact .inr Y
 unfold Oper.wp execOp;simp only [ho,resolve,invoke,builtin,Sem.run_bind,Sem.run_pure,Result.andThen_ok,km,cd,fg,hs,hx,hr];exact h v' w' h2 h3 hfr
theorem wu{E E2 e:bA}{x y:bc}{k:Nat}{v:aM}{cs ds r:List aN}(A:List aS)(i:TypeInfo){B:List aS}{z:aG}(ho:o.op=.call {callee:=.builtin .append,args:=#[x,y],argTypes:=#[E,E2]})(hd:o.dst=some d)(hn:d<n)
  (hx:ay ⟨n,T,⟨bx,A++⟨v,e,1,k,cs⟩::B⟩,ts⟩ x=some (au v)) (hy:ay ⟨n,T,⟨bx,A++⟨v,e,1,k,cs⟩::B⟩,ts⟩ y=some (cB z)) (hu:P.underlying E=some (.slice e)) (hu2:P.underlying E2=some .string) (hi:P.info? e=some i) (hz:i.zero=some (.int .u8 0)) (hsz:i.size=1) (hby:i.bytes=1)
  (hlen:k+z.size <= maxLen) (hbytes:k+z.size <= 140737488355328) {N:Nat} (hN:k+z.size=N) (hds:cT z.data.toList=ds) (hU:(⟨bx,A++⟨v,e,1,k,cs⟩::B⟩:aH).bl.Nodup -> ∀b,b∈aO v -> b∈U) (hT:∀b,b∈aO v -> b∈T) (hr:cs++ds=r)
  (h:∀v',K ⟨n,aO v'++T,⟨bx,A++⟨v',e,1,N,r⟩::B⟩,(d,au v')::ts⟩):dN P U o ⟨n,T,⟨bx,A++⟨v,e,1,k,cs⟩::B⟩,ts⟩ K:=by
 subst hr;subst hN;subst hds;refine BK A hd hn J V (λa w hs us hown=>⟨Lib.strCells z,?_,λKK QQ hK=>N8 w x y E E2 ho e i hu hu2 hi hz hsz hby v k us (hs.val hx) hown z (hs.val hy) hlen hbytes hK⟩) hU hT h;have hR:=mW (bi (⟨bx,A++⟨v,e,1,k,cs⟩::B⟩:aH).bl w) (Lib.strCells z) wX;have aa:(Lib.strCells z).map aN.val=cT z.data.toList:=by simp [Lib.strCells,cT]
 rw [aa] at hR;exact hR
end
end
section
open Go.RowKit Go.Sort
def wi:∀u:Nat,Lib.decDigits u=cp u:=λu=>by
 induction u using Nat.strongRecOn with
 |_ u ih=>
  rw [Lib.decDigits,cp];by_cases h:u<10
  ·rw [dif_pos h,if_pos h]
  rw [dif_neg h,if_neg h,ih (u/10) Y]
def T7(n:Int):Lib.itoa n=eM n:=by
 unfold Lib.itoa eM;rw [wi,wi];by_cases h:n<0
 ·rw [if_pos h,if_pos h]
 rw [if_neg h,if_neg h,show n.toNat=n.natAbs by omega]
def VP(w:aV)(k:Nat)(os:Array Obj):Below w.heap.size w (grow (w.drewN k) os):=
 ⟨rfl,rfl,rfl,by show w.heap.size <= (w.heap++os).size;rw [Array.size_append];omega,λi hi=>by show (w.heap++os)[i]?=_;rw [DL hi]⟩
section
variable {P:Program}{U T:List Nat}{o:Oper}{n d:Nat}{ts:List (Nat×AT)}{s:aH}{K:AS -> Prop}{st:AS}{p:World -> Prop}{t0 u:AT}{us:List AT}{bx:List aT}{rw:List aS}{ops:Array Oper}{l:List Oper}{Q:Exit -> AS -> Prop}
theorem Mg{E E':bA}{x:bc}{k k':IntKind}{m r:Int}(ho:o.op=.convert E E' x)(hx:ay st x=some (au (.int k m)))(hE:(P.underlying E).isSome=true)(hE':P.underlying E'=some (.int (P.intKind E')))(hk8:P.intKind E'=k')(hr:k'.wrap m=r):cf P U o st (au (.int k' r)):=by
 intro a w hs _;refine ⟨_,.c _ _ (.val _ J),λw' _=>?_⟩;have h1:=run_convert_int (P:=P) (w:=w') E E' k m hE hE';simp only [execOp,ho,Sem.run_bind,hs.val hx];rw [h1,hk8,hr];rfl
theorem Nr{m:Int}(h1:0 <= m)(h2:m <= 18446744073709551615):IntKind.u64.wrap m=m:=by
 have:IntKind.u64.wrap m=m%18446744073709551616:=by unfold IntKind.wrap;simp [IntKind.signed,IntKind.bits]
 rw [this];omega
theorem Ho{t e:bA}{x y':bc}{b h N:Nat}{k2:IntKind}{j:Int}(ho:o.op=.slice t x none (some y') none)(hx:ay st x=some (aE b))(hy':ay st y'=some (au (.int k2 j)))(hj:j=h)(h2:h <= N)(h0:0<N)
  (ht:∀w,(underlying t).run P w=.ok (.array N e) w) (hz:∀w,(sizeOf e).run P w=.ok 1 w):cf P U o st (au (.slice (some ⟨b,0,none⟩) h N)):=
 iF rfl λa w hs w'=>by
  subst hj;simp only [execOp,ho,hs.val hx,hs.val hy',Instr.sliceAt,nt,Option.map_none,Sem.run_bind,Sem.run_pure,Result.andThen_ok,ht,Instr.sureAddr,hz];simp [go_sem,Instr.sliceBounds,asIntOf];omega
theorem Ij{st:AS}{F:FuncId}{cap:Array bc}{vs:List aM}(ho:o.op=.makeFunc (.func F) #[] cap)(hc:cap.toList.map (ay st)=vs.map λv=>some (au v)):cf P U o st (au (.func (.func F) #[] vs.toArray)):=
 iF rfl λa w hs w'=>by
  have e:cap.map a.eval=vs.toArray:=by
   rw [←mu,vW];have:∀(l:List bc)(vs:List aM),l.map (ay st)=vs.map (λv=>some (au v)) -> l.map a.eval=vs:=by
    intro l;induction l with
    |nil=>intro vs h;cases vs with|nil=>rfl|cons=>cases h
    |cons x l ih=>
     intro vs h;cases vs with
     |nil=>cases h
     |cons v vs=>
      simp only [cd,qY] at h⊢;exact ⟨hs.val h.1,ih vs h.2⟩
   exact this _ _ hc
  simp only [execOp,ho,Instr.makeFunc,e];simp [go_sem]
theorem oO{F:FuncId}{x:bc}{cap:Array aM}{ars:Array bc}{tys:Array bA}{b c:Bool}(i0:Nat)(h0:(dn ops o ⟨n,T,s,ts⟩,o.op,ay ⟨n,T,s,ts⟩ x,o.dst,Nat.blt d n,look ts i0)=(some true,.call {callee:=.value x,args:=ars,argTypes:=tys},some (au (.func (.func F) #[] cap)),some d,true,some (.ride t0 p)))
  (hcf:∀args w,(callFunc F args).run P w=.ok (.enter F args) w) (has:ars.toList.map (ay ⟨n,T,s,ts⟩)=[u].map some) (hc:aR P F (.ride u p::cap.toList.map fy) [] s λt s'=>t=ap b /\ s'=s) (hb:b=c) (h:cL P ops l ⟨n,T,s,(d,ap c)::ts⟩ Q):cL P ops (o::l) ⟨n,T,s,ts⟩ Q:=by
 simp only [iN] at h0;subst hb;exact aW h0.1 (T5 (us:=[]) i0 [] h0.2.1 h0.2.2.1 h0.2.2.2.1 (ez h0.2.2.2.2.1) hcf h0.2.2.2.2.2 has hc pK pK (λ_=>pK) λr s' ⟨h1,h2⟩=>Cw)
theorem O6(i j:Nat){c:Code}{t1:AT}(hi:look ts i=some (.ride t0 p))(hj:look ts j=some t1)(h:bo P c ⟨n,T,s,(j,.ride t1 p)::ts⟩ Q):bo P c ⟨n,T,s,ts⟩ Q:=by
 refine rA (st':=⟨n,T,s,(j,.ride t1 p)::ts⟩) (λa w hs=>?_) h;refine ⟨⟨hs.df,hs.sz,λk x hx=>?_,hs.mem⟩,λ_ h=>h,λ_ h=>h⟩;simp only [look] at hx;split at hx
 ·rename_i he;subst he;cases hx;obtain ⟨v,aa,e2⟩:=hs.tm j t1 hj;obtain ⟨v0,-,e3⟩:=hs.tm i _ hi;exact ⟨v,aa,uS e3 e2⟩
 exact hs.tm k x hx
theorem sy(E:bA)(z:Nat)(h:cL P ops l ⟨n,T,⟨bx,⟨.slice none 0 0,E,z,0,[]⟩::rw⟩,ts⟩ Q):cL P ops l ⟨n,T,⟨bx,rw⟩,ts⟩ Q:=rh (Gz (st:=⟨n,T,⟨bx,rw⟩,ts⟩) E z) h
theorem o9{F:FuncId}{ars:Array bc}{tys:Array bA}{v:aM}{E:bA}{z k k':Nat}{cs cs':List aN}(i0:Nat)(h0:(o.op,o.dst,Nat.blt d n,look ts i0)=(.call {callee:=.value (.func F),args:=ars,argTypes:=tys},some d,true,some (.ride t0 p)))
  (hcf:∀args w,(callFunc F args).run P w=.ok (.enter F args) w) (has:ars.toList.map (ay ⟨n,T,⟨bx,⟨v,E,z,k,cs⟩::rw⟩,ts⟩)=(u::us).map some)
  (hc:aR P F (.ride u p::us) (aO v) ⟨bx,⟨v,E,z,k,cs⟩::rw⟩ λt s'=>∃v',t=au v' /\ s'=⟨bx,⟨v',E,z,k',cs'⟩::rw⟩) (hT:∀b,b∈aO v -> b∈T) (hU:(⟨bx,⟨v,E,z,k,cs⟩::rw⟩:aH).bl.Nodup -> ∀b,b∈aO v -> b∈U)
  (h:∀v',K ⟨n,aO v'++T,⟨bx,⟨v',E,z,k',cs'⟩::rw⟩,(d,au v')::ts⟩):dN P U o ⟨n,T,⟨bx,⟨v,E,z,k,cs⟩::rw⟩,ts⟩ K:=by
 simp only [iN] at h0;obtain ⟨ho,hd,hn,hl⟩:=h0;intro a w hs KK QQ' hK;obtain ⟨h1,h2⟩:=nx hs has;obtain ⟨v0,-,hv0⟩:=hs.tm i0 _ hl;have hTb:∀b,b∈aO v -> b∈(⟨bx,⟨v,E,z,k,cs⟩::rw⟩:aH).bl:=λb hb=>Ej;unfold Oper.wp;rw [show (execOp a.eval o).run P w=.ok (.enter F (ars.toList.map a.eval).toArray) w from by
  simp only [execOp,ho,resolve,Deferred.ofValue,Act.eval,Sem.run_bind,Sem.run_pure,Result.andThen_ok,invoke];rw [hcf]
  congr 2
  rw [←mu];simp,Oper.upon_enter]
 refine (hc _ w hs.mem hTb h1 (λi hi hi'=>?_)).mono ?_
 ·match i,hi with
  |0,hi=>exact uS hv0 (h2 0 aK hi')
  |i+1,hi=>exact h2 (i+1) oJ hi'
 ·rintro en w' ⟨r,vr,s',rfl,⟨v',rfl,rfl⟩,hr,hm,hk,hb⟩;dsimp only;rw [hd];have s1:=hs.step (aO v'++T) (hk.mono hTb) hm hb;refine hK _ _ _ (h v') (s1.put (ez hn) hr) ⟨hk.mono hTb,hk.mono hT,hb,λb hb2=>?_⟩ (hk.mono (hU hs.mem.nodup));rcases mem_append.1 hb2 with hb2|hb2
  ·have aa:b∈(⟨bx,⟨v',E,z,k',cs'⟩::rw⟩:aH).bl:=xr;exact (hb b aa).imp (λh9=>hT b (BG (bx:=bx) (bx':=bx) J hm.nodup hb2 h9)) id
  exact .inl hb2
theorem Ax{F:FuncId}{x:bc}{cap:Array aM}{ars:Array bc}{tys:Array bA}{v:aM}{E:bA}{z k k':Nat}{cs cs':List aN}(i0:Nat)(h0:(o.op,ay ⟨n,T,⟨bx,⟨v,E,z,k,cs⟩::rw⟩,ts⟩ x,o.dst,Nat.blt d n,look ts i0)=(.call {callee:=.value x,args:=ars,argTypes:=tys},some (au (.func (.func F) #[] cap)),some d,true,some (.ride t0 p)))
  (hcf:∀args w,(callFunc F args).run P w=.ok (.enter F args) w) (has:ars.toList.map (ay ⟨n,T,⟨bx,⟨v,E,z,k,cs⟩::rw⟩,ts⟩)=(u::us).map some)
  (hc:aR P F (.ride u p::(us++cap.toList.map fy)) (aO v) ⟨bx,⟨v,E,z,k,cs⟩::rw⟩ λt s'=>∃v',t=au v' /\ s'=⟨bx,⟨v',E,z,k',cs'⟩::rw⟩) (hT:∀b,b∈aO v -> b∈T) (hU:(⟨bx,⟨v,E,z,k,cs⟩::rw⟩:aH).bl.Nodup -> ∀b,b∈aO v -> b∈U)
  (h:∀v',K ⟨n,aO v'++T,⟨bx,⟨v',E,z,k',cs'⟩::rw⟩,(d,au v')::ts⟩):dN P U o ⟨n,T,⟨bx,⟨v,E,z,k,cs⟩::rw⟩,ts⟩ K:=by
 simp only [iN] at h0;obtain ⟨ho,hx,hd,hn,hl⟩:=h0;intro a w hs KK QQ' hK;obtain ⟨h1,h2⟩:=nx hs has;obtain ⟨v0,-,hv0⟩:=hs.tm i0 _ hl;obtain ⟨ep,fS⟩:=yN (bi (⟨bx,⟨v,E,z,k,cs⟩::rw⟩:aH).bl w) cap.toList;have hTb:∀b,b∈aO v -> b∈(⟨bx,⟨v,E,z,k,cs⟩::rw⟩:aH).bl:=λb hb=>Ej;have h3:(ars.toList.map a.eval).length=(AT.ride u p::us).length /\ ∀i (h:i<(AT.ride u p::us).length) (h':i<(ars.toList.map a.eval).length),cN (bi (⟨bx,⟨v,E,z,k,cs⟩::rw⟩:aH).bl w) (AT.ride u p::us)[i] (ars.toList.map a.eval)[i]:=by
  refine ⟨h1,λi hi hi'=>?_⟩
  match i,hi with
  |0,hi=>exact uS hv0 (h2 0 aK hi')
  |i+1,hi=>exact h2 (i+1) oJ hi'
 obtain ⟨g3,g4⟩:=Ak h3.1 h3.2 ep fS;unfold Oper.wp;rw [show (execOp a.eval o).run P w=.ok (.enter F (ars.toList.map a.eval++cap.toList).toArray) w from by
  simp only [execOp,ho,resolve,hs.val hx,Deferred.ofValue,Sem.run_bind,Sem.run_pure,Result.andThen_ok,invoke];rw [hcf]
  congr 2
  rw [←mu];simp,Oper.upon_enter]
 refine (hc _ w hs.mem hTb g3 g4).mono ?_;rintro en w' ⟨r,vr,s',rfl,⟨v',rfl,rfl⟩,hr,hm,hk,hb⟩;dsimp only;rw [hd];have s1:=hs.step (aO v'++T) (hk.mono hTb) hm hb;refine hK _ _ _ (h v') (s1.put (ez hn) hr) ⟨hk.mono hTb,hk.mono hT,hb,λb hb2=>?_⟩ (hk.mono (hU hs.mem.nodup));rcases mem_append.1 hb2 with hb2|hb2
 ·have aa:b∈(⟨bx,⟨v',E,z,k',cs'⟩::rw⟩:aH).bl:=xr;exact (hb b aa).imp (λh9=>hT b (BG (bx:=bx) (bx':=bx) J hm.nodup hb2 h9)) id
 exact .inl hb2
end
def NZ(w:aV)(b:Nat)(cur:Array aM)(T:bA)(fz:Nat×Nat)(f:Array aM -> Array aM)(h:w.heap[b]?=some (.cells cur T fz)):mapBlock w b f=w.setRow b (f cur):=by
 unfold mapBlock World.setRow
 congr 1
 apply yh
 intro k;simp only [yE];by_cases hk:b=k
 ·subst hk;rw [if_pos rfl,if_pos rfl,h];rfl
 rw [if_neg hk,if_neg hk]
def Mem.drewN{s:aH}{w:aV}(h:Mem s w):∀k,Mem s (w.drewN k)
 |0=>h
 |k+1=>(Mem.drewN h k).drew
def S4(b:Nat)(T:bA)(cs:List UInt8)(u N:Nat)(bx:List aT)(rw:List aS)(hu:u<18446744073709551616)(hn:Lib.nDigits u <= cs.length)(hc:cs.length <= 100):aR prog 191 [au (.slice (some ⟨b,0,none⟩) (Lib.nDigits u) N),au (.int .u64 ((u:Nat):Int))] [b] ⟨⟨b,T,cT cs⟩::bx,rw⟩ λt s'=>t=.tup [] /\ s'=⟨⟨b,T,cT (cp u)++cT (cs.drop (Lib.nDigits u))⟩::bx,rw⟩:=by
 rw [show cT (cp u)++cT (cs.drop (Lib.nDigits u))=cT (cp u++cs.drop (Lib.nDigits u)) by unfold cT;rw [ed]];intro vs w hm _ hl hr;obtain ⟨v1,v2,rfl⟩:∃v1 v2,vs=[v1,v2]:=by
  match vs,hl with
  |[x,y],_=>exact ⟨x,y,rfl⟩
 obtain rfl:v1=_:=(show cN _ (.c (.val (.slice (some ⟨b,0,none⟩) (Lib.nDigits u) N))) v1 from hr 0 aK aK).val;obtain rfl:v2=_:=(show cN _ (.c (.val (.int .u64 ((u:Nat):Int)))) v2 from hr 1 aK aK).val;obtain ⟨us,⟨fz,hfz,h1⟩,h2⟩:=hm.box ⟨b,T,cT cs⟩ aK;obtain rfl:us=dI cs:=wD (vs:=dI cs) (by rw [show (dI cs).map aN.val=cT cs by simp [dI,cT]];exact h2);have hlen:(dI cs).length=cs.length:=by simp [dI]
 have hbr:=setRow_heap;have hH:Holds (λ(b:UInt8)=>Value.int .u8 (b.toNat:Int)) w b 0 (cs.take (Lib.nDigits u)).toArray:=by
  intro j hj;have hj1:j<Lib.nDigits u:=by simpa [rT hn] using hj
  have hj2:j<cs.length:=Y;refine ⟨?_,?_⟩
  ·rw [getElem!_pos _ j hj];unfold World.cell?;simp only [h1];simp [dI,hj2]
  obtain ⟨lo,up⟩:=fz;simp only [World.frozen?,h1,FA,decide_eq_false_iff_not];rcases hfz with h|h
  ·cases h;exact .inr Y
  dsimp only at h;rw [hlen] at h;exact .inl Y
 have hsz:(cs.take (Lib.nDigits u)).toArray.size=Lib.nDigits u:=by simp [rT hn]
 have hcall:=Tryz.internal_strconv_formatBase10 b 0 N u (cs.take (Lib.nDigits u)).toArray w hH (by rw [hsz];exact Lib.lt_pow_nDigits u) hu (by rw [hsz];omega);rw [hsz] at hcall;refine hcall.mono ?_;rintro e w' ⟨rfl,k,v',dk,rfl,hinv⟩;have hdk:dk.toList=cp u:=by
  rw [←wi];have hs1:dk.size=Lib.nDigits u:=hinv.size;refine lw (by rw [Lib.decDigits_length,pU,hs1]) λj h3 h4=>?_;rw [Lib.row_is_numeral hinv j h4,getElem!_pos dk j tu];simp
 have hs1:dk.size=Lib.nDigits u:=hinv.size;have hput:putCells (λ(b:UInt8)=>Value.int .u8 (b.toNat:Int)) 0 dk (dI cs).toArray=(dI (cp u++cs.drop (Lib.nDigits u))).toArray:=by
  apply yh
  intro i;simp only [putCells,Array.getElem?_mapIdx,B4];unfold dI;rw [mD,mD];have hdl:(cp u).length=Lib.nDigits u:=by rw [←hdk];simpa using hs1
  by_cases hi:i<Lib.nDigits u
  ·rw [rQ (by rw [hdl];exact hi),jz (show i<cs.length by omega),jz (by rw [hdl];exact hi)];simp only [nt,d2,true_and,e0,xP];rw [if_pos Eg,getElem!_pos dk i Eg];have:dk[i]'(by rw [hs1];exact hi)=(cp u)[i]'(by rw [hdl];exact hi):=by simp only [←hdk];simp
   rw [this]
  rw [pc (by rw [hdl];omega),oi,hdl,show Lib.nDigits u+(i-Lib.nDigits u)=i by omega];cases hci:cs[i]? with
  |none=>rfl
  |some c=>
   simp only [nt,d2,true_and,e0];rw [if_neg Eg]
 have hw1:putRow (λ(b:UInt8)=>Value.int .u8 (b.toNat:Int)) w b 0 dk=w.setRow b (dI (cp u++cs.drop (Lib.nDigits u))).toArray:=by
  unfold putRow;rw [NZ w b _ T fz _ h1,hput]
 rw [hw1];have hlen2:(dI (cp u++cs.drop (Lib.nDigits u))).length=(dI cs).length:=by
  have hdl:(cp u).length=Lib.nDigits u:=by rw [←hdk];simpa using hs1
  simp [dI,hdl];omega
 have hR:dH (bi (⟨⟨b,T,cT cs⟩::bx,rw⟩:aH).bl w) (cT (cp u++cs.drop (Lib.nDigits u))) (dI (cp u++cs.drop (Lib.nDigits u))):=by
  have h9:=mW (bi (⟨⟨b,T,cT cs⟩::bx,rw⟩:aH).bl w) (dI (cp u++cs.drop (Lib.nDigits u))) wX;rw [show (dI (cp u++cs.drop (Lib.nDigits u))).map aN.val=cT (cp u++cs.drop (Lib.nDigits u)) by unfold dI cT;rw [lE];rfl] at h9;exact h9
 have hm1:=hm.setRow (A:=[]) (B:=bx) J hfz hlen2 h1 hR;have hk1:=vC w b (dI (cp u++cs.drop (Lib.nDigits u))).toArray;refine ⟨_,_,_,J,⟨J,J⟩,.tup [] [] J Cu,hm1.drewN k,hk1.drewN k,λb' hb'=>.inl ?_⟩;unfold aH.bl at hb'⊢;exact hb'
def Ar{u:Nat}(h:u<18446744073709551616):1 <= Lib.nDigits u /\ Lib.nDigits u <= 20:=by
 refine ⟨Lib.nDigits_pos u,?_⟩;by_cases h1:1 <= u
 ·have h2:=Lib.numDigits_eq u h1 h;have h3:(if 10 ^ Lib.l10 (Lib.bitLen u) <= u then 1 else 0) <= 1:=by split<;>omega
  omega
 rw [Lib.nDigits_small Y];omega
def xW(u:Nat):(cp u).length=Lib.nDigits u:=by rw [←wi];exact Lib.decDigits_length u
def Ud(i:Nat)(h:i<100)(s:aH):aR prog 189 [aX i] [] s λt s'=>t=cB (bytes (cp i)) /\ s'=s:=
 GI (us:=[.int .i64 ((i:Nat):Int)]) rfl rfl (λw=>(Tryz.internal_strconv_small i h w).mono λe w' ⟨h1,h2⟩=>⟨by rw [h1,wi];rfl,h2.symm⟩) s
def Vw(u:Nat)(h1:1 <= u)(h2:u<18446744073709551616)(s:aH):aR prog 190 [cC (au (.int .u64 ((u:Nat):Int)))] [] s λt s'=>t=bB ((Lib.nDigits u:Nat):Int) /\ s'=s:=
 I7 (us:=[]) rfl (λw he=>(Tryz.internal_strconv_numDigits u h1 h2 w he.tab).mono λe w' ⟨h1,h2⟩=>⟨h1,h2.symm⟩) s
def oE(a b:List UInt8):cT a++cT b=cT (a++b):=by unfold cT;rw [ed]
instance aB8:de prog 250 (cT (List.replicate 24 0)):=⟨_,zeroValue250,rfl⟩
end
section
open Go.RowKit
def fc(W:Nat)(a:Option Addr):Prop:=a=none∨a=some ⟨W,0,none⟩
def oh(bs:List UInt8)(v:Value):Prop:=bs=[] -> v=.slice none 0 0
abbrev cm(A:List aT)(W m:Nat)(a:Option Addr)(v:Value)(bs:List UInt8)(B:List aT)(rw:List aS):aH:=⟨A++⟨W,181,[.val (.pointer a),.val v,am m]⟩::B,⟨v,5,1,bs.length,cT bs⟩::rw⟩
instance aAb:pA .nilIface (au .nilIface):=⟨rfl⟩
section
variable {P:Program}{U T:List Nat}{o:Oper}{n d:Nat}{ts:List (Nat×AT)}{s:aH}{K:AS -> Prop}{st:AS}{bx:List aT}{rw:List aS}{ops:Array Oper}{l:List Oper}{Q:Exit -> AS -> Prop}
theorem I_{t yt te:bA}{j:TypeInfo}{x y:bc}{q:Option Addr}(ho:o.op=.binOp .eql t x y yt)(hx:ay st x=some (au (.pointer q)))(hy:ay st y=some (au (.pointer none)))(hp:P.underlying t=some (.pointer te))(hte:P.info? te=some j):cf P U o st (ap q.isNone):=
 iF rfl λa w hs w'=>by
  have h:∀d:Nat,(Op.equalIn (d+1) t (.pointer q) (.pointer none)).run P w'=.ok q.isNone w':=λd=>by
   cases q<;>simp [Op.equalIn,run_underlying hp,sizeOf,typeInfo,hte,samePointer]
  have h2:(Op.equal t (.pointer q) (.pointer none)).run P w'=.ok q.isNone w':=h 9999;generalize hg:Op.equal t (.pointer q) (.pointer none)=E at h2;simp only [execOp,ho,hs.val hx,hs.val hy];simp_all [go_sem,eqGuard,binOp]
theorem Nt{t yt te:bA}{j:TypeInfo}{x y:bc}{q:Addr}(ho:o.op=.binOp .neq t x y yt)(hx:ay st x=some (au (.pointer (some q))))(hy:ay st y=some (au (.pointer (some q))))(hp:P.underlying t=some (.pointer te))(hte:P.info? te=some j):cf P U o st (ap false):=
 iF rfl λa w hs w'=>by
  have h2:=Lib.run_neq_ptr_same w' q hp hte;simp only [execOp,ho,hs.val hx,hs.val hy];simp [go_sem,eqGuard,h2]
theorem PT {F : FuncId} {fn : Func} {x : bc} {tys : Array bA} {t : AT} (ho : o.op = .call { callee := .value (.func F), args := #[x], argTypes := tys }) (hx : ay st x = some t) (hf : P.funcs[F]? = some fn) (hname : (fn.name == "runtime.NumGoroutine") = false) (hb : fn.body.isNone = true) (hn : Extern.findNext fn = none) (he : Extern.find fn = some Extern.AbiNoEscape.same) : cf P U o st t := by
 intro a w hs _;refine ⟨a.eval x,hs.ev hx,λw' _=>?_⟩;simp only [execOp,ho,resolve,Deferred.ofValue,Act.eval,Sem.run_bind,Sem.run_pure,Result.andThen_ok,invoke,km,cd,fg];have h1:=run_callFunc_extern hf hname hb hn he #[a.eval x] w';rw [Lib.run_noEscape] at h1;simp only [Result.andThen_ok] at h1;simpa [Act.eval] using h1
theorem KB{w w':aV}{U:List Nat}{b:Nat}{T:bA}{cs:List aN}(hm:Mem s w)(hb:(⟨b,T,cs⟩:aT)∈s.boxes)(hk:cH U w w')(hU:b∉U):w'.shape? b=some (T,cs.length):=by
 obtain ⟨us,⟨fz,-,h1⟩,h2⟩:=hm.box _ hb;have h3:w'.heap[b]?=_:=(hk.block b (hm.lt b (fj _ (gH.2 ⟨_,hb,J⟩))) hU).trans h1;unfold World.shape?;rw [h3];simp [h2.len]
theorem P1{E E' te:bA}{j:TypeInfo}{x:bc}{b:Nat}{T0:bA}{cs:List aN}(A:List aT){B:List aT}(ho:o.op=.convert E E' x)(hx:ay st x=some (aE b))(hb:st.s.boxes=A++⟨b,T0,cs⟩::B)(hE:P.underlying E=some (.pointer te))(hE':P.underlying E'=some .unsafePointer)(ht:P.info? te=some j)(hj:j.size≠0)(hl:0<cs.length)(hU:b∉U):cf P U o st (aE b):=by
 intro a w hs _;refine ⟨_,.c _ _ (.val _ J),λw' hk=>?_⟩;have hsh:=KB hs.mem (b:=b) (T:=T0) (cs:=cs) rR hk hU;simp only [execOp,ho,Sem.run_bind,hs.val hx];rw [Lib.run_to_unsafe w' ⟨b,0,none⟩ hE hE' ht hj hsh hl];rfl
theorem SA{E E' u:bA}{j:TypeInfo}{x:bc}{b:Nat}{T0:bA}{cs:List aN}(A:List aT){B:List aT}(ho:o.op=.convert E E' x)(hx:ay st x=some (aE b))(hb:st.s.boxes=A++⟨b,T0,cs⟩::B)(hE:P.underlying E=some .unsafePointer)(hE':P.underlying E'=some (.pointer u))(ht:P.info? u=some j)(hlies:liesAt P P.depth T0 (cs.length/P.cellsOf T0) 0 u 1=true)(hU:b∉U):cf P U o st (aE b):=by
 intro a w hs _;refine ⟨_,.c _ _ (.val _ J),λw' hk=>?_⟩;have hsh:=KB hs.mem (b:=b) (T:=T0) (cs:=cs) rR hk hU;simp only [execOp,ho,Sem.run_bind,hs.val hx];rw [Lib.run_from_unsafe w' ⟨b,0,none⟩ hE hE' ht hsh hlies];rfl
theorem ir{α:Type}{c:Code}{T':List Nat}{s':aH}(p:Nat -> α -> Prop)(N i:Nat)(T:α -> List Nat)(S:Nat -> α -> aH)(fx:Nat -> List (Nat×AT))(g0:α)(hp:p 0 g0)(hs:Sub ⟨n,T',s',ts⟩ ⟨n,T g0,S 0 g0,(i,aX 0)::fx 0⟩)
  (round:∀k g,k <= N -> p k g -> bo P c ⟨n,T g,S k g,(i,aX k)::fx k⟩ (j_ (λs'=>k<N /\ ∃g',p (k+1) g' /\ Sub s' ⟨n,T g',S (k+1) g',(i,aX (k+1))::fx (k+1)⟩) Q)):bo P (.loop c) ⟨n,T',s',ts⟩ Q:=by
 refine ff (λg:Nat×α=>⟨n,T g.2,S g.1 g.2,(i,aX g.1)::fx g.1⟩) (λg=>g.1 <= N /\ p g.1 g.2) (λg=>N-g.1) (0,g0) hs ⟨d2 _,hp⟩ λg hg=>qP (round g.1 g.2 hg.1 hg.2) λe s' h=>?_;cases e with
 |normal=>
  obtain ⟨h1,g',h2,h3⟩:=h;exact ⟨(g.1+1,g'),⟨h1,h2⟩,by show N-(g.1+1)<N-g.1;omega,h3⟩
 |_=>exact h
theorem lV{bx bx':List aT}{rw rw':List aS}{s':aH}{T':List Nat}{ts':List (Nat×AT)}(h1:bx'.Sublist bx)(he:(⟨bx',rw'⟩:aH)=s')(h2:rw'.Sublist rw:=by exact (.refl _))(h3:∀b,b∈T' -> b∈T:=by intro x hx;simp only [mem_append,mem_cons,not_mem_nil,or_false] at hx⊢;rcases hx with hx|hx<;>simp [hx])(h:Sub ⟨n,T',s',ts⟩ ⟨n,T',s',ts'⟩:=by exact (av rfl (bv Y) (ao rfl))):Sub ⟨n,T,⟨bx,rw⟩,ts⟩ ⟨n,T',s',ts'⟩:=by
 subst he;exact az (h1:=h1) (h2:=h2) (h:=h) h3
theorem iC{A:List aT}{W m:Nat}{a:Option Addr}{v:aM}{x y:List UInt8}{B:List aT}{rw:List aS}(h:x=y):cm A W m a v x B rw=cm A W m a v y B rw:=by rw [h]
theorem jS{F:FuncId}{ars:Array bc}{tys:Array bA}{us:List AT}{W m m':Nat}{a:Option Addr}{v:aM}{bs bs':List UInt8}{r:AT}{A B:List aT}{C:Option Addr -> aM -> Prop}(h0:(o.op,o.dst,Nat.blt d n)=(.call {callee:=.value (.func F),args:=ars,argTypes:=tys},some d,true))
  (hcf:∀args w,(callFunc F args).run P w=.ok (.enter F args) w) (has:ars.toList.map (ay ⟨n,T,cm A W m a v bs B rw,ts⟩)=us.map some)
  (hc:aR P F us (W::aO v) (cm A W m a v bs B rw) λt s'=>t=r /\ ∃a' v',C a' v' /\ s'=cm A W m' a' v' bs' B rw) (hT:W∈T) (hTv:∀b,b∈aO v -> b∈T) (hU:(cm A W m a v bs B rw).bl.Nodup -> W∈U /\ ∀b,b∈aO v -> b∈U)
  (h:∀a' v',C a' v' -> K ⟨n,aO v'++T,cm A W m' a' v' bs' B rw,(d,r)::ts⟩):dN P U o ⟨n,T,cm A W m a v bs B rw,ts⟩ K:=by
 simp only [iN] at h0;obtain ⟨ho,hd,hn⟩:=h0;intro act w hs KK QQ' hK;obtain ⟨h1,h2⟩:=nx hs has;have hTb:∀b,b∈W::aO v -> b∈(cm A W m a v bs B rw).bl:=λb hb=>by
  unfold aH.bl;rcases mem_cons.1 hb with rfl|hb
  ·simp
  simp [hb]
 have hTT:∀b,b∈W::aO v -> b∈T:=λb hb=>by
  rcases mem_cons.1 hb with rfl|hb
  ·exact hT
  exact hTv b hb
 unfold Oper.wp;rw [show (execOp act.eval o).run P w=.ok (.enter F (ars.toList.map act.eval).toArray) w from by
  simp only [execOp,ho,resolve,Deferred.ofValue,Act.eval,Sem.run_bind,Sem.run_pure,Result.andThen_ok,invoke];rw [hcf]
  congr 2
  rw [←mu];simp,Oper.upon_enter]
 refine (hc _ w hs.mem hTb h1 h2).mono ?_;rintro en w' ⟨r',vr,s',rfl,⟨rfl,a',v',hC,rfl⟩,hr,hm,hk,hb⟩;dsimp only;rw [hd];have s1:=hs.step (aO v'++T) (hk.mono hTb) hm hb;refine hK _ _ _ (h a' v' hC) (s1.put (ez hn) hr) ⟨hk.mono hTb,hk.mono hTT,hb,λb hb2=>?_⟩ (hk.mono (λb hb=>by
  obtain ⟨u1,u2⟩:=hU hs.mem.nodup;rcases mem_cons.1 hb with rfl|hb
  ·exact u1
  exact u2 b hb))
 rcases mem_append.1 hb2 with hb2|hb2
 ·have aa:b∈(cm A W m' a' v' bs' B rw).bl:=xr;exact (hb b aa).imp LO id
 exact .inl hb2
theorem uY{F:FuncId}{ars:Array bc}{tys:Array bA}{p:aV -> Prop}{t0 u:AT}{us:List AT}{W m m':Nat}{a:Option Addr}{v:aM}{bs bs':List UInt8}{r:AT}{A B:List aT}{C:Option Addr -> aM -> Prop}(i0:Nat)(h0:(o.op,o.dst,Nat.blt d n,look ts i0)=(.call {callee:=.value (.func F),args:=ars,argTypes:=tys},some d,true,some (.ride t0 p)))
  (hcf:∀args w,(callFunc F args).run P w=.ok (.enter F args) w) (has:ars.toList.map (ay ⟨n,T,cm A W m a v bs B rw,ts⟩)=(u::us).map some)
  (hc:aR P F (.ride u p::us) (W::aO v) (cm A W m a v bs B rw) λt s'=>t=r /\ ∃a' v',C a' v' /\ s'=cm A W m' a' v' bs' B rw) (hT:W∈T) (hTv:∀b,b∈aO v -> b∈T) (hU:(cm A W m a v bs B rw).bl.Nodup -> W∈U /\ ∀b,b∈aO v -> b∈U)
  (h:∀a' v',C a' v' -> K ⟨n,aO v'++T,cm A W m' a' v' bs' B rw,(d,r)::ts⟩):dN P U o ⟨n,T,cm A W m a v bs B rw,ts⟩ K:=by
 simp only [iN] at h0;obtain ⟨ho,hd,hn,hl⟩:=h0;intro act w hs KK QQ' hK;obtain ⟨h1,h2⟩:=nx hs has;obtain ⟨v0,-,hv0⟩:=hs.tm i0 _ hl;have hTb:∀b,b∈W::aO v -> b∈(cm A W m a v bs B rw).bl:=λb hb=>by
  unfold aH.bl;rcases mem_cons.1 hb with rfl|hb
  ·simp
  simp [hb]
 have hTT:∀b,b∈W::aO v -> b∈T:=λb hb=>by
  rcases mem_cons.1 hb with rfl|hb
  ·exact hT
  exact hTv b hb
 unfold Oper.wp;rw [show (execOp act.eval o).run P w=.ok (.enter F (ars.toList.map act.eval).toArray) w from by
  simp only [execOp,ho,resolve,Deferred.ofValue,Act.eval,Sem.run_bind,Sem.run_pure,Result.andThen_ok,invoke];rw [hcf]
  congr 2
  rw [←mu];simp,Oper.upon_enter]
 refine (hc _ w hs.mem hTb h1 (λi hi hi'=>?_)).mono ?_
 ·match i,hi with
  |0,hi=>exact uS hv0 (h2 0 aK hi')
  |i+1,hi=>exact h2 (i+1) oJ hi'
 rintro en w' ⟨r',vr,s',rfl,⟨rfl,a',v',hC,rfl⟩,hr,hm,hk,hb⟩;dsimp only;rw [hd];have s1:=hs.step (aO v'++T) (hk.mono hTb) hm hb;refine hK _ _ _ (h a' v' hC) (s1.put (ez hn) hr) ⟨hk.mono hTb,hk.mono hTT,hb,λb hb2=>?_⟩ (hk.mono (λb hb=>by
  obtain ⟨u1,u2⟩:=hU hs.mem.nodup;rcases mem_cons.1 hb with rfl|hb
  ·exact u1
  exact u2 b hb))
 rcases mem_append.1 hb2 with hb2|hb2
 ·have aa:b∈(cm A W m' a' v' bs' B rw).bl:=xr;exact (hb b aa).imp LO id
 exact .inl hb2
end
end
section
open Go.RowKit
class bz (v:Value) (T:List Nat):Prop where h:∀b,b∈aO v -> b∈T
instance (priority:=1200) rbIn_hit{v:Value}{T:List Nat}:bz v (aO v++T):=⟨λ_ hb=>fj _ hb⟩
instance (priority:=1200) rbIn_self{v:Value}:bz v (aO v):=⟨λ_ hb=>hb⟩
instance (priority:=1300) rbIn_none{T:List Nat}:bz (.slice none 0 0) T:=⟨λb hb=>B'⟩
instance (priority:=1300) rbIn_lit{g n c:Nat}{T:List Nat}[h:nU g T]:bz (.slice (some ⟨g,0,none⟩) n c) T:=⟨λb hb=>by
 simp only [aO,Value.ownBlock,Option.toList,mem_cons,not_mem_nil,or_false] at hb;rw [hb];exact h.h⟩
instance aBe{v:Value}{X T:List Nat}[h:bz v T]:bz v (X++T):=⟨λb hb=>f7 _ (h.h b hb)⟩
instance aAN{v:Value}{X T:List Nat}[h:bz v X]:bz v (X++T):=⟨λb hb=>fj _ (h.h b hb)⟩
instance XS{v:Value}{x:Nat}{T:List Nat}[h:bz v T]:bz v (x::T):=⟨λb hb=>dT _ (h.h b hb)⟩
instance XI{x:bK}:gO (bP x) 3:=⟨rfl⟩
instance Z_{x:nL}:gO (ec x) 3:=⟨rfl⟩
instance aAV{x:ic}:gO (encI x) 12:=⟨rfl⟩
instance YD{x:bK}:gU (bP x) [ae x.name,aA x.kind,am x.n]:=⟨rfl⟩
instance aCn{x:nL}:gU (ec x) [bD x.param,am x.index,aB bR x.at_]:=⟨rfl⟩
instance aAH{x:ic}:gU (encI x) [aA x.op,am x.target,bD x.global,aA x.expr.op,aA x.expr.num,ae x.expr.name,aB bR x.expr.args,bD x.place.param,am x.place.index,aB bR x.place.at_,aB bR x.ints,aB ec x.places]:=⟨rfl⟩
def qS{P:Program}{α:Type}{x y:Code}{st:AS}{Q:Exit -> AS -> Prop}(F:α -> AS)(h1:bo P x st (j_ (λs=>∃a,Sub s (F a)) Q))(h2:∀a,bo P y (F a) Q):bo P (.seq x y) st Q:=
 AG (qP h1 λe s h=>by
  cases e with
  |normal=>obtain ⟨a,ha⟩:=h;exact rA ha (h2 a)
  |_=>exact h)
def GX{m n:Int}:eU .eql m n=some (decide (m=n)):=by unfold eU;by_cases h:m=n<;>simp [h]
def RV{q:iH}{e:Nat}{s:Int}(h:((q.1:Nat):Int)=0)(he:e≠0):cP q e s=(e,s):=by unfold cP;rw [if_pos ⟨Y,he⟩]
def QI{q:iH}{e:Nat}{s:Int}(h:¬((q.1:Nat):Int)=0):cP q e s=q:=by unfold cP;rw [if_neg (λh2=>h Y)]
def JB{l:List bK}{s:aG}{k:Nat}(h:k<l.length)(hn:¬l[k].name=s)(hv:bI (l.drop k) s=bI l s):bI (l.drop (k+1)) s=bI l s:=by
 rw [iK h,bI,if_neg hn] at hv;exact hv
def Ff{l:List bK}{s:aG}{k:Nat}(h:k<l.length)(hn:l[k].name=s)(hv:bI (l.drop k) s=bI l s):bI l s=some l[k]:=by
 rw [iK h,bI,if_pos hn] at hv;exact hv.symm
def mE(A B:List aT)(X:Nat)(p:aZ)(l:List bK)(loc n:Int)(q:iH)(c8 c9:aN)(rw:List aS)(e:Nat)(s:Int)(he:e≠0):aR prog 102 [aE X,aX e,bB s] [X] ⟨A++⟨X,165,[aB ak p.globals,aB aU p.mutexes,aB ac p.funcs,aB bP l,aA loc,aA n,aA q.2,am q.1,c8,c9]⟩::B,rw⟩ λt s'=>t=.tup [] /\ s'=⟨A++⟨X,165,[aB ak p.globals,aB aU p.mutexes,aB ac p.funcs,aB bP l,aA loc,aA n,aA ((cP q e s).2),aA (((cP q e s).1:Nat):Int),c8,c9]⟩::B,rw⟩:=by
 refine bN 19 func102 ?_;refine go 6 ?_;by_cases h1:((q.1:Nat):Int)=0
 ·refine aC true J (bg h1) (go 15 ?_);exact ⟨.inl J,_,⟨A++⟨X,165,[aB ak p.globals,aB aU p.mutexes,aB ac p.funcs,aB bP l,aA loc,aA n,aA (((e,s):iH).2),aA ((((e,s):iH).1:Nat):Int),c8,c9]⟩::B,rw⟩,e_ J,aj (.refl _) (.refl _),J,by rw [RV h1 he]⟩
 refine aC false J (bZ h1) (go 4 ?_);exact ⟨.inl J,_,⟨A++⟨X,165,[aB ak p.globals,aB aU p.mutexes,aB ac p.funcs,aB bP l,aA loc,aA n,aA q.2,am q.1,c8,c9]⟩::B,rw⟩,e_ J,aj (.refl _) (.refl _),J,by rw [QI h1]⟩
def qf(l:List bK)(s:aG)(hN:l.length <= 1000000000)(st:aH):aR prog 40 [.c (aB bP l),cB s] [] st λt s'=>t=.tup [.agg (bP (bL l s)),ap ((bI l s).isSome)] /\ s'=st:=by
 obtain ⟨bx,rw⟩:=st;unfold bL;refine bN 25 func40 ?_;refine go 13 λb1=>?_;refine jO (λk=>bI (l.drop k) s=bI l s) (l.length) 6 (λk=>[(0,.c (aB bP l)),(1,cB s),(4,aE b1)]) J (ao J) λk hk hvk=>?_;replace hvk:bI (l.drop k) s=bI l s:=hvk
 try dsimp only
 refine go 6 ?_;by_cases h1:((k:Nat):Int)<((l.length:Nat):Int)
 ·refine aC true J (ck h1) (go 11 ?_);refine aF J (bS bP bP l lb (λ_=>J) k J J J J Y V runUnderlying107 sizeOf111) (go 3 ?_);by_cases h3:l[k].name=s
  ·refine aF J (eo true J J J (nA h3)) (go 7 ?_);refine aF J (bS bP bP l lb (λ_=>J) k J J J J Y V runUnderlying107 sizeOf111) (go 11 ?_);exact ⟨.inr J,_,⟨bx,rw⟩,iP J (cS [] J J isAgg111 sizeOf111 (cY J J)) (bM J),aj (.cons _ (.refl _)) (.refl _),by rw [Ff Y h3 hvk];rfl,J⟩
  refine aF J (eo false J J J (m9 h3)) (go 8 ?_);refine bJ J (go 2 ?_);exact ⟨Y,(JB Y h3 hvk),(av J (bv Y) (ao J))⟩
 refine aC false J (cg h1) (go 16 ?_);exact ⟨.inr J,_,⟨bx,rw⟩,iP J (cS [] J J isAgg111 sizeOf111 (cY J J)) (bM J),aj (.cons _ (.refl _)) (.refl _),Im,J⟩
def SJ{l:List bK}{x:aG}(h:(bI l x).isSome=false):ea l x=6:=by
 unfold ea;rcases h2:bI l x with _|v
 ·rfl
 rw [h2] at h;cases h
def Ci{l:List bK}{x:aG}(h:(bI l x).isSome=true):ea l x=if (bL l x).kind=1∨(bL l x).kind=4 then 0 else 8:=by
 unfold ea bL;rcases h2:bI l x with _|v
 ·rw [h2] at h;cases h
 rfl
def Fu(A B:List aT)(X:Nat)(p:aZ)(l:List bK)(loc n:Int)(q:iH)(c8 c9:aN)(rw:List aS)(x:aG)(s:Int)(hl:l.length <= 1000000000):aR prog 104 [aE X,cB x,bB s] [X] ⟨A++⟨X,165,[aB ak p.globals,aB aU p.mutexes,aB ac p.funcs,aB bP l,aA loc,aA n,aA q.2,am q.1,c8,c9]⟩::B,rw⟩ λt s'=>t=.agg (bP (bL l x)) /\ s'=⟨A++⟨X,165,[aB ak p.globals,aB aU p.mutexes,aB ac p.funcs,aB bP l,aA loc,aA n,aA ((cP q (ea l x) s).2),aA (((cP q (ea l x) s).1:Nat):Int),c8,c9]⟩::B,rw⟩:=by
 refine bN 37 func104 ?_;refine go 12 λb1=>?_;refine cy J call40 J (qf l x Y _) ?_;rintro _ _ ⟨rfl,rfl⟩;refine go 13 λb2=>?_;rcases bq ((bI l x).isSome) with h1|h1
 ·refine aF J (cI (bF (oX h1)) (iY J J)) (go 8 ?_);by_cases h3:(bL l x).kind=1
  ·refine aC false J (dv h3) (go 19 ?_);exact ⟨.inr J,_,⟨A++⟨X,165,[aB ak p.globals,aB aU p.mutexes,aB ac p.funcs,aB bP l,aA loc,aA n,aA q.2,am q.1,c8,c9]⟩::B,rw⟩,bT J (cS [_] J J isAgg111 sizeOf111 (cY J J)),aj (.cons _ (.cons _ (.refl _))) (.refl _),J,by rw [Ci h1,if_pos Y,mo]⟩
  refine aC true J (fe h3) (go 3 ?_);by_cases h5:(bL l x).kind=4
  ·refine aC false J (dv h5) (go 15 ?_);exact ⟨.inr J,_,⟨A++⟨X,165,[aB ak p.globals,aB aU p.mutexes,aB ac p.funcs,aB bP l,aA loc,aA n,aA q.2,am q.1,c8,c9]⟩::B,rw⟩,bT J (cS [_] J J isAgg111 sizeOf111 (cY J J)),aj (.cons _ (.cons _ (.refl _))) (.refl _),J,by rw [Ci h1,if_pos Y,mo]⟩
  refine aC true J (fe h5) (go 8 ?_);refine aW J (bj [X] J J V call102 J (mE (_::_::A) B X p l loc n q _ _ rw 8 s V) dV dS jH ?_);rintro _ _ ⟨rfl,rfl⟩;refine go 10 ?_;exact ⟨.inr J,_,⟨A++⟨X,165,[aB ak p.globals,aB aU p.mutexes,aB ac p.funcs,aB bP l,aA loc,aA n,aA ((cP q 8 s).2),aA (((cP q 8 s).1:Nat):Int),c8,c9]⟩::B,rw⟩,bT J (cS [_] J J isAgg111 sizeOf111 (cY J J)),aj (.cons _ (.cons _ (.refl _))) (.refl _),J,by rw [Ci h1,if_neg Y]⟩
 refine aF J (cI (bF (ol h1)) (iY J J)) (go 7 ?_);refine aW J (bj [X] J J V call102 J (mE (_::_::A) B X p l loc n q _ _ rw 6 s V) dV dS jH ?_);rintro _ _ ⟨rfl,rfl⟩;refine go 10 ?_;exact ⟨.inr J,_,⟨A++⟨X,165,[aB ak p.globals,aB aU p.mutexes,aB ac p.funcs,aB bP l,aA loc,aA n,aA ((cP q 6 s).2),aA (((cP q 6 s).1:Nat):Int),c8,c9]⟩::B,rw⟩,bT J (cS [_] J J isAgg111 sizeOf111 (cY J J)),aj (.cons _ (.cons _ (.refl _))) (.refl _),J,by rw [SJ h1]⟩
def ko{l:List bK}{x:aG}(h:(bI l x).isSome=true):bI l x=some (bL l x):=by
 unfold bL;rcases h2:bI l x with _|v
 ·rw [h2] at h;cases h
 rfl
def N9{p:aZ}{l:List bK}{x:aG}{n:Nat}(h:(bI l x).isSome=false):jf p n (bI l x)=6:=by
 rcases h2:bI l x with _|v
 ·rfl
 rw [h2] at h;cases h
def sR{p:aZ}{l:List bK}{x:aG}{n:Nat}(h:(bI l x).isSome=true):jf p n (bI l x)=if (bL l x).kind=2∨(bL l x).kind=5 then (if (decide ((bL l x).kind=2) && decide (0<pG p (bL l x).n))=decide (0<n) then 0 else 8) else 8:=by
 rw [ko h];rfl
def tX{α β:Type}(f:α -> β)(enc:β -> List aN)(l:List α)(k:Nat)(h:k<l.length):((l.take k).map f).flatMap enc++[f l[k]].flatMap enc=((l.take (k+1)).map f).flatMap enc:=by
 rw [ga h,ed,d4];rfl
def Tz(A B:List aT)(X:Nat)(p:aZ)(l:List bK)(loc n:Int)(q:iH)(c8 c9:aN)(rw:List aS)(e:aP)(s:Int)(hl:l.length <= 1000000000)(hN:e.nodes <= 1000000000)(ih:∀k (h:k<e.args.length) (A:List aT) (q:iH) (rw:List aS),aR prog 103 [aE X,.agg (bb e.args[k]),bB s] [X] ⟨A++⟨X,165,[aB ak p.globals,aB aU p.mutexes,aB ac p.funcs,aB bP l,aA loc,aA n,aA q.2,am q.1,c8,c9]⟩::B,rw⟩ λt s'=>t=.agg (bb (cW l e.args[k])) /\ s'=⟨A++⟨X,165,[aB ak p.globals,aB aU p.mutexes,aB ac p.funcs,aB bP l,aA loc,aA n,aA ((cP q (cO l e.args[k]) s).2),aA (((cP q (cO l e.args[k]) s).1:Nat):Int),c8,c9]⟩::B,rw⟩):aR prog 103 [aE X,.agg (bb e),bB s] [X] ⟨A++⟨X,165,[aB ak p.globals,aB aU p.mutexes,aB ac p.funcs,aB bP l,aA loc,aA n,aA q.2,am q.1,c8,c9]⟩::B,rw⟩ λt s'=>t=.agg (bb (cW l e)) /\ s'=⟨A++⟨X,165,[aB ak p.globals,aB aU p.mutexes,aB ac p.funcs,aB bP l,aA loc,aA n,aA ((cP q (cO l e) s).2),aA (((cP q (cO l e) s).1:Nat):Int),c8,c9]⟩::B,rw⟩:=by
 have hlen:=qc e;refine bN 53 func103 ?_;refine go 11 λb1 b2=>?_;by_cases h1:e.op=2
 ·refine aC true J (bg h1) (go 9 ?_);refine aW J (bj [X] J J V call104 J (Fu (_::_::A) B X p l loc n q _ _ rw e.name s hl) dV dS jH ?_);rintro _ _ ⟨rfl,rfl⟩;refine go 9 λb3=>?_;by_cases h3:(bL l e.name).kind=1
  ·refine aC true J (bg h3) (go 14 ?_);exact ⟨.inr J,_,⟨A++⟨X,165,[aB ak p.globals,aB aU p.mutexes,aB ac p.funcs,aB bP l,aA loc,aA n,aA ((cP q (ea l e.name) s).2),aA (((cP q (ea l e.name) s).1:Nat):Int),c8,c9]⟩::B,rw⟩,bT J (gP (bu.agg (.r (.r (.r (.n .nil))))) (cS [_] J J isAgg87 sizeOf87 (cY J J))),aj (.cons _ (.cons _ (.cons _ (.refl _)))) (.refl _),by rw [wS,if_pos Y];unfold pW;rw [if_pos Y];rfl,by rw [vN,if_pos Y]⟩
  refine aC false J (bZ h3) (go 15 ?_);exact ⟨.inr J,_,⟨A++⟨X,165,[aB ak p.globals,aB aU p.mutexes,aB ac p.funcs,aB bP l,aA loc,aA n,aA ((cP q (ea l e.name) s).2),aA (((cP q (ea l e.name) s).1:Nat):Int),c8,c9]⟩::B,rw⟩,bT J (gP (bu.agg (.r (.r (.r (.n .nil))))) (cS [_] J J isAgg87 sizeOf87 (cY J J))),aj (.cons _ (.cons _ (.cons _ (.refl _)))) (.refl _),by rw [wS,if_pos Y];unfold pW;rw [if_neg Y];rfl,by rw [vN,if_pos Y]⟩
 refine aC false J (bZ h1) (go 23 λb4=>?_);refine fZ 87 4 ?_;refine ir (α:=aM×iH) (λk g=>g.2=cP q (gT l (e.args.take k)) s) (e.args.length) 9 (λg=>aO g.1++[b4,b2,b1,X]) (λk g=>⟨⟨b4,87,[aA e.op,aA e.num,ae ax,.val g.1]⟩::⟨b2,87,[aA 0,aA 0,ae ax,aI]⟩::⟨b1,87,bb e⟩::A++⟨X,165,[aB ak p.globals,aB aU p.mutexes,aB ac p.funcs,aB bP l,aA loc,aA n,aA g.2.2,am g.2.1,c8,c9]⟩::B,⟨g.1,87,4,k,((e.args.take k).map (cW l)).flatMap bR⟩::rw⟩) (λ_=>[(0,aE X),(2,bB s),(4,aE b1),(6,aE b2),(8,aE b4)]) (.slice none 0 0,q) (by rw [lM,gT,mo]) (az sq) ?_;rintro k ⟨v,qq⟩ hk hvk;replace hvk:qq=cP q (gT l (e.args.take k)) s:=hvk
 try dsimp only
 refine go 7 ?_;by_cases h7:((k:Nat):Int)<((e.args.length:Nat):Int)
 ·refine aC true J (ck h7) (go 7 ?_);refine kf 12 [b4,b2,b1] [] #[true,true,true,true,true,true,true,true,true,true,true,true,false,false] aQ aQ aQ ?_;refine aY [0,1,2,3,4,5] 6 (go 7 ?_);refine ab 6 J (bS bR bb e.args fw ei k J J J J Y V runUnderlying85 sizeOf87) (aY [7,8] 3 (go 3 ?_));refine an 9 J J (bj [X] J J V call103 J (ih k Y (_::_::_::A) qq (_::rw)) dV dS (by intro h b hb;simp at hb;subst hb;exact gK.2 ⟨uT,λhh=>by simp only [mem_cons,not_mem_nil,or_false] at hh;rcases hh with rfl|rfl|rfl<;>simp [aH.bl] at h⟩) ?_);rintro _ _ ⟨rfl,rfl⟩;refine an 10 J J (be (hf:=dU bR bb (cW l e.args[k]) (ei _) J J) ni ?_);refine an 11 J J (dR [] tN J (fN bR 4 fw _) V c_ Y (N:=k+1) J (λhn b hb=>eY (r:=(⟨v,87,4,k,((e.args.take k).map (cW l)).flatMap bR⟩:aS)) hn hb) bz.h (r:=((e.args.take (k+1)).map (cW l)).flatMap bR) (tX (cW l) bR e.args k Y) λw5=>?_);refine bG ?_;refine id ?_;refine cU [(12,true),(13,false)] 0 (go 3 ?_);refine bG (go 4 ?_);refine bJ J (go 2 ?_);exact ⟨Y,(w5,(cP qq (cO l e.args[k]) s)),(by rw [hvk];exact FI l e.args k Y q s),az (h:=av J (bv Y) (ao J)) j4⟩
 refine aC false J (cg h7) (go 10 ?_);obtain rfl:k=e.args.length:=Y;rw [gq];refine iE (cs':=[aA e.op,aA e.num,ae ax,.sl e.args.length ((e.args.map (cW l)).flatMap bR)]) [] 3 J J ?_;show cL prog _ _ ⟨_,_,⟨⟨b4,87,[aA e.op,aA e.num,ae ax,.sl e.args.length ((e.args.map (cW l)).flatMap bR)]⟩::⟨b2,87,[aA 0,aA 0,ae ax,aI]⟩::⟨b1,87,bb e⟩::A++⟨X,165,[aB ak p.globals,aB aU p.mutexes,aB ac p.funcs,aB bP l,aA loc,aA n,aA qq.2,am qq.1,c8,c9]⟩::B,rw⟩,_⟩ _;refine go 5 ?_;exact ⟨.inr J,_,⟨A++⟨X,165,[aB ak p.globals,aB aU p.mutexes,aB ac p.funcs,aB bP l,aA loc,aA n,aA qq.2,am qq.1,c8,c9]⟩::B,rw⟩,bT J (cS [_] J J isAgg87 sizeOf87 (cY J J)),aj (.cons _ (.cons _ (.cons _ (.refl _)))) (.refl _),Kk,by rw [vN,if_neg Y,hvk,gq]⟩
def Fc:∀(N:Nat)(e:aP),e.nodes <= N -> N <= 1000000000 -> ∀(A B:List aT)(X:Nat)(p:aZ)(l:List bK)(loc n:Int)(q:iH)(c8 c9:aN)(rw:List aS)(s:Int)(hl:l.length <= 1000000000),aR prog 103 [aE X,.agg (bb e),bB s] [X] ⟨A++⟨X,165,[aB ak p.globals,aB aU p.mutexes,aB ac p.funcs,aB bP l,aA loc,aA n,aA q.2,am q.1,c8,c9]⟩::B,rw⟩ λt s'=>t=.agg (bb (cW l e)) /\ s'=⟨A++⟨X,165,[aB ak p.globals,aB aU p.mutexes,aB ac p.funcs,aB bP l,aA loc,aA n,aA ((cP q (cO l e) s).2),aA (((cP q (cO l e) s).1:Nat):Int),c8,c9]⟩::B,rw⟩
 |0,e,h,_=>pd
 |N+1,e,h,hN=>λA B X p l loc n q c8 c9 rw s hl=>Tz A B X p l loc n q c8 c9 rw e s hl Y λk hk A q rw=>Fc N e.args[k] pH Y A B X p l loc n q c8 c9 rw s hl
def t2(A B:List aT)(X:Nat)(p:aZ)(l:List bK)(loc n:Int)(q:iH)(c8 c9:aN)(rw:List aS)(e:aP)(s:Int)(hl:l.length <= 1000000000)(h:e.nodes <= 1000000000):aR prog 103 [aE X,.agg (bb e),bB s] [X] ⟨A++⟨X,165,[aB ak p.globals,aB aU p.mutexes,aB ac p.funcs,aB bP l,aA loc,aA n,aA q.2,am q.1,c8,c9]⟩::B,rw⟩ λt s'=>t=.agg (bb (cW l e)) /\ s'=⟨A++⟨X,165,[aB ak p.globals,aB aU p.mutexes,aB ac p.funcs,aB bP l,aA loc,aA n,aA ((cP q (cO l e) s).2),aA (((cP q (cO l e) s).1:Nat):Int),c8,c9]⟩::B,rw⟩:=Fc _ e h (bW _) A B X p l loc n q c8 c9 rw s hl
structure mt (gg gm gf gk gl:Nat) (gs ms fs lk lo:bd) (rw:List aS):Prop where
 gg:ai gg 0 a_ gs∈rw
 gm:ai gm 0 a_ ms∈rw
 gf:ai gf 0 a_ fs∈rw
 gk:ai gk 0 a_ lk∈rw
 gl:ai gl 0 a_ lo∈rw
def mt.cons{gg gm gf gk gl:Nat}{gs ms fs lk lo:bd}{rw:List aS}{r:aS}(h:mt gg gm gf gk gl gs ms fs lk lo rw):mt gg gm gf gk gl gs ms fs lk lo (r::rw):=⟨by simp [h.gg],by simp [h.gm],by simp [h.gf],by simp [h.gk],by simp [h.gl]⟩
def Nl(A B:List aT)(D gg gm gf gk gl:Nat)(p:aZ)(l:List bK)(gs ms fs lk lo:bd)(c5 c6 c7 c8:aN)(rw:List aS)(hM:db gs ms fs lk lo l)(hW:mt gg gm gf gk gl gs ms fs lk lo rw)(e:aP)(hN:e.nodes <= 1000000000)(hE:cO l e=0)(ih:¬e.op=2 -> ∀k (h:k<e.args.length) (A:List aT) (rw:List aS),mt gg gm gf gk gl gs ms fs lk lo rw -> aR prog 108 [aE D,.agg (bb e.args[k])] [] ⟨A++⟨D,77,[aD gg,aD gm,aD gf,aD gl,aD gk,c5,c6,c7,c8]⟩::B,rw⟩ λt s'=>t=.agg (bb (cW l e.args[k])) /\ s'=⟨A++⟨D,77,[aD gg,aD gm,aD gf,aD gl,aD gk,c5,c6,c7,c8]⟩::B,rw⟩):aR prog 108 [aE D,.agg (bb e)] [] ⟨A++⟨D,77,[aD gg,aD gm,aD gf,aD gl,aD gk,c5,c6,c7,c8]⟩::B,rw⟩ λt s'=>t=.agg (bb (cW l e)) /\ s'=⟨A++⟨D,77,[aD gg,aD gm,aD gf,aD gl,aD gk,c5,c6,c7,c8]⟩::B,rw⟩:=by
 have hlen:=qc e;refine bN 56 func108 ?_;refine go 11 λb1 b2=>?_;by_cases h1:e.op=2
 ·refine aC true J (bg h1) (go 5 ?_);refine b_ [b2,b1,D,gg,gm,gf,gk,gl] (aY [0,1,2,3,4,5] 6 (go 7 ?_));refine ab 6 J (CV lo J J J (by simp [hW.gl]) underlying74 underlying9 zeroValue3 mB) (aY [7,8,9,10,11] 0 (go 6 ?_));refine bG (go 6 ?_);refine iB J (λh3=>?_) (λh3=>?_)
  ·refine go 10 ?_;exact ⟨.inr J,_,⟨A++⟨D,77,[aD gg,aD gm,aD gf,aD gl,aD gk,c5,c6,c7,c8]⟩::B,rw⟩,bT J (gP (bu.agg (.r (.r (.r (.n .nil))))) (cS [] J J isAgg87 sizeOf87 (cY J J))),aj (.cons _ (.cons _ (.refl _))) (.refl _),by rw [wS,if_pos Y,hM.lo_name h3];rfl,J⟩
  refine go 3 ?_;refine kf 8 [b2,b1,D,gg,gm,gf,gk,gl] [] #[true,true,true,true,true,true,true,true,false] aQ aQ aQ ?_;refine aY [0,1,2,3,4,5] 2 (go 7 ?_);refine ab 6 J (nF gs J J J (by simp [hW.gg]) underlying74 underlying9 zeroValue3 mB) (aY [7] 0 (go 2 ?_));refine bG ?_;refine id ?_;refine cU [(8,false)] 0 (go 2 ?_);refine bG (go 3 ?_);exact ⟨.inr J,_,⟨A++⟨D,77,[aD gg,aD gm,aD gf,aD gl,aD gk,c5,c6,c7,c8]⟩::B,rw⟩,bT J (gP (bu.agg (.r (.r (.r (.n .nil))))) (cS [] J J isAgg87 sizeOf87 (cY J J))),aj (.cons _ (.cons _ (.refl _))) (.refl _),by rw [wS,if_pos Y,hM.gs_name h3 (by rw [vN,if_pos Y] at hE;exact hE)];rfl,J⟩
 refine aC false J (bZ h1) (go 26 λb3=>?_);refine fZ 87 4 ?_;refine ir (α:=aM) (λ_ _=>True) (e.args.length) 42 (λg=>aO g++[b3,b2,b1]) (λk g=>⟨⟨b3,87,[aA e.op,aA e.num,ae ax,.val g]⟩::⟨b2,87,[aA 0,aA 0,ae ax,aI]⟩::⟨b1,87,bb e⟩::A++⟨D,77,[aD gg,aD gm,aD gf,aD gl,aD gk,c5,c6,c7,c8]⟩::B,⟨g,87,4,k,((e.args.take k).map (cW l)).flatMap bR⟩::rw⟩) (λ_=>[(0,aE D),(4,aE b2),(7,aE b3),(40,.c (aB bR e.args)),(41,aX e.args.length)]) (.slice none 0 0) trivial (az sq) ?_;rintro k v hk -
 try dsimp only
 refine go 2 ?_;by_cases h5:((k:Nat):Int)<((e.args.length:Nat):Int)
 ·refine aC true J (ck h5) (go 10 ?_);refine aF J (bS bR bb e.args fw ei k J J J J Y V runUnderlying85 sizeOf87) (go 5 λb4=>?_);refine kf 7 [b4,b3,b2,b1,D] [] #[true,true,true,true,true,true,true,false,false] aQ aQ aQ ?_;refine aY [0,1,2,3] 3 (go 5 ?_);refine an 4 J J (fX J J V call108 J (ih Y k Y (_::_::_::_::A) (_::rw) hW.cons) ?_);rintro _ _ ⟨rfl,rfl⟩;refine an 5 J J (be (hf:=dU bR bb (cW l e.args[k]) (ei _) J J) ni ?_);refine an 6 J J (dR [] tN J (fN bR 4 fw _) V c_ Y (N:=k+1) J (λhn b hb=>eY (r:=(⟨v,87,4,k,((e.args.take k).map (cW l)).flatMap bR⟩:aS)) hn hb) bz.h (r:=((e.args.take (k+1)).map (cW l)).flatMap bR) (tX (cW l) bR e.args k Y) λw5=>?_);refine bG ?_;refine id ?_;refine cU [(7,true),(8,false)] 0 (go 3 ?_);refine bG (go 3 ?_);refine bJ J (go 2 ?_);exact ⟨Y,w5,trivial,az (h1:=(.cons _ (.refl _))) (h:=av J (bv Y) (ao J)) j4⟩
 refine aC false J (cg h5) (go 11 ?_);obtain rfl:k=e.args.length:=Y;rw [gq];refine iE (cs':=[aA e.op,aA e.num,ae ax,.sl e.args.length ((e.args.map (cW l)).flatMap bR)]) [] 3 J J ?_;show cL prog _ _ ⟨_,_,⟨⟨b3,87,[aA e.op,aA e.num,ae ax,.sl e.args.length ((e.args.map (cW l)).flatMap bR)]⟩::⟨b2,87,[aA 0,aA 0,ae ax,aI]⟩::⟨b1,87,bb e⟩::A++⟨D,77,[aD gg,aD gm,aD gf,aD gl,aD gk,c5,c6,c7,c8]⟩::B,rw⟩,_⟩ _;refine go 5 ?_;exact ⟨.inr J,_,⟨A++⟨D,77,[aD gg,aD gm,aD gf,aD gl,aD gk,c5,c6,c7,c8]⟩::B,rw⟩,bT J (cS [_] J J isAgg87 sizeOf87 (cY J J)),aj (.cons _ (.cons _ (.cons _ (.refl _)))) (.refl _),Kk,J⟩
def tJ:∀(N:Nat)(e:aP),e.nodes <= N -> N <= 1000000000 -> ∀(A B:List aT)(D gg gm gf gk gl:Nat)(p:aZ)(l:List bK)(gs ms fs lk lo:bd)(c5 c6 c7 c8:aN)(rw:List aS)(hM:db gs ms fs lk lo l)(hW:mt gg gm gf gk gl gs ms fs lk lo rw)(hE:cO l e=0),aR prog 108 [aE D,.agg (bb e)] [] ⟨A++⟨D,77,[aD gg,aD gm,aD gf,aD gl,aD gk,c5,c6,c7,c8]⟩::B,rw⟩ λt s'=>t=.agg (bb (cW l e)) /\ s'=⟨A++⟨D,77,[aD gg,aD gm,aD gf,aD gl,aD gk,c5,c6,c7,c8]⟩::B,rw⟩
 |0,e,h,_=>pd
 |N+1,e,h,hN=>λA B D gg gm gf gk gl p l gs ms fs lk lo c5 c6 c7 c8 rw hM hW hE=>by
  exact Nl A B D gg gm gf gk gl p l gs ms fs lk lo c5 c6 c7 c8 rw hM hW e Y hE λh2 k hk A rw hW=>tJ N e.args[k] pH Y A B D gg gm gf gk gl p l gs ms fs lk lo c5 c6 c7 c8 rw hM hW (EG l e.args (by rw [vN,if_neg h2] at hE;exact hE) k hk)
def BI(A B:List aT)(X:Nat)(p:aZ)(l:List bK)(loc n:Int)(q:iH)(c8 c9:aN)(rw:List aS)(r:cD)(s:Int)(hl:l.length <= 1000000000)(hok:oH p l)(hN:dD r.index <= 1000000000):aR prog 106 [aE X,.agg (encR r),bB s] [X] ⟨A++⟨X,165,[aB ak p.globals,aB aU p.mutexes,aB ac p.funcs,aB bP l,aA loc,aA n,aA q.2,am q.1,c8,c9]⟩::B,rw⟩ λt s'=>t=.agg (ec (eH l r)) /\ s'=⟨A++⟨X,165,[aB ak p.globals,aB aU p.mutexes,aB ac p.funcs,aB bP l,aA loc,aA n,aA ((cP q (dq p l r) s).2),aA (((cP q (dq p l r) s).1:Nat):Int),c8,c9]⟩::B,rw⟩:=by
 have hix:∀k (h:k<r.index.length),r.index[k].nodes <= 1000000000:=λk h=>by have:=oG r.index k h;omega
 have hlen:=tO r.index;refine bN 92 func106 ?_;refine go 6 λb1 b2=>?_;refine qS (λg:Nat=>(⟨92,[g,b2,b1,X],⟨⟨g,111,bP (bL l r.name)⟩::⟨b2,89,[bD false,aA 0,aI]⟩::⟨b1,117,encR r⟩::A++⟨X,165,[aB ak p.globals,aB aU p.mutexes,aB ac p.funcs,aB bP l,aA loc,aA n,aA q.2,am q.1,c8,c9]⟩::B,rw⟩,[(7,aE g),(8,ap ((bI l r.name).isSome)),(0,aE X),(2,bB s),(4,aE b1),(6,aE b2)]⟩:AS)) ?_ ?_
 ·refine b_ [b2,b1,X] (aY [0,1,2,3,4,5] 7 (go 7 ?_));refine cx 6 10 J ?_ ?_
  ·refine (fX J J V call40 J (qf l r.name Y _) ?_);rintro _ _ ⟨rfl,rfl⟩;refine cU [(7,true),(8,true),(9,true),(10,false),(11,false),(12,true)] 0 (go 7 λb3=>?_);refine bG ?_;exact ⟨b3,zi⟩
  refine (iG J J V zeroValue111 J λb4=>?_);refine an 6 J J (fX J J V call40 J (qf l r.name Y _) ?_);rintro _ _ ⟨rfl,rfl⟩;refine cU [(7,true),(8,true),(9,true),(11,false),(12,true)] 0 (go 6 ?_);refine bG ?_;exact ⟨b4,zi⟩
 intro b5
 try dsimp only
 refine go 4 ?_;refine aF J (ej (decide ((bL l r.name).kind=5)) J J J GX) (go 7 λb6=>?_);refine qS (λg:Unit=>(⟨92,[b6,b5,b2,b1,X],⟨⟨b6,89,[bD (decide ((bL l r.name).kind=5)),aA (((bL l r.name).n:Nat):Int),aI]⟩::⟨b5,111,bP (bL l r.name)⟩::⟨b2,89,[bD false,aA 0,aI]⟩::⟨b1,117,encR r⟩::A++⟨X,165,[aB ak p.globals,aB aU p.mutexes,aB ac p.funcs,aB bP l,aA loc,aA n,aA ((cP q (jf p r.index.length (bI l r.name)) s).2),aA (((cP q (jf p r.index.length (bI l r.name)) s).1:Nat):Int),c8,c9]⟩::B,rw⟩,[(0,aE X),(2,bB s),(4,aE b1),(6,aE b2),(7,aE b5),(9,aE b6)]⟩:AS)) ?_ ?_
 ·refine go 4 ?_;rcases bq ((bI l r.name).isSome) with h1|h1
  ·refine aF J (cI (bF (oX h1)) (iY J J)) (go 8 ?_);by_cases h3:(bL l r.name).kind=2
   ·refine aC false J (dv h3) (go 10 ?_);refine b_ [b6,b5,b2,b1,X] (aY [0,1] 15 (go 3 ?_));refine ab 2 J (ej true J J J (bg h3)) (aY [3,4,5,6,7,8,9,10] 6 (go 9 ?_));have hms:(bL l r.name).n<p.mutexes.length:=hok.ms _ _ (ko h1) Y;refine ab 11 J (bS aU aU p.mutexes kI (λ_=>J) ((bL l r.name).n) J J J J hms V runUnderlying24 sizeOf60) (aY [12,13] 3 (go 3 ?_));by_cases h5:(0:Int)<p.mutexes[(bL l r.name).n].size
    ·refine ab 14 J (ej true J J J (ek h5)) (aY [15,16] 0 (go 3 ?_));refine bG (go 7 ?_);by_cases h6:(0:Int)<((r.index.length:Nat):Int)
     ·refine aC true J (ek h6) ?_;refine aF J (io false J J J runUnderlying4 J) (go 5 ?_);have h8:(cP q (jf p r.index.length (bI l r.name)) s)=q:=by rw [sR h1,if_pos Y,xA (hok.ms _ _ (ko h1) Y),decide_eq_true (show (bL l r.name).kind=2 by omega),decide_eq_true (show 0<(p.mutexes[(bL l r.name).n]'(hok.ms _ _ (ko h1) Y)).size by omega),decide_eq_true (show 0<r.index.length by omega)];exact mo _ _
      exact ⟨(),by rw [h8];exact az (λb hb=>hb)⟩
     refine aC false J (em h6) ?_;refine aF J (io true J J J runUnderlying4 J) (go 6 ?_);refine aW J (bj [X] J J V call102 J (mE (_::_::_::_::A) B X p l loc n q _ _ rw 8 s V) dV dS jH ?_);rintro _ _ ⟨rfl,rfl⟩;refine go 2 ?_;have h10:(cP q (jf p r.index.length (bI l r.name)) s)=(cP q 8 s):=by rw [sR h1,if_pos Y,xA (hok.ms _ _ (ko h1) Y),decide_eq_true (show (bL l r.name).kind=2 by omega),decide_eq_true (show 0<(p.mutexes[(bL l r.name).n]'(hok.ms _ _ (ko h1) Y)).size by omega),decide_eq_false (show ¬0<r.index.length by omega)];exact rfl
     exact ⟨(),by rw [h10];exact az (λb hb=>hb)⟩
    refine ab 14 J (ej false J J J (em h5)) (aY [15,16] 0 (go 3 ?_));refine bG (go 7 ?_);by_cases h11:(0:Int)<((r.index.length:Nat):Int)
    ·refine aC true J (ek h11) ?_;refine aF J (io true J J J runUnderlying4 J) (go 6 ?_);refine aW J (bj [X] J J V call102 J (mE (_::_::_::_::A) B X p l loc n q _ _ rw 8 s V) dV dS jH ?_);rintro _ _ ⟨rfl,rfl⟩;refine go 2 ?_;have h13:(cP q (jf p r.index.length (bI l r.name)) s)=(cP q 8 s):=by rw [sR h1,if_pos Y,xA (hok.ms _ _ (ko h1) Y),decide_eq_true (show (bL l r.name).kind=2 by omega),decide_eq_false (show ¬0<(p.mutexes[(bL l r.name).n]'(hok.ms _ _ (ko h1) Y)).size by omega),decide_eq_true (show 0<r.index.length by omega)];exact rfl
     exact ⟨(),by rw [h13];exact az (λb hb=>hb)⟩
    refine aC false J (em h11) ?_;refine aF J (io false J J J runUnderlying4 J) (go 5 ?_);have h15:(cP q (jf p r.index.length (bI l r.name)) s)=q:=by rw [sR h1,if_pos Y,xA (hok.ms _ _ (ko h1) Y),decide_eq_true (show (bL l r.name).kind=2 by omega),decide_eq_false (show ¬0<(p.mutexes[(bL l r.name).n]'(hok.ms _ _ (ko h1) Y)).size by omega),decide_eq_false (show ¬0<r.index.length by omega)];exact mo _ _
    exact ⟨(),by rw [h15];exact az (λb hb=>hb)⟩
   refine aC true J (fe h3) (go 3 ?_);by_cases h16:(bL l r.name).kind=5
   ·refine aC false J (dv h16) (go 6 ?_);refine b_ [b6,b5,b2,b1,X] (aY [0,1] 15 (go 3 ?_));refine ab 2 J (ej false J J J (bZ h3)) (aY [3,4,5,6,7,8,9,10,11,12,13,14,15,16] 0 (go 15 ?_));refine bG (go 7 ?_);by_cases h18:(0:Int)<((r.index.length:Nat):Int)
    ·refine aC true J (ek h18) ?_;refine aF J (io true J J J runUnderlying4 J) (go 6 ?_);refine aW J (bj [X] J J V call102 J (mE (_::_::_::_::A) B X p l loc n q _ _ rw 8 s V) dV dS jH ?_);rintro _ _ ⟨rfl,rfl⟩;refine go 2 ?_;have h20:(cP q (jf p r.index.length (bI l r.name)) s)=(cP q 8 s):=by rw [sR h1,if_pos Y,decide_eq_false (show ¬(bL l r.name).kind=2 by omega),AN,decide_eq_true (show 0<r.index.length by omega)];exact rfl
     exact ⟨(),by rw [h20];exact az (λb hb=>hb)⟩
    refine aC false J (em h18) ?_;refine aF J (io false J J J runUnderlying4 J) (go 5 ?_);have h22:(cP q (jf p r.index.length (bI l r.name)) s)=q:=by rw [sR h1,if_pos Y,decide_eq_false (show ¬(bL l r.name).kind=2 by omega),AN,decide_eq_false (show ¬0<r.index.length by omega)];exact mo _ _
    exact ⟨(),by rw [h22];exact az (λb hb=>hb)⟩
   refine aC true J (fe h16) (go 8 ?_);refine aW J (bj [X] J J V call102 J (mE (_::_::_::_::A) B X p l loc n q _ _ rw 8 s V) dV dS jH ?_);rintro _ _ ⟨rfl,rfl⟩;refine go 2 ?_;have h24:(cP q (jf p r.index.length (bI l r.name)) s)=(cP q 8 s):=by rw [sR h1,if_neg Y]
   exact ⟨(),by rw [h24];exact az (λb hb=>hb)⟩
  refine aF J (cI (bF (ol h1)) (iY J J)) (go 7 ?_);refine aW J (bj [X] J J V call102 J (mE (_::_::_::_::A) B X p l loc n q _ _ rw 6 s V) dV dS jH ?_);rintro _ _ ⟨rfl,rfl⟩;refine go 2 ?_;have h26:(cP q (jf p r.index.length (bI l r.name)) s)=(cP q 6 s):=by rw [N9 h1]
  exact ⟨(),by rw [h26];exact az (λb hb=>hb)⟩
 rintro ⟨⟩
 try dsimp only
 refine go 7 ?_;refine fZ 87 4 ?_;refine ir (α:=aM×iH) (λk g=>g.2=cP (cP q (jf p r.index.length (bI l r.name)) s) (gT l (r.index.take k)) s) (r.index.length) 11 (λg=>aO g.1++[b6,b5,b2,b1,X]) (λk g=>⟨⟨b6,89,[bD (decide ((bL l r.name).kind=5)),aA (((bL l r.name).n:Nat):Int),.val g.1]⟩::⟨b5,111,bP (bL l r.name)⟩::⟨b2,89,[bD false,aA 0,aI]⟩::⟨b1,117,encR r⟩::A++⟨X,165,[aB ak p.globals,aB aU p.mutexes,aB ac p.funcs,aB bP l,aA loc,aA n,aA g.2.2,am g.2.1,c8,c9]⟩::B,⟨g.1,87,4,k,((r.index.take k).map (cW l)).flatMap bR⟩::rw⟩) (λ_=>[(0,aE X),(2,bB s),(4,aE b1),(6,aE b2),(9,aE b6)]) (.slice none 0 0,(cP q (jf p r.index.length (bI l r.name)) s)) (by rw [lM,gT,mo]) (az sq) ?_;rintro k ⟨v,qq⟩ hk hvk;replace hvk:qq=cP (cP q (jf p r.index.length (bI l r.name)) s) (gT l (r.index.take k)) s:=hvk
 try dsimp only
 refine go 7 ?_;by_cases h27:((k:Nat):Int)<((r.index.length:Nat):Int)
 ·refine aC true J (ck h27) (go 7 ?_);refine kf 12 [b6,b5,b2,b1] [] #[true,true,true,true,true,true,true,true,true,true,true,true,false,false] aQ aQ aQ ?_;refine aY [0,1,2,3,4,5] 6 (go 7 ?_);refine ab 6 J (bS bR bb r.index fw ei k J J J J Y V runUnderlying85 sizeOf87) (aY [7,8] 3 (go 3 ?_));refine an 9 J J (bj [X] J J V call103 J (t2 (_::_::_::_::A) B X p l loc n qq _ _ (_::rw) r.index[k] s hl (hix k Y)) dV dS JS ?_);rintro _ _ ⟨rfl,rfl⟩;refine an 10 J J (be (hf:=dU bR bb (cW l r.index[k]) (ei _) J J) ni ?_);refine an 11 J J (dR [] tN J (fN bR 4 fw _) V c_ Y (N:=k+1) J (λhn b hb=>eY (r:=(⟨v,87,4,k,((r.index.take k).map (cW l)).flatMap bR⟩:aS)) hn hb) bz.h (r:=((r.index.take (k+1)).map (cW l)).flatMap bR) (tX (cW l) bR r.index k Y) λw7=>?_);refine bG ?_;refine id ?_;refine cU [(12,true),(13,false)] 0 (go 3 ?_);refine bG (go 4 ?_);refine bJ J (go 2 ?_);exact ⟨Y,(w7,(cP qq (cO l r.index[k]) s)),(by rw [hvk];exact FI l r.index k Y (cP q (jf p r.index.length (bI l r.name)) s) s),az (h:=av J (bv Y) (ao J)) j4⟩
 refine aC false J (cg h27) (go 10 ?_);obtain rfl:k=r.index.length:=Y;rw [gq];refine iE (cs':=[bD (decide ((bL l r.name).kind=5)),aA (((bL l r.name).n:Nat):Int),.sl r.index.length ((r.index.map (cW l)).flatMap bR)]) [] 2 J J ?_;show cL prog _ _ ⟨_,_,⟨⟨b6,89,[bD (decide ((bL l r.name).kind=5)),aA (((bL l r.name).n:Nat):Int),.sl r.index.length ((r.index.map (cW l)).flatMap bR)]⟩::⟨b5,111,bP (bL l r.name)⟩::⟨b2,89,[bD false,aA 0,aI]⟩::⟨b1,117,encR r⟩::A++⟨X,165,[aB ak p.globals,aB aU p.mutexes,aB ac p.funcs,aB bP l,aA loc,aA n,aA qq.2,am qq.1,c8,c9]⟩::B,rw⟩,_⟩ _;refine go 5 ?_;exact ⟨.inr J,_,⟨A++⟨X,165,[aB ak p.globals,aB aU p.mutexes,aB ac p.funcs,aB bP l,aA loc,aA n,aA qq.2,am qq.1,c8,c9]⟩::B,rw⟩,bT J (cS [_,_] J J isAgg89 sizeOf89 (cY J J)),aj (.cons _ (.cons _ (.cons _ (.cons _ (.refl _))))) (.refl _),by unfold eH ec;dsimp only;first|rw [fW]|(unfold aB;rw [fW]),by unfold dq;rw [←sJ,hvk,gq]⟩
def Uj(a:Nat):dE a 0=a:=by unfold dE;split<;>simp_all
def BQ(p:aZ)(l:List bK)(x:List bp):ia p l [] x=0:=by cases x<;>simp [ia]
def Kx(x:List bp):gp [] x=[]:=by cases x<;>simp [gp]
def CL:∀(a:List cK)(x:List bp)(a':List cK)(x':List bp),a.length=x.length -> gp a x=a -> gp (a++a') (x++x')=a++gp a' x'
 |[],[],_,_,_,_=>rfl
 |[],_::_,_,_,h,_=>pk
 |_::_,[],_,_,h,_=>pk
 |a::r,x::xs,a',x',h,hn=>by
  rw [gp] at hn;rw [eD,eD,gp];by_cases hm:a.mutex=x.mutex
  ·rw [if_pos hm] at hn⊢;rw [CL r xs a' x' iW (List.cons.inj hn).2];rfl
  rw [if_neg hm] at hn;cases hn
def DX(p:aZ)(l:List bK):∀(a:List cK)(x:List bp)(a':List cK)(x':List bp),a.length=x.length -> gp a x=a -> ia p l (a++a') (x++x')=dE (ia p l a x) (ia p l a' x')
 |[],[],a',x',_,_=>by rw [dw,dw,BQ,I0]
 |[],_::_,_,_,h,_=>pk
 |_::_,[],_,_,h,_=>pk
 |a::r,x::xs,a',x',h,hn=>by
  rw [gp] at hn;rw [eD,eD,ia,ia];by_cases hm:a.mutex=x.mutex
  ·rw [if_pos hm] at hn⊢;rw [if_pos hm,DX p l r xs a' x' iW (List.cons.inj hn).2,FT]
  rw [if_neg hm] at hn;cases hn
section
variable {p:aZ}{l:List bK}{al:List cK}{xs:List bp}{k:Nat}(hl:xs.length=al.length)(hk:k<xs.length)(hn:gp (al.take k) (xs.take k)=al.take k)
include hl hk hn
theorem LD(hm:al[k].mutex=xs[k].mutex):gp (al.take (k+1)) (xs.take (k+1))=al.take (k+1) /\ ia p l (al.take (k+1)) (xs.take (k+1))=dE (ia p l (al.take k) (xs.take k)) (rm p l al[k]):=by
 have h1:(al.take k).length=(xs.take k).length:=IW;rw [ga (Y:k<al.length),ga hk,CL _ _ _ _ h1 hn,DX p l _ _ _ _ h1 hn];refine ⟨by rw [gp,if_pos hm,Kx],?_⟩;rw [ia,if_pos hm,BQ,Uj]
theorem Fs(hm:¬al[k].mutex=xs[k].mutex):gp al xs=al.take k /\ ia p l al xs=dE (ia p l (al.take k) (xs.take k)) 8:=by
 have h1:(al.take k).length=(xs.take k).length:=IW;have aa:al=al.take k++al[k]::al.drop (k+1):=by rw [←iK Y];exact (pq k al).symm
 have e2:xs=xs.take k++xs[k]::xs.drop (k+1):=by rw [←iK hk];exact (pq k xs).symm
 have a1:=CL (al.take k) (xs.take k) (al[k]::al.drop (k+1)) (xs[k]::xs.drop (k+1)) h1 hn;have a2:=DX p l (al.take k) (xs.take k) (al[k]::al.drop (k+1)) (xs[k]::xs.drop (k+1)) h1 hn;rw [←aa,←e2] at a1 a2;rw [a1,a2,gp,if_neg hm,ia,if_neg hm,eC];exact ⟨J,J⟩
end
def Iu{l:List bK}{al:List cK}{k:Nat}(h:k<al.length)(hm:al[k].mutex=true):da l (al.take (k+1))=da l (al.take k) /\ d5 l (al.take (k+1))=d5 l (al.take k)++[eH l al[k].ref]:=by
 unfold da d5;rw [ga h];simp only [CY,ed,AP,List.filter_nil,hm];simp
def Mf{l:List bK}{al:List cK}{k:Nat}(h:k<al.length)(hm:al[k].mutex=false):d5 l (al.take (k+1))=d5 l (al.take k) /\ da l (al.take (k+1))=da l (al.take k)++[cW l al[k].expr]:=by
 unfold da d5;rw [ga h];simp only [CY,ed,AP,List.filter_nil,hm];simp
def Ld(l:List bK)(al:List cK):(da l al).length <= al.length /\ (d5 l al).length <= al.length:=by
 unfold da d5;rw [fW,fW];exact ⟨EX _ _,EX _ _⟩
def QH{p:aZ}{l:List bK}{al:List cK}{x:aG}{op:Int}(h:(bI l x).isSome=false):mi p l al (bI l x)=6 /\ mQ p l al op (bI l x)=⟨op,0,false,.zero,dB,[],[]⟩:=by
 rcases h2:bI l x with _|v
 ·exact ⟨J,J⟩
 rw [h2] at h;cases h
def Sw{p:aZ}{l:List bK}{al:List cK}{x:aG}{op:Int}(h:(bI l x).isSome=true)(hk:¬(bL l x).kind=3):mi p l al (bI l x)=8 /\ mQ p l al op (bI l x)=⟨op,0,false,.zero,dB,[],[]⟩:=by
 rw [ko h];exact ⟨if_neg hk,if_neg hk⟩
def S6{p:aZ}{l:List bK}{al:List cK}{x:aG}{op:Int}(h:(bI l x).isSome=true)(hk:(bL l x).kind=3)(hl:¬(iy p (bL l x).n).length=al.length):mi p l al (bI l x)=7 /\ mQ p l al op (bI l x)=⟨op,(bL l x).n,false,.zero,dB,[],[]⟩:=by
 rw [ko h];exact ⟨(if_pos hk).trans (if_neg hl),(if_pos hk).trans (if_neg hl)⟩
def EJ{p:aZ}{l:List bK}{al:List cK}{x:aG}{op:Int}(h:(bI l x).isSome=true)(hk:(bL l x).kind=3)(hl:(iy p (bL l x).n).length=al.length):mi p l al (bI l x)=ia p l al (iy p (bL l x).n) /\ mQ p l al op (bI l x)=⟨op,(bL l x).n,false,.zero,dB,da l (gp al (iy p (bL l x).n)),d5 l (gp al (iy p (bL l x).n))⟩:=by
 rw [ko h];exact ⟨(if_pos hk).trans (if_pos hl),(if_pos hk).trans (if_pos hl)⟩
def Ib(A B:List aT)(X:Nat)(p:aZ)(l:List bK)(loc n:Int)(q:iH)(c8 c9:aN)(rw:List aS)(y:aL)(s:Int)(hl:l.length <= 1000000000)(hok:oH p l)(hw:y.wt <= 900000000):aR prog 105 [aE X,.agg (dW y),bB s] [X] ⟨A++⟨X,165,[aB ak p.globals,aB aU p.mutexes,aB ac p.funcs,aB bP l,aA loc,aA n,aA q.2,am q.1,c8,c9]⟩::B,rw⟩ λt s'=>t=.agg (encI (fv p l y)) /\ s'=⟨A++⟨X,165,[aB ak p.globals,aB aU p.mutexes,aB ac p.funcs,aB bP l,aA loc,aA n,aA ((cP q (dx p l y) s).2),aA (((cP q (dx p l y) s).1:Nat):Int),c8,c9]⟩::B,rw⟩:=by
 have hwp:=f6 y;have hal:=oj y.args;have hak:∀k (h:k<y.args.length),y.args[k].expr.nodes <= 900000000 /\ dD y.args[k].ref.index <= 900000000:=λk h=>FC;refine bN 112 func105 ?_;refine go 13 λb1 b2 b3=>?_;refine qS (λg:Unit=>(⟨112,[b3,b2,b1,X],⟨⟨b3,92,[aA (if y.kind=4 then 3 else 2),aA 0,bD false,aA 0,aA 0,ae ax,aI,bD false,aA 0,aI,aI,aI]⟩::⟨b2,92,[aA 0,aA 0,bD false,aA 0,aA 0,ae ax,aI,bD false,aA 0,aI,aI,aI]⟩::⟨b1,120,dW y⟩::A++⟨X,165,[aB ak p.globals,aB aU p.mutexes,aB ac p.funcs,aB bP l,aA loc,aA n,aA q.2,am q.1,c8,c9]⟩::B,rw⟩,[(0,aE X),(2,bB s),(4,aE b1),(6,aE b2),(7,aE b3)]⟩:AS)) ?_ ?_
 ·refine go 4 ?_;by_cases h1:y.kind=4
  ·refine aC true J (bg h1) (go 7 ?_);have h3:(if y.kind=4 then (3:Int) else 2)=3:=if_pos Y;exact ⟨(),by rw [h3];exact az (λb hb=>hb)⟩
  refine aC false J (bZ h1) (go 4 ?_);have h5:(if y.kind=4 then (3:Int) else 2)=2:=if_neg Y;exact ⟨(),by rw [h5];exact az (λb hb=>hb)⟩
 rintro ⟨⟩
 try dsimp only
 refine qS (λg:Nat=>(⟨112,[g,b3,b2,b1,X],⟨⟨g,111,bP (bL l y.name)⟩::⟨b3,92,[aA (if y.kind=4 then 3 else 2),aA 0,bD false,aA 0,aA 0,ae ax,aI,bD false,aA 0,aI,aI,aI]⟩::⟨b2,92,[aA 0,aA 0,bD false,aA 0,aA 0,ae ax,aI,bD false,aA 0,aI,aI,aI]⟩::⟨b1,120,dW y⟩::A++⟨X,165,[aB ak p.globals,aB aU p.mutexes,aB ac p.funcs,aB bP l,aA loc,aA n,aA q.2,am q.1,c8,c9]⟩::B,rw⟩,[(8,aE g),(9,ap ((bI l y.name).isSome)),(0,aE X),(2,bB s),(4,aE b1),(6,aE b2),(7,aE b3)]⟩:AS)) ?_ ?_
 ·refine b_ [b3,b2,b1,X] (aY [0,1,2,3,4,5] 7 (go 7 ?_));refine cx 6 10 J ?_ ?_
  ·refine (fX J J V call40 J (qf l y.name Y _) ?_);rintro _ _ ⟨rfl,rfl⟩;refine cU [(7,true),(8,true),(9,true),(10,false),(11,false),(12,true)] 0 (go 7 λb4=>?_);refine bG ?_;exact ⟨b4,zi⟩
  refine (iG J J V zeroValue111 J λb5=>?_);refine an 6 J J (fX J J V call40 J (qf l y.name Y _) ?_);rintro _ _ ⟨rfl,rfl⟩;refine cU [(7,true),(8,true),(9,true),(11,false),(12,true)] 0 (go 6 ?_);refine bG ?_;exact ⟨b5,zi⟩
 intro b6
 try dsimp only
 refine go 5 ?_;rcases bq ((bI l y.name).isSome) with h6|h6
 ·refine aF J (cI (bF (oX h6)) (iY J J)) (go 8 ?_);by_cases h8:(bL l y.name).kind=3
  ·refine aC false J (dv h8) (go 16 ?_);refine b_ [b6,b3,b2,b1,X] ?_;have hms:(bL l y.name).n<p.funcs.length:=hok.fs _ _ (ko kY) Y;refine aY [0,1,2,3,4,5,6] 4 (go 8 ?_);refine ab 7 J (bS ac ac p.funcs mI (λ_=>J) ((bL l y.name).n) J J J J hms V runUnderlying25 sizeOf67) (aY [8,9,10] 0 (go 4 ?_));refine bG (go 4 ?_);have hpa:iy p (bL l y.name).n=p.funcs[(bL l y.name).n].params:=zS hms;generalize p.funcs[(bL l y.name).n].params=ps at hpa⊢;refine go 5 ?_;by_cases h10:((ps.length:Nat):Int)=((y.args.length:Nat):Int)
   ·refine aC false J (dv h10) (go 8 ?_);have hlen:ps.length=y.args.length:=Y;refine go 4 ?_;refine fZ 89 3 ?_;refine fZ 87 4 ?_;refine ir (α:=aM×aM×iH) (λk g=>g.2.2=cP q (ia p l (y.args.take k) (ps.take k)) s /\ gp (y.args.take k) (ps.take k)=y.args.take k) (ps.length) 11 (λg=>aO g.1++(aO g.2.1++[b6,b3,b2,b1,X])) (λk g=>⟨⟨b6,111,bP (bL l y.name)⟩::⟨b3,92,[aA (if y.kind=4 then 3 else 2),aA (((bL l y.name).n:Nat):Int),bD false,aA 0,aA 0,ae ax,aI,bD false,aA 0,aI,.val g.1,.val g.2.1]⟩::⟨b2,92,[aA 0,aA 0,bD false,aA 0,aA 0,ae ax,aI,bD false,aA 0,aI,aI,aI]⟩::⟨b1,120,dW y⟩::A++⟨X,165,[aB ak p.globals,aB aU p.mutexes,aB ac p.funcs,aB bP l,aA loc,aA n,aA g.2.2.2,am g.2.2.1,c8,c9]⟩::B,⟨g.1,87,4,(da l (y.args.take k)).length,(da l (y.args.take k)).flatMap bR⟩::⟨g.2.1,89,3,(d5 l (y.args.take k)).length,(d5 l (y.args.take k)).flatMap ec⟩::rw⟩) (λ_=>[(0,aE X),(2,bB s),(4,aE b1),(6,aE b2),(7,aE b3),(10,.c (aB cG ps))]) (.slice none 0 0,.slice none 0 0,q) ⟨by rw [lM,lM,BQ,mo],by rw [lM,lM,Kx]⟩ (az sq) ?_;rintro k ⟨vi,vp,qq⟩ hk ⟨hvk,hnk⟩;dsimp only at hvk hnk;have hik:=Ld l (y.args.take k);rw [j8] at hik;have hik2:min k y.args.length <= k:=Nat.min_le_left _ _
    try dsimp only
    refine go 6 ?_;by_cases h12:((k:Nat):Int)<((ps.length:Nat):Int)
    ·refine aC true J (ck h12) (go 12 ?_);refine aF J (bS dA dA y.args mj (λ_=>J) k J J J J Y V runUnderlying118 sizeOf135) (go 7 λb7=>?_);refine b_ [b7,b6,b3,b2,b1,X] (aY [0] 7 (go 2 ?_));rcases bq (y.args[k].mutex) with h14|h14
     ·refine ab 1 J (cI (bF h14) (ca (hU:=λ_ h=>(gK.1 h).2 aK) [] isAgg4 sizeOf4)) (aY [2,3] 4 (go 3 ?_));refine ab 4 J (bS cG cG ps gx (λ_=>J) k J J J J Y V runUnderlying64 sizeOf69) (aY [5] 2 (go 2 ?_));rcases bq (ps[k].mutex) with h15|h15
      ·refine ab 6 J (cI (bF h15) (jh J J isAgg4 sizeOf4 J)) ?_;refine ab 7 J (io false J J J runUnderlying4 J) ?_;refine bG (go 7 ?_);refine aF J (cI (bF h14) (ca [] isAgg4 sizeOf4)) (go 3 ?_);refine kf 9 [b7,b6,b3,b2,b1] [] #[true,true,true,true,true,true,true,true,true,false,false] aQ aQ aQ ?_;refine aY [0,1,2,3,4,5] 3 (go 7 ?_);refine an 6 J J (bj [X] J J V call106 J (BI (_::_::_::_::_::A) B X p l loc n qq _ _ (_::_::rw) y.args[k].ref s hl hok uh) dV dS Ja ?_);rintro _ _ ⟨rfl,rfl⟩;refine an 7 J J (be (hf:=dU ec ec (eH l y.args[k].ref) J J J) GQ ?_);refine an 8 J J (dR [_] KJ J (fN ec 3 yA _) V AZ Y (@length_append _ (d5 l (y.args.take k)) [(eH l y.args[k].ref)]).symm (λhn b hb=>eY (r:=(⟨vp,89,3,(d5 l (y.args.take k)).length,(d5 l (y.args.take k)).flatMap ec⟩:aS)) hn hb) bz.h (d4 (f:=ec)).symm λw8=>?_);refine bG ?_;refine id ?_;refine cU [(9,true),(10,false)] 0 (go 3 ?_);refine bG (go 4 ?_);refine bJ J (go 2 ?_);obtain ⟨hy1,hy2⟩:=LD (p:=p) (l:=l) (k:=k) hlen Y hnk (h14.trans h15.symm);obtain ⟨he1,he2⟩:=Iu (l:=l) (k:=k) (al:=y.args) Y h14;exact ⟨Y,(vi,w8,(cP qq (dq p l y.args[k].ref) s)),⟨Jl,hy1⟩,y8⟩
      refine ab 6 J (cI (bF h15) (jh J J isAgg4 sizeOf4 J)) ?_;refine ab 7 J (io true J J J runUnderlying4 J) ?_;refine bG (go 6 ?_);refine aW J (bj [X] J J V call102 J (mE (_::_::_::_::_::A) B X p l loc n qq _ _ (_::_::rw) 8 s V) dV dS jH ?_);rintro _ _ ⟨rfl,rfl⟩;refine go 4 ?_;refine iE (cs':=[aA (if y.kind=4 then 3 else 2),aA (((bL l y.name).n:Nat):Int),bD false,aA 0,aA 0,ae ax,aI,bD false,aA 0,aI,.sl (da l (y.args.take k)).length ((da l (y.args.take k)).flatMap bR),.val vp]) [_,_] 10 J J ?_;show cL prog _ _ ⟨_,_,⟨⟨b7,135,dA y.args[k]⟩::⟨b6,111,bP (bL l y.name)⟩::⟨b3,92,[aA (if y.kind=4 then 3 else 2),aA (((bL l y.name).n:Nat):Int),bD false,aA 0,aA 0,ae ax,aI,bD false,aA 0,aI,.sl (da l (y.args.take k)).length ((da l (y.args.take k)).flatMap bR),.val vp]⟩::⟨b2,92,[aA 0,aA 0,bD false,aA 0,aA 0,ae ax,aI,bD false,aA 0,aI,aI,aI]⟩::⟨b1,120,dW y⟩::A++⟨X,165,[aB ak p.globals,aB aU p.mutexes,aB ac p.funcs,aB bP l,aA loc,aA n,aA ((cP qq 8 s).2),aA (((cP qq 8 s).1:Nat):Int),c8,c9]⟩::B,⟨vp,89,3,(d5 l (y.args.take k)).length,(d5 l (y.args.take k)).flatMap ec⟩::rw⟩,_⟩ _;refine iE (cs':=[aA (if y.kind=4 then 3 else 2),aA (((bL l y.name).n:Nat):Int),bD false,aA 0,aA 0,ae ax,aI,bD false,aA 0,aI,.sl (da l (y.args.take k)).length ((da l (y.args.take k)).flatMap bR),.sl (d5 l (y.args.take k)).length ((d5 l (y.args.take k)).flatMap ec)]) [_,_] 11 J J ?_;show cL prog _ _ ⟨_,_,⟨⟨b7,135,dA y.args[k]⟩::⟨b6,111,bP (bL l y.name)⟩::⟨b3,92,[aA (if y.kind=4 then 3 else 2),aA (((bL l y.name).n:Nat):Int),bD false,aA 0,aA 0,ae ax,aI,bD false,aA 0,aI,.sl (da l (y.args.take k)).length ((da l (y.args.take k)).flatMap bR),.sl (d5 l (y.args.take k)).length ((d5 l (y.args.take k)).flatMap ec)]⟩::⟨b2,92,[aA 0,aA 0,bD false,aA 0,aA 0,ae ax,aI,bD false,aA 0,aI,aI,aI]⟩::⟨b1,120,dW y⟩::A++⟨X,165,[aB ak p.globals,aB aU p.mutexes,aB ac p.funcs,aB bP l,aA loc,aA n,aA ((cP qq 8 s).2),aA (((cP qq 8 s).1:Nat):Int),c8,c9]⟩::B,rw⟩,_⟩ _;obtain ⟨hno1,hno2⟩:=Fs (p:=p) (l:=l) (k:=k) hlen Y hnk (by rw [h14,h15];decide);refine go 11 ?_
      obtain ⟨hz1,hz2⟩:=((EJ h6 Y A'):mi p l y.args (bI l y.name)=_ /\ mQ p l y.args (if y.kind=4 then 3 else 2) (bI l y.name)=_);rw [hpa] at hz1 hz2;rw [hno1] at hz2;rw [hno2] at hz1;exact ⟨.inr J,_,⟨A++⟨X,165,[aB ak p.globals,aB aU p.mutexes,aB ac p.funcs,aB bP l,aA loc,aA n,aA ((cP qq 8 s).2),aA (((cP qq 8 s).1:Nat):Int),c8,c9]⟩::B,rw⟩,bT J (gP (bu.agg (.r (.r (.r (.r (.r (.r (.n (.r (.r (.n (.r (.r .nil))))))))))))) (cS [_,_,_] J J isAgg92 sizeOf92 (cY J J))),aj (.cons _ (.cons _ (.cons _ (.cons _ (.cons _ (.refl _)))))) (.refl _),vz,by unfold dx;rw [hz1,hvk,sJ]⟩
     refine ab 1 J (cI (bF h14) (ca (hU:=λ_ h=>(gK.1 h).2 aK) [] isAgg4 sizeOf4)) (aY [2,3] 4 (go 3 ?_));refine ab 4 J (bS cG cG ps gx (λ_=>J) k J J J J Y V runUnderlying64 sizeOf69) (aY [5] 2 (go 2 ?_));rcases bq (ps[k].mutex) with h19|h19
     ·refine ab 6 J (cI (bF h19) (jh J J isAgg4 sizeOf4 J)) ?_;refine ab 7 J (io true J J J runUnderlying4 J) ?_;refine bG (go 6 ?_);refine aW J (bj [X] J J V call102 J (mE (_::_::_::_::_::A) B X p l loc n qq _ _ (_::_::rw) 8 s V) dV dS jH ?_);rintro _ _ ⟨rfl,rfl⟩;refine go 4 ?_;refine iE (cs':=[aA (if y.kind=4 then 3 else 2),aA (((bL l y.name).n:Nat):Int),bD false,aA 0,aA 0,ae ax,aI,bD false,aA 0,aI,.sl (da l (y.args.take k)).length ((da l (y.args.take k)).flatMap bR),.val vp]) [_,_] 10 J J ?_;show cL prog _ _ ⟨_,_,⟨⟨b7,135,dA y.args[k]⟩::⟨b6,111,bP (bL l y.name)⟩::⟨b3,92,[aA (if y.kind=4 then 3 else 2),aA (((bL l y.name).n:Nat):Int),bD false,aA 0,aA 0,ae ax,aI,bD false,aA 0,aI,.sl (da l (y.args.take k)).length ((da l (y.args.take k)).flatMap bR),.val vp]⟩::⟨b2,92,[aA 0,aA 0,bD false,aA 0,aA 0,ae ax,aI,bD false,aA 0,aI,aI,aI]⟩::⟨b1,120,dW y⟩::A++⟨X,165,[aB ak p.globals,aB aU p.mutexes,aB ac p.funcs,aB bP l,aA loc,aA n,aA ((cP qq 8 s).2),aA (((cP qq 8 s).1:Nat):Int),c8,c9]⟩::B,⟨vp,89,3,(d5 l (y.args.take k)).length,(d5 l (y.args.take k)).flatMap ec⟩::rw⟩,_⟩ _;refine iE (cs':=[aA (if y.kind=4 then 3 else 2),aA (((bL l y.name).n:Nat):Int),bD false,aA 0,aA 0,ae ax,aI,bD false,aA 0,aI,.sl (da l (y.args.take k)).length ((da l (y.args.take k)).flatMap bR),.sl (d5 l (y.args.take k)).length ((d5 l (y.args.take k)).flatMap ec)]) [_,_] 11 J J ?_;show cL prog _ _ ⟨_,_,⟨⟨b7,135,dA y.args[k]⟩::⟨b6,111,bP (bL l y.name)⟩::⟨b3,92,[aA (if y.kind=4 then 3 else 2),aA (((bL l y.name).n:Nat):Int),bD false,aA 0,aA 0,ae ax,aI,bD false,aA 0,aI,.sl (da l (y.args.take k)).length ((da l (y.args.take k)).flatMap bR),.sl (d5 l (y.args.take k)).length ((d5 l (y.args.take k)).flatMap ec)]⟩::⟨b2,92,[aA 0,aA 0,bD false,aA 0,aA 0,ae ax,aI,bD false,aA 0,aI,aI,aI]⟩::⟨b1,120,dW y⟩::A++⟨X,165,[aB ak p.globals,aB aU p.mutexes,aB ac p.funcs,aB bP l,aA loc,aA n,aA ((cP qq 8 s).2),aA (((cP qq 8 s).1:Nat):Int),c8,c9]⟩::B,rw⟩,_⟩ _;obtain ⟨hno1,hno2⟩:=Fs (p:=p) (l:=l) (k:=k) hlen Y hnk (by rw [h14,h19];decide);refine go 11 ?_
      obtain ⟨hz1,hz2⟩:=((EJ h6 Y A'):mi p l y.args (bI l y.name)=_ /\ mQ p l y.args (if y.kind=4 then 3 else 2) (bI l y.name)=_);rw [hpa] at hz1 hz2;rw [hno1] at hz2;rw [hno2] at hz1;exact ⟨.inr J,_,⟨A++⟨X,165,[aB ak p.globals,aB aU p.mutexes,aB ac p.funcs,aB bP l,aA loc,aA n,aA ((cP qq 8 s).2),aA (((cP qq 8 s).1:Nat):Int),c8,c9]⟩::B,rw⟩,bT J (gP (bu.agg (.r (.r (.r (.r (.r (.r (.n (.r (.r (.n (.r (.r .nil))))))))))))) (cS [_,_,_] J J isAgg92 sizeOf92 (cY J J))),aj (.cons _ (.cons _ (.cons _ (.cons _ (.cons _ (.refl _)))))) (.refl _),vz,by unfold dx;rw [hz1,hvk,sJ]⟩
     refine ab 6 J (cI (bF h19) (jh J J isAgg4 sizeOf4 J)) ?_;refine ab 7 J (io false J J J runUnderlying4 J) ?_;refine bG (go 7 ?_);refine aF J (cI (bF h14) (ca [] isAgg4 sizeOf4)) (go 3 ?_);refine kf 9 [b7,b6,b3,b2,b1] [] #[true,true,true,true,true,true,true,true,true,false,false] aQ aQ aQ ?_;refine aY [0,1,2,3,4,5] 3 (go 7 ?_);refine an 6 J J (bj [X] J J V call103 J (t2 (_::_::_::_::_::A) B X p l loc n qq _ _ (_::_::rw) y.args[k].expr s hl uh) dV dS Ja ?_);rintro _ _ ⟨rfl,rfl⟩;refine an 7 J J (be (hf:=dU bR bb (cW l y.args[k].expr) (ei _) J J) ni ?_);refine an 8 J J (dR [] tN J (fN bR 4 fw _) V AZ Y (@length_append _ (da l (y.args.take k)) [(cW l y.args[k].expr)]).symm (λhn b hb=>eY (r:=(⟨vi,87,4,(da l (y.args.take k)).length,(da l (y.args.take k)).flatMap bR⟩:aS)) hn hb) bz.h (d4 (f:=bR)).symm λw9=>?_);refine bG ?_;refine id ?_;refine cU [(9,true),(10,false)] 0 (go 3 ?_);refine bG (go 4 ?_);refine bJ J (go 2 ?_);obtain ⟨hy1,hy2⟩:=LD (p:=p) (l:=l) (k:=k) hlen Y hnk (h14.trans h19.symm);obtain ⟨he1,he2⟩:=Mf (l:=l) (k:=k) (al:=y.args) Y h14;exact ⟨Y,(w9,vp,(cP qq (cO l y.args[k].expr) s)),⟨Jl,hy1⟩,y8⟩
    refine aC false J (cg h12) (go 10 ?_);obtain rfl:k=ps.length:=Y;refine iE (cs':=[aA (if y.kind=4 then 3 else 2),aA (((bL l y.name).n:Nat):Int),bD false,aA 0,aA 0,ae ax,aI,bD false,aA 0,aI,.sl (da l (y.args.take ps.length)).length ((da l (y.args.take ps.length)).flatMap bR),.val vp]) [_] 10 J J ?_;show cL prog _ _ ⟨_,_,⟨⟨b6,111,bP (bL l y.name)⟩::⟨b3,92,[aA (if y.kind=4 then 3 else 2),aA (((bL l y.name).n:Nat):Int),bD false,aA 0,aA 0,ae ax,aI,bD false,aA 0,aI,.sl (da l (y.args.take ps.length)).length ((da l (y.args.take ps.length)).flatMap bR),.val vp]⟩::⟨b2,92,[aA 0,aA 0,bD false,aA 0,aA 0,ae ax,aI,bD false,aA 0,aI,aI,aI]⟩::⟨b1,120,dW y⟩::A++⟨X,165,[aB ak p.globals,aB aU p.mutexes,aB ac p.funcs,aB bP l,aA loc,aA n,aA qq.2,am qq.1,c8,c9]⟩::B,⟨vp,89,3,(d5 l (y.args.take ps.length)).length,(d5 l (y.args.take ps.length)).flatMap ec⟩::rw⟩,_⟩ _;refine iE (cs':=[aA (if y.kind=4 then 3 else 2),aA (((bL l y.name).n:Nat):Int),bD false,aA 0,aA 0,ae ax,aI,bD false,aA 0,aI,.sl (da l (y.args.take ps.length)).length ((da l (y.args.take ps.length)).flatMap bR),.sl (d5 l (y.args.take ps.length)).length ((d5 l (y.args.take ps.length)).flatMap ec)]) [_] 11 J J ?_;show cL prog _ _ ⟨_,_,⟨⟨b6,111,bP (bL l y.name)⟩::⟨b3,92,[aA (if y.kind=4 then 3 else 2),aA (((bL l y.name).n:Nat):Int),bD false,aA 0,aA 0,ae ax,aI,bD false,aA 0,aI,.sl (da l (y.args.take ps.length)).length ((da l (y.args.take ps.length)).flatMap bR),.sl (d5 l (y.args.take ps.length)).length ((d5 l (y.args.take ps.length)).flatMap ec)]⟩::⟨b2,92,[aA 0,aA 0,bD false,aA 0,aA 0,ae ax,aI,bD false,aA 0,aI,aI,aI]⟩::⟨b1,120,dW y⟩::A++⟨X,165,[aB ak p.globals,aB aU p.mutexes,aB ac p.funcs,aB bP l,aA loc,aA n,aA qq.2,am qq.1,c8,c9]⟩::B,rw⟩,_⟩ _;refine go 5 ?_;obtain ⟨hz1,hz2⟩:=((EJ h6 Y A'):mi p l y.args (bI l y.name)=_ /\ mQ p l y.args (if y.kind=4 then 3 else 2) (bI l y.name)=_);rw [hpa] at hz1 hz2;rw [gq,show y.args.take ps.length=y.args by rw [hlen,gq]] at hvk hnk;rw [hnk] at hz2;exact ⟨.inr J,_,⟨A++⟨X,165,[aB ak p.globals,aB aU p.mutexes,aB ac p.funcs,aB bP l,aA loc,aA n,aA qq.2,am qq.1,c8,c9]⟩::B,rw⟩,bT J (gP (bu.agg (.r (.r (.r (.r (.r (.r (.n (.r (.r (.n (.r (.r .nil))))))))))))) (cS [_,_] J J isAgg92 sizeOf92 (cY J J))),aj (.cons _ (.cons _ (.cons _ (.cons _ (.refl _))))) (.refl _),by unfold fv;rw [hz2];rw [show y.args.take ps.length=y.args by rw [hlen,gq]];rfl,by unfold dx;rw [hz1,hvk]⟩
   refine aC true J (fe h10) (go 7 ?_);refine aW J (bj [X] J J V call102 J (mE (_::_::_::_::A) B X p l loc n q _ _ rw 7 s V) dV dS jH ?_);rintro _ _ ⟨rfl,rfl⟩;refine go 10 ?_;obtain ⟨hz1,hz2⟩:=((S6 h6 Y (by rw [hpa];omega)):mi p l y.args (bI l y.name)=_ /\ mQ p l y.args (if y.kind=4 then 3 else 2) (bI l y.name)=_);exact ⟨.inr J,_,⟨A++⟨X,165,[aB ak p.globals,aB aU p.mutexes,aB ac p.funcs,aB bP l,aA loc,aA n,aA ((cP q 7 s).2),aA (((cP q 7 s).1:Nat):Int),c8,c9]⟩::B,rw⟩,bT J (gP (bu.agg (.r (.r (.r (.r (.r (.r (.n (.r (.r (.n (.n (.n .nil))))))))))))) (cS [_,_] J J isAgg92 sizeOf92 (cY J J))),aj (.cons _ (.cons _ (.cons _ (.cons _ (.refl _))))) (.refl _),vz,DN⟩
  refine aC true J (fe h8) (go 8 ?_);refine aW J (bj [X] J J V call102 J (mE (_::_::_::_::A) B X p l loc n q _ _ rw 8 s V) dV dS jH ?_);rintro _ _ ⟨rfl,rfl⟩;refine go 11 ?_;obtain ⟨hz1,hz2⟩:=((Sw h6 Y):mi p l y.args (bI l y.name)=_ /\ mQ p l y.args (if y.kind=4 then 3 else 2) (bI l y.name)=_);exact ⟨.inr J,_,⟨A++⟨X,165,[aB ak p.globals,aB aU p.mutexes,aB ac p.funcs,aB bP l,aA loc,aA n,aA ((cP q 8 s).2),aA (((cP q 8 s).1:Nat):Int),c8,c9]⟩::B,rw⟩,bT J (gP (bu.agg (.r (.r (.r (.r (.r (.r (.n (.r (.r (.n (.n (.n .nil))))))))))))) (cS [_,_] J J isAgg92 sizeOf92 (cY J J))),aj (.cons _ (.cons _ (.cons _ (.cons _ (.refl _))))) (.refl _),vz,DN⟩
 refine aF J (cI (bF (ol h6)) (iY J J)) (go 8 ?_);refine aW J (bj [X] J J V call102 J (mE (_::_::_::_::A) B X p l loc n q _ _ rw 6 s V) dV dS jH ?_);rintro _ _ ⟨rfl,rfl⟩;refine go 11 ?_;obtain ⟨hz1,hz2⟩:=((QH h6):mi p l y.args (bI l y.name)=_ /\ mQ p l y.args (if y.kind=4 then 3 else 2) (bI l y.name)=_);exact ⟨.inr J,_,⟨A++⟨X,165,[aB ak p.globals,aB aU p.mutexes,aB ac p.funcs,aB bP l,aA loc,aA n,aA ((cP q 6 s).2),aA (((cP q 6 s).1:Nat):Int),c8,c9]⟩::B,rw⟩,bT J (gP (bu.agg (.r (.r (.r (.r (.r (.r (.n (.r (.r (.n (.n (.n .nil))))))))))))) (cS [_,_] J J isAgg92 sizeOf92 (cY J J))),aj (.cons _ (.cons _ (.cons _ (.cons _ (.refl _))))) (.refl _),vz,DN⟩
end
end Go.Proofs.YtjgeihmhppadaaaGreatDoor
