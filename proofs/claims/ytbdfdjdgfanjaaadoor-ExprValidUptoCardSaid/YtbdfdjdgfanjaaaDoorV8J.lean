import Derived.Test.YtbdfdjdgfanjaaaDoorV3J
import Derived.Test.YtbdfdjdgfanjaaaDoorV5J
import Derived.Test.YtbdfdjdgfanjaaaDoorV6J
import Derived.Test.YtbdfdjdgfanjaaaDoorV7J
import Derived.Test.YtbdfdjdgfanjaaaDoorV4J
import Derived.Test.YtbdfdjdgfanjaaaDoorV1J
import Derived.Deep.QuietTactic
import Derived.BigQuiet
import Derived.StillTailTactics
import Derived.Lib.Hide
import Derived.Lib.LaidTab
import Derived.Shelf.Strconv.Itoa3
import Derived.Lib.AppendStr
set_option linter.all false
set_option synthInstance.maxHeartbeats 1000000
set_option synthInstance.maxSize 1000000
set_option maxHeartbeats 1600000
set_option maxRecDepth 100000
namespace Go.Proofs.YtbdfdjdgfanjaaaDoor
open Go.Proofs.Tryd
open List (length_append length_cons length_nil mem_append mem_cons not_mem_nil append_assoc getElem_mem take_of_length_le)
section
open Go.RowKit
theorem hX(A B:List Box)(rw:List bA)(S:Nat)(l:List Int)(i0:Nat)(n:Int)(hi0:i0 <= l.length)(hl:l.length <= 1000000)(hn0:0<n)(hn1:n <= 4611686018427387904):aL prog 17 [pP S,.c (.val (.int .i64 n))] [S] (SSt A B rw S l i0) fun r s=>∃(z:Nat) (i:Nat),r=nI z /\ (z:Int)<n /\ i <= l.length /\ s=SSt A B rw S l i:=
 (aC2 A B rw S l i0 n hi0 hl hn0 hn1).mono fun r s ⟨z,i,h1,h2,h3,h4,h5⟩=>⟨z.toNat,i,h1.trans (congrArg (fun x=>AT.c (.val (.int .i64 x))) (Int.toNat_of_nonneg h2).symm),by rw [Int.toNat_of_nonneg h2];exact h3,h4,h5⟩
theorem cPk{P:Program}{U:List Nat}{o:Oper}{st:AS}{E yt:TypeId}{x y:Operand}{m k r:Nat}(ho:o.op=.binOp .add E x y yt)(hx:evA st x=some (nI m))(hy:evA st y=some (nI k))(hr:m+k=r)(h2:r <= 1000000):AY P U o st (nI r):=by
 subst hr
 have h:=bB (P:=P) (U:=U) ho hx hy (by omega) (by omega)
 rwa [show ((m:Nat):Int)+((k:Nat):Int)=((m+k:Nat):Int) by omega] at h
theorem cO9{P:Program}{U:List Nat}{o:Oper}{st:AS}{E yt:TypeId}{x y:Operand}{m:Nat}(r:Nat)(ho:o.op=.binOp .rem E x y yt)(hx:evA st x=some (nI m))(hy:evA st y=some (.c (.val (.int .i64 2))))(hr:m%2=r):AY P U o st (nI r):=by
 subst hr
 exact aG3 ho hx hy (by decide) rfl
theorem cOx(A B:List Box)(rw:List bA)(S:Nat)(l:List Int)(i0:Nat)(names:List ByteArray)(d:Nat)(hi0:i0 <= l.length)(hl:l.length <= 1000000)(hnl:names.length <= 1000000)(hd:d <= 100)(ih:d≠0 -> ∀(A:List Box)(i:Nat),i <= l.length -> aL prog 16 [pP S,.c (.sl names.length (names.map fun x=>.val (.string x))),.c (.val (.int .i64 ((d-1:Nat):Int)))] [S] (SSt A B rw S l i) (fun r s=>∃(e:aH) (i:Nat),r=.agg (cU e) /\ eT names (d-1) e /\ i <= l.length /\ s=SSt A B rw S l i)):aL prog 16 [pP S,.c (.sl names.length (names.map fun x=>.val (.string x))),nI d] [S] (SSt A B rw S l i0) (fun r s=>∃(e:aH) (i:Nat),r=.agg (cU e) /\ eT names (d) e /\ i <= l.length /\ s=SSt A B rw S l i):=by
 refine acX 64 func16 ?_
 refine go 8 fun b1=>?_
 refine wo rfl (bD [S] rfl rfl (by decide) call17 rfl (hX (_::A) _ _ _ l i0 _ hi0 hl (by decide) (by decide)) (bDj (by simp)) (bDj (by simp [Sto.bl])) (fun _=>bDj (by simp)) ?_)
 rintro r1 s1 ⟨z1,i1,rfl,hy1,hi1,rfl⟩
 refine go 8 ?_
 by_cases hd0:d=0
 ·refine wcp true rfl (by first|exact eU (by omega)|(simp [bC]<;>omega)) (go 13 ?_)
  by_cases hn0:0<names.length
  ·refine wcp true rfl (by first|exact eU (by omega)|(simp [bC]<;>omega)) (go 2 ?_)
   refine wo rfl (bD [S] rfl rfl (by decide) call17 rfl (hX (_::A) _ _ _ l i1 _ hi1 hl (by decide) (by decide)) (bDj (by simp)) (bDj (by simp [Sto.bl])) (fun _=>bDj (by simp)) ?_)
   rintro r2 s2 ⟨z2,i2,rfl,hy2,hi2,rfl⟩
   by_cases hz21:z2=1
   ·refine wcp true rfl (by first|exact eU (by omega)|(simp [bC]<;>omega)) (go 10 ?_)
    refine wo rfl (bD [S] rfl rfl (by decide) call17 rfl (hX (_::A) _ _ _ l i2 _ hi2 hl (by omega) (by omega)) (bDj (by simp)) (bDj (by simp [Sto.bl])) (fun _=>bDj (by simp)) ?_)
    rintro r3 s3 ⟨z3,i3,rfl,hy3,hi3,rfl⟩
    have hj2:z3<names.length:=by omega
    refine wyz rfl (rT (fun x=>.val (.string x)) names z3 rfl rfl rfl rfl hj2 runUnderlying44 sizeOf9) (go 9 ?_)
    exact ⟨.inr rfl,_,SSt A B rw S l i3,(eK (Wk.agg (.r (.r (.r (.n .nil))))) (aR rfl (aO [] rfl rfl isAgg25 sizeOf25 (bK rfl rfl)))),aA (.cons _ (.refl _)) (.refl _),⟨(.mk 2 0 names[z3] []),i3,rfl,(.name (getElem_mem hj2)),hi3,rfl⟩⟩
   refine wcp false rfl (by first|exact eE (by omega)|(simp [bC]<;>omega)) (go 9 ?_)
   refine wo rfl (bD [S] rfl rfl (by decide) call26 rfl (vH (_::A) _ _ _ l i2 hi2 hl) (bDj (by simp)) (bDj (by simp [Sto.bl])) (fun _=>bDj (by simp)) ?_)
   rintro r3 s3 ⟨z3,i3,rfl,hz3,hy3,hi3,rfl⟩
   refine go 7 ?_
   exact ⟨.inr rfl,_,SSt A B rw S l i3,(eK (Wk.agg (.r (.r (.r (.n .nil))))) (aR rfl (aO [] rfl rfl isAgg25 sizeOf25 (bK rfl rfl)))),aA (.cons _ (.refl _)) (.refl _),⟨(.mk 1 z3 aK []),i3,rfl,(.num hz3 hy3),hi3,rfl⟩⟩
  refine wcp false rfl (by first|exact eE (by omega)|(simp [bC]<;>omega)) (go 13 ?_)
  refine wo rfl (bD [S] rfl rfl (by decide) call26 rfl (vH (_::A) _ _ _ l i1 hi1 hl) (bDj (by simp)) (bDj (by simp [Sto.bl])) (fun _=>bDj (by simp)) ?_)
  rintro r2 s2 ⟨z2,i2,rfl,hz2,hy2,hi2,rfl⟩
  refine go 7 ?_
  exact ⟨.inr rfl,_,SSt A B rw S l i2,(eK (Wk.agg (.r (.r (.r (.n .nil))))) (aR rfl (aO [] rfl rfl isAgg25 sizeOf25 (bK rfl rfl)))),aA (.cons _ (.refl _)) (.refl _),⟨(.mk 1 z2 aK []),i2,rfl,(.num hz2 hy2),hi2,rfl⟩⟩
 refine wcp false rfl (by first|exact eE (by omega)|(simp [bC]<;>omega)) (go 2 ?_)
 by_cases hz2:z1<2
 ·refine wcp true rfl (by first|exact eU (by omega)|(simp [bC]<;>omega)) (go 10 ?_)
  by_cases hn0:0<names.length
  ·refine wcp true rfl (by first|exact eU (by omega)|(simp [bC]<;>omega)) (go 2 ?_)
   refine wo rfl (bD [S] rfl rfl (by decide) call17 rfl (hX (_::A) _ _ _ l i1 _ hi1 hl (by decide) (by decide)) (bDj (by simp)) (bDj (by simp [Sto.bl])) (fun _=>bDj (by simp)) ?_)
   rintro r2 s2 ⟨z2,i2,rfl,hy2,hi2,rfl⟩
   by_cases hz21:z2=1
   ·refine wcp true rfl (by first|exact eU (by omega)|(simp [bC]<;>omega)) (go 10 ?_)
    refine wo rfl (bD [S] rfl rfl (by decide) call17 rfl (hX (_::A) _ _ _ l i2 _ hi2 hl (by omega) (by omega)) (bDj (by simp)) (bDj (by simp [Sto.bl])) (fun _=>bDj (by simp)) ?_)
    rintro r3 s3 ⟨z3,i3,rfl,hy3,hi3,rfl⟩
    have hj2:z3<names.length:=by omega
    refine wyz rfl (rT (fun x=>.val (.string x)) names z3 rfl rfl rfl rfl hj2 runUnderlying44 sizeOf9) (go 9 ?_)
    exact ⟨.inr rfl,_,SSt A B rw S l i3,(eK (Wk.agg (.r (.r (.r (.n .nil))))) (aR rfl (aO [] rfl rfl isAgg25 sizeOf25 (bK rfl rfl)))),aA (.cons _ (.refl _)) (.refl _),⟨(.mk 2 0 names[z3] []),i3,rfl,(.name (getElem_mem hj2)),hi3,rfl⟩⟩
   refine wcp false rfl (by first|exact eE (by omega)|(simp [bC]<;>omega)) (go 9 ?_)
   refine wo rfl (bD [S] rfl rfl (by decide) call26 rfl (vH (_::A) _ _ _ l i2 hi2 hl) (bDj (by simp)) (bDj (by simp [Sto.bl])) (fun _=>bDj (by simp)) ?_)
   rintro r3 s3 ⟨z3,i3,rfl,hz3,hy3,hi3,rfl⟩
   refine go 7 ?_
   exact ⟨.inr rfl,_,SSt A B rw S l i3,(eK (Wk.agg (.r (.r (.r (.n .nil))))) (aR rfl (aO [] rfl rfl isAgg25 sizeOf25 (bK rfl rfl)))),aA (.cons _ (.refl _)) (.refl _),⟨(.mk 1 z3 aK []),i3,rfl,(.num hz3 hy3),hi3,rfl⟩⟩
  refine wcp false rfl (by first|exact eE (by omega)|(simp [bC]<;>omega)) (go 13 ?_)
  refine wo rfl (bD [S] rfl rfl (by decide) call26 rfl (vH (_::A) _ _ _ l i1 hi1 hl) (bDj (by simp)) (bDj (by simp [Sto.bl])) (fun _=>bDj (by simp)) ?_)
  rintro r2 s2 ⟨z2,i2,rfl,hz2,hy2,hi2,rfl⟩
  refine go 7 ?_
  exact ⟨.inr rfl,_,SSt A B rw S l i2,(eK (Wk.agg (.r (.r (.r (.n .nil))))) (aR rfl (aO [] rfl rfl isAgg25 sizeOf25 (bK rfl rfl)))),aA (.cons _ (.refl _)) (.refl _),⟨(.mk 1 z2 aK []),i2,rfl,(.num hz2 hy2),hi2,rfl⟩⟩
 refine wcp false rfl (by first|exact eE (by omega)|(simp [bC]<;>omega)) (go 8 ?_)
 by_cases hz4:z1<4
 ·refine wcp true rfl (by first|exact eU (by omega)|(simp [bC]<;>omega)) (go 7 ?_)
  refine wyz rfl (cO9 (z1%2) rfl rfl rfl rfl) ?_
  refine wad rfl (go 3 ?_)
  refine wyz rfl (cI ((d-1:Nat):Int) rfl rfl rfl (by omega) (by omega) (by omega)) ?_
  refine wo rfl (bD [S] rfl rfl (by decide) call16 rfl (ih hd0 (_::A) i1 hi1) (bDj (by simp)) (bDj (by simp [Sto.bl])) (fun _=>bDj (by simp)) ?_)
  rintro r2 s2 ⟨x2,i2,rfl,hm2,hi2,rfl⟩
  refine wo rfl (bDk zb1 rfl (.cons rfl .nil) (aV fO cU x2 (fP _) rfl rfl) ?_)
  refine go 7 ?_
  exact ⟨.inr rfl,_,SSt A B rw S l i2,(eK (Wk.agg (.r (.r (.r (.r .nil))))) (aR rfl (aO [] rfl rfl isAgg25 sizeOf25 (bK rfl rfl)))),aA (.cons _ (.refl _)) (.refl _),⟨(.mk (3+((z1%2:Nat):Int)) 0 aK [x2]),i2,rfl,(by obtain ⟨d',rfl⟩:∃d',d=d'+1:=⟨d-1,by omega⟩;exact .un (by omega) hm2),hi2,rfl⟩⟩
 refine wcp false rfl (by first|exact eE (by omega)|(simp [bC]<;>omega)) (go 10 ?_)
 refine wo rfl (bD [S] rfl rfl (by decide) call17 rfl (hX (_::A) _ _ _ l i1 _ hi1 hl (by decide) (by decide)) (bDj (by simp)) (bDj (by simp [Sto.bl])) (fun _=>bDj (by simp)) ?_)
 rintro r2 s2 ⟨z2,i2,rfl,hy2,hi2,rfl⟩
 refine wad rfl (go 3 ?_)
 refine wyz rfl (cI ((d-1:Nat):Int) rfl rfl rfl (by omega) (by omega) (by omega)) ?_
 refine wo rfl (bD [S] rfl rfl (by decide) call16 rfl (ih hd0 (_::A) i2 hi2) (bDj (by simp)) (bDj (by simp [Sto.bl])) (fun _=>bDj (by simp)) ?_)
 rintro r3 s3 ⟨x3,i3,rfl,hm3,hi3,rfl⟩
 refine go 3 ?_
 refine wyz rfl (cI ((d-1:Nat):Int) rfl rfl rfl (by omega) (by omega) (by omega)) ?_
 refine wo rfl (bD [S] rfl rfl (by decide) call16 rfl (ih hd0 (_::A) i3 hi3) (bDj (by simp)) (bDj (by simp [Sto.bl])) (fun _=>bDj (by simp)) ?_)
 rintro r4 s4 ⟨x4,i4,rfl,hm4,hi4,rfl⟩
 refine wo rfl (bDk zb0 rfl (.cons rfl (.cons rfl .nil)) (aEp fO cU x3 x4 fP rfl (fun _=>rfl)) ?_)
 refine go 5 ?_
 exact ⟨.inr rfl,_,SSt A B rw S l i4,(eK (Wk.agg (.r (.r (.r (.r .nil))))) (aR rfl (aO [] rfl rfl isAgg25 sizeOf25 (bK rfl rfl)))),aA (.cons _ (.refl _)) (.refl _),⟨(.mk (5+((z2:Nat):Int)) 0 aK [x3,x4]),i4,rfl,(by obtain ⟨d',rfl⟩:∃d',d=d'+1:=⟨d-1,by omega⟩;exact .bin (by omega) (by omega) hm3 hm4),hi4,rfl⟩⟩
theorem cO3(B:List Box)(rw:List bA)(S:Nat)(l:List Int)(names:List ByteArray)(hl:l.length <= 1000000)(hnl:names.length <= 1000000):∀(d:Nat),d <= 100 -> ∀(A:List Box)(i:Nat),i <= l.length -> aL prog 16 [pP S,.c (.sl names.length (names.map fun x=>.val (.string x))),nI d] [S] (SSt A B rw S l i) (fun r s=>∃(e:aH) (i:Nat),r=.agg (cU e) /\ eT names (d) e /\ i <= l.length /\ s=SSt A B rw S l i)
 |0,hd,A,i,hi=>cOx A B rw S l i names 0 hi hl hnl hd (fun h=>absurd rfl h)
 |d+1,hd,A,i,hi=>cOx A B rw S l i names (d+1) hi hl hnl hd (fun _ A i hi=>cO3 B rw S l names hl hnl d (by omega) A i hi)
def cPf:List ByteArray:=[⟨#[97]⟩,⟨#[98]⟩,⟨#[120,49]⟩]
theorem cOz:∀x,x∈cPf -> bQ x=true:=fun x hx=>List.all_eq_true.1 (show cPf.all bQ=true by kernel_rfl) x hx
theorem cPl(l0:List Int)(hl0:l0.length <= 9223372036854775807)(s:Sto):aL prog 5 [.c (.sl l0.length (l0.map fun i=>.val (.int .i64 i)))] [] s (fun r s'=>∃e,r=.agg (cU e) /\ eT cPf 5 e /\ s'=s):=by
 obtain ⟨bx,rw⟩:=s
 refine acX 14 func5 ?_
 refine go 8 fun b1=>?_
 refine wo rfl (bD [] rfl rfl (by decide) call15 rfl (aTv l0 100 _) bDl bDl (fun _=>bDl) ?_)
 rintro rc sc ⟨rfl,rfl⟩
 obtain ⟨l,hlc⟩:∃x,x=l0.take 100:=⟨_,rfl⟩
 rw [←hlc]
 have hl:l.length <= 1000000:=by rw [hlc,List.length_take];omega
 clear hlc
 have hi0:0 <= l.length:=by omega
 refine go 8 fun S=>?_
 refine wo rfl (wbs Tryd.t9 [.val (.string ⟨#[]⟩),.val (.string ⟨#[]⟩),.val (.string ⟨#[]⟩)] rfl rfl (by decide) (.cons rfl (.cons rfl (.cons rfl .nil))) underlying44 (by kernel_rfl) rfl (by decide) (by decide) (by kernel_rfl) (by kernel_rfl) (r:=cPf.map fun x=>.val (.string x)) rfl ?_)
 refine go 1 ?_
 refine wo rfl (bD [S] rfl rfl (by decide) call17 rfl (hX [] _ _ _ l 0 _ hi0 hl (by decide) (by decide)) (bDj (by simp)) (bDj (by simp [Sto.bl])) (fun _=>bDj (by simp)) ?_)
 rintro r1 s1 ⟨z1,i1,rfl,hy1,hi1,rfl⟩
 refine wyz rfl (cPk (m:=1) rfl rfl rfl rfl (by omega)) ?_
 refine wo rfl (bD [S] rfl rfl (by decide) call16 rfl (cO3 _ _ S l cPf hl (by decide) (1+z1) (by omega) [] i1 hi1) (bDj (by simp)) (bDj (by simp [Sto.bl])) (fun _=>bDj (by simp)) ?_)
 rintro r2 s2 ⟨x2,i2,rfl,hm2,hi2,rfl⟩
 refine go 4 ?_
 exact ⟨.inr rfl,_,⟨bx,rw⟩,aR rfl (aO [_] rfl rfl isAgg25 sizeOf25 (bK rfl rfl)),aA (.cons _ (.cons _ (.refl _))) (.refl _),⟨x2,rfl,hm2.mono (by omega),rfl⟩⟩
end
section
open Go.RowKit
theorem gJ{s:ByteArray}{l:List UInt8}(h:s=bytes l):(s.toList == l)=true:=by subst h;rw [ByteArray.toList_eq];simp [bytes]
theorem fI{s:ByteArray}{l:List UInt8}(h:s≠bytes l):(s.toList == l)=false:=by
 rw [beq_eq_false_iff_ne,ByteArray.toList_eq];intro e;apply h;apply sI;rw [e];simp [bytes]
theorem aDq(s:ByteArray)(w:World):Calls prog 41 #[.string s] w fun e w'=>e=.returned (.tuple #[.int .i64 (binOp s).1,.int .i64 (binOp s).2]) /\ w=w':=by
 go_enter func41,Tryd.ntmps41
 by_cases h0:s=bytes [124,124]
 ·have g0:(s.toList == [124,124])=true:=gJ h0
  have hb:binOp s=(17,1):=by rw [binOp,if_pos h0]
  rw [hb]
  clear hb h0
  go_wp2_with fail
  refine bodyPost_ret (v:=.tuple #[.int .i64 17,.int .i64 1]) (by simp [results,Tryd.results41,go_sem]) rfl ?_
  exact ⟨rfl,rfl⟩
 have g0:(s.toList == [124,124])=false:=fI h0
 by_cases h1:s=bytes [38,38]
 ·have g1:(s.toList == [38,38])=true:=gJ h1
  have hb:binOp s=(16,2):=by rw [binOp,if_neg h0,if_pos h1]
  rw [hb]
  clear hb h0 h1
  go_wp2_with fail
  refine bodyPost_ret (v:=.tuple #[.int .i64 16,.int .i64 2]) (by simp [results,Tryd.results41,go_sem]) rfl ?_
  exact ⟨rfl,rfl⟩
 have g1:(s.toList == [38,38])=false:=fI h1
 by_cases h2:s=bytes [61,61]
 ·have g2:(s.toList == [61,61])=true:=gJ h2
  have hb:binOp s=(14,3):=by rw [binOp,if_neg h0,if_neg h1,if_pos h2]
  rw [hb]
  clear hb h0 h1 h2
  go_wp2_with fail
  refine bodyPost_ret (v:=.tuple #[.int .i64 14,.int .i64 3]) (by simp [results,Tryd.results41,go_sem]) rfl ?_
  exact ⟨rfl,rfl⟩
 have g2:(s.toList == [61,61])=false:=fI h2
 by_cases h3:s=bytes [33,61]
 ·have g3:(s.toList == [33,61])=true:=gJ h3
  have hb:binOp s=(15,3):=by rw [binOp,if_neg h0,if_neg h1,if_neg h2,if_pos h3]
  rw [hb]
  clear hb h0 h1 h2 h3
  go_wp2_with fail
  refine bodyPost_ret (v:=.tuple #[.int .i64 15,.int .i64 3]) (by simp [results,Tryd.results41,go_sem]) rfl ?_
  exact ⟨rfl,rfl⟩
 have g3:(s.toList == [33,61])=false:=fI h3
 by_cases h4:s=bytes [60]
 ·have g4:(s.toList == [60])=true:=gJ h4
  have hb:binOp s=(10,3):=by rw [binOp,if_neg h0,if_neg h1,if_neg h2,if_neg h3,if_pos h4]
  rw [hb]
  clear hb h0 h1 h2 h3 h4
  go_wp2_with fail
  refine bodyPost_ret (v:=.tuple #[.int .i64 10,.int .i64 3]) (by simp [results,Tryd.results41,go_sem]) rfl ?_
  exact ⟨rfl,rfl⟩
 have g4:(s.toList == [60])=false:=fI h4
 by_cases h5:s=bytes [60,61]
 ·have g5:(s.toList == [60,61])=true:=gJ h5
  have hb:binOp s=(11,3):=by rw [binOp,if_neg h0,if_neg h1,if_neg h2,if_neg h3,if_neg h4,if_pos h5]
  rw [hb]
  clear hb h0 h1 h2 h3 h4 h5
  go_wp2_with fail
  refine bodyPost_ret (v:=.tuple #[.int .i64 11,.int .i64 3]) (by simp [results,Tryd.results41,go_sem]) rfl ?_
  exact ⟨rfl,rfl⟩
 have g5:(s.toList == [60,61])=false:=fI h5
 by_cases h6:s=bytes [62]
 ·have g6:(s.toList == [62])=true:=gJ h6
  have hb:binOp s=(12,3):=by rw [binOp,if_neg h0,if_neg h1,if_neg h2,if_neg h3,if_neg h4,if_neg h5,if_pos h6]
  rw [hb]
  clear hb h0 h1 h2 h3 h4 h5 h6
  go_wp2_with fail
  refine bodyPost_ret (v:=.tuple #[.int .i64 12,.int .i64 3]) (by simp [results,Tryd.results41,go_sem]) rfl ?_
  exact ⟨rfl,rfl⟩
 have g6:(s.toList == [62])=false:=fI h6
 by_cases h7:s=bytes [62,61]
 ·have g7:(s.toList == [62,61])=true:=gJ h7
  have hb:binOp s=(13,3):=by rw [binOp,if_neg h0,if_neg h1,if_neg h2,if_neg h3,if_neg h4,if_neg h5,if_neg h6,if_pos h7]
  rw [hb]
  clear hb h0 h1 h2 h3 h4 h5 h6 h7
  go_wp2_with fail
  refine bodyPost_ret (v:=.tuple #[.int .i64 13,.int .i64 3]) (by simp [results,Tryd.results41,go_sem]) rfl ?_
  exact ⟨rfl,rfl⟩
 have g7:(s.toList == [62,61])=false:=fI h7
 by_cases h8:s=bytes [43]
 ·have g8:(s.toList == [43])=true:=gJ h8
  have hb:binOp s=(8,4):=by rw [binOp,if_neg h0,if_neg h1,if_neg h2,if_neg h3,if_neg h4,if_neg h5,if_neg h6,if_neg h7,if_pos h8]
  rw [hb]
  clear hb h0 h1 h2 h3 h4 h5 h6 h7 h8
  go_wp2_with fail
  refine bodyPost_ret (v:=.tuple #[.int .i64 8,.int .i64 4]) (by simp [results,Tryd.results41,go_sem]) rfl ?_
  exact ⟨rfl,rfl⟩
 have g8:(s.toList == [43])=false:=fI h8
 by_cases h9:s=bytes [45]
 ·have g9:(s.toList == [45])=true:=gJ h9
  have hb:binOp s=(9,4):=by rw [binOp,if_neg h0,if_neg h1,if_neg h2,if_neg h3,if_neg h4,if_neg h5,if_neg h6,if_neg h7,if_neg h8,if_pos h9]
  rw [hb]
  clear hb h0 h1 h2 h3 h4 h5 h6 h7 h8 h9
  go_wp2_with fail
  refine bodyPost_ret (v:=.tuple #[.int .i64 9,.int .i64 4]) (by simp [results,Tryd.results41,go_sem]) rfl ?_
  exact ⟨rfl,rfl⟩
 have g9:(s.toList == [45])=false:=fI h9
 by_cases h10:s=bytes [42]
 ·have g10:(s.toList == [42])=true:=gJ h10
  have hb:binOp s=(5,5):=by rw [binOp,if_neg h0,if_neg h1,if_neg h2,if_neg h3,if_neg h4,if_neg h5,if_neg h6,if_neg h7,if_neg h8,if_neg h9,if_pos h10]
  rw [hb]
  clear hb h0 h1 h2 h3 h4 h5 h6 h7 h8 h9 h10
  go_wp2_with fail
  refine bodyPost_ret (v:=.tuple #[.int .i64 5,.int .i64 5]) (by simp [results,Tryd.results41,go_sem]) rfl ?_
  exact ⟨rfl,rfl⟩
 have g10:(s.toList == [42])=false:=fI h10
 by_cases h11:s=bytes [47]
 ·have g11:(s.toList == [47])=true:=gJ h11
  have hb:binOp s=(6,5):=by rw [binOp,if_neg h0,if_neg h1,if_neg h2,if_neg h3,if_neg h4,if_neg h5,if_neg h6,if_neg h7,if_neg h8,if_neg h9,if_neg h10,if_pos h11]
  rw [hb]
  clear hb h0 h1 h2 h3 h4 h5 h6 h7 h8 h9 h10 h11
  go_wp2_with fail
  refine bodyPost_ret (v:=.tuple #[.int .i64 6,.int .i64 5]) (by simp [results,Tryd.results41,go_sem]) rfl ?_
  exact ⟨rfl,rfl⟩
 have g11:(s.toList == [47])=false:=fI h11
 by_cases h12:s=bytes [37]
 ·have g12:(s.toList == [37])=true:=gJ h12
  have hb:binOp s=(7,5):=by rw [binOp,if_neg h0,if_neg h1,if_neg h2,if_neg h3,if_neg h4,if_neg h5,if_neg h6,if_neg h7,if_neg h8,if_neg h9,if_neg h10,if_neg h11,if_pos h12]
  rw [hb]
  clear hb h0 h1 h2 h3 h4 h5 h6 h7 h8 h9 h10 h11 h12
  go_wp2_with fail
  refine bodyPost_ret (v:=.tuple #[.int .i64 7,.int .i64 5]) (by simp [results,Tryd.results41,go_sem]) rfl ?_
  exact ⟨rfl,rfl⟩
 have g12:(s.toList == [37])=false:=fI h12
 have hb:binOp s=(0,0):=by rw [binOp,if_neg h0,if_neg h1,if_neg h2,if_neg h3,if_neg h4,if_neg h5,if_neg h6,if_neg h7,if_neg h8,if_neg h9,if_neg h10,if_neg h11,if_neg h12]
 rw [hb]
 clear hb h0 h1 h2 h3 h4 h5 h6 h7 h8 h9 h10 h11 h12
 go_wp2_with fail
 refine bodyPost_ret (v:=.tuple #[.int .i64 0,.int .i64 0]) (by simp [results,Tryd.results41,go_sem]) rfl ?_
 exact ⟨rfl,rfl⟩
end
section
open Go.RowKit
def bLb:List ByteArray:=[⟨#[]⟩,⟨#[]⟩,⟨#[]⟩,⟨#[45]⟩,⟨#[33]⟩,⟨#[42]⟩,⟨#[47]⟩,⟨#[37]⟩,⟨#[43]⟩,⟨#[45]⟩,⟨#[60]⟩,⟨#[60,61]⟩,⟨#[62]⟩,⟨#[62,61]⟩,⟨#[61,61]⟩,⟨#[33,61]⟩,⟨#[38,38]⟩,⟨#[124,124]⟩]
structure bOp (w:World):Prop where
 signs:∀j (h:j<bLb.length),w.cell? ⟨0,j,none⟩=some (.string bLb[j])
theorem bOp.keep{L:List Nat}{w w':World}(h:bOp w)(hk:cW L w w')(hn:0∉L):bOp w':=
 ⟨fun j hj=>by rw [hk.cell (gV (h.signs j hj)) hn];exact h.signs j hj⟩
theorem bOp.below{w w':World}(h:bOp w)(hb:Below w.heap.size w w'):bOp w':=h.keep (L:=[]) (cW.of_below hb) (by simp)
def bLk(op:Int):Nat:=if op=17 then 1 else if op=16 then 2 else if 10 <= op /\ op <= 15 then 3 else if op=8∨op=9 then 4 else if 5 <= op /\ op <= 7 then 5 else if op=3∨op=4 then 6 else if op=1∨op=2 then 7 else 0
theorem bQb:∀j (h:j<bLb.length),j≠1 -> j≠2 -> j≠3 -> j≠4 -> (binOp bLb[j]).2=bLk j:=by decide
theorem bOt(op:Int)(h:op<0∨18 <= op):bLk op=0:=by
 unfold bLk
 repeat rw [if_neg (by omega)]
theorem bNc(op:Int)(h:1 <= op /\ op <= 17):bLk op=aM op+1:=by
 unfold bLk aM
 split
 ·rfl
 split
 ·rfl
 split
 ·rfl
 split
 ·rfl
 split
 ·rfl
 split
 ·rfl
 rw [if_pos (by omega)]
theorem bQf(op:Int)(w:World)(he:bOp w):Calls prog 42 #[.int .i64 op] w fun e w'=>e=.returned (.int .i64 (bLk op)) /\ w=w':=by
 have HE:=Lib.hid he
 clear he
 by_cases h1:op=1
 ·subst h1
  go_enter func42,Tryd.ntmps42
  go_wp2_with fail
  go_ret
  exact ⟨rfl,rfl⟩
 by_cases h2:op=2
 ·subst h2
  go_enter func42,Tryd.ntmps42
  go_wp2_with fail
  go_ret
  exact ⟨rfl,rfl⟩
 by_cases h3:op=3
 ·subst h3
  go_enter func42,Tryd.ntmps42
  go_wp2_with fail
  go_ret
  exact ⟨rfl,rfl⟩
 by_cases h4:op=4
 ·subst h4
  go_enter func42,Tryd.ntmps42
  go_wp2_with fail
  go_ret
  exact ⟨rfl,rfl⟩
 have b1:(op == 1)=false:=by simpa using h1
 have b2:(op == 2)=false:=by simpa using h2
 have b3:(op == 3)=false:=by simpa using h3
 have b4:(op == 4)=false:=by simpa using h4
 by_cases hneg:op<0
 ·have hd:decide (op<0)=true:=by simpa using hneg
  have hs:=bOt op (.inl hneg)
  rw [hs]
  clear hs h1 h2 h3 h4
  go_enter func42,Tryd.ntmps42
  go_wp2_with fail
  go_ret
  exact ⟨rfl,rfl⟩
 have hd:decide (op<0)=false:=by simpa using hneg
 by_cases hbig:18 <= op
 ·have hd2:decide (18 <= op)=true:=by simpa using hbig
  have hs:=bOt op (.inr hbig)
  rw [hs]
  clear hs h1 h2 h3 h4
  go_enter func42,Tryd.ntmps42
  go_wp2_with fail
  go_ret
  exact ⟨rfl,rfl⟩
 obtain ⟨j,rfl⟩:∃j:Nat,op=j:=⟨op.toNat,by omega⟩
 have hj:j<bLb.length:=by simp [bLb];omega
 have hs:=bQb j hj (by omega) (by omega) (by omega) (by omega)
 have hc:=HE.out.signs j hj
 have hd2:decide ((18:Int) <= j)=false:=by simpa using hbig
 have hlt:(j:Int)<18:=by omega
 obtain ⟨s,hs2⟩:∃s,s=bLb[j]:=⟨_,rfl⟩
 rw [←hs2] at hs hc
 rw [←hs]
 clear hs h1 h2 h3 h4 hs2
 go_enter func42,Tryd.ntmps42
 go_wp2_with fail
 refine (aDq s w).mono ?_
 rintro e w' ⟨rfl,rfl⟩
 go_wp2_with fail
 go_ret
 exact ⟨rfl,rfl⟩
end
section
open Go.RowKit
structure bM9 (w:World):Prop where
 words:∀j (h:j<words.length),w.cell? ⟨2,j,none⟩=some (.string words[j])
 maxLen:∃m:Int,w.cell? ⟨5,0,none⟩=some (.int .i64 m)
 signs:bOp w
 tab : Lib.TabIs prog w "internal/strconv.uint64pow10" .u64 Lib.pow10Tab
theorem bM9.up{w w':World}(h:bM9 w)(hu:Up2 w w'):bM9 w':=by
 refine ⟨fun j hj=>hu.1 _ _ (h.words j hj),h.maxLen.imp fun m hm=>hu.1 _ _ hm,⟨fun j hj=>hu.1 _ _ (h.signs.signs j hj)⟩,?_⟩
 have h1:=h.tab
 unfold Lib.TabIs World.var? at h1⊢
 cases hg : prog.globalNamed "internal/strconv.uint64pow10" with
 |none=>rw [hg] at h1;exact absurd h1 (by simp)
 |some g=>
  rw [hg,Option.bind_some] at h1
  rw [Option.bind_some]
  cases hb:w.heap[g]? with
  |none=>rw [hb] at h1;exact absurd h1 (by simp)
  |some o=>
   rw [hb] at h1
   cases o with
   |cells cs t fz=>
    simp only [Option.some.injEq] at h1
    subst h1
    rw [hu.2 g _ t fz hb (by rw [List.size_toArray,List.length_map];decide)]
   |_=>exact absurd h1 (by simp)
abbrev bK5(t:AT):AT:=.ride t bM9
theorem bL3{w:World}{t u:AT}{p:World -> Prop}{v0 v:Value}(h0:dO w (.ride t p) v0)(h:dO w u v):dO w (.ride u p) v:=by
 cases h0 with|ride _ _ _ _ hp=>exact .ride _ _ _ h hp
theorem bMx{bl:List Nat}{w:World}{t:AT}{p:World -> Prop}{v:Value}(h:dO (bI bl w) (.ride t p) v):p w:=by
 cases h with|ride _ _ _ _ hp=>exact hp w (bRm bl w)
theorem bNx{w:World}{t:AT}{p:World -> Prop}{v:Value}(h:dO w (.ride t p) v):p w:=by
 cases h with|ride _ _ _ _ hp=>exact hp w ⟨fun _ _ h=>h,fun _ _ _ _ h _=>h⟩
theorem bOr{w:World}{t:AT}{v:Value}(h:dO w t v)(he:bM9 w):dO w (bK5 t) v:=.ride _ _ _ h fun _ hu=>he.up hu
theorem bPv{t:AT}{p:World -> Prop}:Wk (.ride t p) t:=fun w v h=>by cases h with|ride _ _ _ h _=>exact h
theorem bQv{w:World}{t u:AT}{v0 v:Value}(h0:dO w (bK5 t) v0)(h:dO w u v):∃m,dO w (aA2 u m) v:=by
 have he:=bNx h0
 obtain ⟨m,hm⟩:=he.maxLen
 refine ⟨m,.fact _ _ _ _ [.int .i64 m] _ (.fact _ _ _ _ (words.map .string) _ h ?_ ?_) ?_ ?_⟩
 ·have h9:=gU w (words.map .string) (fun u hu=>by obtain ⟨c,_,rfl⟩:=List.mem_map.1 hu;rfl)
  rw [List.map_map] at h9;exact h9
 ·intro j u hj
  have hjl:j<words.length:=by have:=(List.getElem?_eq_some_iff.1 hj).1;simpa using this
  rw [Nat.zero_add,he.words j hjl]
  rw [List.getElem?_map,List.getElem?_eq_getElem hjl] at hj
  exact hj
 ·exact gU _ [.int .i64 m] (fun u hu=>by simp at hu;subst hu;rfl)
 intro j u hj
 match j,hj with
 |0,hj=>simp at hj;subst hj;exact hm
 |j+1,hj=>simp at hj
section
variable {P:Program}{U T:List Nat}{o:Oper}{n d:Nat}{ts:List (Nat×AT)}{s:Sto}{K:AS -> Prop}{p:World -> Prop}{t0 u:AT}{us:List AT}{ops:Array Oper}{l:List Oper}{Q:Exit -> AS -> Prop}
theorem bMg{F:FuncId}{ars:Array Operand}{tys:Array TypeId}(i0:Nat)(T':List Nat){QQ:AT -> Sto -> Prop}(ho:o.op=.call {callee:=.value (.func F),args:=ars,argTypes:=tys})(hd:o.dst=some d)(hn:d<n)
  (hcf:∀args w,(callFunc F args).run P w=.ok (.enter F args) w) (hl:look ts i0=some (.ride t0 p)) (has:ars.toList.map (evA ⟨n,T,s,ts⟩)=(u::us).map some) (hc:aL P F (.ride u p::us) T' s QQ) (hT:∀b,b∈T' -> b∈T) (hTb:∀b,b∈T' -> b∈s.bl) (hU:s.bl.Nodup -> ∀b,b∈T' -> b∈U)
  (h:∀r s',QQ r s' -> K ⟨n,T,s',(d,r)::ts⟩):AO P U o ⟨n,T,s,ts⟩ K:=by
 intro a w hs KK QQ' hK
 obtain ⟨h1,h2⟩:=rU hs has
 obtain ⟨v0,-,hv0⟩:=hs.tm i0 _ hl
 refine aCf (st:=⟨n,T,s,ts⟩) (ts:=.ride u p::us) hs hd hn h1 (fun i hi hi'=>?_) ?_ hc hT hTb hU h KK QQ' hK
 ·match i,hi with
  |0,hi=>exact bL3 hv0 (h2 0 (by simp) hi')
  |i+1,hi=>exact h2 (i+1) (by simpa using hi) hi'
 ·simp only [execOp,ho,resolve,Deferred.ofValue,Act.eval,Sem.run_bind,Sem.run_pure,Result.andThen_ok,invoke]
  rw [hcf]
  congr 2
  rw [←Array.toList_inj];simp
theorem bN9{F:FuncId}{ars:Array Operand}{tys:Array TypeId}(i0:Nat)(T':List Nat){QQ:AT -> Sto -> Prop}(ho:o.op=.call {callee:=.value (.func F),args:=ars,argTypes:=tys})(hd:o.dst=some d)(hn:d<n)
  (hcf:∀args w,(callFunc F args).run P w=.ok (.enter F args) w) (hl:look ts i0=some (bK5 t0)) (has:ars.toList.map (evA ⟨n,T,s,ts⟩)=(u::us).map some) (hc:∀m,aL P F (aA2 u m::us) T' s QQ) (hT:∀b,b∈T' -> b∈T) (hTb:∀b,b∈T' -> b∈s.bl) (hU:s.bl.Nodup -> ∀b,b∈T' -> b∈U)
  (h:∀r s',QQ r s' -> K ⟨n,T,s',(d,r)::ts⟩):AO P U o ⟨n,T,s,ts⟩ K:=by
 intro a w hs KK QQ' hK
 obtain ⟨h1,h2⟩:=rU hs has
 obtain ⟨v0,-,hv0⟩:=hs.tm i0 _ hl
 obtain ⟨m,hm⟩:=bQv hv0 (h2 0 (by simp) (by rw [h1];simp))
 refine aCf (st:=⟨n,T,s,ts⟩) (ts:=aA2 u m::us) hs hd hn h1 (fun i hi hi'=>?_) ?_ (hc m) hT hTb hU h KK QQ' hK
 ·match i,hi with
  |0,hi=>exact hm
  |i+1,hi=>exact h2 (i+1) (by simpa using hi) hi'
 ·simp only [execOp,ho,resolve,Deferred.ofValue,Act.eval,Sem.run_bind,Sem.run_pure,Result.andThen_ok,invoke]
  rw [hcf]
  congr 2
  rw [←Array.toList_inj];simp
theorem noT{X:List Nat}:∀b,b∈([]:List Nat) -> b∈X:=fun _ h=>by cases h
theorem wcR{F:FuncId}{ars:Array Operand}{tys:Array TypeId}{r:AT}(i0:Nat)(h0:(fC ops o ⟨n,T,s,ts⟩,o.op,o.dst,Nat.blt d n,look ts i0)=(some true,.call {callee:=.value (.func F),args:=ars,argTypes:=tys},some d,true,some (.ride t0 p)))
  (hcf:∀args w,(callFunc F args).run P w=.ok (.enter F args) w) (has:ars.toList.map (evA ⟨n,T,s,ts⟩)=(u::us).map some) (hc:aL P F (.ride u p::us) [] s fun t s'=>t=r /\ s'=s) (h:eQ P ops l ⟨n,T,s,(d,r)::ts⟩ Q):eQ P ops (o::l) ⟨n,T,s,ts⟩ Q:=by
 simp only [Prod.mk.injEq] at h0
 exact wo h0.1 (bMg i0 [] h0.2.1 h0.2.2.1 (Nat.le_of_ble_eq_true h0.2.2.2.1) hcf h0.2.2.2.2 has hc noT noT (fun _=>noT) fun r s' ⟨h1,h2⟩=>by subst h1;subst h2;exact h)
theorem bK8{F:FuncId}{ars:Array Operand}{tys:Array TypeId}{b c:Bool}(i0:Nat)(h0:(fC ops o ⟨n,T,s,ts⟩,o.op,o.dst,Nat.blt d n,look ts i0)=(some true,.call {callee:=.value (.func F),args:=ars,argTypes:=tys},some d,true,some (.ride t0 p)))
  (hcf:∀args w,(callFunc F args).run P w=.ok (.enter F args) w) (has:ars.toList.map (evA ⟨n,T,s,ts⟩)=(u::us).map some) (hc:aL P F (.ride u p::us) [] s fun t s'=>t=.c (.val (.bool b)) /\ s'=s) (hb:b=c) (h:eQ P ops l ⟨n,T,s,(d,.c (.val (.bool c)))::ts⟩ Q):eQ P ops (o::l) ⟨n,T,s,ts⟩ Q:=by
 subst hb;exact wcR i0 h0 hcf has hc h
theorem wc1{F:FuncId}{ars:Array Operand}{tys:Array TypeId}{r:AT}(h0:(fC ops o ⟨n,T,s,ts⟩,o.op,o.dst,Nat.blt d n)=(some true,.call {callee:=.value (.func F),args:=ars,argTypes:=tys},some d,true))
  (hcf:∀args w,(callFunc F args).run P w=.ok (.enter F args) w) (has:ars.toList.map (evA ⟨n,T,s,ts⟩)=us.map some) (hc:aL P F us [] s fun t s'=>t=r /\ s'=s) (h:eQ P ops l ⟨n,T,s,(d,r)::ts⟩ Q):eQ P ops (o::l) ⟨n,T,s,ts⟩ Q:=by
 simp only [Prod.mk.injEq] at h0
 exact wo h0.1 (bD [] h0.2.1 h0.2.2.1 (Nat.le_of_ble_eq_true h0.2.2.2) hcf has hc noT noT (fun _=>noT) fun r s' ⟨h1,h2⟩=>by subst h1;subst h2;exact h)
theorem bRr{t e:TypeId}{y:Operand}{k:IntKind}{i:Int}{N:Nat}(i0 j:Nat)(ho:o.op=.indexAddr t (.global 0) y)(hl:look ts i0=some (bK5 t0))(hy:evA ⟨n,T,s,ts⟩ y=some (.c (.val (.int k i))))(hi:i=j)(hj:j<bLb.length)(hN:bLb.length=N)
  (hu:∀w,(underlying t).run P w=.ok (.array N e) w) (hS:∀w,(sizeOf e).run P w=.ok 1 w):AY P U o ⟨n,T,s,ts⟩ (.el [.val (.string bLb[j])]):=by
 intro a w hs _
 subst hi;subst hN
 obtain ⟨v0,-,hv0⟩:=hs.tm i0 _ hl
 have he:=(bNx hv0).signs.signs j hj
 refine ⟨.pointer (some ⟨0,j,none⟩),.el _ _ _ [.string bLb[j]] (gU _ [.string bLb[j]] (fun u hu=>by simp at hu;subst hu;rfl)) (fun i u hu=>?_) (gV he),fun w' _=>?_⟩
 ·match i,hu with
  |0,hu=>simp at hu;subst hu;exact he
  |i+1,hu=>simp at hu
 ·simp only [execOp,ho,hs.val hy,show a.eval (.global 0)=.pointer (some ⟨0,0,none⟩) from rfl,Instr.indexAt,asIntOf,Sem.run_bind,Sem.run_pure,Result.andThen_ok,hu]
  simp [go_sem,hS,hj,oU]
end
end
section
def aPn(t:Tok):Prop:=(t.kind=3 -> dA t.text=true) /\ (t.kind=4 -> dA t.text=false) /\ t.num <= 9223372036854775807
theorem aBk:∀(r:List UInt8)(n m:Nat),n <= 9223372036854775807 -> iT n r=some m -> m <= 9223372036854775807
 |[],n,m,h,he=>by unfold iT at he;cases he;exact h
 |c::r,n,m,h,he=>by
  unfold iT at he
  split at he
  ·cases he
  exact aBk r _ m (by have:=c.toNat_lt;omega) he
theorem aKj:∀x,x∈words -> fU (x.data.toList.headD 0)=true:=by decide
theorem aKh{c:UInt8}{r:List UInt8}(h:fU c=false){n:Nat}(hn:n≠0):dA (bytes ((c::r).take n))=false:=by
 cases hr:dA (bytes ((c::r).take n)) with
 |false=>rfl
 |true=>
  have h1:=aKj _ ((mK _).1 hr)
  obtain ⟨m,rfl⟩:∃m,n=m+1:=⟨n-1,by omega⟩
  simp [bytes] at h1
  rw [h] at h1;cases h1
theorem aKe{c:UInt8}{r:List UInt8}{kind len num:Nat}(p:Nat)(h:dQ (c::r)=.tok kind len num):aPn ⟨kind,bytes ((c::r).take len),num,p⟩ /\ kind≠5:=by
 cases hc:fU c with
 |true=>
  rw [kK hc] at h
  split at h
  ·cases h
  ·injection h with h1 h2 h3
   subst h2;subst h3;subst h1
   have ht:(c::r).take ((c::r).takeWhile cT).length=(c::r).takeWhile cT:=by
    have:=List.takeWhile_prefix (l:=c::r) cT
    exact (List.prefix_iff_eq_take.1 this).symm
   rw [ht]
   refine ⟨⟨fun h3=>?_,fun h4=>?_,by show 0 <= _;omega⟩,?_⟩
   ·change (if dA (bytes ((c::r).takeWhile cT))=true then 3 else 1)=3 at h3
    split at h3
    ·assumption
    omega
   ·change (if dA (bytes ((c::r).takeWhile cT))=true then 3 else 1)=4 at h4
    split at h4<;>omega
   ·split<;>omega
 |false=>
  cases hd:cD c with
  |true=>
   cases hn:iT 0 ((c::r).takeWhile cD) with
   |none=>rw [nK hc hd hn] at h;cases h
   |some n=>
    rw [lP hc hd hn] at h
    injection h with h1 h2 h3
    subst h1;subst h2;subst h3
    exact ⟨⟨fun h=>absurd h (show ¬(2=3) by decide),fun h=>absurd h (show ¬(2=4) by decide),aBk _ _ _ (by omega) hn⟩,by omega⟩
  |false=>
   rw [iN hc hd] at h
   split at h
   ·cases h
   rename_i h0
   injection h with h1 h2 h3
   subst h1;subst h2;subst h3
   exact ⟨⟨fun h=>absurd h (show ¬(4=3) by decide),fun _=>aKh hc h0,Nat.zero_le _⟩,by omega⟩
structure aX5 (l:List Tok):Prop where
 ends:rP l
 reg:∀t,t∈l -> aPn t
 few:l.length <= 4001
theorem aFf:∀(m:Nat)(s:List UInt8)(k n:Nat),s.length-k <= m -> k <= s.length -> n <= 4000 -> ∀L,kD s k n=.ok L -> (∃h:0<L.length,(L[L.length-1]'(by omega)).kind=5) /\ (∀t,t∈L -> aPn t) /\ L.length+n <= 4001
 |m,s,k,n,hm,hk,hn,L,h=>by
  by_cases he:s.length <= bF s k
  ·rw [mX he] at h
   cases h
   refine ⟨⟨by simp,rfl⟩,fun t ht=>?_,by simp;omega⟩
   simp at ht;subst ht
   exact ⟨fun h=>(by cases h),fun h=>(by cases h),by show 0 <= _;omega⟩
  have hlt:bF s k<s.length:=by omega
  cases hx:dQ (s.drop (bF s k)) with
  |err e=>rw [uY hlt hx] at h;cases h
  |tok kind len num=>
   by_cases h4:n=4000
   ·subst h4;rw [sG hlt hx] at h;cases h
   rw [nD hk hlt hx h4] at h
   have hg:=lG s k hk
   have hd:s.drop (bF s k)≠[]:=by intro hd;have:=congrArg List.length hd;rw [List.length_drop] at this;simp at this;omega
   have hl:=mS hd hx
   rw [List.length_drop] at hl
   obtain ⟨c,r,hcr⟩:=List.exists_cons_of_ne_nil hd
   rw [hcr] at hx h
   have hreg:=aKe (bF s k) hx
   cases m with
   |zero=>omega
   |succ m=>
    cases ht:kD s (bF s k+len) (n+1) with
    |err p e=>rw [ht] at h;cases h
    |ok L'=>
     rw [ht] at h
     cases h
     obtain ⟨⟨h0,h5⟩,h2,h3⟩:=aFf m s (bF s k+len) (n+1) (by omega) (by omega) (by omega) L' ht
     refine ⟨⟨by simp,?_⟩,fun t ht=>?_,by simp;omega⟩
     ·simp only [length_cons]
      rw [List.getElem_cons]
      rw [dif_neg (by omega)]
      simpa using h5
     rcases mem_cons.1 ht with rfl|ht
     ·exact hreg.1
     exact h2 t ht
theorem wD{s:List UInt8}{L:List Tok}(h:iH s=.ok L):aX5 L:=by
 unfold iH at h
 split at h
 ·cases h
 obtain ⟨h1,h2,h3⟩:=aFf s.length s 0 0 (by omega) (by omega) (by omega) L h
 exact ⟨h1,h2,by omega⟩
end
section
theorem bOa{c:UInt8}{r:List UInt8}{len num:Nat}(h:dQ (c::r)=.tok 1 len num):bQ (bytes ((c::r).take len))=true:=by
 cases hc:fU c with
 |true=>
  rw [kK hc] at h
  split at h
  ·cases h
  ·rename_i h16
   injection h with h1 h2 h3
   subst h2
   have ht:(c::r).take ((c::r).takeWhile cT).length=(c::r).takeWhile cT:=
    (List.prefix_iff_eq_take.1 (List.takeWhile_prefix (l:=c::r) cT)).symm
   rw [ht]
   have hn:cT c=true:=by simp [cT,hc]
   have hd:(bytes ((c::r).takeWhile cT)).data.toList=c::r.takeWhile cT:=by rw [List.takeWhile_cons_of_pos hn];simp [bytes]
   unfold bQ
   rw [hd]
   have hsz:(bytes ((c::r).takeWhile cT)).size=((c::r).takeWhile cT).length:=by simp [bytes,ByteArray.size]
   have hres:dA (bytes ((c::r).takeWhile cT))=false:=by
    cases hr:dA (bytes ((c::r).takeWhile cT)) with
    |false=>rfl
    |true=>rw [if_pos hr] at h1;omega
   have hall:(r.takeWhile cT).all cT=true:=List.all_eq_true.2 fun x hx=>by
    have:=List.all_takeWhile (p:=cT) (l:=r)
    exact List.all_eq_true.1 this x hx
   simp only [hc,hall,hres,hsz,decide_eq_true (show ((c::r).takeWhile cT).length <= 16 by omega),Bool.and_self,Bool.not_false]
 |false=>
  cases hd:cD c with
  |true=>
   cases hn:iT 0 ((c::r).takeWhile cD) with
   |none=>rw [nK hc hd hn] at h;cases h
   |some n=>rw [lP hc hd hn] at h;injection h with h1;omega
  |false=>
   rw [iN hc hd] at h
   split at h
   ·cases h
   injection h with h1;omega
theorem bNf:∀(m:Nat)(s:List UInt8)(k n:Nat),s.length-k <= m -> k <= s.length -> ∀L,kD s k n=.ok L -> ∀t,t∈L -> t.kind=1 -> bQ t.text=true
 |m,s,k,n,hm,hk,L,h,t,ht,h1=>by
  by_cases he:s.length <= bF s k
  ·rw [mX he] at h
   cases h
   simp at ht;subst ht;cases h1
  have hlt:bF s k<s.length:=by omega
  cases hx:dQ (s.drop (bF s k)) with
  |err e=>rw [uY hlt hx] at h;cases h
  |tok kind len num=>
   by_cases h4:n=4000
   ·subst h4;rw [sG hlt hx] at h;cases h
   rw [nD hk hlt hx h4] at h
   have hg:=lG s k hk
   have hd:s.drop (bF s k)≠[]:=by intro hd;have:=congrArg List.length hd;rw [List.length_drop] at this;simp at this;omega
   have hl:=mS hd hx
   rw [List.length_drop] at hl
   obtain ⟨c,r,hcr⟩:=List.exists_cons_of_ne_nil hd
   rw [hcr] at hx h
   cases m with
   |zero=>omega
   |succ m=>
    cases hq:kD s (bF s k+len) (n+1) with
    |err p e=>rw [hq] at h;cases h
    |ok L'=>
     rw [hq] at h
     cases h
     rcases mem_cons.1 ht with rfl|ht
     ·dsimp only at h1
      subst h1
      exact bOa hx
     exact bNf m s (bF s k+len) (n+1) (by omega) (by omega) L' hq t ht h1
theorem bO7{s:List UInt8}{L:List Tok}(h:iH s=.ok L):∀t,t∈L -> t.kind=1 -> bQ t.text=true:=by
 unfold iH at h
 split at h
 ·cases h
 exact bNf s.length s 0 0 (by omega) (by omega) L h
theorem bMf{p:UInt8 -> Bool}:∀{l:List UInt8},(∀x,x∈l -> p x=true) -> l.takeWhile p=l
 |[],_=>rfl
 |x::l,h=>by rw [List.takeWhile_cons_of_pos (h x (by simp)),bMf fun y hy=>h y (by simp [hy])]
theorem bP2{c:UInt8}(h:fU c=true):isSp c=false /\ c≠47:=by
 unfold fU at h
 rw [decide_eq_true_eq] at h
 refine ⟨by unfold isSp;rw [decide_eq_false_iff_not];omega,?_⟩
 rintro rfl
 revert h;decide
theorem bNq{s:ByteArray}(h:bQ s=true):iH s.data.toList=.ok [⟨1,s,0,0⟩,⟨5,⟨#[]⟩,0,s.size⟩]:=by
 unfold bQ at h
 have hsz:s.size=s.data.toList.length:=rfl
 have hb:bytes s.data.toList=s:=by simp [bytes]
 rw [hsz] at h⊢
 cases hd:s.data.toList with
 |nil=>rw [hd] at h;simp at h
 |cons c r=>
  rw [hd] at h hb
  simp only [Bool.and_eq_true,decide_eq_true_eq,Bool.not_eq_true'] at h
  obtain ⟨⟨⟨h1,h2⟩,h3⟩,h4⟩:=h
  have hall:(c::r).takeWhile cT=c::r:=bMf (by
   intro x hx
   rcases mem_cons.1 hx with rfl|hx
   ·simp [cT,h1]
   exact List.all_eq_true.1 h2 x hx)
  have hk:bF (c::r) 0=0:=zX _ 0 (by simp) (bP2 h1).1 (fun h=>(bP2 h1).2 h.1)
  unfold iH
  rw [if_neg (by omega),kD,hk,if_neg (by simp),List.drop_zero,kK h1,hall,if_neg (by omega)]
  dsimp only
  rw [if_neg (by omega),dif_pos ⟨by simp,by simp⟩,kD,aA5 _ _ (by simp),if_pos (Nat.le_refl _),List.take_length,hb,h4]
  rfl
theorem bL0{s:ByteArray}{L:List Tok}(h:iH s.data.toList=.ok L):(L.length=2 /\ ∃h0:0<L.length,L[0].kind=1 /\ L[0].text=s)↔bQ s=true:=by
 constructor
 ·rintro ⟨_,h0,h1,h2⟩
  rw [←h2]
  exact bO7 h _ (getElem_mem _) h1
 intro hn
 rw [bNq hn] at h
 cases h
 exact ⟨rfl,by simp,rfl,rfl⟩
theorem bOs{s:ByteArray}{p e:Nat}(h:iH s.data.toList=.err p e):bQ s=false:=by
 cases hn:bQ s with
 |false=>rfl
 |true=>rw [bNq hn] at h;cases h
end
section
open Go.RowKit
theorem bNt{F:FuncId}{u0:Value}{us:List Value}{u:Value}(h1:u.oneCell'=true)(h:∀w,bM9 w -> Calls prog F (u0::us).toArray w fun e w'=>e=.returned u /\ w=w')(s:Sto):aL prog F (bK5 (.c (.val u0))::us.map fun u=>.c (.val u)) [] s fun r s'=>r=.c (.val u) /\ s'=s:=by
 intro vs w hm _ hl hr
 cases vs with
 |nil=>cases hl
 |cons v vs=>
  have h0:dO (bI s.bl w) (bK5 (.c (.val u0))) v:=hr 0 (by simp) (by simp)
  obtain rfl:=(bPv _ _ h0).val
  obtain rfl:vs=us:=by
   refine List.ext_getElem (by simpa using hl) fun i h1 h2=>?_
   have h3:=hr (i+1) (by simpa using h2) (by simpa using h1)
   simp only [List.getElem_cons_succ,List.getElem_map] at h3
   exact h3.val
  exact (h w (bMx h0)).mono fun e w' ⟨h2,h3⟩=>by subst h3;exact ⟨_,_,s,h2,⟨rfl,rfl⟩,.c _ _ (.val _ h1),hm,cW.refl _ _,fun b hb=>.inl hb⟩
theorem bOf(op:Int)(s:Sto):aL prog 42 [bK5 (.c (.val (.int .i64 op)))] [] s fun r s'=>r=.c (.val (.int .i64 ((bLk op:Nat):Int))) /\ s'=s:=
 bNt (us:=[]) rfl (fun w he=>bQf op w he.signs) s
theorem bPh{op:Int}(h:bLk op=7):op=1∨op=2:=by
 unfold bLk at h;(repeat' split at h)<;>omega
theorem bSc{op:Int}(h:bLk op=6):op=3∨op=4:=by
 unfold bLk at h;(repeat' split at h)<;>omega
theorem bNd(op:Int):bLk op <= 7:=by unfold bLk;(repeat' split)<;>omega
theorem bR4{op:Int}(h:bLk op=0):¬(1 <= op /\ op <= 17):=by
 unfold bLk at h;(repeat' split at h)<;>omega
theorem bN2{op:Int}(h:¬bLk op=0):1 <= op /\ op <= 17:=by
 unfold bLk at h;(repeat' split at h)<;>omega
def bLj(e:aH):Bool:=
 if bLk e.op=0 then false else if bLk e.op=7 then decide (e.args.length=0) && jG e.op e.num e.name
 else decide (e.args.length=if bLk e.op=6 then 1 else 2) && decide (e.num=0) && decide (e.name=aK) && dY e.args
theorem bK7(e:aH):eO e=bLj e:=by
 rw [dZ]
 unfold bLj
 by_cases h0:bLk e.op=0
 ·have h1:=bR4 h0
  have hs:aM e.op=6:=by unfold aM;(repeat' split)<;>omega
  have hl:jG e.op e.num e.name=false:=by
   unfold jG
   rw [decide_eq_false (show ¬(e.op=1 /\ 0 <= e.num) by omega),decide_eq_false (show ¬(e.op=2 /\ e.num=0) by omega)];rfl
  rw [if_pos h0,if_pos hs,hl];rfl
 have hop:=bN2 h0
 have h2:=bNc e.op hop
 rw [if_neg h0]
 by_cases h7:bLk e.op=7
 ·rw [if_pos h7,if_pos (by omega)]
  unfold arity
  rw [if_pos (by omega)]
  cases ha:e.args with
  |nil=>simp [dY]
  |cons x l=>simp
 rw [if_neg h7,if_neg (by have:=bNd e.op;omega)]
 unfold arity
 rw [if_neg (by have:=bNd e.op;omega)]
 by_cases h6:bLk e.op=6
 ·rw [if_pos h6,if_pos (by omega)]
  cases decide (e.num=0)<;>cases decide (e.name=aK)<;>cases dY e.args<;>simp
 rw [if_neg h6,if_neg (by omega)]
 cases decide (e.num=0)<;>cases decide (e.name=aK)<;>cases dY e.args<;>simp
theorem bPx:∀{l:List aH} (h:l.length=1),dY l=eO (l[0]'(by omega))
 |[x],_=>by simp [dY]
theorem bOm:∀{l:List aH} (h:l.length=2),dY l=(eO (l[0]'(by omega)) && eO (l[1]'(by omega)))
 |[x,y],_=>by simp [dY]
theorem bLd{e:aH}(h:eO e=true):(1 <= e.op /\ e.op <= 17) /\ ∀k (hk:k<e.args.length),eO e.args[k]=true:=by
 refine ⟨bN2 fun h0=>?_,fun k hk=>?_⟩
 ·rw [bK7] at h;unfold bLj at h;rw [if_pos h0] at h;cases h
 cases hs:eO e.args[k] with
 |true=>rfl
 |false=>
  rw [dZ,oF _ _ _ hs,Bool.and_false] at h;cases h
theorem bOl(e:aH)(k:Nat)(hk:k<e.args.length)(ho:1 <= e.op /\ e.op <= 17)(hok:1 <= e.args[k].op /\ e.args[k].op <= 17)(s:Sto):aL prog 28 [bK5 (.agg (cU e)),nI k] [] s fun t s'=>t=.c (.val (.bool (cV e.op k e.args[k].op))) /\ s'=s:=by
 obtain ⟨bx,rw⟩:=s
 refine acX 29 func28 ?_
 refine go 7 fun b1=>?_
 refine dx [b1] (tz [(0,true),(1,true),(2,true)] 9 (go 4 ?_))
 refine tx 3 rfl (bH fO cU e.args iU fP k rfl rfl rfl rfl (by omega) (by decide) runUnderlying23 sizeOf25) (tz [(4,true),(5,true),(7,true),(8,true)] 4 (go 5 ?_))
 refine ox 6 rfl rfl (bMg 0 [] rfl rfl (by decide) call42 rfl rfl (bOf e.args[k].op _) bDl bDl (fun _=>bDl) ?_)
 rintro _ _ ⟨rfl,rfl⟩
 refine ox 9 rfl rfl (bMg 0 [] rfl rfl (by decide) call42 rfl rfl (bOf e.op _) bDl bDl (fun _=>bDl) ?_)
 rintro _ _ ⟨rfl,rfl⟩
 refine tz [(10,true),(11,true)] 0 (go 3 ?_)
 refine ax (go 3 ?_)
 have hs1:=bNc e.op ho
 have hs2:=bNc e.args[k].op hok
 refine go 2 ?_
 by_cases h3:((bLk e.args[k].op:Nat):Int)<((bLk e.op:Nat):Int)
 ·refine wcp true rfl (jZ h3) (go 13 ?_)
  exact bHe (s':=⟨bx,rw⟩) rfl sb1 ⟨cX (by unfold cV;first|exact decide_eq_true (by omega)|exact decide_eq_false (by omega)),rfl⟩
 refine wcp false rfl (jQ h3) (go 3 ?_)
 by_cases h4:((bLk e.args[k].op:Nat):Int)=((bLk e.op:Nat):Int)
 ·refine wcp true rfl (eR h4) (go 2 ?_)
  by_cases h5:((k:Nat):Int)=1
  ·refine wcp true rfl (eR h5) (go 6 ?_)
   exact bHe (s':=⟨bx,rw⟩) rfl sb1 ⟨cX (by unfold cV;first|exact decide_eq_true (by omega)|exact decide_eq_false (by omega)),rfl⟩
  refine wcp false rfl (eD h5) (go 6 ?_)
  exact bHe (s':=⟨bx,rw⟩) rfl sb1 ⟨cX (by unfold cV;first|exact decide_eq_true (by omega)|exact decide_eq_false (by omega)),rfl⟩
 refine wcp false rfl (eD h4) (go 9 ?_)
 exact bHe (s':=⟨bx,rw⟩) rfl sb1 ⟨cX (by unfold cV;first|exact decide_eq_true (by omega)|exact decide_eq_false (by omega)),rfl⟩
theorem bP1(x:ByteArray)(hx:x.size <= 4611686018427387904)(s:Sto):aL prog 43 [bK5 (.c (.val (.string x)))] [] s fun t s'=>t=.c (.val (.bool (bQ x))) /\ s'=s:=by
 obtain ⟨bx,rw⟩:=s
 refine acX 35 func43 ?_
 refine go 8 ?_
 refine wo rfl (aDc rfl rfl (by decide) rfl underlying9 underlying46 underlying5 (by first|(rw [kT];(try simp only [length_append]);omega)|omega) (N:=x.data.toList.length) rfl (cs:=iF x.data.toList) rfl ?_)
 refine wo rfl (bN9 0 [] rfl rfl (by decide) call52 rfl rfl (fun m=>aP8 x.data.toList m _) bDl bDl (fun _=>bDl) ?_)
 rintro _ _ ⟨(⟨tl1,hlx1,rfl,htl1⟩|⟨p1,e1,hlx1,rfl,he1⟩),rfl⟩
 ·refine go 12 ?_
  refine wcp true rfl (by simp [bC]) (go 3 ?_)
  by_cases h2:((tl1.length:Nat):Int)=2
  ·refine wcp true rfl (eR h2) (go 3 ?_)
   refine wyz rfl (bH aW aW tl1 bJ (fun _=>rfl) 0 rfl rfl rfl rfl (by omega) (by decide) runUnderlying28 sizeOf51) (go 2 ?_)
   by_cases h3:((tl1[0].kind:Nat):Int)=1
   ·refine wcp true rfl (eR h3) (go 3 ?_)
    refine wyz rfl (bH aW aW tl1 bJ (fun _=>rfl) 0 rfl rfl rfl rfl (by omega) (by decide) runUnderlying28 sizeOf51) (go 3 ?_)
    by_cases h4:tl1[0].text=x
    ·refine wyz rfl (aZ true rfl rfl rfl (aL8 h4)) (go 5 ?_)
     exact bHe (s':=⟨bx,rw⟩) rfl sb0 ⟨cX ((bL0 hlx1).1 ⟨by omega,by omega,by omega,h4⟩),rfl⟩
    refine wyz rfl (aZ false rfl rfl rfl (aLs h4)) (go 5 ?_)
    exact bHe (s':=⟨bx,rw⟩) rfl sb0 ⟨cX (Bool.eq_false_iff.2 fun hh=>by obtain ⟨q1,q0,q2,q3⟩:=(bL0 hlx1).2 hh;first|omega|exact h4 q3),rfl⟩
   refine wcp false rfl (eD h3) (go 13 ?_)
   exact bHe (s':=⟨bx,rw⟩) rfl sb0 ⟨cX (Bool.eq_false_iff.2 fun hh=>by obtain ⟨q1,q0,q2,q3⟩:=(bL0 hlx1).2 hh;first|omega|exact h3 q3),rfl⟩
  refine wcp false rfl (eD h2) (go 20 ?_)
  exact bHe (s':=⟨bx,rw⟩) rfl sb0 ⟨cX (Bool.eq_false_iff.2 fun hh=>by obtain ⟨q1,q0,q2,q3⟩:=(bL0 hlx1).2 hh;first|omega|exact h2 q3),rfl⟩
 refine go 12 ?_
 refine wcp false rfl (eD (by omega)) (go 24 ?_)
 exact bHe (s':=⟨bx,rw⟩) rfl sb0 ⟨cX (bOs hlx1),rfl⟩
theorem bQi(e:aH)(hx:e.name.size <= 4611686018427387904)(ih:∀k (h:k<e.args.length) (s:Sto),aL prog 23 [bK5 (.agg (cU e.args[k]))] [] s fun r s'=>r=.c (.val (.bool (eO e.args[k]))) /\ s'=s)(s:Sto):aL prog 23 [bK5 (.agg (cU e))] [] s fun t s'=>t=.c (.val (.bool (eO e))) /\ s'=s:=by
 obtain ⟨bx,rw⟩:=s
 refine acX 93 func23 ?_
 refine go 11 fun b1=>?_
 refine wcR 0 rfl call42 rfl (bOf e.op _) (go 5 ?_)
 by_cases h1:((bLk e.op:Nat):Int)=0
 ·have h7:=bPh (op:=e.op)
  have hle:=bNd e.op
  refine wcp true rfl (eR h1) (go 12 ?_)
  exact bHe (s':=⟨bx,rw⟩) rfl sb1 ⟨cX (by rw [bK7];unfold bLj;rw [if_pos (by omega)]),rfl⟩
 have h7:=bPh (op:=e.op)
 have hle:=bNd e.op
 refine wcp false rfl (eD h1) (go 6 ?_)
 by_cases h4:((bLk e.op:Nat):Int)=7
 ·refine wcp true rfl (eR h4) (go 10 ?_)
  by_cases h6:(0:Int)<((e.args.length:Nat):Int)
  ·refine wcp true rfl (mH h6) (go 12 ?_)
   exact bHe (s':=⟨bx,rw⟩) rfl sb1 ⟨cX (by rw [bK7];unfold bLj;rw [if_neg (by omega),if_pos (by omega)];rw [decide_eq_false (by omega)];rfl),rfl⟩
  refine wcp false rfl (mI h6) (go 9 ?_)
  by_cases h9:e.op=1
  ·refine wcp true rfl (eR h9) (go 3 ?_)
   by_cases h10:(0:Int) <= e.num
   ·refine wcp true rfl (aMq h10) (go 4 ?_)
    by_cases h11:e.name=aK
    ·refine wyz rfl (aZ true rfl rfl rfl (aL8 h11)) (go 22 ?_)
     exact bHe (s':=⟨bx,rw⟩) rfl sb1 ⟨cX (by rw [bK7];unfold bLj;rw [if_neg (by omega),if_pos (by omega)];rw [decide_eq_true (show e.args.length=0 by omega)];unfold jG;rw [decide_eq_true (show e.op=1 /\ 0 <= e.num by omega),decide_eq_true h11,decide_eq_false (show ¬(e.op=2 /\ e.num=0) by omega)];rfl),rfl⟩
    refine wyz rfl (aZ false rfl rfl rfl (aLs h11)) (go 4 ?_)
    refine wcp false rfl (eD (by omega)) (go 17 ?_)
    exact bHe (s':=⟨bx,rw⟩) rfl sb1 ⟨cX (by rw [bK7];unfold bLj;rw [if_neg (by omega),if_pos (by omega)];rw [decide_eq_true (show e.args.length=0 by omega)];unfold jG;rw [decide_eq_true (show e.op=1 /\ 0 <= e.num by omega),decide_eq_false h11,decide_eq_false (show ¬(e.op=2 /\ e.num=0) by omega)];rfl),rfl⟩
   refine wcp false rfl (aMx h10) (go 9 ?_)
   refine wcp false rfl (eD (by omega)) (go 17 ?_)
   exact bHe (s':=⟨bx,rw⟩) rfl sb1 ⟨cX (by rw [bK7];unfold bLj;rw [if_neg (by omega),if_pos (by omega)];rw [decide_eq_true (show e.args.length=0 by omega)];unfold jG;rw [decide_eq_false (show ¬(e.op=1 /\ 0 <= e.num) by omega),decide_eq_false (show ¬(e.op=2 /\ e.num=0) by omega)];rfl),rfl⟩
  refine wcp false rfl (eD h9) (go 13 ?_)
  by_cases h12:e.op=2
  ·refine wcp true rfl (eR h12) (go 3 ?_)
   by_cases h13:e.num=0
   ·refine wcp true rfl (eR h13) (go 4 ?_)
    rcases Bool.eq_false_or_eq_true (bQ e.name) with h14|h14
    ·refine bK8 0 rfl call43 rfl (bP1 e.name (by first|assumption|omega) _) h14 (go 8 ?_)
     exact bHe (s':=⟨bx,rw⟩) rfl sb1 ⟨cX (by rw [bK7];unfold bLj;rw [if_neg (by omega),if_pos (by omega)];rw [decide_eq_true (show e.args.length=0 by omega)];unfold jG;rw [decide_eq_false (show ¬(e.op=1 /\ 0 <= e.num) by omega)];rw [decide_eq_true (show e.op=2 /\ e.num=0 by omega),h14];rfl),rfl⟩
    refine bK8 0 rfl call43 rfl (bP1 e.name (by first|assumption|omega) _) h14 (go 8 ?_)
    exact bHe (s':=⟨bx,rw⟩) rfl sb1 ⟨cX (by rw [bK7];unfold bLj;rw [if_neg (by omega),if_pos (by omega)];rw [decide_eq_true (show e.args.length=0 by omega)];unfold jG;rw [decide_eq_false (show ¬(e.op=1 /\ 0 <= e.num) by omega)];rw [decide_eq_true (show e.op=2 /\ e.num=0 by omega),h14];rfl),rfl⟩
   refine wcp false rfl (eD h13) (go 13 ?_)
   exact bHe (s':=⟨bx,rw⟩) rfl sb1 ⟨cX (by rw [bK7];unfold bLj;rw [if_neg (by omega),if_pos (by omega)];rw [decide_eq_true (show e.args.length=0 by omega)];unfold jG;rw [decide_eq_false (show ¬(e.op=1 /\ 0 <= e.num) by omega)];rw [decide_eq_false (show ¬(e.op=2 /\ e.num=0) by omega)];rfl),rfl⟩
  refine wcp false rfl (eD h12) (go 17 ?_)
  exact bHe (s':=⟨bx,rw⟩) rfl sb1 ⟨cX (by rw [bK7];unfold bLj;rw [if_neg (by omega),if_pos (by omega)];rw [decide_eq_true (show e.args.length=0 by omega)];unfold jG;rw [decide_eq_false (show ¬(e.op=1 /\ 0 <= e.num) by omega)];rw [decide_eq_false (show ¬(e.op=2 /\ e.num=0) by omega)];rfl),rfl⟩
 refine wcp false rfl (eD h4) (go 6 ?_)
 by_cases h16:((bLk e.op:Nat):Int)=6
 ·refine wcp true rfl (eR h16) (go 9 ?_)
  by_cases h18:((e.args.length:Nat):Int)=1
  ·refine wcp true rfl (eR h18) (go 3 ?_)
   by_cases h19:e.num=0
   ·refine wcp true rfl (eR h19) (go 4 ?_)
    by_cases h20:e.name=aK
    ·refine wyz rfl (aZ true rfl rfl rfl (aL8 h20)) (go 4 ?_)
     refine wyz rfl (bH fO cU e.args iU fP 0 rfl rfl rfl rfl (by omega) (by decide) runUnderlying23 sizeOf25) (go 1 ?_)
     rcases Bool.eq_false_or_eq_true (eO e.args[0]) with h21|h21
     ·refine bK8 0 rfl call23 rfl (ih 0 (by omega) _) h21 (go 7 ?_)
      exact bHe (s':=⟨bx,rw⟩) rfl sb1 ⟨cX (by rw [bK7];unfold bLj;rw [if_neg (by omega),if_neg (by omega),if_pos (by omega)];rw [decide_eq_true (by omega),decide_eq_true (show e.num=0 by omega),decide_eq_true h20,bPx (by omega),h21];rfl),rfl⟩
     refine bK8 0 rfl call23 rfl (ih 0 (by omega) _) h21 (go 7 ?_)
     exact bHe (s':=⟨bx,rw⟩) rfl sb1 ⟨cX (by rw [bK7];unfold bLj;rw [if_neg (by omega),if_neg (by omega),if_pos (by omega)];rw [decide_eq_true (by omega),decide_eq_true (show e.num=0 by omega),decide_eq_true h20,bPx (by omega),h21];rfl),rfl⟩
    refine wyz rfl (aZ false rfl rfl rfl (aLs h20)) (go 14 ?_)
    exact bHe (s':=⟨bx,rw⟩) rfl sb1 ⟨cX (by rw [bK7];unfold bLj;rw [if_neg (by omega),if_neg (by omega),if_pos (by omega)];rw [decide_eq_true (by omega),decide_eq_true (show e.num=0 by omega),decide_eq_false h20];rfl),rfl⟩
   refine wcp false rfl (eD h19) (go 19 ?_)
   exact bHe (s':=⟨bx,rw⟩) rfl sb1 ⟨cX (by rw [bK7];unfold bLj;rw [if_neg (by omega),if_neg (by omega),if_pos (by omega)];rw [decide_eq_true (by omega),decide_eq_false (show ¬e.num=0 by omega)];rfl),rfl⟩
  refine wcp false rfl (eD h18) (go 23 ?_)
  exact bHe (s':=⟨bx,rw⟩) rfl sb1 ⟨cX (by rw [bK7];unfold bLj;rw [if_neg (by omega),if_neg (by omega),if_pos (by omega)];rw [decide_eq_false (by omega)];rfl),rfl⟩
 refine wcp false rfl (eD h16) (go 12 ?_)
 by_cases h23:((e.args.length:Nat):Int)=2
 ·refine wcp true rfl (eR h23) (go 3 ?_)
  by_cases h24:e.num=0
  ·refine wcp true rfl (eR h24) (go 4 ?_)
   by_cases h25:e.name=aK
   ·refine wyz rfl (aZ true rfl rfl rfl (aL8 h25)) (go 4 ?_)
    refine wyz rfl (bH fO cU e.args iU fP 0 rfl rfl rfl rfl (by omega) (by decide) runUnderlying23 sizeOf25) (go 1 ?_)
    rcases Bool.eq_false_or_eq_true (eO e.args[0]) with h26|h26
    ·refine bK8 0 rfl call23 rfl (ih 0 (by omega) _) h26 (go 4 ?_)
     refine wyz rfl (bH fO cU e.args iU fP 1 rfl rfl rfl rfl (by omega) (by decide) runUnderlying23 sizeOf25) (go 1 ?_)
     rcases Bool.eq_false_or_eq_true (eO e.args[1]) with h27|h27
     ·refine bK8 0 rfl call23 rfl (ih 1 (by omega) _) h27 (go 5 ?_)
      exact bHe (s':=⟨bx,rw⟩) rfl sb1 ⟨cX (by rw [bK7];unfold bLj;rw [if_neg (by omega),if_neg (by omega),if_neg (by omega)];rw [decide_eq_true (by omega),decide_eq_true (show e.num=0 by omega),decide_eq_true h25,bOm (by omega),h26,h27];rfl),rfl⟩
     refine bK8 0 rfl call23 rfl (ih 1 (by omega) _) h27 (go 5 ?_)
     exact bHe (s':=⟨bx,rw⟩) rfl sb1 ⟨cX (by rw [bK7];unfold bLj;rw [if_neg (by omega),if_neg (by omega),if_neg (by omega)];rw [decide_eq_true (by omega),decide_eq_true (show e.num=0 by omega),decide_eq_true h25,bOm (by omega),h26,h27];rfl),rfl⟩
    refine bK8 0 rfl call23 rfl (ih 0 (by omega) _) h26 (go 12 ?_)
    exact bHe (s':=⟨bx,rw⟩) rfl sb1 ⟨cX (by rw [bK7];unfold bLj;rw [if_neg (by omega),if_neg (by omega),if_neg (by omega)];rw [decide_eq_true (by omega),decide_eq_true (show e.num=0 by omega),decide_eq_true h25,bOm (by omega),h26];rfl),rfl⟩
   refine wyz rfl (aZ false rfl rfl rfl (aLs h25)) (go 19 ?_)
   exact bHe (s':=⟨bx,rw⟩) rfl sb1 ⟨cX (by rw [bK7];unfold bLj;rw [if_neg (by omega),if_neg (by omega),if_neg (by omega)];rw [decide_eq_true (by omega),decide_eq_true (show e.num=0 by omega),decide_eq_false h25];rfl),rfl⟩
  refine wcp false rfl (eD h24) (go 24 ?_)
  exact bHe (s':=⟨bx,rw⟩) rfl sb1 ⟨cX (by rw [bK7];unfold bLj;rw [if_neg (by omega),if_neg (by omega),if_neg (by omega)];rw [decide_eq_true (by omega),decide_eq_false (show ¬e.num=0 by omega)];rfl),rfl⟩
 refine wcp false rfl (eD h23) (go 28 ?_)
 exact bHe (s':=⟨bx,rw⟩) rfl sb1 ⟨cX (by rw [bK7];unfold bLj;rw [if_neg (by omega),if_neg (by omega),if_neg (by omega)];rw [decide_eq_false (by omega)];rfl),rfl⟩
theorem bM1{e:aH}(h:e.sane):e.name.size <= 4611686018427387904 /\ iI e.args:=by cases e;rw [aH.sane] at h;first|exact ⟨h.2.2.1,h.2.2.2⟩|exact ⟨h.2.1,h.2.2⟩|exact ⟨h.1,h.2⟩
theorem bO9:∀(N:Nat)(e:aH),e.nodes <= N -> e.sane -> ∀s:Sto,aL prog 23 [bK5 (.agg (cU e))] [] s fun r s'=>r=.c (.val (.bool (eO e))) /\ s'=s
 |0,e,h,_,_=>by cases e;rw [aH.nodes] at h;omega
 |N+1,e,h,hs,s=>bQi e (bM1 hs).1 (fun k hk s=>bO9 N e.args[k] (by have:=sF e k hk;omega) (mV _ (bM1 hs).2 _ (getElem_mem _)) s) s
theorem bN7(e:aH)(hN:e.nodes <= 1000000000)(hsh:eO e=true)(ih:∀k (h:k<e.args.length) (s:Sto),aL prog 22 [bK5 (.agg (cU e.args[k]))] [] s fun r s'=>r=.c (.val (.int .i64 ((dI e.args[k]:Nat):Int))) /\ s'=s)(s:Sto):aL prog 22 [bK5 (.agg (cU e))] [] s fun t s'=>t=.c (.val (.int .i64 ((dI e:Nat):Int))) /\ s'=s:=by
 obtain ⟨bx,rw⟩:=s
 have hlen:=uC e
 refine acX 34 func22 ?_
 refine go 21 fun b1=>?_
 refine oC (e.args.length) 9 (fun k=>[(3,.c (.val (.int .i64 ((bSm e.op 0 (e.args.take (k)):Nat):Int)))),(0,bK5 (.agg (cU e))),(1,pP b1),(8,nI e.args.length)]) (sA rfl) fun k hk=>?_
 show AWp prog _ ⟨34,_,_,(9,nI k)::[(3,.c (.val (.int .i64 ((bSm e.op 0 (e.args.take (k)):Nat):Int)))),(0,bK5 (.agg (cU e))),(1,pP b1),(8,nI e.args.length)]⟩ _
 refine go 2 ?_
 by_cases h1:((k:Nat):Int)<((e.args.length:Nat):Int)
 ·refine wcp true rfl (jZ h1) (go 16 ?_)
  have hle:=aBa _ e.args[k] (Nat.le_refl _)
  have hnk:=sF e k (by omega)
  have hmx:=kF e.op e.args k (by omega)
  refine go 3 ?_
  refine wyz rfl (bH fO cU e.args iU fP k rfl rfl rfl rfl (by omega) (by decide) runUnderlying23 sizeOf25) (go 1 ?_)
  refine wcR 0 rfl call22 rfl (ih k (by omega) _) (go 8 ?_)
  rcases Bool.eq_false_or_eq_true (cV e.op k e.args[k].op) with h3|h3
  ·refine bK8 0 rfl call28 rfl (bOl e k (by omega) (bLd hsh).1 (bLd ((bLd hsh).2 k (by omega))).1 _) h3 (go 5 ?_)
   refine wad rfl (go 6 ?_)
   refine wyz rfl (aNq _ rfl rfl rfl rfl) (go 5 ?_)
   refine wad rfl (go 2 ?_)
   exact ⟨by omega,(aG rfl (gQ (by omega)) (aG rfl (gQ (by rw [kF _ _ _ (by omega),h3];simp only [if_true,Bool.false_eq_true,if_false];omega)) (sA rfl)))⟩
  refine bK8 0 rfl call28 rfl (bOl e k (by omega) (bLd hsh).1 (bLd ((bLd hsh).2 k (by omega))).1 _) h3 (go 8 ?_)
  refine wyz rfl (aNq _ rfl rfl rfl rfl) (go 5 ?_)
  refine wad rfl (go 2 ?_)
  exact ⟨by omega,(aG rfl (gQ (by omega)) (aG rfl (gQ (by rw [kF _ _ _ (by omega),h3];simp only [if_true,Bool.false_eq_true,if_false];omega)) (sA rfl)))⟩
 refine wcp false rfl (jQ h1) (go 12 ?_)
 have hle0:=aBa _ e (Nat.le_refl _)
 have hq:=tX e
 obtain rfl:k=e.args.length:=by omega
 rw [take_of_length_le (Nat.le_refl _)]
 have hsE:=bNc e.op (bLd hsh).1
 refine go 2 ?_
 refine wcR 0 rfl call42 rfl (bOf e.op _) ?_
 by_cases h7:((bLk e.op:Nat):Int)=6
 ·refine wcp true rfl (eR h7) (go 5 ?_)
  refine wad rfl (go 10 ?_)
  exact bHe (s':=⟨bx,rw⟩) rfl sb1 ⟨aPy (by rw [tX,if_pos (by omega)];first|rfl|simp),rfl⟩
 refine wcp false rfl (eD h7) (go 12 ?_)
 exact bHe (s':=⟨bx,rw⟩) rfl sb1 ⟨aPy (by rw [tX,if_neg (by omega)];first|rfl|simp),rfl⟩
theorem bNv:∀(N:Nat)(e:aH),e.nodes <= N -> N <= 1000000000 -> eO e=true -> ∀s:Sto,aL prog 22 [bK5 (.agg (cU e))] [] s fun r s'=>r=.c (.val (.int .i64 ((dI e:Nat):Int))) /\ s'=s
 |0,e,h,_,_,_=>by cases e;rw [aH.nodes] at h;omega
 |N+1,e,h,hN,hs,s=>bN7 e (by omega) hs (fun k hk s=>bNv N e.args[k] (by have:=sF e k hk;omega) (by omega) ((bLd hs).2 k hk) s) s
theorem bLw(e:aH)(hN:e.nodes <= 1000000000)(hs:e.sane)(s:Sto):aL prog 12 [bK5 (.agg (cU e))] [] s fun t s'=>t=.c (.val (.bool (dM e))) /\ s'=s:=by
 obtain ⟨bx,rw⟩:=s
 refine acX 10 func12 ?_
 refine go 9 fun b1=>?_
 rcases Bool.eq_false_or_eq_true (eO e) with h1|h1
 ·refine bK8 0 rfl call23 rfl (bO9 _ e (Nat.le_refl _) hs _) h1 (go 2 ?_)
  refine wcR 0 rfl call22 rfl (bNv _ e (Nat.le_refl _) hN h1 _) ?_
  by_cases h2:((dI e:Nat):Int) <= 24
  ·refine wcp true rfl (aPz h2) (go 5 ?_)
   exact bHe (s':=⟨bx,rw⟩) rfl sb1 ⟨cX (by unfold dM;rw [h1,decide_eq_true (by omega)];rfl),rfl⟩
  refine wcp false rfl (aPx h2) (go 5 ?_)
  exact bHe (s':=⟨bx,rw⟩) rfl sb1 ⟨cX (by unfold dM;rw [h1,decide_eq_false (by omega)];rfl),rfl⟩
 refine bK8 0 rfl call23 rfl (bO9 _ e (Nat.le_refl _) hs _) h1 (go 9 ?_)
 exact bHe (s':=⟨bx,rw⟩) rfl sb1 ⟨cX (by unfold dM;rw [h1];rfl),rfl⟩
end
section
open Go.RowKit
section
variable {P:Program}{U:List Nat}{o:Oper}{st:AS}
end
theorem bEj(x n:Int)(hn:0<n):∃k:Nat,x%n=k /\ (k:Int)<n:=
 ⟨(x%n).toNat,by have:=Int.emod_nonneg x (b:=n) (by omega);omega,by have:=Int.emod_nonneg x (b:=n) (by omega);have:=Int.emod_lt_of_pos x (b:=n) hn;omega⟩
theorem bEl(x n:Int)(k:Nat)(hn:0<n)(hn2:n <= 4611686018427387904)(hk:x%n=k)(s:Sto):aL prog 14 [.c (.val (.int .i64 x)),.c (.val (.int .i64 n))] [] s fun r s'=>r=nI k /\ s'=s:=by
 have h:=aNz x n hn hn2 s
 rw [hk] at h
 exact h
end
section
open Go.RowKit
section
variable {P:Program}{U T:List Nat}{o:Oper}{n d:Nat}{bx:List Box}{rw:List bA}{ts:List (Nat×AT)}{K:AS -> Prop}{st:AS}{t:AT}
theorem bGr{g:Nat}{E:TypeId}{cs ds:List AC}{N C:Nat}{B:List Box}(i:Nat)(hi:look st.ts i=some (.c (.val (.slice (some ⟨g,0,none⟩) N C))))(hrow:st.s.boxes=⟨g,E,cs++ds⟩::B)(hC:N <= C)(hC2:C <= 9223372036854775807):Sub st {st with s:=⟨B,st.s.rows⟩,ts:=(i,.c (.sl N cs))::st.ts}:=fun a w hs=>by
 have hsub:aAz st.s ⟨B,st.s.rows⟩:=aA (by rw [hrow];exact List.sublist_cons_self _ _) (List.Sublist.refl _)
 obtain ⟨h1,h2,h3⟩:=vU hsub a w hs
 refine ⟨⟨h1.df,h1.sz,fun j x hx=>?_,h1.mem⟩,h2,h3⟩
 simp only [look] at hx
 split at hx
 ·rename_i he;subst he;cases hx
  obtain ⟨u,e1,e2⟩:=hs.tm i _ hi
  have:=e2.val
  subst this
  obtain ⟨us,⟨fz,-,hh⟩,hrep⟩:=hs.mem.box ⟨g,E,cs++ds⟩ (by rw [hrow];simp)
  have hlen:us.length=cs.length+ds.length:=by have:=hrep.len;simpa using this
  have hr2:=hrep.take cs.length
  rw [List.take_left] at hr2
  have hnm:g∉(⟨B,st.s.rows⟩:Sto).bl:=by
   have hnd:=hs.mem.nodup
   have hbl:st.s.bl=g::(⟨B,st.s.rows⟩:Sto).bl:=by unfold Sto.bl;rw [hrow];simp
   rw [hbl] at hnd
   exact (List.nodup_cons.1 hnd).1
  refine ⟨_,e1,.c _ _ (.sl _ _ (us.take cs.length) _ ⟨_,_,rfl,hC,.inr ⟨g,0,rfl,fun j x hj=>?_⟩⟩ hr2.len (fun k h h'=>(hr2.at_ k h h').mono (up_sub h2)) (fun _ _ _ h=>by cases h;exact hC2))⟩
  rw [eW _ _ _ hnm]
  unfold World.cell?
  simp only [hh]
  rw [List.getElem?_take] at hj
  split at hj
  ·simpa using hj
  cases hj
 exact h1.tm j x hx
theorem bHa{ops:Array Oper}{l:List Oper}{Q:Exit -> AS -> Prop}{g:Nat}{E:TypeId}{cs ds:List AC}{N C:Nat}(i:Nat)(hi:look ts i=some (.c (.val (.slice (some ⟨g,0,none⟩) N C))))(hC:N <= C)(hC2:C <= 9223372036854775807)(h:eQ P ops l ⟨n,T,⟨bx,rw⟩,(i,.c (.sl N cs))::ts⟩ Q):eQ P ops l ⟨n,T,⟨⟨g,E,cs++ds⟩::bx,rw⟩,ts⟩ Q:=
 uQ (bGr (st:=⟨n,T,⟨⟨g,E,cs++ds⟩::bx,rw⟩,ts⟩) i hi rfl hC hC2) h
theorem bG0(w:World){a:Act}{K:Act -> World -> Prop}{Q:Exit -> Act -> World -> Prop}(s x:Operand)(t u:TypeId)
  (ho:o.op=.call {callee:=.builtin .append,args:=#[s,x],argTypes:=#[t,u]})
  (e:TypeId) (i:TypeInfo) (ht:P.underlying t=some (.slice e)) (hu:P.underlying u=some .string) (hi:P.info? e=some i) (hz:i.zero=some (.int .u8 0)) (hsize:i.size=1) (hby:i.bytes=1)
  (v:Value) (n:Nat) (xs:List Value) (hs:a.eval s=v) (hown:w.ownsRow 0 e 1 v n xs) (z:ByteArray) (hx:a.eval x=.string z) (h63:n+z.size <= maxLen) (hbytes:n+z.size <= 140737488355328)
  (h:∀v' w',w'.ownsRow 0 e 1 v' (n+z.size) (xs++Lib.strCells z) -> w.grownBy w' v.ownBlock -> (∀g,v'.ownBlock=some g -> v.ownBlock=some g∨w.heap.size <= g) -> K (a.put o.dst v') w'):o.wp P a w K Q:=by
 obtain ⟨v',w',hr,h2,h3,h4⟩:=Lib.run_append_own_string (P:=P) w 0 t u o.type e i ht hu hi hz hsize hby v n xs hown z h63 hbytes (Nat.zero_le _)
 have hfr:∀g,v'.ownBlock=some g -> v.ownBlock=some g∨w.heap.size <= g:=by
  rcases hown.2 with ⟨hv0,hn0⟩|⟨g,cap,cur,hv0,hbg,hg,hnc,hcm,hcs,htake⟩
  ·obtain ⟨v2,w2,hr2,h5,_,_⟩:=Lib.run_append_own_string (P:=P) w w.heap.size t u o.type e i ht hu hi hz hsize hby v n xs ⟨hown.1,.inl ⟨hv0,hn0⟩⟩ z h63 hbytes (Nat.le_refl _)
   rw [hr] at hr2
   injection hr2 with e1 e2
   subst e1
   intro k hk
   exact Or.inr (h5.lt k hk).1
  subst hv0
  by_cases hroom:n+z.size <= cap
  ·have hr2:=Lib.run_append_room_string (P:=P) w t u o.type e i ht hu hi hsize g n cap cur hg z hroom (by omega)
   rw [hr] at hr2
   injection hr2 with e1 e2
   subst e1
   intro k hk
   exact .inl hk
  have holds:∀j u,xs[j]?=some u -> w.cell? ((⟨g,0,none⟩:Addr).add j)=some u:=hown.cells (g:=g) rfl
  have hr2:=Lib.run_append_grow_string (P:=P) w t u o.type e i (.int .u8 0) ht hu hi hz ⟨g,0,none⟩ n cap xs (by rw [hsize];exact hown.1) holds z (by omega) (by simp only [maxLen] at h63;omega) (by rw [hby];exact growslice_fits (by omega) (by omega))
  rw [hr] at hr2
  injection hr2 with e1 e2
  subst e1
  intro k hk
  simp [Value.ownBlock] at hk
  exact .inr (by omega)
 unfold Oper.wp execOp
 simp only [ho,resolve,invoke,builtin,Sem.run_bind,Sem.run_pure,Result.andThen_ok,List.map_toArray,List.map_cons,List.map_nil,hs,hx,hr]
 exact h v' w' h2 h3 hfr
theorem bHb{E E2 e:TypeId}{x y:Operand}{k:Nat}{v:Value}{cs ds r:List AC}(A:List bA)(i:TypeInfo){B:List bA}{z:ByteArray}(ho:o.op=.call {callee:=.builtin .append,args:=#[x,y],argTypes:=#[E,E2]})(hd:o.dst=some d)(hn:d<n)
  (hx:evA ⟨n,T,⟨bx,A++⟨v,e,1,k,cs⟩::B⟩,ts⟩ x=some (.c (.val v))) (hy:evA ⟨n,T,⟨bx,A++⟨v,e,1,k,cs⟩::B⟩,ts⟩ y=some (.c (.val (.string z)))) (hu:P.underlying E=some (.slice e)) (hu2:P.underlying E2=some .string) (hi:P.info? e=some i) (hz:i.zero=some (.int .u8 0)) (hsz:i.size=1) (hby:i.bytes=1)
  (hlen:k+z.size <= maxLen) (hbytes:k+z.size <= 140737488355328) {N:Nat} (hN:k+z.size=N) (hds:iF z.data.toList=ds) (hU:(⟨bx,A++⟨v,e,1,k,cs⟩::B⟩:Sto).bl.Nodup -> ∀b,b∈aY v -> b∈U) (hT:∀b,b∈aY v -> b∈T) (hr:cs++ds=r)
  (h:∀v',K ⟨n,aY v'++T,⟨bx,A++⟨v',e,1,N,r⟩::B⟩,(d,.c (.val v'))::ts⟩):AO P U o ⟨n,T,⟨bx,A++⟨v,e,1,k,cs⟩::B⟩,ts⟩ K:=by
 subst hr;subst hN;subst hds
 refine bGt A hd hn rfl (by decide) (fun a w hs us hown=>⟨Lib.strCells z,?_,fun KK QQ hK=>bG0 w x y E E2 ho e i hu hu2 hi hz hsz hby v k us (hs.val hx) hown z (hs.val hy) hlen hbytes hK⟩) hU hT h
 have hR:=gU (bI (⟨bx,A++⟨v,e,1,k,cs⟩::B⟩:Sto).bl w) (Lib.strCells z) (fun u hu=>by obtain ⟨c,_,rfl⟩:=List.mem_map.1 hu;rfl)
 have e1:(Lib.strCells z).map AC.val=iF z.data.toList:=by simp [Lib.strCells,iF]
 rw [e1] at hR
 exact hR
end
end
end Go.Proofs.YtbdfdjdgfanjaaaDoor
