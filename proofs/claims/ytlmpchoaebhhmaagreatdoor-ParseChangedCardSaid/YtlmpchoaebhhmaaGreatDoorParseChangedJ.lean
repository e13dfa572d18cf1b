/-
  Proved: for all arguments lockorderlaw03.ParseChanged returns true and leaves its arguments as they were. No condition beyond the row's own. (Printed by genlaw_changed.py.)
-/
import Derived.Test.YtlmpchoaebhhmaaGreatDoorL5J
import Derived.Test.YtlmpchoaebhhmaaGreatDoorL20J
import Derived.Test.YtlmpchoaebhhmaaGreatDoorL32J
set_option linter.all false
set_option synthInstance.maxHeartbeats 1000000
set_option synthInstance.maxSize 1000000
set_option maxHeartbeats 8000000
set_option maxRecDepth 100000
namespace Go.Proofs.YtlmpchoaebhhmaaGreatDoor
open Go.Proofs.Tryz
open List (length_append length_cons length_nil mem_append mem_cons not_mem_nil append_assoc getElem_mem take_of_length_le)
section
open Go.ChangeShapes Go.WideShapes Go.ChangeAt Go.RowKit
def bGk:List ByteArray:=[⟨#[32,109,117,116,101,120,32]⟩,⟨#[40]⟩,⟨#[125]⟩,⟨#[32,101,108,115,101,32,123]⟩,⟨#[59]⟩,⟨#[32,118,97,114,32,113,59]⟩,⟨#[32,114,109,117,116,101,120,32,122,91,50,93,59]⟩,⟨#[44,32]⟩,⟨#[91,49,93]⟩,⟨#[32,61,32,45,32,53]⟩]
theorem bG1:∀x,x∈bGk -> x.size <= 13:=by decide
theorem bG8{P:Program}{U:List Nat}{o:Oper}{st:AS}{t e:TypeId}{x y:Operand}{n cap b:Nat}{k:IntKind}{i:Int}(j:Nat)(ho:o.op=.indexAddr t x y)(hx:evA st x=some (.c (.val (.slice (some ⟨b,0,none⟩) n cap))))(hy:evA st y=some (.c (.val (.int k i))))(hi:i=j)(hj:j<n)
  (hu:∀w,(underlying t).run P w=.ok (.slice e) w) (hS:∀w,(sizeOf e).run P w=.ok 1 w):AY P U o st (.c (.val (.pointer (some ⟨b,j,none⟩)))):=by
 have h:=dH (z:=1) (U:=U) j ho hx hy hi hj hu hS
 simpa only [Nat.zero_add,Nat.mul_one] using h
theorem bG2(bs:List UInt8)(pad:List AC)(j:Nat)(u:UInt8)(h:j<bs.length):splice (iF bs++pad) j [.val (.int .u8 (u.toNat:Int))]=iF (bs.set j u)++pad:=by
 unfold splice iF
 rw [List.take_append_of_le_length (by simp;omega),List.drop_append_of_le_length (by simp;omega),←append_assoc]
 congr 1
 rw [List.map_set,List.set_eq_take_append_cons_drop,if_pos (by simpa using h)]
 simp
theorem bGo(bs:List UInt8)(k:Nat):(iF bs).take (k*1)=iF (bs.take k):=by simp [iF]
theorem bGp(bs:List UInt8)(k:Nat):(iF bs).drop (k*1)=iF (bs.drop k):=by simp [iF]
theorem bGd(a b:List UInt8):iF a++iF b=iF (a++b):=by simp [iF]
theorem bGb(a:List UInt8):(iF a).length=a.length*1:=by simp [iF]
theorem bE2{n:Int}(h:(Lit.int .i64 n).wf=true):-9223372036854775808 <= n /\ n <= 9223372036854775807:=by
 simp only [Lit.wf,Bool.and_eq_true,decide_eq_true_eq] at h
 exact h
theorem bGl(l0:List Int)(l1:List Int)(s2:List UInt8)(n3:Int)(n4:Int)(n5:Int)(m:Int)(hl0:l0.length <= 9223372036854775807)(hl1:l1.length <= 9223372036854775807)(hl2:s2.length <= 9223372036854775807)(hn3:-9223372036854775808 <= n3 /\ n3 <= 9223372036854775807)(hn4:-9223372036854775808 <= n4 /\ n4 <= 9223372036854775807)(hn5:-9223372036854775808 <= n5 /\ n5 <= 9223372036854775807):aL prog 3 [aA2 (.c (.sl l0.length (l0.map fun i=>.val (.int .i64 i)))) m,.c (.sl l1.length (l1.map fun i=>.val (.int .i64 i))),.c (.sl s2.length (iF s2)),.c (.val (.int .i64 n3)),.c (.val (.int .i64 n4)),.c (.val (.int .i64 n5))] [] ⟨[],[]⟩ fun r s'=>r=.c (.val (.bool true)) /\ s'=⟨[],[]⟩:=by
 refine acB func3 rfl ?_
 show AWp prog _ ⟨113,[],⟨[],[]⟩,[(0,aA2 (.c (.sl l0.length (l0.map fun i=>.val (.int .i64 i)))) m),(1,.c (.sl l1.length (l1.map fun i=>.val (.int .i64 i)))),(2,.c (.sl s2.length (iF s2))),(3,.c (.val (.int .i64 n3))),(4,.c (.val (.int .i64 n4))),(5,.c (.val (.int .i64 n5)))]⟩ _
 refine go 8 ?_
 refine wc0 rfl call15 rfl (bE3 l0 (by omega) _) ?_
 rintro _ _ ⟨p,hp,rfl,rfl⟩
 have hpl:=bEq hp
 obtain ⟨N,hN⟩:∃N,N=(vI p).length:=⟨_,rfl⟩
 refine wo rfl (bG5 rfl rfl (by decide) rfl underlying9 underlying23 underlying5 (by rw [kT];omega) (N:=N) (by rw [kT,hN]) (cs:=iF (vI p)) rfl fun g C pad hC hC2=>?_)
 refine go 10 ?_
 refine fM (fun q:Nat×List UInt8=>(⟨113,[g],⟨[⟨g,5,iF q.2++pad⟩],[]⟩,[(14,nI q.1),(13,.c (.val (.slice (some ⟨g,0,none⟩) N C))),(0,aA2 (.c (.sl l0.length (l0.map fun i=>.val (.int .i64 i)))) m),(1,.c (.sl l1.length (l1.map fun x=>.val (.int .i64 x)))),(2,.c (.sl s2.length (iF s2))),(3,.c (.val (.int .i64 n3))),(4,.c (.val (.int .i64 n4))),(5,.c (.val (.int .i64 n5)))]⟩:AS)) (fun q=>q.1 <= 2 /\ q.2.length=N) (fun q=>2-q.1) (0,vI p) (sA rfl) ⟨by omega,hN.symm⟩ ?_
 rintro ⟨k,bs⟩ ⟨hk,hb⟩
 dsimp only at hk hb
 show AWp prog _ ⟨113,[g],⟨[⟨g,5,iF bs++pad⟩],[]⟩,[(14,nI k),(13,.c (.val (.slice (some ⟨g,0,none⟩) N C))),(0,aA2 (.c (.sl l0.length (l0.map fun i=>.val (.int .i64 i)))) m),(1,.c (.sl l1.length (l1.map fun x=>.val (.int .i64 x)))),(2,.c (.sl s2.length (iF s2))),(3,.c (.val (.int .i64 n3))),(4,.c (.val (.int .i64 n4))),(5,.c (.val (.int .i64 n5)))]⟩ _
 refine go 1 ?_
 refine xX [(39,.c (.val (.bool (decide (k<l1.length /\ k<s2.length /\ k<2 /\ 0<N))))),(14,nI k),(13,.c (.val (.slice (some ⟨g,0,none⟩) N C))),(0,aA2 (.c (.sl l0.length (l0.map fun i=>.val (.int .i64 i)))) m),(1,.c (.sl l1.length (l1.map fun x=>.val (.int .i64 x)))),(2,.c (.sl s2.length (iF s2))),(3,.c (.val (.int .i64 n3))),(4,.c (.val (.int .i64 n4))),(5,.c (.val (.int .i64 n5)))] ?_ ?_
 ·refine go 4 ?_
  by_cases h1:((k:Nat):Int)<((l1.length:Nat):Int)
  ·refine wcp true rfl (jZ h1) ?_
   refine go 4 ?_
   by_cases h2:((k:Nat):Int)<((s2.length:Nat):Int)
   ·refine wcp true rfl (jZ h2) ?_
    refine go 3 ?_
    by_cases h3:((k:Nat):Int)<2
    ·refine wcp true rfl (jZ h3) ?_
     refine go 4 ?_
     by_cases h4:(0:Int)<((N:Nat):Int)
     ·refine wcp true rfl (mH h4) ?_
      refine go 2 ?_
      exact ⟨rfl,(aG rfl (bZ (by first|exact (decide_eq_true ⟨by omega,by omega,by omega,by omega⟩).symm|exact (decide_eq_false (fun hh=>by omega)).symm)) (sA rfl))⟩
     refine wcp false rfl (mI h4) ?_
     refine go 2 ?_
     exact ⟨rfl,(aG rfl (bZ (by first|exact (decide_eq_true ⟨by omega,by omega,by omega,by omega⟩).symm|exact (decide_eq_false (fun hh=>by omega)).symm)) (sA rfl))⟩
    refine wcp false rfl (jQ h3) ?_
    refine go 7 ?_
    exact ⟨rfl,(aG rfl (bZ (by first|exact (decide_eq_true ⟨by omega,by omega,by omega,by omega⟩).symm|exact (decide_eq_false (fun hh=>by omega)).symm)) (sA rfl))⟩
   refine wcp false rfl (jQ h2) ?_
   refine go 11 ?_
   exact ⟨rfl,(aG rfl (bZ (by first|exact (decide_eq_true ⟨by omega,by omega,by omega,by omega⟩).symm|exact (decide_eq_false (fun hh=>by omega)).symm)) (sA rfl))⟩
  refine wcp false rfl (jQ h1) ?_
  refine go 16 ?_
  exact ⟨rfl,(aG rfl (bZ (by first|exact (decide_eq_true ⟨by omega,by omega,by omega,by omega⟩).symm|exact (decide_eq_false (fun hh=>by omega)).symm)) (sA rfl))⟩
 refine gY rfl (fun h5=>?_) (fun h5=>?_)
 ·refine go 4 ?_
  refine aB [] (by kernel_rfl) ?_
  obtain ⟨hc1,hc2,hc3,hc4⟩:=of_decide_eq_true h5
  refine tks [(0,true),(1,true),(2,true)] 11 (by kernel_rfl) ?_
  refine go 4 ?_
  refine tr 3 (by kernel_rfl) rfl (rT (fun i=>.val (.int .i64 i)) l1 k rfl rfl rfl rfl hc1 runUnderlying22 sizeOf3) ?_
  refine tks [(4,true),(5,true),(6,true),(8,true),(9,true)] 5 (by kernel_rfl) ?_
  refine go 6 ?_
  refine tr 10 (by kernel_rfl) rfl (rT (fun c:UInt8=>.val (.int .u8 c.toNat)) s2 k rfl rfl rfl rfl hc2 runUnderlying23 sizeOf5) ?_
  refine tks [(11,true)] 3 (by kernel_rfl) ?_
  refine go 2 ?_
  obtain ⟨j1,hj1,hlj1⟩:=bEj (l1[k]) (((N:Nat):Int)) (by omega)
  refine one 7 (by kernel_rfl) rfl rfl (bV rfl rfl (by decide) call16 rfl (bEl (l1[k]) (((N:Nat):Int)) j1 (by omega) (by omega) hj1 _) ?_)
  rintro _ _ ⟨rfl,rfl⟩
  refine tr 12 (by kernel_rfl) rfl (bG8 j1 rfl rfl rfl rfl (by omega) runUnderlying23 sizeOf5) ?_
  refine one 13 (by kernel_rfl) rfl rfl (bHc j1 rfl rfl rfl rfl sizeOf5 (by simp only [iF,length_append,List.length_map];omega) (bG2 bs pad j1 s2[k] (by omega)) (kH.2 ⟨by simp [Sto.bl],by simp⟩) ?_)
  refine aE (by kernel_rfl) ?_
  refine go 4 ?_
  refine wad rfl ?_
  refine go 2 ?_
  refine ⟨(k+1,bs.set j1 s2[k]),⟨by omega,by simp only [List.length_set];exact hb⟩,by show 2-(k+1)<2-k;omega,(sA rfl)⟩
 refine go 7 ?_
 refine bHa 13 rfl hC hC2 ?_
 subst hb
 refine go 3 ?_
 refine wad rfl ?_
 obtain ⟨k1,hk1,hlk1⟩:=bEj (n3) ((((bs.length:Nat):Int)+1)) (by omega)
 refine wc0 rfl call16 rfl (bEl (n3) ((((bs.length:Nat):Int)+1)) k1 (by omega) (by omega) hk1 _) ?_
 rintro _ _ ⟨rfl,rfl⟩
 refine go 3 ?_
 refine wad rfl ?_
 obtain ⟨k2,hk2,hlk2⟩:=bEj (n4) ((((bs.length:Nat):Int)+1)) (by omega)
 refine wc0 rfl call16 rfl (bEl (n4) ((((bs.length:Nat):Int)+1)) k2 (by omega) (by omega) hk2 _) ?_
 rintro _ _ ⟨rfl,rfl⟩
 refine go 5 ?_
 refine xX [(78,.c (.val (.bool (decide (bFm n5 3=1 /\ k1<k2 /\ k2-k1<30))))),(13,.c (.sl bs.length (iF bs))),(15,nI k1),(16,nI k2),(0,aA2 (.c (.sl l0.length (l0.map fun i=>.val (.int .i64 i)))) m),(5,.c (.val (.int .i64 n5)))] ?_ ?_
 ·refine go 2 ?_
  refine wyz rfl (bFn rfl rfl rfl) ?_
  by_cases h6:(bFm n5 3)=1
  ·refine wcp true rfl (eR h6) ?_
   refine go 3 ?_
   by_cases h7:((k1:Nat):Int)<((k2:Nat):Int)
   ·refine wcp true rfl (jZ h7) ?_
    refine go 4 ?_
    refine wyz rfl (qC rfl rfl rfl (by omega) (by omega)) ?_
    by_cases h8:(((k2:Nat):Int)-((k1:Nat):Int))<30
    ·refine wcp true rfl (jZ h8) ?_
     refine go 2 ?_
     exact ⟨rfl,(aG rfl (bZ (by first|exact (decide_eq_true ⟨by omega,by omega,by omega⟩).symm|exact (decide_eq_false (fun hh=>by omega)).symm)) (sA rfl))⟩
    refine wcp false rfl (jQ h8) ?_
    refine go 2 ?_
    exact ⟨rfl,(aG rfl (bZ (by first|exact (decide_eq_true ⟨by omega,by omega,by omega⟩).symm|exact (decide_eq_false (fun hh=>by omega)).symm)) (sA rfl))⟩
   refine wcp false rfl (jQ h7) ?_
   refine go 8 ?_
   exact ⟨rfl,(aG rfl (bZ (by first|exact (decide_eq_true ⟨by omega,by omega,by omega⟩).symm|exact (decide_eq_false (fun hh=>by omega)).symm)) (sA rfl))⟩
  refine wcp false rfl (eD h6) ?_
  refine go 12 ?_
  exact ⟨rfl,(aG rfl (bZ (by first|exact (decide_eq_true ⟨by omega,by omega,by omega⟩).symm|exact (decide_eq_false (fun hh=>by omega)).symm)) (sA rfl))⟩
 refine gY rfl (fun h9=>?_) (fun h9=>?_)
 ·refine aB [] (by kernel_rfl) ?_
  refine tks [(1,true),(2,true)] 8 (by kernel_rfl) ?_
  refine go 3 ?_
  refine tr 3 (by kernel_rfl) rfl (aGm (h:=(bs.take k1).length) (r:=iF (bs.take k1)) rfl rfl rfl (by rw [List.length_take,Nat.min_eq_left (by omega)]) (by rw [List.length_take];omega) (by kernel_rfl) (by kernel_rfl) sizeOf5 (by rw [List.length_take,Nat.min_eq_left (by omega)];exact bGo bs k1)) ?_
  refine tks [(5,true),(6,true)] 5 (by kernel_rfl) ?_
  refine go 3 ?_
  refine tr 7 (by kernel_rfl) rfl (bGm (l:=k2) (m:=(bs.drop k2).length) (r:=iF (bs.drop k2)) rfl rfl rfl rfl (by omega) (bGb bs) (by kernel_rfl) (by kernel_rfl) sizeOf5 (List.length_drop).symm (bGp bs k2)) ?_
  refine one 0 (by kernel_rfl) rfl rfl (aTr rfl rfl (by decide) underlying23 sizeOf5 fun g0=>?_)
  refine one 4 (by kernel_rfl) rfl rfl (jU [] Tryz.t5 1 rfl rfl (by decide) rfl rfl underlying23 (by kernel_rfl) rfl rfl rfl rfl (by decide) (bGb _) (by unfold maxLen;simp only [length_append,List.length_take,List.length_drop,length_nil];omega) (by simp only [length_append,List.length_take,List.length_drop,length_nil];omega) (@length_append _ ([]:List UInt8) (bs.take k1)).symm (fun _ b hb=>kH.2 ⟨List.mem_append_right _ (List.mem_flatMap.2 ⟨_,List.mem_cons_self,hb⟩),not_mem_nil⟩) (fun b hb=>(show b=g0 by simpa [aY,Value.ownBlock] using hb)▸List.mem_cons_self) (bGd ([]:List UInt8) (bs.take k1)) fun v1=>?_)
  refine one 8 (by kernel_rfl) rfl rfl (jU [] Tryz.t5 1 rfl rfl (by decide) rfl rfl underlying23 (by kernel_rfl) rfl rfl rfl rfl (by decide) (bGb _) (by unfold maxLen;simp only [length_append,List.length_take,List.length_drop,length_nil];omega) (by simp only [length_append,List.length_take,List.length_drop,length_nil];omega) (@length_append _ ([]++bs.take k1) (bs.drop k2)).symm (fun _ b hb=>kH.2 ⟨List.mem_append_right _ (List.mem_flatMap.2 ⟨_,List.mem_cons_self,hb⟩),not_mem_nil⟩) (fun b hb=>List.mem_append_left _ hb) (bGd ([]++bs.take k1) (bs.drop k2)) fun v2=>?_)
  refine tks [(9,true)] 0 (by kernel_rfl) ?_
  refine go 2 ?_
  refine aE (by kernel_rfl) ?_
  refine go 3 ?_
  refine aE1 13 rfl ?_
  refine go 1 ?_
  refine wo rfl (aHw 0 [] rfl rfl (by decide) call17 rfl rfl (bGu ([]++bs.take k1++bs.drop k2) m _) bDl bDl (fun _=>bDl) ?_)
  rintro rr1 ss1 ⟨rfl,rfl⟩
  refine go 1 ?_
  refine wo rfl (aQ6 0 rfl rfl (by decide) call18 rfl aH2 ?_)
  refine go 5 ?_
  exact ⟨.inr rfl,_,⟨[],[]⟩,aR rfl (aF rfl),aA (List.nil_sublist _) (List.nil_sublist _),rfl,rfl⟩
 refine go 3 ?_
 refine wyz rfl (bFn rfl rfl rfl) ?_
 by_cases h10:(bFm n5 3)=2
 ·refine wcp true rfl (eR h10) ?_
  refine go 5 ?_
  refine wo rfl (wbs Tryz.t9 [.val (.string ⟨#[]⟩),.val (.string ⟨#[]⟩),.val (.string ⟨#[]⟩),.val (.string ⟨#[]⟩),.val (.string ⟨#[]⟩),.val (.string ⟨#[]⟩),.val (.string ⟨#[]⟩),.val (.string ⟨#[]⟩),.val (.string ⟨#[]⟩),.val (.string ⟨#[]⟩)] rfl rfl (by decide) (.cons rfl (.cons rfl (.cons rfl (.cons rfl (.cons rfl (.cons rfl (.cons rfl (.cons rfl (.cons rfl (.cons rfl .nil)))))))))) underlying26 (by kernel_rfl) rfl (by decide) (by decide) (by kernel_rfl) (by kernel_rfl) (r:=bGk.map fun x=>.val (.string x)) (by kernel_rfl) ?_)
  refine go 1 ?_
  refine wyz rfl (bG6 rfl rfl rfl) ?_
  obtain ⟨k3,hk3,hlk3⟩:=bEj ((n5.fdiv 4)) (10) (by omega)
  refine wc0 rfl call16 rfl (bEl ((n5.fdiv 4)) (10) k3 (by omega) (by omega) hk3 _) ?_
  rintro _ _ ⟨rfl,rfl⟩
  have hk3:k3<bGk.length:=by show k3<10;omega
  have h13:=bG1 bGk[k3] (getElem_mem _)
  have h14:bGk[k3].data.toList.length <= 13:=by rw [Array.length_toList];exact h13
  refine wyz rfl (rT (fun x=>.val (.string x)) bGk k3 rfl rfl rfl rfl (by show k3<10;omega) runUnderlying26 sizeOf9) ?_
  refine go 4 ?_
  refine aB [] (by kernel_rfl) ?_
  refine tks [(1,true),(2,true)] 10 (by kernel_rfl) ?_
  refine go 3 ?_
  refine tr 3 (by kernel_rfl) rfl (aGm (h:=(bs.take k1).length) (r:=iF (bs.take k1)) rfl rfl rfl (by rw [List.length_take,Nat.min_eq_left (by omega)]) (by rw [List.length_take];omega) (by kernel_rfl) (by kernel_rfl) sizeOf5 (by rw [List.length_take,Nat.min_eq_left (by omega)];exact bGo bs k1)) ?_
  refine tks [(5,true),(7,true),(8,true)] 6 (by kernel_rfl) ?_
  refine go 4 ?_
  refine tr 9 (by kernel_rfl) rfl (bGm (l:=k1) (m:=(bs.drop k1).length) (r:=iF (bs.drop k1)) rfl rfl rfl rfl (by omega) (bGb bs) (by kernel_rfl) (by kernel_rfl) sizeOf5 (List.length_drop).symm (bGp bs k1)) ?_
  refine one 0 (by kernel_rfl) rfl rfl (aTr rfl rfl (by decide) underlying23 sizeOf5 fun g0=>?_)
  refine one 4 (by kernel_rfl) rfl rfl (jU [] Tryz.t5 1 rfl rfl (by decide) rfl rfl underlying23 (by kernel_rfl) rfl rfl rfl rfl (by decide) (bGb _) (by unfold maxLen;simp only [length_append,List.length_take,List.length_drop,length_nil];omega) (by simp only [length_append,List.length_take,List.length_drop,length_nil];omega) (@length_append _ ([]:List UInt8) (bs.take k1)).symm (fun _ b hb=>kH.2 ⟨List.mem_append_right _ (List.mem_flatMap.2 ⟨_,List.mem_cons_self,hb⟩),not_mem_nil⟩) (fun b hb=>(show b=g0 by simpa [aY,Value.ownBlock] using hb)▸List.mem_cons_self) (bGd ([]:List UInt8) (bs.take k1)) fun v1=>?_)
  refine one 6 (by kernel_rfl) rfl rfl (bHb [] Tryz.t5 (z:=bGk[k3]) rfl rfl (by decide) rfl rfl underlying23 underlying9 (by kernel_rfl) rfl rfl rfl (by unfold maxLen;simp only [length_append,List.length_take,List.length_drop,length_nil];omega) (by simp only [length_append,List.length_take,List.length_drop,length_nil];omega) (@length_append _ ([]++bs.take k1) bGk[k3].data.toList).symm rfl (fun _ b hb=>kH.2 ⟨List.mem_append_right _ (List.mem_flatMap.2 ⟨_,List.mem_cons_self,hb⟩),not_mem_nil⟩) (fun b hb=>List.mem_append_left _ hb) (bGd ([]++bs.take k1) bGk[k3].data.toList) fun v2=>?_)
  refine one 10 (by kernel_rfl) rfl rfl (jU [] Tryz.t5 1 rfl rfl (by decide) rfl rfl underlying23 (by kernel_rfl) rfl rfl rfl rfl (by decide) (bGb _) (by unfold maxLen;simp only [length_append,List.length_take,List.length_drop,length_nil];omega) (by simp only [length_append,List.length_take,List.length_drop,length_nil];omega) (@length_append _ ([]++bs.take k1++bGk[k3].data.toList) (bs.drop k1)).symm (fun _ b hb=>kH.2 ⟨List.mem_append_right _ (List.mem_flatMap.2 ⟨_,List.mem_cons_self,hb⟩),not_mem_nil⟩) (fun b hb=>List.mem_append_left _ hb) (bGd ([]++bs.take k1++bGk[k3].data.toList) (bs.drop k1)) fun v3=>?_)
  refine tks [(11,true)] 0 (by kernel_rfl) ?_
  refine go 2 ?_
  refine aE (by kernel_rfl) ?_
  refine go 3 ?_
  refine aE1 13 rfl ?_
  refine go 1 ?_
  refine wo rfl (aHw 0 [] rfl rfl (by decide) call17 rfl rfl (bGu ([]++bs.take k1++bGk[k3].data.toList++bs.drop k1) m _) bDl bDl (fun _=>bDl) ?_)
  rintro rr2 ss2 ⟨rfl,rfl⟩
  refine go 1 ?_
  refine wo rfl (aQ6 0 rfl rfl (by decide) call18 rfl aH2 ?_)
  refine go 5 ?_
  exact ⟨.inr rfl,_,⟨[],[]⟩,aR rfl (aF rfl),aA (List.nil_sublist _) (List.nil_sublist _),rfl,rfl⟩
 refine wcp false rfl (eD h10) ?_
 refine go 7 ?_
 skip
 refine go 1 ?_
 refine wo rfl (aHw 0 [] rfl rfl (by decide) call17 rfl rfl (bGu bs m _) bDl bDl (fun _=>bDl) ?_)
 rintro rr3 ss3 ⟨rfl,rfl⟩
 refine go 1 ?_
 refine wo rfl (aQ6 0 rfl rfl (by decide) call18 rfl aH2 ?_)
 refine go 5 ?_
 exact ⟨.inr rfl,_,⟨[],[]⟩,aR rfl (aF rfl),aA (List.nil_sublist _) (List.nil_sublist _),rfl,rfl⟩
theorem bGc(H:Type)(enc:TypeId×Value -> H)(W:World)(base:Nat)(args:Array Value)(ds gs:List (DataW H))(before:List MemPlace)
  (hval:∀(j:Nat) t v,Tryz.f3.params[j]?=some t -> args[j]?=some v -> Value.okWide prog W .any base t v)
  (hW:DataW.Whole enc prog Tryz.f3.params.toList Rows.parseChangedSpec.vars false W args.toList ds gs before) (he:Env W):
  Calls prog 3 args W fun e W'=>∃v,e=.returned v /\ Rows.parseChangedSpec.post enc prog Tryz.f3 false true false false W args v W':=by
 have hW':=hW
 obtain ⟨p,q,hA0,hV,rfl,hfz,hnd⟩:=hW
 have hA:DataW.TrodAll enc prog W 0 (fun _=>true) true Tryz.f3.params.toList args.toList ds p:=hA0
 rw [Tryz.params3] at hA hval
 obtain ⟨v0,vs0,d0,ds0,p0,q0,hargs,rfl,rfl,h0,r0⟩:=trodAll_cons hA
 obtain ⟨v1,vs1,d1,ds1,p1,q1,rfl,rfl,rfl,h1,r1⟩:=trodAll_cons r0
 obtain ⟨v2,vs2,d2,ds2,p2,q2,rfl,rfl,rfl,h2,r2⟩:=trodAll_cons r1
 obtain ⟨v3,vs3,d3,ds3,p3,q3,rfl,rfl,rfl,h3,r3⟩:=trodAll_cons r2
 obtain ⟨v4,vs4,d4,ds4,p4,q4,rfl,rfl,rfl,h4,r4⟩:=trodAll_cons r3
 obtain ⟨v5,vs5,d5,ds5,p5,q5,rfl,rfl,rfl,h5,r5⟩:=trodAll_cons r4
 obtain ⟨rfl,rfl,rfl⟩:=trodAll_nil r5
 obtain rfl:args=#[v0,v1,v2,v3,v4,v5]:=by cases args;simp_all
 have walk:Calls prog 3 #[v0,v1,v2,v3,v4,v5] W fun e w'=>e=.returned (.bool true) /\ Below W.heap.size W w':=by
  obtain ⟨l0,a0,cap0,rfl,hc0,hcm0,hr0⟩:=aHn (hval 0 22 v0 rfl rfl) h0
  obtain ⟨l1,a1,cap1,rfl,hc1,hcm1,hr1⟩:=aHn (hval 1 22 v1 rfl rfl) h1
  obtain ⟨s2,a2,cap2,rfl,hc2,hcm2,hr2⟩:=bGx (hval 2 23 v2 rfl rfl) h2
  obtain ⟨n3,rfl,rfl,rfl,hn3⟩:=open_int underlying3 (hval 3 3 v3 rfl rfl) h3
  obtain ⟨n4,rfl,rfl,rfl,hn4⟩:=open_int underlying3 (hval 4 3 v4 rfl rfl) h4
  obtain ⟨n5,rfl,rfl,rfl,hn5⟩:=open_int underlying3 (hval 5 3 v5 rfl rfl) h5
  obtain ⟨m,hm0⟩:=aE5 (t:=.c (.sl l0.length (l0.map fun i=>.val (.int .i64 i)))) (v:=.slice a0 l0.length cap0) he (aLg hr0 (by unfold maxLen at hcm0;omega))
  exact aJe (vs:=[.slice a0 l0.length cap0,.slice a1 l1.length cap1,.slice a2 s2.length cap2,.int .i64 n3,.int .i64 n4,.int .i64 n5]) (bGl l0 l1 s2 n3 n4 n5 m (by unfold maxLen at hcm0;omega) (by unfold maxLen at hcm1;omega) (by unfold maxLen at hcm2;omega) (bE2 hn3) (bE2 hn4) (bE2 hn5)) rfl fun i h h'=>by
   match i,h,h' with
   |0,_,_=>exact hm0
   |1,_,_=>exact aLg hr1 (by unfold maxLen at hcm1;omega)
   |2,_,_=>exact bGz hr2 (by unfold maxLen at hcm2;omega)
   |3,_,_=>exact .c _ _ (.val _ rfl)
   |4,_,_=>exact .c _ _ (.val _ rfl)
   |5,_,_=>exact .c _ _ (.val _ rfl)
 refine walk.mono fun e W' ⟨he,hb⟩=>?_
 subst he
 exact aMc hW' rfl rfl (by rw [Tryz.params3];intro t ht;simp at ht;rcases ht with rfl|rfl|rfl|rfl|rfl|rfl<;>exact ⟨by kernel_rfl,of_decide_eq_true (by kernel_rfl)⟩) rfl hb
theorem bGg(os:Os){H:Type}(enc:TypeId×Value -> H):∃places,DataW.whole enc prog ((World.doorLaid prog 60 os).forCall (fun _ _=>0) ⟨#[],#[.slice none 0 0,.slice none 0 0,.slice none 0 0,.int .i64 0,.int .i64 0,.int .i64 0],[]⟩).memory Tryz.f3.params.toList Rows.parseChangedSpec.vars false (#[.slice none 0 0,.slice none 0 0,.slice none 0 0,.int .i64 0,.int .i64 0,.int .i64 0]:Array Value).toList 8=some ([.nil,.nil,.nil,.lit (.int .i64 0),.lit (.int .i64 0),.lit (.int .i64 0)],[],places):=
 ⟨[],by kernel_rfl⟩
theorem bGe(os:Os)(started:os.Started)(H:Type)(enc:TypeId×Value -> H)(F:Stop.Interp):
  ReturnsInHanded {} Tryz.checked os 3 .any ((OpenSpec.ofChange Rows.parseChangedSpec).preRow enc prog Tryz.f3 Rows.parseChangedRow.domain false Rows.parseChangedRow.laid) (((OpenSpec.ofChange Rows.parseChangedSpec).at F).post enc prog Tryz.f3 false true false false):=by
 obtain ⟨places,hx⟩:=bGg os enc
 refine returnsInHanded_of_row (C:=Tryz.checked) (s:=OpenSpec.ofChange Rows.parseChangedSpec) own started (by kernel_rfl) func3
  (witness_row_at (enc:=enc) (C:=Tryz.checked) false (World.doorLaid prog 60 os) #[.slice none 0 0,.slice none 0 0,.slice none 0 0,.int .i64 0,.int .i64 0,.int .i64 0] rfl (by kernel_rfl) (by kernel_rfl) (by kernel_rfl)
   (OpenSpec.preRow_of_cond 8 hx (by kernel_rfl) (fun k hk=>by cases hk) (by kernel_rfl) (aNi os _))) ?_
 intro W base args ds gs before hval hW _ _ _ hL hSh _
 exact bGc H enc W base args ds gs before hval hW (aQe hL hSh)
theorem bK4:joinedFacts prog 3 Tryz.f3 (OpenSpec.ofChange Rows.parseChangedSpec).bare Rows.parseChangedRow=true:=by
 unfold joinedFacts
 repeat (rw [Bool.and_eq_true];refine And.intro ?_ (by as_aux_lemma=>kernel_rfl))
 as_aux_lemma=>kernel_rfl
theorem bGi:Rows.ParseChangedSaid:=
 OpenClaim.holds_of_cond 3 Tryz.f3 rfl rfl rfl rfl rfl rfl rfl ⟨rfl,rfl,rfl,rfl,rfl⟩ rfl rfl rfl rfl rfl (by kernel_rfl) func3 bK4
  (of_decide_eq_true (by kernel_rfl)) (by unfold Func.isWrapper;first|(rw [if_pos (by decide+kernel)];kernel_rfl)|(rw [if_neg (by decide+kernel)];exact ⟨rfl,rfl⟩))
  (fun os started H enc _ F=>by rw [OpenClaim.pre_eq_preRow];exact bGe os started H enc F)
theorem bGh (f : FuncId) (fn : Func) (hf : Tryz.pinned.checked.prog.funcNamed "lockorder/lockorderlaw03.ParseChanged" = some f) (hfn : Tryz.pinned.checked.prog.funcs[f]? = some fn) :
  false=Tryz.pinned.checked.prog.looks [] /\ ∀(j:Nat) t,fn.params[j]?=some t -> Tryz.pinned.checked.prog.wantsStandIn t=false:=by
 obtain rfl : f = 3 := Option.some.inj ((show prog.funcNamed "lockorder/lockorderlaw03.ParseChanged" = some 3 by kernel_rfl).symm.trans hf) |>.symm
 obtain rfl:fn=Tryz.f3:=(Option.some.inj (func3.symm.trans hfn)).symm
 refine ⟨by kernel_rfl,fun j t ht=>?_⟩
 rw [Tryz.params3] at ht
 have hm:t∈[22,22,23,3,3,3]:=by simpa using Array.mem_of_getElem? ht
 have hall:([22,22,23,3,3,3].all fun u=>!prog.wantsStandIn u)=true:=by kernel_rfl
 exact (show prog.wantsStandIn t=false by simpa using List.all_eq_true.1 hall t hm)
theorem parseChanged_card:Rows.ParseChangedCardSaid:=
 Claim7.holds_tied_plain_at .later [] _ _ _ _ bGi (fun _ h=>by cases h) (by kernel_rfl) (fun _ h=>by cases h) parseChanged_row_tie rfl ⟨rfl,rfl⟩ (by kernel_rfl) rfl bGh (by kernel_rfl)
#print axioms parseChanged_card
end
end Go.Proofs.YtlmpchoaebhhmaaGreatDoor
