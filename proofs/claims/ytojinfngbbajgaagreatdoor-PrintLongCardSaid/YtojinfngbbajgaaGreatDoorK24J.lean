import Derived.Test.YtojinfngbbajgaaGreatDoorK23J
import Derived.Test.YtojinfngbbajgaaGreatDoorK19J
import Derived.Test.YtojinfngbbajgaaGreatDoorK12J
import Derived.Test.YtojinfngbbajgaaGreatDoorK5J
import Derived.Test.YtojinfngbbajgaaGreatDoorK9J
import Derived.Test.YtojinfngbbajgaaGreatDoorK4J
import Derived.Test.YtojinfngbbajgaaGreatDoorK10J
import Derived.Test.YtojinfngbbajgaaGreatDoorProg
import Derived.Test.YtojinfngbbajgaaGreatDoorK8J
set_option linter.all false
set_option synthInstance.maxHeartbeats 1000000
set_option synthInstance.maxSize 1000000
namespace Go.Proofs.YtojinfngbbajgaaGreatDoor
open List (length_append length_cons length_nil mem_append mem_cons not_mem_nil append_assoc getElem_mem take_of_length_le)
section
theorem aH.zero_sane:aH.zero.sane:=by unfold aH.zero;rw [aH.sane];exact ⟨by unfold fit;omega,by decide,by rw [iI];trivial⟩
theorem cY.zero_sane:cY.zero.sane:=⟨by decide,by show iI [];rw [iI];trivial⟩
theorem aH.zero_nodes:aH.zero.nodes=1:=by unfold aH.zero;rw [aH.nodes,cZ]
theorem cY.zero_wt:cY.zero.wt=1:=by unfold cY.wt cY.zero;rw [cZ]
def lC(l:List ByteArray):Prop:=∀x,x∈l -> bQ x=true
theorem mQ:bLg .zero=true:=by simp [bLg,aH.zero,aH.op,aH.num,aH.name,aH.args]
theorem jN:kM .zero=true:=by simp [kM,cY.zero]
section
variable {ms:List cL}{fs:List Sig}{ps:List aS}
theorem uA.ok{vars:List ByteArray}{r:cY}(hm:∀m,m∈ms -> bQ m.name=true)(hp:∀x,x∈ps -> bQ x.name=true)(hv:lC vars)(h:uA ms ps vars r):
  okRefB r=true /\ (r.sane /\ r.wt <= 7) /\ (dC r).length <= 70:=by
 have size:∀x:ByteArray,bQ x=true -> x.data.toList.length <= 16:=fun x h=>dV h
 cases h with
 |@arr m e h1 h2 he=>
  have hl:=he.len hv
  have:=size _ (hm m h1)
  refine ⟨by show (bQ m.name && dM e)=true;rw [hm m h1,he.valid hv (by omega)];rfl,⟨⟨Nat.le_trans (dV (hm m h1)) (by decide),by show iI [e];rw [iI,iI];exact ⟨he.sane hv,trivial⟩⟩,by have:=he.nodes;unfold cY.wt;show 1+cZ [e] <= 7;rw [cZ,cZ];omega⟩,?_⟩
  ·simp only [dC,length_append,length_cons,length_nil];omega
 |@scalar m h1 h2=>
  have:=size _ (hm m h1)
  exact ⟨by show (bQ m.name && true)=true;rw [hm m h1];rfl,⟨⟨Nat.le_trans (dV (hm m h1)) (by decide),by show iI [];rw [iI];trivial⟩,by unfold cY.wt;show 1+cZ [] <= 7;rw [cZ];omega⟩,by simp only [dC];omega⟩
 |@param x h1 h2=>
  have:=size _ (hp x h1)
  exact ⟨by show (bQ x.name && true)=true;rw [hp x h1];rfl,⟨⟨Nat.le_trans (dV (hp x h1)) (by decide),by show iI [];rw [iI];trivial⟩,by unfold cY.wt;show 1+cZ [] <= 7;rw [cZ];omega⟩,by simp only [dC];omega⟩
theorem nO{α:Type}(f:α -> List UInt8)(x:α)(l:List α):(bW f (x::l)).length <= (f x).length+2+(bW f l).length:=by
 cases l with
 |nil=>simp [bW]
 |cons y r=>simp [bW];omega
theorem nB.ok{vars:List ByteArray}{l:List aS}{al:List eN}(hm:∀m,m∈ms -> bQ m.name=true)(hp:∀x,x∈ps -> bQ x.name=true)(hv:lC vars)(h:nB ms ps vars l al):
  al.all fY=true /\ ((∀a,a∈al -> a.sane) /\ wtA al <= 15*l.length) /\ al.length=l.length /\ (bW dE al).length <= 122*l.length:=by
 induction h with
 |nil=>exact ⟨rfl,⟨(fun a h=>by simp at h),by rw [wtA];simp⟩,rfl,by simp [bW]⟩
 |@mutex x l al r hx hr h ih=>
  obtain ⟨i1,i2,i3,i4⟩:=ih
  obtain ⟨h1,h2,h3⟩:=hr.ok hm hp hv
  refine ⟨by rw [List.all_cons,i1,fY,if_pos rfl,h1,mQ];rfl,⟨?_,?_⟩,by simp [i3],?_⟩
  ·intro a ha
   rcases mem_cons.1 ha with rfl|ha
   ·exact ⟨h2.1,aH.zero_sane⟩
   exact i2.1 a ha
  ·have:=i2.2;have:=h2.2;rw [wtA];unfold eN.wt;rw [aH.zero_nodes,length_cons];show 1+r.wt+1+wtA al <= _;omega
  ·have:=nO dE ⟨true,r,.zero⟩ al
   have h4:(dE ⟨true,r,.zero⟩).length=6+(dC r).length:=by simp [dE];omega
   rw [length_cons];omega
 |@expr x l al e hx he h ih=>
  obtain ⟨i1,i2,i3,i4⟩:=ih
  have hl:=he.len hv
  refine ⟨by rw [List.all_cons,i1,fY,if_neg (by simp),jN,he.valid hv (by omega)];rfl,⟨?_,?_⟩,by simp [i3],?_⟩
  ·intro a ha
   rcases mem_cons.1 ha with rfl|ha
   ·exact ⟨cY.zero_sane,he.sane hv⟩
   exact i2.1 a ha
  ·have:=i2.2;have:=he.nodes;rw [wtA];unfold eN.wt;rw [cY.zero_wt,length_cons];show 1+1+e.nodes+wtA al <= _;omega
  have:=nO dE ⟨false,.zero,e⟩ al
  have h4:(dE ⟨false,.zero,e⟩).length=(aP e).length:=by simp [dE]
  rw [length_cons];omega
theorem aAe:∀left,left<24 -> bQ (cM left)=true:=by
 intro left h
 have:(List.range 24).all (fun k=>bQ (cM k))=true:=by kernel_rfl
 exact List.all_eq_true.1 this left (List.mem_range.2 h)
end
theorem qL(D:Nat)(hD:D<24):∀(a b:List aJ),bM D (a++b)=(bM D a && bM D b)
 |[],b=>by rw [List.nil_append,bM,decide_eq_true hD,Bool.true_and]
 |s::r,b=>by rw [List.cons_append,bM,bM,qL D hD r b,Bool.and_assoc]
theorem uJ:∀(a b:List aJ),gC (a++b)↔gC a /\ gC b
 |[],b=>by rw [List.nil_append,gC];simp
 |s::r,b=>by rw [List.cons_append,gC,gC,uJ r b,and_assoc]
theorem aAn:∀(a b:List aJ),wtS (a++b)=wtS a+wtS b
 |[],b=>by rw [List.nil_append,wtS];omega
 |s::r,b=>by rw [List.cons_append,wtS,wtS,aAn r b];omega
theorem qZ:gC []:=by rw [gC];trivial
structure SOk (D:Nat) (tabs:List UInt8) (n:Nat) (s:aJ):Prop where
 ok:bK9 D s=true
 sane:s.sane
 wt:s.wt <= 60*n
 len:(bY tabs s).length <= 700*n
structure LOk (D:Nat) (tabs:List UInt8) (n:Nat) (l:List aJ):Prop where
 ok:bM D l=true
 sane:gC l
 wt:wtS l <= 60*n
 len:(aC tabs l).length <= 700*n
theorem LOk.cons{D n m k:Nat}{tabs:List UInt8}{s:aJ}{l:List aJ}(h:SOk D tabs n s)(hl:LOk D tabs m l)(hk:n+m <= k):LOk D tabs k (s::l):=
 ⟨by rw [bM,h.ok,hl.ok];rfl,by rw [gC];exact ⟨h.sane,hl.sane⟩,by rw [wtS];have:=h.wt;have:=hl.wt;omega,by rw [aC,length_append];have:=h.len;have:=hl.len;omega⟩
theorem LOk.cons'{D n m k:Nat}{tabs:List UInt8}{s:aJ}{l:List aJ}(hl:LOk D tabs m l)(h:SOk D tabs n s)(hk:n+m <= k):LOk D tabs k (s::l):=LOk.cons h hl hk
theorem LOk.nil{D n:Nat}{tabs:List UInt8}(hD:D<24):LOk D tabs n []:=
 ⟨by rw [bM];exact decide_eq_true hD,by rw [gC];trivial,by rw [wtS];omega,by rw [aC];simp⟩
section
variable {ms:List cL}{fs:List Sig}{ps:List aS}
theorem SOk.of{D n:Nat}{tabs:List UInt8}{k:Int}{name:ByteArray}{e:aH}{r:cY}{al:List eN}{t el:List aJ}
  (h0:1 <= k /\ k <= 9) (h1:(if 1 <= k /\ k <= 4 then bQ name else decide (name=aK))=true) (h2:(if k=1∨k=2∨k=7∨k=8 then dM e else bLg e)=true)
  (h3:(if k=5∨k=6 then okRefB r else kM r)=true) (h4:(decide (k=3∨k=4)||decide (al.length=0))=true) (h5:al.all fY=true)
  (h6:(if k=7∨k=8 then bM (D+1) t else decide (t.length=0))=true) (h7:(decide (el.length=0)||(decide (k=7) && bM (D+1) el))=true)
  (hf:(aJ.mk k name e r al t el).sane) (hc:(aJ.mk k name e r al t el).wt <= 60*n) (hl:(bY tabs (.mk k name e r al t el)).length <= 700*n):SOk D tabs n (.mk k name e r al t el):=
 ⟨by rw [bK9,decide_eq_true h0,h1,h2,h3,h4,h5,h6,h7];rfl,hf,hc,hl⟩
theorem aAo{x:ByteArray}(h:bQ x=true):x.data.toList.length <= 16:=dV h
theorem yA{D:Nat}{tabs:List UInt8}{vars:List ByteArray}{k:Int}{r:cY}(hk:k=5∨k=6)(ht:tabs.length <= 4)(hm:∀m,m∈ms -> bQ m.name=true)(hp:∀x,x∈ps -> bQ x.name=true)(hv:lC vars)(h:uA ms ps vars r):
  SOk D tabs 1 (.mk k aK .zero r [] [] []) /\ (bY tabs (.mk k aK .zero r [] [] [])).length <= 90:=by
 obtain ⟨h1,h2,h3⟩:=h.ok hm hp hv
 have hl:(bY tabs (.mk k aK .zero r [] [] [])).length <= 90:=by
  rw [bY]
  rcases hk with rfl|rfl<;>simp<;>omega
 refine ⟨SOk.of (by omega) (by rw [if_neg (by omega)];exact decide_eq_true rfl) (by rw [if_neg (by omega)];exact mQ) (by rw [if_pos hk];exact h1) (by simp) rfl (by rw [if_neg (by omega)];rfl) (by simp) ?_ ?_ (by omega),hl⟩
 ·rw [aJ.sane];exact ⟨by decide,aH.zero_sane,h2.1,(fun a ha=>by cases ha),qZ,qZ⟩
 rw [gD];show 1+aH.zero.nodes+r.wt+wtA []+wtS []+wtS [] <= _;rw [aH.zero_nodes,wtA,wtS];have:=h2.2;omega
theorem dJ.ok{vars:List ByteArray}{deep left left':Nat}{l:List aJ}(hm:∀m,m∈ms -> bQ m.name=true)(hp:∀x,x∈ps -> bQ x.name=true)
  (hg:∀g,g∈fs -> bQ g.1=true /\ g.2.length <= 2) (h:dJ ms fs ps vars deep left l left'):
  lC vars -> left <= 24 -> ∀(D:Nat)(tabs:List UInt8),D+deep<24 -> tabs.length+deep <= 4 -> LOk D tabs (left-left') l:=by
 induction h with
 |nil=>intro _ _ D tabs hD _;exact .nil (by omega)
 |lock hr h ih=>
  intro hv hl D tabs hD ht
  have:=h.le
  exact (ih hv (by omega) D tabs hD ht).cons' (yA (.inl rfl) (by omega) hm hp hv hr).1 (by omega)
 |unlock hr h ih=>
  intro hv hl D tabs hD ht
  have:=h.le
  exact (ih hv (by omega) D tabs hD ht).cons' (yA (.inr rfl) (by omega) hm hp hv hr).1 (by omega)
 |@var vars deep left left' e rest he h ih=>
  intro hv hl D tabs hD ht
  have:=h.le
  have hn:=aAe left (by omega)
  have hnl:=aAo hn
  have hns:=dV hn
  have hel:=he.len hv
  refine (ih (fun x hx=>?_) (by omega) D tabs hD ht).cons' (n:=1) (SOk.of (by omega) (by rw [if_pos (by decide)];exact hn) (by rw [if_pos (by decide)];exact he.valid hv (by omega)) (by rw [if_neg (by decide)];exact jN) (by simp) rfl (by rw [if_neg (by decide)];rfl) (by simp) ?_ ?_ ?_) (by omega)
  ·rcases mem_append.1 hx with hx|hx
   ·exact hv x hx
   simp only [List.mem_singleton] at hx;subst hx;exact hn
  ·rw [aJ.sane];exact ⟨Nat.le_trans hns (by decide),he.sane hv,cY.zero_sane,(fun a ha=>by cases ha),qZ,qZ⟩
  ·rw [gD];show 1+e.nodes+cY.zero.wt+wtA []+wtS []+wtS [] <= _;rw [cY.zero_wt,wtA,wtS];have:=he.nodes;omega
  ·rw [bY];simp;omega
 |@assign vars deep left left' x e rest hx he h ih=>
  intro hv hl D tabs hD ht
  have:=h.le
  have hn:=hv x hx
  have hnl:=aAo hn
  have hns:=dV hn
  have hel:=he.len hv
  refine (ih hv (by omega) D tabs hD ht).cons' (n:=1) (SOk.of (by omega) (by rw [if_pos (by decide)];exact hn) (by rw [if_pos (by decide)];exact he.valid hv (by omega)) (by rw [if_neg (by decide)];exact jN) (by simp) rfl (by rw [if_neg (by decide)];rfl) (by simp) ?_ ?_ ?_) (by omega)
  ·rw [aJ.sane];exact ⟨Nat.le_trans hns (by decide),he.sane hv,cY.zero_sane,(fun a ha=>by cases ha),qZ,qZ⟩
  ·rw [gD];show 1+e.nodes+cY.zero.wt+wtA []+wtS []+wtS [] <= _;rw [cY.zero_wt,wtA,wtS];have:=he.nodes;omega
  ·rw [bY];simp;omega
 |@call vars deep left left' k g al rest hk hgm ha h ih=>
  intro hv hl D tabs hD ht
  have:=h.le
  obtain ⟨hn,hg2⟩:=hg g hgm
  have hnl:=aAo hn
  have hns:=dV hn
  obtain ⟨a1,a2,a3,a4⟩:=ha.ok hm hp hv
  refine (ih hv (by omega) D tabs hD ht).cons' (n:=1) (SOk.of (by omega) (by rw [if_pos (by omega)];exact hn) (by rw [if_neg (by omega)];exact mQ) (by rw [if_neg (by omega)];exact jN) (by rw [decide_eq_true hk];rfl) a1 (by rw [if_neg (by omega)];rfl) (by simp) ?_ ?_ ?_) (by omega)
  ·rw [aJ.sane];exact ⟨Nat.le_trans hns (by decide),aH.zero_sane,cY.zero_sane,a2.1,qZ,qZ⟩
  ·rw [gD];show 1+aH.zero.nodes+cY.zero.wt+wtA al+wtS []+wtS [] <= _;rw [aH.zero_nodes,cY.zero_wt,wtS];have:=a2.2;omega
  ·have hat:(dF al).length <= 250:=by simp only [dF,length_append,length_cons,length_nil];omega
   rw [bY];rcases hk with rfl|rfl<;>simp<;>omega
 |@cond vars deep left l1 l2 left' e thn els rest he h1 h2 h3 i1 i2 i3=>
  intro hv hl D tabs hD ht
  have:=h1.le
  have:=h2.le
  have:=h3.le
  have hel:=he.len hv
  have j1:=i1 hv (by omega) (D+1) (tabs++[9]) (by omega) (by simp;omega)
  have j2:=i2 hv (by omega) (D+1) (tabs++[9]) (by omega) (by simp;omega)
  refine (i3 hv (by omega) D tabs hD ht).cons' (n:=1+(left-l1)+(l1-l2)) (SOk.of (by omega) (by rw [if_neg (by decide)];exact decide_eq_true rfl) (by rw [if_pos (by decide)];exact he.valid hv (by omega)) (by rw [if_neg (by decide)];exact jN) (by simp) rfl (by rw [if_pos (by decide)];exact j1.ok) (by rw [j2.ok];simp) ?_ ?_ ?_) (by omega)
  ·rw [aJ.sane];exact ⟨by decide,he.sane hv,cY.zero_sane,(fun a ha=>by cases ha),j1.sane,j2.sane⟩
  ·rw [gD];show 1+e.nodes+cY.zero.wt+wtA []+wtS thn+wtS els <= _;rw [cY.zero_wt,wtA];have:=he.nodes;have:=j1.wt;have:=j2.wt;omega
  ·have:=j1.len;have:=j2.len;rw [bY,if_neg (by decide),if_neg (by decide),if_neg (by decide),if_neg (by decide),if_neg (by decide),if_neg (by decide),if_pos (by decide),if_neg (by decide)];simp only [length_append,length_cons,length_nil]
   split<;>(try simp only [length_append,length_cons,length_nil])<;>omega
 |@loop vars deep left l1 left' e thn rest he h1 h3 i1 i3=>
  intro hv hl D tabs hD ht
  have:=h1.le
  have:=h3.le
  have hel:=he.len hv
  have j1:=i1 hv (by omega) (D+1) (tabs++[9]) (by omega) (by simp;omega)
  refine (i3 hv (by omega) D tabs hD ht).cons' (n:=1+(left-l1)) (SOk.of (by omega) (by rw [if_neg (by decide)];exact decide_eq_true rfl) (by rw [if_pos (by decide)];exact he.valid hv (by omega)) (by rw [if_neg (by decide)];exact jN) (by simp) rfl (by rw [if_pos (by decide)];exact j1.ok) (by simp) ?_ ?_ ?_) (by omega)
  ·rw [aJ.sane];exact ⟨by decide,he.sane hv,cY.zero_sane,(fun a ha=>by cases ha),j1.sane,qZ⟩
  ·rw [gD];show 1+e.nodes+cY.zero.wt+wtA []+wtS thn+wtS [] <= _;rw [cY.zero_wt,wtA,wtS];have:=he.nodes;have:=j1.wt;omega
  ·have:=j1.len;rw [bY];simp;omega
 |@ret vars deep left left' rest h ih=>
  intro hv hl D tabs hD ht
  have:=h.le
  refine (ih hv (by omega) D tabs hD ht).cons' (n:=1) (SOk.of (by omega) (by rw [if_neg (by decide)];exact decide_eq_true rfl) (by rw [if_neg (by decide)];exact mQ) (by rw [if_neg (by decide)];exact jN) (by simp) rfl (by rw [if_neg (by decide)];rfl) (by simp) ?_ ?_ ?_) (by omega)
  ·rw [aJ.sane];exact ⟨by decide,aH.zero_sane,cY.zero_sane,(fun a ha=>by cases ha),qZ,qZ⟩
  ·rw [gD];show 1+aH.zero.nodes+cY.zero.wt+wtA []+wtS []+wtS [] <= _;rw [aH.zero_nodes,cY.zero_wt,wtA,wtS];omega
  ·rw [bY];simp;omega
 |@pair vars deep left l1 left' r mid rest hr h1 h3 i1 i3=>
  intro hv hl D tabs hD ht
  have:=h1.le
  have:=h3.le
  have j1:=i1 hv (by omega) D tabs (by omega) (by omega)
  have j3:=i3 hv (by omega) D tabs hD ht
  obtain ⟨s5,t5⟩:=yA (D:=D) (tabs:=tabs) (.inl rfl) (by omega) hm hp hv hr
  obtain ⟨s6,t6⟩:=yA (D:=D) (tabs:=tabs) (.inr rfl) (by omega) hm hp hv hr
  refine ⟨?_,?_,?_,?_⟩
  ·rw [bM,qL D (by omega),bM,s5.ok,s6.ok,j1.ok,j3.ok];rfl
  ·rw [gC,uJ,gC];exact ⟨s5.sane,j1.sane,s6.sane,j3.sane⟩
  ·have w5:∀k:Int,(aJ.mk k aK .zero r [] [] []).wt <= 20:=fun k=>by rw [gD];show 1+aH.zero.nodes+r.wt+wtA []+wtS []+wtS [] <= _;rw [aH.zero_nodes,wtA,wtS];have:=(hr.ok hm hp hv).2.1.2;omega
   rw [wtS,aAn,wtS];have:=j1.wt;have:=j3.wt;have:=w5 5;have:=w5 6;omega
  rw [aC,oX,aC];have:=j1.len;have:=j3.len;simp only [length_append];omega
end
theorem aF0:∀i,i<4 -> bQ (bytes [112,UInt8.ofNat (48+i)])=true:=by
 intro i h
 have:(List.range 4).all (fun k=>bQ (bytes [112,UInt8.ofNat (48+k)]))=true:=by kernel_rfl
 exact List.all_eq_true.1 this i (List.mem_range.2 h)
theorem aHd:∀i,i<4 -> bQ (bytes [102,UInt8.ofNat (48+i)])=true:=by
 intro i h
 have:(List.range 4).all (fun k=>bQ (bytes [102,UInt8.ofNat (48+k)]))=true:=by kernel_rfl
 exact List.all_eq_true.1 this i (List.mem_range.2 h)
theorem aGx:bQ (bytes [109,97,105,110])=true:=by kernel_rfl
theorem pM.names{l:List aS}(h:pM l):∀x,x∈l -> bQ x.name=true:=by
 intro x hx
 obtain ⟨k,hk,rfl⟩:=List.getElem_of_mem hx
 rw [h.2 k hk];have:=h.1;exact aF0 _ (by omega)
theorem aMn.name{i:Nat}{f:bS}(h:aMn i f)(hi:i<4):bQ f.name=true:=by
 rcases Nat.eq_zero_or_pos i with h0|h0
 ·rw [(h.1 h0).1];exact aGx
 rw [h.2.1 h0];exact aHd i hi
theorem kZ.all{ms:List cL}{fs:List Sig}{gs:List aI}(hm:∀m,m∈ms -> bQ m.name=true)(hg:∀g,g∈fs -> bQ g.1=true /\ g.2.length <= 2)(hgl:∀g,g∈gs -> bQ g.name=true)
  {left:Nat} {l:List bS} (h:kZ ms fs gs left l):left <= 24 -> (∀f,f∈l -> ∀x,x∈f.params -> bQ x.name=true) -> ∀f,f∈l -> LOk 0 [9] 24 f.body:=by
 induction h with
 |nil=>intro _ _ f hf;simp at hf
 |@cons left left' f l hb hl ih=>
  intro hle hps g hgm
  have h1:=hb.le
  have hv:lC (uS gs f.params):=by
   intro x hx
   simp only [uS,mem_append,List.mem_map,List.mem_filter] at hx
   rcases hx with ⟨g,hg,rfl⟩|⟨y,⟨hy,_⟩,rfl⟩
   ·exact hgl g hg
   exact hps f (by simp) y hy
  rcases mem_cons.1 hgm with rfl|hgm
  ·have:=hb.ok hm (hps g (by simp)) hg hv hle 0 [9] (by omega) (by simp)
   exact ⟨this.ok,this.sane,by have:=this.wt;omega,by have:=this.len;omega⟩
  exact ih (by omega) (fun f hf=>hps f (by simp [hf])) g hgm
end
section
theorem aDo:∀(e:aH),VE e -> (aT e).length <= 3*e.nodes-2:=by
 intro e h
 induction h with
 |num n h=>rw [uO,aH.nodes,cZ];simp
 |name s h=>rw [sC,aH.nodes,cZ];simp
 |un op x h hx ih=>
  have h1:∀b t,(mF b t).length <= t.length+2:=fun b t=>by unfold mF;split<;>simp
  rw [yB h,aH.nodes,cZ,cZ,length_cons]
  have:=h1 (cV op 0 x.op) (aT x);omega
 |bin op x y h hx hy ihx ihy=>
  have h1:∀b t,(mF b t).length <= t.length+2:=fun b t=>by unfold mF;split<;>simp
  rw [uI h,aH.nodes,cZ,cZ,cZ,length_append,length_cons]
  have:=h1 (cV op 0 x.op) (aT x);have:=h1 (cV op 1 y.op) (aT y);omega
theorem eT.toks{names:List ByteArray}{d:Nat}{e:aH}(hn:∀x,x∈names -> bQ x=true)(h:eT names d e)(hd:d <= 2):(aT e).length <= 37:=by
 have h1:=aDo e (h.ve hn)
 have h2:=(h.mono hd).nodes
 omega
section
variable {ms:List cL}{fs:List Sig}{ps:List aS}
theorem uA.toks{vars:List ByteArray}{r:cY}(hv:lC vars)(h:uA ms ps vars r):(hY r).length <= 40:=by
 cases h with
 |arr hm hs he=>have:=he.toks hv (by omega);simp only [hY,length_cons,length_append,length_nil];omega
 |scalar hm hs=>simp [hY]
 |param hx hm=>simp [hY]
theorem tS{α:Type}(f:α -> List PT)(c:Nat):∀l:List α,(∀x,x∈l -> (f x).length <= c) -> (fZ f l).length <= (c+1)*l.length
 |[],_=>by simp [fZ]
 |[x],h=>by have:=h x (by simp);simp [fZ];omega
 |x::y::r,h=>by
  have h1:=tS f c (y::r) (fun z hz=>h z (by simp [hz]))
  have h2:=h x (by simp)
  rw [nW,length_append,length_cons]
  simp only [length_cons,Nat.mul_add,Nat.mul_one] at h1⊢;omega
theorem nB.toks{vars:List ByteArray}{l:List aS}{al:List eN}(hv:lC vars)(h:nB ms ps vars l al):al.length=l.length /\ ∀x,x∈al -> (wH x).length <= 41:=by
 induction h with
 |nil=>exact ⟨rfl,fun x hx=>by cases hx⟩
 |mutex hx hr h ih=>
  refine ⟨by simp [ih.1],fun x hx=>?_⟩
  rcases mem_cons.1 hx with rfl|hx
  ·have:=hr.toks hv;simp only [wH,if_true,length_cons];omega
  ·exact ih.2 x hx
 |expr hx he h ih=>
  refine ⟨by simp [ih.1],fun x hx=>?_⟩
  rcases mem_cons.1 hx with rfl|hx
  ·have:=he.toks hv (by omega);simp only [wH,Bool.false_eq_true,if_false];omega
  exact ih.2 x hx
theorem wL(a b:List aJ):aQ (a++b)=aQ a++aQ b:=by
 induction a with
 |nil=>rw [List.nil_append,aQ,List.nil_append]
 |cons s r ih=>rw [List.cons_append,aQ,aQ,ih,append_assoc]
theorem dJ.toks{vars:List ByteArray}{deep left left':Nat}{l:List aJ}(hg:∀g,g∈fs -> bQ g.1=true /\ g.2.length <= 2)(h:dJ ms fs ps vars deep left l left'):
  lC vars -> left <= 24 -> (aQ l).length <= 100*(left-left'):=by
 induction h with
 |nil=>intro _ _;rw [aQ];simp
 |lock hr h ih=>
  intro hv hl
  have:=h.le;have:=ih hv (by omega);have:=hr.toks hv
  rw [aQ,cE];simp;omega
 |unlock hr h ih=>
  intro hv hl
  have:=h.le;have:=ih hv (by omega);have:=hr.toks hv
  rw [aQ,cE];simp;omega
 |@var vars deep left left' e rest he h ih=>
  intro hv hl
  have:=h.le
  have:=ih (fun x hx=>by
   rcases mem_append.1 hx with hx|hx
   ·exact hv x hx
   simp only [List.mem_singleton] at hx;subst hx;exact aAe left (by omega)) (by omega)
  have:=he.toks hv (by omega)
  rw [aQ,cE];simp;omega
 |assign hx he h ih=>
  intro hv hl
  have:=h.le;have:=ih hv (by omega);have:=he.toks hv (by omega)
  rw [aQ,cE];simp;omega
 |@call vars deep left left' k g al rest hk hgm ha h ih=>
  intro hv hl
  have:=h.le;have:=ih hv (by omega)
  obtain ⟨h1,h2⟩:=ha.toks hv
  have h3:=tS wH 41 al h2
  have h4:=(hg g hgm).2
  rw [aQ,cE]
  rcases hk with rfl|rfl<;>simp [iG]<;>omega
 |cond he h1 h2 h3 i1 i2 i3=>
  intro hv hl
  have:=h1.le;have:=h2.le;have:=h3.le
  have:=i1 hv (by omega);have:=i2 hv (by omega);have:=i3 hv (by omega);have:=he.toks hv (by omega)
  rw [aQ,cE]
  simp only [length_append]
  rw [if_neg (by decide),if_neg (by decide),if_neg (by decide),if_neg (by decide),if_neg (by decide),if_neg (by decide),if_pos (by decide)]
  simp only [length_append,length_cons,length_nil]
  split<;>(try simp only [length_append,length_cons,length_nil])<;>omega
 |loop he h1 h3 i1 i3=>
  intro hv hl
  have:=h1.le;have:=h3.le
  have:=i1 hv (by omega);have:=i3 hv (by omega);have:=he.toks hv (by omega)
  rw [aQ,cE];simp;omega
 |ret h ih=>
  intro hv hl
  have:=h.le;have:=ih hv (by omega)
  rw [aQ,cE];simp;omega
 |pair hr h1 h3 i1 i3=>
  intro hv hl
  have:=h1.le;have:=h3.le
  have:=i1 hv (by omega);have:=i3 hv (by omega);have:=hr.toks hv
  rw [aQ,wL,aQ,cE,cE];simp;omega
theorem kZ.toks{gs:List aI}{left:Nat}{l:List bS}(hg:∀g,g∈fs -> bQ g.1=true /\ g.2.length <= 2)(hgl:∀g,g∈gs -> bQ g.name=true)(h:kZ ms fs gs left l):left <= 24 -> (∀f,f∈l -> ∀x,x∈f.params -> bQ x.name=true) ->
  (l.map fun f=>(aQ f.body).length).sum <= 100*left:=by
 induction h with
 |nil=>intro _ _;simp
 |@cons left left' f l hb hl ih=>
  intro hle hps
  have h1:=hb.le
  have hv:lC (uS gs f.params):=by
   intro x hx
   simp only [uS,mem_append,List.mem_map,List.mem_filter] at hx
   rcases hx with ⟨g,hg,rfl⟩|⟨y,⟨hy,_⟩,rfl⟩
   ·exact hgl g hg
   exact hps f (by simp) y hy
  have h2:=hb.toks hg hv hle
  have h3:=ih (by omega) (fun f hf=>hps f (by simp [hf]))
  simp only [List.map_cons,List.sum_cons];omega
end
end
section
open Go.RowKit
structure TOk (l:List Tok):Prop where
 last:rP l
 reg:∀t,t∈l -> aPn t
 len:l.length <= 1000000
theorem lA{e:Nat}(h:e≠0):bC .eql (e:Int) 0=some false:=by simp [bC,h]
theorem jS{m n:Nat}:bC .eql (m:Int) (n:Int)=some (decide (m=n)):=by
 by_cases h:m=n
 ·subst h;simp [bC]
 have h2:¬(m:Int)=(n:Int):=by omega
 simp [bC,h,h2]
def aC7(e b k x b1 e1:Nat):Prop:=(e=0 -> k=b1 /\ x=e1) /\ (e≠0 -> b=b1 /\ e=e1)
theorem aC7.run{α:Type}{e b k x b1 e1:Nat}{r:bN α}(h:aC7 e b k x b1 e1)(hx:x≠0)(hr:e=0 -> r=.err k x)(y:α)(k1:Nat):kX e b r y k1 b1 e1:=by
 by_cases he:e=0
 ·obtain ⟨rfl,rfl⟩:=h.1 he
  subst he
  exact .err _ _ _ _ _ (hr rfl) hx
 obtain ⟨rfl,rfl⟩:=h.2 he
 exact .skip he _ _ _
theorem aC7.small{e b k x b1 e1:Nat}(h:aC7 e b k x b1 e1)(he:e<16)(hx:x<16):e1<16:=by
 by_cases h0:e=0
 ·rw [←(h.1 h0).2];exact hx
 rw [←(h.2 h0).2];exact he
end
section
open Go.RowKit
theorem TOk.of{s:List UInt8}{l:List Tok}(h:iH s=.ok l):TOk l:=⟨(wD h).ends,(wD h).reg,by have:=(wD h).few;omega⟩
def jM(s:List UInt8):cK×Nat×Nat:=
 match iH s with
 |.err p e=>(⟨[],[],[]⟩,p,e)
 |.ok l=>match fH l with
  |.ok x _=>(x,s.length,0)
  |.err k e=>(⟨[],[],[]⟩,(bU l k).pos,e)
theorem aA9{s:List UInt8}{p e:Nat}(h:iH s=.err p e):jM s=(⟨[],[],[]⟩,p,e):=by unfold jM;rw [h]
theorem aBe{s:List UInt8}{l:List Tok}{k e:Nat}(h:iH s=.ok l)(h2:fH l=.err k e)(hk:k<l.length):jM s=(⟨[],[],[]⟩,l[k].pos,e):=by unfold jM;rw [h];dsimp only;rw [h2];dsimp only;rw [bG hk]
theorem pT{s:List UInt8}{l:List Tok}{x:cK}{k:Nat}(h:iH s=.ok l)(h2:fH l=.ok x k):jM s=(x,s.length,0):=by unfold jM;rw [h];dsimp only;rw [h2]
end
end Go.Proofs.YtojinfngbbajgaaGreatDoor
