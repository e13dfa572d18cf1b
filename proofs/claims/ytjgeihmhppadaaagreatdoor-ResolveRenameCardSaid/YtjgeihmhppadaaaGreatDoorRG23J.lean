import Derived.Test.YtjgeihmhppadaaaGreatDoorRG19J
set_option linter.all false
set_option synthInstance.maxHeartbeats 1000000
set_option synthInstance.maxSize 1000000
namespace Go.Proofs.YtjgeihmhppadaaaGreatDoor
open List (length_append length_cons length_nil mem_append mem_cons not_mem_nil append_assoc getElem_mem take_of_length_le)
section
theorem dV{s:ByteArray}(h:bQ s=true):s.size <= 16:=by
 unfold bQ at h
 split at h
 ·cases h
 simp only [Bool.and_eq_true,decide_eq_true_eq] at h;exact h.1.2
theorem eT.nodes{names:List ByteArray}{d:Nat}{e:aH}(h:eT names d e):e.nodes+3 <= 4*2 ^ d:=by
 induction h with
 |@name d x h=>rw [aH.nodes,cZ];have:=Nat.one_le_two_pow (n:=d);omega
 |@num d n h0 h1=>rw [aH.nodes,cZ];have:=Nat.one_le_two_pow (n:=d);omega
 |@un d op e ho he ih=>rw [aH.nodes,cZ,cZ,Nat.pow_succ];have:=Nat.one_le_two_pow (n:=d);omega
 |@bin d op a b h0 h1 ha hb iha ihb=>rw [aH.nodes,cZ,cZ,cZ,Nat.pow_succ];have:=Nat.one_le_two_pow (n:=d);omega
theorem eT.tame{names:List ByteArray}{d:Nat}{e:aH}(hn:∀x,x∈names -> bQ x=true)(h:eT names d e):e.tame:=by
 induction h with
 |@name d x h=>rw [aH.tame];exact ⟨V,Nat.le_trans (dV (hn x h)) V,by rw [oG];trivial⟩
 |@num d n h0 h1=>rw [aH.tame];exact ⟨J,V,by rw [oG];trivial⟩
 |@un d op e ho he ih=>rw [aH.tame];exact ⟨V,V,by rw [oG,oG];exact ⟨ih,trivial⟩⟩
 |@bin d op a b h0 h1 ha hb iha ihb=>rw [aH.tame];exact ⟨V,V,by rw [oG,oG,oG];exact ⟨iha,ihb,trivial⟩⟩
theorem sX{op:Int}(h0:5 <= op)(h1:op <= 17):aM op<5:=by
 unfold aM
 repeat' split
 all_goals omega
theorem aDj{op:Int}(h:op=3∨op=4):aM op=5:=by
 rcases h with rfl|rfl<;>rfl
theorem eT.shape{names:List ByteArray}{d:Nat}{e:aH}(hn:∀x,x∈names -> bQ x=true)(h:eT names d e):eO e=true:=by
 induction h with
 |@name d x h=>
  rw [eO,dY,show aM 2=6 from rfl,if_pos rfl,jG,arity,show aM 2=6 from rfl,if_pos rfl,hn x h];simp
 |@num d n h0 h1=>
  rw [eO,dY,show aM 1=6 from rfl,if_pos rfl,jG,arity,show aM 1=6 from rfl,if_pos rfl];simp [h0]
 |@un d op e ho he ih=>
  have hs:=aDj ho
  rw [eO,dY,dY,arity,hs,if_neg V,if_neg V,if_pos rfl,ih];simp
 |@bin d op a b h0 h1 ha hb iha ihb=>
  have hs:=sX h0 h1
  rw [eO,dY,dY,dY,arity,if_neg J,if_neg J,if_neg J,iha,ihb];simp
theorem eT.height{names:List ByteArray}{d:Nat}{e:aH}(h:eT names d e):dI e <= 2*d:=by
 induction h with
 |@name d x h=>rw [dI,bSm,if_neg V];omega
 |@num d n h0 h1=>rw [dI,bSm,if_neg V];omega
 |@un d op e ho he ih=>rw [dI,bSm,bSm];split<;>split<;>omega
 |@bin d op a b h0 h1 ha hb iha ihb=>rw [dI,bSm,bSm,bSm];split<;>split<;>split<;>omega
theorem eT.valid{names:List ByteArray}{d:Nat}{e:aH}(hn:∀x,x∈names -> bQ x=true)(h:eT names d e)(hd:d <= 12):dM e=true:=by
 rw [dM,h.shape hn,Bool.true_and,decide_eq_true_eq];have:=h.height;omega
theorem eT.sane{names:List ByteArray}{d:Nat}{e:aH}(hn:∀x,x∈names -> bQ x=true)(h:eT names d e):e.sane:=by
 induction h with
 |@name d x h=>rw [aH.sane];exact ⟨F4,Nat.le_trans (dV (hn x h)) V,by rw [iI];trivial⟩
 |@num d n h0 h1=>rw [aH.sane];exact ⟨F4,V,by rw [iI];trivial⟩
 |@un d op e ho he ih=>rw [aH.sane];exact ⟨F4,V,by rw [iI,iI];exact ⟨ih,trivial⟩⟩
 |@bin d op a b h0 h1 ha hb iha ihb=>rw [aH.sane];exact ⟨F4,V,by rw [iI,iI,iI];exact ⟨iha,ihb,trivial⟩⟩
theorem rQ{n:Int}(h0:-9223372036854775808 <= n)(h1:n <= 9223372036854775807):(eH n).length <= 21:=by
 have:=kC n.natAbs J
 unfold eH
 split<;>simp<;>omega
theorem eT.len{names:List ByteArray}{d:Nat}{e:aH}(hn:∀x,x∈names -> bQ x=true)(h:eT names d e):(aP e).length+10 <= 31*2 ^ d:=by
 induction h with
 |@name d x h=>
  have h1:=dV (hn x h)
  have h2:x.data.toList.length=x.size:=Y
  rw [aP,iX,if_neg V,if_pos rfl];have:=Nat.one_le_two_pow (n:=d);omega
 |@num d n h0 h1=>
  have:=rQ (n:=n) J J
  rw [aP,iX,if_pos rfl];have:=Nat.one_le_two_pow (n:=d);omega
 |@un d op e ho he ih=>
  rw [aP,dP,dP,Nat.pow_succ]
  have hl:∀x:List UInt8,(iX op 0 aK [x]).length=x.length+1:=by
   intro x;rcases ho with rfl|rfl<;>simp [iX]
  rw [hl]
  have:=Nat.one_le_two_pow (n:=d)
  split
  ·simp only [length_append,length_cons,length_nil];omega
  ·omega
 |@bin d op a b h0 h1 ha hb iha ihb=>
  rw [aP,dP,dP,dP,Nat.pow_succ]
  have hs:=sX h0 h1
  have ho:=aAr op
  have hl:∀x y:List UInt8,(iX op 0 aK [x,y]).length=x.length+1+(iW op).length+1+y.length:=by
   intro x y;rw [iX,if_neg J,if_neg J,if_neg J,if_neg J,if_pos hs];simp;omega
  rw [hl]
  split<;>split<;>(try simp only [length_append,length_cons,length_nil])<;>omega
end
section
theorem aH.zero_sane:aH.zero.sane:=by unfold aH.zero;rw [aH.sane];exact ⟨F4,V,by rw [iI];trivial⟩
theorem cY.zero_sane:cY.zero.sane:=⟨V,F8⟩
theorem aH.zero_nodes:aH.zero.nodes=1:=by unfold aH.zero;rw [aH.nodes,cZ]
theorem cY.zero_wt:cY.zero.wt=1:=by unfold cY.wt cY.zero;rw [cZ]
def lC(l:List ByteArray):Prop:=∀x,x∈l -> bQ x=true
theorem cZt:bLg .zero=true:=by simp [bLg,aH.zero,aH.op,aH.num,aH.name,aH.args]
theorem jN:kM .zero=true:=by simp [kM,cY.zero]
section
variable {ms:List cL}{fs:List Sig}{ps:List aS}
theorem uA.ok{vars:List ByteArray}{r:cY}(hm:∀m,m∈ms -> bQ m.name=true)(hp:∀x,x∈ps -> bQ x.name=true)(hv:lC vars)(h:uA ms ps vars r):
  okRefB r=true /\ (r.sane /\ r.wt <= 7) /\ (dC r).length <= 70:=by
 have size:∀x:ByteArray,bQ x=true -> x.data.toList.length <= 16:=λx h=>dV h
 cases h with
 |@arr m e h1 h2 he=>
  have hl:=he.len hv
  have:=size _ (hm m h1)
  refine ⟨by show (bQ m.name && dM e)=true;rw [hm m h1,he.valid hv J];rfl,⟨⟨Nat.le_trans (dV (hm m h1)) V,by show iI [e];rw [iI,iI];exact ⟨he.sane hv,trivial⟩⟩,by have:=he.nodes;unfold cY.wt;show 1+cZ [e] <= 7;rw [cZ,cZ];omega⟩,?_⟩
  ·simp only [dC,length_append,length_cons,length_nil];omega
 |@scalar m h1 h2=>
  have:=size _ (hm m h1)
  exact ⟨by show (bQ m.name && true)=true;rw [hm m h1];rfl,⟨⟨Nat.le_trans (dV (hm m h1)) V,F8⟩,Gw⟩,by simp only [dC];omega⟩
 |@param x h1 h2=>
  have:=size _ (hp x h1)
  exact ⟨by show (bQ x.name && true)=true;rw [hp x h1];rfl,⟨⟨Nat.le_trans (dV (hp x h1)) V,F8⟩,Gw⟩,by simp only [dC];omega⟩
theorem nO{α:Type}(f:α -> List UInt8)(x:α)(l:List α):(bW f (x::l)).length <= (f x).length+2+(bW f l).length:=by
 cases l with
 |nil=>simp [bW]
 |cons y r=>simp [bW];omega
theorem nB.ok{vars:List ByteArray}{l:List aS}{al:List eN}(hm:∀m,m∈ms -> bQ m.name=true)(hp:∀x,x∈ps -> bQ x.name=true)(hv:lC vars)(h:nB ms ps vars l al):
  al.all fY=true /\ ((∀a,a∈al -> a.sane) /\ wtA al <= 15*l.length) /\ al.length=l.length /\ (bW dE al).length <= 122*l.length:=by
 induction h with
 |nil=>exact ⟨rfl,⟨(λa h=>DU),by rw [wtA];simp⟩,rfl,FE⟩
 |@mutex x l al r hx hr h ih=>
  obtain ⟨i1,i2,i3,i4⟩:=ih
  obtain ⟨h1,h2,h3⟩:=hr.ok hm hp hv
  refine ⟨by rw [List.all_cons,i1,fY,if_pos rfl,h1,cZt];rfl,⟨?_,?_⟩,by simp [i3],?_⟩
  ·intro a ha
   rcases mem_cons.1 ha with rfl|ha
   ·exact ⟨h2.1,aH.zero_sane⟩
   exact i2.1 a ha
  ·have:=i2.2;have:=h2.2;rw [wtA];unfold eN.wt;rw [aH.zero_nodes,length_cons];show 1+r.wt+1+wtA al <= _;omega
  ·have:=nO dE ⟨true,r,.zero⟩ al
   have h4:(dE ⟨true,r,.zero⟩).length=6+(dC r).length:=by simp [dE];omega
   rw [length_cons];omega
 |@expr x l al e hx he h ih=>
  obtain ⟨i1,i2,i3,i4⟩:=ih
  have hl:=he.len hv
  refine ⟨by rw [List.all_cons,i1,fY,if_neg G0,jN,he.valid hv J];rfl,⟨?_,?_⟩,by simp [i3],?_⟩
  ·intro a ha
   rcases mem_cons.1 ha with rfl|ha
   ·exact ⟨cY.zero_sane,he.sane hv⟩
   exact i2.1 a ha
  ·have:=i2.2;have:=he.nodes;rw [wtA];unfold eN.wt;rw [cY.zero_wt,length_cons];show 1+1+e.nodes+wtA al <= _;omega
  have:=nO dE ⟨false,.zero,e⟩ al
  have h4:(dE ⟨false,.zero,e⟩).length=(aP e).length:=by simp [dE]
  rw [length_cons];omega
theorem aAe:∀left,left<24 -> bQ (cZk left)=true:=by
 intro left h
 have:(List.range 24).all (λk=>bQ (cZk k))=true:=B6
 exact List.all_eq_true.1 this left (List.mem_range.2 h)
end
theorem qL(D:Nat)(hD:D<24):∀(a b:List aJ),bM D (a++b)=(bM D a && bM D b)
 |[],b=>by rw [List.nil_append,bM,decide_eq_true hD,Bool.true_and]
 |s::r,b=>by rw [List.cons_append,bM,bM,qL D hD r b,Bool.and_assoc]
theorem uJ:∀(a b:List aJ),gC (a++b)↔gC a /\ gC b
 |[],b=>by rw [List.nil_append,gC];simp
 |s::r,b=>by rw [List.cons_append,gC,gC,uJ r b,and_assoc]
theorem aAn:∀(a b:List aJ),wtS (a++b)=wtS a+wtS b
 |[],b=>by rw [List.nil_append,wtS];omega
 |s::r,b=>by rw [List.cons_append,wtS,wtS,aAn r b];omega
theorem qZ:gC []:=by rw [gC];trivial
structure SOk (D:Nat) (tabs:List UInt8) (n:Nat) (s:aJ):Prop where
 ok:bK9 D s=true
 sane:s.sane
 wt:s.wt <= 60*n
 len:(bY tabs s).length <= 700*n
structure LOk (D:Nat) (tabs:List UInt8) (n:Nat) (l:List aJ):Prop where
 ok:bM D l=true
 sane:gC l
 wt:wtS l <= 60*n
 len:(aC tabs l).length <= 700*n
theorem LOk.cons{D n m k:Nat}{tabs:List UInt8}{s:aJ}{l:List aJ}(h:SOk D tabs n s)(hl:LOk D tabs m l)(hk:n+m <= k):LOk D tabs k (s::l):=
 ⟨by rw [bM,h.ok,hl.ok];rfl,by rw [gC];exact ⟨h.sane,hl.sane⟩,by rw [wtS];have:=h.wt;have:=hl.wt;omega,by rw [aC,length_append];have:=h.len;have:=hl.len;omega⟩
theorem LOk.cons'{D n m k:Nat}{tabs:List UInt8}{s:aJ}{l:List aJ}(hl:LOk D tabs m l)(h:SOk D tabs n s)(hk:n+m <= k):LOk D tabs k (s::l):=LOk.cons h hl hk
theorem LOk.nil{D n:Nat}{tabs:List UInt8}(hD:D<24):LOk D tabs n []:=
 ⟨by rw [bM];exact decide_eq_true hD,by rw [gC];trivial,by rw [wtS];omega,by rw [aC];simp⟩
section
variable {ms:List cL}{fs:List Sig}{ps:List aS}
theorem SOk.of{D n:Nat}{tabs:List UInt8}{k:Int}{name:ByteArray}{e:aH}{r:cY}{al:List eN}{t el:List aJ}
  (h0:1 <= k /\ k <= 9) (h1:(if 1 <= k /\ k <= 4 then bQ name else decide (name=aK))=true) (h2:(if k=1∨k=2∨k=7∨k=8 then dM e else bLg e)=true)
  (h3:(if k=5∨k=6 then okRefB r else kM r)=true) (h4:(decide (k=3∨k=4)||decide (al.length=0))=true) (h5:al.all fY=true)
  (h6:(if k=7∨k=8 then bM (D+1) t else decide (t.length=0))=true) (h7:(decide (el.length=0)||(decide (k=7) && bM (D+1) el))=true)
  (hf:(aJ.mk k name e r al t el).sane) (hc:(aJ.mk k name e r al t el).wt <= 60*n) (hl:(bY tabs (.mk k name e r al t el)).length <= 700*n):SOk D tabs n (.mk k name e r al t el):=
 ⟨by rw [bK9,decide_eq_true h0,h1,h2,h3,h4,h5,h6,h7];rfl,hf,hc,hl⟩
theorem aAo{x:ByteArray}(h:bQ x=true):x.data.toList.length <= 16:=dV h
theorem yA{D:Nat}{tabs:List UInt8}{vars:List ByteArray}{k:Int}{r:cY}(hk:k=5∨k=6)(ht:tabs.length <= 4)(hm:∀m,m∈ms -> bQ m.name=true)(hp:∀x,x∈ps -> bQ x.name=true)(hv:lC vars)(h:uA ms ps vars r):
  SOk D tabs 1 (.mk k aK .zero r [] [] []) /\ (bY tabs (.mk k aK .zero r [] [] [])).length <= 90:=by
 obtain ⟨h1,h2,h3⟩:=h.ok hm hp hv
 have hl:(bY tabs (.mk k aK .zero r [] [] [])).length <= 90:=by
  rw [bY]
  rcases hk with rfl|rfl<;>simp<;>omega
 refine ⟨SOk.of J (by rw [if_neg J];exact decide_eq_true rfl) (by rw [if_neg J];exact cZt) (by rw [if_pos hk];exact h1) G0 Y (by rw [if_neg J];rfl) G0 ?_ ?_ J,hl⟩
 ·rw [aJ.sane];exact ⟨V,aH.zero_sane,h2.1,F1,qZ,qZ⟩
 rw [gD];show 1+aH.zero.nodes+r.wt+wtA []+wtS []+wtS [] <= _;rw [aH.zero_nodes,wtA,wtS];have:=h2.2;omega
theorem dJ.ok{vars:List ByteArray}{deep left left':Nat}{l:List aJ}(hm:∀m,m∈ms -> bQ m.name=true)(hp:∀x,x∈ps -> bQ x.name=true)
  (hg:∀g,g∈fs -> bQ g.1=true /\ g.2.length <= 2) (h:dJ ms fs ps vars deep left l left'):
  lC vars -> left <= 24 -> ∀(D:Nat)(tabs:List UInt8),D+deep<24 -> tabs.length+deep <= 4 -> LOk D tabs (left-left') l:=by
 induction h with
 |nil=>intro _ _ D tabs hD _;exact .nil J
 |lock hr h ih=>
  intro hv hl D tabs hD ht
  have:=h.le
  exact (ih hv J D tabs hD ht).cons' (yA (.inl Y) J hm hp hv hr).1 J
 |unlock hr h ih=>
  intro hv hl D tabs hD ht
  have:=h.le
  exact (ih hv J D tabs hD ht).cons' (yA (.inr Y) J hm hp hv hr).1 J
 |@var vars deep left left' e rest he h ih=>
  intro hv hl D tabs hD ht
  have:=h.le
  have hn:=aAe left J
  have hnl:=aAo hn
  have hns:=dV hn
  have hel:=he.len hv
  refine (ih (λx hx=>?_) J D tabs hD ht).cons' (n:=1) (SOk.of J (by rw [if_pos V];exact hn) Fv Fz G0 Y F7 G0 ?_ ?_ ?_) J
  ·rcases mem_append.1 hx with hx|hx
   ·exact hv x hx
   simp only [List.mem_singleton] at hx;subst hx;exact hn
  ·rw [aJ.sane];exact ⟨Nat.le_trans hns V,he.sane hv,cY.zero_sane,F1,qZ,qZ⟩
  ·rw [gD];show 1+e.nodes+cY.zero.wt+wtA []+wtS []+wtS [] <= _;rw [cY.zero_wt,wtA,wtS];have:=he.nodes;omega
  ·rw [bY];simp;omega
 |@assign vars deep left left' x e rest hx he h ih=>
  intro hv hl D tabs hD ht
  have:=h.le
  have hn:=hv x hx
  have hnl:=aAo hn
  have hns:=dV hn
  have hel:=he.len hv
  refine (ih hv J D tabs hD ht).cons' (n:=1) (SOk.of J (by rw [if_pos V];exact hn) Fv Fz G0 Y F7 G0 ?_ ?_ ?_) J
  ·rw [aJ.sane];exact ⟨Nat.le_trans hns V,he.sane hv,cY.zero_sane,F1,qZ,qZ⟩
  ·rw [gD];show 1+e.nodes+cY.zero.wt+wtA []+wtS []+wtS [] <= _;rw [cY.zero_wt,wtA,wtS];have:=he.nodes;omega
  ·rw [bY];simp;omega
 |@call vars deep left left' k g al rest hk hgm ha h ih=>
  intro hv hl D tabs hD ht
  have:=h.le
  obtain ⟨hn,hg2⟩:=hg g hgm
  have hnl:=aAo hn
  have hns:=dV hn
  obtain ⟨a1,a2,a3,a4⟩:=ha.ok hm hp hv
  refine (ih hv J D tabs hD ht).cons' (n:=1) (SOk.of J (by rw [if_pos J];exact hn) (by rw [if_neg J];exact cZt) (by rw [if_neg J];exact jN) (by rw [decide_eq_true hk];rfl) a1 (by rw [if_neg J];rfl) G0 ?_ ?_ ?_) J
  ·rw [aJ.sane];exact ⟨Nat.le_trans hns V,aH.zero_sane,cY.zero_sane,a2.1,qZ,qZ⟩
  ·rw [gD];show 1+aH.zero.nodes+cY.zero.wt+wtA al+wtS []+wtS [] <= _;rw [aH.zero_nodes,cY.zero_wt,wtS];have:=a2.2;omega
  ·have hat:(dF al).length <= 250:=by simp only [dF,length_append,length_cons,length_nil];omega
   rw [bY];rcases hk with rfl|rfl<;>simp<;>omega
 |@cond vars deep left l1 l2 left' e thn els rest he h1 h2 h3 i1 i2 i3=>
  intro hv hl D tabs hD ht
  have:=h1.le
  have:=h2.le
  have:=h3.le
  have hel:=he.len hv
  have j1:=i1 hv J (D+1) (tabs++[9]) J DR
  have j2:=i2 hv J (D+1) (tabs++[9]) J DR
  refine (i3 hv J D tabs hD ht).cons' (n:=1+(left-l1)+(l1-l2)) (SOk.of J Fx Fv Fz G0 Y (by rw [if_pos V];exact j1.ok) (by rw [j2.ok];simp) ?_ ?_ ?_) J
  ·rw [aJ.sane];exact ⟨V,he.sane hv,cY.zero_sane,F1,j1.sane,j2.sane⟩
  ·rw [gD];show 1+e.nodes+cY.zero.wt+wtA []+wtS thn+wtS els <= _;rw [cY.zero_wt,wtA];have:=he.nodes;have:=j1.wt;have:=j2.wt;omega
  ·have:=j1.len;have:=j2.len;rw [bY,if_neg V,if_neg V,if_neg V,if_neg V,if_neg V,if_neg V,if_pos V,if_neg V];simp only [length_append,length_cons,length_nil]
   split<;>(try simp only [length_append,length_cons,length_nil])<;>omega
 |@loop vars deep left l1 left' e thn rest he h1 h3 i1 i3=>
  intro hv hl D tabs hD ht
  have:=h1.le
  have:=h3.le
  have hel:=he.len hv
  have j1:=i1 hv J (D+1) (tabs++[9]) J DR
  refine (i3 hv J D tabs hD ht).cons' (n:=1+(left-l1)) (SOk.of J Fx Fv Fz G0 Y (by rw [if_pos V];exact j1.ok) G0 ?_ ?_ ?_) J
  ·rw [aJ.sane];exact ⟨V,he.sane hv,cY.zero_sane,F1,j1.sane,qZ⟩
  ·rw [gD];show 1+e.nodes+cY.zero.wt+wtA []+wtS thn+wtS [] <= _;rw [cY.zero_wt,wtA,wtS];have:=he.nodes;have:=j1.wt;omega
  ·have:=j1.len;rw [bY];simp;omega
 |@ret vars deep left left' rest h ih=>
  intro hv hl D tabs hD ht
  have:=h.le
  refine (ih hv J D tabs hD ht).cons' (n:=1) (SOk.of J Fx (by rw [if_neg V];exact cZt) Fz G0 Y F7 G0 ?_ ?_ ?_) J
  ·rw [aJ.sane];exact ⟨V,aH.zero_sane,cY.zero_sane,F1,qZ,qZ⟩
  ·rw [gD];show 1+aH.zero.nodes+cY.zero.wt+wtA []+wtS []+wtS [] <= _;rw [aH.zero_nodes,cY.zero_wt,wtA,wtS];omega
  ·rw [bY];simp;omega
 |@pair vars deep left l1 left' r mid rest hr h1 h3 i1 i3=>
  intro hv hl D tabs hD ht
  have:=h1.le
  have:=h3.le
  have j1:=i1 hv J D tabs J J
  have j3:=i3 hv J D tabs hD ht
  obtain ⟨s5,t5⟩:=yA (D:=D) (tabs:=tabs) (.inl rfl) J hm hp hv hr
  obtain ⟨s6,t6⟩:=yA (D:=D) (tabs:=tabs) (.inr rfl) J hm hp hv hr
  refine ⟨?_,?_,?_,?_⟩
  ·rw [bM,qL D J,bM,s5.ok,s6.ok,j1.ok,j3.ok];rfl
  ·rw [gC,uJ,gC];exact ⟨s5.sane,j1.sane,s6.sane,j3.sane⟩
  ·have w5:∀k:Int,(aJ.mk k aK .zero r [] [] []).wt <= 20:=λk=>by rw [gD];show 1+aH.zero.nodes+r.wt+wtA []+wtS []+wtS [] <= _;rw [aH.zero_nodes,wtA,wtS];have:=(hr.ok hm hp hv).2.1.2;omega
   rw [wtS,aAn,wtS];have:=j1.wt;have:=j3.wt;have:=w5 5;have:=w5 6;omega
  rw [aC,oX,aC];have:=j1.len;have:=j3.len;simp only [length_append];omega
end
theorem aFt:∀i,i<4 -> bQ (bytes [UInt8.ofNat (97+i)])=true:=by
 intro i h
 have:(List.range 4).all (λk=>bQ (bytes [UInt8.ofNat (97+k)]))=true:=B6
 exact List.all_eq_true.1 this i (List.mem_range.2 h)
theorem vO:∀i,i<4 -> bQ (bytes [103,UInt8.ofNat (48+i)])=true:=by
 intro i h
 have:(List.range 4).all (λk=>bQ (bytes [103,UInt8.ofNat (48+k)]))=true:=B6
 exact List.all_eq_true.1 this i (List.mem_range.2 h)
theorem aF0:∀i,i<4 -> bQ (bytes [112,UInt8.ofNat (48+i)])=true:=by
 intro i h
 have:(List.range 4).all (λk=>bQ (bytes [112,UInt8.ofNat (48+k)]))=true:=B6
 exact List.all_eq_true.1 this i (List.mem_range.2 h)
theorem aHd:∀i,i<4 -> bQ (bytes [102,UInt8.ofNat (48+i)])=true:=by
 intro i h
 have:(List.range 4).all (λk=>bQ (bytes [102,UInt8.ofNat (48+k)]))=true:=B6
 exact List.all_eq_true.1 this i (List.mem_range.2 h)
theorem aGx:bQ (bytes [109,97,105,110])=true:=B6
theorem pM.names{l:List aS}(h:pM l):∀x,x∈l -> bQ x.name=true:=by
 intro x hx
 obtain ⟨k,hk,rfl⟩:=List.getElem_of_mem hx
 rw [h.2 k hk];have:=h.1;exact aF0 _ J
theorem aMn.name{i:Nat}{f:bS}(h:aMn i f)(hi:i<4):bQ f.name=true:=by
 rcases Nat.eq_zero_or_pos i with h0|h0
 ·rw [(h.1 h0).1];exact aGx
 rw [h.2.1 h0];exact aHd i hi
theorem kZ.all{ms:List cL}{fs:List Sig}{gs:List aI}(hm:∀m,m∈ms -> bQ m.name=true)(hg:∀g,g∈fs -> bQ g.1=true /\ g.2.length <= 2)(hgl:∀g,g∈gs -> bQ g.name=true)
  {left:Nat} {l:List bS} (h:kZ ms fs gs left l):left <= 24 -> (∀f,f∈l -> ∀x,x∈f.params -> bQ x.name=true) -> ∀f,f∈l -> LOk 0 [9] 24 f.body:=by
 induction h with
 |nil=>intro _ _ f hf;simp at hf
 |@cons left left' f l hb hl ih=>
  intro hle hps g hgm
  have h1:=hb.le
  have hv:lC (uS gs f.params):=by
   intro x hx
   simp only [uS,mem_append,List.mem_map,List.mem_filter] at hx
   rcases hx with ⟨g,hg,rfl⟩|⟨y,⟨hy,_⟩,rfl⟩
   ·exact hgl g hg
   exact hps f G0 y hy
  rcases mem_cons.1 hgm with rfl|hgm
  ·have:=hb.ok hm (hps g G0) hg hv hle 0 [9] J G0
   exact ⟨this.ok,this.sane,by have:=this.wt;omega,by have:=this.len;omega⟩
  exact ih J (λf hf=>hps f (by simp [hf])) g hgm
theorem yF{α:Type}(f:α -> List UInt8)(c:Nat):∀l:List α,(∀x,x∈l -> (f x).length <= c) -> ((l.map f).flatten).length <= c*l.length
 |[],_=>G0
 |x::r,h=>by
  have h1:=yF f c r Gu
  have h2:=h x G0
  simp only [List.map_cons,List.flatten_cons,length_append,length_cons,Nat.mul_add,Nat.mul_one];omega
theorem aAv{x:aS}(h:bQ x.name=true):(bX x).length <= 22:=by
 have:=dV h
 rw [bX];split<;>simp<;>omega
theorem zH{α:Type}(f:α -> List UInt8)(c:Nat):∀l:List α,(∀x,x∈l -> (f x).length <= c) -> (bW f l).length <= (c+2)*l.length
 |[],_=>FE
 |x::r,h=>by
  have h1:=zH f c r Gu
  have h2:=h x G0
  have h3:=nO f x r
  simp only [length_cons,Nat.mul_add,Nat.mul_one];omega
structure aQz (p:cK):Prop where
 form:nY p=true
 sane:p.sane
 wt:p.wt <= 9000
 len:(cR p).length <= 75000
theorem sY.facts{p:cK}(h:sY p):aQz p:=by
 obtain ⟨gs,ms,fs⟩:=p
 obtain ⟨⟨hm1,hm2,hm⟩,⟨hg1,hg⟩,⟨hf1,hf2,hf⟩,hb⟩:=h
 dsimp only at hm1 hm2 hm hg1 hg hf1 hf2 hf hb
 have nm:∀m,m∈ms -> bQ m.name=true:=by
  intro m hmm;obtain ⟨k,hk,rfl⟩:=List.getElem_of_mem hmm;rw [(hm k hk).1];exact aFt k J
 have ng:∀g,g∈gs -> bQ g.name=true:=by
  intro g hgm;obtain ⟨k,hk,rfl⟩:=List.getElem_of_mem hgm;rw [(hg k hk).1];exact vO k J
 have nf:∀f,f∈fs -> bQ f.name=true /\ pM f.params:=by
  intro f hfm;obtain ⟨k,hk,rfl⟩:=List.getElem_of_mem hfm;exact ⟨(hf k hk).name J,(hf k hk).2.2⟩
 have bodies:=hb.all nm (by
  intro g hgm
  obtain ⟨f,hfm,rfl⟩:=List.mem_map.1 hgm
  exact ⟨(nf f hfm).1,(nf f hfm).2.1⟩) ng (Nat.le_refl _) (λf hfm=>(nf f hfm).2.names)
 have lg:∀g,g∈gs -> (aU g).length <= 60 /\ g.init≠-9223372036854775808 /\ fit g.init:=by
  intro g hgm
  have h1:=dV (ng g hgm)
  obtain ⟨k,hk,rfl⟩:=List.getElem_of_mem hgm
  obtain ⟨_,h2,h3⟩:=hg k hk
  have h4:=rQ (n:=gs[k].init) J J
  refine ⟨?_,J,by constructor<;>omega⟩
  rw [aU];split<;>simp<;>omega
 have lm:∀m,m∈ms -> (bE m).length <= 60 /\ fS m=true /\ fit m.size:=by
  intro m hmm
  have h1:=dV (nm m hmm)
  have h0:=nm m hmm
  obtain ⟨k,hk,rfl⟩:=List.getElem_of_mem hmm
  have h2:0 <= ms[k].size /\ ms[k].size <= 3 /\ (ms[k].reentrant=true -> ms[k].size=0):=by
   rcases (hm k hk).2 with ⟨a,b,c⟩|⟨a,b⟩
   ·exact ⟨b,c,λh=>by rw [a] at h;cases h⟩
   exact ⟨J,J,λ_=>b⟩
  have h4:=rQ (n:=ms[k].size) J J
  refine ⟨?_,?_,by constructor<;>omega⟩
  ·rw [bE];split<;>split<;>simp<;>omega
  rw [fS,h0,decide_eq_true J]
  cases hr:ms[k].reentrant with
  |false=>rfl
  |true=>rw [decide_eq_false (by have:=h2.2.2 hr;omega)];rfl
 have lf:∀f,f∈fs -> (funcText f).length <= 17000 /\ gW f=true:=by
  intro f hfm
  obtain ⟨h0,h1⟩:=nf f hfm
  have h2:=dV h0
  have h3:=bodies f hfm
  have h4:=h3.len
  have h5:=zH bX 22 f.params (λx hx=>aAv (h1.names x hx))
  have h6:=h1.1
  refine ⟨?_,?_⟩
  ·rw [funcText];simp only [length_append,length_cons,length_nil];have:f.name.data.toList.length=f.name.size:=rfl;omega
  rw [gW,h0,decide_eq_true J,h3.ok,List.all_eq_true.2 (λx hx=>h1.names x hx)];rfl
 have len:(cR ⟨gs,ms,fs⟩).length <= 75000:=by
  have h1:=yF aU 60 gs (λg h=>(lg g h).1)
  have h2:=yF bE 60 ms (λg h=>(lm g h).1)
  have h3:=yF funcText 17000 fs (λg h=>(lf g h).1)
  rw [cR];simp only [length_append];omega
 refine ⟨?_,⟨λg h=>⟨(lg g h).2.2,Nat.le_trans (dV (ng g h)) V⟩,λm h=>⟨(lm m h).2.2,Nat.le_trans (dV (nm m h)) V⟩,λf h=>⟨Nat.le_trans (dV (nf f h).1) V,λx hx=>Nat.le_trans (dV ((nf f h).2.names x hx)) V,(bodies f h).sane⟩⟩,?_,len⟩
 ·unfold nY
  rw [decide_eq_true E7,List.all_eq_true.2 (λg h=>by rw [gH,ng g h,decide_eq_true (lg g h).2.1];rfl),List.all_eq_true.2 (λm h=>(lm m h).2.1),List.all_eq_true.2 (λf h=>(lf f h).2)];rfl
 unfold cK.wt
 have h1:(fs.map bS.wt).sum <= 2000*fs.length:=by
  have:∀l:List bS,(∀f,f∈l -> f.wt <= 2000) -> (l.map bS.wt).sum <= 2000*l.length:=by
   intro l
   induction l with
   |nil=>intro _;simp
   |cons f l ih=>intro hx;have:=ih (λg hg=>hx g (by simp [hg]));have:=hx f G0;simp only [List.map_cons,List.sum_cons,length_cons];omega
  exact this fs (λf hfm=>by unfold bS.wt;have:=(bodies f hfm).wt;have:=(nf f hfm).2.1;omega)
 show gs.length+ms.length+(fs.map bS.wt).sum <= _
 omega
end
section
structure cFc where
 name:ByteArray
 kind:Int
 n:Nat
def cE9(x:cFc):List AC:=[Vs x.name,Vi x.kind,nC x.n]
structure cG5 where
 param:Bool
 index:Nat
 at_:List aH
def cF7(x:cG5):List AC:=[Vb x.param,nC x.index,Sq fO x.at_]
structure cFw where
 op:Int
 target:Nat
 global:Bool
 expr:aH
 place:cG5
 ints:List aH
 places:List cG5
def encI(x:cFw):List AC:=[Vi x.op,nC x.target,Vb x.global,Vi x.expr.op,Vi x.expr.num,Vs x.expr.name,Sq fO x.expr.args,Vb x.place.param,nC x.place.index,Sq fO x.place.at_,Sq fO x.ints,Sq cF7 x.places]
def cN6:cFc:=⟨aK,0,0⟩
def plZ:cG5:=⟨false,0,[]⟩
def cFa:List cFc -> ByteArray -> Option cFc
 |[],_=>none
 |x::l,s=>if x.name=s then some x else cFa l s
def cN4:Option cFc -> cFc
 |none=>cN6
 |some v=>v
def cFb(l:List cFc)(s:ByteArray):cFc:=cN4 (cFa l s)
structure cHo (p:cK) (l:List cFc):Prop where
 ms:∀s v,cFa l s=some v -> v.kind=2 -> v.n<p.mutexes.length
 fs:∀s v,cFa l s=some v -> v.kind=3 -> v.n<p.funcs.length
abbrev ES:=Nat×Int
def cFg(q:ES)(e:Nat)(s:Int):ES:=if q.1=0 /\ e≠0 then (e,s) else q
def cFj(a b:Nat):Nat:=if a=0 then b else a
theorem cGg(q:ES)(s:Int):cFg q 0 s=q:=by unfold cFg;rw [if_neg G0]
def cN1:Option cFc -> Nat
 |none=>6
 |some v=>if v.kind=1∨v.kind=4 then 0 else 8
def cGq(l:List cFc)(s:ByteArray):Nat:=cN1 (cFa l s)
def cJw(l:List cFc)(s:ByteArray):aH:=.mk (if (cFb l s).kind=1 then 19 else 18) ((cFb l s).n:Nat) aK []
mutual
def cFk(l:List cFc):aH -> aH
 |.mk op num name args=>if op=2 then cJw l name else .mk op num aK (cIl l args)
def cIl(l:List cFc):List aH -> List aH
 |[]=>[]
 |e::r=>cFk l e::cIl l r
end
mutual
def cFf(l:List cFc):aH -> Nat
 |.mk op _ name args=>if op=2 then cGq l name else cFq l args
def cFq(l:List cFc):List aH -> Nat
 |[]=>0
 |e::r=>cFj (cFf l e) (cFq l r)
end
def cHk(p:cK)(n:Nat):Int:=match p.mutexes[n]? with
 |none=>0
 |some m=>m.size
theorem cGz{p:cK}{n:Nat}(h:n<p.mutexes.length):cHk p n=p.mutexes[n].size:=by unfold cHk;rw [List.getElem?_eq_getElem h]
def cG6(l:List cFc)(r:cY):cG5:=⟨decide ((cFb l r.name).kind=5),(cFb l r.name).n,r.index.map (cFk l)⟩
def cG3(p:cK)(n:Nat):Option cFc -> Nat
 |none=>6
 |some v=>if v.kind=2∨v.kind=5 then (if (decide (v.kind=2) && decide (0<cHk p v.n))=decide (0<n) then 0 else 8) else 8
def cGo(p:cK)(l:List cFc)(r:cY):Nat:=cFj (cG3 p r.index.length (cFa l r.name)) (cFq l r.index)
def cJh(p:cK)(l:List cFc)(a:eN):Nat:=if a.mutex then cGo p l a.ref else cFf l a.expr
def cF8(p:cK)(l:List cFc):List eN -> List aS -> Nat
 |a::r,x::xs=>if a.mutex=x.mutex then cFj (cJh p l a) (cF8 p l r xs) else 8
 |_,_=>0
def cGb:List eN -> List aS -> List eN
 |a::r,x::xs=>if a.mutex=x.mutex then a::cGb r xs else []
 |_,_=>[]
def cF4(l:List cFc)(al:List eN):List cG5:=(al.filter eN.mutex).map λa=>cG6 l a.ref
def cFn(l:List cFc)(al:List eN):List aH:=(al.filter λa=>!a.mutex).map λa=>cFk l a.expr
def cGc(p:cK)(n:Nat):List aS:=match p.funcs[n]? with
 |none=>[]
 |some f=>f.params
theorem cHc{p:cK}{n:Nat}(h:n<p.funcs.length):cGc p n=p.funcs[n].params:=by unfold cGc;rw [List.getElem?_eq_getElem h]
def cHb(p:cK)(l:List cFc)(al:List eN):Option cFc -> Nat
 |none=>6
 |some v=>if v.kind=3 then (if (cGc p v.n).length=al.length then cF8 p l al (cGc p v.n) else 7) else 8
def cFy(p:cK)(l:List cFc)(s:aJ):Nat:=cHb p l s.args (cFa l s.name)
def cG9(p:cK)(l:List cFc)(al:List eN)(op:Int):Option cFc -> cFw
 |none=>⟨op,0,false,.zero,plZ,[],[]⟩
 |some v=>if v.kind=3 then (if (cGc p v.n).length=al.length then ⟨op,v.n,false,.zero,plZ,cFn l (cGb al (cGc p v.n)),cF4 l (cGb al (cGc p v.n))⟩ else ⟨op,v.n,false,.zero,plZ,[],[]⟩) else ⟨op,0,false,.zero,plZ,[],[]⟩
def cGn(p:cK)(l:List cFc)(s:aJ):cFw:=cG9 p l s.args (if s.kind=4 then 3 else 2) (cFa l s.name)
structure LS where
 ents:List cFc
 locals:Nat
 n:Nat
 q:ES
 code:List cFw
 sites:List Int
def LS.put(x:LS)(i:cFw)(s:Nat):LS:=⟨x.ents,x.locals,x.n,x.q,x.code++[i],x.sites++[(s:Int)]⟩
def cFw.to(i:cFw)(t:Nat):cFw:=⟨i.op,t,i.global,i.expr,i.place,i.ints,i.places⟩
def LS.patch(x:LS)(b:Nat):LS:=⟨x.ents,x.locals,x.n,x.q,x.code.modify b (λi=>i.to x.code.length),x.sites⟩
def LS.beg(x:LS)(e:Nat):LS:=⟨x.ents,x.locals,x.n+1,cFg x.q e x.n,x.code,x.sites⟩
def cFv(l:List cFc)(s:ByteArray):Nat:=if (cFa l s).isSome then 5 else 0
def LS.var(x:LS)(s:ByteArray):LS:=⟨x.ents++[⟨s,4,x.locals⟩],x.locals+1,x.n,x.q,x.code,x.sites⟩
def opI(k:Int)(e:aH):cFw:=⟨k,0,false,e,plZ,[],[]⟩
def cFu(p:cK)(s:aJ)(x:LS):LS:=
 if s.kind=1 then ((x.beg (cFj (cFv x.ents s.name) (cFf x.ents s.expr))).put ⟨1,x.locals,false,cFk x.ents s.expr,plZ,[],[]⟩ x.n).var s.name
 else if s.kind=2 then (x.beg (cFj (cGq x.ents s.name) (cFf x.ents s.expr))).put ⟨1,(cFb x.ents s.name).n,decide ((cFb x.ents s.name).kind=1),cFk x.ents s.expr,plZ,[],[]⟩ x.n
 else if s.kind=3∨s.kind=4 then (x.beg (cFy p x.ents s)).put (cGn p x.ents s) x.n
 else if s.kind=5 then (x.beg (cGo p x.ents s.ref)).put ⟨4,0,false,.zero,cG6 x.ents s.ref,[],[]⟩ x.n
 else if s.kind=6 then (x.beg (cGo p x.ents s.ref)).put ⟨5,0,false,.zero,cG6 x.ents s.ref,[],[]⟩ x.n
 else (x.beg 0).put (opI 8 .zero) x.n
def LS.branch(x:LS)(e:aH):LS:=(x.beg (cFf x.ents e)).put (opI 6 (cFk x.ents e)) x.n
def LS.back(x:LS)(y:LS):LS:=⟨x.ents,y.locals,y.n,y.q,y.code,y.sites⟩
mutual
def cFs(p:cK):aJ -> LS -> LS
 |.mk k name e r args t f,x=>
  if k=7 then
   (if f.length=0 then ((x.branch e).back (cFe p t (x.branch e))).patch x.code.length
    else (LS.back x (cFe p f ((((x.branch e).back (cFe p t (x.branch e))).put (opI 7 .zero) x.n).patch x.code.length))).patch (cFe p t (x.branch e)).code.length)
  else if k=8 then (((x.branch e).back (cFe p t (x.branch e))).put ⟨7,x.code.length,false,.zero,plZ,[],[]⟩ x.n).patch x.code.length
  else cFu p (.mk k name e r args t f) x
def cFe(p:cK):List aJ -> LS -> LS
 |[],x=>x
 |s::l,x=>cFe p l (cFs p s x)
end
def cRs(p:cK)(l:List aJ)(x:LS):LS:=x.back (cFe p l x)
theorem cFz(p:cK)(s:aJ)(x:LS):cFs p s x=if s.kind=7 then
   (if s.els.length=0 then (cRs p s.thn (x.branch s.expr)).patch x.code.length
    else (cRs p s.els (((cRs p s.thn (x.branch s.expr)).put (opI 7 .zero) x.n).patch x.code.length)).patch (cRs p s.thn (x.branch s.expr)).code.length)
  else if s.kind=8 then ((cRs p s.thn (x.branch s.expr)).put ⟨7,x.code.length,false,.zero,plZ,[],[]⟩ x.n).patch x.code.length
  else cFu p s x:=by
 obtain ⟨k,n,e,r,a,t,f⟩:=s
 rw [cFs];rfl
def cFd(p:cK):List cFc:=p.globals.mapIdx (λi g=>⟨g.name,1,i⟩)++(p.mutexes.mapIdx (λi m=>⟨m.name,2,i⟩)++p.funcs.mapIdx (λi f=>⟨f.name,3,i⟩))
def cG0:List cFc -> List cFc -> Option Nat
 |_,[]=>none
 |l,x::r=>if (cFa l x.name).isSome then some l.length else cG0 (l++[x]) r
def cGd:List aS -> List cFc -> Nat -> Nat -> Option (List cFc×Nat×Nat)
 |[],l,i,m=>some (l,i,m)
 |x::r,l,i,m=>if (cFa l x.name).isSome then none else if x.mutex then cGd r (l++[⟨x.name,5,m⟩]) i (m+1) else cGd r (l++[⟨x.name,4,i⟩]) (i+1) m
def LS.init(l:List cFc)(i:Nat):LS:=⟨l,i,0,(0,0),[],[]⟩
def cJg(p:cK)(f:bS)(l:List cFc)(i:Nat):LS:=(cRs p f.body (LS.init l i)).put (opI 8 .zero) (cRs p f.body (LS.init l i)).n
def cGk(p:cK)(f:bS):ES:=match cGd f.params (cFd p) 0 0 with
 |none=>(5,-1)
 |some (l,i,_)=>(cJg p f l i).q
structure cI1 where
 name:ByteArray
 ints:Nat
 locks:Nat
 locals:Nat
 code:List cFw
def cGe(p:cK)(f:bS):cI1:=match cGd f.params (cFd p) 0 0 with
 |none=>⟨aK,0,0,0,[]⟩
 |some (l,i,m)=>⟨f.name,i,m,(cJg p f l i).locals,(cJg p f l i).code⟩
def cGh(p:cK):List bS -> Nat -> Int×Int×Nat
 |[],_=>(0,0,0)
 |f::r,i=>if (cGk p f).1=0 then cGh p r (i+1) else (i,(cGk p f).2,(cGk p f).1)
def cFl:ByteArray:=⟨#[109,97,105,110]⟩
def cHa(p:cK):Bool:=match cFa (cFd p) cFl with
 |none=>false
 |some v=>decide (v.kind=3) && decide ((cGc p v.n).length=0)
def cFx(p:cK):Int×Int×Nat:=
 if jI p=false then (-1,-1,10) else
 match cG0 [] (cFd p) with
 |some i=>(-1,i,5)
 |none=>if cHa p then cGh p p.funcs 0 else (-1,-1,9)
end
section
theorem cGu(l:List cFc)(x:cFc)(s:ByteArray):cFa (l++[x]) s=match cFa l s with|some v=>some v|none=>if x.name=s then some x else none:=by
 induction l with
 |nil=>rfl
 |cons y l ih=>
  rw [List.cons_append,cFa,cFa]
  by_cases h:y.name=s
  ·rw [if_pos h,if_pos h]
  rw [if_neg h,if_neg h,ih]
theorem cHo.app{p:cK}{l:List cFc}(h:cHo p l){x:cFc}(h2:x.kind≠2)(h3:x.kind≠3):cHo p (l++[x]):=by
 refine ⟨λs v hv hk=>?_,λs v hv hk=>?_⟩
 ·rw [cGu] at hv
  split at hv
  ·rename_i hf;cases hv;exact h.ms s _ hf hk
  split at hv
  ·cases hv;exact absurd hk h2
  cases hv
 rw [cGu] at hv
 split at hv
 ·rename_i hf;cases hv;exact h.fs s _ hf hk
 split at hv
 ·cases hv;exact absurd hk h3
 cases hv
structure RmL (p:cK) (x:LS) (w:Nat):Prop where
 ents:cHo p x.ents
 code:x.code.length+3*w <= 100000000
 sites:x.sites.length=x.code.length
 n:x.n+w <= 100000000
 loc:x.locals+w <= 100000000
 el:x.ents.length+w <= 100000000
section
variable {p:cK}{x:LS}{w:Nat}
theorem RmL.mono{w':Nat}(h:RmL p x w)(hw:w' <= w):RmL p x w':=⟨h.ents,by have:=h.code;omega,h.sites,by have:=h.n;omega,by have:=h.loc;omega,by have:=h.el;omega⟩
theorem RmL.beg(h:RmL p x (w+1))(e:Nat):RmL p (x.beg e) w /\ (x.beg e).code.length+3+3*w <= 100000000:=by
 have h1:=h.code
 exact ⟨⟨h.ents,by show x.code.length+3*w <= _;omega,h.sites,by have:=h.n;show x.n+1+w <= _;omega,by have:=h.loc;show x.locals+w <= _;omega,by have:=h.el;show x.ents.length+w <= _;omega⟩,by show x.code.length+3+3*w <= _;omega⟩
theorem RmL.put(h:RmL p x w)(hc:x.code.length+1+3*w <= 100000000)(i:cFw)(s:Nat):RmL p (x.put i s) w:=
 ⟨h.ents,by show (x.code++[i]).length+_ <= _;rw [length_append];simp only [length_cons,length_nil];omega,by show (x.sites++[(s:Int)]).length=(x.code++[i]).length;rw [length_append,length_append,h.sites];rfl,h.n,h.loc,h.el⟩
theorem cF1(i:cFw)(s:Nat):(x.put i s).code.length=x.code.length+1:=by show (x.code++[i]).length=_;rw [length_append];rfl
theorem cFp(b:Nat):(x.patch b).code.length=x.code.length:=by show (x.code.modify b _).length=_;rw [List.length_modify]
theorem RmL.patch(h:RmL p x w)(b:Nat):RmL p (x.patch b) w:=⟨h.ents,by rw [cFp];exact h.code,by rw [cFp];exact h.sites,h.n,h.loc,h.el⟩
theorem RmL.back{y:LS}(h:RmL p x w)(hy:RmL p y w):RmL p (x.back y) w:=⟨h.ents,hy.code,hy.sites,hy.n,hy.loc,h.el⟩
theorem RmL.branch(h:RmL p x (w+1))(e:aH):RmL p (x.branch e) w /\ (x.branch e).code.length+2+3*w <= 100000000:=by
 obtain ⟨h1,h2⟩:=h.beg (cFf x.ents e)
 refine ⟨h1.put J _ _,?_⟩
 unfold LS.branch;rw [cF1];omega
end
end
section
structure MR (gs ms fs lk lo:Vis) (l:List cFc):Prop where
 lo:∀s,bZu lo s=(match cFa l s with|some v=>if v.kind=4 then some ((v.n:Nat):Int) else none|none=>none)
 lk:∀s,bZu lk s=(match cFa l s with|some v=>if v.kind=5 then some ((v.n:Nat):Int) else none|none=>none)
 gs:∀s v,cFa l s=some v -> v.kind=1 -> bZu gs s=some ((v.n:Nat):Int)
 ms:∀s v,cFa l s=some v -> v.kind=2 -> bZu ms s=some ((v.n:Nat):Int)
 fs:∀s v,cFa l s=some v -> v.kind=3 -> bZu fs s=some ((v.n:Nat):Int)
section
variable {gs ms fs lk lo:Vis}{l:List cFc}
theorem cR7{a b:Nat}(h:cFj a b=0):a=0 /\ b=0:=by
 unfold cFj at h
 split at h
 ·exact ⟨Dp,h⟩
 omega
end
end
section
open Go.RowKit
def bSy(ops:Array Oper)(m:Nat):Array Oper:=(ops.toList.take m).toArray
def bT0(ops:Array Oper)(j:Nat):List Nat:=match ops.toList[j]? with
 |none=>[]
 |some o=>o.after.toList.filterMap λe=>if Region.binds .any e then some e.on else none
def bUu(ops:Array Oper):Nat -> List Nat -> List Nat
 |0,c=>c
 |n+1,c=>bUu ops n (c++c.flatMap (bT0 ops))
theorem bUe{ops:Array Oper}{L:Nat -> Prop}(h:∀i o,ops[i]?=some o -> L i -> ∀e∈o.after,Region.binds .any e=true -> L e.on):∀(n:Nat)(c:List Nat),(∀x,x∈c -> L x) -> ∀x,x∈bUu ops n c -> L x
 |0,_,hc=>hc
 |n+1,c,hc=>bUe h n _ λx hx=>by
  rcases mem_append.1 hx with hx|hx
  ·exact hc x hx
  obtain ⟨y,hy,hxy⟩:=List.mem_flatMap.1 hx
  unfold bT0 at hxy
  rw [Array.getElem?_toList] at hxy
  cases ho:ops[y]? with
  |none=>rw [ho] at hxy;cases hxy
  |some o=>
   rw [ho] at hxy
   obtain ⟨e,he,h2⟩:=List.mem_filterMap.1 hxy
   split at h2
   ·rename_i hb
    cases h2
    exact h y o ho (hc y hy) e (by simpa using he) hb
   cases h2
def bUz(ops:Array Oper)(m:Nat):Bool:=(List.range ops.size).all λi=>match ops.toList[i]? with
 |none=>true
 |some o=>if i<m then o.guard.isNone && o.after.toList.all (λe=>!Region.binds .any e||decide (e.on<i)) else (List.range m).all λj=>(bUu ops 2 (bT0 ops i)).contains j
theorem bT1{P:Program}{md:Region.Mode}{ops:Array Oper}{Q:Exit -> Act -> World -> Prop}:∀(f:Nat)(l:Array Bool)(a:Act)(w:World),wpAny P md ops Q f l a w -> wpAny P md ops Q (f+1) l a w
 |0,_,_,_,h=>⟨λ_=>h.2,λi hi=>by rw [h.1] at hi;cases hi⟩
 |f+1,_,_,_,h=>⟨h.1,λi hi=>wpOp_mono (λa' w' h'=>bT1 f _ a' w' h') (h.2 i hi)⟩
theorem bTs{P:Program}{md:Region.Mode}{ops:Array Oper}{Q:Exit -> Act -> World -> Prop}(f:Nat)(l:Array Bool)(a:Act)(w:World)(h:wpAny P md ops Q f l a w):∀n,wpAny P md ops Q (n+f) l a w
 |0=>by rw [Nat.zero_add];exact h
 |n+1=>by rw [show n+1+f=(n+f)+1 by omega];exact bT1 _ _ _ _ (bTs f l a w h n)
theorem bS4{ops:Array Oper}{m i:Nat}:(bSy ops m)[i]?=if i<m then ops[i]? else none:=by
 unfold bSy
 rw [List.getElem?_toArray,List.getElem?_take,Array.getElem?_toList]
theorem bUp{P:Program}{ops:Array Oper}{Q Q1:Exit -> Act -> World -> Prop}{m f2:Nat}{D:Array Bool}(hc:bUz ops m=true)(hm:m <= ops.size)(hDt:∀j,j<m -> D[j]?=some true)
  (hn:∀a w,Q1 .normal a w -> wpAny P .any ops Q f2 D a w) (hq:∀e a w,e≠.normal -> Q1 e a w -> Q e a w):∀(f:Nat)(l1 l:Array Bool)(a:Act)(w:World),l1.size=m -> l.size=D.size -> m <= D.size -> (∀j,j<m -> l[j]?=l1[j]?) -> (∀j,m <= j -> l[j]?=D[j]?) -> (∀i o,ops[i]?=some o -> l.getD i false=true -> ∀e∈o.after,Region.binds .any e=true -> l.getD e.on false=true) ->
   wpAny P .any (bSy ops m) Q1 f l1 a w -> wpAny P .any ops Q (f+f2) l a w:=by
 have hcs:∀i o,ops[i]?=some o -> if i<m then o.guard=none /\ (∀e∈o.after,Region.binds .any e=true -> e.on<i) else ∀j,j<m -> j∈bUu ops 2 (bT0 ops i):=by
  intro i o ho
  have hi:i<ops.size:=(Array.getElem?_eq_some_iff.1 ho).1
  have h9:=List.all_eq_true.1 hc i (List.mem_range.2 hi)
  rw [Array.getElem?_toList,ho] at h9
  dsimp only at h9
  by_cases him:i<m
  ·rw [if_pos him] at h9⊢
   simp only [Bool.and_eq_true,List.all_eq_true,Bool.or_eq_true,Bool.not_eq_true',decide_eq_true_eq,Option.isNone_iff_eq_none] at h9
   exact ⟨h9.1,λe he hb=>(h9.2 e (by simpa using he)).resolve_left (by rw [hb];decide)⟩
  rw [if_neg him] at h9⊢
  intro j hj
  have h8:=List.all_eq_true.1 h9 j (List.mem_range.2 hj)
  simpa using h8
 have over:∀(l1 l:Array Bool),l1.size=m -> m <= ops.size -> (∀j,j<m -> l[j]?=l1[j]?) -> Region.ready .any (bSy ops m) l1=[] -> ∀j,j<m -> l1[j]?=some true:=by
  intro l1 l hs hm hl hr j
  induction j using Nat.strongRecOn with
  |_ j ih=>
   intro hj
   by_cases h:l1.getD j true=false
   ·exfalso
    have hop:(bSy ops m)[j]?=some (ops[j]'(by omega)):=by rw [bS4,if_pos hj,Array.getElem?_eq_getElem]
    have hin:j∈Region.ready .any (bSy ops m) l1:=by
     refine mem_ready.2 ⟨h,_,hop,λe he hb=>?_⟩
     have h2:=hcs j _ (Array.getElem?_eq_getElem (J:j<ops.size))
     rw [if_pos hj] at h2
     have h3:=h2.2 e he hb
     have h4:=ih e.on h3 J
     simp [Array.getD_eq_getD_getElem?,h4]
    rw [hr] at hin;cases hin
   have hj2:j<l1.size:=J
   rw [Array.getElem?_eq_getElem hj2]
   simp only [Array.getD_eq_getD_getElem?,Array.getElem?_eq_getElem hj2,Option.getD_some] at h
   simpa using h
 have same:∀(l1 l:Array Bool),l1.size=m -> l.size=D.size -> (∀j,j<m -> l[j]?=l1[j]?) -> (∀j,m <= j -> l[j]?=D[j]?) -> Region.ready .any (bSy ops m) l1=[] -> l=D:=by
  intro l1 l hs1 hs2 he1 he2 hr
  refine Array.ext_getElem? λj=>?_
  by_cases hj:j<m
  ·rw [he1 j hj,over l1 l hs1 hm he1 hr j hj,hDt j hj]
  exact he2 j J
 have getD_eq:∀(l1 l:Array Bool)(j:Nat)(d:Bool),l[j]?=l1[j]? -> l.getD j d=l1.getD j d:=λl1 l j d h=>by
  rw [Array.getD_eq_getD_getElem?,Array.getD_eq_getD_getElem?,h]
 intro f
 induction f with
 |zero=>
  intro l1 l a w hs1 hs2 hmD he1 he2 hcl H
  rw [Nat.zero_add,same l1 l hs1 hs2 he1 he2 H.1]
  exact hn a w H.2
 |succ f ih=>
  intro l1 l a w hs1 hs2 hmD he1 he2 hcl H
  by_cases hr:Region.ready .any (bSy ops m) l1=[]
  ·rw [same l1 l hs1 hs2 he1 he2 hr]
   exact bTs f2 _ _ _ (hn a w (H.1 hr)) (f+1)
  obtain ⟨k,hk⟩:=List.exists_mem_of_ne_nil _ hr
  obtain ⟨hku,ok,hok,hkall⟩:=mem_ready.1 hk
  have hkm:k<m:=by
   by_cases h:k<m
   ·exact h
   rw [bS4,if_neg h] at hok;cases hok
  rw [bS4,if_pos hkm] at hok
  have hk1:l1[k]?=some false:=by
   have hks:k<l1.size:=J
   rw [Array.getD_eq_getD_getElem?,Array.getElem?_eq_getElem hks] at hku
   rw [Array.getElem?_eq_getElem hks];simpa using hku
  rw [show f+1+f2=(f+f2)+1 by omega]
  refine ⟨λh0=>?_,λi hi=>?_⟩
  ·exfalso
   have hin:k∈Region.ready .any ops l:=by
    refine mem_ready.2 ⟨by rw [getD_eq l1 l k true (he1 k hkm)];exact hku,ok,hok,λe he hb=>?_⟩
    have h2:=hcs k ok hok
    rw [if_pos hkm] at h2
    have h3:=h2.2 e he hb
    rw [getD_eq l1 l e.on false (he1 _ J)]
    exact hkall e he hb
   rw [h0] at hin;cases hin
  obtain ⟨hiu,o,ho,hall⟩:=mem_ready.1 hi
  have h2:=hcs i o ho
  by_cases him:i<m
  ·rw [if_pos him] at h2
   have ho1:(bSy ops m)[i]?=some o:=by rw [bS4,if_pos him];exact ho
   have hi1:i∈Region.ready .any (bSy ops m) l1:=by
    refine mem_ready.2 ⟨by rw [←getD_eq l1 l i true (he1 i him)];exact hiu,o,ho1,λe he hb=>?_⟩
    have h3:=h2.2 e he hb
    rw [←getD_eq l1 l e.on false (he1 _ J)]
    exact hall e he hb
   have h4:=H.2 i hi1
   have hw:∀y,Region.wanted o y=true:=λy=>by unfold Region.wanted;rw [h2.1]
   unfold wpOp at h4⊢
   rw [ho1] at h4
   rw [ho]
   dsimp only at h4⊢
   rw [if_pos (hw _)] at h4⊢
   have hL:LetsOut Q1 -> LetsOut Q:=λ⟨a,w,h⟩=>⟨a,w,hq _ a w G0 h⟩
   rcases h4 with h4|⟨h5,h6⟩
   ·refine .inl (Oper.wp_mono2 (λa' w' h'=>ih (l1.setIfInBounds i true) (l.setIfInBounds i true) a' w' (by simpa using hs1) (by simpa using hs2) hmD (λj hj=>?_) (λj hj=>?_) (λq oq hoq hlq e he hb=>?_) h') hq hL h4)
    ·rw [Array.getElem?_setIfInBounds,Array.getElem?_setIfInBounds]
     by_cases hij:i=j
     ·rw [if_pos hij,if_pos hij,if_pos J,if_pos J]
     rw [if_neg hij,if_neg hij];exact he1 j hj
    ·rw [Array.getElem?_setIfInBounds,if_neg J];exact he2 j hj
    have hup:∀z,l.getD z false=true -> (l.setIfInBounds i true).getD z false=true:=λz hz=>by
     rw [Array.getD_eq_getD_getElem?] at hz⊢
     rw [Array.getElem?_setIfInBounds]
     split
     ·split
      ·rfl
      rw [Array.getElem?_eq_none J] at hz;cases hz
     exact hz
    by_cases hqi:i=q
    ·subst hqi
     obtain rfl:=Option.some.inj (ho.symm.trans hoq)
     exact hup _ (hall e he hb)
    refine hup _ (hcl q oq hoq ?_ e he hb)
    rw [Array.getD_eq_getD_getElem?,Array.getElem?_setIfInBounds,if_neg hqi] at hlq
    rw [Array.getD_eq_getD_getElem?];exact hlq
   exact .inr ⟨h5,hL h6⟩
  exfalso
  rw [if_neg him] at h2
  have h3:l.getD k false=true:=bUe (L:=λz=>l.getD z false=true) hcl 2 _ (λx hx=>by
   unfold bT0 at hx
   rw [Array.getElem?_toList,ho] at hx
   obtain ⟨e,he,h2⟩:=List.mem_filterMap.1 hx
   split at h2
   ·rename_i hb
    cases h2
    exact hall e (by simpa using he) hb
   cases h2) k (h2 k hkm)
  rw [getD_eq l1 l k false (he1 k hkm),Array.getD_eq_getD_getElem?,hk1] at h3
  cases h3
theorem bT3{P:Program}{id:Nat}{ops:Array Oper}{st:AS}{Q:Exit -> AS -> Prop}(m:Nat)(Z1 Z2:List Nat)(D:Array Bool)(hm:P.follows .mixedOrders=true)(hc:(bUz ops m,decide (m <= ops.size),decide (D.size=ops.size),(List.range m).all (λj=>D[j]? == some true),(List.range ops.size).all (λj=>decide (j<m)||D[j]? == some false))=(true,true,true,true,true))
  (h:lD P (bSy ops m) Z1 m (Array.replicate m false) st (λst'=>lD P ops Z2 (ops.size-m) D st' (Q .normal))):AWp P (.region id ops true) st Q:=by
 simp only [Prod.mk.injEq,decide_eq_true_eq,List.all_eq_true,List.mem_range,beq_iff_eq,Bool.or_eq_true] at hc
 obtain ⟨hc1,hc2,hc3,hc4,hc5⟩:=hc
 intro a w hs QQ hQ
 refine Code.wp_mono (Q:=λe a' w'=>match e with|.normal=>QQ .normal a' w'|_=>False) EB ?_
 refine wp_region_any hm ?_
 show wpAny P .any ops _ ops.size (Array.replicate ops.size false) a w.drew
 rw [show ops.size=m+(ops.size-m) by omega]
 refine bUp (Q1:=λe a' w'=>match e with|.normal=>∃st',lD P ops Z2 (ops.size-m) D st' (Q .normal) /\ Sim st' a' w' /\ Ext st w.drew st' w'|_=>False) (D:=D) hc1 hc2 hc4 ?_ ?_ m (Array.replicate m false) _ a w.drew G0 DR J (λj hj=>?_) (λj hj=>?_) (λi o _ h=>?_) ?_
 ·rintro a' w' ⟨st',h1,h2,h3⟩
  exact wpAny_of_held _ _ _ _ (h1 a' w' h2 _ (λ_ _ _ q=>q) λa2 w2 st2 q2 s2 k2=>hQ _ a2 w2 st2 q2 s2 (by
   have k:=h3.trans k2
   exact ⟨⟨k.keep.os,k.keep.tape,k.keep.output,k.keep.size,k.keep.block⟩,⟨k.keepT.os,k.keepT.tape,k.keepT.output,k.keepT.size,k.keepT.block⟩,k.bl,k.T⟩))
 ·intro e a' w' he q
  cases e with
  |normal=>exact absurd rfl he
  |_=>exact q.elim
 ·rw [Array.getElem?_replicate,Array.getElem?_replicate,if_pos J,if_pos hj]
 ·rw [Array.getElem?_replicate]
  by_cases hjn:j<ops.size
  ·rw [if_pos J,(hc5 j hjn).resolve_left J]
  rw [if_neg J,Array.getElem?_eq_none J]
 ·exfalso
  rw [Array.getD_eq_getD_getElem?,Array.getElem?_replicate] at h
  split at h<;>cases h
 exact wpAny_of_held _ _ _ _ (h a w.drew hs.drew _ (λ_ _ _ q=>q) λa' w' st' q s' k=>⟨st',q,s',k⟩)
theorem bTy{P:Program}{id:Nat}{l l1 l2:List Oper}{st:AS}{Q:Exit -> AS -> Prop}(m:Nat)(Z1 Z2:List Nat)(D:Array Bool)[hs:vT m l l1 l2](hm:P.follows .mixedOrders=true)(hc:(bUz l.toArray m,decide (m <= l.toArray.size),decide (D.size=l.toArray.size),(List.range m).all (λj=>D[j]? == some true),(List.range l.toArray.size).all (λj=>decide (j<m)||D[j]? == some false))=(true,true,true,true,true))(h1:l1.length=m)
  (h:lD P l1.toArray Z1 m (Array.replicate m false) st (λst'=>lD P l.toArray Z2 (l.toArray.size-m) D st' (Q .normal))):AWp P (.region id l.toArray true) st Q:=by
 refine bT3 m Z1 Z2 D hm hc ?_
 rw [show bSy l.toArray m=l1.toArray by unfold bSy;rw [hs.h];simp only;rw [List.take_left' h1]]
 exact h
class cFh (v:Value) (T:List Nat):Prop where h:∀b,b∈aY v -> b∈T
instance (priority:=1200) rbIn_hit{v:Value}{T:List Nat}:cFh v (aY v++T):=⟨λ_ hb=>List.mem_append_left _ hb⟩
instance (priority:=1200) rbIn_self{v:Value}:cFh v (aY v):=⟨λ_ hb=>hb⟩
instance (priority:=1300) rbIn_none{T:List Nat}:cFh (.slice none 0 0) T:=⟨λb hb=>DF⟩
instance (priority:=1300) rbIn_lit{g n c:Nat}{T:List Nat}[h:InL g T]:cFh (.slice (some ⟨g,0,none⟩) n c) T:=⟨λb hb=>by
 simp only [aY,Value.ownBlock,Option.toList,mem_cons,not_mem_nil,or_false] at hb
 rw [hb];exact h.h⟩
instance cL6{v:Value}{X T:List Nat}[h:cFh v T]:cFh v (X++T):=⟨λb hb=>List.mem_append_right _ (h.h b hb)⟩
instance cLx{v:Value}{X T:List Nat}[h:cFh v X]:cFh v (X++T):=⟨λb hb=>List.mem_append_left _ (h.h b hb)⟩
instance cLw{v:Value}{x:Nat}{T:List Nat}[h:cFh v T]:cFh v (x::T):=⟨λb hb=>List.mem_cons_of_mem _ (h.h b hb)⟩
instance cNf{x:cFc}:cZr (cE9 x) 3:=⟨rfl⟩
instance cM8{x:cG5}:cZr (cF7 x) 3:=⟨rfl⟩
instance cN8{x:cFw}:cZr (encI x) 12:=⟨rfl⟩
instance cL2{x:cFc}:iY (cE9 x) [Vs x.name,Vi x.kind,nC x.n]:=⟨rfl⟩
instance cMf{x:cG5}:iY (cF7 x) [Vb x.param,nC x.index,Sq fO x.at_]:=⟨rfl⟩
instance cMw{x:cFw}:iY (encI x) [Vi x.op,nC x.target,Vb x.global,Vi x.expr.op,Vi x.expr.num,Vs x.expr.name,Sq fO x.expr.args,Vb x.place.param,nC x.place.index,Sq fO x.place.at_,Sq fO x.ints,Sq cF7 x.places]:=⟨rfl⟩
theorem cG2{P:Program}{α:Type}{x y:Code}{st:AS}{Q:Exit -> AS -> Prop}(F:α -> AS)(h1:AWp P x st (sU (λs=>∃a,Sub s (F a)) Q))(h2:∀a,AWp P y (F a) Q):AWp P (.seq x y) st Q:=
 aHp (sE h1 λe s h=>by
  cases e with
  |normal=>obtain ⟨a,ha⟩:=h;exact zU ha (h2 a)
  |_=>exact h)
end
end Go.Proofs.YtjgeihmhppadaaaGreatDoor
