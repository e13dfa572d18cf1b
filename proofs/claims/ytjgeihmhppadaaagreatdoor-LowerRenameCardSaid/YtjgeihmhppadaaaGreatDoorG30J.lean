import Derived.Test.YtjgeihmhppadaaaGreatDoorG29J
set_option linter.all false
set_option synthInstance.maxHeartbeats 1000000
set_option synthInstance.maxSize 1000000
namespace Go.Proofs.YtjgeihmhppadaaaGreatDoor
open List (length_append length_cons length_nil mem_append mem_cons not_mem_nil append_assoc getElem_mem take_of_length_le)
section
theorem dV{s:ByteArray}(h:bQ s=true):s.size <= 16:=by
 unfold bQ at h
 split at h
 ·cases h
 simp only [Bool.and_eq_true,decide_eq_true_eq] at h;exact h.1.2
theorem eT.nodes{names:List ByteArray}{d:Nat}{e:aH}(h:eT names d e):e.nodes+3 <= 4*2 ^ d:=by
 induction h with
 |@name d x h=>rw [aH.nodes,cZ];have:=Nat.one_le_two_pow (n:=d);omega
 |@num d n h0 h1=>rw [aH.nodes,cZ];have:=Nat.one_le_two_pow (n:=d);omega
 |@un d op e ho he ih=>rw [aH.nodes,cZ,cZ,Nat.pow_succ];have:=Nat.one_le_two_pow (n:=d);omega
 |@bin d op a b h0 h1 ha hb iha ihb=>rw [aH.nodes,cZ,cZ,cZ,Nat.pow_succ];have:=Nat.one_le_two_pow (n:=d);omega
theorem eT.tame{names:List ByteArray}{d:Nat}{e:aH}(hn:∀x,x∈names -> bQ x=true)(h:eT names d e):e.tame:=by
 induction h with
 |@name d x h=>rw [aH.tame];exact ⟨V,Nat.le_trans (dV (hn x h)) V,by rw [oG];trivial⟩
 |@num d n h0 h1=>rw [aH.tame];exact ⟨J,V,by rw [oG];trivial⟩
 |@un d op e ho he ih=>rw [aH.tame];exact ⟨V,V,by rw [oG,oG];exact ⟨ih,trivial⟩⟩
 |@bin d op a b h0 h1 ha hb iha ihb=>rw [aH.tame];exact ⟨V,V,by rw [oG,oG,oG];exact ⟨iha,ihb,trivial⟩⟩
theorem sX{op:Int}(h0:5 <= op)(h1:op <= 17):aM op<5:=by
 unfold aM
 repeat' split
 all_goals omega
theorem aDj{op:Int}(h:op=3∨op=4):aM op=5:=by
 rcases h with rfl|rfl<;>rfl
theorem eT.shape{names:List ByteArray}{d:Nat}{e:aH}(hn:∀x,x∈names -> bQ x=true)(h:eT names d e):eO e=true:=by
 induction h with
 |@name d x h=>
  rw [eO,dY,show aM 2=6 from rfl,if_pos rfl,jG,arity,show aM 2=6 from rfl,if_pos rfl,hn x h];simp
 |@num d n h0 h1=>
  rw [eO,dY,show aM 1=6 from rfl,if_pos rfl,jG,arity,show aM 1=6 from rfl,if_pos rfl];simp [h0]
 |@un d op e ho he ih=>
  have hs:=aDj ho
  rw [eO,dY,dY,arity,hs,if_neg V,if_neg V,if_pos rfl,ih];simp
 |@bin d op a b h0 h1 ha hb iha ihb=>
  have hs:=sX h0 h1
  rw [eO,dY,dY,dY,arity,if_neg J,if_neg J,if_neg J,iha,ihb];simp
theorem eT.height{names:List ByteArray}{d:Nat}{e:aH}(h:eT names d e):dI e <= 2*d:=by
 induction h with
 |@name d x h=>rw [dI,bSm,if_neg V];omega
 |@num d n h0 h1=>rw [dI,bSm,if_neg V];omega
 |@un d op e ho he ih=>rw [dI,bSm,bSm];split<;>split<;>omega
 |@bin d op a b h0 h1 ha hb iha ihb=>rw [dI,bSm,bSm,bSm];split<;>split<;>split<;>omega
theorem eT.valid{names:List ByteArray}{d:Nat}{e:aH}(hn:∀x,x∈names -> bQ x=true)(h:eT names d e)(hd:d <= 12):dM e=true:=by
 rw [dM,h.shape hn,Bool.true_and,decide_eq_true_eq];have:=h.height;omega
theorem eT.sane{names:List ByteArray}{d:Nat}{e:aH}(hn:∀x,x∈names -> bQ x=true)(h:eT names d e):e.sane:=by
 induction h with
 |@name d x h=>rw [aH.sane];exact ⟨F4,Nat.le_trans (dV (hn x h)) V,by rw [iI];trivial⟩
 |@num d n h0 h1=>rw [aH.sane];exact ⟨F4,V,by rw [iI];trivial⟩
 |@un d op e ho he ih=>rw [aH.sane];exact ⟨F4,V,by rw [iI,iI];exact ⟨ih,trivial⟩⟩
 |@bin d op a b h0 h1 ha hb iha ihb=>rw [aH.sane];exact ⟨F4,V,by rw [iI,iI,iI];exact ⟨iha,ihb,trivial⟩⟩
theorem rQ{n:Int}(h0:-9223372036854775808 <= n)(h1:n <= 9223372036854775807):(eH n).length <= 21:=by
 have:=kC n.natAbs J
 unfold eH
 split<;>simp<;>omega
theorem eT.len{names:List ByteArray}{d:Nat}{e:aH}(hn:∀x,x∈names -> bQ x=true)(h:eT names d e):(aP e).length+10 <= 31*2 ^ d:=by
 induction h with
 |@name d x h=>
  have h1:=dV (hn x h)
  have h2:x.data.toList.length=x.size:=Y
  rw [aP,iX,if_neg V,if_pos rfl];have:=Nat.one_le_two_pow (n:=d);omega
 |@num d n h0 h1=>
  have:=rQ (n:=n) J J
  rw [aP,iX,if_pos rfl];have:=Nat.one_le_two_pow (n:=d);omega
 |@un d op e ho he ih=>
  rw [aP,dP,dP,Nat.pow_succ]
  have hl:∀x:List UInt8,(iX op 0 aK [x]).length=x.length+1:=by
   intro x;rcases ho with rfl|rfl<;>simp [iX]
  rw [hl]
  have:=Nat.one_le_two_pow (n:=d)
  split
  ·simp only [length_append,length_cons,length_nil];omega
  ·omega
 |@bin d op a b h0 h1 ha hb iha ihb=>
  rw [aP,dP,dP,dP,Nat.pow_succ]
  have hs:=sX h0 h1
  have ho:=aAr op
  have hl:∀x y:List UInt8,(iX op 0 aK [x,y]).length=x.length+1+(iW op).length+1+y.length:=by
   intro x y;rw [iX,if_neg J,if_neg J,if_neg J,if_neg J,if_pos hs];simp;omega
  rw [hl]
  split<;>split<;>(try simp only [length_append,length_cons,length_nil])<;>omega
end
section
theorem aH.zero_sane:aH.zero.sane:=by unfold aH.zero;rw [aH.sane];exact ⟨F4,V,by rw [iI];trivial⟩
theorem cY.zero_sane:cY.zero.sane:=⟨V,F8⟩
theorem aH.zero_nodes:aH.zero.nodes=1:=by unfold aH.zero;rw [aH.nodes,cZ]
theorem cY.zero_wt:cY.zero.wt=1:=by unfold cY.wt cY.zero;rw [cZ]
def lC(l:List ByteArray):Prop:=∀x,x∈l -> bQ x=true
theorem cZt:bLg .zero=true:=by simp [bLg,aH.zero,aH.op,aH.num,aH.name,aH.args]
theorem jN:kM .zero=true:=by simp [kM,cY.zero]
section
variable {ms:List cL}{fs:List Sig}{ps:List aS}
theorem uA.ok{vars:List ByteArray}{r:cY}(hm:∀m,m∈ms -> bQ m.name=true)(hp:∀x,x∈ps -> bQ x.name=true)(hv:lC vars)(h:uA ms ps vars r):
  okRefB r=true /\ (r.sane /\ r.wt <= 7) /\ (dC r).length <= 70:=by
 have size:∀x:ByteArray,bQ x=true -> x.data.toList.length <= 16:=λx h=>dV h
 cases h with
 |@arr m e h1 h2 he=>
  have hl:=he.len hv
  have:=size _ (hm m h1)
  refine ⟨by show (bQ m.name && dM e)=true;rw [hm m h1,he.valid hv J];rfl,⟨⟨Nat.le_trans (dV (hm m h1)) V,by show iI [e];rw [iI,iI];exact ⟨he.sane hv,trivial⟩⟩,by have:=he.nodes;unfold cY.wt;show 1+cZ [e] <= 7;rw [cZ,cZ];omega⟩,?_⟩
  ·simp only [dC,length_append,length_cons,length_nil];omega
 |@scalar m h1 h2=>
  have:=size _ (hm m h1)
  exact ⟨by show (bQ m.name && true)=true;rw [hm m h1];rfl,⟨⟨Nat.le_trans (dV (hm m h1)) V,F8⟩,Gw⟩,by simp only [dC];omega⟩
 |@param x h1 h2=>
  have:=size _ (hp x h1)
  exact ⟨by show (bQ x.name && true)=true;rw [hp x h1];rfl,⟨⟨Nat.le_trans (dV (hp x h1)) V,F8⟩,Gw⟩,by simp only [dC];omega⟩
theorem nO{α:Type}(f:α -> List UInt8)(x:α)(l:List α):(bW f (x::l)).length <= (f x).length+2+(bW f l).length:=by
 cases l with
 |nil=>simp [bW]
 |cons y r=>simp [bW];omega
theorem nB.ok{vars:List ByteArray}{l:List aS}{al:List eN}(hm:∀m,m∈ms -> bQ m.name=true)(hp:∀x,x∈ps -> bQ x.name=true)(hv:lC vars)(h:nB ms ps vars l al):
  al.all fY=true /\ ((∀a,a∈al -> a.sane) /\ wtA al <= 15*l.length) /\ al.length=l.length /\ (bW dE al).length <= 122*l.length:=by
 induction h with
 |nil=>exact ⟨rfl,⟨(λa h=>DU),by rw [wtA];simp⟩,rfl,FE⟩
 |@mutex x l al r hx hr h ih=>
  obtain ⟨i1,i2,i3,i4⟩:=ih
  obtain ⟨h1,h2,h3⟩:=hr.ok hm hp hv
  refine ⟨by rw [List.all_cons,i1,fY,if_pos rfl,h1,cZt];rfl,⟨?_,?_⟩,by simp [i3],?_⟩
  ·intro a ha
   rcases mem_cons.1 ha with rfl|ha
   ·exact ⟨h2.1,aH.zero_sane⟩
   exact i2.1 a ha
  ·have:=i2.2;have:=h2.2;rw [wtA];unfold eN.wt;rw [aH.zero_nodes,length_cons];show 1+r.wt+1+wtA al <= _;omega
  ·have:=nO dE ⟨true,r,.zero⟩ al
   have h4:(dE ⟨true,r,.zero⟩).length=6+(dC r).length:=by simp [dE];omega
   rw [length_cons];omega
 |@expr x l al e hx he h ih=>
  obtain ⟨i1,i2,i3,i4⟩:=ih
  have hl:=he.len hv
  refine ⟨by rw [List.all_cons,i1,fY,if_neg G0,jN,he.valid hv J];rfl,⟨?_,?_⟩,by simp [i3],?_⟩
  ·intro a ha
   rcases mem_cons.1 ha with rfl|ha
   ·exact ⟨cY.zero_sane,he.sane hv⟩
   exact i2.1 a ha
  ·have:=i2.2;have:=he.nodes;rw [wtA];unfold eN.wt;rw [cY.zero_wt,length_cons];show 1+1+e.nodes+wtA al <= _;omega
  have:=nO dE ⟨false,.zero,e⟩ al
  have h4:(dE ⟨false,.zero,e⟩).length=(aP e).length:=by simp [dE]
  rw [length_cons];omega
theorem aAe:∀left,left<24 -> bQ (cZk left)=true:=by
 intro left h
 have:(List.range 24).all (λk=>bQ (cZk k))=true:=B6
 exact List.all_eq_true.1 this left (List.mem_range.2 h)
end
theorem qL(D:Nat)(hD:D<24):∀(a b:List aJ),bM D (a++b)=(bM D a && bM D b)
 |[],b=>by rw [List.nil_append,bM,decide_eq_true hD,Bool.true_and]
 |s::r,b=>by rw [List.cons_append,bM,bM,qL D hD r b,Bool.and_assoc]
theorem uJ:∀(a b:List aJ),gC (a++b)↔gC a /\ gC b
 |[],b=>by rw [List.nil_append,gC];simp
 |s::r,b=>by rw [List.cons_append,gC,gC,uJ r b,and_assoc]
theorem aAn:∀(a b:List aJ),wtS (a++b)=wtS a+wtS b
 |[],b=>by rw [List.nil_append,wtS];omega
 |s::r,b=>by rw [List.cons_append,wtS,wtS,aAn r b];omega
theorem qZ:gC []:=by rw [gC];trivial
structure SOk (D:Nat) (tabs:List UInt8) (n:Nat) (s:aJ):Prop where
 ok:bK9 D s=true
 sane:s.sane
 wt:s.wt <= 60*n
 len:(bY tabs s).length <= 700*n
structure LOk (D:Nat) (tabs:List UInt8) (n:Nat) (l:List aJ):Prop where
 ok:bM D l=true
 sane:gC l
 wt:wtS l <= 60*n
 len:(aC tabs l).length <= 700*n
theorem LOk.cons{D n m k:Nat}{tabs:List UInt8}{s:aJ}{l:List aJ}(h:SOk D tabs n s)(hl:LOk D tabs m l)(hk:n+m <= k):LOk D tabs k (s::l):=
 ⟨by rw [bM,h.ok,hl.ok];rfl,by rw [gC];exact ⟨h.sane,hl.sane⟩,by rw [wtS];have:=h.wt;have:=hl.wt;omega,by rw [aC,length_append];have:=h.len;have:=hl.len;omega⟩
theorem LOk.cons'{D n m k:Nat}{tabs:List UInt8}{s:aJ}{l:List aJ}(hl:LOk D tabs m l)(h:SOk D tabs n s)(hk:n+m <= k):LOk D tabs k (s::l):=LOk.cons h hl hk
theorem LOk.nil{D n:Nat}{tabs:List UInt8}(hD:D<24):LOk D tabs n []:=
 ⟨by rw [bM];exact decide_eq_true hD,by rw [gC];trivial,by rw [wtS];omega,by rw [aC];simp⟩
section
variable {ms:List cL}{fs:List Sig}{ps:List aS}
theorem SOk.of{D n:Nat}{tabs:List UInt8}{k:Int}{name:ByteArray}{e:aH}{r:cY}{al:List eN}{t el:List aJ}
  (h0:1 <= k /\ k <= 9) (h1:(if 1 <= k /\ k <= 4 then bQ name else decide (name=aK))=true) (h2:(if k=1∨k=2∨k=7∨k=8 then dM e else bLg e)=true)
  (h3:(if k=5∨k=6 then okRefB r else kM r)=true) (h4:(decide (k=3∨k=4)||decide (al.length=0))=true) (h5:al.all fY=true)
  (h6:(if k=7∨k=8 then bM (D+1) t else decide (t.length=0))=true) (h7:(decide (el.length=0)||(decide (k=7) && bM (D+1) el))=true)
  (hf:(aJ.mk k name e r al t el).sane) (hc:(aJ.mk k name e r al t el).wt <= 60*n) (hl:(bY tabs (.mk k name e r al t el)).length <= 700*n):SOk D tabs n (.mk k name e r al t el):=
 ⟨by rw [bK9,decide_eq_true h0,h1,h2,h3,h4,h5,h6,h7];rfl,hf,hc,hl⟩
theorem aAo{x:ByteArray}(h:bQ x=true):x.data.toList.length <= 16:=dV h
theorem yA{D:Nat}{tabs:List UInt8}{vars:List ByteArray}{k:Int}{r:cY}(hk:k=5∨k=6)(ht:tabs.length <= 4)(hm:∀m,m∈ms -> bQ m.name=true)(hp:∀x,x∈ps -> bQ x.name=true)(hv:lC vars)(h:uA ms ps vars r):
  SOk D tabs 1 (.mk k aK .zero r [] [] []) /\ (bY tabs (.mk k aK .zero r [] [] [])).length <= 90:=by
 obtain ⟨h1,h2,h3⟩:=h.ok hm hp hv
 have hl:(bY tabs (.mk k aK .zero r [] [] [])).length <= 90:=by
  rw [bY]
  rcases hk with rfl|rfl<;>simp<;>omega
 refine ⟨SOk.of J (by rw [if_neg J];exact decide_eq_true rfl) (by rw [if_neg J];exact cZt) (by rw [if_pos hk];exact h1) G0 Y (by rw [if_neg J];rfl) G0 ?_ ?_ J,hl⟩
 ·rw [aJ.sane];exact ⟨V,aH.zero_sane,h2.1,F1,qZ,qZ⟩
 rw [gD];show 1+aH.zero.nodes+r.wt+wtA []+wtS []+wtS [] <= _;rw [aH.zero_nodes,wtA,wtS];have:=h2.2;omega
theorem dJ.ok{vars:List ByteArray}{deep left left':Nat}{l:List aJ}(hm:∀m,m∈ms -> bQ m.name=true)(hp:∀x,x∈ps -> bQ x.name=true)
  (hg:∀g,g∈fs -> bQ g.1=true /\ g.2.length <= 2) (h:dJ ms fs ps vars deep left l left'):
  lC vars -> left <= 24 -> ∀(D:Nat)(tabs:List UInt8),D+deep<24 -> tabs.length+deep <= 4 -> LOk D tabs (left-left') l:=by
 induction h with
 |nil=>intro _ _ D tabs hD _;exact .nil J
 |lock hr h ih=>
  intro hv hl D tabs hD ht
  have:=h.le
  exact (ih hv J D tabs hD ht).cons' (yA (.inl Y) J hm hp hv hr).1 J
 |unlock hr h ih=>
  intro hv hl D tabs hD ht
  have:=h.le
  exact (ih hv J D tabs hD ht).cons' (yA (.inr Y) J hm hp hv hr).1 J
 |@var vars deep left left' e rest he h ih=>
  intro hv hl D tabs hD ht
  have:=h.le
  have hn:=aAe left J
  have hnl:=aAo hn
  have hns:=dV hn
  have hel:=he.len hv
  refine (ih (λx hx=>?_) J D tabs hD ht).cons' (n:=1) (SOk.of J (by rw [if_pos V];exact hn) Fv Fz G0 Y F7 G0 ?_ ?_ ?_) J
  ·rcases mem_append.1 hx with hx|hx
   ·exact hv x hx
   simp only [List.mem_singleton] at hx;subst hx;exact hn
  ·rw [aJ.sane];exact ⟨Nat.le_trans hns V,he.sane hv,cY.zero_sane,F1,qZ,qZ⟩
  ·rw [gD];show 1+e.nodes+cY.zero.wt+wtA []+wtS []+wtS [] <= _;rw [cY.zero_wt,wtA,wtS];have:=he.nodes;omega
  ·rw [bY];simp;omega
 |@assign vars deep left left' x e rest hx he h ih=>
  intro hv hl D tabs hD ht
  have:=h.le
  have hn:=hv x hx
  have hnl:=aAo hn
  have hns:=dV hn
  have hel:=he.len hv
  refine (ih hv J D tabs hD ht).cons' (n:=1) (SOk.of J (by rw [if_pos V];exact hn) Fv Fz G0 Y F7 G0 ?_ ?_ ?_) J
  ·rw [aJ.sane];exact ⟨Nat.le_trans hns V,he.sane hv,cY.zero_sane,F1,qZ,qZ⟩
  ·rw [gD];show 1+e.nodes+cY.zero.wt+wtA []+wtS []+wtS [] <= _;rw [cY.zero_wt,wtA,wtS];have:=he.nodes;omega
  ·rw [bY];simp;omega
 |@call vars deep left left' k g al rest hk hgm ha h ih=>
  intro hv hl D tabs hD ht
  have:=h.le
  obtain ⟨hn,hg2⟩:=hg g hgm
  have hnl:=aAo hn
  have hns:=dV hn
  obtain ⟨a1,a2,a3,a4⟩:=ha.ok hm hp hv
  refine (ih hv J D tabs hD ht).cons' (n:=1) (SOk.of J (by rw [if_pos J];exact hn) (by rw [if_neg J];exact cZt) (by rw [if_neg J];exact jN) (by rw [decide_eq_true hk];rfl) a1 (by rw [if_neg J];rfl) G0 ?_ ?_ ?_) J
  ·rw [aJ.sane];exact ⟨Nat.le_trans hns V,aH.zero_sane,cY.zero_sane,a2.1,qZ,qZ⟩
  ·rw [gD];show 1+aH.zero.nodes+cY.zero.wt+wtA al+wtS []+wtS [] <= _;rw [aH.zero_nodes,cY.zero_wt,wtS];have:=a2.2;omega
  ·have hat:(dF al).length <= 250:=by simp only [dF,length_append,length_cons,length_nil];omega
   rw [bY];rcases hk with rfl|rfl<;>simp<;>omega
 |@cond vars deep left l1 l2 left' e thn els rest he h1 h2 h3 i1 i2 i3=>
  intro hv hl D tabs hD ht
  have:=h1.le
  have:=h2.le
  have:=h3.le
  have hel:=he.len hv
  have j1:=i1 hv J (D+1) (tabs++[9]) J DR
  have j2:=i2 hv J (D+1) (tabs++[9]) J DR
  refine (i3 hv J D tabs hD ht).cons' (n:=1+(left-l1)+(l1-l2)) (SOk.of J Fx Fv Fz G0 Y (by rw [if_pos V];exact j1.ok) (by rw [j2.ok];simp) ?_ ?_ ?_) J
  ·rw [aJ.sane];exact ⟨V,he.sane hv,cY.zero_sane,F1,j1.sane,j2.sane⟩
  ·rw [gD];show 1+e.nodes+cY.zero.wt+wtA []+wtS thn+wtS els <= _;rw [cY.zero_wt,wtA];have:=he.nodes;have:=j1.wt;have:=j2.wt;omega
  ·have:=j1.len;have:=j2.len;rw [bY,if_neg V,if_neg V,if_neg V,if_neg V,if_neg V,if_neg V,if_pos V,if_neg V];simp only [length_append,length_cons,length_nil]
   split<;>(try simp only [length_append,length_cons,length_nil])<;>omega
 |@loop vars deep left l1 left' e thn rest he h1 h3 i1 i3=>
  intro hv hl D tabs hD ht
  have:=h1.le
  have:=h3.le
  have hel:=he.len hv
  have j1:=i1 hv J (D+1) (tabs++[9]) J DR
  refine (i3 hv J D tabs hD ht).cons' (n:=1+(left-l1)) (SOk.of J Fx Fv Fz G0 Y (by rw [if_pos V];exact j1.ok) G0 ?_ ?_ ?_) J
  ·rw [aJ.sane];exact ⟨V,he.sane hv,cY.zero_sane,F1,j1.sane,qZ⟩
  ·rw [gD];show 1+e.nodes+cY.zero.wt+wtA []+wtS thn+wtS [] <= _;rw [cY.zero_wt,wtA,wtS];have:=he.nodes;have:=j1.wt;omega
  ·have:=j1.len;rw [bY];simp;omega
 |@ret vars deep left left' rest h ih=>
  intro hv hl D tabs hD ht
  have:=h.le
  refine (ih hv J D tabs hD ht).cons' (n:=1) (SOk.of J Fx (by rw [if_neg V];exact cZt) Fz G0 Y F7 G0 ?_ ?_ ?_) J
  ·rw [aJ.sane];exact ⟨V,aH.zero_sane,cY.zero_sane,F1,qZ,qZ⟩
  ·rw [gD];show 1+aH.zero.nodes+cY.zero.wt+wtA []+wtS []+wtS [] <= _;rw [aH.zero_nodes,cY.zero_wt,wtA,wtS];omega
  ·rw [bY];simp;omega
 |@pair vars deep left l1 left' r mid rest hr h1 h3 i1 i3=>
  intro hv hl D tabs hD ht
  have:=h1.le
  have:=h3.le
  have j1:=i1 hv J D tabs J J
  have j3:=i3 hv J D tabs hD ht
  obtain ⟨s5,t5⟩:=yA (D:=D) (tabs:=tabs) (.inl rfl) J hm hp hv hr
  obtain ⟨s6,t6⟩:=yA (D:=D) (tabs:=tabs) (.inr rfl) J hm hp hv hr
  refine ⟨?_,?_,?_,?_⟩
  ·rw [bM,qL D J,bM,s5.ok,s6.ok,j1.ok,j3.ok];rfl
  ·rw [gC,uJ,gC];exact ⟨s5.sane,j1.sane,s6.sane,j3.sane⟩
  ·have w5:∀k:Int,(aJ.mk k aK .zero r [] [] []).wt <= 20:=λk=>by rw [gD];show 1+aH.zero.nodes+r.wt+wtA []+wtS []+wtS [] <= _;rw [aH.zero_nodes,wtA,wtS];have:=(hr.ok hm hp hv).2.1.2;omega
   rw [wtS,aAn,wtS];have:=j1.wt;have:=j3.wt;have:=w5 5;have:=w5 6;omega
  rw [aC,oX,aC];have:=j1.len;have:=j3.len;simp only [length_append];omega
end
theorem aFt:∀i,i<4 -> bQ (bytes [UInt8.ofNat (97+i)])=true:=by
 intro i h
 have:(List.range 4).all (λk=>bQ (bytes [UInt8.ofNat (97+k)]))=true:=B6
 exact List.all_eq_true.1 this i (List.mem_range.2 h)
theorem vO:∀i,i<4 -> bQ (bytes [103,UInt8.ofNat (48+i)])=true:=by
 intro i h
 have:(List.range 4).all (λk=>bQ (bytes [103,UInt8.ofNat (48+k)]))=true:=B6
 exact List.all_eq_true.1 this i (List.mem_range.2 h)
theorem aF0:∀i,i<4 -> bQ (bytes [112,UInt8.ofNat (48+i)])=true:=by
 intro i h
 have:(List.range 4).all (λk=>bQ (bytes [112,UInt8.ofNat (48+k)]))=true:=B6
 exact List.all_eq_true.1 this i (List.mem_range.2 h)
theorem aHd:∀i,i<4 -> bQ (bytes [102,UInt8.ofNat (48+i)])=true:=by
 intro i h
 have:(List.range 4).all (λk=>bQ (bytes [102,UInt8.ofNat (48+k)]))=true:=B6
 exact List.all_eq_true.1 this i (List.mem_range.2 h)
theorem aGx:bQ (bytes [109,97,105,110])=true:=B6
theorem pM.names{l:List aS}(h:pM l):∀x,x∈l -> bQ x.name=true:=by
 intro x hx
 obtain ⟨k,hk,rfl⟩:=List.getElem_of_mem hx
 rw [h.2 k hk];have:=h.1;exact aF0 _ J
theorem aMn.name{i:Nat}{f:bS}(h:aMn i f)(hi:i<4):bQ f.name=true:=by
 rcases Nat.eq_zero_or_pos i with h0|h0
 ·rw [(h.1 h0).1];exact aGx
 rw [h.2.1 h0];exact aHd i hi
theorem kZ.all{ms:List cL}{fs:List Sig}{gs:List aI}(hm:∀m,m∈ms -> bQ m.name=true)(hg:∀g,g∈fs -> bQ g.1=true /\ g.2.length <= 2)(hgl:∀g,g∈gs -> bQ g.name=true)
  {left:Nat} {l:List bS} (h:kZ ms fs gs left l):left <= 24 -> (∀f,f∈l -> ∀x,x∈f.params -> bQ x.name=true) -> ∀f,f∈l -> LOk 0 [9] 24 f.body:=by
 induction h with
 |nil=>intro _ _ f hf;simp at hf
 |@cons left left' f l hb hl ih=>
  intro hle hps g hgm
  have h1:=hb.le
  have hv:lC (uS gs f.params):=by
   intro x hx
   simp only [uS,mem_append,List.mem_map,List.mem_filter] at hx
   rcases hx with ⟨g,hg,rfl⟩|⟨y,⟨hy,_⟩,rfl⟩
   ·exact hgl g hg
   exact hps f G0 y hy
  rcases mem_cons.1 hgm with rfl|hgm
  ·have:=hb.ok hm (hps g G0) hg hv hle 0 [9] J G0
   exact ⟨this.ok,this.sane,by have:=this.wt;omega,by have:=this.len;omega⟩
  exact ih J (λf hf=>hps f (by simp [hf])) g hgm
theorem yF{α:Type}(f:α -> List UInt8)(c:Nat):∀l:List α,(∀x,x∈l -> (f x).length <= c) -> ((l.map f).flatten).length <= c*l.length
 |[],_=>G0
 |x::r,h=>by
  have h1:=yF f c r Gu
  have h2:=h x G0
  simp only [List.map_cons,List.flatten_cons,length_append,length_cons,Nat.mul_add,Nat.mul_one];omega
theorem aAv{x:aS}(h:bQ x.name=true):(bX x).length <= 22:=by
 have:=dV h
 rw [bX];split<;>simp<;>omega
theorem zH{α:Type}(f:α -> List UInt8)(c:Nat):∀l:List α,(∀x,x∈l -> (f x).length <= c) -> (bW f l).length <= (c+2)*l.length
 |[],_=>FE
 |x::r,h=>by
  have h1:=zH f c r Gu
  have h2:=h x G0
  have h3:=nO f x r
  simp only [length_cons,Nat.mul_add,Nat.mul_one];omega
structure aQz (p:cK):Prop where
 form:nY p=true
 sane:p.sane
 wt:p.wt <= 9000
 len:(cR p).length <= 75000
theorem sY.facts{p:cK}(h:sY p):aQz p:=by
 obtain ⟨gs,ms,fs⟩:=p
 obtain ⟨⟨hm1,hm2,hm⟩,⟨hg1,hg⟩,⟨hf1,hf2,hf⟩,hb⟩:=h
 dsimp only at hm1 hm2 hm hg1 hg hf1 hf2 hf hb
 have nm:∀m,m∈ms -> bQ m.name=true:=by
  intro m hmm;obtain ⟨k,hk,rfl⟩:=List.getElem_of_mem hmm;rw [(hm k hk).1];exact aFt k J
 have ng:∀g,g∈gs -> bQ g.name=true:=by
  intro g hgm;obtain ⟨k,hk,rfl⟩:=List.getElem_of_mem hgm;rw [(hg k hk).1];exact vO k J
 have nf:∀f,f∈fs -> bQ f.name=true /\ pM f.params:=by
  intro f hfm;obtain ⟨k,hk,rfl⟩:=List.getElem_of_mem hfm;exact ⟨(hf k hk).name J,(hf k hk).2.2⟩
 have bodies:=hb.all nm (by
  intro g hgm
  obtain ⟨f,hfm,rfl⟩:=List.mem_map.1 hgm
  exact ⟨(nf f hfm).1,(nf f hfm).2.1⟩) ng (Nat.le_refl _) (λf hfm=>(nf f hfm).2.names)
 have lg:∀g,g∈gs -> (aU g).length <= 60 /\ g.init≠-9223372036854775808 /\ fit g.init:=by
  intro g hgm
  have h1:=dV (ng g hgm)
  obtain ⟨k,hk,rfl⟩:=List.getElem_of_mem hgm
  obtain ⟨_,h2,h3⟩:=hg k hk
  have h4:=rQ (n:=gs[k].init) J J
  refine ⟨?_,J,by constructor<;>omega⟩
  rw [aU];split<;>simp<;>omega
 have lm:∀m,m∈ms -> (bE m).length <= 60 /\ fS m=true /\ fit m.size:=by
  intro m hmm
  have h1:=dV (nm m hmm)
  have h0:=nm m hmm
  obtain ⟨k,hk,rfl⟩:=List.getElem_of_mem hmm
  have h2:0 <= ms[k].size /\ ms[k].size <= 3 /\ (ms[k].reentrant=true -> ms[k].size=0):=by
   rcases (hm k hk).2 with ⟨a,b,c⟩|⟨a,b⟩
   ·exact ⟨b,c,λh=>by rw [a] at h;cases h⟩
   exact ⟨J,J,λ_=>b⟩
  have h4:=rQ (n:=ms[k].size) J J
  refine ⟨?_,?_,by constructor<;>omega⟩
  ·rw [bE];split<;>split<;>simp<;>omega
  rw [fS,h0,decide_eq_true J]
  cases hr:ms[k].reentrant with
  |false=>rfl
  |true=>rw [decide_eq_false (by have:=h2.2.2 hr;omega)];rfl
 have lf:∀f,f∈fs -> (funcText f).length <= 17000 /\ gW f=true:=by
  intro f hfm
  obtain ⟨h0,h1⟩:=nf f hfm
  have h2:=dV h0
  have h3:=bodies f hfm
  have h4:=h3.len
  have h5:=zH bX 22 f.params (λx hx=>aAv (h1.names x hx))
  have h6:=h1.1
  refine ⟨?_,?_⟩
  ·rw [funcText];simp only [length_append,length_cons,length_nil];have:f.name.data.toList.length=f.name.size:=rfl;omega
  rw [gW,h0,decide_eq_true J,h3.ok,List.all_eq_true.2 (λx hx=>h1.names x hx)];rfl
 have len:(cR ⟨gs,ms,fs⟩).length <= 75000:=by
  have h1:=yF aU 60 gs (λg h=>(lg g h).1)
  have h2:=yF bE 60 ms (λg h=>(lm g h).1)
  have h3:=yF funcText 17000 fs (λg h=>(lf g h).1)
  rw [cR];simp only [length_append];omega
 refine ⟨?_,⟨λg h=>⟨(lg g h).2.2,Nat.le_trans (dV (ng g h)) V⟩,λm h=>⟨(lm m h).2.2,Nat.le_trans (dV (nm m h)) V⟩,λf h=>⟨Nat.le_trans (dV (nf f h).1) V,λx hx=>Nat.le_trans (dV ((nf f h).2.names x hx)) V,(bodies f h).sane⟩⟩,?_,len⟩
 ·unfold nY
  rw [decide_eq_true E7,List.all_eq_true.2 (λg h=>by rw [gH,ng g h,decide_eq_true (lg g h).2.1];rfl),List.all_eq_true.2 (λm h=>(lm m h).2.1),List.all_eq_true.2 (λf h=>(lf f h).2)];rfl
 unfold cK.wt
 have h1:(fs.map bS.wt).sum <= 2000*fs.length:=by
  have:∀l:List bS,(∀f,f∈l -> f.wt <= 2000) -> (l.map bS.wt).sum <= 2000*l.length:=by
   intro l
   induction l with
   |nil=>intro _;simp
   |cons f l ih=>intro hx;have:=ih (λg hg=>hx g (by simp [hg]));have:=hx f G0;simp only [List.map_cons,List.sum_cons,length_cons];omega
  exact this fs (λf hfm=>by unfold bS.wt;have:=(bodies f hfm).wt;have:=(nf f hfm).2.1;omega)
 show gs.length+ms.length+(fs.map bS.wt).sum <= _
 omega
end
section
theorem eT.ve{names:List ByteArray}{d:Nat}{e:aH}(hn:∀x,x∈names -> bQ x=true)(h:eT names d e):VE e:=by
 induction h with
 |@name d x h=>exact .name x (hn x h)
 |@num d n h0 h1=>
  obtain ⟨k,rfl⟩:∃k:Nat,n=k:=⟨n.toNat,J⟩
  exact .num k J
 |@un d op e ho he ih=>exact .un op e ho ih
 |@bin d op a b h0 h1 ha hb iha ihb=>exact .bin op a b ⟨h0,h1⟩ iha ihb
end
section
theorem aDo:∀(e:aH),VE e -> (aT e).length <= 3*e.nodes-2:=by
 intro e h
 induction h with
 |num n h=>rw [uO,aH.nodes,cZ];simp
 |name s h=>rw [sC,aH.nodes,cZ];simp
 |un op x h hx ih=>
  have h1:∀b t,(dAe b t).length <= t.length+2:=λb t=>by unfold dAe;split<;>simp
  rw [yB h,aH.nodes,cZ,cZ,length_cons]
  have:=h1 (cV op 0 x.op) (aT x);omega
 |bin op x y h hx hy ihx ihy=>
  have h1:∀b t,(dAe b t).length <= t.length+2:=λb t=>by unfold dAe;split<;>simp
  rw [uI h,aH.nodes,cZ,cZ,cZ,length_append,length_cons]
  have:=h1 (cV op 0 x.op) (aT x);have:=h1 (cV op 1 y.op) (aT y);omega
theorem eT.toks{names:List ByteArray}{d:Nat}{e:aH}(hn:∀x,x∈names -> bQ x=true)(h:eT names d e)(hd:d <= 2):(aT e).length <= 37:=by
 have h1:=aDo e (h.ve hn)
 have h2:=(h.mono hd).nodes
 omega
section
variable {ms:List cL}{fs:List Sig}{ps:List aS}
theorem uA.toks{vars:List ByteArray}{r:cY}(hv:lC vars)(h:uA ms ps vars r):(hY r).length <= 40:=by
 cases h with
 |arr hm hs he=>have:=he.toks hv J;simp only [hY,length_cons,length_append,length_nil];omega
 |scalar hm hs=>simp [hY]
 |param hx hm=>simp [hY]
theorem tS{α:Type}(f:α -> List PT)(c:Nat):∀l:List α,(∀x,x∈l -> (f x).length <= c) -> (fZ f l).length <= (c+1)*l.length
 |[],_=>by simp [fZ]
 |[x],h=>by have:=h x G0;simp [fZ];omega
 |x::y::r,h=>by
  have h1:=tS f c (y::r) (λz hz=>h z (by simp [hz]))
  have h2:=h x G0
  rw [nW,length_append,length_cons]
  simp only [length_cons,Nat.mul_add,Nat.mul_one] at h1⊢;omega
theorem nB.toks{vars:List ByteArray}{l:List aS}{al:List eN}(hv:lC vars)(h:nB ms ps vars l al):al.length=l.length /\ ∀x,x∈al -> (wH x).length <= 41:=by
 induction h with
 |nil=>exact ⟨rfl,λx hx=>Hb⟩
 |mutex hx hr h ih=>
  refine ⟨by simp [ih.1],λx hx=>?_⟩
  rcases mem_cons.1 hx with rfl|hx
  ·have:=hr.toks hv;simp only [wH,if_true,length_cons];omega
  ·exact ih.2 x hx
 |expr hx he h ih=>
  refine ⟨by simp [ih.1],λx hx=>?_⟩
  rcases mem_cons.1 hx with rfl|hx
  ·have:=he.toks hv J;simp only [wH,Bool.false_eq_true,if_false];omega
  exact ih.2 x hx
theorem wL(a b:List aJ):aQ (a++b)=aQ a++aQ b:=by
 induction a with
 |nil=>rw [List.nil_append,aQ,List.nil_append]
 |cons s r ih=>rw [List.cons_append,aQ,aQ,ih,append_assoc]
theorem dJ.toks{vars:List ByteArray}{deep left left':Nat}{l:List aJ}(hg:∀g,g∈fs -> bQ g.1=true /\ g.2.length <= 2)(h:dJ ms fs ps vars deep left l left'):
  lC vars -> left <= 24 -> (aQ l).length <= 100*(left-left'):=by
 induction h with
 |nil=>intro _ _;rw [aQ];simp
 |lock hr h ih=>
  intro hv hl
  have:=h.le;have:=ih hv J;have:=hr.toks hv
  rw [aQ,cE];simp;omega
 |unlock hr h ih=>
  intro hv hl
  have:=h.le;have:=ih hv J;have:=hr.toks hv
  rw [aQ,cE];simp;omega
 |@var vars deep left left' e rest he h ih=>
  intro hv hl
  have:=h.le
  have:=ih (λx hx=>by
   rcases mem_append.1 hx with hx|hx
   ·exact hv x hx
   simp only [List.mem_singleton] at hx;subst hx;exact aAe left J) J
  have:=he.toks hv J
  rw [aQ,cE];simp;omega
 |assign hx he h ih=>
  intro hv hl
  have:=h.le;have:=ih hv J;have:=he.toks hv J
  rw [aQ,cE];simp;omega
 |@call vars deep left left' k g al rest hk hgm ha h ih=>
  intro hv hl
  have:=h.le;have:=ih hv J
  obtain ⟨h1,h2⟩:=ha.toks hv
  have h3:=tS wH 41 al h2
  have h4:=(hg g hgm).2
  rw [aQ,cE]
  rcases hk with rfl|rfl<;>simp [iG]<;>omega
 |cond he h1 h2 h3 i1 i2 i3=>
  intro hv hl
  have:=h1.le;have:=h2.le;have:=h3.le
  have:=i1 hv J;have:=i2 hv J;have:=i3 hv J;have:=he.toks hv J
  rw [aQ,cE]
  simp only [length_append]
  rw [if_neg V,if_neg V,if_neg V,if_neg V,if_neg V,if_neg V,if_pos V]
  simp only [length_append,length_cons,length_nil]
  split<;>(try simp only [length_append,length_cons,length_nil])<;>omega
 |loop he h1 h3 i1 i3=>
  intro hv hl
  have:=h1.le;have:=h3.le
  have:=i1 hv J;have:=i3 hv J;have:=he.toks hv J
  rw [aQ,cE];simp;omega
 |ret h ih=>
  intro hv hl
  have:=h.le;have:=ih hv J
  rw [aQ,cE];simp;omega
 |pair hr h1 h3 i1 i3=>
  intro hv hl
  have:=h1.le;have:=h3.le
  have:=i1 hv J;have:=i3 hv J;have:=hr.toks hv
  rw [aQ,wL,aQ,cE,cE];simp;omega
theorem kZ.toks{gs:List aI}{left:Nat}{l:List bS}(hg:∀g,g∈fs -> bQ g.1=true /\ g.2.length <= 2)(hgl:∀g,g∈gs -> bQ g.name=true)(h:kZ ms fs gs left l):left <= 24 -> (∀f,f∈l -> ∀x,x∈f.params -> bQ x.name=true) ->
  (l.map λf=>(aQ f.body).length).sum <= 100*left:=by
 induction h with
 |nil=>intro _ _;simp
 |@cons left left' f l hb hl ih=>
  intro hle hps
  have h1:=hb.le
  have hv:lC (uS gs f.params):=by
   intro x hx
   simp only [uS,mem_append,List.mem_map,List.mem_filter] at hx
   rcases hx with ⟨g,hg,rfl⟩|⟨y,⟨hy,_⟩,rfl⟩
   ·exact hgl g hg
   exact hps f G0 y hy
  have h2:=hb.toks hg hv hle
  have h3:=ih J (λf hf=>hps f (by simp [hf]))
  simp only [List.map_cons,List.sum_cons];omega
end
theorem yG{α:Type}(f:α -> List PT)(c:Nat):∀l:List α,(∀x,x∈l -> (f x).length <= c) -> ((l.map f).flatten).length <= c*l.length
 |[],_=>G0
 |x::r,h=>by
  have h1:=yG f c r Gu
  have h2:=h x G0
  simp only [List.map_cons,List.flatten_cons,length_append,length_cons,Nat.mul_add,Nat.mul_one];omega
theorem aBd:∀l:List bS,(∀f,f∈l -> f.params.length <= 2) -> ((l.map kA).flatten).length <= 20*l.length+(l.map λf=>(aQ f.body).length).sum
 |[],_=>G0
 |f::r,h=>by
  have h1:=aBd r Gu
  have h2:=h f G0
  have h3:=tS lQ 2 f.params (λx _=>by unfold lQ;split<;>simp)
  simp only [List.map_cons,List.flatten_cons,length_append,length_cons,List.sum_cons,Nat.mul_add,Nat.mul_one,kA,length_nil];omega
theorem aGw{p:cK}(h:sY p):(∀g,g∈p.globals -> bQ g.name=true) /\ (∀g,g∈p.funcs.map bS.sig -> bQ g.1=true /\ g.2.length <= 2) /\ ∀f,f∈p.funcs -> ∀x,x∈f.params -> bQ x.name=true:=by
 obtain ⟨gs,ms,fs⟩:=p
 obtain ⟨⟨hm1,hm2,hm⟩,⟨hg1,hg⟩,⟨hf1,hf2,hf⟩,hb⟩:=h
 have nf:∀f,f∈fs -> bQ f.name=true /\ pM f.params:=by
  intro f hfm;obtain ⟨k,hk,rfl⟩:=List.getElem_of_mem hfm;exact ⟨(hf k hk).name (by dsimp only at hf2 hk;omega),(hf k hk).2.2⟩
 refine ⟨λg hgm=>?_,λg hgm=>?_,λf hfm=>(nf f hfm).2.names⟩
 ·obtain ⟨k,hk,rfl⟩:=List.getElem_of_mem hgm;rw [(hg k hk).1];exact vO k (by dsimp only at hg1 hk;omega)
 obtain ⟨f,hfm,rfl⟩:=List.mem_map.1 hgm
 exact ⟨(nf f hfm).1,(nf f hfm).2.1⟩
theorem aJd{p:cK}(h:sY p):((iA p).map fF.toks).flatten.length <= 4000:=by
 obtain ⟨h1,h2,h3⟩:=aGw h
 have h4:=h.bodies.toks h2 h1 (Nat.le_refl _) h3
 have h5:=yG bEr 7 p.globals (λg _=>by unfold bEr;split<;>(try split)<;>simp)
 have h6:=yG gT 6 p.mutexes (λg _=>by unfold gT;split<;>split<;>simp)
 have h7:=aBd p.funcs (λf hf=>(h2 f.sig (List.mem_map.2 ⟨f,hf,Y⟩)).2)
 have a1:=h.globals.1;have a2:=h.mutexes.2.1;have a3:=h.funcs.2.1
 simp only [iA,List.map_append,List.map_map,List.flatten_append,length_append]
 have e1:fF.toks ∘ fF.glob=bEr:=Y
 have e2:fF.toks ∘ fF.mtx=gT:=Y
 have e3:fF.toks ∘ fF.fn=kA:=Y
 rw [e1,e2,e3];omega
theorem aHh{p:cK}(hs:p.sane)(h:nY p=true):(∀d,d∈iA p -> d.ok) /\ p.globals.length <= 16 /\ p.mutexes.length <= 12 /\ p.funcs.length <= 16:=by
 unfold nY at h
 simp only [Bool.and_eq_true,decide_eq_true_eq] at h
 obtain ⟨⟨⟨h1,hg⟩,hm⟩,hf⟩:=h
 refine ⟨λd hd=>?_,h1.1,h1.2.1,h1.2.2⟩
 simp only [iA,mem_append,List.mem_map] at hd
 rcases hd with ⟨g,hgm,rfl⟩|⟨m,hmm,rfl⟩|⟨f,hfm,rfl⟩
 ·have h2:=List.all_eq_true.1 hg g hgm
  have h3:=(hs.globals g hgm).1
  unfold gH at h2
  simp only [Bool.and_eq_true,decide_eq_true_eq] at h2
  unfold fit at h3
  exact ⟨h2.1,by have:=h2.2;omega⟩
 ·have h2:=List.all_eq_true.1 hm m hmm
  unfold fS at h2
  simp only [Bool.and_eq_true,decide_eq_true_eq,Bool.not_eq_true',Bool.and_eq_false_iff,decide_eq_false_iff_not] at h2
  refine ⟨h2.1.1,h2.1.2.1,h2.1.2.2,λhr=>?_⟩
  rcases h2.2 with h3|h3
  ·rw [hr] at h3;cases h3
  have:=h2.1.2.1;omega
 have h2:=List.all_eq_true.1 hf f hfm
 unfold gW at h2
 simp only [Bool.and_eq_true,decide_eq_true_eq] at h2
 exact ⟨h2.1.1.1,h2.1.1.2,List.all_eq_true.1 h2.2,lS f.body 23 0 Y (hs.funcs f hfm).2.2 h2.1.2⟩
theorem aPf{p:cK}(hs:p.sane)(h:nY p=true)(hl:(cR p).length <= 262144)(ht:((iA p).map fF.toks).flatten.length <= 4000):jI p=true:=by
 have h6:=uR (iA p) (aHh hs h).1 Lx.end
 rw [List.append_nil,List.append_nil,←wC] at h6
 obtain ⟨L,h7,-⟩:=aIz h6 hl ht
 rw [nX,h,h7];rfl
theorem yO{p:cK}(h:sY p):jI p=true:=aPf h.facts.sane h.facts.form (by have:=h.facts.len;omega) (aJd h)
end
section
theorem cCc:∀i,i<25 -> ∀j,j<25 -> cZk i=cZk j -> i=j:=V
theorem cCi(i j:Nat)(hi:i<25)(hj:j<25)(h:cZk i=cZk j):i=j:=cCc i hi j hj h
def cEb(i:Nat):ByteArray:=bytes [103,UInt8.ofNat (48+i)]
def cEa(i:Nat):ByteArray:=bytes [UInt8.ofNat (97+i)]
def dA9(i:Nat):ByteArray:=if i=0 then bytes [109,97,105,110] else bytes [102,UInt8.ofNat (48+i)]
def cB7(i:Nat):ByteArray:=bytes [112,UInt8.ofNat (48+i)]
def cDi:List ByteArray:=(List.range 2).map cEb++((List.range 4).map cEa++(List.range 4).map dA9)
theorem cCx:cDi.Nodup:=V
theorem cDz:∀i,i<3 -> cDi.all (λs=>decide (s≠cB7 i))=true:=V
theorem cD8:∀i,i<25 -> cDi.all (λs=>decide (s≠cZk i))=true:=V
theorem cEc(i:Nat)(h:i<3):cB7 i∉cDi:=λhm=>of_decide_eq_true (List.all_eq_true.1 (cDz i h) _ hm) rfl
theorem cEf(i:Nat)(h:i<25):cZk i∉cDi:=λhm=>of_decide_eq_true (List.all_eq_true.1 (cD8 i h) _ hm) rfl
theorem p_v:∀k,k<3 -> ∀i,i<25 -> cZk i≠cB7 k:=V
theorem p_p:∀k,k<3 -> ∀i,i<3 -> cB7 i=cB7 k -> i=k:=V
theorem cD5:((List.range 4).map dA9).Nodup:=V
section
open Classical
structure cBn (ms:List cL) (sg:List Sig) (ps:List aS) (fs:Fns) (vars:List ByteArray) (left:Nat) (v:Vis):Prop where
 kn:KN v
 vars:∀x,x∈vars -> bZp v x=1
 ms:∀m,m∈ms -> bZp v m.name=cAr m
 ps:∀x,x∈ps -> x.mutex=true -> bZp v x.name=4
 sg:∀g,g∈sg -> bZp v g.1=5 /\ ∃f,bZu fs g.1=some f /\ f.params=g.2
 free:∀j,j<left -> bZp v (cZk j)=0
section
variable {ms:List cL}{sg:List Sig}{ps:List aS}{fs:Fns}{vars:List ByteArray}{left:Nat}{v:Vis}
theorem cBn.of{v':Vis}{left':Nat}(h:cBn ms sg ps fs vars left v)(hk:KN v')(hl:left' <= left)(ow:List ByteArray)(hv:∀s,bZp v' s=if s∈ow then 1 else bZp v s)(ho:∀s,s∈ow -> ∃j,left' <= j /\ j<left /\ s=cZk j)(h25:left <= 25):cBn ms sg ps fs vars left' v':=by
 have no:∀s,bZp v s≠0 -> bZp v' s=bZp v s:=λs hs=>by
  rw [hv];split
  ·rename_i hm
   obtain ⟨j,-,h2,rfl⟩:=ho s hm
   exact absurd (h.free j h2) hs
  rfl
 refine ⟨hk,λx hx=>?_,λm hm=>?_,λx hx hm=>?_,λg hg=>?_,λj hj=>?_⟩
 ·rw [no x (by rw [h.vars x hx];decide)];exact h.vars x hx
 ·rw [no _ (by rw [h.ms m hm];unfold cAr;split<;>decide)];exact h.ms m hm
 ·rw [no _ (by rw [h.ps x hx hm];decide)];exact h.ps x hx hm
 ·rw [no _ (by rw [(h.sg g hg).1];decide)];exact h.sg g hg
 rw [hv];split
 ·rename_i hm
  obtain ⟨i,h1,h2,h3⟩:=ho _ hm
  have:=cCi j i J J h3
  omega
 exact h.free j J
theorem eT.res{d:Nat}{e:aH}(h:eT vars d e)(hv:∀x,x∈vars -> bZp v x=1):bZ1 v e=0:=by
 induction h with
 |name hx=>rw [bZ1,if_pos rfl];unfold cBh;rw [hv _ hx];rfl
 |num h0 h1=>rw [bZ1,if_neg V,bZ0]
 |un ho he ih=>rw [bZ1,if_neg J,bZ0,if_pos ih,bZ0]
 |bin h0 h1 ha hb iha ihb=>rw [bZ1,if_neg J,bZ0,if_pos iha,bZ0,if_pos ihb,bZ0]
theorem uA.res{r:cY}(h:uA ms ps vars r)(hv:cBn ms sg ps fs vars left v):cA3 v r=0:=by
 cases h with
 |@arr m e hm hs he=>
  have h1:=hv.ms m hm
  unfold cAr at h1;rw [if_pos hs] at h1
  unfold cA3 cAj
  rw [h1]
  exact he.res hv.vars
 |@scalar m hm hs=>
  have h1:=hv.ms m hm
  unfold cAr at h1;rw [if_neg J] at h1
  unfold cA3 cAj
  rw [h1];rfl
 |@param x hx hm=>
  have h1:=hv.ps x hx hm
  unfold cA3 cAj
  rw [h1];rfl
theorem nB.res{l:List aS}{al:List eN}(h:nB ms ps vars l al)(hv:cBn ms sg ps fs vars left v):bZ3 v al l=0 /\ al.length=l.length:=by
 induction h with
 |nil=>exact ⟨rfl,rfl⟩
 |mutex hx hr h ih=>
  refine ⟨?_,by simp [ih.2]⟩
  rw [bZ3,if_pos];·exact ih.1
  unfold cBb;rw [hx];exact hr.res hv
 |expr hx he h ih=>
  refine ⟨?_,by simp [ih.2]⟩
  rw [bZ3,if_pos];·exact ih.1
  unfold cBb;rw [hx];exact he.res hv.vars
theorem cBw(fs:Fns):∀(a b:List aJ)(own own1:List ByteArray)(x x1:RS),bZr fs a own x=(0,own1,x1) -> bZr fs (a++b) own x=bZr fs b own1 x1
 |[],b,own,own1,x,x1,h=>by rw [bZr] at h;cases h;rfl
 |s::a,b,own,own1,x,x1,h=>by
  rw [bZr] at h
  rw [List.cons_append,bZr]
  split at h
  ·rename_i h0
   rw [if_pos h0];exact cBw fs a b _ _ _ _ h
  rename_i h0
  exact absurd (congrArg Prod.fst h) h0
theorem cCh:∀(ow:List ByteArray)(v:Vis),KN v -> KN (ow.foldl bZy v) /\ ∀s,bZp (ow.foldl bZy v) s=if s∈ow then 0 else bZp v s
 |[],v,h=>⟨h,λs=>G0⟩
 |k::ow,v,h=>by
  obtain ⟨h1,h2⟩:=cCh ow (bZy v k) (h.del k)
  refine ⟨h1,λs=>?_⟩
  rw [List.foldl_cons,h2,cCs h]
  by_cases hs:s∈ow
  ·rw [if_pos hs,if_pos (List.mem_cons_of_mem _ hs)]
  rw [if_neg hs]
  by_cases hk:k=s
  ·rw [if_pos hk,if_pos GJ]
  rw [if_neg hk,if_neg (λhm=>(mem_cons.1 hm).elim (λe=>hk e.symm) hs)]
def cA1(fs:Fns)(l:List aJ)(left left':Nat)(v:Vis):Prop:=∀(own:List ByteArray)(n:Nat)(a:Int),∃(ow:List ByteArray) (n':Nat) (a':Int) (v':Vis),bZr fs l own ⟨v,n,a⟩=(0,own++ow,⟨v',n',a'⟩) /\ KN v' /\ (∀s,bZp v' s=if s∈ow then 1 else bZp v s) /\ ∀s,s∈ow -> ∃j,left' <= j /\ j<left /\ s=cZk j
theorem cA1.fin{l:List aJ}{left':Nat}(h:cA1 fs l left left' v)(hf:∀j,j<left -> bZp v (cZk j)=0)(n:Nat)(a:Int):∃(n':Nat) (a':Int) (v':Vis),cA7 (bZr fs l [] ⟨v,n,a⟩)=(0,⟨v',n',a'⟩) /\ KN v' /\ ∀s,bZp v' s=bZp v s:=by
 obtain ⟨ow,n',a',v',h1,h2,h3,h4⟩:=h [] n a
 obtain ⟨g1,g2⟩:=cCh ow v' h2
 refine ⟨n',a',_,C5,g1,λs=>?_⟩
 show bZp (ow.foldl bZy v') s=_
 rw [g2,h3]
 split
 ·rename_i hm
  obtain ⟨j,-,h5,rfl⟩:=h4 s hm
  exact (hf j h5).symm
 rfl
theorem cBn.same{v':Vis}{left':Nat}(h:cBn ms sg ps fs vars left v)(hk:KN v')(hl:left' <= left)(hv:∀s,bZp v' s=bZp v s):cBn ms sg ps fs vars left' v':=
 ⟨hk,λx hx=>by rw [hv];exact h.vars x hx,λm hm=>by rw [hv];exact h.ms m hm,λx hx hm=>by rw [hv];exact h.ps x hx hm,λg hg=>by rw [hv];exact h.sg g hg,λj hj=>by rw [hv];exact h.free j J⟩
theorem cA1.next{s:aJ}{l:List aJ}{l0 l1 left':Nat}{v1:Vis}(hk:s.kind≠1)(hl:l1 <= l0)(hs:∀(n:Nat)(a:Int),∃(n':Nat) (a':Int),bZ4 fs s ⟨v,n,a⟩=(0,⟨v1,n',a'⟩))(hv:∀q,bZp v1 q=bZp v q)(h:cA1 fs l l1 left' v1):cA1 fs (s::l) l0 left' v:=by
 intro own n a
 obtain ⟨n1,a1,e1⟩:=hs n a
 obtain ⟨ow,n',a',v',h1,h2,h3,h4⟩:=h own n1 a1
 refine ⟨ow,n',a',v',?_,h2,λq=>by rw [h3,hv],λq hq=>?_⟩
 ·rw [bZr,e1,if_pos rfl,show cCp s own=own from if_neg hk];exact h1
 obtain ⟨j,g1,g2,g3⟩:=h4 q hq
 exact ⟨j,g1,J,g3⟩
theorem cAa{s:aJ}(hk:s.kind≠1)(ht:s.thn=[])(he:s.els=[])(hp:bZ5 v fs s=0)(n:Nat)(a:Int):∃(n':Nat) (a':Int),bZ4 fs s ⟨v,n,a⟩=(0,⟨v,n',a'⟩):=by
 refine ⟨n+1,n,?_⟩
 rw [bZ9,if_pos hp,ht,he]
 unfold cAy;dsimp only
 rw [if_neg hk];rfl
theorem cCf{k:Int}{e:aH}{t f rest:List aJ}{l0 l1 l2 l3 left':Nat}(hk:k=7∨k=8)(hl:l1 <= l0)(hl3:l3 <= l1)(he:bZ1 v e=0)(hfr:∀j,j<l1 -> bZp v (cZk j)=0)(ht:cA1 fs t l1 l2 v)
  (hf:∀v1,KN v1 -> (∀s,bZp v1 s=bZp v s) -> (∀j,j<l2 -> bZp v1 (cZk j)=0) /\ cA1 fs f l2 l3 v1) (hr:∀v2,KN v2 -> (∀s,bZp v2 s=bZp v s) -> cA1 fs rest l3 left' v2):cA1 fs (.mk k aK e .zero [] t f::rest) l0 left' v:=by
 intro own n a
 obtain ⟨n1,a1,v1,f1,k1,q1⟩:=ht.fin hfr (n+1) n
 obtain ⟨hfr2,hf2⟩:=hf v1 k1 q1
 obtain ⟨n2,a2,v2,f2,k2,q2⟩:=hf2.fin hfr2 n1 a1
 have hst:bZ4 fs (.mk k aK e .zero [] t f) ⟨v,n,a⟩=(0,⟨v2,n2,a2⟩):=by
  have hp:bZ5 v fs (.mk k aK e .zero [] t f)=0:=by
   show (if k=1 then _ else if k=2 then _ else if k=5∨k=6 then _ else if k=3∨k=4 then _ else if k=7∨k=8 then bZ1 v e else 0)=0
   rw [if_neg J,if_neg J,if_neg J,if_neg J,if_pos hk];exact he
  rw [bZ9,if_pos hp]
  have hb:cAy (.mk k aK e .zero [] t f) ⟨v,n,a⟩=⟨v,n+1,n⟩:=by
   show RS.mk (if k=1 then _ else v) (n+1) n=_
   rw [if_neg J]
  rw [hb]
  show (if (cA7 (bZr fs t [] ⟨v,n+1,n⟩)).1=0 then cA7 (bZr fs f [] (cA7 (bZr fs t [] ⟨v,n+1,n⟩)).2) else _)=_
  rw [f1,if_pos rfl,f2]
 obtain ⟨ow,n3,a3,v3,h1,h2,h3,h4⟩:=hr v2 k2 (λs=>(q2 s).trans (q1 s)) own n2 a2
 refine ⟨ow,n3,a3,v3,?_,h2,λs=>by rw [h3,q2,q1],λs hs=>?_⟩
 ·rw [bZr,hst,if_pos rfl,show cCp (.mk k aK e .zero [] t f) own=own from if_neg (by show ¬k=1;omega)];exact h1
 obtain ⟨j,g1,g2,g3⟩:=h4 s hs;exact ⟨j,g1,J,g3⟩
theorem dJ.res{deep left':Nat}{l:List aJ}(h:dJ ms sg ps vars deep left l left'):∀v:Vis,cBn ms sg ps fs vars left v -> left <= 25 -> cA1 fs l left left' v:=by
 induction h with
 |nil=>intro v hv _ own n a;exact ⟨[],n,a,v,by simp [bZr],hv.kn,λs=>G0,λs hs=>by cases hs⟩
 |@lock vars deep left left' r rest hr h ih=>
  intro v hv hl
  exact .next (l1:=left) (of_decide_eq_true Y) J (cAa (of_decide_eq_true Y) Y Y (hr.res hv)) (λ_=>Y) (ih v (hv.same hv.kn J λ_=>Y) J)
 |@unlock vars deep left left' r rest hr h ih=>
  intro v hv hl
  exact .next (l1:=left) (of_decide_eq_true Y) J (cAa (of_decide_eq_true Y) Y Y (hr.res hv)) (λ_=>Y) (ih v (hv.same hv.kn J λ_=>Y) J)
 |@var vars deep left left' e rest he h ih=>
  intro v hv hl own n a
  have h0:=hv.free left J
  have hle:=h.le
  have hv1:cBn ms sg ps fs (vars++[cZk left]) left (bZq v (cZk left) 1):=by
   have h9:=hv.of (left':=left) (hv.kn.put (cZk left) 1) J [cZk left] (λs=>by rw [cAl];simp [eq_comm]) (λs hs=>⟨left,Nat.le_refl _,J,by simpa using hs⟩) J
   refine ⟨h9.kn,λx hx=>?_,h9.ms,h9.ps,h9.sg,h9.free⟩
   rcases mem_append.1 hx with hx|hx
   ·exact h9.vars x hx
   rw [List.mem_singleton.1 hx,cAl,if_pos rfl]
  obtain ⟨ow,n',a',v',h1,h2,h3,h4⟩:=ih _ hv1 J (own++[cZk left]) (n+1) n
  refine ⟨cZk left::ow,n',a',v',?_,h2,λs=>?_,λs hs=>?_⟩
  ·have hst:bZ4 fs (.mk 1 (cZk left) e .zero [] [] []) ⟨v,n,a⟩=(0,⟨bZq v (cZk left) 1,n+1,n⟩):=by
    rw [bZ9,if_pos]
    ·rfl
    show (if (1:Int)=1 then (if bZp v (cZk left)=0 then bZ1 v e else 5) else _)=0
    rw [if_pos rfl,if_pos h0];exact he.res hv.vars
   rw [bZr,hst,if_pos rfl]
   show bZr fs rest (own++[cZk left]) _=_
   rw [h1,append_assoc];rfl
  ·rw [h3,cAl]
   by_cases hs:s∈ow
   ·rw [if_pos hs,if_pos (List.mem_cons_of_mem _ hs)]
   rw [if_neg hs]
   by_cases hk:cZk left=s
   ·rw [if_pos hk,if_pos GJ]
   rw [if_neg hk,if_neg (λhm=>(mem_cons.1 hm).elim (λe=>hk e.symm) hs)]
  ·rcases mem_cons.1 hs with rfl|hs
   ·exact ⟨left,hle,J,Y⟩
   ·obtain ⟨j,g1,g2,g3⟩:=h4 s hs
    exact ⟨j,g1,J,g3⟩
 |@assign vars deep left left' x e rest hx he h ih=>
  intro v hv hl
  refine .next (l1:=left) (of_decide_eq_true Y) J (cAa (of_decide_eq_true Y) Y Y ?_) (λ_=>Y) (ih v (hv.same hv.kn J λ_=>Y) J)
  show (if (2:Int)=1 then _ else if (2:Int)=2 then (if cBh v x=0 then bZ1 v e else cBh v x) else _)=0
  rw [if_neg V,if_pos rfl,if_pos (by unfold cBh;rw [hv.vars x hx];rfl)];exact he.res hv.vars
 |@call vars deep left left' k g asl rest hk hg ha h ih=>
  intro v hv hl
  obtain ⟨g1,f,g2,g3⟩:=hv.sg g hg
  obtain ⟨a1,a2⟩:=ha.res hv
  refine .next (l1:=left) Hj J (cAa Hj Y Y ?_) (λ_=>Y) (ih v (hv.same hv.kn J λ_=>Y) J)
  show (if k=1 then _ else if k=2 then _ else if k=5∨k=6 then _ else if k=3∨k=4 then cAx v fs g.1 asl else _)=0
  rw [if_neg J,if_neg J,if_neg J,if_pos hk]
  unfold cAx
  rw [g1,g2,if_neg V,if_pos rfl]
  show (if asl.length=f.params.length then bZ3 v asl f.params else 7)=0
  rw [g3,if_pos a2];exact a1
 |@cond vars deep left l1 l2 left' e thn els rest he ht hel h iht ihe ih=>
  intro v hv hl
  have e1:=ht.le;have e2:=hel.le;have e3:=h.le
  have hv0:=hv.same (left':=left) hv.kn J λ_=>Y
  refine cCf (l1:=left) (l2:=l1) (l3:=l2) V J J (he.res hv.vars) hv0.free (iht v hv0 J) (λv1 k1 q1=>?_) Hc
  have hv1:=hv.same (left':=l1) k1 J q1
  exact ⟨hv1.free,ihe v1 hv1 J⟩
 |@loop vars deep left l1 left' e thn rest he ht h iht ih=>
  intro v hv hl
  have e1:=ht.le;have e3:=h.le
  have hv0:=hv.same (left':=left) hv.kn J λ_=>Y
  refine cCf (l1:=left) (l2:=l1) (l3:=l1) V J J (he.res hv.vars) hv0.free (iht v hv0 J) (λv1 k1 q1=>?_) Hc
  have hv1:=hv.same (left':=l1) k1 J q1
  exact ⟨hv1.free,λown n a=>⟨[],n,a,v1,by simp [bZr],k1,λs=>G0,λs hs=>by cases hs⟩⟩
 |@ret vars deep left left' rest h ih=>
  intro v hv hl
  exact .next (l1:=left) (of_decide_eq_true Y) J (cAa (of_decide_eq_true Y) Y Y Y) (λ_=>Y) (ih v (hv.same hv.kn J λ_=>Y) J)
 |@pair vars deep left l1 left' r mid rest hr hm h ihm ih=>
  intro v hv hl
  have e1:=hm.le;have e2:=h.le
  refine .next (l1:=left) (of_decide_eq_true Y) J (cAa (of_decide_eq_true Y) Y Y (hr.res hv)) (λ_=>Y) ?_
  have hv0:=hv.same (left':=left) hv.kn J λ_=>Y
  intro own n a
  obtain ⟨ow,n1,a1,v1,g1,g2,g3,g4⟩:=ihm v hv0 J own n a
  have hv1:cBn ms sg ps fs vars l1 v1:=hv0.of g2 e1 ow g3 g4 J
  have hu:cA1 fs (.mk 6 aK .zero r [] [] []::rest) l1 left' v1:=.next (l1:=l1) (of_decide_eq_true Y) (Nat.le_refl _) (cAa (of_decide_eq_true Y) Y Y (hr.res hv1)) (λ_=>Y) (ih v1 hv1 J)
  obtain ⟨ow2,n2,a2,v2,h1,h2,h3,h4⟩:=hu (own++ow) n1 a1
  refine ⟨ow++ow2,n2,a2,v2,by rw [cBw fs _ _ _ _ _ _ g1,h1,append_assoc],h2,λs=>?_,λs hs=>?_⟩
  ·rw [h3,g3]
   by_cases hs:s∈ow2
   ·rw [if_pos hs,if_pos (List.mem_append_right _ hs)]
   rw [if_neg hs]
   by_cases hs1:s∈ow
   ·rw [if_pos hs1,if_pos (List.mem_append_left _ hs1)]
   rw [if_neg hs1,if_neg (λhm=>(mem_append.1 hm).elim hs1 hs)]
  rcases mem_append.1 hs with hs|hs
  ·obtain ⟨j,k1,k2,k3⟩:=g4 s hs;exact ⟨j,J,k2,k3⟩
  obtain ⟨j,k1,k2,k3⟩:=h4 s hs;exact ⟨j,k1,J,k3⟩
end
theorem cBt:∀(l:List (ByteArray×Int)) (v:Vis) (n:Nat),KN v -> (l.map (·.1)).Nodup -> (∀x,x∈l -> bZp v x.1=0) ->
  (bZz l v n).1=none /\ KN (bZz l v n).2 /\ (∀x,x∈l -> bZp (bZz l v n).2 x.1=x.2) /\ ∀s,s∉l.map (·.1) -> bZp (bZz l v n).2 s=bZp v s
 |[],v,n,hk,_,_=>⟨rfl,hk,λx hx=>absurd hx not_mem_nil,λs _=>rfl⟩
 |p::r,v,n,hk,hd,h0=>by
  simp only [List.map_cons,List.nodup_cons] at hd
  obtain ⟨a1,a2,a3,a4⟩:=cBt r (bZq v p.1 p.2) (n+1) (hk.put _ _) hd.2 (λx hx=>by
   rw [cAl,if_neg Hf];exact h0 x (List.mem_cons_of_mem _ hx))
  have e:bZz (p::r) v n=bZz r (bZq v p.1 p.2) (n+1):=by rw [bZz,if_pos (h0 p List.mem_cons_self)]
  rw [e]
  refine ⟨a1,a2,λx hx=>?_,λs hs=>?_⟩
  ·rcases mem_cons.1 hx with rfl|hx
   ·rw [a4 _ hd.1,cAl,if_pos rfl]
   exact a3 x hx
  simp only [List.map_cons,mem_cons,not_or] at hs
  rw [a4 s hs.2,cAl,if_neg (λe=>hs.1 e.symm)]
theorem cB2:∀(l:List bS)(m:Fns)(s:ByteArray),s∉l.map bS.name -> bZu (l.foldl (λm f=>bZq m f.name f) m) s=bZu m s
 |[],m,s,_=>rfl
 |f::l,m,s,h=>by
  simp only [List.map_cons,mem_cons,not_or] at h
  rw [List.foldl_cons,cB2 l _ s h.2,cBo,if_neg (λe=>h.1 e.symm)]
theorem cBj:∀(l:List bS)(m:Fns),(l.map bS.name).Nodup -> ∀f,f∈l -> bZu (l.foldl (λm f=>bZq m f.name f) m) f.name=some f
 |[],_,_,f,h=>DV
 |g::l,m,hd,f,h=>by
  simp only [List.map_cons,List.nodup_cons] at hd
  rw [List.foldl_cons]
  rcases mem_cons.1 h with rfl|h
  ·rw [cB2 l _ _ hd.1,cBo,if_pos rfl]
  exact cBj l _ hd.2 f h
theorem cBg:∀(l:List aS)(v:Vis),KN v -> (l.map aS.name).Nodup -> (∀x,x∈l -> bZp v x.name=0) ->
  (bZv l v).1=true /\ KN (bZv l v).2 /\ (∀x,x∈l -> bZp (bZv l v).2 x.name=cAw x) /\ ∀s,s∉l.map aS.name -> bZp (bZv l v).2 s=bZp v s
 |[],v,hk,_,_=>⟨rfl,hk,λx hx=>absurd hx not_mem_nil,λs _=>rfl⟩
 |p::r,v,hk,hd,h0=>by
  simp only [List.map_cons,List.nodup_cons] at hd
  obtain ⟨a1,a2,a3,a4⟩:=cBg r (bZq v p.name (cAw p)) (hk.put _ _) hd.2 (λx hx=>by
   rw [cAl,if_neg Hf];exact h0 x (List.mem_cons_of_mem _ hx))
  have e:bZv (p::r) v=bZv r (bZq v p.name (cAw p)):=by rw [bZv,if_pos (h0 p List.mem_cons_self)]
  rw [e]
  refine ⟨a1,a2,λx hx=>?_,λs hs=>?_⟩
  ·rcases mem_cons.1 hx with rfl|hx
   ·rw [a4 _ hd.1,cAl,if_pos rfl]
   exact a3 x hx
  simp only [List.map_cons,mem_cons,not_or] at hs
  rw [a4 s hs.2,cAl,if_neg (λe=>hs.1 e.symm)]
theorem cB0:∀(l:List aS)(v:Vis),KN v -> KN (cAk l v) /\ ∀s,bZp (cAk l v) s=if s∈l.map aS.name then 0 else bZp v s
 |[],v,h=>⟨h,λs=>by simp [cAk]⟩
 |x::l,v,h=>by
  obtain ⟨h1,h2⟩:=cB0 l (bZy v x.name) (h.del x.name)
  refine ⟨h1,λs=>?_⟩
  show bZp (cAk l (bZy v x.name)) s=_
  rw [h2,cCs h,List.map_cons]
  by_cases hs:s∈l.map aS.name
  ·rw [if_pos hs,if_pos (List.mem_cons_of_mem _ hs)]
  rw [if_neg hs]
  by_cases hk:x.name=s
  ·rw [if_pos hk,if_pos GJ]
  rw [if_neg hk,if_neg (λhm=>(mem_cons.1 hm).elim (λe=>hk e.symm) hs)]
theorem cDs{α:Type}(nm:α -> ByteArray)(g:Nat -> ByteArray)(l:List α)(h:∀k (hk:k<l.length),nm l[k]=g k):l.map nm=(List.range l.length).map g:=by
 apply List.ext_getElem
 ·simp
 intro i h1 h2
 simp only [List.length_map] at h1
 simp only [List.getElem_map,List.getElem_range]
 exact h i h1
theorem cDb{a b:Nat}(h:a <= b):(List.range a).Sublist (List.range b):=by
 rw [←Nat.add_sub_cancel' h,List.range_add];exact List.sublist_append_left _ _
theorem cA5{α:Type}(nm:α -> ByteArray)(g:Nat -> ByteArray)(l:List α)(n:Nat)(hn:l.length <= n)(h:∀k (hk:k<l.length),nm l[k]=g k):(l.map nm).Sublist ((List.range n).map g):=by
 rw [cDs nm g l h];exact (cDb hn).map g
section
variable {p:cK}(hp:sY p)
include hp
omit hp in theorem sorts_names:(bZs p).map (·.1)=p.globals.map aI.name++(p.mutexes.map cL.name++p.funcs.map bS.name):=by
 unfold bZs;simp [List.map_map,Function.comp_def]
theorem cC2(k:Nat)(h:k<p.funcs.length):p.funcs[k].name=dA9 k:=by
 have h1:=hp.funcs.2.2 k h
 unfold dA9
 by_cases h0:k=0
 ·rw [if_pos h0];exact (h1.1 h0).1
 rw [if_neg h0];exact h1.2.1 J
theorem cBk:((bZs p).map (·.1)).Sublist cDi:=by
 rw [sorts_names]
 exact (cA5 aI.name cEb p.globals 2 hp.globals.1 λk h=>(hp.globals.2 k h).1).append
  ((cA5 cL.name cEa p.mutexes 4 hp.mutexes.2.1 λk h=>(hp.mutexes.2.2 k h).1).append (cA5 bS.name dA9 p.funcs 4 hp.funcs.2.1 (cC2 hp)))
theorem cCe:(p.funcs.map bS.name).Nodup:=by
 refine ((cA5 bS.name dA9 p.funcs 4 hp.funcs.2.1 (cC2 hp))).nodup cD5
theorem cDd{f:bS}(hf:f∈p.funcs):∀x,x∈f.params -> ∃i,i<3 /\ x.name=cB7 i:=by
 obtain ⟨k,hk,rfl⟩:=List.getElem_of_mem hf
 obtain ⟨h1,h2⟩:=(hp.funcs.2.2 k hk).2.2
 intro x hx
 obtain ⟨j,hj,rfl⟩:=List.getElem_of_mem hx
 exact ⟨_,J,h2 j hj⟩
theorem cC7{f:bS}(hf:f∈p.funcs):(f.params.map aS.name).Nodup:=by
 obtain ⟨k,hk,rfl⟩:=List.getElem_of_mem hf
 obtain ⟨h1,h2⟩:=(hp.funcs.2.2 k hk).2.2
 unfold List.Nodup
 rw [List.pairwise_iff_getElem]
 intro i j hi hj hij
 simp only [List.length_map] at hi hj
 simp only [List.getElem_map]
 rw [h2 i hi,h2 j hj]
 intro e
 have:=p_p _ J _ J e
 omega
theorem cC9{v:Vis}(hk:KN v)(hs:∀x,x∈bZs p -> bZp v x.1=x.2)(h0:∀s,s∉(bZs p).map (·.1) -> bZp v s=0){f:bS}(hf:f∈p.funcs){left left':Nat}(hl:left <= 24)
  (h:dJ p.mutexes (p.funcs.map bS.sig) f.params (uS p.globals f.params) 2 left f.body left'):(cAe (bZ7 p.funcs) f v).1=0 /\ KN (cAe (bZ7 p.funcs) f v).2.vis /\ ∀s,bZp (cAe (bZ7 p.funcs) f v).2.vis s=bZp v s:=by
 have hpn:=cDd hp hf
 have hno:∀x,x∈f.params -> x.name∉(bZs p).map (·.1):=λx hx hm=>by
  obtain ⟨i,hi,e⟩:=hpn x hx
  exact cEc i hi (e▸(cBk hp).subset hm)
 obtain ⟨a1,a2,a3,a4⟩:=cBg f.params v hk (cC7 hp hf) (λx hx=>h0 _ (hno x hx))
 have keep:∀x,x∈bZs p -> bZp (bZv f.params v).2 x.1=x.2:=λx hx=>by
  rw [a4 _ (λhm=>?_)];·exact hs x hx
  obtain ⟨y,hy,e⟩:=List.mem_map.1 hm
  exact hno y hy (e▸List.mem_map_of_mem hx)
 have hv:cBn p.mutexes (p.funcs.map bS.sig) f.params (bZ7 p.funcs) (uS p.globals f.params) left (bZv f.params v).2:=by
  refine ⟨a2,λx hx=>?_,λm hm=>?_,λx hx hm=>?_,λg hg=>?_,λj hj=>?_⟩
  ·unfold uS at hx
   rcases mem_append.1 hx with hx|hx
   ·obtain ⟨g,hg,rfl⟩:=List.mem_map.1 hx
    exact keep (g.name,1) (by unfold bZs;exact List.mem_append_left _ (List.mem_map.2 ⟨g,hg,rfl⟩))
   obtain ⟨y,hy,rfl⟩:=List.mem_map.1 hx
   obtain ⟨h1,h2⟩:=List.mem_filter.1 hy
   rw [a3 y h1];unfold cAw;rw [if_neg B4]
  ·exact keep (m.name,cAr m) (by unfold bZs;exact List.mem_append_right _ (List.mem_append_left _ (List.mem_map.2 ⟨m,hm,rfl⟩)))
  ·rw [a3 x hx];unfold cAw;rw [if_pos hm]
  ·obtain ⟨y,hy,rfl⟩:=List.mem_map.1 hg
   exact ⟨keep (y.name,5) (by unfold bZs;exact List.mem_append_right _ (List.mem_append_right _ (List.mem_map.2 ⟨y,hy,rfl⟩))),y,cBj _ _ (cCe hp) y hy,Y⟩
  rw [a4 _ (λhm=>?_)]
  ·exact h0 _ (λhm=>cEf j J ((cBk hp).subset hm))
  obtain ⟨y,hy,e⟩:=List.mem_map.1 hm
  obtain ⟨i,hi,e2⟩:=hpn y hy
  exact p_v i hi j J (e.symm.trans e2)
 obtain ⟨n',a',v',e1,e2,e3⟩:=(h.res (fs:=bZ7 p.funcs) _ hv J).fin hv.free 0 (-1)
 have e:cAe (bZ7 p.funcs) f v=(0,⟨cAk f.params v',n',a'⟩):=by
  unfold cAe;rw [if_pos a1];unfold bZ2;rw [e1]
 obtain ⟨g1,g2⟩:=cB0 f.params v' e2
 rw [e]
 refine ⟨Y,g1,λs=>?_⟩
 show bZp (cAk f.params v') s=_
 rw [g2,e3]
 split
 ·rename_i hm
  obtain ⟨y,hy,rfl⟩:=List.mem_map.1 hm
  exact (h0 _ (hno y hy)).symm
 rename_i hm
 exact a4 s hm
theorem cCy{left:Nat}{l:List bS}(h:kZ p.mutexes (p.funcs.map bS.sig) p.globals left l):∀(v:Vis)(i:Nat),left <= 24 -> KN v -> (∀x,x∈bZs p -> bZp v x.1=x.2) -> (∀s,s∉(bZs p).map (·.1) -> bZp v s=0) -> (∀f,f∈l -> f∈p.funcs) -> cAg (bZ7 p.funcs) l i v=(0,0,0):=by
 induction h with
 |nil=>intro v i _ _ _ _ _;rfl
 |@cons left left' f l h hl ih=>
  intro v i h24 hk hs h0 hm
  obtain ⟨b1,b2,b3⟩:=cC9 hp hk hs h0 (hm f List.mem_cons_self) h24 h
  rw [cAg,if_pos b1]
  exact ih _ _ (Nat.le_trans h.le h24) b2 (λx hx=>by rw [b3];exact hs x hx) (λs hs=>by rw [b3];exact h0 s hs) (λg hg=>hm g (List.mem_cons_of_mem _ hg))
theorem cDm:cAb p=(0,0,0):=by
 obtain ⟨a1,a2,a3,a4⟩:=cBt (bZs p) [] 0 (by unfold KN;simp) ((cBk hp).nodup cCx) (λ_ _=>rfl)
 have hm:cA9 p=true:=by
  have h1:=hp.funcs.1
  have h2:=hp.funcs.2.2 0 h1
  have h3:=cBj p.funcs [] (cCe hp) _ (getElem_mem h1)
  rw [(h2.1 rfl).1] at h3
  unfold cA9
  have e:bZu (bZ7 p.funcs) cCg=some p.funcs[0]:=h3
  rw [e];dsimp only;rw [(h2.1 rfl).2];rfl
 unfold cAb
 rw [yO hp,if_neg V,a1]
 dsimp only
 rw [if_pos hm]
 exact cCy hp hp.bodies _ _ (Nat.le_refl _) a2 a3 (λs hs=>by rw [a4 s hs];rfl) (λf hf=>hf)
end
end
end
section
open Go.ChangeShapes Go.WideShapes Go.ChangeAt Go.RowKit
theorem bE2{n:Int}(h:(Lit.int .i64 n).wf=true):-9223372036854775808 <= n /\ n <= 9223372036854775807:=by
 simp only [Lit.wf,Bool.and_eq_true,decide_eq_true_eq] at h
 exact h
theorem cSf{p:cK}(hp:sY p):cFx p=(0,0,0):=by rw [←cLp,cDm hp]
theorem cTt{p:cK}(h:cFx p=(0,0,0)):(cKk p).procs.length=p.funcs.length /\ ∀k (hk:k<(cKk p).procs.length) (hk':k<p.funcs.length),(cKk p).procs[k]=cGe p p.funcs[k]:=by
 have e:(cKk p).procs=p.funcs.map (cGe p):=by rw [cLm h]
 refine ⟨by rw [e,List.length_map],λk hk hk'=>?_⟩
 rw [List.getElem_of_eq e,List.getElem_map]
end
section
mutual
def mE(g:ByteArray -> ByteArray):aH -> aH
 |.mk op num name args=>.mk op num (if op=2 then g name else name) (mEs g args)
def mEs(g:ByteArray -> ByteArray):List aH -> List aH
 |[]=>[]
 |e::r=>mE g e::mEs g r
end
theorem cZv(g:ByteArray -> ByteArray):∀l:List aH,mEs g l=l.map (mE g)
 |[]=>by rw [mEs];rfl
 |e::l=>by rw [mEs,cZv g l];rfl
def mR(g:ByteArray -> ByteArray)(r:cY):cY:=⟨g r.name,r.index.map (mE g)⟩
def mA(g:ByteArray -> ByteArray)(a:eN):eN:=⟨a.mutex,mR g a.ref,mE g a.expr⟩
mutual
def mS(g:ByteArray -> ByteArray):aJ -> aJ
 |.mk k n e r a t f=>.mk k (g n) (mE g e) (mR g r) (a.map (mA g)) (mSs g t) (mSs g f)
def mSs(g:ByteArray -> ByteArray):List aJ -> List aJ
 |[]=>[]
 |s::l=>mS g s::mSs g l
end
theorem cZ2(g:ByteArray -> ByteArray):∀l:List aJ,mSs g l=l.map (mS g)
 |[]=>by rw [mSs];rfl
 |e::l=>by rw [mSs,cZ2 g l];rfl
def mQ(g:ByteArray -> ByteArray)(x:aS):aS:=⟨g x.name,x.mutex⟩
def mF(g h:ByteArray -> ByteArray)(f:bS):bS:=⟨g f.name,f.params.map (mQ h),mSs g f.body⟩
def mG(g:ByteArray -> ByteArray)(x:aI):aI:=⟨g x.name,x.init⟩
def mM(g:ByteArray -> ByteArray)(x:cL):cL:=⟨g x.name,x.reentrant,x.size⟩
def mP(g h:ByteArray -> ByteArray)(p:cK):cK:=⟨p.globals.map (mG g),p.mutexes.map (mM g),p.funcs.map (mF g h)⟩
end
section
def bX1(t:Nat)(x:aH):Nat:=if aM x.op<t then 1 else 0
theorem bZi{t t':Nat}(h:t' <= t)(x:aH):bX1 t' x <= bX1 t x:=by unfold bX1;split<;>split<;>omega
structure Inv (t d:Nat) (x:aH) (n:Nat):Prop where
 ve:VE x
 high:dI x+bX1 t x <= d
 few:(aT x).length+2*bX1 t x <= n
theorem Inv.mono{t t' d d' n n':Nat}{x:aH}(h:Inv t d x n)(ht:t' <= t)(hd:d <= d')(hn:n <= n'):Inv t' d' x n':=by
 have:=bZi ht x
 exact ⟨h.ve,by have:=h.high;omega,by have:=h.few;omega⟩
theorem bXy(b:Bool)(l:List PT):(dAe b l).length=l.length+2*(if b then 1 else 0):=by cases b<;>simp [dAe]
theorem bYh{op:Int}{k s t:Nat}(x:aH)(hs:aM op=s)(ht:t=if k=1 then s+1 else s):(if cV op k x.op then 1 else 0)=bX1 t x:=by
 unfold cV bX1
 by_cases hk:k=1
 focus
  rw [if_pos hk] at ht
 rotate_left
 rw [if_neg hk] at ht
 all_goals
  by_cases h:aM x.op<t
  ·rw [if_pos h,decide_eq_true J];rfl
  rw [if_neg h,decide_eq_false J];rfl
theorem Inv.un{op:Int}{d n:Nat}{x:aH}(h:op=3∨op=4)(i:Inv 5 d x n):Inv 5 (d+1) (.mk op 0 aK [x]) (n+1):=by
 have hs:aM op=5:=by rcases h with rfl|rfl<;>rfl
 have hp:=bYh (k:=0) (t:=5) x hs Y
 have h0:bX1 5 (.mk op 0 aK [x])=0:=by unfold bX1;rw [if_neg (by show ¬aM op<5;omega)]
 refine ⟨.un op x h i.ve,?_,?_⟩
 ·rw [aJb h,hp,h0];have:=i.high;omega
 rw [yB h,length_cons,bXy,hp,h0];have:=i.few;omega
theorem Inv.bin{op:Int}{d n m s:Nat}{x y:aH}(h:5 <= op /\ op <= 17)(hs:aM op=s)(ix:Inv s d x n)(iy:Inv (s+1) d y m):Inv s d (.mk op 0 aK [x,y]) (n+1+m):=by
 have h1:=bYh (k:=0) (t:=s) x hs Y
 have h2:=bYh (k:=1) (t:=s+1) y hs Y
 have h0:bX1 s (.mk op 0 aK [x,y])=0:=by unfold bX1;rw [if_neg (by show ¬aM op<s;omega)]
 refine ⟨.bin op x y h ix.ve iy.ve,?_,?_⟩
 ·rw [aGo h,h1,h2,h0];have:=ix.high;have:=iy.high;omega
 rw [uI h,length_append,length_cons,bXy,bXy,h1,h2,h0];have:=ix.few;have:=iy.few;omega
end
section
structure bX7 (x:cK) (n:Nat):Prop where
 gl:∀g,g∈x.globals -> VG g
 ml:∀g,g∈x.mutexes -> VM g
 fl:∀g,g∈x.funcs -> VF g
 lg:x.globals.length <= 16
 lm:x.mutexes.length <= 12
 lf:x.funcs.length <= 16
 sum:(x.globals.map bEr).flatten.length+(x.mutexes.map gT).flatten.length+(x.funcs.map kA).flatten.length <= n
end
end Go.Proofs.YtjgeihmhppadaaaGreatDoor
