import Derived.Test.YtbdfdjdgfanjaaaGreatDoorG24J
set_option linter.all false
set_option synthInstance.maxHeartbeats 1000000
set_option synthInstance.maxSize 1000000
set_option maxHeartbeats 1600000
set_option maxRecDepth 100000
namespace Go.Proofs.YtbdfdjdgfanjaaaGreatDoor
open Go.Proofs.Tryz
open List (length_append length_cons length_nil mem_append mem_cons not_mem_nil append_assoc getElem_mem take_of_length_le)
section
theorem dV{s:ByteArray}(h:bQ s=true):s.size <= 16:=by
 unfold bQ at h
 split at h
 ·cases h
 simp only [Bool.and_eq_true,decide_eq_true_eq] at h;exact h.1.2
theorem eT.nodes{names:List ByteArray}{d:Nat}{e:aH}(h:eT names d e):e.nodes+3 <= 4*2 ^ d:=by
 induction h with
 |@name d x h=>rw [aH.nodes,cZ];have:=Nat.one_le_two_pow (n:=d);omega
 |@num d n h0 h1=>rw [aH.nodes,cZ];have:=Nat.one_le_two_pow (n:=d);omega
 |@un d op e ho he ih=>rw [aH.nodes,cZ,cZ,Nat.pow_succ];have:=Nat.one_le_two_pow (n:=d);omega
 |@bin d op a b h0 h1 ha hb iha ihb=>rw [aH.nodes,cZ,cZ,cZ,Nat.pow_succ];have:=Nat.one_le_two_pow (n:=d);omega
theorem eT.tame{names:List ByteArray}{d:Nat}{e:aH}(hn:∀x,x∈names -> bQ x=true)(h:eT names d e):e.tame:=by
 induction h with
 |@name d x h=>rw [aH.tame];exact ⟨V,Nat.le_trans (dV (hn x h)) V,by rw [oG];trivial⟩
 |@num d n h0 h1=>rw [aH.tame];exact ⟨J,V,by rw [oG];trivial⟩
 |@un d op e ho he ih=>rw [aH.tame];exact ⟨V,V,by rw [oG,oG];exact ⟨ih,trivial⟩⟩
 |@bin d op a b h0 h1 ha hb iha ihb=>rw [aH.tame];exact ⟨V,V,by rw [oG,oG,oG];exact ⟨iha,ihb,trivial⟩⟩
theorem sX{op:Int}(h0:5 <= op)(h1:op <= 17):aM op<5:=by
 unfold aM
 repeat' split
 all_goals omega
theorem aDj{op:Int}(h:op=3∨op=4):aM op=5:=by
 rcases h with rfl|rfl<;>rfl
theorem eT.shape{names:List ByteArray}{d:Nat}{e:aH}(hn:∀x,x∈names -> bQ x=true)(h:eT names d e):eO e=true:=by
 induction h with
 |@name d x h=>
  rw [eO,dY,show aM 2=6 from rfl,if_pos rfl,jG,arity,show aM 2=6 from rfl,if_pos rfl,hn x h];simp
 |@num d n h0 h1=>
  rw [eO,dY,show aM 1=6 from rfl,if_pos rfl,jG,arity,show aM 1=6 from rfl,if_pos rfl];simp [h0]
 |@un d op e ho he ih=>
  have hs:=aDj ho
  rw [eO,dY,dY,arity,hs,if_neg V,if_neg V,if_pos rfl,ih];simp
 |@bin d op a b h0 h1 ha hb iha ihb=>
  have hs:=sX h0 h1
  rw [eO,dY,dY,dY,arity,if_neg J,if_neg J,if_neg J,iha,ihb];simp
theorem eT.height{names:List ByteArray}{d:Nat}{e:aH}(h:eT names d e):dI e <= 2*d:=by
 induction h with
 |@name d x h=>rw [dI,bSm,if_neg V];omega
 |@num d n h0 h1=>rw [dI,bSm,if_neg V];omega
 |@un d op e ho he ih=>rw [dI,bSm,bSm];split<;>split<;>omega
 |@bin d op a b h0 h1 ha hb iha ihb=>rw [dI,bSm,bSm,bSm];split<;>split<;>split<;>omega
theorem eT.valid{names:List ByteArray}{d:Nat}{e:aH}(hn:∀x,x∈names -> bQ x=true)(h:eT names d e)(hd:d <= 12):dM e=true:=by
 rw [dM,h.shape hn,Bool.true_and,decide_eq_true_eq];have:=h.height;omega
theorem eT.sane{names:List ByteArray}{d:Nat}{e:aH}(hn:∀x,x∈names -> bQ x=true)(h:eT names d e):e.sane:=by
 induction h with
 |@name d x h=>rw [aH.sane];exact ⟨F4,Nat.le_trans (dV (hn x h)) V,by rw [iI];trivial⟩
 |@num d n h0 h1=>rw [aH.sane];exact ⟨F4,V,by rw [iI];trivial⟩
 |@un d op e ho he ih=>rw [aH.sane];exact ⟨F4,V,by rw [iI,iI];exact ⟨ih,trivial⟩⟩
 |@bin d op a b h0 h1 ha hb iha ihb=>rw [aH.sane];exact ⟨F4,V,by rw [iI,iI,iI];exact ⟨iha,ihb,trivial⟩⟩
theorem rQ{n:Int}(h0:-9223372036854775808 <= n)(h1:n <= 9223372036854775807):(eH n).length <= 21:=by
 have:=kC n.natAbs J
 unfold eH
 split<;>simp<;>omega
theorem eT.len{names:List ByteArray}{d:Nat}{e:aH}(hn:∀x,x∈names -> bQ x=true)(h:eT names d e):(aP e).length+10 <= 31*2 ^ d:=by
 induction h with
 |@name d x h=>
  have h1:=dV (hn x h)
  have h2:x.data.toList.length=x.size:=Y
  rw [aP,iX,if_neg V,if_pos rfl];have:=Nat.one_le_two_pow (n:=d);omega
 |@num d n h0 h1=>
  have:=rQ (n:=n) J J
  rw [aP,iX,if_pos rfl];have:=Nat.one_le_two_pow (n:=d);omega
 |@un d op e ho he ih=>
  rw [aP,dP,dP,Nat.pow_succ]
  have hl:∀x:List UInt8,(iX op 0 aK [x]).length=x.length+1:=by
   intro x;rcases ho with rfl|rfl<;>simp [iX]
  rw [hl]
  have:=Nat.one_le_two_pow (n:=d)
  split
  ·simp only [length_append,length_cons,length_nil];omega
  ·omega
 |@bin d op a b h0 h1 ha hb iha ihb=>
  rw [aP,dP,dP,dP,Nat.pow_succ]
  have hs:=sX h0 h1
  have ho:=aAr op
  have hl:∀x y:List UInt8,(iX op 0 aK [x,y]).length=x.length+1+(iW op).length+1+y.length:=by
   intro x y;rw [iX,if_neg J,if_neg J,if_neg J,if_neg J,if_pos hs];simp;omega
  rw [hl]
  split<;>split<;>(try simp only [length_append,length_cons,length_nil])<;>omega
end
section
theorem aH.zero_sane:aH.zero.sane:=by unfold aH.zero;rw [aH.sane];exact ⟨F4,V,by rw [iI];trivial⟩
theorem cY.zero_sane:cY.zero.sane:=⟨V,F8⟩
theorem aH.zero_nodes:aH.zero.nodes=1:=by unfold aH.zero;rw [aH.nodes,cZ]
theorem cY.zero_wt:cY.zero.wt=1:=by unfold cY.wt cY.zero;rw [cZ]
def lC(l:List ByteArray):Prop:=∀x,x∈l -> bQ x=true
theorem mQ:bLg .zero=true:=by simp [bLg,aH.zero,aH.op,aH.num,aH.name,aH.args]
theorem jN:kM .zero=true:=by simp [kM,cY.zero]
section
variable {ms:List cL}{fs:List Sig}{ps:List aS}
theorem uA.ok{vars:List ByteArray}{r:cY}(hm:∀m,m∈ms -> bQ m.name=true)(hp:∀x,x∈ps -> bQ x.name=true)(hv:lC vars)(h:uA ms ps vars r):
  okRefB r=true /\ (r.sane /\ r.wt <= 7) /\ (dC r).length <= 70:=by
 have size:∀x:ByteArray,bQ x=true -> x.data.toList.length <= 16:=λx h=>dV h
 cases h with
 |@arr m e h1 h2 he=>
  have hl:=he.len hv
  have:=size _ (hm m h1)
  refine ⟨by show (bQ m.name && dM e)=true;rw [hm m h1,he.valid hv J];rfl,⟨⟨Nat.le_trans (dV (hm m h1)) V,by show iI [e];rw [iI,iI];exact ⟨he.sane hv,trivial⟩⟩,by have:=he.nodes;unfold cY.wt;show 1+cZ [e] <= 7;rw [cZ,cZ];omega⟩,?_⟩
  ·simp only [dC,length_append,length_cons,length_nil];omega
 |@scalar m h1 h2=>
  have:=size _ (hm m h1)
  exact ⟨by show (bQ m.name && true)=true;rw [hm m h1];rfl,⟨⟨Nat.le_trans (dV (hm m h1)) V,F8⟩,Gw⟩,by simp only [dC];omega⟩
 |@param x h1 h2=>
  have:=size _ (hp x h1)
  exact ⟨by show (bQ x.name && true)=true;rw [hp x h1];rfl,⟨⟨Nat.le_trans (dV (hp x h1)) V,F8⟩,Gw⟩,by simp only [dC];omega⟩
theorem nO{α:Type}(f:α -> List UInt8)(x:α)(l:List α):(bW f (x::l)).length <= (f x).length+2+(bW f l).length:=by
 cases l with
 |nil=>simp [bW]
 |cons y r=>simp [bW];omega
theorem nB.ok{vars:List ByteArray}{l:List aS}{al:List eN}(hm:∀m,m∈ms -> bQ m.name=true)(hp:∀x,x∈ps -> bQ x.name=true)(hv:lC vars)(h:nB ms ps vars l al):
  al.all fY=true /\ ((∀a,a∈al -> a.sane) /\ wtA al <= 15*l.length) /\ al.length=l.length /\ (bW dE al).length <= 122*l.length:=by
 induction h with
 |nil=>exact ⟨rfl,⟨(λa h=>DU),by rw [wtA];simp⟩,rfl,FE⟩
 |@mutex x l al r hx hr h ih=>
  obtain ⟨i1,i2,i3,i4⟩:=ih
  obtain ⟨h1,h2,h3⟩:=hr.ok hm hp hv
  refine ⟨by rw [List.all_cons,i1,fY,if_pos rfl,h1,mQ];rfl,⟨?_,?_⟩,by simp [i3],?_⟩
  ·intro a ha
   rcases mem_cons.1 ha with rfl|ha
   ·exact ⟨h2.1,aH.zero_sane⟩
   exact i2.1 a ha
  ·have:=i2.2;have:=h2.2;rw [wtA];unfold eN.wt;rw [aH.zero_nodes,length_cons];show 1+r.wt+1+wtA al <= _;omega
  ·have:=nO dE ⟨true,r,.zero⟩ al
   have h4:(dE ⟨true,r,.zero⟩).length=6+(dC r).length:=by simp [dE];omega
   rw [length_cons];omega
 |@expr x l al e hx he h ih=>
  obtain ⟨i1,i2,i3,i4⟩:=ih
  have hl:=he.len hv
  refine ⟨by rw [List.all_cons,i1,fY,if_neg G0,jN,he.valid hv J];rfl,⟨?_,?_⟩,by simp [i3],?_⟩
  ·intro a ha
   rcases mem_cons.1 ha with rfl|ha
   ·exact ⟨cY.zero_sane,he.sane hv⟩
   exact i2.1 a ha
  ·have:=i2.2;have:=he.nodes;rw [wtA];unfold eN.wt;rw [cY.zero_wt,length_cons];show 1+1+e.nodes+wtA al <= _;omega
  have:=nO dE ⟨false,.zero,e⟩ al
  have h4:(dE ⟨false,.zero,e⟩).length=(aP e).length:=by simp [dE]
  rw [length_cons];omega
theorem aAe:∀left,left<24 -> bQ (cM left)=true:=by
 intro left h
 have:(List.range 24).all (λk=>bQ (cM k))=true:=B6
 exact List.all_eq_true.1 this left (List.mem_range.2 h)
end
theorem qL(D:Nat)(hD:D<24):∀(a b:List aJ),bM D (a++b)=(bM D a && bM D b)
 |[],b=>by rw [List.nil_append,bM,decide_eq_true hD,Bool.true_and]
 |s::r,b=>by rw [List.cons_append,bM,bM,qL D hD r b,Bool.and_assoc]
theorem uJ:∀(a b:List aJ),gC (a++b)↔gC a /\ gC b
 |[],b=>by rw [List.nil_append,gC];simp
 |s::r,b=>by rw [List.cons_append,gC,gC,uJ r b,and_assoc]
theorem aAn:∀(a b:List aJ),wtS (a++b)=wtS a+wtS b
 |[],b=>by rw [List.nil_append,wtS];omega
 |s::r,b=>by rw [List.cons_append,wtS,wtS,aAn r b];omega
theorem qZ:gC []:=by rw [gC];trivial
structure SOk (D:Nat) (tabs:List UInt8) (n:Nat) (s:aJ):Prop where
 ok:bK9 D s=true
 sane:s.sane
 wt:s.wt <= 60*n
 len:(bY tabs s).length <= 700*n
structure LOk (D:Nat) (tabs:List UInt8) (n:Nat) (l:List aJ):Prop where
 ok:bM D l=true
 sane:gC l
 wt:wtS l <= 60*n
 len:(aC tabs l).length <= 700*n
theorem LOk.cons{D n m k:Nat}{tabs:List UInt8}{s:aJ}{l:List aJ}(h:SOk D tabs n s)(hl:LOk D tabs m l)(hk:n+m <= k):LOk D tabs k (s::l):=
 ⟨by rw [bM,h.ok,hl.ok];rfl,by rw [gC];exact ⟨h.sane,hl.sane⟩,by rw [wtS];have:=h.wt;have:=hl.wt;omega,by rw [aC,length_append];have:=h.len;have:=hl.len;omega⟩
theorem LOk.cons'{D n m k:Nat}{tabs:List UInt8}{s:aJ}{l:List aJ}(hl:LOk D tabs m l)(h:SOk D tabs n s)(hk:n+m <= k):LOk D tabs k (s::l):=LOk.cons h hl hk
theorem LOk.nil{D n:Nat}{tabs:List UInt8}(hD:D<24):LOk D tabs n []:=
 ⟨by rw [bM];exact decide_eq_true hD,by rw [gC];trivial,by rw [wtS];omega,by rw [aC];simp⟩
section
variable {ms:List cL}{fs:List Sig}{ps:List aS}
theorem SOk.of{D n:Nat}{tabs:List UInt8}{k:Int}{name:ByteArray}{e:aH}{r:cY}{al:List eN}{t el:List aJ}
  (h0:1 <= k /\ k <= 9) (h1:(if 1 <= k /\ k <= 4 then bQ name else decide (name=aK))=true) (h2:(if k=1∨k=2∨k=7∨k=8 then dM e else bLg e)=true)
  (h3:(if k=5∨k=6 then okRefB r else kM r)=true) (h4:(decide (k=3∨k=4)||decide (al.length=0))=true) (h5:al.all fY=true)
  (h6:(if k=7∨k=8 then bM (D+1) t else decide (t.length=0))=true) (h7:(decide (el.length=0)||(decide (k=7) && bM (D+1) el))=true)
  (hf:(aJ.mk k name e r al t el).sane) (hc:(aJ.mk k name e r al t el).wt <= 60*n) (hl:(bY tabs (.mk k name e r al t el)).length <= 700*n):SOk D tabs n (.mk k name e r al t el):=
 ⟨by rw [bK9,decide_eq_true h0,h1,h2,h3,h4,h5,h6,h7];rfl,hf,hc,hl⟩
theorem aAo{x:ByteArray}(h:bQ x=true):x.data.toList.length <= 16:=dV h
theorem yA{D:Nat}{tabs:List UInt8}{vars:List ByteArray}{k:Int}{r:cY}(hk:k=5∨k=6)(ht:tabs.length <= 4)(hm:∀m,m∈ms -> bQ m.name=true)(hp:∀x,x∈ps -> bQ x.name=true)(hv:lC vars)(h:uA ms ps vars r):
  SOk D tabs 1 (.mk k aK .zero r [] [] []) /\ (bY tabs (.mk k aK .zero r [] [] [])).length <= 90:=by
 obtain ⟨h1,h2,h3⟩:=h.ok hm hp hv
 have hl:(bY tabs (.mk k aK .zero r [] [] [])).length <= 90:=by
  rw [bY]
  rcases hk with rfl|rfl<;>simp<;>omega
 refine ⟨SOk.of J (by rw [if_neg J];exact decide_eq_true rfl) (by rw [if_neg J];exact mQ) (by rw [if_pos hk];exact h1) G0 Y (by rw [if_neg J];rfl) G0 ?_ ?_ J,hl⟩
 ·rw [aJ.sane];exact ⟨V,aH.zero_sane,h2.1,F1,qZ,qZ⟩
 rw [gD];show 1+aH.zero.nodes+r.wt+wtA []+wtS []+wtS [] <= _;rw [aH.zero_nodes,wtA,wtS];have:=h2.2;omega
theorem dJ.ok{vars:List ByteArray}{deep left left':Nat}{l:List aJ}(hm:∀m,m∈ms -> bQ m.name=true)(hp:∀x,x∈ps -> bQ x.name=true)
  (hg:∀g,g∈fs -> bQ g.1=true /\ g.2.length <= 2) (h:dJ ms fs ps vars deep left l left'):
  lC vars -> left <= 24 -> ∀(D:Nat)(tabs:List UInt8),D+deep<24 -> tabs.length+deep <= 4 -> LOk D tabs (left-left') l:=by
 induction h with
 |nil=>intro _ _ D tabs hD _;exact .nil J
 |lock hr h ih=>
  intro hv hl D tabs hD ht
  have:=h.le
  exact (ih hv J D tabs hD ht).cons' (yA (.inl Y) J hm hp hv hr).1 J
 |unlock hr h ih=>
  intro hv hl D tabs hD ht
  have:=h.le
  exact (ih hv J D tabs hD ht).cons' (yA (.inr Y) J hm hp hv hr).1 J
 |@var vars deep left left' e rest he h ih=>
  intro hv hl D tabs hD ht
  have:=h.le
  have hn:=aAe left J
  have hnl:=aAo hn
  have hns:=dV hn
  have hel:=he.len hv
  refine (ih (λx hx=>?_) J D tabs hD ht).cons' (n:=1) (SOk.of J (by rw [if_pos V];exact hn) Fv Fz G0 Y F7 G0 ?_ ?_ ?_) J
  ·rcases mem_append.1 hx with hx|hx
   ·exact hv x hx
   simp only [List.mem_singleton] at hx;subst hx;exact hn
  ·rw [aJ.sane];exact ⟨Nat.le_trans hns V,he.sane hv,cY.zero_sane,F1,qZ,qZ⟩
  ·rw [gD];show 1+e.nodes+cY.zero.wt+wtA []+wtS []+wtS [] <= _;rw [cY.zero_wt,wtA,wtS];have:=he.nodes;omega
  ·rw [bY];simp;omega
 |@assign vars deep left left' x e rest hx he h ih=>
  intro hv hl D tabs hD ht
  have:=h.le
  have hn:=hv x hx
  have hnl:=aAo hn
  have hns:=dV hn
  have hel:=he.len hv
  refine (ih hv J D tabs hD ht).cons' (n:=1) (SOk.of J (by rw [if_pos V];exact hn) Fv Fz G0 Y F7 G0 ?_ ?_ ?_) J
  ·rw [aJ.sane];exact ⟨Nat.le_trans hns V,he.sane hv,cY.zero_sane,F1,qZ,qZ⟩
  ·rw [gD];show 1+e.nodes+cY.zero.wt+wtA []+wtS []+wtS [] <= _;rw [cY.zero_wt,wtA,wtS];have:=he.nodes;omega
  ·rw [bY];simp;omega
 |@call vars deep left left' k g al rest hk hgm ha h ih=>
  intro hv hl D tabs hD ht
  have:=h.le
  obtain ⟨hn,hg2⟩:=hg g hgm
  have hnl:=aAo hn
  have hns:=dV hn
  obtain ⟨a1,a2,a3,a4⟩:=ha.ok hm hp hv
  refine (ih hv J D tabs hD ht).cons' (n:=1) (SOk.of J (by rw [if_pos J];exact hn) (by rw [if_neg J];exact mQ) (by rw [if_neg J];exact jN) (by rw [decide_eq_true hk];rfl) a1 (by rw [if_neg J];rfl) G0 ?_ ?_ ?_) J
  ·rw [aJ.sane];exact ⟨Nat.le_trans hns V,aH.zero_sane,cY.zero_sane,a2.1,qZ,qZ⟩
  ·rw [gD];show 1+aH.zero.nodes+cY.zero.wt+wtA al+wtS []+wtS [] <= _;rw [aH.zero_nodes,cY.zero_wt,wtS];have:=a2.2;omega
  ·have hat:(dF al).length <= 250:=by simp only [dF,length_append,length_cons,length_nil];omega
   rw [bY];rcases hk with rfl|rfl<;>simp<;>omega
 |@cond vars deep left l1 l2 left' e thn els rest he h1 h2 h3 i1 i2 i3=>
  intro hv hl D tabs hD ht
  have:=h1.le
  have:=h2.le
  have:=h3.le
  have hel:=he.len hv
  have j1:=i1 hv J (D+1) (tabs++[9]) J DR
  have j2:=i2 hv J (D+1) (tabs++[9]) J DR
  refine (i3 hv J D tabs hD ht).cons' (n:=1+(left-l1)+(l1-l2)) (SOk.of J Fx Fv Fz G0 Y (by rw [if_pos V];exact j1.ok) (by rw [j2.ok];simp) ?_ ?_ ?_) J
  ·rw [aJ.sane];exact ⟨V,he.sane hv,cY.zero_sane,F1,j1.sane,j2.sane⟩
  ·rw [gD];show 1+e.nodes+cY.zero.wt+wtA []+wtS thn+wtS els <= _;rw [cY.zero_wt,wtA];have:=he.nodes;have:=j1.wt;have:=j2.wt;omega
  ·have:=j1.len;have:=j2.len;rw [bY,if_neg V,if_neg V,if_neg V,if_neg V,if_neg V,if_neg V,if_pos V,if_neg V];simp only [length_append,length_cons,length_nil]
   split<;>(try simp only [length_append,length_cons,length_nil])<;>omega
 |@loop vars deep left l1 left' e thn rest he h1 h3 i1 i3=>
  intro hv hl D tabs hD ht
  have:=h1.le
  have:=h3.le
  have hel:=he.len hv
  have j1:=i1 hv J (D+1) (tabs++[9]) J DR
  refine (i3 hv J D tabs hD ht).cons' (n:=1+(left-l1)) (SOk.of J Fx Fv Fz G0 Y (by rw [if_pos V];exact j1.ok) G0 ?_ ?_ ?_) J
  ·rw [aJ.sane];exact ⟨V,he.sane hv,cY.zero_sane,F1,j1.sane,qZ⟩
  ·rw [gD];show 1+e.nodes+cY.zero.wt+wtA []+wtS thn+wtS [] <= _;rw [cY.zero_wt,wtA,wtS];have:=he.nodes;have:=j1.wt;omega
  ·have:=j1.len;rw [bY];simp;omega
 |@ret vars deep left left' rest h ih=>
  intro hv hl D tabs hD ht
  have:=h.le
  refine (ih hv J D tabs hD ht).cons' (n:=1) (SOk.of J Fx (by rw [if_neg V];exact mQ) Fz G0 Y F7 G0 ?_ ?_ ?_) J
  ·rw [aJ.sane];exact ⟨V,aH.zero_sane,cY.zero_sane,F1,qZ,qZ⟩
  ·rw [gD];show 1+aH.zero.nodes+cY.zero.wt+wtA []+wtS []+wtS [] <= _;rw [aH.zero_nodes,cY.zero_wt,wtA,wtS];omega
  ·rw [bY];simp;omega
 |@pair vars deep left l1 left' r mid rest hr h1 h3 i1 i3=>
  intro hv hl D tabs hD ht
  have:=h1.le
  have:=h3.le
  have j1:=i1 hv J D tabs J J
  have j3:=i3 hv J D tabs hD ht
  obtain ⟨s5,t5⟩:=yA (D:=D) (tabs:=tabs) (.inl rfl) J hm hp hv hr
  obtain ⟨s6,t6⟩:=yA (D:=D) (tabs:=tabs) (.inr rfl) J hm hp hv hr
  refine ⟨?_,?_,?_,?_⟩
  ·rw [bM,qL D J,bM,s5.ok,s6.ok,j1.ok,j3.ok];rfl
  ·rw [gC,uJ,gC];exact ⟨s5.sane,j1.sane,s6.sane,j3.sane⟩
  ·have w5:∀k:Int,(aJ.mk k aK .zero r [] [] []).wt <= 20:=λk=>by rw [gD];show 1+aH.zero.nodes+r.wt+wtA []+wtS []+wtS [] <= _;rw [aH.zero_nodes,wtA,wtS];have:=(hr.ok hm hp hv).2.1.2;omega
   rw [wtS,aAn,wtS];have:=j1.wt;have:=j3.wt;have:=w5 5;have:=w5 6;omega
  rw [aC,oX,aC];have:=j1.len;have:=j3.len;simp only [length_append];omega
end
theorem aFt:∀i,i<4 -> bQ (bytes [UInt8.ofNat (97+i)])=true:=by
 intro i h
 have:(List.range 4).all (λk=>bQ (bytes [UInt8.ofNat (97+k)]))=true:=B6
 exact List.all_eq_true.1 this i (List.mem_range.2 h)
theorem vO:∀i,i<4 -> bQ (bytes [103,UInt8.ofNat (48+i)])=true:=by
 intro i h
 have:(List.range 4).all (λk=>bQ (bytes [103,UInt8.ofNat (48+k)]))=true:=B6
 exact List.all_eq_true.1 this i (List.mem_range.2 h)
theorem aF0:∀i,i<4 -> bQ (bytes [112,UInt8.ofNat (48+i)])=true:=by
 intro i h
 have:(List.range 4).all (λk=>bQ (bytes [112,UInt8.ofNat (48+k)]))=true:=B6
 exact List.all_eq_true.1 this i (List.mem_range.2 h)
theorem aHd:∀i,i<4 -> bQ (bytes [102,UInt8.ofNat (48+i)])=true:=by
 intro i h
 have:(List.range 4).all (λk=>bQ (bytes [102,UInt8.ofNat (48+k)]))=true:=B6
 exact List.all_eq_true.1 this i (List.mem_range.2 h)
theorem aGx:bQ (bytes [109,97,105,110])=true:=B6
theorem pM.names{l:List aS}(h:pM l):∀x,x∈l -> bQ x.name=true:=by
 intro x hx
 obtain ⟨k,hk,rfl⟩:=List.getElem_of_mem hx
 rw [h.2 k hk];have:=h.1;exact aF0 _ J
theorem aMn.name{i:Nat}{f:bS}(h:aMn i f)(hi:i<4):bQ f.name=true:=by
 rcases Nat.eq_zero_or_pos i with h0|h0
 ·rw [(h.1 h0).1];exact aGx
 rw [h.2.1 h0];exact aHd i hi
theorem kZ.all{ms:List cL}{fs:List Sig}{gs:List aI}(hm:∀m,m∈ms -> bQ m.name=true)(hg:∀g,g∈fs -> bQ g.1=true /\ g.2.length <= 2)(hgl:∀g,g∈gs -> bQ g.name=true)
  {left:Nat} {l:List bS} (h:kZ ms fs gs left l):left <= 24 -> (∀f,f∈l -> ∀x,x∈f.params -> bQ x.name=true) -> ∀f,f∈l -> LOk 0 [9] 24 f.body:=by
 induction h with
 |nil=>intro _ _ f hf;simp at hf
 |@cons left left' f l hb hl ih=>
  intro hle hps g hgm
  have h1:=hb.le
  have hv:lC (uS gs f.params):=by
   intro x hx
   simp only [uS,mem_append,List.mem_map,List.mem_filter] at hx
   rcases hx with ⟨g,hg,rfl⟩|⟨y,⟨hy,_⟩,rfl⟩
   ·exact hgl g hg
   exact hps f G0 y hy
  rcases mem_cons.1 hgm with rfl|hgm
  ·have:=hb.ok hm (hps g G0) hg hv hle 0 [9] J G0
   exact ⟨this.ok,this.sane,by have:=this.wt;omega,by have:=this.len;omega⟩
  exact ih J (λf hf=>hps f (by simp [hf])) g hgm
theorem yF{α:Type}(f:α -> List UInt8)(c:Nat):∀l:List α,(∀x,x∈l -> (f x).length <= c) -> ((l.map f).flatten).length <= c*l.length
 |[],_=>G0
 |x::r,h=>by
  have h1:=yF f c r Gu
  have h2:=h x G0
  simp only [List.map_cons,List.flatten_cons,length_append,length_cons,Nat.mul_add,Nat.mul_one];omega
theorem aAv{x:aS}(h:bQ x.name=true):(bX x).length <= 22:=by
 have:=dV h
 rw [bX];split<;>simp<;>omega
theorem zH{α:Type}(f:α -> List UInt8)(c:Nat):∀l:List α,(∀x,x∈l -> (f x).length <= c) -> (bW f l).length <= (c+2)*l.length
 |[],_=>FE
 |x::r,h=>by
  have h1:=zH f c r Gu
  have h2:=h x G0
  have h3:=nO f x r
  simp only [length_cons,Nat.mul_add,Nat.mul_one];omega
structure aQz (p:cK):Prop where
 form:nY p=true
 sane:p.sane
 wt:p.wt <= 9000
 len:(cR p).length <= 75000
theorem sY.facts{p:cK}(h:sY p):aQz p:=by
 obtain ⟨gs,ms,fs⟩:=p
 obtain ⟨⟨hm1,hm2,hm⟩,⟨hg1,hg⟩,⟨hf1,hf2,hf⟩,hb⟩:=h
 dsimp only at hm1 hm2 hm hg1 hg hf1 hf2 hf hb
 have nm:∀m,m∈ms -> bQ m.name=true:=by
  intro m hmm;obtain ⟨k,hk,rfl⟩:=List.getElem_of_mem hmm;rw [(hm k hk).1];exact aFt k J
 have ng:∀g,g∈gs -> bQ g.name=true:=by
  intro g hgm;obtain ⟨k,hk,rfl⟩:=List.getElem_of_mem hgm;rw [(hg k hk).1];exact vO k J
 have nf:∀f,f∈fs -> bQ f.name=true /\ pM f.params:=by
  intro f hfm;obtain ⟨k,hk,rfl⟩:=List.getElem_of_mem hfm;exact ⟨(hf k hk).name J,(hf k hk).2.2⟩
 have bodies:=hb.all nm (by
  intro g hgm
  obtain ⟨f,hfm,rfl⟩:=List.mem_map.1 hgm
  exact ⟨(nf f hfm).1,(nf f hfm).2.1⟩) ng (Nat.le_refl _) (λf hfm=>(nf f hfm).2.names)
 have lg:∀g,g∈gs -> (aU g).length <= 60 /\ g.init≠-9223372036854775808 /\ fit g.init:=by
  intro g hgm
  have h1:=dV (ng g hgm)
  obtain ⟨k,hk,rfl⟩:=List.getElem_of_mem hgm
  obtain ⟨_,h2,h3⟩:=hg k hk
  have h4:=rQ (n:=gs[k].init) J J
  refine ⟨?_,J,by constructor<;>omega⟩
  rw [aU];split<;>simp<;>omega
 have lm:∀m,m∈ms -> (bE m).length <= 60 /\ fS m=true /\ fit m.size:=by
  intro m hmm
  have h1:=dV (nm m hmm)
  have h0:=nm m hmm
  obtain ⟨k,hk,rfl⟩:=List.getElem_of_mem hmm
  have h2:0 <= ms[k].size /\ ms[k].size <= 3 /\ (ms[k].reentrant=true -> ms[k].size=0):=by
   rcases (hm k hk).2 with ⟨a,b,c⟩|⟨a,b⟩
   ·exact ⟨b,c,λh=>by rw [a] at h;cases h⟩
   exact ⟨J,J,λ_=>b⟩
  have h4:=rQ (n:=ms[k].size) J J
  refine ⟨?_,?_,by constructor<;>omega⟩
  ·rw [bE];split<;>split<;>simp<;>omega
  rw [fS,h0,decide_eq_true J]
  cases hr:ms[k].reentrant with
  |false=>rfl
  |true=>rw [decide_eq_false (by have:=h2.2.2 hr;omega)];rfl
 have lf:∀f,f∈fs -> (funcText f).length <= 17000 /\ gW f=true:=by
  intro f hfm
  obtain ⟨h0,h1⟩:=nf f hfm
  have h2:=dV h0
  have h3:=bodies f hfm
  have h4:=h3.len
  have h5:=zH bX 22 f.params (λx hx=>aAv (h1.names x hx))
  have h6:=h1.1
  refine ⟨?_,?_⟩
  ·rw [funcText];simp only [length_append,length_cons,length_nil];have:f.name.data.toList.length=f.name.size:=rfl;omega
  rw [gW,h0,decide_eq_true J,h3.ok,List.all_eq_true.2 (λx hx=>h1.names x hx)];rfl
 have len:(cR ⟨gs,ms,fs⟩).length <= 75000:=by
  have h1:=yF aU 60 gs (λg h=>(lg g h).1)
  have h2:=yF bE 60 ms (λg h=>(lm g h).1)
  have h3:=yF funcText 17000 fs (λg h=>(lf g h).1)
  rw [cR];simp only [length_append];omega
 refine ⟨?_,⟨λg h=>⟨(lg g h).2.2,Nat.le_trans (dV (ng g h)) V⟩,λm h=>⟨(lm m h).2.2,Nat.le_trans (dV (nm m h)) V⟩,λf h=>⟨Nat.le_trans (dV (nf f h).1) V,λx hx=>Nat.le_trans (dV ((nf f h).2.names x hx)) V,(bodies f h).sane⟩⟩,?_,len⟩
 ·unfold nY
  rw [decide_eq_true E7,List.all_eq_true.2 (λg h=>by rw [gH,ng g h,decide_eq_true (lg g h).2.1];rfl),List.all_eq_true.2 (λm h=>(lm m h).2.1),List.all_eq_true.2 (λf h=>(lf f h).2)];rfl
 unfold cK.wt
 have h1:(fs.map bS.wt).sum <= 2000*fs.length:=by
  have:∀l:List bS,(∀f,f∈l -> f.wt <= 2000) -> (l.map bS.wt).sum <= 2000*l.length:=by
   intro l
   induction l with
   |nil=>intro _;simp
   |cons f l ih=>intro hx;have:=ih (λg hg=>hx g (by simp [hg]));have:=hx f G0;simp only [List.map_cons,List.sum_cons,length_cons];omega
  exact this fs (λf hfm=>by unfold bS.wt;have:=(bodies f hfm).wt;have:=(nf f hfm).2.1;omega)
 show gs.length+ms.length+(fs.map bS.wt).sum <= _
 omega
end
theorem zc{α:Type}{a b:α}{l:List α}:l.Sublist (a::b::l):=.cons _ (.cons _ (.refl _))
section
open Go.RowKit
def bUw:List ByteArray:=[⟨#[97]⟩,⟨#[98]⟩,⟨#[103,48]⟩,⟨#[103,49]⟩,⟨#[109,97,105,110]⟩,⟨#[102,49]⟩,⟨#[102,50]⟩,⟨#[112,49]⟩,⟨#[112,50]⟩,⟨#[118,97]⟩,⟨#[118,120]⟩,⟨#[110,111,119,104,101,114,101]⟩,⟨#[]⟩,⟨#[105,102]⟩,⟨#[120,49]⟩]
theorem bUq:∀x,x∈bUw -> x.size <= 10:=V
theorem bSu{α:Type}(enc:α -> List AC)(z:Nat)(hz:∀x,(enc x).length=z):∀(l:List α)(j:Nat)(h:j<l.length)(a:α),splice (l.flatMap enc) (j*z) (enc a)=(l.set j a).flatMap enc
 |x::l,0,_,a=>by
  unfold splice
  rw [Nat.zero_mul,List.take_zero,List.nil_append,List.set_cons_zero,List.flatMap_cons,List.flatMap_cons,Nat.zero_add,hz a,List.drop_left' (hz x)]
 |x::l,j+1,h,a=>by
  have ih:=bSu enc z hz l j Er a
  unfold splice at ih⊢
  rw [List.set_cons_succ,List.flatMap_cons,List.flatMap_cons,←ih,show (j+1)*z=z+j*z by rw [Nat.add_mul,Nat.one_mul,Nat.add_comm],List.take_append,hz x,take_of_length_le (by rw [hz x];omega),show z+j*z-z=j*z by omega,Nat.add_assoc,List.drop_append,hz x,List.drop_of_length_le (by rw [hz x];omega),show z+(j*z+(enc a).length)-z=j*z+(enc a).length by omega]
  simp only [List.nil_append,append_assoc]
theorem bTf{α:Type}(enc:α -> List AC)(z:Nat)(hz:∀x,(enc x).length=z)(l:List α)(j:Nat)(h:j<l.length):j*z+z <= (l.flatMap enc).length:=by
 rw [aFz enc z hz l]
 have:(j+1)*z <= l.length*z:=Nat.mul_le_mul_right _ h
 rw [Nat.add_mul] at this;omega
theorem bUk{α:Type}(enc:α -> List AC)(z:Nat)(hz:∀x,(enc x).length=z)(l:List α)(h:0<l.length):(l.flatMap enc).drop (1*z)=(l.drop 1).flatMap enc:=by
 cases l with
 |nil=>simp at h
 |cons x l=>rw [List.flatMap_cons,Nat.one_mul,List.drop_left' (hz x)];rfl
theorem bUt:∀(l:List eN),wtA (l.drop 1) <= wtA l
 |[]=>G0
 |x::l=>by rw [List.drop_succ_cons,List.drop_zero,wtA];omega
theorem bUl:∀(l:List eN)(a:eN),wtA (l++[a])=wtA l+a.wt
 |[],a=>by rw [List.nil_append,wtA,wtA,wtA];omega
 |x::l,a=>by rw [List.cons_append,wtA,wtA,bUl l a];omega
theorem bTg:∀(l:List eN)(j:Nat)(a:eN),wtA (l.set j a) <= wtA l+a.wt
 |[],_,_=>G0
 |x::l,0,a=>by rw [List.set_cons_zero,wtA,wtA];omega
 |x::l,j+1,a=>by have:=bTg l j a;rw [List.set_cons_succ,wtA,wtA];omega
theorem bUj{l:List eN}(h:∀a,a∈l -> a.sane):∀a,a∈l.drop 1 -> a.sane:=λa ha=>h a (List.mem_of_mem_drop ha)
theorem bUo{l:List eN}{b:eN}(h:∀a,a∈l -> a.sane)(hb:b.sane):∀a,a∈l++[b] -> a.sane:=λa ha=>by
 rcases mem_append.1 ha with ha|ha
 ·exact h a ha
 rw [List.mem_singleton.1 ha];exact hb
theorem bS6{l:List eN}{j:Nat}{b:eN}(h:∀a,a∈l -> a.sane)(hb:b.sane):∀a,a∈l.set j b -> a.sane:=λa ha=>by
 rcases List.mem_or_eq_of_mem_set ha with ha|ha
 ·exact h a ha
 rw [ha];exact hb
def nmE(y:ByteArray):aH:=⟨2,0,y,[]⟩
def bS7(y:ByteArray):eN:=⟨false,⟨aK,[]⟩,⟨2,0,y,[]⟩⟩
def bSs(b:Bool)(y:ByteArray):eN:=⟨b,⟨y,[]⟩,⟨0,0,aK,[]⟩⟩
theorem bTh{y:ByteArray}(h:y.size <= 10):(nmE y).sane:=by
 unfold nmE;rw [aH.sane];exact ⟨F2,J,trivial⟩
theorem bT5{y:ByteArray}(h:y.size <= 10):(bS7 y).sane:=⟨⟨by show aK.size <= _;decide,trivial⟩,bTh h⟩
theorem bTq{b:Bool}{y:ByteArray}(h:y.size <= 10):(bSs b y).sane:=⟨⟨by show y.size <= _;omega,trivial⟩,by unfold bSs;rw [aH.sane];exact ⟨F2,V,trivial⟩⟩
theorem bUn(y:ByteArray):(bS7 y).wt=3:=rfl
theorem bT8(b:Bool)(y:ByteArray):(bSs b y).wt=3:=rfl
theorem bTi{P:Program}{U:List Nat}{o:Oper}{st:AS}{t yt:TypeId}{x y:Operand}{m:Int}(ho:o.op=.binOp .shr t x y yt)(hx:evA st x=some (Ci m))(hy:evA st y=some (Cv (.int .u64 4))):AY P U o st (Ci (m.fdiv 16)):=
 fW rfl λa w hs w'=>by
  simp only [execOp,ho,hs.val hx,hs.val hy]
  simp [go_sem,eqGuard,binOp,Op.shift,show min (Int.toNat 4) IntKind.i64.bits=4 from rfl]
theorem bSo(n0:Int)(s:Sto):aL prog 31 [Ci n0] [] s λt s'=>(∃y:ByteArray,t=Cs y /\ y.size <= 10) /\ s'=s:=by
 obtain ⟨bx,rw⟩:=s
 refine acX 8 func31 ?_
 refine go 7 ?_
 refine wo Y (wbs Tryz.t9 [Vs ⟨#[]⟩,Vs ⟨#[]⟩,Vs ⟨#[]⟩,Vs ⟨#[]⟩,Vs ⟨#[]⟩,Vs ⟨#[]⟩,Vs ⟨#[]⟩,Vs ⟨#[]⟩,Vs ⟨#[]⟩,Vs ⟨#[]⟩,Vs ⟨#[]⟩,Vs ⟨#[]⟩,Vs ⟨#[]⟩,Vs ⟨#[]⟩,Vs ⟨#[]⟩] Y Y V (.cons Y (.cons Y (.cons Y (.cons Y (.cons Y (.cons Y (.cons Y (.cons Y (.cons Y (.cons Y (.cons Y (.cons Y (.cons Y (.cons Y (.cons Y .nil))))))))))))))) underlying33 B6 Y V V B6 B6 (r:=bUw.map λx=>Vs x) B6 ?_)
 refine go 1 ?_
 obtain ⟨j1,hj1,hlj1⟩:=bEj (n0) (15) J
 refine wc0 Y call17 Y (bEl (n0) (15) j1 J J hj1 _) ?_
 rintro _ _ ⟨rfl,rfl⟩
 have hn15:j1<bUw.length:=by show _<15;omega
 refine wyz Y (rT (λx=>Vs x) bUw j1 Y Y Y Y hn15 runUnderlying33 sizeOf9) (go 5 ?_)
 exact bHe (s':=⟨bx,rw⟩) Y sb0 ⟨⟨_,Y,bUq _ (getElem_mem hn15)⟩,Y⟩
theorem bUb(k:Int)(nm:ByteArray)(eo en:Int)(em:ByteArray)(ea:List aH)(rn:ByteArray)(ri:List aH)(ar:List eN)(th el:List aJ)(how x:Int)(hs:aJ.sane (.mk k nm ⟨eo,en,em,ea⟩ ⟨rn,ri⟩ ar th el))(hw:wtA ar <= 9000000)(bx:List Box)(rw:List bA):aL prog 60 [.agg [Vi k,Vs nm,Vi eo,Vi en,Vs em,Sq fO ea,Vs rn,Sq fO ri,Sq eJ ar,Sq encS th,Sq encS el],Ci how,Ci x] [] ⟨bx,rw⟩ λt s'=>(∃q:aJ,t=.agg (dG q) /\ q.sane /\ (q.thn=th /\ q.els=el∨q.thn=[] /\ q.els=[]) /\ 1+q.expr.nodes+q.ref.wt+wtA q.args <= 21+(1+(1+cZ ea)+(1+cZ ri)+wtA ar)) /\ s'=⟨bx,rw⟩:=by
 obtain ⟨hsn,hse,hsr,hsa,hst,hsf⟩:=yW hs
 replace hsn:nm.size <= 4611686018427387904:=hsn
 replace hsa:∀a,a∈ar -> a.sane:=hsa
 have hal:=aCj ar
 refine acX 109 func60 ?_
 refine go 9 λb1 b2=>?_
 refine wc0 Y call31 Y (bSo x _) ?_
 rintro _ _ ⟨⟨y1,rfl,hy1⟩,rfl⟩
 refine go 1 ?_
 refine eA 12 Y (Wk.agg (.r (.r (.r (.n .nil)))):Wk _ (.agg (cU (nmE y1)))) (go 6 λb3=>?_)
 refine wo Y (aTr underlying136 sizeOf151 λg4=>?_)
 refine go 2 ?_
 refine wo Y (jU [] Tryz.t151 104 Y Y V Y Y underlying136 B6 Y Y Y Y V (aFz eJ 7 (λ_=>Y) ar) B1 J (Nat.zero_add ar.length) FP Gc (List.nil_append _) λw5=>?_)
 refine go 7 ?_
 obtain ⟨j2,hj2,hlj2⟩:=bEj (how) (10) J
 refine wc0 Y call17 Y (bEl (how) (10) j2 J J hj2 _) ?_
 rintro _ _ ⟨rfl,rfl⟩
 refine go 6 ?_
 by_cases h3:((j2:Nat):Int)=0
 ·refine wcp true Y (eR h3) (go 10 ?_)
  refine wc0 Y call31 Y (bSo x _) ?_
  rintro _ _ ⟨⟨y6,rfl,hy6⟩,rfl⟩
  refine go 8 ?_
  by_cases h7:k=5
  ·refine wcp true Y (eR h7) (go 10 ?_)
   refine wc0 Y call31 Y (bSo x _) ?_
   rintro _ _ ⟨⟨y9,rfl,hy9⟩,rfl⟩
   refine go 10 ?_
   refine aE1 8 Y ?_
   refine go 8 ?_
   refine eA 108 Y (Wk.agg (.r (.r (.r (.r (.r (.r (.r (.r (.r (.r (.r .nil))))))))))):Wk _ (.agg (dG (.mk k aK ⟨eo,en,em,ea⟩ ⟨y9,ri⟩ ar th el)))) (go 4 ?_)
   exact ⟨.inr Y,_,⟨bx,rw⟩,aR Y (aO [_] Y Y isAgg138 sizeOf138 (bK Y Y)),aA (.cons _ zc) (.refl _),⟨(.mk k aK ⟨eo,en,em,ea⟩ ⟨y9,ri⟩ ar th el),Y,(by rw [aJ.sane];exact ⟨V,hse,⟨(by have:=hy9;show y9.size <= _;omega),hsr.2⟩,hsa,hst,hsf⟩),(.inl ⟨Y,Y⟩),FN⟩,Y⟩
  refine wcp false Y (eD h7) (go 3 ?_)
  by_cases h10:k=6
  ·refine wcp true Y (eR h10) (go 6 ?_)
   refine wc0 Y call31 Y (bSo x _) ?_
   rintro _ _ ⟨⟨y12,rfl,hy12⟩,rfl⟩
   refine go 10 ?_
   refine aE1 8 Y ?_
   refine go 8 ?_
   refine eA 108 Y (Wk.agg (.r (.r (.r (.r (.r (.r (.r (.r (.r (.r (.r .nil))))))))))):Wk _ (.agg (dG (.mk k aK ⟨eo,en,em,ea⟩ ⟨y12,ri⟩ ar th el)))) (go 4 ?_)
   exact ⟨.inr Y,_,⟨bx,rw⟩,aR Y (aO [_] Y Y isAgg138 sizeOf138 (bK Y Y)),aA (.cons _ zc) (.refl _),⟨(.mk k aK ⟨eo,en,em,ea⟩ ⟨y12,ri⟩ ar th el),Y,(by rw [aJ.sane];exact ⟨V,hse,⟨(by have:=hy12;show y12.size <= _;omega),hsr.2⟩,hsa,hst,hsf⟩),(.inl ⟨Y,Y⟩),FN⟩,Y⟩
  refine wcp false Y (eD h10) (go 9 ?_)
  refine aE1 8 Y ?_
  refine go 8 ?_
  refine eA 108 Y (Wk.agg (.r (.r (.r (.r (.r (.r (.r (.r (.r (.r (.r .nil))))))))))):Wk _ (.agg (dG (.mk k y6 ⟨eo,en,em,ea⟩ ⟨rn,ri⟩ ar th el)))) (go 4 ?_)
  exact ⟨.inr Y,_,⟨bx,rw⟩,aR Y (aO [_] Y Y isAgg138 sizeOf138 (bK Y Y)),aA (.cons _ zc) (.refl _),⟨(.mk k y6 ⟨eo,en,em,ea⟩ ⟨rn,ri⟩ ar th el),Y,(by rw [aJ.sane];exact ⟨(by have:=hy6;omega),hse,⟨hsr.1,hsr.2⟩,hsa,hst,hsf⟩),(.inl ⟨Y,Y⟩),FN⟩,Y⟩
 refine wcp false Y (eD h3) (go 5 ?_)
 by_cases h15:((j2:Nat):Int)=1
 ·refine wcp true Y (eR h15) (go 7 ?_)
  refine wc0 Y call31 Y (bSo x _) ?_
  rintro _ _ ⟨⟨y17,rfl,hy17⟩,rfl⟩
  refine go 8 ?_
  by_cases h18:k=5
  ·refine wcp true Y (eR h18) (go 10 ?_)
   refine wc0 Y call31 Y (bSo x _) ?_
   rintro _ _ ⟨⟨y20,rfl,hy20⟩,rfl⟩
   refine go 10 ?_
   refine aE1 8 Y ?_
   refine go 8 ?_
   refine eA 108 Y (Wk.agg (.r (.r (.r (.r (.r (.r (.r (.r (.r (.r (.r .nil))))))))))):Wk _ (.agg (dG (.mk k aK ⟨eo,en,em,ea⟩ ⟨y20,ri⟩ ar th el)))) (go 4 ?_)
   exact ⟨.inr Y,_,⟨bx,rw⟩,aR Y (aO [_] Y Y isAgg138 sizeOf138 (bK Y Y)),aA (.cons _ zc) (.refl _),⟨(.mk k aK ⟨eo,en,em,ea⟩ ⟨y20,ri⟩ ar th el),Y,(by rw [aJ.sane];exact ⟨V,hse,⟨(by have:=hy20;show y20.size <= _;omega),hsr.2⟩,hsa,hst,hsf⟩),(.inl ⟨Y,Y⟩),FN⟩,Y⟩
  refine wcp false Y (eD h18) (go 3 ?_)
  by_cases h21:k=6
  ·refine wcp true Y (eR h21) (go 6 ?_)
   refine wc0 Y call31 Y (bSo x _) ?_
   rintro _ _ ⟨⟨y23,rfl,hy23⟩,rfl⟩
   refine go 10 ?_
   refine aE1 8 Y ?_
   refine go 8 ?_
   refine eA 108 Y (Wk.agg (.r (.r (.r (.r (.r (.r (.r (.r (.r (.r (.r .nil))))))))))):Wk _ (.agg (dG (.mk k aK ⟨eo,en,em,ea⟩ ⟨y23,ri⟩ ar th el)))) (go 4 ?_)
   exact ⟨.inr Y,_,⟨bx,rw⟩,aR Y (aO [_] Y Y isAgg138 sizeOf138 (bK Y Y)),aA (.cons _ zc) (.refl _),⟨(.mk k aK ⟨eo,en,em,ea⟩ ⟨y23,ri⟩ ar th el),Y,(by rw [aJ.sane];exact ⟨V,hse,⟨(by have:=hy23;show y23.size <= _;omega),hsr.2⟩,hsa,hst,hsf⟩),(.inl ⟨Y,Y⟩),FN⟩,Y⟩
  refine wcp false Y (eD h21) (go 9 ?_)
  refine aE1 8 Y ?_
  refine go 8 ?_
  refine eA 108 Y (Wk.agg (.r (.r (.r (.r (.r (.r (.r (.r (.r (.r (.r .nil))))))))))):Wk _ (.agg (dG (.mk k y17 ⟨eo,en,em,ea⟩ ⟨rn,ri⟩ ar th el)))) (go 4 ?_)
  exact ⟨.inr Y,_,⟨bx,rw⟩,aR Y (aO [_] Y Y isAgg138 sizeOf138 (bK Y Y)),aA (.cons _ zc) (.refl _),⟨(.mk k y17 ⟨eo,en,em,ea⟩ ⟨rn,ri⟩ ar th el),Y,(by rw [aJ.sane];exact ⟨(by have:=hy17;omega),hse,⟨hsr.1,hsr.2⟩,hsa,hst,hsf⟩),(.inl ⟨Y,Y⟩),FN⟩,Y⟩
 refine wcp false Y (eD h15) (go 6 ?_)
 by_cases h26:((j2:Nat):Int)=2
 ·refine wcp true Y (eR h26) (go 13 ?_)
  refine aE1 8 Y ?_
  refine go 8 ?_
  refine eA 108 Y (Wk.agg (.r (.r (.r (.r (.r (.r (.r (.n (.r (.r (.r .nil))))))))))):Wk _ (.agg (dG (.mk k nm ⟨eo,en,em,ea⟩ ⟨rn,[]⟩ ar th el)))) (go 4 ?_)
  exact ⟨.inr Y,_,⟨bx,rw⟩,aR Y (aO [_] Y Y isAgg138 sizeOf138 (bK Y Y)),aA (.cons _ zc) (.refl _),⟨(.mk k nm ⟨eo,en,em,ea⟩ ⟨rn,[]⟩ ar th el),Y,(by rw [aJ.sane];exact ⟨hsn,hse,⟨hsr.1,trivial⟩,hsa,hst,hsf⟩),(.inl ⟨Y,Y⟩),FN⟩,Y⟩
 refine wcp false Y (eD h26) (go 6 ?_)
 by_cases h29:((j2:Nat):Int)=3
 ·refine wcp true Y (eR h29) (go 6 ?_)
  refine wo Y (bDk (r:=[(nmE y1)].flatMap fO) bHf ?_)
  refine go 8 ?_
  refine aE1 8 Y ?_
  refine go 8 ?_
  refine eA 108 Y (Wk.agg (.r (.r (.r (.r (.r (.r (.r (.r (.r (.r (.r .nil))))))))))):Wk _ (.agg (dG (.mk k nm ⟨eo,en,em,ea⟩ ⟨rn,[(nmE y1)]⟩ ar th el)))) (go 4 ?_)
  exact ⟨.inr Y,_,⟨bx,rw⟩,aR Y (aO [_] Y Y isAgg138 sizeOf138 (bK Y Y)),aA (.cons _ zc) (.refl _),⟨(.mk k nm ⟨eo,en,em,ea⟩ ⟨rn,[(nmE y1)]⟩ ar th el),Y,(by rw [aJ.sane];exact ⟨hsn,hse,⟨hsr.1,⟨bTh hy1,trivial⟩⟩,hsa,hst,hsf⟩),(.inl ⟨Y,Y⟩),FN⟩,Y⟩
 refine wcp false Y (eD h29) (go 6 ?_)
 by_cases h32:((j2:Nat):Int)=4
 ·refine wcp true Y (eR h32) (go 7 ?_)
  refine wyz Y (kV [] Y Y Y runUnderlying136) ?_
  by_cases h34:(0:Int)<((ar.length:Nat):Int)
  ·refine wcp true Y (mH h34) (go 4 ?_)
   refine aE1 8 Y ?_
   refine go 1 ?_
   refine wyz Y (bGm (l:=1) (m:=(ar.drop 1).length) (r:=(ar.drop 1).flatMap eJ) Y Y Y Y J (aFz eJ 7 (λ_=>Y) ar) B6 B6 sizeOf151 List.length_drop.symm (bUk eJ 7 (λ_=>Y) ar J)) (go 6 ?_)
   skip
   refine go 8 ?_
   refine eA 108 Y (Wk.agg (.r (.r (.r (.r (.r (.r (.r (.r (.r (.r (.r .nil))))))))))):Wk _ (.agg (dG (.mk k nm ⟨eo,en,em,ea⟩ ⟨rn,ri⟩ (ar.drop 1) th el)))) (go 4 ?_)
   exact ⟨.inr Y,_,⟨bx,rw⟩,aR Y (aO [_] Y Y isAgg138 sizeOf138 (bK Y Y)),aA (.cons _ zc) (.refl _),⟨(.mk k nm ⟨eo,en,em,ea⟩ ⟨rn,ri⟩ (ar.drop 1) th el),Y,(by rw [aJ.sane];exact ⟨hsn,hse,⟨hsr.1,hsr.2⟩,(bUj hsa),hst,hsf⟩),(.inl ⟨Y,Y⟩),(by have:=bUt ar;simp only [aJ.expr,aJ.ref,aJ.args,cY.wt,aH.nodes,cZ,nmE];omega)⟩,Y⟩
  refine wcp false Y (mI h34) (go 8 ?_)
  refine aE1 8 Y ?_
  refine go 8 ?_
  refine eA 108 Y (Wk.agg (.r (.r (.r (.r (.r (.r (.r (.r (.r (.r (.r .nil))))))))))):Wk _ (.agg (dG (.mk k nm ⟨eo,en,em,ea⟩ ⟨rn,ri⟩ ar th el)))) (go 4 ?_)
  exact ⟨.inr Y,_,⟨bx,rw⟩,aR Y (aO [_] Y Y isAgg138 sizeOf138 (bK Y Y)),aA (.cons _ zc) (.refl _),⟨(.mk k nm ⟨eo,en,em,ea⟩ ⟨rn,ri⟩ ar th el),Y,Gd,(.inl ⟨Y,Y⟩),FN⟩,Y⟩
 refine wcp false Y (eD h32) (go 6 ?_)
 by_cases h38:((j2:Nat):Int)=5
 ·refine wcp true Y (eR h38) (go 8 ?_)
  refine eA 64 Y (Wk.agg (.r (.r (.n (.r (.r (.r (.r .nil))))))):Wk _ (.agg (eJ (bS7 y1)))) ?_
  refine wo Y (bDk (r:=[(bS7 y1)].flatMap eJ) zb2 ?_)
  refine wo Y (bDm [] cR1 Y Y V B1 J (@length_append _ ar [(bS7 y1)]).symm Bo Bq (List.flatMap_append (f:=eJ)).symm λw6=>?_)
  refine go 6 ?_
  refine aE1 8 Y ?_
  refine go 8 ?_
  refine eA 108 Y (Wk.agg (.r (.r (.r (.r (.r (.r (.r (.r (.r (.r (.r .nil))))))))))):Wk _ (.agg (dG (.mk k nm ⟨eo,en,em,ea⟩ ⟨rn,ri⟩ (ar++[(bS7 y1)]) th el)))) (go 4 ?_)
  exact ⟨.inr Y,_,⟨bx,rw⟩,aR Y (aO [_] Y Y isAgg138 sizeOf138 (bK Y Y)),aA (.cons _ zc) (.refl _),⟨(.mk k nm ⟨eo,en,em,ea⟩ ⟨rn,ri⟩ (ar++[(bS7 y1)]) th el),Y,(by rw [aJ.sane];exact ⟨hsn,hse,⟨hsr.1,hsr.2⟩,(bUo hsa (bT5 hy1)),hst,hsf⟩),(.inl ⟨Y,Y⟩),(by have:=bUl ar (bS7 y1);have:=bUn y1;simp only [aJ.expr,aJ.ref,aJ.args,cY.wt,aH.nodes,cZ,nmE];omega)⟩,Y⟩
 refine wcp false Y (eD h38) (go 6 ?_)
 by_cases h41:((j2:Nat):Int)=6
 ·refine wcp true Y (eR h41) (go 7 ?_)
  refine wyz Y (kV [] Y Y Y runUnderlying136) (go 6 ?_)
  by_cases h43:(0:Int)<((ar.length:Nat):Int)
  ·refine wcp true Y (mH h43) (go 5 ?_)
   refine aF1 [] J λgr cr hgr=>?_
   subst hgr
   refine go 2 ?_
   refine wyz Y (bTi Y Y Y) (go 1 ?_)
   obtain ⟨j45,hj45,hlj45⟩:=bEj ((x.fdiv 16)) (((ar.length:Nat):Int)) J
   refine wc0 Y call17 Y (bEl ((x.fdiv 16)) (((ar.length:Nat):Int)) j45 J J hj45 _) ?_
   rintro _ _ ⟨rfl,rfl⟩
   refine go 1 ?_
   refine wyz Y (bFn Y Y Y) ?_
   by_cases h46:(bFm x 8)=8
   ·refine wcp true Y (eR h46) (go 1 ?_)
    refine wc0 Y call31 Y (bSo x _) ?_
    rintro _ _ ⟨⟨y47,rfl,hy47⟩,rfl⟩
    refine go 2 ?_
    refine eA 84 Y (Wk.agg (.r (.r (.n (.r (.r (.r (.n .nil))))))):Wk _ (.agg (eJ (bSs true y47)))) ?_
    refine wyz Y (dH (z:=7) j45 Y Y Y Y FV runUnderlying136 sizeOf151) ?_
    refine wo Y (aO0 (ho:=Y) (hx:=Y) (hy:=Y) (hc:=Y) (r:=(ar.set j45 (bSs true y47)).flatMap eJ) [] sizeOf151 Gs (by rw [Nat.zero_add];exact bSu eJ 7 (λ_=>rfl) ar j45 FV (bSs true y47)) FW ?_)
    refine go 5 ?_
    refine wyz Y (bFn Y Y Y) ?_
    refine wcp false Y (eD J) (go 8 ?_)
    refine aE1 8 Y ?_
    refine eA 8 Y (t:=.c (.sl (ar.set j45 (bSs true y47)).length ((ar.set j45 (bSs true y47)).flatMap eJ))) Ge (go 8 ?_)
    refine eA 108 Y (Wk.agg (.r (.r (.r (.r (.r (.r (.r (.r (.r (.r (.r .nil))))))))))):Wk _ (.agg (dG (.mk k nm ⟨eo,en,em,ea⟩ ⟨rn,ri⟩ (ar.set j45 (bSs true y47)) th el)))) (go 4 ?_)
    exact ⟨.inr Y,_,⟨bx,rw⟩,aR Y (aO [_] Y Y isAgg138 sizeOf138 (bK Y Y)),aA (.cons _ zc) (.refl _),⟨(.mk k nm ⟨eo,en,em,ea⟩ ⟨rn,ri⟩ (ar.set j45 (bSs true y47)) th el),Y,(by rw [aJ.sane];exact ⟨hsn,hse,⟨hsr.1,hsr.2⟩,(bS6 hsa (bTq hy47)),hst,hsf⟩),(.inl ⟨Y,Y⟩),(by have:=bTg ar j45 (bSs true y47);have:=bT8 true y47;simp only [aJ.expr,aJ.ref,aJ.args,cY.wt,aH.nodes,cZ,nmE];omega)⟩,Y⟩
   refine wcp false Y (eD h46) (go 1 ?_)
   refine wc0 Y call31 Y (bSo x _) ?_
   rintro _ _ ⟨⟨y49,rfl,hy49⟩,rfl⟩
   refine go 2 ?_
   refine eA 84 Y (Wk.agg (.r (.r (.n (.r (.r (.r (.n .nil))))))):Wk _ (.agg (eJ (bSs false y49)))) ?_
   refine wyz Y (dH (z:=7) j45 Y Y Y Y FV runUnderlying136 sizeOf151) ?_
   refine wo Y (aO0 (ho:=Y) (hx:=Y) (hy:=Y) (hc:=Y) (r:=(ar.set j45 (bSs false y49)).flatMap eJ) [] sizeOf151 Gs (by rw [Nat.zero_add];exact bSu eJ 7 (λ_=>rfl) ar j45 FV (bSs false y49)) FW ?_)
   refine go 5 ?_
   refine wyz Y (bFn Y Y Y) ?_
   by_cases h50:(bFm x 8)=0
   ·refine wcp true Y (eR h50) (go 3 ?_)
    refine dx [b3,b2,b1] (tz [(0,true),(1,true)] 7 (go 3 ?_))
    refine tx 2 Y (bTi Y Y Y) (tz [(3,true),(5,true),(6,true)] 3 (go 4 ?_))
    obtain ⟨j52,hj52,hlj52⟩:=bEj ((x.fdiv 16)) (((ar.length:Nat):Int)) J
    refine ox 4 Y Y (bV (ho:=Y) (has:=Y) call17 (bEl ((x.fdiv 16)) (((ar.length:Nat):Int)) j52 J J hj52 _) ?_)
    rintro _ _ ⟨rfl,rfl⟩
    refine bF8 95 Y (Wk.agg (.r (.r (.n (.r (.r (.r (.r .nil))))))):Wk _ (.agg (eJ (bS7 y1)))) ?_
    refine tx 7 Y (dH (z:=7) j52 Y Y Y Y FV runUnderlying136 sizeOf151) ?_
    refine ox 8 Y Y (aO0 (ho:=Y) (hx:=Y) (hy:=Y) (hc:=Y) (r:=((ar.set j45 (bSs false y49)).set j52 (bS7 y1)).flatMap eJ) [] sizeOf151 (by rw [Nat.zero_add];exact bTf eJ 7 (λ_=>rfl) (ar.set j45 (bSs false y49)) j52 FV) (by rw [Nat.zero_add];exact bSu eJ 7 (λ_=>rfl) (ar.set j45 (bSs false y49)) j52 FV (bS7 y1)) (λhn=>qW hn Cq) ?_)
    refine ax (go 4 ?_)
    refine aE1 8 Y ?_
    refine eA 8 Y (t:=.c (.sl ((ar.set j45 (bSs false y49)).set j52 (bS7 y1)).length (((ar.set j45 (bSs false y49)).set j52 (bS7 y1)).flatMap eJ))) Ge (go 8 ?_)
    refine eA 108 Y (Wk.agg (.r (.r (.r (.r (.r (.r (.r (.r (.r (.r (.r .nil))))))))))):Wk _ (.agg (dG (.mk k nm ⟨eo,en,em,ea⟩ ⟨rn,ri⟩ ((ar.set j45 (bSs false y49)).set j52 (bS7 y1)) th el)))) (go 4 ?_)
    exact ⟨.inr Y,_,⟨bx,rw⟩,aR Y (aO [_] Y Y isAgg138 sizeOf138 (bK Y Y)),aA (.cons _ zc) (.refl _),⟨(.mk k nm ⟨eo,en,em,ea⟩ ⟨rn,ri⟩ ((ar.set j45 (bSs false y49)).set j52 (bS7 y1)) th el),Y,(by rw [aJ.sane];exact ⟨hsn,hse,⟨hsr.1,hsr.2⟩,(bS6 (bS6 hsa (bTq hy49)) (bT5 hy1)),hst,hsf⟩),(.inl ⟨Y,Y⟩),(by have:=bTg ar j45 (bSs false y49);have:=bT8 false y49;have:=bTg (ar.set j45 (bSs false y49)) j52 (bS7 y1);have:=bUn y1;simp only [aJ.expr,aJ.ref,aJ.args,cY.wt,aH.nodes,cZ,nmE];omega)⟩,Y⟩
   refine wcp false Y (eD h50) (go 8 ?_)
   refine aE1 8 Y ?_
   refine eA 8 Y (t:=.c (.sl (ar.set j45 (bSs false y49)).length ((ar.set j45 (bSs false y49)).flatMap eJ))) Ge (go 8 ?_)
   refine eA 108 Y (Wk.agg (.r (.r (.r (.r (.r (.r (.r (.r (.r (.r (.r .nil))))))))))):Wk _ (.agg (dG (.mk k nm ⟨eo,en,em,ea⟩ ⟨rn,ri⟩ (ar.set j45 (bSs false y49)) th el)))) (go 4 ?_)
   exact ⟨.inr Y,_,⟨bx,rw⟩,aR Y (aO [_] Y Y isAgg138 sizeOf138 (bK Y Y)),aA (.cons _ zc) (.refl _),⟨(.mk k nm ⟨eo,en,em,ea⟩ ⟨rn,ri⟩ (ar.set j45 (bSs false y49)) th el),Y,(by rw [aJ.sane];exact ⟨hsn,hse,⟨hsr.1,hsr.2⟩,(bS6 hsa (bTq hy49)),hst,hsf⟩),(.inl ⟨Y,Y⟩),(by have:=bTg ar j45 (bSs false y49);have:=bT8 false y49;simp only [aJ.expr,aJ.ref,aJ.args,cY.wt,aH.nodes,cZ,nmE];omega)⟩,Y⟩
  refine wcp false Y (mI h43) (go 8 ?_)
  refine aE1 8 Y ?_
  refine go 8 ?_
  refine eA 108 Y (Wk.agg (.r (.r (.r (.r (.r (.r (.r (.r (.r (.r (.r .nil))))))))))):Wk _ (.agg (dG (.mk k nm ⟨eo,en,em,ea⟩ ⟨rn,ri⟩ ar th el)))) (go 4 ?_)
  exact ⟨.inr Y,_,⟨bx,rw⟩,aR Y (aO [_] Y Y isAgg138 sizeOf138 (bK Y Y)),aA (.cons _ zc) (.refl _),⟨(.mk k nm ⟨eo,en,em,ea⟩ ⟨rn,ri⟩ ar th el),Y,Gd,(.inl ⟨Y,Y⟩),FN⟩,Y⟩
 refine wcp false Y (eD h41) (go 6 ?_)
 by_cases h56:((j2:Nat):Int)=7
 ·refine wcp true Y (eR h56) (go 13 ?_)
  refine aE1 8 Y ?_
  refine go 8 ?_
  refine eA 108 Y (Wk.agg (.r (.r (.r (.r (.r (.r (.r (.r (.r (.r (.r .nil))))))))))):Wk _ (.agg (dG (.mk k nm ⟨2,0,y1,[]⟩ ⟨rn,ri⟩ ar th el)))) (go 4 ?_)
  exact ⟨.inr Y,_,⟨bx,rw⟩,aR Y (aO [_] Y Y isAgg138 sizeOf138 (bK Y Y)),aA (.cons _ zc) (.refl _),⟨(.mk k nm ⟨2,0,y1,[]⟩ ⟨rn,ri⟩ ar th el),Y,(by rw [aJ.sane];exact ⟨hsn,(bTh hy1),⟨hsr.1,hsr.2⟩,hsa,hst,hsf⟩),(.inl ⟨Y,Y⟩),FN⟩,Y⟩
 refine wcp false Y (eD h56) (go 6 ?_)
 by_cases h59:((j2:Nat):Int)=8
 ·refine wcp true Y (eR h59) (go 6 ?_)
  obtain ⟨j61,hj61,hlj61⟩:=bEj (x) (11) J
  refine wc0 Y call17 Y (bEl (x) (11) j61 J J hj61 _) ?_
  rintro _ _ ⟨rfl,rfl⟩
  refine go 7 ?_
  refine aE1 8 Y ?_
  refine go 8 ?_
  refine eA 108 Y (Wk.agg (.r (.r (.r (.r (.r (.r (.r (.r (.r (.r (.r .nil))))))))))):Wk _ (.agg (dG (.mk ((j61:Nat):Int) nm ⟨eo,en,em,ea⟩ ⟨rn,ri⟩ ar th el)))) (go 4 ?_)
  exact ⟨.inr Y,_,⟨bx,rw⟩,aR Y (aO [_] Y Y isAgg138 sizeOf138 (bK Y Y)),aA (.cons _ zc) (.refl _),⟨(.mk ((j61:Nat):Int) nm ⟨eo,en,em,ea⟩ ⟨rn,ri⟩ ar th el),Y,Gd,(.inl ⟨Y,Y⟩),FN⟩,Y⟩
 refine wcp false Y (eD h59) (go 4 ?_)
 refine dx [b3,b2] (tz [(0,true)] 5 (go 2 ?_))
 refine tx 1 Y (bTi Y Y Y) (tz [(3,true)] 3 (go 2 ?_))
 refine ox 2 Y Y (bV call31 (bSo (x.fdiv 16) _) ?_)
 rintro _ _ ⟨⟨y63,rfl,hy63⟩,rfl⟩
 refine tz [(4,true),(5,false)] 0 (go 3 ?_)
 refine ax (go 4 ?_)
 refine aE1 8 Y ?_
 refine go 8 ?_
 refine eA 108 Y (Wk.agg (.r (.r (.r (.r (.r (.r (.r (.n (.r (.n (.n .nil))))))))))):Wk _ (.agg (dG (.mk 1 y63 ⟨2,0,y1,[]⟩ ⟨aK,[]⟩ ar [] [])))) (go 4 ?_)
 exact ⟨.inr Y,_,⟨bx,rw⟩,aR Y (aO [_] Y Y isAgg138 sizeOf138 (bK Y Y)),aA (.cons _ zc) (.refl _),⟨(.mk 1 y63 ⟨2,0,y1,[]⟩ ⟨aK,[]⟩ ar [] []),Y,(by rw [aJ.sane];exact ⟨(by have:=hy63;omega),(bTh hy1),⟨V,trivial⟩,hsa,trivial,trivial⟩),(.inr ⟨Y,Y⟩),FN⟩,Y⟩
def bS3(s:aJ):Nat:=1+s.expr.nodes+s.ref.wt+wtA s.args
theorem bTm(s:aJ):s.wt=bS3 s+wtS s.thn+wtS s.els:=by rw [gD];unfold bS3;omega
structure QOk (s q:aJ):Prop where
 sane:q.sane
 base:bS3 q <= 22*bS3 s
 thn:wtS q.thn <= wtS s.thn
 els:wtS q.els <= wtS s.els
theorem QOk.self{s:aJ}(h:s.sane):QOk s s:=⟨h,J,Nat.le_refl _,Nat.le_refl _⟩
theorem bUr(s:aJ)(how x:Int)(hs:s.sane)(hw:s.wt <= 9000000)(σ:Sto):aL prog 60 [.agg (dG s),Ci how,Ci x] [] σ λt s'=>(∃q:aJ,t=.agg (dG q) /\ QOk s q) /\ s'=σ:=by
 obtain ⟨k,nm,⟨eo,en,em,ea⟩,⟨rn,ri⟩,ar,th,el⟩:=s
 obtain ⟨bx,rw⟩:=σ
 have h:=bUb k nm eo en em ea rn ri ar th el how x hs (by rw [gD] at hw;simp only [aJ.args] at hw;omega) bx rw
 intro vs w hm hT hl hr
 refine (h vs w hm hT hl hr).mono ?_
 rintro en w' ⟨r,v,s',h1,⟨⟨q,rfl,q1,q2,q3⟩,rfl⟩,h4⟩
 refine ⟨_,v,_,h1,⟨⟨q,Y,q1,?_,?_,?_⟩,Y⟩,h4⟩
 ·unfold bS3;simp only [aJ.expr,aJ.ref,aJ.args,cY.wt,aH.nodes] at q3⊢;omega
 ·rcases q2 with ⟨e1,e2⟩|⟨e1,e2⟩
  ·rw [e1];exact Nat.le_refl _
  rw [e1,wtS];omega
 rcases q2 with ⟨e1,e2⟩|⟨e1,e2⟩
 ·rw [e2];exact Nat.le_refl _
 rw [e2,wtS];omega
structure bU1 (l:List aJ) (n:Int) (l':List aJ) (n':Int):Prop where
 sane:gC l'
 wt:wtS l' <= 22*wtS l
 lo:n-22*(wtS l:Int) <= n'
 hi:n' <= n
def bSr(q:aJ)(t:List aJ):aJ:=.mk q.kind q.name q.expr q.ref q.args t q.els
def bSx(q:aJ)(t:List aJ):aJ:=.mk q.kind q.name q.expr q.ref q.args q.thn t
theorem bTw(a b:List aJ):wtS (a++b)=wtS a+wtS b:=by
 induction a with
 |nil=>rw [List.nil_append,wtS];omega
 |cons x a ih=>rw [List.cons_append,wtS,wtS,ih];omega
theorem bUi(l:List aJ)(k:Nat)(h:k<l.length):wtS (l.take (k+1))=wtS (l.take k)+l[k].wt:=by
 rw [List.take_succ_eq_append_getElem h,bTw,wtS,wtS];omega
theorem bUs(l:List aJ)(k:Nat):wtS (l.take k) <= wtS l:=by
 have h:=bTw (l.take k) (l.drop k)
 rw [List.take_append_drop] at h;omega
theorem bT7{a b:List aJ}(ha:gC a)(hb:gC b):gC (a++b):=by
 induction a with
 |nil=>exact hb
 |cons x a ih=>rw [List.cons_append,gC];rw [gC] at ha;exact ⟨ha.1,ih ha.2⟩
theorem bUc{q:aJ}{t1 t2:List aJ}(h:q.sane)(h1:gC t1)(h2:gC t2):(bSx (bSr q t1) t2).sane:=by
 obtain ⟨a,b,c,d,-,-⟩:=yW h
 unfold bSx bSr;rw [aJ.sane];exact ⟨a,b,c,d,h1,h2⟩
section
variable {pr r:List aJ}{q:aJ}{k:Nat}
theorem bS5(hk:pr.length=k):(pr++q::r).flatMap encS=pr.flatMap encS++(dG q++r.flatMap encS) /\ (pr.flatMap encS).length=k*11:=by
 refine ⟨by rw [List.flatMap_append,List.flatMap_cons,cJ],?_⟩
 rw [aFz encS 11 mE,hk]
theorem bU0(hk:pr.length=k):pk true 11 ((pr++q::r).flatMap encS) (0+k*11)=some (.agg (dG q)):=by
 obtain ⟨h1,h2⟩:=bS5 (q:=q) (r:=r) hk
 unfold pk
 rw [if_pos rfl,h1,Nat.zero_add,List.drop_left' h2,List.take_left' Fs,if_pos (by rw [length_append,length_append,h2];show _ <= _+(11+_);omega)]
theorem bT9(hk:pr.length=k)(i:Nat)(x:AC)(hx:(dG q)[i]?=some x):pk false 1 ((pr++q::r).flatMap encS) (0+k*11+i)=some (.c x):=by
 obtain ⟨h1,h2⟩:=bS5 (q:=q) (r:=r) hk
 have hi:i<(dG q).length:=(List.getElem?_eq_some_iff.1 hx).1
 unfold pk
 rw [if_neg V,h1,Nat.zero_add,List.getElem?_append_right J,h2,Nat.add_sub_cancel_left,List.getElem?_append_left hi,hx];rfl
theorem bUx(hk:pr.length=k)(q':aJ):splice ((pr++q::r).flatMap encS) (0+k*11) (dG q')=(pr++q'::r).flatMap encS:=by
 rw [Nat.zero_add,←cJ,bSu encS 11 mE _ k DR]
 congr 1
 subst hk;simp
theorem bTx(hk:pr.length=k)(i:Nat)(x:AC)(q':aJ)(hi:i<11)(hx:(dG q).set i x=dG q'):splice ((pr++q::r).flatMap encS) (0+k*11+i) [x]=(pr++q'::r).flatMap encS:=by
 obtain ⟨h1,h2⟩:=bS5 (q:=q) (r:=r) hk
 obtain ⟨h3,h4⟩:=bS5 (q:=q') (r:=r) hk
 have h11:(dG q).length=11:=Y
 rw [h1,h3,←hx]
 unfold splice
 rw [Nat.zero_add,←h2,List.take_append,take_of_length_le J,Nat.add_sub_cancel_left,List.take_append_of_le_length J]
 simp only [append_assoc]
 rw [List.drop_append,List.drop_of_length_le DR,List.nil_append,show (pr.flatMap encS).length+i+[x].length-(pr.flatMap encS).length=i+1 by simp;omega,List.drop_append_of_le_length J,List.set_eq_take_append_cons_drop,if_pos J]
 simp
theorem bTk(hk:pr.length=k)(i z:Nat)(h:i+z <= 11):0+k*11+i+z <= ((pr++q::r).flatMap encS).length:=by
 rw [aFz encS 11 mE,length_append,length_cons,hk,Nat.add_mul,Nat.add_mul];omega
end
theorem bT6(N:Nat)(l:List aJ)(n how x:Int)(hN:N+1 <= 9000000)(hl:wtS l <= N+1)(hl2:l.length <= 9000000)(hs:gC l)(hn1:-1000000000000000+22*(wtS l:Int) <= n)(hn2:n <= 1000000000000000)(ih:0<l.length -> ∀(l:List aJ)(n:Int),wtS l <= N -> gC l -> -1000000000000000+22*(wtS l:Int) <= n -> n <= 1000000000000000 -> ∀s:Sto,aL prog 32 [.c (Sq encS l),Ci n,Ci how,Ci x] [] s λt s'=>(∃l' n',t=.tup [.c (Sq encS l'),Ci n'] /\ bU1 l n l' n') /\ s'=s)(bx:List Box)(rw:List bA):aL prog 32 [.c (Sq encS l),Ci n,Ci how,Ci x] [] ⟨bx,rw⟩ λt s'=>(∃l' n',t=.tup [.c (Sq encS l'),Ci n'] /\ bU1 l n l' n') /\ s'=⟨bx,rw⟩:=by
 refine acX 69 func32 ?_
 refine go 8 ?_
 refine wo Y (aTr underlying60 sizeOf138 λg1=>?_)
 refine go 1 ?_
 refine wo Y (jU [] Tryz.t138 192 Y Y V Y Y underlying60 B6 Y Y Y Y V (aFz encS 11 mE l) B1 J (Nat.zero_add l.length) FP Gc (List.nil_append _) λw2=>?_)
 refine go 10 ?_
 refine fM (λg:Nat×List aJ×Int×Value=>(⟨69,aY g.2.2.2,⟨bx,⟨g.2.2.2,138,11,l.length,(g.2.1++l.drop g.1).flatMap encS⟩::rw⟩,[(11,nI g.1),(10,Cv g.2.2.2),(1,Ci g.2.2.1),(0,.c (Sq encS l)),(2,Ci how),(3,Ci x)]⟩:AS)) (λg=>g.1 <= l.length /\ g.2.1.length=g.1 /\ gC g.2.1 /\ wtS g.2.1 <= 22*wtS (l.take g.1) /\ n-22*(wtS (l.take g.1):Int) <= g.2.2.1 /\ g.2.2.1 <= n) (λg=>l.length-g.1) (0,[],n,w2) (cQf (λb hb=>List.mem_append_left _ hb)) ⟨J,Y,trivial,by simp [wtS],by simp [wtS],Int.le_refl _⟩ ?_
 rintro ⟨k,pr,m,v⟩ ⟨hk,hpl,hps,hpw,hm1,hm2⟩
 dsimp only at hk hpl hps hpw hm1 hm2
 try dsimp only
 refine go 5 ?_
 refine wyz Y (kV [] Y Y Y runUnderlying60) ?_
 by_cases h1:((k:Nat):Int)<((l.length:Nat):Int)
 ·refine wcp true Y (jZ h1) (go 10 ?_)
  have hkl:k<l.length:=J
  refine aF1 [] J λgr cr hgr=>?_
  subst hgr
  rw [List.drop_eq_getElem_cons hkl]
  have hlk:=oS _ hs _ (getElem_mem hkl)
  have hwt:=uF l k hkl
  have hwt2:=bTm l[k]
  have hwm:=bUi l k hkl
  have hwm2:=bUs l (k+1)
  have hb0:1 <= bS3 l[k]:=by unfold bS3;omega
  refine go 1 ?_
  by_cases h3:m=0
  ·refine wcp true Y (eR h3) (go 8 ?_)
   refine wyz Y (dH (z:=11) k Y Y Y Y hkl runUnderlying60 sizeOf138) ?_
   refine wyz Y (rM [] isAgg138 sizeOf138 (bU0 hpl)) (go 2 ?_)
   refine wc0 Y call60 Y (bUr l[k] how x hlk J _) ?_
   rintro _ _ ⟨⟨q,rfl,hQ⟩,rfl⟩
   refine wyz Y (dH (z:=11) k Y Y Y Y hkl runUnderlying60 sizeOf138) ?_
   refine wo Y (aO0 (ho:=Y) (hx:=Y) (hy:=Y) (hc:=Y) (r:=(pr++q::l.drop (k+1)).flatMap encS) [] sizeOf138 (bTk hpl 0 11 V) (bUx hpl q) FW ?_)
   refine go 5 ?_
   refine wyz Y (qC) (go 9 ?_)
   refine wyz Y (dH (z:=11) k Y Y Y Y hkl runUnderlying60 sizeOf138) ?_
   refine wyz Y (id <|uX 9 (0+k*11+9) runUnderlying138 sizeOf60) ?_
   refine wyz Y (rM [] isAgg60 sizeOf60 (bT9 hpl 9 _ Y)) (go 3 ?_)
   refine wc0 Y call32 Y (ih J (aJ.thn q) (m-1) FX (yW hQ.sane).2.2.2.2.1 FX FX _) ?_
   rintro _ _ ⟨⟨t1,m1,rfl,hE1⟩,rfl⟩
   refine go 3 ?_
   refine wyz Y (dH (z:=11) k Y Y Y Y hkl runUnderlying60 sizeOf138) ?_
   refine wyz Y (id <|uX 9 (0+k*11+9) runUnderlying138 sizeOf60) ?_
   refine wo Y (aO0 (ho:=Y) (hx:=Y) (hy:=Y) (hc:=Y) (r:=(pr++(bSr q t1)::l.drop (k+1)).flatMap encS) [] sizeOf60 (bTk hpl 9 1 V) (bTx hpl 9 _ (bSr q t1) V Y) FW ?_)
   refine go 8 ?_
   refine wyz Y (dH (z:=11) k Y Y Y Y hkl runUnderlying60 sizeOf138) ?_
   refine wyz Y (id <|uX 10 (0+k*11+10) runUnderlying138 sizeOf60) ?_
   refine wyz Y (rM [] isAgg60 sizeOf60 (bT9 hpl 10 _ Y)) (go 3 ?_)
   refine wc0 Y call32 Y (ih J (aJ.els (bSr q t1)) m1 (by have:=hQ.thn;have:=hQ.els;have:=hE1.lo;have:=hE1.hi;show wtS q.els <= N;omega) (yW hQ.sane).2.2.2.2.2 (by have:=hQ.thn;have:=hQ.els;have:=hE1.lo;have:=hE1.hi;show -1000000000000000+22*(wtS q.els:Int) <= _;omega) Gq _) ?_
   rintro _ _ ⟨⟨t2,m2,rfl,hE2⟩,rfl⟩
   refine go 3 ?_
   refine wyz Y (dH (z:=11) k Y Y Y Y hkl runUnderlying60 sizeOf138) ?_
   refine wyz Y (id <|uX 10 (0+k*11+10) runUnderlying138 sizeOf60) ?_
   refine wo Y (aO0 (ho:=Y) (hx:=Y) (hy:=Y) (hc:=Y) (r:=(pr++(bSx (bSr q t1) t2)::l.drop (k+1)).flatMap encS) [] sizeOf60 (bTk hpl 10 1 V) (bTx hpl 10 _ (bSx (bSr q t1) t2) V Y) FW ?_)
   refine go 6 ?_
   refine wad Y (go 2 ?_)
   have hQw:=bTm (bSx (bSr q t1) t2)
   have hwk:=bUi l k hkl
   have hbl:=bTm l[k]
   rw [show pr++(bSx (bSr q t1) t2)::l.drop (k+1)=(pr++[(bSx (bSr q t1) t2)])++l.drop (k+1) by simp]
   have hb9:bS3 (bSx (bSr q t1) t2)=bS3 q:=Y
   have ht9:wtS (aJ.thn (bSx (bSr q t1) t2))=wtS t1:=Y
   have he9:wtS (aJ.els (bSx (bSr q t1) t2))=wtS t2:=Y
   have he8:wtS (aJ.els (bSr q t1))=wtS (aJ.els q):=Y
   have e1:=hE1.wt
   have e2:=hE2.wt
   have e3:=hQ.base
   have e4:=hQ.thn
   have e5:=hQ.els
   have e6:=hE1.lo
   have e7:=hE2.lo
   have e8:=hE1.hi
   have e9:=hE2.hi
   refine ⟨(k+1,pr++[(bSx (bSr q t1) t2)],m2,(.slice (some ⟨gr,0,none⟩) l.length cr)),⟨E7,by simp [hpl],bT7 hps ⟨bUc hQ.sane hE1.sane hE2.sane,trivial⟩,by dsimp only;rw [bTw,wtS,wtS];omega,E7,E7⟩,Gf,(sA Y)⟩
  refine wcp false Y (eD h3) (go 7 ?_)
  have hQ:QOk l[k] l[k]:=QOk.self hlk
  refine go 1 ?_
  refine wyz Y (qC) (go 9 ?_)
  refine wyz Y (dH (z:=11) k Y Y Y Y hkl runUnderlying60 sizeOf138) ?_
  refine wyz Y (id <|uX 9 (0+k*11+9) runUnderlying138 sizeOf60) ?_
  refine wyz Y (rM [] isAgg60 sizeOf60 (bT9 hpl 9 _ Y)) (go 3 ?_)
  refine wc0 Y call32 Y (ih J (aJ.thn l[k]) (m-1) FX (yW hQ.sane).2.2.2.2.1 FX FX _) ?_
  rintro _ _ ⟨⟨t1,m1,rfl,hE1⟩,rfl⟩
  refine go 3 ?_
  refine wyz Y (dH (z:=11) k Y Y Y Y hkl runUnderlying60 sizeOf138) ?_
  refine wyz Y (id <|uX 9 (0+k*11+9) runUnderlying138 sizeOf60) ?_
  refine wo Y (aO0 (ho:=Y) (hx:=Y) (hy:=Y) (hc:=Y) (r:=(pr++(bSr l[k] t1)::l.drop (k+1)).flatMap encS) [] sizeOf60 (bTk hpl 9 1 V) (bTx hpl 9 _ (bSr l[k] t1) V Y) FW ?_)
  refine go 8 ?_
  refine wyz Y (dH (z:=11) k Y Y Y Y hkl runUnderlying60 sizeOf138) ?_
  refine wyz Y (id <|uX 10 (0+k*11+10) runUnderlying138 sizeOf60) ?_
  refine wyz Y (rM [] isAgg60 sizeOf60 (bT9 hpl 10 _ Y)) (go 3 ?_)
  refine wc0 Y call32 Y (ih J (aJ.els (bSr l[k] t1)) m1 (by have:=hQ.thn;have:=hQ.els;have:=hE1.lo;have:=hE1.hi;show wtS l[k].els <= N;omega) (yW hQ.sane).2.2.2.2.2 (by have:=hQ.thn;have:=hQ.els;have:=hE1.lo;have:=hE1.hi;show -1000000000000000+22*(wtS l[k].els:Int) <= _;omega) Gq _) ?_
  rintro _ _ ⟨⟨t2,m2,rfl,hE2⟩,rfl⟩
  refine go 3 ?_
  refine wyz Y (dH (z:=11) k Y Y Y Y hkl runUnderlying60 sizeOf138) ?_
  refine wyz Y (id <|uX 10 (0+k*11+10) runUnderlying138 sizeOf60) ?_
  refine wo Y (aO0 (ho:=Y) (hx:=Y) (hy:=Y) (hc:=Y) (r:=(pr++(bSx (bSr l[k] t1) t2)::l.drop (k+1)).flatMap encS) [] sizeOf60 (bTk hpl 10 1 V) (bTx hpl 10 _ (bSx (bSr l[k] t1) t2) V Y) FW ?_)
  refine go 6 ?_
  refine wad Y (go 2 ?_)
  have hQw:=bTm (bSx (bSr l[k] t1) t2)
  have hwk:=bUi l k hkl
  have hbl:=bTm l[k]
  rw [show pr++(bSx (bSr l[k] t1) t2)::l.drop (k+1)=(pr++[(bSx (bSr l[k] t1) t2)])++l.drop (k+1) by simp]
  have hb9:bS3 (bSx (bSr l[k] t1) t2)=bS3 l[k]:=Y
  have ht9:wtS (aJ.thn (bSx (bSr l[k] t1) t2))=wtS t1:=Y
  have he9:wtS (aJ.els (bSx (bSr l[k] t1) t2))=wtS t2:=Y
  have he8:wtS (aJ.els (bSr l[k] t1))=wtS (aJ.els l[k]):=Y
  have e1:=hE1.wt
  have e2:=hE2.wt
  have e3:=hQ.base
  have e4:=hQ.thn
  have e5:=hQ.els
  have e6:=hE1.lo
  have e7:=hE2.lo
  have e8:=hE1.hi
  have e9:=hE2.hi
  refine ⟨(k+1,pr++[(bSx (bSr l[k] t1) t2)],m2,(.slice (some ⟨gr,0,none⟩) l.length cr)),⟨E7,by simp [hpl],bT7 hps ⟨bUc hQ.sane hE1.sane hE2.sane,trivial⟩,by dsimp only;rw [bTw,wtS,wtS];omega,E7,E7⟩,Gf,(sA Y)⟩
 refine wcp false Y (jQ h1) (go 10 ?_)
 obtain rfl:k=l.length:=J
 rw [List.drop_length,List.append_nil]
 refine aE1 10 Y ?_
 refine eA 10 Y (t:=.c (Sq encS pr)) (by unfold Sq;rw [hpl];exact λ_ _ h=>h) ?_
 rw [List.take_length] at hpw hm1
 refine go 7 ?_
 exact ⟨.inr Y,_,⟨bx,rw⟩,uM Y (aF Y) (aF Y),aA (.refl _) (.refl _),⟨pr,m,Y,hps,hpw,hm1,hm2⟩,Y⟩
end
section
open Go.RowKit
mutual
def aJ.cnt:aJ -> Nat|.mk _ _ _ _ _ t e=>1+bLh t+bLh e
def bLh:List aJ -> Nat
 |[]=>0
 |s::r=>s.cnt+bLh r
end
def bMl(l:List aJ):Nat:=(l.map λs=>bLh s.thn+bLh s.els).sum
theorem bQa(s:aJ):s.cnt=1+bLh s.thn+bLh s.els:=by cases s;rw [aJ.cnt];rfl
theorem bLo:∀l:List aJ,bLh l=l.length+bMl l
 |[]=>by rw [bLh];rfl
 |s::l=>by have:=bLo l;rw [bLh,bQa];unfold bMl at this⊢;simp only [List.map_cons,List.sum_cons,length_cons];omega
theorem bMr(l:List aJ)(k:Nat)(h:k<l.length):bMl (l.take (k+1))=bMl (l.take k)+(bLh l[k].thn+bLh l[k].els):=by
 unfold bMl;rw [List.take_succ_eq_append_getElem h,List.map_append,List.sum_append];simp
theorem bMe:∀(l:List aJ)(k:Nat),bMl (l.take k) <= bMl l
 |[],k=>G0
 |x::l,0=>by simp [bMl]
 |x::l,k+1=>by have:=bMe l k;unfold bMl at this⊢;simp only [List.take_succ_cons,List.map_cons,List.sum_cons];omega
mutual
theorem bR8:∀s:aJ,s.cnt <= s.wt
 |.mk k n e r a t el=>by
  have h1:=bNe t
  have h2:=bNe el
  rw [aJ.cnt,aJ.wt];omega
theorem bNe:∀l:List aJ,bLh l <= wtS l
 |[]=>by rw [bLh];omega
 |s::l=>by
  have h1:=bR8 s
  have h2:=bNe l
  rw [bLh,wtS];omega
end
theorem bNw(l:List aJ)(hl:bLh l <= 1000000000)(hst:∀k (h:k<l.length) (s:Sto),aL prog 29 [.c (Sq encS l[k].thn)] [] s (λt s'=>t=Ci ((bLh l[k].thn:Nat):Int) /\ s'=s) /\ aL prog 29 [.c (Sq encS l[k].els)] [] s (λt s'=>t=Ci ((bLh l[k].els:Nat):Int) /\ s'=s))(s:Sto):aL prog 29 [.c (Sq encS l)] [] s λt s'=>t=Ci ((bLh l:Nat):Int) /\ s'=s:=by
 obtain ⟨bx,rw⟩:=s
 have hkid:=bLo l
 refine acX 29 func29 ?_
 refine go 19 ?_
 refine oC (l.length) 4 (λk=>[(3,Ci ((l.length+bMl (l.take k):Nat):Int)),(0,.c (Sq encS l))]) (aG Y (.refl _) (aG Y (gQ (by simp [bMl])) (sA Y))) λk hk=>?_
 show AWp prog _ ⟨29,_,_,(4,nI k)::[(3,Ci ((l.length+bMl (l.take k):Nat):Int)),(0,.c (Sq encS l))]⟩ _
 refine go 6 ?_
 by_cases h1:((k:Nat):Int)<((l.length:Nat):Int)
 ·refine wcp true Y (jZ h1) (go 7 ?_)
  refine dx [] ?_
  have hkt:=bMr l k J
  have hkm:=bMe l (k+1)
  refine tz [(0,true),(1,true),(2,true)] 13 (go 4 ?_)
  refine tx 3 Y (bH encS dG l mE cJ k Y Y Y Y J V runUnderlying60 sizeOf138) (tz [(4,true),(5,true),(8,true),(9,true)] 8 (go 5 ?_))
  refine tx 10 Y (bH encS dG l mE cJ k Y Y Y Y J V runUnderlying60 sizeOf138) (tz [(11,true),(12,true)] 5 (go 3 ?_))
  refine ox 6 Y Y (bV (ho:=Y) (has:=Y) call29 ((hst k J _).1) ?_)
  rintro _ _ ⟨rfl,rfl⟩
  refine tx 7 Y (bB Y Y Y J J) ?_
  refine ox 13 Y Y (bV (ho:=Y) (has:=Y) call29 ((hst k J _).2) ?_)
  rintro _ _ ⟨rfl,rfl⟩
  refine tx 14 Y (bB Y Y Y J J) (tz [(15,true)] 0 (go 2 ?_))
  refine ax (go 4 ?_)
  refine wad Y (go 2 ?_)
  exact ⟨J,(aG Y (gQ J) (aG Y (gQ J) (sA Y)))⟩
 refine wcp false Y (jQ h1) (go 15 ?_)
 exact bHe (s':=⟨bx,rw⟩) Y sb0 ⟨aPy (by rw [bLo];have hkl:k=l.length:=J;subst hkl;rw [List.take_length]),Y⟩
theorem bPd:∀(N:Nat)(l:List aJ),bLh l <= N -> N <= 1000000000 -> ∀s:Sto,aL prog 29 [.c (Sq encS l)] [] s λt s'=>t=Ci ((bLh l:Nat):Int) /\ s'=s
 |0,l,h,hN,s=>bNw l J (λk hk=>absurd (bLo l) J) s
 |N+1,l,h,hN,s=>bNw l J (λk hk s=>by
   have h1:=bLo l
   have h2:=bMr l k hk
   have h3:=bMe l (k+1)
   exact ⟨bPd N _ J J s,bPd N _ J J s⟩) s
end
end Go.Proofs.YtbdfdjdgfanjaaaGreatDoor
